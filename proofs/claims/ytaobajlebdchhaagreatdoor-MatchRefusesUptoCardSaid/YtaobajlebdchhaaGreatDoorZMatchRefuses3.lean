/- What the law 'MatchRefuses' needs of walks and plain Lean, part 3: nothing is assumed beyond the texts that it imports. -/
import Derived.Deep.Draws
import Derived.DeepKeys4
import Derived.Ground.GgzProg
import Derived.Ground.SlgmProg
import Derived.Ground.SlsfProg
import Derived.KernelRfl
import Derived.Lib.Bytealg
import Derived.Shelf.SlGeneric
import Derived.Shelf.SlIter.Nil
import Derived.Shelf.SlIterI.Nil
import Derived.Shelf.SlSortCmp.NoneTotal
import Derived.Shelf.SortM.Plain
import Derived.Shelf.SortM.SortNone
import Derived.Sort.Grow
import Derived.Sort.KeysCollected
import Derived.Sort.Walk0
import Derived.Test.YtaobajlebdchhaaGreatDoorProg
import Derived.Test.YtaobajlebdchhaaGreatDoorZMatchRefuses1
import Derived.Test.YtaobajlebdchhaaGreatDoorZMatchRefuses2
set_option linter.unusedVariables false
set_option linter.unusedSimpArgs false
theorem ej:type_of% @Go.K.Rg.gC:=@Go.K.Rg.gC
namespace Go.K
open Go.Proofs
set_option maxRecDepth 10000
theorem Br {M:aL} {d:Dc} {v0:Value} (w0:World) (hM:Lt M w0) (hv:RT.dc.V M w0 d v0) (hl:∀f∈d.2,f.1.length<=900000/\f.2.length<=900000):
  Spec Tryz.prog 29 #[v0] w0 (λv w=>v= .int .i64 (nJ d)/\Step M w0 M w aD):=by
 have gX:=hM;refine a7 (args:=[_]) (fn:=Tryz.f29) Tryz.func29 G (n:=66) Tryz.ntmps29 ?_;have S:Step M w0 M w0 aD:=aW;refine T.aP ?_;refine ej (A:=RT.dc) G G hM hv G (λu0 w1 du s0 _=>?_);replace hM:=s0.lt hM;have:=S.size;replace S:=S.av s0;refine Rg.aZ G G (aK (T.aP ?_));refine ao (M:=M) (A:=RT.dc) (B:=(RT.fd).sl) aT G G sN QZ (F6) G G QZ U3 (by repeat (first|exact bN _ _|refine bg (bO U3) ?_)) (λyX kb=>?_);refine bD (M:=M) bA G G G G G U3 (by repeat (first|exact bN _ _|refine bg (bO U3) ?_)) (λxx kO=>?_);refine bz bA G kO G (eN G G G (ad ?_));refine bF G (λc1=>?_) (λc1=>?_)
 ·refine T.aP (Rg.aZ G G (aI ?_));exact aF rfl rfl ⟨by rw[nJ,if_pos q0],S.back⟩
 ·refine aR (T.aP (Rg.aZ G G (aK (T.aP (Rg.aZ G G (aX ?_))))));refine cY (σ:=Nat×Nat) (λq=>[(1,u0),(3,.int .i64 (q.2:Int)),(4,.int .i64 (q.1:Int))]) (λq w=>Lt M w/\Step M w0 M w aD/\cM RT.dc M w u0 d/\nJ d=AG (d.2.take q.1) (d.2.drop q.1) q.2/\q.1<=d.2.length/\q.2<=900001*q.1/\d.2.length<=8) (λq=>d.2.length-q.1) (0,0) a00 ?_ ?_
  ·exact⟨hM,S,du,by rw[nJ,if_neg q0];rfl,bp _,bu _,by omega⟩
  ·rintro⟨i,n⟩ w ⟨hM,S,du,GI,hi,hn,hd8⟩;dsimp only at GI hi hn ⊢;refine aK (T.aP (ab G G ?_));refine ao (M:=M) (A:=RT.dc) (B:=(RT.fd).sl) aT G G sN QZ (F6) G G QZ U3 (by repeat (first|exact bN _ _|refine bg (bO U3) ?_)) (λaaW II=>?_);refine bD (M:=M) bA G G G G G U3 (by repeat (first|exact bN _ _|refine bg (bO U3) ?_)) (λahP T2=>?_);refine bz bA G T2 G (cy G G G (ad ?_));refine bF G (λc5=>?_) (λc5=>?_)
   ·refine aR (aK (aX (T.aP ?_)));refine ao (M:=M) (A:=RT.dc) (B:=(RT.fd).sl) aT G G sN QZ (F6) G G QZ U3 (by repeat (first|exact bN _ _|refine bg (bO U3) ?_)) (λaaX IK=>?_);refine bD (M:=M) bA G G G G G U3 (by repeat (first|exact bN _ _|refine bg (bO U3) ?_)) (λahQ T3=>?_);refine ab G G ?_;refine cB bA jW G G G T3 bU q0 (λaaY x Eh anl=>?_);rw[ar]at Eh;refine ao (M:=M) (A:=RT.fd) (B:=RT.str) cE G G I9 QZ (DZ) G G QZ U3 (by repeat (first|exact bN _ _|refine bg (bO U3) ?_)) (λarh aaZ=>?_);refine bD az G G G G G aaZ bU (λari aa0=>?_);obtain rfl:=dS aa0;have kI:=IG (n:=n) Eh;have xm:=hl _ (au Eh);refine aQ G G E58 (sk x.1 q0 _) (λr7 w7 hc=>?_);obtain⟨rfl,rfl⟩:=hc;refine Rg.aZ rfl rfl (aK (T.aP (ab rfl rfl (ib rfl rfl (br (v':= .bool (decide (ez x.1=false))) (by cases ez x.1<;>rfl) (ad ?_))))));refine bF G (λc8=>?_) (λc8=>?_)
    ·refine T.aP (Rg.aZ G G (aI ?_));exact aF rfl rfl ⟨by rw[GI,kI,if_pos U3],S.back⟩
    ·refine aR (aK (T.aP (Rg.aZ G G (aX ?_))));refine cY (σ:=Nat) (λj=>[(1,u0),(3,.int .i64 (n:Int)),(4,.int .i64 (i:Int)),(6,.int .i64 (j:Int))]) (λj w=>Lt M w/\Step M w0 M w aD/\cM RT.dc M w u0 d/\j<=i/\∀k y,k<j->d.2[k]? =some y->y.1≠x.1) (λj=>i-j) 0 a38 ?_ ?_
     ·exact⟨hM,S,du,bp _,λk c h=>absurd h (eC k)⟩
     ·rintro j w ⟨hM,S,du,hj,jz⟩;refine aK (T.aP (ab G G (ab G G (cy G G G (ad ?_)))));refine bF G (λxq=>?_) (λxq=>?_)
      ·refine aR (aK (aX (aK ?_)));apply uJ mixed rfl rfl;intro Nk Wh;have iM:=Wh M;replace du:=du.le QZ iM.le;replace hM:=iM.lt hM;have:=S.size;replace S:=S.av iM;refine ao (M:=M) (A:=RT.dc) (B:=(RT.fd).sl) aT G G sN QZ (F6) G G QZ U3 (by repeat (first|exact bN _ _|refine bg (bO U3) ?_)) (λanm ahR=>?_);refine Rg.de ?_;refine bD (M:=M) bA G G G G G U3 (by repeat (first|exact bN _ _|refine bg (bO U3) ?_)) (λann Wi=>?_);refine Rg.de (ab G G (Rg.de ?_));refine cB bA jW G G G Wi bU q0 (λT4 y GK fZ=>?_);rw[ar]at GK;refine Rg.de ?_;refine ao (M:=M) (A:=RT.fd) (B:=RT.str) cE G G I9 QZ (DZ) G G QZ U3 (by repeat (first|exact bN _ _|refine bg (bO U3) ?_)) (λgg Wj=>?_);refine Rg.de ?_;refine bD az G G G G G Wj bU (λIL vG=>?_);obtain rfl:=dS vG;refine Rg.de ?_;refine ao (M:=M) (A:=RT.dc) (B:=(RT.fd).sl) aT G G sN QZ (F6) G G QZ U3 (by repeat (first|exact bN _ _|refine bg (bO U3) ?_)) (λT5 Nl=>?_);refine Rg.de ?_;refine bD (M:=M) bA G G G G G U3 (by repeat (first|exact bN _ _|refine bg (bO U3) ?_)) (λano Wk=>?_);refine Rg.de (ab G G (Rg.de ?_));refine cB bA jW G G G Wk bU q0 (λanp z Nn ahS=>?_);rw[ar]at Nn;refine Rg.de ?_;refine ao (M:=M) (A:=RT.fd) (B:=RT.str) cE G G I9 QZ (DZ) G G QZ U3 (by repeat (first|exact bN _ _|refine bg (bO U3) ?_)) (λahT RO=>?_)
       refine Rg.de ?_;refine bD az G G G G G RO bU (λahU RP=>?_);obtain rfl:=dS RP;refine Rg.de (Rg.sY (p:=y.1) (q:=z.1) G G G ?_);obtain rfl:x=z:=aJ (Eh.symm.trans Nn);refine Rg.de (fF ?_);refine bF G (λwM=>?_) (λwM=>?_)
       ·refine T.aP (Rg.aZ G G (aI ?_));have No:((d.2.take i).any λg=>decide (g.1=x.1))=true:=jk.2 ⟨y,au (i:=j) (by rw[dG,if_pos q0];exact GK),by simpa using U3⟩;exact aF rfl rfl ⟨by rw[GI,kI,if_neg U3,if_pos No],S.back⟩
       ·refine aR (aM (ab G G (bC G G G q0 (Rg.aZ G G ?_))));refine⟨G,j+1,a38,?_,?_⟩
        ·exact⟨hM,S,du,by omega,λk y' h hc=>by
          rcases cI k j with h2|h2
          ·exact jz k y' h2 hc
          ·obtain rfl:k=j:=by omega
           rw[GK]at hc;cases hc;assumption⟩
        ·omega
      ·refine cN (T.aP ?_);refine ao (M:=M) (A:=RT.dc) (B:=(RT.fd).sl) aT G G sN QZ (F6) G G QZ U3 (by repeat (first|exact bN _ _|refine bg (bO U3) ?_)) (λaa1 Np=>?_);refine bD (M:=M) bA G G G G G U3 (by repeat (first|exact bN _ _|refine bg (bO U3) ?_)) (λanq Wl=>?_);refine ab G G ?_;refine cB bA jW G G G Wl bU q0 (λanr z Nq ahV=>?_);rw[ar]at Nq;refine ao (M:=M) (A:=RT.fd) (B:=RT.str) cE G G I9 QZ (QO) G G QZ U3 (by repeat (first|exact bN _ _|refine bg (bO U3) ?_)) (λans Wm=>?_);refine bD az G G G G G Wm bU (λant Wn=>?_);obtain rfl:=dS Wn;obtain rfl:x=z:=aJ (Eh.symm.trans Nq);refine aQ G G E74 (GD _ hM xm.2) (λr15 GL hc=>?_);obtain⟨⟨u15,rfl,ahW⟩,oF⟩:=hc;replace du:=du.le QZ oF.le;replace hM:=oF.lt hM;have:=S.size;replace S:=S.av oF;refine ab G G (cD G G G (cD G G G (aG G G (Rg.aZ G G (aK (T.aP (ab G G (eV G G G (ad ?_)))))))));refine bF G (λF8=>?_) (λF8=>?_)
       ·refine T.aP (ab G G (Rg.aZ G G (aI ?_)))
        have No:((d.2.take i).any λg=>decide (g.1=x.1))=false:=fu.2 λh=>by
         obtain⟨y,hy,he⟩:=jk.1 h;obtain⟨k,hk⟩:=bK.1 hy;rw[dG]at hk
         split at hk
         ·exact jz k y q0 hk (by simpa using he)
         ·cases hk
        exact aF rfl rfl ⟨by rw[GI,kI,if_neg U3,if_neg (by rw[No];simp),if_pos F8];rfl,S.back⟩
       ·refine aR (aM (ab G G ?_));have htk:l7 0 (words x.2)=0:=Classical.not_not.1 F8;obtain⟨a,cap,rfl⟩:=ahW htk;have Nj:=lC x.2;refine ab G G (Rg.Cn Tryz.underlying154 G G (bC G G G q0 (Rg.aZ G G (aM (ab G G (bC G G G q0 (Rg.aZ G G ?_)))))))
        have No:((d.2.take i).any λg=>decide (g.1=x.1))=false:=fu.2 λh=>by
         obtain⟨y,hy,he⟩:=jk.1 h;obtain⟨k,hk⟩:=bK.1 hy;rw[dG]at hk
         split at hk
         ·exact jz k y q0 hk (by simpa using he)
         ·cases hk
        refine⟨G,(i+1,n+(words x.2).length),a00,?_,?_⟩
        ·exact⟨hM,S,du,by rw[GI,kI,if_neg U3,if_neg (by rw[No];simp),if_neg F8],by dsimp only;omega,by dsimp only;omega,hd8⟩
        ·dsimp only;omega
   ·refine cN (aK (T.aP (ab G G (eN G G G (ad ?_)))));refine bF G (λc19=>?_) (λc19=>?_)
    ·refine T.aP (Rg.aZ G G (aI ?_));exact aF rfl rfl ⟨by rw[GI,tI q0,if_pos q0],S.back⟩
    ·refine aR (T.aP (Rg.aZ G G (aI ?_)));exact aF rfl rfl ⟨by rw[GI,tI q0,if_neg q0],S.back⟩
def Ei:List (List UInt8):=[[116],[117],[118],[119]]
def fixF (i:Nat) (x:Fd):Fd:=(if ez x.1=true then x.1 else Ei.getD i [],x.2.take 40)
def nL (id:Int):Nat->List Fd->List Fd->List Fd
 |_,out,[]=>out
 |i,out,x::fs=>if i<4 then(if nJ (id,out++[fixF i x])=0 then nL id (i+1) (out++[fixF i x]) fs else nL id (i+1) out fs)else out
def o6 (d:Dc):Dc:=(d.1,nL d.1 0 [] d.2)
def sm (l:List Fd):Prop:=∀x∈l,x.1.length<=12/\x.2.length<=40
theorem Ej {s:List UInt8} (h:ez s=true):s.length<=12:=by
 simp only[ez,cr,decide_eq_true_eq]at h;omega
theorem yZ {i:Nat} (x:Fd) (hi:i<4):(fixF i x).1.length<=12/\(fixF i x).2.length<=40:=by
 refine⟨?_,by simp only[fixF,bJ];omega⟩;unfold fixF;dsimp only
 split
 ·exact Ej U3
 ·have h:i=0\/i=1\/i=2\/i=3:=by omega
  rcases h with rfl|rfl|rfl|rfl<;>decide
theorem sm.snoc {l:List Fd} {x:Fd} (h:sm l) (hx:x.1.length<=12/\x.2.length<=40):sm (l++[x]):=λy hy=>by
 rcases dw.1 hy with hy|hy
 ·exact h y hy
 ·rw[cW.1 hy];exact hx
theorem Nr {id:Int} {fs:List Fd} {i:Nat} {out:List Fd} {x:Fd} (h:fs[i]? =some x) (hi:i<4):nL id i out (fs.drop i)=if nJ (id,out++[fixF i x])=0 then nL id (i+1) (out++[fixF i x]) (fs.drop (i+1))else nL id (i+1) out (fs.drop (i+1)):=by
 have eQ:=(al.1 h).1;rw[eW eQ,(al.1 h).2];show(if i<4 then _ else _)=_;rw[if_pos hi]
theorem Bs {id:Int} {fs:List Fd} {i:Nat} {out:List Fd} (h:fs.length<=i\/4<=i):nL id i out (fs.drop i)=out:=by
 cases hd:fs.drop i with
 |nil=>rfl
 |cons x r=>
  show(if i<4 then _ else _)=_;rw[if_neg];rcases h with h|h
  ·rw[ja h]at hd;cases hd
  ·omega
theorem Ek (l:List UInt8):l.take (min (l.length:Int) 40).toNat=l.take 40:=by
 by_cases h:l.length<=40
 ·rw[bm q0,bm h]
 ·congr 1;omega
theorem Kc {M:aL} {d:Dc} {v0:Value} (w0:World) (hM:Lt M w0) (hv:RT.dc.V M w0 d v0):
  Spec Tryz.prog 47 #[v0] w0 (λv w=>RT.dc.V M w (o6 d) v/\Step M w0 M w aD):=by
 have gX:=hM
 have hdi: -9223372036854775808<=d.1/\d.1<=9223372036854775807:=by
  obtain⟨vs,⟨va,vb,_,⟨_,h1,h2⟩,_⟩,_⟩:=hv;exact⟨h1,h2⟩
 refine a7 (args:=[_]) (fn:=Tryz.f47) Tryz.func47 G (n:=67) Tryz.ntmps47 ?_;have S:Step M w0 M w0 aD:=aW;refine T.aP ?_;refine ej (A:=RT.dc) G G hM hv G (λu0 w1 du s0 _=>?_);replace hM:=s0.lt hM;have:=S.size;replace S:=S.av s0;refine eB M kU G (λjN vH Kd Ke eO iX=>?_);obtain⟨fM,ia⟩:∃M',M'=ins M jN:=⟨_,rfl⟩;rw[<-ia]at iX;have dX:fM jN:=by rw[ia];exact .inl G
 change vH.heap[jN]? =some (.cells #[.int .i64 0,.slice none 0 0] _ _)at eO;replace du:=du.le QZ iX.le;replace hM:=iX.lt hM;have:=S.size;replace S:=S.av iX;refine ad (T.aP ?_);refine ao (M:=fM) (A:=RT.dc) (B:=RT.int .i64) aT G G I3 QZ (Z9) G G QZ U3 (by repeat (first|exact bN _ _|refine bg (bO U3) ?_)) (λyX kb=>?_);refine bT (M:=fM) ak G G U3 (by repeat (first|exact bN _ _|refine bg (bO U3) ?_)) (λT6=>?_);refine dN (places:=[(0,1),(1,1)]) aT kU B72 rfl ⟨_,_,rfl,rfl,rfl⟩ (out:=[_,.slice none 0 0]) ⟨0,[_],rfl,rfl,by simp[Value.cells],rfl⟩ ?_;refine eB fM kU G (λxy J5 ahX ahY iY s1_3=>?_);obtain⟨mN,y4⟩:∃M',M'=ins fM xy:=⟨_,rfl⟩;rw[<-y4]at s1_3;have jO:mN xy:=by rw[y4];exact .inl G
 change J5.heap[xy]? =some (.cells #[.int .i64 0,.slice none 0 0] _ _)at iY;have:=ah eO;replace dX:=(s1_3.mem _ this).2 dX;replace eO:=s1_3.aE eO;replace du:=du.le QZ s1_3.le;replace hM:=s1_3.lt hM;have:=S.size;replace S:=S.av s1_3;refine dP (M:=mN) (vs:=[.int .i64 d.1,.slice none 0 0]) kU G G a15 rfl rfl iY jO (λw1b ahZ Wo=>?_);have:=ah eO;replace dX:=(Wo.mem _ this).2 dX;replace eO:=Wo.bW eO a07;have:=ah iY;replace jO:=(Wo.mem _ this).2 jO;replace du:=du.le QZ Wo.le;replace hM:=Wo.lt hM;have:=S.size;replace S:=S.trans Wo (λk hk h=>by have h:_=_:=h;subst h;first|(exfalso;omega)|(show _<=_;omega)|exact⟨by first|omega|assumption,(S.mem _ hk).1 ((Wo.mem _ (ah iY)).1 jO)⟩|exact .inl rfl|exact .inr rfl|exact .inr (.inl rfl)|exact .inr (.inr rfl)|exact .inr (.inr (.inl rfl))|exact rfl);have El:=ahZ;clear iY;have iY:=El;clear El;refine ad (T.aP ?_);refine Rg.LP (A:=RT.str) (hn:=by decide) (M:=mN) (xs:=Ei) aB I9 G QZ rfl ⟨_,_,_,rfl,rfl,rfl,lH.2 ⟨rfl,by decide⟩,_,_,_,rfl,rfl,rfl,lH.2 ⟨rfl,by decide⟩,_,_,_,rfl,rfl,rfl,lH.2 ⟨rfl,by decide⟩,_,_,_,rfl,rfl,rfl,lH.2 ⟨rfl,by decide⟩,rfl⟩ rfl hM (.inr ⟨rfl,rfl⟩) QZ (λu2 w2 dV s2=>?_);have:=ah eO;replace dX:=(s2.mem _ this).2 dX;replace eO:=s2.aE eO;have:=ah iY;replace jO:=(s2.mem _ this).2 jO;replace iY:=s2.aE iY;replace du:=du.le QZ s2.le;replace hM:=s2.lt hM;have:=S.size;replace S:=S.av s2;refine Rg.aZ G G (aK (T.aP (Rg.aZ G G (aX ?_))));refine cY (σ:=Nat×List Fd) (λq=>[(1,u0),(2,.pointer (some ⟨jN,0,none⟩)),(3,.pointer (some ⟨xy,0,none⟩)),(4,u2),(5,.int .i64 (q.1:Int))]) (λq w=>∃M' uo,Lt M' w/\Step M w0 M' w aD/\cM RT.dc M' w u0 d/\(RT.str.sl).V M' w Ei u2/\w.heap[jN]? =some (.cells #[.int .i64 0,.slice none 0 0] 72 (0,0))/\M' jN/\w.heap[xy]? =some (.cells #[.int .i64 d.1,uo] 72 (0,0))/\M' xy/\(RT.fd.sl).V M' w q.2 uo/\nL d.1 0 [] d.2=nL d.1 q.1 q.2 (d.2.drop q.1)/\q.1<=d.2.length/\q.1<=4/\sm q.2/\q.2.length<=q.1) (λq=>d.2.length-q.1) (0,[]) a05 ?_ ?_
 ·exact⟨_,.slice none 0 0,hM,S,du,dV,eO,dX,iY,jO,iQ,G,bp _,bp _,(λx hx=>by cases hx),bu _⟩
 ·rintro⟨i,out⟩ w ⟨M1,uo,hM,S,du,dV,g2,dO,g3,fk,ix,wL,hi,ah0,Ca,rr⟩;dsimp only at g3 ix wL hi ah0 Ca rr ⊢;refine aK (T.aP (ab G G ?_));refine ao (M:=M1) (A:=RT.dc) (B:=(RT.fd).sl) aT G G sN QZ (F6) G G QZ U3 (by repeat (first|exact bN _ _|refine bg (bO U3) ?_)) (λaaP T7=>?_);refine bD (M:=M1) bA G G G G G U3 (by repeat (first|exact bN _ _|refine bg (bO U3) ?_)) (λark aa3=>?_);refine bz bA G aa3 G (cy G G G (ab G G ?_));refine aO (g:=18) G (λWp=>?_) (λWp=>?_)
  ·refine ae G G (ab G G (ae G G (cy G G G (aU G G G (ad ?_)))));refine bF G (λc4=>?_) (λc4=>?_)
   ·refine aR (aK (aX (T.aP ?_)));refine ao (M:=M1) (A:=RT.dc) (B:=(RT.fd).sl) aT G G sN QZ (F6) G G QZ U3 (by repeat (first|exact bN _ _|refine bg (bO U3) ?_)) (λWq Em=>?_);refine bD (M:=M1) bA G G G G G U3 (by repeat (first|exact bN _ _|refine bg (bO U3) ?_)) (λWr y5=>?_);refine ab G G ?_;refine cB bA jW G G G y5 bU q0 (λu6 x Lu tF=>?_);rw[ar]at Lu;have hi4:i<4:=by omega
    have hga:=Nr (id:=d.1) (out:=out) Lu hi4;have T8:=yZ x hi4;refine bR (A:=RT.fd) cE G jW QZ G G G tF bU (λv6 pw=>?_);obtain rfl:=ki pw;have Nt:=Nc pw;refine eB M1 jW G (λWs aa4 arl arn ed sq=>?_);obtain⟨nM,Nu⟩:∃M',M'=ins M1 Ws:=⟨_,rfl⟩;rw[<-Nu]at sq;have dy:nM Ws:=by rw[Nu];exact .inl G
    change aa4.heap[Ws]? =some (.cells #[.string ⟨#[]⟩,.string ⟨#[]⟩] _ _)at ed;have:=ah g2;replace dO:=(sq.mem _ this).2 dO;replace g2:=sq.aE g2;have:=ah g3;replace fk:=(sq.mem _ this).2 fk;replace g3:=sq.aE g3;replace du:=du.le QZ sq.le;replace dV:=dV.le sq.le;replace ix:=ix.le sq.le;replace hM:=sq.lt hM;have:=S.size;replace S:=S.av sq;refine dP (M:=nM) (vs:=[.string ⟨x.1.toArray⟩,.string ⟨x.2.toArray⟩]) jW G G a15 rfl rfl ed dy (λw6b ah1 Nv=>?_);have:=ah g2;replace dO:=(Nv.mem _ this).2 dO;replace g2:=Nv.bW g2 a07;have:=ah g3;replace fk:=(Nv.mem _ this).2 fk;replace g3:=Nv.bW g3 a07;have:=ah ed;replace dy:=(Nv.mem _ this).2 dy;replace du:=du.le QZ Nv.le;replace dV:=dV.le Nv.le;replace ix:=ix.le Nv.le;replace hM:=Nv.lt hM;have:=S.size;replace S:=S.trans Nv (λk hk h=>by have h:_=_:=h;subst h;first|(exfalso;omega)|(show _<=_;omega)|exact⟨by first|omega|assumption,(S.mem _ hk).1 ((Nv.mem _ (ah ed)).1 dy)⟩|exact .inl rfl|exact .inr rfl|exact .inr (.inl rfl)|exact .inr (.inr rfl)|exact .inr (.inr (.inl rfl))|exact rfl);have qe:=ah1;clear ed;have ed:=qe;clear qe;refine ad (T.aP (aY (o':=0) cE G G I9 QZ G G (aN az G G G U3 G ?_)));refine aQ G G E58 (sk x.1 Nt.1 _) (λr7 w7 hc=>?_);obtain⟨rfl,rfl⟩:=hc;refine Rg.aZ rfl rfl (aK (T.aP (ab rfl rfl (ib rfl rfl (br (v':= .bool (decide (ez x.1=false))) (by cases ez x.1<;>rfl) (ad ?_))))));refine bF G (λc8=>?_) (λc8=>?_)
    ·refine aM (ab G G (ab G G ?_));refine cB aB I9 rfl rfl rfl dV bU (by have:Ei.length=4:=rfl;omega) (λu9 y T9 hu9=>?_);rw[ar]at T9;refine bD az G G G G G hu9 bU (λv9 Kf=>?_);obtain rfl:=dS Kf
     obtain rfl:y=(fixF i x).1:=by
      show y=if ez x.1=true then x.1 else Ei.getD i []
      rw[if_neg (by rw[c8];simp),b4,T9];rfl
     refine aY (o':=0) cE G G I9 QZ G G ?_;refine cn (M:=nM) I9 G G ed G (G) dy (λaaQ aa5 qd=>?_);change aaQ.heap[_]? =some (Obj.cells #[.string ⟨((fixF i x).1).toArray⟩,.string ⟨x.2.toArray⟩] _ _)at aa5;have:=ah g2;replace dO:=(qd.mem _ this).2 dO;replace g2:=qd.bW g2 a07;have:=ah g3;replace fk:=(qd.mem _ this).2 fk;replace g3:=qd.bW g3 a07;have:=ah ed;replace dy:=(qd.mem _ this).2 dy;replace du:=du.le QZ qd.le;replace dV:=dV.le qd.le;replace ix:=ix.le qd.le;replace hM:=qd.lt hM;have:=S.size;replace S:=S.trans qd (λk hk h=>by have h:_=_:=h;subst h;first|(exfalso;omega)|(show _<=_;omega)|exact⟨by first|omega|assumption,(S.mem _ hk).1 ((qd.mem _ (ah ed)).1 dy)⟩|exact .inl rfl|exact .inr rfl|exact .inr (.inl rfl)|exact .inr (.inr rfl)|exact .inr (.inr (.inl rfl))|exact rfl);have qe:=aa5;clear ed;have ed:=qe;clear qe;refine ad (T.aP (aY (o':=1) cE G G I9 QZ G G (aN az G G G U3 G (aY (o':=1) cE G G I9 QZ G G (aN az G G G U3 G (rF az G G (br (v':= .int .i64 (x.2.length:Int)) a81 (Rg.min2 G G G (Rg.TV az G G G q0 (br (v':= .string ⟨((fixF i x).2).toArray⟩) (by rw[Ek];rfl) ?_))))))))));refine aY (o':=1) cE G G I9 QZ G G ?_;refine cn (M:=nM) I9 G G ed G (G) dy (λIF Eo gx=>?_);change IF.heap[_]? =some (Obj.cells #[.string ⟨((fixF i x).1).toArray⟩,.string ⟨((fixF i x).2).toArray⟩] _ _)at Eo;have:=ah g2;replace dO:=(gx.mem _ this).2 dO;replace g2:=gx.bW g2 a07
     have:=ah g3;replace fk:=(gx.mem _ this).2 fk;replace g3:=gx.bW g3 a07;have:=ah ed;replace dy:=(gx.mem _ this).2 dy;replace du:=du.le QZ gx.le;replace dV:=dV.le gx.le;replace ix:=ix.le gx.le;replace hM:=gx.lt hM;have:=S.size;replace S:=S.trans gx (λk hk h=>by have h:_=_:=h;subst h;first|(exfalso;omega)|(show _<=_;omega)|exact⟨by first|omega|assumption,(S.mem _ hk).1 ((gx.mem _ (ah ed)).1 dy)⟩|exact .inl rfl|exact .inr rfl|exact .inr (.inl rfl)|exact .inr (.inr rfl)|exact .inr (.inr (.inl rfl))|exact rfl);have qe:=Eo;clear ed;have ed:=qe;clear qe;refine ad (T.aP ?_);refine ao (M:=nM) (A:=RT.dc) (B:=RT.int .i64) aT G G I3 QZ (Z9) G G QZ U3 (by repeat (first|exact bN _ _|refine bg (bO U3) ?_)) (λNw CD=>?_);refine bT (M:=nM) ak G G U3 (by repeat (first|exact bN _ _|refine bg (bO U3) ?_)) (λWt=>?_);refine dN (places:=[(0,1),(1,1)]) aT kU B72 rfl ⟨_,_,rfl,rfl,rfl⟩ (out:=[_,.slice none 0 0]) ⟨0,[_],rfl,rfl,by simp[Value.cells],rfl⟩ ?_;refine eB nM kU G (λy6 Ep aa6 aa7 dh fQ=>?_);obtain⟨su,tJ⟩:∃M',M'=ins nM y6:=⟨_,rfl⟩;rw[<-tJ]at fQ;have dg:su y6:=by rw[tJ];exact .inl G
     change Ep.heap[y6]? =some (.cells #[.int .i64 0,.slice none 0 0] _ _)at dh;have:=ah g2;replace dO:=(fQ.mem _ this).2 dO;replace g2:=fQ.aE g2;have:=ah g3;replace fk:=(fQ.mem _ this).2 fk;replace g3:=fQ.aE g3;have:=ah ed;replace dy:=(fQ.mem _ this).2 dy;replace ed:=fQ.aE ed;replace du:=du.le QZ fQ.le;replace dV:=dV.le fQ.le;replace ix:=ix.le fQ.le;replace hM:=fQ.lt hM;have:=S.size;replace S:=S.av fQ;refine dP (M:=su) (vs:=[.int .i64 d.1,.slice none 0 0]) kU G G a15 rfl rfl dh dg (λCE Nx kj=>?_);have:=ah g2;replace dO:=(kj.mem _ this).2 dO;replace g2:=kj.bW g2 a07;have:=ah g3;replace fk:=(kj.mem _ this).2 fk;replace g3:=kj.bW g3 a07;have:=ah ed;replace dy:=(kj.mem _ this).2 dy;replace ed:=kj.bW ed a07;have:=ah dh;replace dg:=(kj.mem _ this).2 dg;replace du:=du.le QZ kj.le;replace dV:=dV.le kj.le;replace ix:=ix.le kj.le;replace hM:=kj.lt hM;have:=S.size;replace S:=S.trans kj (λk hk h=>by have h:_=_:=h;subst h;first|(exfalso;omega)|(show _<=_;omega)|exact⟨by first|omega|assumption,(S.mem _ hk).1 ((kj.mem _ (ah dh)).1 dg)⟩|exact .inl rfl|exact .inr rfl|exact .inr (.inl rfl)|exact .inr (.inr rfl)|exact .inr (.inr (.inl rfl))|exact rfl);have jh:=Nx;clear dh;have dh:=jh;clear jh;refine ad (T.aP (aY (o':=1) aT G G sN QZ G G (aN bA G G G U3 G (aY (o':=1) aT G G sN QZ G G (aN bA G G G U3 G ?_)))));have dL:=Own.TX RT.fd 153 CE.heap.size hM
     have ah3:=ah ed;have Ny:w0.heap.size<=CE.heap.size:=S.size;refine dF (M:=su) (base:=CE.heap.size) bA jW rfl rfl rfl rfl dL ix bU a11 a11 (bu _) (λyU qc M8 si fj=>?_);have:=ah g2;replace dO:=(fj.mem _ this).2 dO;replace g2:=fj.bW g2 (λh=>by first|exact dL.eF g2 h|exact dL.fA g2 QZ h|(have:=(dL.base _ h).1;omega));have:=ah g3;replace fk:=(fj.mem _ this).2 fk;replace g3:=fj.bW g3 (λh=>by first|exact dL.eF g3 h|exact dL.fA g3 QZ h|(have:=(dL.base _ h).1;omega));have:=ah ed;replace dy:=(fj.mem _ this).2 dy;replace ed:=fj.bW ed (λh=>by first|exact dL.eF ed h|exact dL.fA ed QZ h|(have:=(dL.base _ h).1;omega));have:=ah dh;replace dg:=(fj.mem _ this).2 dg;replace dh:=fj.bW dh (λh=>by first|exact dL.eF dh h|exact dL.fA dh QZ h|(have:=(dL.base _ h).1;omega));replace du:=du.le QZ fj.le;replace dV:=dV.le fj.le;replace ix:=ix.le fj.le;replace hM:=fj.lt hM;have:=S.size;replace S:=S.dU fj dL Ny;replace dL:=si;refine aY (o':=1) aT G G sN QZ G G ?_;refine cn (M:=qc) sN rfl rfl dh rfl (ae2) dg (λNz Er gr=>?_);change Nz.heap[_]? =some (Obj.cells #[.int .i64 d.1,yU] _ _)at Er;have:=ah g2;replace dO:=(gr.mem _ this).2 dO;replace g2:=gr.bW g2 a07;have:=ah g3;replace fk:=(gr.mem _ this).2 fk;replace g3:=gr.bW g3 a07;have:=ah ed;replace dy:=(gr.mem _ this).2 dy;replace ed:=gr.bW ed a07;have:=ah dh;replace dg:=(gr.mem _ this).2 dg;replace du:=du.le QZ gr.le
     replace dV:=dV.le gr.le;replace ix:=ix.le gr.le;replace dL:=dL.step gr (λb hb hk=>by have hk:_=_:=hk;have:=(dL.base b hb);omega);replace hM:=gr.lt hM;have:=S.size;replace S:=S.trans gr (λk hk h=>by have h:_=_:=h;subst h;first|(exfalso;omega)|(show _<=_;omega)|exact⟨by first|omega|assumption,(S.mem _ hk).1 ((gr.mem _ (ah dh)).1 dg)⟩|exact .inl rfl|exact .inr rfl|exact .inr (.inl rfl)|exact .inr (.inr rfl)|exact .inr (.inr (.inl rfl))|exact rfl);have jh:=Er;clear dh;have dh:=jh;clear jh;refine ad (T.aP (aY (o':=1) aT G G sN QZ G G (aN bA G G G U3 G (eX (vs:=[.string ⟨((fixF i x).1).toArray⟩,.string ⟨((fixF i x).2).toArray⟩]) cE G jW G G G ed ?_))));refine fw (A:=RT.fd) (hn:=by decide) (M:=qc) bA jW QZ G G hM (show RT.fd.V _ _ (fixF i x) _ from fz (lH.2 ⟨G,dm T8.1 QZ⟩) (lH.2 ⟨G,dm T8.2 QZ⟩) G G G G) (.inl G) (λT4 aa8 fZ gu=>?_);have:=ah g2;replace dO:=(gu.mem _ this).2 dO;replace g2:=gu.aE g2;have:=ah g3;replace fk:=(gu.mem _ this).2 fk;replace g3:=gu.aE g3;have:=ah ed;replace dy:=(gu.mem _ this).2 dy;replace ed:=gu.aE ed;have:=ah dh;replace dg:=(gu.mem _ this).2 dg;replace dh:=gu.aE dh;replace du:=du.le QZ gu.le;replace dV:=dV.le gu.le;replace ix:=ix.le gu.le;replace dL:=dL.bQ gu;replace hM:=gu.lt hM;have:=S.size;replace S:=S.av gu;refine dF (M:=qc) (base:=CE.heap.size) bA jW rfl rfl rfl rfl dL fZ bU a11 a11 (by have:=fj.size;have:=gr.size;have:=gu.size;omega) (λgg l9 aa9 GM gP=>?_);have:=ah g2;replace dO:=(gP.mem _ this).2 dO
     replace g2:=gP.bW g2 (λh=>by first|exact dL.eF g2 h|exact dL.fA g2 QZ h|(have:=(dL.base _ h).1;omega));have:=ah g3;replace fk:=(gP.mem _ this).2 fk;replace g3:=gP.bW g3 (λh=>by first|exact dL.eF g3 h|exact dL.fA g3 QZ h|(have:=(dL.base _ h).1;omega));have:=ah ed;replace dy:=(gP.mem _ this).2 dy;replace ed:=gP.bW ed (λh=>by first|exact dL.eF ed h|exact dL.fA ed QZ h|(have:=(dL.base _ h).1;omega));have:=ah dh;replace dg:=(gP.mem _ this).2 dg;replace dh:=gP.bW dh (λh=>by first|exact dL.eF dh h|exact dL.fA dh QZ h|(have:=(dL.base _ h).1;omega));replace du:=du.le QZ gP.le;replace dV:=dV.le gP.le;replace ix:=ix.le gP.le;replace fZ:=fZ.le gP.le;replace hM:=gP.lt hM;have:=S.size;replace S:=S.dU gP dL Ny;replace dL:=GM;refine aY (o':=1) aT G G sN QZ G G ?_;refine cn (M:=l9) sN rfl rfl dh rfl (ae2) dg (λNA Es gv=>?_);change NA.heap[_]? =some (Obj.cells #[.int .i64 d.1,gg] _ _)at Es;have:=ah g2;replace dO:=(gv.mem _ this).2 dO;replace g2:=gv.bW g2 a07;have:=ah g3;replace fk:=(gv.mem _ this).2 fk;replace g3:=gv.bW g3 a07;have:=ah ed;replace dy:=(gv.mem _ this).2 dy;replace ed:=gv.bW ed a07;have:=ah dh;replace dg:=(gv.mem _ this).2 dg;replace du:=du.le QZ gv.le;replace dV:=dV.le gv.le;replace ix:=ix.le gv.le;replace fZ:=fZ.le gv.le;replace dL:=dL.step gv (λb hb hk=>by have hk:_=_:=hk;have:=(dL.base b hb);omega);replace hM:=gv.lt hM;have:=S.size;replace S:=S.trans gv (λk hk h=>by have h:_=_:=h;subst h;first|(exfalso;omega)|(show _<=_;omega)|exact⟨by first|omega|assumption,(S.mem _ hk).1 ((gv.mem _ (ah dh)).1 dg)⟩|exact .inl rfl|exact .inr rfl|exact .inr (.inl rfl)|exact .inr (.inr rfl)|exact .inr (.inr (.inl rfl))|exact rfl)
     have jh:=Es;clear dh;have dh:=jh;clear jh;refine ad (T.aP (eX (vs:=[.int .i64 d.1,gg]) aT G kU G G G dh ?_));have xJ:=dL.view (hn:=by decide) a11;replace dO:rm l9 gg _:=⟨dO,by first|exact dL.fA g2 QZ|(intro h;have:=(dL.base _ h).1;omega)⟩;replace fk:rm l9 gg _:=⟨fk,by first|exact dL.fA g3 QZ|(intro h;have:=(dL.base _ h).1;omega)⟩;replace dy:rm l9 gg _:=⟨dy,by first|exact dL.fA ed QZ|(intro h;have:=(dL.base _ h).1;omega)⟩;replace dg:rm l9 gg _:=⟨dg,by first|exact dL.fA dh QZ|(intro h;have:=(dL.base _ h).1;omega)⟩;replace du:=du.le QZ (td _ gg _);replace dV:=dV.le (td _ gg _);replace ix:=ix.le (td _ gg _);replace fZ:=fZ.le (td _ gg _);replace hM:Lt (rm l9 gg) _:=λb hb=>hM b hb.1
     replace S:=S.freeze (v:=gg) (λb hb=>by have:=(dL.base b hb).1;omega);clear dL;refine aQ G G E29 (Br (d:=(d.1,[]++out++[fixF i x])) _ hM (fz (gJ hdi) xJ G G G G) (λy hy=>by have:=(Ca.snoc T8) y (by simpa using hy);omega)) (λr14 NB hc=>?_);obtain⟨rfl,jv⟩:=hc;rw[iJ]at xJ;have:=ah g2;replace dO:=(jv.mem _ this).2 dO;replace g2:=jv.aE g2;have:=ah g3;replace fk:=(jv.mem _ this).2 fk;replace g3:=jv.aE g3;have:=ah ed;replace dy:=(jv.mem _ this).2 dy;replace ed:=jv.aE ed;have:=ah dh;replace dg:=(jv.mem _ this).2 dg;replace dh:=jv.aE dh;replace du:=du.le QZ jv.le;replace dV:=dV.le jv.le;replace ix:=ix.le jv.le;replace fZ:=fZ.le jv.le;replace xJ:=xJ.le jv.le;replace hM:=jv.lt hM;have:=S.size;replace S:=S.av jv;refine fi G G G (br (v':= .bool (decide (nJ (d.1,out++[fixF i x])=0))) (by rw[iJ]) (ad ?_));refine bF G (λKg=>?_) (λKg=>?_)
     ·refine aM (eX (vs:=[.int .i64 d.1,gg]) aT G kU G G G dh ?_);refine dP (M:=rm l9 gg) (vs:=[.int .i64 d.1,gg]) kU G G a15 rfl rfl g3 fk (λah4 NC jP=>?_);have:=ah g2;replace dO:=(jP.mem _ this).2 dO;replace g2:=jP.bW g2 a07;have:=ah g3;replace fk:=(jP.mem _ this).2 fk;have:=ah ed;replace dy:=(jP.mem _ this).2 dy;replace ed:=jP.bW ed a07;have:=ah dh;replace dg:=(jP.mem _ this).2 dg;replace dh:=jP.bW dh a07;replace du:=du.le QZ jP.le;replace dV:=dV.le jP.le;replace ix:=ix.le jP.le;replace fZ:=fZ.le jP.le;replace xJ:=xJ.le jP.le;replace hM:=jP.lt hM;have:=S.size;replace S:=S.trans jP (λk hk h=>by have h:_=_:=h;subst h;first|(exfalso;omega)|(show _<=_;omega)|exact⟨by first|omega|assumption,(S.mem _ hk).1 ((jP.mem _ (ah g3)).1 fk)⟩|exact .inl rfl|exact .inr rfl|exact .inr (.inl rfl)|exact .inr (.inr rfl)|exact .inr (.inr (.inl rfl))|exact rfl);have g3_:=NC;clear g3;have g3:=g3_;clear g3_;refine ad (aM (ab G G (bC G G G q0 (Rg.aZ G G ?_))));refine⟨G,(i+1,out++[fixF i x]),a05,?_,?_⟩
      ·exact⟨_,_,hM,S,du,dV,g2,dO,g3,fk,xJ,by rw[wL,hga,if_pos Kg],by dsimp only;omega,by dsimp only;omega,Ca.snoc T8,by simp;omega⟩
      ·dsimp only;omega
     ·refine aR (aM (ab G G (bC G G G q0 (Rg.aZ G G ?_))));refine⟨G,(i+1,out),a05,?_,?_⟩
      ·exact⟨_,_,hM,S,du,dV,g2,dO,g3,fk,ix,by rw[wL,hga,if_neg Kg],by dsimp only;omega,by dsimp only;omega,Ca,by dsimp only;omega⟩
      ·dsimp only;omega
    ·rw[show x.1=(fixF i x).1 from by show x.1=if ez x.1=true then x.1 else _;rw[if_pos (by cases hq:ez x.1 with|true=>rfl|false=>exact absurd hq c8)]]at ed;refine aR (T.aP (aY (o':=1) cE G G I9 QZ G G (aN az G G G U3 G (aY (o':=1) cE G G I9 QZ G G (aN az G G G U3 G (rF az G G (br (v':= .int .i64 (x.2.length:Int)) a81 (Rg.min2 G G G (Rg.TV az G G G q0 (br (v':= .string ⟨((fixF i x).2).toArray⟩) (by rw[Ek];rfl) ?_))))))))));refine aY (o':=1) cE G G I9 QZ G G ?_;refine cn (M:=nM) I9 G G ed G (G) dy (λIF Eo gx=>?_);change IF.heap[_]? =some (Obj.cells #[.string ⟨((fixF i x).1).toArray⟩,.string ⟨((fixF i x).2).toArray⟩] _ _)at Eo;have:=ah g2;replace dO:=(gx.mem _ this).2 dO;replace g2:=gx.bW g2 a07;have:=ah g3;replace fk:=(gx.mem _ this).2 fk;replace g3:=gx.bW g3 a07;have:=ah ed;replace dy:=(gx.mem _ this).2 dy;replace du:=du.le QZ gx.le;replace dV:=dV.le gx.le;replace ix:=ix.le gx.le;replace hM:=gx.lt hM;have:=S.size;replace S:=S.trans gx (λk hk h=>by have h:_=_:=h;subst h;first|(exfalso;omega)|(show _<=_;omega)|exact⟨by first|omega|assumption,(S.mem _ hk).1 ((gx.mem _ (ah ed)).1 dy)⟩|exact .inl rfl|exact .inr rfl|exact .inr (.inl rfl)|exact .inr (.inr rfl)|exact .inr (.inr (.inl rfl))|exact rfl);have qe:=Eo;clear ed;have ed:=qe;clear qe;refine ad (T.aP ?_);refine ao (M:=nM) (A:=RT.dc) (B:=RT.int .i64) aT G G I3 QZ (Z9) G G QZ U3 (by repeat (first|exact bN _ _|refine bg (bO U3) ?_)) (λNw CD=>?_)
     refine bT (M:=nM) ak G G U3 (by repeat (first|exact bN _ _|refine bg (bO U3) ?_)) (λWt=>?_);refine dN (places:=[(0,1),(1,1)]) aT kU B72 rfl ⟨_,_,rfl,rfl,rfl⟩ (out:=[_,.slice none 0 0]) ⟨0,[_],rfl,rfl,by simp[Value.cells],rfl⟩ ?_;refine eB nM kU G (λy6 Ep aa6 aa7 dh fQ=>?_);obtain⟨su,tJ⟩:∃M',M'=ins nM y6:=⟨_,rfl⟩;rw[<-tJ]at fQ;have dg:su y6:=by rw[tJ];exact .inl G
     change Ep.heap[y6]? =some (.cells #[.int .i64 0,.slice none 0 0] _ _)at dh;have:=ah g2;replace dO:=(fQ.mem _ this).2 dO;replace g2:=fQ.aE g2;have:=ah g3;replace fk:=(fQ.mem _ this).2 fk;replace g3:=fQ.aE g3;have:=ah ed;replace dy:=(fQ.mem _ this).2 dy;replace ed:=fQ.aE ed;replace du:=du.le QZ fQ.le;replace dV:=dV.le fQ.le;replace ix:=ix.le fQ.le;replace hM:=fQ.lt hM;have:=S.size;replace S:=S.av fQ;refine dP (M:=su) (vs:=[.int .i64 d.1,.slice none 0 0]) kU G G a15 rfl rfl dh dg (λCE Nx kj=>?_);have:=ah g2;replace dO:=(kj.mem _ this).2 dO;replace g2:=kj.bW g2 a07;have:=ah g3;replace fk:=(kj.mem _ this).2 fk;replace g3:=kj.bW g3 a07;have:=ah ed;replace dy:=(kj.mem _ this).2 dy;replace ed:=kj.bW ed a07;have:=ah dh;replace dg:=(kj.mem _ this).2 dg;replace du:=du.le QZ kj.le;replace dV:=dV.le kj.le;replace ix:=ix.le kj.le;replace hM:=kj.lt hM;have:=S.size;replace S:=S.trans kj (λk hk h=>by have h:_=_:=h;subst h;first|(exfalso;omega)|(show _<=_;omega)|exact⟨by first|omega|assumption,(S.mem _ hk).1 ((kj.mem _ (ah dh)).1 dg)⟩|exact .inl rfl|exact .inr rfl|exact .inr (.inl rfl)|exact .inr (.inr rfl)|exact .inr (.inr (.inl rfl))|exact rfl);have jh:=Nx;clear dh;have dh:=jh;clear jh;refine ad (T.aP (aY (o':=1) aT G G sN QZ G G (aN bA G G G U3 G (aY (o':=1) aT G G sN QZ G G (aN bA G G G U3 G ?_)))));have dL:=Own.TX RT.fd 153 CE.heap.size hM
     have ah3:=ah ed;have Ny:w0.heap.size<=CE.heap.size:=S.size;refine dF (M:=su) (base:=CE.heap.size) bA jW rfl rfl rfl rfl dL ix bU a11 a11 (bu _) (λyU qc M8 si fj=>?_);have:=ah g2;replace dO:=(fj.mem _ this).2 dO;replace g2:=fj.bW g2 (λh=>by first|exact dL.eF g2 h|exact dL.fA g2 QZ h|(have:=(dL.base _ h).1;omega));have:=ah g3;replace fk:=(fj.mem _ this).2 fk;replace g3:=fj.bW g3 (λh=>by first|exact dL.eF g3 h|exact dL.fA g3 QZ h|(have:=(dL.base _ h).1;omega));have:=ah ed;replace dy:=(fj.mem _ this).2 dy;replace ed:=fj.bW ed (λh=>by first|exact dL.eF ed h|exact dL.fA ed QZ h|(have:=(dL.base _ h).1;omega));have:=ah dh;replace dg:=(fj.mem _ this).2 dg;replace dh:=fj.bW dh (λh=>by first|exact dL.eF dh h|exact dL.fA dh QZ h|(have:=(dL.base _ h).1;omega));replace du:=du.le QZ fj.le;replace dV:=dV.le fj.le;replace ix:=ix.le fj.le;replace hM:=fj.lt hM;have:=S.size;replace S:=S.dU fj dL Ny;replace dL:=si;refine aY (o':=1) aT G G sN QZ G G ?_;refine cn (M:=qc) sN rfl rfl dh rfl (ae2) dg (λNz Er gr=>?_);change Nz.heap[_]? =some (Obj.cells #[.int .i64 d.1,yU] _ _)at Er;have:=ah g2;replace dO:=(gr.mem _ this).2 dO;replace g2:=gr.bW g2 a07;have:=ah g3;replace fk:=(gr.mem _ this).2 fk;replace g3:=gr.bW g3 a07;have:=ah ed;replace dy:=(gr.mem _ this).2 dy;replace ed:=gr.bW ed a07;have:=ah dh;replace dg:=(gr.mem _ this).2 dg;replace du:=du.le QZ gr.le
     replace dV:=dV.le gr.le;replace ix:=ix.le gr.le;replace dL:=dL.step gr (λb hb hk=>by have hk:_=_:=hk;have:=(dL.base b hb);omega);replace hM:=gr.lt hM;have:=S.size;replace S:=S.trans gr (λk hk h=>by have h:_=_:=h;subst h;first|(exfalso;omega)|(show _<=_;omega)|exact⟨by first|omega|assumption,(S.mem _ hk).1 ((gr.mem _ (ah dh)).1 dg)⟩|exact .inl rfl|exact .inr rfl|exact .inr (.inl rfl)|exact .inr (.inr rfl)|exact .inr (.inr (.inl rfl))|exact rfl);have jh:=Er;clear dh;have dh:=jh;clear jh;refine ad (T.aP (aY (o':=1) aT G G sN QZ G G (aN bA G G G U3 G (eX (vs:=[.string ⟨((fixF i x).1).toArray⟩,.string ⟨((fixF i x).2).toArray⟩]) cE G jW G G G ed ?_))));refine fw (A:=RT.fd) (hn:=by decide) (M:=qc) bA jW QZ G G hM (show RT.fd.V _ _ (fixF i x) _ from fz (lH.2 ⟨G,dm T8.1 QZ⟩) (lH.2 ⟨G,dm T8.2 QZ⟩) G G G G) (.inl G) (λT4 aa8 fZ gu=>?_);have:=ah g2;replace dO:=(gu.mem _ this).2 dO;replace g2:=gu.aE g2;have:=ah g3;replace fk:=(gu.mem _ this).2 fk;replace g3:=gu.aE g3;have:=ah ed;replace dy:=(gu.mem _ this).2 dy;replace ed:=gu.aE ed;have:=ah dh;replace dg:=(gu.mem _ this).2 dg;replace dh:=gu.aE dh;replace du:=du.le QZ gu.le;replace dV:=dV.le gu.le;replace ix:=ix.le gu.le;replace dL:=dL.bQ gu;replace hM:=gu.lt hM;have:=S.size;replace S:=S.av gu;refine dF (M:=qc) (base:=CE.heap.size) bA jW rfl rfl rfl rfl dL fZ bU a11 a11 (by have:=fj.size;have:=gr.size;have:=gu.size;omega) (λgg l9 aa9 GM gP=>?_);have:=ah g2;replace dO:=(gP.mem _ this).2 dO
     replace g2:=gP.bW g2 (λh=>by first|exact dL.eF g2 h|exact dL.fA g2 QZ h|(have:=(dL.base _ h).1;omega));have:=ah g3;replace fk:=(gP.mem _ this).2 fk;replace g3:=gP.bW g3 (λh=>by first|exact dL.eF g3 h|exact dL.fA g3 QZ h|(have:=(dL.base _ h).1;omega));have:=ah ed;replace dy:=(gP.mem _ this).2 dy;replace ed:=gP.bW ed (λh=>by first|exact dL.eF ed h|exact dL.fA ed QZ h|(have:=(dL.base _ h).1;omega));have:=ah dh;replace dg:=(gP.mem _ this).2 dg;replace dh:=gP.bW dh (λh=>by first|exact dL.eF dh h|exact dL.fA dh QZ h|(have:=(dL.base _ h).1;omega));replace du:=du.le QZ gP.le;replace dV:=dV.le gP.le;replace ix:=ix.le gP.le;replace fZ:=fZ.le gP.le;replace hM:=gP.lt hM;have:=S.size;replace S:=S.dU gP dL Ny;replace dL:=GM;refine aY (o':=1) aT G G sN QZ G G ?_;refine cn (M:=l9) sN rfl rfl dh rfl (ae2) dg (λNA Es gv=>?_);change NA.heap[_]? =some (Obj.cells #[.int .i64 d.1,gg] _ _)at Es;have:=ah g2;replace dO:=(gv.mem _ this).2 dO;replace g2:=gv.bW g2 a07;have:=ah g3;replace fk:=(gv.mem _ this).2 fk;replace g3:=gv.bW g3 a07;have:=ah ed;replace dy:=(gv.mem _ this).2 dy;replace ed:=gv.bW ed a07;have:=ah dh;replace dg:=(gv.mem _ this).2 dg;replace du:=du.le QZ gv.le;replace dV:=dV.le gv.le;replace ix:=ix.le gv.le;replace fZ:=fZ.le gv.le;replace dL:=dL.step gv (λb hb hk=>by have hk:_=_:=hk;have:=(dL.base b hb);omega);replace hM:=gv.lt hM;have:=S.size;replace S:=S.trans gv (λk hk h=>by have h:_=_:=h;subst h;first|(exfalso;omega)|(show _<=_;omega)|exact⟨by first|omega|assumption,(S.mem _ hk).1 ((gv.mem _ (ah dh)).1 dg)⟩|exact .inl rfl|exact .inr rfl|exact .inr (.inl rfl)|exact .inr (.inr rfl)|exact .inr (.inr (.inl rfl))|exact rfl)
     have jh:=Es;clear dh;have dh:=jh;clear jh;refine ad (T.aP (eX (vs:=[.int .i64 d.1,gg]) aT G kU G G G dh ?_));have xJ:=dL.view (hn:=by decide) a11;replace dO:rm l9 gg _:=⟨dO,by first|exact dL.fA g2 QZ|(intro h;have:=(dL.base _ h).1;omega)⟩;replace fk:rm l9 gg _:=⟨fk,by first|exact dL.fA g3 QZ|(intro h;have:=(dL.base _ h).1;omega)⟩;replace dy:rm l9 gg _:=⟨dy,by first|exact dL.fA ed QZ|(intro h;have:=(dL.base _ h).1;omega)⟩;replace dg:rm l9 gg _:=⟨dg,by first|exact dL.fA dh QZ|(intro h;have:=(dL.base _ h).1;omega)⟩;replace du:=du.le QZ (td _ gg _);replace dV:=dV.le (td _ gg _);replace ix:=ix.le (td _ gg _);replace fZ:=fZ.le (td _ gg _);replace hM:Lt (rm l9 gg) _:=λb hb=>hM b hb.1
     replace S:=S.freeze (v:=gg) (λb hb=>by have:=(dL.base b hb).1;omega);clear dL;refine aQ G G E29 (Br (d:=(d.1,[]++out++[fixF i x])) _ hM (fz (gJ hdi) xJ G G G G) (λy hy=>by have:=(Ca.snoc T8) y (by simpa using hy);omega)) (λr14 NB hc=>?_);obtain⟨rfl,jv⟩:=hc;rw[iJ]at xJ;have:=ah g2;replace dO:=(jv.mem _ this).2 dO;replace g2:=jv.aE g2;have:=ah g3;replace fk:=(jv.mem _ this).2 fk;replace g3:=jv.aE g3;have:=ah ed;replace dy:=(jv.mem _ this).2 dy;replace ed:=jv.aE ed;have:=ah dh;replace dg:=(jv.mem _ this).2 dg;replace dh:=jv.aE dh;replace du:=du.le QZ jv.le;replace dV:=dV.le jv.le;replace ix:=ix.le jv.le;replace fZ:=fZ.le jv.le;replace xJ:=xJ.le jv.le;replace hM:=jv.lt hM;have:=S.size;replace S:=S.av jv;refine fi G G G (br (v':= .bool (decide (nJ (d.1,out++[fixF i x])=0))) (by rw[iJ]) (ad ?_));refine bF G (λKg=>?_) (λKg=>?_)
     ·refine aM (eX (vs:=[.int .i64 d.1,gg]) aT G kU G G G dh ?_);refine dP (M:=rm l9 gg) (vs:=[.int .i64 d.1,gg]) kU G G a15 rfl rfl g3 fk (λah4 NC jP=>?_);have:=ah g2;replace dO:=(jP.mem _ this).2 dO;replace g2:=jP.bW g2 a07;have:=ah g3;replace fk:=(jP.mem _ this).2 fk;have:=ah ed;replace dy:=(jP.mem _ this).2 dy;replace ed:=jP.bW ed a07;have:=ah dh;replace dg:=(jP.mem _ this).2 dg;replace dh:=jP.bW dh a07;replace du:=du.le QZ jP.le;replace dV:=dV.le jP.le;replace ix:=ix.le jP.le;replace fZ:=fZ.le jP.le;replace xJ:=xJ.le jP.le;replace hM:=jP.lt hM;have:=S.size;replace S:=S.trans jP (λk hk h=>by have h:_=_:=h;subst h;first|(exfalso;omega)|(show _<=_;omega)|exact⟨by first|omega|assumption,(S.mem _ hk).1 ((jP.mem _ (ah g3)).1 fk)⟩|exact .inl rfl|exact .inr rfl|exact .inr (.inl rfl)|exact .inr (.inr rfl)|exact .inr (.inr (.inl rfl))|exact rfl);have g3_:=NC;clear g3;have g3:=g3_;clear g3_;refine ad (aM (ab G G (bC G G G q0 (Rg.aZ G G ?_))));refine⟨G,(i+1,out++[fixF i x]),a05,?_,?_⟩
      ·exact⟨_,_,hM,S,du,dV,g2,dO,g3,fk,xJ,by rw[wL,hga,if_pos Kg],by dsimp only;omega,by dsimp only;omega,Ca.snoc T8,by simp;omega⟩
      ·dsimp only;omega
     ·refine aR (aM (ab G G (bC G G G q0 (Rg.aZ G G ?_))));refine⟨G,(i+1,out),a05,?_,?_⟩
      ·exact⟨_,_,hM,S,du,dV,g2,dO,g3,fk,ix,by rw[wL,hga,if_neg Kg],by dsimp only;omega,by dsimp only;omega,Ca,by dsimp only;omega⟩
      ·dsimp only;omega
   ·refine cN (T.aP (eX (vs:=[.int .i64 d.1,uo]) aT G kU G G G g3 ?_));refine dP (M:=M1) (vs:=[.int .i64 d.1,uo]) kU G G a15 rfl rfl g2 dO (λah5 ND oG=>?_);have:=ah g2;replace dO:=(oG.mem _ this).2 dO;have:=ah g3;replace fk:=(oG.mem _ this).2 fk;replace g3:=oG.bW g3 a07;replace du:=du.le QZ oG.le;replace dV:=dV.le oG.le;replace ix:=ix.le oG.le;replace hM:=oG.lt hM;have:=S.size;replace S:=S.trans oG (λk hk h=>by have h:_=_:=h;subst h;first|(exfalso;omega)|(show _<=_;omega)|exact⟨by first|omega|assumption,(S.mem _ hk).1 ((oG.mem _ (ah g2)).1 dO)⟩|exact .inl rfl|exact .inr rfl|exact .inr (.inl rfl)|exact .inr (.inr rfl)|exact .inr (.inr (.inl rfl))|exact rfl);have NF:=ND;clear g2;have g2:=NF;clear NF;refine ad (aI ?_);have e:o6 d=(d.1,out):=by rw[o6,wL,Bs q0]
    rw[e];refine rX (vs:=[.int .i64 d.1,uo]) G G aT G kU G g2 ⟨fz (gJ hdi) (ix.le (nY gX S)) G G G G,S.back⟩
  ·refine aj G G G G (aj G G G G (aA G G G (ad (jJ G (cN (T.aP (eX (vs:=[.int .i64 d.1,uo]) aT G kU G G G g3 ?_)))))));refine dP (M:=M1) (vs:=[.int .i64 d.1,uo]) kU G G a15 rfl rfl g2 dO (λah5 ND oG=>?_);have:=ah g2;replace dO:=(oG.mem _ this).2 dO;have:=ah g3;replace fk:=(oG.mem _ this).2 fk;replace g3:=oG.bW g3 a07;replace du:=du.le QZ oG.le;replace dV:=dV.le oG.le;replace ix:=ix.le oG.le;replace hM:=oG.lt hM;have:=S.size;replace S:=S.trans oG (λk hk h=>by have h:_=_:=h;subst h;first|(exfalso;omega)|(show _<=_;omega)|exact⟨by first|omega|assumption,(S.mem _ hk).1 ((oG.mem _ (ah g2)).1 dO)⟩|exact .inl rfl|exact .inr rfl|exact .inr (.inl rfl)|exact .inr (.inr rfl)|exact .inr (.inr (.inl rfl))|exact rfl);have NF:=ND;clear g2;have g2:=NF;clear NF;refine ad (aI ?_);have e:o6 d=(d.1,out):=by rw[o6,wL,Bs q0]
   rw[e];refine rX (vs:=[.int .i64 d.1,uo]) G G aT G kU G g2 ⟨fz (gJ hdi) (ix.le (nY gX S)) G G G G,S.back⟩
def iU (l:List Dc) (from_ step:Int):Nat->List En
 |0=>[]
 |k+1=>iU l from_ step k++(match l[k]? with|some d=>[(o6 d,from_+step*(k:Int))]|none=>[])
theorem lD (l:List Dc) (a s:Int):∀k,(iU l a s k).length=min k l.length
 |0=>by simp[iU]
 |k+1=>by
  rw[iU,bM,lD l a s k]
  cases h:l[k]? with
  |none=>have:=List.getElem?_eq_none_iff.1 h;simp;omega
  |some d=>have:=(al.1 h).1;simp;omega
theorem y9 {l:List Dc} {a s:Int} {k:Nat} {d:Dc} (h:l[k]? =some d):iU l a s (k+1)=iU l a s k++[(o6 d,a+s*(k:Int))]:=by rw[iU,h]
theorem zc {l:List Dc} {a s:Int} {k:Nat} (h:l.length<=k):iU l a s (k+1)=iU l a s k:=by
 rw[iU,List.getElem?_eq_none_iff.2 h];simp
theorem Et {l:List Dc} {a s:Int} {n i:Nat} (h:l.length<=i\/n<=i) (h1:i<=n):iU l a s i=iU l a s n:=by
 induction n with
 |zero=>have:i=0:=by omega
        rw[this]
 |succ n ih=>
  rcases pN h1 with e|eQ
  ·rw[e]
  ·rcases h with h|h
   ·rw[zc q0];exact ih (.inl h) q0
   ·omega
theorem RQ {s k:Int} (h:0<=s/\s<=1000) (hk:0<=k/\k<=100):0<=s*k/\s*k<=100000:=
 ⟨Int.mul_nonneg h.1 hk.1,Int.le_trans (Int.mul_le_mul h.2 hk.2 hk.1 q0) q0⟩
theorem GN {M:aL} {l:List Dc} {v0:Value} {most:Nat} {a s:Int} (w0:World) (hM:Lt M w0) (hv:(RT.dc.sl).V M w0 l v0) (hm:most<=100) (ha:0<=a/\a<=1000000) (hs:0<=s/\s<=1000):
  Spec Tryz.prog 10 #[v0,.int .i64 (most:Int),.int .i64 a,.int .i64 s] w0 (λv w=>(RT.en.sl).V M w (iU l a s most) v/\Step M w0 M w aD):=by
 have gX:=hM;refine a7 (args:=[_,_,_,_]) (fn:=Tryz.f10) Tryz.func10 G (n:=37) Tryz.ntmps10 ?_;have S:Step M w0 M w0 aD:=aW;refine T.aP (Rg.aZ G G (T.aP (Rg.aZ G G (aK (T.aP (aG G G ?_))))));refine ad (aX ?_);refine cY (σ:=Nat×Value) (λq=>[(0,v0),(1,.int .i64 (most:Int)),(2,.int .i64 a),(3,.int .i64 s),(9,q.2),(10,.int .i64 (q.1:Int))]) (λq w=>∃M',Lt M' w/\Step M w0 M' w aD/\Own RT.en 74 M' w w0.heap.size q.2 (iU l a s q.1)/\(RT.dc.sl).V M' w l v0/\q.1<=most/\q.1<=l.length) (λq=>most-q.1) (0,.slice none 0 0) ae1 ?_ ?_
 ·exact⟨M,hM,S,eJ _ _ _ _ _,hv,bp _,bp _⟩
 ·rintro⟨i,u⟩ w ⟨M1,hM,S,ho,hv,hi,qM⟩;dsimp only at ho hi qM ⊢;refine aK (T.aP (ab G G (ab G G (bz Tryz.underlying22 G hv G (cy G G G (ab G G ?_))))));refine aO (g:=15) G (λKh=>?_) (λKh=>?_)
  ·refine ae G G (ab G G (ae G G (ab G G (ae G G (cy G G G (aU G G G (ad ?_)))))));refine bF G (λc3=>?_) (λc3=>?_)
   ·refine aR (aK (aX (aM (ab G G (ab G G (ab G G ?_))))));refine cB Tryz.underlying22 kU G G G hv bU q0 (λu5 d J2 lB=>?_);rw[ar]at J2;have hsi:=RQ (k:=(i:Int)) hs q0;refine bR (A:=RT.dc) aT G kU QZ G G G lB bU (λv5 pL=>?_);refine aQ G G E47 (Kc _ hM pL) (λr5 w5 hc=>?_);obtain⟨wL,s5⟩:=hc;replace hv:=hv.le s5.le;replace ho:=ho.bQ s5;replace hM:=s5.lt hM;have:=S.size;replace S:=S.av s5;refine ab G G (ab G G (ab G G (Rg.Vb G G G q0 (bC G G G q0 ?_))));obtain⟨uf,rfl⟩:=My wL;refine dN (places:=[(0,2),(2,1)]) dQ F7 B74 rfl ⟨_,_,rfl,rfl,_,_,rfl,rfl,rfl⟩ (out:=[_,_,_]) ⟨0,[_,_],rfl,rfl,by simp[Value.cells],2,[_],rfl,rfl,by simp[Value.cells],rfl⟩ ?_;refine fw (A:=RT.en) (hn:=by decide) (M:=M1) fB F7 QZ G G hM (show RT.en.V _ _ (o6 d,a+s*(i:Int)) _ from TW wL q0) (.inl G) (λanv anw GO Eu=>?_);replace hv:=hv.le Eu.le;replace wL:=wL.le Eu.le;replace ho:=ho.bQ Eu;replace hM:=Eu.lt hM;have:=S.size;replace S:=S.av Eu;refine dF (M:=M1) (base:=w0.heap.size) fB F7 G G G G ho GO bU (by have:=lD l a s i;simp;omega) (by have:=lD l a s i;simp;omega) (S.size) (λabb abc anx Wu Ev=>?_);replace hv:=hv.le Ev.le;replace wL:=wL.le Ev.le;replace GO:=GO.le Ev.le;replace hM:=Ev.lt hM;have:=S.size;replace S:=S.dU Ev ho (bu _);replace ho:=Wu;refine Rg.aZ G G (aM (ab G G (bC G G G q0 (Rg.aZ G G ?_))));refine⟨G,(i+1,abb),ae1,?_,?_⟩
    ·exact⟨abc,hM,S,by rw[y9 J2];exact ho,hv,by dsimp only;omega,by dsimp only;omega⟩
    ·dsimp only;omega
   ·refine cN (T.aP (ab G G (Rg.aZ G G (aI ?_))));rw[<-Et (i:=i) (n:=most) q0 hi];exact aF G G ⟨ho.close gX S (by have:=lD l a s i;omega),S.back⟩
  ·refine aj G G G G (aj G G G G (aj G G G G (aA G G G (ad (jJ G (cN (T.aP (ab G G (Rg.aZ G G ?_)))))))));refine aI ?_;rw[<-Et (i:=i) (n:=most) q0 hi];exact aF G G ⟨ho.close gX S (by have:=lD l a s i;omega),S.back⟩
end Go.K
namespace Go.K
open Go.Proofs
set_option maxRecDepth 10000
open Go.Maps (Keyed)
def kv (t:Fd):Value:= .agg #[.string ⟨t.1.toArray⟩,.string ⟨t.2.toArray⟩]
theorem vI {a b:Fd} (h:kv a=kv b):a=b:=by
 unfold kv at h;simp only[Value.agg.injEq,Array.mk.injEq,xS,Value.string.injEq,ByteArray.mk.injEq,and_true]at h;exact Prod.ext h.1 h.2
theorem NG:laidOutB Tryz.prog=true:=by kernel_rfl
theorem NH:Tryz.prog.types.size=419:=by kernel_rfl
theorem Bt:Keyed Tryz.prog 24:=Keyed.of_law (deep_law_laid NG (m:=2) (k:=24) q0 (by rw[NH];decide) ah2 ah2)
theorem abd:Tryz.prog.keyType 24=true:=by kernel_rfl
theorem IM:Tryz.prog.cellsOf 24=2:=by kernel_rfl
theorem RR:Tryz.prog.cellsOf 9=1:=by kernel_rfl
theorem NI (t:Fd) (h1:t.1.length<=140737488355328) (h2:t.2.length<=140737488355328):∃l,keyOf Tryz.prog 24 (kv t)=some l:=by
 have e1:(⟨t.1.toArray⟩:ByteArray).size=t.1.length:=by simp[ByteArray.size]
 have e2:(⟨t.2.toArray⟩:ByteArray).size=t.2.length:=by simp[ByteArray.size]
 have hs:∀(s:ByteArray),s.size<=maxLen->Tryz.prog.keyLits 419 9 [.string s]=some [.string s.data.toList]:=λs hs=>by
  show(match Tryz.prog.underlying 9,[Value.string s]with|_,_=>_)=_;rw[az];exact if_pos hs
 unfold keyOf kv;rw[bI];simp only[abd,Value.formed,bI,IM,NH]
 have key:∃ls,Tryz.prog.keyLits (419+1) 24 [.string ⟨t.1.toArray⟩,.string ⟨t.2.toArray⟩]=some ls:=by
  unfold Program.keyLits;simp only[bI];rw[if_pos ⟨by rw[IM];rfl,by kernel_rfl⟩];simp only[List.mapM_cons,List.mapM_nil,RR];have g1:=hs ⟨t.1.toArray⟩ (by rw[e1];unfold maxLen;omega);have g2:=hs ⟨t.2.toArray⟩ (by rw[e2];unfold maxLen;omega);refine ⟨[.string (⟨t.1.toArray⟩:ByteArray).data.toList,.string (⟨t.2.toArray⟩:ByteArray).data.toList],?_⟩;simp only[List.drop_zero,List.drop_succ_cons,List.take_succ_cons,List.take_zero,g1,g2];rfl
 obtain⟨ls,hls⟩:=key;exact⟨.string (keyBytes ls),by rw[if_pos (by simp)];show Option.map _ (Tryz.prog.keyLits (419+1) 24 [.string ⟨t.1.toArray⟩,.string ⟨t.2.toArray⟩])=_;rw[hls];rfl⟩
end Go.K
namespace Go.K
open Go.Proofs
set_option maxRecDepth 10000
def gy (x:Fd):List (Fd×Nat):=(words x.2).zipIdx.map λp=>((x.1,p.1),p.2)
def cF (l:List Fd):List (Fd×Nat):=l.flatMap gy
theorem nN (x:Fd):(gy x).length=(words x.2).length:=by simp[gy]
theorem NJ {x:Fd} {k:Nat} {y:List UInt8} (h:(words x.2)[k]? =some y):(gy x)[k]? =some ((x.1,y),k):=by
 simp[gy,List.getElem?_zipIdx,h]
theorem sw {fs:List Fd} {i:Nat} {x:Fd} (h:fs[i]? =some x):cF (fs.take (i+1))=cF (fs.take i)++gy x:=by
 rw[b7,h];simp[cF]
structure Wv (P:Program) (g:FuncId) (cap:List Value) (B:Nat) (J:List (Fd×Nat)->aL->World->Prop):Prop where
 enters:Enters P g
 step:∀ts M w M' w',J ts M w->Step M w M' w' aD->J ts M' w'
 tell:∀ts M w (t:Fd) (i:Nat),J ts M w->Lt M w->t.1.length<=900000->t.2.length<=140737488355328->i<=1000000->ts.length<=10000000->Spec P g ([kv t,.int .i64 (i:Int)]++cap).toArray w (λ_ w'=>∃M',Lt M' w'∧J (ts++[(t,i)]) M' w'∧Step M w M' w' (lg M B))
theorem Bu {M:aL} {d:Dc} {v0:Value} {g:FuncId} {cap:List Value} {B:Nat} {J:List (Fd×Nat)->aL->World->Prop} (w0:World) (hM:Lt M w0) (hv:RT.dc.V M w0 d v0) (hl:∀f∈d.2,f.1.length<=900000/\f.2.length<=900000) (hd8:d.2.length<=8) (hT:Wv Tryz.prog g cap B J) (hJ:J [] M w0):
  Spec Tryz.prog 142 #[v0,.func (.func g) #[] cap.toArray] w0 (λv w=>∃M',Lt M' w/\J (cF d.2) M' w/\Step M w0 M' w (lg M B)):=by
 refine a7 (args:=[_,_]) (fn:=Tryz.f142) Tryz.func142 G (n:=33) Tryz.ntmps142 ?_;have S:Step M w0 M w0 (lg M B):=(aW).ew a18 (λ_ h=>h.2);refine T.aP ?_;refine ej (A:=RT.dc) G G hM hv G (λu0 w1 du s0 _=>?_);replace hJ:=hT.step _ _ _ _ _ hJ s0;replace hM:=s0.lt hM;have:=S.size;replace S:=S.av s0;refine ad (T.aP ?_);refine ao (M:=M) (A:=RT.dc) (B:=(RT.fd).sl) aT G G sN QZ (F6) G G QZ U3 (by repeat (first|exact bN _ _|refine bg (bO U3) ?_)) (λyX kb=>?_);refine bD (M:=M) bA G G G G G U3 (by repeat (first|exact bN _ _|refine bg (bO U3) ?_)) (λxx kO=>?_);refine bz bA G kO G (ab G G (ad (aX ?_)));refine cY (σ:=Nat) (λi=>[(1,.func (.func g) #[] cap.toArray),(9,xx),(10,.int .i64 (d.2.length:Int)),(11,.int .i64 (i:Int))]) (λi w=>∃M',Lt M' w/\Step M w0 M' w (lg M B)/\(RT.fd.sl).V M' w d.2 xx/\J (cF (d.2.take i)) M' w/\i<=d.2.length/\(cF (d.2.take i)).length<=900001*i) (λi=>d.2.length-i) 0 a38 ?_ ?_
 ·exact⟨_,hM,S,kO,hJ,bp _,bu _⟩
 ·rintro i w ⟨M1,hM,S,mV,hJ,hi,sL⟩;refine T.aP (cy G G G (ad (aK ?_)));refine bF G (λc2=>?_) (λc2=>?_)
  ·refine aR (aK (aX (T.aP ?_)));refine cB bA jW G G G mV bU q0 (λu3 x Ww gI=>?_);rw[ar]at Ww;have xm:=hl _ (au Ww);refine bR (A:=RT.fd) cE G jW QZ G G G gI bU (λv3 tK=>?_);refine rG (A:=RT.fd) (M:=M1) jW G G G G G U3 bU hM (λRS aro zd RU arp=>?_);replace mV:=mV.le RU.le;replace hJ:=hT.step _ _ _ _ _ hJ RU;replace hM:=RU.lt hM;have:=S.size;replace S:=S.av RU;refine ad (T.aP ?_);refine ao (M:=M1) (A:=RT.fd) (B:=RT.str) cE G G I9 QZ (QO) G G QZ U3 (by repeat (first|exact bN _ _|refine bg (bO U3) ?_)) (λKb rq=>?_);refine bD az G G G G G rq bU (λv4 pK=>?_);obtain rfl:=dS pK;refine aQ G G VR (yS (l:=x.2) _ hM xm.2) (λv5 w5 hc=>?_);obtain⟨VM,s5⟩:=hc;replace mV:=mV.le s5.le;replace zd:=zd.le QZ s5.le;replace hJ:=hT.step _ _ _ _ _ hJ s5;replace hM:=s5.lt hM;have:=S.size;replace S:=S.av s5;have Nj:=lC x.2;refine bz aB G VM G (ab G G (ad (aX ?_)));refine cY (σ:=Nat) (λk=>[(1,.func (.func g) #[] cap.toArray),(5,RS),(9,xx),(10,.int .i64 (d.2.length:Int)),(11,.int .i64 (i:Int)),(17,v5),(18,.int .i64 ((words x.2).length:Int)),(19,.int .i64 (k:Int))]) (λk w=>∃M',Lt M' w/\Step M w0 M' w (lg M B)/\(RT.fd.sl).V M' w d.2 xx/\cM RT.fd M' w RS x/\(RT.str.sl).V M' w (words x.2) v5/\J (cF (d.2.take i)++(gy x).take k) M' w/\k<=(words x.2).length) (λk=>(words x.2).length-k) 0 (.cons G a30) ?_ ?_
   ·exact⟨_,hM,S,mV,zd,VM,by rw[List.take_zero,fV];exact hJ,bp _⟩
   ·rintro k w ⟨M2,hM,S,mV,zd,VM,hJ,hk⟩;refine T.aP (cy G G G (ad (aK ?_)));refine bF G (λc5=>?_) (λc5=>?_)
    ·refine aR (aK (aX (T.aP (ab G G ?_))));refine cB aB I9 G G G VM bU q0 (λu6 y Lu tF=>?_);rw[ar]at Lu;refine bD az G G G G G tF bU (λv6 pw=>?_);have Y5:=(lH.1 pw).2;obtain rfl:=dS pw;refine aG G G (Rg.aZ G G (aM (ab G G ?_)));refine ao (M:=M2) (A:=RT.fd) (B:=RT.str) cE G G I9 QZ (DZ) G G QZ U3 (by repeat (first|exact bN _ _|refine bg (bO U3) ?_)) (λarq abe=>?_);refine bD az G G G G G abe bU (λv7 Ew=>?_);obtain rfl:=dS Ew;refine ab rfl rfl (dN (places:=[(0,1),(1,1)]) bI lA B24 rfl ⟨_,_,rfl,rfl,_,_,rfl,rfl,rfl⟩ (out:=[_,_]) ⟨0,[_],rfl,rfl,by simp[Value.cells],1,[_],rfl,rfl,by simp[Value.cells],rfl⟩ (ab rfl rfl ?_));refine uI (first:=[]) (captured:=cap) (xs:=[.tmp 28,.tmp 29]) G G G hT.enters (hT.tell _ _ _ (x.1,y) k hJ hM xm.1 Y5 q0 (by rw[bM,bJ,nN];omega)) (λr7 w7 hc=>?_);obtain⟨M7,hM7,hJ7,s7⟩:=hc;refine ad (aM (bC G G G q0 (ab G G (ad ?_))));refine⟨G,k+1,(.cons G a30),?_,?_⟩
     ·exact⟨M7,hM7,S.trans s7 (λb hb h=>⟨h.1,(S.mem b hb).1 h.2⟩),mV.le s7.le,zd.le QZ s7.le,VM.le s7.le,by rw[b7,NJ Lu,dH,<-rD];exact hJ7,by omega⟩
     ·omega
    ·refine cN (aM (bC G G G q0 (ab G G (ad ?_))));refine⟨G,i+1,a38,?_,?_⟩
     ·exact⟨_,hM,S,mV,by rw[sw Ww];have e:(gy x).take k=gy x:=bm (by rw[nN];omega);rw[e]at hJ;exact hJ,by omega,by rw[sw Ww,bM,nN];omega⟩
     ·omega
  ·refine cN ?_
   first|refine ig.nil ?_|simp+decide only[B8,pO,if_true,if_false]|skip
   have e:d.2.take i=d.2:=bm q0;rw[e]at hJ;exact j4 G ⟨_,hM,hJ,S⟩
theorem CF {M:aL} {w:World} {t:Fd} (h1:t.1.length<=140737488355328) (h2:t.2.length<=140737488355328):RT.fd.V M w t (kv t):=fz (lH.2 ⟨rfl,h1⟩) (lH.2 ⟨rfl,h2⟩) rfl rfl rfl rfl
def WJ (b B:Nat) (ts:List (Fd×Nat)) (M:aL) (w:World):Prop:=w.heap[b]? =some (.cells #[.int .i64 (ts.length:Int)] 3 (0,0))/\M b/\B<=b
theorem CG {M:aL} {b B:Nat} {ts:List (Fd×Nat)} {t:Fd} {i:Nat} (w0:World) (hM:Lt M w0) (h1:t.1.length<=900000) (h2:t.2.length<=140737488355328) (L7:ts.length<=10000000) (hJ:WJ b B ts M w0):
  Spec Tryz.prog 149 #[kv t,.int .i64 (i:Int),.pointer (some ⟨b,0,none⟩)] w0 (λv w=>∃M',Lt M' w/\WJ b B (ts++[(t,i)]) M' w/\Step M w0 M' w (lg M B)):=by
 obtain⟨gb,eu,hB⟩:=hJ;refine a7 (args:=[_,_,_]) (fn:=Tryz.f149) Tryz.func149 G (n:=7) Tryz.ntmps149 ?_;have S:Step M w0 M w0 (lg M B):=(aW).ew a18 (λ_ h=>h.2);refine T.aP ?_;refine ej (A:=RT.fd) G G hM (CF q0 h2) G (λu0 w1 du s0 _=>?_);have:=ah gb;replace eu:=(s0.mem _ this).2 eu;replace gb:=s0.aE gb;replace hM:=s0.lt hM;have:=S.size;replace S:=S.av s0;refine ad (aM (aN ak G G G U3 G (bC G G G q0 ?_)));refine cn (M:=M) I3 G G gb G (G) eu (λRV iw px=>?_);change RV.heap[_]? =some (Obj.cells #[.int .i64 ((ts.length:Int)+1)] _ _)at iw;have:=ah gb;replace eu:=(px.mem _ this).2 eu;replace hM:=px.lt hM;have:=S.size;replace S:=S.trans px (λk hk h=>by have h:_=_:=h;subst h;first|(exfalso;omega)|(show _<=_;omega)|exact⟨by first|omega|assumption,(S.mem _ hk).1 ((px.mem _ (ah gb)).1 eu)⟩|exact .inl rfl|exact .inr rfl|exact .inr (.inl rfl)|exact .inr (.inr rfl)|exact .inr (.inr (.inl rfl))|exact rfl);have NK:=iw;clear gb;have gb:=NK;clear NK;refine ad ?_
 first|refine ig.nil ?_|simp+decide only[B8,pO,if_true,if_false]|skip
 exact j4 rfl ⟨_,hM,⟨by rw[bM];exact gb,eu,hB⟩,S⟩
theorem Ex {b B:Nat}:Wv Tryz.prog 149 [.pointer (some ⟨b,0,none⟩)] B (WJ b B):=
 ⟨agK,λts M w M' w' ⟨h1,h2,h3⟩ s=>⟨s.aE h1,(s.mem _ (ah h1)).2 h2,h3⟩,λts M w t i hJ hM h1 h2 _ h4=>CG w hM h1 h2 h4 hJ⟩
theorem Ey {M:aL} {d:Dc} {v0:Value} (w0:World) (hM:Lt M w0) (hv:RT.dc.V M w0 d v0) (hl:∀f∈d.2,f.1.length<=900000/\f.2.length<=900000) (hd8:d.2.length<=8):
  Spec Tryz.prog 97 #[v0] w0 (λv w=>v= .int .i64 ((cF d.2).length:Int)/\Step M w0 M w aD):=by
 refine a7 (args:=[_]) (fn:=Tryz.f97) Tryz.func97 G (n:=8) Tryz.ntmps97 ?_;have S:Step M w0 M w0 aD:=aW;refine T.aP ?_;refine ej (A:=RT.dc) G G hM hv G (λu0 w1 du s0 _=>?_);replace hM:=s0.lt hM;have:=S.size;replace S:=S.av s0;refine Rg.aZ G G (T.aP ?_);refine eB M I3 G (λvD RL ahA ahB oE xv=>?_);obtain⟨Bq,yO⟩:∃M',M'=ins M vD:=⟨_,rfl⟩;rw[<-yO]at xv;have l6:Bq vD:=by rw[yO];exact .inl G
 change RL.heap[vD]? =some (.cells #[.int .i64 0] _ _)at oE;replace du:=du.le QZ xv.le;replace hM:=xv.lt hM;have:=S.size;replace S:=S.av xv;refine cn (M:=Bq) I3 G G oE G (G) l6 (λWx AH xz=>?_);change Wx.heap[_]? =some (Obj.cells #[.int .i64 0] _ _)at AH;have:=ah oE;replace l6:=(xz.mem _ this).2 l6;replace du:=du.le QZ xz.le;replace hM:=xz.lt hM;have:=S.size;replace S:=S.trans xz (λk hk h=>by have h:_=_:=h;subst h;first|(exfalso;omega)|(show _<=_;omega)|exact⟨by first|omega|assumption,(S.mem _ hk).1 ((xz.mem _ (ah oE)).1 l6)⟩|exact .inl rfl|exact .inr rfl|exact .inr (.inl rfl)|exact .inr (.inr rfl)|exact .inr (.inr (.inl rfl))|exact rfl);have Ua:=AH;clear oE;have oE:=Ua;clear Ua;refine ad (T.aP ?_);refine bR (A:=RT.dc) aT G kU QZ G G G du bU (λv2 Bo=>?_);refine jj (xs:=[]) (ys:=[.tmp 3]) G G G ?_;refine aQ G G aaf (Bu (cap:=[.pointer (some ⟨vD,0,none⟩)]) (B:=w0.heap.size) _ hM Bo hl hd8 Ex ⟨oE,l6,by omega⟩) (λr2 w2 hc=>?_);obtain⟨M2,IC,⟨g2,_,_⟩,s2⟩:=hc;replace S:=S.lM s2 (bu _);refine ad (T.aP (aN ak G G G g2 G (Rg.aZ G G (aI ?_))));exact aF G G ⟨G,S.back⟩
section
variable {P:Program} {r:Option Nat} {n:Nat} {L:Sl} {ds:List Deferred} {w:World} {K:Kt} {ops:Array Oper} {rest:List Oper} {d:Nat} {x y z:Operand} {ty:TypeId} {pos:String} {af:Array Edge}
variable {kt:TypeId} {M:aL} {b mb clock:Nat} {es:List MapEntry} {sn:Array Nat}
theorem Rg.rangeMap {t e:TypeId} (M:aL) (ht:P.underlying t=some (.map kt e)) (hx:ev L x=some (.map (some mb))) (hd:Nat.blt d n=true) (h:fP P kt w mb es clock)
  (k:∀b w',w.heap.size<=b->b<w'.heap.size->w'.heap[b]? =some (.mapIter (some mb) clock #[] clock)->Step M w (ins M b) w' aD->Rg P r n ops rest ((d,.pointer (some ⟨b,0,none⟩))::L) ds w' K):
  Rg P r n ops ({dst:=some d,op:= .range t x,type:=ty,pos,after:=af,guard:=none}::rest) L ds w K:=by
 refine .op a04 G G hd (.pointer (some ⟨w.heap.size,0,none⟩)) (w.alloc (.mapIter (some mb) clock #[] clock)) (λρ hρ=>?_) (k w.heap.size _ (bu _) (by simp) (dn w _) ((dW M w _).own (bu _) (by simp)));simp only[execOp,hρ x _ hx];simp[Instr.range,cj,run_underlying ht,dB h.at_,newObj,Sem.run]
theorem o7 {sb:Option Nat} {s c:Nat} (hb:w.heap[b]? =some (.mapIter sb s sn c)):(getObj b).run P w= .ok (.mapIter sb s sn c) w:=by simp[getObj,Sem.run,hb]
theorem GP (h:fP P kt w mb es clock) (seen:Array Nat):(!seen.isEmpty&& !es.toArray.isEmpty&&es.toArray.all (λx=>decide (x.born>=clock)))=false:=by
 cases es with
 |nil=>simp
 |cons e l=>
  have:=h.lt e (by simp);simp only[Bool.and_eq_false_iff];right;rw[fu];intro h2;rw[Array.all_eq_true_iff_forall_mem]at h2;have:=h2 e (by simp);simp at this;omega
theorem Ez (k:Nat) (hk:0<k):∃j w1,j<k/\(∀M,Step M w M w1 aD)/\w1.heap=w.heap/\(choose (Question.mapNext k)).run P w= .ok j w1:=by
 by_cases hf:k<=1
 ·exact⟨0,w,hk,λM=>Step.refl M w,rfl,by simp[choose,Sem.run,Question.forced,hf]⟩
 ·exact⟨_,w.drew,Nat.mod_lt _ hk,λM=>nq M w,G,by
   simp only[choose,Sem.run,Question.forced,decide_eq_true_eq,hf,if_false,Question.cut];rfl⟩
theorem NL (h:fP P kt w mb es clock) (hb:w.heap[b]? =some (.mapIter (some mb) clock sn clock)) (hm:M b):
  ((∀e∈es,e.born∈sn)/\(Instr.next (.pointer (some ⟨b,0,none⟩)) false ty).run P w= .ok (.tuple #[.bool false]) w)\/
  ∃e w',e∈es/\e.born∉sn/\w'.heap[b]? =some (.mapIter (some mb) clock (sn.push e.born) clock)/\Step M w M w' (λk=>k=b)/\(Instr.next (.pointer (some ⟨b,0,none⟩)) false ty).run P w= .ok (.tuple #[.bool true,e.key,e.val]) w':=by
 have eQ:=ah hb;simp only[Instr.next,cj,o7 hb,cA,dB h.at_,GP h sn,Bool.false_eq_true,if_false];have hL:∀e∈es.toArray.filter (λe=> !sn.contains e.born),e.born<clock:=λe he=>h.lt e (by simpa using(Array.mem_filter.1 he).1)
 have kZ:∀e,e∈es.toArray.filter (λe=> !sn.contains e.born)↔e∈es/\e.born∉sn:=λe=>by simp[Array.mem_filter]
 generalize es.toArray.filter (λe=> !sn.contains e.born)=Lf at hL kZ ⊢;have e1:Lf.filter (λx=>decide (x.born<clock))=Lf:=Array.filter_eq_self.2 λx hx=>by simpa using hL x hx
 have e2:Lf.filter (λx=>decide (x.born>=clock))= #[]:=by
  rw[Array.filter_eq_empty_iff];intro x hx;have:=hL x hx;simp;omega
 simp only[e1,e2,Array.append_empty];by_cases h0:Lf.size=0
 ·left;have uV:Lf= #[]:=Array.eq_empty_of_size_eq_zero h0;subst uV;refine⟨λe he=>?_,by simp[choose,Sem.run,Question.forced]⟩;by_cases hs:e.born∈sn
  ·exact hs
  ·exact absurd ((kZ e).2 ⟨he,hs⟩) (by simp)
 ·right;have fh:Lf.isEmpty=false:=by simp[Array.isEmpty,h0]
  simp only[fh,Bool.false_eq_true,if_false,Array.empty_append,Array.size_map];obtain⟨j,w1,hj,TE,hh1,iB⟩:=Ez (P:=P) (w:=w) Lf.size q0;have vB:w1.heap[b]? =some (.mapIter (some mb) clock sn clock):=by rw[hh1];exact hb
  have gL:=(kZ Lf[j]).1 (by simp);refine⟨Lf[j],{w1 with heap:=w1.heap.setIfInBounds b (.mapIter (some mb) clock (sn.push Lf[j].born) clock)},gL.1,gL.2,by simp[dv,hh1,eQ],?_,?_⟩
  ·exact((TE M).ew a18 (λk hk=>by subst hk;exact hm)).trans (im M hm) (λ_ _ h=>h)
  ·simp only[iB,cA,Array.getElem?_map,Array.getElem?_eq_getElem hj,fe,cj];simp[setObj,Sem.run,vB]
theorem Rg.RW (hx:ev L x=some (.pointer (some ⟨b,0,none⟩))) (hb:w.heap[b]? =some (.mapIter (some mb) clock sn clock)) (hm:M b) (h:fP P kt w mb es clock) (hd:Nat.blt d n=true)
  (k1:∀e w',e∈es->e.born∉sn->w'.heap[b]? =some (.mapIter (some mb) clock (sn.push e.born) clock)->Step M w M w' (λk=>k=b)->Rg P r n ops rest ((d,.tuple #[.bool true,e.key,e.val])::L) ds w' K)
  (k2:(∀e∈es,e.born∈sn)->Rg P r n ops rest ((d,.tuple #[.bool false])::L) ds w K):
  Rg P r n ops ({dst:=some d,op:= .next x false,type:=ty,pos,after:=af,guard:=none}::rest) L ds w K:=by
 rcases NL (ty:=ty) h hb hm with⟨h1,h2⟩|⟨e,w',h1,h2,h3,h4,h5⟩
 ·refine .op a04 G G hd _ w (λρ hρ=>?_) (k2 h1);simp only[execOp,hρ x _ hx];simp[h2]
 ·refine .op a04 G G hd _ w' (λρ hρ=>?_) (k1 e w' h1 h2 h3 h4);simp only[execOp,hρ x _ hx];simp[h5]
theorem Rg.entry {e:MapEntry} {sn':Array Nat} (hx:ev L x=some (.pointer (some ⟨b,0,none⟩))) (hb:w.heap[b]? =some (.mapIter (some mb) clock (sn'.push e.born) clock)) (h:fP P kt w mb es clock) (he:e∈es) (hd:Nat.blt d n=true)
  (k:Rg P r n ops rest ((d,.tuple #[e.key,e.val])::L) ds w K):
  Rg P r n ops ({dst:=some d,op:= .entry x,type:=ty,pos,after:=af,guard:=none}::rest) L ds w K:=by
 have hf:es.find? (λx=>x.born==e.born)=some e:=by
  rw[List.find?_eq_some_iff_getElem];obtain⟨i,hi⟩:=bK.1 he;obtain⟨h1,h2⟩:=al.1 hi;refine ⟨by simp,i,h1,h2,λj hj=> ?_⟩;have pb:j<es.length:=by omega
  have:=λq=>h.D0 (an pb) hi q
  simp only[rH,beq_eq_false_iff_ne,ne_eq];intro q;have:=this q;omega
 refine .op a04 G G hd _ w (λρ hρ=>?_) k;simp only[execOp,hρ x _ hx,Instr.entry,cj,o7 hb,cA,dB h.at_];simp[hf,cj,dB h.at_]
end
theorem filter_lt {α:Type} {p q:α->Bool} {a:α}:∀{l:List α},(∀x∈l,q x=true->p x=true)->a∈l->p a=true->q a=false->(l.filter q).length<(l.filter p).length
 |[],_,ha,_,_=>by cases ha
 |x::l,h,ha,hp,hq=>by
  have hle:(l.filter q).length<=(l.filter p).length:=by
   rw[<-List.countP_eq_length_filter,<-List.countP_eq_length_filter];exact List.countP_mono_left λy hy=>h y (cv _ hy)
  rcases dz.1 ha with rfl|ha
  ·rw[List.filter_cons_of_pos hp,List.filter_cons_of_neg (by simp[hq])];simp;omega
  ·have:=filter_lt (λy hy=>h y (cv _ hy)) ha hp hq;by_cases hx:q x=true
   ·rw[List.filter_cons_of_pos hx,List.filter_cons_of_pos (h x (bP ..) hx)];simp;omega
   ·rw[List.filter_cons_of_neg hx];by_cases hx2:p x=true
    ·rw[List.filter_cons_of_pos hx2];simp;omega
    ·rw[List.filter_cons_of_neg hx2];omega
theorem fP.Wy {P:Program} {kt:TypeId} {w:World} {b clock:Nat} {es:List MapEntry} (h:fP P kt w b es clock) {x y:MapEntry} (hx:x∈es) (hy:y∈es) (hk:x.key=y.key):x=y:=by
 obtain⟨i,hi⟩:=bK.1 hx;obtain⟨j,hj⟩:=bK.1 hy;rcases fq i j with jl|rfl|jl
 ·exact absurd hk (gZ h.keys hi hj jl)
 ·exact aJ (hi.symm.trans hj)
 ·exact absurd hk.symm (gZ h.keys hj hi jl)
theorem fP.RX {P:Program} {kt:TypeId} {w:World} {b clock:Nat} {es:List MapEntry} (h:fP P kt w b es clock) {x y:MapEntry} (hx:x∈es) (hy:y∈es) (hk:x.born=y.born):x=y:=by
 obtain⟨i,hi⟩:=bK.1 hx;obtain⟨j,hj⟩:=bK.1 hy;rcases fq i j with jl|rfl|jl
 ·exact absurd hk (gZ h.born hi hj jl)
 ·exact aJ (hi.symm.trans hj)
 ·exact absurd hk.symm (gZ h.born hj hi jl)
def GQ (w:World) (k:Nat):Prop:=∃m s sn c,w.heap[k]? =some (.mapIter m s sn c)
def IN (es:List MapEntry):Prop:=∀e∈es,∃t:Fd,e.key=kv t/\t.1.length<=140737488355328/\t.2.length<=140737488355328
theorem GR {yl bs mb clock:Nat} {es:List MapEntry} {J:List Fd->World->Prop} (w0:World) (hk:IN es) (hJs:∀ts w w' N,J ts w->Step allM w allM w' N->(∀k,k<w.heap.size->N k->w0.heap.size<=k/\GQ w k)->J ts w') (hJb:∀ts w,J ts w->w.heap[bs]? =some (.cells #[.map (some mb)] 238 (0,0))/\fP Tryz.prog 24 w mb es clock) (hy:∀ts w (t:Fd),J ts w->(∃e∈es,e.key=kv t)->t∉ts->ts.length<es.length->yh Tryz.prog yl [kv t].toArray w (λr w'=>r= .bool true/\J (ts++[t]) w'∧∃N,Step allM w allM w' N/\∀k,N k->¬GQ w k)) (h0:J [] w0):
  Spec Tryz.prog 187 #[.func (.yield yl) #[] #[],.pointer (some ⟨bs,0,none⟩)] w0 (λv w=>∃ts,J ts w/\ts.Nodup/\∀t,t∈ts↔∃e∈es,e.key=kv t):=by
 obtain⟨gb,hW⟩:=hJb _ _ h0;have hJ:=h0;clear h0;refine a7 (args:=[_,_]) (fn:=Tryz.f187) Tryz.func187 G (n:=14) Tryz.ntmps187 ?_;have S:Step allM w0 allM w0 allM:=(aW).ew a18 (λ_ _=>trivial);refine T.aP (aN lF G G G U3 G ?_);refine Rg.rangeMap allM lF G G hW (λbi w1 vB Dt gi s1=>?_);replace s1:=s1.all;have:=ah gb;replace gb:=s1.aE gb;replace hJ:=hJs _ _ _ _ hJ s1 (λ_ _ h=>h.elim);have:=S.size;replace S:=S.av s1;refine ad (aX ?_);refine cY (σ:=List Fd×Array Nat) (λs=>[(0,.func (.yield yl) #[] #[]),(1,.pointer (some ⟨bs,0,none⟩)),(5,.pointer (some ⟨bi,0,none⟩))]) (λs w=>J s.1 w/\Step allM w0 allM w allM/\w.heap[bi]? =some (.mapIter (some mb) clock s.2 clock)/\s.1.Nodup/\(∀e∈es,e.born∈s.2↔∃t∈s.1,e.key=kv t)/\(∀t∈s.1,∃e∈es,e.key=kv t)) (λs=>(es.filter λe=>decide (e.born∉s.2)).length) ([],#[]) a00 ?_ ?_
 ·exact⟨hJ,S,gi,List.nodup_nil,λe _=>by simp,λt h=>by cases h⟩
 ·rintro⟨ts,sn⟩ w ⟨hJ,S,gi,mE,hsn,kZ⟩;dsimp only at hJ gi mE hsn kZ ⊢;obtain⟨gb,hW⟩:=hJb _ _ hJ;refine T.aP ?_;refine Rg.RW (M:=allM) G gi trivial hW G (λWz RL tL Ub oE xv=>?_) (λah7=>?_)
  ·have gi0:=gi;replace gb:=xv.bW gb a07;replace hJ:=hJs _ _ _ _ hJ xv (λk hk h=>by have h:k=bi:=h;subst h;exact⟨vB,_,_,_,_,gi0⟩);have:=S.size;replace S:=S.trans xv (λk hk h=>by have h:_=_:=h;subst h;first|(exfalso;omega)|(show _<=_;omega)|exact .inl rfl|exact .inr rfl|exact .inr (.inl rfl)|exact .inr (.inr rfl)|exact .inr (.inr (.inl rfl))|exact rfl);have gi_:=oE;clear gi;have gi:=gi_;clear gi_;refine cD G G G (ad (aK (kA G (aR (aX (T.aP (Rg.entry G gi (hJb _ _ hJ).2 tL G ?_)))))));obtain⟨t,RY,ht1,RM⟩:=hk _ tL;have Vp:t∉ts:=λh=>Ub ((hsn _ tL).2 ⟨t,h,RY⟩)
   have eQ:ts.length<es.length:=by
    have h1:((t::ts).map kv).Nodup:=dZ.2 ((List.nodup_cons.2 ⟨Vp,mE⟩).imp λh e=>h (vI e))
    have h2:=h1.length_le_of_subset (l₂:=es.map (·.key)) (λx hx=>by
     obtain⟨u,hu,rfl⟩:=cx.1 hx;rcases dz.1 hu with rfl|hu
     ·rw[<-RY];exact fO tL
     ·obtain⟨e,he,h⟩:=kZ u hu;rw[<-h];exact fO he)
    simp at h2;omega
   rw[RY];refine cD G G G ?_;refine rG (A:=RT.fd) (M:=aD) lA G G G G G (CF ht1 RM) bU (Lt.none _) (λu2 w2 fm s2 z2=>?_);replace s2:=s2.all;have:=ah gb;replace gb:=s2.aE gb;have:=ah gi;replace gi:=s2.aE gi;replace hJ:=hJs _ _ _ _ hJ s2 (λ_ _ h=>h.elim);have:=S.size;replace S:=S.av s2
   skip
   refine ad (T.aP (ab G G ?_));refine bR (A:=RT.fd) bI G lA QZ G G G fm bU (λv3 tK=>?_);obtain rfl:=ki tK;refine Rg.yield (vs:=[kv t]) G G G (hy _ _ t hJ ⟨_,tL,RY⟩ Vp eQ) (λr3 w3 hc=>?_);obtain⟨rfl,hJ3,N3,s3,hN3⟩:=hc;clear oE;replace gi:=s3.bW gi (λh=>hN3 _ h ⟨_,_,_,_,gi⟩);replace hJ:=hJ3;clear hJ3;obtain⟨gb,-⟩:=hJb _ _ hJ;replace S:=S.trans s3 (λ_ _ _=>trivial);refine ib G G (br (v':= .bool false) G (ad (jJ G (aR ?_))));refine⟨G,(ts++[t],sn.push Wz.born),a00,?_,?_⟩
   ·have uQ:∀e∈es,e.born=Wz.born↔e.key=kv t:=λe he=>by
     constructor
     ·intro h;rw[fP.RX hW he tL h,RY]
     ·intro h;rw[fP.Wy hW he tL (h.trans RY.symm)]
    refine⟨hJ,S,gi,List.nodup_append.2 ⟨mE,by simp,λa ha b hb h=>by simp at hb;subst hb;subst h;exact Vp ha⟩,λe he=>?_,λu hu=>?_⟩
    ·rw[Array.mem_push,hsn e he,uQ e he];constructor
     ·rintro(⟨u,h1,h2⟩|h)
      ·exact⟨u,jV _ h1,h2⟩
      ·exact⟨t,by simp,h⟩
     ·rintro⟨u,h1,h2⟩;rcases dw.1 h1 with h1|h1
      ·exact .inl ⟨u,h1,h2⟩
      ·simp at h1;subst h1;exact .inr h2
    ·rcases dw.1 hu with hu|hu
     ·exact kZ u hu
     ·simp at hu;subst hu;exact⟨_,tL,RY⟩
   ·exact filter_lt (a:=Wz) (λe _ h=>by simp only[decide_eq_true_eq,Array.mem_push,not_or]at h ⊢;exact h.1) tL (by simpa using Ub) (by simp)
  ·refine cD G G G (ad (aK (jJ G (cN ?_))))
   first|refine ig.nil ?_|simp+decide only[B8,pO,if_true,if_false]|skip
   exact j4 rfl ⟨ts,hJ,mE,λt=>⟨kZ t,fun⟨e,he,RY⟩=>by obtain⟨t',h1,h2⟩:=(hsn e he).1 (ah7 e he);rw[<-vI (h2.symm.trans RY)];exact h1⟩⟩
theorem fI.any {α:Type} {A:RT α} (hA:∀M w M' w' x vs,A.R M w x vs->A.R M' w' x vs) {M M':aL} {w w':World}:∀{xs:List α} {C:List Value},fI A M w xs C->fI A M' w' xs C
 |[],_,h=>h
 |x::xs,C,h=>by
  obtain⟨vs,r,h1,h2,h3⟩:=h;exact⟨vs,r,h1,hA _ _ _ _ _ _ h2,fI.any hA h3⟩
theorem CH (M:aL) (w:World) (M':aL) (w':World) (x:Fd) (vs:List Value) (h:RT.fd.R M w x vs):RT.fd.R M' w' x vs:=h
theorem Own.IP {α:Type} {A:RT α} (hA:∀M w M' w' x vs,A.R M w x vs->A.R M' w' x vs) {e:TypeId} {M N:aL} {w w':World} {base:Nat} {v:Value} {xs:List α} (h:Own A e M w base v xs) (s:Step allM w allM w' N) (hn:∀b,v.ownBlock=some b->¬N b):Own A e (qO v) w' base v xs:=by
 obtain⟨⟨C,h1,h2⟩,_⟩:=h;refine⟨⟨C,⟨h1.1,?_⟩,fI.any hA h2⟩,λ_ h=>h⟩;rcases h1.2 with h3|⟨g,cap,cur,h3,h4,h5,h6,h7,h8⟩
 ·exact .inl h3
 ·exact .inr ⟨g,cap,cur,h3,h4,by rw[s.same g (ah h5) (hn g (by rw[h3];rfl))];exact h5,h6,h7,h8⟩
theorem Own.isCells {α:Type} {A:RT α} {e:TypeId} {M:aL} {w:World} {base b:Nat} {v:Value} {xs:List α} (h:Own A e M w base v xs) (hb:v.ownBlock=some b):∃cs,w.heap[b]? =some (.cells cs e (0,0)):=by
 obtain⟨⟨C,h1,_⟩,_⟩:=h;rcases h1.2 with h3|⟨g,cap,cur,h3,h4,h5,_⟩
 ·rw[h3.1]at hb;cases hb
 ·rw[h3]at hb;cases hb;exact⟨_,h5⟩
structure Aq (w0:World) (bt D:Nat) (st:Loop) (v:Value) (ts:List Fd) (w:World):Prop where
 S:Step allM w0 allM w aD
 c:w.heap[bt]? =some (.cells #[v] 183 (0,0))
 o:Own RT.fd 24 (qO v) w w0.heap.size v ts
 d:w.heap[D]? =some (.deferred (some []))
 r:w.heap[D+1]? =some (.loop st)
 hb:w0.heap.size<=bt
 hD:w0.heap.size<=D
theorem Aq.step {w0 w w':World} {bt D:Nat} {st:Loop} {v:Value} {ts:List Fd} {N:aL} (h:Aq w0 bt D st v ts w) (s:Step allM w allM w' N) (hN:∀k,k<w.heap.size->N k->w0.heap.size<=k/\GQ w k):Aq w0 bt D st v ts w':=by
 have no:∀{k o},w.heap[k]? =some o->(∀m s sn c,o≠ .mapIter m s sn c)->¬N k:=λhk ho hn=>by
  obtain⟨_,m,s,sn,c,h'⟩:=hN _ (ah hk) hn;rw[hk]at h';exact ho m s sn c (aJ h')
 refine⟨h.S.trans s (λk hk hn=>?_),s.bW h.c (no h.c (by intros;simp)),h.o.IP CH s (λb hb=>?_),s.bW h.d (no h.d (by intros;simp)),s.bW h.r (no h.r (by intros;simp)),h.hb,h.hD⟩
 ·have:=(hN k (Nat.lt_of_lt_of_le hk h.S.size) hn).1;omega
 ·obtain⟨cs,hc⟩:=h.o.isCells hb;exact no hc (by intros;simp)
theorem Aq.py {w0 w:World} {bt D:Nat} {st st':Loop} {v:Value} {ts:List Fd} (h:Aq w0 bt D st v ts w):Aq w0 bt D st' v ts (w.putObj (D+1) (.loop st')):=by
 have s:Step allM w allM (w.putObj (D+1) (.loop st')) (λk=>k=D+1):=ga trivial;have hD:=h.hD;refine⟨h.S.trans s (λk hk hn=>by have hn:k=D+1:=hn;omega),s.bW h.c (λhn=>by have hn:bt=D+1:=hn;have h1:=h.c;rw[hn,h.r]at h1;cases h1),h.o.IP CH s (λb hb hn=>?_),s.bW h.d (λhn=>by have hn:D=D+1:=hn;omega),by have:=ah h.r;simp[World.putObj,dv,this],h.hb,h.hD⟩;have hn:b=D+1:=hn;obtain⟨cs,hc⟩:=h.o.isCells hb;rw[hn,h.r]at hc;cases hc
theorem EA {bs mb clock:Nat} {es:List MapEntry} (w0:World) (hk:IN es) (hes:es.length<=100000000) (WA:w0.heap[bs]? =some (.cells #[.map (some mb)] 238 (0,0))) (hW:fP Tryz.prog 24 w0 mb es clock):
  Spec Tryz.prog 252 #[.slice none 0 0,.func (.func 187) #[] [.pointer (some ⟨bs,0,none⟩)].toArray] w0 (λv w=>∃ts:List Fd,ts.Nodup/\(∀t,t∈ts↔∃e∈es,e.key=kv t)/\Own RT.fd 24 (qO v) w w0.heap.size v ts/\Step allM w0 allM w aD):=by
 refine tp (args:=[_,_]) (fn:=Tryz.f252) Tryz.func252 G (n:=13) Tryz.ntmps252 (T.aP ?_);refine np allM G G (λbt w1 vB arv gt s1=>?_);change w1.heap[bt]? =some (.cells #[.slice none 0 0] 183 (0,0))at gt;replace s1:=s1.all;refine Rg.aZ G G (aK (T.aP (ab G G (ad (aX ?_)))));refine T.range (gf:=187) (lb:=[.pointer (some ⟨bs,0,none⟩)].toArray) G agR (λrec tj=>?_);obtain⟨D,hD⟩:∃D,D=w1.heap.size:=⟨_,rfl⟩;have sA:Step allM w1 allM ((w1.alloc (.deferred (some []))).alloc (.loop (rec .ready none))) aD:=(dW _ _ _).av (dW _ _ _)
 have h0:Aq w0 bt D (rec .ready none) (.slice none 0 0) [] ((w1.alloc (.deferred (some []))).alloc (.loop (rec .ready none))):=by
  refine⟨s1.av sA,sA.aE gt,eJ _ _ _ _ _,?_,?_,vB,by rw[hD];exact s1.size⟩
  ·rw[hD];exact(dW allM (w1.alloc _) _).aE (dn w1 _)
  ·rw[hD];have:=dn (w1.alloc (.deferred (some []))) (.loop (rec .ready none));rwa [World.size_alloc]at this
 rw[<-hD]at tj ⊢;have hz:=h0.S.size;refine Spec.mono (GR (J:=λts w=>∃v,Aq w0 bt D (rec .ready none) v ts w) _ hk (λts w w' N ⟨v,h⟩ s hN=>⟨v,h.step s (λk hk hn=>⟨dm hz (hN k hk hn).1,(hN k hk hn).2⟩)⟩) (λts w ⟨v,h⟩=>⟨h.S.aE WA,hW.bQ h.S⟩) (λts wr t hJ kZ Vp eQ=>?_) ⟨_,h0⟩) (λ_ w3 h3=>?_)
 ·obtain⟨v,h⟩:=hJ;obtain⟨e,he,hke⟩:=kZ;obtain⟨t',ah9,ht1,RM⟩:=hk e he;obtain rfl:=vI (hke.symm.trans ah9);have hzr:=ah h.r;refine qv (ps:=[7]) (vs:=[kv t]) tj h.r G QZ (aM ?_);refine rG (A:=RT.fd) (M:=λk=>k=D+1) lA G G G G G (CF ht1 RM) bU (λk hk=>by have hk:k=D+1:=hk;omega) (λu2 w2 fm s2 z2=>?_);replace s2:=s2.all
  skip
  refine ad (⟨G,s2.aE h.r,?_⟩);have h4:=(h.step s2 (λ_ _ h=>h.elim)).py (st':=rec .busy none);have s3':Step (λk=>k=D+1) w2 (λk=>k=D+1) (w2.putObj (D+1) (.loop (rec .busy none))) (λk=>k=D+1):=ga rfl;have s3:=s3'.all;have Ls:=fm.le QZ s3'.le;clear s3';generalize w2.putObj (D+1) _=w4 at h4 s3 Ls ⊢;refine aX (aM (aN jL G G G h4.c G ?_));refine bR (A:=RT.fd) bI G lA QZ G G G Ls bU (λv3 tK=>?_);obtain rfl:=ki tK;refine fw (A:=RT.fd) (hn:=by decide) (M:=qO v) jL lA QZ G G (λb hb=>(h4.o.base b hb).2) (CF ht1 RM) (.inl G) (λu5 w5 lB s5=>?_);refine dF (M:=qO v) (base:=w0.heap.size) jL lA rfl rfl rfl rfl (h4.o.bQ s5) lB bU a11 a11 (dm h4.S.size s5.size) (λv6 M6 w6 ze s6=>?_);have gc:=s6.all.bW (s5.all.aE h4.c) (λhn=>h4.o.fA h4.c QZ hn);refine cn (M:=allM) agx rfl rfl gc rfl (by obtain⟨_,_,he,_⟩:=ze.isSlice;rw[he];rfl) trivial (λw7 gc7 s7=>?_);refine ad ?_
  have aib:∀k,qO v k->¬GQ wr k:=λk hk ⟨_,_,_,_,h9⟩=>by
   obtain⟨cs,hc⟩:=h.o.isCells hk;rw[hc]at h9;cases h9
  have pr:∀k,k<wr.heap.size->k=D+1->¬GQ wr k:=λk _ hk ⟨_,_,_,_,h9⟩=>by subst hk;rw[h.r]at h9;cases h9
  have pc:∀k,k<wr.heap.size->k=bt->¬GQ wr k:=λk _ hk ⟨_,_,_,_,h9⟩=>by subst hk;rw[h.c]at h9;cases h9
  have h7:Aq w0 bt D (rec .busy none) v6 (ts++[t]) w7:=by
   have nb:∀b,v6.ownBlock=some b->b≠bt:=λb hb hn=>by subst hn;exact ze.fA gc QZ hb
   refine⟨?_,gc7,ze.IP CH s7 nb,?_,?_,h.hb,h.hD⟩
   ·refine((h4.S.av s5.all).trans s6.all (λk hk hn=>?_)).trans s7 (λk hk hn=>?_)
    ·have:=(h4.o.base k hn).1;omega
    ·have hn:k=bt:=hn;have:=h.hb;omega
   ·exact s7.bW (s6.all.bW (s5.all.aE h4.d) (λhn=>by obtain⟨cs,hc⟩:=h4.o.isCells hn;rw[h4.d]at hc;cases hc)) (λhn=>by have hn:D=bt:=hn;have h1:=h.c;rw[<-hn,h.d]at h1;cases h1)
   ·exact s7.bW (s6.all.bW (s5.all.aE h4.r) (λhn=>by obtain⟨cs,hc⟩:=h4.o.isCells hn;rw[h4.r]at hc;cases hc)) (λhn=>by have hn:D+1=bt:=hn;have h1:=h.c;rw[<-hn,h.r]at h1;cases h1)
  have s8:Step allM w7 allM (w7.putObj (D+1) (.loop (rec .ready none))) (λk=>k=D+1):=ga trivial;exact⟨h7.r,G,⟨v6,h7.py⟩,λk=>¬GQ wr k,(((((s2.ew a18 (λ_ _=>trivial)).trans s3 pr).av s5.all).trans s6.all (λk _ hn=>aib k hn)).trans s7 pc).trans s8 pr,λ_ h=>h⟩
 ·obtain⟨ts,⟨v,h⟩,mE,kZ⟩:=h3;left;refine ⟨h.r,?_⟩;have h5:=h.py (st':=rec .exhausted none);generalize w3.putObj (D+1) _=wE at h5 ⊢;refine T.aP (aN jL G G G h5.c G (Rg.aZ G G (aI ?_)));have sE:Step allM wE allM (wE.putObj D (.deferred none)) (λk=>k=D):=ga trivial;have hDD:=h.hD;exact Gj G G h5.d ⟨ts,mE,kZ,h5.o.IP CH sE (λb hb hn=>by have hn:b=D:=hn;obtain⟨cs,hc⟩:=h5.o.isCells hb;rw[hn,h5.d]at hc;cases hc),h5.S.trans sE (λk hk hn=>by have hn:k=D:=hn;omega)⟩
theorem CI {bs mb clock:Nat} {es:List MapEntry} (w0:World) (hk:IN es) (hes:es.length<=100000000) (WA:w0.heap[bs]? =some (.cells #[.map (some mb)] 238 (0,0))) (hW:fP Tryz.prog 24 w0 mb es clock):
  Spec Tryz.prog 185 #[.func (.func 187) #[] [.pointer (some ⟨bs,0,none⟩)].toArray] w0 (λv w=>∃ts:List Fd,ts.Nodup/\(∀t,t∈ts↔∃e∈es,e.key=kv t)/\Own RT.fd 24 (qO v) w w0.heap.size v ts/\Step allM w0 allM w aD):=by
 refine a7 (args:=[_]) (fn:=Tryz.f185) Tryz.func185 G (n:=5) Tryz.ntmps185 (T.aP (Rg.aZ G G (T.aP (ab G G ?_))));refine aQ G G ag0 (EA _ hk hes WA hW) (λr w1 hc=>?_);refine Rg.aZ G G (aI ?_);exact aF G G hc
def cZ (t:Fd):List UInt8:=t.1++[0]++t.2
theorem NM {M:aL} {t:Fd} (w0:World) (hM:Lt M w0) (h1:t.1.length<=1000000) (h2:t.2.length<=1000000):
  Spec Tryz.prog 95 #[kv t] w0 (λv w=>v= .string ⟨(cZ t).toArray⟩/\Step M w0 M w aD):=by
 refine a7 (args:=[_]) (fn:=Tryz.f95) Tryz.func95 G (n:=9) Tryz.ntmps95 ?_;have S:Step M w0 M w0 aD:=aW;refine T.aP ?_;refine ej (A:=RT.fd) G G hM (CF q0 q0) G (λu0 w1 du s0 _=>?_);replace hM:=s0.lt hM;have:=S.size;replace S:=S.av s0;refine Rg.aZ G G (T.aP ?_);refine ao (M:=M) (A:=RT.fd) (B:=RT.str) bI G G I9 QZ (DZ) G G QZ U3 (by repeat (first|exact bN _ _|refine bg (bO U3) ?_)) (λyX kb=>?_);refine bD az G G G G G kb bU (λv1 j9=>?_);obtain rfl:=dS j9;refine Rg.cat (p:=t.1) (q:=[0]) rfl rfl rfl a11 ?_;refine ao (M:=M) (A:=RT.fd) (B:=RT.str) bI G G I9 QZ (QO) G G QZ U3 (by repeat (first|exact bN _ _|refine bg (bO U3) ?_)) (λRI j6=>?_);refine bD az G G G G G j6 bU (λv4 pK=>?_);obtain rfl:=dS pK;refine Rg.cat (p:=t.1++[0]) (q:=t.2) rfl rfl rfl a11 (Rg.aZ rfl rfl (aI ?_));exact aF G G ⟨G,S⟩
theorem CJ (a b:List UInt8) (w:World):Spec Tryz.prog 147 #[.string ⟨a.toArray⟩,.string ⟨b.toArray⟩] w (λv w'=>v= .int .i64 (Lib.compareBytes a b)/\w'=w):=(Any.strings_Compare Tryz.RB ⟨a.toArray⟩ ⟨b.toArray⟩ w).mono λe w' ⟨h1,h2⟩=>⟨_,h1,rfl,h2⟩
section
variable {P:Program} {r:Option Nat} {n:Nat} {L:Sl} {ds:List Deferred} {w:World} {K:Kt} {ops:Array Oper} {rest:List Oper} {d:Nat} {x:Operand} {ty:TypeId} {pos:String} {af:Array Edge}
theorem jm.tE {id:Nat} {l:List Oper} (hm:P.follows .mixedOrders=true) (dD:eY l 0=true) (h:jm P r n l L ds (w.drewN 1) K):T P r n (.region id l.toArray true) L ds w K:=by
 refine ⟨λa ha=>wpIn_region_draw λt=> ?_⟩;simp only[Region.schedule,hm,Bool.true_or,if_true,Region.linearise];obtain⟨J,h1,h2,h3,h4⟩:=h a ha;refine lP (J:=J) dD (λ{D D' a w} hi hD=>h1 D D' a w hi hD) (λ{D a' w' j o rest} hj ho nt hp jY hi hk=>h2 _ _ _ _ _ _ _ hj ho nt hp jY hi hk) h3 _ t _ a _ (by simp) a90 (λi o h1 h2=>?_) (h1 _ _ _ _ h4 λi _=>?_)
 ·simp[Array.getElem?_replicate]at h2
 ·simp[Array.getElem?_replicate]
theorem T.WB {id:Nat} {l l':List Oper} (π:List Nat) (m:Nat) (fl:List Nat) (c:Nat) (N:aL) (hm:P.follows .mixedOrders=true) (L9:Ay π l=l') (wC:eY l 0=true) (hπ:lU π l.length=true) (uP:Nat.blt m l'.length=true) (dD:eY l' 0=true) (qK:kD l' m=true) (Dj:lS l' m fl c=true)
  (h:lj P r n l'.toArray (l'.take m) L ds (w.drewN 1) (λL'=>(∀j o,j∈fl->l'[j]? =some o->cK P N (w.drewN 1) L' o)/\uF P r n l'.toArray N (w.drewN 1) K c (l'.drop m) L' ds (w.drewN 1))):T P r n (.region id l.toArray true) L ds w K:=by
 subst L9;exact jm.tE hm wC (.perm π hπ wC (DE m fl c N uP dD qK Dj h))
theorem Rg.WC {e:TypeId} {v:Value} (hx:ev L x=some v) (hd:Nat.blt d n=true) (k:Rg P r n ops rest ((d,.pointer (some ⟨w.heap.size,0,none⟩))::L) ds (w.alloc (.cells v.cells e (0,0))) K):
  Rg P r n ops ({dst:=some d,op:= .box e x,type:=ty,pos,after:=af,guard:=none}::rest) L ds w K:=by
 refine .op a04 G G hd _ (w.alloc (.cells v.cells e (0,0))) (λρ hρ=>?_) k;simp only[execOp,hρ x _ hx];simp[Instr.box,newVar,newRow,newObj,Sem.run]
theorem GS (w:World) (o:Obj):w.alloc o=Go.Sort.grow w #[o]:=by
 unfold World.alloc Go.Sort.grow;congr 1
theorem GU (w:World) (os:Array Obj) (q:Nat):(Go.Sort.grow w os).drewN q=Go.Sort.grow (w.drewN q) os:=rfl
end
abbrev gh (t:Fd):Obj:= .cells #[.string ⟨t.1.toArray⟩,.string ⟨t.2.toArray⟩] 24 (0,0)
theorem NN {t:Fd} (w0:World) (h1:t.1.length<=1000000) (h2:t.2.length<=1000000):
  Spec Tryz.prog 95 #[kv t] w0 (λv w=>v= .string ⟨(cZ t).toArray⟩/\w=w0.alloc (gh t)):=by
 refine a7 (args:=[_]) (fn:=Tryz.f95) Tryz.func95 G (n:=9) Tryz.ntmps95 (T.aP (Rg.WC G G ?_));have gb:=dn w0 (gh t);change Rg _ _ _ _ _ _ _ (w0.alloc (gh t)) _;generalize hw:w0.alloc (gh t)=w1 at gb ⊢;refine Rg.aZ G G (T.aP (aY (o':=0) bI G G I9 QZ rfl rfl (aN az rfl rfl rfl gb rfl (Rg.cat (p:=t.1) (q:=[0]) rfl rfl rfl a11 (aY (o':=1) bI rfl rfl I9 QZ rfl rfl (aN az rfl rfl rfl gb rfl (Rg.cat (p:=t.1++[0]) (q:=t.2) rfl rfl rfl a11 (Rg.aZ rfl rfl ?_))))))));refine aI ?_;exact ak2
theorem RZ {s t:Fd} (w0:World) (h1:s.1.length<=1000000) (h2:s.2.length<=1000000) (h3:t.1.length<=1000000) (h4:t.2.length<=1000000):
  Spec Tryz.prog 146 #[kv s,kv t] w0 (λv w=>v= .int .i64 (Lib.compareBytes (cZ s) (cZ t))/\w=((((w0.alloc (gh s)).alloc (gh t)).drewN 1).alloc (gh s)).alloc (gh t)):=by
 refine a7 (args:=[_,_]) (fn:=Tryz.f146) Tryz.func146 G (n:=10) Tryz.ntmps146 (T.aP (Rg.WC G G ?_));change Rg _ _ _ _ _ _ _ (w0.alloc (gh s)) _;refine Rg.WC G G ?_;change Rg _ _ _ _ _ _ _ ((w0.alloc (gh s)).alloc (gh t)) _;have g1:((w0.alloc (gh s)).alloc (gh t)).heap[w0.heap.size]? =some (gh s):=(dW aD _ _).aE (dn w0 _);have g2:=dn (w0.alloc (gh s)) (gh t);have kp:=kT aD (((w0.alloc (gh s)).alloc (gh t)).drewN 1);refine Rg.aZ G G (aK ?_);apply T.WB [0,2,1,3,4,5] 2 [1] 1 aD mixed
 ·simp+decide only[Ay,ti,eI,rE,nZ,n0,nk,fe,k9,xT,cond_true,cond_false,Nat.reduceBEq,Nat.reduceAdd,beq_self_eq_true];rfl
 ·rfl
 ·rfl
 ·rfl
 ·rfl
 ·rfl
 ·rfl
 have g1':(((w0.alloc (gh s)).alloc (gh t)).drewN 1).heap[w0.heap.size]? =some (gh s):=g1;have g2':(((w0.alloc (gh s)).alloc (gh t)).drewN 1).heap[(w0.alloc (gh s)).heap.size]? =some (gh t):=g2;refine eX (vs:=[.string ⟨s.1.toArray⟩,.string ⟨s.2.toArray⟩]) bI G lA G G G g1' (Rg.de (eX (vs:=[.string ⟨t.1.toArray⟩,.string ⟨t.2.toArray⟩]) bI G lA G G G g2' (Rg.de (fF (⟨jC ⟨ic G U3 a74,trivial⟩,?_⟩)))));replace kp:=kp.th (dW aD (((w0.alloc (gh s)).alloc (gh t)).drewN 1) (gh s));refine aQ G G E95 (NN (t:=s) _ h1 h2) (λr5 w5 hc=>?_);obtain⟨rfl,rfl⟩:=hc;refine(fun(kp:fy _ _ _)=>ad ⟨G,G,λ_=>kp,?_⟩) a02;refine aQ G G E95 (NN (t:=t) _ h3 h4) (λr6 w6 hc=>?_);obtain⟨rfl,rfl⟩:=hc;refine ad ⟨G,G,λh=>absurd G h,?_⟩;refine aQ G G agI (CJ _ _ _) (λr7 w7 hc=>?_);obtain⟨rfl,rfl⟩:=hc;refine ad ⟨G,G,λh=>absurd G h,aG G G (ad ⟨G,G,λh=>absurd G h,pH (aI ?_)⟩)⟩;exact ak2
end Go.K
namespace Go.K
open Go.Lib (compareBytes)
theorem nP (a b:UInt8) (x y:List UInt8):compareBytes (a::x) (b::y)=if a.toNat<b.toNat then-1 else if b.toNat<a.toNat then 1 else compareBytes x y:=by
 rw[compareBytes];simp only[UInt8.lt_iff_toNat_lt]
theorem zf:∀a,compareBytes a a=0
 |[]=>rfl
 |a::x=>by rw[nP,if_neg (ji _),if_neg (ji _)];exact zf x
theorem qf:∀{a b},compareBytes a b=0->a=b
 |[],[],_=>rfl
 |[],_::_,h=>by simp[compareBytes]at h
 |_::_,[],h=>by simp[compareBytes]at h
 |a::x,b::y,h=>by
  rw[nP]at h
  split at h
  ·omega
  ·split at h
   ·omega
   ·rw[qf h,UInt8.toNat_inj.1 (show a.toNat=b.toNat by omega)]
theorem oH:∀a b,compareBytes a b= -compareBytes b a
 |[],[]=>rfl
 |[],_::_=>rfl
 |_::_,[]=>rfl
 |a::x,b::y=>by
  rw[nP,nP,oH x y]
  split<;>split<;>first|omega|rfl
theorem qC:∀{a b c},compareBytes a b<0->compareBytes b c<0->compareBytes a c<0
 |[],[],_,h,_=>by simp[compareBytes]at h
 |_::_,[],_,h,_=>by simp[compareBytes]at h
 |_,_::_,[],_,h=>by simp[compareBytes]at h
 |[],_::_,_::_,_,_=>by simp[compareBytes]
 |a::x,b::y,c::z,h1,h2=>by
  rw[nP]at h1 h2 ⊢
  split at h1
  ·split at h2
   ·rw[if_pos q0];omega
   ·split at h2
    ·omega
    ·rw[if_pos q0];omega
  ·split at h1
   ·omega
   ·split at h2
    ·rw[if_pos q0];omega
    ·split at h2
     ·omega
     ·rw[if_neg q0,if_neg q0];exact qC h1 h2
theorem IS {α:Type} (f:α->List UInt8):Go.Sort.SWO (Go.Proofs.ltOf λx y=>compareBytes (f x) (f y)) where
 irrefl x:=by simp[Go.Proofs.ltOf,zf]
 trans x y z h1 h2:=by
  simp only[Go.Proofs.ltOf,decide_eq_true_eq]at*
  exact qC h1 h2
 ntrans x y z h1 h2:=by
  simp only[Go.Proofs.ltOf,decide_eq_false_iff_not]at*
  intro h3;by_cases e1:compareBytes (f x) (f y)=0
  ·rw[qf e1]at h3;exact h2 h3
  ·by_cases e2:compareBytes (f y) (f z)=0
   ·rw[qf e2]at h1;exact h1 h3
   ·have n1:=oH (f x) (f y);have n2:=oH (f y) (f z);have n3:=oH (f x) (f z);have:compareBytes (f z) (f x)<0:=qC (b:=f y) q0 q0;omega
end Go.K
namespace Go.Proofs
open Go.Shelf
def Tryz.GV:Go.Shelf.Ren:=⟨fun|6=>186|15=>179|14=>253|28=>237|29=>238|20=>287|21=>288|22=>289|23=>290|24=>291|25=>292|26=>293|27=>294|46=>312|47=>276|48=>277|49=>313|50=>314|57=>322|n=>n,fun|22=>183|24=>24|25=>246|3=>3|39=>262|0=>0|53=>336|55=>205|4=>4|46=>330|45=>329|50=>198|5=>5|9=>9|66=>357|70=>361|76=>390|77=>276|n=>n,fun|n=>n⟩
theorem Tryz.NO:Go.Proofs.SlLaysF0.n6 Tryz.prog Tryz.GV:={
 mixed:=by kernel_rfl
 f6:=⟨Tryz.f186.name,by decide,Tryz.func186.trans a03⟩
 f14:=⟨Tryz.f253.name,by decide,Tryz.func253.trans a03⟩
 f15:=Tryz.func179.trans a03
 f20:=⟨Tryz.f287.name,by decide,Tryz.func287.trans a03⟩
 f21:=⟨Tryz.f288.name,by decide,Tryz.func288.trans a03⟩
 f22:=⟨Tryz.f289.name,by decide,Tryz.func289.trans a03⟩
 f23:=⟨Tryz.f290.name,by decide,Tryz.func290.trans a03⟩
 f24:=⟨Tryz.f291.name,by decide,Tryz.func291.trans a03⟩
 f25:=⟨Tryz.f292.name,by decide,Tryz.func292.trans a03⟩
 f26:=⟨Tryz.f293.name,by decide,Tryz.func293.trans a03⟩
 f27:=⟨Tryz.f294.name,by decide,Tryz.func294.trans a03⟩
 f28:=Tryz.func237.trans a03
 f29:=Tryz.func238.trans a03
 f46:=⟨Tryz.f312.name,by decide,Tryz.func312.trans a03⟩
 f47:=Tryz.func276.trans a03
 f48:=Tryz.func277.trans a03
 f49:=⟨Tryz.f313.name,by decide,Tryz.func313.trans a03⟩
 f50:=⟨Tryz.f314.name,by decide,Tryz.func314.trans a03⟩
 f57:=⟨Tryz.f322.name,by decide,Tryz.func322.trans a03⟩
 t0:=As
 a0:=Tryz.isAgg0
 z0:=Tryz.sizeOf0
 v0:=Tryz.zeroValue0
 t3:=ak
 a3:=Tryz.isAgg3
 z3:=Tryz.sizeOf3
 v3:=Tryz.zeroValue3
 t4:=jK
 a4:=Tryz.isAgg4
 z4:=Tryz.sizeOf4
 v4:=Tryz.zeroValue4
 t5:=cU
 a5:=Tryz.isAgg5
 z5:=Tryz.sizeOf5
 v5:=Tryz.zeroValue5
 t9:=az
 a9:=Tryz.isAgg9
 z9:=Au
 v9:=nh
 t22:=jL
 a22:=Tryz.isAgg183
 z22:=Tryz.sizeOf183
 v22:=Tryz.zeroValue183
 t25:=Tryz.underlying246
 a25:=Tryz.isAgg246
 z25:=Tryz.sizeOf246
 v25:=Tryz.zeroValue246
 t39:=Tryz.underlying262
 a39:=Tryz.isAgg262
 z39:=Tryz.sizeOf262
 v39:=Tryz.zeroValue262
 t45:=Tryz.underlying329
 a45:=Tryz.isAgg329
 z45:=Tryz.sizeOf329
 v45:=Tryz.zeroValue329
 t46:=Tryz.underlying330
 a46:=Tryz.isAgg330
 z46:=Tryz.sizeOf330
 v46:=Tryz.zeroValue330
 t50:=Tryz.underlying198
 a50:=Tryz.isAgg198
 z50:=Tryz.sizeOf198
 v50:=Tryz.zeroValue198
 t53:=Tryz.underlying336
 a53:=Tryz.isAgg336
 z53:=Tryz.sizeOf336
 v53:=Tryz.zeroValue336
 t55:=rI
 a55:=Tryz.isAgg205
 z55:=Tryz.sizeOf205
 v55:=Tryz.zeroValue205
 t66:=Tryz.underlying357
 a66:=Tryz.isAgg357
 z66:=Tryz.sizeOf357
 v66:=Tryz.zeroValue357
 t70:=Tryz.underlying361
 a70:=Tryz.isAgg361
 z70:=Tryz.sizeOf361
 v70:=Tryz.zeroValue361
 t76:=Tryz.underlying390
 a76:=Tryz.isAgg390
 z76:=Tryz.sizeOf390
 v76:=Tryz.zeroValue390
 t77:=Tryz.underlying276
 a77:=Tryz.isAgg276
 z77:=Tryz.sizeOf276
 v77:=Tryz.zeroValue276}
end Go.Proofs
namespace Go.K
open Go.Proofs
set_option maxRecDepth 10000
open Go.Proofs Go.Sort
abbrev TK:Type:={t:Fd // (0:UInt8)∉t.1/\t.1.length<=1000000/\t.2.length<=1000000}
instance anC:Inhabited TK:=⟨⟨([],[]),by simp,by simp,by simp⟩⟩
def AI (x:TK):List Value:=[.string ⟨x.1.1.toArray⟩,.string ⟨x.1.2.toArray⟩]
def Lx (x y:TK):Int:=Lib.compareBytes (cZ x.1) (cZ y.1)
theorem zg:∀{a b x y:List UInt8},(0:UInt8)∉a->(0:UInt8)∉b->a++[0]++x=b++[0]++y->a=b/\x=y
 |[],[],_,_,_,_,h=>⟨rfl,by simpa using h⟩
 |[],c::b,_,_,_,hb,h=>by
  simp at h;exact absurd (by rw[<-h.1];exact bP ..) hb
 |c::a,[],_,_,ha,_,h=>by
  simp at h;exact absurd (by rw[h.1];exact bP ..) ha
 |c::a,e::b,x,y,ha,hb,h=>by
  simp only[uK,xS]at h;obtain⟨h1,h2⟩:=zg (λh=>ha (cv _ h)) (λh=>hb (cv _ h)) h.2;exact⟨by rw[h.1,h1],h2⟩
theorem aic (w:World):(isAgg 24).run Tryz.prog w= .ok true w:=by simp[isAgg,cj,run_underlying bI]
theorem abi (w:World):(Go.sizeOf 24).run Tryz.prog w= .ok 2 w:=by
 obtain⟨i,h1,_,h2,_⟩:=lA.get;simp[Go.sizeOf,typeInfo,cj,program,Sem.run,h1,h2]
theorem NP (mA off size:Nat) (w:World):CmpLays Tryz.prog 146 #[] AI 2 Lx mA off size w:=λm os dk hs x y=>
 (show Calls Tryz.prog 146 #[kv x.1,kv y.1] (sortWorldK AI 2 w mA off m dk os) (λe w'=>∃v,e= .returned v/\_/\_)from RZ (s:=x.1) (t:=y.1) _ x.2.2.1 x.2.2.2 y.2.2.1 y.2.2.2).mono λe w' ⟨v,h1,h2,h3⟩=>⟨by rw[h1,h2];rfl,1,#[gh x.1,gh y.1,gh x.1,gh y.1],by rw[h3];simp only[GS,GU,Go.Sort.grow_grow];rfl⟩
theorem abj (mA off cap:Nat) (d:Array TK) (w:World) (hH:HoldsK AI 2 w mA off d) (hblk:mA<w.heap.size) (lh:d.size<4611686018427387904):
  Spec Tryz.prog 186 #[.slice (some ⟨mA,off,none⟩) d.size cap,.func (.func 146) #[] #[]] w (λv w'=>v= .tuple #[]/\∃n os,w'=sortWorldK AI 2 w mA off n (d.toList.mergeSort λx y=> !(Go.Proofs.ltOf Lx) y x).toArray os):=by
 exact(Go.Proofs.AnyQ.slices_SortFunc_total Tryz.NO 2 aic abi AI (λ_=>rfl) (λx v hv=>by simp[AI]at hv;rcases hv with rfl|rfl<;>rfl) Lx (IS _) 146 #[] mA off cap d w agH (NP mA off d.size w) hH hblk lh (λx y h1 h2=>by
  have h0:Lx x y=0:=by
   have:=oH (cZ x.1) (cZ y.1);simp only[Go.Proofs.ltOf,decide_eq_false_iff_not]at h1 h2;unfold Lx at h1 h2 ⊢;omega
  have h3:=qf h0;obtain⟨h4,h5⟩:=zg x.2.1 y.2.1 h3;exact Subtype.ext (Prod.ext h4 h5))).mono λe w' ⟨h1,h2⟩=>⟨_,h1,G,h2⟩
end Go.K
namespace Go.K
set_option linter.unusedSectionVars false
open Go.Sort Go.Proofs
section
variable {α:Type} [Inhabited α] {enc:α->List Value} {k:Nat}
theorem wN (hk:∀x,(enc x).length=k) (h0:0<k):∀(l:List α) (t:Nat),(l.flatMap enc)[t]? =(l[t/k]?).bind λx=>(enc x)[t%k]?
 |[],t=>by simp
 |x::l,t=>by
  rw[List.flatMap_cons];rcases cI t k with h|h
  ·rw[List.getElem?_append_left (by rw[hk];exact h),Nat.div_eq_of_lt h,Nat.mod_eq_of_lt h];rfl
  ·rw[mT (by rw[hk];exact h),hk,wN hk h0 l];have e1:t/k=(t-k)/k+1:=by rw[Nat.div_eq t k,if_pos ⟨h0,h⟩]
   have e2:(t-k)%k=t%k:=by rw[Nat.mod_eq t k,if_pos ⟨h0,h⟩]
   rw[e1,e2,List.getElem?_cons_succ]
theorem qg (hk:∀x,(enc x).length=k):∀l:List α,(l.flatMap enc).length=l.length*k
 |[]=>by simp
 |x::l=>by rw[List.flatMap_cons,bM,hk,qg hk l,cH,Nat.add_mul];omega
theorem zh (hk:∀x,(enc x).length=k) (h0:0<k) (d:Array α) {t:Nat} (ht:t<d.size*k):(d.toList.flatMap enc)[t]? =some (flatK enc k d)[t]! :=by
 have h1:t/k<d.size:=Nat.div_lt_of_lt_mul (by rw[Nat.mul_comm];exact ht);have h2:t%k<k:=Nat.mod_lt _ h0;rw[wN hk h0,get_flatK _ _ _ _ ht];have e:d.toList[t/k]? =some d[t/k]! :=by simp[h1]
 rw[e];simp[hk,h2]
theorem Ki {w:World} {g:Nat} {cur:Array Value} {e:TypeId} {d:Array α} (hk:∀x,(enc x).length=k) (h0:0<k) (hg:w.heap[g]? =some (.cells cur e (0,0))) (hC:cur.toList.take (d.size*k)=d.toList.flatMap enc):HoldsK enc k w g 0 d:=λj hj=>by
 rw[size_flatK]at hj;have h1:=zh hk h0 d hj;rw[<-hC,dG,if_pos hj,Array.getElem?_toList]at h1;constructor
 ·simp[World.cell?,hg,h1]
 ·simp[World.frozen?,hg]
theorem AJ {w:World} {g n:Nat} {cur:Array Value} {e:TypeId} {d:Array α} {os:Array Obj} (hg:w.heap[g]? =some (.cells cur e (0,0))):(sortWorldK enc k w g 0 n d os).heap[g]? =some (.cells (putCells id 0 (flatK enc k d) cur) e (0,0)):=by
 have eQ:g<w.heap.size:=ah hg
 have h1:(w.heap.modify g (onCells (putCells id 0 (flatK enc k d))))[g]? =some (.cells (putCells id 0 (flatK enc k d) cur) e (0,0)):=by
  rw[uE,if_pos rfl,hg];rfl
 show((w.heap.modify g (onCells (putCells id 0 (flatK enc k d))))++os)[g]? =_;rw[Array.getElem?_append_left (by simpa using eQ)];exact h1
theorem xA {w:World} {g n:Nat} {d:Array α} {os:Array Obj}:Step allM w allM (sortWorldK enc k w g 0 n d os) (λb=>b=g):=
 ⟨λh=>absurd (h w.heap.size trivial) (ji _),rfl,rfl,rfl,by show _<=((w.heap.modify g _)++os).size;simp,λ_ _=>Iff.rfl,λb hb hn=>by
  have hn: ¬b=g:=hn;show((w.heap.modify g (onCells (putCells id 0 (flatK enc k d))))++os)[b]? =_;rw[Array.getElem?_append_left (by simpa using hb),uE,if_neg (λh=>hn h.symm)],λ_ _=>trivial⟩
theorem AK {F cur:Array Value} (h:F.size<=cur.size):(putCells id 0 F cur).toList.take F.size=F.toList:=by
 apply iG;intro j;rw[dG];by_cases hj:j<F.size
 ·rw[if_pos hj];simp[putCells,hj,Nat.lt_of_lt_of_le hj h]
 ·rw[if_neg hj,cJ a94]
theorem CK (hk:∀x,(enc x).length=k) (h0:0<k) (d:Array α):(flatK enc k d).toList=d.toList.flatMap enc:=by
 apply iG;intro j;by_cases hj:j<d.size*k
 ·rw[zh hk h0 d hj];have:j<(flatK enc k d).size:=by rw[size_flatK];exact hj
  rw[Array.getElem?_toList,getElem!_pos _ j this];exact Array.getElem?_eq_getElem this
 ·rw[cJ (by rw[Array.length_toList,size_flatK];omega),cJ (by rw[qg hk,Array.length_toList];omega)]
end
end Go.K
namespace Go.K
open Go.Proofs
set_option maxRecDepth 10000
open Go.Proofs Go.Sort
theorem IT:∀{ts:List Fd} {C:List Value} {M:aL} {w:World},fI RT.fd M w ts C->C=ts.flatMap λt=>[.string ⟨t.1.toArray⟩,.string ⟨t.2.toArray⟩]
 |[],C,_,_,h=>h
 |t::ts,C,_,_,⟨vs,r,h1,h2,h3⟩=>by
  obtain⟨va,vb,rfl,h4,h5⟩:=h2;rw[h1,IT h3,h4.1,h5.1];rfl
theorem EB {M:aL} {w:World}:∀{ts:List Fd},(∀t∈ts,t.1.length<=1000000/\t.2.length<=1000000)->fI RT.fd M w ts (ts.flatMap λt=>[.string ⟨t.1.toArray⟩,.string ⟨t.2.toArray⟩])
 |[],_=>rfl
 |t::ts,h=>by
  obtain⟨h1,h2⟩:=h t (bP ..);exact⟨_,_,rfl,⟨_,_,rfl,⟨rfl,by omega⟩,⟨rfl,by omega⟩⟩,EB λu hu=>h u (cv _ hu)⟩
def NQ (us:List Fd):Prop:=us.Pairwise λa b=>¬Lib.compareBytes (cZ b) (cZ a)<0
theorem AL {base:Nat} {v:Value} {ts:List Fd} (w0:World) (ho:Own RT.fd 24 (qO v) w0 base v ts) (hT:∀t∈ts,(0:UInt8)∉t.1/\t.1.length<=1000000/\t.2.length<=1000000) (hl:ts.length<=100000000):
  Spec Tryz.prog 186 #[v,.func (.func 146) #[] #[]] w0 (λr w=>r= .tuple #[]/\∃us:List Fd,us.Perm ts/\NQ us/\Own RT.fd 24 (qO v) w base v us/\Step allM w0 allM w (qO v)):=by
 obtain⟨⟨C,⟨hC,hr⟩,hA⟩,hm⟩:=ho;rcases hr with⟨rfl,h0⟩|⟨g,cap,cur,rfl,hb,hg,hle,Zc,hcz,JG⟩
 ·have L7:ts=[]:=cL.1 h0;subst L7;exact(AnyF.slices_SortFunc_none Tryz.NO none 0 _ w0).mono λe w' ⟨h1,h2⟩=>⟨_,h1,rfl,[],.refl _,List.Pairwise.nil,eJ _ _ _ _ _,by rw[h2];exact(Step.refl allM w0).ew a18 (λ_ _=>trivial)⟩
 ·obtain⟨d,hd⟩:∃d:Array TK,d.toList.map (·.1)=ts:=⟨(ts.attach.map λx=>(⟨x.1,hT x.1 x.2⟩:TK)).toArray,by rw[List.toList_toArray,List.map_map];exact List.attach_map_subtype_val ts⟩;have lh:d.size=ts.length:=by rw[<-hd];simp
  have hk:∀x:TK,(AI x).length=2:=λ_=>rfl
  have WD:∀l:List TK,(l.map (·.1)).flatMap (λt:Fd=>[Value.string ⟨t.1.toArray⟩,.string ⟨t.2.toArray⟩])=l.flatMap AI:=λl=>by rw[List.flatMap_map];rfl
  have hH:HoldsK AI 2 w0 g 0 d:=Ki hk q0 hg (by
   have e2:RT.fd.n=2:=rfl;rw[e2]at JG;rw[lh,JG,IT hA,<-hd,WD])
  have hs:=abj g 0 cap d w0 hH (ah hg) q0;rw[lh]at hs;refine hs.mono λr w' ⟨h1,n,os,h2⟩=>⟨h1,(d.toList.mergeSort λx y=> !(ltOf Lx) y x).map (·.1),?_,?_,?_,?_⟩
  ·rw[<-hd];exact(List.mergeSort_perm _ _).map _
  ·refine dZ.2 ((List.pairwise_mergeSort (λa b c h1 h2=>?_) (λa b=>?_) _).imp λh=>?_)
   ·simp only[ltOf,rH,decide_eq_false_iff_not]at*
    have:=(IS λx:TK=>cZ x.1).ntrans c b a (by simpa[ltOf,Lx]using h2) (by simpa[ltOf,Lx]using h1);simpa[ltOf,Lx]using this
   ·simp only[ltOf,Bool.or_eq_true,rH,decide_eq_false_iff_not];have:=oH (cZ a.1) (cZ b.1);unfold Lx;omega
   ·rw[rH]at h;exact of_decide_eq_false h
  ·have hp:=List.mergeSort_perm d.toList λx y=> !(ltOf Lx) y x
   rw[h2];generalize (d.toList.mergeSort λx y=> !(ltOf Lx) y x)=us at hp;have hul:(us.map (·.1)).length=ts.length:=by rw[b9,hp.length_eq,Array.length_toList,lh]
   have Dg:us.toArray.size*2=ts.length*2:=by rw[<-hul];simp
   have e2:RT.fd.n=2:=rfl;refine⟨⟨(us.map (·.1)).flatMap (λt:Fd=>[Value.string ⟨t.1.toArray⟩,.string ⟨t.2.toArray⟩]),⟨?_,.inr ⟨g,cap,_,by rw[hul],hb,AJ hg,by rw[hul];exact hle,Zc,by rw[<-hcz];simp[putCells],?_⟩⟩,EB λt ht=>?_⟩,hm⟩
   ·rw[WD,qg hk,b9,e2]
   ·rw[WD,hul,e2,<-Dg,<-size_flatK AI,AK (by rw[size_flatK,Dg,hcz,e2];omega),CK hk q0]
   ·obtain⟨x,_,rfl⟩:=cx.1 ht;exact x.2.2
  ·rw[h2];exact xA.ew (λb hb=>by have hb:b=g:=hb;subst hb;rfl) (λ_ _=>trivial)
end Go.K
namespace Go.K
open Go.Proofs
set_option maxRecDepth 10000
theorem EC {bs mb clock:Nat} {es:List MapEntry} (w0:World) (hk:IN es) (hT:∀e∈es,∀t,e.key=kv t->(0:UInt8)∉t.1/\t.1.length<=1000000/\t.2.length<=1000000) (hes:es.length<=100000000) (hlen:∀ts:List Fd,ts.Nodup->(∀t∈ts,∃e∈es,e.key=kv t)->ts.length<=100000000) (WA:w0.heap[bs]? =some (.cells #[.map (some mb)] 238 (0,0))) (hW:fP Tryz.prog 24 w0 mb es clock):
  Spec Tryz.prog 144 #[.func (.func 187) #[] [.pointer (some ⟨bs,0,none⟩)].toArray,.func (.func 146) #[] #[]] w0 (λv w=>∃us:List Fd,us.Nodup/\(∀t,t∈us↔∃e∈es,e.key=kv t)/\NQ us/\Own RT.fd 24 (qO v) w w0.heap.size v us/\Step allM w0 allM w aD):=by
 refine a7 (args:=[_,_]) (fn:=Tryz.f144) Tryz.func144 G (n:=12) Tryz.ntmps144 (T.aP (Rg.aZ G G (T.aP (ab G G ?_))));refine aQ G G agP (CI _ hk hes WA hW) (λv1 w1 hc=>?_);obtain⟨ts,mE,kZ,ho,s1⟩:=hc;refine Rg.aZ G G (T.aP (ab G G (ab G G ?_)));refine aQ rfl rfl agQ (AL _ ho (λt ht=>by obtain⟨e,he,hke⟩:=(kZ t).1 ht;exact hT e he t hke) (hlen ts mE λt ht=>(kZ t).1 ht)) (λr2 w2 hc=>?_);obtain⟨rfl,us,hp,Q8,hou,s2⟩:=hc;refine ad (T.aP (ab G G (Rg.aZ G G (aI ?_))));exact aF G G ⟨us,hp.nodup_iff.2 mE,λt=>hp.mem_iff.trans (kZ t),Q8,hou,s1.trans s2 (λk hk hn=>by have:=(ho.base k hn).1;omega)⟩
theorem GW {mb:Nat} (w0:World):
  Spec Tryz.prog 145 #[.map (some mb)] w0 (λv w=>∃bs,v= .func (.func 187) #[] [.pointer (some ⟨bs,0,none⟩)].toArray/\w.heap[bs]? =some (.cells #[.map (some mb)] 238 (0,0))/\w0.heap.size<=bs/\Step allM w0 allM w aD):=by
 refine a7 (args:=[_]) (fn:=Tryz.f145) Tryz.func145 G (n:=4) Tryz.ntmps145 (T.aP ?_);refine np allM G G (λbs w1 vB Dt gs s1=>?_);change w1.heap[bs]? =some (.cells #[.map (some mb)] 238 (0,0))at gs;replace s1:=s1.all;refine Rg.aZ G G (T.aP (jj (xs:=[]) (ys:=[.tmp 1]) G G G (Rg.aZ G G (aI ?_))));exact aF G G ⟨bs,G,gs,vB,s1⟩
def posOf (ts:List (Fd×Nat)) (t:Fd):List Int:=(ts.filter λp=>decide (p.1=t)).map λp=>(p.2:Int)
def seen (ts:List (Fd×Nat)):List Fd:=ts.foldl (λl p=>if p.1∈l then l else l++[p.1]) []
theorem Kj (ts:List (Fd×Nat)) (t:Fd) (i:Nat):seen (ts++[(t,i)])=if t∈seen ts then seen ts else seen ts++[t]:=by unfold seen;rw[iH];rfl
theorem zi (ts:List (Fd×Nat)) (t t':Fd) (i:Nat):posOf (ts++[(t,i)]) t'=if t=t' then posOf ts t'++[(i:Int)]else posOf ts t':=by
 unfold posOf;rw[fC];by_cases h:t=t'<;>simp[h]
theorem vJ (ts:List (Fd×Nat)) (t:Fd):(posOf ts t).length<=ts.length:=by
 unfold posOf;rw[b9];exact gU _ _
abbrev km:Value:= .slice none 0 0
structure Kl (M:aL) (w:World) (B:Nat) (ts:List (Fd×Nat)) (es:List MapEntry):Prop where
 o:∀t v,eG km es (kv t) v->Own (RT.int .i64) 3 M w B v (posOf ts t)
 a:∀t t' v v',t≠t'→eG km es (kv t) v->eG km es (kv t') v'→ka v v'
 k:es.map (·.key)=(seen ts).map kv
theorem Kl.bQ {M M':aL} {w w':World} {B:Nat} {ts:List (Fd×Nat)} {es:List MapEntry} (h:Kl M w B ts es) (s:Step M w M' w' aD):Kl M' w' B ts es:=⟨λt v hv=>(h.o t v hv).bQ s,h.a,h.k⟩
def IJ (bt mb B:Nat) (ts:List (Fd×Nat)) (M:aL) (w:World):Prop:=w.heap[bt]? =some (.cells #[.map (some mb)] 238 (0,0))/\M bt/\M mb/\B<=bt/\B<=mb/\∃es clock,fP Tryz.prog 24 w mb es clock/\Kl M w B ts es
theorem Own.kn {α:Type} {A:RT α} {e:TypeId} {M:aL} {w:World} {base b c:Nat} {a:Array MapEntry} {v:Value} {xs:List α} (h:Own A e M w base v xs) (hb:w.heap[b]? =some (.map a c)):v.ownBlock≠some b:=λhv=>by
 obtain⟨⟨C,h1,_⟩,_⟩:=h;rcases h1.2 with⟨h2,_⟩|⟨g,cap,cur,h2,_,h3,_⟩
 ·rw[h2]at hv;cases hv
 ·rw[h2]at hv;cases hv;rw[h3]at hb;cases hb
theorem tM {ts:List (Fd×Nat)} {es:List MapEntry} {t:Fd} (hk:es.map (·.key)=(seen ts).map kv):(∃e∈es,e.key=kv t)↔t∈seen ts:=by
 constructor
 ·rintro⟨e,he,h⟩;have:kv t∈(seen ts).map kv:=by rw[<-hk,<-h];exact fO he
  obtain⟨t',h1,h2⟩:=cx.1 this;rw[<-vI h2];exact h1
 ·intro h;have:kv t∈es.map (·.key):=by rw[hk];exact fO h
  obtain⟨e,h1,h2⟩:=cx.1 this;exact⟨e,h1,h2⟩
theorem Km {M:aL} {bt mb B:Nat} {ts:List (Fd×Nat)} {t:Fd} {i:Nat} (w0:World) (hM:Lt M w0) (h1:t.1.length<=900000) (h2:t.2.length<=140737488355328) (hi:i<=1000000) (L7:ts.length<=10000000) (hJ:IJ bt mb B ts M w0):
  Spec Tryz.prog 143 #[kv t,.int .i64 (i:Int),.pointer (some ⟨bt,0,none⟩)] w0 (λv w=>∃M',Lt M' w/\IJ bt mb B (ts++[(t,i)]) M' w/\Step M w0 M' w (lg M B)):=by
 obtain⟨gb,eu,fp,hB,IU,es,clock,hW,hI⟩:=hJ;refine a7 (args:=[_,_,_]) (fn:=Tryz.f143) Tryz.func143 G (n:=13) Tryz.ntmps143 ?_;have S:Step M w0 M w0 (lg M B):=(aW).ew a18 (λ_ h=>h.2);refine T.aP ?_;refine ej (A:=RT.fd) G G hM (CF q0 h2) G (λu0 w1 du s0 _=>?_);have:=ah gb;replace eu:=(s0.mem _ this).2 eu;replace gb:=s0.aE gb;replace fp:=(s0.mem _ (ah hW.at_)).2 fp;replace hW:=hW.bQ s0;replace hI:=hI.bQ s0;replace hM:=s0.lt hM;have:=S.size;replace S:=S.av s0;refine ad (aM (aN lF G G G U3 G ?_));refine bR (A:=RT.fd) bI G lA QZ G G G du bU (λv1 j9=>?_);obtain rfl:=ki j9;refine ab G G ?_;refine fw (A:=RT.int .i64) (hn:=by decide) (M:=M) ax I3 QZ G G hM (gJ q0) (.inr ⟨G,G⟩) (λRI J5 j6 s1_3=>?_);have:=ah gb;replace eu:=(s1_3.mem _ this).2 eu;replace gb:=s1_3.aE gb;replace du:=du.le QZ s1_3.le;replace fp:=(s1_3.mem _ (ah hW.at_)).2 fp;replace hW:=hW.bQ s1_3;replace hI:=hI.bQ s1_3;replace hM:=s1_3.lt hM;have:=S.size;replace S:=S.av s1_3;obtain⟨kl,Ap⟩:=NI t q0 h2;refine Rg.mapEntry (M:=M) (zv:=km) lF Bt ph G G G Ap hW fp (λw4 es4 cl4 v s Zd hv kZ CL DD s4=>?_);have hmo:∀t v,eG km es (kv t) v->v.ownBlock≠some mb:=λt v h=>(hI.o t v h).kn hW.at_
 have Uc:bt≠mb:=λe=>by subst e;have:=hW.at_;rw[gb]at this;cases this
 replace hI:Kl M w4 B ts es:=⟨λt v hv=>(hI.o t v hv).step s4 (λb hb hk=>hmo t v hv (by have hk:b=mb:=hk;rw[<-hk];exact hb)),hI.a,hI.k⟩;have abm:=(s4.mem _ (ah hW.at_)).2 fp;replace eu:=(s4.mem _ (ah gb)).2 eu;replace gb:=s4.bW gb Uc;replace j6:=j6.le s4.le;replace hM:=s4.lt hM;have hmM:∀b,b<w0.heap.size->M b->M b:=λb hb h=>(S.mem b hb).1 h
 have hz0:=S.size;replace S:=S.trans s4 (λk hk h=>by have h:k=mb:=h;subst h;exact⟨IU,hmM k hk fp⟩);have ru:=hI.o t v hv;have xG:=vJ ts t;refine cD G G G ?_;refine Rg.mF (M:=M) (base:=B) ax I3 rfl rfl rfl rfl ru j6 bU a11 a11 (by have:=ah gb;omega) (λv6 w6 ze s6 hF=>?_);have hblk:∀b,mA v b->B<=b/\M b:=λb h=>⟨(ru.base b h).1,ru.mut_ b h⟩
 have R0:∀t' v',t'≠t->eG km es (kv t') v'→ka v' v:=λt' v' fh qX=>hI.a t' t v' v fh qX hv
 have R1:∀t' v',t'≠t->eG km es (kv t') v'→Own (RT.int .i64) 3 (lL M v6) w6 B v' (posOf ts t'):=λt' v' fh qX=>(hI.o t' v' qX).step s6 (λb hb hk=>R0 t' v' fh qX b hb hk)
 have lh:∀t' v',eG km es (kv t') v'→∀b,v'.ownBlock=some b->b<w4.heap.size:=λt' v' qX b hb=>((hI.o t' v' qX).base b hb).2
 have NR:∀t' v',t'≠t->eG km es (kv t') v'→ka v6 v':=λt' v' fh qX=>(R0 t' v' fh qX).symm.grown hF (lh t' v' qX)
 have aid:v.ownBlock≠some mb:=ru.kn Zd.at_;have NS:=(s6.mem _ (ah Zd.at_)).2 abm;replace Zd:=Zd.step s6 aid;replace eu:=(s6.mem _ (ah gb)).2 eu;replace gb:=s6.bW gb (λh=>ru.fA gb QZ h);replace hM:=s6.lt hM;have aie:∀b,b<w0.heap.size->M b->M b:=λb hb h=>(S.mem b hb).1 h
 replace S:=S.trans s6 (λk hk h=>⟨(hblk k h).1,aie k hk (hblk k h).2⟩);refine cD G G G ?_;have abn:=Zd.at_;refine Rg.entryStore G G G Zd NS kZ (λw8 es8 hW8 o2 abo s8=>?_);have hm8:v6.ownBlock≠some mb:=ze.kn abn;replace ze:=ze.step s8 (λb hb hk=>hm8 (by have hk:b=mb:=hk;rw[<-hk];exact hb));have abp:∀t' v',t'≠t->eG km es (kv t') v'→Own (RT.int .i64) 3 _ w8 B v' (posOf ts t'):=λt' v' fh qX=>(R1 t' v' fh qX).step s8 (λb hb hk=>hmo t' v' qX (by have hk:b=mb:=hk;rw[<-hk];exact hb))
 have abq:=(s8.mem _ (ah abn)).2 NS;refine ad ?_
 first|refine ig.nil ?_|simp+decide only[B8,pO,if_true,if_false]|skip
 replace eu:=(s8.mem _ (ah gb)).2 eu;replace gb:=s8.bW gb Uc;replace hM:=s8.lt hM;replace S:=S.trans s8 (λk hk h=>by have h:k=mb:=h;subst h;exact⟨IU,(S.mem k hk).1 NS⟩)
 have rv:∀t1 v1,eG km es8 (kv t1) v1->(t1=t/\v1=v6)\/(t1≠t/\eG km es (kv t1) v1):=λt1 v1 j9=>by
  rcases(abo km (kv t1) v1).1 j9 with⟨h3,h4⟩|⟨h3,h4⟩
  ·exact .inl ⟨vI h3,h4⟩
  ·exact .inr ⟨λe=>h3 ai0,(CL (kv t1) v1).1 h4⟩
 refine j4 G ⟨_,hM,⟨gb,eu,abq,hB,IU,es8,_,hW8,⟨λt1 v1 j9=>?_,λt1 t2 v1 v2 fh j9 Bo=>?_,?_⟩⟩,S⟩
 ·rcases rv t1 v1 j9 with⟨rfl,rfl⟩|⟨h3,h4⟩
  ·rw[zi,if_pos rfl];exact ze
  ·rw[zi,if_neg (λe=>h3 e.symm)];exact abp t1 v1 h3 h4
 ·rcases rv t1 v1 j9 with⟨rfl,rfl⟩|⟨h3,h4⟩
  ·rcases rv t2 v2 Bo with⟨rfl,_⟩|⟨h5,h6⟩
   ·exact absurd G fh
   ·exact NR t2 v2 h5 h6
  ·rcases rv t2 v2 Bo with⟨rfl,rfl⟩|⟨h5,h6⟩
   ·exact(NR t1 v1 h3 h4).symm
   ·exact hI.a t1 t2 v1 v2 fh h4 h6
 ·rw[o2,Kj];rcases DD with⟨h3,h4⟩|⟨h3,h4⟩
  ·rw[h3,hI.k,if_pos ((tM hI.k).1 h4)]
  ·rw[h3,hI.k,if_neg (λh=>by obtain⟨e,he,hk⟩:=(tM hI.k).2 h;exact h4 e he hk)];simp[kv]
end Go.K
namespace Go.K
open Go.Maps (Keyed)
open Go.Lib (compareBytes)
theorem ED:∀a b:List UInt8,Op.bytesLess a b=decide (compareBytes a b<0)
 |[],[]=>by simp[Op.bytesLess,compareBytes]
 |_::_,[]=>by simp[Op.bytesLess,compareBytes]
 |[],_::_=>by simp[Op.bytesLess,compareBytes]
 |a::x,b::y=>by
  rw[Op.bytesLess,ED x y,nP];by_cases h1:a.toNat<b.toNat
  ·simp[UInt8.lt_iff_toNat_lt,h1]
  ·by_cases h2:b.toNat<a.toNat
   ·have: ¬a=b:=λe=>by subst e;omega
    simp[UInt8.lt_iff_toNat_lt,h1,h2,this]
   ·have:a=b:=UInt8.toNat_inj.1 q0;simp[UInt8.lt_iff_toNat_lt,h1,h2,this]
theorem qh (a b:List UInt8):compareBytes a b<0↔a<b:=by
 have h:=ED a b;rw[Go.Proofs.bytesLess_eq]at h;exact(decide_eq_decide.1 h).symm
theorem j7 (a:List UInt8): ¬a<a:=λh=>by have:=(qh a a).2 h;rw[zf]at this;omega
theorem nQ {a b c:List UInt8} (h:a<b) (h':b<c):a<c:=(qh _ _).1 (qC ((qh _ _).2 h) ((qh _ _).2 h'))
theorem mO (a b:List UInt8):a<b\/a=b\/b<a:=by
 rcases Int.lt_trichotomy (compareBytes a b) 0 with h|h|h
 ·exact .inl ((qh _ _).1 h)
 ·exact .inr (.inl (qf h))
 ·exact .inr (.inr ((qh _ _).1 (by rw[oH];omega)))
theorem j8 {a b:List UInt8} (h:a<b): ¬b<a:=λh'=>j7 a (nQ h h')
theorem GX {a b:List UInt8}:a<=b↔¬b<a:=Iff.rfl
section
variable {P:Program} {r:Option Nat} {n:Nat} {L:Sl} {ds:List Deferred} {w:World} {K:Kt} {ops:Array Oper} {rest:List Oper} {d:Nat} {x y:Operand} {ty:TypeId} {pos:String} {af:Array Edge}
theorem Rg.aih {t t':TypeId} {p q:List UInt8} (hx:ev L x=some (.string ⟨p.toArray⟩)) (hy:ev L y=some (.string ⟨q.toArray⟩)) (hd:Nat.blt d n=true)
  (k:Rg P r n ops rest ((d,.bool (decide (q<p)))::L) ds w K):
  Rg P r n ops ({dst:=some d,op:= .binOp .gtr t x y t',type:=ty,pos,after:=af,guard:=none}::rest) L ds w K:=
 .op a04 rfl rfl hd _ w (λρ h=>by
  have e:(!(decide (p<q)||p==q))=decide (q<p):=by
   rcases mO p q with h|h|h
   ·simp[h,j8 h]
   ·subst h;simp[j7]
   ·have: ¬p=q:=λe=>by subst e;exact j7 p h
    simp[h,j8 h,this]
  simp only[execOp];rw[h x _ hx,h y _ hy];simp only[binOp,Op.stringOp,j1,Go.Proofs.bytesLess_eq,e];simp[eqGuard]) k
theorem Rg.WE {t t':TypeId} {p q:List UInt8} (hx:ev L x=some (.string ⟨p.toArray⟩)) (hy:ev L y=some (.string ⟨q.toArray⟩)) (hd:Nat.blt d n=true)
  (k:Rg P r n ops rest ((d,.bool (decide (¬p<q)))::L) ds w K):
  Rg P r n ops ({dst:=some d,op:= .binOp .geq t x y t',type:=ty,pos,after:=af,guard:=none}::rest) L ds w K:=
 .op a04 rfl rfl hd _ w (λρ h=>by
  have e:(!decide (p<q))=decide (¬p<q):=by by_cases h:p<q<;>simp[h]
  simp only[execOp];rw[h x _ hx,h y _ hy];simp only[binOp,Op.stringOp,j1,Go.Proofs.bytesLess_eq,e];simp[eqGuard]) k
theorem Rg.WG {t t':TypeId} {p q:List UInt8} (hx:ev L x=some (.string ⟨p.toArray⟩)) (hy:ev L y=some (.string ⟨q.toArray⟩)) (hd:Nat.blt d n=true)
  (k:Rg P r n ops rest ((d,.bool (decide (¬q<p)))::L) ds w K):
  Rg P r n ops ({dst:=some d,op:= .binOp .leq t x y t',type:=ty,pos,after:=af,guard:=none}::rest) L ds w K:=
 .op a04 rfl rfl hd _ w (λρ h=>by
  have e:(decide (p<q)||p==q)=decide (¬q<p):=by
   rcases mO p q with h|h|h
   ·simp[h,j8 h]
   ·subst h;simp[j7]
   ·have: ¬p=q:=λe=>by subst e;exact j7 p h
    simp[h,j8 h,this]
  simp only[execOp];rw[h x _ hx,h y _ hy];simp only[binOp,Op.stringOp,j1,Go.Proofs.bytesLess_eq,e];simp[eqGuard]) k
end
abbrev GY (l:List (List UInt8)):Prop:=l.Pairwise (· < ·)
theorem Kn {ss:List (List UInt8)} (h:ss.Nodup):GY (ss.mergeSort λx y=>decide (x<=y)):=by
 have h1:(ss.mergeSort λx y=>decide (x<=y)).Pairwise (λx y=>decide (x<=y)=true):=List.pairwise_mergeSort (λa b c h1 h2=>by
  simp only[decide_eq_true_eq,GX]at h1 h2 ⊢;intro h3;rcases mO a b with h|h|h
  ·exact h2 (nQ h3 h)
  ·subst h;exact h2 h3
  ·exact h1 h) (λa b=>by
  simp only[Bool.or_eq_true,decide_eq_true_eq,GX];rcases mO a b with h|h|h
  ·exact .inl (j8 h)
  ·subst h;exact .inl (j7 a)
  ·exact .inr (j8 h)) ss
 have h2:(ss.mergeSort λx y=>decide (x<=y)).Nodup:=(List.mergeSort_perm ss _).nodup_iff.2 h;refine (h1.and h2).imp ?_;rintro a b ⟨h3,h4⟩;simp only[decide_eq_true_eq,GX]at h3;rcases mO a b with h|h|h
 ·exact h
 ·exact absurd h h4
 ·exact absurd h h3
theorem GY.nodup {l:List (List UInt8)} (h:GY l):l.Nodup:=h.imp λ{a b} h e=>by subst e;exact j7 a h
theorem NT {α:Type} {R:α->α->Prop} (hR:∀a b,R a b->R b a->a=b) {l l':List α} (h:l.Pairwise R) (h':l'.Pairwise R) (hn:l.Nodup) (Lr:l'.Nodup) (hm:∀x,x∈l↔x∈l'):l=l':=
 List.Perm.eq_of_pairwise (λa b _ _ h1 h2=>hR a b h1 h2) h h' ((List.perm_ext_iff_of_nodup hn Lr).2 hm)
theorem WH {l l':List (List UInt8)} (h:GY l) (h':GY l') (hm:∀x,x∈l↔x∈l'):l=l':=
 NT (λa b h1 h2=>absurd h2 (j8 h1)) h h' h.nodup h'.nodup hm
abbrev sv (k:List UInt8):Value:= .string ⟨k.toArray⟩
theorem CM {a b:List UInt8} (h:sv a=sv b):a=b:=by simpa[sv]using h
def GZ:Value->Option (DU×List MemPlace):=λ_=>some (.nil,[])
theorem fP.aii {P:Program} {kt:TypeId} {M:aL} {w:World} {b:Nat} {es:List MapEntry} {clock:Nat} (hk:P.underlying kt=some .string) (h:fP P kt w b es clock) (hm:M b) (hl:es.length<=maxLen) (ks:List (List UInt8)) (MG:es.map (·.key)=ks.map sv):
  ∃m:List (Lit×DU),Z7 P kt GZ M w b m/\(strKeys (DataW.map m)).Perm ks/\m.length=ks.length:=by
 have hF:Go.WideElems.Fit P kt GZ es.toArray clock:=by
  refine⟨by simpa using hl,⟨λx hx=>h.lt x ae0,?_,?_⟩,λx hx=>?_⟩
  ·simpa[List.Nodup,dZ]using h.born
  ·simpa[List.Nodup,dZ]using h.keys
  ·obtain⟨l,hl⟩:=h.ok x ae0;exact⟨(l,.nil),by simp[Go.WideElems.rd,hl,GZ]⟩
 have hp:=Go.WideShapes.sorted_perm (es.toArray.toList.map (Go.WideElems.rg P kt GZ));have hlen:(List.foldr DataW.insert [] (es.toArray.toList.map (Go.WideElems.rg P kt GZ))).length=es.length:=by rw[hp.length_eq];simp
 refine⟨_,⟨hm,es.toArray,clock,h.at_,hF,by rw[hlen];simp,rfl⟩,?_,?_⟩
 ·refine (hp.map λp=>strOf p.1).trans ?_;rw[List.map_map]
  have e:es.toArray.toList.map ((λp=>strOf p.1)∘Go.WideElems.rg (H:=Unit) P kt GZ)=ks:=by
   refine iG λi=>?_
   have hi:=congrArg (·[i]?) MG;simp only[ei]at hi ⊢
   cases he:es[i]? with
   |none=>
    rw[he]at hi
    cases aij:ks[i]? with
    |none=>simp[he]
    |some a=>rw[aij]at hi;cases hi
   |some e=>
    rw[he]at hi;obtain⟨l,hl⟩:=h.ok e (au he);obtain⟨s,hs,h1⟩:=Option.map_eq_some_iff.1 hi.symm;obtain⟨z,hz1,hz2,_⟩:=Maps.keyOf_str hk hl;have:z=s:=CM (hz1.symm.trans (by simpa using h1.symm));subst this;simp[he,hs,Go.WideElems.rg,Go.WideElems.rd,hl,GZ,hz2,strOf]
  rw[e]
 ·rw[hlen];have:=congrArg List.length MG;simpa using this
end Go.K
namespace Go.K
open Go.Lib (compareBytes)
def qi {α:Type} [DecidableEq α] (key:α->List UInt8) (t:α):List α->List α
 |[]=>[t]
 |u::l=>if key t<key u then t::u::l else if u=t then u::l else u::qi key t l
theorem qD {α:Type} [DecidableEq α] {key:α->List UInt8} {t x:α}:∀{l:List α},x∈qi key t l↔x=t\/x∈l
 |[]=>by simp[qi]
 |u::l=>by
  unfold qi
  split
  ·simp
  ·split
   ·rename_i h;subst h;simp
   ·rw[dz,qD (l:=l),dz];constructor
    ·rintro(h|h|h)
     ·exact .inr (.inl h)
     ·exact .inl h
     ·exact .inr (.inr h)
    ·rintro(h|h|h)
     ·exact .inr (.inl h)
     ·exact .inl h
     ·exact .inr (.inr h)
abbrev CN {α:Type} (key:α->List UInt8) (l:List α):Prop:=l.Pairwise λa b=>key a<key b
theorem EE {α:Type} [DecidableEq α] {key:α->List UInt8} {t:α}:∀{l:List α},(∀u∈l,key u=key t->u=t)->CN key l->CN key (qi key t l)
 |[],_,_=>by simp[qi]
 |u::l,hi,h=>by
  have h':=jx.1 h;unfold qi
  split
  ·rename_i eQ
   refine jx.2 ⟨λx hx=>?_,h⟩;rcases dz.1 hx with rfl|hx
   ·exact eQ
   ·exact nQ eQ (h'.1 x hx)
  ·rename_i eQ
   split
   ·exact h
   ·rename_i fh
    have hut:key u<key t:=by
     rcases mO (key u) (key t)with h1|h1|h1
     ·exact h1
     ·exact absurd (hi u (bP ..) h1) fh
     ·exact absurd h1 eQ
    refine jx.2 ⟨λx hx=>?_,EE (λv hv=>hi v (cv _ hv)) h'.2⟩;rcases qD.1 hx with rfl|hx
    ·exact hut
    ·exact h'.1 x hx
def allBy {α:Type} [DecidableEq α] (key:α->List UInt8) (l:List α):List α:=l.foldl (λa t=>qi key t a) []
theorem tN {α:Type} [DecidableEq α] {key:α->List UInt8} {S:α->Prop} (hS:∀a b,S a->S b->key a=key b->a=b):∀(l a:List α),(∀x∈l,S x)->(∀x∈a,S x)->CN key a->
  CN key (l.foldl (λa t=>qi key t a) a)/\∀x,x∈l.foldl (λa t=>qi key t a) a↔x∈a\/x∈l
 |[],a,_,_,h=>⟨h,λx=>by simp⟩
 |t::l,a,hl,ha,h=>by
  have ht:=hl t (bP ..)
  obtain⟨h1,h2⟩:=tN hS l (qi key t a) (λx hx=>hl x (cv _ hx)) (λx hx=>by
   rcases qD.1 hx with rfl|hx
   ·exact ht
   ·exact ha x hx) (EE (λu hu e=>hS _ _ (ha u hu) ht e) h)
  refine ⟨h1,λx=> ?_⟩;rw[pI,h2,qD,dz];constructor
  ·rintro((h|h)|h)
   ·exact .inr (.inl h)
   ·exact .inl h
   ·exact .inr (.inr h)
  ·rintro(h|h|h)
   ·exact .inl (.inr h)
   ·exact .inl (.inl h)
   ·exact .inr h
theorem CN.nodup {α:Type} {key:α->List UInt8} {l:List α} (h:CN key l):l.Nodup:=h.imp λ{a b} h e=>by subst e;exact j7 _ h
abbrev Ly (t:Fd):Prop:=(0:UInt8)∉t.1
theorem tO {a b:Fd} (ha:Ly a) (hb:Ly b) (h:cZ a=cZ b):a=b:=by
 obtain⟨h1,h2⟩:=zg ha hb h;exact Prod.ext h1 h2
def dE (tl:List (Fd×Nat)):List Fd:=allBy cZ (tl.map (·.1))
theorem tP {tl:List (Fd×Nat)} (hz:∀p∈tl,Ly p.1):CN cZ (dE tl):=
 (tN (S:=Ly) (λ_ _=>tO) _ [] (λx hx=>by obtain⟨p,hp,rfl⟩:=cx.1 hx;exact hz p hp) (λx h=>by cases h) List.Pairwise.nil).1
theorem iI {tl:List (Fd×Nat)} (hz:∀p∈tl,Ly p.1) {t:Fd}:t∈dE tl↔t∈tl.map (·.1):=by
 have:=(tN (S:=Ly) (key:=cZ) (λ_ _=>tO) (tl.map (·.1)) [] (λx hx=>by obtain⟨p,hp,rfl⟩:=cx.1 hx;exact hz p hp) (λx h=>by cases h) List.Pairwise.nil).2 t;simpa[dE,allBy]using this
theorem IV (t:Fd):∀(ts:List (Fd×Nat)) (l:List Fd),t∈ts.foldl (λl p=>if p.1∈l then l else l++[p.1]) l↔t∈l\/t∈ts.map (·.1)
 |[],l=>by simp
 |p::ts,l=>by
  rw[pI,IV t ts,eI,dz]
  split
  ·rename_i h
   constructor
   ·rintro(h1|h1)
    ·exact .inl h1
    ·exact .inr (.inr h1)
   ·rintro(h1|h1|h1)
    ·exact .inl h1
    ·exact .inl (by rw[h1];exact h)
    ·exact .inr h1
  ·rw[dw,cW];constructor
   ·rintro((h1|h1)|h1)
    ·exact .inl h1
    ·exact .inr (.inl h1)
    ·exact .inr (.inr h1)
   ·rintro(h1|h1|h1)
    ·exact .inl (.inl h1)
    ·exact .inl (.inr h1)
    ·exact .inr h1
theorem tQ {tl:List (Fd×Nat)} {t:Fd}:t∈seen tl↔t∈tl.map (·.1):=by unfold seen;rw[IV];simp
theorem EF {tl:List (Fd×Nat)} {us:List Fd} (hz:∀p∈tl,Ly p.1) (mE:us.Nodup) (kZ:∀t,t∈us↔t∈seen tl) (Q8:NQ us):us=dE tl:=by
 have hm:∀t,t∈us↔t∈dE tl:=λt=>by rw[kZ,tQ,iI hz]
 have jz:∀t∈dE tl,Ly t:=λt ht=>by obtain⟨p,hp,rfl⟩:=cx.1 ((iI hz).1 ht);exact hz p hp
 refine List.Perm.eq_of_pairwise (le:=λa b=>¬compareBytes (cZ b) (cZ a)<0) (λa b ha hb h1 h2=>?_) Q8 ((tP hz).imp λ{a b} h h'=>j8 h ((qh _ _).1 h')) ((List.perm_ext_iff_of_nodup mE (tP hz).nodup).2 hm);rw[qh]at h1 h2;rcases mO (cZ a) (cZ b)with h|h|h
 ·exact absurd h h2
 ·exact tO (jz a ((hm a).1 ha)) (jz b hb) h
 ·exact absurd h h1
theorem oI (a b:List (Fd×Nat)) (t:Fd):posOf (a++b) t=posOf a t++posOf b t:=by simp[posOf]
theorem NU {tl:List (Fd×Nat)} {t:Fd} (h:t∈tl.map (·.1)):posOf tl t≠[]:=by
 obtain⟨p,hp,rfl⟩:=cx.1 h;intro e;have:p∈tl.filter λq=>decide (q.1=p.1):=fW.2 ⟨hp,by simp⟩
 rw[List.map_eq_nil_iff.1 e]at this;cases this
theorem Ko {tl:List (Fd×Nat)} {t:Fd} (h:t∉tl.map (·.1)):posOf tl t=[]:=by
 unfold posOf;rw[List.filter_eq_nil_iff.2 λp hp=>by simp;intro e;exact h (cx.2 ⟨p,hp,e⟩)];rfl
theorem EG (x:Fd) (t:Fd):(posOf (gy x) t).Sublist ((List.range' 0 (words x.2).length).map fun(i:Nat)=>(i:Int)):=by
 have e:(gy x).map (λp=>(p.2:Int))=(List.range' 0 (words x.2).length).map fun(i:Nat)=>(i:Int):=by
  rw[<-List.zipIdx_map_snd 0 (words x.2),List.map_map];unfold gy;rw[List.map_map];rfl
 rw[<-e];exact List.filter_sublist.map _
theorem Kp (x:Fd) (t:Fd):(posOf (gy x) t).Pairwise (· < ·)/\∀i∈posOf (gy x) t,0<=i/\i<(words x.2).length:=by
 refine ⟨List.Pairwise.sublist (EG x t) (dZ.2 ((List.pairwise_lt_range' (s:=0) (n:=(words x.2).length)).imp λh=>by omega)),λi hi=> ?_⟩;have:=(EG x t).subset hi;obtain⟨k,hk,rfl⟩:=cx.1 this;have:=List.mem_range'_1.1 hk;omega
theorem Bv {x:Fd} {p:Fd×Nat} (h:p∈gy x):p.1.1=x.1/\p.1.2∈words x.2:=by
 obtain⟨q,hq,rfl⟩:=cx.1 h;have:=List.mem_zipIdx hq;exact⟨rfl,by simp only;rw[this.2.2];exact List.getElem_mem _⟩
theorem Bw {fs:List Fd} {p:Fd×Nat} (h:p∈cF fs):∃x∈fs,p.1.1=x.1/\p.1.2∈words x.2:=by
 obtain⟨x,hx,hp⟩:=List.mem_flatMap.1 h;exact⟨x,hx,Bv hp⟩
theorem sx {x t:Fd} (h:x.1≠t.1):posOf (gy x) t=[]:=Ko λhm=>by
 obtain⟨p,hp,rfl⟩:=cx.1 hm;exact h (Bv hp).1.symm
theorem vK {t:Fd}:∀{fs:List Fd},(∀x∈fs,x.1≠t.1)->posOf (cF fs) t=[]
 |[],_=>rfl
 |x::fs,h=>by
  show posOf (gy x++cF fs) t=[];rw[oI,sx (h x (bP ..)),vK λy hy=>h y (cv _ hy)];rfl
theorem EH {t:Fd}:∀{fs:List Fd},(fs.map (·.1)).Nodup->posOf (cF fs) t=[]\/∃x∈fs,posOf (cF fs) t=posOf (gy x) t
 |[],_=> .inl rfl
 |x::fs,h=>by
  have h':=List.nodup_cons.1 h;have e:posOf (cF (x::fs)) t=posOf (gy x) t++posOf (cF fs) t:=by show posOf (gy x++cF fs) t=_;rw[oI]
  by_cases hx:x.1=t.1
  ·refine .inr ⟨x,bP ..,?_⟩;rw[e,vK λy hy e=>h'.1 (by have h9:y.1∈fs.map (·.1):=fO hy;rw[e,<-hx]at h9;exact h9),fV]
  ·rw[e,sx hx,iJ];rcases EH (t:=t) h'.2 with h1|⟨y,hy,h1⟩
   ·exact .inl h1
   ·exact .inr ⟨y,cv _ hy,h1⟩
theorem EI:∀{l:List Int} {last:Int},(∀x∈l,last<x)->l.Pairwise (· < ·)->fT last l=true
 |[],_,_,_=>rfl
 |x::l,last,h1,h2=>by
  have F3:=jx.1 h2;simp only[fT,cr,decide_eq_true_eq];exact⟨h1 x (bP ..),EI F3.1 F3.2⟩
structure iy (d:Dc):Prop where
 names:∀f∈d.2,ez f.1=true
 once:(d.2.map (·.1)).Nodup
 toks:∀f∈d.2,l7 0 (words f.2)=0
 many:(cF d.2).length<=500
 few:d.2.length<=8
theorem Bx:∀{fs sn:List Fd} {n:Nat},AG sn fs n=0->(∀f∈fs,ez f.1=true/\l7 0 (words f.2)=0/\∀g∈sn,g.1≠f.1)/\(fs.map (·.1)).Nodup/\n+(cF fs).length<=500
 |[],sn,n,h=>by
  refine ⟨(λf hf=>by cases hf),List.nodup_nil,?_⟩;simp only[AG]at h
  split at h
  ·cases h
  ·simp[cF];omega
 |f::fs,sn,n,h=>by
  simp only[AG]at h
  split at h
  ·cases h
  ·rename_i h1
   split at h
   ·cases h
   ·rename_i h2
    split at h
    ·exact absurd h U3
    ·rename_i h3
     obtain⟨h4,h5,h6⟩:=Bx h;have h7:∀g∈sn,g.1≠f.1:=λg hg e=>h2 (jk.2 ⟨g,hg,by simp[e]⟩)
     refine⟨λx hx=>?_,List.nodup_cons.2 ⟨λhm=>?_,h5⟩,?_⟩
     ·rcases dz.1 hx with rfl|hx
      ·exact⟨by simpa using h1,by simpa using h3,h7⟩
      ·obtain⟨a,b,c⟩:=h4 x hx;exact⟨a,b,λg hg=>c g (jV _ hg)⟩
     ·obtain⟨y,hy,e⟩:=cx.1 hm;exact(h4 y hy).2.2 f (List.mem_append_right _ (cW.2 G)) e.symm
     ·have:(cF (f::fs)).length=(gy f).length+(cF fs).length:=by show(gy f++cF fs).length=_;rw[bM]
      rw[this,nN];omega
theorem IW {d:Dc} (h:nJ d=0):iy d:=by
 unfold nJ at h
 split at h
 ·cases h
 ·obtain⟨h1,h2,h3⟩:=Bx h;exact⟨λf hf=>(h1 f hf).1,h2,λf hf=>(h1 f hf).2.1,by omega,by omega⟩
theorem By:∀{ws:List (List UInt8)} {i:Nat},l7 i ws=0->∀x∈ws,x.length<=30
 |[],_,_,x,hx=>by cases hx
 |a::ws,i,h,x,hx=>by
  simp only[l7]at h
  split at h
  ·cases h
  ·split at h
   ·cases h
   ·rcases dz.1 hx with rfl|hx
    ·omega
    ·exact By h x hx
theorem NV {s:List UInt8} (h:ez s=true):(0:UInt8)∉s:=λh0=>by
 simp only[ez,cr,ec]at h;have:=h.2 0 h0
 revert this;decide
theorem iy.IX {d:Dc} (h:iy d):∀p∈cF d.2,Ly p.1:=λp hp=>by
 obtain⟨x,hx,h1,_⟩:=Bw hp;show(0:UInt8)∉p.1.1;rw[h1];exact NV (h.names x hx)
theorem iy.small {d:Dc} (h:iy d):∀p∈cF d.2,p.1.1.length<=12/\p.1.2.length<=30:=λp hp=>by
 obtain⟨x,hx,h1,h2⟩:=Bw hp;exact⟨by rw[h1];exact Ej (h.names x hx),By (h.toks x hx) _ h2⟩
theorem iy.pos {d:Dc} (h:iy d) (t:Fd):(posOf (cF d.2) t).Pairwise (· < ·)/\(∀i∈posOf (cF d.2) t,0<=i/\i<500)/\(posOf (cF d.2) t).length<=500:=by
 have hl:=vJ (cF d.2) t;have hm:=h.many;rcases EH (t:=t) h.once with h1|⟨x,hx,h1⟩
 ·rw[h1];exact⟨List.Pairwise.nil,(λi hi=>by cases hi),by simp⟩
 ·obtain⟨h2,h3⟩:=Kp x t
  have xm:(words x.2).length<=500:=by
   have:(gy x).length<=(cF d.2).length:=by
    obtain⟨i,hi⟩:=bK.1 hx;have:=sw hi
    have h5:(cF (d.2.take (i+1))).length<=(cF d.2).length:=by
     have:cF d.2=cF (d.2.take (i+1))++cF (d.2.drop (i+1)):=by unfold cF;rw[<-List.flatMap_append,gT]
     rw[this,bM];omega
    rw[this,bM]at h5;omega
   rw[nN]at this;omega
  rw[h1]at hl ⊢;exact⟨h2,λi hi=>⟨(h3 i hi).1,by have:=(h3 i hi).2;omega⟩,by omega⟩
theorem iy.fT {d:Dc} (h:iy d) (t:Fd):ov (posOf (cF d.2) t)=true:=by
 obtain⟨h1,h2,_⟩:=h.pos t;exact ox.2 ⟨EI (λx hx=>by have:=(h2 x hx).1;omega) h1,λx hx=>by have:=(h2 x hx).2;omega⟩
abbrev sT (e:En):List (Fd×Nat):=cF e.1.2
def EJ (i:Nat) (tl:List (Fd×Nat)) (k:List UInt8):List Po:=((dE tl).filter λt=>decide (cZ t=k)).map λt=>((i:Int),posOf tl t)
def Bz (k:List UInt8):Nat->List En->List Po
 |_,[]=>[]
 |i,e::L=>EJ i (sT e) k++Bz k (i+1) L
def pk (L:List En) (k:List UInt8):List Po:=Bz k 0 L
theorem EK (k:List UInt8) (e:En):∀(L:List En) (i:Nat),Bz k i (L++[e])=Bz k i L++EJ (i+L.length) (sT e) k
 |[],i=>by simp[Bz]
 |x::L,i=>by
  simp only[uK,Bz,EK k e L (i+1),rD,cH];rw[show i+1+L.length=i+(L.length+1) by omega]
theorem R2 (L:List En) (e:En) (k:List UInt8):pk (L++[e]) k=pk L k++EJ L.length (sT e) k:=by
 unfold pk;rw[EK];simp
def jw (L:List En):List (List UInt8):=L.flatMap λe=>(dE (sT e)).map cZ
theorem G0 (L:List En) (e:En):jw (L++[e])=jw L++(dE (sT e)).map cZ:=by simp[jw]
def keysOf (L:List En):List (List UInt8):=allBy id (jw L)
theorem oJ (L:List En):GY (keysOf L):=(tN (key:=id) (S:=λ_=>True) (λa b _ _ h=>h) _ [] (λ_ _=>trivial) (λ_ _=>trivial) List.Pairwise.nil).1
theorem mc {L:List En} {k:List UInt8}:k∈keysOf L↔k∈jw L:=by
 have:=(tN (key:=id) (S:=λ_=>True) (λa b _ _ h=>h) (jw L) [] (λ_ _=>trivial) (λ_ _=>trivial) List.Pairwise.nil).2 k;simpa[keysOf,allBy]using this
theorem filter_one {α:Type} {key:α->List UInt8} {l:List α} (h:CN key l) (k:List UInt8):l.filter (λt=>decide (key t=k))=[]\/∃t∈l,key t=k/\l.filter (λt=>decide (key t=k))=[t]:=by
 have h1:CN key (l.filter λt=>decide (key t=k)):=List.Pairwise.sublist List.filter_sublist h;have h2:∀x∈l.filter (λt=>decide (key t=k)),x∈l/\key x=k:=λx hx=>by simpa using fW.1 hx
 revert h1 h2
 generalize l.filter (λt=>decide (key t=k))=m;intro h1 h2
 match m,h1,h2 with
 |[],_,_=>exact .inl rfl
 |[t],_,h2=>exact .inr ⟨t,(h2 t (bP ..)).1,(h2 t (bP ..)).2,rfl⟩
 |t::u::m,h1,h2=>
  have:=(jx.1 h1).1 u (bP ..);rw[(h2 t (bP ..)).2,(h2 u (by simp)).2]at this;exact absurd this (j7 k)
theorem xK {d:Dc} (h:iy d) (i:Nat) (k:List UInt8):EJ i (cF d.2) k=[]\/∃t∈dE (cF d.2),cZ t=k/\EJ i (cF d.2) k=[((i:Int),posOf (cF d.2) t)]:=by
 rcases filter_one (tP h.IX) k with h1|⟨t,ht,hk,h1⟩
 ·exact .inl (by unfold EJ;rw[h1];rfl)
 ·exact .inr ⟨t,ht,hk,by unfold EJ;rw[h1];rfl⟩
theorem NW {tl:List (Fd×Nat)} {i:Nat} {t:Fd} (h:t∈dE tl):EJ i tl (cZ t)≠[]:=λe=>by
 have:t∈(dE tl).filter λu=>decide (cZ u=cZ t):=fW.2 ⟨h,by simp⟩
 rw[List.map_eq_nil_iff.1 e]at this;cases this
theorem xL (k:List UInt8):∀(L:List En) (i:Nat) (last:Int),(∀e∈L,iy e.1)->last<i->i+L.length<=2147483648->eD last (Bz k i L)=true
 |[],_,_,_,_,_=>rfl
 |e::L,i,last,hF,h1,h2=>by
  have hf:=hF e (bP ..);have hr:=λlast h=>xL k L (i+1) last (λx hx=>hF x (cv _ hx)) h (by simp at h2;omega)
  simp only[Bz];rcases xK hf i k with h3|⟨t,ht,hk,h3⟩
  ·rw[show EJ i (sT e) k=[]from h3];exact hr last q0
  ·rw[show EJ i (sT e) k=_ from h3]
   have fh:(posOf (cF e.1.2) t).isEmpty=false:=by
    have:=NU ((iI hf.IX).1 ht)
    cases h:posOf (cF e.1.2) t with
    |nil=>exact absurd h this
    |cons a b=>rfl
   simp only[uK,iJ,eD,fh,hf.fT t,hr i (by omega),ly,Bool.not_false,cr,decide_eq_true_eq];simp at h2;omega
theorem vL (k:List UInt8):∀(L:List En) (i:Nat),(∀e∈L,iy e.1)->(Bz k i L).length<=L.length/\∀p∈Bz k i L,(i:Int)<=p.1/\p.1<i+L.length/\p.2.length<=500
 |[],_,_=>⟨bu _,λp h=>by cases h⟩
 |e::L,i,hF=>by
  have hf:=hF e (bP ..);obtain⟨h1,h2⟩:=vL k L (i+1) (λx hx=>hF x (cv _ hx));simp only[Bz,cH];rcases xK hf i k with h3|⟨t,ht,hk,h3⟩
  ·rw[show EJ i (sT e) k=[]from h3];exact⟨by simpa using Nat.le_succ_of_le h1,λp hp=>by have:=h2 p (by simpa using hp);exact⟨by omega,by omega,this.2.2⟩⟩
  ·rw[show EJ i (sT e) k=_ from h3];refine ⟨by simp;omega,λp hp=> ?_⟩;rcases dz.1 hp with rfl|hp
   ·exact⟨qt _,by simp only;omega,(hf.pos t).2.2⟩
   ·have:=h2 p (by simpa using hp);exact⟨by omega,by omega,this.2.2⟩
theorem vM:∀(l:List Po) (last:Int) (m:Nat),-1<=last->eD last l=true->(∀p∈l,p.2.length<=m)->m<=1000000->(ep last l).length<=(18+9*m)*l.length/\jd l<=m*l.length
 |[],_,_,_,_,_,_=>⟨by simp[ep],by simp[jd]⟩
 |(d,ps)::l,last,m,h0,hm,hs,hmm=>by
  simp only[eD,cr,decide_eq_true_eq]at hm;obtain⟨⟨⟨⟨h1,h2⟩,h3⟩,h4⟩,h5⟩:=hm;obtain⟨h6,h7⟩:=ox.1 h4;have rM:=hs _ (bP ..);simp only at rM;obtain⟨i1,i2⟩:=vM l d m q0 h5 (λp hp=>hs p (cv _ hp)) hmm;have a1:=yj ps (-1) q0 (λx hx=>by have:=h7 x hx;omega) h6;have a3:=kL (n:=(d-last-1).toNat) q0;have a4:=kL (n:=ps.length) q0;have e1:9*ps.length<=9*m:=by omega
  constructor
  ·simp only[ep,eR,bM,cH,Nat.mul_add,Nat.mul_one];omega
  ·simp only[jd,eI,List.sum_cons,cH]at i2 ⊢;rw[Int.natCast_add,Int.mul_add];omega
theorem NX {k:List UInt8}:∀{L:List En} (i:Nat),k∈jw L->Bz k i L≠[]
 |[],_,h=>by cases h
 |e::L,i,h=>by
  simp only[Bz];intro hn;obtain⟨h1,h2⟩:=List.append_eq_nil_iff.1 hn;have h:k∈(dE (sT e)).map cZ++jw L:=h;rcases dw.1 h with h|h
  ·obtain⟨t,ht,rfl⟩:=cx.1 h;exact NW ht h1
  ·exact NX (i+1) h h2
theorem IY {k:List UInt8}:∀{L:List En} (i:Nat),k∉jw L->Bz k i L=[]
 |[],_,_=>rfl
 |e::L,i,h=>by
  have h:k∉(dE (sT e)).map cZ++jw L:=h;rw[dw,not_or]at h;simp only[Bz];rw[IY (i+1) h.2,fV];unfold EJ;rw[List.filter_eq_nil_iff.2 λt ht=>by simp;intro e';exact h.1 (cx.2 ⟨t,ht,e'⟩)];rfl
end Go.K
namespace Go.K
def RT.ptr {α:Type} (A:RT α) (hn:0<A.n:=by decide):RT α where
 n:=1
 agg:=false
 R:=λM w x vs=>∃b o us,vs=[.pointer (some ⟨b,o,none⟩)]/\¬M b/\A.R M w x us/\w.rangeAt b o us
 len:=by rintro _ _ x vs ⟨b,o,us,rfl,_⟩;rfl
 one:=by rintro _ _ x vs ⟨b,o,us,rfl,_⟩ v hv;simp at hv;subst hv;rfl
 le:=by
  rintro M w M' w' x vs hl ⟨b,o,us,h1,h2,h3,h4⟩;have hp:0<us.length:=by rw[A.len h3];exact hn
  have hc:=h4 0 (us[0]'hp) (an hp);exact⟨b,o,us,h1,(hl b (World.block_lt_of_cell? w _ hc) h2).1,A.le hl h3,rL hl h2 h4⟩
theorem IZ {α:Type} {A:RT α} {hn:0<A.n} {M:aL} {w:World} {x:α} {v:Value}:(A.ptr hn).V M w x v↔cM A M w v x:=
 ⟨fun⟨vs,⟨b,o,us,h1,h2,h3,h4⟩,h5⟩=>⟨b,o,us,by subst h1;exact h5,h2,h3,h4⟩,fun⟨b,o,us,h1,h2,h3,h4⟩=>⟨[v],⟨b,o,us,by rw[h1],h2,h3,h4⟩,rfl⟩⟩
abbrev Di:=List (List UInt8)×List Li
abbrev Se:=List Int×List Int×Di
abbrev RT.di:RT Di:=RT.pair (RT.str.sl) (((RT.li).ptr).sl)
abbrev RT.se:RT Se:=RT.pair ((RT.int .i64).sl) (RT.pair ((RT.int .i64).sl) ((RT.di).ptr))
theorem di0:Part RT.di (RT.str.sl) (λp=>p.1) 0:=jI _ _
theorem di1:Part RT.di (((RT.li).ptr).sl) (λp=>p.2) 1:=fa _ _
theorem se0:Part RT.se ((RT.int .i64).sl) (λp=>p.1) 0:=jI _ _
theorem se2:Part RT.se ((RT.di).ptr) (λp=>p.2.2) 2:=(fa ((RT.int .i64).sl) (RT.pair ((RT.int .i64).sl) ((RT.di).ptr))).trans (fa ((RT.int .i64).sl) ((RT.di).ptr))
abbrev Pa:=List Int×List Int×List (List UInt8)×List (List Po)
abbrev RT.pa:RT Pa:=RT.pair ((RT.int .i64).sl) (RT.pair ((RT.int .i64).sl) (RT.pair (RT.str.sl) (((RT.po).sl).sl)))
theorem pa0:Part RT.pa ((RT.int .i64).sl) (λp=>p.1) 0:=jI _ _
theorem pa1:Part RT.pa ((RT.int .i64).sl) (λp=>p.2.1) 1:=(fa ((RT.int .i64).sl) (RT.pair ((RT.int .i64).sl) (RT.pair (RT.str.sl) (((RT.po).sl).sl)))).trans (jI _ _)
theorem pa2:Part RT.pa (RT.str.sl) (λp=>p.2.2.1) 2:=((fa ((RT.int .i64).sl) (RT.pair ((RT.int .i64).sl) (RT.pair (RT.str.sl) (((RT.po).sl).sl)))).trans (fa ((RT.int .i64).sl) (RT.pair (RT.str.sl) (((RT.po).sl).sl)))).trans (jI _ _)
theorem pa3:Part RT.pa (((RT.po).sl).sl) (λp=>p.2.2.2) 3:=((fa ((RT.int .i64).sl) (RT.pair ((RT.int .i64).sl) (RT.pair (RT.str.sl) (((RT.po).sl).sl)))).trans (fa ((RT.int .i64).sl) (RT.pair (RT.str.sl) (((RT.po).sl).sl)))).trans (fa _ _)
theorem ail {M:aL} {w:World} {x:Se} {a b c:Value} (h0:((RT.int .i64).sl).V M w x.1 a) (h1:((RT.int .i64).sl).V M w x.2.1 b) (h2:cM RT.di M w c x.2.2):RT.se.V M w x (.agg [a,b,c].toArray):=
 ⟨[a,b,c],⟨[a],[b,c],rfl,lW h0 rfl rfl,[b],[c],rfl,lW h1 rfl rfl,lW (IZ.2 h2) rfl rfl⟩,rfl⟩
theorem aim {M:aL} {w:World} {x:Pa} {a b c d:Value} (h0:((RT.int .i64).sl).V M w x.1 a) (h1:((RT.int .i64).sl).V M w x.2.1 b) (h2:(RT.str.sl).V M w x.2.2.1 c) (h3:(((RT.po).sl).sl).V M w x.2.2.2 d):RT.pa.V M w x (.agg [a,b,c,d].toArray):=
 ⟨[a,b,c,d],⟨[a],[b,c,d],rfl,lW h0 rfl rfl,[b],[c,d],rfl,lW h1 rfl rfl,[c],[d],rfl,lW h2 rfl rfl,lW h3 rfl rfl⟩,rfl⟩
theorem G1 {α:Type} {A:RT α} (hg:A.agg=true) {M:aL} {w:World} {x:α} {vs:List Value} (h:A.V M w x (.agg vs.toArray)):∀u∈vs,u.oneCell'=true:=by
 obtain⟨us,h1,h2⟩:=h
 have:vs=us:=by
  unfold RT.val at h2;rw[if_pos hg]at h2;injection h2 with h2
  simpa using congrArg Array.toList h2
 subst this;exact A.one h1
theorem fI.free {α:Type} {A:RT α} (hA:∀M w M' w' x vs,A.R M w x vs->A.R M' w' x vs) {M M':aL} {w w':World}:∀{xs:List α} {C:List Value},fI A M w xs C->fI A M' w' xs C
 |[],_,h=>h
 |x::xs,C,h=>by
  obtain⟨vs,r,h1,h2,h3⟩:=h;exact⟨vs,r,h1,hA _ _ _ _ _ _ h2,fI.free hA h3⟩
theorem Own.tell {α:Type} {A:RT α} {hn:0<A.n} (hA:∀M w M' w' x vs,A.R M w x vs->A.R M' w' x vs) {e:TypeId} {M M0:aL} {w:World} {base:Nat} {v:Value} {xs:List α} (h:Own A e M w base v xs) (hb:∀b,v.ownBlock=some b->¬M0 b) (hlen:xs.length<=140737488355328):(A.sl hn).V M0 w xs v:=by
 obtain⟨⟨C,hr,ha⟩,hm⟩:=h;have h':Own A e (λb=>v.ownBlock=some b\/M0 b) w base v xs:=⟨⟨C,hr,fI.free hA ha⟩,λb hb=> .inl hb⟩;exact h'.sl (λb _ hn=>⟨λh=>hn (.inr h),rfl⟩) hb hlen
end Go.K
namespace Go.K
open Go.Maps (Keyed)
section
variable {P:Program} {r:Option Nat} {n:Nat} {L:Sl} {ds:List Deferred} {w:World} {K:Kt} {ops:Array Oper} {rest:List Oper} {d:Nat} {x y z:Operand} {ty:TypeId} {pos:String} {af:Array Edge}
variable {kt:TypeId} {M:aL} {b clock:Nat} {es:List MapEntry}
theorem fP.WI (h:fP P kt w b es clock) {i s:Nat} {key v0 val:Value} (hi:es[i]? =some ⟨key,v0,s⟩) {w':World} (hw:w'.heap[b]? =some (.map (es.set i ⟨key,val,s⟩).toArray clock)):
  fP P kt w' b (es.set i ⟨key,val,s⟩) clock/\(es.set i ⟨key,val,s⟩).map (·.key)=es.map (·.key)/\∀zv jg v',eG zv (es.set i ⟨key,val,s⟩) jg v'↔(jg=key/\v'=val)\/(jg≠key/\eG zv es jg v'):=by
 have qM:=(al.1 hi).1;have kZ:(⟨key,v0,s⟩:MapEntry)∈es:=au hi;obtain⟨oZ,vz⟩:∃oZ,oZ=es.set i ⟨key,val,s⟩:=⟨_,rfl⟩;rw[<-vz]at hw ⊢
 have iC:∀j e',oZ[j]? =some e'→(j=i/\e'=⟨key,val,s⟩)\/(j≠i/\es[j]? =some e'):=λj e' hj=>by
  rw[vz,eS]at hj
  split at hj
  ·rename_i jl
   left;exact⟨jl.symm,by simpa[qM]using hj.symm⟩
  ·rename_i jl
   exact .inr ⟨λe=>jl e.symm,hj⟩
 have o2:oZ.map (·.key)=es.map (·.key):=by
  rw[vz,List.map_set];apply iG;intro j;rw[eS]
  split
  ·rename_i jl
   subst jl;have e:=(al.1 hi).2;simp[qM,e]
  ·rfl
 have MB:oZ.map (·.born)=es.map (·.born):=by
  rw[vz,List.map_set];apply iG;intro j;rw[eS]
  split
  ·rename_i jl
   subst jl;have e:=(al.1 hi).2;simp[qM,e]
  ·rfl
 have gL:∀e'∈oZ,(e'=⟨key,val,s⟩)\/(e'∈es/\e'.key≠key):=λe' p6=>by
  obtain⟨j,hj⟩:=bK.1 p6;rcases iC j e' hj with⟨_,e⟩|⟨fh,wz⟩
  ·exact .inl e
  ·refine .inr ⟨au wz,λe=>fh ?_⟩;rcases fq j i with h1|h1|h1
   ·exact absurd e (gZ h.keys wz hi h1)
   ·exact h1
   ·exact absurd e.symm (gZ h.keys hi wz h1)
 have MC:(⟨key,val,s⟩:MapEntry)∈oZ:=au (i:=i) (by rw[vz,eS];simp[qM])
 have hold:∀e'∈es,e'.key≠key->e'∈oZ:=λe' p6 fh=>by
  obtain⟨j,hj⟩:=bK.1 p6;refine au (i:=j) ?_;rw[vz,eS,if_neg]
  ·exact hj
  ·rintro rfl;rw[hi]at hj;cases hj;exact fh G
 refine⟨⟨hw,?_,λe' p6=>?_,?_,λe' p6=>?_⟩,o2,λzv jg v'=>?_⟩
 ·have:=dZ.2 h.born;rw[<-MB]at this;exact dZ.1 this
 ·rcases gL e' p6 with e|⟨h1,_⟩
  ·rw[e];exact(h.lt _ kZ:s<clock)
  ·exact h.lt _ h1
 ·have:=dZ.2 h.keys;rw[<-o2]at this;exact dZ.1 this
 ·rcases gL e' p6 with e|⟨h1,_⟩
  ·rw[e];exact(h.ok _ kZ:∃l,keyOf P kt key=some l)
  ·exact h.ok _ h1
 ·constructor
  ·rintro(⟨e',p6,hk,hv⟩|⟨h1,h2⟩)
   ·rcases gL e' p6 with e|⟨h3,h4⟩
    ·subst e;exact .inl ⟨hk.symm,hv⟩
    ·exact .inr ⟨by rw[<-hk];exact h4,.inl ⟨e',h3,hk,hv⟩⟩
   ·have fh:jg≠key:=λe=>h1 _ MC e.symm
    exact .inr ⟨fh,.inr ⟨λe' p6=>λe=>by
     by_cases h5:e'.key=key
     ·exact fh (e.symm.trans h5)
     ·exact h1 e' (hold e' p6 h5) e,h2⟩⟩
  ·rintro(⟨rfl,rfl⟩|⟨fh,⟨e',p6,hk,hv⟩|⟨h1,h2⟩⟩)
   ·exact .inl ⟨_,MC,G,G⟩
   ·exact .inl ⟨e',hold e' p6 (by rw[hk];exact fh),hk,hv⟩
   ·exact .inr ⟨λe' p6=>by
     rcases gL e' p6 with e|⟨h3,_⟩
     ·rw[e];exact λe=>fh e.symm
     ·exact h1 e' h3,h2⟩
theorem eG.put {key val:Value} {s:Nat} (hn:∀e∈es,e.key≠key) (zv jg v':Value):eG zv (es++[⟨key,val,s⟩]) jg v'↔(jg=key/\v'=val)\/(jg≠key/\eG zv es jg v'):=by
 constructor
 ·rintro(⟨e,he,hk,hv⟩|⟨h1,h2⟩)
  ·rcases dw.1 he with he|he
   ·exact .inr ⟨by rw[<-hk];exact hn e he,.inl ⟨e,he,hk,hv⟩⟩
   ·obtain rfl:=cW.1 he;exact .inl ⟨hk.symm,hv⟩
  ·exact .inr ⟨λe=>h1 ⟨key,val,s⟩ (by simp) e.symm,.inr ⟨λe he=>h1 e (jV _ he),h2⟩⟩
 ·rintro(⟨rfl,rfl⟩|⟨fh,⟨e,he,hk,hv⟩|⟨h1,h2⟩⟩)
  ·exact .inl ⟨⟨_,_,s⟩,by simp,rfl,rfl⟩
  ·exact .inl ⟨e,jV _ he,hk,hv⟩
  ·refine .inr ⟨λe he=>?_,h2⟩;rcases dw.1 he with he|he
   ·exact h1 e he
   ·obtain rfl:=cW.1 he;exact λe=>fh e.symm
theorem Rg.R3 {t e:TypeId} {key val:Value} {kl:Lit} (ht:P.underlying t=some (.map kt e)) (Kk:Keyed P kt) (hx:ev L x=some (.map (some b))) (hy:ev L y=some key) (hz:ev L z=some val) (kY:keyOf P kt key=some kl) (h:fP P kt w b es clock) (hm:M b)
  (k:∀w' oZ Gq,fP P kt w' b oZ Gq->((oZ.map (·.key)=es.map (·.key)/\∃e∈es,e.key=key)\/(oZ.map (·.key)=es.map (·.key)++[key]/\∀e∈es,e.key≠key))->(∀zv jg v',eG zv oZ jg v'↔(jg=key/\v'=val)\/(jg≠key/\eG zv es jg v'))->Step M w M w' (λk=>k=b)->Rg P r n ops rest L ds w' K):
  Rg P r n ops ({dst:=none,op:= .mapUpdate t x y z,type:=ty,pos,after:=af,guard:=none}::rest) L ds w K:=by
 have eQ:=ah h.at_;rcases Kk.find w kY es h.ok with⟨h1,h2⟩|⟨j,e0,h1,h2,h3⟩
 ·have hw:({w with heap:=w.heap.setIfInBounds b (.map (es.toArray.push ⟨key,val,clock⟩) (clock+1))}:World).heap[b]? =some (.map (es++([⟨key,val,clock⟩]:List MapEntry)).toArray (clock+1)):=by
   simp[dv,eQ]
  refine .U6 a04 G G _ (λρ hρ=>?_) (k _ _ _ (h.push kY h2 hw) (Or.inr ⟨by simp,h2⟩) (eG.put h2) (im M hm));simp only[execOp,hρ x _ hx,hρ y _ hy,hρ z _ hz,Instr.mapUpdate,cj,run_underlying ht,cA,dB h.at_,Kk.check w false kY,h1,run_setObj_map h.at_];simp
 ·have he:e0∈es:=au h2;obtain⟨k0,v0,s0⟩:=e0;simp only at h3;subst h3;have hj:es.toArray[j]? =some ⟨k0,v0,s0⟩:=by simpa using h2
  have MA:es.toArray.modify j (λe=>{e with key:=k0,val:=val})=(es.set j ⟨k0,val,s0⟩).toArray:=by
   apply Array.ext_getElem?;intro i;rw[uE];simp only[gV,eS]
   split
   ·rename_i hji
    subst hji;have:=(al.1 h2).1;rw[h2];simp[this]
   ·rfl
  have hw:({w with heap:=w.heap.setIfInBounds b (.map (es.set j ⟨k0,val,s0⟩).toArray clock)}:World).heap[b]? =some (.map (es.set j ⟨k0,val,s0⟩).toArray clock):=by simp[dv,eQ]
  obtain⟨hW,pJ,j9⟩:=h.WI h2 hw
  have kI:(Instr.keyThatStays ((Option.map (fun(e:MapEntry)=>e.key) es.toArray[j]?).getD k0) k0).run P w= .ok k0 w:=by
   rw[hj];simp only[fe,Option.getD_some];exact Kk.stays w kY
  refine .U6 a04 G G _ (λρ hρ=>?_) (k _ _ clock hW (Or.inl ⟨pJ,_,he,G⟩) j9 (im M hm));simp only[execOp,hρ x _ hx,hρ y _ hy,hρ z _ hz,Instr.mapUpdate,cj,run_underlying ht,cA,dB h.at_,Kk.check w false kY,h1,kI,MA,run_setObj_map h.at_];simp
theorem EL {t e:TypeId} {zv key:Value} {size bytes:Nat} {kl:Lit} (ht:P.underlying t=some (.map kt e)) (Kk:Keyed P kt) (hi:TI P e zv size bytes) (kY:keyOf P kt key=some kl) (h:fP P kt w b es clock):
  ∃v,eG zv es key v/\∀(w:World) (ρ:Operand->Value) (dst:Option Tmp) (gd:Option (Nat×Bool)),ρ x= .map (some b)->ρ y=key->fP P kt w b es clock->(execOp ρ {dst,op:= .lookup t x y false,type:=ty,pos,after:=af,guard:=gd}).run P w= .ok (.value v) w:=by
 rcases Kk.find w kY es h.ok with⟨h1,h2⟩|⟨j,e0,h1,h2,h3⟩
 ·refine ⟨zv,Or.inr ⟨h2,G⟩,λw ρ dst gd hx hy h=> ?_⟩;obtain⟨inf,i1,i2,_,_⟩:=hi.get;have hz:(zeroValue e).run P w= .ok zv w:=by simp[zeroValue,typeInfo,i1,i2]
  rcases Kk.find w kY es h.ok with⟨h1,_⟩|⟨j,e0,_,g2,g3⟩
  ·simp only[execOp,hx,hy,Instr.lookup,cj,run_underlying ht,cA,dB h.at_,my,Kk.check w _ kY,h1,hz];simp
  ·exact absurd g3 (h2 e0 (au g2))
 ·refine⟨e0.val,Or.inl ⟨e0,au h2,h3,G⟩,λw ρ dst gd hx hy h=>?_⟩;rcases Kk.find w kY es h.ok with⟨_,g2⟩|⟨j',e1,g1,g2,g3⟩
  ·exact absurd h3 (g2 e0 (au h2))
  ·have:e1=e0:=h.Iv (au g2) (au h2) (g3.trans h3.symm);subst this;simp only[execOp,hx,hy,Instr.lookup,cj,run_underlying ht,cA,dB h.at_,my,Kk.check w _ kY,g1];simp
theorem cK.tz {N:aL} {t e:TypeId} {zv key:Value} {size bytes:Nat} {kl:Lit} {dst:Option Tmp} {gd:Option (Nat×Bool)} (ht:P.underlying t=some (.map kt e)) (Kk:Keyed P kt) (hi:TI P e zv size bytes) (hx:ev L x=some (.map (some b))) (hy:ev L y=some key) (kY:keyOf P kt key=some kl) (h:fP P kt w b es clock) (hn: ¬N b):
  cK P N w L {dst,op:= .lookup t x y false,type:=ty,pos,after:=af,guard:=gd}:=λρ hρ v w' hk hr=>by
 obtain⟨v0,_,iB⟩:=EL (x:=x) (y:=y) (ty:=ty) (pos:=pos) (af:=af) ht Kk hi kY h;have h':fP P kt w' b es clock:=⟨(hk.2 b (ah h.at_) hn).trans h.at_,h.born,h.lt,h.keys,h.ok⟩;rw[iB w ρ dst gd (hρ x _ hx) (hρ y _ hy) h]at hr;rw[iB w' ρ dst gd (hρ x _ hx) (hρ y _ hy) h'];injection hr with h1 h2
 rw[h1]
end
end Go.K
namespace Go.Proofs
open Go.Shelf
def Tryz.BA:Go.Shelf.Ren:=⟨fun|7=>99|10=>152|n=>n,fun|23=>180|26=>9|3=>117|28=>193|0=>0|27=>192|33=>124|4=>4|n=>n,fun|n=>n⟩
theorem Tryz.I0:Go.Proofs.SlLaysZ.n7 Tryz.prog Tryz.BA:={
 mixed:=by kernel_rfl
 f7:=⟨Tryz.f99.name,by decide,Tryz.func99.trans a03⟩
 f10:=⟨Tryz.f152.name,by decide,Tryz.func152.trans a03⟩
 t0:=As
 a0:=Tryz.isAgg0
 z0:=Tryz.sizeOf0
 v0:=Tryz.zeroValue0
 t4:=jK
 a4:=Tryz.isAgg4
 z4:=Tryz.sizeOf4
 v4:=Tryz.zeroValue4
 t23:=iq
 a23:=Tryz.isAgg180
 z23:=Tryz.sizeOf180
 v23:=Tryz.zeroValue180
 t26:=az
 a26:=Tryz.isAgg9
 z26:=Au
 v26:=nh
 t27:=Tryz.underlying192
 a27:=Tryz.isAgg192
 z27:=Tryz.sizeOf192
 v27:=Tryz.zeroValue192
 t28:=Tryz.underlying193
 a28:=Tryz.isAgg193
 z28:=Tryz.sizeOf193
 v28:=Tryz.zeroValue193
 t33:=Tryz.underlying124
 a33:=Tryz.isAgg124
 z33:=Tryz.sizeOf124
 v33:=Tryz.zeroValue124}
def Tryz.wO:Go.Shelf.Ren:=⟨fun|6=>98|8=>150|9=>151|11=>190|13=>179|12=>191|23=>237|24=>238|14=>255|15=>256|16=>257|17=>258|18=>259|19=>260|20=>261|21=>262|22=>263|25=>295|26=>276|27=>277|28=>296|29=>297|30=>298|31=>315|n=>n,fun|26=>9|28=>193|24=>25|0=>0|3=>3|37=>262|48=>336|50=>205|4=>4|40=>330|39=>329|45=>198|5=>5|9=>9|51=>357|55=>361|57=>390|58=>276|33=>124|n=>n,fun|n=>n⟩
theorem Tryz.R4:Go.Proofs.SlLaysZ.n6 Tryz.prog Tryz.wO:={
 mixed:=by kernel_rfl
 f6:=⟨Tryz.f98.name,by decide,Tryz.func98.trans a03⟩
 f8:=⟨Tryz.f150.name,by decide,Tryz.func150.trans a03⟩
 f11:=⟨Tryz.f190.name,by decide,Tryz.func190.trans a03⟩
 t0:=As
 a0:=Tryz.isAgg0
 z0:=Tryz.sizeOf0
 v0:=Tryz.zeroValue0
 t24:=aB
 a24:=Tryz.isAgg25
 z24:=Tryz.sizeOf25
 v24:=Tryz.zeroValue25
 t26:=az
 a26:=Tryz.isAgg9
 z26:=Au
 v26:=nh
 t28:=Tryz.underlying193
 a28:=Tryz.isAgg193
 z28:=Tryz.sizeOf193
 v28:=Tryz.zeroValue193
 i26:=by kernel_rfl}
def Tryz.Kq:Go.Shelf.Ren:=⟨fun|6=>151|8=>179|9=>191|19=>237|20=>238|21=>255|22=>256|23=>257|24=>258|25=>259|26=>260|27=>261|28=>262|29=>263|36=>295|31=>276|32=>277|37=>296|38=>297|39=>298|41=>315|n=>n,fun|27=>25|29=>9|3=>3|32=>262|26=>25|0=>0|44=>336|46=>205|4=>4|36=>330|35=>329|41=>198|5=>5|9=>9|53=>357|57=>361|63=>390|64=>276|n=>n,fun|n=>n⟩
theorem Tryz.Ud:Go.Proofs.SlLaysM.n6 Tryz.prog Tryz.Kq:={
 mixed:=by kernel_rfl
 f6:=⟨Tryz.f151.name,by decide,Tryz.func151.trans a03⟩
 f8:=Tryz.func179.trans a03
 f9:=⟨Tryz.f191.name,by decide,Tryz.func191.trans a03⟩
 f19:=Tryz.func237.trans a03
 f20:=Tryz.func238.trans a03
 f21:=⟨Tryz.f255.name,by decide,Tryz.func255.trans a03⟩
 f22:=⟨Tryz.f256.name,by decide,Tryz.func256.trans a03⟩
 f23:=⟨Tryz.f257.name,by decide,Tryz.func257.trans a03⟩
 f24:=⟨Tryz.f258.name,by decide,Tryz.func258.trans a03⟩
 f25:=⟨Tryz.f259.name,by decide,Tryz.func259.trans a03⟩
 f26:=⟨Tryz.f260.name,by decide,Tryz.func260.trans a03⟩
 f27:=⟨Tryz.f261.name,by decide,Tryz.func261.trans a03⟩
 f28:=⟨Tryz.f262.name,by decide,Tryz.func262.trans a03⟩
 f29:=⟨Tryz.f263.name,by decide,Tryz.func263.trans a03⟩
 f31:=Tryz.func276.trans a03
 f32:=Tryz.func277.trans a03
 f36:=⟨Tryz.f295.name,by decide,Tryz.func295.trans a03⟩
 f37:=⟨Tryz.f296.name,by decide,Tryz.func296.trans a03⟩
 f38:=⟨Tryz.f297.name,by decide,Tryz.func297.trans a03⟩
 f39:=⟨Tryz.f298.name,by decide,Tryz.func298.trans a03⟩
 f41:=⟨Tryz.f315.name,by decide,Tryz.func315.trans a03⟩
 t0:=As
 a0:=Tryz.isAgg0
 z0:=Tryz.sizeOf0
 v0:=Tryz.zeroValue0
 t3:=ak
 a3:=Tryz.isAgg3
 z3:=Tryz.sizeOf3
 v3:=Tryz.zeroValue3
 t4:=jK
 a4:=Tryz.isAgg4
 z4:=Tryz.sizeOf4
 v4:=Tryz.zeroValue4
 t5:=cU
 a5:=Tryz.isAgg5
 z5:=Tryz.sizeOf5
 v5:=Tryz.zeroValue5
 t9:=az
 a9:=Tryz.isAgg9
 z9:=Au
 v9:=nh
 t26:=aB
 a26:=Tryz.isAgg25
 z26:=Tryz.sizeOf25
 v26:=Tryz.zeroValue25
 t27:=aB
 a27:=Tryz.isAgg25
 z27:=Tryz.sizeOf25
 v27:=Tryz.zeroValue25
 t29:=az
 a29:=Tryz.isAgg9
 z29:=Au
 v29:=nh
 t32:=Tryz.underlying262
 a32:=Tryz.isAgg262
 z32:=Tryz.sizeOf262
 v32:=Tryz.zeroValue262
 t35:=Tryz.underlying329
 a35:=Tryz.isAgg329
 z35:=Tryz.sizeOf329
 v35:=Tryz.zeroValue329
 t36:=Tryz.underlying330
 a36:=Tryz.isAgg330
 z36:=Tryz.sizeOf330
 v36:=Tryz.zeroValue330
 t41:=Tryz.underlying198
 a41:=Tryz.isAgg198
 z41:=Tryz.sizeOf198
 v41:=Tryz.zeroValue198
 t44:=Tryz.underlying336
 a44:=Tryz.isAgg336
 z44:=Tryz.sizeOf336
 v44:=Tryz.zeroValue336
 t46:=rI
 a46:=Tryz.isAgg205
 z46:=Tryz.sizeOf205
 v46:=Tryz.zeroValue205
 t53:=Tryz.underlying357
 a53:=Tryz.isAgg357
 z53:=Tryz.sizeOf357
 v53:=Tryz.zeroValue357
 t57:=Tryz.underlying361
 a57:=Tryz.isAgg361
 z57:=Tryz.sizeOf361
 v57:=Tryz.zeroValue361
 t63:=Tryz.underlying390
 a63:=Tryz.isAgg390
 z63:=Tryz.sizeOf390
 v63:=Tryz.zeroValue390
 t64:=Tryz.underlying276
 a64:=Tryz.isAgg276
 z64:=Tryz.sizeOf276
 v64:=Tryz.zeroValue276}
end Go.Proofs
namespace Go.K
open Go.Proofs
set_option maxRecDepth 10000
open Go.RowKit Go.Maps Go.Sort Go.Shelf
theorem WK (m:Nat):AnyZ.SortsIn Tryz.prog Tryz.wO Fence.wide m:=
 ⟨λmA off cap ss W hH hblk lh=>callsIn_wide.2 (AnyM.slices_Sort_string Tryz.Ud mA off cap ss W hH hblk lh),
  λp cap W=>callsIn_wide.2 (AnyM.slices_Sort_string_none Tryz.Ud p cap W)⟩
theorem G2 (mb:Option Nat) (w:World):Spec Tryz.prog 99 #[.map mb] w (λv w'=>v= .func (.func 152) #[] #[.pointer (some ⟨w.heap.size,0,none⟩)]/\w'=w.alloc (.cells #[.map mb] 180)):=
 (callsIn_wide (n:=5)).1 ((AnyZ.keys_in Tryz.I0 Fence.wide 5 trivial rfl mb w).mono λe w' ⟨h1,h2⟩=>⟨_,h1,rfl,h2⟩)
theorem CO {R:Value->Option (DU×List MemPlace)} {M:aL} {w:World} {b bb:Nat} {m:List (Lit×DU)} (h:Z7 Tryz.prog 9 R M w b m) (ME:w.cell? ⟨bb,0,none⟩=some (.map (some b))) (hl:m.length<=1099511627776):
  Spec Tryz.prog 98 #[.func (.func 152) #[] #[.pointer (some ⟨bb,0,none⟩)]] w (λv w'=>(∃ss:List (List UInt8),ss.Perm (strKeys (DataW.map m))/\w'.ownsRow w.heap.size 9 1 v ss.length ((ss.mergeSort (λx y=>decide (x<=y))).map encStr)/\(v= .slice none 0 0↔ss=[]))/\Step M w M w' aD):=by
 have ain:SeqGives Fence.wide 2 Tryz.prog 152 #[.pointer (some ⟨bb,0,none⟩)] encStr (λss=>ss.Perm (strKeys (DataW.map m))) (Maps.size (DataW.map m)) w:=
  AnyZ.keys_gives (ρ:=Tryz.BA) {Tryz.I0 with} Fence.wide _ trivial rfl q0 bb b m.length (DataW.map m) _ (World.block_lt_of_cell? w _ ME) ME h.own
 have lh:Maps.size (DataW.map m)=m.length:=rfl;have cS:=AnyZ.sorted_in Tryz.R4 Fence.wide 5 trivial trivial trivial trivial rfl q0 (WK _) (enters_of Tryz.func151 ah2 rfl) 152 #[.pointer (some ⟨bb,0,none⟩)] trivial (enters_of Tryz.func152 ah2 rfl) _ _ (by rw[lh];unfold maxLen;omega) (by rw[lh];omega) _ ain;exact(callsIn_wide (n:=5)).1 (cS.mono λe w' ⟨v,ss,h1,h2,h3,h4,h5⟩=>⟨v,h1,⟨ss,h2,h3,h4⟩,.Cp h5 M⟩)
theorem AM {w w':World} {v:Value} {t:TypeId} (h:w'=w.alloc (.cells #[v] t)):w'.cell? ⟨w.heap.size,0,none⟩=some v:=by
 subst h;exact iS (dn w _) G
end Go.K
namespace Go.K
open Go.Proofs
set_option maxRecDepth 10000
theorem R5 {M:aL} {w0:World} {v:Value} {b:List Fd} (hM:Lt M w0) (hv:(RT.fd.sl).V M w0 b v) (sM:b.length<=1099511627776):
  Spec Tryz.prog 189 #[v] w0 (λv' w'=>(RT.fd.sl).V M w' b v'∧Step M w0 M w' aD):=by
 obtain⟨a,cap,mv,hc,hl,hs⟩:=iW.1 hv;refine a7 (args:=[_]) (fn:=Tryz.f189) Tryz.func189 G (n:=8) Tryz.ntmps189 (T.aP (Rg.aZ G G (aK (T.aP (ab G G (br (v':= .slice a b.length cap) mv (Rg.tq bA G G G (ad ?_))))))));refine bF G (λc1=>?_) (λc1=>?_)
 ·refine T.aP (Rg.aZ G G (aI ?_))
  have hb:b=[]:=by
   rcases hs with h|⟨_,_,h,_⟩
   ·exact h
   ·rw[c1]at h;cases h
  exact aF rfl rfl ⟨by rw[hb];exact iQ,aW⟩
 ·refine aR (T.aP ?_);refine Rg.ZY bA jW M G (λa0 w1 s1=>?_);refine ab G G ?_;refine Rg.nz (A:=RT.fd) (hn:=by decide) (M:=M) bA jW G G G G hv s1.le (s1.lt hM) q0 (λu2 w2 fm s2=>?_);refine Rg.aZ G G (aI ?_);exact aF G G ⟨fm,s1.av s2⟩
theorem zj {M:aL} {w0:World} {v:Value} {b:List Int} (hM:Lt M w0) (hv:((RT.int .i64).sl).V M w0 b v) (sM:b.length<=1099511627776):
  Spec Tryz.prog 100 #[v] w0 (λv' w'=>((RT.int .i64).sl).V M w' b v'∧Step M w0 M w' aD):=by
 obtain⟨a,cap,mv,hc,hl,hs⟩:=iW.1 hv;refine a7 (args:=[_]) (fn:=Tryz.f100) Tryz.func100 G (n:=8) Tryz.ntmps100 (T.aP (Rg.aZ G G (aK (T.aP (ab G G (br (v':= .slice a b.length cap) mv (Rg.tq ax G G G (ad ?_))))))));refine bF G (λc1=>?_) (λc1=>?_)
 ·refine T.aP (Rg.aZ G G (aI ?_))
  have hb:b=[]:=by
   rcases hs with h|⟨_,_,h,_⟩
   ·exact h
   ·rw[c1]at h;cases h
  exact aF rfl rfl ⟨by rw[hb];exact iQ,aW⟩
 ·refine aR (T.aP ?_);refine Rg.ZY ax I3 M G (λa0 w1 s1=>?_);refine ab G G ?_;refine Rg.nz (A:=(RT.int .i64)) (hn:=by decide) (M:=M) ax I3 G G G G hv s1.le (s1.lt hM) q0 (λu2 w2 fm s2=>?_);refine Rg.aZ G G (aI ?_);exact aF G G ⟨fm,s1.av s2⟩
theorem NY {M:aL} {w0:World} {v:Value} {b:List (List UInt8)} (hM:Lt M w0) (hv:(RT.str.sl).V M w0 b v) (sM:b.length<=1099511627776):
  Spec Tryz.prog 198 #[v] w0 (λv' w'=>(RT.str.sl).V M w' b v'∧Step M w0 M w' aD):=by
 obtain⟨a,cap,mv,hc,hl,hs⟩:=iW.1 hv;refine a7 (args:=[_]) (fn:=Tryz.f198) Tryz.func198 G (n:=8) Tryz.ntmps198 (T.aP (Rg.aZ G G (aK (T.aP (ab G G (br (v':= .slice a b.length cap) mv (Rg.tq aB G G G (ad ?_))))))));refine bF G (λc1=>?_) (λc1=>?_)
 ·refine T.aP (Rg.aZ G G (aI ?_))
  have hb:b=[]:=by
   rcases hs with h|⟨_,_,h,_⟩
   ·exact h
   ·rw[c1]at h;cases h
  exact aF rfl rfl ⟨by rw[hb];exact iQ,aW⟩
 ·refine aR (T.aP ?_);refine Rg.ZY aB I9 M G (λa0 w1 s1=>?_);refine ab G G ?_;refine Rg.nz (A:=RT.str) (hn:=by decide) (M:=M) aB I9 G G G G hv s1.le (s1.lt hM) q0 (λu2 w2 fm s2=>?_);refine Rg.aZ G G (aI ?_);exact aF G G ⟨fm,s1.av s2⟩
theorem R6 {M:aL} {w0:World} {v:Value} {b:List Li} (hM:Lt M w0) (hv:(((RT.li).ptr).sl).V M w0 b v) (sM:b.length<=1099511627776):
  Spec Tryz.prog 199 #[v] w0 (λv' w'=>(((RT.li).ptr).sl).V M w' b v'∧Step M w0 M w' aD):=by
 obtain⟨a,cap,mv,hc,hl,hs⟩:=iW.1 hv;refine a7 (args:=[_]) (fn:=Tryz.f199) Tryz.func199 G (n:=8) Tryz.ntmps199 (T.aP (Rg.aZ G G (aK (T.aP (ab G G (br (v':= .slice a b.length cap) mv (Rg.tq ff G G G (ad ?_))))))));refine bF G (λc1=>?_) (λc1=>?_)
 ·refine T.aP (Rg.aZ G G (aI ?_))
  have hb:b=[]:=by
   rcases hs with h|⟨_,_,h,_⟩
   ·exact h
   ·rw[c1]at h;cases h
  exact aF rfl rfl ⟨by rw[hb];exact iQ,aW⟩
 ·refine aR (T.aP ?_);refine Rg.ZY ff sa M G (λa0 w1 s1=>?_);refine ab G G ?_;refine Rg.nz (A:=((RT.li).ptr)) (hn:=by decide) (M:=M) ff sa G G G G hv s1.le (s1.lt hM) q0 (λu2 w2 fm s2=>?_);refine Rg.aZ G G (aI ?_);exact aF G G ⟨fm,s1.av s2⟩
theorem EM {M:aL} {d:Dc} {v0:Value} (w0:World) (hM:Lt M w0) (hv:RT.dc.V M w0 d v0) (hl:d.2.length<=1099511627776):
  Spec Tryz.prog 148 #[v0] w0 (λv w=>RT.dc.V M w d v/\Step M w0 M w aD):=by
 have gX:=hM;refine a7 (args:=[_]) (fn:=Tryz.f148) Tryz.func148 G (n:=9) Tryz.ntmps148 ?_;have S:Step M w0 M w0 aD:=aW;refine T.aP ?_;refine ej (A:=RT.dc) G G hM hv G (λu0 w1 du s0 _=>?_);replace hM:=s0.lt hM;have:=S.size;replace S:=S.av s0;refine eB M kU G (λjN vH Kd Ke eO iX=>?_);obtain⟨fM,ia⟩:∃M',M'=ins M jN:=⟨_,rfl⟩;rw[<-ia]at iX;have dX:fM jN:=by rw[ia];exact .inl G
 change vH.heap[jN]? =some (.cells #[.int .i64 0,.slice none 0 0] _ _)at eO;replace du:=du.le QZ iX.le;replace hM:=iX.lt hM;have:=S.size;replace S:=S.av iX;refine ad (aK ?_);apply T.pR 4 [0,1] 1 aD mixed rfl rfl rfl rfl;intro J4 MS;have l4:=MS fM;have:=ah eO;replace dX:=(l4.mem _ this).2 dX;replace eO:=l4.aE eO;replace du:=du.le QZ l4.le;replace hM:=l4.lt hM;have:=S.size;replace S:=S.av l4;refine ao (M:=fM) (A:=RT.dc) (B:=RT.int .i64) aT G G I3 QZ (Z9) G G QZ U3 (by repeat (first|exact bN _ _|refine bg (bO U3) ?_)) (λyX kb=>?_);refine Rg.de ?_;refine bT (M:=fM) ak G G U3 (by repeat (first|exact bN _ _|refine bg (bO U3) ?_)) (λT6=>?_);refine Rg.de ?_;refine ao (M:=fM) (A:=RT.dc) (B:=(RT.fd).sl) aT G G sN QZ (F6) G G QZ U3 (by repeat (first|exact bN _ _|refine bg (bO U3) ?_)) (λWL EN=>?_);refine Rg.de ?_;refine bD (M:=fM) bA G G G G G U3 (by repeat (first|exact bN _ _|refine bg (bO U3) ?_)) (λWM I1=>?_);refine Rg.de (fF ?_);obtain⟨bb,oo,cs,ee,fr,rfl,ny,_⟩:=kb.float;refine ⟨jC ⟨oW aT G I3 QZ,⟨ic G ny (λh=>h),trivial⟩⟩,?_⟩;have kp:=kT aD J4;refine aQ G G agS (R5 hM I1 hl) (λv4 w4 hc=>?_);obtain⟨pK,s4⟩:=hc;have:=ah eO;replace dX:=(s4.mem _ this).2 dX;replace eO:=s4.aE eO;replace du:=du.le QZ s4.le;replace hM:=s4.lt hM;have:=S.size;replace S:=S.av s4;refine(fun(kp:fy _ _ _)=>ad ⟨G,G,λ_=>kp,?_⟩) a02
 refine dN (places:=[(0,1),(1,1)]) aT kU B72 rfl ⟨_,_,rfl,rfl,_,_,rfl,rfl,rfl⟩ (out:=[_,_]) ⟨0,[_],rfl,rfl,by simp[Value.cells],1,[_],rfl,iR pK,by simp[Value.cells],rfl⟩ (ad ⟨rfl,rfl,λh=>absurd rfl h,?_⟩);have hd:RT.dc.V fM w4 d (.agg [.int .i64 d.1,v4].toArray):=fz (gJ T6) pK rfl rfl rfl rfl;refine dP (M:=fM) (vs:=[.int .i64 d.1,v4]) kU G G (G1 G hd) G G eO dX (λw6 g6 s6=>?_);have:=ah eO;replace dX:=(s6.mem _ this).2 dX;replace du:=du.le QZ s6.le;replace pK:=pK.le s6.le;replace hd:=hd.le s6.le;replace hM:=s6.lt hM;have:=S.size;replace S:=S.trans s6 (λk hk h=>by have h:_=_:=h;subst h;first|(exfalso;omega)|(show _<=_;omega)|exact⟨by first|omega|assumption,(S.mem _ hk).1 ((s6.mem _ (ah eO)).1 dX)⟩|exact .inl rfl|exact .inr rfl|exact .inr (.inl rfl)|exact .inr (.inr rfl)|exact .inr (.inr (.inl rfl))|exact rfl);have mP:=g6;clear eO;have eO:=mP;clear mP;refine ad ⟨G,G,λh=>absurd G h,pH (aI ?_)⟩;exact rX (vs:=[.int .i64 d.1,v4]) G G aT G kU G eO ⟨hd.le (nY gX S),S.back⟩
theorem NZ {M:aL} {e:En} {v0:Value} (w0:World) (hM:Lt M w0) (hv:RT.en.V M w0 e v0) (hl:e.1.2.length<=1099511627776):
  Spec Tryz.prog 96 #[v0] w0 (λv w=>RT.en.V M w e v/\Step M w0 M w aD):=by
 have gX:=hM;refine a7 (args:=[_]) (fn:=Tryz.f96) Tryz.func96 G (n:=9) Tryz.ntmps96 ?_;have S:Step M w0 M w0 aD:=aW;refine T.aP ?_;refine ej (A:=RT.en) G G hM hv G (λu0 w1 du s0 _=>?_);replace hM:=s0.lt hM;have:=S.size;replace S:=S.av s0;refine eB M F7 G (λjN vH Kd Ke eO iX=>?_);obtain⟨fM,ia⟩:∃M',M'=ins M jN:=⟨_,rfl⟩;rw[<-ia]at iX;have dX:fM jN:=by rw[ia];exact .inl G
 change vH.heap[jN]? =some (.cells #[.int .i64 0,.slice none 0 0,.int .i64 0] _ _)at eO;replace du:=du.le QZ iX.le;replace hM:=iX.lt hM;have:=S.size;replace S:=S.av iX;refine ad (aK ?_);apply T.L8 [0,1,3,4,2,5,6] 4 [2,3] 1 aD mixed
 ·simp+decide only[Ay,ti,eI,rE,nZ,n0,nk,fe,k9,xT,cond_true,cond_false,Nat.reduceBEq,Nat.reduceAdd,beq_self_eq_true];rfl
 ·rfl
 ·rfl
 ·rfl
 ·rfl
 ·rfl
 ·rfl
 intro J4 MS;have l4:=MS fM;have:=ah eO;replace dX:=(l4.mem _ this).2 dX;replace eO:=l4.aE eO;replace du:=du.le QZ l4.le;replace hM:=l4.lt hM;have:=S.size;replace S:=S.av l4;refine ao (A:=RT.en) (B:=RT.dc) dQ G G kU QZ VI G G QZ du bU (λyX kb=>?_);refine Rg.de ?_;refine bR (A:=RT.dc) aT G kU QZ G G G kb bU (λxx kO=>?_);refine Rg.de ?_;refine ao (A:=RT.en) (B:=RT.int .i64) dQ G G I3 QZ en1 G G QZ du bU (λWL EN=>?_);refine Rg.de ?_;refine bT (M:=fM) ak G G U3 (by repeat (first|exact bN _ _|refine bg (bO U3) ?_)) (λN0=>?_);refine br (v':= .int .i64 (e.2)) G ?_;replace N0: -9223372036854775808<=(e.2:Int)/\e.2<=9223372036854775807:=N0;refine Rg.de (fF ?_);obtain⟨bb,oo,cs,ee,fr,rfl,ny,_⟩:=EN.float;refine ⟨jC ⟨oW dQ G I3 QZ,⟨ic G ny (λh=>h),trivial⟩⟩,?_⟩;have kp:=kT aD J4;refine aQ G G agJ (EM _ hM kO hl) (λv4 w4 hc=>?_);obtain⟨pK,s4⟩:=hc;obtain⟨uf,rfl⟩:=My pK;have:=ah eO;replace dX:=(s4.mem _ this).2 dX;replace eO:=s4.aE eO;replace du:=du.le QZ s4.le;replace hM:=s4.lt hM;have:=S.size;replace S:=S.av s4;refine(fun(kp:fy _ _ _)=>ad ⟨G,G,λ_=>kp,?_⟩) a02;refine dN (places:=[(0,2),(2,1)]) dQ F7 B74 rfl ⟨_,_,rfl,rfl,_,_,rfl,rfl,rfl⟩ (out:=[_,_,_]) ⟨0,[_,_],rfl,rfl,by simp[Value.cells],2,[_],rfl,rfl,by simp[Value.cells],rfl⟩ (ad ⟨rfl,rfl,λh=>absurd rfl h,?_⟩);have hd:RT.en.V fM w4 e (.agg [.int .i64 e.1.1,uf,.int .i64 e.2].toArray):=TW (p:=e.1) pK N0
 refine dP (M:=fM) (vs:=[.int .i64 e.1.1,uf,.int .i64 e.2]) F7 G G (G1 G hd) G G eO dX (λw6 g6 s6=>?_);have:=ah eO;replace dX:=(s6.mem _ this).2 dX;replace du:=du.le QZ s6.le;replace pK:=pK.le s6.le;replace hd:=hd.le s6.le;replace hM:=s6.lt hM;have:=S.size;replace S:=S.trans s6 (λk hk h=>by have h:_=_:=h;subst h;first|(exfalso;omega)|(show _<=_;omega)|exact⟨by first|omega|assumption,(S.mem _ hk).1 ((s6.mem _ (ah eO)).1 dX)⟩|exact .inl rfl|exact .inr rfl|exact .inr (.inl rfl)|exact .inr (.inr rfl)|exact .inr (.inr (.inl rfl))|exact rfl);have mP:=g6;clear eO;have eO:=mP;clear mP;refine ad ⟨G,G,λh=>absurd G h,pH (aI ?_)⟩;exact rX (vs:=[.int .i64 e.1.1,uf,.int .i64 e.2]) G G dQ G F7 G eO ⟨hd.le (nY gX S),S.back⟩
namespace TKBldB
theorem abr:TI Tryz.prog 238 (.map none) 1 8:=by unfold TI;kernel_rfl
theorem aio:Enters Tryz.prog 143:=enters Tryz.func143 rfl QZ
theorem aip:Enters Tryz.prog 144:=enters Tryz.func144 rfl QZ
theorem aiq:Enters Tryz.prog 145:=enters Tryz.func145 rfl QZ
end TKBldB
open TKBldB
set_option maxRecDepth 10000
theorem IJ.bQ {bt mb B:Nat} {ts:List (Fd×Nat)} {M M':aL} {w w':World} (h:IJ bt mb B ts M w) (s:Step M w M' w' aD):IJ bt mb B ts M' w':=by
 obtain⟨gb,eu,fp,hB,IU,es,clock,hW,hI⟩:=h;exact⟨s.aE gb,(s.mem _ (ah gb)).2 eu,(s.mem _ (ah hW.at_)).2 fp,hB,IU,es,clock,hW.bQ s,hI.bQ s⟩
theorem N1 {bt mb B:Nat}:Wv Tryz.prog 143 [.pointer (some ⟨bt,0,none⟩)] B (IJ bt mb B):=
 ⟨aio,λts M w M' w' h s=>h.bQ s,λts M w t i hJ hM h1 h2 hi h4=>Km w hM h1 h2 hi h4 hJ⟩
theorem N2 (M:aL) (w:World) (B:Nat):Kl M w B [] [] where
 o t v hv:=by
  rcases hv with⟨e,he,_⟩|⟨_,rfl⟩
  ·cases he
  ·exact eJ _ _ _ _ _
 a t t' v v' _ hv _:=by
  rcases hv with⟨e,he,_⟩|⟨_,rfl⟩
  ·cases he
  ·exact(ka.nil v').symm
 k:=rfl
theorem EO:∀(ts:List (Fd×Nat)) (l:List Fd),(ts.foldl (λl p=>if p.1∈l then l else l++[p.1]) l).length<=l.length+ts.length
 |[],l=>by simp
 |p::ts,l=>by
  rw[pI,cH];refine dm (EO ts _) ?_
  split
  ·omega
  ·rw[bM];simp;omega
theorem R7 (M:aL) (w:World) (M':aL) (w':World) (x:Fd) (vs:List Value) (h:RT.fd.R M w x vs):RT.fd.R M' w' x vs:=h
theorem EP {M:aL} {d:Dc} {v0:Value} (w0:World) (hM:Lt M w0) (hv:RT.dc.V M w0 d v0) (hF:iy d) (hl:∀f∈d.2,f.1.length<=900000/\f.2.length<=900000):
  Spec Tryz.prog 94 #[v0] w0 (λv w=>∃a b,v= .tuple #[a,b]/\(RT.fd.sl).V M w (dE (cF d.2)) a/\(((RT.int .i64).sl).sl).V M w ((dE (cF d.2)).map (posOf (cF d.2))) b/\Step M w0 M w aD):=by
 have gX:=hM;have Ue:=hF.many;refine a7 (args:=[_]) (fn:=Tryz.f94) Tryz.func94 G (n:=31) Tryz.ntmps94 ?_;have S:Step M w0 M w0 aD:=aW;refine T.aP ?_;refine ej (A:=RT.dc) G G hM hv G (λu0 w1 du s0 _=>?_);replace hM:=s0.lt hM;have:=S.size;replace S:=S.av s0;refine aG G G (Rg.aZ G G (T.aP ?_));refine Rg.yy M lF G (λmb w1m p1 q1 gW s1=>?_);obtain⟨WN,N4⟩:∃M',M'=ins M mb:=⟨_,rfl⟩;rw[<-N4]at s1;have CP:WN mb:=by rw[N4];exact .inl G
 replace du:=du.le QZ s1.le;replace hM:=s1.lt hM;have:=S.size;replace S:=S.av s1;refine eB WN abr G (λKr Wx arK arL AH xz=>?_);obtain⟨N5,N6⟩:∃M',M'=ins WN Kr:=⟨_,rfl⟩;rw[<-N6]at xz;have zk:N5 Kr:=by rw[N6];exact .inl G
 change Wx.heap[Kr]? =some (.cells #[.map none] _ _)at AH;replace du:=du.le QZ xz.le;replace CP:=(xz.mem _ (ah gW.at_)).2 CP;replace gW:=gW.bQ xz;replace hM:=xz.lt hM;have:=S.size;replace S:=S.av xz;refine cn (M:=N5) abr G G AH G (G) zk (λRV iw px=>?_)
 try simp only[List.setIfInBounds_toArray,List.set_cons_zero,List.set_cons_succ]at iw
 have:=ah AH;replace zk:=(px.mem _ this).2 zk;replace du:=du.le QZ px.le;replace CP:=(px.mem _ (ah gW.at_)).2 CP;replace gW:=gW.step px (by show¬(_=_);omega);replace hM:=px.lt hM;have:=S.size;replace S:=S.trans px (λk hk h=>by have h:_=_:=h;subst h;first|(exfalso;omega)|(show _<=_;omega)|exact⟨by first|omega|assumption,(S.mem _ hk).1 ((px.mem _ (ah AH)).1 zk)⟩|exact .inl rfl|exact .inr rfl|exact .inr (.inl rfl)|exact .inr (.inr rfl)|exact .inr (.inr (.inl rfl))|exact rfl);have Uf:=iw;clear AH;have AH:=Uf;clear Uf;refine ad (T.aP ?_);refine bR (M:=N5) (A:=RT.dc) aT G kU QZ G G G U3 (by repeat (first|exact bN _ _|refine bg (bO U3) ?_)) (λarM abt=>?_);refine jj (xs:=[]) (ys:=[.tmp 4]) G G G ?_;refine aQ G G aaf (Bu (cap:=[.pointer (some ⟨Kr,0,none⟩)]) (B:=w0.heap.size) _ hM abt hl hF.few (N1 (mb:=mb)) ⟨AH,zk,CP,by omega,by omega,[],0,gW,N2 _ _ _⟩) (λr2 w2 hc=>?_);obtain⟨M2,IC,⟨gb,_,_,_,_,es,clock,hW,hI⟩,s2⟩:=hc;replace S:=S.lM s2 (bu _);have pz:∀t v,eG km es (kv t) v->(((RT.int .i64).sl)).V M w2 (posOf (cF d.2) t) v:=λt v h=>(hI.o t v h).close gX S (by have:=vJ (cF d.2) t;omega)
 replace S:=S.back;replace hM:=S.lt gX
 have abu:∀e∈es,∃t∈seen (cF d.2),e.key=kv t:=λe he=>by
  have:e.key∈(seen (cF d.2)).map kv:=by rw[<-hI.k];exact fO he
  obtain⟨t,h1,h2⟩:=cx.1 this;exact⟨t,h1,h2.symm⟩
 have Ca:∀t∈seen (cF d.2),Ly t/\t.1.length<=12/\t.2.length<=30:=λt ht=>by
  obtain⟨p,hp,rfl⟩:=cx.1 (tQ.1 ht);exact⟨hF.IX p hp,hF.small p hp⟩
 have qK:(seen (cF d.2)).length<=500:=dm (EO _ _) a11;have B9:es.length<=500:=by have:=congrArg List.length hI.k;simp at this;omega
 refine ad (T.aP (aN lF G G G gb G ?_));refine aQ G G aiq (GW _) (λr3 w3 hc=>?_);obtain⟨bs,rfl,WA,_,s3⟩:=hc;replace s3:=s3.toAny M;replace hW:=hW.bQ s3;replace gb:=s3.aE gb;replace pz:=λt v h=>(pz t v h).le s3.le
 replace hM:=s3.lt hM;have:=S.size;replace S:=S.av s3
 refine aQ G G aip (EC _ (λe he=>by
  obtain⟨t,h1,h2⟩:=abu e he;exact⟨t,h2,by have:=(Ca t h1).2;omega,by have:=(Ca t h1).2;omega⟩) (λe he t ht=>by
  obtain⟨t',h1,h2⟩:=abu e he;obtain rfl:=vI (ht.symm.trans h2);exact⟨(Ca _ h1).1,by have:=(Ca _ h1).2;omega,by have:=(Ca _ h1).2;omega⟩) q0 (λts mE kZ=>by
  have:=mE.length_le_of_subset (l₂:=seen (cF d.2)) (λt ht=>(tM hI.k).1 (kZ t ht));omega) WA hW) (λr4 w4 hc=>?_)
 obtain⟨us,mE,kZ,Q8,hou,s4⟩:=hc;obtain rfl:=EF hF.IX mE (λt=>(kZ t).trans (tM hI.k)) Q8;have hul:(dE (cF d.2)).length<=500:=dm (mE.length_le_of_subset (l₂:=seen (cF d.2)) (λt ht=>tQ.2 ((iI hF.IX).1 ht))) qK;replace s4:=s4.toAny M;have Dg:(RT.fd.sl).V M w4 (dE (cF d.2)) r4:=hou.tell R7 (λb hb h=>by have:=(hou.base b hb).1;have:=hM b h;omega) q0;clear hou;replace hW:=hW.bQ s4;replace gb:=s4.aE gb;replace pz:=λt v h=>(pz t v h).le s4.le
 replace hM:=s4.lt hM;have:=S.size;replace S:=S.av s4;refine Rg.aZ G G (T.aP (Rg.aZ G G (aK (T.aP (ab G G (bz jL G Dg G (ab G G ?_)))))));refine ad (aX ?_);refine cY (σ:=Nat×Value) (λq=>[(4,.pointer (some ⟨Kr,0,none⟩)),(5,r4),(6,q.2),(16,r4),(17,.int .i64 ((dE (cF d.2)).length:Int)),(18,.int .i64 (q.1:Int))]) (λq w=>∃M',Lt M' w/\Step M w0 M' w aD/\Own ((RT.int .i64).sl) 61 M' w w0.heap.size q.2 (((dE (cF d.2)).take q.1).map (posOf (cF d.2)))/\(RT.fd.sl).V M' w (dE (cF d.2)) r4/\fP Tryz.prog 24 w mb es clock/\w.heap[Kr]? =some (.cells #[.map (some mb)] 238 (0,0))/\(∀t v,eG km es (kv t) v->(((RT.int .i64).sl)).V M' w (posOf (cF d.2) t) v)/\q.1<=(dE (cF d.2)).length) (λq=>(dE (cF d.2)).length-q.1) (0,.slice none 0 0) ae1 ?_ ?_
 ·exact⟨M,hM,S,eJ _ _ _ _ _,Dg,hW,gb,pz,bp _⟩
 ·clear hM Dg hW gb pz S;rintro⟨i,u⟩ w ⟨M1,hM,S,ho,Dg,hW,gb,pz,hi⟩;dsimp only at ho hi ⊢;refine T.aP (cy G G G (ad (aK ?_)));refine bF G (λc6=>?_) (λc6=>?_)
  ·refine aR (aK (aX (T.aP ?_)));refine cB jL lA G G G Dg bU q0 (λaaX t hg7 IK=>?_);rw[ar]at hg7;have Rh:=au hg7;have L7:=Ca t (tQ.2 ((iI hF.IX).1 Rh));refine bR (A:=RT.fd) bI G lA QZ G G G IK bU (λahQ T3=>?_);refine rG (A:=RT.fd) (M:=M1) lA G G G G G U3 bU hM (λabv ais ry vN arN=>?_);replace Dg:=Dg.le vN.le;replace ho:=ho.bQ vN;replace hW:=hW.bQ vN;replace gb:=vN.aE gb;replace pz:=λt v h=>(pz t v h).le vN.le
   replace hM:=vN.lt hM;have:=S.size;replace S:=S.av vN;refine ad (aM (ab G G (aN lF G G G gb G ?_)));refine bR (A:=RT.fd) bI G lA QZ G G G ry bU (λarO abw=>?_);obtain rfl:=ki abw;obtain⟨kl,Ap⟩:=NI t q0 q0;refine Rg.tz lF Bt ph G G G Ap hW (λv8 mv=>?_);have Dr:=pz _ _ mv;clear mv;refine fw (A:=((RT.int .i64).sl)) (hn:=by decide) (M:=M1) gp ph QZ G G hM (Dr) (.inr ⟨G,G⟩) (λarP arQ N7 ER=>?_);replace Dg:=Dg.le ER.le;replace ry:=ry.le QZ ER.le;replace ho:=ho.bQ ER;replace hW:=hW.bQ ER;replace gb:=ER.aE gb;replace pz:=λt v h=>(pz t v h).le ER.le
   replace hM:=ER.lt hM;have:=S.size;replace S:=S.av ER;refine dF (M:=M1) (base:=w0.heap.size) gp ph rfl rfl rfl rfl ho N7 bU a11 a11 (S.size) (λabx ait arR aby ES=>?_);replace Dg:=Dg.le ES.le;replace ry:=ry.le QZ ES.le;replace N7:=N7.le ES.le;replace hW:=hW.step ES (λh=>ho.kn hW.at_ h);replace gb:=ES.bW gb (λh=>ho.fA gb QZ h);replace pz:=λt v h=>(pz t v h).le ES.le
   replace hM:=ES.lt hM;have:=S.size;replace S:=S.dU ES ho (bu _);replace ho:=aby;refine Rg.aZ G G (aM (bC G G G q0 (ab G G (ad ?_))));refine⟨G,(i+1,abx),ae1,?_,?_⟩
   ·exact⟨ait,hM,S,by rw[b7,hg7,dH,dM];exact ho,Dg,hW,gb,pz,by dsimp only;omega⟩
   ·dsimp only;omega
  ·refine cN (T.aP (ab G G (ab G G (aG G G (Rg.aZ G G (aI ?_))))));have e:(dE (cF d.2)).take i=dE (cF d.2):=bm q0;rw[e]at ho;exact fc rfl rfl rfl ⟨_,_,rfl,Dg.le (nY gX S),ho.close gX S a11,S.back⟩
end Go.K
namespace Go.K
def N8 {α:Type} (A:RT α) (M:aL) (w:World) (v:Value) (x:α):Prop:=∃b o vs,v= .pointer (some ⟨b,o,none⟩)/\A.R M w x vs/\w.rangeAt b o vs
theorem Own.elem {α:Type} {A:RT α} {e:TypeId} {M:aL} {w:World} {base:Nat} {v:Value} {xs:List α} (h:Own A e M w base v xs) (hA:0<A.n) {i:Nat} {x:α} (hx:xs[i]? =some x):
  ∃g cap vs,v= .slice (some ⟨g,0,none⟩) xs.length cap/\M g/\A.R M w x vs/\w.rangeAt g (i*A.n) vs:=by
 obtain⟨⟨C,hr,ha⟩,hm⟩:=h;rcases hr.2 with⟨h1,h2⟩|⟨g,cap,cur,h1,h2,h3,h4,h5,h6,h7⟩
 ·have:xs=[]:=List.eq_nil_of_length_eq_zero h2;subst this;simp at hx
 ·obtain⟨vs,hv,hj⟩:=ha.at_ i x hx;refine ⟨g,cap,vs,h1,hm g (by rw[h1];rfl),hv,λj u hu=> ?_⟩;have h8:=hj j u hu;rw[<-h7,dG]at h8
  split at h8
  ·simp only[World.cell?,h3];simpa using h8
  ·cases h8
section
variable {P:Program} {r:Option Nat} {n:Nat} {L:Sl} {ds:List Deferred} {w:World} {K:Kt} {ops:Array Oper} {rest:List Oper} {d:Nat} {x y:Operand} {ty:TypeId} {pos:String} {af:Array Edge} {α:Type} {A:RT α}
theorem Rg.abz {t e e':TypeId} {i:Operand} {κ:IntKind} {j:Int} {M:aL} {base:Nat} {xs:List α} {v zv:Value} {bytes:Nat} (ht:P.underlying t=some (.slice e)) (hi:TI P e zv A.n bytes) (hA:0<A.n)
  (hx:ev L x=some v) (Gc:ev L i=some (.int κ j)) (hd:Nat.blt d n=true) (ho:Own A e' M w base v xs) (hj:0<=j/\j<xs.length)
  (k:∀u a,xs[j.toNat]? =some a->N8 A M w u a->Rg P r n ops rest ((d,u)::L) ds w K):
  Rg P r n ops ({dst:=some d,op:= .indexAddr t x i,type:=ty,pos,after:=af,guard:=none}::rest) L ds w K:=by
 have eQ:j.toNat<xs.length:=by omega
 obtain⟨g,cap,vs,rfl,hm,h1,h2⟩:=ho.elem hA (an eQ);refine .op a04 G G hd (.pointer (some ⟨g,0+j.toNat*A.n,none⟩)) w (λρ h=>?_) (k _ xs[j.toNat] (an eQ) ⟨g,_,vs,rfl,h1,by rw[rC];exact h2⟩);simp only[execOp,h x _ hx,h i _ Gc];simp[Instr.indexAt,run_underlying ht,asIntOf,hj,hi.sizeOf,Addr.add_mid]
theorem Rg.abA {t:TypeId} {u:TypeDesc} {M:aL} {p:Value} {a:α} (hu:P.underlying t=some u) (hf:flat u=true) (hA:A.n=1) (hg:A.agg=false)
  (hx:ev L x=some p) (hd:Nat.blt d n=true) (hp:N8 A M w p a) (k:∀v,A.V M w a v->Rg P r n ops rest ((d,v)::L) ds w K):
  Rg P r n ops ({dst:=some d,op:= .load t x,type:=ty,pos,after:=af,guard:=none}::rest) L ds w K:=by
 obtain⟨b,o,vs,rfl,h1,h2⟩:=hp;have hl:=A.len h1
 match vs,hl with
 |[v],_=>
  refine .op a04 G G hd v w (λρ h=>?_) (k v ⟨[v],h1,by simp[RT.val,hg]⟩);simp only[execOp,h x _ hx];have:=oc (P:=P) hu hf (h2 0 v rfl);simp only[Nat.add_zero]at this;rw[cj,this];simp
 |[],hl=>simp at hl;omega
 |_::_::_,hl=>simp at hl;omega
theorem Rg.Oa {t:TypeId} {fs:TypeDesc} {zv:Value} {bytes:Nat} {M:aL} {p:Value} {a:α} (hu:P.underlying t=some fs) (hf:fs.isRow=true) (hi:TI P t zv A.n bytes) (hg:A.agg=true)
  (hx:ev L x=some p) (hd:Nat.blt d n=true) (hp:N8 A M w p a) (k:∀v,A.V M w a v->Rg P r n ops rest ((d,v)::L) ds w K):
  Rg P r n ops ({dst:=some d,op:= .load t x,type:=ty,pos,after:=af,guard:=none}::rest) L ds w K:=by
 obtain⟨b,o,vs,rfl,h1,h2⟩:=hp;refine .op a04 G G hd (.agg vs.toArray) w (λρ h=>?_) (k _ ⟨vs,h1,by simp[RT.val,hg]⟩);simp only[execOp,h x _ hx];obtain⟨i,A5,_,F2,_⟩:=hi.get;have:=run_loadAt_mid (P:=P) w b o t vs fs h2 hu hf (by simp[A5,F2,A.len h1]);simp[this]
end
open Go.Proofs
namespace TKBldC
theorem aiu:TI Tryz.prog 182 (.agg #[(.slice none 0 0),(.map none),(.int .i64 0),(.int .i64 0)]) 4 48:=by unfold TI;kernel_rfl
theorem aiv:placesOf Tryz.prog 182=[(0,1),(1,1),(2,1),(3,1)].map some:=by kernel_rfl
end TKBldC
open TKBldC
set_option maxRecDepth 10000
open Go.Maps (Keyed)
theorem tR:Keyed Tryz.prog 9:=Go.Maps.string_keyed az
theorem Ob (k:List UInt8) (h:k.length<=140737488355328):∃l,keyOf Tryz.prog 9 (sv k)=some l:=by
 have e1:(⟨k.toArray⟩:ByteArray).size=k.length:=by simp[ByteArray.size]
 exact⟨_,Go.WideMaps.keyOf_string_mk az (by rw[e1];unfold maxLen;omega)⟩
structure ET (Z:aL) (M:aL) (w:World) (B:Nat) (f:List UInt8->List Po) (K:List UInt8->Prop) (es:List MapEntry):Prop where
 o:∀k v,eG km es (sv k) v->Own RT.po 188 M w B v (f k)
 a:∀k k' v v',k≠k'→eG km es (sv k) v->eG km es (sv k') v'→ka v v'
 k:∀x,(∃e∈es,e.key=sv x)↔K x
 z:∀k v c,eG km es (sv k) v->v.ownBlock=some c->Z c
theorem ET.step {Z M M' N:aL} {w w':World} {B:Nat} {f:List UInt8->List Po} {K:List UInt8->Prop} {es:List MapEntry} (h:ET Z M w B f K es) (s:Step M w M' w' N) (hn:∀k v b,eG km es (sv k) v->v.ownBlock=some b->¬N b):ET Z M' w' B f K es:=
 ⟨λk v hv=>(h.o k v hv).step s λb hb=>hn k v b hv hb,h.a,h.k,h.z⟩
theorem ET.bQ {Z M M':aL} {w w':World} {B:Nat} {f:List UInt8->List Po} {K:List UInt8->Prop} {es:List MapEntry} (h:ET Z M w B f K es) (s:Step M w M' w' aD):ET Z M' w' B f K es:=h.step s λ_ _ _ _ _ h=>h
theorem ET.congr {Z M:aL} {w:World} {B:Nat} {f f':List UInt8->List Po} {K K':List UInt8->Prop} {es:List MapEntry} (h:ET Z M w B f K es) (hf:∀k,f' k=f k) (hK:∀k,K' k↔K k):ET Z M w B f' K' es:=
 ⟨λk v hv=>by rw[hf];exact h.o k v hv,h.a,λx=>(h.k x).trans (hK x).symm,h.z⟩
theorem ET.Ks {Z Z' M:aL} {w:World} {B:Nat} {f:List UInt8->List Po} {K:List UInt8->Prop} {es:List MapEntry} (h:ET Z M w B f K es) (hz:∀c,Z c->c<w.heap.size->Z' c):ET Z' M w B f K es:=
 ⟨h.o,h.a,h.k,λk v c hv hc=>hz c (h.z k v c hv hc) ((h.o k v hv).base c hc).2⟩
theorem ET.put {Z M M2:aL} {w w1 w2:World} {B mb c:Nat} {mes:Array MapEntry} {f:List UInt8->List Po} {K:List UInt8->Prop} {es WO:List MapEntry} {k0:List UInt8} {v0 v1:Value} {ps:List Po} (h:ET Z M w B f K es) (hZ:∀c,w.heap.size<=c->Z c) (qY:eG km es (sv k0) v0)
  (ho1:Own RT.po 188 (lL M v1) w1 B v1 (f k0++ps)) (s1:Step M w (lL M v1) w1 (mA v0)) (hF:∀b,v1.ownBlock=some b->w.heap.size<=b\/v0.ownBlock=some b) (hmb:w1.heap[mb]? =some (.map mes c)) (s2:Step (lL M v1) w1 M2 w2 (λk=>k=mb))
  (CL:∀zv jg v',eG zv WO jg v'↔(jg=sv k0/\v'=v1)\/(jg≠sv k0/\eG zv es jg v')) (o2:(WO.map (·.key)=es.map (·.key)/\∃e∈es,e.key=sv k0)\/(WO.map (·.key)=es.map (·.key)++[sv k0]/\∀e∈es,e.key≠sv k0)):
  ET Z M2 w2 B (λk=>if k=k0 then f k0++ps else f k) (λx=>K x\/x=k0) WO:=by
 have rv:∀k v,eG km WO (sv k) v->(k=k0/\v=v1)\/(k≠k0/\eG km es (sv k) v):=λk v hv=>by
  rcases(CL km (sv k) v).1 hv with⟨h3,h4⟩|⟨h3,h4⟩
  ·exact .inl ⟨CM h3,h4⟩
  ·exact .inr ⟨λe=>h3 (by rw[e]),h4⟩
 have R0:∀k v,k≠k0->eG km es (sv k) v->ka v1 v:=λk v fh hv=>(h.a k k0 v v0 fh hv qY).symm.grown hF (λb hb=>((h.o k v hv).base b hb).2)
 have R1:∀k v,k≠k0->eG km es (sv k) v->Own RT.po 188 (lL M v1) w1 B v (f k):=λk v fh hv=>(h.o k v hv).step s1 (λb hb hk=>h.a k k0 v v0 fh hv qY b hb hk)
 have hnm:∀{v:Value} {xs:List Po},Own RT.po 188 (lL M v1) w1 B v xs->∀b,v.ownBlock=some b->¬b=mb:=λho b hb e=>ho.kn hmb (by rw[<-e];exact hb)
 refine⟨λk v hv=>?_,λk k' v v' fh hv qX=>?_,λx=>?_,λk v c hv hc=>?_⟩
 ·rcases rv k v hv with⟨rfl,rfl⟩|⟨h3,h4⟩
  ·rw[if_pos rfl];exact ho1.step s2 (hnm ho1)
  ·rw[if_neg h3];exact(R1 k v h3 h4).step s2 (hnm (R1 k v h3 h4))
 ·rcases rv k v hv with⟨rfl,rfl⟩|⟨h3,h4⟩
  ·rcases rv k' v' qX with⟨rfl,_⟩|⟨h5,h6⟩
   ·exact absurd G fh
   ·exact R0 k' v' h5 h6
  ·rcases rv k' v' qX with⟨rfl,rfl⟩|⟨h5,h6⟩
   ·exact(R0 k v h3 h4).symm
   ·exact h.a k k' v v' fh h4 h6
 ·have kZ:(∃e∈WO,e.key=sv x)↔sv x∈WO.map (·.key):=by simp
  have aiw:(∃e∈es,e.key=sv x)↔sv x∈es.map (·.key):=by simp
  rw[kZ,<-h.k x,aiw];rcases o2 with⟨h3,e,he,hk⟩|⟨h3,_⟩
  ·rw[h3];constructor
   ·exact .inl
   ·rintro(h4|rfl)
    ·exact h4
    ·rw[<-hk];exact fO he
  ·rw[h3,dw,cW];constructor
   ·rintro(h4|h4)
    ·exact .inl h4
    ·exact .inr (CM h4)
   ·rintro(h4|rfl)
    ·exact .inl h4
    ·exact .inr G
 ·rcases rv k v hv with⟨rfl,rfl⟩|⟨h3,h4⟩
  ·rcases hF c hc with h5|h5
   ·exact hZ c h5
   ·exact h.z _ _ c qY h5
  ·exact h.z k v c h4 hc
theorem R8 (Z M:aL) (w:World) (B:Nat):ET Z M w B (pk []) (λx=>x∈jw []) [] where
 o k v hv:=by
  rcases hv with⟨e,he,_⟩|⟨_,rfl⟩
  ·cases he
  ·exact eJ _ _ _ _ _
 a k k' v v' _ hv _:=by
  rcases hv with⟨e,he,_⟩|⟨_,rfl⟩
  ·cases he
  ·exact(ka.nil v').symm
 k x:=by simp[jw]
 z k v c hv hc:=by
  rcases hv with⟨e,he,_⟩|⟨_,rfl⟩
  ·cases he
  ·cases hc
structure Buf (Z M:aL) (w:World) (B b mb:Nat) (vl:Value) (L:List En) (words last:Int) (f:List UInt8->List Po) (K:List UInt8->Prop) (es:List MapEntry) (clock:Nat):Prop where
 at_:w.heap[b]? =some (.cells #[vl,.map (some mb),.int .i64 words,.int .i64 last] 182 (0,0))
 m:M b
 mm:M mb
 hb:Z b
 hmb:Z mb
 l:Own RT.en 74 M w B vl L
 map:fP Tryz.prog 9 w mb es clock
 rows:ET Z M w B f K es
 zl:∀c,vl.ownBlock=some c->Z c
def nR (Z M:aL) (w:World) (B b:Nat) (L:List En) (words last:Int):Prop:=∃mb vl es clock,Buf Z M w B b mb vl L words last (pk L) (λx=>x∈jw L) es clock
theorem nR.bQ {Z M M':aL} {w w':World} {B b:Nat} {L:List En} {words last:Int} (h:nR Z M w B b L words last) (s:Step M w M' w' aD):nR Z M' w' B b L words last:=by
 obtain⟨mb,vl,es,clock,h1,h2,h3,h4,h5,h6,h7,h8,h9⟩:=h;exact⟨mb,vl,es,clock,s.aE h1,(s.mem _ (ah h1)).2 h2,(s.mem _ (ah h7.at_)).2 h3,h4,h5,h6.bQ s,h7.bQ s,h8.bQ s,h9⟩
theorem nR.Ks {Z Z' M:aL} {w:World} {B b:Nat} {L:List En} {words last:Int} (h:nR Z M w B b L words last) (hz:∀c,Z c->c<w.heap.size->Z' c):nR Z' M w B b L words last:=by
 obtain⟨mb,vl,es,clock,h1,h2,h3,h4,h5,h6,h7,h8,h9⟩:=h;exact⟨mb,vl,es,clock,h1,h2,h3,hz _ h4 (ah h1),hz _ h5 (ah h7.at_),h6,h7,h8.Ks hz,λc hc=>hz c (h9 c hc) (h6.base c hc).2⟩
theorem nR.step {Z M M' N:aL} {w w':World} {B b:Nat} {L:List En} {words last:Int} (h:nR Z M w B b L words last) (s:Step M w M' w' N) (hn:∀k,N k->¬Z k):nR Z M' w' B b L words last:=by
 obtain⟨mb,vl,es,clock,h1,h2,h3,h4,h5,h6,h7,h8,h9⟩:=h;exact⟨mb,vl,es,clock,s.bW h1 (λhk=>hn _ hk h4),(s.mem _ (ah h1)).2 h2,(s.mem _ (ah h7.at_)).2 h3,h4,h5,h6.step s (λc hc hk=>hn _ hk (h9 c hc)),h7.step s (λhk=>hn _ hk h5),h8.step s (λk v c hv hc hk=>hn _ hk (h8.z k v c hv hc)),h9⟩
theorem nR.stepT {Z M M' N:aL} {w w':World} {B b:Nat} {L:List En} {words last:Int} (h:nR Z M w B b L words last) (s:Step M w M' w' N) (hn:∀k,N k->∃cs t,w.heap[k]? =some (.cells cs t (0,0))/\t≠182/\t≠74/\t≠188):nR Z M' w' B b L words last:=by
 obtain⟨mb,vl,es,clock,h1,h2,h3,h4,h5,h6,h7,h8,hz⟩:=h;refine⟨mb,vl,es,clock,s.bW h1 (λhk=>?_),(s.mem _ (ah h1)).2 h2,(s.mem _ (ah h7.at_)).2 h3,h4,h5,h6.step s (λc hc hk=>?_),h7.step s (λhk=>?_),h8.step s (λk v c hv hc hk=>?_),hz⟩
 ·obtain⟨cs,t,h9,Ku,_⟩:=hn _ hk;rw[h1]at h9;simp at h9;exact Ku h9.2.symm
 ·obtain⟨cs,t,h9,_,Ku,_⟩:=hn _ hk;exact h6.fA h9 Ku hc
 ·obtain⟨cs,t,h9,_⟩:=hn _ hk;rw[h7.at_]at h9;cases h9
 ·obtain⟨cs,t,h9,_,_,Ku⟩:=hn _ hk;exact(h8.o k v hv).fA h9 Ku hc
def Oc (M Z:aL):aL:=λk=>Z k/\M k
theorem eG.ex (zv:Value) (es:List MapEntry) (key:Value):∃v,eG zv es key v:=by
 by_cases h:∃e∈es,e.key=key
 ·obtain⟨e,he,hk⟩:=h;exact⟨e.val,.inl ⟨e,he,hk,G⟩⟩
 ·exact⟨zv,.inr ⟨λe he hk=>h ⟨e,he,hk⟩,G⟩⟩
def nS (last:Int) (e:En):Int:=if nJ e.1≠0 then nJ e.1 else if e.2<=last then 12 else 0
def Od (L:List En) (tl:List (Fd×Nat)) (i:Nat) (k:List UInt8):List Po:=pk L k++(((dE tl).take i).filter λt=>decide (cZ t=k)).map λt=>((L.length:Int),posOf tl t)
theorem Oe (L:List En) (tl:List (Fd×Nat)) (k:List UInt8):Od L tl 0 k=pk L k:=by simp[Od]
theorem Of {L:List En} {tl:List (Fd×Nat)} {i:Nat} {t:Fd} (h:(dE tl)[i]? =some t) (k:List UInt8):Od L tl (i+1) k=if k=cZ t then Od L tl i (cZ t)++[((L.length:Int),posOf tl t)]else Od L tl i k:=by
 unfold Od;rw[b7,h,dH,fC,dM]
 split
 ·rename_i e;subst e;simp
 ·rename_i e
  have: ¬cZ t=k:=λh=>e h.symm
  simp[this]
theorem R9 {L:List En} {e:En} {i:Nat} (h:(dE (sT e)).length<=i) (k:List UInt8):Od L (sT e) i k=pk (L++[e]) k:=by
 unfold Od;rw[R2,bm h];rfl
theorem Sa {L:List En} (hF:∀x∈L,iy x.1) (tl:List (Fd×Nat)) (i:Nat) (k:List UInt8):(Od L tl i k).length<=L.length+(dE tl).length:=by
 unfold Od;have h1:=(vL k L 0 hF).1;have h2:=gU (λt=>decide (cZ t=k)) ((dE tl).take i);have h3:=List.length_take_le i (dE tl);have h4:(pk L k).length<=L.length:=h1;simp only[bM,b9,bJ]at*;omega
theorem BB {d:Dc} (hF:iy d):(dE (cF d.2)).length<=500:=by
 have h1:=(tP hF.IX).nodup.length_le_of_subset (l₂:=(cF d.2).map (·.1)) (λt ht=>(iI hF.IX).1 ht);have:=hF.many;simp at h1;omega
theorem iy.term {d:Dc} (hF:iy d) {t:Fd} (h:t∈dE (cF d.2)):t.1.length<=12/\t.2.length<=30:=by
 obtain⟨p,hp,rfl⟩:=cx.1 ((iI hF.IX).1 h);exact hF.small p hp
theorem Og {Z M:aL} {B:Nat} (w0:World) (hM:Lt M w0) (hB:B<=w0.heap.size) (hZ:∀k,w0.heap.size<=k->Z k):
  Spec Tryz.prog 48 #[] w0 (λv w=>∃M' b,v= .pointer (some ⟨b,0,none⟩)/\Lt M' w/\nR Z M' w B b [] 0 (-1)/\Step M w0 M' w aD):=by
 refine a7 (args:=[]) (fn:=Tryz.f48) Tryz.func48 G (n:=4) Tryz.ntmps48 ?_;have S:Step M w0 M w0 aD:=aW;refine T.aP (Rg.aZ G G (T.aP ?_));refine Rg.yy M iq G (λmb w1m p1 q1 gW s1=>?_);obtain⟨WN,N4⟩:∃M',M'=ins M mb:=⟨_,rfl⟩;rw[<-N4]at s1;have CP:WN mb:=by rw[N4];exact .inl G
 replace hM:=s1.lt hM;have:=S.size;replace S:=S.av s1;refine dN (places:=[(0,1),(1,1),(2,1),(3,1)]) eg aiu aiv rfl ⟨_,_,rfl,rfl,_,_,rfl,rfl,rfl⟩ (out:=[.slice none 0 0,_,.int .i64 0,_]) ⟨1,[_],rfl,rfl,by simp[Value.cells],3,[_],rfl,rfl,by simp[Value.cells],rfl⟩ ?_;refine np WN G G (λWQ RV arT arU iw px=>?_);obtain⟨abB,Oh⟩:∃M',M'=ins WN WQ:=⟨_,rfl⟩;rw[<-Oh]at px;have WR:abB WQ:=by rw[Oh];exact .inl G
 change RV.heap[WQ]? =some (.cells #[.slice none 0 0,.map (some mb),.int .i64 0,.int .i64 (-1)] _ _)at iw;replace CP:=(px.mem _ (ah gW.at_)).2 CP;replace gW:=gW.bQ px;replace hM:=px.lt hM;have:=S.size;replace S:=S.av px;refine Rg.aZ G G (aI ?_);exact aF G G ⟨_,_,G,hM,⟨mb,_,[],0,iw,WR,CP,hZ _ q0,hZ _ q0,eJ _ _ _ _ _,gW,R8 _ _ _ _,λc hc=>by cases hc⟩,S⟩
end Go.K
namespace Go.K
open Go.Proofs
namespace TKBldD
theorem I29:TI Tryz.prog 29 (.slice none 0 0) 1 24:=by unfold TI;kernel_rfl
theorem ko:TI Tryz.prog 117 (.slice none 0 0) 1 24:=by unfold TI;kernel_rfl
theorem G3:TI Tryz.prog 180 (.map none) 1 8:=by unfold TI;kernel_rfl
theorem E93:Enters Tryz.prog 93:=enters Tryz.func93 rfl QZ
theorem E94:Enters Tryz.prog 94:=enters Tryz.func94 rfl QZ
theorem E96:Enters Tryz.prog 96:=enters Tryz.func96 rfl QZ
theorem E97:Enters Tryz.prog 97:=enters Tryz.func97 rfl QZ
end TKBldD
open TKBldD
set_option maxRecDepth 10000
set_option maxHeartbeats 4000000 in
theorem Oi {Z M:aL} {B b:Nat} {L:List En} {words last:Int} {e:En} {v0:Value} (w0:World) (hM:Lt M w0) (hZ:∀k,w0.heap.size<=k->Z k) (hb:nR Z M w0 B b L words last) (hBw:B<=w0.heap.size) (hv:RT.en.V M w0 e v0) (hl:∀f∈e.1.2,f.1.length<=900000/\f.2.length<=900000) (hLF:∀x∈L,iy x.1) (hLn:L.length<=1000000) (hw:0<=words/\words<=1000000000):
  Spec Tryz.prog 49 #[.pointer (some ⟨b,0,none⟩),v0] w0 (λv w=>∃M',Lt M' w/\Step M w0 M' w (Oc M Z)/\v= .int .i64 (nS last e)/\(nS last e≠0->nR Z M' w B b L words last)/\(nS last e=0->nR Z M' w B b (L++[e]) (words+((sT e).length:Int)) e.2)):=by
 obtain⟨mb,vl,es,clock,gb,eu,fp,hB,IU,ho,hW,hR,zl⟩:=hb;have Uc:b≠mb:=λh=>by have:=hW.at_;rw[<-h,gb]at this;cases this
 refine a7 (args:=[_,_]) (fn:=Tryz.f49) Tryz.func49 G (n:=89) Tryz.ntmps49 ?_;have S:Step M w0 M w0 (Oc M Z):=(aW).ew a18 (λ_ h=>h.2);refine T.aP ?_;refine ej (A:=RT.en) G G hM hv G (λu0 w1 du s0 _=>?_);have:=ah gb;replace eu:=(s0.mem _ this).2 eu;replace gb:=s0.aE gb;replace ho:=ho.bQ s0;replace fp:=(s0.mem _ (ah hW.at_)).2 fp;replace hW:=hW.bQ s0;replace hR:=hR.bQ s0;replace hM:=s0.lt hM;have:=S.size;replace S:=S.av s0;refine Rg.aZ G G (aK (T.aP ?_));refine ao (A:=RT.en) (B:=RT.dc) dQ G G kU QZ VI G G QZ du bU (λyX kb=>?_);refine bR (A:=RT.dc) aT G kU QZ G G G kb bU (λxx kO=>?_);refine aQ G G E93 (Nd _ hM kO hl) (λr2 w2 hc=>?_);obtain⟨rfl,s2⟩:=hc;have:=ah gb;replace eu:=(s2.mem _ this).2 eu;replace gb:=s2.aE gb;replace du:=du.le QZ s2.le;replace ho:=ho.bQ s2;replace fp:=(s2.mem _ (ah hW.at_)).2 fp;replace hW:=hW.bQ s2;replace hR:=hR.bQ s2;replace hM:=s2.lt hM;have:=S.size;replace S:=S.av s2;refine Rg.aZ G G (T.aP (ab G G (eV G G G (ad ?_))));refine bF G (λc2=>?_) (λc2=>?_)
 ·refine T.aP (ab G G (Rg.aZ G G (aI ?_)));have ea:nS last e=nJ e.1:=if_pos c2;exact aF rfl rfl ⟨_,hM,S,by rw[ea],λ_=>⟨mb,vl,es,clock,gb,eu,fp,hB,IU,ho,hW,hR,zl⟩,λh=>absurd (ea▸h) c2⟩
 ·have hF:iy e.1:=IW (by simpa using c2);refine aR (aK (aK ?_));apply uJ mixed rfl rfl;intro wD4 sA4;have qE:=sA4 M;have:=ah gb;replace eu:=(qE.mem _ this).2 eu;replace gb:=qE.aE gb;replace du:=du.le QZ qE.le;replace ho:=ho.bQ qE;replace fp:=(qE.mem _ (ah hW.at_)).2 fp;replace hW:=hW.bQ qE;replace hR:=hR.bQ qE;replace hM:=qE.lt hM;have:=S.size;replace S:=S.av qE;refine ao (A:=RT.en) (B:=RT.int .i64) dQ G G I3 QZ en1 G G QZ du bU (λKb rq=>?_);refine Rg.de ?_;refine bT (M:=M) ak G G U3 (by repeat (first|exact bN _ _|refine bg (bO U3) ?_)) (λUg=>?_);refine br (v':= .int .i64 (e.2)) G ?_;replace Ug: -9223372036854775808<=(e.2:Int)/\e.2<=9223372036854775807:=Ug;refine Rg.de (ab G G (Rg.de (a8 G ⟨_,G⟩ G (Rg.de (aY (o':=3) eg G G I3 QZ G G (Rg.de (aN ak G G G (by first|assumption|exact cg qE U3) G (Rg.de (fN G G G (Rg.de (fF ?_)))))))))));refine bF G (λc4=>?_) (λc4=>?_)
  ·refine T.aP (Rg.aZ G G (aI ?_));have ea:nS last e=12:=by unfold nS;rw[if_neg (λh=>h (by simpa using c2)),if_pos c4]
   exact aF rfl rfl ⟨_,hM,S,by rw[ea],λ_=>⟨mb,vl,es,clock,gb,eu,fp,hB,IU,ho,hW,hR,zl⟩,λh=>absurd (ea▸h) QZ⟩
  ·refine aR (T.aP ?_);refine ao (A:=RT.en) (B:=RT.dc) dQ G G kU QZ VI G G QZ du bU (λWq Em=>?_);refine bR (A:=RT.dc) aT G kU QZ G G G Em bU (λWr y5=>?_);refine aQ G G E94 (EP _ hM y5 hF hl) (λr6 w6 hc=>?_);obtain⟨a6,b6,rfl,ha,qP,s6⟩:=hc;have:=ah gb;replace eu:=(s6.mem _ this).2 eu;replace gb:=s6.aE gb;replace du:=du.le QZ s6.le;replace ho:=ho.bQ s6;replace fp:=(s6.mem _ (ah hW.at_)).2 fp;replace hW:=hW.bQ s6;replace hR:=hR.bQ s6;replace hM:=s6.lt hM;have:=S.size;replace S:=S.av s6;refine ab G G (cD G G G (cD G G G (aG G G (Rg.aZ G G (aK (T.aP (ab G G (bz jL G ha G (ab G G ?_)))))))));refine ad (aX ?_);refine cY (σ:=Nat) (λq=>[(0,.pointer (some ⟨b,0,none⟩)),(3,u0),(7,b6),(30,a6),(31,.int .i64 ((dE (sT e)).length:Int)),(32,.int .i64 (q:Int))]) (λq w=>∃M' es clock,Lt M' w/\Step M w0 M' w (Oc M Z)/\cM RT.en M' w u0 e/\(RT.fd.sl).V M' w (dE (sT e)) a6/\(((RT.int .i64).sl).sl).V M' w ((dE (sT e)).map (posOf (sT e))) b6/\Buf Z M' w B b mb vl L words last (Od L (sT e) q) (λx=>x∈jw L\/x∈((dE (sT e)).take q).map cZ) es clock/\q<=(dE (sT e)).length) (λq=>(dE (sT e)).length-q) 0 ae1 ?_ ?_
   ·exact⟨_,es,clock,hM,S,du,ha,qP,⟨gb,eu,fp,hB,IU,ho,hW,hR.congr (λk=>Oe _ _ _) (λk=>by simp),zl⟩,bp _⟩
   ·clear hM S du ha qP gb eu fp ho hW hR;rintro i w ⟨M1,es,clock,hM,S,du,ha,qP,⟨gb,eu,fp,_,_,ho,hW,hR,_⟩,hi⟩;refine T.aP (cy G G G (ad (aK ?_)));refine bF G (λc8=>?_) (λc8=>?_)
    ·refine aR (aK (aX (T.aP (ab G G ?_))));refine cB jL lA G G G ha bU q0 (λaix t T9 Oj=>?_);rw[ar]at T9;have Rh:=au T9;have L7:=hF.term Rh;refine bR (A:=RT.fd) bI G lA QZ G G G Oj bU (λaiy Ol=>?_);obtain rfl:=ki Ol;refine eB M1 lA G (λzm aaw ar1 ar2 oK p9=>?_);obtain⟨BC,Om⟩:∃M',M'=ins M1 zm:=⟨_,rfl⟩;rw[<-Om]at p9;have CQ:BC zm:=by rw[Om];exact .inl G
     change aaw.heap[zm]? =some (.cells #[.string ⟨#[]⟩,.string ⟨#[]⟩] _ _)at oK;have:=ah gb;replace eu:=(p9.mem _ this).2 eu;replace gb:=p9.aE gb;replace du:=du.le QZ p9.le;replace ha:=ha.le p9.le;replace qP:=qP.le p9.le;replace ho:=ho.bQ p9;replace fp:=(p9.mem _ (ah hW.at_)).2 fp;replace hW:=hW.bQ p9;replace hR:=hR.bQ p9;replace hM:=p9.lt hM;have:=S.size;replace S:=S.av p9;refine aG G G ?_;refine dP (M:=BC) (vs:=[.string ⟨t.1.toArray⟩,.string ⟨t.2.toArray⟩]) lA G G (G1 G Ol) G G oK CQ (λw9 g9 s9=>?_);have:=ah gb;replace eu:=(s9.mem _ this).2 eu;replace gb:=s9.bW gb a07;have:=ah oK;replace CQ:=(s9.mem _ this).2 CQ;replace du:=du.le QZ s9.le;replace ha:=ha.le s9.le;replace qP:=qP.le s9.le;replace ho:=ho.step s9 (λc hc (h:_=_)=>by first|exact ho.fA gb QZ (h▸hc)|exact ho.fA oK QZ (h▸hc));replace fp:=(s9.mem _ (ah hW.at_)).2 fp;replace hW:=hW.step s9 a42;replace hR:=hR.step s9 a16;replace hM:=s9.lt hM;have:=S.size;replace S:=S.trans s9 (λk hk h=>by have h:_=_:=h;subst h;first|(exfalso;omega)|(show _<=_;omega)|exact⟨by first|omega|assumption,(S.mem _ hk).1 ((s9.mem _ (ah oK)).1 CQ)⟩|exact .inl rfl|exact .inr rfl|exact .inr (.inl rfl)|exact .inr (.inr rfl)|exact .inr (.inr (.inl rfl))|exact rfl);have Uh:=g9;clear oK;have oK:=Uh;clear Uh;refine ad (T.aP (eX (vs:=[.string ⟨t.1.toArray⟩,.string ⟨t.2.toArray⟩]) bI G lA G G G oK ?_))
     refine aQ G G E95 (NM (t:=t) _ hM q0 q0) (λr10 w10 hc=>?_);obtain⟨rfl,uG⟩:=hc;have:=ah gb;replace eu:=(uG.mem _ this).2 eu;replace gb:=uG.aE gb;replace du:=du.le QZ uG.le;replace ha:=ha.le uG.le;replace qP:=qP.le uG.le;replace ho:=ho.bQ uG;replace fp:=(uG.mem _ (ah hW.at_)).2 fp;replace hW:=hW.bQ uG;replace hR:=hR.bQ uG;replace hM:=uG.lt hM;have:=S.size;replace S:=S.av uG;refine Rg.aZ G G ?_;obtain⟨v10,mv⟩:=eG.ex km es (sv (cZ t));apply T.pR 21 [0,1,2,3,4,5,6,7,8,9,10] 2 (mA v10) mixed rfl rfl rfl rfl;intro EU WS;have dY:=WS BC;have:=ah gb;replace eu:=(dY.mem _ this).2 eu;replace gb:=dY.aE gb;replace du:=du.le QZ dY.le;replace ha:=ha.le dY.le;replace qP:=qP.le dY.le;replace ho:=ho.bQ dY;replace fp:=(dY.mem _ (ah hW.at_)).2 fp;replace hW:=hW.bQ dY;replace hR:=hR.bQ dY;replace hM:=dY.lt hM;have:=S.size;replace S:=S.av dY;refine ab G G (Rg.de (a8 G ⟨_,G⟩ G (Rg.de (aY (o':=1) eg G G G3 QZ G G (Rg.de (aN iq G G G (by first|assumption|exact cg dY U3) G (Rg.de (ab G G (Rg.de (ab G G (Rg.de ?_)))))))))));refine a8 G ⟨_,G⟩ G (Rg.de (aY (o':=1) eg G G G3 QZ G G (Rg.de (aN iq G G G (by first|assumption|exact cg dY U3) G (Rg.de (ab G G (Rg.de ?_)))))));obtain⟨kl,Ap⟩:=Ob (cZ t) (by unfold cZ;simp;omega);refine Rg.tz iq tR ko G G G Ap hW (λaiz aiA=>?_);obtain rfl:v10=aiz:=hW.val_one mv aiA;have xG:=Sa hLF (sT e) i (cZ t);have sL:(dE (sT e)).length<=500:=BB hF;refine Rg.de (ab G G (Rg.de (a8 G ⟨_,G⟩ G (Rg.de (aY (o':=0) eg G G I29 QZ G G (Rg.de (aN fB G G G (by first|assumption|exact cg dY U3) G (Rg.de (iV fB G ho G (Rg.de (ab G G ?_)))))))))))
     refine Rg.de (ab G G (Rg.de ?_));refine cB gp ph rfl rfl rfl qP bU a11 (λu18 ps abD WT=>?_);rw[ar,ei,T9]at abD;obtain rfl:=aJ abD;refine Rg.de ?_;refine bD ax G G G G G WT bU (λv19 Sb=>?_);refine Rg.de (dN (places:=[(0,1),(1,1)]) ch iL Ry rfl ⟨_,_,rfl,rfl,_,_,rfl,rfl,rfl⟩ (out:=[_,_]) ⟨0,[_],rfl,rfl,by simp[Value.cells],1,[_],rfl,iR Sb,by simp[Value.cells],rfl⟩ ?_);have On:RT.po.V BC _ ((L.length:Int),posOf (sT e) t) _:=fz (gJ q0) Sb rfl rfl rfl rfl;refine Rg.de (fF ?_);have ru:=hR.o _ _ mv;refine ⟨jC ⟨ie,⟨cK.nilCheck G,⟨oW eg G G3 QZ,⟨ic G gb (λh=>ru.fA gb QZ h),⟨ie,⟨ie,⟨cK.nilCheck G,⟨oW eg G G3 QZ,⟨ic G gb (λh=>ru.fA gb QZ h),⟨ie,⟨cK.tz iq tR ko G G Ap hW (λh=>ru.kn hW.at_ h),trivial⟩⟩⟩⟩⟩⟩⟩⟩⟩⟩⟩,?_⟩;have kp:=kT (mA v10) EU;refine fw (A:=RT.po) (hn:=by decide) (M:=BC) bG iL QZ G G hM (On) (.inl G) (λWU aiB CR me=>?_);have:=ah gb;replace eu:=(me.mem _ this).2 eu;replace gb:=me.aE gb;replace du:=du.le QZ me.le;replace ha:=ha.le me.le;replace qP:=qP.le me.le;replace ho:=ho.bQ me;replace fp:=(me.mem _ (ah hW.at_)).2 fp;replace hW:=hW.bQ me;replace hR:=hR.bQ me;replace hM:=me.lt hM;have:=S.size;replace S:=S.av me;refine(fun(kp:fy _ _ _)=>ad ⟨G,G,λ_=>kp,?_⟩) a02;refine Rg.mF (M:=BC) (base:=B) bG iL rfl rfl rfl rfl (hR.o _ _ mv) CR bU a11 a11 ae9 (λv22 w22 aiD xM aiE=>?_)
     have ru:=hR.o _ _ mv;have anK:=hW.at_;have abE:v10.ownBlock≠some mb:=ru.kn hW.at_;have Ui:=ho.step xM (λc hc h=>ho.jf ru QZ hc h);have G4:=(xM.mem _ (ah hW.at_)).2 fp;have Sc:=hW.step xM abE;have abF:=xM.bW gb (λh=>ru.fA gb QZ h);have WV:=(xM.mem _ (ah gb)).2 eu;have S22:=S.trans xM (λk hk h=>⟨hR.z _ _ k mv h,(S.mem k hk).1 (ru.mut_ k h)⟩);have aiF:=xM.lt hM;replace du:=du.le QZ xM.le;replace ha:=ha.le xM.le;replace qP:=qP.le xM.le;refine(fun(kp:fy _ _ _)=>ad ⟨G,G,λ_=>kp,?_⟩) a02;refine Rg.R3 iq tR G G G Ap Sc G4 (λw23 aiG aiH aiI WW WX QQ=>?_);have aiJ:=hR.put (λc hc=>hZ c ae9) mv aiD xM aiE Sc.at_ QQ WX WW;replace du:=du.le QZ QQ.le;replace ha:=ha.le QQ.le;replace qP:=qP.le QQ.le;have aiK:=Ui.step QQ (λc hc (h:c=mb)=>Ui.kn Sc.at_ (h▸hc));have aiL:=QQ.bW abF Uc;have WY:=(QQ.mem _ (ah abF)).2 WV;have WZ:=(QQ.mem _ (ah Sc.at_)).2 G4;have aiM:=QQ.lt aiF;have S23:=S22.trans QQ (λk hk (h:k=mb)=>⟨by rw[h];exact IU,(S22.mem k hk).1 (by rw[h];exact G4)⟩);refine ad ⟨G,G,λh=>absurd G h,pH (aM (bC G G G q0 (ab G G (ad ?_))))⟩;refine⟨G,i+1,ae1,?_,?_⟩
     ·exact⟨_,aiG,aiH,aiM,S23,du,ha,qP,⟨aiL,WY,WZ,hB,IU,aiK,aiI,aiJ.congr (λk=>Of T9 k) (λk=>by rw[b7,T9,dH,dM,dw,or_assoc];simp),zl⟩,by omega⟩
     ·omega
    ·refine cN (aK ?_);apply T.pR 6 [0,1,2,3,4] 3 (mA vl) mixed rfl rfl rfl rfl;intro Nk Wh;have iM:=Wh M1;have:=ah gb;replace eu:=(iM.mem _ this).2 eu;replace gb:=iM.aE gb;replace du:=du.le QZ iM.le;replace ha:=ha.le iM.le;replace qP:=qP.le iM.le;replace ho:=ho.bQ iM;replace fp:=(iM.mem _ (ah hW.at_)).2 fp;replace hW:=hW.bQ iM;replace hR:=hR.bQ iM;replace hM:=iM.lt hM;have:=S.size;replace S:=S.av iM;refine ab G G (Rg.de (ab G G (Rg.de (a8 G ⟨_,G⟩ G (Rg.de (aY (o':=0) eg G G I29 QZ G G (Rg.de (aN fB G G G gb G (br (v':=vl) G (Rg.de ?_))))))))));refine bR (A:=RT.en) dQ G F7 QZ G G G du bU (λIL vG=>?_);refine Rg.de (fF (⟨jC ⟨ie,⟨ie,⟨cK.nilCheck G,⟨oW eg G I29 QZ,⟨ic G gb (λh=>ho.fA gb QZ h),trivial⟩⟩⟩⟩⟩,?_⟩));have kp:=kT (mA vl) Nk;refine aQ G G E96 (NZ _ hM vG (by have:=hF.few;omega)) (λUj W0 hc=>?_);obtain⟨zn,tS⟩:=hc;have:=ah gb;replace eu:=(tS.mem _ this).2 eu;replace gb:=tS.aE gb;replace du:=du.le QZ tS.le;replace ha:=ha.le tS.le;replace qP:=qP.le tS.le;replace ho:=ho.bQ tS;replace fp:=(tS.mem _ (ah hW.at_)).2 fp;replace hW:=hW.bQ tS;replace hR:=hR.bQ tS;replace hM:=tS.lt hM;have:=S.size;replace S:=S.av tS;refine(fun(kp:fy _ _ _)=>ad ⟨G,G,λ_=>kp,?_⟩) a02;refine fw (A:=RT.en) (hn:=by decide) (M:=M1) fB F7 QZ G G hM (zn) (.inl G) (λanM anN W2 o8=>?_);have:=ah gb;replace eu:=(o8.mem _ this).2 eu
     replace gb:=o8.aE gb;replace du:=du.le QZ o8.le;replace ha:=ha.le o8.le;replace qP:=qP.le o8.le;replace zn:=zn.le o8.le;replace ho:=ho.bQ o8;replace fp:=(o8.mem _ (ah hW.at_)).2 fp;replace hW:=hW.bQ o8;replace hR:=hR.bQ o8;replace hM:=o8.lt hM;have:=S.size;replace S:=S.av o8;refine(fun(kp:fy _ _ _)=>ad ⟨G,G,λ_=>kp,?_⟩) a02;refine Rg.mF (M:=M1) (base:=B) fB F7 rfl rfl rfl rfl ho W2 bU a11 a11 ae9 (λEV anO W3 wR aiN=>?_);replace eu:=(wR.mem _ (ah gb)).2 eu
     have zl':∀c,EV.ownBlock=some c->Z c:=λc hc=>by
      rcases aiN c hc with h|h
      ·exact hZ c ae9
      ·exact zl c h
     replace hR:=hR.step wR (λk v c hv hc h=>(hR.o k v hv).jf ho QZ hc h);replace fp:=(wR.mem _ (ah hW.at_)).2 fp;replace hW:=hW.step wR (λh=>ho.kn hW.at_ h);replace gb:=wR.bW gb (λh=>ho.fA gb QZ h);replace du:=du.le QZ wR.le;replace S:=S.trans wR (λk hk h=>⟨zl k h,(S.mem k hk).1 (ho.mut_ k h)⟩);replace hM:=wR.lt hM;replace ho:=W3;obtain⟨M13,aiO⟩:∃M',M'=lL M1 EV:=⟨_,rfl⟩;rw[<-aiO]at hR fp du S hM ho eu;refine(fun(kp:fy _ _ _)=>ad ⟨G,G,λ_=>kp,?_⟩) a02;refine a8 G ⟨_,G⟩ G (ad ⟨G,G,λh=>absurd G h,aY (o':=0) eg G G I29 QZ G G (ad ⟨G,G,λh=>absurd G h,?_⟩)⟩);refine cn (M:=M13) I29 rfl rfl gb rfl a96 eu (λW4 Oo oL=>?_);change W4.heap[_]? =some (Obj.cells #[EV,.map (some mb),.int .i64 words,.int .i64 last] _ _)at Oo;have:=ah gb;replace eu:=(oL.mem _ this).2 eu;replace du:=du.le QZ oL.le;replace ho:=ho.step oL (λc hc (h:_=_)=>by first|exact ho.fA gb QZ (h▸hc)|exact ho.fA oK QZ (h▸hc));replace fp:=(oL.mem _ (ah hW.at_)).2 fp;replace hW:=hW.step oL a42;replace hR:=hR.step oL a16;replace hM:=oL.lt hM;have:=S.size;replace S:=S.trans oL (λk hk h=>by have h:_=_:=h;subst h;first|(exfalso;omega)|(show _<=_;omega)|exact⟨by first|omega|assumption,(S.mem _ hk).1 ((oL.mem _ (ah gb)).1 eu)⟩|exact .inl rfl|exact .inr rfl|exact .inr (.inl rfl)|exact .inr (.inr rfl)|exact .inr (.inr (.inl rfl))|exact rfl)
     have NK:=Oo;clear gb;have gb:=NK;clear NK;refine ad ⟨G,G,λh=>absurd G h,pH (aK ?_)⟩;apply T.pR 6 [0,1,2,3] 1 aD mixed rfl rfl rfl rfl;intro W5 Oq;have qQ:=Oq M13;have:=ah gb;replace eu:=(qQ.mem _ this).2 eu;replace gb:=qQ.aE gb;replace du:=du.le QZ qQ.le;replace ho:=ho.bQ qQ;replace fp:=(qQ.mem _ (ah hW.at_)).2 fp;replace hW:=hW.bQ qQ;replace hR:=hR.bQ qQ;replace hM:=qQ.lt hM;have:=S.size;replace S:=S.av qQ;refine ab G G (Rg.de (a8 G ⟨_,G⟩ G (Rg.de (aY (o':=2) eg G G I3 QZ G G (Rg.de (aN ak G G G (by first|assumption|exact cg qQ U3) G (Rg.de ?_)))))));refine ao (A:=RT.en) (B:=RT.dc) dQ G G kU QZ VI G G QZ du bU (λanP W6=>?_);refine Rg.de ?_;refine bR (A:=RT.dc) aT G kU QZ G G G W6 bU (λanQ W7=>?_);refine Rg.de (fF (⟨jC ⟨ie,⟨cK.nilCheck G,⟨oW eg G I3 QZ,⟨ic G gb (λh=>h),trivial⟩⟩⟩⟩,?_⟩));have kp:=kT aD W5;refine aQ G G E97 (Ey _ hM W7 hl hF.few) (λr14 NB hc=>?_);obtain⟨rfl,jv⟩:=hc;have:=ah gb;replace eu:=(jv.mem _ this).2 eu;replace gb:=jv.aE gb;replace du:=du.le QZ jv.le;replace ho:=ho.bQ jv;replace fp:=(jv.mem _ (ah hW.at_)).2 fp;replace hW:=hW.bQ jv;replace hR:=hR.bQ jv;replace hM:=jv.lt hM;have:=S.size;replace S:=S.av jv;refine(fun(kp:fy _ _ _)=>ad ⟨G,G,λ_=>kp,?_⟩) a02;have:=hF.many;refine bC G G G q0 (ad ⟨G,G,λh=>absurd G h,a8 G ⟨_,G⟩ G (ad ⟨G,G,λh=>absurd G h,aY (o':=2) eg G G I3 QZ G G (ad ⟨G,G,λh=>absurd G h,?_⟩)⟩)⟩)
     refine cn (M:=M13) I3 G G gb G (G) eu (λW8 Ot oM=>?_);change W8.heap[_]? =some (Obj.cells #[EV,.map (some mb),.int .i64 (words+((sT e).length:Int)),.int .i64 last] _ _)at Ot;have:=ah gb;replace eu:=(oM.mem _ this).2 eu;replace du:=du.le QZ oM.le;replace ho:=ho.step oM (λc hc (h:_=_)=>by first|exact ho.fA gb QZ (h▸hc)|exact ho.fA oK QZ (h▸hc));replace fp:=(oM.mem _ (ah hW.at_)).2 fp;replace hW:=hW.step oM a42;replace hR:=hR.step oM a16;replace hM:=oM.lt hM;have:=S.size;replace S:=S.trans oM (λk hk h=>by have h:_=_:=h;subst h;first|(exfalso;omega)|(show _<=_;omega)|exact⟨by first|omega|assumption,(S.mem _ hk).1 ((oM.mem _ (ah gb)).1 eu)⟩|exact .inl rfl|exact .inr rfl|exact .inr (.inl rfl)|exact .inr (.inr rfl)|exact .inr (.inr (.inl rfl))|exact rfl);have NK:=Ot;clear gb;have gb:=NK;clear NK;refine ad ⟨G,G,λh=>absurd G h,pH (T.aP (ab G G ?_))⟩;refine ao (A:=RT.en) (B:=RT.int .i64) dQ G G I3 QZ en1 G G QZ du bU (λanR aiP=>?_);refine bT (M:=M13) ak G G U3 (by repeat (first|exact bN _ _|refine bg (bO U3) ?_)) (λOu=>?_);refine br (v':= .int .i64 (e.2)) G ?_;replace Ou: -9223372036854775808<=(e.2:Int)/\e.2<=9223372036854775807:=Ou;refine a8 G ⟨_,G⟩ G (aY (o':=3) eg G G I3 QZ G G ?_);refine cn (M:=M13) I3 G G gb G (G) eu (λUk Ul jT=>?_)
     change Uk.heap[_]? =some (Obj.cells #[EV,.map (some mb),.int .i64 (words+((sT e).length:Int)),.int .i64 e.2] _ _)at Ul;have:=ah gb;replace eu:=(jT.mem _ this).2 eu;replace du:=du.le QZ jT.le;replace ho:=ho.step jT (λc hc (h:_=_)=>by first|exact ho.fA gb QZ (h▸hc)|exact ho.fA oK QZ (h▸hc));replace fp:=(jT.mem _ (ah hW.at_)).2 fp;replace hW:=hW.step jT a42;replace hR:=hR.step jT a16;replace hM:=jT.lt hM;have:=S.size;replace S:=S.trans jT (λk hk h=>by have h:_=_:=h;subst h;first|(exfalso;omega)|(show _<=_;omega)|exact⟨by first|omega|assumption,(S.mem _ hk).1 ((jT.mem _ (ah gb)).1 eu)⟩|exact .inl rfl|exact .inr rfl|exact .inr (.inl rfl)|exact .inr (.inr rfl)|exact .inr (.inr (.inl rfl))|exact rfl);have NK:=Ul;clear gb;have gb:=NK;clear NK;refine ad (T.aP (Rg.aZ G G (aI ?_)));have ea:nS last e=0:=by unfold nS;rw[if_neg (λh=>h (by simpa using c2)),if_neg c4]
     exact aF rfl rfl ⟨_,hM,S,by rw[ea],λh=>absurd ea h,λ_=>⟨mb,_,es,clock,gb,eu,fp,hB,IU,ho,hW,hR.congr (λk=>(R9 q0 k).symm) (λk=>by rw[G0,dw,bm q0]),zl'⟩⟩
end Go.K
namespace Go.K
open Go.Proofs
namespace TKBldE
theorem ko:TI Tryz.prog 117 (.slice none 0 0) 1 24:=by unfold TI;kernel_rfl
theorem G3:TI Tryz.prog 180 (.map none) 1 8:=by unfold TI;kernel_rfl
theorem E98:Enters Tryz.prog 98:=enters Tryz.func98 rfl QZ
theorem E99:Enters Tryz.prog 99:=enters Tryz.func99 rfl QZ
theorem Kv:Enters Tryz.prog 100:=enters Tryz.func100 rfl QZ
end TKBldE
open TKBldE
set_option maxRecDepth 10000
theorem fP.I0 {P:Program} {kt:TypeId} {w:World} {b clock:Nat} {es:List MapEntry} (hk:P.underlying kt=some .string) (h:fP P kt w b es clock):∃ks:List (List UInt8),es.map (·.key)=ks.map sv/\ks.Nodup:=by
 have key:∀es:List MapEntry,(∀e∈es,∃l,keyOf P kt e.key=some l)->∃ks:List (List UInt8),es.map (·.key)=ks.map sv:=by
  intro es
  induction es with
  |nil=>exact λ_=>⟨[],rfl⟩
  |cons e es ih=>
   intro h;obtain⟨ks,h1⟩:=ih λx hx=>h x (cv _ hx)
   obtain⟨l,hl⟩:=h e (bP ..);obtain⟨x,h3,_,h4⟩:=Maps.keyOf_str hk hl;exact⟨x::ks,by simp only[eI,h1,h3]⟩
 obtain⟨ks,h1⟩:=key es h.ok;refine ⟨ks,h1,?_⟩;have h3:=dZ.2 h.keys;rw[h1]at h3;exact(dZ.1 h3).imp λh e=>h (by rw[e])
theorem EW {M:aL} {w:World}:∀{l:List (List UInt8)},(∀x∈l,x.length<=140737488355328)->fI RT.str M w l (l.map Go.Proofs.encStr)
 |[],_=>rfl
 |x::l,h=>⟨[.string ⟨x.toArray⟩],_,rfl,⟨rfl,h x (bP ..)⟩,EW λy hy=>h y (cv _ hy)⟩
theorem Ov (M:aL) (w:World) (M':aL) (w':World) (x:List UInt8) (vs:List Value) (h:RT.str.R M w x vs):RT.str.R M' w' x vs:=h
theorem wT {L:List En} (hF:∀x∈L,iy x.1):∀k∈jw L,k.length<=43:=λk hk=>by
 obtain⟨e,he,h1⟩:=List.mem_flatMap.1 hk;obtain⟨t,ht,rfl⟩:=cx.1 h1;have:=(hF e he).term ht;unfold cZ;simp;omega
theorem vP {L:List En} (hF:∀x∈L,iy x.1):(jw L).length<=500*L.length:=by
 induction L with
 |nil=>simp[jw]
 |cons e L ih=>
  have h1:=ih λx hx=>hF x (cv _ hx)
  have h2:=BB (hF e (bP ..));show((dE (sT e)).map cZ++jw L).length<=_;rw[bM,b9,cH];have h2:(dE (sT e)).length<=500:=h2;omega
theorem G5 {Z M:aL} {B b:Nat} {L:List En} {words last:Int} (w0:World) (hM:Lt M w0) (hb:nR Z M w0 B b L words last) (hF:∀x∈L,iy x.1) (hLn:L.length<=1000000):
  Spec Tryz.prog 50 #[.pointer (some ⟨b,0,none⟩)] w0 (λv w=>(RT.str.sl).V M w (keysOf L) v/\Step M w0 M w aD):=by
 obtain⟨mb,vl,es,clock,gb,eu,fp,hB,IU,ho,hW,hR,zl⟩:=hb;obtain⟨ks,MG,mE⟩:=hW.I0 az
 have gL:∀x,x∈ks↔x∈jw L:=λx=>by
  rw[<-hR.k x];constructor
  ·intro hx;have:sv x∈es.map (·.key):=by rw[MG];exact fO hx
   obtain⟨e,he,h⟩:=cx.1 this;exact⟨e,he,h⟩
  ·rintro⟨e,he,h⟩;have:sv x∈ks.map sv:=by rw[<-MG,<-h];exact fO he
   obtain⟨y,hy,h1⟩:=cx.1 this;rw[<-CM h1];exact hy
 have hkn:ks.length<=500000000:=by
  have h1:=mE.length_le_of_subset (l₂:=jw L) (λx hx=>(gL x).1 hx);have h2:=vP hF;omega
 have hen:es.length=ks.length:=by have:=congrArg List.length MG;simpa using this
 refine a7 (args:=[_]) (fn:=Tryz.f50) Tryz.func50 G (n:=9) Tryz.ntmps50 ?_;have S:Step M w0 M w0 aD:=aW;refine T.aP (Rg.aZ G G (T.aP (ab G G (a8 G ⟨_,G⟩ G (aY (o':=1) eg G G G3 QZ G G (aN iq G G G gb G (br (v':= .map (some mb)) G ?_)))))));refine aQ G G E99 (G2 _ _) (λr w1 hc=>?_);obtain⟨rfl,hw1⟩:=hc;have s1:Step M w0 M w1 aD:=by rw[hw1];exact dW _ w0 _
 have ME:=AM hw1;have:=ah gb;replace eu:=(s1.mem _ this).2 eu;replace gb:=s1.aE gb;replace fp:=(s1.mem _ (ah hW.at_)).2 fp;replace hW:=hW.bQ s1;replace hM:=s1.lt hM;have:=S.size;replace S:=S.av s1;obtain⟨m,hO,abH,uP⟩:=hW.aii az fp (by unfold maxLen;omega) ks MG;refine aQ G G E98 (CO hO ME q0) (λr2 w2 hc=>?_);obtain⟨⟨ss,hss,pz,_⟩,s2⟩:=hc;have Vi:ss.Perm ks:=hss.trans abH;have hmp:=List.mergeSort_perm ss λx y=>decide (x<=y)
 have o2:(ss.mergeSort λx y=>decide (x<=y))=keysOf L:=WH (Kn (Vi.nodup_iff.2 mE)) (oJ L) λx=>by rw[hmp.mem_iff,Vi.mem_iff,gL,mc]
 have hlen:ss.length=(keysOf L).length:=by rw[<-o2,List.length_mergeSort]
 rw[o2,hlen]at pz;have abI:∀x∈keysOf L,x.length<=140737488355328:=λx hx=>by have:=wT hF x (mc.1 hx);omega
 have rO:Own RT.str 9 (qO r2) w2 w1.heap.size r2 (keysOf L):=⟨⟨_,pz,EW abI⟩,λb hb=>hb⟩;have Bo:(RT.str.sl).V M w2 (keysOf L) r2:=rO.tell Ov (λb hb h=>by have:=(rO.base b hb).1;have:=hM b h;omega) (by have:=Vi.length_eq;omega);have:=ah gb;replace eu:=(s2.mem _ this).2 eu;replace gb:=s2.aE gb;replace fp:=(s2.mem _ (ah hW.at_)).2 fp;replace hW:=hW.bQ s2;replace hM:=s2.lt hM;have:=S.size;replace S:=S.av s2;refine Rg.aZ G G (aI ?_);exact aF G G ⟨Bo,S⟩
theorem G6 {Z M:aL} {B b:Nat} {L:List En} {words last:Int} {k:List UInt8} (w0:World) (hM:Lt M w0) (hb:nR Z M w0 B b L words last) (hF:∀x∈L,iy x.1) (hLn:L.length<=1000000) (Ap:k.length<=140737488355328):
  Spec Tryz.prog 51 #[.pointer (some ⟨b,0,none⟩),sv k] w0 (λv w=>(RT.po.sl).V M w (pk L k) v/\Step M w0 M w aD):=by
 have gX:=hM;obtain⟨mb,vl,es,clock,gb,eu,fp,hB,IU,ho,hW,hR,zl⟩:=hb;obtain⟨kl,DD⟩:=Ob k Ap;obtain⟨xG,hpa⟩:=vL k L 0 hF;replace xG:(pk L k).length<=L.length:=xG;replace hpa:∀p∈pk L k,_:=hpa;refine a7 (args:=[_,_]) (fn:=Tryz.f51) Tryz.func51 G (n:=30) Tryz.ntmps51 ?_;have S:Step M w0 M w0 aD:=aW;refine T.aP (Rg.aZ G G (T.aP (Rg.aZ G G (aK (T.aP (ab G G ?_))))));refine a8 G ⟨_,G⟩ G (aY (o':=1) eg G G G3 QZ G G (aN iq G G G gb G (br (v':= .map (some mb)) G (ab G G ?_))));refine Rg.tz iq tR ko G G G DD hW (λW9 mv=>?_);have ru:=hR.o _ _ mv;have Lz:∀c,W9.ownBlock=some c->c<w0.heap.size:=λc hc=>(ru.base c hc).2
 clear hR hW ho;refine iV bG G ru G (ab G G (ad (aX ?_)));refine cY (σ:=Nat×Value) (λq=>[(5,q.2),(13,W9),(14,.int .i64 ((pk L k).length:Int)),(15,.int .i64 (q.1:Int))]) (λq w=>∃M',Lt M' w/\Step M w0 M' w aD/\Own RT.po 188 M' w w0.heap.size q.2 ((pk L k).take q.1)/\Own RT.po 188 M' w B W9 (pk L k)/\q.1<=(pk L k).length) (λq=>(pk L k).length-q.1) (0,.slice none 0 0) a38 ?_ ?_
 ·exact⟨M,hM,S,eJ _ _ _ _ _,ru,bp _⟩
 ·clear hM S ru;rintro⟨i,u⟩ w ⟨M1,hM,S,hu,ru,hi⟩;dsimp only at hu hi ⊢;refine T.aP (cy G G G (ad (aK ?_)));refine bF G (λc3=>?_) (λc3=>?_)
  ·refine aR (aK (aX (T.aP ?_)));refine Rg.abz bG iL QZ G G G ru q0 (λu4 p Gw Ls=>?_);rw[ar]at Gw;have hp:=hpa p (au Gw);refine Rg.Oa (A:=RT.po) ch G iL G G G Ls (λv4 pK=>?_);refine rG (A:=RT.po) (M:=M1) iL G G G G G U3 bU hM (λVW VX mM oC abK=>?_);replace hu:=hu.bQ oC;replace ru:=ru.bQ oC;replace hM:=oC.lt hM;have:=S.size;replace S:=S.av oC;refine ad ?_;apply T.pR 5 [0,1,2] 3 aD mixed rfl rfl rfl rfl;intro wD5 sA5;have Sd:=sA5 M1;replace mM:=mM.le QZ Sd.le;replace hu:=hu.bQ Sd;replace ru:=ru.bQ Sd;replace hM:=Sd.lt hM;have:=S.size;replace S:=S.av Sd;refine ab G G (Rg.de ?_);refine ao (M:=M1) (A:=RT.po) (B:=RT.int .i64) ch G G I3 QZ (QM) G G QZ U3 (by repeat (first|exact bN _ _|refine bg (bO U3) ?_)) (λaaW II=>?_);refine Rg.de ?_;refine bT (M:=M1) ak G G U3 (by repeat (first|exact bN _ _|refine bg (bO U3) ?_)) (λabL=>?_);refine Rg.de ?_;refine ao (M:=M1) (A:=RT.po) (B:=(RT.int .i64).sl) ch G G ph QZ (VC) G G QZ U3 (by repeat (first|exact bN _ _|refine bg (bO U3) ?_)) (λahw IB=>?_);refine Rg.de ?_;refine bD (M:=M1) ax G G G G G U3 (by repeat (first|exact bN _ _|refine bg (bO U3) ?_)) (λasb abM=>?_);refine Rg.de (fF ?_);obtain⟨bb,oo,cs,ee,fr,rfl,ny,_⟩:=II.float;refine ⟨jC ⟨ie,⟨oW ch G I3 QZ,⟨ic G ny (λh=>h),trivial⟩⟩⟩,?_⟩;have kp:=kT aD wD5;refine aQ G G Kv (zj hM abM q0) (λv5 w5 hc=>?_)
   obtain⟨pL,s5⟩:=hc;replace mM:=mM.le QZ s5.le;replace hu:=hu.bQ s5;replace ru:=ru.bQ s5;replace hM:=s5.lt hM;have:=S.size;replace S:=S.av s5;refine(fun(kp:fy _ _ _)=>ad ⟨G,G,λ_=>kp,?_⟩) a02;refine dN (places:=[(0,1),(1,1)]) ch iL Ry rfl ⟨_,_,rfl,rfl,_,_,rfl,rfl,rfl⟩ (out:=[_,_]) ⟨0,[_],rfl,rfl,by simp[Value.cells],1,[_],rfl,iR pL,by simp[Value.cells],rfl⟩ ?_;have On:RT.po.V M1 _ p _:=fz (gJ abL) pL rfl rfl rfl rfl;refine(fun(kp:fy _ _ _)=>ad ⟨G,G,λ_=>kp,?_⟩) a02;refine fw (A:=RT.po) (hn:=by decide) (M:=M1) bG iL QZ G G hM (On) (.inl G) (λabN aiS Ow tT=>?_);replace mM:=mM.le QZ tT.le;replace pL:=pL.le tT.le;replace hu:=hu.bQ tT;replace ru:=ru.bQ tT;replace hM:=tT.lt hM;have:=S.size;replace S:=S.av tT;refine(fun(kp:fy _ _ _)=>ad ⟨G,G,λ_=>kp,?_⟩) a02;refine dF (M:=M1) (base:=w0.heap.size) bG iL rfl rfl rfl rfl hu Ow bU a11 a11 (S.size) (λaiT aiU abO abP qR=>?_);replace mM:=mM.le QZ qR.le;replace pL:=pL.le qR.le;replace Ow:=Ow.le qR.le;replace ru:=ru.step qR (λc hc h=>by have:=Lz c hc;have:=(hu.base c h).1;omega);replace hM:=qR.lt hM;have:=S.size;replace S:=S.dU qR hu (bu _);replace hu:=abP;refine ad ⟨G,G,λh=>absurd G h,aG G G (ad ⟨G,G,λh=>absurd G h,pH (aM (bC G G G q0 (ab G G (ad ?_))))⟩)⟩
   refine⟨G,(i+1,aiT),a38,?_,?_⟩
   ·exact⟨aiU,hM,S,by rw[b7,Gw,dH];exact hu,ru,by dsimp only;omega⟩
   ·dsimp only;omega
  ·refine cN (T.aP (ab G G (Rg.aZ G G (aI ?_))));rw[bm q0]at hu;exact aF G G ⟨hu.close gX S q0,S.back⟩
end Go.K
namespace Go.K
open Go.Proofs
namespace TKBldF
theorem aiV:TI Tryz.prog 310 (.agg #[(.slice none 0 0),(.slice none 0 0)]) 2 48:=by unfold TI;kernel_rfl
theorem aiW:placesOf Tryz.prog 310=[(0,1),(1,1)].map some:=by kernel_rfl
theorem aiX:Enters Tryz.prog 197:=enters Tryz.func197 rfl QZ
theorem aiY:Enters Tryz.prog 198:=enters Tryz.func198 rfl QZ
theorem aiZ:Enters Tryz.prog 199:=enters Tryz.func199 rfl QZ
end TKBldF
open TKBldF
set_option maxRecDepth 10000
def EX:Option (List UInt8)->List (List UInt8)->Bool
 |_,[]=>true
 |o,x::l=>(match o with|none=>true|some a=>decide (a<x))&&EX (some x) l
theorem zo {l:List (List UInt8)} {k:Nat} {x:List UInt8} (h:l[k]? =some x) (o:Option (List UInt8)):EX o (l.drop k)=((match o with|none=>true|some a=>decide (a<x))&&EX (some x) (l.drop (k+1))):=by
 obtain⟨eQ,he⟩:=al.1 h;rw[eW eQ,he];rfl
theorem EY {a:List UInt8}:∀{l:List (List UInt8)},GY (a::l)->EX (some a) l=true
 |[],_=>rfl
 |x::l,h=>by
  have h':=jx.1 h;simp only[EX,cr,decide_eq_true_eq];exact⟨h'.1 x (bP ..),EY h'.2⟩
theorem Xa:∀{l:List (List UInt8)},GY l->EX none l=true
 |[],_=>rfl
 |x::l,h=>by simp only[EX,dr];exact EY h
theorem Kw {M:aL} {v:Value} {l:List Int} (w0:World) (hv:((RT.int .i64).sl).V M w0 l v):
  Spec Tryz.prog 153 #[v] w0 (λv' w'=>v'= .bool (fT (-1) l)/\w'=w0):=by
 have hlen:=cQ hv;refine a7 (args:=[_]) (fn:=Tryz.f153) Tryz.func153 G (n:=28) Tryz.ntmps153 (T.aP (Rg.aZ G G (aK (T.aP (ab G G (bz ax G hv G (ab G G (ad ?_))))))));refine aX ?_;refine cY (σ:=Nat×Int) (λs=>[(0,v),(5,v),(6,.int .i64 l.length),(7,.int .i64 s.1)]) (λs w=>w=w0/\s.1<=l.length/\fT (-1) l=fT s.2 (l.drop s.1)/\ -1<=s.2/\(s.1=0->s.2= -1)/\(0<s.1->l[s.1-1]? =some s.2)) (λs=>l.length-s.1) (0,-1) a38 ?_ ?_
 ·exact⟨rfl,bp _,rfl,by decide,λ_=>rfl,λh=>absurd h (ji 0)⟩
 ·rintro⟨k,last⟩ w1 ⟨rfl,hk,hr,Sf,h0,h1⟩;dsimp only at hk hr Sf h0 h1 ⊢;refine T.aP (cy G G G (ad (aK ?_)));refine bF G (λc2=>?_) (λc2=>?_)
  ·refine aR (aK (aX (T.aP (ab G G ?_))));obtain⟨x,hx⟩:∃x,l[k]? =some x:=⟨_,an q0⟩;refine cB ax I3 G G G hv bU q0 (λu a hg hu=>?_);obtain rfl:x=a:=cz (aJ (hg.symm.trans ae0));refine bT ak G G hu bU (λinx=>?_);refine aG G G (Rg.aZ G G (T.aP (ab G G (cy G G G (ab G G ?_)))));refine aO (g:=14) G (λvQ=>?_) (λvQ=>?_)
   ·refine aj G G G G (aj G G G G (aj G G G G (cf G G G (cf G G G (cf G G G (cf G G G (cf G G G (cf G G G (cf G G G (aj G G G G (aU G G G ?_)))))))))));refine ad (kA G (T.aP (Rg.aZ G G (aI ?_))));refine aF G G ⟨congrArg Value.bool (cz ?_),G⟩;rw[hr,gq hx,decide_eq_false (show¬last<x by omega),eP]
   ·refine ae G G (ab G G (ae G G (eN G G G (ae G G (ab G G ?_)))));refine aO (g:=17) G (λWp=>?_) (λWp=>?_)
    ·refine ae G G (ab G G (ae G G (ab G G (ae G G (ab G G (ae G G (jB G G G q0 (ae G G ?_))))))));refine cB ax I3 G G G hv bU q0 (λu2 a hg fm=>?_);obtain rfl:last=a:=cz (aJ (hg.symm.trans (by rw[show((k:Int)-1).toNat=k-1 from by omega];exact h1 q0)));refine ae G G ?_;refine bT ak G G fm bU (λinl=>?_);refine ae G G (fN G G G (ae G G (aU G G G (aA G G G (ad ?_)))));refine bF G (λc4=>?_) (λc4=>?_)
     ·refine T.aP (Rg.aZ G G (aI ?_));refine aF G G ⟨congrArg Value.bool (cz ?_),G⟩;rw[hr,gq hx,decide_eq_false (show¬last<x by omega),eP]
     ·refine aR (aM (bC G G G q0 (ab G G (ad ?_))));refine⟨G,(k+1,x),a38,?_,?_⟩
      ·refine⟨rfl,by simp only;omega,?_,by simp only;omega,λh=>by simp at h,λ_=>by simpa using hx⟩;rw[hr,gq hx,decide_eq_true (show last<x by omega),dr]
      ·simp only;omega
    ·refine aj G G G G (aj G G G G (aj G G G G (aj G G G G (aj G G G G (aj G G G G (aj G G G G (ae G G (aA G G G (aA G G G (ad (jJ G ?_)))))))))));refine aR (aM (bC G G G q0 (ab G G (ad ?_))));refine⟨G,(k+1,x),a38,?_,?_⟩
     ·refine⟨rfl,by simp only;omega,?_,by simp only;omega,λh=>by simp at h,λ_=>by simpa using hx⟩;rw[hr,gq hx,decide_eq_true (show last<x by omega),dr]
     ·simp only;omega
  ·refine cN (T.aP (Rg.aZ G G (aI ?_)));refine aF G G ⟨congrArg Value.bool (cz ?_),G⟩;rw[hr,fG q0];rfl
theorem EZ {M:aL} {v:Value} {l:List (List UInt8)} (w0:World) (hv:(RT.str.sl).V M w0 l v):
  Spec Tryz.prog 197 #[v] w0 (λv' w'=>v'= .bool (EX none l)/\w'=w0):=by
 have hlen:=cQ hv;refine a7 (args:=[_]) (fn:=Tryz.f197) Tryz.func197 G (n:=24) Tryz.ntmps197 (T.aP (Rg.aZ G G (aK (T.aP (ab G G (bz aB G hv G (ab G G (ad ?_))))))));refine aX ?_;refine cY (σ:=Nat×Option (List UInt8)) (λs=>[(0,v),(5,v),(6,.int .i64 l.length),(7,.int .i64 s.1)]) (λs w=>w=w0/\s.1<=l.length/\EX none l=EX s.2 (l.drop s.1)/\(s.1=0->s.2=none)/\(0<s.1->∃a,s.2=some a/\l[s.1-1]? =some a)) (λs=>l.length-s.1) (0,none) a38 ?_ ?_
 ·exact⟨G,bp _,G,λ_=>G,λh=>absurd h (ji 0)⟩
 ·rintro⟨k,o⟩ w1 ⟨rfl,hk,hr,h0,h1⟩;dsimp only at hk hr h0 h1 ⊢;refine T.aP (cy G G G (ad (aK ?_)));refine bF G (λc2=>?_) (λc2=>?_)
  ·refine aR (aK (aX (T.aP (ab G G ?_))));obtain⟨x,hx⟩:∃x,l[k]? =some x:=⟨_,an q0⟩;refine cB aB I9 G G G hv bU q0 (λu a hg hu=>?_);obtain rfl:x=a:=cz (aJ (hg.symm.trans ae0));refine bD az G G G G G hu bU (λvx yV=>?_);obtain rfl:=dS yV;refine aG G G (Rg.aZ G G (T.aP (ab G G (eN G G G (ab G G ?_)))));refine aO (g:=14) G (λvQ=>?_) (λvQ=>?_)
   ·refine ae G G (ab G G (ae G G (ab G G (ae G G (ab G G (ae G G (jB G G G q0 (ae G G ?_))))))));obtain⟨last,rfl,jD⟩:=h1 q0;refine cB aB I9 G G G hv bU q0 (λu2 a hg fm=>?_);obtain rfl:last=a:=cz (aJ (hg.symm.trans (by rw[show((k:Int)-1).toNat=k-1 from by omega];exact jD)));refine ae G G ?_;refine bD az G G G G G fm bU (λvl k7=>?_);obtain rfl:=dS k7;refine ae G G (Rg.WG G G G (aU G G G (ad ?_)));refine bF G (λc4=>?_) (λc4=>?_)
    ·refine T.aP (Rg.aZ G G (aI ?_));refine aF G G ⟨congrArg Value.bool (cz ?_),G⟩;rw[hr,zo hx];simp[c4]
    ·refine aR (aM (bC G G G q0 (ab G G (ad ?_))));refine⟨G,(k+1,some x),a38,?_,?_⟩
     ·refine⟨rfl,by simp only;omega,?_,λh=>by simp at h,λ_=>⟨x,rfl,by simpa using hx⟩⟩;rw[hr,zo hx]
      first
      |(rw[h0 q0];simp;done)
      |(have c4':=cG.1 c4;simp[c4'];done)
     ·simp only;omega
   ·refine aj G G G G (aj G G G G (aj G G G G (aj G G G G (aj G G G G (aj G G G G (aj G G G G (aA G G G (ad (jJ G (aR (aM ?_)))))))))));refine bC G G G q0 (ab G G (ad ?_));refine⟨G,(k+1,some x),a38,?_,?_⟩
    ·refine⟨rfl,by simp only;omega,?_,λh=>by simp at h,λ_=>⟨x,rfl,by simpa using hx⟩⟩;rw[hr,zo hx]
     first
     |(rw[h0 q0];simp;done)
     |(have c4':=cG.1 c4;simp[c4'];done)
    ·simp only;omega
  ·refine cN (T.aP (Rg.aZ G G (aI ?_)));refine aF G G ⟨congrArg Value.bool (cz ?_),G⟩;rw[hr,fG q0];rfl
theorem BD {α:Type} {A:RT α} {M:aL} {w:World} {v:Value} {x:α} (h:cM A M w v x):v.cells= #[v]:=by
 obtain⟨b,o,vs,rfl,_⟩:=h;rfl
theorem G7 {M:aL} {v0 v1:Value} {ns:List (List UInt8)} {ts:List Li} (w0:World) (hM:Lt M w0) (hn:(RT.str.sl).V M w0 ns v0) (ht:(((RT.li).ptr).sl).V M w0 ts v1) (hl:ns.length<=1099511627776) (F4:ts.length<=1099511627776):
  Spec Tryz.prog 157 #[v0,v1] w0 (λv w=>∃p,v= .tuple #[p,.int .i64 (if ns.length=ts.length/\EX none ns=true then 0 else 1)]/\(ns.length=ts.length->EX none ns=true->cM RT.di M w p (ns,ts))/\Step M w0 M w aD):=by
 refine a7 (args:=[_,_]) (fn:=Tryz.f157) Tryz.func157 G (n:=22) Tryz.ntmps157 ?_;have S:Step M w0 M w0 aD:=aW;refine T.aP (aG G G (Rg.aZ G G (aK (T.aP (ab G G (bz aB G hn G (ab G G (bz ff G ht G ?_))))))));refine eV G G G (ab G G ?_);refine aO (g:=11) G (λk3=>?_) (λk3=>?_)
 ·refine aj G G G G (aj G G G G (aj G G G G (aU G G G (ad (kA G (T.aP (aG G G (Rg.aZ G G (aI ?_)))))))))
  first
  |exact fc rfl rfl rfl ⟨_,by rw[if_neg (λh=>k3 q0)],λh=>absurd q0 k3,S⟩
  |exact fc rfl rfl rfl ⟨_,by rw[if_neg (λh=>c1 h.2)],λ_ h=>absurd h c1,S⟩
 ·refine ae G G (ab G G (ae G G ?_));refine aQ G G aiX (EZ _ hn) (λr wc hc=>?_);obtain⟨rfl,rfl⟩:=hc;refine ae G G (ib G G (br (v':= .bool (decide (¬EX none ns=true))) (by simp) (aA G G G (ad ?_))));refine bF G (λc1=>?_) (λc1=>?_)
  ·refine T.aP (aG G G (Rg.aZ G G (aI ?_)))
   first
   |exact fc rfl rfl rfl ⟨_,by rw[if_neg (λh=>k3 q0)],λh=>absurd q0 k3,S⟩
   |exact fc rfl rfl rfl ⟨_,by rw[if_neg (λh=>c1 h.2)],λ_ h=>absurd h c1,S⟩
  ·refine aR (T.aP (ab G G ?_));refine aQ G G aiY (NY hM hn hl) (λv3 w3 hc=>?_);obtain⟨tK,s3⟩:=hc;replace hn:=hn.le s3.le;replace ht:=ht.le s3.le;replace hM:=s3.lt hM;have:=S.size;replace S:=S.av s3;refine ab G G ?_;refine aQ G G aiZ (R6 hM ht F4) (λv4 w4 hc=>?_);obtain⟨pK,s4⟩:=hc;replace hn:=hn.le s4.le;replace ht:=ht.le s4.le;replace tK:=tK.le s4.le;replace hM:=s4.lt hM;have:=S.size;replace S:=S.av s4;refine dN (places:=[(0,1),(1,1)]) Tryz.underlying310 aiV aiW rfl ⟨_,_,rfl,rfl,_,_,rfl,rfl,rfl⟩ (out:=[_,_]) ⟨0,[_],rfl,iR tK,by simp[Value.cells],1,[_],rfl,iR pK,by simp[Value.cells],rfl⟩ ?_;refine ej (A:=RT.di) (a:=(ns,ts)) G G hM (fz tK pK G G G G) G (λu5 w5 lB s5 _=>?_);replace hn:=hn.le s5.le;replace ht:=ht.le s5.le;replace tK:=tK.le s5.le;replace pK:=pK.le s5.le;replace hM:=s5.lt hM;have:=S.size;replace S:=S.av s5;refine aG G G (Rg.aZ G G (aI ?_));exact fc rfl rfl rfl ⟨_,by rw[if_pos ⟨by omega,cG.1 c1⟩],λ_ _=>lB,S⟩
end Go.K
namespace Go.K
theorem G8 (n:Nat):IntKind.u8.wrap (n:Int)=((UInt8.ofNat n).toNat:Int):=by
 rw[IntKind.wrap_u8];simp[UInt8.toNat_ofNat]
theorem abQ:∀m:Nat,m<256->(BitVec.ofInt 8 (m:Int)|||BitVec.ofInt 8 128).toNat=128+m%128:=by decide+kernel
theorem Sg (n:Nat):IntKind.u8.wrap ((BitVec.ofInt IntKind.u8.bits (IntKind.u8.wrap (n:Int))|||BitVec.ofInt IntKind.u8.bits 128).toNat:Int)=((UInt8.ofNat (128+n%128)).toNat:Int):=by
 have h1:IntKind.u8.wrap (n:Int)=((n%256:Nat):Int):=by rw[IntKind.wrap_u8];omega
 rw[h1];show IntKind.u8.wrap ((BitVec.ofInt 8 ((n%256:Nat):Int)|||BitVec.ofInt 8 128).toNat:Int)=_;rw[abQ (n%256) q0,IntKind.wrap_u8,show n%256%128=n%128 from by omega];simp[UInt8.toNat_ofNat]
theorem ai1 (n:Nat):((n:Int)).fdiv (2^min (Int.toNat 7) IntKind.i64.bits)=((n/128:Nat):Int):=by
 show((n:Int)).fdiv 128=_;rw[Int.fdiv_eq_ediv_of_nonneg _ QZ];rfl
theorem G9:∀m:Nat,m<256->(BitVec.ofInt 8 (m:Int)&&& ~~~ BitVec.ofInt 8 128).toNat=m%128:=by decide+kernel
theorem E0 (c:UInt8):IntKind.u8.wrap ((BitVec.ofInt IntKind.u8.bits (c.toNat:Int)&&& ~~~ BitVec.ofInt IntKind.u8.bits 128).toNat:Int)=((c.toNat%128:Nat):Int):=by
 show IntKind.u8.wrap ((BitVec.ofInt 8 (c.toNat:Int)&&& ~~~ BitVec.ofInt 8 128).toNat:Int)=_;rw[G9 c.toNat (by have:=c.toNat_lt;omega),IntKind.wrap_u8];omega
theorem Ox (k n x:Nat) (hk:k<=8) (hn:n<128^k) (hx:x<128):
  IntKind.i64.wrap ((BitVec.ofInt IntKind.i64.bits (n:Int)|||BitVec.ofInt IntKind.i64.bits (IntKind.i64.wrap ((x:Int)*2^min (Int.toNat (7*(k:Int))) IntKind.i64.bits))).toNat:Int)=((n+x*128^k:Nat):Int):=by
 have e7:Int.toNat (7*(k:Int))=7*k:=by omega
 have e1:min (7*k) 64=7*k:=by omega
 have e2:(128:Nat)^k=2^(7*k):=by rw[Nat.pow_mul]
 have hp:2^(7*k)<=2^56:=xh QZ q0;have hb:x*2^(7*k)<=127*2^(7*k):=Nat.mul_le_mul_right _ q0;rw[e2]at hn ⊢;show IntKind.i64.wrap ((BitVec.ofInt 64 (n:Int)|||BitVec.ofInt 64 (IntKind.i64.wrap ((x:Int)*2^min (Int.toNat (7*(k:Int))) 64))).toNat:Int)=_;rw[e7,e1];have e3:((x:Int)*2^(7*k))=((x*2^(7*k):Nat):Int):=by simp
 have e5:n|||x*2^(7*k)=n+x*2^(7*k):=by
  rw[Nat.or_comm,Nat.mul_comm x,<-Nat.two_pow_add_eq_or_of_lt hn x,Nat.add_comm]
 rw[e3];generalize x*2^(7*k)=y at*
 generalize 2^(7*k)=z at*
 have e4:∀m:Nat,m<2^64->(BitVec.ofInt 64 (m:Int))=BitVec.ofNat 64 m:=λm _=>by simp
 rw[jU (y:Int) q0,e4 n q0,e4 y q0,BitVec.toNat_or,BitVec.toNat_ofNat,BitVec.toNat_ofNat,Nat.mod_eq_of_lt q0,Nat.mod_eq_of_lt q0,e5,jU _ q0]
theorem sy (x:Int): -9223372036854775808<=IntKind.i64.wrap x/\IntKind.i64.wrap x<=9223372036854775807:=by rw[IntKind.wrap_i64];omega
end Go.K

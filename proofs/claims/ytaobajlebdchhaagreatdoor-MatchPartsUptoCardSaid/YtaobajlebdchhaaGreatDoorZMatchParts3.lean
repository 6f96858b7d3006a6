/- What the law 'MatchParts' needs of walks and plain Lean, part 3: nothing is assumed beyond the texts that it imports. -/
import Derived.Deep.Draws
import Derived.DeepKeys4
import Derived.Ground.GgzProg
import Derived.Ground.SlgmProg
import Derived.Ground.SlsfProg
import Derived.KernelRfl
import Derived.Lib.Bytealg
import Derived.Shelf.SlGeneric
import Derived.Shelf.SlIter.Nil
import Derived.Shelf.SlIterI.Nil
import Derived.Shelf.SlSortCmp.NoneTotal
import Derived.Shelf.SortM.Plain
import Derived.Shelf.SortM.SortNone
import Derived.Sort.Grow
import Derived.Sort.KeysCollected
import Derived.Sort.Walk0
import Derived.Test.YtaobajlebdchhaaGreatDoorProg
import Derived.Test.YtaobajlebdchhaaGreatDoorZMatchParts1
import Derived.Test.YtaobajlebdchhaaGreatDoorZMatchParts2
set_option linter.unusedVariables false
set_option linter.unusedSimpArgs false
theorem fO:type_of% @Go.K.Rg.jL:=@Go.K.Rg.jL
namespace Go.K
open Go.Proofs
set_option maxRecDepth 10000
theorem Ck {M:aP} {d:Dc} {v0:Value} (w0:World) (hM:Lt M w0) (hv:RT.dc.V M w0 d v0) (hl:∀f∈d.2,f.1.length<=900000/\f.2.length<=900000):
  Spec Tryz.prog 29 #[v0] w0 (λv w=>v= .int .i64 (oX d)/\Step M w0 M w aH):=by
 have jq:=hM;refine bD (args:=[_]) (fn:=Tryz.f29) Tryz.func29 G (n:=66) Tryz.ntmps29 ?_;have S:Step M w0 M w0 aH:=bg;refine T.aU ?_;refine fO (A:=RT.dc) G G hM hv G (λu0 w1 dP s0 _=>?_);replace hM:=s0.lt hM;have:=S.size;replace S:=S.ar s0;refine Rg.a8 G G (aQ (T.aU ?_));refine aw (M:=M) (A:=RT.dc) (B:=(RT.fd).sl) bJ G G xj q0 (KL) G G q0 VR (by repeat (first|exact bB _ _|refine aW (bC VR) ?_)) (λBH l2=>?_);refine bV (M:=M) bP G G G G G VR (by repeat (first|exact bB _ _|refine aW (bC VR) ?_)) (λzY nh=>?_);refine bR bP G nh G (fR G G G (ad ?_));refine bH G (λc1=>?_) (λc1=>?_)
 ·refine T.aU (Rg.a8 G G (aS ?_));exact aT rfl rfl ⟨by rw[oX,if_pos hV],S.back⟩
 ·refine aM (T.aU (Rg.a8 G G (aQ (T.aU (Rg.a8 G G (bp ?_))))));refine dz (σ:=Nat×Nat) (λq=>[(1,u0),(3,.int .i64 (q.2:Int)),(4,.int .i64 (q.1:Int))]) (λq w=>Lt M w/\Step M w0 M w aH/\dp RT.dc M w u0 d/\oX d=BG (d.2.take q.1) (d.2.drop q.1) q.2/\q.1<=d.2.length/\q.2<=900001*q.1/\d.2.length<=8) (λq=>d.2.length-q.1) (0,0) a11 ?_ ?_
  ·exact⟨hM,S,dP,by rw[oX,if_neg hV];rfl,bA _,aK _,by omega⟩
  ·rintro⟨i,n⟩ w ⟨hM,S,dP,HC,hi,hn,hd8⟩;dsimp only at HC hi hn ⊢;refine aQ (T.aU (ab G G ?_));refine aw (M:=M) (A:=RT.dc) (B:=(RT.fd).sl) bJ G G xj q0 (KL) G G q0 VR (by repeat (first|exact bB _ _|refine aW (bC VR) ?_)) (λabI Jz=>?_);refine bV (M:=M) bP G G G G G VR (by repeat (first|exact bB _ _|refine aW (bC VR) ?_)) (λaie UQ=>?_);refine bR bP G UQ G (cH G G G (ad ?_));refine bH G (λc5=>?_) (λc5=>?_)
   ·refine aM (aQ (bp (T.aU ?_)));refine aw (M:=M) (A:=RT.dc) (B:=(RT.fd).sl) bJ G G xj q0 (KL) G G q0 VR (by repeat (first|exact bB _ _|refine aW (bC VR) ?_)) (λabJ JA=>?_);refine bV (M:=M) bP G G G G G VR (by repeat (first|exact bB _ _|refine aW (bC VR) ?_)) (λaif UR=>?_);refine ab G G ?_;refine cD bP kY G G G UR ck hV (λaru x E4 anA=>?_);rw[av]at E4;refine aw (M:=M) (A:=RT.fd) (B:=RT.str) cW G G I9 q0 (Mw) G G q0 VR (by repeat (first|exact bB _ _|refine aW (bC VR) ?_)) (λarv abK=>?_);refine bV aE G G G G G abK ck (λarw abL=>?_);obtain rfl:=eF abL;have lF:=Jw (n:=n) E4;have yM:=hl _ (ao E4);refine aV G G E58 (tP x.1 hV _) (λr7 w7 hc=>?_);obtain⟨rfl,rfl⟩:=hc;refine Rg.a8 rfl rfl (aQ (T.aU (ab rfl rfl (jd rfl rfl (aZ (v':= .bool (decide (eK x.1=false))) (by cases eK x.1<;>rfl) (ad ?_))))));refine bH G (λc8=>?_) (λc8=>?_)
    ·refine T.aU (Rg.a8 G G (aS ?_));exact aT rfl rfl ⟨by rw[HC,lF,if_pos VR],S.back⟩
    ·refine aM (aQ (T.aU (Rg.a8 G G (bp ?_))));refine dz (σ:=Nat) (λj=>[(1,u0),(3,.int .i64 (n:Int)),(4,.int .i64 (i:Int)),(6,.int .i64 (j:Int))]) (λj w=>Lt M w/\Step M w0 M w aH/\dp RT.dc M w u0 d/\j<=i/\∀k y,k<j->d.2[k]? =some y->y.1≠x.1) (λj=>i-j) 0 VS ?_ ?_
     ·exact⟨hM,S,dP,bA _,λk c h=>absurd h (fp k)⟩
     ·rintro j w ⟨hM,S,dP,hj,ka⟩;refine aQ (T.aU (ab G G (ab G G (cH G G G (ad ?_)))));refine bH G (λKR=>?_) (λKR=>?_)
      ·refine aM (aQ (bp (aQ ?_)));apply Bw mixed rfl rfl;intro Og Xf;have jy:=Xf M;replace dP:=dP.le q0 jy.le;replace hM:=jy.lt hM;have:=S.size;replace S:=S.ar jy;refine aw (M:=M) (A:=RT.dc) (B:=(RT.fd).sl) bJ G G xj q0 (KL) G G q0 VR (by repeat (first|exact bB _ _|refine aW (bC VR) ?_)) (λanB aih=>?_);refine Rg.dI ?_;refine bV (M:=M) bP G G G G G VR (by repeat (first|exact bB _ _|refine aW (bC VR) ?_)) (λanC Xg=>?_);refine Rg.dI (ab G G (Rg.dI ?_));refine cD bP kY G G G Xg ck hV (λUS y HD gD=>?_);rw[av]at HD;refine Rg.dI ?_;refine aw (M:=M) (A:=RT.fd) (B:=RT.str) cW G G I9 q0 (Mw) G G q0 VR (by repeat (first|exact bB _ _|refine aW (bC VR) ?_)) (λgF Xh=>?_);refine Rg.dI ?_;refine bV aE G G G G G Xh ck (λJB xu=>?_);obtain rfl:=eF xu;refine Rg.dI ?_;refine aw (M:=M) (A:=RT.dc) (B:=(RT.fd).sl) bJ G G xj q0 (KL) G G q0 VR (by repeat (first|exact bB _ _|refine aW (bC VR) ?_)) (λUT Oh=>?_);refine Rg.dI ?_;refine bV (M:=M) bP G G G G G VR (by repeat (first|exact bB _ _|refine aW (bC VR) ?_)) (λanD Xi=>?_);refine Rg.dI (ab G G (Rg.dI ?_));refine cD bP kY G G G Xi ck hV (λanE z Oi aii=>?_);rw[av]at Oi;refine Rg.dI ?_;refine aw (M:=M) (A:=RT.fd) (B:=RT.str) cW G G I9 q0 (Mw) G G q0 VR (by repeat (first|exact bB _ _|refine aW (bC VR) ?_)) (λaij SN=>?_)
       refine Rg.dI ?_;refine bV aE G G G G G SN ck (λaik SO=>?_);obtain rfl:=eF SO;refine Rg.dI (Rg.Ej (p:=y.1) (q:=z.1) G G G ?_);obtain rfl:x=z:=aG (E4.symm.trans Oi);refine Rg.dI (gV ?_);refine bH G (λBI=>?_) (λBI=>?_)
       ·refine T.aU (Rg.a8 G G (aS ?_));have Oj:((d.2.take i).any λg=>decide (g.1=x.1))=true:=jP.2 ⟨y,ao (i:=j) (by rw[dR,if_pos hV];exact HD),by simpa using VR⟩;exact aT rfl rfl ⟨by rw[HC,lF,if_neg VR,if_pos Oj],S.back⟩
       ·refine aM (ay (ab G G (aX G G G hV (Rg.a8 G G ?_))));refine⟨G,j+1,VS,?_,?_⟩
        ·exact⟨hM,S,dP,by omega,λk y' h hc=>by
          rcases cT k j with h2|h2
          ·exact ka k y' h2 hc
          ·obtain rfl:k=j:=by omega
           rw[HD]at hc;cases hc;assumption⟩
        ·omega
      ·refine de (T.aU ?_);refine aw (M:=M) (A:=RT.dc) (B:=(RT.fd).sl) bJ G G xj q0 (KL) G G q0 VR (by repeat (first|exact bB _ _|refine aW (bC VR) ?_)) (λanF ail=>?_);refine bV (M:=M) bP G G G G G VR (by repeat (first|exact bB _ _|refine aW (bC VR) ?_)) (λanG Xj=>?_);refine ab G G ?_;refine cD bP kY G G G Xj ck hV (λanH z Ol aim=>?_);rw[av]at Ol;refine aw (M:=M) (A:=RT.fd) (B:=RT.str) cW G G I9 q0 (UI) G G q0 VR (by repeat (first|exact bB _ _|refine aW (bC VR) ?_)) (λanI Xk=>?_);refine bV aE G G G G G Xk ck (λanJ Xl=>?_);obtain rfl:=eF Xl;obtain rfl:x=z:=aG (E4.symm.trans Ol);refine aV G G E74 (Hy _ hM yM.2) (λr15 HE hc=>?_);obtain⟨⟨u15,rfl,ain⟩,pS⟩:=hc;replace dP:=dP.le q0 pS.le;replace hM:=pS.lt hM;have:=S.size;replace S:=S.ar pS;refine ab G G (cP G G G (cP G G G (aJ G G (Rg.a8 G G (aQ (T.aU (ab G G (fG G G G (ad ?_)))))))));refine bH G (λG2=>?_) (λG2=>?_)
       ·refine T.aU (ab G G (Rg.a8 G G (aS ?_)))
        have Oj:((d.2.take i).any λg=>decide (g.1=x.1))=false:=fH.2 λh=>by
         obtain⟨y,hy,he⟩:=jP.1 h;obtain⟨k,hk⟩:=bQ.1 hy;rw[dR]at hk
         split at hk
         ·exact ka k y hV hk (by simpa using he)
         ·cases hk
        exact aT rfl rfl ⟨by rw[HC,lF,if_neg VR,if_neg (by rw[Oj];simp),if_pos G2];rfl,S.back⟩
       ·refine aM (ay (ab G G ?_));have htk:ng 0 (words x.2)=0:=Classical.not_not.1 G2;obtain⟨a,cap,rfl⟩:=ain htk;have UP:=oW x.2;refine ab G G (Rg.xf Tryz.underlying154 G G (aX G G G hV (Rg.a8 G G (ay (ab G G (aX G G G hV (Rg.a8 G G ?_)))))))
        have Oj:((d.2.take i).any λg=>decide (g.1=x.1))=false:=fH.2 λh=>by
         obtain⟨y,hy,he⟩:=jP.1 h;obtain⟨k,hk⟩:=bQ.1 hy;rw[dR]at hk
         split at hk
         ·exact ka k y hV hk (by simpa using he)
         ·cases hk
        refine⟨G,(i+1,n+(words x.2).length),a11,?_,?_⟩
        ·exact⟨hM,S,dP,by rw[HC,lF,if_neg VR,if_neg (by rw[Oj];simp),if_neg G2],by dsimp only;omega,by dsimp only;omega,hd8⟩
        ·dsimp only;omega
   ·refine de (aQ (T.aU (ab G G (fR G G G (ad ?_)))));refine bH G (λUL=>?_) (λUL=>?_)
    ·refine T.aU (Rg.a8 G G (aS ?_));exact aT rfl rfl ⟨by rw[HC,uY hV,if_pos hV],S.back⟩
    ·refine aM (T.aU (Rg.a8 G G (aS ?_)));exact aT rfl rfl ⟨by rw[HC,uY hV,if_neg hV],S.back⟩
def E5:List (List UInt8):=[[116],[117],[118],[119]]
def fixF (i:Nat) (x:Fd):Fd:=(if eK x.1=true then x.1 else E5.getD i [],x.2.take 40)
def oZ (id:Int):Nat->List Fd->List Fd->List Fd
 |_,out,[]=>out
 |i,out,x::fs=>if i<4 then(if oX (id,out++[fixF i x])=0 then oZ id (i+1) (out++[fixF i x]) fs else oZ id (i+1) out fs)else out
def qp (d:Dc):Dc:=(d.1,oZ d.1 0 [] d.2)
def tR (l:List Fd):Prop:=∀x∈l,x.1.length<=12/\x.2.length<=40
theorem E6 {s:List UInt8} (h:eK s=true):s.length<=12:=by
 simp only[eK,cC,decide_eq_true_eq]at h;omega
theorem Aa {i:Nat} (x:Fd) (hi:i<4):(fixF i x).1.length<=12/\(fixF i x).2.length<=40:=by
 refine⟨?_,by simp only[fixF,bI];omega⟩;unfold fixF;dsimp only
 split
 ·exact E6 VR
 ·have h:i=0\/i=1\/i=2\/i=3:=by omega
  rcases h with rfl|rfl|rfl|rfl<;>decide
theorem tR.snoc {l:List Fd} {x:Fd} (h:tR l) (hx:x.1.length<=12/\x.2.length<=40):tR (l++[x]):=λy hy=>by
 rcases dH.1 hy with hy|hy
 ·exact h y hy
 ·rw[cV.1 hy];exact hx
theorem Om {id:Int} {fs:List Fd} {i:Nat} {out:List Fd} {x:Fd} (h:fs[i]? =some x) (hi:i<4):oZ id i out (fs.drop i)=if oX (id,out++[fixF i x])=0 then oZ id (i+1) (out++[fixF i x]) (fs.drop (i+1))else oZ id (i+1) out (fs.drop (i+1)):=by
 have eU:=(ak.1 h).1;rw[fe eU,(ak.1 h).2];show(if i<4 then _ else _)=_;rw[if_pos hi]
theorem Cl {id:Int} {fs:List Fd} {i:Nat} {out:List Fd} (h:fs.length<=i\/4<=i):oZ id i out (fs.drop i)=out:=by
 cases hd:fs.drop i with
 |nil=>rfl
 |cons x r=>
  show(if i<4 then _ else _)=_;rw[if_neg];rcases h with h|h
  ·rw[jF h]at hd;cases hd
  ·omega
theorem E7 (l:List UInt8):l.take (min (l.length:Int) 40).toNat=l.take 40:=by
 by_cases h:l.length<=40
 ·rw[bM hV,bM h]
 ·congr 1;omega
theorem K3 {M:aP} {d:Dc} {v0:Value} (w0:World) (hM:Lt M w0) (hv:RT.dc.V M w0 d v0):
  Spec Tryz.prog 47 #[v0] w0 (λv w=>RT.dc.V M w (qp d) v/\Step M w0 M w aH):=by
 have jq:=hM
 have hdi: -9223372036854775808<=d.1/\d.1<=9223372036854775807:=by
  obtain⟨vs,⟨va,vb,_,⟨_,h1,h2⟩,_⟩,_⟩:=hv;exact⟨h1,h2⟩
 refine bD (args:=[_]) (fn:=Tryz.f47) Tryz.func47 G (n:=67) Tryz.ntmps47 ?_;have S:Step M w0 M w0 aH:=bg;refine T.aU ?_;refine fO (A:=RT.dc) G G hM hv G (λu0 w1 dP s0 _=>?_);replace hM:=s0.lt hM;have:=S.size;replace S:=S.ar s0;refine eu M pN G (λgz tS HF HG cN iN=>?_);obtain⟨fi,gL⟩:∃M',M'=ins M gz:=⟨_,rfl⟩;rw[<-gL]at iN;have b9:fi gz:=by rw[gL];exact .inl G
 change tS.heap[gz]? =some (.cells #[.int .i64 0,.slice none 0 0] _ _)at cN;replace dP:=dP.le q0 iN.le;replace hM:=iN.lt hM;have:=S.size;replace S:=S.ar iN;refine ad (T.aU ?_);refine aw (M:=fi) (A:=RT.dc) (B:=RT.int .i64) bJ G G I3 q0 (dc0) G G q0 VR (by repeat (first|exact bB _ _|refine aW (bC VR) ?_)) (λBH l2=>?_);refine bX (M:=fi) al G G VR (by repeat (first|exact bB _ _|refine aW (bC VR) ?_)) (λUU=>?_);refine cx (places:=[(0,1),(1,1)]) bJ pN B72 rfl ⟨_,_,rfl,rfl,rfl⟩ (out:=[_,.slice none 0 0]) ⟨0,[_],rfl,rfl,by simp[Value.cells],rfl⟩ ?_;refine eu fi pN G (λyC KW aio aip kZ s1_3=>?_);obtain⟨nW,Ab⟩:∃M',M'=ins fi yC:=⟨_,rfl⟩;rw[<-Ab]at s1_3;have ki:nW yC:=by rw[Ab];exact .inl G
 change KW.heap[yC]? =some (.cells #[.int .i64 0,.slice none 0 0] _ _)at kZ;have:=ah cN;replace b9:=(s1_3.mem _ this).2 b9;replace cN:=s1_3.aF cN;replace dP:=dP.le q0 s1_3.le;replace hM:=s1_3.lt hM;have:=S.size;replace S:=S.ar s1_3;refine dm (M:=nW) (vs:=[.int .i64 d.1,.slice none 0 0]) pN G G a16 rfl rfl kZ ki (λw1b aiq Xm=>?_);have:=ah cN;replace b9:=(Xm.mem _ this).2 b9;replace cN:=Xm.bY cN a05;have:=ah kZ;replace ki:=(Xm.mem _ this).2 ki;replace dP:=dP.le q0 Xm.le;replace hM:=Xm.lt hM;have:=S.size;replace S:=S.trans Xm (λk hk h=>by have h:_=_:=h;subst h;first|(exfalso;omega)|(show _<=_;omega)|exact⟨by first|omega|assumption,(S.mem _ hk).1 ((Xm.mem _ (ah kZ)).1 ki)⟩|exact .inl rfl|exact .inr rfl|exact .inr (.inl rfl)|exact .inr (.inr rfl)|exact .inr (.inr (.inl rfl))|exact rfl);have E8:=aiq;clear kZ;have kZ:=E8;clear E8;refine ad (T.aU ?_);refine Rg.Kp (A:=RT.str) (hn:=by decide) (M:=nW) (xs:=E5) aI I9 G q0 rfl ⟨_,_,_,rfl,rfl,rfl,mH.2 ⟨rfl,by decide⟩,_,_,_,rfl,rfl,rfl,mH.2 ⟨rfl,by decide⟩,_,_,_,rfl,rfl,rfl,mH.2 ⟨rfl,by decide⟩,_,_,_,rfl,rfl,rfl,mH.2 ⟨rfl,by decide⟩,rfl⟩ rfl hM (.inr ⟨rfl,rfl⟩) q0 (λu2 w2 ed s2=>?_);have:=ah cN;replace b9:=(s2.mem _ this).2 b9;replace cN:=s2.aF cN;have:=ah kZ;replace ki:=(s2.mem _ this).2 ki;replace kZ:=s2.aF kZ;replace dP:=dP.le q0 s2.le;replace hM:=s2.lt hM;have:=S.size;replace S:=S.ar s2;refine Rg.a8 G G (aQ (T.aU (Rg.a8 G G (bp ?_))));refine dz (σ:=Nat×List Fd) (λq=>[(1,u0),(2,.pointer (some ⟨gz,0,none⟩)),(3,.pointer (some ⟨yC,0,none⟩)),(4,u2),(5,.int .i64 (q.1:Int))]) (λq w=>∃M' uo,Lt M' w/\Step M w0 M' w aH/\dp RT.dc M' w u0 d/\(RT.str.sl).V M' w E5 u2/\w.heap[gz]? =some (.cells #[.int .i64 0,.slice none 0 0] 72 (0,0))/\M' gz/\w.heap[yC]? =some (.cells #[.int .i64 d.1,uo] 72 (0,0))/\M' yC/\(RT.fd.sl).V M' w q.2 uo/\oZ d.1 0 [] d.2=oZ d.1 q.1 q.2 (d.2.drop q.1)/\q.1<=d.2.length/\q.1<=4/\tR q.2/\q.2.length<=q.1) (λq=>d.2.length-q.1) (0,[]) a74 ?_ ?_
 ·exact⟨_,.slice none 0 0,hM,S,dP,ed,cN,b9,kZ,ki,ib,G,bA _,bA _,(λx hx=>by cases hx),aK _⟩
 ·rintro⟨i,out⟩ w ⟨M1,uo,hM,S,dP,ed,g2,dZ,g3,fz,jb,yd,hi,air,C2,lM⟩;dsimp only at g3 jb yd hi air C2 lM ⊢;refine aQ (T.aU (ab G G ?_));refine aw (M:=M1) (A:=RT.dc) (B:=(RT.fd).sl) bJ G G xj q0 (KL) G G q0 VR (by repeat (first|exact bB _ _|refine aW (bC VR) ?_)) (λabB UW=>?_);refine bV (M:=M1) bP G G G G G VR (by repeat (first|exact bB _ _|refine aW (bC VR) ?_)) (λary abM=>?_);refine bR bP G abM G (cH G G G (ab G G ?_));refine aB (g:=18) G (λXn=>?_) (λXn=>?_)
  ·refine ae G G (ab G G (ae G G (cH G G G (aN G G G (ad ?_)))));refine bH G (λc4=>?_) (λc4=>?_)
   ·refine aM (aQ (bp (T.aU ?_)));refine aw (M:=M1) (A:=RT.dc) (B:=(RT.fd).sl) bJ G G xj q0 (KL) G G q0 VR (by repeat (first|exact bB _ _|refine aW (bC VR) ?_)) (λXo E9=>?_);refine bV (M:=M1) bP G G G G G VR (by repeat (first|exact bB _ _|refine aW (bC VR) ?_)) (λXp Ac=>?_);refine ab G G ?_;refine cD bP kY G G G Ac ck hV (λu6 x Mx uU=>?_);rw[av]at Mx;have hi4:i<4:=by omega
    have hga:=Om (id:=d.1) (out:=out) Mx hi4;have UX:=Aa x hi4;refine cq (A:=RT.fd) cW G kY q0 G G G uU ck (λv6 qE=>?_);obtain rfl:=ll qE;have On:=Xd qE;refine eu M1 kY G (λXq abN arz arA ei tT=>?_);obtain⟨o2,Oo⟩:∃M',M'=ins M1 Xq:=⟨_,rfl⟩;rw[<-Oo]at tT;have dK:o2 Xq:=by rw[Oo];exact .inl G
    change abN.heap[Xq]? =some (.cells #[.string ⟨#[]⟩,.string ⟨#[]⟩] _ _)at ei;have:=ah g2;replace dZ:=(tT.mem _ this).2 dZ;replace g2:=tT.aF g2;have:=ah g3;replace fz:=(tT.mem _ this).2 fz;replace g3:=tT.aF g3;replace dP:=dP.le q0 tT.le;replace ed:=ed.le tT.le;replace jb:=jb.le tT.le;replace hM:=tT.lt hM;have:=S.size;replace S:=S.ar tT;refine dm (M:=o2) (vs:=[.string ⟨x.1.toArray⟩,.string ⟨x.2.toArray⟩]) kY G G a16 rfl rfl ei dK (λw6b ais Oq=>?_);have:=ah g2;replace dZ:=(Oq.mem _ this).2 dZ;replace g2:=Oq.bY g2 a05;have:=ah g3;replace fz:=(Oq.mem _ this).2 fz;replace g3:=Oq.bY g3 a05;have:=ah ei;replace dK:=(Oq.mem _ this).2 dK;replace dP:=dP.le q0 Oq.le;replace ed:=ed.le Oq.le;replace jb:=jb.le Oq.le;replace hM:=Oq.lt hM;have:=S.size;replace S:=S.trans Oq (λk hk h=>by have h:_=_:=h;subst h;first|(exfalso;omega)|(show _<=_;omega)|exact⟨by first|omega|assumption,(S.mem _ hk).1 ((Oq.mem _ (ah ei)).1 dK)⟩|exact .inl rfl|exact .inr rfl|exact .inr (.inl rfl)|exact .inr (.inr rfl)|exact .inr (.inr (.inl rfl))|exact rfl);have rG:=ais;clear ei;have ei:=rG;clear rG;refine ad (T.aU (a7 (o':=0) cW G G I9 q0 G G (aR aE G G G VR G ?_)));refine aV G G E58 (tP x.1 On.1 _) (λr7 w7 hc=>?_);obtain⟨rfl,rfl⟩:=hc;refine Rg.a8 rfl rfl (aQ (T.aU (ab rfl rfl (jd rfl rfl (aZ (v':= .bool (decide (eK x.1=false))) (by cases eK x.1<;>rfl) (ad ?_))))));refine bH G (λc8=>?_) (λc8=>?_)
    ·refine ay (ab G G (ab G G ?_));refine cD aI I9 rfl rfl rfl ed ck (by have:E5.length=4:=rfl;omega) (λu9 y UY hu9=>?_);rw[av]at UY;refine bV aE G G G G G hu9 ck (λv9 K4=>?_);obtain rfl:=eF K4
     obtain rfl:y=(fixF i x).1:=by
      show y=if eK x.1=true then x.1 else E5.getD i []
      rw[if_neg (by rw[c8];simp),cL,UY];rfl
     refine a7 (o':=0) cW G G I9 q0 G G ?_;refine cA (M:=o2) I9 G G ei G (G) dK (λabC abO rF=>?_);change abC.heap[_]? =some (Obj.cells #[.string ⟨((fixF i x).1).toArray⟩,.string ⟨x.2.toArray⟩] _ _)at abO;have:=ah g2;replace dZ:=(rF.mem _ this).2 dZ;replace g2:=rF.bY g2 a05;have:=ah g3;replace fz:=(rF.mem _ this).2 fz;replace g3:=rF.bY g3 a05;have:=ah ei;replace dK:=(rF.mem _ this).2 dK;replace dP:=dP.le q0 rF.le;replace ed:=ed.le rF.le;replace jb:=jb.le rF.le;replace hM:=rF.lt hM;have:=S.size;replace S:=S.trans rF (λk hk h=>by have h:_=_:=h;subst h;first|(exfalso;omega)|(show _<=_;omega)|exact⟨by first|omega|assumption,(S.mem _ hk).1 ((rF.mem _ (ah ei)).1 dK)⟩|exact .inl rfl|exact .inr rfl|exact .inr (.inl rfl)|exact .inr (.inr rfl)|exact .inr (.inr (.inl rfl))|exact rfl);have rG:=abO;clear ei;have ei:=rG;clear rG;refine ad (T.aU (a7 (o':=1) cW G G I9 q0 G G (aR aE G G G VR G (a7 (o':=1) cW G G I9 q0 G G (aR aE G G G VR G (te aE G G (aZ (v':= .int .i64 (x.2.length:Int)) a81 (Rg.min2 G G G (Rg.UH aE G G G hV (aZ (v':= .string ⟨((fixF i x).2).toArray⟩) (by rw[E7];rfl) ?_))))))))));refine a7 (o':=1) cW G G I9 q0 G G ?_;refine cA (M:=o2) I9 G G ei G (G) dK (λJv Fa gS=>?_);change Jv.heap[_]? =some (Obj.cells #[.string ⟨((fixF i x).1).toArray⟩,.string ⟨((fixF i x).2).toArray⟩] _ _)at Fa;have:=ah g2;replace dZ:=(gS.mem _ this).2 dZ;replace g2:=gS.bY g2 a05
     have:=ah g3;replace fz:=(gS.mem _ this).2 fz;replace g3:=gS.bY g3 a05;have:=ah ei;replace dK:=(gS.mem _ this).2 dK;replace dP:=dP.le q0 gS.le;replace ed:=ed.le gS.le;replace jb:=jb.le gS.le;replace hM:=gS.lt hM;have:=S.size;replace S:=S.trans gS (λk hk h=>by have h:_=_:=h;subst h;first|(exfalso;omega)|(show _<=_;omega)|exact⟨by first|omega|assumption,(S.mem _ hk).1 ((gS.mem _ (ah ei)).1 dK)⟩|exact .inl rfl|exact .inr rfl|exact .inr (.inl rfl)|exact .inr (.inr rfl)|exact .inr (.inr (.inl rfl))|exact rfl);have rG:=Fa;clear ei;have ei:=rG;clear rG;refine ad (T.aU ?_);refine aw (M:=o2) (A:=RT.dc) (B:=RT.int .i64) bJ G G I3 q0 (dc0) G G q0 VR (by repeat (first|exact bB _ _|refine aW (bC VR) ?_)) (λUZ Ot=>?_);refine bX (M:=o2) al G G VR (by repeat (first|exact bB _ _|refine aW (bC VR) ?_)) (λXr=>?_);refine cx (places:=[(0,1),(1,1)]) bJ pN B72 rfl ⟨_,_,rfl,rfl,rfl⟩ (out:=[_,.slice none 0 0]) ⟨0,[_],rfl,rfl,by simp[Value.cells],rfl⟩ ?_;refine eu o2 pN G (λAd Fb abP abQ dB gp=>?_);obtain⟨tU,uZ⟩:∃M',M'=ins o2 Ad:=⟨_,rfl⟩;rw[<-uZ]at gp;have dA:tU Ad:=by rw[uZ];exact .inl G
     change Fb.heap[Ad]? =some (.cells #[.int .i64 0,.slice none 0 0] _ _)at dB;have:=ah g2;replace dZ:=(gp.mem _ this).2 dZ;replace g2:=gp.aF g2;have:=ah g3;replace fz:=(gp.mem _ this).2 fz;replace g3:=gp.aF g3;have:=ah ei;replace dK:=(gp.mem _ this).2 dK;replace ei:=gp.aF ei;replace dP:=dP.le q0 gp.le;replace ed:=ed.le gp.le;replace jb:=jb.le gp.le;replace hM:=gp.lt hM;have:=S.size;replace S:=S.ar gp;refine dm (M:=tU) (vs:=[.int .i64 d.1,.slice none 0 0]) pN G G a16 rfl rfl dB dA (λDA Ou lp=>?_);have:=ah g2;replace dZ:=(lp.mem _ this).2 dZ;replace g2:=lp.bY g2 a05;have:=ah g3;replace fz:=(lp.mem _ this).2 fz;replace g3:=lp.bY g3 a05;have:=ah ei;replace dK:=(lp.mem _ this).2 dK;replace ei:=lp.bY ei a05;have:=ah dB;replace dA:=(lp.mem _ this).2 dA;replace dP:=dP.le q0 lp.le;replace ed:=ed.le lp.le;replace jb:=jb.le lp.le;replace hM:=lp.lt hM;have:=S.size;replace S:=S.trans lp (λk hk h=>by have h:_=_:=h;subst h;first|(exfalso;omega)|(show _<=_;omega)|exact⟨by first|omega|assumption,(S.mem _ hk).1 ((lp.mem _ (ah dB)).1 dA)⟩|exact .inl rfl|exact .inr rfl|exact .inr (.inl rfl)|exact .inr (.inr rfl)|exact .inr (.inr (.inl rfl))|exact rfl);have jN:=Ou;clear dB;have dB:=jN;clear jN;refine ad (T.aU (a7 (o':=1) bJ G G xj q0 G G (aR bP G G G VR G (a7 (o':=1) bJ G G xj q0 G G (aR bP G G G VR G ?_)))));have dX:=Own.UK RT.fd 153 DA.heap.size hM
     have aiu:=ah ei;have Ov:w0.heap.size<=DA.heap.size:=S.size;refine cI (M:=tU) (base:=DA.heap.size) bP kY rfl rfl rfl rfl dX jb ck a06 a06 (aK _) (λzV rE N7 tO fy=>?_);have:=ah g2;replace dZ:=(fy.mem _ this).2 dZ;replace g2:=fy.bY g2 (λh=>by first|exact dX.eN g2 h|exact dX.fN g2 q0 h|(have:=(dX.base _ h).1;omega));have:=ah g3;replace fz:=(fy.mem _ this).2 fz;replace g3:=fy.bY g3 (λh=>by first|exact dX.eN g3 h|exact dX.fN g3 q0 h|(have:=(dX.base _ h).1;omega));have:=ah ei;replace dK:=(fy.mem _ this).2 dK;replace ei:=fy.bY ei (λh=>by first|exact dX.eN ei h|exact dX.fN ei q0 h|(have:=(dX.base _ h).1;omega));have:=ah dB;replace dA:=(fy.mem _ this).2 dA;replace dB:=fy.bY dB (λh=>by first|exact dX.eN dB h|exact dX.fN dB q0 h|(have:=(dX.base _ h).1;omega));replace dP:=dP.le q0 fy.le;replace ed:=ed.le fy.le;replace jb:=jb.le fy.le;replace hM:=fy.lt hM;have:=S.size;replace S:=S.cf fy dX Ov;replace dX:=tO;refine a7 (o':=1) bJ G G xj q0 G G ?_;refine cA (M:=rE) xj rfl rfl dB rfl (af6) dA (λOw Fc gM=>?_);change Ow.heap[_]? =some (Obj.cells #[.int .i64 d.1,zV] _ _)at Fc;have:=ah g2;replace dZ:=(gM.mem _ this).2 dZ;replace g2:=gM.bY g2 a05;have:=ah g3;replace fz:=(gM.mem _ this).2 fz;replace g3:=gM.bY g3 a05;have:=ah ei;replace dK:=(gM.mem _ this).2 dK;replace ei:=gM.bY ei a05;have:=ah dB;replace dA:=(gM.mem _ this).2 dA;replace dP:=dP.le q0 gM.le
     replace ed:=ed.le gM.le;replace jb:=jb.le gM.le;replace dX:=dX.step gM (λb hb hk=>by have hk:_=_:=hk;have:=(dX.base b hb);omega);replace hM:=gM.lt hM;have:=S.size;replace S:=S.trans gM (λk hk h=>by have h:_=_:=h;subst h;first|(exfalso;omega)|(show _<=_;omega)|exact⟨by first|omega|assumption,(S.mem _ hk).1 ((gM.mem _ (ah dB)).1 dA)⟩|exact .inl rfl|exact .inr rfl|exact .inr (.inl rfl)|exact .inr (.inr rfl)|exact .inr (.inr (.inl rfl))|exact rfl);have jN:=Fc;clear dB;have dB:=jN;clear jN;refine ad (T.aU (a7 (o':=1) bJ G G xj q0 G G (aR bP G G G VR G (eM (vs:=[.string ⟨((fixF i x).1).toArray⟩,.string ⟨((fixF i x).2).toArray⟩]) cW G kY G G G ei ?_))));refine dT (A:=RT.fd) (hn:=by decide) (M:=rE) bP kY q0 G G hM (show RT.fd.V _ _ (fixF i x) _ from fM (mH.2 ⟨G,ch UX.1 q0⟩) (mH.2 ⟨G,ch UX.2 q0⟩) G G G G) (.inl G) (λUS abR gD gN=>?_);have:=ah g2;replace dZ:=(gN.mem _ this).2 dZ;replace g2:=gN.aF g2;have:=ah g3;replace fz:=(gN.mem _ this).2 fz;replace g3:=gN.aF g3;have:=ah ei;replace dK:=(gN.mem _ this).2 dK;replace ei:=gN.aF ei;have:=ah dB;replace dA:=(gN.mem _ this).2 dA;replace dB:=gN.aF dB;replace dP:=dP.le q0 gN.le;replace ed:=ed.le gN.le;replace jb:=jb.le gN.le;replace dX:=dX.br gN;replace hM:=gN.lt hM;have:=S.size;replace S:=S.ar gN;refine cI (M:=rE) (base:=DA.heap.size) bP kY rfl rfl rfl rfl dX gD ck a06 a06 (by have:=fy.size;have:=gM.size;have:=gN.size;omega) (λgF nj abS HH im=>?_);have:=ah g2;replace dZ:=(im.mem _ this).2 dZ
     replace g2:=im.bY g2 (λh=>by first|exact dX.eN g2 h|exact dX.fN g2 q0 h|(have:=(dX.base _ h).1;omega));have:=ah g3;replace fz:=(im.mem _ this).2 fz;replace g3:=im.bY g3 (λh=>by first|exact dX.eN g3 h|exact dX.fN g3 q0 h|(have:=(dX.base _ h).1;omega));have:=ah ei;replace dK:=(im.mem _ this).2 dK;replace ei:=im.bY ei (λh=>by first|exact dX.eN ei h|exact dX.fN ei q0 h|(have:=(dX.base _ h).1;omega));have:=ah dB;replace dA:=(im.mem _ this).2 dA;replace dB:=im.bY dB (λh=>by first|exact dX.eN dB h|exact dX.fN dB q0 h|(have:=(dX.base _ h).1;omega));replace dP:=dP.le q0 im.le;replace ed:=ed.le im.le;replace jb:=jb.le im.le;replace gD:=gD.le im.le;replace hM:=im.lt hM;have:=S.size;replace S:=S.cf im dX Ov;replace dX:=HH;refine a7 (o':=1) bJ G G xj q0 G G ?_;refine cA (M:=nj) xj rfl rfl dB rfl (af6) dA (λOx Fe gO=>?_);change Ox.heap[_]? =some (Obj.cells #[.int .i64 d.1,gF] _ _)at Fe;have:=ah g2;replace dZ:=(gO.mem _ this).2 dZ;replace g2:=gO.bY g2 a05;have:=ah g3;replace fz:=(gO.mem _ this).2 fz;replace g3:=gO.bY g3 a05;have:=ah ei;replace dK:=(gO.mem _ this).2 dK;replace ei:=gO.bY ei a05;have:=ah dB;replace dA:=(gO.mem _ this).2 dA;replace dP:=dP.le q0 gO.le;replace ed:=ed.le gO.le;replace jb:=jb.le gO.le;replace gD:=gD.le gO.le;replace dX:=dX.step gO (λb hb hk=>by have hk:_=_:=hk;have:=(dX.base b hb);omega);replace hM:=gO.lt hM;have:=S.size;replace S:=S.trans gO (λk hk h=>by have h:_=_:=h;subst h;first|(exfalso;omega)|(show _<=_;omega)|exact⟨by first|omega|assumption,(S.mem _ hk).1 ((gO.mem _ (ah dB)).1 dA)⟩|exact .inl rfl|exact .inr rfl|exact .inr (.inl rfl)|exact .inr (.inr rfl)|exact .inr (.inr (.inl rfl))|exact rfl)
     have jN:=Fe;clear dB;have dB:=jN;clear jN;refine ad (T.aU (eM (vs:=[.int .i64 d.1,gF]) bJ G pN G G G dB ?_));have yQ:=dX.view (hn:=by decide) a06;replace dZ:rm nj gF _:=⟨dZ,by first|exact dX.fN g2 q0|(intro h;have:=(dX.base _ h).1;omega)⟩;replace fz:rm nj gF _:=⟨fz,by first|exact dX.fN g3 q0|(intro h;have:=(dX.base _ h).1;omega)⟩;replace dK:rm nj gF _:=⟨dK,by first|exact dX.fN ei q0|(intro h;have:=(dX.base _ h).1;omega)⟩;replace dA:rm nj gF _:=⟨dA,by first|exact dX.fN dB q0|(intro h;have:=(dX.base _ h).1;omega)⟩;replace dP:=dP.le q0 (uB _ gF _);replace ed:=ed.le (uB _ gF _);replace jb:=jb.le (uB _ gF _);replace gD:=gD.le (uB _ gF _);replace hM:Lt (rm nj gF) _:=λb hb=>hM b hb.1
     replace S:=S.freeze (v:=gF) (λb hb=>by have:=(dX.base b hb).1;omega);clear dX;refine aV G G E29 (Ck (d:=(d.1,[]++out++[fixF i x])) _ hM (fM (iF hdi) yQ G G G G) (λy hy=>by have:=(C2.snoc UX) y (by simpa using hy);omega)) (λr14 Oy hc=>?_);obtain⟨rfl,jZ⟩:=hc;rw[ix]at yQ;have:=ah g2;replace dZ:=(jZ.mem _ this).2 dZ;replace g2:=jZ.aF g2;have:=ah g3;replace fz:=(jZ.mem _ this).2 fz;replace g3:=jZ.aF g3;have:=ah ei;replace dK:=(jZ.mem _ this).2 dK;replace ei:=jZ.aF ei;have:=ah dB;replace dA:=(jZ.mem _ this).2 dA;replace dB:=jZ.aF dB;replace dP:=dP.le q0 jZ.le;replace ed:=ed.le jZ.le;replace jb:=jb.le jZ.le;replace gD:=gD.le jZ.le;replace yQ:=yQ.le jZ.le;replace hM:=jZ.lt hM;have:=S.size;replace S:=S.ar jZ;refine je G G G (aZ (v':= .bool (decide (oX (d.1,out++[fixF i x])=0))) (by rw[ix]) (ad ?_));refine bH G (λK5=>?_) (λK5=>?_)
     ·refine ay (eM (vs:=[.int .i64 d.1,gF]) bJ G pN G G G dB ?_);refine dm (M:=rm nj gF) (vs:=[.int .i64 d.1,gF]) pN G G a16 rfl rfl g3 fz (λaiv Oz kj=>?_);have:=ah g2;replace dZ:=(kj.mem _ this).2 dZ;replace g2:=kj.bY g2 a05;have:=ah g3;replace fz:=(kj.mem _ this).2 fz;have:=ah ei;replace dK:=(kj.mem _ this).2 dK;replace ei:=kj.bY ei a05;have:=ah dB;replace dA:=(kj.mem _ this).2 dA;replace dB:=kj.bY dB a05;replace dP:=dP.le q0 kj.le;replace ed:=ed.le kj.le;replace jb:=jb.le kj.le;replace gD:=gD.le kj.le;replace yQ:=yQ.le kj.le;replace hM:=kj.lt hM;have:=S.size;replace S:=S.trans kj (λk hk h=>by have h:_=_:=h;subst h;first|(exfalso;omega)|(show _<=_;omega)|exact⟨by first|omega|assumption,(S.mem _ hk).1 ((kj.mem _ (ah g3)).1 fz)⟩|exact .inl rfl|exact .inr rfl|exact .inr (.inl rfl)|exact .inr (.inr rfl)|exact .inr (.inr (.inl rfl))|exact rfl);have g3_:=Oz;clear g3;have g3:=g3_;clear g3_;refine ad (ay (ab G G (aX G G G hV (Rg.a8 G G ?_))));refine⟨G,(i+1,out++[fixF i x]),a74,?_,?_⟩
      ·exact⟨_,_,hM,S,dP,ed,g2,dZ,g3,fz,yQ,by rw[yd,hga,if_pos K5],by dsimp only;omega,by dsimp only;omega,C2.snoc UX,by simp;omega⟩
      ·dsimp only;omega
     ·refine aM (ay (ab G G (aX G G G hV (Rg.a8 G G ?_))));refine⟨G,(i+1,out),a74,?_,?_⟩
      ·exact⟨_,_,hM,S,dP,ed,g2,dZ,g3,fz,jb,by rw[yd,hga,if_neg K5],by dsimp only;omega,by dsimp only;omega,C2,by dsimp only;omega⟩
      ·dsimp only;omega
    ·rw[show x.1=(fixF i x).1 from by show x.1=if eK x.1=true then x.1 else _;rw[if_pos (by cases hq:eK x.1 with|true=>rfl|false=>exact absurd hq c8)]]at ei;refine aM (T.aU (a7 (o':=1) cW G G I9 q0 G G (aR aE G G G VR G (a7 (o':=1) cW G G I9 q0 G G (aR aE G G G VR G (te aE G G (aZ (v':= .int .i64 (x.2.length:Int)) a81 (Rg.min2 G G G (Rg.UH aE G G G hV (aZ (v':= .string ⟨((fixF i x).2).toArray⟩) (by rw[E7];rfl) ?_))))))))));refine a7 (o':=1) cW G G I9 q0 G G ?_;refine cA (M:=o2) I9 G G ei G (G) dK (λJv Fa gS=>?_);change Jv.heap[_]? =some (Obj.cells #[.string ⟨((fixF i x).1).toArray⟩,.string ⟨((fixF i x).2).toArray⟩] _ _)at Fa;have:=ah g2;replace dZ:=(gS.mem _ this).2 dZ;replace g2:=gS.bY g2 a05;have:=ah g3;replace fz:=(gS.mem _ this).2 fz;replace g3:=gS.bY g3 a05;have:=ah ei;replace dK:=(gS.mem _ this).2 dK;replace dP:=dP.le q0 gS.le;replace ed:=ed.le gS.le;replace jb:=jb.le gS.le;replace hM:=gS.lt hM;have:=S.size;replace S:=S.trans gS (λk hk h=>by have h:_=_:=h;subst h;first|(exfalso;omega)|(show _<=_;omega)|exact⟨by first|omega|assumption,(S.mem _ hk).1 ((gS.mem _ (ah ei)).1 dK)⟩|exact .inl rfl|exact .inr rfl|exact .inr (.inl rfl)|exact .inr (.inr rfl)|exact .inr (.inr (.inl rfl))|exact rfl);have rG:=Fa;clear ei;have ei:=rG;clear rG;refine ad (T.aU ?_);refine aw (M:=o2) (A:=RT.dc) (B:=RT.int .i64) bJ G G I3 q0 (dc0) G G q0 VR (by repeat (first|exact bB _ _|refine aW (bC VR) ?_)) (λUZ Ot=>?_)
     refine bX (M:=o2) al G G VR (by repeat (first|exact bB _ _|refine aW (bC VR) ?_)) (λXr=>?_);refine cx (places:=[(0,1),(1,1)]) bJ pN B72 rfl ⟨_,_,rfl,rfl,rfl⟩ (out:=[_,.slice none 0 0]) ⟨0,[_],rfl,rfl,by simp[Value.cells],rfl⟩ ?_;refine eu o2 pN G (λAd Fb abP abQ dB gp=>?_);obtain⟨tU,uZ⟩:∃M',M'=ins o2 Ad:=⟨_,rfl⟩;rw[<-uZ]at gp;have dA:tU Ad:=by rw[uZ];exact .inl G
     change Fb.heap[Ad]? =some (.cells #[.int .i64 0,.slice none 0 0] _ _)at dB;have:=ah g2;replace dZ:=(gp.mem _ this).2 dZ;replace g2:=gp.aF g2;have:=ah g3;replace fz:=(gp.mem _ this).2 fz;replace g3:=gp.aF g3;have:=ah ei;replace dK:=(gp.mem _ this).2 dK;replace ei:=gp.aF ei;replace dP:=dP.le q0 gp.le;replace ed:=ed.le gp.le;replace jb:=jb.le gp.le;replace hM:=gp.lt hM;have:=S.size;replace S:=S.ar gp;refine dm (M:=tU) (vs:=[.int .i64 d.1,.slice none 0 0]) pN G G a16 rfl rfl dB dA (λDA Ou lp=>?_);have:=ah g2;replace dZ:=(lp.mem _ this).2 dZ;replace g2:=lp.bY g2 a05;have:=ah g3;replace fz:=(lp.mem _ this).2 fz;replace g3:=lp.bY g3 a05;have:=ah ei;replace dK:=(lp.mem _ this).2 dK;replace ei:=lp.bY ei a05;have:=ah dB;replace dA:=(lp.mem _ this).2 dA;replace dP:=dP.le q0 lp.le;replace ed:=ed.le lp.le;replace jb:=jb.le lp.le;replace hM:=lp.lt hM;have:=S.size;replace S:=S.trans lp (λk hk h=>by have h:_=_:=h;subst h;first|(exfalso;omega)|(show _<=_;omega)|exact⟨by first|omega|assumption,(S.mem _ hk).1 ((lp.mem _ (ah dB)).1 dA)⟩|exact .inl rfl|exact .inr rfl|exact .inr (.inl rfl)|exact .inr (.inr rfl)|exact .inr (.inr (.inl rfl))|exact rfl);have jN:=Ou;clear dB;have dB:=jN;clear jN;refine ad (T.aU (a7 (o':=1) bJ G G xj q0 G G (aR bP G G G VR G (a7 (o':=1) bJ G G xj q0 G G (aR bP G G G VR G ?_)))));have dX:=Own.UK RT.fd 153 DA.heap.size hM
     have aiu:=ah ei;have Ov:w0.heap.size<=DA.heap.size:=S.size;refine cI (M:=tU) (base:=DA.heap.size) bP kY rfl rfl rfl rfl dX jb ck a06 a06 (aK _) (λzV rE N7 tO fy=>?_);have:=ah g2;replace dZ:=(fy.mem _ this).2 dZ;replace g2:=fy.bY g2 (λh=>by first|exact dX.eN g2 h|exact dX.fN g2 q0 h|(have:=(dX.base _ h).1;omega));have:=ah g3;replace fz:=(fy.mem _ this).2 fz;replace g3:=fy.bY g3 (λh=>by first|exact dX.eN g3 h|exact dX.fN g3 q0 h|(have:=(dX.base _ h).1;omega));have:=ah ei;replace dK:=(fy.mem _ this).2 dK;replace ei:=fy.bY ei (λh=>by first|exact dX.eN ei h|exact dX.fN ei q0 h|(have:=(dX.base _ h).1;omega));have:=ah dB;replace dA:=(fy.mem _ this).2 dA;replace dB:=fy.bY dB (λh=>by first|exact dX.eN dB h|exact dX.fN dB q0 h|(have:=(dX.base _ h).1;omega));replace dP:=dP.le q0 fy.le;replace ed:=ed.le fy.le;replace jb:=jb.le fy.le;replace hM:=fy.lt hM;have:=S.size;replace S:=S.cf fy dX Ov;replace dX:=tO;refine a7 (o':=1) bJ G G xj q0 G G ?_;refine cA (M:=rE) xj rfl rfl dB rfl (af6) dA (λOw Fc gM=>?_);change Ow.heap[_]? =some (Obj.cells #[.int .i64 d.1,zV] _ _)at Fc;have:=ah g2;replace dZ:=(gM.mem _ this).2 dZ;replace g2:=gM.bY g2 a05;have:=ah g3;replace fz:=(gM.mem _ this).2 fz;replace g3:=gM.bY g3 a05;have:=ah ei;replace dK:=(gM.mem _ this).2 dK;replace ei:=gM.bY ei a05;have:=ah dB;replace dA:=(gM.mem _ this).2 dA;replace dP:=dP.le q0 gM.le
     replace ed:=ed.le gM.le;replace jb:=jb.le gM.le;replace dX:=dX.step gM (λb hb hk=>by have hk:_=_:=hk;have:=(dX.base b hb);omega);replace hM:=gM.lt hM;have:=S.size;replace S:=S.trans gM (λk hk h=>by have h:_=_:=h;subst h;first|(exfalso;omega)|(show _<=_;omega)|exact⟨by first|omega|assumption,(S.mem _ hk).1 ((gM.mem _ (ah dB)).1 dA)⟩|exact .inl rfl|exact .inr rfl|exact .inr (.inl rfl)|exact .inr (.inr rfl)|exact .inr (.inr (.inl rfl))|exact rfl);have jN:=Fc;clear dB;have dB:=jN;clear jN;refine ad (T.aU (a7 (o':=1) bJ G G xj q0 G G (aR bP G G G VR G (eM (vs:=[.string ⟨((fixF i x).1).toArray⟩,.string ⟨((fixF i x).2).toArray⟩]) cW G kY G G G ei ?_))));refine dT (A:=RT.fd) (hn:=by decide) (M:=rE) bP kY q0 G G hM (show RT.fd.V _ _ (fixF i x) _ from fM (mH.2 ⟨G,ch UX.1 q0⟩) (mH.2 ⟨G,ch UX.2 q0⟩) G G G G) (.inl G) (λUS abR gD gN=>?_);have:=ah g2;replace dZ:=(gN.mem _ this).2 dZ;replace g2:=gN.aF g2;have:=ah g3;replace fz:=(gN.mem _ this).2 fz;replace g3:=gN.aF g3;have:=ah ei;replace dK:=(gN.mem _ this).2 dK;replace ei:=gN.aF ei;have:=ah dB;replace dA:=(gN.mem _ this).2 dA;replace dB:=gN.aF dB;replace dP:=dP.le q0 gN.le;replace ed:=ed.le gN.le;replace jb:=jb.le gN.le;replace dX:=dX.br gN;replace hM:=gN.lt hM;have:=S.size;replace S:=S.ar gN;refine cI (M:=rE) (base:=DA.heap.size) bP kY rfl rfl rfl rfl dX gD ck a06 a06 (by have:=fy.size;have:=gM.size;have:=gN.size;omega) (λgF nj abS HH im=>?_);have:=ah g2;replace dZ:=(im.mem _ this).2 dZ
     replace g2:=im.bY g2 (λh=>by first|exact dX.eN g2 h|exact dX.fN g2 q0 h|(have:=(dX.base _ h).1;omega));have:=ah g3;replace fz:=(im.mem _ this).2 fz;replace g3:=im.bY g3 (λh=>by first|exact dX.eN g3 h|exact dX.fN g3 q0 h|(have:=(dX.base _ h).1;omega));have:=ah ei;replace dK:=(im.mem _ this).2 dK;replace ei:=im.bY ei (λh=>by first|exact dX.eN ei h|exact dX.fN ei q0 h|(have:=(dX.base _ h).1;omega));have:=ah dB;replace dA:=(im.mem _ this).2 dA;replace dB:=im.bY dB (λh=>by first|exact dX.eN dB h|exact dX.fN dB q0 h|(have:=(dX.base _ h).1;omega));replace dP:=dP.le q0 im.le;replace ed:=ed.le im.le;replace jb:=jb.le im.le;replace gD:=gD.le im.le;replace hM:=im.lt hM;have:=S.size;replace S:=S.cf im dX Ov;replace dX:=HH;refine a7 (o':=1) bJ G G xj q0 G G ?_;refine cA (M:=nj) xj rfl rfl dB rfl (af6) dA (λOx Fe gO=>?_);change Ox.heap[_]? =some (Obj.cells #[.int .i64 d.1,gF] _ _)at Fe;have:=ah g2;replace dZ:=(gO.mem _ this).2 dZ;replace g2:=gO.bY g2 a05;have:=ah g3;replace fz:=(gO.mem _ this).2 fz;replace g3:=gO.bY g3 a05;have:=ah ei;replace dK:=(gO.mem _ this).2 dK;replace ei:=gO.bY ei a05;have:=ah dB;replace dA:=(gO.mem _ this).2 dA;replace dP:=dP.le q0 gO.le;replace ed:=ed.le gO.le;replace jb:=jb.le gO.le;replace gD:=gD.le gO.le;replace dX:=dX.step gO (λb hb hk=>by have hk:_=_:=hk;have:=(dX.base b hb);omega);replace hM:=gO.lt hM;have:=S.size;replace S:=S.trans gO (λk hk h=>by have h:_=_:=h;subst h;first|(exfalso;omega)|(show _<=_;omega)|exact⟨by first|omega|assumption,(S.mem _ hk).1 ((gO.mem _ (ah dB)).1 dA)⟩|exact .inl rfl|exact .inr rfl|exact .inr (.inl rfl)|exact .inr (.inr rfl)|exact .inr (.inr (.inl rfl))|exact rfl)
     have jN:=Fe;clear dB;have dB:=jN;clear jN;refine ad (T.aU (eM (vs:=[.int .i64 d.1,gF]) bJ G pN G G G dB ?_));have yQ:=dX.view (hn:=by decide) a06;replace dZ:rm nj gF _:=⟨dZ,by first|exact dX.fN g2 q0|(intro h;have:=(dX.base _ h).1;omega)⟩;replace fz:rm nj gF _:=⟨fz,by first|exact dX.fN g3 q0|(intro h;have:=(dX.base _ h).1;omega)⟩;replace dK:rm nj gF _:=⟨dK,by first|exact dX.fN ei q0|(intro h;have:=(dX.base _ h).1;omega)⟩;replace dA:rm nj gF _:=⟨dA,by first|exact dX.fN dB q0|(intro h;have:=(dX.base _ h).1;omega)⟩;replace dP:=dP.le q0 (uB _ gF _);replace ed:=ed.le (uB _ gF _);replace jb:=jb.le (uB _ gF _);replace gD:=gD.le (uB _ gF _);replace hM:Lt (rm nj gF) _:=λb hb=>hM b hb.1
     replace S:=S.freeze (v:=gF) (λb hb=>by have:=(dX.base b hb).1;omega);clear dX;refine aV G G E29 (Ck (d:=(d.1,[]++out++[fixF i x])) _ hM (fM (iF hdi) yQ G G G G) (λy hy=>by have:=(C2.snoc UX) y (by simpa using hy);omega)) (λr14 Oy hc=>?_);obtain⟨rfl,jZ⟩:=hc;rw[ix]at yQ;have:=ah g2;replace dZ:=(jZ.mem _ this).2 dZ;replace g2:=jZ.aF g2;have:=ah g3;replace fz:=(jZ.mem _ this).2 fz;replace g3:=jZ.aF g3;have:=ah ei;replace dK:=(jZ.mem _ this).2 dK;replace ei:=jZ.aF ei;have:=ah dB;replace dA:=(jZ.mem _ this).2 dA;replace dB:=jZ.aF dB;replace dP:=dP.le q0 jZ.le;replace ed:=ed.le jZ.le;replace jb:=jb.le jZ.le;replace gD:=gD.le jZ.le;replace yQ:=yQ.le jZ.le;replace hM:=jZ.lt hM;have:=S.size;replace S:=S.ar jZ;refine je G G G (aZ (v':= .bool (decide (oX (d.1,out++[fixF i x])=0))) (by rw[ix]) (ad ?_));refine bH G (λK5=>?_) (λK5=>?_)
     ·refine ay (eM (vs:=[.int .i64 d.1,gF]) bJ G pN G G G dB ?_);refine dm (M:=rm nj gF) (vs:=[.int .i64 d.1,gF]) pN G G a16 rfl rfl g3 fz (λaiv Oz kj=>?_);have:=ah g2;replace dZ:=(kj.mem _ this).2 dZ;replace g2:=kj.bY g2 a05;have:=ah g3;replace fz:=(kj.mem _ this).2 fz;have:=ah ei;replace dK:=(kj.mem _ this).2 dK;replace ei:=kj.bY ei a05;have:=ah dB;replace dA:=(kj.mem _ this).2 dA;replace dB:=kj.bY dB a05;replace dP:=dP.le q0 kj.le;replace ed:=ed.le kj.le;replace jb:=jb.le kj.le;replace gD:=gD.le kj.le;replace yQ:=yQ.le kj.le;replace hM:=kj.lt hM;have:=S.size;replace S:=S.trans kj (λk hk h=>by have h:_=_:=h;subst h;first|(exfalso;omega)|(show _<=_;omega)|exact⟨by first|omega|assumption,(S.mem _ hk).1 ((kj.mem _ (ah g3)).1 fz)⟩|exact .inl rfl|exact .inr rfl|exact .inr (.inl rfl)|exact .inr (.inr rfl)|exact .inr (.inr (.inl rfl))|exact rfl);have g3_:=Oz;clear g3;have g3:=g3_;clear g3_;refine ad (ay (ab G G (aX G G G hV (Rg.a8 G G ?_))));refine⟨G,(i+1,out++[fixF i x]),a74,?_,?_⟩
      ·exact⟨_,_,hM,S,dP,ed,g2,dZ,g3,fz,yQ,by rw[yd,hga,if_pos K5],by dsimp only;omega,by dsimp only;omega,C2.snoc UX,by simp;omega⟩
      ·dsimp only;omega
     ·refine aM (ay (ab G G (aX G G G hV (Rg.a8 G G ?_))));refine⟨G,(i+1,out),a74,?_,?_⟩
      ·exact⟨_,_,hM,S,dP,ed,g2,dZ,g3,fz,jb,by rw[yd,hga,if_neg K5],by dsimp only;omega,by dsimp only;omega,C2,by dsimp only;omega⟩
      ·dsimp only;omega
   ·refine de (T.aU (eM (vs:=[.int .i64 d.1,uo]) bJ G pN G G G g3 ?_));refine dm (M:=M1) (vs:=[.int .i64 d.1,uo]) pN G G a16 rfl rfl g2 dZ (λaiw OA pT=>?_);have:=ah g2;replace dZ:=(pT.mem _ this).2 dZ;have:=ah g3;replace fz:=(pT.mem _ this).2 fz;replace g3:=pT.bY g3 a05;replace dP:=dP.le q0 pT.le;replace ed:=ed.le pT.le;replace jb:=jb.le pT.le;replace hM:=pT.lt hM;have:=S.size;replace S:=S.trans pT (λk hk h=>by have h:_=_:=h;subst h;first|(exfalso;omega)|(show _<=_;omega)|exact⟨by first|omega|assumption,(S.mem _ hk).1 ((pT.mem _ (ah g2)).1 dZ)⟩|exact .inl rfl|exact .inr rfl|exact .inr (.inl rfl)|exact .inr (.inr rfl)|exact .inr (.inr (.inl rfl))|exact rfl);have OB:=OA;clear g2;have g2:=OB;clear OB;refine ad (aS ?_);have e:qp d=(d.1,out):=by rw[qp,yd,Cl hV]
    rw[e];refine kO (vs:=[.int .i64 d.1,uo]) G G bJ G pN G g2 ⟨fM (iF hdi) (jb.le (pz jq S)) G G G G,S.back⟩
  ·refine aj G G G G (aj G G G G (au G G G (ad (fQ G (de (T.aU (eM (vs:=[.int .i64 d.1,uo]) bJ G pN G G G g3 ?_)))))));refine dm (M:=M1) (vs:=[.int .i64 d.1,uo]) pN G G a16 rfl rfl g2 dZ (λaiw OA pT=>?_);have:=ah g2;replace dZ:=(pT.mem _ this).2 dZ;have:=ah g3;replace fz:=(pT.mem _ this).2 fz;replace g3:=pT.bY g3 a05;replace dP:=dP.le q0 pT.le;replace ed:=ed.le pT.le;replace jb:=jb.le pT.le;replace hM:=pT.lt hM;have:=S.size;replace S:=S.trans pT (λk hk h=>by have h:_=_:=h;subst h;first|(exfalso;omega)|(show _<=_;omega)|exact⟨by first|omega|assumption,(S.mem _ hk).1 ((pT.mem _ (ah g2)).1 dZ)⟩|exact .inl rfl|exact .inr rfl|exact .inr (.inl rfl)|exact .inr (.inr rfl)|exact .inr (.inr (.inl rfl))|exact rfl);have OB:=OA;clear g2;have g2:=OB;clear OB;refine ad (aS ?_);have e:qp d=(d.1,out):=by rw[qp,yd,Cl hV]
   rw[e];refine kO (vs:=[.int .i64 d.1,uo]) G G bJ G pN G g2 ⟨fM (iF hdi) (jb.le (pz jq S)) G G G G,S.back⟩
def gT (l:List Dc) (from_ step:Int):Nat->List En
 |0=>[]
 |k+1=>gT l from_ step k++(match l[k]? with|some d=>[(qp d,from_+step*(k:Int))]|none=>[])
theorem mC (l:List Dc) (a s:Int):∀k,(gT l a s k).length=min k l.length
 |0=>by simp[gT]
 |k+1=>by
  rw[gT,bT,mC l a s k]
  cases h:l[k]? with
  |none=>have:=List.getElem?_eq_none_iff.1 h;simp;omega
  |some d=>have:=(ak.1 h).1;simp;omega
theorem Ae {l:List Dc} {a s:Int} {k:Nat} {d:Dc} (h:l[k]? =some d):gT l a s (k+1)=gT l a s k++[(qp d,a+s*(k:Int))]:=by rw[gT,h]
theorem Af {l:List Dc} {a s:Int} {k:Nat} (h:l.length<=k):gT l a s (k+1)=gT l a s k:=by
 rw[gT,List.getElem?_eq_none_iff.2 h];simp
theorem Ff {l:List Dc} {a s:Int} {n i:Nat} (h:l.length<=i\/n<=i) (h1:i<=n):gT l a s i=gT l a s n:=by
 induction n with
 |zero=>have:i=0:=by omega
        rw[this]
 |succ n ih=>
  rcases qW h1 with e|eU
  ·rw[e]
  ·rcases h with h|h
   ·rw[Af hV];exact ih (.inl h) hV
   ·omega
theorem SP {s k:Int} (h:0<=s/\s<=1000) (hk:0<=k/\k<=100):0<=s*k/\s*k<=100000:=
 ⟨Int.mul_nonneg h.1 hk.1,Int.le_trans (Int.mul_le_mul h.2 hk.2 hk.1 hV) hV⟩
theorem HI {M:aP} {l:List Dc} {v0:Value} {most:Nat} {a s:Int} (w0:World) (hM:Lt M w0) (hv:(RT.dc.sl).V M w0 l v0) (hm:most<=100) (ha:0<=a/\a<=1000000) (hs:0<=s/\s<=1000):
  Spec Tryz.prog 10 #[v0,.int .i64 (most:Int),.int .i64 a,.int .i64 s] w0 (λv w=>(RT.en.sl).V M w (gT l a s most) v/\Step M w0 M w aH):=by
 have jq:=hM;refine bD (args:=[_,_,_,_]) (fn:=Tryz.f10) Tryz.func10 G (n:=37) Tryz.ntmps10 ?_;have S:Step M w0 M w0 aH:=bg;refine T.aU (Rg.a8 G G (T.aU (Rg.a8 G G (aQ (T.aU (aJ G G ?_))))));refine ad (bp ?_);refine dz (σ:=Nat×Value) (λq=>[(0,v0),(1,.int .i64 (most:Int)),(2,.int .i64 a),(3,.int .i64 s),(9,q.2),(10,.int .i64 (q.1:Int))]) (λq w=>∃M',Lt M' w/\Step M w0 M' w aH/\Own RT.en 74 M' w w0.heap.size q.2 (gT l a s q.1)/\(RT.dc.sl).V M' w l v0/\q.1<=most/\q.1<=l.length) (λq=>most-q.1) (0,.slice none 0 0) a04 ?_ ?_
 ·exact⟨M,hM,S,ep _ _ _ _ _,hv,bA _,bA _⟩
 ·rintro⟨i,u⟩ w ⟨M1,hM,S,ho,hv,hi,qz⟩;dsimp only at ho hi qz ⊢;refine aQ (T.aU (ab G G (ab G G (bR Tryz.underlying22 G hv G (cH G G G (ab G G ?_))))));refine aB (g:=15) G (λK6=>?_) (λK6=>?_)
  ·refine ae G G (ab G G (ae G G (ab G G (ae G G (cH G G G (aN G G G (ad ?_)))))));refine bH G (λc3=>?_) (λc3=>?_)
   ·refine aM (aQ (bp (ay (ab G G (ab G G (ab G G ?_))))));refine cD Tryz.underlying22 pN G G G hv ck hV (λu5 d KT gg=>?_);rw[av]at KT;have hsi:=SP (k:=(i:Int)) hs hV;refine cq (A:=RT.dc) bJ G pN q0 G G G gg ck (λv5 qT=>?_);refine aV G G E47 (K3 _ hM qT) (λr5 w5 hc=>?_);obtain⟨yd,s5⟩:=hc;replace hv:=hv.le s5.le;replace ho:=ho.br s5;replace hM:=s5.lt hM;have:=S.size;replace S:=S.ar s5;refine ab G G (ab G G (ab G G (Rg.V1 G G G hV (aX G G G hV ?_))));obtain⟨uf,rfl⟩:=NB yd;refine cx (places:=[(0,2),(2,1)]) ey Jn B74 rfl ⟨_,_,rfl,rfl,_,_,rfl,rfl,rfl⟩ (out:=[_,_,_]) ⟨0,[_,_],rfl,rfl,by simp[Value.cells],2,[_],rfl,rfl,by simp[Value.cells],rfl⟩ ?_;refine dT (A:=RT.en) (hn:=by decide) (M:=M1) jG Jn q0 G G hM (show RT.en.V _ _ (qp d,a+s*(i:Int)) _ from UJ yd hV) (.inl G) (λanL anM HJ Fg=>?_);replace hv:=hv.le Fg.le;replace yd:=yd.le Fg.le;replace ho:=ho.br Fg;replace hM:=Fg.lt hM;have:=S.size;replace S:=S.ar Fg;refine cI (M:=M1) (base:=w0.heap.size) jG Jn G G G G ho HJ ck (by have:=mC l a s i;simp;omega) (by have:=mC l a s i;simp;omega) (S.size) (λabU abV anN Xs Fh=>?_);replace hv:=hv.le Fh.le;replace yd:=yd.le Fh.le;replace HJ:=HJ.le Fh.le;replace hM:=Fh.lt hM;have:=S.size;replace S:=S.cf Fh ho (aK _);replace ho:=Xs;refine Rg.a8 G G (ay (ab G G (aX G G G hV (Rg.a8 G G ?_))));refine⟨G,(i+1,abU),a04,?_,?_⟩
    ·exact⟨abV,hM,S,by rw[Ae KT];exact ho,hv,by dsimp only;omega,by dsimp only;omega⟩
    ·dsimp only;omega
   ·refine de (T.aU (ab G G (Rg.a8 G G (aS ?_))));rw[<-Ff (i:=i) (n:=most) hV hi];exact aT G G ⟨ho.close jq S (by have:=mC l a s i;omega),S.back⟩
  ·refine aj G G G G (aj G G G G (aj G G G G (au G G G (ad (fQ G (de (T.aU (ab G G (Rg.a8 G G ?_)))))))));refine aS ?_;rw[<-Ff (i:=i) (n:=most) hV hi];exact aT G G ⟨ho.close jq S (by have:=mC l a s i;omega),S.back⟩
end Go.K
namespace Go.K
open Go.Proofs
set_option maxRecDepth 10000
open Go.Maps (Keyed)
def kv (t:Fd):Value:= .agg #[.string ⟨t.1.toArray⟩,.string ⟨t.2.toArray⟩]
theorem xv {a b:Fd} (h:kv a=kv b):a=b:=by
 unfold kv at h;simp only[Value.agg.injEq,Array.mk.injEq,y4,Value.string.injEq,ByteArray.mk.injEq,and_true]at h;exact Prod.ext h.1 h.2
theorem OC:laidOutB Tryz.prog=true:=by kernel_rfl
theorem OD:Tryz.prog.types.size=419:=by kernel_rfl
theorem Cm:Keyed Tryz.prog 24:=Keyed.of_law (deep_law_laid OC (m:=2) (k:=24) hV (by rw[OD];decide) am2 am2)
theorem abW:Tryz.prog.keyType 24=true:=by kernel_rfl
theorem JC:Tryz.prog.cellsOf 24=2:=by kernel_rfl
theorem SQ:Tryz.prog.cellsOf 9=1:=by kernel_rfl
theorem OE (t:Fd) (h1:t.1.length<=140737488355328) (h2:t.2.length<=140737488355328):∃l,keyOf Tryz.prog 24 (kv t)=some l:=by
 have e1:(⟨t.1.toArray⟩:ByteArray).size=t.1.length:=by simp[ByteArray.size]
 have e2:(⟨t.2.toArray⟩:ByteArray).size=t.2.length:=by simp[ByteArray.size]
 have hs:∀(s:ByteArray),s.size<=maxLen->Tryz.prog.keyLits 419 9 [.string s]=some [.string s.data.toList]:=λs hs=>by
  show(match Tryz.prog.underlying 9,[Value.string s]with|_,_=>_)=_;rw[aE];exact if_pos hs
 unfold keyOf kv;rw[bS];simp only[abW,Value.formed,bS,JC,OD]
 have key:∃ls,Tryz.prog.keyLits (419+1) 24 [.string ⟨t.1.toArray⟩,.string ⟨t.2.toArray⟩]=some ls:=by
  unfold Program.keyLits;simp only[bS];rw[if_pos ⟨by rw[JC];rfl,by kernel_rfl⟩];simp only[List.mapM_cons,List.mapM_nil,SQ];have g1:=hs ⟨t.1.toArray⟩ (by rw[e1];unfold maxLen;omega);have g2:=hs ⟨t.2.toArray⟩ (by rw[e2];unfold maxLen;omega);refine ⟨[.string (⟨t.1.toArray⟩:ByteArray).data.toList,.string (⟨t.2.toArray⟩:ByteArray).data.toList],?_⟩;simp only[List.drop_zero,List.drop_succ_cons,List.take_succ_cons,List.take_zero,g1,g2];rfl
 obtain⟨ls,hls⟩:=key;exact⟨.string (keyBytes ls),by rw[if_pos (by simp)];show Option.map _ (Tryz.prog.keyLits (419+1) 24 [.string ⟨t.1.toArray⟩,.string ⟨t.2.toArray⟩])=_;rw[hls];rfl⟩
end Go.K
namespace Go.K
open Go.Proofs
set_option maxRecDepth 10000
def gU (x:Fd):List (Fd×Nat):=(words x.2).zipIdx.map λp=>((x.1,p.1),p.2)
def cQ (l:List Fd):List (Fd×Nat):=l.flatMap gU
theorem o5 (x:Fd):(gU x).length=(words x.2).length:=by simp[gU]
theorem OF {x:Fd} {k:Nat} {y:List UInt8} (h:(words x.2)[k]? =some y):(gU x)[k]? =some ((x.1,y),k):=by
 simp[gU,List.getElem?_zipIdx,h]
theorem tV {fs:List Fd} {i:Nat} {x:Fd} (h:fs[i]? =some x):cQ (fs.take (i+1))=cQ (fs.take i)++gU x:=by
 rw[cj,h];simp[cQ]
structure Xt (P:Program) (g:FuncId) (cap:List Value) (B:Nat) (J:List (Fd×Nat)->aP->World->Prop):Prop where
 enters:Enters P g
 step:∀ts M w M' w',J ts M w->Step M w M' w' aH->J ts M' w'
 tell:∀ts M w (t:Fd) (i:Nat),J ts M w->Lt M w->t.1.length<=900000->t.2.length<=140737488355328->i<=1000000->ts.length<=10000000->Spec P g ([kv t,.int .i64 (i:Int)]++cap).toArray w (λ_ w'=>∃M',Lt M' w'∧J (ts++[(t,i)]) M' w'∧Step M w M' w' (l5 M B))
theorem Cn {M:aP} {d:Dc} {v0:Value} {g:FuncId} {cap:List Value} {B:Nat} {J:List (Fd×Nat)->aP->World->Prop} (w0:World) (hM:Lt M w0) (hv:RT.dc.V M w0 d v0) (hl:∀f∈d.2,f.1.length<=900000/\f.2.length<=900000) (hd8:d.2.length<=8) (hT:Xt Tryz.prog g cap B J) (hJ:J [] M w0):
  Spec Tryz.prog 142 #[v0,.func (.func g) #[] cap.toArray] w0 (λv w=>∃M',Lt M' w/\J (cQ d.2) M' w/\Step M w0 M' w (l5 M B)):=by
 refine bD (args:=[_,_]) (fn:=Tryz.f142) Tryz.func142 G (n:=33) Tryz.ntmps142 ?_;have S:Step M w0 M w0 (l5 M B):=(bg).eE a30 (λ_ h=>h.2);refine T.aU ?_;refine fO (A:=RT.dc) G G hM hv G (λu0 w1 dP s0 _=>?_);replace hJ:=hT.step _ _ _ _ _ hJ s0;replace hM:=s0.lt hM;have:=S.size;replace S:=S.ar s0;refine ad (T.aU ?_);refine aw (M:=M) (A:=RT.dc) (B:=(RT.fd).sl) bJ G G xj q0 (KL) G G q0 VR (by repeat (first|exact bB _ _|refine aW (bC VR) ?_)) (λBH l2=>?_);refine bV (M:=M) bP G G G G G VR (by repeat (first|exact bB _ _|refine aW (bC VR) ?_)) (λzY nh=>?_);refine bR bP G nh G (ab G G (ad (bp ?_)));refine dz (σ:=Nat) (λi=>[(1,.func (.func g) #[] cap.toArray),(9,zY),(10,.int .i64 (d.2.length:Int)),(11,.int .i64 (i:Int))]) (λi w=>∃M',Lt M' w/\Step M w0 M' w (l5 M B)/\(RT.fd.sl).V M' w d.2 zY/\J (cQ (d.2.take i)) M' w/\i<=d.2.length/\(cQ (d.2.take i)).length<=900001*i) (λi=>d.2.length-i) 0 VS ?_ ?_
 ·exact⟨_,hM,S,nh,hJ,bA _,aK _⟩
 ·rintro i w ⟨M1,hM,S,ot,hJ,hi,uF⟩;refine T.aU (cH G G G (ad (aQ ?_)));refine bH G (λc2=>?_) (λc2=>?_)
  ·refine aM (aQ (bp (T.aU ?_)));refine cD bP kY G G G ot ck hV (λu3 x Xu l3=>?_);rw[av]at Xu;have yM:=hl _ (ao Xu);refine cq (A:=RT.fd) cW G kY q0 G G G l3 ck (λv3 vm=>?_);refine nI (A:=RT.fd) (M:=M1) kY G G G G G VR ck hM (λSR arB Ag SS arC=>?_);replace ot:=ot.le SS.le;replace hJ:=hT.step _ _ _ _ _ hJ SS;replace hM:=SS.lt hM;have:=S.size;replace S:=S.ar SS;refine ad (T.aU ?_);refine aw (M:=M1) (A:=RT.fd) (B:=RT.str) cW G G I9 q0 (UI) G G q0 VR (by repeat (first|exact bB _ _|refine aW (bC VR) ?_)) (λK2 sV=>?_);refine bV aE G G G G G sV ck (λv4 qS=>?_);obtain rfl:=eF qS;refine aV G G WI (zT (l:=x.2) _ hM yM.2) (λv5 w5 hc=>?_);obtain⟨WB,s5⟩:=hc;replace ot:=ot.le s5.le;replace Ag:=Ag.le q0 s5.le;replace hJ:=hT.step _ _ _ _ _ hJ s5;replace hM:=s5.lt hM;have:=S.size;replace S:=S.ar s5;have UP:=oW x.2;refine bR aI G WB G (ab G G (ad (bp ?_)));refine dz (σ:=Nat) (λk=>[(1,.func (.func g) #[] cap.toArray),(5,SR),(9,zY),(10,.int .i64 (d.2.length:Int)),(11,.int .i64 (i:Int)),(17,v5),(18,.int .i64 ((words x.2).length:Int)),(19,.int .i64 (k:Int))]) (λk w=>∃M',Lt M' w/\Step M w0 M' w (l5 M B)/\(RT.fd.sl).V M' w d.2 zY/\dp RT.fd M' w SR x/\(RT.str.sl).V M' w (words x.2) v5/\J (cQ (d.2.take i)++(gU x).take k) M' w/\k<=(words x.2).length) (λk=>(words x.2).length-k) 0 (.cons G a92) ?_ ?_
   ·exact⟨_,hM,S,ot,Ag,WB,by rw[List.take_zero,bz];exact hJ,bA _⟩
   ·rintro k w ⟨M2,hM,S,ot,Ag,WB,hJ,hk⟩;refine T.aU (cH G G G (ad (aQ ?_)));refine bH G (λc5=>?_) (λc5=>?_)
    ·refine aM (aQ (bp (T.aU (ab G G ?_))));refine cD aI I9 G G G WB ck hV (λu6 y Mx uU=>?_);rw[av]at Mx;refine bV aE G G G G G uU ck (λv6 qE=>?_);have ZW:=(mH.1 qE).2;obtain rfl:=eF qE;refine aJ G G (Rg.a8 G G (ay (ab G G ?_)));refine aw (M:=M2) (A:=RT.fd) (B:=RT.str) cW G G I9 q0 (Mw) G G q0 VR (by repeat (first|exact bB _ _|refine aW (bC VR) ?_)) (λarD abX=>?_);refine bV aE G G G G G abX ck (λv7 Fi=>?_);obtain rfl:=eF Fi;refine ab rfl rfl (cx (places:=[(0,1),(1,1)]) bS nL WC rfl ⟨_,_,rfl,rfl,_,_,rfl,rfl,rfl⟩ (out:=[_,_]) ⟨0,[_],rfl,rfl,by simp[Value.cells],1,[_],rfl,rfl,by simp[Value.cells],rfl⟩ (ab rfl rfl ?_));refine wJ (first:=[]) (captured:=cap) (xs:=[.tmp 28,.tmp 29]) G G G hT.enters (hT.tell _ _ _ (x.1,y) k hJ hM yM.1 ZW hV (by rw[bT,bI,o5];omega)) (λr7 w7 hc=>?_);obtain⟨M7,hM7,hJ7,s7⟩:=hc;refine ad (ay (aX G G G hV (ab G G (ad ?_))));refine⟨G,k+1,(.cons G a92),?_,?_⟩
     ·exact⟨M7,hM7,S.trans s7 (λb hb h=>⟨h.1,(S.mem b hb).1 h.2⟩),ot.le s7.le,Ag.le q0 s7.le,WB.le s7.le,by rw[cj,OF Mx,dS,<-List.append_assoc];exact hJ7,by omega⟩
     ·omega
    ·refine de (ay (aX G G G hV (ab G G (ad ?_))));refine⟨G,i+1,VS,?_,?_⟩
     ·exact⟨_,hM,S,ot,by rw[tV Xu];have e:(gU x).take k=gU x:=bM (by rw[o5];omega);rw[e]at hJ;exact hJ,by omega,by rw[tV Xu,bT,o5];omega⟩
     ·omega
  ·refine de ?_
   first|refine iS.nil ?_|simp+decide only[C0,qX,if_true,if_false]|skip
   have e:d.2.take i=d.2:=bM hV;rw[e]at hJ;exact kM G ⟨_,hM,hJ,S⟩
theorem DB {M:aP} {w:World} {t:Fd} (h1:t.1.length<=140737488355328) (h2:t.2.length<=140737488355328):RT.fd.V M w t (kv t):=fM (mH.2 ⟨rfl,h1⟩) (mH.2 ⟨rfl,h2⟩) rfl rfl rfl rfl
def WJ (b B:Nat) (ts:List (Fd×Nat)) (M:aP) (w:World):Prop:=w.heap[b]? =some (.cells #[.int .i64 (ts.length:Int)] 3 (0,0))/\M b/\B<=b
theorem DC {M:aP} {b B:Nat} {ts:List (Fd×Nat)} {t:Fd} {i:Nat} (w0:World) (hM:Lt M w0) (h1:t.1.length<=900000) (h2:t.2.length<=140737488355328) (Nf:ts.length<=10000000) (hJ:WJ b B ts M w0):
  Spec Tryz.prog 149 #[kv t,.int .i64 (i:Int),.pointer (some ⟨b,0,none⟩)] w0 (λv w=>∃M',Lt M' w/\WJ b B (ts++[(t,i)]) M' w/\Step M w0 M' w (l5 M B)):=by
 obtain⟨gb,eC,hB⟩:=hJ;refine bD (args:=[_,_,_]) (fn:=Tryz.f149) Tryz.func149 G (n:=7) Tryz.ntmps149 ?_;have S:Step M w0 M w0 (l5 M B):=(bg).eE a30 (λ_ h=>h.2);refine T.aU ?_;refine fO (A:=RT.fd) G G hM (DB hV h2) G (λu0 w1 dP s0 _=>?_);have:=ah gb;replace eC:=(s0.mem _ this).2 eC;replace gb:=s0.aF gb;replace hM:=s0.lt hM;have:=S.size;replace S:=S.ar s0;refine ad (ay (aR al G G G VR G (aX G G G hV ?_)));refine cA (M:=M) I3 G G gb G (G) eC (λSU ja qF=>?_);change SU.heap[_]? =some (Obj.cells #[.int .i64 ((ts.length:Int)+1)] _ _)at ja;have:=ah gb;replace eC:=(qF.mem _ this).2 eC;replace hM:=qF.lt hM;have:=S.size;replace S:=S.trans qF (λk hk h=>by have h:_=_:=h;subst h;first|(exfalso;omega)|(show _<=_;omega)|exact⟨by first|omega|assumption,(S.mem _ hk).1 ((qF.mem _ (ah gb)).1 eC)⟩|exact .inl rfl|exact .inr rfl|exact .inr (.inl rfl)|exact .inr (.inr rfl)|exact .inr (.inr (.inl rfl))|exact rfl);have OG:=ja;clear gb;have gb:=OG;clear OG;refine ad ?_
 first|refine iS.nil ?_|simp+decide only[C0,qX,if_true,if_false]|skip
 exact kM rfl ⟨_,hM,⟨by rw[bT];exact gb,eC,hB⟩,S⟩
theorem Fj {b B:Nat}:Xt Tryz.prog 149 [.pointer (some ⟨b,0,none⟩)] B (WJ b B):=
 ⟨ahc,λts M w M' w' ⟨h1,h2,h3⟩ s=>⟨s.aF h1,(s.mem _ (ah h1)).2 h2,h3⟩,λts M w t i hJ hM h1 h2 _ h4=>DC w hM h1 h2 h4 hJ⟩
theorem Fk {M:aP} {d:Dc} {v0:Value} (w0:World) (hM:Lt M w0) (hv:RT.dc.V M w0 d v0) (hl:∀f∈d.2,f.1.length<=900000/\f.2.length<=900000) (hd8:d.2.length<=8):
  Spec Tryz.prog 97 #[v0] w0 (λv w=>v= .int .i64 ((cQ d.2).length:Int)/\Step M w0 M w aH):=by
 refine bD (args:=[_]) (fn:=Tryz.f97) Tryz.func97 G (n:=8) Tryz.ntmps97 ?_;have S:Step M w0 M w0 aH:=bg;refine T.aU ?_;refine fO (A:=RT.dc) G G hM hv G (λu0 w1 dP s0 _=>?_);replace hM:=s0.lt hM;have:=S.size;replace S:=S.ar s0;refine Rg.a8 G G (T.aU ?_);refine eu M I3 G (λxn SJ ah1 ah2 pR yB=>?_);obtain⟨Cj,zP⟩:∃M',M'=ins M xn:=⟨_,rfl⟩;rw[<-zP]at yB;have nf:Cj xn:=by rw[zP];exact .inl G
 change SJ.heap[xn]? =some (.cells #[.int .i64 0] _ _)at pR;replace dP:=dP.le q0 yB.le;replace hM:=yB.lt hM;have:=S.size;replace S:=S.ar yB;refine cA (M:=Cj) I3 G G pR G (G) nf (λXv BJ yD=>?_);change Xv.heap[_]? =some (Obj.cells #[.int .i64 0] _ _)at BJ;have:=ah pR;replace nf:=(yD.mem _ this).2 nf;replace dP:=dP.le q0 yD.le;replace hM:=yD.lt hM;have:=S.size;replace S:=S.trans yD (λk hk h=>by have h:_=_:=h;subst h;first|(exfalso;omega)|(show _<=_;omega)|exact⟨by first|omega|assumption,(S.mem _ hk).1 ((yD.mem _ (ah pR)).1 nf)⟩|exact .inl rfl|exact .inr rfl|exact .inr (.inl rfl)|exact .inr (.inr rfl)|exact .inr (.inr (.inl rfl))|exact rfl);have U0:=BJ;clear pR;have pR:=U0;clear U0;refine ad (T.aU ?_);refine cq (A:=RT.dc) bJ G pN q0 G G G dP ck (λv2 Ch=>?_);refine jQ (xs:=[]) (ys:=[.tmp 3]) G G G ?_;refine aV G G aa3 (Cn (cap:=[.pointer (some ⟨xn,0,none⟩)]) (B:=w0.heap.size) _ hM Ch hl hd8 Fj ⟨pR,nf,by omega⟩) (λr2 w2 hc=>?_);obtain⟨M2,Js,⟨g2,_,_⟩,s2⟩:=hc;replace S:=S.mJ s2 (aK _);refine ad (T.aU (aR al G G G g2 G (Rg.a8 G G (aS ?_))));exact aT G G ⟨G,S.back⟩
section
variable {P:Program} {r:Option Nat} {n:Nat} {L:Sl} {ds:List Deferred} {w:World} {K:Kt} {ops:Array Oper} {rest:List Oper} {d:Nat} {x y z:Operand} {ty:TypeId} {pos:String} {af:Array Edge}
variable {kt:TypeId} {M:aP} {b mb clock:Nat} {es:List MapEntry} {sn:Array Nat}
theorem Rg.rangeMap {t e:TypeId} (M:aP) (ht:P.underlying t=some (.map kt e)) (hx:ev L x=some (.map (some mb))) (hd:Nat.blt d n=true) (h:gm P kt w mb es clock)
  (k:∀b w',w.heap.size<=b->b<w'.heap.size->w'.heap[b]? =some (.mapIter (some mb) clock #[] clock)->Step M w (ins M b) w' aH->Rg P r n ops rest ((d,.pointer (some ⟨b,0,none⟩))::L) ds w' K):
  Rg P r n ops ({dst:=some d,op:= .range t x,type:=ty,pos,after:=af,guard:=none}::rest) L ds w K:=by
 refine .op a07 G G hd (.pointer (some ⟨w.heap.size,0,none⟩)) (w.alloc (.mapIter (some mb) clock #[] clock)) (λρ hρ=>?_) (k w.heap.size _ (aK _) (by simp) (dC w _) ((ef M w _).own (aK _) (by simp)));simp only[execOp,hρ x _ hx];simp[Instr.range,cw,run_underlying ht,dN h.at_,newObj,Sem.run]
theorem qq {sb:Option Nat} {s c:Nat} (hb:w.heap[b]? =some (.mapIter sb s sn c)):(getObj b).run P w= .ok (.mapIter sb s sn c) w:=by simp[getObj,Sem.run,hb]
theorem HK (h:gm P kt w mb es clock) (seen:Array Nat):(!seen.isEmpty&& !es.toArray.isEmpty&&es.toArray.all (λx=>decide (x.born>=clock)))=false:=by
 cases es with
 |nil=>simp
 |cons e l=>
  have:=h.lt e (by simp);simp only[Bool.and_eq_false_iff];right;rw[fH];intro h2;rw[Array.all_eq_true_iff_forall_mem]at h2;have:=h2 e (by simp);simp at this;omega
theorem Fl (k:Nat) (hk:0<k):∃j w1,j<k/\(∀M,Step M w M w1 aH)/\w1.heap=w.heap/\(choose (Question.mapNext k)).run P w= .ok j w1:=by
 by_cases hf:k<=1
 ·exact⟨0,w,hk,λM=>Step.refl M w,rfl,by simp[choose,Sem.run,Question.forced,hf]⟩
 ·exact⟨_,w.drew,Nat.mod_lt _ hk,λM=>oI M w,G,by
   simp only[choose,Sem.run,Question.forced,decide_eq_true_eq,hf,if_false,Question.cut];rfl⟩
theorem OH (h:gm P kt w mb es clock) (hb:w.heap[b]? =some (.mapIter (some mb) clock sn clock)) (hm:M b):
  ((∀e∈es,e.born∈sn)/\(Instr.next (.pointer (some ⟨b,0,none⟩)) false ty).run P w= .ok (.tuple #[.bool false]) w)\/
  ∃e w',e∈es/\e.born∉sn/\w'.heap[b]? =some (.mapIter (some mb) clock (sn.push e.born) clock)/\Step M w M w' (λk=>k=b)/\(Instr.next (.pointer (some ⟨b,0,none⟩)) false ty).run P w= .ok (.tuple #[.bool true,e.key,e.val]) w':=by
 have eU:=ah hb;simp only[Instr.next,cw,qq hb,cM,dN h.at_,HK h sn,Bool.false_eq_true,if_false];have hL:∀e∈es.toArray.filter (λe=> !sn.contains e.born),e.born<clock:=λe he=>h.lt e (by simpa using(Array.mem_filter.1 he).1)
 have lY:∀e,e∈es.toArray.filter (λe=> !sn.contains e.born)↔e∈es/\e.born∉sn:=λe=>by simp[Array.mem_filter]
 generalize es.toArray.filter (λe=> !sn.contains e.born)=Lf at hL lY ⊢;have e1:Lf.filter (λx=>decide (x.born<clock))=Lf:=Array.filter_eq_self.2 λx hx=>by simpa using hL x hx
 have e2:Lf.filter (λx=>decide (x.born>=clock))= #[]:=by
  rw[Array.filter_eq_empty_iff];intro x hx;have:=hL x hx;simp;omega
 simp only[e1,e2,Array.append_empty];by_cases h0:Lf.size=0
 ·left;have oK:Lf= #[]:=Array.eq_empty_of_size_eq_zero h0;subst oK;refine⟨λe he=>?_,by simp[choose,Sem.run,Question.forced]⟩;by_cases hs:e.born∈sn
  ·exact hs
  ·exact absurd ((lY e).2 ⟨he,hs⟩) (by simp)
 ·right;have fB:Lf.isEmpty=false:=by simp[Array.isEmpty,h0]
  simp only[fB,Bool.false_eq_true,if_false,Array.empty_append,Array.size_map];obtain⟨j,w1,hj,C3,hh1,jg⟩:=Fl (P:=P) (w:=w) Lf.size hV;have xi:w1.heap[b]? =some (.mapIter (some mb) clock sn clock):=by rw[hh1];exact hb
  have ig:=(lY Lf[j]).1 (by simp);refine⟨Lf[j],{w1 with heap:=w1.heap.setIfInBounds b (.mapIter (some mb) clock (sn.push Lf[j].born) clock)},ig.1,ig.2,by simp[dG,hh1,eU],?_,?_⟩
  ·exact((C3 M).eE a30 (λk hk=>by subst hk;exact hm)).trans (iV M hm) (λ_ _ h=>h)
  ·simp only[jg,cM,Array.getElem?_map,Array.getElem?_eq_getElem hj,fP,cw];simp[setObj,Sem.run,xi]
theorem Rg.SV (hx:ev L x=some (.pointer (some ⟨b,0,none⟩))) (hb:w.heap[b]? =some (.mapIter (some mb) clock sn clock)) (hm:M b) (h:gm P kt w mb es clock) (hd:Nat.blt d n=true)
  (k1:∀e w',e∈es->e.born∉sn->w'.heap[b]? =some (.mapIter (some mb) clock (sn.push e.born) clock)->Step M w M w' (λk=>k=b)->Rg P r n ops rest ((d,.tuple #[.bool true,e.key,e.val])::L) ds w' K)
  (k2:(∀e∈es,e.born∈sn)->Rg P r n ops rest ((d,.tuple #[.bool false])::L) ds w K):
  Rg P r n ops ({dst:=some d,op:= .next x false,type:=ty,pos,after:=af,guard:=none}::rest) L ds w K:=by
 rcases OH (ty:=ty) h hb hm with⟨h1,h2⟩|⟨e,w',h1,h2,h3,h4,h5⟩
 ·refine .op a07 G G hd _ w (λρ hρ=>?_) (k2 h1);simp only[execOp,hρ x _ hx];simp[h2]
 ·refine .op a07 G G hd _ w' (λρ hρ=>?_) (k1 e w' h1 h2 h3 h4);simp only[execOp,hρ x _ hx];simp[h5]
theorem Rg.entry {e:MapEntry} {sn':Array Nat} (hx:ev L x=some (.pointer (some ⟨b,0,none⟩))) (hb:w.heap[b]? =some (.mapIter (some mb) clock (sn'.push e.born) clock)) (h:gm P kt w mb es clock) (he:e∈es) (hd:Nat.blt d n=true)
  (k:Rg P r n ops rest ((d,.tuple #[e.key,e.val])::L) ds w K):
  Rg P r n ops ({dst:=some d,op:= .entry x,type:=ty,pos,after:=af,guard:=none}::rest) L ds w K:=by
 have hf:es.find? (λx=>x.born==e.born)=some e:=by
  rw[List.find?_eq_some_iff_getElem];obtain⟨i,hi⟩:=bQ.1 he;obtain⟨h1,h2⟩:=ak.1 hi;refine ⟨by simp,i,h1,h2,λj hj=> ?_⟩;have qw:j<es.length:=by omega
  have:=λq=>h.EM (aq qw) hi q
  simp only[tg,beq_eq_false_iff_ne,ne_eq];intro q;have:=this q;omega
 refine .op a07 G G hd _ w (λρ hρ=>?_) k;simp only[execOp,hρ x _ hx,Instr.entry,cw,qq hb,cM,dN h.at_];simp[hf,cw,dN h.at_]
end
theorem filter_lt {α:Type} {p q:α->Bool} {a:α}:∀{l:List α},(∀x∈l,q x=true->p x=true)->a∈l->p a=true->q a=false->(l.filter q).length<(l.filter p).length
 |[],_,ha,_,_=>by cases ha
 |x::l,h,ha,hp,hq=>by
  have hle:(l.filter q).length<=(l.filter p).length:=by
   rw[<-List.countP_eq_length_filter,<-List.countP_eq_length_filter];exact List.countP_mono_left λy hy=>h y (cn _ hy)
  rcases dg.1 ha with rfl|ha
  ·rw[rO hp,List.filter_cons_of_neg (by simp[hq])];simp;omega
  ·have:=filter_lt (λy hy=>h y (cn _ hy)) ha hp hq;by_cases hx:q x=true
   ·rw[rO hx,rO (h x (bE ..) hx)];simp;omega
   ·rw[List.filter_cons_of_neg hx];by_cases RE:p x=true
    ·rw[rO RE];simp;omega
    ·rw[List.filter_cons_of_neg RE];omega
theorem gm.Xw {P:Program} {kt:TypeId} {w:World} {b clock:Nat} {es:List MapEntry} (h:gm P kt w b es clock) {x y:MapEntry} (hx:x∈es) (hy:y∈es) (hk:x.key=y.key):x=y:=by
 obtain⟨i,hi⟩:=bQ.1 hx;obtain⟨j,hj⟩:=bQ.1 hy;rcases fF i j with jS|rfl|jS
 ·exact absurd hk (iK h.keys hi hj jS)
 ·exact aG (hi.symm.trans hj)
 ·exact absurd hk.symm (iK h.keys hj hi jS)
theorem gm.SY {P:Program} {kt:TypeId} {w:World} {b clock:Nat} {es:List MapEntry} (h:gm P kt w b es clock) {x y:MapEntry} (hx:x∈es) (hy:y∈es) (hk:x.born=y.born):x=y:=by
 obtain⟨i,hi⟩:=bQ.1 hx;obtain⟨j,hj⟩:=bQ.1 hy;rcases fF i j with jS|rfl|jS
 ·exact absurd hk (iK h.born hi hj jS)
 ·exact aG (hi.symm.trans hj)
 ·exact absurd hk.symm (iK h.born hj hi jS)
def HL (w:World) (k:Nat):Prop:=∃m s sn c,w.heap[k]? =some (.mapIter m s sn c)
def JD (es:List MapEntry):Prop:=∀e∈es,∃t:Fd,e.key=kv t/\t.1.length<=140737488355328/\t.2.length<=140737488355328
theorem HM {yl bs mb clock:Nat} {es:List MapEntry} {J:List Fd->World->Prop} (w0:World) (hk:JD es) (hJs:∀ts w w' N,J ts w->Step allM w allM w' N->(∀k,k<w.heap.size->N k->w0.heap.size<=k/\HL w k)->J ts w') (hJb:∀ts w,J ts w->w.heap[bs]? =some (.cells #[.map (some mb)] 238 (0,0))/\gm Tryz.prog 24 w mb es clock) (hy:∀ts w (t:Fd),J ts w->(∃e∈es,e.key=kv t)->t∉ts->ts.length<es.length->zo Tryz.prog yl [kv t].toArray w (λr w'=>r= .bool true/\J (ts++[t]) w'∧∃N,Step allM w allM w' N/\∀k,N k->¬HL w k)) (h0:J [] w0):
  Spec Tryz.prog 187 #[.func (.yield yl) #[] #[],.pointer (some ⟨bs,0,none⟩)] w0 (λv w=>∃ts,J ts w/\ts.Nodup/\∀t,t∈ts↔∃e∈es,e.key=kv t):=by
 obtain⟨gb,hW⟩:=hJb _ _ h0;have hJ:=h0;clear h0;refine bD (args:=[_,_]) (fn:=Tryz.f187) Tryz.func187 G (n:=14) Tryz.ntmps187 ?_;have S:Step allM w0 allM w0 allM:=(bg).eE a30 (λ_ _=>trivial);refine T.aU (aR mF G G G VR G ?_);refine Rg.rangeMap allM mF G G hW (λbi w1 xi yv gi s1=>?_);replace s1:=s1.all;have:=ah gb;replace gb:=s1.aF gb;replace hJ:=hJs _ _ _ _ hJ s1 (λ_ _ h=>h.elim);have:=S.size;replace S:=S.ar s1;refine ad (bp ?_);refine dz (σ:=List Fd×Array Nat) (λs=>[(0,.func (.yield yl) #[] #[]),(1,.pointer (some ⟨bs,0,none⟩)),(5,.pointer (some ⟨bi,0,none⟩))]) (λs w=>J s.1 w/\Step allM w0 allM w allM/\w.heap[bi]? =some (.mapIter (some mb) clock s.2 clock)/\s.1.Nodup/\(∀e∈es,e.born∈s.2↔∃t∈s.1,e.key=kv t)/\(∀t∈s.1,∃e∈es,e.key=kv t)) (λs=>(es.filter λe=>decide (e.born∉s.2)).length) ([],#[]) a11 ?_ ?_
 ·exact⟨hJ,S,gi,List.nodup_nil,λe _=>by simp,λt h=>by cases h⟩
 ·rintro⟨ts,sn⟩ w ⟨hJ,S,gi,nN,hsn,lY⟩;dsimp only at hJ gi nN hsn lY ⊢;obtain⟨gb,hW⟩:=hJb _ _ hJ;refine T.aU ?_;refine Rg.SV (M:=allM) G gi trivial hW G (λXx SJ vq U1 pR yB=>?_) (λaiy=>?_)
  ·have gi0:=gi;replace gb:=yB.bY gb a05;replace hJ:=hJs _ _ _ _ hJ yB (λk hk h=>by have h:k=bi:=h;subst h;exact⟨xi,_,_,_,_,gi0⟩);have:=S.size;replace S:=S.trans yB (λk hk h=>by have h:_=_:=h;subst h;first|(exfalso;omega)|(show _<=_;omega)|exact .inl rfl|exact .inr rfl|exact .inr (.inl rfl)|exact .inr (.inr rfl)|exact .inr (.inr (.inl rfl))|exact rfl);have gi_:=pR;clear gi;have gi:=gi_;clear gi_;refine cP G G G (ad (aQ (iz G (aM (bp (T.aU (Rg.entry G gi (hJb _ _ hJ).2 vq G ?_)))))));obtain⟨t,Ta,ht1,SL⟩:=hk _ vq;have Wf:t∉ts:=λh=>U1 ((hsn _ vq).2 ⟨t,h,Ta⟩)
   have eU:ts.length<es.length:=by
    have h1:((t::ts).map kv).Nodup:=eh.2 ((List.nodup_cons.2 ⟨Wf,nN⟩).imp λh e=>h (xv e))
    have h2:=h1.length_le_of_subset (l₂:=es.map (·.key)) (λx hx=>by
     obtain⟨u,hu,rfl⟩:=cO.1 hx;rcases dg.1 hu with rfl|hu
     ·rw[<-Ta];exact gj vq
     ·obtain⟨e,he,h⟩:=lY u hu;rw[<-h];exact gj he)
    simp at h2;omega
   rw[Ta];refine cP G G G ?_;refine nI (A:=RT.fd) (M:=aH) nL G G G G G (DB ht1 SL) ck (Lt.none _) (λu2 w2 ff s2 z2=>?_);replace s2:=s2.all;have:=ah gb;replace gb:=s2.aF gb;have:=ah gi;replace gi:=s2.aF gi;replace hJ:=hJs _ _ _ _ hJ s2 (λ_ _ h=>h.elim);have:=S.size;replace S:=S.ar s2
   skip
   refine ad (T.aU (ab G G ?_));refine cq (A:=RT.fd) bS G nL q0 G G G ff ck (λv3 vm=>?_);obtain rfl:=ll vm;refine Rg.yield (vs:=[kv t]) G G G (hy _ _ t hJ ⟨_,vq,Ta⟩ Wf eU) (λr3 w3 hc=>?_);obtain⟨rfl,hJ3,N3,s3,hN3⟩:=hc;clear pR;replace gi:=s3.bY gi (λh=>hN3 _ h ⟨_,_,_,_,gi⟩);replace hJ:=hJ3;clear hJ3;obtain⟨gb,-⟩:=hJb _ _ hJ;replace S:=S.trans s3 (λ_ _ _=>trivial);refine jd G G (aZ (v':= .bool false) G (ad (fQ G (aM ?_))));refine⟨G,(ts++[t],sn.push Xx.born),a11,?_,?_⟩
   ·have wR:∀e∈es,e.born=Xx.born↔e.key=kv t:=λe he=>by
     constructor
     ·intro h;rw[gm.SY hW he vq h,Ta]
     ·intro h;rw[gm.Xw hW he vq (h.trans Ta.symm)]
    refine⟨hJ,S,gi,List.nodup_append.2 ⟨nN,by simp,λa ha b hb h=>by simp at hb;subst hb;subst h;exact Wf ha⟩,λe he=>?_,λu hu=>?_⟩
    ·rw[Array.mem_push,hsn e he,wR e he];constructor
     ·rintro(⟨u,h1,h2⟩|h)
      ·exact⟨u,kB _ h1,h2⟩
      ·exact⟨t,by simp,h⟩
     ·rintro⟨u,h1,h2⟩;rcases dH.1 h1 with h1|h1
      ·exact .inl ⟨u,h1,h2⟩
      ·simp at h1;subst h1;exact .inr h2
    ·rcases dH.1 hu with hu|hu
     ·exact lY u hu
     ·simp at hu;subst hu;exact⟨_,vq,Ta⟩
   ·exact filter_lt (a:=Xx) (λe _ h=>by simp only[decide_eq_true_eq,Array.mem_push,not_or]at h ⊢;exact h.1) vq (by simpa using U1) (by simp)
  ·refine cP G G G (ad (aQ (fQ G (de ?_))))
   first|refine iS.nil ?_|simp+decide only[C0,qX,if_true,if_false]|skip
   exact kM rfl ⟨ts,hJ,nN,λt=>⟨lY t,fun⟨e,he,Ta⟩=>by obtain⟨t',h1,h2⟩:=(hsn e he).1 (aiy e he);rw[<-xv (h2.symm.trans Ta)];exact h1⟩⟩
theorem fX.any {α:Type} {A:RT α} (hA:∀M w M' w' x vs,A.R M w x vs->A.R M' w' x vs) {M M':aP} {w w':World}:∀{xs:List α} {C:List Value},fX A M w xs C->fX A M' w' xs C
 |[],_,h=>h
 |x::xs,C,h=>by
  obtain⟨vs,r,h1,h2,h3⟩:=h;exact⟨vs,r,h1,hA _ _ _ _ _ _ h2,fX.any hA h3⟩
theorem DD (M:aP) (w:World) (M':aP) (w':World) (x:Fd) (vs:List Value) (h:RT.fd.R M w x vs):RT.fd.R M' w' x vs:=h
theorem Own.JE {α:Type} {A:RT α} (hA:∀M w M' w' x vs,A.R M w x vs->A.R M' w' x vs) {e:TypeId} {M N:aP} {w w':World} {base:Nat} {v:Value} {xs:List α} (h:Own A e M w base v xs) (s:Step allM w allM w' N) (hn:∀b,v.ownBlock=some b->¬N b):Own A e (sy v) w' base v xs:=by
 obtain⟨⟨C,h1,h2⟩,_⟩:=h;refine⟨⟨C,⟨h1.1,?_⟩,fX.any hA h2⟩,λ_ h=>h⟩;rcases h1.2 with h3|⟨g,cap,cur,h3,h4,h5,h6,h7,h8⟩
 ·exact .inl h3
 ·exact .inr ⟨g,cap,cur,h3,h4,by rw[s.same g (ah h5) (hn g (by rw[h3];rfl))];exact h5,h6,h7,h8⟩
theorem Own.isCells {α:Type} {A:RT α} {e:TypeId} {M:aP} {w:World} {base b:Nat} {v:Value} {xs:List α} (h:Own A e M w base v xs) (hb:v.ownBlock=some b):∃cs,w.heap[b]? =some (.cells cs e (0,0)):=by
 obtain⟨⟨C,h1,_⟩,_⟩:=h;rcases h1.2 with h3|⟨g,cap,cur,h3,h4,h5,_⟩
 ·rw[h3.1]at hb;cases hb
 ·rw[h3]at hb;cases hb;exact⟨_,h5⟩
structure Aq (w0:World) (bt D:Nat) (st:Loop) (v:Value) (ts:List Fd) (w:World):Prop where
 S:Step allM w0 allM w aH
 c:w.heap[bt]? =some (.cells #[v] 183 (0,0))
 o:Own RT.fd 24 (sy v) w w0.heap.size v ts
 d:w.heap[D]? =some (.deferred (some []))
 r:w.heap[D+1]? =some (.loop st)
 hb:w0.heap.size<=bt
 hD:w0.heap.size<=D
theorem Aq.step {w0 w w':World} {bt D:Nat} {st:Loop} {v:Value} {ts:List Fd} {N:aP} (h:Aq w0 bt D st v ts w) (s:Step allM w allM w' N) (hN:∀k,k<w.heap.size->N k->w0.heap.size<=k/\HL w k):Aq w0 bt D st v ts w':=by
 have no:∀{k o},w.heap[k]? =some o->(∀m s sn c,o≠ .mapIter m s sn c)->¬N k:=λhk ho hn=>by
  obtain⟨_,m,s,sn,c,h'⟩:=hN _ (ah hk) hn;rw[hk]at h';exact ho m s sn c (aG h')
 refine⟨h.S.trans s (λk hk hn=>?_),s.bY h.c (no h.c (by intros;simp)),h.o.JE DD s (λb hb=>?_),s.bY h.d (no h.d (by intros;simp)),s.bY h.r (no h.r (by intros;simp)),h.hb,h.hD⟩
 ·have:=(hN k (Nat.lt_of_lt_of_le hk h.S.size) hn).1;omega
 ·obtain⟨cs,hc⟩:=h.o.isCells hb;exact no hc (by intros;simp)
theorem Aq.qG {w0 w:World} {bt D:Nat} {st st':Loop} {v:Value} {ts:List Fd} (h:Aq w0 bt D st v ts w):Aq w0 bt D st' v ts (w.putObj (D+1) (.loop st')):=by
 have s:Step allM w allM (w.putObj (D+1) (.loop st')) (λk=>k=D+1):=gE trivial;have hD:=h.hD;refine⟨h.S.trans s (λk hk hn=>by have hn:k=D+1:=hn;omega),s.bY h.c (λhn=>by have hn:bt=D+1:=hn;have h1:=h.c;rw[hn,h.r]at h1;cases h1),h.o.JE DD s (λb hb hn=>?_),s.bY h.d (λhn=>by have hn:D=D+1:=hn;omega),by have:=ah h.r;simp[World.putObj,dG,this],h.hb,h.hD⟩;have hn:b=D+1:=hn;obtain⟨cs,hc⟩:=h.o.isCells hb;rw[hn,h.r]at hc;cases hc
theorem Fm {bs mb clock:Nat} {es:List MapEntry} (w0:World) (hk:JD es) (hes:es.length<=100000000) (Xy:w0.heap[bs]? =some (.cells #[.map (some mb)] 238 (0,0))) (hW:gm Tryz.prog 24 w0 mb es clock):
  Spec Tryz.prog 252 #[.slice none 0 0,.func (.func 187) #[] [.pointer (some ⟨bs,0,none⟩)].toArray] w0 (λv w=>∃ts:List Fd,ts.Nodup/\(∀t,t∈ts↔∃e∈es,e.key=kv t)/\Own RT.fd 24 (sy v) w w0.heap.size v ts/\Step allM w0 allM w aH):=by
 refine uI (args:=[_,_]) (fn:=Tryz.f252) Tryz.func252 G (n:=13) Tryz.ntmps252 (T.aU ?_);refine qu allM G G (λbt w1 xi arH gt s1=>?_);change w1.heap[bt]? =some (.cells #[.slice none 0 0] 183 (0,0))at gt;replace s1:=s1.all;refine Rg.a8 G G (aQ (T.aU (ab G G (ad (bp ?_)))));refine T.range (gf:=187) (lb:=[.pointer (some ⟨bs,0,none⟩)].toArray) G ahj (λrec uG=>?_);obtain⟨D,hD⟩:∃D,D=w1.heap.size:=⟨_,rfl⟩;have sA:Step allM w1 allM ((w1.alloc (.deferred (some []))).alloc (.loop (rec .ready none))) aH:=(ef _ _ _).ar (ef _ _ _)
 have h0:Aq w0 bt D (rec .ready none) (.slice none 0 0) [] ((w1.alloc (.deferred (some []))).alloc (.loop (rec .ready none))):=by
  refine⟨s1.ar sA,sA.aF gt,ep _ _ _ _ _,?_,?_,xi,by rw[hD];exact s1.size⟩
  ·rw[hD];exact(ef allM (w1.alloc _) _).aF (dC w1 _)
  ·rw[hD];have:=dC (w1.alloc (.deferred (some []))) (.loop (rec .ready none));rwa [World.size_alloc]at this
 rw[<-hD]at uG ⊢;have hz:=h0.S.size;refine Spec.mono (HM (J:=λts w=>∃v,Aq w0 bt D (rec .ready none) v ts w) _ hk (λts w w' N ⟨v,h⟩ s hN=>⟨v,h.step s (λk hk hn=>⟨ch hz (hN k hk hn).1,(hN k hk hn).2⟩)⟩) (λts w ⟨v,h⟩=>⟨h.S.aF Xy,hW.br h.S⟩) (λts wr t hJ lY Wf eU=>?_) ⟨_,h0⟩) (λ_ w3 h3=>?_)
 ·obtain⟨v,h⟩:=hJ;obtain⟨e,he,hke⟩:=lY;obtain⟨t',aiA,ht1,SL⟩:=hk e he;obtain rfl:=xv (hke.symm.trans aiA);have hzr:=ah h.r;refine rR (ps:=[7]) (vs:=[kv t]) uG h.r G q0 (ay ?_);refine nI (A:=RT.fd) (M:=λk=>k=D+1) nL G G G G G (DB ht1 SL) ck (λk hk=>by have hk:k=D+1:=hk;omega) (λu2 w2 ff s2 z2=>?_);replace s2:=s2.all
  skip
  refine ad (⟨G,s2.aF h.r,?_⟩);have h4:=(h.step s2 (λ_ _ h=>h.elim)).qG (st':=rec .busy none);have s3':Step (λk=>k=D+1) w2 (λk=>k=D+1) (w2.putObj (D+1) (.loop (rec .busy none))) (λk=>k=D+1):=gE rfl;have s3:=s3'.all;have kU:=ff.le q0 s3'.le;clear s3';generalize w2.putObj (D+1) _=w4 at h4 s3 kU ⊢;refine bp (ay (aR kh G G G h4.c G ?_));refine cq (A:=RT.fd) bS G nL q0 G G G kU ck (λv3 vm=>?_);obtain rfl:=ll vm;refine dT (A:=RT.fd) (hn:=by decide) (M:=sy v) kh nL q0 G G (λb hb=>(h4.o.base b hb).2) (DB ht1 SL) (.inl G) (λu5 w5 gg s5=>?_);refine cI (M:=sy v) (base:=w0.heap.size) kh nL rfl rfl rfl rfl (h4.o.br s5) gg ck a06 a06 (ch h4.S.size s5.size) (λv6 M6 w6 ia s6=>?_);have gc:=s6.all.bY (s5.all.aF h4.c) (λhn=>h4.o.fN h4.c q0 hn);refine cA (M:=allM) agZ rfl rfl gc rfl (by obtain⟨_,_,he,_⟩:=ia.isSlice;rw[he];rfl) trivial (λw7 gc7 s7=>?_);refine ad ?_
  have aiC:∀k,sy v k->¬HL wr k:=λk hk ⟨_,_,_,_,h9⟩=>by
   obtain⟨cs,hc⟩:=h.o.isCells hk;rw[hc]at h9;cases h9
  have pr:∀k,k<wr.heap.size->k=D+1->¬HL wr k:=λk _ hk ⟨_,_,_,_,h9⟩=>by subst hk;rw[h.r]at h9;cases h9
  have pc:∀k,k<wr.heap.size->k=bt->¬HL wr k:=λk _ hk ⟨_,_,_,_,h9⟩=>by subst hk;rw[h.c]at h9;cases h9
  have h7:Aq w0 bt D (rec .busy none) v6 (ts++[t]) w7:=by
   have nb:∀b,v6.ownBlock=some b->b≠bt:=λb hb hn=>by subst hn;exact ia.fN gc q0 hb
   refine⟨?_,gc7,ia.JE DD s7 nb,?_,?_,h.hb,h.hD⟩
   ·refine((h4.S.ar s5.all).trans s6.all (λk hk hn=>?_)).trans s7 (λk hk hn=>?_)
    ·have:=(h4.o.base k hn).1;omega
    ·have hn:k=bt:=hn;have:=h.hb;omega
   ·exact s7.bY (s6.all.bY (s5.all.aF h4.d) (λhn=>by obtain⟨cs,hc⟩:=h4.o.isCells hn;rw[h4.d]at hc;cases hc)) (λhn=>by have hn:D=bt:=hn;have h1:=h.c;rw[<-hn,h.d]at h1;cases h1)
   ·exact s7.bY (s6.all.bY (s5.all.aF h4.r) (λhn=>by obtain⟨cs,hc⟩:=h4.o.isCells hn;rw[h4.r]at hc;cases hc)) (λhn=>by have hn:D+1=bt:=hn;have h1:=h.c;rw[<-hn,h.r]at h1;cases h1)
  have s8:Step allM w7 allM (w7.putObj (D+1) (.loop (rec .ready none))) (λk=>k=D+1):=gE trivial;exact⟨h7.r,G,⟨v6,h7.qG⟩,λk=>¬HL wr k,(((((s2.eE a30 (λ_ _=>trivial)).trans s3 pr).ar s5.all).trans s6.all (λk _ hn=>aiC k hn)).trans s7 pc).trans s8 pr,λ_ h=>h⟩
 ·obtain⟨ts,⟨v,h⟩,nN,lY⟩:=h3;left;refine ⟨h.r,?_⟩;have h5:=h.qG (st':=rec .exhausted none);generalize w3.putObj (D+1) _=wE at h5 ⊢;refine T.aU (aR kh G G G h5.c G (Rg.a8 G G (aS ?_)));have sE:Step allM wE allM (wE.putObj D (.deferred none)) (λk=>k=D):=gE trivial;have hDD:=h.hD;exact Hh G G h5.d ⟨ts,nN,lY,h5.o.JE DD sE (λb hb hn=>by have hn:b=D:=hn;obtain⟨cs,hc⟩:=h5.o.isCells hb;rw[hn,h5.d]at hc;cases hc),h5.S.trans sE (λk hk hn=>by have hn:k=D:=hn;omega)⟩
theorem DE {bs mb clock:Nat} {es:List MapEntry} (w0:World) (hk:JD es) (hes:es.length<=100000000) (Xy:w0.heap[bs]? =some (.cells #[.map (some mb)] 238 (0,0))) (hW:gm Tryz.prog 24 w0 mb es clock):
  Spec Tryz.prog 185 #[.func (.func 187) #[] [.pointer (some ⟨bs,0,none⟩)].toArray] w0 (λv w=>∃ts:List Fd,ts.Nodup/\(∀t,t∈ts↔∃e∈es,e.key=kv t)/\Own RT.fd 24 (sy v) w w0.heap.size v ts/\Step allM w0 allM w aH):=by
 refine bD (args:=[_]) (fn:=Tryz.f185) Tryz.func185 G (n:=5) Tryz.ntmps185 (T.aU (Rg.a8 G G (T.aU (ab G G ?_))));refine aV G G ahs (Fm _ hk hes Xy hW) (λr w1 hc=>?_);refine Rg.a8 G G (aS ?_);exact aT G G hc
def dv (t:Fd):List UInt8:=t.1++[0]++t.2
theorem OI {M:aP} {t:Fd} (w0:World) (hM:Lt M w0) (h1:t.1.length<=1000000) (h2:t.2.length<=1000000):
  Spec Tryz.prog 95 #[kv t] w0 (λv w=>v= .string ⟨(dv t).toArray⟩/\Step M w0 M w aH):=by
 refine bD (args:=[_]) (fn:=Tryz.f95) Tryz.func95 G (n:=9) Tryz.ntmps95 ?_;have S:Step M w0 M w0 aH:=bg;refine T.aU ?_;refine fO (A:=RT.fd) G G hM (DB hV hV) G (λu0 w1 dP s0 _=>?_);replace hM:=s0.lt hM;have:=S.size;replace S:=S.ar s0;refine Rg.a8 G G (T.aU ?_);refine aw (M:=M) (A:=RT.fd) (B:=RT.str) bS G G I9 q0 (Mw) G G q0 VR (by repeat (first|exact bB _ _|refine aW (bC VR) ?_)) (λBH l2=>?_);refine bV aE G G G G G l2 ck (λv1 sz=>?_);obtain rfl:=eF sz;refine Rg.cat (p:=t.1) (q:=[0]) rfl rfl rfl a06 ?_;refine aw (M:=M) (A:=RT.fd) (B:=RT.str) bS G G I9 q0 (UI) G G q0 VR (by repeat (first|exact bB _ _|refine aW (bC VR) ?_)) (λSH kP=>?_);refine bV aE G G G G G kP ck (λv4 qS=>?_);obtain rfl:=eF qS;refine Rg.cat (p:=t.1++[0]) (q:=t.2) rfl rfl rfl a06 (Rg.a8 rfl rfl (aS ?_));exact aT G G ⟨G,S⟩
theorem DF (a b:List UInt8) (w:World):Spec Tryz.prog 147 #[.string ⟨a.toArray⟩,.string ⟨b.toArray⟩] w (λv w'=>v= .int .i64 (Lib.compareBytes a b)/\w'=w):=(Any.strings_Compare Tryz.Sz ⟨a.toArray⟩ ⟨b.toArray⟩ w).mono λe w' ⟨h1,h2⟩=>⟨_,h1,rfl,h2⟩
section
variable {P:Program} {r:Option Nat} {n:Nat} {L:Sl} {ds:List Deferred} {w:World} {K:Kt} {ops:Array Oper} {rest:List Oper} {d:Nat} {x:Operand} {ty:TypeId} {pos:String} {af:Array Edge}
theorem jT.tE {id:Nat} {l:List Oper} (hm:P.follows .mixedOrders=true) (dU:fm l 0=true) (h:jT P r n l L ds (w.drewN 1) K):T P r n (.region id l.toArray true) L ds w K:=by
 refine ⟨λa ha=>wpIn_region_draw λt=> ?_⟩;simp only[Region.schedule,hm,Bool.true_or,if_true,Region.linearise];obtain⟨J,h1,h2,h3,h4⟩:=h a ha;refine mM (J:=J) dU (λ{D D' a w} hi hD=>h1 D D' a w hi hD) (λ{D a' w' j o rest} hj ho pC hp kW hi hk=>h2 _ _ _ _ _ _ _ hj ho pC hp kW hi hk) h3 _ t _ a _ (by simp) ab2 (λi o h1 h2=>?_) (h1 _ _ _ _ h4 λi _=>?_)
 ·simp[Array.getElem?_replicate]at h2
 ·simp[Array.getElem?_replicate]
theorem T.Xz {id:Nat} {l l':List Oper} (π:List Nat) (m:Nat) (fl:List Nat) (c:Nat) (N:aP) (hm:P.follows .mixedOrders=true) (Ng:B7 π l=l') (xY:fm l 0=true) (hπ:mR π l.length=true) (ze:Nat.blt m l'.length=true) (dU:fm l' 0=true) (uu:l7 l' m=true) (Bq:mP l' m fl c=true)
  (h:ou P r n l'.toArray (l'.take m) L ds (w.drewN 1) (λL'=>(∀j o,j∈fl->l'[j]? =some o->db P N (w.drewN 1) L' o)/\wV P r n l'.toArray N (w.drewN 1) K c (l'.drop m) L' ds (w.drewN 1))):T P r n (.region id l.toArray true) L ds w K:=by
 subst Ng;exact jT.tE hm xY (.perm π hπ xY (Eu m fl c N ze dU uu Bq h))
theorem Rg.XA {e:TypeId} {v:Value} (hx:ev L x=some v) (hd:Nat.blt d n=true) (k:Rg P r n ops rest ((d,.pointer (some ⟨w.heap.size,0,none⟩))::L) ds (w.alloc (.cells v.cells e (0,0))) K):
  Rg P r n ops ({dst:=some d,op:= .box e x,type:=ty,pos,after:=af,guard:=none}::rest) L ds w K:=by
 refine .op a07 G G hd _ (w.alloc (.cells v.cells e (0,0))) (λρ hρ=>?_) k;simp only[execOp,hρ x _ hx];simp[Instr.box,newVar,newRow,newObj,Sem.run]
theorem HN (w:World) (o:Obj):w.alloc o=Go.Sort.grow w #[o]:=by
 unfold World.alloc Go.Sort.grow;congr 1
theorem HO (w:World) (os:Array Obj) (q:Nat):(Go.Sort.grow w os).drewN q=Go.Sort.grow (w.drewN q) os:=rfl
end
abbrev gG (t:Fd):Obj:= .cells #[.string ⟨t.1.toArray⟩,.string ⟨t.2.toArray⟩] 24 (0,0)
theorem OJ {t:Fd} (w0:World) (h1:t.1.length<=1000000) (h2:t.2.length<=1000000):
  Spec Tryz.prog 95 #[kv t] w0 (λv w=>v= .string ⟨(dv t).toArray⟩/\w=w0.alloc (gG t)):=by
 refine bD (args:=[_]) (fn:=Tryz.f95) Tryz.func95 G (n:=9) Tryz.ntmps95 (T.aU (Rg.XA G G ?_));have gb:=dC w0 (gG t);change Rg _ _ _ _ _ _ _ (w0.alloc (gG t)) _;generalize hw:w0.alloc (gG t)=w1 at gb ⊢;refine Rg.a8 G G (T.aU (a7 (o':=0) bS G G I9 q0 rfl rfl (aR aE rfl rfl rfl gb rfl (Rg.cat (p:=t.1) (q:=[0]) rfl rfl rfl a06 (a7 (o':=1) bS rfl rfl I9 q0 rfl rfl (aR aE rfl rfl rfl gb rfl (Rg.cat (p:=t.1++[0]) (q:=t.2) rfl rfl rfl a06 (Rg.a8 rfl rfl ?_))))))));refine aS ?_;exact ao2
theorem Tb {s t:Fd} (w0:World) (h1:s.1.length<=1000000) (h2:s.2.length<=1000000) (h3:t.1.length<=1000000) (h4:t.2.length<=1000000):
  Spec Tryz.prog 146 #[kv s,kv t] w0 (λv w=>v= .int .i64 (Lib.compareBytes (dv s) (dv t))/\w=((((w0.alloc (gG s)).alloc (gG t)).drewN 1).alloc (gG s)).alloc (gG t)):=by
 refine bD (args:=[_,_]) (fn:=Tryz.f146) Tryz.func146 G (n:=10) Tryz.ntmps146 (T.aU (Rg.XA G G ?_));change Rg _ _ _ _ _ _ _ (w0.alloc (gG s)) _;refine Rg.XA G G ?_;change Rg _ _ _ _ _ _ _ ((w0.alloc (gG s)).alloc (gG t)) _;have g1:((w0.alloc (gG s)).alloc (gG t)).heap[w0.heap.size]? =some (gG s):=(ef aH _ _).aF (dC w0 _);have g2:=dC (w0.alloc (gG s)) (gG t);have kp:=nH aH (((w0.alloc (gG s)).alloc (gG t)).drewN 1);refine Rg.a8 G G (aQ ?_);apply T.Xz [0,2,1,3,4,5] 2 [1] 1 aH mixed
 ·simp+decide only[B7,wY,fx,Bs,Bo,Bp,wI,fP,qO,List.idxOf_cons,cond_true,cond_false,Nat.reduceBEq,Nat.reduceAdd,beq_self_eq_true];rfl
 ·rfl
 ·rfl
 ·rfl
 ·rfl
 ·rfl
 ·rfl
 have g1':(((w0.alloc (gG s)).alloc (gG t)).drewN 1).heap[w0.heap.size]? =some (gG s):=g1;have g2':(((w0.alloc (gG s)).alloc (gG t)).drewN 1).heap[(w0.alloc (gG s)).heap.size]? =some (gG t):=g2;refine eM (vs:=[.string ⟨s.1.toArray⟩,.string ⟨s.2.toArray⟩]) bS G nL G G G g1' (Rg.dI (eM (vs:=[.string ⟨t.1.toArray⟩,.string ⟨t.2.toArray⟩]) bS G nL G G G g2' (Rg.dI (gV (⟨kV ⟨gX G VR a96,trivial⟩,?_⟩)))));replace kp:=kp.xW (ef aH (((w0.alloc (gG s)).alloc (gG t)).drewN 1) (gG s));refine aV G G E95 (OJ (t:=s) _ h1 h2) (λr5 w5 hc=>?_);obtain⟨rfl,rfl⟩:=hc;refine(fun(kp:ga _ _ _)=>ad ⟨G,G,λ_=>kp,?_⟩) a02;refine aV G G E95 (OJ (t:=t) _ h3 h4) (λr6 w6 hc=>?_);obtain⟨rfl,rfl⟩:=hc;refine ad ⟨G,G,λh=>absurd G h,?_⟩;refine aV G G aha (DF _ _ _) (λr7 w7 hc=>?_);obtain⟨rfl,rfl⟩:=hc;refine ad ⟨G,G,λh=>absurd G h,aJ G G (ad ⟨G,G,λh=>absurd G h,tf (aS ?_)⟩)⟩;exact ao2
end Go.K
namespace Go.K
open Go.Lib (compareBytes)
theorem o6 (a b:UInt8) (x y:List UInt8):compareBytes (a::x) (b::y)=if a.toNat<b.toNat then-1 else if b.toNat<a.toNat then 1 else compareBytes x y:=by
 rw[compareBytes];simp only[UInt8.lt_iff_toNat_lt]
theorem Ah:∀a,compareBytes a a=0
 |[]=>rfl
 |a::x=>by rw[o6,if_neg (kG _),if_neg (kG _)];exact Ah x
theorem rH:∀{a b},compareBytes a b=0->a=b
 |[],[],_=>rfl
 |[],_::_,h=>by simp[compareBytes]at h
 |_::_,[],h=>by simp[compareBytes]at h
 |a::x,b::y,h=>by
  rw[o6]at h
  split at h
  ·omega
  ·split at h
   ·omega
   ·rw[rH h,UInt8.toNat_inj.1 (show a.toNat=b.toNat by omega)]
theorem pU:∀a b,compareBytes a b= -compareBytes b a
 |[],[]=>rfl
 |[],_::_=>rfl
 |_::_,[]=>rfl
 |a::x,b::y=>by
  rw[o6,o6,pU x y]
  split<;>split<;>first|omega|rfl
theorem rW:∀{a b c},compareBytes a b<0->compareBytes b c<0->compareBytes a c<0
 |[],[],_,h,_=>by simp[compareBytes]at h
 |_::_,[],_,h,_=>by simp[compareBytes]at h
 |_,_::_,[],_,h=>by simp[compareBytes]at h
 |[],_::_,_::_,_,_=>by simp[compareBytes]
 |a::x,b::y,c::z,h1,h2=>by
  rw[o6]at h1 h2 ⊢
  split at h1
  ·split at h2
   ·rw[if_pos hV];omega
   ·split at h2
    ·omega
    ·rw[if_pos hV];omega
  ·split at h1
   ·omega
   ·split at h2
    ·rw[if_pos hV];omega
    ·split at h2
     ·omega
     ·rw[if_neg hV,if_neg hV];exact rW h1 h2
theorem JF {α:Type} (f:α->List UInt8):Go.Sort.SWO (Go.Proofs.ltOf λx y=>compareBytes (f x) (f y)) where
 irrefl x:=by simp[Go.Proofs.ltOf,Ah]
 trans x y z h1 h2:=by
  simp only[Go.Proofs.ltOf,decide_eq_true_eq]at*
  exact rW h1 h2
 ntrans x y z h1 h2:=by
  simp only[Go.Proofs.ltOf,decide_eq_false_iff_not]at*
  intro h3;by_cases e1:compareBytes (f x) (f y)=0
  ·rw[rH e1]at h3;exact h2 h3
  ·by_cases e2:compareBytes (f y) (f z)=0
   ·rw[rH e2]at h1;exact h1 h3
   ·have n1:=pU (f x) (f y);have n2:=pU (f y) (f z);have n3:=pU (f x) (f z);have:compareBytes (f z) (f x)<0:=rW (b:=f y) hV hV;omega
end Go.K
namespace Go.Proofs
open Go.Shelf
def Tryz.HP:Go.Shelf.Ren:=⟨fun|6=>186|15=>179|14=>253|28=>237|29=>238|20=>287|21=>288|22=>289|23=>290|24=>291|25=>292|26=>293|27=>294|46=>312|47=>276|48=>277|49=>313|50=>314|57=>322|n=>n,fun|22=>183|24=>24|25=>246|3=>3|39=>262|0=>0|53=>336|55=>205|4=>4|46=>330|45=>329|50=>198|5=>5|9=>9|66=>357|70=>361|76=>390|77=>276|n=>n,fun|n=>n⟩
theorem Tryz.OK:Go.Proofs.SlLaysF0.n6 Tryz.prog Tryz.HP:={
 mixed:=by kernel_rfl
 f6:=⟨Tryz.f186.name,by decide,Tryz.func186.trans a03⟩
 f14:=⟨Tryz.f253.name,by decide,Tryz.func253.trans a03⟩
 f15:=Tryz.func179.trans a03
 f20:=⟨Tryz.f287.name,by decide,Tryz.func287.trans a03⟩
 f21:=⟨Tryz.f288.name,by decide,Tryz.func288.trans a03⟩
 f22:=⟨Tryz.f289.name,by decide,Tryz.func289.trans a03⟩
 f23:=⟨Tryz.f290.name,by decide,Tryz.func290.trans a03⟩
 f24:=⟨Tryz.f291.name,by decide,Tryz.func291.trans a03⟩
 f25:=⟨Tryz.f292.name,by decide,Tryz.func292.trans a03⟩
 f26:=⟨Tryz.f293.name,by decide,Tryz.func293.trans a03⟩
 f27:=⟨Tryz.f294.name,by decide,Tryz.func294.trans a03⟩
 f28:=Tryz.func237.trans a03
 f29:=Tryz.func238.trans a03
 f46:=⟨Tryz.f312.name,by decide,Tryz.func312.trans a03⟩
 f47:=Tryz.func276.trans a03
 f48:=Tryz.func277.trans a03
 f49:=⟨Tryz.f313.name,by decide,Tryz.func313.trans a03⟩
 f50:=⟨Tryz.f314.name,by decide,Tryz.func314.trans a03⟩
 f57:=⟨Tryz.f322.name,by decide,Tryz.func322.trans a03⟩
 t0:=Bt
 a0:=Tryz.isAgg0
 z0:=Tryz.sizeOf0
 v0:=Tryz.zeroValue0
 t3:=al
 a3:=Tryz.isAgg3
 z3:=Tryz.sizeOf3
 v3:=Tryz.zeroValue3
 t4:=Bv
 a4:=Tryz.isAgg4
 z4:=Tryz.sizeOf4
 v4:=Tryz.zeroValue4
 t5:=dq
 a5:=Tryz.isAgg5
 z5:=Tryz.sizeOf5
 v5:=Tryz.zeroValue5
 t9:=aE
 a9:=Tryz.isAgg9
 z9:=Bu
 v9:=oF
 t22:=kh
 a22:=Tryz.isAgg183
 z22:=Tryz.sizeOf183
 v22:=Tryz.zeroValue183
 t25:=Tryz.underlying246
 a25:=Tryz.isAgg246
 z25:=Tryz.sizeOf246
 v25:=Tryz.zeroValue246
 t39:=Tryz.underlying262
 a39:=Tryz.isAgg262
 z39:=Tryz.sizeOf262
 v39:=Tryz.zeroValue262
 t45:=Tryz.underlying329
 a45:=Tryz.isAgg329
 z45:=Tryz.sizeOf329
 v45:=Tryz.zeroValue329
 t46:=Tryz.underlying330
 a46:=Tryz.isAgg330
 z46:=Tryz.sizeOf330
 v46:=Tryz.zeroValue330
 t50:=Tryz.underlying198
 a50:=Tryz.isAgg198
 z50:=Tryz.sizeOf198
 v50:=Tryz.zeroValue198
 t53:=Tryz.underlying336
 a53:=Tryz.isAgg336
 z53:=Tryz.sizeOf336
 v53:=Tryz.zeroValue336
 t55:=th
 a55:=Tryz.isAgg205
 z55:=Tryz.sizeOf205
 v55:=Tryz.zeroValue205
 t66:=Tryz.underlying357
 a66:=Tryz.isAgg357
 z66:=Tryz.sizeOf357
 v66:=Tryz.zeroValue357
 t70:=Tryz.underlying361
 a70:=Tryz.isAgg361
 z70:=Tryz.sizeOf361
 v70:=Tryz.zeroValue361
 t76:=Tryz.underlying390
 a76:=Tryz.isAgg390
 z76:=Tryz.sizeOf390
 v76:=Tryz.zeroValue390
 t77:=Tryz.underlying276
 a77:=Tryz.isAgg276
 z77:=Tryz.sizeOf276
 v77:=Tryz.zeroValue276}
end Go.Proofs
namespace Go.K
open Go.Proofs
set_option maxRecDepth 10000
open Go.Proofs Go.Sort
abbrev TK:Type:={t:Fd // (0:UInt8)∉t.1/\t.1.length<=1000000/\t.2.length<=1000000}
instance anR:Inhabited TK:=⟨⟨([],[]),by simp,by simp,by simp⟩⟩
def BK (x:TK):List Value:=[.string ⟨x.1.1.toArray⟩,.string ⟨x.1.2.toArray⟩]
def MA (x y:TK):Int:=Lib.compareBytes (dv x.1) (dv y.1)
theorem Ai:∀{a b x y:List UInt8},(0:UInt8)∉a->(0:UInt8)∉b->a++[0]++x=b++[0]++y->a=b/\x=y
 |[],[],_,_,_,_,h=>⟨rfl,by simpa using h⟩
 |[],c::b,_,_,_,hb,h=>by
  simp at h;exact absurd (by rw[<-h.1];exact bE ..) hb
 |c::a,[],_,_,ha,_,h=>by
  simp at h;exact absurd (by rw[h.1];exact bE ..) ha
 |c::a,e::b,x,y,ha,hb,h=>by
  simp only[wK,y4]at h;obtain⟨h1,h2⟩:=Ai (λh=>ha (cn _ h)) (λh=>hb (cn _ h)) h.2;exact⟨by rw[h.1,h1],h2⟩
theorem aiD (w:World):(isAgg 24).run Tryz.prog w= .ok true w:=by simp[isAgg,cw,run_underlying bS]
theorem ab0 (w:World):(Go.sizeOf 24).run Tryz.prog w= .ok 2 w:=by
 obtain⟨i,h1,_,h2,_⟩:=nL.get;simp[Go.sizeOf,typeInfo,cw,program,Sem.run,h1,h2]
theorem OL (nJ off size:Nat) (w:World):CmpLays Tryz.prog 146 #[] BK 2 MA nJ off size w:=λm os dk hs x y=>
 (show Calls Tryz.prog 146 #[kv x.1,kv y.1] (sortWorldK BK 2 w nJ off m dk os) (λe w'=>∃v,e= .returned v/\_/\_)from Tb (s:=x.1) (t:=y.1) _ x.2.2.1 x.2.2.2 y.2.2.1 y.2.2.2).mono λe w' ⟨v,h1,h2,h3⟩=>⟨by rw[h1,h2];rfl,1,#[gG x.1,gG y.1,gG x.1,gG y.1],by rw[h3];simp only[HN,HO,Go.Sort.grow_grow];rfl⟩
theorem ab1 (nJ off cap:Nat) (d:Array TK) (w:World) (hH:HoldsK BK 2 w nJ off d) (hblk:nJ<w.heap.size) (nE:d.size<4611686018427387904):
  Spec Tryz.prog 186 #[.slice (some ⟨nJ,off,none⟩) d.size cap,.func (.func 146) #[] #[]] w (λv w'=>v= .tuple #[]/\∃n os,w'=sortWorldK BK 2 w nJ off n (d.toList.mergeSort λx y=> !(Go.Proofs.ltOf MA) y x).toArray os):=by
 exact(Go.Proofs.AnyQ.slices_SortFunc_total Tryz.OK 2 aiD ab0 BK (λ_=>rfl) (λx v hv=>by simp[BK]at hv;rcases hv with rfl|rfl<;>rfl) MA (JF _) 146 #[] nJ off cap d w ag9 (OL nJ off d.size w) hH hblk nE (λx y h1 h2=>by
  have h0:MA x y=0:=by
   have:=pU (dv x.1) (dv y.1);simp only[Go.Proofs.ltOf,decide_eq_false_iff_not]at h1 h2;unfold MA at h1 h2 ⊢;omega
  have h3:=rH h0;obtain⟨h4,h5⟩:=Ai x.2.1 y.2.1 h3;exact Subtype.ext (Prod.ext h4 h5))).mono λe w' ⟨h1,h2⟩=>⟨_,h1,G,h2⟩
end Go.K
namespace Go.K
set_option linter.unusedSectionVars false
open Go.Sort Go.Proofs
section
variable {α:Type} [Inhabited α] {enc:α->List Value} {k:Nat}
theorem ye (hk:∀x,(enc x).length=k) (h0:0<k):∀(l:List α) (t:Nat),(l.flatMap enc)[t]? =(l[t/k]?).bind λx=>(enc x)[t%k]?
 |[],t=>by simp
 |x::l,t=>by
  rw[List.flatMap_cons];rcases cT t k with h|h
  ·rw[List.getElem?_append_left (by rw[hk];exact h),Nat.div_eq_of_lt h,Nat.mod_eq_of_lt h];rfl
  ·rw[oe (by rw[hk];exact h),hk,ye hk h0 l];have e1:t/k=(t-k)/k+1:=by rw[Nat.div_eq t k,if_pos ⟨h0,h⟩]
   have e2:(t-k)%k=t%k:=by rw[Nat.mod_eq t k,if_pos ⟨h0,h⟩]
   rw[e1,e2,List.getElem?_cons_succ]
theorem rI (hk:∀x,(enc x).length=k):∀l:List α,(l.flatMap enc).length=l.length*k
 |[]=>by simp
 |x::l=>by rw[List.flatMap_cons,bT,hk,rI hk l,cR,Nat.add_mul];omega
theorem Aj (hk:∀x,(enc x).length=k) (h0:0<k) (d:Array α) {t:Nat} (ht:t<d.size*k):(d.toList.flatMap enc)[t]? =some (flatK enc k d)[t]! :=by
 have h1:t/k<d.size:=Nat.div_lt_of_lt_mul (by rw[Nat.mul_comm];exact ht);have h2:t%k<k:=Nat.mod_lt _ h0;rw[ye hk h0,get_flatK _ _ _ _ ht];have e:d.toList[t/k]? =some d[t/k]! :=by simp[h1]
 rw[e];simp[hk,h2]
theorem K7 {w:World} {g:Nat} {cur:Array Value} {e:TypeId} {d:Array α} (hk:∀x,(enc x).length=k) (h0:0<k) (hg:w.heap[g]? =some (.cells cur e (0,0))) (hC:cur.toList.take (d.size*k)=d.toList.flatMap enc):HoldsK enc k w g 0 d:=λj hj=>by
 rw[size_flatK]at hj;have h1:=Aj hk h0 d hj;rw[<-hC,dR,if_pos hj,Array.getElem?_toList]at h1;constructor
 ·simp[World.cell?,hg,h1]
 ·simp[World.frozen?,hg]
theorem BL {w:World} {g n:Nat} {cur:Array Value} {e:TypeId} {d:Array α} {os:Array Obj} (hg:w.heap[g]? =some (.cells cur e (0,0))):(sortWorldK enc k w g 0 n d os).heap[g]? =some (.cells (putCells id 0 (flatK enc k d) cur) e (0,0)):=by
 have eU:g<w.heap.size:=ah hg
 have h1:(w.heap.modify g (onCells (putCells id 0 (flatK enc k d))))[g]? =some (.cells (putCells id 0 (flatK enc k d) cur) e (0,0)):=by
  rw[wG,if_pos rfl,hg];rfl
 show((w.heap.modify g (onCells (putCells id 0 (flatK enc k d))))++os)[g]? =_;rw[Array.getElem?_append_left (by simpa using eU)];exact h1
theorem yE {w:World} {g n:Nat} {d:Array α} {os:Array Obj}:Step allM w allM (sortWorldK enc k w g 0 n d os) (λb=>b=g):=
 ⟨λh=>absurd (h w.heap.size trivial) (kG _),rfl,rfl,rfl,by show _<=((w.heap.modify g _)++os).size;simp,λ_ _=>Iff.rfl,λb hb hn=>by
  have hn: ¬b=g:=hn;show((w.heap.modify g (onCells (putCells id 0 (flatK enc k d))))++os)[b]? =_;rw[Array.getElem?_append_left (by simpa using hb),wG,if_neg (λh=>hn h.symm)],λ_ _=>trivial⟩
theorem BM {F cur:Array Value} (h:F.size<=cur.size):(putCells id 0 F cur).toList.take F.size=F.toList:=by
 apply jn;intro j;rw[dR];by_cases hj:j<F.size
 ·rw[if_pos hj];simp[putCells,hj,Nat.lt_of_lt_of_le hj h]
 ·rw[if_neg hj,dO a95]
theorem DG (hk:∀x,(enc x).length=k) (h0:0<k) (d:Array α):(flatK enc k d).toList=d.toList.flatMap enc:=by
 apply jn;intro j;by_cases hj:j<d.size*k
 ·rw[Aj hk h0 d hj];have:j<(flatK enc k d).size:=by rw[size_flatK];exact hj
  rw[Array.getElem?_toList,getElem!_pos _ j this];exact Array.getElem?_eq_getElem this
 ·rw[dO (by rw[Array.length_toList,size_flatK];omega),dO (by rw[rI hk,Array.length_toList];omega)]
end
end Go.K
namespace Go.K
open Go.Proofs
set_option maxRecDepth 10000
open Go.Proofs Go.Sort
theorem JG:∀{ts:List Fd} {C:List Value} {M:aP} {w:World},fX RT.fd M w ts C->C=ts.flatMap λt=>[.string ⟨t.1.toArray⟩,.string ⟨t.2.toArray⟩]
 |[],C,_,_,h=>h
 |t::ts,C,_,_,⟨vs,r,h1,h2,h3⟩=>by
  obtain⟨va,vb,rfl,h4,h5⟩:=h2;rw[h1,JG h3,h4.1,h5.1];rfl
theorem Fp {M:aP} {w:World}:∀{ts:List Fd},(∀t∈ts,t.1.length<=1000000/\t.2.length<=1000000)->fX RT.fd M w ts (ts.flatMap λt=>[.string ⟨t.1.toArray⟩,.string ⟨t.2.toArray⟩])
 |[],_=>rfl
 |t::ts,h=>by
  obtain⟨h1,h2⟩:=h t (bE ..);exact⟨_,_,rfl,⟨_,_,rfl,⟨rfl,by omega⟩,⟨rfl,by omega⟩⟩,Fp λu hu=>h u (cn _ hu)⟩
def OM (us:List Fd):Prop:=us.Pairwise λa b=>¬Lib.compareBytes (dv b) (dv a)<0
theorem BN {base:Nat} {v:Value} {ts:List Fd} (w0:World) (ho:Own RT.fd 24 (sy v) w0 base v ts) (hT:∀t∈ts,(0:UInt8)∉t.1/\t.1.length<=1000000/\t.2.length<=1000000) (hl:ts.length<=100000000):
  Spec Tryz.prog 186 #[v,.func (.func 146) #[] #[]] w0 (λr w=>r= .tuple #[]/\∃us:List Fd,us.Perm ts/\OM us/\Own RT.fd 24 (sy v) w base v us/\Step allM w0 allM w (sy v)):=by
 obtain⟨⟨C,⟨hC,hr⟩,hA⟩,hm⟩:=ho;rcases hr with⟨rfl,h0⟩|⟨g,cap,cur,rfl,hb,hg,hle,Z3,hcz,Kv⟩
 ·have Nf:ts=[]:=cG.1 h0;subst Nf;exact(AnyF.slices_SortFunc_none Tryz.OK none 0 _ w0).mono λe w' ⟨h1,h2⟩=>⟨_,h1,rfl,[],.refl _,List.Pairwise.nil,ep _ _ _ _ _,by rw[h2];exact(Step.refl allM w0).eE a30 (λ_ _=>trivial)⟩
 ·obtain⟨d,hd⟩:∃d:Array TK,d.toList.map (·.1)=ts:=⟨(ts.attach.map λx=>(⟨x.1,hT x.1 x.2⟩:TK)).toArray,by rw[List.toList_toArray,List.map_map];exact List.attach_map_subtype_val ts⟩;have nE:d.size=ts.length:=by rw[<-hd];simp
  have hk:∀x:TK,(BK x).length=2:=λ_=>rfl
  have XB:∀l:List TK,(l.map (·.1)).flatMap (λt:Fd=>[Value.string ⟨t.1.toArray⟩,.string ⟨t.2.toArray⟩])=l.flatMap BK:=λl=>by rw[List.flatMap_map];rfl
  have hH:HoldsK BK 2 w0 g 0 d:=K7 hk hV hg (by
   have e2:RT.fd.n=2:=rfl;rw[e2]at Kv;rw[nE,Kv,JG hA,<-hd,XB])
  have hs:=ab1 g 0 cap d w0 hH (ah hg) hV;rw[nE]at hs;refine hs.mono λr w' ⟨h1,n,os,h2⟩=>⟨h1,(d.toList.mergeSort λx y=> !(ltOf MA) y x).map (·.1),?_,?_,?_,?_⟩
  ·rw[<-hd];exact(List.mergeSort_perm _ _).map _
  ·refine eh.2 ((List.pairwise_mergeSort (λa b c h1 h2=>?_) (λa b=>?_) _).imp λh=>?_)
   ·simp only[ltOf,tg,decide_eq_false_iff_not]at*
    have:=(JF λx:TK=>dv x.1).ntrans c b a (by simpa[ltOf,MA]using h2) (by simpa[ltOf,MA]using h1);simpa[ltOf,MA]using this
   ·simp only[ltOf,Bool.or_eq_true,tg,decide_eq_false_iff_not];have:=pU (dv a.1) (dv b.1);unfold MA;omega
   ·rw[tg]at h;exact of_decide_eq_false h
  ·have hp:=List.mergeSort_perm d.toList λx y=> !(ltOf MA) y x
   rw[h2];generalize (d.toList.mergeSort λx y=> !(ltOf MA) y x)=us at hp;have hul:(us.map (·.1)).length=ts.length:=by rw[cg,hp.length_eq,Array.length_toList,nE]
   have Ea:us.toArray.size*2=ts.length*2:=by rw[<-hul];simp
   have e2:RT.fd.n=2:=rfl;refine⟨⟨(us.map (·.1)).flatMap (λt:Fd=>[Value.string ⟨t.1.toArray⟩,.string ⟨t.2.toArray⟩]),⟨?_,.inr ⟨g,cap,_,by rw[hul],hb,BL hg,by rw[hul];exact hle,Z3,by rw[<-hcz];simp[putCells],?_⟩⟩,Fp λt ht=>?_⟩,hm⟩
   ·rw[XB,rI hk,cg,e2]
   ·rw[XB,hul,e2,<-Ea,<-size_flatK BK,BM (by rw[size_flatK,Ea,hcz,e2];omega),DG hk hV]
   ·obtain⟨x,_,rfl⟩:=cO.1 ht;exact x.2.2
  ·rw[h2];exact yE.eE (λb hb=>by have hb:b=g:=hb;subst hb;rfl) (λ_ _=>trivial)
end Go.K
namespace Go.K
open Go.Proofs
set_option maxRecDepth 10000
theorem Fq {bs mb clock:Nat} {es:List MapEntry} (w0:World) (hk:JD es) (hT:∀e∈es,∀t,e.key=kv t->(0:UInt8)∉t.1/\t.1.length<=1000000/\t.2.length<=1000000) (hes:es.length<=100000000) (hlen:∀ts:List Fd,ts.Nodup->(∀t∈ts,∃e∈es,e.key=kv t)->ts.length<=100000000) (Xy:w0.heap[bs]? =some (.cells #[.map (some mb)] 238 (0,0))) (hW:gm Tryz.prog 24 w0 mb es clock):
  Spec Tryz.prog 144 #[.func (.func 187) #[] [.pointer (some ⟨bs,0,none⟩)].toArray,.func (.func 146) #[] #[]] w0 (λv w=>∃us:List Fd,us.Nodup/\(∀t,t∈us↔∃e∈es,e.key=kv t)/\OM us/\Own RT.fd 24 (sy v) w w0.heap.size v us/\Step allM w0 allM w aH):=by
 refine bD (args:=[_,_]) (fn:=Tryz.f144) Tryz.func144 G (n:=12) Tryz.ntmps144 (T.aU (Rg.a8 G G (T.aU (ab G G ?_))));refine aV G G ahh (DE _ hk hes Xy hW) (λv1 w1 hc=>?_);obtain⟨ts,nN,lY,ho,s1⟩:=hc;refine Rg.a8 G G (T.aU (ab G G (ab G G ?_)));refine aV rfl rfl ahi (BN _ ho (λt ht=>by obtain⟨e,he,hke⟩:=(lY t).1 ht;exact hT e he t hke) (hlen ts nN λt ht=>(lY t).1 ht)) (λr2 w2 hc=>?_);obtain⟨rfl,us,hp,R1,hou,s2⟩:=hc;refine ad (T.aU (ab G G (Rg.a8 G G (aS ?_))));exact aT G G ⟨us,hp.nodup_iff.2 nN,λt=>hp.mem_iff.trans (lY t),R1,hou,s1.trans s2 (λk hk hn=>by have:=(ho.base k hn).1;omega)⟩
theorem HQ {mb:Nat} (w0:World):
  Spec Tryz.prog 145 #[.map (some mb)] w0 (λv w=>∃bs,v= .func (.func 187) #[] [.pointer (some ⟨bs,0,none⟩)].toArray/\w.heap[bs]? =some (.cells #[.map (some mb)] 238 (0,0))/\w0.heap.size<=bs/\Step allM w0 allM w aH):=by
 refine bD (args:=[_]) (fn:=Tryz.f145) Tryz.func145 G (n:=4) Tryz.ntmps145 (T.aU ?_);refine qu allM G G (λbs w1 xi yv gs s1=>?_);change w1.heap[bs]? =some (.cells #[.map (some mb)] 238 (0,0))at gs;replace s1:=s1.all;refine Rg.a8 G G (T.aU (jQ (xs:=[]) (ys:=[.tmp 1]) G G G (Rg.a8 G G (aS ?_))));exact aT G G ⟨bs,G,gs,xi,s1⟩
def posOf (ts:List (Fd×Nat)) (t:Fd):List Int:=(ts.filter λp=>decide (p.1=t)).map λp=>(p.2:Int)
def seen (ts:List (Fd×Nat)):List Fd:=ts.foldl (λl p=>if p.1∈l then l else l++[p.1]) []
theorem K8 (ts:List (Fd×Nat)) (t:Fd) (i:Nat):seen (ts++[(t,i)])=if t∈seen ts then seen ts else seen ts++[t]:=by unfold seen;rw[jo];rfl
theorem Ak (ts:List (Fd×Nat)) (t t':Fd) (i:Nat):posOf (ts++[(t,i)]) t'=if t=t' then posOf ts t'++[(i:Int)]else posOf ts t':=by
 unfold posOf;rw[iJ];by_cases h:t=t'<;>simp[h]
theorem xx (ts:List (Fd×Nat)) (t:Fd):(posOf ts t).length<=ts.length:=by
 unfold posOf;rw[cg];exact fA _ _
abbrev lr:Value:= .slice none 0 0
structure K9 (M:aP) (w:World) (B:Nat) (ts:List (Fd×Nat)) (es:List MapEntry):Prop where
 o:∀t v,eO lr es (kv t) v->Own (RT.int .i64) 3 M w B v (posOf ts t)
 a:∀t t' v v',t≠t'→eO lr es (kv t) v->eO lr es (kv t') v'→k5 v v'
 k:es.map (·.key)=(seen ts).map kv
theorem K9.br {M M':aP} {w w':World} {B:Nat} {ts:List (Fd×Nat)} {es:List MapEntry} (h:K9 M w B ts es) (s:Step M w M' w' aH):K9 M' w' B ts es:=⟨λt v hv=>(h.o t v hv).br s,h.a,h.k⟩
def IJ (bt mb B:Nat) (ts:List (Fd×Nat)) (M:aP) (w:World):Prop:=w.heap[bt]? =some (.cells #[.map (some mb)] 238 (0,0))/\M bt/\M mb/\B<=bt/\B<=mb/\∃es clock,gm Tryz.prog 24 w mb es clock/\K9 M w B ts es
theorem Own.lu {α:Type} {A:RT α} {e:TypeId} {M:aP} {w:World} {base b c:Nat} {a:Array MapEntry} {v:Value} {xs:List α} (h:Own A e M w base v xs) (hb:w.heap[b]? =some (.map a c)):v.ownBlock≠some b:=λhv=>by
 obtain⟨⟨C,h1,_⟩,_⟩:=h;rcases h1.2 with⟨h2,_⟩|⟨g,cap,cur,h2,_,h3,_⟩
 ·rw[h2]at hv;cases hv
 ·rw[h2]at hv;cases hv;rw[h3]at hb;cases hb
theorem vu {ts:List (Fd×Nat)} {es:List MapEntry} {t:Fd} (hk:es.map (·.key)=(seen ts).map kv):(∃e∈es,e.key=kv t)↔t∈seen ts:=by
 constructor
 ·rintro⟨e,he,h⟩;have:kv t∈(seen ts).map kv:=by rw[<-hk,<-h];exact gj he
  obtain⟨t',h1,h2⟩:=cO.1 this;rw[<-xv h2];exact h1
 ·intro h;have:kv t∈es.map (·.key):=by rw[hk];exact gj h
  obtain⟨e,h1,h2⟩:=cO.1 this;exact⟨e,h1,h2⟩
theorem La {M:aP} {bt mb B:Nat} {ts:List (Fd×Nat)} {t:Fd} {i:Nat} (w0:World) (hM:Lt M w0) (h1:t.1.length<=900000) (h2:t.2.length<=140737488355328) (hi:i<=1000000) (Nf:ts.length<=10000000) (hJ:IJ bt mb B ts M w0):
  Spec Tryz.prog 143 #[kv t,.int .i64 (i:Int),.pointer (some ⟨bt,0,none⟩)] w0 (λv w=>∃M',Lt M' w/\IJ bt mb B (ts++[(t,i)]) M' w/\Step M w0 M' w (l5 M B)):=by
 obtain⟨gb,eC,fD,hB,JH,es,clock,hW,hI⟩:=hJ;refine bD (args:=[_,_,_]) (fn:=Tryz.f143) Tryz.func143 G (n:=13) Tryz.ntmps143 ?_;have S:Step M w0 M w0 (l5 M B):=(bg).eE a30 (λ_ h=>h.2);refine T.aU ?_;refine fO (A:=RT.fd) G G hM (DB hV h2) G (λu0 w1 dP s0 _=>?_);have:=ah gb;replace eC:=(s0.mem _ this).2 eC;replace gb:=s0.aF gb;replace fD:=(s0.mem _ (ah hW.at_)).2 fD;replace hW:=hW.br s0;replace hI:=hI.br s0;replace hM:=s0.lt hM;have:=S.size;replace S:=S.ar s0;refine ad (ay (aR mF G G G VR G ?_));refine cq (A:=RT.fd) bS G nL q0 G G G dP ck (λv1 sz=>?_);obtain rfl:=ll sz;refine ab G G ?_;refine dT (A:=RT.int .i64) (hn:=by decide) (M:=M) aC I3 q0 G G hM (iF hV) (.inr ⟨G,G⟩) (λSH KW kP s1_3=>?_);have:=ah gb;replace eC:=(s1_3.mem _ this).2 eC;replace gb:=s1_3.aF gb;replace dP:=dP.le q0 s1_3.le;replace fD:=(s1_3.mem _ (ah hW.at_)).2 fD;replace hW:=hW.br s1_3;replace hI:=hI.br s1_3;replace hM:=s1_3.lt hM;have:=S.size;replace S:=S.ar s1_3;obtain⟨kl,G1⟩:=OE t hV h2;refine Rg.mapEntry (M:=M) (zv:=lr) mF Cm qB G G G G1 hW fD (λw4 es4 cl4 v s Z4 hv lY Lb Et s4=>?_);have Co:∀t v,eO lr es (kv t) v->v.ownBlock≠some mb:=λt v h=>(hI.o t v h).lu hW.at_
 have U2:bt≠mb:=λe=>by subst e;have:=hW.at_;rw[gb]at this;cases this
 replace hI:K9 M w4 B ts es:=⟨λt v hv=>(hI.o t v hv).step s4 (λb hb hk=>Co t v hv (by have hk:b=mb:=hk;rw[<-hk];exact hb)),hI.a,hI.k⟩;have ab4:=(s4.mem _ (ah hW.at_)).2 fD;replace eC:=(s4.mem _ (ah gb)).2 eC;replace gb:=s4.bY gb U2;replace kP:=kP.le s4.le;replace hM:=s4.lt hM;have hmM:∀b,b<w0.heap.size->M b->M b:=λb hb h=>(S.mem b hb).1 h
 have hz0:=S.size;replace S:=S.trans s4 (λk hk h=>by have h:k=mb:=h;subst h;exact⟨JH,hmM k hk fD⟩);have sY:=hI.o t v hv;have yN:=xx ts t;refine cP G G G ?_;refine Rg.nP (M:=M) (base:=B) aC I3 rfl rfl rfl rfl sY kP ck a06 a06 (by have:=ah gb;omega) (λv6 w6 ia s6 hF=>?_);have hblk:∀b,nJ v b->B<=b/\M b:=λb h=>⟨(sY.base b h).1,sY.mut_ b h⟩
 have Tc:∀t' v',t'≠t->eO lr es (kv t') v'→k5 v' v:=λt' v' fB sM=>hI.a t' t v' v fB sM hv
 have Td:∀t' v',t'≠t->eO lr es (kv t') v'→Own (RT.int .i64) 3 (mI M v6) w6 B v' (posOf ts t'):=λt' v' fB sM=>(hI.o t' v' sM).step s6 (λb hb hk=>Tc t' v' fB sM b hb hk)
 have nE:∀t' v',eO lr es (kv t') v'→∀b,v'.ownBlock=some b->b<w4.heap.size:=λt' v' sM b hb=>((hI.o t' v' sM).base b hb).2
 have ON:∀t' v',t'≠t->eO lr es (kv t') v'→k5 v6 v':=λt' v' fB sM=>(Tc t' v' fB sM).symm.grown hF (nE t' v' sM)
 have aiE:v.ownBlock≠some mb:=sY.lu Z4.at_;have OO:=(s6.mem _ (ah Z4.at_)).2 ab4;replace Z4:=Z4.step s6 aiE;replace eC:=(s6.mem _ (ah gb)).2 eC;replace gb:=s6.bY gb (λh=>sY.fN gb q0 h);replace hM:=s6.lt hM;have aiF:∀b,b<w0.heap.size->M b->M b:=λb hb h=>(S.mem b hb).1 h
 replace S:=S.trans s6 (λk hk h=>⟨(hblk k h).1,aiF k hk (hblk k h).2⟩);refine cP G G G ?_;have ab5:=Z4.at_;refine Rg.entryStore G G G Z4 OO lY (λw8 es8 hW8 qn ab6 s8=>?_);have hm8:v6.ownBlock≠some mb:=ia.lu ab5;replace ia:=ia.step s8 (λb hb hk=>hm8 (by have hk:b=mb:=hk;rw[<-hk];exact hb));have ab7:∀t' v',t'≠t->eO lr es (kv t') v'→Own (RT.int .i64) 3 _ w8 B v' (posOf ts t'):=λt' v' fB sM=>(Td t' v' fB sM).step s8 (λb hb hk=>Co t' v' sM (by have hk:b=mb:=hk;rw[<-hk];exact hb))
 have ab8:=(s8.mem _ (ah ab5)).2 OO;refine ad ?_
 first|refine iS.nil ?_|simp+decide only[C0,qX,if_true,if_false]|skip
 replace eC:=(s8.mem _ (ah gb)).2 eC;replace gb:=s8.bY gb U2;replace hM:=s8.lt hM;replace S:=S.trans s8 (λk hk h=>by have h:k=mb:=h;subst h;exact⟨JH,(S.mem k hk).1 OO⟩)
 have ta:∀t1 v1,eO lr es8 (kv t1) v1->(t1=t/\v1=v6)\/(t1≠t/\eO lr es (kv t1) v1):=λt1 v1 sz=>by
  rcases(ab6 lr (kv t1) v1).1 sz with⟨h3,h4⟩|⟨h3,h4⟩
  ·exact .inl ⟨xv h3,h4⟩
  ·exact .inr ⟨λe=>h3 (by rw[e];rfl),(Lb (kv t1) v1).1 h4⟩
 refine kM G ⟨_,hM,⟨gb,eC,ab8,hB,JH,es8,_,hW8,⟨λt1 v1 sz=>?_,λt1 t2 v1 v2 fB sz Ch=>?_,?_⟩⟩,S⟩
 ·rcases ta t1 v1 sz with⟨rfl,rfl⟩|⟨h3,h4⟩
  ·rw[Ak,if_pos rfl];exact ia
  ·rw[Ak,if_neg (λe=>h3 e.symm)];exact ab7 t1 v1 h3 h4
 ·rcases ta t1 v1 sz with⟨rfl,rfl⟩|⟨h3,h4⟩
  ·rcases ta t2 v2 Ch with⟨rfl,_⟩|⟨h5,h6⟩
   ·exact absurd G fB
   ·exact ON t2 v2 h5 h6
  ·rcases ta t2 v2 Ch with⟨rfl,rfl⟩|⟨h5,h6⟩
   ·exact(ON t1 v1 h3 h4).symm
   ·exact hI.a t1 t2 v1 v2 fB h4 h6
 ·rw[qn,K8];rcases Et with⟨h3,h4⟩|⟨h3,h4⟩
  ·rw[h3,hI.k,if_pos ((vu hI.k).1 h4)]
  ·rw[h3,hI.k,if_neg (λh=>by obtain⟨e,he,hk⟩:=(vu hI.k).2 h;exact h4 e he hk)];simp[kv]
end Go.K
namespace Go.K
open Go.Maps (Keyed)
open Go.Lib (compareBytes)
theorem Fs:∀a b:List UInt8,Op.bytesLess a b=decide (compareBytes a b<0)
 |[],[]=>by simp[Op.bytesLess,compareBytes]
 |_::_,[]=>by simp[Op.bytesLess,compareBytes]
 |[],_::_=>by simp[Op.bytesLess,compareBytes]
 |a::x,b::y=>by
  rw[Op.bytesLess,Fs x y,o6];by_cases h1:a.toNat<b.toNat
  ·simp[UInt8.lt_iff_toNat_lt,h1]
  ·by_cases h2:b.toNat<a.toNat
   ·have: ¬a=b:=λe=>by subst e;omega
    simp[UInt8.lt_iff_toNat_lt,h1,h2,this]
   ·have:a=b:=UInt8.toNat_inj.1 hV;simp[UInt8.lt_iff_toNat_lt,h1,h2,this]
theorem rJ (a b:List UInt8):compareBytes a b<0↔a<b:=by
 have h:=Fs a b;rw[Go.Proofs.bytesLess_eq]at h;exact(decide_eq_decide.1 h).symm
theorem kQ (a:List UInt8): ¬a<a:=λh=>by have:=(rJ a a).2 h;rw[Ah]at this;omega
theorem o7 {a b c:List UInt8} (h:a<b) (h':b<c):a<c:=(rJ _ _).1 (rW ((rJ _ _).2 h) ((rJ _ _).2 h'))
theorem nX (a b:List UInt8):a<b\/a=b\/b<a:=by
 rcases Int.lt_trichotomy (compareBytes a b) 0 with h|h|h
 ·exact .inl ((rJ _ _).1 h)
 ·exact .inr (.inl (rH h))
 ·exact .inr (.inr ((rJ _ _).1 (by rw[pU];omega)))
theorem kR {a b:List UInt8} (h:a<b): ¬b<a:=λh'=>kQ a (o7 h h')
theorem HR {a b:List UInt8}:a<=b↔¬b<a:=Iff.rfl
section
variable {P:Program} {r:Option Nat} {n:Nat} {L:Sl} {ds:List Deferred} {w:World} {K:Kt} {ops:Array Oper} {rest:List Oper} {d:Nat} {x y:Operand} {ty:TypeId} {pos:String} {af:Array Edge}
theorem Rg.aiH {t t':TypeId} {p q:List UInt8} (hx:ev L x=some (.string ⟨p.toArray⟩)) (hy:ev L y=some (.string ⟨q.toArray⟩)) (hd:Nat.blt d n=true)
  (k:Rg P r n ops rest ((d,.bool (decide (q<p)))::L) ds w K):
  Rg P r n ops ({dst:=some d,op:= .binOp .gtr t x y t',type:=ty,pos,after:=af,guard:=none}::rest) L ds w K:=
 .op a07 rfl rfl hd _ w (λρ h=>by
  have e:(!(decide (p<q)||p==q))=decide (q<p):=by
   rcases nX p q with h|h|h
   ·simp[h,kR h]
   ·subst h;simp[kQ]
   ·have: ¬p=q:=λe=>by subst e;exact kQ p h
    simp[h,kR h,this]
  simp only[execOp];rw[h x _ hx,h y _ hy];simp only[binOp,Op.stringOp,kJ,Go.Proofs.bytesLess_eq,e];simp[eqGuard]) k
theorem Rg.XC {t t':TypeId} {p q:List UInt8} (hx:ev L x=some (.string ⟨p.toArray⟩)) (hy:ev L y=some (.string ⟨q.toArray⟩)) (hd:Nat.blt d n=true)
  (k:Rg P r n ops rest ((d,.bool (decide (¬p<q)))::L) ds w K):
  Rg P r n ops ({dst:=some d,op:= .binOp .geq t x y t',type:=ty,pos,after:=af,guard:=none}::rest) L ds w K:=
 .op a07 rfl rfl hd _ w (λρ h=>by
  have e:(!decide (p<q))=decide (¬p<q):=by by_cases h:p<q<;>simp[h]
  simp only[execOp];rw[h x _ hx,h y _ hy];simp only[binOp,Op.stringOp,kJ,Go.Proofs.bytesLess_eq,e];simp[eqGuard]) k
theorem Rg.XD {t t':TypeId} {p q:List UInt8} (hx:ev L x=some (.string ⟨p.toArray⟩)) (hy:ev L y=some (.string ⟨q.toArray⟩)) (hd:Nat.blt d n=true)
  (k:Rg P r n ops rest ((d,.bool (decide (¬q<p)))::L) ds w K):
  Rg P r n ops ({dst:=some d,op:= .binOp .leq t x y t',type:=ty,pos,after:=af,guard:=none}::rest) L ds w K:=
 .op a07 rfl rfl hd _ w (λρ h=>by
  have e:(decide (p<q)||p==q)=decide (¬q<p):=by
   rcases nX p q with h|h|h
   ·simp[h,kR h]
   ·subst h;simp[kQ]
   ·have: ¬p=q:=λe=>by subst e;exact kQ p h
    simp[h,kR h,this]
  simp only[execOp];rw[h x _ hx,h y _ hy];simp only[binOp,Op.stringOp,kJ,Go.Proofs.bytesLess_eq,e];simp[eqGuard]) k
end
abbrev HS (l:List (List UInt8)):Prop:=l.Pairwise (· < ·)
theorem Lc {ss:List (List UInt8)} (h:ss.Nodup):HS (ss.mergeSort λx y=>decide (x<=y)):=by
 have h1:(ss.mergeSort λx y=>decide (x<=y)).Pairwise (λx y=>decide (x<=y)=true):=List.pairwise_mergeSort (λa b c h1 h2=>by
  simp only[decide_eq_true_eq,HR]at h1 h2 ⊢;intro h3;rcases nX a b with h|h|h
  ·exact h2 (o7 h3 h)
  ·subst h;exact h2 h3
  ·exact h1 h) (λa b=>by
  simp only[Bool.or_eq_true,decide_eq_true_eq,HR];rcases nX a b with h|h|h
  ·exact .inl (kR h)
  ·subst h;exact .inl (kQ a)
  ·exact .inr (kR h)) ss
 have h2:(ss.mergeSort λx y=>decide (x<=y)).Nodup:=(List.mergeSort_perm ss _).nodup_iff.2 h;refine (h1.and h2).imp ?_;rintro a b ⟨h3,h4⟩;simp only[decide_eq_true_eq,HR]at h3;rcases nX a b with h|h|h
 ·exact h
 ·exact absurd h h4
 ·exact absurd h h3
theorem HS.nodup {l:List (List UInt8)} (h:HS l):l.Nodup:=h.imp λ{a b} h e=>by subst e;exact kQ a h
theorem OP {α:Type} {R:α->α->Prop} (hR:∀a b,R a b->R b a->a=b) {l l':List α} (h:l.Pairwise R) (h':l'.Pairwise R) (hn:l.Nodup) (Mv:l'.Nodup) (hm:∀x,x∈l↔x∈l'):l=l':=
 List.Perm.eq_of_pairwise (λa b _ _ h1 h2=>hR a b h1 h2) h h' ((List.perm_ext_iff_of_nodup hn Mv).2 hm)
theorem XE {l l':List (List UInt8)} (h:HS l) (h':HS l') (hm:∀x,x∈l↔x∈l'):l=l':=
 OP (λa b h1 h2=>absurd h2 (kR h1)) h h' h.nodup h'.nodup hm
abbrev sv (k:List UInt8):Value:= .string ⟨k.toArray⟩
theorem DH {a b:List UInt8} (h:sv a=sv b):a=b:=by simpa[sv]using h
def HT:Value->Option (DU×List MemPlace):=λ_=>some (.nil,[])
theorem gm.aiI {P:Program} {kt:TypeId} {M:aP} {w:World} {b:Nat} {es:List MapEntry} {clock:Nat} (hk:P.underlying kt=some .string) (h:gm P kt w b es clock) (hm:M b) (hl:es.length<=maxLen) (ks:List (List UInt8)) (Dn:es.map (·.key)=ks.map sv):
  ∃m:List (Lit×DU),aaT P kt HT M w b m/\(strKeys (DataW.map m)).Perm ks/\m.length=ks.length:=by
 have hF:Go.WideElems.Fit P kt HT es.toArray clock:=by
  refine⟨by simpa using hl,⟨λx hx=>h.lt x af5,?_,?_⟩,λx hx=>?_⟩
  ·simpa[List.Nodup,eh]using h.born
  ·simpa[List.Nodup,eh]using h.keys
  ·obtain⟨l,hl⟩:=h.ok x af5;exact⟨(l,.nil),by simp[Go.WideElems.rd,hl,HT]⟩
 have hp:=Go.WideShapes.sorted_perm (es.toArray.toList.map (Go.WideElems.rg P kt HT));have hlen:(List.foldr DataW.insert [] (es.toArray.toList.map (Go.WideElems.rg P kt HT))).length=es.length:=by rw[hp.length_eq];simp
 refine⟨_,⟨hm,es.toArray,clock,h.at_,hF,by rw[hlen];simp,rfl⟩,?_,?_⟩
 ·refine (hp.map λp=>strOf p.1).trans ?_;rw[List.map_map]
  have e:es.toArray.toList.map ((λp=>strOf p.1)∘Go.WideElems.rg (H:=Unit) P kt HT)=ks:=by
   refine jn λi=>?_
   have hi:=congrArg (·[i]?) Dn;simp only[eX]at hi ⊢
   cases he:es[i]? with
   |none=>
    rw[he]at hi
    cases aiJ:ks[i]? with
    |none=>simp[he]
    |some a=>rw[aiJ]at hi;cases hi
   |some e=>
    rw[he]at hi;obtain⟨l,hl⟩:=h.ok e (ao he);obtain⟨s,hs,h1⟩:=Option.map_eq_some_iff.1 hi.symm;obtain⟨z,hz1,hz2,_⟩:=Maps.keyOf_str hk hl;have:z=s:=DH (hz1.symm.trans (by simpa using h1.symm));subst this;simp[he,hs,Go.WideElems.rg,Go.WideElems.rd,hl,HT,hz2,strOf]
  rw[e]
 ·rw[hlen];have:=congrArg List.length Dn;simpa using this
end Go.K
namespace Go.K
open Go.Lib (compareBytes)
def rK {α:Type} [DecidableEq α] (key:α->List UInt8) (t:α):List α->List α
 |[]=>[t]
 |u::l=>if key t<key u then t::u::l else if u=t then u::l else u::rK key t l
theorem rX {α:Type} [DecidableEq α] {key:α->List UInt8} {t x:α}:∀{l:List α},x∈rK key t l↔x=t\/x∈l
 |[]=>by simp[rK]
 |u::l=>by
  unfold rK
  split
  ·simp
  ·split
   ·rename_i h;subst h;simp
   ·rw[dg,rX (l:=l),dg];constructor
    ·rintro(h|h|h)
     ·exact .inr (.inl h)
     ·exact .inl h
     ·exact .inr (.inr h)
    ·rintro(h|h|h)
     ·exact .inr (.inl h)
     ·exact .inl h
     ·exact .inr (.inr h)
abbrev DI {α:Type} (key:α->List UInt8) (l:List α):Prop:=l.Pairwise λa b=>key a<key b
theorem Ft {α:Type} [DecidableEq α] {key:α->List UInt8} {t:α}:∀{l:List α},(∀u∈l,key u=key t->u=t)->DI key l->DI key (rK key t l)
 |[],_,_=>by simp[rK]
 |u::l,hi,h=>by
  have h':=gC.1 h;unfold rK
  split
  ·rename_i eU
   refine gC.2 ⟨λx hx=>?_,h⟩;rcases dg.1 hx with rfl|hx
   ·exact eU
   ·exact o7 eU (h'.1 x hx)
  ·rename_i eU
   split
   ·exact h
   ·rename_i fB
    have hut:key u<key t:=by
     rcases nX (key u) (key t)with h1|h1|h1
     ·exact h1
     ·exact absurd (hi u (bE ..) h1) fB
     ·exact absurd h1 eU
    refine gC.2 ⟨λx hx=>?_,Ft (λv hv=>hi v (cn _ hv)) h'.2⟩;rcases rX.1 hx with rfl|hx
    ·exact hut
    ·exact h'.1 x hx
def allBy {α:Type} [DecidableEq α] (key:α->List UInt8) (l:List α):List α:=l.foldl (λa t=>rK key t a) []
theorem vv {α:Type} [DecidableEq α] {key:α->List UInt8} {S:α->Prop} (hS:∀a b,S a->S b->key a=key b->a=b):∀(l a:List α),(∀x∈l,S x)->(∀x∈a,S x)->DI key a->
  DI key (l.foldl (λa t=>rK key t a) a)/\∀x,x∈l.foldl (λa t=>rK key t a) a↔x∈a\/x∈l
 |[],a,_,_,h=>⟨h,λx=>by simp⟩
 |t::l,a,hl,ha,h=>by
  have ht:=hl t (bE ..)
  obtain⟨h1,h2⟩:=vv hS l (rK key t a) (λx hx=>hl x (cn _ hx)) (λx hx=>by
   rcases rX.1 hx with rfl|hx
   ·exact ht
   ·exact ha x hx) (Ft (λu hu e=>hS _ _ (ha u hu) ht e) h)
  refine ⟨h1,λx=> ?_⟩;rw[qP,h2,rX,dg];constructor
  ·rintro((h|h)|h)
   ·exact .inr (.inl h)
   ·exact .inl h
   ·exact .inr (.inr h)
  ·rintro(h|h|h)
   ·exact .inl (.inr h)
   ·exact .inl (.inl h)
   ·exact .inr h
theorem DI.nodup {α:Type} {key:α->List UInt8} {l:List α} (h:DI key l):l.Nodup:=h.imp λ{a b} h e=>by subst e;exact kQ _ h
abbrev MB (t:Fd):Prop:=(0:UInt8)∉t.1
theorem vz {a b:Fd} (ha:MB a) (hb:MB b) (h:dv a=dv b):a=b:=by
 obtain⟨h1,h2⟩:=Ai ha hb h;exact Prod.ext h1 h2
def dQ (tl:List (Fd×Nat)):List Fd:=allBy dv (tl.map (·.1))
theorem vB {tl:List (Fd×Nat)} (hz:∀p∈tl,MB p.1):DI dv (dQ tl):=
 (vv (S:=MB) (λ_ _=>vz) _ [] (λx hx=>by obtain⟨p,hp,rfl⟩:=cO.1 hx;exact hz p hp) (λx h=>by cases h) List.Pairwise.nil).1
theorem jr {tl:List (Fd×Nat)} (hz:∀p∈tl,MB p.1) {t:Fd}:t∈dQ tl↔t∈tl.map (·.1):=by
 have:=(vv (S:=MB) (key:=dv) (λ_ _=>vz) (tl.map (·.1)) [] (λx hx=>by obtain⟨p,hp,rfl⟩:=cO.1 hx;exact hz p hp) (λx h=>by cases h) List.Pairwise.nil).2 t;simpa[dQ,allBy]using this
theorem JI (t:Fd):∀(ts:List (Fd×Nat)) (l:List Fd),t∈ts.foldl (λl p=>if p.1∈l then l else l++[p.1]) l↔t∈l\/t∈ts.map (·.1)
 |[],l=>by simp
 |p::ts,l=>by
  rw[qP,JI t ts,fx,dg]
  split
  ·rename_i h
   constructor
   ·rintro(h1|h1)
    ·exact .inl h1
    ·exact .inr (.inr h1)
   ·rintro(h1|h1|h1)
    ·exact .inl h1
    ·exact .inl (by rw[h1];exact h)
    ·exact .inr h1
  ·rw[dH,cV];constructor
   ·rintro((h1|h1)|h1)
    ·exact .inl h1
    ·exact .inr (.inl h1)
    ·exact .inr (.inr h1)
   ·rintro(h1|h1|h1)
    ·exact .inl (.inl h1)
    ·exact .inl (.inr h1)
    ·exact .inr h1
theorem vC {tl:List (Fd×Nat)} {t:Fd}:t∈seen tl↔t∈tl.map (·.1):=by unfold seen;rw[JI];simp
theorem Fu {tl:List (Fd×Nat)} {us:List Fd} (hz:∀p∈tl,MB p.1) (nN:us.Nodup) (lY:∀t,t∈us↔t∈seen tl) (R1:OM us):us=dQ tl:=by
 have hm:∀t,t∈us↔t∈dQ tl:=λt=>by rw[lY,vC,jr hz]
 have ka:∀t∈dQ tl,MB t:=λt ht=>by obtain⟨p,hp,rfl⟩:=cO.1 ((jr hz).1 ht);exact hz p hp
 refine List.Perm.eq_of_pairwise (le:=λa b=>¬compareBytes (dv b) (dv a)<0) (λa b ha hb h1 h2=>?_) R1 ((vB hz).imp λ{a b} h h'=>kR h ((rJ _ _).1 h')) ((List.perm_ext_iff_of_nodup nN (vB hz).nodup).2 hm);rw[rJ]at h1 h2;rcases nX (dv a) (dv b)with h|h|h
 ·exact absurd h h2
 ·exact vz (ka a ((hm a).1 ha)) (ka b hb) h
 ·exact absurd h h1
theorem pV (a b:List (Fd×Nat)) (t:Fd):posOf (a++b) t=posOf a t++posOf b t:=by simp[posOf]
theorem OQ {tl:List (Fd×Nat)} {t:Fd} (h:t∈tl.map (·.1)):posOf tl t≠[]:=by
 obtain⟨p,hp,rfl⟩:=cO.1 h;intro e;have:p∈tl.filter λq=>decide (q.1=p.1):=kr.2 ⟨hp,by simp⟩
 rw[List.map_eq_nil_iff.1 e]at this;cases this
theorem Ld {tl:List (Fd×Nat)} {t:Fd} (h:t∉tl.map (·.1)):posOf tl t=[]:=by
 unfold posOf;rw[List.filter_eq_nil_iff.2 λp hp=>by simp;intro e;exact h (cO.2 ⟨p,hp,e⟩)];rfl
theorem Fv (x:Fd) (t:Fd):(posOf (gU x) t).Sublist ((List.range' 0 (words x.2).length).map fun(i:Nat)=>(i:Int)):=by
 have e:(gU x).map (λp=>(p.2:Int))=(List.range' 0 (words x.2).length).map fun(i:Nat)=>(i:Int):=by
  rw[<-List.zipIdx_map_snd 0 (words x.2),List.map_map];unfold gU;rw[List.map_map];rfl
 rw[<-e];exact List.filter_sublist.map _
theorem Lg (x:Fd) (t:Fd):(posOf (gU x) t).Pairwise (· < ·)/\∀i∈posOf (gU x) t,0<=i/\i<(words x.2).length:=by
 refine ⟨List.Pairwise.sublist (Fv x t) (eh.2 ((List.pairwise_lt_range' (s:=0) (n:=(words x.2).length)).imp λh=>by omega)),λi hi=> ?_⟩;have:=(Fv x t).subset hi;obtain⟨k,hk,rfl⟩:=cO.1 this;have:=List.mem_range'_1.1 hk;omega
theorem Cp {x:Fd} {p:Fd×Nat} (h:p∈gU x):p.1.1=x.1/\p.1.2∈words x.2:=by
 obtain⟨q,hq,rfl⟩:=cO.1 h;have:=List.mem_zipIdx hq;exact⟨rfl,by simp only;rw[this.2.2];exact List.getElem_mem _⟩
theorem Cq {fs:List Fd} {p:Fd×Nat} (h:p∈cQ fs):∃x∈fs,p.1.1=x.1/\p.1.2∈words x.2:=by
 obtain⟨x,hx,hp⟩:=List.mem_flatMap.1 h;exact⟨x,hx,Cp hp⟩
theorem tW {x t:Fd} (h:x.1≠t.1):posOf (gU x) t=[]:=Ld λhm=>by
 obtain⟨p,hp,rfl⟩:=cO.1 hm;exact h (Cp hp).1.symm
theorem xy {t:Fd}:∀{fs:List Fd},(∀x∈fs,x.1≠t.1)->posOf (cQ fs) t=[]
 |[],_=>rfl
 |x::fs,h=>by
  show posOf (gU x++cQ fs) t=[];rw[pV,tW (h x (bE ..)),xy λy hy=>h y (cn _ hy)];rfl
theorem Fw {t:Fd}:∀{fs:List Fd},(fs.map (·.1)).Nodup->posOf (cQ fs) t=[]\/∃x∈fs,posOf (cQ fs) t=posOf (gU x) t
 |[],_=> .inl rfl
 |x::fs,h=>by
  have h':=List.nodup_cons.1 h;have e:posOf (cQ (x::fs)) t=posOf (gU x) t++posOf (cQ fs) t:=by show posOf (gU x++cQ fs) t=_;rw[pV]
  by_cases hx:x.1=t.1
  ·refine .inr ⟨x,bE ..,?_⟩;rw[e,xy λy hy e=>h'.1 (by have h9:y.1∈fs.map (·.1):=gj hy;rw[e,<-hx]at h9;exact h9),bz]
  ·rw[e,tW hx,ix];rcases Fw (t:=t) h'.2 with h1|⟨y,hy,h1⟩
   ·exact .inl h1
   ·exact .inr ⟨y,cn _ hy,h1⟩
theorem Fx:∀{l:List Int} {last:Int},(∀x∈l,last<x)->l.Pairwise (· < ·)->gw last l=true
 |[],_,_,_=>rfl
 |x::l,last,h1,h2=>by
  have GX:=gC.1 h2;simp only[gw,cC,decide_eq_true_eq];exact⟨h1 x (bE ..),Fx GX.1 GX.2⟩
structure iT (d:Dc):Prop where
 names:∀f∈d.2,eK f.1=true
 once:(d.2.map (·.1)).Nodup
 toks:∀f∈d.2,ng 0 (words f.2)=0
 many:(cQ d.2).length<=500
 few:d.2.length<=8
theorem Cr:∀{fs sn:List Fd} {n:Nat},BG sn fs n=0->(∀f∈fs,eK f.1=true/\ng 0 (words f.2)=0/\∀g∈sn,g.1≠f.1)/\(fs.map (·.1)).Nodup/\n+(cQ fs).length<=500
 |[],sn,n,h=>by
  refine ⟨(λf hf=>by cases hf),List.nodup_nil,?_⟩;simp only[BG]at h
  split at h
  ·cases h
  ·simp[cQ];omega
 |f::fs,sn,n,h=>by
  simp only[BG]at h
  split at h
  ·cases h
  ·rename_i h1
   split at h
   ·cases h
   ·rename_i h2
    split at h
    ·exact absurd h VR
    ·rename_i h3
     obtain⟨h4,h5,h6⟩:=Cr h;have h7:∀g∈sn,g.1≠f.1:=λg hg e=>h2 (jP.2 ⟨g,hg,by simp[e]⟩)
     refine⟨λx hx=>?_,List.nodup_cons.2 ⟨λhm=>?_,h5⟩,?_⟩
     ·rcases dg.1 hx with rfl|hx
      ·exact⟨by simpa using h1,by simpa using h3,h7⟩
      ·obtain⟨a,b,c⟩:=h4 x hx;exact⟨a,b,λg hg=>c g (kB _ hg)⟩
     ·obtain⟨y,hy,e⟩:=cO.1 hm;exact(h4 y hy).2.2 f (List.mem_append_right _ (cV.2 G)) e.symm
     ·have:(cQ (f::fs)).length=(gU f).length+(cQ fs).length:=by show(gU f++cQ fs).length=_;rw[bT]
      rw[this,o5];omega
theorem JJ {d:Dc} (h:oX d=0):iT d:=by
 unfold oX at h
 split at h
 ·cases h
 ·obtain⟨h1,h2,h3⟩:=Cr h;exact⟨λf hf=>(h1 f hf).1,h2,λf hf=>(h1 f hf).2.1,by omega,by omega⟩
theorem Cs:∀{ws:List (List UInt8)} {i:Nat},ng i ws=0->∀x∈ws,x.length<=30
 |[],_,_,x,hx=>by cases hx
 |a::ws,i,h,x,hx=>by
  simp only[ng]at h
  split at h
  ·cases h
  ·split at h
   ·cases h
   ·rcases dg.1 hx with rfl|hx
    ·omega
    ·exact Cs h x hx
theorem OR {s:List UInt8} (h:eK s=true):(0:UInt8)∉s:=λh0=>by
 simp only[eK,cC,eI]at h;have:=h.2 0 h0
 revert this;decide
theorem iT.JK {d:Dc} (h:iT d):∀p∈cQ d.2,MB p.1:=λp hp=>by
 obtain⟨x,hx,h1,_⟩:=Cq hp;show(0:UInt8)∉p.1.1;rw[h1];exact OR (h.names x hx)
theorem iT.small {d:Dc} (h:iT d):∀p∈cQ d.2,p.1.1.length<=12/\p.1.2.length<=30:=λp hp=>by
 obtain⟨x,hx,h1,h2⟩:=Cq hp;exact⟨by rw[h1];exact E6 (h.names x hx),Cs (h.toks x hx) _ h2⟩
theorem iT.pos {d:Dc} (h:iT d) (t:Fd):(posOf (cQ d.2) t).Pairwise (· < ·)/\(∀i∈posOf (cQ d.2) t,0<=i/\i<500)/\(posOf (cQ d.2) t).length<=500:=by
 have hl:=xx (cQ d.2) t;have hm:=h.many;rcases Fw (t:=t) h.once with h1|⟨x,hx,h1⟩
 ·rw[h1];exact⟨List.Pairwise.nil,(λi hi=>by cases hi),by simp⟩
 ·obtain⟨h2,h3⟩:=Lg x t
  have yM:(words x.2).length<=500:=by
   have:(gU x).length<=(cQ d.2).length:=by
    obtain⟨i,hi⟩:=bQ.1 hx;have:=tV hi
    have h5:(cQ (d.2.take (i+1))).length<=(cQ d.2).length:=by
     have:cQ d.2=cQ (d.2.take (i+1))++cQ (d.2.drop (i+1)):=by unfold cQ;rw[<-List.flatMap_append,iG]
     rw[this,bT];omega
    rw[this,bT]at h5;omega
   rw[o5]at this;omega
  rw[h1]at hl ⊢;exact⟨h2,λi hi=>⟨(h3 i hi).1,by have:=(h3 i hi).2;omega⟩,by omega⟩
theorem iT.gw {d:Dc} (h:iT d) (t:Fd):pH (posOf (cQ d.2) t)=true:=by
 obtain⟨h1,h2,_⟩:=h.pos t;exact pI.2 ⟨Fx (λx hx=>by have:=(h2 x hx).1;omega) h1,λx hx=>by have:=(h2 x hx).2;omega⟩
abbrev ux (e:En):List (Fd×Nat):=cQ e.1.2
def Fy (i:Nat) (tl:List (Fd×Nat)) (k:List UInt8):List Po:=((dQ tl).filter λt=>decide (dv t=k)).map λt=>((i:Int),posOf tl t)
def Ct (k:List UInt8):Nat->List En->List Po
 |_,[]=>[]
 |i,e::L=>Fy i (ux e) k++Ct k (i+1) L
def pk (L:List En) (k:List UInt8):List Po:=Ct k 0 L
theorem Fz (k:List UInt8) (e:En):∀(L:List En) (i:Nat),Ct k i (L++[e])=Ct k i L++Fy (i+L.length) (ux e) k
 |[],i=>by simp[Ct]
 |x::L,i=>by
  simp only[wK,Ct,Fz k e L (i+1),List.append_assoc,cR];rw[show i+1+L.length=i+(L.length+1) by omega]
theorem Te (L:List En) (e:En) (k:List UInt8):pk (L++[e]) k=pk L k++Fy L.length (ux e) k:=by
 unfold pk;rw[Fz];simp
def j0 (L:List En):List (List UInt8):=L.flatMap λe=>(dQ (ux e)).map dv
theorem HU (L:List En) (e:En):j0 (L++[e])=j0 L++(dQ (ux e)).map dv:=by simp[j0]
def keysOf (L:List En):List (List UInt8):=allBy id (j0 L)
theorem pW (L:List En):HS (keysOf L):=(vv (key:=id) (S:=λ_=>True) (λa b _ _ h=>h) _ [] (λ_ _=>trivial) (λ_ _=>trivial) List.Pairwise.nil).1
theorem nk {L:List En} {k:List UInt8}:k∈keysOf L↔k∈j0 L:=by
 have:=(vv (key:=id) (S:=λ_=>True) (λa b _ _ h=>h) (j0 L) [] (λ_ _=>trivial) (λ_ _=>trivial) List.Pairwise.nil).2 k;simpa[keysOf,allBy]using this
theorem filter_one {α:Type} {key:α->List UInt8} {l:List α} (h:DI key l) (k:List UInt8):l.filter (λt=>decide (key t=k))=[]\/∃t∈l,key t=k/\l.filter (λt=>decide (key t=k))=[t]:=by
 have h1:DI key (l.filter λt=>decide (key t=k)):=List.Pairwise.sublist List.filter_sublist h;have h2:∀x∈l.filter (λt=>decide (key t=k)),x∈l/\key x=k:=λx hx=>by simpa using kr.1 hx
 revert h1 h2
 generalize l.filter (λt=>decide (key t=k))=m;intro h1 h2
 match m,h1,h2 with
 |[],_,_=>exact .inl rfl
 |[t],_,h2=>exact .inr ⟨t,(h2 t (bE ..)).1,(h2 t (bE ..)).2,rfl⟩
 |t::u::m,h1,h2=>
  have:=(gC.1 h1).1 u (bE ..);rw[(h2 t (bE ..)).2,(h2 u (by simp)).2]at this;exact absurd this (kQ k)
theorem yR {d:Dc} (h:iT d) (i:Nat) (k:List UInt8):Fy i (cQ d.2) k=[]\/∃t∈dQ (cQ d.2),dv t=k/\Fy i (cQ d.2) k=[((i:Int),posOf (cQ d.2) t)]:=by
 rcases filter_one (vB h.JK) k with h1|⟨t,ht,hk,h1⟩
 ·exact .inl (by unfold Fy;rw[h1];rfl)
 ·exact .inr ⟨t,ht,hk,by unfold Fy;rw[h1];rfl⟩
theorem OS {tl:List (Fd×Nat)} {i:Nat} {t:Fd} (h:t∈dQ tl):Fy i tl (dv t)≠[]:=λe=>by
 have:t∈(dQ tl).filter λu=>decide (dv u=dv t):=kr.2 ⟨h,by simp⟩
 rw[List.map_eq_nil_iff.1 e]at this;cases this
theorem yS (k:List UInt8):∀(L:List En) (i:Nat) (last:Int),(∀e∈L,iT e.1)->last<i->i+L.length<=2147483648->eJ last (Ct k i L)=true
 |[],_,_,_,_,_=>rfl
 |e::L,i,last,hF,h1,h2=>by
  have hf:=hF e (bE ..);have hr:=λlast h=>yS k L (i+1) last (λx hx=>hF x (cn _ hx)) h (by simp at h2;omega)
  simp only[Ct];rcases yR hf i k with h3|⟨t,ht,hk,h3⟩
  ·rw[show Fy i (ux e) k=[]from h3];exact hr last hV
  ·rw[show Fy i (ux e) k=_ from h3]
   have fB:(posOf (cQ e.1.2) t).isEmpty=false:=by
    have:=OQ ((jr hf.JK).1 ht)
    cases h:posOf (cQ e.1.2) t with
    |nil=>exact absurd h this
    |cons a b=>rfl
   simp only[wK,ix,eJ,fB,hf.gw t,hr i (by omega),mq,Bool.not_false,cC,decide_eq_true_eq];simp at h2;omega
theorem xz (k:List UInt8):∀(L:List En) (i:Nat),(∀e∈L,iT e.1)->(Ct k i L).length<=L.length/\∀p∈Ct k i L,(i:Int)<=p.1/\p.1<i+L.length/\p.2.length<=500
 |[],_,_=>⟨aK _,λp h=>by cases h⟩
 |e::L,i,hF=>by
  have hf:=hF e (bE ..);obtain⟨h1,h2⟩:=xz k L (i+1) (λx hx=>hF x (cn _ hx));simp only[Ct,cR];rcases yR hf i k with h3|⟨t,ht,hk,h3⟩
  ·rw[show Fy i (ux e) k=[]from h3];exact⟨by simpa using Nat.le_succ_of_le h1,λp hp=>by have:=h2 p (by simpa using hp);exact⟨by omega,by omega,this.2.2⟩⟩
  ·rw[show Fy i (ux e) k=_ from h3];refine ⟨by simp;omega,λp hp=> ?_⟩;rcases dg.1 hp with rfl|hp
   ·exact⟨oh _,by simp only;omega,(hf.pos t).2.2⟩
   ·have:=h2 p (by simpa using hp);exact⟨by omega,by omega,this.2.2⟩
theorem xA:∀(l:List Po) (last:Int) (m:Nat),-1<=last->eJ last l=true->(∀p∈l,p.2.length<=m)->m<=1000000->(eB last l).length<=(18+9*m)*l.length/\jI l<=m*l.length
 |[],_,_,_,_,_,_=>⟨by simp[eB],by simp[jI]⟩
 |(d,ps)::l,last,m,h0,hm,hs,hmm=>by
  simp only[eJ,cC,decide_eq_true_eq]at hm;obtain⟨⟨⟨⟨h1,h2⟩,h3⟩,h4⟩,h5⟩:=hm;obtain⟨h6,h7⟩:=pI.1 h4;have tu:=hs _ (bE ..);simp only at tu;obtain⟨i1,i2⟩:=xA l d m hV h5 (λp hp=>hs p (cn _ hp)) hmm;have a1:=zq ps (-1) hV (λx hx=>by have:=h7 x hx;omega) h6;have a3:=lI (n:=(d-last-1).toNat) hV;have a4:=lI (n:=ps.length) hV;have e1:9*ps.length<=9*m:=by omega
  constructor
  ·simp only[eB,eV,bT,cR,Nat.mul_add,Nat.mul_one];omega
  ·simp only[jI,fx,List.sum_cons,cR]at i2 ⊢;rw[Int.natCast_add,Int.mul_add];omega
theorem OT {k:List UInt8}:∀{L:List En} (i:Nat),k∈j0 L->Ct k i L≠[]
 |[],_,h=>by cases h
 |e::L,i,h=>by
  simp only[Ct];intro hn;obtain⟨h1,h2⟩:=List.append_eq_nil_iff.1 hn;have h:k∈(dQ (ux e)).map dv++j0 L:=h;rcases dH.1 h with h|h
  ·obtain⟨t,ht,rfl⟩:=cO.1 h;exact OS ht h1
  ·exact OT (i+1) h h2
theorem JL {k:List UInt8}:∀{L:List En} (i:Nat),k∉j0 L->Ct k i L=[]
 |[],_,_=>rfl
 |e::L,i,h=>by
  have h:k∉(dQ (ux e)).map dv++j0 L:=h;rw[dH,not_or]at h;simp only[Ct];rw[JL (i+1) h.2,bz];unfold Fy;rw[List.filter_eq_nil_iff.2 λt ht=>by simp;intro e';exact h.1 (cO.2 ⟨t,ht,e'⟩)];rfl
end Go.K
namespace Go.K
def RT.ptr {α:Type} (A:RT α) (hn:0<A.n:=by decide):RT α where
 n:=1
 agg:=false
 R:=λM w x vs=>∃b o us,vs=[.pointer (some ⟨b,o,none⟩)]/\¬M b/\A.R M w x us/\w.rangeAt b o us
 len:=by rintro _ _ x vs ⟨b,o,us,rfl,_⟩;rfl
 one:=by rintro _ _ x vs ⟨b,o,us,rfl,_⟩ v hv;simp at hv;subst hv;rfl
 le:=by
  rintro M w M' w' x vs hl ⟨b,o,us,h1,h2,h3,h4⟩;have hp:0<us.length:=by rw[A.len h3];exact hn
  have hc:=h4 0 (us[0]'hp) (aq hp);exact⟨b,o,us,h1,(hl b (World.block_lt_of_cell? w _ hc) h2).1,A.le hl h3,tp hl h2 h4⟩
theorem JM {α:Type} {A:RT α} {hn:0<A.n} {M:aP} {w:World} {x:α} {v:Value}:(A.ptr hn).V M w x v↔dp A M w v x:=
 ⟨fun⟨vs,⟨b,o,us,h1,h2,h3,h4⟩,h5⟩=>⟨b,o,us,by subst h1;exact h5,h2,h3,h4⟩,fun⟨b,o,us,h1,h2,h3,h4⟩=>⟨[v],⟨b,o,us,by rw[h1],h2,h3,h4⟩,rfl⟩⟩
abbrev Di:=List (List UInt8)×List Li
abbrev Se:=List Int×List Int×Di
abbrev RT.di:RT Di:=RT.pair (RT.str.sl) (((RT.li).ptr).sl)
abbrev RT.se:RT Se:=RT.pair ((RT.int .i64).sl) (RT.pair ((RT.int .i64).sl) ((RT.di).ptr))
theorem di0:Part RT.di (RT.str.sl) (λp=>p.1) 0:=kg _ _
theorem di1:Part RT.di (((RT.li).ptr).sl) (λp=>p.2) 1:=fj _ _
theorem se0:Part RT.se ((RT.int .i64).sl) (λp=>p.1) 0:=kg _ _
theorem se2:Part RT.se ((RT.di).ptr) (λp=>p.2.2) 2:=(fj ((RT.int .i64).sl) (RT.pair ((RT.int .i64).sl) ((RT.di).ptr))).trans (fj ((RT.int .i64).sl) ((RT.di).ptr))
abbrev Pa:=List Int×List Int×List (List UInt8)×List (List Po)
abbrev RT.pa:RT Pa:=RT.pair ((RT.int .i64).sl) (RT.pair ((RT.int .i64).sl) (RT.pair (RT.str.sl) (((RT.po).sl).sl)))
theorem pa0:Part RT.pa ((RT.int .i64).sl) (λp=>p.1) 0:=kg _ _
theorem pa1:Part RT.pa ((RT.int .i64).sl) (λp=>p.2.1) 1:=(fj ((RT.int .i64).sl) (RT.pair ((RT.int .i64).sl) (RT.pair (RT.str.sl) (((RT.po).sl).sl)))).trans (kg _ _)
theorem pa2:Part RT.pa (RT.str.sl) (λp=>p.2.2.1) 2:=((fj ((RT.int .i64).sl) (RT.pair ((RT.int .i64).sl) (RT.pair (RT.str.sl) (((RT.po).sl).sl)))).trans (fj ((RT.int .i64).sl) (RT.pair (RT.str.sl) (((RT.po).sl).sl)))).trans (kg _ _)
theorem pa3:Part RT.pa (((RT.po).sl).sl) (λp=>p.2.2.2) 3:=((fj ((RT.int .i64).sl) (RT.pair ((RT.int .i64).sl) (RT.pair (RT.str.sl) (((RT.po).sl).sl)))).trans (fj ((RT.int .i64).sl) (RT.pair (RT.str.sl) (((RT.po).sl).sl)))).trans (fj _ _)
theorem aiL {M:aP} {w:World} {x:Se} {a b c:Value} (h0:((RT.int .i64).sl).V M w x.1 a) (h1:((RT.int .i64).sl).V M w x.2.1 b) (h2:dp RT.di M w c x.2.2):RT.se.V M w x (.agg [a,b,c].toArray):=
 ⟨[a,b,c],⟨[a],[b,c],rfl,mT h0 rfl rfl,[b],[c],rfl,mT h1 rfl rfl,mT (JM.2 h2) rfl rfl⟩,rfl⟩
theorem aiM {M:aP} {w:World} {x:Pa} {a b c d:Value} (h0:((RT.int .i64).sl).V M w x.1 a) (h1:((RT.int .i64).sl).V M w x.2.1 b) (h2:(RT.str.sl).V M w x.2.2.1 c) (h3:(((RT.po).sl).sl).V M w x.2.2.2 d):RT.pa.V M w x (.agg [a,b,c,d].toArray):=
 ⟨[a,b,c,d],⟨[a],[b,c,d],rfl,mT h0 rfl rfl,[b],[c,d],rfl,mT h1 rfl rfl,[c],[d],rfl,mT h2 rfl rfl,mT h3 rfl rfl⟩,rfl⟩
theorem HV {α:Type} {A:RT α} (hg:A.agg=true) {M:aP} {w:World} {x:α} {vs:List Value} (h:A.V M w x (.agg vs.toArray)):∀u∈vs,u.oneCell'=true:=by
 obtain⟨us,h1,h2⟩:=h
 have:vs=us:=by
  unfold RT.val at h2;rw[if_pos hg]at h2;injection h2 with h2
  simpa using congrArg Array.toList h2
 subst this;exact A.one h1
theorem fX.free {α:Type} {A:RT α} (hA:∀M w M' w' x vs,A.R M w x vs->A.R M' w' x vs) {M M':aP} {w w':World}:∀{xs:List α} {C:List Value},fX A M w xs C->fX A M' w' xs C
 |[],_,h=>h
 |x::xs,C,h=>by
  obtain⟨vs,r,h1,h2,h3⟩:=h;exact⟨vs,r,h1,hA _ _ _ _ _ _ h2,fX.free hA h3⟩
theorem Own.tell {α:Type} {A:RT α} {hn:0<A.n} (hA:∀M w M' w' x vs,A.R M w x vs->A.R M' w' x vs) {e:TypeId} {M M0:aP} {w:World} {base:Nat} {v:Value} {xs:List α} (h:Own A e M w base v xs) (hb:∀b,v.ownBlock=some b->¬M0 b) (hlen:xs.length<=140737488355328):(A.sl hn).V M0 w xs v:=by
 obtain⟨⟨C,hr,ha⟩,hm⟩:=h;have h':Own A e (λb=>v.ownBlock=some b\/M0 b) w base v xs:=⟨⟨C,hr,fX.free hA ha⟩,λb hb=> .inl hb⟩;exact h'.sl (λb _ hn=>⟨λh=>hn (.inr h),rfl⟩) hb hlen
end Go.K
namespace Go.K
open Go.Maps (Keyed)
section
variable {P:Program} {r:Option Nat} {n:Nat} {L:Sl} {ds:List Deferred} {w:World} {K:Kt} {ops:Array Oper} {rest:List Oper} {d:Nat} {x y z:Operand} {ty:TypeId} {pos:String} {af:Array Edge}
variable {kt:TypeId} {M:aP} {b clock:Nat} {es:List MapEntry}
theorem gm.XF (h:gm P kt w b es clock) {i s:Nat} {key v0 val:Value} (hi:es[i]? =some ⟨key,v0,s⟩) {w':World} (hw:w'.heap[b]? =some (.map (es.set i ⟨key,val,s⟩).toArray clock)):
  gm P kt w' b (es.set i ⟨key,val,s⟩) clock/\(es.set i ⟨key,val,s⟩).map (·.key)=es.map (·.key)/\∀zv jM v',eO zv (es.set i ⟨key,val,s⟩) jM v'↔(jM=key/\v'=val)\/(jM≠key/\eO zv es jM v'):=by
 have qz:=(ak.1 hi).1;have lY:(⟨key,v0,s⟩:MapEntry)∈es:=ao hi;obtain⟨qm,xh⟩:∃qm,qm=es.set i ⟨key,val,s⟩:=⟨_,rfl⟩;rw[<-xh]at hw ⊢
 have jh:∀j e',qm[j]? =some e'→(j=i/\e'=⟨key,val,s⟩)\/(j≠i/\es[j]? =some e'):=λj e' hj=>by
  rw[xh,eY]at hj
  split at hj
  ·rename_i jS
   left;exact⟨jS.symm,by simpa[qz]using hj.symm⟩
  ·rename_i jS
   exact .inr ⟨λe=>jS e.symm,hj⟩
 have qn:qm.map (·.key)=es.map (·.key):=by
  rw[xh,List.map_set];apply jn;intro j;rw[eY]
  split
  ·rename_i jS
   subst jS;have e:=(ak.1 hi).2;simp[qz,e]
  ·rfl
 have ND:qm.map (·.born)=es.map (·.born):=by
  rw[xh,List.map_set];apply jn;intro j;rw[eY]
  split
  ·rename_i jS
   subst jS;have e:=(ak.1 hi).2;simp[qz,e]
  ·rfl
 have ig:∀e'∈qm,(e'=⟨key,val,s⟩)\/(e'∈es/\e'.key≠key):=λe' rz=>by
  obtain⟨j,hj⟩:=bQ.1 rz;rcases jh j e' hj with⟨_,e⟩|⟨fB,xX⟩
  ·exact .inl e
  ·refine .inr ⟨ao xX,λe=>fB ?_⟩;rcases fF j i with h1|h1|h1
   ·exact absurd e (iK h.keys xX hi h1)
   ·exact h1
   ·exact absurd e.symm (iK h.keys hi xX h1)
 have NF:(⟨key,val,s⟩:MapEntry)∈qm:=ao (i:=i) (by rw[xh,eY];simp[qz])
 have hold:∀e'∈es,e'.key≠key->e'∈qm:=λe' rz fB=>by
  obtain⟨j,hj⟩:=bQ.1 rz;refine ao (i:=j) ?_;rw[xh,eY,if_neg]
  ·exact hj
  ·rintro rfl;rw[hi]at hj;cases hj;exact fB G
 refine⟨⟨hw,?_,λe' rz=>?_,?_,λe' rz=>?_⟩,qn,λzv jM v'=>?_⟩
 ·have:=eh.2 h.born;rw[<-ND]at this;exact eh.1 this
 ·rcases ig e' rz with e|⟨h1,_⟩
  ·rw[e];exact(h.lt _ lY:s<clock)
  ·exact h.lt _ h1
 ·have:=eh.2 h.keys;rw[<-qn]at this;exact eh.1 this
 ·rcases ig e' rz with e|⟨h1,_⟩
  ·rw[e];exact(h.ok _ lY:∃l,keyOf P kt key=some l)
  ·exact h.ok _ h1
 ·constructor
  ·rintro(⟨e',rz,hk,hv⟩|⟨h1,h2⟩)
   ·rcases ig e' rz with e|⟨h3,h4⟩
    ·subst e;exact .inl ⟨hk.symm,hv⟩
    ·exact .inr ⟨by rw[<-hk];exact h4,.inl ⟨e',h3,hk,hv⟩⟩
   ·have fB:jM≠key:=λe=>h1 _ NF e.symm
    exact .inr ⟨fB,.inr ⟨λe' rz=>λe=>by
     by_cases h5:e'.key=key
     ·exact fB (e.symm.trans h5)
     ·exact h1 e' (hold e' rz h5) e,h2⟩⟩
  ·rintro(⟨rfl,rfl⟩|⟨fB,⟨e',rz,hk,hv⟩|⟨h1,h2⟩⟩)
   ·exact .inl ⟨_,NF,G,G⟩
   ·exact .inl ⟨e',hold e' rz (by rw[hk];exact fB),hk,hv⟩
   ·exact .inr ⟨λe' rz=>by
     rcases ig e' rz with e|⟨h3,_⟩
     ·rw[e];exact λe=>fB e.symm
     ·exact h1 e' h3,h2⟩
theorem eO.put {key val:Value} {s:Nat} (hn:∀e∈es,e.key≠key) (zv jM v':Value):eO zv (es++[⟨key,val,s⟩]) jM v'↔(jM=key/\v'=val)\/(jM≠key/\eO zv es jM v'):=by
 constructor
 ·rintro(⟨e,he,hk,hv⟩|⟨h1,h2⟩)
  ·rcases dH.1 he with he|he
   ·exact .inr ⟨by rw[<-hk];exact hn e he,.inl ⟨e,he,hk,hv⟩⟩
   ·obtain rfl:=cV.1 he;exact .inl ⟨hk.symm,hv⟩
  ·exact .inr ⟨λe=>h1 ⟨key,val,s⟩ (by simp) e.symm,.inr ⟨λe he=>h1 e (kB _ he),h2⟩⟩
 ·rintro(⟨rfl,rfl⟩|⟨fB,⟨e,he,hk,hv⟩|⟨h1,h2⟩⟩)
  ·exact .inl ⟨⟨_,_,s⟩,by simp,rfl,rfl⟩
  ·exact .inl ⟨e,kB _ he,hk,hv⟩
  ·refine .inr ⟨λe he=>?_,h2⟩;rcases dH.1 he with he|he
   ·exact h1 e he
   ·obtain rfl:=cV.1 he;exact λe=>fB e.symm
theorem Rg.Tf {t e:TypeId} {key val:Value} {kl:Lit} (ht:P.underlying t=some (.map kt e)) (Kk:Keyed P kt) (hx:ev L x=some (.map (some b))) (hy:ev L y=some key) (hz:ev L z=some val) (lX:keyOf P kt key=some kl) (h:gm P kt w b es clock) (hm:M b)
  (k:∀w' qm Hn,gm P kt w' b qm Hn->((qm.map (·.key)=es.map (·.key)/\∃e∈es,e.key=key)\/(qm.map (·.key)=es.map (·.key)++[key]/\∀e∈es,e.key≠key))->(∀zv jM v',eO zv qm jM v'↔(jM=key/\v'=val)\/(jM≠key/\eO zv es jM v'))->Step M w M w' (λk=>k=b)->Rg P r n ops rest L ds w' K):
  Rg P r n ops ({dst:=none,op:= .mapUpdate t x y z,type:=ty,pos,after:=af,guard:=none}::rest) L ds w K:=by
 have eU:=ah h.at_;rcases Kk.find w lX es h.ok with⟨h1,h2⟩|⟨j,e0,h1,h2,h3⟩
 ·have hw:({w with heap:=w.heap.setIfInBounds b (.map (es.toArray.push ⟨key,val,clock⟩) (clock+1))}:World).heap[b]? =some (.map (es++([⟨key,val,clock⟩]:List MapEntry)).toArray (clock+1)):=by
   simp[dG,eU]
  refine .VW a07 G G _ (λρ hρ=>?_) (k _ _ _ (h.push lX h2 hw) (Or.inr ⟨by simp,h2⟩) (eO.put h2) (iV M hm));simp only[execOp,hρ x _ hx,hρ y _ hy,hρ z _ hz,Instr.mapUpdate,cw,run_underlying ht,cM,dN h.at_,Kk.check w false lX,h1,run_setObj_map h.at_];simp
 ·have he:e0∈es:=ao h2;obtain⟨k0,v0,s0⟩:=e0;simp only at h3;subst h3;have hj:es.toArray[j]? =some ⟨k0,v0,s0⟩:=by simpa using h2
  have NC:es.toArray.modify j (λe=>{e with key:=k0,val:=val})=(es.set j ⟨k0,val,s0⟩).toArray:=by
   apply Array.ext_getElem?;intro i;rw[wG];simp only[mE,eY]
   split
   ·rename_i hji
    subst hji;have:=(ak.1 h2).1;rw[h2];simp[this]
   ·rfl
  have hw:({w with heap:=w.heap.setIfInBounds b (.map (es.set j ⟨k0,val,s0⟩).toArray clock)}:World).heap[b]? =some (.map (es.set j ⟨k0,val,s0⟩).toArray clock):=by simp[dG,eU]
  obtain⟨hW,fg,sz⟩:=h.XF h2 hw
  have lF:(Instr.keyThatStays ((Option.map (fun(e:MapEntry)=>e.key) es.toArray[j]?).getD k0) k0).run P w= .ok k0 w:=by
   rw[hj];simp only[fP,Option.getD_some];exact Kk.stays w lX
  refine .VW a07 G G _ (λρ hρ=>?_) (k _ _ clock hW (Or.inl ⟨fg,_,he,G⟩) sz (iV M hm));simp only[execOp,hρ x _ hx,hρ y _ hy,hρ z _ hz,Instr.mapUpdate,cw,run_underlying ht,cM,dN h.at_,Kk.check w false lX,h1,lF,NC,run_setObj_map h.at_];simp
theorem FA {t e:TypeId} {zv key:Value} {size bytes:Nat} {kl:Lit} (ht:P.underlying t=some (.map kt e)) (Kk:Keyed P kt) (hi:TI P e zv size bytes) (lX:keyOf P kt key=some kl) (h:gm P kt w b es clock):
  ∃v,eO zv es key v/\∀(w:World) (ρ:Operand->Value) (dst:Option Tmp) (gd:Option (Nat×Bool)),ρ x= .map (some b)->ρ y=key->gm P kt w b es clock->(execOp ρ {dst,op:= .lookup t x y false,type:=ty,pos,after:=af,guard:=gd}).run P w= .ok (.value v) w:=by
 rcases Kk.find w lX es h.ok with⟨h1,h2⟩|⟨j,e0,h1,h2,h3⟩
 ·refine ⟨zv,Or.inr ⟨h2,G⟩,λw ρ dst gd hx hy h=> ?_⟩;obtain⟨inf,i1,i2,_,_⟩:=hi.get;have hz:(zeroValue e).run P w= .ok zv w:=by simp[zeroValue,typeInfo,i1,i2]
  rcases Kk.find w lX es h.ok with⟨h1,_⟩|⟨j,e0,_,g2,g3⟩
  ·simp only[execOp,hx,hy,Instr.lookup,cw,run_underlying ht,cM,dN h.at_,nF,Kk.check w _ lX,h1,hz];simp
  ·exact absurd g3 (h2 e0 (ao g2))
 ·refine⟨e0.val,Or.inl ⟨e0,ao h2,h3,G⟩,λw ρ dst gd hx hy h=>?_⟩;rcases Kk.find w lX es h.ok with⟨_,g2⟩|⟨j',e1,g1,g2,g3⟩
  ·exact absurd h3 (g2 e0 (ao h2))
  ·have:e1=e0:=h.Jm (ao g2) (ao h2) (g3.trans h3.symm);subst this;simp only[execOp,hx,hy,Instr.lookup,cw,run_underlying ht,cM,dN h.at_,nF,Kk.check w _ lX,g1];simp
theorem db.uO {N:aP} {t e:TypeId} {zv key:Value} {size bytes:Nat} {kl:Lit} {dst:Option Tmp} {gd:Option (Nat×Bool)} (ht:P.underlying t=some (.map kt e)) (Kk:Keyed P kt) (hi:TI P e zv size bytes) (hx:ev L x=some (.map (some b))) (hy:ev L y=some key) (lX:keyOf P kt key=some kl) (h:gm P kt w b es clock) (hn: ¬N b):
  db P N w L {dst,op:= .lookup t x y false,type:=ty,pos,after:=af,guard:=gd}:=λρ hρ v w' hk hr=>by
 obtain⟨v0,_,jg⟩:=FA (x:=x) (y:=y) (ty:=ty) (pos:=pos) (af:=af) ht Kk hi lX h;have h':gm P kt w' b es clock:=⟨(hk.2 b (ah h.at_) hn).trans h.at_,h.born,h.lt,h.keys,h.ok⟩;rw[jg w ρ dst gd (hρ x _ hx) (hρ y _ hy) h]at hr;rw[jg w' ρ dst gd (hρ x _ hx) (hρ y _ hy) h'];injection hr with h1 h2
 rw[h1]
end
end Go.K
namespace Go.Proofs
open Go.Shelf
def Tryz.Cv:Go.Shelf.Ren:=⟨fun|7=>99|10=>152|n=>n,fun|23=>180|26=>9|3=>117|28=>193|0=>0|27=>192|33=>124|4=>4|n=>n,fun|n=>n⟩
theorem Tryz.JN:Go.Proofs.SlLaysZ.n7 Tryz.prog Tryz.Cv:={
 mixed:=by kernel_rfl
 f7:=⟨Tryz.f99.name,by decide,Tryz.func99.trans a03⟩
 f10:=⟨Tryz.f152.name,by decide,Tryz.func152.trans a03⟩
 t0:=Bt
 a0:=Tryz.isAgg0
 z0:=Tryz.sizeOf0
 v0:=Tryz.zeroValue0
 t4:=Bv
 a4:=Tryz.isAgg4
 z4:=Tryz.sizeOf4
 v4:=Tryz.zeroValue4
 t23:=iW
 a23:=Tryz.isAgg180
 z23:=Tryz.sizeOf180
 v23:=Tryz.zeroValue180
 t26:=aE
 a26:=Tryz.isAgg9
 z26:=Bu
 v26:=oF
 t27:=Tryz.underlying192
 a27:=Tryz.isAgg192
 z27:=Tryz.sizeOf192
 v27:=Tryz.zeroValue192
 t28:=Tryz.underlying193
 a28:=Tryz.isAgg193
 z28:=Tryz.sizeOf193
 v28:=Tryz.zeroValue193
 t33:=Tryz.underlying124
 a33:=Tryz.isAgg124
 z33:=Tryz.sizeOf124
 v33:=Tryz.zeroValue124}
def Tryz.yf:Go.Shelf.Ren:=⟨fun|6=>98|8=>150|9=>151|11=>190|13=>179|12=>191|23=>237|24=>238|14=>255|15=>256|16=>257|17=>258|18=>259|19=>260|20=>261|21=>262|22=>263|25=>295|26=>276|27=>277|28=>296|29=>297|30=>298|31=>315|n=>n,fun|26=>9|28=>193|24=>25|0=>0|3=>3|37=>262|48=>336|50=>205|4=>4|40=>330|39=>329|45=>198|5=>5|9=>9|51=>357|55=>361|57=>390|58=>276|33=>124|n=>n,fun|n=>n⟩
theorem Tryz.Tg:Go.Proofs.SlLaysZ.n6 Tryz.prog Tryz.yf:={
 mixed:=by kernel_rfl
 f6:=⟨Tryz.f98.name,by decide,Tryz.func98.trans a03⟩
 f8:=⟨Tryz.f150.name,by decide,Tryz.func150.trans a03⟩
 f11:=⟨Tryz.f190.name,by decide,Tryz.func190.trans a03⟩
 t0:=Bt
 a0:=Tryz.isAgg0
 z0:=Tryz.sizeOf0
 v0:=Tryz.zeroValue0
 t24:=aI
 a24:=Tryz.isAgg25
 z24:=Tryz.sizeOf25
 v24:=Tryz.zeroValue25
 t26:=aE
 a26:=Tryz.isAgg9
 z26:=Bu
 v26:=oF
 t28:=Tryz.underlying193
 a28:=Tryz.isAgg193
 z28:=Tryz.sizeOf193
 v28:=Tryz.zeroValue193
 i26:=by kernel_rfl}
def Tryz.Lh:Go.Shelf.Ren:=⟨fun|6=>151|8=>179|9=>191|19=>237|20=>238|21=>255|22=>256|23=>257|24=>258|25=>259|26=>260|27=>261|28=>262|29=>263|36=>295|31=>276|32=>277|37=>296|38=>297|39=>298|41=>315|n=>n,fun|27=>25|29=>9|3=>3|32=>262|26=>25|0=>0|44=>336|46=>205|4=>4|36=>330|35=>329|41=>198|5=>5|9=>9|53=>357|57=>361|63=>390|64=>276|n=>n,fun|n=>n⟩
theorem Tryz.U3:Go.Proofs.SlLaysM.n6 Tryz.prog Tryz.Lh:={
 mixed:=by kernel_rfl
 f6:=⟨Tryz.f151.name,by decide,Tryz.func151.trans a03⟩
 f8:=Tryz.func179.trans a03
 f9:=⟨Tryz.f191.name,by decide,Tryz.func191.trans a03⟩
 f19:=Tryz.func237.trans a03
 f20:=Tryz.func238.trans a03
 f21:=⟨Tryz.f255.name,by decide,Tryz.func255.trans a03⟩
 f22:=⟨Tryz.f256.name,by decide,Tryz.func256.trans a03⟩
 f23:=⟨Tryz.f257.name,by decide,Tryz.func257.trans a03⟩
 f24:=⟨Tryz.f258.name,by decide,Tryz.func258.trans a03⟩
 f25:=⟨Tryz.f259.name,by decide,Tryz.func259.trans a03⟩
 f26:=⟨Tryz.f260.name,by decide,Tryz.func260.trans a03⟩
 f27:=⟨Tryz.f261.name,by decide,Tryz.func261.trans a03⟩
 f28:=⟨Tryz.f262.name,by decide,Tryz.func262.trans a03⟩
 f29:=⟨Tryz.f263.name,by decide,Tryz.func263.trans a03⟩
 f31:=Tryz.func276.trans a03
 f32:=Tryz.func277.trans a03
 f36:=⟨Tryz.f295.name,by decide,Tryz.func295.trans a03⟩
 f37:=⟨Tryz.f296.name,by decide,Tryz.func296.trans a03⟩
 f38:=⟨Tryz.f297.name,by decide,Tryz.func297.trans a03⟩
 f39:=⟨Tryz.f298.name,by decide,Tryz.func298.trans a03⟩
 f41:=⟨Tryz.f315.name,by decide,Tryz.func315.trans a03⟩
 t0:=Bt
 a0:=Tryz.isAgg0
 z0:=Tryz.sizeOf0
 v0:=Tryz.zeroValue0
 t3:=al
 a3:=Tryz.isAgg3
 z3:=Tryz.sizeOf3
 v3:=Tryz.zeroValue3
 t4:=Bv
 a4:=Tryz.isAgg4
 z4:=Tryz.sizeOf4
 v4:=Tryz.zeroValue4
 t5:=dq
 a5:=Tryz.isAgg5
 z5:=Tryz.sizeOf5
 v5:=Tryz.zeroValue5
 t9:=aE
 a9:=Tryz.isAgg9
 z9:=Bu
 v9:=oF
 t26:=aI
 a26:=Tryz.isAgg25
 z26:=Tryz.sizeOf25
 v26:=Tryz.zeroValue25
 t27:=aI
 a27:=Tryz.isAgg25
 z27:=Tryz.sizeOf25
 v27:=Tryz.zeroValue25
 t29:=aE
 a29:=Tryz.isAgg9
 z29:=Bu
 v29:=oF
 t32:=Tryz.underlying262
 a32:=Tryz.isAgg262
 z32:=Tryz.sizeOf262
 v32:=Tryz.zeroValue262
 t35:=Tryz.underlying329
 a35:=Tryz.isAgg329
 z35:=Tryz.sizeOf329
 v35:=Tryz.zeroValue329
 t36:=Tryz.underlying330
 a36:=Tryz.isAgg330
 z36:=Tryz.sizeOf330
 v36:=Tryz.zeroValue330
 t41:=Tryz.underlying198
 a41:=Tryz.isAgg198
 z41:=Tryz.sizeOf198
 v41:=Tryz.zeroValue198
 t44:=Tryz.underlying336
 a44:=Tryz.isAgg336
 z44:=Tryz.sizeOf336
 v44:=Tryz.zeroValue336
 t46:=th
 a46:=Tryz.isAgg205
 z46:=Tryz.sizeOf205
 v46:=Tryz.zeroValue205
 t53:=Tryz.underlying357
 a53:=Tryz.isAgg357
 z53:=Tryz.sizeOf357
 v53:=Tryz.zeroValue357
 t57:=Tryz.underlying361
 a57:=Tryz.isAgg361
 z57:=Tryz.sizeOf361
 v57:=Tryz.zeroValue361
 t63:=Tryz.underlying390
 a63:=Tryz.isAgg390
 z63:=Tryz.sizeOf390
 v63:=Tryz.zeroValue390
 t64:=Tryz.underlying276
 a64:=Tryz.isAgg276
 z64:=Tryz.sizeOf276
 v64:=Tryz.zeroValue276}
end Go.Proofs
namespace Go.K
open Go.Proofs
set_option maxRecDepth 10000
open Go.RowKit Go.Maps Go.Sort Go.Shelf
theorem XG (m:Nat):AnyZ.SortsIn Tryz.prog Tryz.yf Fence.wide m:=
 ⟨λnJ off cap ss W hH hblk nE=>callsIn_wide.2 (AnyM.slices_Sort_string Tryz.U3 nJ off cap ss W hH hblk nE),
  λp cap W=>callsIn_wide.2 (AnyM.slices_Sort_string_none Tryz.U3 p cap W)⟩
theorem HW (mb:Option Nat) (w:World):Spec Tryz.prog 99 #[.map mb] w (λv w'=>v= .func (.func 152) #[] #[.pointer (some ⟨w.heap.size,0,none⟩)]/\w'=w.alloc (.cells #[.map mb] 180)):=
 (callsIn_wide (n:=5)).1 ((AnyZ.keys_in Tryz.JN Fence.wide 5 trivial rfl mb w).mono λe w' ⟨h1,h2⟩=>⟨_,h1,rfl,h2⟩)
theorem DJ {R:Value->Option (DU×List MemPlace)} {M:aP} {w:World} {b bb:Nat} {m:List (Lit×DU)} (h:aaT Tryz.prog 9 R M w b m) (NK:w.cell? ⟨bb,0,none⟩=some (.map (some b))) (hl:m.length<=1099511627776):
  Spec Tryz.prog 98 #[.func (.func 152) #[] #[.pointer (some ⟨bb,0,none⟩)]] w (λv w'=>(∃ss:List (List UInt8),ss.Perm (strKeys (DataW.map m))/\w'.ownsRow w.heap.size 9 1 v ss.length ((ss.mergeSort (λx y=>decide (x<=y))).map encStr)/\(v= .slice none 0 0↔ss=[]))/\Step M w M w' aH):=by
 have aiN:SeqGives Fence.wide 2 Tryz.prog 152 #[.pointer (some ⟨bb,0,none⟩)] encStr (λss=>ss.Perm (strKeys (DataW.map m))) (Maps.size (DataW.map m)) w:=
  AnyZ.keys_gives (ρ:=Tryz.Cv) {Tryz.JN with} Fence.wide _ trivial rfl hV bb b m.length (DataW.map m) _ (World.block_lt_of_cell? w _ NK) NK h.own
 have nE:Maps.size (DataW.map m)=m.length:=rfl;have cS:=AnyZ.sorted_in Tryz.Tg Fence.wide 5 trivial trivial trivial trivial rfl hV (XG _) (enters_of Tryz.func151 am2 rfl) 152 #[.pointer (some ⟨bb,0,none⟩)] trivial (enters_of Tryz.func152 am2 rfl) _ _ (by rw[nE];unfold maxLen;omega) (by rw[nE];omega) _ aiN;exact(callsIn_wide (n:=5)).1 (cS.mono λe w' ⟨v,ss,h1,h2,h3,h4,h5⟩=>⟨v,h1,⟨ss,h2,h3,h4⟩,.Dk h5 M⟩)
theorem BO {w w':World} {v:Value} {t:TypeId} (h:w'=w.alloc (.cells #[v] t)):w'.cell? ⟨w.heap.size,0,none⟩=some v:=by
 subst h;exact jR (dC w _) G
end Go.K
namespace Go.K
open Go.Proofs
set_option maxRecDepth 10000
theorem Th {M:aP} {w0:World} {v:Value} {b:List Fd} (hM:Lt M w0) (hv:(RT.fd.sl).V M w0 b v) (uv:b.length<=1099511627776):
  Spec Tryz.prog 189 #[v] w0 (λv' w'=>(RT.fd.sl).V M w' b v'∧Step M w0 M w' aH):=by
 obtain⟨a,cap,kS,hc,hl,hs⟩:=jE.1 hv;refine bD (args:=[_]) (fn:=Tryz.f189) Tryz.func189 G (n:=8) Tryz.ntmps189 (T.aU (Rg.a8 G G (aQ (T.aU (ab G G (aZ (v':= .slice a b.length cap) kS (Rg.uJ bP G G G (ad ?_))))))));refine bH G (λc1=>?_) (λc1=>?_)
 ·refine T.aU (Rg.a8 G G (aS ?_))
  have hb:b=[]:=by
   rcases hs with h|⟨_,_,h,_⟩
   ·exact h
   ·rw[c1]at h;cases h
  exact aT rfl rfl ⟨by rw[hb];exact ib,bg⟩
 ·refine aM (T.aU ?_);refine Rg.sl0 bP kY M G (λa0 w1 s1=>?_);refine ab G G ?_;refine Rg.oP (A:=RT.fd) (hn:=by decide) (M:=M) bP kY G G G G hv s1.le (s1.lt hM) hV (λu2 w2 ff s2=>?_);refine Rg.a8 G G (aS ?_);exact aT G G ⟨ff,s1.ar s2⟩
theorem Al {M:aP} {w0:World} {v:Value} {b:List Int} (hM:Lt M w0) (hv:((RT.int .i64).sl).V M w0 b v) (uv:b.length<=1099511627776):
  Spec Tryz.prog 100 #[v] w0 (λv' w'=>((RT.int .i64).sl).V M w' b v'∧Step M w0 M w' aH):=by
 obtain⟨a,cap,kS,hc,hl,hs⟩:=jE.1 hv;refine bD (args:=[_]) (fn:=Tryz.f100) Tryz.func100 G (n:=8) Tryz.ntmps100 (T.aU (Rg.a8 G G (aQ (T.aU (ab G G (aZ (v':= .slice a b.length cap) kS (Rg.uJ aC G G G (ad ?_))))))));refine bH G (λc1=>?_) (λc1=>?_)
 ·refine T.aU (Rg.a8 G G (aS ?_))
  have hb:b=[]:=by
   rcases hs with h|⟨_,_,h,_⟩
   ·exact h
   ·rw[c1]at h;cases h
  exact aT rfl rfl ⟨by rw[hb];exact ib,bg⟩
 ·refine aM (T.aU ?_);refine Rg.sl0 aC I3 M G (λa0 w1 s1=>?_);refine ab G G ?_;refine Rg.oP (A:=(RT.int .i64)) (hn:=by decide) (M:=M) aC I3 G G G G hv s1.le (s1.lt hM) hV (λu2 w2 ff s2=>?_);refine Rg.a8 G G (aS ?_);exact aT G G ⟨ff,s1.ar s2⟩
theorem OU {M:aP} {w0:World} {v:Value} {b:List (List UInt8)} (hM:Lt M w0) (hv:(RT.str.sl).V M w0 b v) (uv:b.length<=1099511627776):
  Spec Tryz.prog 198 #[v] w0 (λv' w'=>(RT.str.sl).V M w' b v'∧Step M w0 M w' aH):=by
 obtain⟨a,cap,kS,hc,hl,hs⟩:=jE.1 hv;refine bD (args:=[_]) (fn:=Tryz.f198) Tryz.func198 G (n:=8) Tryz.ntmps198 (T.aU (Rg.a8 G G (aQ (T.aU (ab G G (aZ (v':= .slice a b.length cap) kS (Rg.uJ aI G G G (ad ?_))))))));refine bH G (λc1=>?_) (λc1=>?_)
 ·refine T.aU (Rg.a8 G G (aS ?_))
  have hb:b=[]:=by
   rcases hs with h|⟨_,_,h,_⟩
   ·exact h
   ·rw[c1]at h;cases h
  exact aT rfl rfl ⟨by rw[hb];exact ib,bg⟩
 ·refine aM (T.aU ?_);refine Rg.sl0 aI I9 M G (λa0 w1 s1=>?_);refine ab G G ?_;refine Rg.oP (A:=RT.str) (hn:=by decide) (M:=M) aI I9 G G G G hv s1.le (s1.lt hM) hV (λu2 w2 ff s2=>?_);refine Rg.a8 G G (aS ?_);exact aT G G ⟨ff,s1.ar s2⟩
theorem Ti {M:aP} {w0:World} {v:Value} {b:List Li} (hM:Lt M w0) (hv:(((RT.li).ptr).sl).V M w0 b v) (uv:b.length<=1099511627776):
  Spec Tryz.prog 199 #[v] w0 (λv' w'=>(((RT.li).ptr).sl).V M w' b v'∧Step M w0 M w' aH):=by
 obtain⟨a,cap,kS,hc,hl,hs⟩:=jE.1 hv;refine bD (args:=[_]) (fn:=Tryz.f199) Tryz.func199 G (n:=8) Tryz.ntmps199 (T.aU (Rg.a8 G G (aQ (T.aU (ab G G (aZ (v':= .slice a b.length cap) kS (Rg.uJ fq G G G (ad ?_))))))));refine bH G (λc1=>?_) (λc1=>?_)
 ·refine T.aU (Rg.a8 G G (aS ?_))
  have hb:b=[]:=by
   rcases hs with h|⟨_,_,h,_⟩
   ·exact h
   ·rw[c1]at h;cases h
  exact aT rfl rfl ⟨by rw[hb];exact ib,bg⟩
 ·refine aM (T.aU ?_);refine Rg.sl0 fq tK M G (λa0 w1 s1=>?_);refine ab G G ?_;refine Rg.oP (A:=((RT.li).ptr)) (hn:=by decide) (M:=M) fq tK G G G G hv s1.le (s1.lt hM) hV (λu2 w2 ff s2=>?_);refine Rg.a8 G G (aS ?_);exact aT G G ⟨ff,s1.ar s2⟩
theorem FB {M:aP} {d:Dc} {v0:Value} (w0:World) (hM:Lt M w0) (hv:RT.dc.V M w0 d v0) (hl:d.2.length<=1099511627776):
  Spec Tryz.prog 148 #[v0] w0 (λv w=>RT.dc.V M w d v/\Step M w0 M w aH):=by
 have jq:=hM;refine bD (args:=[_]) (fn:=Tryz.f148) Tryz.func148 G (n:=9) Tryz.ntmps148 ?_;have S:Step M w0 M w0 aH:=bg;refine T.aU ?_;refine fO (A:=RT.dc) G G hM hv G (λu0 w1 dP s0 _=>?_);replace hM:=s0.lt hM;have:=S.size;replace S:=S.ar s0;refine eu M pN G (λgz tS HF HG cN iN=>?_);obtain⟨fi,gL⟩:∃M',M'=ins M gz:=⟨_,rfl⟩;rw[<-gL]at iN;have b9:fi gz:=by rw[gL];exact .inl G
 change tS.heap[gz]? =some (.cells #[.int .i64 0,.slice none 0 0] _ _)at cN;replace dP:=dP.le q0 iN.le;replace hM:=iN.lt hM;have:=S.size;replace S:=S.ar iN;refine ad (aQ ?_);apply T.rf 4 [0,1] 1 aH mixed rfl rfl rfl rfl;intro KU NX;have nc:=NX fi;have:=ah cN;replace b9:=(nc.mem _ this).2 b9;replace cN:=nc.aF cN;replace dP:=dP.le q0 nc.le;replace hM:=nc.lt hM;have:=S.size;replace S:=S.ar nc;refine aw (M:=fi) (A:=RT.dc) (B:=RT.int .i64) bJ G G I3 q0 (dc0) G G q0 VR (by repeat (first|exact bB _ _|refine aW (bC VR) ?_)) (λBH l2=>?_);refine Rg.dI ?_;refine bX (M:=fi) al G G VR (by repeat (first|exact bB _ _|refine aW (bC VR) ?_)) (λUU=>?_);refine Rg.dI ?_;refine aw (M:=fi) (A:=RT.dc) (B:=(RT.fd).sl) bJ G G xj q0 (KL) G G q0 VR (by repeat (first|exact bB _ _|refine aW (bC VR) ?_)) (λXH FC=>?_);refine Rg.dI ?_;refine bV (M:=fi) bP G G G G G VR (by repeat (first|exact bB _ _|refine aW (bC VR) ?_)) (λXI JO=>?_);refine Rg.dI (gV ?_);obtain⟨bb,oo,cs,ee,fr,rfl,oO,_⟩:=l2.float;refine ⟨kV ⟨kE bJ G I3 q0,⟨gX G oO (λh=>h),trivial⟩⟩,?_⟩;have kp:=nH aH KU;refine aV G G ahk (Th hM JO hl) (λv4 w4 hc=>?_);obtain⟨qS,s4⟩:=hc;have:=ah cN;replace b9:=(s4.mem _ this).2 b9;replace cN:=s4.aF cN;replace dP:=dP.le q0 s4.le;replace hM:=s4.lt hM;have:=S.size;replace S:=S.ar s4;refine(fun(kp:ga _ _ _)=>ad ⟨G,G,λ_=>kp,?_⟩) a02
 refine cx (places:=[(0,1),(1,1)]) bJ pN B72 rfl ⟨_,_,rfl,rfl,_,_,rfl,rfl,rfl⟩ (out:=[_,_]) ⟨0,[_],rfl,rfl,by simp[Value.cells],1,[_],rfl,ic qS,by simp[Value.cells],rfl⟩ (ad ⟨rfl,rfl,λh=>absurd rfl h,?_⟩);have hd:RT.dc.V fi w4 d (.agg [.int .i64 d.1,v4].toArray):=fM (iF UU) qS rfl rfl rfl rfl;refine dm (M:=fi) (vs:=[.int .i64 d.1,v4]) pN G G (HV G hd) G G cN b9 (λw6 g6 s6=>?_);have:=ah cN;replace b9:=(s6.mem _ this).2 b9;replace dP:=dP.le q0 s6.le;replace qS:=qS.le s6.le;replace hd:=hd.le s6.le;replace hM:=s6.lt hM;have:=S.size;replace S:=S.trans s6 (λk hk h=>by have h:_=_:=h;subst h;first|(exfalso;omega)|(show _<=_;omega)|exact⟨by first|omega|assumption,(S.mem _ hk).1 ((s6.mem _ (ah cN)).1 b9)⟩|exact .inl rfl|exact .inr rfl|exact .inr (.inl rfl)|exact .inr (.inr rfl)|exact .inr (.inr (.inl rfl))|exact rfl);have gq:=g6;clear cN;have cN:=gq;clear gq;refine ad ⟨G,G,λh=>absurd G h,tf (aS ?_)⟩;exact kO (vs:=[.int .i64 d.1,v4]) G G bJ G pN G cN ⟨hd.le (pz jq S),S.back⟩
theorem OV {M:aP} {e:En} {v0:Value} (w0:World) (hM:Lt M w0) (hv:RT.en.V M w0 e v0) (hl:e.1.2.length<=1099511627776):
  Spec Tryz.prog 96 #[v0] w0 (λv w=>RT.en.V M w e v/\Step M w0 M w aH):=by
 have jq:=hM;refine bD (args:=[_]) (fn:=Tryz.f96) Tryz.func96 G (n:=9) Tryz.ntmps96 ?_;have S:Step M w0 M w0 aH:=bg;refine T.aU ?_;refine fO (A:=RT.en) G G hM hv G (λu0 w1 dP s0 _=>?_);replace hM:=s0.lt hM;have:=S.size;replace S:=S.ar s0;refine eu M Jn G (λgz tS HF HG cN iN=>?_);obtain⟨fi,gL⟩:∃M',M'=ins M gz:=⟨_,rfl⟩;rw[<-gL]at iN;have b9:fi gz:=by rw[gL];exact .inl G
 change tS.heap[gz]? =some (.cells #[.int .i64 0,.slice none 0 0,.int .i64 0] _ _)at cN;replace dP:=dP.le q0 iN.le;replace hM:=iN.lt hM;have:=S.size;replace S:=S.ar iN;refine ad (aQ ?_);apply T.UB [0,1,3,4,2,5,6] 4 [2,3] 1 aH mixed
 ·simp+decide only[B7,wY,fx,Bs,Bo,Bp,wI,fP,qO,List.idxOf_cons,cond_true,cond_false,Nat.reduceBEq,Nat.reduceAdd,beq_self_eq_true];rfl
 ·rfl
 ·rfl
 ·rfl
 ·rfl
 ·rfl
 ·rfl
 intro KU NX;have nc:=NX fi;have:=ah cN;replace b9:=(nc.mem _ this).2 b9;replace cN:=nc.aF cN;replace dP:=dP.le q0 nc.le;replace hM:=nc.lt hM;have:=S.size;replace S:=S.ar nc;refine aw (A:=RT.en) (B:=RT.dc) ey G G pN q0 en0 G G q0 dP ck (λBH l2=>?_);refine Rg.dI ?_;refine cq (A:=RT.dc) bJ G pN q0 G G G l2 ck (λzY nh=>?_);refine Rg.dI ?_;refine aw (A:=RT.en) (B:=RT.int .i64) ey G G I3 q0 en1 G G q0 dP ck (λXH FC=>?_);refine Rg.dI ?_;refine bX (M:=fi) al G G VR (by repeat (first|exact bB _ _|refine aW (bC VR) ?_)) (λOW=>?_);refine aZ (v':= .int .i64 (e.2)) G ?_;replace OW: -9223372036854775808<=(e.2:Int)/\e.2<=9223372036854775807:=OW;refine Rg.dI (gV ?_);obtain⟨bb,oo,cs,ee,fr,rfl,oO,_⟩:=FC.float;refine ⟨kV ⟨kE ey G I3 q0,⟨gX G oO (λh=>h),trivial⟩⟩,?_⟩;have kp:=nH aH KU;refine aV G G ahb (FB _ hM nh hl) (λv4 w4 hc=>?_);obtain⟨qS,s4⟩:=hc;obtain⟨uf,rfl⟩:=NB qS;have:=ah cN;replace b9:=(s4.mem _ this).2 b9;replace cN:=s4.aF cN;replace dP:=dP.le q0 s4.le;replace hM:=s4.lt hM;have:=S.size;replace S:=S.ar s4;refine(fun(kp:ga _ _ _)=>ad ⟨G,G,λ_=>kp,?_⟩) a02;refine cx (places:=[(0,2),(2,1)]) ey Jn B74 rfl ⟨_,_,rfl,rfl,_,_,rfl,rfl,rfl⟩ (out:=[_,_,_]) ⟨0,[_,_],rfl,rfl,by simp[Value.cells],2,[_],rfl,rfl,by simp[Value.cells],rfl⟩ (ad ⟨rfl,rfl,λh=>absurd rfl h,?_⟩);have hd:RT.en.V fi w4 e (.agg [.int .i64 e.1.1,uf,.int .i64 e.2].toArray):=UJ (p:=e.1) qS OW
 refine dm (M:=fi) (vs:=[.int .i64 e.1.1,uf,.int .i64 e.2]) Jn G G (HV G hd) G G cN b9 (λw6 g6 s6=>?_);have:=ah cN;replace b9:=(s6.mem _ this).2 b9;replace dP:=dP.le q0 s6.le;replace qS:=qS.le s6.le;replace hd:=hd.le s6.le;replace hM:=s6.lt hM;have:=S.size;replace S:=S.trans s6 (λk hk h=>by have h:_=_:=h;subst h;first|(exfalso;omega)|(show _<=_;omega)|exact⟨by first|omega|assumption,(S.mem _ hk).1 ((s6.mem _ (ah cN)).1 b9)⟩|exact .inl rfl|exact .inr rfl|exact .inr (.inl rfl)|exact .inr (.inr rfl)|exact .inr (.inr (.inl rfl))|exact rfl);have gq:=g6;clear cN;have cN:=gq;clear gq;refine ad ⟨G,G,λh=>absurd G h,tf (aS ?_)⟩;exact kO (vs:=[.int .i64 e.1.1,uf,.int .i64 e.2]) G G ey G Jn G cN ⟨hd.le (pz jq S),S.back⟩
namespace TKBldB
theorem ab9:TI Tryz.prog 238 (.map none) 1 8:=by unfold TI;kernel_rfl
theorem aiO:Enters Tryz.prog 143:=enters Tryz.func143 rfl q0
theorem aiP:Enters Tryz.prog 144:=enters Tryz.func144 rfl q0
theorem aiQ:Enters Tryz.prog 145:=enters Tryz.func145 rfl q0
end TKBldB
open TKBldB
set_option maxRecDepth 10000
theorem IJ.br {bt mb B:Nat} {ts:List (Fd×Nat)} {M M':aP} {w w':World} (h:IJ bt mb B ts M w) (s:Step M w M' w' aH):IJ bt mb B ts M' w':=by
 obtain⟨gb,eC,fD,hB,JH,es,clock,hW,hI⟩:=h;exact⟨s.aF gb,(s.mem _ (ah gb)).2 eC,(s.mem _ (ah hW.at_)).2 fD,hB,JH,es,clock,hW.br s,hI.br s⟩
theorem OX {bt mb B:Nat}:Xt Tryz.prog 143 [.pointer (some ⟨bt,0,none⟩)] B (IJ bt mb B):=
 ⟨aiO,λts M w M' w' h s=>h.br s,λts M w t i hJ hM h1 h2 hi h4=>La w hM h1 h2 hi h4 hJ⟩
theorem OY (M:aP) (w:World) (B:Nat):K9 M w B [] [] where
 o t v hv:=by
  rcases hv with⟨e,he,_⟩|⟨_,rfl⟩
  ·cases he
  ·exact ep _ _ _ _ _
 a t t' v v' _ hv _:=by
  rcases hv with⟨e,he,_⟩|⟨_,rfl⟩
  ·cases he
  ·exact(k5.nil v').symm
 k:=rfl
theorem FD:∀(ts:List (Fd×Nat)) (l:List Fd),(ts.foldl (λl p=>if p.1∈l then l else l++[p.1]) l).length<=l.length+ts.length
 |[],l=>by simp
 |p::ts,l=>by
  rw[qP,cR];refine ch (FD ts _) ?_
  split
  ·omega
  ·rw[bT];simp;omega
theorem Tj (M:aP) (w:World) (M':aP) (w':World) (x:Fd) (vs:List Value) (h:RT.fd.R M w x vs):RT.fd.R M' w' x vs:=h
theorem FE {M:aP} {d:Dc} {v0:Value} (w0:World) (hM:Lt M w0) (hv:RT.dc.V M w0 d v0) (hF:iT d) (hl:∀f∈d.2,f.1.length<=900000/\f.2.length<=900000):
  Spec Tryz.prog 94 #[v0] w0 (λv w=>∃a b,v= .tuple #[a,b]/\(RT.fd.sl).V M w (dQ (cQ d.2)) a/\(((RT.int .i64).sl).sl).V M w ((dQ (cQ d.2)).map (posOf (cQ d.2))) b/\Step M w0 M w aH):=by
 have jq:=hM;have U4:=hF.many;refine bD (args:=[_]) (fn:=Tryz.f94) Tryz.func94 G (n:=31) Tryz.ntmps94 ?_;have S:Step M w0 M w0 aH:=bg;refine T.aU ?_;refine fO (A:=RT.dc) G G hM hv G (λu0 w1 dP s0 _=>?_);replace hM:=s0.lt hM;have:=S.size;replace S:=S.ar s0;refine aJ G G (Rg.a8 G G (T.aU ?_));refine Rg.zB M mF G (λmb w1m p1 q1 gW s1=>?_);obtain⟨XJ,OZ⟩:∃M',M'=ins M mb:=⟨_,rfl⟩;rw[<-OZ]at s1;have DK:XJ mb:=by rw[OZ];exact .inl G
 replace dP:=dP.le q0 s1.le;replace hM:=s1.lt hM;have:=S.size;replace S:=S.ar s1;refine eu XJ ab9 G (λLj Xv arW arX BJ yD=>?_);obtain⟨O0,O1⟩:∃M',M'=ins XJ Lj:=⟨_,rfl⟩;rw[<-O1]at yD;have Am:O0 Lj:=by rw[O1];exact .inl G
 change Xv.heap[Lj]? =some (.cells #[.map none] _ _)at BJ;replace dP:=dP.le q0 yD.le;replace DK:=(yD.mem _ (ah gW.at_)).2 DK;replace gW:=gW.br yD;replace hM:=yD.lt hM;have:=S.size;replace S:=S.ar yD;refine cA (M:=O0) ab9 G G BJ G (G) Am (λSU ja qF=>?_)
 try simp only[List.setIfInBounds_toArray,List.set_cons_zero,List.set_cons_succ]at ja
 have:=ah BJ;replace Am:=(qF.mem _ this).2 Am;replace dP:=dP.le q0 qF.le;replace DK:=(qF.mem _ (ah gW.at_)).2 DK;replace gW:=gW.step qF (by show¬(_=_);omega);replace hM:=qF.lt hM;have:=S.size;replace S:=S.trans qF (λk hk h=>by have h:_=_:=h;subst h;first|(exfalso;omega)|(show _<=_;omega)|exact⟨by first|omega|assumption,(S.mem _ hk).1 ((qF.mem _ (ah BJ)).1 Am)⟩|exact .inl rfl|exact .inr rfl|exact .inr (.inl rfl)|exact .inr (.inr rfl)|exact .inr (.inr (.inl rfl))|exact rfl);have U5:=ja;clear BJ;have BJ:=U5;clear U5;refine ad (T.aU ?_);refine cq (M:=O0) (A:=RT.dc) bJ G pN q0 G G G VR (by repeat (first|exact bB _ _|refine aW (bC VR) ?_)) (λarY aca=>?_);refine jQ (xs:=[]) (ys:=[.tmp 4]) G G G ?_;refine aV G G aa3 (Cn (cap:=[.pointer (some ⟨Lj,0,none⟩)]) (B:=w0.heap.size) _ hM aca hl hF.few (OX (mb:=mb)) ⟨BJ,Am,DK,by omega,by omega,[],0,gW,OY _ _ _⟩) (λr2 w2 hc=>?_);obtain⟨M2,Js,⟨gb,_,_,_,_,es,clock,hW,hI⟩,s2⟩:=hc;replace S:=S.mJ s2 (aK _);have qH:∀t v,eO lr es (kv t) v->(((RT.int .i64).sl)).V M w2 (posOf (cQ d.2) t) v:=λt v h=>(hI.o t v h).close jq S (by have:=xx (cQ d.2) t;omega)
 replace S:=S.back;replace hM:=S.lt jq
 have acb:∀e∈es,∃t∈seen (cQ d.2),e.key=kv t:=λe he=>by
  have:e.key∈(seen (cQ d.2)).map kv:=by rw[<-hI.k];exact gj he
  obtain⟨t,h1,h2⟩:=cO.1 this;exact⟨t,h1,h2.symm⟩
 have C2:∀t∈seen (cQ d.2),MB t/\t.1.length<=12/\t.2.length<=30:=λt ht=>by
  obtain⟨p,hp,rfl⟩:=cO.1 (vC.1 ht);exact⟨hF.JK p hp,hF.small p hp⟩
 have uu:(seen (cQ d.2)).length<=500:=ch (FD _ _) a06;have C1:es.length<=500:=by have:=congrArg List.length hI.k;simp at this;omega
 refine ad (T.aU (aR mF G G G gb G ?_));refine aV G G aiQ (HQ _) (λr3 w3 hc=>?_);obtain⟨bs,rfl,Xy,_,s3⟩:=hc;replace s3:=s3.toAny M;replace hW:=hW.br s3;replace gb:=s3.aF gb;replace qH:=λt v h=>(qH t v h).le s3.le
 replace hM:=s3.lt hM;have:=S.size;replace S:=S.ar s3
 refine aV G G aiP (Fq _ (λe he=>by
  obtain⟨t,h1,h2⟩:=acb e he;exact⟨t,h2,by have:=(C2 t h1).2;omega,by have:=(C2 t h1).2;omega⟩) (λe he t ht=>by
  obtain⟨t',h1,h2⟩:=acb e he;obtain rfl:=xv (ht.symm.trans h2);exact⟨(C2 _ h1).1,by have:=(C2 _ h1).2;omega,by have:=(C2 _ h1).2;omega⟩) hV (λts nN lY=>by
  have:=nN.length_le_of_subset (l₂:=seen (cQ d.2)) (λt ht=>(vu hI.k).1 (lY t ht));omega) Xy hW) (λr4 w4 hc=>?_)
 obtain⟨us,nN,lY,R1,hou,s4⟩:=hc;obtain rfl:=Fu hF.JK nN (λt=>(lY t).trans (vu hI.k)) R1;have hul:(dQ (cQ d.2)).length<=500:=ch (nN.length_le_of_subset (l₂:=seen (cQ d.2)) (λt ht=>vC.2 ((jr hF.JK).1 ht))) uu;replace s4:=s4.toAny M;have Ea:(RT.fd.sl).V M w4 (dQ (cQ d.2)) r4:=hou.tell Tj (λb hb h=>by have:=(hou.base b hb).1;have:=hM b h;omega) hV;clear hou;replace hW:=hW.br s4;replace gb:=s4.aF gb;replace qH:=λt v h=>(qH t v h).le s4.le
 replace hM:=s4.lt hM;have:=S.size;replace S:=S.ar s4;refine Rg.a8 G G (T.aU (Rg.a8 G G (aQ (T.aU (ab G G (bR kh G Ea G (ab G G ?_)))))));refine ad (bp ?_);refine dz (σ:=Nat×Value) (λq=>[(4,.pointer (some ⟨Lj,0,none⟩)),(5,r4),(6,q.2),(16,r4),(17,.int .i64 ((dQ (cQ d.2)).length:Int)),(18,.int .i64 (q.1:Int))]) (λq w=>∃M',Lt M' w/\Step M w0 M' w aH/\Own ((RT.int .i64).sl) 61 M' w w0.heap.size q.2 (((dQ (cQ d.2)).take q.1).map (posOf (cQ d.2)))/\(RT.fd.sl).V M' w (dQ (cQ d.2)) r4/\gm Tryz.prog 24 w mb es clock/\w.heap[Lj]? =some (.cells #[.map (some mb)] 238 (0,0))/\(∀t v,eO lr es (kv t) v->(((RT.int .i64).sl)).V M' w (posOf (cQ d.2) t) v)/\q.1<=(dQ (cQ d.2)).length) (λq=>(dQ (cQ d.2)).length-q.1) (0,.slice none 0 0) a04 ?_ ?_
 ·exact⟨M,hM,S,ep _ _ _ _ _,Ea,hW,gb,qH,bA _⟩
 ·clear hM Ea hW gb qH S;rintro⟨i,u⟩ w ⟨M1,hM,S,ho,Ea,hW,gb,qH,hi⟩;dsimp only at ho hi ⊢;refine T.aU (cH G G G (ad (aQ ?_)));refine bH G (λc6=>?_) (λc6=>?_)
  ·refine aM (aQ (bp (T.aU ?_)));refine cD kh nL G G G Ea ck hV (λabJ t hg7 JA=>?_);rw[av]at hg7;have R8:=ao hg7;have Nf:=C2 t (vC.2 ((jr hF.JK).1 R8));refine cq (A:=RT.fd) bS G nL q0 G G G JA ck (λaif UR=>?_);refine nI (A:=RT.fd) (M:=M1) nL G G G G G VR ck hM (λaiS arZ Cw HX ar0=>?_);replace Ea:=Ea.le HX.le;replace ho:=ho.br HX;replace hW:=hW.br HX;replace gb:=HX.aF gb;replace qH:=λt v h=>(qH t v h).le HX.le
   replace hM:=HX.lt hM;have:=S.size;replace S:=S.ar HX;refine ad (ay (ab G G (aR mF G G G gb G ?_)));refine cq (A:=RT.fd) bS G nL q0 G G G Cw ck (λar1 acd=>?_);obtain rfl:=ll acd;obtain⟨kl,G1⟩:=OE t hV hV;refine Rg.uO mF Cm qB G G G G1 hW (λv8 kS=>?_);have Eh:=qH _ _ kS;clear kS;refine dT (A:=((RT.int .i64).sl)) (hn:=by decide) (M:=M1) gJ qB q0 G G hM (Eh) (.inr ⟨G,G⟩) (λar2 ar3 O2 FF=>?_);replace Ea:=Ea.le FF.le;replace Cw:=Cw.le q0 FF.le;replace ho:=ho.br FF;replace hW:=hW.br FF;replace gb:=FF.aF gb;replace qH:=λt v h=>(qH t v h).le FF.le
   replace hM:=FF.lt hM;have:=S.size;replace S:=S.ar FF;refine cI (M:=M1) (base:=w0.heap.size) gJ qB rfl rfl rfl rfl ho O2 ck a06 a06 (S.size) (λaiT aiU ar4 ace FG=>?_);replace Ea:=Ea.le FG.le;replace Cw:=Cw.le q0 FG.le;replace O2:=O2.le FG.le;replace hW:=hW.step FG (λh=>ho.lu hW.at_ h);replace gb:=FG.bY gb (λh=>ho.fN gb q0 h);replace qH:=λt v h=>(qH t v h).le FG.le
   replace hM:=FG.lt hM;have:=S.size;replace S:=S.cf FG ho (aK _);replace ho:=ace;refine Rg.a8 G G (ay (aX G G G hV (ab G G (ad ?_))));refine⟨G,(i+1,aiT),a04,?_,?_⟩
   ·exact⟨aiU,hM,S,by rw[cj,hg7,dS,eH];exact ho,Ea,hW,gb,qH,by dsimp only;omega⟩
   ·dsimp only;omega
  ·refine de (T.aU (ab G G (ab G G (aJ G G (Rg.a8 G G (aS ?_))))));have e:(dQ (cQ d.2)).take i=dQ (cQ d.2):=bM hV;rw[e]at ho;exact fk rfl rfl rfl ⟨_,_,rfl,Ea.le (pz jq S),ho.close jq S a06,S.back⟩
end Go.K
namespace Go.K
def O3 {α:Type} (A:RT α) (M:aP) (w:World) (v:Value) (x:α):Prop:=∃b o vs,v= .pointer (some ⟨b,o,none⟩)/\A.R M w x vs/\w.rangeAt b o vs
theorem Own.elem {α:Type} {A:RT α} {e:TypeId} {M:aP} {w:World} {base:Nat} {v:Value} {xs:List α} (h:Own A e M w base v xs) (hA:0<A.n) {i:Nat} {x:α} (hx:xs[i]? =some x):
  ∃g cap vs,v= .slice (some ⟨g,0,none⟩) xs.length cap/\M g/\A.R M w x vs/\w.rangeAt g (i*A.n) vs:=by
 obtain⟨⟨C,hr,ha⟩,hm⟩:=h;rcases hr.2 with⟨h1,h2⟩|⟨g,cap,cur,h1,h2,h3,h4,h5,h6,h7⟩
 ·have:xs=[]:=List.eq_nil_of_length_eq_zero h2;subst this;simp at hx
 ·obtain⟨vs,hv,hj⟩:=ha.at_ i x hx;refine ⟨g,cap,vs,h1,hm g (by rw[h1];rfl),hv,λj u hu=> ?_⟩;have h8:=hj j u hu;rw[<-h7,dR]at h8
  split at h8
  ·simp only[World.cell?,h3];simpa using h8
  ·cases h8
section
variable {P:Program} {r:Option Nat} {n:Nat} {L:Sl} {ds:List Deferred} {w:World} {K:Kt} {ops:Array Oper} {rest:List Oper} {d:Nat} {x y:Operand} {ty:TypeId} {pos:String} {af:Array Edge} {α:Type} {A:RT α}
theorem Rg.acf {t e e':TypeId} {i:Operand} {κ:IntKind} {j:Int} {M:aP} {base:Nat} {xs:List α} {v zv:Value} {bytes:Nat} (ht:P.underlying t=some (.slice e)) (hi:TI P e zv A.n bytes) (hA:0<A.n)
  (hx:ev L x=some v) (G7:ev L i=some (.int κ j)) (hd:Nat.blt d n=true) (ho:Own A e' M w base v xs) (hj:0<=j/\j<xs.length)
  (k:∀u a,xs[j.toNat]? =some a->O3 A M w u a->Rg P r n ops rest ((d,u)::L) ds w K):
  Rg P r n ops ({dst:=some d,op:= .indexAddr t x i,type:=ty,pos,after:=af,guard:=none}::rest) L ds w K:=by
 have eU:j.toNat<xs.length:=by omega
 obtain⟨g,cap,vs,rfl,hm,h1,h2⟩:=ho.elem hA (aq eU);refine .op a07 G G hd (.pointer (some ⟨g,0+j.toNat*A.n,none⟩)) w (λρ h=>?_) (k _ xs[j.toNat] (aq eU) ⟨g,_,vs,rfl,h1,by rw[oH];exact h2⟩);simp only[execOp,h x _ hx,h i _ G7];simp[Instr.indexAt,run_underlying ht,asIntOf,hj,hi.sizeOf,Addr.add_mid]
theorem Rg.acg {t:TypeId} {u:TypeDesc} {M:aP} {p:Value} {a:α} (hu:P.underlying t=some u) (hf:flat u=true) (hA:A.n=1) (hg:A.agg=false)
  (hx:ev L x=some p) (hd:Nat.blt d n=true) (hp:O3 A M w p a) (k:∀v,A.V M w a v->Rg P r n ops rest ((d,v)::L) ds w K):
  Rg P r n ops ({dst:=some d,op:= .load t x,type:=ty,pos,after:=af,guard:=none}::rest) L ds w K:=by
 obtain⟨b,o,vs,rfl,h1,h2⟩:=hp;have hl:=A.len h1
 match vs,hl with
 |[v],_=>
  refine .op a07 G G hd v w (λρ h=>?_) (k v ⟨[v],h1,by simp[RT.val,hg]⟩);simp only[execOp,h x _ hx];have:=pA (P:=P) hu hf (h2 0 v rfl);simp only[Nat.add_zero]at this;rw[cw,this];simp
 |[],hl=>simp at hl;omega
 |_::_::_,hl=>simp at hl;omega
theorem Rg.O4 {t:TypeId} {fs:TypeDesc} {zv:Value} {bytes:Nat} {M:aP} {p:Value} {a:α} (hu:P.underlying t=some fs) (hf:fs.isRow=true) (hi:TI P t zv A.n bytes) (hg:A.agg=true)
  (hx:ev L x=some p) (hd:Nat.blt d n=true) (hp:O3 A M w p a) (k:∀v,A.V M w a v->Rg P r n ops rest ((d,v)::L) ds w K):
  Rg P r n ops ({dst:=some d,op:= .load t x,type:=ty,pos,after:=af,guard:=none}::rest) L ds w K:=by
 obtain⟨b,o,vs,rfl,h1,h2⟩:=hp;refine .op a07 G G hd (.agg vs.toArray) w (λρ h=>?_) (k _ ⟨vs,h1,by simp[RT.val,hg]⟩);simp only[execOp,h x _ hx];obtain⟨i,qQ,_,mu,_⟩:=hi.get;have:=run_loadAt_mid (P:=P) w b o t vs fs h2 hu hf (by simp[qQ,mu,A.len h1]);simp[this]
end
open Go.Proofs
namespace TKBldC
theorem aiV:TI Tryz.prog 182 (.agg #[(.slice none 0 0),(.map none),(.int .i64 0),(.int .i64 0)]) 4 48:=by unfold TI;kernel_rfl
theorem aiW:placesOf Tryz.prog 182=[(0,1),(1,1),(2,1),(3,1)].map some:=by kernel_rfl
end TKBldC
open TKBldC
set_option maxRecDepth 10000
open Go.Maps (Keyed)
theorem vD:Keyed Tryz.prog 9:=Go.Maps.string_keyed aE
theorem O5 (k:List UInt8) (h:k.length<=140737488355328):∃l,keyOf Tryz.prog 9 (sv k)=some l:=by
 have e1:(⟨k.toArray⟩:ByteArray).size=k.length:=by simp[ByteArray.size]
 exact⟨_,Go.WideMaps.keyOf_string_mk aE (by rw[e1];unfold maxLen;omega)⟩
structure FH (Z:aP) (M:aP) (w:World) (B:Nat) (f:List UInt8->List Po) (K:List UInt8->Prop) (es:List MapEntry):Prop where
 o:∀k v,eO lr es (sv k) v->Own RT.po 188 M w B v (f k)
 a:∀k k' v v',k≠k'→eO lr es (sv k) v->eO lr es (sv k') v'→k5 v v'
 k:∀x,(∃e∈es,e.key=sv x)↔K x
 z:∀k v c,eO lr es (sv k) v->v.ownBlock=some c->Z c
theorem FH.step {Z M M' N:aP} {w w':World} {B:Nat} {f:List UInt8->List Po} {K:List UInt8->Prop} {es:List MapEntry} (h:FH Z M w B f K es) (s:Step M w M' w' N) (hn:∀k v b,eO lr es (sv k) v->v.ownBlock=some b->¬N b):FH Z M' w' B f K es:=
 ⟨λk v hv=>(h.o k v hv).step s λb hb=>hn k v b hv hb,h.a,h.k,h.z⟩
theorem FH.br {Z M M':aP} {w w':World} {B:Nat} {f:List UInt8->List Po} {K:List UInt8->Prop} {es:List MapEntry} (h:FH Z M w B f K es) (s:Step M w M' w' aH):FH Z M' w' B f K es:=h.step s λ_ _ _ _ _ h=>h
theorem FH.congr {Z M:aP} {w:World} {B:Nat} {f f':List UInt8->List Po} {K K':List UInt8->Prop} {es:List MapEntry} (h:FH Z M w B f K es) (hf:∀k,f' k=f k) (hK:∀k,K' k↔K k):FH Z M w B f' K' es:=
 ⟨λk v hv=>by rw[hf];exact h.o k v hv,h.a,λx=>(h.k x).trans (hK x).symm,h.z⟩
theorem FH.Lk {Z Z' M:aP} {w:World} {B:Nat} {f:List UInt8->List Po} {K:List UInt8->Prop} {es:List MapEntry} (h:FH Z M w B f K es) (hz:∀c,Z c->c<w.heap.size->Z' c):FH Z' M w B f K es:=
 ⟨h.o,h.a,h.k,λk v c hv hc=>hz c (h.z k v c hv hc) ((h.o k v hv).base c hc).2⟩
theorem FH.put {Z M M2:aP} {w w1 w2:World} {B mb c:Nat} {mes:Array MapEntry} {f:List UInt8->List Po} {K:List UInt8->Prop} {es XK:List MapEntry} {k0:List UInt8} {v0 v1:Value} {ps:List Po} (h:FH Z M w B f K es) (hZ:∀c,w.heap.size<=c->Z c) (sk:eO lr es (sv k0) v0)
  (ho1:Own RT.po 188 (mI M v1) w1 B v1 (f k0++ps)) (s1:Step M w (mI M v1) w1 (nJ v0)) (hF:∀b,v1.ownBlock=some b->w.heap.size<=b\/v0.ownBlock=some b) (hmb:w1.heap[mb]? =some (.map mes c)) (s2:Step (mI M v1) w1 M2 w2 (λk=>k=mb))
  (Lb:∀zv jM v',eO zv XK jM v'↔(jM=sv k0/\v'=v1)\/(jM≠sv k0/\eO zv es jM v')) (qn:(XK.map (·.key)=es.map (·.key)/\∃e∈es,e.key=sv k0)\/(XK.map (·.key)=es.map (·.key)++[sv k0]/\∀e∈es,e.key≠sv k0)):
  FH Z M2 w2 B (λk=>if k=k0 then f k0++ps else f k) (λx=>K x\/x=k0) XK:=by
 have ta:∀k v,eO lr XK (sv k) v->(k=k0/\v=v1)\/(k≠k0/\eO lr es (sv k) v):=λk v hv=>by
  rcases(Lb lr (sv k) v).1 hv with⟨h3,h4⟩|⟨h3,h4⟩
  ·exact .inl ⟨DH h3,h4⟩
  ·exact .inr ⟨λe=>h3 (by rw[e]),h4⟩
 have Tc:∀k v,k≠k0->eO lr es (sv k) v->k5 v1 v:=λk v fB hv=>(h.a k k0 v v0 fB hv sk).symm.grown hF (λb hb=>((h.o k v hv).base b hb).2)
 have Td:∀k v,k≠k0->eO lr es (sv k) v->Own RT.po 188 (mI M v1) w1 B v (f k):=λk v fB hv=>(h.o k v hv).step s1 (λb hb hk=>h.a k k0 v v0 fB hv sk b hb hk)
 have hnm:∀{v:Value} {xs:List Po},Own RT.po 188 (mI M v1) w1 B v xs->∀b,v.ownBlock=some b->¬b=mb:=λho b hb e=>ho.lu hmb (by rw[<-e];exact hb)
 refine⟨λk v hv=>?_,λk k' v v' fB hv sM=>?_,λx=>?_,λk v c hv hc=>?_⟩
 ·rcases ta k v hv with⟨rfl,rfl⟩|⟨h3,h4⟩
  ·rw[if_pos rfl];exact ho1.step s2 (hnm ho1)
  ·rw[if_neg h3];exact(Td k v h3 h4).step s2 (hnm (Td k v h3 h4))
 ·rcases ta k v hv with⟨rfl,rfl⟩|⟨h3,h4⟩
  ·rcases ta k' v' sM with⟨rfl,_⟩|⟨h5,h6⟩
   ·exact absurd G fB
   ·exact Tc k' v' h5 h6
  ·rcases ta k' v' sM with⟨rfl,rfl⟩|⟨h5,h6⟩
   ·exact(Tc k v h3 h4).symm
   ·exact h.a k k' v v' fB h4 h6
 ·have lY:(∃e∈XK,e.key=sv x)↔sv x∈XK.map (·.key):=by simp
  have aiX:(∃e∈es,e.key=sv x)↔sv x∈es.map (·.key):=by simp
  rw[lY,<-h.k x,aiX];rcases qn with⟨h3,e,he,hk⟩|⟨h3,_⟩
  ·rw[h3];constructor
   ·exact .inl
   ·rintro(h4|rfl)
    ·exact h4
    ·rw[<-hk];exact gj he
  ·rw[h3,dH,cV];constructor
   ·rintro(h4|h4)
    ·exact .inl h4
    ·exact .inr (DH h4)
   ·rintro(h4|rfl)
    ·exact .inl h4
    ·exact .inr G
 ·rcases ta k v hv with⟨rfl,rfl⟩|⟨h3,h4⟩
  ·rcases hF c hc with h5|h5
   ·exact hZ c h5
   ·exact h.z _ _ c sk h5
  ·exact h.z k v c h4 hc
theorem Tk (Z M:aP) (w:World) (B:Nat):FH Z M w B (pk []) (λx=>x∈j0 []) [] where
 o k v hv:=by
  rcases hv with⟨e,he,_⟩|⟨_,rfl⟩
  ·cases he
  ·exact ep _ _ _ _ _
 a k k' v v' _ hv _:=by
  rcases hv with⟨e,he,_⟩|⟨_,rfl⟩
  ·cases he
  ·exact(k5.nil v').symm
 k x:=by simp[j0]
 z k v c hv hc:=by
  rcases hv with⟨e,he,_⟩|⟨_,rfl⟩
  ·cases he
  ·cases hc
structure Buf (Z M:aP) (w:World) (B b mb:Nat) (vl:Value) (L:List En) (words last:Int) (f:List UInt8->List Po) (K:List UInt8->Prop) (es:List MapEntry) (clock:Nat):Prop where
 at_:w.heap[b]? =some (.cells #[vl,.map (some mb),.int .i64 words,.int .i64 last] 182 (0,0))
 m:M b
 mm:M mb
 hb:Z b
 hmb:Z mb
 l:Own RT.en 74 M w B vl L
 map:gm Tryz.prog 9 w mb es clock
 rows:FH Z M w B f K es
 zl:∀c,vl.ownBlock=some c->Z c
def o8 (Z M:aP) (w:World) (B b:Nat) (L:List En) (words last:Int):Prop:=∃mb vl es clock,Buf Z M w B b mb vl L words last (pk L) (λx=>x∈j0 L) es clock
theorem o8.br {Z M M':aP} {w w':World} {B b:Nat} {L:List En} {words last:Int} (h:o8 Z M w B b L words last) (s:Step M w M' w' aH):o8 Z M' w' B b L words last:=by
 obtain⟨mb,vl,es,clock,h1,h2,h3,h4,h5,h6,h7,h8,h9⟩:=h;exact⟨mb,vl,es,clock,s.aF h1,(s.mem _ (ah h1)).2 h2,(s.mem _ (ah h7.at_)).2 h3,h4,h5,h6.br s,h7.br s,h8.br s,h9⟩
theorem o8.Lk {Z Z' M:aP} {w:World} {B b:Nat} {L:List En} {words last:Int} (h:o8 Z M w B b L words last) (hz:∀c,Z c->c<w.heap.size->Z' c):o8 Z' M w B b L words last:=by
 obtain⟨mb,vl,es,clock,h1,h2,h3,h4,h5,h6,h7,h8,h9⟩:=h;exact⟨mb,vl,es,clock,h1,h2,h3,hz _ h4 (ah h1),hz _ h5 (ah h7.at_),h6,h7,h8.Lk hz,λc hc=>hz c (h9 c hc) (h6.base c hc).2⟩
theorem o8.step {Z M M' N:aP} {w w':World} {B b:Nat} {L:List En} {words last:Int} (h:o8 Z M w B b L words last) (s:Step M w M' w' N) (hn:∀k,N k->¬Z k):o8 Z M' w' B b L words last:=by
 obtain⟨mb,vl,es,clock,h1,h2,h3,h4,h5,h6,h7,h8,h9⟩:=h;exact⟨mb,vl,es,clock,s.bY h1 (λhk=>hn _ hk h4),(s.mem _ (ah h1)).2 h2,(s.mem _ (ah h7.at_)).2 h3,h4,h5,h6.step s (λc hc hk=>hn _ hk (h9 c hc)),h7.step s (λhk=>hn _ hk h5),h8.step s (λk v c hv hc hk=>hn _ hk (h8.z k v c hv hc)),h9⟩
theorem o8.stepT {Z M M' N:aP} {w w':World} {B b:Nat} {L:List En} {words last:Int} (h:o8 Z M w B b L words last) (s:Step M w M' w' N) (hn:∀k,N k->∃cs t,w.heap[k]? =some (.cells cs t (0,0))/\t≠182/\t≠74/\t≠188):o8 Z M' w' B b L words last:=by
 obtain⟨mb,vl,es,clock,h1,h2,h3,h4,h5,h6,h7,h8,hz⟩:=h;refine⟨mb,vl,es,clock,s.bY h1 (λhk=>?_),(s.mem _ (ah h1)).2 h2,(s.mem _ (ah h7.at_)).2 h3,h4,h5,h6.step s (λc hc hk=>?_),h7.step s (λhk=>?_),h8.step s (λk v c hv hc hk=>?_),hz⟩
 ·obtain⟨cs,t,h9,Ll,_⟩:=hn _ hk;rw[h1]at h9;simp at h9;exact Ll h9.2.symm
 ·obtain⟨cs,t,h9,_,Ll,_⟩:=hn _ hk;exact h6.fN h9 Ll hc
 ·obtain⟨cs,t,h9,_⟩:=hn _ hk;rw[h7.at_]at h9;cases h9
 ·obtain⟨cs,t,h9,_,_,Ll⟩:=hn _ hk;exact(h8.o k v hv).fN h9 Ll hc
def O6 (M Z:aP):aP:=λk=>Z k/\M k
theorem eO.ex (zv:Value) (es:List MapEntry) (key:Value):∃v,eO zv es key v:=by
 by_cases h:∃e∈es,e.key=key
 ·obtain⟨e,he,hk⟩:=h;exact⟨e.val,.inl ⟨e,he,hk,G⟩⟩
 ·exact⟨zv,.inr ⟨λe he hk=>h ⟨e,he,hk⟩,G⟩⟩
def o9 (last:Int) (e:En):Int:=if oX e.1≠0 then oX e.1 else if e.2<=last then 12 else 0
def O7 (L:List En) (tl:List (Fd×Nat)) (i:Nat) (k:List UInt8):List Po:=pk L k++(((dQ tl).take i).filter λt=>decide (dv t=k)).map λt=>((L.length:Int),posOf tl t)
theorem O8 (L:List En) (tl:List (Fd×Nat)) (k:List UInt8):O7 L tl 0 k=pk L k:=by simp[O7]
theorem O9 {L:List En} {tl:List (Fd×Nat)} {i:Nat} {t:Fd} (h:(dQ tl)[i]? =some t) (k:List UInt8):O7 L tl (i+1) k=if k=dv t then O7 L tl i (dv t)++[((L.length:Int),posOf tl t)]else O7 L tl i k:=by
 unfold O7;rw[cj,h,dS,iJ,eH]
 split
 ·rename_i e;subst e;simp
 ·rename_i e
  have: ¬dv t=k:=λh=>e h.symm
  simp[this]
theorem Tl {L:List En} {e:En} {i:Nat} (h:(dQ (ux e)).length<=i) (k:List UInt8):O7 L (ux e) i k=pk (L++[e]) k:=by
 unfold O7;rw[Te,bM h];rfl
theorem Tn {L:List En} (hF:∀x∈L,iT x.1) (tl:List (Fd×Nat)) (i:Nat) (k:List UInt8):(O7 L tl i k).length<=L.length+(dQ tl).length:=by
 unfold O7;have h1:=(xz k L 0 hF).1;have h2:=fA (λt=>decide (dv t=k)) ((dQ tl).take i);have h3:=List.length_take_le i (dQ tl);have h4:(pk L k).length<=L.length:=h1;simp only[bT,cg,bI]at*;omega
theorem Cx {d:Dc} (hF:iT d):(dQ (cQ d.2)).length<=500:=by
 have h1:=(vB hF.JK).nodup.length_le_of_subset (l₂:=(cQ d.2).map (·.1)) (λt ht=>(jr hF.JK).1 ht);have:=hF.many;simp at h1;omega
theorem iT.term {d:Dc} (hF:iT d) {t:Fd} (h:t∈dQ (cQ d.2)):t.1.length<=12/\t.2.length<=30:=by
 obtain⟨p,hp,rfl⟩:=cO.1 ((jr hF.JK).1 h);exact hF.small p hp
theorem Pb {Z M:aP} {B:Nat} (w0:World) (hM:Lt M w0) (hB:B<=w0.heap.size) (hZ:∀k,w0.heap.size<=k->Z k):
  Spec Tryz.prog 48 #[] w0 (λv w=>∃M' b,v= .pointer (some ⟨b,0,none⟩)/\Lt M' w/\o8 Z M' w B b [] 0 (-1)/\Step M w0 M' w aH):=by
 refine bD (args:=[]) (fn:=Tryz.f48) Tryz.func48 G (n:=4) Tryz.ntmps48 ?_;have S:Step M w0 M w0 aH:=bg;refine T.aU (Rg.a8 G G (T.aU ?_));refine Rg.zB M iW G (λmb w1m p1 q1 gW s1=>?_);obtain⟨XJ,OZ⟩:∃M',M'=ins M mb:=⟨_,rfl⟩;rw[<-OZ]at s1;have DK:XJ mb:=by rw[OZ];exact .inl G
 replace hM:=s1.lt hM;have:=S.size;replace S:=S.ar s1;refine cx (places:=[(0,1),(1,1),(2,1),(3,1)]) ek aiV aiW rfl ⟨_,_,rfl,rfl,_,_,rfl,rfl,rfl⟩ (out:=[.slice none 0 0,_,.int .i64 0,_]) ⟨1,[_],rfl,rfl,by simp[Value.cells],3,[_],rfl,rfl,by simp[Value.cells],rfl⟩ ?_;refine qu XJ G G (λXL SU ar6 ar7 ja qF=>?_);obtain⟨ach,Pc⟩:∃M',M'=ins XJ XL:=⟨_,rfl⟩;rw[<-Pc]at qF;have XM:ach XL:=by rw[Pc];exact .inl G
 change SU.heap[XL]? =some (.cells #[.slice none 0 0,.map (some mb),.int .i64 0,.int .i64 (-1)] _ _)at ja;replace DK:=(qF.mem _ (ah gW.at_)).2 DK;replace gW:=gW.br qF;replace hM:=qF.lt hM;have:=S.size;replace S:=S.ar qF;refine Rg.a8 G G (aS ?_);exact aT G G ⟨_,_,G,hM,⟨mb,_,[],0,ja,XM,DK,hZ _ hV,hZ _ hV,ep _ _ _ _ _,gW,Tk _ _ _ _,λc hc=>by cases hc⟩,S⟩
end Go.K
namespace Go.K
open Go.Proofs
namespace TKBldD
theorem I29:TI Tryz.prog 29 (.slice none 0 0) 1 24:=by unfold TI;kernel_rfl
theorem lv:TI Tryz.prog 117 (.slice none 0 0) 1 24:=by unfold TI;kernel_rfl
theorem HY:TI Tryz.prog 180 (.map none) 1 8:=by unfold TI;kernel_rfl
theorem E93:Enters Tryz.prog 93:=enters Tryz.func93 rfl q0
theorem E94:Enters Tryz.prog 94:=enters Tryz.func94 rfl q0
theorem E96:Enters Tryz.prog 96:=enters Tryz.func96 rfl q0
theorem E97:Enters Tryz.prog 97:=enters Tryz.func97 rfl q0
end TKBldD
open TKBldD
set_option maxRecDepth 10000
set_option maxHeartbeats 4000000 in
theorem Pd {Z M:aP} {B b:Nat} {L:List En} {words last:Int} {e:En} {v0:Value} (w0:World) (hM:Lt M w0) (hZ:∀k,w0.heap.size<=k->Z k) (hb:o8 Z M w0 B b L words last) (hBw:B<=w0.heap.size) (hv:RT.en.V M w0 e v0) (hl:∀f∈e.1.2,f.1.length<=900000/\f.2.length<=900000) (hLF:∀x∈L,iT x.1) (hLn:L.length<=1000000) (hw:0<=words/\words<=1000000000):
  Spec Tryz.prog 49 #[.pointer (some ⟨b,0,none⟩),v0] w0 (λv w=>∃M',Lt M' w/\Step M w0 M' w (O6 M Z)/\v= .int .i64 (o9 last e)/\(o9 last e≠0->o8 Z M' w B b L words last)/\(o9 last e=0->o8 Z M' w B b (L++[e]) (words+((ux e).length:Int)) e.2)):=by
 obtain⟨mb,vl,es,clock,gb,eC,fD,hB,JH,ho,hW,hR,zl⟩:=hb;have U2:b≠mb:=λh=>by have:=hW.at_;rw[<-h,gb]at this;cases this
 refine bD (args:=[_,_]) (fn:=Tryz.f49) Tryz.func49 G (n:=89) Tryz.ntmps49 ?_;have S:Step M w0 M w0 (O6 M Z):=(bg).eE a30 (λ_ h=>h.2);refine T.aU ?_;refine fO (A:=RT.en) G G hM hv G (λu0 w1 dP s0 _=>?_);have:=ah gb;replace eC:=(s0.mem _ this).2 eC;replace gb:=s0.aF gb;replace ho:=ho.br s0;replace fD:=(s0.mem _ (ah hW.at_)).2 fD;replace hW:=hW.br s0;replace hR:=hR.br s0;replace hM:=s0.lt hM;have:=S.size;replace S:=S.ar s0;refine Rg.a8 G G (aQ (T.aU ?_));refine aw (A:=RT.en) (B:=RT.dc) ey G G pN q0 en0 G G q0 dP ck (λBH l2=>?_);refine cq (A:=RT.dc) bJ G pN q0 G G G l2 ck (λzY nh=>?_);refine aV G G E93 (Ob _ hM nh hl) (λr2 w2 hc=>?_);obtain⟨rfl,s2⟩:=hc;have:=ah gb;replace eC:=(s2.mem _ this).2 eC;replace gb:=s2.aF gb;replace dP:=dP.le q0 s2.le;replace ho:=ho.br s2;replace fD:=(s2.mem _ (ah hW.at_)).2 fD;replace hW:=hW.br s2;replace hR:=hR.br s2;replace hM:=s2.lt hM;have:=S.size;replace S:=S.ar s2;refine Rg.a8 G G (T.aU (ab G G (fG G G G (ad ?_))));refine bH G (λc2=>?_) (λc2=>?_)
 ·refine T.aU (ab G G (Rg.a8 G G (aS ?_)));have ea:o9 last e=oX e.1:=if_pos c2;exact aT rfl rfl ⟨_,hM,S,by rw[ea],λ_=>⟨mb,vl,es,clock,gb,eC,fD,hB,JH,ho,hW,hR,zl⟩,λh=>absurd (ea▸h) c2⟩
 ·have hF:iT e.1:=JJ (by simpa using c2);refine aM (aQ (aQ ?_));apply Bw mixed rfl rfl;intro wD4 sA4;have rY:=sA4 M;have:=ah gb;replace eC:=(rY.mem _ this).2 eC;replace gb:=rY.aF gb;replace dP:=dP.le q0 rY.le;replace ho:=ho.br rY;replace fD:=(rY.mem _ (ah hW.at_)).2 fD;replace hW:=hW.br rY;replace hR:=hR.br rY;replace hM:=rY.lt hM;have:=S.size;replace S:=S.ar rY;refine aw (A:=RT.en) (B:=RT.int .i64) ey G G I3 q0 en1 G G q0 dP ck (λK2 sV=>?_);refine Rg.dI ?_;refine bX (M:=M) al G G VR (by repeat (first|exact bB _ _|refine aW (bC VR) ?_)) (λU6=>?_);refine aZ (v':= .int .i64 (e.2)) G ?_;replace U6: -9223372036854775808<=(e.2:Int)/\e.2<=9223372036854775807:=U6;refine Rg.dI (ab G G (Rg.dI (bu G ⟨_,G⟩ G (Rg.dI (a7 (o':=3) ek G G I3 q0 G G (Rg.dI (aR al G G G (by first|assumption|exact cp rY VR) G (Rg.dI (gr G G G (Rg.dI (gV ?_)))))))))));refine bH G (λc4=>?_) (λc4=>?_)
  ·refine T.aU (Rg.a8 G G (aS ?_));have ea:o9 last e=12:=by unfold o9;rw[if_neg (λh=>h (by simpa using c2)),if_pos c4]
   exact aT rfl rfl ⟨_,hM,S,by rw[ea],λ_=>⟨mb,vl,es,clock,gb,eC,fD,hB,JH,ho,hW,hR,zl⟩,λh=>absurd (ea▸h) q0⟩
  ·refine aM (T.aU ?_);refine aw (A:=RT.en) (B:=RT.dc) ey G G pN q0 en0 G G q0 dP ck (λXo E9=>?_);refine cq (A:=RT.dc) bJ G pN q0 G G G E9 ck (λXp Ac=>?_);refine aV G G E94 (FE _ hM Ac hF hl) (λr6 w6 hc=>?_);obtain⟨a6,b6,rfl,ha,sF,s6⟩:=hc;have:=ah gb;replace eC:=(s6.mem _ this).2 eC;replace gb:=s6.aF gb;replace dP:=dP.le q0 s6.le;replace ho:=ho.br s6;replace fD:=(s6.mem _ (ah hW.at_)).2 fD;replace hW:=hW.br s6;replace hR:=hR.br s6;replace hM:=s6.lt hM;have:=S.size;replace S:=S.ar s6;refine ab G G (cP G G G (cP G G G (aJ G G (Rg.a8 G G (aQ (T.aU (ab G G (bR kh G ha G (ab G G ?_)))))))));refine ad (bp ?_);refine dz (σ:=Nat) (λq=>[(0,.pointer (some ⟨b,0,none⟩)),(3,u0),(7,b6),(30,a6),(31,.int .i64 ((dQ (ux e)).length:Int)),(32,.int .i64 (q:Int))]) (λq w=>∃M' es clock,Lt M' w/\Step M w0 M' w (O6 M Z)/\dp RT.en M' w u0 e/\(RT.fd.sl).V M' w (dQ (ux e)) a6/\(((RT.int .i64).sl).sl).V M' w ((dQ (ux e)).map (posOf (ux e))) b6/\Buf Z M' w B b mb vl L words last (O7 L (ux e) q) (λx=>x∈j0 L\/x∈((dQ (ux e)).take q).map dv) es clock/\q<=(dQ (ux e)).length) (λq=>(dQ (ux e)).length-q) 0 a04 ?_ ?_
   ·exact⟨_,es,clock,hM,S,dP,ha,sF,⟨gb,eC,fD,hB,JH,ho,hW,hR.congr (λk=>O8 _ _ _) (λk=>by simp),zl⟩,bA _⟩
   ·clear hM S dP ha sF gb eC fD ho hW hR;rintro i w ⟨M1,es,clock,hM,S,dP,ha,sF,⟨gb,eC,fD,_,_,ho,hW,hR,_⟩,hi⟩;refine T.aU (cH G G G (ad (aQ ?_)));refine bH G (λc8=>?_) (λc8=>?_)
    ·refine aM (aQ (bp (T.aU (ab G G ?_))));refine cD kh nL G G G ha ck hV (λaiY t UY Pe=>?_);rw[av]at UY;have R8:=ao UY;have Nf:=hF.term R8;refine cq (A:=RT.fd) bS G nL q0 G G G Pe ck (λaiZ Pf=>?_);obtain rfl:=ll Pf;refine eu M1 nL G (λAn abj ase asf pX rB=>?_);obtain⟨Cy,Pg⟩:∃M',M'=ins M1 An:=⟨_,rfl⟩;rw[<-Pg]at rB;have DL:Cy An:=by rw[Pg];exact .inl G
     change abj.heap[An]? =some (.cells #[.string ⟨#[]⟩,.string ⟨#[]⟩] _ _)at pX;have:=ah gb;replace eC:=(rB.mem _ this).2 eC;replace gb:=rB.aF gb;replace dP:=dP.le q0 rB.le;replace ha:=ha.le rB.le;replace sF:=sF.le rB.le;replace ho:=ho.br rB;replace fD:=(rB.mem _ (ah hW.at_)).2 fD;replace hW:=hW.br rB;replace hR:=hR.br rB;replace hM:=rB.lt hM;have:=S.size;replace S:=S.ar rB;refine aJ G G ?_;refine dm (M:=Cy) (vs:=[.string ⟨t.1.toArray⟩,.string ⟨t.2.toArray⟩]) nL G G (HV G Pf) G G pX DL (λw9 g9 s9=>?_);have:=ah gb;replace eC:=(s9.mem _ this).2 eC;replace gb:=s9.bY gb a05;have:=ah pX;replace DL:=(s9.mem _ this).2 DL;replace dP:=dP.le q0 s9.le;replace ha:=ha.le s9.le;replace sF:=sF.le s9.le;replace ho:=ho.step s9 (λc hc (h:_=_)=>by first|exact ho.fN gb q0 (h▸hc)|exact ho.fN pX q0 (h▸hc));replace fD:=(s9.mem _ (ah hW.at_)).2 fD;replace hW:=hW.step s9 a38;replace hR:=hR.step s9 a18;replace hM:=s9.lt hM;have:=S.size;replace S:=S.trans s9 (λk hk h=>by have h:_=_:=h;subst h;first|(exfalso;omega)|(show _<=_;omega)|exact⟨by first|omega|assumption,(S.mem _ hk).1 ((s9.mem _ (ah pX)).1 DL)⟩|exact .inl rfl|exact .inr rfl|exact .inr (.inl rfl)|exact .inr (.inr rfl)|exact .inr (.inr (.inl rfl))|exact rfl);have U7:=g9;clear pX;have pX:=U7;clear U7;refine ad (T.aU (eM (vs:=[.string ⟨t.1.toArray⟩,.string ⟨t.2.toArray⟩]) bS G nL G G G pX ?_))
     refine aV G G E95 (OI (t:=t) _ hM hV hV) (λr10 w10 hc=>?_);obtain⟨rfl,tQ⟩:=hc;have:=ah gb;replace eC:=(tQ.mem _ this).2 eC;replace gb:=tQ.aF gb;replace dP:=dP.le q0 tQ.le;replace ha:=ha.le tQ.le;replace sF:=sF.le tQ.le;replace ho:=ho.br tQ;replace fD:=(tQ.mem _ (ah hW.at_)).2 fD;replace hW:=hW.br tQ;replace hR:=hR.br tQ;replace hM:=tQ.lt hM;have:=S.size;replace S:=S.ar tQ;refine Rg.a8 G G ?_;obtain⟨v10,kS⟩:=eO.ex lr es (sv (dv t));apply T.rf 21 [0,1,2,3,4,5,6,7,8,9,10] 2 (nJ v10) mixed rfl rfl rfl rfl;intro FI XN;have eg:=XN Cy;have:=ah gb;replace eC:=(eg.mem _ this).2 eC;replace gb:=eg.aF gb;replace dP:=dP.le q0 eg.le;replace ha:=ha.le eg.le;replace sF:=sF.le eg.le;replace ho:=ho.br eg;replace fD:=(eg.mem _ (ah hW.at_)).2 fD;replace hW:=hW.br eg;replace hR:=hR.br eg;replace hM:=eg.lt hM;have:=S.size;replace S:=S.ar eg;refine ab G G (Rg.dI (bu G ⟨_,G⟩ G (Rg.dI (a7 (o':=1) ek G G HY q0 G G (Rg.dI (aR iW G G G (by first|assumption|exact cp eg VR) G (Rg.dI (ab G G (Rg.dI (ab G G (Rg.dI ?_)))))))))));refine bu G ⟨_,G⟩ G (Rg.dI (a7 (o':=1) ek G G HY q0 G G (Rg.dI (aR iW G G G (by first|assumption|exact cp eg VR) G (Rg.dI (ab G G (Rg.dI ?_)))))));obtain⟨kl,G1⟩:=O5 (dv t) (by unfold dv;simp;omega);refine Rg.uO iW vD lv G G G G1 hW (λai0 ai1=>?_);obtain rfl:v10=ai0:=hW.val_one kS ai1;have yN:=Tn hLF (ux e) i (dv t);have uF:(dQ (ux e)).length<=500:=Cx hF;refine Rg.dI (ab G G (Rg.dI (bu G ⟨_,G⟩ G (Rg.dI (a7 (o':=0) ek G G I29 q0 G G (Rg.dI (aR jG G G G (by first|assumption|exact cp eg VR) G (Rg.dI (jD jG G ho G (Rg.dI (ab G G ?_)))))))))))
     refine Rg.dI (ab G G (Rg.dI ?_));refine cD gJ qB rfl rfl rfl sF ck a06 (λu18 ps acj XO=>?_);rw[av,eX,UY]at acj;obtain rfl:=aG acj;refine Rg.dI ?_;refine bV aC G G G G G XO ck (λv19 To=>?_);refine Rg.dI (cx (places:=[(0,1),(1,1)]) cv jx Sw rfl ⟨_,_,rfl,rfl,_,_,rfl,rfl,rfl⟩ (out:=[_,_]) ⟨0,[_],rfl,rfl,by simp[Value.cells],1,[_],rfl,ic To,by simp[Value.cells],rfl⟩ ?_);have Ph:RT.po.V Cy _ ((L.length:Int),posOf (ux e) t) _:=fM (iF hV) To rfl rfl rfl rfl;refine Rg.dI (gV ?_);have sY:=hR.o _ _ kS;refine ⟨kV ⟨ti,⟨db.nilCheck G,⟨kE ek G HY q0,⟨gX G gb (λh=>sY.fN gb q0 h),⟨ti,⟨ti,⟨db.nilCheck G,⟨kE ek G HY q0,⟨gX G gb (λh=>sY.fN gb q0 h),⟨ti,⟨db.uO iW vD lv G G G1 hW (λh=>sY.lu hW.at_ h),trivial⟩⟩⟩⟩⟩⟩⟩⟩⟩⟩⟩,?_⟩;have kp:=nH (nJ v10) FI;refine dT (A:=RT.po) (hn:=by decide) (M:=Cy) bK jx q0 G G hM (Ph) (.inl G) (λai2 ai3 Tp np=>?_);have:=ah gb;replace eC:=(np.mem _ this).2 eC;replace gb:=np.aF gb;replace dP:=dP.le q0 np.le;replace ha:=ha.le np.le;replace sF:=sF.le np.le;replace ho:=ho.br np;replace fD:=(np.mem _ (ah hW.at_)).2 fD;replace hW:=hW.br np;replace hR:=hR.br np;replace hM:=np.lt hM;have:=S.size;replace S:=S.ar np;refine(fun(kp:ga _ _ _)=>ad ⟨G,G,λ_=>kp,?_⟩) a02;refine Rg.nP (M:=Cy) (base:=B) bK jx rfl rfl rfl rfl (hR.o _ _ kS) Tp ck a06 a06 aj1 (λv22 w22 ai5 yT ai6=>?_)
     have sY:=hR.o _ _ kS;have anY:=hW.at_;have ack:v10.ownBlock≠some mb:=sY.lu hW.at_;have U8:=ho.step yT (λc hc h=>ho.jK sY q0 hc h);have HZ:=(yT.mem _ (ah hW.at_)).2 fD;have Tq:=hW.step yT ack;have acm:=yT.bY gb (λh=>sY.fN gb q0 h);have XP:=(yT.mem _ (ah gb)).2 eC;have S22:=S.trans yT (λk hk h=>⟨hR.z _ _ k kS h,(S.mem k hk).1 (sY.mut_ k h)⟩);have ai7:=yT.lt hM;replace dP:=dP.le q0 yT.le;replace ha:=ha.le yT.le;replace sF:=sF.le yT.le;refine(fun(kp:ga _ _ _)=>ad ⟨G,G,λ_=>kp,?_⟩) a02;refine Rg.Tf iW vD G G G G1 Tq HZ (λw23 ai8 ai9 aja XQ XR RF=>?_);have ajb:=hR.put (λc hc=>hZ c aj1) kS ai5 yT ai6 Tq.at_ RF XR XQ;replace dP:=dP.le q0 RF.le;replace ha:=ha.le RF.le;replace sF:=sF.le RF.le;have ajc:=U8.step RF (λc hc (h:c=mb)=>U8.lu Tq.at_ (h▸hc));have ajd:=RF.bY acm U2;have XS:=(RF.mem _ (ah acm)).2 XP;have XT:=(RF.mem _ (ah Tq.at_)).2 HZ;have aje:=RF.lt ai7;have S23:=S22.trans RF (λk hk (h:k=mb)=>⟨by rw[h];exact JH,(S22.mem k hk).1 (by rw[h];exact HZ)⟩);refine ad ⟨G,G,λh=>absurd G h,tf (ay (aX G G G hV (ab G G (ad ?_))))⟩;refine⟨G,i+1,a04,?_,?_⟩
     ·exact⟨_,ai8,ai9,aje,S23,dP,ha,sF,⟨ajd,XS,XT,hB,JH,ajc,aja,ajb.congr (λk=>O9 UY k) (λk=>by rw[cj,UY,dS,eH,dH,or_assoc];simp),zl⟩,by omega⟩
     ·omega
    ·refine de (aQ ?_);apply T.rf 6 [0,1,2,3,4] 3 (nJ vl) mixed rfl rfl rfl rfl;intro Og Xf;have jy:=Xf M1;have:=ah gb;replace eC:=(jy.mem _ this).2 eC;replace gb:=jy.aF gb;replace dP:=dP.le q0 jy.le;replace ha:=ha.le jy.le;replace sF:=sF.le jy.le;replace ho:=ho.br jy;replace fD:=(jy.mem _ (ah hW.at_)).2 fD;replace hW:=hW.br jy;replace hR:=hR.br jy;replace hM:=jy.lt hM;have:=S.size;replace S:=S.ar jy;refine ab G G (Rg.dI (ab G G (Rg.dI (bu G ⟨_,G⟩ G (Rg.dI (a7 (o':=0) ek G G I29 q0 G G (Rg.dI (aR jG G G G gb G (aZ (v':=vl) G (Rg.dI ?_))))))))));refine cq (A:=RT.en) ey G Jn q0 G G G dP ck (λJB xu=>?_);refine Rg.dI (gV (⟨kV ⟨ti,⟨ti,⟨db.nilCheck G,⟨kE ek G I29 q0,⟨gX G gb (λh=>ho.fN gb q0 h),trivial⟩⟩⟩⟩⟩,?_⟩));have kp:=nH (nJ vl) Og;refine aV G G E96 (OV _ hM xu (by have:=hF.few;omega)) (λU9 XU hc=>?_);obtain⟨Ao,vE⟩:=hc;have:=ah gb;replace eC:=(vE.mem _ this).2 eC;replace gb:=vE.aF gb;replace dP:=dP.le q0 vE.le;replace ha:=ha.le vE.le;replace sF:=sF.le vE.le;replace ho:=ho.br vE;replace fD:=(vE.mem _ (ah hW.at_)).2 fD;replace hW:=hW.br vE;replace hR:=hR.br vE;replace hM:=vE.lt hM;have:=S.size;replace S:=S.ar vE;refine(fun(kp:ga _ _ _)=>ad ⟨G,G,λ_=>kp,?_⟩) a02;refine dT (A:=RT.en) (hn:=by decide) (M:=M1) jG Jn q0 G G hM (Ao) (.inl G) (λan0 an1 XV qt=>?_);have:=ah gb;replace eC:=(qt.mem _ this).2 eC
     replace gb:=qt.aF gb;replace dP:=dP.le q0 qt.le;replace ha:=ha.le qt.le;replace sF:=sF.le qt.le;replace Ao:=Ao.le qt.le;replace ho:=ho.br qt;replace fD:=(qt.mem _ (ah hW.at_)).2 fD;replace hW:=hW.br qt;replace hR:=hR.br qt;replace hM:=qt.lt hM;have:=S.size;replace S:=S.ar qt;refine(fun(kp:ga _ _ _)=>ad ⟨G,G,λ_=>kp,?_⟩) a02;refine Rg.nP (M:=M1) (base:=B) jG Jn rfl rfl rfl rfl ho XV ck a06 a06 aj1 (λFJ an2 XW yg ajf=>?_);replace eC:=(yg.mem _ (ah gb)).2 eC
     have zl':∀c,FJ.ownBlock=some c->Z c:=λc hc=>by
      rcases ajf c hc with h|h
      ·exact hZ c aj1
      ·exact zl c h
     replace hR:=hR.step yg (λk v c hv hc h=>(hR.o k v hv).jK ho q0 hc h);replace fD:=(yg.mem _ (ah hW.at_)).2 fD;replace hW:=hW.step yg (λh=>ho.lu hW.at_ h);replace gb:=yg.bY gb (λh=>ho.fN gb q0 h);replace dP:=dP.le q0 yg.le;replace S:=S.trans yg (λk hk h=>⟨zl k h,(S.mem k hk).1 (ho.mut_ k h)⟩);replace hM:=yg.lt hM;replace ho:=XW;obtain⟨M13,ajg⟩:∃M',M'=mI M1 FJ:=⟨_,rfl⟩;rw[<-ajg]at hR fD dP S hM ho eC;refine(fun(kp:ga _ _ _)=>ad ⟨G,G,λ_=>kp,?_⟩) a02;refine bu G ⟨_,G⟩ G (ad ⟨G,G,λh=>absurd G h,a7 (o':=0) ek G G I29 q0 G G (ad ⟨G,G,λh=>absurd G h,?_⟩)⟩);refine cA (M:=M13) I29 rfl rfl gb rfl a98 eC (λXX Pj pY=>?_);change XX.heap[_]? =some (Obj.cells #[FJ,.map (some mb),.int .i64 words,.int .i64 last] _ _)at Pj;have:=ah gb;replace eC:=(pY.mem _ this).2 eC;replace dP:=dP.le q0 pY.le;replace ho:=ho.step pY (λc hc (h:_=_)=>by first|exact ho.fN gb q0 (h▸hc)|exact ho.fN pX q0 (h▸hc));replace fD:=(pY.mem _ (ah hW.at_)).2 fD;replace hW:=hW.step pY a38;replace hR:=hR.step pY a18;replace hM:=pY.lt hM;have:=S.size;replace S:=S.trans pY (λk hk h=>by have h:_=_:=h;subst h;first|(exfalso;omega)|(show _<=_;omega)|exact⟨by first|omega|assumption,(S.mem _ hk).1 ((pY.mem _ (ah gb)).1 eC)⟩|exact .inl rfl|exact .inr rfl|exact .inr (.inl rfl)|exact .inr (.inr rfl)|exact .inr (.inr (.inl rfl))|exact rfl)
     have OG:=Pj;clear gb;have gb:=OG;clear OG;refine ad ⟨G,G,λh=>absurd G h,tf (aQ ?_)⟩;apply T.rf 6 [0,1,2,3] 1 aH mixed rfl rfl rfl rfl;intro XY Pk;have sG:=Pk M13;have:=ah gb;replace eC:=(sG.mem _ this).2 eC;replace gb:=sG.aF gb;replace dP:=dP.le q0 sG.le;replace ho:=ho.br sG;replace fD:=(sG.mem _ (ah hW.at_)).2 fD;replace hW:=hW.br sG;replace hR:=hR.br sG;replace hM:=sG.lt hM;have:=S.size;replace S:=S.ar sG;refine ab G G (Rg.dI (bu G ⟨_,G⟩ G (Rg.dI (a7 (o':=2) ek G G I3 q0 G G (Rg.dI (aR al G G G (by first|assumption|exact cp sG VR) G (Rg.dI ?_)))))));refine aw (A:=RT.en) (B:=RT.dc) ey G G pN q0 en0 G G q0 dP ck (λJP Ap=>?_);refine Rg.dI ?_;refine cq (A:=RT.dc) bJ G pN q0 G G G Ap ck (λan3 XZ=>?_);refine Rg.dI (gV (⟨kV ⟨ti,⟨db.nilCheck G,⟨kE ek G I3 q0,⟨gX G gb (λh=>h),trivial⟩⟩⟩⟩,?_⟩));have kp:=nH aH XY;refine aV G G E97 (Fk _ hM XZ hl hF.few) (λr14 Oy hc=>?_);obtain⟨rfl,jZ⟩:=hc;have:=ah gb;replace eC:=(jZ.mem _ this).2 eC;replace gb:=jZ.aF gb;replace dP:=dP.le q0 jZ.le;replace ho:=ho.br jZ;replace fD:=(jZ.mem _ (ah hW.at_)).2 fD;replace hW:=hW.br jZ;replace hR:=hR.br jZ;replace hM:=jZ.lt hM;have:=S.size;replace S:=S.ar jZ;refine(fun(kp:ga _ _ _)=>ad ⟨G,G,λ_=>kp,?_⟩) a02;have:=hF.many;refine aX G G G hV (ad ⟨G,G,λh=>absurd G h,bu G ⟨_,G⟩ G (ad ⟨G,G,λh=>absurd G h,a7 (o':=2) ek G G I3 q0 G G (ad ⟨G,G,λh=>absurd G h,?_⟩)⟩)⟩)
     refine cA (M:=M13) I3 G G gb G (G) eC (λX0 Pl pZ=>?_);change X0.heap[_]? =some (Obj.cells #[FJ,.map (some mb),.int .i64 (words+((ux e).length:Int)),.int .i64 last] _ _)at Pl;have:=ah gb;replace eC:=(pZ.mem _ this).2 eC;replace dP:=dP.le q0 pZ.le;replace ho:=ho.step pZ (λc hc (h:_=_)=>by first|exact ho.fN gb q0 (h▸hc)|exact ho.fN pX q0 (h▸hc));replace fD:=(pZ.mem _ (ah hW.at_)).2 fD;replace hW:=hW.step pZ a38;replace hR:=hR.step pZ a18;replace hM:=pZ.lt hM;have:=S.size;replace S:=S.trans pZ (λk hk h=>by have h:_=_:=h;subst h;first|(exfalso;omega)|(show _<=_;omega)|exact⟨by first|omega|assumption,(S.mem _ hk).1 ((pZ.mem _ (ah gb)).1 eC)⟩|exact .inl rfl|exact .inr rfl|exact .inr (.inl rfl)|exact .inr (.inr rfl)|exact .inr (.inr (.inl rfl))|exact rfl);have OG:=Pl;clear gb;have gb:=OG;clear OG;refine ad ⟨G,G,λh=>absurd G h,tf (T.aU (ab G G ?_))⟩;refine aw (A:=RT.en) (B:=RT.int .i64) ey G G I3 q0 en1 G G q0 dP ck (λan4 ajh=>?_);refine bX (M:=M13) al G G VR (by repeat (first|exact bB _ _|refine aW (bC VR) ?_)) (λPm=>?_);refine aZ (v':= .int .i64 (e.2)) G ?_;replace Pm: -9223372036854775808<=(e.2:Int)/\e.2<=9223372036854775807:=Pm;refine bu G ⟨_,G⟩ G (a7 (o':=3) ek G G I3 q0 G G ?_);refine cA (M:=M13) I3 G G gb G (G) eC (λVa JQ ky=>?_)
     change Va.heap[_]? =some (Obj.cells #[FJ,.map (some mb),.int .i64 (words+((ux e).length:Int)),.int .i64 e.2] _ _)at JQ;have:=ah gb;replace eC:=(ky.mem _ this).2 eC;replace dP:=dP.le q0 ky.le;replace ho:=ho.step ky (λc hc (h:_=_)=>by first|exact ho.fN gb q0 (h▸hc)|exact ho.fN pX q0 (h▸hc));replace fD:=(ky.mem _ (ah hW.at_)).2 fD;replace hW:=hW.step ky a38;replace hR:=hR.step ky a18;replace hM:=ky.lt hM;have:=S.size;replace S:=S.trans ky (λk hk h=>by have h:_=_:=h;subst h;first|(exfalso;omega)|(show _<=_;omega)|exact⟨by first|omega|assumption,(S.mem _ hk).1 ((ky.mem _ (ah gb)).1 eC)⟩|exact .inl rfl|exact .inr rfl|exact .inr (.inl rfl)|exact .inr (.inr rfl)|exact .inr (.inr (.inl rfl))|exact rfl);have OG:=JQ;clear gb;have gb:=OG;clear OG;refine ad (T.aU (Rg.a8 G G (aS ?_)));have ea:o9 last e=0:=by unfold o9;rw[if_neg (λh=>h (by simpa using c2)),if_neg c4]
     exact aT rfl rfl ⟨_,hM,S,by rw[ea],λh=>absurd ea h,λ_=>⟨mb,_,es,clock,gb,eC,fD,hB,JH,ho,hW,hR.congr (λk=>(Tl hV k).symm) (λk=>by rw[HU,dH,bM hV]),zl'⟩⟩
end Go.K
namespace Go.K
open Go.Proofs
namespace TKBldE
theorem lv:TI Tryz.prog 117 (.slice none 0 0) 1 24:=by unfold TI;kernel_rfl
theorem HY:TI Tryz.prog 180 (.map none) 1 8:=by unfold TI;kernel_rfl
theorem E98:Enters Tryz.prog 98:=enters Tryz.func98 rfl q0
theorem E99:Enters Tryz.prog 99:=enters Tryz.func99 rfl q0
theorem Ln:Enters Tryz.prog 100:=enters Tryz.func100 rfl q0
end TKBldE
open TKBldE
set_option maxRecDepth 10000
theorem gm.JN {P:Program} {kt:TypeId} {w:World} {b clock:Nat} {es:List MapEntry} (hk:P.underlying kt=some .string) (h:gm P kt w b es clock):∃ks:List (List UInt8),es.map (·.key)=ks.map sv/\ks.Nodup:=by
 have key:∀es:List MapEntry,(∀e∈es,∃l,keyOf P kt e.key=some l)->∃ks:List (List UInt8),es.map (·.key)=ks.map sv:=by
  intro es
  induction es with
  |nil=>exact λ_=>⟨[],rfl⟩
  |cons e es ih=>
   intro h;obtain⟨ks,h1⟩:=ih λx hx=>h x (cn _ hx)
   obtain⟨l,hl⟩:=h e (bE ..);obtain⟨x,h3,_,h4⟩:=Maps.keyOf_str hk hl;exact⟨x::ks,by simp only[fx,h1,h3]⟩
 obtain⟨ks,h1⟩:=key es h.ok;refine ⟨ks,h1,?_⟩;have h3:=eh.2 h.keys;rw[h1]at h3;exact(eh.1 h3).imp λh e=>h (by rw[e])
theorem FK {M:aP} {w:World}:∀{l:List (List UInt8)},(∀x∈l,x.length<=140737488355328)->fX RT.str M w l (l.map Go.Proofs.encStr)
 |[],_=>rfl
 |x::l,h=>⟨[.string ⟨x.toArray⟩],_,rfl,⟨rfl,h x (bE ..)⟩,FK λy hy=>h y (cn _ hy)⟩
theorem Pn (M:aP) (w:World) (M':aP) (w':World) (x:List UInt8) (vs:List Value) (h:RT.str.R M w x vs):RT.str.R M' w' x vs:=h
theorem yh {L:List En} (hF:∀x∈L,iT x.1):∀k∈j0 L,k.length<=43:=λk hk=>by
 obtain⟨e,he,h1⟩:=List.mem_flatMap.1 hk;obtain⟨t,ht,rfl⟩:=cO.1 h1;have:=(hF e he).term ht;unfold dv;simp;omega
theorem xB {L:List En} (hF:∀x∈L,iT x.1):(j0 L).length<=500*L.length:=by
 induction L with
 |nil=>simp[j0]
 |cons e L ih=>
  have h1:=ih λx hx=>hF x (cn _ hx)
  have h2:=Cx (hF e (bE ..));show((dQ (ux e)).map dv++j0 L).length<=_;rw[bT,cg,cR];have h2:(dQ (ux e)).length<=500:=h2;omega
theorem H0 {Z M:aP} {B b:Nat} {L:List En} {words last:Int} (w0:World) (hM:Lt M w0) (hb:o8 Z M w0 B b L words last) (hF:∀x∈L,iT x.1) (hLn:L.length<=1000000):
  Spec Tryz.prog 50 #[.pointer (some ⟨b,0,none⟩)] w0 (λv w=>(RT.str.sl).V M w (keysOf L) v/\Step M w0 M w aH):=by
 obtain⟨mb,vl,es,clock,gb,eC,fD,hB,JH,ho,hW,hR,zl⟩:=hb;obtain⟨ks,Dn,nN⟩:=hW.JN aE
 have ig:∀x,x∈ks↔x∈j0 L:=λx=>by
  rw[<-hR.k x];constructor
  ·intro hx;have:sv x∈es.map (·.key):=by rw[Dn];exact gj hx
   obtain⟨e,he,h⟩:=cO.1 this;exact⟨e,he,h⟩
  ·rintro⟨e,he,h⟩;have:sv x∈ks.map sv:=by rw[<-Dn,<-h];exact gj he
   obtain⟨y,hy,h1⟩:=cO.1 this;rw[<-DH h1];exact hy
 have Z5:ks.length<=500000000:=by
  have h1:=nN.length_le_of_subset (l₂:=j0 L) (λx hx=>(ig x).1 hx);have h2:=xB hF;omega
 have hen:es.length=ks.length:=by have:=congrArg List.length Dn;simpa using this
 refine bD (args:=[_]) (fn:=Tryz.f50) Tryz.func50 G (n:=9) Tryz.ntmps50 ?_;have S:Step M w0 M w0 aH:=bg;refine T.aU (Rg.a8 G G (T.aU (ab G G (bu G ⟨_,G⟩ G (a7 (o':=1) ek G G HY q0 G G (aR iW G G G gb G (aZ (v':= .map (some mb)) G ?_)))))));refine aV G G E99 (HW _ _) (λr w1 hc=>?_);obtain⟨rfl,hw1⟩:=hc;have s1:Step M w0 M w1 aH:=by rw[hw1];exact ef _ w0 _
 have NK:=BO hw1;have:=ah gb;replace eC:=(s1.mem _ this).2 eC;replace gb:=s1.aF gb;replace fD:=(s1.mem _ (ah hW.at_)).2 fD;replace hW:=hW.br s1;replace hM:=s1.lt hM;have:=S.size;replace S:=S.ar s1;obtain⟨m,hO,aco,ze⟩:=hW.aiI aE fD (by unfold maxLen;omega) ks Dn;refine aV G G E98 (DJ hO NK hV) (λr2 w2 hc=>?_);obtain⟨⟨ss,hss,qH,_⟩,s2⟩:=hc;have V8:ss.Perm ks:=hss.trans aco;have hmp:=List.mergeSort_perm ss λx y=>decide (x<=y)
 have qn:(ss.mergeSort λx y=>decide (x<=y))=keysOf L:=XE (Lc (V8.nodup_iff.2 nN)) (pW L) λx=>by rw[hmp.mem_iff,V8.mem_iff,ig,nk]
 have hlen:ss.length=(keysOf L).length:=by rw[<-qn,List.length_mergeSort]
 rw[qn,hlen]at qH;have ajj:∀x∈keysOf L,x.length<=140737488355328:=λx hx=>by have:=yh hF x (nk.1 hx);omega
 have tw:Own RT.str 9 (sy r2) w2 w1.heap.size r2 (keysOf L):=⟨⟨_,qH,FK ajj⟩,λb hb=>hb⟩;have Ch:(RT.str.sl).V M w2 (keysOf L) r2:=tw.tell Pn (λb hb h=>by have:=(tw.base b hb).1;have:=hM b h;omega) (by have:=V8.length_eq;omega);have:=ah gb;replace eC:=(s2.mem _ this).2 eC;replace gb:=s2.aF gb;replace fD:=(s2.mem _ (ah hW.at_)).2 fD;replace hW:=hW.br s2;replace hM:=s2.lt hM;have:=S.size;replace S:=S.ar s2;refine Rg.a8 G G (aS ?_);exact aT G G ⟨Ch,S⟩
theorem H2 {Z M:aP} {B b:Nat} {L:List En} {words last:Int} {k:List UInt8} (w0:World) (hM:Lt M w0) (hb:o8 Z M w0 B b L words last) (hF:∀x∈L,iT x.1) (hLn:L.length<=1000000) (G1:k.length<=140737488355328):
  Spec Tryz.prog 51 #[.pointer (some ⟨b,0,none⟩),sv k] w0 (λv w=>(RT.po.sl).V M w (pk L k) v/\Step M w0 M w aH):=by
 have jq:=hM;obtain⟨mb,vl,es,clock,gb,eC,fD,hB,JH,ho,hW,hR,zl⟩:=hb;obtain⟨kl,Et⟩:=O5 k G1;obtain⟨yN,hpa⟩:=xz k L 0 hF;replace yN:(pk L k).length<=L.length:=yN;replace hpa:∀p∈pk L k,_:=hpa;refine bD (args:=[_,_]) (fn:=Tryz.f51) Tryz.func51 G (n:=30) Tryz.ntmps51 ?_;have S:Step M w0 M w0 aH:=bg;refine T.aU (Rg.a8 G G (T.aU (Rg.a8 G G (aQ (T.aU (ab G G ?_))))));refine bu G ⟨_,G⟩ G (a7 (o':=1) ek G G HY q0 G G (aR iW G G G gb G (aZ (v':= .map (some mb)) G (ab G G ?_))));refine Rg.uO iW vD lv G G G Et hW (λX1 kS=>?_);have sY:=hR.o _ _ kS;have tb:∀c,X1.ownBlock=some c->c<w0.heap.size:=λc hc=>(sY.base c hc).2
 clear hR hW ho;refine jD bK G sY G (ab G G (ad (bp ?_)));refine dz (σ:=Nat×Value) (λq=>[(5,q.2),(13,X1),(14,.int .i64 ((pk L k).length:Int)),(15,.int .i64 (q.1:Int))]) (λq w=>∃M',Lt M' w/\Step M w0 M' w aH/\Own RT.po 188 M' w w0.heap.size q.2 ((pk L k).take q.1)/\Own RT.po 188 M' w B X1 (pk L k)/\q.1<=(pk L k).length) (λq=>(pk L k).length-q.1) (0,.slice none 0 0) VS ?_ ?_
 ·exact⟨M,hM,S,ep _ _ _ _ _,sY,bA _⟩
 ·clear hM S sY;rintro⟨i,u⟩ w ⟨M1,hM,S,hu,sY,hi⟩;dsimp only at hu hi ⊢;refine T.aU (cH G G G (ad (aQ ?_)));refine bH G (λc3=>?_) (λc3=>?_)
  ·refine aM (aQ (bp (T.aU ?_)));refine Rg.acf bK jx q0 G G G sY hV (λu4 p Hr kU=>?_);rw[av]at Hr;have hp:=hpa p (ao Hr);refine Rg.O4 (A:=RT.po) cv G jx G G G kU (λv4 qS=>?_);refine nI (A:=RT.po) (M:=M1) jx G G G G G VR ck hM (λSD WQ mZ pP acq=>?_);replace hu:=hu.br pP;replace sY:=sY.br pP;replace hM:=pP.lt hM;have:=S.size;replace S:=S.ar pP;refine ad ?_;apply T.rf 5 [0,1,2] 3 aH mixed rfl rfl rfl rfl;intro wD5 sA5;have Tr:=sA5 M1;replace mZ:=mZ.le q0 Tr.le;replace hu:=hu.br Tr;replace sY:=sY.br Tr;replace hM:=Tr.lt hM;have:=S.size;replace S:=S.ar Tr;refine ab G G (Rg.dI ?_);refine aw (M:=M1) (A:=RT.po) (B:=RT.int .i64) cv G G I3 q0 (RA) G G q0 VR (by repeat (first|exact bB _ _|refine aW (bC VR) ?_)) (λabI Jz=>?_);refine Rg.dI ?_;refine bX (M:=M1) al G G VR (by repeat (first|exact bB _ _|refine aW (bC VR) ?_)) (λacr=>?_);refine Rg.dI ?_;refine aw (M:=M1) (A:=RT.po) (B:=(RT.int .i64).sl) cv G G qB q0 (Ws) G G q0 VR (by repeat (first|exact bB _ _|refine aW (bC VR) ?_)) (λahW Jr=>?_);refine Rg.dI ?_;refine bV (M:=M1) aC G G G G G VR (by repeat (first|exact bB _ _|refine aW (bC VR) ?_)) (λasq acs=>?_);refine Rg.dI (gV ?_);obtain⟨bb,oo,cs,ee,fr,rfl,oO,_⟩:=Jz.float;refine ⟨kV ⟨ti,⟨kE cv G I3 q0,⟨gX G oO (λh=>h),trivial⟩⟩⟩,?_⟩;have kp:=nH aH wD5;refine aV G G Ln (Al hM acs hV) (λv5 w5 hc=>?_)
   obtain⟨qT,s5⟩:=hc;replace mZ:=mZ.le q0 s5.le;replace hu:=hu.br s5;replace sY:=sY.br s5;replace hM:=s5.lt hM;have:=S.size;replace S:=S.ar s5;refine(fun(kp:ga _ _ _)=>ad ⟨G,G,λ_=>kp,?_⟩) a02;refine cx (places:=[(0,1),(1,1)]) cv jx Sw rfl ⟨_,_,rfl,rfl,_,_,rfl,rfl,rfl⟩ (out:=[_,_]) ⟨0,[_],rfl,rfl,by simp[Value.cells],1,[_],rfl,ic qT,by simp[Value.cells],rfl⟩ ?_;have Ph:RT.po.V M1 _ p _:=fM (iF acr) qT rfl rfl rfl rfl;refine(fun(kp:ga _ _ _)=>ad ⟨G,G,λ_=>kp,?_⟩) a02;refine dT (A:=RT.po) (hn:=by decide) (M:=M1) bK jx q0 G G hM (Ph) (.inl G) (λacu ajk Pp vF=>?_);replace mZ:=mZ.le q0 vF.le;replace qT:=qT.le vF.le;replace hu:=hu.br vF;replace sY:=sY.br vF;replace hM:=vF.lt hM;have:=S.size;replace S:=S.ar vF;refine(fun(kp:ga _ _ _)=>ad ⟨G,G,λ_=>kp,?_⟩) a02;refine cI (M:=M1) (base:=w0.heap.size) bK jx rfl rfl rfl rfl hu Pp ck a06 a06 (S.size) (λajl ajm asr acv Lo=>?_);replace mZ:=mZ.le q0 Lo.le;replace qT:=qT.le Lo.le;replace Pp:=Pp.le Lo.le;replace sY:=sY.step Lo (λc hc h=>by have:=tb c hc;have:=(hu.base c h).1;omega);replace hM:=Lo.lt hM;have:=S.size;replace S:=S.cf Lo hu (aK _);replace hu:=acv;refine ad ⟨G,G,λh=>absurd G h,aJ G G (ad ⟨G,G,λh=>absurd G h,tf (ay (aX G G G hV (ab G G (ad ?_))))⟩)⟩
   refine⟨G,(i+1,ajl),VS,?_,?_⟩
   ·exact⟨ajm,hM,S,by rw[cj,Hr,dS];exact hu,sY,by dsimp only;omega⟩
   ·dsimp only;omega
  ·refine de (T.aU (ab G G (Rg.a8 G G (aS ?_))));rw[bM hV]at hu;exact aT G G ⟨hu.close jq S hV,S.back⟩
end Go.K
namespace Go.K
open Go.Proofs
namespace TKBldF
theorem ajn:TI Tryz.prog 310 (.agg #[(.slice none 0 0),(.slice none 0 0)]) 2 48:=by unfold TI;kernel_rfl
theorem ajo:placesOf Tryz.prog 310=[(0,1),(1,1)].map some:=by kernel_rfl
theorem ajp:Enters Tryz.prog 197:=enters Tryz.func197 rfl q0
theorem ajq:Enters Tryz.prog 198:=enters Tryz.func198 rfl q0
theorem ajr:Enters Tryz.prog 199:=enters Tryz.func199 rfl q0
end TKBldF
open TKBldF
set_option maxRecDepth 10000
def FL:Option (List UInt8)->List (List UInt8)->Bool
 |_,[]=>true
 |o,x::l=>(match o with|none=>true|some a=>decide (a<x))&&FL (some x) l
theorem Ar {l:List (List UInt8)} {k:Nat} {x:List UInt8} (h:l[k]? =some x) (o:Option (List UInt8)):FL o (l.drop k)=((match o with|none=>true|some a=>decide (a<x))&&FL (some x) (l.drop (k+1))):=by
 obtain⟨eU,he⟩:=ak.1 h;rw[fe eU,he];rfl
theorem FM {a:List UInt8}:∀{l:List (List UInt8)},HS (a::l)->FL (some a) l=true
 |[],_=>rfl
 |x::l,h=>by
  have h':=gC.1 h;simp only[FL,cC,decide_eq_true_eq];exact⟨h'.1 x (bE ..),FM h'.2⟩
theorem X2:∀{l:List (List UInt8)},HS l->FL none l=true
 |[],_=>rfl
 |x::l,h=>by simp only[FL,dF];exact FM h
theorem Lq {M:aP} {v:Value} {l:List Int} (w0:World) (hv:((RT.int .i64).sl).V M w0 l v):
  Spec Tryz.prog 153 #[v] w0 (λv' w'=>v'= .bool (gw (-1) l)/\w'=w0):=by
 have hlen:=dJ hv;refine bD (args:=[_]) (fn:=Tryz.f153) Tryz.func153 G (n:=28) Tryz.ntmps153 (T.aU (Rg.a8 G G (aQ (T.aU (ab G G (bR aC G hv G (ab G G (ad ?_))))))));refine bp ?_;refine dz (σ:=Nat×Int) (λs=>[(0,v),(5,v),(6,.int .i64 l.length),(7,.int .i64 s.1)]) (λs w=>w=w0/\s.1<=l.length/\gw (-1) l=gw s.2 (l.drop s.1)/\ -1<=s.2/\(s.1=0->s.2= -1)/\(0<s.1->l[s.1-1]? =some s.2)) (λs=>l.length-s.1) (0,-1) VS ?_ ?_
 ·exact⟨rfl,bA _,rfl,by decide,λ_=>rfl,λh=>absurd h (kG 0)⟩
 ·rintro⟨k,last⟩ w1 ⟨rfl,hk,hr,Tt,h0,h1⟩;dsimp only at hk hr Tt h0 h1 ⊢;refine T.aU (cH G G G (ad (aQ ?_)));refine bH G (λc2=>?_) (λc2=>?_)
  ·refine aM (aQ (bp (T.aU (ab G G ?_))));obtain⟨x,hx⟩:∃x,l[k]? =some x:=⟨_,aq hV⟩;refine cD aC I3 G G G hv ck hV (λu a hg hu=>?_);obtain rfl:x=a:=cY (aG (hg.symm.trans af5));refine bX al G G hu ck (λinx=>?_);refine aJ G G (Rg.a8 G G (T.aU (ab G G (cH G G G (ab G G ?_)))));refine aB (g:=14) G (λxC=>?_) (λxC=>?_)
   ·refine aj G G G G (aj G G G G (aj G G G G (bN G G G (bN G G G (bN G G G (bN G G G (bN G G G (bN G G G (bN G G G (aj G G G G (aN G G G ?_)))))))))));refine ad (iz G (T.aU (Rg.a8 G G (aS ?_))));refine aT G G ⟨congrArg Value.bool (cY ?_),G⟩;rw[hr,gK hx,decide_eq_false (show¬last<x by omega),eT]
   ·refine ae G G (ab G G (ae G G (fR G G G (ae G G (ab G G ?_)))));refine aB (g:=17) G (λXn=>?_) (λXn=>?_)
    ·refine ae G G (ab G G (ae G G (ab G G (ae G G (ab G G (ae G G (iQ G G G hV (ae G G ?_))))))));refine cD aC I3 G G G hv ck hV (λu2 a hg ff=>?_);obtain rfl:last=a:=cY (aG (hg.symm.trans (by rw[show((k:Int)-1).toNat=k-1 from by omega];exact h1 hV)));refine ae G G ?_;refine bX al G G ff ck (λinl=>?_);refine ae G G (gr G G G (ae G G (aN G G G (au G G G (ad ?_)))));refine bH G (λc4=>?_) (λc4=>?_)
     ·refine T.aU (Rg.a8 G G (aS ?_));refine aT G G ⟨congrArg Value.bool (cY ?_),G⟩;rw[hr,gK hx,decide_eq_false (show¬last<x by omega),eT]
     ·refine aM (ay (aX G G G hV (ab G G (ad ?_))));refine⟨G,(k+1,x),VS,?_,?_⟩
      ·refine⟨rfl,by simp only;omega,?_,by simp only;omega,λh=>by simp at h,λ_=>by simpa using hx⟩;rw[hr,gK hx,decide_eq_true (show last<x by omega),dF]
      ·simp only;omega
    ·refine aj G G G G (aj G G G G (aj G G G G (aj G G G G (aj G G G G (aj G G G G (aj G G G G (ae G G (au G G G (au G G G (ad (fQ G ?_)))))))))));refine aM (ay (aX G G G hV (ab G G (ad ?_))));refine⟨G,(k+1,x),VS,?_,?_⟩
     ·refine⟨rfl,by simp only;omega,?_,by simp only;omega,λh=>by simp at h,λ_=>by simpa using hx⟩;rw[hr,gK hx,decide_eq_true (show last<x by omega),dF]
     ·simp only;omega
  ·refine de (T.aU (Rg.a8 G G (aS ?_)));refine aT G G ⟨congrArg Value.bool (cY ?_),G⟩;rw[hr,fV hV];rfl
theorem FN {M:aP} {v:Value} {l:List (List UInt8)} (w0:World) (hv:(RT.str.sl).V M w0 l v):
  Spec Tryz.prog 197 #[v] w0 (λv' w'=>v'= .bool (FL none l)/\w'=w0):=by
 have hlen:=dJ hv;refine bD (args:=[_]) (fn:=Tryz.f197) Tryz.func197 G (n:=24) Tryz.ntmps197 (T.aU (Rg.a8 G G (aQ (T.aU (ab G G (bR aI G hv G (ab G G (ad ?_))))))));refine bp ?_;refine dz (σ:=Nat×Option (List UInt8)) (λs=>[(0,v),(5,v),(6,.int .i64 l.length),(7,.int .i64 s.1)]) (λs w=>w=w0/\s.1<=l.length/\FL none l=FL s.2 (l.drop s.1)/\(s.1=0->s.2=none)/\(0<s.1->∃a,s.2=some a/\l[s.1-1]? =some a)) (λs=>l.length-s.1) (0,none) VS ?_ ?_
 ·exact⟨G,bA _,G,λ_=>G,λh=>absurd h (kG 0)⟩
 ·rintro⟨k,o⟩ w1 ⟨rfl,hk,hr,h0,h1⟩;dsimp only at hk hr h0 h1 ⊢;refine T.aU (cH G G G (ad (aQ ?_)));refine bH G (λc2=>?_) (λc2=>?_)
  ·refine aM (aQ (bp (T.aU (ab G G ?_))));obtain⟨x,hx⟩:∃x,l[k]? =some x:=⟨_,aq hV⟩;refine cD aI I9 G G G hv ck hV (λu a hg hu=>?_);obtain rfl:x=a:=cY (aG (hg.symm.trans af5));refine bV aE G G G G G hu ck (λvx zW=>?_);obtain rfl:=eF zW;refine aJ G G (Rg.a8 G G (T.aU (ab G G (fR G G G (ab G G ?_)))));refine aB (g:=14) G (λxC=>?_) (λxC=>?_)
   ·refine ae G G (ab G G (ae G G (ab G G (ae G G (ab G G (ae G G (iQ G G G hV (ae G G ?_))))))));obtain⟨last,rfl,k7⟩:=h1 hV;refine cD aI I9 G G G hv ck hV (λu2 a hg ff=>?_);obtain rfl:last=a:=cY (aG (hg.symm.trans (by rw[show((k:Int)-1).toNat=k-1 from by omega];exact k7)));refine ae G G ?_;refine bV aE G G G G G ff ck (λvl mz=>?_);obtain rfl:=eF mz;refine ae G G (Rg.XD G G G (aN G G G (ad ?_)));refine bH G (λc4=>?_) (λc4=>?_)
    ·refine T.aU (Rg.a8 G G (aS ?_));refine aT G G ⟨congrArg Value.bool (cY ?_),G⟩;rw[hr,Ar hx];simp[c4]
    ·refine aM (ay (aX G G G hV (ab G G (ad ?_))));refine⟨G,(k+1,some x),VS,?_,?_⟩
     ·refine⟨rfl,by simp only;omega,?_,λh=>by simp at h,λ_=>⟨x,rfl,by simpa using hx⟩⟩;rw[hr,Ar hx]
      first
      |(rw[h0 hV];simp;done)
      |(have c4':=cF.1 c4;simp[c4'];done)
     ·simp only;omega
   ·refine aj G G G G (aj G G G G (aj G G G G (aj G G G G (aj G G G G (aj G G G G (aj G G G G (au G G G (ad (fQ G (aM (ay ?_)))))))))));refine aX G G G hV (ab G G (ad ?_));refine⟨G,(k+1,some x),VS,?_,?_⟩
    ·refine⟨rfl,by simp only;omega,?_,λh=>by simp at h,λ_=>⟨x,rfl,by simpa using hx⟩⟩;rw[hr,Ar hx]
     first
     |(rw[h0 hV];simp;done)
     |(have c4':=cF.1 c4;simp[c4'];done)
    ·simp only;omega
  ·refine de (T.aU (Rg.a8 G G (aS ?_)));refine aT G G ⟨congrArg Value.bool (cY ?_),G⟩;rw[hr,fV hV];rfl
theorem Cz {α:Type} {A:RT α} {M:aP} {w:World} {v:Value} {x:α} (h:dp A M w v x):v.cells= #[v]:=by
 obtain⟨b,o,vs,rfl,_⟩:=h;rfl
theorem H3 {M:aP} {v0 v1:Value} {ns:List (List UInt8)} {ts:List Li} (w0:World) (hM:Lt M w0) (hn:(RT.str.sl).V M w0 ns v0) (ht:(((RT.li).ptr).sl).V M w0 ts v1) (hl:ns.length<=1099511627776) (GY:ts.length<=1099511627776):
  Spec Tryz.prog 157 #[v0,v1] w0 (λv w=>∃p,v= .tuple #[p,.int .i64 (if ns.length=ts.length/\FL none ns=true then 0 else 1)]/\(ns.length=ts.length->FL none ns=true->dp RT.di M w p (ns,ts))/\Step M w0 M w aH):=by
 refine bD (args:=[_,_]) (fn:=Tryz.f157) Tryz.func157 G (n:=22) Tryz.ntmps157 ?_;have S:Step M w0 M w0 aH:=bg;refine T.aU (aJ G G (Rg.a8 G G (aQ (T.aU (ab G G (bR aI G hn G (ab G G (bR fq G ht G ?_))))))));refine fG G G G (ab G G ?_);refine aB (g:=11) G (λlZ=>?_) (λlZ=>?_)
 ·refine aj G G G G (aj G G G G (aj G G G G (aN G G G (ad (iz G (T.aU (aJ G G (Rg.a8 G G (aS ?_)))))))))
  first
  |exact fk rfl rfl rfl ⟨_,by rw[if_neg (λh=>lZ hV)],λh=>absurd hV lZ,S⟩
  |exact fk rfl rfl rfl ⟨_,by rw[if_neg (λh=>c1 h.2)],λ_ h=>absurd h c1,S⟩
 ·refine ae G G (ab G G (ae G G ?_));refine aV G G ajp (FN _ hn) (λr wc hc=>?_);obtain⟨rfl,rfl⟩:=hc;refine ae G G (jd G G (aZ (v':= .bool (decide (¬FL none ns=true))) (by simp) (au G G G (ad ?_))));refine bH G (λc1=>?_) (λc1=>?_)
  ·refine T.aU (aJ G G (Rg.a8 G G (aS ?_)))
   first
   |exact fk rfl rfl rfl ⟨_,by rw[if_neg (λh=>lZ hV)],λh=>absurd hV lZ,S⟩
   |exact fk rfl rfl rfl ⟨_,by rw[if_neg (λh=>c1 h.2)],λ_ h=>absurd h c1,S⟩
  ·refine aM (T.aU (ab G G ?_));refine aV G G ajq (OU hM hn hl) (λv3 w3 hc=>?_);obtain⟨vm,s3⟩:=hc;replace hn:=hn.le s3.le;replace ht:=ht.le s3.le;replace hM:=s3.lt hM;have:=S.size;replace S:=S.ar s3;refine ab G G ?_;refine aV G G ajr (Ti hM ht GY) (λv4 w4 hc=>?_);obtain⟨qS,s4⟩:=hc;replace hn:=hn.le s4.le;replace ht:=ht.le s4.le;replace vm:=vm.le s4.le;replace hM:=s4.lt hM;have:=S.size;replace S:=S.ar s4;refine cx (places:=[(0,1),(1,1)]) Tryz.underlying310 ajn ajo rfl ⟨_,_,rfl,rfl,_,_,rfl,rfl,rfl⟩ (out:=[_,_]) ⟨0,[_],rfl,ic vm,by simp[Value.cells],1,[_],rfl,ic qS,by simp[Value.cells],rfl⟩ ?_;refine fO (A:=RT.di) (a:=(ns,ts)) G G hM (fM vm qS G G G G) G (λu5 w5 gg s5 _=>?_);replace hn:=hn.le s5.le;replace ht:=ht.le s5.le;replace vm:=vm.le s5.le;replace qS:=qS.le s5.le;replace hM:=s5.lt hM;have:=S.size;replace S:=S.ar s5;refine aJ G G (Rg.a8 G G (aS ?_));exact fk rfl rfl rfl ⟨_,by rw[if_pos ⟨by omega,cF.1 c1⟩],λ_ _=>gg,S⟩
end Go.K
namespace Go.K
theorem H4 (n:Nat):IntKind.u8.wrap (n:Int)=((UInt8.ofNat n).toNat:Int):=by
 rw[IntKind.wrap_u8];simp[UInt8.toNat_ofNat]
theorem acw:∀m:Nat,m<256->(BitVec.ofInt 8 (m:Int)|||BitVec.ofInt 8 128).toNat=128+m%128:=by decide+kernel
theorem Tu (n:Nat):IntKind.u8.wrap ((BitVec.ofInt IntKind.u8.bits (IntKind.u8.wrap (n:Int))|||BitVec.ofInt IntKind.u8.bits 128).toNat:Int)=((UInt8.ofNat (128+n%128)).toNat:Int):=by
 have h1:IntKind.u8.wrap (n:Int)=((n%256:Nat):Int):=by rw[IntKind.wrap_u8];omega
 rw[h1];show IntKind.u8.wrap ((BitVec.ofInt 8 ((n%256:Nat):Int)|||BitVec.ofInt 8 128).toNat:Int)=_;rw[acw (n%256) hV,IntKind.wrap_u8,show n%256%128=n%128 from by omega];simp[UInt8.toNat_ofNat]
theorem ajt (n:Nat):((n:Int)).fdiv (2^min (Int.toNat 7) IntKind.i64.bits)=((n/128:Nat):Int):=by
 show((n:Int)).fdiv 128=_;rw[Int.fdiv_eq_ediv_of_nonneg _ q0];rfl
theorem H5:∀m:Nat,m<256->(BitVec.ofInt 8 (m:Int)&&& ~~~ BitVec.ofInt 8 128).toNat=m%128:=by decide+kernel
theorem FO (c:UInt8):IntKind.u8.wrap ((BitVec.ofInt IntKind.u8.bits (c.toNat:Int)&&& ~~~ BitVec.ofInt IntKind.u8.bits 128).toNat:Int)=((c.toNat%128:Nat):Int):=by
 show IntKind.u8.wrap ((BitVec.ofInt 8 (c.toNat:Int)&&& ~~~ BitVec.ofInt 8 128).toNat:Int)=_;rw[H5 c.toNat (by have:=c.toNat_lt;omega),IntKind.wrap_u8];omega
theorem Pq (k n x:Nat) (hk:k<=8) (hn:n<128^k) (hx:x<128):
  IntKind.i64.wrap ((BitVec.ofInt IntKind.i64.bits (n:Int)|||BitVec.ofInt IntKind.i64.bits (IntKind.i64.wrap ((x:Int)*2^min (Int.toNat (7*(k:Int))) IntKind.i64.bits))).toNat:Int)=((n+x*128^k:Nat):Int):=by
 have e7:Int.toNat (7*(k:Int))=7*k:=by omega
 have e1:min (7*k) 64=7*k:=by omega
 have e2:(128:Nat)^k=2^(7*k):=by rw[Nat.pow_mul]
 have hp:2^(7*k)<=2^56:=yt q0 hV;have hb:x*2^(7*k)<=127*2^(7*k):=Nat.mul_le_mul_right _ hV;rw[e2]at hn ⊢;show IntKind.i64.wrap ((BitVec.ofInt 64 (n:Int)|||BitVec.ofInt 64 (IntKind.i64.wrap ((x:Int)*2^min (Int.toNat (7*(k:Int))) 64))).toNat:Int)=_;rw[e7,e1];have e3:((x:Int)*2^(7*k))=((x*2^(7*k):Nat):Int):=by simp
 have e5:n|||x*2^(7*k)=n+x*2^(7*k):=by
  rw[Nat.or_comm,Nat.mul_comm x,<-Nat.two_pow_add_eq_or_of_lt hn x,Nat.add_comm]
 rw[e3];generalize x*2^(7*k)=y at*
 generalize 2^(7*k)=z at*
 have e4:∀m:Nat,m<2^64->(BitVec.ofInt 64 (m:Int))=BitVec.ofNat 64 m:=λm _=>by simp
 rw[jC (y:Int) hV,e4 n hV,e4 y hV,BitVec.toNat_or,BitVec.toNat_ofNat,BitVec.toNat_ofNat,Nat.mod_eq_of_lt hV,Nat.mod_eq_of_lt hV,e5,jC _ hV]
theorem tX (x:Int): -9223372036854775808<=IntKind.i64.wrap x/\IntKind.i64.wrap x<=9223372036854775807:=by rw[IntKind.wrap_i64];omega
end Go.K

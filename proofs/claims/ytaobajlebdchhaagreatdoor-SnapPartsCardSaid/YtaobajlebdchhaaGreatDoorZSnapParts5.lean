/- What the law 'SnapParts' needs of walks and plain Lean, part 5: nothing is assumed beyond the texts that it imports. -/
import Derived.KernelRfl
import Derived.Lib.SliceRun
import Derived.Test.YtaobajlebdchhaaGreatDoorProg
import Derived.Test.YtaobajlebdchhaaGreatDoorZSnapParts1
import Derived.Test.YtaobajlebdchhaaGreatDoorZSnapParts2
import Derived.Test.YtaobajlebdchhaaGreatDoorZSnapParts3
import Derived.Test.YtaobajlebdchhaaGreatDoorZSnapParts4
set_option linter.unusedVariables false
set_option linter.unusedSimpArgs false
namespace Go.K
open Go.Proofs
namespace TKAdv
theorem k4:TI Tryz.prog 117 (.slice none 0 0) 1 24:=by unfold TI;kernel_rfl
theorem VB:Enters Tryz.prog 166:=enters Tryz.func166 rfl XT
theorem VC:Enters Tryz.prog 221:=enters Tryz.func221 rfl XT
theorem anG:Enters Tryz.prog 222:=enters Tryz.func222 rfl XT
theorem anH:Enters Tryz.prog 223:=enters Tryz.func223 rfl XT
theorem afT:Enters Tryz.prog 224:=enters Tryz.func224 rfl XT
end TKAdv
open TKAdv
set_option maxRecDepth 10000
set_option maxHeartbeats 2000000 in
theorem pR {M:aE} {w0:World} {bc:Nat} {l:List Po} {i to:Int} (h:Cu 323 l i M w0 bc) (hM:Lt M w0) (hm:eN (-1) l=true) (qm:∀p∈l,p.2.length<=1099511627776) (Cb:(eH (-1) l).length<=1099511627776) (TN:l.length<=1099511627776) (hto: -9223372036854775808<=to/\to<=9223372036854775807):
  Spec Tryz.prog 166 #[.pointer (some ⟨bc,0,none⟩),.int .i64 to] w0 (λv' w'=>v'= .int .i64 (eB l (tS l i to))/\Step M w0 M w' (λb=>b=bc)/\Cu 323 l (tS l i to) M w' bc):=by
 obtain⟨p,u,k,Fv,yW,hb,hp,hu,hi,hk,O5,qJ⟩:=id h;have TM:(j5 l).2.1.length=(l.length+7)/8:=by simp[j5,qq]
 have EZ:∀b:Nat,b=bc->M b:=λb hb=>by rw[hb];exact yW
 have hdr:=xi hm i;refine aS (args:=[_,_]) (fn:=Tryz.f166) Tryz.func166 G (n:=107) Tryz.ntmps166 (T.aO ?_);refine iP M G G (λbt w1 ht ht' hT s1=>?_);change w1.heap[bt]? =some (.cells #[.int .i64 to] _ _)at hT;have Rr:bt≠bc:=by have:=ae hb;omega
 have ua:=s1.ay hb;generalize Cf:ins M bt=M1 at s1;have tn:=s1.lt hM;have TX:=hp.le XT s1.le;have jP:=hu.le s1.le;have Cg:=(s1.mem bc (ae hb)).2 yW;have hcM:∀b:Nat,b=bc->M1 b:=λb h=>by rw[h];exact Cg
 refine Rg.aZ G G (aI (aI ?_));apply T.draw (M:=M1) mixed [cw.eq _,cw.eq _,cw.eq _,cw.eq _,cw.eq _,cw.eq _]
 ·rfl
 ·refine aH ?_ ?_
  ·intro wD E sD;refine aA aj G G G (cg sD a00) G ?_;exact a02
  refine aH ?_ ?_
  ·intro wD E sD;refine ab G G ?_;exact a02
  refine aH ?_ ?_
  ·intro wD E sD;refine aw (aL G ⟨_,G⟩ G ?_);exact a02
  refine aH ?_ ?_
  ·intro wD E sD;refine aw (aK bX G G I3 XT G G ?_);exact a02
  refine aH ?_ ?_
  ·intro wD E sD;refine aw (aA aj G G G (cg sD a00) G ?_);exact a02
  refine aH ?_ ?_
  ·intro wD E sD;refine aw (aw (gF G G G ?_));exact a02
  exact sd
 ·intro MI mM;refine aw (aw (aw (aw (aw (aw ?_)))));have Ih:=mM.ay ua;refine bI G (λc1=>?_) (λc1=>?_)
  ·refine T.aO (ab G G (aL G ⟨_,G⟩ G (aK bX G G I3 XT G G (aA aj G G G a00 G (Rg.aZ G G (aM ?_))))));have he:tS l i to=i:=by unfold tS;rw[if_pos c1]
   rw[he];have S:=s1.av mM;exact aP G G ⟨G,S.back.dF a15 EZ,h.step S.back (λh=>h)⟩
  ·refine aR (T.aO (ab G G (aL G ⟨_,G⟩ G (aK bX G G I3 XT G G (aA aj G G G a00 G (Rg.max2 G G G (Rg.aZ G G (aI (aT ?_)))))))));refine cR (σ:=Nat) (λs=>[(0,.pointer (some ⟨bc,0,none⟩)),(3,.pointer (some ⟨bt,0,none⟩)),(5,.int .i64 s)]) (λs w=>s<=(l.length+7)/8/\cQ (-1) (l.take (8*s))<to/\Step M1 w1 M1 w ar) (λs=>(l.length+7)/8-s) (max k 0).toNat (.cons rfl (.cons rfl (.cons (by rw[show(((max k 0).toNat:Nat):Int)=max k 0 from by omega];rfl) .nil))) ?_ ?_
   ·exact⟨by omega,Mh hm hi hk O5 qJ q0,mM⟩
   ·rintro n w4 ⟨hn,O4,S4⟩;have Vp:=S4.ay ua;have hT4:=S4.ay hT;have Lr:=TX.le XT S4.le;refine aI (aI ?_);by_cases afU:(n:Int)<(((l.length+7)/8:Nat):Int)
    ·apply T.draw (M:=M1) mixed [cw.eq _,cw.eq _,cw.eq _,cw.eq _,cw.eq _,cw.eq _,cw.eq _,cw.eq (.bool true),cw.eq _,cw.eq _,cw.eq _,cw.eq _,cw.eq _,cw.eq _,cw.eq _,cw.eq _,cw.eq _]
     ·rfl
     ·refine aH ?_ ?_
      ·intro wD E sD;refine ab G G ?_;exact a02
      refine aH ?_ ?_
      ·intro wD E sD;refine ab G G ?_;exact a02
      refine aH ?_ ?_
      ·intro wD E sD;refine aw (aL G ⟨_,G⟩ G ?_);exact a02
      refine aH ?_ ?_
      ·intro wD E sD;refine aw (aK bX G G tY XT G G ?_);exact a02
      refine aH ?_ ?_
      ·intro wD E sD;refine aw (aA dT G G G (cg sD a00) G ?_);exact a02
      refine aH ?_ ?_
      ·intro wD E sD;refine aw ?_;refine aJ G G VC (nJ (M:=M1) (Lr.le XT sD.le)) (λr wc h=>?_);obtain⟨rfl,rfl⟩:=h;exact ad ⟨G,G,_,G,congrArg (λn:Nat=>Value.int .i64 n) TM,aV⟩
      refine aH ?_ ?_
      ·intro wD E sD;refine aw (aw (ck G G G ?_));exact a02
      refine aH ?_ ?_
      ·intro wD E sD;refine aw (aw (ab G G ?_));refine ad ⟨G,G,_,G,?_,aV⟩;exact congrArg Value.bool (decide_eq_true afU)
      refine aH ?_ ?_
      ·intro wD E sD;refine aw (ah G G (ab G G ?_));exact a02
      refine aH ?_ ?_
      ·intro wD E sD;refine aw (aw (ah G G (aL G ⟨_,G⟩ G ?_)));exact a02
      refine aH ?_ ?_
      ·intro wD E sD;refine aw (aw (ah G G (aK bX G G tY XT G G ?_)));exact a02
      refine aH ?_ ?_
      ·intro wD E sD;refine aw (aw (ah G G (aA dT G G G (cg sD a00) G ?_)));exact a02
      refine aH ?_ ?_
      ·intro wD E sD;refine aw (ah G G (ab G G ?_));exact a02
      refine aH ?_ ?_
      ·intro wD E sD;refine aw (aw (aw (aw (ah G G ?_))));refine aJ G G anG (Nk (k:=n) (Lr.le XT sD.le)) (λr wc h=>?_);obtain⟨rfl,rfl⟩:=h;exact a02
      refine aH ?_ ?_
      ·intro wD E sD;refine aw (ah G G (aA aj G G G (cg sD a00) G ?_));exact a02
      refine aH ?_ ?_
      ·intro wD E sD;refine aw (aw (aw (ah G G (ck G G G ?_))));exact a02
      refine aH ?_ ?_
      ·intro wD E sD;refine aw (aw (a8 G G G ?_));exact a02
      exact sd
     ·intro wD4 rW;refine aw (aw (aw (aw (aw (aw (aw (aw (aw (aw (aw (aw ?_)))))))))));refine aw (aw (aw (aw (aw ?_))));replace S4:=S4.av rW;replace Vp:=rW.ay Vp;replace hT4:=rW.ay hT4;replace Lr:=Lr.le XT rW.le;have hM4:=S4.lt tn;refine bI G (λc4=>?_) (λc4=>?_)
      ·refine aR (aT (aN (ab G G (br G G G q0 (Rg.aZ G G ?_)))));refine⟨G,n+1,a07,?_,?_⟩
       ·have E1:=Ft (g:=l) (k:=n) q0;refine⟨by omega,?_,S4⟩;rw[show 8*(n+1)=8*n+8 from by omega,<-E1];exact c4
       ·show _-(n+1)<_-n;omega
      ·refine cE (aI (T.aO (ab G G (ab G G (aL G ⟨_,G⟩ G (aK bX G G tY XT G G (aA dT G G G a00 G ?_)))))));refine aJ G G VC (nJ (M:=M1) Lr) (λr wc h=>?_);obtain⟨rfl,rfl⟩:=h;refine aY (v':= .int .i64 (((l.length+7)/8:Nat):Int)) (congrArg (λn:Nat=>Value.int .i64 n) TM) (gN G G G (ad ?_));refine bI G (λc6=>?_) (λc6=>?_)
       ·exfalso;omega
       ·have hnk:n<(l.length+7)/8:=by omega
        have hhi:to<=cQ (-1) (l.take (8*n+8)):=by
         first
         |(exfalso;omega)
         |(have:=Ft (g:=l) (k:=n) q0;omega)
        refine aR (aI (T.aO (ab G G (ab G G (aL G ⟨_,G⟩ G (aK bX G G I3 XT G G (aA aj G G G a00 G (eR G G G (ad ?_)))))))));refine bI G (λc9=>?_) (λc9=>?_)
        ·refine T.aO (ab G G (ab G G (ab G G (ab G G (aL G ⟨_,G⟩ G (aK bX G G tY XT G G (aA dT G G G a00 G (ab G G ?_))))))));refine aJ G G anH (Jz (M:=M1) (k:=n) hM4 Lr hm qm Cb) (λMQ w10 h=>?_);obtain⟨oT,Ng⟩:=h;rw[if_pos (by unfold O0;simp;omega),aq]at Ng;have anJ:=oT.ay Vp;refine aL G ⟨_,G⟩ G (aK bX G G I3 XT G G ?_);refine ch (M:=M1) I3 G G anJ G G Cg (λUB afV pC=>?_);change UB.heap[bc]? =some (.cells #[p,.int .i64 n,u,.int .i64 (eB l i),.int .i64 Fv] 323 (0,0))at afV;refine aL G ⟨_,G⟩ G (aK bX G G k4 XT G G ?_);refine ch (M:=M1) k4 G G afV G (jL Ng G G) Cg (λH7 VD jM=>?_);change H7.heap[bc]? =some (.cells #[p,.int .i64 n,MQ,.int .i64 (eB l i),.int .i64 Fv] 323 (0,0))at VD;refine ad (aN (ab G G (aL G ⟨_,G⟩ G (aK bX G G I3 XT G G (aA aj G G G a00 G (qH G G G (aL G ⟨_,G⟩ G (aK bX G G I3 XT G G ?_))))))));refine ch (M:=M1) I3 G G VD G G Cg (λVi aaD oh=>?_);change Vi.heap[bc]? =some (.cells #[p,.int .i64 n,MQ,.int .i64 (eB l i),.int .i64 (IntKind.i64.wrap (Fv+1))] 323 (0,0))at aaD;obtain⟨lf,uX,cX,s,wX,hwX,hbX,hlV,Yq,yN,pZ,xx,hs4,hpX,hTX,SX⟩:∃lf uX cX s wX,wX=Vi/\wX.heap[bc]? =some (.cells #[p,.int .i64 n,uX,.int .i64 (eB l i),.int .i64 cX] 323 (0,0))/\((RT.po).sl).V M1 wX lf uX/\lf=(l.drop s).take (8*n+8-s)/\8*n<=s/\s<8*n+8/\s<l.length/\cQ (-1) (l.take s)<to/\cG RT.li M1 wX p (j5 l)/\wX.heap[bt]? =some (.cells #[.int .i64 to] 3 (0,0))/\Step M1 w1 M1 wX (λb=>b=bc):=⟨_,MQ,_,8*n,Vi,rfl,aaD,((Ng.le pC.le).le jM.le).le oh.le,by rw[show 8*n+8-8*n=8 from by omega],by omega,by omega,by omega,O4,(((Lr.le XT oT.le).le XT pC.le).le XT jM.le).le XT oh.le,oh.bL (jM.bL (pC.bL (oT.ay hT4) Rr) Rr) Rr,((((S4.dF a15 hcM).av oT).trans pC (λ_ _ h=>h)).trans jM (λ_ _ h=>h)).trans oh (λ_ _ h=>h)⟩
         subst hwX;clear aaD;refine ad (aI ?_);obtain⟨ha1,Wu,ha3,ha4,ha5⟩:=CG hm yN pZ xx hs4 hhi Yq;have hMX:=SX.lt tn;obtain⟨⟨d,ps⟩,hx⟩:∃x,l[idx l to]? =some x:=⟨_,an ha3⟩;have hh:=nL hx;have hhl:=(al.1 hh).1;apply T.sN (M:=M1) mixed [] [cw.eq _,cw.eq _,cw.eq _,cw.eq _,cw.eq uX,cw.eq _,cw.eq _,cw.eq _,cw.eq uX,cw.eq _,cw.eq _,cw.V ((RT.po).sl) (lL l (idx l to:Nat))] 12
         ·rfl
         ·rfl
         ·rfl
         ·rfl
         ·rfl
         ·exact a90
         ·exact sf
         ·refine az ?_ ?_
          ·intro wD E sD;refine ab G G ?_;exact a02
          refine az ?_ ?_
          ·intro wD E sD;refine ab G G ?_;exact a02
          refine az ?_ ?_
          ·intro wD E sD;refine aw (aL G ⟨_,G⟩ G ?_);exact a02
          refine az ?_ ?_
          ·intro wD E sD;refine aw (aK bX G G k4 XT G G ?_);exact a02
          refine az ?_ ?_
          ·intro wD E sD;refine aw (aA bC G G G (cg sD a00) G ?_);exact a02
          refine az ?_ ?_
          ·intro wD E sD;refine ab G G ?_;exact a02
          refine az ?_ ?_
          ·intro wD E sD;refine aw (aL G ⟨_,G⟩ G ?_);exact a02
          refine az ?_ ?_
          ·intro wD E sD;refine aw (aK bX G G k4 XT G G ?_);exact a02
          refine az ?_ ?_
          ·intro wD E sD;refine aw (aA bC G G G (cg sD a00) G ?_);exact a02
          refine az ?_ ?_
          ·intro wD E sD;refine gz (xs:=[]) (ys:=[.tmp 3]) G G G ?_;exact a02
          refine az ?_ ?_
          ·intro wD E sD;refine aw (aw ?_);refine aJ G G afT (vX (M:=M1) (sD.lt hMX) (hlV.le sD.le) (sD.ay hTX)) (λr wi h=>?_);obtain⟨rfl,s⟩:=h;refine aY (v':= .int .i64 ((idx lf to:Nat):Int)) (by rw[if_pos Wu]) ?_;exact ad ⟨G,G,_,G,G,s⟩
          refine az ?_ ?_
          ·intro wD E sD;refine aw (aw ?_);refine Rg.pb (A:=RT.po) (hn:=by decide) bC jl G G G (hlV.le sD.le) q0 (λu hu=>?_);rw[aq,ha5]at hu;exact ad ⟨G,G,_,G,hu,aV⟩
          exact kA
         ·intro JE o0;refine aw (aw (aw (aw (aw (aw (aw (aw (aw (aw (aw ?_))))))))));intro pS Ew;have aaE:=o0.ay hbX;have lJ:((RT.po).sl).V M1 JE (lL l (idx l to:Nat)) pS:=Ew;have S14:=SX.av o0;refine aL G ⟨_,G⟩ G (aK bX G G k4 XT G G ?_);refine ch (M:=M1) k4 G G aaE G (jL lJ G G) Cg (λIa RG l7=>?_);change Ia.heap[bc]? =some (.cells #[p,.int .i64 n,pS,.int .i64 (eB l i),.int .i64 cX] 323 (0,0))at RG;replace lJ:=lJ.le l7.le;refine ad (T.aO (ab G G (ab G G (aL G ⟨_,G⟩ G (aK bX G G k4 XT G G (aA bC G G G a00 G ?_))))));refine cx bC jl G G G (lJ) b4 a62 (λafX RH JQ aaF=>?_);obtain rfl:(d,ps)=RH:=dV (aF (JQ.symm.trans (by simpa using hh)));refine au (M:=M1) (A:=RT.po) (B:=RT.int .i64) cv G G I3 XT (TP) G G XT a00 (by repeat (first|exact bN _ _|refine bp (bO a00) ?_)) (λWX PW=>?_);refine bV (M:=M1) aj G G a00 (by repeat (first|exact bN _ _|refine bp (bO a00) ?_)) (λA1=>?_);refine aY (v':= .int .i64 (d)) G ?_;replace A1: -9223372036854775808<=(d:Int)/\d<=9223372036854775807:=A1;refine aL G ⟨_,G⟩ G (aK bX G G I3 XT G G ?_);refine ch (M:=M1) I3 G G RG G G Cg (λXk RI JG=>?_);change Xk.heap[bc]? =some (.cells #[p,.int .i64 n,pS,.int .i64 d,.int .i64 cX] 323 (0,0))at RI;replace lJ:=lJ.le JG.le;refine ad (T.aO (ab G G (aL G ⟨_,G⟩ G (aK bX G G I3 XT G G (aA aj G G G a00 G (Rg.aZ G G (aM ?_)))))))
          have he:tS l i to=(idx l to:Int):=by unfold tS;rw[if_neg c1]
          rw[he];have S7:=((s1.dF a15 EZ).trans ((S14.trans l7 (λ_ _ h=>h)).trans JG (λ_ _ h=>h)) (λ_ _ h=>h));exact aP rfl rfl ⟨by rw[iH hx];rfl,S7.back,p,pS,n,cX,yW,by rw[iH hx];exact RI,(hp.le XT S7.back.le),lJ.le (ni hM S7),by omega,by omega,λh=>by omega,λ_ h=>by omega⟩
        ·have axb:=(kV l (-1) hm XT (8*n+8)).2
         obtain⟨Wq,BH⟩:0<=i/\i<l.length:=by
          rcases eX l i with⟨h0,_⟩|⟨j,d,ps,rfl,hx,_⟩|⟨h0,h1,_⟩
          ·have:=O5 h0;omega
          ·have:=(al.1 hx).1;omega
          ·omega
         have Fj:=qJ Wq BH;obtain⟨j,jt⟩:∃j:Nat,i=j:=⟨i.toNat,by omega⟩;obtain⟨⟨dj,pj⟩,G5⟩:∃x,l[j]? =some x:=⟨_,an q0⟩;have hdj:=iH G5;rw[<-jt]at hdj;have hlj:=(qU hm G5).1;obtain rfl:(n:Int)=k:=by omega
         have KL:=jP.le S4.le;obtain⟨lf,uX,cX,s,wX,hwX,hbX,hlV,Yq,yN,pZ,xx,hs4,hpX,hTX,SX⟩:∃lf uX cX s wX,wX=_/\wX.heap[bc]? =some (.cells #[p,.int .i64 n,uX,.int .i64 (eB l i),.int .i64 cX] 323 (0,0))/\((RT.po).sl).V M1 wX lf uX/\lf=(l.drop s).take (8*n+8-s)/\8*n<=s/\s<8*n+8/\s<l.length/\cQ (-1) (l.take s)<to/\cG RT.li M1 wX p (j5 l)/\wX.heap[bt]? =some (.cells #[.int .i64 to] 3 (0,0))/\Step M1 w1 M1 wX (λb=>b=bc):=⟨_,u,Fv,j,_,rfl,Vp,KL,by rw[jt];unfold lL;rw[if_neg q0,aq,show 8*n+8-j=8-j%8 from by omega],by omega,by omega,by omega,by omega,Lr,hT4,S4.dF a15 hcM⟩;subst hwX;clear Vp;refine aR (aI ?_);obtain⟨ha1,Wu,ha3,ha4,ha5⟩:=CG hm yN pZ xx hs4 hhi Yq;have hMX:=SX.lt tn;obtain⟨⟨d,ps⟩,hx⟩:∃x,l[idx l to]? =some x:=⟨_,an ha3⟩;have hh:=nL hx;have hhl:=(al.1 hh).1;apply T.sN (M:=M1) mixed [] [cw.eq _,cw.eq _,cw.eq _,cw.eq _,cw.eq uX,cw.eq _,cw.eq _,cw.eq _,cw.eq uX,cw.eq _,cw.eq _,cw.V ((RT.po).sl) (lL l (idx l to:Nat))] 12
         ·rfl
         ·rfl
         ·rfl
         ·rfl
         ·rfl
         ·exact a90
         ·exact sf
         ·refine az ?_ ?_
          ·intro wD E sD;refine ab G G ?_;exact a02
          refine az ?_ ?_
          ·intro wD E sD;refine ab G G ?_;exact a02
          refine az ?_ ?_
          ·intro wD E sD;refine aw (aL G ⟨_,G⟩ G ?_);exact a02
          refine az ?_ ?_
          ·intro wD E sD;refine aw (aK bX G G k4 XT G G ?_);exact a02
          refine az ?_ ?_
          ·intro wD E sD;refine aw (aA bC G G G (cg sD a00) G ?_);exact a02
          refine az ?_ ?_
          ·intro wD E sD;refine ab G G ?_;exact a02
          refine az ?_ ?_
          ·intro wD E sD;refine aw (aL G ⟨_,G⟩ G ?_);exact a02
          refine az ?_ ?_
          ·intro wD E sD;refine aw (aK bX G G k4 XT G G ?_);exact a02
          refine az ?_ ?_
          ·intro wD E sD;refine aw (aA bC G G G (cg sD a00) G ?_);exact a02
          refine az ?_ ?_
          ·intro wD E sD;refine gz (xs:=[]) (ys:=[.tmp 3]) G G G ?_;exact a02
          refine az ?_ ?_
          ·intro wD E sD;refine aw (aw ?_);refine aJ G G afT (vX (M:=M1) (sD.lt hMX) (hlV.le sD.le) (sD.ay hTX)) (λr wi h=>?_);obtain⟨rfl,s⟩:=h;refine aY (v':= .int .i64 ((idx lf to:Nat):Int)) (by rw[if_pos Wu]) ?_;exact ad ⟨G,G,_,G,G,s⟩
          refine az ?_ ?_
          ·intro wD E sD;refine aw (aw ?_);refine Rg.pb (A:=RT.po) (hn:=by decide) bC jl G G G (hlV.le sD.le) q0 (λu hu=>?_);rw[aq,ha5]at hu;exact ad ⟨G,G,_,G,hu,aV⟩
          exact kA
         ·intro JE o0;refine aw (aw (aw (aw (aw (aw (aw (aw (aw (aw (aw ?_))))))))));intro pS Ew;have aaE:=o0.ay hbX;have lJ:((RT.po).sl).V M1 JE (lL l (idx l to:Nat)) pS:=Ew;have S14:=SX.av o0;refine aL G ⟨_,G⟩ G (aK bX G G k4 XT G G ?_);refine ch (M:=M1) k4 G G aaE G (jL lJ G G) Cg (λIa RG l7=>?_);change Ia.heap[bc]? =some (.cells #[p,.int .i64 n,pS,.int .i64 (eB l i),.int .i64 cX] 323 (0,0))at RG;replace lJ:=lJ.le l7.le;refine ad (T.aO (ab G G (ab G G (aL G ⟨_,G⟩ G (aK bX G G k4 XT G G (aA bC G G G a00 G ?_))))));refine cx bC jl G G G (lJ) b4 a62 (λafX RH JQ aaF=>?_);obtain rfl:(d,ps)=RH:=dV (aF (JQ.symm.trans (by simpa using hh)));refine au (M:=M1) (A:=RT.po) (B:=RT.int .i64) cv G G I3 XT (TP) G G XT a00 (by repeat (first|exact bN _ _|refine bp (bO a00) ?_)) (λWX PW=>?_);refine bV (M:=M1) aj G G a00 (by repeat (first|exact bN _ _|refine bp (bO a00) ?_)) (λA1=>?_);refine aY (v':= .int .i64 (d)) G ?_;replace A1: -9223372036854775808<=(d:Int)/\d<=9223372036854775807:=A1;refine aL G ⟨_,G⟩ G (aK bX G G I3 XT G G ?_);refine ch (M:=M1) I3 G G RG G G Cg (λXk RI JG=>?_);change Xk.heap[bc]? =some (.cells #[p,.int .i64 n,pS,.int .i64 d,.int .i64 cX] 323 (0,0))at RI;replace lJ:=lJ.le JG.le;refine ad (T.aO (ab G G (aL G ⟨_,G⟩ G (aK bX G G I3 XT G G (aA aj G G G a00 G (Rg.aZ G G (aM ?_)))))))
          have he:tS l i to=(idx l to:Int):=by unfold tS;rw[if_neg c1]
          rw[he];have S7:=((s1.dF a15 EZ).trans ((S14.trans l7 (λ_ _ h=>h)).trans JG (λ_ _ h=>h)) (λ_ _ h=>h));exact aP rfl rfl ⟨by rw[iH hx];rfl,S7.back,p,pS,n,cX,yW,by rw[iH hx];exact RI,(hp.le XT S7.back.le),lJ.le (ni hM S7),by omega,by omega,λh=>by omega,λ_ h=>by omega⟩
    ·apply T.draw (M:=M1) mixed [cw.eq _,cw.eq _,cw.eq _,cw.eq _,cw.eq _,cw.eq _,cw.eq _,cw.eq (.bool false),cw.eq undef,cw.eq undef,cw.eq undef,cw.eq undef,cw.eq undef,cw.eq undef,cw.eq undef,cw.eq undef,cw.eq _]
     ·rfl
     ·refine aH ?_ ?_
      ·intro wD E sD;refine ab G G ?_;exact a02
      refine aH ?_ ?_
      ·intro wD E sD;refine ab G G ?_;exact a02
      refine aH ?_ ?_
      ·intro wD E sD;refine aw (aL G ⟨_,G⟩ G ?_);exact a02
      refine aH ?_ ?_
      ·intro wD E sD;refine aw (aK bX G G tY XT G G ?_);exact a02
      refine aH ?_ ?_
      ·intro wD E sD;refine aw (aA dT G G G (cg sD a00) G ?_);exact a02
      refine aH ?_ ?_
      ·intro wD E sD;refine aw ?_;refine aJ G G VC (nJ (M:=M1) (Lr.le XT sD.le)) (λr wc h=>?_);obtain⟨rfl,rfl⟩:=h;exact ad ⟨G,G,_,G,congrArg (λn:Nat=>Value.int .i64 n) TM,aV⟩
      refine aH ?_ ?_
      ·intro wD E sD;refine aw (aw (ck G G G ?_));exact a02
      refine aH ?_ ?_
      ·intro wD E sD;refine aw (aw (ab G G ?_));refine ad ⟨G,G,_,G,?_,aV⟩;exact congrArg Value.bool (decide_eq_false afU)
      refine aH ?_ ?_
      ·intro wD E sD;refine aw ?_;exact a08
      refine aH ?_ ?_
      ·intro wD E sD;refine aw (aw ?_);exact a08
      refine aH ?_ ?_
      ·intro wD E sD;refine aw (aw ?_);exact a08
      refine aH ?_ ?_
      ·intro wD E sD;refine aw (aw ?_);exact a08
      refine aH ?_ ?_
      ·intro wD E sD;refine aw ?_;exact a08
      refine aH ?_ ?_
      ·intro wD E sD;refine aw (aw (aw (aw ?_)));exact a08
      refine aH ?_ ?_
      ·intro wD E sD;refine aw ?_;exact a08
      refine aH ?_ ?_
      ·intro wD E sD;refine aw (aw (aw ?_));exact a08
      refine aH ?_ ?_
      ·intro wD E sD;refine aw (aw (aD G G G ?_));exact a02
      exact sd
     ·intro wD4 rW;refine aw (aw (aw (aw (aw (aw (aw (aw (aw (aw (aw (aw ?_)))))))))));refine aw (aw (aw (aw (aw ?_))));replace S4:=S4.av rW;replace Vp:=rW.ay Vp;replace hT4:=rW.ay hT4;replace Lr:=Lr.le XT rW.le;have hM4:=S4.lt tn;refine gy G (cE (aI (T.aO (ab G G (ab G G (aL G ⟨_,G⟩ G (aK bX G G tY XT G G (aA dT G G G a00 G ?_))))))));refine aJ G G VC (nJ (M:=M1) Lr) (λr wc h=>?_);obtain⟨rfl,rfl⟩:=h;refine aY (v':= .int .i64 (((l.length+7)/8:Nat):Int)) (congrArg (λn:Nat=>Value.int .i64 n) TM) (gN G G G (ad ?_));refine bI G (λc6=>?_) (λc6=>?_)
      ·refine T.aO (ab G G (ab G G (aL G ⟨_,G⟩ G (aK bX G G k4 XT G G ?_))));refine ch (M:=M1) k4 G G Vp G G Cg (λw7 hb7 s7=>?_);change w7.heap[bc]? =some (.cells #[p,.int .i64 k,.slice none 0 0,.int .i64 (eB l i),.int .i64 Fv] 323 (0,0))at hb7;refine aL G ⟨_,G⟩ G (aK bX G G I3 XT G G ?_);refine ch (M:=M1) I3 G G hb7 G G Cg (λw8 hb8 s8=>?_);change w8.heap[bc]? =some (.cells #[p,.int .i64 k,.slice none 0 0,.int .i64 2147483648,.int .i64 Fv] 323 (0,0))at hb8;refine ad (T.aO (Rg.aZ G G (aM ?_)));have he:tS l i to=(l.length:Int):=by unfold tS;rw[if_neg c1,Un hm (n:=8*n) q0 O4]
       rw[he];have S7:=((s1.av S4).dF a15 EZ).trans ((s7.trans s8 (λ_ _ h=>h))) (λ_ _ h=>h);exact aP rfl rfl ⟨by rw[rO (nP _)],S7.back,p,.slice none 0 0,k,Fv,yW,by rw[rO (nP _)];exact hb8,(hp.le XT S7.back.le),by rw[JP (nP _)];exact gC,by omega,hk,λh=>by omega,λ_ h=>by omega⟩
      ·exfalso;omega
theorem k7 {M:aE} {w0:World} {bc:Nat} {l:List Po} {i:Int} (h:Cu 323 l i M w0 bc) (hM:Lt M w0) (hm:eN (-1) l=true) (qm:∀p∈l,p.2.length<=1099511627776) (Cb:(eH (-1) l).length<=1099511627776) (TN:l.length<=1099511627776):
  Spec Tryz.prog 164 #[.pointer (some ⟨bc,0,none⟩)] w0 (λv' w'=>v'= .int .i64 (eB l (kL l i))/\Step M w0 M w' (λb=>b=bc)/\Cu 323 l (kL l i) M w' bc):=by
 obtain⟨p,u,k,Fv,yW,hb,hp,hu,hi,hk,O5,qJ⟩:=id h;have hdr:=xi hm i;refine aS (args:=[_]) (fn:=Tryz.f164) Tryz.func164 G (n:=11) Tryz.ntmps164 (T.aO (Rg.aZ G G (T.aO (ab G G (ab G G (aL G ⟨_,G⟩ G (aK bX G G I3 XT G G (aA aj G G G a00 G ?_))))))));refine br G G G q0 (Rg.min2 G G G ?_);have hn:tS l i (min (eB l i+1) 2147483648)=kL l i:=RF hm hi;refine aJ G G VB (pR (to:=min (eB l i+1) 2147483648) h hM hm qm Cb TN q0) (λr w1 h1=>?_);rw[hn]at h1;obtain⟨rfl,s1,h1⟩:=h1;refine Rg.aZ G G (aM ?_);exact aP G G ⟨G,s1,h1⟩
end Go.K
namespace Go.K
open Go.Proofs
namespace TKErsA
theorem anS:TI Tryz.prog 213 (.pointer none) 1 8:=by unfold TI;kernel_rfl
theorem aaA:TI Tryz.prog 323 (.agg #[(.pointer none),(.int .i64 0),(.slice none 0 0),(.int .i64 0),(.int .i64 0)]) 5 56:=by unfold TI;kernel_rfl
theorem aaB:placesOf Tryz.prog 323=[(0,1),(1,1),(2,1),(3,1),(4,1)].map some:=by kernel_rfl
theorem Vt:Enters Tryz.prog 155:=enters Tryz.func155 rfl XT
theorem anT:Enters Tryz.prog 218:=enters Tryz.func218 rfl XT
theorem anU:Enters Tryz.prog 219:=enters Tryz.func219 rfl XT
end TKErsA
open TKErsA
set_option maxRecDepth 10000
abbrev Er:=Fd×Int
abbrev RT.er:RT Er:=RT.pair RT.fd (RT.int .i64)
theorem er0:Part RT.er RT.fd (λp=>p.1) 0:=kO _ _
theorem er1:Part RT.er (RT.int .i64) (λp=>p.2) 2:=fH _ _
theorem aaG {M:aE} {w:World} {p:Er} {v:Value} (h:RT.er.V M w p v):v= .agg #[.string ⟨p.1.1.toArray⟩,.string ⟨p.1.2.toArray⟩,.int .i64 p.2]/\(p.1.1.length<=140737488355328/\p.1.2.length<=140737488355328)/\ -9223372036854775808<=p.2/\p.2<=9223372036854775807:=by
 obtain⟨vs,⟨va,vb,rfl,⟨vc,vd,rfl,⟨rfl,h1⟩,⟨rfl,h2⟩⟩,⟨rfl,h3⟩⟩,rfl⟩:=h;exact⟨G,⟨h1,h2⟩,h3⟩
theorem afZ {M:aE} {w:World} {p:Er} (h1:p.1.1.length<=140737488355328/\p.1.2.length<=140737488355328) (h2: -9223372036854775808<=p.2/\p.2<=9223372036854775807):RT.er.V M w p (.agg #[.string ⟨p.1.1.toArray⟩,.string ⟨p.1.2.toArray⟩,.int .i64 p.2]):=
 ⟨[.string ⟨p.1.1.toArray⟩,.string ⟨p.1.2.toArray⟩,.int .i64 p.2],⟨[.string ⟨p.1.1.toArray⟩,.string ⟨p.1.2.toArray⟩],[.int .i64 p.2],rfl,⟨_,_,rfl,⟨rfl,h1.1⟩,⟨rfl,h1.2⟩⟩,rfl,h2⟩,rfl⟩
theorem G6 {M:aE} (w0:World) (hM:Lt M w0):
  Spec Tryz.prog 219 #[.pointer none] w0 (λv' w'=>∃bc,v'= .pointer (some ⟨bc,0,none⟩)/\w0.heap.size<=bc/\Step M w0 (ins M bc) w' ar/\Cu 323 [] (-1) (ins M bc) w' bc):=by
 refine aS (args:=[_]) (fn:=Tryz.f219) Tryz.func219 G (n:=12) Tryz.ntmps219 (T.aO (Rg.aZ G G (aI (T.aO (ab G G (Rg.sU dT G G G (ad (T.OB G (G) ?_))))))));refine aN ?_;refine aJ G G Vt (xR (l:=[]) hM gC (λp h=>by cases h) XT XT XT) (λr2 w2 hc=>?_);obtain⟨s2,fN,_⟩:=hc;obtain⟨p,rfl,hp⟩:=fN rfl;obtain⟨q,rfl⟩:=hp.lx;refine ab rfl rfl (b9 rfl rfl rfl (b9 rfl rfl rfl (Rg.aZ rfl rfl (T.aO (ab rfl rfl (dp (places:=[(0,1),(1,1),(2,1),(3,1),(4,1)]) bX aaA aaB rfl ⟨_,_,rfl,rfl,_,_,rfl,rfl,_,_,rfl,rfl,rfl⟩ (out:=[_,_,.slice none 0 0,_,.int .i64 0]) ⟨0,[_],rfl,rfl,by simp[Value.cells],1,[_],rfl,rfl,by simp[Value.cells],3,[_],rfl,rfl,by simp[Value.cells],rfl⟩ ?_))))));refine iP M G G (λbc w3 h1 Uk hS s3=>?_);refine Rg.aZ G G (aM ?_);exact aP G G ⟨bc,G,by have:=s2.size;omega,s2.av s3,.pointer (some q),.slice none 0 0,-1,0,.inl rfl,hS,hp.le XT s3.le,gC,by decide,by decide,λ_=>rfl,λh=>by omega⟩
theorem G7 {M:aE} {v:Value} {l:List Po} (w0:World) (hM:Lt M w0) (h:cG RT.li M w0 v (j5 l)\/(v= .pointer none/\l=[])):Spec Tryz.prog 219 #[v] w0 (λv' w'=>∃bc,v'= .pointer (some ⟨bc,0,none⟩)/\w0.heap.size<=bc/\Step M w0 (ins M bc) w' ar/\Cu 323 l (-1) (ins M bc) w' bc):=by
 rcases h with h|⟨rfl,rfl⟩
 ·obtain⟨q,rfl⟩:=h.lx;exact Nr h
 ·exact G6 w0 hM
theorem pT {M:aE} {s:Se} {ls:List (List Po)} {t:Fd} {v0:Value} (w0:World) (hM:Lt M w0) (hs:cG RT.se M w0 v0 s) (Et:Ef s.2.2.1) (Oj:s.2.2.2=ls.map j5) (Ic:s.2.2.1.length=ls.length) (h1:t.1.length<=140737488355328) (h2:t.2.length<=140737488355328):
  Spec Tryz.prog 163 #[v0,kv t] w0 (λv' w'=>∃bc,v'= .pointer (some ⟨bc,0,none⟩)/\w0.heap.size<=bc/\Step M w0 (ins M bc) w' ar/\Cu 323 (qA s.2.2.1 ls (cN t)) (-1) (ins M bc) w' bc):=by
 refine aS (args:=[_,_]) (fn:=Tryz.f163) Tryz.func163 G (n:=19) Tryz.ntmps163 ?_;have S:Step M w0 M w0 ar:=aV;refine T.aO ?_;refine gR (A:=RT.fd) G G hM (D9 h1 h2) G (λu0 w1 dB s0 _=>?_);replace hs:=hs.le XT s0.le;replace hM:=s0.lt hM;have:=S.size;replace S:=S.av s0;refine Rg.aZ G G (aI ?_);apply T.draw (M:=M) mixed [cw.eq v0,cw.eq v0,cw.ptr ((RT.di).ptr) s.2.2,cw.ptr RT.di s.2.2,cw.eq (kv t),cw.eq (sv (cN t)),(cw.mk' (λv w=>∃p,v= .tuple #[p,.bool (decide (cN t∈s.2.2.1))]/\yG s.2.2 (cN t) M p w) (fun⟨p,h1,h2⟩ s=>⟨p,h1,h2.step s⟩)),(cw.mk' (λv w=>∃p,v= .tuple #[p,.bool (decide (cN t∈s.2.2.1))]/\yG s.2.2 (cN t) M p w) (fun⟨p,h1,h2⟩ s=>⟨p,h1,h2.step s⟩)),(cw.mk' (λv w=>yG s.2.2 (cN t) M v w) (λh s=>h.step s)),cw.eq (.bool (decide (cN t∈s.2.2.1))),(cw.mk' (λv w=>yG s.2.2 (cN t) M v w) (λh s=>h.step s)),cw.eq (.bool (decide (cN t∈s.2.2.1)))]
 ·rfl
 ·refine aH ?_ ?_
  ·intro wD E sD;refine ab G G ?_;exact a02
  refine aH ?_ ?_
  ·intro wD E sD;refine aw (aL G hs.lx G ?_);exact a02
  refine aH ?_ ?_
  ·intro wD E sD;refine aw ?_;refine au (M:=M) (A:=RT.se) (B:=(RT.di).ptr) Tryz.underlying215 G G anS XT se2 G G XT hs sD.le (λuf sH=>?_);exact a73
  refine aH ?_ ?_
  ·intro wD E sD;intro v2 E5;refine bM Tryz.underlying213 G G G G G (show cG ((RT.di).ptr) M wD v2 s.2.2 from E5) b4 (λvd hvd=>?_);exact ad ⟨G,G,_,G,K9.1 hvd,aV⟩
  refine aH ?_ ?_
  ·intro wD E sD;refine bZ (M:=M) (A:=RT.fd) bR G nE XT G G G dB sD.le (λvt TZ=>?_);obtain rfl:=j9 TZ;exact a02
  refine aH ?_ ?_
  ·intro wD E sD;refine aw ?_;refine aJ G G E95 (Nq (t:=t) _ (sD.lt hM) h1 h2) (λr5 w5 hc=>?_);obtain⟨rfl,s5⟩:=hc;exact ad ⟨G,G,_,G,G,s5⟩
  refine aH ?_ ?_
  ·intro wD E sD;intro v3 xH;refine aw (aw ?_);refine aJ rfl rfl anT (find_spec (k:=cN t) _ (sD.lt hM) (show cG RT.di M wD v3 s.2.2 from xH) Et (by rw[Oj,bT];exact Ic)) (λr6 w6 hc=>?_);obtain⟨s6,hr⟩:=hc;refine ad ⟨G,G,_,G,?_,s6⟩;rcases hr with⟨j,p,tl,rfl,h3,h4,h5⟩|⟨rfl,h3⟩
   ·exact⟨p,by rw[decide_eq_true (ax h3)],.inl ⟨j,tl,h3,h4,h5⟩⟩
   ·exact⟨_,by rw[decide_eq_false h3],.inr ⟨rfl,h3⟩⟩
  refine aH ?_ ?_
  ·intro wD E sD;intro v6 oR;refine ab G G ?_;exact ad ⟨G,G,_,G,oR,aV⟩
  refine aH ?_ ?_
  ·intro wD E sD;intro v7 Jf;obtain⟨p,rfl,hp⟩:=Jf;refine b9 G G G ?_;exact ad ⟨G,G,_,G,hp,aV⟩
  refine aH ?_ ?_
  ·intro wD E sD;intro v7 Jf;obtain⟨p,rfl,hp⟩:=Jf;refine b9 G G G ?_;exact a02
  refine aH ?_ ?_
  ·intro wD E sD;intro v8 E6;intro v6 oR;refine aw (aw ?_);intro v2 E5;intro v3 xH;refine aw (aw ?_);intro v6 oR;intro v7 Jf;intro v8 E6;refine aB G G ?_;exact ad ⟨G,G,_,G,E6,aV⟩
  refine aH ?_ ?_
  ·intro wD E sD;refine aw ?_;intro v10 uw;refine aw (aw ?_);intro v2 E5;intro v3 xH;refine aw (aw ?_);intro v6 oR;intro v7 Jf;intro v8 E6;refine aw ?_;intro v10 uw;refine aB G G ?_;exact a02
  exact sd
 ·intro MI mM;refine aw (aw ?_);intro Np qi;intro ZN La;refine aw (aw ?_);intro axe asx;intro afj Rf;intro axf asy;refine aw ?_;intro af0 JR;refine aw ?_;replace JR:yG s.2.2 (cN t) M af0 MI:=JR;have hF:=JR;replace hM:=mM.lt hM;replace S:=S.av mM;replace hs:=hs.le XT mM.le;replace dB:=dB.le XT mM.le;refine T.aO (ab G G ?_)
  refine aJ G G anU (G7 (l:=qA s.2.2.1 ls (cN t)) _ hM (by
   rcases hF with⟨j,tl,Yr,wR,yn⟩|⟨h,jj⟩
   ·rw[Oj,cD]at wR;obtain⟨l,hl1,rfl⟩:=tu.1 wR;exact .inl (by rw[RD Et.nodup Yr hl1];exact yn)
   ·exact .inr ⟨h,G1 jj⟩)) (λr2 w2 hc=>?_)
  obtain⟨bc,rfl,hbc,s2,kr⟩:=hc;refine Rg.aZ G G (aM ?_);exact aP G G ⟨bc,G,by have:=S.size;omega,S.av s2,kr⟩
end Go.K
namespace Go.K
open Go.Proofs
namespace TKErsB
theorem E73:Enters Tryz.prog 73:=enters Tryz.func73 rfl XT
theorem RJ:Enters Tryz.prog 163:=enters Tryz.func163 rfl XT
theorem Ex:Enters Tryz.prog 164:=enters Tryz.func164 rfl XT
end TKErsB
open TKErsB
set_option maxRecDepth 10000
def vY (l:List Po) (sq:List Int) (t:Int):List Int:=(l.map (·.1)).takeWhile λd=>decide (rX sq d<t)
theorem Xq {α:Type} {p:α->Bool}:∀{xs:List α} {k:Nat} {d:α},(∀(j:Nat) x,j<k->xs[j]? =some x->p x=true)->xs[k]? =some d->p d=true->(xs.takeWhile p)[k]? =some d
 |[],_,_,_,h,_=>by simp at h
 |x::xs,0,d,_,h,hp=>by simp at h;subst h;simp[o8,hp]
 |x::xs,k+1,d,h1,h,hp=>by
  rw[o8,if_pos (h1 0 x q0 rfl),List.getElem?_cons_succ];exact Xq (λj y hj hy=>h1 (j+1) y q0 an7) a68 hp
theorem JS {α:Type} {p:α->Bool}:∀{xs:List α} {k:Nat},(∀(j:Nat) x,j<k->xs[j]? =some x->p x=true)->k<=xs.length->(∀d,xs[k]? =some d->p d=false)->(xs.takeWhile p).length=k
 |[],k,_,h,_=>by simp at h;simp[h]
 |x::xs,0,_,_,h=>by rw[o8,if_neg (by rw[h x rfl];decide)];rfl
 |x::xs,k+1,h1,h2,h=>by
  rw[o8,if_pos (h1 0 x q0 rfl),cy,JS (k:=k) (λj y hj hy=>h1 (j+1) y q0 an7) (by simpa using h2) (λd hd=>h d (by simpa using hd))]
structure Xr (l:List Po):Prop where
 may:eN (-1) l=true
 ps:∀p∈l,p.2.length<=1099511627776
 by_:(eH (-1) l).length<=1099511627776
 ln:l.length<=1099511627776
theorem JT {L:List En} (hF:∀e∈L,iQ e.1) (hn:L.length<=1000000) (k:List UInt8):Xr (pk L k):=by
 have h1:=xK k L 0 hF;have vS:eN (-1) (pk L k)=true:=zk k L 0 (-1) hF q0 q0;have qm:∀p∈pk L k,p.2.length<=500:=λp hp=>(h1.2 p hp).2.2
 obtain⟨h2,h3⟩:=xL (pk L k) (-1) 500 q0 vS qm q0;have hl:(pk L k).length<=L.length:=h1.1;exact⟨vS,λp hp=>by have:=qm p hp;omega,by omega,by omega⟩
theorem JU {M:aE} {s:Se} {e:Er} {v0 ve:Value} (w0:World) (hM:Lt M w0) (hs:cG RT.se M w0 v0 s) (he:RT.er.V M w0 e ve):
  Spec Tryz.prog 120 #[v0,ve] w0 (λv w=>∃bs u,v= .func (.func 175) #[] [.pointer (some ⟨bs,0,none⟩),u].toArray/\w.heap[bs]? =some (.cells #[v0] 31 (0,0))/\cG RT.er M w u e/\w0.heap.size<=bs/\Step M w0 M w ar):=by
 refine aS (args:=[_,_]) (fn:=Tryz.f120) Tryz.func120 G (n:=6) Tryz.ntmps120 (T.aO ?_);refine iP M G G (λbs w1 p1 q1 g1 s1=>?_);rw[xQ hs]at g1;replace s1:=s1.back;refine gR (A:=RT.er) (a:=e) G G (s1.lt hM) (he.le s1.le) G (λu w2 hu s2 _=>?_);refine Rg.aZ G G (T.aO (gz (xs:=[]) (ys:=[.tmp 2,.tmp 3]) G G G (Rg.aZ G G (aM ?_))));exact aP G G ⟨bs,u,G,s2.ay g1,hu,p1,s1.av s2⟩
theorem G8 {bs yl:Nat} {u v0:Value} {s:Se} {ls:List (List Po)} {e:Er} {J:Nat->aE->World->Prop} {M:aE} {Jx:World->Prop} (w0:World) (Et:Ef s.2.2.1) (Oj:s.2.2.2=ls.map j5) (Ic:s.2.2.1.length=ls.length) (uN:Xr (qA s.2.2.1 ls (cN e.1))) (h1:e.1.1.length<=140737488355328) (h2:e.1.2.length<=140737488355328) (Lk:∀i M w,J i M w->w.heap[bs]? =some (.cells #[v0] 31 (0,0))/\Lt M w/\cG RT.se M w v0 s/\cG RT.er M w u e) (jV:∀i M w M' w' N,J i M w->Step M w M' w' N->(∀b,N b->w0.heap.size<=b/\(b<w.heap.size->∃cs,w.heap[b]? =some (.cells cs 323 (0,0))))->J i M' w') (hy:∀(i:Nat) (M:aE) (w:World) (d:Int),J i M w->(vY (qA s.2.2.1 ls (cN e.1)) s.2.1 e.2)[i]? =some d->uV Tryz.prog yl [.int .i64 d].toArray w (λr w'=>∃b,r= .bool b/\(b=true->∃M' N,J (i+1) M' w'∧Step M w M' w' N/\∀k,N k->∀cs,w.heap[k]? ≠some (.cells cs 323 (0,0)))/\(b=false->Jx w'))) (h0:J 0 M w0):
  Spec Tryz.prog 175 #[.func (.yield yl) #[] #[],.pointer (some ⟨bs,0,none⟩),u] w0 (λ_ w=>(∃M',J (vY (qA s.2.2.1 ls (cN e.1)) s.2.1 e.2).length M' w)\/Jx w):=by
 obtain⟨gb,hM,hs,hu⟩:=Lk _ _ _ h0;refine aS (args:=[_,_,_]) (fn:=Tryz.f175) Tryz.func175 G (n:=28) Tryz.ntmps175 (T.aO (aA jx G G G gb G (aY (v':=v0) G ?_)));refine au (A:=RT.er) (B:=RT.fd) Tryz.underlying150 G G nE XT er0 G G XT hu b4 (λuf sH=>?_);refine bZ (A:=RT.fd) bR G nE XT G G G sH b4 (λvt TZ=>?_);obtain rfl:=j9 TZ;refine aJ G G RJ (pT (t:=e.1) _ hM hs Et Oj Ic h1 h2) (λr0 w1 hc=>?_);obtain⟨bc,rfl,hz,s1,hC⟩:=hc;have hJ1:=jV _ _ _ _ _ _ h0 s1 (λb h=>h.elim);generalize ins M bc=M0 at s1 hC hJ1;refine Rg.aZ G G (T.aO (ab G G ?_));obtain⟨_,tn,_,_⟩:=Lk _ _ _ hJ1;refine aJ G G Ex (k7 hC tn uN.may uN.ps uN.by_ uN.ln) (λr2 w2 h=>?_);obtain⟨rfl,s2,hC2⟩:=h;have hJ2:=jV _ _ _ _ _ _ hJ1 s2 (λb (h:b=bc)=>⟨by omega,λ_=>by(obtain⟨_,_,_,_,_,h9,_⟩:=hC;exact⟨_,by rw[h];exact h9⟩)⟩);have Wx:kL (qA s.2.2.1 ls (cN e.1)) (-1)=((0:Nat):Int):=by unfold kL;rw[if_pos q0];rfl
 rw[Wx]at hC2 ⊢;refine Rg.aZ G G (aT ?_);refine cR (σ:=Nat) (λk=>[(0,.func (.yield yl) #[] #[]),(1,.pointer (some ⟨bs,0,none⟩)),(2,u),(4,.pointer (some ⟨bc,0,none⟩)),(5,.int .i64 (eB (qA s.2.2.1 ls (cN e.1)) (k:Int)))]) (λk w=>k<=(qA s.2.2.1 ls (cN e.1)).length/\(∀(j:Nat) x,j<k->((qA s.2.2.1 ls (cN e.1)).map (·.1))[j]? =some x->decide (rX s.2.1 x<e.2)=true)/\∃M1,J k M1 w/\Cu 323 (qA s.2.2.1 ls (cN e.1)) (k:Int) M1 w bc) (λk=>(qA s.2.2.1 ls (cN e.1)).length-k) 0 a34 ?_ ?_
 ·exact⟨bm _,λj x h=>absurd h (eL _),_,hJ2,hC2⟩
 ·rintro k w ⟨hk,O4,M1,hJ,hC2⟩;refine aI (aI ?_);obtain⟨gb2,Og,pZ,j3⟩:=Lk _ _ _ hJ;by_cases af4:eB (qA s.2.2.1 ls (cN e.1)) (k:Int)<2147483648
  ·obtain⟨d,ps,hx,Yf⟩:∃d ps,(qA s.2.2.1 ls (cN e.1))[k]? =some (d,ps)/\eB (qA s.2.2.1 ls (cN e.1)) (k:Int)=d:=by
    rcases eX (qA s.2.2.1 ls (cN e.1)) (k:Int)with⟨h0,_⟩|⟨j2,d2,ps2,wR,hx2,h3,_⟩|⟨h0,h1,_⟩
    ·omega
    ·have:j2=k:=by omega
     subst this;exact⟨d2,ps2,hx2,h3⟩
    ·omega
   have Im:=(al.1 hx).1;apply T.draw (M:=M1) mixed [cw.eq _,cw.eq _,cw.eq (.bool true),cw.eq v0,cw.eq _,cw.eq (.int .i64 (rX s.2.1 (eB (qA s.2.2.1 ls (cN e.1)) (k:Int)))),cw.ptr (RT.int .i64) e.2,cw.eq (.int .i64 e.2),cw.eq _,cw.eq _]
   ·rfl
   ·refine aH ?_ ?_
    ·intro wD E sD;refine ab G G ?_;exact a02
    refine aH ?_ ?_
    ·intro wD E sD;refine aw (ck G G G ?_);exact a02
    refine aH ?_ ?_
    ·intro wD E sD;refine aw (ab G G ?_);refine ad ⟨G,G,_,G,?_,aV⟩;exact congrArg Value.bool (decide_eq_true af4)
    refine aH ?_ ?_
    ·intro wD E sD;refine aw (ah G G (aA jx G G G (sD.ay gb2) G ?_));exact a02
    refine aH ?_ ?_
    ·intro wD E sD;refine aw (ah G G (ab G G ?_));exact a02
    refine aH ?_ ?_
    ·intro wD E sD;refine aw (aw (aw (aw (ah G G ?_))));refine aJ G G E73 (xW _ (pZ.le XT sD.le)) (λr5 w5 hc=>?_);obtain⟨rfl,rfl⟩:=hc;exact a02
    refine aH ?_ ?_
    ·intro wD E sD;refine aw (ah G G ?_);refine au (M:=M1) (A:=RT.er) (B:=RT.int .i64) Tryz.underlying150 G G I3 XT er1 G G XT j3 sD.le (λuf sH=>?_);exact a73
    refine aH ?_ ?_
    ·intro wD E sD;intro v6 oR;refine aw (ah G G ?_);refine bV aj G G (show cG (RT.int .i64) M1 wD v6 e.2 from oR) b4 (λmL=>?_);exact a02
    refine aH ?_ ?_
    ·intro wD E sD;refine aw (aw (aw (ah G G (ck G G G ?_))));exact a02
    refine aH ?_ ?_
    ·intro wD E sD;refine aw (aw (a8 G G G ?_));exact a02
    exact sd
   ·intro wD2 CP;refine aw (aw (aw (aw (aw (aw ?_)))));intro axi asz;refine aw (aw (aw ?_));have TT:=jV _ _ _ _ _ _ hJ CP (λb h=>h.elim);have hC3:=hC2.step CP (λh=>h);refine bI G (λc2=>?_) (λc2=>?_)
    ·refine aR (aI (aT (T.aO (ab G G (ab G G ?_)))));refine Rg.yield rfl (vs:=[.int .i64 (eB (qA s.2.2.1 ls (cN e.1)) (k:Int))]) rfl rfl (hy k M1 _ _ TT (by rw[Yf];exact Xq O4 (by rw[cD,hx];rfl) (by rw[<-Yf];simpa using c2))) (λr4 w5 h5=>?_);obtain⟨b,rfl,hb5,rB⟩:=h5;refine gM G G (aY (v':= .bool (decide (¬b=true))) (by simp) (ad ?_));refine bI G (λc4=>?_) (λc4=>?_)
     ·refine aM ?_;exact Cs G (.inr (rB (by simpa using c4)))
     ·refine aR (aN (ab G G ?_));obtain⟨M2,N2,hJ4,s4,hN4⟩:=hb5 (db.1 c4);have hC4:=hC3.step s4 (λh=>by obtain⟨_,_,_,_,_,h9,_⟩:=hC3;exact hN4 _ h _ h9);obtain⟨_,hM4,_,_⟩:=Lk _ _ _ hJ4;refine aJ G G Ex (k7 hC4 hM4 uN.may uN.ps uN.by_ uN.ln) (λr6 w6 h=>?_);obtain⟨rfl,s6,hC6⟩:=h;have hJ6:=jV _ _ _ _ _ _ hJ4 s6 (λb (h:b=bc)=>⟨by omega,λ_=>by(obtain⟨_,_,_,_,_,h9,_⟩:=hC4;exact⟨_,by rw[h];exact h9⟩)⟩);have Wx:kL (qA s.2.2.1 ls (cN e.1)) (k:Int)=((k+1:Nat):Int):=by unfold kL;rw[if_pos q0];rfl
      rw[Wx]at hC6 ⊢;refine Rg.aZ G G ?_;refine⟨G,k+1,a34,?_,?_⟩
      ·exact⟨by omega,λj x hj JV=>by
        rcases cL j k with h|h
        ·exact O4 j x h JV
        ·rw[show j=k by omega,cD,hx]at JV;cases JV;rw[<-Yf];simpa using c2,_,hJ6,hC6⟩
      ·omega
    ·refine cE ?_
     first|refine iA.nil ?_|simp+decide only[wY,mi,if_true,if_false]|skip
     have el:(vY (qA s.2.2.1 ls (cN e.1)) s.2.1 e.2).length=k:=JS O4 (by rw[bT];exact hk) (λd' KB=>by
      rw[cD]at KB;obtain⟨p,hp,rfl⟩:=tu.1 KB;have hdp:eB (qA s.2.2.1 ls (cN e.1)) (k:Int)=p.1:=iH hp
      first
      |(rw[hdp]at c2;simpa using c2)
      |(have:=kF uN.may hp;omega))
     exact jB rfl (.inl ⟨_,by rw[el];exact TT⟩)
  ·apply T.draw (M:=M1) mixed [cw.eq _,cw.eq _,cw.eq (.bool false),cw.eq undef,cw.eq undef,cw.eq undef,cw.eq undef,cw.eq undef,cw.eq undef,cw.eq _]
   ·rfl
   ·refine aH ?_ ?_
    ·intro wD E sD;refine ab G G ?_;exact a02
    refine aH ?_ ?_
    ·intro wD E sD;refine aw (ck G G G ?_);exact a02
    refine aH ?_ ?_
    ·intro wD E sD;refine aw (ab G G ?_);refine ad ⟨G,G,_,G,?_,aV⟩;exact congrArg Value.bool (decide_eq_false af4)
    refine aH ?_ ?_
    ·intro wD E sD;refine aw ?_;exact a08
    refine aH ?_ ?_
    ·intro wD E sD;refine aw ?_;exact a08
    refine aH ?_ ?_
    ·intro wD E sD;refine aw (aw (aw (aw ?_)));exact a08
    refine aH ?_ ?_
    ·intro wD E sD;refine aw ?_;exact a08
    refine aH ?_ ?_
    ·intro wD E sD;refine aw (aw ?_);exact a08
    refine aH ?_ ?_
    ·intro wD E sD;refine aw (aw (aw ?_));exact a08
    refine aH ?_ ?_
    ·intro wD E sD;refine aw (aw (aD G G G ?_));exact a02
    exact sd
   ·intro wD2 CP;refine aw (aw (aw (aw (aw (aw (aw (aw (aw (aw ?_)))))))));have TT:=jV _ _ _ _ _ _ hJ CP (λb h=>h.elim);have hC3:=hC2.step CP (λh=>h);refine gy G (cE ?_)
    first|refine iA.nil ?_|simp+decide only[wY,mi,if_true,if_false]|skip
    have el:(vY (qA s.2.2.1 ls (cN e.1)) s.2.1 e.2).length=k:=JS O4 (by rw[bT];exact hk) (λd' KB=>by
     rw[cD]at KB;obtain⟨p,hp,rfl⟩:=tu.1 KB;have hdp:eB (qA s.2.2.1 ls (cN e.1)) (k:Int)=p.1:=iH hp
     first
     |(rw[hdp]at c2;simpa using c2)
     |(have:=kF uN.may hp;omega))
    exact jB rfl (.inl ⟨_,by rw[el];exact TT⟩)
end Go.K
namespace Go.K
open Go.Proofs
set_option maxRecDepth 10000
def aaH (K:aE->World->Prop) (C:TypeId) (gf:FuncId) (lb:Array Value) (xs:List Int):Prop:=
 ∀{yl:Nat} {J:Nat->aE->World->Prop} {M:aE} {Jx:World->Prop} (w0:World) (_:∀i M w,J i M w->Lt M w/\K M w)
  (_:∀i M w M' w' N,J i M w->Step M w M' w' N->(∀b,N b->w0.heap.size<=b/\(b<w.heap.size->∃cs,w.heap[b]? =some (.cells cs C (0,0))))->J i M' w')
  (_:∀(i:Nat) (M:aE) (w:World) (d:Int),J i M w->xs[i]? =some d->uV Tryz.prog yl [.int .i64 d].toArray w (λr w'=>∃b,r= .bool b/\(b=true->∃M' N,J (i+1) M' w'∧Step M w M' w' N/\∀k,N k->∀cs,w.heap[k]? ≠some (.cells cs C (0,0)))/\(b=false->Jx w'))) (_:J 0 M w0),
  Spec Tryz.prog gf (#[.func (.yield yl) #[] #[]]++lb) w0 (λ_ w=>(∃M',J xs.length M' w)\/Jx w)
theorem G9 {s:Se} {ls:List (List Po)} {e:Er} {v0 u:Value} {bs:Nat} (Et:Ef s.2.2.1) (Oj:s.2.2.2=ls.map j5) (Ic:s.2.2.1.length=ls.length) (uN:Xr (qA s.2.2.1 ls (cN e.1))) (h1:e.1.1.length<=140737488355328) (h2:e.1.2.length<=140737488355328):
  aaH (λM w=>w.heap[bs]? =some (.cells #[v0] 31 (0,0))/\¬M bs/\cG RT.se M w v0 s/\cG RT.er M w u e) 323 175 #[.pointer (some ⟨bs,0,none⟩),u] (vY (qA s.2.2.1 ls (cN e.1)) s.2.1 e.2):=
 λw0 hk jV hy h0=>G8 w0 Et Oj Ic uN h1 h2 (λi M w h=>⟨(hk i M w h).2.1,(hk i M w h).1,(hk i M w h).2.2.2.1,(hk i M w h).2.2.2.2⟩) jV hy h0
theorem Ha {s:Se} {e:Er} {v0 u:Value} {bs:Nat} {M M':aE} {w w':World} (h:w.heap[bs]? =some (.cells #[v0] 31 (0,0))/\¬M bs/\cG RT.se M w v0 s/\cG RT.er M w u e) (l:Le M w M' w'):w'.heap[bs]? =some (.cells #[v0] 31 (0,0))/\¬M' bs/\cG RT.se M' w' v0 s/\cG RT.er M' w' u e:=
 have hb:=l bs (ae h.1) h.2.1
 ⟨hb.2.trans h.1,hb.1,h.2.2.1.le XT l,h.2.2.2.le XT l⟩
namespace TKSet
theorem yX:TI Tryz.prog 126 (.slice none 0 0) 1 24:=by unfold TI;kernel_rfl
theorem anZ:TI Tryz.prog 128 (.agg #[(.int .i64 0),(.slice none 0 0)]) 2 32:=by unfold TI;kernel_rfl
theorem rC:TI Tryz.prog 205 (.int .u64 0) 1 8:=by unfold TI;kernel_rfl
theorem an0:placesOf Tryz.prog 128=[(0,1),(1,1)].map some:=by kernel_rfl
theorem E61:Enters Tryz.prog 61:=enters Tryz.func61 rfl XT
theorem E64:Enters Tryz.prog 64:=enters Tryz.func64 rfl XT
theorem aaI:Enters Tryz.prog 114:=enters Tryz.func114 rfl XT
end TKSet
open TKSet
set_option maxRecDepth 10000
theorem Ch {w0:World} {k m x:Nat} (tab:∃e fr,w0.heap[1]? =some (.cells (E2.map fun(k:Nat)=>Value.int .u8 (k:Int)).toArray e fr)) (hx:x=2^k*(2*m+1)) (hl:x<2^64):
  Spec Tryz.prog 274 #[.int .u64 x] w0 (λv' w'=>v'= .int .i64 k/\w0=w'):=by
 obtain⟨et,ft,tab⟩:=tab;have hp:=Nat.two_pow_pos k;have Dx:0<x:=by rw[hx];exact Nat.mul_pos hp q0
 have Xs:2^k<=x:=by rw[hx];exact Nat.le_mul_of_pos_right _ q0
 have hk:k<64:=by
  rcases cL k 64 with h2|h2
  ·exact h2
  ·have:=nQ (n:=2) XT h2;omega
 obtain⟨hd1,hd2⟩:=Yu k hk;have oF:((E2.map fun(k:Nat)=>Value.int .u8 (k:Int)).toArray)[(2^k*285870213051353865)%2^64/2^58]? =some (.int .u8 (k:Int)):=by rw[fK,cD,hd2];rfl
 refine aS (args:=[_]) (fn:=Tryz.f274) Tryz.func274 G (n:=14) Tryz.ntmps274 (T.aO (Rg.aZ G G (aI (T.aO (ab G G (gN G G G (ad (yK G (q0) ?_))))))));refine aR (T.aO (ab rfl rfl (ab rfl rfl (Rg.ajU rfl rfl (aY (v':= .int .u64 ((2^64-x:Nat):Int)) (by rw[show(0:Int)-(x:Int)=((2^64-x:Nat):Int)-18446744073709551616 from by omega];simp[IntKind.wrap,IntKind.bits,IntKind.signed];omega) (Rg.and rfl rfl rfl (aY (v':= .int .u64 ((2^k:Nat):Int)) (by rw[Iu x (2^64-x) hl q0,hx,Up q0]) (Rg.ajq rfl rfl rfl (aY (v':= .int .u64 (((2^k*285870213051353865)%2^64:Nat):Int)) (congrArg _ (by rw[show((2^k:Nat):Int)*285870213051353865=((2^k*285870213051353865:Nat):Int)from by rw[Int.natCast_mul];rfl];exact DK _)) (Rg.shr G G G XT ?_))))))))));refine aY (v':= .int .u64 (((2^k*285870213051353865)%2^64/2^58:Nat):Int)) (congrArg _ (Yv _ 58 XT)) (Rg.Yt (len:=64) Tryz.underlying389 I5 G G G q0 (aA (v:= .int .u8 (k:Int)) cZ rfl rfl rfl tab (by rw[aq];exact oF) (Rg.tF cZ aj G G q0 (Rg.aZ G G (aM ?_)))));exact a69
theorem Ls {M:aE} {w0:World} {n:Nat} {ws:List Nat} {bs bw:Nat} (h:gZ 128 205 n ws M w0 bs bw) {i:Int}:
  Spec Tryz.prog 114 #[.pointer (some ⟨bs,0,none⟩),.int .i64 i] w0 (λv' w'=>v'= .bool (decide (0<=i/\i<n))/\w0=w'):=by
 have hS:=h.s;have hW:=h.w;have hlen:=h.len;have fN:=h.ok;have Wo:=h.nn;refine aS (args:=[_,_]) (fn:=Tryz.f114) Tryz.func114 G (n:=15) Tryz.ntmps114 (T.aO (Rg.aZ G G (T.aO (ab G G (eh G G G (ab G G ?_))))));refine aW (g:=7) G (λgT=>?_) (λgT=>?_)
 ·refine ah G G (ab G G (ah G G (ab G G (ah G G (aL G ⟨_,G⟩ G (ah G G (aK fA G G I3 XT G G (ah G G (aA aj G G G a00 G (ah G G (ck G G G ?_)))))))))));refine a8 G G G (Rg.aZ G G (aM ?_))
  first
  |exact a74
  |exact a71
 ·refine ak G G G G (ak G G G G (ak G G G G (ak G G G G (ak G G G G (ak G G G G (aD G G G (Rg.aZ G G (aM ?_))))))))
  first
  |exact a74
  |exact a71
theorem Hb {M:aE} {w0:World} {n:Nat} {ws:List Nat} {bs bw:Nat} (h:gZ 128 205 n ws M w0 bs bw) {i:Int}:
  Spec Tryz.prog 64 #[.pointer (some ⟨bs,0,none⟩),.int .i64 i] w0 (λv' w'=>v'= .bool (TQ n ws i)/\w0=w'):=by
 have hS:=h.s;have hW:=h.w;have hlen:=h.len;have fN:=h.ok;have Wo:=h.nn;refine aS (args:=[_,_]) (fn:=Tryz.f64) Tryz.func64 G (n:=23) Tryz.ntmps64 (T.aO (Rg.aZ G G (T.aO (ab G G (ab G G ?_)))));refine aJ G G aaI (Ls h) (λr wc h=>?_);obtain⟨rfl,rfl⟩:=h;refine ab G G ?_;refine aW (g:=8) G (λgr=>?_) (λgr=>?_)
 ·obtain⟨j,rfl⟩:∃j:Nat,i=j:=⟨i.toNat,by omega⟩;refine ah G G (ab G G (ah G G (aL G ⟨_,G⟩ G (ah G G (aK fA G G yX XT G G (ah G G (aA du G G G a00 G (ah G G (ab G G (ah G G (Rg.zA G G G q0 ?_)))))))))));refine ah G G (Rg.zW du rC G G G q0 (ah rfl rfl (aA jY rfl rfl rfl hW (v:= .int .u64 ((ws.getD (j/64) 0:Nat):Int)) (by rw[show(((j:Int)/64)).toNat=j/64 from by omega];exact iY q0) (ah G G (ab G G (ah G G (Rg.zB G G G q0 (ah G G (Rg.shr G G G q0 (aY (v':= .int .u64 ((ws.getD (j/64) 0/2^(j%64):Nat):Int)) (congrArg _ (by rw[show((j:Int)%64)=((j%64:Nat):Int)from by omega];exact Yv _ _ q0)) (ah G G ?_)))))))))));refine Rg.and G G G (aY (v':= .int .u64 ((ws.getD (j/64) 0/2^(j%64)%2:Nat):Int)) (congrArg _ (by have:=Iu (ws.getD (j/64) 0/2^(j%64)) 1 (Nat.lt_of_le_of_lt (Nat.div_le_self _ _) (fN.get _)) XT;rw[Nat.and_one_is_mod]at this;exact this)) (ah G G (gN G G G (a8 G G G (Rg.aZ G G (aM ?_))))))
  first
  |exact aP G G ⟨congrArg Value.bool an1,G⟩
  |exact aP G G ⟨congrArg Value.bool (by unfold TQ;rw[decide_eq_false gr,ei]),rfl⟩
 ·refine ak G G G G (ak G G G G (ak G G G G (ak G G G G (ak G G G G (ak G G G G (ak G G G G (ak G G G G (ak G G G G (ak G G G G (ak G G G G (ak G G G G ?_)))))))))));refine ak G G G G (aD G G G (Rg.aZ G G (aM ?_)))
  first
  |exact aP G G ⟨congrArg Value.bool an1,G⟩
  |exact aP G G ⟨congrArg Value.bool (by unfold TQ;rw[decide_eq_false gr,ei]),rfl⟩
theorem RL {M:aE} {w0:World} {n:Nat} {ws:List Nat} {bs bw:Nat} (h:gZ 128 205 n ws M w0 bs bw) {i:Int} (hb:∀j,bit ws j=true->j<n):
  Spec Tryz.prog 61 #[.pointer (some ⟨bs,0,none⟩),.int .i64 i,.bool true] w0 (λv' w'=>∃uH,gZ 128 205 n uH M w' bs bw/\(∀j:Nat,bit uH j=(bit ws j&&decide ((j:Int)≠i)))/\Step M w0 M w' (λb=>b=bw)):=by
 have hS:=h.s;have hW:=h.w;have hlen:=h.len;have fN:=h.ok;have Wo:=h.nn;have hmw:∀b:Nat,b=bw->M b:=λb hb=>by rw[hb];exact h.mw
 refine aS (args:=[_,_,_]) (fn:=Tryz.f61) Tryz.func61 G (n:=31) Tryz.ntmps61 (T.aO (Rg.aZ G G (aI (T.aO (ab G G (ab G G ?_))))));refine aJ G G aaI (Ls h) (λr wc h=>?_);obtain⟨rfl,rfl⟩:=h;refine gM G G (aY (v':= .bool (decide (¬(0<=i/\i<n)))) (by rw[decide_not]) (ab G G ?_));refine aW (g:=11) G (λBZ=>?_) (λBZ=>?_)
 ·refine ak G G G G (ak G G G G (ak G G G G (ak G G G G (ak G G G G (a8 G G G (ad (lh G (T.aO (Rg.aZ G G ?_)))))))));refine aM ?_
  have TM:bit ws i.toNat=false\/i<0:=by
   by_cases h0:i<0
   ·exact .inr h0
   ·left
    cases Y0:bit ws i.toNat with
    |false=>rfl
    |true=>
     have:=hb _ Y0
     first
     |omega
     |(exfalso;apply c1;unfold TQ;rw[Y0,decide_eq_true q0];rfl)
  refine aP G G ⟨ws,h,λj=>?_,(aV).dF a15 hmw⟩;by_cases hj:(j:Int)=i
  ·rw[decide_eq_false (λh=>h hj),Bool.and_false];rcases TM with h1|h1
   ·rw[show i.toNat=j from by omega]at h1;exact h1
   ·omega
  ·rw[decide_eq_true hj,kz]
 ·refine ah G G (ab G G (ah G G (ab G G (ah G G ?_))));refine aJ G G E64 (Hb h) (λr wc h=>?_);obtain⟨rfl,rfl⟩:=h;refine ah G G (ab G G (ah G G (Rg.bne qM G G G (aD G G G (ad ?_)))));refine bI G (λc1=>?_) (λc1=>?_)
  ·refine T.aO (Rg.aZ G G (aM ?_))
   have TM:bit ws i.toNat=false\/i<0:=by
    by_cases h0:i<0
    ·exact .inr h0
    ·left
     cases Y0:bit ws i.toNat with
     |false=>rfl
     |true=>
      have:=hb _ Y0
      first
      |omega
      |(exfalso;apply c1;unfold TQ;rw[Y0,decide_eq_true q0];rfl)
   refine aP G G ⟨ws,h,λj=>?_,(aV).dF a15 hmw⟩;by_cases hj:(j:Int)=i
   ·rw[decide_eq_false (λh=>h hj),Bool.and_false];rcases TM with h1|h1
    ·rw[show i.toNat=j from by omega]at h1;exact h1
    ·omega
   ·rw[decide_eq_true hj,kz]
  ·refine aR (aI ?_);obtain⟨j,rfl⟩:∃j:Nat,i=j:=⟨i.toNat,by omega⟩;apply T.sN (M:=M) mixed [] [cw.eq _,cw.eq _,cw.eq _,cw.eq (.slice (some ⟨bw,0,none⟩) ws.length ws.length),cw.eq _,cw.eq _,cw.eq (.pointer (some ⟨bw,((j:Int)/64).toNat,none⟩)),cw.eq (.int .u64 ((ws.getD (j/64) 0:Nat):Int)),cw.eq _,cw.eq _,cw.eq (.int .u64 ((2^(j%64):Nat):Int)),cw.eq (.int .u64 (((ws.getD (j/64) 0^^^2^(j%64)):Nat):Int)),cw.eq (.pointer (some ⟨bw,((j:Int)/64).toNat,none⟩))] 13
   ·rfl
   ·rfl
   ·rfl
   ·rfl
   ·rfl
   ·exact a90
   ·exact sf
   ·refine az ?_ ?_
    ·intro wD E sD;refine ab G G ?_;exact a02
    refine az ?_ ?_
    ·intro wD E sD;refine aw (aL G ⟨_,G⟩ G ?_);exact a02
    refine az ?_ ?_
    ·intro wD E sD;refine aw (aK fA G G yX XT G G ?_);exact a02
    refine az ?_ ?_
    ·intro wD E sD;refine aw (aA du G G G (cg sD a00) G ?_);exact a02
    refine az ?_ ?_
    ·intro wD E sD;refine ab G G ?_;exact a02
    refine az ?_ ?_
    ·intro wD E sD;refine aw (Rg.zA G G G q0 ?_);exact a02
    refine az ?_ ?_
    ·intro wD E sD;refine aw (aw (Rg.zW du rC G G G q0 ?_));exact a02
    refine az ?_ ?_
    ·intro wD E sD;refine aw (aA jY rfl rfl rfl (sD.ay hW) (v:= .int .u64 ((ws.getD (j/64) 0:Nat):Int)) (by rw[show(((j:Int)/64)).toNat=j/64 from by omega];exact iY q0) ?_);exact a02
    refine az ?_ ?_
    ·intro wD E sD;refine ab G G ?_;exact a02
    refine az ?_ ?_
    ·intro wD E sD;refine aw (Rg.zB G G G q0 ?_);exact a02
    refine az ?_ ?_
    ·intro wD E sD;refine aw (Rg.shl G G G q0 (aY (v':= .int .u64 ((2^(j%64):Nat):Int)) (congrArg _ (by rw[show((j:Int)%64)=((j%64:Nat):Int)from by omega];exact adt _ q0)) ?_));exact a02
    refine az ?_ ?_
    ·intro wD E sD;refine aw (aw (Rg.xor G G G (aY (v':= .int .u64 (((ws.getD (j/64) 0^^^2^(j%64)):Nat):Int)) (congrArg _ (ads _ _ (fN.get _) (Nat.pow_lt_pow_right XT q0))) ?_)));exact a02
    refine az ?_ ?_
    ·intro wD E sD;refine aw (aw (aw (aw (aw (aw (aw (aw (aw (aw (aw (aw ?_)))))))))));refine aw (aw (Rg.zW du rC G G G q0 ?_));exact a02
    exact kA
   ·intro wD3 qt;refine aw (aw (aw (aw (aw (aw (aw (aw (aw (aw (aw (aw ?_)))))))))));refine aw ?_;refine ch (M:=M) (u:= .int .u64 ((ws.getD (j/64) 0:Nat):Int)) rC rfl rfl (qt.ay hW) (by rw[show((j:Int)/64).toNat=j/64 from by omega];exact iY q0) G h.mw (λw5 hW5 s5=>?_);rw[show((j:Int)/64).toNat=j/64 from by omega,tU]at hW5;refine ad (T.aO (Rg.aZ G G (aM ?_)));have hX:(ws.getD (j/64) 0^^^2^(j%64))<2^64:=Nat.xor_lt_two_pow (fN.get _) (Nat.pow_lt_pow_right XT q0);refine aP G G ⟨ws.set (j/64) (ws.getD (j/64) 0^^^2^(j%64)),(h.step qt (λh=>h) (λh=>h)).put s5 (by simp) hW5 (fN.set hX),λt=>?_,(qt.dF a15 hmw).trans s5 (λ_ _ h=>h)⟩
    have an2:bit ws j=true:=by
     have:=db.1 c1;unfold TQ at this;rw[aq,cp]at this;exact this.2
    rw[O6 fN q0];by_cases ht:t=j
    ·subst ht;rw[an2];simp
    ·rw[decide_eq_false ht,Bool.xor_false,decide_eq_true q0,kz]
theorem A2 {M:aE} {w0:World} {n:Nat} {ws:List Nat} {bs bw:Nat} (h:gZ 128 205 n ws M w0 bs bw) {i:Int} (hb:∀j,bit ws j=true->j<n):
  Spec Tryz.prog 119 #[.pointer (some ⟨bs,0,none⟩),.int .i64 i] w0 (λv' w'=>∃uH,gZ 128 205 n uH M w' bs bw/\(∀j:Nat,bit uH j=(bit ws j&&decide ((j:Int)≠i)))/\Step M w0 M w' (λb=>b=bw)):=by
 refine aS (args:=[_,_]) (fn:=Tryz.f119) Tryz.func119 G (n:=8) Tryz.ntmps119 (T.aO (Rg.aZ G G (T.aO (ab G G (ab G G ?_)))));refine aJ G G E61 (RL h hb) (λr1 w1 h=>?_);obtain⟨uH,h1,h2,h3⟩:=h;refine Rg.aZ G G (aM ?_);exact aP G G ⟨uH,h1,h2,h3⟩
theorem Da {M:aE} {w0:World} {n:Nat} (hn:n<=1099511627776):
  Spec Tryz.prog 20 #[.int .i64 n] w0 (λv' w'=>∃bs bw,v'= .pointer (some ⟨bs,0,none⟩)/\w0.heap.size<=bs/\w0.heap.size<=bw/\Step M w0 (ins (ins M bw) bs) w' ar/\gZ 128 205 n (List.replicate ((n+63)/64) 0) (ins (ins M bw) bs) w' bs bw):=by
 refine aS (args:=[_]) (fn:=Tryz.f20) Tryz.func20 G (n:=13) Tryz.ntmps20 (T.aO (Rg.aZ G G (T.aO (ab G G (Rg.max2 G G G (aY (v':= .int .i64 n) (congrArg _ q0) (Rg.aZ G G ?_)))))));refine T.aO (ab G G (ab G G (br G G G q0 (jy G G G q0 (Rg.zA G G G q0 (aY (v':= .int .i64 (((n+63)/64:Nat):Int)) (congrArg _ q0) ?_))))));refine Rg.mk0 M du rC G G G G q0 q0 (λbw w1 z1 z1' h1 s1=>?_);refine dp (places:=[(0,1),(1,1)]) fA anZ an0 rfl ⟨_,_,rfl,rfl,_,_,rfl,rfl,rfl⟩ (out:=[_,_]) ⟨0,[_],rfl,rfl,by simp[Value.cells],1,[_],rfl,rfl,by simp[Value.cells],rfl⟩ ?_;refine iP (ins M bw) G G (λbs w2 z2 z2' h2 s2=>?_);have y1:=s1.size;refine Rg.aZ G G (aM ?_);refine aP rfl rfl ⟨bs,bw,rfl,by omega,z1,s1.av s2,.inl rfl,.inr (.inl rfl),by omega,by rw[List.length_replicate];exact h2,?_,by simp,λx hx=>by rw[List.eq_of_mem_replicate hx];decide,hn⟩;have:=s2.ay h1;rw[this];simp[pz]
end Go.K
namespace Go.K
open Go.Proofs
namespace TKSet3
theorem yX:TI Tryz.prog 126 (.slice none 0 0) 1 24:=by unfold TI;kernel_rfl
theorem rC:TI Tryz.prog 205 (.int .u64 0) 1 8:=by unfold TI;kernel_rfl
theorem af6:Enters Tryz.prog 227:=enters Tryz.func227 rfl XT
theorem an4:Enters Tryz.prog 274:=enters Tryz.func274 rfl XT
end TKSet3
open TKSet3
set_option maxRecDepth 10000
theorem A3 {M:aE} {w0:World} {n:Nat} {ws:List Nat} {bs bw:Nat} (h:gZ 128 205 n ws M w0 bs bw) {i:Int} (hi: -1<=i/\i<=1099511627776) (hb:∀j,bit ws j=true->j<n) (tab:∃e fr,w0.heap[1]? =some (.cells (E2.map fun(k:Nat)=>Value.int .u8 (k:Int)).toArray e fr)):
  Spec Tryz.prog 227 #[.pointer (some ⟨bs,0,none⟩),.int .i64 i] w0 (λv' w'=>(∃r,v'= .int .i64 r/\WC ws i.toNat r/\ -1<=r/\r<=1099511627776)/\w0=w'):=by
 have hS:=h.s;have hW:=h.w;have hlen:=h.len;have fN:=h.ok;have Wo:=h.nn;refine aS (args:=[_,_]) (fn:=Tryz.f227) Tryz.func227 G (n:=36) Tryz.ntmps227 (T.aO (Rg.aZ G G (T.aO (ab G G (Rg.max2 G G G (aY (v':= .int .i64 (i.toNat:Int)) (congrArg _ q0) (Rg.aZ G G ?_)))))));refine aI (aT ?_);refine cR (σ:=Nat) (λs=>[(0,.pointer (some ⟨bs,0,none⟩)),(1,.int .i64 s)]) (λs w=>w0=w/\i.toNat<=s/\(∀t,i.toNat<=t->t<s->bit ws t=false)/\s<=1099511627840) (λs=>n+64-s) i.toNat ac2 ?_ ?_
 ·exact⟨G,aX _,λt h1 h2=>by omega,by omega⟩
 ·rintro p w1 ⟨rfl,hp,jj,qm⟩;refine aI (T.aO (ab G G (ab G G (aL G ⟨_,G⟩ G (aK fA G G I3 XT G G (aA aj G G G a00 G (ck G G G (ad ?_))))))));refine bI G (λc2=>?_) (λc2=>?_)
  ·refine aR (aT (aI (T.aO (ab G G (aL G ⟨_,G⟩ G (aK fA G G yX XT G G (aA du G G G a00 G (ab G G (Rg.zA G G G q0 (Rg.zW du rC G G G q0 ?_))))))))));refine aA jY rfl rfl rfl hW (v:= .int .u64 ((ws.getD (p/64) 0:Nat):Int)) (by rw[show(((p:Int)/64)).toNat=p/64 from by omega];exact iY q0) (ab G G (Rg.zB G G G q0 (Rg.shr G G G q0 (aY (v':= .int .u64 ((ws.getD (p/64) 0/2^(p%64):Nat):Int)) (congrArg _ (by rw[show((p:Int)%64)=((p%64:Nat):Int)from by omega];exact Yv _ _ q0)) (Rg.aZ G G (T.aO (ab G G (eR G G G (ad ?_)))))))));refine bI G (λc4=>?_) (λc4=>?_)
   ·refine T.aO (ab G G (ab G G ?_));obtain⟨k,m,Iq⟩:=O7 (ws.getD (p/64) 0/2^(p%64)) (Nat.pos_of_ne_zero λh=>c4 (by rw[h];rfl));have Dz:=Fz (fN.get _) (show p%64<64 by omega) Iq;have an5:ws.getD (p/64) 0/2^(p%64)<2^64:=Nat.lt_of_le_of_lt (Nat.div_le_self _ _) (fN.get _);refine aJ G G an4 (Ch (k:=k) (m:=m) tab Iq an5) (λr wc h=>?_);obtain⟨rfl,rfl⟩:=h;refine br G G G q0 (Rg.aZ G G (aM ?_));have hlb:=λt ht=>(DJ (k:=k) (m:=m)).2 t ht
    have KK:bit ws (p+k)=true:=by rw[zX Dz,Iq];exact DJ.1
    have:=hb _ KK
    exact aP G G ⟨⟨_,G,.inl ⟨p+k,by omega,by omega,KK,λt h1 h2=>by
     rcases cL t p with h|h
     ·exact jj t h1 h
     ·have h3:=zX (ws:=ws) (i:=p) (t:=t-p) q0;rw[show p+(t-p)=t from by omega]at h3;rw[h3,Iq];exact hlb _ q0⟩,by omega,by omega⟩,rfl⟩
   ·have hz0:ws.getD (p/64) 0/2^(p%64)=0:=by
     have:=db.1 c4;exact Int.ofNat.inj this
    refine aR (aN (ab G G (ab G G (Rg.zB G G G q0 (jy G G G q0 (br G G G q0 (Rg.aZ G G ?_)))))));refine⟨rfl,p+(64-p%64),(.cons rfl (.cons (by rw[show((p+(64-p%64):Nat):Int)=(p:Int)+(64-(p:Int)%64)from by omega];rfl) .nil)),?_,?_⟩
    ·refine⟨G,by omega,λt h1 h2=>?_,by omega⟩;rcases cL t p with h|h
     ·exact jj t h1 h
     ·have h3:=zX (ws:=ws) (i:=p) (t:=t-p) q0;rw[show p+(t-p)=t from by omega]at h3;rw[h3,hz0];simp
    ·show n+64-(p+(64-p%64))<n+64-p;omega
  ·refine cE (T.aO (Rg.aZ G G (aM ?_)))
   exact aP G G ⟨⟨_,G,.inr ⟨G,λt h1=>by
    rcases cL t p with h|h
    ·exact jj t h1 h
    ·cases Rr:bit ws t with
     |false=>rfl
     |true=>have:=hb t Rr;omega⟩,by omega,by omega⟩,rfl⟩
theorem Nu {M:aE} {w0:World} {bs:Nat} (hM:Lt M w0):
  Spec Tryz.prog 168 #[.pointer (some ⟨bs,0,none⟩)] w0 (λv' w'=>∃bl,v'= .func (.func 226) #[] #[.pointer (some ⟨bl,0,none⟩)]/\w'.heap[bl]? =some (.cells #[.pointer (some ⟨bs,0,none⟩)] 49 (0,0))/\w0.heap.size<=bl/\Step M w0 M w' ar):=by
 refine aS (args:=[_]) (fn:=Tryz.f168) Tryz.func168 G (n:=4) Tryz.ntmps168 (T.aO ?_);refine iP M G G (λbl w1 h1 Uk hS s1=>?_);change w1.heap[bl]? =some (.cells #[.pointer (some ⟨bs,0,none⟩)] _ _)at hS;refine Rg.aZ G G (T.aO (gz (xs:=[]) (ys:=[.tmp 1]) G G G (Rg.aZ G G (aM ?_))));exact aP G G ⟨bl,G,hS,h1,s1.back⟩
theorem JW {w0:World} {n:Nat} {ws:List Nat} {bs bw bl yl:Nat} {J:Nat->aE->World->Prop} {M:aE} {Jx:World->Prop} (hb:∀j,bit ws j=true->j<n) (Lk:∀p M w,J p M w->w.heap[bl]? =some (.cells #[.pointer (some ⟨bs,0,none⟩)] 49 (0,0))/\gZ 128 205 n ws M w bs bw/\(∃e fr,w.heap[1]? =some (.cells (E2.map fun(k:Nat)=>Value.int .u8 (k:Int)).toArray e fr))) (hy:∀(p j:Nat) (M:aE) (w:World),J p M w->p<=j->bit ws j=true->(∀t,p<=t->t<j->bit ws t=false)->uV Tryz.prog yl [.int .i64 j].toArray w (λr w'=>∃c,r= .bool c/\(c=true->∃M',J (j+1) M' w')/\(c=false->Jx w'))) (h0:J 0 M w0):
  Spec Tryz.prog 226 #[.func (.yield yl) #[] #[],.pointer (some ⟨bl,0,none⟩)] w0 (λ_ w'=>(∃p M',J p M' w'∧∀t,p<=t->bit ws t=false)\/Jx w'):=by
 obtain⟨Vj,Zm,an6⟩:=Lk _ _ _ h0;refine aS (args:=[_,_]) (fn:=Tryz.f226) Tryz.func226 G (n:=17) Tryz.ntmps226 (T.aO (aA ox G G G a00 G ?_));refine aJ G G af6 (A3 Zm (i:=0) q0 hb an6) (λr wc h=>?_);obtain⟨⟨r,rfl,hr,hr1,BI⟩,rfl⟩:=h;refine Rg.aZ G G (aT ?_);refine cR (σ:=Nat×Int) (λs=>[(0,.func (.yield yl) #[] #[]),(1,.pointer (some ⟨bl,0,none⟩)),(3,.int .i64 s.2)]) (λs w=>(∃M1,J s.1 M1 w)/\WC ws s.1 s.2/\ -1<=s.2/\s.2<=1099511627776/\s.1<=n) (λs=>n+1-s.1) (0,r) a07 ?_ ?_
 ·exact⟨⟨M,h0⟩,hr,hr1,BI,bm _⟩
 ·clear hr hr1 BI;rintro⟨p,r⟩ w1 ⟨⟨M1,hJ⟩,hr,hr1,BI,VA⟩;dsimp only at hJ hr hr1 BI VA ⊢;refine aI (T.aO (ab G G (eh G G G (ab G G ?_))));refine aW (g:=8) G (λgT=>?_) (λgT=>?_)
  ·refine ah G G (ab G G (ah G G (ab G G (ah G G ?_))))
   have hrj:∃j:Nat,r=j/\p<=j/\bit ws j=true/\∀t,p<=t->t<j->bit ws t=false:=by
    rcases hr with h|h
    ·exact h
    ·omega
   obtain⟨j,rfl,hpj,JX,jj⟩:=hrj;have hjn:=hb j JX;refine Rg.yield G (vs:=[.int .i64 j]) G G (hy p j M1 _ hJ hpj JX jj) (λr4 w5 h5=>?_);obtain⟨c,rfl,hc5,VE⟩:=h5;refine aY (v':= .bool (decide (c=true))) (by simp) (a8 G G G (ad ?_));refine bI G (λc1=>?_) (λc1=>?_)
   ·obtain⟨M2,hJ2⟩:=hc5 c1;obtain⟨Oe,pZ,an8⟩:=Lk _ _ _ hJ2;refine aR (aI (aT (aR (aN (aA ox G G G a00 G (ab G G (br G G G q0 ?_)))))));refine aJ G G af6 (A3 pZ (i:=(j:Int)+1) (by have:=pZ.nn;omega) hb an8) (λr wc h=>?_);obtain⟨⟨r2,rfl,af8,hr3,hr4⟩,rfl⟩:=h;refine Rg.aZ G G ?_;refine⟨G,(j+1,r2),a07,?_,?_⟩
    ·refine⟨⟨M2,hJ2⟩,?_,hr3,hr4,by simp only;omega⟩;rw[show((j:Int)+1).toNat=j+1 from by omega]at af8;exact af8
    ·simp only;omega
   ·refine cE ?_;change yL Tryz.prog Tryz.f226 (λ_ w'=>(∃p M',J p M' w'∧∀t,p<=t->bit ws t=false)\/Jx w') .normal _ [] _
    first
    |exact jB G (.inr (VE (by simpa using c1)))
    |(have p8:∀t,p<=t->bit ws t=false:=by
       rcases hr with⟨j,h,_⟩|h
       ·omega
       ·exact h.2
      exact jB G (.inl ⟨p,M1,hJ,p8⟩))
  ·refine ak G G G G (ak G G G G (ak G G G G (aD G G G (ad (gy G (cE ?_))))));change yL Tryz.prog Tryz.f226 (λ_ w'=>(∃p M',J p M' w'∧∀t,p<=t->bit ws t=false)\/Jx w') .normal _ [] _
   first
   |exact jB G (.inr (VE (by simpa using c1)))
   |(have p8:∀t,p<=t->bit ws t=false:=by
      rcases hr with⟨j,h,_⟩|h
      ·omega
      ·exact h.2
     exact jB G (.inl ⟨p,M1,hJ,p8⟩))
end Go.K
namespace Go.K
open Go.Proofs
namespace TKSet2
theorem yX:TI Tryz.prog 126 (.slice none 0 0) 1 24:=by unfold TI;kernel_rfl
theorem rC:TI Tryz.prog 205 (.int .u64 0) 1 8:=by unfold TI;kernel_rfl
theorem E20:Enters Tryz.prog 20:=enters Tryz.func20 rfl XT
theorem an9:Enters Tryz.prog 174:=enters Tryz.func174 rfl XT
end TKSet2
open TKSet2
set_option maxRecDepth 10000
theorem Db {ws vs:List Nat} {n:Nat} (hl:ws.length=(n+63)/64) (hv:vs.length=(n+63)/64) (hr:0<n%64) (h1:∀j,j<64*ws.length->bit vs j= !bit ws j) (j:Nat):bit (vs.set (vs.length-1) (vs.getD (vs.length-1) 0%2^(n%64))) j=(decide (j<n)&& !bit ws j):=by
 rw[DL _ q0];by_cases hj:j/64=vs.length-1
 ·rw[if_pos hj,Nat.testBit_mod_two_pow];have h2:=h1 j q0;have h3:(vs.getD (vs.length-1) 0).testBit (j%64)=bit vs j:=by unfold bit;rw[hj]
  rw[h3,h2];congr 1;exact decide_eq_decide.2 q0
 ·rw[if_neg hj];by_cases wR:j<n
  ·rw[h1 j q0,decide_eq_true wR,cT]
  ·rw[decide_eq_false wR,ei,Uq q0]
theorem Hc {ws vs:List Nat} {n:Nat} (hl:ws.length=(n+63)/64) (hr:n%64=0) (h1:∀j,j<64*ws.length->bit vs j= !bit ws j) (h2:∀j,64*ws.length<=j->bit vs j=false) (j:Nat):bit vs j=(decide (j<n)&& !bit ws j):=by
 by_cases wR:j<n
 ·rw[h1 j q0,decide_eq_true wR,cT]
 ·rw[decide_eq_false wR,ei,h2 j q0]
theorem Nv {M:aE} {w0:World} {n:Nat} {ws:List Nat} {bs bw:Nat} (h:gZ 128 205 n ws M w0 bs bw):
  Spec Tryz.prog 174 #[.pointer (some ⟨bs,0,none⟩)] w0 (λv' w'=>∃os ow uH,v'= .pointer (some ⟨os,0,none⟩)/\w0.heap.size<=os/\w0.heap.size<=ow/\Step M w0 (ins (ins M ow) os) w' ar/\gZ 128 205 n uH (ins (ins M ow) os) w' os ow/\∀j,bit uH j=(decide (j<n)&& !bit ws j)):=by
 have hS:=h.s;have hW:=h.w;have hlen:=h.len;have fN:=h.ok;have Wo:=h.nn;refine aS (args:=[_]) (fn:=Tryz.f174) Tryz.func174 G (n:=56) Tryz.ntmps174 (T.aO (Rg.aZ G G (T.aO (ab G G (aL G ⟨_,G⟩ G (aK fA G G I3 XT G G (aA aj G G G a00 G ?_)))))));refine aJ G G E20 (Da (M:=M) Wo) (λr1 w1 h=>?_);obtain⟨os,ow,rfl,z1,z2,s1,hO1⟩:=h;obtain⟨M1,Cf⟩:∃M1,M1=ins (ins M ow) os:=⟨_,rfl⟩;rw[<-Cf]at s1 hO1;have h1:=h.step s1 (λh=>h) (λh=>h);have hS1:=h1.s;have lbs:=ae hS;have lbw:=ae hW;refine Rg.aZ G G (aI (T.aO (ab G G (aL G ⟨_,G⟩ G (aK fA G G yX XT G G (aA du G G G a00 G (Rg.tV du G G (ab G G (ad ?_)))))))));refine aT ?_;refine cR (σ:=Nat×List Nat) (λs=>[(0,.pointer (some ⟨bs,0,none⟩)),(3,.pointer (some ⟨os,0,none⟩)),(15,.slice (some ⟨bw,0,none⟩) ws.length ws.length),(16,.int .i64 ws.length),(17,.int .i64 s.1)]) (λs w=>s.1<=ws.length/\gZ 128 205 n ws M1 w bs bw/\gZ 128 205 n s.2 M1 w os ow/\(∀j,j<64*s.1->bit s.2 j= !bit ws j)/\(∀j,64*s.1<=j->bit s.2 j=false)/\Step M1 w1 M1 w (λb=>b=ow)) (λs=>ws.length-s.1) (0,List.replicate ((n+63)/64) 0) a34 ?_ ?_
 ·exact⟨bm _,h1,hO1,λj hj=>by omega,λj hj=>Fy _ _,(aV).dF a15 (λb hb=>by rw[hb];exact hO1.mw)⟩
 ·rintro⟨k,vs⟩ w2 ⟨hk,h2,Ey,ua,Ih,S2⟩;dsimp only at hk Ey ua Ih ⊢;have hS2:=h2.s;have hOS:=Ey.s;have lJ:=Ey.len;refine T.aO (ck G G G (ad (aI ?_)));refine bI G (λc3=>?_) (λc3=>?_)
  ·refine aR (aI (aT (T.aO (ab G G (Rg.zW du rC G G G q0 (aA jY rfl rfl rfl h2.w (v:= .int .u64 ((ws.getD (k) 0:Nat):Int)) (by rw[show((k:Int)).toNat=k from by omega];exact iY q0) (aB G G (Rg.aZ G G (aN ?_)))))))));refine ab G G (aL G ⟨_,G⟩ G (aK fA G G yX XT G G (aA du G G G a00 G (ab G G (ab G G (Rg.adq G G (fN.get _) (Rg.zW du rC G G G q0 ?_)))))));refine ch (M:=M1) (u:= .int .u64 ((vs.getD k 0:Nat):Int)) rC rfl rfl Ey.w (by rw[aq];exact iY q0) G Ey.mw (λw5 hW5 s5=>?_);rw[aq,tU]at hW5;refine ad (aN (br G G G q0 (ab G G (ad ?_))));refine⟨G,(k+1,vs.set k (2^64-1-ws.getD k 0)),a34,?_,?_⟩
   ·refine⟨by simp only;omega,h2.step s5 q0 q0,Ey.put s5 (by simp) hW5 (Ey.ok.set q0),λj hj=>?_,λj hj=>?_,S2.trans s5 (λ_ _ h=>h)⟩
    ·simp only at hj ⊢;rw[DL _ q0];by_cases hjk:j/64=k
     ·rw[if_pos hjk,O9 (fN.get _) q0];unfold bit;rw[hjk]
     ·rw[if_neg hjk];exact ua j q0
    ·simp only at hj ⊢;rw[DL _ q0,if_neg q0];exact Ih j q0
   ·simp only;omega
  ·refine cE (aI (T.aO (ab G G (aL G ⟨_,G⟩ G (aK fA G G I3 XT G G (aA aj G G G a00 G (Rg.zB G G G q0 (aY (v':= .int .i64 ((n%64:Nat):Int)) (congrArg _ q0) (Rg.aZ G G ?_)))))))));refine T.aO (ab G G (il G G G (ad ?_)));refine bI G (λc8=>?_) (λc8=>?_)
   ·have WA:=Nat.two_pow_pos (n%64);have hp3:2^(n%64)<2^64:=Nat.pow_lt_pow_right XT q0;apply T.sN (M:=M1) mixed [] [cw.eq _,cw.eq _,cw.eq _,cw.eq (.slice (some ⟨ow,0,none⟩) vs.length vs.length),cw.eq _,cw.eq _,cw.eq _,cw.eq (.slice (some ⟨ow,0,none⟩) vs.length vs.length),cw.eq (.int .i64 vs.length),cw.eq (.int .i64 ((vs.length-1:Nat):Int)),cw.eq (.pointer (some ⟨ow,((vs.length-1:Nat):Int).toNat,none⟩)),cw.eq (.int .u64 ((vs.getD (vs.length-1) 0:Nat):Int)),cw.eq _,cw.eq (.int .u64 ((2^(n%64):Nat):Int)),cw.eq (.int .u64 ((2^(n%64)-1:Nat):Int)),cw.eq (.int .u64 (((vs.getD (vs.length-1) 0%2^(n%64)):Nat):Int)),cw.eq (.pointer (some ⟨ow,((vs.length-1:Nat):Int).toNat,none⟩))] 17
    ·rfl
    ·rfl
    ·rfl
    ·rfl
    ·rfl
    ·exact a90
    ·exact sf
    ·refine az ?_ ?_
     ·intro wD E sD;refine ab G G ?_;exact a02
     refine az ?_ ?_
     ·intro wD E sD;refine aw (aL G ⟨_,G⟩ G ?_);exact a02
     refine az ?_ ?_
     ·intro wD E sD;refine aw (aK fA G G yX XT G G ?_);exact a02
     refine az ?_ ?_
     ·intro wD E sD;refine aw (aA du G G G (cg sD a00) G ?_);exact a02
     refine az ?_ ?_
     ·intro wD E sD;refine ab G G ?_;exact a02
     refine az ?_ ?_
     ·intro wD E sD;refine aw (aL G ⟨_,G⟩ G ?_);exact a02
     refine az ?_ ?_
     ·intro wD E sD;refine aw (aK fA G G yX XT G G ?_);exact a02
     refine az ?_ ?_
     ·intro wD E sD;refine aw (aA du G G G (cg sD a00) G ?_);exact a02
     refine az ?_ ?_
     ·intro wD E sD;refine aw (Rg.tV du G G ?_);exact a02
     refine az ?_ ?_
     ·intro wD E sD;refine aw (jy G G G q0 (aY (v':= .int .i64 ((vs.length-1:Nat):Int)) (congrArg _ q0) ?_));exact a02
     refine az ?_ ?_
     ·intro wD E sD;refine aw (aw (Rg.zW du rC G G G q0 ?_));exact a02
     refine az ?_ ?_
     ·intro wD E sD;refine aw (aA jY rfl rfl rfl (sD.ay Ey.w) (v:= .int .u64 ((vs.getD (vs.length-1) 0:Nat):Int)) (by rw[aq];exact iY q0) ?_);exact a02
     refine az ?_ ?_
     ·intro wD E sD;refine ab G G ?_;exact a02
     refine az ?_ ?_
     ·intro wD E sD;refine aw (Rg.shl G G G q0 (aY (v':= .int .u64 ((2^(n%64):Nat):Int)) (congrArg _ (adt _ q0)) ?_));exact a02
     refine az ?_ ?_
     ·intro wD E sD;refine aw (Rg.X1 rfl rfl rfl (aY (v':= .int .u64 ((2^(n%64)-1:Nat):Int)) (congrArg _ (by rw[show((2^(n%64):Nat):Int)-1=((2^(n%64)-1:Nat):Int)from by omega,DK,Nat.mod_eq_of_lt q0])) ?_));exact a02
     refine az ?_ ?_
     ·intro wD E sD;refine aw (aw (Rg.and G G G (aY (v':= .int .u64 (((vs.getD (vs.length-1) 0%2^(n%64)):Nat):Int)) (congrArg _ (by rw[Iu _ _ (Ey.ok.get _) q0,Nat.and_two_pow_sub_one_eq_mod])) ?_)));exact a02
     refine az ?_ ?_
     ·intro wD E sD;refine aw (aw (aw (aw (aw (aw (aw (aw (aw (aw (aw (aw ?_)))))))))));refine aw (aw (aw (aw (aw (aw (Rg.zW du rC G G G q0 ?_))))));exact a02
     exact kA
    ·intro Vo wU;refine aw (aw (aw (aw (aw (aw (aw (aw (aw (aw (aw (aw ?_)))))))))));refine aw (aw (aw (aw (aw ?_))));refine ch (M:=M1) (u:= .int .u64 ((vs.getD (vs.length-1) 0:Nat):Int)) rC rfl rfl (wU.ay Ey.w) (by rw[aq];exact iY q0) G Ey.mw (λw9 hW9 s9=>?_);rw[aq,tU]at hW9;refine ad (T.aO (ab G G (Rg.aZ G G (aM ?_))));have Fj:k=ws.length:=by omega
     first
     |exact aP rfl rfl ⟨os,ow,vs.set (vs.length-1) (vs.getD (vs.length-1) 0%2^(n%64)),rfl,z1,z2,by rw[<-Cf];exact(s1.cq S2 (λb hb=>by omega)).av wU |>.cq s9 (λb hb=>by omega),by rw[<-Cf];exact(Ey.step wU (λh=>h) (λh=>h)).put s9 (by simp) hW9 (Ey.ok.set (Nat.lt_of_le_of_lt (Nat.mod_le _ _) (Ey.ok.get _))),λj=>Db hlen lJ q0 (by rw[<-Fj];exact ua) j⟩
     |exact aP rfl rfl ⟨os,ow,vs,rfl,z1,z2,by rw[<-Cf];exact s1.cq S2 (λb hb=>by omega),by rw[<-Cf];exact Ey,λj=>Hc hlen q0 (by rw[<-Fj];exact ua) (by rw[<-Fj];exact Ih) j⟩
   ·refine aR (T.aO (ab G G (Rg.aZ G G (aM ?_))));have Fj:k=ws.length:=by omega
    first
    |exact aP rfl rfl ⟨os,ow,vs.set (vs.length-1) (vs.getD (vs.length-1) 0%2^(n%64)),rfl,z1,z2,by rw[<-Cf];exact(s1.cq S2 (λb hb=>by omega)).av wU |>.cq s9 (λb hb=>by omega),by rw[<-Cf];exact(Ey.step wU (λh=>h) (λh=>h)).put s9 (by simp) hW9 (Ey.ok.set (Nat.lt_of_le_of_lt (Nat.mod_le _ _) (Ey.ok.get _))),λj=>Db hlen lJ q0 (by rw[<-Fj];exact ua) j⟩
    |exact aP rfl rfl ⟨os,ow,vs,rfl,z1,z2,by rw[<-Cf];exact s1.cq S2 (λb hb=>by omega),by rw[<-Cf];exact Ey,λj=>Hc hlen q0 (by rw[<-Fj];exact ua) (by rw[<-Fj];exact Ih) j⟩
theorem Dd {M:aE} {w0:World} {n:Nat} (hn:n<=1099511627776):
  Spec Tryz.prog 118 #[.int .i64 n] w0 (λv' w'=>∃os ow uH M',v'= .pointer (some ⟨os,0,none⟩)/\w0.heap.size<=os/\w0.heap.size<=ow/\Step M w0 M' w' ar/\gZ 128 205 n uH M' w' os ow/\∀j,bit uH j=decide (j<n)):=by
 refine aS (args:=[_]) (fn:=Tryz.f118) Tryz.func118 G (n:=6) Tryz.ntmps118 (T.aO (Rg.aZ G G (T.aO (ab G G ?_))));refine aJ G G E20 (Da (M:=M) hn) (λr1 w1 h=>?_);obtain⟨bs,bw,rfl,z1,z2,s1,h1⟩:=h;refine aJ G G an9 (Nv h1) (λr2 w2 h=>?_);obtain⟨os,ow,uH,rfl,z3,z4,s2,h2,hb⟩:=h;have y1:=s1.size;refine Rg.aZ G G (aM ?_);exact aP rfl rfl ⟨os,ow,uH,_,rfl,by omega,by omega,s1.av s2,h2,λj=>by rw[hb j,Fy];simp⟩
end Go.K
namespace Go.K
section
variable {P:Program} {r:Option Nat} {n:Nat} {L:Sl} {ds:List Deferred} {w:World} {K:Kt}
theorem T.af9 {σ:Type} {c:Code} (Lf:σ->Sl) (df:σ->List Deferred) (I:σ->World->Prop) (m:σ->Nat) (s0:σ) (hL:Sub (Lf s0) L) (hd:df s0=ds) (h0:I s0 w)
  (round:∀s w,I s w->T P r n c (Lf s) (df s) w (wY (λL' nj w'=>∃s',nj=df s'∧Sub (Lf s') L'∧I s' w'∧m s'<m s) K)):T P r n (.loop c) L ds w K:=by
 classical
 refine ⟨λa ha=> ?_⟩;subst hd
 let J:σ->Act->World->Prop:=λs a w=>iS n a (Lf s) (df s)/\I s w
 let μ:Act->World->Nat:=λa w=>if h:∃s,J s a w then m (Classical.choose (least m (J · a w) h))else 0
 refine wpIn_loop (λa w=>∃s,J s a w) μ ⟨s0,ha.sub hL,h0⟩ ?_;rintro a w hJ;have hc:=Classical.choose_spec (least m (J · a w) hJ);have hμ:μ a w=m (Classical.choose (least m (J · a w) hJ)):=by simp only[μ];rw[dif_pos hJ]
 rw[hμ];generalize Classical.choose (least m (J · a w) hJ)=s at hc;obtain⟨⟨hs,hi⟩,_⟩:=hc;refine wpIn_mono ((round s w hi).run a hs) ?_;rintro e a' w' ⟨L',nj,oz,hK⟩
 cases e with
 |normal=>
  obtain⟨s',rfl,zw,kQ,eZ⟩:=hK;have T6:∃s,J s a' w':=⟨s',oz.sub zw,kQ⟩;refine ⟨T6,?_⟩;have h2:=(Classical.choose_spec (least m (J · a' w') T6)).2 s' ⟨oz.sub zw,kQ⟩;simp only[μ];rw[dif_pos T6];omega
 |exit id=>exact⟨L',nj,oz,hK⟩
 |goto id=>exact⟨L',nj,oz,hK⟩
 |ret=>exact⟨L',nj,oz,hK⟩
 |panic c=>exact⟨L',nj,oz,hK⟩
 |outgrown=>exact⟨L',nj,oz,hK⟩
structure ix (M:aE) (w:World) (base:Nat) (Ds:List Nat):Prop where
 nd:Ds.Nodup
 at_:∀D∈Ds,w.heap[D]? =some (.deferred (some []))/\M D/\base<=D
theorem ix.nil (M:aE) (w:World) (base:Nat):ix M w base []:=⟨List.Pairwise.nil,λD h=>absurd h (List.not_mem_nil)⟩
theorem ix.cons {M:aE} {base D:Nat} {Ds:List Nat} (h:ix M w base Ds) (h1:D∉Ds) (h2:w.heap[D]? =some (.deferred (some []))) (h3:M D) (h4:base<=D):ix M w base (D::Ds):=
 ⟨qG.2 ⟨h1,h.nd⟩,λE hE=>by
  rcases cU.1 hE with rfl|hE
  ·exact⟨h2,h3,h4⟩
  ·exact h.at_ E hE⟩
theorem ix.step {M M' N:aE} {w':World} {base:Nat} {Ds:List Nat} (h:ix M w base Ds) (s:Step M w M' w' N) (hN:∀b,N b->w.heap[b]? ≠some (.deferred (some []))):ix M' w' base Ds:=
 ⟨h.nd,λD hD=>by
  obtain⟨h1,h2,h3⟩:=h.at_ D hD;exact⟨s.bL h1 (λhn=>hN D hn h1),(s.mem _ (ae h1)).2 h2,h3⟩⟩
theorem ix.run {M:aE} {base:Nat}:∀{Ds:List Nat} {w:World},ix M w base Ds->∃w',Marks P (Ds.map mark) w w'∧Step M w M w' (λb=>M b/\base<=b/\w.heap[b]? =some (.deferred (some [])))
 |[],w,_=>⟨w,rfl,(aV).dF a15 (λ_ h=>h.1)⟩
 |D::Ds,w,h=>by
  obtain⟨h1,h2,h3⟩:=h.at_ D (by simp);have lU:=qG.1 h.nd;have sE:Step M w M (w.putObj D (.deferred none)) (λk=>k=D):=⟨λh k hk=>by simpa[World.putObj]using h k hk,rfl,rfl,rfl,by simp[World.putObj],λ_ _=>Iff.rfl,λk _ hn=>World.putObj_heap_other (λe=>hn e),λk hk=>by subst hk;exact h2⟩
  have h':ix M (w.putObj D (.deferred none)) base Ds:=⟨lU.2,λE hE=>by
   obtain⟨q1,q2,q3⟩:=h.at_ E (by simp[hE]);exact⟨sE.bL q1 (fun(e:E=D)=>lU.1 (by rw[<-e];exact hE)),q2,q3⟩⟩
  obtain⟨w',hm,s⟩:=ix.run h';refine⟨w',⟨D,_,rfl,run_takeDeferred h1,hm⟩,(sE.dF (λb hb=>by subst hb;exact⟨h2,h3,h1⟩) (λb hb=>hb.1)).trans s (λb hb ⟨q1,q2,q3⟩=>?_)⟩;by_cases e:b=D
  ·subst e;exact⟨h2,h3,h1⟩
  ·exact⟨q1,q2,by rw[<-sE.same b hb e];exact q3⟩
theorem aaJ {fn:Func} {Q:Value->World->Prop} {M:aE} {base t:Nat} {v:Value} {Ds:List Nat} (hr:fn.results= #[.tmp t]) (hv:lk L t=some v) (hD:ix M w base Ds) (h:∀w',Step M w M w' (λb=>M b/\base<=b/\w.heap[b]? =some (.deferred (some [])))->Q v w'):
  Fk P fn Q .ret L (Ds.map mark) w:=by
 obtain⟨w',hm,s⟩:=hD.run (P:=P);exact⟨w',hm,λa ha=>⟨v,by simp[results,hr,ha t v hv],h w' s⟩⟩
end
open Go.Proofs
set_option maxRecDepth 10000
structure RM (X K:aE->World->Prop) (M:aE) (w0:World) (Ds:List Nat) (D:Nat) (st:Loop) (M':aE) (w:World):Prop where
 lt:Lt M' w
 S:Step M w0 M' w ar
 r:w.heap[D+1]? =some (.loop st)
 mr:M' (D+1)
 d:w.heap[D]? =some (.deferred (some []))
 md:M' D
 x:X M' w
 k:K M' w
 ms:ix M' w w0.heap.size Ds
 z:w0.heap.size<=D
 dn:D∉Ds
section
variable {X X' K:aE->World->Prop} {M M1 M2 N:aE} {w0 w w':World} {Ds:List Nat} {D:Nat} {st:Loop} {C:TypeId}
def Lu (C:TypeId) (X:aE->World->Prop):Prop:=∀{M w M' w' N},X M w->Step M w M' w' N->(∀b,N b->∀cs t fr,w.heap[b]? =some (.cells cs t fr)->t=C)->X M' w'
theorem RM.aga (hK:∀{M w M' w'},K M w->Le M w M' w'→K M' w') (h:RM X K M w0 Ds D st M1 w) (s:Step M1 w M2 w' N) (hb:∀b,N b->w0.heap.size<=b) (hc:∀b,N b->b<w.heap.size->∃cs t fr,w.heap[b]? =some (.cells cs t fr)) (x:X' M2 w'):RM X' K M w0 Ds D st M2 w':=by
 have n1: ¬N (D+1):=λhn=>by obtain⟨cs,t,fr,hq⟩:=hc _ hn (ae h.r);rw[h.r]at hq;cases hq
 have n2: ¬N D:=λhn=>by obtain⟨cs,t,fr,hq⟩:=hc _ hn (ae h.d);rw[h.d]at hq;cases hq
 exact⟨s.lt h.lt,h.S.cq s hb,s.bL h.r n1,(s.mem _ (ae h.r)).2 h.mr,s.bL h.d n2,(s.mem _ (ae h.d)).2 h.md,x,hK h.k s.le,h.ms.step s (λb hn hq=>by obtain⟨cs,t,fr,hq'⟩:=hc b hn (ae hq);rw[hq]at hq';cases hq'),h.z,h.dn⟩
theorem RM.agb (hK:∀{M w M' w'},K M w->Le M w M' w'→K M' w') (hX:Lu C X) (h:RM X K M w0 Ds D st M1 w) (s:Step M1 w M2 w' N) (hN:∀b,N b->w0.heap.size<=b/\(b<w.heap.size->∃cs,w.heap[b]? =some (.cells cs C (0,0)))):RM X K M w0 Ds D st M2 w':=
 h.aga hK s (λb hb=>(hN b hb).1) (λb hb hl=>by obtain⟨cs,hc⟩:=(hN b hb).2 hl;exact⟨_,_,_,hc⟩) (hX h.x s (λb hb cs t fr hc=>by
  obtain⟨sO,hc'⟩:=(hN b hb).2 (ae hc);rw[hc]at hc';injection hc' with hc';injection hc'))
theorem RM.nv (hK:∀{M w M' w'},K M w->Le M w M' w'→K M' w') (hX:Lu C X) {st':Loop} (h:RM X K M w0 Ds D st M1 w):RM X K M w0 Ds D st' M1 (w.putObj (D+1) (.loop st')):=by
 have s:Step M1 w M1 (w.putObj (D+1) (.loop st')) (λk=>k=D+1):=fD h.mr;have z:=h.z;refine⟨s.lt h.lt,h.S.cq s (λk (hk:k=D+1)=>by omega),World.putObj_heap_same (ae h.r),h.mr,s.bL h.d (fun(hn:D=D+1)=>by omega),h.md,hX h.x s (λb (hb:b=D+1) cs t fr hc=>?_),hK h.k s.le,h.ms.step s (λb (hb:b=D+1) hc=>?_),h.z,h.dn⟩
 ·rw[hb,h.r]at hc;cases hc
 ·rw[hb,h.r]at hc;cases hc
end
theorem aoc {X K:aE->World->Prop} {C:TypeId} {M M1:aE} {w0 w:World} {Ds:List Nat} {st:Loop} (hK:∀{M w M' w'},K M w->Le M w M' w'→K M' w') (hX:Lu C X) (hM:Lt M1 w) (S:Step M w0 M1 w ar) (hx:X M1 w) (hk:K M1 w) (hd:ix M1 w w0.heap.size Ds):
  ∃M',RM X K M w0 Ds w.heap.size st M' ((w.alloc (.deferred (some []))).alloc (.loop st)):=by
 have sA:Step M1 w (ins M1 w.heap.size) (w.alloc (.deferred (some []))) ar:=(dL M1 w _).own (aX _) (by simp);have sB:Step (ins M1 w.heap.size) (w.alloc (.deferred (some []))) (ins (ins M1 w.heap.size) (w.heap.size+1)) ((w.alloc (.deferred (some []))).alloc (.loop st)) ar:=(dL _ _ _).own (by simp) (by simp);have hD:(w.alloc (.deferred (some []))).heap[w.heap.size]? =some (.deferred (some [])):=cY w _;have hR:((w.alloc (.deferred (some []))).alloc (.loop st)).heap[w.heap.size+1]? =some (.loop st):=by have:=cY (w.alloc (.deferred (some []))) (.loop st);rwa [World.size_alloc]at this
 exact⟨_,sB.lt (sA.lt hM),(S.av sA).av sB,hR,.inl G,sB.ay hD,.inr (.inl G),hX (hX hx sA (λb h=>h.elim)) sB (λb h=>h.elim),hK (hK hk sA.le) sB.le,(hd.step sA (λb h=>h.elim)).step sB (λb h=>h.elim),S.size,λhn=>by have:=ae (hd.at_ _ hn).1;omega⟩
def nY (n b7 os ow:Nat) (P:Nat->Bool) (M:aE) (w:World):Prop:=w.heap[b7]? =some (.cells #[.pointer (some ⟨os,0,none⟩)] 49 (0,0))/\M b7/\∃ws,gZ 128 205 n ws M w os ow/\∀j,bit ws j=P j
theorem nY.kept {n b7 os ow:Nat} {P:Nat->Bool}:Lu 323 (nY n b7 os ow P):=fun⟨g,m,ws,hs,hp⟩ s hN=>by
 refine⟨s.bL g (λhn=>absurd (hN _ hn _ _ _ g) XT),(s.mem _ (ae g)).2 m,ws,hs.step s (λhn=>absurd (hN _ hn _ _ _ hs.s) XT) (λhn=>absurd (hN _ hn _ _ _ hs.w) XT),hp⟩
theorem nY.eq {n b7 os ow:Nat} {P Q:Nat->Bool} {M:aE} {w:World} (h:nY n b7 os ow P M w) (e:∀j,P j=Q j):nY n b7 os ow Q M w:=⟨h.1,h.2.1,h.2.2.choose,h.2.2.choose_spec.1,λj=>(h.2.2.choose_spec.2 j).trans (e j)⟩
theorem nY.cut {n b7 os ow:Nat} {P:Nat->Bool} {M:aE} {w w':World} {uH:List Nat} {i:Int} (h:nY n b7 os ow P M w) (hs:gZ 128 205 n uH M w' os ow) (s:Step M w M w' (λb=>b=ow)) (how:∃ws,w.heap[ow]? =some (.cells (pz ws) 205 (0,0))) (hb:∀j:Nat,bit uH j=(P j&&decide ((j:Int)≠i))):nY n b7 os ow (λj=>P j&&decide ((j:Int)≠i)) M w':=by
 obtain⟨g,m,_⟩:=h;obtain⟨ws,hw⟩:=how;exact⟨s.bL g (fun(e:b7=ow)=>by rw[e,hw]at g;injection g with g;injection g with _ g;exact absurd g XT),m,uH,hs,hb⟩
namespace TKLiveB
theorem I49:TI Tryz.prog 49 (.pointer none) 1 8:=by unfold TI;kernel_rfl
theorem He:TI Tryz.prog 150 (.agg #[(.string ⟨#[]⟩),(.string ⟨#[]⟩),(.int .i64 0)]) 3 40:=by unfold TI;kernel_rfl
theorem E73:Enters Tryz.prog 73:=enters Tryz.func73 rfl XT
theorem VF:Enters Tryz.prog 108:=enters Tryz.func108 rfl XT
theorem aaK:Enters Tryz.prog 118:=enters Tryz.func118 rfl XT
theorem VG:Enters Tryz.prog 119:=enters Tryz.func119 rfl XT
theorem aod:Enters Tryz.prog 120:=enters Tryz.func120 rfl XT
theorem aoe:Enters Tryz.prog 175:=enters Tryz.func175 rfl XT
end TKLiveB
open TKLiveB
set_option maxRecDepth 10000
abbrev rD (s:Se) (ls:List (List Po)) (e:Er):List Int:=vY (qA s.2.2.1 ls (cN e.1)) s.2.1 e.2
def rE (n:Nat) (s:Se) (ls:List (List Po)) (upto:Int) (es:List Er) (j:Nat):Bool:=decide (j<n)&&decide (rX s.2.1 j<upto)&& !(es.any λe=>decide (e.2<upto)&&decide ((j:Int)∈rD s ls e))
theorem De {n:Nat} {s:Se} {ls:List (List Po)} {upto:Int} {es:List Er} {e:Er} (j:Nat):rE n s ls upto (es++[e]) j=(rE n s ls upto es j&& !(decide (e.2<upto)&&decide ((j:Int)∈rD s ls e))):=by
 unfold rE;rw[List.any_append];simp only[List.any_cons,List.any_nil,Bool.or_false,Bool.not_or,Bool.and_assoc]
theorem Lv {n:Nat} {s:Se} {ls:List (List Po)} {upto:Int} {es:List Er} {j:Nat} (h:rE n s ls upto es j=true):j<n:=by
 unfold rE at h;simp only[cp,decide_eq_true_eq]at h;exact h.1.1
def yY (n:Nat) (s:Se) (upto:Int) (i j:Nat):Bool:=decide (j<n)&&(decide (i<=j)||decide (rX s.2.1 j<upto))
theorem VH {n:Nat} {s:Se} {upto:Int} {i:Nat} (h:upto<=rX s.2.1 (i:Int)) (j:Nat):(yY n s upto i j&&decide ((j:Int)≠(i:Int)))=yY n s upto (i+1) j:=by
 unfold yY;by_cases e:j=i
 ·subst e;rw[decide_eq_false (show¬(j:Int)≠(j:Int)from λh=>h rfl),decide_eq_false (show¬j+1<=j by omega),decide_eq_false (show¬rX s.2.1 (j:Int)<upto by omega)];simp
 ·rw[decide_eq_true (show(j:Int)≠(i:Int) by omega),kz];congr 2;exact decide_eq_decide.2 q0
theorem RN {n:Nat} {s:Se} {upto:Int} {i:Nat} (h: ¬upto<=rX s.2.1 (i:Int)) (j:Nat):yY n s upto i j=yY n s upto (i+1) j:=by
 unfold yY;by_cases e:j=i
 ·subst e;rw[decide_eq_true (show rX s.2.1 (j:Int)<upto by omega)];simp
 ·congr 2;exact decide_eq_decide.2 q0
theorem VI {n:Nat} {s:Se} {ls:List (List Po)} {upto:Int} (j:Nat):yY n s upto n j=rE n s ls upto [] j:=by
 unfold yY rE;by_cases h:j<n
 ·rw[decide_eq_false (show¬n<=j by omega)];simp
 ·rw[decide_eq_false h];simp
abbrev aaL (bs:Nat) (v0:Value) (s:Se) (u:Value) (e:Er):aE->World->Prop:=λM w=>w.heap[bs]? =some (.cells #[v0] 31 (0,0))/\¬M bs/\cG RT.se M w v0 s/\cG RT.er M w u e
abbrev Hf (bs:Nat) (v0:Value) (s:Se) (u:Value) (e:Er) (es:List Er) (ve:Value):aE->World->Prop:=λM w=>aaL bs v0 s u e M w/\(RT.er.sl).V M w es ve
theorem kj {bs:Nat} {v0 u ve:Value} {s:Se} {e:Er} {es:List Er} {M M':aE} {w w':World} (h:Hf bs v0 s u e es ve M w) (l:Le M w M' w'):Hf bs v0 s u e es ve M' w':=⟨Ha h.1 l,h.2.le l⟩
def Ci (n:Nat) (s:Se) (ls:List (List Po)) (upto:Int) (es:List Er) (e:Er) (i j:Nat):Bool:=rE n s ls upto es j&& !decide ((j:Int)∈(rD s ls e).take i)
theorem VJ {n:Nat} {s:Se} {ls:List (List Po)} {upto:Int} {es:List Er} {e:Er} {i:Nat} {x:Int} (h:(rD s ls e)[i]? =some x) (j:Nat):(Ci n s ls upto es e i j&&decide ((j:Int)≠x))=Ci n s ls upto es e (i+1) j:=by
 unfold Ci;rw[bQ,h,cH,Bool.and_assoc];congr 1;by_cases h1:(j:Int)∈(rD s ls e).take i<;>by_cases h2:(j:Int)=x<;>simp[h1,h2]
theorem VK {n:Nat} {s:Se} {ls:List (List Po)} {upto:Int} {es:List Er} {e:Er} (he:e.2<upto) (j:Nat):Ci n s ls upto es e (rD s ls e).length j=rE n s ls upto (es++[e]) j:=by
 unfold Ci;rw[De,bg (aX _),decide_eq_true he,cT]
theorem aaM {n:Nat} {s:Se} {ls:List (List Po)} {upto:Int} {es:List Er} {e:Er} {i j:Nat} (h:Ci n s ls upto es e i j=true):j<n:=by
 unfold Ci at h;rw[cp]at h;exact Lv h.1
theorem Nw {M:aE} {s:Se} {ls:List (List Po)} {es:List Er} {upto:Int} {v0 ve:Value} (w0:World) (hM:Lt M w0) (hs:cG RT.se M w0 v0 s) (Et:Ef s.2.2.1) (Oj:s.2.2.2=ls.map j5) (Ic:s.2.2.1.length=ls.length) (hn:s.1.length<=1000000) (he:(RT.er.sl).V M w0 es ve) (zD:es.length<=1000000) (uN:∀e∈es,Xr (qA s.2.2.1 ls (cN e.1))):
  Spec Tryz.prog 68 #[v0,ve,.int .i64 upto] w0 (λv w=>∃os ow ws M',v= .pointer (some ⟨os,0,none⟩)/\w0.heap.size<=os/\w0.heap.size<=ow/\Step M w0 M' w ar/\gZ 128 205 s.1.length ws M' w os ow/\∀j,bit ws j=rE s.1.length s ls upto es j):=by
 have iz:=hM;refine qT (args:=[_,_,_]) (fn:=Tryz.f68) Tryz.func68 G (n:=48) Tryz.ntmps68 ?_;have S:Step M w0 M w0 ar:=aV;refine T.aO (Rg.aZ G G (T.aO (ab G G ?_)));refine aJ G G VF (xV _ hs) (λr wc hc=>?_);obtain⟨rfl,hw⟩:=hc;obtain rfl:w0=wc:=hw.symm;refine aJ G G aaK (Dd (M:=M) (n:=s.1.length) q0) (λr2 w2 hc=>?_);obtain⟨os,ow,ws,M2,rfl,z1,z2,s2,dz,qB⟩:=hc;replace hs:=hs.le XT s2.le;replace he:=he.le s2.le;replace hM:=s2.lt hM;have:=S.size;replace S:=S.av s2;refine ek M2 I49 G (λlA BY YR YS gr s1_3=>?_);obtain⟨lB,rq⟩:∃M',M'=ins M2 lA:=⟨_,rfl⟩;rw[<-rq]at s1_3;have ic:lB lA:=by rw[rq];exact .inl G
 change BY.heap[lA]? =some (.cells #[.pointer none] _ _)at gr;replace hs:=hs.le XT s1_3.le;replace he:=he.le s1_3.le;replace hM:=s1_3.lt hM;have:=S.size;replace S:=S.av s1_3;refine ch (M:=lB) I49 G G gr G (G) ic (λPj BZ jJ=>?_)
 try simp only[nR,List.set_cons_zero,List.set_cons_succ]at BZ
 have:=ae gr;replace ic:=(jJ.mem _ this).2 ic;replace hs:=hs.le XT jJ.le;replace he:=he.le jJ.le;replace hM:=jJ.lt hM;have:=S.size;replace S:=S.trans jJ (λk hk h=>by have h:_=_:=h;subst h;first|(exfalso;omega)|(show _<=_;omega)|exact⟨by first|omega|assumption,(S.mem _ hk).1 ((jJ.mem _ (ae gr)).1 ic)⟩|exact .inl rfl|exact .inr rfl|exact .inr (.inl rfl)|exact .inr (.inr rfl)|exact .inr (.inr (.inl rfl))|exact rfl);have qZ:=BZ;clear gr;have gr:=qZ;clear qZ;refine ad (aI (T.aO (ab G G ?_)));refine aJ G G VF (xV _ hs) (λr wc hc=>?_);obtain⟨rfl,rfl⟩:=hc;refine ab G G (ad (aT ?_));refine cR (σ:=Nat) (λi=>[(0,v0),(1,ve),(2,.int .i64 upto),(7,.pointer (some ⟨lA,0,none⟩)),(16,.int .i64 (s.1.length:Int)),(17,.int .i64 (i:Int))]) (λi w=>∃M1,Lt M1 w/\Step M w0 M1 w ar/\nY s.1.length lA os ow (yY s.1.length s upto i) M1 w/\cG RT.se M1 w v0 s/\(RT.er.sl).V M1 w es ve/\i<=s.1.length) (λi=>s.1.length-i) 0 a14 ?_ ?_
 ·exact⟨_,hM,S,⟨gr,ic,ws,(dz.step s1_3 (λh=>h) (λh=>h)).step jJ (fun(h:os=lA)=>by have:=ae dz.s;omega) (fun(h:ow=lA)=>by have:=ae dz.w;omega),λj=>by rw[qB j];unfold yY;simp⟩,hs,he,bm _⟩
 ·clear S hs he hM gr ic;rintro i w ⟨M1,hM,S,hx,hs,he,hi⟩;refine T.aO (ck G G G (ad (aI ?_)));refine bI G (λc3=>?_) (λc3=>?_)
  ·refine aR (aI (aT (T.aO (ab G G (Rg.aZ G G (T.aO (ab G G (ab G G ?_))))))));refine aJ G G E73 (xW _ hs) (λr wc hc=>?_);obtain⟨rfl,rfl⟩:=hc;refine ab G G (eh G G G (ad ?_));refine bI G (λc5=>?_) (λc5=>?_)
   ·refine aN ?_;obtain⟨g7,m7,wsi,dz,qB⟩:=hx;refine aA ox G G G g7 G (aY (v':= .pointer (some ⟨os,0,none⟩)) G (ab G G ?_));refine aJ rfl rfl VG (A2 dz (i:=(i:Int)) (λj hj=>by rw[qB j]at hj;unfold yY at hj;simp only[cp,decide_eq_true_eq]at hj;exact hj.1)) (λr6 w6 hc=>?_);obtain⟨uH,RO,BG,s6⟩:=hc;have hx:=nY.cut (P:=yY s.1.length s upto i) ⟨g7,m7,wsi,dz,qB⟩ RO s6 ⟨_,dz.w⟩ (λj=>by rw[BG j,qB j]);replace hs:=hs.le XT s6.le;replace he:=he.le s6.le;replace S:=S.cq s6 (λb (hb:b=ow)=>by omega);replace hM:=s6.lt hM;refine ad (aN (br G G G q0 (ab G G (ad ?_))));refine⟨G,i+1,a14,?_,?_⟩
    ·exact⟨M1,hM,S,hx.eq (VH c5),hs,he,by omega⟩
    ·omega
   ·refine aR (aN (br G G G q0 (ab G G (ad ?_))));refine⟨G,i+1,a14,?_,?_⟩
    ·exact⟨M1,hM,S,hx.eq (RN c5),hs,he,by omega⟩
    ·omega
  ·refine cE (aI (T.aO (ab G G (bB Tryz.underlying62 G he G (ab G G (ad (aT ?_)))))));obtain rfl:i=s.1.length:=by omega
   replace hx:=hx.eq (VI (ls:=ls));refine T.af9 (σ:=Nat×List Nat) (λq=>[(0,v0),(2,.int .i64 upto),(7,.pointer (some ⟨lA,0,none⟩)),(29,ve),(30,.int .i64 (es.length:Int)),(31,.int .i64 (q.1:Int))]) (λq=>q.2.map mark) (λq w=>∃M1,Lt M1 w/\Step M w0 M1 w ar/\nY s.1.length lA os ow (rE s.1.length s ls upto (es.take q.1)) M1 w/\cG RT.se M1 w v0 s/\(RT.er.sl).V M1 w es ve/\ix M1 w w0.heap.size q.2/\q.1<=es.length) (λq=>es.length-q.1) (0,[]) a14 G ?_ ?_
   ·exact⟨_,hM,S,hx,hs,he,ix.nil _ _ _,bm _⟩
   ·clear S hs he hM hx;rintro⟨k,Ds⟩ w ⟨M1,hM,S,hx,hs,he,Xt,hk⟩;dsimp only at hx Xt hk ⊢;refine T.aO (ck G G G (ad (aI ?_)));refine bI G (λc9=>?_) (λc9=>?_)
    ·refine aR (aI (aT (T.aO ?_)));obtain⟨e,nk⟩:∃e,es[k]? =some e:=⟨_,an q0⟩;refine cx Tryz.underlying62 He G G G he b4 q0 (λaxs e' fV agd=>?_);rw[aq]at fV;obtain rfl:=aF (nk.symm.trans fV);refine bZ (A:=RT.er) Tryz.underlying150 G He XT G G G agd b4 (λaxt hve=>?_);have aof:=hve;obtain⟨rfl,⟨lC,aog⟩,axv⟩:=aaG aof;refine jR (A:=RT.er) (M:=M1) He G G G G G a00 b4 hM (λafx afy xS vU afz=>?_);replace hs:=hs.le XT vU.le;replace he:=he.le vU.le;replace hM:=vU.lt hM;have:=S.size;replace S:=S.av vU;refine ad (aI (T.aO ?_));replace hx:=nY.kept hx vU (λb h=>h.elim);replace Xt:=Xt.step vU (λb h=>h.elim);refine au (A:=RT.er) (B:=RT.int .i64) Tryz.underlying150 G G I3 XT er1 G G XT xS b4 (λaaN A4=>?_);refine bV aj G G A4 b4 (λhez=>?_);refine aY (v':= .int .i64 e.2) G (ab G G (eh G G G (ad ?_)));refine bI G (λIU=>?_) (λIU=>?_)
     ·refine cE (aN (br G G G q0 (ab G G (ad ?_))));refine⟨(k+1,Ds),G,a14,?_,?_⟩
      ·exact⟨_,hM,S,hx.eq (λj=>by dsimp only;rw[bQ,nk,cH,De,decide_eq_false (show¬e.2<upto by omega)];simp),hs,he,Xt,by dsimp only;omega⟩
      ·dsimp only;omega
     ·refine aR (T.aO (ab G G ?_));refine bZ (A:=RT.er) Tryz.underlying150 G He XT G G G xS b4 (λaoh RP=>?_);refine aJ G G aod (JU _ hM hs RP) (λr12 H7 hc=>?_);obtain⟨bs,u,rfl,U3,hu,hbs,jM⟩:=hc;have hK0:Hf bs v0 s u e es ve M1 H7:=⟨⟨U3,λh=>by have:=hM _ h;omega,hs.le XT jM.le,hu⟩,he.le jM.le⟩;replace hx:=nY.kept hx jM (λb h=>h.elim);replace Xt:=Xt.step jM (λb h=>h.elim);replace hs:=hs.le XT jM.le;replace he:=he.le jM.le;replace xS:=xS.le XT jM.le;replace hM:=jM.lt hM;have:=S.size;replace S:=S.av jM;refine ad (aT ?_);refine T.range (gf:=175) (lb:=[.pointer (some ⟨bs,0,none⟩),u].toArray) G aoe (λrec qS=>?_);obtain⟨D,hD⟩:∃D,D=H7.heap.size:=⟨_,rfl⟩;obtain⟨Mr,h0⟩:=aoc (X:=nY s.1.length lA os ow (Ci s.1.length s ls upto (es.take k) e 0)) (K:=Hf bs v0 s u e es ve) (C:=323) (st:=rec .ready none) kj nY.kept hM S (hx.eq (λj=>by unfold Ci;simp)) hK0 Xt;rw[<-hD]at qS h0 ⊢;refine Spec.mono (G9 (ls:=ls) (u:=u) Et Oj Ic (uN e (ax nk)) lC aog (M:=Mr) (J:=λi M' w=>RM (nY s.1.length lA os ow (Ci s.1.length s ls upto (es.take k) e i)) (Hf bs v0 s u e es ve) M w0 Ds D (rec .ready none) M' w) (Jx:=λ_=>False) _ (λi M' w h=>⟨h.lt,h.k.1⟩) (λi M' w M2 w2 N h s hN=>h.agb kj nY.kept s (λb hb=>⟨by have h1:=(hN b hb).1;have h2:=h.z;simp at h1;omega,(hN b hb).2⟩)) (λi M' wr x h TO=>?_) h0) (λ_ w3 h3=>?_)
      ·refine oG (ps:=[42]) (vs:=[.int .i64 x]) qS h.r G XT (aN (Rg.aZ G G (⟨G,h.r,?_⟩)));have h4:=h.nv kj nY.kept (st':=rec .busy none);have s4:Step M' wr M' (wr.putObj (D+1) (.loop (rec .busy none))) (λk=>k=D+1):=fD h.mr;generalize wr.putObj (D+1) _=w4 at h4 s4 ⊢;refine aT (aN ?_);obtain⟨g7,m7,wsi,dz,qB⟩:=h4.x;refine aA ox G G G g7 G (aY (v':= .pointer (some ⟨os,0,none⟩)) G (ab G G ?_));refine aJ rfl rfl VG (A2 dz (i:=x) (λj hj=>by rw[qB j]at hj;exact aaM hj)) (λr5 w5 hc=>?_);obtain⟨uH,RO,BG,s5⟩:=hc;refine ad ?_;have x5:=nY.cut h4.x RO s5 ⟨_,dz.w⟩ (λj=>by rw[BG j,qB j]);have h5:=h4.aga kj s5 (λb (hb:b=ow)=>by omega) (λb (hb:b=ow) _=>by rw[hb];exact⟨_,_,_,dz.w⟩) (x5.eq (VJ TO));have h8:=h5.nv kj nY.kept (st':=rec .ready none);have s8:=fD (w:=w5) (o:= .loop (rec .ready none)) h5.mr;refine⟨h5.r,true,G,λ_=>⟨M',λb=>b=D+1\/b=ow,h8,((s4.dF (λb hb=> .inl hb) (λb hb=>?_)).trans s5 (λb _ hb=> .inr hb)).trans s8 (λb _ hb=> .inl hb),λb hb cs hc=>?_⟩,λh=>by cases h⟩
       ·obtain⟨_,_,wz,hz,_⟩:=h.x;rcases hb with rfl|rfl
        ·exact h.mr
        ·exact hz.mw
       ·obtain⟨_,_,wz,hz,_⟩:=h.x;rcases hb with rfl|rfl
        ·rw[h.r]at hc;cases hc
        ·rw[hz.w]at hc;injection hc with hc;injection hc with _ hc;exact absurd hc XT
      ·obtain⟨M',h⟩:=h3.resolve_right id;left;refine ⟨h.r,?_⟩;have h5:=h.nv kj nY.kept (st':=rec .exhausted none);generalize w3.putObj (D+1) _=wE at h5 ⊢;refine aN (br G G G q0 (ab G G (ad ?_)));refine⟨(k+1,D::Ds),G,a14,?_,?_⟩
       ·exact⟨_,h5.lt,h5.S,h5.x.eq (λj=>by dsimp only;rw[bQ,nk,cH];exact VK q0 j),h5.k.1.2.2.1,h5.k.2,h5.ms.cons h5.dn h5.d h5.md h5.z,by dsimp only;omega⟩
       ·dsimp only;omega
    ·refine cE (T.aO ?_);obtain⟨g7,m7,wsf,dz,age⟩:=hx;refine aA ox G G G g7 G (aY (v':= .pointer (some ⟨os,0,none⟩)) G (Rg.aZ G G (aM ?_)));exact aaJ G G Xt (λw' s'=>⟨os,ow,wsf,M1,G,by omega,by omega,S.cq s' (λb hb=>hb.2.1),dz.step s' (λhn=>by have:=hn.2.2;rw[dz.s]at this;cases this) (λhn=>by have:=hn.2.2;rw[dz.w]at this;cases this),λj=>by rw[age j,bg q0]⟩)
end Go.K
namespace Go.K
open Go.Proofs
namespace TKSnapQ
theorem I31:TI Tryz.prog 31 (.pointer none) 1 8:=by unfold TI;kernel_rfl
theorem xu:TI Tryz.prog 132 (.map none) 1 8:=by unfold TI;kernel_rfl
theorem B2:TI Tryz.prog 135 (.pointer none) 1 8:=by unfold TI;kernel_rfl
theorem yP:TI Tryz.prog 137 (.agg #[(.int .i64 0)]) 1 8:=by unfold TI;kernel_rfl
theorem xX:TI Tryz.prog 141 (.slice none 0 0) 1 24:=by unfold TI;kernel_rfl
theorem agf:TI Tryz.prog 143 (.agg #[(.int .i64 0),(.pointer none),(.slice none 0 0),(.int .i64 0)]) 4 48:=by unfold TI;kernel_rfl
theorem yZ:TI Tryz.prog 147 (.agg #[(.int .i64 0),(.pointer none),(.pointer none)]) 3 24:=by unfold TI;kernel_rfl
theorem UE:placesOf Tryz.prog 137=[(0,1)].map some:=by kernel_rfl
theorem agh:placesOf Tryz.prog 143=[(0,1),(1,1),(2,1),(3,1)].map some:=by kernel_rfl
theorem agi:placesOf Tryz.prog 147=[(0,1),(1,1),(2,1)].map some:=by kernel_rfl
theorem E65:Enters Tryz.prog 65:=enters Tryz.func65 rfl XT
theorem E67:Enters Tryz.prog 67:=enters Tryz.func67 rfl XT
theorem E68:Enters Tryz.prog 68:=enters Tryz.func68 rfl XT
theorem E69:Enters Tryz.prog 69:=enters Tryz.func69 rfl XT
end TKSnapQ
open TKSnapQ
set_option maxRecDepth 10000
abbrev RT.prt:RT (Int×Value×Value):=RT.pair (RT.int .i64) (RT.pair RT.cell RT.cell)
theorem pU:Pr RT.prt:=λM M' w w' x vs h=>h
theorem agj {M:aE} {w:World} {k:Int} {x y:Value} (hk: -9223372036854775808<=k/\k<=9223372036854775807) (hx:x.oneCell'=true) (hy:y.oneCell'=true):RT.prt.V M w (k,x,y) (.agg #[.int .i64 k,x,y]):=
 ⟨[.int .i64 k,x,y],⟨[.int .i64 k],[x,y],rfl,⟨rfl,hk⟩,[x],[y],rfl,⟨rfl,hx⟩,⟨rfl,hy⟩⟩,rfl⟩
open Go.Maps (int_keyed keyOf_int_mk)
end Go.K
namespace Go.K
open Go.Proofs
namespace TKSnap13
theorem I31:TI Tryz.prog 31 (.pointer none) 1 8:=by unfold TI;kernel_rfl
theorem xu:TI Tryz.prog 132 (.map none) 1 8:=by unfold TI;kernel_rfl
theorem B2:TI Tryz.prog 135 (.pointer none) 1 8:=by unfold TI;kernel_rfl
theorem yP:TI Tryz.prog 137 (.agg #[(.int .i64 0)]) 1 8:=by unfold TI;kernel_rfl
theorem xX:TI Tryz.prog 141 (.slice none 0 0) 1 24:=by unfold TI;kernel_rfl
theorem agf:TI Tryz.prog 143 (.agg #[(.int .i64 0),(.pointer none),(.slice none 0 0),(.int .i64 0)]) 4 48:=by unfold TI;kernel_rfl
theorem yZ:TI Tryz.prog 147 (.agg #[(.int .i64 0),(.pointer none),(.pointer none)]) 3 24:=by unfold TI;kernel_rfl
theorem UE:placesOf Tryz.prog 137=[(0,1)].map some:=by kernel_rfl
theorem agh:placesOf Tryz.prog 143=[(0,1),(1,1),(2,1),(3,1)].map some:=by kernel_rfl
theorem agi:placesOf Tryz.prog 147=[(0,1),(1,1),(2,1)].map some:=by kernel_rfl
theorem E65:Enters Tryz.prog 65:=enters Tryz.func65 rfl XT
theorem E67:Enters Tryz.prog 67:=enters Tryz.func67 rfl XT
theorem E68:Enters Tryz.prog 68:=enters Tryz.func68 rfl XT
theorem E69:Enters Tryz.prog 69:=enters Tryz.func69 rfl XT
end TKSnap13
open TKSnap13
set_option maxRecDepth 10000
def Df (w:World) (B:Nat) (k:Int) (xa:Addr) (n:Nat) (f:Nat->Bool) (i:Nat) (ps:List (Int×Value×Value)):Prop:=(i=0/\ps=[])\/(i=1/\∃os ow ws,ps=[(k,.pointer (some xa),.pointer (some ⟨os,0,none⟩))]/\B<=os/\B<=ow/\gZ 128 205 n ws allM w os ow/\∀j,bit ws j=f j)
theorem Df.step {w w':World} {B:Nat} {k:Int} {xa:Addr} {n:Nat} {f:Nat->Bool} {i:Nat} {ps:List (Int×Value×Value)} {N:aE} (h:Df w B k xa n f i ps) (s:Step allM w allM w' N) (hN:∀b,N b->b<B):Df w' B k xa n f i ps:=by
 rcases h with h|⟨h1,os,ow,ws,h2,h3,h4,h5,h6⟩
 ·exact .inl h
 ·exact .inr ⟨h1,os,ow,ws,h2,h3,h4,h5.step s (λh=>by have:=hN _ h;omega) (λh=>by have:=hN _ h;omega),h6⟩
open Go.Maps (int_keyed keyOf_int_mk)
theorem JY {B sb mb:Nat} {u:Value} {n:Int} {ml:List (Int×Nat)} {fr:List Int} {es:List Er} {ve:Value} {k upto:Int} {hb:Nat} {c:Int} {xa:Addr} {vl:Value} {s:Se} {ls:List (List Po)} (w0:World) (hs:St w0 B sb mb u n ml fr) (hm:(k,hb)∈ml) (h0:gU w0 hb c (.pointer (some xa))) (hc:0<=c/\c<=900000) (hx:cG RT.se (λb=>b=sb\/b=mb\/b=hb) w0 (.pointer (some xa)) s) (hl:((RT.int .i64).sl).V (λb=>b=sb\/b=mb\/b=hb) w0 [k] vl) (Et:Ef s.2.2.1) (Oj:s.2.2.2=ls.map j5) (Ic:s.2.2.1.length=ls.length) (hn:s.1.length<=1000000) (he:(RT.er.sl).V (λb=>b=sb\/b=mb\/b=hb) w0 es ve) (zD:es.length<=1000000) (uN:∀e∈es,Xr (qA s.2.2.1 ls (cN e.1))):
  Spec Tryz.prog 25 #[.pointer (some ⟨sb,0,none⟩),vl,ve,.int .i64 upto] w0 (λv w=>∃p,v= .tuple #[.pointer (some ⟨p,0,none⟩),.int .i64 0]/\(∃pv ps,w.heap[p]? =some (.cells #[.int .i64 1,.pointer (some ⟨sb,0,none⟩),pv,.int .i64 upto] 143 (0,0))/\Own RT.prt 147 allM w w0.heap.size pv ps/\Df w w0.heap.size k xa s.1.length (rE s.1.length s ls upto es) 1 ps)/\w0.heap.size<=p/\St w B sb mb u n ml fr/\gU w hb (c+1) (.pointer (some xa))/\Step allM w0 allM w (λb=>b=hb)):=by
 have sF:=hs.b;have H5:=hs.z;have yQ:=hs.d;have IG:=hs.k;have IH:=hs.bs;have g0:=hs.s;have hr:=hs.r;obtain⟨yN,pZ,xx⟩:=IH;have gh:w0.heap[hb]? =some (.cells #[.int .i64 c,.pointer (some xa)] 139 (0,0)):=h0;have nh:sb≠hb:=λe=>by subst e;rw[g0]at gh;cases gh
 have KK:=xx _ hm;have Pn:=sF _ hm;simp only[]at KK Pn;have Cb:=ae gh;replace hl:=hl.le (Kp.start (B:=w0.heap.size) (aX _));replace hx:=hx.le XT (Kp.start (B:=w0.heap.size) (aX _));replace he:=he.le (Kp.start (B:=w0.heap.size) (aX _));refine aS (args:=[_,_,_,_]) (fn:=Tryz.f25) Tryz.func25 G (n:=79) Tryz.ntmps25 ?_;have S:Step allM w0 allM w0 (λb=>b=hb):=(aV).dF a15 (λ_ _=>trivial);refine T.aO ?_;refine iP allM G G (λvu Mt Uz UA eC kG=>?_);replace kG:=kG.all
 try simp only[Value.cells]at eC
 have:=ae g0;replace g0:=kG.ay g0;have:=ae gh;replace gh:=kG.ay gh;replace hr:=hr.bD kG;replace hl:=hl.le (jS kG);replace hx:=hx.le XT (jS kG);replace he:=he.le (jS kG);have:=S.size;replace S:=S.av kG;refine aB G G (Rg.aZ G G (aI (T.aO (ab G G (gz (xs:=[]) G G G ?_)))));have hsA:St Mt B sb mb u n ml fr:=⟨g0,hr,yQ,sF,H5,IG,yN,pZ,xx⟩;refine aJ rfl rfl E65 (DW _ hsA eC (hl.le Le.none) (λx hx=>by obtain rfl:=cO.1 hx;exact⟨_,_,_,hm,gh⟩)) (λr1 w1 KJ=>?_);obtain⟨rfl,rfl⟩:=KJ;refine ad (gy rfl (aR (T.aO (dp (places:=[(0,1)]) jZ yP UE rfl ⟨_,_,rfl,rfl,rfl⟩ (out:=[_]) ⟨0,[_],rfl,rfl,by simp[Value.cells],rfl⟩ (aA Tryz.underlying55 rfl rfl rfl eC rfl (aY (v':= .pointer (some ⟨sb,0,none⟩)) rfl (ab rfl rfl (dp (places:=[(0,1),(1,1),(2,1),(3,1)]) fX agf agh rfl ⟨_,_,rfl,rfl,_,_,rfl,rfl,_,_,rfl,rfl,rfl⟩ (out:=[_,_,.slice none 0 0,_]) ⟨0,[_],rfl,rfl,by simp[Value.cells],1,[_],rfl,rfl,by simp[Value.cells],3,[_],rfl,rfl,by simp[Value.cells],rfl⟩ ?_))))))));refine iP allM G G (λJZ ad7 axy axz iC pH=>?_);replace pH:=pH.all;change ad7.heap[JZ]? =some (.cells #[.int .i64 1,.pointer (some ⟨sb,0,none⟩),.slice none 0 0,.int .i64 upto] _ _)at iC;have:=ae g0;replace g0:=pH.ay g0;have:=ae gh;replace gh:=pH.ay gh;have:=ae eC;replace eC:=pH.ay eC;replace hr:=hr.bD pH;replace hl:=hl.le (jS pH);replace hx:=hx.le XT (jS pH);replace he:=he.le (jS pH);have:=S.size;replace S:=S.av pH;refine Rg.aZ G G (aI (T.aO (ab G G (bB ao G hl G (ab G G (ad (aT ?_)))))));refine cR (σ:=Nat×Value) (λq=>[(1,vl),(2,ve),(3,.int .i64 upto),(4,.pointer (some ⟨vu,0,none⟩)),(10,.pointer (some ⟨JZ,0,none⟩)),(24,vl),(25,.int .i64 1),(26,.int .i64 (q.1:Int))]) (λq w=>St w B sb mb u n ml fr/\gU w hb c (.pointer (some xa))/\w.heap[vu]? =some (.cells #[.pointer (some ⟨sb,0,none⟩)] 55 (0,0))/\w.heap[JZ]? =some (.cells #[.int .i64 1,.pointer (some ⟨sb,0,none⟩),q.2,.int .i64 upto] 143 (0,0))/\(∃ps,Df w w0.heap.size k xa s.1.length (rE s.1.length s ls upto es) q.1 ps/\Own RT.prt 147 allM w w0.heap.size q.2 ps)/\((RT.int .i64).sl).V (Kp (λb=>b=sb\/b=mb\/b=hb) w0.heap.size w) w [k] vl/\cG RT.se (Kp (λb=>b=sb\/b=mb\/b=hb) w0.heap.size w) w (.pointer (some xa)) s/\(RT.er.sl).V (Kp (λb=>b=sb\/b=mb\/b=hb) w0.heap.size w) w es ve/\q.1<=1/\Step allM w0 allM w (λb=>b=hb)) (λq=>1-q.1) (0,.slice none 0 0) (.cons G a81) ?_ ?_
 ·exact⟨⟨g0,hr,yQ,sF,H5,IG,yN,pZ,xx⟩,gh,eC,iC,⟨[],.inl ⟨G,G⟩,eE _ _ _ _ _⟩,hl,hx,he,bm 1,S⟩
 ·clear g0 hr gh eC iC hl hx he S hs h0;rintro⟨i,pv⟩ w ⟨hs,gh,eC,iC,⟨pts,qm,ho⟩,hl,hx,he,hi,S⟩;dsimp only at hi iC ho qm ⊢;have g0:=hs.s;have hr:=hs.r;clear hs;change w.heap[hb]? =some (.cells #[.int .i64 c,.pointer (some xa)] 139 (0,0))at gh;refine T.aO (ck G G G (ad (aI ?_)));refine bI G (λc5=>?_) (λc5=>?_)
  ·refine aR (aI (aT (T.aO (ab G G ?_))));obtain rfl:i=0:=by omega
   refine cx ao I3 G G G hl b4 (by simp) (λu6 o H6 ue=>?_);obtain rfl:k=o:=by simpa using H6
   refine bM aj G G G G G ue b4 (λv6 oR=>?_);obtain⟨rfl,_,_⟩:=E9.1 oR;refine aB G G (Rg.aZ G G (aI (T.aO (ab G G (ab G G ?_)))));refine Rg.Dy (M:=(Kp (λb=>b=sb\/b=mb\/b=hb) w0.heap.size w)) ao I3 G G G hl (by simp) (λu7 YU=>?_);replace YU:((RT.int .i64).sl).V ar w [] u7:=by simpa using YU.le Le.none
   refine ab G G ?_;refine aJ G G E67 (MC _ YU) (λr7 w7 hc7=>?_);obtain⟨rfl,rfl⟩:=hc7;refine ad (gy G (aR (T.aO (aA Tryz.underlying55 G G G eC G (aY (v':= .pointer (some ⟨sb,0,none⟩)) G (aL G ⟨_,G⟩ G (aK (o':=0) dK G G xu XT G G (aA dJ G G G a00 G (ab G G ?_)))))))));refine Rg.tX (R:=vm) dJ (int_keyed aj) B2 G G G G (keyOf_int_mk aj (DT q0)) hr.m (λv ps hv=>?_);rw[atKey_mem yQ hm]at hv;obtain rfl:=kW hv;refine aL G ⟨_,G⟩ G (aK (o':=1) tw G G I31 XT G G (aA jx G G G a00 G (Rg.aZ G G ?_)));apply T.qa 10 [0,1,2,3,4,5,6] 4 ((lW pv)) mixed rfl rfl rfl rfl;intro aoi aoj;have A5:=aoj allM;have:=ae g0;replace g0:=A5.ay g0;have:=ae gh;replace gh:=A5.ay gh;have:=ae eC;replace eC:=A5.ay eC;have:=ae iC;replace iC:=A5.ay iC;replace hr:=hr.bD A5;replace hl:=hl.le (jS A5);replace hx:=hx.le XT (jS A5);replace he:=he.le (jS A5);replace ho:=ho.FX pU A5 (λ_ _ h=>h);have:=S.size;replace S:=S.av A5;refine ab G G (Rg.cI (ab G G (Rg.cI (aL G ⟨_,G⟩ G (Rg.cI (aK (o':=2) fX G G xX XT G G (Rg.cI (aA ez G G G (by first|assumption|exact cg A5 a00) G (Rg.cI (ab G G (Rg.cI ?_)))))))))));refine ab G G (Rg.cI (ab G G (Rg.cI (ab G G (Rg.cI (ab G G (Rg.cI (fB (⟨ik ⟨eP,⟨eP,⟨nf G,⟨fC fX G xX XT,⟨eO G iC (λh=>ho.fk iC XT h),⟨eP,⟨eP,trivial⟩⟩⟩⟩⟩⟩⟩,?_⟩)))))))))
   have kp:=iR ((lW pv)) aoi;refine aJ rfl rfl E68 (Nw (ls:=ls) (es:=es) _ (Kp.lt λb h=>by rcases h with rfl|rfl|rfl<;>first|exact ae g0|exact hr.m.lt|exact ae gh) hx Et Oj Ic hn he zD uN) (λr10 w10 aok=>?_);obtain⟨os,ow,ws,M10,rfl,z1,z2,oT,dz,qB⟩:=aok;have hn1: ¬os=JZ:=by have:=ae iC;omega
   have hn2: ¬ow=JZ:=by have:=ae iC;omega
   replace dz:gZ 128 205 s.1.length ws allM w10 os ow:=⟨trivial,trivial,dz.ne,dz.s,dz.w,dz.len,dz.ok,dz.nn⟩;have hzS:=S.size;replace oT:=oT.all;have:=ae g0;replace g0:=oT.ay g0;have:=ae gh;replace gh:=oT.ay gh;have:=ae eC;replace eC:=oT.ay eC;have:=ae iC;replace iC:=oT.ay iC;replace hr:=hr.bD oT;replace hl:=hl.le (jS oT);replace hx:=hx.le XT (jS oT);replace he:=he.le (jS oT);replace ho:=ho.FX pU oT (λ_ _ h=>h);have:=S.size;replace S:=S.av oT;refine(fun(kp:fa _ _ _)=>ad ⟨G,G,λ_=>kp,?_⟩) a03;refine dp (places:=[(0,1),(1,1),(2,1)]) mh yZ agi rfl ⟨_,_,rfl,rfl,_,_,rfl,rfl,_,_,rfl,rfl,rfl⟩ (out:=[_,_,_]) ⟨0,[_],rfl,rfl,by simp[Value.cells],1,[_],rfl,rfl,by simp[Value.cells],2,[_],rfl,rfl,by simp[Value.cells],rfl⟩ ?_;refine(fun(kp:fa _ _ _)=>ad ⟨G,G,λ_=>kp,?_⟩) a03;have agl:Lt (mI pv) w10:=λb hb=>(ho.base b hb).2
   refine fm (A:=RT.prt) (hn:=by decide) (M:=mI pv) (a:=(k,.pointer (some xa),.pointer (some ⟨os,0,none⟩))) ez yZ XT G G agl (agj q0 G G) (.inl G) (λu12 H7 A6 jM=>?_);replace jM:=jM.all;have:=ae g0;replace g0:=jM.ay g0;have:=ae gh;replace gh:=jM.ay gh;have:=ae eC;replace eC:=jM.ay eC;have:=ae iC;replace iC:=jM.ay iC;replace hr:=hr.bD jM;replace hl:=hl.le (jS jM);replace hx:=hx.le XT (jS jM);replace he:=he.le (jS jM);replace ho:=ho.FX pU jM (λ_ _ h=>h);replace dz:=dz.step jM (λh=>h) (λh=>h);have:=S.size;replace S:=S.av jM;refine(fun(kp:fa _ _ _)=>ad ⟨G,G,λ_=>kp,?_⟩) a03
   have Xu:pts=[]:=by
    rcases qm with⟨_,h⟩|⟨h,_⟩
    ·exact h
    ·omega
   have asM:pts.length=0:=by rw[Xu];rfl
   refine dA (M:=mI pv) (base:=w0.heap.size) ez yZ rfl rfl rfl rfl (ho.adQ pU) A6 b4 a13 a13 S.size (λu13 M13 Vi agn oh=>?_);replace oh:=oh.all;have hq:∀b,lW pv b->w0.heap.size<=b:=λb h=>(ho.base b h).1
   replace g0:=oh.bL g0 (λh=>ho.fk g0 XT h);have CR:=oh.bL gh (λh=>ho.fk gh XT h);have Hg:=oh.bL iC (λh=>ho.fk iC XT h);have Xv:=oh.bL eC (λh=>ho.fk eC XT h);replace hr:=hr.step oh (λb hb=>by obtain⟨cs,h⟩:=ho.UG hb;exact⟨cs,_,by decide,by decide,h⟩);replace hl:=hl.le (Kp.le oh (λb h=> .inr (hq b h)));replace hx:=hx.le XT (Kp.le oh (λb h=> .inr (hq b h)));replace he:=he.le (Kp.le oh (λb h=> .inr (hq b h)));replace dz:=dz.step oh (λh=>ho.fk dz.s XT h) (λh=>ho.fk dz.w XT h);replace S:=S.trans oh (λb hb h=>by have:=hq b h;omega);clear gh iC eC ho;have gh:=CR;have iC:=Hg;have eC:=Xv;have ho:=agn.adP pU (M':=allM) λ_ _=>trivial
   clear CR Hg Xv agn;refine(fun(kp:fa _ _ _)=>ad ⟨G,G,λ_=>kp,?_⟩) a03;refine aL G ⟨_,G⟩ G (ad ⟨G,G,λh=>absurd G h,aK (o':=2) fX G G xX XT G G (ad ⟨G,G,λh=>absurd G h,?_⟩)⟩);refine ch (M:=allM) xX rfl rfl iC rfl (a84) trivial (λaaP RQ nZ=>?_);change aaP.heap[_]? =some (Obj.cells #[.int .i64 1,.pointer (some ⟨sb,0,none⟩),u13,.int .i64 upto] _ _)at RQ;replace g0:=nZ.bL g0 a05;replace gh:=nZ.bL gh a05;replace eC:=nZ.bL eC a05;replace hr:=hr.step nZ (λb hb=>by cases hb;exact⟨_,_,by decide,by decide,iC⟩);replace hl:=hl.le (Kp.le nZ (λb h=>by subst h;first|exact .inr q0|exact .inl (.inr (.inr rfl))));replace hx:=hx.le XT (Kp.le nZ (λb h=>by subst h;first|exact .inr q0|exact .inl (.inr (.inr rfl))));replace he:=he.le (Kp.le nZ (λb h=>by subst h;first|exact .inr q0|exact .inl (.inr (.inr rfl))));replace ho:=ho.FX pU nZ (λb hb h=>by subst h;first|exact ho.fk iC XT hb|exact ho.fk gh XT hb);replace dz:=dz.step nZ (λh=>hn1 h) (λh=>hn2 h);have:=S.size;replace S:=S.trans nZ (λk hk h=>by have h:_=_:=h;subst h;first|(exfalso;omega)|(show _<=_;omega)|exact .inl rfl|exact .inr rfl|exact .inr (.inl rfl)|exact .inr (.inr rfl)|exact .inr (.inr (.inl rfl))|exact rfl);have Hg:=RQ;clear iC;have iC:=Hg;clear Hg;refine ad ⟨G,G,λh=>absurd G h,lH (aN (br G G G q0 (ab G G (ad ?_))))⟩;refine⟨G,(1,u13),(.cons G a81),?_,?_⟩
   ·exact⟨⟨g0,hr,yQ,sF,H5,IG,yN,pZ,xx⟩,gh,eC,iC,⟨_,.inr ⟨rfl,os,ow,ws,by rw[Xu];rfl,by omega,by omega,dz,qB⟩,ho⟩,hl,hx,he,aX 1,S⟩
   ·dsimp only;omega
  ·refine cE (aI (T.aO (ab G G (bB ao G hl G (ab G G (ad (aT ?_)))))));refine cR (σ:=Nat) (λj=>[(4,.pointer (some ⟨vu,0,none⟩)),(10,.pointer (some ⟨JZ,0,none⟩)),(62,vl),(63,.int .i64 1),(64,.int .i64 (j:Int))]) (λj w=>Df w w0.heap.size k xa s.1.length (rE s.1.length s ls upto es) i pts/\St w B sb mb u n ml fr/\gU w hb (c+j) (.pointer (some xa))/\w.heap[vu]? =some (.cells #[.pointer (some ⟨sb,0,none⟩)] 55 (0,0))/\w.heap[JZ]? =some (.cells #[.int .i64 1,.pointer (some ⟨sb,0,none⟩),pv,.int .i64 upto] 143 (0,0))/\Own RT.prt 147 allM w w0.heap.size pv pts/\((RT.int .i64).sl).V (Kp (λb=>b=sb\/b=mb\/b=hb) w0.heap.size w) w [k] vl/\j<=1/\Step allM w0 allM w (λb=>b=hb)) (λj=>1-j) 0 a34 ?_ ?_
   ·exact⟨qm,⟨g0,hr,yQ,sF,H5,IG,yN,pZ,xx⟩,(by rw[show c+((0:Nat):Int)=c from by omega];exact gh),eC,iC,ho,hl,by decide,S⟩
   ·clear g0 hr gh eC iC hl hx he S ho qm;rintro j w ⟨qm,hs,gh,eC,iC,ho,hl,hj,S⟩;have g0:=hs.s;have hr:=hs.r;clear hs;change w.heap[hb]? =some (.cells #[.int .i64 (c+j),.pointer (some xa)] 139 (0,0))at gh;refine T.aO (ck G G G (ad (aI ?_)));refine bI G (λJa=>?_) (λJa=>?_)
    ·refine aR (aI (aT (T.aO ?_)));obtain rfl:j=0:=by omega
     refine cx ao I3 G G G hl b4 (by simp) (λu6 o H6 ue=>?_);obtain rfl:k=o:=by simpa using H6
     refine bM aj G G G G G ue b4 (λv6 oR=>?_);obtain⟨rfl,_,_⟩:=E9.1 oR;refine Rg.aZ G G (aN (aA Tryz.underlying55 G G G eC G (aY (v':= .pointer (some ⟨sb,0,none⟩)) G (aL G ⟨_,G⟩ G (aK (o':=0) dK G G xu XT G G (aA dJ G G G a00 G (ab G G ?_)))))));refine Rg.tX (R:=vm) dJ (int_keyed aj) B2 G G G G (keyOf_int_mk aj (DT q0)) hr.m (λv ps hv=>?_);rw[atKey_mem yQ hm]at hv;obtain rfl:=kW hv;refine aL G ⟨_,G⟩ G (aK (o':=0) tw G G yP XT G G ?_);refine aJ G G E69 (CS _ gh q0) (λr15 Ia h15=>?_);obtain⟨g15,l7⟩:=h15;replace hr:=hr.count l7 gh g15;replace g0:=l7.bL g0 a05;replace eC:=l7.bL eC a05;replace iC:=l7.bL iC a05;replace hl:=hl.le (Kp.le l7 (λb h=>by subst h;first|exact .inr q0|exact .inl (.inr (.inr rfl))));replace ho:=ho.FX pU l7 (λb hb h=>by subst h;first|exact ho.fk iC XT hb|exact ho.fk gh XT hb);replace qm:=qm.step l7 (λb h=>by subst h;exact Cb);have:=S.size;replace S:=S.trans l7 (λk hk h=>by have h:_=_:=h;subst h;first|(exfalso;omega)|(show _<=_;omega)|exact .inl rfl|exact .inr rfl|exact .inr (.inl rfl)|exact .inr (.inr rfl)|exact .inr (.inr (.inl rfl))|exact rfl);have CR:=g15;clear gh;have gh:=CR;clear CR;refine ad (aN (br G G G q0 (ab G G (ad ?_))));refine⟨G,1,a34,?_,?_⟩
     ·rw[show c+((0:Nat):Int)+1=c+((1:Nat):Int)from by omega]at gh;exact⟨qm,⟨g0,hr,yQ,sF,H5,IG,yN,pZ,xx⟩,gh,eC,iC,ho,hl,aX 1,S⟩
     ·omega
    ·refine cE (T.aO (ab G G (aB G G (Rg.aZ G G (aM ?_)))));obtain rfl:j=1:=by omega
     obtain rfl:i=1:=by omega
     exact eS G G G ⟨_,G,⟨pv,pts,iC,ho,qm⟩,by omega,⟨g0,hr,yQ,sF,H5,IG,yN,pZ,xx⟩,gh,S⟩
end Go.K
namespace Go.K
open Go.Proofs
namespace TKSide
theorem Ot:TI Tryz.prog 36 (.slice none 0 0) 1 24:=by unfold TI;kernel_rfl
theorem lR:TI Tryz.prog 45 (.agg #[(.int .i64 0),(.int .i64 0)]) 2 16:=by unfold TI;kernel_rfl
theorem A7:TI Tryz.prog 261 (.agg #[(.int .i64 0),(.int .i64 0),(.int .i64 0)]) 3 24:=by unfold TI;kernel_rfl
theorem VL:TI Tryz.prog 313 (.pointer none) 1 8:=by unfold TI;kernel_rfl
theorem ago:placesOf Tryz.prog 261=[(0,1),(1,1),(2,1)].map some:=by kernel_rfl
end TKSide
open TKSide
set_option maxRecDepth 10000
theorem Dg {M2:aE} {w6:World} {ba bb bx k:Nat} {a' b':List Fo} {v0 v1:Value} (hk:k<2) (fw:ba≠bb) (hxa:bx≠ba) (P1:bx≠bb) (Oo:M2 ba) (yW:M2 bb) (Ld:w6.heap[ba]? =some (.cells #[v0] 36 (0,0))) (wO:((RT.fo).sl).V M2 w6 (lK a' (jv a' b') (decide (0<k))) v0) (Lg:w6.heap[bb]? =some (.cells #[v1] 36 (0,0))) (nu:((RT.fo).sl).V M2 w6 (lK b' (jv a' b') (decide (1<k))) v1):
  ∃pk lk vk,[ba,bb][k]? =some pk/\[a',b'][k]? =some lk/\w6.heap[pk]? =some (.cells #[vk] 36 (0,0))/\((RT.fo).sl).V M2 w6 lk vk/\M2 pk/\(pk=ba\/pk=bb)/\pk≠bx/\(∀(w':World) (v':Value),(∀q o,q≠pk->q≠bx->w6.heap[q]? =some o->w'.heap[q]? =some o)->(∀l v,((RT.fo).sl).V M2 w6 l v->((RT.fo).sl).V M2 w' l v)->w'.heap[pk]? =some (.cells #[v'] 36 (0,0))->((RT.fo).sl).V M2 w' (gj lk (jv a' b')) v'→
   ∃v0 v1,w'.heap[ba]? =some (.cells #[v0] 36 (0,0))/\((RT.fo).sl).V M2 w' (lK a' (jv a' b') (decide (0<k+1))) v0/\w'.heap[bb]? =some (.cells #[v1] 36 (0,0))/\((RT.fo).sl).V M2 w' (lK b' (jv a' b') (decide (1<k+1))) v1):=by
 match k with
 |0=>exact⟨ba,a',v0,rfl,rfl,Ld,wO,Oo,.inl rfl,λh=>hxa h.symm,λw' v' h1 h2 h3 h4=>⟨v',v1,h3,h4,h1 bb _ (λh=>fw h.symm) (λh=>P1 h.symm) Lg,h2 _ _ nu⟩⟩
 |1=>exact⟨bb,b',v1,rfl,rfl,Lg,nu,yW,.inr rfl,λh=>P1 h.symm,λw' v' h1 h2 h3 h4=>⟨v0,v',h1 ba _ fw (λh=>hxa h.symm) Ld,h2 _ _ wO,h3,h4⟩⟩
 |k+2=>omega
theorem Nx {M:aE} {w0:World} {va vb:Value} {a b:List Fo} (hM:Lt M w0) (ha:((RT.fo).sl).V M w0 a va) (hb:((RT.fo).sl).V M w0 b vb):
  Spec Tryz.prog 158 #[va,vb] w0 (λv' w'=>∃ba bb,v'= .func (.func 200) #[] #[.pointer (some ⟨ba,0,none⟩),.pointer (some ⟨bb,0,none⟩)]/\w'.heap[ba]? =some (.cells #[va] 36 (0,0))/\w'.heap[bb]? =some (.cells #[vb] 36 (0,0))/\ba≠bb/\w0.heap.size<=ba/\w0.heap.size<=bb/\Step M w0 (ins (ins M ba) bb) w' ar):=by
 refine aS (args:=[_,_]) (fn:=Tryz.f158) Tryz.func158 G (n:=6) Tryz.ntmps158 (T.aO ?_);refine iP M G G (λba w1 h1 Uk hA s1=>?_);rw[iF ha]at hA;refine iP (ins M ba) G G (λbb w2 h2 H0 hB s2=>?_);rw[iF hb]at hB;have hA2:=s2.ay hA;have z1:=s1.size;refine Rg.aZ G G (T.aO (gz (xs:=[]) (ys:=[.tmp 2,.tmp 3]) G G G (Rg.aZ G G (aM ?_))));exact aP G G ⟨ba,bb,G,hA2,hB,by omega,h1,by omega,s1.av s2⟩
set_option maxHeartbeats 2000000 in
theorem J0 {w0:World} {ba bb yl:Nat} {a b:List Fo} {va vb:Value} {J:List Fo->List Fo->aE->World->Prop} {M:aE} {Jx:World->Prop} (fw:ba≠bb) (Lk:∀a b M w,J a b M w->Lt M w/\M ba/\M bb) (jV:∀a b M w M' w',J a b M w->Step M w M' w' (λj=>j=ba\/j=bb)->J a b M' w') (hy:∀(a b:List Fo) (M:aE) (w:World),J a b M w->uI a->uI b->(a≠[]\/b≠[])->uV Tryz.prog yl [.agg #[.int .i64 (jv a b),.int .i64 (sV a b 2),.int .i64 (sY a b 2)]].toArray w (λr w'=>∃c,r= .bool c/\(c=true->∃M' N,J (gj a (jv a b)) (gj b (jv a b)) M' w'∧Step M w M' w' N/\∀k,N k->k≠ba/\k≠bb)/\(c=false->Jx w'))) (ha:w0.heap[ba]? =some (.cells #[va] 36 (0,0))) (hb:w0.heap[bb]? =some (.cells #[vb] 36 (0,0))) (o7:((RT.fo).sl).V M w0 a va) (On:((RT.fo).sl).V M w0 b vb) (oa:uI a) (ob:uI b) (h0:J a b M w0):
  Spec Tryz.prog 200 #[.func (.yield yl) #[] #[],.pointer (some ⟨ba,0,none⟩),.pointer (some ⟨bb,0,none⟩)] w0 (λ_ w'=>(∃M',J [] [] M' w')\/Jx w'):=by
 refine aS (args:=[_,_,_]) (fn:=Tryz.f200) Tryz.func200 G (n:=85) Tryz.ntmps200 (aT ?_);refine cR (σ:=List Fo×List Fo) (λs=>[(0,.func (.yield yl) #[] #[]),(1,.pointer (some ⟨ba,0,none⟩)),(2,.pointer (some ⟨bb,0,none⟩))]) (λs w=>uI s.1/\uI s.2/\∃va vb M1,J s.1 s.2 M1 w/\w.heap[ba]? =some (.cells #[va] 36 (0,0))/\w.heap[bb]? =some (.cells #[vb] 36 (0,0))/\((RT.fo).sl).V M1 w s.1 va/\((RT.fo).sl).V M1 w s.2 vb) (λs=>s.1.length+s.2.length) (a,b) a07 ?_ ?_
 ·exact⟨oa,ob,va,vb,M,h0,ha,hb,o7,On⟩
 ·rintro⟨a',b'⟩ w1 ⟨T0,T1,va1,vb1,M1,hJ,hA1,hB1,Ny,Nz⟩;dsimp only at T0 T1 hJ Ny Nz ⊢;obtain⟨tn,VM,VN⟩:=Lk _ _ _ _ hJ;refine aI (T.aO (aA a7 G G G a00 G (bB a7 G Ny G (il G G G (ab G G ?_)))));refine aW (g:=12) G (λVO=>?_) (λVO=>?_)
  ·have RR:a'≠[]\/b'≠[]:= .inl (by intro h;rw[h]at VO;simp at VO);refine ak rfl rfl rfl rfl (ak rfl rfl rfl rfl (ak rfl rfl rfl rfl (a8 rfl rfl rfl (ad (lh rfl (aR (aT (T.aO (dp (places:=[(0,1),(1,1),(2,1)]) dw A7 ago rfl ⟨_,_,rfl,rfl,rfl⟩ (out:=[_,.int .i64 0,.int .i64 0]) ⟨0,[_],rfl,rfl,by simp[Value.cells],rfl⟩ ?_)))))))));refine ek M1 A7 G (λbx w2 z2 z2' hX0 s2=>?_);obtain⟨M2,y4⟩:∃M2,M2=ins M1 bx:=⟨_,rfl⟩;have VP:M2 bx:=by rw[y4];exact .inl G
   have Oo:M2 ba:=by rw[y4];exact .inr VM
   have yW:M2 bb:=by rw[y4];exact .inr VN
   have hxa:bx≠ba:=by have:=ae hA1;omega
   have P1:bx≠bb:=by have:=ae hB1;omega
   rw[<-y4]at s2;refine dX (M:=M2) A7 G G ai8 rfl rfl hX0 VP (λw3 hX3 s3=>?_);change w3.heap[bx]? =some (.cells #[.int .i64 2147483648,.int .i64 0,.int .i64 0] 261 (0,0))at hX3;have S3:=s2.cq s3 (λj hj=>by subst hj;exact z2);have hA3:=S3.ay hA1;have hB3:=S3.ay hB1;have RS:=Ny.le S3.le;have RU:=Nz.le S3.le;have Xi:=S3.lt tn;refine ad (aI (T.aO (aA a7 G G G a00 G (aA a7 G G G a00 G ?_))));refine Rg.Ub (A:=(RT.fo).sl) (hn:=by decide) (M:=M2) (xs:=[a',b']) Tryz.underlying312 Ot G XT G ⟨_,_,_,G,G,G,RS,_,_,_,G,G,G,RU,G⟩ G Xi (.inr ⟨G,G⟩) XT (λu20 w4 J1 s4=>?_);refine bB Tryz.underlying312 G J1 G (ab G G (ad (aT ?_)));refine cR (σ:=Nat) (λs=>[(0,.func (.yield yl) #[] #[]),(1,.pointer (some ⟨ba,0,none⟩)),(2,.pointer (some ⟨bb,0,none⟩)),(4,.pointer (some ⟨bx,0,none⟩)),(20,u20),(21,.int .i64 2),(22,.int .i64 s)]) (λs w=>s<=2/\Step M1 w1 M2 w ar/\w.heap[bx]? =some (.cells #[.int .i64 (TR a' b' s),.int .i64 0,.int .i64 0] 261 (0,0))/\(((RT.fo).sl).sl).V M2 w [a',b'] u20) (λs=>2-s) 0 a81 ?_ ?_
   ·exact⟨bm _,S3.av s4,s4.ay hX3,J1⟩
   ·rintro k w5 ⟨DB,S5,NA,rS⟩;refine T.aO (ck G G G (ad (aI ?_)));refine bI G (λc3=>?_) (λc3=>?_)
    ·refine aR (aI (aT (T.aO ?_)))
     obtain⟨lk,nq⟩:∃x,[a',b'][k]? =some x:=by
      have aaQ:k<[a',b'].length:=by simp;omega
      exact⟨_,an aaQ⟩
     have Oe:([a',b']:List (List Fo)).length=2:=rfl;refine cx Tryz.underlying312 Ot G G G (rS) b4 a62 (λMP JA AW td=>?_);obtain rfl:lk=JA:=dV (aF (AW.symm.trans (by rw[aq];exact nq)));refine bM a7 G G G G G td b4 (λI7 oQ=>?_);replace oQ:((RT.fo).sl).V M2 _ lk I7:=oQ;refine Rg.aZ G G (T.aO (ab G G (bB a7 G oQ G (il G G G (ad ?_)))));refine bI G (λc5=>?_) (λc5=>?_)
     ·obtain⟨⟨d,s⟩,tl,rfl⟩:∃p tl,lk=p::tl:=by
       cases lk with
       |nil=>simp at c5
       |cons p tl=>exact⟨p,tl,rfl⟩
      apply T.sN (M:=M2) mixed [] [cw.eq _,cw.eq (.int .i64 (TR a' b' k)),cw.eq _,cw.ptr (RT.fo) (d,s),cw.ptr (RT.int .i64) d,cw.eq (.int .i64 d),cw.eq _] 7
      ·rfl
      ·rfl
      ·rfl
      ·rfl
      ·rfl
      ·exact a90
      ·exact sf
      ·refine az ?_ ?_
       ·intro wD E sD;refine aK dw G G I3 XT G G ?_;exact a02
       refine az ?_ ?_
       ·intro wD E sD;refine aw (aA aj G G G (cg sD a00) G ?_);exact a02
       refine az ?_ ?_
       ·intro wD E sD;refine ab G G ?_;exact a02
       refine az ?_ ?_
       ·intro wD E sD;refine aw ?_;refine cx a7 lR G G G (oQ.le sD.le) b4 q0 (λui ai RV RW=>?_);obtain rfl:(d,s)=ai:=dV (aF (RV.symm.trans rfl));exact aq6
       refine az ?_ ?_
       ·intro wD E sD;intro v3 xH;refine au (A:=RT.fo) (B:=RT.int .i64) dg G G I3 XT (WD) G G XT (show cG (RT.fo) M2 wD v3 (d,s)from xH) b4 (λuf sH=>?_);exact a73
       refine az ?_ ?_
       ·intro wD E sD;intro v4 qb;refine bV aj G G (show cG (RT.int .i64) M2 wD v4 d from qb) b4 (λmL=>?_);exact a02
       refine az ?_ ?_
       ·intro wD E sD;refine aw (aw (Rg.min2 G G G ?_));exact a02
       exact kA
      ·intro wD6 xY;refine aw (aw (aw ?_));intro aom agr;intro aon ags;refine aw (aw (aK dw G G I3 XT G G ?_));refine ch (M:=M2) I3 G G (xY.ay NA) G G VP (λw7 hX7 s7=>?_);change w7.heap[bx]? =some (.cells #[.int .i64 (min (TR a' b' k) d),.int .i64 0,.int .i64 0] 261 (0,0))at hX7;refine ad (aN (br G G G q0 (ab G G (ad ?_))));refine⟨G,k+1,a81,?_,?_⟩
       ·first
        |exact⟨by omega,(S5.av xY).cq s7 (λj hj=>by subst hj;exact z2),by rw[lz nq];exact hX7,(rS.le xY.le).le s7.le⟩
        |exact⟨by omega,S5,by rw[lz nq,tM];exact NA,rS⟩
       ·show 2-(k+1)<2-k;omega
     ·have tM:lk=[]:=by
       cases lk with
       |nil=>rfl
       |cons p tl=>simp at c5
      refine aR (aN (br G G G q0 (ab G G (ad ?_))));refine⟨G,k+1,a81,?_,?_⟩
      ·first
       |exact⟨by omega,(S5.av xY).cq s7 (λj hj=>by subst hj;exact z2),by rw[lz nq];exact hX7,(rS.le xY.le).le s7.le⟩
       |exact⟨by omega,S5,by rw[lz nq,tM];exact NA,rS⟩
      ·show 2-(k+1)<2-k;omega
    ·refine cE (aI (T.aO ?_));obtain rfl:k=2:=by omega
     replace NA:w5.heap[bx]? =some (.cells #[.int .i64 (jv a' b'),.int .i64 0,.int .i64 0] 261 (0,0)):=NA;have hM5:=S5.lt tn;refine Rg.Ub (A:=RT.E3) (hn:=by decide) (M:=M2) (xs:=[ba,bb]) Tryz.underlying314 VL G XT G ⟨_,_,_,G,G,G,oK.2 G,_,_,_,G,G,G,oK.2 G,G⟩ G hM5 (.inr ⟨G,G⟩) XT (λu38 w8 RX s8=>?_);refine bB Tryz.underlying314 G RX G (ab G G (ad (aT ?_)));refine cR (σ:=Nat) (λs=>[(0,.func (.yield yl) #[] #[]),(1,.pointer (some ⟨ba,0,none⟩)),(2,.pointer (some ⟨bb,0,none⟩)),(4,.pointer (some ⟨bx,0,none⟩)),(38,u38),(39,.int .i64 2),(40,.int .i64 s)]) (λs w=>s<=2/\((RT.E3).sl).V M2 w [ba,bb] u38/\Step M1 w1 M2 w (λj=>j=ba\/j=bb)/\w.heap[bx]? =some (.cells #[.int .i64 (jv a' b'),.int .i64 (sV a' b' s),.int .i64 (sY a' b' s)] 261 (0,0))/\∃v0 v1,w.heap[ba]? =some (.cells #[v0] 36 (0,0))/\((RT.fo).sl).V M2 w (lK a' (jv a' b') (decide (0<s))) v0/\w.heap[bb]? =some (.cells #[v1] 36 (0,0))/\((RT.fo).sl).V M2 w (lK b' (jv a' b') (decide (1<s))) v1) (λs=>2-s) 0 a81 ?_ ?_
     ·exact⟨bm _,RX,(S5.av s8).dF a15 (λj hj=>by rcases hj with rfl|rfl;exact VM;exact VN),s8.ay NA,va1,vb1,s8.ay (S5.ay hA1),(Ny.le S5.le).le s8.le,s8.ay (S5.ay hB1),(Nz.le S5.le).le s8.le⟩
     ·rintro k w6 ⟨DB,ue,S6,JD,v0,v1,Ld,wO,Lg,nu⟩;have hmy:=KF a' b' k;refine T.aO (ck G G G (ad (aI ?_)));refine bI G (λc9=>?_) (λc9=>?_)
      ·refine aR (aI (aT (T.aO ?_)));obtain⟨pk,lk,vk,hpk,nq,RY,J2,hkM,hkN,Xs,k8⟩:=Dg (show k<2 by omega) fw hxa P1 Oo yW Ld wO Lg nu;have hl3:([ba,bb]:List Nat).length=2:=rfl;refine cx Tryz.underlying314 VL G G G (ue) b4 a62 (λPT GV AX AB=>?_);obtain rfl:pk=GV:=dV (aF (AX.symm.trans (by rw[aq];exact hpk)));refine bM Tryz.underlying313 G G G G G AB b4 (λv10 uw=>?_);obtain rfl:=oK.1 uw;refine Rg.aZ G G (aI ?_);by_cases vZ:((lk.length:Nat):Int)>0
       ·obtain⟨⟨d,s⟩,tl,rfl⟩:∃p tl,lk=p::tl:=by
         cases lk with
         |nil=>simp at vZ
         |cons p tl=>exact⟨p,tl,rfl⟩
        apply T.draw (M:=M2) mixed [cw.eq _,cw.eq _,cw.eq vk,cw.eq _,cw.eq _,cw.eq (.bool true),cw.eq _,cw.eq _,cw.eq vk,cw.ptr (RT.fo) (d,s),cw.ptr (RT.int .i64) d,cw.eq (.int .i64 d),cw.eq _,cw.eq (.int .i64 (jv a' b')),cw.eq _,cw.eq _]
        ·rfl
        ·refine aH ?_ ?_
         ·intro wD E sD;refine ab G G ?_;exact a02
         refine aH ?_ ?_
         ·intro wD E sD;refine aw (aL G ⟨_,G⟩ G ?_);exact a02
         refine aH ?_ ?_
         ·intro wD E sD;refine aw (aA a7 G G G (cg sD a00) G ?_);exact a02
         refine aH ?_ ?_
         ·intro wD E sD;refine aw (bB a7 G (J2.le sD.le) G ?_);exact a02
         refine aH ?_ ?_
         ·intro wD E sD;refine aw (il G G G ?_);exact a02
         refine aH ?_ ?_
         ·intro wD E sD;refine aw (ab G G ?_);refine ad ⟨G,G,_,G,?_,aV⟩;exact congrArg Value.bool (decide_eq_true vZ)
         refine aH ?_ ?_
         ·intro wD E sD;refine aw (ah G G (ab G G ?_));exact a02
         refine aH ?_ ?_
         ·intro wD E sD;refine aw (aw (ah G G (aL G ⟨_,G⟩ G ?_)));exact a02
         refine aH ?_ ?_
         ·intro wD E sD;refine aw (aw (ah G G (aA a7 G G G (cg sD a00) G ?_)));exact a02
         refine aH ?_ ?_
         ·intro wD E sD;refine aw (aw (ah G G ?_));refine cx a7 lR G G G (J2.le sD.le) b4 q0 (λui ai RV RW=>?_);obtain rfl:(d,s)=ai:=dV (aF (RV.symm.trans rfl));exact aq6
         refine aH ?_ ?_
         ·intro wD E sD;intro v9 MU;refine aw (ah G G ?_);refine au (A:=RT.fo) (B:=RT.int .i64) dg G G I3 XT (WD) G G XT (show cG (RT.fo) M2 wD v9 (d,s)from MU) b4 (λuf sH=>?_);exact a73
         refine aH ?_ ?_
         ·intro wD E sD;intro v10 uw;refine aw (ah G G ?_);refine bV aj G G (show cG (RT.int .i64) M2 wD v10 d from uw) b4 (λmL=>?_);exact a02
         refine aH ?_ ?_
         ·intro wD E sD;refine aw (ah G G (aK dw G G I3 XT G G ?_));exact a02
         refine aH ?_ ?_
         ·intro wD E sD;refine aw (aw (ah G G (aA aj G G G (cg sD a00) G ?_)));exact a02
         refine aH ?_ ?_
         ·intro wD E sD;refine aw (aw (aw (ah G G (gN G G G ?_))));exact a02
         refine aH ?_ ?_
         ·intro wD E sD;refine aw (aw (a8 G G G ?_));exact a02
         exact sd
        ·intro B1 dZ;refine aw (aw (aw (aw (aw (aw (aw (aw (aw ?_))))))));intro agv aaS;intro Rn zn;refine aw (aw (aw (aw (aw ?_))));have Eo:=dZ.ay JD;have Hh:=dZ.ay RY;refine bI G (λIU=>?_) (λIU=>?_)
         ·refine T.aO (aK dw G G I3 XT G G (aA aj G G G Eo G (aY (v':= .int .i64 (sV a' b' k)) G (br G G G q0 (aK dw G G I3 XT G G ?_)))));refine ch (M:=M2) I3 G G Eo G G VP (λH7 JF jM=>?_);change H7.heap[bx]? =some (.cells #[.int .i64 (jv a' b'),.int .i64 (sV a' b' k+1),.int .i64 (sY a' b' k)] 261 (0,0))at JF;have RZ:=jM.bL Hh Xs;have Hi:=(J2.le dZ.le).le jM.le;refine ad (aI ?_);apply T.sN (M:=M2) mixed [] [cw.eq _,cw.eq (.int .i64 (sY a' b' k)),cw.eq _,cw.eq _,cw.eq vk,cw.ptr (RT.fo) (d,s),cw.ptr (RT.int .i64) s,cw.eq (.int .i64 s),cw.eq _] 9
          ·rfl
          ·rfl
          ·rfl
          ·rfl
          ·rfl
          ·exact a90
          ·exact sf
          ·refine az ?_ ?_
           ·intro wD E sD;refine aK dw G G I3 XT G G ?_;exact a02
           refine az ?_ ?_
           ·intro wD E sD;refine aw (aA aj G G G (cg sD a00) G ?_);exact a02
           refine az ?_ ?_
           ·intro wD E sD;refine ab G G ?_;exact a02
           refine az ?_ ?_
           ·intro wD E sD;refine aw (aL G ⟨_,G⟩ G ?_);exact a02
           refine az ?_ ?_
           ·intro wD E sD;refine aw (aA a7 G G G (cg sD a00) G ?_);exact a02
           refine az ?_ ?_
           ·intro wD E sD;refine aw ?_;refine cx a7 lR G G G (Hi.le sD.le) b4 q0 (λui ai RV RW=>?_);obtain rfl:(d,s)=ai:=dV (aF (RV.symm.trans rfl));exact aq6
           refine az ?_ ?_
           ·intro wD E sD;intro v5 qK;refine au (A:=RT.fo) (B:=RT.int .i64) dg G G I3 XT (fo1) G G XT (show cG (RT.fo) M2 wD v5 (d,s)from qK) b4 (λuf sH=>?_);exact a73
           refine az ?_ ?_
           ·intro wD E sD;intro v6 oR;refine bV aj G G (show cG (RT.int .i64) M2 wD v6 s from oR) b4 (λmL=>?_);exact a02
           refine az ?_ ?_
           ·intro wD E sD;refine aw (aw (qH G G G ?_));exact a02
           exact kA
          ·intro PV jm;refine aw (aw (aw (aw (aw ?_))));intro KX xD;intro Xd AR;refine aw (aw (aK dw G G I3 XT G G ?_));have Ro:=jm.ay JF;refine ch (M:=M2) I3 G G Ro G G VP (λOi R0 iO=>?_);change Oi.heap[bx]? =some (.cells #[.int .i64 (jv a' b'),.int .i64 (sV a' b' k+1),.int .i64 (IntKind.i64.wrap (sY a' b' k+s))] 261 (0,0))at R0;have Hj:=iO.bL (jm.ay RZ) Xs;have R1:=(Hi.le jm.le).le iO.le;refine ad (aN (ab G G (ab G G (aL G ⟨_,G⟩ G (aA a7 G G G Hj G (aY (v':=vk) G ?_))))));refine Rg.pb (A:=RT.fo) (hn:=by decide) a7 lR rfl rfl rfl R1 (by simp only[cy];omega) (λOu ux=>?_);replace ux:((RT.fo).sl).V M2 Oi tl Ou:=ux;refine aL G ⟨_,G⟩ G ?_;refine ch (M:=M2) Ot G G Hj G (jL ux G G) hkM (λIa we l7=>?_);change Ia.heap[pk]? =some (.cells #[Ou] 36 (0,0))at we;have J3:=l7.bL R0 (λh=>Xs h.symm);have uy:hit ((d,s)::tl) (jv a' b')=true:=xj IU;have R2:gj ((d,s)::tl) (jv a' b')=tl:=by unfold gj;rw[if_pos uy];rfl
           have SK:=((((S6.av dZ).cq jM (λj hj=>by subst hj;omega)).av jm).cq iO (λj hj=>by subst hj;omega)).trans l7 (λj _ hj=>by subst hj;exact hkN);have NB:=bp (bp (bp (bp dZ.le jM.le) jm.le) iO.le) l7.le;refine ad (aN (br G G G q0 (ab G G (ad ?_))));refine⟨G,k+1,a81,?_,?_⟩
           ·first
            |exact⟨by omega,ue.le NB,SK,by rw[jc nq,jd nq];unfold oM oL;rw[if_pos uy,if_pos uy];exact J3,k8 Ia Ou (λq o h1 h2 h3=>l7.bL (iO.bL (jm.ay (jM.bL (dZ.ay h3) h2)) h2) h1) (λl v h=>h.le NB) we ag0⟩
            |exact⟨by omega,ue.le dZ.le,S6.av dZ,by rw[jc nq,jd nq];unfold oM oL;rw[if_neg ac0,if_neg ac0];exact dZ.ay JD,k8 _ vk (λq o h1 h2 h3=>dZ.ay h3) (λl v h=>h.le dZ.le) (dZ.ay RY) a65⟩
           ·show 2-(k+1)<2-k;omega
         ·have Cj:hit ((d,s)::tl) (jv a' b')=false:=decide_eq_false IU;refine aR (aN (br G G G q0 (ab G G (ad ?_))));refine⟨G,k+1,a81,?_,?_⟩
          ·first
           |exact⟨by omega,ue.le NB,SK,by rw[jc nq,jd nq];unfold oM oL;rw[if_pos uy,if_pos uy];exact J3,k8 Ia Ou (λq o h1 h2 h3=>l7.bL (iO.bL (jm.ay (jM.bL (dZ.ay h3) h2)) h2) h1) (λl v h=>h.le NB) we ag0⟩
           |exact⟨by omega,ue.le dZ.le,S6.av dZ,by rw[jc nq,jd nq];unfold oM oL;rw[if_neg ac0,if_neg ac0];exact dZ.ay JD,k8 _ vk (λq o h1 h2 h3=>dZ.ay h3) (λl v h=>h.le dZ.le) (dZ.ay RY) a65⟩
          ·show 2-(k+1)<2-k;omega
       ·have Cj:hit lk (jv a' b')=false:=by
         cases lk with
         |nil=>rfl
         |cons p tl=>simp at vZ
        apply T.draw (M:=M2) mixed [cw.eq _,cw.eq _,cw.eq vk,cw.eq _,cw.eq _,cw.eq (.bool false),cw.eq undef,cw.eq undef,cw.eq undef,cw.eq undef,cw.eq undef,cw.eq undef,cw.eq undef,cw.eq undef,cw.eq undef,cw.eq _]
        ·rfl
        ·refine aH ?_ ?_
         ·intro wD E sD;refine ab G G ?_;exact a02
         refine aH ?_ ?_
         ·intro wD E sD;refine aw (aL G ⟨_,G⟩ G ?_);exact a02
         refine aH ?_ ?_
         ·intro wD E sD;refine aw (aA a7 G G G (cg sD a00) G ?_);exact a02
         refine aH ?_ ?_
         ·intro wD E sD;refine aw (bB a7 G (J2.le sD.le) G ?_);exact a02
         refine aH ?_ ?_
         ·intro wD E sD;refine aw (il G G G ?_);exact a02
         refine aH ?_ ?_
         ·intro wD E sD;refine aw (ab G G ?_);refine ad ⟨G,G,_,G,?_,aV⟩;exact congrArg Value.bool (decide_eq_false vZ)
         refine aH ?_ ?_
         ·intro wD E sD;refine aw ?_;exact a08
         refine aH ?_ ?_
         ·intro wD E sD;refine aw (aw ?_);exact a08
         refine aH ?_ ?_
         ·intro wD E sD;refine aw (aw ?_);exact a08
         refine aH ?_ ?_
         ·intro wD E sD;refine aw (aw ?_);exact a08
         refine aH ?_ ?_
         ·intro wD E sD;refine aw (aw ?_);exact a08
         refine aH ?_ ?_
         ·intro wD E sD;refine aw (aw ?_);exact a08
         refine aH ?_ ?_
         ·intro wD E sD;refine aw ?_;exact a08
         refine aH ?_ ?_
         ·intro wD E sD;refine aw (aw ?_);exact a08
         refine aH ?_ ?_
         ·intro wD E sD;refine aw (aw (aw ?_));exact a08
         refine aH ?_ ?_
         ·intro wD E sD;refine aw (aw (aD G G G ?_));exact a02
         exact sd
        ·intro B1 dZ;refine aw (aw (aw (aw (aw (aw (aw (aw (aw (aw (aw (aw ?_)))))))))));refine aw (aw (aw (aw ?_)));have Eo:=dZ.ay JD;have Hh:=dZ.ay RY;refine gy G (aR (aN (br G G G q0 (ab G G (ad ?_)))));refine⟨G,k+1,a81,?_,?_⟩
         ·first
          |exact⟨by omega,ue.le NB,SK,by rw[jc nq,jd nq];unfold oM oL;rw[if_pos uy,if_pos uy];exact J3,k8 Ia Ou (λq o h1 h2 h3=>l7.bL (iO.bL (jm.ay (jM.bL (dZ.ay h3) h2)) h2) h1) (λl v h=>h.le NB) we ag0⟩
          |exact⟨by omega,ue.le dZ.le,S6.av dZ,by rw[jc nq,jd nq];unfold oM oL;rw[if_neg ac0,if_neg ac0];exact dZ.ay JD,k8 _ vk (λq o h1 h2 h3=>dZ.ay h3) (λl v h=>h.le dZ.le) (dZ.ay RY) a65⟩
         ·show 2-(k+1)<2-k;omega
      ·refine cE (T.aO (ab G G ?_));obtain rfl:k=2:=by omega
       refine eQ (vs:=[.int .i64 (jv a' b'),.int .i64 (sV a' b' 2),.int .i64 (sY a' b' 2)]) dw G A7 G G G JD ?_;have hJ7:=jV _ _ _ _ _ _ hJ S6;refine Rg.yield G (vs:=[.agg #[.int .i64 (jv a' b'),.int .i64 (sV a' b' 2),.int .i64 (sY a' b' 2)]]) G G (hy a' b' M2 _ hJ7 T0 T1 RR) (λr9 w9 h9=>?_);obtain⟨c,rfl,hc5,VE⟩:=h9;refine gM G G (aY (v':= .bool (decide (¬c=true))) (by simp) (ad ?_));refine bI G (λH9=>?_) (λH9=>?_)
       ·refine aM ?_;exact Cs G (.inr (VE (by simpa using H9)))
       ·obtain⟨M9,N9,hJ9,s9,hN9⟩:=hc5 (db.1 H9);refine aR ?_;refine⟨G,(gj a' (jv a' b'),gj b' (jv a' b')),a07,?_,?_⟩
        ·exact⟨T0.rest _,T1.rest _,v0,v1,M9,hJ9,s9.bL Ld (λh=>(hN9 _ h).1 rfl),s9.bL Lg (λh=>(hN9 _ h).2 rfl),wO.le s9.le,nu.le s9.le⟩
        ·exact rQ T0 T1 RR
  ·refine ah G G (aA a7 G G G a00 G (ah G G (bB a7 G Nz G (ah G G (il G G G (aD G G G (ad ?_)))))));refine bI G (λc0=>?_) (λc0=>?_)
   ·have RR:a'≠[]\/b'≠[]:= .inr (by intro h;rw[h]at c0;simp at c0);refine aR (aT (T.aO (dp (places:=[(0,1),(1,1),(2,1)]) dw A7 ago rfl ⟨_,_,rfl,rfl,rfl⟩ (out:=[_,.int .i64 0,.int .i64 0]) ⟨0,[_],rfl,rfl,by simp[Value.cells],rfl⟩ ?_)));refine ek M1 A7 G (λbx w2 z2 z2' hX0 s2=>?_);obtain⟨M2,y4⟩:∃M2,M2=ins M1 bx:=⟨_,rfl⟩;have VP:M2 bx:=by rw[y4];exact .inl G
    have Oo:M2 ba:=by rw[y4];exact .inr VM
    have yW:M2 bb:=by rw[y4];exact .inr VN
    have hxa:bx≠ba:=by have:=ae hA1;omega
    have P1:bx≠bb:=by have:=ae hB1;omega
    rw[<-y4]at s2;refine dX (M:=M2) A7 G G ai8 rfl rfl hX0 VP (λw3 hX3 s3=>?_);change w3.heap[bx]? =some (.cells #[.int .i64 2147483648,.int .i64 0,.int .i64 0] 261 (0,0))at hX3;have S3:=s2.cq s3 (λj hj=>by subst hj;exact z2);have hA3:=S3.ay hA1;have hB3:=S3.ay hB1;have RS:=Ny.le S3.le;have RU:=Nz.le S3.le;have Xi:=S3.lt tn;refine ad (aI (T.aO (aA a7 G G G a00 G (aA a7 G G G a00 G ?_))));refine Rg.Ub (A:=(RT.fo).sl) (hn:=by decide) (M:=M2) (xs:=[a',b']) Tryz.underlying312 Ot G XT G ⟨_,_,_,G,G,G,RS,_,_,_,G,G,G,RU,G⟩ G Xi (.inr ⟨G,G⟩) XT (λu20 w4 J1 s4=>?_);refine bB Tryz.underlying312 G J1 G (ab G G (ad (aT ?_)));refine cR (σ:=Nat) (λs=>[(0,.func (.yield yl) #[] #[]),(1,.pointer (some ⟨ba,0,none⟩)),(2,.pointer (some ⟨bb,0,none⟩)),(4,.pointer (some ⟨bx,0,none⟩)),(20,u20),(21,.int .i64 2),(22,.int .i64 s)]) (λs w=>s<=2/\Step M1 w1 M2 w ar/\w.heap[bx]? =some (.cells #[.int .i64 (TR a' b' s),.int .i64 0,.int .i64 0] 261 (0,0))/\(((RT.fo).sl).sl).V M2 w [a',b'] u20) (λs=>2-s) 0 a81 ?_ ?_
    ·exact⟨bm _,S3.av s4,s4.ay hX3,J1⟩
    ·rintro k w5 ⟨DB,S5,NA,rS⟩;refine T.aO (ck G G G (ad (aI ?_)));refine bI G (λc3=>?_) (λc3=>?_)
     ·refine aR (aI (aT (T.aO ?_)))
      obtain⟨lk,nq⟩:∃x,[a',b'][k]? =some x:=by
       have aaQ:k<[a',b'].length:=by simp;omega
       exact⟨_,an aaQ⟩
      have Oe:([a',b']:List (List Fo)).length=2:=rfl;refine cx Tryz.underlying312 Ot G G G (rS) b4 a62 (λMP JA AW td=>?_);obtain rfl:lk=JA:=dV (aF (AW.symm.trans (by rw[aq];exact nq)));refine bM a7 G G G G G td b4 (λI7 oQ=>?_);replace oQ:((RT.fo).sl).V M2 _ lk I7:=oQ;refine Rg.aZ G G (T.aO (ab G G (bB a7 G oQ G (il G G G (ad ?_)))));refine bI G (λc5=>?_) (λc5=>?_)
      ·obtain⟨⟨d,s⟩,tl,rfl⟩:∃p tl,lk=p::tl:=by
        cases lk with
        |nil=>simp at c5
        |cons p tl=>exact⟨p,tl,rfl⟩
       apply T.sN (M:=M2) mixed [] [cw.eq _,cw.eq (.int .i64 (TR a' b' k)),cw.eq _,cw.ptr (RT.fo) (d,s),cw.ptr (RT.int .i64) d,cw.eq (.int .i64 d),cw.eq _] 7
       ·rfl
       ·rfl
       ·rfl
       ·rfl
       ·rfl
       ·exact a90
       ·exact sf
       ·refine az ?_ ?_
        ·intro wD E sD;refine aK dw G G I3 XT G G ?_;exact a02
        refine az ?_ ?_
        ·intro wD E sD;refine aw (aA aj G G G (cg sD a00) G ?_);exact a02
        refine az ?_ ?_
        ·intro wD E sD;refine ab G G ?_;exact a02
        refine az ?_ ?_
        ·intro wD E sD;refine aw ?_;refine cx a7 lR G G G (oQ.le sD.le) b4 q0 (λui ai RV RW=>?_);obtain rfl:(d,s)=ai:=dV (aF (RV.symm.trans rfl));exact aq6
        refine az ?_ ?_
        ·intro wD E sD;intro v3 xH;refine au (A:=RT.fo) (B:=RT.int .i64) dg G G I3 XT (WD) G G XT (show cG (RT.fo) M2 wD v3 (d,s)from xH) b4 (λuf sH=>?_);exact a73
        refine az ?_ ?_
        ·intro wD E sD;intro v4 qb;refine bV aj G G (show cG (RT.int .i64) M2 wD v4 d from qb) b4 (λmL=>?_);exact a02
        refine az ?_ ?_
        ·intro wD E sD;refine aw (aw (Rg.min2 G G G ?_));exact a02
        exact kA
       ·intro wD6 xY;refine aw (aw (aw ?_));intro aom agr;intro aon ags;refine aw (aw (aK dw G G I3 XT G G ?_));refine ch (M:=M2) I3 G G (xY.ay NA) G G VP (λw7 hX7 s7=>?_);change w7.heap[bx]? =some (.cells #[.int .i64 (min (TR a' b' k) d),.int .i64 0,.int .i64 0] 261 (0,0))at hX7;refine ad (aN (br G G G q0 (ab G G (ad ?_))));refine⟨G,k+1,a81,?_,?_⟩
        ·first
         |exact⟨by omega,(S5.av xY).cq s7 (λj hj=>by subst hj;exact z2),by rw[lz nq];exact hX7,(rS.le xY.le).le s7.le⟩
         |exact⟨by omega,S5,by rw[lz nq,tM];exact NA,rS⟩
        ·show 2-(k+1)<2-k;omega
      ·have tM:lk=[]:=by
        cases lk with
        |nil=>rfl
        |cons p tl=>simp at c5
       refine aR (aN (br G G G q0 (ab G G (ad ?_))));refine⟨G,k+1,a81,?_,?_⟩
       ·first
        |exact⟨by omega,(S5.av xY).cq s7 (λj hj=>by subst hj;exact z2),by rw[lz nq];exact hX7,(rS.le xY.le).le s7.le⟩
        |exact⟨by omega,S5,by rw[lz nq,tM];exact NA,rS⟩
       ·show 2-(k+1)<2-k;omega
     ·refine cE (aI (T.aO ?_));obtain rfl:k=2:=by omega
      replace NA:w5.heap[bx]? =some (.cells #[.int .i64 (jv a' b'),.int .i64 0,.int .i64 0] 261 (0,0)):=NA;have hM5:=S5.lt tn;refine Rg.Ub (A:=RT.E3) (hn:=by decide) (M:=M2) (xs:=[ba,bb]) Tryz.underlying314 VL G XT G ⟨_,_,_,G,G,G,oK.2 G,_,_,_,G,G,G,oK.2 G,G⟩ G hM5 (.inr ⟨G,G⟩) XT (λu38 w8 RX s8=>?_);refine bB Tryz.underlying314 G RX G (ab G G (ad (aT ?_)));refine cR (σ:=Nat) (λs=>[(0,.func (.yield yl) #[] #[]),(1,.pointer (some ⟨ba,0,none⟩)),(2,.pointer (some ⟨bb,0,none⟩)),(4,.pointer (some ⟨bx,0,none⟩)),(38,u38),(39,.int .i64 2),(40,.int .i64 s)]) (λs w=>s<=2/\((RT.E3).sl).V M2 w [ba,bb] u38/\Step M1 w1 M2 w (λj=>j=ba\/j=bb)/\w.heap[bx]? =some (.cells #[.int .i64 (jv a' b'),.int .i64 (sV a' b' s),.int .i64 (sY a' b' s)] 261 (0,0))/\∃v0 v1,w.heap[ba]? =some (.cells #[v0] 36 (0,0))/\((RT.fo).sl).V M2 w (lK a' (jv a' b') (decide (0<s))) v0/\w.heap[bb]? =some (.cells #[v1] 36 (0,0))/\((RT.fo).sl).V M2 w (lK b' (jv a' b') (decide (1<s))) v1) (λs=>2-s) 0 a81 ?_ ?_
      ·exact⟨bm _,RX,(S5.av s8).dF a15 (λj hj=>by rcases hj with rfl|rfl;exact VM;exact VN),s8.ay NA,va1,vb1,s8.ay (S5.ay hA1),(Ny.le S5.le).le s8.le,s8.ay (S5.ay hB1),(Nz.le S5.le).le s8.le⟩
      ·rintro k w6 ⟨DB,ue,S6,JD,v0,v1,Ld,wO,Lg,nu⟩;have hmy:=KF a' b' k;refine T.aO (ck G G G (ad (aI ?_)));refine bI G (λc9=>?_) (λc9=>?_)
       ·refine aR (aI (aT (T.aO ?_)));obtain⟨pk,lk,vk,hpk,nq,RY,J2,hkM,hkN,Xs,k8⟩:=Dg (show k<2 by omega) fw hxa P1 Oo yW Ld wO Lg nu;have hl3:([ba,bb]:List Nat).length=2:=rfl;refine cx Tryz.underlying314 VL G G G (ue) b4 a62 (λPT GV AX AB=>?_);obtain rfl:pk=GV:=dV (aF (AX.symm.trans (by rw[aq];exact hpk)));refine bM Tryz.underlying313 G G G G G AB b4 (λv10 uw=>?_);obtain rfl:=oK.1 uw;refine Rg.aZ G G (aI ?_);by_cases vZ:((lk.length:Nat):Int)>0
        ·obtain⟨⟨d,s⟩,tl,rfl⟩:∃p tl,lk=p::tl:=by
          cases lk with
          |nil=>simp at vZ
          |cons p tl=>exact⟨p,tl,rfl⟩
         apply T.draw (M:=M2) mixed [cw.eq _,cw.eq _,cw.eq vk,cw.eq _,cw.eq _,cw.eq (.bool true),cw.eq _,cw.eq _,cw.eq vk,cw.ptr (RT.fo) (d,s),cw.ptr (RT.int .i64) d,cw.eq (.int .i64 d),cw.eq _,cw.eq (.int .i64 (jv a' b')),cw.eq _,cw.eq _]
         ·rfl
         ·refine aH ?_ ?_
          ·intro wD E sD;refine ab G G ?_;exact a02
          refine aH ?_ ?_
          ·intro wD E sD;refine aw (aL G ⟨_,G⟩ G ?_);exact a02
          refine aH ?_ ?_
          ·intro wD E sD;refine aw (aA a7 G G G (cg sD a00) G ?_);exact a02
          refine aH ?_ ?_
          ·intro wD E sD;refine aw (bB a7 G (J2.le sD.le) G ?_);exact a02
          refine aH ?_ ?_
          ·intro wD E sD;refine aw (il G G G ?_);exact a02
          refine aH ?_ ?_
          ·intro wD E sD;refine aw (ab G G ?_);refine ad ⟨G,G,_,G,?_,aV⟩;exact congrArg Value.bool (decide_eq_true vZ)
          refine aH ?_ ?_
          ·intro wD E sD;refine aw (ah G G (ab G G ?_));exact a02
          refine aH ?_ ?_
          ·intro wD E sD;refine aw (aw (ah G G (aL G ⟨_,G⟩ G ?_)));exact a02
          refine aH ?_ ?_
          ·intro wD E sD;refine aw (aw (ah G G (aA a7 G G G (cg sD a00) G ?_)));exact a02
          refine aH ?_ ?_
          ·intro wD E sD;refine aw (aw (ah G G ?_));refine cx a7 lR G G G (J2.le sD.le) b4 q0 (λui ai RV RW=>?_);obtain rfl:(d,s)=ai:=dV (aF (RV.symm.trans rfl));exact aq6
          refine aH ?_ ?_
          ·intro wD E sD;intro v9 MU;refine aw (ah G G ?_);refine au (A:=RT.fo) (B:=RT.int .i64) dg G G I3 XT (WD) G G XT (show cG (RT.fo) M2 wD v9 (d,s)from MU) b4 (λuf sH=>?_);exact a73
          refine aH ?_ ?_
          ·intro wD E sD;intro v10 uw;refine aw (ah G G ?_);refine bV aj G G (show cG (RT.int .i64) M2 wD v10 d from uw) b4 (λmL=>?_);exact a02
          refine aH ?_ ?_
          ·intro wD E sD;refine aw (ah G G (aK dw G G I3 XT G G ?_));exact a02
          refine aH ?_ ?_
          ·intro wD E sD;refine aw (aw (ah G G (aA aj G G G (cg sD a00) G ?_)));exact a02
          refine aH ?_ ?_
          ·intro wD E sD;refine aw (aw (aw (ah G G (gN G G G ?_))));exact a02
          refine aH ?_ ?_
          ·intro wD E sD;refine aw (aw (a8 G G G ?_));exact a02
          exact sd
         ·intro B1 dZ;refine aw (aw (aw (aw (aw (aw (aw (aw (aw ?_))))))));intro agv aaS;intro Rn zn;refine aw (aw (aw (aw (aw ?_))));have Eo:=dZ.ay JD;have Hh:=dZ.ay RY;refine bI G (λIU=>?_) (λIU=>?_)
          ·refine T.aO (aK dw G G I3 XT G G (aA aj G G G Eo G (aY (v':= .int .i64 (sV a' b' k)) G (br G G G q0 (aK dw G G I3 XT G G ?_)))));refine ch (M:=M2) I3 G G Eo G G VP (λH7 JF jM=>?_);change H7.heap[bx]? =some (.cells #[.int .i64 (jv a' b'),.int .i64 (sV a' b' k+1),.int .i64 (sY a' b' k)] 261 (0,0))at JF;have RZ:=jM.bL Hh Xs;have Hi:=(J2.le dZ.le).le jM.le;refine ad (aI ?_);apply T.sN (M:=M2) mixed [] [cw.eq _,cw.eq (.int .i64 (sY a' b' k)),cw.eq _,cw.eq _,cw.eq vk,cw.ptr (RT.fo) (d,s),cw.ptr (RT.int .i64) s,cw.eq (.int .i64 s),cw.eq _] 9
           ·rfl
           ·rfl
           ·rfl
           ·rfl
           ·rfl
           ·exact a90
           ·exact sf
           ·refine az ?_ ?_
            ·intro wD E sD;refine aK dw G G I3 XT G G ?_;exact a02
            refine az ?_ ?_
            ·intro wD E sD;refine aw (aA aj G G G (cg sD a00) G ?_);exact a02
            refine az ?_ ?_
            ·intro wD E sD;refine ab G G ?_;exact a02
            refine az ?_ ?_
            ·intro wD E sD;refine aw (aL G ⟨_,G⟩ G ?_);exact a02
            refine az ?_ ?_
            ·intro wD E sD;refine aw (aA a7 G G G (cg sD a00) G ?_);exact a02
            refine az ?_ ?_
            ·intro wD E sD;refine aw ?_;refine cx a7 lR G G G (Hi.le sD.le) b4 q0 (λui ai RV RW=>?_);obtain rfl:(d,s)=ai:=dV (aF (RV.symm.trans rfl));exact aq6
            refine az ?_ ?_
            ·intro wD E sD;intro v5 qK;refine au (A:=RT.fo) (B:=RT.int .i64) dg G G I3 XT (fo1) G G XT (show cG (RT.fo) M2 wD v5 (d,s)from qK) b4 (λuf sH=>?_);exact a73
            refine az ?_ ?_
            ·intro wD E sD;intro v6 oR;refine bV aj G G (show cG (RT.int .i64) M2 wD v6 s from oR) b4 (λmL=>?_);exact a02
            refine az ?_ ?_
            ·intro wD E sD;refine aw (aw (qH G G G ?_));exact a02
            exact kA
           ·intro PV jm;refine aw (aw (aw (aw (aw ?_))));intro KX xD;intro Xd AR;refine aw (aw (aK dw G G I3 XT G G ?_));have Ro:=jm.ay JF;refine ch (M:=M2) I3 G G Ro G G VP (λOi R0 iO=>?_);change Oi.heap[bx]? =some (.cells #[.int .i64 (jv a' b'),.int .i64 (sV a' b' k+1),.int .i64 (IntKind.i64.wrap (sY a' b' k+s))] 261 (0,0))at R0;have Hj:=iO.bL (jm.ay RZ) Xs;have R1:=(Hi.le jm.le).le iO.le;refine ad (aN (ab G G (ab G G (aL G ⟨_,G⟩ G (aA a7 G G G Hj G (aY (v':=vk) G ?_))))));refine Rg.pb (A:=RT.fo) (hn:=by decide) a7 lR rfl rfl rfl R1 (by simp only[cy];omega) (λOu ux=>?_);replace ux:((RT.fo).sl).V M2 Oi tl Ou:=ux;refine aL G ⟨_,G⟩ G ?_;refine ch (M:=M2) Ot G G Hj G (jL ux G G) hkM (λIa we l7=>?_);change Ia.heap[pk]? =some (.cells #[Ou] 36 (0,0))at we;have J3:=l7.bL R0 (λh=>Xs h.symm);have uy:hit ((d,s)::tl) (jv a' b')=true:=xj IU;have R2:gj ((d,s)::tl) (jv a' b')=tl:=by unfold gj;rw[if_pos uy];rfl
            have SK:=((((S6.av dZ).cq jM (λj hj=>by subst hj;omega)).av jm).cq iO (λj hj=>by subst hj;omega)).trans l7 (λj _ hj=>by subst hj;exact hkN);have NB:=bp (bp (bp (bp dZ.le jM.le) jm.le) iO.le) l7.le;refine ad (aN (br G G G q0 (ab G G (ad ?_))));refine⟨G,k+1,a81,?_,?_⟩
            ·first
             |exact⟨by omega,ue.le NB,SK,by rw[jc nq,jd nq];unfold oM oL;rw[if_pos uy,if_pos uy];exact J3,k8 Ia Ou (λq o h1 h2 h3=>l7.bL (iO.bL (jm.ay (jM.bL (dZ.ay h3) h2)) h2) h1) (λl v h=>h.le NB) we ag0⟩
             |exact⟨by omega,ue.le dZ.le,S6.av dZ,by rw[jc nq,jd nq];unfold oM oL;rw[if_neg ac0,if_neg ac0];exact dZ.ay JD,k8 _ vk (λq o h1 h2 h3=>dZ.ay h3) (λl v h=>h.le dZ.le) (dZ.ay RY) a65⟩
            ·show 2-(k+1)<2-k;omega
          ·have Cj:hit ((d,s)::tl) (jv a' b')=false:=decide_eq_false IU;refine aR (aN (br G G G q0 (ab G G (ad ?_))));refine⟨G,k+1,a81,?_,?_⟩
           ·first
            |exact⟨by omega,ue.le NB,SK,by rw[jc nq,jd nq];unfold oM oL;rw[if_pos uy,if_pos uy];exact J3,k8 Ia Ou (λq o h1 h2 h3=>l7.bL (iO.bL (jm.ay (jM.bL (dZ.ay h3) h2)) h2) h1) (λl v h=>h.le NB) we ag0⟩
            |exact⟨by omega,ue.le dZ.le,S6.av dZ,by rw[jc nq,jd nq];unfold oM oL;rw[if_neg ac0,if_neg ac0];exact dZ.ay JD,k8 _ vk (λq o h1 h2 h3=>dZ.ay h3) (λl v h=>h.le dZ.le) (dZ.ay RY) a65⟩
           ·show 2-(k+1)<2-k;omega
        ·have Cj:hit lk (jv a' b')=false:=by
          cases lk with
          |nil=>rfl
          |cons p tl=>simp at vZ
         apply T.draw (M:=M2) mixed [cw.eq _,cw.eq _,cw.eq vk,cw.eq _,cw.eq _,cw.eq (.bool false),cw.eq undef,cw.eq undef,cw.eq undef,cw.eq undef,cw.eq undef,cw.eq undef,cw.eq undef,cw.eq undef,cw.eq undef,cw.eq _]
         ·rfl
         ·refine aH ?_ ?_
          ·intro wD E sD;refine ab G G ?_;exact a02
          refine aH ?_ ?_
          ·intro wD E sD;refine aw (aL G ⟨_,G⟩ G ?_);exact a02
          refine aH ?_ ?_
          ·intro wD E sD;refine aw (aA a7 G G G (cg sD a00) G ?_);exact a02
          refine aH ?_ ?_
          ·intro wD E sD;refine aw (bB a7 G (J2.le sD.le) G ?_);exact a02
          refine aH ?_ ?_
          ·intro wD E sD;refine aw (il G G G ?_);exact a02
          refine aH ?_ ?_
          ·intro wD E sD;refine aw (ab G G ?_);refine ad ⟨G,G,_,G,?_,aV⟩;exact congrArg Value.bool (decide_eq_false vZ)
          refine aH ?_ ?_
          ·intro wD E sD;refine aw ?_;exact a08
          refine aH ?_ ?_
          ·intro wD E sD;refine aw (aw ?_);exact a08
          refine aH ?_ ?_
          ·intro wD E sD;refine aw (aw ?_);exact a08
          refine aH ?_ ?_
          ·intro wD E sD;refine aw (aw ?_);exact a08
          refine aH ?_ ?_
          ·intro wD E sD;refine aw (aw ?_);exact a08
          refine aH ?_ ?_
          ·intro wD E sD;refine aw (aw ?_);exact a08
          refine aH ?_ ?_
          ·intro wD E sD;refine aw ?_;exact a08
          refine aH ?_ ?_
          ·intro wD E sD;refine aw (aw ?_);exact a08
          refine aH ?_ ?_
          ·intro wD E sD;refine aw (aw (aw ?_));exact a08
          refine aH ?_ ?_
          ·intro wD E sD;refine aw (aw (aD G G G ?_));exact a02
          exact sd
         ·intro B1 dZ;refine aw (aw (aw (aw (aw (aw (aw (aw (aw (aw (aw (aw ?_)))))))))));refine aw (aw (aw (aw ?_)));have Eo:=dZ.ay JD;have Hh:=dZ.ay RY;refine gy G (aR (aN (br G G G q0 (ab G G (ad ?_)))));refine⟨G,k+1,a81,?_,?_⟩
          ·first
           |exact⟨by omega,ue.le NB,SK,by rw[jc nq,jd nq];unfold oM oL;rw[if_pos uy,if_pos uy];exact J3,k8 Ia Ou (λq o h1 h2 h3=>l7.bL (iO.bL (jm.ay (jM.bL (dZ.ay h3) h2)) h2) h1) (λl v h=>h.le NB) we ag0⟩
           |exact⟨by omega,ue.le dZ.le,S6.av dZ,by rw[jc nq,jd nq];unfold oM oL;rw[if_neg ac0,if_neg ac0];exact dZ.ay JD,k8 _ vk (λq o h1 h2 h3=>dZ.ay h3) (λl v h=>h.le dZ.le) (dZ.ay RY) a65⟩
          ·show 2-(k+1)<2-k;omega
       ·refine cE (T.aO (ab G G ?_));obtain rfl:k=2:=by omega
        refine eQ (vs:=[.int .i64 (jv a' b'),.int .i64 (sV a' b' 2),.int .i64 (sY a' b' 2)]) dw G A7 G G G JD ?_;have hJ7:=jV _ _ _ _ _ _ hJ S6;refine Rg.yield G (vs:=[.agg #[.int .i64 (jv a' b'),.int .i64 (sV a' b' 2),.int .i64 (sY a' b' 2)]]) G G (hy a' b' M2 _ hJ7 T0 T1 RR) (λr9 w9 h9=>?_);obtain⟨c,rfl,hc5,VE⟩:=h9;refine gM G G (aY (v':= .bool (decide (¬c=true))) (by simp) (ad ?_));refine bI G (λH9=>?_) (λH9=>?_)
        ·refine aM ?_;exact Cs G (.inr (VE (by simpa using H9)))
        ·obtain⟨M9,N9,hJ9,s9,hN9⟩:=hc5 (db.1 H9);refine aR ?_;refine⟨G,(gj a' (jv a' b'),gj b' (jv a' b')),a07,?_,?_⟩
         ·exact⟨T0.rest _,T1.rest _,v0,v1,M9,hJ9,s9.bL Ld (λh=>(hN9 _ h).1 rfl),s9.bL Lg (λh=>(hN9 _ h).2 rfl),wO.le s9.le,nu.le s9.le⟩
         ·exact rQ T0 T1 RR
   ·refine cE ?_
    have oz:a'=[]:=by
     cases a' with
     |nil=>rfl
     |cons p tl=>simp at VO
    have BG:b'=[]:=by
     cases b' with
     |nil=>rfl
     |cons p tl=>simp at c0
    subst oz;subst BG;change yL Tryz.prog Tryz.f200 (λ_ w'=>(∃M',J [] [] M' w')\/Jx w') .normal _ [] _;exact jB G (.inl ⟨_,hJ⟩)
end Go.K
namespace Go.K
open Go.Proofs
namespace TKOf
theorem Ot:TI Tryz.prog 36 (.slice none 0 0) 1 24:=by unfold TI;kernel_rfl
theorem lR:TI Tryz.prog 45 (.agg #[(.int .i64 0),(.int .i64 0)]) 2 16:=by unfold TI;kernel_rfl
theorem A7:TI Tryz.prog 261 (.agg #[(.int .i64 0),(.int .i64 0),(.int .i64 0)]) 3 24:=by unfold TI;kernel_rfl
theorem R3:placesOf Tryz.prog 45=[(0,1),(1,1)].map some:=by kernel_rfl
theorem aaT:Enters Tryz.prog 102:=enters Tryz.func102 rfl XT
theorem aos:Enters Tryz.prog 158:=enters Tryz.func158 rfl XT
theorem aot:Enters Tryz.prog 200:=enters Tryz.func200 rfl XT
end TKOf
open TKOf
set_option maxRecDepth 10000
structure Ck (M:aE) (w0:World) (least:Int) (b5 bo ba bb D:Nat) (st:Obj) (vo:Value) (xs:List Fo) (M1:aE) (w:World):Prop where
 lt:Lt M1 w
 S:Step M w0 M1 w ar
 mo:M1 bo
 ma:M1 ba
 mb:M1 bb
 md:M1 D
 mr:M1 (D+1)
 h5:w.heap[b5]? =some (.cells #[.int .i64 least] 3 (0,0))
 o:w.heap[bo]? =some (.cells #[vo] 36 (0,0))
 d:w.heap[D]? =some (.deferred (some []))
 r:w.heap[D+1]? =some st
 ne:(b5<D/\bo<D/\ba<D/\bb<D)/\(bo≠b5/\bo≠ba/\bo≠bb/\b5≠ba/\b5≠bb)/\(w0.heap.size<=bo/\w0.heap.size<=ba/\w0.heap.size<=bb/\w0.heap.size<=D)
 hk:Own RT.fo 45 M1 w (D+2) vo xs
section
variable {M M1 M2 N:aE} {w0 w w':World} {least:Int} {b5 bo ba bb D:Nat} {st st':Obj} {vo:Value} {xs:List Fo}
theorem Ck.step (h:Ck M w0 least b5 bo ba bb D st vo xs M1 w) (s:Step M1 w M2 w' N) (hN:∀k,N k->k=ba\/k=bb):Ck M w0 least b5 bo ba bb D st vo xs M2 w':=by
 obtain⟨⟨e1,e2,e3,e4⟩,⟨e5,e6,e7,e8,e9⟩,JC,Nn,Ll,Rl⟩:=h.ne;have mm:=λ{b:Nat} (hm:M1 b)=>(s.mem b (h.lt b hm)).2 hm
 have no:∀b,b≠ba->b≠bb->¬N b:=λb h1 h2 hn=>by rcases hN b hn with h|h;exact h1 h;exact h2 h
 exact⟨s.lt h.lt,h.S.cq s (λb hb=>by rcases hN b hb with rfl|rfl<;>assumption),mm h.mo,mm h.ma,mm h.mb,mm h.md,mm h.mr,s.bL h.h5 (no _ e8 e9),s.bL h.o (no _ e6 e7),s.bL h.d (no _ q0 q0),s.bL h.r (no _ q0 q0),h.ne,
  h.hk.step s (λk hk hh=>by have:=(h.hk.base k hk).1;rcases hN k hh with h|h<;>omega)⟩
theorem Ck.nv (h:Ck M w0 least b5 bo ba bb D st vo xs M1 w):Ck M w0 least b5 bo ba bb D st' vo xs M1 (w.putObj (D+1) st')/\Step M1 w M1 (w.putObj (D+1) st') (λk=>k=D+1):=by
 obtain⟨⟨e1,e2,e3,e4⟩,⟨e5,e6,e7,e8,e9⟩,JC,Nn,Ll,Rl⟩:=h.ne;have s:Step M1 w M1 (w.putObj (D+1) st') (λk=>k=D+1):=fD h.mr;exact⟨⟨s.lt h.lt,h.S.cq s (λb hb=>by omega),h.mo,h.ma,h.mb,h.md,h.mr,s.bL h.h5 q0,s.bL h.o q0,s.bL h.d q0,World.putObj_heap_same (ae h.r),h.ne,h.hk.step s (λk qo hh=>by have:=(h.hk.base k qo).1;omega)⟩,s⟩
theorem Ck.grow {vo':Value} {xs':List Fo} (h:Ck M w0 least b5 bo ba bb D st vo xs M1 w) (s:Step M1 w M2 w' (λk=>vo.ownBlock=some k)) (hk:Own RT.fo 45 M2 w' (D+2) vo' xs'):
  (w'.heap[bo]? =some (.cells #[vo] 36 (0,0))/\M2 bo)/\∀{w2:World},Step M2 w' M2 w2 (λk=>k=bo)->w2.heap[bo]? =some (.cells #[vo'] 36 (0,0))->Ck M w0 least b5 bo ba bb D st vo' xs' M2 w2:=by
 obtain⟨⟨e1,e2,e3,e4⟩,⟨e5,e6,e7,e8,e9⟩,JC,Nn,Ll,Rl⟩:=h.ne;have hn:∀k,vo.ownBlock=some k->D+2<=k:=λk hk=>(h.hk.base k hk).1
 have mm:=λ{b:Nat} (hm:M1 b)=>(s.mem b (h.lt b hm)).2 hm
 refine ⟨⟨s.bL h.o (λhh=>by have:=hn _ hh;omega),mm h.mo⟩,λ{w2} s2 hx=> ?_⟩;have S':=h.S.cq s (λk hk=>by have:=hn k hk;omega)
 exact⟨s2.lt (s.lt h.lt),S'.cq s2 (λk hk=>by subst hk;exact JC),mm h.mo,mm h.ma,mm h.mb,mm h.md,mm h.mr,s2.bL (s.bL h.h5 (λhh=>by have:=hn _ hh;omega)) (λhh=>e5 hh.symm),hx,s2.bL (s.bL h.d (λhh=>by have:=hn _ hh;omega)) q0,s2.bL (s.bL h.r (λhh=>by have:=hn _ hh;omega)) q0,h.ne,
  hk.step s2 (λk qo hh=>by have:=(hk.base k qo).1;omega)⟩
end
set_option maxHeartbeats 2000000 in
theorem Lw {M:aE} {w0:World} {va vb:Value} {a b:List Fo} {least:Int} (hM:Lt M w0) (o7:((RT.fo).sl).V M w0 a va) (On:((RT.fo).sl).V M w0 b vb) (oa:uI a) (ob:uI b) (hl:a.length+b.length<=1099511627776):
  Spec Tryz.prog 102 #[va,vb,.int .i64 least] w0 (λv' w'=>∃M',Lt M' w'∧Step M w0 M' w' ar/\Own RT.fo 45 M' w' w0.heap.size v' (H3 least a b)):=by
 refine qT (args:=[_,_,_]) (fn:=Tryz.f102) Tryz.func102 G (n:=26) Tryz.ntmps102 (T.aO ?_);refine iP M G G (λb5 w1 z1 z1' g5 s1=>?_);change w1.heap[b5]? =some (.cells #[.int .i64 least] _ _)at g5;refine Rg.aZ G G (T.aO ?_);refine ek (ins M b5) Ot G (λbo w2 z2 z2' go s2=>?_);change w2.heap[bo]? =some (.cells #[.slice none 0 0] _ _)at go;replace g5:=s2.ay g5;have S2:=s1.av s2;have Og:=S2.lt hM;have y1:=s1.size;have y2:=s2.size;refine ad (aI (T.aO (ab G G (ab G G ?_))));refine aJ G G aos (Nx Og (o7.le S2.le) (On.le S2.le)) (λr3 w3 h=>?_);obtain⟨ba,bb,rfl,gA,gB,fw,za,zb,s3⟩:=h;replace g5:=s3.ay g5;replace go:=s3.ay go;have S3:=S2.av s3;have Xi:=S3.lt hM;have xa:=ae gA;have xb:=ae gB;have x5:=ae g5;have xo:=ae go;have y3:=s3.size;obtain⟨Mb,yW⟩:∃Mb,Mb=ins (ins (ins (ins M b5) bo) ba) bb:=⟨_,rfl⟩;have mo:Mb bo:=by rw[yW];exact .inr (.inr (.inl G))
 have ma:Mb ba:=by rw[yW];exact .inr (.inl G)
 have mb:Mb bb:=by rw[yW];exact .inl G
 rw[<-yW]at S3 Xi s3;have RS:=(o7.le S2.le).le s3.le;have RU:=(On.le S2.le).le s3.le;refine ad (aT ?_);refine T.range (gf:=200) (lb:= #[.pointer (some ⟨ba,0,none⟩),.pointer (some ⟨bb,0,none⟩)]) G aot (λrec qS=>?_);obtain⟨D,hD⟩:∃D,D=w3.heap.size:=⟨_,rfl⟩;rw[<-hD]at qS ⊢;have sA:Step Mb w3 (ins Mb w3.heap.size) (w3.alloc (.deferred (some []))) ar:=(dL _ w3 _).own (aX _) (by simp);have sB:Step (ins Mb w3.heap.size) (w3.alloc (.deferred (some []))) (ins (ins Mb w3.heap.size) (w3.heap.size+1)) ((w3.alloc (.deferred (some []))).alloc (.loop (rec .ready none))) ar:=(dL _ _ _).own (by simp) (by simp);have sC:=sA.av sB;have hDd:(w3.alloc (.deferred (some []))).heap[w3.heap.size]? =some (.deferred (some [])):=cY w3 _;have hR:((w3.alloc (.deferred (some []))).alloc (.loop (rec .ready none))).heap[w3.heap.size+1]? =some (.loop (rec .ready none)):=by have:=cY (w3.alloc (.deferred (some []))) (.loop (rec .ready none));rwa [World.size_alloc]at this
 have y0:=S2.size;refine Spec.mono (J0 (M:=ins (ins Mb w3.heap.size) (w3.heap.size+1)) (va:=va) (vb:=vb) (J:=(λa' b' M1 w=>∃vo xs,Ck M w0 least b5 bo ba bb D (.loop (rec .ready none)) vo xs M1 w/\xs++H3 least a' b'=H3 least a b)) (Jx:=λ_=>False) fw (λa' b' M1 w ⟨vo,xs,h,_⟩=>⟨h.lt,h.ma,h.mb⟩) (λa' b' M1 w M2 w' ⟨vo,xs,h,hx⟩ s=>⟨vo,xs,h.step s (λ_ h=>h),hx⟩) (λa' b' M1 wr hJ T0 T1 XW=>?_) (sC.ay gA) (sC.ay gB) (RS.le sC.le) (RU.le sC.le) oa ob ⟨.slice none 0 0,[],?_,G⟩) (λ_ w4 h4=>?_)
 rotate_left
 ·rw[hD];exact⟨sC.lt Xi,S3.av sC,.inr (.inr mo),.inr (.inr ma),.inr (.inr mb),.inr (.inl G),.inl G,sC.ay g5,sC.ay go,sB.ay hDd,hR,by omega,eE _ _ _ _ _⟩
 rotate_left
 ·obtain⟨vo,xs,h,hx⟩:=hJ;refine oG (ps:=[12]) (vs:=[.agg #[.int .i64 (jv a' b'),.int .i64 (sV a' b' 2),.int .i64 (sY a' b' 2)]]) qS h.r G XT ?_;have BR:=congrArg List.length hx;have VQ:=DM least (a.length+b.length) a b;change(H3 least a b).length<=_ at VQ;rw[bU]at BR;have VR:=vh (least:=least) T0 T1 XW;refine aN ?_;refine ek M1 A7 G (λb8 w4 z8 z8' g8 s4=>?_);obtain⟨M2,y4⟩:∃M2,M2=ins M1 b8:=⟨_,rfl⟩;have hm8:M2 b8:=by rw[y4];exact .inl G
  rw[<-y4]at s4;refine dX (M:=M2) (vs:=[.int .i64 (jv a' b'),.int .i64 (sV a' b' 2),.int .i64 (sY a' b' 2)]) A7 G G ai8 rfl rfl g8 hm8 (λw5 g8' s5=>?_);change w5.heap[b8]? =some (.cells #[.int .i64 (jv a' b'),.int .i64 (sV a' b' 2),.int .i64 (sY a' b' 2)] _ _)at g8';have S5:=s4.cq s5 (λk hk=>by subst hk;exact z8);have h3:=h.step S5 (λk hk=>hk.elim);refine ad (⟨G,h3.r,?_⟩);obtain⟨h4,sR⟩:=h3.nv (st':= .loop (rec .busy none));have hD8:b8≠D+1:=by have:=ae h.r;omega
  have g8x:=sR.bL g8' hD8;generalize w5.putObj (D+1) _=wB at h4 g8x sR ⊢;refine aT (T.aO (aK dw G G I3 XT G G (aA aj G G G g8x G (aY (v':= .int .i64 (sV a' b' 2)) G (aA aj G G G h4.h5 G (aY (v':= .int .i64 least) G (eh G G G (ad ?_))))))));refine bI G (λc4=>?_) (λc4=>?_)
  ·refine aN (aA a7 G G G h4.o G (aY (v':=vo) G (aK dw G G I3 XT G G (aA aj G G G g8x G (aY (v':= .int .i64 (jv a' b')) G (aK dw G G I3 XT rfl rfl (aA aj rfl rfl rfl g8x rfl (aY (v':= .int .i64 (sY a' b' 2)) rfl (dp (places:=[(0,1),(1,1)]) dg lR R3 rfl ⟨_,_,rfl,rfl,_,_,rfl,rfl,rfl⟩ (out:=[_,_]) ⟨0,[_],rfl,rfl,by simp[Value.cells],1,[_],rfl,rfl,by simp[Value.cells],rfl⟩ ?_)))))))));refine fm (A:=RT.fo) (hn:=by decide) (M:=M2) a7 lR XT G G h4.lt (Pd (by have:=Ur T0 T1;omega) (Us a' b' 2)) (.inl rfl) (λu6 w6 ue s6=>?_);have h6:=h4.step s6 (λk hk=>hk.elim);refine dA (M:=M2) (base:=D+2) a7 lR rfl rfl rfl rfl (h6.hk) ue b4 a13 a13 (by have:=ae h6.r;omega) (λv7 M3 w7 uK s7=>?_);obtain⟨⟨go7,mo7⟩,X8⟩:=h6.grow s7 uK;refine ch (M:=M3) Ot rfl rfl go7 rfl (by obtain⟨_,_,he,_⟩:=uK.isSlice;rw[he];rfl) mo7 (λw8 go8 s8=>?_);have h8:=X8 s8 go8;refine ad ?_
   first
   |(obtain⟨h9,sE⟩:=h8.nv (st':= .loop (rec .ready none))
     obtain⟨⟨e1,e2,e3,e4⟩,⟨e5,e6,e7,JC,Nn⟩,Ll⟩:=h8.ne;exact⟨h8.r,true,rfl,(λ_=>⟨M3,λk=>(k=D+1\/vo.ownBlock=some k\/k=bo)/\M1 k,⟨v7,_,h9,by rw[<-hx,VR,if_pos c4,mZ]⟩,(((((S5.dF a15 (λk hk=>hk.2)).trans sR (λk _ hk=>by subst hk;exact⟨.inl G,h.mr⟩)).av s6).trans s7 (λk qJ hk=>⟨.inr (.inl hk),h.hk.mut_ k hk⟩)).trans s8 (λk _ hk=>by subst hk;exact⟨.inr (.inr rfl),h.mo⟩)).trans sE (λk _ hk=>by subst hk;exact⟨.inl rfl,h.mr⟩),λk hk=>by rcases hk.1 with h1|h1|h1;omega;(have:=(h.hk.base k h1).1;omega);(subst h1;exact⟨e6,e7⟩)⟩),λh=>by(cases h)⟩)
   |(obtain⟨h9,sE⟩:=h4.nv (st':= .loop (rec .ready none))
     obtain⟨⟨e1,e2,e3,e4⟩,⟨e5,e6,e7,JC,Nn⟩,Ll⟩:=h4.ne;exact⟨h4.r,true,rfl,(λ_=>⟨M2,λk=>k=D+1/\M1 k,⟨vo,xs,h9,by rw[<-hx,VR,if_neg c4,kd]⟩,((S5.dF a15 (λk hk=>hk.2)).trans sR (λk _ hk=>by subst hk;exact⟨rfl,h.mr⟩)).trans sE (λk _ hk=>by subst hk;exact⟨rfl,h.mr⟩),λk hk=>by omega⟩),λh=>by(cases h)⟩)
  ·refine aR ?_
   first
   |(obtain⟨h9,sE⟩:=h8.nv (st':= .loop (rec .ready none))
     obtain⟨⟨e1,e2,e3,e4⟩,⟨e5,e6,e7,JC,Nn⟩,Ll⟩:=h8.ne;exact⟨h8.r,true,rfl,(λ_=>⟨M3,λk=>(k=D+1\/vo.ownBlock=some k\/k=bo)/\M1 k,⟨v7,_,h9,by rw[<-hx,VR,if_pos c4,mZ]⟩,(((((S5.dF a15 (λk hk=>hk.2)).trans sR (λk _ hk=>by subst hk;exact⟨.inl G,h.mr⟩)).av s6).trans s7 (λk qJ hk=>⟨.inr (.inl hk),h.hk.mut_ k hk⟩)).trans s8 (λk _ hk=>by subst hk;exact⟨.inr (.inr rfl),h.mo⟩)).trans sE (λk _ hk=>by subst hk;exact⟨.inl rfl,h.mr⟩),λk hk=>by rcases hk.1 with h1|h1|h1;omega;(have:=(h.hk.base k h1).1;omega);(subst h1;exact⟨e6,e7⟩)⟩),λh=>by(cases h)⟩)
   |(obtain⟨h9,sE⟩:=h4.nv (st':= .loop (rec .ready none))
     obtain⟨⟨e1,e2,e3,e4⟩,⟨e5,e6,e7,JC,Nn⟩,Ll⟩:=h4.ne;exact⟨h4.r,true,rfl,(λ_=>⟨M2,λk=>k=D+1/\M1 k,⟨vo,xs,h9,by rw[<-hx,VR,if_neg c4,kd]⟩,((S5.dF a15 (λk hk=>hk.2)).trans sR (λk _ hk=>by subst hk;exact⟨rfl,h.mr⟩)).trans sE (λk _ hk=>by subst hk;exact⟨rfl,h.mr⟩),λk hk=>by omega⟩),λh=>by(cases h)⟩)
 ·obtain⟨Mz,vo,xs,h,hx⟩:=h4.resolve_right (λh=>h);left;rw[Ut,fS]at hx;obtain⟨h5,_⟩:=h.nv (st':= .loop (rec .exhausted none));refine ⟨h.r,?_⟩;generalize w4.putObj (D+1) _=wE at h5 ⊢;have VQ:=DM least (a.length+b.length) a b;change(H3 least a b).length<=_ at VQ;refine T.aO (aA a7 G G G h5.o G (aY (v':=vo) G (Rg.aZ G G (aM ?_))));obtain⟨⟨e1,e2,e3,e4⟩,e5,JC,Nn,Ll,Rl⟩:=h5.ne;have sZ:Step Mz wE Mz (wE.putObj D (.deferred none)) (λk=>k=D):=fD h5.md;have SZ:=h5.S.cq sZ (λk hk=>by subst hk;exact Rl);rw[<-hx];rw[<-hx]at VQ;exact Ir G G h5.d ⟨_,SZ.lt hM,SZ,(h5.hk.step sZ (λk hk hh=>by have:=(h5.hk.base k hk).1;omega)).kD q0⟩
theorem VS {M:aE} {w0:World} {va vb:Value} {a b:List Fo} (hM:Lt M w0) (o7:((RT.fo).sl).V M w0 a va) (On:((RT.fo).sl).V M w0 b vb) (oa:uI a) (ob:uI b) (hl:a.length+b.length<=1099511627776):
  Spec Tryz.prog 53 #[va,vb] w0 (λv' w'=>∃M',Lt M' w'∧Step M w0 M' w' ar/\Own RT.fo 45 M' w' w0.heap.size v' (H3 2 a b)):=by
 refine aS (args:=[_,_]) (fn:=Tryz.f53) Tryz.func53 G (n:=8) Tryz.ntmps53 (T.aO (Rg.aZ G G (T.aO (ab G G (ab G G ?_)))));refine aJ G G aaT (Lw hM o7 On oa ob hl) (λr1 w1 h=>?_);obtain⟨M1,h1,s1,ho⟩:=h;refine Rg.aZ G G (aM ?_);exact aP G G ⟨M1,h1,s1,ho⟩
end Go.K
namespace Go.K
open Go.Proofs
namespace TKMNot
theorem Ot:TI Tryz.prog 36 (.slice none 0 0) 1 24:=by unfold TI;kernel_rfl
theorem lR:TI Tryz.prog 45 (.agg #[(.int .i64 0),(.int .i64 0)]) 2 16:=by unfold TI;kernel_rfl
theorem R3:placesOf Tryz.prog 45=[(0,1),(1,1)].map some:=by kernel_rfl
theorem aaT:Enters Tryz.prog 102:=enters Tryz.func102 rfl XT
theorem aaK:Enters Tryz.prog 118:=enters Tryz.func118 rfl XT
theorem VG:Enters Tryz.prog 119:=enters Tryz.func119 rfl XT
theorem aoy:Enters Tryz.prog 168:=enters Tryz.func168 rfl XT
theorem aoz:Enters Tryz.prog 226:=enters Tryz.func226 rfl XT
end TKMNot
open TKMNot
set_option maxRecDepth 10000
structure Cl (M:aE) (w0:World) (n:Nat) (ws:List Nat) (bs bw bl bo D:Nat) (st:Obj) (vo:Value) (xs:List Fo) (M1:aE) (w:World):Prop where
 lt:Lt M1 w
 S:Step M w0 M1 w ar
 mo:M1 bo
 md:M1 D
 mr:M1 (D+1)
 m0: ¬M1 1
 set:gZ 128 205 n ws M1 w bs bw
 hl:w.heap[bl]? =some (.cells #[.pointer (some ⟨bs,0,none⟩)] 49 (0,0))
 o:w.heap[bo]? =some (.cells #[vo] 36 (0,0))
 d:w.heap[D]? =some (.deferred (some []))
 r:w.heap[D+1]? =some st
 tab:∃e fr,w.heap[1]? =some (.cells (E2.map fun(k:Nat)=>Value.int .u8 (k:Int)).toArray e fr)
 ne:(bo<D/\bl<D/\bs<D/\bw<D)/\(bo≠bl/\bo≠bs/\bo≠bw)/\(w0.heap.size<=bo/\w0.heap.size<=D)
 hk:Own RT.fo 45 M1 w (D+2) vo xs
section
variable {M M1 M2 N:aE} {w0 w w':World} {n:Nat} {ws:List Nat} {bs bw bl bo D:Nat} {st st':Obj} {vo:Value} {xs:List Fo}
theorem Cl.step (h:Cl M w0 n ws bs bw bl bo D st vo xs M1 w) (s:Step M1 w M2 w' ar):Cl M w0 n ws bs bw bl bo D st vo xs M2 w':=by
 have mm:=λ{b:Nat} (hm:M1 b)=>(s.mem b (h.lt b hm)).2 hm
 obtain⟨e,fr,ht⟩:=h.tab;exact⟨s.lt h.lt,h.S.av s,mm h.mo,mm h.md,mm h.mr,λh0=>h.m0 ((s.mem 1 (ae ht)).1 h0),h.set.step s (λh=>h) (λh=>h),s.ay h.hl,s.ay h.o,s.ay h.d,s.ay h.r,⟨e,fr,s.ay ht⟩,h.ne,h.hk.bD s⟩
theorem Cl.nv (h:Cl M w0 n ws bs bw bl bo D st vo xs M1 w):Cl M w0 n ws bs bw bl bo D st' vo xs M1 (w.putObj (D+1) st'):=by
 obtain⟨⟨e1,e2,e3,e4⟩,⟨e5,e6,e7⟩,e8,e9⟩:=h.ne;have s:Step M1 w M1 (w.putObj (D+1) st') (λk=>k=D+1):=fD h.mr;obtain⟨e,fr,ht⟩:=h.tab;exact⟨s.lt h.lt,h.S.cq s (λb hb=>by omega),h.mo,h.md,h.mr,h.m0,h.set.step s q0 q0,s.bL h.hl q0,s.bL h.o q0,s.bL h.d q0,World.putObj_heap_same (ae h.r),⟨e,fr,s.bL ht q0⟩,h.ne,h.hk.step s (λk qo hh=>by have:=(h.hk.base k qo).1;omega)⟩
theorem Cl.grow {vo':Value} {xs':List Fo} (h:Cl M w0 n ws bs bw bl bo D st vo xs M1 w) (s:Step M1 w M2 w' (λk=>vo.ownBlock=some k)) (hk:Own RT.fo 45 M2 w' (D+2) vo' xs'):
  (w'.heap[bo]? =some (.cells #[vo] 36 (0,0))/\M2 bo)/\∀{w2:World},Step M2 w' M2 w2 (λk=>k=bo)->w2.heap[bo]? =some (.cells #[vo'] 36 (0,0))->Cl M w0 n ws bs bw bl bo D st vo' xs' M2 w2:=by
 obtain⟨⟨e1,e2,e3,e4⟩,⟨e5,e6,e7⟩,e8,e9⟩:=h.ne;have hn:∀k,vo.ownBlock=some k->D+2<=k:=λk hk=>(h.hk.base k hk).1
 have mm:=λ{b:Nat} (hm:M1 b)=>(s.mem b (h.lt b hm)).2 hm
 obtain⟨e,fr,ht⟩:=h.tab;have h0:bo≠1:=λe=>h.m0 (e▸h.mo)
 refine ⟨⟨s.bL h.o (λhh=>by have:=hn _ hh;omega),mm h.mo⟩,λ{w2} s2 hx=> ?_⟩;have S':=h.S.cq s (λk hk=>by have:=hn k hk;omega)
 exact⟨s2.lt (s.lt h.lt),S'.cq s2 (λk hk=>by subst hk;exact e8),mm h.mo,mm h.md,mm h.mr,λh0=>h.m0 ((s.mem 1 (ae ht)).1 h0),(h.set.step s (λhh=>by have:=hn _ hh;omega) (λhh=>by have:=hn _ hh;omega)).step s2 (λhh=>e6 hh.symm) (λhh=>e7 hh.symm),s2.bL (s.bL h.hl (λhh=>by have:=hn _ hh;omega)) (λhh=>e5 hh.symm),hx,s2.bL (s.bL h.d (λhh=>by have:=hn _ hh;omega)) q0,s2.bL (s.bL h.r (λhh=>by have:=hn _ hh;omega)) q0,⟨e,fr,s2.bL (s.bL ht (λhh=>by have:=hn _ hh;omega)) (λhh=>h0 hh.symm)⟩,h.ne,
  hk.step s2 (λk qo hh=>by have:=(hk.base k qo).1;omega)⟩
end
set_option maxHeartbeats 2000000 in
theorem VT {M:aE} {w0:World} {va:Value} {a:List Fo} {n:Nat} (hM:Lt M w0) (o7:((RT.fo).sl).V M w0 a va) (hn:n<=1099511627776) (iz: ¬M 1) (tab:∃e fr,w0.heap[1]? =some (.cells (E2.map fun(k:Nat)=>Value.int .u8 (k:Int)).toArray e fr)):
  Spec Tryz.prog 107 #[va,.int .i64 n] w0 (λv' w'=>∃M',Lt M' w'∧Step M w0 M' w' ar/\Own RT.fo 45 M' w' w0.heap.size v' (qY a n)):=by
 have hlen:=dW o7;obtain⟨et,ft,tab⟩:=tab;have h0w:=ae tab;refine qT (args:=[_,_]) (fn:=Tryz.f107) Tryz.func107 G (n:=32) Tryz.ntmps107 (T.aO (Rg.aZ G G (T.aO (ab G G ?_))));refine aJ G G aaK (Dd (M:=M) hn) (λr1 w1 h=>?_);obtain⟨bs,bw,ws0,M0,rfl,z1,z2,s1,h1,ua⟩:=h;have tn:=s1.lt hM;have t1:=s1.ay tab;refine Rg.aZ G G (aI (T.aO (ab G G (bB a7 G o7 G (ab G G (ad (aT ?_)))))));refine cR (σ:=Nat) (λs=>[(0,va),(1,.int .i64 n),(5,.pointer (some ⟨bs,0,none⟩)),(12,va),(13,.int .i64 a.length),(14,.int .i64 s)]) (λs w=>s<=a.length/\∃ws M1,Lt M1 w/\Step M w0 M1 w ar/\gZ 128 205 n ws M1 w bs bw/\(∀j:Nat,bit ws j=(decide (j<n)&& !tW (a.take s) (j:Int)))/\¬M1 1/\w.heap[1]? =some (.cells (E2.map fun(k:Nat)=>Value.int .u8 (k:Int)).toArray et ft)) (λs=>a.length-s) 0 a14 ?_ ?_
 ·exact⟨bm _,ws0,M0,tn,s1,h1,λj=>by rw[ua j];simp[tW],λh0=>iz ((s1.mem 1 h0w).1 h0),t1⟩
 ·rintro k wk ⟨hk,ws,M1,agy,SA,hs,A8,hm0,ht⟩;refine T.aO (ck G G G (ad (aI ?_)));refine bI G (λc3=>?_) (λc3=>?_)
  ·refine aR (aI (aT (T.aO ?_)));obtain⟨⟨d,s⟩,hx⟩:∃x,a[k]? =some x:=⟨_,an q0⟩;refine cx a7 lR G G G (o7.le SA.le) b4 a62 (λMP JA AW td=>?_);obtain rfl:(d,s)=JA:=dV (aF (AW.symm.trans (by rw[aq];exact hx)));refine bZ (A:=RT.fo) dg G lR XT G G G td b4 (λv4 qb=>?_);refine jR (A:=RT.fo) (M:=M1) lR G G G G G a00 (by repeat (first|exact bN _ _|refine bp (bO a00) ?_)) a56 (λY2 Y3 nF pF ae5=>?_);refine ad (aN (ab G G ?_));refine au (M:=M1) (A:=RT.fo) (B:=RT.int .i64) dg G G I3 XT (WD) G G XT a00 (by repeat (first|exact bN _ _|refine bp (bO a00) ?_)) (λaeo KU=>?_);refine bV aj G G KU b4 (λhdr=>?_);refine aY (v':= .int .i64 d) G ?_;have hs5:=hs.step pF (λh=>h) (λh=>h);have hM5:=pF.lt agy;refine aJ rfl rfl VG (A2 (i:=d) hs5 (λj hj=>by rw[A8 j,cp]at hj;exact of_decide_eq_true hj.1)) (λr6 w6 h=>?_);obtain⟨uH,hs6,rB,s6⟩:=h;refine ad (aN (br G G G q0 (ab G G (ad ?_))));refine⟨G,k+1,a14,?_,?_⟩
   ·refine⟨by omega,uH,M1,s6.lt hM5,(SA.av pF).cq s6 (λb hb=>by omega),hs6,λj=>?_,hm0,s6.bL (pF.ay ht) q0⟩;rw[rB j,A8 j,Mi hx]
    cases tW (a.take k) (j:Int)<;>simp[eq_comm]
   ·show _-(k+1)<_-k;omega
  ·refine cE (T.aO ?_);obtain rfl:k=a.length:=by omega
   refine ek M1 Ot G (λbo w7 z7 z7' g7 s7=>?_);change w7.heap[bo]? =some (.cells #[.slice none 0 0] _ _)at g7;have hM7:=s7.lt agy;have S7:=SA.av s7;have hs7:=hs.step s7 (λh=>h) (λh=>h);have y7:=SA.size;have lbs:=ae hs.s;have lbw:=ae hs.w;refine ad (aI (T.aO (ab G G ?_)));refine aJ G G aoy (Nu (M:=ins M1 bo) (bs:=bs) hM7) (λr8 w8 h=>?_);obtain⟨bl,rfl,gl,z8,s8⟩:=h;have hM8:=s8.lt hM7;have S8:=S7.av s8;have hs8:=hs7.step s8 (λh=>h) (λh=>h);have g8:=s8.ay g7;have xl:=ae gl;have y8:=s8.size;have t8:=s8.ay (s7.ay ht)
   have m80: ¬ins M1 bo 1:=by
    rintro(h|h)
    ·omega
    ·exact hm0 h
   refine ad (aT ?_);rw[List.take_length]at A8;have dz:∀j,bit ws j=true->j<n:=λj hj=>by rw[A8 j,cp]at hj;exact of_decide_eq_true hj.1
   refine T.range (gf:=226) (lb:= #[.pointer (some ⟨bl,0,none⟩)]) G aoz (λrec qS=>?_);obtain⟨D,hD⟩:∃D,D=w8.heap.size:=⟨_,rfl⟩;rw[<-hD]at qS ⊢;obtain⟨Mb,yW⟩:∃Mb,Mb=ins M1 bo:=⟨_,rfl⟩;have mo:Mb bo:=by rw[yW];exact .inl G
   rw[<-yW]at hM8 S8 hs8 m80;have sA:Step Mb w8 (ins Mb w8.heap.size) (w8.alloc (.deferred (some []))) ar:=(dL _ w8 _).own (aX _) (by simp);have sB:Step (ins Mb w8.heap.size) (w8.alloc (.deferred (some []))) (ins (ins Mb w8.heap.size) (w8.heap.size+1)) ((w8.alloc (.deferred (some []))).alloc (.loop (rec .ready none))) ar:=(dL _ _ _).own (by simp) (by simp);have sC:=sA.av sB;have hDd:(w8.alloc (.deferred (some []))).heap[w8.heap.size]? =some (.deferred (some [])):=cY w8 _;have hR:((w8.alloc (.deferred (some []))).alloc (.loop (rec .ready none))).heap[w8.heap.size+1]? =some (.loop (rec .ready none)):=by have:=cY (w8.alloc (.deferred (some []))) (.loop (rec .ready none));rwa [World.size_alloc]at this
   refine Spec.mono (JW (M:=ins (ins Mb w8.heap.size) (w8.heap.size+1)) (n:=n) (ws:=ws) (bs:=bs) (bw:=bw) (J:=(λp M1 w=>∃vo,Cl M w0 n ws bs bw bl bo D (.loop (rec .ready none)) vo (qY a p) M1 w/\p<=n)) (Jx:=λ_=>False) dz (λp M1 w ⟨vo,h,_⟩=>⟨h.hl,h.set,h.tab⟩) (λp j M1 wr hJ hpj JX jj=>?_) ⟨.slice none 0 0,?_,bm _⟩) (λ_ w4 h4=>?_)
   rotate_left
   ·rw[hD]
    exact⟨sC.lt hM8,S8.av sC,.inr (.inr mo),.inr (.inl G),.inl G,by
     rintro(h|h|h)
     ·omega
     ·omega
     ·exact m80 h,hs8.step sC (λh=>h) (λh=>h),sC.ay gl,sC.ay g8,sB.ay hDd,hR,⟨_,_,sC.ay t8⟩,by omega,eE _ _ _ _ _⟩
   rotate_left
   ·obtain⟨vo,h,VA⟩:=hJ;refine oG (ps:=[25]) (vs:=[.int .i64 j]) qS h.r G XT (aN (Rg.aZ G G (⟨G,h.r,?_⟩)));have h1:=h.nv (st':= .loop (rec .busy none));generalize wr.putObj (D+1) _=wB at h1 ⊢;refine aT (aN (aA a7 G G G h1.o G (aY (v':=vo) G (ab G G ?_))));have hjn:j<n:=by have:=dz _ JX;exact this
    have Wo:=h1.set.nn;refine dp (places:=[(0,1),(1,1)]) dg lR R3 rfl ⟨_,_,rfl,rfl,rfl⟩ (out:=[_,.int .i64 0]) ⟨0,[_],rfl,rfl,by simp[Value.cells],rfl⟩ ?_;refine fm (A:=RT.fo) (hn:=by decide) (M:=M1) a7 lR XT G G h1.lt (Pd (a:=(j:Int)) (b:=0) q0 q0) (.inl G) (λu6 w6 ue s6=>?_);have h6:=h1.step s6;have te:=FD a p;refine dA (M:=M1) (base:=D+2) a7 lR rfl rfl rfl rfl (h6.hk) ue b4 a13 a13 (by have:=ae h6.r;omega) (λv7 M3 w7 uK s7=>?_);obtain⟨⟨go7,mo7⟩,X8⟩:=h6.grow s7 uK;refine ch (M:=M3) Ot rfl rfl go7 rfl (by obtain⟨_,_,he,_⟩:=uK.isSlice;rw[he];rfl) mo7 (λw8 go8 s8=>?_);have h8:=X8 s8 go8;refine ad ?_;have h9:=h8.nv (st':= .loop (rec .ready none));refine⟨h8.r,true,G,(λ_=>⟨M3,v7,?_,by omega⟩),λh=>by(cases h)⟩
    have agz:qY a j=qY a p:=xm j hpj (λt h1 h2=>by
     have h3:=jj t h1 h2;rw[A8 t,decide_eq_true (show t<n by omega),cT]at h3;simpa using h3)
    have hfj:tW a (j:Int)=false:=by
     have:=A8 j;rw[JX,decide_eq_true hjn,cT]at this;simpa using this.symm
    rw[CH,agz,hfj];exact h9
   ·obtain⟨p,Mz,⟨vo,h,VA⟩,j4⟩:=h4.resolve_right (λh=>h);left;have h5:=h.nv (st':= .loop (rec .exhausted none))
    have jT:qY a n=qY a p:=xm n VA (λt h1 h2=>by
     have h3:=j4 t h1;rw[A8 t,decide_eq_true h2,cT]at h3;simpa using h3)
    refine ⟨h.r,?_⟩;generalize w4.putObj (D+1) _=wE at h5 ⊢;have te:=FD a p;refine T.aO (aA a7 G G G h5.o G (aY (v':=vo) G (Rg.aZ G G (aM ?_))));obtain⟨⟨e1,e2,e3,e4⟩,e5,e8,e9⟩:=h5.ne;have sZ:Step Mz wE Mz (wE.putObj D (.deferred none)) (λk=>k=D):=fD h5.md;have SZ:=h5.S.cq sZ (λk hk=>by subst hk;exact e9);rw[jT];exact Ir G G h5.d ⟨_,SZ.lt hM,SZ,(h5.hk.step sZ (λk hk hh=>by have:=(h5.hk.base k hk).1;omega)).kD q0⟩
theorem aaX {M:aE} {w0:World} {va vb:Value} {a b:List Fo} (hM:Lt M w0) (o7:((RT.fo).sl).V M w0 a va) (On:((RT.fo).sl).V M w0 b vb) (oa:uI a) (ob:uI b) (hl:a.length+b.length<=1099511627776):
  Spec Tryz.prog 109 #[va,vb] w0 (λv' w'=>∃M',Lt M' w'∧Step M w0 M' w' ar/\Own RT.fo 45 M' w' w0.heap.size v' (H3 1 a b)):=by
 refine aS (args:=[_,_]) (fn:=Tryz.f109) Tryz.func109 G (n:=8) Tryz.ntmps109 (T.aO (Rg.aZ G G (T.aO (ab G G (ab G G ?_)))));refine aJ G G aaT (Lw hM o7 On oa ob hl) (λr1 w1 h=>?_);obtain⟨M1,h1,s1,ho⟩:=h;refine Rg.aZ G G (aM ?_);exact aP G G ⟨M1,h1,s1,ho⟩
end Go.K
namespace Go.K
def Xw (l:List Int):Prop:=l.Pairwise (· < ·)/\(∀x∈l,0<=x/\x<1000000)/\l.length<=1000
def R4 (tl:List (List Int)) (x:Int) (n:Nat):Bool:=(List.range n).all λk=>(tl.getD k []).contains (x+1+k)
theorem wg (tl:List (List Int)) (x:Int) (n:Nat):R4 tl x (n+1)=(R4 tl x n&&(tl.getD n []).contains (x+1+n)):=by simp[R4,List.range_succ]
def Cm (tl:List (List Int)) (l:List Int) (n:Nat):Nat:=((l.take n).filter λx=>R4 tl x tl.length).length
def R5:List (List Int)->Nat
 |[]=>0
 |l::tl=>Cm tl l l.length
theorem rY {tl:List (List Int)} {l:List Int} {n:Nat} {x:Int} (h:l[n]? =some x):Cm tl l (n+1)=Cm tl l n+if R4 tl x tl.length then 1 else 0:=by
 obtain⟨h1,h2⟩:=al.1 h;unfold Cm;rw[tq h1,h2,fp,bU];congr 1;by_cases hx:R4 tl x tl.length=true
 ·rw[if_pos hx];simp[List.filter,hx]
 ·rw[if_neg hx];simp[List.filter,hx]
theorem VU (tl:List (List Int)) (l:List Int) (n:Nat):Cm tl l n<=n:=by
 unfold Cm;refine ep (fI _ _) ?_;rw[bF];omega
theorem aoA (n:Nat):((n:Int)).fdiv (2^min (Int.toNat 1) IntKind.u64.bits)=((n/2:Nat):Int):=by
 change Int.fdiv (n:Int) 2=_;rw[Int.fdiv_eq_ediv_of_nonneg _ XT];omega
theorem Ez {l:List Int} (h:l.Pairwise (· < ·)) {i j:Nat} {x y:Int} (hx:l[i]? =some x) (hy:l[j]? =some y) (jt:i<j):x<y:=by
 obtain⟨h1,h2⟩:=al.1 hx;obtain⟨h3,h4⟩:=al.1 hy;rw[<-h2,<-h4];exact(List.pairwise_iff_getElem.1 h) i j h1 h3 jt
theorem J4 {l:List Int} (h:l.Pairwise (· < ·)) {x:Int} {i:Nat} (h1:∀t y,t<i->l[t]? =some y->y<x) (h2:∀t y,i<=t->l[t]? =some y->x<=y):l.contains x=decide (l[i]? =some x):=by
 rw[jh,fJ,decide_eq_true_iff];constructor
 ·intro hm;obtain⟨t,ht⟩:=bG.1 hm;rcases fh t i with h3|h3|h3
  ·have:=h1 t x h3 ht;omega
  ·rw[<-h3];exact ht
  ·have hl:=(al.1 ht).1;obtain⟨y,hy⟩:∃y,l[i]? =some y:=⟨_,an q0⟩;have:=Ez h hy ht h3;have:=h2 i y (aX _) hy;omega
 ·exact λhm=>ax hm
theorem aaY {M:aE} {w:World} {d s:Int} {v:Value} (h:RT.fo.V M w (d,s) v):v= .agg #[.int .i64 d,.int .i64 s]:=by
 obtain⟨vs,⟨va,vb,rfl,⟨rfl,hd⟩,⟨rfl,hb⟩⟩,rfl⟩:=h;rfl
open Go.Proofs
namespace TKSearch
theorem afK:Enters Tryz.prog 159:=enters Tryz.func159 rfl XT
theorem afL:Enters Tryz.prog 160:=enters Tryz.func160 rfl XT
theorem afM:Enters Tryz.prog 201:=enters Tryz.func201 rfl XT
end TKSearch
open TKSearch
set_option maxRecDepth 10000
theorem J5 {w0:World} {x:Int}:
  Spec Tryz.prog 160 #[.int .i64 x] w0 (λv' w'=>v'= .bool (decide False)/\w0=w'):=by
 refine aS (args:=[_]) (fn:=Tryz.f160) Tryz.func160 G (n:=6) Tryz.ntmps160 (T.aO (Rg.aZ G G (T.aO (ab G G (ab G G (eR G G G (Rg.aZ G G ?_)))))));refine aM ?_;exact aP rfl rfl ⟨by simp,rfl⟩
theorem EA {w0:World} {x:Int}:
  Spec Tryz.prog 201 #[.int .i64 x] w0 (λv' w'=>v'= .bool (decide False)/\w0=w'):=by
 refine aS (args:=[_]) (fn:=Tryz.f201) Tryz.func201 G (n:=6) Tryz.ntmps201 (T.aO (Rg.aZ G G (T.aO (ab G G (ab G G (eR G G G (Rg.aZ G G ?_)))))));refine aM ?_;exact aP rfl rfl ⟨by simp,rfl⟩
theorem NC {w0:World} {x y:Int}:
  Spec Tryz.prog 159 #[.int .i64 x,.int .i64 y] w0 (λv' w'=>v'= .bool (decide (x<y))/\w0=w'):=by
 refine aS (args:=[_,_]) (fn:=Tryz.f159) Tryz.func159 G (n:=17) Tryz.ntmps159 (T.aO (Rg.aZ G G (T.aO (ab G G ?_))));refine aJ G G afM (EA) (λr wc h=>?_);obtain⟨rfl,rfl⟩:=h;refine ab G G (Rg.qO (g:=7) G ((λh=>h)) (ak G G G G (ak G G G G (ak G G G G (aD G G G (ab G G (ah G G (ab G G (ah G G (ab G G (ah G G ?_)))))))))));refine ck G G G (aD G G G (Rg.aZ G G (aM ?_)));exact a69
theorem Hk {M:aE} {w0:World} {v:Value} {l:List Int} {x:Int} (hv:((RT.int .i64).sl).V M w0 l v) (hr:l.Pairwise (· < ·)):
  Spec Tryz.prog 103 #[v,.int .i64 x] w0 (λv' w'=>∃i:Int,v'= .tuple #[.int .i64 i,.bool (l.contains x)]/\w0=w'):=by
 have hlen:=dW hv;refine aS (args:=[_,_]) (fn:=Tryz.f103) Tryz.func103 G (n:=54) Tryz.ntmps103 (T.aO (aB G G (Rg.aZ G G (T.aO (ab G G (bB ao G hv G (Rg.aZ G G ?_)))))));refine T.aO (ab G G (aB G G (Rg.aZ G G (aI (aT ?_)))));refine cR (σ:=Nat×Nat) (λs=>[(0,v),(1,.int .i64 x),(6,.int .i64 l.length),(7,.int .i64 s.1),(8,.int .i64 s.2)]) (λs w=>w0=w/\s.1<=s.2/\s.2<=l.length/\(∀t y,t<s.1->l[t]? =some y->y<x)/\(∀t y,s.2<=t->l[t]? =some y->x<=y)) (λs=>s.2-s.1) (0,l.length) a34 ?_ ?_
 ·exact⟨G,bm _,aX _,λt y h=>absurd h (eL _),λt y h hy=>by have:=(al.1 hy).1;simp only at h;omega⟩
 ·rintro⟨i,j⟩ w1 ⟨rfl,jt,hj,h1,h2⟩;dsimp only at jt hj h1 h2 ⊢;refine aI (T.aO (ab G G (ab G G (ck G G G (ad ?_)))));refine bI G (λc3=>?_) (λc3=>?_)
  ·refine aR (aT (T.aO (ab G G (ab G G (br G G G q0 (yh aj Tryz.underlying262 rfl rfl (aY (v':= .int .u64 ((i+j:Nat):Int)) (congrArg _ (by rw[IntWalk.u64_in _ q0];omega)) (Rg.shr rfl rfl rfl q0 (aY (v':= .int .u64 (((i+j)/2:Nat):Int)) (congrArg _ (aoA _)) (Rg.tF Tryz.underlying262 aj rfl rfl q0 ?_))))))))));refine Rg.aZ G G (T.aO (ab G G (ab G G ?_)));obtain⟨y,hy⟩:∃y,l[(i+j)/2]? =some y:=⟨_,an q0⟩;refine cx ao I3 G G G (hv) b4 a62 (λafm aoB agA vT=>?_);obtain rfl:y=aoB:=dV (aF (agA.symm.trans (by rw[aq];exact hy)));refine bV (M:=M) aj G G a00 (by repeat (first|exact bN _ _|refine bp (bO a00) ?_)) (λRj=>?_);refine aY (v':= .int .i64 (y)) G ?_;replace Rj: -9223372036854775808<=(y:Int)/\y<=9223372036854775807:=Rj;refine ab G G ?_;refine aJ G G afK (NC) (λr wc h=>?_);obtain⟨rfl,rfl⟩:=h;refine ad ?_;refine bI G (λc5=>?_) (λc5=>?_)
   ·refine aN (ab G G (br G G G q0 (Rg.aZ G G ?_)));refine⟨G,((i+j)/2+1,j),a34,?_,?_⟩
    ·refine⟨rfl,by simp only;omega,hj,λt z ht hz=>?_,h2⟩;rcases cL t ((i+j)/2)with h|h
     ·have:=Ez hr hz hy h;omega
     ·rw[show t=(i+j)/2 from by simp only at ht;omega,hy]at hz;cases hz;exact c5
    ·simp only;omega
   ·refine aN (ab G G (Rg.aZ G G ?_));refine⟨G,(i,(i+j)/2),a34,?_,?_⟩
    ·refine ⟨rfl,by simp only;omega,by simp only;omega,h1,λt z ht hz=> ?_⟩;rcases cL ((i+j)/2) t with h|h
     ·have:=Ez hr hy hz h;omega
     ·rw[show t=(i+j)/2 from by simp only at ht;omega,hy]at hz;cases hz;omega
    ·simp only;omega
  ·refine cE (T.aO (ab G G (ab G G (ab G G (ck G G G (ab G G ?_))))));refine aW (g:=35) G (λaoC=>?_) (λaoC=>?_)
   ·refine ah G G (ab G G (ah G G (ab G G (ah G G ?_))));obtain⟨y,hy⟩:∃y,l[i]? =some y:=⟨_,an q0⟩;refine cx ao I3 G G G (hv) b4 a62 (λaxK aoD agB asS=>?_);obtain rfl:y=aoD:=dV (aF (agB.symm.trans (by rw[aq];exact hy)));refine ah G G ?_;refine bV (M:=M) aj G G a00 (by repeat (first|exact bN _ _|refine bp (bO a00) ?_)) (λXx=>?_);refine aY (v':= .int .i64 (y)) G ?_;replace Xx: -9223372036854775808<=(y:Int)/\y<=9223372036854775807:=Xx;refine ah G G (ab G G (ah G G (gN G G G (ah G G (ab G G ?_)))));refine aW (g:=42) G (λA9=>?_) (λA9=>?_)
    ·refine ak G G G G (ak G G G G (ak G G G G (ak G G G G (ak G G G G (ak G G G G (cM G G G (cM G G G (ak G G G G (ah G G (a8 G G G (a8 G G G ?_)))))))))));refine aB G G (Rg.aZ G G (aM ?_));have R6:=J4 hr h1 (λt y ht hy=>h2 t y q0 hy)
     first
     |exact aj2
     |exact ai0
     |exact eS rfl rfl rfl ⟨_,by rw[R6,dr q0,decide_eq_false (by simp)],G⟩
    ·refine ah G G (ab G G (ah G G (ab G G (ah G G ?_))));refine cx ao I3 G G G (hv) b4 a62 (λasT agC aaZ aoE=>?_);obtain rfl:y=agC:=dV (aF (aaZ.symm.trans (by rw[aq];exact hy)));refine ah G G ?_;refine bV (M:=M) aj G G a00 (by repeat (first|exact bN _ _|refine bp (bO a00) ?_)) (λR7=>?_);refine aY (v':= .int .i64 (y)) G ?_;replace R7: -9223372036854775808<=(y:Int)/\y<=9223372036854775807:=R7;refine ah G G ?_;refine aJ G G afL (J5) (λr wc h=>?_);obtain⟨rfl,rfl⟩:=h;refine ah G G (ab G G (Rg.qO (g:=48) G ((λh=>h)) (ak G G G G (ak G G G G (ah G G (aD G G G (ah G G (aD G G G (a8 G G G (aB G G (aB G G ?_)))))))))));refine ad (aM ?_);have R6:=J4 hr h1 (λt y ht hy=>h2 t y q0 hy)
     first
     |exact aj2
     |exact ai0
     |exact eS rfl rfl rfl ⟨_,by rw[R6,dr q0,decide_eq_false (by simp)],G⟩
   ·refine ak G G G G (ak G G G G (ak G G G G (ak G G G G (ak G G G G (ak G G G G (ak G G G G (cM G G G (cM G G G (cM G G G (cM G G G (cM G G G ?_)))))))))));refine cM G G G (cM G G G (cM G G G (cM G G G (ak G G G G (aD G G G (aB G G (Rg.aZ G G (aM ?_))))))));have R6:=J4 hr h1 (λt y ht hy=>h2 t y q0 hy)
    first
    |exact aj2
    |exact ai0
    |exact eS rfl rfl rfl ⟨_,by rw[R6,dr q0,decide_eq_false (by simp)],G⟩
end Go.K
namespace Go.K
open Go.Proofs
namespace TKSides2
theorem aoF:Enters Tryz.prog 103:=enters Tryz.func103 rfl XT
end TKSides2
open TKSides2
set_option maxRecDepth 10000
theorem ND {M:aE} {w0:World} {v:Value} {ls:List (List Int)} (hv:(((RT.int .i64).sl).sl).V M w0 ls v) (hg:∀l∈ls,Xw l) (TN:ls.length<=1000):
  Spec Tryz.prog 54 #[v] w0 (λv' w'=>v'= .int .i64 (R5 ls)/\w0=w'):=by
 have hlen:=dW hv;refine aS (args:=[_]) (fn:=Tryz.f54) Tryz.func54 G (n:=49) Tryz.ntmps54 (T.aO (Rg.aZ G G (aI (T.aO (ab G G (bB iV G hv G (gN G G G (ad ?_))))))));refine bI G (λc1=>?_) (λc1=>?_)
 ·refine T.aO (Rg.aZ G G (aM ?_));have:ls=[]:=dI.1 q0;subst this;exact a69
 ·obtain⟨l0,tl,rfl⟩:∃l0 tl,ls=l0::tl:=by
   cases ls with
   |nil=>simp at c1
   |cons a b=>exact⟨a,b,rfl⟩
  have yn:tl.length<=1000:=by simp only[cy]at TN;omega
  have hlc:(l0::tl).length=tl.length+1:=rfl;refine aR (T.aO (Rg.aZ G G (aI (T.aO (ab G G ?_)))));refine cx iV l4 G G G (hv) b4 a62 (λaeh aoG agD WZ=>?_);obtain rfl:l0=aoG:=dV (aF (agD.symm.trans rfl));refine bM ao G G G G G WZ b4 (λv16 VV=>?_);replace VV:((RT.int .i64).sl).V M w0 l0 v16:=VV;have Vj:=hg l0 (bK ..);have axL:=Vj.2.2;refine bB ao G VV G (ab G G (ad (aT ?_)));refine cR (σ:=Nat) (λs=>[(0,v),(3,.int .i64 (Cm tl l0 s)),(16,v16),(17,.int .i64 l0.length),(18,.int .i64 s)]) (λs w=>w0=w/\s<=l0.length) (λs=>l0.length-s) 0 a34 ?_ ?_
  ·exact⟨G,bm _⟩
  ·rintro i w1 ⟨rfl,hi⟩;refine T.aO (ck G G G (ad (aI ?_)));refine bI G (λc5=>?_) (λc5=>?_)
   ·refine aR (aI (aT (T.aO ?_)));obtain⟨at_,hx⟩:∃x,l0[i]? =some x:=⟨_,an q0⟩;refine cx ao I3 G G G (VV) b4 a62 (λZx aoI agE Gf=>?_);obtain rfl:at_=aoI:=dV (aF (agE.symm.trans (by rw[aq];exact hx)));have C7:=Vj.2.1 at_ (ax hx);refine bV aj G G Gf b4 (λ_=>?_);refine aY (v':= .int .i64 at_) G (Rg.aZ G G (T.aO (Rg.aZ G G (aI (T.aO (ab G G ?_))))));refine Rg.pb (A:=(RT.int .i64).sl) (hn:=by decide) iV l4 rfl rfl rfl hv (by simp only[cy];omega) (λu23 VW=>?_);replace VW:(((RT.int .i64).sl).sl).V M w0 tl u23:=VW;refine bB iV G VW G (ab G G (ad (aT ?_)));refine cR (σ:=Nat) (λs=>[(0,v),(3,.int .i64 (Cm tl l0 i)),(5,.int .i64 at_),(6,.bool (R4 tl at_ s)),(16,v16),(17,.int .i64 l0.length),(18,.int .i64 i),(23,u23),(24,.int .i64 tl.length),(25,.int .i64 s)]) (λs w=>w0=w/\s<=tl.length) (λs=>tl.length-s) 0 (.cons G (.cons G (.cons G a81))) ?_ ?_
    ·exact⟨G,bm _⟩
    ·rintro k w2 ⟨rfl,hk⟩;refine T.aO (ck G G G (ad (aI ?_)));refine bI G (λc9=>?_) (λc9=>?_)
     ·refine aR (aI (aT (T.aO (ab G G ?_))));obtain⟨lk,nq⟩:∃x,tl[k]? =some x:=⟨_,an q0⟩;refine cx iV l4 G G G (VW) b4 a62 (λasV agF aa0 aa1=>?_);obtain rfl:lk=agF:=dV (aF (aa0.symm.trans (by rw[aq];exact nq)));refine bM ao G G G G G aa1 b4 (λv8 E6=>?_);replace E6:((RT.int .i64).sl).V M w0 lk v8:=E6;have hgk:=hg lk (cz _ (ax nq));have yA:tl.getD k []=lk:=by rw[bY,nq];rfl
      refine aB G G (Rg.aZ G G (T.aO (ab G G (ab G G (br G G G q0 (ab G G (br G G G q0 ?_)))))));refine aJ G G aoF (Hk (x:=at_+1+k) E6 hgk.1) (λr wc h=>?_);obtain⟨i5,rfl,rfl⟩:=h;refine ab G G (b9 G G G (b9 G G G (aB G G (Rg.aZ G G (aN (ab G G (ab G G (aY (v':= .bool (decide (R4 tl at_ k=true))) (by simp) ?_))))))));refine aW (g:=40) G (λHl=>?_) (λHl=>?_)
      ·refine ah G G (ab G G (a8 G G G (Rg.aZ G G (aN (br G G G q0 (ab G G (ad ?_)))))));refine⟨rfl,k+1,a96,?_,?_⟩
       ·exact⟨G,by omega⟩
       ·show _-(k+1)<_-k;omega
      ·refine ak G G G G (aD G G G (Rg.aZ G G (aN (br G G G q0 (ab G G (ad ?_))))));refine⟨rfl,k+1,a96,?_,?_⟩
       ·exact⟨G,by omega⟩
       ·show _-(k+1)<_-k;omega
     ·refine cE (T.aO ?_);obtain rfl:k=tl.length:=by omega
      refine ab G G (aY (v':= .bool (decide (R4 tl at_ tl.length=true))) (by simp) (ad ?_));refine bI G (λMV=>?_) (λMV=>?_)
      ·refine aN (ab G G ?_);have ku:=VU tl l0 i;refine br G G G q0 (Rg.aZ G G (aN (br G G G q0 (ab G G (ad ?_)))));refine⟨rfl,i+1,ai9,?_,?_⟩
       ·exact⟨G,by omega⟩
       ·show _-(i+1)<_-i;omega
      ·refine aR (aN (br G G G q0 (ab G G (ad ?_))));refine⟨rfl,i+1,ai9,?_,?_⟩
       ·exact⟨G,by omega⟩
       ·show _-(i+1)<_-i;omega
   ·refine cE (T.aO (ab G G (Rg.aZ G G (aM ?_))));obtain rfl:i=l0.length:=by omega
    exact a69
end Go.K
namespace Go.K
open Go.Proofs
namespace TKSetB13
theorem yX:TI Tryz.prog 126 (.slice none 0 0) 1 24:=by unfold TI;kernel_rfl
theorem rC:TI Tryz.prog 205 (.int .u64 0) 1 8:=by unfold TI;kernel_rfl
theorem E61:Enters Tryz.prog 61:=enters Tryz.func61 rfl XT
theorem E64:Enters Tryz.prog 64:=enters Tryz.func64 rfl XT
theorem aaI:Enters Tryz.prog 114:=enters Tryz.func114 rfl XT
end TKSetB13
open TKSetB13
set_option maxRecDepth 10000
def NF (M:aE) (w:World) (n:Nat) (ws:List Nat) (bs:Nat):Prop:=∃bw,gZ 128 205 n ws (λ_=>True) w bs bw/\¬M bs/\¬M bw
theorem NF.le {M M':aE} {w w':World} {n:Nat} {ws:List Nat} {bs:Nat} (hl:Le M w M' w') (h:NF M w n ws bs):NF M' w' n ws bs:=by
 obtain⟨bw,h1,h2,h3⟩:=h;obtain⟨a1,a2⟩:=hl bs (ae h1.s) h2;obtain⟨b1,b2⟩:=hl bw (ae h1.w) h3;exact⟨bw,⟨trivial,trivial,h1.ne,a2.trans h1.s,b2.trans h1.w,h1.len,h1.ok,h1.nn⟩,a1,b1⟩
theorem NF.all {M:aE} {w:World} {n:Nat} {ws:List Nat} {bs:Nat} (h:NF M w n ws bs):∃bw,gZ 128 205 n ws (λ_=>True) w bs bw:=by
 obtain⟨bw,h1,_⟩:=h;exact⟨bw,h1⟩
def qC (M:aE) (w:World) (a:List Bool) (bs:Nat):Prop:=∃ws,NF M w a.length ws bs/\∀j,bit ws j=true↔a[j]? =some true
theorem qC.le {M M':aE} {w w':World} {a:List Bool} {bs:Nat} (hl:Le M w M' w') (h:qC M w a bs):qC M' w' a bs:=by
 obtain⟨ws,h1,h2⟩:=h;exact⟨ws,h1.le hl,h2⟩
end Go.K
namespace Go.K
abbrev Hd:=Int×Int×Int
def hn (xs:List Hd) (i:Nat):Int:=(xs.getD i (0,0,0)).1
def aa2 (f:Nat->Nat):Nat->Nat
 |0=>0
 |k+1=>aa2 f k+f k
def Xy (ls:List (List Int)) (i:Nat):Nat:=(ls.getD i []).length
def xh (ls:List (List Int)):Nat:=aa2 (Xy ls) ls.length
def rem (ls:List (List Int)) (at_:Nat->Nat):Nat:=aa2 (λi=>Xy ls i-at_ i) ls.length
abbrev RT.hd:RT Hd:=RT.pair (RT.int .i64) (RT.pair (RT.int .i64) (RT.int .i64))
theorem hd0:Part RT.hd (RT.int .i64) (λh=>h.1) 0:=kO _ _
theorem hd1:Part RT.hd (RT.int .i64) (λh=>h.2.1) 1:=(fH _ _).trans (kO _ _)
theorem hd2:Part RT.hd (RT.int .i64) (λh=>h.2.2) 2:=(fH _ _).trans (fH _ _)
def Ba (x:Int):Prop:= -9223372036854775808<=x/\x<=9223372036854775807
variable {P:Program} {r:Option Nat} {n:Nat} {L:Sl} {ds:List Deferred} {w:World} {K:Kt} {ops:Array Oper} {rest:List Oper} {d:Nat} {x y:Operand} {ty:TypeId} {pos:String} {af:Array Edge} {α:Type} {A:RT α}
def foC (p:Fo):List Value:=[.int .i64 p.1,.int .i64 p.2]
def R8 (p:Fo):Prop:=Ba p.1/\Ba p.2
theorem EB {M:aE} {w:World}:∀{xs:List Fo} {C:List Value},fY RT.fo M w xs C↔C=xs.flatMap foC/\∀p∈xs,R8 p
 |[],C=>⟨λh=>⟨h,λp h=>by cases h⟩,λh=>h.1⟩
 |p::xs,C=>by
  constructor
  ·rintro⟨vs,r,h1,⟨va,vb,rfl,⟨rfl,ha⟩,⟨rfl,hb⟩⟩,h3⟩;obtain⟨h4,h5⟩:=EB.1 h3;refine ⟨by rw[h1,h4];rfl,λq hq=> ?_⟩;rcases cU.1 hq with rfl|hq
   ·exact⟨ha,hb⟩
   ·exact h5 q hq
  ·rintro⟨h1,h2⟩;obtain⟨ha,hb⟩:=h2 p (bK ..);exact⟨_,_,by rw[h1];rfl,⟨_,_,rfl,⟨rfl,ha⟩,⟨rfl,hb⟩⟩,EB.2 ⟨rfl,λq hq=>h2 q (cz _ hq)⟩⟩
theorem Bb:∀xs:List Fo,(xs.flatMap foC).length=xs.length*2
 |[]=>rfl
 |p::xs=>by rw[tx,bU,Bb xs,cy];show 2+_=_;omega
end Go.K
namespace Go.K
section
variable {P:Program} {r:Option Nat} {n:Nat} {L:Sl} {ds:List Deferred} {w:World} {K:Kt} {ops:Array Oper} {rest:List Oper} {d:Nat} {x y i:Operand} {ty:TypeId} {pos:String} {af:Array Edge}
theorem Rg.Xz {t e:TypeId} {κ:IntKind} {j:Int} {b len cap bytes:Nat} {zv:Value} (ht:P.underlying t=some (.slice e)) (hi:TI P e zv 2 bytes) (hx:ev L x=some (.slice (some ⟨b,0,none⟩) len cap)) (LU:ev L i=some (.int κ j)) (hd:Nat.blt d n=true) (hj:0<=j/\j<len)
  (k:Rg P r n ops rest ((d,.pointer (some ⟨b,j.toNat*2,none⟩))::L) ds w K):
  Rg P r n ops ({dst:=some d,op:= .indexAddr t x i,type:=ty,pos,after:=af,guard:=none}::rest) L ds w K:=
 .op a06 rfl rfl hd _ w (λρ h=>by
  simp only[execOp,h x _ hx,h i _ LU];simp[Instr.indexAt,run_underlying ht,asIntOf,hj,hi.sizeOf,Addr.add_mid]) k
def wh (cs:Array Value) (xs:List Fo):Prop:=∀(t:Nat) p,xs[t]? =some p->cs[t*2]? =some (.int .i64 p.1)/\cs[t*2+1]? =some (.int .i64 p.2)/\R8 p
theorem Lx:∀{xs:List Fo} {t:Nat} {p:Fo},xs[t]? =some p->(xs.flatMap foC)[t*2]? =some (.int .i64 p.1)/\(xs.flatMap foC)[t*2+1]? =some (.int .i64 p.2)
 |[],t,p,h=>by simp at h
 |q::xs,0,p,h=>by simp at h;subst h;exact⟨G,G⟩
 |q::xs,t+1,p,h=>by
  have h2:=Lx (xs:=xs) (t:=t) (p:=p) a68;rw[tx,show(t+1)*2=t*2+2 by omega];exact⟨h2.1,h2.2⟩
theorem Own.fos {e:TypeId} {M:aE} {base:Nat} {v:Value} {xs:List Fo} (h:Own RT.fo e M w base v xs) (fw:xs≠[]):∃g cap cur,v= .slice (some ⟨g,0,none⟩) xs.length cap/\xs.length<=cap/\w.heap[g]? =some (.cells cur e (0,0))/\M g/\base<=g/\xs.length*2<=cur.size/\wh cur xs:=by
 obtain⟨⟨C,hr,ha⟩,hm⟩:=h;obtain⟨rfl,fN⟩:=EB.1 ha;have e2:RT.fo.n=2:=rfl;rcases hr.2 with⟨h1,h2⟩|⟨g,cap,cur,h1,h2,h3,h4,h5,h6,h7⟩
 ·exfalso;have hl:=hr.1;rw[Bb,e2]at hl
  have:xs.length=0:=by
   first
   |(rw[h2]at hl;simp at hl;exact hl)
   |(have:=congrArg List.length h2;rw[Bb]at this;simp at this;omega)
   |omega
  exact fw (dI.1 this)
 ·rw[e2]at h6 h7;refine ⟨g,cap,cur,h1,h4,h3,hm g (by rw[h1];rfl),h2,by rw[h6];omega,λt p hp=> ?_⟩;have ht:=(al.1 hp).1;obtain⟨f1,f2⟩:=Lx hp
  have key:∀j,j<xs.length*2->cur[j]? =(xs.flatMap foC)[j]? :=λj hj=>by
   rw[<-h7,dE,if_pos hj];simp
  exact⟨by rw[key _ q0];exact f1,by rw[key _ q0];exact f2,fN p (ax hp)⟩
theorem Hm {M:aE} {g o:Nat} {cs:Array Value} {e:TypeId} {fr:Nat×Nat} {p:Fo} (hg:w.heap[g]? =some (.cells cs e fr)) (hm: ¬M g) (h1:cs[o]? =some (.int .i64 p.1)) (h2:cs[o+1]? =some (.int .i64 p.2)) (ho:R8 p):cG RT.fo M w (.pointer (some ⟨g,o,none⟩)) p:=
 ⟨g,o,[.int .i64 p.1,.int .i64 p.2],rfl,hm,⟨_,_,rfl,⟨rfl,ho.1⟩,⟨rfl,ho.2⟩⟩,λj v hj=>by
  rcases j with _|_|j
  ·simp at hj;subst hj;exact im hg h1
  ·simp at hj;subst hj;exact im hg h2
  ·simp at hj⟩
theorem agH {M:aE} {g cap:Nat} {cs:Array Value} {e:TypeId} {xs:List Fo} (hg:w.heap[g]? =some (.cells cs e (0,0))) (hm: ¬M g) (h:wh cs xs) (hc:xs.length<=cap) (hl:xs.length<=140737488355328):((RT.fo).sl).V M w xs (.slice (some ⟨g,0,none⟩) xs.length cap):=
 iX.2 ⟨_,_,rfl,hc,hl,.inr ⟨g,0,rfl,hm,λt p hp=>by
  obtain⟨h1,h2,h3⟩:=h t p hp;obtain⟨b,o,vs,e1,_,e3,e4⟩:=Hm (M:=M) hg hm h1 h2 h3
  cases e1;refine ⟨vs,e3,λj v hj=> ?_⟩;have:=e4 j v hj;rw[show 0+t*RT.fo.n+j=t*2+j from by show 0+t*2+j=_;omega];exact this⟩⟩
theorem Rg.aa3 {t e:TypeId} {zv:Value} {bytes b o:Nat} {cs:Array Value} {u1 u2:Value} {M:aE} (hi:TI P t zv 2 bytes) (hx:ev L x=some (.pointer (some ⟨b,o,none⟩))) (hy:ev L y=some (.agg #[u1,u2])) (h1:u1.oneCell'=true/\u2.oneCell'=true) (hb:w.heap[b]? =some (.cells cs e (0,0))) (ho:o+2<=cs.size) (hm:M b)
  (k:∀w' sO,w'.heap[b]? =some (.cells sO e (0,0))->sO.size=cs.size->sO[o]? =some u1->sO[o+1]? =some u2->(∀j,j≠o->j≠o+1->sO[j]? =cs[j]?)->Step M w M w' (λk=>k=b)->Rg P r n ops rest L ds w' K):
  Rg P r n ops ({dst:=none,op:= .store t x y,type:=ty,pos,after:=af,guard:=none}::rest) L ds w K:=by
 obtain⟨sO,h2,h3,h4,h5⟩:=nC [u1,u2] w b o cs e (0,0) hb;refine .Wn a06 G G (w.setCells b o [u1,u2]) (λρ hρ=>?_) (k _ sO h2 h3 ?_ ?_ ?_ (h5 M hm))
 ·simp only[execOp,hρ x _ hx,hρ y _ hy];obtain⟨i,BH,_,EX,_⟩:=hi.get
  have:=run_storeAt_mid (P:=P) w b o t #[u1,u2] (λj hj=>by
   have hj':j<2:=by simpa using hj
   exact⟨by rw[im hb (v:=cs[o+j]' q0) (by simp)];rfl,by simp[World.frozen?,hb]⟩) (by simp[BH,EX]) (by simp[h1.1,h1.2])
  simp[this]
 ·rw[h4 o,if_pos ⟨aX _,by simp,by omega⟩];simp
 ·rw[h4 (o+1),if_pos ⟨by omega,by simp,by omega⟩];simp
 ·intro j Yr wR;rw[h4 j,if_neg a13]
theorem Rg.agI {t e:TypeId} {l:Operand} {κ:IntKind} {lo:Int} {g len cap bytes:Nat} {zv:Value} (ht:P.underlying t=some (.slice e)) (LV:TI P e zv 2 bytes) (hx:ev L x=some (.slice (some ⟨g,0,none⟩) len cap)) (hl:ev L l=some (.int κ lo)) (hd:Nat.blt d n=true) (hb:0<=lo/\lo<len) (hc:len<=cap)
  (k:Rg P r n ops rest ((d,.slice (some ⟨g,lo.toNat*2,none⟩) (len-lo.toNat) (cap-lo.toNat))::L) ds w K):
  Rg P r n ops ({dst:=some d,op:= .slice t x (some l) none none,type:=ty,pos,after:=af,guard:=none}::rest) L ds w K:=by
 refine .op a06 G G hd _ w (λρ hρ=>?_) k;simp only[execOp,hρ x _ hx,dq,gE,hρ l _ hl];rw[cB,run_sliceAt_slice _ _ _ _ _ _ (jn ht),run_slice_l _ _ _ _ _ (jn ht) _ _ hb.1 q0,o9 ht,LV.sizeOf];have fw: ¬cap=lo.toNat:=by omega
 simp[sliced,fw,Addr.add_mid]
theorem Rg.agJ {t e:TypeId} {h:Operand} {κ:IntKind} {hi:Int} {g len cap bytes:Nat} {zv:Value} (ht:P.underlying t=some (.slice e)) (LV:TI P e zv 2 bytes) (hx:ev L x=some (.slice (some ⟨g,0,none⟩) len cap)) (hh:ev L h=some (.int κ hi)) (hd:Nat.blt d n=true) (hb:0<=hi/\hi<=cap)
  (k:Rg P r n ops rest ((d,.slice (some ⟨g,0,none⟩) hi.toNat cap)::L) ds w K):
  Rg P r n ops ({dst:=some d,op:= .slice t x none (some h) none,type:=ty,pos,after:=af,guard:=none}::rest) L ds w K:=by
 refine .op a06 G G hd _ w (λρ hρ=>?_) k;simp only[execOp,hρ x _ hx,dq,gE,hρ h _ hh];rw[cB,run_sliceAt_slice _ _ _ _ _ _ (jn ht),run_slice_h _ _ _ _ _ (jn ht) _ _ hb.1 q0,o9 ht,LV.sizeOf];simp[sliced,Addr.add]
theorem J6 {t e:TypeId} {z:Value} {u1 u2:Value} (w:World) (ty:TypeId) (ht:P.underlying t=some (.slice e)) (hv:∀w,(zeroValue e).run P w= .ok z w) (hz:z.cells= #[u1,u2]) (h1:u1.oneCell'=true/\u2.oneCell'=true) (b o n c:Nat) (hn:0<n)
  (hc:∀j,j<n*2->(w.cell? ⟨b,o+j,none⟩).isSome=true) (hf:∀j,j<n*2->w.frozen? ⟨b,o+j,none⟩=false):
  ∃vs:List Value,vs.length=n*2/\(Builtin.clear_ #[t] ty #[.slice (some ⟨b,o,none⟩) n c]).run P w= .ok (.tuple #[]) (w.setCells b o vs):=by
 obtain⟨vs,oe⟩:∃vs,vs=(Builtin.zeroCells z.cells n).toList:=⟨_,rfl⟩;have hl:vs.length=n*2:=by rw[oe,hz];simp[Builtin.zeroCells]
 have tG:∀v∈vs,v.oneCell'=true:=by
  intro v hm;rw[oe,hz]at hm;simp only[Builtin.zeroCells,Array.toList_map,cu]at hm;obtain⟨i,_,rfl⟩:=hm;have:i%2=0\/i%2=1:=by omega
  rcases this with e|e
  ·show(#[u1,u2][i%2]!).oneCell'=true;rw[e];exact h1.1
  ·show(#[u1,u2][i%2]!).oneCell'=true;rw[e];exact h1.2
 have jV:=run_storeCells_cells (P:=P) b o vs 0 w (by simpa[hl]using hc) (by simpa[hl]using hf) tG;simp only[Nat.add_zero]at jV;refine ⟨vs,hl,?_⟩;obtain⟨m,rfl⟩:∃m,n=m+1:=⟨n-1,by omega⟩;simp[Builtin.clear_,run_underlying ht,hv,<-oe,jV]
theorem Rg.aa4 {tt e:TypeId} {bytes g o dl dc:Nat} {zv u1 u2:Value} {cs:Array Value} {M:aE} (ht:P.underlying tt=some (.slice e)) (hi:TI P e zv 2 bytes) (hz:zv.cells= #[u1,u2]) (h1:u1.oneCell'=true/\u2.oneCell'=true) (hx:ev L x=some (.slice (some ⟨g,o,none⟩) dl dc)) (hb:w.heap[g]? =some (.cells cs e (0,0))) (Ic:0<dl) (ho:o+dl*2<=cs.size) (hm:M g)
  (k:∀w' sO,w'.heap[g]? =some (.cells sO e (0,0))->(∀j,j<o->sO[j]? =cs[j]?)->Step M w M w' (λk=>k=g)->Rg P r n ops rest L ds w' K):
  Rg P r n ops ({dst:=none,op:= .call {callee:= .builtin .clear,args:= #[x],argTypes:= #[tt]},type:=ty,pos,after:=af,guard:=none}::rest) L ds w K:=by
 obtain⟨inf,i1,i2,i3,_⟩:=hi.get;obtain⟨vs,hl,gO⟩:=J6 (P:=P) (t:=tt) (e:=e) (z:=zv) w ty ht (λw=>by simp[zeroValue,typeInfo,i1,i2]) hz h1 g o dl dc Ic (λj hj=>by rw[im hb (v:=cs[o+j]' q0) (by simp)];rfl) (λj hj=>by simp[World.frozen?,hb]);obtain⟨sO,h2,h3,h4,h5⟩:=nC vs w g o cs e (0,0) hb;refine .opv a06 G G (.tuple #[]) _ (λρ hρ=>?_) (k _ sO h2 (λj hj=>by rw[h4 j,if_neg q0]) (h5 M hm));simp only[execOp,resolve,gL,dC,jw,hρ x _ hx];simp[Go.invoke,builtin,gO]
end
open Go.Proofs
namespace TKBldJ
theorem FM:TI Tryz.prog 112 (.slice none 0 0) 1 24:=by unfold TI;kernel_rfl
theorem FN:TI Tryz.prog 114 (.agg #[(.slice none 0 0),(.slice none 0 0),(.slice none 0 0),(.slice none 0 0)]) 4 96:=by unfold TI;kernel_rfl
theorem k4:TI Tryz.prog 117 (.slice none 0 0) 1 24:=by unfold TI;kernel_rfl
theorem E48:Enters Tryz.prog 48:=enters Tryz.func48 rfl XT
theorem E49:Enters Tryz.prog 49:=enters Tryz.func49 rfl XT
theorem E50:Enters Tryz.prog 50:=enters Tryz.func50 rfl XT
theorem E51:Enters Tryz.prog 51:=enters Tryz.func51 rfl XT
theorem E52:Enters Tryz.prog 52:=enters Tryz.func52 rfl XT
end TKBldJ
open TKBldJ
set_option maxRecDepth 10000
set_option maxHeartbeats 4000000 in
theorem J7 {M:aE} {L:List En} {v0:Value} (w0:World) (hM:Lt M w0) (hv:(RT.en.sl).V M w0 L v0) (hl:∀e∈L,∀f∈e.1.2,f.1.length<=900000/\f.2.length<=900000) (hn:L.length<=100000) (fN:vW (-1) L=true):
  Spec Tryz.prog 11 #[v0] w0 (λv w=>∃s,v= .tuple #[s,.int .i64 0]/\cG RT.se M w s (uM (gQ L))/\Step M w0 M w ar):=by
 have iz:=hM;have hF:=kK fN
 have hkn:(keysOf L).length<=500000000:=by
  have h1:=(nH L).nodup.length_le_of_subset (l₂:=jN L) (λx hx=>mS.1 hx);have:=xN hF;omega
 have U7:∀k∈keysOf L,k.length<=43:=λk hk=>yD hF k (mS.1 hk)
 refine aS (args:=[_]) (fn:=Tryz.f11) Tryz.func11 G (n:=63) Tryz.ntmps11 ?_;have S:Step M w0 M w0 ar:=aV;refine T.aO (aB G G (Rg.aZ G G (T.aO ?_)));refine aJ G G E48 (QT (Z:=λk=>w0.heap.size<=k) (B:=w0.heap.size) _ hM (aX _) (λk hk=>hk)) (λr1 w1 hc=>?_);obtain⟨M1,b1,rfl,_,iy,s1⟩:=hc;replace iy:=iy.Nf (Z':=λk=>w0.heap.size<=k/\k<w1.heap.size) (λc hc eZ=>⟨hc,eZ⟩);replace hv:=hv.le s1.le;replace hM:=s1.lt hM;have:=S.size;replace S:=S.av s1;refine Rg.aZ G G (T.aO ?_);refine ek M1 FN G (λgH Mv adI adJ oN sy=>?_);obtain⟨PH,As⟩:∃M',M'=ins M1 gH:=⟨_,rfl⟩;rw[<-As]at sy;have Au:PH gH:=by rw[As];exact .inl G
 change Mv.heap[gH]? =some (.cells #[.slice none 0 0,.slice none 0 0,.slice none 0 0,.slice none 0 0] _ _)at oN;replace hv:=hv.le sy.le;replace iy:=iy.bD sy;replace hM:=sy.lt hM;have:=S.size;replace S:=S.av sy;refine ad (aI (T.aO (ab G G (bB ef G hv G (ab G G (ad (aT ?_)))))));refine cR (σ:=Nat×Value×Value) (λq=>[(4,.pointer (some ⟨b1,0,none⟩)),(5,.pointer (some ⟨gH,0,none⟩)),(12,v0),(13,.int .i64 (L.length:Int)),(14,.int .i64 (q.1:Int))]) (λq w=>∃M' words,Lt M' w/\Step M w0 M' w ar/\(RT.en.sl).V M' w L v0/\oZ (ZP w0.heap.size gH q.2.1 q.2.2) M' w w0.heap.size b1 (L.take q.1) words (nK (-1) (L.take q.1))/\w.heap[gH]? =some (.cells #[q.2.1,q.2.2,.slice none 0 0,.slice none 0 0] 114 (0,0))/\M' gH/\Own (RT.int .i64) 3 M' w w0.heap.size q.2.1 ((L.take q.1).map (·.1.1))/\Own (RT.int .i64) 3 M' w w0.heap.size q.2.2 ((L.take q.1).map (·.2))/\kR q.2.1 q.2.2/\0<=words/\words<=500*(q.1:Int)/\q.1<=L.length) (λq=>L.length-q.1) (0,.slice none 0 0,.slice none 0 0) a34 ?_ ?_
 ·exact⟨_,0,hM,S,hv,iy.Nf (Z':=ZP w0.heap.size gH (.slice none 0 0) (.slice none 0 0)) (λc hc eZ=>⟨hc.1,(λh=>by have:=hc.2;omega),(λh=>by cases h),(λh=>by cases h)⟩),oN,Au,eE _ _ _ _ _,eE _ _ _ _ _,kR.nil _,by omega,by omega,bm _⟩
 ·clear hM S hv iy;rintro⟨i,vi,vs⟩ w ⟨M2,words,hM,S,hv,iy,g2,dY,n0,om,U5,hw1,hw2,hi⟩;dsimp only at iy g2 n0 om U5 hw2 hi ⊢;refine T.aO (ck G G G (ad (aI ?_)));refine bI G (λc4=>?_) (λc4=>?_)
  ·refine aR (aI (aT (T.aO ?_)));refine cx ef CM G G G hv b4 q0 (λu5 e MG rS=>?_);rw[aq]at MG;obtain⟨XA,aa5⟩:=RA fN MG;have hem:=ax MG;refine bZ (A:=RT.en) de G CM XT G G G rS b4 (λv5 qK=>?_);obtain⟨hr1,BI⟩:=aax qK;refine jR (A:=RT.en) (M:=M2) CM G G G G G a00 b4 hM (λafm axR vT Hn axS=>?_);have:=ae g2;replace dY:=(Hn.mem _ this).2 dY;replace g2:=Hn.ay g2;replace hv:=hv.le Hn.le;replace n0:=n0.bD Hn;replace om:=om.bD Hn;replace iy:=iy.bD Hn;replace hM:=Hn.lt hM;have:=S.size;replace S:=S.av Hn;refine ad (aI (T.aO (ab G G ?_)));refine bZ (A:=RT.en) de G CM XT G G G vT b4 (λv6 oR=>?_);refine aJ G G E49 (QV (Z:=ZP w0.heap.size gH vi vs) _ hM (λk hk=>⟨by have:=S.size;omega,λh=>by have:=ae g2;omega,λh=>by have:=(n0.base k h).2;omega,λh=>by have:=(om.base k h).2;omega⟩) iy ai2 oR (hl e hem) (λx hx=>hF x (List.mem_of_mem_take hx)) a13 q0) (λr6 w6 hc=>?_);obtain⟨M6,Q9,s6,rfl,_,Yi⟩:=hc;replace iy:=Yi XA;have W8:(uL e).length<=500:=(hF e hem).many;refine aY (v':= .int .i64 0) (by rw[XA]) ?_;replace n0:=n0.step s6 (λc hc h=>h.1.2.2.1 hc);replace om:=om.step s6 (λc hc h=>h.1.2.2.2 hc);replace dY:=(s6.mem _ (ae g2)).2 dY;replace g2:=s6.bL g2 (λh=>h.1.2.1 rfl);replace hv:=hv.le s6.le;replace vT:=vT.le XT s6.le;replace S:=S.cq s6 (λk hk=>hk.1.1);replace hM:=Q9;rw[aa5.symm]at iy;refine Rg.aZ G G (T.aO (ab G G (eR G G G (ad (yK G ((λh=>h rfl)) (aR ?_))))));have g2p:=g2;have agL:=dY;have hvp:=hv;have agM:=iy;have R9:=n0;have Sa:=om;have hMp:=hM;have Sp:=S;obtain⟨P6,hP6⟩:∃P6:Value->World->Prop,P6=λv w'=>Own (RT.int .i64) 3 (mI v) w' w0.heap.size v ((L.take i).map (·.1.1)++[e.1.1])/\(∀c,v.ownBlock=some c->w6.heap.size<=c\/vi.ownBlock=some c):=⟨_,rfl⟩
   have h6:∀{v:Value} {w w':World},P6 v w->Step M6 w M6 w' ar->P6 v w':=λ{v w w'} h s=>by rw[hP6]at h ⊢;exact⟨h.1.Xo s (λ_ _ h=>h),h.2⟩
   apply T.Xn (M:=M6) [0,1,2,3,4,5,6,7,8,9,10,11,13,12,14,15,16] 13 12 37 (.pointer (some ⟨gH,0,none⟩)) [(6,lW vi)] [cw.eq (.pointer (some ⟨gH,0,none⟩)),cw.eq vi,cw.ptr RT.dc e.1,cw.ptr (RT.int .i64) e.1.1,cw.eq (.int .i64 e.1.1),cw.V ((RT.int .i64).sl) [e.1.1],(cw.mk' (λv w=>P6 v w) (λh s=>h6 h s)),cw.eq (.pointer (some ⟨gH,1,none⟩)),cw.eq vs,cw.ptr (RT.int .i64) e.2,cw.eq (.int .i64 e.2),cw.V ((RT.int .i64).sl) [e.2],cw.eq (.pointer (some ⟨gH,0,none⟩))] [] mixed
   ·simp+decide only[Aa,sw,dC,jw,jq,jr,gL,dq,gE,lT,cond_true,cond_false,Nat.reduceBEq,Nat.reduceAdd,beq_self_eq_true];rfl
   ·rfl
   ·rfl
   ·rfl
   ·rfl
   ·rfl
   ·rfl
   ·rfl
   ·rfl
   ·rfl
   ·rfl
   ·rfl
   ·exact λρ w h _=>JM (size:=1) (o:=0) (o':=0) cj G G l4 XT (h (.tmp 5) _ G) w
   ·exact λg hg=>by cases hg
   ·intro p hp b hb;simp only[cU,List.not_mem_nil,or_false]at hp;subst hp;exact n0.mut_ b hb
   ·exact λp hp=>by
     simp only[cU,List.not_mem_nil,or_false]at hp;subst hp;show(6:Nat)≠12;decide
   ·exact si.st (by exact⟨λ_ _ _ _=>trivial,⟨λ_ _ _ _=>trivial,⟨λ_ _ _ _=>trivial,⟨λ_ _ _ _=>trivial,⟨λ_ _ _ _=>trivial,⟨λ_ _ _ _=>trivial,⟨λp hp b hb=>(by simp at hp),⟨λ_ _ _ _=>trivial,⟨λ_ _ _ _=>trivial,⟨λ_ _ _ _=>trivial,⟨λ_ _ _ _=>trivial,⟨λ_ _ _ _=>trivial,⟨λ_ _ _ _=>trivial,trivial⟩⟩⟩⟩⟩⟩⟩⟩⟩⟩⟩⟩⟩)
   intro wR9 sA9;have Sb:=sA9 M6;have:=ae g2;replace dY:=(Sb.mem _ this).2 dY;replace g2:=Sb.ay g2;replace hv:=hv.le Sb.le;replace vT:=vT.le XT Sb.le;replace n0:=n0.bD Sb;replace om:=om.bD Sb;replace iy:=iy.bD Sb;replace hM:=Sb.lt hM;have:=S.size;replace S:=S.av Sb;have g2R:=g2;have agO:=n0;have axV:=om;have hz6:=Sb.size;refine⟨?_,?_⟩
   ·refine az ?_ ?_
    ·intro wD E sD;replace sD:Step M6 _ M6 wD (lW vi):=sD;refine aK (o':=0) cj G G l4 XT G G ?_;exact a02
    refine az ?_ ?_
    ·intro wD E sD;replace sD:Step M6 _ M6 wD ar:=sD;refine aw (aA ao G G G (sD.ay g2R) G ?_);exact a02
    refine az ?_ ?_
    ·intro wD E sD;replace sD:Step M6 _ M6 wD (lW vi):=sD;refine au (M:=M6) (A:=RT.en) (B:=RT.dc) de G G nr XT WO G G XT vT sD.le (λuf sH=>?_);exact a73
    refine az ?_ ?_
    ·intro wD E sD;replace sD:Step M6 _ M6 wD (lW vi):=sD;intro v2 E5;refine au (A:=RT.dc) (B:=RT.int .i64) bh G G I3 XT dc0 G G XT (show cG RT.dc M6 wD v2 e.1 from E5) b4 (λuf sH=>?_);exact a73
    refine az ?_ ?_
    ·intro wD E sD;replace sD:Step M6 _ M6 wD (lW vi):=sD;intro v3 xH;refine bV aj G G (show cG (RT.int .i64) M6 wD v3 e.1.1 from xH) b4 (λmL=>?_);exact a02
    refine az ?_ ?_
    ·intro wD E sD;replace sD:Step M6 _ M6 wD ar:=sD;refine aw ?_;refine fm (A:=RT.int .i64) (hn:=by decide) (M:=M6) ao I3 XT G G (sD.lt hM) (iG hr1) (.inr ⟨G,G⟩) (λuS wS hS sS=>?_);exact ad ⟨G,G,_,G,hS,sS⟩
    refine az ?_ ?_
    ·intro wD E sD;replace sD:Step M6 _ M6 wD ar:=sD;refine aw ?_;intro v5 qK;replace sD:Step M6 wR9 M6 wD ar:=sD;refine Rg.nw (M:=M6) (base:=w0.heap.size) ao I3 rfl rfl rfl rfl (agO.bD sD) (show((RT.int .i64).sl).V M6 wD [e.1.1] v5 from qK) b4 a13 a13 (by have:=sD.size;have:=S.size;omega) (λvA wA hoA sA hFA=>?_);exact ad ⟨G,G,_,G,by show P6 vA wA;rw[hP6];exact⟨hoA.lone,λc hc=>(hFA c hc).elim (λh=> .inl (by have:=sD.size;omega)) .inr⟩,sA.back⟩
    refine az ?_ ?_
    ·intro wD E sD;replace sD:Step M6 _ M6 wD (lW vi):=sD;refine aK (o':=1) cj G G l4 XT G G ?_;exact a02
    refine az ?_ ?_
    ·intro wD E sD;replace sD:Step M6 _ M6 wD (lW vi):=sD;refine aw (aA ao G G G (sD.bL g2R (λh=>agO.fk g2R XT h)) G ?_);exact a02
    refine az ?_ ?_
    ·intro wD E sD;replace sD:Step M6 _ M6 wD (lW vi):=sD;refine au (M:=M6) (A:=RT.en) (B:=RT.int .i64) de G G I3 XT Zl G G XT vT sD.le (λuf sH=>?_);exact a73
    refine az ?_ ?_
    ·intro wD E sD;replace sD:Step M6 _ M6 wD (lW vi):=sD;intro v9 MU;refine bV aj G G (show cG (RT.int .i64) M6 wD v9 e.2 from MU) b4 (λmL=>?_);exact a02
    refine az ?_ ?_
    ·intro wD E sD;replace sD:Step M6 _ M6 wD (lW vi):=sD;refine aw ?_;refine fm (A:=RT.int .i64) (hn:=by decide) (M:=M6) ao I3 XT G G (sD.lt hM) (iG BI) (.inr ⟨G,G⟩) (λuS wS hS sS=>?_);exact ad ⟨G,G,_,G,hS,sS⟩
    refine az ?_ ?_
    ·intro wD E sD;replace sD:Step M6 _ M6 wD (lW vi):=sD;refine aw (aw ?_);intro v2 E5;intro v3 xH;refine aw ?_;intro v5 qK;intro v6 oR;refine aw (aw (aK (o':=0) cj G G l4 XT G G ?_));exact a02
    exact kA
   ·intro Vo wU;replace wU:Step M6 _ M6 Vo (lW vi):=wU;refine aw (aw ?_);intro amb QX;intro axY asW;refine aw ?_;intro axZ asX;intro EC Ly;refine aw (aw ?_);intro ax0 asY;refine aw ?_;intro agP J8;refine aw ?_;replace Ly:P6 EC Vo:=Ly;rw[hP6]at Ly;obtain⟨C0,hb9⟩:=Ly;replace J8:((RT.int .i64).sl).V M6 Vo [e.2] agP:=J8;have sX:Step M6 w6 M6 Vo (lW vi):=(Sb.dF a15 (λb h=>R9.mut_ b h)).trans wU (λb _ h=>h);have aoL:=Sa.step sX (λc hc h=>U5 c h hc);refine Rg.nw (M:=M6) (base:=w0.heap.size) ao I3 rfl rfl rfl rfl aoL J8 b4 a13 a13 (by have:=Sp.size;have:=sX.size;omega) (λv12 H7 aoM jM agQ=>?_)
    have Qv:∀c,EC.ownBlock=some c->vs.ownBlock≠some c:=λc hc hv=>by
     rcases hb9 c hc with h|h
     ·have:=(Sa.base c hv).2;omega
     ·exact U5 c h hv
    have agR:=C0.Xo jM (λc hc h=>Qv c hc h)
    have agS:kR v12 EC:=λc hc VE=>by
     rcases agQ c hc with h|h
     ·have:=(C0.base c VE).2;omega
     ·exact Qv c VE h
    have VD:∀c,v12.ownBlock=some c->w6.heap.size<=c\/vs.ownBlock=some c:=λc hc=>(agQ c hc).elim (λh=> .inl (by have:=sX.size;omega)) .inr
    have sZ:Step M6 w6 (mu M6 v12) H7 (λk=>lW vi k\/lW vs k):=(sX.dF (λ_ h=> .inl h) (λb h=>h.elim (R9.mut_ b) (Sa.mut_ b))).trans jM (λb _ h=> .inr h);obtain⟨M12,aa6⟩:∃M',M'=mu (mu M6 v12) EC:=⟨_,rfl⟩;have sW:Step M6 w6 M12 H7 (λk=>lW vi k\/lW vs k):=by rw[aa6];exact sZ.ans (λc hc=>⟨(agR.base c hc).2,(hb9 c hc).elim .inl (λh=> .inr (.inr (R9.mut_ c h)))⟩)
    have n0:=agR.Pf (M':=M12) (by rw[aa6];exact λb hb=> .inl hb);have om:=aoM.Pf (M':=M12) (by rw[aa6];exact λb hb=> .inr (.inl hb));have dY:=(sW.mem _ (ae g2p)).2 agL;have g2:=sW.bL g2p (λh=>h.elim (R9.fk g2p XT) (Sa.fk g2p XT));have iy:=((agM.Nf (Z':=λk=>ZP w0.heap.size gH vi vs k/\ZP w0.heap.size gH EC v12 k) (λc hc eZ=>⟨hc,hc.1,hc.2.1,λh=>(hb9 c h).elim (λh=>by omega) hc.2.2.1,λh=>(VD c h).elim (λh=>by omega) hc.2.2.2⟩)).step sW (λk hk hz=>hk.elim hz.1.2.2.1 hz.1.2.2.2)).Nf (Z':=ZP w0.heap.size gH EC v12) (λc hc _=>hc.2);have hv:=hvp.le sW.le;have S:=Sp.cq sW (λk hk=>hk.elim (λh=>(R9.base k h).1) (λh=>(Sa.base k h).1));have hM:=sW.lt hMp;refine ad ⟨G,G,λh=>absurd G h,?_⟩;refine ch (M:=M12) l4 rfl rfl g2 rfl (by obtain⟨_,_,he,_⟩:=n0.isSlice;rw[he];rfl) dY (λOi g14 iO=>?_);replace g14:Oi.heap[gH]? =some (.cells #[EC,vs,.slice none 0 0,.slice none 0 0] 114 (0,0)):=g14;replace n0:=n0.step iO (λc hc (h:c=gH)=>n0.fk g2 XT (h▸hc));replace om:=om.step iO (λc hc (h:c=gH)=>om.fk g2 XT (h▸hc));replace dY:=(iO.mem _ (ae g2)).2 dY;replace iy:=iy.step iO (λk (hk:k=gH) hz=>hz.2.1 hk);replace hv:=hv.le iO.le;replace S:=S.cq iO (λk (hk:k=gH)=>by rw[hk];omega);replace hM:=iO.lt hM;clear g2;have g2:=g14;refine ad ⟨G,G,λh=>absurd G h,aK (o':=1) cj G G l4 XT G G (ad ⟨G,G,λh=>absurd G h,?_⟩)⟩;refine ch (M:=M12) l4 rfl rfl g2 rfl (by obtain⟨_,_,he,_⟩:=om.isSlice;rw[he];rfl) dY (λXk g16 JG=>?_);replace g16:Xk.heap[gH]? =some (.cells #[EC,v12,.slice none 0 0,.slice none 0 0] 114 (0,0)):=g16;replace n0:=n0.step JG (λc hc (h:c=gH)=>n0.fk g2 XT (h▸hc));replace om:=om.step JG (λc hc (h:c=gH)=>om.fk g2 XT (h▸hc));replace dY:=(JG.mem _ (ae g2)).2 dY
    replace iy:=iy.step JG (λk (hk:k=gH) hz=>hz.2.1 hk);replace hv:=hv.le JG.le;replace S:=S.cq JG (λk (hk:k=gH)=>by rw[hk];omega);replace hM:=JG.lt hM;clear g2;have g2:=g16;refine ad ⟨G,G,λh=>absurd G h,lH (aN (br G G G q0 (ab G G (ad ?_))))⟩;have et:L.take (i+1)=L.take i++[e]:=by rw[bQ,MG,cH]
    rw[et]at iy;refine⟨G,(i+1,EC,v12),a34,?_,?_⟩
    ·exact⟨_,_,hM,S,hv,by rw[et];exact iy,g2,dY,by rw[et,ed];exact n0,by rw[et,ed];exact om,agS.symm,by omega,by dsimp only;omega,by dsimp only;omega⟩
    ·dsimp only;omega
  ·refine cE (T.aO ?_);have hLi:L.take i=L:=bg q0;rw[hLi]at iy n0 om;refine ab G G ?_;refine aJ G G E50 (Js _ hM iy hF q0) (λrk UB hc=>?_);obtain⟨Cn,pC⟩:=hc;have:=ae g2;replace dY:=(pC.mem _ this).2 dY;replace g2:=pC.ay g2;replace hv:=hv.le pC.le;replace n0:=n0.bD pC;replace om:=om.bD pC;replace iy:=iy.bD pC;replace hM:=pC.lt hM;have:=S.size;replace S:=S.av pC;refine aK (o':=2) cj G G BW XT G G ?_;refine ch (M:=M2) BW G G g2 G (jL Cn G G) dY (λAd dx fT=>?_);change Ad.heap[_]? =some (Obj.cells #[vi,vs,rk,.slice none 0 0] _ _)at dx;have:=ae g2;replace dY:=(fT.mem _ this).2 dY;replace hv:=hv.le fT.le;replace Cn:=Cn.le fT.le;replace n0:=n0.step fT (λc hc (h:c=gH)=>n0.fk g2 XT (h▸hc));replace om:=om.step fT (λc hc (h:c=gH)=>om.fk g2 XT (h▸hc));replace iy:=iy.stepT fT a43;replace hM:=fT.lt hM;have:=S.size;replace S:=S.trans fT (λk hk h=>by have h:_=_:=h;subst h;first|(exfalso;omega)|(show _<=_;omega)|exact⟨by first|omega|assumption,(S.mem _ hk).1 ((fT.mem _ (ae g2)).1 dY)⟩|exact .inl rfl|exact .inr rfl|exact .inr (.inl rfl)|exact .inr (.inr rfl)|exact .inr (.inr (.inl rfl))|exact rfl);have Qd:=dx;clear g2;have g2:=Qd;clear Qd;refine ad (aI (T.aO (aK (o':=2) cj G G BW XT G G (aA aQ G G G g2 G (aY (v':=rk) G (bB aQ G Cn G (ab G G (ad (aT ?_)))))))));refine cR (σ:=Nat×Value) (λq=>[(4,.pointer (some ⟨b1,0,none⟩)),(5,.pointer (some ⟨gH,0,none⟩)),(44,rk),(45,.int .i64 ((keysOf L).length:Int)),(46,.int .i64 (q.1:Int))]) (λq w=>∃M',Lt M' w/\Step M w0 M' w ar/\oZ (ZP w0.heap.size gH vi vs) M' w w0.heap.size b1 L words (nK (-1) L)/\w.heap[gH]? =some (.cells #[vi,vs,rk,q.2] 114 (0,0))/\M' gH/\Own (RT.int .i64) 3 M' w w0.heap.size vi (L.map (·.1.1))/\Own (RT.int .i64) 3 M' w w0.heap.size vs (L.map (·.2))/\Own ((RT.po).sl) 117 M' w w0.heap.size q.2 (((keysOf L).take q.1).map (pk L))/\(RT.str.sl).V M' w (keysOf L) rk/\q.1<=(keysOf L).length) (λq=>(keysOf L).length-q.1) (0,.slice none 0 0) a34 ?_ ?_
   ·exact⟨_,hM,S,iy,g2,dY,n0,om,eE _ _ _ _ _,Cn,bm _⟩
   ·clear hM S iy g2 dY n0 om Cn hv;rintro⟨i3,vl⟩ w ⟨M3,hM,S,iy,g2,dY,n0,om,te,Cn,hi3⟩;dsimp only at g2 te hi3 ⊢;refine T.aO (ck G G G (ad (aI ?_)));refine bI G (λJa=>?_) (λJa=>?_)
    ·refine aR (aI (aT (T.aO ?_)));refine cx aQ I9 G G G Cn b4 q0 (λOu k aa7 ux=>?_);rw[aq]at aa7;refine bM aG G G G G G ux b4 (λvk hvk=>?_);obtain rfl:=eJ hvk;refine Rg.aZ G G ?_;apply T.qa 4 [0,1] 2 ar mixed rfl rfl rfl rfl;intro Z8 Re;have qw:=Re M3;have:=ae g2;replace dY:=(qw.mem _ this).2 dY;replace g2:=qw.ay g2;replace Cn:=Cn.le qw.le;replace n0:=n0.bD qw;replace om:=om.bD qw;replace te:=te.bD qw;replace iy:=iy.bD qw;replace hM:=qw.lt hM;have:=S.size;replace S:=S.av qw;refine aK (o':=3) cj G G FM XT G G (Rg.cI (aA mc G G G (by first|assumption|exact cg qw a00) G (Rg.cI (ab G G (Rg.cI (ab G G (Rg.cI (fB (⟨ik ⟨fC cj G FM XT,⟨eO G g2 (λh=>h),trivial⟩⟩,?_⟩)))))))));have kp:=iR ar Z8;refine aJ G G E51 (Jt (k:=k) _ hM iy hF q0 (by have:=U7 k (ax aa7);omega)) (λr15 Ia hc=>?_);obtain⟨Ib,l7⟩:=hc;have:=ae g2;replace dY:=(l7.mem _ this).2 dY;replace g2:=l7.ay g2;replace Cn:=Cn.le l7.le;replace n0:=n0.bD l7;replace om:=om.bD l7;replace te:=te.bD l7;replace iy:=iy.bD l7;replace hM:=l7.lt hM;have:=S.size;replace S:=S.av l7;refine(fun(kp:fa _ _ _)=>ad ⟨G,G,λ_=>kp,?_⟩) a03;refine fm (A:=((RT.po).sl)) (hn:=by decide) (M:=M3) mc k4 XT G G hM (Ib) (.inr ⟨G,G⟩) (λasZ Xe Bc kh=>?_);have:=ae g2;replace dY:=(kh.mem _ this).2 dY;replace g2:=kh.ay g2;replace Cn:=Cn.le kh.le
     replace Ib:=Ib.le kh.le;replace n0:=n0.bD kh;replace om:=om.bD kh;replace te:=te.bD kh;replace iy:=iy.bD kh;replace hM:=kh.lt hM;have:=S.size;replace S:=S.av kh;refine(fun(kp:fa _ _ _)=>ad ⟨G,G,λ_=>kp,?_⟩) a03;refine dA (M:=M3) (base:=w0.heap.size) mc k4 rfl rfl rfl rfl te Bc b4 a13 a13 (S.size) (λXB agU as0 aa8 tp=>?_);have:=ae g2;replace dY:=(tp.mem _ this).2 dY;replace g2:=tp.bL g2 (λh=>by first|exact te.eT g2 h|exact te.fk g2 XT h|(have:=(te.base _ h).1;omega));replace Cn:=Cn.le tp.le;replace Ib:=Ib.le tp.le;replace Bc:=Bc.le tp.le;replace n0:=n0.step tp (λb h1 h2=>n0.jE te XT h1 h2);replace om:=om.step tp (λb h1 h2=>om.jE te XT h1 h2);replace iy:=iy.stepT tp a43;replace hM:=tp.lt hM;have:=S.size;replace S:=S.eg tp te (aX _);replace te:=aa8;refine ad ⟨G,G,λh=>absurd G h,aK (o':=3) cj G G FM XT G G (ad ⟨G,G,λh=>absurd G h,?_⟩)⟩;refine ch (M:=agU) FM rfl rfl g2 rfl (by obtain⟨_,_,he,_⟩:=te.isSlice;rw[he];rfl) dY (λagV XC rF=>?_);change agV.heap[_]? =some (Obj.cells #[vi,vs,rk,XB] _ _)at XC;have:=ae g2;replace dY:=(rF.mem _ this).2 dY;replace Cn:=Cn.le rF.le;replace Ib:=Ib.le rF.le;replace Bc:=Bc.le rF.le;replace n0:=n0.step rF (λc hc (h:c=gH)=>n0.fk g2 XT (h▸hc));replace om:=om.step rF (λc hc (h:c=gH)=>om.fk g2 XT (h▸hc))
     replace te:=te.step rF (λc hc (h:c=gH)=>te.fk g2 XT (h▸hc));replace iy:=iy.stepT rF a43;replace hM:=rF.lt hM;have:=S.size;replace S:=S.trans rF (λk hk h=>by have h:_=_:=h;subst h;first|(exfalso;omega)|(show _<=_;omega)|exact⟨by first|omega|assumption,(S.mem _ hk).1 ((rF.mem _ (ae g2)).1 dY)⟩|exact .inl rfl|exact .inr rfl|exact .inr (.inl rfl)|exact .inr (.inr rfl)|exact .inr (.inr (.inl rfl))|exact rfl);have Qd:=XC;clear g2;have g2:=Qd;clear Qd;refine ad ⟨G,G,λh=>absurd G h,lH (aN (br G G G q0 (ab G G (ad ?_))))⟩;refine⟨G,(i3+1,XB),a34,?_,?_⟩
     ·exact⟨_,hM,S,iy,g2,dY,n0,om,by rw[bQ,aa7,cH,ed];exact te,Cn,by dsimp only;omega⟩
     ·dsimp only;omega
    ·refine cE (T.aO (eQ (vs:=[vi,vs,rk,vl]) cj G FN G G G g2 ?_));rw[bg q0]at te;have hpa:RT.pa.V M _ (gQ L) _:=al1 (x:=gQ L) (n0.close iz S (by show(L.map _).length<=_;rw[bT];omega)) (om.close iz S (by show(L.map _).length<=_;rw[bT];omega)) (Cn.le (ni iz S)) (te.close iz S (by show((keysOf L).map _).length<=_;rw[bT];omega));replace S:=S.back;replace hM:=S.lt iz;refine aJ G G E52 (JK (p:=gQ L) _ hM hpa (Vz hF q0)) (λr17 w17 hc=>?_);obtain⟨s17,agW,_⟩:=hc;obtain⟨sg,rfl,DZ⟩:=agW (aaw fN q0);replace S:=S.av s17;refine b9 G G G (b9 G G G (aB G G (Rg.aZ G G (aM ?_))));exact eS G G G ⟨sg,G,DZ,S⟩
end Go.K
namespace Go.K
open Go.Proofs
set_option maxRecDepth 10000
theorem xZ {id:Int}:∀(fs:List Fd) (i:Nat) (out:List Fd),nt (id,out)=0->nt (id,oU id i out fs)=0
 |[],_,_,h=>h
 |x::fs,i,out,h=>by
  unfold oU
  split
  ·split
   ·rename_i h1;exact xZ fs _ _ h1
   ·exact xZ fs _ _ h
  ·exact h
theorem pV {id:Int}:∀(fs:List Fd) (i:Nat) (out:List Fd),uj out->uj (oU id i out fs)
 |[],_,_,h=>h
 |x::fs,i,out,h=>by
  unfold oU
  split
  ·rename_i hi
   split
   ·exact pV fs _ _ (h.snoc (AD x hi))
   ·exact pV fs _ _ h
  ·exact h
theorem NG (d:Dc):nt (qd d)=0:=xZ d.2 0 [] rfl
theorem Ho (d:Dc):uj (qd d).2:=pV d.2 0 [] (λx h=>by cases h)
theorem Hp {e:En}:∀{L:List En} {last:Int},vW last (L++[e])=(vW last L&&decide (nV (nK last L) e=0))
 |[],last=>by show(decide (nV last e=0)&&true)=(true&&decide (nV last e=0));rw[kz,cT]
 |x::L,last=>by rw[ov];show(decide (nV last x=0)&&vW x.2 (L++[e]))=(decide (nV last x=0)&&vW x.2 L&&decide (nV (nK x.2 L) e=0));rw[Hp (L:=L),Bool.and_assoc]
theorem Bd {e:En}:∀{L:List En} {last:Int},nK last (L++[e])=e.2
 |[],_=>rfl
 |x::L,last=>by simp only[ov,nK];exact Bd
theorem Hq (l:List Dc) {a s:Int} (ha:0<=a) (hs:1<=s):∀k,vW (-1) (eK l a s k)=true/\nK (-1) (eK l a s k)<a+s*(k:Int)
 |0=>⟨rfl,by show(-1:Int)<_;simp;omega⟩
 |k+1=>by
  obtain⟨h1,h2⟩:=Hq l ha hs k;have e1:a+s*((k+1:Nat):Int)=a+s*(k:Int)+s:=by rw[Int.natCast_add,Int.mul_add];simp;omega
  cases h:l[k]? with
  |none=>rw[AH (List.getElem?_eq_none_iff.1 h),e1];exact⟨h1,by omega⟩
  |some d=>
   rw[AG h,Hp,Bd,h1,e1]
   have:nV (nK (-1) (eK l a s k)) (qd d,a+s*(k:Int))=0:=by
    unfold nV;rw[if_neg (λh=>h (NG d)),if_neg (by show¬(a+s*(k:Int)<=_);omega)]
   exact⟨by rw[this];rfl,by show a+s*(k:Int)<_;omega⟩
theorem Dh {l:List Dc} {a s:Int}:∀{k:Nat} {e:En},e∈eK l a s k->∃d,e.1=qd d
 |0,e,h=>by cases h
 |k+1,e,h=>by
  rw[eK]at h;rcases dN.1 h with h|h
  ·exact Dh h
  ·split at h
   ·rename_i d _;rw[cO.1 h];exact⟨d,G⟩
   ·cases h
theorem uz {l:List Dc} {a s:Int} {k:Nat}:∀e∈eK l a s k,∀f∈e.1.2,f.1.length<=900000/\f.2.length<=900000:=λe he f hf=>by
 obtain⟨d,hd⟩:=Dh he;rw[hd]at hf;have:=Ho d f hf;omega
theorem Sc:words [97]=[[97]]:=by
 have h:fM [97]=[97]:=by rw[pE (by simp)];simp[dec,FP,kq,kf,rR]
 unfold words;rw[h];simp[fU];rfl
end Go.K

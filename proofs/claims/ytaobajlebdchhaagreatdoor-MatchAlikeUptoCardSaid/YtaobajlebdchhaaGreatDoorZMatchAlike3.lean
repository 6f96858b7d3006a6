/- What the law 'MatchAlike' needs of walks and plain Lean, part 3: nothing is assumed beyond the texts that it imports. -/
import Derived.Deep.Draws
import Derived.DeepKeys4
import Derived.Ground.GgzProg
import Derived.Ground.SlgmProg
import Derived.Ground.SlsfProg
import Derived.KernelRfl
import Derived.Lib.Bytealg
import Derived.Shelf.SlGeneric
import Derived.Shelf.SlIter.Nil
import Derived.Shelf.SlIterI.Nil
import Derived.Shelf.SlSortCmp.NoneTotal
import Derived.Shelf.SortM.Plain
import Derived.Shelf.SortM.SortNone
import Derived.Sort.Grow
import Derived.Sort.KeysCollected
import Derived.Sort.Walk0
import Derived.Test.YtaobajlebdchhaaGreatDoorProg
import Derived.Test.YtaobajlebdchhaaGreatDoorZMatchAlike1
import Derived.Test.YtaobajlebdchhaaGreatDoorZMatchAlike2
set_option linter.unusedVariables false
set_option linter.unusedSimpArgs false
theorem fD:type_of% @Go.K.Rg.jj:=@Go.K.Rg.jj
namespace Go.K
open Go.Proofs
set_option maxRecDepth 10000
theorem AU {M:aH} {d:Dc} {v0:Value} (w0:World) (hM:Lt M w0) (hv:RT.dc.V M w0 d v0) (hl:∀f∈d.2,f.1.length<=900000/\f.2.length<=900000):
  Spec Tryz.prog 29 #[v0] w0 (λv w=>v= .int .i64 (mj d)/\Step M w0 M w aE):=by
 have iF:=hM;refine a8 (args:=[_]) (fn:=Tryz.f29) Tryz.func29 G (n:=66) Tryz.ntmps29 ?_;have S:Step M w0 M w0 aE:=aV;refine T.aP ?_;refine fD (A:=RT.dc) G G hM hv G (λu0 w1 dF s0 _=>?_);replace hM:=s0.lt hM;have:=S.size;replace S:=S.ax s0;refine Rg.bg G G (aN (T.aP ?_));refine ar (M:=M) (A:=RT.dc) (B:=(RT.fd).sl) bp G G uJ q0 (Jg) G G q0 Ub (by repeat (first|exact bI _ _|refine aX (bJ Ub) ?_)) (λAe kS=>?_);refine bP (M:=M) bE G G G G G Ub (by repeat (first|exact bI _ _|refine aX (bJ Ub) ?_)) (λyB lR=>?_);refine bN bE G lR G (fU G G G (ad ?_));refine bF G (λc1=>?_) (λc1=>?_)
 ·refine T.aP (Rg.bg G G (aJ ?_));exact aM rfl rfl ⟨by rw[mj,if_pos hV],S.back⟩
 ·refine aR (T.aP (Rg.bg G G (aN (T.aP (Rg.bg G G (aY ?_))))));refine dz (σ:=Nat×Nat) (λq=>[(1,u0),(3,.int .i64 (q.2:Int)),(4,.int .i64 (q.1:Int))]) (λq w=>Lt M w/\Step M w0 M w aE/\cR RT.dc M w u0 d/\mj d=Ad (d.2.take q.1) (d.2.drop q.1) q.2/\q.1<=d.2.length/\q.2<=900001*q.1/\d.2.length<=8) (λq=>d.2.length-q.1) (0,0) a09 ?_ ?_
  ·exact⟨hM,S,dF,by rw[mj,if_neg hV];rfl,bm _,br _,by omega⟩
  ·rintro⟨i,n⟩ w ⟨hM,S,dF,F5,hi,hn,hd8⟩;dsimp only at F5 hi hn ⊢;refine aN (T.aP (ab G G ?_));refine ar (M:=M) (A:=RT.dc) (B:=(RT.fd).sl) bp G G uJ q0 (Jg) G G q0 Ub (by repeat (first|exact bI _ _|refine aX (bJ Ub) ?_)) (λZ5 HR=>?_);refine bP (M:=M) bE G G G G G Ub (by repeat (first|exact bI _ _|refine aX (bJ Ub) ?_)) (λagC Td=>?_);refine bN bE G Td G (cy G G G (ad ?_));refine bF G (λc5=>?_) (λc5=>?_)
   ·refine aR (aN (aY (T.aP ?_)));refine ar (M:=M) (A:=RT.dc) (B:=(RT.fd).sl) bp G G uJ q0 (Jg) G G q0 Ub (by repeat (first|exact bI _ _|refine aX (bJ Ub) ?_)) (λZ6 HS=>?_);refine bP (M:=M) bE G G G G G Ub (by repeat (first|exact bI _ _|refine aX (bJ Ub) ?_)) (λagD Te=>?_);refine ab G G ?_;refine cD bE j3 G G G Te cf hV (λapF x DF alO=>?_);rw[aw]at DF;refine ar (M:=M) (A:=RT.fd) (B:=RT.str) cF G G I9 q0 (KI) G G q0 Ub (by repeat (first|exact bI _ _|refine aX (bJ Ub) ?_)) (λapG Z7=>?_);refine bP aA G G G G G Z7 cf (λapH Z8=>?_);obtain rfl:=ep Z8;have kC:=HQ (n:=n) DF;have xf:=hl _ (ao DF);refine aQ G G E58 (rU x.1 hV _) (λr7 w7 hc=>?_);obtain⟨rfl,rfl⟩:=hc;refine Rg.bg rfl rfl (aN (T.aP (ab rfl rfl (iv rfl rfl (bh (v':= .bool (decide (eA x.1=false))) (by cases eA x.1<;>rfl) (ad ?_))))));refine bF G (λc8=>?_) (λc8=>?_)
    ·refine T.aP (Rg.bg G G (aJ ?_));exact aM rfl rfl ⟨by rw[F5,kC,if_pos Ub],S.back⟩
    ·refine aR (aN (T.aP (Rg.bg G G (aY ?_))));refine dz (σ:=Nat) (λj=>[(1,u0),(3,.int .i64 (n:Int)),(4,.int .i64 (i:Int)),(6,.int .i64 (j:Int))]) (λj w=>Lt M w/\Step M w0 M w aE/\cR RT.dc M w u0 d/\j<=i/\∀k y,k<j->d.2[k]? =some y->y.1≠x.1) (λj=>i-j) 0 Uc ?_ ?_
     ·exact⟨hM,S,dF,bm _,λk c h=>absurd h (fB k)⟩
     ·rintro j w ⟨hM,S,dF,hj,jB⟩;refine aN (T.aP (ab G G (ab G G (cy G G G (ad ?_)))));refine bF G (λJm=>?_) (λJm=>?_)
      ·refine aR (aN (aY (aN ?_)));apply um mixed rfl rfl;intro Mq Vx;have iN:=Vx M;replace dF:=dF.le q0 iN.le;replace hM:=iN.lt hM;have:=S.size;replace S:=S.ax iN;refine ar (M:=M) (A:=RT.dc) (B:=(RT.fd).sl) bp G G uJ q0 (Jg) G G q0 Ub (by repeat (first|exact bI _ _|refine aX (bJ Ub) ?_)) (λalP agE=>?_);refine Rg.dm ?_;refine bP (M:=M) bE G G G G G Ub (by repeat (first|exact bI _ _|refine aX (bJ Ub) ?_)) (λalQ Vy=>?_);refine Rg.dm (ab G G (Rg.dm ?_));refine cD bE j3 G G G Vy cf hV (λTf y F6 fX=>?_);rw[aw]at F6;refine Rg.dm ?_;refine ar (M:=M) (A:=RT.fd) (B:=RT.str) cF G G I9 q0 (KI) G G q0 Ub (by repeat (first|exact bI _ _|refine aX (bJ Ub) ?_)) (λfZ Vz=>?_);refine Rg.dm ?_;refine bP aA G G G G G Vz cf (λHT uO=>?_);obtain rfl:=ep uO;refine Rg.dm ?_;refine ar (M:=M) (A:=RT.dc) (B:=(RT.fd).sl) bp G G uJ q0 (Jg) G G q0 Ub (by repeat (first|exact bI _ _|refine aX (bJ Ub) ?_)) (λTg Mr=>?_);refine Rg.dm ?_;refine bP (M:=M) bE G G G G G Ub (by repeat (first|exact bI _ _|refine aX (bJ Ub) ?_)) (λalR VA=>?_);refine Rg.dm (ab G G (Rg.dm ?_));refine cD bE j3 G G G VA cf hV (λalS z Ms agF=>?_);rw[aw]at Ms;refine Rg.dm ?_;refine ar (M:=M) (A:=RT.fd) (B:=RT.str) cF G G I9 q0 (KI) G G q0 Ub (by repeat (first|exact bI _ _|refine aX (bJ Ub) ?_)) (λagG QZ=>?_)
       refine Rg.dm ?_;refine bP aA G G G G G QZ cf (λagH Q0=>?_);obtain rfl:=ep Q0;refine Rg.dm (Rg.CS (p:=y.1) (q:=z.1) G G G ?_);obtain rfl:x=z:=aK (DF.symm.trans Ms);refine Rg.dm (gm ?_);refine bF G (λJz=>?_) (λJz=>?_)
       ·refine T.aP (Rg.bg G G (aJ ?_));have Mt:((d.2.take i).any λg=>decide (g.1=x.1))=true:=nf.2 ⟨y,ao (i:=j) (by rw[dI,if_pos hV];exact F6),by simpa using Ub⟩;exact aM rfl rfl ⟨by rw[F5,kC,if_neg Ub,if_pos Mt],S.back⟩
       ·refine aR (aL (ab G G (bB G G G hV (Rg.bg G G ?_))));refine⟨G,j+1,Uc,?_,?_⟩
        ·exact⟨hM,S,dF,by omega,λk y' h hc=>by
          rcases cK k j with h2|h2
          ·exact jB k y' h2 hc
          ·obtain rfl:k=j:=by omega
           rw[F6]at hc;cases hc;assumption⟩
        ·omega
      ·refine cQ (T.aP ?_);refine ar (M:=M) (A:=RT.dc) (B:=(RT.fd).sl) bp G G uJ q0 (Jg) G G q0 Ub (by repeat (first|exact bI _ _|refine aX (bJ Ub) ?_)) (λalT agI=>?_);refine bP (M:=M) bE G G G G G Ub (by repeat (first|exact bI _ _|refine aX (bJ Ub) ?_)) (λalU VB=>?_);refine ab G G ?_;refine cD bE j3 G G G VB cf hV (λalV z Mu agJ=>?_);rw[aw]at Mu;refine ar (M:=M) (A:=RT.fd) (B:=RT.str) cF G G I9 q0 (SP) G G q0 Ub (by repeat (first|exact bI _ _|refine aX (bJ Ub) ?_)) (λalW VC=>?_);refine bP aA G G G G G VC cf (λalX VD=>?_);obtain rfl:=ep VD;obtain rfl:x=z:=aK (DF.symm.trans Mu);refine aQ G G E74 (F1 _ hM xf.2) (λr15 F7 hc=>?_);obtain⟨⟨u15,rfl,agK⟩,oy⟩:=hc;replace dF:=dF.le q0 oy.le;replace hM:=oy.lt hM;have:=S.size;replace S:=S.ax oy;refine ab G G (cq G G G (cq G G G (aF G G (Rg.bg G G (aN (T.aP (ab G G (eW G G G (ad ?_)))))))));refine bF G (λFt=>?_) (λFt=>?_)
       ·refine T.aP (ab G G (Rg.bg G G (aJ ?_)))
        have Mt:((d.2.take i).any λg=>decide (g.1=x.1))=false:=fm.2 λh=>by
         obtain⟨y,hy,he⟩:=nf.1 h;obtain⟨k,hk⟩:=bO.1 hy;rw[dI]at hk
         split at hk
         ·exact jB k y hV hk (by simpa using he)
         ·cases hk
        exact aM rfl rfl ⟨by rw[F5,kC,if_neg Ub,if_neg (by rw[Mt];simp),if_pos Ft];rfl,S.back⟩
       ·refine aR (aL (ab G G ?_));have Z4:lQ 0 (words x.2)=0:=Classical.not_not.1 Ft;obtain⟨a,cap,rfl⟩:=agK Z4;have Tc:=nD x.2;refine ab G G (Rg.uE Tryz.underlying154 G G (bB G G G hV (Rg.bg G G (aL (ab G G (bB G G G hV (Rg.bg G G ?_)))))))
        have Mt:((d.2.take i).any λg=>decide (g.1=x.1))=false:=fm.2 λh=>by
         obtain⟨y,hy,he⟩:=nf.1 h;obtain⟨k,hk⟩:=bO.1 hy;rw[dI]at hk
         split at hk
         ·exact jB k y hV hk (by simpa using he)
         ·cases hk
        refine⟨G,(i+1,n+(words x.2).length),a09,?_,?_⟩
        ·exact⟨hM,S,dF,by rw[F5,kC,if_neg Ub,if_neg (by rw[Mt];simp),if_neg Ft],by dsimp only;omega,by dsimp only;omega,hd8⟩
        ·dsimp only;omega
   ·refine cQ (aN (T.aP (ab G G (fU G G G (ad ?_)))));refine bF G (λSV=>?_) (λSV=>?_)
    ·refine T.aP (Rg.bg G G (aJ ?_));exact aM rfl rfl ⟨by rw[F5,tn hV,if_pos hV],S.back⟩
    ·refine aR (T.aP (Rg.bg G G (aJ ?_)));exact aM rfl rfl ⟨by rw[F5,tn hV,if_neg hV],S.back⟩
def DG:List (List UInt8):=[[116],[117],[118],[119]]
def fixF (i:Nat) (x:Fd):Fd:=(if eA x.1=true then x.1 else DG.getD i [],x.2.take 40)
def nG (id:Int):Nat->List Fd->List Fd->List Fd
 |_,out,[]=>out
 |i,out,x::fs=>if i<4 then(if mj (id,out++[fixF i x])=0 then nG id (i+1) (out++[fixF i x]) fs else nG id (i+1) out fs)else out
def oX (d:Dc):Dc:=(d.1,nG d.1 0 [] d.2)
def rW (l:List Fd):Prop:=∀x∈l,x.1.length<=12/\x.2.length<=40
theorem DH {s:List UInt8} (h:eA s=true):s.length<=12:=by
 simp only[eA,b7,decide_eq_true_eq]at h;omega
theorem yD {i:Nat} (x:Fd) (hi:i<4):(fixF i x).1.length<=12/\(fixF i x).2.length<=40:=by
 refine⟨?_,by simp only[fixF,a7];omega⟩;unfold fixF;dsimp only
 split
 ·exact DH Ub
 ·have h:i=0\/i=1\/i=2\/i=3:=by omega
  rcases h with rfl|rfl|rfl|rfl<;>decide
theorem rW.snoc {l:List Fd} {x:Fd} (h:rW l) (hx:x.1.length<=12/\x.2.length<=40):rW (l++[x]):=λy hy=>by
 rcases dw.1 hy with hy|hy
 ·exact h y hy
 ·rw[cO.1 hy];exact hx
theorem Mv {id:Int} {fs:List Fd} {i:Nat} {out:List Fd} {x:Fd} (h:fs[i]? =some x) (hi:i<4):nG id i out (fs.drop i)=if mj (id,out++[fixF i x])=0 then nG id (i+1) (out++[fixF i x]) (fs.drop (i+1))else nG id (i+1) out (fs.drop (i+1)):=by
 have eK:=(al.1 h).1;rw[eR eK,(al.1 h).2];show(if i<4 then _ else _)=_;rw[if_pos hi]
theorem AV {id:Int} {fs:List Fd} {i:Nat} {out:List Fd} (h:fs.length<=i\/4<=i):nG id i out (fs.drop i)=out:=by
 cases hd:fs.drop i with
 |nil=>rfl
 |cons x r=>
  show(if i<4 then _ else _)=_;rw[if_neg];rcases h with h|h
  ·rw[iV h]at hd;cases hd
  ·omega
theorem DI (l:List UInt8):l.take (min (l.length:Int) 40).toNat=l.take 40:=by
 by_cases h:l.length<=40
 ·rw[bD hV,bD h]
 ·congr 1;omega
theorem JA {M:aH} {d:Dc} {v0:Value} (w0:World) (hM:Lt M w0) (hv:RT.dc.V M w0 d v0):
  Spec Tryz.prog 47 #[v0] w0 (λv w=>RT.dc.V M w (oX d) v/\Step M w0 M w aE):=by
 have iF:=hM
 have hdi: -9223372036854775808<=d.1/\d.1<=9223372036854775807:=by
  obtain⟨vs,⟨va,vb,_,⟨_,h1,h2⟩,_⟩,_⟩:=hv;exact⟨h1,h2⟩
 refine a8 (args:=[_]) (fn:=Tryz.f47) Tryz.func47 G (n:=67) Tryz.ntmps47 ?_;have S:Step M w0 M w0 aE:=aV;refine T.aP ?_;refine fD (A:=RT.dc) G G hM hv G (λu0 w1 dF s0 _=>?_);replace hM:=s0.lt hM;have:=S.size;replace S:=S.ax s0;refine ec M om G (λfW rX F8 F9 cw ib=>?_);obtain⟨eU,gr⟩:∃M',M'=ins M fW:=⟨_,rfl⟩;rw[<-gr]at ib;have bV:eU fW:=by rw[gr];exact .inl G
 change rX.heap[fW]? =some (.cells #[.int .i64 0,.slice none 0 0] _ _)at cw;replace dF:=dF.le q0 ib.le;replace hM:=ib.lt hM;have:=S.size;replace S:=S.ax ib;refine ad (T.aP ?_);refine ar (M:=eU) (A:=RT.dc) (B:=RT.int .i64) bp G G I3 q0 (Zi) G G q0 Ub (by repeat (first|exact bI _ _|refine aX (bJ Ub) ?_)) (λAe kS=>?_);refine b4 (M:=eU) ak G G Ub (by repeat (first|exact bI _ _|refine aX (bJ Ub) ?_)) (λTh=>?_);refine dg (places:=[(0,1),(1,1)]) bp om B72 rfl ⟨_,_,rfl,rfl,rfl⟩ (out:=[_,.slice none 0 0]) ⟨0,[_],rfl,rfl,by simp[Value.cells],rfl⟩ ?_;refine ec eU om G (λwO Jq agL agM j4 s1_3=>?_);obtain⟨mG,yE⟩:∃M',M'=ins eU wO:=⟨_,rfl⟩;rw[<-yE]at s1_3;have jC:mG wO:=by rw[yE];exact .inl G
 change Jq.heap[wO]? =some (.cells #[.int .i64 0,.slice none 0 0] _ _)at j4;have:=ae cw;replace bV:=(s1_3.mem _ this).2 bV;replace cw:=s1_3.aB cw;replace dF:=dF.le q0 s1_3.le;replace hM:=s1_3.lt hM;have:=S.size;replace S:=S.ax s1_3;refine cM (M:=mG) (vs:=[.int .i64 d.1,.slice none 0 0]) om G G a14 rfl rfl j4 jC (λw1b agN VE=>?_);have:=ae cw;replace bV:=(VE.mem _ this).2 bV;replace cw:=VE.bR cw a03;have:=ae j4;replace jC:=(VE.mem _ this).2 jC;replace dF:=dF.le q0 VE.le;replace hM:=VE.lt hM;have:=S.size;replace S:=S.trans VE (λk hk h=>by have h:_=_:=h;subst h;first|(exfalso;omega)|(show _<=_;omega)|exact⟨by first|omega|assumption,(S.mem _ hk).1 ((VE.mem _ (ae j4)).1 jC)⟩|exact .inl rfl|exact .inr rfl|exact .inr (.inl rfl)|exact .inr (.inr rfl)|exact .inr (.inr (.inl rfl))|exact rfl);have DJ:=agN;clear j4;have j4:=DJ;clear DJ;refine ad (T.aP ?_);refine Rg.K3 (A:=RT.str) (hn:=by decide) (M:=mG) (xs:=DG) aD I9 G q0 rfl ⟨_,_,_,rfl,rfl,rfl,lu.2 ⟨rfl,by decide⟩,_,_,_,rfl,rfl,rfl,lu.2 ⟨rfl,by decide⟩,_,_,_,rfl,rfl,rfl,lu.2 ⟨rfl,by decide⟩,_,_,_,rfl,rfl,rfl,lu.2 ⟨rfl,by decide⟩,rfl⟩ rfl hM (.inr ⟨rfl,rfl⟩) q0 (λu2 w2 dS s2=>?_);have:=ae cw;replace bV:=(s2.mem _ this).2 bV;replace cw:=s2.aB cw;have:=ae j4;replace jC:=(s2.mem _ this).2 jC;replace j4:=s2.aB j4;replace dF:=dF.le q0 s2.le;replace hM:=s2.lt hM;have:=S.size;replace S:=S.ax s2;refine Rg.bg G G (aN (T.aP (Rg.bg G G (aY ?_))));refine dz (σ:=Nat×List Fd) (λq=>[(1,u0),(2,.pointer (some ⟨fW,0,none⟩)),(3,.pointer (some ⟨wO,0,none⟩)),(4,u2),(5,.int .i64 (q.1:Int))]) (λq w=>∃M' uo,Lt M' w/\Step M w0 M' w aE/\cR RT.dc M' w u0 d/\(RT.str.sl).V M' w DG u2/\w.heap[fW]? =some (.cells #[.int .i64 0,.slice none 0 0] 72 (0,0))/\M' fW/\w.heap[wO]? =some (.cells #[.int .i64 d.1,uo] 72 (0,0))/\M' wO/\(RT.fd.sl).V M' w q.2 uo/\nG d.1 0 [] d.2=nG d.1 q.1 q.2 (d.2.drop q.1)/\q.1<=d.2.length/\q.1<=4/\rW q.2/\q.2.length<=q.1) (λq=>d.2.length-q.1) (0,[]) a65 ?_ ?_
 ·exact⟨_,.slice none 0 0,hM,S,dF,dS,cw,bV,j4,jC,ij,G,bm _,bm _,(λx hx=>by cases hx),br _⟩
 ·rintro⟨i,out⟩ w ⟨M1,uo,hM,S,dF,dS,g2,dP,g3,fg,iu,vX,hi,agO,BD,re⟩;dsimp only at g3 iu vX hi agO BD re ⊢;refine aN (T.aP (ab G G ?_));refine ar (M:=M1) (A:=RT.dc) (B:=(RT.fd).sl) bp G G uJ q0 (Jg) G G q0 Ub (by repeat (first|exact bI _ _|refine aX (bJ Ub) ?_)) (λZY Ti=>?_);refine bP (M:=M1) bE G G G G G Ub (by repeat (first|exact bI _ _|refine aX (bJ Ub) ?_)) (λapJ Z9=>?_);refine bN bE G Z9 G (cy G G G (ab G G ?_));refine aO (g:=18) G (λVF=>?_) (λVF=>?_)
  ·refine ah G G (ab G G (ah G G (cy G G G (aU G G G (ad ?_)))));refine bF G (λc4=>?_) (λc4=>?_)
   ·refine aR (aN (aY (T.aP ?_)));refine ar (M:=M1) (A:=RT.dc) (B:=(RT.fd).sl) bp G G uJ q0 (Jg) G G q0 Ub (by repeat (first|exact bI _ _|refine aX (bJ Ub) ?_)) (λVG DK=>?_);refine bP (M:=M1) bE G G G G G Ub (by repeat (first|exact bI _ _|refine aX (bJ Ub) ?_)) (λVH yF=>?_);refine ab G G ?_;refine cD bE j3 G G G yF cf hV (λu6 x KK kZ=>?_);rw[aw]at KK;have hi4:i<4:=by omega
    have hga:=Mv (id:=d.1) (out:=out) KK hi4;have Tj:=yD x hi4;refine cv (A:=RT.fd) cF G j3 q0 G G G kZ cf (λv6 p9=>?_);obtain rfl:=kh p9;have Mw:=Vv p9;refine ec M1 j3 G (λVI aaa apK apL dW rY=>?_);obtain⟨nH,Mx⟩:∃M',M'=ins M1 VI:=⟨_,rfl⟩;rw[<-Mx]at rY;have dy:nH VI:=by rw[Mx];exact .inl G
    change aaa.heap[VI]? =some (.cells #[.string ⟨#[]⟩,.string ⟨#[]⟩] _ _)at dW;have:=ae g2;replace dP:=(rY.mem _ this).2 dP;replace g2:=rY.aB g2;have:=ae g3;replace fg:=(rY.mem _ this).2 fg;replace g3:=rY.aB g3;replace dF:=dF.le q0 rY.le;replace dS:=dS.le rY.le;replace iu:=iu.le rY.le;replace hM:=rY.lt hM;have:=S.size;replace S:=S.ax rY;refine cM (M:=nH) (vs:=[.string ⟨x.1.toArray⟩,.string ⟨x.2.toArray⟩]) j3 G G a14 rfl rfl dW dy (λw6b agP My=>?_);have:=ae g2;replace dP:=(My.mem _ this).2 dP;replace g2:=My.bR g2 a03;have:=ae g3;replace fg:=(My.mem _ this).2 fg;replace g3:=My.bR g3 a03;have:=ae dW;replace dy:=(My.mem _ this).2 dy;replace dF:=dF.le q0 My.le;replace dS:=dS.le My.le;replace iu:=iu.le My.le;replace hM:=My.lt hM;have:=S.size;replace S:=S.trans My (λk hk h=>by have h:_=_:=h;subst h;first|(exfalso;omega)|(show _<=_;omega)|exact⟨by first|omega|assumption,(S.mem _ hk).1 ((My.mem _ (ae dW)).1 dy)⟩|exact .inl rfl|exact .inr rfl|exact .inr (.inl rfl)|exact .inr (.inr rfl)|exact .inr (.inr (.inl rfl))|exact rfl);have qa:=agP;clear dW;have dW:=qa;clear qa;refine ad (T.aP (aT (o':=0) cF G G I9 q0 G G (aG aA G G G Ub G ?_)));refine aQ G G E58 (rU x.1 Mw.1 _) (λr7 w7 hc=>?_);obtain⟨rfl,rfl⟩:=hc;refine Rg.bg rfl rfl (aN (T.aP (ab rfl rfl (iv rfl rfl (bh (v':= .bool (decide (eA x.1=false))) (by cases eA x.1<;>rfl) (ad ?_))))));refine bF G (λc8=>?_) (λc8=>?_)
    ·refine aL (ab G G (ab G G ?_));refine cD aD I9 rfl rfl rfl dS cf (by have:DG.length=4:=rfl;omega) (λu9 y Tk hu9=>?_);rw[aw]at Tk;refine bP aA G G G G G hu9 cf (λv9 JB=>?_);obtain rfl:=ep JB
     obtain rfl:y=(fixF i x).1:=by
      show y=if eA x.1=true then x.1 else DG.getD i []
      rw[if_neg (by rw[c8];simp),cu,Tk];rfl
     refine aT (o':=0) cF G G I9 q0 G G ?_;refine cg (M:=nH) I9 G G dW G (G) dy (λZZ aab p8=>?_);change ZZ.heap[_]? =some (Obj.cells #[.string ⟨((fixF i x).1).toArray⟩,.string ⟨x.2.toArray⟩] _ _)at aab;have:=ae g2;replace dP:=(p8.mem _ this).2 dP;replace g2:=p8.bR g2 a03;have:=ae g3;replace fg:=(p8.mem _ this).2 fg;replace g3:=p8.bR g3 a03;have:=ae dW;replace dy:=(p8.mem _ this).2 dy;replace dF:=dF.le q0 p8.le;replace dS:=dS.le p8.le;replace iu:=iu.le p8.le;replace hM:=p8.lt hM;have:=S.size;replace S:=S.trans p8 (λk hk h=>by have h:_=_:=h;subst h;first|(exfalso;omega)|(show _<=_;omega)|exact⟨by first|omega|assumption,(S.mem _ hk).1 ((p8.mem _ (ae dW)).1 dy)⟩|exact .inl rfl|exact .inr rfl|exact .inr (.inl rfl)|exact .inr (.inr rfl)|exact .inr (.inr (.inl rfl))|exact rfl);have qa:=aab;clear dW;have dW:=qa;clear qa;refine ad (T.aP (aT (o':=1) cF G G I9 q0 G G (aG aA G G G Ub G (aT (o':=1) cF G G I9 q0 G G (aG aA G G G Ub G (rp aA G G (bh (v':= .int .i64 (x.2.length:Int)) a71 (Rg.min2 G G G (Rg.SO aA G G G hV (bh (v':= .string ⟨((fixF i x).2).toArray⟩) (by rw[DI];rfl) ?_))))))))));refine aT (o':=1) cF G G I9 q0 G G ?_;refine cg (M:=nH) I9 G G dW G (G) dy (λHP DL gy=>?_);change HP.heap[_]? =some (Obj.cells #[.string ⟨((fixF i x).1).toArray⟩,.string ⟨((fixF i x).2).toArray⟩] _ _)at DL;have:=ae g2;replace dP:=(gy.mem _ this).2 dP;replace g2:=gy.bR g2 a03
     have:=ae g3;replace fg:=(gy.mem _ this).2 fg;replace g3:=gy.bR g3 a03;have:=ae dW;replace dy:=(gy.mem _ this).2 dy;replace dF:=dF.le q0 gy.le;replace dS:=dS.le gy.le;replace iu:=iu.le gy.le;replace hM:=gy.lt hM;have:=S.size;replace S:=S.trans gy (λk hk h=>by have h:_=_:=h;subst h;first|(exfalso;omega)|(show _<=_;omega)|exact⟨by first|omega|assumption,(S.mem _ hk).1 ((gy.mem _ (ae dW)).1 dy)⟩|exact .inl rfl|exact .inr rfl|exact .inr (.inl rfl)|exact .inr (.inr rfl)|exact .inr (.inr (.inl rfl))|exact rfl);have qa:=DL;clear dW;have dW:=qa;clear qa;refine ad (T.aP ?_);refine ar (M:=nH) (A:=RT.dc) (B:=RT.int .i64) bp G G I3 q0 (Zi) G G q0 Ub (by repeat (first|exact bI _ _|refine aX (bJ Ub) ?_)) (λTl MA=>?_);refine b4 (M:=nH) ak G G Ub (by repeat (first|exact bI _ _|refine aX (bJ Ub) ?_)) (λVJ=>?_);refine dg (places:=[(0,1),(1,1)]) bp om B72 rfl ⟨_,_,rfl,rfl,rfl⟩ (out:=[_,.slice none 0 0]) ⟨0,[_],rfl,rfl,by simp[Value.cells],rfl⟩ ?_;refine ec nH om G (λyG DM aac aad dn fN=>?_);obtain⟨rZ,tp⟩:∃M',M'=ins nH yG:=⟨_,rfl⟩;rw[<-tp]at fN;have dh:rZ yG:=by rw[tp];exact .inl G
     change DM.heap[yG]? =some (.cells #[.int .i64 0,.slice none 0 0] _ _)at dn;have:=ae g2;replace dP:=(fN.mem _ this).2 dP;replace g2:=fN.aB g2;have:=ae g3;replace fg:=(fN.mem _ this).2 fg;replace g3:=fN.aB g3;have:=ae dW;replace dy:=(fN.mem _ this).2 dy;replace dW:=fN.aB dW;replace dF:=dF.le q0 fN.le;replace dS:=dS.le fN.le;replace iu:=iu.le fN.le;replace hM:=fN.lt hM;have:=S.size;replace S:=S.ax fN;refine cM (M:=rZ) (vs:=[.int .i64 d.1,.slice none 0 0]) om G G a14 rfl rfl dn dh (λB9 MB ki=>?_);have:=ae g2;replace dP:=(ki.mem _ this).2 dP;replace g2:=ki.bR g2 a03;have:=ae g3;replace fg:=(ki.mem _ this).2 fg;replace g3:=ki.bR g3 a03;have:=ae dW;replace dy:=(ki.mem _ this).2 dy;replace dW:=ki.bR dW a03;have:=ae dn;replace dh:=(ki.mem _ this).2 dh;replace dF:=dF.le q0 ki.le;replace dS:=dS.le ki.le;replace iu:=iu.le ki.le;replace hM:=ki.lt hM;have:=S.size;replace S:=S.trans ki (λk hk h=>by have h:_=_:=h;subst h;first|(exfalso;omega)|(show _<=_;omega)|exact⟨by first|omega|assumption,(S.mem _ hk).1 ((ki.mem _ (ae dn)).1 dh)⟩|exact .inl rfl|exact .inr rfl|exact .inr (.inl rfl)|exact .inr (.inr rfl)|exact .inr (.inr (.inl rfl))|exact rfl);have jb:=MB;clear dn;have dn:=jb;clear jb;refine ad (T.aP (aT (o':=1) bp G G uJ q0 G G (aG bE G G G Ub G (aT (o':=1) bp G G uJ q0 G G (aG bE G G G Ub G ?_)))));have dN:=Own.SR RT.fd 153 B9.heap.size hM
     have agR:=ae dW;have MC:w0.heap.size<=B9.heap.size:=S.size;refine dH (M:=rZ) (base:=B9.heap.size) bE j3 rfl rfl rfl rfl dN iu cf a08 a08 (br _) (λyy p6 Mf rT ff=>?_);have:=ae g2;replace dP:=(ff.mem _ this).2 dP;replace g2:=ff.bR g2 (λh=>by first|exact dN.eD g2 h|exact dN.fx g2 q0 h|(have:=(dN.base _ h).1;omega));have:=ae g3;replace fg:=(ff.mem _ this).2 fg;replace g3:=ff.bR g3 (λh=>by first|exact dN.eD g3 h|exact dN.fx g3 q0 h|(have:=(dN.base _ h).1;omega));have:=ae dW;replace dy:=(ff.mem _ this).2 dy;replace dW:=ff.bR dW (λh=>by first|exact dN.eD dW h|exact dN.fx dW q0 h|(have:=(dN.base _ h).1;omega));have:=ae dn;replace dh:=(ff.mem _ this).2 dh;replace dn:=ff.bR dn (λh=>by first|exact dN.eD dn h|exact dN.fx dn q0 h|(have:=(dN.base _ h).1;omega));replace dF:=dF.le q0 ff.le;replace dS:=dS.le ff.le;replace iu:=iu.le ff.le;replace hM:=ff.lt hM;have:=S.size;replace S:=S.dR ff dN MC;replace dN:=rT;refine aT (o':=1) bp G G uJ q0 G G ?_;refine cg (M:=p6) uJ rfl rfl dn rfl (ad2) dh (λMD DN gu=>?_);change MD.heap[_]? =some (Obj.cells #[.int .i64 d.1,yy] _ _)at DN;have:=ae g2;replace dP:=(gu.mem _ this).2 dP;replace g2:=gu.bR g2 a03;have:=ae g3;replace fg:=(gu.mem _ this).2 fg;replace g3:=gu.bR g3 a03;have:=ae dW;replace dy:=(gu.mem _ this).2 dy;replace dW:=gu.bR dW a03;have:=ae dn;replace dh:=(gu.mem _ this).2 dh;replace dF:=dF.le q0 gu.le
     replace dS:=dS.le gu.le;replace iu:=iu.le gu.le;replace dN:=dN.step gu (λb hb hk=>by have hk:_=_:=hk;have:=(dN.base b hb);omega);replace hM:=gu.lt hM;have:=S.size;replace S:=S.trans gu (λk hk h=>by have h:_=_:=h;subst h;first|(exfalso;omega)|(show _<=_;omega)|exact⟨by first|omega|assumption,(S.mem _ hk).1 ((gu.mem _ (ae dn)).1 dh)⟩|exact .inl rfl|exact .inr rfl|exact .inr (.inl rfl)|exact .inr (.inr rfl)|exact .inr (.inr (.inl rfl))|exact rfl);have jb:=DN;clear dn;have dn:=jb;clear jb;refine ad (T.aP (aT (o':=1) bp G G uJ q0 G G (aG bE G G G Ub G (eC (vs:=[.string ⟨((fixF i x).1).toArray⟩,.string ⟨((fixF i x).2).toArray⟩]) cF G j3 G G G dW ?_))));refine fp (A:=RT.fd) (hn:=by decide) (M:=p6) bE j3 q0 G G hM (show RT.fd.V _ _ (fixF i x) _ from fw (lu.2 ⟨G,du Tj.1 q0⟩) (lu.2 ⟨G,du Tj.2 q0⟩) G G G G) (.inl G) (λTf aae fX gv=>?_);have:=ae g2;replace dP:=(gv.mem _ this).2 dP;replace g2:=gv.aB g2;have:=ae g3;replace fg:=(gv.mem _ this).2 fg;replace g3:=gv.aB g3;have:=ae dW;replace dy:=(gv.mem _ this).2 dy;replace dW:=gv.aB dW;have:=ae dn;replace dh:=(gv.mem _ this).2 dh;replace dn:=gv.aB dn;replace dF:=dF.le q0 gv.le;replace dS:=dS.le gv.le;replace iu:=iu.le gv.le;replace dN:=dN.bM gv;replace hM:=gv.lt hM;have:=S.size;replace S:=S.ax gv;refine dH (M:=p6) (base:=B9.heap.size) bE j3 rfl rfl rfl rfl dN fX cf a08 a08 (by have:=ff.size;have:=gu.size;have:=gv.size;omega) (λfZ lT aaf Ga gN=>?_);have:=ae g2;replace dP:=(gN.mem _ this).2 dP
     replace g2:=gN.bR g2 (λh=>by first|exact dN.eD g2 h|exact dN.fx g2 q0 h|(have:=(dN.base _ h).1;omega));have:=ae g3;replace fg:=(gN.mem _ this).2 fg;replace g3:=gN.bR g3 (λh=>by first|exact dN.eD g3 h|exact dN.fx g3 q0 h|(have:=(dN.base _ h).1;omega));have:=ae dW;replace dy:=(gN.mem _ this).2 dy;replace dW:=gN.bR dW (λh=>by first|exact dN.eD dW h|exact dN.fx dW q0 h|(have:=(dN.base _ h).1;omega));have:=ae dn;replace dh:=(gN.mem _ this).2 dh;replace dn:=gN.bR dn (λh=>by first|exact dN.eD dn h|exact dN.fx dn q0 h|(have:=(dN.base _ h).1;omega));replace dF:=dF.le q0 gN.le;replace dS:=dS.le gN.le;replace iu:=iu.le gN.le;replace fX:=fX.le gN.le;replace hM:=gN.lt hM;have:=S.size;replace S:=S.dR gN dN MC;replace dN:=Ga;refine aT (o':=1) bp G G uJ q0 G G ?_;refine cg (M:=lT) uJ rfl rfl dn rfl (ad2) dh (λME DO gw=>?_);change ME.heap[_]? =some (Obj.cells #[.int .i64 d.1,fZ] _ _)at DO;have:=ae g2;replace dP:=(gw.mem _ this).2 dP;replace g2:=gw.bR g2 a03;have:=ae g3;replace fg:=(gw.mem _ this).2 fg;replace g3:=gw.bR g3 a03;have:=ae dW;replace dy:=(gw.mem _ this).2 dy;replace dW:=gw.bR dW a03;have:=ae dn;replace dh:=(gw.mem _ this).2 dh;replace dF:=dF.le q0 gw.le;replace dS:=dS.le gw.le;replace iu:=iu.le gw.le;replace fX:=fX.le gw.le;replace dN:=dN.step gw (λb hb hk=>by have hk:_=_:=hk;have:=(dN.base b hb);omega);replace hM:=gw.lt hM;have:=S.size;replace S:=S.trans gw (λk hk h=>by have h:_=_:=h;subst h;first|(exfalso;omega)|(show _<=_;omega)|exact⟨by first|omega|assumption,(S.mem _ hk).1 ((gw.mem _ (ae dn)).1 dh)⟩|exact .inl rfl|exact .inr rfl|exact .inr (.inl rfl)|exact .inr (.inr rfl)|exact .inr (.inr (.inl rfl))|exact rfl)
     have jb:=DO;clear dn;have dn:=jb;clear jb;refine ad (T.aP (eC (vs:=[.int .i64 d.1,fZ]) bp G om G G G dn ?_));have xj:=dN.view (hn:=by decide) a08;replace dP:rm lT fZ _:=⟨dP,by first|exact dN.fx g2 q0|(intro h;have:=(dN.base _ h).1;omega)⟩;replace fg:rm lT fZ _:=⟨fg,by first|exact dN.fx g3 q0|(intro h;have:=(dN.base _ h).1;omega)⟩;replace dy:rm lT fZ _:=⟨dy,by first|exact dN.fx dW q0|(intro h;have:=(dN.base _ h).1;omega)⟩;replace dh:rm lT fZ _:=⟨dh,by first|exact dN.fx dn q0|(intro h;have:=(dN.base _ h).1;omega)⟩;replace dF:=dF.le q0 (sJ _ fZ _);replace dS:=dS.le (sJ _ fZ _);replace iu:=iu.le (sJ _ fZ _);replace fX:=fX.le (sJ _ fZ _);replace hM:Lt (rm lT fZ) _:=λb hb=>hM b hb.1
     replace S:=S.freeze (v:=fZ) (λb hb=>by have:=(dN.base b hb).1;omega);clear dN;refine aQ G G E29 (AU (d:=(d.1,[]++out++[fixF i x])) _ hM (fw (gV hdi) xj G G G G) (λy hy=>by have:=(BD.snoc Tj) y (by simpa using hy);omega)) (λr14 MF hc=>?_);obtain⟨rfl,jn⟩:=hc;rw[iH]at xj;have:=ae g2;replace dP:=(jn.mem _ this).2 dP;replace g2:=jn.aB g2;have:=ae g3;replace fg:=(jn.mem _ this).2 fg;replace g3:=jn.aB g3;have:=ae dW;replace dy:=(jn.mem _ this).2 dy;replace dW:=jn.aB dW;have:=ae dn;replace dh:=(jn.mem _ this).2 dh;replace dn:=jn.aB dn;replace dF:=dF.le q0 jn.le;replace dS:=dS.le jn.le;replace iu:=iu.le jn.le;replace fX:=fX.le jn.le;replace xj:=xj.le jn.le;replace hM:=jn.lt hM;have:=S.size;replace S:=S.ax jn;refine ic G G G (bh (v':= .bool (decide (mj (d.1,out++[fixF i x])=0))) (by rw[iH]) (ad ?_));refine bF G (λJC=>?_) (λJC=>?_)
     ·refine aL (eC (vs:=[.int .i64 d.1,fZ]) bp G om G G G dn ?_);refine cM (M:=rm lT fZ) (vs:=[.int .i64 d.1,fZ]) om G G a14 rfl rfl g3 fg (λagS MG jD=>?_);have:=ae g2;replace dP:=(jD.mem _ this).2 dP;replace g2:=jD.bR g2 a03;have:=ae g3;replace fg:=(jD.mem _ this).2 fg;have:=ae dW;replace dy:=(jD.mem _ this).2 dy;replace dW:=jD.bR dW a03;have:=ae dn;replace dh:=(jD.mem _ this).2 dh;replace dn:=jD.bR dn a03;replace dF:=dF.le q0 jD.le;replace dS:=dS.le jD.le;replace iu:=iu.le jD.le;replace fX:=fX.le jD.le;replace xj:=xj.le jD.le;replace hM:=jD.lt hM;have:=S.size;replace S:=S.trans jD (λk hk h=>by have h:_=_:=h;subst h;first|(exfalso;omega)|(show _<=_;omega)|exact⟨by first|omega|assumption,(S.mem _ hk).1 ((jD.mem _ (ae g3)).1 fg)⟩|exact .inl rfl|exact .inr rfl|exact .inr (.inl rfl)|exact .inr (.inr rfl)|exact .inr (.inr (.inl rfl))|exact rfl);have g3_:=MG;clear g3;have g3:=g3_;clear g3_;refine ad (aL (ab G G (bB G G G hV (Rg.bg G G ?_))));refine⟨G,(i+1,out++[fixF i x]),a65,?_,?_⟩
      ·exact⟨_,_,hM,S,dF,dS,g2,dP,g3,fg,xj,by rw[vX,hga,if_pos JC],by dsimp only;omega,by dsimp only;omega,BD.snoc Tj,by simp;omega⟩
      ·dsimp only;omega
     ·refine aR (aL (ab G G (bB G G G hV (Rg.bg G G ?_))));refine⟨G,(i+1,out),a65,?_,?_⟩
      ·exact⟨_,_,hM,S,dF,dS,g2,dP,g3,fg,iu,by rw[vX,hga,if_neg JC],by dsimp only;omega,by dsimp only;omega,BD,by dsimp only;omega⟩
      ·dsimp only;omega
    ·rw[show x.1=(fixF i x).1 from by show x.1=if eA x.1=true then x.1 else _;rw[if_pos (by cases hq:eA x.1 with|true=>rfl|false=>exact absurd hq c8)]]at dW;refine aR (T.aP (aT (o':=1) cF G G I9 q0 G G (aG aA G G G Ub G (aT (o':=1) cF G G I9 q0 G G (aG aA G G G Ub G (rp aA G G (bh (v':= .int .i64 (x.2.length:Int)) a71 (Rg.min2 G G G (Rg.SO aA G G G hV (bh (v':= .string ⟨((fixF i x).2).toArray⟩) (by rw[DI];rfl) ?_))))))))));refine aT (o':=1) cF G G I9 q0 G G ?_;refine cg (M:=nH) I9 G G dW G (G) dy (λHP DL gy=>?_);change HP.heap[_]? =some (Obj.cells #[.string ⟨((fixF i x).1).toArray⟩,.string ⟨((fixF i x).2).toArray⟩] _ _)at DL;have:=ae g2;replace dP:=(gy.mem _ this).2 dP;replace g2:=gy.bR g2 a03;have:=ae g3;replace fg:=(gy.mem _ this).2 fg;replace g3:=gy.bR g3 a03;have:=ae dW;replace dy:=(gy.mem _ this).2 dy;replace dF:=dF.le q0 gy.le;replace dS:=dS.le gy.le;replace iu:=iu.le gy.le;replace hM:=gy.lt hM;have:=S.size;replace S:=S.trans gy (λk hk h=>by have h:_=_:=h;subst h;first|(exfalso;omega)|(show _<=_;omega)|exact⟨by first|omega|assumption,(S.mem _ hk).1 ((gy.mem _ (ae dW)).1 dy)⟩|exact .inl rfl|exact .inr rfl|exact .inr (.inl rfl)|exact .inr (.inr rfl)|exact .inr (.inr (.inl rfl))|exact rfl);have qa:=DL;clear dW;have dW:=qa;clear qa;refine ad (T.aP ?_);refine ar (M:=nH) (A:=RT.dc) (B:=RT.int .i64) bp G G I3 q0 (Zi) G G q0 Ub (by repeat (first|exact bI _ _|refine aX (bJ Ub) ?_)) (λTl MA=>?_)
     refine b4 (M:=nH) ak G G Ub (by repeat (first|exact bI _ _|refine aX (bJ Ub) ?_)) (λVJ=>?_);refine dg (places:=[(0,1),(1,1)]) bp om B72 rfl ⟨_,_,rfl,rfl,rfl⟩ (out:=[_,.slice none 0 0]) ⟨0,[_],rfl,rfl,by simp[Value.cells],rfl⟩ ?_;refine ec nH om G (λyG DM aac aad dn fN=>?_);obtain⟨rZ,tp⟩:∃M',M'=ins nH yG:=⟨_,rfl⟩;rw[<-tp]at fN;have dh:rZ yG:=by rw[tp];exact .inl G
     change DM.heap[yG]? =some (.cells #[.int .i64 0,.slice none 0 0] _ _)at dn;have:=ae g2;replace dP:=(fN.mem _ this).2 dP;replace g2:=fN.aB g2;have:=ae g3;replace fg:=(fN.mem _ this).2 fg;replace g3:=fN.aB g3;have:=ae dW;replace dy:=(fN.mem _ this).2 dy;replace dW:=fN.aB dW;replace dF:=dF.le q0 fN.le;replace dS:=dS.le fN.le;replace iu:=iu.le fN.le;replace hM:=fN.lt hM;have:=S.size;replace S:=S.ax fN;refine cM (M:=rZ) (vs:=[.int .i64 d.1,.slice none 0 0]) om G G a14 rfl rfl dn dh (λB9 MB ki=>?_);have:=ae g2;replace dP:=(ki.mem _ this).2 dP;replace g2:=ki.bR g2 a03;have:=ae g3;replace fg:=(ki.mem _ this).2 fg;replace g3:=ki.bR g3 a03;have:=ae dW;replace dy:=(ki.mem _ this).2 dy;replace dW:=ki.bR dW a03;have:=ae dn;replace dh:=(ki.mem _ this).2 dh;replace dF:=dF.le q0 ki.le;replace dS:=dS.le ki.le;replace iu:=iu.le ki.le;replace hM:=ki.lt hM;have:=S.size;replace S:=S.trans ki (λk hk h=>by have h:_=_:=h;subst h;first|(exfalso;omega)|(show _<=_;omega)|exact⟨by first|omega|assumption,(S.mem _ hk).1 ((ki.mem _ (ae dn)).1 dh)⟩|exact .inl rfl|exact .inr rfl|exact .inr (.inl rfl)|exact .inr (.inr rfl)|exact .inr (.inr (.inl rfl))|exact rfl);have jb:=MB;clear dn;have dn:=jb;clear jb;refine ad (T.aP (aT (o':=1) bp G G uJ q0 G G (aG bE G G G Ub G (aT (o':=1) bp G G uJ q0 G G (aG bE G G G Ub G ?_)))));have dN:=Own.SR RT.fd 153 B9.heap.size hM
     have agR:=ae dW;have MC:w0.heap.size<=B9.heap.size:=S.size;refine dH (M:=rZ) (base:=B9.heap.size) bE j3 rfl rfl rfl rfl dN iu cf a08 a08 (br _) (λyy p6 Mf rT ff=>?_);have:=ae g2;replace dP:=(ff.mem _ this).2 dP;replace g2:=ff.bR g2 (λh=>by first|exact dN.eD g2 h|exact dN.fx g2 q0 h|(have:=(dN.base _ h).1;omega));have:=ae g3;replace fg:=(ff.mem _ this).2 fg;replace g3:=ff.bR g3 (λh=>by first|exact dN.eD g3 h|exact dN.fx g3 q0 h|(have:=(dN.base _ h).1;omega));have:=ae dW;replace dy:=(ff.mem _ this).2 dy;replace dW:=ff.bR dW (λh=>by first|exact dN.eD dW h|exact dN.fx dW q0 h|(have:=(dN.base _ h).1;omega));have:=ae dn;replace dh:=(ff.mem _ this).2 dh;replace dn:=ff.bR dn (λh=>by first|exact dN.eD dn h|exact dN.fx dn q0 h|(have:=(dN.base _ h).1;omega));replace dF:=dF.le q0 ff.le;replace dS:=dS.le ff.le;replace iu:=iu.le ff.le;replace hM:=ff.lt hM;have:=S.size;replace S:=S.dR ff dN MC;replace dN:=rT;refine aT (o':=1) bp G G uJ q0 G G ?_;refine cg (M:=p6) uJ rfl rfl dn rfl (ad2) dh (λMD DN gu=>?_);change MD.heap[_]? =some (Obj.cells #[.int .i64 d.1,yy] _ _)at DN;have:=ae g2;replace dP:=(gu.mem _ this).2 dP;replace g2:=gu.bR g2 a03;have:=ae g3;replace fg:=(gu.mem _ this).2 fg;replace g3:=gu.bR g3 a03;have:=ae dW;replace dy:=(gu.mem _ this).2 dy;replace dW:=gu.bR dW a03;have:=ae dn;replace dh:=(gu.mem _ this).2 dh;replace dF:=dF.le q0 gu.le
     replace dS:=dS.le gu.le;replace iu:=iu.le gu.le;replace dN:=dN.step gu (λb hb hk=>by have hk:_=_:=hk;have:=(dN.base b hb);omega);replace hM:=gu.lt hM;have:=S.size;replace S:=S.trans gu (λk hk h=>by have h:_=_:=h;subst h;first|(exfalso;omega)|(show _<=_;omega)|exact⟨by first|omega|assumption,(S.mem _ hk).1 ((gu.mem _ (ae dn)).1 dh)⟩|exact .inl rfl|exact .inr rfl|exact .inr (.inl rfl)|exact .inr (.inr rfl)|exact .inr (.inr (.inl rfl))|exact rfl);have jb:=DN;clear dn;have dn:=jb;clear jb;refine ad (T.aP (aT (o':=1) bp G G uJ q0 G G (aG bE G G G Ub G (eC (vs:=[.string ⟨((fixF i x).1).toArray⟩,.string ⟨((fixF i x).2).toArray⟩]) cF G j3 G G G dW ?_))));refine fp (A:=RT.fd) (hn:=by decide) (M:=p6) bE j3 q0 G G hM (show RT.fd.V _ _ (fixF i x) _ from fw (lu.2 ⟨G,du Tj.1 q0⟩) (lu.2 ⟨G,du Tj.2 q0⟩) G G G G) (.inl G) (λTf aae fX gv=>?_);have:=ae g2;replace dP:=(gv.mem _ this).2 dP;replace g2:=gv.aB g2;have:=ae g3;replace fg:=(gv.mem _ this).2 fg;replace g3:=gv.aB g3;have:=ae dW;replace dy:=(gv.mem _ this).2 dy;replace dW:=gv.aB dW;have:=ae dn;replace dh:=(gv.mem _ this).2 dh;replace dn:=gv.aB dn;replace dF:=dF.le q0 gv.le;replace dS:=dS.le gv.le;replace iu:=iu.le gv.le;replace dN:=dN.bM gv;replace hM:=gv.lt hM;have:=S.size;replace S:=S.ax gv;refine dH (M:=p6) (base:=B9.heap.size) bE j3 rfl rfl rfl rfl dN fX cf a08 a08 (by have:=ff.size;have:=gu.size;have:=gv.size;omega) (λfZ lT aaf Ga gN=>?_);have:=ae g2;replace dP:=(gN.mem _ this).2 dP
     replace g2:=gN.bR g2 (λh=>by first|exact dN.eD g2 h|exact dN.fx g2 q0 h|(have:=(dN.base _ h).1;omega));have:=ae g3;replace fg:=(gN.mem _ this).2 fg;replace g3:=gN.bR g3 (λh=>by first|exact dN.eD g3 h|exact dN.fx g3 q0 h|(have:=(dN.base _ h).1;omega));have:=ae dW;replace dy:=(gN.mem _ this).2 dy;replace dW:=gN.bR dW (λh=>by first|exact dN.eD dW h|exact dN.fx dW q0 h|(have:=(dN.base _ h).1;omega));have:=ae dn;replace dh:=(gN.mem _ this).2 dh;replace dn:=gN.bR dn (λh=>by first|exact dN.eD dn h|exact dN.fx dn q0 h|(have:=(dN.base _ h).1;omega));replace dF:=dF.le q0 gN.le;replace dS:=dS.le gN.le;replace iu:=iu.le gN.le;replace fX:=fX.le gN.le;replace hM:=gN.lt hM;have:=S.size;replace S:=S.dR gN dN MC;replace dN:=Ga;refine aT (o':=1) bp G G uJ q0 G G ?_;refine cg (M:=lT) uJ rfl rfl dn rfl (ad2) dh (λME DO gw=>?_);change ME.heap[_]? =some (Obj.cells #[.int .i64 d.1,fZ] _ _)at DO;have:=ae g2;replace dP:=(gw.mem _ this).2 dP;replace g2:=gw.bR g2 a03;have:=ae g3;replace fg:=(gw.mem _ this).2 fg;replace g3:=gw.bR g3 a03;have:=ae dW;replace dy:=(gw.mem _ this).2 dy;replace dW:=gw.bR dW a03;have:=ae dn;replace dh:=(gw.mem _ this).2 dh;replace dF:=dF.le q0 gw.le;replace dS:=dS.le gw.le;replace iu:=iu.le gw.le;replace fX:=fX.le gw.le;replace dN:=dN.step gw (λb hb hk=>by have hk:_=_:=hk;have:=(dN.base b hb);omega);replace hM:=gw.lt hM;have:=S.size;replace S:=S.trans gw (λk hk h=>by have h:_=_:=h;subst h;first|(exfalso;omega)|(show _<=_;omega)|exact⟨by first|omega|assumption,(S.mem _ hk).1 ((gw.mem _ (ae dn)).1 dh)⟩|exact .inl rfl|exact .inr rfl|exact .inr (.inl rfl)|exact .inr (.inr rfl)|exact .inr (.inr (.inl rfl))|exact rfl)
     have jb:=DO;clear dn;have dn:=jb;clear jb;refine ad (T.aP (eC (vs:=[.int .i64 d.1,fZ]) bp G om G G G dn ?_));have xj:=dN.view (hn:=by decide) a08;replace dP:rm lT fZ _:=⟨dP,by first|exact dN.fx g2 q0|(intro h;have:=(dN.base _ h).1;omega)⟩;replace fg:rm lT fZ _:=⟨fg,by first|exact dN.fx g3 q0|(intro h;have:=(dN.base _ h).1;omega)⟩;replace dy:rm lT fZ _:=⟨dy,by first|exact dN.fx dW q0|(intro h;have:=(dN.base _ h).1;omega)⟩;replace dh:rm lT fZ _:=⟨dh,by first|exact dN.fx dn q0|(intro h;have:=(dN.base _ h).1;omega)⟩;replace dF:=dF.le q0 (sJ _ fZ _);replace dS:=dS.le (sJ _ fZ _);replace iu:=iu.le (sJ _ fZ _);replace fX:=fX.le (sJ _ fZ _);replace hM:Lt (rm lT fZ) _:=λb hb=>hM b hb.1
     replace S:=S.freeze (v:=fZ) (λb hb=>by have:=(dN.base b hb).1;omega);clear dN;refine aQ G G E29 (AU (d:=(d.1,[]++out++[fixF i x])) _ hM (fw (gV hdi) xj G G G G) (λy hy=>by have:=(BD.snoc Tj) y (by simpa using hy);omega)) (λr14 MF hc=>?_);obtain⟨rfl,jn⟩:=hc;rw[iH]at xj;have:=ae g2;replace dP:=(jn.mem _ this).2 dP;replace g2:=jn.aB g2;have:=ae g3;replace fg:=(jn.mem _ this).2 fg;replace g3:=jn.aB g3;have:=ae dW;replace dy:=(jn.mem _ this).2 dy;replace dW:=jn.aB dW;have:=ae dn;replace dh:=(jn.mem _ this).2 dh;replace dn:=jn.aB dn;replace dF:=dF.le q0 jn.le;replace dS:=dS.le jn.le;replace iu:=iu.le jn.le;replace fX:=fX.le jn.le;replace xj:=xj.le jn.le;replace hM:=jn.lt hM;have:=S.size;replace S:=S.ax jn;refine ic G G G (bh (v':= .bool (decide (mj (d.1,out++[fixF i x])=0))) (by rw[iH]) (ad ?_));refine bF G (λJC=>?_) (λJC=>?_)
     ·refine aL (eC (vs:=[.int .i64 d.1,fZ]) bp G om G G G dn ?_);refine cM (M:=rm lT fZ) (vs:=[.int .i64 d.1,fZ]) om G G a14 rfl rfl g3 fg (λagS MG jD=>?_);have:=ae g2;replace dP:=(jD.mem _ this).2 dP;replace g2:=jD.bR g2 a03;have:=ae g3;replace fg:=(jD.mem _ this).2 fg;have:=ae dW;replace dy:=(jD.mem _ this).2 dy;replace dW:=jD.bR dW a03;have:=ae dn;replace dh:=(jD.mem _ this).2 dh;replace dn:=jD.bR dn a03;replace dF:=dF.le q0 jD.le;replace dS:=dS.le jD.le;replace iu:=iu.le jD.le;replace fX:=fX.le jD.le;replace xj:=xj.le jD.le;replace hM:=jD.lt hM;have:=S.size;replace S:=S.trans jD (λk hk h=>by have h:_=_:=h;subst h;first|(exfalso;omega)|(show _<=_;omega)|exact⟨by first|omega|assumption,(S.mem _ hk).1 ((jD.mem _ (ae g3)).1 fg)⟩|exact .inl rfl|exact .inr rfl|exact .inr (.inl rfl)|exact .inr (.inr rfl)|exact .inr (.inr (.inl rfl))|exact rfl);have g3_:=MG;clear g3;have g3:=g3_;clear g3_;refine ad (aL (ab G G (bB G G G hV (Rg.bg G G ?_))));refine⟨G,(i+1,out++[fixF i x]),a65,?_,?_⟩
      ·exact⟨_,_,hM,S,dF,dS,g2,dP,g3,fg,xj,by rw[vX,hga,if_pos JC],by dsimp only;omega,by dsimp only;omega,BD.snoc Tj,by simp;omega⟩
      ·dsimp only;omega
     ·refine aR (aL (ab G G (bB G G G hV (Rg.bg G G ?_))));refine⟨G,(i+1,out),a65,?_,?_⟩
      ·exact⟨_,_,hM,S,dF,dS,g2,dP,g3,fg,iu,by rw[vX,hga,if_neg JC],by dsimp only;omega,by dsimp only;omega,BD,by dsimp only;omega⟩
      ·dsimp only;omega
   ·refine cQ (T.aP (eC (vs:=[.int .i64 d.1,uo]) bp G om G G G g3 ?_));refine cM (M:=M1) (vs:=[.int .i64 d.1,uo]) om G G a14 rfl rfl g2 dP (λagT MH oz=>?_);have:=ae g2;replace dP:=(oz.mem _ this).2 dP;have:=ae g3;replace fg:=(oz.mem _ this).2 fg;replace g3:=oz.bR g3 a03;replace dF:=dF.le q0 oz.le;replace dS:=dS.le oz.le;replace iu:=iu.le oz.le;replace hM:=oz.lt hM;have:=S.size;replace S:=S.trans oz (λk hk h=>by have h:_=_:=h;subst h;first|(exfalso;omega)|(show _<=_;omega)|exact⟨by first|omega|assumption,(S.mem _ hk).1 ((oz.mem _ (ae g2)).1 dP)⟩|exact .inl rfl|exact .inr rfl|exact .inr (.inl rfl)|exact .inr (.inr rfl)|exact .inr (.inr (.inl rfl))|exact rfl);have MI:=MH;clear g2;have g2:=MI;clear MI;refine ad (aJ ?_);have e:oX d=(d.1,out):=by rw[oX,vX,AV hV]
    rw[e];refine jX (vs:=[.int .i64 d.1,uo]) G G bp G om G g2 ⟨fw (gV hdi) (iu.le (nT iF S)) G G G G,S.back⟩
  ·refine aj G G G G (aj G G G G (az G G G (ad (iS G (cQ (T.aP (eC (vs:=[.int .i64 d.1,uo]) bp G om G G G g3 ?_)))))));refine cM (M:=M1) (vs:=[.int .i64 d.1,uo]) om G G a14 rfl rfl g2 dP (λagT MH oz=>?_);have:=ae g2;replace dP:=(oz.mem _ this).2 dP;have:=ae g3;replace fg:=(oz.mem _ this).2 fg;replace g3:=oz.bR g3 a03;replace dF:=dF.le q0 oz.le;replace dS:=dS.le oz.le;replace iu:=iu.le oz.le;replace hM:=oz.lt hM;have:=S.size;replace S:=S.trans oz (λk hk h=>by have h:_=_:=h;subst h;first|(exfalso;omega)|(show _<=_;omega)|exact⟨by first|omega|assumption,(S.mem _ hk).1 ((oz.mem _ (ae g2)).1 dP)⟩|exact .inl rfl|exact .inr rfl|exact .inr (.inl rfl)|exact .inr (.inr rfl)|exact .inr (.inr (.inl rfl))|exact rfl);have MI:=MH;clear g2;have g2:=MI;clear MI;refine ad (aJ ?_);have e:oX d=(d.1,out):=by rw[oX,vX,AV hV]
   rw[e];refine jX (vs:=[.int .i64 d.1,uo]) G G bp G om G g2 ⟨fw (gV hdi) (iu.le (nT iF S)) G G G G,S.back⟩
def fO (l:List Dc) (from_ step:Int):Nat->List En
 |0=>[]
 |k+1=>fO l from_ step k++(match l[k]? with|some d=>[(oX d,from_+step*(k:Int))]|none=>[])
theorem lh (l:List Dc) (a s:Int):∀k,(fO l a s k).length=min k l.length
 |0=>by simp[fO]
 |k+1=>by
  rw[fO,bG,lh l a s k]
  cases h:l[k]? with
  |none=>have:=List.getElem?_eq_none_iff.1 h;simp;omega
  |some d=>have:=(al.1 h).1;simp;omega
theorem yH {l:List Dc} {a s:Int} {k:Nat} {d:Dc} (h:l[k]? =some d):fO l a s (k+1)=fO l a s k++[(oX d,a+s*(k:Int))]:=by rw[fO,h]
theorem yI {l:List Dc} {a s:Int} {k:Nat} (h:l.length<=k):fO l a s (k+1)=fO l a s k:=by
 rw[fO,List.getElem?_eq_none_iff.2 h];simp
theorem DP {l:List Dc} {a s:Int} {n i:Nat} (h:l.length<=i\/n<=i) (h1:i<=n):fO l a s i=fO l a s n:=by
 induction n with
 |zero=>have:i=0:=by omega
        rw[this]
 |succ n ih=>
  rcases pH h1 with e|eK
  ·rw[e]
  ·rcases h with h|h
   ·rw[yI hV];exact ih (.inl h) hV
   ·omega
theorem Q1 {s k:Int} (h:0<=s/\s<=1000) (hk:0<=k/\k<=100):0<=s*k/\s*k<=100000:=
 ⟨Int.mul_nonneg h.1 hk.1,Int.le_trans (Int.mul_le_mul h.2 hk.2 hk.1 hV) hV⟩
theorem Gb {M:aH} {l:List Dc} {v0:Value} {most:Nat} {a s:Int} (w0:World) (hM:Lt M w0) (hv:(RT.dc.sl).V M w0 l v0) (hm:most<=100) (ha:0<=a/\a<=1000000) (hs:0<=s/\s<=1000):
  Spec Tryz.prog 10 #[v0,.int .i64 (most:Int),.int .i64 a,.int .i64 s] w0 (λv w=>(RT.en.sl).V M w (fO l a s most) v/\Step M w0 M w aE):=by
 have iF:=hM;refine a8 (args:=[_,_,_,_]) (fn:=Tryz.f10) Tryz.func10 G (n:=37) Tryz.ntmps10 ?_;have S:Step M w0 M w0 aE:=aV;refine T.aP (Rg.bg G G (T.aP (Rg.bg G G (aN (T.aP (aF G G ?_))))));refine ad (aY ?_);refine dz (σ:=Nat×Value) (λq=>[(0,v0),(1,.int .i64 (most:Int)),(2,.int .i64 a),(3,.int .i64 s),(9,q.2),(10,.int .i64 (q.1:Int))]) (λq w=>∃M',Lt M' w/\Step M w0 M' w aE/\Own RT.en 74 M' w w0.heap.size q.2 (fO l a s q.1)/\(RT.dc.sl).V M' w l v0/\q.1<=most/\q.1<=l.length) (λq=>most-q.1) (0,.slice none 0 0) a11 ?_ ?_
 ·exact⟨M,hM,S,eG _ _ _ _ _,hv,bm _,bm _⟩
 ·rintro⟨i,u⟩ w ⟨M1,hM,S,ho,hv,hi,qE⟩;dsimp only at ho hi qE ⊢;refine aN (T.aP (ab G G (ab G G (bN Tryz.underlying22 G hv G (cy G G G (ab G G ?_))))));refine aO (g:=15) G (λJD=>?_) (λJD=>?_)
  ·refine ah G G (ab G G (ah G G (ab G G (ah G G (cy G G G (aU G G G (ad ?_)))))));refine bF G (λc3=>?_) (λc3=>?_)
   ·refine aR (aN (aY (aL (ab G G (ab G G (ab G G ?_))))));refine cD Tryz.underlying22 om G G G hv cf hV (λu5 d Jo wL=>?_);rw[aw]at Jo;have hsi:=Q1 (k:=(i:Int)) hs hV;refine cv (A:=RT.dc) bp G om q0 G G G wL cf (λv5 pF=>?_);refine aQ G G E47 (JA _ hM pF) (λr5 w5 hc=>?_);obtain⟨vX,s5⟩:=hc;replace hv:=hv.le s5.le;replace ho:=ho.bM s5;replace hM:=s5.lt hM;have:=S.size;replace S:=S.ax s5;refine ab G G (ab G G (ab G G (Rg.Uk G G G hV (bB G G G hV ?_))));obtain⟨uf,rfl⟩:=LH vX;refine dg (places:=[(0,2),(2,1)]) ef FN B74 rfl ⟨_,_,rfl,rfl,_,_,rfl,rfl,rfl⟩ (out:=[_,_,_]) ⟨0,[_,_],rfl,rfl,by simp[Value.cells],2,[_],rfl,rfl,by simp[Value.cells],rfl⟩ ?_;refine fp (A:=RT.en) (hn:=by decide) (M:=M1) gT FN q0 G G hM (show RT.en.V _ _ (oX d,a+s*(i:Int)) _ from SQ vX hV) (.inl G) (λalZ al0 Gc DQ=>?_);replace hv:=hv.le DQ.le;replace vX:=vX.le DQ.le;replace ho:=ho.bM DQ;replace hM:=DQ.lt hM;have:=S.size;replace S:=S.ax DQ;refine dH (M:=M1) (base:=w0.heap.size) gT FN G G G G ho Gc cf (by have:=lh l a s i;simp;omega) (by have:=lh l a s i;simp;omega) (S.size) (λaah aai al1 VK DR=>?_);replace hv:=hv.le DR.le;replace vX:=vX.le DR.le;replace Gc:=Gc.le DR.le;replace hM:=DR.lt hM;have:=S.size;replace S:=S.dR DR ho (br _);replace ho:=VK;refine Rg.bg G G (aL (ab G G (bB G G G hV (Rg.bg G G ?_))));refine⟨G,(i+1,aah),a11,?_,?_⟩
    ·exact⟨aai,hM,S,by rw[yH Jo];exact ho,hv,by dsimp only;omega,by dsimp only;omega⟩
    ·dsimp only;omega
   ·refine cQ (T.aP (ab G G (Rg.bg G G (aJ ?_))));rw[<-DP (i:=i) (n:=most) hV hi];exact aM G G ⟨ho.close iF S (by have:=lh l a s i;omega),S.back⟩
  ·refine aj G G G G (aj G G G G (aj G G G G (az G G G (ad (iS G (cQ (T.aP (ab G G (Rg.bg G G ?_)))))))));refine aJ ?_;rw[<-DP (i:=i) (n:=most) hV hi];exact aM G G ⟨ho.close iF S (by have:=lh l a s i;omega),S.back⟩
end Go.K
namespace Go.K
open Go.Proofs
set_option maxRecDepth 10000
open Go.Maps (Keyed)
def kv (t:Fd):Value:= .agg #[.string ⟨t.1.toArray⟩,.string ⟨t.2.toArray⟩]
theorem uP {a b:Fd} (h:kv a=kv b):a=b:=by
 unfold kv at h;simp only[Value.agg.injEq,Array.mk.injEq,xB,Value.string.injEq,ByteArray.mk.injEq,and_true]at h;exact Prod.ext h.1 h.2
theorem MJ:laidOutB Tryz.prog=true:=by kernel_rfl
theorem MK:Tryz.prog.types.size=419:=by kernel_rfl
theorem AW:Keyed Tryz.prog 24:=Keyed.of_law (deep_law_laid MJ (m:=2) (k:=24) hV (by rw[MK];decide) (by kernel_rfl) (by kernel_rfl))
theorem aaj:Tryz.prog.keyType 24=true:=by kernel_rfl
theorem HU:Tryz.prog.cellsOf 24=2:=by kernel_rfl
theorem Q2:Tryz.prog.cellsOf 9=1:=by kernel_rfl
theorem ML (t:Fd) (h1:t.1.length<=140737488355328) (h2:t.2.length<=140737488355328):∃l,keyOf Tryz.prog 24 (kv t)=some l:=by
 have e1:(⟨t.1.toArray⟩:ByteArray).size=t.1.length:=by simp[ByteArray.size]
 have e2:(⟨t.2.toArray⟩:ByteArray).size=t.2.length:=by simp[ByteArray.size]
 have hs:∀(s:ByteArray),s.size<=maxLen->Tryz.prog.keyLits 419 9 [.string s]=some [.string s.data.toList]:=λs hs=>by
  show(match Tryz.prog.underlying 9,[Value.string s]with|_,_=>_)=_;rw[aA];exact if_pos hs
 unfold keyOf kv;rw[bK];simp only[aaj,Value.formed,bK,HU,MK]
 have key:∃ls,Tryz.prog.keyLits (419+1) 24 [.string ⟨t.1.toArray⟩,.string ⟨t.2.toArray⟩]=some ls:=by
  unfold Program.keyLits;simp only[bK];rw[if_pos ⟨by rw[HU];rfl,by kernel_rfl⟩];simp only[List.mapM_cons,List.mapM_nil,Q2];have g1:=hs ⟨t.1.toArray⟩ (by rw[e1];unfold maxLen;omega);have g2:=hs ⟨t.2.toArray⟩ (by rw[e2];unfold maxLen;omega);refine ⟨[.string (⟨t.1.toArray⟩:ByteArray).data.toList,.string (⟨t.2.toArray⟩:ByteArray).data.toList],?_⟩;simp only[List.drop_zero,List.drop_succ_cons,List.take_succ_cons,List.take_zero,g1,g2];rfl
 obtain⟨ls,hls⟩:=key;exact⟨.string (keyBytes ls),by rw[if_pos (by simp)];show Option.map _ (Tryz.prog.keyLits (419+1) 24 [.string ⟨t.1.toArray⟩,.string ⟨t.2.toArray⟩])=_;rw[hls];rfl⟩
end Go.K
namespace Go.K
open Go.Proofs
set_option maxRecDepth 10000
def gz (x:Fd):List (Fd×Nat):=(words x.2).zipIdx.map λp=>((x.1,p.1),p.2)
def cB (l:List Fd):List (Fd×Nat):=l.flatMap gz
theorem nI (x:Fd):(gz x).length=(words x.2).length:=by simp[gz]
theorem MM {x:Fd} {k:Nat} {y:List UInt8} (h:(words x.2)[k]? =some y):(gz x)[k]? =some ((x.1,y),k):=by
 simp[gz,List.getElem?_zipIdx,h]
theorem sa {fs:List Fd} {i:Nat} {x:Fd} (h:fs[i]? =some x):cB (fs.take (i+1))=cB (fs.take i)++gz x:=by
 rw[bX,h];simp[cB]
structure VL (P:Program) (g:FuncId) (cap:List Value) (B:Nat) (J:List (Fd×Nat)->aH->World->Prop):Prop where
 enters:Enters P g
 step:∀ts M w M' w',J ts M w->Step M w M' w' aE->J ts M' w'
 tell:∀ts M w (t:Fd) (i:Nat),J ts M w->Lt M w->t.1.length<=900000->t.2.length<=140737488355328->i<=1000000->ts.length<=10000000->Spec P g ([kv t,.int .i64 (i:Int)]++cap).toArray w (λ_ w'=>∃M',Lt M' w'∧J (ts++[(t,i)]) M' w'∧Step M w M' w' (kT M B))
theorem AX {M:aH} {d:Dc} {v0:Value} {g:FuncId} {cap:List Value} {B:Nat} {J:List (Fd×Nat)->aH->World->Prop} (w0:World) (hM:Lt M w0) (hv:RT.dc.V M w0 d v0) (hl:∀f∈d.2,f.1.length<=900000/\f.2.length<=900000) (hd8:d.2.length<=8) (hT:VL Tryz.prog g cap B J) (hJ:J [] M w0):
  Spec Tryz.prog 142 #[v0,.func (.func g) #[] cap.toArray] w0 (λv w=>∃M',Lt M' w/\J (cB d.2) M' w/\Step M w0 M' w (kT M B)):=by
 refine a8 (args:=[_,_]) (fn:=Tryz.f142) Tryz.func142 G (n:=33) Tryz.ntmps142 ?_;have S:Step M w0 M w0 (kT M B):=(aV).ek a18 (λ_ h=>h.2);refine T.aP ?_;refine fD (A:=RT.dc) G G hM hv G (λu0 w1 dF s0 _=>?_);replace hJ:=hT.step _ _ _ _ _ hJ s0;replace hM:=s0.lt hM;have:=S.size;replace S:=S.ax s0;refine ad (T.aP ?_);refine ar (M:=M) (A:=RT.dc) (B:=(RT.fd).sl) bp G G uJ q0 (Jg) G G q0 Ub (by repeat (first|exact bI _ _|refine aX (bJ Ub) ?_)) (λAe kS=>?_);refine bP (M:=M) bE G G G G G Ub (by repeat (first|exact bI _ _|refine aX (bJ Ub) ?_)) (λyB lR=>?_);refine bN bE G lR G (ab G G (ad (aY ?_)));refine dz (σ:=Nat) (λi=>[(1,.func (.func g) #[] cap.toArray),(9,yB),(10,.int .i64 (d.2.length:Int)),(11,.int .i64 (i:Int))]) (λi w=>∃M',Lt M' w/\Step M w0 M' w (kT M B)/\(RT.fd.sl).V M' w d.2 yB/\J (cB (d.2.take i)) M' w/\i<=d.2.length/\(cB (d.2.take i)).length<=900001*i) (λi=>d.2.length-i) 0 Uc ?_ ?_
 ·exact⟨_,hM,S,lR,hJ,bm _,br _⟩
 ·rintro i w ⟨M1,hM,S,mM,hJ,hi,sN⟩;refine T.aP (cy G G G (ad (aN ?_)));refine bF G (λc2=>?_) (λc2=>?_)
  ·refine aR (aN (aY (T.aP ?_)));refine cD bE j3 G G G mM cf hV (λu3 x VM jJ=>?_);rw[aw]at VM;have xf:=hl _ (ao VM);refine cv (A:=RT.fd) cF G j3 q0 G G G jJ cf (λv3 uQ=>?_);refine oQ (A:=RT.fd) (M:=M1) j3 G G G G G Ub cf hM (λQ3 apM yJ Q4 apN=>?_);replace mM:=mM.le Q4.le;replace hJ:=hT.step _ _ _ _ _ hJ Q4;replace hM:=Q4.lt hM;have:=S.size;replace S:=S.ax Q4;refine ad (T.aP ?_);refine ar (M:=M1) (A:=RT.fd) (B:=RT.str) cF G G I9 q0 (SP) G G q0 Ub (by repeat (first|exact bI _ _|refine aX (bJ Ub) ?_)) (λJw qZ=>?_);refine bP aA G G G G G qZ cf (λv4 pE=>?_);obtain rfl:=ep pE;refine aQ G G U2 (yv (l:=x.2) _ hM xf.2) (λv5 w5 hc=>?_);obtain⟨UW,s5⟩:=hc;replace mM:=mM.le s5.le;replace yJ:=yJ.le q0 s5.le;replace hJ:=hT.step _ _ _ _ _ hJ s5;replace hM:=s5.lt hM;have:=S.size;replace S:=S.ax s5;have Tc:=nD x.2;refine bN aD G UW G (ab G G (ad (aY ?_)));refine dz (σ:=Nat) (λk=>[(1,.func (.func g) #[] cap.toArray),(5,Q3),(9,yB),(10,.int .i64 (d.2.length:Int)),(11,.int .i64 (i:Int)),(17,v5),(18,.int .i64 ((words x.2).length:Int)),(19,.int .i64 (k:Int))]) (λk w=>∃M',Lt M' w/\Step M w0 M' w (kT M B)/\(RT.fd.sl).V M' w d.2 yB/\cR RT.fd M' w Q3 x/\(RT.str.sl).V M' w (words x.2) v5/\J (cB (d.2.take i)++(gz x).take k) M' w/\k<=(words x.2).length) (λk=>(words x.2).length-k) 0 (.cons G a88) ?_ ?_
   ·exact⟨_,hM,S,mM,yJ,UW,by rw[List.take_zero,fz];exact hJ,bm _⟩
   ·rintro k w ⟨M2,hM,S,mM,yJ,UW,hJ,hk⟩;refine T.aP (cy G G G (ad (aN ?_)));refine bF G (λc5=>?_) (λc5=>?_)
    ·refine aR (aN (aY (T.aP (ab G G ?_))));refine cD aD I9 G G G UW cf hV (λu6 y KK kZ=>?_);rw[aw]at KK;refine bP aA G G G G G kZ cf (λv6 p9=>?_);have Yi:=(lu.1 p9).2;obtain rfl:=ep p9;refine aF G G (Rg.bg G G (aL (ab G G ?_)));refine ar (M:=M2) (A:=RT.fd) (B:=RT.str) cF G G I9 q0 (KI) G G q0 Ub (by repeat (first|exact bI _ _|refine aX (bJ Ub) ?_)) (λapO aak=>?_);refine bP aA G G G G G aak cf (λv7 Gd=>?_);obtain rfl:=ep Gd;refine ab rfl rfl (dg (places:=[(0,1),(1,1)]) bK mi UX rfl ⟨_,_,rfl,rfl,_,_,rfl,rfl,rfl⟩ (out:=[_,_]) ⟨0,[_],rfl,rfl,by simp[Value.cells],1,[_],rfl,rfl,by simp[Value.cells],rfl⟩ (ab rfl rfl ?_));refine uk (first:=[]) (captured:=cap) (xs:=[.tmp 28,.tmp 29]) G G G hT.enters (hT.tell _ _ _ (x.1,y) k hJ hM xf.1 Yi hV (by rw[bG,a7,nI];omega)) (λr7 w7 hc=>?_);obtain⟨M7,hM7,hJ7,s7⟩:=hc;refine ad (aL (bB G G G hV (ab G G (ad ?_))));refine⟨G,k+1,(.cons G a88),?_,?_⟩
     ·exact⟨M7,hM7,S.trans s7 (λb hb h=>⟨h.1,(S.mem b hb).1 h.2⟩),mM.le s7.le,yJ.le q0 s7.le,UW.le s7.le,by rw[bX,MM KK,dx,<-l6];exact hJ7,by omega⟩
     ·omega
    ·refine cQ (aL (bB G G G hV (ab G G (ad ?_))));refine⟨G,i+1,Uc,?_,?_⟩
     ·exact⟨_,hM,S,mM,by rw[sa VM];have e:(gz x).take k=gz x:=bD (by rw[nI];omega);rw[e]at hJ;exact hJ,by omega,by rw[sa VM,bG,nI];omega⟩
     ·omega
  ·refine cQ ?_
   first|refine ig.nil ?_|simp+decide only[BA,pI,if_true,if_false]|skip
   have e:d.2.take i=d.2:=bD hV;rw[e]at hJ;exact jW G ⟨_,hM,hJ,S⟩
theorem Ca {M:aH} {w:World} {t:Fd} (h1:t.1.length<=140737488355328) (h2:t.2.length<=140737488355328):RT.fd.V M w t (kv t):=fw (lu.2 ⟨rfl,h1⟩) (lu.2 ⟨rfl,h2⟩) rfl rfl rfl rfl
def WJ (b B:Nat) (ts:List (Fd×Nat)) (M:aH) (w:World):Prop:=w.heap[b]? =some (.cells #[.int .i64 (ts.length:Int)] 3 (0,0))/\M b/\B<=b
theorem Cb {M:aH} {b B:Nat} {ts:List (Fd×Nat)} {t:Fd} {i:Nat} (w0:World) (hM:Lt M w0) (h1:t.1.length<=900000) (h2:t.2.length<=140737488355328) (Lk:ts.length<=10000000) (hJ:WJ b B ts M w0):
  Spec Tryz.prog 149 #[kv t,.int .i64 (i:Int),.pointer (some ⟨b,0,none⟩)] w0 (λv w=>∃M',Lt M' w/\WJ b B (ts++[(t,i)]) M' w/\Step M w0 M' w (kT M B)):=by
 obtain⟨gb,ej,hB⟩:=hJ;refine a8 (args:=[_,_,_]) (fn:=Tryz.f149) Tryz.func149 G (n:=7) Tryz.ntmps149 ?_;have S:Step M w0 M w0 (kT M B):=(aV).ek a18 (λ_ h=>h.2);refine T.aP ?_;refine fD (A:=RT.fd) G G hM (Ca hV h2) G (λu0 w1 dF s0 _=>?_);have:=ae gb;replace ej:=(s0.mem _ this).2 ej;replace gb:=s0.aB gb;replace hM:=s0.lt hM;have:=S.size;replace S:=S.ax s0;refine ad (aL (aG ak G G G Ub G (bB G G G hV ?_)));refine cg (M:=M) I3 G G gb G (G) ej (λQ5 ir ph=>?_);change Q5.heap[_]? =some (Obj.cells #[.int .i64 ((ts.length:Int)+1)] _ _)at ir;have:=ae gb;replace ej:=(ph.mem _ this).2 ej;replace hM:=ph.lt hM;have:=S.size;replace S:=S.trans ph (λk hk h=>by have h:_=_:=h;subst h;first|(exfalso;omega)|(show _<=_;omega)|exact⟨by first|omega|assumption,(S.mem _ hk).1 ((ph.mem _ (ae gb)).1 ej)⟩|exact .inl rfl|exact .inr rfl|exact .inr (.inl rfl)|exact .inr (.inr rfl)|exact .inr (.inr (.inl rfl))|exact rfl);have MN:=ir;clear gb;have gb:=MN;clear MN;refine ad ?_
 first|refine ig.nil ?_|simp+decide only[BA,pI,if_true,if_false]|skip
 exact jW rfl ⟨_,hM,⟨by rw[bG];exact gb,ej,hB⟩,S⟩
theorem DS {b B:Nat}:VL Tryz.prog 149 [.pointer (some ⟨b,0,none⟩)] B (WJ b B):=
 ⟨afy,λts M w M' w' ⟨h1,h2,h3⟩ s=>⟨s.aB h1,(s.mem _ (ae h1)).2 h2,h3⟩,λts M w t i hJ hM h1 h2 _ h4=>Cb w hM h1 h2 h4 hJ⟩
theorem DT {M:aH} {d:Dc} {v0:Value} (w0:World) (hM:Lt M w0) (hv:RT.dc.V M w0 d v0) (hl:∀f∈d.2,f.1.length<=900000/\f.2.length<=900000) (hd8:d.2.length<=8):
  Spec Tryz.prog 97 #[v0] w0 (λv w=>v= .int .i64 ((cB d.2).length:Int)/\Step M w0 M w aE):=by
 refine a8 (args:=[_]) (fn:=Tryz.f97) Tryz.func97 G (n:=8) Tryz.ntmps97 ?_;have S:Step M w0 M w0 aE:=aV;refine T.aP ?_;refine fD (A:=RT.dc) G G hM hv G (λu0 w1 dF s0 _=>?_);replace hM:=s0.lt hM;have:=S.size;replace S:=S.ax s0;refine Rg.bg G G (T.aP ?_);refine ec M I3 G (λuL QW agp agq ox wN=>?_);obtain⟨AT,yp⟩:∃M',M'=ins M uL:=⟨_,rfl⟩;rw[<-yp]at wN;have lP:AT uL:=by rw[yp];exact .inl G
 change QW.heap[uL]? =some (.cells #[.int .i64 0] _ _)at ox;replace dF:=dF.le q0 wN.le;replace hM:=wN.lt hM;have:=S.size;replace S:=S.ax wN;refine cg (M:=AT) I3 G G ox G (G) lP (λVN Af wR=>?_);change VN.heap[_]? =some (Obj.cells #[.int .i64 0] _ _)at Af;have:=ae ox;replace lP:=(wR.mem _ this).2 lP;replace dF:=dF.le q0 wR.le;replace hM:=wR.lt hM;have:=S.size;replace S:=S.trans wR (λk hk h=>by have h:_=_:=h;subst h;first|(exfalso;omega)|(show _<=_;omega)|exact⟨by first|omega|assumption,(S.mem _ hk).1 ((wR.mem _ (ae ox)).1 lP)⟩|exact .inl rfl|exact .inr rfl|exact .inr (.inl rfl)|exact .inr (.inr rfl)|exact .inr (.inr (.inl rfl))|exact rfl);have Tn:=Af;clear ox;have ox:=Tn;clear Tn;refine ad (T.aP ?_);refine cv (A:=RT.dc) bp G om q0 G G G dF cf (λv2 CO=>?_);refine jd (xs:=[]) (ys:=[.tmp 3]) G G G ?_;refine aQ G G Zo (AX (cap:=[.pointer (some ⟨uL,0,none⟩)]) (B:=w0.heap.size) _ hM CO hl hd8 DS ⟨ox,lP,by omega⟩) (λr2 w2 hc=>?_);obtain⟨M2,HM,⟨g2,_,_⟩,s2⟩:=hc;replace S:=S.ly s2 (br _);refine ad (T.aP (aG ak G G G g2 G (Rg.bg G G (aJ ?_))));exact aM G G ⟨G,S.back⟩
section
variable {P:Program} {r:Option Nat} {n:Nat} {L:Sl} {ds:List Deferred} {w:World} {K:Kt} {ops:Array Oper} {rest:List Oper} {d:Nat} {x y z:Operand} {ty:TypeId} {pos:String} {af:Array Edge}
variable {kt:TypeId} {M:aH} {b mb clock:Nat} {es:List MapEntry} {sn:Array Nat}
theorem Rg.rangeMap {t e:TypeId} (M:aH) (ht:P.underlying t=some (.map kt e)) (hx:ev L x=some (.map (some mb))) (hd:Nat.blt d n=true) (h:fM P kt w mb es clock)
  (k:∀b w',w.heap.size<=b->b<w'.heap.size->w'.heap[b]? =some (.mapIter (some mb) clock #[] clock)->Step M w (ins M b) w' aE->Rg P r n ops rest ((d,.pointer (some ⟨b,0,none⟩))::L) ds w' K):
  Rg P r n ops ({dst:=some d,op:= .range t x,type:=ty,pos,after:=af,guard:=none}::rest) L ds w K:=by
 refine .op a04 G G hd (.pointer (some ⟨w.heap.size,0,none⟩)) (w.alloc (.mapIter (some mb) clock #[] clock)) (λρ hρ=>?_) (k w.heap.size _ (br _) (by simp) (dp w _) ((dT M w _).own (br _) (by simp)));simp only[execOp,hρ x _ hx];simp[Instr.range,cA,run_underlying ht,dD h.at_,newObj,Sem.run]
theorem oY {sb:Option Nat} {s c:Nat} (hb:w.heap[b]? =some (.mapIter sb s sn c)):(getObj b).run P w= .ok (.mapIter sb s sn c) w:=by simp[getObj,Sem.run,hb]
theorem Ge (h:fM P kt w mb es clock) (seen:Array Nat):(!seen.isEmpty&& !es.toArray.isEmpty&&es.toArray.all (λx=>decide (x.born>=clock)))=false:=by
 cases es with
 |nil=>simp
 |cons e l=>
  have:=h.lt e (by simp);simp only[Bool.and_eq_false_iff];right;rw[fm];intro h2;rw[Array.all_eq_true_iff_forall_mem]at h2;have:=h2 e (by simp);simp at this;omega
theorem DV (k:Nat) (hk:0<k):∃j w1,j<k/\(∀M,Step M w M w1 aE)/\w1.heap=w.heap/\(choose (Question.mapNext k)).run P w= .ok j w1:=by
 by_cases hf:k<=1
 ·exact⟨0,w,hk,λM=>Step.refl M w,rfl,by simp[choose,Sem.run,Question.forced,hf]⟩
 ·exact⟨_,w.drew,Nat.mod_lt _ hk,λM=>nh M w,G,by
   simp only[choose,Sem.run,Question.forced,decide_eq_true_eq,hf,if_false,Question.cut];rfl⟩
theorem MO (h:fM P kt w mb es clock) (hb:w.heap[b]? =some (.mapIter (some mb) clock sn clock)) (hm:M b):
  ((∀e∈es,e.born∈sn)/\(Instr.next (.pointer (some ⟨b,0,none⟩)) false ty).run P w= .ok (.tuple #[.bool false]) w)\/
  ∃e w',e∈es/\e.born∉sn/\w'.heap[b]? =some (.mapIter (some mb) clock (sn.push e.born) clock)/\Step M w M w' (λk=>k=b)/\(Instr.next (.pointer (some ⟨b,0,none⟩)) false ty).run P w= .ok (.tuple #[.bool true,e.key,e.val]) w':=by
 have eK:=ae hb;simp only[Instr.next,cA,oY hb,cT,dD h.at_,Ge h sn,Bool.false_eq_true,if_false];have hL:∀e∈es.toArray.filter (λe=> !sn.contains e.born),e.born<clock:=λe he=>h.lt e (by simpa using(Array.mem_filter.1 he).1)
 have kO:∀e,e∈es.toArray.filter (λe=> !sn.contains e.born)↔e∈es/\e.born∉sn:=λe=>by simp[Array.mem_filter]
 generalize es.toArray.filter (λe=> !sn.contains e.born)=Lf at hL kO ⊢;have e1:Lf.filter (λx=>decide (x.born<clock))=Lf:=Array.filter_eq_self.2 λx hx=>by simpa using hL x hx
 have e2:Lf.filter (λx=>decide (x.born>=clock))= #[]:=by
  rw[Array.filter_eq_empty_iff];intro x hx;have:=hL x hx;simp;omega
 simp only[e1,e2,Array.append_empty];by_cases h0:Lf.size=0
 ·left;have nj:Lf= #[]:=Array.eq_empty_of_size_eq_zero h0;subst nj;refine⟨λe he=>?_,by simp[choose,Sem.run,Question.forced]⟩;by_cases hs:e.born∈sn
  ·exact hs
  ·exact absurd ((kO e).2 ⟨he,hs⟩) (by simp)
 ·right;have fq:Lf.isEmpty=false:=by simp[Array.isEmpty,h0]
  simp only[fq,Bool.false_eq_true,if_false,Array.empty_append,Array.size_map];obtain⟨j,w1,hj,Ur,hh1,ix⟩:=DV (P:=P) (w:=w) Lf.size hV;have uI:w1.heap[b]? =some (.mapIter (some mb) clock sn clock):=by rw[hh1];exact hb
  have gJ:=(kO Lf[j]).1 (by simp);refine⟨Lf[j],{w1 with heap:=w1.heap.setIfInBounds b (.mapIter (some mb) clock (sn.push Lf[j].born) clock)},gJ.1,gJ.2,by simp[dv,hh1,eK],?_,?_⟩
  ·exact((Ur M).ek a18 (λk hk=>by subst hk;exact hm)).trans (il M hm) (λ_ _ h=>h)
  ·simp only[ix,cT,Array.getElem?_map,Array.getElem?_eq_getElem hj,fA,cA];simp[setObj,Sem.run,uI]
theorem Rg.Q6 (hx:ev L x=some (.pointer (some ⟨b,0,none⟩))) (hb:w.heap[b]? =some (.mapIter (some mb) clock sn clock)) (hm:M b) (h:fM P kt w mb es clock) (hd:Nat.blt d n=true)
  (k1:∀e w',e∈es->e.born∉sn->w'.heap[b]? =some (.mapIter (some mb) clock (sn.push e.born) clock)->Step M w M w' (λk=>k=b)->Rg P r n ops rest ((d,.tuple #[.bool true,e.key,e.val])::L) ds w' K)
  (k2:(∀e∈es,e.born∈sn)->Rg P r n ops rest ((d,.tuple #[.bool false])::L) ds w K):
  Rg P r n ops ({dst:=some d,op:= .next x false,type:=ty,pos,after:=af,guard:=none}::rest) L ds w K:=by
 rcases MO (ty:=ty) h hb hm with⟨h1,h2⟩|⟨e,w',h1,h2,h3,h4,h5⟩
 ·refine .op a04 G G hd _ w (λρ hρ=>?_) (k2 h1);simp only[execOp,hρ x _ hx];simp[h2]
 ·refine .op a04 G G hd _ w' (λρ hρ=>?_) (k1 e w' h1 h2 h3 h4);simp only[execOp,hρ x _ hx];simp[h5]
theorem Rg.entry {e:MapEntry} {sn':Array Nat} (hx:ev L x=some (.pointer (some ⟨b,0,none⟩))) (hb:w.heap[b]? =some (.mapIter (some mb) clock (sn'.push e.born) clock)) (h:fM P kt w mb es clock) (he:e∈es) (hd:Nat.blt d n=true)
  (k:Rg P r n ops rest ((d,.tuple #[e.key,e.val])::L) ds w K):
  Rg P r n ops ({dst:=some d,op:= .entry x,type:=ty,pos,after:=af,guard:=none}::rest) L ds w K:=by
 have hf:es.find? (λx=>x.born==e.born)=some e:=by
  rw[List.find?_eq_some_iff_getElem];obtain⟨i,hi⟩:=bO.1 he;obtain⟨h1,h2⟩:=al.1 hi;refine ⟨by simp,i,h1,h2,λj hj=> ?_⟩;have o7:j<es.length:=by omega
  have:=λq=>h.Dm (an o7) hi q
  simp only[rr,beq_eq_false_iff_ne,ne_eq];intro q;have:=this q;omega
 refine .op a04 G G hd _ w (λρ hρ=>?_) k;simp only[execOp,hρ x _ hx,Instr.entry,cA,oY hb,cT,dD h.at_];simp[hf,cA,dD h.at_]
end
theorem filter_lt {α:Type} {p q:α->Bool} {a:α}:∀{l:List α},(∀x∈l,q x=true->p x=true)->a∈l->p a=true->q a=false->(l.filter q).length<(l.filter p).length
 |[],_,ha,_,_=>by cases ha
 |x::l,h,ha,hp,hq=>by
  have hle:(l.filter q).length<=(l.filter p).length:=by
   rw[<-List.countP_eq_length_filter,<-List.countP_eq_length_filter];exact List.countP_mono_left λy hy=>h y (cn _ hy)
  rcases cY.1 ha with rfl|ha
  ·rw[qj hp,List.filter_cons_of_neg (by simp[hq])];simp;omega
  ·have:=filter_lt (λy hy=>h y (cn _ hy)) ha hp hq;by_cases hx:q x=true
   ·rw[qj hx,qj (h x (bL ..) hx)];simp;omega
   ·rw[List.filter_cons_of_neg hx];by_cases hx2:p x=true
    ·rw[qj hx2];simp;omega
    ·rw[List.filter_cons_of_neg hx2];omega
theorem fM.VO {P:Program} {kt:TypeId} {w:World} {b clock:Nat} {es:List MapEntry} (h:fM P kt w b es clock) {x y:MapEntry} (hx:x∈es) (hy:y∈es) (hk:x.key=y.key):x=y:=by
 obtain⟨i,hi⟩:=bO.1 hx;obtain⟨j,hj⟩:=bO.1 hy;rcases fk i j with jf|rfl|jf
 ·exact absurd hk (hU h.keys hi hj jf)
 ·exact aK (hi.symm.trans hj)
 ·exact absurd hk.symm (hU h.keys hj hi jf)
theorem fM.Q7 {P:Program} {kt:TypeId} {w:World} {b clock:Nat} {es:List MapEntry} (h:fM P kt w b es clock) {x y:MapEntry} (hx:x∈es) (hy:y∈es) (hk:x.born=y.born):x=y:=by
 obtain⟨i,hi⟩:=bO.1 hx;obtain⟨j,hj⟩:=bO.1 hy;rcases fk i j with jf|rfl|jf
 ·exact absurd hk (hU h.born hi hj jf)
 ·exact aK (hi.symm.trans hj)
 ·exact absurd hk.symm (hU h.born hj hi jf)
def Gf (w:World) (k:Nat):Prop:=∃m s sn c,w.heap[k]? =some (.mapIter m s sn c)
def HV (es:List MapEntry):Prop:=∀e∈es,∃t:Fd,e.key=kv t/\t.1.length<=140737488355328/\t.2.length<=140737488355328
theorem Gg {yl bs mb clock:Nat} {es:List MapEntry} {J:List Fd->World->Prop} (w0:World) (hk:HV es) (hJs:∀ts w w' N,J ts w->Step allM w allM w' N->(∀k,k<w.heap.size->N k->w0.heap.size<=k/\Gf w k)->J ts w') (hJb:∀ts w,J ts w->w.heap[bs]? =some (.cells #[.map (some mb)] 238 (0,0))/\fM Tryz.prog 24 w mb es clock) (hy:∀ts w (t:Fd),J ts w->(∃e∈es,e.key=kv t)->t∉ts->ts.length<es.length->xR Tryz.prog yl [kv t].toArray w (λr w'=>r= .bool true/\J (ts++[t]) w'∧∃N,Step allM w allM w' N/\∀k,N k->¬Gf w k)) (h0:J [] w0):
  Spec Tryz.prog 187 #[.func (.yield yl) #[] #[],.pointer (some ⟨bs,0,none⟩)] w0 (λv w=>∃ts,J ts w/\ts.Nodup/\∀t,t∈ts↔∃e∈es,e.key=kv t):=by
 obtain⟨gb,hW⟩:=hJb _ _ h0;have hJ:=h0;clear h0;refine a8 (args:=[_,_]) (fn:=Tryz.f187) Tryz.func187 G (n:=14) Tryz.ntmps187 ?_;have S:Step allM w0 allM w0 allM:=(aV).ek a18 (λ_ _=>trivial);refine T.aP (aG lp G G G Ub G ?_);refine Rg.rangeMap allM lp G G hW (λbi w1 uI CR gi s1=>?_);replace s1:=s1.all;have:=ae gb;replace gb:=s1.aB gb;replace hJ:=hJs _ _ _ _ hJ s1 (λ_ _ h=>h.elim);have:=S.size;replace S:=S.ax s1;refine ad (aY ?_);refine dz (σ:=List Fd×Array Nat) (λs=>[(0,.func (.yield yl) #[] #[]),(1,.pointer (some ⟨bs,0,none⟩)),(5,.pointer (some ⟨bi,0,none⟩))]) (λs w=>J s.1 w/\Step allM w0 allM w allM/\w.heap[bi]? =some (.mapIter (some mb) clock s.2 clock)/\s.1.Nodup/\(∀e∈es,e.born∈s.2↔∃t∈s.1,e.key=kv t)/\(∀t∈s.1,∃e∈es,e.key=kv t)) (λs=>(es.filter λe=>decide (e.born∉s.2)).length) ([],#[]) a09 ?_ ?_
 ·exact⟨hJ,S,gi,List.nodup_nil,λe _=>by simp,λt h=>by cases h⟩
 ·rintro⟨ts,sn⟩ w ⟨hJ,S,gi,mu,hsn,kO⟩;dsimp only at hJ gi mu hsn kO ⊢;obtain⟨gb,hW⟩:=hJb _ _ hJ;refine T.aP ?_;refine Rg.Q6 (M:=allM) G gi trivial hW G (λVP QW tq To ox wN=>?_) (λagV=>?_)
  ·have gi0:=gi;replace gb:=wN.bR gb a03;replace hJ:=hJs _ _ _ _ hJ wN (λk hk h=>by have h:k=bi:=h;subst h;exact⟨uI,_,_,_,_,gi0⟩);have:=S.size;replace S:=S.trans wN (λk hk h=>by have h:_=_:=h;subst h;first|(exfalso;omega)|(show _<=_;omega)|exact .inl rfl|exact .inr rfl|exact .inr (.inl rfl)|exact .inr (.inr rfl)|exact .inr (.inr (.inl rfl))|exact rfl);have gi_:=ox;clear gi;have gi:=gi_;clear gi_;refine cq G G G (ad (aN (kJ G (aR (aY (T.aP (Rg.entry G gi (hJb _ _ hJ).2 tq G ?_)))))));obtain⟨t,Q8,ht1,QX⟩:=hk _ tq;have Uz:t∉ts:=λh=>To ((hsn _ tq).2 ⟨t,h,Q8⟩)
   have eK:ts.length<es.length:=by
    have h1:((t::ts).map kv).Nodup:=dV.2 ((List.nodup_cons.2 ⟨Uz,mu⟩).imp λh e=>h (uP e))
    have h2:=h1.length_le_of_subset (l₂:=es.map (·.key)) (λx hx=>by
     obtain⟨u,hu,rfl⟩:=cx.1 hx;rcases cY.1 hu with rfl|hu
     ·rw[<-Q8];exact fL tq
     ·obtain⟨e,he,h⟩:=kO u hu;rw[<-h];exact fL he)
    simp at h2;omega
   rw[Q8];refine cq G G G ?_;refine oQ (A:=RT.fd) (M:=aE) mi G G G G G (Ca ht1 QX) cf (Lt.none _) (λu2 w2 eS s2 z2=>?_);replace s2:=s2.all;have:=ae gb;replace gb:=s2.aB gb;have:=ae gi;replace gi:=s2.aB gi;replace hJ:=hJs _ _ _ _ hJ s2 (λ_ _ h=>h.elim);have:=S.size;replace S:=S.ax s2
   skip
   refine ad (T.aP (ab G G ?_));refine cv (A:=RT.fd) bK G mi q0 G G G eS cf (λv3 uQ=>?_);obtain rfl:=kh uQ;refine Rg.yield (vs:=[kv t]) G G G (hy _ _ t hJ ⟨_,tq,Q8⟩ Uz eK) (λr3 w3 hc=>?_);obtain⟨rfl,hJ3,N3,s3,hN3⟩:=hc;clear ox;replace gi:=s3.bR gi (λh=>hN3 _ h ⟨_,_,_,_,gi⟩);replace hJ:=hJ3;clear hJ3;obtain⟨gb,-⟩:=hJb _ _ hJ;replace S:=S.trans s3 (λ_ _ _=>trivial);refine iv G G (bh (v':= .bool false) G (ad (iS G (aR ?_))));refine⟨G,(ts++[t],sn.push VP.born),a09,?_,?_⟩
   ·have pJ:∀e∈es,e.born=VP.born↔e.key=kv t:=λe he=>by
     constructor
     ·intro h;rw[fM.Q7 hW he tq h,Q8]
     ·intro h;rw[fM.VO hW he tq (h.trans Q8.symm)]
    refine⟨hJ,S,gi,List.nodup_append.2 ⟨mu,by simp,λa ha b hb h=>by simp at hb;subst hb;subst h;exact Uz ha⟩,λe he=>?_,λu hu=>?_⟩
    ·rw[Array.mem_push,hsn e he,pJ e he];constructor
     ·rintro(⟨u,h1,h2⟩|h)
      ·exact⟨u,jM _ h1,h2⟩
      ·exact⟨t,by simp,h⟩
     ·rintro⟨u,h1,h2⟩;rcases dw.1 h1 with h1|h1
      ·exact .inl ⟨u,h1,h2⟩
      ·simp at h1;subst h1;exact .inr h2
    ·rcases dw.1 hu with hu|hu
     ·exact kO u hu
     ·simp at hu;subst hu;exact⟨_,tq,Q8⟩
   ·exact filter_lt (a:=VP) (λe _ h=>by simp only[decide_eq_true_eq,Array.mem_push,not_or]at h ⊢;exact h.1) tq (by simpa using To) (by simp)
  ·refine cq G G G (ad (aN (iS G (cQ ?_))))
   first|refine ig.nil ?_|simp+decide only[BA,pI,if_true,if_false]|skip
   exact jW rfl ⟨ts,hJ,mu,λt=>⟨kO t,fun⟨e,he,Q8⟩=>by obtain⟨t',h1,h2⟩:=(hsn e he).1 (agV e he);rw[<-uP (h2.symm.trans Q8)];exact h1⟩⟩
theorem fF.any {α:Type} {A:RT α} (hA:∀M w M' w' x vs,A.R M w x vs->A.R M' w' x vs) {M M':aH} {w w':World}:∀{xs:List α} {C:List Value},fF A M w xs C->fF A M' w' xs C
 |[],_,h=>h
 |x::xs,C,h=>by
  obtain⟨vs,r,h1,h2,h3⟩:=h;exact⟨vs,r,h1,hA _ _ _ _ _ _ h2,fF.any hA h3⟩
theorem Cc (M:aH) (w:World) (M':aH) (w':World) (x:Fd) (vs:List Value) (h:RT.fd.R M w x vs):RT.fd.R M' w' x vs:=h
theorem Own.HW {α:Type} {A:RT α} (hA:∀M w M' w' x vs,A.R M w x vs->A.R M' w' x vs) {e:TypeId} {M N:aH} {w w':World} {base:Nat} {v:Value} {xs:List α} (h:Own A e M w base v xs) (s:Step allM w allM w' N) (hn:∀b,v.ownBlock=some b->¬N b):Own A e (qG v) w' base v xs:=by
 obtain⟨⟨C,h1,h2⟩,_⟩:=h;refine⟨⟨C,⟨h1.1,?_⟩,fF.any hA h2⟩,λ_ h=>h⟩;rcases h1.2 with h3|⟨g,cap,cur,h3,h4,h5,h6,h7,h8⟩
 ·exact .inl h3
 ·exact .inr ⟨g,cap,cur,h3,h4,by rw[s.same g (ae h5) (hn g (by rw[h3];rfl))];exact h5,h6,h7,h8⟩
theorem Own.isCells {α:Type} {A:RT α} {e:TypeId} {M:aH} {w:World} {base b:Nat} {v:Value} {xs:List α} (h:Own A e M w base v xs) (hb:v.ownBlock=some b):∃cs,w.heap[b]? =some (.cells cs e (0,0)):=by
 obtain⟨⟨C,h1,_⟩,_⟩:=h;rcases h1.2 with h3|⟨g,cap,cur,h3,h4,h5,_⟩
 ·rw[h3.1]at hb;cases hb
 ·rw[h3]at hb;cases hb;exact⟨_,h5⟩
structure Aq (w0:World) (bt D:Nat) (st:Loop) (v:Value) (ts:List Fd) (w:World):Prop where
 S:Step allM w0 allM w aE
 c:w.heap[bt]? =some (.cells #[v] 183 (0,0))
 o:Own RT.fd 24 (qG v) w w0.heap.size v ts
 d:w.heap[D]? =some (.deferred (some []))
 r:w.heap[D+1]? =some (.loop st)
 hb:w0.heap.size<=bt
 hD:w0.heap.size<=D
theorem Aq.step {w0 w w':World} {bt D:Nat} {st:Loop} {v:Value} {ts:List Fd} {N:aH} (h:Aq w0 bt D st v ts w) (s:Step allM w allM w' N) (hN:∀k,k<w.heap.size->N k->w0.heap.size<=k/\Gf w k):Aq w0 bt D st v ts w':=by
 have no:∀{k o},w.heap[k]? =some o->(∀m s sn c,o≠ .mapIter m s sn c)->¬N k:=λhk ho hn=>by
  obtain⟨_,m,s,sn,c,h'⟩:=hN _ (ae hk) hn;rw[hk]at h';exact ho m s sn c (aK h')
 refine⟨h.S.trans s (λk hk hn=>?_),s.bR h.c (no h.c (by intros;simp)),h.o.HW Cc s (λb hb=>?_),s.bR h.d (no h.d (by intros;simp)),s.bR h.r (no h.r (by intros;simp)),h.hb,h.hD⟩
 ·have:=(hN k (Nat.lt_of_lt_of_le hk h.S.size) hn).1;omega
 ·obtain⟨cs,hc⟩:=h.o.isCells hb;exact no hc (by intros;simp)
theorem Aq.pq {w0 w:World} {bt D:Nat} {st st':Loop} {v:Value} {ts:List Fd} (h:Aq w0 bt D st v ts w):Aq w0 bt D st' v ts (w.putObj (D+1) (.loop st')):=by
 have s:Step allM w allM (w.putObj (D+1) (.loop st')) (λk=>k=D+1):=fY trivial;have hD:=h.hD;refine⟨h.S.trans s (λk hk hn=>by have hn:k=D+1:=hn;omega),s.bR h.c (λhn=>by have hn:bt=D+1:=hn;have h1:=h.c;rw[hn,h.r]at h1;cases h1),h.o.HW Cc s (λb hb hn=>?_),s.bR h.d (λhn=>by have hn:D=D+1:=hn;omega),by have:=ae h.r;simp[World.putObj,dv,this],h.hb,h.hD⟩;have hn:b=D+1:=hn;obtain⟨cs,hc⟩:=h.o.isCells hb;rw[hn,h.r]at hc;cases hc
theorem DW {bs mb clock:Nat} {es:List MapEntry} (w0:World) (hk:HV es) (hes:es.length<=100000000) (VQ:w0.heap[bs]? =some (.cells #[.map (some mb)] 238 (0,0))) (hW:fM Tryz.prog 24 w0 mb es clock):
  Spec Tryz.prog 252 #[.slice none 0 0,.func (.func 187) #[] [.pointer (some ⟨bs,0,none⟩)].toArray] w0 (λv w=>∃ts:List Fd,ts.Nodup/\(∀t,t∈ts↔∃e∈es,e.key=kv t)/\Own RT.fd 24 (qG v) w w0.heap.size v ts/\Step allM w0 allM w aE):=by
 refine sU (args:=[_,_]) (fn:=Tryz.f252) Tryz.func252 G (n:=13) Tryz.ntmps252 (T.aP ?_);refine o2 allM G G (λbt w1 uI apS gt s1=>?_);change w1.heap[bt]? =some (.cells #[.slice none 0 0] 183 (0,0))at gt;replace s1:=s1.all;refine Rg.bg G G (aN (T.aP (ab G G (ad (aY ?_)))));refine T.range (gf:=187) (lb:=[.pointer (some ⟨bs,0,none⟩)].toArray) G afF (λrec sO=>?_);obtain⟨D,hD⟩:∃D,D=w1.heap.size:=⟨_,rfl⟩;have sA:Step allM w1 allM ((w1.alloc (.deferred (some []))).alloc (.loop (rec .ready none))) aE:=(dT _ _ _).ax (dT _ _ _)
 have h0:Aq w0 bt D (rec .ready none) (.slice none 0 0) [] ((w1.alloc (.deferred (some []))).alloc (.loop (rec .ready none))):=by
  refine⟨s1.ax sA,sA.aB gt,eG _ _ _ _ _,?_,?_,uI,by rw[hD];exact s1.size⟩
  ·rw[hD];exact(dT allM (w1.alloc _) _).aB (dp w1 _)
  ·rw[hD];have:=dp (w1.alloc (.deferred (some []))) (.loop (rec .ready none));rwa [World.size_alloc]at this
 rw[<-hD]at sO ⊢;have hz:=h0.S.size;refine Spec.mono (Gg (J:=λts w=>∃v,Aq w0 bt D (rec .ready none) v ts w) _ hk (λts w w' N ⟨v,h⟩ s hN=>⟨v,h.step s (λk hk hn=>⟨du hz (hN k hk hn).1,(hN k hk hn).2⟩)⟩) (λts w ⟨v,h⟩=>⟨h.S.aB VQ,hW.bM h.S⟩) (λts wr t hJ kO Uz eK=>?_) ⟨_,h0⟩) (λ_ w3 h3=>?_)
 ·obtain⟨v,h⟩:=hJ;obtain⟨e,he,hke⟩:=kO;obtain⟨t',agX,ht1,QX⟩:=hk e he;obtain rfl:=uP (hke.symm.trans agX);have hzr:=ae h.r;refine ql (ps:=[7]) (vs:=[kv t]) sO h.r G q0 (aL ?_);refine oQ (A:=RT.fd) (M:=λk=>k=D+1) mi G G G G G (Ca ht1 QX) cf (λk hk=>by have hk:k=D+1:=hk;omega) (λu2 w2 eS s2 z2=>?_);replace s2:=s2.all
  skip
  refine ad (⟨G,s2.aB h.r,?_⟩);have h4:=(h.step s2 (λ_ _ h=>h.elim)).pq (st':=rec .busy none);have s3':Step (λk=>k=D+1) w2 (λk=>k=D+1) (w2.putObj (D+1) (.loop (rec .busy none))) (λk=>k=D+1):=fY rfl;have s3:=s3'.all;have KJ:=eS.le q0 s3'.le;clear s3';generalize w2.putObj (D+1) _=w4 at h4 s3 KJ ⊢;refine aY (aL (aG jA G G G h4.c G ?_));refine cv (A:=RT.fd) bK G mi q0 G G G KJ cf (λv3 uQ=>?_);obtain rfl:=kh uQ;refine fp (A:=RT.fd) (hn:=by decide) (M:=qG v) jA mi q0 G G (λb hb=>(h4.o.base b hb).2) (Ca ht1 QX) (.inl G) (λu5 w5 wL s5=>?_);refine dH (M:=qG v) (base:=w0.heap.size) jA mi rfl rfl rfl rfl (h4.o.bM s5) wL cf a08 a08 (du h4.S.size s5.size) (λv6 M6 w6 yK s6=>?_);have gc:=s6.all.bR (s5.all.aB h4.c) (λhn=>h4.o.fx h4.c q0 hn);refine cg (M:=allM) afl rfl rfl gc rfl (by obtain⟨_,_,he,_⟩:=yK.isSlice;rw[he];rfl) trivial (λw7 gc7 s7=>?_);refine ad ?_
  have agZ:∀k,qG v k->¬Gf wr k:=λk hk ⟨_,_,_,_,h9⟩=>by
   obtain⟨cs,hc⟩:=h.o.isCells hk;rw[hc]at h9;cases h9
  have pr:∀k,k<wr.heap.size->k=D+1->¬Gf wr k:=λk _ hk ⟨_,_,_,_,h9⟩=>by subst hk;rw[h.r]at h9;cases h9
  have pc:∀k,k<wr.heap.size->k=bt->¬Gf wr k:=λk _ hk ⟨_,_,_,_,h9⟩=>by subst hk;rw[h.c]at h9;cases h9
  have h7:Aq w0 bt D (rec .busy none) v6 (ts++[t]) w7:=by
   have nb:∀b,v6.ownBlock=some b->b≠bt:=λb hb hn=>by subst hn;exact yK.fx gc q0 hb
   refine⟨?_,gc7,yK.HW Cc s7 nb,?_,?_,h.hb,h.hD⟩
   ·refine((h4.S.ax s5.all).trans s6.all (λk hk hn=>?_)).trans s7 (λk hk hn=>?_)
    ·have:=(h4.o.base k hn).1;omega
    ·have hn:k=bt:=hn;have:=h.hb;omega
   ·exact s7.bR (s6.all.bR (s5.all.aB h4.d) (λhn=>by obtain⟨cs,hc⟩:=h4.o.isCells hn;rw[h4.d]at hc;cases hc)) (λhn=>by have hn:D=bt:=hn;have h1:=h.c;rw[<-hn,h.d]at h1;cases h1)
   ·exact s7.bR (s6.all.bR (s5.all.aB h4.r) (λhn=>by obtain⟨cs,hc⟩:=h4.o.isCells hn;rw[h4.r]at hc;cases hc)) (λhn=>by have hn:D+1=bt:=hn;have h1:=h.c;rw[<-hn,h.r]at h1;cases h1)
  have s8:Step allM w7 allM (w7.putObj (D+1) (.loop (rec .ready none))) (λk=>k=D+1):=fY trivial;exact⟨h7.r,G,⟨v6,h7.pq⟩,λk=>¬Gf wr k,(((((s2.ek a18 (λ_ _=>trivial)).trans s3 pr).ax s5.all).trans s6.all (λk _ hn=>agZ k hn)).trans s7 pc).trans s8 pr,λ_ h=>h⟩
 ·obtain⟨ts,⟨v,h⟩,mu,kO⟩:=h3;left;refine ⟨h.r,?_⟩;have h5:=h.pq (st':=rec .exhausted none);generalize w3.putObj (D+1) _=wE at h5 ⊢;refine T.aP (aG jA G G G h5.c G (Rg.bg G G (aJ ?_)));have sE:Step allM wE allM (wE.putObj D (.deferred none)) (λk=>k=D):=fY trivial;have hDD:=h.hD;exact FF G G h5.d ⟨ts,mu,kO,h5.o.HW Cc sE (λb hb hn=>by have hn:b=D:=hn;obtain⟨cs,hc⟩:=h5.o.isCells hb;rw[hn,h5.d]at hc;cases hc),h5.S.trans sE (λk hk hn=>by have hn:k=D:=hn;omega)⟩
theorem Cd {bs mb clock:Nat} {es:List MapEntry} (w0:World) (hk:HV es) (hes:es.length<=100000000) (VQ:w0.heap[bs]? =some (.cells #[.map (some mb)] 238 (0,0))) (hW:fM Tryz.prog 24 w0 mb es clock):
  Spec Tryz.prog 185 #[.func (.func 187) #[] [.pointer (some ⟨bs,0,none⟩)].toArray] w0 (λv w=>∃ts:List Fd,ts.Nodup/\(∀t,t∈ts↔∃e∈es,e.key=kv t)/\Own RT.fd 24 (qG v) w w0.heap.size v ts/\Step allM w0 allM w aE):=by
 refine a8 (args:=[_]) (fn:=Tryz.f185) Tryz.func185 G (n:=5) Tryz.ntmps185 (T.aP (Rg.bg G G (T.aP (ab G G ?_))));refine aQ G G afO (DW _ hk hes VQ hW) (λr w1 hc=>?_);refine Rg.bg G G (aJ ?_);exact aM G G hc
def cZ (t:Fd):List UInt8:=t.1++[0]++t.2
theorem MP {M:aH} {t:Fd} (w0:World) (hM:Lt M w0) (h1:t.1.length<=1000000) (h2:t.2.length<=1000000):
  Spec Tryz.prog 95 #[kv t] w0 (λv w=>v= .string ⟨(cZ t).toArray⟩/\Step M w0 M w aE):=by
 refine a8 (args:=[_]) (fn:=Tryz.f95) Tryz.func95 G (n:=9) Tryz.ntmps95 ?_;have S:Step M w0 M w0 aE:=aV;refine T.aP ?_;refine fD (A:=RT.fd) G G hM (Ca hV hV) G (λu0 w1 dF s0 _=>?_);replace hM:=s0.lt hM;have:=S.size;replace S:=S.ax s0;refine Rg.bg G G (T.aP ?_);refine ar (M:=M) (A:=RT.fd) (B:=RT.str) bK G G I9 q0 (KI) G G q0 Ub (by repeat (first|exact bI _ _|refine aX (bJ Ub) ?_)) (λAe kS=>?_);refine bP aA G G G G G kS cf (λv1 qH=>?_);obtain rfl:=ep qH;refine Rg.cat (p:=t.1) (q:=[0]) rfl rfl rfl a08 ?_;refine ar (M:=M) (A:=RT.fd) (B:=RT.str) bK G G I9 q0 (SP) G G q0 Ub (by repeat (first|exact bI _ _|refine aX (bJ Ub) ?_)) (λQV jY=>?_);refine bP aA G G G G G jY cf (λv4 pE=>?_);obtain rfl:=ep pE;refine Rg.cat (p:=t.1++[0]) (q:=t.2) rfl rfl rfl a08 (Rg.bg rfl rfl (aJ ?_));exact aM G G ⟨G,S⟩
theorem Ce (a b:List UInt8) (w:World):Spec Tryz.prog 147 #[.string ⟨a.toArray⟩,.string ⟨b.toArray⟩] w (λv w'=>v= .int .i64 (Lib.compareBytes a b)/\w'=w):=(Any.strings_Compare Tryz.QP ⟨a.toArray⟩ ⟨b.toArray⟩ w).mono λe w' ⟨h1,h2⟩=>⟨_,h1,rfl,h2⟩
section
variable {P:Program} {r:Option Nat} {n:Nat} {L:Sl} {ds:List Deferred} {w:World} {K:Kt} {ops:Array Oper} {rest:List Oper} {d:Nat} {x:Operand} {ty:TypeId} {pos:String} {af:Array Edge}
theorem jg.tE {id:Nat} {l:List Oper} (hm:P.follows .mixedOrders=true) (dK:eY l 0=true) (h:jg P r n l L ds (w.drewN 1) K):T P r n (.region id l.toArray true) L ds w K:=by
 refine ⟨λa ha=>wpIn_region_draw λt=> ?_⟩;simp only[Region.schedule,hm,Bool.true_or,if_true,Region.linearise];obtain⟨J,h1,h2,h3,h4⟩:=h a ha;refine lB (J:=J) dK (λ{D D' a w} hi hD=>h1 D D' a w hi hD) (λ{D a' w' j o rest} hj ho nW hp j2 hi hk=>h2 _ _ _ _ _ _ _ hj ho nW hp j2 hi hk) h3 _ t _ a _ (by simp) a97 (λi o h1 h2=>?_) (h1 _ _ _ _ h4 λi _=>?_)
 ·simp[Array.getElem?_replicate]at h2
 ·simp[Array.getElem?_replicate]
theorem T.VR {id:Nat} {l l':List Oper} (π:List Nat) (m:Nat) (fl:List Nat) (c:Nat) (N:aH) (hm:P.follows .mixedOrders=true) (Ll:AH π l=l') (vQ:eY l 0=true) (hπ:lG π l.length=true) (xH:Nat.blt m l'.length=true) (dK:eY l' 0=true) (sx:kV l' m=true) (zP:lE l' m fl c=true)
  (h:mA P r n l'.toArray (l'.take m) L ds (w.drewN 1) (λL'=>(∀j o,j∈fl->l'[j]? =some o->cH P N (w.drewN 1) L' o)/\ux P r n l'.toArray N (w.drewN 1) K c (l'.drop m) L' ds (w.drewN 1))):T P r n (.region id l.toArray true) L ds w K:=by
 subst Ll;exact jg.tE hm vQ (.perm π hπ vQ (C2 m fl c N xH dK sx zP h))
theorem Rg.VS {e:TypeId} {v:Value} (hx:ev L x=some v) (hd:Nat.blt d n=true) (k:Rg P r n ops rest ((d,.pointer (some ⟨w.heap.size,0,none⟩))::L) ds (w.alloc (.cells v.cells e (0,0))) K):
  Rg P r n ops ({dst:=some d,op:= .box e x,type:=ty,pos,after:=af,guard:=none}::rest) L ds w K:=by
 refine .op a04 G G hd _ (w.alloc (.cells v.cells e (0,0))) (λρ hρ=>?_) k;simp only[execOp,hρ x _ hx];simp[Instr.box,newVar,newRow,newObj,Sem.run]
theorem Gh (w:World) (o:Obj):w.alloc o=Go.Sort.grow w #[o]:=by
 unfold World.alloc Go.Sort.grow;congr 1
theorem Gi (w:World) (os:Array Obj) (q:Nat):(Go.Sort.grow w os).drewN q=Go.Sort.grow (w.drewN q) os:=rfl
end
abbrev ga (t:Fd):Obj:= .cells #[.string ⟨t.1.toArray⟩,.string ⟨t.2.toArray⟩] 24 (0,0)
theorem MQ {t:Fd} (w0:World) (h1:t.1.length<=1000000) (h2:t.2.length<=1000000):
  Spec Tryz.prog 95 #[kv t] w0 (λv w=>v= .string ⟨(cZ t).toArray⟩/\w=w0.alloc (ga t)):=by
 refine a8 (args:=[_]) (fn:=Tryz.f95) Tryz.func95 G (n:=9) Tryz.ntmps95 (T.aP (Rg.VS G G ?_));have gb:=dp w0 (ga t);change Rg _ _ _ _ _ _ _ (w0.alloc (ga t)) _;generalize hw:w0.alloc (ga t)=w1 at gb ⊢;refine Rg.bg G G (T.aP (aT (o':=0) bK G G I9 q0 rfl rfl (aG aA rfl rfl rfl gb rfl (Rg.cat (p:=t.1) (q:=[0]) rfl rfl rfl a08 (aT (o':=1) bK rfl rfl I9 q0 rfl rfl (aG aA rfl rfl rfl gb rfl (Rg.cat (p:=t.1++[0]) (q:=t.2) rfl rfl rfl a08 (Rg.bg rfl rfl ?_))))))));refine aJ ?_;exact ai8
theorem Q9 {s t:Fd} (w0:World) (h1:s.1.length<=1000000) (h2:s.2.length<=1000000) (h3:t.1.length<=1000000) (h4:t.2.length<=1000000):
  Spec Tryz.prog 146 #[kv s,kv t] w0 (λv w=>v= .int .i64 (Lib.compareBytes (cZ s) (cZ t))/\w=((((w0.alloc (ga s)).alloc (ga t)).drewN 1).alloc (ga s)).alloc (ga t)):=by
 refine a8 (args:=[_,_]) (fn:=Tryz.f146) Tryz.func146 G (n:=10) Tryz.ntmps146 (T.aP (Rg.VS G G ?_));change Rg _ _ _ _ _ _ _ (w0.alloc (ga s)) _;refine Rg.VS G G ?_;change Rg _ _ _ _ _ _ _ ((w0.alloc (ga s)).alloc (ga t)) _;have g1:((w0.alloc (ga s)).alloc (ga t)).heap[w0.heap.size]? =some (ga s):=(dT aE _ _).aB (dp w0 _);have g2:=dp (w0.alloc (ga s)) (ga t);have kp:=l9 aE (((w0.alloc (ga s)).alloc (ga t)).drewN 1);refine Rg.bg G G (aN ?_);apply T.VR [0,2,1,3,4,5] 2 [1] 1 aE mixed
 ·simp+decide only[AH,uz,fe,zR,zN,zO,uj,fA,pB,List.idxOf_cons,cond_true,cond_false,Nat.reduceBEq,Nat.reduceAdd,beq_self_eq_true];rfl
 ·rfl
 ·rfl
 ·rfl
 ·rfl
 ·rfl
 ·rfl
 have g1':(((w0.alloc (ga s)).alloc (ga t)).drewN 1).heap[w0.heap.size]? =some (ga s):=g1;have g2':(((w0.alloc (ga s)).alloc (ga t)).drewN 1).heap[(w0.alloc (ga s)).heap.size]? =some (ga t):=g2;refine eC (vs:=[.string ⟨s.1.toArray⟩,.string ⟨s.2.toArray⟩]) bK G mi G G G g1' (Rg.dm (eC (vs:=[.string ⟨t.1.toArray⟩,.string ⟨t.2.toArray⟩]) bK G mi G G G g2' (Rg.dm (gm (⟨j1 ⟨gD G Ub a92,trivial⟩,?_⟩)))));replace kp:=kp.vN (dT aE (((w0.alloc (ga s)).alloc (ga t)).drewN 1) (ga s));refine aQ G G E95 (MQ (t:=s) _ h1 h2) (λr5 w5 hc=>?_);obtain⟨rfl,rfl⟩:=hc;refine(fun(kp:fI _ _ _)=>ad ⟨G,G,λ_=>kp,?_⟩) a01;refine aQ G G E95 (MQ (t:=t) _ h3 h4) (λr6 w6 hc=>?_);obtain⟨rfl,rfl⟩:=hc;refine ad ⟨G,G,λh=>absurd G h,?_⟩;refine aQ G G afw (Ce _ _ _) (λr7 w7 hc=>?_);obtain⟨rfl,rfl⟩:=hc;refine ad ⟨G,G,λh=>absurd G h,aF G G (ad ⟨G,G,λh=>absurd G h,rq (aJ ?_)⟩)⟩;exact ai8
end Go.K
namespace Go.K
open Go.Lib (compareBytes)
theorem nJ (a b:UInt8) (x y:List UInt8):compareBytes (a::x) (b::y)=if a.toNat<b.toNat then-1 else if b.toNat<a.toNat then 1 else compareBytes x y:=by
 rw[compareBytes];simp only[UInt8.lt_iff_toNat_lt]
theorem yL:∀a,compareBytes a a=0
 |[]=>rfl
 |a::x=>by rw[nJ,if_neg (jR _),if_neg (jR _)];exact yL x
theorem qb:∀{a b},compareBytes a b=0->a=b
 |[],[],_=>rfl
 |[],_::_,h=>by simp[compareBytes]at h
 |_::_,[],h=>by simp[compareBytes]at h
 |a::x,b::y,h=>by
  rw[nJ]at h
  split at h
  ·omega
  ·split at h
   ·omega
   ·rw[qb h,UInt8.toNat_inj.1 (show a.toNat=b.toNat by omega)]
theorem oA:∀a b,compareBytes a b= -compareBytes b a
 |[],[]=>rfl
 |[],_::_=>rfl
 |_::_,[]=>rfl
 |a::x,b::y=>by
  rw[nJ,nJ,oA x y]
  split<;>split<;>first|omega|rfl
theorem qq:∀{a b c},compareBytes a b<0->compareBytes b c<0->compareBytes a c<0
 |[],[],_,h,_=>by simp[compareBytes]at h
 |_::_,[],_,h,_=>by simp[compareBytes]at h
 |_,_::_,[],_,h=>by simp[compareBytes]at h
 |[],_::_,_::_,_,_=>by simp[compareBytes]
 |a::x,b::y,c::z,h1,h2=>by
  rw[nJ]at h1 h2 ⊢
  split at h1
  ·split at h2
   ·rw[if_pos hV];omega
   ·split at h2
    ·omega
    ·rw[if_pos hV];omega
  ·split at h1
   ·omega
   ·split at h2
    ·rw[if_pos hV];omega
    ·split at h2
     ·omega
     ·rw[if_neg hV,if_neg hV];exact qq h1 h2
theorem HX {α:Type} (f:α->List UInt8):Go.Sort.SWO (Go.Proofs.ltOf λx y=>compareBytes (f x) (f y)) where
 irrefl x:=by simp[Go.Proofs.ltOf,yL]
 trans x y z h1 h2:=by
  simp only[Go.Proofs.ltOf,decide_eq_true_eq]at*
  exact qq h1 h2
 ntrans x y z h1 h2:=by
  simp only[Go.Proofs.ltOf,decide_eq_false_iff_not]at*
  intro h3;by_cases e1:compareBytes (f x) (f y)=0
  ·rw[qb e1]at h3;exact h2 h3
  ·by_cases e2:compareBytes (f y) (f z)=0
   ·rw[qb e2]at h1;exact h1 h3
   ·have n1:=oA (f x) (f y);have n2:=oA (f y) (f z);have n3:=oA (f x) (f z);have:compareBytes (f z) (f x)<0:=qq (b:=f y) hV hV;omega
end Go.K
namespace Go.Proofs
open Go.Shelf
def Tryz.Gj:Go.Shelf.Ren:=⟨fun|6=>186|15=>179|14=>253|28=>237|29=>238|20=>287|21=>288|22=>289|23=>290|24=>291|25=>292|26=>293|27=>294|46=>312|47=>276|48=>277|49=>313|50=>314|57=>322|n=>n,fun|22=>183|24=>24|25=>246|3=>3|39=>262|0=>0|53=>336|55=>205|4=>4|46=>330|45=>329|50=>198|5=>5|9=>9|66=>357|70=>361|76=>390|77=>276|n=>n,fun|n=>n⟩
theorem Tryz.MR:Go.Proofs.SlLaysF0.n6 Tryz.prog Tryz.Gj:={
 mixed:=by kernel_rfl
 f6:=⟨Tryz.f186.name,by decide,Tryz.func186.trans a02⟩
 f14:=⟨Tryz.f253.name,by decide,Tryz.func253.trans a02⟩
 f15:=Tryz.func179.trans a02
 f20:=⟨Tryz.f287.name,by decide,Tryz.func287.trans a02⟩
 f21:=⟨Tryz.f288.name,by decide,Tryz.func288.trans a02⟩
 f22:=⟨Tryz.f289.name,by decide,Tryz.func289.trans a02⟩
 f23:=⟨Tryz.f290.name,by decide,Tryz.func290.trans a02⟩
 f24:=⟨Tryz.f291.name,by decide,Tryz.func291.trans a02⟩
 f25:=⟨Tryz.f292.name,by decide,Tryz.func292.trans a02⟩
 f26:=⟨Tryz.f293.name,by decide,Tryz.func293.trans a02⟩
 f27:=⟨Tryz.f294.name,by decide,Tryz.func294.trans a02⟩
 f28:=Tryz.func237.trans a02
 f29:=Tryz.func238.trans a02
 f46:=⟨Tryz.f312.name,by decide,Tryz.func312.trans a02⟩
 f47:=Tryz.func276.trans a02
 f48:=Tryz.func277.trans a02
 f49:=⟨Tryz.f313.name,by decide,Tryz.func313.trans a02⟩
 f50:=⟨Tryz.f314.name,by decide,Tryz.func314.trans a02⟩
 f57:=⟨Tryz.f322.name,by decide,Tryz.func322.trans a02⟩
 t0:=zS
 a0:=Tryz.isAgg0
 z0:=Tryz.sizeOf0
 v0:=Tryz.zeroValue0
 t3:=ak
 a3:=Tryz.isAgg3
 z3:=Tryz.sizeOf3
 v3:=Tryz.zeroValue3
 t4:=zU
 a4:=Tryz.isAgg4
 z4:=Tryz.sizeOf4
 v4:=Tryz.zeroValue4
 t5:=cP
 a5:=Tryz.isAgg5
 z5:=Tryz.sizeOf5
 v5:=Tryz.zeroValue5
 t9:=aA
 a9:=Tryz.isAgg9
 z9:=zT
 v9:=mW
 t22:=jA
 a22:=Tryz.isAgg183
 z22:=Tryz.sizeOf183
 v22:=Tryz.zeroValue183
 t25:=Tryz.underlying246
 a25:=Tryz.isAgg246
 z25:=Tryz.sizeOf246
 v25:=Tryz.zeroValue246
 t39:=Tryz.underlying262
 a39:=Tryz.isAgg262
 z39:=Tryz.sizeOf262
 v39:=Tryz.zeroValue262
 t45:=Tryz.underlying329
 a45:=Tryz.isAgg329
 z45:=Tryz.sizeOf329
 v45:=Tryz.zeroValue329
 t46:=Tryz.underlying330
 a46:=Tryz.isAgg330
 z46:=Tryz.sizeOf330
 v46:=Tryz.zeroValue330
 t50:=Tryz.underlying198
 a50:=Tryz.isAgg198
 z50:=Tryz.sizeOf198
 v50:=Tryz.zeroValue198
 t53:=Tryz.underlying336
 a53:=Tryz.isAgg336
 z53:=Tryz.sizeOf336
 v53:=Tryz.zeroValue336
 t55:=ru
 a55:=Tryz.isAgg205
 z55:=Tryz.sizeOf205
 v55:=Tryz.zeroValue205
 t66:=Tryz.underlying357
 a66:=Tryz.isAgg357
 z66:=Tryz.sizeOf357
 v66:=Tryz.zeroValue357
 t70:=Tryz.underlying361
 a70:=Tryz.isAgg361
 z70:=Tryz.sizeOf361
 v70:=Tryz.zeroValue361
 t76:=Tryz.underlying390
 a76:=Tryz.isAgg390
 z76:=Tryz.sizeOf390
 v76:=Tryz.zeroValue390
 t77:=Tryz.underlying276
 a77:=Tryz.isAgg276
 z77:=Tryz.sizeOf276
 v77:=Tryz.zeroValue276}
end Go.Proofs
namespace Go.K
open Go.Proofs
set_option maxRecDepth 10000
open Go.Proofs Go.Sort
abbrev TK:Type:={t:Fd // (0:UInt8)∉t.1/\t.1.length<=1000000/\t.2.length<=1000000}
instance al6:Inhabited TK:=⟨⟨([],[]),by simp,by simp,by simp⟩⟩
def Ag (x:TK):List Value:=[.string ⟨x.1.1.toArray⟩,.string ⟨x.1.2.toArray⟩]
def KM (x y:TK):Int:=Lib.compareBytes (cZ x.1) (cZ y.1)
theorem yM:∀{a b x y:List UInt8},(0:UInt8)∉a->(0:UInt8)∉b->a++[0]++x=b++[0]++y->a=b/\x=y
 |[],[],_,_,_,_,h=>⟨rfl,by simpa using h⟩
 |[],c::b,_,_,_,hb,h=>by
  simp at h;exact absurd (by rw[<-h.1];exact bL ..) hb
 |c::a,[],_,_,ha,_,h=>by
  simp at h;exact absurd (by rw[h.1];exact bL ..) ha
 |c::a,e::b,x,y,ha,hb,h=>by
  simp only[ng,xB]at h;obtain⟨h1,h2⟩:=yM (λh=>ha (cn _ h)) (λh=>hb (cn _ h)) h.2;exact⟨by rw[h.1,h1],h2⟩
theorem ag0 (w:World):(isAgg 24).run Tryz.prog w= .ok true w:=by simp[isAgg,cA,run_underlying bK]
theorem aan (w:World):(Go.sizeOf 24).run Tryz.prog w= .ok 2 w:=by
 obtain⟨i,h1,_,h2,_⟩:=mi.get;simp[Go.sizeOf,typeInfo,cA,program,Sem.run,h1,h2]
theorem MS (me off size:Nat) (w:World):CmpLays Tryz.prog 146 #[] Ag 2 KM me off size w:=λm os dk hs x y=>
 (show Calls Tryz.prog 146 #[kv x.1,kv y.1] (sortWorldK Ag 2 w me off m dk os) (λe w'=>∃v,e= .returned v/\_/\_)from Q9 (s:=x.1) (t:=y.1) _ x.2.2.1 x.2.2.2 y.2.2.1 y.2.2.2).mono λe w' ⟨v,h1,h2,h3⟩=>⟨by rw[h1,h2];rfl,1,#[ga x.1,ga y.1,ga x.1,ga y.1],by rw[h3];simp only[Gh,Gi,Go.Sort.grow_grow];rfl⟩
theorem aao (me off cap:Nat) (d:Array TK) (w:World) (hH:HoldsK Ag 2 w me off d) (hblk:me<w.heap.size) (mg:d.size<4611686018427387904):
  Spec Tryz.prog 186 #[.slice (some ⟨me,off,none⟩) d.size cap,.func (.func 146) #[] #[]] w (λv w'=>v= .tuple #[]/\∃n os,w'=sortWorldK Ag 2 w me off n (d.toList.mergeSort λx y=> !(Go.Proofs.ltOf KM) y x).toArray os):=by
 exact(Go.Proofs.AnyQ.slices_SortFunc_total Tryz.MR 2 ag0 aan Ag (λ_=>rfl) (λx v hv=>by simp[Ag]at hv;rcases hv with rfl|rfl<;>rfl) KM (HX _) 146 #[] me off cap d w afv (MS me off d.size w) hH hblk mg (λx y h1 h2=>by
  have h0:KM x y=0:=by
   have:=oA (cZ x.1) (cZ y.1);simp only[Go.Proofs.ltOf,decide_eq_false_iff_not]at h1 h2;unfold KM at h1 h2 ⊢;omega
  have h3:=qb h0;obtain⟨h4,h5⟩:=yM x.2.1 y.2.1 h3;exact Subtype.ext (Prod.ext h4 h5))).mono λe w' ⟨h1,h2⟩=>⟨_,h1,G,h2⟩
end Go.K
namespace Go.K
set_option linter.unusedSectionVars false
open Go.Sort Go.Proofs
section
variable {α:Type} [Inhabited α] {enc:α->List Value} {k:Nat}
theorem vY (hk:∀x,(enc x).length=k) (h0:0<k):∀(l:List α) (t:Nat),(l.flatMap enc)[t]? =(l[t/k]?).bind λx=>(enc x)[t%k]?
 |[],t=>by simp
 |x::l,t=>by
  rw[List.flatMap_cons];rcases cK t k with h|h
  ·rw[List.getElem?_append_left (by rw[hk];exact h),Nat.div_eq_of_lt h,Nat.mod_eq_of_lt h];rfl
  ·rw[jq (by rw[hk];exact h),hk,vY hk h0 l];have e1:t/k=(t-k)/k+1:=by rw[Nat.div_eq t k,if_pos ⟨h0,h⟩]
   have e2:(t-k)%k=t%k:=by rw[Nat.mod_eq t k,if_pos ⟨h0,h⟩]
   rw[e1,e2,List.getElem?_cons_succ]
theorem qc (hk:∀x,(enc x).length=k):∀l:List α,(l.flatMap enc).length=l.length*k
 |[]=>by simp
 |x::l=>by rw[List.flatMap_cons,bG,hk,qc hk l,cz,Nat.add_mul];omega
theorem yN (hk:∀x,(enc x).length=k) (h0:0<k) (d:Array α) {t:Nat} (ht:t<d.size*k):(d.toList.flatMap enc)[t]? =some (flatK enc k d)[t]! :=by
 have h1:t/k<d.size:=Nat.div_lt_of_lt_mul (by rw[Nat.mul_comm];exact ht);have h2:t%k<k:=Nat.mod_lt _ h0;rw[vY hk h0,get_flatK _ _ _ _ ht];have e:d.toList[t/k]? =some d[t/k]! :=by simp[h1]
 rw[e];simp[hk,h2]
theorem JE {w:World} {g:Nat} {cur:Array Value} {e:TypeId} {d:Array α} (hk:∀x,(enc x).length=k) (h0:0<k) (hg:w.heap[g]? =some (.cells cur e (0,0))) (hC:cur.toList.take (d.size*k)=d.toList.flatMap enc):HoldsK enc k w g 0 d:=λj hj=>by
 rw[size_flatK]at hj;have h1:=yN hk h0 d hj;rw[<-hC,dI,if_pos hj,Array.getElem?_toList]at h1;constructor
 ·simp[World.cell?,hg,h1]
 ·simp[World.frozen?,hg]
theorem Ah {w:World} {g n:Nat} {cur:Array Value} {e:TypeId} {d:Array α} {os:Array Obj} (hg:w.heap[g]? =some (.cells cur e (0,0))):(sortWorldK enc k w g 0 n d os).heap[g]? =some (.cells (putCells id 0 (flatK enc k d) cur) e (0,0)):=by
 have eK:g<w.heap.size:=ae hg
 have h1:(w.heap.modify g (onCells (putCells id 0 (flatK enc k d))))[g]? =some (.cells (putCells id 0 (flatK enc k d) cur) e (0,0)):=by
  rw[ug,if_pos rfl,hg];rfl
 show((w.heap.modify g (onCells (putCells id 0 (flatK enc k d))))++os)[g]? =_;rw[Array.getElem?_append_left (by simpa using eK)];exact h1
theorem wT {w:World} {g n:Nat} {d:Array α} {os:Array Obj}:Step allM w allM (sortWorldK enc k w g 0 n d os) (λb=>b=g):=
 ⟨λh=>absurd (h w.heap.size trivial) (jR _),rfl,rfl,rfl,by show _<=((w.heap.modify g _)++os).size;simp,λ_ _=>Iff.rfl,λb hb hn=>by
  have hn: ¬b=g:=hn;show((w.heap.modify g (onCells (putCells id 0 (flatK enc k d))))++os)[b]? =_;rw[Array.getElem?_append_left (by simpa using hb),ug,if_neg (λh=>hn h.symm)],λ_ _=>trivial⟩
theorem Ai {F cur:Array Value} (h:F.size<=cur.size):(putCells id 0 F cur).toList.take F.size=F.toList:=by
 apply iD;intro j;rw[dI];by_cases hj:j<F.size
 ·rw[if_pos hj];simp[putCells,hj,Nat.lt_of_lt_of_le hj h]
 ·rw[if_neg hj,dE a90]
theorem Cf (hk:∀x,(enc x).length=k) (h0:0<k) (d:Array α):(flatK enc k d).toList=d.toList.flatMap enc:=by
 apply iD;intro j;by_cases hj:j<d.size*k
 ·rw[yN hk h0 d hj];have:j<(flatK enc k d).size:=by rw[size_flatK];exact hj
  rw[Array.getElem?_toList,getElem!_pos _ j this];exact Array.getElem?_eq_getElem this
 ·rw[dE (by rw[Array.length_toList,size_flatK];omega),dE (by rw[qc hk,Array.length_toList];omega)]
end
end Go.K
namespace Go.K
open Go.Proofs
set_option maxRecDepth 10000
open Go.Proofs Go.Sort
theorem HY:∀{ts:List Fd} {C:List Value} {M:aH} {w:World},fF RT.fd M w ts C->C=ts.flatMap λt=>[.string ⟨t.1.toArray⟩,.string ⟨t.2.toArray⟩]
 |[],C,_,_,h=>h
 |t::ts,C,_,_,⟨vs,r,h1,h2,h3⟩=>by
  obtain⟨va,vb,rfl,h4,h5⟩:=h2;rw[h1,HY h3,h4.1,h5.1];rfl
theorem DX {M:aH} {w:World}:∀{ts:List Fd},(∀t∈ts,t.1.length<=1000000/\t.2.length<=1000000)->fF RT.fd M w ts (ts.flatMap λt=>[.string ⟨t.1.toArray⟩,.string ⟨t.2.toArray⟩])
 |[],_=>rfl
 |t::ts,h=>by
  obtain⟨h1,h2⟩:=h t (bL ..);exact⟨_,_,rfl,⟨_,_,rfl,⟨rfl,by omega⟩,⟨rfl,by omega⟩⟩,DX λu hu=>h u (cn _ hu)⟩
def MT (us:List Fd):Prop:=us.Pairwise λa b=>¬Lib.compareBytes (cZ b) (cZ a)<0
theorem Aj {base:Nat} {v:Value} {ts:List Fd} (w0:World) (ho:Own RT.fd 24 (qG v) w0 base v ts) (hT:∀t∈ts,(0:UInt8)∉t.1/\t.1.length<=1000000/\t.2.length<=1000000) (hl:ts.length<=100000000):
  Spec Tryz.prog 186 #[v,.func (.func 146) #[] #[]] w0 (λr w=>r= .tuple #[]/\∃us:List Fd,us.Perm ts/\MT us/\Own RT.fd 24 (qG v) w base v us/\Step allM w0 allM w (qG v)):=by
 obtain⟨⟨C,⟨hC,hr⟩,hA⟩,hm⟩:=ho;rcases hr with⟨rfl,h0⟩|⟨g,cap,cur,rfl,hb,hg,hle,Yq,hcz,IX⟩
 ·have Lk:ts=[]:=cE.1 h0;subst Lk;exact(AnyF.slices_SortFunc_none Tryz.MR none 0 _ w0).mono λe w' ⟨h1,h2⟩=>⟨_,h1,rfl,[],.refl _,List.Pairwise.nil,eG _ _ _ _ _,by rw[h2];exact(Step.refl allM w0).ek a18 (λ_ _=>trivial)⟩
 ·obtain⟨d,hd⟩:∃d:Array TK,d.toList.map (·.1)=ts:=⟨(ts.attach.map λx=>(⟨x.1,hT x.1 x.2⟩:TK)).toArray,by rw[List.toList_toArray,List.map_map];exact List.attach_map_subtype_val ts⟩;have mg:d.size=ts.length:=by rw[<-hd];simp
  have hk:∀x:TK,(Ag x).length=2:=λ_=>rfl
  have VT:∀l:List TK,(l.map (·.1)).flatMap (λt:Fd=>[Value.string ⟨t.1.toArray⟩,.string ⟨t.2.toArray⟩])=l.flatMap Ag:=λl=>by rw[List.flatMap_map];rfl
  have hH:HoldsK Ag 2 w0 g 0 d:=JE hk hV hg (by
   have e2:RT.fd.n=2:=rfl;rw[e2]at IX;rw[mg,IX,HY hA,<-hd,VT])
  have hs:=aao g 0 cap d w0 hH (ae hg) hV;rw[mg]at hs;refine hs.mono λr w' ⟨h1,n,os,h2⟩=>⟨h1,(d.toList.mergeSort λx y=> !(ltOf KM) y x).map (·.1),?_,?_,?_,?_⟩
  ·rw[<-hd];exact(List.mergeSort_perm _ _).map _
  ·refine dV.2 ((List.pairwise_mergeSort (λa b c h1 h2=>?_) (λa b=>?_) _).imp λh=>?_)
   ·simp only[ltOf,rr,decide_eq_false_iff_not]at*
    have:=(HX λx:TK=>cZ x.1).ntrans c b a (by simpa[ltOf,KM]using h2) (by simpa[ltOf,KM]using h1);simpa[ltOf,KM]using this
   ·simp only[ltOf,Bool.or_eq_true,rr,decide_eq_false_iff_not];have:=oA (cZ a.1) (cZ b.1);unfold KM;omega
   ·rw[rr]at h;exact of_decide_eq_false h
  ·have hp:=List.mergeSort_perm d.toList λx y=> !(ltOf KM) y x
   rw[h2];generalize (d.toList.mergeSort λx y=> !(ltOf KM) y x)=us at hp;have hul:(us.map (·.1)).length=ts.length:=by rw[bW,hp.length_eq,Array.length_toList,mg]
   have CG:us.toArray.size*2=ts.length*2:=by rw[<-hul];simp
   have e2:RT.fd.n=2:=rfl;refine⟨⟨(us.map (·.1)).flatMap (λt:Fd=>[Value.string ⟨t.1.toArray⟩,.string ⟨t.2.toArray⟩]),⟨?_,.inr ⟨g,cap,_,by rw[hul],hb,Ah hg,by rw[hul];exact hle,Yq,by rw[<-hcz];simp[putCells],?_⟩⟩,DX λt ht=>?_⟩,hm⟩
   ·rw[VT,qc hk,bW,e2]
   ·rw[VT,hul,e2,<-CG,<-size_flatK Ag,Ai (by rw[size_flatK,CG,hcz,e2];omega),Cf hk hV]
   ·obtain⟨x,_,rfl⟩:=cx.1 ht;exact x.2.2
  ·rw[h2];exact wT.ek (λb hb=>by have hb:b=g:=hb;subst hb;rfl) (λ_ _=>trivial)
end Go.K
namespace Go.K
open Go.Proofs
set_option maxRecDepth 10000
theorem DY {bs mb clock:Nat} {es:List MapEntry} (w0:World) (hk:HV es) (hT:∀e∈es,∀t,e.key=kv t->(0:UInt8)∉t.1/\t.1.length<=1000000/\t.2.length<=1000000) (hes:es.length<=100000000) (hlen:∀ts:List Fd,ts.Nodup->(∀t∈ts,∃e∈es,e.key=kv t)->ts.length<=100000000) (VQ:w0.heap[bs]? =some (.cells #[.map (some mb)] 238 (0,0))) (hW:fM Tryz.prog 24 w0 mb es clock):
  Spec Tryz.prog 144 #[.func (.func 187) #[] [.pointer (some ⟨bs,0,none⟩)].toArray,.func (.func 146) #[] #[]] w0 (λv w=>∃us:List Fd,us.Nodup/\(∀t,t∈us↔∃e∈es,e.key=kv t)/\MT us/\Own RT.fd 24 (qG v) w w0.heap.size v us/\Step allM w0 allM w aE):=by
 refine a8 (args:=[_,_]) (fn:=Tryz.f144) Tryz.func144 G (n:=12) Tryz.ntmps144 (T.aP (Rg.bg G G (T.aP (ab G G ?_))));refine aQ G G afD (Cd _ hk hes VQ hW) (λv1 w1 hc=>?_);obtain⟨ts,mu,kO,ho,s1⟩:=hc;refine Rg.bg G G (T.aP (ab G G (ab G G ?_)));refine aQ rfl rfl afE (Aj _ ho (λt ht=>by obtain⟨e,he,hke⟩:=(kO t).1 ht;exact hT e he t hke) (hlen ts mu λt ht=>(kO t).1 ht)) (λr2 w2 hc=>?_);obtain⟨rfl,us,hp,Ql,hou,s2⟩:=hc;refine ad (T.aP (ab G G (Rg.bg G G (aJ ?_))));exact aM G G ⟨us,hp.nodup_iff.2 mu,λt=>hp.mem_iff.trans (kO t),Ql,hou,s1.trans s2 (λk hk hn=>by have:=(ho.base k hn).1;omega)⟩
theorem Gk {mb:Nat} (w0:World):
  Spec Tryz.prog 145 #[.map (some mb)] w0 (λv w=>∃bs,v= .func (.func 187) #[] [.pointer (some ⟨bs,0,none⟩)].toArray/\w.heap[bs]? =some (.cells #[.map (some mb)] 238 (0,0))/\w0.heap.size<=bs/\Step allM w0 allM w aE):=by
 refine a8 (args:=[_]) (fn:=Tryz.f145) Tryz.func145 G (n:=4) Tryz.ntmps145 (T.aP ?_);refine o2 allM G G (λbs w1 uI CR gs s1=>?_);change w1.heap[bs]? =some (.cells #[.map (some mb)] 238 (0,0))at gs;replace s1:=s1.all;refine Rg.bg G G (T.aP (jd (xs:=[]) (ys:=[.tmp 1]) G G G (Rg.bg G G (aJ ?_))));exact aM G G ⟨bs,G,gs,uI,s1⟩
def posOf (ts:List (Fd×Nat)) (t:Fd):List Int:=(ts.filter λp=>decide (p.1=t)).map λp=>(p.2:Int)
def seen (ts:List (Fd×Nat)):List Fd:=ts.foldl (λl p=>if p.1∈l then l else l++[p.1]) []
theorem JF (ts:List (Fd×Nat)) (t:Fd) (i:Nat):seen (ts++[(t,i)])=if t∈seen ts then seen ts else seen ts++[t]:=by unfold seen;rw[iE];rfl
theorem yO (ts:List (Fd×Nat)) (t t':Fd) (i:Nat):posOf (ts++[(t,i)]) t'=if t=t' then posOf ts t'++[(i:Int)]else posOf ts t':=by
 unfold posOf;rw[gZ];by_cases h:t=t'<;>simp[h]
theorem uR (ts:List (Fd×Nat)) (t:Fd):(posOf ts t).length<=ts.length:=by
 unfold posOf;rw[bW];exact fi _ _
abbrev kj:Value:= .slice none 0 0
structure JG (M:aH) (w:World) (B:Nat) (ts:List (Fd×Nat)) (es:List MapEntry):Prop where
 o:∀t v,eE kj es (kv t) v->Own (RT.int .i64) 3 M w B v (posOf ts t)
 a:∀t t' v v',t≠t'→eE kj es (kv t) v->eE kj es (kv t') v'→j6 v v'
 k:es.map (·.key)=(seen ts).map kv
theorem JG.bM {M M':aH} {w w':World} {B:Nat} {ts:List (Fd×Nat)} {es:List MapEntry} (h:JG M w B ts es) (s:Step M w M' w' aE):JG M' w' B ts es:=⟨λt v hv=>(h.o t v hv).bM s,h.a,h.k⟩
def IJ (bt mb B:Nat) (ts:List (Fd×Nat)) (M:aH) (w:World):Prop:=w.heap[bt]? =some (.cells #[.map (some mb)] 238 (0,0))/\M bt/\M mb/\B<=bt/\B<=mb/\∃es clock,fM Tryz.prog 24 w mb es clock/\JG M w B ts es
theorem Own.km {α:Type} {A:RT α} {e:TypeId} {M:aH} {w:World} {base b c:Nat} {a:Array MapEntry} {v:Value} {xs:List α} (h:Own A e M w base v xs) (hb:w.heap[b]? =some (.map a c)):v.ownBlock≠some b:=λhv=>by
 obtain⟨⟨C,h1,_⟩,_⟩:=h;rcases h1.2 with⟨h2,_⟩|⟨g,cap,cur,h2,_,h3,_⟩
 ·rw[h2]at hv;cases hv
 ·rw[h2]at hv;cases hv;rw[h3]at hb;cases hb
theorem tu {ts:List (Fd×Nat)} {es:List MapEntry} {t:Fd} (hk:es.map (·.key)=(seen ts).map kv):(∃e∈es,e.key=kv t)↔t∈seen ts:=by
 constructor
 ·rintro⟨e,he,h⟩;have:kv t∈(seen ts).map kv:=by rw[<-hk,<-h];exact fL he
  obtain⟨t',h1,h2⟩:=cx.1 this;rw[<-uP h2];exact h1
 ·intro h;have:kv t∈es.map (·.key):=by rw[hk];exact fL h
  obtain⟨e,h1,h2⟩:=cx.1 this;exact⟨e,h1,h2⟩
theorem JH {M:aH} {bt mb B:Nat} {ts:List (Fd×Nat)} {t:Fd} {i:Nat} (w0:World) (hM:Lt M w0) (h1:t.1.length<=900000) (h2:t.2.length<=140737488355328) (hi:i<=1000000) (Lk:ts.length<=10000000) (hJ:IJ bt mb B ts M w0):
  Spec Tryz.prog 143 #[kv t,.int .i64 (i:Int),.pointer (some ⟨bt,0,none⟩)] w0 (λv w=>∃M',Lt M' w/\IJ bt mb B (ts++[(t,i)]) M' w/\Step M w0 M' w (kT M B)):=by
 obtain⟨gb,ej,fj,hB,HZ,es,clock,hW,hI⟩:=hJ;refine a8 (args:=[_,_,_]) (fn:=Tryz.f143) Tryz.func143 G (n:=13) Tryz.ntmps143 ?_;have S:Step M w0 M w0 (kT M B):=(aV).ek a18 (λ_ h=>h.2);refine T.aP ?_;refine fD (A:=RT.fd) G G hM (Ca hV h2) G (λu0 w1 dF s0 _=>?_);have:=ae gb;replace ej:=(s0.mem _ this).2 ej;replace gb:=s0.aB gb;replace fj:=(s0.mem _ (ae hW.at_)).2 fj;replace hW:=hW.bM s0;replace hI:=hI.bM s0;replace hM:=s0.lt hM;have:=S.size;replace S:=S.ax s0;refine ad (aL (aG lp G G G Ub G ?_));refine cv (A:=RT.fd) bK G mi q0 G G G dF cf (λv1 qH=>?_);obtain rfl:=kh qH;refine ab G G ?_;refine fp (A:=RT.int .i64) (hn:=by decide) (M:=M) av I3 q0 G G hM (gV hV) (.inr ⟨G,G⟩) (λQV Jq jY s1_3=>?_);have:=ae gb;replace ej:=(s1_3.mem _ this).2 ej;replace gb:=s1_3.aB gb;replace dF:=dF.le q0 s1_3.le;replace fj:=(s1_3.mem _ (ae hW.at_)).2 fj;replace hW:=hW.bM s1_3;replace hI:=hI.bM s1_3;replace hM:=s1_3.lt hM;have:=S.size;replace S:=S.ax s1_3;obtain⟨kl,Fs⟩:=ML t hV h2;refine Rg.mapEntry (M:=M) (zv:=kj) lp AW pb G G G Fs hW fj (λw4 es4 cl4 v s Yr hv kO JI C1 s4=>?_);have hmo:∀t v,eE kj es (kv t) v->v.ownBlock≠some mb:=λt v h=>(hI.o t v h).km hW.at_
 have Tp:bt≠mb:=λe=>by subst e;have:=hW.at_;rw[gb]at this;cases this
 replace hI:JG M w4 B ts es:=⟨λt v hv=>(hI.o t v hv).step s4 (λb hb hk=>hmo t v hv (by have hk:b=mb:=hk;rw[<-hk];exact hb)),hI.a,hI.k⟩;have aar:=(s4.mem _ (ae hW.at_)).2 fj;replace ej:=(s4.mem _ (ae gb)).2 ej;replace gb:=s4.bR gb Tp;replace jY:=jY.le s4.le;replace hM:=s4.lt hM;have hmM:∀b,b<w0.heap.size->M b->M b:=λb hb h=>(S.mem b hb).1 h
 have hz0:=S.size;replace S:=S.trans s4 (λk hk h=>by have h:k=mb:=h;subst h;exact⟨HZ,hmM k hk fj⟩);have rf:=hI.o t v hv;have xg:=uR ts t;refine cq G G G ?_;refine Rg.mv (M:=M) (base:=B) av I3 rfl rfl rfl rfl rf jY cf a08 a08 (by have:=ae gb;omega) (λv6 w6 yK s6 hF=>?_);have hblk:∀b,me v b->B<=b/\M b:=λb h=>⟨(rf.base b h).1,rf.mut_ b h⟩
 have Ra:∀t' v',t'≠t->eE kj es (kv t') v'→j6 v' v:=λt' v' fq qR=>hI.a t' t v' v fq qR hv
 have Rb:∀t' v',t'≠t->eE kj es (kv t') v'→Own (RT.int .i64) 3 (lx M v6) w6 B v' (posOf ts t'):=λt' v' fq qR=>(hI.o t' v' qR).step s6 (λb hb hk=>Ra t' v' fq qR b hb hk)
 have mg:∀t' v',eE kj es (kv t') v'→∀b,v'.ownBlock=some b->b<w4.heap.size:=λt' v' qR b hb=>((hI.o t' v' qR).base b hb).2
 have MU:∀t' v',t'≠t->eE kj es (kv t') v'→j6 v6 v':=λt' v' fq qR=>(Ra t' v' fq qR).symm.grown hF (mg t' v' qR)
 have ag1:v.ownBlock≠some mb:=rf.km Yr.at_;have MV:=(s6.mem _ (ae Yr.at_)).2 aar;replace Yr:=Yr.step s6 ag1;replace ej:=(s6.mem _ (ae gb)).2 ej;replace gb:=s6.bR gb (λh=>rf.fx gb q0 h);replace hM:=s6.lt hM;have ag2:∀b,b<w0.heap.size->M b->M b:=λb hb h=>(S.mem b hb).1 h
 replace S:=S.trans s6 (λk hk h=>⟨(hblk k h).1,ag2 k hk (hblk k h).2⟩);refine cq G G G ?_;have aas:=Yr.at_;refine Rg.entryStore G G G Yr MV kO (λw8 es8 hW8 oV aat s8=>?_);have hm8:v6.ownBlock≠some mb:=yK.km aas;replace yK:=yK.step s8 (λb hb hk=>hm8 (by have hk:b=mb:=hk;rw[<-hk];exact hb));have aau:∀t' v',t'≠t->eE kj es (kv t') v'→Own (RT.int .i64) 3 _ w8 B v' (posOf ts t'):=λt' v' fq qR=>(Rb t' v' fq qR).step s8 (λb hb hk=>hmo t' v' qR (by have hk:b=mb:=hk;rw[<-hk];exact hb))
 have aav:=(s8.mem _ (ae aas)).2 MV;refine ad ?_
 first|refine ig.nil ?_|simp+decide only[BA,pI,if_true,if_false]|skip
 replace ej:=(s8.mem _ (ae gb)).2 ej;replace gb:=s8.bR gb Tp;replace hM:=s8.lt hM;replace S:=S.trans s8 (λk hk h=>by have h:k=mb:=h;subst h;exact⟨HZ,(S.mem k hk).1 MV⟩)
 have rh:∀t1 v1,eE kj es8 (kv t1) v1->(t1=t/\v1=v6)\/(t1≠t/\eE kj es (kv t1) v1):=λt1 v1 qH=>by
  rcases(aat kj (kv t1) v1).1 qH with⟨h3,h4⟩|⟨h3,h4⟩
  ·exact .inl ⟨uP h3,h4⟩
  ·exact .inr ⟨λe=>h3 (by rw[e];rfl),(JI (kv t1) v1).1 h4⟩
 refine jW G ⟨_,hM,⟨gb,ej,aav,hB,HZ,es8,_,hW8,⟨λt1 v1 qH=>?_,λt1 t2 v1 v2 fq qH CO=>?_,?_⟩⟩,S⟩
 ·rcases rh t1 v1 qH with⟨rfl,rfl⟩|⟨h3,h4⟩
  ·rw[yO,if_pos rfl];exact yK
  ·rw[yO,if_neg (λe=>h3 e.symm)];exact aau t1 v1 h3 h4
 ·rcases rh t1 v1 qH with⟨rfl,rfl⟩|⟨h3,h4⟩
  ·rcases rh t2 v2 CO with⟨rfl,_⟩|⟨h5,h6⟩
   ·exact absurd G fq
   ·exact MU t2 v2 h5 h6
  ·rcases rh t2 v2 CO with⟨rfl,rfl⟩|⟨h5,h6⟩
   ·exact(MU t1 v1 h3 h4).symm
   ·exact hI.a t1 t2 v1 v2 fq h4 h6
 ·rw[oV,JF];rcases C1 with⟨h3,h4⟩|⟨h3,h4⟩
  ·rw[h3,hI.k,if_pos ((tu hI.k).1 h4)]
  ·rw[h3,hI.k,if_neg (λh=>by obtain⟨e,he,hk⟩:=(tu hI.k).2 h;exact h4 e he hk)];simp[kv]
end Go.K
namespace Go.K
open Go.Maps (Keyed)
open Go.Lib (compareBytes)
theorem DZ:∀a b:List UInt8,Op.bytesLess a b=decide (compareBytes a b<0)
 |[],[]=>by simp[Op.bytesLess,compareBytes]
 |_::_,[]=>by simp[Op.bytesLess,compareBytes]
 |[],_::_=>by simp[Op.bytesLess,compareBytes]
 |a::x,b::y=>by
  rw[Op.bytesLess,DZ x y,nJ];by_cases h1:a.toNat<b.toNat
  ·simp[UInt8.lt_iff_toNat_lt,h1]
  ·by_cases h2:b.toNat<a.toNat
   ·have: ¬a=b:=λe=>by subst e;omega
    simp[UInt8.lt_iff_toNat_lt,h1,h2,this]
   ·have:a=b:=UInt8.toNat_inj.1 hV;simp[UInt8.lt_iff_toNat_lt,h1,h2,this]
theorem qd (a b:List UInt8):compareBytes a b<0↔a<b:=by
 have h:=DZ a b;rw[Go.Proofs.bytesLess_eq]at h;exact(decide_eq_decide.1 h).symm
theorem jZ (a:List UInt8): ¬a<a:=λh=>by have:=(qd a a).2 h;rw[yL]at this;omega
theorem nK {a b c:List UInt8} (h:a<b) (h':b<c):a<c:=(qd _ _).1 (qq ((qd _ _).2 h) ((qd _ _).2 h'))
theorem mH (a b:List UInt8):a<b\/a=b\/b<a:=by
 rcases Int.lt_trichotomy (compareBytes a b) 0 with h|h|h
 ·exact .inl ((qd _ _).1 h)
 ·exact .inr (.inl (qb h))
 ·exact .inr (.inr ((qd _ _).1 (by rw[oA];omega)))
theorem j0 {a b:List UInt8} (h:a<b): ¬b<a:=λh'=>jZ a (nK h h')
theorem Gl {a b:List UInt8}:a<=b↔¬b<a:=Iff.rfl
section
variable {P:Program} {r:Option Nat} {n:Nat} {L:Sl} {ds:List Deferred} {w:World} {K:Kt} {ops:Array Oper} {rest:List Oper} {d:Nat} {x y:Operand} {ty:TypeId} {pos:String} {af:Array Edge}
theorem Rg.ag4 {t t':TypeId} {p q:List UInt8} (hx:ev L x=some (.string ⟨p.toArray⟩)) (hy:ev L y=some (.string ⟨q.toArray⟩)) (hd:Nat.blt d n=true)
  (k:Rg P r n ops rest ((d,.bool (decide (q<p)))::L) ds w K):
  Rg P r n ops ({dst:=some d,op:= .binOp .gtr t x y t',type:=ty,pos,after:=af,guard:=none}::rest) L ds w K:=
 .op a04 rfl rfl hd _ w (λρ h=>by
  have e:(!(decide (p<q)||p==q))=decide (q<p):=by
   rcases mH p q with h|h|h
   ·simp[h,j0 h]
   ·subst h;simp[jZ]
   ·have: ¬p=q:=λe=>by subst e;exact jZ p h
    simp[h,j0 h,this]
  simp only[execOp];rw[h x _ hx,h y _ hy];simp only[binOp,Op.stringOp,jT,Go.Proofs.bytesLess_eq,e];simp[eqGuard]) k
theorem Rg.VU {t t':TypeId} {p q:List UInt8} (hx:ev L x=some (.string ⟨p.toArray⟩)) (hy:ev L y=some (.string ⟨q.toArray⟩)) (hd:Nat.blt d n=true)
  (k:Rg P r n ops rest ((d,.bool (decide (¬p<q)))::L) ds w K):
  Rg P r n ops ({dst:=some d,op:= .binOp .geq t x y t',type:=ty,pos,after:=af,guard:=none}::rest) L ds w K:=
 .op a04 rfl rfl hd _ w (λρ h=>by
  have e:(!decide (p<q))=decide (¬p<q):=by by_cases h:p<q<;>simp[h]
  simp only[execOp];rw[h x _ hx,h y _ hy];simp only[binOp,Op.stringOp,jT,Go.Proofs.bytesLess_eq,e];simp[eqGuard]) k
theorem Rg.VV {t t':TypeId} {p q:List UInt8} (hx:ev L x=some (.string ⟨p.toArray⟩)) (hy:ev L y=some (.string ⟨q.toArray⟩)) (hd:Nat.blt d n=true)
  (k:Rg P r n ops rest ((d,.bool (decide (¬q<p)))::L) ds w K):
  Rg P r n ops ({dst:=some d,op:= .binOp .leq t x y t',type:=ty,pos,after:=af,guard:=none}::rest) L ds w K:=
 .op a04 rfl rfl hd _ w (λρ h=>by
  have e:(decide (p<q)||p==q)=decide (¬q<p):=by
   rcases mH p q with h|h|h
   ·simp[h,j0 h]
   ·subst h;simp[jZ]
   ·have: ¬p=q:=λe=>by subst e;exact jZ p h
    simp[h,j0 h,this]
  simp only[execOp];rw[h x _ hx,h y _ hy];simp only[binOp,Op.stringOp,jT,Go.Proofs.bytesLess_eq,e];simp[eqGuard]) k
end
abbrev Gm (l:List (List UInt8)):Prop:=l.Pairwise (· < ·)
theorem JJ {ss:List (List UInt8)} (h:ss.Nodup):Gm (ss.mergeSort λx y=>decide (x<=y)):=by
 have h1:(ss.mergeSort λx y=>decide (x<=y)).Pairwise (λx y=>decide (x<=y)=true):=List.pairwise_mergeSort (λa b c h1 h2=>by
  simp only[decide_eq_true_eq,Gl]at h1 h2 ⊢;intro h3;rcases mH a b with h|h|h
  ·exact h2 (nK h3 h)
  ·subst h;exact h2 h3
  ·exact h1 h) (λa b=>by
  simp only[Bool.or_eq_true,decide_eq_true_eq,Gl];rcases mH a b with h|h|h
  ·exact .inl (j0 h)
  ·subst h;exact .inl (jZ a)
  ·exact .inr (j0 h)) ss
 have h2:(ss.mergeSort λx y=>decide (x<=y)).Nodup:=(List.mergeSort_perm ss _).nodup_iff.2 h;refine (h1.and h2).imp ?_;rintro a b ⟨h3,h4⟩;simp only[decide_eq_true_eq,Gl]at h3;rcases mH a b with h|h|h
 ·exact h
 ·exact absurd h h4
 ·exact absurd h h3
theorem Gm.nodup {l:List (List UInt8)} (h:Gm l):l.Nodup:=h.imp λ{a b} h e=>by subst e;exact jZ a h
theorem MW {α:Type} {R:α->α->Prop} (hR:∀a b,R a b->R b a->a=b) {l l':List α} (h:l.Pairwise R) (h':l'.Pairwise R) (hn:l.Nodup) (SS:l'.Nodup) (hm:∀x,x∈l↔x∈l'):l=l':=
 List.Perm.eq_of_pairwise (λa b _ _ h1 h2=>hR a b h1 h2) h h' ((List.perm_ext_iff_of_nodup hn SS).2 hm)
theorem VW {l l':List (List UInt8)} (h:Gm l) (h':Gm l') (hm:∀x,x∈l↔x∈l'):l=l':=
 MW (λa b h1 h2=>absurd h2 (j0 h1)) h h' h.nodup h'.nodup hm
abbrev sv (k:List UInt8):Value:= .string ⟨k.toArray⟩
theorem Cg {a b:List UInt8} (h:sv a=sv b):a=b:=by simpa[sv]using h
def Gn:Value->Option (DU×List MemPlace):=λ_=>some (.nil,[])
theorem fM.ag5 {P:Program} {kt:TypeId} {M:aH} {w:World} {b:Nat} {es:List MapEntry} {clock:Nat} (hk:P.underlying kt=some .string) (h:fM P kt w b es clock) (hm:M b) (hl:es.length<=maxLen) (ks:List (List UInt8)) (BX:es.map (·.key)=ks.map sv):
  ∃m:List (Lit×DU),Zg P kt Gn M w b m/\(strKeys (DataW.map m)).Perm ks/\m.length=ks.length:=by
 have hF:Go.WideElems.Fit P kt Gn es.toArray clock:=by
  refine⟨by simpa using hl,⟨λx hx=>h.lt x ad1,?_,?_⟩,λx hx=>?_⟩
  ·simpa[List.Nodup,dV]using h.born
  ·simpa[List.Nodup,dV]using h.keys
  ·obtain⟨l,hl⟩:=h.ok x ad1;exact⟨(l,.nil),by simp[Go.WideElems.rd,hl,Gn]⟩
 have hp:=Go.WideShapes.sorted_perm (es.toArray.toList.map (Go.WideElems.rg P kt Gn));have hlen:(List.foldr DataW.insert [] (es.toArray.toList.map (Go.WideElems.rg P kt Gn))).length=es.length:=by rw[hp.length_eq];simp
 refine⟨_,⟨hm,es.toArray,clock,h.at_,hF,by rw[hlen];simp,rfl⟩,?_,?_⟩
 ·refine (hp.map λp=>strOf p.1).trans ?_;rw[List.map_map]
  have e:es.toArray.toList.map ((λp=>strOf p.1)∘Go.WideElems.rg (H:=Unit) P kt Gn)=ks:=by
   refine iD λi=>?_
   have hi:=congrArg (·[i]?) BX;simp only[eN]at hi ⊢
   cases he:es[i]? with
   |none=>
    rw[he]at hi
    cases ag6:ks[i]? with
    |none=>simp[he]
    |some a=>rw[ag6]at hi;cases hi
   |some e=>
    rw[he]at hi;obtain⟨l,hl⟩:=h.ok e (ao he);obtain⟨s,hs,h1⟩:=Option.map_eq_some_iff.1 hi.symm;obtain⟨z,hz1,hz2,_⟩:=Maps.keyOf_str hk hl;have:z=s:=Cg (hz1.symm.trans (by simpa using h1.symm));subst this;simp[he,hs,Go.WideElems.rg,Go.WideElems.rd,hl,Gn,hz2,strOf]
  rw[e]
 ·rw[hlen];have:=congrArg List.length BX;simpa using this
end Go.K
namespace Go.K
open Go.Lib (compareBytes)
def qe {α:Type} [DecidableEq α] (key:α->List UInt8) (t:α):List α->List α
 |[]=>[t]
 |u::l=>if key t<key u then t::u::l else if u=t then u::l else u::qe key t l
theorem qt {α:Type} [DecidableEq α] {key:α->List UInt8} {t x:α}:∀{l:List α},x∈qe key t l↔x=t\/x∈l
 |[]=>by simp[qe]
 |u::l=>by
  unfold qe
  split
  ·simp
  ·split
   ·rename_i h;subst h;simp
   ·rw[cY,qt (l:=l),cY];constructor
    ·rintro(h|h|h)
     ·exact .inr (.inl h)
     ·exact .inl h
     ·exact .inr (.inr h)
    ·rintro(h|h|h)
     ·exact .inr (.inl h)
     ·exact .inl h
     ·exact .inr (.inr h)
abbrev Ch {α:Type} (key:α->List UInt8) (l:List α):Prop:=l.Pairwise λa b=>key a<key b
theorem D0 {α:Type} [DecidableEq α] {key:α->List UInt8} {t:α}:∀{l:List α},(∀u∈l,key u=key t->u=t)->Ch key l->Ch key (qe key t l)
 |[],_,_=>by simp[qe]
 |u::l,hi,h=>by
  have h':=jr.1 h;unfold qe
  split
  ·rename_i eK
   refine jr.2 ⟨λx hx=>?_,h⟩;rcases cY.1 hx with rfl|hx
   ·exact eK
   ·exact nK eK (h'.1 x hx)
  ·rename_i eK
   split
   ·exact h
   ·rename_i fq
    have hut:key u<key t:=by
     rcases mH (key u) (key t)with h1|h1|h1
     ·exact h1
     ·exact absurd (hi u (bL ..) h1) fq
     ·exact absurd h1 eK
    refine jr.2 ⟨λx hx=>?_,D0 (λv hv=>hi v (cn _ hv)) h'.2⟩;rcases qt.1 hx with rfl|hx
    ·exact hut
    ·exact h'.1 x hx
def allBy {α:Type} [DecidableEq α] (key:α->List UInt8) (l:List α):List α:=l.foldl (λa t=>qe key t a) []
theorem tv {α:Type} [DecidableEq α] {key:α->List UInt8} {S:α->Prop} (hS:∀a b,S a->S b->key a=key b->a=b):∀(l a:List α),(∀x∈l,S x)->(∀x∈a,S x)->Ch key a->
  Ch key (l.foldl (λa t=>qe key t a) a)/\∀x,x∈l.foldl (λa t=>qe key t a) a↔x∈a\/x∈l
 |[],a,_,_,h=>⟨h,λx=>by simp⟩
 |t::l,a,hl,ha,h=>by
  have ht:=hl t (bL ..)
  obtain⟨h1,h2⟩:=tv hS l (qe key t a) (λx hx=>hl x (cn _ hx)) (λx hx=>by
   rcases qt.1 hx with rfl|hx
   ·exact ht
   ·exact ha x hx) (D0 (λu hu e=>hS _ _ (ha u hu) ht e) h)
  refine ⟨h1,λx=> ?_⟩;rw[pC,h2,qt,cY];constructor
  ·rintro((h|h)|h)
   ·exact .inr (.inl h)
   ·exact .inl h
   ·exact .inr (.inr h)
  ·rintro(h|h|h)
   ·exact .inl (.inr h)
   ·exact .inl (.inl h)
   ·exact .inr h
theorem Ch.nodup {α:Type} {key:α->List UInt8} {l:List α} (h:Ch key l):l.Nodup:=h.imp λ{a b} h e=>by subst e;exact jZ _ h
abbrev KN (t:Fd):Prop:=(0:UInt8)∉t.1
theorem tw {a b:Fd} (ha:KN a) (hb:KN b) (h:cZ a=cZ b):a=b:=by
 obtain⟨h1,h2⟩:=yM ha hb h;exact Prod.ext h1 h2
def dG (tl:List (Fd×Nat)):List Fd:=allBy cZ (tl.map (·.1))
theorem tx {tl:List (Fd×Nat)} (hz:∀p∈tl,KN p.1):Ch cZ (dG tl):=
 (tv (S:=KN) (λ_ _=>tw) _ [] (λx hx=>by obtain⟨p,hp,rfl⟩:=cx.1 hx;exact hz p hp) (λx h=>by cases h) List.Pairwise.nil).1
theorem iG {tl:List (Fd×Nat)} (hz:∀p∈tl,KN p.1) {t:Fd}:t∈dG tl↔t∈tl.map (·.1):=by
 have:=(tv (S:=KN) (key:=cZ) (λ_ _=>tw) (tl.map (·.1)) [] (λx hx=>by obtain⟨p,hp,rfl⟩:=cx.1 hx;exact hz p hp) (λx h=>by cases h) List.Pairwise.nil).2 t;simpa[dG,allBy]using this
theorem H0 (t:Fd):∀(ts:List (Fd×Nat)) (l:List Fd),t∈ts.foldl (λl p=>if p.1∈l then l else l++[p.1]) l↔t∈l\/t∈ts.map (·.1)
 |[],l=>by simp
 |p::ts,l=>by
  rw[pC,H0 t ts,fe,cY]
  split
  ·rename_i h
   constructor
   ·rintro(h1|h1)
    ·exact .inl h1
    ·exact .inr (.inr h1)
   ·rintro(h1|h1|h1)
    ·exact .inl h1
    ·exact .inl (by rw[h1];exact h)
    ·exact .inr h1
  ·rw[dw,cO];constructor
   ·rintro((h1|h1)|h1)
    ·exact .inl h1
    ·exact .inr (.inl h1)
    ·exact .inr (.inr h1)
   ·rintro(h1|h1|h1)
    ·exact .inl (.inl h1)
    ·exact .inl (.inr h1)
    ·exact .inr h1
theorem tz {tl:List (Fd×Nat)} {t:Fd}:t∈seen tl↔t∈tl.map (·.1):=by unfold seen;rw[H0];simp
theorem D1 {tl:List (Fd×Nat)} {us:List Fd} (hz:∀p∈tl,KN p.1) (mu:us.Nodup) (kO:∀t,t∈us↔t∈seen tl) (Ql:MT us):us=dG tl:=by
 have hm:∀t,t∈us↔t∈dG tl:=λt=>by rw[kO,tz,iG hz]
 have jB:∀t∈dG tl,KN t:=λt ht=>by obtain⟨p,hp,rfl⟩:=cx.1 ((iG hz).1 ht);exact hz p hp
 refine List.Perm.eq_of_pairwise (le:=λa b=>¬compareBytes (cZ b) (cZ a)<0) (λa b ha hb h1 h2=>?_) Ql ((tx hz).imp λ{a b} h h'=>j0 h ((qd _ _).1 h')) ((List.perm_ext_iff_of_nodup mu (tx hz).nodup).2 hm);rw[qd]at h1 h2;rcases mH (cZ a) (cZ b)with h|h|h
 ·exact absurd h h2
 ·exact tw (jB a ((hm a).1 ha)) (jB b hb) h
 ·exact absurd h h1
theorem oB (a b:List (Fd×Nat)) (t:Fd):posOf (a++b) t=posOf a t++posOf b t:=by simp[posOf]
theorem MX {tl:List (Fd×Nat)} {t:Fd} (h:t∈tl.map (·.1)):posOf tl t≠[]:=by
 obtain⟨p,hp,rfl⟩:=cx.1 h;intro e;have:p∈tl.filter λq=>decide (q.1=p.1):=jG.2 ⟨hp,by simp⟩
 rw[List.map_eq_nil_iff.1 e]at this;cases this
theorem JK {tl:List (Fd×Nat)} {t:Fd} (h:t∉tl.map (·.1)):posOf tl t=[]:=by
 unfold posOf;rw[List.filter_eq_nil_iff.2 λp hp=>by simp;intro e;exact h (cx.2 ⟨p,hp,e⟩)];rfl
theorem D3 (x:Fd) (t:Fd):(posOf (gz x) t).Sublist ((List.range' 0 (words x.2).length).map fun(i:Nat)=>(i:Int)):=by
 have e:(gz x).map (λp=>(p.2:Int))=(List.range' 0 (words x.2).length).map fun(i:Nat)=>(i:Int):=by
  rw[<-List.zipIdx_map_snd 0 (words x.2),List.map_map];unfold gz;rw[List.map_map];rfl
 rw[<-e];exact List.filter_sublist.map _
theorem JL (x:Fd) (t:Fd):(posOf (gz x) t).Pairwise (· < ·)/\∀i∈posOf (gz x) t,0<=i/\i<(words x.2).length:=by
 refine ⟨List.Pairwise.sublist (D3 x t) (dV.2 ((List.pairwise_lt_range' (s:=0) (n:=(words x.2).length)).imp λh=>by omega)),λi hi=> ?_⟩;have:=(D3 x t).subset hi;obtain⟨k,hk,rfl⟩:=cx.1 this;have:=List.mem_range'_1.1 hk;omega
theorem AY {x:Fd} {p:Fd×Nat} (h:p∈gz x):p.1.1=x.1/\p.1.2∈words x.2:=by
 obtain⟨q,hq,rfl⟩:=cx.1 h;have:=List.mem_zipIdx hq;exact⟨rfl,by simp only;rw[this.2.2];exact List.getElem_mem _⟩
theorem AZ {fs:List Fd} {p:Fd×Nat} (h:p∈cB fs):∃x∈fs,p.1.1=x.1/\p.1.2∈words x.2:=by
 obtain⟨x,hx,hp⟩:=List.mem_flatMap.1 h;exact⟨x,hx,AY hp⟩
theorem sd {x t:Fd} (h:x.1≠t.1):posOf (gz x) t=[]:=JK λhm=>by
 obtain⟨p,hp,rfl⟩:=cx.1 hm;exact h (AY hp).1.symm
theorem uT {t:Fd}:∀{fs:List Fd},(∀x∈fs,x.1≠t.1)->posOf (cB fs) t=[]
 |[],_=>rfl
 |x::fs,h=>by
  show posOf (gz x++cB fs) t=[];rw[oB,sd (h x (bL ..)),uT λy hy=>h y (cn _ hy)];rfl
theorem D4 {t:Fd}:∀{fs:List Fd},(fs.map (·.1)).Nodup->posOf (cB fs) t=[]\/∃x∈fs,posOf (cB fs) t=posOf (gz x) t
 |[],_=> .inl rfl
 |x::fs,h=>by
  have h':=List.nodup_cons.1 h;have e:posOf (cB (x::fs)) t=posOf (gz x) t++posOf (cB fs) t:=by show posOf (gz x++cB fs) t=_;rw[oB]
  by_cases hx:x.1=t.1
  ·refine .inr ⟨x,bL ..,?_⟩;rw[e,uT λy hy e=>h'.1 (by have h9:y.1∈fs.map (·.1):=fL hy;rw[e,<-hx]at h9;exact h9),fz]
  ·rw[e,sd hx,iH];rcases D4 (t:=t) h'.2 with h1|⟨y,hy,h1⟩
   ·exact .inl h1
   ·exact .inr ⟨y,cn _ hy,h1⟩
theorem D5:∀{l:List Int} {last:Int},(∀x∈l,last<x)->l.Pairwise (· < ·)->fT last l=true
 |[],_,_,_=>rfl
 |x::l,last,h1,h2=>by
  have Fl:=jr.1 h2;simp only[fT,b7,decide_eq_true_eq];exact⟨h1 x (bL ..),D5 Fl.1 Fl.2⟩
structure iC (d:Dc):Prop where
 names:∀f∈d.2,eA f.1=true
 once:(d.2.map (·.1)).Nodup
 toks:∀f∈d.2,lQ 0 (words f.2)=0
 many:(cB d.2).length<=500
 few:d.2.length<=8
theorem A0:∀{fs sn:List Fd} {n:Nat},Ad sn fs n=0->(∀f∈fs,eA f.1=true/\lQ 0 (words f.2)=0/\∀g∈sn,g.1≠f.1)/\(fs.map (·.1)).Nodup/\n+(cB fs).length<=500
 |[],sn,n,h=>by
  refine ⟨(λf hf=>by cases hf),List.nodup_nil,?_⟩;simp only[Ad]at h
  split at h
  ·cases h
  ·simp[cB];omega
 |f::fs,sn,n,h=>by
  simp only[Ad]at h
  split at h
  ·cases h
  ·rename_i h1
   split at h
   ·cases h
   ·rename_i h2
    split at h
    ·exact absurd h Ub
    ·rename_i h3
     obtain⟨h4,h5,h6⟩:=A0 h;have h7:∀g∈sn,g.1≠f.1:=λg hg e=>h2 (nf.2 ⟨g,hg,by simp[e]⟩)
     refine⟨λx hx=>?_,List.nodup_cons.2 ⟨λhm=>?_,h5⟩,?_⟩
     ·rcases cY.1 hx with rfl|hx
      ·exact⟨by simpa using h1,by simpa using h3,h7⟩
      ·obtain⟨a,b,c⟩:=h4 x hx;exact⟨a,b,λg hg=>c g (jM _ hg)⟩
     ·obtain⟨y,hy,e⟩:=cx.1 hm;exact(h4 y hy).2.2 f (List.mem_append_right _ (cO.2 G)) e.symm
     ·have:(cB (f::fs)).length=(gz f).length+(cB fs).length:=by show(gz f++cB fs).length=_;rw[bG]
      rw[this,nI];omega
theorem H2 {d:Dc} (h:mj d=0):iC d:=by
 unfold mj at h
 split at h
 ·cases h
 ·obtain⟨h1,h2,h3⟩:=A0 h;exact⟨λf hf=>(h1 f hf).1,h2,λf hf=>(h1 f hf).2.1,by omega,by omega⟩
theorem A4:∀{ws:List (List UInt8)} {i:Nat},lQ i ws=0->∀x∈ws,x.length<=30
 |[],_,_,x,hx=>by cases hx
 |a::ws,i,h,x,hx=>by
  simp only[lQ]at h
  split at h
  ·cases h
  ·split at h
   ·cases h
   ·rcases cY.1 hx with rfl|hx
    ·omega
    ·exact A4 h x hx
theorem MY {s:List UInt8} (h:eA s=true):(0:UInt8)∉s:=λh0=>by
 simp only[eA,b7,ew]at h;have:=h.2 0 h0
 revert this;decide
theorem iC.H3 {d:Dc} (h:iC d):∀p∈cB d.2,KN p.1:=λp hp=>by
 obtain⟨x,hx,h1,_⟩:=AZ hp;show(0:UInt8)∉p.1.1;rw[h1];exact MY (h.names x hx)
theorem iC.small {d:Dc} (h:iC d):∀p∈cB d.2,p.1.1.length<=12/\p.1.2.length<=30:=λp hp=>by
 obtain⟨x,hx,h1,h2⟩:=AZ hp;exact⟨by rw[h1];exact DH (h.names x hx),A4 (h.toks x hx) _ h2⟩
theorem iC.pos {d:Dc} (h:iC d) (t:Fd):(posOf (cB d.2) t).Pairwise (· < ·)/\(∀i∈posOf (cB d.2) t,0<=i/\i<500)/\(posOf (cB d.2) t).length<=500:=by
 have hl:=uR (cB d.2) t;have hm:=h.many;rcases D4 (t:=t) h.once with h1|⟨x,hx,h1⟩
 ·rw[h1];exact⟨List.Pairwise.nil,(λi hi=>by cases hi),by simp⟩
 ·obtain⟨h2,h3⟩:=JL x t
  have xf:(words x.2).length<=500:=by
   have:(gz x).length<=(cB d.2).length:=by
    obtain⟨i,hi⟩:=bO.1 hx;have:=sa hi
    have h5:(cB (d.2.take (i+1))).length<=(cB d.2).length:=by
     have:cB d.2=cB (d.2.take (i+1))++cB (d.2.drop (i+1)):=by unfold cB;rw[<-List.flatMap_append,fR]
     rw[this,bG];omega
    rw[this,bG]at h5;omega
   rw[nI]at this;omega
  rw[h1]at hl ⊢;exact⟨h2,λi hi=>⟨(h3 i hi).1,by have:=(h3 i hi).2;omega⟩,by omega⟩
theorem iC.fT {d:Dc} (h:iC d) (t:Fd):n4 (posOf (cB d.2) t)=true:=by
 obtain⟨h1,h2,_⟩:=h.pos t;exact oc.2 ⟨D5 (λx hx=>by have:=(h2 x hx).1;omega) h1,λx hx=>by have:=(h2 x hx).2;omega⟩
abbrev sF (e:En):List (Fd×Nat):=cB e.1.2
def D6 (i:Nat) (tl:List (Fd×Nat)) (k:List UInt8):List Po:=((dG tl).filter λt=>decide (cZ t=k)).map λt=>((i:Int),posOf tl t)
def A5 (k:List UInt8):Nat->List En->List Po
 |_,[]=>[]
 |i,e::L=>D6 i (sF e) k++A5 k (i+1) L
def pk (L:List En) (k:List UInt8):List Po:=A5 k 0 L
theorem D7 (k:List UInt8) (e:En):∀(L:List En) (i:Nat),A5 k i (L++[e])=A5 k i L++D6 (i+L.length) (sF e) k
 |[],i=>by simp[A5]
 |x::L,i=>by
  simp only[ng,A5,D7 k e L (i+1),l6,cz];rw[show i+1+L.length=i+(L.length+1) by omega]
theorem Rc (L:List En) (e:En) (k:List UInt8):pk (L++[e]) k=pk L k++D6 L.length (sF e) k:=by
 unfold pk;rw[D7];simp
def jo (L:List En):List (List UInt8):=L.flatMap λe=>(dG (sF e)).map cZ
theorem Gp (L:List En) (e:En):jo (L++[e])=jo L++(dG (sF e)).map cZ:=by simp[jo]
def keysOf (L:List En):List (List UInt8):=allBy id (jo L)
theorem oC (L:List En):Gm (keysOf L):=(tv (key:=id) (S:=λ_=>True) (λa b _ _ h=>h) _ [] (λ_ _=>trivial) (λ_ _=>trivial) List.Pairwise.nil).1
theorem lU {L:List En} {k:List UInt8}:k∈keysOf L↔k∈jo L:=by
 have:=(tv (key:=id) (S:=λ_=>True) (λa b _ _ h=>h) (jo L) [] (λ_ _=>trivial) (λ_ _=>trivial) List.Pairwise.nil).2 k;simpa[keysOf,allBy]using this
theorem filter_one {α:Type} {key:α->List UInt8} {l:List α} (h:Ch key l) (k:List UInt8):l.filter (λt=>decide (key t=k))=[]\/∃t∈l,key t=k/\l.filter (λt=>decide (key t=k))=[t]:=by
 have h1:Ch key (l.filter λt=>decide (key t=k)):=List.Pairwise.sublist List.filter_sublist h;have h2:∀x∈l.filter (λt=>decide (key t=k)),x∈l/\key x=k:=λx hx=>by simpa using jG.1 hx
 revert h1 h2
 generalize l.filter (λt=>decide (key t=k))=m;intro h1 h2
 match m,h1,h2 with
 |[],_,_=>exact .inl rfl
 |[t],_,h2=>exact .inr ⟨t,(h2 t (bL ..)).1,(h2 t (bL ..)).2,rfl⟩
 |t::u::m,h1,h2=>
  have:=(jr.1 h1).1 u (bL ..);rw[(h2 t (bL ..)).2,(h2 u (by simp)).2]at this;exact absurd this (jZ k)
theorem xm {d:Dc} (h:iC d) (i:Nat) (k:List UInt8):D6 i (cB d.2) k=[]\/∃t∈dG (cB d.2),cZ t=k/\D6 i (cB d.2) k=[((i:Int),posOf (cB d.2) t)]:=by
 rcases filter_one (tx h.H3) k with h1|⟨t,ht,hk,h1⟩
 ·exact .inl (by unfold D6;rw[h1];rfl)
 ·exact .inr ⟨t,ht,hk,by unfold D6;rw[h1];rfl⟩
theorem MZ {tl:List (Fd×Nat)} {i:Nat} {t:Fd} (h:t∈dG tl):D6 i tl (cZ t)≠[]:=λe=>by
 have:t∈(dG tl).filter λu=>decide (cZ u=cZ t):=jG.2 ⟨h,by simp⟩
 rw[List.map_eq_nil_iff.1 e]at this;cases this
theorem xn (k:List UInt8):∀(L:List En) (i:Nat) (last:Int),(∀e∈L,iC e.1)->last<i->i+L.length<=2147483648->ez last (A5 k i L)=true
 |[],_,_,_,_,_=>rfl
 |e::L,i,last,hF,h1,h2=>by
  have hf:=hF e (bL ..);have hr:=λlast h=>xn k L (i+1) last (λx hx=>hF x (cn _ hx)) h (by simp at h2;omega)
  simp only[A5];rcases xm hf i k with h3|⟨t,ht,hk,h3⟩
  ·rw[show D6 i (sF e) k=[]from h3];exact hr last hV
  ·rw[show D6 i (sF e) k=_ from h3]
   have fq:(posOf (cB e.1.2) t).isEmpty=false:=by
    have:=MX ((iG hf.H3).1 ht)
    cases h:posOf (cB e.1.2) t with
    |nil=>exact absurd h this
    |cons a b=>rfl
   simp only[ng,iH,ez,fq,hf.fT t,hr i (by omega),k5,Bool.not_false,b7,decide_eq_true_eq];simp at h2;omega
theorem uU (k:List UInt8):∀(L:List En) (i:Nat),(∀e∈L,iC e.1)->(A5 k i L).length<=L.length/\∀p∈A5 k i L,(i:Int)<=p.1/\p.1<i+L.length/\p.2.length<=500
 |[],_,_=>⟨br _,λp h=>by cases h⟩
 |e::L,i,hF=>by
  have hf:=hF e (bL ..);obtain⟨h1,h2⟩:=uU k L (i+1) (λx hx=>hF x (cn _ hx));simp only[A5,cz];rcases xm hf i k with h3|⟨t,ht,hk,h3⟩
  ·rw[show D6 i (sF e) k=[]from h3];exact⟨by simpa using Nat.le_succ_of_le h1,λp hp=>by have:=h2 p (by simpa using hp);exact⟨by omega,by omega,this.2.2⟩⟩
  ·rw[show D6 i (sF e) k=_ from h3];refine ⟨by simp;omega,λp hp=> ?_⟩;rcases cY.1 hp with rfl|hp
   ·exact⟨qi _,by simp only;omega,(hf.pos t).2.2⟩
   ·have:=h2 p (by simpa using hp);exact⟨by omega,by omega,this.2.2⟩
theorem uV:∀(l:List Po) (last:Int) (m:Nat),-1<=last->ez last l=true->(∀p∈l,p.2.length<=m)->m<=1000000->(ei last l).length<=(18+9*m)*l.length/\iX l<=m*l.length
 |[],_,_,_,_,_,_=>⟨by simp[ei],by simp[iX]⟩
 |(d,ps)::l,last,m,h0,hm,hs,hmm=>by
  simp only[ez,b7,decide_eq_true_eq]at hm;obtain⟨⟨⟨⟨h1,h2⟩,h3⟩,h4⟩,h5⟩:=hm;obtain⟨h6,h7⟩:=oc.1 h4;have rB:=hs _ (bL ..);simp only at rB;obtain⟨i1,i2⟩:=uV l d m hV h5 (λp hp=>hs p (cn _ hp)) hmm;have a1:=xT ps (-1) hV (λx hx=>by have:=h7 x hx;omega) h6;have a3:=kF (n:=(d-last-1).toNat) hV;have a4:=kF (n:=ps.length) hV;have e1:9*ps.length<=9*m:=by omega
  constructor
  ·simp only[ei,eM,bG,cz,Nat.mul_add,Nat.mul_one];omega
  ·simp only[iX,fe,List.sum_cons,cz]at i2 ⊢;rw[Int.natCast_add,Int.mul_add];omega
theorem M8 {k:List UInt8}:∀{L:List En} (i:Nat),k∈jo L->A5 k i L≠[]
 |[],_,h=>by cases h
 |e::L,i,h=>by
  simp only[A5];intro hn;obtain⟨h1,h2⟩:=List.append_eq_nil_iff.1 hn;have h:k∈(dG (sF e)).map cZ++jo L:=h;rcases dw.1 h with h|h
  ·obtain⟨t,ht,rfl⟩:=cx.1 h;exact MZ ht h1
  ·exact M8 (i+1) h h2
theorem H4 {k:List UInt8}:∀{L:List En} (i:Nat),k∉jo L->A5 k i L=[]
 |[],_,_=>rfl
 |e::L,i,h=>by
  have h:k∉(dG (sF e)).map cZ++jo L:=h;rw[dw,not_or]at h;simp only[A5];rw[H4 (i+1) h.2,fz];unfold D6;rw[List.filter_eq_nil_iff.2 λt ht=>by simp;intro e';exact h.1 (cx.2 ⟨t,ht,e'⟩)];rfl
end Go.K
namespace Go.K
def RT.ptr {α:Type} (A:RT α) (hn:0<A.n:=by decide):RT α where
 n:=1
 agg:=false
 R:=λM w x vs=>∃b o us,vs=[.pointer (some ⟨b,o,none⟩)]/\¬M b/\A.R M w x us/\w.rangeAt b o us
 len:=by rintro _ _ x vs ⟨b,o,us,rfl,_⟩;rfl
 one:=by rintro _ _ x vs ⟨b,o,us,rfl,_⟩ v hv;simp at hv;subst hv;rfl
 le:=by
  rintro M w M' w' x vs hl ⟨b,o,us,h1,h2,h3,h4⟩;have hp:0<us.length:=by rw[A.len h3];exact hn
  have hc:=h4 0 (us[0]'hp) (an hp);exact⟨b,o,us,h1,(hl b (World.block_lt_of_cell? w _ hc) h2).1,A.le hl h3,rA hl h2 h4⟩
theorem H5 {α:Type} {A:RT α} {hn:0<A.n} {M:aH} {w:World} {x:α} {v:Value}:(A.ptr hn).V M w x v↔cR A M w v x:=
 ⟨fun⟨vs,⟨b,o,us,h1,h2,h3,h4⟩,h5⟩=>⟨b,o,us,by subst h1;exact h5,h2,h3,h4⟩,fun⟨b,o,us,h1,h2,h3,h4⟩=>⟨[v],⟨b,o,us,by rw[h1],h2,h3,h4⟩,rfl⟩⟩
abbrev Di:=List (List UInt8)×List Li
abbrev Se:=List Int×List Int×Di
abbrev RT.di:RT Di:=RT.pair (RT.str.sl) (((RT.li).ptr).sl)
abbrev RT.se:RT Se:=RT.pair ((RT.int .i64).sl) (RT.pair ((RT.int .i64).sl) ((RT.di).ptr))
theorem di0:Part RT.di (RT.str.sl) (λp=>p.1) 0:=jz _ _
theorem di1:Part RT.di (((RT.li).ptr).sl) (λp=>p.2) 1:=eV _ _
theorem se0:Part RT.se ((RT.int .i64).sl) (λp=>p.1) 0:=jz _ _
theorem se2:Part RT.se ((RT.di).ptr) (λp=>p.2.2) 2:=(eV ((RT.int .i64).sl) (RT.pair ((RT.int .i64).sl) ((RT.di).ptr))).trans (eV ((RT.int .i64).sl) ((RT.di).ptr))
abbrev Pa:=List Int×List Int×List (List UInt8)×List (List Po)
abbrev RT.pa:RT Pa:=RT.pair ((RT.int .i64).sl) (RT.pair ((RT.int .i64).sl) (RT.pair (RT.str.sl) (((RT.po).sl).sl)))
theorem pa0:Part RT.pa ((RT.int .i64).sl) (λp=>p.1) 0:=jz _ _
theorem pa1:Part RT.pa ((RT.int .i64).sl) (λp=>p.2.1) 1:=(eV ((RT.int .i64).sl) (RT.pair ((RT.int .i64).sl) (RT.pair (RT.str.sl) (((RT.po).sl).sl)))).trans (jz _ _)
theorem pa2:Part RT.pa (RT.str.sl) (λp=>p.2.2.1) 2:=((eV ((RT.int .i64).sl) (RT.pair ((RT.int .i64).sl) (RT.pair (RT.str.sl) (((RT.po).sl).sl)))).trans (eV ((RT.int .i64).sl) (RT.pair (RT.str.sl) (((RT.po).sl).sl)))).trans (jz _ _)
theorem pa3:Part RT.pa (((RT.po).sl).sl) (λp=>p.2.2.2) 3:=((eV ((RT.int .i64).sl) (RT.pair ((RT.int .i64).sl) (RT.pair (RT.str.sl) (((RT.po).sl).sl)))).trans (eV ((RT.int .i64).sl) (RT.pair (RT.str.sl) (((RT.po).sl).sl)))).trans (eV _ _)
theorem ag8 {M:aH} {w:World} {x:Se} {a b c:Value} (h0:((RT.int .i64).sl).V M w x.1 a) (h1:((RT.int .i64).sl).V M w x.2.1 b) (h2:cR RT.di M w c x.2.2):RT.se.V M w x (.agg [a,b,c].toArray):=
 ⟨[a,b,c],⟨[a],[b,c],rfl,lH h0 rfl rfl,[b],[c],rfl,lH h1 rfl rfl,lH (H5.2 h2) rfl rfl⟩,rfl⟩
theorem ag9 {M:aH} {w:World} {x:Pa} {a b c d:Value} (h0:((RT.int .i64).sl).V M w x.1 a) (h1:((RT.int .i64).sl).V M w x.2.1 b) (h2:(RT.str.sl).V M w x.2.2.1 c) (h3:(((RT.po).sl).sl).V M w x.2.2.2 d):RT.pa.V M w x (.agg [a,b,c,d].toArray):=
 ⟨[a,b,c,d],⟨[a],[b,c,d],rfl,lH h0 rfl rfl,[b],[c,d],rfl,lH h1 rfl rfl,[c],[d],rfl,lH h2 rfl rfl,lH h3 rfl rfl⟩,rfl⟩
theorem Gq {α:Type} {A:RT α} (hg:A.agg=true) {M:aH} {w:World} {x:α} {vs:List Value} (h:A.V M w x (.agg vs.toArray)):∀u∈vs,u.oneCell'=true:=by
 obtain⟨us,h1,h2⟩:=h
 have:vs=us:=by
  unfold RT.val at h2;rw[if_pos hg]at h2;injection h2 with h2
  simpa using congrArg Array.toList h2
 subst this;exact A.one h1
theorem fF.free {α:Type} {A:RT α} (hA:∀M w M' w' x vs,A.R M w x vs->A.R M' w' x vs) {M M':aH} {w w':World}:∀{xs:List α} {C:List Value},fF A M w xs C->fF A M' w' xs C
 |[],_,h=>h
 |x::xs,C,h=>by
  obtain⟨vs,r,h1,h2,h3⟩:=h;exact⟨vs,r,h1,hA _ _ _ _ _ _ h2,fF.free hA h3⟩
theorem Own.tell {α:Type} {A:RT α} {hn:0<A.n} (hA:∀M w M' w' x vs,A.R M w x vs->A.R M' w' x vs) {e:TypeId} {M M0:aH} {w:World} {base:Nat} {v:Value} {xs:List α} (h:Own A e M w base v xs) (hb:∀b,v.ownBlock=some b->¬M0 b) (hlen:xs.length<=140737488355328):(A.sl hn).V M0 w xs v:=by
 obtain⟨⟨C,hr,ha⟩,hm⟩:=h;have h':Own A e (λb=>v.ownBlock=some b\/M0 b) w base v xs:=⟨⟨C,hr,fF.free hA ha⟩,λb hb=> .inl hb⟩;exact h'.sl (λb _ hn=>⟨λh=>hn (.inr h),rfl⟩) hb hlen
end Go.K
namespace Go.K
open Go.Maps (Keyed)
section
variable {P:Program} {r:Option Nat} {n:Nat} {L:Sl} {ds:List Deferred} {w:World} {K:Kt} {ops:Array Oper} {rest:List Oper} {d:Nat} {x y z:Operand} {ty:TypeId} {pos:String} {af:Array Edge}
variable {kt:TypeId} {M:aH} {b clock:Nat} {es:List MapEntry}
theorem fM.VX (h:fM P kt w b es clock) {i s:Nat} {key v0 val:Value} (hi:es[i]? =some ⟨key,v0,s⟩) {w':World} (hw:w'.heap[b]? =some (.map (es.set i ⟨key,val,s⟩).toArray clock)):
  fM P kt w' b (es.set i ⟨key,val,s⟩) clock/\(es.set i ⟨key,val,s⟩).map (·.key)=es.map (·.key)/\∀zv ja v',eE zv (es.set i ⟨key,val,s⟩) ja v'↔(ja=key/\v'=val)\/(ja≠key/\eE zv es ja v'):=by
 have qE:=(al.1 hi).1;have kO:(⟨key,v0,s⟩:MapEntry)∈es:=ao hi;obtain⟨oU,uH⟩:∃oU,oU=es.set i ⟨key,val,s⟩:=⟨_,rfl⟩;rw[<-uH]at hw ⊢
 have iy:∀j e',oU[j]? =some e'→(j=i/\e'=⟨key,val,s⟩)\/(j≠i/\es[j]? =some e'):=λj e' hj=>by
  rw[uH,eO]at hj
  split at hj
  ·rename_i jf
   left;exact⟨jf.symm,by simpa[qE]using hj.symm⟩
  ·rename_i jf
   exact .inr ⟨λe=>jf e.symm,hj⟩
 have oV:oU.map (·.key)=es.map (·.key):=by
  rw[uH,List.map_set];apply iD;intro j;rw[eO]
  split
  ·rename_i jf
   subst jf;have e:=(al.1 hi).2;simp[qE,e]
  ·rfl
 have LJ:oU.map (·.born)=es.map (·.born):=by
  rw[uH,List.map_set];apply iD;intro j;rw[eO]
  split
  ·rename_i jf
   subst jf;have e:=(al.1 hi).2;simp[qE,e]
  ·rfl
 have gJ:∀e'∈oU,(e'=⟨key,val,s⟩)\/(e'∈es/\e'.key≠key):=λe' pV=>by
  obtain⟨j,hj⟩:=bO.1 pV;rcases iy j e' hj with⟨_,e⟩|⟨fq,vP⟩
  ·exact .inl e
  ·refine .inr ⟨ao vP,λe=>fq ?_⟩;rcases fk j i with h1|h1|h1
   ·exact absurd e (hU h.keys vP hi h1)
   ·exact h1
   ·exact absurd e.symm (hU h.keys hi vP h1)
 have LK:(⟨key,val,s⟩:MapEntry)∈oU:=ao (i:=i) (by rw[uH,eO];simp[qE])
 have hold:∀e'∈es,e'.key≠key->e'∈oU:=λe' pV fq=>by
  obtain⟨j,hj⟩:=bO.1 pV;refine ao (i:=j) ?_;rw[uH,eO,if_neg]
  ·exact hj
  ·rintro rfl;rw[hi]at hj;cases hj;exact fq G
 refine⟨⟨hw,?_,λe' pV=>?_,?_,λe' pV=>?_⟩,oV,λzv ja v'=>?_⟩
 ·have:=dV.2 h.born;rw[<-LJ]at this;exact dV.1 this
 ·rcases gJ e' pV with e|⟨h1,_⟩
  ·rw[e];exact(h.lt _ kO:s<clock)
  ·exact h.lt _ h1
 ·have:=dV.2 h.keys;rw[<-oV]at this;exact dV.1 this
 ·rcases gJ e' pV with e|⟨h1,_⟩
  ·rw[e];exact(h.ok _ kO:∃l,keyOf P kt key=some l)
  ·exact h.ok _ h1
 ·constructor
  ·rintro(⟨e',pV,hk,hv⟩|⟨h1,h2⟩)
   ·rcases gJ e' pV with e|⟨h3,h4⟩
    ·subst e;exact .inl ⟨hk.symm,hv⟩
    ·exact .inr ⟨by rw[<-hk];exact h4,.inl ⟨e',h3,hk,hv⟩⟩
   ·have fq:ja≠key:=λe=>h1 _ LK e.symm
    exact .inr ⟨fq,.inr ⟨λe' pV=>λe=>by
     by_cases h5:e'.key=key
     ·exact fq (e.symm.trans h5)
     ·exact h1 e' (hold e' pV h5) e,h2⟩⟩
  ·rintro(⟨rfl,rfl⟩|⟨fq,⟨e',pV,hk,hv⟩|⟨h1,h2⟩⟩)
   ·exact .inl ⟨_,LK,G,G⟩
   ·exact .inl ⟨e',hold e' pV (by rw[hk];exact fq),hk,hv⟩
   ·exact .inr ⟨λe' pV=>by
     rcases gJ e' pV with e|⟨h3,_⟩
     ·rw[e];exact λe=>fq e.symm
     ·exact h1 e' h3,h2⟩
theorem eE.put {key val:Value} {s:Nat} (hn:∀e∈es,e.key≠key) (zv ja v':Value):eE zv (es++[⟨key,val,s⟩]) ja v'↔(ja=key/\v'=val)\/(ja≠key/\eE zv es ja v'):=by
 constructor
 ·rintro(⟨e,he,hk,hv⟩|⟨h1,h2⟩)
  ·rcases dw.1 he with he|he
   ·exact .inr ⟨by rw[<-hk];exact hn e he,.inl ⟨e,he,hk,hv⟩⟩
   ·obtain rfl:=cO.1 he;exact .inl ⟨hk.symm,hv⟩
  ·exact .inr ⟨λe=>h1 ⟨key,val,s⟩ (by simp) e.symm,.inr ⟨λe he=>h1 e (jM _ he),h2⟩⟩
 ·rintro(⟨rfl,rfl⟩|⟨fq,⟨e,he,hk,hv⟩|⟨h1,h2⟩⟩)
  ·exact .inl ⟨⟨_,_,s⟩,by simp,rfl,rfl⟩
  ·exact .inl ⟨e,jM _ he,hk,hv⟩
  ·refine .inr ⟨λe he=>?_,h2⟩;rcases dw.1 he with he|he
   ·exact h1 e he
   ·obtain rfl:=cO.1 he;exact λe=>fq e.symm
theorem Rg.Re {t e:TypeId} {key val:Value} {kl:Lit} (ht:P.underlying t=some (.map kt e)) (Kk:Keyed P kt) (hx:ev L x=some (.map (some b))) (hy:ev L y=some key) (hz:ev L z=some val) (kN:keyOf P kt key=some kl) (h:fM P kt w b es clock) (hm:M b)
  (k:∀w' oU FM,fM P kt w' b oU FM->((oU.map (·.key)=es.map (·.key)/\∃e∈es,e.key=key)\/(oU.map (·.key)=es.map (·.key)++[key]/\∀e∈es,e.key≠key))->(∀zv ja v',eE zv oU ja v'↔(ja=key/\v'=val)\/(ja≠key/\eE zv es ja v'))->Step M w M w' (λk=>k=b)->Rg P r n ops rest L ds w' K):
  Rg P r n ops ({dst:=none,op:= .mapUpdate t x y z,type:=ty,pos,after:=af,guard:=none}::rest) L ds w K:=by
 have eK:=ae h.at_;rcases Kk.find w kN es h.ok with⟨h1,h2⟩|⟨j,e0,h1,h2,h3⟩
 ·have hw:({w with heap:=w.heap.setIfInBounds b (.map (es.toArray.push ⟨key,val,clock⟩) (clock+1))}:World).heap[b]? =some (.map (es++([⟨key,val,clock⟩]:List MapEntry)).toArray (clock+1)):=by
   simp[dv,eK]
  refine .Uf a04 G G _ (λρ hρ=>?_) (k _ _ _ (h.push kN h2 hw) (Or.inr ⟨by simp,h2⟩) (eE.put h2) (il M hm));simp only[execOp,hρ x _ hx,hρ y _ hy,hρ z _ hz,Instr.mapUpdate,cA,run_underlying ht,cT,dD h.at_,Kk.check w false kN,h1,run_setObj_map h.at_];simp
 ·have he:e0∈es:=ao h2;obtain⟨k0,v0,s0⟩:=e0;simp only at h3;subst h3;have hj:es.toArray[j]? =some ⟨k0,v0,s0⟩:=by simpa using h2
  have LI:es.toArray.modify j (λe=>{e with key:=k0,val:=val})=(es.set j ⟨k0,val,s0⟩).toArray:=by
   apply Array.ext_getElem?;intro i;rw[ug];simp only[ll,eO]
   split
   ·rename_i Zk
    subst Zk;have:=(al.1 h2).1;rw[h2];simp[this]
   ·rfl
  have hw:({w with heap:=w.heap.setIfInBounds b (.map (es.set j ⟨k0,val,s0⟩).toArray clock)}:World).heap[b]? =some (.map (es.set j ⟨k0,val,s0⟩).toArray clock):=by simp[dv,eK]
  obtain⟨hW,pD,qH⟩:=h.VX h2 hw
  have kC:(Instr.keyThatStays ((Option.map (fun(e:MapEntry)=>e.key) es.toArray[j]?).getD k0) k0).run P w= .ok k0 w:=by
   rw[hj];simp only[fA,Option.getD_some];exact Kk.stays w kN
  refine .Uf a04 G G _ (λρ hρ=>?_) (k _ _ clock hW (Or.inl ⟨pD,_,he,G⟩) qH (il M hm));simp only[execOp,hρ x _ hx,hρ y _ hy,hρ z _ hz,Instr.mapUpdate,cA,run_underlying ht,cT,dD h.at_,Kk.check w false kN,h1,kC,LI,run_setObj_map h.at_];simp
theorem D8 {t e:TypeId} {zv key:Value} {size bytes:Nat} {kl:Lit} (ht:P.underlying t=some (.map kt e)) (Kk:Keyed P kt) (hi:TI P e zv size bytes) (kN:keyOf P kt key=some kl) (h:fM P kt w b es clock):
  ∃v,eE zv es key v/\∀(w:World) (ρ:Operand->Value) (dst:Option Tmp) (gd:Option (Nat×Bool)),ρ x= .map (some b)->ρ y=key->fM P kt w b es clock->(execOp ρ {dst,op:= .lookup t x y false,type:=ty,pos,after:=af,guard:=gd}).run P w= .ok (.value v) w:=by
 rcases Kk.find w kN es h.ok with⟨h1,h2⟩|⟨j,e0,h1,h2,h3⟩
 ·refine ⟨zv,Or.inr ⟨h2,G⟩,λw ρ dst gd hx hy h=> ?_⟩;obtain⟨inf,i1,i2,_,_⟩:=hi.get;have hz:(zeroValue e).run P w= .ok zv w:=by simp[zeroValue,typeInfo,i1,i2]
  rcases Kk.find w kN es h.ok with⟨h1,_⟩|⟨j,e0,_,g2,g3⟩
  ·simp only[execOp,hx,hy,Instr.lookup,cA,run_underlying ht,cT,dD h.at_,l7,Kk.check w _ kN,h1,hz];simp
  ·exact absurd g3 (h2 e0 (ao g2))
 ·refine⟨e0.val,Or.inl ⟨e0,ao h2,h3,G⟩,λw ρ dst gd hx hy h=>?_⟩;rcases Kk.find w kN es h.ok with⟨_,g2⟩|⟨j',e1,g1,g2,g3⟩
  ·exact absurd h3 (g2 e0 (ao h2))
  ·have:e1=e0:=h.HH (ao g2) (ao h2) (g3.trans h3.symm);subst this;simp only[execOp,hx,hy,Instr.lookup,cA,run_underlying ht,cT,dD h.at_,l7,Kk.check w _ kN,g1];simp
theorem cH.td {N:aH} {t e:TypeId} {zv key:Value} {size bytes:Nat} {kl:Lit} {dst:Option Tmp} {gd:Option (Nat×Bool)} (ht:P.underlying t=some (.map kt e)) (Kk:Keyed P kt) (hi:TI P e zv size bytes) (hx:ev L x=some (.map (some b))) (hy:ev L y=some key) (kN:keyOf P kt key=some kl) (h:fM P kt w b es clock) (hn: ¬N b):
  cH P N w L {dst,op:= .lookup t x y false,type:=ty,pos,after:=af,guard:=gd}:=λρ hρ v w' hk hr=>by
 obtain⟨v0,_,ix⟩:=D8 (x:=x) (y:=y) (ty:=ty) (pos:=pos) (af:=af) ht Kk hi kN h;have h':fM P kt w' b es clock:=⟨(hk.2 b (ae h.at_) hn).trans h.at_,h.born,h.lt,h.keys,h.ok⟩;rw[ix w ρ dst gd (hρ x _ hx) (hρ y _ hy) h]at hr;rw[ix w' ρ dst gd (hρ x _ hx) (hρ y _ hy) h'];injection hr with h1 h2
 rw[h1]
end
end Go.K
namespace Go.Proofs
open Go.Shelf
def Tryz.A6:Go.Shelf.Ren:=⟨fun|7=>99|10=>152|n=>n,fun|23=>180|26=>9|3=>117|28=>193|0=>0|27=>192|33=>124|4=>4|n=>n,fun|n=>n⟩
theorem Tryz.H6:Go.Proofs.SlLaysZ.n7 Tryz.prog Tryz.A6:={
 mixed:=by kernel_rfl
 f7:=⟨Tryz.f99.name,by decide,Tryz.func99.trans a02⟩
 f10:=⟨Tryz.f152.name,by decide,Tryz.func152.trans a02⟩
 t0:=zS
 a0:=Tryz.isAgg0
 z0:=Tryz.sizeOf0
 v0:=Tryz.zeroValue0
 t4:=zU
 a4:=Tryz.isAgg4
 z4:=Tryz.sizeOf4
 v4:=Tryz.zeroValue4
 t23:=im
 a23:=Tryz.isAgg180
 z23:=Tryz.sizeOf180
 v23:=Tryz.zeroValue180
 t26:=aA
 a26:=Tryz.isAgg9
 z26:=zT
 v26:=mW
 t27:=Tryz.underlying192
 a27:=Tryz.isAgg192
 z27:=Tryz.sizeOf192
 v27:=Tryz.zeroValue192
 t28:=Tryz.underlying193
 a28:=Tryz.isAgg193
 z28:=Tryz.sizeOf193
 v28:=Tryz.zeroValue193
 t33:=Tryz.underlying124
 a33:=Tryz.isAgg124
 z33:=Tryz.sizeOf124
 v33:=Tryz.zeroValue124}
def Tryz.vZ:Go.Shelf.Ren:=⟨fun|6=>98|8=>150|9=>151|11=>190|13=>179|12=>191|23=>237|24=>238|14=>255|15=>256|16=>257|17=>258|18=>259|19=>260|20=>261|21=>262|22=>263|25=>295|26=>276|27=>277|28=>296|29=>297|30=>298|31=>315|n=>n,fun|26=>9|28=>193|24=>25|0=>0|3=>3|37=>262|48=>336|50=>205|4=>4|40=>330|39=>329|45=>198|5=>5|9=>9|51=>357|55=>361|57=>390|58=>276|33=>124|n=>n,fun|n=>n⟩
theorem Tryz.Rf:Go.Proofs.SlLaysZ.n6 Tryz.prog Tryz.vZ:={
 mixed:=by kernel_rfl
 f6:=⟨Tryz.f98.name,by decide,Tryz.func98.trans a02⟩
 f8:=⟨Tryz.f150.name,by decide,Tryz.func150.trans a02⟩
 f11:=⟨Tryz.f190.name,by decide,Tryz.func190.trans a02⟩
 t0:=zS
 a0:=Tryz.isAgg0
 z0:=Tryz.sizeOf0
 v0:=Tryz.zeroValue0
 t24:=aD
 a24:=Tryz.isAgg25
 z24:=Tryz.sizeOf25
 v24:=Tryz.zeroValue25
 t26:=aA
 a26:=Tryz.isAgg9
 z26:=zT
 v26:=mW
 t28:=Tryz.underlying193
 a28:=Tryz.isAgg193
 z28:=Tryz.sizeOf193
 v28:=Tryz.zeroValue193
 i26:=by kernel_rfl}
def Tryz.JM:Go.Shelf.Ren:=⟨fun|6=>151|8=>179|9=>191|19=>237|20=>238|21=>255|22=>256|23=>257|24=>258|25=>259|26=>260|27=>261|28=>262|29=>263|36=>295|31=>276|32=>277|37=>296|38=>297|39=>298|41=>315|n=>n,fun|27=>25|29=>9|3=>3|32=>262|26=>25|0=>0|44=>336|46=>205|4=>4|36=>330|35=>329|41=>198|5=>5|9=>9|53=>357|57=>361|63=>390|64=>276|n=>n,fun|n=>n⟩
theorem Tryz.Tq:Go.Proofs.SlLaysM.n6 Tryz.prog Tryz.JM:={
 mixed:=by kernel_rfl
 f6:=⟨Tryz.f151.name,by decide,Tryz.func151.trans a02⟩
 f8:=Tryz.func179.trans a02
 f9:=⟨Tryz.f191.name,by decide,Tryz.func191.trans a02⟩
 f19:=Tryz.func237.trans a02
 f20:=Tryz.func238.trans a02
 f21:=⟨Tryz.f255.name,by decide,Tryz.func255.trans a02⟩
 f22:=⟨Tryz.f256.name,by decide,Tryz.func256.trans a02⟩
 f23:=⟨Tryz.f257.name,by decide,Tryz.func257.trans a02⟩
 f24:=⟨Tryz.f258.name,by decide,Tryz.func258.trans a02⟩
 f25:=⟨Tryz.f259.name,by decide,Tryz.func259.trans a02⟩
 f26:=⟨Tryz.f260.name,by decide,Tryz.func260.trans a02⟩
 f27:=⟨Tryz.f261.name,by decide,Tryz.func261.trans a02⟩
 f28:=⟨Tryz.f262.name,by decide,Tryz.func262.trans a02⟩
 f29:=⟨Tryz.f263.name,by decide,Tryz.func263.trans a02⟩
 f31:=Tryz.func276.trans a02
 f32:=Tryz.func277.trans a02
 f36:=⟨Tryz.f295.name,by decide,Tryz.func295.trans a02⟩
 f37:=⟨Tryz.f296.name,by decide,Tryz.func296.trans a02⟩
 f38:=⟨Tryz.f297.name,by decide,Tryz.func297.trans a02⟩
 f39:=⟨Tryz.f298.name,by decide,Tryz.func298.trans a02⟩
 f41:=⟨Tryz.f315.name,by decide,Tryz.func315.trans a02⟩
 t0:=zS
 a0:=Tryz.isAgg0
 z0:=Tryz.sizeOf0
 v0:=Tryz.zeroValue0
 t3:=ak
 a3:=Tryz.isAgg3
 z3:=Tryz.sizeOf3
 v3:=Tryz.zeroValue3
 t4:=zU
 a4:=Tryz.isAgg4
 z4:=Tryz.sizeOf4
 v4:=Tryz.zeroValue4
 t5:=cP
 a5:=Tryz.isAgg5
 z5:=Tryz.sizeOf5
 v5:=Tryz.zeroValue5
 t9:=aA
 a9:=Tryz.isAgg9
 z9:=zT
 v9:=mW
 t26:=aD
 a26:=Tryz.isAgg25
 z26:=Tryz.sizeOf25
 v26:=Tryz.zeroValue25
 t27:=aD
 a27:=Tryz.isAgg25
 z27:=Tryz.sizeOf25
 v27:=Tryz.zeroValue25
 t29:=aA
 a29:=Tryz.isAgg9
 z29:=zT
 v29:=mW
 t32:=Tryz.underlying262
 a32:=Tryz.isAgg262
 z32:=Tryz.sizeOf262
 v32:=Tryz.zeroValue262
 t35:=Tryz.underlying329
 a35:=Tryz.isAgg329
 z35:=Tryz.sizeOf329
 v35:=Tryz.zeroValue329
 t36:=Tryz.underlying330
 a36:=Tryz.isAgg330
 z36:=Tryz.sizeOf330
 v36:=Tryz.zeroValue330
 t41:=Tryz.underlying198
 a41:=Tryz.isAgg198
 z41:=Tryz.sizeOf198
 v41:=Tryz.zeroValue198
 t44:=Tryz.underlying336
 a44:=Tryz.isAgg336
 z44:=Tryz.sizeOf336
 v44:=Tryz.zeroValue336
 t46:=ru
 a46:=Tryz.isAgg205
 z46:=Tryz.sizeOf205
 v46:=Tryz.zeroValue205
 t53:=Tryz.underlying357
 a53:=Tryz.isAgg357
 z53:=Tryz.sizeOf357
 v53:=Tryz.zeroValue357
 t57:=Tryz.underlying361
 a57:=Tryz.isAgg361
 z57:=Tryz.sizeOf361
 v57:=Tryz.zeroValue361
 t63:=Tryz.underlying390
 a63:=Tryz.isAgg390
 z63:=Tryz.sizeOf390
 v63:=Tryz.zeroValue390
 t64:=Tryz.underlying276
 a64:=Tryz.isAgg276
 z64:=Tryz.sizeOf276
 v64:=Tryz.zeroValue276}
end Go.Proofs
namespace Go.K
open Go.Proofs
set_option maxRecDepth 10000
open Go.RowKit Go.Maps Go.Sort Go.Shelf
theorem VY (m:Nat):AnyZ.SortsIn Tryz.prog Tryz.vZ Fence.wide m:=
 ⟨λme off cap ss W hH hblk mg=>callsIn_wide.2 (AnyM.slices_Sort_string Tryz.Tq me off cap ss W hH hblk mg),
  λp cap W=>callsIn_wide.2 (AnyM.slices_Sort_string_none Tryz.Tq p cap W)⟩
theorem Gr (mb:Option Nat) (w:World):Spec Tryz.prog 99 #[.map mb] w (λv w'=>v= .func (.func 152) #[] #[.pointer (some ⟨w.heap.size,0,none⟩)]/\w'=w.alloc (.cells #[.map mb] 180)):=
 (callsIn_wide (n:=5)).1 ((AnyZ.keys_in Tryz.H6 Fence.wide 5 trivial rfl mb w).mono λe w' ⟨h1,h2⟩=>⟨_,h1,rfl,h2⟩)
theorem Ci {R:Value->Option (DU×List MemPlace)} {M:aH} {w:World} {b bb:Nat} {m:List (Lit×DU)} (h:Zg Tryz.prog 9 R M w b m) (LP:w.cell? ⟨bb,0,none⟩=some (.map (some b))) (hl:m.length<=1099511627776):
  Spec Tryz.prog 98 #[.func (.func 152) #[] #[.pointer (some ⟨bb,0,none⟩)]] w (λv w'=>(∃ss:List (List UInt8),ss.Perm (strKeys (DataW.map m))/\w'.ownsRow w.heap.size 9 1 v ss.length ((ss.mergeSort (λx y=>decide (x<=y))).map encStr)/\(v= .slice none 0 0↔ss=[]))/\Step M w M w' aE):=by
 have aha:SeqGives Fence.wide 2 Tryz.prog 152 #[.pointer (some ⟨bb,0,none⟩)] encStr (λss=>ss.Perm (strKeys (DataW.map m))) (Maps.size (DataW.map m)) w:=
  AnyZ.keys_gives (ρ:=Tryz.A6) {Tryz.H6 with} Fence.wide _ trivial rfl hV bb b m.length (DataW.map m) _ (World.block_lt_of_cell? w _ LP) LP h.own
 have mg:Maps.size (DataW.map m)=m.length:=rfl;have cS:=AnyZ.sorted_in Tryz.Rf Fence.wide 5 trivial trivial trivial trivial rfl hV (VY _) (enters_of Tryz.func151 (by kernel_rfl) rfl) 152 #[.pointer (some ⟨bb,0,none⟩)] trivial (enters_of Tryz.func152 (by kernel_rfl) rfl) _ _ (by rw[mg];unfold maxLen;omega) (by rw[mg];omega) _ aha;exact(callsIn_wide (n:=5)).1 (cS.mono λe w' ⟨v,ss,h1,h2,h3,h4,h5⟩=>⟨v,h1,⟨ss,h2,h3,h4⟩,.BT h5 M⟩)
theorem Ak {w w':World} {v:Value} {t:TypeId} (h:w'=w.alloc (.cells #[v] t)):w'.cell? ⟨w.heap.size,0,none⟩=some v:=by
 subst h;exact je (dp w _) G
end Go.K
namespace Go.K
open Go.Proofs
set_option maxRecDepth 10000
theorem Rh {M:aH} {w0:World} {v:Value} {b:List Fd} (hM:Lt M w0) (hv:(RT.fd.sl).V M w0 b v) (sy:b.length<=1099511627776):
  Spec Tryz.prog 189 #[v] w0 (λv' w'=>(RT.fd.sl).V M w' b v'∧Step M w0 M w' aE):=by
 obtain⟨a,cap,mY,hc,hl,hs⟩:=iR.1 hv;refine a8 (args:=[_]) (fn:=Tryz.f189) Tryz.func189 G (n:=8) Tryz.ntmps189 (T.aP (Rg.bg G G (aN (T.aP (ab G G (bh (v':= .slice a b.length cap) mY (Rg.sV bE G G G (ad ?_))))))));refine bF G (λc1=>?_) (λc1=>?_)
 ·refine T.aP (Rg.bg G G (aJ ?_))
  have hb:b=[]:=by
   rcases hs with h|⟨_,_,h,_⟩
   ·exact h
   ·rw[c1]at h;cases h
  exact aM rfl rfl ⟨by rw[hb];exact ij,aV⟩
 ·refine aR (T.aP ?_);refine Rg.Y9 bE j3 M G (λa0 w1 s1=>?_);refine ab G G ?_;refine Rg.nt (A:=RT.fd) (hn:=by decide) (M:=M) bE j3 G G G G hv s1.le (s1.lt hM) hV (λu2 w2 eS s2=>?_);refine Rg.bg G G (aJ ?_);exact aM G G ⟨eS,s1.ax s2⟩
theorem yP {M:aH} {w0:World} {v:Value} {b:List Int} (hM:Lt M w0) (hv:((RT.int .i64).sl).V M w0 b v) (sy:b.length<=1099511627776):
  Spec Tryz.prog 100 #[v] w0 (λv' w'=>((RT.int .i64).sl).V M w' b v'∧Step M w0 M w' aE):=by
 obtain⟨a,cap,mY,hc,hl,hs⟩:=iR.1 hv;refine a8 (args:=[_]) (fn:=Tryz.f100) Tryz.func100 G (n:=8) Tryz.ntmps100 (T.aP (Rg.bg G G (aN (T.aP (ab G G (bh (v':= .slice a b.length cap) mY (Rg.sV av G G G (ad ?_))))))));refine bF G (λc1=>?_) (λc1=>?_)
 ·refine T.aP (Rg.bg G G (aJ ?_))
  have hb:b=[]:=by
   rcases hs with h|⟨_,_,h,_⟩
   ·exact h
   ·rw[c1]at h;cases h
  exact aM rfl rfl ⟨by rw[hb];exact ij,aV⟩
 ·refine aR (T.aP ?_);refine Rg.Y9 av I3 M G (λa0 w1 s1=>?_);refine ab G G ?_;refine Rg.nt (A:=(RT.int .i64)) (hn:=by decide) (M:=M) av I3 G G G G hv s1.le (s1.lt hM) hV (λu2 w2 eS s2=>?_);refine Rg.bg G G (aJ ?_);exact aM G G ⟨eS,s1.ax s2⟩
theorem Na {M:aH} {w0:World} {v:Value} {b:List (List UInt8)} (hM:Lt M w0) (hv:(RT.str.sl).V M w0 b v) (sy:b.length<=1099511627776):
  Spec Tryz.prog 198 #[v] w0 (λv' w'=>(RT.str.sl).V M w' b v'∧Step M w0 M w' aE):=by
 obtain⟨a,cap,mY,hc,hl,hs⟩:=iR.1 hv;refine a8 (args:=[_]) (fn:=Tryz.f198) Tryz.func198 G (n:=8) Tryz.ntmps198 (T.aP (Rg.bg G G (aN (T.aP (ab G G (bh (v':= .slice a b.length cap) mY (Rg.sV aD G G G (ad ?_))))))));refine bF G (λc1=>?_) (λc1=>?_)
 ·refine T.aP (Rg.bg G G (aJ ?_))
  have hb:b=[]:=by
   rcases hs with h|⟨_,_,h,_⟩
   ·exact h
   ·rw[c1]at h;cases h
  exact aM rfl rfl ⟨by rw[hb];exact ij,aV⟩
 ·refine aR (T.aP ?_);refine Rg.Y9 aD I9 M G (λa0 w1 s1=>?_);refine ab G G ?_;refine Rg.nt (A:=RT.str) (hn:=by decide) (M:=M) aD I9 G G G G hv s1.le (s1.lt hM) hV (λu2 w2 eS s2=>?_);refine Rg.bg G G (aJ ?_);exact aM G G ⟨eS,s1.ax s2⟩
theorem Ri {M:aH} {w0:World} {v:Value} {b:List Li} (hM:Lt M w0) (hv:(((RT.li).ptr).sl).V M w0 b v) (sy:b.length<=1099511627776):
  Spec Tryz.prog 199 #[v] w0 (λv' w'=>(((RT.li).ptr).sl).V M w' b v'∧Step M w0 M w' aE):=by
 obtain⟨a,cap,mY,hc,hl,hs⟩:=iR.1 hv;refine a8 (args:=[_]) (fn:=Tryz.f199) Tryz.func199 G (n:=8) Tryz.ntmps199 (T.aP (Rg.bg G G (aN (T.aP (ab G G (bh (v':= .slice a b.length cap) mY (Rg.sV fa G G G (ad ?_))))))));refine bF G (λc1=>?_) (λc1=>?_)
 ·refine T.aP (Rg.bg G G (aJ ?_))
  have hb:b=[]:=by
   rcases hs with h|⟨_,_,h,_⟩
   ·exact h
   ·rw[c1]at h;cases h
  exact aM rfl rfl ⟨by rw[hb];exact ij,aV⟩
 ·refine aR (T.aP ?_);refine Rg.Y9 fa rO M G (λa0 w1 s1=>?_);refine ab G G ?_;refine Rg.nt (A:=((RT.li).ptr)) (hn:=by decide) (M:=M) fa rO G G G G hv s1.le (s1.lt hM) hV (λu2 w2 eS s2=>?_);refine Rg.bg G G (aJ ?_);exact aM G G ⟨eS,s1.ax s2⟩
theorem D9 {M:aH} {d:Dc} {v0:Value} (w0:World) (hM:Lt M w0) (hv:RT.dc.V M w0 d v0) (hl:d.2.length<=1099511627776):
  Spec Tryz.prog 148 #[v0] w0 (λv w=>RT.dc.V M w d v/\Step M w0 M w aE):=by
 have iF:=hM;refine a8 (args:=[_]) (fn:=Tryz.f148) Tryz.func148 G (n:=9) Tryz.ntmps148 ?_;have S:Step M w0 M w0 aE:=aV;refine T.aP ?_;refine fD (A:=RT.dc) G G hM hv G (λu0 w1 dF s0 _=>?_);replace hM:=s0.lt hM;have:=S.size;replace S:=S.ax s0;refine ec M om G (λfW rX F8 F9 cw ib=>?_);obtain⟨eU,gr⟩:∃M',M'=ins M fW:=⟨_,rfl⟩;rw[<-gr]at ib;have bV:eU fW:=by rw[gr];exact .inl G
 change rX.heap[fW]? =some (.cells #[.int .i64 0,.slice none 0 0] _ _)at cw;replace dF:=dF.le q0 ib.le;replace hM:=ib.lt hM;have:=S.size;replace S:=S.ax ib;refine ad (aN ?_);apply T.pM 4 [0,1] 1 aE mixed rfl rfl rfl rfl;intro Jp L4;have lN:=L4 eU;have:=ae cw;replace bV:=(lN.mem _ this).2 bV;replace cw:=lN.aB cw;replace dF:=dF.le q0 lN.le;replace hM:=lN.lt hM;have:=S.size;replace S:=S.ax lN;refine ar (M:=eU) (A:=RT.dc) (B:=RT.int .i64) bp G G I3 q0 (Zi) G G q0 Ub (by repeat (first|exact bI _ _|refine aX (bJ Ub) ?_)) (λAe kS=>?_);refine Rg.dm ?_;refine b4 (M:=eU) ak G G Ub (by repeat (first|exact bI _ _|refine aX (bJ Ub) ?_)) (λTh=>?_);refine Rg.dm ?_;refine ar (M:=eU) (A:=RT.dc) (B:=(RT.fd).sl) bp G G uJ q0 (Jg) G G q0 Ub (by repeat (first|exact bI _ _|refine aX (bJ Ub) ?_)) (λVZ Ea=>?_);refine Rg.dm ?_;refine bP (M:=eU) bE G G G G G Ub (by repeat (first|exact bI _ _|refine aX (bJ Ub) ?_)) (λV0 H7=>?_);refine Rg.dm (gm ?_);obtain⟨bb,oo,cs,ee,fr,rfl,nr,_⟩:=kS.float;refine ⟨j1 ⟨jP bp G I3 q0,⟨gD G nr (λh=>h),trivial⟩⟩,?_⟩;have kp:=l9 aE Jp;refine aQ G G afG (Rh hM H7 hl) (λv4 w4 hc=>?_);obtain⟨pE,s4⟩:=hc;have:=ae cw;replace bV:=(s4.mem _ this).2 bV;replace cw:=s4.aB cw;replace dF:=dF.le q0 s4.le;replace hM:=s4.lt hM;have:=S.size;replace S:=S.ax s4;refine(fun(kp:fI _ _ _)=>ad ⟨G,G,λ_=>kp,?_⟩) a01
 refine dg (places:=[(0,1),(1,1)]) bp om B72 rfl ⟨_,_,rfl,rfl,_,_,rfl,rfl,rfl⟩ (out:=[_,_]) ⟨0,[_],rfl,rfl,by simp[Value.cells],1,[_],rfl,iO pE,by simp[Value.cells],rfl⟩ (ad ⟨rfl,rfl,λh=>absurd rfl h,?_⟩);have hd:RT.dc.V eU w4 d (.agg [.int .i64 d.1,v4].toArray):=fw (gV Th) pE rfl rfl rfl rfl;refine cM (M:=eU) (vs:=[.int .i64 d.1,v4]) om G G (Gq G hd) G G cw bV (λw6 g6 s6=>?_);have:=ae cw;replace bV:=(s6.mem _ this).2 bV;replace dF:=dF.le q0 s6.le;replace pE:=pE.le s6.le;replace hd:=hd.le s6.le;replace hM:=s6.lt hM;have:=S.size;replace S:=S.trans s6 (λk hk h=>by have h:_=_:=h;subst h;first|(exfalso;omega)|(show _<=_;omega)|exact⟨by first|omega|assumption,(S.mem _ hk).1 ((s6.mem _ (ae cw)).1 bV)⟩|exact .inl rfl|exact .inr rfl|exact .inr (.inl rfl)|exact .inr (.inr rfl)|exact .inr (.inr (.inl rfl))|exact rfl);have fP:=g6;clear cw;have cw:=fP;clear fP;refine ad ⟨G,G,λh=>absurd G h,rq (aJ ?_)⟩;exact jX (vs:=[.int .i64 d.1,v4]) G G bp G om G cw ⟨hd.le (nT iF S),S.back⟩
theorem Nb {M:aH} {e:En} {v0:Value} (w0:World) (hM:Lt M w0) (hv:RT.en.V M w0 e v0) (hl:e.1.2.length<=1099511627776):
  Spec Tryz.prog 96 #[v0] w0 (λv w=>RT.en.V M w e v/\Step M w0 M w aE):=by
 have iF:=hM;refine a8 (args:=[_]) (fn:=Tryz.f96) Tryz.func96 G (n:=9) Tryz.ntmps96 ?_;have S:Step M w0 M w0 aE:=aV;refine T.aP ?_;refine fD (A:=RT.en) G G hM hv G (λu0 w1 dF s0 _=>?_);replace hM:=s0.lt hM;have:=S.size;replace S:=S.ax s0;refine ec M FN G (λfW rX F8 F9 cw ib=>?_);obtain⟨eU,gr⟩:∃M',M'=ins M fW:=⟨_,rfl⟩;rw[<-gr]at ib;have bV:eU fW:=by rw[gr];exact .inl G
 change rX.heap[fW]? =some (.cells #[.int .i64 0,.slice none 0 0,.int .i64 0] _ _)at cw;replace dF:=dF.le q0 ib.le;replace hM:=ib.lt hM;have:=S.size;replace S:=S.ax ib;refine ad (aN ?_);apply T.SH [0,1,3,4,2,5,6] 4 [2,3] 1 aE mixed
 ·simp+decide only[AH,uz,fe,zR,zN,zO,uj,fA,pB,List.idxOf_cons,cond_true,cond_false,Nat.reduceBEq,Nat.reduceAdd,beq_self_eq_true];rfl
 ·rfl
 ·rfl
 ·rfl
 ·rfl
 ·rfl
 ·rfl
 intro Jp L4;have lN:=L4 eU;have:=ae cw;replace bV:=(lN.mem _ this).2 bV;replace cw:=lN.aB cw;replace dF:=dF.le q0 lN.le;replace hM:=lN.lt hM;have:=S.size;replace S:=S.ax lN;refine ar (A:=RT.en) (B:=RT.dc) ef G G om q0 Zj G G q0 dF cf (λAe kS=>?_);refine Rg.dm ?_;refine cv (A:=RT.dc) bp G om q0 G G G kS cf (λyB lR=>?_);refine Rg.dm ?_;refine ar (A:=RT.en) (B:=RT.int .i64) ef G G I3 q0 en1 G G q0 dF cf (λVZ Ea=>?_);refine Rg.dm ?_;refine b4 (M:=eU) ak G G Ub (by repeat (first|exact bI _ _|refine aX (bJ Ub) ?_)) (λNc=>?_);refine bh (v':= .int .i64 (e.2)) G ?_;replace Nc: -9223372036854775808<=(e.2:Int)/\e.2<=9223372036854775807:=Nc;refine Rg.dm (gm ?_);obtain⟨bb,oo,cs,ee,fr,rfl,nr,_⟩:=Ea.float;refine ⟨j1 ⟨jP ef G I3 q0,⟨gD G nr (λh=>h),trivial⟩⟩,?_⟩;have kp:=l9 aE Jp;refine aQ G G afx (D9 _ hM lR hl) (λv4 w4 hc=>?_);obtain⟨pE,s4⟩:=hc;obtain⟨uf,rfl⟩:=LH pE;have:=ae cw;replace bV:=(s4.mem _ this).2 bV;replace cw:=s4.aB cw;replace dF:=dF.le q0 s4.le;replace hM:=s4.lt hM;have:=S.size;replace S:=S.ax s4;refine(fun(kp:fI _ _ _)=>ad ⟨G,G,λ_=>kp,?_⟩) a01;refine dg (places:=[(0,2),(2,1)]) ef FN B74 rfl ⟨_,_,rfl,rfl,_,_,rfl,rfl,rfl⟩ (out:=[_,_,_]) ⟨0,[_,_],rfl,rfl,by simp[Value.cells],2,[_],rfl,rfl,by simp[Value.cells],rfl⟩ (ad ⟨rfl,rfl,λh=>absurd rfl h,?_⟩);have hd:RT.en.V eU w4 e (.agg [.int .i64 e.1.1,uf,.int .i64 e.2].toArray):=SQ (p:=e.1) pE Nc
 refine cM (M:=eU) (vs:=[.int .i64 e.1.1,uf,.int .i64 e.2]) FN G G (Gq G hd) G G cw bV (λw6 g6 s6=>?_);have:=ae cw;replace bV:=(s6.mem _ this).2 bV;replace dF:=dF.le q0 s6.le;replace pE:=pE.le s6.le;replace hd:=hd.le s6.le;replace hM:=s6.lt hM;have:=S.size;replace S:=S.trans s6 (λk hk h=>by have h:_=_:=h;subst h;first|(exfalso;omega)|(show _<=_;omega)|exact⟨by first|omega|assumption,(S.mem _ hk).1 ((s6.mem _ (ae cw)).1 bV)⟩|exact .inl rfl|exact .inr rfl|exact .inr (.inl rfl)|exact .inr (.inr rfl)|exact .inr (.inr (.inl rfl))|exact rfl);have fP:=g6;clear cw;have cw:=fP;clear fP;refine ad ⟨G,G,λh=>absurd G h,rq (aJ ?_)⟩;exact jX (vs:=[.int .i64 e.1.1,uf,.int .i64 e.2]) G G ef G FN G cw ⟨hd.le (nT iF S),S.back⟩
namespace TKBldB
theorem aaw:TI Tryz.prog 238 (.map none) 1 8:=by unfold TI;kernel_rfl
theorem ahb:Enters Tryz.prog 143:=enters Tryz.func143 rfl q0
theorem ahc:Enters Tryz.prog 144:=enters Tryz.func144 rfl q0
theorem ahd:Enters Tryz.prog 145:=enters Tryz.func145 rfl q0
end TKBldB
open TKBldB
set_option maxRecDepth 10000
theorem IJ.bM {bt mb B:Nat} {ts:List (Fd×Nat)} {M M':aH} {w w':World} (h:IJ bt mb B ts M w) (s:Step M w M' w' aE):IJ bt mb B ts M' w':=by
 obtain⟨gb,ej,fj,hB,HZ,es,clock,hW,hI⟩:=h;exact⟨s.aB gb,(s.mem _ (ae gb)).2 ej,(s.mem _ (ae hW.at_)).2 fj,hB,HZ,es,clock,hW.bM s,hI.bM s⟩
theorem Nd {bt mb B:Nat}:VL Tryz.prog 143 [.pointer (some ⟨bt,0,none⟩)] B (IJ bt mb B):=
 ⟨ahb,λts M w M' w' h s=>h.bM s,λts M w t i hJ hM h1 h2 hi h4=>JH w hM h1 h2 hi h4 hJ⟩
theorem Nf (M:aH) (w:World) (B:Nat):JG M w B [] [] where
 o t v hv:=by
  rcases hv with⟨e,he,_⟩|⟨_,rfl⟩
  ·cases he
  ·exact eG _ _ _ _ _
 a t t' v v' _ hv _:=by
  rcases hv with⟨e,he,_⟩|⟨_,rfl⟩
  ·cases he
  ·exact(j6.nil v').symm
 k:=rfl
theorem Eb:∀(ts:List (Fd×Nat)) (l:List Fd),(ts.foldl (λl p=>if p.1∈l then l else l++[p.1]) l).length<=l.length+ts.length
 |[],l=>by simp
 |p::ts,l=>by
  rw[pC,cz];refine du (Eb ts _) ?_
  split
  ·omega
  ·rw[bG];simp;omega
theorem Rj (M:aH) (w:World) (M':aH) (w':World) (x:Fd) (vs:List Value) (h:RT.fd.R M w x vs):RT.fd.R M' w' x vs:=h
theorem Ec {M:aH} {d:Dc} {v0:Value} (w0:World) (hM:Lt M w0) (hv:RT.dc.V M w0 d v0) (hF:iC d) (hl:∀f∈d.2,f.1.length<=900000/\f.2.length<=900000):
  Spec Tryz.prog 94 #[v0] w0 (λv w=>∃a b,v= .tuple #[a,b]/\(RT.fd.sl).V M w (dG (cB d.2)) a/\(((RT.int .i64).sl).sl).V M w ((dG (cB d.2)).map (posOf (cB d.2))) b/\Step M w0 M w aE):=by
 have iF:=hM;have Tr:=hF.many;refine a8 (args:=[_]) (fn:=Tryz.f94) Tryz.func94 G (n:=31) Tryz.ntmps94 ?_;have S:Step M w0 M w0 aE:=aV;refine T.aP ?_;refine fD (A:=RT.dc) G G hM hv G (λu0 w1 dF s0 _=>?_);replace hM:=s0.lt hM;have:=S.size;replace S:=S.ax s0;refine aF G G (Rg.bg G G (T.aP ?_));refine Rg.x9 M lp G (λmb w1m p1 q1 gW s1=>?_);obtain⟨V1,Ng⟩:∃M',M'=ins M mb:=⟨_,rfl⟩;rw[<-Ng]at s1;have Cj:V1 mb:=by rw[Ng];exact .inl G
 replace dF:=dF.le q0 s1.le;replace hM:=s1.lt hM;have:=S.size;replace S:=S.ax s1;refine ec V1 aaw G (λJN VN ap7 ap8 Af wR=>?_);obtain⟨Nh,Ni⟩:∃M',M'=ins V1 JN:=⟨_,rfl⟩;rw[<-Ni]at wR;have yQ:Nh JN:=by rw[Ni];exact .inl G
 change VN.heap[JN]? =some (.cells #[.map none] _ _)at Af;replace dF:=dF.le q0 wR.le;replace Cj:=(wR.mem _ (ae gW.at_)).2 Cj;replace gW:=gW.bM wR;replace hM:=wR.lt hM;have:=S.size;replace S:=S.ax wR;refine cg (M:=Nh) aaw G G Af G (G) yQ (λQ5 ir ph=>?_)
 try simp only[List.setIfInBounds_toArray,List.set_cons_zero,List.set_cons_succ]at ir
 have:=ae Af;replace yQ:=(ph.mem _ this).2 yQ;replace dF:=dF.le q0 ph.le;replace Cj:=(ph.mem _ (ae gW.at_)).2 Cj;replace gW:=gW.step ph (by show¬(_=_);omega);replace hM:=ph.lt hM;have:=S.size;replace S:=S.trans ph (λk hk h=>by have h:_=_:=h;subst h;first|(exfalso;omega)|(show _<=_;omega)|exact⟨by first|omega|assumption,(S.mem _ hk).1 ((ph.mem _ (ae Af)).1 yQ)⟩|exact .inl rfl|exact .inr rfl|exact .inr (.inl rfl)|exact .inr (.inr rfl)|exact .inr (.inr (.inl rfl))|exact rfl);have Tt:=ir;clear Af;have Af:=Tt;clear Tt;refine ad (T.aP ?_);refine cv (M:=Nh) (A:=RT.dc) bp G om q0 G G G Ub (by repeat (first|exact bI _ _|refine aX (bJ Ub) ?_)) (λap9 aax=>?_);refine jd (xs:=[]) (ys:=[.tmp 4]) G G G ?_;refine aQ G G Zo (AX (cap:=[.pointer (some ⟨JN,0,none⟩)]) (B:=w0.heap.size) _ hM aax hl hF.few (Nd (mb:=mb)) ⟨Af,yQ,Cj,by omega,by omega,[],0,gW,Nf _ _ _⟩) (λr2 w2 hc=>?_);obtain⟨M2,HM,⟨gb,_,_,_,_,es,clock,hW,hI⟩,s2⟩:=hc;replace S:=S.ly s2 (br _);have pv:∀t v,eE kj es (kv t) v->(((RT.int .i64).sl)).V M w2 (posOf (cB d.2) t) v:=λt v h=>(hI.o t v h).close iF S (by have:=uR (cB d.2) t;omega)
 replace S:=S.back;replace hM:=S.lt iF
 have aay:∀e∈es,∃t∈seen (cB d.2),e.key=kv t:=λe he=>by
  have:e.key∈(seen (cB d.2)).map kv:=by rw[<-hI.k];exact fL he
  obtain⟨t,h1,h2⟩:=cx.1 this;exact⟨t,h1,h2.symm⟩
 have BD:∀t∈seen (cB d.2),KN t/\t.1.length<=12/\t.2.length<=30:=λt ht=>by
  obtain⟨p,hp,rfl⟩:=cx.1 (tz.1 ht);exact⟨hF.H3 p hp,hF.small p hp⟩
 have sx:(seen (cB d.2)).length<=500:=du (Eb _ _) a08;have BC:es.length<=500:=by have:=congrArg List.length hI.k;simp at this;omega
 refine ad (T.aP (aG lp G G G gb G ?_));refine aQ G G ahd (Gk _) (λr3 w3 hc=>?_);obtain⟨bs,rfl,VQ,_,s3⟩:=hc;replace s3:=s3.toAny M;replace hW:=hW.bM s3;replace gb:=s3.aB gb;replace pv:=λt v h=>(pv t v h).le s3.le
 replace hM:=s3.lt hM;have:=S.size;replace S:=S.ax s3
 refine aQ G G ahc (DY _ (λe he=>by
  obtain⟨t,h1,h2⟩:=aay e he;exact⟨t,h2,by have:=(BD t h1).2;omega,by have:=(BD t h1).2;omega⟩) (λe he t ht=>by
  obtain⟨t',h1,h2⟩:=aay e he;obtain rfl:=uP (ht.symm.trans h2);exact⟨(BD _ h1).1,by have:=(BD _ h1).2;omega,by have:=(BD _ h1).2;omega⟩) hV (λts mu kO=>by
  have:=mu.length_le_of_subset (l₂:=seen (cB d.2)) (λt ht=>(tu hI.k).1 (kO t ht));omega) VQ hW) (λr4 w4 hc=>?_)
 obtain⟨us,mu,kO,Ql,hou,s4⟩:=hc;obtain rfl:=D1 hF.H3 mu (λt=>(kO t).trans (tu hI.k)) Ql;have hul:(dG (cB d.2)).length<=500:=du (mu.length_le_of_subset (l₂:=seen (cB d.2)) (λt ht=>tz.2 ((iG hF.H3).1 ht))) sx;replace s4:=s4.toAny M;have CG:(RT.fd.sl).V M w4 (dG (cB d.2)) r4:=hou.tell Rj (λb hb h=>by have:=(hou.base b hb).1;have:=hM b h;omega) hV;clear hou;replace hW:=hW.bM s4;replace gb:=s4.aB gb;replace pv:=λt v h=>(pv t v h).le s4.le
 replace hM:=s4.lt hM;have:=S.size;replace S:=S.ax s4;refine Rg.bg G G (T.aP (Rg.bg G G (aN (T.aP (ab G G (bN jA G CG G (ab G G ?_)))))));refine ad (aY ?_);refine dz (σ:=Nat×Value) (λq=>[(4,.pointer (some ⟨JN,0,none⟩)),(5,r4),(6,q.2),(16,r4),(17,.int .i64 ((dG (cB d.2)).length:Int)),(18,.int .i64 (q.1:Int))]) (λq w=>∃M',Lt M' w/\Step M w0 M' w aE/\Own ((RT.int .i64).sl) 61 M' w w0.heap.size q.2 (((dG (cB d.2)).take q.1).map (posOf (cB d.2)))/\(RT.fd.sl).V M' w (dG (cB d.2)) r4/\fM Tryz.prog 24 w mb es clock/\w.heap[JN]? =some (.cells #[.map (some mb)] 238 (0,0))/\(∀t v,eE kj es (kv t) v->(((RT.int .i64).sl)).V M' w (posOf (cB d.2) t) v)/\q.1<=(dG (cB d.2)).length) (λq=>(dG (cB d.2)).length-q.1) (0,.slice none 0 0) a11 ?_ ?_
 ·exact⟨M,hM,S,eG _ _ _ _ _,CG,hW,gb,pv,bm _⟩
 ·clear hM CG hW gb pv S;rintro⟨i,u⟩ w ⟨M1,hM,S,ho,CG,hW,gb,pv,hi⟩;dsimp only at ho hi ⊢;refine T.aP (cy G G G (ad (aN ?_)));refine bF G (λc6=>?_) (λc6=>?_)
  ·refine aR (aN (aY (T.aP ?_)));refine cD jA mi G G G CG cf hV (λZ6 t hg7 HS=>?_);rw[aw]at hg7;have Qs:=ao hg7;have Lk:=BD t (tz.2 ((iG hF.H3).1 Qs));refine cv (A:=RT.fd) bK G mi q0 G G G HS cf (λagD Te=>?_);refine oQ (A:=RT.fd) (M:=M1) mi G G G G G Ub cf hM (λahf aqa A7 Gt aqb=>?_);replace CG:=CG.le Gt.le;replace ho:=ho.bM Gt;replace hW:=hW.bM Gt;replace gb:=Gt.aB gb;replace pv:=λt v h=>(pv t v h).le Gt.le
   replace hM:=Gt.lt hM;have:=S.size;replace S:=S.ax Gt;refine ad (aL (ab G G (aG lp G G G gb G ?_)));refine cv (A:=RT.fd) bK G mi q0 G G G A7 cf (λaqc aaz=>?_);obtain rfl:=kh aaz;obtain⟨kl,Fs⟩:=ML t hV hV;refine Rg.td lp AW pb G G G Fs hW (λv8 mY=>?_);have CP:=pv _ _ mY;clear mY;refine fp (A:=((RT.int .i64).sl)) (hn:=by decide) (M:=M1) gp pb q0 G G hM (CP) (.inr ⟨G,G⟩) (λaqd aqe Nj Ed=>?_);replace CG:=CG.le Ed.le;replace A7:=A7.le q0 Ed.le;replace ho:=ho.bM Ed;replace hW:=hW.bM Ed;replace gb:=Ed.aB gb;replace pv:=λt v h=>(pv t v h).le Ed.le
   replace hM:=Ed.lt hM;have:=S.size;replace S:=S.ax Ed;refine dH (M:=M1) (base:=w0.heap.size) gp pb rfl rfl rfl rfl ho Nj cf a08 a08 (S.size) (λahg ahh aqf aaA Ee=>?_);replace CG:=CG.le Ee.le;replace A7:=A7.le q0 Ee.le;replace Nj:=Nj.le Ee.le;replace hW:=hW.step Ee (λh=>ho.km hW.at_ h);replace gb:=Ee.bR gb (λh=>ho.fx gb q0 h);replace pv:=λt v h=>(pv t v h).le Ee.le
   replace hM:=Ee.lt hM;have:=S.size;replace S:=S.dR Ee ho (br _);replace ho:=aaA;refine Rg.bg G G (aL (bB G G G hV (ab G G (ad ?_))));refine⟨G,(i+1,ahg),a11,?_,?_⟩
   ·exact⟨ahh,hM,S,by rw[bX,hg7,dx,eu];exact ho,CG,hW,gb,pv,by dsimp only;omega⟩
   ·dsimp only;omega
  ·refine cQ (T.aP (ab G G (ab G G (aF G G (Rg.bg G G (aJ ?_))))));have e:(dG (cB d.2)).take i=dG (cB d.2):=bD hV;rw[e]at ho;exact eX rfl rfl rfl ⟨_,_,rfl,CG.le (nT iF S),ho.close iF S a08,S.back⟩
end Go.K
namespace Go.K
def Nk {α:Type} (A:RT α) (M:aH) (w:World) (v:Value) (x:α):Prop:=∃b o vs,v= .pointer (some ⟨b,o,none⟩)/\A.R M w x vs/\w.rangeAt b o vs
theorem Own.elem {α:Type} {A:RT α} {e:TypeId} {M:aH} {w:World} {base:Nat} {v:Value} {xs:List α} (h:Own A e M w base v xs) (hA:0<A.n) {i:Nat} {x:α} (hx:xs[i]? =some x):
  ∃g cap vs,v= .slice (some ⟨g,0,none⟩) xs.length cap/\M g/\A.R M w x vs/\w.rangeAt g (i*A.n) vs:=by
 obtain⟨⟨C,hr,ha⟩,hm⟩:=h;rcases hr.2 with⟨h1,h2⟩|⟨g,cap,cur,h1,h2,h3,h4,h5,h6,h7⟩
 ·have:xs=[]:=List.eq_nil_of_length_eq_zero h2;subst this;simp at hx
 ·obtain⟨vs,hv,hj⟩:=ha.at_ i x hx;refine ⟨g,cap,vs,h1,hm g (by rw[h1];rfl),hv,λj u hu=> ?_⟩;have h8:=hj j u hu;rw[<-h7,dI]at h8
  split at h8
  ·simp only[World.cell?,h3];simpa using h8
  ·cases h8
section
variable {P:Program} {r:Option Nat} {n:Nat} {L:Sl} {ds:List Deferred} {w:World} {K:Kt} {ops:Array Oper} {rest:List Oper} {d:Nat} {x y:Operand} {ty:TypeId} {pos:String} {af:Array Edge} {α:Type} {A:RT α}
theorem Rg.aaB {t e e':TypeId} {i:Operand} {κ:IntKind} {j:Int} {M:aH} {base:Nat} {xs:List α} {v zv:Value} {bytes:Nat} (ht:P.underlying t=some (.slice e)) (hi:TI P e zv A.n bytes) (hA:0<A.n)
  (hx:ev L x=some v) (Fx:ev L i=some (.int κ j)) (hd:Nat.blt d n=true) (ho:Own A e' M w base v xs) (hj:0<=j/\j<xs.length)
  (k:∀u a,xs[j.toNat]? =some a->Nk A M w u a->Rg P r n ops rest ((d,u)::L) ds w K):
  Rg P r n ops ({dst:=some d,op:= .indexAddr t x i,type:=ty,pos,after:=af,guard:=none}::rest) L ds w K:=by
 have eK:j.toNat<xs.length:=by omega
 obtain⟨g,cap,vs,rfl,hm,h1,h2⟩:=ho.elem hA (an eK);refine .op a04 G G hd (.pointer (some ⟨g,0+j.toNat*A.n,none⟩)) w (λρ h=>?_) (k _ xs[j.toNat] (an eK) ⟨g,_,vs,rfl,h1,by rw[nd];exact h2⟩);simp only[execOp,h x _ hx,h i _ Fx];simp[Instr.indexAt,run_underlying ht,asIntOf,hj,hi.sizeOf,Addr.add_mid]
theorem Rg.aaC {t:TypeId} {u:TypeDesc} {M:aH} {p:Value} {a:α} (hu:P.underlying t=some u) (hf:flat u=true) (hA:A.n=1) (hg:A.agg=false)
  (hx:ev L x=some p) (hd:Nat.blt d n=true) (hp:Nk A M w p a) (k:∀v,A.V M w a v->Rg P r n ops rest ((d,v)::L) ds w K):
  Rg P r n ops ({dst:=some d,op:= .load t x,type:=ty,pos,after:=af,guard:=none}::rest) L ds w K:=by
 obtain⟨b,o,vs,rfl,h1,h2⟩:=hp;have hl:=A.len h1
 match vs,hl with
 |[v],_=>
  refine .op a04 G G hd v w (λρ h=>?_) (k v ⟨[v],h1,by simp[RT.val,hg]⟩);simp only[execOp,h x _ hx];have:=nU (P:=P) hu hf (h2 0 v rfl);simp only[Nat.add_zero]at this;rw[cA,this];simp
 |[],hl=>simp at hl;omega
 |_::_::_,hl=>simp at hl;omega
theorem Rg.Nl {t:TypeId} {fs:TypeDesc} {zv:Value} {bytes:Nat} {M:aH} {p:Value} {a:α} (hu:P.underlying t=some fs) (hf:fs.isRow=true) (hi:TI P t zv A.n bytes) (hg:A.agg=true)
  (hx:ev L x=some p) (hd:Nat.blt d n=true) (hp:Nk A M w p a) (k:∀v,A.V M w a v->Rg P r n ops rest ((d,v)::L) ds w K):
  Rg P r n ops ({dst:=some d,op:= .load t x,type:=ty,pos,after:=af,guard:=none}::rest) L ds w K:=by
 obtain⟨b,o,vs,rfl,h1,h2⟩:=hp;refine .op a04 G G hd (.agg vs.toArray) w (λρ h=>?_) (k _ ⟨vs,h1,by simp[RT.val,hg]⟩);simp only[execOp,h x _ hx];obtain⟨i,AA,_,Fk,_⟩:=hi.get;have:=run_loadAt_mid (P:=P) w b o t vs fs h2 hu hf (by simp[AA,Fk,A.len h1]);simp[this]
end
open Go.Proofs
namespace TKBldC
theorem ahi:TI Tryz.prog 182 (.agg #[(.slice none 0 0),(.map none),(.int .i64 0),(.int .i64 0)]) 4 48:=by unfold TI;kernel_rfl
theorem ahj:placesOf Tryz.prog 182=[(0,1),(1,1),(2,1),(3,1)].map some:=by kernel_rfl
end TKBldC
open TKBldC
set_option maxRecDepth 10000
open Go.Maps (Keyed)
theorem tA:Keyed Tryz.prog 9:=Go.Maps.string_keyed aA
theorem Nn (k:List UInt8) (h:k.length<=140737488355328):∃l,keyOf Tryz.prog 9 (sv k)=some l:=by
 have e1:(⟨k.toArray⟩:ByteArray).size=k.length:=by simp[ByteArray.size]
 exact⟨_,Go.WideMaps.keyOf_string_mk aA (by rw[e1];unfold maxLen;omega)⟩
structure Ef (Z:aH) (M:aH) (w:World) (B:Nat) (f:List UInt8->List Po) (K:List UInt8->Prop) (es:List MapEntry):Prop where
 o:∀k v,eE kj es (sv k) v->Own RT.po 188 M w B v (f k)
 a:∀k k' v v',k≠k'→eE kj es (sv k) v->eE kj es (sv k') v'→j6 v v'
 k:∀x,(∃e∈es,e.key=sv x)↔K x
 z:∀k v c,eE kj es (sv k) v->v.ownBlock=some c->Z c
theorem Ef.step {Z M M' N:aH} {w w':World} {B:Nat} {f:List UInt8->List Po} {K:List UInt8->Prop} {es:List MapEntry} (h:Ef Z M w B f K es) (s:Step M w M' w' N) (hn:∀k v b,eE kj es (sv k) v->v.ownBlock=some b->¬N b):Ef Z M' w' B f K es:=
 ⟨λk v hv=>(h.o k v hv).step s λb hb=>hn k v b hv hb,h.a,h.k,h.z⟩
theorem Ef.bM {Z M M':aH} {w w':World} {B:Nat} {f:List UInt8->List Po} {K:List UInt8->Prop} {es:List MapEntry} (h:Ef Z M w B f K es) (s:Step M w M' w' aE):Ef Z M' w' B f K es:=h.step s λ_ _ _ _ _ h=>h
theorem Ef.congr {Z M:aH} {w:World} {B:Nat} {f f':List UInt8->List Po} {K K':List UInt8->Prop} {es:List MapEntry} (h:Ef Z M w B f K es) (hf:∀k,f' k=f k) (hK:∀k,K' k↔K k):Ef Z M w B f' K' es:=
 ⟨λk v hv=>by rw[hf];exact h.o k v hv,h.a,λx=>(h.k x).trans (hK x).symm,h.z⟩
theorem Ef.JO {Z Z' M:aH} {w:World} {B:Nat} {f:List UInt8->List Po} {K:List UInt8->Prop} {es:List MapEntry} (h:Ef Z M w B f K es) (hz:∀c,Z c->c<w.heap.size->Z' c):Ef Z' M w B f K es:=
 ⟨h.o,h.a,h.k,λk v c hv hc=>hz c (h.z k v c hv hc) ((h.o k v hv).base c hc).2⟩
theorem Ef.put {Z M M2:aH} {w w1 w2:World} {B mb c:Nat} {mes:Array MapEntry} {f:List UInt8->List Po} {K:List UInt8->Prop} {es V2:List MapEntry} {k0:List UInt8} {v0 v1:Value} {ps:List Po} (h:Ef Z M w B f K es) (hZ:∀c,w.heap.size<=c->Z c) (qC:eE kj es (sv k0) v0)
  (ho1:Own RT.po 188 (lx M v1) w1 B v1 (f k0++ps)) (s1:Step M w (lx M v1) w1 (me v0)) (hF:∀b,v1.ownBlock=some b->w.heap.size<=b\/v0.ownBlock=some b) (hmb:w1.heap[mb]? =some (.map mes c)) (s2:Step (lx M v1) w1 M2 w2 (λk=>k=mb))
  (JI:∀zv ja v',eE zv V2 ja v'↔(ja=sv k0/\v'=v1)\/(ja≠sv k0/\eE zv es ja v')) (oV:(V2.map (·.key)=es.map (·.key)/\∃e∈es,e.key=sv k0)\/(V2.map (·.key)=es.map (·.key)++[sv k0]/\∀e∈es,e.key≠sv k0)):
  Ef Z M2 w2 B (λk=>if k=k0 then f k0++ps else f k) (λx=>K x\/x=k0) V2:=by
 have rh:∀k v,eE kj V2 (sv k) v->(k=k0/\v=v1)\/(k≠k0/\eE kj es (sv k) v):=λk v hv=>by
  rcases(JI kj (sv k) v).1 hv with⟨h3,h4⟩|⟨h3,h4⟩
  ·exact .inl ⟨Cg h3,h4⟩
  ·exact .inr ⟨λe=>h3 (by rw[e]),h4⟩
 have Ra:∀k v,k≠k0->eE kj es (sv k) v->j6 v1 v:=λk v fq hv=>(h.a k k0 v v0 fq hv qC).symm.grown hF (λb hb=>((h.o k v hv).base b hb).2)
 have Rb:∀k v,k≠k0->eE kj es (sv k) v->Own RT.po 188 (lx M v1) w1 B v (f k):=λk v fq hv=>(h.o k v hv).step s1 (λb hb hk=>h.a k k0 v v0 fq hv qC b hb hk)
 have hnm:∀{v:Value} {xs:List Po},Own RT.po 188 (lx M v1) w1 B v xs->∀b,v.ownBlock=some b->¬b=mb:=λho b hb e=>ho.km hmb (by rw[<-e];exact hb)
 refine⟨λk v hv=>?_,λk k' v v' fq hv qR=>?_,λx=>?_,λk v c hv hc=>?_⟩
 ·rcases rh k v hv with⟨rfl,rfl⟩|⟨h3,h4⟩
  ·rw[if_pos rfl];exact ho1.step s2 (hnm ho1)
  ·rw[if_neg h3];exact(Rb k v h3 h4).step s2 (hnm (Rb k v h3 h4))
 ·rcases rh k v hv with⟨rfl,rfl⟩|⟨h3,h4⟩
  ·rcases rh k' v' qR with⟨rfl,_⟩|⟨h5,h6⟩
   ·exact absurd G fq
   ·exact Ra k' v' h5 h6
  ·rcases rh k' v' qR with⟨rfl,rfl⟩|⟨h5,h6⟩
   ·exact(Ra k v h3 h4).symm
   ·exact h.a k k' v v' fq h4 h6
 ·have kO:(∃e∈V2,e.key=sv x)↔sv x∈V2.map (·.key):=by simp
  have ahk:(∃e∈es,e.key=sv x)↔sv x∈es.map (·.key):=by simp
  rw[kO,<-h.k x,ahk];rcases oV with⟨h3,e,he,hk⟩|⟨h3,_⟩
  ·rw[h3];constructor
   ·exact .inl
   ·rintro(h4|rfl)
    ·exact h4
    ·rw[<-hk];exact fL he
  ·rw[h3,dw,cO];constructor
   ·rintro(h4|h4)
    ·exact .inl h4
    ·exact .inr (Cg h4)
   ·rintro(h4|rfl)
    ·exact .inl h4
    ·exact .inr G
 ·rcases rh k v hv with⟨rfl,rfl⟩|⟨h3,h4⟩
  ·rcases hF c hc with h5|h5
   ·exact hZ c h5
   ·exact h.z _ _ c qC h5
  ·exact h.z k v c h4 hc
theorem Rk (Z M:aH) (w:World) (B:Nat):Ef Z M w B (pk []) (λx=>x∈jo []) [] where
 o k v hv:=by
  rcases hv with⟨e,he,_⟩|⟨_,rfl⟩
  ·cases he
  ·exact eG _ _ _ _ _
 a k k' v v' _ hv _:=by
  rcases hv with⟨e,he,_⟩|⟨_,rfl⟩
  ·cases he
  ·exact(j6.nil v').symm
 k x:=by simp[jo]
 z k v c hv hc:=by
  rcases hv with⟨e,he,_⟩|⟨_,rfl⟩
  ·cases he
  ·cases hc
structure Buf (Z M:aH) (w:World) (B b mb:Nat) (vl:Value) (L:List En) (words last:Int) (f:List UInt8->List Po) (K:List UInt8->Prop) (es:List MapEntry) (clock:Nat):Prop where
 at_:w.heap[b]? =some (.cells #[vl,.map (some mb),.int .i64 words,.int .i64 last] 182 (0,0))
 m:M b
 mm:M mb
 hb:Z b
 hmb:Z mb
 l:Own RT.en 74 M w B vl L
 map:fM Tryz.prog 9 w mb es clock
 rows:Ef Z M w B f K es
 zl:∀c,vl.ownBlock=some c->Z c
def nL (Z M:aH) (w:World) (B b:Nat) (L:List En) (words last:Int):Prop:=∃mb vl es clock,Buf Z M w B b mb vl L words last (pk L) (λx=>x∈jo L) es clock
theorem nL.bM {Z M M':aH} {w w':World} {B b:Nat} {L:List En} {words last:Int} (h:nL Z M w B b L words last) (s:Step M w M' w' aE):nL Z M' w' B b L words last:=by
 obtain⟨mb,vl,es,clock,h1,h2,h3,h4,h5,h6,h7,h8,h9⟩:=h;exact⟨mb,vl,es,clock,s.aB h1,(s.mem _ (ae h1)).2 h2,(s.mem _ (ae h7.at_)).2 h3,h4,h5,h6.bM s,h7.bM s,h8.bM s,h9⟩
theorem nL.JO {Z Z' M:aH} {w:World} {B b:Nat} {L:List En} {words last:Int} (h:nL Z M w B b L words last) (hz:∀c,Z c->c<w.heap.size->Z' c):nL Z' M w B b L words last:=by
 obtain⟨mb,vl,es,clock,h1,h2,h3,h4,h5,h6,h7,h8,h9⟩:=h;exact⟨mb,vl,es,clock,h1,h2,h3,hz _ h4 (ae h1),hz _ h5 (ae h7.at_),h6,h7,h8.JO hz,λc hc=>hz c (h9 c hc) (h6.base c hc).2⟩
theorem nL.step {Z M M' N:aH} {w w':World} {B b:Nat} {L:List En} {words last:Int} (h:nL Z M w B b L words last) (s:Step M w M' w' N) (hn:∀k,N k->¬Z k):nL Z M' w' B b L words last:=by
 obtain⟨mb,vl,es,clock,h1,h2,h3,h4,h5,h6,h7,h8,h9⟩:=h;exact⟨mb,vl,es,clock,s.bR h1 (λhk=>hn _ hk h4),(s.mem _ (ae h1)).2 h2,(s.mem _ (ae h7.at_)).2 h3,h4,h5,h6.step s (λc hc hk=>hn _ hk (h9 c hc)),h7.step s (λhk=>hn _ hk h5),h8.step s (λk v c hv hc hk=>hn _ hk (h8.z k v c hv hc)),h9⟩
theorem nL.stepT {Z M M' N:aH} {w w':World} {B b:Nat} {L:List En} {words last:Int} (h:nL Z M w B b L words last) (s:Step M w M' w' N) (hn:∀k,N k->∃cs t,w.heap[k]? =some (.cells cs t (0,0))/\t≠182/\t≠74/\t≠188):nL Z M' w' B b L words last:=by
 obtain⟨mb,vl,es,clock,h1,h2,h3,h4,h5,h6,h7,h8,hz⟩:=h;refine⟨mb,vl,es,clock,s.bR h1 (λhk=>?_),(s.mem _ (ae h1)).2 h2,(s.mem _ (ae h7.at_)).2 h3,h4,h5,h6.step s (λc hc hk=>?_),h7.step s (λhk=>?_),h8.step s (λk v c hv hc hk=>?_),hz⟩
 ·obtain⟨cs,t,h9,JP,_⟩:=hn _ hk;rw[h1]at h9;simp at h9;exact JP h9.2.symm
 ·obtain⟨cs,t,h9,_,JP,_⟩:=hn _ hk;exact h6.fx h9 JP hc
 ·obtain⟨cs,t,h9,_⟩:=hn _ hk;rw[h7.at_]at h9;cases h9
 ·obtain⟨cs,t,h9,_,_,JP⟩:=hn _ hk;exact(h8.o k v hv).fx h9 JP hc
def No (M Z:aH):aH:=λk=>Z k/\M k
theorem eE.ex (zv:Value) (es:List MapEntry) (key:Value):∃v,eE zv es key v:=by
 by_cases h:∃e∈es,e.key=key
 ·obtain⟨e,he,hk⟩:=h;exact⟨e.val,.inl ⟨e,he,hk,G⟩⟩
 ·exact⟨zv,.inr ⟨λe he hk=>h ⟨e,he,hk⟩,G⟩⟩
def mq (last:Int) (e:En):Int:=if mj e.1≠0 then mj e.1 else if e.2<=last then 12 else 0
def Np (L:List En) (tl:List (Fd×Nat)) (i:Nat) (k:List UInt8):List Po:=pk L k++(((dG tl).take i).filter λt=>decide (cZ t=k)).map λt=>((L.length:Int),posOf tl t)
theorem Nq (L:List En) (tl:List (Fd×Nat)) (k:List UInt8):Np L tl 0 k=pk L k:=by simp[Np]
theorem Nr {L:List En} {tl:List (Fd×Nat)} {i:Nat} {t:Fd} (h:(dG tl)[i]? =some t) (k:List UInt8):Np L tl (i+1) k=if k=cZ t then Np L tl i (cZ t)++[((L.length:Int),posOf tl t)]else Np L tl i k:=by
 unfold Np;rw[bX,h,dx,gZ,eu]
 split
 ·rename_i e;subst e;simp
 ·rename_i e
  have: ¬cZ t=k:=λh=>e h.symm
  simp[this]
theorem Rl {L:List En} {e:En} {i:Nat} (h:(dG (sF e)).length<=i) (k:List UInt8):Np L (sF e) i k=pk (L++[e]) k:=by
 unfold Np;rw[Rc,bD h];rfl
theorem Rm {L:List En} (hF:∀x∈L,iC x.1) (tl:List (Fd×Nat)) (i:Nat) (k:List UInt8):(Np L tl i k).length<=L.length+(dG tl).length:=by
 unfold Np;have h1:=(uU k L 0 hF).1;have h2:=fi (λt=>decide (cZ t=k)) ((dG tl).take i);have h3:=List.length_take_le i (dG tl);have h4:(pk L k).length<=L.length:=h1;simp only[bG,bW,a7]at*;omega
theorem A8 {d:Dc} (hF:iC d):(dG (cB d.2)).length<=500:=by
 have h1:=(tx hF.H3).nodup.length_le_of_subset (l₂:=(cB d.2).map (·.1)) (λt ht=>(iG hF.H3).1 ht);have:=hF.many;simp at h1;omega
theorem iC.term {d:Dc} (hF:iC d) {t:Fd} (h:t∈dG (cB d.2)):t.1.length<=12/\t.2.length<=30:=by
 obtain⟨p,hp,rfl⟩:=cx.1 ((iG hF.H3).1 h);exact hF.small p hp
theorem Nt {Z M:aH} {B:Nat} (w0:World) (hM:Lt M w0) (hB:B<=w0.heap.size) (hZ:∀k,w0.heap.size<=k->Z k):
  Spec Tryz.prog 48 #[] w0 (λv w=>∃M' b,v= .pointer (some ⟨b,0,none⟩)/\Lt M' w/\nL Z M' w B b [] 0 (-1)/\Step M w0 M' w aE):=by
 refine a8 (args:=[]) (fn:=Tryz.f48) Tryz.func48 G (n:=4) Tryz.ntmps48 ?_;have S:Step M w0 M w0 aE:=aV;refine T.aP (Rg.bg G G (T.aP ?_));refine Rg.x9 M im G (λmb w1m p1 q1 gW s1=>?_);obtain⟨V1,Ng⟩:∃M',M'=ins M mb:=⟨_,rfl⟩;rw[<-Ng]at s1;have Cj:V1 mb:=by rw[Ng];exact .inl G
 replace hM:=s1.lt hM;have:=S.size;replace S:=S.ax s1;refine dg (places:=[(0,1),(1,1),(2,1),(3,1)]) dY ahi ahj rfl ⟨_,_,rfl,rfl,_,_,rfl,rfl,rfl⟩ (out:=[.slice none 0 0,_,.int .i64 0,_]) ⟨1,[_],rfl,rfl,by simp[Value.cells],3,[_],rfl,rfl,by simp[Value.cells],rfl⟩ ?_;refine o2 V1 G G (λV3 Q5 aqh aqi ir ph=>?_);obtain⟨aaD,Nu⟩:∃M',M'=ins V1 V3:=⟨_,rfl⟩;rw[<-Nu]at ph;have V4:aaD V3:=by rw[Nu];exact .inl G
 change Q5.heap[V3]? =some (.cells #[.slice none 0 0,.map (some mb),.int .i64 0,.int .i64 (-1)] _ _)at ir;replace Cj:=(ph.mem _ (ae gW.at_)).2 Cj;replace gW:=gW.bM ph;replace hM:=ph.lt hM;have:=S.size;replace S:=S.ax ph;refine Rg.bg G G (aJ ?_);exact aM G G ⟨_,_,G,hM,⟨mb,_,[],0,ir,V4,Cj,hZ _ hV,hZ _ hV,eG _ _ _ _ _,gW,Rk _ _ _ _,λc hc=>by cases hc⟩,S⟩
end Go.K
namespace Go.K
open Go.Proofs
namespace TKBldD
theorem I29:TI Tryz.prog 29 (.slice none 0 0) 1 24:=by unfold TI;kernel_rfl
theorem kn:TI Tryz.prog 117 (.slice none 0 0) 1 24:=by unfold TI;kernel_rfl
theorem Gu:TI Tryz.prog 180 (.map none) 1 8:=by unfold TI;kernel_rfl
theorem E93:Enters Tryz.prog 93:=enters Tryz.func93 rfl q0
theorem E94:Enters Tryz.prog 94:=enters Tryz.func94 rfl q0
theorem E96:Enters Tryz.prog 96:=enters Tryz.func96 rfl q0
theorem E97:Enters Tryz.prog 97:=enters Tryz.func97 rfl q0
end TKBldD
open TKBldD
set_option maxRecDepth 10000
set_option maxHeartbeats 4000000 in
theorem Nv {Z M:aH} {B b:Nat} {L:List En} {words last:Int} {e:En} {v0:Value} (w0:World) (hM:Lt M w0) (hZ:∀k,w0.heap.size<=k->Z k) (hb:nL Z M w0 B b L words last) (hBw:B<=w0.heap.size) (hv:RT.en.V M w0 e v0) (hl:∀f∈e.1.2,f.1.length<=900000/\f.2.length<=900000) (hLF:∀x∈L,iC x.1) (hLn:L.length<=1000000) (hw:0<=words/\words<=1000000000):
  Spec Tryz.prog 49 #[.pointer (some ⟨b,0,none⟩),v0] w0 (λv w=>∃M',Lt M' w/\Step M w0 M' w (No M Z)/\v= .int .i64 (mq last e)/\(mq last e≠0->nL Z M' w B b L words last)/\(mq last e=0->nL Z M' w B b (L++[e]) (words+((sF e).length:Int)) e.2)):=by
 obtain⟨mb,vl,es,clock,gb,ej,fj,hB,HZ,ho,hW,hR,zl⟩:=hb;have Tp:b≠mb:=λh=>by have:=hW.at_;rw[<-h,gb]at this;cases this
 refine a8 (args:=[_,_]) (fn:=Tryz.f49) Tryz.func49 G (n:=89) Tryz.ntmps49 ?_;have S:Step M w0 M w0 (No M Z):=(aV).ek a18 (λ_ h=>h.2);refine T.aP ?_;refine fD (A:=RT.en) G G hM hv G (λu0 w1 dF s0 _=>?_);have:=ae gb;replace ej:=(s0.mem _ this).2 ej;replace gb:=s0.aB gb;replace ho:=ho.bM s0;replace fj:=(s0.mem _ (ae hW.at_)).2 fj;replace hW:=hW.bM s0;replace hR:=hR.bM s0;replace hM:=s0.lt hM;have:=S.size;replace S:=S.ax s0;refine Rg.bg G G (aN (T.aP ?_));refine ar (A:=RT.en) (B:=RT.dc) ef G G om q0 Zj G G q0 dF cf (λAe kS=>?_);refine cv (A:=RT.dc) bp G om q0 G G G kS cf (λyB lR=>?_);refine aQ G G E93 (Mi _ hM lR hl) (λr2 w2 hc=>?_);obtain⟨rfl,s2⟩:=hc;have:=ae gb;replace ej:=(s2.mem _ this).2 ej;replace gb:=s2.aB gb;replace dF:=dF.le q0 s2.le;replace ho:=ho.bM s2;replace fj:=(s2.mem _ (ae hW.at_)).2 fj;replace hW:=hW.bM s2;replace hR:=hR.bM s2;replace hM:=s2.lt hM;have:=S.size;replace S:=S.ax s2;refine Rg.bg G G (T.aP (ab G G (eW G G G (ad ?_))));refine bF G (λc2=>?_) (λc2=>?_)
 ·refine T.aP (ab G G (Rg.bg G G (aJ ?_)));have ea:mq last e=mj e.1:=if_pos c2;exact aM rfl rfl ⟨_,hM,S,by rw[ea],λ_=>⟨mb,vl,es,clock,gb,ej,fj,hB,HZ,ho,hW,hR,zl⟩,λh=>absurd (ea▸h) c2⟩
 ·have hF:iC e.1:=H2 (by simpa using c2);refine aR (aN (aN ?_));apply um mixed rfl rfl;intro wD4 sA4;have qu:=sA4 M;have:=ae gb;replace ej:=(qu.mem _ this).2 ej;replace gb:=qu.aB gb;replace dF:=dF.le q0 qu.le;replace ho:=ho.bM qu;replace fj:=(qu.mem _ (ae hW.at_)).2 fj;replace hW:=hW.bM qu;replace hR:=hR.bM qu;replace hM:=qu.lt hM;have:=S.size;replace S:=S.ax qu;refine ar (A:=RT.en) (B:=RT.int .i64) ef G G I3 q0 en1 G G q0 dF cf (λJw qZ=>?_);refine Rg.dm ?_;refine b4 (M:=M) ak G G Ub (by repeat (first|exact bI _ _|refine aX (bJ Ub) ?_)) (λTu=>?_);refine bh (v':= .int .i64 (e.2)) G ?_;replace Tu: -9223372036854775808<=(e.2:Int)/\e.2<=9223372036854775807:=Tu;refine Rg.dm (ab G G (Rg.dm (aW G ⟨_,G⟩ G (Rg.dm (aT (o':=3) dY G G I3 q0 G G (Rg.dm (aG ak G G G (by first|assumption|exact bY qu Ub) G (Rg.dm (fQ G G G (Rg.dm (gm ?_)))))))))));refine bF G (λc4=>?_) (λc4=>?_)
  ·refine T.aP (Rg.bg G G (aJ ?_));have ea:mq last e=12:=by unfold mq;rw[if_neg (λh=>h (by simpa using c2)),if_pos c4]
   exact aM rfl rfl ⟨_,hM,S,by rw[ea],λ_=>⟨mb,vl,es,clock,gb,ej,fj,hB,HZ,ho,hW,hR,zl⟩,λh=>absurd (ea▸h) q0⟩
  ·refine aR (T.aP ?_);refine ar (A:=RT.en) (B:=RT.dc) ef G G om q0 Zj G G q0 dF cf (λVG DK=>?_);refine cv (A:=RT.dc) bp G om q0 G G G DK cf (λVH yF=>?_);refine aQ G G E94 (Ec _ hM yF hF hl) (λr6 w6 hc=>?_);obtain⟨a6,b6,rfl,ha,qI,s6⟩:=hc;have:=ae gb;replace ej:=(s6.mem _ this).2 ej;replace gb:=s6.aB gb;replace dF:=dF.le q0 s6.le;replace ho:=ho.bM s6;replace fj:=(s6.mem _ (ae hW.at_)).2 fj;replace hW:=hW.bM s6;replace hR:=hR.bM s6;replace hM:=s6.lt hM;have:=S.size;replace S:=S.ax s6;refine ab G G (cq G G G (cq G G G (aF G G (Rg.bg G G (aN (T.aP (ab G G (bN jA G ha G (ab G G ?_)))))))));refine ad (aY ?_);refine dz (σ:=Nat) (λq=>[(0,.pointer (some ⟨b,0,none⟩)),(3,u0),(7,b6),(30,a6),(31,.int .i64 ((dG (sF e)).length:Int)),(32,.int .i64 (q:Int))]) (λq w=>∃M' es clock,Lt M' w/\Step M w0 M' w (No M Z)/\cR RT.en M' w u0 e/\(RT.fd.sl).V M' w (dG (sF e)) a6/\(((RT.int .i64).sl).sl).V M' w ((dG (sF e)).map (posOf (sF e))) b6/\Buf Z M' w B b mb vl L words last (Np L (sF e) q) (λx=>x∈jo L\/x∈((dG (sF e)).take q).map cZ) es clock/\q<=(dG (sF e)).length) (λq=>(dG (sF e)).length-q) 0 a11 ?_ ?_
   ·exact⟨_,es,clock,hM,S,dF,ha,qI,⟨gb,ej,fj,hB,HZ,ho,hW,hR.congr (λk=>Nq _ _ _) (λk=>by simp),zl⟩,bm _⟩
   ·clear hM S dF ha qI gb ej fj ho hW hR;rintro i w ⟨M1,es,clock,hM,S,dF,ha,qI,⟨gb,ej,fj,_,_,ho,hW,hR,_⟩,hi⟩;refine T.aP (cy G G G (ad (aN ?_)));refine bF G (λc8=>?_) (λc8=>?_)
    ·refine aR (aN (aY (T.aP (ab G G ?_))));refine cD jA mi G G G ha cf hV (λahl t Tk Nw=>?_);rw[aw]at Tk;have Qs:=ao Tk;have Lk:=hF.term Qs;refine cv (A:=RT.fd) bK G mi q0 G G G Nw cf (λahm Nx=>?_);obtain rfl:=kh Nx;refine ec M1 mi G (λyR ZG aqp aqq oD pX=>?_);obtain⟨A9,Ny⟩:∃M',M'=ins M1 yR:=⟨_,rfl⟩;rw[<-Ny]at pX;have Ck:A9 yR:=by rw[Ny];exact .inl G
     change ZG.heap[yR]? =some (.cells #[.string ⟨#[]⟩,.string ⟨#[]⟩] _ _)at oD;have:=ae gb;replace ej:=(pX.mem _ this).2 ej;replace gb:=pX.aB gb;replace dF:=dF.le q0 pX.le;replace ha:=ha.le pX.le;replace qI:=qI.le pX.le;replace ho:=ho.bM pX;replace fj:=(pX.mem _ (ae hW.at_)).2 fj;replace hW:=hW.bM pX;replace hR:=hR.bM pX;replace hM:=pX.lt hM;have:=S.size;replace S:=S.ax pX;refine aF G G ?_;refine cM (M:=A9) (vs:=[.string ⟨t.1.toArray⟩,.string ⟨t.2.toArray⟩]) mi G G (Gq G Nx) G G oD Ck (λw9 g9 s9=>?_);have:=ae gb;replace ej:=(s9.mem _ this).2 ej;replace gb:=s9.bR gb a03;have:=ae oD;replace Ck:=(s9.mem _ this).2 Ck;replace dF:=dF.le q0 s9.le;replace ha:=ha.le s9.le;replace qI:=qI.le s9.le;replace ho:=ho.step s9 (λc hc (h:_=_)=>by first|exact ho.fx gb q0 (h▸hc)|exact ho.fx oD q0 (h▸hc));replace fj:=(s9.mem _ (ae hW.at_)).2 fj;replace hW:=hW.step s9 a30;replace hR:=hR.step s9 a15;replace hM:=s9.lt hM;have:=S.size;replace S:=S.trans s9 (λk hk h=>by have h:_=_:=h;subst h;first|(exfalso;omega)|(show _<=_;omega)|exact⟨by first|omega|assumption,(S.mem _ hk).1 ((s9.mem _ (ae oD)).1 Ck)⟩|exact .inl rfl|exact .inr rfl|exact .inr (.inl rfl)|exact .inr (.inr rfl)|exact .inr (.inr (.inl rfl))|exact rfl);have Tv:=g9;clear oD;have oD:=Tv;clear Tv;refine ad (T.aP (eC (vs:=[.string ⟨t.1.toArray⟩,.string ⟨t.2.toArray⟩]) bK G mi G G G oD ?_))
     refine aQ G G E95 (MP (t:=t) _ hM hV hV) (λr10 w10 hc=>?_);obtain⟨rfl,rV⟩:=hc;have:=ae gb;replace ej:=(rV.mem _ this).2 ej;replace gb:=rV.aB gb;replace dF:=dF.le q0 rV.le;replace ha:=ha.le rV.le;replace qI:=qI.le rV.le;replace ho:=ho.bM rV;replace fj:=(rV.mem _ (ae hW.at_)).2 fj;replace hW:=hW.bM rV;replace hR:=hR.bM rV;replace hM:=rV.lt hM;have:=S.size;replace S:=S.ax rV;refine Rg.bg G G ?_;obtain⟨v10,mY⟩:=eE.ex kj es (sv (cZ t));apply T.pM 21 [0,1,2,3,4,5,6,7,8,9,10] 2 (me v10) mixed rfl rfl rfl rfl;intro Eg V5;have dU:=V5 A9;have:=ae gb;replace ej:=(dU.mem _ this).2 ej;replace gb:=dU.aB gb;replace dF:=dF.le q0 dU.le;replace ha:=ha.le dU.le;replace qI:=qI.le dU.le;replace ho:=ho.bM dU;replace fj:=(dU.mem _ (ae hW.at_)).2 fj;replace hW:=hW.bM dU;replace hR:=hR.bM dU;replace hM:=dU.lt hM;have:=S.size;replace S:=S.ax dU;refine ab G G (Rg.dm (aW G ⟨_,G⟩ G (Rg.dm (aT (o':=1) dY G G Gu q0 G G (Rg.dm (aG im G G G (by first|assumption|exact bY dU Ub) G (Rg.dm (ab G G (Rg.dm (ab G G (Rg.dm ?_)))))))))));refine aW G ⟨_,G⟩ G (Rg.dm (aT (o':=1) dY G G Gu q0 G G (Rg.dm (aG im G G G (by first|assumption|exact bY dU Ub) G (Rg.dm (ab G G (Rg.dm ?_)))))));obtain⟨kl,Fs⟩:=Nn (cZ t) (by unfold cZ;simp;omega);refine Rg.td im tA kn G G G Fs hW (λahn aho=>?_);obtain rfl:v10=ahn:=hW.val_one mY aho;have xg:=Rm hLF (sF e) i (cZ t);have sN:(dG (sF e)).length<=500:=A8 hF;refine Rg.dm (ab G G (Rg.dm (aW G ⟨_,G⟩ G (Rg.dm (aT (o':=0) dY G G I29 q0 G G (Rg.dm (aG gT G G G (by first|assumption|exact bY dU Ub) G (Rg.dm (iQ gT G ho G (Rg.dm (ab G G ?_)))))))))))
     refine Rg.dm (ab G G (Rg.dm ?_));refine cD gp pb rfl rfl rfl qI cf a08 (λu18 ps aaF V6=>?_);rw[aw,eN,Tk]at aaF;obtain rfl:=aK aaF;refine Rg.dm ?_;refine bP av G G G G G V6 cf (λv19 Rn=>?_);refine Rg.dm (dg (places:=[(0,1),(1,1)]) b9 iM QM rfl ⟨_,_,rfl,rfl,_,_,rfl,rfl,rfl⟩ (out:=[_,_]) ⟨0,[_],rfl,rfl,by simp[Value.cells],1,[_],rfl,iO Rn,by simp[Value.cells],rfl⟩ ?_);have Nz:RT.po.V A9 _ ((L.length:Int),posOf (sF e) t) _:=fw (gV hV) Rn rfl rfl rfl rfl;refine Rg.dm (gm ?_);have rf:=hR.o _ _ mY;refine ⟨j1 ⟨rv,⟨cH.nilCheck G,⟨jP dY G Gu q0,⟨gD G gb (λh=>rf.fx gb q0 h),⟨rv,⟨rv,⟨cH.nilCheck G,⟨jP dY G Gu q0,⟨gD G gb (λh=>rf.fx gb q0 h),⟨rv,⟨cH.td im tA kn G G Fs hW (λh=>rf.km hW.at_ h),trivial⟩⟩⟩⟩⟩⟩⟩⟩⟩⟩⟩,?_⟩;have kp:=l9 (me v10) Eg;refine fp (A:=RT.po) (hn:=by decide) (M:=A9) bu iM q0 G G hM (Nz) (.inl G) (λahp ahq Ro lV=>?_);have:=ae gb;replace ej:=(lV.mem _ this).2 ej;replace gb:=lV.aB gb;replace dF:=dF.le q0 lV.le;replace ha:=ha.le lV.le;replace qI:=qI.le lV.le;replace ho:=ho.bM lV;replace fj:=(lV.mem _ (ae hW.at_)).2 fj;replace hW:=hW.bM lV;replace hR:=hR.bM lV;replace hM:=lV.lt hM;have:=S.size;replace S:=S.ax lV;refine(fun(kp:fI _ _ _)=>ad ⟨G,G,λ_=>kp,?_⟩) a01;refine Rg.mv (M:=A9) (base:=B) bu iM rfl rfl rfl rfl (hR.o _ _ mY) Ro cf a08 a08 ad8 (λv22 w22 ahs xp aht=>?_)
     have rf:=hR.o _ _ mY;have ame:=hW.at_;have aaG:v10.ownBlock≠some mb:=rf.km hW.at_;have Tx:=ho.step xp (λc hc h=>ho.iZ rf q0 hc h);have Gv:=(xp.mem _ (ae hW.at_)).2 fj;have Rp:=hW.step xp aaG;have aaH:=xp.bR gb (λh=>rf.fx gb q0 h);have V7:=(xp.mem _ (ae gb)).2 ej;have S22:=S.trans xp (λk hk h=>⟨hR.z _ _ k mY h,(S.mem k hk).1 (rf.mut_ k h)⟩);have ahu:=xp.lt hM;replace dF:=dF.le q0 xp.le;replace ha:=ha.le xp.le;replace qI:=qI.le xp.le;refine(fun(kp:fI _ _ _)=>ad ⟨G,G,λ_=>kp,?_⟩) a01;refine Rg.Re im tA G G G Fs Rp Gv (λw23 ahv ahw ahx V8 V9 P1=>?_);have ahy:=hR.put (λc hc=>hZ c ad8) mY ahs xp aht Rp.at_ P1 V9 V8;replace dF:=dF.le q0 P1.le;replace ha:=ha.le P1.le;replace qI:=qI.le P1.le;have ahz:=Tx.step P1 (λc hc (h:c=mb)=>Tx.km Rp.at_ (h▸hc));have ahA:=P1.bR aaH Tp;have Wa:=(P1.mem _ (ae aaH)).2 V7;have Wb:=(P1.mem _ (ae Rp.at_)).2 Gv;have ahB:=P1.lt ahu;have S23:=S22.trans P1 (λk hk (h:k=mb)=>⟨by rw[h];exact HZ,(S22.mem k hk).1 (by rw[h];exact Gv)⟩);refine ad ⟨G,G,λh=>absurd G h,rq (aL (bB G G G hV (ab G G (ad ?_))))⟩;refine⟨G,i+1,a11,?_,?_⟩
     ·exact⟨_,ahv,ahw,ahB,S23,dF,ha,qI,⟨ahA,Wa,Wb,hB,HZ,ahz,ahx,ahy.congr (λk=>Nr Tk k) (λk=>by rw[bX,Tk,dx,eu,dw,or_assoc];simp),zl⟩,by omega⟩
     ·omega
    ·refine cQ (aN ?_);apply T.pM 6 [0,1,2,3,4] 3 (me vl) mixed rfl rfl rfl rfl;intro Mq Vx;have iN:=Vx M1;have:=ae gb;replace ej:=(iN.mem _ this).2 ej;replace gb:=iN.aB gb;replace dF:=dF.le q0 iN.le;replace ha:=ha.le iN.le;replace qI:=qI.le iN.le;replace ho:=ho.bM iN;replace fj:=(iN.mem _ (ae hW.at_)).2 fj;replace hW:=hW.bM iN;replace hR:=hR.bM iN;replace hM:=iN.lt hM;have:=S.size;replace S:=S.ax iN;refine ab G G (Rg.dm (ab G G (Rg.dm (aW G ⟨_,G⟩ G (Rg.dm (aT (o':=0) dY G G I29 q0 G G (Rg.dm (aG gT G G G gb G (bh (v':=vl) G (Rg.dm ?_))))))))));refine cv (A:=RT.en) ef G FN q0 G G G dF cf (λHT uO=>?_);refine Rg.dm (gm (⟨j1 ⟨rv,⟨rv,⟨cH.nilCheck G,⟨jP dY G I29 q0,⟨gD G gb (λh=>ho.fx gb q0 h),trivial⟩⟩⟩⟩⟩,?_⟩));have kp:=l9 (me vl) Mq;refine aQ G G E96 (Nb _ hM uO (by have:=hF.few;omega)) (λTy Wc hc=>?_);obtain⟨yS,tB⟩:=hc;have:=ae gb;replace ej:=(tB.mem _ this).2 ej;replace gb:=tB.aB gb;replace dF:=dF.le q0 tB.le;replace ha:=ha.le tB.le;replace qI:=qI.le tB.le;replace ho:=ho.bM tB;replace fj:=(tB.mem _ (ae hW.at_)).2 fj;replace hW:=hW.bM tB;replace hR:=hR.bM tB;replace hM:=tB.lt hM;have:=S.size;replace S:=S.ax tB;refine(fun(kp:fI _ _ _)=>ad ⟨G,G,λ_=>kp,?_⟩) a01;refine fp (A:=RT.en) (hn:=by decide) (M:=M1) gT FN q0 G G hM (yS) (.inl G) (λamg amh Wd oZ=>?_);have:=ae gb;replace ej:=(oZ.mem _ this).2 ej
     replace gb:=oZ.aB gb;replace dF:=dF.le q0 oZ.le;replace ha:=ha.le oZ.le;replace qI:=qI.le oZ.le;replace yS:=yS.le oZ.le;replace ho:=ho.bM oZ;replace fj:=(oZ.mem _ (ae hW.at_)).2 fj;replace hW:=hW.bM oZ;replace hR:=hR.bM oZ;replace hM:=oZ.lt hM;have:=S.size;replace S:=S.ax oZ;refine(fun(kp:fI _ _ _)=>ad ⟨G,G,λ_=>kp,?_⟩) a01;refine Rg.mv (M:=M1) (base:=B) gT FN rfl rfl rfl rfl ho Wd cf a08 a08 ad8 (λEh ami We wa ahC=>?_);replace ej:=(wa.mem _ (ae gb)).2 ej
     have zl':∀c,Eh.ownBlock=some c->Z c:=λc hc=>by
      rcases ahC c hc with h|h
      ·exact hZ c ad8
      ·exact zl c h
     replace hR:=hR.step wa (λk v c hv hc h=>(hR.o k v hv).iZ ho q0 hc h);replace fj:=(wa.mem _ (ae hW.at_)).2 fj;replace hW:=hW.step wa (λh=>ho.km hW.at_ h);replace gb:=wa.bR gb (λh=>ho.fx gb q0 h);replace dF:=dF.le q0 wa.le;replace S:=S.trans wa (λk hk h=>⟨zl k h,(S.mem k hk).1 (ho.mut_ k h)⟩);replace hM:=wa.lt hM;replace ho:=We;obtain⟨M13,ahD⟩:∃M',M'=lx M1 Eh:=⟨_,rfl⟩;rw[<-ahD]at hR fj dF S hM ho ej;refine(fun(kp:fI _ _ _)=>ad ⟨G,G,λ_=>kp,?_⟩) a01;refine aW G ⟨_,G⟩ G (ad ⟨G,G,λh=>absurd G h,aT (o':=0) dY G G I29 q0 G G (ad ⟨G,G,λh=>absurd G h,?_⟩)⟩);refine cg (M:=M13) I29 rfl rfl gb rfl a95 ej (λWf NA oE=>?_);change Wf.heap[_]? =some (Obj.cells #[Eh,.map (some mb),.int .i64 words,.int .i64 last] _ _)at NA;have:=ae gb;replace ej:=(oE.mem _ this).2 ej;replace dF:=dF.le q0 oE.le;replace ho:=ho.step oE (λc hc (h:_=_)=>by first|exact ho.fx gb q0 (h▸hc)|exact ho.fx oD q0 (h▸hc));replace fj:=(oE.mem _ (ae hW.at_)).2 fj;replace hW:=hW.step oE a30;replace hR:=hR.step oE a15;replace hM:=oE.lt hM;have:=S.size;replace S:=S.trans oE (λk hk h=>by have h:_=_:=h;subst h;first|(exfalso;omega)|(show _<=_;omega)|exact⟨by first|omega|assumption,(S.mem _ hk).1 ((oE.mem _ (ae gb)).1 ej)⟩|exact .inl rfl|exact .inr rfl|exact .inr (.inl rfl)|exact .inr (.inr rfl)|exact .inr (.inr (.inl rfl))|exact rfl)
     have MN:=NA;clear gb;have gb:=MN;clear MN;refine ad ⟨G,G,λh=>absurd G h,rq (aN ?_)⟩;apply T.pM 6 [0,1,2,3] 1 aE mixed rfl rfl rfl rfl;intro Wg NB;have qJ:=NB M13;have:=ae gb;replace ej:=(qJ.mem _ this).2 ej;replace gb:=qJ.aB gb;replace dF:=dF.le q0 qJ.le;replace ho:=ho.bM qJ;replace fj:=(qJ.mem _ (ae hW.at_)).2 fj;replace hW:=hW.bM qJ;replace hR:=hR.bM qJ;replace hM:=qJ.lt hM;have:=S.size;replace S:=S.ax qJ;refine ab G G (Rg.dm (aW G ⟨_,G⟩ G (Rg.dm (aT (o':=2) dY G G I3 q0 G G (Rg.dm (aG ak G G G (by first|assumption|exact bY qJ Ub) G (Rg.dm ?_)))))));refine ar (A:=RT.en) (B:=RT.dc) ef G G om q0 Zj G G q0 dF cf (λamj Wh=>?_);refine Rg.dm ?_;refine cv (A:=RT.dc) bp G om q0 G G G Wh cf (λamk Wi=>?_);refine Rg.dm (gm (⟨j1 ⟨rv,⟨cH.nilCheck G,⟨jP dY G I3 q0,⟨gD G gb (λh=>h),trivial⟩⟩⟩⟩,?_⟩));have kp:=l9 aE Wg;refine aQ G G E97 (DT _ hM Wi hl hF.few) (λr14 MF hc=>?_);obtain⟨rfl,jn⟩:=hc;have:=ae gb;replace ej:=(jn.mem _ this).2 ej;replace gb:=jn.aB gb;replace dF:=dF.le q0 jn.le;replace ho:=ho.bM jn;replace fj:=(jn.mem _ (ae hW.at_)).2 fj;replace hW:=hW.bM jn;replace hR:=hR.bM jn;replace hM:=jn.lt hM;have:=S.size;replace S:=S.ax jn;refine(fun(kp:fI _ _ _)=>ad ⟨G,G,λ_=>kp,?_⟩) a01;have:=hF.many;refine bB G G G hV (ad ⟨G,G,λh=>absurd G h,aW G ⟨_,G⟩ G (ad ⟨G,G,λh=>absurd G h,aT (o':=2) dY G G I3 q0 G G (ad ⟨G,G,λh=>absurd G h,?_⟩)⟩)⟩)
     refine cg (M:=M13) I3 G G gb G (G) ej (λWj NC oF=>?_);change Wj.heap[_]? =some (Obj.cells #[Eh,.map (some mb),.int .i64 (words+((sF e).length:Int)),.int .i64 last] _ _)at NC;have:=ae gb;replace ej:=(oF.mem _ this).2 ej;replace dF:=dF.le q0 oF.le;replace ho:=ho.step oF (λc hc (h:_=_)=>by first|exact ho.fx gb q0 (h▸hc)|exact ho.fx oD q0 (h▸hc));replace fj:=(oF.mem _ (ae hW.at_)).2 fj;replace hW:=hW.step oF a30;replace hR:=hR.step oF a15;replace hM:=oF.lt hM;have:=S.size;replace S:=S.trans oF (λk hk h=>by have h:_=_:=h;subst h;first|(exfalso;omega)|(show _<=_;omega)|exact⟨by first|omega|assumption,(S.mem _ hk).1 ((oF.mem _ (ae gb)).1 ej)⟩|exact .inl rfl|exact .inr rfl|exact .inr (.inl rfl)|exact .inr (.inr rfl)|exact .inr (.inr (.inl rfl))|exact rfl);have MN:=NC;clear gb;have gb:=MN;clear MN;refine ad ⟨G,G,λh=>absurd G h,rq (T.aP (ab G G ?_))⟩;refine ar (A:=RT.en) (B:=RT.int .i64) ef G G I3 q0 en1 G G q0 dF cf (λaml ahE=>?_);refine b4 (M:=M13) ak G G Ub (by repeat (first|exact bI _ _|refine aX (bJ Ub) ?_)) (λND=>?_);refine bh (v':= .int .i64 (e.2)) G ?_;replace ND: -9223372036854775808<=(e.2:Int)/\e.2<=9223372036854775807:=ND;refine aW G ⟨_,G⟩ G (aT (o':=3) dY G G I3 q0 G G ?_);refine cg (M:=M13) I3 G G gb G (G) ej (λTz H8 jK=>?_)
     change Tz.heap[_]? =some (Obj.cells #[Eh,.map (some mb),.int .i64 (words+((sF e).length:Int)),.int .i64 e.2] _ _)at H8;have:=ae gb;replace ej:=(jK.mem _ this).2 ej;replace dF:=dF.le q0 jK.le;replace ho:=ho.step jK (λc hc (h:_=_)=>by first|exact ho.fx gb q0 (h▸hc)|exact ho.fx oD q0 (h▸hc));replace fj:=(jK.mem _ (ae hW.at_)).2 fj;replace hW:=hW.step jK a30;replace hR:=hR.step jK a15;replace hM:=jK.lt hM;have:=S.size;replace S:=S.trans jK (λk hk h=>by have h:_=_:=h;subst h;first|(exfalso;omega)|(show _<=_;omega)|exact⟨by first|omega|assumption,(S.mem _ hk).1 ((jK.mem _ (ae gb)).1 ej)⟩|exact .inl rfl|exact .inr rfl|exact .inr (.inl rfl)|exact .inr (.inr rfl)|exact .inr (.inr (.inl rfl))|exact rfl);have MN:=H8;clear gb;have gb:=MN;clear MN;refine ad (T.aP (Rg.bg G G (aJ ?_)));have ea:mq last e=0:=by unfold mq;rw[if_neg (λh=>h (by simpa using c2)),if_neg c4]
     exact aM rfl rfl ⟨_,hM,S,by rw[ea],λh=>absurd ea h,λ_=>⟨mb,_,es,clock,gb,ej,fj,hB,HZ,ho,hW,hR.congr (λk=>(Rl hV k).symm) (λk=>by rw[Gp,dw,bD hV]),zl'⟩⟩
end Go.K
namespace Go.K
open Go.Proofs
namespace TKBldE
theorem kn:TI Tryz.prog 117 (.slice none 0 0) 1 24:=by unfold TI;kernel_rfl
theorem Gu:TI Tryz.prog 180 (.map none) 1 8:=by unfold TI;kernel_rfl
theorem E98:Enters Tryz.prog 98:=enters Tryz.func98 rfl q0
theorem E99:Enters Tryz.prog 99:=enters Tryz.func99 rfl q0
theorem JQ:Enters Tryz.prog 100:=enters Tryz.func100 rfl q0
end TKBldE
open TKBldE
set_option maxRecDepth 10000
theorem fM.H6 {P:Program} {kt:TypeId} {w:World} {b clock:Nat} {es:List MapEntry} (hk:P.underlying kt=some .string) (h:fM P kt w b es clock):∃ks:List (List UInt8),es.map (·.key)=ks.map sv/\ks.Nodup:=by
 have key:∀es:List MapEntry,(∀e∈es,∃l,keyOf P kt e.key=some l)->∃ks:List (List UInt8),es.map (·.key)=ks.map sv:=by
  intro es
  induction es with
  |nil=>exact λ_=>⟨[],rfl⟩
  |cons e es ih=>
   intro h;obtain⟨ks,h1⟩:=ih λx hx=>h x (cn _ hx)
   obtain⟨l,hl⟩:=h e (bL ..);obtain⟨x,h3,_,h4⟩:=Maps.keyOf_str hk hl;exact⟨x::ks,by simp only[fe,h1,h3]⟩
 obtain⟨ks,h1⟩:=key es h.ok;refine ⟨ks,h1,?_⟩;have h3:=dV.2 h.keys;rw[h1]at h3;exact(dV.1 h3).imp λh e=>h (by rw[e])
theorem Ei {M:aH} {w:World}:∀{l:List (List UInt8)},(∀x∈l,x.length<=140737488355328)->fF RT.str M w l (l.map Go.Proofs.encStr)
 |[],_=>rfl
 |x::l,h=>⟨[.string ⟨x.toArray⟩],_,rfl,⟨rfl,h x (bL ..)⟩,Ei λy hy=>h y (cn _ hy)⟩
theorem NF (M:aH) (w:World) (M':aH) (w':World) (x:List UInt8) (vs:List Value) (h:RT.str.R M w x vs):RT.str.R M' w' x vs:=h
theorem we {L:List En} (hF:∀x∈L,iC x.1):∀k∈jo L,k.length<=43:=λk hk=>by
 obtain⟨e,he,h1⟩:=List.mem_flatMap.1 hk;obtain⟨t,ht,rfl⟩:=cx.1 h1;have:=(hF e he).term ht;unfold cZ;simp;omega
theorem uW {L:List En} (hF:∀x∈L,iC x.1):(jo L).length<=500*L.length:=by
 induction L with
 |nil=>simp[jo]
 |cons e L ih=>
  have h1:=ih λx hx=>hF x (cn _ hx)
  have h2:=A8 (hF e (bL ..));show((dG (sF e)).map cZ++jo L).length<=_;rw[bG,bW,cz];have h2:(dG (sF e)).length<=500:=h2;omega
theorem Gw {Z M:aH} {B b:Nat} {L:List En} {words last:Int} (w0:World) (hM:Lt M w0) (hb:nL Z M w0 B b L words last) (hF:∀x∈L,iC x.1) (hLn:L.length<=1000000):
  Spec Tryz.prog 50 #[.pointer (some ⟨b,0,none⟩)] w0 (λv w=>(RT.str.sl).V M w (keysOf L) v/\Step M w0 M w aE):=by
 obtain⟨mb,vl,es,clock,gb,ej,fj,hB,HZ,ho,hW,hR,zl⟩:=hb;obtain⟨ks,BX,mu⟩:=hW.H6 aA
 have gJ:∀x,x∈ks↔x∈jo L:=λx=>by
  rw[<-hR.k x];constructor
  ·intro hx;have:sv x∈es.map (·.key):=by rw[BX];exact fL hx
   obtain⟨e,he,h⟩:=cx.1 this;exact⟨e,he,h⟩
  ·rintro⟨e,he,h⟩;have:sv x∈ks.map sv:=by rw[<-BX,<-h];exact fL he
   obtain⟨y,hy,h1⟩:=cx.1 this;rw[<-Cg h1];exact hy
 have Ys:ks.length<=500000000:=by
  have h1:=mu.length_le_of_subset (l₂:=jo L) (λx hx=>(gJ x).1 hx);have h2:=uW hF;omega
 have hen:es.length=ks.length:=by have:=congrArg List.length BX;simpa using this
 refine a8 (args:=[_]) (fn:=Tryz.f50) Tryz.func50 G (n:=9) Tryz.ntmps50 ?_;have S:Step M w0 M w0 aE:=aV;refine T.aP (Rg.bg G G (T.aP (ab G G (aW G ⟨_,G⟩ G (aT (o':=1) dY G G Gu q0 G G (aG im G G G gb G (bh (v':= .map (some mb)) G ?_)))))));refine aQ G G E99 (Gr _ _) (λr w1 hc=>?_);obtain⟨rfl,hw1⟩:=hc;have s1:Step M w0 M w1 aE:=by rw[hw1];exact dT _ w0 _
 have LP:=Ak hw1;have:=ae gb;replace ej:=(s1.mem _ this).2 ej;replace gb:=s1.aB gb;replace fj:=(s1.mem _ (ae hW.at_)).2 fj;replace hW:=hW.bM s1;replace hM:=s1.lt hM;have:=S.size;replace S:=S.ax s1;obtain⟨m,hO,aaJ,xH⟩:=hW.ag5 aA fj (by unfold maxLen;omega) ks BX;refine aQ G G E98 (Ci hO LP hV) (λr2 w2 hc=>?_);obtain⟨⟨ss,hss,pv,_⟩,s2⟩:=hc;have Us:ss.Perm ks:=hss.trans aaJ;have hmp:=List.mergeSort_perm ss λx y=>decide (x<=y)
 have oV:(ss.mergeSort λx y=>decide (x<=y))=keysOf L:=VW (JJ (Us.nodup_iff.2 mu)) (oC L) λx=>by rw[hmp.mem_iff,Us.mem_iff,gJ,lU]
 have hlen:ss.length=(keysOf L).length:=by rw[<-oV,List.length_mergeSort]
 rw[oV,hlen]at pv;have ahG:∀x∈keysOf L,x.length<=140737488355328:=λx hx=>by have:=we hF x (lU.1 hx);omega
 have rD:Own RT.str 9 (qG r2) w2 w1.heap.size r2 (keysOf L):=⟨⟨_,pv,Ei ahG⟩,λb hb=>hb⟩;have CO:(RT.str.sl).V M w2 (keysOf L) r2:=rD.tell NF (λb hb h=>by have:=(rD.base b hb).1;have:=hM b h;omega) (by have:=Us.length_eq;omega);have:=ae gb;replace ej:=(s2.mem _ this).2 ej;replace gb:=s2.aB gb;replace fj:=(s2.mem _ (ae hW.at_)).2 fj;replace hW:=hW.bM s2;replace hM:=s2.lt hM;have:=S.size;replace S:=S.ax s2;refine Rg.bg G G (aJ ?_);exact aM G G ⟨CO,S⟩
theorem Gx {Z M:aH} {B b:Nat} {L:List En} {words last:Int} {k:List UInt8} (w0:World) (hM:Lt M w0) (hb:nL Z M w0 B b L words last) (hF:∀x∈L,iC x.1) (hLn:L.length<=1000000) (Fs:k.length<=140737488355328):
  Spec Tryz.prog 51 #[.pointer (some ⟨b,0,none⟩),sv k] w0 (λv w=>(RT.po.sl).V M w (pk L k) v/\Step M w0 M w aE):=by
 have iF:=hM;obtain⟨mb,vl,es,clock,gb,ej,fj,hB,HZ,ho,hW,hR,zl⟩:=hb;obtain⟨kl,C1⟩:=Nn k Fs;obtain⟨xg,hpa⟩:=uU k L 0 hF;replace xg:(pk L k).length<=L.length:=xg;replace hpa:∀p∈pk L k,_:=hpa;refine a8 (args:=[_,_]) (fn:=Tryz.f51) Tryz.func51 G (n:=30) Tryz.ntmps51 ?_;have S:Step M w0 M w0 aE:=aV;refine T.aP (Rg.bg G G (T.aP (Rg.bg G G (aN (T.aP (ab G G ?_))))));refine aW G ⟨_,G⟩ G (aT (o':=1) dY G G Gu q0 G G (aG im G G G gb G (bh (v':= .map (some mb)) G (ab G G ?_))));refine Rg.td im tA kn G G G C1 hW (λWk mY=>?_);have rf:=hR.o _ _ mY;have KO:∀c,Wk.ownBlock=some c->c<w0.heap.size:=λc hc=>(rf.base c hc).2
 clear hR hW ho;refine iQ bu G rf G (ab G G (ad (aY ?_)));refine dz (σ:=Nat×Value) (λq=>[(5,q.2),(13,Wk),(14,.int .i64 ((pk L k).length:Int)),(15,.int .i64 (q.1:Int))]) (λq w=>∃M',Lt M' w/\Step M w0 M' w aE/\Own RT.po 188 M' w w0.heap.size q.2 ((pk L k).take q.1)/\Own RT.po 188 M' w B Wk (pk L k)/\q.1<=(pk L k).length) (λq=>(pk L k).length-q.1) (0,.slice none 0 0) Uc ?_ ?_
 ·exact⟨M,hM,S,eG _ _ _ _ _,rf,bm _⟩
 ·clear hM S rf;rintro⟨i,u⟩ w ⟨M1,hM,S,hu,rf,hi⟩;dsimp only at hu hi ⊢;refine T.aP (cy G G G (ad (aN ?_)));refine bF G (λc3=>?_) (λc3=>?_)
  ·refine aR (aN (aY (T.aP ?_)));refine Rg.aaB bu iM q0 G G G rf hV (λu4 p FR KJ=>?_);rw[aw]at FR;have hp:=hpa p (ao FR);refine Rg.Nl (A:=RT.po) b9 G iM G G G KJ (λv4 pE=>?_);refine oQ (A:=RT.po) (M:=M1) iM G G G G G Ub cf hM (λU8 U9 mE ou aaL=>?_);replace hu:=hu.bM ou;replace rf:=rf.bM ou;replace hM:=ou.lt hM;have:=S.size;replace S:=S.ax ou;refine ad ?_;apply T.pM 5 [0,1,2] 3 aE mixed rfl rfl rfl rfl;intro wD5 sA5;have Rq:=sA5 M1;replace mE:=mE.le q0 Rq.le;replace hu:=hu.bM Rq;replace rf:=rf.bM Rq;replace hM:=Rq.lt hM;have:=S.size;replace S:=S.ax Rq;refine ab G G (Rg.dm ?_);refine ar (M:=M1) (A:=RT.po) (B:=RT.int .i64) b9 G G I3 q0 (PX) G G q0 Ub (by repeat (first|exact bI _ _|refine aX (bJ Ub) ?_)) (λZ5 HR=>?_);refine Rg.dm ?_;refine b4 (M:=M1) ak G G Ub (by repeat (first|exact bI _ _|refine aX (bJ Ub) ?_)) (λaaM=>?_);refine Rg.dm ?_;refine ar (M:=M1) (A:=RT.po) (B:=(RT.int .i64).sl) b9 G G pb q0 (UM) G G q0 Ub (by repeat (first|exact bI _ _|refine aX (bJ Ub) ?_)) (λagk HL=>?_);refine Rg.dm ?_;refine bP (M:=M1) av G G G G G Ub (by repeat (first|exact bI _ _|refine aX (bJ Ub) ?_)) (λaqz aaN=>?_);refine Rg.dm (gm ?_);obtain⟨bb,oo,cs,ee,fr,rfl,nr,_⟩:=HR.float;refine ⟨j1 ⟨rv,⟨jP b9 G I3 q0,⟨gD G nr (λh=>h),trivial⟩⟩⟩,?_⟩;have kp:=l9 aE wD5;refine aQ G G JQ (yP hM aaN hV) (λv5 w5 hc=>?_)
   obtain⟨pF,s5⟩:=hc;replace mE:=mE.le q0 s5.le;replace hu:=hu.bM s5;replace rf:=rf.bM s5;replace hM:=s5.lt hM;have:=S.size;replace S:=S.ax s5;refine(fun(kp:fI _ _ _)=>ad ⟨G,G,λ_=>kp,?_⟩) a01;refine dg (places:=[(0,1),(1,1)]) b9 iM QM rfl ⟨_,_,rfl,rfl,_,_,rfl,rfl,rfl⟩ (out:=[_,_]) ⟨0,[_],rfl,rfl,by simp[Value.cells],1,[_],rfl,iO pF,by simp[Value.cells],rfl⟩ ?_;have Nz:RT.po.V M1 _ p _:=fw (gV aaM) pF rfl rfl rfl rfl;refine(fun(kp:fI _ _ _)=>ad ⟨G,G,λ_=>kp,?_⟩) a01;refine fp (A:=RT.po) (hn:=by decide) (M:=M1) bu iM q0 G G hM (Nz) (.inl G) (λaaO ahH NG tC=>?_);replace mE:=mE.le q0 tC.le;replace pF:=pF.le tC.le;replace hu:=hu.bM tC;replace rf:=rf.bM tC;replace hM:=tC.lt hM;have:=S.size;replace S:=S.ax tC;refine(fun(kp:fI _ _ _)=>ad ⟨G,G,λ_=>kp,?_⟩) a01;refine dH (M:=M1) (base:=w0.heap.size) bu iM rfl rfl rfl rfl hu NG cf a08 a08 (S.size) (λahI ahJ aqA aaP JR=>?_);replace mE:=mE.le q0 JR.le;replace pF:=pF.le JR.le;replace NG:=NG.le JR.le;replace rf:=rf.step JR (λc hc h=>by have:=KO c hc;have:=(hu.base c h).1;omega);replace hM:=JR.lt hM;have:=S.size;replace S:=S.dR JR hu (br _);replace hu:=aaP;refine ad ⟨G,G,λh=>absurd G h,aF G G (ad ⟨G,G,λh=>absurd G h,rq (aL (bB G G G hV (ab G G (ad ?_))))⟩)⟩
   refine⟨G,(i+1,ahI),Uc,?_,?_⟩
   ·exact⟨ahJ,hM,S,by rw[bX,FR,dx];exact hu,rf,by dsimp only;omega⟩
   ·dsimp only;omega
  ·refine cQ (T.aP (ab G G (Rg.bg G G (aJ ?_))));rw[bD hV]at hu;exact aM G G ⟨hu.close iF S hV,S.back⟩
end Go.K
namespace Go.K
open Go.Proofs
namespace TKBldF
theorem ahK:TI Tryz.prog 310 (.agg #[(.slice none 0 0),(.slice none 0 0)]) 2 48:=by unfold TI;kernel_rfl
theorem ahL:placesOf Tryz.prog 310=[(0,1),(1,1)].map some:=by kernel_rfl
theorem ahM:Enters Tryz.prog 197:=enters Tryz.func197 rfl q0
theorem ahN:Enters Tryz.prog 198:=enters Tryz.func198 rfl q0
theorem ahO:Enters Tryz.prog 199:=enters Tryz.func199 rfl q0
end TKBldF
open TKBldF
set_option maxRecDepth 10000
def Ej:Option (List UInt8)->List (List UInt8)->Bool
 |_,[]=>true
 |o,x::l=>(match o with|none=>true|some a=>decide (a<x))&&Ej (some x) l
theorem yT {l:List (List UInt8)} {k:Nat} {x:List UInt8} (h:l[k]? =some x) (o:Option (List UInt8)):Ej o (l.drop k)=((match o with|none=>true|some a=>decide (a<x))&&Ej (some x) (l.drop (k+1))):=by
 obtain⟨eK,he⟩:=al.1 h;rw[eR eK,he];rfl
theorem Ek {a:List UInt8}:∀{l:List (List UInt8)},Gm (a::l)->Ej (some a) l=true
 |[],_=>rfl
 |x::l,h=>by
  have h':=jr.1 h;simp only[Ej,b7,decide_eq_true_eq];exact⟨h'.1 x (bL ..),Ek h'.2⟩
theorem Wl:∀{l:List (List UInt8)},Gm l->Ej none l=true
 |[],_=>rfl
 |x::l,h=>by simp only[Ej,dr];exact Ek h
theorem JS {M:aH} {v:Value} {l:List Int} (w0:World) (hv:((RT.int .i64).sl).V M w0 l v):
  Spec Tryz.prog 153 #[v] w0 (λv' w'=>v'= .bool (fT (-1) l)/\w'=w0):=by
 have hlen:=dQ hv;refine a8 (args:=[_]) (fn:=Tryz.f153) Tryz.func153 G (n:=28) Tryz.ntmps153 (T.aP (Rg.bg G G (aN (T.aP (ab G G (bN av G hv G (ab G G (ad ?_))))))));refine aY ?_;refine dz (σ:=Nat×Int) (λs=>[(0,v),(5,v),(6,.int .i64 l.length),(7,.int .i64 s.1)]) (λs w=>w=w0/\s.1<=l.length/\fT (-1) l=fT s.2 (l.drop s.1)/\ -1<=s.2/\(s.1=0->s.2= -1)/\(0<s.1->l[s.1-1]? =some s.2)) (λs=>l.length-s.1) (0,-1) Uc ?_ ?_
 ·exact⟨rfl,bm _,rfl,by decide,λ_=>rfl,λh=>absurd h (jR 0)⟩
 ·rintro⟨k,last⟩ w1 ⟨rfl,hk,hr,Rr,h0,h1⟩;dsimp only at hk hr Rr h0 h1 ⊢;refine T.aP (cy G G G (ad (aN ?_)));refine bF G (λc2=>?_) (λc2=>?_)
  ·refine aR (aN (aY (T.aP (ab G G ?_))));obtain⟨x,hx⟩:∃x,l[k]? =some x:=⟨_,an hV⟩;refine cD av I3 G G G hv cf hV (λu a hg hu=>?_);obtain rfl:x=a:=dJ (aK (hg.symm.trans ad1));refine b4 ak G G hu cf (λinx=>?_);refine aF G G (Rg.bg G G (T.aP (ab G G (cy G G G (ab G G ?_)))));refine aO (g:=14) G (λuY=>?_) (λuY=>?_)
   ·refine aj G G G G (aj G G G G (aj G G G G (cC G G G (cC G G G (cC G G G (cC G G G (cC G G G (cC G G G (cC G G G (aj G G G G (aU G G G ?_)))))))))));refine ad (kJ G (T.aP (Rg.bg G G (aJ ?_))));refine aM G G ⟨congrArg Value.bool (dJ ?_),G⟩;rw[hr,gq hx,decide_eq_false (show¬last<x by omega),eL]
   ·refine ah G G (ab G G (ah G G (fU G G G (ah G G (ab G G ?_)))));refine aO (g:=17) G (λVF=>?_) (λVF=>?_)
    ·refine ah G G (ab G G (ah G G (ab G G (ah G G (ab G G (ah G G (jw G G G hV (ah G G ?_))))))));refine cD av I3 G G G hv cf hV (λu2 a hg eS=>?_);obtain rfl:last=a:=dJ (aK (hg.symm.trans (by rw[show((k:Int)-1).toNat=k-1 from by omega];exact h1 hV)));refine ah G G ?_;refine b4 ak G G eS cf (λinl=>?_);refine ah G G (fQ G G G (ah G G (aU G G G (az G G G (ad ?_)))));refine bF G (λc4=>?_) (λc4=>?_)
     ·refine T.aP (Rg.bg G G (aJ ?_));refine aM G G ⟨congrArg Value.bool (dJ ?_),G⟩;rw[hr,gq hx,decide_eq_false (show¬last<x by omega),eL]
     ·refine aR (aL (bB G G G hV (ab G G (ad ?_))));refine⟨G,(k+1,x),Uc,?_,?_⟩
      ·refine⟨rfl,by simp only;omega,?_,by simp only;omega,λh=>by simp at h,λ_=>by simpa using hx⟩;rw[hr,gq hx,decide_eq_true (show last<x by omega),dr]
      ·simp only;omega
    ·refine aj G G G G (aj G G G G (aj G G G G (aj G G G G (aj G G G G (aj G G G G (aj G G G G (ah G G (az G G G (az G G G (ad (iS G ?_)))))))))));refine aR (aL (bB G G G hV (ab G G (ad ?_))));refine⟨G,(k+1,x),Uc,?_,?_⟩
     ·refine⟨rfl,by simp only;omega,?_,by simp only;omega,λh=>by simp at h,λ_=>by simpa using hx⟩;rw[hr,gq hx,decide_eq_true (show last<x by omega),dr]
     ·simp only;omega
  ·refine cQ (T.aP (Rg.bg G G (aJ ?_)));refine aM G G ⟨congrArg Value.bool (dJ ?_),G⟩;rw[hr,eT hV];rfl
theorem El {M:aH} {v:Value} {l:List (List UInt8)} (w0:World) (hv:(RT.str.sl).V M w0 l v):
  Spec Tryz.prog 197 #[v] w0 (λv' w'=>v'= .bool (Ej none l)/\w'=w0):=by
 have hlen:=dQ hv;refine a8 (args:=[_]) (fn:=Tryz.f197) Tryz.func197 G (n:=24) Tryz.ntmps197 (T.aP (Rg.bg G G (aN (T.aP (ab G G (bN aD G hv G (ab G G (ad ?_))))))));refine aY ?_;refine dz (σ:=Nat×Option (List UInt8)) (λs=>[(0,v),(5,v),(6,.int .i64 l.length),(7,.int .i64 s.1)]) (λs w=>w=w0/\s.1<=l.length/\Ej none l=Ej s.2 (l.drop s.1)/\(s.1=0->s.2=none)/\(0<s.1->∃a,s.2=some a/\l[s.1-1]? =some a)) (λs=>l.length-s.1) (0,none) Uc ?_ ?_
 ·exact⟨G,bm _,G,λ_=>G,λh=>absurd h (jR 0)⟩
 ·rintro⟨k,o⟩ w1 ⟨rfl,hk,hr,h0,h1⟩;dsimp only at hk hr h0 h1 ⊢;refine T.aP (cy G G G (ad (aN ?_)));refine bF G (λc2=>?_) (λc2=>?_)
  ·refine aR (aN (aY (T.aP (ab G G ?_))));obtain⟨x,hx⟩:∃x,l[k]? =some x:=⟨_,an hV⟩;refine cD aD I9 G G G hv cf hV (λu a hg hu=>?_);obtain rfl:x=a:=dJ (aK (hg.symm.trans ad1));refine bP aA G G G G G hu cf (λvx yz=>?_);obtain rfl:=ep yz;refine aF G G (Rg.bg G G (T.aP (ab G G (fU G G G (ab G G ?_)))));refine aO (g:=14) G (λuY=>?_) (λuY=>?_)
   ·refine ah G G (ab G G (ah G G (ab G G (ah G G (ab G G (ah G G (jw G G G hV (ah G G ?_))))))));obtain⟨last,rfl,j7⟩:=h1 hV;refine cD aD I9 G G G hv cf hV (λu2 a hg eS=>?_);obtain rfl:last=a:=dJ (aK (hg.symm.trans (by rw[show((k:Int)-1).toNat=k-1 from by omega];exact j7)));refine ah G G ?_;refine bP aA G G G G G eS cf (λvl k9=>?_);obtain rfl:=ep k9;refine ah G G (Rg.VV G G G (aU G G G (ad ?_)));refine bF G (λc4=>?_) (λc4=>?_)
    ·refine T.aP (Rg.bg G G (aJ ?_));refine aM G G ⟨congrArg Value.bool (dJ ?_),G⟩;rw[hr,yT hx];simp[c4]
    ·refine aR (aL (bB G G G hV (ab G G (ad ?_))));refine⟨G,(k+1,some x),Uc,?_,?_⟩
     ·refine⟨rfl,by simp only;omega,?_,λh=>by simp at h,λ_=>⟨x,rfl,by simpa using hx⟩⟩;rw[hr,yT hx]
      first
      |(rw[h0 hV];simp;done)
      |(have c4':=cr.1 c4;simp[c4'];done)
     ·simp only;omega
   ·refine aj G G G G (aj G G G G (aj G G G G (aj G G G G (aj G G G G (aj G G G G (aj G G G G (az G G G (ad (iS G (aR (aL ?_)))))))))));refine bB G G G hV (ab G G (ad ?_));refine⟨G,(k+1,some x),Uc,?_,?_⟩
    ·refine⟨rfl,by simp only;omega,?_,λh=>by simp at h,λ_=>⟨x,rfl,by simpa using hx⟩⟩;rw[hr,yT hx]
     first
     |(rw[h0 hV];simp;done)
     |(have c4':=cr.1 c4;simp[c4'];done)
    ·simp only;omega
  ·refine cQ (T.aP (Rg.bg G G (aJ ?_)));refine aM G G ⟨congrArg Value.bool (dJ ?_),G⟩;rw[hr,eT hV];rfl
theorem Ba {α:Type} {A:RT α} {M:aH} {w:World} {v:Value} {x:α} (h:cR A M w v x):v.cells= #[v]:=by
 obtain⟨b,o,vs,rfl,_⟩:=h;rfl
theorem Gy {M:aH} {v0 v1:Value} {ns:List (List UInt8)} {ts:List Li} (w0:World) (hM:Lt M w0) (hn:(RT.str.sl).V M w0 ns v0) (ht:(((RT.li).ptr).sl).V M w0 ts v1) (hl:ns.length<=1099511627776) (Fm:ts.length<=1099511627776):
  Spec Tryz.prog 157 #[v0,v1] w0 (λv w=>∃p,v= .tuple #[p,.int .i64 (if ns.length=ts.length/\Ej none ns=true then 0 else 1)]/\(ns.length=ts.length->Ej none ns=true->cR RT.di M w p (ns,ts))/\Step M w0 M w aE):=by
 refine a8 (args:=[_,_]) (fn:=Tryz.f157) Tryz.func157 G (n:=22) Tryz.ntmps157 ?_;have S:Step M w0 M w0 aE:=aV;refine T.aP (aF G G (Rg.bg G G (aN (T.aP (ab G G (bN aD G hn G (ab G G (bN fa G ht G ?_))))))));refine eW G G G (ab G G ?_);refine aO (g:=11) G (λkP=>?_) (λkP=>?_)
 ·refine aj G G G G (aj G G G G (aj G G G G (aU G G G (ad (kJ G (T.aP (aF G G (Rg.bg G G (aJ ?_)))))))))
  first
  |exact eX rfl rfl rfl ⟨_,by rw[if_neg (λh=>kP hV)],λh=>absurd hV kP,S⟩
  |exact eX rfl rfl rfl ⟨_,by rw[if_neg (λh=>c1 h.2)],λ_ h=>absurd h c1,S⟩
 ·refine ah G G (ab G G (ah G G ?_));refine aQ G G ahM (El _ hn) (λr wc hc=>?_);obtain⟨rfl,rfl⟩:=hc;refine ah G G (iv G G (bh (v':= .bool (decide (¬Ej none ns=true))) (by simp) (az G G G (ad ?_))));refine bF G (λc1=>?_) (λc1=>?_)
  ·refine T.aP (aF G G (Rg.bg G G (aJ ?_)))
   first
   |exact eX rfl rfl rfl ⟨_,by rw[if_neg (λh=>kP hV)],λh=>absurd hV kP,S⟩
   |exact eX rfl rfl rfl ⟨_,by rw[if_neg (λh=>c1 h.2)],λ_ h=>absurd h c1,S⟩
  ·refine aR (T.aP (ab G G ?_));refine aQ G G ahN (Na hM hn hl) (λv3 w3 hc=>?_);obtain⟨uQ,s3⟩:=hc;replace hn:=hn.le s3.le;replace ht:=ht.le s3.le;replace hM:=s3.lt hM;have:=S.size;replace S:=S.ax s3;refine ab G G ?_;refine aQ G G ahO (Ri hM ht Fm) (λv4 w4 hc=>?_);obtain⟨pE,s4⟩:=hc;replace hn:=hn.le s4.le;replace ht:=ht.le s4.le;replace uQ:=uQ.le s4.le;replace hM:=s4.lt hM;have:=S.size;replace S:=S.ax s4;refine dg (places:=[(0,1),(1,1)]) Tryz.underlying310 ahK ahL rfl ⟨_,_,rfl,rfl,_,_,rfl,rfl,rfl⟩ (out:=[_,_]) ⟨0,[_],rfl,iO uQ,by simp[Value.cells],1,[_],rfl,iO pE,by simp[Value.cells],rfl⟩ ?_;refine fD (A:=RT.di) (a:=(ns,ts)) G G hM (fw uQ pE G G G G) G (λu5 w5 wL s5 _=>?_);replace hn:=hn.le s5.le;replace ht:=ht.le s5.le;replace uQ:=uQ.le s5.le;replace pE:=pE.le s5.le;replace hM:=s5.lt hM;have:=S.size;replace S:=S.ax s5;refine aF G G (Rg.bg G G (aJ ?_));exact eX rfl rfl rfl ⟨_,by rw[if_pos ⟨by omega,cr.1 c1⟩],λ_ _=>wL,S⟩
end Go.K
namespace Go.K
theorem Gz (n:Nat):IntKind.u8.wrap (n:Int)=((UInt8.ofNat n).toNat:Int):=by
 rw[IntKind.wrap_u8];simp[UInt8.toNat_ofNat]
theorem aaQ:∀m:Nat,m<256->(BitVec.ofInt 8 (m:Int)|||BitVec.ofInt 8 128).toNat=128+m%128:=by decide+kernel
theorem Rs (n:Nat):IntKind.u8.wrap ((BitVec.ofInt IntKind.u8.bits (IntKind.u8.wrap (n:Int))|||BitVec.ofInt IntKind.u8.bits 128).toNat:Int)=((UInt8.ofNat (128+n%128)).toNat:Int):=by
 have h1:IntKind.u8.wrap (n:Int)=((n%256:Nat):Int):=by rw[IntKind.wrap_u8];omega
 rw[h1];show IntKind.u8.wrap ((BitVec.ofInt 8 ((n%256:Nat):Int)|||BitVec.ofInt 8 128).toNat:Int)=_;rw[aaQ (n%256) hV,IntKind.wrap_u8,show n%256%128=n%128 from by omega];simp[UInt8.toNat_ofNat]
theorem ahQ (n:Nat):((n:Int)).fdiv (2^min (Int.toNat 7) IntKind.i64.bits)=((n/128:Nat):Int):=by
 show((n:Int)).fdiv 128=_;rw[Int.fdiv_eq_ediv_of_nonneg _ q0];rfl
theorem GA:∀m:Nat,m<256->(BitVec.ofInt 8 (m:Int)&&& ~~~ BitVec.ofInt 8 128).toNat=m%128:=by decide+kernel
theorem Em (c:UInt8):IntKind.u8.wrap ((BitVec.ofInt IntKind.u8.bits (c.toNat:Int)&&& ~~~ BitVec.ofInt IntKind.u8.bits 128).toNat:Int)=((c.toNat%128:Nat):Int):=by
 show IntKind.u8.wrap ((BitVec.ofInt 8 (c.toNat:Int)&&& ~~~ BitVec.ofInt 8 128).toNat:Int)=_;rw[GA c.toNat (by have:=c.toNat_lt;omega),IntKind.wrap_u8];omega
theorem NH (k n x:Nat) (hk:k<=8) (hn:n<128^k) (hx:x<128):
  IntKind.i64.wrap ((BitVec.ofInt IntKind.i64.bits (n:Int)|||BitVec.ofInt IntKind.i64.bits (IntKind.i64.wrap ((x:Int)*2^min (Int.toNat (7*(k:Int))) IntKind.i64.bits))).toNat:Int)=((n+x*128^k:Nat):Int):=by
 have e7:Int.toNat (7*(k:Int))=7*k:=by omega
 have e1:min (7*k) 64=7*k:=by omega
 have e2:(128:Nat)^k=2^(7*k):=by rw[Nat.pow_mul]
 have hp:2^(7*k)<=2^56:=wH q0 hV;have hb:x*2^(7*k)<=127*2^(7*k):=Nat.mul_le_mul_right _ hV;rw[e2]at hn ⊢;show IntKind.i64.wrap ((BitVec.ofInt 64 (n:Int)|||BitVec.ofInt 64 (IntKind.i64.wrap ((x:Int)*2^min (Int.toNat (7*(k:Int))) 64))).toNat:Int)=_;rw[e7,e1];have e3:((x:Int)*2^(7*k))=((x*2^(7*k):Nat):Int):=by simp
 have e5:n|||x*2^(7*k)=n+x*2^(7*k):=by
  rw[Nat.or_comm,Nat.mul_comm x,<-Nat.two_pow_add_eq_or_of_lt hn x,Nat.add_comm]
 rw[e3];generalize x*2^(7*k)=y at*
 generalize 2^(7*k)=z at*
 have e4:∀m:Nat,m<2^64->(BitVec.ofInt 64 (m:Int))=BitVec.ofNat 64 m:=λm _=>by simp
 rw[jL (y:Int) hV,e4 n hV,e4 y hV,BitVec.toNat_or,BitVec.toNat_ofNat,BitVec.toNat_ofNat,Nat.mod_eq_of_lt hV,Nat.mod_eq_of_lt hV,e5,jL _ hV]
theorem sf (x:Int): -9223372036854775808<=IntKind.i64.wrap x/\IntKind.i64.wrap x<=9223372036854775807:=by rw[IntKind.wrap_i64];omega
end Go.K

/- What the law 'MergeMerges' needs of walks and plain Lean, part 3: nothing is assumed beyond the texts that it imports. -/
import Derived.Deep.Draws
import Derived.DeepKeys4
import Derived.Ground.GgzProg
import Derived.Ground.SlgmProg
import Derived.Ground.SlsfProg
import Derived.KernelRfl
import Derived.Lib.Bytealg
import Derived.Shelf.SlGeneric
import Derived.Shelf.SlIter.Nil
import Derived.Shelf.SlIterI.Nil
import Derived.Shelf.SlSortCmp.NoneTotal
import Derived.Shelf.SortM.Plain
import Derived.Shelf.SortM.SortNone
import Derived.Sort.Grow
import Derived.Sort.KeysCollected
import Derived.Sort.Walk0
import Derived.Test.YtbobcaffmbaadaaGreatDoorProg
import Derived.Test.YtbobcaffmbaadaaGreatDoorZMergeMerges1
import Derived.Test.YtbobcaffmbaadaaGreatDoorZMergeMerges2
set_option linter.unusedVariables false
set_option linter.unusedSimpArgs false
theorem jG:type_of% @Go.K.Rg.mE:=@Go.K.Rg.mE
theorem kB:type_of% @Go.K.Rg.nh:=@Go.K.Rg.nh
theorem o8:type_of% @Go.K.Rg.invoke:=@Go.K.Rg.invoke
theorem Ak:type_of% @Go.K.Rg.oE:=@Go.K.Rg.oE
namespace Go.K
open Go.Proofs
set_option maxRecDepth 10000
theorem DD {M:aJ} {d:Dc} {v0:Value} (w0:World) (hM:Lt M w0) (hv:RT.dc.V M w0 d v0) (hl:∀f∈d.2,f.1.length<=900000/\f.2.length<=900000):
  Spec Tryz.prog 94 #[v0] w0 (λv w=>v= .int .i64 (nP d)/\Step M w0 M w aA):=by
 have ir:=hM;refine bF (args:=[_]) (fn:=Tryz.f94) Tryz.func94 G (n:=66) Tryz.ntmps94 ?_;have S:Step M w0 M w0 aA:=bz;refine T.aQ ?_;refine kB (A:=RT.dc) G G hM hv G (λu0 w1 dT s0 _=>?_);replace hM:=s0.lt hM;have:=S.size;replace S:=S.aw s0;refine Rg.bA G G (aI (T.aQ ?_));refine aD (M:=M) (A:=RT.dc) (B:=(RT.fd).sl) bg G G uU q0 (EI) G G q0 W4 (by repeat (first|exact bH _ _|refine aZ (bI W4) ?_)) (λCS nE=>?_);refine bE (M:=M) bD G G G G G W4 (by repeat (first|exact bH _ _|refine aZ (bI W4) ?_)) (λCT py=>?_);refine bK bD G py G (iX G G G (ad ?_));refine bM G (λc1=>?_) (λc1=>?_)
 ·refine T.aQ (Rg.bA G G (aT ?_));exact aX rfl rfl ⟨by rw[nP,if_pos k3],S.back⟩
 ·refine aR (T.aQ (Rg.bA G G (aI (T.aQ (Rg.bA G G (aS ?_))))));refine dg (σ:=Nat×Nat) (λq=>[(1,u0),(3,.int .i64 (q.2:Int)),(4,.int .i64 (q.1:Int))]) (λq w=>Lt M w/\Step M w0 M w aA/\dv RT.dc M w u0 d/\nP d=CR (d.2.take q.1) (d.2.drop q.1) q.2/\q.1<=d.2.length/\q.2<=900001*q.1/\d.2.length<=8) (λq=>d.2.length-q.1) (0,0) a06 ?_ ?_
  ·exact⟨hM,S,dT,by rw[nP,if_neg k3];rfl,bC _,aN _,by omega⟩
  ·rintro⟨i,n⟩ w ⟨hM,S,dT,Jw,hi,hn,hd8⟩;dsimp only at Jw hi hn ⊢;refine aI (T.aQ (ab G G ?_));refine aD (M:=M) (A:=RT.dc) (B:=(RT.fd).sl) bg G G uU q0 (EI) G G q0 W4 (by repeat (first|exact bH _ _|refine aZ (bI W4) ?_)) (λamN XC=>?_);refine bE (M:=M) bD G G G G G W4 (by repeat (first|exact bH _ _|refine aZ (bI W4) ?_)) (λamO XD=>?_);refine bK bD G XD G (ch G G G (ad ?_));refine bM G (λc5=>?_) (λc5=>?_)
   ·refine aR (aI (aS (T.aQ ?_)));refine aD (M:=M) (A:=RT.dc) (B:=(RT.fd).sl) bg G G uU q0 (EI) G G q0 W4 (by repeat (first|exact bH _ _|refine aZ (bI W4) ?_)) (λafe LO=>?_);refine bE (M:=M) bD G G G G G W4 (by repeat (first|exact bH _ _|refine aZ (bI W4) ?_)) (λamP XE=>?_);refine ab G G ?_;refine bX bD ly G G G XE bY k3 (λaff x GI auh=>?_);rw[an]at GI;refine aD (M:=M) (A:=RT.fd) (B:=RT.str) cT G G I9 q0 (Qr) G G q0 W4 (by repeat (first|exact bH _ _|refine aZ (bI W4) ?_)) (λamQ afg=>?_);refine bE aG G G G G G afg bY (λazj afh=>?_);obtain rfl:=fp afh;have mi:=LN (n:=n) GI;have qb:=hl _ (au GI);refine a8 G G E93 (Bn x.1 k3 _) (λr7 w7 hc=>?_);obtain⟨rfl,rfl⟩:=hc;refine Rg.bA rfl rfl (aI (T.aQ (ab rfl rfl (kU rfl rfl (bc (v':= .bool (decide (iC x.1=false))) (by cases iC x.1<;>rfl) (ad ?_))))));refine bM G (λc8=>?_) (λc8=>?_)
    ·refine T.aQ (Rg.bA G G (aT ?_));exact aX rfl rfl ⟨by rw[Jw,mi,if_pos W4],S.back⟩
    ·refine aR (aI (T.aQ (Rg.bA G G (aS ?_))));refine dg (σ:=Nat) (λj=>[(1,u0),(3,.int .i64 (n:Int)),(4,.int .i64 (i:Int)),(6,.int .i64 (j:Int))]) (λj w=>Lt M w/\Step M w0 M w aA/\dv RT.dc M w u0 d/\j<=i/\∀k y,k<j->d.2[k]? =some y->y.1≠x.1) (λj=>i-j) 0 Y7 ?_ ?_
     ·exact⟨hM,S,dT,bC _,λk c h=>absurd h (tc k)⟩
     ·rintro j w ⟨hM,S,dT,hj,kx⟩;refine aI (T.aQ (ab G G (ab G G (ch G G G (ad ?_)))));refine bM G (λGt=>?_) (λGt=>?_)
      ·refine aR (aI (aS (aI ?_)));apply jU mixed rfl rfl;intro Qz Z7;have l1:=Z7 M;replace dT:=dT.le q0 l1.le;replace hM:=l1.lt hM;have:=S.size;replace S:=S.aw l1;refine aD (M:=M) (A:=RT.dc) (B:=(RT.fd).sl) bg G G uU q0 (EI) G G q0 W4 (by repeat (first|exact bH _ _|refine aZ (bI W4) ?_)) (λaui amR=>?_);refine Rg.bL ?_;refine bE (M:=M) bD G G G G G W4 (by repeat (first|exact bH _ _|refine aZ (bI W4) ?_)) (λauj Z8=>?_);refine Rg.bL (ab G G (Rg.bL ?_));refine bX bD ly G G G Z8 bY k3 (λXF y Jy ix=>?_);rw[an]at Jy;refine Rg.bL ?_;refine aD (M:=M) (A:=RT.fd) (B:=RT.str) cT G G I9 q0 (Qr) G G q0 W4 (by repeat (first|exact bH _ _|refine aZ (bI W4) ?_)) (λiv Bo=>?_);refine Rg.bL ?_;refine bE aG G G G G G Bo bY (λXG EJ=>?_);obtain rfl:=fp EJ;refine Rg.bL ?_;refine aD (M:=M) (A:=RT.dc) (B:=(RT.fd).sl) bg G G uU q0 (EI) G G q0 W4 (by repeat (first|exact bH _ _|refine aZ (bI W4) ?_)) (λauk amS=>?_);refine Rg.bL ?_;refine bE (M:=M) bD G G G G G W4 (by repeat (first|exact bH _ _|refine aZ (bI W4) ?_)) (λaul Z9=>?_);refine Rg.bL (ab G G (Rg.bL ?_));refine bX bD ly G G G Z9 bY k3 (λaum z QA amT=>?_);rw[an]at QA;refine Rg.bL ?_;refine aD (M:=M) (A:=RT.fd) (B:=RT.str) cT G G I9 q0 (Qr) G G q0 W4 (by repeat (first|exact bH _ _|refine aZ (bI W4) ?_)) (λamU Vi=>?_)
       refine Rg.bL ?_;refine bE aG G G G G G Vi bY (λamV Vj=>?_);obtain rfl:=fp Vj;refine Rg.bL (Rg.xa (p:=y.1) (q:=z.1) G G G ?_);obtain rfl:x=z:=ar (GI.symm.trans QA);refine Rg.bL (dD ?_);refine bM G (λJz=>?_) (λJz=>?_)
       ·refine T.aQ (Rg.bA G G (aT ?_));have QB:((d.2.take i).any λg=>decide (g.1=x.1))=true:=yf.2 ⟨y,au (i:=j) (by rw[cY,if_pos k3];exact Jy),by simpa using W4⟩;exact aX rfl rfl ⟨by rw[Jw,mi,if_neg W4,if_pos QB],S.back⟩
       ·refine aR (aH (ab G G (bG G G G k3 (Rg.bA G G ?_))));refine⟨G,j+1,Y7,?_,?_⟩
        ·exact⟨hM,S,dT,by omega,λk y' h hc=>by
          rcases cQ k j with h2|h2
          ·exact kx k y' h2 hc
          ·obtain rfl:k=j:=by omega
           rw[Jy]at hc;cases hc;assumption⟩
        ·omega
      ·refine cO (T.aQ ?_);refine aD (M:=M) (A:=RT.dc) (B:=(RT.fd).sl) bg G G uU q0 (EI) G G q0 W4 (by repeat (first|exact bH _ _|refine aZ (bI W4) ?_)) (λaun amW=>?_);refine bE (M:=M) bD G G G G G W4 (by repeat (first|exact bH _ _|refine aZ (bI W4) ?_)) (λauo aaa=>?_);refine ab G G ?_;refine bX bD ly G G G aaa bY k3 (λXH z QC amX=>?_);rw[an]at QC;refine aD (M:=M) (A:=RT.fd) (B:=RT.str) cT G G I9 q0 (fd1) G G q0 W4 (by repeat (first|exact bH _ _|refine aZ (bI W4) ?_)) (λaup aab=>?_);refine bE aG G G G G G aab bY (λauq aac=>?_);obtain rfl:=fp aac;obtain rfl:x=z:=ar (GI.symm.trans QC);refine a8 G G alO (Jt _ hM qb.2) (λr15 w15 hc=>?_);obtain⟨⟨u15,rfl,amY⟩,Aa⟩:=hc;replace dT:=dT.le q0 Aa.le;replace hM:=Aa.lt hM;have:=S.size;replace S:=S.aw Aa;refine ab G G (cq G G G (cq G G G (aB G G (Rg.bA G G (aI (T.aQ (ab G G (fH G G G (ad ?_)))))))));refine bM G (λXB=>?_) (λXB=>?_)
       ·refine T.aQ (ab G G (Rg.bA G G (aT ?_)))
        have QB:((d.2.take i).any λg=>decide (g.1=x.1))=false:=dO.2 λh=>by
         obtain⟨y,hy,he⟩:=yf.1 h;obtain⟨k,hk⟩:=bQ.1 hy;rw[cY]at hk
         split at hk
         ·exact kx k y k3 hk (by simpa using he)
         ·cases hk
        exact aX rfl rfl ⟨by rw[Jw,mi,if_neg W4,if_neg (by rw[QB];simp),if_pos XB];rfl,S.back⟩
       ·refine aR (aH (ab G G ?_));have NM:oL 0 (words x.2)=0:=Classical.not_not.1 XB;obtain⟨a,cap,rfl⟩:=amY NM;have hwl:=n0 x.2;refine ab G G (Rg.rq Tryz.underlying212 G G (bG G G G k3 (Rg.bA G G (aH (ab G G (bG G G G k3 (Rg.bA G G ?_)))))))
        have QB:((d.2.take i).any λg=>decide (g.1=x.1))=false:=dO.2 λh=>by
         obtain⟨y,hy,he⟩:=yf.1 h;obtain⟨k,hk⟩:=bQ.1 hy;rw[cY]at hk
         split at hk
         ·exact kx k y k3 hk (by simpa using he)
         ·cases hk
        refine⟨G,(i+1,n+(words x.2).length),a06,?_,?_⟩
        ·exact⟨hM,S,dT,by rw[Jw,mi,if_neg W4,if_neg (by rw[QB];simp),if_neg XB],by dsimp only;omega,by dsimp only;omega,hd8⟩
        ·dsimp only;omega
   ·refine cO (aI (T.aQ (ab G G (iX G G G (ad ?_)))));refine bM G (λXs=>?_) (λXs=>?_)
    ·refine T.aQ (Rg.bA G G (aT ?_));exact aX rfl rfl ⟨by rw[Jw,xu k3,if_pos k3],S.back⟩
    ·refine aR (T.aQ (Rg.bA G G (aT ?_)));exact aX rfl rfl ⟨by rw[Jw,xu k3,if_neg k3],S.back⟩
def GK:List (List UInt8):=[[116],[117],[118],[119]]
def fixF (i:Nat) (x:Fd):Fd:=(if iC x.1=true then x.1 else GK.getD i [],x.2.take 40)
def qn (id:Int):Nat->List Fd->List Fd->List Fd
 |_,out,[]=>out
 |i,out,x::fs=>if i<4 then(if nP (id,out++[fixF i x])=0 then qn id (i+1) (out++[fixF i x]) fs else qn id (i+1) out fs)else out
def rZ (d:Dc):Dc:=(d.1,qn d.1 0 [] d.2)
def wC (l:List Fd):Prop:=∀x∈l,x.1.length<=12/\x.2.length<=40
theorem GL {s:List UInt8} (h:iC s=true):s.length<=12:=by
 simp only[iC,cv,decide_eq_true_eq]at h;omega
theorem Bp {i:Nat} (x:Fd) (hi:i<4):(fixF i x).1.length<=12/\(fixF i x).2.length<=40:=by
 refine⟨?_,by simp only[fixF,aU];omega⟩;unfold fixF;dsimp only
 split
 ·exact GL W4
 ·have h:i=0\/i=1\/i=2\/i=3:=by omega
  rcases h with rfl|rfl|rfl|rfl<;>decide
theorem wC.snoc {l:List Fd} {x:Fd} (h:wC l) (hx:x.1.length<=12/\x.2.length<=40):wC (l++[x]):=λy hy=>by
 rcases cP.1 hy with hy|hy
 ·exact h y hy
 ·rw[b9.1 hy];exact hx
theorem QD {id:Int} {fs:List Fd} {i:Nat} {out:List Fd} {x:Fd} (h:fs[i]? =some x) (hi:i<4):qn id i out (fs.drop i)=if nP (id,out++[fixF i x])=0 then qn id (i+1) (out++[fixF i x]) (fs.drop (i+1))else qn id (i+1) out (fs.drop (i+1)):=by
 have eK:=(aj.1 h).1;rw[dV eK,(aj.1 h).2];show(if i<4 then _ else _)=_;rw[if_pos hi]
theorem DE {id:Int} {fs:List Fd} {i:Nat} {out:List Fd} (h:fs.length<=i\/4<=i):qn id i out (fs.drop i)=out:=by
 cases hd:fs.drop i with
 |nil=>rfl
 |cons x r=>
  show(if i<4 then _ else _)=_;rw[if_neg];rcases h with h|h
  ·rw[gL h]at hd;cases hd
  ·omega
theorem GM (l:List UInt8):l.take (min (l.length:Int) 40).toNat=l.take 40:=by
 by_cases h:l.length<=40
 ·rw[aL k3,aL h]
 ·congr 1;omega
theorem NN {M:aJ} {d:Dc} {v0:Value} (w0:World) (hM:Lt M w0) (hv:RT.dc.V M w0 d v0):
  Spec Tryz.prog 44 #[v0] w0 (λv w=>RT.dc.V M w (rZ d) v/\Step M w0 M w aA):=by
 have ir:=hM
 have hdi: -9223372036854775808<=d.1/\d.1<=9223372036854775807:=by
  obtain⟨vs,⟨va,vb,_,⟨_,h1,h2⟩,_⟩,_⟩:=hv;exact⟨h1,h2⟩
 refine bF (args:=[_]) (fn:=Tryz.f44) Tryz.func44 G (n:=67) Tryz.ntmps44 ?_;have S:Step M w0 M w0 aA:=bz;refine T.aQ ?_;refine kB (A:=RT.dc) G G hM hv G (λu0 w1 dT s0 _=>?_);replace hM:=s0.lt hM;have:=S.size;replace S:=S.aw s0;refine eA M nY G (λrA JA aad aae iy pL=>?_);obtain⟨jO,oN⟩:∃M',M'=ins M rA:=⟨_,rfl⟩;rw[<-oN]at pL;have gu:jO rA:=by rw[oN];exact .inl G
 change JA.heap[rA]? =some (.cells #[.int .i64 0,.slice none 0 0] _ _)at iy;replace dT:=dT.le q0 pL.le;replace hM:=pL.lt hM;have:=S.size;replace S:=S.aw pL;refine ad (T.aQ ?_);refine aD (M:=jO) (A:=RT.dc) (B:=RT.int .i64) bg G G I3 q0 (dc0) G G q0 W4 (by repeat (first|exact bH _ _|refine aZ (bI W4) ?_)) (λCS nE=>?_);refine bV (M:=jO) aq G G W4 (by repeat (first|exact bH _ _|refine aZ (bI W4) ?_)) (λXI=>?_);refine ie (places:=[(0,1),(1,1)]) bg nY B69 rfl ⟨_,_,rfl,rfl,rfl⟩ (out:=[_,.slice none 0 0]) ⟨0,[_],rfl,rfl,by simp[Value.cells],rfl⟩ ?_;refine eA jO nY G (λAb NH amZ am0 lA s1_3=>?_);obtain⟨pz,Bq⟩:∃M',M'=ins jO Ab:=⟨_,rfl⟩;rw[<-Bq]at s1_3;have lH:pz Ab:=by rw[Bq];exact .inl G
 change NH.heap[Ab]? =some (.cells #[.int .i64 0,.slice none 0 0] _ _)at lA;have:=ae iy;replace gu:=(s1_3.mem _ this).2 gu;replace iy:=s1_3.aP iy;replace dT:=dT.le q0 s1_3.le;replace hM:=s1_3.lt hM;have:=S.size;replace S:=S.aw s1_3;refine ej (M:=pz) (vs:=[.int .i64 d.1,.slice none 0 0]) nY G G a11 rfl rfl lA lH (λw1b am1 s1b=>?_);have:=ae iy;replace gu:=(s1b.mem _ this).2 gu;replace iy:=s1b.keep iy a05;have:=ae lA;replace lH:=(s1b.mem _ this).2 lH;replace dT:=dT.le q0 s1b.le;replace hM:=s1b.lt hM;have:=S.size;replace S:=S.trans s1b (λk hk h=>by have h:_=_:=h;subst h;first|(exfalso;omega)|(show _<=_;omega)|exact⟨by first|omega|assumption,(S.mem _ hk).1 ((s1b.mem _ (ae lA)).1 lH)⟩|exact .inl rfl|exact .inr rfl|exact .inr (.inl rfl)|exact .inr (.inr rfl)|exact .inr (.inr (.inl rfl))|exact rfl);have GN:=am1;clear lA;have lA:=GN;clear GN;refine ad (T.aQ ?_);refine Rg.sln (A:=RT.str) (hn:=by decide) (M:=pz) (xs:=GK) az I9 G q0 rfl ⟨_,_,_,rfl,rfl,rfl,j8.2 ⟨rfl,by decide⟩,_,_,_,rfl,rfl,rfl,j8.2 ⟨rfl,by decide⟩,_,_,_,rfl,rfl,rfl,j8.2 ⟨rfl,by decide⟩,_,_,_,rfl,rfl,rfl,j8.2 ⟨rfl,by decide⟩,rfl⟩ rfl hM (.inr ⟨rfl,rfl⟩) q0 (λu2 w2 eD s2=>?_);have:=ae iy;replace gu:=(s2.mem _ this).2 gu;replace iy:=s2.aP iy;have:=ae lA;replace lH:=(s2.mem _ this).2 lH;replace lA:=s2.aP lA;replace dT:=dT.le q0 s2.le;replace hM:=s2.lt hM;have:=S.size;replace S:=S.aw s2;refine Rg.bA G G (aI (T.aQ (Rg.bA G G (aS ?_))));refine dg (σ:=Nat×List Fd) (λq=>[(1,u0),(2,.pointer (some ⟨rA,0,none⟩)),(3,.pointer (some ⟨Ab,0,none⟩)),(4,u2),(5,.int .i64 (q.1:Int))]) (λq w=>∃M' uo,Lt M' w/\Step M w0 M' w aA/\dv RT.dc M' w u0 d/\(RT.str.sl).V M' w GK u2/\w.heap[rA]? =some (.cells #[.int .i64 0,.slice none 0 0] 69 (0,0))/\M' rA/\w.heap[Ab]? =some (.cells #[.int .i64 d.1,uo] 69 (0,0))/\M' Ab/\(RT.fd.sl).V M' w q.2 uo/\qn d.1 0 [] d.2=qn d.1 q.1 q.2 (d.2.drop q.1)/\q.1<=d.2.length/\q.1<=4/\wC q.2/\q.2.length<=q.1) (λq=>d.2.length-q.1) (0,[]) a19 ?_ ?_
 ·exact⟨_,.slice none 0 0,hM,S,dT,eD,iy,gu,lA,lH,mX,G,bC _,bC _,(λx hx=>by cases hx),aN _⟩
 ·rintro⟨i,out⟩ w ⟨M1,uo,hM,S,dT,eD,g2,dx,g3,gm,gz,px,hi,am2,CI,dR⟩;dsimp only at g3 gz px hi am2 CI dR ⊢;refine aI (T.aQ (ab G G ?_));refine aD (M:=M1) (A:=RT.dc) (B:=(RT.fd).sl) bg G G uU q0 (EI) G G q0 W4 (by repeat (first|exact bH _ _|refine aZ (bI W4) ?_)) (λae5 afi=>?_);refine bE (M:=M1) bD G G G G G W4 (by repeat (first|exact bH _ _|refine aZ (bI W4) ?_)) (λaag LP=>?_);refine bK bD G LP G (ch G G G (ab G G ?_));refine aW (g:=18) G (λJB=>?_) (λJB=>?_)
  ·refine ak G G (ab G G (ak G G (ch G G G (bm G G G (ad ?_)))));refine bM G (λc4=>?_) (λc4=>?_)
   ·refine aR (aI (aS (T.aQ ?_)));refine aD (M:=M1) (A:=RT.dc) (B:=(RT.fd).sl) bg G G uU q0 (EI) G G q0 W4 (by repeat (first|exact bH _ _|refine aZ (bI W4) ?_)) (λafj QE=>?_);refine bE (M:=M1) bD G G G G G W4 (by repeat (first|exact bH _ _|refine aZ (bI W4) ?_)) (λaah Br=>?_);refine ab G G ?_;refine bX bD ly G G G Br bY k3 (λu6 x OT GA=>?_);rw[an]at OT;have hi4:i<4:=by omega
    have hga:=QD (id:=d.1) (out:=out) OT hi4;have XJ:=Bp x hi4;refine cW (A:=RT.fd) cT G ly q0 G G G GA bY (λv6 wz=>?_);obtain rfl:=mF wz;have hxb:=Qu wz;refine eA M1 ly G (λaai am3 azl azm eH CV=>?_);obtain⟨qo,QF⟩:∃M',M'=ins M1 aai:=⟨_,rfl⟩;rw[<-QF]at CV;have dU:qo aai:=by rw[QF];exact .inl G
    change am3.heap[aai]? =some (.cells #[.string ⟨#[]⟩,.string ⟨#[]⟩] _ _)at eH;have:=ae g2;replace dx:=(CV.mem _ this).2 dx;replace g2:=CV.aP g2;have:=ae g3;replace gm:=(CV.mem _ this).2 gm;replace g3:=CV.aP g3;replace dT:=dT.le q0 CV.le;replace eD:=eD.le CV.le;replace gz:=gz.le CV.le;replace hM:=CV.lt hM;have:=S.size;replace S:=S.aw CV;refine ej (M:=qo) (vs:=[.string ⟨x.1.toArray⟩,.string ⟨x.2.toArray⟩]) ly G G a11 rfl rfl eH dU (λw6b am4 QG=>?_);have:=ae g2;replace dx:=(QG.mem _ this).2 dx;replace g2:=QG.keep g2 a05;have:=ae g3;replace gm:=(QG.mem _ this).2 gm;replace g3:=QG.keep g3 a05;have:=ae eH;replace dU:=(QG.mem _ this).2 dU;replace dT:=dT.le q0 QG.le;replace eD:=eD.le QG.le;replace gz:=gz.le QG.le;replace hM:=QG.lt hM;have:=S.size;replace S:=S.trans QG (λk hk h=>by have h:_=_:=h;subst h;first|(exfalso;omega)|(show _<=_;omega)|exact⟨by first|omega|assumption,(S.mem _ hk).1 ((QG.mem _ (ae eH)).1 dU)⟩|exact .inl rfl|exact .inr rfl|exact .inr (.inl rfl)|exact .inr (.inr rfl)|exact .inr (.inr (.inl rfl))|exact rfl);have tM:=am4;clear eH;have eH:=tM;clear tM;refine ad (T.aQ (bR (o':=0) cT G G I9 q0 G G (aV aG G G G W4 G ?_)));refine a8 G G E93 (Bn x.1 hxb.1 _) (λr7 w7 hc=>?_);obtain⟨rfl,rfl⟩:=hc;refine Rg.bA rfl rfl (aI (T.aQ (ab rfl rfl (kU rfl rfl (bc (v':= .bool (decide (iC x.1=false))) (by cases iC x.1<;>rfl) (ad ?_))))));refine bM G (λc8=>?_) (λc8=>?_)
    ·refine aH (ab G G (ab G G ?_));refine bX az I9 rfl rfl rfl eD bY (by have:GK.length=4:=rfl;omega) (λu9 y XK hu9=>?_);rw[an]at XK;refine bE aG G G G G G hu9 bY (λv9 Au=>?_);obtain rfl:=fp Au
     obtain rfl:y=(fixF i x).1:=by
      show y=if iC x.1=true then x.1 else GK.getD i []
      rw[if_neg (by rw[c8];simp),ax,XK];rfl
     refine bR (o':=0) cT G G I9 q0 G G ?_;refine cF (M:=qo) I9 G G eH G (G) dU (λae6 afm tL=>?_);change ae6.heap[_]? =some (Obj.cells #[.string ⟨((fixF i x).1).toArray⟩,.string ⟨x.2.toArray⟩] _ _)at afm;have:=ae g2;replace dx:=(tL.mem _ this).2 dx;replace g2:=tL.keep g2 a05;have:=ae g3;replace gm:=(tL.mem _ this).2 gm;replace g3:=tL.keep g3 a05;have:=ae eH;replace dU:=(tL.mem _ this).2 dU;replace dT:=dT.le q0 tL.le;replace eD:=eD.le tL.le;replace gz:=gz.le tL.le;replace hM:=tL.lt hM;have:=S.size;replace S:=S.trans tL (λk hk h=>by have h:_=_:=h;subst h;first|(exfalso;omega)|(show _<=_;omega)|exact⟨by first|omega|assumption,(S.mem _ hk).1 ((tL.mem _ (ae eH)).1 dU)⟩|exact .inl rfl|exact .inr rfl|exact .inr (.inl rfl)|exact .inr (.inr rfl)|exact .inr (.inr (.inl rfl))|exact rfl);have tM:=afm;clear eH;have eH:=tM;clear tM;refine ad (T.aQ (bR (o':=1) cT G G I9 q0 G G (aV aG G G G W4 G (bR (o':=1) cT G G I9 q0 G G (aV aG G G G W4 G (Rg.pF aG G G (bc (v':= .int .i64 (x.2.length:Int)) a84 (Rg.min2 G G G (Rg.Xq aG G G G k3 (bc (v':= .string ⟨((fixF i x).2).toArray⟩) (by rw[GM];rfl) ?_))))))))));refine bR (o':=1) cT G G I9 q0 G G ?_;refine cF (M:=qo) I9 G G eH G (G) dU (λLM GO ja=>?_);change LM.heap[_]? =some (Obj.cells #[.string ⟨((fixF i x).1).toArray⟩,.string ⟨((fixF i x).2).toArray⟩] _ _)at GO;have:=ae g2;replace dx:=(ja.mem _ this).2 dx;replace g2:=ja.keep g2 a05
     have:=ae g3;replace gm:=(ja.mem _ this).2 gm;replace g3:=ja.keep g3 a05;have:=ae eH;replace dU:=(ja.mem _ this).2 dU;replace dT:=dT.le q0 ja.le;replace eD:=eD.le ja.le;replace gz:=gz.le ja.le;replace hM:=ja.lt hM;have:=S.size;replace S:=S.trans ja (λk hk h=>by have h:_=_:=h;subst h;first|(exfalso;omega)|(show _<=_;omega)|exact⟨by first|omega|assumption,(S.mem _ hk).1 ((ja.mem _ (ae eH)).1 dU)⟩|exact .inl rfl|exact .inr rfl|exact .inr (.inl rfl)|exact .inr (.inr rfl)|exact .inr (.inr (.inl rfl))|exact rfl);have tM:=GO;clear eH;have eH:=tM;clear tM;refine ad (T.aQ ?_);refine aD (M:=qo) (A:=RT.dc) (B:=RT.int .i64) bg G G I3 q0 (dc0) G G q0 W4 (by repeat (first|exact bH _ _|refine aZ (bI W4) ?_)) (λXL QH=>?_);refine bV (M:=qo) aq G G W4 (by repeat (first|exact bH _ _|refine aZ (bI W4) ?_)) (λaaj=>?_);refine ie (places:=[(0,1),(1,1)]) bg nY B69 rfl ⟨_,_,rfl,rfl,rfl⟩ (out:=[_,.slice none 0 0]) ⟨0,[_],rfl,rfl,by simp[Value.cells],rfl⟩ ?_;refine eA qo nY G (λBs GP afn afo dM gZ=>?_);obtain⟨wG,xv⟩:∃M',M'=ins qo Bs:=⟨_,rfl⟩;rw[<-xv]at gZ;have dJ:wG Bs:=by rw[xv];exact .inl G
     change GP.heap[Bs]? =some (.cells #[.int .i64 0,.slice none 0 0] _ _)at dM;have:=ae g2;replace dx:=(gZ.mem _ this).2 dx;replace g2:=gZ.aP g2;have:=ae g3;replace gm:=(gZ.mem _ this).2 gm;replace g3:=gZ.aP g3;have:=ae eH;replace dU:=(gZ.mem _ this).2 dU;replace eH:=gZ.aP eH;replace dT:=dT.le q0 gZ.le;replace eD:=eD.le gZ.le;replace gz:=gz.le gZ.le;replace hM:=gZ.lt hM;have:=S.size;replace S:=S.aw gZ;refine ej (M:=wG) (vs:=[.int .i64 d.1,.slice none 0 0]) nY G G a11 rfl rfl dM dJ (λEK QI mG=>?_);have:=ae g2;replace dx:=(mG.mem _ this).2 dx;replace g2:=mG.keep g2 a05;have:=ae g3;replace gm:=(mG.mem _ this).2 gm;replace g3:=mG.keep g3 a05;have:=ae eH;replace dU:=(mG.mem _ this).2 dU;replace eH:=mG.keep eH a05;have:=ae dM;replace dJ:=(mG.mem _ this).2 dJ;replace dT:=dT.le q0 mG.le;replace eD:=eD.le mG.le;replace gz:=gz.le mG.le;replace hM:=mG.lt hM;have:=S.size;replace S:=S.trans mG (λk hk h=>by have h:_=_:=h;subst h;first|(exfalso;omega)|(show _<=_;omega)|exact⟨by first|omega|assumption,(S.mem _ hk).1 ((mG.mem _ (ae dM)).1 dJ)⟩|exact .inl rfl|exact .inr rfl|exact .inr (.inl rfl)|exact .inr (.inr rfl)|exact .inr (.inr (.inl rfl))|exact rfl);have kK:=QI;clear dM;have dM:=kK;clear kK;refine ad (T.aQ (bR (o':=1) bg G G uU q0 G G (aV bD G G G W4 G (bR (o':=1) bg G G uU q0 G G (aV bD G G G W4 G ?_)))));have eh:=Own.Xz RT.fd 166 EK.heap.size hM
     have am5:=ae eH;have QK:w0.heap.size<=EK.heap.size:=S.size;refine cN (M:=wG) (base:=EK.heap.size) bD ly rfl rfl rfl rfl eh gz bY a03 a03 (aN _) (λBk tK Qp wy gj=>?_);have:=ae g2;replace dx:=(gj.mem _ this).2 dx;replace g2:=gj.keep g2 (λh=>by first|exact eh.eU g2 h|exact eh.eu g2 q0 h|(have:=(eh.base _ h).1;omega));have:=ae g3;replace gm:=(gj.mem _ this).2 gm;replace g3:=gj.keep g3 (λh=>by first|exact eh.eU g3 h|exact eh.eu g3 q0 h|(have:=(eh.base _ h).1;omega));have:=ae eH;replace dU:=(gj.mem _ this).2 dU;replace eH:=gj.keep eH (λh=>by first|exact eh.eU eH h|exact eh.eu eH q0 h|(have:=(eh.base _ h).1;omega));have:=ae dM;replace dJ:=(gj.mem _ this).2 dJ;replace dM:=gj.keep dM (λh=>by first|exact eh.eU dM h|exact eh.eu dM q0 h|(have:=(eh.base _ h).1;omega));replace dT:=dT.le q0 gj.le;replace eD:=eD.le gj.le;replace gz:=gz.le gj.le;replace hM:=gj.lt hM;have:=S.size;replace S:=S.cC gj eh QK;replace eh:=wy;refine bR (o':=1) bg G G uU q0 G G ?_;refine cF (M:=tK) uU rfl rfl dM rfl (ad4) dJ (λQL GQ iQ=>?_);change QL.heap[_]? =some (Obj.cells #[.int .i64 d.1,Bk] _ _)at GQ;have:=ae g2;replace dx:=(iQ.mem _ this).2 dx;replace g2:=iQ.keep g2 a05;have:=ae g3;replace gm:=(iQ.mem _ this).2 gm;replace g3:=iQ.keep g3 a05;have:=ae eH;replace dU:=(iQ.mem _ this).2 dU;replace eH:=iQ.keep eH a05;have:=ae dM;replace dJ:=(iQ.mem _ this).2 dJ;replace dT:=dT.le q0 iQ.le
     replace eD:=eD.le iQ.le;replace gz:=gz.le iQ.le;replace eh:=eh.step iQ (λb hb hk=>by have hk:_=_:=hk;have:=(eh.base b hb);omega);replace hM:=iQ.lt hM;have:=S.size;replace S:=S.trans iQ (λk hk h=>by have h:_=_:=h;subst h;first|(exfalso;omega)|(show _<=_;omega)|exact⟨by first|omega|assumption,(S.mem _ hk).1 ((iQ.mem _ (ae dM)).1 dJ)⟩|exact .inl rfl|exact .inr rfl|exact .inr (.inl rfl)|exact .inr (.inr rfl)|exact .inr (.inr (.inl rfl))|exact rfl);have kK:=GQ;clear dM;have dM:=kK;clear kK;refine ad (T.aQ (bR (o':=1) bg G G uU q0 G G (aV bD G G G W4 G (gJ (vs:=[.string ⟨((fixF i x).1).toArray⟩,.string ⟨((fixF i x).2).toArray⟩]) cT G ly G G G eH ?_))));refine dP (A:=RT.fd) (hn:=by decide) (M:=tK) bD ly q0 G G hM (show RT.fd.V _ _ (fixF i x) _ from fE (j8.2 ⟨G,eG XJ.1 q0⟩) (j8.2 ⟨G,eG XJ.2 q0⟩) G G G G) (.inl G) (λXF afp ix iR=>?_);have:=ae g2;replace dx:=(iR.mem _ this).2 dx;replace g2:=iR.aP g2;have:=ae g3;replace gm:=(iR.mem _ this).2 gm;replace g3:=iR.aP g3;have:=ae eH;replace dU:=(iR.mem _ this).2 dU;replace eH:=iR.aP eH;have:=ae dM;replace dJ:=(iR.mem _ this).2 dJ;replace dM:=iR.aP dM;replace dT:=dT.le q0 iR.le;replace eD:=eD.le iR.le;replace gz:=gz.le iR.le;replace eh:=eh.aE iR;replace hM:=iR.lt hM;have:=S.size;replace S:=S.aw iR;refine cN (M:=tK) (base:=EK.heap.size) bD ly rfl rfl rfl rfl eh ix bY a03 a03 (by have:=gj.size;have:=iQ.size;have:=iR.size;omega) (λiv oO XM JC gr=>?_);have:=ae g2;replace dx:=(gr.mem _ this).2 dx
     replace g2:=gr.keep g2 (λh=>by first|exact eh.eU g2 h|exact eh.eu g2 q0 h|(have:=(eh.base _ h).1;omega));have:=ae g3;replace gm:=(gr.mem _ this).2 gm;replace g3:=gr.keep g3 (λh=>by first|exact eh.eU g3 h|exact eh.eu g3 q0 h|(have:=(eh.base _ h).1;omega));have:=ae eH;replace dU:=(gr.mem _ this).2 dU;replace eH:=gr.keep eH (λh=>by first|exact eh.eU eH h|exact eh.eu eH q0 h|(have:=(eh.base _ h).1;omega));have:=ae dM;replace dJ:=(gr.mem _ this).2 dJ;replace dM:=gr.keep dM (λh=>by first|exact eh.eU dM h|exact eh.eu dM q0 h|(have:=(eh.base _ h).1;omega));replace dT:=dT.le q0 gr.le;replace eD:=eD.le gr.le;replace gz:=gz.le gr.le;replace ix:=ix.le gr.le;replace hM:=gr.lt hM;have:=S.size;replace S:=S.cC gr eh QK;replace eh:=JC;refine bR (o':=1) bg G G uU q0 G G ?_;refine cF (M:=oO) uU rfl rfl dM rfl (ad4) dJ (λQM GR iS=>?_);change QM.heap[_]? =some (Obj.cells #[.int .i64 d.1,iv] _ _)at GR;have:=ae g2;replace dx:=(iS.mem _ this).2 dx;replace g2:=iS.keep g2 a05;have:=ae g3;replace gm:=(iS.mem _ this).2 gm;replace g3:=iS.keep g3 a05;have:=ae eH;replace dU:=(iS.mem _ this).2 dU;replace eH:=iS.keep eH a05;have:=ae dM;replace dJ:=(iS.mem _ this).2 dJ;replace dT:=dT.le q0 iS.le;replace eD:=eD.le iS.le;replace gz:=gz.le iS.le;replace ix:=ix.le iS.le;replace eh:=eh.step iS (λb hb hk=>by have hk:_=_:=hk;have:=(eh.base b hb);omega);replace hM:=iS.lt hM;have:=S.size;replace S:=S.trans iS (λk hk h=>by have h:_=_:=h;subst h;first|(exfalso;omega)|(show _<=_;omega)|exact⟨by first|omega|assumption,(S.mem _ hk).1 ((iS.mem _ (ae dM)).1 dJ)⟩|exact .inl rfl|exact .inr rfl|exact .inr (.inl rfl)|exact .inr (.inr rfl)|exact .inr (.inr (.inl rfl))|exact rfl)
     have kK:=GR;clear dM;have dM:=kK;clear kK;refine ad (T.aQ (gJ (vs:=[.int .i64 d.1,iv]) bg G nY G G G dM ?_));have qN:=eh.view (hn:=by decide) a03;replace dx:rm oO iv _:=⟨dx,by first|exact eh.eu g2 q0|(intro h;have:=(eh.base _ h).1;omega)⟩;replace gm:rm oO iv _:=⟨gm,by first|exact eh.eu g3 q0|(intro h;have:=(eh.base _ h).1;omega)⟩;replace dU:rm oO iv _:=⟨dU,by first|exact eh.eu eH q0|(intro h;have:=(eh.base _ h).1;omega)⟩;replace dJ:rm oO iv _:=⟨dJ,by first|exact eh.eu dM q0|(intro h;have:=(eh.base _ h).1;omega)⟩;replace dT:=dT.le q0 (ed _ iv _);replace eD:=eD.le (ed _ iv _);replace gz:=gz.le (ed _ iv _);replace ix:=ix.le (ed _ iv _);replace hM:Lt (rm oO iv) _:=λb hb=>hM b hb.1
     replace S:=S.freeze (v:=iv) (λb hb=>by have:=(eh.base b hb).1;omega);clear eh;refine a8 G G E94 (DD (d:=(d.1,[]++out++[fixF i x])) _ hM (fE (gw hdi) qN G G G G) (λy hy=>by have:=(CI.snoc XJ) y af4;omega)) (λr14 w14 hc=>?_);obtain⟨rfl,lI⟩:=hc;rw[ew]at qN;have:=ae g2;replace dx:=(lI.mem _ this).2 dx;replace g2:=lI.aP g2;have:=ae g3;replace gm:=(lI.mem _ this).2 gm;replace g3:=lI.aP g3;have:=ae eH;replace dU:=(lI.mem _ this).2 dU;replace eH:=lI.aP eH;have:=ae dM;replace dJ:=(lI.mem _ this).2 dJ;replace dM:=lI.aP dM;replace dT:=dT.le q0 lI.le;replace eD:=eD.le lI.le;replace gz:=gz.le lI.le;replace ix:=ix.le lI.le;replace qN:=qN.le lI.le;replace hM:=lI.lt hM;have:=S.size;replace S:=S.aw lI;refine sJ G G G (bc (v':= .bool (decide (nP (d.1,out++[fixF i x])=0))) (by rw[ew]) (ad ?_));refine bM G (λJD=>?_) (λJD=>?_)
     ·refine aH (gJ (vs:=[.int .i64 d.1,iv]) bg G nY G G G dM ?_);refine ej (M:=rm oO iv) (vs:=[.int .i64 d.1,iv]) nY G G a11 rfl rfl g3 gm (λam6 QN lJ=>?_);have:=ae g2;replace dx:=(lJ.mem _ this).2 dx;replace g2:=lJ.keep g2 a05;have:=ae g3;replace gm:=(lJ.mem _ this).2 gm;have:=ae eH;replace dU:=(lJ.mem _ this).2 dU;replace eH:=lJ.keep eH a05;have:=ae dM;replace dJ:=(lJ.mem _ this).2 dJ;replace dM:=lJ.keep dM a05;replace dT:=dT.le q0 lJ.le;replace eD:=eD.le lJ.le;replace gz:=gz.le lJ.le;replace ix:=ix.le lJ.le;replace qN:=qN.le lJ.le;replace hM:=lJ.lt hM;have:=S.size;replace S:=S.trans lJ (λk hk h=>by have h:_=_:=h;subst h;first|(exfalso;omega)|(show _<=_;omega)|exact⟨by first|omega|assumption,(S.mem _ hk).1 ((lJ.mem _ (ae g3)).1 gm)⟩|exact .inl rfl|exact .inr rfl|exact .inr (.inl rfl)|exact .inr (.inr rfl)|exact .inr (.inr (.inl rfl))|exact rfl);have g3_:=QN;clear g3;have g3:=g3_;clear g3_;refine ad (aH (ab G G (bG G G G k3 (Rg.bA G G ?_))));refine⟨G,(i+1,out++[fixF i x]),a19,?_,?_⟩
      ·exact⟨_,_,hM,S,dT,eD,g2,dx,g3,gm,qN,by rw[px,hga,if_pos JD],by dsimp only;omega,by dsimp only;omega,CI.snoc XJ,by simp;omega⟩
      ·dsimp only;omega
     ·refine aR (aH (ab G G (bG G G G k3 (Rg.bA G G ?_))));refine⟨G,(i+1,out),a19,?_,?_⟩
      ·exact⟨_,_,hM,S,dT,eD,g2,dx,g3,gm,gz,by rw[px,hga,if_neg JD],by dsimp only;omega,by dsimp only;omega,CI,by dsimp only;omega⟩
      ·dsimp only;omega
    ·rw[show x.1=(fixF i x).1 from by show x.1=if iC x.1=true then x.1 else _;rw[if_pos (by cases hq:iC x.1 with|true=>rfl|false=>exact absurd hq c8)]]at eH;refine aR (T.aQ (bR (o':=1) cT G G I9 q0 G G (aV aG G G G W4 G (bR (o':=1) cT G G I9 q0 G G (aV aG G G G W4 G (Rg.pF aG G G (bc (v':= .int .i64 (x.2.length:Int)) a84 (Rg.min2 G G G (Rg.Xq aG G G G k3 (bc (v':= .string ⟨((fixF i x).2).toArray⟩) (by rw[GM];rfl) ?_))))))))));refine bR (o':=1) cT G G I9 q0 G G ?_;refine cF (M:=qo) I9 G G eH G (G) dU (λLM GO ja=>?_);change LM.heap[_]? =some (Obj.cells #[.string ⟨((fixF i x).1).toArray⟩,.string ⟨((fixF i x).2).toArray⟩] _ _)at GO;have:=ae g2;replace dx:=(ja.mem _ this).2 dx;replace g2:=ja.keep g2 a05;have:=ae g3;replace gm:=(ja.mem _ this).2 gm;replace g3:=ja.keep g3 a05;have:=ae eH;replace dU:=(ja.mem _ this).2 dU;replace dT:=dT.le q0 ja.le;replace eD:=eD.le ja.le;replace gz:=gz.le ja.le;replace hM:=ja.lt hM;have:=S.size;replace S:=S.trans ja (λk hk h=>by have h:_=_:=h;subst h;first|(exfalso;omega)|(show _<=_;omega)|exact⟨by first|omega|assumption,(S.mem _ hk).1 ((ja.mem _ (ae eH)).1 dU)⟩|exact .inl rfl|exact .inr rfl|exact .inr (.inl rfl)|exact .inr (.inr rfl)|exact .inr (.inr (.inl rfl))|exact rfl);have tM:=GO;clear eH;have eH:=tM;clear tM;refine ad (T.aQ ?_);refine aD (M:=qo) (A:=RT.dc) (B:=RT.int .i64) bg G G I3 q0 (dc0) G G q0 W4 (by repeat (first|exact bH _ _|refine aZ (bI W4) ?_)) (λXL QH=>?_)
     refine bV (M:=qo) aq G G W4 (by repeat (first|exact bH _ _|refine aZ (bI W4) ?_)) (λaaj=>?_);refine ie (places:=[(0,1),(1,1)]) bg nY B69 rfl ⟨_,_,rfl,rfl,rfl⟩ (out:=[_,.slice none 0 0]) ⟨0,[_],rfl,rfl,by simp[Value.cells],rfl⟩ ?_;refine eA qo nY G (λBs GP afn afo dM gZ=>?_);obtain⟨wG,xv⟩:∃M',M'=ins qo Bs:=⟨_,rfl⟩;rw[<-xv]at gZ;have dJ:wG Bs:=by rw[xv];exact .inl G
     change GP.heap[Bs]? =some (.cells #[.int .i64 0,.slice none 0 0] _ _)at dM;have:=ae g2;replace dx:=(gZ.mem _ this).2 dx;replace g2:=gZ.aP g2;have:=ae g3;replace gm:=(gZ.mem _ this).2 gm;replace g3:=gZ.aP g3;have:=ae eH;replace dU:=(gZ.mem _ this).2 dU;replace eH:=gZ.aP eH;replace dT:=dT.le q0 gZ.le;replace eD:=eD.le gZ.le;replace gz:=gz.le gZ.le;replace hM:=gZ.lt hM;have:=S.size;replace S:=S.aw gZ;refine ej (M:=wG) (vs:=[.int .i64 d.1,.slice none 0 0]) nY G G a11 rfl rfl dM dJ (λEK QI mG=>?_);have:=ae g2;replace dx:=(mG.mem _ this).2 dx;replace g2:=mG.keep g2 a05;have:=ae g3;replace gm:=(mG.mem _ this).2 gm;replace g3:=mG.keep g3 a05;have:=ae eH;replace dU:=(mG.mem _ this).2 dU;replace eH:=mG.keep eH a05;have:=ae dM;replace dJ:=(mG.mem _ this).2 dJ;replace dT:=dT.le q0 mG.le;replace eD:=eD.le mG.le;replace gz:=gz.le mG.le;replace hM:=mG.lt hM;have:=S.size;replace S:=S.trans mG (λk hk h=>by have h:_=_:=h;subst h;first|(exfalso;omega)|(show _<=_;omega)|exact⟨by first|omega|assumption,(S.mem _ hk).1 ((mG.mem _ (ae dM)).1 dJ)⟩|exact .inl rfl|exact .inr rfl|exact .inr (.inl rfl)|exact .inr (.inr rfl)|exact .inr (.inr (.inl rfl))|exact rfl);have kK:=QI;clear dM;have dM:=kK;clear kK;refine ad (T.aQ (bR (o':=1) bg G G uU q0 G G (aV bD G G G W4 G (bR (o':=1) bg G G uU q0 G G (aV bD G G G W4 G ?_)))));have eh:=Own.Xz RT.fd 166 EK.heap.size hM
     have am5:=ae eH;have QK:w0.heap.size<=EK.heap.size:=S.size;refine cN (M:=wG) (base:=EK.heap.size) bD ly rfl rfl rfl rfl eh gz bY a03 a03 (aN _) (λBk tK Qp wy gj=>?_);have:=ae g2;replace dx:=(gj.mem _ this).2 dx;replace g2:=gj.keep g2 (λh=>by first|exact eh.eU g2 h|exact eh.eu g2 q0 h|(have:=(eh.base _ h).1;omega));have:=ae g3;replace gm:=(gj.mem _ this).2 gm;replace g3:=gj.keep g3 (λh=>by first|exact eh.eU g3 h|exact eh.eu g3 q0 h|(have:=(eh.base _ h).1;omega));have:=ae eH;replace dU:=(gj.mem _ this).2 dU;replace eH:=gj.keep eH (λh=>by first|exact eh.eU eH h|exact eh.eu eH q0 h|(have:=(eh.base _ h).1;omega));have:=ae dM;replace dJ:=(gj.mem _ this).2 dJ;replace dM:=gj.keep dM (λh=>by first|exact eh.eU dM h|exact eh.eu dM q0 h|(have:=(eh.base _ h).1;omega));replace dT:=dT.le q0 gj.le;replace eD:=eD.le gj.le;replace gz:=gz.le gj.le;replace hM:=gj.lt hM;have:=S.size;replace S:=S.cC gj eh QK;replace eh:=wy;refine bR (o':=1) bg G G uU q0 G G ?_;refine cF (M:=tK) uU rfl rfl dM rfl (ad4) dJ (λQL GQ iQ=>?_);change QL.heap[_]? =some (Obj.cells #[.int .i64 d.1,Bk] _ _)at GQ;have:=ae g2;replace dx:=(iQ.mem _ this).2 dx;replace g2:=iQ.keep g2 a05;have:=ae g3;replace gm:=(iQ.mem _ this).2 gm;replace g3:=iQ.keep g3 a05;have:=ae eH;replace dU:=(iQ.mem _ this).2 dU;replace eH:=iQ.keep eH a05;have:=ae dM;replace dJ:=(iQ.mem _ this).2 dJ;replace dT:=dT.le q0 iQ.le
     replace eD:=eD.le iQ.le;replace gz:=gz.le iQ.le;replace eh:=eh.step iQ (λb hb hk=>by have hk:_=_:=hk;have:=(eh.base b hb);omega);replace hM:=iQ.lt hM;have:=S.size;replace S:=S.trans iQ (λk hk h=>by have h:_=_:=h;subst h;first|(exfalso;omega)|(show _<=_;omega)|exact⟨by first|omega|assumption,(S.mem _ hk).1 ((iQ.mem _ (ae dM)).1 dJ)⟩|exact .inl rfl|exact .inr rfl|exact .inr (.inl rfl)|exact .inr (.inr rfl)|exact .inr (.inr (.inl rfl))|exact rfl);have kK:=GQ;clear dM;have dM:=kK;clear kK;refine ad (T.aQ (bR (o':=1) bg G G uU q0 G G (aV bD G G G W4 G (gJ (vs:=[.string ⟨((fixF i x).1).toArray⟩,.string ⟨((fixF i x).2).toArray⟩]) cT G ly G G G eH ?_))));refine dP (A:=RT.fd) (hn:=by decide) (M:=tK) bD ly q0 G G hM (show RT.fd.V _ _ (fixF i x) _ from fE (j8.2 ⟨G,eG XJ.1 q0⟩) (j8.2 ⟨G,eG XJ.2 q0⟩) G G G G) (.inl G) (λXF afp ix iR=>?_);have:=ae g2;replace dx:=(iR.mem _ this).2 dx;replace g2:=iR.aP g2;have:=ae g3;replace gm:=(iR.mem _ this).2 gm;replace g3:=iR.aP g3;have:=ae eH;replace dU:=(iR.mem _ this).2 dU;replace eH:=iR.aP eH;have:=ae dM;replace dJ:=(iR.mem _ this).2 dJ;replace dM:=iR.aP dM;replace dT:=dT.le q0 iR.le;replace eD:=eD.le iR.le;replace gz:=gz.le iR.le;replace eh:=eh.aE iR;replace hM:=iR.lt hM;have:=S.size;replace S:=S.aw iR;refine cN (M:=tK) (base:=EK.heap.size) bD ly rfl rfl rfl rfl eh ix bY a03 a03 (by have:=gj.size;have:=iQ.size;have:=iR.size;omega) (λiv oO XM JC gr=>?_);have:=ae g2;replace dx:=(gr.mem _ this).2 dx
     replace g2:=gr.keep g2 (λh=>by first|exact eh.eU g2 h|exact eh.eu g2 q0 h|(have:=(eh.base _ h).1;omega));have:=ae g3;replace gm:=(gr.mem _ this).2 gm;replace g3:=gr.keep g3 (λh=>by first|exact eh.eU g3 h|exact eh.eu g3 q0 h|(have:=(eh.base _ h).1;omega));have:=ae eH;replace dU:=(gr.mem _ this).2 dU;replace eH:=gr.keep eH (λh=>by first|exact eh.eU eH h|exact eh.eu eH q0 h|(have:=(eh.base _ h).1;omega));have:=ae dM;replace dJ:=(gr.mem _ this).2 dJ;replace dM:=gr.keep dM (λh=>by first|exact eh.eU dM h|exact eh.eu dM q0 h|(have:=(eh.base _ h).1;omega));replace dT:=dT.le q0 gr.le;replace eD:=eD.le gr.le;replace gz:=gz.le gr.le;replace ix:=ix.le gr.le;replace hM:=gr.lt hM;have:=S.size;replace S:=S.cC gr eh QK;replace eh:=JC;refine bR (o':=1) bg G G uU q0 G G ?_;refine cF (M:=oO) uU rfl rfl dM rfl (ad4) dJ (λQM GR iS=>?_);change QM.heap[_]? =some (Obj.cells #[.int .i64 d.1,iv] _ _)at GR;have:=ae g2;replace dx:=(iS.mem _ this).2 dx;replace g2:=iS.keep g2 a05;have:=ae g3;replace gm:=(iS.mem _ this).2 gm;replace g3:=iS.keep g3 a05;have:=ae eH;replace dU:=(iS.mem _ this).2 dU;replace eH:=iS.keep eH a05;have:=ae dM;replace dJ:=(iS.mem _ this).2 dJ;replace dT:=dT.le q0 iS.le;replace eD:=eD.le iS.le;replace gz:=gz.le iS.le;replace ix:=ix.le iS.le;replace eh:=eh.step iS (λb hb hk=>by have hk:_=_:=hk;have:=(eh.base b hb);omega);replace hM:=iS.lt hM;have:=S.size;replace S:=S.trans iS (λk hk h=>by have h:_=_:=h;subst h;first|(exfalso;omega)|(show _<=_;omega)|exact⟨by first|omega|assumption,(S.mem _ hk).1 ((iS.mem _ (ae dM)).1 dJ)⟩|exact .inl rfl|exact .inr rfl|exact .inr (.inl rfl)|exact .inr (.inr rfl)|exact .inr (.inr (.inl rfl))|exact rfl)
     have kK:=GR;clear dM;have dM:=kK;clear kK;refine ad (T.aQ (gJ (vs:=[.int .i64 d.1,iv]) bg G nY G G G dM ?_));have qN:=eh.view (hn:=by decide) a03;replace dx:rm oO iv _:=⟨dx,by first|exact eh.eu g2 q0|(intro h;have:=(eh.base _ h).1;omega)⟩;replace gm:rm oO iv _:=⟨gm,by first|exact eh.eu g3 q0|(intro h;have:=(eh.base _ h).1;omega)⟩;replace dU:rm oO iv _:=⟨dU,by first|exact eh.eu eH q0|(intro h;have:=(eh.base _ h).1;omega)⟩;replace dJ:rm oO iv _:=⟨dJ,by first|exact eh.eu dM q0|(intro h;have:=(eh.base _ h).1;omega)⟩;replace dT:=dT.le q0 (ed _ iv _);replace eD:=eD.le (ed _ iv _);replace gz:=gz.le (ed _ iv _);replace ix:=ix.le (ed _ iv _);replace hM:Lt (rm oO iv) _:=λb hb=>hM b hb.1
     replace S:=S.freeze (v:=iv) (λb hb=>by have:=(eh.base b hb).1;omega);clear eh;refine a8 G G E94 (DD (d:=(d.1,[]++out++[fixF i x])) _ hM (fE (gw hdi) qN G G G G) (λy hy=>by have:=(CI.snoc XJ) y af4;omega)) (λr14 w14 hc=>?_);obtain⟨rfl,lI⟩:=hc;rw[ew]at qN;have:=ae g2;replace dx:=(lI.mem _ this).2 dx;replace g2:=lI.aP g2;have:=ae g3;replace gm:=(lI.mem _ this).2 gm;replace g3:=lI.aP g3;have:=ae eH;replace dU:=(lI.mem _ this).2 dU;replace eH:=lI.aP eH;have:=ae dM;replace dJ:=(lI.mem _ this).2 dJ;replace dM:=lI.aP dM;replace dT:=dT.le q0 lI.le;replace eD:=eD.le lI.le;replace gz:=gz.le lI.le;replace ix:=ix.le lI.le;replace qN:=qN.le lI.le;replace hM:=lI.lt hM;have:=S.size;replace S:=S.aw lI;refine sJ G G G (bc (v':= .bool (decide (nP (d.1,out++[fixF i x])=0))) (by rw[ew]) (ad ?_));refine bM G (λJD=>?_) (λJD=>?_)
     ·refine aH (gJ (vs:=[.int .i64 d.1,iv]) bg G nY G G G dM ?_);refine ej (M:=rm oO iv) (vs:=[.int .i64 d.1,iv]) nY G G a11 rfl rfl g3 gm (λam6 QN lJ=>?_);have:=ae g2;replace dx:=(lJ.mem _ this).2 dx;replace g2:=lJ.keep g2 a05;have:=ae g3;replace gm:=(lJ.mem _ this).2 gm;have:=ae eH;replace dU:=(lJ.mem _ this).2 dU;replace eH:=lJ.keep eH a05;have:=ae dM;replace dJ:=(lJ.mem _ this).2 dJ;replace dM:=lJ.keep dM a05;replace dT:=dT.le q0 lJ.le;replace eD:=eD.le lJ.le;replace gz:=gz.le lJ.le;replace ix:=ix.le lJ.le;replace qN:=qN.le lJ.le;replace hM:=lJ.lt hM;have:=S.size;replace S:=S.trans lJ (λk hk h=>by have h:_=_:=h;subst h;first|(exfalso;omega)|(show _<=_;omega)|exact⟨by first|omega|assumption,(S.mem _ hk).1 ((lJ.mem _ (ae g3)).1 gm)⟩|exact .inl rfl|exact .inr rfl|exact .inr (.inl rfl)|exact .inr (.inr rfl)|exact .inr (.inr (.inl rfl))|exact rfl);have g3_:=QN;clear g3;have g3:=g3_;clear g3_;refine ad (aH (ab G G (bG G G G k3 (Rg.bA G G ?_))));refine⟨G,(i+1,out++[fixF i x]),a19,?_,?_⟩
      ·exact⟨_,_,hM,S,dT,eD,g2,dx,g3,gm,qN,by rw[px,hga,if_pos JD],by dsimp only;omega,by dsimp only;omega,CI.snoc XJ,by simp;omega⟩
      ·dsimp only;omega
     ·refine aR (aH (ab G G (bG G G G k3 (Rg.bA G G ?_))));refine⟨G,(i+1,out),a19,?_,?_⟩
      ·exact⟨_,_,hM,S,dT,eD,g2,dx,g3,gm,gz,by rw[px,hga,if_neg JD],by dsimp only;omega,by dsimp only;omega,CI,by dsimp only;omega⟩
      ·dsimp only;omega
   ·refine cO (T.aQ (gJ (vs:=[.int .i64 d.1,uo]) bg G nY G G G g3 ?_));refine ej (M:=M1) (vs:=[.int .i64 d.1,uo]) nY G G a11 rfl rfl g2 dx (λam7 QO rB=>?_);have:=ae g2;replace dx:=(rB.mem _ this).2 dx;have:=ae g3;replace gm:=(rB.mem _ this).2 gm;replace g3:=rB.keep g3 a05;replace dT:=dT.le q0 rB.le;replace eD:=eD.le rB.le;replace gz:=gz.le rB.le;replace hM:=rB.lt hM;have:=S.size;replace S:=S.trans rB (λk hk h=>by have h:_=_:=h;subst h;first|(exfalso;omega)|(show _<=_;omega)|exact⟨by first|omega|assumption,(S.mem _ hk).1 ((rB.mem _ (ae g2)).1 dx)⟩|exact .inl rfl|exact .inr rfl|exact .inr (.inl rfl)|exact .inr (.inr rfl)|exact .inr (.inr (.inl rfl))|exact rfl);have Bt:=QO;clear g2;have g2:=Bt;clear Bt;refine ad (aT ?_);have e:rZ d=(d.1,out):=by rw[rZ,px,DE k3]
    rw[e];refine yv (vs:=[.int .i64 d.1,uo]) G G bg G nY G g2 ⟨fE (gw hdi) (gz.le (CC ir S)) G G G G,S.back⟩
  ·refine ao G G G G (ao G G G G (aM G G G (ad (jD G (cO (T.aQ (gJ (vs:=[.int .i64 d.1,uo]) bg G nY G G G g3 ?_)))))));refine ej (M:=M1) (vs:=[.int .i64 d.1,uo]) nY G G a11 rfl rfl g2 dx (λam7 QO rB=>?_);have:=ae g2;replace dx:=(rB.mem _ this).2 dx;have:=ae g3;replace gm:=(rB.mem _ this).2 gm;replace g3:=rB.keep g3 a05;replace dT:=dT.le q0 rB.le;replace eD:=eD.le rB.le;replace gz:=gz.le rB.le;replace hM:=rB.lt hM;have:=S.size;replace S:=S.trans rB (λk hk h=>by have h:_=_:=h;subst h;first|(exfalso;omega)|(show _<=_;omega)|exact⟨by first|omega|assumption,(S.mem _ hk).1 ((rB.mem _ (ae g2)).1 dx)⟩|exact .inl rfl|exact .inr rfl|exact .inr (.inl rfl)|exact .inr (.inr rfl)|exact .inr (.inr (.inl rfl))|exact rfl);have Bt:=QO;clear g2;have g2:=Bt;clear Bt;refine ad (aT ?_);have e:rZ d=(d.1,out):=by rw[rZ,px,DE k3]
   rw[e];refine yv (vs:=[.int .i64 d.1,uo]) G G bg G nY G g2 ⟨fE (gw hdi) (gz.le (CC ir S)) G G G G,S.back⟩
def gP (l:List Dc) (from_ step:Int):Nat->List En
 |0=>[]
 |k+1=>gP l from_ step k++(match l[k]? with|some d=>[(rZ d,from_+step*(k:Int))]|none=>[])
theorem oa (l:List Dc) (a s:Int):∀k,(gP l a s k).length=min k l.length
 |0=>by simp[gP]
 |k+1=>by
  rw[gP,aY,oa l a s k]
  cases h:l[k]? with
  |none=>have:=qK.1 h;simp;omega
  |some d=>have:=(aj.1 h).1;simp;omega
theorem Bu {l:List Dc} {a s:Int} {k:Nat} {d:Dc} (h:l[k]? =some d):gP l a s (k+1)=gP l a s k++[(rZ d,a+s*(k:Int))]:=by rw[gP,h]
theorem Bv {l:List Dc} {a s:Int} {k:Nat} (h:l.length<=k):gP l a s (k+1)=gP l a s k:=by
 rw[gP,qK.2 h];simp
theorem GS {l:List Dc} {a s:Int} {n i:Nat} (h:l.length<=i\/n<=i) (h1:i<=n):gP l a s i=gP l a s n:=by
 induction n with
 |zero=>have:i=0:=by omega
        rw[this]
 |succ n ih=>
  rcases gH h1 with e|eK
  ·rw[e]
  ·rcases h with h|h
   ·rw[Bv k3];exact ih (.inl h) k3
   ·omega
theorem Vk {s k:Int} (h:0<=s/\s<=1000) (hk:0<=k/\k<=100):0<=s*k/\s*k<=100000:=
 ⟨Int.mul_nonneg h.1 hk.1,Int.le_trans (Int.mul_le_mul h.2 hk.2 hk.1 k3) k3⟩
theorem JE {M:aJ} {l:List Dc} {v0:Value} {most:Nat} {a s:Int} (w0:World) (hM:Lt M w0) (hv:(RT.dc.sl).V M w0 l v0) (hm:most<=100) (ha:0<=a/\a<=1000000) (hs:0<=s/\s<=1000):
  Spec Tryz.prog 12 #[v0,.int .i64 (most:Int),.int .i64 a,.int .i64 s] w0 (λv w=>(RT.en.sl).V M w (gP l a s most) v/\Step M w0 M w aA):=by
 have ir:=hM;refine bF (args:=[_,_,_,_]) (fn:=Tryz.f12) Tryz.func12 G (n:=37) Tryz.ntmps12 ?_;have S:Step M w0 M w0 aA:=bz;refine T.aQ (Rg.bA G G (T.aQ (Rg.bA G G (aI (T.aQ (aB G G ?_))))));refine ad (aS ?_);refine dg (σ:=Nat×Value) (λq=>[(0,v0),(1,.int .i64 (most:Int)),(2,.int .i64 a),(3,.int .i64 s),(9,q.2),(10,.int .i64 (q.1:Int))]) (λq w=>∃M',Lt M' w/\Step M w0 M' w aA/\Own RT.en 71 M' w w0.heap.size q.2 (gP l a s q.1)/\(RT.dc.sl).V M' w l v0/\q.1<=most/\q.1<=l.length) (λq=>most-q.1) (0,.slice none 0 0) a10 ?_ ?_
 ·exact⟨M,hM,S,dh _ _ _ _ _,hv,bC _,bC _⟩
 ·rintro⟨i,u⟩ w ⟨M1,hM,S,ho,hv,hi,pX⟩;dsimp only at ho hi pX ⊢;refine aI (T.aQ (ab G G (ab G G (bK Tryz.underlying22 G hv G (ch G G G (ab G G ?_))))));refine aW (g:=15) G (λam8=>?_) (λam8=>?_)
  ·refine ak G G (ab G G (ak G G (ab G G (ak G G (ch G G G (bm G G G (ad ?_)))))));refine bM G (λc3=>?_) (λc3=>?_)
   ·refine aR (aI (aS (aH (ab G G (ab G G (ab G G ?_))))));refine bX Tryz.underlying22 nY G G G hv bY k3 (λu5 d NG Gv=>?_);rw[an]at NG;have NO:=Vk (k:=(i:Int)) hs k3;refine cW (A:=RT.dc) bg G nY q0 G G G Gv bY (λv5 tg=>?_);refine a8 G G E44 (NN _ hM tg) (λr5 w5 hc=>?_);obtain⟨px,s5⟩:=hc;replace hv:=hv.le s5.le;replace ho:=ho.aE s5;replace hM:=s5.lt hM;have:=S.size;replace S:=S.aw s5;refine ab G G (ab G G (ab G G (Rg.Pg G G G k3 (bG G G G k3 ?_))));obtain⟨uf,rfl⟩:=Qs px;refine ie (places:=[(0,2),(2,1)]) dH A3 B71 rfl ⟨_,_,rfl,rfl,_,_,rfl,rfl,rfl⟩ (out:=[_,_,_]) ⟨0,[_,_],rfl,rfl,by simp[Value.cells],2,[_],rfl,rfl,by simp[Value.cells],rfl⟩ ?_;refine dP (A:=RT.en) (hn:=by decide) (M:=M1) dp A3 q0 G G hM (show RT.en.V _ _ (rZ d,a+s*(i:Int)) _ from Xy px k3) (.inl G) (λaut auu JF GU=>?_);replace hv:=hv.le GU.le;replace px:=px.le GU.le;replace ho:=ho.aE GU;replace hM:=GU.lt hM;have:=S.size;replace S:=S.aw GU;refine cN (M:=M1) (base:=w0.heap.size) dp A3 G G G G ho JF bY (by have:=oa l a s i;simp;omega) (by have:=oa l a s i;simp;omega) (S.size) (λafr afs auv aal GV=>?_);replace hv:=hv.le GV.le;replace px:=px.le GV.le;replace JF:=JF.le GV.le;replace hM:=GV.lt hM;have:=S.size;replace S:=S.cC GV ho (aN _);replace ho:=aal;refine Rg.bA G G (aH (ab G G (bG G G G k3 (Rg.bA G G ?_))));refine⟨G,(i+1,afr),a10,?_,?_⟩
    ·exact⟨afs,hM,S,by rw[Bu NG];exact ho,hv,by dsimp only;omega,by dsimp only;omega⟩
    ·dsimp only;omega
   ·refine cO (T.aQ (ab G G (Rg.bA G G (aT ?_))));rw[<-GS (i:=i) (n:=most) k3 hi];exact aX G G ⟨ho.close ir S (by have:=oa l a s i;omega),S.back⟩
  ·refine ao G G G G (ao G G G G (ao G G G G (aM G G G (ad (jD G (cO (T.aQ (ab G G (Rg.bA G G ?_)))))))));refine aT ?_;rw[<-GS (i:=i) (n:=most) k3 hi];exact aX G G ⟨ho.close ir S (by have:=oa l a s i;omega),S.back⟩
end Go.K
namespace Go.K
open Go.Maps (Keyed)
structure hU (P:Program) (kt:TypeId) (w:World) (b:Nat) (es:List MapEntry) (clock:Nat):Prop where
 at_:w.heap[b]? =some (.map es.toArray clock)
 born:es.Pairwise λx y=>x.born≠y.born
 lt:∀e∈es,e.born<clock
 keys:es.Pairwise λx y=>x.key≠y.key
 ok:∀e∈es,∃l,keyOf P kt e.key=some l
def fj (zv:Value) (es:List MapEntry) (key v:Value):Prop:=(∃e∈es,e.key=key/\v=e.val)\/((∀e∈es,e.key≠key)/\v=zv)
section
variable {P:Program} {kt:TypeId} {w:World} {b clock:Nat} {es:List MapEntry}
theorem hU.step {M M' N:aJ} {w':World} (h:hU P kt w b es clock) (s:Step M w M' w' N) (hn: ¬N b):hU P kt w' b es clock:=⟨s.keep h.at_ hn,h.born,h.lt,h.keys,h.ok⟩
theorem hU.aE {M M':aJ} {w':World} (h:hU P kt w b es clock) (s:Step M w M' w' aA):hU P kt w' b es clock:=h.step s λh=>h
theorem jP {α:Type} {R:α->α->Prop} {l:List α} (h:l.Pairwise R) {i j:Nat} {x y:α} (hi:l[i]? =some x) (hj:l[j]? =some y) (kS:i<j):R x y:=by
 obtain⟨h1,h2⟩:=aj.1 hi;obtain⟨h3,h4⟩:=aj.1 hj;have:=cJ.1 h i j h1 h3 kS
 rwa [h2,h4]at this
theorem hU.LQ (h:hU P kt w b es clock) {x y:MapEntry} (hx:x∈es) (hy:y∈es) (e:x.key=y.key):x=y:=by
 obtain⟨i,hi⟩:=bQ.1 hx;obtain⟨j,hj⟩:=bQ.1 hy;rcases fJ i j with h1|h1|h1
 ·exact absurd e (jP h.keys hi hj h1)
 ·subst h1;rw[hi]at hj;exact ar hj
 ·exact absurd e.symm (jP h.keys hj hi h1)
theorem hU.GW (h:hU P kt w b es clock) {i j:Nat} {x y:MapEntry} (hi:es[i]? =some x) (hj:es[j]? =some y) (e:x.born=y.born):i=j:=by
 rcases fJ i j with h1|h1|h1
 ·exact absurd e (jP h.born hi hj h1)
 ·exact h1
 ·exact absurd e.symm (jP h.born hj hi h1)
theorem hU.val_one (h:hU P kt w b es clock) {zv key v v':Value} (h1:fj zv es key v) (h2:fj zv es key v'):v=v':=by
 rcases h1 with⟨e,he,hk,hv⟩|⟨hn,hv⟩
 ·rcases h2 with⟨e',tN,xf,vr⟩|⟨JG,_⟩
  ·have:=h.LQ he tN (hk.trans xf.symm);rw[hv,vr,this]
  ·exact absurd hk (JG e he)
 ·rcases h2 with⟨e',tN,xf,_⟩|⟨_,vr⟩
  ·exact absurd xf (hn e' tN)
  ·rw[hv,vr]
theorem eI {r:Nat} {a:Array MapEntry} {c:Nat} (hb:w.heap[r]? =some (.map a c)):(getObj r).run P w= .ok (.map a c) w:=by simp[getObj,Sem.run,hb]
theorem run_setObj_map {r:Nat} {a:Array MapEntry} {c:Nat} {o:Obj} (hb:w.heap[r]? =some (.map a c)):(setObj r o).run P w= .ok () {w with heap:=w.heap.setIfInBounds r o}:=by simp[setObj,Sem.run,hb]
theorem hU.push (h:hU P kt w b es clock) {key v:Value} {kl:Lit} (nw:keyOf P kt key=some kl) (hn:∀e∈es,e.key≠key) {w':World} (hw:w'.heap[b]? =some (.map (es++([⟨key,v,clock⟩]:List MapEntry)).toArray (clock+1))):hU P kt w' b (es++[⟨key,v,clock⟩]) (clock+1):=
 ⟨hw,lZ.2 ⟨h.born,List.pairwise_singleton _ _,λx hx y hy=>by rw[b9.1 hy];have:=h.lt x hx;show x.born≠clock;omega⟩,(λe he=>by
  rcases cP.1 he with he|he
  ·have:=h.lt e he;omega
  ·rw[b9.1 he];exact Nat.lt_succ_self _),lZ.2 ⟨h.keys,List.pairwise_singleton _ _,λx hx y hy=>by rw[b9.1 hy];exact hn x hx⟩,(λe he=>by
  rcases cP.1 he with he|he
  ·exact h.ok e he
  ·rw[b9.1 he];exact⟨kl,nw⟩)⟩
theorem fj.push {zv key:Value} {s:Nat} (hn:∀e∈es,e.key≠key) (kL v':Value):fj zv (es++[⟨key,zv,s⟩]) kL v'↔fj zv es kL v':=by
 constructor
 ·rintro(⟨e,he,hk,hv⟩|⟨h1,h2⟩)
  ·rcases cP.1 he with he|he
   ·exact .inl ⟨e,he,hk,hv⟩
   ·rw[b9.1 he]at hk hv;exact .inr ⟨λe he=>by rw[<-hk];exact hn e he,hv⟩
  ·exact .inr ⟨λe he=>h1 e (iH _ he),h2⟩
 ·rintro(⟨e,he,hk,hv⟩|⟨h1,h2⟩)
  ·exact .inl ⟨e,iH _ he,hk,hv⟩
  ·by_cases hk:key=kL
   ·exact .inl ⟨⟨key,zv,s⟩,by simp,hk,h2⟩
   ·exact .inr ⟨λe he=>by
     rcases cP.1 he with he|he
     ·exact h1 e he
     ·rw[b9.1 he];exact hk,h2⟩
end
section
variable {P:Program} {r:Option Nat} {n:Nat} {L:Sl} {ds:List Deferred} {w:World} {K:Kt} {ops:Array Oper} {rest:List Oper} {d:Nat} {x y z:Operand} {ty:TypeId} {pos:String} {af:Array Edge}
variable {kt:TypeId} {M:aJ} {b clock:Nat} {es:List MapEntry}
theorem Rg.GX {t e:TypeId} (M:aJ) (ht:P.underlying t=some (.map kt e)) (hd:Nat.blt d n=true)
  (k:∀b w',w.heap.size<=b->b<w'.heap.size->hU P kt w' b [] 0->Step M w (ins M b) w' aA->Rg P r n ops rest ((d,.map (some b))::L) ds w' K):
  Rg P r n ops ({dst:=some d,op:= .makeMap t none,type:=ty,pos,after:=af,guard:=none}::rest) L ds w K:=by
 refine .op a04 G G hd (.map (some w.heap.size)) (w.alloc (.map #[] 0)) (λρ hρ=>?_) (k w.heap.size _ (aN _) (by simp) ⟨de w _,List.Pairwise.nil,(λe he=>by cases he),List.Pairwise.nil,(λe he=>by cases he)⟩ ((dK M w _).own (aN _) (by simp)));simp only[execOp];simp[Instr.makeMap,newObj,Sem.run,run_underlying ht]
theorem Rg.mapEntry {t e:TypeId} {zv key:Value} {size bytes:Nat} {kl:Lit} (ht:P.underlying t=some (.map kt e)) (Kk:Keyed P kt) (hi:TI P e zv size bytes) (hx:ev L x=some (.map (some b))) (hy:ev L y=some key) (hd:Nat.blt d n=true) (nw:keyOf P kt key=some kl) (h:hU P kt w b es clock) (hm:M b)
  (k:∀w' sd JH v s,hU P kt w' b sd JH->fj zv es key v->(⟨key,v,s⟩:MapEntry)∈sd->(∀kL v',fj zv sd kL v'↔fj zv es kL v')->((sd.map (·.key)=es.map (·.key)/\∃e∈es,e.key=key)\/(sd.map (·.key)=es.map (·.key)++[key]/\∀e∈es,e.key≠key))->Step M w M w' (λk=>k=b)->Rg P r n ops rest ((d,.tuple #[v,.int .i64 (s:Nat)])::L) ds w' K):
  Rg P r n ops ({dst:=some d,op:= .mapEntry t x y,type:=ty,pos,after:=af,guard:=none}::rest) L ds w K:=by
 have eK:=ae h.at_;rcases Kk.find w nw es h.ok with⟨h1,h2⟩|⟨j,e0,h1,h2,h3⟩
 ·obtain⟨inf,i1,i2,_,_⟩:=hi.get;have hz:(zeroValue e).run P w= .ok zv w:=by simp[zeroValue,typeInfo,i1,i2]
  have hw:({w with heap:=w.heap.setIfInBounds b (.map (es.toArray.push ⟨key,zv,clock⟩) (clock+1))}:World).heap[b]? =some (.map (es++([⟨key,zv,clock⟩]:List MapEntry)).toArray (clock+1)):=by
   simp[ei,eK]
  refine .op a04 G G hd _ _ (λρ hρ=>?_) (k _ _ _ zv clock (h.push nw h2 hw) (Or.inr ⟨h2,G⟩) (by simp) (fj.push h2) (Or.inr ⟨by simp,h2⟩) (kI M hm));simp only[execOp,hρ x _ hx,hρ y _ hy,Instr.mapEntry,cA,run_underlying ht,dd,eI h.at_,Kk.check w false nw,h1,hz,run_setObj_map h.at_];simp[goInt]
 ·have he:e0∈es:=au h2
  have QP:es.toArray.modify j (λe=>{e with key:=key})=es.toArray:=by
   apply Array.ext_getElem?;intro i;rw[lp]
   split
   ·rename_i XN
    subst XN;simp only[ec,h2,dA];rw[<-h3]
   ·rfl
  have hw:({w with heap:=w.heap.setIfInBounds b (.map es.toArray clock)}:World).heap[b]? =some (.map es.toArray clock):=by simp[ei,eK]
  have hj:es.toArray[j]? =some e0:=by simpa using h2
  have mi:(Instr.keyThatStays ((Option.map (fun(e:MapEntry)=>e.key) es.toArray[j]?).getD key) key).run P w= .ok key w:=by
   rw[hj];simp only[dA,Option.getD_some,h3];exact Kk.stays w nw
  refine .op a04 G G hd _ _ (λρ hρ=>?_) (k _ es clock e0.val e0.born ⟨hw,h.born,h.lt,h.keys,h.ok⟩ (Or.inl ⟨e0,he,h3,rfl⟩) (by rw[<-h3];exact he) (λ_ _=>Iff.rfl) (Or.inl ⟨G,e0,he,h3⟩) (kI M hm));simp only[execOp,hρ x _ hx,hρ y _ hy,Instr.mapEntry,cA,run_underlying ht,dd,eI h.at_,Kk.check w false nw,h1,mi,QP,run_setObj_map h.at_];simp[goInt,hj]
theorem Rg.entryStore {t:TypeId} {key v0 val:Value} {s:Nat} (hx:ev L x=some (.map (some b))) (hy:ev L y=some (.int .i64 (s:Int))) (hz:ev L z=some val) (h:hU P kt w b es clock) (hm:M b) (k4:(⟨key,v0,s⟩:MapEntry)∈es)
  (k:∀w' sd,hU P kt w' b sd clock->sd.map (·.key)=es.map (·.key)->(∀zv kL v',fj zv sd kL v'↔(kL=key/\v'=val)\/(kL≠key/\fj zv es kL v'))->Step M w M w' (λk=>k=b)->Rg P r n ops rest L ds w' K):
  Rg P r n ops ({dst:=none,op:= .entryStore t x y z,type:=ty,pos,after:=af,guard:=none}::rest) L ds w K:=by
 have eK:=ae h.at_;obtain⟨i,hi⟩:=bQ.1 k4;have pX:=(aj.1 hi).1
 have am9:es.toArray.findIdx? (λe=>(e.born:Int)==(s:Int))=some i:=by
  rw[List.findIdx?_toArray,List.findIdx?_eq_some_iff_getElem];refine⟨pX,by rw[(aj.1 hi).2];simp,λj hj=>?_⟩;have zi:j<es.length:=by omega
  have:=λe=>h.GW (al zi) hi e
  simp only[Bool.not_eq_true,beq_eq_false_iff_ne,ne_eq];intro e;have e2:((es[j]).born:Int)=(s:Int):=by simpa using e
  have:=this (by show(es[j]).born=s;omega);omega
 obtain⟨sd,yC⟩:∃sd,sd=es.set i ⟨key,val,s⟩:=⟨_,rfl⟩
 have QP:es.toArray.modify i (λe=>{e with val:=val})=sd.toArray:=by
  apply Array.ext_getElem?;intro j;rw[lp,yC];simp only[ec,dN]
  split
  ·rename_i XN
   subst XN;rw[hi];simp
  ·rfl
 have km:∀j e',sd[j]? =some e'→(j=i/\e'=⟨key,val,s⟩)\/(j≠i/\es[j]? =some e'):=λj e' hj=>by
  rw[yC,dN]at hj
  split at hj
  ·rename_i kS
   left;exact⟨kS.symm,by simpa[pX]using hj.symm⟩
  ·rename_i kS
   exact .inr ⟨λe=>kS e.symm,hj⟩
 have sf:sd.map (·.key)=es.map (·.key):=by
  rw[yC,List.map_set];apply eS;intro j;rw[dN]
  split
  ·rename_i kS
   subst kS;have e:=(aj.1 hi).2;simp[pX,e]
  ·rfl
 have QQ:sd.map (·.born)=es.map (·.born):=by
  rw[yC,List.map_set];apply eS;intro j;rw[dN]
  split
  ·rename_i kS
   subst kS;have e:=(aj.1 hi).2;simp[pX,e]
  ·rfl
 have hw:({w with heap:=w.heap.setIfInBounds b (.map sd.toArray clock)}:World).heap[b]? =some (.map sd.toArray clock):=by simp[ei,eK]
 have fO:∀e'∈sd,(e'=⟨key,val,s⟩)\/(e'∈es/\e'.key≠key):=λe' tN=>by
  obtain⟨j,hj⟩:=bQ.1 tN;rcases km j e' hj with⟨_,e⟩|⟨fG,AP⟩
  ·exact .inl e
  ·refine .inr ⟨au AP,λe=>fG ?_⟩;rcases fJ j i with h1|h1|h1
   ·exact absurd e (jP h.keys AP hi h1)
   ·exact h1
   ·exact absurd e.symm (jP h.keys hi AP h1)
 have QR:(⟨key,val,s⟩:MapEntry)∈sd:=au (i:=i) (by rw[yC,dN];simp[pX])
 have hold:∀e'∈es,e'.key≠key->e'∈sd:=λe' tN fG=>by
  obtain⟨j,hj⟩:=bQ.1 tN;refine au (i:=j) ?_;rw[yC,dN,if_neg]
  ·exact hj
  ·rintro rfl;rw[hi]at hj;cases hj;exact fG G
 have hW:hU P kt {w with heap:=w.heap.setIfInBounds b (.map sd.toArray clock)} b sd clock:=by
  refine⟨hw,?_,λe' tN=>?_,?_,λe' tN=>?_⟩
  ·have:=dr.2 h.born;rw[<-QQ]at this;exact dr.1 this
  ·rcases fO e' tN with e|⟨h1,_⟩
   ·rw[e];exact(h.lt _ k4:s<clock)
   ·exact h.lt _ h1
  ·have:=dr.2 h.keys;rw[<-sf]at this;exact dr.1 this
  ·rcases fO e' tN with e|⟨h1,_⟩
   ·rw[e];exact(h.ok _ k4:∃l,keyOf P kt key=some l)
   ·exact h.ok _ h1
 refine .W5 a04 G G _ (λρ hρ=>?_) (k _ sd hW sf (λzv kL v'=>?_) (kI M hm))
 ·simp only[execOp,hρ x _ hx,hρ y _ hy,hρ z _ hz,Instr.entryStore,cA,eI h.at_,dd,asInt,asIntOf,zN,am9,QP,run_setObj_map h.at_]
 ·constructor
  ·rintro(⟨e',tN,hk,hv⟩|⟨h1,h2⟩)
   ·rcases fO e' tN with e|⟨h3,h4⟩
    ·subst e;exact .inl ⟨hk.symm,hv⟩
    ·exact .inr ⟨by rw[<-hk];exact h4,.inl ⟨e',h3,hk,hv⟩⟩
   ·have fG:kL≠key:=λe=>h1 _ QR e.symm
    exact .inr ⟨fG,.inr ⟨λe' tN=>λe=>by
     by_cases h5:e'.key=key
     ·exact fG (e.symm.trans h5)
     ·exact h1 e' (hold e' tN h5) e,h2⟩⟩
  ·rintro(⟨rfl,rfl⟩|⟨fG,⟨e',tN,hk,hv⟩|⟨h1,h2⟩⟩)
   ·exact .inl ⟨_,QR,G,G⟩
   ·exact .inl ⟨e',hold e' tN (by rw[hk];exact fG),hk,hv⟩
   ·exact .inr ⟨λe' tN=>by
     rcases fO e' tN with e|⟨h3,_⟩
     ·rw[e];exact λe=>fG e.symm
     ·exact h1 e' h3,h2⟩
theorem Rg.xw {t e:TypeId} {zv key:Value} {size bytes:Nat} {kl:Lit} (ht:P.underlying t=some (.map kt e)) (Kk:Keyed P kt) (hi:TI P e zv size bytes) (hx:ev L x=some (.map (some b))) (hy:ev L y=some key) (hd:Nat.blt d n=true) (nw:keyOf P kt key=some kl) (h:hU P kt w b es clock)
  (k:∀v,fj zv es key v->Rg P r n ops rest ((d,v)::L) ds w K):
  Rg P r n ops ({dst:=some d,op:= .lookup t x y false,type:=ty,pos,after:=af,guard:=none}::rest) L ds w K:=by
 rcases Kk.find w nw es h.ok with⟨h1,h2⟩|⟨j,e0,h1,h2,h3⟩
 ·obtain⟨inf,i1,i2,_,_⟩:=hi.get;have hz:(zeroValue e).run P w= .ok zv w:=by simp[zeroValue,typeInfo,i1,i2]
  refine .op a04 G G hd zv w (λρ hρ=>?_) (k zv (Or.inr ⟨h2,G⟩));simp only[execOp,hρ x _ hx,hρ y _ hy,Instr.lookup,cA,run_underlying ht,dd,eI h.at_,zN,Kk.check w _ nw,h1,hz];simp
 ·refine .op a04 G G hd e0.val w (λρ hρ=>?_) (k e0.val (Or.inl ⟨e0,au h2,h3,G⟩));simp only[execOp,hρ x _ hx,hρ y _ hy,Instr.lookup,cA,run_underlying ht,dd,eI h.at_,zN,Kk.check w _ nw,h1];simp
end
end Go.K
namespace Go.K
open Go.Proofs
set_option maxRecDepth 10000
open Go.Maps (Keyed)
def kv (t:Fd):Value:= .agg #[.string ⟨t.1.toArray⟩,.string ⟨t.2.toArray⟩]
theorem yD {a b:Fd} (h:kv a=kv b):a=b:=by
 unfold kv at h;simp only[Value.agg.injEq,Array.mk.injEq,List.cons.injEq,Value.string.injEq,ByteArray.mk.injEq,and_true]at h;exact vP h.1 h.2
theorem QS:laidOutB Tryz.prog=true:=by kernel_rfl
theorem QT:Tryz.prog.types.size=383:=by kernel_rfl
theorem DF:Keyed Tryz.prog 78:=Keyed.of_law (deep_law_laid QS (m:=2) (k:=78) k3 (by rw[QT];decide) a92 a92)
theorem aft:Tryz.prog.keyType 78=true:=by kernel_rfl
theorem LR:Tryz.prog.cellsOf 78=2:=by kernel_rfl
theorem Vl:Tryz.prog.cellsOf 9=1:=by kernel_rfl
theorem QU (t:Fd) (h1:t.1.length<=140737488355328) (h2:t.2.length<=140737488355328):∃l,keyOf Tryz.prog 78 (kv t)=some l:=by
 have e1:(⟨t.1.toArray⟩:ByteArray).size=t.1.length:=by simp[ByteArray.size]
 have e2:(⟨t.2.toArray⟩:ByteArray).size=t.2.length:=by simp[ByteArray.size]
 have hs:∀(s:ByteArray),s.size<=maxLen->Tryz.prog.keyLits 383 9 [.string s]=some [.string s.data.toList]:=λs hs=>by
  show(match Tryz.prog.underlying 9,[Value.string s]with|_,_=>_)=_;rw[aG];exact if_pos hs
 unfold keyOf kv;rw[cw];simp only[aft,Value.formed,cw,LR,QT]
 have key:∃ls,Tryz.prog.keyLits (383+1) 78 [.string ⟨t.1.toArray⟩,.string ⟨t.2.toArray⟩]=some ls:=by
  unfold Program.keyLits;simp only[cw];rw[if_pos ⟨by rw[LR];rfl,by kernel_rfl⟩];simp only[List.mapM_cons,List.mapM_nil,Vl];have g1:=hs ⟨t.1.toArray⟩ (by rw[e1];unfold maxLen;omega);have g2:=hs ⟨t.2.toArray⟩ (by rw[e2];unfold maxLen;omega);refine ⟨[.string (⟨t.1.toArray⟩:ByteArray).data.toList,.string (⟨t.2.toArray⟩:ByteArray).data.toList],?_⟩;simp only[List.drop_zero,List.drop_succ_cons,qO,vQ,g1,g2];rfl
 obtain⟨ls,hls⟩:=key;exact⟨.string (keyBytes ls),by rw[if_pos (by simp)];show Option.map _ (Tryz.prog.keyLits (383+1) 78 [.string ⟨t.1.toArray⟩,.string ⟨t.2.toArray⟩])=_;rw[hls];rfl⟩
end Go.K
namespace Go.K
open Go.Proofs
set_option maxRecDepth 10000
def jv (x:Fd):List (Fd×Nat):=(words x.2).zipIdx.map λp=>((x.1,p.1),p.2)
def cD (l:List Fd):List (Fd×Nat):=l.flatMap jv
theorem qp (x:Fd):(jv x).length=(words x.2).length:=by simp[jv]
theorem QV {x:Fd} {k:Nat} {y:List UInt8} (h:(words x.2)[k]? =some y):(jv x)[k]? =some ((x.1,y),k):=by
 simp[jv,List.getElem?_zipIdx,h]
theorem wH {fs:List Fd} {i:Nat} {x:Fd} (h:fs[i]? =some x):cD (fs.take (i+1))=cD (fs.take i)++jv x:=by
 rw[bB,h];simp[cD]
structure aam (P:Program) (g:FuncId) (cap:List Value) (B:Nat) (J:List (Fd×Nat)->aJ->World->Prop):Prop where
 enters:Enters P g
 step:∀ts M w M' w',J ts M w->Step M w M' w' aA->J ts M' w'
 tell:∀ts M w (t:Fd) (i:Nat),J ts M w->Lt M w->t.1.length<=900000->t.2.length<=140737488355328->i<=1000000->ts.length<=10000000->Spec P g ([kv t,.int .i64 (i:Int)]++cap).toArray w (λ_ w'=>∃M',Lt M' w'∧J (ts++[(t,i)]) M' w'∧Step M w M' w' (nJ M B))
theorem DG {M:aJ} {d:Dc} {v0:Value} {g:FuncId} {cap:List Value} {B:Nat} {J:List (Fd×Nat)->aJ->World->Prop} (w0:World) (hM:Lt M w0) (hv:RT.dc.V M w0 d v0) (hl:∀f∈d.2,f.1.length<=900000/\f.2.length<=900000) (hd8:d.2.length<=8) (hT:aam Tryz.prog g cap B J) (hJ:J [] M w0):
  Spec Tryz.prog 132 #[v0,.func (.func g) #[] cap.toArray] w0 (λv w=>∃M',Lt M' w/\J (cD d.2) M' w/\Step M w0 M' w (nJ M B)):=by
 refine bF (args:=[_,_]) (fn:=Tryz.f132) Tryz.func132 G (n:=33) Tryz.ntmps132 ?_;have S:Step M w0 M w0 (nJ M B):=(bz).eL a42 (λ_ h=>h.2);refine T.aQ ?_;refine kB (A:=RT.dc) G G hM hv G (λu0 w1 dT s0 _=>?_);replace hJ:=hT.step _ _ _ _ _ hJ s0;replace hM:=s0.lt hM;have:=S.size;replace S:=S.aw s0;refine ad (T.aQ ?_);refine aD (M:=M) (A:=RT.dc) (B:=(RT.fd).sl) bg G G uU q0 (EI) G G q0 W4 (by repeat (first|exact bH _ _|refine aZ (bI W4) ?_)) (λCS nE=>?_);refine bE (M:=M) bD G G G G G W4 (by repeat (first|exact bH _ _|refine aZ (bI W4) ?_)) (λCT py=>?_);refine bK bD G py G (ab G G (ad (aS ?_)));refine dg (σ:=Nat) (λi=>[(1,.func (.func g) #[] cap.toArray),(9,CT),(10,.int .i64 (d.2.length:Int)),(11,.int .i64 (i:Int))]) (λi w=>∃M',Lt M' w/\Step M w0 M' w (nJ M B)/\(RT.fd.sl).V M' w d.2 CT/\J (cD (d.2.take i)) M' w/\i<=d.2.length/\(cD (d.2.take i)).length<=900001*i) (λi=>d.2.length-i) 0 Y7 ?_ ?_
 ·exact⟨_,hM,S,py,hJ,bC _,aN _⟩
 ·rintro i w ⟨M1,hM,S,kh,hJ,hi,Ga⟩;refine T.aQ (ch G G G (ad (aI ?_)));refine bM G (λc2=>?_) (λc2=>?_)
  ·refine aR (aI (aS (T.aQ ?_)));refine bX bD ly G G G kh bY k3 (λu3 x Us kA=>?_);rw[an]at Us;have qb:=hl _ (au Us);refine cW (A:=RT.fd) cT G ly q0 G G G kA bY (λv3 yE=>?_);refine vS (A:=RT.fd) (M:=M1) ly G G G G G W4 bY hM (λVm ana xx Bw anb=>?_);replace kh:=kh.le Bw.le;replace hJ:=hT.step _ _ _ _ _ hJ Bw;replace hM:=Bw.lt hM;have:=S.size;replace S:=S.aw Bw;refine ad (T.aQ ?_);refine aD (M:=M1) (A:=RT.fd) (B:=RT.str) cT G G I9 q0 (fd1) G G q0 W4 (by repeat (first|exact bH _ _|refine aZ (bI W4) ?_)) (λVg DC=>?_);refine bE aG G G G G G DC bY (λv4 qm=>?_);obtain rfl:=fp qm;refine a8 G G aeB (Bf (l:=x.2) _ hM qb.2) (λv5 w5 hc=>?_);obtain⟨hws,s5⟩:=hc;replace kh:=kh.le s5.le;replace xx:=xx.le q0 s5.le;replace hJ:=hT.step _ _ _ _ _ hJ s5;replace hM:=s5.lt hM;have:=S.size;replace S:=S.aw s5;have hwl:=n0 x.2;refine bK az G hws G (ab G G (ad (aS ?_)));refine dg (σ:=Nat) (λk=>[(1,.func (.func g) #[] cap.toArray),(5,Vm),(9,CT),(10,.int .i64 (d.2.length:Int)),(11,.int .i64 (i:Int)),(17,v5),(18,.int .i64 ((words x.2).length:Int)),(19,.int .i64 (k:Int))]) (λk w=>∃M',Lt M' w/\Step M w0 M' w (nJ M B)/\(RT.fd.sl).V M' w d.2 CT/\dv RT.fd M' w Vm x/\(RT.str.sl).V M' w (words x.2) v5/\J (cD (d.2.take i)++(jv x).take k) M' w/\k<=(words x.2).length) (λk=>(words x.2).length-k) 0 ap1 ?_ ?_
   ·exact⟨_,hM,S,kh,xx,hws,by rw[vQ,eJ];exact hJ,bC _⟩
   ·rintro k w ⟨M2,hM,S,kh,xx,hws,hJ,hk⟩;refine T.aQ (ch G G G (ad (aI ?_)));refine bM G (λc5=>?_) (λc5=>?_)
    ·refine aR (aI (aS (T.aQ (ab G G ?_))));refine bX az I9 G G G hws bY k3 (λu6 y OT GA=>?_);rw[an]at OT;refine bE aG G G G G G GA bY (λv6 wz=>?_);have Ja:=(j8.1 wz).2;obtain rfl:=fp wz;refine aB G G (Rg.bA G G (aH (ab G G ?_)));refine aD (M:=M2) (A:=RT.fd) (B:=RT.str) cT G G I9 q0 (Qr) G G q0 W4 (by repeat (first|exact bH _ _|refine aZ (bI W4) ?_)) (λazn afv=>?_);refine bE aG G G G G G afv bY (λv7 Cw=>?_);obtain rfl:=fp Cw;refine ab rfl rfl (ie (places:=[(0,1),(1,1)]) cw mT B78 rfl ⟨_,_,rfl,rfl,_,_,rfl,rfl,rfl⟩ (out:=[_,_]) ⟨0,[_],rfl,rfl,by simp[Value.cells],1,[_],rfl,rfl,by simp[Value.cells],rfl⟩ (ab rfl rfl ?_));refine CB (first:=[]) (captured:=cap) (xs:=[.tmp 28,.tmp 29]) G G G hT.enters (hT.tell _ _ _ (x.1,y) k hJ hM qb.1 Ja k3 (by rw[aY,aU,qp];omega)) (λr7 w7 hc=>?_);obtain⟨M7,hM7,hJ7,s7⟩:=hc;refine ad (aH (bG G G G k3 (ab G G (ad ?_))));refine⟨G,k+1,ap1,?_,?_⟩
     ·exact⟨M7,hM7,S.trans s7 (λb hb h=>⟨h.1,(S.mem b hb).1 h.2⟩),kh.le s7.le,xx.le q0 s7.le,hws.le s7.le,by rw[bB,QV OT,bU,<-eR];exact hJ7,by omega⟩
     ·omega
    ·refine cO (aH (bG G G G k3 (ab G G (ad ?_))));refine⟨G,i+1,Y7,?_,?_⟩
     ·exact⟨_,hM,S,kh,by rw[wH Us];have e:(jv x).take k=jv x:=aL (by rw[qp];omega);rw[e]at hJ;exact hJ,by omega,by rw[wH Us,aY,qp];omega⟩
     ·omega
  ·refine cO ?_
   first|refine uN ?_|simp+decide only[tn,lf,if_true,if_false]|skip
   have e:d.2.take i=d.2:=aL k3;rw[e]at hJ;exact iw G ⟨_,hM,hJ,S⟩
theorem JI {M:aJ} {w:World} {t:Fd} (h1:t.1.length<=140737488355328) (h2:t.2.length<=140737488355328):RT.fd.V M w t (kv t):=fE (j8.2 ⟨rfl,h1⟩) (j8.2 ⟨rfl,h2⟩) rfl rfl rfl rfl
def WJ (b B:Nat) (ts:List (Fd×Nat)) (M:aJ) (w:World):Prop:=w.heap[b]? =some (.cells #[.int .i64 (ts.length:Int)] 3 (0,0))/\M b/\B<=b
theorem EL {M:aJ} {b B:Nat} {ts:List (Fd×Nat)} {t:Fd} {i:Nat} (w0:World) (hM:Lt M w0) (h1:t.1.length<=900000) (h2:t.2.length<=140737488355328) (I1:ts.length<=10000000) (hJ:WJ b B ts M w0):
  Spec Tryz.prog 139 #[kv t,.int .i64 (i:Int),.pointer (some ⟨b,0,none⟩)] w0 (λv w=>∃M',Lt M' w/\WJ b B (ts++[(t,i)]) M' w/\Step M w0 M' w (nJ M B)):=by
 obtain⟨gb,ff,hB⟩:=hJ;refine bF (args:=[_,_,_]) (fn:=Tryz.f139) Tryz.func139 G (n:=7) Tryz.ntmps139 ?_;have S:Step M w0 M w0 (nJ M B):=(bz).eL a42 (λ_ h=>h.2);refine T.aQ ?_;refine kB (A:=RT.fd) G G hM (JI k3 h2) G (λu0 w1 dT s0 _=>?_);have:=ae gb;replace ff:=(s0.mem _ this).2 ff;replace gb:=s0.aP gb;replace hM:=s0.lt hM;have:=S.size;replace S:=S.aw s0;refine ad (aH (aV aq G G G W4 G (bG G G G k3 ?_)));refine cF (M:=M) I3 G G gb G (G) ff (λVn jM sL=>?_);change Vn.heap[_]? =some (Obj.cells #[.int .i64 ((ts.length:Int)+1)] _ _)at jM;have:=ae gb;replace ff:=(sL.mem _ this).2 ff;replace hM:=sL.lt hM;have:=S.size;replace S:=S.trans sL (λk hk h=>by have h:_=_:=h;subst h;first|(exfalso;omega)|(show _<=_;omega)|exact⟨by first|omega|assumption,(S.mem _ hk).1 ((sL.mem _ (ae gb)).1 ff)⟩|exact .inl rfl|exact .inr rfl|exact .inr (.inl rfl)|exact .inr (.inr rfl)|exact .inr (.inr (.inl rfl))|exact rfl);have QW:=jM;clear gb;have gb:=QW;clear QW;refine ad ?_
 first|refine uN ?_|simp+decide only[tn,lf,if_true,if_false]|skip
 exact iw rfl ⟨_,hM,⟨by rw[aY];exact gb,ff,hB⟩,S⟩
theorem GY {b B:Nat}:aam Tryz.prog 139 [.pointer (some ⟨b,0,none⟩)] B (WJ b B):=
 ⟨alN,λts M w M' w' ⟨h1,h2,h3⟩ s=>⟨s.aP h1,(s.mem _ (ae h1)).2 h2,h3⟩,λts M w t i hJ hM h1 h2 _ h4=>EL w hM h1 h2 h4 hJ⟩
theorem GZ {M:aJ} {d:Dc} {v0:Value} (w0:World) (hM:Lt M w0) (hv:RT.dc.V M w0 d v0) (hl:∀f∈d.2,f.1.length<=900000/\f.2.length<=900000) (hd8:d.2.length<=8):
  Spec Tryz.prog 89 #[v0] w0 (λv w=>v= .int .i64 ((cD d.2).length:Int)/\Step M w0 M w aA):=by
 refine bF (args:=[_]) (fn:=Tryz.f89) Tryz.func89 G (n:=8) Tryz.ntmps89 ?_;have S:Step M w0 M w0 aA:=bz;refine T.aQ ?_;refine kB (A:=RT.dc) G G hM hv G (λu0 w1 dT s0 _=>?_);replace hM:=s0.lt hM;have:=S.size;replace S:=S.aw s0;refine Rg.bA G G (T.aQ ?_);refine eA M I3 G (λeW zZ Qk Ql kn lz=>?_);obtain⟨lR,kJ⟩:∃M',M'=ins M eW:=⟨_,rfl⟩;rw[<-kJ]at lz;have iP:lR eW:=by rw[kJ];exact .inl G
 change zZ.heap[eW]? =some (.cells #[.int .i64 0] _ _)at kn;replace dT:=dT.le q0 lz.le;replace hM:=lz.lt hM;have:=S.size;replace S:=S.aw lz;refine cF (M:=lR) I3 G G kn G (G) iP (λaan CW Ac=>?_);change aan.heap[_]? =some (Obj.cells #[.int .i64 0] _ _)at CW;have:=ae kn;replace iP:=(Ac.mem _ this).2 iP;replace dT:=dT.le q0 Ac.le;replace hM:=Ac.lt hM;have:=S.size;replace S:=S.trans Ac (λk hk h=>by have h:_=_:=h;subst h;first|(exfalso;omega)|(show _<=_;omega)|exact⟨by first|omega|assumption,(S.mem _ hk).1 ((Ac.mem _ (ae kn)).1 iP)⟩|exact .inl rfl|exact .inr rfl|exact .inr (.inl rfl)|exact .inr (.inr rfl)|exact .inr (.inr (.inl rfl))|exact rfl);have XO:=CW;clear kn;have kn:=XO;clear XO;refine ad (T.aQ ?_);refine cW (A:=RT.dc) bg G nY q0 G G G dT bY (λv2 yz=>?_);refine l2 (xs:=[]) (ys:=[.tmp 3]) G G G ?_;refine a8 G G aeA (DG (cap:=[.pointer (some ⟨eW,0,none⟩)]) (B:=w0.heap.size) _ hM yz hl hd8 GY ⟨kn,iP,by omega⟩) (λr2 w2 hc=>?_);obtain⟨M2,IK,⟨g2,_,_⟩,s2⟩:=hc;replace S:=S.ot s2 (aN _);refine ad (T.aQ (aV aq G G G g2 G (Rg.bA G G (aT ?_))));exact aX G G ⟨G,S.back⟩
section
variable {P:Program} {r:Option Nat} {n:Nat} {L:Sl} {ds:List Deferred} {w:World} {K:Kt} {ops:Array Oper} {rest:List Oper} {d:Nat} {x y z:Operand} {ty:TypeId} {pos:String} {af:Array Edge}
variable {kt:TypeId} {M:aJ} {b mb clock:Nat} {es:List MapEntry} {sn:Array Nat}
theorem Rg.rangeMap {t e:TypeId} (M:aJ) (ht:P.underlying t=some (.map kt e)) (hx:ev L x=some (.map (some mb))) (hd:Nat.blt d n=true) (h:hU P kt w mb es clock)
  (k:∀b w',w.heap.size<=b->b<w'.heap.size->w'.heap[b]? =some (.mapIter (some mb) clock #[] clock)->Step M w (ins M b) w' aA->Rg P r n ops rest ((d,.pointer (some ⟨b,0,none⟩))::L) ds w' K):
  Rg P r n ops ({dst:=some d,op:= .range t x,type:=ty,pos,after:=af,guard:=none}::rest) L ds w K:=by
 refine .op a04 G G hd (.pointer (some ⟨w.heap.size,0,none⟩)) (w.alloc (.mapIter (some mb) clock #[] clock)) (λρ hρ=>?_) (k w.heap.size _ (aN _) (by simp) (de w _) ((dK M w _).own (aN _) (by simp)));simp only[execOp,hρ x _ hx];simp[Instr.range,cA,run_underlying ht,eI h.at_,newObj,Sem.run]
theorem si {sb:Option Nat} {s c:Nat} (hb:w.heap[b]? =some (.mapIter sb s sn c)):(getObj b).run P w= .ok (.mapIter sb s sn c) w:=by simp[getObj,Sem.run,hb]
theorem JJ (h:hU P kt w mb es clock) (seen:Array Nat):(!seen.isEmpty&& !es.toArray.isEmpty&&es.toArray.all (λx=>decide (x.born>=clock)))=false:=by
 cases es with
 |nil=>simp
 |cons e l=>
  have:=h.lt e (by simp);simp only[Bool.and_eq_false_iff];right;rw[dO];intro h2;rw[Array.all_eq_true_iff_forall_mem]at h2;have:=h2 e (by simp);simp at this;omega
theorem G0 (k:Nat) (hk:0<k):∃j w1,j<k/\(∀M,Step M w M w1 aA)/\w1.heap=w.heap/\(choose (Question.mapNext k)).run P w= .ok j w1:=by
 by_cases hf:k<=1
 ·exact⟨0,w,hk,λM=>Step.refl M w,rfl,by simp[choose,Sem.run,Question.forced,hf]⟩
 ·exact⟨_,w.drew,Nat.mod_lt _ hk,λM=>nU M w,G,by
   simp only[choose,Sem.run,Question.forced,decide_eq_true_eq,hf,if_false,Question.cut];rfl⟩
theorem QX (h:hU P kt w mb es clock) (hb:w.heap[b]? =some (.mapIter (some mb) clock sn clock)) (hm:M b):
  ((∀e∈es,e.born∈sn)/\(Instr.next (.pointer (some ⟨b,0,none⟩)) false ty).run P w= .ok (.tuple #[.bool false]) w)\/
  ∃e w',e∈es/\e.born∉sn/\w'.heap[b]? =some (.mapIter (some mb) clock (sn.push e.born) clock)/\Step M w M w' (λk=>k=b)/\(Instr.next (.pointer (some ⟨b,0,none⟩)) false ty).run P w= .ok (.tuple #[.bool true,e.key,e.val]) w':=by
 have eK:=ae hb;simp only[Instr.next,cA,si hb,dd,eI h.at_,JJ h sn,Bool.false_eq_true,if_false];have hL:∀e∈es.toArray.filter (λe=> !sn.contains e.born),e.born<clock:=λe he=>h.lt e (by simpa using(Array.mem_filter.1 he).1)
 have k4:∀e,e∈es.toArray.filter (λe=> !sn.contains e.born)↔e∈es/\e.born∉sn:=λe=>by simp[Array.mem_filter]
 generalize es.toArray.filter (λe=> !sn.contains e.born)=Lf at hL k4 ⊢;have e1:Lf.filter (λx=>decide (x.born<clock))=Lf:=Array.filter_eq_self.2 λx hx=>by simpa using hL x hx
 have e2:Lf.filter (λx=>decide (x.born>=clock))= #[]:=by
  rw[Array.filter_eq_empty_iff];intro x hx;have:=hL x hx;simp;omega
 simp only[e1,e2,Array.append_empty];by_cases h0:Lf.size=0
 ·left;have qU:Lf= #[]:=Array.eq_empty_of_size_eq_zero h0;subst qU;refine⟨λe he=>?_,by simp[choose,Sem.run,Question.forced]⟩;by_cases hs:e.born∈sn
  ·exact hs
  ·exact absurd ((k4 e).2 ⟨he,hs⟩) (by simp)
 ·right;have fG:Lf.isEmpty=false:=by simp[Array.isEmpty,h0]
  simp only[fG,Bool.false_eq_true,if_false,Array.empty_append,Array.size_map];obtain⟨j,w1,hj,hs1,hh1,jf⟩:=G0 (P:=P) (w:=w) Lf.size k3;have Ey:w1.heap[b]? =some (.mapIter (some mb) clock sn clock):=by rw[hh1];exact hb
  have fO:=(k4 Lf[j]).1 (by simp);refine⟨Lf[j],{w1 with heap:=w1.heap.setIfInBounds b (.mapIter (some mb) clock (sn.push Lf[j].born) clock)},fO.1,fO.2,by simp[ei,hh1,eK],?_,?_⟩
  ·exact((hs1 M).eL a42 (λk hk=>by subst hk;exact hm)).trans (kI M hm) (λ_ _ h=>h)
  ·simp only[jf,dd,Array.getElem?_map,Array.getElem?_eq_getElem hj,dA,cA];simp[setObj,Sem.run,Ey]
theorem Rg.Vo (hx:ev L x=some (.pointer (some ⟨b,0,none⟩))) (hb:w.heap[b]? =some (.mapIter (some mb) clock sn clock)) (hm:M b) (h:hU P kt w mb es clock) (hd:Nat.blt d n=true)
  (k1:∀e w',e∈es->e.born∉sn->w'.heap[b]? =some (.mapIter (some mb) clock (sn.push e.born) clock)->Step M w M w' (λk=>k=b)->Rg P r n ops rest ((d,.tuple #[.bool true,e.key,e.val])::L) ds w' K)
  (k2:(∀e∈es,e.born∈sn)->Rg P r n ops rest ((d,.tuple #[.bool false])::L) ds w K):
  Rg P r n ops ({dst:=some d,op:= .next x false,type:=ty,pos,after:=af,guard:=none}::rest) L ds w K:=by
 rcases QX (ty:=ty) h hb hm with⟨h1,h2⟩|⟨e,w',h1,h2,h3,h4,h5⟩
 ·refine .op a04 G G hd _ w (λρ hρ=>?_) (k2 h1);simp only[execOp,hρ x _ hx];simp[h2]
 ·refine .op a04 G G hd _ w' (λρ hρ=>?_) (k1 e w' h1 h2 h3 h4);simp only[execOp,hρ x _ hx];simp[h5]
theorem Rg.entry {e:MapEntry} {sn':Array Nat} (hx:ev L x=some (.pointer (some ⟨b,0,none⟩))) (hb:w.heap[b]? =some (.mapIter (some mb) clock (sn'.push e.born) clock)) (h:hU P kt w mb es clock) (he:e∈es) (hd:Nat.blt d n=true)
  (k:Rg P r n ops rest ((d,.tuple #[e.key,e.val])::L) ds w K):
  Rg P r n ops ({dst:=some d,op:= .entry x,type:=ty,pos,after:=af,guard:=none}::rest) L ds w K:=by
 have hf:es.find? (λx=>x.born==e.born)=some e:=by
  rw[List.find?_eq_some_iff_getElem];obtain⟨i,hi⟩:=bQ.1 he;obtain⟨h1,h2⟩:=aj.1 hi;refine ⟨by simp,i,h1,h2,λj hj=> ?_⟩;have zi:j<es.length:=by omega
  have:=λq=>h.GW (al zi) hi q
  simp only[kb,beq_eq_false_iff_ne,ne_eq];intro q;have:=this q;omega
 refine .op a04 G G hd _ w (λρ hρ=>?_) k;simp only[execOp,hρ x _ hx,Instr.entry,cA,si hb,dd,eI h.at_];simp[hf,cA,eI h.at_]
end
theorem filter_lt {α:Type} {p q:α->Bool} {a:α}:∀{l:List α},(∀x∈l,q x=true->p x=true)->a∈l->p a=true->q a=false->(l.filter q).length<(l.filter p).length
 |[],_,ha,_,_=>by cases ha
 |x::l,h,ha,hp,hq=>by
  have hle:(l.filter q).length<=(l.filter p).length:=by
   rw[<-List.countP_eq_length_filter,<-List.countP_eq_length_filter];exact List.countP_mono_left λy hy=>h y (cI _ hy)
  rcases cR.1 ha with rfl|ha
  ·rw[uB hp,List.filter_cons_of_neg (by simp[hq])];simp;omega
  ·have:=filter_lt (λy hy=>h y (cI _ hy)) ha hp hq;by_cases hx:q x=true
   ·rw[uB hx,uB (h x (bZ ..) hx)];simp;omega
   ·rw[List.filter_cons_of_neg hx];by_cases hx2:p x=true
    ·rw[uB hx2];simp;omega
    ·rw[List.filter_cons_of_neg hx2];omega
theorem hU.aao {P:Program} {kt:TypeId} {w:World} {b clock:Nat} {es:List MapEntry} (h:hU P kt w b es clock) {x y:MapEntry} (hx:x∈es) (hy:y∈es) (hk:x.key=y.key):x=y:=by
 obtain⟨i,hi⟩:=bQ.1 hx;obtain⟨j,hj⟩:=bQ.1 hy;rcases fJ i j with kS|rfl|kS
 ·exact absurd hk (jP h.keys hi hj kS)
 ·exact ar (hi.symm.trans hj)
 ·exact absurd hk.symm (jP h.keys hj hi kS)
theorem hU.Vp {P:Program} {kt:TypeId} {w:World} {b clock:Nat} {es:List MapEntry} (h:hU P kt w b es clock) {x y:MapEntry} (hx:x∈es) (hy:y∈es) (hk:x.born=y.born):x=y:=by
 obtain⟨i,hi⟩:=bQ.1 hx;obtain⟨j,hj⟩:=bQ.1 hy;rcases fJ i j with kS|rfl|kS
 ·exact absurd hk (jP h.born hi hj kS)
 ·exact ar (hi.symm.trans hj)
 ·exact absurd hk.symm (jP h.born hj hi kS)
def JK (w:World) (k:Nat):Prop:=∃m s sn c,w.heap[k]? =some (.mapIter m s sn c)
def LS (es:List MapEntry):Prop:=∀e∈es,∃t:Fd,e.key=kv t/\t.1.length<=140737488355328/\t.2.length<=140737488355328
theorem JL {yl bs mb clock:Nat} {es:List MapEntry} {J:List Fd->World->Prop} (w0:World) (hk:LS es) (hJs:∀ts w w' N,J ts w->Step allM w allM w' N->(∀k,k<w.heap.size->N k->w0.heap.size<=k/\JK w k)->J ts w') (hJb:∀ts w,J ts w->w.heap[bs]? =some (.cells #[.map (some mb)] 217 (0,0))/\hU Tryz.prog 78 w mb es clock) (hy:∀ts w (t:Fd),J ts w->(∃e∈es,e.key=kv t)->t∉ts->ts.length<es.length->zn Tryz.prog yl [kv t].toArray w (λr w'=>r= .bool true/\J (ts++[t]) w'∧∃N,Step allM w allM w' N/\∀k,N k->¬JK w k)) (h0:J [] w0):
  Spec Tryz.prog 188 #[.func (.yield yl) #[] #[],.pointer (some ⟨bs,0,none⟩)] w0 (λv w=>∃ts,J ts w/\ts.Nodup/\∀t,t∈ts↔∃e∈es,e.key=kv t):=by
 obtain⟨gb,hW⟩:=hJb _ _ h0;have hJ:=h0;clear h0;refine bF (args:=[_,_]) (fn:=Tryz.f188) Tryz.func188 G (n:=14) Tryz.ntmps188 ?_;have S:Step allM w0 allM w0 allM:=(bz).eL a42 (λ_ _=>trivial);refine T.aQ (aV og G G G W4 G ?_);refine Rg.rangeMap allM og G G hW (λbi w1 Ey Lu gi s1=>?_);replace s1:=s1.all;have:=ae gb;replace gb:=s1.aP gb;replace hJ:=hJs _ _ _ _ hJ s1 (λ_ _ h=>h.elim);have:=S.size;replace S:=S.aw s1;refine ad (aS ?_);refine dg (σ:=List Fd×Array Nat) (λs=>[(0,.func (.yield yl) #[] #[]),(1,.pointer (some ⟨bs,0,none⟩)),(5,.pointer (some ⟨bi,0,none⟩))]) (λs w=>J s.1 w/\Step allM w0 allM w allM/\w.heap[bi]? =some (.mapIter (some mb) clock s.2 clock)/\s.1.Nodup/\(∀e∈es,e.born∈s.2↔∃t∈s.1,e.key=kv t)/\(∀t∈s.1,∃e∈es,e.key=kv t)) (λs=>(es.filter λe=>decide (e.born∉s.2)).length) ([],#[]) a06 ?_ ?_
 ·exact⟨hJ,S,gi,List.nodup_nil,λe _=>by simp,λt h=>by cases h⟩
 ·rintro⟨ts,sn⟩ w ⟨hJ,S,gi,qL,hsn,k4⟩;dsimp only at hJ gi qL hsn k4 ⊢;obtain⟨gb,hW⟩:=hJb _ _ hJ;refine T.aQ ?_;refine Rg.Vo (M:=allM) G gi trivial hW G (λaap zZ xy XP kn lz=>?_) (λane=>?_)
  ·have gi0:=gi;replace gb:=lz.keep gb a05;replace hJ:=hJs _ _ _ _ hJ lz (λk hk h=>by have h:k=bi:=h;subst h;exact⟨Ey,_,_,_,_,gi0⟩);have:=S.size;replace S:=S.trans lz (λk hk h=>by have h:_=_:=h;subst h;first|(exfalso;omega)|(show _<=_;omega)|exact .inl rfl|exact .inr rfl|exact .inr (.inl rfl)|exact .inr (.inr rfl)|exact .inr (.inr (.inl rfl))|exact rfl);have gi_:=kn;clear gi;have gi:=gi_;clear gi_;refine cq G G G (ad (aI (kT G (aR (aS (T.aQ (Rg.entry G gi (hJb _ _ hJ).2 xy G ?_)))))));obtain⟨t,Vq,LU,Bj⟩:=hk _ xy;have OQ:t∉ts:=λh=>XP ((hsn _ xy).2 ⟨t,h,Vq⟩)
   have eK:ts.length<es.length:=by
    have h1:((t::ts).map kv).Nodup:=dr.2 ((AD.2 ⟨OQ,qL⟩).imp λh e=>h (yD e))
    have h2:=h1.length_le_of_subset (l₂:=es.map (·.key)) (λx hx=>by
     obtain⟨u,hu,rfl⟩:=ck.1 hx;rcases cR.1 hu with rfl|hu
     ·rw[<-Vq];exact gU xy
     ·obtain⟨e,he,h⟩:=k4 u hu;rw[<-h];exact gU he)
    simp at h2;omega
   rw[Vq];refine cq G G G ?_;refine vS (A:=RT.fd) (M:=aA) mT G G G G G (JI LU Bj) bY (Lt.none _) (λu2 w2 mu s2 z2=>?_);replace s2:=s2.all;have:=ae gb;replace gb:=s2.aP gb;have:=ae gi;replace gi:=s2.aP gi;replace hJ:=hJs _ _ _ _ hJ s2 (λ_ _ h=>h.elim);have:=S.size;replace S:=S.aw s2
   skip
   refine ad (T.aQ (ab G G ?_));refine cW (A:=RT.fd) cw G mT q0 G G G mu bY (λv3 yE=>?_);obtain rfl:=mF yE;refine Rg.yield (vs:=[kv t]) G G G (hy _ _ t hJ ⟨_,xy,Vq⟩ OQ eK) (λr3 w3 hc=>?_);obtain⟨rfl,hJ3,N3,s3,hN3⟩:=hc;clear kn;replace gi:=s3.keep gi (λh=>hN3 _ h ⟨_,_,_,_,gi⟩);replace hJ:=hJ3;clear hJ3;obtain⟨gb,-⟩:=hJb _ _ hJ;replace S:=S.trans s3 (λ_ _ _=>trivial);refine kU G G (bc (v':= .bool false) G (ad (jD G (aR ?_))));refine⟨G,(ts++[t],sn.push aap.born),a06,?_,?_⟩
   ·have vY:∀e∈es,e.born=aap.born↔e.key=kv t:=λe he=>by
     constructor
     ·intro h;rw[hU.Vp hW he xy h,Vq]
     ·intro h;rw[hU.aao hW he xy (h.trans Vq.symm)]
    refine⟨hJ,S,gi,List.nodup_append.2 ⟨qL,by simp,λa ha b hb h=>by simp at hb;subst hb;subst h;exact OQ ha⟩,λe he=>?_,λu hu=>?_⟩
    ·rw[Array.mem_push,hsn e he,vY e he];constructor
     ·rintro(⟨u,h1,h2⟩|h)
      ·exact⟨u,iH _ h1,h2⟩
      ·exact⟨t,by simp,h⟩
     ·rintro⟨u,h1,h2⟩;rcases cP.1 h1 with h1|h1
      ·exact .inl ⟨u,h1,h2⟩
      ·simp at h1;subst h1;exact .inr h2
    ·rcases cP.1 hu with hu|hu
     ·exact k4 u hu
     ·simp at hu;subst hu;exact⟨_,xy,Vq⟩
   ·exact filter_lt (a:=aap) (λe _ h=>by simp only[decide_eq_true_eq,Array.mem_push,not_or]at h ⊢;exact h.1) xy (by simpa using XP) (by simp)
  ·refine cq G G G (ad (aI (jD G (cO ?_))))
   first|refine uN ?_|simp+decide only[tn,lf,if_true,if_false]|skip
   exact iw rfl ⟨ts,hJ,qL,λt=>⟨k4 t,fun⟨e,he,Vq⟩=>by obtain⟨t',h1,h2⟩:=(hsn e he).1 (ane e he);rw[<-yD (h2.symm.trans Vq)];exact h1⟩⟩
theorem eX.any {α:Type} {A:RT α} (hA:∀M w M' w' x vs,A.R M w x vs->A.R M' w' x vs) {M M':aJ} {w w':World}:∀{xs:List α} {C:List Value},eX A M w xs C->eX A M' w' xs C
 |[],_,h=>h
 |x::xs,C,h=>by
  obtain⟨vs,r,h1,h2,h3⟩:=h;exact⟨vs,r,h1,hA _ _ _ _ _ _ h2,eX.any hA h3⟩
theorem EM (M:aJ) (w:World) (M':aJ) (w':World) (x:Fd) (vs:List Value) (h:RT.fd.R M w x vs):RT.fd.R M' w' x vs:=h
theorem Own.LV {α:Type} {A:RT α} (hA:∀M w M' w' x vs,A.R M w x vs->A.R M' w' x vs) {e:TypeId} {M N:aJ} {w w':World} {base:Nat} {v:Value} {xs:List α} (h:Own A e M w base v xs) (s:Step allM w allM w' N) (hn:∀b,v.ownBlock=some b->¬N b):Own A e (o9 v) w' base v xs:=by
 obtain⟨⟨C,h1,h2⟩,_⟩:=h;refine⟨⟨C,⟨h1.1,?_⟩,eX.any hA h2⟩,λ_ h=>h⟩;rcases h1.2 with h3|⟨g,cap,cur,h3,h4,h5,h6,h7,h8⟩
 ·exact .inl h3
 ·exact .inr ⟨g,cap,cur,h3,h4,by rw[s.same g (ae h5) (hn g (by rw[h3];rfl))];exact h5,h6,h7,h8⟩
theorem Own.isCells {α:Type} {A:RT α} {e:TypeId} {M:aJ} {w:World} {base b:Nat} {v:Value} {xs:List α} (h:Own A e M w base v xs) (hb:v.ownBlock=some b):∃cs,w.heap[b]? =some (.cells cs e (0,0)):=by
 obtain⟨⟨C,h1,_⟩,_⟩:=h;rcases h1.2 with h3|⟨g,cap,cur,h3,h4,h5,_⟩
 ·rw[h3.1]at hb;cases hb
 ·rw[h3]at hb;cases hb;exact⟨_,h5⟩
structure Aq (w0:World) (bt D:Nat) (st:Loop) (v:Value) (ts:List Fd) (w:World):Prop where
 S:Step allM w0 allM w aA
 c:w.heap[bt]? =some (.cells #[v] 155 (0,0))
 o:Own RT.fd 78 (o9 v) w w0.heap.size v ts
 d:w.heap[D]? =some (.deferred (some []))
 r:w.heap[D+1]? =some (.loop st)
 hb:w0.heap.size<=bt
 hD:w0.heap.size<=D
theorem Aq.step {w0 w w':World} {bt D:Nat} {st:Loop} {v:Value} {ts:List Fd} {N:aJ} (h:Aq w0 bt D st v ts w) (s:Step allM w allM w' N) (hN:∀k,k<w.heap.size->N k->w0.heap.size<=k/\JK w k):Aq w0 bt D st v ts w':=by
 have no:∀{k o},w.heap[k]? =some o->(∀m s sn c,o≠ .mapIter m s sn c)->¬N k:=λhk ho hn=>by
  obtain⟨_,m,s,sn,c,h'⟩:=hN _ (ae hk) hn;rw[hk]at h';exact ho m s sn c (ar h')
 refine⟨h.S.trans s (λk hk hn=>?_),s.keep h.c (no h.c (by intros;simp)),h.o.LV EM s (λb hb=>?_),s.keep h.d (no h.d (by intros;simp)),s.keep h.r (no h.r (by intros;simp)),h.hb,h.hD⟩
 ·have:=(hN k (k9 hk h.S.size) hn).1;omega
 ·obtain⟨cs,hc⟩:=h.o.isCells hb;exact no hc (by intros;simp)
theorem Aq.oP {w0 w:World} {bt D:Nat} {st st':Loop} {v:Value} {ts:List Fd} (h:Aq w0 bt D st v ts w):Aq w0 bt D st' v ts (w.putObj (D+1) (.loop st')):=by
 have s:Step allM w allM (w.putObj (D+1) (.loop st')) (λk=>k=D+1):=eO trivial;have hD:=h.hD;refine⟨h.S.trans s (λk hk hn=>by have hn:k=D+1:=hn;omega),s.keep h.c (λhn=>by have hn:bt=D+1:=hn;have h1:=h.c;rw[hn,h.r]at h1;cases h1),h.o.LV EM s (λb hb hn=>?_),s.keep h.d (λhn=>by have hn:D=D+1:=hn;omega),by have:=ae h.r;simp[World.putObj,ei,this],h.hb,h.hD⟩;have hn:b=D+1:=hn;obtain⟨cs,hc⟩:=h.o.isCells hb;rw[hn,h.r]at hc;cases hc
theorem G1 {bs mb clock:Nat} {es:List MapEntry} (w0:World) (hk:LS es) (hes:es.length<=100000000) (gbs:w0.heap[bs]? =some (.cells #[.map (some mb)] 217 (0,0))) (hW:hU Tryz.prog 78 w0 mb es clock):
  Spec Tryz.prog 237 #[.slice none 0 0,.func (.func 188) #[] [.pointer (some ⟨bs,0,none⟩)].toArray] w0 (λv w=>∃ts:List Fd,ts.Nodup/\(∀t,t∈ts↔∃e∈es,e.key=kv t)/\Own RT.fd 78 (o9 v) w w0.heap.size v ts/\Step allM w0 allM w aA):=by
 refine qf (args:=[_,_]) (fn:=Tryz.f237) Tryz.func237 G (n:=13) Tryz.ntmps237 (T.aQ ?_);refine zO allM G G (λbt w1 Ey azs gt s1=>?_);change w1.heap[bt]? =some (.cells #[.slice none 0 0] 155 (0,0))at gt;replace s1:=s1.all;refine Rg.bA G G (aI (T.aQ (ab G G (ad (aS ?_)))));refine T.range (gf:=188) (lb:=[.pointer (some ⟨bs,0,none⟩)].toArray) G alT (λrec pI=>?_);obtain⟨D,hD⟩:∃D,D=w1.heap.size:=⟨_,rfl⟩;have sA:Step allM w1 allM ((w1.alloc (.deferred (some []))).alloc (.loop (rec .ready none))) aA:=(dK _ _ _).aw (dK _ _ _)
 have h0:Aq w0 bt D (rec .ready none) (.slice none 0 0) [] ((w1.alloc (.deferred (some []))).alloc (.loop (rec .ready none))):=by
  refine⟨s1.aw sA,sA.aP gt,dh _ _ _ _ _,?_,?_,Ey,by rw[hD];exact s1.size⟩
  ·rw[hD];exact(dK allM (w1.alloc _) _).aP (de w1 _)
  ·rw[hD];have:=de (w1.alloc (.deferred (some []))) (.loop (rec .ready none));rwa [CD]at this
 rw[<-hD]at pI ⊢;have hz:=h0.S.size;refine Spec.mono (JL (J:=λts w=>∃v,Aq w0 bt D (rec .ready none) v ts w) _ hk (λts w w' N ⟨v,h⟩ s hN=>⟨v,h.step s (λk hk hn=>⟨eG hz (hN k hk hn).1,(hN k hk hn).2⟩)⟩) (λts w ⟨v,h⟩=>⟨h.S.aP gbs,hW.aE h.S⟩) (λts wr t hJ k4 OQ eK=>?_) ⟨_,h0⟩) (λ_ w3 h3=>?_)
 ·obtain⟨v,h⟩:=hJ;obtain⟨e,he,hke⟩:=k4;obtain⟨t',ang,LU,Bj⟩:=hk e he;obtain rfl:=yD (hke.symm.trans ang);have hzr:=ae h.r;refine nW (ps:=[7]) (vs:=[kv t]) pI h.r G q0 (aH ?_);refine vS (A:=RT.fd) (M:=λk=>k=D+1) mT G G G G G (JI LU Bj) bY (λk hk=>by have hk:k=D+1:=hk;omega) (λu2 w2 mu s2 z2=>?_);replace s2:=s2.all
  skip
  refine ad (⟨G,s2.aP h.r,?_⟩);have h4:=(h.step s2 (λ_ _ h=>h.elim)).oP (st':=rec .busy none);have s3':Step (λk=>k=D+1) w2 (λk=>k=D+1) (w2.putObj (D+1) (.loop (rec .busy none))) (λk=>k=D+1):=eO rfl;have s3:=s3'.all;have IH:=mu.le q0 s3'.le;clear s3';generalize w2.putObj (D+1) _=w4 at h4 s3 IH ⊢;refine aS (aH (aV cg G G G h4.c G ?_));refine cW (A:=RT.fd) cw G mT q0 G G G IH bY (λv3 yE=>?_);obtain rfl:=mF yE;refine dP (A:=RT.fd) (hn:=by decide) (M:=o9 v) cg mT q0 G G (λb hb=>(h4.o.base b hb).2) (JI LU Bj) (.inl G) (λu5 w5 Gv s5=>?_);refine cN (M:=o9 v) (base:=w0.heap.size) cg mT rfl rfl rfl rfl (h4.o.aE s5) Gv bY a03 a03 (eG h4.S.size s5.size) (λv6 M6 w6 th s6=>?_);have gc:=s6.all.keep (s5.all.aP h4.c) (λhn=>h4.o.eu h4.c q0 hn);refine cF (M:=allM) alA rfl rfl gc rfl ak2 trivial (λw7 gc7 s7=>?_);refine ad ?_
  have ani:∀k,o9 v k->¬JK wr k:=λk hk ⟨_,_,_,_,h9⟩=>by
   obtain⟨cs,hc⟩:=h.o.isCells hk;rw[hc]at h9;cases h9
  have pr:∀k,k<wr.heap.size->k=D+1->¬JK wr k:=λk _ hk ⟨_,_,_,_,h9⟩=>by subst hk;rw[h.r]at h9;cases h9
  have pc:∀k,k<wr.heap.size->k=bt->¬JK wr k:=λk _ hk ⟨_,_,_,_,h9⟩=>by subst hk;rw[h.c]at h9;cases h9
  have h7:Aq w0 bt D (rec .busy none) v6 (ts++[t]) w7:=by
   have nb:∀b,v6.ownBlock=some b->b≠bt:=λb hb hn=>by subst hn;exact th.eu gc q0 hb
   refine⟨?_,gc7,th.LV EM s7 nb,?_,?_,h.hb,h.hD⟩
   ·refine((h4.S.aw s5.all).trans s6.all (λk hk hn=>?_)).trans s7 (λk hk hn=>?_)
    ·have:=(h4.o.base k hn).1;omega
    ·have hn:k=bt:=hn;have:=h.hb;omega
   ·exact s7.keep (s6.all.keep (s5.all.aP h4.d) (λhn=>by obtain⟨cs,hc⟩:=h4.o.isCells hn;rw[h4.d]at hc;cases hc)) (λhn=>by have hn:D=bt:=hn;have h1:=h.c;rw[<-hn,h.d]at h1;cases h1)
   ·exact s7.keep (s6.all.keep (s5.all.aP h4.r) (λhn=>by obtain⟨cs,hc⟩:=h4.o.isCells hn;rw[h4.r]at hc;cases hc)) (λhn=>by have hn:D+1=bt:=hn;have h1:=h.c;rw[<-hn,h.r]at h1;cases h1)
  have s8:Step allM w7 allM (w7.putObj (D+1) (.loop (rec .ready none))) (λk=>k=D+1):=eO trivial;exact⟨h7.r,G,⟨v6,h7.oP⟩,λk=>¬JK wr k,(((((s2.eL a42 (λ_ _=>trivial)).trans s3 pr).aw s5.all).trans s6.all (λk _ hn=>ani k hn)).trans s7 pc).trans s8 pr,λ_ h=>h⟩
 ·obtain⟨ts,⟨v,h⟩,qL,k4⟩:=h3;left;refine ⟨h.r,?_⟩;have h5:=h.oP (st':=rec .exhausted none);generalize w3.putObj (D+1) _=wE at h5 ⊢;refine T.aQ (aV cg G G G h5.c G (Rg.bA G G (aT ?_)));have sE:Step allM wE allM (wE.putObj D (.deferred none)) (λk=>k=D):=eO trivial;have hDD:=h.hD;exact Er G G h5.d ⟨ts,qL,k4,h5.o.LV EM sE (λb hb hn=>by have hn:b=D:=hn;obtain⟨cs,hc⟩:=h5.o.isCells hb;rw[hn,h5.d]at hc;cases hc),h5.S.trans sE (λk hk hn=>by have hn:k=D:=hn;omega)⟩
theorem EN {bs mb clock:Nat} {es:List MapEntry} (w0:World) (hk:LS es) (hes:es.length<=100000000) (gbs:w0.heap[bs]? =some (.cells #[.map (some mb)] 217 (0,0))) (hW:hU Tryz.prog 78 w0 mb es clock):
  Spec Tryz.prog 186 #[.func (.func 188) #[] [.pointer (some ⟨bs,0,none⟩)].toArray] w0 (λv w=>∃ts:List Fd,ts.Nodup/\(∀t,t∈ts↔∃e∈es,e.key=kv t)/\Own RT.fd 78 (o9 v) w w0.heap.size v ts/\Step allM w0 allM w aA):=by
 refine bF (args:=[_]) (fn:=Tryz.f186) Tryz.func186 G (n:=5) Tryz.ntmps186 (T.aQ (Rg.bA G G (T.aQ (ab G G ?_))));refine a8 G G al4 (G1 _ hk hes gbs hW) (λr w1 hc=>?_);refine Rg.bA G G (aT ?_);exact aX G G hc
def fv (t:Fd):List UInt8:=t.1++[0]++t.2
theorem QY {M:aJ} {t:Fd} (w0:World) (hM:Lt M w0) (h1:t.1.length<=1000000) (h2:t.2.length<=1000000):
  Spec Tryz.prog 80 #[kv t] w0 (λv w=>v= .string ⟨(fv t).toArray⟩/\Step M w0 M w aA):=by
 refine bF (args:=[_]) (fn:=Tryz.f80) Tryz.func80 G (n:=9) Tryz.ntmps80 ?_;have S:Step M w0 M w0 aA:=bz;refine T.aQ ?_;refine kB (A:=RT.fd) G G hM (JI k3 k3) G (λu0 w1 dT s0 _=>?_);replace hM:=s0.lt hM;have:=S.size;replace S:=S.aw s0;refine Rg.bA G G (T.aQ ?_);refine aD (M:=M) (A:=RT.fd) (B:=RT.str) cw G G I9 q0 (Qr) G G q0 W4 (by repeat (first|exact bH _ _|refine aZ (bI W4) ?_)) (λCS nE=>?_);refine bE aG G G G G G nE bY (λv1 Cv=>?_);obtain rfl:=fp Cv;refine Rg.cat (p:=t.1) (q:=[0]) rfl rfl rfl a03 ?_;refine aD (M:=M) (A:=RT.fd) (B:=RT.str) cw G G I9 q0 (fd1) G G q0 W4 (by repeat (first|exact bH _ _|refine aZ (bI W4) ?_)) (λQf lQ=>?_);refine bE aG G G G G G lQ bY (λv4 qm=>?_);obtain rfl:=fp qm;refine Rg.cat (p:=t.1++[0]) (q:=t.2) rfl rfl rfl a03 (Rg.bA rfl rfl (aT ?_));exact aX G G ⟨G,S⟩
theorem uF {M:aJ} {t:Fd} (w0:World) (hM:Lt M w0) (h1:t.1.length<=1000000) (h2:t.2.length<=1000000):
  Spec Tryz.prog 120 #[kv t] w0 (λv w=>v= .string ⟨(fv t).toArray⟩/\Step M w0 M w aA):=by
 refine bF (args:=[_]) (fn:=Tryz.f120) Tryz.func120 G (n:=9) Tryz.ntmps120 ?_;have S:Step M w0 M w0 aA:=bz;refine T.aQ ?_;refine kB (A:=RT.fd) G G hM (JI k3 k3) G (λu0 w1 dT s0 _=>?_);replace hM:=s0.lt hM;have:=S.size;replace S:=S.aw s0;refine Rg.bA G G (T.aQ ?_);refine aD (M:=M) (A:=RT.fd) (B:=RT.str) cw G G I9 q0 (Qr) G G q0 W4 (by repeat (first|exact bH _ _|refine aZ (bI W4) ?_)) (λCS nE=>?_);refine bE aG G G G G G nE bY (λv1 Cv=>?_);obtain rfl:=fp Cv;refine Rg.cat (p:=t.1) (q:=[0]) rfl rfl rfl a03 ?_;refine aD (M:=M) (A:=RT.fd) (B:=RT.str) cw G G I9 q0 (fd1) G G q0 W4 (by repeat (first|exact bH _ _|refine aZ (bI W4) ?_)) (λQf lQ=>?_);refine bE aG G G G G G lQ bY (λv4 qm=>?_);obtain rfl:=fp qm;refine Rg.cat (p:=t.1++[0]) (q:=t.2) rfl rfl rfl a03 (Rg.bA rfl rfl (aT ?_));exact aX G G ⟨G,S⟩
theorem EO (a b:List UInt8) (w:World):Spec Tryz.prog 137 #[.string ⟨a.toArray⟩,.string ⟨b.toArray⟩] w (λv w'=>v= .int .i64 (Lib.compareBytes a b)/\w'=w):=(Any.strings_Compare Tryz.U3 ⟨a.toArray⟩ ⟨b.toArray⟩ w).mono λe w' ⟨h1,h2⟩=>⟨_,h1,rfl,h2⟩
section
variable {P:Program} {r:Option Nat} {n:Nat} {L:Sl} {ds:List Deferred} {w:World} {K:Kt} {ops:Array Oper} {rest:List Oper} {d:Nat} {x:Operand} {ty:TypeId} {pos:String} {af:Array Edge}
theorem jt.tE {id:Nat} {l:List Oper} (hm:P.follows .mixedOrders=true) (dX:fB l 0=true) (h:jt P r n l L ds (w.drewN 1) K):T P r n (.region id l.toArray true) L ds w K:=by
 refine ⟨λa ha=>wpIn_region_draw λt=> ?_⟩;simp only[Region.schedule,hm,Bool.true_or,if_true,Region.linearise];obtain⟨J,h1,h2,h3,h4⟩:=h a ha;refine qW (J:=J) dX (λ{D D' a w} hi hD=>h1 D D' a w hi hD) (λ{D a' w' j o rest} hj ho rU hp nr hi hk=>h2 _ _ _ _ _ _ _ hj ho rU hp nr hi hk) h3 _ t _ a _ (by simp) a83 (λi o h1 h2=>?_) (h1 _ _ _ _ h4 λi _=>?_)
 ·simp[Array.getElem?_replicate]at h2
 ·simp[Array.getElem?_replicate]
theorem T.aar {id:Nat} {l l':List Oper} (π:List Nat) (m:Nat) (fl:List Nat) (c:Nat) (N:aJ) (hm:P.follows .mixedOrders=true) (I6:zY π l=l') (vv:fB l 0=true) (hπ:nt π l.length=true) (tq:Nat.blt m l'.length=true) (dX:fB l' 0=true) (pH:l8 l' m=true) (Dq:nc l' m fl c=true)
  (h:jW P r n l'.toArray (l'.take m) L ds (w.drewN 1) (λL'=>(∀j o,j∈fl->l'[j]? =some o->bO P N (w.drewN 1) L' o)/\pY P r n l'.toArray N (w.drewN 1) K c (l'.drop m) L' ds (w.drewN 1))):T P r n (.region id l.toArray true) L ds w K:=by
 subst I6;exact jt.tE hm vv (.perm π hπ vv (AR m fl c N tq dX pH Dq h))
theorem Rg.QZ {e:TypeId} {v:Value} (hx:ev L x=some v) (hd:Nat.blt d n=true) (k:Rg P r n ops rest ((d,.pointer (some ⟨w.heap.size,0,none⟩))::L) ds (w.alloc (.cells v.cells e (0,0))) K):
  Rg P r n ops ({dst:=some d,op:= .box e x,type:=ty,pos,after:=af,guard:=none}::rest) L ds w K:=by
 refine .op a04 G G hd _ (w.alloc (.cells v.cells e (0,0))) (λρ hρ=>?_) k;simp only[execOp,hρ x _ hx];simp[Instr.box,newVar,newRow,newObj,Sem.run]
theorem Bx (w:World) (o:Obj):w.alloc o=Go.Sort.grow w #[o]:=by
 unfold World.alloc Go.Sort.grow;congr 1
theorem JM (w:World) (os:Array Obj) (q:Nat):(Go.Sort.grow w os).drewN q=Go.Sort.grow (w.drewN q) os:=rfl
end
abbrev iD (t:Fd):Obj:= .cells #[.string ⟨t.1.toArray⟩,.string ⟨t.2.toArray⟩] 78 (0,0)
theorem Q0 {t:Fd} (w0:World) (h1:t.1.length<=1000000) (h2:t.2.length<=1000000):
  Spec Tryz.prog 80 #[kv t] w0 (λv w=>v= .string ⟨(fv t).toArray⟩/\w=w0.alloc (iD t)):=by
 refine bF (args:=[_]) (fn:=Tryz.f80) Tryz.func80 G (n:=9) Tryz.ntmps80 (T.aQ (Rg.QZ G G ?_));have gb:=de w0 (iD t);change Rg _ _ _ _ _ _ _ (w0.alloc (iD t)) _;generalize hw:w0.alloc (iD t)=w1 at gb ⊢;refine Rg.bA G G (T.aQ (bR (o':=0) cw G G I9 q0 rfl rfl (aV aG rfl rfl rfl gb rfl (Rg.cat (p:=t.1) (q:=[0]) rfl rfl rfl a03 (bR (o':=1) cw rfl rfl I9 q0 rfl rfl (aV aG rfl rfl rfl gb rfl (Rg.cat (p:=t.1++[0]) (q:=t.2) rfl rfl rfl a03 (Rg.bA rfl rfl ?_))))))));refine aT ?_;exact aj9
theorem Vr {s t:Fd} (w0:World) (h1:s.1.length<=1000000) (h2:s.2.length<=1000000) (h3:t.1.length<=1000000) (h4:t.2.length<=1000000):
  Spec Tryz.prog 136 #[kv s,kv t] w0 (λv w=>v= .int .i64 (Lib.compareBytes (fv s) (fv t))/\w=((((w0.alloc (iD s)).alloc (iD t)).drewN 1).alloc (iD s)).alloc (iD t)):=by
 refine bF (args:=[_,_]) (fn:=Tryz.f136) Tryz.func136 G (n:=10) Tryz.ntmps136 (T.aQ (Rg.QZ G G ?_));change Rg _ _ _ _ _ _ _ (w0.alloc (iD s)) _;refine Rg.QZ G G ?_;change Rg _ _ _ _ _ _ _ ((w0.alloc (iD s)).alloc (iD t)) _;have g1:((w0.alloc (iD s)).alloc (iD t)).heap[w0.heap.size]? =some (iD s):=(dK aA _ _).aP (de w0 _);have g2:=de (w0.alloc (iD s)) (iD t);have kp:=fq aA (((w0.alloc (iD s)).alloc (iD t)).drewN 1);refine Rg.bA G G (aI ?_);apply T.aar [0,2,1,3,4,5] 2 [1] 1 aA mixed
 ·simp+decide only[zY,tx,fe,je,gV,gX,fg,dA,gI,lN,cond_true,cond_false,Nat.reduceBEq,Nat.reduceAdd,beq_self_eq_true];rfl
 ·rfl
 ·rfl
 ·rfl
 ·rfl
 ·rfl
 ·rfl
 have g1':(((w0.alloc (iD s)).alloc (iD t)).drewN 1).heap[w0.heap.size]? =some (iD s):=g1;have g2':(((w0.alloc (iD s)).alloc (iD t)).drewN 1).heap[(w0.alloc (iD s)).heap.size]? =some (iD t):=g2;refine gJ (vs:=[.string ⟨s.1.toArray⟩,.string ⟨s.2.toArray⟩]) cw G mT G G G g1' (Rg.bL (gJ (vs:=[.string ⟨t.1.toArray⟩,.string ⟨t.2.toArray⟩]) cw G mT G G G g2' (Rg.bL (dD (⟨eQ ⟨dQ G W4 a73,trivial⟩,?_⟩)))));replace kp:=kp.oA (dK aA (((w0.alloc (iD s)).alloc (iD t)).drewN 1) (iD s));refine a8 G G E80 (Q0 (t:=s) _ h1 h2) (λr5 w5 hc=>?_);obtain⟨rfl,rfl⟩:=hc;refine(fun(kp:eB _ _ _)=>ad ⟨G,G,λ_=>kp,?_⟩) a00;refine a8 G G E80 (Q0 (t:=t) _ h3 h4) (λr6 w6 hc=>?_);obtain⟨rfl,rfl⟩:=hc;refine ad ⟨G,G,λh=>absurd G h,?_⟩;refine a8 G G alL (EO _ _ _) (λr7 w7 hc=>?_);obtain⟨rfl,rfl⟩:=hc;refine ad ⟨G,G,λh=>absurd G h,aB G G (ad ⟨G,G,λh=>absurd G h,iu (aT ?_)⟩)⟩;exact aj9
end Go.K
namespace Go.K
open Go.Lib (compareBytes)
theorem qq (a b:UInt8) (x y:List UInt8):compareBytes (a::x) (b::y)=if a.toNat<b.toNat then-1 else if b.toNat<a.toNat then 1 else compareBytes x y:=by
 rw[compareBytes];simp only[UInt8.lt_iff_toNat_lt]
theorem By:∀a,compareBytes a a=0
 |[]=>rfl
 |a::x=>by rw[qq,if_neg (kQ _),if_neg (kQ _)];exact By x
theorem tO:∀{a b},compareBytes a b=0->a=b
 |[],[],_=>rfl
 |[],_::_,h=>by simp[compareBytes]at h
 |_::_,[],h=>by simp[compareBytes]at h
 |a::x,b::y,h=>by
  rw[qq]at h
  split at h
  ·omega
  ·split at h
   ·omega
   ·rw[tO h,UInt8.toNat_inj.1 (show a.toNat=b.toNat by omega)]
theorem rC:∀a b,compareBytes a b= -compareBytes b a
 |[],[]=>rfl
 |[],_::_=>rfl
 |_::_,[]=>rfl
 |a::x,b::y=>by
  rw[qq,qq,rC x y]
  split<;>split<;>first|omega|rfl
theorem uG:∀{a b c},compareBytes a b<0->compareBytes b c<0->compareBytes a c<0
 |[],[],_,h,_=>by simp[compareBytes]at h
 |_::_,[],_,h,_=>by simp[compareBytes]at h
 |_,_::_,[],_,h=>by simp[compareBytes]at h
 |[],_::_,_::_,_,_=>by simp[compareBytes]
 |a::x,b::y,c::z,h1,h2=>by
  rw[qq]at h1 h2 ⊢
  split at h1
  ·split at h2
   ·rw[if_pos k3];omega
   ·split at h2
    ·omega
    ·rw[if_pos k3];omega
  ·split at h1
   ·omega
   ·split at h2
    ·rw[if_pos k3];omega
    ·split at h2
     ·omega
     ·rw[if_neg k3,if_neg k3];exact uG h1 h2
theorem LW {α:Type} (f:α->List UInt8):Go.Sort.SWO (Go.Proofs.ltOf λx y=>compareBytes (f x) (f y)) where
 irrefl x:=by simp[Go.Proofs.ltOf,By]
 trans x y z h1 h2:=by
  simp only[Go.Proofs.ltOf,decide_eq_true_eq]at*
  exact uG h1 h2
 ntrans x y z h1 h2:=by
  simp only[Go.Proofs.ltOf,decide_eq_false_iff_not]at*
  intro h3;by_cases e1:compareBytes (f x) (f y)=0
  ·rw[tO e1]at h3;exact h2 h3
  ·by_cases e2:compareBytes (f y) (f z)=0
   ·rw[tO e2]at h1;exact h1 h3
   ·have n1:=rC (f x) (f y);have n2:=rC (f y) (f z);have n3:=rC (f x) (f z);have:compareBytes (f z) (f x)<0:=uG (b:=f y) k3 k3;omega
end Go.K
namespace Go.Proofs
open Go.Shelf
def Tryz.JN:Go.Shelf.Ren:=⟨fun|6=>187|15=>115|14=>238|28=>172|29=>173|20=>272|21=>273|22=>274|23=>275|24=>276|25=>277|26=>278|27=>279|46=>294|47=>218|48=>219|49=>295|50=>296|57=>303|n=>n,fun|22=>155|24=>78|25=>225|3=>3|39=>189|0=>0|53=>257|55=>190|4=>4|46=>251|45=>250|50=>202|5=>5|9=>9|66=>296|70=>300|76=>327|77=>328|n=>n,fun|n=>n⟩
theorem Tryz.Q1:Go.Proofs.SlLaysF0.n6 Tryz.prog Tryz.JN:={
 mixed:=by kernel_rfl
 f6:=⟨Tryz.f187.name,by decide,Tryz.func187.trans a02⟩
 f14:=⟨Tryz.f238.name,by decide,Tryz.func238.trans a02⟩
 f15:=Tryz.func115.trans a02
 f20:=⟨Tryz.f272.name,by decide,Tryz.func272.trans a02⟩
 f21:=⟨Tryz.f273.name,by decide,Tryz.func273.trans a02⟩
 f22:=⟨Tryz.f274.name,by decide,Tryz.func274.trans a02⟩
 f23:=⟨Tryz.f275.name,by decide,Tryz.func275.trans a02⟩
 f24:=⟨Tryz.f276.name,by decide,Tryz.func276.trans a02⟩
 f25:=⟨Tryz.f277.name,by decide,Tryz.func277.trans a02⟩
 f26:=⟨Tryz.f278.name,by decide,Tryz.func278.trans a02⟩
 f27:=⟨Tryz.f279.name,by decide,Tryz.func279.trans a02⟩
 f28:=Tryz.func172.trans a02
 f29:=Tryz.func173.trans a02
 f46:=⟨Tryz.f294.name,by decide,Tryz.func294.trans a02⟩
 f47:=Tryz.func218.trans a02
 f48:=Tryz.func219.trans a02
 f49:=⟨Tryz.f295.name,by decide,Tryz.func295.trans a02⟩
 f50:=⟨Tryz.f296.name,by decide,Tryz.func296.trans a02⟩
 f57:=⟨Tryz.f303.name,by decide,Tryz.func303.trans a02⟩
 t0:=ic
 a0:=nB
 z0:=lW
 v0:=iT
 t3:=aq
 a3:=nC
 z3:=lX
 v3:=iU
 t4:=fm
 a4:=vg
 z4:=p8
 v4:=kZ
 t5:=dq
 a5:=Tryz.isAgg5
 z5:=Tryz.sizeOf5
 v5:=wY
 t9:=aG
 a9:=nD
 z9:=lY
 v9:=iV
 t22:=cg
 a22:=Tryz.isAgg155
 z22:=Tryz.sizeOf155
 v22:=Tryz.zeroValue155
 t25:=Tryz.underlying225
 a25:=Tryz.isAgg225
 z25:=Tryz.sizeOf225
 v25:=Tryz.zeroValue225
 t39:=lF
 a39:=Tryz.isAgg189
 z39:=Tryz.sizeOf189
 v39:=Tryz.zeroValue189
 t45:=Tryz.underlying250
 a45:=Tryz.isAgg250
 z45:=Tryz.sizeOf250
 v45:=Tryz.zeroValue250
 t46:=Tryz.underlying251
 a46:=Tryz.isAgg251
 z46:=Tryz.sizeOf251
 v46:=Tryz.zeroValue251
 t50:=Tryz.underlying202
 a50:=Tryz.isAgg202
 z50:=Tryz.sizeOf202
 v50:=Tryz.zeroValue202
 t53:=Tryz.underlying257
 a53:=Tryz.isAgg257
 z53:=Tryz.sizeOf257
 v53:=Tryz.zeroValue257
 t55:=vT
 a55:=Tryz.isAgg190
 z55:=Tryz.sizeOf190
 v55:=Tryz.zeroValue190
 t66:=Tryz.underlying296
 a66:=Tryz.isAgg296
 z66:=Tryz.sizeOf296
 v66:=Tryz.zeroValue296
 t70:=Tryz.underlying300
 a70:=Tryz.isAgg300
 z70:=Tryz.sizeOf300
 v70:=Tryz.zeroValue300
 t76:=Tryz.underlying327
 a76:=Tryz.isAgg327
 z76:=Tryz.sizeOf327
 v76:=Tryz.zeroValue327
 t77:=Tryz.underlying328
 a77:=Tryz.isAgg328
 z77:=Tryz.sizeOf328
 v77:=Tryz.zeroValue328}
end Go.Proofs
namespace Go.K
open Go.Proofs
set_option maxRecDepth 10000
open Go.Proofs Go.Sort
abbrev TK:Type:={t:Fd // (0:UInt8)∉t.1/\t.1.length<=1000000/\t.2.length<=1000000}
instance auz:Inhabited TK:=⟨⟨([],[]),by simp,by simp,by simp⟩⟩
def CX (x:TK):List Value:=[.string ⟨x.1.1.toArray⟩,.string ⟨x.1.2.toArray⟩]
def OV (x y:TK):Int:=Lib.compareBytes (fv x.1) (fv y.1)
theorem Bz:∀{a b x y:List UInt8},(0:UInt8)∉a->(0:UInt8)∉b->a++[0]++x=b++[0]++y->a=b/\x=y
 |[],[],_,_,_,_,h=>⟨rfl,by simpa using h⟩
 |[],c::b,_,_,_,hb,h=>by
  simp at h;exact absurd (by rw[<-h.1];exact bZ ..) hb
 |c::a,[],_,_,ha,_,h=>by
  simp at h;exact absurd (by rw[h.1];exact bZ ..) ha
 |c::a,e::b,x,y,ha,hb,h=>by
  simp only[mz,List.cons.injEq]at h;obtain⟨h1,h2⟩:=Bz (λh=>ha (cI _ h)) (λh=>hb (cI _ h)) h.2;exact⟨by rw[h.1,h1],h2⟩
theorem anj (w:World):(isAgg 78).run Tryz.prog w= .ok true w:=by simp[isAgg,cA,run_underlying cw]
theorem afy (w:World):(Go.sizeOf 78).run Tryz.prog w= .ok 2 w:=by
 obtain⟨i,h1,_,h2,_⟩:=mT.get;simp[Go.sizeOf,typeInfo,cA,program,Sem.run,h1,h2]
theorem Q2 (gy off size:Nat) (w:World):CmpLays Tryz.prog 136 #[] CX 2 OV gy off size w:=λm os dk hs x y=>
 (show Calls Tryz.prog 136 #[kv x.1,kv y.1] (sortWorldK CX 2 w gy off m dk os) (λe w'=>∃v,e= .returned v/\_/\_)from Vr (s:=x.1) (t:=y.1) _ x.2.2.1 x.2.2.2 y.2.2.1 y.2.2.2).mono λe w' ⟨v,h1,h2,h3⟩=>⟨by rw[h1,h2];rfl,1,#[iD x.1,iD y.1,iD x.1,iD y.1],by rw[h3];simp only[Bx,JM,Go.Sort.grow_grow];rfl⟩
theorem afz (gy off cap:Nat) (d:Array TK) (w:World) (hH:HoldsK CX 2 w gy off d) (hblk:gy<w.heap.size) (lu:d.size<4611686018427387904):
  Spec Tryz.prog 187 #[.slice (some ⟨gy,off,none⟩) d.size cap,.func (.func 136) #[] #[]] w (λv w'=>v= .tuple #[]/\∃n os,w'=sortWorldK CX 2 w gy off n (d.toList.mergeSort λx y=> !(Go.Proofs.ltOf OV) y x).toArray os):=by
 exact(Go.Proofs.AnyQ.slices_SortFunc_total Tryz.Q1 2 anj afy CX (λ_=>rfl) (λx v hv=>by simp[CX]at hv;rcases hv with rfl|rfl<;>rfl) OV (LW _) 136 #[] gy off cap d w alK (Q2 gy off d.size w) hH hblk lu (λx y h1 h2=>by
  have h0:OV x y=0:=by
   have:=rC (fv x.1) (fv y.1);simp only[Go.Proofs.ltOf,decide_eq_false_iff_not]at h1 h2;unfold OV at h1 h2 ⊢;omega
  have h3:=tO h0;obtain⟨h4,h5⟩:=Bz x.2.1 y.2.1 h3;exact Subtype.ext (vP h4 h5))).mono λe w' ⟨h1,h2⟩=>⟨_,h1,G,h2⟩
end Go.K
namespace Go.K
set_option linter.unusedSectionVars false
open Go.Sort Go.Proofs
section
variable {α:Type} [Inhabited α] {enc:α->List Value} {k:Nat}
theorem zx (hk:∀x,(enc x).length=k) (h0:0<k):∀(l:List α) (t:Nat),(l.flatMap enc)[t]? =(l[t/k]?).bind λx=>(enc x)[t%k]?
 |[],t=>by simp
 |x::l,t=>by
  rw[oZ];rcases cQ t k with h|h
  ·rw[fP (by rw[hk];exact h),Nat.div_eq_of_lt h,ye h];rfl
  ·rw[jd (by rw[hk];exact h),hk,zx hk h0 l];have e1:t/k=(t-k)/k+1:=by rw[Nat.div_eq t k,if_pos ⟨h0,h⟩]
   have e2:(t-k)%k=t%k:=by rw[Nat.mod_eq t k,if_pos ⟨h0,h⟩]
   rw[e1,e2,List.getElem?_cons_succ]
theorem pA (hk:∀x,(enc x).length=k):∀l:List α,(l.flatMap enc).length=l.length*k
 |[]=>by simp
 |x::l=>by rw[oZ,aY,hk,pA hk l,dG,Nat.add_mul];omega
theorem BA (hk:∀x,(enc x).length=k) (h0:0<k) (d:Array α) {t:Nat} (ht:t<d.size*k):(d.toList.flatMap enc)[t]? =some (flatK enc k d)[t]! :=by
 have h1:t/k<d.size:=Nat.div_lt_of_lt_mul (by rw[Nat.mul_comm];exact ht);have h2:t%k<k:=Nat.mod_lt _ h0;rw[zx hk h0,get_flatK _ _ _ _ ht];have e:d.toList[t/k]? =some d[t/k]! :=by simp[h1]
 rw[e];simp[hk,h2]
theorem DH {w:World} {g:Nat} {cur:Array Value} {e:TypeId} {d:Array α} (hk:∀x,(enc x).length=k) (h0:0<k) (hg:w.heap[g]? =some (.cells cur e (0,0))) (hC:cur.toList.take (d.size*k)=d.toList.flatMap enc):HoldsK enc k w g 0 d:=λj hj=>by
 rw[size_flatK]at hj;have h1:=BA hk h0 d hj;rw[<-hC,cY,if_pos hj,Array.getElem?_toList]at h1;constructor
 ·simp[World.cell?,hg,h1]
 ·simp[World.frozen?,hg]
theorem vC {w:World} {g n:Nat} {cur:Array Value} {e:TypeId} {d:Array α} {os:Array Obj} (hg:w.heap[g]? =some (.cells cur e (0,0))):(sortWorldK enc k w g 0 n d os).heap[g]? =some (.cells (putCells id 0 (flatK enc k d) cur) e (0,0)):=by
 have eK:g<w.heap.size:=ae hg
 have h1:(w.heap.modify g (onCells (putCells id 0 (flatK enc k d))))[g]? =some (.cells (putCells id 0 (flatK enc k d) cur) e (0,0)):=by
  rw[lp,if_pos rfl,hg];rfl
 show((w.heap.modify g (onCells (putCells id 0 (flatK enc k d))))++os)[g]? =_;rw[Array.getElem?_append_left (by simpa using eK)];exact h1
theorem sk {w:World} {g n:Nat} {d:Array α} {os:Array Obj}:Step allM w allM (sortWorldK enc k w g 0 n d os) (λb=>b=g):=
 ⟨λh=>absurd (h w.heap.size trivial) (kQ _),rfl,rfl,rfl,by show _<=((w.heap.modify g _)++os).size;simp,λ_ _=>Iff.rfl,λb hb hn=>by
  have hn: ¬b=g:=hn;show((w.heap.modify g (onCells (putCells id 0 (flatK enc k d))))++os)[b]? =_;rw[Array.getElem?_append_left ak8,lp,if_neg (λh=>hn h.symm)],λ_ _=>trivial⟩
theorem vD {F cur:Array Value} (h:F.size<=cur.size):(putCells id 0 F cur).toList.take F.size=F.toList:=by
 apply eS;intro j;rw[cY];by_cases hj:j<F.size
 ·rw[if_pos hj];simp[putCells,hj,k9 hj h]
 ·rw[if_neg hj,cE a68]
theorem xz (hk:∀x,(enc x).length=k) (h0:0<k) (d:Array α):(flatK enc k d).toList=d.toList.flatMap enc:=by
 apply eS;intro j;by_cases hj:j<d.size*k
 ·rw[BA hk h0 d hj];have:j<(flatK enc k d).size:=by rw[size_flatK];exact hj
  rw[Array.getElem?_toList,getElem!_pos _ j this];exact Array.getElem?_eq_getElem this
 ·rw[cE (by rw[Ct,size_flatK];omega),cE (by rw[pA hk,Ct];omega)]
end
end Go.K
namespace Go.K
open Go.Proofs
set_option maxRecDepth 10000
open Go.Proofs Go.Sort
theorem LX:∀{ts:List Fd} {C:List Value} {M:aJ} {w:World},eX RT.fd M w ts C->C=ts.flatMap λt=>[.string ⟨t.1.toArray⟩,.string ⟨t.2.toArray⟩]
 |[],C,_,_,h=>h
 |t::ts,C,_,_,⟨vs,r,h1,h2,h3⟩=>by
  obtain⟨va,vb,rfl,h4,h5⟩:=h2;rw[h1,LX h3,h4.1,h5.1];rfl
theorem G2 {M:aJ} {w:World}:∀{ts:List Fd},(∀t∈ts,t.1.length<=1000000/\t.2.length<=1000000)->eX RT.fd M w ts (ts.flatMap λt=>[.string ⟨t.1.toArray⟩,.string ⟨t.2.toArray⟩])
 |[],_=>rfl
 |t::ts,h=>by
  obtain⟨h1,h2⟩:=h t (bZ ..);exact⟨_,_,rfl,⟨_,_,rfl,⟨rfl,by omega⟩,⟨rfl,by omega⟩⟩,G2 λu hu=>h u (cI _ hu)⟩
def Q3 (us:List Fd):Prop:=us.Pairwise λa b=>¬Lib.compareBytes (fv b) (fv a)<0
theorem CY {base:Nat} {v:Value} {ts:List Fd} (w0:World) (ho:Own RT.fd 78 (o9 v) w0 base v ts) (hT:∀t∈ts,(0:UInt8)∉t.1/\t.1.length<=1000000/\t.2.length<=1000000) (hl:ts.length<=100000000):
  Spec Tryz.prog 187 #[v,.func (.func 136) #[] #[]] w0 (λr w=>r= .tuple #[]/\∃us:List Fd,us.Perm ts/\Q3 us/\Own RT.fd 78 (o9 v) w base v us/\Step allM w0 allM w (o9 v)):=by
 obtain⟨⟨C,⟨hC,hr⟩,hA⟩,hm⟩:=ho;rcases hr with⟨rfl,h0⟩|⟨g,cap,cur,rfl,hb,hg,hle,XQ,OW,uP⟩
 ·have I1:ts=[]:=dL.1 h0;subst I1;exact(AnyF.slices_SortFunc_none Tryz.Q1 none 0 _ w0).mono λe w' ⟨h1,h2⟩=>⟨_,h1,rfl,[],.refl _,List.Pairwise.nil,dh _ _ _ _ _,by rw[h2];exact(Step.refl allM w0).eL a42 (λ_ _=>trivial)⟩
 ·obtain⟨d,hd⟩:∃d:Array TK,d.toList.map (·.1)=ts:=⟨(ts.attach.map λx=>(⟨x.1,hT x.1 x.2⟩:TK)).toArray,by rw[List.toList_toArray,p9];exact List.attach_map_subtype_val ts⟩;have lu:d.size=ts.length:=by rw[<-hd];simp
  have hk:∀x:TK,(CX x).length=2:=λ_=>rfl
  have JO:∀l:List TK,(l.map (·.1)).flatMap (λt:Fd=>[Value.string ⟨t.1.toArray⟩,.string ⟨t.2.toArray⟩])=l.flatMap CX:=λl=>by rw[List.flatMap_map];rfl
  have hH:HoldsK CX 2 w0 g 0 d:=DH hk k3 hg (by
   have e2:RT.fd.n=2:=rfl;rw[e2]at uP;rw[lu,uP,LX hA,<-hd,JO])
  have hs:=afz g 0 cap d w0 hH (ae hg) k3;rw[lu]at hs;refine hs.mono λr w' ⟨h1,n,os,h2⟩=>⟨h1,(d.toList.mergeSort λx y=> !(ltOf OV) y x).map (·.1),?_,?_,?_,?_⟩
  ·rw[<-hd];exact(kr _ _).map _
  ·refine dr.2 ((List.pairwise_mergeSort (λa b c h1 h2=>?_) (λa b=>?_) _).imp λh=>?_)
   ·simp only[ltOf,kb,decide_eq_false_iff_not]at*
    have:=(LW λx:TK=>fv x.1).ntrans c b a (by simpa[ltOf,OV]using h2) (by simpa[ltOf,OV]using h1);simpa[ltOf,OV]using this
   ·simp only[ltOf,lL,kb,decide_eq_false_iff_not];have:=rC (fv a.1) (fv b.1);unfold OV;omega
   ·rw[kb]at h;exact of_decide_eq_false h
  ·have hp:=kr d.toList λx y=> !(ltOf OV) y x
   rw[h2];generalize (d.toList.mergeSort λx y=> !(ltOf OV) y x)=us at hp;have OX:(us.map (·.1)).length=ts.length:=by rw[ay,hp.length_eq,Ct,lu]
   have CG:us.toArray.size*2=ts.length*2:=by rw[<-OX];simp
   have e2:RT.fd.n=2:=rfl;refine⟨⟨(us.map (·.1)).flatMap (λt:Fd=>[Value.string ⟨t.1.toArray⟩,.string ⟨t.2.toArray⟩]),⟨?_,.inr ⟨g,cap,_,by rw[OX],hb,vC hg,by rw[OX];exact hle,XQ,by rw[<-OW];simp[putCells],?_⟩⟩,G2 λt ht=>?_⟩,hm⟩
   ·rw[JO,pA hk,ay,e2]
   ·rw[JO,OX,e2,<-CG,<-size_flatK CX,vD (by rw[size_flatK,CG,OW,e2];omega),xz hk k3]
   ·obtain⟨x,_,rfl⟩:=ck.1 ht;exact x.2.2
  ·rw[h2];exact sk.eL (λb hb=>by have hb:b=g:=hb;subst hb;rfl) (λ_ _=>trivial)
end Go.K
namespace Go.K
open Go.Proofs
set_option maxRecDepth 10000
theorem G3 {bs mb clock:Nat} {es:List MapEntry} (w0:World) (hk:LS es) (hT:∀e∈es,∀t,e.key=kv t->(0:UInt8)∉t.1/\t.1.length<=1000000/\t.2.length<=1000000) (hes:es.length<=100000000) (hlen:∀ts:List Fd,ts.Nodup->(∀t∈ts,∃e∈es,e.key=kv t)->ts.length<=100000000) (gbs:w0.heap[bs]? =some (.cells #[.map (some mb)] 217 (0,0))) (hW:hU Tryz.prog 78 w0 mb es clock):
  Spec Tryz.prog 134 #[.func (.func 188) #[] [.pointer (some ⟨bs,0,none⟩)].toArray,.func (.func 136) #[] #[]] w0 (λv w=>∃us:List Fd,us.Nodup/\(∀t,t∈us↔∃e∈es,e.key=kv t)/\Q3 us/\Own RT.fd 78 (o9 v) w w0.heap.size v us/\Step allM w0 allM w aA):=by
 refine bF (args:=[_,_]) (fn:=Tryz.f134) Tryz.func134 G (n:=12) Tryz.ntmps134 (T.aQ (Rg.bA G G (T.aQ (ab G G ?_))));refine a8 G G alR (EN _ hk hes gbs hW) (λv1 w1 hc=>?_);obtain⟨ts,qL,k4,ho,s1⟩:=hc;refine Rg.bA G G (T.aQ (ab G G (ab G G ?_)));refine a8 rfl rfl alS (CY _ ho (λt ht=>by obtain⟨e,he,hke⟩:=(k4 t).1 ht;exact hT e he t hke) (hlen ts qL λt ht=>(k4 t).1 ht)) (λr2 w2 hc=>?_);obtain⟨rfl,us,hp,Zh,hou,s2⟩:=hc;refine ad (T.aQ (ab G G (Rg.bA G G (aT ?_))));exact aX G G ⟨us,hp.nodup_iff.2 qL,λt=>hp.mem_iff.trans (k4 t),Zh,hou,s1.trans s2 (λk hk hn=>by have:=(ho.base k hn).1;omega)⟩
theorem JP {mb:Nat} (w0:World):
  Spec Tryz.prog 135 #[.map (some mb)] w0 (λv w=>∃bs,v= .func (.func 188) #[] [.pointer (some ⟨bs,0,none⟩)].toArray/\w.heap[bs]? =some (.cells #[.map (some mb)] 217 (0,0))/\w0.heap.size<=bs/\Step allM w0 allM w aA):=by
 refine bF (args:=[_]) (fn:=Tryz.f135) Tryz.func135 G (n:=4) Tryz.ntmps135 (T.aQ ?_);refine zO allM G G (λbs w1 Ey Lu gs s1=>?_);change w1.heap[bs]? =some (.cells #[.map (some mb)] 217 (0,0))at gs;replace s1:=s1.all;refine Rg.bA G G (T.aQ (l2 (xs:=[]) (ys:=[.tmp 1]) G G G (Rg.bA G G (aT ?_))));exact aX G G ⟨bs,G,gs,Ey,s1⟩
def posOf (ts:List (Fd×Nat)) (t:Fd):List Int:=(ts.filter λp=>decide (p.1=t)).map λp=>(p.2:Int)
def seen (ts:List (Fd×Nat)):List Fd:=ts.foldl (λl p=>if p.1∈l then l else l++[p.1]) []
theorem NP (ts:List (Fd×Nat)) (t:Fd) (i:Nat):seen (ts++[(t,i)])=if t∈seen ts then seen ts else seen ts++[t]:=by unfold seen;rw[o0];rfl
theorem BB (ts:List (Fd×Nat)) (t t':Fd) (i:Nat):posOf (ts++[(t,i)]) t'=if t=t' then posOf ts t'++[(i:Int)]else posOf ts t':=by
 unfold posOf;rw[jK];by_cases h:t=t'<;>simp[h]
theorem yF (ts:List (Fd×Nat)) (t:Fd):(posOf ts t).length<=ts.length:=by
 unfold posOf;rw[ay];exact fz _ _
abbrev mH:Value:= .slice none 0 0
structure NQ (M:aJ) (w:World) (B:Nat) (ts:List (Fd×Nat)) (es:List MapEntry):Prop where
 o:∀t v,fj mH es (kv t) v->Own (RT.int .i64) 3 M w B v (posOf ts t)
 a:∀t t' v v',t≠t'→fj mH es (kv t) v->fj mH es (kv t') v'→fL v v'
 k:es.map (·.key)=(seen ts).map kv
theorem NQ.aE {M M':aJ} {w w':World} {B:Nat} {ts:List (Fd×Nat)} {es:List MapEntry} (h:NQ M w B ts es) (s:Step M w M' w' aA):NQ M' w' B ts es:=⟨λt v hv=>(h.o t v hv).aE s,h.a,h.k⟩
def IJ (bt mb B:Nat) (ts:List (Fd×Nat)) (M:aJ) (w:World):Prop:=w.heap[bt]? =some (.cells #[.map (some mb)] 217 (0,0))/\M bt/\M mb/\B<=bt/\B<=mb/\∃es clock,hU Tryz.prog 78 w mb es clock/\NQ M w B ts es
theorem Own.mI {α:Type} {A:RT α} {e:TypeId} {M:aJ} {w:World} {base b c:Nat} {a:Array MapEntry} {v:Value} {xs:List α} (h:Own A e M w base v xs) (hb:w.heap[b]? =some (.map a c)):v.ownBlock≠some b:=λhv=>by
 obtain⟨⟨C,h1,_⟩,_⟩:=h;rcases h1.2 with⟨h2,_⟩|⟨g,cap,cur,h2,_,h3,_⟩
 ·rw[h2]at hv;cases hv
 ·rw[h2]at hv;cases hv;rw[h3]at hb;cases hb
theorem xA {ts:List (Fd×Nat)} {es:List MapEntry} {t:Fd} (hk:es.map (·.key)=(seen ts).map kv):(∃e∈es,e.key=kv t)↔t∈seen ts:=by
 constructor
 ·rintro⟨e,he,h⟩;have:kv t∈(seen ts).map kv:=by rw[<-hk,<-h];exact gU he
  obtain⟨t',h1,h2⟩:=ck.1 this;rw[<-yD h2];exact h1
 ·intro h;have:kv t∈es.map (·.key):=by rw[hk];exact gU h
  obtain⟨e,h1,h2⟩:=ck.1 this;exact⟨e,h1,h2⟩
theorem NR {M:aJ} {bt mb B:Nat} {ts:List (Fd×Nat)} {t:Fd} {i:Nat} (w0:World) (hM:Lt M w0) (h1:t.1.length<=900000) (h2:t.2.length<=140737488355328) (hi:i<=1000000) (I1:ts.length<=10000000) (hJ:IJ bt mb B ts M w0):
  Spec Tryz.prog 133 #[kv t,.int .i64 (i:Int),.pointer (some ⟨bt,0,none⟩)] w0 (λv w=>∃M',Lt M' w/\IJ bt mb B (ts++[(t,i)]) M' w/\Step M w0 M' w (nJ M B)):=by
 obtain⟨gb,ff,gv,hB,LY,es,clock,hW,hI⟩:=hJ;refine bF (args:=[_,_,_]) (fn:=Tryz.f133) Tryz.func133 G (n:=13) Tryz.ntmps133 ?_;have S:Step M w0 M w0 (nJ M B):=(bz).eL a42 (λ_ h=>h.2);refine T.aQ ?_;refine kB (A:=RT.fd) G G hM (JI k3 h2) G (λu0 w1 dT s0 _=>?_);have:=ae gb;replace ff:=(s0.mem _ this).2 ff;replace gb:=s0.aP gb;replace gv:=(s0.mem _ (ae hW.at_)).2 gv;replace hW:=hW.aE s0;replace hI:=hI.aE s0;replace hM:=s0.lt hM;have:=S.size;replace S:=S.aw s0;refine ad (aH (aV og G G G W4 G ?_));refine cW (A:=RT.fd) cw G mT q0 G G G dT bY (λv1 Cv=>?_);obtain rfl:=mF Cv;refine ab G G ?_;refine dP (A:=RT.int .i64) (hn:=by decide) (M:=M) ah I3 q0 G G hM (gw k3) (.inr ⟨G,G⟩) (λQf NH lQ s1_3=>?_);have:=ae gb;replace ff:=(s1_3.mem _ this).2 ff;replace gb:=s1_3.aP gb;replace dT:=dT.le q0 s1_3.le;replace gv:=(s1_3.mem _ (ae hW.at_)).2 gv;replace hW:=hW.aE s1_3;replace hI:=hI.aE s1_3;replace hM:=s1_3.lt hM;have:=S.size;replace S:=S.aw s1_3;obtain⟨kl,AN⟩:=QU t k3 h2;refine Rg.mapEntry (M:=M) (zv:=mH) og DF iJ G G G AN hW gv (λw4 es4 cl4 v s hW4 hv k4 EP Zp s4=>?_);have JQ:∀t v,fj mH es (kv t) v->v.ownBlock≠some mb:=λt v h=>(hI.o t v h).mI hW.at_
 have XR:bt≠mb:=λe=>by subst e;have:=hW.at_;rw[gb]at this;cases this
 replace hI:NQ M w4 B ts es:=⟨λt v hv=>(hI.o t v hv).step s4 (λb hb hk=>JQ t v hv (by have hk:b=mb:=hk;rw[<-hk];exact hb)),hI.a,hI.k⟩;have afB:=(s4.mem _ (ae hW.at_)).2 gv;replace ff:=(s4.mem _ (ae gb)).2 ff;replace gb:=s4.keep gb XR;replace lQ:=lQ.le s4.le;replace hM:=s4.lt hM;have hmM:∀b,b<w0.heap.size->M b->M b:=λb hb h=>(S.mem b hb).1 h
 have hz0:=S.size;replace S:=S.trans s4 (λk hk h=>by have h:k=mb:=h;subst h;exact⟨LY,hmM k hk gv⟩);have vE:=hI.o t v hv;have uQ:=yF ts t;refine cq G G G ?_;refine fI (M:=M) (base:=B) ah I3 rfl rfl rfl rfl vE lQ bY a03 a03 (by have:=ae gb;omega) (λv6 w6 th s6 hF=>?_);have hblk:∀b,gy v b->B<=b/\M b:=λb h=>⟨(vE.base b h).1,vE.mut_ b h⟩
 have qt:∀t' v',t'≠t->fj mH es (kv t') v'→fL v' v:=λt' v' fG vr=>hI.a t' t v' v fG vr hv
 have Vs:∀t' v',t'≠t->fj mH es (kv t') v'→Own (RT.int .i64) 3 (ji M v6) w6 B v' (posOf ts t'):=λt' v' fG vr=>(hI.o t' v' vr).step s6 (λb hb hk=>qt t' v' fG vr b hb hk)
 have lu:∀t' v',fj mH es (kv t') v'→∀b,v'.ownBlock=some b->b<w4.heap.size:=λt' v' vr b hb=>((hI.o t' v' vr).base b hb).2
 have JR:∀t' v',t'≠t->fj mH es (kv t') v'→fL v6 v':=λt' v' fG vr=>(qt t' v' fG vr).symm.grown hF (lu t' v' vr)
 have ank:v.ownBlock≠some mb:=vE.mI hW4.at_;have Q4:=(s6.mem _ (ae hW4.at_)).2 afB;replace hW4:=hW4.step s6 ank;replace ff:=(s6.mem _ (ae gb)).2 ff;replace gb:=s6.keep gb (λh=>vE.eu gb q0 h);replace hM:=s6.lt hM;have anl:∀b,b<w0.heap.size->M b->M b:=λb hb h=>(S.mem b hb).1 h
 replace S:=S.trans s6 (λk hk h=>⟨(hblk k h).1,anl k hk (hblk k h).2⟩);refine cq G G G ?_;have afC:=hW4.at_;refine Rg.entryStore G G G hW4 Q4 k4 (λw8 es8 hW8 sf afD s8=>?_);have hm8:v6.ownBlock≠some mb:=th.mI afC;replace th:=th.step s8 (λb hb hk=>hm8 (by have hk:b=mb:=hk;rw[<-hk];exact hb));have afE:∀t' v',t'≠t->fj mH es (kv t') v'→Own (RT.int .i64) 3 _ w8 B v' (posOf ts t'):=λt' v' fG vr=>(Vs t' v' fG vr).step s8 (λb hb hk=>JQ t' v' vr (by have hk:b=mb:=hk;rw[<-hk];exact hb))
 have afF:=(s8.mem _ (ae afC)).2 Q4;refine ad ?_
 first|refine uN ?_|simp+decide only[tn,lf,if_true,if_false]|skip
 replace ff:=(s8.mem _ (ae gb)).2 ff;replace gb:=s8.keep gb XR;replace hM:=s8.lt hM;replace S:=S.trans s8 (λk hk h=>by have h:k=mb:=h;subst h;exact⟨LY,(S.mem k hk).1 Q4⟩)
 have vF:∀t1 v1,fj mH es8 (kv t1) v1->(t1=t/\v1=v6)\/(t1≠t/\fj mH es (kv t1) v1):=λt1 v1 Cv=>by
  rcases(afD mH (kv t1) v1).1 Cv with⟨h3,h4⟩|⟨h3,h4⟩
  ·exact .inl ⟨yD h3,h4⟩
  ·exact .inr ⟨λe=>h3 (by rw[e];rfl),(EP (kv t1) v1).1 h4⟩
 refine iw G ⟨_,hM,⟨gb,ff,afF,hB,LY,es8,_,hW8,⟨λt1 v1 Cv=>?_,λt1 t2 v1 v2 fG Cv yz=>?_,?_⟩⟩,S⟩
 ·rcases vF t1 v1 Cv with⟨rfl,rfl⟩|⟨h3,h4⟩
  ·rw[BB,if_pos rfl];exact th
  ·rw[BB,if_neg (λe=>h3 e.symm)];exact afE t1 v1 h3 h4
 ·rcases vF t1 v1 Cv with⟨rfl,rfl⟩|⟨h3,h4⟩
  ·rcases vF t2 v2 yz with⟨rfl,_⟩|⟨h5,h6⟩
   ·exact absurd G fG
   ·exact JR t2 v2 h5 h6
  ·rcases vF t2 v2 yz with⟨rfl,rfl⟩|⟨h5,h6⟩
   ·exact(JR t1 v1 h3 h4).symm
   ·exact hI.a t1 t2 v1 v2 fG h4 h6
 ·rw[sf,NP];rcases Zp with⟨h3,h4⟩|⟨h3,h4⟩
  ·rw[h3,hI.k,if_pos ((xA hI.k).1 h4)]
  ·rw[h3,hI.k,if_neg (λh=>by obtain⟨e,he,hk⟩:=(xA hI.k).2 h;exact h4 e he hk)];simp[kv]
end Go.K
namespace Go.K
open Go.Maps (Keyed)
open Go.Lib (compareBytes)
theorem G4:∀a b:List UInt8,Op.bytesLess a b=decide (compareBytes a b<0)
 |[],[]=>by simp[Op.bytesLess,compareBytes]
 |_::_,[]=>by simp[Op.bytesLess,compareBytes]
 |[],_::_=>by simp[Op.bytesLess,compareBytes]
 |a::x,b::y=>by
  rw[Op.bytesLess,G4 x y,qq];by_cases h1:a.toNat<b.toNat
  ·simp[UInt8.lt_iff_toNat_lt,h1]
  ·by_cases h2:b.toNat<a.toNat
   ·have: ¬a=b:=λe=>by subst e;omega
    simp[UInt8.lt_iff_toNat_lt,h1,h2,this]
   ·have:a=b:=UInt8.toNat_inj.1 k3;simp[UInt8.lt_iff_toNat_lt,h1,h2,this]
theorem tP (a b:List UInt8):compareBytes a b<0↔a<b:=by
 have h:=G4 a b;rw[Go.Proofs.bytesLess_eq]at h;exact(decide_eq_decide.1 h).symm
theorem jw (a:List UInt8): ¬a<a:=λh=>by have:=(tP a a).2 h;rw[By]at this;omega
theorem lS {a b c:List UInt8} (h:a<b) (h':b<c):a<c:=(tP _ _).1 (uG ((tP _ _).2 h) ((tP _ _).2 h'))
theorem kX (a b:List UInt8):a<b\/a=b\/b<a:=by
 rcases Int.lt_trichotomy (compareBytes a b) 0 with h|h|h
 ·exact .inl ((tP _ _).1 h)
 ·exact .inr (.inl (tO h))
 ·exact .inr (.inr ((tP _ _).1 (by rw[rC];omega)))
theorem jx {a b:List UInt8} (h:a<b): ¬b<a:=λh'=>jw a (lS h h')
theorem JS {a b:List UInt8}:a<=b↔¬b<a:=Iff.rfl
section
variable {P:Program} {r:Option Nat} {n:Nat} {L:Sl} {ds:List Deferred} {w:World} {K:Kt} {ops:Array Oper} {rest:List Oper} {d:Nat} {x y:Operand} {ty:TypeId} {pos:String} {af:Array Edge}
theorem Rg.aas {t t':TypeId} {p q:List UInt8} (hx:ev L x=some (.string ⟨p.toArray⟩)) (hy:ev L y=some (.string ⟨q.toArray⟩)) (hd:Nat.blt d n=true)
  (k:Rg P r n ops rest ((d,.bool (decide (p<q)))::L) ds w K):
  Rg P r n ops ({dst:=some d,op:= .binOp .lss t x y t',type:=ty,pos,after:=af,guard:=none}::rest) L ds w K:=
 .op a04 rfl rfl hd _ w (λρ h=>by
  simp only[execOp];rw[h x _ hx,h y _ hy];simp[eqGuard,binOp,Op.stringOp,kW,Go.Proofs.bytesLess_eq]) k
theorem Rg.anm {t t':TypeId} {p q:List UInt8} (hx:ev L x=some (.string ⟨p.toArray⟩)) (hy:ev L y=some (.string ⟨q.toArray⟩)) (hd:Nat.blt d n=true)
  (k:Rg P r n ops rest ((d,.bool (decide (q<p)))::L) ds w K):
  Rg P r n ops ({dst:=some d,op:= .binOp .gtr t x y t',type:=ty,pos,after:=af,guard:=none}::rest) L ds w K:=
 .op a04 rfl rfl hd _ w (λρ h=>by
  have e:(!(decide (p<q)||p==q))=decide (q<p):=by
   rcases kX p q with h|h|h
   ·simp[h,jx h]
   ·subst h;simp[jw]
   ·have: ¬p=q:=λe=>by subst e;exact jw p h
    simp[h,jx h,this]
  simp only[execOp];rw[h x _ hx,h y _ hy];simp only[binOp,Op.stringOp,kW,Go.Proofs.bytesLess_eq,e];simp[eqGuard]) k
theorem Rg.Q5 {t t':TypeId} {p q:List UInt8} (hx:ev L x=some (.string ⟨p.toArray⟩)) (hy:ev L y=some (.string ⟨q.toArray⟩)) (hd:Nat.blt d n=true)
  (k:Rg P r n ops rest ((d,.bool (decide (¬p<q)))::L) ds w K):
  Rg P r n ops ({dst:=some d,op:= .binOp .geq t x y t',type:=ty,pos,after:=af,guard:=none}::rest) L ds w K:=
 .op a04 rfl rfl hd _ w (λρ h=>by
  have e:(!decide (p<q))=decide (¬p<q):=by by_cases h:p<q<;>simp[h]
  simp only[execOp];rw[h x _ hx,h y _ hy];simp only[binOp,Op.stringOp,kW,Go.Proofs.bytesLess_eq,e];simp[eqGuard]) k
theorem Rg.aat {t t':TypeId} {p q:List UInt8} (hx:ev L x=some (.string ⟨p.toArray⟩)) (hy:ev L y=some (.string ⟨q.toArray⟩)) (hd:Nat.blt d n=true)
  (k:Rg P r n ops rest ((d,.bool (decide (¬q<p)))::L) ds w K):
  Rg P r n ops ({dst:=some d,op:= .binOp .leq t x y t',type:=ty,pos,after:=af,guard:=none}::rest) L ds w K:=
 .op a04 rfl rfl hd _ w (λρ h=>by
  have e:(decide (p<q)||p==q)=decide (¬q<p):=by
   rcases kX p q with h|h|h
   ·simp[h,jx h]
   ·subst h;simp[jw]
   ·have: ¬p=q:=λe=>by subst e;exact jw p h
    simp[h,jx h,this]
  simp only[execOp];rw[h x _ hx,h y _ hy];simp only[binOp,Op.stringOp,kW,Go.Proofs.bytesLess_eq,e];simp[eqGuard]) k
end
abbrev CZ (l:List (List UInt8)):Prop:=l.Pairwise (· < ·)
theorem NS {ss:List (List UInt8)} (h:ss.Nodup):CZ (ss.mergeSort λx y=>decide (x<=y)):=by
 have h1:(ss.mergeSort λx y=>decide (x<=y)).Pairwise (λx y=>decide (x<=y)=true):=List.pairwise_mergeSort (λa b c h1 h2=>by
  simp only[decide_eq_true_eq,JS]at h1 h2 ⊢;intro h3;rcases kX a b with h|h|h
  ·exact h2 (lS h3 h)
  ·subst h;exact h2 h3
  ·exact h1 h) (λa b=>by
  simp only[lL,decide_eq_true_eq,JS];rcases kX a b with h|h|h
  ·exact .inl (jx h)
  ·subst h;exact .inl (jw a)
  ·exact .inr (jx h)) ss
 have h2:(ss.mergeSort λx y=>decide (x<=y)).Nodup:=(kr ss _).nodup_iff.2 h;refine (h1.and h2).imp ?_;rintro a b ⟨h3,h4⟩;simp only[decide_eq_true_eq,JS]at h3;rcases kX a b with h|h|h
 ·exact h
 ·exact absurd h h4
 ·exact absurd h h3
theorem CZ.nodup {l:List (List UInt8)} (h:CZ l):l.Nodup:=h.imp λ{a b} h e=>by subst e;exact jw a h
theorem xB {α:Type} {R:α->α->Prop} (hR:∀a b,R a b->R b a->a=b) {l l':List α} (h:l.Pairwise R) (h':l'.Pairwise R) (hn:l.Nodup) (JG:l'.Nodup) (hm:∀x,x∈l↔x∈l'):l=l':=
 List.Perm.eq_of_pairwise (λa b _ _ h1 h2=>hR a b h1 h2) h h' ((List.perm_ext_iff_of_nodup hn JG).2 hm)
theorem Q6 {l l':List (List UInt8)} (h:CZ l) (h':CZ l') (hm:∀x,x∈l↔x∈l'):l=l':=
 xB (λa b h1 h2=>absurd h2 (jx h1)) h h' h.nodup h'.nodup hm
abbrev sv (k:List UInt8):Value:= .string ⟨k.toArray⟩
theorem ER {a b:List UInt8} (h:sv a=sv b):a=b:=by simpa[sv]using h
def JT:Value->Option (DU×List MemPlace):=λ_=>some (.nil,[])
theorem hU.ann {P:Program} {kt:TypeId} {M:aJ} {w:World} {b:Nat} {es:List MapEntry} {clock:Nat} (hk:P.underlying kt=some .string) (h:hU P kt w b es clock) (hm:M b) (hl:es.length<=maxLen) (ks:List (List UInt8)) (Vt:es.map (·.key)=ks.map sv):
  ∃m:List (Lit×DU),ZD P kt JT M w b m/\(strKeys (DataW.map m)).Perm ks/\m.length=ks.length:=by
 have hF:Go.WideElems.Fit P kt JT es.toArray clock:=by
  refine⟨by simpa using hl,⟨λx hx=>h.lt x a65,?_,?_⟩,λx hx=>?_⟩
  ·simpa[List.Nodup,dr]using h.born
  ·simpa[List.Nodup,dr]using h.keys
  ·obtain⟨l,hl⟩:=h.ok x a65;exact⟨(l,.nil),by simp[Go.WideElems.rd,hl,JT]⟩
 have hp:=Go.WideShapes.sorted_perm (es.toArray.toList.map (Go.WideElems.rg P kt JT));have hlen:(List.foldr DataW.insert [] (es.toArray.toList.map (Go.WideElems.rg P kt JT))).length=es.length:=by rw[hp.length_eq];simp
 refine⟨_,⟨hm,es.toArray,clock,h.at_,hF,by rw[hlen];simp,rfl⟩,?_,?_⟩
 ·refine (hp.map λp=>strOf p.1).trans ?_;rw[p9]
  have e:es.toArray.toList.map ((λp=>strOf p.1)∘Go.WideElems.rg (H:=Unit) P kt JT)=ks:=by
   refine eS λi=>?_
   have hi:=congrArg (·[i]?) Vt;simp only[bj]at hi ⊢
   cases he:es[i]? with
   |none=>
    rw[he]at hi
    cases ano:ks[i]? with
    |none=>simp[he]
    |some a=>rw[ano]at hi;cases hi
   |some e=>
    rw[he]at hi;obtain⟨l,hl⟩:=h.ok e (au he);obtain⟨s,hs,h1⟩:=Option.map_eq_some_iff.1 hi.symm;obtain⟨z,hz1,hz2,_⟩:=Maps.keyOf_str hk hl;have:z=s:=ER (hz1.symm.trans (by simpa using h1.symm));subst this;simp[he,hs,Go.WideElems.rg,Go.WideElems.rd,hl,JT,hz2,strOf]
  rw[e]
 ·rw[hlen];have:=congrArg List.length Vt;simpa using this
end Go.K
namespace Go.K
open Go.Lib (compareBytes)
def k7 {α:Type} [DecidableEq α] (key:α->List UInt8) (t:α):List α->List α
 |[]=>[t]
 |u::l=>if key t<key u then t::u::l else if u=t then u::l else u::k7 key t l
theorem uH {α:Type} [DecidableEq α] {key:α->List UInt8} {t x:α}:∀{l:List α},x∈k7 key t l↔x=t\/x∈l
 |[]=>by simp[k7]
 |u::l=>by
  unfold k7
  split
  ·simp
  ·split
   ·rename_i h;subst h;simp
   ·rw[cR,uH (l:=l),cR];constructor
    ·rintro(h|h|h)
     ·exact .inr (.inl h)
     ·exact .inl h
     ·exact .inr (.inr h)
    ·rintro(h|h|h)
     ·exact .inr (.inl h)
     ·exact .inl h
     ·exact .inr (.inr h)
abbrev yG {α:Type} (key:α->List UInt8) (l:List α):Prop:=l.Pairwise λa b=>key a<key b
theorem G5 {α:Type} [DecidableEq α] {key:α->List UInt8} {t:α}:∀{l:List α},(∀u∈l,key u=key t->u=t)->yG key l->yG key (k7 key t l)
 |[],_,_=>by simp[k7]
 |u::l,hi,h=>by
  have h':=eV.1 h;unfold k7
  split
  ·rename_i eK
   refine eV.2 ⟨λx hx=>?_,h⟩;rcases cR.1 hx with rfl|hx
   ·exact eK
   ·exact lS eK (h'.1 x hx)
  ·rename_i eK
   split
   ·exact h
   ·rename_i fG
    have hut:key u<key t:=by
     rcases kX (key u) (key t)with h1|h1|h1
     ·exact h1
     ·exact absurd (hi u (bZ ..) h1) fG
     ·exact absurd h1 eK
    refine eV.2 ⟨λx hx=>?_,G5 (λv hv=>hi v (cI _ hv)) h'.2⟩;rcases uH.1 hx with rfl|hx
    ·exact hut
    ·exact h'.1 x hx
def allBy {α:Type} [DecidableEq α] (key:α->List UInt8) (l:List α):List α:=l.foldl (λa t=>k7 key t a) []
theorem wI {α:Type} [DecidableEq α] (key:α->List UInt8) (l:List α) (t:α):allBy key (l++[t])=k7 key t (allBy key l):=by unfold allBy;rw[o0];rfl
theorem rD {α:Type} [DecidableEq α] {key:α->List UInt8} {S:α->Prop} (hS:∀a b,S a->S b->key a=key b->a=b):∀(l a:List α),(∀x∈l,S x)->(∀x∈a,S x)->yG key a->
  yG key (l.foldl (λa t=>k7 key t a) a)/\∀x,x∈l.foldl (λa t=>k7 key t a) a↔x∈a\/x∈l
 |[],a,_,_,h=>⟨h,λx=>by simp⟩
 |t::l,a,hl,ha,h=>by
  have ht:=hl t (bZ ..)
  obtain⟨h1,h2⟩:=rD hS l (k7 key t a) (λx hx=>hl x (cI _ hx)) (λx hx=>by
   rcases uH.1 hx with rfl|hx
   ·exact ht
   ·exact ha x hx) (G5 (λu hu e=>hS _ _ (ha u hu) ht e) h)
  refine ⟨h1,λx=> ?_⟩;rw[List.foldl_cons,h2,uH,cR];constructor
  ·rintro((h|h)|h)
   ·exact .inr (.inl h)
   ·exact .inl h
   ·exact .inr (.inr h)
  ·rintro(h|h|h)
   ·exact .inl (.inr h)
   ·exact .inl (.inl h)
   ·exact .inr h
theorem yG.nodup {α:Type} {key:α->List UInt8} {l:List α} (h:yG key l):l.Nodup:=h.imp λ{a b} h e=>by subst e;exact jw _ h
abbrev NT (t:Fd):Prop:=(0:UInt8)∉t.1
theorem xC {a b:Fd} (ha:NT a) (hb:NT b) (h:fv a=fv b):a=b:=by
 obtain⟨h1,h2⟩:=Bz ha hb h;exact vP h1 h2
def cX (tl:List (Fd×Nat)):List Fd:=allBy fv (tl.map (·.1))
theorem tQ {tl:List (Fd×Nat)} (hz:∀p∈tl,NT p.1):yG fv (cX tl):=
 (rD (S:=NT) (λ_ _=>xC) _ [] (λx hx=>by obtain⟨p,hp,rfl⟩:=ck.1 hx;exact hz p hp) (λx h=>by cases h) List.Pairwise.nil).1
theorem kY {tl:List (Fd×Nat)} (hz:∀p∈tl,NT p.1) {t:Fd}:t∈cX tl↔t∈tl.map (·.1):=by
 have:=(rD (S:=NT) (key:=fv) (λ_ _=>xC) (tl.map (·.1)) [] (λx hx=>by obtain⟨p,hp,rfl⟩:=ck.1 hx;exact hz p hp) (λx h=>by cases h) List.Pairwise.nil).2 t;simpa[cX,allBy]using this
theorem LZ (t:Fd):∀(ts:List (Fd×Nat)) (l:List Fd),t∈ts.foldl (λl p=>if p.1∈l then l else l++[p.1]) l↔t∈l\/t∈ts.map (·.1)
 |[],l=>by simp
 |p::ts,l=>by
  rw[List.foldl_cons,LZ t ts,fe,cR]
  split
  ·rename_i h
   constructor
   ·rintro(h1|h1)
    ·exact .inl h1
    ·exact .inr (.inr h1)
   ·rintro(h1|h1|h1)
    ·exact .inl h1
    ·exact .inl (by rw[h1];exact h)
    ·exact .inr h1
  ·rw[cP,b9];constructor
   ·rintro((h1|h1)|h1)
    ·exact .inl h1
    ·exact .inr (.inl h1)
    ·exact .inr (.inr h1)
   ·rintro(h1|h1|h1)
    ·exact .inl (.inl h1)
    ·exact .inl (.inr h1)
    ·exact .inr h1
theorem xD {tl:List (Fd×Nat)} {t:Fd}:t∈seen tl↔t∈tl.map (·.1):=by unfold seen;rw[LZ];simp
theorem G6 {tl:List (Fd×Nat)} {us:List Fd} (hz:∀p∈tl,NT p.1) (qL:us.Nodup) (k4:∀t,t∈us↔t∈seen tl) (Zh:Q3 us):us=cX tl:=by
 have hm:∀t,t∈us↔t∈cX tl:=λt=>by rw[k4,xD,kY hz]
 have kx:∀t∈cX tl,NT t:=λt ht=>by obtain⟨p,hp,rfl⟩:=ck.1 ((kY hz).1 ht);exact hz p hp
 refine List.Perm.eq_of_pairwise (le:=λa b=>¬compareBytes (fv b) (fv a)<0) (λa b ha hb h1 h2=>?_) Zh ((tQ hz).imp λ{a b} h h'=>jx h ((tP _ _).1 h')) ((List.perm_ext_iff_of_nodup qL (tQ hz).nodup).2 hm);rw[tP]at h1 h2;rcases kX (fv a) (fv b)with h|h|h
 ·exact absurd h h2
 ·exact xC (kx a ((hm a).1 ha)) (kx b hb) h
 ·exact absurd h h1
theorem rE (a b:List (Fd×Nat)) (t:Fd):posOf (a++b) t=posOf a t++posOf b t:=by simp[posOf]
theorem Q7 {tl:List (Fd×Nat)} {t:Fd} (h:t∈tl.map (·.1)):posOf tl t≠[]:=by
 obtain⟨p,hp,rfl⟩:=ck.1 h;intro e;have:p∈tl.filter λq=>decide (q.1=p.1):=kg.2 ⟨hp,by simp⟩
 rw[List.map_eq_nil_iff.1 e]at this;cases this
theorem NU {tl:List (Fd×Nat)} {t:Fd} (h:t∉tl.map (·.1)):posOf tl t=[]:=by
 unfold posOf;rw[List.filter_eq_nil_iff.2 λp hp=>by simp;intro e;exact h (ck.2 ⟨p,hp,e⟩)];rfl
theorem G7 (x:Fd) (t:Fd):(posOf (jv x) t).Sublist ((List.range' 0 (words x.2).length).map fun(i:Nat)=>(i:Int)):=by
 have e:(jv x).map (λp=>(p.2:Int))=(List.range' 0 (words x.2).length).map fun(i:Nat)=>(i:Int):=by
  rw[<-List.zipIdx_map_snd 0 (words x.2),p9];unfold jv;rw[p9];rfl
 rw[<-e];exact List.filter_sublist.map _
theorem NV (x:Fd) (t:Fd):(posOf (jv x) t).Pairwise (· < ·)/\∀i∈posOf (jv x) t,0<=i/\i<(words x.2).length:=by
 refine ⟨List.Pairwise.sublist (G7 x t) (dr.2 ((List.pairwise_lt_range' (s:=0) (n:=(words x.2).length)).imp λh=>by omega)),λi hi=> ?_⟩;have:=(G7 x t).subset hi;obtain⟨k,hk,rfl⟩:=ck.1 this;have:=List.mem_range'_1.1 hk;omega
theorem DI {x:Fd} {p:Fd×Nat} (h:p∈jv x):p.1.1=x.1/\p.1.2∈words x.2:=by
 obtain⟨q,hq,rfl⟩:=ck.1 h;have:=List.mem_zipIdx hq;exact⟨rfl,by simp only;rw[this.2.2];exact yg _⟩
theorem DJ {fs:List Fd} {p:Fd×Nat} (h:p∈cD fs):∃x∈fs,p.1.1=x.1/\p.1.2∈words x.2:=by
 obtain⟨x,hx,hp⟩:=kV.1 h;exact⟨x,hx,DI hp⟩
theorem wJ {x t:Fd} (h:x.1≠t.1):posOf (jv x) t=[]:=NU λhm=>by
 obtain⟨p,hp,rfl⟩:=ck.1 hm;exact h (DI hp).1.symm
theorem yH {t:Fd}:∀{fs:List Fd},(∀x∈fs,x.1≠t.1)->posOf (cD fs) t=[]
 |[],_=>rfl
 |x::fs,h=>by
  show posOf (jv x++cD fs) t=[];rw[rE,wJ (h x (bZ ..)),yH λy hy=>h y (cI _ hy)];rfl
theorem G8 {t:Fd}:∀{fs:List Fd},(fs.map (·.1)).Nodup->posOf (cD fs) t=[]\/∃x∈fs,posOf (cD fs) t=posOf (jv x) t
 |[],_=> .inl rfl
 |x::fs,h=>by
  have h':=AD.1 h;have e:posOf (cD (x::fs)) t=posOf (jv x) t++posOf (cD fs) t:=by show posOf (jv x++cD fs) t=_;rw[rE]
  by_cases hx:x.1=t.1
  ·refine .inr ⟨x,bZ ..,?_⟩;rw[e,yH λy hy e=>h'.1 (by have h9:y.1∈fs.map (·.1):=gU hy;rw[e,<-hx]at h9;exact h9),eJ]
  ·rw[e,wJ hx,ew];rcases G8 (t:=t) h'.2 with h1|⟨y,hy,h1⟩
   ·exact .inl h1
   ·exact .inr ⟨y,cI _ hy,h1⟩
theorem BC:∀{l:List Int} {last:Int},(∀x∈l,last<x)->l.Pairwise (· < ·)->eT last l=true
 |[],_,_,_=>rfl
 |x::l,last,h1,h2=>by
  have An:=eV.1 h2;simp only[eT,cv,decide_eq_true_eq];exact⟨h1 x (bZ ..),BC An.1 An.2⟩
structure ky (d:Dc):Prop where
 names:∀f∈d.2,iC f.1=true
 once:(d.2.map (·.1)).Nodup
 toks:∀f∈d.2,oL 0 (words f.2)=0
 many:(cD d.2).length<=500
 few:d.2.length<=8
theorem DK:∀{fs sn:List Fd} {n:Nat},CR sn fs n=0->(∀f∈fs,iC f.1=true/\oL 0 (words f.2)=0/\∀g∈sn,g.1≠f.1)/\(fs.map (·.1)).Nodup/\n+(cD fs).length<=500
 |[],sn,n,h=>by
  refine ⟨(λf hf=>by cases hf),List.nodup_nil,?_⟩;simp only[CR]at h
  split at h
  ·cases h
  ·simp[cD];omega
 |f::fs,sn,n,h=>by
  simp only[CR]at h
  split at h
  ·cases h
  ·rename_i h1
   split at h
   ·cases h
   ·rename_i h2
    split at h
    ·exact absurd h W4
    ·rename_i h3
     obtain⟨h4,h5,h6⟩:=DK h;have h7:∀g∈sn,g.1≠f.1:=λg hg e=>h2 (yf.2 ⟨g,hg,by simp[e]⟩)
     refine⟨λx hx=>?_,AD.2 ⟨λhm=>?_,h5⟩,?_⟩
     ·rcases cR.1 hx with rfl|hx
      ·exact⟨by simpa using h1,by simpa using h3,h7⟩
      ·obtain⟨a,b,c⟩:=h4 x hx;exact⟨a,b,λg hg=>c g (iH _ hg)⟩
     ·obtain⟨y,hy,e⟩:=ck.1 hm;exact(h4 y hy).2.2 f (List.mem_append_right _ (b9.2 G)) e.symm
     ·have:(cD (f::fs)).length=(jv f).length+(cD fs).length:=by show(jv f++cD fs).length=_;rw[aY]
      rw[this,qp];omega
theorem L0 {d:Dc} (h:nP d=0):ky d:=by
 unfold nP at h
 split at h
 ·cases h
 ·obtain⟨h1,h2,h3⟩:=DK h;exact⟨λf hf=>(h1 f hf).1,h2,λf hf=>(h1 f hf).2.1,by omega,by omega⟩
theorem DL:∀{ws:List (List UInt8)} {i:Nat},oL i ws=0->∀x∈ws,x.length<=30
 |[],_,_,x,hx=>by cases hx
 |a::ws,i,h,x,hx=>by
  simp only[oL]at h
  split at h
  ·cases h
  ·split at h
   ·cases h
   ·rcases cR.1 hx with rfl|hx
    ·omega
    ·exact DL h x hx
theorem Q8 {s:List UInt8} (h:iC s=true):(0:UInt8)∉s:=λh0=>by
 simp only[iC,cv,gM]at h;have:=h.2 0 h0
 revert this;decide
theorem ky.NW {d:Dc} (h:ky d):∀p∈cD d.2,NT p.1:=λp hp=>by
 obtain⟨x,hx,h1,_⟩:=DJ hp;show(0:UInt8)∉p.1.1;rw[h1];exact Q8 (h.names x hx)
theorem ky.small {d:Dc} (h:ky d):∀p∈cD d.2,p.1.1.length<=12/\p.1.2.length<=30:=λp hp=>by
 obtain⟨x,hx,h1,h2⟩:=DJ hp;exact⟨by rw[h1];exact GL (h.names x hx),DL (h.toks x hx) _ h2⟩
theorem ky.pos {d:Dc} (h:ky d) (t:Fd):(posOf (cD d.2) t).Pairwise (· < ·)/\(∀i∈posOf (cD d.2) t,0<=i/\i<500)/\(posOf (cD d.2) t).length<=500:=by
 have hl:=yF (cD d.2) t;have hm:=h.many;rcases G8 (t:=t) h.once with h1|⟨x,hx,h1⟩
 ·rw[h1];exact⟨List.Pairwise.nil,(λi hi=>by cases hi),by simp⟩
 ·obtain⟨h2,h3⟩:=NV x t
  have qb:(words x.2).length<=500:=by
   have:(jv x).length<=(cD d.2).length:=by
    obtain⟨i,hi⟩:=bQ.1 hx;have:=wH hi
    have h5:(cD (d.2.take (i+1))).length<=(cD d.2).length:=by
     have:cD d.2=cD (d.2.take (i+1))++cD (d.2.drop (i+1)):=by unfold cD;rw[<-List.flatMap_append,lj]
     rw[this,aY];omega
    rw[this,aY]at h5;omega
   rw[qp]at this;omega
  rw[h1]at hl ⊢;exact⟨h2,λi hi=>⟨(h3 i hi).1,by have:=(h3 i hi).2;omega⟩,by omega⟩
theorem ky.eT {d:Dc} (h:ky d) (t:Fd):rf (posOf (cD d.2) t)=true:=by
 obtain⟨h1,h2,_⟩:=h.pos t;exact rh.2 ⟨BC (λx hx=>by have:=(h2 x hx).1;omega) h1,λx hx=>by have:=(h2 x hx).2;omega⟩
abbrev mU (e:En):List (Fd×Nat):=cD e.1.2
def DM (i:Nat) (tl:List (Fd×Nat)) (k:List UInt8):List Po:=((cX tl).filter λt=>decide (fv t=k)).map λt=>((i:Int),posOf tl t)
def xE (k:List UInt8):Nat->List En->List Po
 |_,[]=>[]
 |i,e::L=>DM i (mU e) k++xE k (i+1) L
def pk (L:List En) (k:List UInt8):List Po:=xE k 0 L
theorem xF (k:List UInt8) (e:En):∀(L:List En) (i:Nat),xE k i (L++[e])=xE k i L++DM (i+L.length) (mU e) k
 |[],i=>by simp[xE]
 |x::L,i=>by
  simp only[mz,xE,xF k e L (i+1),eR,dG];rw[show i+1+L.length=i+(L.length+1) by omega]
theorem Vu (L:List En) (e:En) (k:List UInt8):pk (L++[e]) k=pk L k++DM L.length (mU e) k:=by
 unfold pk;rw[xF];simp
def jb (L:List En):List (List UInt8):=L.flatMap λe=>(cX (mU e)).map fv
theorem BD (L:List En) (e:En):jb (L++[e])=jb L++(cX (mU e)).map fv:=by simp[jb]
def keysOf (L:List En):List (List UInt8):=allBy id (jb L)
theorem lD (L:List En):CZ (keysOf L):=(rD (key:=id) (S:=λ_=>True) (λa b _ _ h=>h) _ [] (λ_ _=>trivial) (λ_ _=>trivial) List.Pairwise.nil).1
theorem ka {L:List En} {k:List UInt8}:k∈keysOf L↔k∈jb L:=by
 have:=(rD (key:=id) (S:=λ_=>True) (λa b _ _ h=>h) (jb L) [] (λ_ _=>trivial) (λ_ _=>trivial) List.Pairwise.nil).2 k;simpa[keysOf,allBy]using this
theorem filter_one {α:Type} {key:α->List UInt8} {l:List α} (h:yG key l) (k:List UInt8):l.filter (λt=>decide (key t=k))=[]\/∃t∈l,key t=k/\l.filter (λt=>decide (key t=k))=[t]:=by
 have h1:yG key (l.filter λt=>decide (key t=k)):=List.Pairwise.sublist List.filter_sublist h;have h2:∀x∈l.filter (λt=>decide (key t=k)),x∈l/\key x=k:=λx hx=>by simpa using kg.1 hx
 revert h1 h2
 generalize l.filter (λt=>decide (key t=k))=m;intro h1 h2
 match m,h1,h2 with
 |[],_,_=>exact .inl rfl
 |[t],_,h2=>exact .inr ⟨t,(h2 t (bZ ..)).1,(h2 t (bZ ..)).2,rfl⟩
 |t::u::m,h1,h2=>
  have:=(eV.1 h1).1 u (bZ ..);rw[(h2 t (bZ ..)).2,(h2 u (by simp)).2]at this;exact absurd this (jw k)
theorem L3 {d:Dc} (h:ky d) (i:Nat) (k:List UInt8):DM i (cD d.2) k=[]\/∃t∈cX (cD d.2),fv t=k/\DM i (cD d.2) k=[((i:Int),posOf (cD d.2) t)]:=by
 rcases filter_one (tQ h.NW) k with h1|⟨t,ht,hk,h1⟩
 ·exact .inl (by unfold DM;rw[h1];rfl)
 ·exact .inr ⟨t,ht,hk,by unfold DM;rw[h1];rfl⟩
theorem aau {tl:List (Fd×Nat)} {i:Nat} {t:Fd} (h:t∈cX tl):DM i tl (fv t)≠[]:=λe=>by
 have:t∈(cX tl).filter λu=>decide (fv u=fv t):=kg.2 ⟨h,by simp⟩
 rw[List.map_eq_nil_iff.1 e]at this;cases this
theorem xG (k:List UInt8):∀(L:List En) (i:Nat) (last:Int),(∀e∈L,ky e.1)->last<i->i+L.length<=2147483648->ik last (xE k i L)=true
 |[],_,_,_,_,_=>rfl
 |e::L,i,last,hF,h1,h2=>by
  have hf:=hF e (bZ ..);have hr:=λlast h=>xG k L (i+1) last (λx hx=>hF x (cI _ hx)) h (by simp at h2;omega)
  simp only[xE];rcases L3 hf i k with h3|⟨t,ht,hk,h3⟩
  ·rw[show DM i (mU e) k=[]from h3];exact hr last k3
  ·rw[show DM i (mU e) k=_ from h3]
   have fG:(posOf (cD e.1.2) t).isEmpty=false:=by
    have:=Q7 ((kY hf.NW).1 ht)
    cases h:posOf (cD e.1.2) t with
    |nil=>exact absurd h this
    |cons a b=>rfl
   simp only[mz,ew,ik,fG,hf.eT t,hr i (by omega),Bool.and_true,Bool.not_false,cv,decide_eq_true_eq];simp at h2;omega
theorem mJ (k:List UInt8):∀(L:List En) (i:Nat),(∀e∈L,ky e.1)->(xE k i L).length<=L.length/\∀p∈xE k i L,(i:Int)<=p.1/\p.1<i+L.length/\p.2.length<=500
 |[],_,_=>⟨aN _,λp h=>by cases h⟩
 |e::L,i,hF=>by
  have hf:=hF e (bZ ..);obtain⟨h1,h2⟩:=mJ k L (i+1) (λx hx=>hF x (cI _ hx));simp only[xE,dG];rcases L3 hf i k with h3|⟨t,ht,hk,h3⟩
  ·rw[show DM i (mU e) k=[]from h3];exact⟨by simpa using Nat.le_succ_of_le h1,λp hp=>by have:=h2 p (by simpa using hp);exact⟨by omega,by omega,this.2.2⟩⟩
  ·rw[show DM i (mU e) k=_ from h3];refine ⟨by simp;omega,λp hp=> ?_⟩;rcases cR.1 hp with rfl|hp
   ·exact⟨zM _,by simp only;omega,(hf.pos t).2.2⟩
   ·have:=h2 p (by simpa using hp);exact⟨by omega,by omega,this.2.2⟩
theorem yI:∀(l:List Po) (last:Int) (m:Nat),-1<=last->ik last l=true->(∀p∈l,p.2.length<=m)->m<=1000000->(eY last l).length<=(18+9*m)*l.length/\kG l<=m*l.length
 |[],_,_,_,_,_,_=>⟨by simp[eY],by simp[kG]⟩
 |(d,ps)::l,last,m,h0,hm,hs,hmm=>by
  simp only[ik,cv,decide_eq_true_eq]at hm;obtain⟨⟨⟨⟨h1,h2⟩,h3⟩,h4⟩,h5⟩:=hm;obtain⟨h6,h7⟩:=rh.1 h4;have l4:=hs _ (bZ ..);simp only at l4;obtain⟨i1,i2⟩:=yI l d m k3 h5 (λp hp=>hs p (cI _ hp)) hmm;have a1:=AU ps (-1) k3 (λx hx=>by have:=h7 x hx;omega) h6;have a3:=nf (n:=(d-last-1).toNat) k3;have a4:=nf (n:=ps.length) k3;have e1:9*ps.length<=9*m:=by omega
  constructor
  ·simp only[eY,fF,aY,dG,Nat.mul_add,fN];omega
  ·simp only[kG,fe,List.sum_cons,dG]at i2 ⊢;rw[Int.natCast_add,Int.mul_add];omega
abbrev Sg:Type:=List Int×List Int×List (List UInt8)×List (List Po)
theorem JU {k:List UInt8}:∀{L:List En} (i:Nat),k∈jb L->xE k i L≠[]
 |[],_,h=>by cases h
 |e::L,i,h=>by
  simp only[xE];intro hn;obtain⟨h1,h2⟩:=List.append_eq_nil_iff.1 hn;have h:k∈(cX (mU e)).map fv++jb L:=h;rcases cP.1 h with h|h
  ·obtain⟨t,ht,rfl⟩:=ck.1 h;exact aau ht h1
  ·exact JU (i+1) h h2
theorem ES {k:List UInt8}:∀{L:List En} (i:Nat),k∉jb L->xE k i L=[]
 |[],_,_=>rfl
 |e::L,i,h=>by
  have h:k∉(cX (mU e)).map fv++jb L:=h;rw[cP,not_or]at h;simp only[xE];rw[ES (i+1) h.2,eJ];unfold DM;rw[List.filter_eq_nil_iff.2 λt ht=>by simp;intro e';exact h.1 (ck.2 ⟨t,ht,e'⟩)];rfl
end Go.K
namespace Go.K
def RT.ptr {α:Type} (A:RT α) (hn:0<A.n:=by decide):RT α where
 n:=1
 agg:=false
 R:=λM w x vs=>∃b o us,vs=[.pointer (some ⟨b,o,none⟩)]/\¬M b/\A.R M w x us/\w.rangeAt b o us
 len:=by rintro _ _ x vs ⟨b,o,us,rfl,_⟩;rfl
 one:=by rintro _ _ x vs ⟨b,o,us,rfl,_⟩ v hv;simp at hv;subst hv;rfl
 le:=by
  rintro M w M' w' x vs hl ⟨b,o,us,h1,h2,h3,h4⟩;have hp:0<us.length:=by rw[A.len h3];exact hn
  have hc:=h4 0 (us[0]'hp) (al hp);exact⟨b,o,us,h1,(hl b (World.block_lt_of_cell? w _ hc) h2).1,A.le hl h3,vX hl h2 h4⟩
theorem oQ {α:Type} {A:RT α} {hn:0<A.n} {M:aJ} {w:World} {x:α} {v:Value}:(A.ptr hn).V M w x v↔dv A M w v x:=
 ⟨fun⟨vs,⟨b,o,us,h1,h2,h3,h4⟩,h5⟩=>⟨b,o,us,by subst h1;exact h5,h2,h3,h4⟩,fun⟨b,o,us,h1,h2,h3,h4⟩=>⟨[v],⟨b,o,us,by rw[h1],h2,h3,h4⟩,rfl⟩⟩
abbrev Di:=List (List UInt8)×List Li
abbrev Se:=List Int×List Int×Di
abbrev RT.di:RT Di:=RT.pair (RT.str.sl) (((RT.li).ptr).sl)
abbrev RT.se:RT Se:=RT.pair ((RT.int .i64).sl) (RT.pair ((RT.int .i64).sl) ((RT.di).ptr))
theorem di0:Part RT.di (RT.str.sl) (λp=>p.1) 0:=o7 _ _
theorem di1:Part RT.di (((RT.li).ptr).sl) (λp=>p.2) 1:=jS _ _
theorem se0:Part RT.se ((RT.int .i64).sl) (λp=>p.1) 0:=o7 _ _
theorem se1:Part RT.se ((RT.int .i64).sl) (λp=>p.2.1) 1:=(jS ((RT.int .i64).sl) (RT.pair ((RT.int .i64).sl) ((RT.di).ptr))).trans (o7 _ _)
theorem se2:Part RT.se ((RT.di).ptr) (λp=>p.2.2) 2:=(jS ((RT.int .i64).sl) (RT.pair ((RT.int .i64).sl) ((RT.di).ptr))).trans (jS ((RT.int .i64).sl) ((RT.di).ptr))
abbrev Pa:=List Int×List Int×List (List UInt8)×List (List Po)
abbrev RT.pa:RT Pa:=RT.pair ((RT.int .i64).sl) (RT.pair ((RT.int .i64).sl) (RT.pair (RT.str.sl) (((RT.po).sl).sl)))
theorem pa0:Part RT.pa ((RT.int .i64).sl) (λp=>p.1) 0:=o7 _ _
theorem Vv:Part RT.pa ((RT.int .i64).sl) (λp=>p.2.1) 1:=(jS ((RT.int .i64).sl) (RT.pair ((RT.int .i64).sl) (RT.pair (RT.str.sl) (((RT.po).sl).sl)))).trans (o7 _ _)
theorem pa2:Part RT.pa (RT.str.sl) (λp=>p.2.2.1) 2:=((jS ((RT.int .i64).sl) (RT.pair ((RT.int .i64).sl) (RT.pair (RT.str.sl) (((RT.po).sl).sl)))).trans (jS ((RT.int .i64).sl) (RT.pair (RT.str.sl) (((RT.po).sl).sl)))).trans (o7 _ _)
theorem XS:Part RT.pa (((RT.po).sl).sl) (λp=>p.2.2.2) 3:=((jS ((RT.int .i64).sl) (RT.pair ((RT.int .i64).sl) (RT.pair (RT.str.sl) (((RT.po).sl).sl)))).trans (jS ((RT.int .i64).sl) (RT.pair (RT.str.sl) (((RT.po).sl).sl)))).trans (jS _ _)
theorem anq {M:aJ} {w:World} {x:Se} {a b c:Value} (h0:((RT.int .i64).sl).V M w x.1 a) (h1:((RT.int .i64).sl).V M w x.2.1 b) (h2:dv RT.di M w c x.2.2):RT.se.V M w x (.agg [a,b,c].toArray):=
 ⟨[a,b,c],⟨[a],[b,c],rfl,oC h0 rfl rfl,[b],[c],rfl,oC h1 rfl rfl,oC (oQ.2 h2) rfl rfl⟩,rfl⟩
theorem NX {M:aJ} {w:World} {x:Pa} {a b c d:Value} (h0:((RT.int .i64).sl).V M w x.1 a) (h1:((RT.int .i64).sl).V M w x.2.1 b) (h2:(RT.str.sl).V M w x.2.2.1 c) (h3:(((RT.po).sl).sl).V M w x.2.2.2 d):RT.pa.V M w x (.agg [a,b,c,d].toArray):=
 ⟨[a,b,c,d],⟨[a],[b,c,d],rfl,oC h0 rfl rfl,[b],[c,d],rfl,oC h1 rfl rfl,[c],[d],rfl,oC h2 rfl rfl,oC h3 rfl rfl⟩,rfl⟩
theorem aaw {M:aJ} {w:World} {x:Pa} {v:Value} (h:RT.pa.V M w x v):∃a b c d,v= .agg [a,b,c,d].toArray/\((RT.int .i64).sl).V M w x.1 a/\((RT.int .i64).sl).V M w x.2.1 b/\(RT.str.sl).V M w x.2.2.1 c/\(((RT.po).sl).sl).V M w x.2.2.2 d:=by
 obtain⟨vs,⟨va,vb,rfl,h1,vc,vd,rfl,h2,ve,vf,rfl,h3,h4⟩,rfl⟩:=h;have e1:=(RT.sl (RT.int .i64)).len h1;have e2:=(RT.sl (RT.int .i64)).len h2;have e3:=(RT.sl RT.str).len h3;have e4:=(RT.sl (RT.sl RT.po)).len h4
 match va,vc,ve,vf,e1,e2,e3,e4,h1,h2,h3,h4 with
 |[a],[b],[c],[d],_,_,_,_,h1,h2,h3,h4=>exact⟨a,b,c,d,rfl,⟨_,h1,rfl⟩,⟨_,h2,rfl⟩,⟨_,h3,rfl⟩,⟨_,h4,rfl⟩⟩
theorem ET {α:Type} {A:RT α} (hg:A.agg=true) {M:aJ} {w:World} {x:α} {vs:List Value} (h:A.V M w x (.agg vs.toArray)):∀u∈vs,u.oneCell'=true:=by
 obtain⟨us,h1,h2⟩:=h
 have:vs=us:=by
  unfold RT.val at h2;rw[if_pos hg]at h2;injection h2 with h2
  simpa using congrArg Array.toList h2
 subst this;exact A.one h1
theorem eX.free {α:Type} {A:RT α} (hA:∀M w M' w' x vs,A.R M w x vs->A.R M' w' x vs) {M M':aJ} {w w':World}:∀{xs:List α} {C:List Value},eX A M w xs C->eX A M' w' xs C
 |[],_,h=>h
 |x::xs,C,h=>by
  obtain⟨vs,r,h1,h2,h3⟩:=h;exact⟨vs,r,h1,hA _ _ _ _ _ _ h2,eX.free hA h3⟩
theorem Own.tell {α:Type} {A:RT α} {hn:0<A.n} (hA:∀M w M' w' x vs,A.R M w x vs->A.R M' w' x vs) {e:TypeId} {M M0:aJ} {w:World} {base:Nat} {v:Value} {xs:List α} (h:Own A e M w base v xs) (hb:∀b,v.ownBlock=some b->¬M0 b) (hlen:xs.length<=140737488355328):(A.sl hn).V M0 w xs v:=by
 obtain⟨⟨C,hr,ha⟩,hm⟩:=h;have h':Own A e (λb=>v.ownBlock=some b\/M0 b) w base v xs:=⟨⟨C,hr,eX.free hA ha⟩,λb hb=> .inl hb⟩;exact h'.sl (λb _ hn=>⟨λh=>hn (.inr h),rfl⟩) hb hlen
end Go.K
namespace Go.K
open Go.Maps (Keyed)
section
variable {P:Program} {r:Option Nat} {n:Nat} {L:Sl} {ds:List Deferred} {w:World} {K:Kt} {ops:Array Oper} {rest:List Oper} {d:Nat} {x y z:Operand} {ty:TypeId} {pos:String} {af:Array Edge}
variable {kt:TypeId} {M:aJ} {b clock:Nat} {es:List MapEntry}
theorem hU.aax (h:hU P kt w b es clock) {i s:Nat} {key v0 val:Value} (hi:es[i]? =some ⟨key,v0,s⟩) {w':World} (hw:w'.heap[b]? =some (.map (es.set i ⟨key,val,s⟩).toArray clock)):
  hU P kt w' b (es.set i ⟨key,val,s⟩) clock/\(es.set i ⟨key,val,s⟩).map (·.key)=es.map (·.key)/\∀zv kL v',fj zv (es.set i ⟨key,val,s⟩) kL v'↔(kL=key/\v'=val)\/(kL≠key/\fj zv es kL v'):=by
 have pX:=(aj.1 hi).1;have k4:(⟨key,v0,s⟩:MapEntry)∈es:=au hi;obtain⟨sd,yC⟩:∃sd,sd=es.set i ⟨key,val,s⟩:=⟨_,rfl⟩;rw[<-yC]at hw ⊢
 have km:∀j e',sd[j]? =some e'→(j=i/\e'=⟨key,val,s⟩)\/(j≠i/\es[j]? =some e'):=λj e' hj=>by
  rw[yC,dN]at hj
  split at hj
  ·rename_i kS
   left;exact⟨kS.symm,by simpa[pX]using hj.symm⟩
  ·rename_i kS
   exact .inr ⟨λe=>kS e.symm,hj⟩
 have sf:sd.map (·.key)=es.map (·.key):=by
  rw[yC,List.map_set];apply eS;intro j;rw[dN]
  split
  ·rename_i kS
   subst kS;have e:=(aj.1 hi).2;simp[pX,e]
  ·rfl
 have QQ:sd.map (·.born)=es.map (·.born):=by
  rw[yC,List.map_set];apply eS;intro j;rw[dN]
  split
  ·rename_i kS
   subst kS;have e:=(aj.1 hi).2;simp[pX,e]
  ·rfl
 have fO:∀e'∈sd,(e'=⟨key,val,s⟩)\/(e'∈es/\e'.key≠key):=λe' tN=>by
  obtain⟨j,hj⟩:=bQ.1 tN;rcases km j e' hj with⟨_,e⟩|⟨fG,AP⟩
  ·exact .inl e
  ·refine .inr ⟨au AP,λe=>fG ?_⟩;rcases fJ j i with h1|h1|h1
   ·exact absurd e (jP h.keys AP hi h1)
   ·exact h1
   ·exact absurd e.symm (jP h.keys hi AP h1)
 have QR:(⟨key,val,s⟩:MapEntry)∈sd:=au (i:=i) (by rw[yC,dN];simp[pX])
 have hold:∀e'∈es,e'.key≠key->e'∈sd:=λe' tN fG=>by
  obtain⟨j,hj⟩:=bQ.1 tN;refine au (i:=j) ?_;rw[yC,dN,if_neg]
  ·exact hj
  ·rintro rfl;rw[hi]at hj;cases hj;exact fG G
 refine⟨⟨hw,?_,λe' tN=>?_,?_,λe' tN=>?_⟩,sf,λzv kL v'=>?_⟩
 ·have:=dr.2 h.born;rw[<-QQ]at this;exact dr.1 this
 ·rcases fO e' tN with e|⟨h1,_⟩
  ·rw[e];exact(h.lt _ k4:s<clock)
  ·exact h.lt _ h1
 ·have:=dr.2 h.keys;rw[<-sf]at this;exact dr.1 this
 ·rcases fO e' tN with e|⟨h1,_⟩
  ·rw[e];exact(h.ok _ k4:∃l,keyOf P kt key=some l)
  ·exact h.ok _ h1
 ·constructor
  ·rintro(⟨e',tN,hk,hv⟩|⟨h1,h2⟩)
   ·rcases fO e' tN with e|⟨h3,h4⟩
    ·subst e;exact .inl ⟨hk.symm,hv⟩
    ·exact .inr ⟨by rw[<-hk];exact h4,.inl ⟨e',h3,hk,hv⟩⟩
   ·have fG:kL≠key:=λe=>h1 _ QR e.symm
    exact .inr ⟨fG,.inr ⟨λe' tN=>λe=>by
     by_cases h5:e'.key=key
     ·exact fG (e.symm.trans h5)
     ·exact h1 e' (hold e' tN h5) e,h2⟩⟩
  ·rintro(⟨rfl,rfl⟩|⟨fG,⟨e',tN,hk,hv⟩|⟨h1,h2⟩⟩)
   ·exact .inl ⟨_,QR,G,G⟩
   ·exact .inl ⟨e',hold e' tN (by rw[hk];exact fG),hk,hv⟩
   ·exact .inr ⟨λe' tN=>by
     rcases fO e' tN with e|⟨h3,_⟩
     ·rw[e];exact λe=>fG e.symm
     ·exact h1 e' h3,h2⟩
theorem fj.put {key val:Value} {s:Nat} (hn:∀e∈es,e.key≠key) (zv kL v':Value):fj zv (es++[⟨key,val,s⟩]) kL v'↔(kL=key/\v'=val)\/(kL≠key/\fj zv es kL v'):=by
 constructor
 ·rintro(⟨e,he,hk,hv⟩|⟨h1,h2⟩)
  ·rcases cP.1 he with he|he
   ·exact .inr ⟨by rw[<-hk];exact hn e he,.inl ⟨e,he,hk,hv⟩⟩
   ·obtain rfl:=b9.1 he;exact .inl ⟨hk.symm,hv⟩
  ·exact .inr ⟨λe=>h1 ⟨key,val,s⟩ (by simp) e.symm,.inr ⟨λe he=>h1 e (iH _ he),h2⟩⟩
 ·rintro(⟨rfl,rfl⟩|⟨fG,⟨e,he,hk,hv⟩|⟨h1,h2⟩⟩)
  ·exact .inl ⟨⟨_,_,s⟩,by simp,rfl,rfl⟩
  ·exact .inl ⟨e,iH _ he,hk,hv⟩
  ·refine .inr ⟨λe he=>?_,h2⟩;rcases cP.1 he with he|he
   ·exact h1 e he
   ·obtain rfl:=b9.1 he;exact λe=>fG e.symm
theorem Rg.Vw {t e:TypeId} {key val:Value} {kl:Lit} (ht:P.underlying t=some (.map kt e)) (Kk:Keyed P kt) (hx:ev L x=some (.map (some b))) (hy:ev L y=some key) (hz:ev L z=some val) (nw:keyOf P kt key=some kl) (h:hU P kt w b es clock) (hm:M b)
  (k:∀w' sd JH,hU P kt w' b sd JH->((sd.map (·.key)=es.map (·.key)/\∃e∈es,e.key=key)\/(sd.map (·.key)=es.map (·.key)++[key]/\∀e∈es,e.key≠key))->(∀zv kL v',fj zv sd kL v'↔(kL=key/\v'=val)\/(kL≠key/\fj zv es kL v'))->Step M w M w' (λk=>k=b)->Rg P r n ops rest L ds w' K):
  Rg P r n ops ({dst:=none,op:= .mapUpdate t x y z,type:=ty,pos,after:=af,guard:=none}::rest) L ds w K:=by
 have eK:=ae h.at_;rcases Kk.find w nw es h.ok with⟨h1,h2⟩|⟨j,e0,h1,h2,h3⟩
 ·have hw:({w with heap:=w.heap.setIfInBounds b (.map (es.toArray.push ⟨key,val,clock⟩) (clock+1))}:World).heap[b]? =some (.map (es++([⟨key,val,clock⟩]:List MapEntry)).toArray (clock+1)):=by
   simp[ei,eK]
  refine .W5 a04 G G _ (λρ hρ=>?_) (k _ _ _ (h.push nw h2 hw) (Or.inr ⟨by simp,h2⟩) (fj.put h2) (kI M hm));simp only[execOp,hρ x _ hx,hρ y _ hy,hρ z _ hz,Instr.mapUpdate,cA,run_underlying ht,dd,eI h.at_,Kk.check w false nw,h1,run_setObj_map h.at_];simp
 ·have he:e0∈es:=au h2;obtain⟨k0,v0,s0⟩:=e0;simp only at h3;subst h3;have hj:es.toArray[j]? =some ⟨k0,v0,s0⟩:=by simpa using h2
  have QP:es.toArray.modify j (λe=>{e with key:=k0,val:=val})=(es.set j ⟨k0,val,s0⟩).toArray:=by
   apply Array.ext_getElem?;intro i;rw[lp];simp only[ec,dN]
   split
   ·rename_i XN
    subst XN;have:=(aj.1 h2).1;rw[h2];simp[this]
   ·rfl
  have hw:({w with heap:=w.heap.setIfInBounds b (.map (es.set j ⟨k0,val,s0⟩).toArray clock)}:World).heap[b]? =some (.map (es.set j ⟨k0,val,s0⟩).toArray clock):=by simp[ei,eK]
  obtain⟨hW,xg,Cv⟩:=h.aax h2 hw
  have mi:(Instr.keyThatStays ((Option.map (fun(e:MapEntry)=>e.key) es.toArray[j]?).getD k0) k0).run P w= .ok k0 w:=by
   rw[hj];simp only[dA,Option.getD_some];exact Kk.stays w nw
  refine .W5 a04 G G _ (λρ hρ=>?_) (k _ _ clock hW (Or.inl ⟨xg,_,he,G⟩) Cv (kI M hm));simp only[execOp,hρ x _ hx,hρ y _ hy,hρ z _ hz,Instr.mapUpdate,cA,run_underlying ht,dd,eI h.at_,Kk.check w false nw,h1,mi,QP,run_setObj_map h.at_];simp
theorem G9 {t e:TypeId} {zv key:Value} {size bytes:Nat} {kl:Lit} (ht:P.underlying t=some (.map kt e)) (Kk:Keyed P kt) (hi:TI P e zv size bytes) (nw:keyOf P kt key=some kl) (h:hU P kt w b es clock):
  ∃v,fj zv es key v/\∀(w:World) (ρ:Operand->Value) (dst:Option Tmp) (gd:Option (Nat×Bool)),ρ x= .map (some b)->ρ y=key->hU P kt w b es clock->(execOp ρ {dst,op:= .lookup t x y false,type:=ty,pos,after:=af,guard:=gd}).run P w= .ok (.value v) w:=by
 rcases Kk.find w nw es h.ok with⟨h1,h2⟩|⟨j,e0,h1,h2,h3⟩
 ·refine ⟨zv,Or.inr ⟨h2,G⟩,λw ρ dst gd hx hy h=> ?_⟩;obtain⟨inf,i1,i2,_,_⟩:=hi.get;have hz:(zeroValue e).run P w= .ok zv w:=by simp[zeroValue,typeInfo,i1,i2]
  rcases Kk.find w nw es h.ok with⟨h1,_⟩|⟨j,e0,_,g2,g3⟩
  ·simp only[execOp,hx,hy,Instr.lookup,cA,run_underlying ht,dd,eI h.at_,zN,Kk.check w _ nw,h1,hz];simp
  ·exact absurd g3 (h2 e0 (au g2))
 ·refine⟨e0.val,Or.inl ⟨e0,au h2,h3,G⟩,λw ρ dst gd hx hy h=>?_⟩;rcases Kk.find w nw es h.ok with⟨_,g2⟩|⟨j',e1,g1,g2,g3⟩
  ·exact absurd h3 (g2 e0 (au h2))
  ·have:e1=e0:=h.LQ (au g2) (au h2) (g3.trans h3.symm);subst this;simp only[execOp,hx,hy,Instr.lookup,cA,run_underlying ht,dd,eI h.at_,zN,Kk.check w _ nw,g1];simp
theorem bO.xw {N:aJ} {t e:TypeId} {zv key:Value} {size bytes:Nat} {kl:Lit} {dst:Option Tmp} {gd:Option (Nat×Bool)} (ht:P.underlying t=some (.map kt e)) (Kk:Keyed P kt) (hi:TI P e zv size bytes) (hx:ev L x=some (.map (some b))) (hy:ev L y=some key) (nw:keyOf P kt key=some kl) (h:hU P kt w b es clock) (hn: ¬N b):
  bO P N w L {dst,op:= .lookup t x y false,type:=ty,pos,after:=af,guard:=gd}:=λρ hρ v w' hk hr=>by
 obtain⟨v0,_,jf⟩:=G9 (x:=x) (y:=y) (ty:=ty) (pos:=pos) (af:=af) ht Kk hi nw h;have h':hU P kt w' b es clock:=⟨(hk.2 b (ae h.at_) hn).trans h.at_,h.born,h.lt,h.keys,h.ok⟩;rw[jf w ρ dst gd (hρ x _ hx) (hρ y _ hy) h]at hr;rw[jf w' ρ dst gd (hρ x _ hx) (hρ y _ hy) h'];injection hr with h1 h2
 rw[h1]
end
end Go.K
namespace Go.Proofs
open Go.Shelf
def Tryz.DN:Go.Shelf.Ren:=⟨fun|7=>54|10=>101|n=>n,fun|23=>89|26=>3|3=>97|28=>115|0=>0|27=>114|33=>104|4=>4|n=>n,fun|n=>n⟩
theorem Tryz.afG:Go.Proofs.SlLaysZI.n7 Tryz.prog Tryz.DN:={
 mixed:=by kernel_rfl
 f7:=⟨Tryz.f54.name,by decide,Tryz.func54.trans a02⟩
 f10:=⟨Tryz.f101.name,by decide,Tryz.func101.trans a02⟩
 t0:=ic
 a0:=nB
 z0:=lW
 v0:=iT
 t4:=fm
 a4:=vg
 z4:=p8
 v4:=kZ
 t23:=Tryz.underlying89
 a23:=Tryz.isAgg89
 z23:=Tryz.sizeOf89
 v23:=Tryz.zeroValue89
 t26:=aq
 a26:=nC
 z26:=lX
 v26:=iU
 t27:=Tryz.underlying114
 a27:=Tryz.isAgg114
 z27:=Tryz.sizeOf114
 v27:=Tryz.zeroValue114
 t28:=Tryz.underlying115
 a28:=Tryz.isAgg115
 z28:=Tryz.sizeOf115
 v28:=Tryz.zeroValue115
 t33:=Tryz.underlying104
 a33:=Tryz.isAgg104
 z33:=Tryz.sizeOf104
 v33:=Tryz.zeroValue104}
def Tryz.zy:Go.Shelf.Ren:=⟨fun|6=>53|8=>99|9=>100|11=>152|13=>115|12=>153|23=>172|24=>173|14=>204|15=>205|16=>206|17=>207|18=>208|19=>209|20=>210|21=>211|22=>212|25=>259|26=>218|27=>219|28=>260|29=>261|30=>116|31=>286|n=>n,fun|26=>3|28=>115|24=>37|0=>0|3=>3|37=>189|48=>257|50=>190|4=>4|40=>251|39=>250|45=>202|5=>5|9=>9|51=>296|55=>300|57=>327|58=>328|33=>104|n=>n,fun|n=>n⟩
theorem Tryz.Vx:Go.Proofs.SlLaysZI.n6 Tryz.prog Tryz.zy:={
 mixed:=by kernel_rfl
 f6:=⟨Tryz.f53.name,by decide,Tryz.func53.trans a02⟩
 f8:=⟨Tryz.f99.name,by decide,Tryz.func99.trans a02⟩
 f11:=⟨Tryz.f152.name,by decide,Tryz.func152.trans a02⟩
 t0:=ic
 a0:=nB
 z0:=lW
 v0:=iT
 t24:=ah
 a24:=Tryz.isAgg37
 z24:=Tryz.sizeOf37
 v24:=Tryz.zeroValue37
 t26:=aq
 a26:=nC
 z26:=lX
 v26:=iU
 t28:=Tryz.underlying115
 a28:=Tryz.isAgg115
 z28:=Tryz.sizeOf115
 v28:=Tryz.zeroValue115
 i26:=by kernel_rfl}
def Tryz.NY:Go.Shelf.Ren:=⟨fun|5=>100|8=>115|7=>153|19=>172|20=>173|10=>204|11=>205|12=>206|13=>207|14=>208|15=>209|16=>210|17=>211|18=>212|30=>259|31=>218|32=>219|33=>260|34=>261|35=>116|40=>286|n=>n,fun|23=>37|25=>3|3=>3|32=>189|22=>37|0=>0|44=>257|46=>190|4=>4|36=>251|35=>250|41=>202|5=>5|9=>9|53=>296|57=>300|63=>327|64=>328|n=>n,fun|n=>n⟩
theorem Tryz.XT:Go.Proofs.SlLaysM.n5 Tryz.prog Tryz.NY:={
 mixed:=by kernel_rfl
 f5:=⟨Tryz.f100.name,by decide,Tryz.func100.trans a02⟩
 f7:=⟨Tryz.f153.name,by decide,Tryz.func153.trans a02⟩
 f8:=Tryz.func115.trans a02
 f10:=⟨Tryz.f204.name,by decide,Tryz.func204.trans a02⟩
 f11:=⟨Tryz.f205.name,by decide,Tryz.func205.trans a02⟩
 f12:=⟨Tryz.f206.name,by decide,Tryz.func206.trans a02⟩
 f13:=⟨Tryz.f207.name,by decide,Tryz.func207.trans a02⟩
 f14:=⟨Tryz.f208.name,by decide,Tryz.func208.trans a02⟩
 f15:=⟨Tryz.f209.name,by decide,Tryz.func209.trans a02⟩
 f16:=⟨Tryz.f210.name,by decide,Tryz.func210.trans a02⟩
 f17:=⟨Tryz.f211.name,by decide,Tryz.func211.trans a02⟩
 f18:=⟨Tryz.f212.name,by decide,Tryz.func212.trans a02⟩
 f19:=Tryz.func172.trans a02
 f20:=Tryz.func173.trans a02
 f30:=⟨Tryz.f259.name,by decide,Tryz.func259.trans a02⟩
 f31:=Tryz.func218.trans a02
 f32:=Tryz.func219.trans a02
 f33:=⟨Tryz.f260.name,by decide,Tryz.func260.trans a02⟩
 f34:=⟨Tryz.f261.name,by decide,Tryz.func261.trans a02⟩
 f35:=⟨Tryz.f116.name,by decide,Tryz.func116.trans a02⟩
 f40:=⟨Tryz.f286.name,by decide,Tryz.func286.trans a02⟩
 t0:=ic
 a0:=nB
 z0:=lW
 v0:=iT
 t3:=aq
 a3:=nC
 z3:=lX
 v3:=iU
 t4:=fm
 a4:=vg
 z4:=p8
 v4:=kZ
 t5:=dq
 a5:=Tryz.isAgg5
 z5:=Tryz.sizeOf5
 v5:=wY
 t9:=aG
 a9:=nD
 z9:=lY
 v9:=iV
 t22:=ah
 a22:=Tryz.isAgg37
 z22:=Tryz.sizeOf37
 v22:=Tryz.zeroValue37
 t23:=ah
 a23:=Tryz.isAgg37
 z23:=Tryz.sizeOf37
 v23:=Tryz.zeroValue37
 t25:=aq
 a25:=nC
 z25:=lX
 v25:=iU
 t32:=lF
 a32:=Tryz.isAgg189
 z32:=Tryz.sizeOf189
 v32:=Tryz.zeroValue189
 t35:=Tryz.underlying250
 a35:=Tryz.isAgg250
 z35:=Tryz.sizeOf250
 v35:=Tryz.zeroValue250
 t36:=Tryz.underlying251
 a36:=Tryz.isAgg251
 z36:=Tryz.sizeOf251
 v36:=Tryz.zeroValue251
 t41:=Tryz.underlying202
 a41:=Tryz.isAgg202
 z41:=Tryz.sizeOf202
 v41:=Tryz.zeroValue202
 t44:=Tryz.underlying257
 a44:=Tryz.isAgg257
 z44:=Tryz.sizeOf257
 v44:=Tryz.zeroValue257
 t46:=vT
 a46:=Tryz.isAgg190
 z46:=Tryz.sizeOf190
 v46:=Tryz.zeroValue190
 t53:=Tryz.underlying296
 a53:=Tryz.isAgg296
 z53:=Tryz.sizeOf296
 v53:=Tryz.zeroValue296
 t57:=Tryz.underlying300
 a57:=Tryz.isAgg300
 z57:=Tryz.sizeOf300
 v57:=Tryz.zeroValue300
 t63:=Tryz.underlying327
 a63:=Tryz.isAgg327
 z63:=Tryz.sizeOf327
 v63:=Tryz.zeroValue327
 t64:=Tryz.underlying328
 a64:=Tryz.isAgg328
 z64:=Tryz.sizeOf328
 v64:=Tryz.zeroValue328}
def Tryz.DO:Go.Shelf.Ren:=⟨fun|7=>91|10=>142|n=>n,fun|23=>151|26=>9|3=>80|28=>162|0=>0|27=>161|33=>167|4=>4|n=>n,fun|n=>n⟩
theorem Tryz.L4:Go.Proofs.SlLaysZ.n7 Tryz.prog Tryz.DO:={
 mixed:=by kernel_rfl
 f7:=⟨Tryz.f91.name,by decide,Tryz.func91.trans a02⟩
 f10:=⟨Tryz.f142.name,by decide,Tryz.func142.trans a02⟩
 t0:=ic
 a0:=nB
 z0:=lW
 v0:=iT
 t4:=fm
 a4:=vg
 z4:=p8
 v4:=kZ
 t23:=jZ
 a23:=Tryz.isAgg151
 z23:=Tryz.sizeOf151
 v23:=Tryz.zeroValue151
 t26:=aG
 a26:=nD
 z26:=lY
 v26:=iV
 t27:=Tryz.underlying161
 a27:=Tryz.isAgg161
 z27:=Tryz.sizeOf161
 v27:=Tryz.zeroValue161
 t28:=Tryz.underlying162
 a28:=Tryz.isAgg162
 z28:=Tryz.sizeOf162
 v28:=Tryz.zeroValue162
 t33:=Tryz.underlying167
 a33:=Tryz.isAgg167
 z33:=Tryz.sizeOf167
 v33:=Tryz.zeroValue167}
def Tryz.zz:Go.Shelf.Ren:=⟨fun|6=>90|8=>140|9=>141|11=>191|13=>115|12=>192|23=>172|24=>173|14=>240|15=>241|16=>242|17=>243|18=>244|19=>245|20=>246|21=>247|22=>248|25=>280|26=>218|27=>219|28=>281|29=>282|30=>283|31=>297|n=>n,fun|26=>9|28=>162|24=>57|0=>0|3=>3|37=>189|48=>257|50=>190|4=>4|40=>251|39=>250|45=>202|5=>5|9=>9|51=>296|55=>300|57=>327|58=>328|33=>167|n=>n,fun|n=>n⟩
theorem Tryz.Vy:Go.Proofs.SlLaysZ.n6 Tryz.prog Tryz.zz:={
 mixed:=by kernel_rfl
 f6:=⟨Tryz.f90.name,by decide,Tryz.func90.trans a02⟩
 f8:=⟨Tryz.f140.name,by decide,Tryz.func140.trans a02⟩
 f11:=⟨Tryz.f191.name,by decide,Tryz.func191.trans a02⟩
 t0:=ic
 a0:=nB
 z0:=lW
 v0:=iT
 t24:=az
 a24:=Tryz.isAgg57
 z24:=Tryz.sizeOf57
 v24:=Tryz.zeroValue57
 t26:=aG
 a26:=nD
 z26:=lY
 v26:=iV
 t28:=Tryz.underlying162
 a28:=Tryz.isAgg162
 z28:=Tryz.sizeOf162
 v28:=Tryz.zeroValue162
 i26:=by kernel_rfl}
def Tryz.NZ:Go.Shelf.Ren:=⟨fun|6=>141|8=>115|9=>192|19=>172|20=>173|21=>240|22=>241|23=>242|24=>243|25=>244|26=>245|27=>246|28=>247|29=>248|36=>280|31=>218|32=>219|37=>281|38=>282|39=>283|41=>297|n=>n,fun|27=>57|29=>9|3=>3|32=>189|26=>57|0=>0|44=>257|46=>190|4=>4|36=>251|35=>250|41=>202|5=>5|9=>9|53=>296|57=>300|63=>327|64=>328|n=>n,fun|n=>n⟩
theorem Tryz.L5:Go.Proofs.SlLaysM.n6 Tryz.prog Tryz.NZ:={
 mixed:=by kernel_rfl
 f6:=⟨Tryz.f141.name,by decide,Tryz.func141.trans a02⟩
 f8:=Tryz.func115.trans a02
 f9:=⟨Tryz.f192.name,by decide,Tryz.func192.trans a02⟩
 f19:=Tryz.func172.trans a02
 f20:=Tryz.func173.trans a02
 f21:=⟨Tryz.f240.name,by decide,Tryz.func240.trans a02⟩
 f22:=⟨Tryz.f241.name,by decide,Tryz.func241.trans a02⟩
 f23:=⟨Tryz.f242.name,by decide,Tryz.func242.trans a02⟩
 f24:=⟨Tryz.f243.name,by decide,Tryz.func243.trans a02⟩
 f25:=⟨Tryz.f244.name,by decide,Tryz.func244.trans a02⟩
 f26:=⟨Tryz.f245.name,by decide,Tryz.func245.trans a02⟩
 f27:=⟨Tryz.f246.name,by decide,Tryz.func246.trans a02⟩
 f28:=⟨Tryz.f247.name,by decide,Tryz.func247.trans a02⟩
 f29:=⟨Tryz.f248.name,by decide,Tryz.func248.trans a02⟩
 f31:=Tryz.func218.trans a02
 f32:=Tryz.func219.trans a02
 f36:=⟨Tryz.f280.name,by decide,Tryz.func280.trans a02⟩
 f37:=⟨Tryz.f281.name,by decide,Tryz.func281.trans a02⟩
 f38:=⟨Tryz.f282.name,by decide,Tryz.func282.trans a02⟩
 f39:=⟨Tryz.f283.name,by decide,Tryz.func283.trans a02⟩
 f41:=⟨Tryz.f297.name,by decide,Tryz.func297.trans a02⟩
 t0:=ic
 a0:=nB
 z0:=lW
 v0:=iT
 t3:=aq
 a3:=nC
 z3:=lX
 v3:=iU
 t4:=fm
 a4:=vg
 z4:=p8
 v4:=kZ
 t5:=dq
 a5:=Tryz.isAgg5
 z5:=Tryz.sizeOf5
 v5:=wY
 t9:=aG
 a9:=nD
 z9:=lY
 v9:=iV
 t26:=az
 a26:=Tryz.isAgg57
 z26:=Tryz.sizeOf57
 v26:=Tryz.zeroValue57
 t27:=az
 a27:=Tryz.isAgg57
 z27:=Tryz.sizeOf57
 v27:=Tryz.zeroValue57
 t29:=aG
 a29:=nD
 z29:=lY
 v29:=iV
 t32:=lF
 a32:=Tryz.isAgg189
 z32:=Tryz.sizeOf189
 v32:=Tryz.zeroValue189
 t35:=Tryz.underlying250
 a35:=Tryz.isAgg250
 z35:=Tryz.sizeOf250
 v35:=Tryz.zeroValue250
 t36:=Tryz.underlying251
 a36:=Tryz.isAgg251
 z36:=Tryz.sizeOf251
 v36:=Tryz.zeroValue251
 t41:=Tryz.underlying202
 a41:=Tryz.isAgg202
 z41:=Tryz.sizeOf202
 v41:=Tryz.zeroValue202
 t44:=Tryz.underlying257
 a44:=Tryz.isAgg257
 z44:=Tryz.sizeOf257
 v44:=Tryz.zeroValue257
 t46:=vT
 a46:=Tryz.isAgg190
 z46:=Tryz.sizeOf190
 v46:=Tryz.zeroValue190
 t53:=Tryz.underlying296
 a53:=Tryz.isAgg296
 z53:=Tryz.sizeOf296
 v53:=Tryz.zeroValue296
 t57:=Tryz.underlying300
 a57:=Tryz.isAgg300
 z57:=Tryz.sizeOf300
 v57:=Tryz.zeroValue300
 t63:=Tryz.underlying327
 a63:=Tryz.isAgg327
 z63:=Tryz.sizeOf327
 v63:=Tryz.zeroValue327
 t64:=Tryz.underlying328
 a64:=Tryz.isAgg328
 z64:=Tryz.sizeOf328
 v64:=Tryz.zeroValue328}
end Go.Proofs
namespace Go.K
open Go.Proofs
set_option maxRecDepth 10000
open Go.RowKit Go.Maps Go.Sort Go.Shelf
theorem aay (m:Nat):AnyZI.SortsIn Tryz.prog Tryz.zy Fence.wide m:=
 ⟨λgy off cap ss W hH hblk lu=>callsIn_wide.2 (AnyM.slices_Sort_int Tryz.XT gy off cap ss W hH hblk lu),
  λp cap W=>callsIn_wide.2 (AnyM.slices_Sort_int_none Tryz.XT p cap W)⟩
theorem Vz {R:Value->Option (DU×List MemPlace)} {M:aJ} {w:World} {b bb:Nat} {m:List (Lit×DU)} (h:ZD Tryz.prog 3 R M w b m) (Q9:w.cell? ⟨bb,0,none⟩=some (.map (some b))) (hl:m.length<=1099511627776):
  Spec Tryz.prog 53 #[.func (.func 101) #[] #[.pointer (some ⟨bb,0,none⟩)]] w (λv w'=>(∃ss:List Int,ss.Perm (intKeys (DataW.map m))/\w'.ownsRow w.heap.size 3 1 v ss.length ((ss.mergeSort (λx y=>decide (x<=y))).map encZ)/\(v= .slice none 0 0↔ss=[]))/\Step M w M w' aA):=by
 have aaz:SeqGives Fence.wide 2 Tryz.prog 101 #[.pointer (some ⟨bb,0,none⟩)] encZ (λss=>ss.Perm (intKeys (DataW.map m))) (Maps.size (DataW.map m)) w:=
  AnyZI.keys_gives (ρ:=Tryz.DN) {Tryz.afG with} Fence.wide _ trivial rfl k3 bb b m.length (DataW.map m) _ (World.block_lt_of_cell? w _ Q9) Q9 h.own
 have lu:Maps.size (DataW.map m)=m.length:=rfl;have cS:=AnyZI.sorted_in Tryz.Vx Fence.wide 5 trivial trivial trivial trivial rfl k3 (aay _) (enters_of Tryz.func100 a92 rfl) 101 #[.pointer (some ⟨bb,0,none⟩)] trivial (enters_of Tryz.func101 a92 rfl) _ _ (by rw[lu];unfold maxLen;omega) (by rw[lu];omega) _ aaz;exact(callsIn_wide (n:=5)).1 (cS.mono λe w' ⟨v,ss,h1,h2,h3,h4,h5⟩=>⟨v,h1,⟨ss,h2,h3,h4⟩,.A1 h5 M⟩)
theorem aaA (m:Nat):AnyZ.SortsIn Tryz.prog Tryz.zz Fence.wide m:=
 ⟨λgy off cap ss W hH hblk lu=>callsIn_wide.2 (AnyM.slices_Sort_string Tryz.L5 gy off cap ss W hH hblk lu),
  λp cap W=>callsIn_wide.2 (AnyM.slices_Sort_string_none Tryz.L5 p cap W)⟩
theorem JV (mb:Option Nat) (w:World):Spec Tryz.prog 91 #[.map mb] w (λv w'=>v= .func (.func 142) #[] #[.pointer (some ⟨w.heap.size,0,none⟩)]/\w'=w.alloc (.cells #[.map mb] 151)):=
 (callsIn_wide (n:=5)).1 ((AnyZ.keys_in Tryz.L4 Fence.wide 5 trivial rfl mb w).mono λe w' ⟨h1,h2⟩=>⟨_,h1,rfl,h2⟩)
theorem EU {R:Value->Option (DU×List MemPlace)} {M:aJ} {w:World} {b bb:Nat} {m:List (Lit×DU)} (h:ZD Tryz.prog 9 R M w b m) (Q9:w.cell? ⟨bb,0,none⟩=some (.map (some b))) (hl:m.length<=1099511627776):
  Spec Tryz.prog 90 #[.func (.func 142) #[] #[.pointer (some ⟨bb,0,none⟩)]] w (λv w'=>(∃ss:List (List UInt8),ss.Perm (strKeys (DataW.map m))/\w'.ownsRow w.heap.size 9 1 v ss.length ((ss.mergeSort (λx y=>decide (x<=y))).map encStr)/\(v= .slice none 0 0↔ss=[]))/\Step M w M w' aA):=by
 have aaz:SeqGives Fence.wide 2 Tryz.prog 142 #[.pointer (some ⟨bb,0,none⟩)] encStr (λss=>ss.Perm (strKeys (DataW.map m))) (Maps.size (DataW.map m)) w:=
  AnyZ.keys_gives (ρ:=Tryz.DO) {Tryz.L4 with} Fence.wide _ trivial rfl k3 bb b m.length (DataW.map m) _ (World.block_lt_of_cell? w _ Q9) Q9 h.own
 have lu:Maps.size (DataW.map m)=m.length:=rfl;have cS:=AnyZ.sorted_in Tryz.Vy Fence.wide 5 trivial trivial trivial trivial rfl k3 (aaA _) (enters_of Tryz.func141 a92 rfl) 142 #[.pointer (some ⟨bb,0,none⟩)] trivial (enters_of Tryz.func142 a92 rfl) _ _ (by rw[lu];unfold maxLen;omega) (by rw[lu];omega) _ aaz;exact(callsIn_wide (n:=5)).1 (cS.mono λe w' ⟨v,ss,h1,h2,h3,h4,h5⟩=>⟨v,h1,⟨ss,h2,h3,h4⟩,.A1 h5 M⟩)
theorem C0 {w w':World} {v:Value} {t:TypeId} (h:w'=w.alloc (.cells #[v] t)):w'.cell? ⟨w.heap.size,0,none⟩=some v:=by
 subst h;exact gA (de w _) G
end Go.K
namespace Go.K
open Go.Proofs
set_option maxRecDepth 10000
theorem VA {M:aJ} {w0:World} {v:Value} {b:List Fd} (hM:Lt M w0) (hv:(RT.fd.sl).V M w0 b v) (mn:b.length<=1099511627776):
  Spec Tryz.prog 190 #[v] w0 (λv' w'=>(RT.fd.sl).V M w' b v'∧Step M w0 M w' aA):=by
 obtain⟨a,cap,ny,hc,hl,hs⟩:=jg.1 hv;refine bF (args:=[_]) (fn:=Tryz.f190) Tryz.func190 G (n:=8) Tryz.ntmps190 (T.aQ (Rg.bA G G (aI (T.aQ (ab G G (bc (v':= .slice a b.length cap) ny (Rg.xk bD G G G (ad ?_))))))));refine bM G (λc1=>?_) (λc1=>?_)
 ·refine T.aQ (Rg.bA G G (aT ?_))
  have hb:b=[]:=by
   rcases hs with h|⟨_,_,h,_⟩
   ·exact h
   ·rw[c1]at h;cases h
  exact aX rfl rfl ⟨by rw[hb];exact mX,bz⟩
 ·refine aR (T.aQ ?_);refine Rg.sl0 bD ly M G (λa0 w1 s1=>?_);refine ab G G ?_;refine Rg.uD (A:=RT.fd) (hn:=by decide) (M:=M) bD ly G G G G hv s1.le (s1.lt hM) k3 (λu2 w2 mu s2=>?_);refine Rg.bA G G (aT ?_);exact aX G G ⟨mu,s1.aw s2⟩
theorem tR {M:aJ} {w0:World} {v:Value} {b:List Int} (hM:Lt M w0) (hv:((RT.int .i64).sl).V M w0 b v) (mn:b.length<=1099511627776):
  Spec Tryz.prog 51 #[v] w0 (λv' w'=>((RT.int .i64).sl).V M w' b v'∧Step M w0 M w' aA):=by
 obtain⟨a,cap,ny,hc,hl,hs⟩:=jg.1 hv;refine bF (args:=[_]) (fn:=Tryz.f51) Tryz.func51 G (n:=8) Tryz.ntmps51 (T.aQ (Rg.bA G G (aI (T.aQ (ab G G (bc (v':= .slice a b.length cap) ny (Rg.xk ah G G G (ad ?_))))))));refine bM G (λc1=>?_) (λc1=>?_)
 ·refine T.aQ (Rg.bA G G (aT ?_))
  have hb:b=[]:=by
   rcases hs with h|⟨_,_,h,_⟩
   ·exact h
   ·rw[c1]at h;cases h
  exact aX rfl rfl ⟨by rw[hb];exact mX,bz⟩
 ·refine aR (T.aQ ?_);refine Rg.sl0 ah I3 M G (λa0 w1 s1=>?_);refine ab G G ?_;refine Rg.uD (A:=(RT.int .i64)) (hn:=by decide) (M:=M) ah I3 G G G G hv s1.le (s1.lt hM) k3 (λu2 w2 mu s2=>?_);refine Rg.bA G G (aT ?_);exact aX G G ⟨mu,s1.aw s2⟩
theorem Ra {M:aJ} {w0:World} {v:Value} {b:List (List UInt8)} (hM:Lt M w0) (hv:(RT.str.sl).V M w0 b v) (mn:b.length<=1099511627776):
  Spec Tryz.prog 199 #[v] w0 (λv' w'=>(RT.str.sl).V M w' b v'∧Step M w0 M w' aA):=by
 obtain⟨a,cap,ny,hc,hl,hs⟩:=jg.1 hv;refine bF (args:=[_]) (fn:=Tryz.f199) Tryz.func199 G (n:=8) Tryz.ntmps199 (T.aQ (Rg.bA G G (aI (T.aQ (ab G G (bc (v':= .slice a b.length cap) ny (Rg.xk az G G G (ad ?_))))))));refine bM G (λc1=>?_) (λc1=>?_)
 ·refine T.aQ (Rg.bA G G (aT ?_))
  have hb:b=[]:=by
   rcases hs with h|⟨_,_,h,_⟩
   ·exact h
   ·rw[c1]at h;cases h
  exact aX rfl rfl ⟨by rw[hb];exact mX,bz⟩
 ·refine aR (T.aQ ?_);refine Rg.sl0 az I9 M G (λa0 w1 s1=>?_);refine ab G G ?_;refine Rg.uD (A:=RT.str) (hn:=by decide) (M:=M) az I9 G G G G hv s1.le (s1.lt hM) k3 (λu2 w2 mu s2=>?_);refine Rg.bA G G (aT ?_);exact aX G G ⟨mu,s1.aw s2⟩
theorem VB {M:aJ} {w0:World} {v:Value} {b:List Li} (hM:Lt M w0) (hv:(((RT.li).ptr).sl).V M w0 b v) (mn:b.length<=1099511627776):
  Spec Tryz.prog 200 #[v] w0 (λv' w'=>(((RT.li).ptr).sl).V M w' b v'∧Step M w0 M w' aA):=by
 obtain⟨a,cap,ny,hc,hl,hs⟩:=jg.1 hv;refine bF (args:=[_]) (fn:=Tryz.f200) Tryz.func200 G (n:=8) Tryz.ntmps200 (T.aQ (Rg.bA G G (aI (T.aQ (ab G G (bc (v':= .slice a b.length cap) ny (Rg.xk eZ G G G (ad ?_))))))));refine bM G (λc1=>?_) (λc1=>?_)
 ·refine T.aQ (Rg.bA G G (aT ?_))
  have hb:b=[]:=by
   rcases hs with h|⟨_,_,h,_⟩
   ·exact h
   ·rw[c1]at h;cases h
  exact aX rfl rfl ⟨by rw[hb];exact mX,bz⟩
 ·refine aR (T.aQ ?_);refine Rg.sl0 eZ CO M G (λa0 w1 s1=>?_);refine ab G G ?_;refine Rg.uD (A:=((RT.li).ptr)) (hn:=by decide) (M:=M) eZ CO G G G G hv s1.le (s1.lt hM) k3 (λu2 w2 mu s2=>?_);refine Rg.bA G G (aT ?_);exact aX G G ⟨mu,s1.aw s2⟩
theorem Ha {M:aJ} {d:Dc} {v0:Value} (w0:World) (hM:Lt M w0) (hv:RT.dc.V M w0 d v0) (hl:d.2.length<=1099511627776):
  Spec Tryz.prog 138 #[v0] w0 (λv w=>RT.dc.V M w d v/\Step M w0 M w aA):=by
 have ir:=hM;refine bF (args:=[_]) (fn:=Tryz.f138) Tryz.func138 G (n:=9) Tryz.ntmps138 ?_;have S:Step M w0 M w0 aA:=bz;refine T.aQ ?_;refine kB (A:=RT.dc) G G hM hv G (λu0 w1 dT s0 _=>?_);replace hM:=s0.lt hM;have:=S.size;replace S:=S.aw s0;refine eA M nY G (λrA JA aad aae iy pL=>?_);obtain⟨jO,oN⟩:∃M',M'=ins M rA:=⟨_,rfl⟩;rw[<-oN]at pL;have gu:jO rA:=by rw[oN];exact .inl G
 change JA.heap[rA]? =some (.cells #[.int .i64 0,.slice none 0 0] _ _)at iy;replace dT:=dT.le q0 pL.le;replace hM:=pL.lt hM;have:=S.size;replace S:=S.aw pL;refine ad (aI ?_);apply nq 4 [0,1] 1 aA mixed rfl rfl rfl rfl;intro II Qe;have nZ:=Qe jO;have:=ae iy;replace gu:=(nZ.mem _ this).2 gu;replace iy:=nZ.aP iy;replace dT:=dT.le q0 nZ.le;replace hM:=nZ.lt hM;have:=S.size;replace S:=S.aw nZ;refine aD (M:=jO) (A:=RT.dc) (B:=RT.int .i64) bg G G I3 q0 (dc0) G G q0 W4 (by repeat (first|exact bH _ _|refine aZ (bI W4) ?_)) (λCS nE=>?_);refine Rg.bL ?_;refine bV (M:=jO) aq G G W4 (by repeat (first|exact bH _ _|refine aZ (bI W4) ?_)) (λXI=>?_);refine Rg.bL ?_;refine aD (M:=jO) (A:=RT.dc) (B:=(RT.fd).sl) bg G G uU q0 (EI) G G q0 W4 (by repeat (first|exact bH _ _|refine aZ (bI W4) ?_)) (λJW qu=>?_);refine Rg.bL ?_;refine bE (M:=jO) bD G G G G G W4 (by repeat (first|exact bH _ _|refine aZ (bI W4) ?_)) (λanr XU=>?_);refine Rg.bL (dD ?_);obtain⟨bb,oo,cs,ee,fr,rfl,lx,_⟩:=nE.float;refine ⟨eQ ⟨fk bg G I3 q0,⟨dQ G lx (λh=>h),trivial⟩⟩,?_⟩;have kp:=fq aA II;refine a8 G G alU (VA hM XU hl) (λv4 w4 hc=>?_);obtain⟨qm,s4⟩:=hc;have:=ae iy;replace gu:=(s4.mem _ this).2 gu;replace iy:=s4.aP iy;replace dT:=dT.le q0 s4.le;replace hM:=s4.lt hM;have:=S.size;replace S:=S.aw s4;refine(fun(kp:eB _ _ _)=>ad ⟨G,G,λ_=>kp,?_⟩) a00
 refine ie (places:=[(0,1),(1,1)]) bg nY B69 rfl ⟨_,_,rfl,rfl,_,_,rfl,rfl,rfl⟩ (out:=[_,_]) ⟨0,[_],rfl,rfl,by simp[Value.cells],1,[_],rfl,jo qm,by simp[Value.cells],rfl⟩ (ad ⟨rfl,rfl,λh=>absurd rfl h,?_⟩);have hd:RT.dc.V jO w4 d (.agg [.int .i64 d.1,v4].toArray):=fE (gw XI) qm rfl rfl rfl rfl;refine ej (M:=jO) (vs:=[.int .i64 d.1,v4]) nY G G (ET G hd) G G iy gu (λw6 g6 s6=>?_);have:=ae iy;replace gu:=(s6.mem _ this).2 gu;replace dT:=dT.le q0 s6.le;replace qm:=qm.le s6.le;replace hd:=hd.le s6.le;replace hM:=s6.lt hM;have:=S.size;replace S:=S.trans s6 (λk hk h=>by have h:_=_:=h;subst h;first|(exfalso;omega)|(show _<=_;omega)|exact⟨by first|omega|assumption,(S.mem _ hk).1 ((s6.mem _ (ae iy)).1 gu)⟩|exact .inl rfl|exact .inr rfl|exact .inr (.inl rfl)|exact .inr (.inr rfl)|exact .inr (.inr (.inl rfl))|exact rfl);have Hb:=g6;clear iy;have iy:=Hb;clear Hb;refine ad ⟨G,G,λh=>absurd G h,iu (aT ?_)⟩;exact yv (vs:=[.int .i64 d.1,v4]) G G bg G nY G iy ⟨hd.le (CC ir S),S.back⟩
theorem Rb {M:aJ} {e:En} {v0:Value} (w0:World) (hM:Lt M w0) (hv:RT.en.V M w0 e v0) (hl:e.1.2.length<=1099511627776):
  Spec Tryz.prog 88 #[v0] w0 (λv w=>RT.en.V M w e v/\Step M w0 M w aA):=by
 have ir:=hM;refine bF (args:=[_]) (fn:=Tryz.f88) Tryz.func88 G (n:=9) Tryz.ntmps88 ?_;have S:Step M w0 M w0 aA:=bz;refine T.aQ ?_;refine kB (A:=RT.en) G G hM hv G (λu0 w1 dT s0 _=>?_);replace hM:=s0.lt hM;have:=S.size;replace S:=S.aw s0;refine eA M A3 G (λrA JA aad aae iy pL=>?_);obtain⟨jO,oN⟩:∃M',M'=ins M rA:=⟨_,rfl⟩;rw[<-oN]at pL;have gu:jO rA:=by rw[oN];exact .inl G
 change JA.heap[rA]? =some (.cells #[.int .i64 0,.slice none 0 0,.int .i64 0] _ _)at iy;replace dT:=dT.le q0 pL.le;replace hM:=pL.lt hM;have:=S.size;replace S:=S.aw pL;refine ad (aI ?_);apply T.Gc [0,1,3,4,2,5,6] 4 [2,3] 1 aA mixed
 ·simp+decide only[zY,tx,fe,je,gV,gX,fg,dA,gI,lN,cond_true,cond_false,Nat.reduceBEq,Nat.reduceAdd,beq_self_eq_true];rfl
 ·rfl
 ·rfl
 ·rfl
 ·rfl
 ·rfl
 ·rfl
 intro II Qe;have nZ:=Qe jO;have:=ae iy;replace gu:=(nZ.mem _ this).2 gu;replace iy:=nZ.aP iy;replace dT:=dT.le q0 nZ.le;replace hM:=nZ.lt hM;have:=S.size;replace S:=S.aw nZ;refine aD (A:=RT.en) (B:=RT.dc) dH G G nY q0 Ve G G q0 dT bY (λCS nE=>?_);refine Rg.bL ?_;refine cW (A:=RT.dc) bg G nY q0 G G G nE bY (λCT py=>?_);refine Rg.bL ?_;refine aD (A:=RT.en) (B:=RT.int .i64) dH G G I3 q0 en1 G G q0 dT bY (λJW qu=>?_);refine Rg.bL ?_;refine bV (M:=jO) aq G G W4 (by repeat (first|exact bH _ _|refine aZ (bI W4) ?_)) (λRc=>?_);refine bc (v':= .int .i64 (e.2)) G ?_;replace Rc: -9223372036854775808<=(e.2:Int)/\e.2<=9223372036854775807:=Rc;refine Rg.bL (dD ?_);obtain⟨bb,oo,cs,ee,fr,rfl,lx,_⟩:=qu.float;refine ⟨eQ ⟨fk dH G I3 q0,⟨dQ G lx (λh=>h),trivial⟩⟩,?_⟩;have kp:=fq aA II;refine a8 G G alM (Ha _ hM py hl) (λv4 w4 hc=>?_);obtain⟨qm,s4⟩:=hc;obtain⟨uf,rfl⟩:=Qs qm;have:=ae iy;replace gu:=(s4.mem _ this).2 gu;replace iy:=s4.aP iy;replace dT:=dT.le q0 s4.le;replace hM:=s4.lt hM;have:=S.size;replace S:=S.aw s4;refine(fun(kp:eB _ _ _)=>ad ⟨G,G,λ_=>kp,?_⟩) a00;refine ie (places:=[(0,2),(2,1)]) dH A3 B71 rfl ⟨_,_,rfl,rfl,_,_,rfl,rfl,rfl⟩ (out:=[_,_,_]) ⟨0,[_,_],rfl,rfl,by simp[Value.cells],2,[_],rfl,rfl,by simp[Value.cells],rfl⟩ (ad ⟨rfl,rfl,λh=>absurd rfl h,?_⟩);have hd:RT.en.V jO w4 e (.agg [.int .i64 e.1.1,uf,.int .i64 e.2].toArray):=Xy (p:=e.1) qm Rc
 refine ej (M:=jO) (vs:=[.int .i64 e.1.1,uf,.int .i64 e.2]) A3 G G (ET G hd) G G iy gu (λw6 g6 s6=>?_);have:=ae iy;replace gu:=(s6.mem _ this).2 gu;replace dT:=dT.le q0 s6.le;replace qm:=qm.le s6.le;replace hd:=hd.le s6.le;replace hM:=s6.lt hM;have:=S.size;replace S:=S.trans s6 (λk hk h=>by have h:_=_:=h;subst h;first|(exfalso;omega)|(show _<=_;omega)|exact⟨by first|omega|assumption,(S.mem _ hk).1 ((s6.mem _ (ae iy)).1 gu)⟩|exact .inl rfl|exact .inr rfl|exact .inr (.inl rfl)|exact .inr (.inr rfl)|exact .inr (.inr (.inl rfl))|exact rfl);have Hb:=g6;clear iy;have iy:=Hb;clear Hb;refine ad ⟨G,G,λh=>absurd G h,iu (aT ?_)⟩;exact yv (vs:=[.int .i64 e.1.1,uf,.int .i64 e.2]) G G dH G A3 G iy ⟨hd.le (CC ir S),S.back⟩
namespace TKBldB
theorem afH:TI Tryz.prog 217 (.map none) 1 8:=by unfold TI;kernel_rfl
theorem ans:Enters Tryz.prog 133:=enters Tryz.func133 rfl q0
theorem ant:Enters Tryz.prog 134:=enters Tryz.func134 rfl q0
theorem anu:Enters Tryz.prog 135:=enters Tryz.func135 rfl q0
end TKBldB
open TKBldB
set_option maxRecDepth 10000
theorem IJ.aE {bt mb B:Nat} {ts:List (Fd×Nat)} {M M':aJ} {w w':World} (h:IJ bt mb B ts M w) (s:Step M w M' w' aA):IJ bt mb B ts M' w':=by
 obtain⟨gb,ff,gv,hB,LY,es,clock,hW,hI⟩:=h;exact⟨s.aP gb,(s.mem _ (ae gb)).2 ff,(s.mem _ (ae hW.at_)).2 gv,hB,LY,es,clock,hW.aE s,hI.aE s⟩
theorem Re {bt mb B:Nat}:aam Tryz.prog 133 [.pointer (some ⟨bt,0,none⟩)] B (IJ bt mb B):=
 ⟨ans,λts M w M' w' h s=>h.aE s,λts M w t i hJ hM h1 h2 hi h4=>NR w hM h1 h2 hi h4 hJ⟩
theorem Rf (M:aJ) (w:World) (B:Nat):NQ M w B [] [] where
 o t v hv:=by
  rcases hv with⟨e,he,_⟩|⟨_,rfl⟩
  ·cases he
  ·exact dh _ _ _ _ _
 a t t' v v' _ hv _:=by
  rcases hv with⟨e,he,_⟩|⟨_,rfl⟩
  ·cases he
  ·exact(fL.nil v').symm
 k:=rfl
theorem Hc:∀(ts:List (Fd×Nat)) (l:List Fd),(ts.foldl (λl p=>if p.1∈l then l else l++[p.1]) l).length<=l.length+ts.length
 |[],l=>by simp
 |p::ts,l=>by
  rw[List.foldl_cons,dG];refine eG (Hc ts _) ?_
  split
  ·omega
  ·rw[aY];simp;omega
theorem VC (M:aJ) (w:World) (M':aJ) (w':World) (x:Fd) (vs:List Value) (h:RT.fd.R M w x vs):RT.fd.R M' w' x vs:=h
theorem He {M:aJ} {d:Dc} {v0:Value} (w0:World) (hM:Lt M w0) (hv:RT.dc.V M w0 d v0) (hF:ky d) (hl:∀f∈d.2,f.1.length<=900000/\f.2.length<=900000):
  Spec Tryz.prog 87 #[v0] w0 (λv w=>∃a b,v= .tuple #[a,b]/\(RT.fd.sl).V M w (cX (cD d.2)) a/\(((RT.int .i64).sl).sl).V M w ((cX (cD d.2)).map (posOf (cD d.2))) b/\Step M w0 M w aA):=by
 have ir:=hM;have XV:=hF.many;refine bF (args:=[_]) (fn:=Tryz.f87) Tryz.func87 G (n:=31) Tryz.ntmps87 ?_;have S:Step M w0 M w0 aA:=bz;refine T.aQ ?_;refine kB (A:=RT.dc) G G hM hv G (λu0 w1 dT s0 _=>?_);replace hM:=s0.lt hM;have:=S.size;replace S:=S.aw s0;refine aB G G (Rg.bA G G (T.aQ ?_));refine Rg.GX M og G (λmb w1m p1 q1 gW s1=>?_);obtain⟨M_W,Rh⟩:∃M',M'=ins M mb:=⟨_,rfl⟩;rw[<-Rh]at s1;have EV:M_W mb:=by rw[Rh];exact .inl G
 replace dT:=dT.le q0 s1.le;replace hM:=s1.lt hM;have:=S.size;replace S:=S.aw s1;refine eA M_W afH G (λN0 aan azC azD CW Ac=>?_);obtain⟨Ri,Rj⟩:∃M',M'=ins M_W N0:=⟨_,rfl⟩;rw[<-Rj]at Ac;have BE:Ri N0:=by rw[Rj];exact .inl G
 change aan.heap[N0]? =some (.cells #[.map none] _ _)at CW;replace dT:=dT.le q0 Ac.le;replace EV:=(Ac.mem _ (ae gW.at_)).2 EV;replace gW:=gW.aE Ac;replace hM:=Ac.lt hM;have:=S.size;replace S:=S.aw Ac;refine cF (M:=Ri) afH G G CW G (G) BE (λVn jM sL=>?_)
 try simp only[List.setIfInBounds_toArray,List.set_cons_zero,List.set_cons_succ]at jM
 have:=ae CW;replace BE:=(sL.mem _ this).2 BE;replace dT:=dT.le q0 sL.le;replace EV:=(sL.mem _ (ae gW.at_)).2 EV;replace gW:=gW.step sL (by show¬(_=_);omega);replace hM:=sL.lt hM;have:=S.size;replace S:=S.trans sL (λk hk h=>by have h:_=_:=h;subst h;first|(exfalso;omega)|(show _<=_;omega)|exact⟨by first|omega|assumption,(S.mem _ hk).1 ((sL.mem _ (ae CW)).1 BE)⟩|exact .inl rfl|exact .inr rfl|exact .inr (.inl rfl)|exact .inr (.inr rfl)|exact .inr (.inr (.inl rfl))|exact rfl);have XW:=jM;clear CW;have CW:=XW;clear XW;refine ad (T.aQ ?_);refine cW (M:=Ri) (A:=RT.dc) bg G nY q0 G G G W4 (by repeat (first|exact bH _ _|refine aZ (bI W4) ?_)) (λazE afI=>?_);refine l2 (xs:=[]) (ys:=[.tmp 4]) G G G ?_;refine a8 G G aeA (DG (cap:=[.pointer (some ⟨N0,0,none⟩)]) (B:=w0.heap.size) _ hM afI hl hF.few (Re (mb:=mb)) ⟨CW,BE,EV,by omega,by omega,[],0,gW,Rf _ _ _⟩) (λr2 w2 hc=>?_);obtain⟨M2,IK,⟨gb,_,_,_,_,es,clock,hW,hI⟩,s2⟩:=hc;replace S:=S.ot s2 (aN _);have sM:∀t v,fj mH es (kv t) v->(((RT.int .i64).sl)).V M w2 (posOf (cD d.2) t) v:=λt v h=>(hI.o t v h).close ir S (by have:=yF (cD d.2) t;omega)
 replace S:=S.back;replace hM:=S.lt ir
 have afJ:∀e∈es,∃t∈seen (cD d.2),e.key=kv t:=λe he=>by
  have:e.key∈(seen (cD d.2)).map kv:=by rw[<-hI.k];exact gU he
  obtain⟨t,h1,h2⟩:=ck.1 this;exact⟨t,h1,h2.symm⟩
 have CI:∀t∈seen (cD d.2),NT t/\t.1.length<=12/\t.2.length<=30:=λt ht=>by
  obtain⟨p,hp,rfl⟩:=ck.1 (xD.1 ht);exact⟨hF.NW p hp,hF.small p hp⟩
 have pH:(seen (cD d.2)).length<=500:=eG (Hc _ _) a03;have FM:es.length<=500:=by have:=congrArg List.length hI.k;simp at this;omega
 refine ad (T.aQ (aV og G G G gb G ?_));refine a8 G G anu (JP _) (λr3 w3 hc=>?_);obtain⟨bs,rfl,gbs,_,s3⟩:=hc;replace s3:=s3.toAny M;replace hW:=hW.aE s3;replace gb:=s3.aP gb;replace sM:=λt v h=>(sM t v h).le s3.le
 replace hM:=s3.lt hM;have:=S.size;replace S:=S.aw s3
 refine a8 G G ant (G3 _ (λe he=>by
  obtain⟨t,h1,h2⟩:=afJ e he;exact⟨t,h2,by have:=(CI t h1).2;omega,by have:=(CI t h1).2;omega⟩) (λe he t ht=>by
  obtain⟨t',h1,h2⟩:=afJ e he;obtain rfl:=yD (ht.symm.trans h2);exact⟨(CI _ h1).1,by have:=(CI _ h1).2;omega,by have:=(CI _ h1).2;omega⟩) k3 (λts qL k4=>by
  have:=qL.length_le_of_subset (l₂:=seen (cD d.2)) (λt ht=>(xA hI.k).1 (k4 t ht));omega) gbs hW) (λr4 w4 hc=>?_)
 obtain⟨us,qL,k4,Zh,hou,s4⟩:=hc;obtain rfl:=G6 hF.NW qL (λt=>(k4 t).trans (xA hI.k)) Zh;have OX:(cX (cD d.2)).length<=500:=eG (qL.length_le_of_subset (l₂:=seen (cD d.2)) (λt ht=>xD.2 ((kY hF.NW).1 ht))) pH;replace s4:=s4.toAny M;have CG:(RT.fd.sl).V M w4 (cX (cD d.2)) r4:=hou.tell VC (λb hb h=>by have:=(hou.base b hb).1;have:=hM b h;omega) k3;clear hou;replace hW:=hW.aE s4;replace gb:=s4.aP gb;replace sM:=λt v h=>(sM t v h).le s4.le
 replace hM:=s4.lt hM;have:=S.size;replace S:=S.aw s4;refine Rg.bA G G (T.aQ (Rg.bA G G (aI (T.aQ (ab G G (bK cg G CG G (ab G G ?_)))))));refine ad (aS ?_);refine dg (σ:=Nat×Value) (λq=>[(4,.pointer (some ⟨N0,0,none⟩)),(5,r4),(6,q.2),(16,r4),(17,.int .i64 ((cX (cD d.2)).length:Int)),(18,.int .i64 (q.1:Int))]) (λq w=>∃M',Lt M' w/\Step M w0 M' w aA/\Own ((RT.int .i64).sl) 37 M' w w0.heap.size q.2 (((cX (cD d.2)).take q.1).map (posOf (cD d.2)))/\(RT.fd.sl).V M' w (cX (cD d.2)) r4/\hU Tryz.prog 78 w mb es clock/\w.heap[N0]? =some (.cells #[.map (some mb)] 217 (0,0))/\(∀t v,fj mH es (kv t) v->(((RT.int .i64).sl)).V M' w (posOf (cD d.2) t) v)/\q.1<=(cX (cD d.2)).length) (λq=>(cX (cD d.2)).length-q.1) (0,.slice none 0 0) a10 ?_ ?_
 ·exact⟨M,hM,S,dh _ _ _ _ _,CG,hW,gb,sM,bC _⟩
 ·clear hM CG hW gb sM S;rintro⟨i,u⟩ w ⟨M1,hM,S,ho,CG,hW,gb,sM,hi⟩;dsimp only at ho hi ⊢;refine T.aQ (ch G G G (ad (aI ?_)));refine bM G (λc6=>?_) (λc6=>?_)
  ·refine aR (aI (aS (T.aQ ?_)));refine bX cg mT G G G CG bY k3 (λafe t hg7 LO=>?_);rw[an]at hg7;have UP:=au hg7;have I1:=CI t (xD.2 ((kY hF.NW).1 UP));refine cW (A:=RT.fd) cw G mT q0 G G G LO bY (λamP XE=>?_);refine vS (A:=RT.fd) (M:=M1) mT G G G G G W4 bY hM (λafK anw vG yJ azF=>?_);replace CG:=CG.le yJ.le;replace ho:=ho.aE yJ;replace hW:=hW.aE yJ;replace gb:=yJ.aP gb;replace sM:=λt v h=>(sM t v h).le yJ.le
   replace hM:=yJ.lt hM;have:=S.size;replace S:=S.aw yJ;refine ad (aH (ab G G (aV og G G G gb G ?_)));refine cW (A:=RT.fd) cw G mT q0 G G G vG bY (λazG afL=>?_);obtain rfl:=mF afL;obtain⟨kl,AN⟩:=QU t k3 k3;refine Rg.xw og DF iJ G G G AN hW (λv8 ny=>?_);have Hf:=sM _ _ ny;clear ny;refine dP (A:=((RT.int .i64).sl)) (hn:=by decide) (M:=M1) cn iJ q0 G G hM (Hf) (.inr ⟨G,G⟩) (λazH azI Rk Hg=>?_);replace CG:=CG.le Hg.le;replace vG:=vG.le q0 Hg.le;replace ho:=ho.aE Hg;replace hW:=hW.aE Hg;replace gb:=Hg.aP gb;replace sM:=λt v h=>(sM t v h).le Hg.le
   replace hM:=Hg.lt hM;have:=S.size;replace S:=S.aw Hg;refine cN (M:=M1) (base:=w0.heap.size) cn iJ rfl rfl rfl rfl ho Rk bY a03 a03 (S.size) (λanx anz azJ afM Hh=>?_);replace CG:=CG.le Hh.le;replace vG:=vG.le q0 Hh.le;replace Rk:=Rk.le Hh.le;replace hW:=hW.step Hh (λh=>ho.mI hW.at_ h);replace gb:=Hh.keep gb (λh=>ho.eu gb q0 h);replace sM:=λt v h=>(sM t v h).le Hh.le
   replace hM:=Hh.lt hM;have:=S.size;replace S:=S.cC Hh ho (aN _);replace ho:=afM;refine Rg.bA G G (aH (bG G G G k3 (ab G G (ad ?_))));refine⟨G,(i+1,anx),a10,?_,?_⟩
   ·exact⟨anz,hM,S,by rw[bB,hg7,bU,cG];exact ho,CG,hW,gb,sM,by dsimp only;omega⟩
   ·dsimp only;omega
  ·refine cO (T.aQ (ab G G (ab G G (aB G G (Rg.bA G G (aT ?_))))));have e:(cX (cD d.2)).take i=cX (cD d.2):=aL k3;rw[e]at ho;exact fA rfl rfl rfl ⟨_,_,rfl,CG.le (CC ir S),ho.close ir S a03,S.back⟩
end Go.K
namespace Go.K
def XX {α:Type} (A:RT α) (M:aJ) (w:World) (v:Value) (x:α):Prop:=∃b o vs,v= .pointer (some ⟨b,o,none⟩)/\A.R M w x vs/\w.rangeAt b o vs
theorem Own.elem {α:Type} {A:RT α} {e:TypeId} {M:aJ} {w:World} {base:Nat} {v:Value} {xs:List α} (h:Own A e M w base v xs) (hA:0<A.n) {i:Nat} {x:α} (hx:xs[i]? =some x):
  ∃g cap vs,v= .slice (some ⟨g,0,none⟩) xs.length cap/\M g/\A.R M w x vs/\w.rangeAt g (i*A.n) vs:=by
 obtain⟨⟨C,hr,ha⟩,hm⟩:=h;rcases hr.2 with⟨h1,h2⟩|⟨g,cap,cur,h1,h2,h3,h4,h5,h6,h7⟩
 ·have:xs=[]:=List.eq_nil_of_length_eq_zero h2;subst this;simp at hx
 ·obtain⟨vs,hv,hj⟩:=ha.at_ i x hx;refine ⟨g,cap,vs,h1,hm g (by rw[h1];rfl),hv,λj u hu=> ?_⟩;have h8:=hj j u hu;rw[<-h7,cY]at h8
  split at h8
  ·simp only[World.cell?,h3];simpa using h8
  ·cases h8
section
variable {P:Program} {r:Option Nat} {n:Nat} {L:Sl} {ds:List Deferred} {w:World} {K:Kt} {ops:Array Oper} {rest:List Oper} {d:Nat} {x y:Operand} {ty:TypeId} {pos:String} {af:Array Edge} {α:Type} {A:RT α}
theorem Rg.anA {t e e':TypeId} {i:Operand} {κ:IntKind} {j:Int} {M:aJ} {base:Nat} {xs:List α} {v zv:Value} {bytes:Nat} (ht:P.underlying t=some (.slice e)) (hi:TI P e zv A.n bytes) (hA:0<A.n)
  (hx:ev L x=some v) (IS:ev L i=some (.int κ j)) (hd:Nat.blt d n=true) (ho:Own A e' M w base v xs) (hj:0<=j/\j<xs.length)
  (k:∀u a,xs[j.toNat]? =some a->XX A M w u a->Rg P r n ops rest ((d,u)::L) ds w K):
  Rg P r n ops ({dst:=some d,op:= .indexAddr t x i,type:=ty,pos,after:=af,guard:=none}::rest) L ds w K:=by
 have eK:j.toNat<xs.length:=by omega
 obtain⟨g,cap,vs,rfl,hm,h1,h2⟩:=ho.elem hA (al eK);refine .op a04 G G hd (.pointer (some ⟨g,0+j.toNat*A.n,none⟩)) w (λρ h=>?_) (k _ xs[j.toNat] (al eK) ⟨g,_,vs,rfl,h1,by rw[fh];exact h2⟩);simp only[execOp,h x _ hx,h i _ IS];simp[Instr.indexAt,run_underlying ht,asIntOf,hj,hi.sizeOf,zL]
theorem Rg.Rl {t:TypeId} {fs:TypeDesc} {zv:Value} {bytes:Nat} {M:aJ} {p:Value} {a:α} (hu:P.underlying t=some fs) (hf:fs.isRow=true) (hi:TI P t zv A.n bytes) (hg:A.agg=true)
  (hx:ev L x=some p) (hd:Nat.blt d n=true) (hp:XX A M w p a) (k:∀v,A.V M w a v->Rg P r n ops rest ((d,v)::L) ds w K):
  Rg P r n ops ({dst:=some d,op:= .load t x,type:=ty,pos,after:=af,guard:=none}::rest) L ds w K:=by
 obtain⟨b,o,vs,rfl,h1,h2⟩:=hp;refine .op a04 G G hd (.agg vs.toArray) w (λρ h=>?_) (k _ ⟨vs,h1,by simp[RT.val,hg]⟩);simp only[execOp,h x _ hx];obtain⟨i,zf,_,Al,_⟩:=hi.get;have:=run_loadAt_mid (P:=P) w b o t vs fs h2 hu hf (by simp[zf,Al,A.len h1]);simp[this]
end
open Go.Proofs
namespace TKBldC
theorem anB:TI Tryz.prog 153 (.agg #[(.slice none 0 0),(.map none),(.int .i64 0),(.int .i64 0)]) 4 48:=by unfold TI;kernel_rfl
theorem anC:placesOf Tryz.prog 153=[(0,1),(1,1),(2,1),(3,1)].map some:=by kernel_rfl
end TKBldC
open TKBldC
set_option maxRecDepth 10000
open Go.Maps (Keyed)
theorem xH:Keyed Tryz.prog 9:=Go.Maps.string_keyed aG
theorem Rm (k:List UInt8) (h:k.length<=140737488355328):∃l,keyOf Tryz.prog 9 (sv k)=some l:=by
 have e1:(⟨k.toArray⟩:ByteArray).size=k.length:=by simp[ByteArray.size]
 exact⟨_,Go.WideMaps.keyOf_string_mk aG (by rw[e1];unfold maxLen;omega)⟩
structure Hi (Z:aJ) (M:aJ) (w:World) (B:Nat) (f:List UInt8->List Po) (K:List UInt8->Prop) (es:List MapEntry):Prop where
 o:∀k v,fj mH es (sv k) v->Own RT.po 83 M w B v (f k)
 a:∀k k' v v',k≠k'→fj mH es (sv k) v->fj mH es (sv k') v'→fL v v'
 k:∀x,(∃e∈es,e.key=sv x)↔K x
 z:∀k v c,fj mH es (sv k) v->v.ownBlock=some c->Z c
theorem Hi.step {Z M M' N:aJ} {w w':World} {B:Nat} {f:List UInt8->List Po} {K:List UInt8->Prop} {es:List MapEntry} (h:Hi Z M w B f K es) (s:Step M w M' w' N) (hn:∀k v b,fj mH es (sv k) v->v.ownBlock=some b->¬N b):Hi Z M' w' B f K es:=
 ⟨λk v hv=>(h.o k v hv).step s λb hb=>hn k v b hv hb,h.a,h.k,h.z⟩
theorem Hi.aE {Z M M':aJ} {w w':World} {B:Nat} {f:List UInt8->List Po} {K:List UInt8->Prop} {es:List MapEntry} (h:Hi Z M w B f K es) (s:Step M w M' w' aA):Hi Z M' w' B f K es:=h.step s λ_ _ _ _ _ h=>h
theorem Hi.congr {Z M:aJ} {w:World} {B:Nat} {f f':List UInt8->List Po} {K K':List UInt8->Prop} {es:List MapEntry} (h:Hi Z M w B f K es) (hf:∀k,f' k=f k) (hK:∀k,K' k↔K k):Hi Z M w B f' K' es:=
 ⟨λk v hv=>by rw[hf];exact h.o k v hv,h.a,λx=>(h.k x).trans (hK x).symm,h.z⟩
theorem Hi.N1 {Z Z' M:aJ} {w:World} {B:Nat} {f:List UInt8->List Po} {K:List UInt8->Prop} {es:List MapEntry} (h:Hi Z M w B f K es) (hz:∀c,Z c->c<w.heap.size->Z' c):Hi Z' M w B f K es:=
 ⟨h.o,h.a,h.k,λk v c hv hc=>hz c (h.z k v c hv hc) ((h.o k v hv).base c hc).2⟩
theorem Hi.put {Z M M2:aJ} {w w1 w2:World} {B mb c:Nat} {mes:Array MapEntry} {f:List UInt8->List Po} {K:List UInt8->Prop} {es es2:List MapEntry} {k0:List UInt8} {v0 v1:Value} {ps:List Po} (h:Hi Z M w B f K es) (hZ:∀c,w.heap.size<=c->Z c) (Un:fj mH es (sv k0) v0)
  (ho1:Own RT.po 83 (ji M v1) w1 B v1 (f k0++ps)) (s1:Step M w (ji M v1) w1 (gy v0)) (hF:∀b,v1.ownBlock=some b->w.heap.size<=b\/v0.ownBlock=some b) (hmb:w1.heap[mb]? =some (.map mes c)) (s2:Step (ji M v1) w1 M2 w2 (λk=>k=mb))
  (EP:∀zv kL v',fj zv es2 kL v'↔(kL=sv k0/\v'=v1)\/(kL≠sv k0/\fj zv es kL v')) (sf:(es2.map (·.key)=es.map (·.key)/\∃e∈es,e.key=sv k0)\/(es2.map (·.key)=es.map (·.key)++[sv k0]/\∀e∈es,e.key≠sv k0)):
  Hi Z M2 w2 B (λk=>if k=k0 then f k0++ps else f k) (λx=>K x\/x=k0) es2:=by
 have vF:∀k v,fj mH es2 (sv k) v->(k=k0/\v=v1)\/(k≠k0/\fj mH es (sv k) v):=λk v hv=>by
  rcases(EP mH (sv k) v).1 hv with⟨h3,h4⟩|⟨h3,h4⟩
  ·exact .inl ⟨ER h3,h4⟩
  ·exact .inr ⟨λe=>h3 af6,h4⟩
 have qt:∀k v,k≠k0->fj mH es (sv k) v->fL v1 v:=λk v fG hv=>(h.a k k0 v v0 fG hv Un).symm.grown hF (λb hb=>((h.o k v hv).base b hb).2)
 have Vs:∀k v,k≠k0->fj mH es (sv k) v->Own RT.po 83 (ji M v1) w1 B v (f k):=λk v fG hv=>(h.o k v hv).step s1 (λb hb hk=>h.a k k0 v v0 fG hv Un b hb hk)
 have hnm:∀{v:Value} {xs:List Po},Own RT.po 83 (ji M v1) w1 B v xs->∀b,v.ownBlock=some b->¬b=mb:=λho b hb e=>ho.mI hmb (by rw[<-e];exact hb)
 refine⟨λk v hv=>?_,λk k' v v' fG hv vr=>?_,λx=>?_,λk v c hv hc=>?_⟩
 ·rcases vF k v hv with⟨rfl,rfl⟩|⟨h3,h4⟩
  ·rw[if_pos rfl];exact ho1.step s2 (hnm ho1)
  ·rw[if_neg h3];exact(Vs k v h3 h4).step s2 (hnm (Vs k v h3 h4))
 ·rcases vF k v hv with⟨rfl,rfl⟩|⟨h3,h4⟩
  ·rcases vF k' v' vr with⟨rfl,_⟩|⟨h5,h6⟩
   ·exact absurd G fG
   ·exact qt k' v' h5 h6
  ·rcases vF k' v' vr with⟨rfl,rfl⟩|⟨h5,h6⟩
   ·exact(qt k v h3 h4).symm
   ·exact h.a k k' v v' fG h4 h6
 ·have k4:(∃e∈es2,e.key=sv x)↔sv x∈es2.map (·.key):=by simp
  have anD:(∃e∈es,e.key=sv x)↔sv x∈es.map (·.key):=by simp
  rw[k4,<-h.k x,anD];rcases sf with⟨h3,e,he,hk⟩|⟨h3,_⟩
  ·rw[h3];constructor
   ·exact .inl
   ·rintro(h4|rfl)
    ·exact h4
    ·rw[<-hk];exact gU he
  ·rw[h3,cP,b9];constructor
   ·rintro(h4|h4)
    ·exact .inl h4
    ·exact .inr (ER h4)
   ·rintro(h4|rfl)
    ·exact .inl h4
    ·exact .inr G
 ·rcases vF k v hv with⟨rfl,rfl⟩|⟨h3,h4⟩
  ·rcases hF c hc with h5|h5
   ·exact hZ c h5
   ·exact h.z _ _ c Un h5
  ·exact h.z k v c h4 hc
theorem VD (Z M:aJ) (w:World) (B:Nat):Hi Z M w B (pk []) (λx=>x∈jb []) [] where
 o k v hv:=by
  rcases hv with⟨e,he,_⟩|⟨_,rfl⟩
  ·cases he
  ·exact dh _ _ _ _ _
 a k k' v v' _ hv _:=by
  rcases hv with⟨e,he,_⟩|⟨_,rfl⟩
  ·cases he
  ·exact(fL.nil v').symm
 k x:=by simp[jb]
 z k v c hv hc:=by
  rcases hv with⟨e,he,_⟩|⟨_,rfl⟩
  ·cases he
  ·cases hc
structure Buf (Z M:aJ) (w:World) (B b mb:Nat) (vl:Value) (L:List En) (words last:Int) (f:List UInt8->List Po) (K:List UInt8->Prop) (es:List MapEntry) (clock:Nat):Prop where
 at_:w.heap[b]? =some (.cells #[vl,.map (some mb),.int .i64 words,.int .i64 last] 153 (0,0))
 m:M b
 mm:M mb
 hb:Z b
 hmb:Z mb
 l:Own RT.en 71 M w B vl L
 map:hU Tryz.prog 9 w mb es clock
 rows:Hi Z M w B f K es
 zl:∀c,vl.ownBlock=some c->Z c
def qv (Z M:aJ) (w:World) (B b:Nat) (L:List En) (words last:Int):Prop:=∃mb vl es clock,Buf Z M w B b mb vl L words last (pk L) (λx=>x∈jb L) es clock
theorem qv.aE {Z M M':aJ} {w w':World} {B b:Nat} {L:List En} {words last:Int} (h:qv Z M w B b L words last) (s:Step M w M' w' aA):qv Z M' w' B b L words last:=by
 obtain⟨mb,vl,es,clock,h1,h2,h3,h4,h5,h6,h7,h8,h9⟩:=h;exact⟨mb,vl,es,clock,s.aP h1,(s.mem _ (ae h1)).2 h2,(s.mem _ (ae h7.at_)).2 h3,h4,h5,h6.aE s,h7.aE s,h8.aE s,h9⟩
theorem qv.N1 {Z Z' M:aJ} {w:World} {B b:Nat} {L:List En} {words last:Int} (h:qv Z M w B b L words last) (hz:∀c,Z c->c<w.heap.size->Z' c):qv Z' M w B b L words last:=by
 obtain⟨mb,vl,es,clock,h1,h2,h3,h4,h5,h6,h7,h8,h9⟩:=h;exact⟨mb,vl,es,clock,h1,h2,h3,hz _ h4 (ae h1),hz _ h5 (ae h7.at_),h6,h7,h8.N1 hz,λc hc=>hz c (h9 c hc) (h6.base c hc).2⟩
theorem qv.step {Z M M' N:aJ} {w w':World} {B b:Nat} {L:List En} {words last:Int} (h:qv Z M w B b L words last) (s:Step M w M' w' N) (hn:∀k,N k->¬Z k):qv Z M' w' B b L words last:=by
 obtain⟨mb,vl,es,clock,h1,h2,h3,h4,h5,h6,h7,h8,h9⟩:=h;exact⟨mb,vl,es,clock,s.keep h1 (λhk=>hn _ hk h4),(s.mem _ (ae h1)).2 h2,(s.mem _ (ae h7.at_)).2 h3,h4,h5,h6.step s (λc hc hk=>hn _ hk (h9 c hc)),h7.step s (λhk=>hn _ hk h5),h8.step s (λk v c hv hc hk=>hn _ hk (h8.z k v c hv hc)),h9⟩
theorem qv.stepT {Z M M' N:aJ} {w w':World} {B b:Nat} {L:List En} {words last:Int} (h:qv Z M w B b L words last) (s:Step M w M' w' N) (hn:∀k,N k->∃cs t,w.heap[k]? =some (.cells cs t (0,0))/\t≠153/\t≠71/\t≠83):qv Z M' w' B b L words last:=by
 obtain⟨mb,vl,es,clock,h1,h2,h3,h4,h5,h6,h7,h8,hz⟩:=h;refine⟨mb,vl,es,clock,s.keep h1 (λhk=>?_),(s.mem _ (ae h1)).2 h2,(s.mem _ (ae h7.at_)).2 h3,h4,h5,h6.step s (λc hc hk=>?_),h7.step s (λhk=>?_),h8.step s (λk v c hv hc hk=>?_),hz⟩
 ·obtain⟨cs,t,h9,VE,_⟩:=hn _ hk;rw[h1]at h9;simp at h9;exact VE h9.2.symm
 ·obtain⟨cs,t,h9,_,VE,_⟩:=hn _ hk;exact h6.eu h9 VE hc
 ·obtain⟨cs,t,h9,_⟩:=hn _ hk;rw[h7.at_]at h9;cases h9
 ·obtain⟨cs,t,h9,_,_,VE⟩:=hn _ hk;exact(h8.o k v hv).eu h9 VE hc
def Rn (M Z:aJ):aJ:=λk=>Z k/\M k
theorem fj.ex (zv:Value) (es:List MapEntry) (key:Value):∃v,fj zv es key v:=by
 by_cases h:∃e∈es,e.key=key
 ·obtain⟨e,he,hk⟩:=h;exact⟨e.val,.inl ⟨e,he,hk,G⟩⟩
 ·exact⟨zv,.inr ⟨λe he hk=>h ⟨e,he,hk⟩,G⟩⟩
def pf (last:Int) (e:En):Int:=if nP e.1≠0 then nP e.1 else if e.2<=last then 12 else 0
def Ro (L:List En) (tl:List (Fd×Nat)) (i:Nat) (k:List UInt8):List Po:=pk L k++(((cX tl).take i).filter λt=>decide (fv t=k)).map λt=>((L.length:Int),posOf tl t)
theorem Rp (L:List En) (tl:List (Fd×Nat)) (k:List UInt8):Ro L tl 0 k=pk L k:=by simp[Ro]
theorem Rq {L:List En} {tl:List (Fd×Nat)} {i:Nat} {t:Fd} (h:(cX tl)[i]? =some t) (k:List UInt8):Ro L tl (i+1) k=if k=fv t then Ro L tl i (fv t)++[((L.length:Int),posOf tl t)]else Ro L tl i k:=by
 unfold Ro;rw[bB,h,bU,jK,cG]
 split
 ·rename_i e;subst e;simp
 ·rename_i e
  have: ¬fv t=k:=λh=>e h.symm
  simp[this]
theorem VF {L:List En} {e:En} {i:Nat} (h:(cX (mU e)).length<=i) (k:List UInt8):Ro L (mU e) i k=pk (L++[e]) k:=by
 unfold Ro;rw[Vu,aL h];rfl
theorem VG {L:List En} (hF:∀x∈L,ky x.1) (tl:List (Fd×Nat)) (i:Nat) (k:List UInt8):(Ro L tl i k).length<=L.length+(cX tl).length:=by
 unfold Ro;have h1:=(mJ k L 0 hF).1;have h2:=fz (λt=>decide (fv t=k)) ((cX tl).take i);have h3:=List.length_take_le i (cX tl);have h4:(pk L k).length<=L.length:=h1;simp only[aY,ay,aU]at*;omega
theorem DP {d:Dc} (hF:ky d):(cX (cD d.2)).length<=500:=by
 have h1:=(tQ hF.NW).nodup.length_le_of_subset (l₂:=(cD d.2).map (·.1)) (λt ht=>(kY hF.NW).1 ht);have:=hF.many;simp at h1;omega
theorem ky.term {d:Dc} (hF:ky d) {t:Fd} (h:t∈cX (cD d.2)):t.1.length<=12/\t.2.length<=30:=by
 obtain⟨p,hp,rfl⟩:=ck.1 ((kY hF.NW).1 h);exact hF.small p hp
theorem Rr {Z M:aJ} {B:Nat} (w0:World) (hM:Lt M w0) (hB:B<=w0.heap.size) (hZ:∀k,w0.heap.size<=k->Z k):
  Spec Tryz.prog 39 #[] w0 (λv w=>∃M' b,v= .pointer (some ⟨b,0,none⟩)/\Lt M' w/\qv Z M' w B b [] 0 (-1)/\Step M w0 M' w aA):=by
 refine bF (args:=[]) (fn:=Tryz.f39) Tryz.func39 G (n:=4) Tryz.ntmps39 ?_;have S:Step M w0 M w0 aA:=bz;refine T.aQ (Rg.bA G G (T.aQ ?_));refine Rg.GX M jZ G (λmb w1m p1 q1 gW s1=>?_);obtain⟨M_W,Rh⟩:∃M',M'=ins M mb:=⟨_,rfl⟩;rw[<-Rh]at s1;have EV:M_W mb:=by rw[Rh];exact .inl G
 replace hM:=s1.lt hM;have:=S.size;replace S:=S.aw s1;refine ie (places:=[(0,1),(1,1),(2,1),(3,1)]) eM anB anC rfl ⟨_,_,rfl,rfl,_,_,rfl,rfl,rfl⟩ (out:=[.slice none 0 0,_,.int .i64 0,_]) ⟨1,[_],rfl,rfl,by simp[Value.cells],3,[_],rfl,rfl,by simp[Value.cells],rfl⟩ ?_;refine zO M_W G G (λaaE Vn azL azM jM sL=>?_);obtain⟨afN,Rs⟩:∃M',M'=ins M_W aaE:=⟨_,rfl⟩;rw[<-Rs]at sL;have aaF:afN aaE:=by rw[Rs];exact .inl G
 change Vn.heap[aaE]? =some (.cells #[.slice none 0 0,.map (some mb),.int .i64 0,.int .i64 (-1)] _ _)at jM;replace EV:=(sL.mem _ (ae gW.at_)).2 EV;replace gW:=gW.aE sL;replace hM:=sL.lt hM;have:=S.size;replace S:=S.aw sL;refine Rg.bA G G (aT ?_);exact aX G G ⟨_,_,G,hM,⟨mb,_,[],0,jM,aaF,EV,hZ _ k3,hZ _ k3,dh _ _ _ _ _,gW,VD _ _ _ _,λc hc=>by cases hc⟩,S⟩
end Go.K
namespace Go.K
open Go.Proofs
namespace TKBldD
theorem L6:TI Tryz.prog 29 (.slice none 0 0) 1 24:=by unfold TI;kernel_rfl
theorem wK:TI Tryz.prog 80 (.slice none 0 0) 1 24:=by unfold TI;kernel_rfl
theorem JX:TI Tryz.prog 151 (.map none) 1 8:=by unfold TI;kernel_rfl
theorem E86:Enters Tryz.prog 86:=enters Tryz.func86 rfl q0
theorem E87:Enters Tryz.prog 87:=enters Tryz.func87 rfl q0
theorem E88:Enters Tryz.prog 88:=enters Tryz.func88 rfl q0
theorem E89:Enters Tryz.prog 89:=enters Tryz.func89 rfl q0
end TKBldD
open TKBldD
set_option maxRecDepth 10000
set_option maxHeartbeats 4000000 in
theorem Rt {Z M:aJ} {B b:Nat} {L:List En} {words last:Int} {e:En} {v0:Value} (w0:World) (hM:Lt M w0) (hZ:∀k,w0.heap.size<=k->Z k) (hb:qv Z M w0 B b L words last) (hBw:B<=w0.heap.size) (hv:RT.en.V M w0 e v0) (hl:∀f∈e.1.2,f.1.length<=900000/\f.2.length<=900000) (hLF:∀x∈L,ky x.1) (hLn:L.length<=1000000) (hw:0<=words/\words<=1000000000):
  Spec Tryz.prog 40 #[.pointer (some ⟨b,0,none⟩),v0] w0 (λv w=>∃M',Lt M' w/\Step M w0 M' w (Rn M Z)/\v= .int .i64 (pf last e)/\(pf last e≠0->qv Z M' w B b L words last)/\(pf last e=0->qv Z M' w B b (L++[e]) (words+((mU e).length:Int)) e.2)):=by
 obtain⟨mb,vl,es,clock,gb,ff,gv,hB,LY,ho,hW,hR,zl⟩:=hb;have XR:b≠mb:=λh=>by have:=hW.at_;rw[<-h,gb]at this;cases this
 refine bF (args:=[_,_]) (fn:=Tryz.f40) Tryz.func40 G (n:=89) Tryz.ntmps40 ?_;have S:Step M w0 M w0 (Rn M Z):=(bz).eL a42 (λ_ h=>h.2);refine T.aQ ?_;refine kB (A:=RT.en) G G hM hv G (λu0 w1 dT s0 _=>?_);have:=ae gb;replace ff:=(s0.mem _ this).2 ff;replace gb:=s0.aP gb;replace ho:=ho.aE s0;replace gv:=(s0.mem _ (ae hW.at_)).2 gv;replace hW:=hW.aE s0;replace hR:=hR.aE s0;replace hM:=s0.lt hM;have:=S.size;replace S:=S.aw s0;refine Rg.bA G G (aI (T.aQ ?_));refine aD (A:=RT.en) (B:=RT.dc) dH G G nY q0 Ve G G q0 dT bY (λCS nE=>?_);refine cW (A:=RT.dc) bg G nY q0 G G G nE bY (λCT py=>?_);refine a8 G G E86 (Qv _ hM py hl) (λr2 w2 hc=>?_);obtain⟨rfl,s2⟩:=hc;have:=ae gb;replace ff:=(s2.mem _ this).2 ff;replace gb:=s2.aP gb;replace dT:=dT.le q0 s2.le;replace ho:=ho.aE s2;replace gv:=(s2.mem _ (ae hW.at_)).2 gv;replace hW:=hW.aE s2;replace hR:=hR.aE s2;replace hM:=s2.lt hM;have:=S.size;replace S:=S.aw s2;refine Rg.bA G G (T.aQ (ab G G (fH G G G (ad ?_))));refine bM G (λc2=>?_) (λc2=>?_)
 ·refine T.aQ (ab G G (Rg.bA G G (aT ?_)));have ea:pf last e=nP e.1:=if_pos c2;exact aX rfl rfl ⟨_,hM,S,by rw[ea],λ_=>⟨mb,vl,es,clock,gb,ff,gv,hB,LY,ho,hW,hR,zl⟩,λh=>absurd (ea▸h) c2⟩
 ·have hF:ky e.1:=L0 (by simpa using c2);refine aR (aI (aI ?_));apply jU mixed rfl rfl;intro XY VH;have sN:=VH M;have:=ae gb;replace ff:=(sN.mem _ this).2 ff;replace gb:=sN.aP gb;replace dT:=dT.le q0 sN.le;replace ho:=ho.aE sN;replace gv:=(sN.mem _ (ae hW.at_)).2 gv;replace hW:=hW.aE sN;replace hR:=hR.aE sN;replace hM:=sN.lt hM;have:=S.size;replace S:=S.aw sN;refine aD (A:=RT.en) (B:=RT.int .i64) dH G G I3 q0 en1 G G q0 dT bY (λVg DC=>?_);refine Rg.bL ?_;refine bV (M:=M) aq G G W4 (by repeat (first|exact bH _ _|refine aZ (bI W4) ?_)) (λXZ=>?_);refine bc (v':= .int .i64 (e.2)) G ?_;replace XZ: -9223372036854775808<=(e.2:Int)/\e.2<=9223372036854775807:=XZ;refine Rg.bL (ab G G (Rg.bL (cu G ⟨_,G⟩ G (Rg.bL (bR (o':=3) eM G G I3 q0 G G (Rg.bL (aV aq G G G (by first|assumption|exact dE sN W4) G (Rg.bL (iG G G G (Rg.bL (dD ?_)))))))))));refine bM G (λc4=>?_) (λc4=>?_)
  ·refine T.aQ (Rg.bA G G (aT ?_));have ea:pf last e=12:=by unfold pf;rw[if_neg (λh=>h (by simpa using c2)),if_pos c4]
   exact aX rfl rfl ⟨_,hM,S,by rw[ea],λ_=>⟨mb,vl,es,clock,gb,ff,gv,hB,LY,ho,hW,hR,zl⟩,λh=>absurd (ea▸h) q0⟩
  ·refine aR (T.aQ ?_);refine aD (A:=RT.en) (B:=RT.dc) dH G G nY q0 Ve G G q0 dT bY (λafj QE=>?_);refine cW (A:=RT.dc) bg G nY q0 G G G QE bY (λaah Br=>?_);refine a8 G G E87 (He _ hM Br hF hl) (λr6 w6 hc=>?_);obtain⟨a6,b6,rfl,ha,tS,s6⟩:=hc;have:=ae gb;replace ff:=(s6.mem _ this).2 ff;replace gb:=s6.aP gb;replace dT:=dT.le q0 s6.le;replace ho:=ho.aE s6;replace gv:=(s6.mem _ (ae hW.at_)).2 gv;replace hW:=hW.aE s6;replace hR:=hR.aE s6;replace hM:=s6.lt hM;have:=S.size;replace S:=S.aw s6;refine ab G G (cq G G G (cq G G G (aB G G (Rg.bA G G (aI (T.aQ (ab G G (bK cg G ha G (ab G G ?_)))))))));refine ad (aS ?_);refine dg (σ:=Nat) (λq=>[(0,.pointer (some ⟨b,0,none⟩)),(3,u0),(7,b6),(30,a6),(31,.int .i64 ((cX (mU e)).length:Int)),(32,.int .i64 (q:Int))]) (λq w=>∃M' es clock,Lt M' w/\Step M w0 M' w (Rn M Z)/\dv RT.en M' w u0 e/\(RT.fd.sl).V M' w (cX (mU e)) a6/\(((RT.int .i64).sl).sl).V M' w ((cX (mU e)).map (posOf (mU e))) b6/\Buf Z M' w B b mb vl L words last (Ro L (mU e) q) (λx=>x∈jb L\/x∈((cX (mU e)).take q).map fv) es clock/\q<=(cX (mU e)).length) (λq=>(cX (mU e)).length-q) 0 a10 ?_ ?_
   ·exact⟨_,es,clock,hM,S,dT,ha,tS,⟨gb,ff,gv,hB,LY,ho,hW,hR.congr (λk=>Rp _ _ _) (λk=>by simp),zl⟩,bC _⟩
   ·clear hM S dT ha tS gb ff gv ho hW hR;rintro i w ⟨M1,es,clock,hM,S,dT,ha,tS,⟨gb,ff,gv,_,_,ho,hW,hR,_⟩,hi⟩;refine T.aQ (ch G G G (ad (aI ?_)));refine bM G (λc8=>?_) (λc8=>?_)
    ·refine aR (aI (aS (T.aQ (ab G G ?_))));refine bX cg mT G G G ha bY k3 (λanE t XK Ru=>?_);rw[an]at XK;have UP:=au XK;have I1:=hF.term UP;refine cW (A:=RT.fd) cw G mT q0 G G G Ru bY (λanF Rv=>?_);obtain rfl:=mF Rv;refine eA M1 mT G (λBF aeQ azS azT rF tH=>?_);obtain⟨DQ,Rw⟩:∃M',M'=ins M1 BF:=⟨_,rfl⟩;rw[<-Rw]at tH;have EW:DQ BF:=by rw[Rw];exact .inl G
     change aeQ.heap[BF]? =some (.cells #[.string ⟨#[]⟩,.string ⟨#[]⟩] _ _)at rF;have:=ae gb;replace ff:=(tH.mem _ this).2 ff;replace gb:=tH.aP gb;replace dT:=dT.le q0 tH.le;replace ha:=ha.le tH.le;replace tS:=tS.le tH.le;replace ho:=ho.aE tH;replace gv:=(tH.mem _ (ae hW.at_)).2 gv;replace hW:=hW.aE tH;replace hR:=hR.aE tH;replace hM:=tH.lt hM;have:=S.size;replace S:=S.aw tH;refine aB G G ?_;refine ej (M:=DQ) (vs:=[.string ⟨t.1.toArray⟩,.string ⟨t.2.toArray⟩]) mT G G (ET G Rv) G G rF EW (λw9 g9 s9=>?_);have:=ae gb;replace ff:=(s9.mem _ this).2 ff;replace gb:=s9.keep gb a05;have:=ae rF;replace EW:=(s9.mem _ this).2 EW;replace dT:=dT.le q0 s9.le;replace ha:=ha.le s9.le;replace tS:=tS.le s9.le;replace ho:=ho.step s9 (λc hc (h:_=_)=>by first|exact ho.eu gb q0 (h▸hc)|exact ho.eu rF q0 (h▸hc));replace gv:=(s9.mem _ (ae hW.at_)).2 gv;replace hW:=hW.step s9 a30;replace hR:=hR.step s9 a13;replace hM:=s9.lt hM;have:=S.size;replace S:=S.trans s9 (λk hk h=>by have h:_=_:=h;subst h;first|(exfalso;omega)|(show _<=_;omega)|exact⟨by first|omega|assumption,(S.mem _ hk).1 ((s9.mem _ (ae rF)).1 EW)⟩|exact .inl rfl|exact .inr rfl|exact .inr (.inl rfl)|exact .inr (.inr rfl)|exact .inr (.inr (.inl rfl))|exact rfl);have X0:=g9;clear rF;have rF:=X0;clear X0;refine ad (T.aQ (gJ (vs:=[.string ⟨t.1.toArray⟩,.string ⟨t.2.toArray⟩]) cw G mT G G G rF ?_))
     refine a8 G G E80 (QY (t:=t) _ hM k3 k3) (λr10 w10 hc=>?_);obtain⟨rfl,As⟩:=hc;have:=ae gb;replace ff:=(As.mem _ this).2 ff;replace gb:=As.aP gb;replace dT:=dT.le q0 As.le;replace ha:=ha.le As.le;replace tS:=tS.le As.le;replace ho:=ho.aE As;replace gv:=(As.mem _ (ae hW.at_)).2 gv;replace hW:=hW.aE As;replace hR:=hR.aE As;replace hM:=As.lt hM;have:=S.size;replace S:=S.aw As;refine Rg.bA G G ?_;obtain⟨v10,ny⟩:=fj.ex mH es (sv (fv t));apply nq 21 [0,1,2,3,4,5,6,7,8,9,10] 2 (gy v10) mixed rfl rfl rfl rfl;intro EX EY;have gO:=EY DQ;have:=ae gb;replace ff:=(gO.mem _ this).2 ff;replace gb:=gO.aP gb;replace dT:=dT.le q0 gO.le;replace ha:=ha.le gO.le;replace tS:=tS.le gO.le;replace ho:=ho.aE gO;replace gv:=(gO.mem _ (ae hW.at_)).2 gv;replace hW:=hW.aE gO;replace hR:=hR.aE gO;replace hM:=gO.lt hM;have:=S.size;replace S:=S.aw gO;refine ab G G (Rg.bL (cu G ⟨_,G⟩ G (Rg.bL (bR (o':=1) eM G G JX q0 G G (Rg.bL (aV jZ G G G aj4 G (Rg.bL (ab G G (Rg.bL (ab G G (Rg.bL ?_)))))))))));refine cu G ⟨_,G⟩ G (Rg.bL (bR (o':=1) eM G G JX q0 G G (Rg.bL (aV jZ G G G aj4 G (Rg.bL (ab G G (Rg.bL ?_)))))));obtain⟨kl,AN⟩:=Rm (fv t) (by unfold fv;simp;omega);refine Rg.xw jZ xH wK G G G AN hW (λanG anH=>?_);obtain rfl:v10=anG:=hW.val_one ny anH;have uQ:=VG hLF (mU e) i (fv t);have Ga:(cX (mU e)).length<=500:=DP hF;refine Rg.bL (ab G G (Rg.bL (cu G ⟨_,G⟩ G (Rg.bL (bR (o':=0) eM G G L6 q0 G G (Rg.bL (aV dp G G G aj4 G (Rg.bL (fW dp G ho G (Rg.bL (ab G G ?_)))))))))))
     refine Rg.bL (ab G G (Rg.bL ?_));refine bX cn iJ rfl rfl rfl tS bY a03 (λu18 ps afO anI=>?_);rw[an,bj,XK]at afO;obtain rfl:=ar afO;refine Rg.bL ?_;refine bE ah G G G G G anI bY (λv19 afP=>?_);refine Rg.bL (ie (places:=[(0,1),(1,1)]) bW ng ZE rfl ⟨_,_,rfl,rfl,_,_,rfl,rfl,rfl⟩ (out:=[_,_]) ⟨0,[_],rfl,rfl,by simp[Value.cells],1,[_],rfl,jo afP,by simp[Value.cells],rfl⟩ ?_);have pZ:RT.po.V DQ _ ((L.length:Int),posOf (mU e) t) _:=fE (gw k3) afP rfl rfl rfl rfl;refine Rg.bL (dD ?_);have vE:=hR.o _ _ ny;refine ⟨eQ ⟨ey,⟨bO.nilCheck G,⟨fk eM G JX q0,⟨dQ G gb (λh=>vE.eu gb q0 h),⟨ey,⟨ey,⟨bO.nilCheck G,⟨fk eM G JX q0,⟨dQ G gb (λh=>vE.eu gb q0 h),⟨ey,⟨bO.xw jZ xH wK G G AN hW (λh=>vE.mI hW.at_ h),trivial⟩⟩⟩⟩⟩⟩⟩⟩⟩⟩⟩,?_⟩;have kp:=fq (gy v10) EX;refine dP (A:=RT.po) (hn:=by decide) (M:=DQ) bu ng q0 G G hM (pZ) (.inl G) (λanJ anK VI oR=>?_);have:=ae gb;replace ff:=(oR.mem _ this).2 ff;replace gb:=oR.aP gb;replace dT:=dT.le q0 oR.le;replace ha:=ha.le oR.le;replace tS:=tS.le oR.le;replace ho:=ho.aE oR;replace gv:=(oR.mem _ (ae hW.at_)).2 gv;replace hW:=hW.aE oR;replace hR:=hR.aE oR;replace hM:=oR.lt hM;have:=S.size;replace S:=S.aw oR;refine(fun(kp:eB _ _ _)=>ad ⟨G,G,λ_=>kp,?_⟩) a00;refine fI (M:=DQ) (base:=B) bu ng rfl rfl rfl rfl (hR.o _ _ ny) VI bY a03 a03 ad1 (λv22 w22 anL Rx anM=>?_)
     have vE:=hR.o _ _ ny;have auG:=hW.at_;have afQ:v10.ownBlock≠some mb:=vE.mI hW.at_;have X1:=ho.step Rx (λc hc h=>ho.cr vE q0 hc h);have JY:=(Rx.mem _ (ae hW.at_)).2 gv;have VJ:=hW.step Rx afQ;have afR:=Rx.keep gb (λh=>vE.eu gb q0 h);have aaG:=(Rx.mem _ (ae gb)).2 ff;have S22:=S.trans Rx (λk hk h=>⟨hR.z _ _ k ny h,(S.mem k hk).1 (vE.mut_ k h)⟩);have anN:=Rx.lt hM;replace dT:=dT.le q0 Rx.le;replace ha:=ha.le Rx.le;replace tS:=tS.le Rx.le;refine(fun(kp:eB _ _ _)=>ad ⟨G,G,λ_=>kp,?_⟩) a00;refine Rg.Vw jZ xH G G G AN VJ JY (λw23 anO anP anQ anR aaH Ut=>?_);have anS:=hR.put (λc hc=>hZ c ad1) ny anL Rx anM VJ.at_ Ut aaH anR;replace dT:=dT.le q0 Ut.le;replace ha:=ha.le Ut.le;replace tS:=tS.le Ut.le;have anT:=X1.step Ut (λc hc (h:c=mb)=>X1.mI VJ.at_ (h▸hc));have anU:=Ut.keep afR XR;have aaI:=(Ut.mem _ (ae afR)).2 aaG;have aaJ:=(Ut.mem _ (ae VJ.at_)).2 JY;have anV:=Ut.lt anN;have S23:=S22.trans Ut (λk hk (h:k=mb)=>⟨by rw[h];exact LY,(S22.mem k hk).1 (by rw[h];exact JY)⟩);refine ad ⟨G,G,λh=>absurd G h,iu (aH (bG G G G k3 (ab G G (ad ?_))))⟩;refine⟨G,i+1,a10,?_,?_⟩
     ·exact⟨_,anO,anP,anV,S23,dT,ha,tS,⟨anU,aaI,aaJ,hB,LY,anT,anQ,anS.congr (λk=>Rq XK k) (λk=>by rw[bB,XK,bU,cG,cP,or_assoc];simp),zl⟩,by omega⟩
     ·omega
    ·refine cO (aI ?_);apply nq 6 [0,1,2,3,4] 3 (gy vl) mixed rfl rfl rfl rfl;intro Qz Z7;have l1:=Z7 M1;have:=ae gb;replace ff:=(l1.mem _ this).2 ff;replace gb:=l1.aP gb;replace dT:=dT.le q0 l1.le;replace ha:=ha.le l1.le;replace tS:=tS.le l1.le;replace ho:=ho.aE l1;replace gv:=(l1.mem _ (ae hW.at_)).2 gv;replace hW:=hW.aE l1;replace hR:=hR.aE l1;replace hM:=l1.lt hM;have:=S.size;replace S:=S.aw l1;refine ab G G (Rg.bL (ab G G (Rg.bL (cu G ⟨_,G⟩ G (Rg.bL (bR (o':=0) eM G G L6 q0 G G (Rg.bL (aV dp G G G gb G (bc (v':=vl) G (Rg.bL ?_))))))))));refine cW (A:=RT.en) dH G A3 q0 G G G dT bY (λXG EJ=>?_);refine Rg.bL (dD (⟨eQ ⟨ey,⟨ey,⟨bO.nilCheck G,⟨fk eM G L6 q0,⟨dQ G gb (λh=>ho.eu gb q0 h),trivial⟩⟩⟩⟩⟩,?_⟩));have kp:=fq (gy vl) Qz;refine a8 G G E88 (Rb _ hM EJ (by have:=hF.few;omega)) (λafS w13 hc=>?_);obtain⟨EZ,FQ⟩:=hc;have:=ae gb;replace ff:=(FQ.mem _ this).2 ff;replace gb:=FQ.aP gb;replace dT:=dT.le q0 FQ.le;replace ha:=ha.le FQ.le;replace tS:=tS.le FQ.le;replace ho:=ho.aE FQ;replace gv:=(FQ.mem _ (ae hW.at_)).2 gv;replace hW:=hW.aE FQ;replace hR:=hR.aE FQ;replace hM:=FQ.lt hM;have:=S.size;replace S:=S.aw FQ;refine(fun(kp:eB _ _ _)=>ad ⟨G,G,λ_=>kp,?_⟩) a00;refine dP (A:=RT.en) (hn:=by decide) (M:=M1) dp A3 q0 G G hM (EZ) (.inl G) (λauJ auK aaK sm=>?_);have:=ae gb;replace ff:=(sm.mem _ this).2 ff
     replace gb:=sm.aP gb;replace dT:=dT.le q0 sm.le;replace ha:=ha.le sm.le;replace tS:=tS.le sm.le;replace EZ:=EZ.le sm.le;replace ho:=ho.aE sm;replace gv:=(sm.mem _ (ae hW.at_)).2 gv;replace hW:=hW.aE sm;replace hR:=hR.aE sm;replace hM:=sm.lt hM;have:=S.size;replace S:=S.aw sm;refine(fun(kp:eB _ _ _)=>ad ⟨G,G,λ_=>kp,?_⟩) a00;refine fI (M:=M1) (base:=B) dp A3 rfl rfl rfl rfl ho aaK bY a03 a03 ad1 (λHj auL aaL zA anW=>?_);replace ff:=(zA.mem _ (ae gb)).2 ff
     have zl':∀c,Hj.ownBlock=some c->Z c:=λc hc=>by
      rcases anW c hc with h|h
      ·exact hZ c ad1
      ·exact zl c h
     replace hR:=hR.step zA (λk v c hv hc h=>(hR.o k v hv).cr ho q0 hc h);replace gv:=(zA.mem _ (ae hW.at_)).2 gv;replace hW:=hW.step zA (λh=>ho.mI hW.at_ h);replace gb:=zA.keep gb (λh=>ho.eu gb q0 h);replace dT:=dT.le q0 zA.le;replace S:=S.trans zA (λk hk h=>⟨zl k h,(S.mem k hk).1 (ho.mut_ k h)⟩);replace hM:=zA.lt hM;replace ho:=aaL;obtain⟨Ry,Rz⟩:∃M',M'=ji M1 Hj:=⟨_,rfl⟩;rw[<-Rz]at hR gv dT S hM ho ff;refine(fun(kp:eB _ _ _)=>ad ⟨G,G,λ_=>kp,?_⟩) a00;refine cu G ⟨_,G⟩ G (ad ⟨G,G,λh=>absurd G h,bR (o':=0) eM G G L6 q0 G G (ad ⟨G,G,λh=>absurd G h,?_⟩)⟩);refine cF (M:=Ry) L6 rfl rfl gb rfl a88 ff (λaaM RA rG=>?_);change aaM.heap[_]? =some (Obj.cells #[Hj,.map (some mb),.int .i64 words,.int .i64 last] _ _)at RA;have:=ae gb;replace ff:=(rG.mem _ this).2 ff;replace dT:=dT.le q0 rG.le;replace ho:=ho.step rG (λc hc (h:_=_)=>by first|exact ho.eu gb q0 (h▸hc)|exact ho.eu rF q0 (h▸hc));replace gv:=(rG.mem _ (ae hW.at_)).2 gv;replace hW:=hW.step rG a30;replace hR:=hR.step rG a13;replace hM:=rG.lt hM;have:=S.size;replace S:=S.trans rG (λk hk h=>by have h:_=_:=h;subst h;first|(exfalso;omega)|(show _<=_;omega)|exact⟨by first|omega|assumption,(S.mem _ hk).1 ((rG.mem _ (ae gb)).1 ff)⟩|exact .inl rfl|exact .inr rfl|exact .inr (.inl rfl)|exact .inr (.inr rfl)|exact .inr (.inr (.inl rfl))|exact rfl)
     have QW:=RA;clear gb;have gb:=QW;clear QW;refine ad ⟨G,G,λh=>absurd G h,iu (aI ?_)⟩;apply nq 6 [0,1,2,3] 1 aA mixed rfl rfl rfl rfl;intro VK JZ;have j4:=JZ Ry;have:=ae gb;replace ff:=(j4.mem _ this).2 ff;replace gb:=j4.aP gb;replace dT:=dT.le q0 j4.le;replace ho:=ho.aE j4;replace gv:=(j4.mem _ (ae hW.at_)).2 gv;replace hW:=hW.aE j4;replace hR:=hR.aE j4;replace hM:=j4.lt hM;have:=S.size;replace S:=S.aw j4;refine ab G G (Rg.bL (cu G ⟨_,G⟩ G (Rg.bL (bR (o':=2) eM G G I3 q0 G G (Rg.bL (aV aq G G G (by first|assumption|exact dE j4 W4) G (Rg.bL ?_)))))));refine aD (A:=RT.en) (B:=RT.dc) dH G G nY q0 Ve G G q0 dT bY (λauM aaN=>?_);refine Rg.bL ?_;refine cW (A:=RT.dc) bg G nY q0 G G G aaN bY (λauN aaO=>?_);refine Rg.bL (dD (⟨eQ ⟨ey,⟨bO.nilCheck G,⟨fk eM G I3 q0,⟨dQ G gb (λh=>h),trivial⟩⟩⟩⟩,?_⟩));have kp:=fq aA VK;refine a8 G G E89 (GZ _ hM aaO hl hF.few) (λr14 w14 hc=>?_);obtain⟨rfl,lI⟩:=hc;have:=ae gb;replace ff:=(lI.mem _ this).2 ff;replace gb:=lI.aP gb;replace dT:=dT.le q0 lI.le;replace ho:=ho.aE lI;replace gv:=(lI.mem _ (ae hW.at_)).2 gv;replace hW:=hW.aE lI;replace hR:=hR.aE lI;replace hM:=lI.lt hM;have:=S.size;replace S:=S.aw lI;refine(fun(kp:eB _ _ _)=>ad ⟨G,G,λ_=>kp,?_⟩) a00;have:=hF.many;refine bG G G G k3 (ad ⟨G,G,λh=>absurd G h,cu G ⟨_,G⟩ G (ad ⟨G,G,λh=>absurd G h,bR (o':=2) eM G G I3 q0 G G (ad ⟨G,G,λh=>absurd G h,?_⟩)⟩)⟩)
     refine cF (M:=Ry) I3 G G gb G (G) ff (λaaP E0 rH=>?_);change aaP.heap[_]? =some (Obj.cells #[Hj,.map (some mb),.int .i64 (words+((mU e).length:Int)),.int .i64 last] _ _)at E0;have:=ae gb;replace ff:=(rH.mem _ this).2 ff;replace dT:=dT.le q0 rH.le;replace ho:=ho.step rH (λc hc (h:_=_)=>by first|exact ho.eu gb q0 (h▸hc)|exact ho.eu rF q0 (h▸hc));replace gv:=(rH.mem _ (ae hW.at_)).2 gv;replace hW:=hW.step rH a30;replace hR:=hR.step rH a13;replace hM:=rH.lt hM;have:=S.size;replace S:=S.trans rH (λk hk h=>by have h:_=_:=h;subst h;first|(exfalso;omega)|(show _<=_;omega)|exact⟨by first|omega|assumption,(S.mem _ hk).1 ((rH.mem _ (ae gb)).1 ff)⟩|exact .inl rfl|exact .inr rfl|exact .inr (.inl rfl)|exact .inr (.inr rfl)|exact .inr (.inr (.inl rfl))|exact rfl);have QW:=E0;clear gb;have gb:=QW;clear QW;refine ad ⟨G,G,λh=>absurd G h,iu (T.aQ (ab G G ?_))⟩;refine aD (A:=RT.en) (B:=RT.int .i64) dH G G I3 q0 en1 G G q0 dT bY (λauO anX=>?_);refine bV (M:=Ry) aq G G W4 (by repeat (first|exact bH _ _|refine aZ (bI W4) ?_)) (λRB=>?_);refine bc (v':= .int .i64 (e.2)) G ?_;replace RB: -9223372036854775808<=(e.2:Int)/\e.2<=9223372036854775807:=RB;refine cu G ⟨_,G⟩ G (bR (o':=3) eM G G I3 q0 G G ?_);refine cF (M:=Ry) I3 G G gb G (G) ff (λX2 X3 lT=>?_)
     change X2.heap[_]? =some (Obj.cells #[Hj,.map (some mb),.int .i64 (words+((mU e).length:Int)),.int .i64 e.2] _ _)at X3;have:=ae gb;replace ff:=(lT.mem _ this).2 ff;replace dT:=dT.le q0 lT.le;replace ho:=ho.step lT (λc hc (h:_=_)=>by first|exact ho.eu gb q0 (h▸hc)|exact ho.eu rF q0 (h▸hc));replace gv:=(lT.mem _ (ae hW.at_)).2 gv;replace hW:=hW.step lT a30;replace hR:=hR.step lT a13;replace hM:=lT.lt hM;have:=S.size;replace S:=S.trans lT (λk hk h=>by have h:_=_:=h;subst h;first|(exfalso;omega)|(show _<=_;omega)|exact⟨by first|omega|assumption,(S.mem _ hk).1 ((lT.mem _ (ae gb)).1 ff)⟩|exact .inl rfl|exact .inr rfl|exact .inr (.inl rfl)|exact .inr (.inr rfl)|exact .inr (.inr (.inl rfl))|exact rfl);have QW:=X3;clear gb;have gb:=QW;clear QW;refine ad (T.aQ (Rg.bA G G (aT ?_)));have ea:pf last e=0:=by unfold pf;rw[if_neg (λh=>h (by simpa using c2)),if_neg c4]
     exact aX rfl rfl ⟨_,hM,S,by rw[ea],λh=>absurd ea h,λ_=>⟨mb,_,es,clock,gb,ff,gv,hB,LY,ho,hW,hR.congr (λk=>(VF k3 k).symm) (λk=>by rw[BD,cP,aL k3]),zl'⟩⟩
end Go.K
namespace Go.K
open Go.Proofs
namespace TKBldE
theorem wK:TI Tryz.prog 80 (.slice none 0 0) 1 24:=by unfold TI;kernel_rfl
theorem JX:TI Tryz.prog 151 (.map none) 1 8:=by unfold TI;kernel_rfl
theorem VL:Enters Tryz.prog 51:=enters Tryz.func51 rfl q0
theorem E90:Enters Tryz.prog 90:=enters Tryz.func90 rfl q0
theorem E91:Enters Tryz.prog 91:=enters Tryz.func91 rfl q0
end TKBldE
open TKBldE
set_option maxRecDepth 10000
theorem hU.L4 {P:Program} {kt:TypeId} {w:World} {b clock:Nat} {es:List MapEntry} (hk:P.underlying kt=some .string) (h:hU P kt w b es clock):∃ks:List (List UInt8),es.map (·.key)=ks.map sv/\ks.Nodup:=by
 have key:∀es:List MapEntry,(∀e∈es,∃l,keyOf P kt e.key=some l)->∃ks:List (List UInt8),es.map (·.key)=ks.map sv:=by
  intro es
  induction es with
  |nil=>exact λ_=>⟨[],rfl⟩
  |cons e es ih=>
   intro h;obtain⟨ks,h1⟩:=ih λx hx=>h x (cI _ hx)
   obtain⟨l,hl⟩:=h e (bZ ..);obtain⟨x,h3,_,h4⟩:=Maps.keyOf_str hk hl;exact⟨x::ks,by simp only[fe,h1,h3]⟩
 obtain⟨ks,h1⟩:=key es h.ok;refine ⟨ks,h1,?_⟩;have h3:=dr.2 h.keys;rw[h1]at h3;exact(dr.1 h3).imp λh e=>h af6
theorem Hk {M:aJ} {w:World}:∀{l:List (List UInt8)},(∀x∈l,x.length<=140737488355328)->eX RT.str M w l (l.map Go.Proofs.encStr)
 |[],_=>rfl
 |x::l,h=>⟨[.string ⟨x.toArray⟩],_,rfl,⟨rfl,h x (bZ ..)⟩,Hk λy hy=>h y (cI _ hy)⟩
theorem RC (M:aJ) (w:World) (M':aJ) (w':World) (x:List UInt8) (vs:List Value) (h:RT.str.R M w x vs):RT.str.R M' w' x vs:=h
theorem zB {L:List En} (hF:∀x∈L,ky x.1):∀k∈jb L,k.length<=43:=λk hk=>by
 obtain⟨e,he,h1⟩:=kV.1 hk;obtain⟨t,ht,rfl⟩:=ck.1 h1;have:=(hF e he).term ht;unfold fv;simp;omega
theorem mK {L:List En} (hF:∀x∈L,ky x.1):(jb L).length<=500*L.length:=by
 induction L with
 |nil=>simp[jb]
 |cons e L ih=>
  have h1:=ih λx hx=>hF x (cI _ hx)
  have h2:=DP (hF e (bZ ..));show((cX (mU e)).map fv++jb L).length<=_;rw[aY,ay,dG];have h2:(cX (mU e)).length<=500:=h2;omega
theorem J0 {Z M:aJ} {B b:Nat} {L:List En} {words last:Int} (w0:World) (hM:Lt M w0) (hb:qv Z M w0 B b L words last) (hF:∀x∈L,ky x.1) (hLn:L.length<=1000000):
  Spec Tryz.prog 41 #[.pointer (some ⟨b,0,none⟩)] w0 (λv w=>(RT.str.sl).V M w (keysOf L) v/\Step M w0 M w aA):=by
 obtain⟨mb,vl,es,clock,gb,ff,gv,hB,LY,ho,hW,hR,zl⟩:=hb;obtain⟨ks,Vt,qL⟩:=hW.L4 aG
 have fO:∀x,x∈ks↔x∈jb L:=λx=>by
  rw[<-hR.k x];constructor
  ·intro hx;have:sv x∈es.map (·.key):=by rw[Vt];exact gU hx
   obtain⟨e,he,h⟩:=ck.1 this;exact⟨e,he,h⟩
  ·rintro⟨e,he,h⟩;have:sv x∈ks.map sv:=by rw[<-Vt,<-h];exact gU he
   obtain⟨y,hy,h1⟩:=ck.1 this;rw[<-ER h1];exact hy
 have FR:ks.length<=500000000:=by
  have h1:=qL.length_le_of_subset (l₂:=jb L) (λx hx=>(fO x).1 hx);have h2:=mK hF;omega
 have hen:es.length=ks.length:=by have:=congrArg List.length Vt;simpa using this
 refine bF (args:=[_]) (fn:=Tryz.f41) Tryz.func41 G (n:=9) Tryz.ntmps41 ?_;have S:Step M w0 M w0 aA:=bz;refine T.aQ (Rg.bA G G (T.aQ (ab G G (cu G ⟨_,G⟩ G (bR (o':=1) eM G G JX q0 G G (aV jZ G G G gb G (bc (v':= .map (some mb)) G ?_)))))));refine a8 G G E91 (JV _ _) (λr w1 hc=>?_);obtain⟨rfl,hw1⟩:=hc;have s1:Step M w0 M w1 aA:=by rw[hw1];exact dK _ w0 _
 have Q9:=C0 hw1;have:=ae gb;replace ff:=(s1.mem _ this).2 ff;replace gb:=s1.aP gb;replace gv:=(s1.mem _ (ae hW.at_)).2 gv;replace hW:=hW.aE s1;replace hM:=s1.lt hM;have:=S.size;replace S:=S.aw s1;obtain⟨m,hO,Hl,tq⟩:=hW.ann aG gv (by unfold maxLen;omega) ks Vt;refine a8 G G E90 (EU hO Q9 k3) (λr2 w2 hc=>?_);obtain⟨⟨ss,hss,sM,_⟩,s2⟩:=hc;have Zi:ss.Perm ks:=hss.trans Hl;have hmp:=kr ss λx y=>decide (x<=y)
 have sf:(ss.mergeSort λx y=>decide (x<=y))=keysOf L:=Q6 (NS (Zi.nodup_iff.2 qL)) (lD L) λx=>by rw[hmp.mem_iff,Zi.mem_iff,fO,ka]
 have hlen:ss.length=(keysOf L).length:=by rw[<-sf,List.length_mergeSort]
 rw[sf,hlen]at sM;have an0:∀x∈keysOf L,x.length<=140737488355328:=λx hx=>by have:=zB hF x (ka.1 hx);omega
 have yp:Own RT.str 9 (o9 r2) w2 w1.heap.size r2 (keysOf L):=⟨⟨_,sM,Hk an0⟩,λb hb=>hb⟩;have yz:(RT.str.sl).V M w2 (keysOf L) r2:=yp.tell RC (λb hb h=>by have:=(yp.base b hb).1;have:=hM b h;omega) (by have:=Zi.length_eq;omega);have:=ae gb;replace ff:=(s2.mem _ this).2 ff;replace gb:=s2.aP gb;replace gv:=(s2.mem _ (ae hW.at_)).2 gv;replace hW:=hW.aE s2;replace hM:=s2.lt hM;have:=S.size;replace S:=S.aw s2;refine Rg.bA G G (aT ?_);exact aX G G ⟨yz,S⟩
theorem J1 {Z M:aJ} {B b:Nat} {L:List En} {words last:Int} {k:List UInt8} (w0:World) (hM:Lt M w0) (hb:qv Z M w0 B b L words last) (hF:∀x∈L,ky x.1) (hLn:L.length<=1000000) (AN:k.length<=140737488355328):
  Spec Tryz.prog 42 #[.pointer (some ⟨b,0,none⟩),sv k] w0 (λv w=>(RT.po.sl).V M w (pk L k) v/\Step M w0 M w aA):=by
 have ir:=hM;obtain⟨mb,vl,es,clock,gb,ff,gv,hB,LY,ho,hW,hR,zl⟩:=hb;obtain⟨kl,Zp⟩:=Rm k AN;obtain⟨uQ,OY⟩:=mJ k L 0 hF;replace uQ:(pk L k).length<=L.length:=uQ;replace OY:∀p∈pk L k,_:=OY;refine bF (args:=[_,_]) (fn:=Tryz.f42) Tryz.func42 G (n:=30) Tryz.ntmps42 ?_;have S:Step M w0 M w0 aA:=bz;refine T.aQ (Rg.bA G G (T.aQ (Rg.bA G G (aI (T.aQ (ab G G ?_))))));refine cu G ⟨_,G⟩ G (bR (o':=1) eM G G JX q0 G G (aV jZ G G G gb G (bc (v':= .map (some mb)) G (ab G G ?_))));refine Rg.xw jZ xH wK G G G Zp hW (λN2 ny=>?_);have vE:=hR.o _ _ ny;have DR:∀c,N2.ownBlock=some c->c<w0.heap.size:=λc hc=>(vE.base c hc).2
 clear hR hW ho;refine fW bu G vE G (ab G G (ad (aS ?_)));refine dg (σ:=Nat×Value) (λq=>[(5,q.2),(13,N2),(14,.int .i64 ((pk L k).length:Int)),(15,.int .i64 (q.1:Int))]) (λq w=>∃M',Lt M' w/\Step M w0 M' w aA/\Own RT.po 83 M' w w0.heap.size q.2 ((pk L k).take q.1)/\Own RT.po 83 M' w B N2 (pk L k)/\q.1<=(pk L k).length) (λq=>(pk L k).length-q.1) (0,.slice none 0 0) Y7 ?_ ?_
 ·exact⟨M,hM,S,dh _ _ _ _ _,vE,bC _⟩
 ·clear hM S vE;rintro⟨i,u⟩ w ⟨M1,hM,S,hu,vE,hi⟩;dsimp only at hu hi ⊢;refine T.aQ (ch G G G (ad (aI ?_)));refine bM G (λc3=>?_) (λc3=>?_)
  ·refine aR (aI (aS (T.aQ ?_)));refine Rg.anA bu ng q0 G G G vE k3 (λu4 p zu IH=>?_);rw[an]at zu;have hp:=OY p (au zu);refine Rg.Rl (A:=RT.po) bW G ng G G G IH (λv4 qm=>?_);refine vS (A:=RT.po) (M:=M1) ng G G G G G W4 bY hM (λJo U6 k5 oH an1=>?_);replace hu:=hu.aE oH;replace vE:=vE.aE oH;replace hM:=oH.lt hM;have:=S.size;replace S:=S.aw oH;refine ad ?_;apply nq 5 [0,1,2] 3 aA mixed rfl rfl rfl rfl;intro wD5 sA5;have yK:=sA5 M1;replace k5:=k5.le q0 yK.le;replace hu:=hu.aE yK;replace vE:=vE.aE yK;replace hM:=yK.lt hM;have:=S.size;replace S:=S.aw yK;refine ab G G (Rg.bL ?_);refine aD (M:=M1) (A:=RT.po) (B:=RT.int .i64) bW G G I3 q0 (Nv) G G q0 W4 (by repeat (first|exact bH _ _|refine aZ (bI W4) ?_)) (λamN XC=>?_);refine Rg.bL ?_;refine bV (M:=M1) aq G G W4 (by repeat (first|exact bH _ _|refine aZ (bI W4) ?_)) (λafT=>?_);refine Rg.bL ?_;refine aD (M:=M1) (A:=RT.po) (B:=(RT.int .i64).sl) bW G G iJ q0 (Xm) G G q0 W4 (by repeat (first|exact bH _ _|refine aZ (bI W4) ?_)) (λamy LJ=>?_);refine Rg.bL ?_;refine bE (M:=M1) ah G G G G G W4 (by repeat (first|exact bH _ _|refine aZ (bI W4) ?_)) (λazY afU=>?_);refine Rg.bL (dD ?_);obtain⟨bb,oo,cs,ee,fr,rfl,lx,_⟩:=XC.float;refine ⟨eQ ⟨ey,⟨fk bW G I3 q0,⟨dQ G lx (λh=>h),trivial⟩⟩⟩,?_⟩;have kp:=fq aA wD5;refine a8 G G VL (tR hM afU k3) (λv5 w5 hc=>?_)
   obtain⟨tg,s5⟩:=hc;replace k5:=k5.le q0 s5.le;replace hu:=hu.aE s5;replace vE:=vE.aE s5;replace hM:=s5.lt hM;have:=S.size;replace S:=S.aw s5;refine(fun(kp:eB _ _ _)=>ad ⟨G,G,λ_=>kp,?_⟩) a00;refine ie (places:=[(0,1),(1,1)]) bW ng ZE rfl ⟨_,_,rfl,rfl,_,_,rfl,rfl,rfl⟩ (out:=[_,_]) ⟨0,[_],rfl,rfl,by simp[Value.cells],1,[_],rfl,jo tg,by simp[Value.cells],rfl⟩ ?_;have pZ:RT.po.V M1 _ p _:=fE (gw afT) tg rfl rfl rfl rfl;refine(fun(kp:eB _ _ _)=>ad ⟨G,G,λ_=>kp,?_⟩) a00;refine dP (A:=RT.po) (hn:=by decide) (M:=M1) bu ng q0 G G hM (pZ) (.inl G) (λazZ az0 RD N4=>?_);replace k5:=k5.le q0 N4.le;replace tg:=tg.le N4.le;replace hu:=hu.aE N4;replace vE:=vE.aE N4;replace hM:=N4.lt hM;have:=S.size;replace S:=S.aw N4;refine(fun(kp:eB _ _ _)=>ad ⟨G,G,λ_=>kp,?_⟩) a00;refine cN (M:=M1) (base:=w0.heap.size) bu ng rfl rfl rfl rfl hu RD bY a03 a03 (S.size) (λafV an2 an3 afW xI=>?_);replace k5:=k5.le q0 xI.le;replace tg:=tg.le xI.le;replace RD:=RD.le xI.le;replace vE:=vE.step xI (λc hc h=>by have:=DR c hc;have:=(hu.base c h).1;omega);replace hM:=xI.lt hM;have:=S.size;replace S:=S.cC xI hu (aN _);replace hu:=afW;refine ad ⟨G,G,λh=>absurd G h,aB G G (ad ⟨G,G,λh=>absurd G h,iu (aH (bG G G G k3 (ab G G (ad ?_))))⟩)⟩
   refine⟨G,(i+1,afV),Y7,?_,?_⟩
   ·exact⟨an2,hM,S,by rw[bB,zu,bU];exact hu,vE,by dsimp only;omega⟩
   ·dsimp only;omega
  ·refine cO (T.aQ (ab G G (Rg.bA G G (aT ?_))));rw[aL k3]at hu;exact aX G G ⟨hu.close ir S k3,S.back⟩
end Go.K

/- What the law 'MatchMatches' needs of walks and plain Lean, part 3: nothing is assumed beyond the texts that it imports. -/
import Derived.Deep.Draws
import Derived.DeepKeys4
import Derived.Ground.GgzProg
import Derived.Ground.SlgmProg
import Derived.Ground.SlsfProg
import Derived.KernelRfl
import Derived.Lib.Bytealg
import Derived.Shelf.SlGeneric
import Derived.Shelf.SlIter.Nil
import Derived.Shelf.SlIterI.Nil
import Derived.Shelf.SlSortCmp.NoneTotal
import Derived.Shelf.SortM.Plain
import Derived.Shelf.SortM.SortNone
import Derived.Sort.Grow
import Derived.Sort.KeysCollected
import Derived.Sort.Walk0
import Derived.Test.YtaobajlebdchhaaGreatDoorProg
import Derived.Test.YtaobajlebdchhaaGreatDoorZMatchMatches1
import Derived.Test.YtaobajlebdchhaaGreatDoorZMatchMatches2
set_option linter.unusedVariables false
set_option linter.unusedSimpArgs false
theorem ef:type_of% @Go.K.Rg.gw:=@Go.K.Rg.gw
namespace Go.K
open Go.Proofs
set_option maxRecDepth 10000
theorem Cq {M:aM} {d:Dc} {v0:Value} (w0:World) (hM:Lt M w0) (hv:RT.dc.V M w0 d v0) (hl:∀f∈d.2,f.1.length<=900000/\f.2.length<=900000):
  Spec Tryz.prog 29 #[v0] w0 (λv w=>v= .int .i64 (oA d)/\Step M w0 M w aC):=by
 have gv:=hM;refine bh (args:=[_]) (fn:=Tryz.f29) Tryz.func29 G (n:=66) Tryz.ntmps29 ?_;have S:Step M w0 M w0 aC:=aV;refine T.aQ ?_;refine ef (A:=RT.dc) G G hM hv G (λu0 w1 dG s0 _=>?_);replace hM:=s0.lt hM;have:=S.size;replace S:=S.aw s0;refine Rg.aZ G G (aL (T.aQ ?_));refine ao (M:=M) (A:=RT.dc) (B:=(RT.fd).sl) aW G G tO Tg (Hw) G G Tg Xf (by repeat (first|exact bQ _ _|refine bA (bR Xf) ?_)) (λzX kG=>?_);refine bB (M:=M) bG G G G G G Xf (by repeat (first|exact bQ _ _|refine bA (bR Xf) ?_)) (λyx lx=>?_);refine bC bG G lx G (eR G G G (ad ?_));refine bE G (λc1=>?_) (λc1=>?_)
 ·refine T.aQ (Rg.aZ G G (aJ ?_));exact aK rfl rfl ⟨by rw[oA,if_pos q0],S.back⟩
 ·refine aS (T.aQ (Rg.aZ G G (aL (T.aQ (Rg.aZ G G (aX ?_))))));refine dd (σ:=Nat×Nat) (λq=>[(1,u0),(3,.int .i64 (q.2:Int)),(4,.int .i64 (q.1:Int))]) (λq w=>Lt M w/\Step M w0 M w aC/\cO RT.dc M w u0 d/\oA d=BK (d.2.take q.1) (d.2.drop q.1) q.2/\q.1<=d.2.length/\q.2<=900001*q.1/\d.2.length<=8) (λq=>d.2.length-q.1) (0,0) a07 ?_ ?_
  ·exact⟨hM,S,dG,by rw[oA,if_neg q0];rfl,a8 _,bz _,by omega⟩
  ·rintro⟨i,n⟩ w ⟨hM,S,dG,H3,hi,hn,hd8⟩;dsimp only at H3 hi hn ⊢;refine aL (T.aQ (ab G G ?_));refine ao (M:=M) (A:=RT.dc) (B:=(RT.fd).sl) aW G G tO Tg (Hw) G G Tg Xf (by repeat (first|exact bQ _ _|refine bA (bR Xf) ?_)) (λadl Kd=>?_);refine bB (M:=M) bG G G G G G Xf (by repeat (first|exact bQ _ _|refine bA (bR Xf) ?_)) (λakN V8=>?_);refine bC bG G V8 G (cx G G G (ad ?_));refine bE G (λc5=>?_) (λc5=>?_)
   ·refine aS (aL (aX (T.aQ ?_)));refine ao (M:=M) (A:=RT.dc) (B:=(RT.fd).sl) aW G G tO Tg (Hw) G G Tg Xf (by repeat (first|exact bQ _ _|refine bA (bR Xf) ?_)) (λadm Ke=>?_);refine bB (M:=M) bG G G G G G Xf (by repeat (first|exact bQ _ _|refine bA (bR Xf) ?_)) (λakO V9=>?_);refine ab G G ?_;refine cC bG kf G G G V9 bS q0 (λadn x FC aqz=>?_);rw[ar]at FC;refine ao (M:=M) (A:=RT.fd) (B:=RT.str) cK G G I9 Tg (EF) G G Tg Xf (by repeat (first|exact bQ _ _|refine bA (bR Xf) ?_)) (λauS ado=>?_);refine bB aA G G G G G ado bS (λauT adp=>?_);obtain rfl:=dS adp;have jT:=Kc (n:=n) FC;have xF:=hl _ (av FC);refine aP G G E58 (px x.1 q0 _) (λr7 w7 hc=>?_);obtain⟨rfl,rfl⟩:=hc;refine Rg.aZ rfl rfl (aL (T.aQ (ab rfl rfl (fV rfl rfl (bg (v':= .bool (decide (eA x.1=false))) (by cases eA x.1<;>rfl) (ad ?_))))));refine bE G (λc8=>?_) (λc8=>?_)
    ·refine T.aQ (Rg.aZ G G (aJ ?_));exact aK rfl rfl ⟨by rw[H3,jT,if_pos Xf],S.back⟩
    ·refine aS (aL (T.aQ (Rg.aZ G G (aX ?_))));refine dd (σ:=Nat) (λj=>[(1,u0),(3,.int .i64 (n:Int)),(4,.int .i64 (i:Int)),(6,.int .i64 (j:Int))]) (λj w=>Lt M w/\Step M w0 M w aC/\cO RT.dc M w u0 d/\j<=i/\∀k y,k<j->d.2[k]? =some y->y.1≠x.1) (λj=>i-j) 0 a00 ?_ ?_
     ·exact⟨hM,S,dG,a8 _,λk c h=>absurd h (ec k)⟩
     ·rintro j w ⟨hM,S,dG,hj,jt⟩;refine aL (T.aQ (ab G G (ab G G (cx G G G (ad ?_)))));refine bE G (λux=>?_) (λux=>?_)
      ·refine aS (aL (aX (aL ?_)));apply vV mixed rfl rfl;intro Pc Yu;have jh:=Yu M;replace dG:=dG.le Tg jh.le;replace hM:=jh.lt hM;have:=S.size;replace S:=S.aw jh;refine ao (M:=M) (A:=RT.dc) (B:=(RT.fd).sl) aW G G tO Tg (Hw) G G Tg Xf (by repeat (first|exact bQ _ _|refine bA (bR Xf) ?_)) (λaqA akP=>?_);refine Rg.dh ?_;refine bB (M:=M) bG G G G G G Xf (by repeat (first|exact bQ _ _|refine bA (bR Xf) ?_)) (λaqB Yv=>?_);refine Rg.dh (ab G G (Rg.dh ?_));refine cC bG kf G G G Yv bS q0 (λWa y H6 gx=>?_);rw[ar]at H6;refine Rg.dh ?_;refine ao (M:=M) (A:=RT.fd) (B:=RT.str) cK G G I9 Tg (EF) G G Tg Xf (by repeat (first|exact bQ _ _|refine bA (bR Xf) ?_)) (λgz Yw=>?_);refine Rg.dh ?_;refine bB aA G G G G G Yw bS (λKf wR=>?_);obtain rfl:=dS wR;refine Rg.dh ?_;refine ao (M:=M) (A:=RT.dc) (B:=(RT.fd).sl) aW G G tO Tg (Hw) G G Tg Xf (by repeat (first|exact bQ _ _|refine bA (bR Xf) ?_)) (λWb Pd=>?_);refine Rg.dh ?_;refine bB (M:=M) bG G G G G G Xf (by repeat (first|exact bQ _ _|refine bA (bR Xf) ?_)) (λaqC Yx=>?_);refine Rg.dh (ab G G (Rg.dh ?_));refine cC bG kf G G G Yx bS q0 (λaqD z Pe akQ=>?_);rw[ar]at Pe;refine Rg.dh ?_;refine ao (M:=M) (A:=RT.fd) (B:=RT.str) cK G G I9 Tg (EF) G G Tg Xf (by repeat (first|exact bQ _ _|refine bA (bR Xf) ?_)) (λakR T8=>?_)
       refine Rg.dh ?_;refine bB aA G G G G G T8 bS (λakS T9=>?_);obtain rfl:=dS T9;refine Rg.dh (Rg.tT (p:=y.1) (q:=z.1) G G G ?_);obtain rfl:x=z:=aI (FC.symm.trans Pe);refine Rg.dh (fL ?_);refine bE G (λxS=>?_) (λxS=>?_)
       ·refine T.aQ (Rg.aZ G G (aJ ?_));have Pf:((d.2.take i).any λg=>decide (g.1=x.1))=true:=jG.2 ⟨y,av (i:=j) (by rw[dm,if_pos q0];exact H6),by simpa using Xf⟩;exact aK rfl rfl ⟨by rw[H3,jT,if_neg Xf,if_pos Pf],S.back⟩
       ·refine aS (aH (ab G G (bu G G G q0 (Rg.aZ G G ?_))));refine⟨G,j+1,a00,?_,?_⟩
        ·exact⟨hM,S,dG,by omega,λk y' h hc=>by
          rcases cH k j with h2|h2
          ·exact jt k y' h2 hc
          ·obtain rfl:k=j:=by omega
           rw[H6]at hc;cases hc;assumption⟩
        ·omega
      ·refine cN (T.aQ ?_);refine ao (M:=M) (A:=RT.dc) (B:=(RT.fd).sl) aW G G tO Tg (Hw) G G Tg Xf (by repeat (first|exact bQ _ _|refine bA (bR Xf) ?_)) (λadq Pg=>?_);refine bB (M:=M) bG G G G G G Xf (by repeat (first|exact bQ _ _|refine bA (bR Xf) ?_)) (λaqE Yy=>?_);refine ab G G ?_;refine cC bG kf G G G Yy bS q0 (λaqF z Ph akT=>?_);rw[ar]at Ph;refine ao (M:=M) (A:=RT.fd) (B:=RT.str) cK G G I9 Tg (Lz) G G Tg Xf (by repeat (first|exact bQ _ _|refine bA (bR Xf) ?_)) (λaqG Yz=>?_);refine bB aA G G G G G Yz bS (λaqH YA=>?_);obtain rfl:=dS YA;obtain rfl:x=z:=aI (FC.symm.trans Ph);refine aP G G E74 (HY _ hM xF.2) (λr15 H7 hc=>?_);obtain⟨⟨u15,rfl,akU⟩,py⟩:=hc;replace dG:=dG.le Tg py.le;replace hM:=py.lt hM;have:=S.size;replace S:=S.aw py;refine ab G G (cI G G G (cI G G G (aN G G (Rg.aZ G G (aL (T.aQ (ab G G (fm G G G (ad ?_)))))))));refine bE G (λHy=>?_) (λHy=>?_)
       ·refine T.aQ (ab G G (Rg.aZ G G (aJ ?_)))
        have Pf:((d.2.take i).any λg=>decide (g.1=x.1))=false:=fh.2 λh=>by
         obtain⟨y,hy,he⟩:=jG.1 h;obtain⟨k,hk⟩:=bK.1 hy;rw[dm]at hk
         split at hk
         ·exact jt k y q0 hk (by simpa using he)
         ·cases hk
        exact aK rfl rfl ⟨by rw[H3,jT,if_neg Xf,if_neg (by rw[Pf];simp),if_pos Hy];rfl,S.back⟩
       ·refine aS (aH (ab G G ?_));have htk:mL 0 (words x.2)=0:=Classical.not_not.1 Hy;obtain⟨a,cap,rfl⟩:=akU htk;have H5:=l4 x.2;refine ab G G (Rg.tg Tryz.underlying154 G G (bu G G G q0 (Rg.aZ G G (aH (ab G G (bu G G G q0 (Rg.aZ G G ?_)))))))
        have Pf:((d.2.take i).any λg=>decide (g.1=x.1))=false:=fh.2 λh=>by
         obtain⟨y,hy,he⟩:=jG.1 h;obtain⟨k,hk⟩:=bK.1 hy;rw[dm]at hk
         split at hk
         ·exact jt k y q0 hk (by simpa using he)
         ·cases hk
        refine⟨G,(i+1,n+(words x.2).length),a07,?_,?_⟩
        ·exact⟨hM,S,dG,by rw[H3,jT,if_neg Xf,if_neg (by rw[Pf];simp),if_neg Hy],by dsimp only;omega,by dsimp only;omega,hd8⟩
        ·dsimp only;omega
   ·refine cN (aL (T.aQ (ab G G (eR G G G (ad ?_)))));refine bE G (λV4=>?_) (λV4=>?_)
    ·refine T.aQ (Rg.aZ G G (aJ ?_));exact aK rfl rfl ⟨by rw[H3,uC q0,if_pos q0],S.back⟩
    ·refine aS (T.aQ (Rg.aZ G G (aJ ?_)));exact aK rfl rfl ⟨by rw[H3,uC q0,if_neg q0],S.back⟩
def FD:List (List UInt8):=[[116],[117],[118],[119]]
def fixF (i:Nat) (x:Fd):Fd:=(if eA x.1=true then x.1 else FD.getD i [],x.2.take 40)
def oD (id:Int):Nat->List Fd->List Fd->List Fd
 |_,out,[]=>out
 |i,out,x::fs=>if i<4 then(if oA (id,out++[fixF i x])=0 then oD id (i+1) (out++[fixF i x]) fs else oD id (i+1) out fs)else out
def pZ (d:Dc):Dc:=(d.1,oD d.1 0 [] d.2)
def tu (l:List Fd):Prop:=∀x∈l,x.1.length<=12/\x.2.length<=40
theorem FE {s:List UInt8} (h:eA s=true):s.length<=12:=by
 simp only[eA,cz,decide_eq_true_eq]at h;omega
theorem zZ {i:Nat} (x:Fd) (hi:i<4):(fixF i x).1.length<=12/\(fixF i x).2.length<=40:=by
 refine⟨?_,by simp only[fixF,a7];omega⟩;unfold fixF;dsimp only
 split
 ·exact FE Xf
 ·have h:i=0\/i=1\/i=2\/i=3:=by omega
  rcases h with rfl|rfl|rfl|rfl<;>decide
theorem tu.snoc {l:List Fd} {x:Fd} (h:tu l) (hx:x.1.length<=12/\x.2.length<=40):tu (l++[x]):=λy hy=>by
 rcases dI.1 hy with hy|hy
 ·exact h y hy
 ·rw[dn.1 hy];exact hx
theorem Pj {id:Int} {fs:List Fd} {i:Nat} {out:List Fd} {x:Fd} (h:fs[i]? =some x) (hi:i<4):oD id i out (fs.drop i)=if oA (id,out++[fixF i x])=0 then oD id (i+1) (out++[fixF i x]) (fs.drop (i+1))else oD id (i+1) out (fs.drop (i+1)):=by
 have eZ:=(an.1 h).1;rw[fp eZ,(an.1 h).2];show(if i<4 then _ else _)=_;rw[if_pos hi]
theorem Cr {id:Int} {fs:List Fd} {i:Nat} {out:List Fd} (h:fs.length<=i\/4<=i):oD id i out (fs.drop i)=out:=by
 cases hd:fs.drop i with
 |nil=>rfl
 |cons x r=>
  show(if i<4 then _ else _)=_;rw[if_neg];rcases h with h|h
  ·rw[jw h]at hd;cases hd
  ·omega
theorem FF (l:List UInt8):l.take (min (l.length:Int) 40).toNat=l.take 40:=by
 by_cases h:l.length<=40
 ·rw[bp q0,bp h]
 ·congr 1;omega
theorem LR {M:aM} {d:Dc} {v0:Value} (w0:World) (hM:Lt M w0) (hv:RT.dc.V M w0 d v0):
  Spec Tryz.prog 47 #[v0] w0 (λv w=>RT.dc.V M w (pZ d) v/\Step M w0 M w aC):=by
 have gv:=hM
 have hdi: -9223372036854775808<=d.1/\d.1<=9223372036854775807:=by
  obtain⟨vs,⟨va,vb,_,⟨_,h1,h2⟩,_⟩,_⟩:=hv;exact⟨h1,h2⟩
 refine bh (args:=[_]) (fn:=Tryz.f47) Tryz.func47 G (n:=67) Tryz.ntmps47 ?_;have S:Step M w0 M w0 aC:=aV;refine T.aQ ?_;refine ef (A:=RT.dc) G G hM hv G (λu0 w1 dG s0 _=>?_);replace hM:=s0.lt hM;have:=S.size;replace S:=S.aw s0;refine ew M lD G (λgu tv H8 H9 cG iG=>?_);obtain⟨fu,gI⟩:∃M',M'=ins M gu:=⟨_,rfl⟩;rw[<-gI]at iG;have b9:fu gu:=by rw[gI];exact .inl G
 change tv.heap[gu]? =some (.cells #[.int .i64 0,.slice none 0 0] _ _)at cG;replace dG:=dG.le Tg iG.le;replace hM:=iG.lt hM;have:=S.size;replace S:=S.aw iG;refine ad (T.aQ ?_);refine ao (M:=fu) (A:=RT.dc) (B:=RT.int .i64) aW G G I3 Tg (dc0) G G Tg Xf (by repeat (first|exact bQ _ _|refine bA (bR Xf) ?_)) (λzX kG=>?_);refine bV (M:=fu) al G G Xf (by repeat (first|exact bQ _ _|refine bA (bR Xf) ?_)) (λWc=>?_);refine dw (places:=[(0,1),(1,1)]) aW lD B72 rfl ⟨_,_,rfl,rfl,rfl⟩ (out:=[_,.slice none 0 0]) ⟨0,[_],rfl,rfl,by simp[Value.cells],rfl⟩ ?_;refine ew fu lD G (λyy LJ akV akW ju s1_3=>?_);obtain⟨nw,Aa⟩:∃M',M'=ins fu yy:=⟨_,rfl⟩;rw[<-Aa]at s1_3;have j2:nw yy:=by rw[Aa];exact .inl G
 change LJ.heap[yy]? =some (.cells #[.int .i64 0,.slice none 0 0] _ _)at ju;have:=ae cG;replace b9:=(s1_3.mem _ this).2 b9;replace cG:=s1_3.aF cG;replace dG:=dG.le Tg s1_3.le;replace hM:=s1_3.lt hM;have:=S.size;replace S:=S.aw s1_3;refine cY (M:=nw) (vs:=[.int .i64 d.1,.slice none 0 0]) lD G G a18 rfl rfl ju j2 (λw1b akX YB=>?_);have:=ae cG;replace b9:=(YB.mem _ this).2 b9;replace cG:=YB.bU cG a04;have:=ae ju;replace j2:=(YB.mem _ this).2 j2;replace dG:=dG.le Tg YB.le;replace hM:=YB.lt hM;have:=S.size;replace S:=S.trans YB (λk hk h=>by have h:_=_:=h;subst h;first|(exfalso;omega)|(show _<=_;omega)|exact⟨by first|omega|assumption,(S.mem _ hk).1 ((YB.mem _ (ae ju)).1 j2)⟩|exact .inl rfl|exact .inr rfl|exact .inr (.inl rfl)|exact .inr (.inr rfl)|exact .inr (.inr (.inl rfl))|exact rfl);have FG:=akX;clear ju;have ju:=FG;clear FG;refine ad (T.aQ ?_);refine Rg.NW (A:=RT.str) (hn:=by decide) (M:=nw) (xs:=FD) ax I9 G Tg rfl ⟨_,_,_,rfl,rfl,rfl,mc.2 ⟨rfl,by decide⟩,_,_,_,rfl,rfl,rfl,mc.2 ⟨rfl,by decide⟩,_,_,_,rfl,rfl,rfl,mc.2 ⟨rfl,by decide⟩,_,_,_,rfl,rfl,rfl,mc.2 ⟨rfl,by decide⟩,rfl⟩ rfl hM (.inr ⟨rfl,rfl⟩) Tg (λu2 w2 eh s2=>?_);have:=ae cG;replace b9:=(s2.mem _ this).2 b9;replace cG:=s2.aF cG;have:=ae ju;replace j2:=(s2.mem _ this).2 j2;replace ju:=s2.aF ju;replace dG:=dG.le Tg s2.le;replace hM:=s2.lt hM;have:=S.size;replace S:=S.aw s2;refine Rg.aZ G G (aL (T.aQ (Rg.aZ G G (aX ?_))));refine dd (σ:=Nat×List Fd) (λq=>[(1,u0),(2,.pointer (some ⟨gu,0,none⟩)),(3,.pointer (some ⟨yy,0,none⟩)),(4,u2),(5,.int .i64 (q.1:Int))]) (λq w=>∃M' uo,Lt M' w/\Step M w0 M' w aC/\cO RT.dc M' w u0 d/\(RT.str.sl).V M' w FD u2/\w.heap[gu]? =some (.cells #[.int .i64 0,.slice none 0 0] 72 (0,0))/\M' gu/\w.heap[yy]? =some (.cells #[.int .i64 d.1,uo] 72 (0,0))/\M' yy/\(RT.fd.sl).V M' w q.2 uo/\oD d.1 0 [] d.2=oD d.1 q.1 q.2 (d.2.drop q.1)/\q.1<=d.2.length/\q.1<=4/\tu q.2/\q.2.length<=q.1) (λq=>d.2.length-q.1) (0,[]) a56 ?_ ?_
 ·exact⟨_,.slice none 0 0,hM,S,dG,eh,cG,b9,ju,j2,gZ,G,a8 _,a8 _,(λx hx=>by cases hx),bz _⟩
 ·rintro⟨i,out⟩ w ⟨M1,uo,hM,S,dG,eh,g2,dV,g3,fF,iP,xR,hi,akY,Df,sk⟩;dsimp only at g3 iP xR hi akY Df sk ⊢;refine aL (T.aQ (ab G G ?_));refine ao (M:=M1) (A:=RT.dc) (B:=(RT.fd).sl) aW G G tO Tg (Hw) G G Tg Xf (by repeat (first|exact bQ _ _|refine bA (bR Xf) ?_)) (λadb Wd=>?_);refine bB (M:=M1) bG G G G G G Xf (by repeat (first|exact bQ _ _|refine bA (bR Xf) ?_)) (λauV ads=>?_);refine bC bG G ads G (cx G G G (ab G G ?_));refine aO (g:=18) G (λYC=>?_) (λYC=>?_)
  ·refine ah G G (ab G G (ah G G (cx G G G (aU G G G (ad ?_)))));refine bE G (λc4=>?_) (λc4=>?_)
   ·refine aS (aL (aX (T.aQ ?_)));refine ao (M:=M1) (A:=RT.dc) (B:=(RT.fd).sl) aW G G tO Tg (Hw) G G Tg Xf (by repeat (first|exact bQ _ _|refine bA (bR Xf) ?_)) (λYD FH=>?_);refine bB (M:=M1) bG G G G G G Xf (by repeat (first|exact bQ _ _|refine bA (bR Xf) ?_)) (λYE Ab=>?_);refine ab G G ?_;refine cC bG kf G G G Ab bS q0 (λu6 x Nw uz=>?_);rw[ar]at Nw;have hi4:i<4:=by omega
    have hga:=Pj (id:=d.1) (out:=out) Nw hi4;have We:=zZ x hi4;refine bN (A:=RT.fd) cK G kf Tg G G G uz bS (λv6 oC=>?_);obtain rfl:=kQ oC;have Pk:=O5 oC;refine ew M1 kf G (λYF adt auW auX ep tw=>?_);obtain⟨oE,Pl⟩:∃M',M'=ins M1 YF:=⟨_,rfl⟩;rw[<-Pl]at tw;have dL:oE YF:=by rw[Pl];exact .inl G
    change adt.heap[YF]? =some (.cells #[.string ⟨#[]⟩,.string ⟨#[]⟩] _ _)at ep;have:=ae g2;replace dV:=(tw.mem _ this).2 dV;replace g2:=tw.aF g2;have:=ae g3;replace fF:=(tw.mem _ this).2 fF;replace g3:=tw.aF g3;replace dG:=dG.le Tg tw.le;replace eh:=eh.le tw.le;replace iP:=iP.le tw.le;replace hM:=tw.lt hM;have:=S.size;replace S:=S.aw tw;refine cY (M:=oE) (vs:=[.string ⟨x.1.toArray⟩,.string ⟨x.2.toArray⟩]) kf G G a18 rfl rfl ep dL (λw6b akZ Pm=>?_);have:=ae g2;replace dV:=(Pm.mem _ this).2 dV;replace g2:=Pm.bU g2 a04;have:=ae g3;replace fF:=(Pm.mem _ this).2 fF;replace g3:=Pm.bU g3 a04;have:=ae ep;replace dL:=(Pm.mem _ this).2 dL;replace dG:=dG.le Tg Pm.le;replace eh:=eh.le Pm.le;replace iP:=iP.le Pm.le;replace hM:=Pm.lt hM;have:=S.size;replace S:=S.trans Pm (λk hk h=>by have h:_=_:=h;subst h;first|(exfalso;omega)|(show _<=_;omega)|exact⟨by first|omega|assumption,(S.mem _ hk).1 ((Pm.mem _ (ae ep)).1 dL)⟩|exact .inl rfl|exact .inr rfl|exact .inr (.inl rfl)|exact .inr (.inr rfl)|exact .inr (.inr (.inl rfl))|exact rfl);have qT:=akZ;clear ep;have ep:=qT;clear qT;refine ad (T.aQ (aY (o':=0) cK G G I9 Tg G G (aR aA G G G Xf G ?_)));refine aP G G E58 (px x.1 Pk.1 _) (λr7 w7 hc=>?_);obtain⟨rfl,rfl⟩:=hc;refine Rg.aZ rfl rfl (aL (T.aQ (ab rfl rfl (fV rfl rfl (bg (v':= .bool (decide (eA x.1=false))) (by cases eA x.1<;>rfl) (ad ?_))))));refine bE G (λc8=>?_) (λc8=>?_)
    ·refine aH (ab G G (ab G G ?_));refine cC ax I9 rfl rfl rfl eh bS (by have:FD.length=4:=rfl;omega) (λu9 y SR hu9=>?_);rw[ar]at SR;refine bB aA G G G G G hu9 bS (λv9 LS=>?_);obtain rfl:=dS LS
     obtain rfl:y=(fixF i x).1:=by
      show y=if eA x.1=true then x.1 else FD.getD i []
      rw[if_neg (by rw[c8];simp),cg,SR];rfl
     refine aY (o':=0) cK G G I9 Tg G G ?_;refine cv (M:=oE) I9 G G ep G (G) dL (λade adu qS=>?_);change ade.heap[_]? =some (Obj.cells #[.string ⟨((fixF i x).1).toArray⟩,.string ⟨x.2.toArray⟩] _ _)at adu;have:=ae g2;replace dV:=(qS.mem _ this).2 dV;replace g2:=qS.bU g2 a04;have:=ae g3;replace fF:=(qS.mem _ this).2 fF;replace g3:=qS.bU g3 a04;have:=ae ep;replace dL:=(qS.mem _ this).2 dL;replace dG:=dG.le Tg qS.le;replace eh:=eh.le qS.le;replace iP:=iP.le qS.le;replace hM:=qS.lt hM;have:=S.size;replace S:=S.trans qS (λk hk h=>by have h:_=_:=h;subst h;first|(exfalso;omega)|(show _<=_;omega)|exact⟨by first|omega|assumption,(S.mem _ hk).1 ((qS.mem _ (ae ep)).1 dL)⟩|exact .inl rfl|exact .inr rfl|exact .inr (.inl rfl)|exact .inr (.inr rfl)|exact .inr (.inr (.inl rfl))|exact rfl);have qT:=adu;clear ep;have ep:=qT;clear qT;refine ad (T.aQ (aY (o':=1) cK G G I9 Tg G G (aR aA G G G Xf G (aY (o':=1) cK G G I9 Tg G G (aR aA G G G Xf G (sI aA G G (bg (v':= .int .i64 (x.2.length:Int)) a84 (Rg.min2 G G G (Rg.VZ aA G G G q0 (bg (v':= .string ⟨((fixF i x).2).toArray⟩) (by rw[FF];rfl) ?_))))))))));refine aY (o':=1) cK G G I9 Tg G G ?_;refine cv (M:=oE) I9 G G ep G (G) dL (λKb FI gO=>?_);change Kb.heap[_]? =some (Obj.cells #[.string ⟨((fixF i x).1).toArray⟩,.string ⟨((fixF i x).2).toArray⟩] _ _)at FI;have:=ae g2;replace dV:=(gO.mem _ this).2 dV;replace g2:=gO.bU g2 a04
     have:=ae g3;replace fF:=(gO.mem _ this).2 fF;replace g3:=gO.bU g3 a04;have:=ae ep;replace dL:=(gO.mem _ this).2 dL;replace dG:=dG.le Tg gO.le;replace eh:=eh.le gO.le;replace iP:=iP.le gO.le;replace hM:=gO.lt hM;have:=S.size;replace S:=S.trans gO (λk hk h=>by have h:_=_:=h;subst h;first|(exfalso;omega)|(show _<=_;omega)|exact⟨by first|omega|assumption,(S.mem _ hk).1 ((gO.mem _ (ae ep)).1 dL)⟩|exact .inl rfl|exact .inr rfl|exact .inr (.inl rfl)|exact .inr (.inr rfl)|exact .inr (.inr (.inl rfl))|exact rfl);have qT:=FI;clear ep;have ep:=qT;clear qT;refine ad (T.aQ ?_);refine ao (M:=oE) (A:=RT.dc) (B:=RT.int .i64) aW G G I3 Tg (dc0) G G Tg Xf (by repeat (first|exact bQ _ _|refine bA (bR Xf) ?_)) (λPn DM=>?_);refine bV (M:=oE) al G G Xf (by repeat (first|exact bQ _ _|refine bA (bR Xf) ?_)) (λYG=>?_);refine dw (places:=[(0,1),(1,1)]) aW lD B72 rfl ⟨_,_,rfl,rfl,rfl⟩ (out:=[_,.slice none 0 0]) ⟨0,[_],rfl,rfl,by simp[Value.cells],rfl⟩ ?_;refine ew oE lD G (λAc FJ adv adw dD fZ=>?_);obtain⟨tx,uD⟩:∃M',M'=ins oE Ac:=⟨_,rfl⟩;rw[<-uD]at fZ;have dB:tx Ac:=by rw[uD];exact .inl G
     change FJ.heap[Ac]? =some (.cells #[.int .i64 0,.slice none 0 0] _ _)at dD;have:=ae g2;replace dV:=(fZ.mem _ this).2 dV;replace g2:=fZ.aF g2;have:=ae g3;replace fF:=(fZ.mem _ this).2 fF;replace g3:=fZ.aF g3;have:=ae ep;replace dL:=(fZ.mem _ this).2 dL;replace ep:=fZ.aF ep;replace dG:=dG.le Tg fZ.le;replace eh:=eh.le fZ.le;replace iP:=iP.le fZ.le;replace hM:=fZ.lt hM;have:=S.size;replace S:=S.aw fZ;refine cY (M:=tx) (vs:=[.int .i64 d.1,.slice none 0 0]) lD G G a18 rfl rfl dD dB (λDN Pp kR=>?_);have:=ae g2;replace dV:=(kR.mem _ this).2 dV;replace g2:=kR.bU g2 a04;have:=ae g3;replace fF:=(kR.mem _ this).2 fF;replace g3:=kR.bU g3 a04;have:=ae ep;replace dL:=(kR.mem _ this).2 dL;replace ep:=kR.bU ep a04;have:=ae dD;replace dB:=(kR.mem _ this).2 dB;replace dG:=dG.le Tg kR.le;replace eh:=eh.le kR.le;replace iP:=iP.le kR.le;replace hM:=kR.lt hM;have:=S.size;replace S:=S.trans kR (λk hk h=>by have h:_=_:=h;subst h;first|(exfalso;omega)|(show _<=_;omega)|exact⟨by first|omega|assumption,(S.mem _ hk).1 ((kR.mem _ (ae dD)).1 dB)⟩|exact .inl rfl|exact .inr rfl|exact .inr (.inl rfl)|exact .inr (.inr rfl)|exact .inr (.inr (.inl rfl))|exact rfl);have jA:=Pp;clear dD;have dD:=jA;clear jA;refine ad (T.aQ (aY (o':=1) aW G G tO Tg G G (aR bG G G G Xf G (aY (o':=1) aW G G tO Tg G G (aR bG G G G Xf G ?_)))));have dT:=Own.V1 RT.fd 153 DN.heap.size hM
     have ak1:=ae ep;have Pq:w0.heap.size<=DN.heap.size:=S.size;refine dJ (M:=tx) (base:=DN.heap.size) bG kf rfl rfl rfl rfl dT iP bS a11 a11 (bz _) (λzU qR O2 tq fE=>?_);have:=ae g2;replace dV:=(fE.mem _ this).2 dV;replace g2:=fE.bU g2 (λh=>by first|exact dT.eS g2 h|exact dT.fK g2 Tg h|(have:=(dT.base _ h).1;omega));have:=ae g3;replace fF:=(fE.mem _ this).2 fF;replace g3:=fE.bU g3 (λh=>by first|exact dT.eS g3 h|exact dT.fK g3 Tg h|(have:=(dT.base _ h).1;omega));have:=ae ep;replace dL:=(fE.mem _ this).2 dL;replace ep:=fE.bU ep (λh=>by first|exact dT.eS ep h|exact dT.fK ep Tg h|(have:=(dT.base _ h).1;omega));have:=ae dD;replace dB:=(fE.mem _ this).2 dB;replace dD:=fE.bU dD (λh=>by first|exact dT.eS dD h|exact dT.fK dD Tg h|(have:=(dT.base _ h).1;omega));replace dG:=dG.le Tg fE.le;replace eh:=eh.le fE.le;replace iP:=iP.le fE.le;replace hM:=fE.lt hM;have:=S.size;replace S:=S.dX fE dT Pq;replace dT:=tq;refine aY (o':=1) aW G G tO Tg G G ?_;refine cv (M:=qR) tO rfl rfl dD rfl (ae7) dB (λPr FK gJ=>?_);change Pr.heap[_]? =some (Obj.cells #[.int .i64 d.1,zU] _ _)at FK;have:=ae g2;replace dV:=(gJ.mem _ this).2 dV;replace g2:=gJ.bU g2 a04;have:=ae g3;replace fF:=(gJ.mem _ this).2 fF;replace g3:=gJ.bU g3 a04;have:=ae ep;replace dL:=(gJ.mem _ this).2 dL;replace ep:=gJ.bU ep a04;have:=ae dD;replace dB:=(gJ.mem _ this).2 dB;replace dG:=dG.le Tg gJ.le
     replace eh:=eh.le gJ.le;replace iP:=iP.le gJ.le;replace dT:=dT.step gJ (λb hb hk=>by have hk:_=_:=hk;have:=(dT.base b hb);omega);replace hM:=gJ.lt hM;have:=S.size;replace S:=S.trans gJ (λk hk h=>by have h:_=_:=h;subst h;first|(exfalso;omega)|(show _<=_;omega)|exact⟨by first|omega|assumption,(S.mem _ hk).1 ((gJ.mem _ (ae dD)).1 dB)⟩|exact .inl rfl|exact .inr rfl|exact .inr (.inl rfl)|exact .inr (.inr rfl)|exact .inr (.inr (.inl rfl))|exact rfl);have jA:=FK;clear dD;have dD:=jA;clear jA;refine ad (T.aQ (aY (o':=1) aW G G tO Tg G G (aR bG G G G Xf G (eC (vs:=[.string ⟨((fixF i x).1).toArray⟩,.string ⟨((fixF i x).2).toArray⟩]) cK G kf G G G ep ?_))));refine fz (A:=RT.fd) (hn:=by decide) (M:=qR) bG kf Tg G G hM (show RT.fd.V _ _ (fixF i x) _ from fJ (mc.2 ⟨G,dz We.1 Tg⟩) (mc.2 ⟨G,dz We.2 Tg⟩) G G G G) (.inl G) (λWa adx gx gK=>?_);have:=ae g2;replace dV:=(gK.mem _ this).2 dV;replace g2:=gK.aF g2;have:=ae g3;replace fF:=(gK.mem _ this).2 fF;replace g3:=gK.aF g3;have:=ae ep;replace dL:=(gK.mem _ this).2 dL;replace ep:=gK.aF ep;have:=ae dD;replace dB:=(gK.mem _ this).2 dB;replace dD:=gK.aF dD;replace dG:=dG.le Tg gK.le;replace eh:=eh.le gK.le;replace iP:=iP.le gK.le;replace dT:=dT.bP gK;replace hM:=gK.lt hM;have:=S.size;replace S:=S.aw gK;refine dJ (M:=qR) (base:=DN.heap.size) bG kf rfl rfl rfl rfl dT gx bS a11 a11 (by have:=fE.size;have:=gJ.size;have:=gK.size;omega) (λgz mN ady Ia ig=>?_);have:=ae g2;replace dV:=(ig.mem _ this).2 dV
     replace g2:=ig.bU g2 (λh=>by first|exact dT.eS g2 h|exact dT.fK g2 Tg h|(have:=(dT.base _ h).1;omega));have:=ae g3;replace fF:=(ig.mem _ this).2 fF;replace g3:=ig.bU g3 (λh=>by first|exact dT.eS g3 h|exact dT.fK g3 Tg h|(have:=(dT.base _ h).1;omega));have:=ae ep;replace dL:=(ig.mem _ this).2 dL;replace ep:=ig.bU ep (λh=>by first|exact dT.eS ep h|exact dT.fK ep Tg h|(have:=(dT.base _ h).1;omega));have:=ae dD;replace dB:=(ig.mem _ this).2 dB;replace dD:=ig.bU dD (λh=>by first|exact dT.eS dD h|exact dT.fK dD Tg h|(have:=(dT.base _ h).1;omega));replace dG:=dG.le Tg ig.le;replace eh:=eh.le ig.le;replace iP:=iP.le ig.le;replace gx:=gx.le ig.le;replace hM:=ig.lt hM;have:=S.size;replace S:=S.dX ig dT Pq;replace dT:=Ia;refine aY (o':=1) aW G G tO Tg G G ?_;refine cv (M:=mN) tO rfl rfl dD rfl (ae7) dB (λPs FL gL=>?_);change Ps.heap[_]? =some (Obj.cells #[.int .i64 d.1,gz] _ _)at FL;have:=ae g2;replace dV:=(gL.mem _ this).2 dV;replace g2:=gL.bU g2 a04;have:=ae g3;replace fF:=(gL.mem _ this).2 fF;replace g3:=gL.bU g3 a04;have:=ae ep;replace dL:=(gL.mem _ this).2 dL;replace ep:=gL.bU ep a04;have:=ae dD;replace dB:=(gL.mem _ this).2 dB;replace dG:=dG.le Tg gL.le;replace eh:=eh.le gL.le;replace iP:=iP.le gL.le;replace gx:=gx.le gL.le;replace dT:=dT.step gL (λb hb hk=>by have hk:_=_:=hk;have:=(dT.base b hb);omega);replace hM:=gL.lt hM;have:=S.size;replace S:=S.trans gL (λk hk h=>by have h:_=_:=h;subst h;first|(exfalso;omega)|(show _<=_;omega)|exact⟨by first|omega|assumption,(S.mem _ hk).1 ((gL.mem _ (ae dD)).1 dB)⟩|exact .inl rfl|exact .inr rfl|exact .inr (.inl rfl)|exact .inr (.inr rfl)|exact .inr (.inr (.inl rfl))|exact rfl)
     have jA:=FL;clear dD;have dD:=jA;clear jA;refine ad (T.aQ (eC (vs:=[.int .i64 d.1,gz]) aW G lD G G G dD ?_));have yM:=dT.view (hn:=by decide) a11;replace dV:rm mN gz _:=⟨dV,by first|exact dT.fK g2 Tg|(intro h;have:=(dT.base _ h).1;omega)⟩;replace fF:rm mN gz _:=⟨fF,by first|exact dT.fK g3 Tg|(intro h;have:=(dT.base _ h).1;omega)⟩;replace dL:rm mN gz _:=⟨dL,by first|exact dT.fK ep Tg|(intro h;have:=(dT.base _ h).1;omega)⟩;replace dB:rm mN gz _:=⟨dB,by first|exact dT.fK dD Tg|(intro h;have:=(dT.base _ h).1;omega)⟩;replace dG:=dG.le Tg (tW _ gz _);replace eh:=eh.le (tW _ gz _);replace iP:=iP.le (tW _ gz _);replace gx:=gx.le (tW _ gz _);replace hM:Lt (rm mN gz) _:=λb hb=>hM b hb.1
     replace S:=S.freeze (v:=gz) (λb hb=>by have:=(dT.base b hb).1;omega);clear dT;refine aP G G E29 (Cq (d:=(d.1,[]++out++[fixF i x])) _ hM (fJ (hU hdi) yM G G G G) (λy hy=>by have:=(Df.snoc We) y (by simpa using hy);omega)) (λr14 Ny hc=>?_);obtain⟨rfl,jD⟩:=hc;rw[jd]at yM;have:=ae g2;replace dV:=(jD.mem _ this).2 dV;replace g2:=jD.aF g2;have:=ae g3;replace fF:=(jD.mem _ this).2 fF;replace g3:=jD.aF g3;have:=ae ep;replace dL:=(jD.mem _ this).2 dL;replace ep:=jD.aF ep;have:=ae dD;replace dB:=(jD.mem _ this).2 dB;replace dD:=jD.aF dD;replace dG:=dG.le Tg jD.le;replace eh:=eh.le jD.le;replace iP:=iP.le jD.le;replace gx:=gx.le jD.le;replace yM:=yM.le jD.le;replace hM:=jD.lt hM;have:=S.size;replace S:=S.aw jD;refine fe G G G (bg (v':= .bool (decide (oA (d.1,out++[fixF i x])=0))) (by rw[jd]) (ad ?_));refine bE G (λLU=>?_) (λLU=>?_)
     ·refine aH (eC (vs:=[.int .i64 d.1,gz]) aW G lD G G G dD ?_);refine cY (M:=rm mN gz) (vs:=[.int .i64 d.1,gz]) lD G G a18 rfl rfl g3 fF (λak3 Pt j3=>?_);have:=ae g2;replace dV:=(j3.mem _ this).2 dV;replace g2:=j3.bU g2 a04;have:=ae g3;replace fF:=(j3.mem _ this).2 fF;have:=ae ep;replace dL:=(j3.mem _ this).2 dL;replace ep:=j3.bU ep a04;have:=ae dD;replace dB:=(j3.mem _ this).2 dB;replace dD:=j3.bU dD a04;replace dG:=dG.le Tg j3.le;replace eh:=eh.le j3.le;replace iP:=iP.le j3.le;replace gx:=gx.le j3.le;replace yM:=yM.le j3.le;replace hM:=j3.lt hM;have:=S.size;replace S:=S.trans j3 (λk hk h=>by have h:_=_:=h;subst h;first|(exfalso;omega)|(show _<=_;omega)|exact⟨by first|omega|assumption,(S.mem _ hk).1 ((j3.mem _ (ae g3)).1 fF)⟩|exact .inl rfl|exact .inr rfl|exact .inr (.inl rfl)|exact .inr (.inr rfl)|exact .inr (.inr (.inl rfl))|exact rfl);have g3_:=Pt;clear g3;have g3:=g3_;clear g3_;refine ad (aH (ab G G (bu G G G q0 (Rg.aZ G G ?_))));refine⟨G,(i+1,out++[fixF i x]),a56,?_,?_⟩
      ·exact⟨_,_,hM,S,dG,eh,g2,dV,g3,fF,yM,by rw[xR,hga,if_pos LU],by dsimp only;omega,by dsimp only;omega,Df.snoc We,by simp;omega⟩
      ·dsimp only;omega
     ·refine aS (aH (ab G G (bu G G G q0 (Rg.aZ G G ?_))));refine⟨G,(i+1,out),a56,?_,?_⟩
      ·exact⟨_,_,hM,S,dG,eh,g2,dV,g3,fF,iP,by rw[xR,hga,if_neg LU],by dsimp only;omega,by dsimp only;omega,Df,by dsimp only;omega⟩
      ·dsimp only;omega
    ·rw[show x.1=(fixF i x).1 from by show x.1=if eA x.1=true then x.1 else _;rw[if_pos (by cases hq:eA x.1 with|true=>rfl|false=>exact absurd hq c8)]]at ep;refine aS (T.aQ (aY (o':=1) cK G G I9 Tg G G (aR aA G G G Xf G (aY (o':=1) cK G G I9 Tg G G (aR aA G G G Xf G (sI aA G G (bg (v':= .int .i64 (x.2.length:Int)) a84 (Rg.min2 G G G (Rg.VZ aA G G G q0 (bg (v':= .string ⟨((fixF i x).2).toArray⟩) (by rw[FF];rfl) ?_))))))))));refine aY (o':=1) cK G G I9 Tg G G ?_;refine cv (M:=oE) I9 G G ep G (G) dL (λKb FI gO=>?_);change Kb.heap[_]? =some (Obj.cells #[.string ⟨((fixF i x).1).toArray⟩,.string ⟨((fixF i x).2).toArray⟩] _ _)at FI;have:=ae g2;replace dV:=(gO.mem _ this).2 dV;replace g2:=gO.bU g2 a04;have:=ae g3;replace fF:=(gO.mem _ this).2 fF;replace g3:=gO.bU g3 a04;have:=ae ep;replace dL:=(gO.mem _ this).2 dL;replace dG:=dG.le Tg gO.le;replace eh:=eh.le gO.le;replace iP:=iP.le gO.le;replace hM:=gO.lt hM;have:=S.size;replace S:=S.trans gO (λk hk h=>by have h:_=_:=h;subst h;first|(exfalso;omega)|(show _<=_;omega)|exact⟨by first|omega|assumption,(S.mem _ hk).1 ((gO.mem _ (ae ep)).1 dL)⟩|exact .inl rfl|exact .inr rfl|exact .inr (.inl rfl)|exact .inr (.inr rfl)|exact .inr (.inr (.inl rfl))|exact rfl);have qT:=FI;clear ep;have ep:=qT;clear qT;refine ad (T.aQ ?_);refine ao (M:=oE) (A:=RT.dc) (B:=RT.int .i64) aW G G I3 Tg (dc0) G G Tg Xf (by repeat (first|exact bQ _ _|refine bA (bR Xf) ?_)) (λPn DM=>?_)
     refine bV (M:=oE) al G G Xf (by repeat (first|exact bQ _ _|refine bA (bR Xf) ?_)) (λYG=>?_);refine dw (places:=[(0,1),(1,1)]) aW lD B72 rfl ⟨_,_,rfl,rfl,rfl⟩ (out:=[_,.slice none 0 0]) ⟨0,[_],rfl,rfl,by simp[Value.cells],rfl⟩ ?_;refine ew oE lD G (λAc FJ adv adw dD fZ=>?_);obtain⟨tx,uD⟩:∃M',M'=ins oE Ac:=⟨_,rfl⟩;rw[<-uD]at fZ;have dB:tx Ac:=by rw[uD];exact .inl G
     change FJ.heap[Ac]? =some (.cells #[.int .i64 0,.slice none 0 0] _ _)at dD;have:=ae g2;replace dV:=(fZ.mem _ this).2 dV;replace g2:=fZ.aF g2;have:=ae g3;replace fF:=(fZ.mem _ this).2 fF;replace g3:=fZ.aF g3;have:=ae ep;replace dL:=(fZ.mem _ this).2 dL;replace ep:=fZ.aF ep;replace dG:=dG.le Tg fZ.le;replace eh:=eh.le fZ.le;replace iP:=iP.le fZ.le;replace hM:=fZ.lt hM;have:=S.size;replace S:=S.aw fZ;refine cY (M:=tx) (vs:=[.int .i64 d.1,.slice none 0 0]) lD G G a18 rfl rfl dD dB (λDN Pp kR=>?_);have:=ae g2;replace dV:=(kR.mem _ this).2 dV;replace g2:=kR.bU g2 a04;have:=ae g3;replace fF:=(kR.mem _ this).2 fF;replace g3:=kR.bU g3 a04;have:=ae ep;replace dL:=(kR.mem _ this).2 dL;replace ep:=kR.bU ep a04;have:=ae dD;replace dB:=(kR.mem _ this).2 dB;replace dG:=dG.le Tg kR.le;replace eh:=eh.le kR.le;replace iP:=iP.le kR.le;replace hM:=kR.lt hM;have:=S.size;replace S:=S.trans kR (λk hk h=>by have h:_=_:=h;subst h;first|(exfalso;omega)|(show _<=_;omega)|exact⟨by first|omega|assumption,(S.mem _ hk).1 ((kR.mem _ (ae dD)).1 dB)⟩|exact .inl rfl|exact .inr rfl|exact .inr (.inl rfl)|exact .inr (.inr rfl)|exact .inr (.inr (.inl rfl))|exact rfl);have jA:=Pp;clear dD;have dD:=jA;clear jA;refine ad (T.aQ (aY (o':=1) aW G G tO Tg G G (aR bG G G G Xf G (aY (o':=1) aW G G tO Tg G G (aR bG G G G Xf G ?_)))));have dT:=Own.V1 RT.fd 153 DN.heap.size hM
     have ak1:=ae ep;have Pq:w0.heap.size<=DN.heap.size:=S.size;refine dJ (M:=tx) (base:=DN.heap.size) bG kf rfl rfl rfl rfl dT iP bS a11 a11 (bz _) (λzU qR O2 tq fE=>?_);have:=ae g2;replace dV:=(fE.mem _ this).2 dV;replace g2:=fE.bU g2 (λh=>by first|exact dT.eS g2 h|exact dT.fK g2 Tg h|(have:=(dT.base _ h).1;omega));have:=ae g3;replace fF:=(fE.mem _ this).2 fF;replace g3:=fE.bU g3 (λh=>by first|exact dT.eS g3 h|exact dT.fK g3 Tg h|(have:=(dT.base _ h).1;omega));have:=ae ep;replace dL:=(fE.mem _ this).2 dL;replace ep:=fE.bU ep (λh=>by first|exact dT.eS ep h|exact dT.fK ep Tg h|(have:=(dT.base _ h).1;omega));have:=ae dD;replace dB:=(fE.mem _ this).2 dB;replace dD:=fE.bU dD (λh=>by first|exact dT.eS dD h|exact dT.fK dD Tg h|(have:=(dT.base _ h).1;omega));replace dG:=dG.le Tg fE.le;replace eh:=eh.le fE.le;replace iP:=iP.le fE.le;replace hM:=fE.lt hM;have:=S.size;replace S:=S.dX fE dT Pq;replace dT:=tq;refine aY (o':=1) aW G G tO Tg G G ?_;refine cv (M:=qR) tO rfl rfl dD rfl (ae7) dB (λPr FK gJ=>?_);change Pr.heap[_]? =some (Obj.cells #[.int .i64 d.1,zU] _ _)at FK;have:=ae g2;replace dV:=(gJ.mem _ this).2 dV;replace g2:=gJ.bU g2 a04;have:=ae g3;replace fF:=(gJ.mem _ this).2 fF;replace g3:=gJ.bU g3 a04;have:=ae ep;replace dL:=(gJ.mem _ this).2 dL;replace ep:=gJ.bU ep a04;have:=ae dD;replace dB:=(gJ.mem _ this).2 dB;replace dG:=dG.le Tg gJ.le
     replace eh:=eh.le gJ.le;replace iP:=iP.le gJ.le;replace dT:=dT.step gJ (λb hb hk=>by have hk:_=_:=hk;have:=(dT.base b hb);omega);replace hM:=gJ.lt hM;have:=S.size;replace S:=S.trans gJ (λk hk h=>by have h:_=_:=h;subst h;first|(exfalso;omega)|(show _<=_;omega)|exact⟨by first|omega|assumption,(S.mem _ hk).1 ((gJ.mem _ (ae dD)).1 dB)⟩|exact .inl rfl|exact .inr rfl|exact .inr (.inl rfl)|exact .inr (.inr rfl)|exact .inr (.inr (.inl rfl))|exact rfl);have jA:=FK;clear dD;have dD:=jA;clear jA;refine ad (T.aQ (aY (o':=1) aW G G tO Tg G G (aR bG G G G Xf G (eC (vs:=[.string ⟨((fixF i x).1).toArray⟩,.string ⟨((fixF i x).2).toArray⟩]) cK G kf G G G ep ?_))));refine fz (A:=RT.fd) (hn:=by decide) (M:=qR) bG kf Tg G G hM (show RT.fd.V _ _ (fixF i x) _ from fJ (mc.2 ⟨G,dz We.1 Tg⟩) (mc.2 ⟨G,dz We.2 Tg⟩) G G G G) (.inl G) (λWa adx gx gK=>?_);have:=ae g2;replace dV:=(gK.mem _ this).2 dV;replace g2:=gK.aF g2;have:=ae g3;replace fF:=(gK.mem _ this).2 fF;replace g3:=gK.aF g3;have:=ae ep;replace dL:=(gK.mem _ this).2 dL;replace ep:=gK.aF ep;have:=ae dD;replace dB:=(gK.mem _ this).2 dB;replace dD:=gK.aF dD;replace dG:=dG.le Tg gK.le;replace eh:=eh.le gK.le;replace iP:=iP.le gK.le;replace dT:=dT.bP gK;replace hM:=gK.lt hM;have:=S.size;replace S:=S.aw gK;refine dJ (M:=qR) (base:=DN.heap.size) bG kf rfl rfl rfl rfl dT gx bS a11 a11 (by have:=fE.size;have:=gJ.size;have:=gK.size;omega) (λgz mN ady Ia ig=>?_);have:=ae g2;replace dV:=(ig.mem _ this).2 dV
     replace g2:=ig.bU g2 (λh=>by first|exact dT.eS g2 h|exact dT.fK g2 Tg h|(have:=(dT.base _ h).1;omega));have:=ae g3;replace fF:=(ig.mem _ this).2 fF;replace g3:=ig.bU g3 (λh=>by first|exact dT.eS g3 h|exact dT.fK g3 Tg h|(have:=(dT.base _ h).1;omega));have:=ae ep;replace dL:=(ig.mem _ this).2 dL;replace ep:=ig.bU ep (λh=>by first|exact dT.eS ep h|exact dT.fK ep Tg h|(have:=(dT.base _ h).1;omega));have:=ae dD;replace dB:=(ig.mem _ this).2 dB;replace dD:=ig.bU dD (λh=>by first|exact dT.eS dD h|exact dT.fK dD Tg h|(have:=(dT.base _ h).1;omega));replace dG:=dG.le Tg ig.le;replace eh:=eh.le ig.le;replace iP:=iP.le ig.le;replace gx:=gx.le ig.le;replace hM:=ig.lt hM;have:=S.size;replace S:=S.dX ig dT Pq;replace dT:=Ia;refine aY (o':=1) aW G G tO Tg G G ?_;refine cv (M:=mN) tO rfl rfl dD rfl (ae7) dB (λPs FL gL=>?_);change Ps.heap[_]? =some (Obj.cells #[.int .i64 d.1,gz] _ _)at FL;have:=ae g2;replace dV:=(gL.mem _ this).2 dV;replace g2:=gL.bU g2 a04;have:=ae g3;replace fF:=(gL.mem _ this).2 fF;replace g3:=gL.bU g3 a04;have:=ae ep;replace dL:=(gL.mem _ this).2 dL;replace ep:=gL.bU ep a04;have:=ae dD;replace dB:=(gL.mem _ this).2 dB;replace dG:=dG.le Tg gL.le;replace eh:=eh.le gL.le;replace iP:=iP.le gL.le;replace gx:=gx.le gL.le;replace dT:=dT.step gL (λb hb hk=>by have hk:_=_:=hk;have:=(dT.base b hb);omega);replace hM:=gL.lt hM;have:=S.size;replace S:=S.trans gL (λk hk h=>by have h:_=_:=h;subst h;first|(exfalso;omega)|(show _<=_;omega)|exact⟨by first|omega|assumption,(S.mem _ hk).1 ((gL.mem _ (ae dD)).1 dB)⟩|exact .inl rfl|exact .inr rfl|exact .inr (.inl rfl)|exact .inr (.inr rfl)|exact .inr (.inr (.inl rfl))|exact rfl)
     have jA:=FL;clear dD;have dD:=jA;clear jA;refine ad (T.aQ (eC (vs:=[.int .i64 d.1,gz]) aW G lD G G G dD ?_));have yM:=dT.view (hn:=by decide) a11;replace dV:rm mN gz _:=⟨dV,by first|exact dT.fK g2 Tg|(intro h;have:=(dT.base _ h).1;omega)⟩;replace fF:rm mN gz _:=⟨fF,by first|exact dT.fK g3 Tg|(intro h;have:=(dT.base _ h).1;omega)⟩;replace dL:rm mN gz _:=⟨dL,by first|exact dT.fK ep Tg|(intro h;have:=(dT.base _ h).1;omega)⟩;replace dB:rm mN gz _:=⟨dB,by first|exact dT.fK dD Tg|(intro h;have:=(dT.base _ h).1;omega)⟩;replace dG:=dG.le Tg (tW _ gz _);replace eh:=eh.le (tW _ gz _);replace iP:=iP.le (tW _ gz _);replace gx:=gx.le (tW _ gz _);replace hM:Lt (rm mN gz) _:=λb hb=>hM b hb.1
     replace S:=S.freeze (v:=gz) (λb hb=>by have:=(dT.base b hb).1;omega);clear dT;refine aP G G E29 (Cq (d:=(d.1,[]++out++[fixF i x])) _ hM (fJ (hU hdi) yM G G G G) (λy hy=>by have:=(Df.snoc We) y (by simpa using hy);omega)) (λr14 Ny hc=>?_);obtain⟨rfl,jD⟩:=hc;rw[jd]at yM;have:=ae g2;replace dV:=(jD.mem _ this).2 dV;replace g2:=jD.aF g2;have:=ae g3;replace fF:=(jD.mem _ this).2 fF;replace g3:=jD.aF g3;have:=ae ep;replace dL:=(jD.mem _ this).2 dL;replace ep:=jD.aF ep;have:=ae dD;replace dB:=(jD.mem _ this).2 dB;replace dD:=jD.aF dD;replace dG:=dG.le Tg jD.le;replace eh:=eh.le jD.le;replace iP:=iP.le jD.le;replace gx:=gx.le jD.le;replace yM:=yM.le jD.le;replace hM:=jD.lt hM;have:=S.size;replace S:=S.aw jD;refine fe G G G (bg (v':= .bool (decide (oA (d.1,out++[fixF i x])=0))) (by rw[jd]) (ad ?_));refine bE G (λLU=>?_) (λLU=>?_)
     ·refine aH (eC (vs:=[.int .i64 d.1,gz]) aW G lD G G G dD ?_);refine cY (M:=rm mN gz) (vs:=[.int .i64 d.1,gz]) lD G G a18 rfl rfl g3 fF (λak3 Pt j3=>?_);have:=ae g2;replace dV:=(j3.mem _ this).2 dV;replace g2:=j3.bU g2 a04;have:=ae g3;replace fF:=(j3.mem _ this).2 fF;have:=ae ep;replace dL:=(j3.mem _ this).2 dL;replace ep:=j3.bU ep a04;have:=ae dD;replace dB:=(j3.mem _ this).2 dB;replace dD:=j3.bU dD a04;replace dG:=dG.le Tg j3.le;replace eh:=eh.le j3.le;replace iP:=iP.le j3.le;replace gx:=gx.le j3.le;replace yM:=yM.le j3.le;replace hM:=j3.lt hM;have:=S.size;replace S:=S.trans j3 (λk hk h=>by have h:_=_:=h;subst h;first|(exfalso;omega)|(show _<=_;omega)|exact⟨by first|omega|assumption,(S.mem _ hk).1 ((j3.mem _ (ae g3)).1 fF)⟩|exact .inl rfl|exact .inr rfl|exact .inr (.inl rfl)|exact .inr (.inr rfl)|exact .inr (.inr (.inl rfl))|exact rfl);have g3_:=Pt;clear g3;have g3:=g3_;clear g3_;refine ad (aH (ab G G (bu G G G q0 (Rg.aZ G G ?_))));refine⟨G,(i+1,out++[fixF i x]),a56,?_,?_⟩
      ·exact⟨_,_,hM,S,dG,eh,g2,dV,g3,fF,yM,by rw[xR,hga,if_pos LU],by dsimp only;omega,by dsimp only;omega,Df.snoc We,by simp;omega⟩
      ·dsimp only;omega
     ·refine aS (aH (ab G G (bu G G G q0 (Rg.aZ G G ?_))));refine⟨G,(i+1,out),a56,?_,?_⟩
      ·exact⟨_,_,hM,S,dG,eh,g2,dV,g3,fF,iP,by rw[xR,hga,if_neg LU],by dsimp only;omega,by dsimp only;omega,Df,by dsimp only;omega⟩
      ·dsimp only;omega
   ·refine cN (T.aQ (eC (vs:=[.int .i64 d.1,uo]) aW G lD G G G g3 ?_));refine cY (M:=M1) (vs:=[.int .i64 d.1,uo]) lD G G a18 rfl rfl g2 dV (λak4 Pu pz=>?_);have:=ae g2;replace dV:=(pz.mem _ this).2 dV;have:=ae g3;replace fF:=(pz.mem _ this).2 fF;replace g3:=pz.bU g3 a04;replace dG:=dG.le Tg pz.le;replace eh:=eh.le pz.le;replace iP:=iP.le pz.le;replace hM:=pz.lt hM;have:=S.size;replace S:=S.trans pz (λk hk h=>by have h:_=_:=h;subst h;first|(exfalso;omega)|(show _<=_;omega)|exact⟨by first|omega|assumption,(S.mem _ hk).1 ((pz.mem _ (ae g2)).1 dV)⟩|exact .inl rfl|exact .inr rfl|exact .inr (.inl rfl)|exact .inr (.inr rfl)|exact .inr (.inr (.inl rfl))|exact rfl);have Pv:=Pu;clear g2;have g2:=Pv;clear Pv;refine ad (aJ ?_);have e:pZ d=(d.1,out):=by rw[pZ,xR,Cr q0]
    rw[e];refine ku (vs:=[.int .i64 d.1,uo]) G G aW G lD G g2 ⟨fJ (hU hdi) (iP.le (lE gv S)) G G G G,S.back⟩
  ·refine aj G G G G (aj G G G G (aB G G G (ad (jF G (cN (T.aQ (eC (vs:=[.int .i64 d.1,uo]) aW G lD G G G g3 ?_)))))));refine cY (M:=M1) (vs:=[.int .i64 d.1,uo]) lD G G a18 rfl rfl g2 dV (λak4 Pu pz=>?_);have:=ae g2;replace dV:=(pz.mem _ this).2 dV;have:=ae g3;replace fF:=(pz.mem _ this).2 fF;replace g3:=pz.bU g3 a04;replace dG:=dG.le Tg pz.le;replace eh:=eh.le pz.le;replace iP:=iP.le pz.le;replace hM:=pz.lt hM;have:=S.size;replace S:=S.trans pz (λk hk h=>by have h:_=_:=h;subst h;first|(exfalso;omega)|(show _<=_;omega)|exact⟨by first|omega|assumption,(S.mem _ hk).1 ((pz.mem _ (ae g2)).1 dV)⟩|exact .inl rfl|exact .inr rfl|exact .inr (.inl rfl)|exact .inr (.inr rfl)|exact .inr (.inr (.inl rfl))|exact rfl);have Pv:=Pu;clear g2;have g2:=Pv;clear Pv;refine ad (aJ ?_);have e:pZ d=(d.1,out):=by rw[pZ,xR,Cr q0]
   rw[e];refine ku (vs:=[.int .i64 d.1,uo]) G G aW G lD G g2 ⟨fJ (hU hdi) (iP.le (lE gv S)) G G G G,S.back⟩
def eO (l:List Dc) (from_ step:Int):Nat->List En
 |0=>[]
 |k+1=>eO l from_ step k++(match l[k]? with|some d=>[(pZ d,from_+step*(k:Int))]|none=>[])
theorem l5 (l:List Dc) (a s:Int):∀k,(eO l a s k).length=min k l.length
 |0=>by simp[eO]
 |k+1=>by
  rw[eO,bM,l5 l a s k]
  cases h:l[k]? with
  |none=>have:=List.getElem?_eq_none_iff.1 h;simp;omega
  |some d=>have:=(an.1 h).1;simp;omega
theorem Ad {l:List Dc} {a s:Int} {k:Nat} {d:Dc} (h:l[k]? =some d):eO l a s (k+1)=eO l a s k++[(pZ d,a+s*(k:Int))]:=by rw[eO,h]
theorem Ae {l:List Dc} {a s:Int} {k:Nat} (h:l.length<=k):eO l a s (k+1)=eO l a s k:=by
 rw[eO,List.getElem?_eq_none_iff.2 h];simp
theorem FM {l:List Dc} {a s:Int} {n i:Nat} (h:l.length<=i\/n<=i) (h1:i<=n):eO l a s i=eO l a s n:=by
 induction n with
 |zero=>have:i=0:=by omega
        rw[this]
 |succ n ih=>
  rcases qx h1 with e|eZ
  ·rw[e]
  ·rcases h with h|h
   ·rw[Ae q0];exact ih (.inl h) q0
   ·omega
theorem Ua {s k:Int} (h:0<=s/\s<=1000) (hk:0<=k/\k<=100):0<=s*k/\s*k<=100000:=
 ⟨Int.mul_nonneg h.1 hk.1,Int.le_trans (Int.mul_le_mul h.2 hk.2 hk.1 q0) q0⟩
theorem Ib {M:aM} {l:List Dc} {v0:Value} {most:Nat} {a s:Int} (w0:World) (hM:Lt M w0) (hv:(RT.dc.sl).V M w0 l v0) (hm:most<=100) (ha:0<=a/\a<=1000000) (hs:0<=s/\s<=1000):
  Spec Tryz.prog 10 #[v0,.int .i64 (most:Int),.int .i64 a,.int .i64 s] w0 (λv w=>(RT.en.sl).V M w (eO l a s most) v/\Step M w0 M w aC):=by
 have gv:=hM;refine bh (args:=[_,_,_,_]) (fn:=Tryz.f10) Tryz.func10 G (n:=37) Tryz.ntmps10 ?_;have S:Step M w0 M w0 aC:=aV;refine T.aQ (Rg.aZ G G (T.aQ (Rg.aZ G G (aL (T.aQ (aN G G ?_))))));refine ad (aX ?_);refine dd (σ:=Nat×Value) (λq=>[(0,v0),(1,.int .i64 (most:Int)),(2,.int .i64 a),(3,.int .i64 s),(9,q.2),(10,.int .i64 (q.1:Int))]) (λq w=>∃M',Lt M' w/\Step M w0 M' w aC/\Own RT.en 74 M' w w0.heap.size q.2 (eO l a s q.1)/\(RT.dc.sl).V M' w l v0/\q.1<=most/\q.1<=l.length) (λq=>most-q.1) (0,.slice none 0 0) a14 ?_ ?_
 ·exact⟨M,hM,S,eL _ _ _ _ _,hv,a8 _,a8 _⟩
 ·rintro⟨i,u⟩ w ⟨M1,hM,S,ho,hv,hi,rL⟩;dsimp only at ho hi rL ⊢;refine aL (T.aQ (ab G G (ab G G (bC Tryz.underlying22 G hv G (cx G G G (ab G G ?_))))));refine aO (g:=15) G (λLV=>?_) (λLV=>?_)
  ·refine ah G G (ab G G (ah G G (ab G G (ah G G (cx G G G (aU G G G (ad ?_)))))));refine bE G (λc3=>?_) (λc3=>?_)
   ·refine aS (aL (aX (aH (ab G G (ab G G (ab G G ?_))))));refine cC Tryz.underlying22 lD G G G hv bS q0 (λu5 d LG lP=>?_);rw[ar]at LG;have hsi:=Ua (k:=(i:Int)) hs q0;refine bN (A:=RT.dc) aW G lD Tg G G G lP bS (λv5 pA=>?_);refine aP G G E47 (LR _ hM pA) (λr5 w5 hc=>?_);obtain⟨xR,s5⟩:=hc;replace hv:=hv.le s5.le;replace ho:=ho.bP s5;replace hM:=s5.lt hM;have:=S.size;replace S:=S.aw s5;refine ab G G (ab G G (ab G G (Rg.Xm G G G q0 (bu G G G q0 ?_))));obtain⟨uf,rfl⟩:=OA xR;refine dw (places:=[(0,2),(2,1)]) ed Hx B74 rfl ⟨_,_,rfl,rfl,_,_,rfl,rfl,rfl⟩ (out:=[_,_,_]) ⟨0,[_,_],rfl,rfl,by simp[Value.cells],2,[_],rfl,rfl,by simp[Value.cells],rfl⟩ ?_;refine fz (A:=RT.en) (hn:=by decide) (M:=M1) eG Hx Tg G G hM (show RT.en.V _ _ (pZ d,a+s*(i:Int)) _ from V0 xR q0) (.inl G) (λaqI aqJ Ic FN=>?_);replace hv:=hv.le FN.le;replace xR:=xR.le FN.le;replace ho:=ho.bP FN;replace hM:=FN.lt hM;have:=S.size;replace S:=S.aw FN;refine dJ (M:=M1) (base:=w0.heap.size) eG Hx G G G G ho Ic bS (by have:=l5 l a s i;simp;omega) (by have:=l5 l a s i;simp;omega) (S.size) (λadA adB aqK YH FO=>?_);replace hv:=hv.le FO.le;replace xR:=xR.le FO.le;replace Ic:=Ic.le FO.le;replace hM:=FO.lt hM;have:=S.size;replace S:=S.dX FO ho (bz _);replace ho:=YH;refine Rg.aZ G G (aH (ab G G (bu G G G q0 (Rg.aZ G G ?_))));refine⟨G,(i+1,adA),a14,?_,?_⟩
    ·exact⟨adB,hM,S,by rw[Ad LG];exact ho,hv,by dsimp only;omega,by dsimp only;omega⟩
    ·dsimp only;omega
   ·refine cN (T.aQ (ab G G (Rg.aZ G G (aJ ?_))));rw[<-FM (i:=i) (n:=most) q0 hi];exact aK G G ⟨ho.close gv S (by have:=l5 l a s i;omega),S.back⟩
  ·refine aj G G G G (aj G G G G (aj G G G G (aB G G G (ad (jF G (cN (T.aQ (ab G G (Rg.aZ G G ?_)))))))));refine aJ ?_;rw[<-FM (i:=i) (n:=most) q0 hi];exact aK G G ⟨ho.close gv S (by have:=l5 l a s i;omega),S.back⟩
end Go.K
namespace Go.K
open Go.Proofs
set_option maxRecDepth 10000
open Go.Maps (Keyed)
def kv (t:Fd):Value:= .agg #[.string ⟨t.1.toArray⟩,.string ⟨t.2.toArray⟩]
theorem wT {a b:Fd} (h:kv a=kv b):a=b:=by
 unfold kv at h;simp only[Value.agg.injEq,Array.mk.injEq,yV,Value.string.injEq,ByteArray.mk.injEq,and_true]at h;exact Prod.ext h.1 h.2
theorem Pw:laidOutB Tryz.prog=true:=by kernel_rfl
theorem Px:Tryz.prog.types.size=419:=by kernel_rfl
theorem Cs:Keyed Tryz.prog 24:=Keyed.of_law (deep_law_laid Pw (m:=2) (k:=24) q0 (by rw[Px];decide) ai6 ai6)
theorem adC:Tryz.prog.keyType 24=true:=by kernel_rfl
theorem Kg:Tryz.prog.cellsOf 24=2:=by kernel_rfl
theorem Ub:Tryz.prog.cellsOf 9=1:=by kernel_rfl
theorem Py (t:Fd) (h1:t.1.length<=140737488355328) (h2:t.2.length<=140737488355328):∃l,keyOf Tryz.prog 24 (kv t)=some l:=by
 have e1:(⟨t.1.toArray⟩:ByteArray).size=t.1.length:=by simp[ByteArray.size]
 have e2:(⟨t.2.toArray⟩:ByteArray).size=t.2.length:=by simp[ByteArray.size]
 have hs:∀(s:ByteArray),s.size<=maxLen->Tryz.prog.keyLits 419 9 [.string s]=some [.string s.data.toList]:=λs hs=>by
  show(match Tryz.prog.underlying 9,[Value.string s]with|_,_=>_)=_;rw[aA];exact if_pos hs
 unfold keyOf kv;rw[br];simp only[adC,Value.formed,br,Kg,Px]
 have key:∃ls,Tryz.prog.keyLits (419+1) 24 [.string ⟨t.1.toArray⟩,.string ⟨t.2.toArray⟩]=some ls:=by
  unfold Program.keyLits;simp only[br];rw[if_pos ⟨by rw[Kg];rfl,by kernel_rfl⟩];simp only[List.mapM_cons,List.mapM_nil,Ub];have g1:=hs ⟨t.1.toArray⟩ (by rw[e1];unfold maxLen;omega);have g2:=hs ⟨t.2.toArray⟩ (by rw[e2];unfold maxLen;omega);refine ⟨[.string (⟨t.1.toArray⟩:ByteArray).data.toList,.string (⟨t.2.toArray⟩:ByteArray).data.toList],?_⟩;simp only[List.drop_zero,List.drop_succ_cons,List.take_succ_cons,List.take_zero,g1,g2];rfl
 obtain⟨ls,hls⟩:=key;exact⟨.string (keyBytes ls),by rw[if_pos (by simp)];show Option.map _ (Tryz.prog.keyLits (419+1) 24 [.string ⟨t.1.toArray⟩,.string ⟨t.2.toArray⟩])=_;rw[hls];rfl⟩
end Go.K
namespace Go.K
open Go.Proofs
set_option maxRecDepth 10000
def gP (x:Fd):List (Fd×Nat):=(words x.2).zipIdx.map λp=>((x.1,p.1),p.2)
def cL (l:List Fd):List (Fd×Nat):=l.flatMap gP
theorem oF (x:Fd):(gP x).length=(words x.2).length:=by simp[gP]
theorem Pz {x:Fd} {k:Nat} {y:List UInt8} (h:(words x.2)[k]? =some y):(gP x)[k]? =some ((x.1,y),k):=by
 simp[gP,List.getElem?_zipIdx,h]
theorem tz {fs:List Fd} {i:Nat} {x:Fd} (h:fs[i]? =some x):cL (fs.take (i+1))=cL (fs.take i)++gP x:=by
 rw[bY,h];simp[cL]
structure YI (P:Program) (g:FuncId) (cap:List Value) (B:Nat) (J:List (Fd×Nat)->aM->World->Prop):Prop where
 enters:Enters P g
 step:∀ts M w M' w',J ts M w->Step M w M' w' aC->J ts M' w'
 tell:∀ts M w (t:Fd) (i:Nat),J ts M w->Lt M w->t.1.length<=900000->t.2.length<=140737488355328->i<=1000000->ts.length<=10000000->Spec P g ([kv t,.int .i64 (i:Int)]++cap).toArray w (λ_ w'=>∃M',Lt M' w'∧J (ts++[(t,i)]) M' w'∧Step M w M' w' (lS M B))
theorem Ct {M:aM} {d:Dc} {v0:Value} {g:FuncId} {cap:List Value} {B:Nat} {J:List (Fd×Nat)->aM->World->Prop} (w0:World) (hM:Lt M w0) (hv:RT.dc.V M w0 d v0) (hl:∀f∈d.2,f.1.length<=900000/\f.2.length<=900000) (hd8:d.2.length<=8) (hT:YI Tryz.prog g cap B J) (hJ:J [] M w0):
  Spec Tryz.prog 142 #[v0,.func (.func g) #[] cap.toArray] w0 (λv w=>∃M',Lt M' w/\J (cL d.2) M' w/\Step M w0 M' w (lS M B)):=by
 refine bh (args:=[_,_]) (fn:=Tryz.f142) Tryz.func142 G (n:=33) Tryz.ntmps142 ?_;have S:Step M w0 M w0 (lS M B):=(aV).eI a30 (λ_ h=>h.2);refine T.aQ ?_;refine ef (A:=RT.dc) G G hM hv G (λu0 w1 dG s0 _=>?_);replace hJ:=hT.step _ _ _ _ _ hJ s0;replace hM:=s0.lt hM;have:=S.size;replace S:=S.aw s0;refine ad (T.aQ ?_);refine ao (M:=M) (A:=RT.dc) (B:=(RT.fd).sl) aW G G tO Tg (Hw) G G Tg Xf (by repeat (first|exact bQ _ _|refine bA (bR Xf) ?_)) (λzX kG=>?_);refine bB (M:=M) bG G G G G G Xf (by repeat (first|exact bQ _ _|refine bA (bR Xf) ?_)) (λyx lx=>?_);refine bC bG G lx G (ab G G (ad (aX ?_)));refine dd (σ:=Nat) (λi=>[(1,.func (.func g) #[] cap.toArray),(9,yx),(10,.int .i64 (d.2.length:Int)),(11,.int .i64 (i:Int))]) (λi w=>∃M',Lt M' w/\Step M w0 M' w (lS M B)/\(RT.fd.sl).V M' w d.2 yx/\J (cL (d.2.take i)) M' w/\i<=d.2.length/\(cL (d.2.take i)).length<=900001*i) (λi=>d.2.length-i) 0 a00 ?_ ?_
 ·exact⟨_,hM,S,lx,hJ,a8 _,bz _⟩
 ·rintro i w ⟨M1,hM,S,lN,hJ,hi,rW⟩;refine T.aQ (cx G G G (ad (aL ?_)));refine bE G (λc2=>?_) (λc2=>?_)
  ·refine aS (aL (aX (T.aQ ?_)));refine cC bG kf G G G lN bS q0 (λu3 x YJ gY=>?_);rw[ar]at YJ;have xF:=hl _ (av YJ);refine bN (A:=RT.fd) cK G kf Tg G G G gY bS (λv3 uE=>?_);refine pT (A:=RT.fd) (M:=M1) kf G G G G G Xf bS hM (λUc auY Af Ud auZ=>?_);replace lN:=lN.le Ud.le;replace hJ:=hT.step _ _ _ _ _ hJ Ud;replace hM:=Ud.lt hM;have:=S.size;replace S:=S.aw Ud;refine ad (T.aQ ?_);refine ao (M:=M1) (A:=RT.fd) (B:=RT.str) cK G G I9 Tg (Lz) G G Tg Xf (by repeat (first|exact bQ _ _|refine bA (bR Xf) ?_)) (λLQ si=>?_);refine bB aA G G G G G si bS (λv4 qu=>?_);obtain rfl:=dS qu;refine aP G G X4 (zS (l:=x.2) _ hM xF.2) (λv5 w5 hc=>?_);obtain⟨XY,s5⟩:=hc;replace lN:=lN.le s5.le;replace Af:=Af.le Tg s5.le;replace hJ:=hT.step _ _ _ _ _ hJ s5;replace hM:=s5.lt hM;have:=S.size;replace S:=S.aw s5;have H5:=l4 x.2;refine bC ax G XY G (ab G G (ad (aX ?_)));refine dd (σ:=Nat) (λk=>[(1,.func (.func g) #[] cap.toArray),(5,Uc),(9,yx),(10,.int .i64 (d.2.length:Int)),(11,.int .i64 (i:Int)),(17,v5),(18,.int .i64 ((words x.2).length:Int)),(19,.int .i64 (k:Int))]) (λk w=>∃M',Lt M' w/\Step M w0 M' w (lS M B)/\(RT.fd.sl).V M' w d.2 yx/\cO RT.fd M' w Uc x/\(RT.str.sl).V M' w (words x.2) v5/\J (cL (d.2.take i)++(gP x).take k) M' w/\k<=(words x.2).length) (λk=>(words x.2).length-k) 0 (.cons G a94) ?_ ?_
   ·exact⟨_,hM,S,lN,Af,XY,by rw[List.take_zero,eX];exact hJ,a8 _⟩
   ·rintro k w ⟨M2,hM,S,lN,Af,XY,hJ,hk⟩;refine T.aQ (cx G G G (ad (aL ?_)));refine bE G (λc5=>?_) (λc5=>?_)
    ·refine aS (aL (aX (T.aQ (ab G G ?_))));refine cC ax I9 G G G XY bS q0 (λu6 y Nw uz=>?_);rw[ar]at Nw;refine bB aA G G G G G uz bS (λv6 oC=>?_);have hyl:=(mc.1 oC).2;obtain rfl:=dS oC;refine aN G G (Rg.aZ G G (aH (ab G G ?_)));refine ao (M:=M2) (A:=RT.fd) (B:=RT.str) cK G G I9 Tg (EF) G G Tg Xf (by repeat (first|exact bQ _ _|refine bA (bR Xf) ?_)) (λau0 adD=>?_);refine bB aA G G G G G adD bS (λv7 FP=>?_);obtain rfl:=dS FP;refine ab rfl rfl (dw (places:=[(0,1),(1,1)]) br kF XZ rfl ⟨_,_,rfl,rfl,_,_,rfl,rfl,rfl⟩ (out:=[_,_]) ⟨0,[_],rfl,rfl,by simp[Value.cells],1,[_],rfl,rfl,by simp[Value.cells],rfl⟩ (ab rfl rfl ?_));refine oS (first:=[]) (captured:=cap) (xs:=[.tmp 28,.tmp 29]) G G G hT.enters (hT.tell _ _ _ (x.1,y) k hJ hM xF.1 hyl q0 (by rw[bM,a7,oF];omega)) (λr7 w7 hc=>?_);obtain⟨M7,hM7,hJ7,s7⟩:=hc;refine ad (aH (bu G G G q0 (ab G G (ad ?_))));refine⟨G,k+1,(.cons G a94),?_,?_⟩
     ·exact⟨M7,hM7,S.trans s7 (λb hb h=>⟨h.1,(S.mem b hb).1 h.2⟩),lN.le s7.le,Af.le Tg s7.le,XY.le s7.le,by rw[bY,Pz Nw,dp,<-sF];exact hJ7,by omega⟩
     ·omega
    ·refine cN (aH (bu G G G q0 (ab G G (ad ?_))));refine⟨G,i+1,a00,?_,?_⟩
     ·exact⟨_,hM,S,lN,by rw[tz YJ];have e:(gP x).take k=gP x:=bp (by rw[oF];omega);rw[e]at hJ;exact hJ,by omega,by rw[tz YJ,bM,oF];omega⟩
     ·omega
  ·refine cN ?_
   first|refine iH.nil ?_|simp+decide only[Db,qz,if_true,if_false]|skip
   have e:d.2.take i=d.2:=bp q0;rw[e]at hJ;exact kr G ⟨_,hM,hJ,S⟩
theorem DO {M:aM} {w:World} {t:Fd} (h1:t.1.length<=140737488355328) (h2:t.2.length<=140737488355328):RT.fd.V M w t (kv t):=fJ (mc.2 ⟨rfl,h1⟩) (mc.2 ⟨rfl,h2⟩) rfl rfl rfl rfl
def WJ (b B:Nat) (ts:List (Fd×Nat)) (M:aM) (w:World):Prop:=w.heap[b]? =some (.cells #[.int .i64 (ts.length:Int)] 3 (0,0))/\M b/\B<=b
theorem DP {M:aM} {b B:Nat} {ts:List (Fd×Nat)} {t:Fd} {i:Nat} (w0:World) (hM:Lt M w0) (h1:t.1.length<=900000) (h2:t.2.length<=140737488355328) (Oe:ts.length<=10000000) (hJ:WJ b B ts M w0):
  Spec Tryz.prog 149 #[kv t,.int .i64 (i:Int),.pointer (some ⟨b,0,none⟩)] w0 (λv w=>∃M',Lt M' w/\WJ b B (ts++[(t,i)]) M' w/\Step M w0 M' w (lS M B)):=by
 obtain⟨gb,eK,hB⟩:=hJ;refine bh (args:=[_,_,_]) (fn:=Tryz.f149) Tryz.func149 G (n:=7) Tryz.ntmps149 ?_;have S:Step M w0 M w0 (lS M B):=(aV).eI a30 (λ_ h=>h.2);refine T.aQ ?_;refine ef (A:=RT.fd) G G hM (DO q0 h2) G (λu0 w1 dG s0 _=>?_);have:=ae gb;replace eK:=(s0.mem _ this).2 eK;replace gb:=s0.aF gb;replace hM:=s0.lt hM;have:=S.size;replace S:=S.aw s0;refine ad (aH (aR al G G G Xf G (bu G G G q0 ?_)));refine cv (M:=M) I3 G G gb G (G) eK (λUe iO qe=>?_);change Ue.heap[_]? =some (Obj.cells #[.int .i64 ((ts.length:Int)+1)] _ _)at iO;have:=ae gb;replace eK:=(qe.mem _ this).2 eK;replace hM:=qe.lt hM;have:=S.size;replace S:=S.trans qe (λk hk h=>by have h:_=_:=h;subst h;first|(exfalso;omega)|(show _<=_;omega)|exact⟨by first|omega|assumption,(S.mem _ hk).1 ((qe.mem _ (ae gb)).1 eK)⟩|exact .inl rfl|exact .inr rfl|exact .inr (.inl rfl)|exact .inr (.inr rfl)|exact .inr (.inr (.inl rfl))|exact rfl);have PA:=iO;clear gb;have gb:=PA;clear PA;refine ad ?_
 first|refine iH.nil ?_|simp+decide only[Db,qz,if_true,if_false]|skip
 exact kr rfl ⟨_,hM,⟨by rw[bM];exact gb,eK,hB⟩,S⟩
theorem FQ {b B:Nat}:YI Tryz.prog 149 [.pointer (some ⟨b,0,none⟩)] B (WJ b B):=
 ⟨ajL,λts M w M' w' ⟨h1,h2,h3⟩ s=>⟨s.aF h1,(s.mem _ (ae h1)).2 h2,h3⟩,λts M w t i hJ hM h1 h2 _ h4=>DP w hM h1 h2 h4 hJ⟩
theorem FR {M:aM} {d:Dc} {v0:Value} (w0:World) (hM:Lt M w0) (hv:RT.dc.V M w0 d v0) (hl:∀f∈d.2,f.1.length<=900000/\f.2.length<=900000) (hd8:d.2.length<=8):
  Spec Tryz.prog 97 #[v0] w0 (λv w=>v= .int .i64 ((cL d.2).length:Int)/\Step M w0 M w aC):=by
 refine bh (args:=[_]) (fn:=Tryz.f97) Tryz.func97 G (n:=8) Tryz.ntmps97 ?_;have S:Step M w0 M w0 aC:=aV;refine T.aQ ?_;refine ef (A:=RT.dc) G G hM hv G (λu0 w1 dG s0 _=>?_);replace hM:=s0.lt hM;have:=S.size;replace S:=S.aw s0;refine Rg.aZ G G (T.aQ ?_);refine ew M I3 G (λwM T5 akA akB pw yv=>?_);obtain⟨Cp,zO⟩:∃M',M'=ins M wM:=⟨_,rfl⟩;rw[<-zO]at yv;have mK:Cp wM:=by rw[zO];exact .inl G
 change T5.heap[wM]? =some (.cells #[.int .i64 0] _ _)at pw;replace dG:=dG.le Tg yv.le;replace hM:=yv.lt hM;have:=S.size;replace S:=S.aw yv;refine cv (M:=Cp) I3 G G pw G (G) mK (λYK BL yz=>?_);change YK.heap[_]? =some (Obj.cells #[.int .i64 0] _ _)at BL;have:=ae pw;replace mK:=(yz.mem _ this).2 mK;replace dG:=dG.le Tg yz.le;replace hM:=yz.lt hM;have:=S.size;replace S:=S.trans yz (λk hk h=>by have h:_=_:=h;subst h;first|(exfalso;omega)|(show _<=_;omega)|exact⟨by first|omega|assumption,(S.mem _ hk).1 ((yz.mem _ (ae pw)).1 mK)⟩|exact .inl rfl|exact .inr rfl|exact .inr (.inl rfl)|exact .inr (.inr rfl)|exact .inr (.inr (.inl rfl))|exact rfl);have Wf:=BL;clear pw;have pw:=Wf;clear Wf;refine ad (T.aQ ?_);refine bN (A:=RT.dc) aW G lD Tg G G G dG bS (λv2 yL=>?_);refine iS (xs:=[]) (ys:=[.tmp 3]) G G G ?_;refine aP G G acC (Ct (cap:=[.pointer (some ⟨wM,0,none⟩)]) (B:=w0.heap.size) _ hM yL hl hd8 FQ ⟨pw,mK,by omega⟩) (λr2 w2 hc=>?_);obtain⟨M2,J8,⟨g2,_,_⟩,s2⟩:=hc;replace S:=S.mi s2 (bz _);refine ad (T.aQ (aR al G G G g2 G (Rg.aZ G G (aJ ?_))));exact aK G G ⟨G,S.back⟩
section
variable {P:Program} {r:Option Nat} {n:Nat} {L:Sl} {ds:List Deferred} {w:World} {K:Kt} {ops:Array Oper} {rest:List Oper} {d:Nat} {x y z:Operand} {ty:TypeId} {pos:String} {af:Array Edge}
variable {kt:TypeId} {M:aM} {b mb clock:Nat} {es:List MapEntry} {sn:Array Nat}
theorem Rg.rangeMap {t e:TypeId} (M:aM) (ht:P.underlying t=some (.map kt e)) (hx:ev L x=some (.map (some mb))) (hd:Nat.blt d n=true) (h:fY P kt w mb es clock)
  (k:∀b w',w.heap.size<=b->b<w'.heap.size->w'.heap[b]? =some (.mapIter (some mb) clock #[] clock)->Step M w (ins M b) w' aC->Rg P r n ops rest ((d,.pointer (some ⟨b,0,none⟩))::L) ds w' K):
  Rg P r n ops ({dst:=some d,op:= .range t x,type:=ty,pos,after:=af,guard:=none}::rest) L ds w K:=by
 refine .op a05 G G hd (.pointer (some ⟨w.heap.size,0,none⟩)) (w.alloc (.mapIter (some mb) clock #[] clock)) (λρ hρ=>?_) (k w.heap.size _ (bz _) (by simp) (dE w _) ((ei M w _).own (bz _) (by simp)));simp only[execOp,hρ x _ hx];simp[Instr.range,cn,run_underlying ht,dO h.at_,newObj,Sem.run]
theorem p6 {sb:Option Nat} {s c:Nat} (hb:w.heap[b]? =some (.mapIter sb s sn c)):(getObj b).run P w= .ok (.mapIter sb s sn c) w:=by simp[getObj,Sem.run,hb]
theorem Ie (h:fY P kt w mb es clock) (seen:Array Nat):(!seen.isEmpty&& !es.toArray.isEmpty&&es.toArray.all (λx=>decide (x.born>=clock)))=false:=by
 cases es with
 |nil=>simp
 |cons e l=>
  have:=h.lt e (by simp);simp only[Bool.and_eq_false_iff];right;rw[fh];intro h2;rw[Array.all_eq_true_iff_forall_mem]at h2;have:=h2 e (by simp);simp at this;omega
theorem FT (k:Nat) (hk:0<k):∃j w1,j<k/\(∀M,Step M w M w1 aC)/\w1.heap=w.heap/\(choose (Question.mapNext k)).run P w= .ok j w1:=by
 by_cases hf:k<=1
 ·exact⟨0,w,hk,λM=>Step.refl M w,rfl,by simp[choose,Sem.run,Question.forced,hf]⟩
 ·exact⟨_,w.drew,Nat.mod_lt _ hk,λM=>nV M w,G,by
   simp only[choose,Sem.run,Question.forced,decide_eq_true_eq,hf,if_false,Question.cut];rfl⟩
theorem PB (h:fY P kt w mb es clock) (hb:w.heap[b]? =some (.mapIter (some mb) clock sn clock)) (hm:M b):
  ((∀e∈es,e.born∈sn)/\(Instr.next (.pointer (some ⟨b,0,none⟩)) false ty).run P w= .ok (.tuple #[.bool false]) w)\/
  ∃e w',e∈es/\e.born∉sn/\w'.heap[b]? =some (.mapIter (some mb) clock (sn.push e.born) clock)/\Step M w M w' (λk=>k=b)/\(Instr.next (.pointer (some ⟨b,0,none⟩)) false ty).run P w= .ok (.tuple #[.bool true,e.key,e.val]) w':=by
 have eZ:=ae hb;simp only[Instr.next,cn,p6 hb,cF,dO h.at_,Ie h sn,Bool.false_eq_true,if_false];have hL:∀e∈es.toArray.filter (λe=> !sn.contains e.born),e.born<clock:=λe he=>h.lt e (by simpa using(Array.mem_filter.1 he).1)
 have lJ:∀e,e∈es.toArray.filter (λe=> !sn.contains e.born)↔e∈es/\e.born∉sn:=λe=>by simp[Array.mem_filter]
 generalize es.toArray.filter (λe=> !sn.contains e.born)=Lf at hL lJ ⊢;have e1:Lf.filter (λx=>decide (x.born<clock))=Lf:=Array.filter_eq_self.2 λx hx=>by simpa using hL x hx
 have e2:Lf.filter (λx=>decide (x.born>=clock))= #[]:=by
  rw[Array.filter_eq_empty_iff];intro x hx;have:=hL x hx;simp;omega
 simp only[e1,e2,Array.append_empty];by_cases h0:Lf.size=0
 ·left;have nX:Lf= #[]:=Array.eq_empty_of_size_eq_zero h0;subst nX;refine⟨λe he=>?_,by simp[choose,Sem.run,Question.forced]⟩;by_cases hs:e.born∈sn
  ·exact hs
  ·exact absurd ((lJ e).2 ⟨he,hs⟩) (by simp)
 ·right;have fw:Lf.isEmpty=false:=by simp[Array.isEmpty,h0]
  simp only[fw,Bool.false_eq_true,if_false,Array.empty_append,Array.size_map];obtain⟨j,w1,hj,VJ,hh1,iz⟩:=FT (P:=P) (w:=w) Lf.size q0;have wK:w1.heap[b]? =some (.mapIter (some mb) clock sn clock):=by rw[hh1];exact hb
  have ia:=(lJ Lf[j]).1 (by simp);refine⟨Lf[j],{w1 with heap:=w1.heap.setIfInBounds b (.mapIter (some mb) clock (sn.push Lf[j].born) clock)},ia.1,ia.2,by simp[dH,hh1,eZ],?_,?_⟩
  ·exact((VJ M).eI a30 (λk hk=>by subst hk;exact hm)).trans (iJ M hm) (λ_ _ h=>h)
  ·simp only[iz,cF,Array.getElem?_map,Array.getElem?_eq_getElem hj,eY,cn];simp[setObj,Sem.run,wK]
theorem Rg.Uf (hx:ev L x=some (.pointer (some ⟨b,0,none⟩))) (hb:w.heap[b]? =some (.mapIter (some mb) clock sn clock)) (hm:M b) (h:fY P kt w mb es clock) (hd:Nat.blt d n=true)
  (k1:∀e w',e∈es->e.born∉sn->w'.heap[b]? =some (.mapIter (some mb) clock (sn.push e.born) clock)->Step M w M w' (λk=>k=b)->Rg P r n ops rest ((d,.tuple #[.bool true,e.key,e.val])::L) ds w' K)
  (k2:(∀e∈es,e.born∈sn)->Rg P r n ops rest ((d,.tuple #[.bool false])::L) ds w K):
  Rg P r n ops ({dst:=some d,op:= .next x false,type:=ty,pos,after:=af,guard:=none}::rest) L ds w K:=by
 rcases PB (ty:=ty) h hb hm with⟨h1,h2⟩|⟨e,w',h1,h2,h3,h4,h5⟩
 ·refine .op a05 G G hd _ w (λρ hρ=>?_) (k2 h1);simp only[execOp,hρ x _ hx];simp[h2]
 ·refine .op a05 G G hd _ w' (λρ hρ=>?_) (k1 e w' h1 h2 h3 h4);simp only[execOp,hρ x _ hx];simp[h5]
theorem Rg.entry {e:MapEntry} {sn':Array Nat} (hx:ev L x=some (.pointer (some ⟨b,0,none⟩))) (hb:w.heap[b]? =some (.mapIter (some mb) clock (sn'.push e.born) clock)) (h:fY P kt w mb es clock) (he:e∈es) (hd:Nat.blt d n=true)
  (k:Rg P r n ops rest ((d,.tuple #[e.key,e.val])::L) ds w K):
  Rg P r n ops ({dst:=some d,op:= .entry x,type:=ty,pos,after:=af,guard:=none}::rest) L ds w K:=by
 have hf:es.find? (λx=>x.born==e.born)=some e:=by
  rw[List.find?_eq_some_iff_getElem];obtain⟨i,hi⟩:=bK.1 he;obtain⟨h1,h2⟩:=an.1 hi;refine ⟨by simp,i,h1,h2,λj hj=> ?_⟩;have oX:j<es.length:=by omega
  have:=λq=>h.Fh (aq oX) hi q
  simp only[sJ,beq_eq_false_iff_ne,ne_eq];intro q;have:=this q;omega
 refine .op a05 G G hd _ w (λρ hρ=>?_) k;simp only[execOp,hρ x _ hx,Instr.entry,cn,p6 hb,cF,dO h.at_];simp[hf,cn,dO h.at_]
end
theorem filter_lt {α:Type} {p q:α->Bool} {a:α}:∀{l:List α},(∀x∈l,q x=true->p x=true)->a∈l->p a=true->q a=false->(l.filter q).length<(l.filter p).length
 |[],_,ha,_,_=>by cases ha
 |x::l,h,ha,hp,hq=>by
  have hle:(l.filter q).length<=(l.filter p).length:=by
   rw[<-List.countP_eq_length_filter,<-List.countP_eq_length_filter];exact List.countP_mono_left λy hy=>h y (cu _ hy)
  rcases du.1 ha with rfl|ha
  ·rw[rn hp,List.filter_cons_of_neg (by simp[hq])];simp;omega
  ·have:=filter_lt (λy hy=>h y (cu _ hy)) ha hp hq;by_cases hx:q x=true
   ·rw[rn hx,rn (h x (bO ..) hx)];simp;omega
   ·rw[List.filter_cons_of_neg hx];by_cases hx2:p x=true
    ·rw[rn hx2];simp;omega
    ·rw[List.filter_cons_of_neg hx2];omega
theorem fY.YL {P:Program} {kt:TypeId} {w:World} {b clock:Nat} {es:List MapEntry} (h:fY P kt w b es clock) {x y:MapEntry} (hx:x∈es) (hy:y∈es) (hk:x.key=y.key):x=y:=by
 obtain⟨i,hi⟩:=bK.1 hx;obtain⟨j,hj⟩:=bK.1 hy;rcases ff i j with jr|rfl|jr
 ·exact absurd hk (iD h.keys hi hj jr)
 ·exact aI (hi.symm.trans hj)
 ·exact absurd hk.symm (iD h.keys hj hi jr)
theorem fY.Ug {P:Program} {kt:TypeId} {w:World} {b clock:Nat} {es:List MapEntry} (h:fY P kt w b es clock) {x y:MapEntry} (hx:x∈es) (hy:y∈es) (hk:x.born=y.born):x=y:=by
 obtain⟨i,hi⟩:=bK.1 hx;obtain⟨j,hj⟩:=bK.1 hy;rcases ff i j with jr|rfl|jr
 ·exact absurd hk (iD h.born hi hj jr)
 ·exact aI (hi.symm.trans hj)
 ·exact absurd hk.symm (iD h.born hj hi jr)
def Ig (w:World) (k:Nat):Prop:=∃m s sn c,w.heap[k]? =some (.mapIter m s sn c)
def Kh (es:List MapEntry):Prop:=∀e∈es,∃t:Fd,e.key=kv t/\t.1.length<=140737488355328/\t.2.length<=140737488355328
theorem Ih {yl bs mb clock:Nat} {es:List MapEntry} {J:List Fd->World->Prop} (w0:World) (hk:Kh es) (hJs:∀ts w w' N,J ts w->Step allM w allM w' N->(∀k,k<w.heap.size->N k->w0.heap.size<=k/\Ig w k)->J ts w') (hJb:∀ts w,J ts w->w.heap[bs]? =some (.cells #[.map (some mb)] 238 (0,0))/\fY Tryz.prog 24 w mb es clock) (hy:∀ts w (t:Fd),J ts w->(∃e∈es,e.key=kv t)->t∉ts->ts.length<es.length->zj Tryz.prog yl [kv t].toArray w (λr w'=>r= .bool true/\J (ts++[t]) w'∧∃N,Step allM w allM w' N/\∀k,N k->¬Ig w k)) (h0:J [] w0):
  Spec Tryz.prog 187 #[.func (.yield yl) #[] #[],.pointer (some ⟨bs,0,none⟩)] w0 (λv w=>∃ts,J ts w/\ts.Nodup/\∀t,t∈ts↔∃e∈es,e.key=kv t):=by
 obtain⟨gb,hW⟩:=hJb _ _ h0;have hJ:=h0;clear h0;refine bh (args:=[_,_]) (fn:=Tryz.f187) Tryz.func187 G (n:=14) Tryz.ntmps187 ?_;have S:Step allM w0 allM w0 allM:=(aV).eI a30 (λ_ _=>trivial);refine T.aQ (aR l7 G G G Xf G ?_);refine Rg.rangeMap allM l7 G G hW (λbi w1 wK EL gi s1=>?_);replace s1:=s1.all;have:=ae gb;replace gb:=s1.aF gb;replace hJ:=hJs _ _ _ _ hJ s1 (λ_ _ h=>h.elim);have:=S.size;replace S:=S.aw s1;refine ad (aX ?_);refine dd (σ:=List Fd×Array Nat) (λs=>[(0,.func (.yield yl) #[] #[]),(1,.pointer (some ⟨bs,0,none⟩)),(5,.pointer (some ⟨bi,0,none⟩))]) (λs w=>J s.1 w/\Step allM w0 allM w allM/\w.heap[bi]? =some (.mapIter (some mb) clock s.2 clock)/\s.1.Nodup/\(∀e∈es,e.born∈s.2↔∃t∈s.1,e.key=kv t)/\(∀t∈s.1,∃e∈es,e.key=kv t)) (λs=>(es.filter λe=>decide (e.born∉s.2)).length) ([],#[]) a07 ?_ ?_
 ·exact⟨hJ,S,gi,List.nodup_nil,λe _=>by simp,λt h=>by cases h⟩
 ·rintro⟨ts,sn⟩ w ⟨hJ,S,gi,mY,hsn,lJ⟩;dsimp only at hJ gi mY hsn lJ ⊢;obtain⟨gb,hW⟩:=hJb _ _ hJ;refine T.aQ ?_;refine Rg.Uf (M:=allM) G gi trivial hW G (λYM T5 uF Wg pw yv=>?_) (λak6=>?_)
  ·have gi0:=gi;replace gb:=yv.bU gb a04;replace hJ:=hJs _ _ _ _ hJ yv (λk hk h=>by have h:k=bi:=h;subst h;exact⟨wK,_,_,_,_,gi0⟩);have:=S.size;replace S:=S.trans yv (λk hk h=>by have h:_=_:=h;subst h;first|(exfalso;omega)|(show _<=_;omega)|exact .inl rfl|exact .inr rfl|exact .inr (.inl rfl)|exact .inr (.inr rfl)|exact .inr (.inr (.inl rfl))|exact rfl);have gi_:=pw;clear gi;have gi:=gi_;clear gi_;refine cI G G G (ad (aL (kD G (aS (aX (T.aQ (Rg.entry G gi (hJb _ _ hJ).2 uF G ?_)))))));obtain⟨t,Uh,ht1,T6⟩:=hk _ uF;have Xz:t∉ts:=λh=>Wg ((hsn _ uF).2 ⟨t,h,Uh⟩)
   have eZ:ts.length<es.length:=by
    have h1:((t::ts).map kv).Nodup:=eo.2 ((List.nodup_cons.2 ⟨Xz,mY⟩).imp λh e=>h (wT e))
    have h2:=h1.length_le_of_subset (l₂:=es.map (·.key)) (λx hx=>by
     obtain⟨u,hu,rfl⟩:=cA.1 hx;rcases du.1 hu with rfl|hu
     ·rw[<-Uh];exact fX uF
     ·obtain⟨e,he,h⟩:=lJ u hu;rw[<-h];exact fX he)
    simp at h2;omega
   rw[Uh];refine cI G G G ?_;refine pT (A:=RT.fd) (M:=aC) kF G G G G G (DO ht1 T6) bS (Lt.none _) (λu2 w2 dY s2 z2=>?_);replace s2:=s2.all;have:=ae gb;replace gb:=s2.aF gb;have:=ae gi;replace gi:=s2.aF gi;replace hJ:=hJs _ _ _ _ hJ s2 (λ_ _ h=>h.elim);have:=S.size;replace S:=S.aw s2
   skip
   refine ad (T.aQ (ab G G ?_));refine bN (A:=RT.fd) br G kF Tg G G G dY bS (λv3 uE=>?_);obtain rfl:=kQ uE;refine Rg.yield (vs:=[kv t]) G G G (hy _ _ t hJ ⟨_,uF,Uh⟩ Xz eZ) (λr3 w3 hc=>?_);obtain⟨rfl,hJ3,N3,s3,hN3⟩:=hc;clear pw;replace gi:=s3.bU gi (λh=>hN3 _ h ⟨_,_,_,_,gi⟩);replace hJ:=hJ3;clear hJ3;obtain⟨gb,-⟩:=hJb _ _ hJ;replace S:=S.trans s3 (λ_ _ _=>trivial);refine fV G G (bg (v':= .bool false) G (ad (jF G (aS ?_))));refine⟨G,(ts++[t],sn.push YM.born),a07,?_,?_⟩
   ·have sN:∀e∈es,e.born=YM.born↔e.key=kv t:=λe he=>by
     constructor
     ·intro h;rw[fY.Ug hW he uF h,Uh]
     ·intro h;rw[fY.YL hW he uF (h.trans Uh.symm)]
    refine⟨hJ,S,gi,List.nodup_append.2 ⟨mY,by simp,λa ha b hb h=>by simp at hb;subst hb;subst h;exact Xz ha⟩,λe he=>?_,λu hu=>?_⟩
    ·rw[Array.mem_push,hsn e he,sN e he];constructor
     ·rintro(⟨u,h1,h2⟩|h)
      ·exact⟨u,kc _ h1,h2⟩
      ·exact⟨t,by simp,h⟩
     ·rintro⟨u,h1,h2⟩;rcases dI.1 h1 with h1|h1
      ·exact .inl ⟨u,h1,h2⟩
      ·simp at h1;subst h1;exact .inr h2
    ·rcases dI.1 hu with hu|hu
     ·exact lJ u hu
     ·simp at hu;subst hu;exact⟨_,uF,Uh⟩
   ·exact filter_lt (a:=YM) (λe _ h=>by simp only[decide_eq_true_eq,Array.mem_push,not_or]at h ⊢;exact h.1) uF (by simpa using Wg) (by simp)
  ·refine cI G G G (ad (aL (jF G (cN ?_))))
   first|refine iH.nil ?_|simp+decide only[Db,qz,if_true,if_false]|skip
   exact kr rfl ⟨ts,hJ,mY,λt=>⟨lJ t,fun⟨e,he,Uh⟩=>by obtain⟨t',h1,h2⟩:=(hsn e he).1 (ak6 e he);rw[<-wT (h2.symm.trans Uh)];exact h1⟩⟩
theorem fN.any {α:Type} {A:RT α} (hA:∀M w M' w' x vs,A.R M w x vs->A.R M' w' x vs) {M M':aM} {w w':World}:∀{xs:List α} {C:List Value},fN A M w xs C->fN A M' w' xs C
 |[],_,h=>h
 |x::xs,C,h=>by
  obtain⟨vs,r,h1,h2,h3⟩:=h;exact⟨vs,r,h1,hA _ _ _ _ _ _ h2,fN.any hA h3⟩
theorem DQ (M:aM) (w:World) (M':aM) (w':World) (x:Fd) (vs:List Value) (h:RT.fd.R M w x vs):RT.fd.R M' w' x vs:=h
theorem Own.Ki {α:Type} {A:RT α} (hA:∀M w M' w' x vs,A.R M w x vs->A.R M' w' x vs) {e:TypeId} {M N:aM} {w w':World} {base:Nat} {v:Value} {xs:List α} (h:Own A e M w base v xs) (s:Step allM w allM w' N) (hn:∀b,v.ownBlock=some b->¬N b):Own A e (rN v) w' base v xs:=by
 obtain⟨⟨C,h1,h2⟩,_⟩:=h;refine⟨⟨C,⟨h1.1,?_⟩,fN.any hA h2⟩,λ_ h=>h⟩;rcases h1.2 with h3|⟨g,cap,cur,h3,h4,h5,h6,h7,h8⟩
 ·exact .inl h3
 ·exact .inr ⟨g,cap,cur,h3,h4,by rw[s.same g (ae h5) (hn g (by rw[h3];rfl))];exact h5,h6,h7,h8⟩
theorem Own.isCells {α:Type} {A:RT α} {e:TypeId} {M:aM} {w:World} {base b:Nat} {v:Value} {xs:List α} (h:Own A e M w base v xs) (hb:v.ownBlock=some b):∃cs,w.heap[b]? =some (.cells cs e (0,0)):=by
 obtain⟨⟨C,h1,_⟩,_⟩:=h;rcases h1.2 with h3|⟨g,cap,cur,h3,h4,h5,_⟩
 ·rw[h3.1]at hb;cases hb
 ·rw[h3]at hb;cases hb;exact⟨_,h5⟩
structure Aq (w0:World) (bt D:Nat) (st:Loop) (v:Value) (ts:List Fd) (w:World):Prop where
 S:Step allM w0 allM w aC
 c:w.heap[bt]? =some (.cells #[v] 183 (0,0))
 o:Own RT.fd 24 (rN v) w w0.heap.size v ts
 d:w.heap[D]? =some (.deferred (some []))
 r:w.heap[D+1]? =some (.loop st)
 hb:w0.heap.size<=bt
 hD:w0.heap.size<=D
theorem Aq.step {w0 w w':World} {bt D:Nat} {st:Loop} {v:Value} {ts:List Fd} {N:aM} (h:Aq w0 bt D st v ts w) (s:Step allM w allM w' N) (hN:∀k,k<w.heap.size->N k->w0.heap.size<=k/\Ig w k):Aq w0 bt D st v ts w':=by
 have no:∀{k o},w.heap[k]? =some o->(∀m s sn c,o≠ .mapIter m s sn c)->¬N k:=λhk ho hn=>by
  obtain⟨_,m,s,sn,c,h'⟩:=hN _ (ae hk) hn;rw[hk]at h';exact ho m s sn c (aI h')
 refine⟨h.S.trans s (λk hk hn=>?_),s.bU h.c (no h.c (by intros;simp)),h.o.Ki DQ s (λb hb=>?_),s.bU h.d (no h.d (by intros;simp)),s.bU h.r (no h.r (by intros;simp)),h.hb,h.hD⟩
 ·have:=(hN k (Nat.lt_of_lt_of_le hk h.S.size) hn).1;omega
 ·obtain⟨cs,hc⟩:=h.o.isCells hb;exact no hc (by intros;simp)
theorem Aq.qf {w0 w:World} {bt D:Nat} {st st':Loop} {v:Value} {ts:List Fd} (h:Aq w0 bt D st v ts w):Aq w0 bt D st' v ts (w.putObj (D+1) (.loop st')):=by
 have s:Step allM w allM (w.putObj (D+1) (.loop st')) (λk=>k=D+1):=gy trivial;have hD:=h.hD;refine⟨h.S.trans s (λk hk hn=>by have hn:k=D+1:=hn;omega),s.bU h.c (λhn=>by have hn:bt=D+1:=hn;have h1:=h.c;rw[hn,h.r]at h1;cases h1),h.o.Ki DQ s (λb hb hn=>?_),s.bU h.d (λhn=>by have hn:D=D+1:=hn;omega),by have:=ae h.r;simp[World.putObj,dH,this],h.hb,h.hD⟩;have hn:b=D+1:=hn;obtain⟨cs,hc⟩:=h.o.isCells hb;rw[hn,h.r]at hc;cases hc
theorem FU {bs mb clock:Nat} {es:List MapEntry} (w0:World) (hk:Kh es) (hes:es.length<=100000000) (YN:w0.heap[bs]? =some (.cells #[.map (some mb)] 238 (0,0))) (hW:fY Tryz.prog 24 w0 mb es clock):
  Spec Tryz.prog 252 #[.slice none 0 0,.func (.func 187) #[] [.pointer (some ⟨bs,0,none⟩)].toArray] w0 (λv w=>∃ts:List Fd,ts.Nodup/\(∀t,t∈ts↔∃e∈es,e.key=kv t)/\Own RT.fd 24 (rN v) w w0.heap.size v ts/\Step allM w0 allM w aC):=by
 refine ug (args:=[_,_]) (fn:=Tryz.f252) Tryz.func252 G (n:=13) Tryz.ntmps252 (T.aQ ?_);refine nS allM G G (λbt w1 wK au4 gt s1=>?_);change w1.heap[bt]? =some (.cells #[.slice none 0 0] 183 (0,0))at gt;replace s1:=s1.all;refine Rg.aZ G G (aL (T.aQ (ab G G (ad (aX ?_)))));refine T.range (gf:=187) (lb:=[.pointer (some ⟨bs,0,none⟩)].toArray) G ajS (λrec uc=>?_);obtain⟨D,hD⟩:∃D,D=w1.heap.size:=⟨_,rfl⟩;have sA:Step allM w1 allM ((w1.alloc (.deferred (some []))).alloc (.loop (rec .ready none))) aC:=(ei _ _ _).aw (ei _ _ _)
 have h0:Aq w0 bt D (rec .ready none) (.slice none 0 0) [] ((w1.alloc (.deferred (some []))).alloc (.loop (rec .ready none))):=by
  refine⟨s1.aw sA,sA.aF gt,eL _ _ _ _ _,?_,?_,wK,by rw[hD];exact s1.size⟩
  ·rw[hD];exact(ei allM (w1.alloc _) _).aF (dE w1 _)
  ·rw[hD];have:=dE (w1.alloc (.deferred (some []))) (.loop (rec .ready none));rwa [World.size_alloc]at this
 rw[<-hD]at uc ⊢;have hz:=h0.S.size;refine Spec.mono (Ih (J:=λts w=>∃v,Aq w0 bt D (rec .ready none) v ts w) _ hk (λts w w' N ⟨v,h⟩ s hN=>⟨v,h.step s (λk hk hn=>⟨dz hz (hN k hk hn).1,(hN k hk hn).2⟩)⟩) (λts w ⟨v,h⟩=>⟨h.S.aF YN,hW.bP h.S⟩) (λts wr t hJ lJ Xz eZ=>?_) ⟨_,h0⟩) (λ_ w3 h3=>?_)
 ·obtain⟨v,h⟩:=hJ;obtain⟨e,he,PC⟩:=lJ;obtain⟨t',ak7,ht1,T6⟩:=hk e he;obtain rfl:=wT (PC.symm.trans ak7);have hzr:=ae h.r;refine ru (ps:=[7]) (vs:=[kv t]) uc h.r G Tg (aH ?_);refine pT (A:=RT.fd) (M:=λk=>k=D+1) kF G G G G G (DO ht1 T6) bS (λk hk=>by have hk:k=D+1:=hk;omega) (λu2 w2 dY s2 z2=>?_);replace s2:=s2.all
  skip
  refine ad (⟨G,s2.aF h.r,?_⟩);have h4:=(h.step s2 (λ_ _ h=>h.elim)).qf (st':=rec .busy none);have s3':Step (λk=>k=D+1) w2 (λk=>k=D+1) (w2.putObj (D+1) (.loop (rec .busy none))) (λk=>k=D+1):=gy rfl;have s3:=s3'.all;have xM:=dY.le Tg s3'.le;clear s3';generalize w2.putObj (D+1) _=w4 at h4 s3 xM ⊢;refine aX (aH (aR j0 G G G h4.c G ?_));refine bN (A:=RT.fd) br G kF Tg G G G xM bS (λv3 uE=>?_);obtain rfl:=kQ uE;refine fz (A:=RT.fd) (hn:=by decide) (M:=rN v) j0 kF Tg G G (λb hb=>(h4.o.base b hb).2) (DO ht1 T6) (.inl G) (λu5 w5 lP s5=>?_);refine dJ (M:=rN v) (base:=w0.heap.size) j0 kF rfl rfl rfl rfl (h4.o.bP s5) lP bS a11 a11 (dz h4.S.size s5.size) (λv6 M6 w6 Ag s6=>?_);have gc:=s6.all.bU (s5.all.aF h4.c) (λhn=>h4.o.fK h4.c Tg hn);refine cv (M:=allM) ajA rfl rfl gc rfl (by obtain⟨_,_,he,_⟩:=Ag.isSlice;rw[he];rfl) trivial (λw7 gc7 s7=>?_);refine ad ?_
  have ak9:∀k,rN v k->¬Ig wr k:=λk hk ⟨_,_,_,_,h9⟩=>by
   obtain⟨cs,hc⟩:=h.o.isCells hk;rw[hc]at h9;cases h9
  have pr:∀k,k<wr.heap.size->k=D+1->¬Ig wr k:=λk _ hk ⟨_,_,_,_,h9⟩=>by subst hk;rw[h.r]at h9;cases h9
  have pc:∀k,k<wr.heap.size->k=bt->¬Ig wr k:=λk _ hk ⟨_,_,_,_,h9⟩=>by subst hk;rw[h.c]at h9;cases h9
  have h7:Aq w0 bt D (rec .busy none) v6 (ts++[t]) w7:=by
   have nb:∀b,v6.ownBlock=some b->b≠bt:=λb hb hn=>by subst hn;exact Ag.fK gc Tg hb
   refine⟨?_,gc7,Ag.Ki DQ s7 nb,?_,?_,h.hb,h.hD⟩
   ·refine((h4.S.aw s5.all).trans s6.all (λk hk hn=>?_)).trans s7 (λk hk hn=>?_)
    ·have:=(h4.o.base k hn).1;omega
    ·have hn:k=bt:=hn;have:=h.hb;omega
   ·exact s7.bU (s6.all.bU (s5.all.aF h4.d) (λhn=>by obtain⟨cs,hc⟩:=h4.o.isCells hn;rw[h4.d]at hc;cases hc)) (λhn=>by have hn:D=bt:=hn;have h1:=h.c;rw[<-hn,h.d]at h1;cases h1)
   ·exact s7.bU (s6.all.bU (s5.all.aF h4.r) (λhn=>by obtain⟨cs,hc⟩:=h4.o.isCells hn;rw[h4.r]at hc;cases hc)) (λhn=>by have hn:D+1=bt:=hn;have h1:=h.c;rw[<-hn,h.r]at h1;cases h1)
  have s8:Step allM w7 allM (w7.putObj (D+1) (.loop (rec .ready none))) (λk=>k=D+1):=gy trivial;exact⟨h7.r,G,⟨v6,h7.qf⟩,λk=>¬Ig wr k,(((((s2.eI a30 (λ_ _=>trivial)).trans s3 pr).aw s5.all).trans s6.all (λk _ hn=>ak9 k hn)).trans s7 pc).trans s8 pr,λ_ h=>h⟩
 ·obtain⟨ts,⟨v,h⟩,mY,lJ⟩:=h3;left;refine ⟨h.r,?_⟩;have h5:=h.qf (st':=rec .exhausted none);generalize w3.putObj (D+1) _=wE at h5 ⊢;refine T.aQ (aR j0 G G G h5.c G (Rg.aZ G G (aJ ?_)));have sE:Step allM wE allM (wE.putObj D (.deferred none)) (λk=>k=D):=gy trivial;have hDD:=h.hD;exact HJ G G h5.d ⟨ts,mY,lJ,h5.o.Ki DQ sE (λb hb hn=>by have hn:b=D:=hn;obtain⟨cs,hc⟩:=h5.o.isCells hb;rw[hn,h5.d]at hc;cases hc),h5.S.trans sE (λk hk hn=>by have hn:k=D:=hn;omega)⟩
theorem DR {bs mb clock:Nat} {es:List MapEntry} (w0:World) (hk:Kh es) (hes:es.length<=100000000) (YN:w0.heap[bs]? =some (.cells #[.map (some mb)] 238 (0,0))) (hW:fY Tryz.prog 24 w0 mb es clock):
  Spec Tryz.prog 185 #[.func (.func 187) #[] [.pointer (some ⟨bs,0,none⟩)].toArray] w0 (λv w=>∃ts:List Fd,ts.Nodup/\(∀t,t∈ts↔∃e∈es,e.key=kv t)/\Own RT.fd 24 (rN v) w w0.heap.size v ts/\Step allM w0 allM w aC):=by
 refine bh (args:=[_]) (fn:=Tryz.f185) Tryz.func185 G (n:=5) Tryz.ntmps185 (T.aQ (Rg.aZ G G (T.aQ (ab G G ?_))));refine aP G G aj1 (FU _ hk hes YN hW) (λr w1 hc=>?_);refine Rg.aZ G G (aJ ?_);exact aK G G hc
def dv (t:Fd):List UInt8:=t.1++[0]++t.2
theorem PD {M:aM} {t:Fd} (w0:World) (hM:Lt M w0) (h1:t.1.length<=1000000) (h2:t.2.length<=1000000):
  Spec Tryz.prog 95 #[kv t] w0 (λv w=>v= .string ⟨(dv t).toArray⟩/\Step M w0 M w aC):=by
 refine bh (args:=[_]) (fn:=Tryz.f95) Tryz.func95 G (n:=9) Tryz.ntmps95 ?_;have S:Step M w0 M w0 aC:=aV;refine T.aQ ?_;refine ef (A:=RT.fd) G G hM (DO q0 q0) G (λu0 w1 dG s0 _=>?_);replace hM:=s0.lt hM;have:=S.size;replace S:=S.aw s0;refine Rg.aZ G G (T.aQ ?_);refine ao (M:=M) (A:=RT.fd) (B:=RT.str) br G G I9 Tg (EF) G G Tg Xf (by repeat (first|exact bQ _ _|refine bA (bR Xf) ?_)) (λzX kG=>?_);refine bB aA G G G G G kG bS (λv1 kg=>?_);obtain rfl:=dS kg;refine Rg.cat (p:=t.1) (q:=[0]) rfl rfl rfl a11 ?_;refine ao (M:=M) (A:=RT.fd) (B:=RT.str) br G G I9 Tg (Lz) G G Tg Xf (by repeat (first|exact bQ _ _|refine bA (bR Xf) ?_)) (λT3 ky=>?_);refine bB aA G G G G G ky bS (λv4 qu=>?_);obtain rfl:=dS qu;refine Rg.cat (p:=t.1++[0]) (q:=t.2) rfl rfl rfl a11 (Rg.aZ rfl rfl (aJ ?_));exact aK G G ⟨G,S⟩
theorem DS (a b:List UInt8) (w:World):Spec Tryz.prog 147 #[.string ⟨a.toArray⟩,.string ⟨b.toArray⟩] w (λv w'=>v= .int .i64 (Lib.compareBytes a b)/\w'=w):=(Any.strings_Compare Tryz.TW ⟨a.toArray⟩ ⟨b.toArray⟩ w).mono λe w' ⟨h1,h2⟩=>⟨_,h1,rfl,h2⟩
section
variable {P:Program} {r:Option Nat} {n:Nat} {L:Sl} {ds:List Deferred} {w:World} {K:Kt} {ops:Array Oper} {rest:List Oper} {d:Nat} {x:Operand} {ty:TypeId} {pos:String} {af:Array Edge}
theorem jH.tE {id:Nat} {l:List Oper} (hm:P.follows .mixedOrders=true) (dP:fq l 0=true) (h:jH P r n l L ds (w.drewN 1) K):T P r n (.region id l.toArray true) L ds w K:=by
 refine ⟨λa ha=>wpIn_region_draw λt=> ?_⟩;simp only[Region.schedule,hm,Bool.true_or,if_true,Region.linearise];obtain⟨J,h1,h2,h3,h4⟩:=h a ha;refine mu (J:=J) dP (λ{D D' a w} hi hD=>h1 D D' a w hi hD) (λ{D a' w' j o rest} hj ho nW hp km hi hk=>h2 _ _ _ _ _ _ _ hj ho nW hp km hi hk) h3 _ t _ a _ (by simp) a96 (λi o h1 h2=>?_) (h1 _ _ _ _ h4 λi _=>?_)
 ·simp[Array.getElem?_replicate]at h2
 ·simp[Array.getElem?_replicate]
theorem T.YO {id:Nat} {l l':List Oper} (π:List Nat) (m:Nat) (fl:List Nat) (c:Nat) (N:aM) (hm:P.follows .mixedOrders=true) (Of:Cd π l=l') (xI:fq l 0=true) (hπ:mB π l.length=true) (we:Nat.blt m l'.length=true) (dP:fq l' 0=true) (rK:k7 l' m=true) (yH:mz l' m fl c=true)
  (h:lO P r n l'.toArray (l'.take m) L ds (w.drewN 1) (λL'=>(∀j o,j∈fl->l'[j]? =some o->cP P N (w.drewN 1) L' o)/\ua P r n l'.toArray N (w.drewN 1) K c (l'.drop m) L' ds (w.drewN 1))):T P r n (.region id l.toArray true) L ds w K:=by
 subst Of;exact jH.tE hm xI (.perm π hπ xI (EY m fl c N we dP rK yH h))
theorem Rg.YP {e:TypeId} {v:Value} (hx:ev L x=some v) (hd:Nat.blt d n=true) (k:Rg P r n ops rest ((d,.pointer (some ⟨w.heap.size,0,none⟩))::L) ds (w.alloc (.cells v.cells e (0,0))) K):
  Rg P r n ops ({dst:=some d,op:= .box e x,type:=ty,pos,after:=af,guard:=none}::rest) L ds w K:=by
 refine .op a05 G G hd _ (w.alloc (.cells v.cells e (0,0))) (λρ hρ=>?_) k;simp only[execOp,hρ x _ hx];simp[Instr.box,newVar,newRow,newObj,Sem.run]
theorem Ii (w:World) (o:Obj):w.alloc o=Go.Sort.grow w #[o]:=by
 unfold World.alloc Go.Sort.grow;congr 1
theorem Ij (w:World) (os:Array Obj) (q:Nat):(Go.Sort.grow w os).drewN q=Go.Sort.grow (w.drewN q) os:=rfl
end
abbrev gC (t:Fd):Obj:= .cells #[.string ⟨t.1.toArray⟩,.string ⟨t.2.toArray⟩] 24 (0,0)
theorem PE {t:Fd} (w0:World) (h1:t.1.length<=1000000) (h2:t.2.length<=1000000):
  Spec Tryz.prog 95 #[kv t] w0 (λv w=>v= .string ⟨(dv t).toArray⟩/\w=w0.alloc (gC t)):=by
 refine bh (args:=[_]) (fn:=Tryz.f95) Tryz.func95 G (n:=9) Tryz.ntmps95 (T.aQ (Rg.YP G G ?_));have gb:=dE w0 (gC t);change Rg _ _ _ _ _ _ _ (w0.alloc (gC t)) _;generalize hw:w0.alloc (gC t)=w1 at gb ⊢;refine Rg.aZ G G (T.aQ (aY (o':=0) br G G I9 Tg rfl rfl (aR aA rfl rfl rfl gb rfl (Rg.cat (p:=t.1) (q:=[0]) rfl rfl rfl a11 (aY (o':=1) br rfl rfl I9 Tg rfl rfl (aR aA rfl rfl rfl gb rfl (Rg.cat (p:=t.1++[0]) (q:=t.2) rfl rfl rfl a11 (Rg.aZ rfl rfl ?_))))))));refine aJ ?_;exact am3
theorem Ui {s t:Fd} (w0:World) (h1:s.1.length<=1000000) (h2:s.2.length<=1000000) (h3:t.1.length<=1000000) (h4:t.2.length<=1000000):
  Spec Tryz.prog 146 #[kv s,kv t] w0 (λv w=>v= .int .i64 (Lib.compareBytes (dv s) (dv t))/\w=((((w0.alloc (gC s)).alloc (gC t)).drewN 1).alloc (gC s)).alloc (gC t)):=by
 refine bh (args:=[_,_]) (fn:=Tryz.f146) Tryz.func146 G (n:=10) Tryz.ntmps146 (T.aQ (Rg.YP G G ?_));change Rg _ _ _ _ _ _ _ (w0.alloc (gC s)) _;refine Rg.YP G G ?_;change Rg _ _ _ _ _ _ _ ((w0.alloc (gC s)).alloc (gC t)) _;have g1:((w0.alloc (gC s)).alloc (gC t)).heap[w0.heap.size]? =some (gC s):=(ei aC _ _).aF (dE w0 _);have g2:=dE (w0.alloc (gC s)) (gC t);have kp:=kn aC (((w0.alloc (gC s)).alloc (gC t)).drewN 1);refine Rg.aZ G G (aL ?_);apply T.YO [0,2,1,3,4,5] 2 [1] 1 aC mixed
 ·simp+decide only[Cd,wx,eV,sG,Br,Bs,nR,eY,j4,List.idxOf_cons,cond_true,cond_false,Nat.reduceBEq,Nat.reduceAdd,beq_self_eq_true];rfl
 ·rfl
 ·rfl
 ·rfl
 ·rfl
 ·rfl
 ·rfl
 have g1':(((w0.alloc (gC s)).alloc (gC t)).drewN 1).heap[w0.heap.size]? =some (gC s):=g1;have g2':(((w0.alloc (gC s)).alloc (gC t)).drewN 1).heap[(w0.alloc (gC s)).heap.size]? =some (gC t):=g2;refine eC (vs:=[.string ⟨s.1.toArray⟩,.string ⟨s.2.toArray⟩]) br G kF G G G g1' (Rg.dh (eC (vs:=[.string ⟨t.1.toArray⟩,.string ⟨t.2.toArray⟩]) br G kF G G G g2' (Rg.dh (fL (⟨jo ⟨gR G Xf a98,trivial⟩,?_⟩)))));replace kp:=kp.tM (ei aC (((w0.alloc (gC s)).alloc (gC t)).drewN 1) (gC s));refine aP G G E95 (PE (t:=s) _ h1 h2) (λr5 w5 hc=>?_);obtain⟨rfl,rfl⟩:=hc;refine(fun(kp:fG _ _ _)=>ad ⟨G,G,λ_=>kp,?_⟩) a02;refine aP G G E95 (PE (t:=t) _ h3 h4) (λr6 w6 hc=>?_);obtain⟨rfl,rfl⟩:=hc;refine ad ⟨G,G,λh=>absurd G h,?_⟩;refine aP G G ajJ (DS _ _ _) (λr7 w7 hc=>?_);obtain⟨rfl,rfl⟩:=hc;refine ad ⟨G,G,λh=>absurd G h,aN G G (ad ⟨G,G,λh=>absurd G h,nT (aJ ?_)⟩)⟩;exact am3
end Go.K
namespace Go.K
open Go.Lib (compareBytes)
theorem oG (a b:UInt8) (x y:List UInt8):compareBytes (a::x) (b::y)=if a.toNat<b.toNat then-1 else if b.toNat<a.toNat then 1 else compareBytes x y:=by
 rw[compareBytes];simp only[UInt8.lt_iff_toNat_lt]
theorem Ah:∀a,compareBytes a a=0
 |[]=>rfl
 |a::x=>by rw[oG,if_neg (jC _),if_neg (jC _)];exact Ah x
theorem qU:∀{a b},compareBytes a b=0->a=b
 |[],[],_=>rfl
 |[],_::_,h=>by simp[compareBytes]at h
 |_::_,[],h=>by simp[compareBytes]at h
 |a::x,b::y,h=>by
  rw[oG]at h
  split at h
  ·omega
  ·split at h
   ·omega
   ·rw[qU h,UInt8.toNat_inj.1 (show a.toNat=b.toNat by omega)]
theorem pB:∀a b,compareBytes a b= -compareBytes b a
 |[],[]=>rfl
 |[],_::_=>rfl
 |_::_,[]=>rfl
 |a::x,b::y=>by
  rw[oG,oG,pB x y]
  split<;>split<;>first|omega|rfl
theorem rC:∀{a b c},compareBytes a b<0->compareBytes b c<0->compareBytes a c<0
 |[],[],_,h,_=>by simp[compareBytes]at h
 |_::_,[],_,h,_=>by simp[compareBytes]at h
 |_,_::_,[],_,h=>by simp[compareBytes]at h
 |[],_::_,_::_,_,_=>by simp[compareBytes]
 |a::x,b::y,c::z,h1,h2=>by
  rw[oG]at h1 h2 ⊢
  split at h1
  ·split at h2
   ·rw[if_pos q0];omega
   ·split at h2
    ·omega
    ·rw[if_pos q0];omega
  ·split at h1
   ·omega
   ·split at h2
    ·rw[if_pos q0];omega
    ·split at h2
     ·omega
     ·rw[if_neg q0,if_neg q0];exact rC h1 h2
theorem Kj {α:Type} (f:α->List UInt8):Go.Sort.SWO (Go.Proofs.ltOf λx y=>compareBytes (f x) (f y)) where
 irrefl x:=by simp[Go.Proofs.ltOf,Ah]
 trans x y z h1 h2:=by
  simp only[Go.Proofs.ltOf,decide_eq_true_eq]at*
  exact rC h1 h2
 ntrans x y z h1 h2:=by
  simp only[Go.Proofs.ltOf,decide_eq_false_iff_not]at*
  intro h3;by_cases e1:compareBytes (f x) (f y)=0
  ·rw[qU e1]at h3;exact h2 h3
  ·by_cases e2:compareBytes (f y) (f z)=0
   ·rw[qU e2]at h1;exact h1 h3
   ·have n1:=pB (f x) (f y);have n2:=pB (f y) (f z);have n3:=pB (f x) (f z);have:compareBytes (f z) (f x)<0:=rC (b:=f y) q0 q0;omega
end Go.K
namespace Go.Proofs
open Go.Shelf
def Tryz.Ik:Go.Shelf.Ren:=⟨fun|6=>186|15=>179|14=>253|28=>237|29=>238|20=>287|21=>288|22=>289|23=>290|24=>291|25=>292|26=>293|27=>294|46=>312|47=>276|48=>277|49=>313|50=>314|57=>322|n=>n,fun|22=>183|24=>24|25=>246|3=>3|39=>262|0=>0|53=>336|55=>205|4=>4|46=>330|45=>329|50=>198|5=>5|9=>9|66=>357|70=>361|76=>390|77=>276|n=>n,fun|n=>n⟩
theorem Tryz.PF:Go.Proofs.SlLaysF0.n6 Tryz.prog Tryz.Ik:={
 mixed:=by kernel_rfl
 f6:=⟨Tryz.f186.name,by decide,Tryz.func186.trans a03⟩
 f14:=⟨Tryz.f253.name,by decide,Tryz.func253.trans a03⟩
 f15:=Tryz.func179.trans a03
 f20:=⟨Tryz.f287.name,by decide,Tryz.func287.trans a03⟩
 f21:=⟨Tryz.f288.name,by decide,Tryz.func288.trans a03⟩
 f22:=⟨Tryz.f289.name,by decide,Tryz.func289.trans a03⟩
 f23:=⟨Tryz.f290.name,by decide,Tryz.func290.trans a03⟩
 f24:=⟨Tryz.f291.name,by decide,Tryz.func291.trans a03⟩
 f25:=⟨Tryz.f292.name,by decide,Tryz.func292.trans a03⟩
 f26:=⟨Tryz.f293.name,by decide,Tryz.func293.trans a03⟩
 f27:=⟨Tryz.f294.name,by decide,Tryz.func294.trans a03⟩
 f28:=Tryz.func237.trans a03
 f29:=Tryz.func238.trans a03
 f46:=⟨Tryz.f312.name,by decide,Tryz.func312.trans a03⟩
 f47:=Tryz.func276.trans a03
 f48:=Tryz.func277.trans a03
 f49:=⟨Tryz.f313.name,by decide,Tryz.func313.trans a03⟩
 f50:=⟨Tryz.f314.name,by decide,Tryz.func314.trans a03⟩
 f57:=⟨Tryz.f322.name,by decide,Tryz.func322.trans a03⟩
 t0:=By
 a0:=Tryz.isAgg0
 z0:=Tryz.sizeOf0
 v0:=Tryz.zeroValue0
 t3:=al
 a3:=Tryz.isAgg3
 z3:=Tryz.sizeOf3
 v3:=Tryz.zeroValue3
 t4:=gQ
 a4:=Tryz.isAgg4
 z4:=Tryz.sizeOf4
 v4:=Tryz.zeroValue4
 t5:=db
 a5:=Tryz.isAgg5
 z5:=Tryz.sizeOf5
 v5:=Tryz.zeroValue5
 t9:=aA
 a9:=Tryz.isAgg9
 z9:=Bz
 v9:=nN
 t22:=j0
 a22:=Tryz.isAgg183
 z22:=Tryz.sizeOf183
 v22:=Tryz.zeroValue183
 t25:=Tryz.underlying246
 a25:=Tryz.isAgg246
 z25:=Tryz.sizeOf246
 v25:=Tryz.zeroValue246
 t39:=Tryz.underlying262
 a39:=Tryz.isAgg262
 z39:=Tryz.sizeOf262
 v39:=Tryz.zeroValue262
 t45:=Tryz.underlying329
 a45:=Tryz.isAgg329
 z45:=Tryz.sizeOf329
 v45:=Tryz.zeroValue329
 t46:=Tryz.underlying330
 a46:=Tryz.isAgg330
 z46:=Tryz.sizeOf330
 v46:=Tryz.zeroValue330
 t50:=Tryz.underlying198
 a50:=Tryz.isAgg198
 z50:=Tryz.sizeOf198
 v50:=Tryz.zeroValue198
 t53:=Tryz.underlying336
 a53:=Tryz.isAgg336
 z53:=Tryz.sizeOf336
 v53:=Tryz.zeroValue336
 t55:=l8
 a55:=Tryz.isAgg205
 z55:=Tryz.sizeOf205
 v55:=Tryz.zeroValue205
 t66:=Tryz.underlying357
 a66:=Tryz.isAgg357
 z66:=Tryz.sizeOf357
 v66:=Tryz.zeroValue357
 t70:=Tryz.underlying361
 a70:=Tryz.isAgg361
 z70:=Tryz.sizeOf361
 v70:=Tryz.zeroValue361
 t76:=Tryz.underlying390
 a76:=Tryz.isAgg390
 z76:=Tryz.sizeOf390
 v76:=Tryz.zeroValue390
 t77:=Tryz.underlying276
 a77:=Tryz.isAgg276
 z77:=Tryz.sizeOf276
 v77:=Tryz.zeroValue276}
end Go.Proofs
namespace Go.K
open Go.Proofs
set_option maxRecDepth 10000
open Go.Proofs Go.Sort
abbrev TK:Type:={t:Fd // (0:UInt8)∉t.1/\t.1.length<=1000000/\t.2.length<=1000000}
instance aqO:Inhabited TK:=⟨⟨([],[]),by simp,by simp,by simp⟩⟩
def BM (x:TK):List Value:=[.string ⟨x.1.1.toArray⟩,.string ⟨x.1.2.toArray⟩]
def Nz (x y:TK):Int:=Lib.compareBytes (dv x.1) (dv y.1)
theorem Ai:∀{a b x y:List UInt8},(0:UInt8)∉a->(0:UInt8)∉b->a++[0]++x=b++[0]++y->a=b/\x=y
 |[],[],_,_,_,_,h=>⟨rfl,by simpa using h⟩
 |[],c::b,_,_,_,hb,h=>by
  simp at h;exact absurd (by rw[<-h.1];exact bO ..) hb
 |c::a,[],_,_,ha,_,h=>by
  simp at h;exact absurd (by rw[h.1];exact bO ..) ha
 |c::a,e::b,x,y,ha,hb,h=>by
  simp only[vW,yV]at h;obtain⟨h1,h2⟩:=Ai (λh=>ha (cu _ h)) (λh=>hb (cu _ h)) h.2;exact⟨by rw[h.1,h1],h2⟩
theorem ala (w:World):(isAgg 24).run Tryz.prog w= .ok true w:=by simp[isAgg,cn,run_underlying br]
theorem adH (w:World):(Go.sizeOf 24).run Tryz.prog w= .ok 2 w:=by
 obtain⟨i,h1,_,h2,_⟩:=kF.get;simp[Go.sizeOf,typeInfo,cn,program,Sem.run,h1,h2]
theorem PG (ng off size:Nat) (w:World):CmpLays Tryz.prog 146 #[] BM 2 Nz ng off size w:=λm os dk hs x y=>
 (show Calls Tryz.prog 146 #[kv x.1,kv y.1] (sortWorldK BM 2 w ng off m dk os) (λe w'=>∃v,e= .returned v/\_/\_)from Ui (s:=x.1) (t:=y.1) _ x.2.2.1 x.2.2.2 y.2.2.1 y.2.2.2).mono λe w' ⟨v,h1,h2,h3⟩=>⟨by rw[h1,h2];rfl,1,#[gC x.1,gC y.1,gC x.1,gC y.1],by rw[h3];simp only[Ii,Ij,Go.Sort.grow_grow];rfl⟩
theorem adI (ng off cap:Nat) (d:Array TK) (w:World) (hH:HoldsK BM 2 w ng off d) (hblk:ng<w.heap.size) (lC:d.size<4611686018427387904):
  Spec Tryz.prog 186 #[.slice (some ⟨ng,off,none⟩) d.size cap,.func (.func 146) #[] #[]] w (λv w'=>v= .tuple #[]/\∃n os,w'=sortWorldK BM 2 w ng off n (d.toList.mergeSort λx y=> !(Go.Proofs.ltOf Nz) y x).toArray os):=by
 exact(Go.Proofs.AnyQ.slices_SortFunc_total Tryz.PF 2 ala adH BM (λ_=>rfl) (λx v hv=>by simp[BM]at hv;rcases hv with rfl|rfl<;>rfl) Nz (Kj _) 146 #[] ng off cap d w ajI (PG ng off d.size w) hH hblk lC (λx y h1 h2=>by
  have h0:Nz x y=0:=by
   have:=pB (dv x.1) (dv y.1);simp only[Go.Proofs.ltOf,decide_eq_false_iff_not]at h1 h2;unfold Nz at h1 h2 ⊢;omega
  have h3:=qU h0;obtain⟨h4,h5⟩:=Ai x.2.1 y.2.1 h3;exact Subtype.ext (Prod.ext h4 h5))).mono λe w' ⟨h1,h2⟩=>⟨_,h1,G,h2⟩
end Go.K
namespace Go.K
set_option linter.unusedSectionVars false
open Go.Sort Go.Proofs
section
variable {α:Type} [Inhabited α] {enc:α->List Value} {k:Nat}
theorem xT (hk:∀x,(enc x).length=k) (h0:0<k):∀(l:List α) (t:Nat),(l.flatMap enc)[t]? =(l[t/k]?).bind λx=>(enc x)[t%k]?
 |[],t=>by simp
 |x::l,t=>by
  rw[sH];rcases cH t k with h|h
  ·rw[oP (by rw[hk];exact h),Nat.div_eq_of_lt h,Nat.mod_eq_of_lt h];rfl
  ·rw[jN (by rw[hk];exact h),hk,xT hk h0 l];have e1:t/k=(t-k)/k+1:=by rw[Nat.div_eq t k,if_pos ⟨h0,h⟩]
   have e2:(t-k)%k=t%k:=by rw[Nat.mod_eq t k,if_pos ⟨h0,h⟩]
   rw[e1,e2,List.getElem?_cons_succ]
theorem qV (hk:∀x,(enc x).length=k):∀l:List α,(l.flatMap enc).length=l.length*k
 |[]=>by simp
 |x::l=>by rw[sH,bM,hk,qV hk l,cJ,Nat.add_mul];omega
theorem Aj (hk:∀x,(enc x).length=k) (h0:0<k) (d:Array α) {t:Nat} (ht:t<d.size*k):(d.toList.flatMap enc)[t]? =some (flatK enc k d)[t]! :=by
 have h1:t/k<d.size:=Nat.div_lt_of_lt_mul (by rw[Nat.mul_comm];exact ht);have h2:t%k<k:=Nat.mod_lt _ h0;rw[xT hk h0,get_flatK _ _ _ _ ht];have e:d.toList[t/k]? =some d[t/k]! :=by simp[h1]
 rw[e];simp[hk,h2]
theorem LW {w:World} {g:Nat} {cur:Array Value} {e:TypeId} {d:Array α} (hk:∀x,(enc x).length=k) (h0:0<k) (hg:w.heap[g]? =some (.cells cur e (0,0))) (hC:cur.toList.take (d.size*k)=d.toList.flatMap enc):HoldsK enc k w g 0 d:=λj hj=>by
 rw[size_flatK]at hj;have h1:=Aj hk h0 d hj;rw[<-hC,dm,if_pos hj,Array.getElem?_toList]at h1;constructor
 ·simp[World.cell?,hg,h1]
 ·simp[World.frozen?,hg]
theorem BN {w:World} {g n:Nat} {cur:Array Value} {e:TypeId} {d:Array α} {os:Array Obj} (hg:w.heap[g]? =some (.cells cur e (0,0))):(sortWorldK enc k w g 0 n d os).heap[g]? =some (.cells (putCells id 0 (flatK enc k d) cur) e (0,0)):=by
 have eZ:g<w.heap.size:=ae hg
 have h1:(w.heap.modify g (onCells (putCells id 0 (flatK enc k d))))[g]? =some (.cells (putCells id 0 (flatK enc k d) cur) e (0,0)):=by
  rw[vS,if_pos rfl,hg];rfl
 show((w.heap.modify g (onCells (putCells id 0 (flatK enc k d))))++os)[g]? =_;rw[Array.getElem?_append_left (by simpa using eZ)];exact h1
theorem yA {w:World} {g n:Nat} {d:Array α} {os:Array Obj}:Step allM w allM (sortWorldK enc k w g 0 n d os) (λb=>b=g):=
 ⟨λh=>absurd (h w.heap.size trivial) (jC _),rfl,rfl,rfl,by show _<=((w.heap.modify g _)++os).size;simp,λ_ _=>Iff.rfl,λb hb hn=>by
  have hn: ¬b=g:=hn;show((w.heap.modify g (onCells (putCells id 0 (flatK enc k d))))++os)[b]? =_;rw[Array.getElem?_append_left (by simpa using hb),vS,if_neg (λh=>hn h.symm)],λ_ _=>trivial⟩
theorem BO {F cur:Array Value} (h:F.size<=cur.size):(putCells id 0 F cur).toList.take F.size=F.toList:=by
 apply ja;intro j;rw[dm];by_cases hj:j<F.size
 ·rw[if_pos hj];simp[putCells,hj,Nat.lt_of_lt_of_le hj h]
 ·rw[if_neg hj,cM a97]
theorem DT (hk:∀x,(enc x).length=k) (h0:0<k) (d:Array α):(flatK enc k d).toList=d.toList.flatMap enc:=by
 apply ja;intro j;by_cases hj:j<d.size*k
 ·rw[Aj hk h0 d hj];have:j<(flatK enc k d).size:=by rw[size_flatK];exact hj
  rw[Array.getElem?_toList,getElem!_pos _ j this];exact Array.getElem?_eq_getElem this
 ·rw[cM (by rw[Array.length_toList,size_flatK];omega),cM (by rw[qV hk,Array.length_toList];omega)]
end
end Go.K
namespace Go.K
open Go.Proofs
set_option maxRecDepth 10000
open Go.Proofs Go.Sort
theorem Kl:∀{ts:List Fd} {C:List Value} {M:aM} {w:World},fN RT.fd M w ts C->C=ts.flatMap λt=>[.string ⟨t.1.toArray⟩,.string ⟨t.2.toArray⟩]
 |[],C,_,_,h=>h
 |t::ts,C,_,_,⟨vs,r,h1,h2,h3⟩=>by
  obtain⟨va,vb,rfl,h4,h5⟩:=h2;rw[h1,Kl h3,h4.1,h5.1];rfl
theorem FV {M:aM} {w:World}:∀{ts:List Fd},(∀t∈ts,t.1.length<=1000000/\t.2.length<=1000000)->fN RT.fd M w ts (ts.flatMap λt=>[.string ⟨t.1.toArray⟩,.string ⟨t.2.toArray⟩])
 |[],_=>rfl
 |t::ts,h=>by
  obtain⟨h1,h2⟩:=h t (bO ..);exact⟨_,_,rfl,⟨_,_,rfl,⟨rfl,by omega⟩,⟨rfl,by omega⟩⟩,FV λu hu=>h u (cu _ hu)⟩
def PH (us:List Fd):Prop:=us.Pairwise λa b=>¬Lib.compareBytes (dv b) (dv a)<0
theorem BP {base:Nat} {v:Value} {ts:List Fd} (w0:World) (ho:Own RT.fd 24 (rN v) w0 base v ts) (hT:∀t∈ts,(0:UInt8)∉t.1/\t.1.length<=1000000/\t.2.length<=1000000) (hl:ts.length<=100000000):
  Spec Tryz.prog 186 #[v,.func (.func 146) #[] #[]] w0 (λr w=>r= .tuple #[]/\∃us:List Fd,us.Perm ts/\PH us/\Own RT.fd 24 (rN v) w base v us/\Step allM w0 allM w (rN v)):=by
 obtain⟨⟨C,⟨hC,hr⟩,hA⟩,hm⟩:=ho;rcases hr with⟨rfl,h0⟩|⟨g,cap,cur,rfl,hb,hg,hle,hmx,hcz,Lc⟩
 ·have Oe:ts=[]:=cB.1 h0;subst Oe;exact(AnyF.slices_SortFunc_none Tryz.PF none 0 _ w0).mono λe w' ⟨h1,h2⟩=>⟨_,h1,rfl,[],.refl _,List.Pairwise.nil,eL _ _ _ _ _,by rw[h2];exact(Step.refl allM w0).eI a30 (λ_ _=>trivial)⟩
 ·obtain⟨d,hd⟩:∃d:Array TK,d.toList.map (·.1)=ts:=⟨(ts.attach.map λx=>(⟨x.1,hT x.1 x.2⟩:TK)).toArray,by rw[List.toList_toArray,List.map_map];exact List.attach_map_subtype_val ts⟩;have lC:d.size=ts.length:=by rw[<-hd];simp
  have hk:∀x:TK,(BM x).length=2:=λ_=>rfl
  have YQ:∀l:List TK,(l.map (·.1)).flatMap (λt:Fd=>[Value.string ⟨t.1.toArray⟩,.string ⟨t.2.toArray⟩])=l.flatMap BM:=λl=>by rw[List.flatMap_map];rfl
  have hH:HoldsK BM 2 w0 g 0 d:=LW hk q0 hg (by
   have e2:RT.fd.n=2:=rfl;rw[e2]at Lc;rw[lC,Lc,Kl hA,<-hd,YQ])
  have hs:=adI g 0 cap d w0 hH (ae hg) q0;rw[lC]at hs;refine hs.mono λr w' ⟨h1,n,os,h2⟩=>⟨h1,(d.toList.mergeSort λx y=> !(ltOf Nz) y x).map (·.1),?_,?_,?_,?_⟩
  ·rw[<-hd];exact(List.mergeSort_perm _ _).map _
  ·refine eo.2 ((List.pairwise_mergeSort (λa b c h1 h2=>?_) (λa b=>?_) _).imp λh=>?_)
   ·simp only[ltOf,sJ,decide_eq_false_iff_not]at*
    have:=(Kj λx:TK=>dv x.1).ntrans c b a (by simpa[ltOf,Nz]using h2) (by simpa[ltOf,Nz]using h1);simpa[ltOf,Nz]using this
   ·simp only[ltOf,yU,sJ,decide_eq_false_iff_not];have:=pB (dv a.1) (dv b.1);unfold Nz;omega
   ·rw[sJ]at h;exact of_decide_eq_false h
  ·have hp:=List.mergeSort_perm d.toList λx y=> !(ltOf Nz) y x
   rw[h2];generalize (d.toList.mergeSort λx y=> !(ltOf Nz) y x)=us at hp;have hul:(us.map (·.1)).length=ts.length:=by rw[bW,hp.length_eq,Array.length_toList,lC]
   have Ew:us.toArray.size*2=ts.length*2:=by rw[<-hul];simp
   have e2:RT.fd.n=2:=rfl;refine⟨⟨(us.map (·.1)).flatMap (λt:Fd=>[Value.string ⟨t.1.toArray⟩,.string ⟨t.2.toArray⟩]),⟨?_,.inr ⟨g,cap,_,by rw[hul],hb,BN hg,by rw[hul];exact hle,hmx,by rw[<-hcz];simp[putCells],?_⟩⟩,FV λt ht=>?_⟩,hm⟩
   ·rw[YQ,qV hk,bW,e2]
   ·rw[YQ,hul,e2,<-Ew,<-size_flatK BM,BO (by rw[size_flatK,Ew,hcz,e2];omega),DT hk q0]
   ·obtain⟨x,_,rfl⟩:=cA.1 ht;exact x.2.2
  ·rw[h2];exact yA.eI (λb hb=>by have hb:b=g:=hb;subst hb;rfl) (λ_ _=>trivial)
end Go.K
namespace Go.K
open Go.Proofs
set_option maxRecDepth 10000
theorem FX {bs mb clock:Nat} {es:List MapEntry} (w0:World) (hk:Kh es) (hT:∀e∈es,∀t,e.key=kv t->(0:UInt8)∉t.1/\t.1.length<=1000000/\t.2.length<=1000000) (hes:es.length<=100000000) (hlen:∀ts:List Fd,ts.Nodup->(∀t∈ts,∃e∈es,e.key=kv t)->ts.length<=100000000) (YN:w0.heap[bs]? =some (.cells #[.map (some mb)] 238 (0,0))) (hW:fY Tryz.prog 24 w0 mb es clock):
  Spec Tryz.prog 144 #[.func (.func 187) #[] [.pointer (some ⟨bs,0,none⟩)].toArray,.func (.func 146) #[] #[]] w0 (λv w=>∃us:List Fd,us.Nodup/\(∀t,t∈us↔∃e∈es,e.key=kv t)/\PH us/\Own RT.fd 24 (rN v) w w0.heap.size v us/\Step allM w0 allM w aC):=by
 refine bh (args:=[_,_]) (fn:=Tryz.f144) Tryz.func144 G (n:=12) Tryz.ntmps144 (T.aQ (Rg.aZ G G (T.aQ (ab G G ?_))));refine aP G G ajQ (DR _ hk hes YN hW) (λv1 w1 hc=>?_);obtain⟨ts,mY,lJ,ho,s1⟩:=hc;refine Rg.aZ G G (T.aQ (ab G G (ab G G ?_)));refine aP rfl rfl ajR (BP _ ho (λt ht=>by obtain⟨e,he,PC⟩:=(lJ t).1 ht;exact hT e he t PC) (hlen ts mY λt ht=>(lJ t).1 ht)) (λr2 w2 hc=>?_);obtain⟨rfl,us,hp,Tq,hou,s2⟩:=hc;refine ad (T.aQ (ab G G (Rg.aZ G G (aJ ?_))));exact aK G G ⟨us,hp.nodup_iff.2 mY,λt=>hp.mem_iff.trans (lJ t),Tq,hou,s1.trans s2 (λk hk hn=>by have:=(ho.base k hn).1;omega)⟩
theorem Il {mb:Nat} (w0:World):
  Spec Tryz.prog 145 #[.map (some mb)] w0 (λv w=>∃bs,v= .func (.func 187) #[] [.pointer (some ⟨bs,0,none⟩)].toArray/\w.heap[bs]? =some (.cells #[.map (some mb)] 238 (0,0))/\w0.heap.size<=bs/\Step allM w0 allM w aC):=by
 refine bh (args:=[_]) (fn:=Tryz.f145) Tryz.func145 G (n:=4) Tryz.ntmps145 (T.aQ ?_);refine nS allM G G (λbs w1 wK EL gs s1=>?_);change w1.heap[bs]? =some (.cells #[.map (some mb)] 238 (0,0))at gs;replace s1:=s1.all;refine Rg.aZ G G (T.aQ (iS (xs:=[]) (ys:=[.tmp 1]) G G G (Rg.aZ G G (aJ ?_))));exact aK G G ⟨bs,G,gs,wK,s1⟩
def posOf (ts:List (Fd×Nat)) (t:Fd):List Int:=(ts.filter λp=>decide (p.1=t)).map λp=>(p.2:Int)
def seen (ts:List (Fd×Nat)):List Fd:=ts.foldl (λl p=>if p.1∈l then l else l++[p.1]) []
theorem LX (ts:List (Fd×Nat)) (t:Fd) (i:Nat):seen (ts++[(t,i)])=if t∈seen ts then seen ts else seen ts++[t]:=by unfold seen;rw[jb];rfl
theorem Ak (ts:List (Fd×Nat)) (t t':Fd) (i:Nat):posOf (ts++[(t,i)]) t'=if t=t' then posOf ts t'++[(i:Int)]else posOf ts t':=by
 unfold posOf;rw[eE];by_cases h:t=t'<;>simp[h]
theorem wU (ts:List (Fd×Nat)) (t:Fd):(posOf ts t).length<=ts.length:=by
 unfold posOf;rw[bW];exact eu _ _
abbrev kS:Value:= .slice none 0 0
structure LY (M:aM) (w:World) (B:Nat) (ts:List (Fd×Nat)) (es:List MapEntry):Prop where
 o:∀t v,eT kS es (kv t) v->Own (RT.int .i64) 3 M w B v (posOf ts t)
 a:∀t t' v v',t≠t'→eT kS es (kv t) v->eT kS es (kv t') v'→kE v v'
 k:es.map (·.key)=(seen ts).map kv
theorem LY.bP {M M':aM} {w w':World} {B:Nat} {ts:List (Fd×Nat)} {es:List MapEntry} (h:LY M w B ts es) (s:Step M w M' w' aC):LY M' w' B ts es:=⟨λt v hv=>(h.o t v hv).bP s,h.a,h.k⟩
def IJ (bt mb B:Nat) (ts:List (Fd×Nat)) (M:aM) (w:World):Prop:=w.heap[bt]? =some (.cells #[.map (some mb)] 238 (0,0))/\M bt/\M mb/\B<=bt/\B<=mb/\∃es clock,fY Tryz.prog 24 w mb es clock/\LY M w B ts es
theorem Own.kT {α:Type} {A:RT α} {e:TypeId} {M:aM} {w:World} {base b c:Nat} {a:Array MapEntry} {v:Value} {xs:List α} (h:Own A e M w base v xs) (hb:w.heap[b]? =some (.map a c)):v.ownBlock≠some b:=λhv=>by
 obtain⟨⟨C,h1,_⟩,_⟩:=h;rcases h1.2 with⟨h2,_⟩|⟨g,cap,cur,h2,_,h3,_⟩
 ·rw[h2]at hv;cases hv
 ·rw[h2]at hv;cases hv;rw[h3]at hb;cases hb
theorem uG {ts:List (Fd×Nat)} {es:List MapEntry} {t:Fd} (hk:es.map (·.key)=(seen ts).map kv):(∃e∈es,e.key=kv t)↔t∈seen ts:=by
 constructor
 ·rintro⟨e,he,h⟩;have:kv t∈(seen ts).map kv:=by rw[<-hk,<-h];exact fX he
  obtain⟨t',h1,h2⟩:=cA.1 this;rw[<-wT h2];exact h1
 ·intro h;have:kv t∈es.map (·.key):=by rw[hk];exact fX h
  obtain⟨e,h1,h2⟩:=cA.1 this;exact⟨e,h1,h2⟩
theorem LZ {M:aM} {bt mb B:Nat} {ts:List (Fd×Nat)} {t:Fd} {i:Nat} (w0:World) (hM:Lt M w0) (h1:t.1.length<=900000) (h2:t.2.length<=140737488355328) (hi:i<=1000000) (Oe:ts.length<=10000000) (hJ:IJ bt mb B ts M w0):
  Spec Tryz.prog 143 #[kv t,.int .i64 (i:Int),.pointer (some ⟨bt,0,none⟩)] w0 (λv w=>∃M',Lt M' w/\IJ bt mb B (ts++[(t,i)]) M' w/\Step M w0 M' w (lS M B)):=by
 obtain⟨gb,eK,fH,hB,Km,es,clock,hW,hI⟩:=hJ;refine bh (args:=[_,_,_]) (fn:=Tryz.f143) Tryz.func143 G (n:=13) Tryz.ntmps143 ?_;have S:Step M w0 M w0 (lS M B):=(aV).eI a30 (λ_ h=>h.2);refine T.aQ ?_;refine ef (A:=RT.fd) G G hM (DO q0 h2) G (λu0 w1 dG s0 _=>?_);have:=ae gb;replace eK:=(s0.mem _ this).2 eK;replace gb:=s0.aF gb;replace fH:=(s0.mem _ (ae hW.at_)).2 fH;replace hW:=hW.bP s0;replace hI:=hI.bP s0;replace hM:=s0.lt hM;have:=S.size;replace S:=S.aw s0;refine ad (aH (aR l7 G G G Xf G ?_));refine bN (A:=RT.fd) br G kF Tg G G G dG bS (λv1 kg=>?_);obtain rfl:=kQ kg;refine ab G G ?_;refine fz (A:=RT.int .i64) (hn:=by decide) (M:=M) az I3 Tg G G hM (hU q0) (.inr ⟨G,G⟩) (λT3 LJ ky s1_3=>?_);have:=ae gb;replace eK:=(s1_3.mem _ this).2 eK;replace gb:=s1_3.aF gb;replace dG:=dG.le Tg s1_3.le;replace fH:=(s1_3.mem _ (ae hW.at_)).2 fH;replace hW:=hW.bP s1_3;replace hI:=hI.bP s1_3;replace hM:=s1_3.lt hM;have:=S.size;replace S:=S.aw s1_3;obtain⟨kl,zg⟩:=Py t q0 h2;refine Rg.mapEntry (M:=M) (zv:=kS) l7 Cs qc G G G zg hW fH (λw4 es4 cl4 v s hW4 hv lJ BQ EX s4=>?_);have hmo:∀t v,eT kS es (kv t) v->v.ownBlock≠some mb:=λt v h=>(hI.o t v h).kT hW.at_
 have Wh:bt≠mb:=λe=>by subst e;have:=hW.at_;rw[gb]at this;cases this
 replace hI:LY M w4 B ts es:=⟨λt v hv=>(hI.o t v hv).step s4 (λb hb hk=>hmo t v hv (by have hk:b=mb:=hk;rw[<-hk];exact hb)),hI.a,hI.k⟩;have adL:=(s4.mem _ (ae hW.at_)).2 fH;replace eK:=(s4.mem _ (ae gb)).2 eK;replace gb:=s4.bU gb Wh;replace ky:=ky.le s4.le;replace hM:=s4.lt hM;have hmM:∀b,b<w0.heap.size->M b->M b:=λb hb h=>(S.mem b hb).1 h
 have hz0:=S.size;replace S:=S.trans s4 (λk hk h=>by have h:k=mb:=h;subst h;exact⟨Km,hmM k hk fH⟩);have sm:=hI.o t v hv;have yI:=wU ts t;refine cI G G G ?_;refine Rg.nk (M:=M) (base:=B) az I3 rfl rfl rfl rfl sm ky bS a11 a11 (by have:=ae gb;omega) (λv6 w6 Ag s6 hF=>?_);have hblk:∀b,ng v b->B<=b/\M b:=λb h=>⟨(sm.base b h).1,sm.mut_ b h⟩
 have Uj:∀t' v',t'≠t->eT kS es (kv t') v'→kE v' v:=λt' v' fw rV=>hI.a t' t v' v fw rV hv
 have Uk:∀t' v',t'≠t->eT kS es (kv t') v'→Own (RT.int .i64) 3 (mh M v6) w6 B v' (posOf ts t'):=λt' v' fw rV=>(hI.o t' v' rV).step s6 (λb hb hk=>Uj t' v' fw rV b hb hk)
 have lC:∀t' v',eT kS es (kv t') v'→∀b,v'.ownBlock=some b->b<w4.heap.size:=λt' v' rV b hb=>((hI.o t' v' rV).base b hb).2
 have PI:∀t' v',t'≠t->eT kS es (kv t') v'→kE v6 v':=λt' v' fw rV=>(Uj t' v' fw rV).symm.grown hF (lC t' v' rV)
 have alb:v.ownBlock≠some mb:=sm.kT hW4.at_;have PJ:=(s6.mem _ (ae hW4.at_)).2 adL;replace hW4:=hW4.step s6 alb;replace eK:=(s6.mem _ (ae gb)).2 eK;replace gb:=s6.bU gb (λh=>sm.fK gb Tg h);replace hM:=s6.lt hM;have alc:∀b,b<w0.heap.size->M b->M b:=λb hb h=>(S.mem b hb).1 h
 replace S:=S.trans s6 (λk hk h=>⟨(hblk k h).1,alc k hk (hblk k h).2⟩);refine cI G G G ?_;have adN:=hW4.at_;refine Rg.entryStore G G G hW4 PJ lJ (λw8 es8 hW8 pX adO s8=>?_);have hm8:v6.ownBlock≠some mb:=Ag.kT adN;replace Ag:=Ag.step s8 (λb hb hk=>hm8 (by have hk:b=mb:=hk;rw[<-hk];exact hb));have adP:∀t' v',t'≠t->eT kS es (kv t') v'→Own (RT.int .i64) 3 _ w8 B v' (posOf ts t'):=λt' v' fw rV=>(Uk t' v' fw rV).step s8 (λb hb hk=>hmo t' v' rV (by have hk:b=mb:=hk;rw[<-hk];exact hb))
 have adQ:=(s8.mem _ (ae adN)).2 PJ;refine ad ?_
 first|refine iH.nil ?_|simp+decide only[Db,qz,if_true,if_false]|skip
 replace eK:=(s8.mem _ (ae gb)).2 eK;replace gb:=s8.bU gb Wh;replace hM:=s8.lt hM;replace S:=S.trans s8 (λk hk h=>by have h:k=mb:=h;subst h;exact⟨Km,(S.mem k hk).1 PJ⟩)
 have sq:∀t1 v1,eT kS es8 (kv t1) v1->(t1=t/\v1=v6)\/(t1≠t/\eT kS es (kv t1) v1):=λt1 v1 kg=>by
  rcases(adO kS (kv t1) v1).1 kg with⟨h3,h4⟩|⟨h3,h4⟩
  ·exact .inl ⟨wT h3,h4⟩
  ·exact .inr ⟨λe=>h3 ak0,(BQ (kv t1) v1).1 h4⟩
 refine kr G ⟨_,hM,⟨gb,eK,adQ,hB,Km,es8,_,hW8,⟨λt1 v1 kg=>?_,λt1 t2 v1 v2 fw kg yL=>?_,?_⟩⟩,S⟩
 ·rcases sq t1 v1 kg with⟨rfl,rfl⟩|⟨h3,h4⟩
  ·rw[Ak,if_pos rfl];exact Ag
  ·rw[Ak,if_neg (λe=>h3 e.symm)];exact adP t1 v1 h3 h4
 ·rcases sq t1 v1 kg with⟨rfl,rfl⟩|⟨h3,h4⟩
  ·rcases sq t2 v2 yL with⟨rfl,_⟩|⟨h5,h6⟩
   ·exact absurd G fw
   ·exact PI t2 v2 h5 h6
  ·rcases sq t2 v2 yL with⟨rfl,rfl⟩|⟨h5,h6⟩
   ·exact(PI t1 v1 h3 h4).symm
   ·exact hI.a t1 t2 v1 v2 fw h4 h6
 ·rw[pX,LX];rcases EX with⟨h3,h4⟩|⟨h3,h4⟩
  ·rw[h3,hI.k,if_pos ((uG hI.k).1 h4)]
  ·rw[h3,hI.k,if_neg (λh=>by obtain⟨e,he,hk⟩:=(uG hI.k).2 h;exact h4 e he hk)];simp[kv]
end Go.K
namespace Go.K
open Go.Maps (Keyed)
open Go.Lib (compareBytes)
theorem FY:∀a b:List UInt8,Op.bytesLess a b=decide (compareBytes a b<0)
 |[],[]=>by simp[Op.bytesLess,compareBytes]
 |_::_,[]=>by simp[Op.bytesLess,compareBytes]
 |[],_::_=>by simp[Op.bytesLess,compareBytes]
 |a::x,b::y=>by
  rw[Op.bytesLess,FY x y,oG];by_cases h1:a.toNat<b.toNat
  ·simp[UInt8.lt_iff_toNat_lt,h1]
  ·by_cases h2:b.toNat<a.toNat
   ·have: ¬a=b:=λe=>by subst e;omega
    simp[UInt8.lt_iff_toNat_lt,h1,h2,this]
   ·have:a=b:=UInt8.toNat_inj.1 q0;simp[UInt8.lt_iff_toNat_lt,h1,h2,this]
theorem qW (a b:List UInt8):compareBytes a b<0↔a<b:=by
 have h:=FY a b;rw[Go.Proofs.bytesLess_eq]at h;exact(decide_eq_decide.1 h).symm
theorem kz (a:List UInt8): ¬a<a:=λh=>by have:=(qW a a).2 h;rw[Ah]at this;omega
theorem oH {a b c:List UInt8} (h:a<b) (h':b<c):a<c:=(qW _ _).1 (rC ((qW _ _).2 h) ((qW _ _).2 h'))
theorem ny (a b:List UInt8):a<b\/a=b\/b<a:=by
 rcases Int.lt_trichotomy (compareBytes a b) 0 with h|h|h
 ·exact .inl ((qW _ _).1 h)
 ·exact .inr (.inl (qU h))
 ·exact .inr (.inr ((qW _ _).1 (by rw[pB];omega)))
theorem kA {a b:List UInt8} (h:a<b): ¬b<a:=λh'=>kz a (oH h h')
theorem Im {a b:List UInt8}:a<=b↔¬b<a:=Iff.rfl
section
variable {P:Program} {r:Option Nat} {n:Nat} {L:Sl} {ds:List Deferred} {w:World} {K:Kt} {ops:Array Oper} {rest:List Oper} {d:Nat} {x y:Operand} {ty:TypeId} {pos:String} {af:Array Edge}
theorem Rg.ale {t t':TypeId} {p q:List UInt8} (hx:ev L x=some (.string ⟨p.toArray⟩)) (hy:ev L y=some (.string ⟨q.toArray⟩)) (hd:Nat.blt d n=true)
  (k:Rg P r n ops rest ((d,.bool (decide (q<p)))::L) ds w K):
  Rg P r n ops ({dst:=some d,op:= .binOp .gtr t x y t',type:=ty,pos,after:=af,guard:=none}::rest) L ds w K:=
 .op a05 rfl rfl hd _ w (λρ h=>by
  have e:(!(decide (p<q)||p==q))=decide (q<p):=by
   rcases ny p q with h|h|h
   ·simp[h,kA h]
   ·subst h;simp[kz]
   ·have: ¬p=q:=λe=>by subst e;exact kz p h
    simp[h,kA h,this]
  simp only[execOp];rw[h x _ hx,h y _ hy];simp only[binOp,Op.stringOp,ko,Go.Proofs.bytesLess_eq,e];simp[eqGuard]) k
theorem Rg.YR {t t':TypeId} {p q:List UInt8} (hx:ev L x=some (.string ⟨p.toArray⟩)) (hy:ev L y=some (.string ⟨q.toArray⟩)) (hd:Nat.blt d n=true)
  (k:Rg P r n ops rest ((d,.bool (decide (¬p<q)))::L) ds w K):
  Rg P r n ops ({dst:=some d,op:= .binOp .geq t x y t',type:=ty,pos,after:=af,guard:=none}::rest) L ds w K:=
 .op a05 rfl rfl hd _ w (λρ h=>by
  have e:(!decide (p<q))=decide (¬p<q):=by by_cases h:p<q<;>simp[h]
  simp only[execOp];rw[h x _ hx,h y _ hy];simp only[binOp,Op.stringOp,ko,Go.Proofs.bytesLess_eq,e];simp[eqGuard]) k
theorem Rg.YS {t t':TypeId} {p q:List UInt8} (hx:ev L x=some (.string ⟨p.toArray⟩)) (hy:ev L y=some (.string ⟨q.toArray⟩)) (hd:Nat.blt d n=true)
  (k:Rg P r n ops rest ((d,.bool (decide (¬q<p)))::L) ds w K):
  Rg P r n ops ({dst:=some d,op:= .binOp .leq t x y t',type:=ty,pos,after:=af,guard:=none}::rest) L ds w K:=
 .op a05 rfl rfl hd _ w (λρ h=>by
  have e:(decide (p<q)||p==q)=decide (¬q<p):=by
   rcases ny p q with h|h|h
   ·simp[h,kA h]
   ·subst h;simp[kz]
   ·have: ¬p=q:=λe=>by subst e;exact kz p h
    simp[h,kA h,this]
  simp only[execOp];rw[h x _ hx,h y _ hy];simp only[binOp,Op.stringOp,ko,Go.Proofs.bytesLess_eq,e];simp[eqGuard]) k
end
abbrev Io (l:List (List UInt8)):Prop:=l.Pairwise (· < ·)
theorem L0 {ss:List (List UInt8)} (h:ss.Nodup):Io (ss.mergeSort λx y=>decide (x<=y)):=by
 have h1:(ss.mergeSort λx y=>decide (x<=y)).Pairwise (λx y=>decide (x<=y)=true):=List.pairwise_mergeSort (λa b c h1 h2=>by
  simp only[decide_eq_true_eq,Im]at h1 h2 ⊢;intro h3;rcases ny a b with h|h|h
  ·exact h2 (oH h3 h)
  ·subst h;exact h2 h3
  ·exact h1 h) (λa b=>by
  simp only[yU,decide_eq_true_eq,Im];rcases ny a b with h|h|h
  ·exact .inl (kA h)
  ·subst h;exact .inl (kz a)
  ·exact .inr (kA h)) ss
 have h2:(ss.mergeSort λx y=>decide (x<=y)).Nodup:=(List.mergeSort_perm ss _).nodup_iff.2 h;refine (h1.and h2).imp ?_;rintro a b ⟨h3,h4⟩;simp only[decide_eq_true_eq,Im]at h3;rcases ny a b with h|h|h
 ·exact h
 ·exact absurd h h4
 ·exact absurd h h3
theorem Io.nodup {l:List (List UInt8)} (h:Io l):l.Nodup:=h.imp λ{a b} h e=>by subst e;exact kz a h
theorem PK {α:Type} {R:α->α->Prop} (hR:∀a b,R a b->R b a->a=b) {l l':List α} (h:l.Pairwise R) (h':l'.Pairwise R) (hn:l.Nodup) (Nu:l'.Nodup) (hm:∀x,x∈l↔x∈l'):l=l':=
 List.Perm.eq_of_pairwise (λa b _ _ h1 h2=>hR a b h1 h2) h h' ((List.perm_ext_iff_of_nodup hn Nu).2 hm)
theorem YT {l l':List (List UInt8)} (h:Io l) (h':Io l') (hm:∀x,x∈l↔x∈l'):l=l':=
 PK (λa b h1 h2=>absurd h2 (kA h1)) h h' h.nodup h'.nodup hm
abbrev sv (k:List UInt8):Value:= .string ⟨k.toArray⟩
theorem DV {a b:List UInt8} (h:sv a=sv b):a=b:=by simpa[sv]using h
def Ip:Value->Option (DU×List MemPlace):=λ_=>some (.nil,[])
theorem fY.alf {P:Program} {kt:TypeId} {M:aM} {w:World} {b:Nat} {es:List MapEntry} {clock:Nat} (hk:P.underlying kt=some .string) (h:fY P kt w b es clock) (hm:M b) (hl:es.length<=maxLen) (ks:List (List UInt8)) (DA:es.map (·.key)=ks.map sv):
  ∃m:List (Lit×DU),acv P kt Ip M w b m/\(strKeys (DataW.map m)).Perm ks/\m.length=ks.length:=by
 have hF:Go.WideElems.Fit P kt Ip es.toArray clock:=by
  refine⟨by simpa using hl,⟨λx hx=>h.lt x ad8,?_,?_⟩,λx hx=>?_⟩
  ·simpa[List.Nodup,eo]using h.born
  ·simpa[List.Nodup,eo]using h.keys
  ·obtain⟨l,hl⟩:=h.ok x ad8;exact⟨(l,.nil),by simp[Go.WideElems.rd,hl,Ip]⟩
 have hp:=Go.WideShapes.sorted_perm (es.toArray.toList.map (Go.WideElems.rg P kt Ip));have hlen:(List.foldr DataW.insert [] (es.toArray.toList.map (Go.WideElems.rg P kt Ip))).length=es.length:=by rw[hp.length_eq];simp
 refine⟨_,⟨hm,es.toArray,clock,h.at_,hF,by rw[hlen];simp,rfl⟩,?_,?_⟩
 ·refine (hp.map λp=>strOf p.1).trans ?_;rw[List.map_map]
  have e:es.toArray.toList.map ((λp=>strOf p.1)∘Go.WideElems.rg (H:=Unit) P kt Ip)=ks:=by
   refine ja λi=>?_
   have hi:=congrArg (·[i]?) DA;simp only[ek]at hi ⊢
   cases he:es[i]? with
   |none=>
    rw[he]at hi
    cases alg:ks[i]? with
    |none=>simp[he]
    |some a=>rw[alg]at hi;cases hi
   |some e=>
    rw[he]at hi;obtain⟨l,hl⟩:=h.ok e (av he);obtain⟨s,hs,h1⟩:=Option.map_eq_some_iff.1 hi.symm;obtain⟨z,hz1,hz2,_⟩:=Maps.keyOf_str hk hl;have:z=s:=DV (hz1.symm.trans (by simpa using h1.symm));subst this;simp[he,hs,Go.WideElems.rg,Go.WideElems.rd,hl,Ip,hz2,strOf]
  rw[e]
 ·rw[hlen];have:=congrArg List.length DA;simpa using this
end Go.K
namespace Go.K
open Go.Lib (compareBytes)
def qX {α:Type} [DecidableEq α] (key:α->List UInt8) (t:α):List α->List α
 |[]=>[t]
 |u::l=>if key t<key u then t::u::l else if u=t then u::l else u::qX key t l
theorem rD {α:Type} [DecidableEq α] {key:α->List UInt8} {t x:α}:∀{l:List α},x∈qX key t l↔x=t\/x∈l
 |[]=>by simp[qX]
 |u::l=>by
  unfold qX
  split
  ·simp
  ·split
   ·rename_i h;subst h;simp
   ·rw[du,rD (l:=l),du];constructor
    ·rintro(h|h|h)
     ·exact .inr (.inl h)
     ·exact .inl h
     ·exact .inr (.inr h)
    ·rintro(h|h|h)
     ·exact .inr (.inl h)
     ·exact .inl h
     ·exact .inr (.inr h)
abbrev DW {α:Type} (key:α->List UInt8) (l:List α):Prop:=l.Pairwise λa b=>key a<key b
theorem FZ {α:Type} [DecidableEq α] {key:α->List UInt8} {t:α}:∀{l:List α},(∀u∈l,key u=key t->u=t)->DW key l->DW key (qX key t l)
 |[],_,_=>by simp[qX]
 |u::l,hi,h=>by
  have h':=jO.1 h;unfold qX
  split
  ·rename_i eZ
   refine jO.2 ⟨λx hx=>?_,h⟩;rcases du.1 hx with rfl|hx
   ·exact eZ
   ·exact oH eZ (h'.1 x hx)
  ·rename_i eZ
   split
   ·exact h
   ·rename_i fw
    have hut:key u<key t:=by
     rcases ny (key u) (key t)with h1|h1|h1
     ·exact h1
     ·exact absurd (hi u (bO ..) h1) fw
     ·exact absurd h1 eZ
    refine jO.2 ⟨λx hx=>?_,FZ (λv hv=>hi v (cu _ hv)) h'.2⟩;rcases rD.1 hx with rfl|hx
    ·exact hut
    ·exact h'.1 x hx
def allBy {α:Type} [DecidableEq α] (key:α->List UInt8) (l:List α):List α:=l.foldl (λa t=>qX key t a) []
theorem uH {α:Type} [DecidableEq α] {key:α->List UInt8} {S:α->Prop} (hS:∀a b,S a->S b->key a=key b->a=b):∀(l a:List α),(∀x∈l,S x)->(∀x∈a,S x)->DW key a->
  DW key (l.foldl (λa t=>qX key t a) a)/\∀x,x∈l.foldl (λa t=>qX key t a) a↔x∈a\/x∈l
 |[],a,_,_,h=>⟨h,λx=>by simp⟩
 |t::l,a,hl,ha,h=>by
  have ht:=hl t (bO ..)
  obtain⟨h1,h2⟩:=uH hS l (qX key t a) (λx hx=>hl x (cu _ hx)) (λx hx=>by
   rcases rD.1 hx with rfl|hx
   ·exact ht
   ·exact ha x hx) (FZ (λu hu e=>hS _ _ (ha u hu) ht e) h)
  refine ⟨h1,λx=> ?_⟩;rw[qq,h2,rD,du];constructor
  ·rintro((h|h)|h)
   ·exact .inr (.inl h)
   ·exact .inl h
   ·exact .inr (.inr h)
  ·rintro(h|h|h)
   ·exact .inl (.inr h)
   ·exact .inl (.inl h)
   ·exact .inr h
theorem DW.nodup {α:Type} {key:α->List UInt8} {l:List α} (h:DW key l):l.Nodup:=h.imp λ{a b} h e=>by subst e;exact kz _ h
abbrev NA (t:Fd):Prop:=(0:UInt8)∉t.1
theorem uI {a b:Fd} (ha:NA a) (hb:NA b) (h:dv a=dv b):a=b:=by
 obtain⟨h1,h2⟩:=Ai ha hb h;exact Prod.ext h1 h2
def dQ (tl:List (Fd×Nat)):List Fd:=allBy dv (tl.map (·.1))
theorem uJ {tl:List (Fd×Nat)} (hz:∀p∈tl,NA p.1):DW dv (dQ tl):=
 (uH (S:=NA) (λ_ _=>uI) _ [] (λx hx=>by obtain⟨p,hp,rfl⟩:=cA.1 hx;exact hz p hp) (λx h=>by cases h) List.Pairwise.nil).1
theorem jc {tl:List (Fd×Nat)} (hz:∀p∈tl,NA p.1) {t:Fd}:t∈dQ tl↔t∈tl.map (·.1):=by
 have:=(uH (S:=NA) (key:=dv) (λ_ _=>uI) (tl.map (·.1)) [] (λx hx=>by obtain⟨p,hp,rfl⟩:=cA.1 hx;exact hz p hp) (λx h=>by cases h) List.Pairwise.nil).2 t;simpa[dQ,allBy]using this
theorem Kn (t:Fd):∀(ts:List (Fd×Nat)) (l:List Fd),t∈ts.foldl (λl p=>if p.1∈l then l else l++[p.1]) l↔t∈l\/t∈ts.map (·.1)
 |[],l=>by simp
 |p::ts,l=>by
  rw[qq,Kn t ts,eV,du]
  split
  ·rename_i h
   constructor
   ·rintro(h1|h1)
    ·exact .inl h1
    ·exact .inr (.inr h1)
   ·rintro(h1|h1|h1)
    ·exact .inl h1
    ·exact .inl (by rw[h1];exact h)
    ·exact .inr h1
  ·rw[dI,dn];constructor
   ·rintro((h1|h1)|h1)
    ·exact .inl h1
    ·exact .inr (.inl h1)
    ·exact .inr (.inr h1)
   ·rintro(h1|h1|h1)
    ·exact .inl (.inl h1)
    ·exact .inl (.inr h1)
    ·exact .inr h1
theorem uK {tl:List (Fd×Nat)} {t:Fd}:t∈seen tl↔t∈tl.map (·.1):=by unfold seen;rw[Kn];simp
theorem F0 {tl:List (Fd×Nat)} {us:List Fd} (hz:∀p∈tl,NA p.1) (mY:us.Nodup) (lJ:∀t,t∈us↔t∈seen tl) (Tq:PH us):us=dQ tl:=by
 have hm:∀t,t∈us↔t∈dQ tl:=λt=>by rw[lJ,uK,jc hz]
 have jt:∀t∈dQ tl,NA t:=λt ht=>by obtain⟨p,hp,rfl⟩:=cA.1 ((jc hz).1 ht);exact hz p hp
 refine List.Perm.eq_of_pairwise (le:=λa b=>¬compareBytes (dv b) (dv a)<0) (λa b ha hb h1 h2=>?_) Tq ((uJ hz).imp λ{a b} h h'=>kA h ((qW _ _).1 h')) ((List.perm_ext_iff_of_nodup mY (uJ hz).nodup).2 hm);rw[qW]at h1 h2;rcases ny (dv a) (dv b)with h|h|h
 ·exact absurd h h2
 ·exact uI (jt a ((hm a).1 ha)) (jt b hb) h
 ·exact absurd h h1
theorem pC (a b:List (Fd×Nat)) (t:Fd):posOf (a++b) t=posOf a t++posOf b t:=by simp[posOf]
theorem PL {tl:List (Fd×Nat)} {t:Fd} (h:t∈tl.map (·.1)):posOf tl t≠[]:=by
 obtain⟨p,hp,rfl⟩:=cA.1 h;intro e;have:p∈tl.filter λq=>decide (q.1=p.1):=gq.2 ⟨hp,by simp⟩
 rw[List.map_eq_nil_iff.1 e]at this;cases this
theorem L3 {tl:List (Fd×Nat)} {t:Fd} (h:t∉tl.map (·.1)):posOf tl t=[]:=by
 unfold posOf;rw[List.filter_eq_nil_iff.2 λp hp=>by simp;intro e;exact h (cA.2 ⟨p,hp,e⟩)];rfl
theorem F1 (x:Fd) (t:Fd):(posOf (gP x) t).Sublist ((List.range' 0 (words x.2).length).map fun(i:Nat)=>(i:Int)):=by
 have e:(gP x).map (λp=>(p.2:Int))=(List.range' 0 (words x.2).length).map fun(i:Nat)=>(i:Int):=by
  rw[<-List.zipIdx_map_snd 0 (words x.2),List.map_map];unfold gP;rw[List.map_map];rfl
 rw[<-e];exact List.filter_sublist.map _
theorem L4 (x:Fd) (t:Fd):(posOf (gP x) t).Pairwise (· < ·)/\∀i∈posOf (gP x) t,0<=i/\i<(words x.2).length:=by
 refine ⟨List.Pairwise.sublist (F1 x t) (eo.2 ((List.pairwise_lt_range' (s:=0) (n:=(words x.2).length)).imp λh=>by omega)),λi hi=> ?_⟩;have:=(F1 x t).subset hi;obtain⟨k,hk,rfl⟩:=cA.1 this;have:=List.mem_range'_1.1 hk;omega
theorem Cv {x:Fd} {p:Fd×Nat} (h:p∈gP x):p.1.1=x.1/\p.1.2∈words x.2:=by
 obtain⟨q,hq,rfl⟩:=cA.1 h;have:=List.mem_zipIdx hq;exact⟨rfl,by simp only;rw[this.2.2];exact List.getElem_mem _⟩
theorem Cw {fs:List Fd} {p:Fd×Nat} (h:p∈cL fs):∃x∈fs,p.1.1=x.1/\p.1.2∈words x.2:=by
 obtain⟨x,hx,hp⟩:=List.mem_flatMap.1 h;exact⟨x,hx,Cv hp⟩
theorem tA {x t:Fd} (h:x.1≠t.1):posOf (gP x) t=[]:=L3 λhm=>by
 obtain⟨p,hp,rfl⟩:=cA.1 hm;exact h (Cv hp).1.symm
theorem wV {t:Fd}:∀{fs:List Fd},(∀x∈fs,x.1≠t.1)->posOf (cL fs) t=[]
 |[],_=>rfl
 |x::fs,h=>by
  show posOf (gP x++cL fs) t=[];rw[pC,tA (h x (bO ..)),wV λy hy=>h y (cu _ hy)];rfl
theorem F2 {t:Fd}:∀{fs:List Fd},(fs.map (·.1)).Nodup->posOf (cL fs) t=[]\/∃x∈fs,posOf (cL fs) t=posOf (gP x) t
 |[],_=> .inl rfl
 |x::fs,h=>by
  have h':=List.nodup_cons.1 h;have e:posOf (cL (x::fs)) t=posOf (gP x) t++posOf (cL fs) t:=by show posOf (gP x++cL fs) t=_;rw[pC]
  by_cases hx:x.1=t.1
  ·refine .inr ⟨x,bO ..,?_⟩;rw[e,wV λy hy e=>h'.1 (by have h9:y.1∈fs.map (·.1):=fX hy;rw[e,<-hx]at h9;exact h9),eX]
  ·rw[e,tA hx,jd];rcases F2 (t:=t) h'.2 with h1|⟨y,hy,h1⟩
   ·exact .inl h1
   ·exact .inr ⟨y,cu _ hy,h1⟩
theorem F3:∀{l:List Int} {last:Int},(∀x∈l,last<x)->l.Pairwise (· < ·)->gm last l=true
 |[],_,_,_=>rfl
 |x::l,last,h1,h2=>by
  have Hs:=jO.1 h2;simp only[gm,cz,decide_eq_true_eq];exact⟨h1 x (bO ..),F3 Hs.1 Hs.2⟩
structure iQ (d:Dc):Prop where
 names:∀f∈d.2,eA f.1=true
 once:(d.2.map (·.1)).Nodup
 toks:∀f∈d.2,mL 0 (words f.2)=0
 many:(cL d.2).length<=500
 few:d.2.length<=8
theorem Cx:∀{fs sn:List Fd} {n:Nat},BK sn fs n=0->(∀f∈fs,eA f.1=true/\mL 0 (words f.2)=0/\∀g∈sn,g.1≠f.1)/\(fs.map (·.1)).Nodup/\n+(cL fs).length<=500
 |[],sn,n,h=>by
  refine ⟨(λf hf=>by cases hf),List.nodup_nil,?_⟩;simp only[BK]at h
  split at h
  ·cases h
  ·simp[cL];omega
 |f::fs,sn,n,h=>by
  simp only[BK]at h
  split at h
  ·cases h
  ·rename_i h1
   split at h
   ·cases h
   ·rename_i h2
    split at h
    ·exact absurd h Xf
    ·rename_i h3
     obtain⟨h4,h5,h6⟩:=Cx h;have h7:∀g∈sn,g.1≠f.1:=λg hg e=>h2 (jG.2 ⟨g,hg,by simp[e]⟩)
     refine⟨λx hx=>?_,List.nodup_cons.2 ⟨λhm=>?_,h5⟩,?_⟩
     ·rcases du.1 hx with rfl|hx
      ·exact⟨by simpa using h1,by simpa using h3,h7⟩
      ·obtain⟨a,b,c⟩:=h4 x hx;exact⟨a,b,λg hg=>c g (kc _ hg)⟩
     ·obtain⟨y,hy,e⟩:=cA.1 hm;exact(h4 y hy).2.2 f (List.mem_append_right _ (dn.2 G)) e.symm
     ·have:(cL (f::fs)).length=(gP f).length+(cL fs).length:=by show(gP f++cL fs).length=_;rw[bM]
      rw[this,oF];omega
theorem Ko {d:Dc} (h:oA d=0):iQ d:=by
 unfold oA at h
 split at h
 ·cases h
 ·obtain⟨h1,h2,h3⟩:=Cx h;exact⟨λf hf=>(h1 f hf).1,h2,λf hf=>(h1 f hf).2.1,by omega,by omega⟩
theorem Cy:∀{ws:List (List UInt8)} {i:Nat},mL i ws=0->∀x∈ws,x.length<=30
 |[],_,_,x,hx=>by cases hx
 |a::ws,i,h,x,hx=>by
  simp only[mL]at h
  split at h
  ·cases h
  ·split at h
   ·cases h
   ·rcases du.1 hx with rfl|hx
    ·omega
    ·exact Cy h x hx
theorem PM {s:List UInt8} (h:eA s=true):(0:UInt8)∉s:=λh0=>by
 simp only[eA,cz,dZ]at h;have:=h.2 0 h0
 revert this;decide
theorem iQ.Kp {d:Dc} (h:iQ d):∀p∈cL d.2,NA p.1:=λp hp=>by
 obtain⟨x,hx,h1,_⟩:=Cw hp;show(0:UInt8)∉p.1.1;rw[h1];exact PM (h.names x hx)
theorem iQ.small {d:Dc} (h:iQ d):∀p∈cL d.2,p.1.1.length<=12/\p.1.2.length<=30:=λp hp=>by
 obtain⟨x,hx,h1,h2⟩:=Cw hp;exact⟨by rw[h1];exact FE (h.names x hx),Cy (h.toks x hx) _ h2⟩
theorem iQ.pos {d:Dc} (h:iQ d) (t:Fd):(posOf (cL d.2) t).Pairwise (· < ·)/\(∀i∈posOf (cL d.2) t,0<=i/\i<500)/\(posOf (cL d.2) t).length<=500:=by
 have hl:=wU (cL d.2) t;have hm:=h.many;rcases F2 (t:=t) h.once with h1|⟨x,hx,h1⟩
 ·rw[h1];exact⟨List.Pairwise.nil,(λi hi=>by cases hi),by simp⟩
 ·obtain⟨h2,h3⟩:=L4 x t
  have xF:(words x.2).length<=500:=by
   have:(gP x).length<=(cL d.2).length:=by
    obtain⟨i,hi⟩:=bK.1 hx;have:=tz hi
    have h5:(cL (d.2.take (i+1))).length<=(cL d.2).length:=by
     have:cL d.2=cL (d.2.take (i+1))++cL (d.2.drop (i+1)):=by unfold cL;rw[<-List.flatMap_append,iw]
     rw[this,bM];omega
    rw[this,bM]at h5;omega
   rw[oF]at this;omega
  rw[h1]at hl ⊢;exact⟨h2,λi hi=>⟨(h3 i hi).1,by have:=(h3 i hi).2;omega⟩,by omega⟩
theorem iQ.gm {d:Dc} (h:iQ d) (t:Fd):o7 (posOf (cL d.2) t)=true:=by
 obtain⟨h1,h2,_⟩:=h.pos t;exact o8.2 ⟨F3 (λx hx=>by have:=(h2 x hx).1;omega) h1,λx hx=>by have:=(h2 x hx).2;omega⟩
abbrev tQ (e:En):List (Fd×Nat):=cL e.1.2
def F4 (i:Nat) (tl:List (Fd×Nat)) (k:List UInt8):List Po:=((dQ tl).filter λt=>decide (dv t=k)).map λt=>((i:Int),posOf tl t)
def Cz (k:List UInt8):Nat->List En->List Po
 |_,[]=>[]
 |i,e::L=>F4 i (tQ e) k++Cz k (i+1) L
def pk (L:List En) (k:List UInt8):List Po:=Cz k 0 L
theorem F5 (k:List UInt8) (e:En):∀(L:List En) (i:Nat),Cz k i (L++[e])=Cz k i L++F4 (i+L.length) (tQ e) k
 |[],i=>by simp[Cz]
 |x::L,i=>by
  simp only[vW,Cz,F5 k e L (i+1),sF,cJ];rw[show i+1+L.length=i+(L.length+1) by omega]
theorem Ul (L:List En) (e:En) (k:List UInt8):pk (L++[e]) k=pk L k++F4 L.length (tQ e) k:=by
 unfold pk;rw[F5];simp
def jM (L:List En):List (List UInt8):=L.flatMap λe=>(dQ (tQ e)).map dv
theorem Iq (L:List En) (e:En):jM (L++[e])=jM L++(dQ (tQ e)).map dv:=by simp[jM]
def keysOf (L:List En):List (List UInt8):=allBy id (jM L)
theorem pD (L:List En):Io (keysOf L):=(uH (key:=id) (S:=λ_=>True) (λa b _ _ h=>h) _ [] (λ_ _=>trivial) (λ_ _=>trivial) List.Pairwise.nil).1
theorem mO {L:List En} {k:List UInt8}:k∈keysOf L↔k∈jM L:=by
 have:=(uH (key:=id) (S:=λ_=>True) (λa b _ _ h=>h) (jM L) [] (λ_ _=>trivial) (λ_ _=>trivial) List.Pairwise.nil).2 k;simpa[keysOf,allBy]using this
theorem filter_one {α:Type} {key:α->List UInt8} {l:List α} (h:DW key l) (k:List UInt8):l.filter (λt=>decide (key t=k))=[]\/∃t∈l,key t=k/\l.filter (λt=>decide (key t=k))=[t]:=by
 have h1:DW key (l.filter λt=>decide (key t=k)):=List.Pairwise.sublist List.filter_sublist h;have h2:∀x∈l.filter (λt=>decide (key t=k)),x∈l/\key x=k:=λx hx=>by simpa using gq.1 hx
 revert h1 h2
 generalize l.filter (λt=>decide (key t=k))=m;intro h1 h2
 match m,h1,h2 with
 |[],_,_=>exact .inl rfl
 |[t],_,h2=>exact .inr ⟨t,(h2 t (bO ..)).1,(h2 t (bO ..)).2,rfl⟩
 |t::u::m,h1,h2=>
  have:=(jO.1 h1).1 u (bO ..);rw[(h2 t (bO ..)).2,(h2 u (by simp)).2]at this;exact absurd this (kz k)
theorem yN {d:Dc} (h:iQ d) (i:Nat) (k:List UInt8):F4 i (cL d.2) k=[]\/∃t∈dQ (cL d.2),dv t=k/\F4 i (cL d.2) k=[((i:Int),posOf (cL d.2) t)]:=by
 rcases filter_one (uJ h.Kp) k with h1|⟨t,ht,hk,h1⟩
 ·exact .inl (by unfold F4;rw[h1];rfl)
 ·exact .inr ⟨t,ht,hk,by unfold F4;rw[h1];rfl⟩
theorem PN {tl:List (Fd×Nat)} {i:Nat} {t:Fd} (h:t∈dQ tl):F4 i tl (dv t)≠[]:=λe=>by
 have:t∈(dQ tl).filter λu=>decide (dv u=dv t):=gq.2 ⟨h,by simp⟩
 rw[List.map_eq_nil_iff.1 e]at this;cases this
theorem yO (k:List UInt8):∀(L:List En) (i:Nat) (last:Int),(∀e∈L,iQ e.1)->last<i->i+L.length<=2147483648->eP last (Cz k i L)=true
 |[],_,_,_,_,_=>rfl
 |e::L,i,last,hF,h1,h2=>by
  have hf:=hF e (bO ..);have hr:=λlast h=>yO k L (i+1) last (λx hx=>hF x (cu _ hx)) h (by simp at h2;omega)
  simp only[Cz];rcases yN hf i k with h3|⟨t,ht,hk,h3⟩
  ·rw[show F4 i (tQ e) k=[]from h3];exact hr last q0
  ·rw[show F4 i (tQ e) k=_ from h3]
   have fw:(posOf (cL e.1.2) t).isEmpty=false:=by
    have:=PL ((jc hf.Kp).1 ht)
    cases h:posOf (cL e.1.2) t with
    |nil=>exact absurd h this
    |cons a b=>rfl
   simp only[vW,jd,eP,fw,hf.gm t,hr i (by omega),l1,Bool.not_false,cz,decide_eq_true_eq];simp at h2;omega
theorem wW (k:List UInt8):∀(L:List En) (i:Nat),(∀e∈L,iQ e.1)->(Cz k i L).length<=L.length/\∀p∈Cz k i L,(i:Int)<=p.1/\p.1<i+L.length/\p.2.length<=500
 |[],_,_=>⟨bz _,λp h=>by cases h⟩
 |e::L,i,hF=>by
  have hf:=hF e (bO ..);obtain⟨h1,h2⟩:=wW k L (i+1) (λx hx=>hF x (cu _ hx));simp only[Cz,cJ];rcases yN hf i k with h3|⟨t,ht,hk,h3⟩
  ·rw[show F4 i (tQ e) k=[]from h3];exact⟨by simpa using Nat.le_succ_of_le h1,λp hp=>by have:=h2 p (by simpa using hp);exact⟨by omega,by omega,this.2.2⟩⟩
  ·rw[show F4 i (tQ e) k=_ from h3];refine ⟨by simp;omega,λp hp=> ?_⟩;rcases du.1 hp with rfl|hp
   ·exact⟨rl _,by simp only;omega,(hf.pos t).2.2⟩
   ·have:=h2 p (by simpa using hp);exact⟨by omega,by omega,this.2.2⟩
theorem wY:∀(l:List Po) (last:Int) (m:Nat),-1<=last->eP last l=true->(∀p∈l,p.2.length<=m)->m<=1000000->(eJ last l).length<=(18+9*m)*l.length/\jx l<=m*l.length
 |[],_,_,_,_,_,_=>⟨by simp[eJ],by simp[jx]⟩
 |(d,ps)::l,last,m,h0,hm,hs,hmm=>by
  simp only[eP,cz,decide_eq_true_eq]at hm;obtain⟨⟨⟨⟨h1,h2⟩,h3⟩,h4⟩,h5⟩:=hm;obtain⟨h6,h7⟩:=o8.1 h4;have sO:=hs _ (bO ..);simp only at sO;obtain⟨i1,i2⟩:=wY l d m q0 h5 (λp hp=>hs p (cu _ hp)) hmm;have a1:=zm ps (-1) q0 (λx hx=>by have:=h7 x hx;omega) h6;have a3:=lp (n:=(d-last-1).toNat) q0;have a4:=lp (n:=ps.length) q0;have e1:9*ps.length<=9*m:=by omega
  constructor
  ·simp only[eJ,fc,bM,cJ,Nat.mul_add,Nat.mul_one];omega
  ·simp only[jx,eV,List.sum_cons,cJ]at i2 ⊢;rw[Int.natCast_add,Int.mul_add];omega
theorem PO {k:List UInt8}:∀{L:List En} (i:Nat),k∈jM L->Cz k i L≠[]
 |[],_,h=>by cases h
 |e::L,i,h=>by
  simp only[Cz];intro hn;obtain⟨h1,h2⟩:=List.append_eq_nil_iff.1 hn;have h:k∈(dQ (tQ e)).map dv++jM L:=h;rcases dI.1 h with h|h
  ·obtain⟨t,ht,rfl⟩:=cA.1 h;exact PN ht h1
  ·exact PO (i+1) h h2
theorem Kq {k:List UInt8}:∀{L:List En} (i:Nat),k∉jM L->Cz k i L=[]
 |[],_,_=>rfl
 |e::L,i,h=>by
  have h:k∉(dQ (tQ e)).map dv++jM L:=h;rw[dI,not_or]at h;simp only[Cz];rw[Kq (i+1) h.2,eX];unfold F4;rw[List.filter_eq_nil_iff.2 λt ht=>by simp;intro e';exact h.1 (cA.2 ⟨t,ht,e'⟩)];rfl
end Go.K
namespace Go.K
def RT.ptr {α:Type} (A:RT α) (hn:0<A.n:=by decide):RT α where
 n:=1
 agg:=false
 R:=λM w x vs=>∃b o us,vs=[.pointer (some ⟨b,o,none⟩)]/\¬M b/\A.R M w x us/\w.rangeAt b o us
 len:=by rintro _ _ x vs ⟨b,o,us,rfl,_⟩;rfl
 one:=by rintro _ _ x vs ⟨b,o,us,rfl,_⟩ v hv;simp at hv;subst hv;rfl
 le:=by
  rintro M w M' w' x vs hl ⟨b,o,us,h1,h2,h3,h4⟩;have hp:0<us.length:=by rw[A.len h3];exact hn
  have hc:=h4 0 (us[0]'hp) (aq hp);exact⟨b,o,us,h1,(hl b (World.block_lt_of_cell? w _ hc) h2).1,A.le hl h3,sM hl h2 h4⟩
theorem Kr {α:Type} {A:RT α} {hn:0<A.n} {M:aM} {w:World} {x:α} {v:Value}:(A.ptr hn).V M w x v↔cO A M w v x:=
 ⟨fun⟨vs,⟨b,o,us,h1,h2,h3,h4⟩,h5⟩=>⟨b,o,us,by subst h1;exact h5,h2,h3,h4⟩,fun⟨b,o,us,h1,h2,h3,h4⟩=>⟨[v],⟨b,o,us,by rw[h1],h2,h3,h4⟩,rfl⟩⟩
abbrev Di:=List (List UInt8)×List Li
abbrev Se:=List Int×List Int×Di
abbrev RT.di:RT Di:=RT.pair (RT.str.sl) (((RT.li).ptr).sl)
abbrev RT.se:RT Se:=RT.pair ((RT.int .i64).sl) (RT.pair ((RT.int .i64).sl) ((RT.di).ptr))
theorem di0:Part RT.di (RT.str.sl) (λp=>p.1) 0:=jE _ _
theorem di1:Part RT.di (((RT.li).ptr).sl) (λp=>p.2) 1:=fy _ _
theorem se0:Part RT.se ((RT.int .i64).sl) (λp=>p.1) 0:=jE _ _
theorem se2:Part RT.se ((RT.di).ptr) (λp=>p.2.2) 2:=(fy ((RT.int .i64).sl) (RT.pair ((RT.int .i64).sl) ((RT.di).ptr))).trans (fy ((RT.int .i64).sl) ((RT.di).ptr))
abbrev Pa:=List Int×List Int×List (List UInt8)×List (List Po)
abbrev RT.pa:RT Pa:=RT.pair ((RT.int .i64).sl) (RT.pair ((RT.int .i64).sl) (RT.pair (RT.str.sl) (((RT.po).sl).sl)))
theorem pa0:Part RT.pa ((RT.int .i64).sl) (λp=>p.1) 0:=jE _ _
theorem pa1:Part RT.pa ((RT.int .i64).sl) (λp=>p.2.1) 1:=(fy ((RT.int .i64).sl) (RT.pair ((RT.int .i64).sl) (RT.pair (RT.str.sl) (((RT.po).sl).sl)))).trans (jE _ _)
theorem pa2:Part RT.pa (RT.str.sl) (λp=>p.2.2.1) 2:=((fy ((RT.int .i64).sl) (RT.pair ((RT.int .i64).sl) (RT.pair (RT.str.sl) (((RT.po).sl).sl)))).trans (fy ((RT.int .i64).sl) (RT.pair (RT.str.sl) (((RT.po).sl).sl)))).trans (jE _ _)
theorem pa3:Part RT.pa (((RT.po).sl).sl) (λp=>p.2.2.2) 3:=((fy ((RT.int .i64).sl) (RT.pair ((RT.int .i64).sl) (RT.pair (RT.str.sl) (((RT.po).sl).sl)))).trans (fy ((RT.int .i64).sl) (RT.pair (RT.str.sl) (((RT.po).sl).sl)))).trans (fy _ _)
theorem alj {M:aM} {w:World} {x:Se} {a b c:Value} (h0:((RT.int .i64).sl).V M w x.1 a) (h1:((RT.int .i64).sl).V M w x.2.1 b) (h2:cO RT.di M w c x.2.2):RT.se.V M w x (.agg [a,b,c].toArray):=
 ⟨[a,b,c],⟨[a],[b,c],rfl,mD h0 rfl rfl,[b],[c],rfl,mD h1 rfl rfl,mD (Kr.2 h2) rfl rfl⟩,rfl⟩
theorem alk {M:aM} {w:World} {x:Pa} {a b c d:Value} (h0:((RT.int .i64).sl).V M w x.1 a) (h1:((RT.int .i64).sl).V M w x.2.1 b) (h2:(RT.str.sl).V M w x.2.2.1 c) (h3:(((RT.po).sl).sl).V M w x.2.2.2 d):RT.pa.V M w x (.agg [a,b,c,d].toArray):=
 ⟨[a,b,c,d],⟨[a],[b,c,d],rfl,mD h0 rfl rfl,[b],[c,d],rfl,mD h1 rfl rfl,[c],[d],rfl,mD h2 rfl rfl,mD h3 rfl rfl⟩,rfl⟩
theorem Ir {α:Type} {A:RT α} (hg:A.agg=true) {M:aM} {w:World} {x:α} {vs:List Value} (h:A.V M w x (.agg vs.toArray)):∀u∈vs,u.oneCell'=true:=by
 obtain⟨us,h1,h2⟩:=h
 have:vs=us:=by
  unfold RT.val at h2;rw[if_pos hg]at h2;injection h2 with h2
  simpa using congrArg Array.toList h2
 subst this;exact A.one h1
theorem fN.free {α:Type} {A:RT α} (hA:∀M w M' w' x vs,A.R M w x vs->A.R M' w' x vs) {M M':aM} {w w':World}:∀{xs:List α} {C:List Value},fN A M w xs C->fN A M' w' xs C
 |[],_,h=>h
 |x::xs,C,h=>by
  obtain⟨vs,r,h1,h2,h3⟩:=h;exact⟨vs,r,h1,hA _ _ _ _ _ _ h2,fN.free hA h3⟩
theorem Own.tell {α:Type} {A:RT α} {hn:0<A.n} (hA:∀M w M' w' x vs,A.R M w x vs->A.R M' w' x vs) {e:TypeId} {M M0:aM} {w:World} {base:Nat} {v:Value} {xs:List α} (h:Own A e M w base v xs) (hb:∀b,v.ownBlock=some b->¬M0 b) (hlen:xs.length<=140737488355328):(A.sl hn).V M0 w xs v:=by
 obtain⟨⟨C,hr,ha⟩,hm⟩:=h;have h':Own A e (λb=>v.ownBlock=some b\/M0 b) w base v xs:=⟨⟨C,hr,fN.free hA ha⟩,λb hb=> .inl hb⟩;exact h'.sl (λb _ hn=>⟨λh=>hn (.inr h),rfl⟩) hb hlen
end Go.K
namespace Go.K
open Go.Maps (Keyed)
section
variable {P:Program} {r:Option Nat} {n:Nat} {L:Sl} {ds:List Deferred} {w:World} {K:Kt} {ops:Array Oper} {rest:List Oper} {d:Nat} {x y z:Operand} {ty:TypeId} {pos:String} {af:Array Edge}
variable {kt:TypeId} {M:aM} {b clock:Nat} {es:List MapEntry}
theorem fY.YU (h:fY P kt w b es clock) {i s:Nat} {key v0 val:Value} (hi:es[i]? =some ⟨key,v0,s⟩) {w':World} (hw:w'.heap[b]? =some (.map (es.set i ⟨key,val,s⟩).toArray clock)):
  fY P kt w' b (es.set i ⟨key,val,s⟩) clock/\(es.set i ⟨key,val,s⟩).map (·.key)=es.map (·.key)/\∀zv jz v',eT zv (es.set i ⟨key,val,s⟩) jz v'↔(jz=key/\v'=val)\/(jz≠key/\eT zv es jz v'):=by
 have rL:=(an.1 hi).1;have lJ:(⟨key,v0,s⟩:MapEntry)∈es:=av hi;obtain⟨pW,wJ⟩:∃pW,pW=es.set i ⟨key,val,s⟩:=⟨_,rfl⟩;rw[<-wJ]at hw ⊢
 have iW:∀j e',pW[j]? =some e'→(j=i/\e'=⟨key,val,s⟩)\/(j≠i/\es[j]? =some e'):=λj e' hj=>by
  rw[wJ,fg]at hj
  split at hj
  ·rename_i jr
   left;exact⟨jr.symm,by simpa[rL]using hj.symm⟩
  ·rename_i jr
   exact .inr ⟨λe=>jr e.symm,hj⟩
 have pX:pW.map (·.key)=es.map (·.key):=by
  rw[wJ,List.map_set];apply ja;intro j;rw[fg]
  split
  ·rename_i jr
   subst jr;have e:=(an.1 hi).2;simp[rL,e]
  ·rfl
 have OC:pW.map (·.born)=es.map (·.born):=by
  rw[wJ,List.map_set];apply ja;intro j;rw[fg]
  split
  ·rename_i jr
   subst jr;have e:=(an.1 hi).2;simp[rL,e]
  ·rfl
 have ia:∀e'∈pW,(e'=⟨key,val,s⟩)\/(e'∈es/\e'.key≠key):=λe' qM=>by
  obtain⟨j,hj⟩:=bK.1 qM;rcases iW j e' hj with⟨_,e⟩|⟨fw,wu⟩
  ·exact .inl e
  ·refine .inr ⟨av wu,λe=>fw ?_⟩;rcases ff j i with h1|h1|h1
   ·exact absurd e (iD h.keys wu hi h1)
   ·exact h1
   ·exact absurd e.symm (iD h.keys hi wu h1)
 have OD:(⟨key,val,s⟩:MapEntry)∈pW:=av (i:=i) (by rw[wJ,fg];simp[rL])
 have hold:∀e'∈es,e'.key≠key->e'∈pW:=λe' qM fw=>by
  obtain⟨j,hj⟩:=bK.1 qM;refine av (i:=j) ?_;rw[wJ,fg,if_neg]
  ·exact hj
  ·rintro rfl;rw[hi]at hj;cases hj;exact fw G
 refine⟨⟨hw,?_,λe' qM=>?_,?_,λe' qM=>?_⟩,pX,λzv jz v'=>?_⟩
 ·have:=eo.2 h.born;rw[<-OC]at this;exact eo.1 this
 ·rcases ia e' qM with e|⟨h1,_⟩
  ·rw[e];exact(h.lt _ lJ:s<clock)
  ·exact h.lt _ h1
 ·have:=eo.2 h.keys;rw[<-pX]at this;exact eo.1 this
 ·rcases ia e' qM with e|⟨h1,_⟩
  ·rw[e];exact(h.ok _ lJ:∃l,keyOf P kt key=some l)
  ·exact h.ok _ h1
 ·constructor
  ·rintro(⟨e',qM,hk,hv⟩|⟨h1,h2⟩)
   ·rcases ia e' qM with e|⟨h3,h4⟩
    ·subst e;exact .inl ⟨hk.symm,hv⟩
    ·exact .inr ⟨by rw[<-hk];exact h4,.inl ⟨e',h3,hk,hv⟩⟩
   ·have fw:jz≠key:=λe=>h1 _ OD e.symm
    exact .inr ⟨fw,.inr ⟨λe' qM=>λe=>by
     by_cases h5:e'.key=key
     ·exact fw (e.symm.trans h5)
     ·exact h1 e' (hold e' qM h5) e,h2⟩⟩
  ·rintro(⟨rfl,rfl⟩|⟨fw,⟨e',qM,hk,hv⟩|⟨h1,h2⟩⟩)
   ·exact .inl ⟨_,OD,G,G⟩
   ·exact .inl ⟨e',hold e' qM (by rw[hk];exact fw),hk,hv⟩
   ·exact .inr ⟨λe' qM=>by
     rcases ia e' qM with e|⟨h3,_⟩
     ·rw[e];exact λe=>fw e.symm
     ·exact h1 e' h3,h2⟩
theorem eT.put {key val:Value} {s:Nat} (hn:∀e∈es,e.key≠key) (zv jz v':Value):eT zv (es++[⟨key,val,s⟩]) jz v'↔(jz=key/\v'=val)\/(jz≠key/\eT zv es jz v'):=by
 constructor
 ·rintro(⟨e,he,hk,hv⟩|⟨h1,h2⟩)
  ·rcases dI.1 he with he|he
   ·exact .inr ⟨by rw[<-hk];exact hn e he,.inl ⟨e,he,hk,hv⟩⟩
   ·obtain rfl:=dn.1 he;exact .inl ⟨hk.symm,hv⟩
  ·exact .inr ⟨λe=>h1 ⟨key,val,s⟩ (by simp) e.symm,.inr ⟨λe he=>h1 e (kc _ he),h2⟩⟩
 ·rintro(⟨rfl,rfl⟩|⟨fw,⟨e,he,hk,hv⟩|⟨h1,h2⟩⟩)
  ·exact .inl ⟨⟨_,_,s⟩,by simp,rfl,rfl⟩
  ·exact .inl ⟨e,kc _ he,hk,hv⟩
  ·refine .inr ⟨λe he=>?_,h2⟩;rcases dI.1 he with he|he
   ·exact h1 e he
   ·obtain rfl:=dn.1 he;exact λe=>fw e.symm
theorem Rg.Um {t e:TypeId} {key val:Value} {kl:Lit} (ht:P.underlying t=some (.map kt e)) (Kk:Keyed P kt) (hx:ev L x=some (.map (some b))) (hy:ev L y=some key) (hz:ev L z=some val) (lI:keyOf P kt key=some kl) (h:fY P kt w b es clock) (hm:M b)
  (k:∀w' pW HO,fY P kt w' b pW HO->((pW.map (·.key)=es.map (·.key)/\∃e∈es,e.key=key)\/(pW.map (·.key)=es.map (·.key)++[key]/\∀e∈es,e.key≠key))->(∀zv jz v',eT zv pW jz v'↔(jz=key/\v'=val)\/(jz≠key/\eT zv es jz v'))->Step M w M w' (λk=>k=b)->Rg P r n ops rest L ds w' K):
  Rg P r n ops ({dst:=none,op:= .mapUpdate t x y z,type:=ty,pos,after:=af,guard:=none}::rest) L ds w K:=by
 have eZ:=ae h.at_;rcases Kk.find w lI es h.ok with⟨h1,h2⟩|⟨j,e0,h1,h2,h3⟩
 ·have hw:({w with heap:=w.heap.setIfInBounds b (.map (es.toArray.push ⟨key,val,clock⟩) (clock+1))}:World).heap[b]? =some (.map (es++([⟨key,val,clock⟩]:List MapEntry)).toArray (clock+1)):=by
   simp[dH,eZ]
  refine .VH a05 G G _ (λρ hρ=>?_) (k _ _ _ (h.push lI h2 hw) (Or.inr ⟨by simp,h2⟩) (eT.put h2) (iJ M hm));simp only[execOp,hρ x _ hx,hρ y _ hy,hρ z _ hz,Instr.mapUpdate,cn,run_underlying ht,cF,dO h.at_,Kk.check w false lI,h1,run_setObj_map h.at_];simp
 ·have he:e0∈es:=av h2;obtain⟨k0,v0,s0⟩:=e0;simp only at h3;subst h3;have hj:es.toArray[j]? =some ⟨k0,v0,s0⟩:=by simpa using h2
  have OB:es.toArray.modify j (λe=>{e with key:=k0,val:=val})=(es.set j ⟨k0,val,s0⟩).toArray:=by
   apply Array.ext_getElem?;intro i;rw[vS];simp only[iy,fg]
   split
   ·rename_i V2
    subst V2;have:=(an.1 h2).1;rw[h2];simp[this]
   ·rfl
  have hw:({w with heap:=w.heap.setIfInBounds b (.map (es.set j ⟨k0,val,s0⟩).toArray clock)}:World).heap[b]? =some (.map (es.set j ⟨k0,val,s0⟩).toArray clock):=by simp[dH,eZ]
  obtain⟨hW,qt,kg⟩:=h.YU h2 hw
  have jT:(Instr.keyThatStays ((Option.map (fun(e:MapEntry)=>e.key) es.toArray[j]?).getD k0) k0).run P w= .ok k0 w:=by
   rw[hj];simp only[eY,Option.getD_some];exact Kk.stays w lI
  refine .VH a05 G G _ (λρ hρ=>?_) (k _ _ clock hW (Or.inl ⟨qt,_,he,G⟩) kg (iJ M hm));simp only[execOp,hρ x _ hx,hρ y _ hy,hρ z _ hz,Instr.mapUpdate,cn,run_underlying ht,cF,dO h.at_,Kk.check w false lI,h1,jT,OB,run_setObj_map h.at_];simp
theorem F6 {t e:TypeId} {zv key:Value} {size bytes:Nat} {kl:Lit} (ht:P.underlying t=some (.map kt e)) (Kk:Keyed P kt) (hi:TI P e zv size bytes) (lI:keyOf P kt key=some kl) (h:fY P kt w b es clock):
  ∃v,eT zv es key v/\∀(w:World) (ρ:Operand->Value) (dst:Option Tmp) (gd:Option (Nat×Bool)),ρ x= .map (some b)->ρ y=key->fY P kt w b es clock->(execOp ρ {dst,op:= .lookup t x y false,type:=ty,pos,after:=af,guard:=gd}).run P w= .ok (.value v) w:=by
 rcases Kk.find w lI es h.ok with⟨h1,h2⟩|⟨j,e0,h1,h2,h3⟩
 ·refine ⟨zv,Or.inr ⟨h2,G⟩,λw ρ dst gd hx hy h=> ?_⟩;obtain⟨inf,i1,i2,_,_⟩:=hi.get;have hz:(zeroValue e).run P w= .ok zv w:=by simp[zeroValue,typeInfo,i1,i2]
  rcases Kk.find w lI es h.ok with⟨h1,_⟩|⟨j,e0,_,g2,g3⟩
  ·simp only[execOp,hx,hy,Instr.lookup,cn,run_underlying ht,cF,dO h.at_,nd,Kk.check w _ lI,h1,hz];simp
  ·exact absurd g3 (h2 e0 (av g2))
 ·refine⟨e0.val,Or.inl ⟨e0,av h2,h3,G⟩,λw ρ dst gd hx hy h=>?_⟩;rcases Kk.find w lI es h.ok with⟨_,g2⟩|⟨j',e1,g1,g2,g3⟩
  ·exact absurd h3 (g2 e0 (av h2))
  ·have:e1=e0:=h.J3 (av g2) (av h2) (g3.trans h3.symm);subst this;simp only[execOp,hx,hy,Instr.lookup,cn,run_underlying ht,cF,dO h.at_,nd,Kk.check w _ lI,g1];simp
theorem cP.ur {N:aM} {t e:TypeId} {zv key:Value} {size bytes:Nat} {kl:Lit} {dst:Option Tmp} {gd:Option (Nat×Bool)} (ht:P.underlying t=some (.map kt e)) (Kk:Keyed P kt) (hi:TI P e zv size bytes) (hx:ev L x=some (.map (some b))) (hy:ev L y=some key) (lI:keyOf P kt key=some kl) (h:fY P kt w b es clock) (hn: ¬N b):
  cP P N w L {dst,op:= .lookup t x y false,type:=ty,pos,after:=af,guard:=gd}:=λρ hρ v w' hk hr=>by
 obtain⟨v0,_,iz⟩:=F6 (x:=x) (y:=y) (ty:=ty) (pos:=pos) (af:=af) ht Kk hi lI h;have h':fY P kt w' b es clock:=⟨(hk.2 b (ae h.at_) hn).trans h.at_,h.born,h.lt,h.keys,h.ok⟩;rw[iz w ρ dst gd (hρ x _ hx) (hρ y _ hy) h]at hr;rw[iz w' ρ dst gd (hρ x _ hx) (hρ y _ hy) h'];injection hr with h1 h2
 rw[h1]
end
end Go.K
namespace Go.Proofs
open Go.Shelf
def Tryz.CA:Go.Shelf.Ren:=⟨fun|7=>99|10=>152|n=>n,fun|23=>180|26=>9|3=>117|28=>193|0=>0|27=>192|33=>124|4=>4|n=>n,fun|n=>n⟩
theorem Tryz.Ks:Go.Proofs.SlLaysZ.n7 Tryz.prog Tryz.CA:={
 mixed:=by kernel_rfl
 f7:=⟨Tryz.f99.name,by decide,Tryz.func99.trans a03⟩
 f10:=⟨Tryz.f152.name,by decide,Tryz.func152.trans a03⟩
 t0:=By
 a0:=Tryz.isAgg0
 z0:=Tryz.sizeOf0
 v0:=Tryz.zeroValue0
 t4:=gQ
 a4:=Tryz.isAgg4
 z4:=Tryz.sizeOf4
 v4:=Tryz.zeroValue4
 t23:=iK
 a23:=Tryz.isAgg180
 z23:=Tryz.sizeOf180
 v23:=Tryz.zeroValue180
 t26:=aA
 a26:=Tryz.isAgg9
 z26:=Bz
 v26:=nN
 t27:=Tryz.underlying192
 a27:=Tryz.isAgg192
 z27:=Tryz.sizeOf192
 v27:=Tryz.zeroValue192
 t28:=Tryz.underlying193
 a28:=Tryz.isAgg193
 z28:=Tryz.sizeOf193
 v28:=Tryz.zeroValue193
 t33:=Tryz.underlying124
 a33:=Tryz.isAgg124
 z33:=Tryz.sizeOf124
 v33:=Tryz.zeroValue124}
def Tryz.xU:Go.Shelf.Ren:=⟨fun|6=>98|8=>150|9=>151|11=>190|13=>179|12=>191|23=>237|24=>238|14=>255|15=>256|16=>257|17=>258|18=>259|19=>260|20=>261|21=>262|22=>263|25=>295|26=>276|27=>277|28=>296|29=>297|30=>298|31=>315|n=>n,fun|26=>9|28=>193|24=>25|0=>0|3=>3|37=>262|48=>336|50=>205|4=>4|40=>330|39=>329|45=>198|5=>5|9=>9|51=>357|55=>361|57=>390|58=>276|33=>124|n=>n,fun|n=>n⟩
theorem Tryz.Un:Go.Proofs.SlLaysZ.n6 Tryz.prog Tryz.xU:={
 mixed:=by kernel_rfl
 f6:=⟨Tryz.f98.name,by decide,Tryz.func98.trans a03⟩
 f8:=⟨Tryz.f150.name,by decide,Tryz.func150.trans a03⟩
 f11:=⟨Tryz.f190.name,by decide,Tryz.func190.trans a03⟩
 t0:=By
 a0:=Tryz.isAgg0
 z0:=Tryz.sizeOf0
 v0:=Tryz.zeroValue0
 t24:=ax
 a24:=Tryz.isAgg25
 z24:=Tryz.sizeOf25
 v24:=Tryz.zeroValue25
 t26:=aA
 a26:=Tryz.isAgg9
 z26:=Bz
 v26:=nN
 t28:=Tryz.underlying193
 a28:=Tryz.isAgg193
 z28:=Tryz.sizeOf193
 v28:=Tryz.zeroValue193
 i26:=by kernel_rfl}
def Tryz.L5:Go.Shelf.Ren:=⟨fun|6=>151|8=>179|9=>191|19=>237|20=>238|21=>255|22=>256|23=>257|24=>258|25=>259|26=>260|27=>261|28=>262|29=>263|36=>295|31=>276|32=>277|37=>296|38=>297|39=>298|41=>315|n=>n,fun|27=>25|29=>9|3=>3|32=>262|26=>25|0=>0|44=>336|46=>205|4=>4|36=>330|35=>329|41=>198|5=>5|9=>9|53=>357|57=>361|63=>390|64=>276|n=>n,fun|n=>n⟩
theorem Tryz.Wi:Go.Proofs.SlLaysM.n6 Tryz.prog Tryz.L5:={
 mixed:=by kernel_rfl
 f6:=⟨Tryz.f151.name,by decide,Tryz.func151.trans a03⟩
 f8:=Tryz.func179.trans a03
 f9:=⟨Tryz.f191.name,by decide,Tryz.func191.trans a03⟩
 f19:=Tryz.func237.trans a03
 f20:=Tryz.func238.trans a03
 f21:=⟨Tryz.f255.name,by decide,Tryz.func255.trans a03⟩
 f22:=⟨Tryz.f256.name,by decide,Tryz.func256.trans a03⟩
 f23:=⟨Tryz.f257.name,by decide,Tryz.func257.trans a03⟩
 f24:=⟨Tryz.f258.name,by decide,Tryz.func258.trans a03⟩
 f25:=⟨Tryz.f259.name,by decide,Tryz.func259.trans a03⟩
 f26:=⟨Tryz.f260.name,by decide,Tryz.func260.trans a03⟩
 f27:=⟨Tryz.f261.name,by decide,Tryz.func261.trans a03⟩
 f28:=⟨Tryz.f262.name,by decide,Tryz.func262.trans a03⟩
 f29:=⟨Tryz.f263.name,by decide,Tryz.func263.trans a03⟩
 f31:=Tryz.func276.trans a03
 f32:=Tryz.func277.trans a03
 f36:=⟨Tryz.f295.name,by decide,Tryz.func295.trans a03⟩
 f37:=⟨Tryz.f296.name,by decide,Tryz.func296.trans a03⟩
 f38:=⟨Tryz.f297.name,by decide,Tryz.func297.trans a03⟩
 f39:=⟨Tryz.f298.name,by decide,Tryz.func298.trans a03⟩
 f41:=⟨Tryz.f315.name,by decide,Tryz.func315.trans a03⟩
 t0:=By
 a0:=Tryz.isAgg0
 z0:=Tryz.sizeOf0
 v0:=Tryz.zeroValue0
 t3:=al
 a3:=Tryz.isAgg3
 z3:=Tryz.sizeOf3
 v3:=Tryz.zeroValue3
 t4:=gQ
 a4:=Tryz.isAgg4
 z4:=Tryz.sizeOf4
 v4:=Tryz.zeroValue4
 t5:=db
 a5:=Tryz.isAgg5
 z5:=Tryz.sizeOf5
 v5:=Tryz.zeroValue5
 t9:=aA
 a9:=Tryz.isAgg9
 z9:=Bz
 v9:=nN
 t26:=ax
 a26:=Tryz.isAgg25
 z26:=Tryz.sizeOf25
 v26:=Tryz.zeroValue25
 t27:=ax
 a27:=Tryz.isAgg25
 z27:=Tryz.sizeOf25
 v27:=Tryz.zeroValue25
 t29:=aA
 a29:=Tryz.isAgg9
 z29:=Bz
 v29:=nN
 t32:=Tryz.underlying262
 a32:=Tryz.isAgg262
 z32:=Tryz.sizeOf262
 v32:=Tryz.zeroValue262
 t35:=Tryz.underlying329
 a35:=Tryz.isAgg329
 z35:=Tryz.sizeOf329
 v35:=Tryz.zeroValue329
 t36:=Tryz.underlying330
 a36:=Tryz.isAgg330
 z36:=Tryz.sizeOf330
 v36:=Tryz.zeroValue330
 t41:=Tryz.underlying198
 a41:=Tryz.isAgg198
 z41:=Tryz.sizeOf198
 v41:=Tryz.zeroValue198
 t44:=Tryz.underlying336
 a44:=Tryz.isAgg336
 z44:=Tryz.sizeOf336
 v44:=Tryz.zeroValue336
 t46:=l8
 a46:=Tryz.isAgg205
 z46:=Tryz.sizeOf205
 v46:=Tryz.zeroValue205
 t53:=Tryz.underlying357
 a53:=Tryz.isAgg357
 z53:=Tryz.sizeOf357
 v53:=Tryz.zeroValue357
 t57:=Tryz.underlying361
 a57:=Tryz.isAgg361
 z57:=Tryz.sizeOf361
 v57:=Tryz.zeroValue361
 t63:=Tryz.underlying390
 a63:=Tryz.isAgg390
 z63:=Tryz.sizeOf390
 v63:=Tryz.zeroValue390
 t64:=Tryz.underlying276
 a64:=Tryz.isAgg276
 z64:=Tryz.sizeOf276
 v64:=Tryz.zeroValue276}
end Go.Proofs
namespace Go.K
open Go.Proofs
set_option maxRecDepth 10000
open Go.RowKit Go.Maps Go.Sort Go.Shelf
theorem YV (m:Nat):AnyZ.SortsIn Tryz.prog Tryz.xU Fence.wide m:=
 ⟨λng off cap ss W hH hblk lC=>callsIn_wide.2 (AnyM.slices_Sort_string Tryz.Wi ng off cap ss W hH hblk lC),
  λp cap W=>callsIn_wide.2 (AnyM.slices_Sort_string_none Tryz.Wi p cap W)⟩
theorem Is (mb:Option Nat) (w:World):Spec Tryz.prog 99 #[.map mb] w (λv w'=>v= .func (.func 152) #[] #[.pointer (some ⟨w.heap.size,0,none⟩)]/\w'=w.alloc (.cells #[.map mb] 180)):=
 (callsIn_wide (n:=5)).1 ((AnyZ.keys_in Tryz.Ks Fence.wide 5 trivial rfl mb w).mono λe w' ⟨h1,h2⟩=>⟨_,h1,rfl,h2⟩)
theorem DX {R:Value->Option (DU×List MemPlace)} {M:aM} {w:World} {b bb:Nat} {m:List (Lit×DU)} (h:acv Tryz.prog 9 R M w b m) (OH:w.cell? ⟨bb,0,none⟩=some (.map (some b))) (hl:m.length<=1099511627776):
  Spec Tryz.prog 98 #[.func (.func 152) #[] #[.pointer (some ⟨bb,0,none⟩)]] w (λv w'=>(∃ss:List (List UInt8),ss.Perm (strKeys (DataW.map m))/\w'.ownsRow w.heap.size 9 1 v ss.length ((ss.mergeSort (λx y=>decide (x<=y))).map encStr)/\(v= .slice none 0 0↔ss=[]))/\Step M w M w' aC):=by
 have alm:SeqGives Fence.wide 2 Tryz.prog 152 #[.pointer (some ⟨bb,0,none⟩)] encStr (λss=>ss.Perm (strKeys (DataW.map m))) (Maps.size (DataW.map m)) w:=
  AnyZ.keys_gives (ρ:=Tryz.CA) {Tryz.Ks with} Fence.wide _ trivial rfl q0 bb b m.length (DataW.map m) _ (World.block_lt_of_cell? w _ OH) OH h.own
 have lC:Maps.size (DataW.map m)=m.length:=rfl;have cS:=AnyZ.sorted_in Tryz.Un Fence.wide 5 trivial trivial trivial trivial rfl q0 (YV _) (enters_of Tryz.func151 ai6 rfl) 152 #[.pointer (some ⟨bb,0,none⟩)] trivial (enters_of Tryz.func152 ai6 rfl) _ _ (by rw[lC];unfold maxLen;omega) (by rw[lC];omega) _ alm;exact(callsIn_wide (n:=5)).1 (cS.mono λe w' ⟨v,ss,h1,h2,h3,h4,h5⟩=>⟨v,h1,⟨ss,h2,h3,h4⟩,.Dw h5 M⟩)
theorem BR {w w':World} {v:Value} {t:TypeId} (h:w'=w.alloc (.cells #[v] t)):w'.cell? ⟨w.heap.size,0,none⟩=some v:=by
 subst h;exact gM (dE w _) G
end Go.K
namespace Go.K
open Go.Proofs
set_option maxRecDepth 10000
theorem Uo {M:aM} {w0:World} {v:Value} {b:List Fd} (hM:Lt M w0) (hv:(RT.fd.sl).V M w0 b v) (tN:b.length<=1099511627776):
  Spec Tryz.prog 189 #[v] w0 (λv' w'=>(RT.fd.sl).V M w' b v'∧Step M w0 M w' aC):=by
 obtain⟨a,cap,k8,hc,hl,hs⟩:=iV.1 hv;refine bh (args:=[_]) (fn:=Tryz.f189) Tryz.func189 G (n:=8) Tryz.ntmps189 (T.aQ (Rg.aZ G G (aL (T.aQ (ab G G (bg (v':= .slice a b.length cap) k8 (Rg.uh bG G G G (ad ?_))))))));refine bE G (λc1=>?_) (λc1=>?_)
 ·refine T.aQ (Rg.aZ G G (aJ ?_))
  have hb:b=[]:=by
   rcases hs with h|⟨_,_,h,_⟩
   ·exact h
   ·rw[c1]at h;cases h
  exact aK rfl rfl ⟨by rw[hb];exact gZ,aV⟩
 ·refine aS (T.aQ ?_);refine Rg.sl0 bG kf M G (λa0 w1 s1=>?_);refine ab G G ?_;refine Rg.od (A:=RT.fd) (hn:=by decide) (M:=M) bG kf G G G G hv s1.le (s1.lt hM) q0 (λu2 w2 dY s2=>?_);refine Rg.aZ G G (aJ ?_);exact aK G G ⟨dY,s1.aw s2⟩
theorem Al {M:aM} {w0:World} {v:Value} {b:List Int} (hM:Lt M w0) (hv:((RT.int .i64).sl).V M w0 b v) (tN:b.length<=1099511627776):
  Spec Tryz.prog 100 #[v] w0 (λv' w'=>((RT.int .i64).sl).V M w' b v'∧Step M w0 M w' aC):=by
 obtain⟨a,cap,k8,hc,hl,hs⟩:=iV.1 hv;refine bh (args:=[_]) (fn:=Tryz.f100) Tryz.func100 G (n:=8) Tryz.ntmps100 (T.aQ (Rg.aZ G G (aL (T.aQ (ab G G (bg (v':= .slice a b.length cap) k8 (Rg.uh az G G G (ad ?_))))))));refine bE G (λc1=>?_) (λc1=>?_)
 ·refine T.aQ (Rg.aZ G G (aJ ?_))
  have hb:b=[]:=by
   rcases hs with h|⟨_,_,h,_⟩
   ·exact h
   ·rw[c1]at h;cases h
  exact aK rfl rfl ⟨by rw[hb];exact gZ,aV⟩
 ·refine aS (T.aQ ?_);refine Rg.sl0 az I3 M G (λa0 w1 s1=>?_);refine ab G G ?_;refine Rg.od (A:=(RT.int .i64)) (hn:=by decide) (M:=M) az I3 G G G G hv s1.le (s1.lt hM) q0 (λu2 w2 dY s2=>?_);refine Rg.aZ G G (aJ ?_);exact aK G G ⟨dY,s1.aw s2⟩
theorem PQ {M:aM} {w0:World} {v:Value} {b:List (List UInt8)} (hM:Lt M w0) (hv:(RT.str.sl).V M w0 b v) (tN:b.length<=1099511627776):
  Spec Tryz.prog 198 #[v] w0 (λv' w'=>(RT.str.sl).V M w' b v'∧Step M w0 M w' aC):=by
 obtain⟨a,cap,k8,hc,hl,hs⟩:=iV.1 hv;refine bh (args:=[_]) (fn:=Tryz.f198) Tryz.func198 G (n:=8) Tryz.ntmps198 (T.aQ (Rg.aZ G G (aL (T.aQ (ab G G (bg (v':= .slice a b.length cap) k8 (Rg.uh ax G G G (ad ?_))))))));refine bE G (λc1=>?_) (λc1=>?_)
 ·refine T.aQ (Rg.aZ G G (aJ ?_))
  have hb:b=[]:=by
   rcases hs with h|⟨_,_,h,_⟩
   ·exact h
   ·rw[c1]at h;cases h
  exact aK rfl rfl ⟨by rw[hb];exact gZ,aV⟩
 ·refine aS (T.aQ ?_);refine Rg.sl0 ax I9 M G (λa0 w1 s1=>?_);refine ab G G ?_;refine Rg.od (A:=RT.str) (hn:=by decide) (M:=M) ax I9 G G G G hv s1.le (s1.lt hM) q0 (λu2 w2 dY s2=>?_);refine Rg.aZ G G (aJ ?_);exact aK G G ⟨dY,s1.aw s2⟩
theorem Up {M:aM} {w0:World} {v:Value} {b:List Li} (hM:Lt M w0) (hv:(((RT.li).ptr).sl).V M w0 b v) (tN:b.length<=1099511627776):
  Spec Tryz.prog 199 #[v] w0 (λv' w'=>(((RT.li).ptr).sl).V M w' b v'∧Step M w0 M w' aC):=by
 obtain⟨a,cap,k8,hc,hl,hs⟩:=iV.1 hv;refine bh (args:=[_]) (fn:=Tryz.f199) Tryz.func199 G (n:=8) Tryz.ntmps199 (T.aQ (Rg.aZ G G (aL (T.aQ (ab G G (bg (v':= .slice a b.length cap) k8 (Rg.uh fB G G G (ad ?_))))))));refine bE G (λc1=>?_) (λc1=>?_)
 ·refine T.aQ (Rg.aZ G G (aJ ?_))
  have hb:b=[]:=by
   rcases hs with h|⟨_,_,h,_⟩
   ·exact h
   ·rw[c1]at h;cases h
  exact aK rfl rfl ⟨by rw[hb];exact gZ,aV⟩
 ·refine aS (T.aQ ?_);refine Rg.sl0 fB ti M G (λa0 w1 s1=>?_);refine ab G G ?_;refine Rg.od (A:=((RT.li).ptr)) (hn:=by decide) (M:=M) fB ti G G G G hv s1.le (s1.lt hM) q0 (λu2 w2 dY s2=>?_);refine Rg.aZ G G (aJ ?_);exact aK G G ⟨dY,s1.aw s2⟩
theorem F7 {M:aM} {d:Dc} {v0:Value} (w0:World) (hM:Lt M w0) (hv:RT.dc.V M w0 d v0) (hl:d.2.length<=1099511627776):
  Spec Tryz.prog 148 #[v0] w0 (λv w=>RT.dc.V M w d v/\Step M w0 M w aC):=by
 have gv:=hM;refine bh (args:=[_]) (fn:=Tryz.f148) Tryz.func148 G (n:=9) Tryz.ntmps148 ?_;have S:Step M w0 M w0 aC:=aV;refine T.aQ ?_;refine ef (A:=RT.dc) G G hM hv G (λu0 w1 dG s0 _=>?_);replace hM:=s0.lt hM;have:=S.size;replace S:=S.aw s0;refine ew M lD G (λgu tv H8 H9 cG iG=>?_);obtain⟨fu,gI⟩:∃M',M'=ins M gu:=⟨_,rfl⟩;rw[<-gI]at iG;have b9:fu gu:=by rw[gI];exact .inl G
 change tv.heap[gu]? =some (.cells #[.int .i64 0,.slice none 0 0] _ _)at cG;replace dG:=dG.le Tg iG.le;replace hM:=iG.lt hM;have:=S.size;replace S:=S.aw iG;refine ad (aL ?_);apply T.n4 4 [0,1] 1 aC mixed rfl rfl rfl rfl;intro LI OT;have mI:=OT fu;have:=ae cG;replace b9:=(mI.mem _ this).2 b9;replace cG:=mI.aF cG;replace dG:=dG.le Tg mI.le;replace hM:=mI.lt hM;have:=S.size;replace S:=S.aw mI;refine ao (M:=fu) (A:=RT.dc) (B:=RT.int .i64) aW G G I3 Tg (dc0) G G Tg Xf (by repeat (first|exact bQ _ _|refine bA (bR Xf) ?_)) (λzX kG=>?_);refine Rg.dh ?_;refine bV (M:=fu) al G G Xf (by repeat (first|exact bQ _ _|refine bA (bR Xf) ?_)) (λWc=>?_);refine Rg.dh ?_;refine ao (M:=fu) (A:=RT.dc) (B:=(RT.fd).sl) aW G G tO Tg (Hw) G G Tg Xf (by repeat (first|exact bQ _ _|refine bA (bR Xf) ?_)) (λYW F8=>?_);refine Rg.dh ?_;refine bB (M:=fu) bG G G G G G Xf (by repeat (first|exact bQ _ _|refine bA (bR Xf) ?_)) (λYX Ku=>?_);refine Rg.dh (fL ?_);obtain⟨bb,oo,cs,ee,fr,rfl,oc,_⟩:=kG.float;refine ⟨jo ⟨kj aW G I3 Tg,⟨gR G oc (λh=>h),trivial⟩⟩,?_⟩;have kp:=kn aC LI;refine aP G G ajT (Uo hM Ku hl) (λv4 w4 hc=>?_);obtain⟨qu,s4⟩:=hc;have:=ae cG;replace b9:=(s4.mem _ this).2 b9;replace cG:=s4.aF cG;replace dG:=dG.le Tg s4.le;replace hM:=s4.lt hM;have:=S.size;replace S:=S.aw s4;refine(fun(kp:fG _ _ _)=>ad ⟨G,G,λ_=>kp,?_⟩) a02
 refine dw (places:=[(0,1),(1,1)]) aW lD B72 rfl ⟨_,_,rfl,rfl,_,_,rfl,rfl,rfl⟩ (out:=[_,_]) ⟨0,[_],rfl,rfl,by simp[Value.cells],1,[_],rfl,jl qu,by simp[Value.cells],rfl⟩ (ad ⟨rfl,rfl,λh=>absurd rfl h,?_⟩);have hd:RT.dc.V fu w4 d (.agg [.int .i64 d.1,v4].toArray):=fJ (hU Wc) qu rfl rfl rfl rfl;refine cY (M:=fu) (vs:=[.int .i64 d.1,v4]) lD G G (Ir G hd) G G cG b9 (λw6 g6 s6=>?_);have:=ae cG;replace b9:=(s6.mem _ this).2 b9;replace dG:=dG.le Tg s6.le;replace qu:=qu.le s6.le;replace hd:=hd.le s6.le;replace hM:=s6.lt hM;have:=S.size;replace S:=S.trans s6 (λk hk h=>by have h:_=_:=h;subst h;first|(exfalso;omega)|(show _<=_;omega)|exact⟨by first|omega|assumption,(S.mem _ hk).1 ((s6.mem _ (ae cG)).1 b9)⟩|exact .inl rfl|exact .inr rfl|exact .inr (.inl rfl)|exact .inr (.inr rfl)|exact .inr (.inr (.inl rfl))|exact rfl);have ga:=g6;clear cG;have cG:=ga;clear ga;refine ad ⟨G,G,λh=>absurd G h,nT (aJ ?_)⟩;exact ku (vs:=[.int .i64 d.1,v4]) G G aW G lD G cG ⟨hd.le (lE gv S),S.back⟩
theorem PR {M:aM} {e:En} {v0:Value} (w0:World) (hM:Lt M w0) (hv:RT.en.V M w0 e v0) (hl:e.1.2.length<=1099511627776):
  Spec Tryz.prog 96 #[v0] w0 (λv w=>RT.en.V M w e v/\Step M w0 M w aC):=by
 have gv:=hM;refine bh (args:=[_]) (fn:=Tryz.f96) Tryz.func96 G (n:=9) Tryz.ntmps96 ?_;have S:Step M w0 M w0 aC:=aV;refine T.aQ ?_;refine ef (A:=RT.en) G G hM hv G (λu0 w1 dG s0 _=>?_);replace hM:=s0.lt hM;have:=S.size;replace S:=S.aw s0;refine ew M Hx G (λgu tv H8 H9 cG iG=>?_);obtain⟨fu,gI⟩:∃M',M'=ins M gu:=⟨_,rfl⟩;rw[<-gI]at iG;have b9:fu gu:=by rw[gI];exact .inl G
 change tv.heap[gu]? =some (.cells #[.int .i64 0,.slice none 0 0,.int .i64 0] _ _)at cG;replace dG:=dG.le Tg iG.le;replace hM:=iG.lt hM;have:=S.size;replace S:=S.aw iG;refine ad (aL ?_);apply T.VT [0,1,3,4,2,5,6] 4 [2,3] 1 aC mixed
 ·simp+decide only[Cd,wx,eV,sG,Br,Bs,nR,eY,j4,List.idxOf_cons,cond_true,cond_false,Nat.reduceBEq,Nat.reduceAdd,beq_self_eq_true];rfl
 ·rfl
 ·rfl
 ·rfl
 ·rfl
 ·rfl
 ·rfl
 intro LI OT;have mI:=OT fu;have:=ae cG;replace b9:=(mI.mem _ this).2 b9;replace cG:=mI.aF cG;replace dG:=dG.le Tg mI.le;replace hM:=mI.lt hM;have:=S.size;replace S:=S.aw mI;refine ao (A:=RT.en) (B:=RT.dc) ed G G lD Tg XU G G Tg dG bS (λzX kG=>?_);refine Rg.dh ?_;refine bN (A:=RT.dc) aW G lD Tg G G G kG bS (λyx lx=>?_);refine Rg.dh ?_;refine ao (A:=RT.en) (B:=RT.int .i64) ed G G I3 Tg en1 G G Tg dG bS (λYW F8=>?_);refine Rg.dh ?_;refine bV (M:=fu) al G G Xf (by repeat (first|exact bQ _ _|refine bA (bR Xf) ?_)) (λPS=>?_);refine bg (v':= .int .i64 (e.2)) G ?_;replace PS: -9223372036854775808<=(e.2:Int)/\e.2<=9223372036854775807:=PS;refine Rg.dh (fL ?_);obtain⟨bb,oo,cs,ee,fr,rfl,oc,_⟩:=F8.float;refine ⟨jo ⟨kj ed G I3 Tg,⟨gR G oc (λh=>h),trivial⟩⟩,?_⟩;have kp:=kn aC LI;refine aP G G ajK (F7 _ hM lx hl) (λv4 w4 hc=>?_);obtain⟨qu,s4⟩:=hc;obtain⟨uf,rfl⟩:=OA qu;have:=ae cG;replace b9:=(s4.mem _ this).2 b9;replace cG:=s4.aF cG;replace dG:=dG.le Tg s4.le;replace hM:=s4.lt hM;have:=S.size;replace S:=S.aw s4;refine(fun(kp:fG _ _ _)=>ad ⟨G,G,λ_=>kp,?_⟩) a02;refine dw (places:=[(0,2),(2,1)]) ed Hx B74 rfl ⟨_,_,rfl,rfl,_,_,rfl,rfl,rfl⟩ (out:=[_,_,_]) ⟨0,[_,_],rfl,rfl,by simp[Value.cells],2,[_],rfl,rfl,by simp[Value.cells],rfl⟩ (ad ⟨rfl,rfl,λh=>absurd rfl h,?_⟩);have hd:RT.en.V fu w4 e (.agg [.int .i64 e.1.1,uf,.int .i64 e.2].toArray):=V0 (p:=e.1) qu PS
 refine cY (M:=fu) (vs:=[.int .i64 e.1.1,uf,.int .i64 e.2]) Hx G G (Ir G hd) G G cG b9 (λw6 g6 s6=>?_);have:=ae cG;replace b9:=(s6.mem _ this).2 b9;replace dG:=dG.le Tg s6.le;replace qu:=qu.le s6.le;replace hd:=hd.le s6.le;replace hM:=s6.lt hM;have:=S.size;replace S:=S.trans s6 (λk hk h=>by have h:_=_:=h;subst h;first|(exfalso;omega)|(show _<=_;omega)|exact⟨by first|omega|assumption,(S.mem _ hk).1 ((s6.mem _ (ae cG)).1 b9)⟩|exact .inl rfl|exact .inr rfl|exact .inr (.inl rfl)|exact .inr (.inr rfl)|exact .inr (.inr (.inl rfl))|exact rfl);have ga:=g6;clear cG;have cG:=ga;clear ga;refine ad ⟨G,G,λh=>absurd G h,nT (aJ ?_)⟩;exact ku (vs:=[.int .i64 e.1.1,uf,.int .i64 e.2]) G G ed G Hx G cG ⟨hd.le (lE gv S),S.back⟩
namespace TKBldB
theorem adR:TI Tryz.prog 238 (.map none) 1 8:=by unfold TI;kernel_rfl
theorem aln:Enters Tryz.prog 143:=enters Tryz.func143 rfl Tg
theorem alo:Enters Tryz.prog 144:=enters Tryz.func144 rfl Tg
theorem alp:Enters Tryz.prog 145:=enters Tryz.func145 rfl Tg
end TKBldB
open TKBldB
set_option maxRecDepth 10000
theorem IJ.bP {bt mb B:Nat} {ts:List (Fd×Nat)} {M M':aM} {w w':World} (h:IJ bt mb B ts M w) (s:Step M w M' w' aC):IJ bt mb B ts M' w':=by
 obtain⟨gb,eK,fH,hB,Km,es,clock,hW,hI⟩:=h;exact⟨s.aF gb,(s.mem _ (ae gb)).2 eK,(s.mem _ (ae hW.at_)).2 fH,hB,Km,es,clock,hW.bP s,hI.bP s⟩
theorem PT {bt mb B:Nat}:YI Tryz.prog 143 [.pointer (some ⟨bt,0,none⟩)] B (IJ bt mb B):=
 ⟨aln,λts M w M' w' h s=>h.bP s,λts M w t i hJ hM h1 h2 hi h4=>LZ w hM h1 h2 hi h4 hJ⟩
theorem PU (M:aM) (w:World) (B:Nat):LY M w B [] [] where
 o t v hv:=by
  rcases hv with⟨e,he,_⟩|⟨_,rfl⟩
  ·cases he
  ·exact eL _ _ _ _ _
 a t t' v v' _ hv _:=by
  rcases hv with⟨e,he,_⟩|⟨_,rfl⟩
  ·cases he
  ·exact(kE.nil v').symm
 k:=rfl
theorem F9:∀(ts:List (Fd×Nat)) (l:List Fd),(ts.foldl (λl p=>if p.1∈l then l else l++[p.1]) l).length<=l.length+ts.length
 |[],l=>by simp
 |p::ts,l=>by
  rw[qq,cJ];refine dz (F9 ts _) ?_
  split
  ·omega
  ·rw[bM];simp;omega
theorem Uq (M:aM) (w:World) (M':aM) (w':World) (x:Fd) (vs:List Value) (h:RT.fd.R M w x vs):RT.fd.R M' w' x vs:=h
theorem Ga {M:aM} {d:Dc} {v0:Value} (w0:World) (hM:Lt M w0) (hv:RT.dc.V M w0 d v0) (hF:iQ d) (hl:∀f∈d.2,f.1.length<=900000/\f.2.length<=900000):
  Spec Tryz.prog 94 #[v0] w0 (λv w=>∃a b,v= .tuple #[a,b]/\(RT.fd.sl).V M w (dQ (cL d.2)) a/\(((RT.int .i64).sl).sl).V M w ((dQ (cL d.2)).map (posOf (cL d.2))) b/\Step M w0 M w aC):=by
 have gv:=hM;have Wj:=hF.many;refine bh (args:=[_]) (fn:=Tryz.f94) Tryz.func94 G (n:=31) Tryz.ntmps94 ?_;have S:Step M w0 M w0 aC:=aV;refine T.aQ ?_;refine ef (A:=RT.dc) G G hM hv G (λu0 w1 dG s0 _=>?_);replace hM:=s0.lt hM;have:=S.size;replace S:=S.aw s0;refine aN G G (Rg.aZ G G (T.aQ ?_));refine Rg.zy M l7 G (λmb w1m p1 q1 gW s1=>?_);obtain⟨YY,PV⟩:∃M',M'=ins M mb:=⟨_,rfl⟩;rw[<-PV]at s1;have DY:YY mb:=by rw[PV];exact .inl G
 replace dG:=dG.le Tg s1.le;replace hM:=s1.lt hM;have:=S.size;replace S:=S.aw s1;refine ew YY adR G (λL6 YK avi avj BL yz=>?_);obtain⟨PW,PX⟩:∃M',M'=ins YY L6:=⟨_,rfl⟩;rw[<-PX]at yz;have Am:PW L6:=by rw[PX];exact .inl G
 change YK.heap[L6]? =some (.cells #[.map none] _ _)at BL;replace dG:=dG.le Tg yz.le;replace DY:=(yz.mem _ (ae gW.at_)).2 DY;replace gW:=gW.bP yz;replace hM:=yz.lt hM;have:=S.size;replace S:=S.aw yz;refine cv (M:=PW) adR G G BL G (G) Am (λUe iO qe=>?_)
 try simp only[List.setIfInBounds_toArray,List.set_cons_zero,List.set_cons_succ]at iO
 have:=ae BL;replace Am:=(qe.mem _ this).2 Am;replace dG:=dG.le Tg qe.le;replace DY:=(qe.mem _ (ae gW.at_)).2 DY;replace gW:=gW.step qe (by show¬(_=_);omega);replace hM:=qe.lt hM;have:=S.size;replace S:=S.trans qe (λk hk h=>by have h:_=_:=h;subst h;first|(exfalso;omega)|(show _<=_;omega)|exact⟨by first|omega|assumption,(S.mem _ hk).1 ((qe.mem _ (ae BL)).1 Am)⟩|exact .inl rfl|exact .inr rfl|exact .inr (.inl rfl)|exact .inr (.inr rfl)|exact .inr (.inr (.inl rfl))|exact rfl);have Wk:=iO;clear BL;have BL:=Wk;clear Wk;refine ad (T.aQ ?_);refine bN (M:=PW) (A:=RT.dc) aW G lD Tg G G G Xf (by repeat (first|exact bQ _ _|refine bA (bR Xf) ?_)) (λavk adS=>?_);refine iS (xs:=[]) (ys:=[.tmp 4]) G G G ?_;refine aP G G acC (Ct (cap:=[.pointer (some ⟨L6,0,none⟩)]) (B:=w0.heap.size) _ hM adS hl hF.few (PT (mb:=mb)) ⟨BL,Am,DY,by omega,by omega,[],0,gW,PU _ _ _⟩) (λr2 w2 hc=>?_);obtain⟨M2,J8,⟨gb,_,_,_,_,es,clock,hW,hI⟩,s2⟩:=hc;replace S:=S.mi s2 (bz _);have qg:∀t v,eT kS es (kv t) v->(((RT.int .i64).sl)).V M w2 (posOf (cL d.2) t) v:=λt v h=>(hI.o t v h).close gv S (by have:=wU (cL d.2) t;omega)
 replace S:=S.back;replace hM:=S.lt gv
 have adT:∀e∈es,∃t∈seen (cL d.2),e.key=kv t:=λe he=>by
  have:e.key∈(seen (cL d.2)).map kv:=by rw[<-hI.k];exact fX he
  obtain⟨t,h1,h2⟩:=cA.1 this;exact⟨t,h1,h2.symm⟩
 have Df:∀t∈seen (cL d.2),NA t/\t.1.length<=12/\t.2.length<=30:=λt ht=>by
  obtain⟨p,hp,rfl⟩:=cA.1 (uK.1 ht);exact⟨hF.Kp p hp,hF.small p hp⟩
 have rK:(seen (cL d.2)).length<=500:=dz (F9 _ _) a11;have De:es.length<=500:=by have:=congrArg List.length hI.k;simp at this;omega
 refine ad (T.aQ (aR l7 G G G gb G ?_));refine aP G G alp (Il _) (λr3 w3 hc=>?_);obtain⟨bs,rfl,YN,_,s3⟩:=hc;replace s3:=s3.toAny M;replace hW:=hW.bP s3;replace gb:=s3.aF gb;replace qg:=λt v h=>(qg t v h).le s3.le
 replace hM:=s3.lt hM;have:=S.size;replace S:=S.aw s3
 refine aP G G alo (FX _ (λe he=>by
  obtain⟨t,h1,h2⟩:=adT e he;exact⟨t,h2,by have:=(Df t h1).2;omega,by have:=(Df t h1).2;omega⟩) (λe he t ht=>by
  obtain⟨t',h1,h2⟩:=adT e he;obtain rfl:=wT (ht.symm.trans h2);exact⟨(Df _ h1).1,by have:=(Df _ h1).2;omega,by have:=(Df _ h1).2;omega⟩) q0 (λts mY lJ=>by
  have:=mY.length_le_of_subset (l₂:=seen (cL d.2)) (λt ht=>(uG hI.k).1 (lJ t ht));omega) YN hW) (λr4 w4 hc=>?_)
 obtain⟨us,mY,lJ,Tq,hou,s4⟩:=hc;obtain rfl:=F0 hF.Kp mY (λt=>(lJ t).trans (uG hI.k)) Tq;have hul:(dQ (cL d.2)).length<=500:=dz (mY.length_le_of_subset (l₂:=seen (cL d.2)) (λt ht=>uK.2 ((jc hF.Kp).1 ht))) rK;replace s4:=s4.toAny M;have Ew:(RT.fd.sl).V M w4 (dQ (cL d.2)) r4:=hou.tell Uq (λb hb h=>by have:=(hou.base b hb).1;have:=hM b h;omega) q0;clear hou;replace hW:=hW.bP s4;replace gb:=s4.aF gb;replace qg:=λt v h=>(qg t v h).le s4.le
 replace hM:=s4.lt hM;have:=S.size;replace S:=S.aw s4;refine Rg.aZ G G (T.aQ (Rg.aZ G G (aL (T.aQ (ab G G (bC j0 G Ew G (ab G G ?_)))))));refine ad (aX ?_);refine dd (σ:=Nat×Value) (λq=>[(4,.pointer (some ⟨L6,0,none⟩)),(5,r4),(6,q.2),(16,r4),(17,.int .i64 ((dQ (cL d.2)).length:Int)),(18,.int .i64 (q.1:Int))]) (λq w=>∃M',Lt M' w/\Step M w0 M' w aC/\Own ((RT.int .i64).sl) 61 M' w w0.heap.size q.2 (((dQ (cL d.2)).take q.1).map (posOf (cL d.2)))/\(RT.fd.sl).V M' w (dQ (cL d.2)) r4/\fY Tryz.prog 24 w mb es clock/\w.heap[L6]? =some (.cells #[.map (some mb)] 238 (0,0))/\(∀t v,eT kS es (kv t) v->(((RT.int .i64).sl)).V M' w (posOf (cL d.2) t) v)/\q.1<=(dQ (cL d.2)).length) (λq=>(dQ (cL d.2)).length-q.1) (0,.slice none 0 0) a14 ?_ ?_
 ·exact⟨M,hM,S,eL _ _ _ _ _,Ew,hW,gb,qg,a8 _⟩
 ·clear hM Ew hW gb qg S;rintro⟨i,u⟩ w ⟨M1,hM,S,ho,Ew,hW,gb,qg,hi⟩;dsimp only at ho hi ⊢;refine T.aQ (cx G G G (ad (aL ?_)));refine bE G (λc6=>?_) (λc6=>?_)
  ·refine aS (aL (aX (T.aQ ?_)));refine cC j0 kF G G G Ew bS q0 (λadm t hg7 Ke=>?_);rw[ar]at hg7;have Tz:=av hg7;have Oe:=Df t (uK.2 ((jc hF.Kp).1 Tz));refine bN (A:=RT.fd) br G kF Tg G G G Ke bS (λakO V9=>?_);refine pT (A:=RT.fd) (M:=M1) kF G G G G G Xf bS hM (λadU alr su wZ avl=>?_);replace Ew:=Ew.le wZ.le;replace ho:=ho.bP wZ;replace hW:=hW.bP wZ;replace gb:=wZ.aF gb;replace qg:=λt v h=>(qg t v h).le wZ.le
   replace hM:=wZ.lt hM;have:=S.size;replace S:=S.aw wZ;refine ad (aH (ab G G (aR l7 G G G gb G ?_)));refine bN (A:=RT.fd) br G kF Tg G G G su bS (λavm adV=>?_);obtain rfl:=kQ adV;obtain⟨kl,zg⟩:=Py t q0 q0;refine Rg.ur l7 Cs qc G G G zg hW (λv8 k8=>?_);have EH:=qg _ _ k8;clear k8;refine fz (A:=((RT.int .i64).sl)) (hn:=by decide) (M:=M1) gF qc Tg G G hM (EH) (.inr ⟨G,G⟩) (λavn avo PY Gb=>?_);replace Ew:=Ew.le Gb.le;replace su:=su.le Tg Gb.le;replace ho:=ho.bP Gb;replace hW:=hW.bP Gb;replace gb:=Gb.aF gb;replace qg:=λt v h=>(qg t v h).le Gb.le
   replace hM:=Gb.lt hM;have:=S.size;replace S:=S.aw Gb;refine dJ (M:=M1) (base:=w0.heap.size) gF qc rfl rfl rfl rfl ho PY bS a11 a11 (S.size) (λadW als avp adX Gc=>?_);replace Ew:=Ew.le Gc.le;replace su:=su.le Tg Gc.le;replace PY:=PY.le Gc.le;replace hW:=hW.step Gc (λh=>ho.kT hW.at_ h);replace gb:=Gc.bU gb (λh=>ho.fK gb Tg h);replace qg:=λt v h=>(qg t v h).le Gc.le
   replace hM:=Gc.lt hM;have:=S.size;replace S:=S.dX Gc ho (bz _);replace ho:=adX;refine Rg.aZ G G (aH (bu G G G q0 (ab G G (ad ?_))));refine⟨G,(i+1,adW),a14,?_,?_⟩
   ·exact⟨als,hM,S,by rw[bY,hg7,dp,dU];exact ho,Ew,hW,gb,qg,by dsimp only;omega⟩
   ·dsimp only;omega
  ·refine cN (T.aQ (ab G G (ab G G (aN G G (Rg.aZ G G (aJ ?_))))));have e:(dQ (cL d.2)).take i=dQ (cL d.2):=bp q0;rw[e]at ho;exact fA rfl rfl rfl ⟨_,_,rfl,Ew.le (lE gv S),ho.close gv S a11,S.back⟩
end Go.K
namespace Go.K
def PZ {α:Type} (A:RT α) (M:aM) (w:World) (v:Value) (x:α):Prop:=∃b o vs,v= .pointer (some ⟨b,o,none⟩)/\A.R M w x vs/\w.rangeAt b o vs
theorem Own.elem {α:Type} {A:RT α} {e:TypeId} {M:aM} {w:World} {base:Nat} {v:Value} {xs:List α} (h:Own A e M w base v xs) (hA:0<A.n) {i:Nat} {x:α} (hx:xs[i]? =some x):
  ∃g cap vs,v= .slice (some ⟨g,0,none⟩) xs.length cap/\M g/\A.R M w x vs/\w.rangeAt g (i*A.n) vs:=by
 obtain⟨⟨C,hr,ha⟩,hm⟩:=h;rcases hr.2 with⟨h1,h2⟩|⟨g,cap,cur,h1,h2,h3,h4,h5,h6,h7⟩
 ·have:xs=[]:=List.eq_nil_of_length_eq_zero h2;subst this;simp at hx
 ·obtain⟨vs,hv,hj⟩:=ha.at_ i x hx;refine ⟨g,cap,vs,h1,hm g (by rw[h1];rfl),hv,λj u hu=> ?_⟩;have h8:=hj j u hu;rw[<-h7,dm]at h8
  split at h8
  ·simp only[World.cell?,h3];simpa using h8
  ·cases h8
section
variable {P:Program} {r:Option Nat} {n:Nat} {L:Sl} {ds:List Deferred} {w:World} {K:Kt} {ops:Array Oper} {rest:List Oper} {d:Nat} {x y:Operand} {ty:TypeId} {pos:String} {af:Array Edge} {α:Type} {A:RT α}
theorem Rg.adY {t e e':TypeId} {i:Operand} {κ:IntKind} {j:Int} {M:aM} {base:Nat} {xs:List α} {v zv:Value} {bytes:Nat} (ht:P.underlying t=some (.slice e)) (hi:TI P e zv A.n bytes) (hA:0<A.n)
  (hx:ev L x=some v) (EN:ev L i=some (.int κ j)) (hd:Nat.blt d n=true) (ho:Own A e' M w base v xs) (hj:0<=j/\j<xs.length)
  (k:∀u a,xs[j.toNat]? =some a->PZ A M w u a->Rg P r n ops rest ((d,u)::L) ds w K):
  Rg P r n ops ({dst:=some d,op:= .indexAddr t x i,type:=ty,pos,after:=af,guard:=none}::rest) L ds w K:=by
 have eZ:j.toNat<xs.length:=by omega
 obtain⟨g,cap,vs,rfl,hm,h1,h2⟩:=ho.elem hA (aq eZ);refine .op a05 G G hd (.pointer (some ⟨g,0+j.toNat*A.n,none⟩)) w (λρ h=>?_) (k _ xs[j.toNat] (aq eZ) ⟨g,_,vs,rfl,h1,by rw[nQ];exact h2⟩);simp only[execOp,h x _ hx,h i _ EN];simp[Instr.indexAt,run_underlying ht,asIntOf,hj,hi.sizeOf,Addr.add_mid]
theorem Rg.adZ {t:TypeId} {u:TypeDesc} {M:aM} {p:Value} {a:α} (hu:P.underlying t=some u) (hf:flat u=true) (hA:A.n=1) (hg:A.agg=false)
  (hx:ev L x=some p) (hd:Nat.blt d n=true) (hp:PZ A M w p a) (k:∀v,A.V M w a v->Rg P r n ops rest ((d,v)::L) ds w K):
  Rg P r n ops ({dst:=some d,op:= .load t x,type:=ty,pos,after:=af,guard:=none}::rest) L ds w K:=by
 obtain⟨b,o,vs,rfl,h1,h2⟩:=hp;have hl:=A.len h1
 match vs,hl with
 |[v],_=>
  refine .op a05 G G hd v w (λρ h=>?_) (k v ⟨[v],h1,by simp[RT.val,hg]⟩);simp only[execOp,h x _ hx];have:=oU (P:=P) hu hf (h2 0 v rfl);simp only[Nat.add_zero]at this;rw[cn,this];simp
 |[],hl=>simp at hl;omega
 |_::_::_,hl=>simp at hl;omega
theorem Rg.P0 {t:TypeId} {fs:TypeDesc} {zv:Value} {bytes:Nat} {M:aM} {p:Value} {a:α} (hu:P.underlying t=some fs) (hf:fs.isRow=true) (hi:TI P t zv A.n bytes) (hg:A.agg=true)
  (hx:ev L x=some p) (hd:Nat.blt d n=true) (hp:PZ A M w p a) (k:∀v,A.V M w a v->Rg P r n ops rest ((d,v)::L) ds w K):
  Rg P r n ops ({dst:=some d,op:= .load t x,type:=ty,pos,after:=af,guard:=none}::rest) L ds w K:=by
 obtain⟨b,o,vs,rfl,h1,h2⟩:=hp;refine .op a05 G G hd (.agg vs.toArray) w (λρ h=>?_) (k _ ⟨vs,h1,by simp[RT.val,hg]⟩);simp only[execOp,h x _ hx];obtain⟨i,Bt,_,Ex,_⟩:=hi.get;have:=run_loadAt_mid (P:=P) w b o t vs fs h2 hu hf (by simp[Bt,Ex,A.len h1]);simp[this]
end
open Go.Proofs
namespace TKBldC
theorem alu:TI Tryz.prog 182 (.agg #[(.slice none 0 0),(.map none),(.int .i64 0),(.int .i64 0)]) 4 48:=by unfold TI;kernel_rfl
theorem alv:placesOf Tryz.prog 182=[(0,1),(1,1),(2,1),(3,1)].map some:=by kernel_rfl
end TKBldC
open TKBldC
set_option maxRecDepth 10000
open Go.Maps (Keyed)
theorem uL:Keyed Tryz.prog 9:=Go.Maps.string_keyed aA
theorem P1 (k:List UInt8) (h:k.length<=140737488355328):∃l,keyOf Tryz.prog 9 (sv k)=some l:=by
 have e1:(⟨k.toArray⟩:ByteArray).size=k.length:=by simp[ByteArray.size]
 exact⟨_,Go.WideMaps.keyOf_string_mk aA (by rw[e1];unfold maxLen;omega)⟩
structure Gd (Z:aM) (M:aM) (w:World) (B:Nat) (f:List UInt8->List Po) (K:List UInt8->Prop) (es:List MapEntry):Prop where
 o:∀k v,eT kS es (sv k) v->Own RT.po 188 M w B v (f k)
 a:∀k k' v v',k≠k'→eT kS es (sv k) v->eT kS es (sv k') v'→kE v v'
 k:∀x,(∃e∈es,e.key=sv x)↔K x
 z:∀k v c,eT kS es (sv k) v->v.ownBlock=some c->Z c
theorem Gd.step {Z M M' N:aM} {w w':World} {B:Nat} {f:List UInt8->List Po} {K:List UInt8->Prop} {es:List MapEntry} (h:Gd Z M w B f K es) (s:Step M w M' w' N) (hn:∀k v b,eT kS es (sv k) v->v.ownBlock=some b->¬N b):Gd Z M' w' B f K es:=
 ⟨λk v hv=>(h.o k v hv).step s λb hb=>hn k v b hv hb,h.a,h.k,h.z⟩
theorem Gd.bP {Z M M':aM} {w w':World} {B:Nat} {f:List UInt8->List Po} {K:List UInt8->Prop} {es:List MapEntry} (h:Gd Z M w B f K es) (s:Step M w M' w' aC):Gd Z M' w' B f K es:=h.step s λ_ _ _ _ _ h=>h
theorem Gd.congr {Z M:aM} {w:World} {B:Nat} {f f':List UInt8->List Po} {K K':List UInt8->Prop} {es:List MapEntry} (h:Gd Z M w B f K es) (hf:∀k,f' k=f k) (hK:∀k,K' k↔K k):Gd Z M w B f' K' es:=
 ⟨λk v hv=>by rw[hf];exact h.o k v hv,h.a,λx=>(h.k x).trans (hK x).symm,h.z⟩
theorem Gd.L7 {Z Z' M:aM} {w:World} {B:Nat} {f:List UInt8->List Po} {K:List UInt8->Prop} {es:List MapEntry} (h:Gd Z M w B f K es) (hz:∀c,Z c->c<w.heap.size->Z' c):Gd Z' M w B f K es:=
 ⟨h.o,h.a,h.k,λk v c hv hc=>hz c (h.z k v c hv hc) ((h.o k v hv).base c hc).2⟩
theorem Gd.put {Z M M2:aM} {w w1 w2:World} {B mb c:Nat} {mes:Array MapEntry} {f:List UInt8->List Po} {K:List UInt8->Prop} {es YZ:List MapEntry} {k0:List UInt8} {v0 v1:Value} {ps:List Po} (h:Gd Z M w B f K es) (hZ:∀c,w.heap.size<=c->Z c) (qA:eT kS es (sv k0) v0)
  (ho1:Own RT.po 188 (mh M v1) w1 B v1 (f k0++ps)) (s1:Step M w (mh M v1) w1 (ng v0)) (hF:∀b,v1.ownBlock=some b->w.heap.size<=b\/v0.ownBlock=some b) (hmb:w1.heap[mb]? =some (.map mes c)) (s2:Step (mh M v1) w1 M2 w2 (λk=>k=mb))
  (BQ:∀zv jz v',eT zv YZ jz v'↔(jz=sv k0/\v'=v1)\/(jz≠sv k0/\eT zv es jz v')) (pX:(YZ.map (·.key)=es.map (·.key)/\∃e∈es,e.key=sv k0)\/(YZ.map (·.key)=es.map (·.key)++[sv k0]/\∀e∈es,e.key≠sv k0)):
  Gd Z M2 w2 B (λk=>if k=k0 then f k0++ps else f k) (λx=>K x\/x=k0) YZ:=by
 have sq:∀k v,eT kS YZ (sv k) v->(k=k0/\v=v1)\/(k≠k0/\eT kS es (sv k) v):=λk v hv=>by
  rcases(BQ kS (sv k) v).1 hv with⟨h3,h4⟩|⟨h3,h4⟩
  ·exact .inl ⟨DV h3,h4⟩
  ·exact .inr ⟨λe=>h3 (by rw[e]),h4⟩
 have Uj:∀k v,k≠k0->eT kS es (sv k) v->kE v1 v:=λk v fw hv=>(h.a k k0 v v0 fw hv qA).symm.grown hF (λb hb=>((h.o k v hv).base b hb).2)
 have Uk:∀k v,k≠k0->eT kS es (sv k) v->Own RT.po 188 (mh M v1) w1 B v (f k):=λk v fw hv=>(h.o k v hv).step s1 (λb hb hk=>h.a k k0 v v0 fw hv qA b hb hk)
 have hnm:∀{v:Value} {xs:List Po},Own RT.po 188 (mh M v1) w1 B v xs->∀b,v.ownBlock=some b->¬b=mb:=λho b hb e=>ho.kT hmb (by rw[<-e];exact hb)
 refine⟨λk v hv=>?_,λk k' v v' fw hv rV=>?_,λx=>?_,λk v c hv hc=>?_⟩
 ·rcases sq k v hv with⟨rfl,rfl⟩|⟨h3,h4⟩
  ·rw[if_pos rfl];exact ho1.step s2 (hnm ho1)
  ·rw[if_neg h3];exact(Uk k v h3 h4).step s2 (hnm (Uk k v h3 h4))
 ·rcases sq k v hv with⟨rfl,rfl⟩|⟨h3,h4⟩
  ·rcases sq k' v' rV with⟨rfl,_⟩|⟨h5,h6⟩
   ·exact absurd G fw
   ·exact Uj k' v' h5 h6
  ·rcases sq k' v' rV with⟨rfl,rfl⟩|⟨h5,h6⟩
   ·exact(Uj k v h3 h4).symm
   ·exact h.a k k' v v' fw h4 h6
 ·have lJ:(∃e∈YZ,e.key=sv x)↔sv x∈YZ.map (·.key):=by simp
  have alw:(∃e∈es,e.key=sv x)↔sv x∈es.map (·.key):=by simp
  rw[lJ,<-h.k x,alw];rcases pX with⟨h3,e,he,hk⟩|⟨h3,_⟩
  ·rw[h3];constructor
   ·exact .inl
   ·rintro(h4|rfl)
    ·exact h4
    ·rw[<-hk];exact fX he
  ·rw[h3,dI,dn];constructor
   ·rintro(h4|h4)
    ·exact .inl h4
    ·exact .inr (DV h4)
   ·rintro(h4|rfl)
    ·exact .inl h4
    ·exact .inr G
 ·rcases sq k v hv with⟨rfl,rfl⟩|⟨h3,h4⟩
  ·rcases hF c hc with h5|h5
   ·exact hZ c h5
   ·exact h.z _ _ c qA h5
  ·exact h.z k v c h4 hc
theorem Ur (Z M:aM) (w:World) (B:Nat):Gd Z M w B (pk []) (λx=>x∈jM []) [] where
 o k v hv:=by
  rcases hv with⟨e,he,_⟩|⟨_,rfl⟩
  ·cases he
  ·exact eL _ _ _ _ _
 a k k' v v' _ hv _:=by
  rcases hv with⟨e,he,_⟩|⟨_,rfl⟩
  ·cases he
  ·exact(kE.nil v').symm
 k x:=by simp[jM]
 z k v c hv hc:=by
  rcases hv with⟨e,he,_⟩|⟨_,rfl⟩
  ·cases he
  ·cases hc
structure Buf (Z M:aM) (w:World) (B b mb:Nat) (vl:Value) (L:List En) (words last:Int) (f:List UInt8->List Po) (K:List UInt8->Prop) (es:List MapEntry) (clock:Nat):Prop where
 at_:w.heap[b]? =some (.cells #[vl,.map (some mb),.int .i64 words,.int .i64 last] 182 (0,0))
 m:M b
 mm:M mb
 hb:Z b
 hmb:Z mb
 l:Own RT.en 74 M w B vl L
 map:fY Tryz.prog 9 w mb es clock
 rows:Gd Z M w B f K es
 zl:∀c,vl.ownBlock=some c->Z c
def oI (Z M:aM) (w:World) (B b:Nat) (L:List En) (words last:Int):Prop:=∃mb vl es clock,Buf Z M w B b mb vl L words last (pk L) (λx=>x∈jM L) es clock
theorem oI.bP {Z M M':aM} {w w':World} {B b:Nat} {L:List En} {words last:Int} (h:oI Z M w B b L words last) (s:Step M w M' w' aC):oI Z M' w' B b L words last:=by
 obtain⟨mb,vl,es,clock,h1,h2,h3,h4,h5,h6,h7,h8,h9⟩:=h;exact⟨mb,vl,es,clock,s.aF h1,(s.mem _ (ae h1)).2 h2,(s.mem _ (ae h7.at_)).2 h3,h4,h5,h6.bP s,h7.bP s,h8.bP s,h9⟩
theorem oI.L7 {Z Z' M:aM} {w:World} {B b:Nat} {L:List En} {words last:Int} (h:oI Z M w B b L words last) (hz:∀c,Z c->c<w.heap.size->Z' c):oI Z' M w B b L words last:=by
 obtain⟨mb,vl,es,clock,h1,h2,h3,h4,h5,h6,h7,h8,h9⟩:=h;exact⟨mb,vl,es,clock,h1,h2,h3,hz _ h4 (ae h1),hz _ h5 (ae h7.at_),h6,h7,h8.L7 hz,λc hc=>hz c (h9 c hc) (h6.base c hc).2⟩
theorem oI.step {Z M M' N:aM} {w w':World} {B b:Nat} {L:List En} {words last:Int} (h:oI Z M w B b L words last) (s:Step M w M' w' N) (hn:∀k,N k->¬Z k):oI Z M' w' B b L words last:=by
 obtain⟨mb,vl,es,clock,h1,h2,h3,h4,h5,h6,h7,h8,h9⟩:=h;exact⟨mb,vl,es,clock,s.bU h1 (λhk=>hn _ hk h4),(s.mem _ (ae h1)).2 h2,(s.mem _ (ae h7.at_)).2 h3,h4,h5,h6.step s (λc hc hk=>hn _ hk (h9 c hc)),h7.step s (λhk=>hn _ hk h5),h8.step s (λk v c hv hc hk=>hn _ hk (h8.z k v c hv hc)),h9⟩
theorem oI.stepT {Z M M' N:aM} {w w':World} {B b:Nat} {L:List En} {words last:Int} (h:oI Z M w B b L words last) (s:Step M w M' w' N) (hn:∀k,N k->∃cs t,w.heap[k]? =some (.cells cs t (0,0))/\t≠182/\t≠74/\t≠188):oI Z M' w' B b L words last:=by
 obtain⟨mb,vl,es,clock,h1,h2,h3,h4,h5,h6,h7,h8,hz⟩:=h;refine⟨mb,vl,es,clock,s.bU h1 (λhk=>?_),(s.mem _ (ae h1)).2 h2,(s.mem _ (ae h7.at_)).2 h3,h4,h5,h6.step s (λc hc hk=>?_),h7.step s (λhk=>?_),h8.step s (λk v c hv hc hk=>?_),hz⟩
 ·obtain⟨cs,t,h9,L8,_⟩:=hn _ hk;rw[h1]at h9;simp at h9;exact L8 h9.2.symm
 ·obtain⟨cs,t,h9,_,L8,_⟩:=hn _ hk;exact h6.fK h9 L8 hc
 ·obtain⟨cs,t,h9,_⟩:=hn _ hk;rw[h7.at_]at h9;cases h9
 ·obtain⟨cs,t,h9,_,_,L8⟩:=hn _ hk;exact(h8.o k v hv).fK h9 L8 hc
def P2 (M Z:aM):aM:=λk=>Z k/\M k
theorem eT.ex (zv:Value) (es:List MapEntry) (key:Value):∃v,eT zv es key v:=by
 by_cases h:∃e∈es,e.key=key
 ·obtain⟨e,he,hk⟩:=h;exact⟨e.val,.inl ⟨e,he,hk,G⟩⟩
 ·exact⟨zv,.inr ⟨λe he hk=>h ⟨e,he,hk⟩,G⟩⟩
def oJ (last:Int) (e:En):Int:=if oA e.1≠0 then oA e.1 else if e.2<=last then 12 else 0
def P3 (L:List En) (tl:List (Fd×Nat)) (i:Nat) (k:List UInt8):List Po:=pk L k++(((dQ tl).take i).filter λt=>decide (dv t=k)).map λt=>((L.length:Int),posOf tl t)
theorem P4 (L:List En) (tl:List (Fd×Nat)) (k:List UInt8):P3 L tl 0 k=pk L k:=by simp[P3]
theorem P5 {L:List En} {tl:List (Fd×Nat)} {i:Nat} {t:Fd} (h:(dQ tl)[i]? =some t) (k:List UInt8):P3 L tl (i+1) k=if k=dv t then P3 L tl i (dv t)++[((L.length:Int),posOf tl t)]else P3 L tl i k:=by
 unfold P3;rw[bY,h,dp,eE,dU]
 split
 ·rename_i e;subst e;simp
 ·rename_i e
  have: ¬dv t=k:=λh=>e h.symm
  simp[this]
theorem Us {L:List En} {e:En} {i:Nat} (h:(dQ (tQ e)).length<=i) (k:List UInt8):P3 L (tQ e) i k=pk (L++[e]) k:=by
 unfold P3;rw[Ul,bp h];rfl
theorem Ut {L:List En} (hF:∀x∈L,iQ x.1) (tl:List (Fd×Nat)) (i:Nat) (k:List UInt8):(P3 L tl i k).length<=L.length+(dQ tl).length:=by
 unfold P3;have h1:=(wW k L 0 hF).1;have h2:=eu (λt=>decide (dv t=k)) ((dQ tl).take i);have h3:=List.length_take_le i (dQ tl);have h4:(pk L k).length<=L.length:=h1;simp only[bM,bW,a7]at*;omega
theorem CB {d:Dc} (hF:iQ d):(dQ (cL d.2)).length<=500:=by
 have h1:=(uJ hF.Kp).nodup.length_le_of_subset (l₂:=(cL d.2).map (·.1)) (λt ht=>(jc hF.Kp).1 ht);have:=hF.many;simp at h1;omega
theorem iQ.term {d:Dc} (hF:iQ d) {t:Fd} (h:t∈dQ (cL d.2)):t.1.length<=12/\t.2.length<=30:=by
 obtain⟨p,hp,rfl⟩:=cA.1 ((jc hF.Kp).1 h);exact hF.small p hp
theorem P7 {Z M:aM} {B:Nat} (w0:World) (hM:Lt M w0) (hB:B<=w0.heap.size) (hZ:∀k,w0.heap.size<=k->Z k):
  Spec Tryz.prog 48 #[] w0 (λv w=>∃M' b,v= .pointer (some ⟨b,0,none⟩)/\Lt M' w/\oI Z M' w B b [] 0 (-1)/\Step M w0 M' w aC):=by
 refine bh (args:=[]) (fn:=Tryz.f48) Tryz.func48 G (n:=4) Tryz.ntmps48 ?_;have S:Step M w0 M w0 aC:=aV;refine T.aQ (Rg.aZ G G (T.aQ ?_));refine Rg.zy M iK G (λmb w1m p1 q1 gW s1=>?_);obtain⟨YY,PV⟩:∃M',M'=ins M mb:=⟨_,rfl⟩;rw[<-PV]at s1;have DY:YY mb:=by rw[PV];exact .inl G
 replace hM:=s1.lt hM;have:=S.size;replace S:=S.aw s1;refine dw (places:=[(0,1),(1,1),(2,1),(3,1)]) ey alu alv rfl ⟨_,_,rfl,rfl,_,_,rfl,rfl,rfl⟩ (out:=[.slice none 0 0,_,.int .i64 0,_]) ⟨1,[_],rfl,rfl,by simp[Value.cells],3,[_],rfl,rfl,by simp[Value.cells],rfl⟩ ?_;refine nS YY G G (λY0 Ue avr avs iO qe=>?_);obtain⟨ad0,P8⟩:∃M',M'=ins YY Y0:=⟨_,rfl⟩;rw[<-P8]at qe;have Y1:ad0 Y0:=by rw[P8];exact .inl G
 change Ue.heap[Y0]? =some (.cells #[.slice none 0 0,.map (some mb),.int .i64 0,.int .i64 (-1)] _ _)at iO;replace DY:=(qe.mem _ (ae gW.at_)).2 DY;replace gW:=gW.bP qe;replace hM:=qe.lt hM;have:=S.size;replace S:=S.aw qe;refine Rg.aZ G G (aJ ?_);exact aK G G ⟨_,_,G,hM,⟨mb,_,[],0,iO,Y1,DY,hZ _ q0,hZ _ q0,eL _ _ _ _ _,gW,Ur _ _ _ _,λc hc=>by cases hc⟩,S⟩
end Go.K
namespace Go.K
open Go.Proofs
namespace TKBldD
theorem I29:TI Tryz.prog 29 (.slice none 0 0) 1 24:=by unfold TI;kernel_rfl
theorem kU:TI Tryz.prog 117 (.slice none 0 0) 1 24:=by unfold TI;kernel_rfl
theorem It:TI Tryz.prog 180 (.map none) 1 8:=by unfold TI;kernel_rfl
theorem E93:Enters Tryz.prog 93:=enters Tryz.func93 rfl Tg
theorem E94:Enters Tryz.prog 94:=enters Tryz.func94 rfl Tg
theorem E96:Enters Tryz.prog 96:=enters Tryz.func96 rfl Tg
theorem E97:Enters Tryz.prog 97:=enters Tryz.func97 rfl Tg
end TKBldD
open TKBldD
set_option maxRecDepth 10000
set_option maxHeartbeats 4000000 in
theorem P9 {Z M:aM} {B b:Nat} {L:List En} {words last:Int} {e:En} {v0:Value} (w0:World) (hM:Lt M w0) (hZ:∀k,w0.heap.size<=k->Z k) (hb:oI Z M w0 B b L words last) (hBw:B<=w0.heap.size) (hv:RT.en.V M w0 e v0) (hl:∀f∈e.1.2,f.1.length<=900000/\f.2.length<=900000) (hLF:∀x∈L,iQ x.1) (hLn:L.length<=1000000) (hw:0<=words/\words<=1000000000):
  Spec Tryz.prog 49 #[.pointer (some ⟨b,0,none⟩),v0] w0 (λv w=>∃M',Lt M' w/\Step M w0 M' w (P2 M Z)/\v= .int .i64 (oJ last e)/\(oJ last e≠0->oI Z M' w B b L words last)/\(oJ last e=0->oI Z M' w B b (L++[e]) (words+((tQ e).length:Int)) e.2)):=by
 obtain⟨mb,vl,es,clock,gb,eK,fH,hB,Km,ho,hW,hR,zl⟩:=hb;have Wh:b≠mb:=λh=>by have:=hW.at_;rw[<-h,gb]at this;cases this
 refine bh (args:=[_,_]) (fn:=Tryz.f49) Tryz.func49 G (n:=89) Tryz.ntmps49 ?_;have S:Step M w0 M w0 (P2 M Z):=(aV).eI a30 (λ_ h=>h.2);refine T.aQ ?_;refine ef (A:=RT.en) G G hM hv G (λu0 w1 dG s0 _=>?_);have:=ae gb;replace eK:=(s0.mem _ this).2 eK;replace gb:=s0.aF gb;replace ho:=ho.bP s0;replace fH:=(s0.mem _ (ae hW.at_)).2 fH;replace hW:=hW.bP s0;replace hR:=hR.bP s0;replace hM:=s0.lt hM;have:=S.size;replace S:=S.aw s0;refine Rg.aZ G G (aL (T.aQ ?_));refine ao (A:=RT.en) (B:=RT.dc) ed G G lD Tg XU G G Tg dG bS (λzX kG=>?_);refine bN (A:=RT.dc) aW G lD Tg G G G kG bS (λyx lx=>?_);refine aP G G E93 (O6 _ hM lx hl) (λr2 w2 hc=>?_);obtain⟨rfl,s2⟩:=hc;have:=ae gb;replace eK:=(s2.mem _ this).2 eK;replace gb:=s2.aF gb;replace dG:=dG.le Tg s2.le;replace ho:=ho.bP s2;replace fH:=(s2.mem _ (ae hW.at_)).2 fH;replace hW:=hW.bP s2;replace hR:=hR.bP s2;replace hM:=s2.lt hM;have:=S.size;replace S:=S.aw s2;refine Rg.aZ G G (T.aQ (ab G G (fm G G G (ad ?_))));refine bE G (λc2=>?_) (λc2=>?_)
 ·refine T.aQ (ab G G (Rg.aZ G G (aJ ?_)));have ea:oJ last e=oA e.1:=if_pos c2;exact aK rfl rfl ⟨_,hM,S,by rw[ea],λ_=>⟨mb,vl,es,clock,gb,eK,fH,hB,Km,ho,hW,hR,zl⟩,λh=>absurd (ea▸h) c2⟩
 ·have hF:iQ e.1:=Ko (by simpa using c2);refine aS (aL (aL ?_));apply vV mixed rfl rfl;intro wD4 sA4;have rE:=sA4 M;have:=ae gb;replace eK:=(rE.mem _ this).2 eK;replace gb:=rE.aF gb;replace dG:=dG.le Tg rE.le;replace ho:=ho.bP rE;replace fH:=(rE.mem _ (ae hW.at_)).2 fH;replace hW:=hW.bP rE;replace hR:=hR.bP rE;replace hM:=rE.lt hM;have:=S.size;replace S:=S.aw rE;refine ao (A:=RT.en) (B:=RT.int .i64) ed G G I3 Tg en1 G G Tg dG bS (λLQ si=>?_);refine Rg.dh ?_;refine bV (M:=M) al G G Xf (by repeat (first|exact bQ _ _|refine bA (bR Xf) ?_)) (λWl=>?_);refine bg (v':= .int .i64 (e.2)) G ?_;replace Wl: -9223372036854775808<=(e.2:Int)/\e.2<=9223372036854775807:=Wl;refine Rg.dh (ab G G (Rg.dh (bm G ⟨_,G⟩ G (Rg.dh (aY (o':=3) ey G G I3 Tg G G (Rg.dh (aR al G G G (by first|assumption|exact ch rE Xf) G (Rg.dh (fM G G G (Rg.dh (fL ?_)))))))))));refine bE G (λc4=>?_) (λc4=>?_)
  ·refine T.aQ (Rg.aZ G G (aJ ?_));have ea:oJ last e=12:=by unfold oJ;rw[if_neg (λh=>h (by simpa using c2)),if_pos c4]
   exact aK rfl rfl ⟨_,hM,S,by rw[ea],λ_=>⟨mb,vl,es,clock,gb,eK,fH,hB,Km,ho,hW,hR,zl⟩,λh=>absurd (ea▸h) Tg⟩
  ·refine aS (T.aQ ?_);refine ao (A:=RT.en) (B:=RT.dc) ed G G lD Tg XU G G Tg dG bS (λYD FH=>?_);refine bN (A:=RT.dc) aW G lD Tg G G G FH bS (λYE Ab=>?_);refine aP G G E94 (Ga _ hM Ab hF hl) (λr6 w6 hc=>?_);obtain⟨a6,b6,rfl,ha,rO,s6⟩:=hc;have:=ae gb;replace eK:=(s6.mem _ this).2 eK;replace gb:=s6.aF gb;replace dG:=dG.le Tg s6.le;replace ho:=ho.bP s6;replace fH:=(s6.mem _ (ae hW.at_)).2 fH;replace hW:=hW.bP s6;replace hR:=hR.bP s6;replace hM:=s6.lt hM;have:=S.size;replace S:=S.aw s6;refine ab G G (cI G G G (cI G G G (aN G G (Rg.aZ G G (aL (T.aQ (ab G G (bC j0 G ha G (ab G G ?_)))))))));refine ad (aX ?_);refine dd (σ:=Nat) (λq=>[(0,.pointer (some ⟨b,0,none⟩)),(3,u0),(7,b6),(30,a6),(31,.int .i64 ((dQ (tQ e)).length:Int)),(32,.int .i64 (q:Int))]) (λq w=>∃M' es clock,Lt M' w/\Step M w0 M' w (P2 M Z)/\cO RT.en M' w u0 e/\(RT.fd.sl).V M' w (dQ (tQ e)) a6/\(((RT.int .i64).sl).sl).V M' w ((dQ (tQ e)).map (posOf (tQ e))) b6/\Buf Z M' w B b mb vl L words last (P3 L (tQ e) q) (λx=>x∈jM L\/x∈((dQ (tQ e)).take q).map dv) es clock/\q<=(dQ (tQ e)).length) (λq=>(dQ (tQ e)).length-q) 0 a14 ?_ ?_
   ·exact⟨_,es,clock,hM,S,dG,ha,rO,⟨gb,eK,fH,hB,Km,ho,hW,hR.congr (λk=>P4 _ _ _) (λk=>by simp),zl⟩,a8 _⟩
   ·clear hM S dG ha rO gb eK fH ho hW hR;rintro i w ⟨M1,es,clock,hM,S,dG,ha,rO,⟨gb,eK,fH,_,_,ho,hW,hR,_⟩,hi⟩;refine T.aQ (cx G G G (ad (aL ?_)));refine bE G (λc8=>?_) (λc8=>?_)
    ·refine aS (aL (aX (T.aQ (ab G G ?_))));refine cC j0 kF G G G ha bS q0 (λalx t SR Qa=>?_);rw[ar]at SR;have Tz:=av SR;have Oe:=hF.term Tz;refine bN (A:=RT.fd) br G kF Tg G G G Qa bS (λaly Qb=>?_);obtain rfl:=kQ Qb;refine ew M1 kF G (λAn acT avz avA pE qO=>?_);obtain⟨CC,Qd⟩:∃M',M'=ins M1 An:=⟨_,rfl⟩;rw[<-Qd]at qO;have DZ:CC An:=by rw[Qd];exact .inl G
     change acT.heap[An]? =some (.cells #[.string ⟨#[]⟩,.string ⟨#[]⟩] _ _)at pE;have:=ae gb;replace eK:=(qO.mem _ this).2 eK;replace gb:=qO.aF gb;replace dG:=dG.le Tg qO.le;replace ha:=ha.le qO.le;replace rO:=rO.le qO.le;replace ho:=ho.bP qO;replace fH:=(qO.mem _ (ae hW.at_)).2 fH;replace hW:=hW.bP qO;replace hR:=hR.bP qO;replace hM:=qO.lt hM;have:=S.size;replace S:=S.aw qO;refine aN G G ?_;refine cY (M:=CC) (vs:=[.string ⟨t.1.toArray⟩,.string ⟨t.2.toArray⟩]) kF G G (Ir G Qb) G G pE DZ (λw9 g9 s9=>?_);have:=ae gb;replace eK:=(s9.mem _ this).2 eK;replace gb:=s9.bU gb a04;have:=ae pE;replace DZ:=(s9.mem _ this).2 DZ;replace dG:=dG.le Tg s9.le;replace ha:=ha.le s9.le;replace rO:=rO.le s9.le;replace ho:=ho.step s9 (λc hc (h:_=_)=>by first|exact ho.fK gb Tg (h▸hc)|exact ho.fK pE Tg (h▸hc));replace fH:=(s9.mem _ (ae hW.at_)).2 fH;replace hW:=hW.step s9 a43;replace hR:=hR.step s9 a19;replace hM:=s9.lt hM;have:=S.size;replace S:=S.trans s9 (λk hk h=>by have h:_=_:=h;subst h;first|(exfalso;omega)|(show _<=_;omega)|exact⟨by first|omega|assumption,(S.mem _ hk).1 ((s9.mem _ (ae pE)).1 DZ)⟩|exact .inl rfl|exact .inr rfl|exact .inr (.inl rfl)|exact .inr (.inr rfl)|exact .inr (.inr (.inl rfl))|exact rfl);have Wm:=g9;clear pE;have pE:=Wm;clear Wm;refine ad (T.aQ (eC (vs:=[.string ⟨t.1.toArray⟩,.string ⟨t.2.toArray⟩]) br G kF G G G pE ?_))
     refine aP G G E95 (PD (t:=t) _ hM q0 q0) (λr10 w10 hc=>?_);obtain⟨rfl,qv⟩:=hc;have:=ae gb;replace eK:=(qv.mem _ this).2 eK;replace gb:=qv.aF gb;replace dG:=dG.le Tg qv.le;replace ha:=ha.le qv.le;replace rO:=rO.le qv.le;replace ho:=ho.bP qv;replace fH:=(qv.mem _ (ae hW.at_)).2 fH;replace hW:=hW.bP qv;replace hR:=hR.bP qv;replace hM:=qv.lt hM;have:=S.size;replace S:=S.aw qv;refine Rg.aZ G G ?_;obtain⟨v10,k8⟩:=eT.ex kS es (sv (dv t));apply T.n4 21 [0,1,2,3,4,5,6,7,8,9,10] 2 (ng v10) mixed rfl rfl rfl rfl;intro Ge Y2;have ej:=Y2 CC;have:=ae gb;replace eK:=(ej.mem _ this).2 eK;replace gb:=ej.aF gb;replace dG:=dG.le Tg ej.le;replace ha:=ha.le ej.le;replace rO:=rO.le ej.le;replace ho:=ho.bP ej;replace fH:=(ej.mem _ (ae hW.at_)).2 fH;replace hW:=hW.bP ej;replace hR:=hR.bP ej;replace hM:=ej.lt hM;have:=S.size;replace S:=S.aw ej;refine ab G G (Rg.dh (bm G ⟨_,G⟩ G (Rg.dh (aY (o':=1) ey G G It Tg G G (Rg.dh (aR iK G G G (by first|assumption|exact ch ej Xf) G (Rg.dh (ab G G (Rg.dh (ab G G (Rg.dh ?_)))))))))));refine bm G ⟨_,G⟩ G (Rg.dh (aY (o':=1) ey G G It Tg G G (Rg.dh (aR iK G G G (by first|assumption|exact ch ej Xf) G (Rg.dh (ab G G (Rg.dh ?_)))))));obtain⟨kl,zg⟩:=P1 (dv t) (by unfold dv;simp;omega);refine Rg.ur iK uL kU G G G zg hW (λalz alA=>?_);obtain rfl:v10=alz:=hW.val_one k8 alA;have yI:=Ut hLF (tQ e) i (dv t);have rW:(dQ (tQ e)).length<=500:=CB hF;refine Rg.dh (ab G G (Rg.dh (bm G ⟨_,G⟩ G (Rg.dh (aY (o':=0) ey G G I29 Tg G G (Rg.dh (aR eG G G G (by first|assumption|exact ch ej Xf) G (Rg.dh (jq eG G ho G (Rg.dh (ab G G ?_)))))))))))
     refine Rg.dh (ab G G (Rg.dh ?_));refine cC gF qc rfl rfl rfl rO bS a11 (λu18 ps ad2 Y3=>?_);rw[ar,ek,SR]at ad2;obtain rfl:=aI ad2;refine Rg.dh ?_;refine bB az G G G G G Y3 bS (λv19 Uu=>?_);refine Rg.dh (dw (places:=[(0,1),(1,1)]) cw jg TT rfl ⟨_,_,rfl,rfl,_,_,rfl,rfl,rfl⟩ (out:=[_,_]) ⟨0,[_],rfl,rfl,by simp[Value.cells],1,[_],rfl,jl Uu,by simp[Value.cells],rfl⟩ ?_);have Hz:RT.po.V CC _ ((L.length:Int),posOf (tQ e) t) _:=fJ (hU q0) Uu rfl rfl rfl rfl;refine Rg.dh (fL ?_);have sm:=hR.o _ _ k8;refine ⟨jo ⟨kd,⟨cP.nilCheck G,⟨kj ey G It Tg,⟨gR G gb (λh=>sm.fK gb Tg h),⟨kd,⟨kd,⟨cP.nilCheck G,⟨kj ey G It Tg,⟨gR G gb (λh=>sm.fK gb Tg h),⟨kd,⟨cP.ur iK uL kU G G zg hW (λh=>sm.kT hW.at_ h),trivial⟩⟩⟩⟩⟩⟩⟩⟩⟩⟩⟩,?_⟩;have kp:=kn (ng v10) Ge;refine fz (A:=RT.po) (hn:=by decide) (M:=CC) bJ jg Tg G G hM (Hz) (.inl G) (λY4 alB D0 mP=>?_);have:=ae gb;replace eK:=(mP.mem _ this).2 eK;replace gb:=mP.aF gb;replace dG:=dG.le Tg mP.le;replace ha:=ha.le mP.le;replace rO:=rO.le mP.le;replace ho:=ho.bP mP;replace fH:=(mP.mem _ (ae hW.at_)).2 fH;replace hW:=hW.bP mP;replace hR:=hR.bP mP;replace hM:=mP.lt hM;have:=S.size;replace S:=S.aw mP;refine(fun(kp:fG _ _ _)=>ad ⟨G,G,λ_=>kp,?_⟩) a02;refine Rg.nk (M:=CC) (base:=B) bJ jg rfl rfl rfl rfl (hR.o _ _ k8) D0 bS a11 a11 ah2 (λv22 w22 alD yP alE=>?_)
     have sm:=hR.o _ _ k8;have aqW:=hW.at_;have ad3:v10.ownBlock≠some mb:=sm.kT hW.at_;have Wn:=ho.step yP (λc hc h=>ho.jy sm Tg hc h);have Iu:=(yP.mem _ (ae hW.at_)).2 fH;have Uv:=hW.step yP ad3;have ad4:=yP.bU gb (λh=>sm.fK gb Tg h);have Y5:=(yP.mem _ (ae gb)).2 eK;have S22:=S.trans yP (λk hk h=>⟨hR.z _ _ k k8 h,(S.mem k hk).1 (sm.mut_ k h)⟩);have alF:=yP.lt hM;replace dG:=dG.le Tg yP.le;replace ha:=ha.le yP.le;replace rO:=rO.le yP.le;refine(fun(kp:fG _ _ _)=>ad ⟨G,G,λ_=>kp,?_⟩) a02;refine Rg.Um iK uL G G G zg Uv Iu (λw23 alG alH alI Y6 Y7 SS=>?_);have alJ:=hR.put (λc hc=>hZ c ah2) k8 alD yP alE Uv.at_ SS Y7 Y6;replace dG:=dG.le Tg SS.le;replace ha:=ha.le SS.le;replace rO:=rO.le SS.le;have alK:=Wn.step SS (λc hc (h:c=mb)=>Wn.kT Uv.at_ (h▸hc));have alL:=SS.bU ad4 Wh;have Y8:=(SS.mem _ (ae ad4)).2 Y5;have Y9:=(SS.mem _ (ae Uv.at_)).2 Iu;have alM:=SS.lt alF;have S23:=S22.trans SS (λk hk (h:k=mb)=>⟨by rw[h];exact Km,(S22.mem k hk).1 (by rw[h];exact Iu)⟩);refine ad ⟨G,G,λh=>absurd G h,nT (aH (bu G G G q0 (ab G G (ad ?_))))⟩;refine⟨G,i+1,a14,?_,?_⟩
     ·exact⟨_,alG,alH,alM,S23,dG,ha,rO,⟨alL,Y8,Y9,hB,Km,alK,alI,alJ.congr (λk=>P5 SR k) (λk=>by rw[bY,SR,dp,dU,dI,or_assoc];simp),zl⟩,by omega⟩
     ·omega
    ·refine cN (aL ?_);apply T.n4 6 [0,1,2,3,4] 3 (ng vl) mixed rfl rfl rfl rfl;intro Pc Yu;have jh:=Yu M1;have:=ae gb;replace eK:=(jh.mem _ this).2 eK;replace gb:=jh.aF gb;replace dG:=dG.le Tg jh.le;replace ha:=ha.le jh.le;replace rO:=rO.le jh.le;replace ho:=ho.bP jh;replace fH:=(jh.mem _ (ae hW.at_)).2 fH;replace hW:=hW.bP jh;replace hR:=hR.bP jh;replace hM:=jh.lt hM;have:=S.size;replace S:=S.aw jh;refine ab G G (Rg.dh (ab G G (Rg.dh (bm G ⟨_,G⟩ G (Rg.dh (aY (o':=0) ey G G I29 Tg G G (Rg.dh (aR eG G G G gb G (bg (v':=vl) G (Rg.dh ?_))))))))));refine bN (A:=RT.en) ed G Hx Tg G G G dG bS (λKf wR=>?_);refine Rg.dh (fL (⟨jo ⟨kd,⟨kd,⟨cP.nilCheck G,⟨kj ey G I29 Tg,⟨gR G gb (λh=>ho.fK gb Tg h),trivial⟩⟩⟩⟩⟩,?_⟩));have kp:=kn (ng vl) Pc;refine aP G G E96 (PR _ hM wR (by have:=hF.few;omega)) (λWo Wp hc=>?_);obtain⟨Ao,uM⟩:=hc;have:=ae gb;replace eK:=(uM.mem _ this).2 eK;replace gb:=uM.aF gb;replace dG:=dG.le Tg uM.le;replace ha:=ha.le uM.le;replace rO:=rO.le uM.le;replace ho:=ho.bP uM;replace fH:=(uM.mem _ (ae hW.at_)).2 fH;replace hW:=hW.bP uM;replace hR:=hR.bP uM;replace hM:=uM.lt hM;have:=S.size;replace S:=S.aw uM;refine(fun(kp:fG _ _ _)=>ad ⟨G,G,λ_=>kp,?_⟩) a02;refine fz (A:=RT.en) (hn:=by decide) (M:=M1) eG Hx Tg G G hM (Ao) (.inl G) (λaqY aqZ Za p8=>?_);have:=ae gb;replace eK:=(p8.mem _ this).2 eK
     replace gb:=p8.aF gb;replace dG:=dG.le Tg p8.le;replace ha:=ha.le p8.le;replace rO:=rO.le p8.le;replace Ao:=Ao.le p8.le;replace ho:=ho.bP p8;replace fH:=(p8.mem _ (ae hW.at_)).2 fH;replace hW:=hW.bP p8;replace hR:=hR.bP p8;replace hM:=p8.lt hM;have:=S.size;replace S:=S.aw p8;refine(fun(kp:fG _ _ _)=>ad ⟨G,G,λ_=>kp,?_⟩) a02;refine Rg.nk (M:=M1) (base:=B) eG Hx rfl rfl rfl rfl ho Za bS a11 a11 ah2 (λGf aq0 Zb xV alN=>?_);replace eK:=(xV.mem _ (ae gb)).2 eK
     have zl':∀c,Gf.ownBlock=some c->Z c:=λc hc=>by
      rcases alN c hc with h|h
      ·exact hZ c ah2
      ·exact zl c h
     replace hR:=hR.step xV (λk v c hv hc h=>(hR.o k v hv).jy ho Tg hc h);replace fH:=(xV.mem _ (ae hW.at_)).2 fH;replace hW:=hW.step xV (λh=>ho.kT hW.at_ h);replace gb:=xV.bU gb (λh=>ho.fK gb Tg h);replace dG:=dG.le Tg xV.le;replace S:=S.trans xV (λk hk h=>⟨zl k h,(S.mem k hk).1 (ho.mut_ k h)⟩);replace hM:=xV.lt hM;replace ho:=Zb;obtain⟨M13,alO⟩:∃M',M'=mh M1 Gf:=⟨_,rfl⟩;rw[<-alO]at hR fH dG S hM ho eK;refine(fun(kp:fG _ _ _)=>ad ⟨G,G,λ_=>kp,?_⟩) a02;refine bm G ⟨_,G⟩ G (ad ⟨G,G,λh=>absurd G h,aY (o':=0) ey G G I29 Tg G G (ad ⟨G,G,λh=>absurd G h,?_⟩)⟩);refine cv (M:=M13) I29 rfl rfl gb rfl aa2 eK (λZc Qe pF=>?_);change Zc.heap[_]? =some (Obj.cells #[Gf,.map (some mb),.int .i64 words,.int .i64 last] _ _)at Qe;have:=ae gb;replace eK:=(pF.mem _ this).2 eK;replace dG:=dG.le Tg pF.le;replace ho:=ho.step pF (λc hc (h:_=_)=>by first|exact ho.fK gb Tg (h▸hc)|exact ho.fK pE Tg (h▸hc));replace fH:=(pF.mem _ (ae hW.at_)).2 fH;replace hW:=hW.step pF a43;replace hR:=hR.step pF a19;replace hM:=pF.lt hM;have:=S.size;replace S:=S.trans pF (λk hk h=>by have h:_=_:=h;subst h;first|(exfalso;omega)|(show _<=_;omega)|exact⟨by first|omega|assumption,(S.mem _ hk).1 ((pF.mem _ (ae gb)).1 eK)⟩|exact .inl rfl|exact .inr rfl|exact .inr (.inl rfl)|exact .inr (.inr rfl)|exact .inr (.inr (.inl rfl))|exact rfl)
     have PA:=Qe;clear gb;have gb:=PA;clear PA;refine ad ⟨G,G,λh=>absurd G h,nT (aL ?_)⟩;apply T.n4 6 [0,1,2,3] 1 aC mixed rfl rfl rfl rfl;intro Uw Qf;have qh:=Qf M13;have:=ae gb;replace eK:=(qh.mem _ this).2 eK;replace gb:=qh.aF gb;replace dG:=dG.le Tg qh.le;replace ho:=ho.bP qh;replace fH:=(qh.mem _ (ae hW.at_)).2 fH;replace hW:=hW.bP qh;replace hR:=hR.bP qh;replace hM:=qh.lt hM;have:=S.size;replace S:=S.aw qh;refine ab G G (Rg.dh (bm G ⟨_,G⟩ G (Rg.dh (aY (o':=2) ey G G I3 Tg G G (Rg.dh (aR al G G G (by first|assumption|exact ch qh Xf) G (Rg.dh ?_)))))));refine ao (A:=RT.en) (B:=RT.dc) ed G G lD Tg XU G G Tg dG bS (λaq1 Zd=>?_);refine Rg.dh ?_;refine bN (A:=RT.dc) aW G lD Tg G G G Zd bS (λad6 Qg=>?_);refine Rg.dh (fL (⟨jo ⟨kd,⟨cP.nilCheck G,⟨kj ey G I3 Tg,⟨gR G gb (λh=>h),trivial⟩⟩⟩⟩,?_⟩));have kp:=kn aC Uw;refine aP G G E97 (FR _ hM Qg hl hF.few) (λr14 Ny hc=>?_);obtain⟨rfl,jD⟩:=hc;have:=ae gb;replace eK:=(jD.mem _ this).2 eK;replace gb:=jD.aF gb;replace dG:=dG.le Tg jD.le;replace ho:=ho.bP jD;replace fH:=(jD.mem _ (ae hW.at_)).2 fH;replace hW:=hW.bP jD;replace hR:=hR.bP jD;replace hM:=jD.lt hM;have:=S.size;replace S:=S.aw jD;refine(fun(kp:fG _ _ _)=>ad ⟨G,G,λ_=>kp,?_⟩) a02;have:=hF.many;refine bu G G G q0 (ad ⟨G,G,λh=>absurd G h,bm G ⟨_,G⟩ G (ad ⟨G,G,λh=>absurd G h,aY (o':=2) ey G G I3 Tg G G (ad ⟨G,G,λh=>absurd G h,?_⟩)⟩)⟩)
     refine cv (M:=M13) I3 G G gb G (G) eK (λZe Qh pG=>?_);change Ze.heap[_]? =some (Obj.cells #[Gf,.map (some mb),.int .i64 (words+((tQ e).length:Int)),.int .i64 last] _ _)at Qh;have:=ae gb;replace eK:=(pG.mem _ this).2 eK;replace dG:=dG.le Tg pG.le;replace ho:=ho.step pG (λc hc (h:_=_)=>by first|exact ho.fK gb Tg (h▸hc)|exact ho.fK pE Tg (h▸hc));replace fH:=(pG.mem _ (ae hW.at_)).2 fH;replace hW:=hW.step pG a43;replace hR:=hR.step pG a19;replace hM:=pG.lt hM;have:=S.size;replace S:=S.trans pG (λk hk h=>by have h:_=_:=h;subst h;first|(exfalso;omega)|(show _<=_;omega)|exact⟨by first|omega|assumption,(S.mem _ hk).1 ((pG.mem _ (ae gb)).1 eK)⟩|exact .inl rfl|exact .inr rfl|exact .inr (.inl rfl)|exact .inr (.inr rfl)|exact .inr (.inr (.inl rfl))|exact rfl);have PA:=Qh;clear gb;have gb:=PA;clear PA;refine ad ⟨G,G,λh=>absurd G h,nT (T.aQ (ab G G ?_))⟩;refine ao (A:=RT.en) (B:=RT.int .i64) ed G G I3 Tg en1 G G Tg dG bS (λaq2 alP=>?_);refine bV (M:=M13) al G G Xf (by repeat (first|exact bQ _ _|refine bA (bR Xf) ?_)) (λQi=>?_);refine bg (v':= .int .i64 (e.2)) G ?_;replace Qi: -9223372036854775808<=(e.2:Int)/\e.2<=9223372036854775807:=Qi;refine bm G ⟨_,G⟩ G (aY (o':=3) ey G G I3 Tg G G ?_);refine cv (M:=M13) I3 G G gb G (G) eK (λWq Kv j9=>?_)
     change Wq.heap[_]? =some (Obj.cells #[Gf,.map (some mb),.int .i64 (words+((tQ e).length:Int)),.int .i64 e.2] _ _)at Kv;have:=ae gb;replace eK:=(j9.mem _ this).2 eK;replace dG:=dG.le Tg j9.le;replace ho:=ho.step j9 (λc hc (h:_=_)=>by first|exact ho.fK gb Tg (h▸hc)|exact ho.fK pE Tg (h▸hc));replace fH:=(j9.mem _ (ae hW.at_)).2 fH;replace hW:=hW.step j9 a43;replace hR:=hR.step j9 a19;replace hM:=j9.lt hM;have:=S.size;replace S:=S.trans j9 (λk hk h=>by have h:_=_:=h;subst h;first|(exfalso;omega)|(show _<=_;omega)|exact⟨by first|omega|assumption,(S.mem _ hk).1 ((j9.mem _ (ae gb)).1 eK)⟩|exact .inl rfl|exact .inr rfl|exact .inr (.inl rfl)|exact .inr (.inr rfl)|exact .inr (.inr (.inl rfl))|exact rfl);have PA:=Kv;clear gb;have gb:=PA;clear PA;refine ad (T.aQ (Rg.aZ G G (aJ ?_)));have ea:oJ last e=0:=by unfold oJ;rw[if_neg (λh=>h (by simpa using c2)),if_neg c4]
     exact aK rfl rfl ⟨_,hM,S,by rw[ea],λh=>absurd ea h,λ_=>⟨mb,_,es,clock,gb,eK,fH,hB,Km,ho,hW,hR.congr (λk=>(Us q0 k).symm) (λk=>by rw[Iq,dI,bp q0]),zl'⟩⟩
end Go.K
namespace Go.K
open Go.Proofs
namespace TKBldE
theorem kU:TI Tryz.prog 117 (.slice none 0 0) 1 24:=by unfold TI;kernel_rfl
theorem It:TI Tryz.prog 180 (.map none) 1 8:=by unfold TI;kernel_rfl
theorem E98:Enters Tryz.prog 98:=enters Tryz.func98 rfl Tg
theorem E99:Enters Tryz.prog 99:=enters Tryz.func99 rfl Tg
theorem L9:Enters Tryz.prog 100:=enters Tryz.func100 rfl Tg
end TKBldE
open TKBldE
set_option maxRecDepth 10000
theorem fY.Ks {P:Program} {kt:TypeId} {w:World} {b clock:Nat} {es:List MapEntry} (hk:P.underlying kt=some .string) (h:fY P kt w b es clock):∃ks:List (List UInt8),es.map (·.key)=ks.map sv/\ks.Nodup:=by
 have key:∀es:List MapEntry,(∀e∈es,∃l,keyOf P kt e.key=some l)->∃ks:List (List UInt8),es.map (·.key)=ks.map sv:=by
  intro es
  induction es with
  |nil=>exact λ_=>⟨[],rfl⟩
  |cons e es ih=>
   intro h;obtain⟨ks,h1⟩:=ih λx hx=>h x (cu _ hx)
   obtain⟨l,hl⟩:=h e (bO ..);obtain⟨x,h3,_,h4⟩:=Maps.keyOf_str hk hl;exact⟨x::ks,by simp only[eV,h1,h3]⟩
 obtain⟨ks,h1⟩:=key es h.ok;refine ⟨ks,h1,?_⟩;have h3:=eo.2 h.keys;rw[h1]at h3;exact(eo.1 h3).imp λh e=>h (by rw[e])
theorem Gg {M:aM} {w:World}:∀{l:List (List UInt8)},(∀x∈l,x.length<=140737488355328)->fN RT.str M w l (l.map Go.Proofs.encStr)
 |[],_=>rfl
 |x::l,h=>⟨[.string ⟨x.toArray⟩],_,rfl,⟨rfl,h x (bO ..)⟩,Gg λy hy=>h y (cu _ hy)⟩
theorem Qj (M:aM) (w:World) (M':aM) (w':World) (x:List UInt8) (vs:List Value) (h:RT.str.R M w x vs):RT.str.R M' w' x vs:=h
theorem xW {L:List En} (hF:∀x∈L,iQ x.1):∀k∈jM L,k.length<=43:=λk hk=>by
 obtain⟨e,he,h1⟩:=List.mem_flatMap.1 hk;obtain⟨t,ht,rfl⟩:=cA.1 h1;have:=(hF e he).term ht;unfold dv;simp;omega
theorem xc {L:List En} (hF:∀x∈L,iQ x.1):(jM L).length<=500*L.length:=by
 induction L with
 |nil=>simp[jM]
 |cons e L ih=>
  have h1:=ih λx hx=>hF x (cu _ hx)
  have h2:=CB (hF e (bO ..));show((dQ (tQ e)).map dv++jM L).length<=_;rw[bM,bW,cJ];have h2:(dQ (tQ e)).length<=500:=h2;omega
theorem Iv {Z M:aM} {B b:Nat} {L:List En} {words last:Int} (w0:World) (hM:Lt M w0) (hb:oI Z M w0 B b L words last) (hF:∀x∈L,iQ x.1) (hLn:L.length<=1000000):
  Spec Tryz.prog 50 #[.pointer (some ⟨b,0,none⟩)] w0 (λv w=>(RT.str.sl).V M w (keysOf L) v/\Step M w0 M w aC):=by
 obtain⟨mb,vl,es,clock,gb,eK,fH,hB,Km,ho,hW,hR,zl⟩:=hb;obtain⟨ks,DA,mY⟩:=hW.Ks aA
 have ia:∀x,x∈ks↔x∈jM L:=λx=>by
  rw[<-hR.k x];constructor
  ·intro hx;have:sv x∈es.map (·.key):=by rw[DA];exact fX hx
   obtain⟨e,he,h⟩:=cA.1 this;exact⟨e,he,h⟩
  ·rintro⟨e,he,h⟩;have:sv x∈ks.map sv:=by rw[<-DA,<-h];exact fX he
   obtain⟨y,hy,h1⟩:=cA.1 this;rw[<-DV h1];exact hy
 have hkn:ks.length<=500000000:=by
  have h1:=mY.length_le_of_subset (l₂:=jM L) (λx hx=>(ia x).1 hx);have h2:=xc hF;omega
 have hen:es.length=ks.length:=by have:=congrArg List.length DA;simpa using this
 refine bh (args:=[_]) (fn:=Tryz.f50) Tryz.func50 G (n:=9) Tryz.ntmps50 ?_;have S:Step M w0 M w0 aC:=aV;refine T.aQ (Rg.aZ G G (T.aQ (ab G G (bm G ⟨_,G⟩ G (aY (o':=1) ey G G It Tg G G (aR iK G G G gb G (bg (v':= .map (some mb)) G ?_)))))));refine aP G G E99 (Is _ _) (λr w1 hc=>?_);obtain⟨rfl,hw1⟩:=hc;have s1:Step M w0 M w1 aC:=by rw[hw1];exact ei _ w0 _
 have OH:=BR hw1;have:=ae gb;replace eK:=(s1.mem _ this).2 eK;replace gb:=s1.aF gb;replace fH:=(s1.mem _ (ae hW.at_)).2 fH;replace hW:=hW.bP s1;replace hM:=s1.lt hM;have:=S.size;replace S:=S.aw s1;obtain⟨m,hO,ad7,we⟩:=hW.alf aA fH (by unfold maxLen;omega) ks DA;refine aP G G E98 (DX hO OH q0) (λr2 w2 hc=>?_);obtain⟨⟨ss,hss,qg,_⟩,s2⟩:=hc;have Xt:ss.Perm ks:=hss.trans ad7;have hmp:=List.mergeSort_perm ss λx y=>decide (x<=y)
 have pX:(ss.mergeSort λx y=>decide (x<=y))=keysOf L:=YT (L0 (Xt.nodup_iff.2 mY)) (pD L) λx=>by rw[hmp.mem_iff,Xt.mem_iff,ia,mO]
 have hlen:ss.length=(keysOf L).length:=by rw[<-pX,List.length_mergeSort]
 rw[pX,hlen]at qg;have alR:∀x∈keysOf L,x.length<=140737488355328:=λx hx=>by have:=xW hF x (mO.1 hx);omega
 have sV:Own RT.str 9 (rN r2) w2 w1.heap.size r2 (keysOf L):=⟨⟨_,qg,Gg alR⟩,λb hb=>hb⟩;have yL:(RT.str.sl).V M w2 (keysOf L) r2:=sV.tell Qj (λb hb h=>by have:=(sV.base b hb).1;have:=hM b h;omega) (by have:=Xt.length_eq;omega);have:=ae gb;replace eK:=(s2.mem _ this).2 eK;replace gb:=s2.aF gb;replace fH:=(s2.mem _ (ae hW.at_)).2 fH;replace hW:=hW.bP s2;replace hM:=s2.lt hM;have:=S.size;replace S:=S.aw s2;refine Rg.aZ G G (aJ ?_);exact aK G G ⟨yL,S⟩
theorem Iw {Z M:aM} {B b:Nat} {L:List En} {words last:Int} {k:List UInt8} (w0:World) (hM:Lt M w0) (hb:oI Z M w0 B b L words last) (hF:∀x∈L,iQ x.1) (hLn:L.length<=1000000) (zg:k.length<=140737488355328):
  Spec Tryz.prog 51 #[.pointer (some ⟨b,0,none⟩),sv k] w0 (λv w=>(RT.po.sl).V M w (pk L k) v/\Step M w0 M w aC):=by
 have gv:=hM;obtain⟨mb,vl,es,clock,gb,eK,fH,hB,Km,ho,hW,hR,zl⟩:=hb;obtain⟨kl,EX⟩:=P1 k zg;obtain⟨yI,hpa⟩:=wW k L 0 hF;replace yI:(pk L k).length<=L.length:=yI;replace hpa:∀p∈pk L k,_:=hpa;refine bh (args:=[_,_]) (fn:=Tryz.f51) Tryz.func51 G (n:=30) Tryz.ntmps51 ?_;have S:Step M w0 M w0 aC:=aV;refine T.aQ (Rg.aZ G G (T.aQ (Rg.aZ G G (aL (T.aQ (ab G G ?_))))));refine bm G ⟨_,G⟩ G (aY (o':=1) ey G G It Tg G G (aR iK G G G gb G (bg (v':= .map (some mb)) G (ab G G ?_))));refine Rg.ur iK uL kU G G G EX hW (λZf k8=>?_);have sm:=hR.o _ _ k8;have NB:∀c,Zf.ownBlock=some c->c<w0.heap.size:=λc hc=>(sm.base c hc).2
 clear hR hW ho;refine jq bJ G sm G (ab G G (ad (aX ?_)));refine dd (σ:=Nat×Value) (λq=>[(5,q.2),(13,Zf),(14,.int .i64 ((pk L k).length:Int)),(15,.int .i64 (q.1:Int))]) (λq w=>∃M',Lt M' w/\Step M w0 M' w aC/\Own RT.po 188 M' w w0.heap.size q.2 ((pk L k).take q.1)/\Own RT.po 188 M' w B Zf (pk L k)/\q.1<=(pk L k).length) (λq=>(pk L k).length-q.1) (0,.slice none 0 0) a00 ?_ ?_
 ·exact⟨M,hM,S,eL _ _ _ _ _,sm,a8 _⟩
 ·clear hM S sm;rintro⟨i,u⟩ w ⟨M1,hM,S,hu,sm,hi⟩;dsimp only at hu hi ⊢;refine T.aQ (cx G G G (ad (aL ?_)));refine bE G (λc3=>?_) (λc3=>?_)
  ·refine aS (aL (aX (T.aQ ?_)));refine Rg.adY bJ jg Tg G G G sm q0 (λu4 p HS xM=>?_);rw[ar]at HS;have hp:=hpa p (av HS);refine Rg.P0 (A:=RT.po) cw G jg G G G xM (λv4 qu=>?_);refine pT (A:=RT.po) (M:=M1) jg G G G G G Xf bS hM (λYa Yb nv pq ad9=>?_);replace hu:=hu.bP pq;replace sm:=sm.bP pq;replace hM:=pq.lt hM;have:=S.size;replace S:=S.aw pq;refine ad ?_;apply T.n4 5 [0,1,2] 3 aC mixed rfl rfl rfl rfl;intro wD5 sA5;have Ux:=sA5 M1;replace nv:=nv.le Tg Ux.le;replace hu:=hu.bP Ux;replace sm:=sm.bP Ux;replace hM:=Ux.lt hM;have:=S.size;replace S:=S.aw Ux;refine ab G G (Rg.dh ?_);refine ao (M:=M1) (A:=RT.po) (B:=RT.int .i64) cw G G I3 Tg (SP) G G Tg Xf (by repeat (first|exact bQ _ _|refine bA (bR Xf) ?_)) (λadl Kd=>?_);refine Rg.dh ?_;refine bV (M:=M1) al G G Xf (by repeat (first|exact bQ _ _|refine bA (bR Xf) ?_)) (λaea=>?_);refine Rg.dh ?_;refine ao (M:=M1) (A:=RT.po) (B:=(RT.int .i64).sl) cw G G qc Tg (XM) G G Tg Xf (by repeat (first|exact bQ _ _|refine bA (bR Xf) ?_)) (λakw J7=>?_);refine Rg.dh ?_;refine bB (M:=M1) az G G G G G Xf (by repeat (first|exact bQ _ _|refine bA (bR Xf) ?_)) (λavJ aeb=>?_);refine Rg.dh (fL ?_);obtain⟨bb,oo,cs,ee,fr,rfl,oc,_⟩:=Kd.float;refine ⟨jo ⟨kd,⟨kj cw G I3 Tg,⟨gR G oc (λh=>h),trivial⟩⟩⟩,?_⟩;have kp:=kn aC wD5;refine aP G G L9 (Al hM aeb q0) (λv5 w5 hc=>?_)
   obtain⟨pA,s5⟩:=hc;replace nv:=nv.le Tg s5.le;replace hu:=hu.bP s5;replace sm:=sm.bP s5;replace hM:=s5.lt hM;have:=S.size;replace S:=S.aw s5;refine(fun(kp:fG _ _ _)=>ad ⟨G,G,λ_=>kp,?_⟩) a02;refine dw (places:=[(0,1),(1,1)]) cw jg TT rfl ⟨_,_,rfl,rfl,_,_,rfl,rfl,rfl⟩ (out:=[_,_]) ⟨0,[_],rfl,rfl,by simp[Value.cells],1,[_],rfl,jl pA,by simp[Value.cells],rfl⟩ ?_;have Hz:RT.po.V M1 _ p _:=fJ (hU aea) pA rfl rfl rfl rfl;refine(fun(kp:fG _ _ _)=>ad ⟨G,G,λ_=>kp,?_⟩) a02;refine fz (A:=RT.po) (hn:=by decide) (M:=M1) bJ jg Tg G G hM (Hz) (.inl G) (λaec alS Qk uN=>?_);replace nv:=nv.le Tg uN.le;replace pA:=pA.le uN.le;replace hu:=hu.bP uN;replace sm:=sm.bP uN;replace hM:=uN.lt hM;have:=S.size;replace S:=S.aw uN;refine(fun(kp:fG _ _ _)=>ad ⟨G,G,λ_=>kp,?_⟩) a02;refine dJ (M:=M1) (base:=w0.heap.size) bJ jg rfl rfl rfl rfl hu Qk bS a11 a11 (S.size) (λalT alU avK aed Ma=>?_);replace nv:=nv.le Tg Ma.le;replace pA:=pA.le Ma.le;replace Qk:=Qk.le Ma.le;replace sm:=sm.step Ma (λc hc h=>by have:=NB c hc;have:=(hu.base c h).1;omega);replace hM:=Ma.lt hM;have:=S.size;replace S:=S.dX Ma hu (bz _);replace hu:=aed;refine ad ⟨G,G,λh=>absurd G h,aN G G (ad ⟨G,G,λh=>absurd G h,nT (aH (bu G G G q0 (ab G G (ad ?_))))⟩)⟩
   refine⟨G,(i+1,alT),a00,?_,?_⟩
   ·exact⟨alU,hM,S,by rw[bY,HS,dp];exact hu,sm,by dsimp only;omega⟩
   ·dsimp only;omega
  ·refine cN (T.aQ (ab G G (Rg.aZ G G (aJ ?_))));rw[bp q0]at hu;exact aK G G ⟨hu.close gv S q0,S.back⟩
end Go.K
namespace Go.K
open Go.Proofs
namespace TKBldF
theorem alV:TI Tryz.prog 310 (.agg #[(.slice none 0 0),(.slice none 0 0)]) 2 48:=by unfold TI;kernel_rfl
theorem alW:placesOf Tryz.prog 310=[(0,1),(1,1)].map some:=by kernel_rfl
theorem alX:Enters Tryz.prog 197:=enters Tryz.func197 rfl Tg
theorem alY:Enters Tryz.prog 198:=enters Tryz.func198 rfl Tg
theorem alZ:Enters Tryz.prog 199:=enters Tryz.func199 rfl Tg
end TKBldF
open TKBldF
set_option maxRecDepth 10000
def Gh:Option (List UInt8)->List (List UInt8)->Bool
 |_,[]=>true
 |o,x::l=>(match o with|none=>true|some a=>decide (a<x))&&Gh (some x) l
theorem Ap {l:List (List UInt8)} {k:Nat} {x:List UInt8} (h:l[k]? =some x) (o:Option (List UInt8)):Gh o (l.drop k)=((match o with|none=>true|some a=>decide (a<x))&&Gh (some x) (l.drop (k+1))):=by
 obtain⟨eZ,he⟩:=an.1 h;rw[fp eZ,he];rfl
theorem Gi {a:List UInt8}:∀{l:List (List UInt8)},Io (a::l)->Gh (some a) l=true
 |[],_=>rfl
 |x::l,h=>by
  have h':=jO.1 h;simp only[Gh,cz,decide_eq_true_eq];exact⟨h'.1 x (bO ..),Gi h'.2⟩
theorem Zg:∀{l:List (List UInt8)},Io l->Gh none l=true
 |[],_=>rfl
 |x::l,h=>by simp only[Gh,dr];exact Gi h
theorem Md {M:aM} {v:Value} {l:List Int} (w0:World) (hv:((RT.int .i64).sl).V M w0 l v):
  Spec Tryz.prog 153 #[v] w0 (λv' w'=>v'= .bool (gm (-1) l)/\w'=w0):=by
 have hlen:=cU hv;refine bh (args:=[_]) (fn:=Tryz.f153) Tryz.func153 G (n:=28) Tryz.ntmps153 (T.aQ (Rg.aZ G G (aL (T.aQ (ab G G (bC az G hv G (ab G G (ad ?_))))))));refine aX ?_;refine dd (σ:=Nat×Int) (λs=>[(0,v),(5,v),(6,.int .i64 l.length),(7,.int .i64 s.1)]) (λs w=>w=w0/\s.1<=l.length/\gm (-1) l=gm s.2 (l.drop s.1)/\ -1<=s.2/\(s.1=0->s.2= -1)/\(0<s.1->l[s.1-1]? =some s.2)) (λs=>l.length-s.1) (0,-1) a00 ?_ ?_
 ·exact⟨rfl,a8 _,rfl,by decide,λ_=>rfl,λh=>absurd h (jC 0)⟩
 ·rintro⟨k,last⟩ w1 ⟨rfl,hk,hr,Uy,h0,h1⟩;dsimp only at hk hr Uy h0 h1 ⊢;refine T.aQ (cx G G G (ad (aL ?_)));refine bE G (λc2=>?_) (λc2=>?_)
  ·refine aS (aL (aX (T.aQ (ab G G ?_))));obtain⟨x,hx⟩:∃x,l[k]? =some x:=⟨_,aq q0⟩;refine cC az I3 G G G hv bS q0 (λu a hg hu=>?_);obtain rfl:x=a:=cD (aI (hg.symm.trans ad8));refine bV al G G hu bS (λinx=>?_);refine aN G G (Rg.aZ G G (T.aQ (ab G G (cx G G G (ab G G ?_)))));refine aO (g:=14) G (λxd=>?_) (λxd=>?_)
   ·refine aj G G G G (aj G G G G (aj G G G G (cp G G G (cp G G G (cp G G G (cp G G G (cp G G G (cp G G G (cp G G G (aj G G G G (aU G G G ?_)))))))))));refine ad (kD G (T.aQ (Rg.aZ G G (aJ ?_))));refine aK G G ⟨congrArg Value.bool (cD ?_),G⟩;rw[hr,gG hx,decide_eq_false (show¬last<x by omega),eD]
   ·refine ah G G (ab G G (ah G G (eR G G G (ah G G (ab G G ?_)))));refine aO (g:=17) G (λYC=>?_) (λYC=>?_)
    ·refine ah G G (ab G G (ah G G (ab G G (ah G G (ab G G (ah G G (jR G G G q0 (ah G G ?_))))))));refine cC az I3 G G G hv bS q0 (λu2 a hg dY=>?_);obtain rfl:last=a:=cD (aI (hg.symm.trans (by rw[show((k:Int)-1).toNat=k-1 from by omega];exact h1 q0)));refine ah G G ?_;refine bV al G G dY bS (λinl=>?_);refine ah G G (fM G G G (ah G G (aU G G G (aB G G G (ad ?_)))));refine bE G (λc4=>?_) (λc4=>?_)
     ·refine T.aQ (Rg.aZ G G (aJ ?_));refine aK G G ⟨congrArg Value.bool (cD ?_),G⟩;rw[hr,gG hx,decide_eq_false (show¬last<x by omega),eD]
     ·refine aS (aH (bu G G G q0 (ab G G (ad ?_))));refine⟨G,(k+1,x),a00,?_,?_⟩
      ·refine⟨rfl,by simp only;omega,?_,by simp only;omega,λh=>by simp at h,λ_=>by simpa using hx⟩;rw[hr,gG hx,decide_eq_true (show last<x by omega),dr]
      ·simp only;omega
    ·refine aj G G G G (aj G G G G (aj G G G G (aj G G G G (aj G G G G (aj G G G G (aj G G G G (ah G G (aB G G G (aB G G G (ad (jF G ?_)))))))))));refine aS (aH (bu G G G q0 (ab G G (ad ?_))));refine⟨G,(k+1,x),a00,?_,?_⟩
     ·refine⟨rfl,by simp only;omega,?_,by simp only;omega,λh=>by simp at h,λ_=>by simpa using hx⟩;rw[hr,gG hx,decide_eq_true (show last<x by omega),dr]
     ·simp only;omega
  ·refine cN (T.aQ (Rg.aZ G G (aJ ?_)));refine aK G G ⟨congrArg Value.bool (cD ?_),G⟩;rw[hr,fQ q0];rfl
theorem Gj {M:aM} {v:Value} {l:List (List UInt8)} (w0:World) (hv:(RT.str.sl).V M w0 l v):
  Spec Tryz.prog 197 #[v] w0 (λv' w'=>v'= .bool (Gh none l)/\w'=w0):=by
 have hlen:=cU hv;refine bh (args:=[_]) (fn:=Tryz.f197) Tryz.func197 G (n:=24) Tryz.ntmps197 (T.aQ (Rg.aZ G G (aL (T.aQ (ab G G (bC ax G hv G (ab G G (ad ?_))))))));refine aX ?_;refine dd (σ:=Nat×Option (List UInt8)) (λs=>[(0,v),(5,v),(6,.int .i64 l.length),(7,.int .i64 s.1)]) (λs w=>w=w0/\s.1<=l.length/\Gh none l=Gh s.2 (l.drop s.1)/\(s.1=0->s.2=none)/\(0<s.1->∃a,s.2=some a/\l[s.1-1]? =some a)) (λs=>l.length-s.1) (0,none) a00 ?_ ?_
 ·exact⟨G,a8 _,G,λ_=>G,λh=>absurd h (jC 0)⟩
 ·rintro⟨k,o⟩ w1 ⟨rfl,hk,hr,h0,h1⟩;dsimp only at hk hr h0 h1 ⊢;refine T.aQ (cx G G G (ad (aL ?_)));refine bE G (λc2=>?_) (λc2=>?_)
  ·refine aS (aL (aX (T.aQ (ab G G ?_))));obtain⟨x,hx⟩:∃x,l[k]? =some x:=⟨_,aq q0⟩;refine cC ax I9 G G G hv bS q0 (λu a hg hu=>?_);obtain rfl:x=a:=cD (aI (hg.symm.trans ad8));refine bB aA G G G G G hu bS (λvx zV=>?_);obtain rfl:=dS zV;refine aN G G (Rg.aZ G G (T.aQ (ab G G (eR G G G (ab G G ?_)))));refine aO (g:=14) G (λxd=>?_) (λxd=>?_)
   ·refine ah G G (ab G G (ah G G (ab G G (ah G G (ab G G (ah G G (jR G G G q0 (ah G G ?_))))))));obtain⟨last,rfl,jU⟩:=h1 q0;refine cC ax I9 G G G hv bS q0 (λu2 a hg dY=>?_);obtain rfl:last=a:=cD (aI (hg.symm.trans (by rw[show((k:Int)-1).toNat=k-1 from by omega];exact jU)));refine ah G G ?_;refine bB aA G G G G G dY bS (λvl lG=>?_);obtain rfl:=dS lG;refine ah G G (Rg.YS G G G (aU G G G (ad ?_)));refine bE G (λc4=>?_) (λc4=>?_)
    ·refine T.aQ (Rg.aZ G G (aJ ?_));refine aK G G ⟨congrArg Value.bool (cD ?_),G⟩;rw[hr,Ap hx];simp[c4]
    ·refine aS (aH (bu G G G q0 (ab G G (ad ?_))));refine⟨G,(k+1,some x),a00,?_,?_⟩
     ·refine⟨rfl,by simp only;omega,?_,λh=>by simp at h,λ_=>⟨x,rfl,by simpa using hx⟩⟩;rw[hr,Ap hx]
      first
      |(rw[h0 q0];simp;done)
      |(have c4':=ck.1 c4;simp[c4'];done)
     ·simp only;omega
   ·refine aj G G G G (aj G G G G (aj G G G G (aj G G G G (aj G G G G (aj G G G G (aj G G G G (aB G G G (ad (jF G (aS (aH ?_)))))))))));refine bu G G G q0 (ab G G (ad ?_));refine⟨G,(k+1,some x),a00,?_,?_⟩
    ·refine⟨rfl,by simp only;omega,?_,λh=>by simp at h,λ_=>⟨x,rfl,by simpa using hx⟩⟩;rw[hr,Ap hx]
     first
     |(rw[h0 q0];simp;done)
     |(have c4':=ck.1 c4;simp[c4'];done)
    ·simp only;omega
  ·refine cN (T.aQ (Rg.aZ G G (aJ ?_)));refine aK G G ⟨congrArg Value.bool (cD ?_),G⟩;rw[hr,fQ q0];rfl
theorem CD {α:Type} {A:RT α} {M:aM} {w:World} {v:Value} {x:α} (h:cO A M w v x):v.cells= #[v]:=by
 obtain⟨b,o,vs,rfl,_⟩:=h;rfl
theorem Ix {M:aM} {v0 v1:Value} {ns:List (List UInt8)} {ts:List Li} (w0:World) (hM:Lt M w0) (hn:(RT.str.sl).V M w0 ns v0) (ht:(((RT.li).ptr).sl).V M w0 ts v1) (hl:ns.length<=1099511627776) (Ht:ts.length<=1099511627776):
  Spec Tryz.prog 157 #[v0,v1] w0 (λv w=>∃p,v= .tuple #[p,.int .i64 (if ns.length=ts.length/\Gh none ns=true then 0 else 1)]/\(ns.length=ts.length->Gh none ns=true->cO RT.di M w p (ns,ts))/\Step M w0 M w aC):=by
 refine bh (args:=[_,_]) (fn:=Tryz.f157) Tryz.func157 G (n:=22) Tryz.ntmps157 ?_;have S:Step M w0 M w0 aC:=aV;refine T.aQ (aN G G (Rg.aZ G G (aL (T.aQ (ab G G (bC ax G hn G (ab G G (bC fB G ht G ?_))))))));refine fm G G G (ab G G ?_);refine aO (g:=11) G (λlL=>?_) (λlL=>?_)
 ·refine aj G G G G (aj G G G G (aj G G G G (aU G G G (ad (kD G (T.aQ (aN G G (Rg.aZ G G (aJ ?_)))))))))
  first
  |exact fA rfl rfl rfl ⟨_,by rw[if_neg (λh=>lL q0)],λh=>absurd q0 lL,S⟩
  |exact fA rfl rfl rfl ⟨_,by rw[if_neg (λh=>c1 h.2)],λ_ h=>absurd h c1,S⟩
 ·refine ah G G (ab G G (ah G G ?_));refine aP G G alX (Gj _ hn) (λr wc hc=>?_);obtain⟨rfl,rfl⟩:=hc;refine ah G G (fV G G (bg (v':= .bool (decide (¬Gh none ns=true))) (by simp) (aB G G G (ad ?_))));refine bE G (λc1=>?_) (λc1=>?_)
  ·refine T.aQ (aN G G (Rg.aZ G G (aJ ?_)))
   first
   |exact fA rfl rfl rfl ⟨_,by rw[if_neg (λh=>lL q0)],λh=>absurd q0 lL,S⟩
   |exact fA rfl rfl rfl ⟨_,by rw[if_neg (λh=>c1 h.2)],λ_ h=>absurd h c1,S⟩
  ·refine aS (T.aQ (ab G G ?_));refine aP G G alY (PQ hM hn hl) (λv3 w3 hc=>?_);obtain⟨uE,s3⟩:=hc;replace hn:=hn.le s3.le;replace ht:=ht.le s3.le;replace hM:=s3.lt hM;have:=S.size;replace S:=S.aw s3;refine ab G G ?_;refine aP G G alZ (Up hM ht Ht) (λv4 w4 hc=>?_);obtain⟨qu,s4⟩:=hc;replace hn:=hn.le s4.le;replace ht:=ht.le s4.le;replace uE:=uE.le s4.le;replace hM:=s4.lt hM;have:=S.size;replace S:=S.aw s4;refine dw (places:=[(0,1),(1,1)]) Tryz.underlying310 alV alW rfl ⟨_,_,rfl,rfl,_,_,rfl,rfl,rfl⟩ (out:=[_,_]) ⟨0,[_],rfl,jl uE,by simp[Value.cells],1,[_],rfl,jl qu,by simp[Value.cells],rfl⟩ ?_;refine ef (A:=RT.di) (a:=(ns,ts)) G G hM (fJ uE qu G G G G) G (λu5 w5 lP s5 _=>?_);replace hn:=hn.le s5.le;replace ht:=ht.le s5.le;replace uE:=uE.le s5.le;replace qu:=qu.le s5.le;replace hM:=s5.lt hM;have:=S.size;replace S:=S.aw s5;refine aN G G (Rg.aZ G G (aJ ?_));exact fA rfl rfl rfl ⟨_,by rw[if_pos ⟨by omega,ck.1 c1⟩],λ_ _=>lP,S⟩
end Go.K
namespace Go.K
theorem Iy (n:Nat):IntKind.u8.wrap (n:Int)=((UInt8.ofNat n).toNat:Int):=by
 rw[IntKind.wrap_u8];simp[UInt8.toNat_ofNat]
theorem aee:∀m:Nat,m<256->(BitVec.ofInt 8 (m:Int)|||BitVec.ofInt 8 128).toNat=128+m%128:=by decide+kernel
theorem Uz (n:Nat):IntKind.u8.wrap ((BitVec.ofInt IntKind.u8.bits (IntKind.u8.wrap (n:Int))|||BitVec.ofInt IntKind.u8.bits 128).toNat:Int)=((UInt8.ofNat (128+n%128)).toNat:Int):=by
 have h1:IntKind.u8.wrap (n:Int)=((n%256:Nat):Int):=by rw[IntKind.wrap_u8];omega
 rw[h1];show IntKind.u8.wrap ((BitVec.ofInt 8 ((n%256:Nat):Int)|||BitVec.ofInt 8 128).toNat:Int)=_;rw[aee (n%256) q0,IntKind.wrap_u8,show n%256%128=n%128 from by omega];simp[UInt8.toNat_ofNat]
theorem al1 (n:Nat):((n:Int)).fdiv (2^min (Int.toNat 7) IntKind.i64.bits)=((n/128:Nat):Int):=by
 show((n:Int)).fdiv 128=_;rw[Int.fdiv_eq_ediv_of_nonneg _ Tg];rfl
theorem Iz:∀m:Nat,m<256->(BitVec.ofInt 8 (m:Int)&&& ~~~ BitVec.ofInt 8 128).toNat=m%128:=by decide+kernel
theorem Gk (c:UInt8):IntKind.u8.wrap ((BitVec.ofInt IntKind.u8.bits (c.toNat:Int)&&& ~~~ BitVec.ofInt IntKind.u8.bits 128).toNat:Int)=((c.toNat%128:Nat):Int):=by
 show IntKind.u8.wrap ((BitVec.ofInt 8 (c.toNat:Int)&&& ~~~ BitVec.ofInt 8 128).toNat:Int)=_;rw[Iz c.toNat (by have:=c.toNat_lt;omega),IntKind.wrap_u8];omega
theorem Ql (k n x:Nat) (hk:k<=8) (hn:n<128^k) (hx:x<128):
  IntKind.i64.wrap ((BitVec.ofInt IntKind.i64.bits (n:Int)|||BitVec.ofInt IntKind.i64.bits (IntKind.i64.wrap ((x:Int)*2^min (Int.toNat (7*(k:Int))) IntKind.i64.bits))).toNat:Int)=((n+x*128^k:Nat):Int):=by
 have e7:Int.toNat (7*(k:Int))=7*k:=by omega
 have e1:min (7*k) 64=7*k:=by omega
 have e2:(128:Nat)^k=2^(7*k):=by rw[Nat.pow_mul]
 have hp:2^(7*k)<=2^56:=yn Tg q0;have hb:x*2^(7*k)<=127*2^(7*k):=Nat.mul_le_mul_right _ q0;rw[e2]at hn ⊢;show IntKind.i64.wrap ((BitVec.ofInt 64 (n:Int)|||BitVec.ofInt 64 (IntKind.i64.wrap ((x:Int)*2^min (Int.toNat (7*(k:Int))) 64))).toNat:Int)=_;rw[e7,e1];have e3:((x:Int)*2^(7*k))=((x*2^(7*k):Nat):Int):=by simp
 have e5:n|||x*2^(7*k)=n+x*2^(7*k):=by
  rw[Nat.or_comm,Nat.mul_comm x,<-Nat.two_pow_add_eq_or_of_lt hn x,Nat.add_comm]
 rw[e3];generalize x*2^(7*k)=y at*
 generalize 2^(7*k)=z at*
 have e4:∀m:Nat,m<2^64->(BitVec.ofInt 64 (m:Int))=BitVec.ofNat 64 m:=λm _=>by simp
 rw[kb (y:Int) q0,e4 n q0,e4 y q0,BitVec.toNat_or,BitVec.toNat_ofNat,BitVec.toNat_ofNat,Nat.mod_eq_of_lt q0,Nat.mod_eq_of_lt q0,e5,kb _ q0]
theorem tB (x:Int): -9223372036854775808<=IntKind.i64.wrap x/\IntKind.i64.wrap x<=9223372036854775807:=by rw[IntKind.wrap_i64];omega
end Go.K

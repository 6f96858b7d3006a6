/- What the law 'EraseLess' needs of walks and plain Lean, part 3: nothing is assumed beyond the texts that it imports. -/
import Derived.Deep.Draws
import Derived.DeepKeys4
import Derived.Ground.GgzProg
import Derived.Ground.SlgmProg
import Derived.Ground.SlsfProg
import Derived.KernelRfl
import Derived.Lib.Bytealg
import Derived.Shelf.SlGeneric
import Derived.Shelf.SlIter.Nil
import Derived.Shelf.SlIterI.Nil
import Derived.Shelf.SlSortCmp.NoneTotal
import Derived.Shelf.SortM.Plain
import Derived.Shelf.SortM.SortNone
import Derived.Sort.Grow
import Derived.Sort.KeysCollected
import Derived.Sort.Walk0
import Derived.Test.YtohfoenhmkfjkaaGreatDoorProg
import Derived.Test.YtohfoenhmkfjkaaGreatDoorZEraseLess1
import Derived.Test.YtohfoenhmkfjkaaGreatDoorZEraseLess2
set_option linter.unusedVariables false
set_option linter.unusedSimpArgs false
theorem kh:type_of% @Go.K.Rg.kM:=@Go.K.Rg.kM
namespace Go.K
open Go.Proofs
set_option maxRecDepth 10000
theorem vr {M:aA} {d:Dc} {v0:Value} (w0:World) (hM:Lt M w0) (hv:RT.dc.V M w0 d v0) (hl:∀f∈d.2,f.1.length≤900000∧f.2.length≤900000):
  Spec Tryz.prog 117 #[v0] w0 (fun v w=>v= .int .i64 (kn d)∧Step M w0 M w aC):=by
 have jL:=hM;refine aX (args:=[_]) (fn:=Tryz.f117) Tryz.func117 rfl (n:=66) Tryz.ntmps117 ?_;have S:Step M w0 M w0 aC:=(an _ _).cc (fun _ h=>h.elim) (fun _ h=>h.elim);refine aj (ah ?_);refine kh (A:=RT.dc) rfl rfl hM hv rfl (fun u0 w1 cA s0 _=>?_);replace hM:=s0.lt hM;have:=S.size;replace S:=S.ay s0;refine ai rfl rfl (ad (aj (aj (ah ?_))));refine aH (M:=M) (A:=RT.dc) (B:=(RT.fd).sl) aN rfl rfl qe (by decide) (CU) rfl rfl (by decide) (by assumption) (by repeat (first|exact aq _ _|refine aT (aY (by assumption)) ?_)) (fun uk jw=>?_);refine cg (M:=M) aV rfl rfl rfl rfl rfl (by assumption) (by repeat (first|exact aq _ _|refine aT (aY (by assumption)) ?_)) (fun um kA=>?_);refine bU aV rfl kA rfl (nK rfl rfl rfl (ad ?_));refine bI rfl (fun c1=>?_) (fun c1=>?_)
 ·refine aj (ah (ai rfl rfl (ad (aJ ?_))));exact aO rfl rfl ⟨by rw[kn,if_pos (by omega)],S.back⟩
 ·refine aU (aj (ah (ai rfl rfl (ad (aj (aj (ah (ai rfl rfl (ad (a8 ?_))))))))));refine dC (σ:=Nat×Nat) (fun q=>[(1,u0),(3,.int .i64 (q.2:Int)),(4,.int .i64 (q.1:Int))]) (fun q w=>Lt M w∧Step M w0 M w aC∧ch RT.dc M w u0 d∧kn d=ta (d.2.take q.1) (d.2.drop q.1) q.2∧q.1≤d.2.length∧q.2≤900001*q.1∧d.2.length≤8) (fun q=>d.2.length-q.1) (0,0) (.cons rfl (.cons rfl (.cons rfl .nil))) ?_ ?_
  ·exact⟨hM,S,cA,by rw[kn,if_neg (by omega)];rfl,bG _,bj _,by omega⟩
  ·rintro⟨i,n⟩ w ⟨hM,S,cA,AD,hi,hn,Sr⟩;dsimp only at AD hi hn ⊢;refine aj (aj (ah (ae rfl rfl ?_)));refine aH (M:=M) (A:=RT.dc) (B:=(RT.fd).sl) aN rfl rfl qe (by decide) (CU) rfl rfl (by decide) (by assumption) (by repeat (first|exact aq _ _|refine aT (aY (by assumption)) ?_)) (fun Vb JE=>?_);refine cg (M:=M) aV rfl rfl rfl rfl rfl (by assumption) (by repeat (first|exact aq _ _|refine aT (aY (by assumption)) ?_)) (fun Vc JF=>?_);refine bU aV rfl JF rfl (cf rfl rfl rfl (ad ?_));refine bI rfl (fun c5=>?_) (fun c5=>?_)
   ·refine aU (aj (a8 (aj (ah ?_))));refine aH (M:=M) (A:=RT.dc) (B:=(RT.fd).sl) aN rfl rfl qe (by decide) (CU) rfl rfl (by decide) (by assumption) (by repeat (first|exact aq _ _|refine aT (aY (by assumption)) ?_)) (fun PE B0=>?_);refine cg (M:=M) aV rfl rfl rfl rfl rfl (by assumption) (by repeat (first|exact aq _ _|refine aT (aY (by assumption)) ?_)) (fun Vd JG=>?_);refine ae rfl rfl ?_;refine dq (M:=M) aV gZ rfl rfl rfl JG (aq _ _) (by omega) (fun acI x yJ Zn=>?_);rw[az]at yJ;refine aH (M:=M) (A:=RT.fd) (B:=RT.str) bT rfl rfl I9 (by decide) (Lk) rfl rfl (by decide) (by assumption) (by repeat (first|exact aq _ _|refine aT (aY (by assumption)) ?_)) (fun acJ PF=>?_);refine cg (M:=M) aD rfl rfl rfl rfl rfl PF (aq _ _) (fun acK PG=>?_);obtain rfl:=fx PG;have iz:=BY (n:=n) yJ;have uP:=hl _ (aM yJ);refine aP rfl rfl OO (tb x.1 (by omega) _) (fun r7 w7 hc=>?_);obtain⟨rfl,rfl⟩:=hc;refine ai rfl rfl (ad (aj (aj (ah (ae rfl rfl (Rg.not rfl rfl (bu (v':= .bool (decide (eM x.1=false))) (by cases eM x.1<;>rfl) (ad ?_))))))));refine bI rfl (fun c8=>?_) (fun c8=>?_)
    ·refine aj (ah (ai rfl rfl (ad (aJ ?_))));exact aO rfl rfl ⟨by rw[AD,iz,if_pos (by assumption)],S.back⟩
    ·refine aU (aj (aj (ah (ai rfl rfl (ad (a8 ?_))))));refine dC (σ:=Nat) (fun j=>[(1,u0),(3,.int .i64 (n:Int)),(4,.int .i64 (i:Int)),(6,.int .i64 (j:Int))]) (fun j w=>Lt M w∧Step M w0 M w aC∧ch RT.dc M w u0 d∧j≤i∧∀k y,k<j→d.2[k]? =some y→y.1≠x.1) (fun j=>i-j) 0 (.cons rfl (.cons rfl (.cons rfl (.cons rfl .nil)))) ?_ ?_
     ·exact⟨hM,S,cA,bG _,fun k c h=>absurd h (jz k)⟩
     ·rintro j w ⟨hM,S,cA,hj,iK⟩;refine aj (aj (ah (ae rfl rfl (ae rfl rfl (cf rfl rfl rfl (ad ?_))))));refine bI rfl (fun KW=>?_) (fun KW=>?_)
      ·refine aU (aj (a8 (aj ?_)));apply T.kJ mixed rfl rfl;intro Ls Lu;have lW:=Lu M;replace cA:=cA.le (by decide) lW.le;replace hM:=lW.lt hM;have:=S.size;replace S:=S.ay lW;refine aH (M:=M) (A:=RT.dc) (B:=(RT.fd).sl) aN rfl rfl qe (by decide) (CU) rfl rfl (by decide) (by assumption) (by repeat (first|exact aq _ _|refine aT (aY (by assumption)) ?_)) (fun Zo Ve=>?_);refine ad ⟨rfl,rfl,rfl,?_⟩;refine cg (M:=M) aV rfl rfl rfl rfl rfl (by assumption) (by repeat (first|exact aq _ _|refine aT (aY (by assumption)) ?_)) (fun Zp Lv=>?_);refine ad ⟨rfl,rfl,rfl,?_⟩;refine ae rfl rfl ?_;refine ad ⟨rfl,rfl,rfl,?_⟩;refine dq (M:=M) aV gZ rfl rfl rfl Lv (aq _ _) (by omega) (fun JH y AE eJ=>?_);rw[az]at AE;refine ad ⟨rfl,rfl,rfl,?_⟩;refine aH (M:=M) (A:=RT.fd) (B:=RT.str) bT rfl rfl I9 (by decide) (Lk) rfl rfl (by decide) (by assumption) (by repeat (first|exact aq _ _|refine aT (aY (by assumption)) ?_)) (fun eN Lw=>?_);refine ad ⟨rfl,rfl,rfl,?_⟩;refine cg (M:=M) aD rfl rfl rfl rfl rfl Lw (aq _ _) (fun JI xf=>?_);obtain rfl:=fx xf;refine ad ⟨rfl,rfl,rfl,?_⟩;refine aH (M:=M) (A:=RT.dc) (B:=(RT.fd).sl) aN rfl rfl qe (by decide) (CU) rfl rfl (by decide) (by assumption) (by repeat (first|exact aq _ _|refine aT (aY (by assumption)) ?_)) (fun JJ E1=>?_);refine ad ⟨rfl,rfl,rfl,?_⟩;refine cg (M:=M) aV rfl rfl rfl rfl rfl (by assumption) (by repeat (first|exact aq _ _|refine aT (aY (by assumption)) ?_)) (fun Zq Lx=>?_);refine ad ⟨rfl,rfl,rfl,?_⟩;refine ae rfl rfl ?_;refine ad ⟨rfl,rfl,rfl,?_⟩;refine dq (M:=M) aV gZ rfl rfl rfl Lx (aq _ _) (by omega) (fun Zr z E2 Vf=>?_)
       rw[az]at E2;refine ad ⟨rfl,rfl,rfl,?_⟩;refine aH (M:=M) (A:=RT.fd) (B:=RT.str) bT rfl rfl I9 (by decide) (Lk) rfl rfl (by decide) (by assumption) (by repeat (first|exact aq _ _|refine aT (aY (by assumption)) ?_)) (fun Vg H6=>?_);refine ad ⟨rfl,rfl,rfl,?_⟩;refine cg (M:=M) aD rfl rfl rfl rfl rfl H6 (aq _ _) (fun Vh H7=>?_);obtain rfl:=fx H7;refine ad ⟨rfl,rfl,rfl,?_⟩;refine Rg.BG (p:=y.1) (q:=z.1) rfl rfl rfl ?_;obtain rfl:x=z:=bM (yJ.symm.trans E2);refine ad ⟨rfl,rfl,rfl,?_⟩;refine fy ?_;refine bI rfl (fun E3=>?_) (fun E3=>?_)
       ·refine aj (ah (ai rfl rfl (ad (aJ ?_))));have E4:((d.2.take i).any fun g=>decide (g.1=x.1))=true:=pQ.2 ⟨y,aM (i:=j) (by rw[dF,if_pos (by omega)];exact AE),by simpa using(by assumption)⟩;exact aO rfl rfl ⟨by rw[AD,iz,if_neg (by assumption),if_pos E4],S.back⟩
       ·refine aU (ah (ae rfl rfl (bA rfl rfl rfl (by omega) (ai rfl rfl (ad ?_)))));refine⟨rfl,j+1,(.cons rfl (.cons rfl (.cons rfl (.cons rfl .nil)))),?_,?_⟩
        ·exact⟨hM,S,cA,by omega,fun k y' h hc=>by
          rcases cK k j with h2|h2
          ·exact iK k y' h2 hc
          ·obtain rfl:k=j:=by omega
           rw[AE]at hc;cases hc;assumption⟩
        ·omega
      ·refine cM (aj (ah ?_));refine aH (M:=M) (A:=RT.dc) (B:=(RT.fd).sl) aN rfl rfl qe (by decide) (CU) rfl rfl (by decide) (by assumption) (by repeat (first|exact aq _ _|refine aT (aY (by assumption)) ?_)) (fun Zs Vi=>?_);refine cg (M:=M) aV rfl rfl rfl rfl rfl (by assumption) (by repeat (first|exact aq _ _|refine aT (aY (by assumption)) ?_)) (fun Zt Ly=>?_);refine ae rfl rfl ?_;refine dq (M:=M) aV gZ rfl rfl rfl Ly (aq _ _) (by omega) (fun Zu z E5 Vj=>?_);rw[az]at E5;refine aH (M:=M) (A:=RT.fd) (B:=RT.str) bT rfl rfl I9 (by decide) (Sm) rfl rfl (by decide) (by assumption) (by repeat (first|exact aq _ _|refine aT (aY (by assumption)) ?_)) (fun Zv Lz=>?_);refine cg (M:=M) aD rfl rfl rfl rfl rfl Lz (aq _ _) (fun Zw LA=>?_);obtain rfl:=fx LA;obtain rfl:x=z:=bM (yJ.symm.trans E5);refine aP rfl rfl T0 (Az _ hM uP.2) (fun r15 PH hc=>?_);obtain⟨⟨u15,rfl,Vk⟩,xg⟩:=hc;replace cA:=cA.le (by decide) xg.le;replace hM:=xg.lt hM;have:=S.size;replace S:=S.ay xg;refine ae rfl rfl (bP rfl rfl rfl (bP rfl rfl rfl (ai rfl rfl (ai rfl rfl (ad (aj (aj (ah (ae rfl rfl (eV rfl rfl rfl (ad ?_)))))))))));refine bI rfl (fun NN=>?_) (fun NN=>?_)
       ·refine aj (ah (ae rfl rfl (ai rfl rfl (ad (aJ ?_)))))
        have E4:((d.2.take i).any fun g=>decide (g.1=x.1))=false:=ey.2 fun h=>by
         obtain⟨y,hy,he⟩:=pQ.1 h;obtain⟨k,hk⟩:=bO.1 hy;rw[dF]at hk
         split at hk
         ·exact iK k y (by omega) hk (by simpa using he)
         ·cases hk
        exact aO rfl rfl ⟨by rw[AD,iz,if_neg (by assumption),if_neg (by rw[E4];simp),if_pos NN];rfl,S.back⟩
       ·refine aU (ah (ae rfl rfl ?_));have H5:j7 0 (words x.2)=0:=Classical.not_not.1 NN;obtain⟨a,cap,rfl⟩:=Vk H5;have Zm:=nG x.2;refine ae rfl rfl (Rg.qc Tryz.underlying222 rfl rfl (bA rfl rfl rfl (by omega) (ai rfl rfl (ad (ah (ae rfl rfl (bA rfl rfl rfl (by omega) (ai rfl rfl (ad ?_)))))))))
        have E4:((d.2.take i).any fun g=>decide (g.1=x.1))=false:=ey.2 fun h=>by
         obtain⟨y,hy,he⟩:=pQ.1 h;obtain⟨k,hk⟩:=bO.1 hy;rw[dF]at hk
         split at hk
         ·exact iK k y (by omega) hk (by simpa using he)
         ·cases hk
        refine⟨rfl,(i+1,n+(words x.2).length),(.cons rfl (.cons rfl (.cons rfl .nil))),?_,?_⟩
        ·exact⟨hM,S,cA,by rw[AD,iz,if_neg (by assumption),if_neg (by rw[E4];simp),if_neg NN],by dsimp only;omega,by dsimp only;omega,Sr⟩
        ·dsimp only;omega
   ·refine cM (aj (aj (ah (ae rfl rfl (nK rfl rfl rfl (ad ?_))))));refine bI rfl (fun Ut=>?_) (fun Ut=>?_)
    ·refine aj (ah (ai rfl rfl (ad (aJ ?_))));exact aO rfl rfl ⟨by rw[AD,ph (by omega),if_pos (by omega)],S.back⟩
    ·refine aU (aj (ah (ai rfl rfl (ad (aJ ?_)))));exact aO rfl rfl ⟨by rw[AD,ph (by omega),if_neg (by omega)],S.back⟩
def yK:List (List UInt8):=[[116],[117],[118],[119]]
def fixF (i:Nat) (x:Fd):Fd:=(if eM x.1=true then x.1 else yK.getD i [],x.2.take 40)
def lj (id:Int):Nat→List Fd→List Fd→List Fd
 |_,out,[]=>out
 |i,out,x::fs=>if i<4 then(if kn (id,out++[fixF i x])=0 then lj id (i+1) (out++[fixF i x]) fs else lj id (i+1) out fs)else out
def mh (d:Dc):Dc:=(d.1,lj d.1 0 [] d.2)
def oI (l:List Fd):Prop:=∀x∈l,x.1.length≤12∧x.2.length≤40
theorem yL {s:List UInt8} (h:eM s=true):s.length≤12:=by
 simp only[eM,bC,decide_eq_true_eq]at h;omega
theorem tc {i:Nat} (x:Fd) (hi:i<4):(fixF i x).1.length≤12∧(fixF i x).2.length≤40:=by
 refine⟨?_,by simp only[fixF,bS];omega⟩;unfold fixF;dsimp only
 split
 ·exact yL (by assumption)
 ·have h:i=0∨i=1∨i=2∨i=3:=by omega
  rcases h with rfl|rfl|rfl|rfl<;>decide
theorem oI.snoc {l:List Fd} {x:Fd} (h:oI l) (hx:x.1.length≤12∧x.2.length≤40):oI (l++[x]):=fun y hy=>by
 rcases dm.1 hy with hy|hy
 ·exact h y hy
 ·rw[cE.1 hy];exact hx
theorem E6 {id:Int} {fs:List Fd} {i:Nat} {out:List Fd} {x:Fd} (h:fs[i]? =some x) (hi:i<4):lj id i out (fs.drop i)=if kn (id,out++[fixF i x])=0 then lj id (i+1) (out++[fixF i x]) (fs.drop (i+1))else lj id (i+1) out (fs.drop (i+1)):=by
 have dB:=(av.1 h).1;rw[dA dB,(av.1 h).2];show(if i<4 then _ else _)=_;rw[if_pos hi]
theorem vu {id:Int} {fs:List Fd} {i:Nat} {out:List Fd} (h:fs.length≤i∨4≤i):lj id i out (fs.drop i)=out:=by
 cases hd:fs.drop i with
 |nil=>rfl
 |cons x r=>
  show(if i<4 then _ else _)=_;rw[if_neg];rcases h with h|h
  ·rw[ji h]at hd;cases hd
  ·omega
theorem yM (l:List UInt8):l.take (min (l.length:Int) 40).toNat=l.take 40:=by
 by_cases h:l.length≤40
 ·rw[bp (by omega),bp h]
 ·congr 1;omega
theorem CY {M:aA} {d:Dc} {v0:Value} (w0:World) (hM:Lt M w0) (hv:RT.dc.V M w0 d v0):
  Spec Tryz.prog 65 #[v0] w0 (fun v w=>RT.dc.V M w (mh d) v∧Step M w0 M w aC):=by
 have jL:=hM
 have Ss: -9223372036854775808≤d.1∧d.1≤9223372036854775807:=by
  obtain⟨vs,⟨va,vb,_,⟨_,h1,h2⟩,_⟩,_⟩:=hv;exact⟨h1,h2⟩
 refine aX (args:=[_]) (fn:=Tryz.f65) Tryz.func65 rfl (n:=67) Tryz.ntmps65 ?_;have S:Step M w0 M w0 aC:=(an _ _).cc (fun _ h=>h.elim) (fun _ h=>h.elim);refine aj (ah ?_);refine kh (A:=RT.dc) rfl rfl hM hv rfl (fun u0 w1 cA s0 _=>?_);replace hM:=s0.lt hM;have:=S.size;replace S:=S.ay s0;refine eW M kL rfl (fun lX AF LB LC eK kO=>?_);obtain⟨ed,j9⟩:∃M',M'=ins M lX:=⟨_,rfl⟩;rw[←j9]at kO;have dS:ed lX:=by rw[j9];exact .inl rfl
 change AF.heap[lX]? =some (.cells #[.int .i64 0,.slice none 0 0] _ _)at eK;replace cA:=cA.le (by decide) kO.le;replace hM:=kO.lt hM;have:=S.size;replace S:=S.ay kO;refine ad (aj (ah ?_));refine aH (M:=ed) (A:=RT.dc) (B:=RT.int .i64) aN rfl rfl I3 (by decide) (Pz) rfl rfl (by decide) (by assumption) (by repeat (first|exact aq _ _|refine aT (aY (by assumption)) ?_)) (fun uk jw=>?_);refine cb (M:=ed) ar rfl rfl (by assumption) (by repeat (first|exact aq _ _|refine aT (aY (by assumption)) ?_)) (fun JK=>?_);refine dZ (places:=[(0,1),(1,1)]) aN kL OM rfl ⟨_,_,rfl,rfl,rfl⟩ (out:=[_,.slice none 0 0]) ⟨0,[_],rfl,rfl,by simp[Value.cells],rfl⟩ ?_;refine eW ed kL rfl (fun jF xc PI PJ gg s1_3=>?_);obtain⟨je,np⟩:∃M',M'=ins ed jF:=⟨_,rfl⟩;rw[←np]at s1_3;have ff:je jF:=by rw[np];exact .inl rfl
 change xc.heap[jF]? =some (.cells #[.int .i64 0,.slice none 0 0] _ _)at gg;have:=ak eK;replace dS:=(s1_3.mem _ this).2 dS;replace eK:=s1_3.aI eK;replace cA:=cA.le (by decide) s1_3.le;replace hM:=s1_3.lt hM;have:=S.size;replace S:=S.ay s1_3;refine fa (M:=je) (vs:=[.int .i64 d.1,.slice none 0 0]) kL rfl rfl (by intro u hu;simp at hu;rcases hu with rfl|rfl<;>first|rfl|exact j1 (by assumption) rfl rfl) rfl rfl gg ff (fun w1b Vl LD=>?_);have:=ak eK;replace dS:=(LD.mem _ this).2 dS;replace eK:=LD.bF eK (fun hk=>by have hk:_=_:=hk;omega);have:=ak gg;replace ff:=(LD.mem _ this).2 ff;replace cA:=cA.le (by decide) LD.le;replace hM:=LD.lt hM;have:=S.size;replace S:=S.trans LD (fun k hk h=>by have h:_=_:=h;subst h;first|(exfalso;omega)|(show _≤_;omega)|exact⟨by first|omega|assumption,(S.mem _ hk).1 ((LD.mem _ (ak gg)).1 ff)⟩|exact .inl rfl|exact .inr rfl|exact .inr (.inl rfl)|exact .inr (.inr rfl)|exact rfl);have qP:=Vl;clear gg;have gg:=qP;clear qP;refine ad (aj (ah ?_));refine Rg.Od (A:=RT.str) (hn:=by decide) (M:=je) (xs:=yK) bg I9 rfl (by decide) rfl ⟨_,_,_,rfl,rfl,rfl,jQ.2 ⟨rfl,by decide⟩,_,_,_,rfl,rfl,rfl,jQ.2 ⟨rfl,by decide⟩,_,_,_,rfl,rfl,rfl,jQ.2 ⟨rfl,by decide⟩,_,_,_,rfl,rfl,rfl,jQ.2 ⟨rfl,by decide⟩,rfl⟩ rfl hM (.inr ⟨rfl,rfl⟩) (by decide) (fun u2 w2 cT s2=>?_);have:=ak eK;replace dS:=(s2.mem _ this).2 dS;replace eK:=s2.aI eK;have:=ak gg;replace ff:=(s2.mem _ this).2 ff;replace gg:=s2.aI gg;replace cA:=cA.le (by decide) s2.le;replace hM:=s2.lt hM;have:=S.size;replace S:=S.ay s2;refine ai rfl rfl (ad (aj (aj (ah (ai rfl rfl (ad (a8 ?_)))))));refine dC (σ:=Nat×List Fd) (fun q=>[(1,u0),(2,.pointer (some ⟨lX,0,none⟩)),(3,.pointer (some ⟨jF,0,none⟩)),(4,u2),(5,.int .i64 (q.1:Int))]) (fun q w=>∃M' uo,Lt M' w∧Step M w0 M' w aC∧ch RT.dc M' w u0 d∧(RT.str.sl).V M' w yK u2∧w.heap[lX]? =some (.cells #[.int .i64 0,.slice none 0 0] 41 (0,0))∧M' lX∧w.heap[jF]? =some (.cells #[.int .i64 d.1,uo] 41 (0,0))∧M' jF∧(RT.fd.sl).V M' w q.2 uo∧lj d.1 0 [] d.2=lj d.1 q.1 q.2 (d.2.drop q.1)∧q.1≤d.2.length∧q.1≤4∧oI q.2∧q.2.length≤q.1) (fun q=>d.2.length-q.1) (0,[]) (.cons rfl (.cons rfl (.cons rfl (.cons rfl (.cons rfl .nil))))) ?_ ?_
 ·exact⟨_,.slice none 0 0,hM,S,cA,cT,eK,dS,gg,ff,jR,rfl,bG _,bG _,(fun x hx=>by cases hx),bj _⟩
 ·rintro⟨i,out⟩ w ⟨M1,uo,hM,S,cA,cT,g2,cL,g3,dR,gG,sT,hi,Vm,wg,oQ⟩;dsimp only at g3 gG sT hi Vm wg oQ ⊢;refine aj (aj (ah (ae rfl rfl ?_)));refine aH (M:=M1) (A:=RT.dc) (B:=(RT.fd).sl) aN rfl rfl qe (by decide) (CU) rfl rfl (by decide) (by assumption) (by repeat (first|exact aq _ _|refine aT (aY (by assumption)) ?_)) (fun U3 Zx=>?_);refine cg (M:=M1) aV rfl rfl rfl rfl rfl (by assumption) (by repeat (first|exact aq _ _|refine aT (aY (by assumption)) ?_)) (fun acM PK=>?_);refine bU aV rfl PK rfl (cf rfl rfl rfl (ae rfl rfl ?_));refine aG (g:=18) rfl (fun LF=>?_) (fun LF=>?_)
  ·refine al rfl rfl (ae rfl rfl (al rfl rfl (cf rfl rfl rfl (aQ rfl rfl rfl (ad ?_)))));refine bI rfl (fun c4=>?_) (fun c4=>?_)
   ·refine aU (aj (a8 (aj (ah ?_))));refine aH (M:=M1) (A:=RT.dc) (B:=(RT.fd).sl) aN rfl rfl qe (by decide) (CU) rfl rfl (by decide) (by assumption) (by repeat (first|exact aq _ _|refine aT (aY (by assumption)) ?_)) (fun PL E7=>?_);refine cg (M:=M1) aV rfl rfl rfl rfl rfl (by assumption) (by repeat (first|exact aq _ _|refine aT (aY (by assumption)) ?_)) (fun LG td=>?_);refine ae rfl rfl ?_;refine dq (M:=M1) aV gZ rfl rfl rfl td (aq _ _) (by omega) (fun u6 x DI Lb=>?_);rw[az]at DI;have R4:i<4:=by omega
    have St:=E6 (id:=d.1) (out:=out) DI R4;have JL:=tc x R4;refine cx (M:=M1) (A:=RT.fd) bT rfl gZ (by decide) rfl rfl rfl Lb (aq _ _) (fun v6 n0=>?_);obtain rfl:=kN n0;have hxb:=EV n0;refine eW M1 gZ rfl (fun LH Vn acO acP cW uq=>?_);obtain⟨ka,E8⟩:∃M',M'=ins M1 LH:=⟨_,rfl⟩;rw[←E8]at uq;have cv:ka LH:=by rw[E8];exact .inl rfl
    change Vn.heap[LH]? =some (.cells #[.string ⟨#[]⟩,.string ⟨#[]⟩] _ _)at cW;have:=ak g2;replace cL:=(uq.mem _ this).2 cL;replace g2:=uq.aI g2;have:=ak g3;replace dR:=(uq.mem _ this).2 dR;replace g3:=uq.aI g3;replace cA:=cA.le (by decide) uq.le;replace cT:=cT.le uq.le;replace gG:=gG.le uq.le;replace hM:=uq.lt hM;have:=S.size;replace S:=S.ay uq;refine fa (M:=ka) (vs:=[.string ⟨x.1.toArray⟩,.string ⟨x.2.toArray⟩]) gZ rfl rfl (by intro u hu;simp at hu;rcases hu with rfl|rfl<;>first|rfl|exact j1 (by assumption) rfl rfl) rfl rfl cW cv (fun w6b Vo E9=>?_);have:=ak g2;replace cL:=(E9.mem _ this).2 cL;replace g2:=E9.bF g2 (fun hk=>by have hk:_=_:=hk;omega);have:=ak g3;replace dR:=(E9.mem _ this).2 dR;replace g3:=E9.bF g3 (fun hk=>by have hk:_=_:=hk;omega);have:=ak cW;replace cv:=(E9.mem _ this).2 cv;replace cA:=cA.le (by decide) E9.le;replace cT:=cT.le E9.le;replace gG:=gG.le E9.le;replace hM:=E9.lt hM;have:=S.size;replace S:=S.trans E9 (fun k hk h=>by have h:_=_:=h;subst h;first|(exfalso;omega)|(show _≤_;omega)|exact⟨by first|omega|assumption,(S.mem _ hk).1 ((E9.mem _ (ak cW)).1 cv)⟩|exact .inl rfl|exact .inr rfl|exact .inr (.inl rfl)|exact .inr (.inr rfl)|exact rfl);have nq:=Vo;clear cW;have cW:=nq;clear nq;refine ad (aj (ah (aS (o':=0) bT rfl rfl I9 (by decide) rfl rfl (aE aD rfl rfl rfl (by assumption) rfl ?_))));refine aP rfl rfl OO (tb x.1 hxb.1 _) (fun r7 w7 hc=>?_);obtain⟨rfl,rfl⟩:=hc;refine ai rfl rfl (ad (aj (aj (ah (ae rfl rfl (Rg.not rfl rfl (bu (v':= .bool (decide (eM x.1=false))) (by cases eM x.1<;>rfl) (ad ?_))))))));refine bI rfl (fun c8=>?_) (fun c8=>?_)
    ·refine ah (ae rfl rfl (ae rfl rfl ?_));refine dq (M:=ka) bg I9 rfl rfl rfl cT (aq _ _) (by have:yK.length=4:=rfl;omega) (fun u9 y Hm LI=>?_);rw[az]at Hm;refine cg (M:=ka) aD rfl rfl rfl rfl rfl LI (aq _ _) (fun v9 H8=>?_);obtain rfl:=fx H8
     obtain rfl:y=(fixF i x).1:=by
      show y=if eM x.1=true then x.1 else yK.getD i []
      rw[if_neg (by rw[c8];simp),bH,Hm];rfl
     refine aS (o':=0) bT rfl rfl I9 (by decide) rfl rfl ?_;refine bQ (M:=ka) I9 rfl rfl cW rfl (rfl) cv (fun Pv PM nk=>?_);change Pv.heap[_]? =some (Obj.cells #[.string ⟨((fixF i x).1).toArray⟩,.string ⟨x.2.toArray⟩] _ _)at PM;have:=ak g2;replace cL:=(nk.mem _ this).2 cL;replace g2:=nk.bF g2 (fun hk=>by have hk:_=_:=hk;omega);have:=ak g3;replace dR:=(nk.mem _ this).2 dR;replace g3:=nk.bF g3 (fun hk=>by have hk:_=_:=hk;omega);have:=ak cW;replace cv:=(nk.mem _ this).2 cv;replace cA:=cA.le (by decide) nk.le;replace cT:=cT.le nk.le;replace gG:=gG.le nk.le;replace hM:=nk.lt hM;have:=S.size;replace S:=S.trans nk (fun k hk h=>by have h:_=_:=h;subst h;first|(exfalso;omega)|(show _≤_;omega)|exact⟨by first|omega|assumption,(S.mem _ hk).1 ((nk.mem _ (ak cW)).1 cv)⟩|exact .inl rfl|exact .inr rfl|exact .inr (.inl rfl)|exact .inr (.inr rfl)|exact rfl);have nq:=PM;clear cW;have cW:=nq;clear nq;refine ad (aj (ah (aS (o':=1) bT rfl rfl I9 (by decide) rfl rfl (aE aD rfl rfl rfl (by assumption) rfl (aS (o':=1) bT rfl rfl I9 (by decide) rfl rfl (aE aD rfl rfl rfl (by assumption) rfl (Rg.kI aD rfl rfl (bu (v':= .int .i64 (x.2.length:Int)) (by simp[ByteArray.size]) (Rg.min2 rfl rfl rfl (Rg.Jy aD rfl rfl rfl (by omega) (bu (v':= .string ⟨((fixF i x).2).toArray⟩) (by rw[yM];rfl) ?_)))))))))));refine aS (o':=1) bT rfl rfl I9 (by decide) rfl rfl ?_;refine bQ (M:=ka) I9 rfl rfl cW rfl (rfl) cv (fun BW yN eY=>?_);change BW.heap[_]? =some (Obj.cells #[.string ⟨((fixF i x).1).toArray⟩,.string ⟨((fixF i x).2).toArray⟩] _ _)at yN;have:=ak g2;replace cL:=(eY.mem _ this).2 cL;replace g2:=eY.bF g2 (fun hk=>by have hk:_=_:=hk;omega);have:=ak g3
     replace dR:=(eY.mem _ this).2 dR;replace g3:=eY.bF g3 (fun hk=>by have hk:_=_:=hk;omega);have:=ak cW;replace cv:=(eY.mem _ this).2 cv;replace cA:=cA.le (by decide) eY.le;replace cT:=cT.le eY.le;replace gG:=gG.le eY.le;replace hM:=eY.lt hM;have:=S.size;replace S:=S.trans eY (fun k hk h=>by have h:_=_:=h;subst h;first|(exfalso;omega)|(show _≤_;omega)|exact⟨by first|omega|assumption,(S.mem _ hk).1 ((eY.mem _ (ak cW)).1 cv)⟩|exact .inl rfl|exact .inr rfl|exact .inr (.inl rfl)|exact .inr (.inr rfl)|exact rfl);have nq:=yN;clear cW;have cW:=nq;clear nq;refine ad (aj (ah ?_));refine aH (M:=ka) (A:=RT.dc) (B:=RT.int .i64) aN rfl rfl I3 (by decide) (Pz) rfl rfl (by decide) (by assumption) (by repeat (first|exact aq _ _|refine aT (aY (by assumption)) ?_)) (fun JM Fa=>?_);refine cb (M:=ka) ar rfl rfl (by assumption) (by repeat (first|exact aq _ _|refine aT (aY (by assumption)) ?_)) (fun LJ=>?_);refine dZ (places:=[(0,1),(1,1)]) aN kL OM rfl ⟨_,_,rfl,rfl,rfl⟩ (out:=[_,.slice none 0 0]) ⟨0,[_],rfl,rfl,by simp[Value.cells],rfl⟩ ?_;refine eW ka kL rfl (fun te yO PN PO cn ep=>?_);obtain⟨oJ,pv⟩:∃M',M'=ins ka te:=⟨_,rfl⟩;rw[←pv]at ep;have ck:oJ te:=by rw[pv];exact .inl rfl
     change yO.heap[te]? =some (.cells #[.int .i64 0,.slice none 0 0] _ _)at cn;have:=ak g2;replace cL:=(ep.mem _ this).2 cL;replace g2:=ep.aI g2;have:=ak g3;replace dR:=(ep.mem _ this).2 dR;replace g3:=ep.aI g3;have:=ak cW;replace cv:=(ep.mem _ this).2 cv;replace cW:=ep.aI cW;replace cA:=cA.le (by decide) ep.le;replace cT:=cT.le ep.le;replace gG:=gG.le ep.le;replace hM:=ep.lt hM;have:=S.size;replace S:=S.ay ep;refine fa (M:=oJ) (vs:=[.int .i64 d.1,.slice none 0 0]) kL rfl rfl (by intro u hu;simp at hu;rcases hu with rfl|rfl<;>first|rfl|exact j1 (by assumption) rfl rfl) rfl rfl cn ck (fun xh Fb iO=>?_);have:=ak g2;replace cL:=(iO.mem _ this).2 cL;replace g2:=iO.bF g2 (fun hk=>by have hk:_=_:=hk;omega);have:=ak g3;replace dR:=(iO.mem _ this).2 dR;replace g3:=iO.bF g3 (fun hk=>by have hk:_=_:=hk;omega);have:=ak cW;replace cv:=(iO.mem _ this).2 cv;replace cW:=iO.bF cW (fun hk=>by have hk:_=_:=hk;omega);have:=ak cn;replace ck:=(iO.mem _ this).2 ck;replace cA:=cA.le (by decide) iO.le;replace cT:=cT.le iO.le;replace gG:=gG.le iO.le;replace hM:=iO.lt hM;have:=S.size;replace S:=S.trans iO (fun k hk h=>by have h:_=_:=h;subst h;first|(exfalso;omega)|(show _≤_;omega)|exact⟨by first|omega|assumption,(S.mem _ hk).1 ((iO.mem _ (ak cn)).1 ck)⟩|exact .inl rfl|exact .inr rfl|exact .inr (.inl rfl)|exact .inr (.inr rfl)|exact rfl);have gx:=Fb;clear cn;have cn:=gx;clear gx;refine ad (aj (ah (aS (o':=1) aN rfl rfl qe (by decide) rfl rfl (aE aV rfl rfl rfl (by assumption) rfl (aS (o':=1) aN rfl rfl qe (by decide) rfl rfl (aE aV rfl rfl rfl (by assumption) rfl ?_))))));have cI:=Own.JC RT.fd 127 xh.heap.size hM
     have Vp:=ak cW;have Fc:w0.heap.size≤xh.heap.size:=S.size;refine cR (M:=oJ) (base:=xh.heap.size) aV gZ rfl rfl rfl rfl cI gG (aq _ _) (by simp;omega) (by simp;omega) (bj _) (fun sU nj ES oH dQ=>?_);have:=ak g2;replace cL:=(dQ.mem _ this).2 cL;replace g2:=dQ.bF g2 (fun h=>by first|exact cI.dD g2 h|exact cI.eL g2 (by decide) h|(have:=(cI.base _ h).1;omega));have:=ak g3;replace dR:=(dQ.mem _ this).2 dR;replace g3:=dQ.bF g3 (fun h=>by first|exact cI.dD g3 h|exact cI.eL g3 (by decide) h|(have:=(cI.base _ h).1;omega));have:=ak cW;replace cv:=(dQ.mem _ this).2 cv;replace cW:=dQ.bF cW (fun h=>by first|exact cI.dD cW h|exact cI.eL cW (by decide) h|(have:=(cI.base _ h).1;omega));have:=ak cn;replace ck:=(dQ.mem _ this).2 ck;replace cn:=dQ.bF cn (fun h=>by first|exact cI.dD cn h|exact cI.eL cn (by decide) h|(have:=(cI.base _ h).1;omega));replace cA:=cA.le (by decide) dQ.le;replace cT:=cT.le dQ.le;replace gG:=gG.le dQ.le;replace hM:=dQ.lt hM;have:=S.size;replace S:=S.dh dQ cI Fc;replace cI:=oH;refine aS (o':=1) aN rfl rfl qe (by decide) rfl rfl ?_;refine bQ (M:=nj) qe rfl rfl cn rfl ((by obtain⟨_,_,he,_⟩:=cI.isSlice;rw[he];rfl)) ck (fun Fe yP eS=>?_);change Fe.heap[_]? =some (Obj.cells #[.int .i64 d.1,sU] _ _)at yP;have:=ak g2;replace cL:=(eS.mem _ this).2 cL;replace g2:=eS.bF g2 (fun hk=>by have hk:_=_:=hk;omega);have:=ak g3;replace dR:=(eS.mem _ this).2 dR;replace g3:=eS.bF g3 (fun hk=>by have hk:_=_:=hk;omega);have:=ak cW;replace cv:=(eS.mem _ this).2 cv;replace cW:=eS.bF cW (fun hk=>by have hk:_=_:=hk;omega);have:=ak cn;replace ck:=(eS.mem _ this).2 ck
     replace cA:=cA.le (by decide) eS.le;replace cT:=cT.le eS.le;replace gG:=gG.le eS.le;replace cI:=cI.step eS (fun b hb hk=>by have hk:_=_:=hk;have:=(cI.base b hb);omega);replace hM:=eS.lt hM;have:=S.size;replace S:=S.trans eS (fun k hk h=>by have h:_=_:=h;subst h;first|(exfalso;omega)|(show _≤_;omega)|exact⟨by first|omega|assumption,(S.mem _ hk).1 ((eS.mem _ (ak cn)).1 ck)⟩|exact .inl rfl|exact .inr rfl|exact .inr (.inl rfl)|exact .inr (.inr rfl)|exact rfl);have gx:=yP;clear cn;have cn:=gx;clear gx;refine ad (aj (ah (aS (o':=1) aN rfl rfl qe (by decide) rfl rfl (aE aV rfl rfl rfl (by assumption) rfl (ia (vs:=[.string ⟨((fixF i x).1).toArray⟩,.string ⟨((fixF i x).2).toArray⟩]) bT rfl gZ rfl rfl rfl cW ?_)))));refine eE (A:=RT.fd) (hn:=by decide) (M:=nj) aV gZ (by decide) rfl rfl hM (show RT.fd.V _ _ (fixF i x) _ from dY (jQ.2 ⟨rfl,fK JL.1 (by decide)⟩) (jQ.2 ⟨rfl,fK JL.2 (by decide)⟩) rfl rfl rfl rfl) (.inl rfl) (fun JH PQ eJ eT=>?_);have:=ak g2;replace cL:=(eT.mem _ this).2 cL;replace g2:=eT.aI g2;have:=ak g3;replace dR:=(eT.mem _ this).2 dR;replace g3:=eT.aI g3;have:=ak cW;replace cv:=(eT.mem _ this).2 cv;replace cW:=eT.aI cW;have:=ak cn;replace ck:=(eT.mem _ this).2 ck;replace cn:=eT.aI cn;replace cA:=cA.le (by decide) eT.le;replace cT:=cT.le eT.le;replace gG:=gG.le eT.le;replace cI:=cI.bh eT;replace hM:=eT.lt hM;have:=S.size;replace S:=S.ay eT;refine cR (M:=nj) (base:=xh.heap.size) aV gZ rfl rfl rfl rfl cI eJ (aq _ _) (by simp;omega) (by simp;omega) (by have:=dQ.size;have:=eS.size;have:=eT.size;omega) (fun eN kb PR AG fm=>?_);have:=ak g2
     replace cL:=(fm.mem _ this).2 cL;replace g2:=fm.bF g2 (fun h=>by first|exact cI.dD g2 h|exact cI.eL g2 (by decide) h|(have:=(cI.base _ h).1;omega));have:=ak g3;replace dR:=(fm.mem _ this).2 dR;replace g3:=fm.bF g3 (fun h=>by first|exact cI.dD g3 h|exact cI.eL g3 (by decide) h|(have:=(cI.base _ h).1;omega));have:=ak cW;replace cv:=(fm.mem _ this).2 cv;replace cW:=fm.bF cW (fun h=>by first|exact cI.dD cW h|exact cI.eL cW (by decide) h|(have:=(cI.base _ h).1;omega));have:=ak cn;replace ck:=(fm.mem _ this).2 ck;replace cn:=fm.bF cn (fun h=>by first|exact cI.dD cn h|exact cI.eL cn (by decide) h|(have:=(cI.base _ h).1;omega));replace cA:=cA.le (by decide) fm.le;replace cT:=cT.le fm.le;replace gG:=gG.le fm.le;replace eJ:=eJ.le fm.le;replace hM:=fm.lt hM;have:=S.size;replace S:=S.dh fm cI Fc;replace cI:=AG;refine aS (o':=1) aN rfl rfl qe (by decide) rfl rfl ?_;refine bQ (M:=kb) qe rfl rfl cn rfl ((by obtain⟨_,_,he,_⟩:=cI.isSlice;rw[he];rfl)) ck (fun Ff yQ eU=>?_);change Ff.heap[_]? =some (Obj.cells #[.int .i64 d.1,eN] _ _)at yQ;have:=ak g2;replace cL:=(eU.mem _ this).2 cL;replace g2:=eU.bF g2 (fun hk=>by have hk:_=_:=hk;omega);have:=ak g3;replace dR:=(eU.mem _ this).2 dR;replace g3:=eU.bF g3 (fun hk=>by have hk:_=_:=hk;omega);have:=ak cW;replace cv:=(eU.mem _ this).2 cv;replace cW:=eU.bF cW (fun hk=>by have hk:_=_:=hk;omega);have:=ak cn;replace ck:=(eU.mem _ this).2 ck;replace cA:=cA.le (by decide) eU.le;replace cT:=cT.le eU.le;replace gG:=gG.le eU.le;replace eJ:=eJ.le eU.le;replace cI:=cI.step eU (fun b hb hk=>by have hk:_=_:=hk;have:=(cI.base b hb);omega);replace hM:=eU.lt hM;have:=S.size
     replace S:=S.trans eU (fun k hk h=>by have h:_=_:=h;subst h;first|(exfalso;omega)|(show _≤_;omega)|exact⟨by first|omega|assumption,(S.mem _ hk).1 ((eU.mem _ (ak cn)).1 ck)⟩|exact .inl rfl|exact .inr rfl|exact .inr (.inl rfl)|exact .inr (.inr rfl)|exact rfl);have gx:=yQ;clear cn;have cn:=gx;clear gx;refine ad (aj (ah (ia (vs:=[.int .i64 d.1,eN]) aN rfl kL rfl rfl rfl cn ?_)));have rC:=cI.view (hn:=by decide) (by simp;omega);replace cL:rm kb eN _:=⟨cL,by first|exact cI.eL g2 (by decide)|(intro h;have:=(cI.base _ h).1;omega)⟩;replace dR:rm kb eN _:=⟨dR,by first|exact cI.eL g3 (by decide)|(intro h;have:=(cI.base _ h).1;omega)⟩;replace cv:rm kb eN _:=⟨cv,by first|exact cI.eL cW (by decide)|(intro h;have:=(cI.base _ h).1;omega)⟩;replace ck:rm kb eN _:=⟨ck,by first|exact cI.eL cn (by decide)|(intro h;have:=(cI.base _ h).1;omega)⟩;replace cA:=cA.le (by decide) (oX _ eN _);replace cT:=cT.le (oX _ eN _);replace gG:=gG.le (oX _ eN _);replace eJ:=eJ.le (oX _ eN _);replace hM:Lt (rm kb eN) _:=fun b hb=>hM b hb.1
     replace S:=S.freeze (v:=eN) (fun b hb=>by have:=(cI.base b hb).1;omega);clear cI;refine aP rfl rfl OP (vr (d:=(d.1,[]++out++[fixF i x])) _ hM (dY (gp Ss) rC rfl rfl rfl rfl) (fun y hy=>by have:=(wg.snoc JL) y (by simpa using hy);omega)) (fun Zy PS hc=>?_);obtain⟨rfl,jh⟩:=hc;rw[jx]at rC;have:=ak g2;replace cL:=(jh.mem _ this).2 cL;replace g2:=jh.aI g2;have:=ak g3;replace dR:=(jh.mem _ this).2 dR;replace g3:=jh.aI g3;have:=ak cW;replace cv:=(jh.mem _ this).2 cv;replace cW:=jh.aI cW;have:=ak cn;replace ck:=(jh.mem _ this).2 ck;replace cn:=jh.aI cn;replace cA:=cA.le (by decide) jh.le;replace cT:=cT.le jh.le;replace gG:=gG.le jh.le;replace eJ:=eJ.le jh.le;replace rC:=rC.le jh.le;replace hM:=jh.lt hM;have:=S.size;replace S:=S.ay jh;refine Rg.zY rfl rfl rfl (bu (v':= .bool (decide (kn (d.1,out++[fixF i x])=0))) (by rw[jx]) (ad ?_));refine bI rfl (fun LK=>?_) (fun LK=>?_)
     ·refine ah (ia (vs:=[.int .i64 d.1,eN]) aN rfl kL rfl rfl rfl cn ?_);refine fa (M:=rm kb eN) (vs:=[.int .i64 d.1,eN]) kL rfl rfl (by intro u hu;simp at hu;rcases hu with rfl|rfl<;>first|rfl|exact j1 (by assumption) rfl rfl) rfl rfl g3 dR (fun Vq Fg gN=>?_);have:=ak g2;replace cL:=(gN.mem _ this).2 cL;replace g2:=gN.bF g2 (fun hk=>by have hk:_=_:=hk;omega);have:=ak g3;replace dR:=(gN.mem _ this).2 dR;have:=ak cW;replace cv:=(gN.mem _ this).2 cv;replace cW:=gN.bF cW (fun hk=>by have hk:_=_:=hk;omega);have:=ak cn;replace ck:=(gN.mem _ this).2 ck;replace cn:=gN.bF cn (fun hk=>by have hk:_=_:=hk;omega);replace cA:=cA.le (by decide) gN.le;replace cT:=cT.le gN.le;replace gG:=gG.le gN.le;replace eJ:=eJ.le gN.le;replace rC:=rC.le gN.le;replace hM:=gN.lt hM;have:=S.size;replace S:=S.trans gN (fun k hk h=>by have h:_=_:=h;subst h;first|(exfalso;omega)|(show _≤_;omega)|exact⟨by first|omega|assumption,(S.mem _ hk).1 ((gN.mem _ (ak g3)).1 dR)⟩|exact .inl rfl|exact .inr rfl|exact .inr (.inl rfl)|exact .inr (.inr rfl)|exact rfl);have PT:=Fg;clear g3;have g3:=PT;clear PT;refine ad (ah (ae rfl rfl (bA rfl rfl rfl (by omega) (ai rfl rfl (ad ?_)))));refine⟨rfl,(i+1,out++[fixF i x]),(.cons rfl (.cons rfl (.cons rfl (.cons rfl (.cons rfl .nil))))),?_,?_⟩
      ·exact⟨_,_,hM,S,cA,cT,g2,cL,g3,dR,rC,by rw[sT,St,if_pos LK],by dsimp only;omega,by dsimp only;omega,wg.snoc JL,by simp;omega⟩
      ·dsimp only;omega
     ·refine aU (ah (ae rfl rfl (bA rfl rfl rfl (by omega) (ai rfl rfl (ad ?_)))));refine⟨rfl,(i+1,out),(.cons rfl (.cons rfl (.cons rfl (.cons rfl (.cons rfl .nil))))),?_,?_⟩
      ·exact⟨_,_,hM,S,cA,cT,g2,cL,g3,dR,gG,by rw[sT,St,if_neg LK],by dsimp only;omega,by dsimp only;omega,wg,by dsimp only;omega⟩
      ·dsimp only;omega
    ·rw[show x.1=(fixF i x).1 from by show x.1=if eM x.1=true then x.1 else _;rw[if_pos (by cases hq:eM x.1 with|true=>rfl|false=>exact absurd hq c8)]]at cW;refine aU (aj (ah (aS (o':=1) bT rfl rfl I9 (by decide) rfl rfl (aE aD rfl rfl rfl (by assumption) rfl (aS (o':=1) bT rfl rfl I9 (by decide) rfl rfl (aE aD rfl rfl rfl (by assumption) rfl (Rg.kI aD rfl rfl (bu (v':= .int .i64 (x.2.length:Int)) (by simp[ByteArray.size]) (Rg.min2 rfl rfl rfl (Rg.Jy aD rfl rfl rfl (by omega) (bu (v':= .string ⟨((fixF i x).2).toArray⟩) (by rw[yM];rfl) ?_)))))))))));refine aS (o':=1) bT rfl rfl I9 (by decide) rfl rfl ?_;refine bQ (M:=ka) I9 rfl rfl cW rfl (rfl) cv (fun BW yN eY=>?_);change BW.heap[_]? =some (Obj.cells #[.string ⟨((fixF i x).1).toArray⟩,.string ⟨((fixF i x).2).toArray⟩] _ _)at yN;have:=ak g2;replace cL:=(eY.mem _ this).2 cL;replace g2:=eY.bF g2 (fun hk=>by have hk:_=_:=hk;omega);have:=ak g3;replace dR:=(eY.mem _ this).2 dR;replace g3:=eY.bF g3 (fun hk=>by have hk:_=_:=hk;omega);have:=ak cW;replace cv:=(eY.mem _ this).2 cv;replace cA:=cA.le (by decide) eY.le;replace cT:=cT.le eY.le;replace gG:=gG.le eY.le;replace hM:=eY.lt hM;have:=S.size;replace S:=S.trans eY (fun k hk h=>by have h:_=_:=h;subst h;first|(exfalso;omega)|(show _≤_;omega)|exact⟨by first|omega|assumption,(S.mem _ hk).1 ((eY.mem _ (ak cW)).1 cv)⟩|exact .inl rfl|exact .inr rfl|exact .inr (.inl rfl)|exact .inr (.inr rfl)|exact rfl);have nq:=yN;clear cW;have cW:=nq;clear nq;refine ad (aj (ah ?_));refine aH (M:=ka) (A:=RT.dc) (B:=RT.int .i64) aN rfl rfl I3 (by decide) (Pz) rfl rfl (by decide) (by assumption) (by repeat (first|exact aq _ _|refine aT (aY (by assumption)) ?_)) (fun JM Fa=>?_)
     refine cb (M:=ka) ar rfl rfl (by assumption) (by repeat (first|exact aq _ _|refine aT (aY (by assumption)) ?_)) (fun LJ=>?_);refine dZ (places:=[(0,1),(1,1)]) aN kL OM rfl ⟨_,_,rfl,rfl,rfl⟩ (out:=[_,.slice none 0 0]) ⟨0,[_],rfl,rfl,by simp[Value.cells],rfl⟩ ?_;refine eW ka kL rfl (fun te yO PN PO cn ep=>?_);obtain⟨oJ,pv⟩:∃M',M'=ins ka te:=⟨_,rfl⟩;rw[←pv]at ep;have ck:oJ te:=by rw[pv];exact .inl rfl
     change yO.heap[te]? =some (.cells #[.int .i64 0,.slice none 0 0] _ _)at cn;have:=ak g2;replace cL:=(ep.mem _ this).2 cL;replace g2:=ep.aI g2;have:=ak g3;replace dR:=(ep.mem _ this).2 dR;replace g3:=ep.aI g3;have:=ak cW;replace cv:=(ep.mem _ this).2 cv;replace cW:=ep.aI cW;replace cA:=cA.le (by decide) ep.le;replace cT:=cT.le ep.le;replace gG:=gG.le ep.le;replace hM:=ep.lt hM;have:=S.size;replace S:=S.ay ep;refine fa (M:=oJ) (vs:=[.int .i64 d.1,.slice none 0 0]) kL rfl rfl (by intro u hu;simp at hu;rcases hu with rfl|rfl<;>first|rfl|exact j1 (by assumption) rfl rfl) rfl rfl cn ck (fun xh Fb iO=>?_);have:=ak g2;replace cL:=(iO.mem _ this).2 cL;replace g2:=iO.bF g2 (fun hk=>by have hk:_=_:=hk;omega);have:=ak g3;replace dR:=(iO.mem _ this).2 dR;replace g3:=iO.bF g3 (fun hk=>by have hk:_=_:=hk;omega);have:=ak cW;replace cv:=(iO.mem _ this).2 cv;replace cW:=iO.bF cW (fun hk=>by have hk:_=_:=hk;omega);have:=ak cn;replace ck:=(iO.mem _ this).2 ck;replace cA:=cA.le (by decide) iO.le;replace cT:=cT.le iO.le;replace gG:=gG.le iO.le;replace hM:=iO.lt hM;have:=S.size;replace S:=S.trans iO (fun k hk h=>by have h:_=_:=h;subst h;first|(exfalso;omega)|(show _≤_;omega)|exact⟨by first|omega|assumption,(S.mem _ hk).1 ((iO.mem _ (ak cn)).1 ck)⟩|exact .inl rfl|exact .inr rfl|exact .inr (.inl rfl)|exact .inr (.inr rfl)|exact rfl);have gx:=Fb;clear cn;have cn:=gx;clear gx;refine ad (aj (ah (aS (o':=1) aN rfl rfl qe (by decide) rfl rfl (aE aV rfl rfl rfl (by assumption) rfl (aS (o':=1) aN rfl rfl qe (by decide) rfl rfl (aE aV rfl rfl rfl (by assumption) rfl ?_))))));have cI:=Own.JC RT.fd 127 xh.heap.size hM
     have Vp:=ak cW;have Fc:w0.heap.size≤xh.heap.size:=S.size;refine cR (M:=oJ) (base:=xh.heap.size) aV gZ rfl rfl rfl rfl cI gG (aq _ _) (by simp;omega) (by simp;omega) (bj _) (fun sU nj ES oH dQ=>?_);have:=ak g2;replace cL:=(dQ.mem _ this).2 cL;replace g2:=dQ.bF g2 (fun h=>by first|exact cI.dD g2 h|exact cI.eL g2 (by decide) h|(have:=(cI.base _ h).1;omega));have:=ak g3;replace dR:=(dQ.mem _ this).2 dR;replace g3:=dQ.bF g3 (fun h=>by first|exact cI.dD g3 h|exact cI.eL g3 (by decide) h|(have:=(cI.base _ h).1;omega));have:=ak cW;replace cv:=(dQ.mem _ this).2 cv;replace cW:=dQ.bF cW (fun h=>by first|exact cI.dD cW h|exact cI.eL cW (by decide) h|(have:=(cI.base _ h).1;omega));have:=ak cn;replace ck:=(dQ.mem _ this).2 ck;replace cn:=dQ.bF cn (fun h=>by first|exact cI.dD cn h|exact cI.eL cn (by decide) h|(have:=(cI.base _ h).1;omega));replace cA:=cA.le (by decide) dQ.le;replace cT:=cT.le dQ.le;replace gG:=gG.le dQ.le;replace hM:=dQ.lt hM;have:=S.size;replace S:=S.dh dQ cI Fc;replace cI:=oH;refine aS (o':=1) aN rfl rfl qe (by decide) rfl rfl ?_;refine bQ (M:=nj) qe rfl rfl cn rfl ((by obtain⟨_,_,he,_⟩:=cI.isSlice;rw[he];rfl)) ck (fun Fe yP eS=>?_);change Fe.heap[_]? =some (Obj.cells #[.int .i64 d.1,sU] _ _)at yP;have:=ak g2;replace cL:=(eS.mem _ this).2 cL;replace g2:=eS.bF g2 (fun hk=>by have hk:_=_:=hk;omega);have:=ak g3;replace dR:=(eS.mem _ this).2 dR;replace g3:=eS.bF g3 (fun hk=>by have hk:_=_:=hk;omega);have:=ak cW;replace cv:=(eS.mem _ this).2 cv;replace cW:=eS.bF cW (fun hk=>by have hk:_=_:=hk;omega);have:=ak cn;replace ck:=(eS.mem _ this).2 ck
     replace cA:=cA.le (by decide) eS.le;replace cT:=cT.le eS.le;replace gG:=gG.le eS.le;replace cI:=cI.step eS (fun b hb hk=>by have hk:_=_:=hk;have:=(cI.base b hb);omega);replace hM:=eS.lt hM;have:=S.size;replace S:=S.trans eS (fun k hk h=>by have h:_=_:=h;subst h;first|(exfalso;omega)|(show _≤_;omega)|exact⟨by first|omega|assumption,(S.mem _ hk).1 ((eS.mem _ (ak cn)).1 ck)⟩|exact .inl rfl|exact .inr rfl|exact .inr (.inl rfl)|exact .inr (.inr rfl)|exact rfl);have gx:=yP;clear cn;have cn:=gx;clear gx;refine ad (aj (ah (aS (o':=1) aN rfl rfl qe (by decide) rfl rfl (aE aV rfl rfl rfl (by assumption) rfl (ia (vs:=[.string ⟨((fixF i x).1).toArray⟩,.string ⟨((fixF i x).2).toArray⟩]) bT rfl gZ rfl rfl rfl cW ?_)))));refine eE (A:=RT.fd) (hn:=by decide) (M:=nj) aV gZ (by decide) rfl rfl hM (show RT.fd.V _ _ (fixF i x) _ from dY (jQ.2 ⟨rfl,fK JL.1 (by decide)⟩) (jQ.2 ⟨rfl,fK JL.2 (by decide)⟩) rfl rfl rfl rfl) (.inl rfl) (fun JH PQ eJ eT=>?_);have:=ak g2;replace cL:=(eT.mem _ this).2 cL;replace g2:=eT.aI g2;have:=ak g3;replace dR:=(eT.mem _ this).2 dR;replace g3:=eT.aI g3;have:=ak cW;replace cv:=(eT.mem _ this).2 cv;replace cW:=eT.aI cW;have:=ak cn;replace ck:=(eT.mem _ this).2 ck;replace cn:=eT.aI cn;replace cA:=cA.le (by decide) eT.le;replace cT:=cT.le eT.le;replace gG:=gG.le eT.le;replace cI:=cI.bh eT;replace hM:=eT.lt hM;have:=S.size;replace S:=S.ay eT;refine cR (M:=nj) (base:=xh.heap.size) aV gZ rfl rfl rfl rfl cI eJ (aq _ _) (by simp;omega) (by simp;omega) (by have:=dQ.size;have:=eS.size;have:=eT.size;omega) (fun eN kb PR AG fm=>?_);have:=ak g2
     replace cL:=(fm.mem _ this).2 cL;replace g2:=fm.bF g2 (fun h=>by first|exact cI.dD g2 h|exact cI.eL g2 (by decide) h|(have:=(cI.base _ h).1;omega));have:=ak g3;replace dR:=(fm.mem _ this).2 dR;replace g3:=fm.bF g3 (fun h=>by first|exact cI.dD g3 h|exact cI.eL g3 (by decide) h|(have:=(cI.base _ h).1;omega));have:=ak cW;replace cv:=(fm.mem _ this).2 cv;replace cW:=fm.bF cW (fun h=>by first|exact cI.dD cW h|exact cI.eL cW (by decide) h|(have:=(cI.base _ h).1;omega));have:=ak cn;replace ck:=(fm.mem _ this).2 ck;replace cn:=fm.bF cn (fun h=>by first|exact cI.dD cn h|exact cI.eL cn (by decide) h|(have:=(cI.base _ h).1;omega));replace cA:=cA.le (by decide) fm.le;replace cT:=cT.le fm.le;replace gG:=gG.le fm.le;replace eJ:=eJ.le fm.le;replace hM:=fm.lt hM;have:=S.size;replace S:=S.dh fm cI Fc;replace cI:=AG;refine aS (o':=1) aN rfl rfl qe (by decide) rfl rfl ?_;refine bQ (M:=kb) qe rfl rfl cn rfl ((by obtain⟨_,_,he,_⟩:=cI.isSlice;rw[he];rfl)) ck (fun Ff yQ eU=>?_);change Ff.heap[_]? =some (Obj.cells #[.int .i64 d.1,eN] _ _)at yQ;have:=ak g2;replace cL:=(eU.mem _ this).2 cL;replace g2:=eU.bF g2 (fun hk=>by have hk:_=_:=hk;omega);have:=ak g3;replace dR:=(eU.mem _ this).2 dR;replace g3:=eU.bF g3 (fun hk=>by have hk:_=_:=hk;omega);have:=ak cW;replace cv:=(eU.mem _ this).2 cv;replace cW:=eU.bF cW (fun hk=>by have hk:_=_:=hk;omega);have:=ak cn;replace ck:=(eU.mem _ this).2 ck;replace cA:=cA.le (by decide) eU.le;replace cT:=cT.le eU.le;replace gG:=gG.le eU.le;replace eJ:=eJ.le eU.le;replace cI:=cI.step eU (fun b hb hk=>by have hk:_=_:=hk;have:=(cI.base b hb);omega);replace hM:=eU.lt hM;have:=S.size
     replace S:=S.trans eU (fun k hk h=>by have h:_=_:=h;subst h;first|(exfalso;omega)|(show _≤_;omega)|exact⟨by first|omega|assumption,(S.mem _ hk).1 ((eU.mem _ (ak cn)).1 ck)⟩|exact .inl rfl|exact .inr rfl|exact .inr (.inl rfl)|exact .inr (.inr rfl)|exact rfl);have gx:=yQ;clear cn;have cn:=gx;clear gx;refine ad (aj (ah (ia (vs:=[.int .i64 d.1,eN]) aN rfl kL rfl rfl rfl cn ?_)));have rC:=cI.view (hn:=by decide) (by simp;omega);replace cL:rm kb eN _:=⟨cL,by first|exact cI.eL g2 (by decide)|(intro h;have:=(cI.base _ h).1;omega)⟩;replace dR:rm kb eN _:=⟨dR,by first|exact cI.eL g3 (by decide)|(intro h;have:=(cI.base _ h).1;omega)⟩;replace cv:rm kb eN _:=⟨cv,by first|exact cI.eL cW (by decide)|(intro h;have:=(cI.base _ h).1;omega)⟩;replace ck:rm kb eN _:=⟨ck,by first|exact cI.eL cn (by decide)|(intro h;have:=(cI.base _ h).1;omega)⟩;replace cA:=cA.le (by decide) (oX _ eN _);replace cT:=cT.le (oX _ eN _);replace gG:=gG.le (oX _ eN _);replace eJ:=eJ.le (oX _ eN _);replace hM:Lt (rm kb eN) _:=fun b hb=>hM b hb.1
     replace S:=S.freeze (v:=eN) (fun b hb=>by have:=(cI.base b hb).1;omega);clear cI;refine aP rfl rfl OP (vr (d:=(d.1,[]++out++[fixF i x])) _ hM (dY (gp Ss) rC rfl rfl rfl rfl) (fun y hy=>by have:=(wg.snoc JL) y (by simpa using hy);omega)) (fun Zy PS hc=>?_);obtain⟨rfl,jh⟩:=hc;rw[jx]at rC;have:=ak g2;replace cL:=(jh.mem _ this).2 cL;replace g2:=jh.aI g2;have:=ak g3;replace dR:=(jh.mem _ this).2 dR;replace g3:=jh.aI g3;have:=ak cW;replace cv:=(jh.mem _ this).2 cv;replace cW:=jh.aI cW;have:=ak cn;replace ck:=(jh.mem _ this).2 ck;replace cn:=jh.aI cn;replace cA:=cA.le (by decide) jh.le;replace cT:=cT.le jh.le;replace gG:=gG.le jh.le;replace eJ:=eJ.le jh.le;replace rC:=rC.le jh.le;replace hM:=jh.lt hM;have:=S.size;replace S:=S.ay jh;refine Rg.zY rfl rfl rfl (bu (v':= .bool (decide (kn (d.1,out++[fixF i x])=0))) (by rw[jx]) (ad ?_));refine bI rfl (fun LK=>?_) (fun LK=>?_)
     ·refine ah (ia (vs:=[.int .i64 d.1,eN]) aN rfl kL rfl rfl rfl cn ?_);refine fa (M:=rm kb eN) (vs:=[.int .i64 d.1,eN]) kL rfl rfl (by intro u hu;simp at hu;rcases hu with rfl|rfl<;>first|rfl|exact j1 (by assumption) rfl rfl) rfl rfl g3 dR (fun Vq Fg gN=>?_);have:=ak g2;replace cL:=(gN.mem _ this).2 cL;replace g2:=gN.bF g2 (fun hk=>by have hk:_=_:=hk;omega);have:=ak g3;replace dR:=(gN.mem _ this).2 dR;have:=ak cW;replace cv:=(gN.mem _ this).2 cv;replace cW:=gN.bF cW (fun hk=>by have hk:_=_:=hk;omega);have:=ak cn;replace ck:=(gN.mem _ this).2 ck;replace cn:=gN.bF cn (fun hk=>by have hk:_=_:=hk;omega);replace cA:=cA.le (by decide) gN.le;replace cT:=cT.le gN.le;replace gG:=gG.le gN.le;replace eJ:=eJ.le gN.le;replace rC:=rC.le gN.le;replace hM:=gN.lt hM;have:=S.size;replace S:=S.trans gN (fun k hk h=>by have h:_=_:=h;subst h;first|(exfalso;omega)|(show _≤_;omega)|exact⟨by first|omega|assumption,(S.mem _ hk).1 ((gN.mem _ (ak g3)).1 dR)⟩|exact .inl rfl|exact .inr rfl|exact .inr (.inl rfl)|exact .inr (.inr rfl)|exact rfl);have PT:=Fg;clear g3;have g3:=PT;clear PT;refine ad (ah (ae rfl rfl (bA rfl rfl rfl (by omega) (ai rfl rfl (ad ?_)))));refine⟨rfl,(i+1,out++[fixF i x]),(.cons rfl (.cons rfl (.cons rfl (.cons rfl (.cons rfl .nil))))),?_,?_⟩
      ·exact⟨_,_,hM,S,cA,cT,g2,cL,g3,dR,rC,by rw[sT,St,if_pos LK],by dsimp only;omega,by dsimp only;omega,wg.snoc JL,by simp;omega⟩
      ·dsimp only;omega
     ·refine aU (ah (ae rfl rfl (bA rfl rfl rfl (by omega) (ai rfl rfl (ad ?_)))));refine⟨rfl,(i+1,out),(.cons rfl (.cons rfl (.cons rfl (.cons rfl (.cons rfl .nil))))),?_,?_⟩
      ·exact⟨_,_,hM,S,cA,cT,g2,cL,g3,dR,gG,by rw[sT,St,if_neg LK],by dsimp only;omega,by dsimp only;omega,wg,by dsimp only;omega⟩
      ·dsimp only;omega
   ·refine cM (aj (ah (ia (vs:=[.int .i64 d.1,uo]) aN rfl kL rfl rfl rfl g3 ?_)));refine fa (M:=M1) (vs:=[.int .i64 d.1,uo]) kL rfl rfl (by intro u hu;simp at hu;rcases hu with rfl|rfl<;>first|rfl|exact j1 (by assumption) rfl rfl) rfl rfl g2 cL (fun Vr Fh lY=>?_);have:=ak g2;replace cL:=(lY.mem _ this).2 cL;have:=ak g3;replace dR:=(lY.mem _ this).2 dR;replace g3:=lY.bF g3 (fun hk=>by have hk:_=_:=hk;omega);replace cA:=cA.le (by decide) lY.le;replace cT:=cT.le lY.le;replace gG:=gG.le lY.le;replace hM:=lY.lt hM;have:=S.size;replace S:=S.trans lY (fun k hk h=>by have h:_=_:=h;subst h;first|(exfalso;omega)|(show _≤_;omega)|exact⟨by first|omega|assumption,(S.mem _ hk).1 ((lY.mem _ (ak g2)).1 cL)⟩|exact .inl rfl|exact .inr rfl|exact .inr (.inl rfl)|exact .inr (.inr rfl)|exact rfl);have Fi:=Fh;clear g2;have g2:=Fi;clear Fi;refine ad (aJ ?_);have e:mh d=(d.1,out):=by rw[mh,sT,vu (by omega)]
    rw[e];refine wI (vs:=[.int .i64 d.1,uo]) rfl rfl aN rfl kL rfl g2 ⟨dY (gp Ss) (gG.le (Le.close jL S)) rfl rfl rfl rfl,S.back⟩
  ·refine ao rfl rfl rfl rfl (ao rfl rfl rfl rfl (ax rfl rfl rfl (ad (hU rfl (cM (aj (ah (ia (vs:=[.int .i64 d.1,uo]) aN rfl kL rfl rfl rfl g3 ?_))))))));refine fa (M:=M1) (vs:=[.int .i64 d.1,uo]) kL rfl rfl (by intro u hu;simp at hu;rcases hu with rfl|rfl<;>first|rfl|exact j1 (by assumption) rfl rfl) rfl rfl g2 cL (fun Vr Fh lY=>?_);have:=ak g2;replace cL:=(lY.mem _ this).2 cL;have:=ak g3;replace dR:=(lY.mem _ this).2 dR;replace g3:=lY.bF g3 (fun hk=>by have hk:_=_:=hk;omega);replace cA:=cA.le (by decide) lY.le;replace cT:=cT.le lY.le;replace gG:=gG.le lY.le;replace hM:=lY.lt hM;have:=S.size;replace S:=S.trans lY (fun k hk h=>by have h:_=_:=h;subst h;first|(exfalso;omega)|(show _≤_;omega)|exact⟨by first|omega|assumption,(S.mem _ hk).1 ((lY.mem _ (ak g2)).1 cL)⟩|exact .inl rfl|exact .inr rfl|exact .inr (.inl rfl)|exact .inr (.inr rfl)|exact rfl);have Fi:=Fh;clear g2;have g2:=Fi;clear Fi;refine ad (aJ ?_);have e:mh d=(d.1,out):=by rw[mh,sT,vu (by omega)]
   rw[e];refine wI (vs:=[.int .i64 d.1,uo]) rfl rfl aN rfl kL rfl g2 ⟨dY (gp Ss) (gG.le (Le.close jL S)) rfl rfl rfl rfl,S.back⟩
end Go.K
namespace Go.K
open Go.Proofs
set_option maxRecDepth 10000
def fN (l:List Dc) (from_ step:Int):Nat→List En
 |0=>[]
 |k+1=>fN l from_ step k++(match l[k]? with|some d=>[(mh d,from_+step*(k:Int))]|none=>[])
theorem jM (l:List Dc) (a s:Int):∀k,(fN l a s k).length=min k l.length
 |0=>by simp[fN]
 |k+1=>by
  rw[fN,bL,jM l a s k]
  cases h:l[k]? with
  |none=>have:=List.getElem?_eq_none_iff.1 h;simp;omega
  |some d=>have:=(av.1 h).1;simp;omega
theorem tf {l:List Dc} {a s:Int} {k:Nat} {d:Dc} (h:l[k]? =some d):fN l a s (k+1)=fN l a s k++[(mh d,a+s*(k:Int))]:=by rw[fN,h]
theorem tg {l:List Dc} {a s:Int} {k:Nat} (h:l.length≤k):fN l a s (k+1)=fN l a s k:=by
 rw[fN,List.getElem?_eq_none_iff.2 h];simp
theorem yR {l:List Dc} {a s:Int} {n i:Nat} (h:l.length≤i∨n≤i) (h1:i≤n):fN l a s i=fN l a s n:=by
 induction n with
 |zero=>have:i=0:=by omega
        rw[this]
 |succ n ih=>
  rcases jj h1 with e|dB
  ·rw[e]
  ·rcases h with h|h
   ·rw[tg (by omega)];exact ih (.inl h) (by omega)
   ·omega
theorem H9 {s k:Int} (h:0≤s∧s≤1000) (hk:0≤k∧k≤100):0≤s*k∧s*k≤100000:=
 ⟨Int.mul_nonneg h.1 hk.1,Int.le_trans (Int.mul_le_mul h.2 hk.2 hk.1 (by omega)) (by omega)⟩
theorem AH {M:aA} {l:List Dc} {v0:Value} {most:Nat} {a s:Int} (w0:World) (hM:Lt M w0) (hv:(RT.dc.sl).V M w0 l v0) (hm:most≤100) (ha:0≤a∧a≤1000000) (hs:0≤s∧s≤1000):
  Spec Tryz.prog 21 #[v0,.int .i64 (most:Int),.int .i64 a,.int .i64 s] w0 (fun v w=>(RT.en.sl).V M w (fN l a s most) v∧Step M w0 M w aC):=by
 have jL:=hM;refine aX (args:=[_,_,_,_]) (fn:=Tryz.f21) Tryz.func21 rfl (n:=37) Tryz.ntmps21 ?_;have S:Step M w0 M w0 aC:=(an _ _).cc (fun _ h=>h.elim) (fun _ h=>h.elim);refine aj (ah (ai rfl rfl (ad (aj (ah (ai rfl rfl (ad (aj (aj (ah (ai rfl rfl ?_)))))))))));refine ad (a8 ?_);refine dC (σ:=Nat×Value) (fun q=>[(0,v0),(1,.int .i64 (most:Int)),(2,.int .i64 a),(3,.int .i64 s),(9,q.2),(10,.int .i64 (q.1:Int))]) (fun q w=>∃M',Lt M' w∧Step M w0 M' w aC∧Own RT.en 43 M' w w0.heap.size q.2 (fN l a s q.1)∧(RT.dc.sl).V M' w l v0∧q.1≤most∧q.1≤l.length) (fun q=>most-q.1) (0,.slice none 0 0) (.cons rfl (.cons rfl (.cons rfl (.cons rfl (.cons rfl (.cons rfl .nil)))))) ?_ ?_
 ·exact⟨M,hM,S,ec _ _ _ _ _,hv,bG _,bG _⟩
 ·rintro⟨i,u⟩ w ⟨M1,hM,S,ho,hv,hi,my⟩;dsimp only at ho hi my ⊢;refine aj (aj (ah (ae rfl rfl (ae rfl rfl (bU Tryz.underlying36 rfl hv rfl (cf rfl rfl rfl (ae rfl rfl ?_)))))));refine aG (g:=15) rfl (fun LL=>?_) (fun LL=>?_)
  ·refine al rfl rfl (ae rfl rfl (al rfl rfl (ae rfl rfl (al rfl rfl (cf rfl rfl rfl (aQ rfl rfl rfl (ad ?_)))))));refine bI rfl (fun c3=>?_) (fun c3=>?_)
   ·refine aU (aj (a8 (ah (ae rfl rfl (ae rfl rfl (ae rfl rfl ?_))))));refine dq (M:=M1) Tryz.underlying36 kL rfl rfl rfl hv (aq _ _) (by omega) (fun u5 d CR Au=>?_);rw[az]at CR;have hsi:=H9 (k:=(i:Int)) hs (by omega);refine cx (M:=M1) (A:=RT.dc) aN rfl kL (by decide) rfl rfl rfl Au (aq _ _) (fun v5 n4=>?_);refine aP rfl rfl E65 (CY _ hM n4) (fun r5 w5 hc=>?_);obtain⟨sT,s5⟩:=hc;replace hv:=hv.le s5.le;replace ho:=ho.bh s5;replace hM:=s5.lt hM;have:=S.size;replace S:=S.ay s5;refine ae rfl rfl (ae rfl rfl (ae rfl rfl (Rg.Kq rfl rfl rfl (by omega) (bA rfl rfl rfl (by omega) ?_))));obtain⟨uf,rfl⟩:=xe sT;refine dZ (places:=[(0,2),(2,1)]) cO yq Sh rfl ⟨_,_,rfl,rfl,_,_,rfl,rfl,rfl⟩ (out:=[_,_,_]) ⟨0,[_,_],rfl,rfl,by simp[Value.cells],2,[_],rfl,rfl,by simp[Value.cells],rfl⟩ ?_;refine eE (A:=RT.en) (hn:=by decide) (M:=M1) gh yq (by decide) rfl rfl hM (show RT.en.V _ _ (mh d,a+s*(i:Int)) _ from BX sT (by omega)) (.inl rfl) (fun PU PV oK oa=>?_);replace hv:=hv.le oa.le;replace sT:=sT.le oa.le;replace ho:=ho.bh oa;replace hM:=oa.lt hM;have:=S.size;replace S:=S.ay oa;refine cR (M:=M1) (base:=w0.heap.size) gh yq rfl rfl rfl rfl ho oK (aq _ _) (by have:=jM l a s i;simp;omega) (by have:=jM l a s i;simp;omega) (S.size) (fun Fj Fk PW AI oc=>?_);replace hv:=hv.le oc.le;replace sT:=sT.le oc.le;replace oK:=oK.le oc.le;replace hM:=oc.lt hM;have:=S.size;replace S:=S.dh oc ho (bj _);replace ho:=AI;refine ai rfl rfl (ad (ah (ae rfl rfl (bA rfl rfl rfl (by omega) (ai rfl rfl (ad ?_))))));refine⟨rfl,(i+1,Fj),(.cons rfl (.cons rfl (.cons rfl (.cons rfl (.cons rfl (.cons rfl .nil)))))),?_,?_⟩
    ·exact⟨Fk,hM,S,by rw[tf CR];exact ho,hv,by dsimp only;omega,by dsimp only;omega⟩
    ·dsimp only;omega
   ·refine cM (aj (ah (ae rfl rfl (ai rfl rfl (ad (aJ ?_))))));rw[←yR (i:=i) (n:=most) (by omega) hi];exact aO rfl rfl ⟨ho.close jL S (by have:=jM l a s i;omega),S.back⟩
  ·refine ao rfl rfl rfl rfl (ao rfl rfl rfl rfl (ao rfl rfl rfl rfl (ax rfl rfl rfl (ad (hU rfl (cM (aj (ah (ae rfl rfl (ai rfl rfl (ad ?_)))))))))));refine aJ ?_;rw[←yR (i:=i) (n:=most) (by omega) hi];exact aO rfl rfl ⟨ho.close jL S (by have:=jM l a s i;omega),S.back⟩
end Go.K
namespace Go.K
open Go.Maps (Keyed)
structure eu (P:Program) (kt:TypeId) (w:World) (b:Nat) (es:List MapEntry) (clock:Nat):Prop where
 at_:w.heap[b]? =some (.map es.toArray clock)
 born:es.Pairwise fun x y=>x.born≠y.born
 lt:∀e∈es,e.born<clock
 keys:es.Pairwise fun x y=>x.key≠y.key
 ok:∀e∈es,∃l,keyOf P kt e.key=some l
def dE (zv:Value) (es:List MapEntry) (key v:Value):Prop:=(∃e∈es,e.key=key∧v=e.val)∨((∀e∈es,e.key≠key)∧v=zv)
section
variable {P:Program} {kt:TypeId} {w:World} {b clock:Nat} {es:List MapEntry}
theorem eu.step {M M' N:aA} {w':World} (h:eu P kt w b es clock) (s:Step M w M' w' N) (hn: ¬N b):eu P kt w' b es clock:=⟨s.bF h.at_ hn,h.born,h.lt,h.keys,h.ok⟩
theorem eu.bh {M M':aA} {w':World} (h:eu P kt w b es clock) (s:Step M w M' w' aC):eu P kt w' b es clock:=h.step s fun h=>h
theorem fH {α:Type} {R:α→α→Prop} {l:List α} (h:l.Pairwise R) {i j:Nat} {x y:α} (hi:l[i]? =some x) (hj:l[j]? =some y) (gq:i<j):R x y:=by
 obtain⟨h1,h2⟩:=av.1 hi;obtain⟨h3,h4⟩:=av.1 hj;have:=List.pairwise_iff_getElem.1 h i j h1 h3 gq
 rwa [h2,h4]at this
theorem eu.B1 (h:eu P kt w b es clock) {x y:MapEntry} (hx:x∈es) (hy:y∈es) (e:x.key=y.key):x=y:=by
 obtain⟨i,hi⟩:=bO.1 hx;obtain⟨j,hj⟩:=bO.1 hy;rcases gU i j with h1|h1|h1
 ·exact absurd e (fH h.keys hi hj h1)
 ·subst h1;rw[hi]at hj;exact bM hj
 ·exact absurd e.symm (fH h.keys hj hi h1)
theorem eu.yS (h:eu P kt w b es clock) {i j:Nat} {x y:MapEntry} (hi:es[i]? =some x) (hj:es[j]? =some y) (e:x.born=y.born):i=j:=by
 rcases gU i j with h1|h1|h1
 ·exact absurd e (fH h.born hi hj h1)
 ·exact h1
 ·exact absurd e.symm (fH h.born hj hi h1)
theorem eu.val_one (h:eu P kt w b es clock) {zv key v v':Value} (h1:dE zv es key v) (h2:dE zv es key v'):v=v':=by
 rcases h1 with⟨e,he,hk,hv⟩|⟨hn,hv⟩
 ·rcases h2 with⟨e',nr,rX,nU⟩|⟨JN,_⟩
  ·have:=h.B1 he nr (hk.trans rX.symm);rw[hv,nU,this]
  ·exact absurd hk (JN e he)
 ·rcases h2 with⟨e',nr,rX,_⟩|⟨_,nU⟩
  ·exact absurd rX (hn e' nr)
  ·rw[hv,nU]
theorem cY {r:Nat} {a:Array MapEntry} {c:Nat} (hb:w.heap[r]? =some (.map a c)):(getObj r).run P w= .ok (.map a c) w:=by simp[getObj,Sem.run,hb]
theorem run_setObj_map {r:Nat} {a:Array MapEntry} {c:Nat} {o:Obj} (hb:w.heap[r]? =some (.map a c)):(setObj r o).run P w= .ok () {w with heap:=w.heap.setIfInBounds r o}:=by simp[setObj,Sem.run,hb]
theorem eu.push (h:eu P kt w b es clock) {key v:Value} {kl:Lit} (jt:keyOf P kt key=some kl) (hn:∀e∈es,e.key≠key) {w':World} (hw:w'.heap[b]? =some (.map (es++([⟨key,v,clock⟩]:List MapEntry)).toArray (clock+1))):eu P kt w' b (es++[⟨key,v,clock⟩]) (clock+1):=
 ⟨hw,List.pairwise_append.2 ⟨h.born,List.pairwise_singleton _ _,fun x hx y hy=>by rw[cE.1 hy];have:=h.lt x hx;show x.born≠clock;omega⟩,(fun e he=>by
  rcases dm.1 he with he|he
  ·have:=h.lt e he;omega
  ·rw[cE.1 he];exact Nat.lt_succ_self _),List.pairwise_append.2 ⟨h.keys,List.pairwise_singleton _ _,fun x hx y hy=>by rw[cE.1 hy];exact hn x hx⟩,(fun e he=>by
  rcases dm.1 he with he|he
  ·exact h.ok e he
  ·rw[cE.1 he];exact⟨kl,jt⟩)⟩
theorem dE.push {zv key:Value} {s:Nat} (hn:∀e∈es,e.key≠key) (gy v':Value):dE zv (es++[⟨key,zv,s⟩]) gy v'↔dE zv es gy v':=by
 constructor
 ·rintro(⟨e,he,hk,hv⟩|⟨h1,h2⟩)
  ·rcases dm.1 he with he|he
   ·exact .inl ⟨e,he,hk,hv⟩
   ·rw[cE.1 he]at hk hv;exact .inr ⟨fun e he=>by rw[←hk];exact hn e he,hv⟩
  ·exact .inr ⟨fun e he=>h1 e (kF _ he),h2⟩
 ·rintro(⟨e,he,hk,hv⟩|⟨h1,h2⟩)
  ·exact .inl ⟨e,kF _ he,hk,hv⟩
  ·by_cases hk:key=gy
   ·exact .inl ⟨⟨key,zv,s⟩,by simp,hk,h2⟩
   ·exact .inr ⟨fun e he=>by
     rcases dm.1 he with he|he
     ·exact h1 e he
     ·rw[cE.1 he];exact hk,h2⟩
end
section
variable {P:Program} {r:Option Nat} {n:Nat} {L:Sl} {ds:List Deferred} {w:World} {K:Kt} {ops:Array Oper} {rest:List Oper} {d:Nat} {x y z:Operand} {ty:TypeId} {pos:String} {af:Array Edge}
variable {kt:TypeId} {M:aA} {b clock:Nat} {es:List MapEntry}
theorem Rg.yT {t e:TypeId} (M:aA) (ht:P.underlying t=some (.map kt e)) (hd:Nat.blt d n=true)
  (k:∀b w',w.heap.size≤b→b<w'.heap.size→eu P kt w' b [] 0→Step M w (ins M b) w' aC→Rg P r n ops rest ((d,.map (some b))::L) ds w' K):
  Rg P r n ops ({dst:=some d,op:= .makeMap t none,type:=ty,pos,after:=af,guard:=none}::rest) L ds w K:=by
 refine .op (fun _ h=>by cases h) rfl rfl hd (.map (some w.heap.size)) (w.alloc (.map #[] 0)) (fun ρ hρ=>?_) (k w.heap.size _ (bj _) (by simp) ⟨cq w _,List.Pairwise.nil,(fun e he=>by cases he),List.Pairwise.nil,(fun e he=>by cases he)⟩ ((cU M w _).own (bj _) (by simp)));simp only[execOp];simp[Instr.makeMap,newObj,Sem.run,run_underlying ht]
theorem Rg.mapEntry {t e:TypeId} {zv key:Value} {size bytes:Nat} {kl:Lit} (ht:P.underlying t=some (.map kt e)) (Kk:Keyed P kt) (hi:TI P e zv size bytes) (hx:ev L x=some (.map (some b))) (hy:ev L y=some key) (hd:Nat.blt d n=true) (jt:keyOf P kt key=some kl) (h:eu P kt w b es clock) (hm:M b)
  (k:∀w' mi AJ v s,eu P kt w' b mi AJ→dE zv es key v→(⟨key,v,s⟩:MapEntry)∈mi→(∀gy v',dE zv mi gy v'↔dE zv es gy v')→((mi.map (·.key)=es.map (·.key)∧∃e∈es,e.key=key)∨(mi.map (·.key)=es.map (·.key)++[key]∧∀e∈es,e.key≠key))→Step M w M w' (fun k=>k=b)→Rg P r n ops rest ((d,.tuple #[v,.int .i64 (s:Nat)])::L) ds w' K):
  Rg P r n ops ({dst:=some d,op:= .mapEntry t x y,type:=ty,pos,after:=af,guard:=none}::rest) L ds w K:=by
 have dB:=ak h.at_;rcases Kk.find w jt es h.ok with⟨h1,h2⟩|⟨j,e0,h1,h2,h3⟩
 ·obtain⟨inf,i1,i2,_,_⟩:=hi.get;have hz:(zeroValue e).run P w= .ok zv w:=by simp[zeroValue,typeInfo,i1,i2]
  have hw:({w with heap:=w.heap.setIfInBounds b (.map (es.toArray.push ⟨key,zv,clock⟩) (clock+1))}:World).heap[b]? =some (.map (es++([⟨key,zv,clock⟩]:List MapEntry)).toArray (clock+1)):=by
   simp[cJ,dB]
  refine .op (fun _ h=>by cases h) rfl rfl hd _ _ (fun ρ hρ=>?_) (k _ _ _ zv clock (h.push jt h2 hw) (Or.inr ⟨h2,rfl⟩) (by simp) (dE.push h2) (Or.inr ⟨by simp,h2⟩) (gv M hm));simp only[execOp,hρ x _ hx,hρ y _ hy,Instr.mapEntry,cQ,run_underlying ht,du,cY h.at_,Kk.check w false jt,h1,hz,run_setObj_map h.at_];simp[goInt]
 ·have he:e0∈es:=aM h2
  have Fl:es.toArray.modify j (fun e=>{e with key:=key})=es.toArray:=by
   apply Array.ext_getElem?;intro i;rw[pM]
   split
   ·rename_i PX
    subst PX;simp only[jN,h2,fq];rw[←h3]
   ·rfl
  have hw:({w with heap:=w.heap.setIfInBounds b (.map es.toArray clock)}:World).heap[b]? =some (.map es.toArray clock):=by simp[cJ,dB]
  have hj:es.toArray[j]? =some e0:=by simpa using h2
  have iz:(Instr.keyThatStays ((Option.map (fun(e:MapEntry)=>e.key) es.toArray[j]?).getD key) key).run P w= .ok key w:=by
   rw[hj];simp only[fq,Option.getD_some,h3];exact Kk.stays w jt
  refine .op (fun _ h=>by cases h) rfl rfl hd _ _ (fun ρ hρ=>?_) (k _ es clock e0.val e0.born ⟨hw,h.born,h.lt,h.keys,h.ok⟩ (Or.inl ⟨e0,he,h3,rfl⟩) (by rw[←h3];exact he) (fun _ _=>Iff.rfl) (Or.inl ⟨rfl,e0,he,h3⟩) (gv M hm));simp only[execOp,hρ x _ hx,hρ y _ hy,Instr.mapEntry,cQ,run_underlying ht,du,cY h.at_,Kk.check w false jt,h1,iz,Fl,run_setObj_map h.at_];simp[goInt,hj]
theorem Rg.entryStore {t:TypeId} {key v0 val:Value} {s:Nat} (hx:ev L x=some (.map (some b))) (hy:ev L y=some (.int .i64 (s:Int))) (hz:ev L z=some val) (h:eu P kt w b es clock) (hm:M b) (ly:(⟨key,v0,s⟩:MapEntry)∈es)
  (k:∀w' mi,eu P kt w' b mi clock→mi.map (·.key)=es.map (·.key)→(∀zv gy v',dE zv mi gy v'↔(gy=key∧v'=val)∨(gy≠key∧dE zv es gy v'))→Step M w M w' (fun k=>k=b)→Rg P r n ops rest L ds w' K):
  Rg P r n ops ({dst:=none,op:= .entryStore t x y z,type:=ty,pos,after:=af,guard:=none}::rest) L ds w K:=by
 have dB:=ak h.at_;obtain⟨i,hi⟩:=bO.1 ly;have my:=(av.1 hi).1
 have Vs:es.toArray.findIdx? (fun e=>(e.born:Int)==(s:Int))=some i:=by
  rw[List.findIdx?_toArray,List.findIdx?_eq_some_iff_getElem];refine⟨my,by rw[(av.1 hi).2];simp,fun j hj=>?_⟩;have pO:j<es.length:=by omega
  have:=fun e=>h.yS (aL pO) hi e
  simp only[Bool.not_eq_true,beq_eq_false_iff_ne,ne_eq];intro e;have e2:((es[j]).born:Int)=(s:Int):=by simpa using e
  have:=this (by show(es[j]).born=s;omega);omega
 obtain⟨mi,qj⟩:∃mi,mi=es.set i ⟨key,val,s⟩:=⟨_,rfl⟩
 have Fl:es.toArray.modify i (fun e=>{e with val:=val})=mi.toArray:=by
  apply Array.ext_getElem?;intro j;rw[pM,qj];simp only[jN,dK]
  split
  ·rename_i PX
   subst PX;rw[hi];simp
  ·rfl
 have fT:∀j e',mi[j]? =some e'→(j=i∧e'=⟨key,val,s⟩)∨(j≠i∧es[j]? =some e'):=fun j e' hj=>by
  rw[qj,dK]at hj
  split at hj
  ·rename_i gq
   left;exact⟨gq.symm,by simpa[my]using hj.symm⟩
  ·rename_i gq
   exact .inr ⟨fun e=>gq e.symm,hj⟩
 have mj:mi.map (·.key)=es.map (·.key):=by
  rw[qj,List.map_set];apply ki;intro j;rw[dK]
  split
  ·rename_i gq
   subst gq;have e:=(av.1 hi).2;simp[my,e]
  ·rfl
 have Fm:mi.map (·.born)=es.map (·.born):=by
  rw[qj,List.map_set];apply ki;intro j;rw[dK]
  split
  ·rename_i gq
   subst gq;have e:=(av.1 hi).2;simp[my,e]
  ·rfl
 have hw:({w with heap:=w.heap.setIfInBounds b (.map mi.toArray clock)}:World).heap[b]? =some (.map mi.toArray clock):=by simp[cJ,dB]
 have ef:∀e'∈mi,(e'=⟨key,val,s⟩)∨(e'∈es∧e'.key≠key):=fun e' nr=>by
  obtain⟨j,hj⟩:=bO.1 nr;rcases fT j e' hj with⟨_,e⟩|⟨eG,pZ⟩
  ·exact .inl e
  ·refine .inr ⟨aM pZ,fun e=>eG ?_⟩;rcases gU j i with h1|h1|h1
   ·exact absurd e (fH h.keys pZ hi h1)
   ·exact h1
   ·exact absurd e.symm (fH h.keys hi pZ h1)
 have Fo:(⟨key,val,s⟩:MapEntry)∈mi:=aM (i:=i) (by rw[qj,dK];simp[my])
 have hold:∀e'∈es,e'.key≠key→e'∈mi:=fun e' nr eG=>by
  obtain⟨j,hj⟩:=bO.1 nr;refine aM (i:=j) ?_;rw[qj,dK,if_neg]
  ·exact hj
  ·rintro rfl;rw[hi]at hj;cases hj;exact eG rfl
 have hW:eu P kt {w with heap:=w.heap.setIfInBounds b (.map mi.toArray clock)} b mi clock:=by
  refine⟨hw,?_,fun e' nr=>?_,?_,fun e' nr=>?_⟩
  ·have:=dp.2 h.born;rw[←Fm]at this;exact dp.1 this
  ·rcases ef e' nr with e|⟨h1,_⟩
   ·rw[e];exact(h.lt _ ly:s<clock)
   ·exact h.lt _ h1
  ·have:=dp.2 h.keys;rw[←mj]at this;exact dp.1 this
  ·rcases ef e' nr with e|⟨h1,_⟩
   ·rw[e];exact(h.ok _ ly:∃l,keyOf P kt key=some l)
   ·exact h.ok _ h1
 refine .N9 (fun _ h=>by cases h) rfl rfl _ (fun ρ hρ=>?_) (k _ mi hW mj (fun zv gy v'=>?_) (gv M hm))
 ·simp only[execOp,hρ x _ hx,hρ y _ hy,hρ z _ hz,Instr.entryStore,cQ,cY h.at_,du,asInt,asIntOf,Sem.run_pure,Vs,Fl,run_setObj_map h.at_]
 ·constructor
  ·rintro(⟨e',nr,hk,hv⟩|⟨h1,h2⟩)
   ·rcases ef e' nr with e|⟨h3,h4⟩
    ·subst e;exact .inl ⟨hk.symm,hv⟩
    ·exact .inr ⟨by rw[←hk];exact h4,.inl ⟨e',h3,hk,hv⟩⟩
   ·have eG:gy≠key:=fun e=>h1 _ Fo e.symm
    exact .inr ⟨eG,.inr ⟨fun e' nr=>fun e=>by
     by_cases h5:e'.key=key
     ·exact eG (e.symm.trans h5)
     ·exact h1 e' (hold e' nr h5) e,h2⟩⟩
  ·rintro(⟨rfl,rfl⟩|⟨eG,⟨e',nr,hk,hv⟩|⟨h1,h2⟩⟩)
   ·exact .inl ⟨_,Fo,rfl,rfl⟩
   ·exact .inl ⟨e',hold e' nr (by rw[hk];exact eG),hk,hv⟩
   ·exact .inr ⟨fun e' nr=>by
     rcases ef e' nr with e|⟨h3,_⟩
     ·rw[e];exact fun e=>eG e.symm
     ·exact h1 e' h3,h2⟩
theorem Rg.pw {t e:TypeId} {zv key:Value} {size bytes:Nat} {kl:Lit} (ht:P.underlying t=some (.map kt e)) (Kk:Keyed P kt) (hi:TI P e zv size bytes) (hx:ev L x=some (.map (some b))) (hy:ev L y=some key) (hd:Nat.blt d n=true) (jt:keyOf P kt key=some kl) (h:eu P kt w b es clock)
  (k:∀v,dE zv es key v→Rg P r n ops rest ((d,v)::L) ds w K):
  Rg P r n ops ({dst:=some d,op:= .lookup t x y false,type:=ty,pos,after:=af,guard:=none}::rest) L ds w K:=by
 rcases Kk.find w jt es h.ok with⟨h1,h2⟩|⟨j,e0,h1,h2,h3⟩
 ·obtain⟨inf,i1,i2,_,_⟩:=hi.get;have hz:(zeroValue e).run P w= .ok zv w:=by simp[zeroValue,typeInfo,i1,i2]
  refine .op (fun _ h=>by cases h) rfl rfl hd zv w (fun ρ hρ=>?_) (k zv (Or.inr ⟨h2,rfl⟩));simp only[execOp,hρ x _ hx,hρ y _ hy,Instr.lookup,cQ,run_underlying ht,du,cY h.at_,Sem.run_pure,Kk.check w _ jt,h1,hz];simp
 ·refine .op (fun _ h=>by cases h) rfl rfl hd e0.val w (fun ρ hρ=>?_) (k e0.val (Or.inl ⟨e0,aM h2,h3,rfl⟩));simp only[execOp,hρ x _ hx,hρ y _ hy,Instr.lookup,cQ,run_underlying ht,du,cY h.at_,Sem.run_pure,Kk.check w _ jt,h1];simp
end
end Go.K
namespace Go.K
open Go.Proofs
set_option maxRecDepth 10000
open Go.Maps (Keyed)
def kv (t:Fd):Value:= .agg #[.string ⟨t.1.toArray⟩,.string ⟨t.2.toArray⟩]
theorem qk {a b:Fd} (h:kv a=kv b):a=b:=by
 unfold kv at h;simp only[Value.agg.injEq,Array.mk.injEq,List.cons.injEq,Value.string.injEq,ByteArray.mk.injEq,and_true]at h;exact Prod.ext h.1 h.2
theorem Fp:laidOutB Tryz.prog=true:=by kernel_rfl
theorem Fq:Tryz.prog.types.size=356:=by kernel_rfl
theorem vv:Keyed Tryz.prog 47:=Keyed.of_law (deep_law_laid Fp (m:=2) (k:=47) (by omega) (by rw[Fq];decide) (by kernel_rfl) (by kernel_rfl))
theorem PY:Tryz.prog.keyType 47=true:=by kernel_rfl
theorem B2:Tryz.prog.cellsOf 47=2:=by kernel_rfl
theorem Ia:Tryz.prog.cellsOf 9=1:=by kernel_rfl
theorem Fs (t:Fd) (h1:t.1.length≤140737488355328) (h2:t.2.length≤140737488355328):∃l,keyOf Tryz.prog 47 (kv t)=some l:=by
 have e1:(⟨t.1.toArray⟩:ByteArray).size=t.1.length:=by simp[ByteArray.size]
 have e2:(⟨t.2.toArray⟩:ByteArray).size=t.2.length:=by simp[ByteArray.size]
 have hs:∀(s:ByteArray),s.size≤maxLen→Tryz.prog.keyLits 356 9 [.string s]=some [.string s.data.toList]:=fun s hs=>by
  show(match Tryz.prog.underlying 9,[Value.string s]with|_,_=>_)=_;rw[aD];exact if_pos hs
 unfold keyOf kv;rw[b9];simp only[PY,Value.formed,b9,B2,Fq]
 have key:∃ls,Tryz.prog.keyLits (356+1) 47 [.string ⟨t.1.toArray⟩,.string ⟨t.2.toArray⟩]=some ls:=by
  unfold Program.keyLits;simp only[b9];rw[if_pos ⟨by rw[B2];rfl,by kernel_rfl⟩];simp only[List.mapM_cons,List.mapM_nil,Ia];have g1:=hs ⟨t.1.toArray⟩ (by rw[e1];unfold maxLen;omega);have g2:=hs ⟨t.2.toArray⟩ (by rw[e2];unfold maxLen;omega);refine⟨[.string (⟨t.1.toArray⟩:ByteArray).data.toList,.string (⟨t.2.toArray⟩:ByteArray).data.toList],?_⟩;simp only[List.drop_zero,List.drop_succ_cons,lA,List.take_zero,g1,g2];rfl
 obtain⟨ls,DK⟩:=key;exact⟨.string (keyBytes ls),by rw[if_pos (by simp)];show Option.map _ (Tryz.prog.keyLits (356+1) 47 [.string ⟨t.1.toArray⟩,.string ⟨t.2.toArray⟩])=_;rw[DK];rfl⟩
end Go.K
namespace Go.K
open Go.Proofs
set_option maxRecDepth 10000
def fV (x:Fd):List (Fd×Nat):=(words x.2).zipIdx.map fun p=>((x.1,p.1),p.2)
def b5 (l:List Fd):List (Fd×Nat):=l.flatMap fV
theorem ll (x:Fd):(fV x).length=(words x.2).length:=by simp[fV]
theorem Ft {x:Fd} {k:Nat} {y:List UInt8} (h:(words x.2)[k]? =some y):(fV x)[k]? =some ((x.1,y),k):=by
 simp[fV,List.getElem?_zipIdx,h]
theorem oL {fs:List Fd} {i:Nat} {x:Fd} (h:fs[i]? =some x):b5 (fs.take (i+1))=b5 (fs.take i)++fV x:=by
 rw[cd,h];simp[b5]
structure LM (P:Program) (g:FuncId) (cap:List Value) (B:Nat) (J:List (Fd×Nat)→aA→World→Prop):Prop where
 enters:Enters P g
 step:∀ts M w M' w',J ts M w→Step M w M' w' aC→J ts M' w'
 tell:∀ts M w (t:Fd) (i:Nat),J ts M w→Lt M w→t.1.length≤900000→t.2.length≤140737488355328→i≤1000000→ts.length≤10000000→Spec P g ([kv t,.int .i64 (i:Int)]++cap).toArray w (fun _ w'=>∃M',Lt M' w'∧J (ts++[(t,i)]) M' w'∧Step M w M' w' (jC M B))
theorem vw {M:aA} {d:Dc} {v0:Value} {g:FuncId} {cap:List Value} {B:Nat} {J:List (Fd×Nat)→aA→World→Prop} (w0:World) (hM:Lt M w0) (hv:RT.dc.V M w0 d v0) (hl:∀f∈d.2,f.1.length≤900000∧f.2.length≤900000) (Sr:d.2.length≤8) (hT:LM Tryz.prog g cap B J) (hJ:J [] M w0):
  Spec Tryz.prog 154 #[v0,.func (.func g) #[] cap.toArray] w0 (fun v w=>∃M',Lt M' w∧J (b5 d.2) M' w∧Step M w0 M' w (jC M B)):=by
 refine aX (args:=[_,_]) (fn:=Tryz.f154) Tryz.func154 rfl (n:=33) Tryz.ntmps154 ?_;have S:Step M w0 M w0 (jC M B):=(an _ _).cc (fun _ h=>h.elim) (fun _ h=>h.2);refine aj (ah ?_);refine kh (A:=RT.dc) rfl rfl hM hv rfl (fun u0 w1 cA s0 _=>?_);replace hJ:=hT.step _ _ _ _ _ hJ s0;replace hM:=s0.lt hM;have:=S.size;replace S:=S.ay s0;refine ad (aj (ah ?_));refine aH (M:=M) (A:=RT.dc) (B:=(RT.fd).sl) aN rfl rfl qe (by decide) (CU) rfl rfl (by decide) (by assumption) (by repeat (first|exact aq _ _|refine aT (aY (by assumption)) ?_)) (fun uk jw=>?_);refine cg (M:=M) aV rfl rfl rfl rfl rfl (by assumption) (by repeat (first|exact aq _ _|refine aT (aY (by assumption)) ?_)) (fun um kA=>?_);refine bU aV rfl kA rfl (ae rfl rfl (ad (a8 ?_)));refine dC (σ:=Nat) (fun i=>[(1,.func (.func g) #[] cap.toArray),(9,um),(10,.int .i64 (d.2.length:Int)),(11,.int .i64 (i:Int))]) (fun i w=>∃M',Lt M' w∧Step M w0 M' w (jC M B)∧(RT.fd.sl).V M' w d.2 um∧J (b5 (d.2.take i)) M' w∧i≤d.2.length∧(b5 (d.2.take i)).length≤900001*i) (fun i=>d.2.length-i) 0 (.cons rfl (.cons rfl (.cons rfl (.cons rfl .nil)))) ?_ ?_
 ·exact⟨_,hM,S,kA,hJ,bG _,bj _⟩
 ·rintro i w ⟨M1,hM,S,ma,hJ,hi,Jq⟩;refine aj (ah (cf rfl rfl rfl (ad (aj ?_))));refine bI rfl (fun c2=>?_) (fun c2=>?_)
  ·refine aU (aj (a8 (aj (ah ?_))));refine dq (M:=M1) aV gZ rfl rfl rfl ma (aq _ _) (by omega) (fun u3 x LN Su=>?_);rw[az]at LN;have uP:=hl _ (aM LN);refine cx (M:=M1) (A:=RT.fd) bT rfl gZ (by decide) rfl rfl rfl Su (aq _ _) (fun v3 ur=>?_);refine ov (A:=RT.fd) (M:=M1) gZ rfl rfl rfl rfl rfl (by assumption) (aq _ _) hM (fun Ib acQ th Ic acR=>?_);replace ma:=ma.le Ic.le;replace hJ:=hT.step _ _ _ _ _ hJ Ic;replace hM:=Ic.lt hM;have:=S.size;replace S:=S.ay Ic;refine ad (aj (ah ?_));refine aH (M:=M1) (A:=RT.fd) (B:=RT.str) bT rfl rfl I9 (by decide) (Sm) rfl rfl (by decide) (by assumption) (by repeat (first|exact aq _ _|refine aT (aY (by assumption)) ?_)) (fun Ln BZ=>?_);refine cg (M:=M1) aD rfl rfl rfl rfl rfl BZ (aq _ _) (fun v4 qi=>?_);obtain rfl:=fx qi;refine aP rfl rfl OR (sL (l:=x.2) _ hM uP.2) (fun v5 w5 hc=>?_);obtain⟨PZ,s5⟩:=hc;replace ma:=ma.le s5.le;replace th:=th.le (by decide) s5.le;replace hJ:=hT.step _ _ _ _ _ hJ s5;replace hM:=s5.lt hM;have:=S.size;replace S:=S.ay s5;have Zm:=nG x.2;refine bU bg rfl PZ rfl (ae rfl rfl (ad (a8 ?_)));refine dC (σ:=Nat) (fun k=>[(1,.func (.func g) #[] cap.toArray),(5,Ib),(9,um),(10,.int .i64 (d.2.length:Int)),(11,.int .i64 (i:Int)),(17,v5),(18,.int .i64 ((words x.2).length:Int)),(19,.int .i64 (k:Int))]) (fun k w=>∃M',Lt M' w∧Step M w0 M' w (jC M B)∧(RT.fd.sl).V M' w d.2 um∧ch RT.fd M' w Ib x∧(RT.str.sl).V M' w (words x.2) v5∧J (b5 (d.2.take i)++(fV x).take k) M' w∧k≤(words x.2).length) (fun k=>(words x.2).length-k) 0 (.cons rfl (.cons rfl (.cons rfl (.cons rfl (.cons rfl (.cons rfl (.cons rfl (.cons rfl .nil)))))))) ?_ ?_
   ·exact⟨_,hM,S,ma,th,PZ,by rw[List.take_zero,rH];exact hJ,bG _⟩
   ·rintro k w ⟨M2,hM,S,ma,th,PZ,hJ,hk⟩;refine aj (ah (cf rfl rfl rfl (ad (aj ?_))));refine bI rfl (fun c5=>?_) (fun c5=>?_)
    ·refine aU (aj (a8 (aj (ah (ae rfl rfl ?_)))));refine dq (M:=M2) bg I9 rfl rfl rfl PZ (aq _ _) (by omega) (fun u6 y DI Lb=>?_);rw[az]at DI;refine cg (M:=M2) aD rfl rfl rfl rfl rfl Lb (aq _ _) (fun v6 n0=>?_);have NC:=(jQ.1 n0).2;obtain rfl:=fx n0;refine ai rfl rfl (ai rfl rfl (ad (ah (ae rfl rfl ?_))));refine aH (M:=M2) (A:=RT.fd) (B:=RT.str) bT rfl rfl I9 (by decide) (Lk) rfl rfl (by decide) (by assumption) (by repeat (first|exact aq _ _|refine aT (aY (by assumption)) ?_)) (fun acS P0=>?_);refine cg (M:=M2) aD rfl rfl rfl rfl rfl P0 (aq _ _) (fun v7 AK=>?_);obtain rfl:=fx AK;refine ae rfl rfl (dZ (places:=[(0,1),(1,1)]) b9 qM Zd rfl ⟨_,_,rfl,rfl,_,_,rfl,rfl,rfl⟩ (out:=[_,_]) ⟨0,[_],rfl,rfl,by simp[Value.cells],1,[_],rfl,rfl,by simp[Value.cells],rfl⟩ (ae rfl rfl ?_));refine Rg.nT (first:=[]) (captured:=cap) (xs:=[.tmp 28,.tmp 29]) rfl rfl rfl hT.enters (hT.tell _ _ _ (x.1,y) k hJ hM uP.1 NC (by omega) (by rw[bL,bS,ll];omega)) (fun r7 w7 hc=>?_);obtain⟨M7,hM7,hJ7,s7⟩:=hc;refine ad (ah (bA rfl rfl rfl (by omega) (ae rfl rfl (ad ?_))));refine⟨rfl,k+1,(.cons rfl (.cons rfl (.cons rfl (.cons rfl (.cons rfl (.cons rfl (.cons rfl (.cons rfl .nil)))))))),?_,?_⟩
     ·exact⟨M7,hM7,S.trans s7 (fun b hb h=>⟨h.1,(S.mem b hb).1 h.2⟩),ma.le s7.le,th.le (by decide) s7.le,PZ.le s7.le,by rw[cd,Ft DI,cZ,←List.append_assoc];exact hJ7,by omega⟩
     ·omega
    ·refine cM (ah (bA rfl rfl rfl (by omega) (ae rfl rfl (ad ?_))));refine⟨rfl,i+1,(.cons rfl (.cons rfl (.cons rfl (.cons rfl .nil)))),?_,?_⟩
     ·exact⟨_,hM,S,ma,by rw[oL LN];have e:(fV x).take k=fV x:=bp (by rw[ll];omega);rw[e]at hJ;exact hJ,by omega,by rw[oL LN,bL,ll];omega⟩
     ·omega
  ·refine cM ?_
   first|refine fC.nil ?_|simp+decide only[rJ,kG,if_true,if_false]|skip
   have e:d.2.take i=d.2:=bp (by omega);rw[e]at hJ;exact gJ rfl ⟨_,hM,hJ,S⟩
theorem xi {M:aA} {w:World} {t:Fd} (h1:t.1.length≤140737488355328) (h2:t.2.length≤140737488355328):RT.fd.V M w t (kv t):=dY (jQ.2 ⟨rfl,h1⟩) (jQ.2 ⟨rfl,h2⟩) rfl rfl rfl rfl
def WJ (b B:Nat) (ts:List (Fd×Nat)) (M:aA) (w:World):Prop:=w.heap[b]? =some (.cells #[.int .i64 (ts.length:Int)] 3 (0,0))∧M b∧B≤b
theorem xj {M:aA} {b B:Nat} {ts:List (Fd×Nat)} {t:Fd} {i:Nat} (w0:World) (hM:Lt M w0) (h1:t.1.length≤900000) (h2:t.2.length≤140737488355328) (Ea:ts.length≤10000000) (hJ:WJ b B ts M w0):
  Spec Tryz.prog 161 #[kv t,.int .i64 (i:Int),.pointer (some ⟨b,0,none⟩)] w0 (fun v w=>∃M',Lt M' w∧WJ b B (ts++[(t,i)]) M' w∧Step M w0 M' w (jC M B)):=by
 obtain⟨gb,dz,hB⟩:=hJ;refine aX (args:=[_,_,_]) (fn:=Tryz.f161) Tryz.func161 rfl (n:=7) Tryz.ntmps161 ?_;have S:Step M w0 M w0 (jC M B):=(an _ _).cc (fun _ h=>h.elim) (fun _ h=>h.2);refine aj (ah ?_);refine kh (A:=RT.fd) rfl rfl hM (xi (by omega) h2) rfl (fun u0 w1 cA s0 _=>?_);have:=ak gb;replace dz:=(s0.mem _ this).2 dz;replace gb:=s0.aI gb;replace hM:=s0.lt hM;have:=S.size;replace S:=S.ay s0;refine ad (ah (aE ar rfl rfl rfl (by assumption) rfl (bA rfl rfl rfl (by omega) ?_)));refine bQ (M:=M) I3 rfl rfl gb rfl (rfl) dz (fun Ie fF mD=>?_);change Ie.heap[_]? =some (Obj.cells #[.int .i64 ((ts.length:Int)+1)] _ _)at fF;have:=ak gb;replace dz:=(mD.mem _ this).2 dz;replace hM:=mD.lt hM;have:=S.size;replace S:=S.trans mD (fun k hk h=>by have h:_=_:=h;subst h;first|(exfalso;omega)|(show _≤_;omega)|exact⟨by first|omega|assumption,(S.mem _ hk).1 ((mD.mem _ (ak gb)).1 dz)⟩|exact .inl rfl|exact .inr rfl|exact .inr (.inl rfl)|exact .inr (.inr rfl)|exact rfl);have Fu:=fF;clear gb;have gb:=Fu;clear Fu;refine ad ?_
 first|refine fC.nil ?_|simp+decide only[rJ,kG,if_true,if_false]|skip
 exact gJ rfl ⟨_,hM,⟨by rw[bL];exact gb,dz,hB⟩,S⟩
theorem yU {b B:Nat}:LM Tryz.prog 161 [.pointer (some ⟨b,0,none⟩)] B (WJ b B):=
 ⟨TZ,fun ts M w M' w' ⟨h1,h2,h3⟩ s=>⟨s.aI h1,(s.mem _ (ak h1)).2 h2,h3⟩,fun ts M w t i hJ hM h1 h2 _ h4=>xj w hM h1 h2 h4 hJ⟩
theorem yV {M:aA} {d:Dc} {v0:Value} (w0:World) (hM:Lt M w0) (hv:RT.dc.V M w0 d v0) (hl:∀f∈d.2,f.1.length≤900000∧f.2.length≤900000) (Sr:d.2.length≤8):
  Spec Tryz.prog 110 #[v0] w0 (fun v w=>v= .int .i64 ((b5 d.2).length:Int)∧Step M w0 M w aC):=by
 refine aX (args:=[_]) (fn:=Tryz.f110) Tryz.func110 rfl (n:=8) Tryz.ntmps110 ?_;have S:Step M w0 M w0 aC:=(an _ _).cc (fun _ h=>h.elim) (fun _ h=>h.elim);refine aj (ah ?_);refine kh (A:=RT.dc) rfl rfl hM hv rfl (fun u0 w1 cA s0 _=>?_);replace hM:=s0.lt hM;have:=S.size;replace S:=S.ay s0;refine ai rfl rfl (ad (aj (ah ?_)));refine eW M I3 rfl (fun mB CS Pl Pm jr nN=>?_);obtain⟨ng,nh⟩:∃M',M'=ins M mB:=⟨_,rfl⟩;rw[←nh]at nN;have gM:ng mB:=by rw[nh];exact .inl rfl
 change CS.heap[mB]? =some (.cells #[.int .i64 0] _ _)at jr;replace cA:=cA.le (by decide) nN.le;replace hM:=nN.lt hM;have:=S.size;replace S:=S.ay nN;refine bQ (M:=ng) I3 rfl rfl jr rfl (rfl) gM (fun Ig uu oM=>?_);change Ig.heap[_]? =some (Obj.cells #[.int .i64 0] _ _)at uu;have:=ak jr;replace gM:=(oM.mem _ this).2 gM;replace cA:=cA.le (by decide) oM.le;replace hM:=oM.lt hM;have:=S.size;replace S:=S.trans oM (fun k hk h=>by have h:_=_:=h;subst h;first|(exfalso;omega)|(show _≤_;omega)|exact⟨by first|omega|assumption,(S.mem _ hk).1 ((oM.mem _ (ak jr)).1 gM)⟩|exact .inl rfl|exact .inr rfl|exact .inr (.inl rfl)|exact .inr (.inr rfl)|exact rfl);have JO:=uu;clear jr;have jr:=JO;clear JO;refine ad (aj (ah ?_));refine cx (M:=ng) (A:=RT.dc) aN rfl kL (by decide) rfl rfl rfl cA (aq _ _) (fun v2 wO=>?_);refine hY (xs:=[]) (ys:=[.tmp 3]) rfl rfl rfl ?_;refine aP rfl rfl OQ (vw (cap:=[.pointer (some ⟨mB,0,none⟩)]) (B:=w0.heap.size) _ hM wO hl Sr yU ⟨jr,gM,by omega⟩) (fun r2 w2 hc=>?_);obtain⟨M2,JA,⟨g2,_,_⟩,s2⟩:=hc;replace S:=S.jS s2 (bj _);refine ad (aj (ah (aE ar rfl rfl rfl g2 rfl (ai rfl rfl (ad (aJ ?_))))));exact aO rfl rfl ⟨rfl,S.back⟩
end Go.K
namespace Go.K
section
variable {P:Program} {r:Option Nat} {n:Nat} {L:Sl} {ds:List Deferred} {w:World} {K:Kt} {ops:Array Oper} {rest:List Oper} {d:Nat} {x y z:Operand} {ty:TypeId} {pos:String} {af:Array Edge}
variable {kt:TypeId} {M:aA} {b mb clock:Nat} {es:List MapEntry} {sn:Array Nat}
theorem Rg.rangeMap {t e:TypeId} (M:aA) (ht:P.underlying t=some (.map kt e)) (hx:ev L x=some (.map (some mb))) (hd:Nat.blt d n=true) (h:eu P kt w mb es clock)
  (k:∀b w',w.heap.size≤b→b<w'.heap.size→w'.heap[b]? =some (.mapIter (some mb) clock #[] clock)→Step M w (ins M b) w' aC→Rg P r n ops rest ((d,.pointer (some ⟨b,0,none⟩))::L) ds w' K):
  Rg P r n ops ({dst:=some d,op:= .range t x,type:=ty,pos,after:=af,guard:=none}::rest) L ds w K:=by
 refine .op (fun _ h=>by cases h) rfl rfl hd (.pointer (some ⟨w.heap.size,0,none⟩)) (w.alloc (.mapIter (some mb) clock #[] clock)) (fun ρ hρ=>?_) (k w.heap.size _ (bj _) (by simp) (cq w _) ((cU M w _).own (bj _) (by simp)));simp only[execOp,hρ x _ hx];simp[Instr.range,cQ,run_underlying ht,cY h.at_,newObj,Sem.run]
theorem mn {sb:Option Nat} {s c:Nat} (hb:w.heap[b]? =some (.mapIter sb s sn c)):(getObj b).run P w= .ok (.mapIter sb s sn c) w:=by simp[getObj,Sem.run,hb]
theorem AL (h:eu P kt w mb es clock) (seen:Array Nat):(!seen.isEmpty&& !es.toArray.isEmpty&&es.toArray.all (fun x=>decide (x.born≥clock)))=false:=by
 cases es with
 |nil=>simp
 |cons e l=>
  have:=h.lt e (by simp);simp only[Bool.and_eq_false_iff];right;rw[ey];intro h2;rw[Array.all_eq_true_iff_forall_mem]at h2;have:=h2 e (by simp);simp at this;omega
theorem yW (k:Nat) (hk:0<k):∃j w1,j<k∧(∀M,Step M w M w1 aC)∧w1.heap=w.heap∧(choose (Question.mapNext k)).run P w= .ok j w1:=by
 by_cases hf:k≤1
 ·exact⟨0,w,hk,fun M=>an M w,rfl,by simp[choose,Sem.run,Question.forced,hf]⟩
 ·exact⟨_,w.drew,Nat.mod_lt _ hk,fun M=>kW M w,rfl,by
   simp only[choose,Sem.run,Question.forced,decide_eq_true_eq,hf,if_false,Question.cut];rfl⟩
theorem Fv (h:eu P kt w mb es clock) (hb:w.heap[b]? =some (.mapIter (some mb) clock sn clock)) (hm:M b):
  ((∀e∈es,e.born∈sn)∧(Instr.next (.pointer (some ⟨b,0,none⟩)) false ty).run P w= .ok (.tuple #[.bool false]) w)∨
  ∃e w',e∈es∧e.born∉sn∧w'.heap[b]? =some (.mapIter (some mb) clock (sn.push e.born) clock)∧Step M w M w' (fun k=>k=b)∧(Instr.next (.pointer (some ⟨b,0,none⟩)) false ty).run P w= .ok (.tuple #[.bool true,e.key,e.val]) w':=by
 have dB:=ak hb;simp only[Instr.next,cQ,mn hb,du,cY h.at_,AL h sn,Bool.false_eq_true,if_false];have hL:∀e∈es.toArray.filter (fun e=> !sn.contains e.born),e.born<clock:=fun e he=>h.lt e (by simpa using(Array.mem_filter.1 he).1)
 have ly:∀e,e∈es.toArray.filter (fun e=> !sn.contains e.born)↔e∈es∧e.born∉sn:=fun e=>by simp[Array.mem_filter]
 generalize es.toArray.filter (fun e=> !sn.contains e.born)=Lf at hL ly ⊢;have e1:Lf.filter (fun x=>decide (x.born<clock))=Lf:=Array.filter_eq_self.2 fun x hx=>by simpa using hL x hx
 have e2:Lf.filter (fun x=>decide (x.born≥clock))= #[]:=by
  rw[Array.filter_eq_empty_iff];intro x hx;have:=hL x hx;simp;omega
 simp only[e1,e2,Array.append_empty];by_cases h0:Lf.size=0
 ·left;have rY:Lf= #[]:=Array.eq_empty_of_size_eq_zero h0;subst rY;refine⟨fun e he=>?_,by simp[choose,Sem.run,Question.forced]⟩;by_cases hs:e.born∈sn
  ·exact hs
  ·exact absurd ((ly e).2 ⟨he,hs⟩) (by simp)
 ·right;have eG:Lf.isEmpty=false:=by simp[Array.isEmpty,h0]
  simp only[eG,Bool.false_eq_true,if_false,Array.empty_append,Array.size_map];obtain⟨j,w1,hj,Kx,Zz,fS⟩:=yW (P:=P) (w:=w) Lf.size (by omega);have o8:w1.heap[b]? =some (.mapIter (some mb) clock sn clock):=by rw[Zz];exact hb
  have ef:=(ly Lf[j]).1 (by simp);refine⟨Lf[j],{w1 with heap:=w1.heap.setIfInBounds b (.mapIter (some mb) clock (sn.push Lf[j].born) clock)},ef.1,ef.2,by simp[cJ,Zz,dB],?_,?_⟩
  ·exact((Kx M).cc (fun _ h=>h.elim) (fun k hk=>by subst hk;exact hm)).trans (gv M hm) (fun _ _ h=>h)
  ·simp only[fS,du,Array.getElem?_map,Array.getElem?_eq_getElem hj,fq,cQ];simp[setObj,Sem.run,o8]
theorem Rg.Ih (hx:ev L x=some (.pointer (some ⟨b,0,none⟩))) (hb:w.heap[b]? =some (.mapIter (some mb) clock sn clock)) (hm:M b) (h:eu P kt w mb es clock) (hd:Nat.blt d n=true)
  (k1:∀e w',e∈es→e.born∉sn→w'.heap[b]? =some (.mapIter (some mb) clock (sn.push e.born) clock)→Step M w M w' (fun k=>k=b)→Rg P r n ops rest ((d,.tuple #[.bool true,e.key,e.val])::L) ds w' K)
  (k2:(∀e∈es,e.born∈sn)→Rg P r n ops rest ((d,.tuple #[.bool false])::L) ds w K):
  Rg P r n ops ({dst:=some d,op:= .next x false,type:=ty,pos,after:=af,guard:=none}::rest) L ds w K:=by
 rcases Fv (ty:=ty) h hb hm with⟨h1,h2⟩|⟨e,w',h1,h2,h3,h4,h5⟩
 ·refine .op (fun _ h=>by cases h) rfl rfl hd _ w (fun ρ hρ=>?_) (k2 h1);simp only[execOp,hρ x _ hx];simp[h2]
 ·refine .op (fun _ h=>by cases h) rfl rfl hd _ w' (fun ρ hρ=>?_) (k1 e w' h1 h2 h3 h4);simp only[execOp,hρ x _ hx];simp[h5]
theorem Rg.entry {e:MapEntry} {sn':Array Nat} (hx:ev L x=some (.pointer (some ⟨b,0,none⟩))) (hb:w.heap[b]? =some (.mapIter (some mb) clock (sn'.push e.born) clock)) (h:eu P kt w mb es clock) (he:e∈es) (hd:Nat.blt d n=true)
  (k:Rg P r n ops rest ((d,.tuple #[e.key,e.val])::L) ds w K):
  Rg P r n ops ({dst:=some d,op:= .entry x,type:=ty,pos,after:=af,guard:=none}::rest) L ds w K:=by
 have hf:es.find? (fun x=>x.born==e.born)=some e:=by
  rw[List.find?_eq_some_iff_getElem];obtain⟨i,hi⟩:=bO.1 he;obtain⟨h1,h2⟩:=av.1 hi;refine⟨by simp,i,h1,h2,fun j hj=>?_⟩;have pO:j<es.length:=by omega
  have:=fun q=>h.yS (aL pO) hi q
  simp only[ox,beq_eq_false_iff_ne,ne_eq];intro q;have:=this q;omega
 refine .op (fun _ h=>by cases h) rfl rfl hd _ w (fun ρ hρ=>?_) k;simp only[execOp,hρ x _ hx,Instr.entry,cQ,mn hb,du,cY h.at_];simp[hf,cQ,cY h.at_]
end
end Go.K
namespace Go.K
open Go.Proofs
set_option maxRecDepth 10000
theorem filter_lt {α:Type} {p q:α→Bool} {a:α}:∀{l:List α},(∀x∈l,q x=true→p x=true)→a∈l→p a=true→q a=false→(l.filter q).length<(l.filter p).length
 |[],_,ha,_,_=>by cases ha
 |x::l,h,ha,hp,hq=>by
  have hle:(l.filter q).length≤(l.filter p).length:=by
   rw[←List.countP_eq_length_filter,←List.countP_eq_length_filter];exact List.countP_mono_left fun y hy=>h y (cp _ hy)
  rcases dx.1 ha with rfl|ha
  ·rw[List.filter_cons_of_pos hp,List.filter_cons_of_neg (by simp[hq])];simp;omega
  ·have:=filter_lt (fun y hy=>h y (cp _ hy)) ha hp hq;by_cases hx:q x=true
   ·rw[List.filter_cons_of_pos hx,List.filter_cons_of_pos (h x (bY ..) hx)];simp;omega
   ·rw[List.filter_cons_of_neg hx];by_cases Sv:p x=true
    ·rw[List.filter_cons_of_pos Sv];simp;omega
    ·rw[List.filter_cons_of_neg Sv];omega
theorem eu.LO {P:Program} {kt:TypeId} {w:World} {b clock:Nat} {es:List MapEntry} (h:eu P kt w b es clock) {x y:MapEntry} (hx:x∈es) (hy:y∈es) (hk:x.key=y.key):x=y:=by
 obtain⟨i,hi⟩:=bO.1 hx;obtain⟨j,hj⟩:=bO.1 hy;rcases gU i j with gq|rfl|gq
 ·exact absurd hk (fH h.keys hi hj gq)
 ·exact bM (hi.symm.trans hj)
 ·exact absurd hk.symm (fH h.keys hj hi gq)
theorem eu.Ii {P:Program} {kt:TypeId} {w:World} {b clock:Nat} {es:List MapEntry} (h:eu P kt w b es clock) {x y:MapEntry} (hx:x∈es) (hy:y∈es) (hk:x.born=y.born):x=y:=by
 obtain⟨i,hi⟩:=bO.1 hx;obtain⟨j,hj⟩:=bO.1 hy;rcases gU i j with gq|rfl|gq
 ·exact absurd hk (fH h.born hi hj gq)
 ·exact bM (hi.symm.trans hj)
 ·exact absurd hk.symm (fH h.born hj hi gq)
def AM (w:World) (k:Nat):Prop:=∃m s sn c,w.heap[k]? =some (.mapIter m s sn c)
def B3 (es:List MapEntry):Prop:=∀e∈es,∃t:Fd,e.key=kv t∧t.1.length≤140737488355328∧t.2.length≤140737488355328
theorem AN {yl bs mb clock:Nat} {es:List MapEntry} {J:List Fd→World→Prop} (w0:World) (hk:B3 es) (Vt:∀ts w w' N,J ts w→Step allM w allM w' N→(∀k,k<w.heap.size→N k→w0.heap.size≤k∧AM w k)→J ts w') (Sw:∀ts w,J ts w→w.heap[bs]? =some (.cells #[.map (some mb)] 227 (0,0))∧eu Tryz.prog 47 w mb es clock) (hy:∀ts w (t:Fd),J ts w→(∃e∈es,e.key=kv t)→t∉ts→ts.length<es.length→qI Tryz.prog yl [kv t].toArray w (fun r w'=>r= .bool true∧J (ts++[t]) w'∧∃N,Step allM w allM w' N∧∀k,N k→¬AM w k)) (h0:J [] w0):
  Spec Tryz.prog 197 #[.func (.yield yl) #[] #[],.pointer (some ⟨bs,0,none⟩)] w0 (fun v w=>∃ts,J ts w∧ts.Nodup∧∀t,t∈ts↔∃e∈es,e.key=kv t):=by
 obtain⟨gb,hW⟩:=Sw _ _ h0;have hJ:=h0;clear h0;refine aX (args:=[_,_]) (fn:=Tryz.f197) Tryz.func197 rfl (n:=14) Tryz.ntmps197 ?_;have S:Step allM w0 allM w0 allM:=(an _ _).cc (fun _ h=>h.elim) (fun _ _=>trivial);refine aj (ah (aE jO rfl rfl rfl (by assumption) rfl ?_));refine Rg.rangeMap allM jO rfl rfl hW (fun bi w1 o8 xK gi s1=>?_);replace s1:=s1.all;have:=ak gb;replace gb:=s1.aI gb;replace hJ:=Vt _ _ _ _ hJ s1 (fun _ _ h=>h.elim);have:=S.size;replace S:=S.ay s1;refine ad (a8 ?_);refine dC (σ:=List Fd×Array Nat) (fun s=>[(0,.func (.yield yl) #[] #[]),(1,.pointer (some ⟨bs,0,none⟩)),(5,.pointer (some ⟨bi,0,none⟩))]) (fun s w=>J s.1 w∧Step allM w0 allM w allM∧w.heap[bi]? =some (.mapIter (some mb) clock s.2 clock)∧s.1.Nodup∧(∀e∈es,e.born∈s.2↔∃t∈s.1,e.key=kv t)∧(∀t∈s.1,∃e∈es,e.key=kv t)) (fun s=>(es.filter fun e=>decide (e.born∉s.2)).length) ([],#[]) (.cons rfl (.cons rfl (.cons rfl .nil))) ?_ ?_
 ·exact⟨hJ,S,gi,List.nodup_nil,fun e _=>by simp,fun t h=>by cases h⟩
 ·rintro⟨ts,sn⟩ w ⟨hJ,S,gi,mL,Sx,ly⟩;dsimp only at hJ gi mL Sx ly ⊢;obtain⟨gb,hW⟩:=Sw _ _ hJ;refine aj (ah ?_);refine Rg.Ih (M:=allM) rfl gi trivial hW rfl (fun LP CS px JP jr nN=>?_) (fun Vu=>?_)
  ·have gi0:=gi;replace gb:=nN.bF gb (fun hk=>by have hk:_=_:=hk;omega);replace hJ:=Vt _ _ _ _ hJ nN (fun k hk h=>by have h:k=bi:=h;subst h;exact⟨o8,_,_,_,_,gi0⟩);have:=S.size;replace S:=S.trans nN (fun k hk h=>by have h:_=_:=h;subst h;first|(exfalso;omega)|(show _≤_;omega)|exact .inl rfl|exact .inr rfl|exact .inr (.inl rfl)|exact .inr (.inr rfl)|exact rfl);have ZA:=jr;clear gi;have gi:=ZA;clear ZA;refine bP rfl rfl rfl (ad (aj (lC rfl (aU (a8 (aj (ah (Rg.entry rfl gi (Sw _ _ hJ).2 px rfl ?_))))))));obtain⟨t,Ij,Sy,H3⟩:=hk _ px;have KD:t∉ts:=fun h=>JP ((Sx _ px).2 ⟨t,h,Ij⟩)
   have dB:ts.length<es.length:=by
    have h1:((t::ts).map kv).Nodup:=dp.2 ((rI.2 ⟨KD,mL⟩).imp fun h e=>h (qk e))
    have h2:=h1.length_le_of_subset (l₂:=es.map (·.key)) (fun x hx=>by
     obtain⟨u,hu,rfl⟩:=cF.1 hx;rcases dx.1 hu with rfl|hu
     ·rw[←Ij];exact fg px
     ·obtain⟨e,he,h⟩:=ly u hu;rw[←h];exact fg he)
    simp at h2;omega
   rw[Ij];refine bP rfl rfl rfl ?_;refine ov (A:=RT.fd) (M:=aC) qM rfl rfl rfl rfl rfl (xi Sy H3) (aq _ _) (Lt.none _) (fun u2 w2 rl s2 z2=>?_);replace s2:=s2.all;have:=ak gb;replace gb:=s2.aI gb;have:=ak gi;replace gi:=s2.aI gi;replace hJ:=Vt _ _ _ _ hJ s2 (fun _ _ h=>h.elim);have:=S.size;replace S:=S.ay s2
   skip
   refine ad (aj (ah (ae rfl rfl ?_)));refine cx (M:=aC) (A:=RT.fd) b9 rfl qM (by decide) rfl rfl rfl rl (aq _ _) (fun v3 ur=>?_);obtain rfl:=kN ur;refine Rg.yield (vs:=[kv t]) rfl rfl rfl (hy _ _ t hJ ⟨_,px,Ij⟩ KD dB) (fun r3 w3 hc=>?_);obtain⟨rfl,Hn,N3,s3,hN3⟩:=hc;clear jr;replace gi:=s3.bF gi (fun h=>hN3 _ h ⟨_,_,_,_,gi⟩);replace hJ:=Hn;clear Hn;obtain⟨gb,-⟩:=Sw _ _ hJ;replace S:=S.trans s3 (fun _ _ _=>trivial);refine Rg.not rfl rfl (bu (v':= .bool false) rfl (ad (hU rfl (aU ?_))));refine⟨rfl,(ts++[t],sn.push LP.born),(.cons rfl (.cons rfl (.cons rfl .nil))),?_,?_⟩
   ·have pU:∀e∈es,e.born=LP.born↔e.key=kv t:=fun e he=>by
     constructor
     ·intro h;rw[eu.Ii hW he px h,Ij]
     ·intro h;rw[eu.LO hW he px (h.trans Ij.symm)]
    refine⟨hJ,S,gi,List.nodup_append.2 ⟨mL,by simp,fun a ha b hb h=>by simp at hb;subst hb;subst h;exact KD ha⟩,fun e he=>?_,fun u hu=>?_⟩
    ·rw[Array.mem_push,Sx e he,pU e he];constructor
     ·rintro(⟨u,h1,h2⟩|h)
      ·exact⟨u,kF _ h1,h2⟩
      ·exact⟨t,by simp,h⟩
     ·rintro⟨u,h1,h2⟩;rcases dm.1 h1 with h1|h1
      ·exact .inl ⟨u,h1,h2⟩
      ·simp at h1;subst h1;exact .inr h2
    ·rcases dm.1 hu with hu|hu
     ·exact ly u hu
     ·simp at hu;subst hu;exact⟨_,px,Ij⟩
   ·exact filter_lt (a:=LP) (fun e _ h=>by simp only[decide_eq_true_eq,Array.mem_push,not_or]at h ⊢;exact h.1) px (by simpa using JP) (by simp)
  ·refine bP rfl rfl rfl (ad (aj (hU rfl (cM ?_))))
   first|refine fC.nil ?_|simp+decide only[rJ,kG,if_true,if_false]|skip
   exact gJ rfl ⟨ts,hJ,mL,fun t=>⟨ly t,fun⟨e,he,Ij⟩=>by obtain⟨t',h1,h2⟩:=(Sx e he).1 (Vu e he);rw[←qk (h2.symm.trans Ij)];exact h1⟩⟩
end Go.K
namespace Go.K
open Go.Proofs
set_option maxRecDepth 10000
theorem eo.any {α:Type} {A:RT α} (hA:∀M w M' w' x vs,A.R M w x vs→A.R M' w' x vs) {M M':aA} {w w':World}:∀{xs:List α} {C:List Value},eo A M w xs C→eo A M' w' xs C
 |[],_,h=>h
 |x::xs,C,h=>by
  obtain⟨vs,r,h1,h2,h3⟩:=h;exact⟨vs,r,h1,hA _ _ _ _ _ _ h2,eo.any hA h3⟩
theorem xk (M:aA) (w:World) (M':aA) (w':World) (x:Fd) (vs:List Value) (h:RT.fd.R M w x vs):RT.fd.R M' w' x vs:=h
theorem Own.B4 {α:Type} {A:RT α} (hA:∀M w M' w' x vs,A.R M w x vs→A.R M' w' x vs) {e:TypeId} {M N:aA} {w w':World} {base:Nat} {v:Value} {xs:List α} (h:Own A e M w base v xs) (s:Step allM w allM w' N) (hn:∀b,v.ownBlock=some b→¬N b):Own A e (nL v) w' base v xs:=by
 obtain⟨⟨C,h1,h2⟩,_⟩:=h;refine⟨⟨C,⟨h1.1,?_⟩,eo.any hA h2⟩,fun _ h=>h⟩;rcases h1.2 with h3|⟨g,cap,cur,h3,h4,h5,h6,h7,h8⟩
 ·exact .inl h3
 ·exact .inr ⟨g,cap,cur,h3,h4,by rw[s.same g (ak h5) (hn g (by rw[h3];rfl))];exact h5,h6,h7,h8⟩
theorem Own.isCells {α:Type} {A:RT α} {e:TypeId} {M:aA} {w:World} {base b:Nat} {v:Value} {xs:List α} (h:Own A e M w base v xs) (hb:v.ownBlock=some b):∃cs,w.heap[b]? =some (.cells cs e (0,0)):=by
 obtain⟨⟨C,h1,_⟩,_⟩:=h;rcases h1.2 with h3|⟨g,cap,cur,h3,h4,h5,_⟩
 ·rw[h3.1]at hb;cases hb
 ·rw[h3]at hb;cases hb;exact⟨_,h5⟩
structure Aq (w0:World) (bt D:Nat) (st:Loop) (v:Value) (ts:List Fd) (w:World):Prop where
 S:Step allM w0 allM w aC
 c:w.heap[bt]? =some (.cells #[v] 98 (0,0))
 o:Own RT.fd 47 (nL v) w w0.heap.size v ts
 d:w.heap[D]? =some (.deferred (some []))
 r:w.heap[D+1]? =some (.loop st)
 hb:w0.heap.size≤bt
 hD:w0.heap.size≤D
theorem Aq.step {w0 w w':World} {bt D:Nat} {st:Loop} {v:Value} {ts:List Fd} {N:aA} (h:Aq w0 bt D st v ts w) (s:Step allM w allM w' N) (hN:∀k,k<w.heap.size→N k→w0.heap.size≤k∧AM w k):Aq w0 bt D st v ts w':=by
 have no:∀{k o},w.heap[k]? =some o→(∀m s sn c,o≠ .mapIter m s sn c)→¬N k:=fun hk ho hn=>by
  obtain⟨_,m,s,sn,c,h'⟩:=hN _ (ak hk) hn;rw[hk]at h';exact ho m s sn c (bM h')
 refine⟨h.S.trans s (fun k hk hn=>?_),s.bF h.c (no h.c (by intros;simp)),h.o.B4 xk s (fun b hb=>?_),s.bF h.d (no h.d (by intros;simp)),s.bF h.r (no h.r (by intros;simp)),h.hb,h.hD⟩
 ·have:=(hN k (mP hk h.S.size) hn).1;omega
 ·obtain⟨cs,hc⟩:=h.o.isCells hb;exact no hc (by intros;simp)
theorem Aq.mE {w0 w:World} {bt D:Nat} {st st':Loop} {v:Value} {ts:List Fd} (h:Aq w0 bt D st v ts w):Aq w0 bt D st' v ts (w.putObj (D+1) (.loop st')):=by
 have s:Step allM w allM (w.putObj (D+1) (.loop st')) (fun k=>k=D+1):=dH trivial;have hD:=h.hD;refine⟨h.S.trans s (fun k hk hn=>by have hn:k=D+1:=hn;omega),s.bF h.c (fun hn=>by have hn:bt=D+1:=hn;have h1:=h.c;rw[hn,h.r]at h1;cases h1),h.o.B4 xk s (fun b hb hn=>?_),s.bF h.d (fun hn=>by have hn:D=D+1:=hn;omega),by have:=ak h.r;simp[World.putObj,cJ,this],h.hb,h.hD⟩;have hn:b=D+1:=hn;obtain⟨cs,hc⟩:=h.o.isCells hb;rw[hn,h.r]at hc;cases hc
theorem yX {bs mb clock:Nat} {es:List MapEntry} (w0:World) (hk:B3 es) (Sz:es.length≤100000000) (Fw:w0.heap[bs]? =some (.cells #[.map (some mb)] 227 (0,0))) (hW:eu Tryz.prog 47 w0 mb es clock):
  Spec Tryz.prog 233 #[.slice none 0 0,.func (.func 197) #[] [.pointer (some ⟨bs,0,none⟩)].toArray] w0 (fun v w=>∃ts:List Fd,ts.Nodup∧(∀t,t∈ts↔∃e∈es,e.key=kv t)∧Own RT.fd 47 (nL v) w w0.heap.size v ts∧Step allM w0 allM w aC):=by
 refine mU (args:=[_,_]) (fn:=Tryz.f233) Tryz.func233 rfl (n:=13) Tryz.ntmps233 (aj (ah ?_));refine oT allM rfl rfl (fun bt w1 o8 acY gt s1=>?_);change w1.heap[bt]? =some (.cells #[.slice none 0 0] 98 (0,0))at gt;replace s1:=s1.all;refine ai rfl rfl (ad (aj (aj (ah (ae rfl rfl (ad (a8 ?_)))))));refine T.range (gf:=197) (lb:=[.pointer (some ⟨bs,0,none⟩)].toArray) rfl T9 (fun rec mT=>?_);obtain⟨D,hD⟩:∃D,D=w1.heap.size:=⟨_,rfl⟩;have sA:Step allM w1 allM ((w1.alloc (.deferred (some []))).alloc (.loop (rec .ready none))) aC:=(cU _ _ _).ay (cU _ _ _)
 have h0:Aq w0 bt D (rec .ready none) (.slice none 0 0) [] ((w1.alloc (.deferred (some []))).alloc (.loop (rec .ready none))):=by
  refine⟨s1.ay sA,sA.aI gt,ec _ _ _ _ _,?_,?_,o8,by rw[hD];exact s1.size⟩
  ·rw[hD];exact(cU allM (w1.alloc _) _).aI (cq w1 _)
  ·rw[hD];have:=cq (w1.alloc (.deferred (some []))) (.loop (rec .ready none));rwa [World.size_alloc]at this
 rw[←hD]at mT ⊢;have hz:=h0.S.size;refine Spec.mono (AN (J:=fun ts w=>∃v,Aq w0 bt D (rec .ready none) v ts w) _ hk (fun ts w w' N ⟨v,h⟩ s hN=>⟨v,h.step s (fun k hk hn=>⟨fK hz (hN k hk hn).1,(hN k hk hn).2⟩)⟩) (fun ts w ⟨v,h⟩=>⟨h.S.aI Fw,hW.bh h.S⟩) (fun ts wr t hJ ly KD dB=>?_) ⟨_,h0⟩) (fun _ w3 h3=>?_)
 ·obtain⟨v,h⟩:=hJ;obtain⟨e,he,Vv⟩:=ly;obtain⟨t',Vw,Sy,H3⟩:=hk e he;obtain rfl:=qk (Vv.symm.trans Vw);have hzr:=ak h.r;refine k5 (ps:=[7]) (vs:=[kv t]) mT h.r rfl (by decide) (ah ?_);refine ov (A:=RT.fd) (M:=fun k=>k=D+1) qM rfl rfl rfl rfl rfl (xi Sy H3) (aq _ _) (fun k hk=>by have hk:k=D+1:=hk;omega) (fun u2 w2 rl s2 z2=>?_);replace s2:=s2.all
  skip
  refine ad ?_;refine⟨rfl,s2.aI h.r,?_⟩;have h4:=(h.step s2 (fun _ _ h=>h.elim)).mE (st':=rec .busy none);have Vx:Step (fun k=>k=D+1) w2 (fun k=>k=D+1) (w2.putObj (D+1) (.loop (rec .busy none))) (fun k=>k=D+1):=dH rfl;have s3:=Vx.all;have xS:=rl.le (by decide) Vx.le;clear Vx;generalize w2.putObj (D+1) _=w4 at h4 s3 xS ⊢;refine a8 (ah (aE iC rfl rfl rfl h4.c rfl ?_));refine cx (M:=fun k=>k=D+1) (A:=RT.fd) b9 rfl qM (by decide) rfl rfl rfl xS (aq _ _) (fun v3 ur=>?_);obtain rfl:=kN ur;refine eE (A:=RT.fd) (hn:=by decide) (M:=nL v) iC qM (by decide) rfl rfl (fun b hb=>(h4.o.base b hb).2) (xi Sy H3) (.inl rfl) (fun u5 w5 Au s5=>?_);refine cR (M:=nL v) (base:=w0.heap.size) iC qM rfl rfl rfl rfl (h4.o.bh s5) Au (aq _ _) (by simp;omega) (by simp;omega) (fK h4.S.size s5.size) (fun v6 M6 w6 qQ s6=>?_);have gc:=s6.all.bF (s5.all.aI h4.c) (fun hn=>h4.o.eL h4.c (by decide) hn);refine bQ (M:=allM) I98 rfl rfl gc rfl (by obtain⟨_,_,he,_⟩:=qQ.isSlice;rw[he];rfl) trivial (fun w7 gc7 s7=>?_);refine ad ?_
  have Vy:∀k,nL v k→¬AM wr k:=fun k hk ⟨_,_,_,_,h9⟩=>by
   obtain⟨cs,hc⟩:=h.o.isCells hk;rw[hc]at h9;cases h9
  have pr:∀k,k<wr.heap.size→k=D+1→¬AM wr k:=fun k _ hk ⟨_,_,_,_,h9⟩=>by subst hk;rw[h.r]at h9;cases h9
  have pc:∀k,k<wr.heap.size→k=bt→¬AM wr k:=fun k _ hk ⟨_,_,_,_,h9⟩=>by subst hk;rw[h.c]at h9;cases h9
  have h7:Aq w0 bt D (rec .busy none) v6 (ts++[t]) w7:=by
   have nb:∀b,v6.ownBlock=some b→b≠bt:=fun b hb hn=>by subst hn;exact qQ.eL gc (by decide) hb
   refine⟨?_,gc7,qQ.B4 xk s7 nb,?_,?_,h.hb,h.hD⟩
   ·refine((h4.S.ay s5.all).trans s6.all (fun k hk hn=>?_)).trans s7 (fun k hk hn=>?_)
    ·have:=(h4.o.base k hn).1;omega
    ·have hn:k=bt:=hn;have:=h.hb;omega
   ·exact s7.bF (s6.all.bF (s5.all.aI h4.d) (fun hn=>by obtain⟨cs,hc⟩:=h4.o.isCells hn;rw[h4.d]at hc;cases hc)) (fun hn=>by have hn:D=bt:=hn;have h1:=h.c;rw[←hn,h.d]at h1;cases h1)
   ·exact s7.bF (s6.all.bF (s5.all.aI h4.r) (fun hn=>by obtain⟨cs,hc⟩:=h4.o.isCells hn;rw[h4.r]at hc;cases hc)) (fun hn=>by have hn:D+1=bt:=hn;have h1:=h.c;rw[←hn,h.r]at h1;cases h1)
  have s8:Step allM w7 allM (w7.putObj (D+1) (.loop (rec .ready none))) (fun k=>k=D+1):=dH trivial;exact⟨h7.r,rfl,⟨v6,h7.mE⟩,fun k=>¬AM wr k,(((((s2.cc (fun _ h=>h.elim) (fun _ _=>trivial)).trans s3 pr).ay s5.all).trans s6.all (fun k _ hn=>Vy k hn)).trans s7 pc).trans s8 pr,fun _ h=>h⟩
 ·obtain⟨ts,⟨v,h⟩,mL,ly⟩:=h3;left;refine⟨h.r,?_⟩;have h5:=h.mE (st':=rec .exhausted none);generalize w3.putObj (D+1) _=wE at h5 ⊢;refine aj (ah (aE iC rfl rfl rfl h5.c rfl (ai rfl rfl (ad (aJ ?_)))));have sE:Step allM wE allM (wE.putObj D (.deferred none)) (fun k=>k=D):=dH trivial;have hDD:=h.hD;exact Ag rfl rfl h5.d ⟨ts,mL,ly,h5.o.B4 xk sE (fun b hb hn=>by have hn:b=D:=hn;obtain⟨cs,hc⟩:=h5.o.isCells hb;rw[hn,h5.d]at hc;cases hc),h5.S.trans sE (fun k hk hn=>by have hn:k=D:=hn;omega)⟩
end Go.K
namespace Go.K
open Go.Proofs
set_option maxRecDepth 10000
theorem xl {bs mb clock:Nat} {es:List MapEntry} (w0:World) (hk:B3 es) (Sz:es.length≤100000000) (Fw:w0.heap[bs]? =some (.cells #[.map (some mb)] 227 (0,0))) (hW:eu Tryz.prog 47 w0 mb es clock):
  Spec Tryz.prog 195 #[.func (.func 197) #[] [.pointer (some ⟨bs,0,none⟩)].toArray] w0 (fun v w=>∃ts:List Fd,ts.Nodup∧(∀t,t∈ts↔∃e∈es,e.key=kv t)∧Own RT.fd 47 (nL v) w w0.heap.size v ts∧Step allM w0 allM w aC):=by
 refine aX (args:=[_]) (fn:=Tryz.f195) Tryz.func195 rfl (n:=5) Tryz.ntmps195 (aj (ah (ai rfl rfl (ad (aj (ah (ae rfl rfl ?_)))))));refine aP rfl rfl Uk (yX _ hk Sz Fw hW) (fun r w1 hc=>?_);refine ai rfl rfl (ad (aJ ?_));exact aO rfl rfl hc
def de (t:Fd):List UInt8:=t.1++[0]++t.2
theorem Fx {M:aA} {t:Fd} (w0:World) (hM:Lt M w0) (h1:t.1.length≤1000000) (h2:t.2.length≤1000000):
  Spec Tryz.prog 74 #[kv t] w0 (fun v w=>v= .string ⟨(de t).toArray⟩∧Step M w0 M w aC):=by
 refine aX (args:=[_]) (fn:=Tryz.f74) Tryz.func74 rfl (n:=9) Tryz.ntmps74 ?_;have S:Step M w0 M w0 aC:=(an _ _).cc (fun _ h=>h.elim) (fun _ h=>h.elim);refine aj (ah ?_);refine kh (A:=RT.fd) rfl rfl hM (xi (by omega) (by omega)) rfl (fun u0 w1 cA s0 _=>?_);replace hM:=s0.lt hM;have:=S.size;replace S:=S.ay s0;refine ai rfl rfl (ad (aj (ah ?_)));refine aH (M:=M) (A:=RT.fd) (B:=RT.str) b9 rfl rfl I9 (by decide) (Lk) rfl rfl (by decide) (by assumption) (by repeat (first|exact aq _ _|refine aT (aY (by assumption)) ?_)) (fun uk jw=>?_);refine cg (M:=M) aD rfl rfl rfl rfl rfl jw (aq _ _) (fun v1 nZ=>?_);obtain rfl:=fx nZ;refine Rg.cat (p:=t.1) (q:=[0]) rfl rfl rfl (by simp;omega) ?_;refine aH (M:=M) (A:=RT.fd) (B:=RT.str) b9 rfl rfl I9 (by decide) (Sm) rfl rfl (by decide) (by assumption) (by repeat (first|exact aq _ _|refine aT (aY (by assumption)) ?_)) (fun EJ fA=>?_);refine cg (M:=M) aD rfl rfl rfl rfl rfl fA (aq _ _) (fun v4 qi=>?_);obtain rfl:=fx qi;refine Rg.cat (p:=t.1++[0]) (q:=t.2) rfl rfl rfl (by simp;omega) (ai rfl rfl (ad (aJ ?_)));exact aO rfl rfl ⟨rfl,S⟩
end Go.K
namespace Go.K
open Go.Proofs
set_option maxRecDepth 10000
theorem xm (a b:List UInt8) (w:World):Spec Tryz.prog 159 #[.string ⟨a.toArray⟩,.string ⟨b.toArray⟩] w (fun v w'=>v= .int .i64 (Lib.compareBytes a b)∧w'=w):=(Any.strings_Compare Tryz.HU ⟨a.toArray⟩ ⟨b.toArray⟩ w).mono fun e w' ⟨h1,h2⟩=>⟨_,h1,rfl,h2⟩
end Go.K
namespace Go.K
section
variable {P:Program} {r:Option Nat} {n:Nat} {L:Sl} {ds:List Deferred} {w:World} {K:Kt} {ops:Array Oper} {rest:List Oper} {d:Nat} {x:Operand} {ty:TypeId} {pos:String} {af:Array Edge}
theorem gz.tE {id:Nat} {l:List Oper} (hm:P.follows .mixedOrders=true) (cC:dM l 0=true) (h:gz P r n l L ds (w.drewN 1) K):T P r n (.region id l.toArray true) L ds w K:=by
 refine⟨fun a ha=>wpIn_region_draw fun t=>?_⟩;simp only[Region.schedule,hm,Bool.true_or,if_true,Region.linearise];obtain⟨J,h1,h2,h3,h4⟩:=h a ha;refine lH (J:=J) cC (fun {D D' a w} hi hD=>h1 D D' a w hi hD) (fun {D a' w' j o rest} hj ho mO hp ku hi hk=>h2 _ _ _ _ _ _ _ hj ho mO hp ku hi hk) h3 _ t _ a _ (by simp) (by simp[List.countP_replicate]) (fun i o h1 h2=>?_) (h1 _ _ _ _ h4 fun i _=>?_)
 ·simp[Array.getElem?_replicate]at h2
 ·simp[Array.getElem?_replicate]
theorem T.LQ {id:Nat} {l l':List Oper} (π:List Nat) (m:Nat) (fl:List Nat) (c:Nat) (N:aA) (hm:P.follows .mixedOrders=true) (Ec:uU π l=l') (qH:dM l 0=true) (hπ:j0 π l.length=true) (pT:Nat.blt m l'.length=true) (cC:dM l' 0=true) (oz:iW l' m=true) (DE:jY l' m fl c=true)
  (h:kx P r n l'.toArray (l'.take m) L ds (w.drewN 1) (fun L'=>(∀j o,j∈fl→l'[j]? =some o→bR P N (w.drewN 1) L' o)∧qG P r n l'.toArray N (w.drewN 1) K c (l'.drop m) L' ds (w.drewN 1))):T P r n (.region id l.toArray true) L ds w K:=by
 subst Ec;exact gz.tE hm qH (.perm π hπ qH (yd m fl c N pT cC oz DE h))
theorem Rg.LR {e:TypeId} {v:Value} (hx:ev L x=some v) (hd:Nat.blt d n=true) (k:Rg P r n ops rest ((d,.pointer (some ⟨w.heap.size,0,none⟩))::L) ds (w.alloc (.cells v.cells e (0,0))) K):
  Rg P r n ops ({dst:=some d,op:= .box e x,type:=ty,pos,after:=af,guard:=none}::rest) L ds w K:=by
 refine .op (fun _ h=>by cases h) rfl rfl hd _ (w.alloc (.cells v.cells e (0,0))) (fun ρ hρ=>?_) k;simp only[execOp,hρ x _ hx];simp[Instr.box,newVar,newRow,newObj,Sem.run]
theorem AO (w:World) (o:Obj):w.alloc o=Go.Sort.grow w #[o]:=by
 unfold World.alloc Go.Sort.grow;congr 1
theorem AP (w:World) (os:Array Obj) (q:Nat):(Go.Sort.grow w os).drewN q=Go.Sort.grow (w.drewN q) os:=rfl
end
end Go.K
namespace Go.K
open Go.Proofs
set_option maxRecDepth 10000
abbrev eO (t:Fd):Obj:= .cells #[.string ⟨t.1.toArray⟩,.string ⟨t.2.toArray⟩] 47 (0,0)
theorem Fy {t:Fd} (w0:World) (h1:t.1.length≤1000000) (h2:t.2.length≤1000000):
  Spec Tryz.prog 74 #[kv t] w0 (fun v w=>v= .string ⟨(de t).toArray⟩∧w=w0.alloc (eO t)):=by
 refine aX (args:=[_]) (fn:=Tryz.f74) Tryz.func74 rfl (n:=9) Tryz.ntmps74 (aj (ah (Rg.LR rfl rfl ?_)));have gb:=cq w0 (eO t);change Rg _ _ _ _ _ _ _ (w0.alloc (eO t)) _;generalize hw:w0.alloc (eO t)=w1 at gb ⊢;refine ai rfl rfl (ad (aj (ah (aS (o':=0) b9 rfl rfl I9 (by decide) rfl rfl (aE aD rfl rfl rfl gb rfl (Rg.cat (p:=t.1) (q:=[0]) rfl rfl rfl (by simp;omega) (aS (o':=1) b9 rfl rfl I9 (by decide) rfl rfl (aE aD rfl rfl rfl gb rfl (Rg.cat (p:=t.1++[0]) (q:=t.2) rfl rfl rfl (by simp;omega) (ai rfl rfl (ad ?_)))))))))));refine aJ ?_;exact aO rfl rfl ⟨rfl,rfl⟩
theorem Ik {s t:Fd} (w0:World) (h1:s.1.length≤1000000) (h2:s.2.length≤1000000) (h3:t.1.length≤1000000) (h4:t.2.length≤1000000):
  Spec Tryz.prog 158 #[kv s,kv t] w0 (fun v w=>v= .int .i64 (Lib.compareBytes (de s) (de t))∧w=((((w0.alloc (eO s)).alloc (eO t)).drewN 1).alloc (eO s)).alloc (eO t)):=by
 refine aX (args:=[_,_]) (fn:=Tryz.f158) Tryz.func158 rfl (n:=10) Tryz.ntmps158 (aj (ah (Rg.LR rfl rfl ?_)));change Rg _ _ _ _ _ _ _ (w0.alloc (eO s)) _;refine Rg.LR rfl rfl ?_;change Rg _ _ _ _ _ _ _ ((w0.alloc (eO s)).alloc (eO t)) _;have g1:((w0.alloc (eO s)).alloc (eO t)).heap[w0.heap.size]? =some (eO s):=(cU aC _ _).aI (cq w0 _);have g2:=cq (w0.alloc (eO s)) (eO t);have kp:=km aC (((w0.alloc (eO s)).alloc (eO t)).drewN 1);refine ai rfl rfl (ad (aj ?_));apply T.LQ [0,2,1,3,4,5] 2 [1] 1 aC mixed
 ·simp+decide only[uU,p6,ib,List.map_nil,tR,tS,List.map_toArray,fq,mK,List.idxOf_cons,cond_true,cond_false,Nat.reduceBEq,Nat.reduceAdd,beq_self_eq_true];rfl
 ·rfl
 ·rfl
 ·rfl
 ·rfl
 ·rfl
 ·rfl
 have g1':(((w0.alloc (eO s)).alloc (eO t)).drewN 1).heap[w0.heap.size]? =some (eO s):=g1;have g2':(((w0.alloc (eO s)).alloc (eO t)).drewN 1).heap[(w0.alloc (eO s)).heap.size]? =some (eO t):=g2;refine ia (vs:=[.string ⟨s.1.toArray⟩,.string ⟨s.2.toArray⟩]) b9 rfl qM rfl rfl rfl g1' ?_;refine ad ⟨rfl,rfl,rfl,?_⟩;refine ia (vs:=[.string ⟨t.1.toArray⟩,.string ⟨t.2.toArray⟩]) b9 rfl qM rfl rfl rfl g2' ?_;refine ad ⟨rfl,rfl,rfl,?_⟩;refine fy ?_;refine⟨iA ⟨fJ rfl (by assumption) (by first|assumption|exact fun h=>h|(intro h;have h:_=_:=h;omega)),trivial⟩,?_⟩;replace kp:=kp.pX (cU aC (((w0.alloc (eO s)).alloc (eO t)).drewN 1) (eO s));refine aP rfl rfl Si (Fy (t:=s) _ h1 h2) (fun r5 w5 hc=>?_);obtain⟨rfl,rfl⟩:=hc;refine(fun(kp:eg _ _ _)=>ad ⟨rfl,rfl,fun _=>kp,?_⟩) (by first|exact kp|exact kp.pX (by assumption)|exact kp.goN (by assumption)|exact kp.go (by assumption) (fun _ _ h=>by first|exact h|exact h.elim));refine aP rfl rfl Si (Fy (t:=t) _ h3 h4) (fun r6 w6 hc=>?_);obtain⟨rfl,rfl⟩:=hc;refine ad ⟨rfl,rfl,fun h=>absurd rfl h,?_⟩;refine aP rfl rfl TX (xm _ _ _) (fun r7 w7 hc=>?_);obtain⟨rfl,rfl⟩:=hc;refine ad ⟨rfl,rfl,fun h=>absurd rfl h,?_⟩;refine ai rfl rfl ?_;refine ad ⟨rfl,rfl,fun h=>absurd rfl h,?_⟩;refine qA (aJ ?_);exact aO rfl rfl ⟨rfl,rfl⟩
end Go.K
namespace Go.K
open Go.Lib (compareBytes)
theorem lp (a b:UInt8) (x y:List UInt8):compareBytes (a::x) (b::y)=if a.toNat<b.toNat then-1 else if b.toNat<a.toNat then 1 else compareBytes x y:=by
 rw[compareBytes];simp only[UInt8.lt_iff_toNat_lt]
theorem ti:∀a,compareBytes a a=0
 |[]=>rfl
 |a::x=>by rw[lp,if_neg (ic _),if_neg (ic _)];exact ti x
theorem nt:∀{a b},compareBytes a b=0→a=b
 |[],[],_=>rfl
 |[],_::_,h=>by simp[compareBytes]at h
 |_::_,[],h=>by simp[compareBytes]at h
 |a::x,b::y,h=>by
  rw[lp]at h
  split at h
  ·omega
  ·split at h
   ·omega
   ·rw[nt h,UInt8.toNat_inj.1 (show a.toNat=b.toNat by omega)]
theorem lZ:∀a b,compareBytes a b= -compareBytes b a
 |[],[]=>rfl
 |[],_::_=>rfl
 |_::_,[]=>rfl
 |a::x,b::y=>by
  rw[lp,lp,lZ x y]
  split<;>split<;>first|omega|rfl
theorem nI:∀{a b c},compareBytes a b<0→compareBytes b c<0→compareBytes a c<0
 |[],[],_,h,_=>by simp[compareBytes]at h
 |_::_,[],_,h,_=>by simp[compareBytes]at h
 |_,_::_,[],_,h=>by simp[compareBytes]at h
 |[],_::_,_::_,_,_=>by simp[compareBytes]
 |a::x,b::y,c::z,h1,h2=>by
  rw[lp]at h1 h2 ⊢
  split at h1
  ·split at h2
   ·rw[if_pos (by omega)];omega
   ·split at h2
    ·omega
    ·rw[if_pos (by omega)];omega
  ·split at h1
   ·omega
   ·split at h2
    ·rw[if_pos (by omega)];omega
    ·split at h2
     ·omega
     ·rw[if_neg (by omega),if_neg (by omega)];exact nI h1 h2
theorem B5 {α:Type} (f:α→List UInt8):Go.Sort.SWO (Go.Proofs.ltOf fun x y=>compareBytes (f x) (f y)) where
 irrefl x:=by simp[Go.Proofs.ltOf,ti]
 trans x y z h1 h2:=by
  simp only[Go.Proofs.ltOf,decide_eq_true_eq]at*
  exact nI h1 h2
 ntrans x y z h1 h2:=by
  simp only[Go.Proofs.ltOf,decide_eq_false_iff_not]at*
  intro h3;by_cases e1:compareBytes (f x) (f y)=0
  ·rw[nt e1]at h3;exact h2 h3
  ·by_cases e2:compareBytes (f y) (f z)=0
   ·rw[nt e2]at h1;exact h1 h3
   ·have n1:=lZ (f x) (f y);have n2:=lZ (f y) (f z);have n3:=lZ (f x) (f z);have:compareBytes (f z) (f x)<0:=nI (b:=f y) (by omega) (by omega);omega
end Go.K
namespace Go.Proofs
open Go.Shelf
def Tryz.AQ:Go.Shelf.Ren:=⟨fun|6=>196|15=>166|14=>234|28=>210|29=>211|20=>261|21=>262|22=>263|23=>264|24=>265|25=>266|26=>267|27=>268|46=>281|47=>246|48=>247|49=>282|50=>283|57=>290|n=>n,fun|22=>98|24=>47|25=>235|3=>3|39=>183|0=>0|53=>273|55=>165|4=>4|46=>267|45=>266|50=>121|5=>5|9=>9|66=>295|70=>299|76=>327|77=>305|n=>n,fun|n=>n⟩
theorem Tryz.Fz:Go.Proofs.SlLaysF0.n6 Tryz.prog Tryz.AQ:={
 mixed:=by kernel_rfl
 f6:=⟨Tryz.f196.name,by decide,Tryz.func196.trans (congrArg some (by kernel_rfl))⟩
 f14:=⟨Tryz.f234.name,by decide,Tryz.func234.trans (congrArg some (by kernel_rfl))⟩
 f15:=Tryz.func166.trans (congrArg some (by kernel_rfl))
 f20:=⟨Tryz.f261.name,by decide,Tryz.func261.trans (congrArg some (by kernel_rfl))⟩
 f21:=⟨Tryz.f262.name,by decide,Tryz.func262.trans (congrArg some (by kernel_rfl))⟩
 f22:=⟨Tryz.f263.name,by decide,Tryz.func263.trans (congrArg some (by kernel_rfl))⟩
 f23:=⟨Tryz.f264.name,by decide,Tryz.func264.trans (congrArg some (by kernel_rfl))⟩
 f24:=⟨Tryz.f265.name,by decide,Tryz.func265.trans (congrArg some (by kernel_rfl))⟩
 f25:=⟨Tryz.f266.name,by decide,Tryz.func266.trans (congrArg some (by kernel_rfl))⟩
 f26:=⟨Tryz.f267.name,by decide,Tryz.func267.trans (congrArg some (by kernel_rfl))⟩
 f27:=⟨Tryz.f268.name,by decide,Tryz.func268.trans (congrArg some (by kernel_rfl))⟩
 f28:=Tryz.func210.trans (congrArg some (by kernel_rfl))
 f29:=Tryz.func211.trans (congrArg some (by kernel_rfl))
 f46:=⟨Tryz.f281.name,by decide,Tryz.func281.trans (congrArg some (by kernel_rfl))⟩
 f47:=Tryz.func246.trans (congrArg some (by kernel_rfl))
 f48:=Tryz.func247.trans (congrArg some (by kernel_rfl))
 f49:=⟨Tryz.f282.name,by decide,Tryz.func282.trans (congrArg some (by kernel_rfl))⟩
 f50:=⟨Tryz.f283.name,by decide,Tryz.func283.trans (congrArg some (by kernel_rfl))⟩
 f57:=⟨Tryz.f290.name,by decide,Tryz.func290.trans (congrArg some (by kernel_rfl))⟩
 t0:=gH
 a0:=rE
 z0:=oh
 v0:=iH
 t3:=ar
 a3:=rF
 z3:=om
 v3:=iI
 t4:=jy
 a4:=Tryz.isAgg4
 z4:=Tryz.sizeOf4
 v4:=oS
 t5:=b4
 a5:=Tryz.isAgg5
 z5:=Tryz.sizeOf5
 v5:=Tryz.zeroValue5
 t9:=aD
 a9:=rG
 z9:=ot
 v9:=iJ
 t22:=iC
 a22:=Tryz.isAgg98
 z22:=Tryz.sizeOf98
 v22:=Tryz.zeroValue98
 t25:=Tryz.underlying235
 a25:=Tryz.isAgg235
 z25:=Tryz.sizeOf235
 v25:=Tryz.zeroValue235
 t39:=Tryz.underlying183
 a39:=Tryz.isAgg183
 z39:=Tryz.sizeOf183
 v39:=Tryz.zeroValue183
 t45:=Tryz.underlying266
 a45:=Tryz.isAgg266
 z45:=Tryz.sizeOf266
 v45:=Tryz.zeroValue266
 t46:=Tryz.underlying267
 a46:=Tryz.isAgg267
 z46:=Tryz.sizeOf267
 v46:=Tryz.zeroValue267
 t50:=Tryz.underlying121
 a50:=Tryz.isAgg121
 z50:=Tryz.sizeOf121
 v50:=Tryz.zeroValue121
 t53:=Tryz.underlying273
 a53:=Tryz.isAgg273
 z53:=Tryz.sizeOf273
 v53:=Tryz.zeroValue273
 t55:=gI
 a55:=Tryz.isAgg165
 z55:=Tryz.sizeOf165
 v55:=Tryz.zeroValue165
 t66:=Tryz.underlying295
 a66:=Tryz.isAgg295
 z66:=Tryz.sizeOf295
 v66:=Tryz.zeroValue295
 t70:=Tryz.underlying299
 a70:=Tryz.isAgg299
 z70:=Tryz.sizeOf299
 v70:=Tryz.zeroValue299
 t76:=Tryz.underlying327
 a76:=Tryz.isAgg327
 z76:=Tryz.sizeOf327
 v76:=Tryz.zeroValue327
 t77:=Tryz.underlying305
 a77:=Tryz.isAgg305
 z77:=Tryz.sizeOf305
 v77:=Tryz.zeroValue305}
end Go.Proofs
namespace Go.K
open Go.Proofs
set_option maxRecDepth 10000
open Go.Proofs Go.Sort
abbrev TK:Type:={t:Fd // (0:UInt8)∉t.1∧t.1.length≤1000000∧t.2.length≤1000000}
instance ZB:Inhabited TK:=⟨⟨([],[]),by simp,by simp,by simp⟩⟩
def uv (x:TK):List Value:=[.string ⟨x.1.1.toArray⟩,.string ⟨x.1.2.toArray⟩]
def DL (x y:TK):Int:=Lib.compareBytes (de x.1) (de y.1)
theorem tj:∀{a b x y:List UInt8},(0:UInt8)∉a→(0:UInt8)∉b→a++[0]++x=b++[0]++y→a=b∧x=y
 |[],[],_,_,_,_,h=>⟨rfl,by simpa using h⟩
 |[],c::b,_,_,_,hb,h=>by
  simp at h;exact absurd (by rw[←h.1];exact bY ..) hb
 |c::a,[],_,_,ha,_,h=>by
  simp at h;exact absurd (by rw[h.1];exact bY ..) ha
 |c::a,e::b,x,y,ha,hb,h=>by
  simp only[iG,List.cons.injEq]at h;obtain⟨h1,h2⟩:=tj (fun h=>ha (cp _ h)) (fun h=>hb (cp _ h)) h.2;exact⟨by rw[h.1,h1],h2⟩
theorem Vz (w:World):(isAgg 47).run Tryz.prog w= .ok true w:=by simp[isAgg,cQ,run_underlying b9]
theorem P1 (w:World):(Go.sizeOf 47).run Tryz.prog w= .ok 2 w:=by
 obtain⟨i,h1,_,h2,_⟩:=qM.get;simp[Go.sizeOf,typeInfo,cQ,program,Sem.run,h1,h2]
theorem FA (iX off size:Nat) (w:World):CmpLays Tryz.prog 158 #[] uv 2 DL iX off size w:=fun m os dk hs x y=>
 (show Calls Tryz.prog 158 #[kv x.1,kv y.1] (sortWorldK uv 2 w iX off m dk os) (fun e w'=>∃v,e= .returned v∧_∧_)from Ik (s:=x.1) (t:=y.1) _ x.2.2.1 x.2.2.2 y.2.2.1 y.2.2.2).mono fun e w' ⟨v,h1,h2,h3⟩=>⟨by rw[h1,h2];rfl,1,#[eO x.1,eO y.1,eO x.1,eO y.1],by rw[h3];simp only[AO,AP,Go.Sort.grow_grow];rfl⟩
theorem P2 (iX off cap:Nat) (d:Array TK) (w:World) (hH:HoldsK uv 2 w iX off d) (hblk:iX<w.heap.size) (iU:d.size<4611686018427387904):
  Spec Tryz.prog 196 #[.slice (some ⟨iX,off,none⟩) d.size cap,.func (.func 158) #[] #[]] w (fun v w'=>v= .tuple #[]∧∃n os,w'=sortWorldK uv 2 w iX off n (d.toList.mergeSort fun x y=> !(Go.Proofs.ltOf DL) y x).toArray os):=by
 exact(Go.Proofs.AnyQ.slices_SortFunc_total Tryz.Fz 2 Vz P1 uv (fun _=>rfl) (fun x v hv=>by simp[uv]at hv;rcases hv with rfl|rfl<;>rfl) DL (B5 _) 158 #[] iX off cap d w TW (FA iX off d.size w) hH hblk iU (fun x y h1 h2=>by
  have h0:DL x y=0:=by
   have:=lZ (de x.1) (de y.1);simp only[Go.Proofs.ltOf,decide_eq_false_iff_not]at h1 h2;unfold DL at h1 h2 ⊢;omega
  have h3:=nt h0;obtain⟨h4,h5⟩:=tj x.2.1 y.2.1 h3;exact Subtype.ext (Prod.ext h4 h5))).mono fun e w' ⟨h1,h2⟩=>⟨_,h1,rfl,h2⟩
end Go.K
namespace Go.K
set_option linter.unusedSectionVars false
open Go.Sort Go.Proofs
section
variable {α:Type} [Inhabited α] {enc:α→List Value} {k:Nat}
theorem qR (hk:∀x,(enc x).length=k) (h0:0<k):∀(l:List α) (t:Nat),(l.flatMap enc)[t]? =(l[t/k]?).bind fun x=>(enc x)[t%k]?
 |[],t=>by simp
 |x::l,t=>by
  rw[List.flatMap_cons];rcases cK t k with h|h
  ·rw[List.getElem?_append_left (by rw[hk];exact h),Nat.div_eq_of_lt h,kU h];rfl
  ·rw[List.getElem?_append_right (by rw[hk];exact h),hk,qR hk h0 l];have e1:t/k=(t-k)/k+1:=by rw[Nat.div_eq t k,if_pos ⟨h0,h⟩]
   have e2:(t-k)%k=t%k:=by rw[Nat.mod_eq t k,if_pos ⟨h0,h⟩]
   rw[e1,e2,List.getElem?_cons_succ]
theorem nu (hk:∀x,(enc x).length=k):∀l:List α,(l.flatMap enc).length=l.length*k
 |[]=>by simp
 |x::l=>by rw[List.flatMap_cons,bL,hk,nu hk l,cr,Nat.add_mul];omega
theorem tn (hk:∀x,(enc x).length=k) (h0:0<k) (d:Array α) {t:Nat} (ht:t<d.size*k):(d.toList.flatMap enc)[t]? =some (flatK enc k d)[t]! :=by
 have h1:t/k<d.size:=Nat.div_lt_of_lt_mul (by rw[Nat.mul_comm];exact ht);have h2:t%k<k:=Nat.mod_lt _ h0;rw[qR hk h0,get_flatK _ _ _ _ ht];have e:d.toList[t/k]? =some d[t/k]! :=by simp[h1]
 rw[e];simp[hk,h2]
theorem CZ {w:World} {g:Nat} {cur:Array Value} {e:TypeId} {d:Array α} (hk:∀x,(enc x).length=k) (h0:0<k) (hg:w.heap[g]? =some (.cells cur e (0,0))) (hC:cur.toList.take (d.size*k)=d.toList.flatMap enc):HoldsK enc k w g 0 d:=fun j hj=>by
 rw[size_flatK]at hj;have h1:=tn hk h0 d hj;rw[←hC,dF,if_pos hj,Array.getElem?_toList]at h1;constructor
 ·simp[World.cell?,hg,h1]
 ·simp[World.frozen?,hg]
theorem uw {w:World} {g n:Nat} {cur:Array Value} {e:TypeId} {d:Array α} {os:Array Obj} (hg:w.heap[g]? =some (.cells cur e (0,0))):(sortWorldK enc k w g 0 n d os).heap[g]? =some (.cells (putCells id 0 (flatK enc k d) cur) e (0,0)):=by
 have dB:g<w.heap.size:=ak hg
 have h1:(w.heap.modify g (onCells (putCells id 0 (flatK enc k d))))[g]? =some (.cells (putCells id 0 (flatK enc k d) cur) e (0,0)):=by
  rw[pM,if_pos rfl,hg];rfl
 show((w.heap.modify g (onCells (putCells id 0 (flatK enc k d))))++os)[g]? =_;rw[Array.getElem?_append_left (by simpa using dB)];exact h1
theorem rp {w:World} {g n:Nat} {d:Array α} {os:Array Obj}:Step allM w allM (sortWorldK enc k w g 0 n d os) (fun b=>b=g):=
 ⟨fun h=>absurd (h w.heap.size trivial) (ic _),rfl,rfl,rfl,by show _≤((w.heap.modify g _)++os).size;simp,fun _ _=>Iff.rfl,fun b hb hn=>by
  have hn: ¬b=g:=hn;show((w.heap.modify g (onCells (putCells id 0 (flatK enc k d))))++os)[b]? =_;rw[Array.getElem?_append_left (by simpa using hb),pM,if_neg (fun h=>hn h.symm)],fun _ _=>trivial⟩
theorem ux {F cur:Array Value} (h:F.size≤cur.size):(putCells id 0 F cur).toList.take F.size=F.toList:=by
 apply ki;intro j;rw[dF];by_cases hj:j<F.size
 ·rw[if_pos hj];simp[putCells,hj,mP hj h]
 ·rw[if_neg hj,dI (by simpa using hj)]
theorem xn (hk:∀x,(enc x).length=k) (h0:0<k) (d:Array α):(flatK enc k d).toList=d.toList.flatMap enc:=by
 apply ki;intro j;by_cases hj:j<d.size*k
 ·rw[tn hk h0 d hj];have:j<(flatK enc k d).size:=by rw[size_flatK];exact hj
  rw[Array.getElem?_toList,getElem!_pos _ j this];exact Array.getElem?_eq_getElem this
 ·rw[dI (by rw[Array.length_toList,size_flatK];omega),dI (by rw[nu hk,Array.length_toList];omega)]
end
end Go.K
namespace Go.K
open Go.Proofs
set_option maxRecDepth 10000
open Go.Proofs Go.Sort
theorem B6:∀{ts:List Fd} {C:List Value} {M:aA} {w:World},eo RT.fd M w ts C→C=ts.flatMap fun t=>[.string ⟨t.1.toArray⟩,.string ⟨t.2.toArray⟩]
 |[],C,_,_,h=>h
 |t::ts,C,_,_,⟨vs,r,h1,h2,h3⟩=>by
  obtain⟨va,vb,rfl,h4,h5⟩:=h2;rw[h1,B6 h3,h4.1,h5.1];rfl
theorem yY {M:aA} {w:World}:∀{ts:List Fd},(∀t∈ts,t.1.length≤1000000∧t.2.length≤1000000)→eo RT.fd M w ts (ts.flatMap fun t=>[.string ⟨t.1.toArray⟩,.string ⟨t.2.toArray⟩])
 |[],_=>rfl
 |t::ts,h=>by
  obtain⟨h1,h2⟩:=h t (bY ..);exact⟨_,_,rfl,⟨_,_,rfl,⟨rfl,by omega⟩,⟨rfl,by omega⟩⟩,yY fun u hu=>h u (cp _ hu)⟩
def FB (us:List Fd):Prop:=us.Pairwise fun a b=>¬Lib.compareBytes (de b) (de a)<0
theorem uy {base:Nat} {v:Value} {ts:List Fd} (w0:World) (ho:Own RT.fd 47 (nL v) w0 base v ts) (hT:∀t∈ts,(0:UInt8)∉t.1∧t.1.length≤1000000∧t.2.length≤1000000) (hl:ts.length≤100000000):
  Spec Tryz.prog 196 #[v,.func (.func 158) #[] #[]] w0 (fun r w=>r= .tuple #[]∧∃us:List Fd,us.Perm ts∧FB us∧Own RT.fd 47 (nL v) w base v us∧Step allM w0 allM w (nL v)):=by
 obtain⟨⟨C,⟨hC,hr⟩,hA⟩,hm⟩:=ho;rcases hr with⟨rfl,h0⟩|⟨g,cap,cur,rfl,hb,hg,hle,ZC,ZD,Cw⟩
 ·have Ea:ts=[]:=fY.1 h0;subst Ea;exact(AnyF.slices_SortFunc_none Tryz.Fz none 0 _ w0).mono fun e w' ⟨h1,h2⟩=>⟨_,h1,rfl,[],.refl _,List.Pairwise.nil,ec _ _ _ _ _,by rw[h2];exact(an allM w0).cc (fun _ h=>h.elim) (fun _ _=>trivial)⟩
 ·obtain⟨d,hd⟩:∃d:Array TK,d.toList.map (·.1)=ts:=⟨(ts.attach.map fun x=>(⟨x.1,hT x.1 x.2⟩:TK)).toArray,by rw[List.toList_toArray,List.map_map];exact List.attach_map_subtype_val ts⟩;have iU:d.size=ts.length:=by rw[←hd];simp
  have hk:∀x:TK,(uv x).length=2:=fun _=>rfl
  have LS:∀l:List TK,(l.map (·.1)).flatMap (fun t:Fd=>[Value.string ⟨t.1.toArray⟩,.string ⟨t.2.toArray⟩])=l.flatMap uv:=fun l=>by rw[List.flatMap_map];rfl
  have hH:HoldsK uv 2 w0 g 0 d:=CZ hk (by omega) hg (by
   have e2:RT.fd.n=2:=rfl;rw[e2]at Cw;rw[iU,Cw,B6 hA,←hd,LS])
  have hs:=P2 g 0 cap d w0 hH (ak hg) (by omega);rw[iU]at hs;refine hs.mono fun r w' ⟨h1,n,os,h2⟩=>⟨h1,(d.toList.mergeSort fun x y=> !(ltOf DL) y x).map (·.1),?_,?_,?_,?_⟩
  ·rw[←hd];exact(List.mergeSort_perm _ _).map _
  ·refine dp.2 ((List.pairwise_mergeSort (fun a b c h1 h2=>?_) (fun a b=>?_) _).imp fun h=>?_)
   ·simp only[ltOf,ox,decide_eq_false_iff_not]at*
    have:=(B5 fun x:TK=>de x.1).ntrans c b a (by simpa[ltOf,DL]using h2) (by simpa[ltOf,DL]using h1);simpa[ltOf,DL]using this
   ·simp only[ltOf,Bool.or_eq_true,ox,decide_eq_false_iff_not];have:=lZ (de a.1) (de b.1);unfold DL;omega
   ·rw[ox]at h;exact of_decide_eq_false h
  ·have hp:=List.mergeSort_perm d.toList fun x y=> !(ltOf DL) y x
   rw[h2];generalize (d.toList.mergeSort fun x y=> !(ltOf DL) y x)=us at hp;have NO:(us.map (·.1)).length=ts.length:=by rw[db,hp.length_eq,Array.length_toList,iU]
   have xL:us.toArray.size*2=ts.length*2:=by rw[←NO];simp
   have e2:RT.fd.n=2:=rfl;refine⟨⟨(us.map (·.1)).flatMap (fun t:Fd=>[Value.string ⟨t.1.toArray⟩,.string ⟨t.2.toArray⟩]),⟨?_,.inr ⟨g,cap,_,by rw[NO],hb,uw hg,by rw[NO];exact hle,ZC,by rw[←ZD];simp[putCells],?_⟩⟩,yY fun t ht=>?_⟩,hm⟩
   ·rw[LS,nu hk,db,e2]
   ·rw[LS,NO,e2,←xL,←size_flatK uv,ux (by rw[size_flatK,xL,ZD,e2];omega),xn hk (by omega)]
   ·obtain⟨x,_,rfl⟩:=cF.1 ht;exact x.2.2
  ·rw[h2];exact rp.cc (fun b hb=>by have hb:b=g:=hb;subst hb;rfl) (fun _ _=>trivial)
end Go.K
namespace Go.K
open Go.Proofs
set_option maxRecDepth 10000
theorem yZ {bs mb clock:Nat} {es:List MapEntry} (w0:World) (hk:B3 es) (hT:∀e∈es,∀t,e.key=kv t→(0:UInt8)∉t.1∧t.1.length≤1000000∧t.2.length≤1000000) (Sz:es.length≤100000000) (hlen:∀ts:List Fd,ts.Nodup→(∀t∈ts,∃e∈es,e.key=kv t)→ts.length≤100000000) (Fw:w0.heap[bs]? =some (.cells #[.map (some mb)] 227 (0,0))) (hW:eu Tryz.prog 47 w0 mb es clock):
  Spec Tryz.prog 156 #[.func (.func 197) #[] [.pointer (some ⟨bs,0,none⟩)].toArray,.func (.func 158) #[] #[]] w0 (fun v w=>∃us:List Fd,us.Nodup∧(∀t,t∈us↔∃e∈es,e.key=kv t)∧FB us∧Own RT.fd 47 (nL v) w w0.heap.size v us∧Step allM w0 allM w aC):=by
 refine aX (args:=[_,_]) (fn:=Tryz.f156) Tryz.func156 rfl (n:=12) Tryz.ntmps156 (aj (ah (ai rfl rfl (ad (aj (ah (ae rfl rfl ?_)))))));refine aP rfl rfl T7 (xl _ hk Sz Fw hW) (fun v1 w1 hc=>?_);obtain⟨ts,mL,ly,ho,s1⟩:=hc;refine ai rfl rfl (ad (aj (ah (ae rfl rfl (ae rfl rfl ?_)))));refine aP rfl rfl T8 (uy _ ho (fun t ht=>by obtain⟨e,he,Vv⟩:=(ly t).1 ht;exact hT e he t Vv) (hlen ts mL fun t ht=>(ly t).1 ht)) (fun r2 w2 hc=>?_);obtain⟨rfl,us,hp,Kz,P3,s2⟩:=hc;refine ad (aj (ah (ae rfl rfl (ai rfl rfl (ad (aJ ?_))))));exact aO rfl rfl ⟨us,hp.nodup_iff.2 mL,fun t=>hp.mem_iff.trans (ly t),Kz,P3,s1.trans s2 (fun k hk hn=>by have:=(ho.base k hn).1;omega)⟩
theorem AR {mb:Nat} (w0:World):
  Spec Tryz.prog 157 #[.map (some mb)] w0 (fun v w=>∃bs,v= .func (.func 197) #[] [.pointer (some ⟨bs,0,none⟩)].toArray∧w.heap[bs]? =some (.cells #[.map (some mb)] 227 (0,0))∧w0.heap.size≤bs∧Step allM w0 allM w aC):=by
 refine aX (args:=[_]) (fn:=Tryz.f157) Tryz.func157 rfl (n:=4) Tryz.ntmps157 (aj (ah ?_));refine oT allM rfl rfl (fun bs w1 o8 xK gs s1=>?_);change w1.heap[bs]? =some (.cells #[.map (some mb)] 227 (0,0))at gs;replace s1:=s1.all;refine ai rfl rfl (ad (aj (ah (hY (xs:=[]) (ys:=[.tmp 1]) rfl rfl rfl (ai rfl rfl (ad (aJ ?_)))))));exact aO rfl rfl ⟨bs,rfl,gs,o8,s1⟩
end Go.K
namespace Go.K
open Go.Proofs
set_option maxRecDepth 10000
def posOf (ts:List (Fd×Nat)) (t:Fd):List Int:=(ts.filter fun p=>decide (p.1=t)).map fun p=>(p.2:Int)
def seen (ts:List (Fd×Nat)):List Fd:=ts.foldl (fun l p=>if p.1∈l then l else l++[p.1]) []
theorem C0 (ts:List (Fd×Nat)) (t:Fd) (i:Nat):seen (ts++[(t,i)])=if t∈seen ts then seen ts else seen ts++[t]:=by unfold seen;rw[ou];rfl
theorem tp (ts:List (Fd×Nat)) (t t':Fd) (i:Nat):posOf (ts++[(t,i)]) t'=if t=t' then posOf ts t'++[(i:Int)]else posOf ts t':=by
 unfold posOf;rw[List.filter_append];by_cases h:t=t'<;>simp[h]
theorem ql (ts:List (Fd×Nat)) (t:Fd):(posOf ts t).length≤ts.length:=by
 unfold posOf;rw[db];exact List.length_filter_le _ _
abbrev iP:Value:= .slice none 0 0
structure C1 (M:aA) (w:World) (B:Nat) (ts:List (Fd×Nat)) (es:List MapEntry):Prop where
 o:∀t v,dE iP es (kv t) v→Own (RT.int .i64) 3 M w B v (posOf ts t)
 a:∀t t' v v',t≠t'→dE iP es (kv t) v→dE iP es (kv t') v'→iE v v'
 k:es.map (·.key)=(seen ts).map kv
theorem C1.bh {M M':aA} {w w':World} {B:Nat} {ts:List (Fd×Nat)} {es:List MapEntry} (h:C1 M w B ts es) (s:Step M w M' w' aC):C1 M' w' B ts es:=⟨fun t v hv=>(h.o t v hv).bh s,h.a,h.k⟩
def IJ (bt mb B:Nat) (ts:List (Fd×Nat)) (M:aA) (w:World):Prop:=w.heap[bt]? =some (.cells #[.map (some mb)] 227 (0,0))∧M bt∧M mb∧B≤bt∧B≤mb∧∃es clock,eu Tryz.prog 47 w mb es clock∧C1 M w B ts es
theorem Own.iQ {α:Type} {A:RT α} {e:TypeId} {M:aA} {w:World} {base b c:Nat} {a:Array MapEntry} {v:Value} {xs:List α} (h:Own A e M w base v xs) (hb:w.heap[b]? =some (.map a c)):v.ownBlock≠some b:=fun hv=>by
 obtain⟨⟨C,h1,_⟩,_⟩:=h;rcases h1.2 with⟨h2,_⟩|⟨g,cap,cur,h2,_,h3,_⟩
 ·rw[h2]at hv;cases hv
 ·rw[h2]at hv;cases hv;rw[h3]at hb;cases hb
theorem py {ts:List (Fd×Nat)} {es:List MapEntry} {t:Fd} (hk:es.map (·.key)=(seen ts).map kv):(∃e∈es,e.key=kv t)↔t∈seen ts:=by
 constructor
 ·rintro⟨e,he,h⟩;have:kv t∈(seen ts).map kv:=by rw[←hk,←h];exact fg he
  obtain⟨t',h1,h2⟩:=cF.1 this;rw[←qk h2];exact h1
 ·intro h;have:kv t∈es.map (·.key):=by rw[hk];exact fg h
  obtain⟨e,h1,h2⟩:=cF.1 this;exact⟨e,h1,h2⟩
theorem C2 {M:aA} {bt mb B:Nat} {ts:List (Fd×Nat)} {t:Fd} {i:Nat} (w0:World) (hM:Lt M w0) (h1:t.1.length≤900000) (h2:t.2.length≤140737488355328) (hi:i≤1000000) (Ea:ts.length≤10000000) (hJ:IJ bt mb B ts M w0):
  Spec Tryz.prog 155 #[kv t,.int .i64 (i:Int),.pointer (some ⟨bt,0,none⟩)] w0 (fun v w=>∃M',Lt M' w∧IJ bt mb B (ts++[(t,i)]) M' w∧Step M w0 M' w (jC M B)):=by
 obtain⟨gb,dz,dT,hB,B7,es,clock,hW,hI⟩:=hJ;refine aX (args:=[_,_,_]) (fn:=Tryz.f155) Tryz.func155 rfl (n:=13) Tryz.ntmps155 ?_;have S:Step M w0 M w0 (jC M B):=(an _ _).cc (fun _ h=>h.elim) (fun _ h=>h.2);refine aj (ah ?_);refine kh (A:=RT.fd) rfl rfl hM (xi (by omega) h2) rfl (fun u0 w1 cA s0 _=>?_);have:=ak gb;replace dz:=(s0.mem _ this).2 dz;replace gb:=s0.aI gb;replace dT:=(s0.mem _ (ak hW.at_)).2 dT;replace hW:=hW.bh s0;replace hI:=hI.bh s0;replace hM:=s0.lt hM;have:=S.size;replace S:=S.ay s0;refine ad (ah (aE jO rfl rfl rfl (by assumption) rfl ?_));refine cx (M:=M) (A:=RT.fd) b9 rfl qM (by decide) rfl rfl rfl cA (aq _ _) (fun v1 nZ=>?_);obtain rfl:=kN nZ;refine ae rfl rfl ?_;refine eE (A:=RT.int .i64) (hn:=by decide) (M:=M) au I3 (by decide) rfl rfl hM (gp (by omega)) (.inr ⟨rfl,rfl⟩) (fun EJ xc fA s1_3=>?_);have:=ak gb;replace dz:=(s1_3.mem _ this).2 dz;replace gb:=s1_3.aI gb;replace cA:=cA.le (by decide) s1_3.le;replace dT:=(s1_3.mem _ (ak hW.at_)).2 dT;replace hW:=hW.bh s1_3;replace hI:=hI.bh s1_3;replace hM:=s1_3.lt hM;have:=S.size;replace S:=S.ay s1_3;obtain⟨kl,Cz⟩:=Fs t (by omega) h2;refine Rg.mapEntry (M:=M) (zv:=iP) jO vv nM rfl rfl rfl Cz hW dT (fun w4 es4 cl4 v s NP hv ly xo yb s4=>?_);have P4:∀t v,dE iP es (kv t) v→v.ownBlock≠some mb:=fun t v h=>(hI.o t v h).iQ hW.at_
 have JQ:bt≠mb:=fun e=>by subst e;have:=hW.at_;rw[gb]at this;cases this
 replace hI:C1 M w4 B ts es:=⟨fun t v hv=>(hI.o t v hv).step s4 (fun b hb hk=>P4 t v hv (by have hk:b=mb:=hk;rw[←hk];exact hb)),hI.a,hI.k⟩;have P5:=(s4.mem _ (ak hW.at_)).2 dT;replace dz:=(s4.mem _ (ak gb)).2 dz;replace gb:=s4.bF gb JQ;replace fA:=fA.le s4.le;replace hM:=s4.lt hM;have hmM:∀b,b<w0.heap.size→M b→M b:=fun b hb h=>(S.mem b hb).1 h
 have ZE:=S.size;replace S:=S.trans s4 (fun k hk h=>by have h:k=mb:=h;subst h;exact⟨B7,hmM k hk dT⟩);have od:=hI.o t v hv;have yc:=ql ts t;refine bP rfl rfl rfl ?_;refine Rg.kq (M:=M) (base:=B) au I3 rfl rfl rfl rfl od fA (aq _ _) (by simp;omega) (by simp;omega) (by have:=ak gb;omega) (fun v6 w6 qQ s6 hF=>?_);have hblk:∀b,iX v b→B≤b∧M b:=fun b h=>⟨(od.base b h).1,od.mut_ b h⟩
 have Il:∀t' v',t'≠t→dE iP es (kv t') v'→iE v' v:=fun t' v' eG nU=>hI.a t' t v' v eG nU hv
 have Im:∀t' v',t'≠t→dE iP es (kv t') v'→Own (RT.int .i64) 3 (jm M v6) w6 B v' (posOf ts t'):=fun t' v' eG nU=>(hI.o t' v' nU).step s6 (fun b hb hk=>Il t' v' eG nU b hb hk)
 have iU:∀t' v',dE iP es (kv t') v'→∀b,v'.ownBlock=some b→b<w4.heap.size:=fun t' v' nU b hb=>((hI.o t' v' nU).base b hb).2
 have FC:∀t' v',t'≠t→dE iP es (kv t') v'→iE v6 v':=fun t' v' eG nU=>(Il t' v' eG nU).symm.grown hF (iU t' v' nU)
 have VA:v.ownBlock≠some mb:=od.iQ NP.at_;have FD:=(s6.mem _ (ak NP.at_)).2 P5;replace NP:=NP.step s6 VA;replace dz:=(s6.mem _ (ak gb)).2 dz;replace gb:=s6.bF gb (fun h=>od.eL gb (by decide) h);replace hM:=s6.lt hM;have VB:∀b,b<w0.heap.size→M b→M b:=fun b hb h=>(S.mem b hb).1 h
 replace S:=S.trans s6 (fun k hk h=>⟨(hblk k h).1,VB k hk (hblk k h).2⟩);refine bP rfl rfl rfl ?_;have P7:=NP.at_;refine Rg.entryStore rfl rfl rfl NP FD ly (fun w8 ZF hW8 mj P8 s8=>?_);have hm8:v6.ownBlock≠some mb:=qQ.iQ P7;replace qQ:=qQ.step s8 (fun b hb hk=>hm8 (by have hk:b=mb:=hk;rw[←hk];exact hb));have P9:∀t' v',t'≠t→dE iP es (kv t') v'→Own (RT.int .i64) 3 _ w8 B v' (posOf ts t'):=fun t' v' eG nU=>(Im t' v' eG nU).step s8 (fun b hb hk=>P4 t' v' nU (by have hk:b=mb:=hk;rw[←hk];exact hb))
 have Qa:=(s8.mem _ (ak P7)).2 FD;refine ad ?_
 first|refine fC.nil ?_|simp+decide only[rJ,kG,if_true,if_false]|skip
 replace dz:=(s8.mem _ (ak gb)).2 dz;replace gb:=s8.bF gb JQ;replace hM:=s8.lt hM;replace S:=S.trans s8 (fun k hk h=>by have h:k=mb:=h;subst h;exact⟨B7,(S.mem k hk).1 FD⟩)
 have oe:∀t1 v1,dE iP ZF (kv t1) v1→(t1=t∧v1=v6)∨(t1≠t∧dE iP es (kv t1) v1):=fun t1 v1 nZ=>by
  rcases(P8 iP (kv t1) v1).1 nZ with⟨h3,h4⟩|⟨h3,h4⟩
  ·exact .inl ⟨qk h3,h4⟩
  ·exact .inr ⟨fun e=>h3 (by rw[e];rfl),(xo (kv t1) v1).1 h4⟩
 refine gJ rfl ⟨_,hM,⟨gb,dz,Qa,hB,B7,ZF,_,hW8,⟨fun t1 v1 nZ=>?_,fun t1 t2 v1 v2 eG nZ wO=>?_,?_⟩⟩,S⟩
 ·rcases oe t1 v1 nZ with⟨rfl,rfl⟩|⟨h3,h4⟩
  ·rw[tp,if_pos rfl];exact qQ
  ·rw[tp,if_neg (fun e=>h3 e.symm)];exact P9 t1 v1 h3 h4
 ·rcases oe t1 v1 nZ with⟨rfl,rfl⟩|⟨h3,h4⟩
  ·rcases oe t2 v2 wO with⟨rfl,_⟩|⟨h5,h6⟩
   ·exact absurd rfl eG
   ·exact FC t2 v2 h5 h6
  ·rcases oe t2 v2 wO with⟨rfl,rfl⟩|⟨h5,h6⟩
   ·exact(FC t1 v1 h3 h4).symm
   ·exact hI.a t1 t2 v1 v2 eG h4 h6
 ·rw[mj,C0];rcases yb with⟨h3,h4⟩|⟨h3,h4⟩
  ·rw[h3,hI.k,if_pos ((py hI.k).1 h4)]
  ·rw[h3,hI.k,if_neg (fun h=>by obtain⟨e,he,hk⟩:=(py hI.k).2 h;exact h4 e he hk)];simp[kv]
end Go.K
namespace Go.K
open Go.Maps (Keyed)
open Go.Lib (compareBytes)
theorem y2:∀a b:List UInt8,Op.bytesLess a b=decide (compareBytes a b<0)
 |[],[]=>by simp[Op.bytesLess,compareBytes]
 |_::_,[]=>by simp[Op.bytesLess,compareBytes]
 |[],_::_=>by simp[Op.bytesLess,compareBytes]
 |a::x,b::y=>by
  rw[Op.bytesLess,y2 x y,lp];by_cases h1:a.toNat<b.toNat
  ·simp[UInt8.lt_iff_toNat_lt,h1]
  ·by_cases h2:b.toNat<a.toNat
   ·have: ¬a=b:=fun e=>by subst e;omega
    simp[UInt8.lt_iff_toNat_lt,h1,h2,this]
   ·have:a=b:=UInt8.toNat_inj.1 (by omega);simp[UInt8.lt_iff_toNat_lt,h1,h2,this]
theorem nv (a b:List UInt8):compareBytes a b<0↔a<b:=by
 have h:=y2 a b;rw[Go.Proofs.bytesLess_eq]at h;exact(decide_eq_decide.1 h).symm
theorem iu (a:List UInt8): ¬a<a:=fun h=>by have:=(nv a a).2 h;rw[ti]at this;omega
theorem lr {a b c:List UInt8} (h:a<b) (h':b<c):a<c:=(nv _ _).1 (nI ((nv _ _).2 h) ((nv _ _).2 h'))
theorem kB (a b:List UInt8):a<b∨a=b∨b<a:=by
 rcases Int.lt_trichotomy (compareBytes a b) 0 with h|h|h
 ·exact .inl ((nv _ _).1 h)
 ·exact .inr (.inl (nt h))
 ·exact .inr (.inr ((nv _ _).1 (by rw[lZ];omega)))
theorem iv {a b:List UInt8} (h:a<b): ¬b<a:=fun h'=>iu a (lr h h')
theorem AS {a b:List UInt8}:a≤b↔¬b<a:=Iff.rfl
section
variable {P:Program} {r:Option Nat} {n:Nat} {L:Sl} {ds:List Deferred} {w:World} {K:Kt} {ops:Array Oper} {rest:List Oper} {d:Nat} {x y:Operand} {ty:TypeId} {pos:String} {af:Array Edge}
theorem Rg.VC {t t':TypeId} {p q:List UInt8} (hx:ev L x=some (.string ⟨p.toArray⟩)) (hy:ev L y=some (.string ⟨q.toArray⟩)) (hd:Nat.blt d n=true)
  (k:Rg P r n ops rest ((d,.bool (decide (q<p)))::L) ds w K):
  Rg P r n ops ({dst:=some d,op:= .binOp .gtr t x y t',type:=ty,pos,after:=af,guard:=none}::rest) L ds w K:=
 .op (fun _ h=>by cases h) rfl rfl hd _ w (fun ρ h=>by
  have e:(!(decide (p<q)||p==q))=decide (q<p):=by
   rcases kB p q with h|h|h
   ·simp[h,iv h]
   ·subst h;simp[iu]
   ·have: ¬p=q:=fun e=>by subst e;exact iu p h
    simp[h,iv h,this]
  simp only[execOp];rw[h x _ hx,h y _ hy];simp only[binOp,Op.stringOp,ig,Go.Proofs.bytesLess_eq,e];simp[eqGuard]) k
theorem Rg.LU {t t':TypeId} {p q:List UInt8} (hx:ev L x=some (.string ⟨p.toArray⟩)) (hy:ev L y=some (.string ⟨q.toArray⟩)) (hd:Nat.blt d n=true)
  (k:Rg P r n ops rest ((d,.bool (decide (¬p<q)))::L) ds w K):
  Rg P r n ops ({dst:=some d,op:= .binOp .geq t x y t',type:=ty,pos,after:=af,guard:=none}::rest) L ds w K:=
 .op (fun _ h=>by cases h) rfl rfl hd _ w (fun ρ h=>by
  have e:(!decide (p<q))=decide (¬p<q):=by by_cases h:p<q<;>simp[h]
  simp only[execOp];rw[h x _ hx,h y _ hy];simp only[binOp,Op.stringOp,ig,Go.Proofs.bytesLess_eq,e];simp[eqGuard]) k
theorem Rg.LV {t t':TypeId} {p q:List UInt8} (hx:ev L x=some (.string ⟨p.toArray⟩)) (hy:ev L y=some (.string ⟨q.toArray⟩)) (hd:Nat.blt d n=true)
  (k:Rg P r n ops rest ((d,.bool (decide (¬q<p)))::L) ds w K):
  Rg P r n ops ({dst:=some d,op:= .binOp .leq t x y t',type:=ty,pos,after:=af,guard:=none}::rest) L ds w K:=
 .op (fun _ h=>by cases h) rfl rfl hd _ w (fun ρ h=>by
  have e:(decide (p<q)||p==q)=decide (¬q<p):=by
   rcases kB p q with h|h|h
   ·simp[h,iv h]
   ·subst h;simp[iu]
   ·have: ¬p=q:=fun e=>by subst e;exact iu p h
    simp[h,iv h,this]
  simp only[execOp];rw[h x _ hx,h y _ hy];simp only[binOp,Op.stringOp,ig,Go.Proofs.bytesLess_eq,e];simp[eqGuard]) k
end
abbrev xp (l:List (List UInt8)):Prop:=l.Pairwise (· < ·)
theorem C3 {ss:List (List UInt8)} (h:ss.Nodup):xp (ss.mergeSort fun x y=>decide (x≤y)):=by
 have h1:(ss.mergeSort fun x y=>decide (x≤y)).Pairwise (fun x y=>decide (x≤y)=true):=List.pairwise_mergeSort (fun a b c h1 h2=>by
  simp only[decide_eq_true_eq,AS]at h1 h2 ⊢;intro h3;rcases kB a b with h|h|h
  ·exact h2 (lr h3 h)
  ·subst h;exact h2 h3
  ·exact h1 h) (fun a b=>by
  simp only[Bool.or_eq_true,decide_eq_true_eq,AS];rcases kB a b with h|h|h
  ·exact .inl (iv h)
  ·subst h;exact .inl (iu a)
  ·exact .inr (iv h)) ss
 have h2:(ss.mergeSort fun x y=>decide (x≤y)).Nodup:=(List.mergeSort_perm ss _).nodup_iff.2 h;refine (h1.and h2).imp ?_;rintro a b ⟨h3,h4⟩;simp only[decide_eq_true_eq,AS]at h3;rcases kB a b with h|h|h
 ·exact h
 ·exact absurd h h4
 ·exact absurd h h3
theorem xp.nodup {l:List (List UInt8)} (h:xp l):l.Nodup:=h.imp fun {a b} h e=>by subst e;exact iu a h
theorem FE {α:Type} {R:α→α→Prop} (hR:∀a b,R a b→R b a→a=b) {l l':List α} (h:l.Pairwise R) (h':l'.Pairwise R) (hn:l.Nodup) (JN:l'.Nodup) (hm:∀x,x∈l↔x∈l'):l=l':=
 List.Perm.eq_of_pairwise (fun a b _ _ h1 h2=>hR a b h1 h2) h h' ((List.perm_ext_iff_of_nodup hn JN).2 hm)
theorem LW {l l':List (List UInt8)} (h:xp l) (h':xp l') (hm:∀x,x∈l↔x∈l'):l=l':=
 FE (fun a b h1 h2=>absurd h2 (iv h1)) h h' h.nodup h'.nodup hm
abbrev sv (k:List UInt8):Value:= .string ⟨k.toArray⟩
theorem xq {a b:List UInt8} (h:sv a=sv b):a=b:=by simpa[sv]using h
def AT:Value→Option (DU×List MemPlace):=fun _=>some (.nil,[])
theorem eu.VD {P:Program} {kt:TypeId} {M:aA} {w:World} {b:Nat} {es:List MapEntry} {clock:Nat} (hk:P.underlying kt=some .string) (h:eu P kt w b es clock) (hm:M b) (hl:es.length≤maxLen) (ks:List (List UInt8)) (Io:es.map (·.key)=ks.map sv):
  ∃m:List (Lit×DU),KT P kt AT M w b m∧(strKeys (DataW.map m)).Perm ks∧m.length=ks.length:=by
 have hF:Go.WideElems.Fit P kt AT es.toArray clock:=by
  refine⟨by simpa using hl,⟨fun x hx=>h.lt x (by simpa using hx),?_,?_⟩,fun x hx=>?_⟩
  ·simpa[List.Nodup,dp]using h.born
  ·simpa[List.Nodup,dp]using h.keys
  ·obtain⟨l,hl⟩:=h.ok x (by simpa using hx);exact⟨(l,.nil),by simp[Go.WideElems.rd,hl,AT]⟩
 have hp:=Go.WideShapes.sorted_perm (es.toArray.toList.map (Go.WideElems.rg P kt AT));have hlen:(List.foldr DataW.insert [] (es.toArray.toList.map (Go.WideElems.rg P kt AT))).length=es.length:=by rw[hp.length_eq];simp
 refine⟨_,⟨hm,es.toArray,clock,h.at_,hF,by rw[hlen];simp,rfl⟩,?_,?_⟩
 ·refine (hp.map fun p=>strOf p.1).trans ?_;rw[List.map_map]
  have e:es.toArray.toList.map ((fun p=>strOf p.1)∘Go.WideElems.rg (H:=Unit) P kt AT)=ks:=by
   refine ki fun i=>?_
   have hi:=congrArg (·[i]?) Io;simp only[ew]at hi ⊢
   cases he:es[i]? with
   |none=>
    rw[he]at hi
    cases VE:ks[i]? with
    |none=>simp[he]
    |some a=>rw[VE]at hi;cases hi
   |some e=>
    rw[he]at hi;obtain⟨l,hl⟩:=h.ok e (aM he);obtain⟨s,hs,h1⟩:=Option.map_eq_some_iff.1 hi.symm;obtain⟨z,ZG,hz2,_⟩:=Maps.keyOf_str hk hl;have:z=s:=xq (ZG.symm.trans (by simpa using h1.symm));subst this;simp[he,hs,Go.WideElems.rg,Go.WideElems.rd,hl,AT,hz2,strOf]
  rw[e]
 ·rw[hlen];have:=congrArg List.length Io;simpa using this
end Go.K
namespace Go.K
open Go.Lib (compareBytes)
def nw {α:Type} [DecidableEq α] (key:α→List UInt8) (t:α):List α→List α
 |[]=>[t]
 |u::l=>if key t<key u then t::u::l else if u=t then u::l else u::nw key t l
theorem nJ {α:Type} [DecidableEq α] {key:α→List UInt8} {t x:α}:∀{l:List α},x∈nw key t l↔x=t∨x∈l
 |[]=>by simp[nw]
 |u::l=>by
  unfold nw
  split
  ·simp
  ·split
   ·rename_i h;subst h;simp
   ·rw[dx,nJ (l:=l),dx];constructor
    ·rintro(h|h|h)
     ·exact .inr (.inl h)
     ·exact .inl h
     ·exact .inr (.inr h)
    ·rintro(h|h|h)
     ·exact .inr (.inl h)
     ·exact .inl h
     ·exact .inr (.inr h)
abbrev xr {α:Type} (key:α→List UInt8) (l:List α):Prop:=l.Pairwise fun a b=>key a<key b
theorem y3 {α:Type} [DecidableEq α] {key:α→List UInt8} {t:α}:∀{l:List α},(∀u∈l,key u=key t→u=t)→xr key l→xr key (nw key t l)
 |[],_,_=>by simp[nw]
 |u::l,hi,h=>by
  have h':=jk.1 h;unfold nw
  split
  ·rename_i dB
   refine jk.2 ⟨fun x hx=>?_,h⟩;rcases dx.1 hx with rfl|hx
   ·exact dB
   ·exact lr dB (h'.1 x hx)
  ·rename_i dB
   split
   ·exact h
   ·rename_i eG
    have hut:key u<key t:=by
     rcases kB (key u) (key t)with h1|h1|h1
     ·exact h1
     ·exact absurd (hi u (bY ..) h1) eG
     ·exact absurd h1 dB
    refine jk.2 ⟨fun x hx=>?_,y3 (fun v hv=>hi v (cp _ hv)) h'.2⟩;rcases nJ.1 hx with rfl|hx
    ·exact hut
    ·exact h'.1 x hx
def allBy {α:Type} [DecidableEq α] (key:α→List UInt8) (l:List α):List α:=l.foldl (fun a t=>nw key t a) []
theorem pz {α:Type} [DecidableEq α] {key:α→List UInt8} {S:α→Prop} (hS:∀a b,S a→S b→key a=key b→a=b):∀(l a:List α),(∀x∈l,S x)→(∀x∈a,S x)→xr key a→
  xr key (l.foldl (fun a t=>nw key t a) a)∧∀x,x∈l.foldl (fun a t=>nw key t a) a↔x∈a∨x∈l
 |[],a,_,_,h=>⟨h,fun x=>by simp⟩
 |t::l,a,hl,ha,h=>by
  have ht:=hl t (bY ..)
  obtain⟨h1,h2⟩:=pz hS l (nw key t a) (fun x hx=>hl x (cp _ hx)) (fun x hx=>by
   rcases nJ.1 hx with rfl|hx
   ·exact ht
   ·exact ha x hx) (y3 (fun u hu e=>hS _ _ (ha u hu) ht e) h)
  refine⟨h1,fun x=>?_⟩;rw[List.foldl_cons,h2,nJ,dx];constructor
  ·rintro((h|h)|h)
   ·exact .inr (.inl h)
   ·exact .inl h
   ·exact .inr (.inr h)
  ·rintro(h|h|h)
   ·exact .inl (.inr h)
   ·exact .inl (.inl h)
   ·exact .inr h
theorem xr.nodup {α:Type} {key:α→List UInt8} {l:List α} (h:xr key l):l.Nodup:=h.imp fun {a b} h e=>by subst e;exact iu _ h
abbrev Ho (t:Fd):Prop:=(0:UInt8)∉t.1
theorem tq {a b:Fd} (ha:Ho a) (hb:Ho b) (h:de a=de b):a=b:=by
 obtain⟨h1,h2⟩:=tj ha hb h;exact Prod.ext h1 h2
def cD (tl:List (Fd×Nat)):List Fd:=allBy de (tl.map (·.1))
theorem pA {tl:List (Fd×Nat)} (hz:∀p∈tl,Ho p.1):xr de (cD tl):=
 (pz (S:=Ho) (fun _ _=>tq) _ [] (fun x hx=>by obtain⟨p,hp,rfl⟩:=cF.1 hx;exact hz p hp) (fun x h=>by cases h) List.Pairwise.nil).1
theorem iR {tl:List (Fd×Nat)} (hz:∀p∈tl,Ho p.1) {t:Fd}:t∈cD tl↔t∈tl.map (·.1):=by
 have:=(pz (S:=Ho) (key:=de) (fun _ _=>tq) (tl.map (·.1)) [] (fun x hx=>by obtain⟨p,hp,rfl⟩:=cF.1 hx;exact hz p hp) (fun x h=>by cases h) List.Pairwise.nil).2 t;simpa[cD,allBy]using this
theorem B8 (t:Fd):∀(ts:List (Fd×Nat)) (l:List Fd),t∈ts.foldl (fun l p=>if p.1∈l then l else l++[p.1]) l↔t∈l∨t∈ts.map (·.1)
 |[],l=>by simp
 |p::ts,l=>by
  rw[List.foldl_cons,B8 t ts,ib,dx]
  split
  ·rename_i h
   constructor
   ·rintro(h1|h1)
    ·exact .inl h1
    ·exact .inr (.inr h1)
   ·rintro(h1|h1|h1)
    ·exact .inl h1
    ·exact .inl (by rw[h1];exact h)
    ·exact .inr h1
  ·rw[dm,cE];constructor
   ·rintro((h1|h1)|h1)
    ·exact .inl h1
    ·exact .inr (.inl h1)
    ·exact .inr (.inr h1)
   ·rintro(h1|h1|h1)
    ·exact .inl (.inl h1)
    ·exact .inl (.inr h1)
    ·exact .inr h1
theorem pB {tl:List (Fd×Nat)} {t:Fd}:t∈seen tl↔t∈tl.map (·.1):=by unfold seen;rw[B8];simp
theorem y4 {tl:List (Fd×Nat)} {us:List Fd} (hz:∀p∈tl,Ho p.1) (mL:us.Nodup) (ly:∀t,t∈us↔t∈seen tl) (Kz:FB us):us=cD tl:=by
 have hm:∀t,t∈us↔t∈cD tl:=fun t=>by rw[ly,pB,iR hz]
 have iK:∀t∈cD tl,Ho t:=fun t ht=>by obtain⟨p,hp,rfl⟩:=cF.1 ((iR hz).1 ht);exact hz p hp
 refine List.Perm.eq_of_pairwise (le:=fun a b=>¬compareBytes (de b) (de a)<0) (fun a b ha hb h1 h2=>?_) Kz ((pA hz).imp fun {a b} h h'=>iv h ((nv _ _).1 h')) ((List.perm_ext_iff_of_nodup mL (pA hz).nodup).2 hm);rw[nv]at h1 h2;rcases kB (de a) (de b)with h|h|h
 ·exact absurd h h2
 ·exact tq (iK a ((hm a).1 ha)) (iK b hb) h
 ·exact absurd h h1
theorem pC (a b:List (Fd×Nat)) (t:Fd):posOf (a++b) t=posOf a t++posOf b t:=by simp[posOf]
theorem FF {tl:List (Fd×Nat)} {t:Fd} (h:t∈tl.map (·.1)):posOf tl t≠[]:=by
 obtain⟨p,hp,rfl⟩:=cF.1 h;intro e;have:p∈tl.filter fun q=>decide (q.1=p.1):=List.mem_filter.2 ⟨hp,by simp⟩
 rw[List.map_eq_nil_iff.1 e]at this;cases this
theorem C4 {tl:List (Fd×Nat)} {t:Fd} (h:t∉tl.map (·.1)):posOf tl t=[]:=by
 unfold posOf;rw[List.filter_eq_nil_iff.2 fun p hp=>by simp;intro e;exact h (cF.2 ⟨p,hp,e⟩)];rfl
theorem y5 (x:Fd) (t:Fd):(posOf (fV x) t).Sublist ((List.range' 0 (words x.2).length).map fun(i:Nat)=>(i:Int)):=by
 have e:(fV x).map (fun p=>(p.2:Int))=(List.range' 0 (words x.2).length).map fun(i:Nat)=>(i:Int):=by
  rw[←List.zipIdx_map_snd 0 (words x.2),List.map_map];unfold fV;rw[List.map_map];rfl
 rw[←e];exact List.filter_sublist.map _
theorem C5 (x:Fd) (t:Fd):(posOf (fV x) t).Pairwise (· < ·)∧∀i∈posOf (fV x) t,0≤i∧i<(words x.2).length:=by
 refine⟨List.Pairwise.sublist (y5 x t) (dp.2 ((List.pairwise_lt_range' (s:=0) (n:=(words x.2).length)).imp fun h=>by omega)),fun i hi=>?_⟩;have:=(y5 x t).subset hi;obtain⟨k,hk,rfl⟩:=cF.1 this;have:=List.mem_range'_1.1 hk;omega
theorem vz {x:Fd} {p:Fd×Nat} (h:p∈fV x):p.1.1=x.1∧p.1.2∈words x.2:=by
 obtain⟨q,hq,rfl⟩:=cF.1 h;have:=List.mem_zipIdx hq;exact⟨rfl,by simp only;rw[this.2.2];exact List.getElem_mem _⟩
theorem vB {fs:List Fd} {p:Fd×Nat} (h:p∈b5 fs):∃x∈fs,p.1.1=x.1∧p.1.2∈words x.2:=by
 obtain⟨x,hx,hp⟩:=List.mem_flatMap.1 h;exact⟨x,hx,vz hp⟩
theorem tt {x t:Fd} (h:x.1≠t.1):posOf (fV x) t=[]:=C4 fun hm=>by
 obtain⟨p,hp,rfl⟩:=cF.1 hm;exact h (vz hp).1.symm
theorem vC {t:Fd}:∀{fs:List Fd},(∀x∈fs,x.1≠t.1)→posOf (b5 fs) t=[]
 |[],_=>rfl
 |x::fs,h=>by
  show posOf (fV x++b5 fs) t=[];rw[pC,tt (h x (bY ..)),vC fun y hy=>h y (cp _ hy)];rfl
theorem y6 {t:Fd}:∀{fs:List Fd},(fs.map (·.1)).Nodup→posOf (b5 fs) t=[]∨∃x∈fs,posOf (b5 fs) t=posOf (fV x) t
 |[],_=> .inl rfl
 |x::fs,h=>by
  have h':=rI.1 h;have e:posOf (b5 (x::fs)) t=posOf (fV x) t++posOf (b5 fs) t:=by show posOf (fV x++b5 fs) t=_;rw[pC]
  by_cases hx:x.1=t.1
  ·refine .inr ⟨x,bY ..,?_⟩;rw[e,vC fun y hy e=>h'.1 (by have h9:y.1∈fs.map (·.1):=fg hy;rw[e,←hx]at h9;exact h9),rH]
  ·rw[e,tt hx,jx];rcases y6 (t:=t) h'.2 with h1|⟨y,hy,h1⟩
   ·exact .inl h1
   ·exact .inr ⟨y,cp _ hy,h1⟩
theorem y7:∀{l:List Int} {last:Int},(∀x∈l,last<x)→l.Pairwise (· < ·)→eA last l=true
 |[],_,_,_=>rfl
 |x::l,last,h1,h2=>by
  have uc:=jk.1 h2;simp only[eA,bC,decide_eq_true_eq];exact⟨h1 x (bY ..),y7 uc.1 uc.2⟩
structure iB (d:Dc):Prop where
 names:∀f∈d.2,eM f.1=true
 once:(d.2.map (·.1)).Nodup
 toks:∀f∈d.2,j7 0 (words f.2)=0
 many:(b5 d.2).length≤500
 few:d.2.length≤8
theorem vD:∀{fs sn:List Fd} {n:Nat},ta sn fs n=0→(∀f∈fs,eM f.1=true∧j7 0 (words f.2)=0∧∀g∈sn,g.1≠f.1)∧(fs.map (·.1)).Nodup∧n+(b5 fs).length≤500
 |[],sn,n,h=>by
  refine⟨(fun f hf=>by cases hf),List.nodup_nil,?_⟩;simp only[ta]at h
  split at h
  ·cases h
  ·simp[b5];omega
 |f::fs,sn,n,h=>by
  simp only[ta]at h
  split at h
  ·cases h
  ·rename_i h1
   split at h
   ·cases h
   ·rename_i h2
    split at h
    ·exact absurd h (by assumption)
    ·rename_i h3
     obtain⟨h4,h5,h6⟩:=vD h;have h7:∀g∈sn,g.1≠f.1:=fun g hg e=>h2 (pQ.2 ⟨g,hg,by simp[e]⟩)
     refine⟨fun x hx=>?_,rI.2 ⟨fun hm=>?_,h5⟩,?_⟩
     ·rcases dx.1 hx with rfl|hx
      ·exact⟨by simpa using h1,by simpa using h3,h7⟩
      ·obtain⟨a,b,c⟩:=h4 x hx;exact⟨a,b,fun g hg=>c g (kF _ hg)⟩
     ·obtain⟨y,hy,e⟩:=cF.1 hm;exact(h4 y hy).2.2 f (List.mem_append_right _ (cE.2 rfl)) e.symm
     ·have:(b5 (f::fs)).length=(fV f).length+(b5 fs).length:=by show(fV f++b5 fs).length=_;rw[bL]
      rw[this,ll];omega
theorem B9 {d:Dc} (h:kn d=0):iB d:=by
 unfold kn at h
 split at h
 ·cases h
 ·obtain⟨h1,h2,h3⟩:=vD h;exact⟨fun f hf=>(h1 f hf).1,h2,fun f hf=>(h1 f hf).2.1,by omega,by omega⟩
theorem vE:∀{ws:List (List UInt8)} {i:Nat},j7 i ws=0→∀x∈ws,x.length≤30
 |[],_,_,x,hx=>by cases hx
 |a::ws,i,h,x,hx=>by
  simp only[j7]at h
  split at h
  ·cases h
  ·split at h
   ·cases h
   ·rcases dx.1 hx with rfl|hx
    ·omega
    ·exact vE h x hx
theorem FG {s:List UInt8} (h:eM s=true):(0:UInt8)∉s:=fun h0=>by
 simp only[eM,bC,eh]at h;have:=h.2 0 h0
 revert this;decide
theorem iB.Ip {d:Dc} (h:iB d):∀p∈b5 d.2,Ho p.1:=fun p hp=>by
 obtain⟨x,hx,h1,_⟩:=vB hp;show(0:UInt8)∉p.1.1;rw[h1];exact FG (h.names x hx)
theorem iB.small {d:Dc} (h:iB d):∀p∈b5 d.2,p.1.1.length≤12∧p.1.2.length≤30:=fun p hp=>by
 obtain⟨x,hx,h1,h2⟩:=vB hp;exact⟨by rw[h1];exact yL (h.names x hx),vE (h.toks x hx) _ h2⟩
theorem iB.pos {d:Dc} (h:iB d) (t:Fd):(posOf (b5 d.2) t).Pairwise (· < ·)∧(∀i∈posOf (b5 d.2) t,0≤i∧i<500)∧(posOf (b5 d.2) t).length≤500:=by
 have hl:=ql (b5 d.2) t;have hm:=h.many;rcases y6 (t:=t) h.once with h1|⟨x,hx,h1⟩
 ·rw[h1];exact⟨List.Pairwise.nil,(fun i hi=>by cases hi),by simp⟩
 ·obtain⟨h2,h3⟩:=C5 x t
  have uP:(words x.2).length≤500:=by
   have:(fV x).length≤(b5 d.2).length:=by
    obtain⟨i,hi⟩:=bO.1 hx;have:=oL hi
    have h5:(b5 (d.2.take (i+1))).length≤(b5 d.2).length:=by
     have:b5 d.2=b5 (d.2.take (i+1))++b5 (d.2.drop (i+1)):=by unfold b5;rw[←List.flatMap_append,List.take_append_drop]
     rw[this,bL];omega
    rw[this,bL]at h5;omega
   rw[ll]at this;omega
  rw[h1]at hl ⊢;exact⟨h2,fun i hi=>⟨(h3 i hi).1,by have:=(h3 i hi).2;omega⟩,by omega⟩
theorem iB.eA {d:Dc} (h:iB d) (t:Fd):lM (posOf (b5 d.2) t)=true:=by
 obtain⟨h1,h2,_⟩:=h.pos t;exact lN.2 ⟨y7 (fun x hx=>by have:=(h2 x hx).1;omega) h1,fun x hx=>by have:=(h2 x hx).2;omega⟩
abbrev oR (e:En):List (Fd×Nat):=b5 e.1.2
def AU (i:Nat) (tl:List (Fd×Nat)) (k:List UInt8):List Po:=((cD tl).filter fun t=>decide (de t=k)).map fun t=>((i:Int),posOf tl t)
def AV (k:List UInt8):Nat→List En→List Po
 |_,[]=>[]
 |i,e::L=>AU i (oR e) k++AV k (i+1) L
def pk (L:List En) (k:List UInt8):List Po:=AV k 0 L
theorem y8 (k:List UInt8) (e:En):∀(L:List En) (i:Nat),AV k i (L++[e])=AV k i L++AU (i+L.length) (oR e) k
 |[],i=>by simp[AV]
 |x::L,i=>by
  simp only[iG,AV,y8 k e L (i+1),List.append_assoc,cr];rw[show i+1+L.length=i+(L.length+1) by omega]
theorem Iq (L:List En) (e:En) (k:List UInt8):pk (L++[e]) k=pk L k++AU L.length (oR e) k:=by
 unfold pk;rw[y8];simp
def gA (L:List En):List (List UInt8):=L.flatMap fun e=>(cD (oR e)).map de
theorem AW (L:List En) (e:En):gA (L++[e])=gA L++(cD (oR e)).map de:=by simp[gA]
def keysOf (L:List En):List (List UInt8):=allBy id (gA L)
theorem jG (L:List En):xp (keysOf L):=(pz (key:=id) (S:=fun _=>True) (fun a b _ _ h=>h) _ [] (fun _ _=>trivial) (fun _ _=>trivial) List.Pairwise.nil).1
theorem kc {L:List En} {k:List UInt8}:k∈keysOf L↔k∈gA L:=by
 have:=(pz (key:=id) (S:=fun _=>True) (fun a b _ _ h=>h) (gA L) [] (fun _ _=>trivial) (fun _ _=>trivial) List.Pairwise.nil).2 k;simpa[keysOf,allBy]using this
theorem filter_one {α:Type} {key:α→List UInt8} {l:List α} (h:xr key l) (k:List UInt8):l.filter (fun t=>decide (key t=k))=[]∨∃t∈l,key t=k∧l.filter (fun t=>decide (key t=k))=[t]:=by
 have h1:xr key (l.filter fun t=>decide (key t=k)):=List.Pairwise.sublist List.filter_sublist h;have h2:∀x∈l.filter (fun t=>decide (key t=k)),x∈l∧key x=k:=fun x hx=>by simpa using List.mem_filter.1 hx
 revert h1 h2
 generalize l.filter (fun t=>decide (key t=k))=m;intro h1 h2
 match m,h1,h2 with
 |[],_,_=>exact .inl rfl
 |[t],_,h2=>exact .inr ⟨t,(h2 t (bY ..)).1,(h2 t (bY ..)).2,rfl⟩
 |t::u::m,h1,h2=>
  have:=(jk.1 h1).1 u (bY ..);rw[(h2 t (bY ..)).2,(h2 u (by simp)).2]at this;exact absurd this (iu k)
theorem Ca {d:Dc} (h:iB d) (i:Nat) (k:List UInt8):AU i (b5 d.2) k=[]∨∃t∈cD (b5 d.2),de t=k∧AU i (b5 d.2) k=[((i:Int),posOf (b5 d.2) t)]:=by
 rcases filter_one (pA h.Ip) k with h1|⟨t,ht,hk,h1⟩
 ·exact .inl (by unfold AU;rw[h1];rfl)
 ·exact .inr ⟨t,ht,hk,by unfold AU;rw[h1];rfl⟩
theorem LX {tl:List (Fd×Nat)} {i:Nat} {t:Fd} (h:t∈cD tl):AU i tl (de t)≠[]:=fun e=>by
 have:t∈(cD tl).filter fun u=>decide (de u=de t):=List.mem_filter.2 ⟨h,by simp⟩
 rw[List.map_eq_nil_iff.1 e]at this;cases this
theorem rD (k:List UInt8):∀(L:List En) (i:Nat) (last:Int),(∀e∈L,iB e.1)→last<i→i+L.length≤2147483648→dP last (AV k i L)=true
 |[],_,_,_,_,_=>rfl
 |e::L,i,last,hF,h1,h2=>by
  have hf:=hF e (bY ..);have hr:=fun last h=>rD k L (i+1) last (fun x hx=>hF x (cp _ hx)) h (by simp at h2;omega)
  simp only[AV];rcases Ca hf i k with h3|⟨t,ht,hk,h3⟩
  ·rw[show AU i (oR e) k=[]from h3];exact hr last (by omega)
  ·rw[show AU i (oR e) k=_ from h3]
   have eG:(posOf (b5 e.1.2) t).isEmpty=false:=by
    have:=FF ((iR hf.Ip).1 ht)
    cases h:posOf (b5 e.1.2) t with
    |nil=>exact absurd h this
    |cons a b=>rfl
   simp only[iG,jx,dP,eG,hf.eA t,hr i (by omega),ie,Bool.not_false,bC,decide_eq_true_eq];simp at h2;omega
theorem qm (k:List UInt8):∀(L:List En) (i:Nat),(∀e∈L,iB e.1)→(AV k i L).length≤L.length∧∀p∈AV k i L,(i:Int)≤p.1∧p.1<i+L.length∧p.2.length≤500
 |[],_,_=>⟨bj _,fun p h=>by cases h⟩
 |e::L,i,hF=>by
  have hf:=hF e (bY ..);obtain⟨h1,h2⟩:=qm k L (i+1) (fun x hx=>hF x (cp _ hx));simp only[AV,cr];rcases Ca hf i k with h3|⟨t,ht,hk,h3⟩
  ·rw[show AU i (oR e) k=[]from h3];exact⟨by simpa using Nat.le_succ_of_le h1,fun p hp=>by have:=h2 p (by simpa using hp);exact⟨by omega,by omega,this.2.2⟩⟩
  ·rw[show AU i (oR e) k=_ from h3];refine⟨by simp;omega,fun p hp=>?_⟩;rcases dx.1 hp with rfl|hp
   ·exact⟨Int.le_refl _,by simp only;omega,(hf.pos t).2.2⟩
   ·have:=h2 p (by simpa using hp);exact⟨by omega,by omega,this.2.2⟩
theorem qn:∀(l:List Po) (last:Int) (m:Nat),-1≤last→dP last l=true→(∀p∈l,p.2.length≤m)→m≤1000000→(dy last l).length≤(18+9*m)*l.length∧gu l≤m*l.length
 |[],_,_,_,_,_,_=>⟨by simp[dy],by simp[gu]⟩
 |(d,ps)::l,last,m,h0,hm,hs,hmm=>by
  simp only[dP,bC,decide_eq_true_eq]at hm;obtain⟨⟨⟨⟨h1,h2⟩,h3⟩,h4⟩,h5⟩:=hm;obtain⟨h6,h7⟩:=lN.1 h4;have ri:=hs _ (bY ..);simp only at ri;obtain⟨i1,i2⟩:=qn l d m (by omega) h5 (fun p hp=>hs p (cp _ hp)) hmm;have a1:=sf ps (-1) (by omega) (fun x hx=>by have:=h7 x hx;omega) h6;have a3:=jc (n:=(d-last-1).toNat) (by omega);have a4:=jc (n:=ps.length) (by omega);have e1:9*ps.length≤9*m:=by omega
  constructor
  ·simp only[dy,dJ,bL,cr,Nat.mul_add,Nat.mul_one];omega
  ·simp only[gu,ib,List.sum_cons,cr]at i2 ⊢;rw[Int.natCast_add,Int.mul_add];omega
theorem FH {k:List UInt8}:∀{L:List En} (i:Nat),k∈gA L→AV k i L≠[]
 |[],_,h=>by cases h
 |e::L,i,h=>by
  simp only[AV];intro hn;obtain⟨h1,h2⟩:=List.append_eq_nil_iff.1 hn;have h:k∈(cD (oR e)).map de++gA L:=h;rcases dm.1 h with h|h
  ·obtain⟨t,ht,rfl⟩:=cF.1 h;exact LX ht h1
  ·exact FH (i+1) h h2
theorem Cb {k:List UInt8}:∀{L:List En} (i:Nat),k∉gA L→AV k i L=[]
 |[],_,_=>rfl
 |e::L,i,h=>by
  have h:k∉(cD (oR e)).map de++gA L:=h;rw[dm,not_or]at h;simp only[AV];rw[Cb (i+1) h.2,rH];unfold AU;rw[List.filter_eq_nil_iff.2 fun t ht=>by simp;intro e';exact h.1 (cF.2 ⟨t,ht,e'⟩)];rfl
end Go.K
namespace Go.K
def RT.ptr {α:Type} (A:RT α) (hn:0<A.n:=by decide):RT α where
 n:=1
 agg:=false
 R:=fun M w x vs=>∃b o us,vs=[.pointer (some ⟨b,o,none⟩)]∧¬M b∧A.R M w x us∧w.rangeAt b o us
 len:=by rintro _ _ x vs ⟨b,o,us,rfl,_⟩;rfl
 one:=by rintro _ _ x vs ⟨b,o,us,rfl,_⟩ v hv;simp at hv;subst hv;rfl
 le:=by
  rintro M w M' w' x vs hl ⟨b,o,us,h1,h2,h3,h4⟩;have hp:0<us.length:=by rw[A.len h3];exact hn
  have hc:=h4 0 (us[0]'hp) (aL hp);exact⟨b,o,us,h1,(hl b (World.block_lt_of_cell? w _ hc) h2).1,A.le hl h3,oy hl h2 h4⟩
theorem Cc {α:Type} {A:RT α} {hn:0<A.n} {M:aA} {w:World} {x:α} {v:Value}:(A.ptr hn).V M w x v↔ch A M w v x:=
 ⟨fun⟨vs,⟨b,o,us,h1,h2,h3,h4⟩,h5⟩=>⟨b,o,us,by subst h1;exact h5,h2,h3,h4⟩,fun⟨b,o,us,h1,h2,h3,h4⟩=>⟨[v],⟨b,o,us,by rw[h1],h2,h3,h4⟩,rfl⟩⟩
abbrev Di:=List (List UInt8)×List Li
abbrev Se:=List Int×List Int×Di
abbrev RT.di:RT Di:=RT.pair (RT.str.sl) (((RT.li).ptr).sl)
abbrev RT.se:RT Se:=RT.pair ((RT.int .i64).sl) (RT.pair ((RT.int .i64).sl) ((RT.di).ptr))
theorem SA:Part RT.di (RT.str.sl) (fun p=>p.1) 0:=kj _ _
theorem di1:Part RT.di (((RT.li).ptr).sl) (fun p=>p.2) 1:=fI _ _
theorem se0:Part RT.se ((RT.int .i64).sl) (fun p=>p.1) 0:=kj _ _
theorem se1:Part RT.se ((RT.int .i64).sl) (fun p=>p.2.1) 1:=(fI ((RT.int .i64).sl) (RT.pair ((RT.int .i64).sl) ((RT.di).ptr))).trans (kj _ _)
theorem se2:Part RT.se ((RT.di).ptr) (fun p=>p.2.2) 2:=(fI ((RT.int .i64).sl) (RT.pair ((RT.int .i64).sl) ((RT.di).ptr))).trans (fI ((RT.int .i64).sl) ((RT.di).ptr))
abbrev Pa:=List Int×List Int×List (List UInt8)×List (List Po)
abbrev RT.pa:RT Pa:=RT.pair ((RT.int .i64).sl) (RT.pair ((RT.int .i64).sl) (RT.pair (RT.str.sl) (((RT.po).sl).sl)))
theorem ZH:Part RT.pa ((RT.int .i64).sl) (fun p=>p.1) 0:=kj _ _
theorem VF:Part RT.pa ((RT.int .i64).sl) (fun p=>p.2.1) 1:=(fI ((RT.int .i64).sl) (RT.pair ((RT.int .i64).sl) (RT.pair (RT.str.sl) (((RT.po).sl).sl)))).trans (kj _ _)
theorem pa2:Part RT.pa (RT.str.sl) (fun p=>p.2.2.1) 2:=((fI ((RT.int .i64).sl) (RT.pair ((RT.int .i64).sl) (RT.pair (RT.str.sl) (((RT.po).sl).sl)))).trans (fI ((RT.int .i64).sl) (RT.pair (RT.str.sl) (((RT.po).sl).sl)))).trans (kj _ _)
theorem pa3:Part RT.pa (((RT.po).sl).sl) (fun p=>p.2.2.2) 3:=((fI ((RT.int .i64).sl) (RT.pair ((RT.int .i64).sl) (RT.pair (RT.str.sl) (((RT.po).sl).sl)))).trans (fI ((RT.int .i64).sl) (RT.pair (RT.str.sl) (((RT.po).sl).sl)))).trans (fI _ _)
theorem VG {M:aA} {w:World} {x:Se} {a b c:Value} (h0:((RT.int .i64).sl).V M w x.1 a) (h1:((RT.int .i64).sl).V M w x.2.1 b) (h2:ch RT.di M w c x.2.2):RT.se.V M w x (.agg [a,b,c].toArray):=
 ⟨[a,b,c],⟨[a],[b,c],rfl,j3 h0 rfl rfl,[b],[c],rfl,j3 h1 rfl rfl,j3 (Cc.2 h2) rfl rfl⟩,rfl⟩
theorem VH {M:aA} {w:World} {x:Pa} {a b c d:Value} (h0:((RT.int .i64).sl).V M w x.1 a) (h1:((RT.int .i64).sl).V M w x.2.1 b) (h2:(RT.str.sl).V M w x.2.2.1 c) (h3:(((RT.po).sl).sl).V M w x.2.2.2 d):RT.pa.V M w x (.agg [a,b,c,d].toArray):=
 ⟨[a,b,c,d],⟨[a],[b,c,d],rfl,j3 h0 rfl rfl,[b],[c,d],rfl,j3 h1 rfl rfl,[c],[d],rfl,j3 h2 rfl rfl,j3 h3 rfl rfl⟩,rfl⟩
theorem AX {α:Type} {A:RT α} (hg:A.agg=true) {M:aA} {w:World} {x:α} {vs:List Value} (h:A.V M w x (.agg vs.toArray)):∀u∈vs,u.oneCell'=true:=by
 obtain⟨us,h1,h2⟩:=h
 have:vs=us:=by
  unfold RT.val at h2;rw[if_pos hg]at h2;injection h2 with h2
  simpa using congrArg Array.toList h2
 subst this;exact A.one h1
theorem eo.free {α:Type} {A:RT α} (hA:∀M w M' w' x vs,A.R M w x vs→A.R M' w' x vs) {M M':aA} {w w':World}:∀{xs:List α} {C:List Value},eo A M w xs C→eo A M' w' xs C
 |[],_,h=>h
 |x::xs,C,h=>by
  obtain⟨vs,r,h1,h2,h3⟩:=h;exact⟨vs,r,h1,hA _ _ _ _ _ _ h2,eo.free hA h3⟩
theorem Own.tell {α:Type} {A:RT α} {hn:0<A.n} (hA:∀M w M' w' x vs,A.R M w x vs→A.R M' w' x vs) {e:TypeId} {M M0:aA} {w:World} {base:Nat} {v:Value} {xs:List α} (h:Own A e M w base v xs) (hb:∀b,v.ownBlock=some b→¬M0 b) (hlen:xs.length≤140737488355328):(A.sl hn).V M0 w xs v:=by
 obtain⟨⟨C,hr,ha⟩,hm⟩:=h;have h':Own A e (fun b=>v.ownBlock=some b∨M0 b) w base v xs:=⟨⟨C,hr,eo.free hA ha⟩,fun b hb=> .inl hb⟩;exact h'.sl (fun b _ hn=>⟨fun h=>hn (.inr h),rfl⟩) hb hlen
end Go.K
namespace Go.K
open Go.Maps (Keyed)
section
variable {P:Program} {r:Option Nat} {n:Nat} {L:Sl} {ds:List Deferred} {w:World} {K:Kt} {ops:Array Oper} {rest:List Oper} {d:Nat} {x y z:Operand} {ty:TypeId} {pos:String} {af:Array Edge}
variable {kt:TypeId} {M:aA} {b clock:Nat} {es:List MapEntry}
theorem eu.LY (h:eu P kt w b es clock) {i s:Nat} {key v0 val:Value} (hi:es[i]? =some ⟨key,v0,s⟩) {w':World} (hw:w'.heap[b]? =some (.map (es.set i ⟨key,val,s⟩).toArray clock)):
  eu P kt w' b (es.set i ⟨key,val,s⟩) clock∧(es.set i ⟨key,val,s⟩).map (·.key)=es.map (·.key)∧∀zv gy v',dE zv (es.set i ⟨key,val,s⟩) gy v'↔(gy=key∧v'=val)∨(gy≠key∧dE zv es gy v'):=by
 have my:=(av.1 hi).1;have ly:(⟨key,v0,s⟩:MapEntry)∈es:=aM hi;obtain⟨mi,qj⟩:∃mi,mi=es.set i ⟨key,val,s⟩:=⟨_,rfl⟩;rw[←qj]at hw ⊢
 have fT:∀j e',mi[j]? =some e'→(j=i∧e'=⟨key,val,s⟩)∨(j≠i∧es[j]? =some e'):=fun j e' hj=>by
  rw[qj,dK]at hj
  split at hj
  ·rename_i gq
   left;exact⟨gq.symm,by simpa[my]using hj.symm⟩
  ·rename_i gq
   exact .inr ⟨fun e=>gq e.symm,hj⟩
 have mj:mi.map (·.key)=es.map (·.key):=by
  rw[qj,List.map_set];apply ki;intro j;rw[dK]
  split
  ·rename_i gq
   subst gq;have e:=(av.1 hi).2;simp[my,e]
  ·rfl
 have Fm:mi.map (·.born)=es.map (·.born):=by
  rw[qj,List.map_set];apply ki;intro j;rw[dK]
  split
  ·rename_i gq
   subst gq;have e:=(av.1 hi).2;simp[my,e]
  ·rfl
 have ef:∀e'∈mi,(e'=⟨key,val,s⟩)∨(e'∈es∧e'.key≠key):=fun e' nr=>by
  obtain⟨j,hj⟩:=bO.1 nr;rcases fT j e' hj with⟨_,e⟩|⟨eG,pZ⟩
  ·exact .inl e
  ·refine .inr ⟨aM pZ,fun e=>eG ?_⟩;rcases gU j i with h1|h1|h1
   ·exact absurd e (fH h.keys pZ hi h1)
   ·exact h1
   ·exact absurd e.symm (fH h.keys hi pZ h1)
 have Fo:(⟨key,val,s⟩:MapEntry)∈mi:=aM (i:=i) (by rw[qj,dK];simp[my])
 have hold:∀e'∈es,e'.key≠key→e'∈mi:=fun e' nr eG=>by
  obtain⟨j,hj⟩:=bO.1 nr;refine aM (i:=j) ?_;rw[qj,dK,if_neg]
  ·exact hj
  ·rintro rfl;rw[hi]at hj;cases hj;exact eG rfl
 refine⟨⟨hw,?_,fun e' nr=>?_,?_,fun e' nr=>?_⟩,mj,fun zv gy v'=>?_⟩
 ·have:=dp.2 h.born;rw[←Fm]at this;exact dp.1 this
 ·rcases ef e' nr with e|⟨h1,_⟩
  ·rw[e];exact(h.lt _ ly:s<clock)
  ·exact h.lt _ h1
 ·have:=dp.2 h.keys;rw[←mj]at this;exact dp.1 this
 ·rcases ef e' nr with e|⟨h1,_⟩
  ·rw[e];exact(h.ok _ ly:∃l,keyOf P kt key=some l)
  ·exact h.ok _ h1
 ·constructor
  ·rintro(⟨e',nr,hk,hv⟩|⟨h1,h2⟩)
   ·rcases ef e' nr with e|⟨h3,h4⟩
    ·subst e;exact .inl ⟨hk.symm,hv⟩
    ·exact .inr ⟨by rw[←hk];exact h4,.inl ⟨e',h3,hk,hv⟩⟩
   ·have eG:gy≠key:=fun e=>h1 _ Fo e.symm
    exact .inr ⟨eG,.inr ⟨fun e' nr=>fun e=>by
     by_cases h5:e'.key=key
     ·exact eG (e.symm.trans h5)
     ·exact h1 e' (hold e' nr h5) e,h2⟩⟩
  ·rintro(⟨rfl,rfl⟩|⟨eG,⟨e',nr,hk,hv⟩|⟨h1,h2⟩⟩)
   ·exact .inl ⟨_,Fo,rfl,rfl⟩
   ·exact .inl ⟨e',hold e' nr (by rw[hk];exact eG),hk,hv⟩
   ·exact .inr ⟨fun e' nr=>by
     rcases ef e' nr with e|⟨h3,_⟩
     ·rw[e];exact fun e=>eG e.symm
     ·exact h1 e' h3,h2⟩
theorem dE.put {key val:Value} {s:Nat} (hn:∀e∈es,e.key≠key) (zv gy v':Value):dE zv (es++[⟨key,val,s⟩]) gy v'↔(gy=key∧v'=val)∨(gy≠key∧dE zv es gy v'):=by
 constructor
 ·rintro(⟨e,he,hk,hv⟩|⟨h1,h2⟩)
  ·rcases dm.1 he with he|he
   ·exact .inr ⟨by rw[←hk];exact hn e he,.inl ⟨e,he,hk,hv⟩⟩
   ·obtain rfl:=cE.1 he;exact .inl ⟨hk.symm,hv⟩
  ·exact .inr ⟨fun e=>h1 ⟨key,val,s⟩ (by simp) e.symm,.inr ⟨fun e he=>h1 e (kF _ he),h2⟩⟩
 ·rintro(⟨rfl,rfl⟩|⟨eG,⟨e,he,hk,hv⟩|⟨h1,h2⟩⟩)
  ·exact .inl ⟨⟨_,_,s⟩,by simp,rfl,rfl⟩
  ·exact .inl ⟨e,kF _ he,hk,hv⟩
  ·refine .inr ⟨fun e he=>?_,h2⟩;rcases dm.1 he with he|he
   ·exact h1 e he
   ·obtain rfl:=cE.1 he;exact fun e=>eG e.symm
theorem Rg.Ir {t e:TypeId} {key val:Value} {kl:Lit} (ht:P.underlying t=some (.map kt e)) (Kk:Keyed P kt) (hx:ev L x=some (.map (some b))) (hy:ev L y=some key) (hz:ev L z=some val) (jt:keyOf P kt key=some kl) (h:eu P kt w b es clock) (hm:M b)
  (k:∀w' mi AJ,eu P kt w' b mi AJ→((mi.map (·.key)=es.map (·.key)∧∃e∈es,e.key=key)∨(mi.map (·.key)=es.map (·.key)++[key]∧∀e∈es,e.key≠key))→(∀zv gy v',dE zv mi gy v'↔(gy=key∧v'=val)∨(gy≠key∧dE zv es gy v'))→Step M w M w' (fun k=>k=b)→Rg P r n ops rest L ds w' K):
  Rg P r n ops ({dst:=none,op:= .mapUpdate t x y z,type:=ty,pos,after:=af,guard:=none}::rest) L ds w K:=by
 have dB:=ak h.at_;rcases Kk.find w jt es h.ok with⟨h1,h2⟩|⟨j,e0,h1,h2,h3⟩
 ·have hw:({w with heap:=w.heap.setIfInBounds b (.map (es.toArray.push ⟨key,val,clock⟩) (clock+1))}:World).heap[b]? =some (.map (es++([⟨key,val,clock⟩]:List MapEntry)).toArray (clock+1)):=by
   simp[cJ,dB]
  refine .N9 (fun _ h=>by cases h) rfl rfl _ (fun ρ hρ=>?_) (k _ _ _ (h.push jt h2 hw) (Or.inr ⟨by simp,h2⟩) (dE.put h2) (gv M hm));simp only[execOp,hρ x _ hx,hρ y _ hy,hρ z _ hz,Instr.mapUpdate,cQ,run_underlying ht,du,cY h.at_,Kk.check w false jt,h1,run_setObj_map h.at_];simp
 ·have he:e0∈es:=aM h2;obtain⟨k0,v0,s0⟩:=e0;simp only at h3;subst h3;have hj:es.toArray[j]? =some ⟨k0,v0,s0⟩:=by simpa using h2
  have Fl:es.toArray.modify j (fun e=>{e with key:=k0,val:=val})=(es.set j ⟨k0,val,s0⟩).toArray:=by
   apply Array.ext_getElem?;intro i;rw[pM];simp only[jN,dK]
   split
   ·rename_i PX
    subst PX;have:=(av.1 h2).1;rw[h2];simp[this]
   ·rfl
  have hw:({w with heap:=w.heap.setIfInBounds b (.map (es.set j ⟨k0,val,s0⟩).toArray clock)}:World).heap[b]? =some (.map (es.set j ⟨k0,val,s0⟩).toArray clock):=by simp[cJ,dB]
  obtain⟨hW,pP,nZ⟩:=h.LY h2 hw
  have iz:(Instr.keyThatStays ((Option.map (fun(e:MapEntry)=>e.key) es.toArray[j]?).getD k0) k0).run P w= .ok k0 w:=by
   rw[hj];simp only[fq,Option.getD_some];exact Kk.stays w jt
  refine .N9 (fun _ h=>by cases h) rfl rfl _ (fun ρ hρ=>?_) (k _ _ clock hW (Or.inl ⟨pP,_,he,rfl⟩) nZ (gv M hm));simp only[execOp,hρ x _ hx,hρ y _ hy,hρ z _ hz,Instr.mapUpdate,cQ,run_underlying ht,du,cY h.at_,Kk.check w false jt,h1,iz,Fl,run_setObj_map h.at_];simp
theorem y9 {t e:TypeId} {zv key:Value} {size bytes:Nat} {kl:Lit} (ht:P.underlying t=some (.map kt e)) (Kk:Keyed P kt) (hi:TI P e zv size bytes) (jt:keyOf P kt key=some kl) (h:eu P kt w b es clock):
  ∃v,dE zv es key v∧∀(w:World) (ρ:Operand→Value) (dst:Option Tmp) (gd:Option (Nat×Bool)),ρ x= .map (some b)→ρ y=key→eu P kt w b es clock→(execOp ρ {dst,op:= .lookup t x y false,type:=ty,pos,after:=af,guard:=gd}).run P w= .ok (.value v) w:=by
 rcases Kk.find w jt es h.ok with⟨h1,h2⟩|⟨j,e0,h1,h2,h3⟩
 ·refine⟨zv,Or.inr ⟨h2,rfl⟩,fun w ρ dst gd hx hy h=>?_⟩;obtain⟨inf,i1,i2,_,_⟩:=hi.get;have hz:(zeroValue e).run P w= .ok zv w:=by simp[zeroValue,typeInfo,i1,i2]
  rcases Kk.find w jt es h.ok with⟨h1,_⟩|⟨j,e0,_,g2,g3⟩
  ·simp only[execOp,hx,hy,Instr.lookup,cQ,run_underlying ht,du,cY h.at_,Sem.run_pure,Kk.check w _ jt,h1,hz];simp
  ·exact absurd g3 (h2 e0 (aM g2))
 ·refine⟨e0.val,Or.inl ⟨e0,aM h2,h3,rfl⟩,fun w ρ dst gd hx hy h=>?_⟩;rcases Kk.find w jt es h.ok with⟨_,g2⟩|⟨j',e1,g1,g2,g3⟩
  ·exact absurd h3 (g2 e0 (aM h2))
  ·have:e1=e0:=h.B1 (aM g2) (aM h2) (g3.trans h3.symm);subst this;simp only[execOp,hx,hy,Instr.lookup,cQ,run_underlying ht,du,cY h.at_,Sem.run_pure,Kk.check w _ jt,g1];simp
theorem bR.pw {N:aA} {t e:TypeId} {zv key:Value} {size bytes:Nat} {kl:Lit} {dst:Option Tmp} {gd:Option (Nat×Bool)} (ht:P.underlying t=some (.map kt e)) (Kk:Keyed P kt) (hi:TI P e zv size bytes) (hx:ev L x=some (.map (some b))) (hy:ev L y=some key) (jt:keyOf P kt key=some kl) (h:eu P kt w b es clock) (hn: ¬N b):
  bR P N w L {dst,op:= .lookup t x y false,type:=ty,pos,after:=af,guard:=gd}:=fun ρ hρ v w' hk hr=>by
 obtain⟨v0,_,fS⟩:=y9 (x:=x) (y:=y) (ty:=ty) (pos:=pos) (af:=af) ht Kk hi jt h;have h':eu P kt w' b es clock:=⟨(hk.2 b (ak h.at_) hn).trans h.at_,h.born,h.lt,h.keys,h.ok⟩;rw[fS w ρ dst gd (hρ x _ hx) (hρ y _ hy) h]at hr;rw[fS w' ρ dst gd (hρ x _ hx) (hρ y _ hy) h'];injection hr with h1 h2
 rw[h1]
end
end Go.K
namespace Go.Proofs
open Go.Shelf
def Tryz.vF:Go.Shelf.Ren:=⟨fun|7=>62|10=>114|n=>n,fun|23=>100|26=>3|3=>109|28=>116|0=>0|27=>115|33=>158|4=>4|n=>n,fun|n=>n⟩
theorem Tryz.Qb:Go.Proofs.SlLaysZI.n7 Tryz.prog Tryz.vF:={
 mixed:=by kernel_rfl
 f7:=⟨Tryz.f62.name,by decide,Tryz.func62.trans (congrArg some (by kernel_rfl))⟩
 f10:=⟨Tryz.f114.name,by decide,Tryz.func114.trans (congrArg some (by kernel_rfl))⟩
 t0:=gH
 a0:=rE
 z0:=oh
 v0:=iH
 t4:=jy
 a4:=Tryz.isAgg4
 z4:=Tryz.sizeOf4
 v4:=oS
 t23:=Tryz.underlying100
 a23:=Tryz.isAgg100
 z23:=Tryz.sizeOf100
 v23:=Tryz.zeroValue100
 t26:=ar
 a26:=rF
 z26:=om
 v26:=iI
 t27:=Tryz.underlying115
 a27:=Tryz.isAgg115
 z27:=Tryz.sizeOf115
 v27:=Tryz.zeroValue115
 t28:=Tryz.underlying116
 a28:=Tryz.isAgg116
 z28:=Tryz.sizeOf116
 v28:=Tryz.zeroValue116
 t33:=Tryz.underlying158
 a33:=Tryz.isAgg158
 z33:=Tryz.sizeOf158
 v33:=Tryz.zeroValue158}
def Tryz.qS:Go.Shelf.Ren:=⟨fun|6=>61|8=>71|9=>113|11=>121|13=>166|12=>165|23=>210|24=>211|14=>202|15=>203|16=>204|17=>205|18=>206|19=>207|20=>118|21=>208|22=>209|25=>245|26=>246|27=>247|28=>248|29=>249|30=>168|31=>273|n=>n,fun|26=>3|28=>116|24=>32|0=>0|3=>3|37=>183|48=>273|50=>165|4=>4|40=>267|39=>266|45=>121|5=>5|9=>9|51=>295|55=>299|57=>327|58=>305|33=>158|n=>n,fun|n=>n⟩
theorem Tryz.Is:Go.Proofs.SlLaysZI.n6 Tryz.prog Tryz.qS:={
 mixed:=by kernel_rfl
 f6:=⟨Tryz.f61.name,by decide,Tryz.func61.trans (congrArg some (by kernel_rfl))⟩
 f8:=⟨Tryz.f71.name,by decide,Tryz.func71.trans (congrArg some (by kernel_rfl))⟩
 f11:=⟨Tryz.f121.name,by decide,Tryz.func121.trans (congrArg some (by kernel_rfl))⟩
 t0:=gH
 a0:=rE
 z0:=oh
 v0:=iH
 t24:=au
 a24:=Tryz.isAgg32
 z24:=Tryz.sizeOf32
 v24:=Tryz.zeroValue32
 t26:=ar
 a26:=rF
 z26:=om
 v26:=iI
 t28:=Tryz.underlying116
 a28:=Tryz.isAgg116
 z28:=Tryz.sizeOf116
 v28:=Tryz.zeroValue116
 i26:=by kernel_rfl}
def Tryz.C6:Go.Shelf.Ren:=⟨fun|5=>113|8=>166|7=>165|19=>210|20=>211|10=>202|11=>203|12=>204|13=>205|14=>206|15=>207|16=>118|17=>208|18=>209|30=>245|31=>246|32=>247|33=>248|34=>249|35=>168|40=>273|n=>n,fun|23=>32|25=>3|3=>3|32=>183|22=>32|0=>0|44=>273|46=>165|4=>4|36=>267|35=>266|41=>121|5=>5|9=>9|53=>295|57=>299|63=>327|64=>305|n=>n,fun|n=>n⟩
theorem Tryz.JR:Go.Proofs.SlLaysM.n5 Tryz.prog Tryz.C6:={
 mixed:=by kernel_rfl
 f5:=⟨Tryz.f113.name,by decide,Tryz.func113.trans (congrArg some (by kernel_rfl))⟩
 f7:=⟨Tryz.f165.name,by decide,Tryz.func165.trans (congrArg some (by kernel_rfl))⟩
 f8:=Tryz.func166.trans (congrArg some (by kernel_rfl))
 f10:=⟨Tryz.f202.name,by decide,Tryz.func202.trans (congrArg some (by kernel_rfl))⟩
 f11:=⟨Tryz.f203.name,by decide,Tryz.func203.trans (congrArg some (by kernel_rfl))⟩
 f12:=⟨Tryz.f204.name,by decide,Tryz.func204.trans (congrArg some (by kernel_rfl))⟩
 f13:=⟨Tryz.f205.name,by decide,Tryz.func205.trans (congrArg some (by kernel_rfl))⟩
 f14:=⟨Tryz.f206.name,by decide,Tryz.func206.trans (congrArg some (by kernel_rfl))⟩
 f15:=⟨Tryz.f207.name,by decide,Tryz.func207.trans (congrArg some (by kernel_rfl))⟩
 f16:=⟨Tryz.f118.name,by decide,Tryz.func118.trans (congrArg some (by kernel_rfl))⟩
 f17:=⟨Tryz.f208.name,by decide,Tryz.func208.trans (congrArg some (by kernel_rfl))⟩
 f18:=⟨Tryz.f209.name,by decide,Tryz.func209.trans (congrArg some (by kernel_rfl))⟩
 f19:=Tryz.func210.trans (congrArg some (by kernel_rfl))
 f20:=Tryz.func211.trans (congrArg some (by kernel_rfl))
 f30:=⟨Tryz.f245.name,by decide,Tryz.func245.trans (congrArg some (by kernel_rfl))⟩
 f31:=Tryz.func246.trans (congrArg some (by kernel_rfl))
 f32:=Tryz.func247.trans (congrArg some (by kernel_rfl))
 f33:=⟨Tryz.f248.name,by decide,Tryz.func248.trans (congrArg some (by kernel_rfl))⟩
 f34:=⟨Tryz.f249.name,by decide,Tryz.func249.trans (congrArg some (by kernel_rfl))⟩
 f35:=⟨Tryz.f168.name,by decide,Tryz.func168.trans (congrArg some (by kernel_rfl))⟩
 f40:=⟨Tryz.f273.name,by decide,Tryz.func273.trans (congrArg some (by kernel_rfl))⟩
 t0:=gH
 a0:=rE
 z0:=oh
 v0:=iH
 t3:=ar
 a3:=rF
 z3:=om
 v3:=iI
 t4:=jy
 a4:=Tryz.isAgg4
 z4:=Tryz.sizeOf4
 v4:=oS
 t5:=b4
 a5:=Tryz.isAgg5
 z5:=Tryz.sizeOf5
 v5:=Tryz.zeroValue5
 t9:=aD
 a9:=rG
 z9:=ot
 v9:=iJ
 t22:=au
 a22:=Tryz.isAgg32
 z22:=Tryz.sizeOf32
 v22:=Tryz.zeroValue32
 t23:=au
 a23:=Tryz.isAgg32
 z23:=Tryz.sizeOf32
 v23:=Tryz.zeroValue32
 t25:=ar
 a25:=rF
 z25:=om
 v25:=iI
 t32:=Tryz.underlying183
 a32:=Tryz.isAgg183
 z32:=Tryz.sizeOf183
 v32:=Tryz.zeroValue183
 t35:=Tryz.underlying266
 a35:=Tryz.isAgg266
 z35:=Tryz.sizeOf266
 v35:=Tryz.zeroValue266
 t36:=Tryz.underlying267
 a36:=Tryz.isAgg267
 z36:=Tryz.sizeOf267
 v36:=Tryz.zeroValue267
 t41:=Tryz.underlying121
 a41:=Tryz.isAgg121
 z41:=Tryz.sizeOf121
 v41:=Tryz.zeroValue121
 t44:=Tryz.underlying273
 a44:=Tryz.isAgg273
 z44:=Tryz.sizeOf273
 v44:=Tryz.zeroValue273
 t46:=gI
 a46:=Tryz.isAgg165
 z46:=Tryz.sizeOf165
 v46:=Tryz.zeroValue165
 t53:=Tryz.underlying295
 a53:=Tryz.isAgg295
 z53:=Tryz.sizeOf295
 v53:=Tryz.zeroValue295
 t57:=Tryz.underlying299
 a57:=Tryz.isAgg299
 z57:=Tryz.sizeOf299
 v57:=Tryz.zeroValue299
 t63:=Tryz.underlying327
 a63:=Tryz.isAgg327
 z63:=Tryz.sizeOf327
 v63:=Tryz.zeroValue327
 t64:=Tryz.underlying305
 a64:=Tryz.isAgg305
 z64:=Tryz.sizeOf305
 v64:=Tryz.zeroValue305}
def Tryz.vG:Go.Shelf.Ren:=⟨fun|7=>112|10=>164|n=>n,fun|23=>167|26=>9|3=>107|28=>178|0=>0|27=>177|33=>182|4=>4|n=>n,fun|n=>n⟩
theorem Tryz.Cd:Go.Proofs.SlLaysZ.n7 Tryz.prog Tryz.vG:={
 mixed:=by kernel_rfl
 f7:=⟨Tryz.f112.name,by decide,Tryz.func112.trans (congrArg some (by kernel_rfl))⟩
 f10:=⟨Tryz.f164.name,by decide,Tryz.func164.trans (congrArg some (by kernel_rfl))⟩
 t0:=gH
 a0:=rE
 z0:=oh
 v0:=iH
 t4:=jy
 a4:=Tryz.isAgg4
 z4:=Tryz.sizeOf4
 v4:=oS
 t23:=fP
 a23:=Tryz.isAgg167
 z23:=Tryz.sizeOf167
 v23:=Tryz.zeroValue167
 t26:=aD
 a26:=rG
 z26:=ot
 v26:=iJ
 t27:=Tryz.underlying177
 a27:=Tryz.isAgg177
 z27:=Tryz.sizeOf177
 v27:=Tryz.zeroValue177
 t28:=Tryz.underlying178
 a28:=Tryz.isAgg178
 z28:=Tryz.sizeOf178
 v28:=Tryz.zeroValue178
 t33:=Tryz.underlying182
 a33:=Tryz.isAgg182
 z33:=Tryz.sizeOf182
 v33:=Tryz.zeroValue182}
def Tryz.qT:Go.Shelf.Ren:=⟨fun|6=>111|8=>162|9=>163|11=>200|13=>166|12=>201|23=>210|24=>211|14=>236|15=>237|16=>238|17=>239|18=>240|19=>241|20=>242|21=>243|22=>244|25=>269|26=>246|27=>247|28=>270|29=>271|30=>272|31=>284|n=>n,fun|26=>9|28=>178|24=>55|0=>0|3=>3|37=>183|48=>273|50=>165|4=>4|40=>267|39=>266|45=>121|5=>5|9=>9|51=>295|55=>299|57=>327|58=>305|33=>182|n=>n,fun|n=>n⟩
theorem Tryz.It:Go.Proofs.SlLaysZ.n6 Tryz.prog Tryz.qT:={
 mixed:=by kernel_rfl
 f6:=⟨Tryz.f111.name,by decide,Tryz.func111.trans (congrArg some (by kernel_rfl))⟩
 f8:=⟨Tryz.f162.name,by decide,Tryz.func162.trans (congrArg some (by kernel_rfl))⟩
 f11:=⟨Tryz.f200.name,by decide,Tryz.func200.trans (congrArg some (by kernel_rfl))⟩
 t0:=gH
 a0:=rE
 z0:=oh
 v0:=iH
 t24:=bg
 a24:=Tryz.isAgg55
 z24:=Tryz.sizeOf55
 v24:=Tryz.zeroValue55
 t26:=aD
 a26:=rG
 z26:=ot
 v26:=iJ
 t28:=Tryz.underlying178
 a28:=Tryz.isAgg178
 z28:=Tryz.sizeOf178
 v28:=Tryz.zeroValue178
 i26:=by kernel_rfl}
def Tryz.C7:Go.Shelf.Ren:=⟨fun|6=>163|8=>166|9=>201|19=>210|20=>211|21=>236|22=>237|23=>238|24=>239|25=>240|26=>241|27=>242|28=>243|29=>244|36=>269|31=>246|32=>247|37=>270|38=>271|39=>272|41=>284|n=>n,fun|27=>55|29=>9|3=>3|32=>183|26=>55|0=>0|44=>273|46=>165|4=>4|36=>267|35=>266|41=>121|5=>5|9=>9|53=>295|57=>299|63=>327|64=>305|n=>n,fun|n=>n⟩
theorem Tryz.JS:Go.Proofs.SlLaysM.n6 Tryz.prog Tryz.C7:={
 mixed:=by kernel_rfl
 f6:=⟨Tryz.f163.name,by decide,Tryz.func163.trans (congrArg some (by kernel_rfl))⟩
 f8:=Tryz.func166.trans (congrArg some (by kernel_rfl))
 f9:=⟨Tryz.f201.name,by decide,Tryz.func201.trans (congrArg some (by kernel_rfl))⟩
 f19:=Tryz.func210.trans (congrArg some (by kernel_rfl))
 f20:=Tryz.func211.trans (congrArg some (by kernel_rfl))
 f21:=⟨Tryz.f236.name,by decide,Tryz.func236.trans (congrArg some (by kernel_rfl))⟩
 f22:=⟨Tryz.f237.name,by decide,Tryz.func237.trans (congrArg some (by kernel_rfl))⟩
 f23:=⟨Tryz.f238.name,by decide,Tryz.func238.trans (congrArg some (by kernel_rfl))⟩
 f24:=⟨Tryz.f239.name,by decide,Tryz.func239.trans (congrArg some (by kernel_rfl))⟩
 f25:=⟨Tryz.f240.name,by decide,Tryz.func240.trans (congrArg some (by kernel_rfl))⟩
 f26:=⟨Tryz.f241.name,by decide,Tryz.func241.trans (congrArg some (by kernel_rfl))⟩
 f27:=⟨Tryz.f242.name,by decide,Tryz.func242.trans (congrArg some (by kernel_rfl))⟩
 f28:=⟨Tryz.f243.name,by decide,Tryz.func243.trans (congrArg some (by kernel_rfl))⟩
 f29:=⟨Tryz.f244.name,by decide,Tryz.func244.trans (congrArg some (by kernel_rfl))⟩
 f31:=Tryz.func246.trans (congrArg some (by kernel_rfl))
 f32:=Tryz.func247.trans (congrArg some (by kernel_rfl))
 f36:=⟨Tryz.f269.name,by decide,Tryz.func269.trans (congrArg some (by kernel_rfl))⟩
 f37:=⟨Tryz.f270.name,by decide,Tryz.func270.trans (congrArg some (by kernel_rfl))⟩
 f38:=⟨Tryz.f271.name,by decide,Tryz.func271.trans (congrArg some (by kernel_rfl))⟩
 f39:=⟨Tryz.f272.name,by decide,Tryz.func272.trans (congrArg some (by kernel_rfl))⟩
 f41:=⟨Tryz.f284.name,by decide,Tryz.func284.trans (congrArg some (by kernel_rfl))⟩
 t0:=gH
 a0:=rE
 z0:=oh
 v0:=iH
 t3:=ar
 a3:=rF
 z3:=om
 v3:=iI
 t4:=jy
 a4:=Tryz.isAgg4
 z4:=Tryz.sizeOf4
 v4:=oS
 t5:=b4
 a5:=Tryz.isAgg5
 z5:=Tryz.sizeOf5
 v5:=Tryz.zeroValue5
 t9:=aD
 a9:=rG
 z9:=ot
 v9:=iJ
 t26:=bg
 a26:=Tryz.isAgg55
 z26:=Tryz.sizeOf55
 v26:=Tryz.zeroValue55
 t27:=bg
 a27:=Tryz.isAgg55
 z27:=Tryz.sizeOf55
 v27:=Tryz.zeroValue55
 t29:=aD
 a29:=rG
 z29:=ot
 v29:=iJ
 t32:=Tryz.underlying183
 a32:=Tryz.isAgg183
 z32:=Tryz.sizeOf183
 v32:=Tryz.zeroValue183
 t35:=Tryz.underlying266
 a35:=Tryz.isAgg266
 z35:=Tryz.sizeOf266
 v35:=Tryz.zeroValue266
 t36:=Tryz.underlying267
 a36:=Tryz.isAgg267
 z36:=Tryz.sizeOf267
 v36:=Tryz.zeroValue267
 t41:=Tryz.underlying121
 a41:=Tryz.isAgg121
 z41:=Tryz.sizeOf121
 v41:=Tryz.zeroValue121
 t44:=Tryz.underlying273
 a44:=Tryz.isAgg273
 z44:=Tryz.sizeOf273
 v44:=Tryz.zeroValue273
 t46:=gI
 a46:=Tryz.isAgg165
 z46:=Tryz.sizeOf165
 v46:=Tryz.zeroValue165
 t53:=Tryz.underlying295
 a53:=Tryz.isAgg295
 z53:=Tryz.sizeOf295
 v53:=Tryz.zeroValue295
 t57:=Tryz.underlying299
 a57:=Tryz.isAgg299
 z57:=Tryz.sizeOf299
 v57:=Tryz.zeroValue299
 t63:=Tryz.underlying327
 a63:=Tryz.isAgg327
 z63:=Tryz.sizeOf327
 v63:=Tryz.zeroValue327
 t64:=Tryz.underlying305
 a64:=Tryz.isAgg305
 z64:=Tryz.sizeOf305
 v64:=Tryz.zeroValue305}
end Go.Proofs
namespace Go.K
open Go.Proofs
set_option maxRecDepth 10000
open Go.RowKit Go.Maps Go.Sort Go.Shelf
theorem LZ (m:Nat):AnyZI.SortsIn Tryz.prog Tryz.qS Fence.wide m:=
 ⟨fun iX off cap ss W hH hblk iU=>callsIn_wide.2 (AnyM.slices_Sort_int Tryz.JR iX off cap ss W hH hblk iU),
  fun p cap W=>callsIn_wide.2 (AnyM.slices_Sort_int_none Tryz.JR p cap W)⟩
theorem Iu {R:Value→Option (DU×List MemPlace)} {M:aA} {w:World} {b bb:Nat} {m:List (Lit×DU)} (h:KT Tryz.prog 3 R M w b m) (JT:w.cell? ⟨bb,0,none⟩=some (.map (some b))) (hl:m.length≤1099511627776):
  Spec Tryz.prog 61 #[.func (.func 114) #[] #[.pointer (some ⟨bb,0,none⟩)]] w (fun v w'=>(∃ss:List Int,ss.Perm (intKeys (DataW.map m))∧w'.ownsRow w.heap.size 3 1 v ss.length ((ss.mergeSort (fun x y=>decide (x≤y))).map encZ)∧(v= .slice none 0 0↔ss=[]))∧Step M w M w' aC):=by
 have L0:SeqGives Fence.wide 2 Tryz.prog 114 #[.pointer (some ⟨bb,0,none⟩)] encZ (fun ss=>ss.Perm (intKeys (DataW.map m))) (Maps.size (DataW.map m)) w:=
  AnyZI.keys_gives (ρ:=Tryz.vF) {Tryz.Qb with} Fence.wide _ trivial rfl (by omega) bb b m.length (DataW.map m) _ (World.block_lt_of_cell? w _ JT) JT h.own
 have iU:Maps.size (DataW.map m)=m.length:=rfl;have cS:=AnyZI.sorted_in Tryz.Is Fence.wide 5 trivial trivial trivial trivial rfl (by omega) (LZ _) (enters_of Tryz.func113 (by kernel_rfl) rfl) 114 #[.pointer (some ⟨bb,0,none⟩)] trivial (enters_of Tryz.func114 (by kernel_rfl) rfl) _ _ (by rw[iU];unfold maxLen;omega) (by rw[iU];omega) _ L0;exact(callsIn_wide (n:=5)).1 (cS.mono fun e w' ⟨v,ss,h1,h2,h3,h4,h5⟩=>⟨v,h1,⟨ss,h2,h3,h4⟩,.sw h5 M⟩)
theorem L3 (m:Nat):AnyZ.SortsIn Tryz.prog Tryz.qT Fence.wide m:=
 ⟨fun iX off cap ss W hH hblk iU=>callsIn_wide.2 (AnyM.slices_Sort_string Tryz.JS iX off cap ss W hH hblk iU),
  fun p cap W=>callsIn_wide.2 (AnyM.slices_Sort_string_none Tryz.JS p cap W)⟩
theorem AY (mb:Option Nat) (w:World):Spec Tryz.prog 112 #[.map mb] w (fun v w'=>v= .func (.func 164) #[] #[.pointer (some ⟨w.heap.size,0,none⟩)]∧w'=w.alloc (.cells #[.map mb] 167)):=
 (callsIn_wide (n:=5)).1 ((AnyZ.keys_in Tryz.Cd Fence.wide 5 trivial rfl mb w).mono fun e w' ⟨h1,h2⟩=>⟨_,h1,rfl,h2⟩)
theorem xu {R:Value→Option (DU×List MemPlace)} {M:aA} {w:World} {b bb:Nat} {m:List (Lit×DU)} (h:KT Tryz.prog 9 R M w b m) (JT:w.cell? ⟨bb,0,none⟩=some (.map (some b))) (hl:m.length≤1099511627776):
  Spec Tryz.prog 111 #[.func (.func 164) #[] #[.pointer (some ⟨bb,0,none⟩)]] w (fun v w'=>(∃ss:List (List UInt8),ss.Perm (strKeys (DataW.map m))∧w'.ownsRow w.heap.size 9 1 v ss.length ((ss.mergeSort (fun x y=>decide (x≤y))).map encStr)∧(v= .slice none 0 0↔ss=[]))∧Step M w M w' aC):=by
 have L0:SeqGives Fence.wide 2 Tryz.prog 164 #[.pointer (some ⟨bb,0,none⟩)] encStr (fun ss=>ss.Perm (strKeys (DataW.map m))) (Maps.size (DataW.map m)) w:=
  AnyZ.keys_gives (ρ:=Tryz.vG) {Tryz.Cd with} Fence.wide _ trivial rfl (by omega) bb b m.length (DataW.map m) _ (World.block_lt_of_cell? w _ JT) JT h.own
 have iU:Maps.size (DataW.map m)=m.length:=rfl;have cS:=AnyZ.sorted_in Tryz.It Fence.wide 5 trivial trivial trivial trivial rfl (by omega) (L3 _) (enters_of Tryz.func163 (by kernel_rfl) rfl) 164 #[.pointer (some ⟨bb,0,none⟩)] trivial (enters_of Tryz.func164 (by kernel_rfl) rfl) _ _ (by rw[iU];unfold maxLen;omega) (by rw[iU];omega) _ L0;exact(callsIn_wide (n:=5)).1 (cS.mono fun e w' ⟨v,ss,h1,h2,h3,h4,h5⟩=>⟨v,h1,⟨ss,h2,h3,h4⟩,.sw h5 M⟩)
theorem uz {w w':World} {v:Value} {t:TypeId} (h:w'=w.alloc (.cells #[v] t)):w'.cell? ⟨w.heap.size,0,none⟩=some v:=by
 subst h;exact gE (cq w _) rfl
end Go.K
namespace Go.K
open Go.Proofs
set_option maxRecDepth 10000
theorem Iv {M:aA} {w0:World} {v:Value} {b:List Fd} (hM:Lt M w0) (hv:(RT.fd.sl).V M w0 b v) (zV:b.length≤1099511627776):
  Spec Tryz.prog 199 #[v] w0 (fun v' w'=>(RT.fd.sl).V M w' b v'∧Step M w0 M w' aC):=by
 obtain⟨a,cap,uA,hc,hl,hs⟩:=gV.1 hv;refine aX (args:=[_]) (fn:=Tryz.f199) Tryz.func199 rfl (n:=8) Tryz.ntmps199 (aj (ah (ai rfl rfl (ad (aj (aj (ah (ae rfl rfl (bu (v':= .slice a b.length cap) uA (Rg.rz aV rfl rfl rfl (ad ?_)))))))))));refine bI rfl (fun c1=>?_) (fun c1=>?_)
 ·refine aj (ah (ai rfl rfl (ad (aJ ?_))))
  have hb:b=[]:=by
   rcases hs with h|⟨_,_,h,_⟩
   ·exact h
   ·rw[c1]at h;cases h
  exact aO rfl rfl ⟨by rw[hb];exact jR,an _ _⟩
 ·refine aU (aj (ah ?_));refine Rg.Sd aV gZ M rfl (fun a0 w1 s1=>?_);refine ae rfl rfl ?_;refine Rg.nE (A:=RT.fd) (hn:=by decide) (M:=M) aV gZ rfl rfl rfl rfl hv s1.le (s1.lt hM) (by omega) (fun u2 w2 rl s2=>?_);refine ai rfl rfl (ad (aJ ?_));exact aO rfl rfl ⟨rl,s1.ay s2⟩
theorem tu {M:aA} {w0:World} {v:Value} {b:List Int} (hM:Lt M w0) (hv:((RT.int .i64).sl).V M w0 b v) (zV:b.length≤1099511627776):
  Spec Tryz.prog 63 #[v] w0 (fun v' w'=>((RT.int .i64).sl).V M w' b v'∧Step M w0 M w' aC):=by
 obtain⟨a,cap,uA,hc,hl,hs⟩:=gV.1 hv;refine aX (args:=[_]) (fn:=Tryz.f63) Tryz.func63 rfl (n:=8) Tryz.ntmps63 (aj (ah (ai rfl rfl (ad (aj (aj (ah (ae rfl rfl (bu (v':= .slice a b.length cap) uA (Rg.rz au rfl rfl rfl (ad ?_)))))))))));refine bI rfl (fun c1=>?_) (fun c1=>?_)
 ·refine aj (ah (ai rfl rfl (ad (aJ ?_))))
  have hb:b=[]:=by
   rcases hs with h|⟨_,_,h,_⟩
   ·exact h
   ·rw[c1]at h;cases h
  exact aO rfl rfl ⟨by rw[hb];exact jR,an _ _⟩
 ·refine aU (aj (ah ?_));refine Rg.Sd au I3 M rfl (fun a0 w1 s1=>?_);refine ae rfl rfl ?_;refine Rg.nE (A:=(RT.int .i64)) (hn:=by decide) (M:=M) au I3 rfl rfl rfl rfl hv s1.le (s1.lt hM) (by omega) (fun u2 w2 rl s2=>?_);refine ai rfl rfl (ad (aJ ?_));exact aO rfl rfl ⟨rl,s1.ay s2⟩
theorem FI {M:aA} {w0:World} {v:Value} {b:List (List UInt8)} (hM:Lt M w0) (hv:(RT.str.sl).V M w0 b v) (zV:b.length≤1099511627776):
  Spec Tryz.prog 177 #[v] w0 (fun v' w'=>(RT.str.sl).V M w' b v'∧Step M w0 M w' aC):=by
 obtain⟨a,cap,uA,hc,hl,hs⟩:=gV.1 hv;refine aX (args:=[_]) (fn:=Tryz.f177) Tryz.func177 rfl (n:=8) Tryz.ntmps177 (aj (ah (ai rfl rfl (ad (aj (aj (ah (ae rfl rfl (bu (v':= .slice a b.length cap) uA (Rg.rz bg rfl rfl rfl (ad ?_)))))))))));refine bI rfl (fun c1=>?_) (fun c1=>?_)
 ·refine aj (ah (ai rfl rfl (ad (aJ ?_))))
  have hb:b=[]:=by
   rcases hs with h|⟨_,_,h,_⟩
   ·exact h
   ·rw[c1]at h;cases h
  exact aO rfl rfl ⟨by rw[hb];exact jR,an _ _⟩
 ·refine aU (aj (ah ?_));refine Rg.Sd bg I9 M rfl (fun a0 w1 s1=>?_);refine ae rfl rfl ?_;refine Rg.nE (A:=RT.str) (hn:=by decide) (M:=M) bg I9 rfl rfl rfl rfl hv s1.le (s1.lt hM) (by omega) (fun u2 w2 rl s2=>?_);refine ai rfl rfl (ad (aJ ?_));exact aO rfl rfl ⟨rl,s1.ay s2⟩
theorem Iw {M:aA} {w0:World} {v:Value} {b:List Li} (hM:Lt M w0) (hv:(((RT.li).ptr).sl).V M w0 b v) (zV:b.length≤1099511627776):
  Spec Tryz.prog 178 #[v] w0 (fun v' w'=>(((RT.li).ptr).sl).V M w' b v'∧Step M w0 M w' aC):=by
 obtain⟨a,cap,uA,hc,hl,hs⟩:=gV.1 hv;refine aX (args:=[_]) (fn:=Tryz.f178) Tryz.func178 rfl (n:=8) Tryz.ntmps178 (aj (ah (ai rfl rfl (ad (aj (aj (ah (ae rfl rfl (bu (v':= .slice a b.length cap) uA (Rg.rz dN rfl rfl rfl (ad ?_)))))))))));refine bI rfl (fun c1=>?_) (fun c1=>?_)
 ·refine aj (ah (ai rfl rfl (ad (aJ ?_))))
  have hb:b=[]:=by
   rcases hs with h|⟨_,_,h,_⟩
   ·exact h
   ·rw[c1]at h;cases h
  exact aO rfl rfl ⟨by rw[hb];exact jR,an _ _⟩
 ·refine aU (aj (ah ?_));refine Rg.Sd dN oE M rfl (fun a0 w1 s1=>?_);refine ae rfl rfl ?_;refine Rg.nE (A:=((RT.li).ptr)) (hn:=by decide) (M:=M) dN oE rfl rfl rfl rfl hv s1.le (s1.lt hM) (by omega) (fun u2 w2 rl s2=>?_);refine ai rfl rfl (ad (aJ ?_));exact aO rfl rfl ⟨rl,s1.ay s2⟩
theorem za {M:aA} {d:Dc} {v0:Value} (w0:World) (hM:Lt M w0) (hv:RT.dc.V M w0 d v0) (hl:d.2.length≤1099511627776):
  Spec Tryz.prog 160 #[v0] w0 (fun v w=>RT.dc.V M w d v∧Step M w0 M w aC):=by
 have jL:=hM;refine aX (args:=[_]) (fn:=Tryz.f160) Tryz.func160 rfl (n:=9) Tryz.ntmps160 ?_;have S:Step M w0 M w0 aC:=(an _ _).cc (fun _ h=>h.elim) (fun _ h=>h.elim);refine aj (ah ?_);refine kh (A:=RT.dc) rfl rfl hM hv rfl (fun u0 w1 cA s0 _=>?_);replace hM:=s0.lt hM;have:=S.size;replace S:=S.ay s0;refine eW M kL rfl (fun lX AF LB LC eK kO=>?_);obtain⟨ed,j9⟩:∃M',M'=ins M lX:=⟨_,rfl⟩;rw[←j9]at kO;have dS:ed lX:=by rw[j9];exact .inl rfl
 change AF.heap[lX]? =some (.cells #[.int .i64 0,.slice none 0 0] _ _)at eK;replace cA:=cA.le (by decide) kO.le;replace hM:=kO.lt hM;have:=S.size;replace S:=S.ay kO;refine ad (aj ?_);apply T.nV 4 [0,1] 1 aC mixed rfl rfl rfl rfl;intro DH EI;have jg:=EI ed;have:=ak eK;replace dS:=(jg.mem _ this).2 dS;replace eK:=jg.aI eK;replace cA:=cA.le (by decide) jg.le;replace hM:=jg.lt hM;have:=S.size;replace S:=S.ay jg;refine aH (M:=ed) (A:=RT.dc) (B:=RT.int .i64) aN rfl rfl I3 (by decide) (Pz) rfl rfl (by decide) (by assumption) (by repeat (first|exact aq _ _|refine aT (aY (by assumption)) ?_)) (fun uk jw=>?_);refine ad ⟨rfl,rfl,rfl,?_⟩;refine cb (M:=ed) ar rfl rfl (by assumption) (by repeat (first|exact aq _ _|refine aT (aY (by assumption)) ?_)) (fun JK=>?_);refine ad ⟨rfl,rfl,rfl,?_⟩;refine aH (M:=ed) (A:=RT.dc) (B:=(RT.fd).sl) aN rfl rfl qe (by decide) (CU) rfl rfl (by decide) (by assumption) (by repeat (first|exact aq _ _|refine aT (aY (by assumption)) ?_)) (fun Ix tv=>?_);refine ad ⟨rfl,rfl,rfl,?_⟩;refine cg (M:=ed) aV rfl rfl rfl rfl rfl (by assumption) (by repeat (first|exact aq _ _|refine aT (aY (by assumption)) ?_)) (fun Qd FJ=>?_);refine ad ⟨rfl,rfl,rfl,?_⟩;refine fy ?_;obtain⟨bb,oo,cs,ee,fr,rfl,k4,_⟩:=jw.float;refine⟨iA ⟨jA aN rfl I3 (by decide),⟨fJ rfl k4 (fun h=>h),trivial⟩⟩,?_⟩;have kp:=km aC DH;refine aP rfl rfl Ua (Iv hM FJ hl) (fun v4 w4 hc=>?_);obtain⟨qi,s4⟩:=hc;have:=ak eK;replace dS:=(s4.mem _ this).2 dS;replace eK:=s4.aI eK;replace cA:=cA.le (by decide) s4.le;replace hM:=s4.lt hM;have:=S.size;replace S:=S.ay s4;refine(fun(kp:eg _ _ _)=>ad ⟨rfl,rfl,fun _=>kp,?_⟩) (by first|exact kp|exact kp.pX (by assumption)|exact kp.goN (by assumption)|exact kp.go (by assumption) (fun _ _ h=>by first|exact h|exact h.elim))
 refine dZ (places:=[(0,1),(1,1)]) aN kL OM rfl ⟨_,_,rfl,rfl,_,_,rfl,rfl,rfl⟩ (out:=[_,_]) ⟨0,[_],rfl,rfl,by simp[Value.cells],1,[_],rfl,ij qi,by simp[Value.cells],rfl⟩ ?_;refine ad ⟨rfl,rfl,fun h=>absurd rfl h,?_⟩;have hd:RT.dc.V ed w4 d (.agg [.int .i64 d.1,v4].toArray):=dY (gp JK) qi rfl rfl rfl rfl;refine fa (M:=ed) (vs:=[.int .i64 d.1,v4]) kL rfl rfl (AX rfl hd) rfl rfl eK dS (fun w6 g6 s6=>?_);have:=ak eK;replace dS:=(s6.mem _ this).2 dS;replace cA:=cA.le (by decide) s6.le;replace qi:=qi.le s6.le;replace hd:=hd.le s6.le;replace hM:=s6.lt hM;have:=S.size;replace S:=S.trans s6 (fun k hk h=>by have h:_=_:=h;subst h;first|(exfalso;omega)|(show _≤_;omega)|exact⟨by first|omega|assumption,(S.mem _ hk).1 ((s6.mem _ (ak eK)).1 dS)⟩|exact .inl rfl|exact .inr rfl|exact .inr (.inl rfl)|exact .inr (.inr rfl)|exact rfl);have zb:=g6;clear eK;have eK:=zb;clear zb;refine ad ⟨rfl,rfl,fun h=>absurd rfl h,?_⟩;refine qA (aJ ?_);exact wI (vs:=[.int .i64 d.1,v4]) rfl rfl aN rfl kL rfl eK ⟨hd.le (Le.close jL S),S.back⟩
theorem FK {M:aA} {e:En} {v0:Value} (w0:World) (hM:Lt M w0) (hv:RT.en.V M w0 e v0) (hl:e.1.2.length≤1099511627776):
  Spec Tryz.prog 109 #[v0] w0 (fun v w=>RT.en.V M w e v∧Step M w0 M w aC):=by
 have jL:=hM;refine aX (args:=[_]) (fn:=Tryz.f109) Tryz.func109 rfl (n:=9) Tryz.ntmps109 ?_;have S:Step M w0 M w0 aC:=(an _ _).cc (fun _ h=>h.elim) (fun _ h=>h.elim);refine aj (ah ?_);refine kh (A:=RT.en) rfl rfl hM hv rfl (fun u0 w1 cA s0 _=>?_);replace hM:=s0.lt hM;have:=S.size;replace S:=S.ay s0;refine eW M yq rfl (fun lX AF LB LC eK kO=>?_);obtain⟨ed,j9⟩:∃M',M'=ins M lX:=⟨_,rfl⟩;rw[←j9]at kO;have dS:ed lX:=by rw[j9];exact .inl rfl
 change AF.heap[lX]? =some (.cells #[.int .i64 0,.slice none 0 0,.int .i64 0] _ _)at eK;replace cA:=cA.le (by decide) kO.le;replace hM:=kO.lt hM;have:=S.size;replace S:=S.ay kO;refine ad (aj ?_);apply T.Eb [0,1,3,4,2,5,6] 4 [2,3] 1 aC mixed
 ·simp+decide only[uU,p6,ib,List.map_nil,tR,tS,List.map_toArray,fq,mK,List.idxOf_cons,cond_true,cond_false,Nat.reduceBEq,Nat.reduceAdd,beq_self_eq_true];rfl
 ·rfl
 ·rfl
 ·rfl
 ·rfl
 ·rfl
 ·rfl
 intro DH EI;have jg:=EI ed;have:=ak eK;replace dS:=(jg.mem _ this).2 dS;replace eK:=jg.aI eK;replace cA:=cA.le (by decide) jg.le;replace hM:=jg.lt hM;have:=S.size;replace S:=S.ay jg;refine aH (M:=ed) (A:=RT.en) (B:=RT.dc) cO rfl rfl kL (by decide) PA rfl rfl (by decide) cA (aq _ _) (fun uk jw=>?_);refine ad ⟨rfl,rfl,rfl,?_⟩;refine cx (M:=ed) (A:=RT.dc) aN rfl kL (by decide) rfl rfl rfl jw (aq _ _) (fun um kA=>?_);refine ad ⟨rfl,rfl,rfl,?_⟩;refine aH (M:=ed) (A:=RT.en) (B:=RT.int .i64) cO rfl rfl I3 (by decide) Sn rfl rfl (by decide) cA (aq _ _) (fun Ix tv=>?_);refine ad ⟨rfl,rfl,rfl,?_⟩;refine cb (M:=ed) ar rfl rfl (by assumption) (by repeat (first|exact aq _ _|refine aT (aY (by assumption)) ?_)) (fun FL=>?_);refine bu (v':= .int .i64 (e.2)) rfl ?_;replace FL: -9223372036854775808≤(e.2:Int)∧e.2≤9223372036854775807:=FL;refine ad ⟨rfl,rfl,rfl,?_⟩;refine fy ?_;obtain⟨bb,oo,cs,ee,fr,rfl,k4,_⟩:=tv.float;refine⟨iA ⟨jA cO rfl I3 (by decide),⟨fJ rfl k4 (fun h=>h),trivial⟩⟩,?_⟩;have kp:=km aC DH;refine aP rfl rfl TY (za _ hM kA hl) (fun v4 w4 hc=>?_);obtain⟨qi,s4⟩:=hc;obtain⟨uf,rfl⟩:=xe qi;have:=ak eK;replace dS:=(s4.mem _ this).2 dS;replace eK:=s4.aI eK;replace cA:=cA.le (by decide) s4.le;replace hM:=s4.lt hM;have:=S.size;replace S:=S.ay s4;refine(fun(kp:eg _ _ _)=>ad ⟨rfl,rfl,fun _=>kp,?_⟩) (by first|exact kp|exact kp.pX (by assumption)|exact kp.goN (by assumption)|exact kp.go (by assumption) (fun _ _ h=>by first|exact h|exact h.elim));refine dZ (places:=[(0,2),(2,1)]) cO yq Sh rfl ⟨_,_,rfl,rfl,_,_,rfl,rfl,rfl⟩ (out:=[_,_,_]) ⟨0,[_,_],rfl,rfl,by simp[Value.cells],2,[_],rfl,rfl,by simp[Value.cells],rfl⟩ ?_
 refine ad ⟨rfl,rfl,fun h=>absurd rfl h,?_⟩;have hd:RT.en.V ed w4 e (.agg [.int .i64 e.1.1,uf,.int .i64 e.2].toArray):=BX (p:=e.1) qi FL;refine fa (M:=ed) (vs:=[.int .i64 e.1.1,uf,.int .i64 e.2]) yq rfl rfl (AX rfl hd) rfl rfl eK dS (fun w6 g6 s6=>?_);have:=ak eK;replace dS:=(s6.mem _ this).2 dS;replace cA:=cA.le (by decide) s6.le;replace qi:=qi.le s6.le;replace hd:=hd.le s6.le;replace hM:=s6.lt hM;have:=S.size;replace S:=S.trans s6 (fun k hk h=>by have h:_=_:=h;subst h;first|(exfalso;omega)|(show _≤_;omega)|exact⟨by first|omega|assumption,(S.mem _ hk).1 ((s6.mem _ (ak eK)).1 dS)⟩|exact .inl rfl|exact .inr rfl|exact .inr (.inl rfl)|exact .inr (.inr rfl)|exact rfl);have zb:=g6;clear eK;have eK:=zb;clear zb;refine ad ⟨rfl,rfl,fun h=>absurd rfl h,?_⟩;refine qA (aJ ?_);exact wI (vs:=[.int .i64 e.1.1,uf,.int .i64 e.2]) rfl rfl cO rfl yq rfl eK ⟨hd.le (Le.close jL S),S.back⟩
end Go.K
namespace Go.K
open Go.Proofs
namespace TKBldB
theorem Qe:TI Tryz.prog 227 (.map none) 1 8:=by unfold TI;kernel_rfl
theorem VI:Enters Tryz.prog 155:=enters Tryz.func155 rfl (by decide)
theorem VJ:Enters Tryz.prog 156:=enters Tryz.func156 rfl (by decide)
theorem VK:Enters Tryz.prog 157:=enters Tryz.func157 rfl (by decide)
end TKBldB
open TKBldB
set_option maxRecDepth 10000
theorem IJ.bh {bt mb B:Nat} {ts:List (Fd×Nat)} {M M':aA} {w w':World} (h:IJ bt mb B ts M w) (s:Step M w M' w' aC):IJ bt mb B ts M' w':=by
 obtain⟨gb,dz,dT,hB,B7,es,clock,hW,hI⟩:=h;exact⟨s.aI gb,(s.mem _ (ak gb)).2 dz,(s.mem _ (ak hW.at_)).2 dT,hB,B7,es,clock,hW.bh s,hI.bh s⟩
theorem FM {bt mb B:Nat}:LM Tryz.prog 155 [.pointer (some ⟨bt,0,none⟩)] B (IJ bt mb B):=
 ⟨VI,fun ts M w M' w' h s=>h.bh s,fun ts M w t i hJ hM h1 h2 hi h4=>C2 w hM h1 h2 hi h4 hJ⟩
theorem FN (M:aA) (w:World) (B:Nat):C1 M w B [] [] where
 o t v hv:=by
  rcases hv with⟨e,he,_⟩|⟨_,rfl⟩
  ·cases he
  ·exact ec _ _ _ _ _
 a t t' v v' _ hv _:=by
  rcases hv with⟨e,he,_⟩|⟨_,rfl⟩
  ·cases he
  ·exact(iE.nil v').symm
 k:=rfl
theorem zc:∀(ts:List (Fd×Nat)) (l:List Fd),(ts.foldl (fun l p=>if p.1∈l then l else l++[p.1]) l).length≤l.length+ts.length
 |[],l=>by simp
 |p::ts,l=>by
  rw[List.foldl_cons,cr];refine fK (zc ts _) ?_
  split
  ·omega
  ·rw[bL];simp;omega
theorem Iy (M:aA) (w:World) (M':aA) (w':World) (x:Fd) (vs:List Value) (h:RT.fd.R M w x vs):RT.fd.R M' w' x vs:=h
theorem zd {M:aA} {d:Dc} {v0:Value} (w0:World) (hM:Lt M w0) (hv:RT.dc.V M w0 d v0) (hF:iB d) (hl:∀f∈d.2,f.1.length≤900000∧f.2.length≤900000):
  Spec Tryz.prog 108 #[v0] w0 (fun v w=>∃a b,v= .tuple #[a,b]∧(RT.fd.sl).V M w (cD (b5 d.2)) a∧(((RT.int .i64).sl).sl).V M w ((cD (b5 d.2)).map (posOf (b5 d.2))) b∧Step M w0 M w aC):=by
 have jL:=hM;have JU:=hF.many;refine aX (args:=[_]) (fn:=Tryz.f108) Tryz.func108 rfl (n:=31) Tryz.ntmps108 ?_;have S:Step M w0 M w0 aC:=(an _ _).cc (fun _ h=>h.elim) (fun _ h=>h.elim);refine aj (ah ?_);refine kh (A:=RT.dc) rfl rfl hM hv rfl (fun u0 w1 cA s0 _=>?_);replace hM:=s0.lt hM;have:=S.size;replace S:=S.ay s0;refine ai rfl rfl (ai rfl rfl (ad (aj (ah ?_))));refine Rg.yT M jO rfl (fun mb w1m p1 q1 gW s1=>?_);obtain⟨L4,FO⟩:∃M',M'=ins M mb:=⟨_,rfl⟩;rw[←FO]at s1;have xv:L4 mb:=by rw[FO];exact .inl rfl
 replace cA:=cA.le (by decide) s1.le;replace hM:=s1.lt hM;have:=S.size;replace S:=S.ay s1;refine eW L4 Qe rfl (fun C8 Ig adh adi uu oM=>?_);obtain⟨FP,FQ⟩:∃M',M'=ins L4 C8:=⟨_,rfl⟩;rw[←FQ]at oM;have tw:FP C8:=by rw[FQ];exact .inl rfl
 change Ig.heap[C8]? =some (.cells #[.map none] _ _)at uu;replace cA:=cA.le (by decide) oM.le;replace xv:=(oM.mem _ (ak gW.at_)).2 xv;replace gW:=gW.bh oM;replace hM:=oM.lt hM;have:=S.size;replace S:=S.ay oM;refine bQ (M:=FP) Qe rfl rfl uu rfl (rfl) tw (fun Ie fF mD=>?_)
 try simp only[List.setIfInBounds_toArray,List.set_cons_zero,List.set_cons_succ]at fF
 have:=ak uu;replace tw:=(mD.mem _ this).2 tw;replace cA:=cA.le (by decide) mD.le;replace xv:=(mD.mem _ (ak gW.at_)).2 xv;replace gW:=gW.step mD (by show¬(_=_);omega);replace hM:=mD.lt hM;have:=S.size;replace S:=S.trans mD (fun k hk h=>by have h:_=_:=h;subst h;first|(exfalso;omega)|(show _≤_;omega)|exact⟨by first|omega|assumption,(S.mem _ hk).1 ((mD.mem _ (ak uu)).1 tw)⟩|exact .inl rfl|exact .inr rfl|exact .inr (.inl rfl)|exact .inr (.inr rfl)|exact rfl);have JV:=fF;clear uu;have uu:=JV;clear JV;refine ad (aj (ah ?_));refine cx (M:=FP) (A:=RT.dc) aN rfl kL (by decide) rfl rfl rfl (by assumption) (by repeat (first|exact aq _ _|refine aT (aY (by assumption)) ?_)) (fun adj Ce=>?_);refine hY (xs:=[]) (ys:=[.tmp 4]) rfl rfl rfl ?_;refine aP rfl rfl OQ (vw (cap:=[.pointer (some ⟨C8,0,none⟩)]) (B:=w0.heap.size) _ hM Ce hl hF.few (FM (mb:=mb)) ⟨uu,tw,xv,by omega,by omega,[],0,gW,FN _ _ _⟩) (fun r2 w2 hc=>?_);obtain⟨M2,JA,⟨gb,_,_,_,_,es,clock,hW,hI⟩,s2⟩:=hc;replace S:=S.jS s2 (bj _);have mF:∀t v,dE iP es (kv t) v→(((RT.int .i64).sl)).V M w2 (posOf (b5 d.2) t) v:=fun t v h=>(hI.o t v h).close jL S (by have:=ql (b5 d.2) t;omega)
 replace S:=S.back;replace hM:=S.lt jL
 have Qf:∀e∈es,∃t∈seen (b5 d.2),e.key=kv t:=fun e he=>by
  have:e.key∈(seen (b5 d.2)).map kv:=by rw[←hI.k];exact fg he
  obtain⟨t,h1,h2⟩:=cF.1 this;exact⟨t,h1,h2.symm⟩
 have wg:∀t∈seen (b5 d.2),Ho t∧t.1.length≤12∧t.2.length≤30:=fun t ht=>by
  obtain⟨p,hp,rfl⟩:=cF.1 (pB.1 ht);exact⟨hF.Ip p hp,hF.small p hp⟩
 have oz:(seen (b5 d.2)).length≤500:=fK (zc _ _) (by simp;omega);have ua:es.length≤500:=by have:=congrArg List.length hI.k;simp at this;omega
 refine ad (aj (ah (aE jO rfl rfl rfl gb rfl ?_)));refine aP rfl rfl VK (AR _) (fun r3 w3 hc=>?_);obtain⟨bs,rfl,Fw,_,s3⟩:=hc;replace s3:=s3.toAny M;replace hW:=hW.bh s3;replace gb:=s3.aI gb;replace mF:=fun t v h=>(mF t v h).le s3.le
 replace hM:=s3.lt hM;have:=S.size;replace S:=S.ay s3
 refine aP rfl rfl VJ (yZ _ (fun e he=>by
  obtain⟨t,h1,h2⟩:=Qf e he;exact⟨t,h2,by have:=(wg t h1).2;omega,by have:=(wg t h1).2;omega⟩) (fun e he t ht=>by
  obtain⟨t',h1,h2⟩:=Qf e he;obtain rfl:=qk (ht.symm.trans h2);exact⟨(wg _ h1).1,by have:=(wg _ h1).2;omega,by have:=(wg _ h1).2;omega⟩) (by omega) (fun ts mL ly=>by
  have:=mL.length_le_of_subset (l₂:=seen (b5 d.2)) (fun t ht=>(py hI.k).1 (ly t ht));omega) Fw hW) (fun r4 w4 hc=>?_)
 obtain⟨us,mL,ly,Kz,P3,s4⟩:=hc;obtain rfl:=y4 hF.Ip mL (fun t=>(ly t).trans (py hI.k)) Kz;have NO:(cD (b5 d.2)).length≤500:=fK (mL.length_le_of_subset (l₂:=seen (b5 d.2)) (fun t ht=>pB.2 ((iR hF.Ip).1 ht))) oz;replace s4:=s4.toAny M;have xL:(RT.fd.sl).V M w4 (cD (b5 d.2)) r4:=P3.tell Iy (fun b hb h=>by have:=(P3.base b hb).1;have:=hM b h;omega) (by omega);clear P3;replace hW:=hW.bh s4;replace gb:=s4.aI gb;replace mF:=fun t v h=>(mF t v h).le s4.le
 replace hM:=s4.lt hM;have:=S.size;replace S:=S.ay s4;refine ai rfl rfl (ad (aj (ah (ai rfl rfl (ad (aj (aj (ah (ae rfl rfl (bU iC rfl xL rfl (ae rfl rfl ?_)))))))))));refine ad (a8 ?_);refine dC (σ:=Nat×Value) (fun q=>[(4,.pointer (some ⟨C8,0,none⟩)),(5,r4),(6,q.2),(16,r4),(17,.int .i64 ((cD (b5 d.2)).length:Int)),(18,.int .i64 (q.1:Int))]) (fun q w=>∃M',Lt M' w∧Step M w0 M' w aC∧Own ((RT.int .i64).sl) 32 M' w w0.heap.size q.2 (((cD (b5 d.2)).take q.1).map (posOf (b5 d.2)))∧(RT.fd.sl).V M' w (cD (b5 d.2)) r4∧eu Tryz.prog 47 w mb es clock∧w.heap[C8]? =some (.cells #[.map (some mb)] 227 (0,0))∧(∀t v,dE iP es (kv t) v→(((RT.int .i64).sl)).V M' w (posOf (b5 d.2) t) v)∧q.1≤(cD (b5 d.2)).length) (fun q=>(cD (b5 d.2)).length-q.1) (0,.slice none 0 0) (.cons rfl (.cons rfl (.cons rfl (.cons rfl (.cons rfl (.cons rfl .nil)))))) ?_ ?_
 ·exact⟨M,hM,S,ec _ _ _ _ _,xL,hW,gb,mF,bG _⟩
 ·clear hM xL hW gb mF S;rintro⟨i,u⟩ w ⟨M1,hM,S,ho,xL,hW,gb,mF,hi⟩;dsimp only at ho hi ⊢;refine aj (ah (cf rfl rfl rfl (ad (aj ?_))));refine bI rfl (fun c6=>?_) (fun c6=>?_)
  ·refine aU (aj (a8 (aj (ah ?_))));refine dq (M:=M1) iC qM rfl rfl rfl xL (aq _ _) (by omega) (fun PE t VL B0=>?_);rw[az]at VL;have HG:=aM VL;have Ea:=wg t (pB.2 ((iR hF.Ip).1 HG));refine cx (M:=M1) (A:=RT.fd) b9 rfl qM (by decide) rfl rfl rfl B0 (aq _ _) (fun Vd JG=>?_);refine ov (A:=RT.fd) (M:=M1) qM rfl rfl rfl rfl rfl (by assumption) (aq _ _) hM (fun VM adk vH AZ adl=>?_);replace xL:=xL.le AZ.le;replace ho:=ho.bh AZ;replace hW:=hW.bh AZ;replace gb:=AZ.aI gb;replace mF:=fun t v h=>(mF t v h).le AZ.le
   replace hM:=AZ.lt hM;have:=S.size;replace S:=S.ay AZ;refine ad (ah (ae rfl rfl (aE jO rfl rfl rfl gb rfl ?_)));refine cx (M:=M1) (A:=RT.fd) b9 rfl qM (by decide) rfl rfl rfl vH (aq _ _) (fun adm Qg=>?_);obtain rfl:=kN Qg;obtain⟨kl,Cz⟩:=Fs t (by omega) (by omega);refine Rg.pw jO vv nM rfl rfl rfl Cz hW (fun v8 uA=>?_);have Cf:=mF _ _ uA;clear uA;refine eE (A:=((RT.int .i64).sl)) (hn:=by decide) (M:=M1) Tryz.underlying171 nM (by decide) rfl rfl hM (Cf) (.inr ⟨rfl,rfl⟩) (fun adn ado FR ze=>?_);replace xL:=xL.le ze.le;replace vH:=vH.le (by decide) ze.le;replace ho:=ho.bh ze;replace hW:=hW.bh ze;replace gb:=ze.aI gb;replace mF:=fun t v h=>(mF t v h).le ze.le
   replace hM:=ze.lt hM;have:=S.size;replace S:=S.ay ze;refine cR (M:=M1) (base:=w0.heap.size) Tryz.underlying171 nM rfl rfl rfl rfl ho FR (aq _ _) (by simp;omega) (by simp;omega) (S.size) (fun VN VO adp Qh zf=>?_);replace xL:=xL.le zf.le;replace vH:=vH.le (by decide) zf.le;replace FR:=FR.le zf.le;replace hW:=hW.step zf (fun h=>ho.iQ hW.at_ h);replace gb:=zf.bF gb (fun h=>ho.eL gb (by decide) h);replace mF:=fun t v h=>(mF t v h).le zf.le
   replace hM:=zf.lt hM;have:=S.size;replace S:=S.dh zf ho (bj _);replace ho:=Qh;refine ai rfl rfl (ad (ah (bA rfl rfl rfl (by omega) (ae rfl rfl (ad ?_)))));refine⟨rfl,(i+1,VN),(.cons rfl (.cons rfl (.cons rfl (.cons rfl (.cons rfl (.cons rfl .nil)))))),?_,?_⟩
   ·exact⟨VO,hM,S,by rw[cd,VL,cZ,jB];exact ho,xL,hW,gb,mF,by dsimp only;omega⟩
   ·dsimp only;omega
  ·refine cM (aj (ah (ae rfl rfl (ae rfl rfl (ai rfl rfl (ai rfl rfl (ad (aJ ?_))))))));have e:(cD (b5 d.2)).take i=cD (b5 d.2):=bp (by omega);rw[e]at ho;exact eH rfl rfl rfl ⟨_,_,rfl,xL.le (Le.close jL S),ho.close jL S (by simp;omega),S.back⟩
end Go.K
namespace Go.K
def JW {α:Type} (A:RT α) (M:aA) (w:World) (v:Value) (x:α):Prop:=∃b o vs,v= .pointer (some ⟨b,o,none⟩)∧A.R M w x vs∧w.rangeAt b o vs
theorem Own.elem {α:Type} {A:RT α} {e:TypeId} {M:aA} {w:World} {base:Nat} {v:Value} {xs:List α} (h:Own A e M w base v xs) (hA:0<A.n) {i:Nat} {x:α} (hx:xs[i]? =some x):
  ∃g cap vs,v= .slice (some ⟨g,0,none⟩) xs.length cap∧M g∧A.R M w x vs∧w.rangeAt g (i*A.n) vs:=by
 obtain⟨⟨C,hr,ha⟩,hm⟩:=h;rcases hr.2 with⟨h1,h2⟩|⟨g,cap,cur,h1,h2,h3,h4,h5,h6,h7⟩
 ·have:xs=[]:=List.eq_nil_of_length_eq_zero h2;subst this;simp at hx
 ·obtain⟨vs,hv,hj⟩:=ha.at_ i x hx;refine⟨g,cap,vs,h1,hm g (by rw[h1];rfl),hv,fun j u hu=>?_⟩;have h8:=hj j u hu;rw[←h7,dF]at h8
  split at h8
  ·simp only[World.cell?,h3];simpa using h8
  ·cases h8
section
variable {P:Program} {r:Option Nat} {n:Nat} {L:Sl} {ds:List Deferred} {w:World} {K:Kt} {ops:Array Oper} {rest:List Oper} {d:Nat} {x y:Operand} {ty:TypeId} {pos:String} {af:Array Edge} {α:Type} {A:RT α}
theorem Rg.VP {t e e':TypeId} {i:Operand} {κ:IntKind} {j:Int} {M:aA} {base:Nat} {xs:List α} {v zv:Value} {bytes:Nat} (ht:P.underlying t=some (.slice e)) (hi:TI P e zv A.n bytes) (hA:0<A.n)
  (hx:ev L x=some v) (DT:ev L i=some (.int κ j)) (hd:Nat.blt d n=true) (ho:Own A e' M w base v xs) (hj:0≤j∧j<xs.length)
  (k:∀u a,xs[j.toNat]? =some a→JW A M w u a→Rg P r n ops rest ((d,u)::L) ds w K):
  Rg P r n ops ({dst:=some d,op:= .indexAddr t x i,type:=ty,pos,after:=af,guard:=none}::rest) L ds w K:=by
 have dB:j.toNat<xs.length:=by omega
 obtain⟨g,cap,vs,rfl,hm,h1,h2⟩:=ho.elem hA (aL dB);refine .op (fun _ h=>by cases h) rfl rfl hd (.pointer (some ⟨g,0+j.toNat*A.n,none⟩)) w (fun ρ h=>?_) (k _ xs[j.toNat] (aL dB) ⟨g,_,vs,rfl,h1,by rw[Nat.zero_add];exact h2⟩);simp only[execOp,h x _ hx,h i _ DT];simp[Instr.indexAt,run_underlying ht,asIntOf,hj,hi.sizeOf,Addr.add_mid]
theorem Rg.FT {t:TypeId} {fs:TypeDesc} {zv:Value} {bytes:Nat} {M:aA} {p:Value} {a:α} (hu:P.underlying t=some fs) (hf:fs.isRow=true) (hi:TI P t zv A.n bytes) (hg:A.agg=true)
  (hx:ev L x=some p) (hd:Nat.blt d n=true) (hp:JW A M w p a) (k:∀v,A.V M w a v→Rg P r n ops rest ((d,v)::L) ds w K):
  Rg P r n ops ({dst:=some d,op:= .load t x,type:=ty,pos,after:=af,guard:=none}::rest) L ds w K:=by
 obtain⟨b,o,vs,rfl,h1,h2⟩:=hp;refine .op (fun _ h=>by cases h) rfl rfl hd (.agg vs.toArray) w (fun ρ h=>?_) (k _ ⟨vs,h1,by simp[RT.val,hg]⟩);simp only[execOp,h x _ hx];obtain⟨i,uL,_,zU,_⟩:=hi.get;have:=run_loadAt_mid (P:=P) w b o t vs fs h2 hu hf (by simp[uL,zU,A.len h1]);simp[this]
end
end Go.K
namespace Go.K
open Go.Proofs
namespace TKBldC
theorem VQ:TI Tryz.prog 169 (.agg #[(.slice none 0 0),(.map none),(.int .i64 0),(.int .i64 0)]) 4 48:=by unfold TI;kernel_rfl
theorem VR:placesOf Tryz.prog 169=[(0,1),(1,1),(2,1),(3,1)].map some:=by kernel_rfl
end TKBldC
open TKBldC
set_option maxRecDepth 10000
open Go.Maps (Keyed)
theorem pD:Keyed Tryz.prog 9:=Go.Maps.string_keyed aD
theorem FU (k:List UInt8) (h:k.length≤140737488355328):∃l,keyOf Tryz.prog 9 (sv k)=some l:=by
 have e1:(⟨k.toArray⟩:ByteArray).size=k.length:=by simp[ByteArray.size]
 exact⟨_,Go.WideMaps.keyOf_string_mk aD (by rw[e1];unfold maxLen;omega)⟩
structure zg (Z:aA) (M:aA) (w:World) (B:Nat) (f:List UInt8→List Po) (K:List UInt8→Prop) (es:List MapEntry):Prop where
 o:∀k v,dE iP es (sv k) v→Own RT.po 153 M w B v (f k)
 a:∀k k' v v',k≠k'→dE iP es (sv k) v→dE iP es (sv k') v'→iE v v'
 k:∀x,(∃e∈es,e.key=sv x)↔K x
 z:∀k v c,dE iP es (sv k) v→v.ownBlock=some c→Z c
theorem zg.step {Z M M' N:aA} {w w':World} {B:Nat} {f:List UInt8→List Po} {K:List UInt8→Prop} {es:List MapEntry} (h:zg Z M w B f K es) (s:Step M w M' w' N) (hn:∀k v b,dE iP es (sv k) v→v.ownBlock=some b→¬N b):zg Z M' w' B f K es:=
 ⟨fun k v hv=>(h.o k v hv).step s fun b hb=>hn k v b hv hb,h.a,h.k,h.z⟩
theorem zg.bh {Z M M':aA} {w w':World} {B:Nat} {f:List UInt8→List Po} {K:List UInt8→Prop} {es:List MapEntry} (h:zg Z M w B f K es) (s:Step M w M' w' aC):zg Z M' w' B f K es:=h.step s fun _ _ _ _ _ h=>h
theorem zg.congr {Z M:aA} {w:World} {B:Nat} {f f':List UInt8→List Po} {K K':List UInt8→Prop} {es:List MapEntry} (h:zg Z M w B f K es) (hf:∀k,f' k=f k) (hK:∀k,K' k↔K k):zg Z M w B f' K' es:=
 ⟨fun k v hv=>by rw[hf];exact h.o k v hv,h.a,fun x=>(h.k x).trans (hK x).symm,h.z⟩
theorem zg.C9 {Z Z' M:aA} {w:World} {B:Nat} {f:List UInt8→List Po} {K:List UInt8→Prop} {es:List MapEntry} (h:zg Z M w B f K es) (hz:∀c,Z c→c<w.heap.size→Z' c):zg Z' M w B f K es:=
 ⟨h.o,h.a,h.k,fun k v c hv hc=>hz c (h.z k v c hv hc) ((h.o k v hv).base c hc).2⟩
theorem zg.put {Z M M2:aA} {w w1 w2:World} {B mb c:Nat} {mes:Array MapEntry} {f:List UInt8→List Po} {K:List UInt8→Prop} {es L5:List MapEntry} {k0:List UInt8} {v0 v1:Value} {ps:List Po} (h:zg Z M w B f K es) (hZ:∀c,w.heap.size≤c→Z c) (He:dE iP es (sv k0) v0)
  (SB:Own RT.po 153 (jm M v1) w1 B v1 (f k0++ps)) (s1:Step M w (jm M v1) w1 (iX v0)) (hF:∀b,v1.ownBlock=some b→w.heap.size≤b∨v0.ownBlock=some b) (hmb:w1.heap[mb]? =some (.map mes c)) (s2:Step (jm M v1) w1 M2 w2 (fun k=>k=mb))
  (xo:∀zv gy v',dE zv L5 gy v'↔(gy=sv k0∧v'=v1)∨(gy≠sv k0∧dE zv es gy v')) (mj:(L5.map (·.key)=es.map (·.key)∧∃e∈es,e.key=sv k0)∨(L5.map (·.key)=es.map (·.key)++[sv k0]∧∀e∈es,e.key≠sv k0)):
  zg Z M2 w2 B (fun k=>if k=k0 then f k0++ps else f k) (fun x=>K x∨x=k0) L5:=by
 have oe:∀k v,dE iP L5 (sv k) v→(k=k0∧v=v1)∨(k≠k0∧dE iP es (sv k) v):=fun k v hv=>by
  rcases(xo iP (sv k) v).1 hv with⟨h3,h4⟩|⟨h3,h4⟩
  ·exact .inl ⟨xq h3,h4⟩
  ·exact .inr ⟨fun e=>h3 (by rw[e]),h4⟩
 have Il:∀k v,k≠k0→dE iP es (sv k) v→iE v1 v:=fun k v eG hv=>(h.a k k0 v v0 eG hv He).symm.grown hF (fun b hb=>((h.o k v hv).base b hb).2)
 have Im:∀k v,k≠k0→dE iP es (sv k) v→Own RT.po 153 (jm M v1) w1 B v (f k):=fun k v eG hv=>(h.o k v hv).step s1 (fun b hb hk=>h.a k k0 v v0 eG hv He b hb hk)
 have TM:∀{v:Value} {xs:List Po},Own RT.po 153 (jm M v1) w1 B v xs→∀b,v.ownBlock=some b→¬b=mb:=fun ho b hb e=>ho.iQ hmb (by rw[←e];exact hb)
 refine⟨fun k v hv=>?_,fun k k' v v' eG hv nU=>?_,fun x=>?_,fun k v c hv hc=>?_⟩
 ·rcases oe k v hv with⟨rfl,rfl⟩|⟨h3,h4⟩
  ·rw[if_pos rfl];exact SB.step s2 (TM SB)
  ·rw[if_neg h3];exact(Im k v h3 h4).step s2 (TM (Im k v h3 h4))
 ·rcases oe k v hv with⟨rfl,rfl⟩|⟨h3,h4⟩
  ·rcases oe k' v' nU with⟨rfl,_⟩|⟨h5,h6⟩
   ·exact absurd rfl eG
   ·exact Il k' v' h5 h6
  ·rcases oe k' v' nU with⟨rfl,rfl⟩|⟨h5,h6⟩
   ·exact(Il k v h3 h4).symm
   ·exact h.a k k' v v' eG h4 h6
 ·have ly:(∃e∈L5,e.key=sv x)↔sv x∈L5.map (·.key):=by simp
  have VS:(∃e∈es,e.key=sv x)↔sv x∈es.map (·.key):=by simp
  rw[ly,←h.k x,VS];rcases mj with⟨h3,e,he,hk⟩|⟨h3,_⟩
  ·rw[h3];constructor
   ·exact .inl
   ·rintro(h4|rfl)
    ·exact h4
    ·rw[←hk];exact fg he
  ·rw[h3,dm,cE];constructor
   ·rintro(h4|h4)
    ·exact .inl h4
    ·exact .inr (xq h4)
   ·rintro(h4|rfl)
    ·exact .inl h4
    ·exact .inr rfl
 ·rcases oe k v hv with⟨rfl,rfl⟩|⟨h3,h4⟩
  ·rcases hF c hc with h5|h5
   ·exact hZ c h5
   ·exact h.z _ _ c He h5
  ·exact h.z k v c h4 hc
theorem Iz (Z M:aA) (w:World) (B:Nat):zg Z M w B (pk []) (fun x=>x∈gA []) [] where
 o k v hv:=by
  rcases hv with⟨e,he,_⟩|⟨_,rfl⟩
  ·cases he
  ·exact ec _ _ _ _ _
 a k k' v v' _ hv _:=by
  rcases hv with⟨e,he,_⟩|⟨_,rfl⟩
  ·cases he
  ·exact(iE.nil v').symm
 k x:=by simp[gA]
 z k v c hv hc:=by
  rcases hv with⟨e,he,_⟩|⟨_,rfl⟩
  ·cases he
  ·cases hc
structure ZI (Z M:aA) (w:World) (B b mb:Nat) (vl:Value) (L:List En) (words last:Int) (f:List UInt8→List Po) (K:List UInt8→Prop) (es:List MapEntry) (clock:Nat):Prop where
 at_:w.heap[b]? =some (.cells #[vl,.map (some mb),.int .i64 words,.int .i64 last] 169 (0,0))
 m:M b
 mm:M mb
 hb:Z b
 hmb:Z mb
 l:Own RT.en 43 M w B vl L
 map:eu Tryz.prog 9 w mb es clock
 rows:zg Z M w B f K es
 zl:∀c,vl.ownBlock=some c→Z c
def lu (Z M:aA) (w:World) (B b:Nat) (L:List En) (words last:Int):Prop:=∃mb vl es clock,ZI Z M w B b mb vl L words last (pk L) (fun x=>x∈gA L) es clock
theorem lu.bh {Z M M':aA} {w w':World} {B b:Nat} {L:List En} {words last:Int} (h:lu Z M w B b L words last) (s:Step M w M' w' aC):lu Z M' w' B b L words last:=by
 obtain⟨mb,vl,es,clock,h1,h2,h3,h4,h5,h6,h7,h8,h9⟩:=h;exact⟨mb,vl,es,clock,s.aI h1,(s.mem _ (ak h1)).2 h2,(s.mem _ (ak h7.at_)).2 h3,h4,h5,h6.bh s,h7.bh s,h8.bh s,h9⟩
theorem lu.C9 {Z Z' M:aA} {w:World} {B b:Nat} {L:List En} {words last:Int} (h:lu Z M w B b L words last) (hz:∀c,Z c→c<w.heap.size→Z' c):lu Z' M w B b L words last:=by
 obtain⟨mb,vl,es,clock,h1,h2,h3,h4,h5,h6,h7,h8,h9⟩:=h;exact⟨mb,vl,es,clock,h1,h2,h3,hz _ h4 (ak h1),hz _ h5 (ak h7.at_),h6,h7,h8.C9 hz,fun c hc=>hz c (h9 c hc) (h6.base c hc).2⟩
theorem lu.step {Z M M' N:aA} {w w':World} {B b:Nat} {L:List En} {words last:Int} (h:lu Z M w B b L words last) (s:Step M w M' w' N) (hn:∀k,N k→¬Z k):lu Z M' w' B b L words last:=by
 obtain⟨mb,vl,es,clock,h1,h2,h3,h4,h5,h6,h7,h8,h9⟩:=h;exact⟨mb,vl,es,clock,s.bF h1 (fun hk=>hn _ hk h4),(s.mem _ (ak h1)).2 h2,(s.mem _ (ak h7.at_)).2 h3,h4,h5,h6.step s (fun c hc hk=>hn _ hk (h9 c hc)),h7.step s (fun hk=>hn _ hk h5),h8.step s (fun k v c hv hc hk=>hn _ hk (h8.z k v c hv hc)),h9⟩
theorem lu.stepT {Z M M' N:aA} {w w':World} {B b:Nat} {L:List En} {words last:Int} (h:lu Z M w B b L words last) (s:Step M w M' w' N) (hn:∀k,N k→∃cs t,w.heap[k]? =some (.cells cs t (0,0))∧t≠169∧t≠43∧t≠153):lu Z M' w' B b L words last:=by
 obtain⟨mb,vl,es,clock,h1,h2,h3,h4,h5,h6,h7,h8,hz⟩:=h;refine⟨mb,vl,es,clock,s.bF h1 (fun hk=>?_),(s.mem _ (ak h1)).2 h2,(s.mem _ (ak h7.at_)).2 h3,h4,h5,h6.step s (fun c hc hk=>?_),h7.step s (fun hk=>?_),h8.step s (fun k v c hv hc hk=>?_),hz⟩
 ·obtain⟨cs,t,h9,Da,_⟩:=hn _ hk;rw[h1]at h9;simp at h9;exact Da h9.2.symm
 ·obtain⟨cs,t,h9,_,Da,_⟩:=hn _ hk;exact h6.eL h9 Da hc
 ·obtain⟨cs,t,h9,_⟩:=hn _ hk;rw[h7.at_]at h9;cases h9
 ·obtain⟨cs,t,h9,_,_,Da⟩:=hn _ hk;exact(h8.o k v hv).eL h9 Da hc
def FV (M Z:aA):aA:=fun k=>Z k∧M k
theorem dE.ex (zv:Value) (es:List MapEntry) (key:Value):∃v,dE zv es key v:=by
 by_cases h:∃e∈es,e.key=key
 ·obtain⟨e,he,hk⟩:=h;exact⟨e.val,.inl ⟨e,he,hk,rfl⟩⟩
 ·exact⟨zv,.inr ⟨fun e he hk=>h ⟨e,he,hk⟩,rfl⟩⟩
def jH (last:Int) (e:En):Int:=if kn e.1≠0 then kn e.1 else if e.2≤last then 12 else 0
def FX (L:List En) (tl:List (Fd×Nat)) (i:Nat) (k:List UInt8):List Po:=pk L k++(((cD tl).take i).filter fun t=>decide (de t=k)).map fun t=>((L.length:Int),posOf tl t)
theorem FY (L:List En) (tl:List (Fd×Nat)) (k:List UInt8):FX L tl 0 k=pk L k:=by simp[FX]
theorem FZ {L:List En} {tl:List (Fd×Nat)} {i:Nat} {t:Fd} (h:(cD tl)[i]? =some t) (k:List UInt8):FX L tl (i+1) k=if k=de t then FX L tl i (de t)++[((L.length:Int),posOf tl t)]else FX L tl i k:=by
 unfold FX;rw[cd,h,cZ,List.filter_append,jB]
 split
 ·rename_i e;subst e;simp
 ·rename_i e
  have: ¬de t=k:=fun h=>e h.symm
  simp[this]
theorem IA {L:List En} {e:En} {i:Nat} (h:(cD (oR e)).length≤i) (k:List UInt8):FX L (oR e) i k=pk (L++[e]) k:=by
 unfold FX;rw[Iq,bp h];rfl
theorem IB {L:List En} (hF:∀x∈L,iB x.1) (tl:List (Fd×Nat)) (i:Nat) (k:List UInt8):(FX L tl i k).length≤L.length+(cD tl).length:=by
 unfold FX;have h1:=(qm k L 0 hF).1;have h2:=List.length_filter_le (fun t=>decide (de t=k)) ((cD tl).take i);have h3:=List.length_take_le i (cD tl);have h4:(pk L k).length≤L.length:=h1;simp only[bL,db,bS]at*;omega
theorem vI {d:Dc} (hF:iB d):(cD (b5 d.2)).length≤500:=by
 have h1:=(pA hF.Ip).nodup.length_le_of_subset (l₂:=(b5 d.2).map (·.1)) (fun t ht=>(iR hF.Ip).1 ht);have:=hF.many;simp at h1;omega
theorem iB.term {d:Dc} (hF:iB d) {t:Fd} (h:t∈cD (b5 d.2)):t.1.length≤12∧t.2.length≤30:=by
 obtain⟨p,hp,rfl⟩:=cF.1 ((iR hF.Ip).1 h);exact hF.small p hp
theorem F0 {Z M:aA} {B:Nat} (w0:World) (hM:Lt M w0) (hB:B≤w0.heap.size) (hZ:∀k,w0.heap.size≤k→Z k):
  Spec Tryz.prog 56 #[] w0 (fun v w=>∃M' b,v= .pointer (some ⟨b,0,none⟩)∧Lt M' w∧lu Z M' w B b [] 0 (-1)∧Step M w0 M' w aC):=by
 refine aX (args:=[]) (fn:=Tryz.f56) Tryz.func56 rfl (n:=4) Tryz.ntmps56 ?_;have S:Step M w0 M w0 aC:=(an _ _).cc (fun _ h=>h.elim) (fun _ h=>h.elim);refine aj (ah (ai rfl rfl (ad (aj (ah ?_)))));refine Rg.yT M fP rfl (fun mb w1m p1 q1 gW s1=>?_);obtain⟨L4,FO⟩:∃M',M'=ins M mb:=⟨_,rfl⟩;rw[←FO]at s1;have xv:L4 mb:=by rw[FO];exact .inl rfl
 replace hM:=s1.lt hM;have:=S.size;replace S:=S.ay s1;refine dZ (places:=[(0,1),(1,1),(2,1),(3,1)]) dg VQ VR rfl ⟨_,_,rfl,rfl,_,_,rfl,rfl,rfl⟩ (out:=[.slice none 0 0,_,.int .i64 0,_]) ⟨1,[_],rfl,rfl,by simp[Value.cells],3,[_],rfl,rfl,by simp[Value.cells],rfl⟩ ?_;refine oT L4 rfl rfl (fun L6 Ie adr ads fF mD=>?_);obtain⟨Qi,F1⟩:∃M',M'=ins L4 L6:=⟨_,rfl⟩;rw[←F1]at mD;have L7:Qi L6:=by rw[F1];exact .inl rfl
 change Ie.heap[L6]? =some (.cells #[.slice none 0 0,.map (some mb),.int .i64 0,.int .i64 (-1)] _ _)at fF;replace xv:=(mD.mem _ (ak gW.at_)).2 xv;replace gW:=gW.bh mD;replace hM:=mD.lt hM;have:=S.size;replace S:=S.ay mD;refine ai rfl rfl (ad (aJ ?_));exact aO rfl rfl ⟨_,_,rfl,hM,⟨mb,_,[],0,fF,L7,xv,hZ _ (by omega),hZ _ (by omega),ec _ _ _ _ _,gW,Iz _ _ _ _,fun c hc=>by cases hc⟩,S⟩
end Go.K
namespace Go.K
open Go.Proofs
namespace TKBldD
theorem Qj:TI Tryz.prog 37 (.slice none 0 0) 1 24:=by unfold TI;kernel_rfl
theorem jI:TI Tryz.prog 107 (.slice none 0 0) 1 24:=by unfold TI;kernel_rfl
theorem A0:TI Tryz.prog 167 (.map none) 1 8:=by unfold TI;kernel_rfl
theorem VT:Enters Tryz.prog 107:=enters Tryz.func107 rfl (by decide)
theorem VU:Enters Tryz.prog 108:=enters Tryz.func108 rfl (by decide)
theorem VV:Enters Tryz.prog 109:=enters Tryz.func109 rfl (by decide)
theorem VW:Enters Tryz.prog 110:=enters Tryz.func110 rfl (by decide)
end TKBldD
open TKBldD
set_option maxRecDepth 10000
set_option maxHeartbeats 4000000 in
theorem F2 {Z M:aA} {B b:Nat} {L:List En} {words last:Int} {e:En} {v0:Value} (w0:World) (hM:Lt M w0) (hZ:∀k,w0.heap.size≤k→Z k) (hb:lu Z M w0 B b L words last) (hBw:B≤w0.heap.size) (hv:RT.en.V M w0 e v0) (hl:∀f∈e.1.2,f.1.length≤900000∧f.2.length≤900000) (hLF:∀x∈L,iB x.1) (ZJ:L.length≤1000000) (hw:0≤words∧words≤1000000000):
  Spec Tryz.prog 57 #[.pointer (some ⟨b,0,none⟩),v0] w0 (fun v w=>∃M',Lt M' w∧Step M w0 M' w (FV M Z)∧v= .int .i64 (jH last e)∧(jH last e≠0→lu Z M' w B b L words last)∧(jH last e=0→lu Z M' w B b (L++[e]) (words+((oR e).length:Int)) e.2)):=by
 obtain⟨mb,vl,es,clock,gb,dz,dT,hB,B7,ho,hW,hR,zl⟩:=hb;have JQ:b≠mb:=fun h=>by have:=hW.at_;rw[←h,gb]at this;cases this
 refine aX (args:=[_,_]) (fn:=Tryz.f57) Tryz.func57 rfl (n:=89) Tryz.ntmps57 ?_;have S:Step M w0 M w0 (FV M Z):=(an _ _).cc (fun _ h=>h.elim) (fun _ h=>h.2);refine aj (ah ?_);refine kh (A:=RT.en) rfl rfl hM hv rfl (fun u0 w1 cA s0 _=>?_);have:=ak gb;replace dz:=(s0.mem _ this).2 dz;replace gb:=s0.aI gb;replace ho:=ho.bh s0;replace dT:=(s0.mem _ (ak hW.at_)).2 dT;replace hW:=hW.bh s0;replace hR:=hR.bh s0;replace hM:=s0.lt hM;have:=S.size;replace S:=S.ay s0;refine ai rfl rfl (ad (aj (aj (ah ?_))));refine aH (M:=M) (A:=RT.en) (B:=RT.dc) cO rfl rfl kL (by decide) PA rfl rfl (by decide) cA (aq _ _) (fun uk jw=>?_);refine cx (M:=M) (A:=RT.dc) aN rfl kL (by decide) rfl rfl rfl jw (aq _ _) (fun um kA=>?_);refine aP rfl rfl VT (EW _ hM kA hl) (fun r2 w2 hc=>?_);obtain⟨rfl,s2⟩:=hc;have:=ak gb;replace dz:=(s2.mem _ this).2 dz;replace gb:=s2.aI gb;replace cA:=cA.le (by decide) s2.le;replace ho:=ho.bh s2;replace dT:=(s2.mem _ (ak hW.at_)).2 dT;replace hW:=hW.bh s2;replace hR:=hR.bh s2;replace hM:=s2.lt hM;have:=S.size;replace S:=S.ay s2;refine ai rfl rfl (ad (aj (ah (ae rfl rfl (eV rfl rfl rfl (ad ?_))))));refine bI rfl (fun c2=>?_) (fun c2=>?_)
 ·refine aj (ah (ae rfl rfl (ai rfl rfl (ad (aJ ?_)))));have ea:jH last e=kn e.1:=if_pos c2;exact aO rfl rfl ⟨_,hM,S,by rw[ea],fun _=>⟨mb,vl,es,clock,gb,dz,dT,hB,B7,ho,hW,hR,zl⟩,fun h=>absurd (ea▸h) c2⟩
 ·have hF:iB e.1:=B9 (by simpa using c2);refine aU (aj (aj ?_));apply T.kJ mixed rfl rfl;intro ZK sA4;have vJ:=sA4 M;have:=ak gb;replace dz:=(vJ.mem _ this).2 dz;replace gb:=vJ.aI gb;replace cA:=cA.le (by decide) vJ.le;replace ho:=ho.bh vJ;replace dT:=(vJ.mem _ (ak hW.at_)).2 dT;replace hW:=hW.bh vJ;replace hR:=hR.bh vJ;replace hM:=vJ.lt hM;have:=S.size;replace S:=S.ay vJ;refine aH (M:=M) (A:=RT.en) (B:=RT.int .i64) cO rfl rfl I3 (by decide) Sn rfl rfl (by decide) cA (aq _ _) (fun Ln BZ=>?_);refine ad ⟨rfl,rfl,rfl,?_⟩;refine cb (M:=M) ar rfl rfl (by assumption) (by repeat (first|exact aq _ _|refine aT (aY (by assumption)) ?_)) (fun JX=>?_);refine bu (v':= .int .i64 (e.2)) rfl ?_;replace JX: -9223372036854775808≤(e.2:Int)∧e.2≤9223372036854775807:=JX;refine ad ⟨rfl,rfl,rfl,?_⟩;refine ae rfl rfl ?_;refine ad ⟨rfl,rfl,rfl,?_⟩;refine aR rfl ⟨_,rfl⟩ rfl ?_;refine ad ⟨rfl,rfl,rfl,?_⟩;refine aS (o':=3) dg rfl rfl I3 (by decide) rfl rfl ?_;refine ad ⟨rfl,rfl,rfl,?_⟩;refine aE ar rfl rfl rfl (by first|assumption|exact bV vJ (by assumption)) rfl ?_;refine ad ⟨rfl,rfl,rfl,?_⟩;refine eP rfl rfl rfl ?_;refine ad ⟨rfl,rfl,rfl,?_⟩;refine fy ?_;refine bI rfl (fun c4=>?_) (fun c4=>?_)
  ·refine aj (ah (ai rfl rfl (ad (aJ ?_))));have ea:jH last e=12:=by unfold jH;rw[if_neg (fun h=>h (by simpa using c2)),if_pos c4]
   exact aO rfl rfl ⟨_,hM,S,by rw[ea],fun _=>⟨mb,vl,es,clock,gb,dz,dT,hB,B7,ho,hW,hR,zl⟩,fun h=>absurd (ea▸h) (by decide)⟩
  ·refine aU (aj (ah ?_));refine aH (M:=M) (A:=RT.en) (B:=RT.dc) cO rfl rfl kL (by decide) PA rfl rfl (by decide) cA (aq _ _) (fun PL E7=>?_);refine cx (M:=M) (A:=RT.dc) aN rfl kL (by decide) rfl rfl rfl E7 (aq _ _) (fun LG td=>?_);refine aP rfl rfl VU (zd _ hM td hF hl) (fun r6 w6 hc=>?_);obtain⟨a6,b6,rfl,ha,nQ,s6⟩:=hc;have:=ak gb;replace dz:=(s6.mem _ this).2 dz;replace gb:=s6.aI gb;replace cA:=cA.le (by decide) s6.le;replace ho:=ho.bh s6;replace dT:=(s6.mem _ (ak hW.at_)).2 dT;replace hW:=hW.bh s6;replace hR:=hR.bh s6;replace hM:=s6.lt hM;have:=S.size;replace S:=S.ay s6;refine ae rfl rfl (bP rfl rfl rfl (bP rfl rfl rfl (ai rfl rfl (ai rfl rfl (ad (aj (aj (ah (ae rfl rfl (bU iC rfl ha rfl (ae rfl rfl ?_)))))))))));refine ad (a8 ?_);refine dC (σ:=Nat) (fun q=>[(0,.pointer (some ⟨b,0,none⟩)),(3,u0),(7,b6),(30,a6),(31,.int .i64 ((cD (oR e)).length:Int)),(32,.int .i64 (q:Int))]) (fun q w=>∃M' es clock,Lt M' w∧Step M w0 M' w (FV M Z)∧ch RT.en M' w u0 e∧(RT.fd.sl).V M' w (cD (oR e)) a6∧(((RT.int .i64).sl).sl).V M' w ((cD (oR e)).map (posOf (oR e))) b6∧ZI Z M' w B b mb vl L words last (FX L (oR e) q) (fun x=>x∈gA L∨x∈((cD (oR e)).take q).map de) es clock∧q≤(cD (oR e)).length) (fun q=>(cD (oR e)).length-q) 0 (.cons rfl (.cons rfl (.cons rfl (.cons rfl (.cons rfl (.cons rfl .nil)))))) ?_ ?_
   ·exact⟨_,es,clock,hM,S,cA,ha,nQ,⟨gb,dz,dT,hB,B7,ho,hW,hR.congr (fun k=>FY _ _ _) (fun k=>by simp),zl⟩,bG _⟩
   ·clear hM S cA ha nQ gb dz dT ho hW hR;rintro i w ⟨M1,es,clock,hM,S,cA,ha,nQ,⟨gb,dz,dT,_,_,ho,hW,hR,_⟩,hi⟩;refine aj (ah (cf rfl rfl rfl (ad (aj ?_))));refine bI rfl (fun c8=>?_) (fun c8=>?_)
    ·refine aU (aj (a8 (aj (ah (ae rfl rfl ?_)))));refine dq (M:=M1) iC qM rfl rfl rfl ha (aq _ _) (by omega) (fun VX t Hm F3=>?_);rw[az]at Hm;have HG:=aM Hm;have Ea:=hF.term HG;refine cx (M:=M1) (A:=RT.fd) b9 rfl qM (by decide) rfl rfl rfl F3 (aq _ _) (fun VY F4=>?_);obtain rfl:=kN F4;refine eW M1 qM rfl (fun tx O9 adv adw l0 nc=>?_);obtain⟨qU,F5⟩:∃M',M'=ins M1 tx:=⟨_,rfl⟩;rw[←F5]at nc;have xw:qU tx:=by rw[F5];exact .inl rfl
     change O9.heap[tx]? =some (.cells #[.string ⟨#[]⟩,.string ⟨#[]⟩] _ _)at l0;have:=ak gb;replace dz:=(nc.mem _ this).2 dz;replace gb:=nc.aI gb;replace cA:=cA.le (by decide) nc.le;replace ha:=ha.le nc.le;replace nQ:=nQ.le nc.le;replace ho:=ho.bh nc;replace dT:=(nc.mem _ (ak hW.at_)).2 dT;replace hW:=hW.bh nc;replace hR:=hR.bh nc;replace hM:=nc.lt hM;have:=S.size;replace S:=S.ay nc;refine ai rfl rfl ?_;refine fa (M:=qU) (vs:=[.string ⟨t.1.toArray⟩,.string ⟨t.2.toArray⟩]) qM rfl rfl (AX rfl F4) rfl rfl l0 xw (fun w9 g9 s9=>?_);have:=ak gb;replace dz:=(s9.mem _ this).2 dz;replace gb:=s9.bF gb (fun hk=>by have hk:_=_:=hk;omega);have:=ak l0;replace xw:=(s9.mem _ this).2 xw;replace cA:=cA.le (by decide) s9.le;replace ha:=ha.le s9.le;replace nQ:=nQ.le s9.le;replace ho:=ho.step s9 (fun c hc (h:_=_)=>by first|exact ho.eL gb (by decide) (h▸hc)|exact ho.eL l0 (by decide) (h▸hc));replace dT:=(s9.mem _ (ak hW.at_)).2 dT;replace hW:=hW.step s9 (by first|exact fun h=>ho.iQ hW.at_ h|exact fun(h:mb=b)=>JQ h.symm|exact fun(h:mb=tx)=>by have h9:=hW.at_;rw[h,l0]at h9;cases h9);replace hR:=hR.step s9 (by first|exact fun k v c hv hc h=>(hR.o k v hv).ir ho (by decide) hc h|exact fun k v c hv hc (h:c=b)=>(hR.o k v hv).eL gb (by decide) (h▸hc)|exact fun k v c hv hc (h:c=tx)=>(hR.o k v hv).eL l0 (by decide) (h▸hc));replace hM:=s9.lt hM;have:=S.size;replace S:=S.trans s9 (fun k hk h=>by have h:_=_:=h;subst h;first|(exfalso;omega)|(show _≤_;omega)|exact⟨by first|omega|assumption,(S.mem _ hk).1 ((s9.mem _ (ak l0)).1 xw)⟩|exact .inl rfl|exact .inr rfl|exact .inr (.inl rfl)|exact .inr (.inr rfl)|exact rfl);have JY:=g9;clear l0;have l0:=JY;clear JY;refine ad (aj (ah (ia (vs:=[.string ⟨t.1.toArray⟩,.string ⟨t.2.toArray⟩]) b9 rfl qM rfl rfl rfl l0 ?_)));refine aP rfl rfl Si (Fx (t:=t) _ hM (by omega) (by omega)) (fun Zl NM hc=>?_)
     obtain⟨rfl,pq⟩:=hc;have:=ak gb;replace dz:=(pq.mem _ this).2 dz;replace gb:=pq.aI gb;replace cA:=cA.le (by decide) pq.le;replace ha:=ha.le pq.le;replace nQ:=nQ.le pq.le;replace ho:=ho.bh pq;replace dT:=(pq.mem _ (ak hW.at_)).2 dT;replace hW:=hW.bh pq;replace hR:=hR.bh pq;replace hM:=pq.lt hM;have:=S.size;replace S:=S.ay pq;refine ai rfl rfl (ad ?_);obtain⟨v10,uA⟩:=dE.ex iP es (sv (de t));apply T.nV 21 [0,1,2,3,4,5,6,7,8,9,10] 2 (iX v10) mixed rfl rfl rfl rfl;intro IC L8;have ju:=L8 qU;have:=ak gb;replace dz:=(ju.mem _ this).2 dz;replace gb:=ju.aI gb;replace cA:=cA.le (by decide) ju.le;replace ha:=ha.le ju.le;replace nQ:=nQ.le ju.le;replace ho:=ho.bh ju;replace dT:=(ju.mem _ (ak hW.at_)).2 dT;replace hW:=hW.bh ju;replace hR:=hR.bh ju;replace hM:=ju.lt hM;have:=S.size;replace S:=S.ay ju;refine ae rfl rfl ?_;refine ad ⟨rfl,rfl,rfl,?_⟩;refine aR rfl ⟨_,rfl⟩ rfl ?_;refine ad ⟨rfl,rfl,rfl,?_⟩;refine aS (o':=1) dg rfl rfl A0 (by decide) rfl rfl ?_;refine ad ⟨rfl,rfl,rfl,?_⟩;refine aE fP rfl rfl rfl (by first|assumption|exact bV ju (by assumption)) rfl ?_;refine ad ⟨rfl,rfl,rfl,?_⟩;refine ae rfl rfl ?_;refine ad ⟨rfl,rfl,rfl,?_⟩;refine ae rfl rfl ?_;refine ad ⟨rfl,rfl,rfl,?_⟩;refine aR rfl ⟨_,rfl⟩ rfl ?_;refine ad ⟨rfl,rfl,rfl,?_⟩;refine aS (o':=1) dg rfl rfl A0 (by decide) rfl rfl ?_;refine ad ⟨rfl,rfl,rfl,?_⟩;refine aE fP rfl rfl rfl (by first|assumption|exact bV ju (by assumption)) rfl ?_;refine ad ⟨rfl,rfl,rfl,?_⟩;refine ae rfl rfl ?_;refine ad ⟨rfl,rfl,rfl,?_⟩;obtain⟨kl,Cz⟩:=FU (de t) (by unfold de;simp;omega);refine Rg.pw fP pD jI rfl rfl rfl Cz hW (fun VZ V0=>?_);obtain rfl:v10=VZ:=hW.val_one uA V0
     have yc:=IB hLF (oR e) i (de t);have Jq:(cD (oR e)).length≤500:=vI hF;refine ad ⟨rfl,rfl,rfl,?_⟩;refine ae rfl rfl ?_;refine ad ⟨rfl,rfl,rfl,?_⟩;refine aR rfl ⟨_,rfl⟩ rfl ?_;refine ad ⟨rfl,rfl,rfl,?_⟩;refine aS (o':=0) dg rfl rfl Qj (by decide) rfl rfl ?_;refine ad ⟨rfl,rfl,rfl,?_⟩;refine aE gh rfl rfl rfl (by first|assumption|exact bV ju (by assumption)) rfl ?_;refine ad ⟨rfl,rfl,rfl,?_⟩;refine gC gh rfl ho rfl ?_;refine ad ⟨rfl,rfl,rfl,?_⟩;refine ae rfl rfl ?_;refine ad ⟨rfl,rfl,rfl,?_⟩;refine ae rfl rfl ?_;refine ad ⟨rfl,rfl,rfl,?_⟩;refine dq (M:=qU) Tryz.underlying171 nM rfl rfl rfl nQ (aq _ _) (by simp;omega) (fun u18 ps Qk V1=>?_);rw[az,ew,Hm]at Qk;obtain rfl:=bM Qk;refine ad ⟨rfl,rfl,rfl,?_⟩;refine cg (M:=qU) au rfl rfl rfl rfl rfl V1 (aq _ _) (fun v19 Ql=>?_);refine ad ⟨rfl,rfl,rfl,?_⟩;refine dZ (places:=[(0,1),(1,1)]) bJ gw HR rfl ⟨_,_,rfl,rfl,_,_,rfl,rfl,rfl⟩ (out:=[_,_]) ⟨0,[_],rfl,rfl,by simp[Value.cells],1,[_],rfl,ij Ql,by simp[Value.cells],rfl⟩ ?_;have F6:RT.po.V qU _ ((L.length:Int),posOf (oR e) t) _:=dY (gp (by omega)) Ql rfl rfl rfl rfl;refine ad ⟨rfl,rfl,rfl,?_⟩;refine fy ?_;have od:=hR.o _ _ uA;refine⟨iA ⟨fc,⟨bR.nilCheck rfl,⟨jA dg rfl A0 (by decide),⟨fJ rfl gb (fun h=>od.eL gb (by decide) h),⟨fc,⟨fc,⟨bR.nilCheck rfl,⟨jA dg rfl A0 (by decide),⟨fJ rfl gb (fun h=>od.eL gb (by decide) h),⟨fc,⟨bR.pw fP pD jI rfl rfl Cz hW (fun h=>od.iQ hW.at_ h),trivial⟩⟩⟩⟩⟩⟩⟩⟩⟩⟩⟩,?_⟩;have kp:=km (iX v10) IC;refine eE (A:=RT.po) (hn:=by decide) (M:=qU) aW gw (by decide) rfl rfl hM (F6) (.inl rfl) (fun V2 V3 ID kd=>?_)
     have:=ak gb;replace dz:=(kd.mem _ this).2 dz;replace gb:=kd.aI gb;replace cA:=cA.le (by decide) kd.le;replace ha:=ha.le kd.le;replace nQ:=nQ.le kd.le;replace ho:=ho.bh kd;replace dT:=(kd.mem _ (ak hW.at_)).2 dT;replace hW:=hW.bh kd;replace hR:=hR.bh kd;replace hM:=kd.lt hM;have:=S.size;replace S:=S.ay kd;refine(fun(kp:eg _ _ _)=>ad ⟨rfl,rfl,fun _=>kp,?_⟩) (by first|exact kp|exact kp.pX (by assumption)|exact kp.goN (by assumption)|exact kp.go (by assumption) (fun _ _ h=>by first|exact h|exact h.elim));refine Rg.kq (M:=qU) (base:=B) aW gw rfl rfl rfl rfl (hR.o _ _ uA) ID (aq _ _) (by simp;omega) (by simp;omega) (by have:=S.size;omega) (fun v22 w22 V4 F7 V5=>?_);have od:=hR.o _ _ uA;have ZL:=hW.at_;have Qm:v10.ownBlock≠some mb:=od.iQ hW.at_;have JZ:=ho.step F7 (fun c hc h=>ho.ir od (by decide) hc h);have A1:=(F7.mem _ (ak hW.at_)).2 dT;have IE:=hW.step F7 Qm;have Qn:=F7.bF gb (fun h=>od.eL gb (by decide) h);have L9:=(F7.mem _ (ak gb)).2 dz;have ZM:=S.trans F7 (fun k hk h=>⟨hR.z _ _ k uA h,(S.mem k hk).1 (od.mut_ k h)⟩);have V6:=F7.lt hM;replace cA:=cA.le (by decide) F7.le;replace ha:=ha.le F7.le;replace nQ:=nQ.le F7.le;refine(fun(kp:eg _ _ _)=>ad ⟨rfl,rfl,fun _=>kp,?_⟩) (by first|exact kp|exact kp.pX (by assumption)|exact kp.goN (by assumption)|exact kp.go (by assumption) (fun _ _ h=>by first|exact h|exact h.elim));refine Rg.Ir fP pD rfl rfl rfl Cz IE A1 (fun w23 V7 V8 V9 Wa Mc Hp=>?_);have Wb:=hR.put (fun c hc=>hZ c (by have:=S.size;omega)) uA V4 F7 V5 IE.at_ Hp Mc Wa;replace cA:=cA.le (by decide) Hp.le;replace ha:=ha.le Hp.le;replace nQ:=nQ.le Hp.le;have Wc:=JZ.step Hp (fun c hc (h:c=mb)=>JZ.iQ IE.at_ (h▸hc));have Wd:=Hp.bF Qn JQ;have Md:=(Hp.mem _ (ak Qn)).2 L9
     have Me:=(Hp.mem _ (ak IE.at_)).2 A1;have We:=Hp.lt V6;have S23:=ZM.trans Hp (fun k hk (h:k=mb)=>⟨by rw[h];exact B7,(ZM.mem k hk).1 (by rw[h];exact A1)⟩);refine ad ⟨rfl,rfl,fun h=>absurd rfl h,?_⟩;refine qA (ah (bA rfl rfl rfl (by omega) (ae rfl rfl (ad ?_))));refine⟨rfl,i+1,(.cons rfl (.cons rfl (.cons rfl (.cons rfl (.cons rfl (.cons rfl .nil)))))),?_,?_⟩
     ·exact⟨_,V7,V8,We,S23,cA,ha,nQ,⟨Wd,Md,Me,hB,B7,Wc,V9,Wb.congr (fun k=>FZ Hm k) (fun k=>by rw[cd,Hm,cZ,jB,dm,or_assoc];simp),zl⟩,by omega⟩
     ·omega
    ·refine cM (aj ?_);apply T.nV 6 [0,1,2,3,4] 3 (iX vl) mixed rfl rfl rfl rfl;intro Ls Lu;have lW:=Lu M1;have:=ak gb;replace dz:=(lW.mem _ this).2 dz;replace gb:=lW.aI gb;replace cA:=cA.le (by decide) lW.le;replace ha:=ha.le lW.le;replace nQ:=nQ.le lW.le;replace ho:=ho.bh lW;replace dT:=(lW.mem _ (ak hW.at_)).2 dT;replace hW:=hW.bh lW;replace hR:=hR.bh lW;replace hM:=lW.lt hM;have:=S.size;replace S:=S.ay lW;refine ae rfl rfl ?_;refine ad ⟨rfl,rfl,rfl,?_⟩;refine ae rfl rfl ?_;refine ad ⟨rfl,rfl,rfl,?_⟩;refine aR rfl ⟨_,rfl⟩ rfl ?_;refine ad ⟨rfl,rfl,rfl,?_⟩;refine aS (o':=0) dg rfl rfl Qj (by decide) rfl rfl ?_;refine ad ⟨rfl,rfl,rfl,?_⟩;refine aE gh rfl rfl rfl gb rfl (bu (v':=vl) rfl ?_);refine ad ⟨rfl,rfl,rfl,?_⟩;refine cx (M:=M1) (A:=RT.en) cO rfl yq (by decide) rfl rfl rfl cA (aq _ _) (fun JI xf=>?_);refine ad ⟨rfl,rfl,rfl,?_⟩;refine fy ?_;refine⟨iA ⟨fc,⟨fc,⟨bR.nilCheck rfl,⟨jA dg rfl Qj (by decide),⟨fJ rfl gb (fun h=>ho.eL gb (by decide) h),trivial⟩⟩⟩⟩⟩,?_⟩;have kp:=km (iX vl) Ls;refine aP rfl rfl VV (FK _ hM xf (by have:=hF.few;omega)) (fun ZN Qo hc=>?_);obtain⟨A2,uB⟩:=hc;have:=ak gb;replace dz:=(uB.mem _ this).2 dz;replace gb:=uB.aI gb;replace cA:=cA.le (by decide) uB.le;replace ha:=ha.le uB.le;replace nQ:=nQ.le uB.le;replace ho:=ho.bh uB;replace dT:=(uB.mem _ (ak hW.at_)).2 dT;replace hW:=hW.bh uB;replace hR:=hR.bh uB;replace hM:=uB.lt hM;have:=S.size;replace S:=S.ay uB;refine(fun(kp:eg _ _ _)=>ad ⟨rfl,rfl,fun _=>kp,?_⟩) (by first|exact kp|exact kp.pX (by assumption)|exact kp.goN (by assumption)|exact kp.go (by assumption) (fun _ _ h=>by first|exact h|exact h.elim));refine eE (A:=RT.en) (hn:=by decide) (M:=M1) gh yq (by decide) rfl rfl hM (A2) (.inl rfl) (fun ZO ZQ Mf mq=>?_)
     have:=ak gb;replace dz:=(mq.mem _ this).2 dz;replace gb:=mq.aI gb;replace cA:=cA.le (by decide) mq.le;replace ha:=ha.le mq.le;replace nQ:=nQ.le mq.le;replace A2:=A2.le mq.le;replace ho:=ho.bh mq;replace dT:=(mq.mem _ (ak hW.at_)).2 dT;replace hW:=hW.bh mq;replace hR:=hR.bh mq;replace hM:=mq.lt hM;have:=S.size;replace S:=S.ay mq;refine(fun(kp:eg _ _ _)=>ad ⟨rfl,rfl,fun _=>kp,?_⟩) (by first|exact kp|exact kp.pX (by assumption)|exact kp.goN (by assumption)|exact kp.go (by assumption) (fun _ _ h=>by first|exact h|exact h.elim));refine Rg.kq (M:=M1) (base:=B) gh yq rfl rfl rfl rfl ho Mf (aq _ _) (by simp;omega) (by simp;omega) (by have:=S.size;omega) (fun zh ZR Mg qV Wf=>?_);replace dz:=(qV.mem _ (ak gb)).2 dz
     have zl':∀c,zh.ownBlock=some c→Z c:=fun c hc=>by
      rcases Wf c hc with h|h
      ·exact hZ c (by have:=S.size;omega)
      ·exact zl c h
     replace hR:=hR.step qV (fun k v c hv hc h=>(hR.o k v hv).ir ho (by decide) hc h);replace dT:=(qV.mem _ (ak hW.at_)).2 dT;replace hW:=hW.step qV (fun h=>ho.iQ hW.at_ h);replace gb:=qV.bF gb (fun h=>ho.eL gb (by decide) h);replace cA:=cA.le (by decide) qV.le;replace S:=S.trans qV (fun k hk h=>⟨zl k h,(S.mem k hk).1 (ho.mut_ k h)⟩);replace hM:=qV.lt hM;replace ho:=Mg;obtain⟨J0,Wg⟩:∃M',M'=jm M1 zh:=⟨_,rfl⟩;rw[←Wg]at hR dT cA S hM ho dz;refine(fun(kp:eg _ _ _)=>ad ⟨rfl,rfl,fun _=>kp,?_⟩) (by first|exact kp|exact kp.pX (by assumption)|exact kp.goN (by assumption)|exact kp.go (by assumption) (fun _ _ h=>by first|exact h|exact h.elim));refine aR rfl ⟨_,rfl⟩ rfl ?_;refine ad ⟨rfl,rfl,fun h=>absurd rfl h,?_⟩;refine aS (o':=0) dg rfl rfl Qj (by decide) rfl rfl ?_;refine ad ⟨rfl,rfl,fun h=>absurd rfl h,?_⟩;refine bQ (M:=J0) Qj rfl rfl gb rfl (by obtain⟨_,_,he,_⟩:=ho.isSlice;rw[he];rfl) dz (fun Mh F8 l1=>?_);change Mh.heap[_]? =some (Obj.cells #[zh,.map (some mb),.int .i64 words,.int .i64 last] _ _)at F8;have:=ak gb;replace dz:=(l1.mem _ this).2 dz;replace cA:=cA.le (by decide) l1.le;replace ho:=ho.step l1 (fun c hc (h:_=_)=>by first|exact ho.eL gb (by decide) (h▸hc)|exact ho.eL l0 (by decide) (h▸hc));replace dT:=(l1.mem _ (ak hW.at_)).2 dT;replace hW:=hW.step l1 (by first|exact fun h=>ho.iQ hW.at_ h|exact fun(h:mb=b)=>JQ h.symm|exact fun(h:mb=tx)=>by have h9:=hW.at_;rw[h,l0]at h9;cases h9);replace hR:=hR.step l1 (by first|exact fun k v c hv hc h=>(hR.o k v hv).ir ho (by decide) hc h|exact fun k v c hv hc (h:c=b)=>(hR.o k v hv).eL gb (by decide) (h▸hc)|exact fun k v c hv hc (h:c=tx)=>(hR.o k v hv).eL l0 (by decide) (h▸hc));replace hM:=l1.lt hM;have:=S.size;replace S:=S.trans l1 (fun k hk h=>by have h:_=_:=h;subst h;first|(exfalso;omega)|(show _≤_;omega)|exact⟨by first|omega|assumption,(S.mem _ hk).1 ((l1.mem _ (ak gb)).1 dz)⟩|exact .inl rfl|exact .inr rfl|exact .inr (.inl rfl)|exact .inr (.inr rfl)|exact rfl)
     have Fu:=F8;clear gb;have gb:=Fu;clear Fu;refine ad ⟨rfl,rfl,fun h=>absurd rfl h,?_⟩;refine qA (aj ?_);apply T.nV 6 [0,1,2,3] 1 aC mixed rfl rfl rfl rfl;intro Mi F9;have nR:=F9 J0;have:=ak gb;replace dz:=(nR.mem _ this).2 dz;replace gb:=nR.aI gb;replace cA:=cA.le (by decide) nR.le;replace ho:=ho.bh nR;replace dT:=(nR.mem _ (ak hW.at_)).2 dT;replace hW:=hW.bh nR;replace hR:=hR.bh nR;replace hM:=nR.lt hM;have:=S.size;replace S:=S.ay nR;refine ae rfl rfl ?_;refine ad ⟨rfl,rfl,rfl,?_⟩;refine aR rfl ⟨_,rfl⟩ rfl ?_;refine ad ⟨rfl,rfl,rfl,?_⟩;refine aS (o':=2) dg rfl rfl I3 (by decide) rfl rfl ?_;refine ad ⟨rfl,rfl,rfl,?_⟩;refine aE ar rfl rfl rfl (by first|assumption|exact bV nR (by assumption)) rfl ?_;refine ad ⟨rfl,rfl,rfl,?_⟩;refine aH (M:=J0) (A:=RT.en) (B:=RT.dc) cO rfl rfl kL (by decide) PA rfl rfl (by decide) cA (aq _ _) (fun ZS Mj=>?_);refine ad ⟨rfl,rfl,rfl,?_⟩;refine cx (M:=J0) (A:=RT.dc) aN rfl kL (by decide) rfl rfl rfl Mj (aq _ _) (fun ZT Mk=>?_);refine ad ⟨rfl,rfl,rfl,?_⟩;refine fy ?_;refine⟨iA ⟨fc,⟨bR.nilCheck rfl,⟨jA dg rfl I3 (by decide),⟨fJ rfl gb (fun h=>h),trivial⟩⟩⟩⟩,?_⟩;have kp:=km aC Mi;refine aP rfl rfl VW (yV _ hM Mk hl hF.few) (fun Zy PS hc=>?_);obtain⟨rfl,jh⟩:=hc;have:=ak gb;replace dz:=(jh.mem _ this).2 dz;replace gb:=jh.aI gb;replace cA:=cA.le (by decide) jh.le;replace ho:=ho.bh jh;replace dT:=(jh.mem _ (ak hW.at_)).2 dT;replace hW:=hW.bh jh;replace hR:=hR.bh jh;replace hM:=jh.lt hM;have:=S.size;replace S:=S.ay jh;refine(fun(kp:eg _ _ _)=>ad ⟨rfl,rfl,fun _=>kp,?_⟩) (by first|exact kp|exact kp.pX (by assumption)|exact kp.goN (by assumption)|exact kp.go (by assumption) (fun _ _ h=>by first|exact h|exact h.elim))
     have:=hF.many;refine bA rfl rfl rfl (by omega) ?_;refine ad ⟨rfl,rfl,fun h=>absurd rfl h,?_⟩;refine aR rfl ⟨_,rfl⟩ rfl ?_;refine ad ⟨rfl,rfl,fun h=>absurd rfl h,?_⟩;refine aS (o':=2) dg rfl rfl I3 (by decide) rfl rfl ?_;refine ad ⟨rfl,rfl,fun h=>absurd rfl h,?_⟩;refine bQ (M:=J0) I3 rfl rfl gb rfl (rfl) dz (fun Ml Ga l2=>?_);change Ml.heap[_]? =some (Obj.cells #[zh,.map (some mb),.int .i64 (words+((oR e).length:Int)),.int .i64 last] _ _)at Ga;have:=ak gb;replace dz:=(l2.mem _ this).2 dz;replace cA:=cA.le (by decide) l2.le;replace ho:=ho.step l2 (fun c hc (h:_=_)=>by first|exact ho.eL gb (by decide) (h▸hc)|exact ho.eL l0 (by decide) (h▸hc));replace dT:=(l2.mem _ (ak hW.at_)).2 dT;replace hW:=hW.step l2 (by first|exact fun h=>ho.iQ hW.at_ h|exact fun(h:mb=b)=>JQ h.symm|exact fun(h:mb=tx)=>by have h9:=hW.at_;rw[h,l0]at h9;cases h9);replace hR:=hR.step l2 (by first|exact fun k v c hv hc h=>(hR.o k v hv).ir ho (by decide) hc h|exact fun k v c hv hc (h:c=b)=>(hR.o k v hv).eL gb (by decide) (h▸hc)|exact fun k v c hv hc (h:c=tx)=>(hR.o k v hv).eL l0 (by decide) (h▸hc));replace hM:=l2.lt hM;have:=S.size;replace S:=S.trans l2 (fun k hk h=>by have h:_=_:=h;subst h;first|(exfalso;omega)|(show _≤_;omega)|exact⟨by first|omega|assumption,(S.mem _ hk).1 ((l2.mem _ (ak gb)).1 dz)⟩|exact .inl rfl|exact .inr rfl|exact .inr (.inl rfl)|exact .inr (.inr rfl)|exact rfl);have Fu:=Ga;clear gb;have gb:=Fu;clear Fu;refine ad ⟨rfl,rfl,fun h=>absurd rfl h,?_⟩;refine qA (aj (ah (ae rfl rfl ?_)));refine aH (M:=J0) (A:=RT.en) (B:=RT.int .i64) cO rfl rfl I3 (by decide) Sn rfl rfl (by decide) cA (aq _ _) (fun ZU Wh=>?_);refine cb (M:=J0) ar rfl rfl (by assumption) (by repeat (first|exact aq _ _|refine aT (aY (by assumption)) ?_)) (fun Gb=>?_)
     refine bu (v':= .int .i64 (e.2)) rfl ?_;replace Gb: -9223372036854775808≤(e.2:Int)∧e.2≤9223372036854775807:=Gb;refine aR rfl ⟨_,rfl⟩ rfl (aS (o':=3) dg rfl rfl I3 (by decide) rfl rfl ?_);refine bQ (M:=J0) I3 rfl rfl gb rfl (rfl) dz (fun Gc J1 fW=>?_);change Gc.heap[_]? =some (Obj.cells #[zh,.map (some mb),.int .i64 (words+((oR e).length:Int)),.int .i64 e.2] _ _)at J1;have:=ak gb;replace dz:=(fW.mem _ this).2 dz;replace cA:=cA.le (by decide) fW.le;replace ho:=ho.step fW (fun c hc (h:_=_)=>by first|exact ho.eL gb (by decide) (h▸hc)|exact ho.eL l0 (by decide) (h▸hc));replace dT:=(fW.mem _ (ak hW.at_)).2 dT;replace hW:=hW.step fW (by first|exact fun h=>ho.iQ hW.at_ h|exact fun(h:mb=b)=>JQ h.symm|exact fun(h:mb=tx)=>by have h9:=hW.at_;rw[h,l0]at h9;cases h9);replace hR:=hR.step fW (by first|exact fun k v c hv hc h=>(hR.o k v hv).ir ho (by decide) hc h|exact fun k v c hv hc (h:c=b)=>(hR.o k v hv).eL gb (by decide) (h▸hc)|exact fun k v c hv hc (h:c=tx)=>(hR.o k v hv).eL l0 (by decide) (h▸hc));replace hM:=fW.lt hM;have:=S.size;replace S:=S.trans fW (fun k hk h=>by have h:_=_:=h;subst h;first|(exfalso;omega)|(show _≤_;omega)|exact⟨by first|omega|assumption,(S.mem _ hk).1 ((fW.mem _ (ak gb)).1 dz)⟩|exact .inl rfl|exact .inr rfl|exact .inr (.inl rfl)|exact .inr (.inr rfl)|exact rfl);have Fu:=J1;clear gb;have gb:=Fu;clear Fu;refine ad (aj (ah (ai rfl rfl (ad (aJ ?_)))));have ea:jH last e=0:=by unfold jH;rw[if_neg (fun h=>h (by simpa using c2)),if_neg c4]
     exact aO rfl rfl ⟨_,hM,S,by rw[ea],fun h=>absurd ea h,fun _=>⟨mb,_,es,clock,gb,dz,dT,hB,B7,ho,hW,hR.congr (fun k=>(IA (by omega) k).symm) (fun k=>by rw[AW,dm,bp (by omega)]),zl'⟩⟩
end Go.K

/- What the law 'EraseLives' needs of walks and plain Lean, part 3: nothing is assumed beyond the texts that it imports. -/
import Derived.Deep.Draws
import Derived.DeepKeys4
import Derived.Ground.GgzProg
import Derived.Ground.SlgmProg
import Derived.Ground.SlsfProg
import Derived.KernelRfl
import Derived.Lib.Bytealg
import Derived.Shelf.SlGeneric
import Derived.Shelf.SlIter.Nil
import Derived.Shelf.SlIterI.Nil
import Derived.Shelf.SlSortCmp.NoneTotal
import Derived.Shelf.SortM.Plain
import Derived.Shelf.SortM.SortNone
import Derived.Sort.Grow
import Derived.Sort.KeysCollected
import Derived.Sort.Walk0
import Derived.Test.YtohfoenhmkfjkaaGreatDoorProg
import Derived.Test.YtohfoenhmkfjkaaGreatDoorZEraseLives1
import Derived.Test.YtohfoenhmkfjkaaGreatDoorZEraseLives2
set_option linter.unusedVariables false
set_option linter.unusedSimpArgs false
theorem gx:type_of% @Go.K.Rg.jr:=@Go.K.Rg.jr
namespace Go.K
open Go.Proofs
set_option maxRecDepth 10000
theorem we {M:aB} {d:Dc} {v0:Value} (w0:World) (hM:Lt M w0) (hv:RT.dc.V M w0 d v0) (hl:∀f∈d.2,f.1.length≤900000∧f.2.length≤900000):
  Spec Tryz.prog 117 #[v0] w0 (fun v w=>v= .int .i64 (kI d)∧Step M w0 M w aA):=by
 have iL:=hM;refine aZ (args:=[_]) (fn:=Tryz.f117) Tryz.func117 rfl (n:=66) Tryz.ntmps117 ?_;have S:Step M w0 M w0 aA:=(an _ _).ca (fun _ h=>h.elim) (fun _ h=>h.elim);refine aj (ah ?_);refine gx (A:=RT.dc) rfl rfl hM hv rfl (fun u0 w1 cv s0 _=>?_);replace hM:=s0.lt hM;have:=S.size;replace S:=S.ax s0;refine ai rfl rfl (ad (aj (aj (ah ?_))));refine aF (M:=M) (A:=RT.dc) (B:=(RT.fd).sl) aK rfl rfl o3 (by decide) (AW) rfl rfl (by decide) (by assumption) (by repeat (first|exact ao _ _|refine aT (bj (by assumption)) ?_)) (fun uP jI=>?_);refine bY (M:=M) aP rfl rfl rfl rfl rfl (by assumption) (by repeat (first|exact ao _ _|refine aT (bj (by assumption)) ?_)) (fun uQ kQ=>?_);refine bM aP rfl kQ rfl (mL rfl rfl rfl (ad ?_));refine bH rfl (fun c1=>?_) (fun c1=>?_)
 ·refine aj (ah (ai rfl rfl (ad (aL ?_))));exact aO rfl rfl ⟨by rw[kI,if_pos (by omega)],S.back⟩
 ·refine aS (aj (ah (ai rfl rfl (ad (aj (aj (ah (ai rfl rfl (ad (aY ?_))))))))));refine dr (σ:=Nat×Nat) (fun q=>[(1,u0),(3,.int .i64 (q.2:Int)),(4,.int .i64 (q.1:Int))]) (fun q w=>Lt M w∧Step M w0 M w aA∧cp RT.dc M w u0 d∧kI d=tw (d.2.take q.1) (d.2.drop q.1) q.2∧q.1≤d.2.length∧q.2≤900001*q.1∧d.2.length≤8) (fun q=>d.2.length-q.1) (0,0) (.cons rfl (.cons rfl (.cons rfl .nil))) ?_ ?_
  ·exact⟨hM,S,cv,by rw[kI,if_neg (by omega)];rfl,bB _,a7 _,by omega⟩
  ·rintro⟨i,n⟩ w ⟨hM,S,cv,Bt,hi,hn,T4⟩;dsimp only at Bt hi hn ⊢;refine aj (aj (ah (ae rfl rfl ?_)));refine aF (M:=M) (A:=RT.dc) (B:=(RT.fd).sl) aK rfl rfl o3 (by decide) (AW) rfl rfl (by decide) (by assumption) (by repeat (first|exact ao _ _|refine aT (bj (by assumption)) ?_)) (fun Ww KL=>?_);refine bY (M:=M) aP rfl rfl rfl rfl rfl (by assumption) (by repeat (first|exact ao _ _|refine aT (bj (by assumption)) ?_)) (fun Wx KM=>?_);refine bM aP rfl KM rfl (b4 rfl rfl rfl (ad ?_));refine bH rfl (fun c5=>?_) (fun c5=>?_)
   ·refine aS (aj (aY (aj (ah ?_))));refine aF (M:=M) (A:=RT.dc) (B:=(RT.fd).sl) aK rfl rfl o3 (by decide) (AW) rfl rfl (by decide) (by assumption) (by repeat (first|exact ao _ _|refine aT (bj (by assumption)) ?_)) (fun QT CP=>?_);refine bY (M:=M) aP rfl rfl rfl rfl rfl (by assumption) (by repeat (first|exact ao _ _|refine aT (bj (by assumption)) ?_)) (fun Wy KN=>?_);refine ae rfl rfl ?_;refine cK (M:=M) aP gQ rfl rfl rfl KN (ao _ _) (by omega) (fun QU x zr aa1=>?_);rw[aw]at zr;refine aF (M:=M) (A:=RT.fd) (B:=RT.str) bQ rfl rfl I9 (by decide) (Jb) rfl rfl (by decide) (by assumption) (by repeat (first|exact ao _ _|refine aT (bj (by assumption)) ?_)) (fun aei QV=>?_);refine bY (M:=M) aC rfl rfl rfl rfl rfl QV (ao _ _) (fun aej QW=>?_);obtain rfl:=eD QW;have iK:=CN (n:=n) zr;have vL:=hl _ (aI zr);refine aQ rfl rfl P1 (tx x.1 (by omega) _) (fun r7 w7 hc=>?_);obtain⟨rfl,rfl⟩:=hc;refine ai rfl rfl (ad (aj (aj (ah (ae rfl rfl (rq rfl rfl (bz (v':= .bool (decide (eS x.1=false))) (by cases eS x.1<;>rfl) (ad ?_))))))));refine bH rfl (fun c8=>?_) (fun c8=>?_)
    ·refine aj (ah (ai rfl rfl (ad (aL ?_))));exact aO rfl rfl ⟨by rw[Bt,iK,if_pos (by assumption)],S.back⟩
    ·refine aS (aj (aj (ah (ai rfl rfl (ad (aY ?_))))));refine dr (σ:=Nat) (fun j=>[(1,u0),(3,.int .i64 (n:Int)),(4,.int .i64 (i:Int)),(6,.int .i64 (j:Int))]) (fun j w=>Lt M w∧Step M w0 M w aA∧cp RT.dc M w u0 d∧j≤i∧∀k y,k<j→d.2[k]? =some y→y.1≠x.1) (fun j=>i-j) 0 (.cons rfl (.cons rfl (.cons rfl (.cons rfl .nil)))) ?_ ?_
     ·exact⟨hM,S,cv,bB _,fun k c h=>absurd h (jK k)⟩
     ·rintro j w ⟨hM,S,cv,hj,gS⟩;refine aj (aj (ah (ae rfl rfl (ae rfl rfl (b4 rfl rfl rfl (ad ?_))))));refine bH rfl (fun Mh=>?_) (fun Mh=>?_)
      ·refine aS (aj (aY (aj ?_)));apply T.j7 mixed rfl rfl;intro MK ML;have mc:=ML M;replace cv:=cv.le (by decide) mc.le;replace hM:=mc.lt hM;have:=S.size;replace S:=S.ax mc;refine aF (M:=M) (A:=RT.dc) (B:=(RT.fd).sl) aK rfl rfl o3 (by decide) (AW) rfl rfl (by decide) (by assumption) (by repeat (first|exact ao _ _|refine aT (bj (by assumption)) ?_)) (fun aa2 Wz=>?_);refine ad ⟨rfl,rfl,rfl,?_⟩;refine bY (M:=M) aP rfl rfl rfl rfl rfl (by assumption) (by repeat (first|exact ao _ _|refine aT (bj (by assumption)) ?_)) (fun aa3 MM=>?_);refine ad ⟨rfl,rfl,rfl,?_⟩;refine ae rfl rfl ?_;refine ad ⟨rfl,rfl,rfl,?_⟩;refine cK (M:=M) aP gQ rfl rfl rfl MM (ao _ _) (by omega) (fun KO y Bu eP=>?_);rw[aw]at Bu;refine ad ⟨rfl,rfl,rfl,?_⟩;refine aF (M:=M) (A:=RT.fd) (B:=RT.str) bQ rfl rfl I9 (by decide) (Jb) rfl rfl (by decide) (by assumption) (by repeat (first|exact ao _ _|refine aT (bj (by assumption)) ?_)) (fun eT MN=>?_);refine ad ⟨rfl,rfl,rfl,?_⟩;refine bY (M:=M) aC rfl rfl rfl rfl rfl MN (ao _ _) (fun KP xU=>?_);obtain rfl:=eD xU;refine ad ⟨rfl,rfl,rfl,?_⟩;refine aF (M:=M) (A:=RT.dc) (B:=(RT.fd).sl) aK rfl rfl o3 (by decide) (AW) rfl rfl (by decide) (by assumption) (by repeat (first|exact ao _ _|refine aT (bj (by assumption)) ?_)) (fun KQ FR=>?_);refine ad ⟨rfl,rfl,rfl,?_⟩;refine bY (M:=M) aP rfl rfl rfl rfl rfl (by assumption) (by repeat (first|exact ao _ _|refine aT (bj (by assumption)) ?_)) (fun aa4 MO=>?_);refine ad ⟨rfl,rfl,rfl,?_⟩;refine ae rfl rfl ?_;refine ad ⟨rfl,rfl,rfl,?_⟩;refine cK (M:=M) aP gQ rfl rfl rfl MO (ao _ _) (by omega) (fun aa5 z FT WA=>?_)
       rw[aw]at FT;refine ad ⟨rfl,rfl,rfl,?_⟩;refine aF (M:=M) (A:=RT.fd) (B:=RT.str) bQ rfl rfl I9 (by decide) (Jb) rfl rfl (by decide) (by assumption) (by repeat (first|exact ao _ _|refine aT (bj (by assumption)) ?_)) (fun WB Je=>?_);refine ad ⟨rfl,rfl,rfl,?_⟩;refine bY (M:=M) aC rfl rfl rfl rfl rfl Je (ao _ _) (fun WC Jf=>?_);obtain rfl:=eD Jf;refine ad ⟨rfl,rfl,rfl,?_⟩;refine Rg.vG (p:=y.1) (q:=z.1) rfl rfl rfl ?_;obtain rfl:x=z:=bp (zr.symm.trans FT);refine ad ⟨rfl,rfl,rfl,?_⟩;refine fa ?_;refine bH rfl (fun FU=>?_) (fun FU=>?_)
       ·refine aj (ah (ai rfl rfl (ad (aL ?_))));have FV:((d.2.take i).any fun g=>decide (g.1=x.1))=true:=p9.2 ⟨y,aI (i:=j) (by rw[dG,if_pos (by omega)];exact Bu),by simpa using(by assumption)⟩;exact aO rfl rfl ⟨by rw[Bt,iK,if_neg (by assumption),if_pos FV],S.back⟩
       ·refine aS (ah (ae rfl rfl (bu rfl rfl rfl (by omega) (ai rfl rfl (ad ?_)))));refine⟨rfl,j+1,(.cons rfl (.cons rfl (.cons rfl (.cons rfl .nil)))),?_,?_⟩
        ·exact⟨hM,S,cv,by omega,fun k y' h hc=>by
          rcases cU k j with h2|h2
          ·exact gS k y' h2 hc
          ·obtain rfl:k=j:=by omega
           rw[Bu]at hc;cases hc;assumption⟩
        ·omega
      ·refine cG (aj (ah ?_));refine aF (M:=M) (A:=RT.dc) (B:=(RT.fd).sl) aK rfl rfl o3 (by decide) (AW) rfl rfl (by decide) (by assumption) (by repeat (first|exact ao _ _|refine aT (bj (by assumption)) ?_)) (fun aa6 WD=>?_);refine bY (M:=M) aP rfl rfl rfl rfl rfl (by assumption) (by repeat (first|exact ao _ _|refine aT (bj (by assumption)) ?_)) (fun aa7 MP=>?_);refine ae rfl rfl ?_;refine cK (M:=M) aP gQ rfl rfl rfl MP (ao _ _) (by omega) (fun aa8 z FX WE=>?_);rw[aw]at FX;refine aF (M:=M) (A:=RT.fd) (B:=RT.str) bQ rfl rfl I9 (by decide) (O0) rfl rfl (by decide) (by assumption) (by repeat (first|exact ao _ _|refine aT (bj (by assumption)) ?_)) (fun aa9 MQ=>?_);refine bY (M:=M) aC rfl rfl rfl rfl rfl MQ (ao _ _) (fun aba MR=>?_);obtain rfl:=eD MR;obtain rfl:x=z:=bp (zr.symm.trans FX);refine aQ rfl rfl Vo (Bq _ hM vL.2) (fun r15 QX hc=>?_);obtain⟨⟨u15,rfl,WG⟩,xV⟩:=hc;replace cv:=cv.le (by decide) xV.le;replace hM:=xV.lt hM;have:=S.size;replace S:=S.ax xV;refine ae rfl rfl (bU rfl rfl rfl (bU rfl rfl rfl (ai rfl rfl (ai rfl rfl (ad (aj (aj (ah (ae rfl rfl (eW rfl rfl rfl (ad ?_)))))))))));refine bH rfl (fun O3=>?_) (fun O3=>?_)
       ·refine aj (ah (ae rfl rfl (ai rfl rfl (ad (aL ?_)))))
        have FV:((d.2.take i).any fun g=>decide (g.1=x.1))=false:=dX.2 fun h=>by
         obtain⟨y,hy,he⟩:=p9.1 h;obtain⟨k,hk⟩:=bF.1 hy;rw[dG]at hk
         split at hk
         ·exact gS k y (by omega) hk (by simpa using he)
         ·cases hk
        exact aO rfl rfl ⟨by rw[Bt,iK,if_neg (by assumption),if_neg (by rw[FV];simp),if_pos O3];rfl,S.back⟩
       ·refine aS (ah (ae rfl rfl ?_));have QS:kg 0 (words x.2)=0:=Classical.not_not.1 O3;obtain⟨a,cap,rfl⟩:=WG QS;have Wv:=lH x.2;refine ae rfl rfl (Rg.xC Tryz.underlying222 rfl rfl (bu rfl rfl rfl (by omega) (ai rfl rfl (ad (ah (ae rfl rfl (bu rfl rfl rfl (by omega) (ai rfl rfl (ad ?_)))))))))
        have FV:((d.2.take i).any fun g=>decide (g.1=x.1))=false:=dX.2 fun h=>by
         obtain⟨y,hy,he⟩:=p9.1 h;obtain⟨k,hk⟩:=bF.1 hy;rw[dG]at hk
         split at hk
         ·exact gS k y (by omega) hk (by simpa using he)
         ·cases hk
        refine⟨rfl,(i+1,n+(words x.2).length),(.cons rfl (.cons rfl (.cons rfl .nil))),?_,?_⟩
        ·exact⟨hM,S,cv,by rw[Bt,iK,if_neg (by assumption),if_neg (by rw[FV];simp),if_neg O3],by dsimp only;omega,by dsimp only;omega,T4⟩
        ·dsimp only;omega
   ·refine cG (aj (aj (ah (ae rfl rfl (mL rfl rfl rfl (ad ?_))))));refine bH rfl (fun VQ=>?_) (fun VQ=>?_)
    ·refine aj (ah (ai rfl rfl (ad (aL ?_))));exact aO rfl rfl ⟨by rw[Bt,pF (by omega),if_pos (by omega)],S.back⟩
    ·refine aS (aj (ah (ai rfl rfl (ad (aL ?_)))));exact aO rfl rfl ⟨by rw[Bt,pF (by omega),if_neg (by omega)],S.back⟩
def zt:List (List UInt8):=[[116],[117],[118],[119]]
def fixF (i:Nat) (x:Fd):Fd:=(if eS x.1=true then x.1 else zt.getD i [],x.2.take 40)
def lI (id:Int):Nat→List Fd→List Fd→List Fd
 |_,out,[]=>out
 |i,out,x::fs=>if i<4 then(if kI (id,out++[fixF i x])=0 then lI id (i+1) (out++[fixF i x]) fs else lI id (i+1) out fs)else out
def mG (d:Dc):Dc:=(d.1,lI d.1 0 [] d.2)
def oS (l:List Fd):Prop:=∀x∈l,x.1.length≤12∧x.2.length≤40
theorem zu {s:List UInt8} (h:eS s=true):s.length≤12:=by
 simp only[eS,bD,decide_eq_true_eq]at h;omega
theorem tz {i:Nat} (x:Fd) (hi:i<4):(fixF i x).1.length≤12∧(fixF i x).2.length≤40:=by
 refine⟨?_,by simp only[fixF,bG];omega⟩;unfold fixF;dsimp only
 split
 ·exact zu (by assumption)
 ·have h:i=0∨i=1∨i=2∨i=3:=by omega
  rcases h with rfl|rfl|rfl|rfl<;>decide
theorem oS.snoc {l:List Fd} {x:Fd} (h:oS l) (hx:x.1.length≤12∧x.2.length≤40):oS (l++[x]):=fun y hy=>by
 rcases cY.1 hy with hy|hy
 ·exact h y hy
 ·rw[cw.1 hy];exact hx
theorem FY {id:Int} {fs:List Fd} {i:Nat} {out:List Fd} {x:Fd} (h:fs[i]? =some x) (hi:i<4):lI id i out (fs.drop i)=if kI (id,out++[fixF i x])=0 then lI id (i+1) (out++[fixF i x]) (fs.drop (i+1))else lI id (i+1) out (fs.drop (i+1)):=by
 have dC:=(av.1 h).1;rw[dB dC,(av.1 h).2];show(if i<4 then _ else _)=_;rw[if_pos hi]
theorem wg {id:Int} {fs:List Fd} {i:Nat} {out:List Fd} (h:fs.length≤i∨4≤i):lI id i out (fs.drop i)=out:=by
 cases hd:fs.drop i with
 |nil=>rfl
 |cons x r=>
  show(if i<4 then _ else _)=_;rw[if_neg];rcases h with h|h
  ·rw[jw h]at hd;cases hd
  ·omega
theorem zw (l:List UInt8):l.take (min (l.length:Int) 40).toNat=l.take 40:=by
 by_cases h:l.length≤40
 ·rw[aW (by omega),aW h]
 ·congr 1;omega
theorem DP {M:aB} {d:Dc} {v0:Value} (w0:World) (hM:Lt M w0) (hv:RT.dc.V M w0 d v0):
  Spec Tryz.prog 65 #[v0] w0 (fun v w=>RT.dc.V M w (mG d) v∧Step M w0 M w aA):=by
 have iL:=hM
 have T5: -9223372036854775808≤d.1∧d.1≤9223372036854775807:=by
  obtain⟨vs,⟨va,vb,_,⟨_,h1,h2⟩,_⟩,_⟩:=hv;exact⟨h1,h2⟩
 refine aZ (args:=[_]) (fn:=Tryz.f65) Tryz.func65 rfl (n:=67) Tryz.ntmps65 ?_;have S:Step M w0 M w0 aA:=(an _ _).ca (fun _ h=>h.elim) (fun _ h=>h.elim);refine aj (ah ?_);refine gx (A:=RT.dc) rfl rfl hM hv rfl (fun u0 w1 cv s0 _=>?_);replace hM:=s0.lt hM;have:=S.size;replace S:=S.ax s0;refine fh M kE rfl (fun me Bv MS MT eQ k8=>?_);obtain⟨eg,kj⟩:∃M',M'=ins M me:=⟨_,rfl⟩;rw[←kj]at k8;have dV:eg me:=by rw[kj];exact .inl rfl
 change Bv.heap[me]? =some (.cells #[.int .i64 0,.slice none 0 0] _ _)at eQ;replace cv:=cv.le (by decide) k8.le;replace hM:=k8.lt hM;have:=S.size;replace S:=S.ax k8;refine ad (aj (ah ?_));refine aF (M:=eg) (A:=RT.dc) (B:=RT.int .i64) aK rfl rfl I3 (by decide) (QN) rfl rfl (by decide) (by assumption) (by repeat (first|exact ao _ _|refine aT (bj (by assumption)) ?_)) (fun uP jI=>?_);refine bV (M:=eg) ar rfl rfl (by assumption) (by repeat (first|exact ao _ _|refine aT (bj (by assumption)) ?_)) (fun KR=>?_);refine dU (places:=[(0,1),(1,1)]) aK kE PZ rfl ⟨_,_,rfl,rfl,rfl⟩ (out:=[_,.slice none 0 0]) ⟨0,[_],rfl,rfl,by simp[Value.cells],rfl⟩ ?_;refine fh eg kE rfl (fun jO xQ QY QZ gu s1_3=>?_);obtain⟨jt,nE⟩:∃M',M'=ins eg jO:=⟨_,rfl⟩;rw[←nE]at s1_3;have fq:jt jO:=by rw[nE];exact .inl rfl
 change xQ.heap[jO]? =some (.cells #[.int .i64 0,.slice none 0 0] _ _)at gu;have:=ak eQ;replace dV:=(s1_3.mem _ this).2 dV;replace eQ:=s1_3.aM eQ;replace cv:=cv.le (by decide) s1_3.le;replace hM:=s1_3.lt hM;have:=S.size;replace S:=S.ax s1_3;refine fo (M:=jt) (vs:=[.int .i64 d.1,.slice none 0 0]) kE rfl rfl (by intro u hu;simp at hu;rcases hu with rfl|rfl<;>first|rfl|exact kb (by assumption) rfl rfl) rfl rfl gu fq (fun w1b WH MU=>?_);have:=ak eQ;replace dV:=(MU.mem _ this).2 dV;replace eQ:=MU.bJ eQ (fun hk=>by have hk:_=_:=hk;omega);have:=ak gu;replace fq:=(MU.mem _ this).2 fq;replace cv:=cv.le (by decide) MU.le;replace hM:=MU.lt hM;have:=S.size;replace S:=S.trans MU (fun k hk h=>by have h:_=_:=h;subst h;first|(exfalso;omega)|(show _≤_;omega)|exact⟨by first|omega|assumption,(S.mem _ hk).1 ((MU.mem _ (ak gu)).1 fq)⟩|exact .inl rfl|exact .inr rfl|exact .inr (.inl rfl)|exact .inr (.inr rfl)|exact rfl);have qV:=WH;clear gu;have gu:=qV;clear qV;refine ad (aj (ah ?_));refine Rg.Pt (A:=RT.str) (hn:=by decide) (M:=jt) (xs:=zt) a8 I9 rfl (by decide) rfl ⟨_,_,_,rfl,rfl,rfl,jY.2 ⟨rfl,by decide⟩,_,_,_,rfl,rfl,rfl,jY.2 ⟨rfl,by decide⟩,_,_,_,rfl,rfl,rfl,jY.2 ⟨rfl,by decide⟩,_,_,_,rfl,rfl,rfl,jY.2 ⟨rfl,by decide⟩,rfl⟩ rfl hM (.inr ⟨rfl,rfl⟩) (by decide) (fun u2 w2 de s2=>?_);have:=ak eQ;replace dV:=(s2.mem _ this).2 dV;replace eQ:=s2.aM eQ;have:=ak gu;replace fq:=(s2.mem _ this).2 fq;replace gu:=s2.aM gu;replace cv:=cv.le (by decide) s2.le;replace hM:=s2.lt hM;have:=S.size;replace S:=S.ax s2;refine ai rfl rfl (ad (aj (aj (ah (ai rfl rfl (ad (aY ?_)))))));refine dr (σ:=Nat×List Fd) (fun q=>[(1,u0),(2,.pointer (some ⟨me,0,none⟩)),(3,.pointer (some ⟨jO,0,none⟩)),(4,u2),(5,.int .i64 (q.1:Int))]) (fun q w=>∃M' uo,Lt M' w∧Step M w0 M' w aA∧cp RT.dc M' w u0 d∧(RT.str.sl).V M' w zt u2∧w.heap[me]? =some (.cells #[.int .i64 0,.slice none 0 0] 41 (0,0))∧M' me∧w.heap[jO]? =some (.cells #[.int .i64 d.1,uo] 41 (0,0))∧M' jO∧(RT.fd.sl).V M' w q.2 uo∧lI d.1 0 [] d.2=lI d.1 q.1 q.2 (d.2.drop q.1)∧q.1≤d.2.length∧q.1≤4∧oS q.2∧q.2.length≤q.1) (fun q=>d.2.length-q.1) (0,[]) (.cons rfl (.cons rfl (.cons rfl (.cons rfl (.cons rfl .nil))))) ?_ ?_
 ·exact⟨_,.slice none 0 0,hM,S,cv,de,eQ,dV,gu,fq,jG,rfl,bB _,bB _,(fun x hx=>by cases hx),a7 _⟩
 ·rintro⟨i,out⟩ w ⟨M1,uo,hM,S,cv,de,g2,cV,g3,dT,gU,tq,hi,WI,xl,o5⟩;dsimp only at g3 gU tq hi WI xl o5 ⊢;refine aj (aj (ah (ae rfl rfl ?_)));refine aF (M:=M1) (A:=RT.dc) (B:=(RT.fd).sl) aK rfl rfl o3 (by decide) (AW) rfl rfl (by decide) (by assumption) (by repeat (first|exact ao _ _|refine aT (bj (by assumption)) ?_)) (fun Wn abb=>?_);refine bY (M:=M1) aP rfl rfl rfl rfl rfl (by assumption) (by repeat (first|exact ao _ _|refine aT (bj (by assumption)) ?_)) (fun ael Q0=>?_);refine bM aP rfl Q0 rfl (b4 rfl rfl rfl (ae rfl rfl ?_));refine aJ (g:=18) rfl (fun MV=>?_) (fun MV=>?_)
  ·refine al rfl rfl (ae rfl rfl (al rfl rfl (b4 rfl rfl rfl (aR rfl rfl rfl (ad ?_)))));refine bH rfl (fun c4=>?_) (fun c4=>?_)
   ·refine aS (aj (aY (aj (ah ?_))));refine aF (M:=M1) (A:=RT.dc) (B:=(RT.fd).sl) aK rfl rfl o3 (by decide) (AW) rfl rfl (by decide) (by assumption) (by repeat (first|exact ao _ _|refine aT (bj (by assumption)) ?_)) (fun Q1 FZ=>?_);refine bY (M:=M1) aP rfl rfl rfl rfl rfl (by assumption) (by repeat (first|exact ao _ _|refine aT (bj (by assumption)) ?_)) (fun MW tA=>?_);refine ae rfl rfl ?_;refine cK (M:=M1) aP gQ rfl rfl rfl tA (ao _ _) (by omega) (fun u6 x EA MA=>?_);rw[aw]at EA;have TM:i<4:=by omega
    have T6:=FY (id:=d.1) (out:=out) EA TM;have KS:=tz x TM;refine b5 (M:=M1) (A:=RT.fd) bQ rfl gQ (by decide) rfl rfl rfl MA (ao _ _) (fun v6 ot=>?_);obtain rfl:=kh ot;have hxb:=xT ot;refine fh M1 gQ rfl (fun MX WK aen aeo dh uT=>?_);obtain⟨km,F0⟩:∃M',M'=ins M1 MX:=⟨_,rfl⟩;rw[←F0]at uT;have cD:km MX:=by rw[F0];exact .inl rfl
    change WK.heap[MX]? =some (.cells #[.string ⟨#[]⟩,.string ⟨#[]⟩] _ _)at dh;have:=ak g2;replace cV:=(uT.mem _ this).2 cV;replace g2:=uT.aM g2;have:=ak g3;replace dT:=(uT.mem _ this).2 dT;replace g3:=uT.aM g3;replace cv:=cv.le (by decide) uT.le;replace de:=de.le uT.le;replace gU:=gU.le uT.le;replace hM:=uT.lt hM;have:=S.size;replace S:=S.ax uT;refine fo (M:=km) (vs:=[.string ⟨x.1.toArray⟩,.string ⟨x.2.toArray⟩]) gQ rfl rfl (by intro u hu;simp at hu;rcases hu with rfl|rfl<;>first|rfl|exact kb (by assumption) rfl rfl) rfl rfl dh cD (fun w6b WL F1=>?_);have:=ak g2;replace cV:=(F1.mem _ this).2 cV;replace g2:=F1.bJ g2 (fun hk=>by have hk:_=_:=hk;omega);have:=ak g3;replace dT:=(F1.mem _ this).2 dT;replace g3:=F1.bJ g3 (fun hk=>by have hk:_=_:=hk;omega);have:=ak dh;replace cD:=(F1.mem _ this).2 cD;replace cv:=cv.le (by decide) F1.le;replace de:=de.le F1.le;replace gU:=gU.le F1.le;replace hM:=F1.lt hM;have:=S.size;replace S:=S.trans F1 (fun k hk h=>by have h:_=_:=h;subst h;first|(exfalso;omega)|(show _≤_;omega)|exact⟨by first|omega|assumption,(S.mem _ hk).1 ((F1.mem _ (ak dh)).1 cD)⟩|exact .inl rfl|exact .inr rfl|exact .inr (.inl rfl)|exact .inr (.inr rfl)|exact rfl);have nF:=WL;clear dh;have dh:=nF;clear nF;refine ad (aj (ah (aV (o':=0) bQ rfl rfl I9 (by decide) rfl rfl (aH aC rfl rfl rfl (by assumption) rfl ?_))));refine aQ rfl rfl P1 (tx x.1 hxb.1 _) (fun r7 w7 hc=>?_);obtain⟨rfl,rfl⟩:=hc;refine ai rfl rfl (ad (aj (aj (ah (ae rfl rfl (rq rfl rfl (bz (v':= .bool (decide (eS x.1=false))) (by cases eS x.1<;>rfl) (ad ?_))))))));refine bH rfl (fun c8=>?_) (fun c8=>?_)
    ·refine ah (ae rfl rfl (ae rfl rfl ?_));refine cK (M:=km) a8 I9 rfl rfl rfl de (ao _ _) (by have:zt.length=4:=rfl;omega) (fun u9 y Ih Jg=>?_);rw[aw]at Ih;refine bY (M:=km) aC rfl rfl rfl rfl rfl Jg (ao _ _) (fun v9 Jh=>?_);obtain rfl:=eD Jh
     obtain rfl:y=(fixF i x).1:=by
      show y=if eS x.1=true then x.1 else zt.getD i []
      rw[if_neg (by rw[c8];simp),bT,Ih];rfl
     refine aV (o':=0) bQ rfl rfl I9 (by decide) rfl rfl ?_;refine bS (M:=km) I9 rfl rfl dh rfl (rfl) cD (fun QI Q2 nD=>?_);change QI.heap[_]? =some (Obj.cells #[.string ⟨((fixF i x).1).toArray⟩,.string ⟨x.2.toArray⟩] _ _)at Q2;have:=ak g2;replace cV:=(nD.mem _ this).2 cV;replace g2:=nD.bJ g2 (fun hk=>by have hk:_=_:=hk;omega);have:=ak g3;replace dT:=(nD.mem _ this).2 dT;replace g3:=nD.bJ g3 (fun hk=>by have hk:_=_:=hk;omega);have:=ak dh;replace cD:=(nD.mem _ this).2 cD;replace cv:=cv.le (by decide) nD.le;replace de:=de.le nD.le;replace gU:=gU.le nD.le;replace hM:=nD.lt hM;have:=S.size;replace S:=S.trans nD (fun k hk h=>by have h:_=_:=h;subst h;first|(exfalso;omega)|(show _≤_;omega)|exact⟨by first|omega|assumption,(S.mem _ hk).1 ((nD.mem _ (ak dh)).1 cD)⟩|exact .inl rfl|exact .inr rfl|exact .inr (.inl rfl)|exact .inr (.inr rfl)|exact rfl);have nF:=Q2;clear dh;have dh:=nF;clear nF;refine ad (aj (ah (aV (o':=1) bQ rfl rfl I9 (by decide) rfl rfl (aH aC rfl rfl rfl (by assumption) rfl (aV (o':=1) bQ rfl rfl I9 (by decide) rfl rfl (aH aC rfl rfl rfl (by assumption) rfl (Rg.k3 aC rfl rfl (bz (v':= .int .i64 (x.2.length:Int)) (by simp[ByteArray.size]) (Rg.min2 rfl rfl rfl (Rg.KF aC rfl rfl rfl (by omega) (bz (v':= .string ⟨((fixF i x).2).toArray⟩) (by rw[zw];rfl) ?_)))))))))));refine aV (o':=1) bQ rfl rfl I9 (by decide) rfl rfl ?_;refine bS (M:=km) I9 rfl rfl dh rfl (rfl) cD (fun CL zx fk=>?_);change CL.heap[_]? =some (Obj.cells #[.string ⟨((fixF i x).1).toArray⟩,.string ⟨((fixF i x).2).toArray⟩] _ _)at zx;have:=ak g2;replace cV:=(fk.mem _ this).2 cV;replace g2:=fk.bJ g2 (fun hk=>by have hk:_=_:=hk;omega);have:=ak g3
     replace dT:=(fk.mem _ this).2 dT;replace g3:=fk.bJ g3 (fun hk=>by have hk:_=_:=hk;omega);have:=ak dh;replace cD:=(fk.mem _ this).2 cD;replace cv:=cv.le (by decide) fk.le;replace de:=de.le fk.le;replace gU:=gU.le fk.le;replace hM:=fk.lt hM;have:=S.size;replace S:=S.trans fk (fun k hk h=>by have h:_=_:=h;subst h;first|(exfalso;omega)|(show _≤_;omega)|exact⟨by first|omega|assumption,(S.mem _ hk).1 ((fk.mem _ (ak dh)).1 cD)⟩|exact .inl rfl|exact .inr rfl|exact .inr (.inl rfl)|exact .inr (.inr rfl)|exact rfl);have nF:=zx;clear dh;have dh:=nF;clear nF;refine ad (aj (ah ?_));refine aF (M:=km) (A:=RT.dc) (B:=RT.int .i64) aK rfl rfl I3 (by decide) (QN) rfl rfl (by decide) (by assumption) (by repeat (first|exact ao _ _|refine aT (bj (by assumption)) ?_)) (fun KT F2=>?_);refine bV (M:=km) ar rfl rfl (by assumption) (by repeat (first|exact ao _ _|refine aT (bj (by assumption)) ?_)) (fun MY=>?_);refine dU (places:=[(0,1),(1,1)]) aK kE PZ rfl ⟨_,_,rfl,rfl,rfl⟩ (out:=[_,.slice none 0 0]) ⟨0,[_],rfl,rfl,by simp[Value.cells],rfl⟩ ?_;refine fh km kE rfl (fun tB zy Q3 Q4 cx eE=>?_);obtain⟨oT,pG⟩:∃M',M'=ins km tB:=⟨_,rfl⟩;rw[←pG]at eE;have cu:oT tB:=by rw[pG];exact .inl rfl
     change zy.heap[tB]? =some (.cells #[.int .i64 0,.slice none 0 0] _ _)at cx;have:=ak g2;replace cV:=(eE.mem _ this).2 cV;replace g2:=eE.aM g2;have:=ak g3;replace dT:=(eE.mem _ this).2 dT;replace g3:=eE.aM g3;have:=ak dh;replace cD:=(eE.mem _ this).2 cD;replace dh:=eE.aM dh;replace cv:=cv.le (by decide) eE.le;replace de:=de.le eE.le;replace gU:=gU.le eE.le;replace hM:=eE.lt hM;have:=S.size;replace S:=S.ax eE;refine fo (M:=oT) (vs:=[.int .i64 d.1,.slice none 0 0]) kE rfl rfl (by intro u hu;simp at hu;rcases hu with rfl|rfl<;>first|rfl|exact kb (by assumption) rfl rfl) rfl rfl cx cu (fun xW F3 jb=>?_);have:=ak g2;replace cV:=(jb.mem _ this).2 cV;replace g2:=jb.bJ g2 (fun hk=>by have hk:_=_:=hk;omega);have:=ak g3;replace dT:=(jb.mem _ this).2 dT;replace g3:=jb.bJ g3 (fun hk=>by have hk:_=_:=hk;omega);have:=ak dh;replace cD:=(jb.mem _ this).2 cD;replace dh:=jb.bJ dh (fun hk=>by have hk:_=_:=hk;omega);have:=ak cx;replace cu:=(jb.mem _ this).2 cu;replace cv:=cv.le (by decide) jb.le;replace de:=de.le jb.le;replace gU:=gU.le jb.le;replace hM:=jb.lt hM;have:=S.size;replace S:=S.trans jb (fun k hk h=>by have h:_=_:=h;subst h;first|(exfalso;omega)|(show _≤_;omega)|exact⟨by first|omega|assumption,(S.mem _ hk).1 ((jb.mem _ (ak cx)).1 cu)⟩|exact .inl rfl|exact .inr rfl|exact .inr (.inl rfl)|exact .inr (.inr rfl)|exact rfl);have gE:=F3;clear cx;have cx:=gE;clear gE;refine ad (aj (ah (aV (o':=1) aK rfl rfl o3 (by decide) rfl rfl (aH aP rfl rfl rfl (by assumption) rfl (aV (o':=1) aK rfl rfl o3 (by decide) rfl rfl (aH aP rfl rfl rfl (by assumption) rfl ?_))))));have cQ:=Own.KJ RT.fd 127 xW.heap.size hM
     have WM:=ak dh;have F4:w0.heap.size≤xW.heap.size:=S.size;refine cR (M:=oT) (base:=xW.heap.size) aP gQ rfl rfl rfl rfl cQ gU (ao _ _) (by simp;omega) (by simp;omega) (a7 _) (fun tt nC FK oR dS=>?_);have:=ak g2;replace cV:=(dS.mem _ this).2 cV;replace g2:=dS.bJ g2 (fun h=>by first|exact cQ.dE g2 h|exact cQ.eR g2 (by decide) h|(have:=(cQ.base _ h).1;omega));have:=ak g3;replace dT:=(dS.mem _ this).2 dT;replace g3:=dS.bJ g3 (fun h=>by first|exact cQ.dE g3 h|exact cQ.eR g3 (by decide) h|(have:=(cQ.base _ h).1;omega));have:=ak dh;replace cD:=(dS.mem _ this).2 cD;replace dh:=dS.bJ dh (fun h=>by first|exact cQ.dE dh h|exact cQ.eR dh (by decide) h|(have:=(cQ.base _ h).1;omega));have:=ak cx;replace cu:=(dS.mem _ this).2 cu;replace cx:=dS.bJ cx (fun h=>by first|exact cQ.dE cx h|exact cQ.eR cx (by decide) h|(have:=(cQ.base _ h).1;omega));replace cv:=cv.le (by decide) dS.le;replace de:=de.le dS.le;replace gU:=gU.le dS.le;replace hM:=dS.lt hM;have:=S.size;replace S:=S.dd dS cQ F4;replace cQ:=oR;refine aV (o':=1) aK rfl rfl o3 (by decide) rfl rfl ?_;refine bS (M:=nC) o3 rfl rfl cx rfl ((by obtain⟨_,_,he,_⟩:=cQ.isSlice;rw[he];rfl)) cu (fun F5 zz fe=>?_);change F5.heap[_]? =some (Obj.cells #[.int .i64 d.1,tt] _ _)at zz;have:=ak g2;replace cV:=(fe.mem _ this).2 cV;replace g2:=fe.bJ g2 (fun hk=>by have hk:_=_:=hk;omega);have:=ak g3;replace dT:=(fe.mem _ this).2 dT;replace g3:=fe.bJ g3 (fun hk=>by have hk:_=_:=hk;omega);have:=ak dh;replace cD:=(fe.mem _ this).2 cD;replace dh:=fe.bJ dh (fun hk=>by have hk:_=_:=hk;omega);have:=ak cx;replace cu:=(fe.mem _ this).2 cu
     replace cv:=cv.le (by decide) fe.le;replace de:=de.le fe.le;replace gU:=gU.le fe.le;replace cQ:=cQ.step fe (fun b hb hk=>by have hk:_=_:=hk;have:=(cQ.base b hb);omega);replace hM:=fe.lt hM;have:=S.size;replace S:=S.trans fe (fun k hk h=>by have h:_=_:=h;subst h;first|(exfalso;omega)|(show _≤_;omega)|exact⟨by first|omega|assumption,(S.mem _ hk).1 ((fe.mem _ (ak cx)).1 cu)⟩|exact .inl rfl|exact .inr rfl|exact .inr (.inl rfl)|exact .inr (.inr rfl)|exact rfl);have gE:=zz;clear cx;have cx:=gE;clear gE;refine ad (aj (ah (aV (o':=1) aK rfl rfl o3 (by decide) rfl rfl (aH aP rfl rfl rfl (by assumption) rfl (ix (vs:=[.string ⟨((fixF i x).1).toArray⟩,.string ⟨((fixF i x).2).toArray⟩]) bQ rfl gQ rfl rfl rfl dh ?_)))));refine eh (A:=RT.fd) (hn:=by decide) (M:=nC) aP gQ (by decide) rfl rfl hM (show RT.fd.V _ _ (fixF i x) _ from ef (jY.2 ⟨rfl,eK KS.1 (by decide)⟩) (jY.2 ⟨rfl,eK KS.2 (by decide)⟩) rfl rfl rfl rfl) (.inl rfl) (fun KO Q5 eP ff=>?_);have:=ak g2;replace cV:=(ff.mem _ this).2 cV;replace g2:=ff.aM g2;have:=ak g3;replace dT:=(ff.mem _ this).2 dT;replace g3:=ff.aM g3;have:=ak dh;replace cD:=(ff.mem _ this).2 cD;replace dh:=ff.aM dh;have:=ak cx;replace cu:=(ff.mem _ this).2 cu;replace cx:=ff.aM cx;replace cv:=cv.le (by decide) ff.le;replace de:=de.le ff.le;replace gU:=gU.le ff.le;replace cQ:=cQ.bh ff;replace hM:=ff.lt hM;have:=S.size;replace S:=S.ax ff;refine cR (M:=nC) (base:=xW.heap.size) aP gQ rfl rfl rfl rfl cQ eP (ao _ _) (by simp;omega) (by simp;omega) (by have:=dS.size;have:=fe.size;have:=ff.size;omega) (fun eT kn Q6 Bw fA=>?_);have:=ak g2
     replace cV:=(fA.mem _ this).2 cV;replace g2:=fA.bJ g2 (fun h=>by first|exact cQ.dE g2 h|exact cQ.eR g2 (by decide) h|(have:=(cQ.base _ h).1;omega));have:=ak g3;replace dT:=(fA.mem _ this).2 dT;replace g3:=fA.bJ g3 (fun h=>by first|exact cQ.dE g3 h|exact cQ.eR g3 (by decide) h|(have:=(cQ.base _ h).1;omega));have:=ak dh;replace cD:=(fA.mem _ this).2 cD;replace dh:=fA.bJ dh (fun h=>by first|exact cQ.dE dh h|exact cQ.eR dh (by decide) h|(have:=(cQ.base _ h).1;omega));have:=ak cx;replace cu:=(fA.mem _ this).2 cu;replace cx:=fA.bJ cx (fun h=>by first|exact cQ.dE cx h|exact cQ.eR cx (by decide) h|(have:=(cQ.base _ h).1;omega));replace cv:=cv.le (by decide) fA.le;replace de:=de.le fA.le;replace gU:=gU.le fA.le;replace eP:=eP.le fA.le;replace hM:=fA.lt hM;have:=S.size;replace S:=S.dd fA cQ F4;replace cQ:=Bw;refine aV (o':=1) aK rfl rfl o3 (by decide) rfl rfl ?_;refine bS (M:=kn) o3 rfl rfl cx rfl ((by obtain⟨_,_,he,_⟩:=cQ.isSlice;rw[he];rfl)) cu (fun F6 zA fg=>?_);change F6.heap[_]? =some (Obj.cells #[.int .i64 d.1,eT] _ _)at zA;have:=ak g2;replace cV:=(fg.mem _ this).2 cV;replace g2:=fg.bJ g2 (fun hk=>by have hk:_=_:=hk;omega);have:=ak g3;replace dT:=(fg.mem _ this).2 dT;replace g3:=fg.bJ g3 (fun hk=>by have hk:_=_:=hk;omega);have:=ak dh;replace cD:=(fg.mem _ this).2 cD;replace dh:=fg.bJ dh (fun hk=>by have hk:_=_:=hk;omega);have:=ak cx;replace cu:=(fg.mem _ this).2 cu;replace cv:=cv.le (by decide) fg.le;replace de:=de.le fg.le;replace gU:=gU.le fg.le;replace eP:=eP.le fg.le;replace cQ:=cQ.step fg (fun b hb hk=>by have hk:_=_:=hk;have:=(cQ.base b hb);omega);replace hM:=fg.lt hM;have:=S.size
     replace S:=S.trans fg (fun k hk h=>by have h:_=_:=h;subst h;first|(exfalso;omega)|(show _≤_;omega)|exact⟨by first|omega|assumption,(S.mem _ hk).1 ((fg.mem _ (ak cx)).1 cu)⟩|exact .inl rfl|exact .inr rfl|exact .inr (.inl rfl)|exact .inr (.inr rfl)|exact rfl);have gE:=zA;clear cx;have cx:=gE;clear gE;refine ad (aj (ah (ix (vs:=[.int .i64 d.1,eT]) aK rfl kE rfl rfl rfl cx ?_)));have rO:=cQ.view (hn:=by decide) (by simp;omega);replace cV:rm kn eT _:=⟨cV,by first|exact cQ.eR g2 (by decide)|(intro h;have:=(cQ.base _ h).1;omega)⟩;replace dT:rm kn eT _:=⟨dT,by first|exact cQ.eR g3 (by decide)|(intro h;have:=(cQ.base _ h).1;omega)⟩;replace cD:rm kn eT _:=⟨cD,by first|exact cQ.eR dh (by decide)|(intro h;have:=(cQ.base _ h).1;omega)⟩;replace cu:rm kn eT _:=⟨cu,by first|exact cQ.eR cx (by decide)|(intro h;have:=(cQ.base _ h).1;omega)⟩;replace cv:=cv.le (by decide) (oe _ eT _);replace de:=de.le (oe _ eT _);replace gU:=gU.le (oe _ eT _);replace eP:=eP.le (oe _ eT _);replace hM:Lt (rm kn eT) _:=fun b hb=>hM b hb.1
     replace S:=S.freeze (v:=eT) (fun b hb=>by have:=(cQ.base b hb).1;omega);clear cQ;refine aQ rfl rfl P2 (we (d:=(d.1,[]++out++[fixF i x])) _ hM (ef (fW T5) rO rfl rfl rfl rfl) (fun y hy=>by have:=(xl.snoc KS) y (by simpa using hy);omega)) (fun r14 Q7 hc=>?_);obtain⟨rfl,jv⟩:=hc;rw[jJ]at rO;have:=ak g2;replace cV:=(jv.mem _ this).2 cV;replace g2:=jv.aM g2;have:=ak g3;replace dT:=(jv.mem _ this).2 dT;replace g3:=jv.aM g3;have:=ak dh;replace cD:=(jv.mem _ this).2 cD;replace dh:=jv.aM dh;have:=ak cx;replace cu:=(jv.mem _ this).2 cu;replace cx:=jv.aM cx;replace cv:=cv.le (by decide) jv.le;replace de:=de.le jv.le;replace gU:=gU.le jv.le;replace eP:=eP.le jv.le;replace rO:=rO.le jv.le;replace hM:=jv.lt hM;have:=S.size;replace S:=S.ax jv;refine Rg.AZ rfl rfl rfl (bz (v':= .bool (decide (kI (d.1,out++[fixF i x])=0))) (by rw[jJ]) (ad ?_));refine bH rfl (fun MZ=>?_) (fun MZ=>?_)
     ·refine ah (ix (vs:=[.int .i64 d.1,eT]) aK rfl kE rfl rfl rfl cx ?_);refine fo (M:=rm kn eT) (vs:=[.int .i64 d.1,eT]) kE rfl rfl (by intro u hu;simp at hu;rcases hu with rfl|rfl<;>first|rfl|exact kb (by assumption) rfl rfl) rfl rfl g3 dT (fun WN F7 ib=>?_);have:=ak g2;replace cV:=(ib.mem _ this).2 cV;replace g2:=ib.bJ g2 (fun hk=>by have hk:_=_:=hk;omega);have:=ak g3;replace dT:=(ib.mem _ this).2 dT;have:=ak dh;replace cD:=(ib.mem _ this).2 cD;replace dh:=ib.bJ dh (fun hk=>by have hk:_=_:=hk;omega);have:=ak cx;replace cu:=(ib.mem _ this).2 cu;replace cx:=ib.bJ cx (fun hk=>by have hk:_=_:=hk;omega);replace cv:=cv.le (by decide) ib.le;replace de:=de.le ib.le;replace gU:=gU.le ib.le;replace eP:=eP.le ib.le;replace rO:=rO.le ib.le;replace hM:=ib.lt hM;have:=S.size;replace S:=S.trans ib (fun k hk h=>by have h:_=_:=h;subst h;first|(exfalso;omega)|(show _≤_;omega)|exact⟨by first|omega|assumption,(S.mem _ hk).1 ((ib.mem _ (ak g3)).1 dT)⟩|exact .inl rfl|exact .inr rfl|exact .inr (.inl rfl)|exact .inr (.inr rfl)|exact rfl);have Q8:=F7;clear g3;have g3:=Q8;clear Q8;refine ad (ah (ae rfl rfl (bu rfl rfl rfl (by omega) (ai rfl rfl (ad ?_)))));refine⟨rfl,(i+1,out++[fixF i x]),(.cons rfl (.cons rfl (.cons rfl (.cons rfl (.cons rfl .nil))))),?_,?_⟩
      ·exact⟨_,_,hM,S,cv,de,g2,cV,g3,dT,rO,by rw[tq,T6,if_pos MZ],by dsimp only;omega,by dsimp only;omega,xl.snoc KS,by simp;omega⟩
      ·dsimp only;omega
     ·refine aS (ah (ae rfl rfl (bu rfl rfl rfl (by omega) (ai rfl rfl (ad ?_)))));refine⟨rfl,(i+1,out),(.cons rfl (.cons rfl (.cons rfl (.cons rfl (.cons rfl .nil))))),?_,?_⟩
      ·exact⟨_,_,hM,S,cv,de,g2,cV,g3,dT,gU,by rw[tq,T6,if_neg MZ],by dsimp only;omega,by dsimp only;omega,xl,by dsimp only;omega⟩
      ·dsimp only;omega
    ·rw[show x.1=(fixF i x).1 from by show x.1=if eS x.1=true then x.1 else _;rw[if_pos (by cases hq:eS x.1 with|true=>rfl|false=>exact absurd hq c8)]]at dh;refine aS (aj (ah (aV (o':=1) bQ rfl rfl I9 (by decide) rfl rfl (aH aC rfl rfl rfl (by assumption) rfl (aV (o':=1) bQ rfl rfl I9 (by decide) rfl rfl (aH aC rfl rfl rfl (by assumption) rfl (Rg.k3 aC rfl rfl (bz (v':= .int .i64 (x.2.length:Int)) (by simp[ByteArray.size]) (Rg.min2 rfl rfl rfl (Rg.KF aC rfl rfl rfl (by omega) (bz (v':= .string ⟨((fixF i x).2).toArray⟩) (by rw[zw];rfl) ?_)))))))))));refine aV (o':=1) bQ rfl rfl I9 (by decide) rfl rfl ?_;refine bS (M:=km) I9 rfl rfl dh rfl (rfl) cD (fun CL zx fk=>?_);change CL.heap[_]? =some (Obj.cells #[.string ⟨((fixF i x).1).toArray⟩,.string ⟨((fixF i x).2).toArray⟩] _ _)at zx;have:=ak g2;replace cV:=(fk.mem _ this).2 cV;replace g2:=fk.bJ g2 (fun hk=>by have hk:_=_:=hk;omega);have:=ak g3;replace dT:=(fk.mem _ this).2 dT;replace g3:=fk.bJ g3 (fun hk=>by have hk:_=_:=hk;omega);have:=ak dh;replace cD:=(fk.mem _ this).2 cD;replace cv:=cv.le (by decide) fk.le;replace de:=de.le fk.le;replace gU:=gU.le fk.le;replace hM:=fk.lt hM;have:=S.size;replace S:=S.trans fk (fun k hk h=>by have h:_=_:=h;subst h;first|(exfalso;omega)|(show _≤_;omega)|exact⟨by first|omega|assumption,(S.mem _ hk).1 ((fk.mem _ (ak dh)).1 cD)⟩|exact .inl rfl|exact .inr rfl|exact .inr (.inl rfl)|exact .inr (.inr rfl)|exact rfl);have nF:=zx;clear dh;have dh:=nF;clear nF;refine ad (aj (ah ?_));refine aF (M:=km) (A:=RT.dc) (B:=RT.int .i64) aK rfl rfl I3 (by decide) (QN) rfl rfl (by decide) (by assumption) (by repeat (first|exact ao _ _|refine aT (bj (by assumption)) ?_)) (fun KT F2=>?_)
     refine bV (M:=km) ar rfl rfl (by assumption) (by repeat (first|exact ao _ _|refine aT (bj (by assumption)) ?_)) (fun MY=>?_);refine dU (places:=[(0,1),(1,1)]) aK kE PZ rfl ⟨_,_,rfl,rfl,rfl⟩ (out:=[_,.slice none 0 0]) ⟨0,[_],rfl,rfl,by simp[Value.cells],rfl⟩ ?_;refine fh km kE rfl (fun tB zy Q3 Q4 cx eE=>?_);obtain⟨oT,pG⟩:∃M',M'=ins km tB:=⟨_,rfl⟩;rw[←pG]at eE;have cu:oT tB:=by rw[pG];exact .inl rfl
     change zy.heap[tB]? =some (.cells #[.int .i64 0,.slice none 0 0] _ _)at cx;have:=ak g2;replace cV:=(eE.mem _ this).2 cV;replace g2:=eE.aM g2;have:=ak g3;replace dT:=(eE.mem _ this).2 dT;replace g3:=eE.aM g3;have:=ak dh;replace cD:=(eE.mem _ this).2 cD;replace dh:=eE.aM dh;replace cv:=cv.le (by decide) eE.le;replace de:=de.le eE.le;replace gU:=gU.le eE.le;replace hM:=eE.lt hM;have:=S.size;replace S:=S.ax eE;refine fo (M:=oT) (vs:=[.int .i64 d.1,.slice none 0 0]) kE rfl rfl (by intro u hu;simp at hu;rcases hu with rfl|rfl<;>first|rfl|exact kb (by assumption) rfl rfl) rfl rfl cx cu (fun xW F3 jb=>?_);have:=ak g2;replace cV:=(jb.mem _ this).2 cV;replace g2:=jb.bJ g2 (fun hk=>by have hk:_=_:=hk;omega);have:=ak g3;replace dT:=(jb.mem _ this).2 dT;replace g3:=jb.bJ g3 (fun hk=>by have hk:_=_:=hk;omega);have:=ak dh;replace cD:=(jb.mem _ this).2 cD;replace dh:=jb.bJ dh (fun hk=>by have hk:_=_:=hk;omega);have:=ak cx;replace cu:=(jb.mem _ this).2 cu;replace cv:=cv.le (by decide) jb.le;replace de:=de.le jb.le;replace gU:=gU.le jb.le;replace hM:=jb.lt hM;have:=S.size;replace S:=S.trans jb (fun k hk h=>by have h:_=_:=h;subst h;first|(exfalso;omega)|(show _≤_;omega)|exact⟨by first|omega|assumption,(S.mem _ hk).1 ((jb.mem _ (ak cx)).1 cu)⟩|exact .inl rfl|exact .inr rfl|exact .inr (.inl rfl)|exact .inr (.inr rfl)|exact rfl);have gE:=F3;clear cx;have cx:=gE;clear gE;refine ad (aj (ah (aV (o':=1) aK rfl rfl o3 (by decide) rfl rfl (aH aP rfl rfl rfl (by assumption) rfl (aV (o':=1) aK rfl rfl o3 (by decide) rfl rfl (aH aP rfl rfl rfl (by assumption) rfl ?_))))));have cQ:=Own.KJ RT.fd 127 xW.heap.size hM
     have WM:=ak dh;have F4:w0.heap.size≤xW.heap.size:=S.size;refine cR (M:=oT) (base:=xW.heap.size) aP gQ rfl rfl rfl rfl cQ gU (ao _ _) (by simp;omega) (by simp;omega) (a7 _) (fun tt nC FK oR dS=>?_);have:=ak g2;replace cV:=(dS.mem _ this).2 cV;replace g2:=dS.bJ g2 (fun h=>by first|exact cQ.dE g2 h|exact cQ.eR g2 (by decide) h|(have:=(cQ.base _ h).1;omega));have:=ak g3;replace dT:=(dS.mem _ this).2 dT;replace g3:=dS.bJ g3 (fun h=>by first|exact cQ.dE g3 h|exact cQ.eR g3 (by decide) h|(have:=(cQ.base _ h).1;omega));have:=ak dh;replace cD:=(dS.mem _ this).2 cD;replace dh:=dS.bJ dh (fun h=>by first|exact cQ.dE dh h|exact cQ.eR dh (by decide) h|(have:=(cQ.base _ h).1;omega));have:=ak cx;replace cu:=(dS.mem _ this).2 cu;replace cx:=dS.bJ cx (fun h=>by first|exact cQ.dE cx h|exact cQ.eR cx (by decide) h|(have:=(cQ.base _ h).1;omega));replace cv:=cv.le (by decide) dS.le;replace de:=de.le dS.le;replace gU:=gU.le dS.le;replace hM:=dS.lt hM;have:=S.size;replace S:=S.dd dS cQ F4;replace cQ:=oR;refine aV (o':=1) aK rfl rfl o3 (by decide) rfl rfl ?_;refine bS (M:=nC) o3 rfl rfl cx rfl ((by obtain⟨_,_,he,_⟩:=cQ.isSlice;rw[he];rfl)) cu (fun F5 zz fe=>?_);change F5.heap[_]? =some (Obj.cells #[.int .i64 d.1,tt] _ _)at zz;have:=ak g2;replace cV:=(fe.mem _ this).2 cV;replace g2:=fe.bJ g2 (fun hk=>by have hk:_=_:=hk;omega);have:=ak g3;replace dT:=(fe.mem _ this).2 dT;replace g3:=fe.bJ g3 (fun hk=>by have hk:_=_:=hk;omega);have:=ak dh;replace cD:=(fe.mem _ this).2 cD;replace dh:=fe.bJ dh (fun hk=>by have hk:_=_:=hk;omega);have:=ak cx;replace cu:=(fe.mem _ this).2 cu
     replace cv:=cv.le (by decide) fe.le;replace de:=de.le fe.le;replace gU:=gU.le fe.le;replace cQ:=cQ.step fe (fun b hb hk=>by have hk:_=_:=hk;have:=(cQ.base b hb);omega);replace hM:=fe.lt hM;have:=S.size;replace S:=S.trans fe (fun k hk h=>by have h:_=_:=h;subst h;first|(exfalso;omega)|(show _≤_;omega)|exact⟨by first|omega|assumption,(S.mem _ hk).1 ((fe.mem _ (ak cx)).1 cu)⟩|exact .inl rfl|exact .inr rfl|exact .inr (.inl rfl)|exact .inr (.inr rfl)|exact rfl);have gE:=zz;clear cx;have cx:=gE;clear gE;refine ad (aj (ah (aV (o':=1) aK rfl rfl o3 (by decide) rfl rfl (aH aP rfl rfl rfl (by assumption) rfl (ix (vs:=[.string ⟨((fixF i x).1).toArray⟩,.string ⟨((fixF i x).2).toArray⟩]) bQ rfl gQ rfl rfl rfl dh ?_)))));refine eh (A:=RT.fd) (hn:=by decide) (M:=nC) aP gQ (by decide) rfl rfl hM (show RT.fd.V _ _ (fixF i x) _ from ef (jY.2 ⟨rfl,eK KS.1 (by decide)⟩) (jY.2 ⟨rfl,eK KS.2 (by decide)⟩) rfl rfl rfl rfl) (.inl rfl) (fun KO Q5 eP ff=>?_);have:=ak g2;replace cV:=(ff.mem _ this).2 cV;replace g2:=ff.aM g2;have:=ak g3;replace dT:=(ff.mem _ this).2 dT;replace g3:=ff.aM g3;have:=ak dh;replace cD:=(ff.mem _ this).2 cD;replace dh:=ff.aM dh;have:=ak cx;replace cu:=(ff.mem _ this).2 cu;replace cx:=ff.aM cx;replace cv:=cv.le (by decide) ff.le;replace de:=de.le ff.le;replace gU:=gU.le ff.le;replace cQ:=cQ.bh ff;replace hM:=ff.lt hM;have:=S.size;replace S:=S.ax ff;refine cR (M:=nC) (base:=xW.heap.size) aP gQ rfl rfl rfl rfl cQ eP (ao _ _) (by simp;omega) (by simp;omega) (by have:=dS.size;have:=fe.size;have:=ff.size;omega) (fun eT kn Q6 Bw fA=>?_);have:=ak g2
     replace cV:=(fA.mem _ this).2 cV;replace g2:=fA.bJ g2 (fun h=>by first|exact cQ.dE g2 h|exact cQ.eR g2 (by decide) h|(have:=(cQ.base _ h).1;omega));have:=ak g3;replace dT:=(fA.mem _ this).2 dT;replace g3:=fA.bJ g3 (fun h=>by first|exact cQ.dE g3 h|exact cQ.eR g3 (by decide) h|(have:=(cQ.base _ h).1;omega));have:=ak dh;replace cD:=(fA.mem _ this).2 cD;replace dh:=fA.bJ dh (fun h=>by first|exact cQ.dE dh h|exact cQ.eR dh (by decide) h|(have:=(cQ.base _ h).1;omega));have:=ak cx;replace cu:=(fA.mem _ this).2 cu;replace cx:=fA.bJ cx (fun h=>by first|exact cQ.dE cx h|exact cQ.eR cx (by decide) h|(have:=(cQ.base _ h).1;omega));replace cv:=cv.le (by decide) fA.le;replace de:=de.le fA.le;replace gU:=gU.le fA.le;replace eP:=eP.le fA.le;replace hM:=fA.lt hM;have:=S.size;replace S:=S.dd fA cQ F4;replace cQ:=Bw;refine aV (o':=1) aK rfl rfl o3 (by decide) rfl rfl ?_;refine bS (M:=kn) o3 rfl rfl cx rfl ((by obtain⟨_,_,he,_⟩:=cQ.isSlice;rw[he];rfl)) cu (fun F6 zA fg=>?_);change F6.heap[_]? =some (Obj.cells #[.int .i64 d.1,eT] _ _)at zA;have:=ak g2;replace cV:=(fg.mem _ this).2 cV;replace g2:=fg.bJ g2 (fun hk=>by have hk:_=_:=hk;omega);have:=ak g3;replace dT:=(fg.mem _ this).2 dT;replace g3:=fg.bJ g3 (fun hk=>by have hk:_=_:=hk;omega);have:=ak dh;replace cD:=(fg.mem _ this).2 cD;replace dh:=fg.bJ dh (fun hk=>by have hk:_=_:=hk;omega);have:=ak cx;replace cu:=(fg.mem _ this).2 cu;replace cv:=cv.le (by decide) fg.le;replace de:=de.le fg.le;replace gU:=gU.le fg.le;replace eP:=eP.le fg.le;replace cQ:=cQ.step fg (fun b hb hk=>by have hk:_=_:=hk;have:=(cQ.base b hb);omega);replace hM:=fg.lt hM;have:=S.size
     replace S:=S.trans fg (fun k hk h=>by have h:_=_:=h;subst h;first|(exfalso;omega)|(show _≤_;omega)|exact⟨by first|omega|assumption,(S.mem _ hk).1 ((fg.mem _ (ak cx)).1 cu)⟩|exact .inl rfl|exact .inr rfl|exact .inr (.inl rfl)|exact .inr (.inr rfl)|exact rfl);have gE:=zA;clear cx;have cx:=gE;clear gE;refine ad (aj (ah (ix (vs:=[.int .i64 d.1,eT]) aK rfl kE rfl rfl rfl cx ?_)));have rO:=cQ.view (hn:=by decide) (by simp;omega);replace cV:rm kn eT _:=⟨cV,by first|exact cQ.eR g2 (by decide)|(intro h;have:=(cQ.base _ h).1;omega)⟩;replace dT:rm kn eT _:=⟨dT,by first|exact cQ.eR g3 (by decide)|(intro h;have:=(cQ.base _ h).1;omega)⟩;replace cD:rm kn eT _:=⟨cD,by first|exact cQ.eR dh (by decide)|(intro h;have:=(cQ.base _ h).1;omega)⟩;replace cu:rm kn eT _:=⟨cu,by first|exact cQ.eR cx (by decide)|(intro h;have:=(cQ.base _ h).1;omega)⟩;replace cv:=cv.le (by decide) (oe _ eT _);replace de:=de.le (oe _ eT _);replace gU:=gU.le (oe _ eT _);replace eP:=eP.le (oe _ eT _);replace hM:Lt (rm kn eT) _:=fun b hb=>hM b hb.1
     replace S:=S.freeze (v:=eT) (fun b hb=>by have:=(cQ.base b hb).1;omega);clear cQ;refine aQ rfl rfl P2 (we (d:=(d.1,[]++out++[fixF i x])) _ hM (ef (fW T5) rO rfl rfl rfl rfl) (fun y hy=>by have:=(xl.snoc KS) y (by simpa using hy);omega)) (fun r14 Q7 hc=>?_);obtain⟨rfl,jv⟩:=hc;rw[jJ]at rO;have:=ak g2;replace cV:=(jv.mem _ this).2 cV;replace g2:=jv.aM g2;have:=ak g3;replace dT:=(jv.mem _ this).2 dT;replace g3:=jv.aM g3;have:=ak dh;replace cD:=(jv.mem _ this).2 cD;replace dh:=jv.aM dh;have:=ak cx;replace cu:=(jv.mem _ this).2 cu;replace cx:=jv.aM cx;replace cv:=cv.le (by decide) jv.le;replace de:=de.le jv.le;replace gU:=gU.le jv.le;replace eP:=eP.le jv.le;replace rO:=rO.le jv.le;replace hM:=jv.lt hM;have:=S.size;replace S:=S.ax jv;refine Rg.AZ rfl rfl rfl (bz (v':= .bool (decide (kI (d.1,out++[fixF i x])=0))) (by rw[jJ]) (ad ?_));refine bH rfl (fun MZ=>?_) (fun MZ=>?_)
     ·refine ah (ix (vs:=[.int .i64 d.1,eT]) aK rfl kE rfl rfl rfl cx ?_);refine fo (M:=rm kn eT) (vs:=[.int .i64 d.1,eT]) kE rfl rfl (by intro u hu;simp at hu;rcases hu with rfl|rfl<;>first|rfl|exact kb (by assumption) rfl rfl) rfl rfl g3 dT (fun WN F7 ib=>?_);have:=ak g2;replace cV:=(ib.mem _ this).2 cV;replace g2:=ib.bJ g2 (fun hk=>by have hk:_=_:=hk;omega);have:=ak g3;replace dT:=(ib.mem _ this).2 dT;have:=ak dh;replace cD:=(ib.mem _ this).2 cD;replace dh:=ib.bJ dh (fun hk=>by have hk:_=_:=hk;omega);have:=ak cx;replace cu:=(ib.mem _ this).2 cu;replace cx:=ib.bJ cx (fun hk=>by have hk:_=_:=hk;omega);replace cv:=cv.le (by decide) ib.le;replace de:=de.le ib.le;replace gU:=gU.le ib.le;replace eP:=eP.le ib.le;replace rO:=rO.le ib.le;replace hM:=ib.lt hM;have:=S.size;replace S:=S.trans ib (fun k hk h=>by have h:_=_:=h;subst h;first|(exfalso;omega)|(show _≤_;omega)|exact⟨by first|omega|assumption,(S.mem _ hk).1 ((ib.mem _ (ak g3)).1 dT)⟩|exact .inl rfl|exact .inr rfl|exact .inr (.inl rfl)|exact .inr (.inr rfl)|exact rfl);have Q8:=F7;clear g3;have g3:=Q8;clear Q8;refine ad (ah (ae rfl rfl (bu rfl rfl rfl (by omega) (ai rfl rfl (ad ?_)))));refine⟨rfl,(i+1,out++[fixF i x]),(.cons rfl (.cons rfl (.cons rfl (.cons rfl (.cons rfl .nil))))),?_,?_⟩
      ·exact⟨_,_,hM,S,cv,de,g2,cV,g3,dT,rO,by rw[tq,T6,if_pos MZ],by dsimp only;omega,by dsimp only;omega,xl.snoc KS,by simp;omega⟩
      ·dsimp only;omega
     ·refine aS (ah (ae rfl rfl (bu rfl rfl rfl (by omega) (ai rfl rfl (ad ?_)))));refine⟨rfl,(i+1,out),(.cons rfl (.cons rfl (.cons rfl (.cons rfl (.cons rfl .nil))))),?_,?_⟩
      ·exact⟨_,_,hM,S,cv,de,g2,cV,g3,dT,gU,by rw[tq,T6,if_neg MZ],by dsimp only;omega,by dsimp only;omega,xl,by dsimp only;omega⟩
      ·dsimp only;omega
   ·refine cG (aj (ah (ix (vs:=[.int .i64 d.1,uo]) aK rfl kE rfl rfl rfl g3 ?_)));refine fo (M:=M1) (vs:=[.int .i64 d.1,uo]) kE rfl rfl (by intro u hu;simp at hu;rcases hu with rfl|rfl<;>first|rfl|exact kb (by assumption) rfl rfl) rfl rfl g2 cV (fun WO F8 mf=>?_);have:=ak g2;replace cV:=(mf.mem _ this).2 cV;have:=ak g3;replace dT:=(mf.mem _ this).2 dT;replace g3:=mf.bJ g3 (fun hk=>by have hk:_=_:=hk;omega);replace cv:=cv.le (by decide) mf.le;replace de:=de.le mf.le;replace gU:=gU.le mf.le;replace hM:=mf.lt hM;have:=S.size;replace S:=S.trans mf (fun k hk h=>by have h:_=_:=h;subst h;first|(exfalso;omega)|(show _≤_;omega)|exact⟨by first|omega|assumption,(S.mem _ hk).1 ((mf.mem _ (ak g2)).1 cV)⟩|exact .inl rfl|exact .inr rfl|exact .inr (.inl rfl)|exact .inr (.inr rfl)|exact rfl);have F9:=F8;clear g2;have g2:=F9;clear F9;refine ad (aL ?_);have e:mG d=(d.1,out):=by rw[mG,tq,wg (by omega)]
    rw[e];refine xz (vs:=[.int .i64 d.1,uo]) rfl rfl aK rfl kE rfl g2 ⟨ef (fW T5) (gU.le (Le.close iL S)) rfl rfl rfl rfl,S.back⟩
  ·refine aq rfl rfl rfl rfl (aq rfl rfl rfl rfl (az rfl rfl rfl (ad (gG rfl (cG (aj (ah (ix (vs:=[.int .i64 d.1,uo]) aK rfl kE rfl rfl rfl g3 ?_))))))));refine fo (M:=M1) (vs:=[.int .i64 d.1,uo]) kE rfl rfl (by intro u hu;simp at hu;rcases hu with rfl|rfl<;>first|rfl|exact kb (by assumption) rfl rfl) rfl rfl g2 cV (fun WO F8 mf=>?_);have:=ak g2;replace cV:=(mf.mem _ this).2 cV;have:=ak g3;replace dT:=(mf.mem _ this).2 dT;replace g3:=mf.bJ g3 (fun hk=>by have hk:_=_:=hk;omega);replace cv:=cv.le (by decide) mf.le;replace de:=de.le mf.le;replace gU:=gU.le mf.le;replace hM:=mf.lt hM;have:=S.size;replace S:=S.trans mf (fun k hk h=>by have h:_=_:=h;subst h;first|(exfalso;omega)|(show _≤_;omega)|exact⟨by first|omega|assumption,(S.mem _ hk).1 ((mf.mem _ (ak g2)).1 cV)⟩|exact .inl rfl|exact .inr rfl|exact .inr (.inl rfl)|exact .inr (.inr rfl)|exact rfl);have F9:=F8;clear g2;have g2:=F9;clear F9;refine ad (aL ?_);have e:mG d=(d.1,out):=by rw[mG,tq,wg (by omega)]
   rw[e];refine xz (vs:=[.int .i64 d.1,uo]) rfl rfl aK rfl kE rfl g2 ⟨ef (fW T5) (gU.le (Le.close iL S)) rfl rfl rfl rfl,S.back⟩
end Go.K
namespace Go.K
open Go.Proofs
set_option maxRecDepth 10000
def eo (l:List Dc) (from_ step:Int):Nat→List En
 |0=>[]
 |k+1=>eo l from_ step k++(match l[k]? with|some d=>[(mG d,from_+step*(k:Int))]|none=>[])
theorem jT (l:List Dc) (a s:Int):∀k,(eo l a s k).length=min k l.length
 |0=>by simp[eo]
 |k+1=>by
  rw[eo,bP,jT l a s k]
  cases h:l[k]? with
  |none=>have:=List.getElem?_eq_none_iff.1 h;simp;omega
  |some d=>have:=(av.1 h).1;simp;omega
theorem tC {l:List Dc} {a s:Int} {k:Nat} {d:Dc} (h:l[k]? =some d):eo l a s (k+1)=eo l a s k++[(mG d,a+s*(k:Int))]:=by rw[eo,h]
theorem tD {l:List Dc} {a s:Int} {k:Nat} (h:l.length≤k):eo l a s (k+1)=eo l a s k:=by
 rw[eo,List.getElem?_eq_none_iff.2 h];simp
theorem zB {l:List Dc} {a s:Int} {n i:Nat} (h:l.length≤i∨n≤i) (h1:i≤n):eo l a s i=eo l a s n:=by
 induction n with
 |zero=>have:i=0:=by omega
        rw[this]
 |succ n ih=>
  rcases jx h1 with e|dC
  ·rw[e]
  ·rcases h with h|h
   ·rw[tD (by omega)];exact ih (.inl h) (by omega)
   ·omega
theorem Ji {s k:Int} (h:0≤s∧s≤1000) (hk:0≤k∧k≤100):0≤s*k∧s*k≤100000:=
 ⟨Int.mul_nonneg h.1 hk.1,Int.le_trans (Int.mul_le_mul h.2 hk.2 hk.1 (by omega)) (by omega)⟩
theorem Bx {M:aB} {l:List Dc} {v0:Value} {most:Nat} {a s:Int} (w0:World) (hM:Lt M w0) (hv:(RT.dc.sl).V M w0 l v0) (hm:most≤100) (ha:0≤a∧a≤1000000) (hs:0≤s∧s≤1000):
  Spec Tryz.prog 21 #[v0,.int .i64 (most:Int),.int .i64 a,.int .i64 s] w0 (fun v w=>(RT.en.sl).V M w (eo l a s most) v∧Step M w0 M w aA):=by
 have iL:=hM;refine aZ (args:=[_,_,_,_]) (fn:=Tryz.f21) Tryz.func21 rfl (n:=37) Tryz.ntmps21 ?_;have S:Step M w0 M w0 aA:=(an _ _).ca (fun _ h=>h.elim) (fun _ h=>h.elim);refine aj (ah (ai rfl rfl (ad (aj (ah (ai rfl rfl (ad (aj (aj (ah (ai rfl rfl ?_)))))))))));refine ad (aY ?_);refine dr (σ:=Nat×Value) (fun q=>[(0,v0),(1,.int .i64 (most:Int)),(2,.int .i64 a),(3,.int .i64 s),(9,q.2),(10,.int .i64 (q.1:Int))]) (fun q w=>∃M',Lt M' w∧Step M w0 M' w aA∧Own RT.en 43 M' w w0.heap.size q.2 (eo l a s q.1)∧(RT.dc.sl).V M' w l v0∧q.1≤most∧q.1≤l.length) (fun q=>most-q.1) (0,.slice none 0 0) (.cons rfl (.cons rfl (.cons rfl (.cons rfl (.cons rfl (.cons rfl .nil)))))) ?_ ?_
 ·exact⟨M,hM,S,dK _ _ _ _ _,hv,bB _,bB _⟩
 ·rintro⟨i,u⟩ w ⟨M1,hM,S,ho,hv,hi,mN⟩;dsimp only at ho hi mN ⊢;refine aj (aj (ah (ae rfl rfl (ae rfl rfl (bM Tryz.underlying36 rfl hv rfl (b4 rfl rfl rfl (ae rfl rfl ?_)))))));refine aJ (g:=15) rfl (fun M8=>?_) (fun M8=>?_)
  ·refine al rfl rfl (ae rfl rfl (al rfl rfl (ae rfl rfl (al rfl rfl (b4 rfl rfl rfl (aR rfl rfl rfl (ad ?_)))))));refine bH rfl (fun c3=>?_) (fun c3=>?_)
   ·refine aS (aj (aY (ah (ae rfl rfl (ae rfl rfl (ae rfl rfl ?_))))));refine cK (M:=M1) Tryz.underlying36 kE rfl rfl rfl hv (ao _ _) (by omega) (fun u5 d DJ Bk=>?_);rw[aw]at DJ;have hsi:=Ji (k:=(i:Int)) hs (by omega);refine b5 (M:=M1) (A:=RT.dc) aK rfl kE (by decide) rfl rfl rfl Bk (ao _ _) (fun v5 ou=>?_);refine aQ rfl rfl E65 (DP _ hM ou) (fun r5 w5 hc=>?_);obtain⟨tq,s5⟩:=hc;replace hv:=hv.le s5.le;replace ho:=ho.bh s5;replace hM:=s5.lt hM;have:=S.size;replace S:=S.ax s5;refine ae rfl rfl (ae rfl rfl (ae rfl rfl (Rg.LI rfl rfl rfl (by omega) (bu rfl rfl rfl (by omega) ?_))));obtain⟨uf,rfl⟩:=xS tq;refine dU (places:=[(0,2),(2,1)]) cn uD T0 rfl ⟨_,_,rfl,rfl,_,_,rfl,rfl,rfl⟩ (out:=[_,_,_]) ⟨0,[_,_],rfl,rfl,by simp[Value.cells],2,[_],rfl,rfl,by simp[Value.cells],rfl⟩ ?_;refine eh (A:=RT.en) (hn:=by decide) (M:=M1) dp uD (by decide) rfl rfl hM (show RT.en.V _ _ (mG d,a+s*(i:Int)) _ from CM tq (by omega)) (.inl rfl) (fun KU KV ko kq=>?_);replace hv:=hv.le kq.le;replace tq:=tq.le kq.le;replace ho:=ho.bh kq;replace hM:=kq.lt hM;have:=S.size;replace S:=S.ax kq;refine cR (M:=M1) (base:=w0.heap.size) dp uD rfl rfl rfl rfl ho ko (ao _ _) (by have:=jT l a s i;simp;omega) (by have:=jT l a s i;simp;omega) (S.size) (fun zC zD KW tF kr=>?_);replace hv:=hv.le kr.le;replace tq:=tq.le kr.le;replace ko:=ko.le kr.le;replace hM:=kr.lt hM;have:=S.size;replace S:=S.dd kr ho (a7 _);replace ho:=tF;refine ai rfl rfl (ad (ah (ae rfl rfl (bu rfl rfl rfl (by omega) (ai rfl rfl (ad ?_))))));refine⟨rfl,(i+1,zC),(.cons rfl (.cons rfl (.cons rfl (.cons rfl (.cons rfl (.cons rfl .nil)))))),?_,?_⟩
    ·exact⟨zD,hM,S,by rw[tC DJ];exact ho,hv,by dsimp only;omega,by dsimp only;omega⟩
    ·dsimp only;omega
   ·refine cG (aj (ah (ae rfl rfl (ai rfl rfl (ad (aL ?_))))));rw[←zB (i:=i) (n:=most) (by omega) hi];exact aO rfl rfl ⟨ho.close iL S (by have:=jT l a s i;omega),S.back⟩
  ·refine aq rfl rfl rfl rfl (aq rfl rfl rfl rfl (aq rfl rfl rfl rfl (az rfl rfl rfl (ad (gG rfl (cG (aj (ah (ae rfl rfl (ai rfl rfl (ad ?_)))))))))));refine aL ?_;rw[←zB (i:=i) (n:=most) (by omega) hi];exact aO rfl rfl ⟨ho.close iL S (by have:=jT l a s i;omega),S.back⟩
end Go.K
namespace Go.K
open Go.Maps (Keyed)
structure eF (P:Program) (kt:TypeId) (w:World) (b:Nat) (es:List MapEntry) (clock:Nat):Prop where
 at_:w.heap[b]? =some (.map es.toArray clock)
 born:es.Pairwise fun x y=>x.born≠y.born
 lt:∀e∈es,e.born<clock
 keys:es.Pairwise fun x y=>x.key≠y.key
 ok:∀e∈es,∃l,keyOf P kt e.key=some l
def dF (zv:Value) (es:List MapEntry) (key v:Value):Prop:=(∃e∈es,e.key=key∧v=e.val)∨((∀e∈es,e.key≠key)∧v=zv)
section
variable {P:Program} {kt:TypeId} {w:World} {b clock:Nat} {es:List MapEntry}
theorem eF.step {M M' N:aB} {w':World} (h:eF P kt w b es clock) (s:Step M w M' w' N) (hn: ¬N b):eF P kt w' b es clock:=⟨s.bJ h.at_ hn,h.born,h.lt,h.keys,h.ok⟩
theorem eF.bh {M M':aB} {w':World} (h:eF P kt w b es clock) (s:Step M w M' w' aA):eF P kt w' b es clock:=h.step s fun h=>h
theorem fT {α:Type} {R:α→α→Prop} {l:List α} (h:l.Pairwise R) {i j:Nat} {x y:α} (hi:l[i]? =some x) (hj:l[j]? =some y) (gv:i<j):R x y:=by
 obtain⟨h1,h2⟩:=av.1 hi;obtain⟨h3,h4⟩:=av.1 hj;have:=List.pairwise_iff_getElem.1 h i j h1 h3 gv
 rwa [h2,h4]at this
theorem eF.CQ (h:eF P kt w b es clock) {x y:MapEntry} (hx:x∈es) (hy:y∈es) (e:x.key=y.key):x=y:=by
 obtain⟨i,hi⟩:=bF.1 hx;obtain⟨j,hj⟩:=bF.1 hy;rcases ir i j with h1|h1|h1
 ·exact absurd e (fT h.keys hi hj h1)
 ·subst h1;rw[hi]at hj;exact bp hj
 ·exact absurd e.symm (fT h.keys hj hi h1)
theorem eF.zE (h:eF P kt w b es clock) {i j:Nat} {x y:MapEntry} (hi:es[i]? =some x) (hj:es[j]? =some y) (e:x.born=y.born):i=j:=by
 rcases ir i j with h1|h1|h1
 ·exact absurd e (fT h.born hi hj h1)
 ·exact h1
 ·exact absurd e.symm (fT h.born hj hi h1)
theorem eF.val_one (h:eF P kt w b es clock) {zv key v v':Value} (h1:dF zv es key v) (h2:dF zv es key v'):v=v':=by
 rcases h1 with⟨e,he,hk,hv⟩|⟨hn,hv⟩
 ·rcases h2 with⟨e',nG,sF,od⟩|⟨KX,_⟩
  ·have:=h.CQ he nG (hk.trans sF.symm);rw[hv,od,this]
  ·exact absurd hk (KX e he)
 ·rcases h2 with⟨e',nG,sF,_⟩|⟨_,od⟩
  ·exact absurd sF (hn e' nG)
  ·rw[hv,od]
theorem dm {r:Nat} {a:Array MapEntry} {c:Nat} (hb:w.heap[r]? =some (.map a c)):(getObj r).run P w= .ok (.map a c) w:=by simp[getObj,Sem.run,hb]
theorem run_setObj_map {r:Nat} {a:Array MapEntry} {c:Nat} {o:Obj} (hb:w.heap[r]? =some (.map a c)):(setObj r o).run P w= .ok () {w with heap:=w.heap.setIfInBounds r o}:=by simp[setObj,Sem.run,hb]
theorem eF.push (h:eF P kt w b es clock) {key v:Value} {kl:Lit} (jE:keyOf P kt key=some kl) (hn:∀e∈es,e.key≠key) {w':World} (hw:w'.heap[b]? =some (.map (es++([⟨key,v,clock⟩]:List MapEntry)).toArray (clock+1))):eF P kt w' b (es++[⟨key,v,clock⟩]) (clock+1):=
 ⟨hw,List.pairwise_append.2 ⟨h.born,List.pairwise_singleton _ _,fun x hx y hy=>by rw[cw.1 hy];have:=h.lt x hx;show x.born≠clock;omega⟩,(fun e he=>by
  rcases cY.1 he with he|he
  ·have:=h.lt e he;omega
  ·rw[cw.1 he];exact Nat.lt_succ_self _),List.pairwise_append.2 ⟨h.keys,List.pairwise_singleton _ _,fun x hx y hy=>by rw[cw.1 hy];exact hn x hx⟩,(fun e he=>by
  rcases cY.1 he with he|he
  ·exact h.ok e he
  ·rw[cw.1 he];exact⟨kl,jE⟩)⟩
theorem dF.push {zv key:Value} {s:Nat} (hn:∀e∈es,e.key≠key) (gF v':Value):dF zv (es++[⟨key,zv,s⟩]) gF v'↔dF zv es gF v':=by
 constructor
 ·rintro(⟨e,he,hk,hv⟩|⟨h1,h2⟩)
  ·rcases cY.1 he with he|he
   ·exact .inl ⟨e,he,hk,hv⟩
   ·rw[cw.1 he]at hk hv;exact .inr ⟨fun e he=>by rw[←hk];exact hn e he,hv⟩
  ·exact .inr ⟨fun e he=>h1 e (kW _ he),h2⟩
 ·rintro(⟨e,he,hk,hv⟩|⟨h1,h2⟩)
  ·exact .inl ⟨e,kW _ he,hk,hv⟩
  ·by_cases hk:key=gF
   ·exact .inl ⟨⟨key,zv,s⟩,by simp,hk,h2⟩
   ·exact .inr ⟨fun e he=>by
     rcases cY.1 he with he|he
     ·exact h1 e he
     ·rw[cw.1 he];exact hk,h2⟩
end
section
variable {P:Program} {r:Option Nat} {n:Nat} {L:Sl} {ds:List Deferred} {w:World} {K:Kt} {ops:Array Oper} {rest:List Oper} {d:Nat} {x y z:Operand} {ty:TypeId} {pos:String} {af:Array Edge}
variable {kt:TypeId} {M:aB} {b clock:Nat} {es:List MapEntry}
theorem Rg.zF {t e:TypeId} (M:aB) (ht:P.underlying t=some (.map kt e)) (hd:Nat.blt d n=true)
  (k:∀b w',w.heap.size≤b→b<w'.heap.size→eF P kt w' b [] 0→Step M w (ins M b) w' aA→Rg P r n ops rest ((d,.map (some b))::L) ds w' K):
  Rg P r n ops ({dst:=some d,op:= .makeMap t none,type:=ty,pos,after:=af,guard:=none}::rest) L ds w K:=by
 refine .op (fun _ h=>by cases h) rfl rfl hd (.map (some w.heap.size)) (w.alloc (.map #[] 0)) (fun ρ hρ=>?_) (k w.heap.size _ (a7 _) (by simp) ⟨cz w _,List.Pairwise.nil,(fun e he=>by cases he),List.Pairwise.nil,(fun e he=>by cases he)⟩ ((dg M w _).own (a7 _) (by simp)));simp only[execOp];simp[Instr.makeMap,newObj,Sem.run,run_underlying ht]
theorem Rg.mapEntry {t e:TypeId} {zv key:Value} {size bytes:Nat} {kl:Lit} (ht:P.underlying t=some (.map kt e)) (Kk:Keyed P kt) (hi:TI P e zv size bytes) (hx:ev L x=some (.map (some b))) (hy:ev L y=some key) (hd:Nat.blt d n=true) (jE:keyOf P kt key=some kl) (h:eF P kt w b es clock) (hm:M b)
  (k:∀w' mH By v s,eF P kt w' b mH By→dF zv es key v→(⟨key,v,s⟩:MapEntry)∈mH→(∀gF v',dF zv mH gF v'↔dF zv es gF v')→((mH.map (·.key)=es.map (·.key)∧∃e∈es,e.key=key)∨(mH.map (·.key)=es.map (·.key)++[key]∧∀e∈es,e.key≠key))→Step M w M w' (fun k=>k=b)→Rg P r n ops rest ((d,.tuple #[v,.int .i64 (s:Nat)])::L) ds w' K):
  Rg P r n ops ({dst:=some d,op:= .mapEntry t x y,type:=ty,pos,after:=af,guard:=none}::rest) L ds w K:=by
 have dC:=ak h.at_;rcases Kk.find w jE es h.ok with⟨h1,h2⟩|⟨j,e0,h1,h2,h3⟩
 ·obtain⟨inf,i1,i2,_,_⟩:=hi.get;have hz:(zeroValue e).run P w= .ok zv w:=by simp[zeroValue,typeInfo,i1,i2]
  have hw:({w with heap:=w.heap.setIfInBounds b (.map (es.toArray.push ⟨key,zv,clock⟩) (clock+1))}:World).heap[b]? =some (.map (es++([⟨key,zv,clock⟩]:List MapEntry)).toArray (clock+1)):=by
   simp[cT,dC]
  refine .op (fun _ h=>by cases h) rfl rfl hd _ _ (fun ρ hρ=>?_) (k _ _ _ zv clock (h.push jE h2 hw) (Or.inr ⟨h2,rfl⟩) (by simp) (dF.push h2) (Or.inr ⟨by simp,h2⟩) (gC M hm));simp only[execOp,hρ x _ hx,hρ y _ hy,Instr.mapEntry,db,run_underlying ht,dw,dm h.at_,Kk.check w false jE,h1,hz,run_setObj_map h.at_];simp[goInt]
 ·have he:e0∈es:=aI h2
  have Ga:es.toArray.modify j (fun e=>{e with key:=key})=es.toArray:=by
   apply Array.ext_getElem?;intro i;rw[pY]
   split
   ·rename_i Q9
    subst Q9;simp only[fJ,h2,dN];rw[←h3]
   ·rfl
  have hw:({w with heap:=w.heap.setIfInBounds b (.map es.toArray clock)}:World).heap[b]? =some (.map es.toArray clock):=by simp[cT,dC]
  have hj:es.toArray[j]? =some e0:=by simpa using h2
  have iK:(Instr.keyThatStays ((Option.map (fun(e:MapEntry)=>e.key) es.toArray[j]?).getD key) key).run P w= .ok key w:=by
   rw[hj];simp only[dN,Option.getD_some,h3];exact Kk.stays w jE
  refine .op (fun _ h=>by cases h) rfl rfl hd _ _ (fun ρ hρ=>?_) (k _ es clock e0.val e0.born ⟨hw,h.born,h.lt,h.keys,h.ok⟩ (Or.inl ⟨e0,he,h3,rfl⟩) (by rw[←h3];exact he) (fun _ _=>Iff.rfl) (Or.inl ⟨rfl,e0,he,h3⟩) (gC M hm));simp only[execOp,hρ x _ hx,hρ y _ hy,Instr.mapEntry,db,run_underlying ht,dw,dm h.at_,Kk.check w false jE,h1,iK,Ga,run_setObj_map h.at_];simp[goInt,hj]
theorem Rg.entryStore {t:TypeId} {key v0 val:Value} {s:Nat} (hx:ev L x=some (.map (some b))) (hy:ev L y=some (.int .i64 (s:Int))) (hz:ev L z=some val) (h:eF P kt w b es clock) (hm:M b) (lQ:(⟨key,v0,s⟩:MapEntry)∈es)
  (k:∀w' mH,eF P kt w' b mH clock→mH.map (·.key)=es.map (·.key)→(∀zv gF v',dF zv mH gF v'↔(gF=key∧v'=val)∨(gF≠key∧dF zv es gF v'))→Step M w M w' (fun k=>k=b)→Rg P r n ops rest L ds w' K):
  Rg P r n ops ({dst:=none,op:= .entryStore t x y z,type:=ty,pos,after:=af,guard:=none}::rest) L ds w K:=by
 have dC:=ak h.at_;obtain⟨i,hi⟩:=bF.1 lQ;have mN:=(av.1 hi).1
 have WQ:es.toArray.findIdx? (fun e=>(e.born:Int)==(s:Int))=some i:=by
  rw[List.findIdx?_toArray,List.findIdx?_eq_some_iff_getElem];refine⟨mN,by rw[(av.1 hi).2];simp,fun j hj=>?_⟩;have o2:j<es.length:=by omega
  have:=fun e=>h.zE (aD o2) hi e
  simp only[Bool.not_eq_true,beq_eq_false_iff_ne,ne_eq];intro e;have e2:((es[j]).born:Int)=(s:Int):=by simpa using e
  have:=this (by show(es[j]).born=s;omega);omega
 obtain⟨mH,qt⟩:∃mH,mH=es.set i ⟨key,val,s⟩:=⟨_,rfl⟩
 have Ga:es.toArray.modify i (fun e=>{e with val:=val})=mH.toArray:=by
  apply Array.ext_getElem?;intro j;rw[pY,qt];simp only[fJ,dJ]
  split
  ·rename_i Q9
   subst Q9;rw[hi];simp
  ·rfl
 have gh:∀j e',mH[j]? =some e'→(j=i∧e'=⟨key,val,s⟩)∨(j≠i∧es[j]? =some e'):=fun j e' hj=>by
  rw[qt,dJ]at hj
  split at hj
  ·rename_i gv
   left;exact⟨gv.symm,by simpa[mN]using hj.symm⟩
  ·rename_i gv
   exact .inr ⟨fun e=>gv e.symm,hj⟩
 have mI:mH.map (·.key)=es.map (·.key):=by
  rw[qt,List.map_set];apply kC;intro j;rw[dJ]
  split
  ·rename_i gv
   subst gv;have e:=(av.1 hi).2;simp[mN,e]
  ·rfl
 have Gb:mH.map (·.born)=es.map (·.born):=by
  rw[qt,List.map_set];apply kC;intro j;rw[dJ]
  split
  ·rename_i gv
   subst gv;have e:=(av.1 hi).2;simp[mN,e]
  ·rfl
 have hw:({w with heap:=w.heap.setIfInBounds b (.map mH.toArray clock)}:World).heap[b]? =some (.map mH.toArray clock):=by simp[cT,dC]
 have ej:∀e'∈mH,(e'=⟨key,val,s⟩)∨(e'∈es∧e'.key≠key):=fun e' nG=>by
  obtain⟨j,hj⟩:=bF.1 nG;rcases gh j e' hj with⟨_,e⟩|⟨eI,qi⟩
  ·exact .inl e
  ·refine .inr ⟨aI qi,fun e=>eI ?_⟩;rcases ir j i with h1|h1|h1
   ·exact absurd e (fT h.keys qi hi h1)
   ·exact h1
   ·exact absurd e.symm (fT h.keys hi qi h1)
 have Gc:(⟨key,val,s⟩:MapEntry)∈mH:=aI (i:=i) (by rw[qt,dJ];simp[mN])
 have hold:∀e'∈es,e'.key≠key→e'∈mH:=fun e' nG eI=>by
  obtain⟨j,hj⟩:=bF.1 nG;refine aI (i:=j) ?_;rw[qt,dJ,if_neg]
  ·exact hj
  ·rintro rfl;rw[hi]at hj;cases hj;exact eI rfl
 have hW:eF P kt {w with heap:=w.heap.setIfInBounds b (.map mH.toArray clock)} b mH clock:=by
  refine⟨hw,?_,fun e' nG=>?_,?_,fun e' nG=>?_⟩
  ·have:=dv.2 h.born;rw[←Gb]at this;exact dv.1 this
  ·rcases ej e' nG with e|⟨h1,_⟩
   ·rw[e];exact(h.lt _ lQ:s<clock)
   ·exact h.lt _ h1
  ·have:=dv.2 h.keys;rw[←mI]at this;exact dv.1 this
  ·rcases ej e' nG with e|⟨h1,_⟩
   ·rw[e];exact(h.ok _ lQ:∃l,keyOf P kt key=some l)
   ·exact h.ok _ h1
 refine .Pp (fun _ h=>by cases h) rfl rfl _ (fun ρ hρ=>?_) (k _ mH hW mI (fun zv gF v'=>?_) (gC M hm))
 ·simp only[execOp,hρ x _ hx,hρ y _ hy,hρ z _ hz,Instr.entryStore,db,dm h.at_,dw,asInt,asIntOf,Sem.run_pure,WQ,Ga,run_setObj_map h.at_]
 ·constructor
  ·rintro(⟨e',nG,hk,hv⟩|⟨h1,h2⟩)
   ·rcases ej e' nG with e|⟨h3,h4⟩
    ·subst e;exact .inl ⟨hk.symm,hv⟩
    ·exact .inr ⟨by rw[←hk];exact h4,.inl ⟨e',h3,hk,hv⟩⟩
   ·have eI:gF≠key:=fun e=>h1 _ Gc e.symm
    exact .inr ⟨eI,.inr ⟨fun e' nG=>fun e=>by
     by_cases h5:e'.key=key
     ·exact eI (e.symm.trans h5)
     ·exact h1 e' (hold e' nG h5) e,h2⟩⟩
  ·rintro(⟨rfl,rfl⟩|⟨eI,⟨e',nG,hk,hv⟩|⟨h1,h2⟩⟩)
   ·exact .inl ⟨_,Gc,rfl,rfl⟩
   ·exact .inl ⟨e',hold e' nG (by rw[hk];exact eI),hk,hv⟩
   ·exact .inr ⟨fun e' nG=>by
     rcases ej e' nG with e|⟨h3,_⟩
     ·rw[e];exact fun e=>eI e.symm
     ·exact h1 e' h3,h2⟩
theorem Rg.pH {t e:TypeId} {zv key:Value} {size bytes:Nat} {kl:Lit} (ht:P.underlying t=some (.map kt e)) (Kk:Keyed P kt) (hi:TI P e zv size bytes) (hx:ev L x=some (.map (some b))) (hy:ev L y=some key) (hd:Nat.blt d n=true) (jE:keyOf P kt key=some kl) (h:eF P kt w b es clock)
  (k:∀v,dF zv es key v→Rg P r n ops rest ((d,v)::L) ds w K):
  Rg P r n ops ({dst:=some d,op:= .lookup t x y false,type:=ty,pos,after:=af,guard:=none}::rest) L ds w K:=by
 rcases Kk.find w jE es h.ok with⟨h1,h2⟩|⟨j,e0,h1,h2,h3⟩
 ·obtain⟨inf,i1,i2,_,_⟩:=hi.get;have hz:(zeroValue e).run P w= .ok zv w:=by simp[zeroValue,typeInfo,i1,i2]
  refine .op (fun _ h=>by cases h) rfl rfl hd zv w (fun ρ hρ=>?_) (k zv (Or.inr ⟨h2,rfl⟩));simp only[execOp,hρ x _ hx,hρ y _ hy,Instr.lookup,db,run_underlying ht,dw,dm h.at_,Sem.run_pure,Kk.check w _ jE,h1,hz];simp
 ·refine .op (fun _ h=>by cases h) rfl rfl hd e0.val w (fun ρ hρ=>?_) (k e0.val (Or.inl ⟨e0,aI h2,h3,rfl⟩));simp only[execOp,hρ x _ hx,hρ y _ hy,Instr.lookup,db,run_underlying ht,dw,dm h.at_,Sem.run_pure,Kk.check w _ jE,h1];simp
end
end Go.K
namespace Go.K
open Go.Proofs
set_option maxRecDepth 10000
open Go.Maps (Keyed)
def kv (t:Fd):Value:= .agg #[.string ⟨t.1.toArray⟩,.string ⟨t.2.toArray⟩]
theorem qu {a b:Fd} (h:kv a=kv b):a=b:=by
 unfold kv at h;simp only[Value.agg.injEq,Array.mk.injEq,List.cons.injEq,Value.string.injEq,ByteArray.mk.injEq,and_true]at h;exact Prod.ext h.1 h.2
theorem Gd:laidOutB Tryz.prog=true:=by kernel_rfl
theorem Ge:Tryz.prog.types.size=356:=by kernel_rfl
theorem wh:Keyed Tryz.prog 47:=Keyed.of_law (deep_law_laid Gd (m:=2) (k:=47) (by omega) (by rw[Ge];decide) (by kernel_rfl) (by kernel_rfl))
theorem Ra:Tryz.prog.keyType 47=true:=by kernel_rfl
theorem CR:Tryz.prog.cellsOf 47=2:=by kernel_rfl
theorem Jj:Tryz.prog.cellsOf 9=1:=by kernel_rfl
theorem Gf (t:Fd) (h1:t.1.length≤140737488355328) (h2:t.2.length≤140737488355328):∃l,keyOf Tryz.prog 47 (kv t)=some l:=by
 have e1:(⟨t.1.toArray⟩:ByteArray).size=t.1.length:=by simp[ByteArray.size]
 have e2:(⟨t.2.toArray⟩:ByteArray).size=t.2.length:=by simp[ByteArray.size]
 have hs:∀(s:ByteArray),s.size≤maxLen→Tryz.prog.keyLits 356 9 [.string s]=some [.string s.data.toList]:=fun s hs=>by
  show(match Tryz.prog.underlying 9,[Value.string s]with|_,_=>_)=_;rw[aC];exact if_pos hs
 unfold keyOf kv;rw[bR];simp only[Ra,Value.formed,bR,CR,Ge]
 have key:∃ls,Tryz.prog.keyLits (356+1) 47 [.string ⟨t.1.toArray⟩,.string ⟨t.2.toArray⟩]=some ls:=by
  unfold Program.keyLits;simp only[bR];rw[if_pos ⟨by rw[CR];rfl,by kernel_rfl⟩];simp only[List.mapM_cons,List.mapM_nil,Jj];have g1:=hs ⟨t.1.toArray⟩ (by rw[e1];unfold maxLen;omega);have g2:=hs ⟨t.2.toArray⟩ (by rw[e2];unfold maxLen;omega);refine⟨[.string (⟨t.1.toArray⟩:ByteArray).data.toList,.string (⟨t.2.toArray⟩:ByteArray).data.toList],?_⟩;simp only[List.drop_zero,List.drop_succ_cons,lR,List.take_zero,g1,g2];rfl
 obtain⟨ls,EC⟩:=key;exact⟨.string (keyBytes ls),by rw[if_pos (by simp)];show Option.map _ (Tryz.prog.keyLits (356+1) 47 [.string ⟨t.1.toArray⟩,.string ⟨t.2.toArray⟩])=_;rw[EC];rfl⟩
end Go.K
namespace Go.K
open Go.Proofs
set_option maxRecDepth 10000
def fY (x:Fd):List (Fd×Nat):=(words x.2).zipIdx.map fun p=>((x.1,p.1),p.2)
def bX (l:List Fd):List (Fd×Nat):=l.flatMap fY
theorem lJ (x:Fd):(fY x).length=(words x.2).length:=by simp[fY]
theorem Gg {x:Fd} {k:Nat} {y:List UInt8} (h:(words x.2)[k]? =some y):(fY x)[k]? =some ((x.1,y),k):=by
 simp[fY,List.getElem?_zipIdx,h]
theorem oU {fs:List Fd} {i:Nat} {x:Fd} (h:fs[i]? =some x):bX (fs.take (i+1))=bX (fs.take i)++fY x:=by
 rw[bN,h];simp[bX]
structure Na (P:Program) (g:FuncId) (cap:List Value) (B:Nat) (J:List (Fd×Nat)→aB→World→Prop):Prop where
 enters:Enters P g
 step:∀ts M w M' w',J ts M w→Step M w M' w' aA→J ts M' w'
 tell:∀ts M w (t:Fd) (i:Nat),J ts M w→Lt M w→t.1.length≤900000→t.2.length≤140737488355328→i≤1000000→ts.length≤10000000→Spec P g ([kv t,.int .i64 (i:Int)]++cap).toArray w (fun _ w'=>∃M',Lt M' w'∧J (ts++[(t,i)]) M' w'∧Step M w M' w' (jL M B))
theorem wk {M:aB} {d:Dc} {v0:Value} {g:FuncId} {cap:List Value} {B:Nat} {J:List (Fd×Nat)→aB→World→Prop} (w0:World) (hM:Lt M w0) (hv:RT.dc.V M w0 d v0) (hl:∀f∈d.2,f.1.length≤900000∧f.2.length≤900000) (T4:d.2.length≤8) (hT:Na Tryz.prog g cap B J) (hJ:J [] M w0):
  Spec Tryz.prog 154 #[v0,.func (.func g) #[] cap.toArray] w0 (fun v w=>∃M',Lt M' w∧J (bX d.2) M' w∧Step M w0 M' w (jL M B)):=by
 refine aZ (args:=[_,_]) (fn:=Tryz.f154) Tryz.func154 rfl (n:=33) Tryz.ntmps154 ?_;have S:Step M w0 M w0 (jL M B):=(an _ _).ca (fun _ h=>h.elim) (fun _ h=>h.2);refine aj (ah ?_);refine gx (A:=RT.dc) rfl rfl hM hv rfl (fun u0 w1 cv s0 _=>?_);replace hJ:=hT.step _ _ _ _ _ hJ s0;replace hM:=s0.lt hM;have:=S.size;replace S:=S.ax s0;refine ad (aj (ah ?_));refine aF (M:=M) (A:=RT.dc) (B:=(RT.fd).sl) aK rfl rfl o3 (by decide) (AW) rfl rfl (by decide) (by assumption) (by repeat (first|exact ao _ _|refine aT (bj (by assumption)) ?_)) (fun uP jI=>?_);refine bY (M:=M) aP rfl rfl rfl rfl rfl (by assumption) (by repeat (first|exact ao _ _|refine aT (bj (by assumption)) ?_)) (fun uQ kQ=>?_);refine bM aP rfl kQ rfl (ae rfl rfl (ad (aY ?_)));refine dr (σ:=Nat) (fun i=>[(1,.func (.func g) #[] cap.toArray),(9,uQ),(10,.int .i64 (d.2.length:Int)),(11,.int .i64 (i:Int))]) (fun i w=>∃M',Lt M' w∧Step M w0 M' w (jL M B)∧(RT.fd.sl).V M' w d.2 uQ∧J (bX (d.2.take i)) M' w∧i≤d.2.length∧(bX (d.2.take i)).length≤900001*i) (fun i=>d.2.length-i) 0 (.cons rfl (.cons rfl (.cons rfl (.cons rfl .nil)))) ?_ ?_
 ·exact⟨_,hM,S,kQ,hJ,bB _,a7 _⟩
 ·rintro i w ⟨M1,hM,S,mB,hJ,hi,IB⟩;refine aj (ah (b4 rfl rfl rfl (ad (aj ?_))));refine bH rfl (fun c2=>?_) (fun c2=>?_)
  ·refine aS (aj (aY (aj (ah ?_))));refine cK (M:=M1) aP gQ rfl rfl rfl mB (ao _ _) (by omega) (fun u3 x Nb O4=>?_);rw[aw]at Nb;have vL:=hl _ (aI Nb);refine b5 (M:=M1) (A:=RT.fd) bQ rfl gQ (by decide) rfl rfl rfl O4 (ao _ _) (fun v3 uU=>?_);refine mz (A:=RT.fd) (M:=M1) gQ rfl rfl rfl rfl rfl (by assumption) (ao _ _) hM (fun Jk aep tG Jl aeq=>?_);replace mB:=mB.le Jl.le;replace hJ:=hT.step _ _ _ _ _ hJ Jl;replace hM:=Jl.lt hM;have:=S.size;replace S:=S.ax Jl;refine ad (aj (ah ?_));refine aF (M:=M1) (A:=RT.fd) (B:=RT.str) bQ rfl rfl I9 (by decide) (O0) rfl rfl (by decide) (by assumption) (by repeat (first|exact ao _ _|refine aT (bj (by assumption)) ?_)) (fun MG CO=>?_);refine bY (M:=M1) aC rfl rfl rfl rfl rfl CO (ao _ _) (fun v4 qq=>?_);obtain rfl:=eD qq;refine aQ rfl rfl P5 (ti (l:=x.2) _ hM vL.2) (fun v5 w5 hc=>?_);obtain⟨Rb,s5⟩:=hc;replace mB:=mB.le s5.le;replace tG:=tG.le (by decide) s5.le;replace hJ:=hT.step _ _ _ _ _ hJ s5;replace hM:=s5.lt hM;have:=S.size;replace S:=S.ax s5;have Wv:=lH x.2;refine bM a8 rfl Rb rfl (ae rfl rfl (ad (aY ?_)));refine dr (σ:=Nat) (fun k=>[(1,.func (.func g) #[] cap.toArray),(5,Jk),(9,uQ),(10,.int .i64 (d.2.length:Int)),(11,.int .i64 (i:Int)),(17,v5),(18,.int .i64 ((words x.2).length:Int)),(19,.int .i64 (k:Int))]) (fun k w=>∃M',Lt M' w∧Step M w0 M' w (jL M B)∧(RT.fd.sl).V M' w d.2 uQ∧cp RT.fd M' w Jk x∧(RT.str.sl).V M' w (words x.2) v5∧J (bX (d.2.take i)++(fY x).take k) M' w∧k≤(words x.2).length) (fun k=>(words x.2).length-k) 0 (.cons rfl (.cons rfl (.cons rfl (.cons rfl (.cons rfl (.cons rfl (.cons rfl (.cons rfl .nil)))))))) ?_ ?_
   ·exact⟨_,hM,S,mB,tG,Rb,by rw[List.take_zero,rY];exact hJ,bB _⟩
   ·rintro k w ⟨M2,hM,S,mB,tG,Rb,hJ,hk⟩;refine aj (ah (b4 rfl rfl rfl (ad (aj ?_))));refine bH rfl (fun c5=>?_) (fun c5=>?_)
    ·refine aS (aj (aY (aj (ah (ae rfl rfl ?_)))));refine cK (M:=M2) a8 I9 rfl rfl rfl Rb (ao _ _) (by omega) (fun u6 y EA MA=>?_);rw[aw]at EA;refine bY (M:=M2) aC rfl rfl rfl rfl rfl MA (ao _ _) (fun v6 ot=>?_);have OR:=(jY.1 ot).2;obtain rfl:=eD ot;refine ai rfl rfl (ai rfl rfl (ad (ah (ae rfl rfl ?_))));refine aF (M:=M2) (A:=RT.fd) (B:=RT.str) bQ rfl rfl I9 (by decide) (Jb) rfl rfl (by decide) (by assumption) (by repeat (first|exact ao _ _|refine aT (bj (by assumption)) ?_)) (fun aer Rc=>?_);refine bY (M:=M2) aC rfl rfl rfl rfl rfl Rc (ao _ _) (fun v7 Bz=>?_);obtain rfl:=eD Bz;refine ae rfl rfl (dU (places:=[(0,1),(1,1)]) bR o4 B47 rfl ⟨_,_,rfl,rfl,_,_,rfl,rfl,rfl⟩ (out:=[_,_]) ⟨0,[_],rfl,rfl,by simp[Value.cells],1,[_],rfl,rfl,by simp[Value.cells],rfl⟩ (ae rfl rfl ?_));refine Rg.o9 (first:=[]) (captured:=cap) (xs:=[.tmp 28,.tmp 29]) rfl rfl rfl hT.enters (hT.tell _ _ _ (x.1,y) k hJ hM vL.1 OR (by omega) (by rw[bP,bG,lJ];omega)) (fun r7 w7 hc=>?_);obtain⟨M7,hM7,hJ7,s7⟩:=hc;refine ad (ah (bu rfl rfl rfl (by omega) (ae rfl rfl (ad ?_))));refine⟨rfl,k+1,(.cons rfl (.cons rfl (.cons rfl (.cons rfl (.cons rfl (.cons rfl (.cons rfl (.cons rfl .nil)))))))),?_,?_⟩
     ·exact⟨M7,hM7,S.trans s7 (fun b hb h=>⟨h.1,(S.mem b hb).1 h.2⟩),mB.le s7.le,tG.le (by decide) s7.le,Rb.le s7.le,by rw[bN,Gg EA,ck,←List.append_assoc];exact hJ7,by omega⟩
     ·omega
    ·refine cG (ah (bu rfl rfl rfl (by omega) (ae rfl rfl (ad ?_))));refine⟨rfl,i+1,(.cons rfl (.cons rfl (.cons rfl (.cons rfl .nil)))),?_,?_⟩
     ·exact⟨_,hM,S,mB,by rw[oU Nb];have e:(fY x).take k=fY x:=aW (by rw[lJ];omega);rw[e]at hJ;exact hJ,by omega,by rw[oU Nb,bP,lJ];omega⟩
     ·omega
  ·refine cG ?_
   first|refine fL.nil ?_|simp+decide only[sc,kX,if_true,if_false]|skip
   have e:d.2.take i=d.2:=aW (by omega);rw[e]at hJ;exact gZ rfl ⟨_,hM,hJ,S⟩
theorem xX {M:aB} {w:World} {t:Fd} (h1:t.1.length≤140737488355328) (h2:t.2.length≤140737488355328):RT.fd.V M w t (kv t):=ef (jY.2 ⟨rfl,h1⟩) (jY.2 ⟨rfl,h2⟩) rfl rfl rfl rfl
def WJ (b B:Nat) (ts:List (Fd×Nat)) (M:aB) (w:World):Prop:=w.heap[b]? =some (.cells #[.int .i64 (ts.length:Int)] 3 (0,0))∧M b∧B≤b
theorem xY {M:aB} {b B:Nat} {ts:List (Fd×Nat)} {t:Fd} {i:Nat} (w0:World) (hM:Lt M w0) (h1:t.1.length≤900000) (h2:t.2.length≤140737488355328) (E4:ts.length≤10000000) (hJ:WJ b B ts M w0):
  Spec Tryz.prog 161 #[kv t,.int .i64 (i:Int),.pointer (some ⟨b,0,none⟩)] w0 (fun v w=>∃M',Lt M' w∧WJ b B (ts++[(t,i)]) M' w∧Step M w0 M' w (jL M B)):=by
 obtain⟨gb,dA,hB⟩:=hJ;refine aZ (args:=[_,_,_]) (fn:=Tryz.f161) Tryz.func161 rfl (n:=7) Tryz.ntmps161 ?_;have S:Step M w0 M w0 (jL M B):=(an _ _).ca (fun _ h=>h.elim) (fun _ h=>h.2);refine aj (ah ?_);refine gx (A:=RT.fd) rfl rfl hM (xX (by omega) h2) rfl (fun u0 w1 cv s0 _=>?_);have:=ak gb;replace dA:=(s0.mem _ this).2 dA;replace gb:=s0.aM gb;replace hM:=s0.lt hM;have:=S.size;replace S:=S.ax s0;refine ad (ah (aH ar rfl rfl rfl (by assumption) rfl (bu rfl rfl rfl (by omega) ?_)));refine bS (M:=M) I3 rfl rfl gb rfl (rfl) dA (fun Jm fR mS=>?_);change Jm.heap[_]? =some (Obj.cells #[.int .i64 ((ts.length:Int)+1)] _ _)at fR;have:=ak gb;replace dA:=(mS.mem _ this).2 dA;replace hM:=mS.lt hM;have:=S.size;replace S:=S.trans mS (fun k hk h=>by have h:_=_:=h;subst h;first|(exfalso;omega)|(show _≤_;omega)|exact⟨by first|omega|assumption,(S.mem _ hk).1 ((mS.mem _ (ak gb)).1 dA)⟩|exact .inl rfl|exact .inr rfl|exact .inr (.inl rfl)|exact .inr (.inr rfl)|exact rfl);have Gh:=fR;clear gb;have gb:=Gh;clear Gh;refine ad ?_
 first|refine fL.nil ?_|simp+decide only[sc,kX,if_true,if_false]|skip
 exact gZ rfl ⟨_,hM,⟨by rw[bP];exact gb,dA,hB⟩,S⟩
theorem zG {b B:Nat}:Na Tryz.prog 161 [.pointer (some ⟨b,0,none⟩)] B (WJ b B):=
 ⟨Vn,fun ts M w M' w' ⟨h1,h2,h3⟩ s=>⟨s.aM h1,(s.mem _ (ak h1)).2 h2,h3⟩,fun ts M w t i hJ hM h1 h2 _ h4=>xY w hM h1 h2 h4 hJ⟩
theorem zH {M:aB} {d:Dc} {v0:Value} (w0:World) (hM:Lt M w0) (hv:RT.dc.V M w0 d v0) (hl:∀f∈d.2,f.1.length≤900000∧f.2.length≤900000) (T4:d.2.length≤8):
  Spec Tryz.prog 110 #[v0] w0 (fun v w=>v= .int .i64 ((bX d.2).length:Int)∧Step M w0 M w aA):=by
 refine aZ (args:=[_]) (fn:=Tryz.f110) Tryz.func110 rfl (n:=8) Tryz.ntmps110 ?_;have S:Step M w0 M w0 aA:=(an _ _).ca (fun _ h=>h.elim) (fun _ h=>h.elim);refine aj (ah ?_);refine gx (A:=RT.dc) rfl rfl hM hv rfl (fun u0 w1 cv s0 _=>?_);replace hM:=s0.lt hM;have:=S.size;replace S:=S.ax s0;refine ai rfl rfl (ad (aj (ah ?_)));refine fh M I3 rfl (fun mQ DK Qz QA jD nZ=>?_);obtain⟨nz,nA⟩:∃M',M'=ins M mQ:=⟨_,rfl⟩;rw[←nA]at nZ;have ia:nz mQ:=by rw[nA];exact .inl rfl
 change DK.heap[mQ]? =some (.cells #[.int .i64 0] _ _)at jD;replace cv:=cv.le (by decide) nZ.le;replace hM:=nZ.lt hM;have:=S.size;replace S:=S.ax nZ;refine bS (M:=nz) I3 rfl rfl jD rfl (rfl) ia (fun Jn uV oV=>?_);change Jn.heap[_]? =some (Obj.cells #[.int .i64 0] _ _)at uV;have:=ak jD;replace ia:=(oV.mem _ this).2 ia;replace cv:=cv.le (by decide) oV.le;replace hM:=oV.lt hM;have:=S.size;replace S:=S.trans oV (fun k hk h=>by have h:_=_:=h;subst h;first|(exfalso;omega)|(show _≤_;omega)|exact⟨by first|omega|assumption,(S.mem _ hk).1 ((oV.mem _ (ak jD)).1 ia)⟩|exact .inl rfl|exact .inr rfl|exact .inr (.inl rfl)|exact .inr (.inr rfl)|exact rfl);have KY:=uV;clear jD;have jD:=KY;clear KY;refine ad (aj (ah ?_));refine b5 (M:=nz) (A:=RT.dc) aK rfl kE (by decide) rfl rfl rfl cv (ao _ _) (fun v2 xF=>?_);refine iw (xs:=[]) (ys:=[.tmp 3]) rfl rfl rfl ?_;refine aQ rfl rfl P3 (wk (cap:=[.pointer (some ⟨mQ,0,none⟩)]) (B:=w0.heap.size) _ hM xF hl T4 zG ⟨jD,ia,by omega⟩) (fun r2 w2 hc=>?_);obtain⟨M2,KH,⟨g2,_,_⟩,s2⟩:=hc;replace S:=S.j0 s2 (a7 _);refine ad (aj (ah (aH ar rfl rfl rfl g2 rfl (ai rfl rfl (ad (aL ?_))))));exact aO rfl rfl ⟨rfl,S.back⟩
end Go.K
namespace Go.K
section
variable {P:Program} {r:Option Nat} {n:Nat} {L:Sl} {ds:List Deferred} {w:World} {K:Kt} {ops:Array Oper} {rest:List Oper} {d:Nat} {x y z:Operand} {ty:TypeId} {pos:String} {af:Array Edge}
variable {kt:TypeId} {M:aB} {b mb clock:Nat} {es:List MapEntry} {sn:Array Nat}
theorem Rg.rangeMap {t e:TypeId} (M:aB) (ht:P.underlying t=some (.map kt e)) (hx:ev L x=some (.map (some mb))) (hd:Nat.blt d n=true) (h:eF P kt w mb es clock)
  (k:∀b w',w.heap.size≤b→b<w'.heap.size→w'.heap[b]? =some (.mapIter (some mb) clock #[] clock)→Step M w (ins M b) w' aA→Rg P r n ops rest ((d,.pointer (some ⟨b,0,none⟩))::L) ds w' K):
  Rg P r n ops ({dst:=some d,op:= .range t x,type:=ty,pos,after:=af,guard:=none}::rest) L ds w K:=by
 refine .op (fun _ h=>by cases h) rfl rfl hd (.pointer (some ⟨w.heap.size,0,none⟩)) (w.alloc (.mapIter (some mb) clock #[] clock)) (fun ρ hρ=>?_) (k w.heap.size _ (a7 _) (by simp) (cz w _) ((dg M w _).own (a7 _) (by simp)));simp only[execOp,hρ x _ hx];simp[Instr.range,db,run_underlying ht,dm h.at_,newObj,Sem.run]
theorem mJ {sb:Option Nat} {s c:Nat} (hb:w.heap[b]? =some (.mapIter sb s sn c)):(getObj b).run P w= .ok (.mapIter sb s sn c) w:=by simp[getObj,Sem.run,hb]
theorem BA (h:eF P kt w mb es clock) (seen:Array Nat):(!seen.isEmpty&& !es.toArray.isEmpty&&es.toArray.all (fun x=>decide (x.born≥clock)))=false:=by
 cases es with
 |nil=>simp
 |cons e l=>
  have:=h.lt e (by simp);simp only[Bool.and_eq_false_iff];right;rw[dX];intro h2;rw[Array.all_eq_true_iff_forall_mem]at h2;have:=h2 e (by simp);simp at this;omega
theorem zI (k:Nat) (hk:0<k):∃j w1,j<k∧(∀M,Step M w M w1 aA)∧w1.heap=w.heap∧(choose (Question.mapNext k)).run P w= .ok j w1:=by
 by_cases hf:k≤1
 ·exact⟨0,w,hk,fun M=>an M w,rfl,by simp[choose,Sem.run,Question.forced,hf]⟩
 ·exact⟨_,w.drew,Nat.mod_lt _ hk,fun M=>lr M w,rfl,by
   simp only[choose,Sem.run,Question.forced,decide_eq_true_eq,hf,if_false,Question.cut];rfl⟩
theorem Gi (h:eF P kt w mb es clock) (hb:w.heap[b]? =some (.mapIter (some mb) clock sn clock)) (hm:M b):
  ((∀e∈es,e.born∈sn)∧(Instr.next (.pointer (some ⟨b,0,none⟩)) false ty).run P w= .ok (.tuple #[.bool false]) w)∨
  ∃e w',e∈es∧e.born∉sn∧w'.heap[b]? =some (.mapIter (some mb) clock (sn.push e.born) clock)∧Step M w M w' (fun k=>k=b)∧(Instr.next (.pointer (some ⟨b,0,none⟩)) false ty).run P w= .ok (.tuple #[.bool true,e.key,e.val]) w':=by
 have dC:=ak hb;simp only[Instr.next,db,mJ hb,dw,dm h.at_,BA h sn,Bool.false_eq_true,if_false];have hL:∀e∈es.toArray.filter (fun e=> !sn.contains e.born),e.born<clock:=fun e he=>h.lt e (by simpa using(Array.mem_filter.1 he).1)
 have lQ:∀e,e∈es.toArray.filter (fun e=> !sn.contains e.born)↔e∈es∧e.born∉sn:=fun e=>by simp[Array.mem_filter]
 generalize es.toArray.filter (fun e=> !sn.contains e.born)=Lf at hL lQ ⊢;have e1:Lf.filter (fun x=>decide (x.born<clock))=Lf:=Array.filter_eq_self.2 fun x hx=>by simpa using hL x hx
 have e2:Lf.filter (fun x=>decide (x.born≥clock))= #[]:=by
  rw[Array.filter_eq_empty_iff];intro x hx;have:=hL x hx;simp;omega
 simp only[e1,e2,Array.append_empty];by_cases h0:Lf.size=0
 ·left;have sG:Lf= #[]:=Array.eq_empty_of_size_eq_zero h0;subst sG;refine⟨fun e he=>?_,by simp[choose,Sem.run,Question.forced]⟩;by_cases hs:e.born∈sn
  ·exact hs
  ·exact absurd ((lQ e).2 ⟨he,hs⟩) (by simp)
 ·right;have eI:Lf.isEmpty=false:=by simp[Array.isEmpty,h0]
  simp only[eI,Bool.false_eq_true,if_false,Array.empty_append,Array.size_map];obtain⟨j,w1,hj,LO,hh1,gg⟩:=zI (P:=P) (w:=w) Lf.size (by omega);have rC:w1.heap[b]? =some (.mapIter (some mb) clock sn clock):=by rw[hh1];exact hb
  have ej:=(lQ Lf[j]).1 (by simp);refine⟨Lf[j],{w1 with heap:=w1.heap.setIfInBounds b (.mapIter (some mb) clock (sn.push Lf[j].born) clock)},ej.1,ej.2,by simp[cT,hh1,dC],?_,?_⟩
  ·exact((LO M).ca (fun _ h=>h.elim) (fun k hk=>by subst hk;exact hm)).trans (gC M hm) (fun _ _ h=>h)
  ·simp only[gg,dw,Array.getElem?_map,Array.getElem?_eq_getElem hj,dN,db];simp[setObj,Sem.run,rC]
theorem Rg.Jo (hx:ev L x=some (.pointer (some ⟨b,0,none⟩))) (hb:w.heap[b]? =some (.mapIter (some mb) clock sn clock)) (hm:M b) (h:eF P kt w mb es clock) (hd:Nat.blt d n=true)
  (k1:∀e w',e∈es→e.born∉sn→w'.heap[b]? =some (.mapIter (some mb) clock (sn.push e.born) clock)→Step M w M w' (fun k=>k=b)→Rg P r n ops rest ((d,.tuple #[.bool true,e.key,e.val])::L) ds w' K)
  (k2:(∀e∈es,e.born∈sn)→Rg P r n ops rest ((d,.tuple #[.bool false])::L) ds w K):
  Rg P r n ops ({dst:=some d,op:= .next x false,type:=ty,pos,after:=af,guard:=none}::rest) L ds w K:=by
 rcases Gi (ty:=ty) h hb hm with⟨h1,h2⟩|⟨e,w',h1,h2,h3,h4,h5⟩
 ·refine .op (fun _ h=>by cases h) rfl rfl hd _ w (fun ρ hρ=>?_) (k2 h1);simp only[execOp,hρ x _ hx];simp[h2]
 ·refine .op (fun _ h=>by cases h) rfl rfl hd _ w' (fun ρ hρ=>?_) (k1 e w' h1 h2 h3 h4);simp only[execOp,hρ x _ hx];simp[h5]
theorem Rg.entry {e:MapEntry} {sn':Array Nat} (hx:ev L x=some (.pointer (some ⟨b,0,none⟩))) (hb:w.heap[b]? =some (.mapIter (some mb) clock (sn'.push e.born) clock)) (h:eF P kt w mb es clock) (he:e∈es) (hd:Nat.blt d n=true)
  (k:Rg P r n ops rest ((d,.tuple #[e.key,e.val])::L) ds w K):
  Rg P r n ops ({dst:=some d,op:= .entry x,type:=ty,pos,after:=af,guard:=none}::rest) L ds w K:=by
 have hf:es.find? (fun x=>x.born==e.born)=some e:=by
  rw[List.find?_eq_some_iff_getElem];obtain⟨i,hi⟩:=bF.1 he;obtain⟨h1,h2⟩:=av.1 hi;refine⟨by simp,i,h1,h2,fun j hj=>?_⟩;have o2:j<es.length:=by omega
  have:=fun q=>h.zE (aD o2) hi q
  simp only[oF,beq_eq_false_iff_ne,ne_eq];intro q;have:=this q;omega
 refine .op (fun _ h=>by cases h) rfl rfl hd _ w (fun ρ hρ=>?_) k;simp only[execOp,hρ x _ hx,Instr.entry,db,mJ hb,dw,dm h.at_];simp[hf,db,dm h.at_]
end
end Go.K
namespace Go.K
open Go.Proofs
set_option maxRecDepth 10000
theorem filter_lt {α:Type} {p q:α→Bool} {a:α}:∀{l:List α},(∀x∈l,q x=true→p x=true)→a∈l→p a=true→q a=false→(l.filter q).length<(l.filter p).length
 |[],_,ha,_,_=>by cases ha
 |x::l,h,ha,hp,hq=>by
  have hle:(l.filter q).length≤(l.filter p).length:=by
   rw[←List.countP_eq_length_filter,←List.countP_eq_length_filter];exact List.countP_mono_left fun y hy=>h y (cq _ hy)
  rcases du.1 ha with rfl|ha
  ·rw[eX hp,eY (by simp[hq])];simp;omega
  ·have:=filter_lt (fun y hy=>h y (cq _ hy)) ha hp hq;by_cases hx:q x=true
   ·rw[eX hx,eX (h x (bW ..) hx)];simp;omega
   ·rw[eY hx];by_cases KZ:p x=true
    ·rw[eX KZ];simp;omega
    ·rw[eY KZ];omega
theorem eF.Nc {P:Program} {kt:TypeId} {w:World} {b clock:Nat} {es:List MapEntry} (h:eF P kt w b es clock) {x y:MapEntry} (hx:x∈es) (hy:y∈es) (hk:x.key=y.key):x=y:=by
 obtain⟨i,hi⟩:=bF.1 hx;obtain⟨j,hj⟩:=bF.1 hy;rcases ir i j with gv|rfl|gv
 ·exact absurd hk (fT h.keys hi hj gv)
 ·exact bp (hi.symm.trans hj)
 ·exact absurd hk.symm (fT h.keys hj hi gv)
theorem eF.Jp {P:Program} {kt:TypeId} {w:World} {b clock:Nat} {es:List MapEntry} (h:eF P kt w b es clock) {x y:MapEntry} (hx:x∈es) (hy:y∈es) (hk:x.born=y.born):x=y:=by
 obtain⟨i,hi⟩:=bF.1 hx;obtain⟨j,hj⟩:=bF.1 hy;rcases ir i j with gv|rfl|gv
 ·exact absurd hk (fT h.born hi hj gv)
 ·exact bp (hi.symm.trans hj)
 ·exact absurd hk.symm (fT h.born hj hi gv)
def BB (w:World) (k:Nat):Prop:=∃m s sn c,w.heap[k]? =some (.mapIter m s sn c)
def CS (es:List MapEntry):Prop:=∀e∈es,∃t:Fd,e.key=kv t∧t.1.length≤140737488355328∧t.2.length≤140737488355328
theorem BC {yl bs mb clock:Nat} {es:List MapEntry} {J:List Fd→World→Prop} (w0:World) (hk:CS es) (WR:∀ts w w' N,J ts w→Step allM w allM w' N→(∀k,k<w.heap.size→N k→w0.heap.size≤k∧BB w k)→J ts w') (T7:∀ts w,J ts w→w.heap[bs]? =some (.cells #[.map (some mb)] 227 (0,0))∧eF Tryz.prog 47 w mb es clock) (hy:∀ts w (t:Fd),J ts w→(∃e∈es,e.key=kv t)→t∉ts→ts.length<es.length→qO Tryz.prog yl [kv t].toArray w (fun r w'=>r= .bool true∧J (ts++[t]) w'∧∃N,Step allM w allM w' N∧∀k,N k→¬BB w k)) (h0:J [] w0):
  Spec Tryz.prog 197 #[.func (.yield yl) #[] #[],.pointer (some ⟨bs,0,none⟩)] w0 (fun v w=>∃ts,J ts w∧ts.Nodup∧∀t,t∈ts↔∃e∈es,e.key=kv t):=by
 obtain⟨gb,hW⟩:=T7 _ _ h0;have hJ:=h0;clear h0;refine aZ (args:=[_,_]) (fn:=Tryz.f197) Tryz.func197 rfl (n:=14) Tryz.ntmps197 ?_;have S:Step allM w0 allM w0 allM:=(an _ _).ca (fun _ h=>h.elim) (fun _ _=>trivial);refine aj (ah (aH jV rfl rfl rfl (by assumption) rfl ?_));refine Rg.rangeMap allM jV rfl rfl hW (fun bi w1 rC yy gi s1=>?_);replace s1:=s1.all;have:=ak gb;replace gb:=s1.aM gb;replace hJ:=WR _ _ _ _ hJ s1 (fun _ _ h=>h.elim);have:=S.size;replace S:=S.ax s1;refine ad (aY ?_);refine dr (σ:=List Fd×Array Nat) (fun s=>[(0,.func (.yield yl) #[] #[]),(1,.pointer (some ⟨bs,0,none⟩)),(5,.pointer (some ⟨bi,0,none⟩))]) (fun s w=>J s.1 w∧Step allM w0 allM w allM∧w.heap[bi]? =some (.mapIter (some mb) clock s.2 clock)∧s.1.Nodup∧(∀e∈es,e.born∈s.2↔∃t∈s.1,e.key=kv t)∧(∀t∈s.1,∃e∈es,e.key=kv t)) (fun s=>(es.filter fun e=>decide (e.born∉s.2)).length) ([],#[]) (.cons rfl (.cons rfl (.cons rfl .nil))) ?_ ?_
 ·exact⟨hJ,S,gi,List.nodup_nil,fun e _=>by simp,fun t h=>by cases h⟩
 ·rintro⟨ts,sn⟩ w ⟨hJ,S,gi,mZ,T8,lQ⟩;dsimp only at hJ gi mZ T8 lQ ⊢;obtain⟨gb,hW⟩:=T7 _ _ hJ;refine aj (ah ?_);refine Rg.Jo (M:=allM) rfl gi trivial hW rfl (fun Nd DK pI K0 jD nZ=>?_) (fun WS=>?_)
  ·have gi0:=gi;replace gb:=nZ.bJ gb (fun hk=>by have hk:_=_:=hk;omega);replace hJ:=WR _ _ _ _ hJ nZ (fun k hk h=>by have h:k=bi:=h;subst h;exact⟨rC,_,_,_,_,gi0⟩);have:=S.size;replace S:=S.trans nZ (fun k hk h=>by have h:_=_:=h;subst h;first|(exfalso;omega)|(show _≤_;omega)|exact .inl rfl|exact .inr rfl|exact .inr (.inl rfl)|exact .inr (.inr rfl)|exact rfl);have gi_:=jD;clear gi;have gi:=gi_;clear gi_;refine bU rfl rfl rfl (ad (aj (lT rfl (aS (aY (aj (ah (Rg.entry rfl gi (T7 _ _ hJ).2 pI rfl ?_))))))));obtain⟨t,Jq,T9,I7⟩:=hk _ pI;have LU:t∉ts:=fun h=>K0 ((T8 _ pI).2 ⟨t,h,Jq⟩)
   have dC:ts.length<es.length:=by
    have h1:((t::ts).map kv).Nodup:=dv.2 ((rZ.2 ⟨LU,mZ⟩).imp fun h e=>h (qu e))
    have h2:=h1.length_le_of_subset (l₂:=es.map (·.key)) (fun x hx=>by
     obtain⟨u,hu,rfl⟩:=bZ.1 hx;rcases du.1 hu with rfl|hu
     ·rw[←Jq];exact fu pI
     ·obtain⟨e,he,h⟩:=lQ u hu;rw[←h];exact fu he)
    simp at h2;omega
   rw[Jq];refine bU rfl rfl rfl ?_;refine mz (A:=RT.fd) (M:=aA) o4 rfl rfl rfl rfl rfl (xX T9 I7) (ao _ _) (Lt.none _) (fun u2 w2 rv s2 z2=>?_);replace s2:=s2.all;have:=ak gb;replace gb:=s2.aM gb;have:=ak gi;replace gi:=s2.aM gi;replace hJ:=WR _ _ _ _ hJ s2 (fun _ _ h=>h.elim);have:=S.size;replace S:=S.ax s2
   skip
   refine ad (aj (ah (ae rfl rfl ?_)));refine b5 (M:=aA) (A:=RT.fd) bR rfl o4 (by decide) rfl rfl rfl rv (ao _ _) (fun v3 uU=>?_);obtain rfl:=kh uU;refine Rg.yield (vs:=[kv t]) rfl rfl rfl (hy _ _ t hJ ⟨_,pI,Jq⟩ LU dC) (fun r3 w3 hc=>?_);obtain⟨rfl,Ii,N3,s3,hN3⟩:=hc;clear jD;replace gi:=s3.bJ gi (fun h=>hN3 _ h ⟨_,_,_,_,gi⟩);replace hJ:=Ii;clear Ii;obtain⟨gb,-⟩:=T7 _ _ hJ;replace S:=S.trans s3 (fun _ _ _=>trivial);refine rq rfl rfl (bz (v':= .bool false) rfl (ad (gG rfl (aS ?_))));refine⟨rfl,(ts++[t],sn.push Nd.born),(.cons rfl (.cons rfl (.cons rfl .nil))),?_,?_⟩
   ·have qe:∀e∈es,e.born=Nd.born↔e.key=kv t:=fun e he=>by
     constructor
     ·intro h;rw[eF.Jp hW he pI h,Jq]
     ·intro h;rw[eF.Nc hW he pI (h.trans Jq.symm)]
    refine⟨hJ,S,gi,List.nodup_append.2 ⟨mZ,by simp,fun a ha b hb h=>by simp at hb;subst hb;subst h;exact LU ha⟩,fun e he=>?_,fun u hu=>?_⟩
    ·rw[Array.mem_push,T8 e he,qe e he];constructor
     ·rintro(⟨u,h1,h2⟩|h)
      ·exact⟨u,kW _ h1,h2⟩
      ·exact⟨t,by simp,h⟩
     ·rintro⟨u,h1,h2⟩;rcases cY.1 h1 with h1|h1
      ·exact .inl ⟨u,h1,h2⟩
      ·simp at h1;subst h1;exact .inr h2
    ·rcases cY.1 hu with hu|hu
     ·exact lQ u hu
     ·simp at hu;subst hu;exact⟨_,pI,Jq⟩
   ·exact filter_lt (a:=Nd) (fun e _ h=>by simp only[decide_eq_true_eq,Array.mem_push,not_or]at h ⊢;exact h.1) pI (by simpa using K0) (by simp)
  ·refine bU rfl rfl rfl (ad (aj (gG rfl (cG ?_))))
   first|refine fL.nil ?_|simp+decide only[sc,kX,if_true,if_false]|skip
   exact gZ rfl ⟨ts,hJ,mZ,fun t=>⟨lQ t,fun⟨e,he,Jq⟩=>by obtain⟨t',h1,h2⟩:=(T8 e he).1 (WS e he);rw[←qu (h2.symm.trans Jq)];exact h1⟩⟩
end Go.K
namespace Go.K
open Go.Proofs
set_option maxRecDepth 10000
theorem eA.any {α:Type} {A:RT α} (hA:∀M w M' w' x vs,A.R M w x vs→A.R M' w' x vs) {M M':aB} {w w':World}:∀{xs:List α} {C:List Value},eA A M w xs C→eA A M' w' xs C
 |[],_,h=>h
 |x::xs,C,h=>by
  obtain⟨vs,r,h1,h2,h3⟩:=h;exact⟨vs,r,h1,hA _ _ _ _ _ _ h2,eA.any hA h3⟩
theorem xZ (M:aB) (w:World) (M':aB) (w':World) (x:Fd) (vs:List Value) (h:RT.fd.R M w x vs):RT.fd.R M' w' x vs:=h
theorem Own.CT {α:Type} {A:RT α} (hA:∀M w M' w' x vs,A.R M w x vs→A.R M' w' x vs) {e:TypeId} {M N:aB} {w w':World} {base:Nat} {v:Value} {xs:List α} (h:Own A e M w base v xs) (s:Step allM w allM w' N) (hn:∀b,v.ownBlock=some b→¬N b):Own A e (nX v) w' base v xs:=by
 obtain⟨⟨C,h1,h2⟩,_⟩:=h;refine⟨⟨C,⟨h1.1,?_⟩,eA.any hA h2⟩,fun _ h=>h⟩;rcases h1.2 with h3|⟨g,cap,cur,h3,h4,h5,h6,h7,h8⟩
 ·exact .inl h3
 ·exact .inr ⟨g,cap,cur,h3,h4,by rw[s.same g (ak h5) (hn g (by rw[h3];rfl))];exact h5,h6,h7,h8⟩
theorem Own.isCells {α:Type} {A:RT α} {e:TypeId} {M:aB} {w:World} {base b:Nat} {v:Value} {xs:List α} (h:Own A e M w base v xs) (hb:v.ownBlock=some b):∃cs,w.heap[b]? =some (.cells cs e (0,0)):=by
 obtain⟨⟨C,h1,_⟩,_⟩:=h;rcases h1.2 with h3|⟨g,cap,cur,h3,h4,h5,_⟩
 ·rw[h3.1]at hb;cases hb
 ·rw[h3]at hb;cases hb;exact⟨_,h5⟩
structure Aq (w0:World) (bt D:Nat) (st:Loop) (v:Value) (ts:List Fd) (w:World):Prop where
 S:Step allM w0 allM w aA
 c:w.heap[bt]? =some (.cells #[v] 98 (0,0))
 o:Own RT.fd 47 (nX v) w w0.heap.size v ts
 d:w.heap[D]? =some (.deferred (some []))
 r:w.heap[D+1]? =some (.loop st)
 hb:w0.heap.size≤bt
 hD:w0.heap.size≤D
theorem Aq.step {w0 w w':World} {bt D:Nat} {st:Loop} {v:Value} {ts:List Fd} {N:aB} (h:Aq w0 bt D st v ts w) (s:Step allM w allM w' N) (hN:∀k,k<w.heap.size→N k→w0.heap.size≤k∧BB w k):Aq w0 bt D st v ts w':=by
 have no:∀{k o},w.heap[k]? =some o→(∀m s sn c,o≠ .mapIter m s sn c)→¬N k:=fun hk ho hn=>by
  obtain⟨_,m,s,sn,c,h'⟩:=hN _ (ak hk) hn;rw[hk]at h';exact ho m s sn c (bp h')
 refine⟨h.S.trans s (fun k hk hn=>?_),s.bJ h.c (no h.c (by intros;simp)),h.o.CT xZ s (fun b hb=>?_),s.bJ h.d (no h.d (by intros;simp)),s.bJ h.r (no h.r (by intros;simp)),h.hb,h.hD⟩
 ·have:=(hN k (nf hk h.S.size) hn).1;omega
 ·obtain⟨cs,hc⟩:=h.o.isCells hb;exact no hc (by intros;simp)
theorem Aq.mT {w0 w:World} {bt D:Nat} {st st':Loop} {v:Value} {ts:List Fd} (h:Aq w0 bt D st v ts w):Aq w0 bt D st' v ts (w.putObj (D+1) (.loop st')):=by
 have s:Step allM w allM (w.putObj (D+1) (.loop st')) (fun k=>k=D+1):=dH trivial;have hD:=h.hD;refine⟨h.S.trans s (fun k hk hn=>by have hn:k=D+1:=hn;omega),s.bJ h.c (fun hn=>by have hn:bt=D+1:=hn;have h1:=h.c;rw[hn,h.r]at h1;cases h1),h.o.CT xZ s (fun b hb hn=>?_),s.bJ h.d (fun hn=>by have hn:D=D+1:=hn;omega),by have:=ak h.r;simp[World.putObj,cT,this],h.hb,h.hD⟩;have hn:b=D+1:=hn;obtain⟨cs,hc⟩:=h.o.isCells hb;rw[hn,h.r]at hc;cases hc
theorem zJ {bs mb clock:Nat} {es:List MapEntry} (w0:World) (hk:CS es) (Ua:es.length≤100000000) (Gj:w0.heap[bs]? =some (.cells #[.map (some mb)] 227 (0,0))) (hW:eF Tryz.prog 47 w0 mb es clock):
  Spec Tryz.prog 233 #[.slice none 0 0,.func (.func 197) #[] [.pointer (some ⟨bs,0,none⟩)].toArray] w0 (fun v w=>∃ts:List Fd,ts.Nodup∧(∀t,t∈ts↔∃e∈es,e.key=kv t)∧Own RT.fd 47 (nX v) w w0.heap.size v ts∧Step allM w0 allM w aA):=by
 refine nk (args:=[_,_]) (fn:=Tryz.f233) Tryz.func233 rfl (n:=13) Tryz.ntmps233 (aj (ah ?_));refine o8 allM rfl rfl (fun bt w1 rC aex gt s1=>?_);change w1.heap[bt]? =some (.cells #[.slice none 0 0] 98 (0,0))at gt;replace s1:=s1.all;refine ai rfl rfl (ad (aj (aj (ah (ae rfl rfl (ad (aY ?_)))))));refine T.range (gf:=197) (lb:=[.pointer (some ⟨bs,0,none⟩)].toArray) rfl Vw (fun rec nj=>?_);obtain⟨D,hD⟩:∃D,D=w1.heap.size:=⟨_,rfl⟩;have sA:Step allM w1 allM ((w1.alloc (.deferred (some []))).alloc (.loop (rec .ready none))) aA:=(dg _ _ _).ax (dg _ _ _)
 have h0:Aq w0 bt D (rec .ready none) (.slice none 0 0) [] ((w1.alloc (.deferred (some []))).alloc (.loop (rec .ready none))):=by
  refine⟨s1.ax sA,sA.aM gt,dK _ _ _ _ _,?_,?_,rC,by rw[hD];exact s1.size⟩
  ·rw[hD];exact(dg allM (w1.alloc _) _).aM (cz w1 _)
  ·rw[hD];have:=cz (w1.alloc (.deferred (some []))) (.loop (rec .ready none));rwa [World.size_alloc]at this
 rw[←hD]at nj ⊢;have hz:=h0.S.size;refine Spec.mono (BC (J:=fun ts w=>∃v,Aq w0 bt D (rec .ready none) v ts w) _ hk (fun ts w w' N ⟨v,h⟩ s hN=>⟨v,h.step s (fun k hk hn=>⟨eK hz (hN k hk hn).1,(hN k hk hn).2⟩)⟩) (fun ts w ⟨v,h⟩=>⟨h.S.aM Gj,hW.bh h.S⟩) (fun ts wr t hJ lQ LU dC=>?_) ⟨_,h0⟩) (fun _ w3 h3=>?_)
 ·obtain⟨v,h⟩:=hJ;obtain⟨e,he,WT⟩:=lQ;obtain⟨t',WU,T9,I7⟩:=hk e he;obtain rfl:=qu (WT.symm.trans WU);have hzr:=ak h.r;refine lA (ps:=[7]) (vs:=[kv t]) nj h.r rfl (by decide) (ah ?_);refine mz (A:=RT.fd) (M:=fun k=>k=D+1) o4 rfl rfl rfl rfl rfl (xX T9 I7) (ao _ _) (fun k hk=>by have hk:k=D+1:=hk;omega) (fun u2 w2 rv s2 z2=>?_);replace s2:=s2.all
  skip
  refine ad ?_;refine⟨rfl,s2.aM h.r,?_⟩;have h4:=(h.step s2 (fun _ _ h=>h.elim)).mT (st':=rec .busy none);have WV:Step (fun k=>k=D+1) w2 (fun k=>k=D+1) (w2.putObj (D+1) (.loop (rec .busy none))) (fun k=>k=D+1):=dH rfl;have s3:=WV.all;have vY:=rv.le (by decide) WV.le;clear WV;generalize w2.putObj (D+1) _=w4 at h4 s3 vY ⊢;refine aY (ah (aH iN rfl rfl rfl h4.c rfl ?_));refine b5 (M:=fun k=>k=D+1) (A:=RT.fd) bR rfl o4 (by decide) rfl rfl rfl vY (ao _ _) (fun v3 uU=>?_);obtain rfl:=kh uU;refine eh (A:=RT.fd) (hn:=by decide) (M:=nX v) iN o4 (by decide) rfl rfl (fun b hb=>(h4.o.base b hb).2) (xX T9 I7) (.inl rfl) (fun u5 w5 Bk s5=>?_);refine cR (M:=nX v) (base:=w0.heap.size) iN o4 rfl rfl rfl rfl (h4.o.bh s5) Bk (ao _ _) (by simp;omega) (by simp;omega) (eK h4.S.size s5.size) (fun v6 M6 w6 qW s6=>?_);have gc:=s6.all.bJ (s5.all.aM h4.c) (fun hn=>h4.o.eR h4.c (by decide) hn);refine bS (M:=allM) I98 rfl rfl gc rfl (by obtain⟨_,_,he,_⟩:=qW.isSlice;rw[he];rfl) trivial (fun w7 gc7 s7=>?_);refine ad ?_
  have WW:∀k,nX v k→¬BB wr k:=fun k hk ⟨_,_,_,_,h9⟩=>by
   obtain⟨cs,hc⟩:=h.o.isCells hk;rw[hc]at h9;cases h9
  have pr:∀k,k<wr.heap.size→k=D+1→¬BB wr k:=fun k _ hk ⟨_,_,_,_,h9⟩=>by subst hk;rw[h.r]at h9;cases h9
  have pc:∀k,k<wr.heap.size→k=bt→¬BB wr k:=fun k _ hk ⟨_,_,_,_,h9⟩=>by subst hk;rw[h.c]at h9;cases h9
  have h7:Aq w0 bt D (rec .busy none) v6 (ts++[t]) w7:=by
   have nb:∀b,v6.ownBlock=some b→b≠bt:=fun b hb hn=>by subst hn;exact qW.eR gc (by decide) hb
   refine⟨?_,gc7,qW.CT xZ s7 nb,?_,?_,h.hb,h.hD⟩
   ·refine((h4.S.ax s5.all).trans s6.all (fun k hk hn=>?_)).trans s7 (fun k hk hn=>?_)
    ·have:=(h4.o.base k hn).1;omega
    ·have hn:k=bt:=hn;have:=h.hb;omega
   ·exact s7.bJ (s6.all.bJ (s5.all.aM h4.d) (fun hn=>by obtain⟨cs,hc⟩:=h4.o.isCells hn;rw[h4.d]at hc;cases hc)) (fun hn=>by have hn:D=bt:=hn;have h1:=h.c;rw[←hn,h.d]at h1;cases h1)
   ·exact s7.bJ (s6.all.bJ (s5.all.aM h4.r) (fun hn=>by obtain⟨cs,hc⟩:=h4.o.isCells hn;rw[h4.r]at hc;cases hc)) (fun hn=>by have hn:D+1=bt:=hn;have h1:=h.c;rw[←hn,h.r]at h1;cases h1)
  have s8:Step allM w7 allM (w7.putObj (D+1) (.loop (rec .ready none))) (fun k=>k=D+1):=dH trivial;exact⟨h7.r,rfl,⟨v6,h7.mT⟩,fun k=>¬BB wr k,(((((s2.ca (fun _ h=>h.elim) (fun _ _=>trivial)).trans s3 pr).ax s5.all).trans s6.all (fun k _ hn=>WW k hn)).trans s7 pc).trans s8 pr,fun _ h=>h⟩
 ·obtain⟨ts,⟨v,h⟩,mZ,lQ⟩:=h3;left;refine⟨h.r,?_⟩;have h5:=h.mT (st':=rec .exhausted none);generalize w3.putObj (D+1) _=wE at h5 ⊢;refine aj (ah (aH iN rfl rfl rfl h5.c rfl (ai rfl rfl (ad (aL ?_)))));have sE:Step allM wE allM (wE.putObj D (.deferred none)) (fun k=>k=D):=dH trivial;have hDD:=h.hD;exact A7 rfl rfl h5.d ⟨ts,mZ,lQ,h5.o.CT xZ sE (fun b hb hn=>by have hn:b=D:=hn;obtain⟨cs,hc⟩:=h5.o.isCells hb;rw[hn,h5.d]at hc;cases hc),h5.S.trans sE (fun k hk hn=>by have hn:k=D:=hn;omega)⟩
end Go.K
namespace Go.K
open Go.Proofs
set_option maxRecDepth 10000
theorem x2 {bs mb clock:Nat} {es:List MapEntry} (w0:World) (hk:CS es) (Ua:es.length≤100000000) (Gj:w0.heap[bs]? =some (.cells #[.map (some mb)] 227 (0,0))) (hW:eF Tryz.prog 47 w0 mb es clock):
  Spec Tryz.prog 195 #[.func (.func 197) #[] [.pointer (some ⟨bs,0,none⟩)].toArray] w0 (fun v w=>∃ts:List Fd,ts.Nodup∧(∀t,t∈ts↔∃e∈es,e.key=kv t)∧Own RT.fd 47 (nX v) w w0.heap.size v ts∧Step allM w0 allM w aA):=by
 refine aZ (args:=[_]) (fn:=Tryz.f195) Tryz.func195 rfl (n:=5) Tryz.ntmps195 (aj (ah (ai rfl rfl (ad (aj (ah (ae rfl rfl ?_)))))));refine aQ rfl rfl VH (zJ _ hk Ua Gj hW) (fun r w1 hc=>?_);refine ai rfl rfl (ad (aL ?_));exact aO rfl rfl hc
def cL (t:Fd):List UInt8:=t.1++[0]++t.2
theorem Gk {M:aB} {t:Fd} (w0:World) (hM:Lt M w0) (h1:t.1.length≤1000000) (h2:t.2.length≤1000000):
  Spec Tryz.prog 74 #[kv t] w0 (fun v w=>v= .string ⟨(cL t).toArray⟩∧Step M w0 M w aA):=by
 refine aZ (args:=[_]) (fn:=Tryz.f74) Tryz.func74 rfl (n:=9) Tryz.ntmps74 ?_;have S:Step M w0 M w0 aA:=(an _ _).ca (fun _ h=>h.elim) (fun _ h=>h.elim);refine aj (ah ?_);refine gx (A:=RT.fd) rfl rfl hM (xX (by omega) (by omega)) rfl (fun u0 w1 cv s0 _=>?_);replace hM:=s0.lt hM;have:=S.size;replace S:=S.ax s0;refine ai rfl rfl (ad (aj (ah ?_)));refine aF (M:=M) (A:=RT.fd) (B:=RT.str) bR rfl rfl I9 (by decide) (Jb) rfl rfl (by decide) (by assumption) (by repeat (first|exact ao _ _|refine aT (bj (by assumption)) ?_)) (fun uP jI=>?_);refine bY (M:=M) aC rfl rfl rfl rfl rfl jI (ao _ _) (fun v1 k7=>?_);obtain rfl:=eD k7;refine Rg.cat (p:=t.1) (q:=[0]) rfl rfl rfl (by simp;omega) ?_;refine aF (M:=M) (A:=RT.fd) (B:=RT.str) bR rfl rfl I9 (by decide) (O0) rfl rfl (by decide) (by assumption) (by repeat (first|exact ao _ _|refine aT (bj (by assumption)) ?_)) (fun FC fH=>?_);refine bY (M:=M) aC rfl rfl rfl rfl rfl fH (ao _ _) (fun v4 qq=>?_);obtain rfl:=eD qq;refine Rg.cat (p:=t.1++[0]) (q:=t.2) rfl rfl rfl (by simp;omega) (ai rfl rfl (ad (aL ?_)));exact aO rfl rfl ⟨rfl,S⟩
end Go.K
namespace Go.K
open Go.Proofs
set_option maxRecDepth 10000
theorem x7 (a b:List UInt8) (w:World):Spec Tryz.prog 159 #[.string ⟨a.toArray⟩,.string ⟨b.toArray⟩] w (fun v w'=>v= .int .i64 (Lib.compareBytes a b)∧w'=w):=(Any.strings_Compare Tryz.IV ⟨a.toArray⟩ ⟨b.toArray⟩ w).mono fun e w' ⟨h1,h2⟩=>⟨_,h1,rfl,h2⟩
end Go.K
namespace Go.K
section
variable {P:Program} {r:Option Nat} {n:Nat} {L:Sl} {ds:List Deferred} {w:World} {K:Kt} {ops:Array Oper} {rest:List Oper} {d:Nat} {x:Operand} {ty:TypeId} {pos:String} {af:Array Edge}
theorem gI.tE {id:Nat} {l:List Oper} (hm:P.follows .mixedOrders=true) (cI:dM l 0=true) (h:gI P r n l L ds (w.drewN 1) K):T P r n (.region id l.toArray true) L ds w K:=by
 refine⟨fun a ha=>wpIn_region_draw fun t=>?_⟩;simp only[Region.schedule,hm,Bool.true_or,if_true,Region.linearise];obtain⟨J,h1,h2,h3,h4⟩:=h a ha;refine lX (J:=J) cI (fun {D D' a w} hi hD=>h1 D D' a w hi hD) (fun {D a' w' j o rest} hj ho nc hp kN hi hk=>h2 _ _ _ _ _ _ _ hj ho nc hp kN hi hk) h3 _ t _ a _ (by simp) (by simp[List.countP_replicate]) (fun i o h1 h2=>?_) (h1 _ _ _ _ h4 fun i _=>?_)
 ·simp[Array.getElem?_replicate]at h2
 ·simp[Array.getElem?_replicate]
theorem T.Nf {id:Nat} {l l':List Oper} (π:List Nat) (m:Nat) (fl:List Nat) (c:Nat) (N:aB) (hm:P.follows .mixedOrders=true) (E5:xu π l=l') (qN:dM l 0=true) (hπ:ka π l.length=true) (qd:Nat.blt m l'.length=true) (cI:dM l' 0=true) (oH:ji l' m=true) (Cx:j8 l' m fl c=true)
  (h:kD P r n l'.toArray (l'.take m) L ds (w.drewN 1) (fun L'=>(∀j o,j∈fl→l'[j]? =some o→cd P N (w.drewN 1) L' o)∧qM P r n l'.toArray N (w.drewN 1) K c (l'.drop m) L' ds (w.drewN 1))):T P r n (.region id l.toArray true) L ds w K:=by
 subst E5;exact gI.tE hm qN (.perm π hπ qN (yU m fl c N qd cI oH Cx h))
theorem Rg.Ng {e:TypeId} {v:Value} (hx:ev L x=some v) (hd:Nat.blt d n=true) (k:Rg P r n ops rest ((d,.pointer (some ⟨w.heap.size,0,none⟩))::L) ds (w.alloc (.cells v.cells e (0,0))) K):
  Rg P r n ops ({dst:=some d,op:= .box e x,type:=ty,pos,after:=af,guard:=none}::rest) L ds w K:=by
 refine .op (fun _ h=>by cases h) rfl rfl hd _ (w.alloc (.cells v.cells e (0,0))) (fun ρ hρ=>?_) k;simp only[execOp,hρ x _ hx];simp[Instr.box,newVar,newRow,newObj,Sem.run]
theorem BD (w:World) (o:Obj):w.alloc o=Go.Sort.grow w #[o]:=by
 unfold World.alloc Go.Sort.grow;congr 1
theorem BE (w:World) (os:Array Obj) (q:Nat):(Go.Sort.grow w os).drewN q=Go.Sort.grow (w.drewN q) os:=rfl
end
end Go.K
namespace Go.K
open Go.Proofs
set_option maxRecDepth 10000
abbrev eU (t:Fd):Obj:= .cells #[.string ⟨t.1.toArray⟩,.string ⟨t.2.toArray⟩] 47 (0,0)
theorem Gl {t:Fd} (w0:World) (h1:t.1.length≤1000000) (h2:t.2.length≤1000000):
  Spec Tryz.prog 74 #[kv t] w0 (fun v w=>v= .string ⟨(cL t).toArray⟩∧w=w0.alloc (eU t)):=by
 refine aZ (args:=[_]) (fn:=Tryz.f74) Tryz.func74 rfl (n:=9) Tryz.ntmps74 (aj (ah (Rg.Ng rfl rfl ?_)));have gb:=cz w0 (eU t);change Rg _ _ _ _ _ _ _ (w0.alloc (eU t)) _;generalize hw:w0.alloc (eU t)=w1 at gb ⊢;refine ai rfl rfl (ad (aj (ah (aV (o':=0) bR rfl rfl I9 (by decide) rfl rfl (aH aC rfl rfl rfl gb rfl (Rg.cat (p:=t.1) (q:=[0]) rfl rfl rfl (by simp;omega) (aV (o':=1) bR rfl rfl I9 (by decide) rfl rfl (aH aC rfl rfl rfl gb rfl (Rg.cat (p:=t.1++[0]) (q:=t.2) rfl rfl rfl (by simp;omega) (ai rfl rfl (ad ?_)))))))))));refine aL ?_;exact aO rfl rfl ⟨rfl,rfl⟩
theorem Jr {s t:Fd} (w0:World) (h1:s.1.length≤1000000) (h2:s.2.length≤1000000) (h3:t.1.length≤1000000) (h4:t.2.length≤1000000):
  Spec Tryz.prog 158 #[kv s,kv t] w0 (fun v w=>v= .int .i64 (Lib.compareBytes (cL s) (cL t))∧w=((((w0.alloc (eU s)).alloc (eU t)).drewN 1).alloc (eU s)).alloc (eU t)):=by
 refine aZ (args:=[_,_]) (fn:=Tryz.f158) Tryz.func158 rfl (n:=10) Tryz.ntmps158 (aj (ah (Rg.Ng rfl rfl ?_)));change Rg _ _ _ _ _ _ _ (w0.alloc (eU s)) _;refine Rg.Ng rfl rfl ?_;change Rg _ _ _ _ _ _ _ ((w0.alloc (eU s)).alloc (eU t)) _;have g1:((w0.alloc (eU s)).alloc (eU t)).heap[w0.heap.size]? =some (eU s):=(dg aA _ _).aM (cz w0 _);have g2:=cz (w0.alloc (eU s)) (eU t);have kp:=kG aA (((w0.alloc (eU s)).alloc (eU t)).drewN 1);refine ai rfl rfl (ad (aj ?_));apply T.Nf [0,2,1,3,4,5] 2 [1] 1 aA mixed
 ·simp+decide only[xu,rB,fj,List.map_nil,List.getD_cons_zero,List.getD_cons_succ,List.map_toArray,dN,rU,List.idxOf_cons,cond_true,cond_false,Nat.reduceBEq,Nat.reduceAdd,beq_self_eq_true];rfl
 ·rfl
 ·rfl
 ·rfl
 ·rfl
 ·rfl
 ·rfl
 have g1':(((w0.alloc (eU s)).alloc (eU t)).drewN 1).heap[w0.heap.size]? =some (eU s):=g1;have g2':(((w0.alloc (eU s)).alloc (eU t)).drewN 1).heap[(w0.alloc (eU s)).heap.size]? =some (eU t):=g2;refine ix (vs:=[.string ⟨s.1.toArray⟩,.string ⟨s.2.toArray⟩]) bR rfl o4 rfl rfl rfl g1' ?_;refine ad ⟨rfl,rfl,rfl,?_⟩;refine ix (vs:=[.string ⟨t.1.toArray⟩,.string ⟨t.2.toArray⟩]) bR rfl o4 rfl rfl rfl g2' ?_;refine ad ⟨rfl,rfl,rfl,?_⟩;refine fa ?_;refine⟨iM ⟨gw rfl (by assumption) (by first|assumption|exact fun h=>h|(intro h;have h:_=_:=h;omega)),trivial⟩,?_⟩;replace kp:=kp.rA (dg aA (((w0.alloc (eU s)).alloc (eU t)).drewN 1) (eU s));refine aQ rfl rfl T1 (Gl (t:=s) _ h1 h2) (fun r5 w5 hc=>?_);obtain⟨rfl,rfl⟩:=hc;refine(fun(kp:eB _ _ _)=>ad ⟨rfl,rfl,fun _=>kp,?_⟩) (by first|exact kp|exact kp.rA (by assumption)|exact kp.goN (by assumption)|exact kp.go (by assumption) (fun _ _ h=>by first|exact h|exact h.elim));refine aQ rfl rfl T1 (Gl (t:=t) _ h3 h4) (fun r6 w6 hc=>?_);obtain⟨rfl,rfl⟩:=hc;refine ad ⟨rfl,rfl,fun h=>absurd rfl h,?_⟩;refine aQ rfl rfl Vl (x7 _ _ _) (fun r7 w7 hc=>?_);obtain⟨rfl,rfl⟩:=hc;refine ad ⟨rfl,rfl,fun h=>absurd rfl h,?_⟩;refine ai rfl rfl ?_;refine ad ⟨rfl,rfl,fun h=>absurd rfl h,?_⟩;refine qG (aL ?_);exact aO rfl rfl ⟨rfl,rfl⟩
end Go.K
namespace Go.K
open Go.Lib (compareBytes)
theorem lK (a b:UInt8) (x y:List UInt8):compareBytes (a::x) (b::y)=if a.toNat<b.toNat then-1 else if b.toNat<a.toNat then 1 else compareBytes x y:=by
 rw[compareBytes];simp only[UInt8.lt_iff_toNat_lt]
theorem tH:∀a,compareBytes a a=0
 |[]=>rfl
 |a::x=>by rw[lK,if_neg (iy _),if_neg (iy _)];exact tH x
theorem nH:∀{a b},compareBytes a b=0→a=b
 |[],[],_=>rfl
 |[],_::_,h=>by simp[compareBytes]at h
 |_::_,[],h=>by simp[compareBytes]at h
 |a::x,b::y,h=>by
  rw[lK]at h
  split at h
  ·omega
  ·split at h
   ·omega
   ·rw[nH h,UInt8.toNat_inj.1 (show a.toNat=b.toNat by omega)]
theorem mg:∀a b,compareBytes a b= -compareBytes b a
 |[],[]=>rfl
 |[],_::_=>rfl
 |_::_,[]=>rfl
 |a::x,b::y=>by
  rw[lK,lK,mg x y]
  split<;>split<;>first|omega|rfl
theorem nV:∀{a b c},compareBytes a b<0→compareBytes b c<0→compareBytes a c<0
 |[],[],_,h,_=>by simp[compareBytes]at h
 |_::_,[],_,h,_=>by simp[compareBytes]at h
 |_,_::_,[],_,h=>by simp[compareBytes]at h
 |[],_::_,_::_,_,_=>by simp[compareBytes]
 |a::x,b::y,c::z,h1,h2=>by
  rw[lK]at h1 h2 ⊢
  split at h1
  ·split at h2
   ·rw[if_pos (by omega)];omega
   ·split at h2
    ·omega
    ·rw[if_pos (by omega)];omega
  ·split at h1
   ·omega
   ·split at h2
    ·rw[if_pos (by omega)];omega
    ·split at h2
     ·omega
     ·rw[if_neg (by omega),if_neg (by omega)];exact nV h1 h2
theorem CU {α:Type} (f:α→List UInt8):Go.Sort.SWO (Go.Proofs.ltOf fun x y=>compareBytes (f x) (f y)) where
 irrefl x:=by simp[Go.Proofs.ltOf,tH]
 trans x y z h1 h2:=by
  simp only[Go.Proofs.ltOf,decide_eq_true_eq]at*
  exact nV h1 h2
 ntrans x y z h1 h2:=by
  simp only[Go.Proofs.ltOf,decide_eq_false_iff_not]at*
  intro h3;by_cases e1:compareBytes (f x) (f y)=0
  ·rw[nH e1]at h3;exact h2 h3
  ·by_cases e2:compareBytes (f y) (f z)=0
   ·rw[nH e2]at h1;exact h1 h3
   ·have n1:=mg (f x) (f y);have n2:=mg (f y) (f z);have n3:=mg (f x) (f z);have:compareBytes (f z) (f x)<0:=nV (b:=f y) (by omega) (by omega);omega
end Go.K
namespace Go.Proofs
open Go.Shelf
def Tryz.BF:Go.Shelf.Ren:=⟨fun|6=>196|15=>166|14=>234|28=>210|29=>211|20=>261|21=>262|22=>263|23=>264|24=>265|25=>266|26=>267|27=>268|46=>281|47=>246|48=>247|49=>282|50=>283|57=>290|n=>n,fun|22=>98|24=>47|25=>235|3=>3|39=>183|0=>0|53=>273|55=>165|4=>4|46=>267|45=>266|50=>121|5=>5|9=>9|66=>295|70=>299|76=>327|77=>305|n=>n,fun|n=>n⟩
theorem Tryz.Gm:Go.Proofs.SlLaysF0.n6 Tryz.prog Tryz.BF:={
 mixed:=by kernel_rfl
 f6:=⟨Tryz.f196.name,by decide,Tryz.func196.trans (congrArg some (by kernel_rfl))⟩
 f14:=⟨Tryz.f234.name,by decide,Tryz.func234.trans (congrArg some (by kernel_rfl))⟩
 f15:=Tryz.func166.trans (congrArg some (by kernel_rfl))
 f20:=⟨Tryz.f261.name,by decide,Tryz.func261.trans (congrArg some (by kernel_rfl))⟩
 f21:=⟨Tryz.f262.name,by decide,Tryz.func262.trans (congrArg some (by kernel_rfl))⟩
 f22:=⟨Tryz.f263.name,by decide,Tryz.func263.trans (congrArg some (by kernel_rfl))⟩
 f23:=⟨Tryz.f264.name,by decide,Tryz.func264.trans (congrArg some (by kernel_rfl))⟩
 f24:=⟨Tryz.f265.name,by decide,Tryz.func265.trans (congrArg some (by kernel_rfl))⟩
 f25:=⟨Tryz.f266.name,by decide,Tryz.func266.trans (congrArg some (by kernel_rfl))⟩
 f26:=⟨Tryz.f267.name,by decide,Tryz.func267.trans (congrArg some (by kernel_rfl))⟩
 f27:=⟨Tryz.f268.name,by decide,Tryz.func268.trans (congrArg some (by kernel_rfl))⟩
 f28:=Tryz.func210.trans (congrArg some (by kernel_rfl))
 f29:=Tryz.func211.trans (congrArg some (by kernel_rfl))
 f46:=⟨Tryz.f281.name,by decide,Tryz.func281.trans (congrArg some (by kernel_rfl))⟩
 f47:=Tryz.func246.trans (congrArg some (by kernel_rfl))
 f48:=Tryz.func247.trans (congrArg some (by kernel_rfl))
 f49:=⟨Tryz.f282.name,by decide,Tryz.func282.trans (congrArg some (by kernel_rfl))⟩
 f50:=⟨Tryz.f283.name,by decide,Tryz.func283.trans (congrArg some (by kernel_rfl))⟩
 f57:=⟨Tryz.f290.name,by decide,Tryz.func290.trans (congrArg some (by kernel_rfl))⟩
 t0:=gV
 a0:=rV
 z0:=oB
 v0:=iU
 t3:=ar
 a3:=rW
 z3:=oC
 v3:=iV
 t4:=gX
 a4:=Tryz.isAgg4
 z4:=Tryz.sizeOf4
 v4:=o7
 t5:=cf
 a5:=Tryz.isAgg5
 z5:=Tryz.sizeOf5
 v5:=Tryz.zeroValue5
 t9:=aC
 a9:=rX
 z9:=oD
 v9:=iW
 t22:=iN
 a22:=Tryz.isAgg98
 z22:=Tryz.sizeOf98
 v22:=Tryz.zeroValue98
 t25:=Tryz.underlying235
 a25:=Tryz.isAgg235
 z25:=Tryz.sizeOf235
 v25:=Tryz.zeroValue235
 t39:=Tryz.underlying183
 a39:=Tryz.isAgg183
 z39:=Tryz.sizeOf183
 v39:=Tryz.zeroValue183
 t45:=Tryz.underlying266
 a45:=Tryz.isAgg266
 z45:=Tryz.sizeOf266
 v45:=Tryz.zeroValue266
 t46:=Tryz.underlying267
 a46:=Tryz.isAgg267
 z46:=Tryz.sizeOf267
 v46:=Tryz.zeroValue267
 t50:=Tryz.underlying121
 a50:=Tryz.isAgg121
 z50:=Tryz.sizeOf121
 v50:=Tryz.zeroValue121
 t53:=Tryz.underlying273
 a53:=Tryz.isAgg273
 z53:=Tryz.sizeOf273
 v53:=Tryz.zeroValue273
 t55:=jW
 a55:=Tryz.isAgg165
 z55:=Tryz.sizeOf165
 v55:=Tryz.zeroValue165
 t66:=Tryz.underlying295
 a66:=Tryz.isAgg295
 z66:=Tryz.sizeOf295
 v66:=Tryz.zeroValue295
 t70:=Tryz.underlying299
 a70:=Tryz.isAgg299
 z70:=Tryz.sizeOf299
 v70:=Tryz.zeroValue299
 t76:=Tryz.underlying327
 a76:=Tryz.isAgg327
 z76:=Tryz.sizeOf327
 v76:=Tryz.zeroValue327
 t77:=Tryz.underlying305
 a77:=Tryz.isAgg305
 z77:=Tryz.sizeOf305
 v77:=Tryz.zeroValue305}
end Go.Proofs
namespace Go.K
open Go.Proofs
set_option maxRecDepth 10000
open Go.Proofs Go.Sort
abbrev TK:Type:={t:Fd // (0:UInt8)∉t.1∧t.1.length≤1000000∧t.2.length≤1000000}
instance abf:Inhabited TK:=⟨⟨([],[]),by simp,by simp,by simp⟩⟩
def uW (x:TK):List Value:=[.string ⟨x.1.1.toArray⟩,.string ⟨x.1.2.toArray⟩]
def ED (x y:TK):Int:=Lib.compareBytes (cL x.1) (cL y.1)
theorem tI:∀{a b x y:List UInt8},(0:UInt8)∉a→(0:UInt8)∉b→a++[0]++x=b++[0]++y→a=b∧x=y
 |[],[],_,_,_,_,h=>⟨rfl,by simpa using h⟩
 |[],c::b,_,_,_,hb,h=>by
  simp at h;exact absurd (by rw[←h.1];exact bW ..) hb
 |c::a,[],_,_,ha,_,h=>by
  simp at h;exact absurd (by rw[h.1];exact bW ..) ha
 |c::a,e::b,x,y,ha,hb,h=>by
  simp only[iT,List.cons.injEq]at h;obtain⟨h1,h2⟩:=tI (fun h=>ha (cq _ h)) (fun h=>hb (cq _ h)) h.2;exact⟨by rw[h.1,h1],h2⟩
theorem WX (w:World):(isAgg 47).run Tryz.prog w= .ok true w:=by simp[isAgg,db,run_underlying bR]
theorem Re (w:World):(Go.sizeOf 47).run Tryz.prog w= .ok 2 w:=by
 obtain⟨i,h1,_,h2,_⟩:=o4.get;simp[Go.sizeOf,typeInfo,db,program,Sem.run,h1,h2]
theorem Gn (jj off size:Nat) (w:World):CmpLays Tryz.prog 158 #[] uW 2 ED jj off size w:=fun m os dk hs x y=>
 (show Calls Tryz.prog 158 #[kv x.1,kv y.1] (sortWorldK uW 2 w jj off m dk os) (fun e w'=>∃v,e= .returned v∧_∧_)from Jr (s:=x.1) (t:=y.1) _ x.2.2.1 x.2.2.2 y.2.2.1 y.2.2.2).mono fun e w' ⟨v,h1,h2,h3⟩=>⟨by rw[h1,h2];rfl,1,#[eU x.1,eU y.1,eU x.1,eU y.1],by rw[h3];simp only[BD,BE,Go.Sort.grow_grow];rfl⟩
theorem Rf (jj off cap:Nat) (d:Array TK) (w:World) (hH:HoldsK uW 2 w jj off d) (hblk:jj<w.heap.size) (jg:d.size<4611686018427387904):
  Spec Tryz.prog 196 #[.slice (some ⟨jj,off,none⟩) d.size cap,.func (.func 158) #[] #[]] w (fun v w'=>v= .tuple #[]∧∃n os,w'=sortWorldK uW 2 w jj off n (d.toList.mergeSort fun x y=> !(Go.Proofs.ltOf ED) y x).toArray os):=by
 exact(Go.Proofs.AnyQ.slices_SortFunc_total Tryz.Gm 2 WX Re uW (fun _=>rfl) (fun x v hv=>by simp[uW]at hv;rcases hv with rfl|rfl<;>rfl) ED (CU _) 158 #[] jj off cap d w Vk (Gn jj off d.size w) hH hblk jg (fun x y h1 h2=>by
  have h0:ED x y=0:=by
   have:=mg (cL x.1) (cL y.1);simp only[Go.Proofs.ltOf,decide_eq_false_iff_not]at h1 h2;unfold ED at h1 h2 ⊢;omega
  have h3:=nH h0;obtain⟨h4,h5⟩:=tI x.2.1 y.2.1 h3;exact Subtype.ext (Prod.ext h4 h5))).mono fun e w' ⟨h1,h2⟩=>⟨_,h1,rfl,h2⟩
end Go.K
namespace Go.K
set_option linter.unusedSectionVars false
open Go.Sort Go.Proofs
section
variable {α:Type} [Inhabited α] {enc:α→List Value} {k:Nat}
theorem qX (hk:∀x,(enc x).length=k) (h0:0<k):∀(l:List α) (t:Nat),(l.flatMap enc)[t]? =(l[t/k]?).bind fun x=>(enc x)[t%k]?
 |[],t=>by simp
 |x::l,t=>by
  rw[List.flatMap_cons];rcases cU t k with h|h
  ·rw[List.getElem?_append_left (by rw[hk];exact h),Nat.div_eq_of_lt h,lp h];rfl
  ·rw[List.getElem?_append_right (by rw[hk];exact h),hk,qX hk h0 l];have e1:t/k=(t-k)/k+1:=by rw[Nat.div_eq t k,if_pos ⟨h0,h⟩]
   have e2:(t-k)%k=t%k:=by rw[Nat.mod_eq t k,if_pos ⟨h0,h⟩]
   rw[e1,e2,List.getElem?_cons_succ]
theorem nI (hk:∀x,(enc x).length=k):∀l:List α,(l.flatMap enc).length=l.length*k
 |[]=>by simp
 |x::l=>by rw[List.flatMap_cons,bP,hk,nI hk l,cA,Nat.add_mul];omega
theorem tJ (hk:∀x,(enc x).length=k) (h0:0<k) (d:Array α) {t:Nat} (ht:t<d.size*k):(d.toList.flatMap enc)[t]? =some (flatK enc k d)[t]! :=by
 have h1:t/k<d.size:=Nat.div_lt_of_lt_mul (by rw[Nat.mul_comm];exact ht);have h2:t%k<k:=Nat.mod_lt _ h0;rw[qX hk h0,get_flatK _ _ _ _ ht];have e:d.toList[t/k]? =some d[t/k]! :=by simp[h1]
 rw[e];simp[hk,h2]
theorem DQ {w:World} {g:Nat} {cur:Array Value} {e:TypeId} {d:Array α} (hk:∀x,(enc x).length=k) (h0:0<k) (hg:w.heap[g]? =some (.cells cur e (0,0))) (hC:cur.toList.take (d.size*k)=d.toList.flatMap enc):HoldsK enc k w g 0 d:=fun j hj=>by
 rw[size_flatK]at hj;have h1:=tJ hk h0 d hj;rw[←hC,dG,if_pos hj,Array.getElem?_toList]at h1;constructor
 ·simp[World.cell?,hg,h1]
 ·simp[World.frozen?,hg]
theorem uY {w:World} {g n:Nat} {cur:Array Value} {e:TypeId} {d:Array α} {os:Array Obj} (hg:w.heap[g]? =some (.cells cur e (0,0))):(sortWorldK enc k w g 0 n d os).heap[g]? =some (.cells (putCells id 0 (flatK enc k d) cur) e (0,0)):=by
 have dC:g<w.heap.size:=ak hg
 have h1:(w.heap.modify g (onCells (putCells id 0 (flatK enc k d))))[g]? =some (.cells (putCells id 0 (flatK enc k d) cur) e (0,0)):=by
  rw[pY,if_pos rfl,hg];rfl
 show((w.heap.modify g (onCells (putCells id 0 (flatK enc k d))))++os)[g]? =_;rw[Array.getElem?_append_left (by simpa using dC)];exact h1
theorem rD {w:World} {g n:Nat} {d:Array α} {os:Array Obj}:Step allM w allM (sortWorldK enc k w g 0 n d os) (fun b=>b=g):=
 ⟨fun h=>absurd (h w.heap.size trivial) (iy _),rfl,rfl,rfl,by show _≤((w.heap.modify g _)++os).size;simp,fun _ _=>Iff.rfl,fun b hb hn=>by
  have hn: ¬b=g:=hn;show((w.heap.modify g (onCells (putCells id 0 (flatK enc k d))))++os)[b]? =_;rw[Array.getElem?_append_left (by simpa using hb),pY,if_neg (fun h=>hn h.symm)],fun _ _=>trivial⟩
theorem uZ {F cur:Array Value} (h:F.size≤cur.size):(putCells id 0 F cur).toList.take F.size=F.toList:=by
 apply kC;intro j;rw[dG];by_cases hj:j<F.size
 ·rw[if_pos hj];simp[putCells,hj,nf hj h]
 ·rw[if_neg hj,fI (by simpa using hj)]
theorem x8 (hk:∀x,(enc x).length=k) (h0:0<k) (d:Array α):(flatK enc k d).toList=d.toList.flatMap enc:=by
 apply kC;intro j;by_cases hj:j<d.size*k
 ·rw[tJ hk h0 d hj];have:j<(flatK enc k d).size:=by rw[size_flatK];exact hj
  rw[Array.getElem?_toList,getElem!_pos _ j this];exact Array.getElem?_eq_getElem this
 ·rw[fI (by rw[Array.length_toList,size_flatK];omega),fI (by rw[nI hk,Array.length_toList];omega)]
end
end Go.K
namespace Go.K
open Go.Proofs
set_option maxRecDepth 10000
open Go.Proofs Go.Sort
theorem CV:∀{ts:List Fd} {C:List Value} {M:aB} {w:World},eA RT.fd M w ts C→C=ts.flatMap fun t=>[.string ⟨t.1.toArray⟩,.string ⟨t.2.toArray⟩]
 |[],C,_,_,h=>h
 |t::ts,C,_,_,⟨vs,r,h1,h2,h3⟩=>by
  obtain⟨va,vb,rfl,h4,h5⟩:=h2;rw[h1,CV h3,h4.1,h5.1];rfl
theorem zK {M:aB} {w:World}:∀{ts:List Fd},(∀t∈ts,t.1.length≤1000000∧t.2.length≤1000000)→eA RT.fd M w ts (ts.flatMap fun t=>[.string ⟨t.1.toArray⟩,.string ⟨t.2.toArray⟩])
 |[],_=>rfl
 |t::ts,h=>by
  obtain⟨h1,h2⟩:=h t (bW ..);exact⟨_,_,rfl,⟨_,_,rfl,⟨rfl,by omega⟩,⟨rfl,by omega⟩⟩,zK fun u hu=>h u (cq _ hu)⟩
def Gp (us:List Fd):Prop:=us.Pairwise fun a b=>¬Lib.compareBytes (cL b) (cL a)<0
theorem vf {base:Nat} {v:Value} {ts:List Fd} (w0:World) (ho:Own RT.fd 47 (nX v) w0 base v ts) (hT:∀t∈ts,(0:UInt8)∉t.1∧t.1.length≤1000000∧t.2.length≤1000000) (hl:ts.length≤100000000):
  Spec Tryz.prog 196 #[v,.func (.func 158) #[] #[]] w0 (fun r w=>r= .tuple #[]∧∃us:List Fd,us.Perm ts∧Gp us∧Own RT.fd 47 (nX v) w base v us∧Step allM w0 allM w (nX v)):=by
 obtain⟨⟨C,⟨hC,hr⟩,hA⟩,hm⟩:=ho;rcases hr with⟨rfl,h0⟩|⟨g,cap,cur,rfl,hb,hg,hle,hmx,hcz,Dm⟩
 ·have E4:ts=[]:=gm.1 h0;subst E4;exact(AnyF.slices_SortFunc_none Tryz.Gm none 0 _ w0).mono fun e w' ⟨h1,h2⟩=>⟨_,h1,rfl,[],.refl _,List.Pairwise.nil,dK _ _ _ _ _,by rw[h2];exact(an allM w0).ca (fun _ h=>h.elim) (fun _ _=>trivial)⟩
 ·obtain⟨d,hd⟩:∃d:Array TK,d.toList.map (·.1)=ts:=⟨(ts.attach.map fun x=>(⟨x.1,hT x.1 x.2⟩:TK)).toArray,by rw[List.toList_toArray,List.map_map];exact List.attach_map_subtype_val ts⟩;have jg:d.size=ts.length:=by rw[←hd];simp
  have hk:∀x:TK,(uW x).length=2:=fun _=>rfl
  have Nh:∀l:List TK,(l.map (·.1)).flatMap (fun t:Fd=>[Value.string ⟨t.1.toArray⟩,.string ⟨t.2.toArray⟩])=l.flatMap uW:=fun l=>by rw[List.flatMap_map];rfl
  have hH:HoldsK uW 2 w0 g 0 d:=DQ hk (by omega) hg (by
   have e2:RT.fd.n=2:=rfl;rw[e2]at Dm;rw[jg,Dm,CV hA,←hd,Nh])
  have hs:=Rf g 0 cap d w0 hH (ak hg) (by omega);rw[jg]at hs;refine hs.mono fun r w' ⟨h1,n,os,h2⟩=>⟨h1,(d.toList.mergeSort fun x y=> !(ltOf ED) y x).map (·.1),?_,?_,?_,?_⟩
  ·rw[←hd];exact(List.mergeSort_perm _ _).map _
  ·refine dv.2 ((List.pairwise_mergeSort (fun a b c h1 h2=>?_) (fun a b=>?_) _).imp fun h=>?_)
   ·simp only[ltOf,oF,decide_eq_false_iff_not]at*
    have:=(CU fun x:TK=>cL x.1).ntrans c b a (by simpa[ltOf,ED]using h2) (by simpa[ltOf,ED]using h1);simpa[ltOf,ED]using this
   ·simp only[ltOf,Bool.or_eq_true,oF,decide_eq_false_iff_not];have:=mg (cL a.1) (cL b.1);unfold ED;omega
   ·rw[oF]at h;exact of_decide_eq_false h
  ·have hp:=List.mergeSort_perm d.toList fun x y=> !(ltOf ED) y x
   rw[h2];generalize (d.toList.mergeSort fun x y=> !(ltOf ED) y x)=us at hp;have Rh:(us.map (·.1)).length=ts.length:=by rw[ch,hp.length_eq,Array.length_toList,jg]
   have yz:us.toArray.size*2=ts.length*2:=by rw[←Rh];simp
   have e2:RT.fd.n=2:=rfl;refine⟨⟨(us.map (·.1)).flatMap (fun t:Fd=>[Value.string ⟨t.1.toArray⟩,.string ⟨t.2.toArray⟩]),⟨?_,.inr ⟨g,cap,_,by rw[Rh],hb,uY hg,by rw[Rh];exact hle,hmx,by rw[←hcz];simp[putCells],?_⟩⟩,zK fun t ht=>?_⟩,hm⟩
   ·rw[Nh,nI hk,ch,e2]
   ·rw[Nh,Rh,e2,←yz,←size_flatK uW,uZ (by rw[size_flatK,yz,hcz,e2];omega),x8 hk (by omega)]
   ·obtain⟨x,_,rfl⟩:=bZ.1 ht;exact x.2.2
  ·rw[h2];exact rD.ca (fun b hb=>by have hb:b=g:=hb;subst hb;rfl) (fun _ _=>trivial)
end Go.K
namespace Go.K
open Go.Proofs
set_option maxRecDepth 10000
theorem zL {bs mb clock:Nat} {es:List MapEntry} (w0:World) (hk:CS es) (hT:∀e∈es,∀t,e.key=kv t→(0:UInt8)∉t.1∧t.1.length≤1000000∧t.2.length≤1000000) (Ua:es.length≤100000000) (hlen:∀ts:List Fd,ts.Nodup→(∀t∈ts,∃e∈es,e.key=kv t)→ts.length≤100000000) (Gj:w0.heap[bs]? =some (.cells #[.map (some mb)] 227 (0,0))) (hW:eF Tryz.prog 47 w0 mb es clock):
  Spec Tryz.prog 156 #[.func (.func 197) #[] [.pointer (some ⟨bs,0,none⟩)].toArray,.func (.func 158) #[] #[]] w0 (fun v w=>∃us:List Fd,us.Nodup∧(∀t,t∈us↔∃e∈es,e.key=kv t)∧Gp us∧Own RT.fd 47 (nX v) w w0.heap.size v us∧Step allM w0 allM w aA):=by
 refine aZ (args:=[_,_]) (fn:=Tryz.f156) Tryz.func156 rfl (n:=12) Tryz.ntmps156 (aj (ah (ai rfl rfl (ad (aj (ah (ae rfl rfl ?_)))))));refine aQ rfl rfl Vu (x2 _ hk Ua Gj hW) (fun v1 w1 hc=>?_);obtain⟨ts,mZ,lQ,ho,s1⟩:=hc;refine ai rfl rfl (ad (aj (ah (ae rfl rfl (ae rfl rfl ?_)))));refine aQ rfl rfl Vv (vf _ ho (fun t ht=>by obtain⟨e,he,WT⟩:=(lQ t).1 ht;exact hT e he t WT) (hlen ts mZ fun t ht=>(lQ t).1 ht)) (fun r2 w2 hc=>?_);obtain⟨rfl,us,hp,LQ,Ri,s2⟩:=hc;refine ad (aj (ah (ae rfl rfl (ai rfl rfl (ad (aL ?_))))));exact aO rfl rfl ⟨us,hp.nodup_iff.2 mZ,fun t=>hp.mem_iff.trans (lQ t),LQ,Ri,s1.trans s2 (fun k hk hn=>by have:=(ho.base k hn).1;omega)⟩
theorem BG {mb:Nat} (w0:World):
  Spec Tryz.prog 157 #[.map (some mb)] w0 (fun v w=>∃bs,v= .func (.func 197) #[] [.pointer (some ⟨bs,0,none⟩)].toArray∧w.heap[bs]? =some (.cells #[.map (some mb)] 227 (0,0))∧w0.heap.size≤bs∧Step allM w0 allM w aA):=by
 refine aZ (args:=[_]) (fn:=Tryz.f157) Tryz.func157 rfl (n:=4) Tryz.ntmps157 (aj (ah ?_));refine o8 allM rfl rfl (fun bs w1 rC yy gs s1=>?_);change w1.heap[bs]? =some (.cells #[.map (some mb)] 227 (0,0))at gs;replace s1:=s1.all;refine ai rfl rfl (ad (aj (ah (iw (xs:=[]) (ys:=[.tmp 1]) rfl rfl rfl (ai rfl rfl (ad (aL ?_)))))));exact aO rfl rfl ⟨bs,rfl,gs,rC,s1⟩
end Go.K
namespace Go.K
open Go.Proofs
set_option maxRecDepth 10000
def posOf (ts:List (Fd×Nat)) (t:Fd):List Int:=(ts.filter fun p=>decide (p.1=t)).map fun p=>(p.2:Int)
def seen (ts:List (Fd×Nat)):List Fd:=ts.foldl (fun l p=>if p.1∈l then l else l++[p.1]) []
theorem DR (ts:List (Fd×Nat)) (t:Fd) (i:Nat):seen (ts++[(t,i)])=if t∈seen ts then seen ts else seen ts++[t]:=by unfold seen;rw[oE];rfl
theorem tK (ts:List (Fd×Nat)) (t t':Fd) (i:Nat):posOf (ts++[(t,i)]) t'=if t=t' then posOf ts t'++[(i:Int)]else posOf ts t':=by
 unfold posOf;rw[List.filter_append];by_cases h:t=t'<;>simp[h]
theorem qv (ts:List (Fd×Nat)) (t:Fd):(posOf ts t).length≤ts.length:=by
 unfold posOf;rw[ch];exact List.length_filter_le _ _
abbrev jc:Value:= .slice none 0 0
structure DS (M:aB) (w:World) (B:Nat) (ts:List (Fd×Nat)) (es:List MapEntry):Prop where
 o:∀t v,dF jc es (kv t) v→Own (RT.int .i64) 3 M w B v (posOf ts t)
 a:∀t t' v v',t≠t'→dF jc es (kv t) v→dF jc es (kv t') v'→iS v v'
 k:es.map (·.key)=(seen ts).map kv
theorem DS.bh {M M':aB} {w w':World} {B:Nat} {ts:List (Fd×Nat)} {es:List MapEntry} (h:DS M w B ts es) (s:Step M w M' w' aA):DS M' w' B ts es:=⟨fun t v hv=>(h.o t v hv).bh s,h.a,h.k⟩
def IJ (bt mb B:Nat) (ts:List (Fd×Nat)) (M:aB) (w:World):Prop:=w.heap[bt]? =some (.cells #[.map (some mb)] 227 (0,0))∧M bt∧M mb∧B≤bt∧B≤mb∧∃es clock,eF Tryz.prog 47 w mb es clock∧DS M w B ts es
theorem Own.jd {α:Type} {A:RT α} {e:TypeId} {M:aB} {w:World} {base b c:Nat} {a:Array MapEntry} {v:Value} {xs:List α} (h:Own A e M w base v xs) (hb:w.heap[b]? =some (.map a c)):v.ownBlock≠some b:=fun hv=>by
 obtain⟨⟨C,h1,_⟩,_⟩:=h;rcases h1.2 with⟨h2,_⟩|⟨g,cap,cur,h2,_,h3,_⟩
 ·rw[h2]at hv;cases hv
 ·rw[h2]at hv;cases hv;rw[h3]at hb;cases hb
theorem pJ {ts:List (Fd×Nat)} {es:List MapEntry} {t:Fd} (hk:es.map (·.key)=(seen ts).map kv):(∃e∈es,e.key=kv t)↔t∈seen ts:=by
 constructor
 ·rintro⟨e,he,h⟩;have:kv t∈(seen ts).map kv:=by rw[←hk,←h];exact fu he
  obtain⟨t',h1,h2⟩:=bZ.1 this;rw[←qu h2];exact h1
 ·intro h;have:kv t∈es.map (·.key):=by rw[hk];exact fu h
  obtain⟨e,h1,h2⟩:=bZ.1 this;exact⟨e,h1,h2⟩
theorem DT {M:aB} {bt mb B:Nat} {ts:List (Fd×Nat)} {t:Fd} {i:Nat} (w0:World) (hM:Lt M w0) (h1:t.1.length≤900000) (h2:t.2.length≤140737488355328) (hi:i≤1000000) (E4:ts.length≤10000000) (hJ:IJ bt mb B ts M w0):
  Spec Tryz.prog 155 #[kv t,.int .i64 (i:Int),.pointer (some ⟨bt,0,none⟩)] w0 (fun v w=>∃M',Lt M' w∧IJ bt mb B (ts++[(t,i)]) M' w∧Step M w0 M' w (jL M B)):=by
 obtain⟨gb,dA,dW,hB,CW,es,clock,hW,hI⟩:=hJ;refine aZ (args:=[_,_,_]) (fn:=Tryz.f155) Tryz.func155 rfl (n:=13) Tryz.ntmps155 ?_;have S:Step M w0 M w0 (jL M B):=(an _ _).ca (fun _ h=>h.elim) (fun _ h=>h.2);refine aj (ah ?_);refine gx (A:=RT.fd) rfl rfl hM (xX (by omega) h2) rfl (fun u0 w1 cv s0 _=>?_);have:=ak gb;replace dA:=(s0.mem _ this).2 dA;replace gb:=s0.aM gb;replace dW:=(s0.mem _ (ak hW.at_)).2 dW;replace hW:=hW.bh s0;replace hI:=hI.bh s0;replace hM:=s0.lt hM;have:=S.size;replace S:=S.ax s0;refine ad (ah (aH jV rfl rfl rfl (by assumption) rfl ?_));refine b5 (M:=M) (A:=RT.fd) bR rfl o4 (by decide) rfl rfl rfl cv (ao _ _) (fun v1 k7=>?_);obtain rfl:=kh k7;refine ae rfl rfl ?_;refine eh (A:=RT.int .i64) (hn:=by decide) (M:=M) au I3 (by decide) rfl rfl hM (fW (by omega)) (.inr ⟨rfl,rfl⟩) (fun FC xQ fH s1_3=>?_);have:=ak gb;replace dA:=(s1_3.mem _ this).2 dA;replace gb:=s1_3.aM gb;replace cv:=cv.le (by decide) s1_3.le;replace dW:=(s1_3.mem _ (ak hW.at_)).2 dW;replace hW:=hW.bh s1_3;replace hI:=hI.bh s1_3;replace hM:=s1_3.lt hM;have:=S.size;replace S:=S.ax s1_3;obtain⟨kl,Dq⟩:=Gf t (by omega) h2;refine Rg.mapEntry (M:=M) (zv:=jc) jV wh nY rfl rfl rfl Dq hW dW (fun w4 es4 cl4 v s O5 hv lQ zM yS s4=>?_);have Rj:∀t v,dF jc es (kv t) v→v.ownBlock≠some mb:=fun t v h=>(hI.o t v h).jd hW.at_
 have K1:bt≠mb:=fun e=>by subst e;have:=hW.at_;rw[gb]at this;cases this
 replace hI:DS M w4 B ts es:=⟨fun t v hv=>(hI.o t v hv).step s4 (fun b hb hk=>Rj t v hv (by have hk:b=mb:=hk;rw[←hk];exact hb)),hI.a,hI.k⟩;have Rk:=(s4.mem _ (ak hW.at_)).2 dW;replace dA:=(s4.mem _ (ak gb)).2 dA;replace gb:=s4.bJ gb K1;replace fH:=fH.le s4.le;replace hM:=s4.lt hM;have hmM:∀b,b<w0.heap.size→M b→M b:=fun b hb h=>(S.mem b hb).1 h
 have hz0:=S.size;replace S:=S.trans s4 (fun k hk h=>by have h:k=mb:=h;subst h;exact⟨CW,hmM k hk dW⟩);have ov:=hI.o t v hv;have yT:=qv ts t;refine bU rfl rfl rfl ?_;refine Rg.kK (M:=M) (base:=B) au I3 rfl rfl rfl rfl ov fH (ao _ _) (by simp;omega) (by simp;omega) (by have:=ak gb;omega) (fun v6 w6 qW s6 hF=>?_);have hblk:∀b,jj v b→B≤b∧M b:=fun b h=>⟨(ov.base b h).1,ov.mut_ b h⟩
 have Js:∀t' v',t'≠t→dF jc es (kv t') v'→iS v' v:=fun t' v' eI od=>hI.a t' t v' v eI od hv
 have Jt:∀t' v',t'≠t→dF jc es (kv t') v'→Own (RT.int .i64) 3 (jA M v6) w6 B v' (posOf ts t'):=fun t' v' eI od=>(hI.o t' v' od).step s6 (fun b hb hk=>Js t' v' eI od b hb hk)
 have jg:∀t' v',dF jc es (kv t') v'→∀b,v'.ownBlock=some b→b<w4.heap.size:=fun t' v' od b hb=>((hI.o t' v' od).base b hb).2
 have Gq:∀t' v',t'≠t→dF jc es (kv t') v'→iS v6 v':=fun t' v' eI od=>(Js t' v' eI od).symm.grown hF (jg t' v' od)
 have WY:v.ownBlock≠some mb:=ov.jd O5.at_;have Gr:=(s6.mem _ (ak O5.at_)).2 Rk;replace O5:=O5.step s6 WY;replace dA:=(s6.mem _ (ak gb)).2 dA;replace gb:=s6.bJ gb (fun h=>ov.eR gb (by decide) h);replace hM:=s6.lt hM;have WZ:∀b,b<w0.heap.size→M b→M b:=fun b hb h=>(S.mem b hb).1 h
 replace S:=S.trans s6 (fun k hk h=>⟨(hblk k h).1,WZ k hk (hblk k h).2⟩);refine bU rfl rfl rfl ?_;have Rl:=O5.at_;refine Rg.entryStore rfl rfl rfl O5 Gr lQ (fun w8 es8 hW8 mI Rm s8=>?_);have hm8:v6.ownBlock≠some mb:=qW.jd Rl;replace qW:=qW.step s8 (fun b hb hk=>hm8 (by have hk:b=mb:=hk;rw[←hk];exact hb));have Rn:∀t' v',t'≠t→dF jc es (kv t') v'→Own (RT.int .i64) 3 _ w8 B v' (posOf ts t'):=fun t' v' eI od=>(Jt t' v' eI od).step s8 (fun b hb hk=>Rj t' v' od (by have hk:b=mb:=hk;rw[←hk];exact hb))
 have Ro:=(s8.mem _ (ak Rl)).2 Gr;refine ad ?_
 first|refine fL.nil ?_|simp+decide only[sc,kX,if_true,if_false]|skip
 replace dA:=(s8.mem _ (ak gb)).2 dA;replace gb:=s8.bJ gb K1;replace hM:=s8.lt hM;replace S:=S.trans s8 (fun k hk h=>by have h:k=mb:=h;subst h;exact⟨CW,(S.mem k hk).1 Gr⟩)
 have ox:∀t1 v1,dF jc es8 (kv t1) v1→(t1=t∧v1=v6)∨(t1≠t∧dF jc es (kv t1) v1):=fun t1 v1 k7=>by
  rcases(Rm jc (kv t1) v1).1 k7 with⟨h3,h4⟩|⟨h3,h4⟩
  ·exact .inl ⟨qu h3,h4⟩
  ·exact .inr ⟨fun e=>h3 (by rw[e];rfl),(zM (kv t1) v1).1 h4⟩
 refine gZ rfl ⟨_,hM,⟨gb,dA,Ro,hB,CW,es8,_,hW8,⟨fun t1 v1 k7=>?_,fun t1 t2 v1 v2 eI k7 xF=>?_,?_⟩⟩,S⟩
 ·rcases ox t1 v1 k7 with⟨rfl,rfl⟩|⟨h3,h4⟩
  ·rw[tK,if_pos rfl];exact qW
  ·rw[tK,if_neg (fun e=>h3 e.symm)];exact Rn t1 v1 h3 h4
 ·rcases ox t1 v1 k7 with⟨rfl,rfl⟩|⟨h3,h4⟩
  ·rcases ox t2 v2 xF with⟨rfl,_⟩|⟨h5,h6⟩
   ·exact absurd rfl eI
   ·exact Gq t2 v2 h5 h6
  ·rcases ox t2 v2 xF with⟨rfl,rfl⟩|⟨h5,h6⟩
   ·exact(Gq t1 v1 h3 h4).symm
   ·exact hI.a t1 t2 v1 v2 eI h4 h6
 ·rw[mI,DR];rcases yS with⟨h3,h4⟩|⟨h3,h4⟩
  ·rw[h3,hI.k,if_pos ((pJ hI.k).1 h4)]
  ·rw[h3,hI.k,if_neg (fun h=>by obtain⟨e,he,hk⟩:=(pJ hI.k).2 h;exact h4 e he hk)];simp[kv]
end Go.K
namespace Go.K
open Go.Maps (Keyed)
open Go.Lib (compareBytes)
theorem zN:∀a b:List UInt8,Op.bytesLess a b=decide (compareBytes a b<0)
 |[],[]=>by simp[Op.bytesLess,compareBytes]
 |_::_,[]=>by simp[Op.bytesLess,compareBytes]
 |[],_::_=>by simp[Op.bytesLess,compareBytes]
 |a::x,b::y=>by
  rw[Op.bytesLess,zN x y,lK];by_cases h1:a.toNat<b.toNat
  ·simp[UInt8.lt_iff_toNat_lt,h1]
  ·by_cases h2:b.toNat<a.toNat
   ·have: ¬a=b:=fun e=>by subst e;omega
    simp[UInt8.lt_iff_toNat_lt,h1,h2,this]
   ·have:a=b:=UInt8.toNat_inj.1 (by omega);simp[UInt8.lt_iff_toNat_lt,h1,h2,this]
theorem nJ (a b:List UInt8):compareBytes a b<0↔a<b:=by
 have h:=zN a b;rw[Go.Proofs.bytesLess_eq]at h;exact(decide_eq_decide.1 h).symm
theorem iH (a:List UInt8): ¬a<a:=fun h=>by have:=(nJ a a).2 h;rw[tH]at this;omega
theorem lL {a b c:List UInt8} (h:a<b) (h':b<c):a<c:=(nJ _ _).1 (nV ((nJ _ _).2 h) ((nJ _ _).2 h'))
theorem kR (a b:List UInt8):a<b∨a=b∨b<a:=by
 rcases Int.lt_trichotomy (compareBytes a b) 0 with h|h|h
 ·exact .inl ((nJ _ _).1 h)
 ·exact .inr (.inl (nH h))
 ·exact .inr (.inr ((nJ _ _).1 (by rw[mg];omega)))
theorem iI {a b:List UInt8} (h:a<b): ¬b<a:=fun h'=>iH a (lL h h')
theorem BH {a b:List UInt8}:a≤b↔¬b<a:=Iff.rfl
section
variable {P:Program} {r:Option Nat} {n:Nat} {L:Sl} {ds:List Deferred} {w:World} {K:Kt} {ops:Array Oper} {rest:List Oper} {d:Nat} {x y:Operand} {ty:TypeId} {pos:String} {af:Array Edge}
theorem Rg.W0 {t t':TypeId} {p q:List UInt8} (hx:ev L x=some (.string ⟨p.toArray⟩)) (hy:ev L y=some (.string ⟨q.toArray⟩)) (hd:Nat.blt d n=true)
  (k:Rg P r n ops rest ((d,.bool (decide (q<p)))::L) ds w K):
  Rg P r n ops ({dst:=some d,op:= .binOp .gtr t x y t',type:=ty,pos,after:=af,guard:=none}::rest) L ds w K:=
 .op (fun _ h=>by cases h) rfl rfl hd _ w (fun ρ h=>by
  have e:(!(decide (p<q)||p==q))=decide (q<p):=by
   rcases kR p q with h|h|h
   ·simp[h,iI h]
   ·subst h;simp[iH]
   ·have: ¬p=q:=fun e=>by subst e;exact iH p h
    simp[h,iI h,this]
  simp only[execOp];rw[h x _ hx,h y _ hy];simp only[binOp,Op.stringOp,iA,Go.Proofs.bytesLess_eq,e];simp[eqGuard]) k
theorem Rg.Ni {t t':TypeId} {p q:List UInt8} (hx:ev L x=some (.string ⟨p.toArray⟩)) (hy:ev L y=some (.string ⟨q.toArray⟩)) (hd:Nat.blt d n=true)
  (k:Rg P r n ops rest ((d,.bool (decide (¬p<q)))::L) ds w K):
  Rg P r n ops ({dst:=some d,op:= .binOp .geq t x y t',type:=ty,pos,after:=af,guard:=none}::rest) L ds w K:=
 .op (fun _ h=>by cases h) rfl rfl hd _ w (fun ρ h=>by
  have e:(!decide (p<q))=decide (¬p<q):=by by_cases h:p<q<;>simp[h]
  simp only[execOp];rw[h x _ hx,h y _ hy];simp only[binOp,Op.stringOp,iA,Go.Proofs.bytesLess_eq,e];simp[eqGuard]) k
theorem Rg.Nj {t t':TypeId} {p q:List UInt8} (hx:ev L x=some (.string ⟨p.toArray⟩)) (hy:ev L y=some (.string ⟨q.toArray⟩)) (hd:Nat.blt d n=true)
  (k:Rg P r n ops rest ((d,.bool (decide (¬q<p)))::L) ds w K):
  Rg P r n ops ({dst:=some d,op:= .binOp .leq t x y t',type:=ty,pos,after:=af,guard:=none}::rest) L ds w K:=
 .op (fun _ h=>by cases h) rfl rfl hd _ w (fun ρ h=>by
  have e:(decide (p<q)||p==q)=decide (¬q<p):=by
   rcases kR p q with h|h|h
   ·simp[h,iI h]
   ·subst h;simp[iH]
   ·have: ¬p=q:=fun e=>by subst e;exact iH p h
    simp[h,iI h,this]
  simp only[execOp];rw[h x _ hx,h y _ hy];simp only[binOp,Op.stringOp,iA,Go.Proofs.bytesLess_eq,e];simp[eqGuard]) k
end
abbrev x9 (l:List (List UInt8)):Prop:=l.Pairwise (· < ·)
theorem DV {ss:List (List UInt8)} (h:ss.Nodup):x9 (ss.mergeSort fun x y=>decide (x≤y)):=by
 have h1:(ss.mergeSort fun x y=>decide (x≤y)).Pairwise (fun x y=>decide (x≤y)=true):=List.pairwise_mergeSort (fun a b c h1 h2=>by
  simp only[decide_eq_true_eq,BH]at h1 h2 ⊢;intro h3;rcases kR a b with h|h|h
  ·exact h2 (lL h3 h)
  ·subst h;exact h2 h3
  ·exact h1 h) (fun a b=>by
  simp only[Bool.or_eq_true,decide_eq_true_eq,BH];rcases kR a b with h|h|h
  ·exact .inl (iI h)
  ·subst h;exact .inl (iH a)
  ·exact .inr (iI h)) ss
 have h2:(ss.mergeSort fun x y=>decide (x≤y)).Nodup:=(List.mergeSort_perm ss _).nodup_iff.2 h;refine (h1.and h2).imp ?_;rintro a b ⟨h3,h4⟩;simp only[decide_eq_true_eq,BH]at h3;rcases kR a b with h|h|h
 ·exact h
 ·exact absurd h h4
 ·exact absurd h h3
theorem x9.nodup {l:List (List UInt8)} (h:x9 l):l.Nodup:=h.imp fun {a b} h e=>by subst e;exact iH a h
theorem Gs {α:Type} {R:α→α→Prop} (hR:∀a b,R a b→R b a→a=b) {l l':List α} (h:l.Pairwise R) (h':l'.Pairwise R) (hn:l.Nodup) (KX:l'.Nodup) (hm:∀x,x∈l↔x∈l'):l=l':=
 List.Perm.eq_of_pairwise (fun a b _ _ h1 h2=>hR a b h1 h2) h h' ((List.perm_ext_iff_of_nodup hn KX).2 hm)
theorem Nk {l l':List (List UInt8)} (h:x9 l) (h':x9 l') (hm:∀x,x∈l↔x∈l'):l=l':=
 Gs (fun a b h1 h2=>absurd h2 (iI h1)) h h' h.nodup h'.nodup hm
abbrev sv (k:List UInt8):Value:= .string ⟨k.toArray⟩
theorem ya {a b:List UInt8} (h:sv a=sv b):a=b:=by simpa[sv]using h
def BI:Value→Option (DU×List MemPlace):=fun _=>some (.nil,[])
theorem eF.W2 {P:Program} {kt:TypeId} {M:aB} {w:World} {b:Nat} {es:List MapEntry} {clock:Nat} (hk:P.underlying kt=some .string) (h:eF P kt w b es clock) (hm:M b) (hl:es.length≤maxLen) (ks:List (List UInt8)) (Ju:es.map (·.key)=ks.map sv):
  ∃m:List (Lit×DU),Me P kt BI M w b m∧(strKeys (DataW.map m)).Perm ks∧m.length=ks.length:=by
 have hF:Go.WideElems.Fit P kt BI es.toArray clock:=by
  refine⟨by simpa using hl,⟨fun x hx=>h.lt x (by simpa using hx),?_,?_⟩,fun x hx=>?_⟩
  ·simpa[List.Nodup,dv]using h.born
  ·simpa[List.Nodup,dv]using h.keys
  ·obtain⟨l,hl⟩:=h.ok x (by simpa using hx);exact⟨(l,.nil),by simp[Go.WideElems.rd,hl,BI]⟩
 have hp:=Go.WideShapes.sorted_perm (es.toArray.toList.map (Go.WideElems.rg P kt BI));have hlen:(List.foldr DataW.insert [] (es.toArray.toList.map (Go.WideElems.rg P kt BI))).length=es.length:=by rw[hp.length_eq];simp
 refine⟨_,⟨hm,es.toArray,clock,h.at_,hF,by rw[hlen];simp,rfl⟩,?_,?_⟩
 ·refine (hp.map fun p=>strOf p.1).trans ?_;rw[List.map_map]
  have e:es.toArray.toList.map ((fun p=>strOf p.1)∘Go.WideElems.rg (H:=Unit) P kt BI)=ks:=by
   refine kC fun i=>?_
   have hi:=congrArg (·[i]?) Ju;simp only[cy]at hi ⊢
   cases he:es[i]? with
   |none=>
    rw[he]at hi
    cases W3:ks[i]? with
    |none=>simp[he]
    |some a=>rw[W3]at hi;cases hi
   |some e=>
    rw[he]at hi;obtain⟨l,hl⟩:=h.ok e (aI he);obtain⟨s,hs,h1⟩:=Option.map_eq_some_iff.1 hi.symm;obtain⟨z,hz1,hz2,_⟩:=Maps.keyOf_str hk hl;have:z=s:=ya (hz1.symm.trans (by simpa using h1.symm));subst this;simp[he,hs,Go.WideElems.rg,Go.WideElems.rd,hl,BI,hz2,strOf]
  rw[e]
 ·rw[hlen];have:=congrArg List.length Ju;simpa using this
end Go.K
namespace Go.K
open Go.Lib (compareBytes)
def nK {α:Type} [DecidableEq α] (key:α→List UInt8) (t:α):List α→List α
 |[]=>[t]
 |u::l=>if key t<key u then t::u::l else if u=t then u::l else u::nK key t l
theorem nW {α:Type} [DecidableEq α] {key:α→List UInt8} {t x:α}:∀{l:List α},x∈nK key t l↔x=t∨x∈l
 |[]=>by simp[nK]
 |u::l=>by
  unfold nK
  split
  ·simp
  ·split
   ·rename_i h;subst h;simp
   ·rw[du,nW (l:=l),du];constructor
    ·rintro(h|h|h)
     ·exact .inr (.inl h)
     ·exact .inl h
     ·exact .inr (.inr h)
    ·rintro(h|h|h)
     ·exact .inr (.inl h)
     ·exact .inl h
     ·exact .inr (.inr h)
abbrev yb {α:Type} (key:α→List UInt8) (l:List α):Prop:=l.Pairwise fun a b=>key a<key b
theorem zO {α:Type} [DecidableEq α] {key:α→List UInt8} {t:α}:∀{l:List α},(∀u∈l,key u=key t→u=t)→yb key l→yb key (nK key t l)
 |[],_,_=>by simp[nK]
 |u::l,hi,h=>by
  have h':=fN.1 h;unfold nK
  split
  ·rename_i dC
   refine fN.2 ⟨fun x hx=>?_,h⟩;rcases du.1 hx with rfl|hx
   ·exact dC
   ·exact lL dC (h'.1 x hx)
  ·rename_i dC
   split
   ·exact h
   ·rename_i eI
    have hut:key u<key t:=by
     rcases kR (key u) (key t)with h1|h1|h1
     ·exact h1
     ·exact absurd (hi u (bW ..) h1) eI
     ·exact absurd h1 dC
    refine fN.2 ⟨fun x hx=>?_,zO (fun v hv=>hi v (cq _ hv)) h'.2⟩;rcases nW.1 hx with rfl|hx
    ·exact hut
    ·exact h'.1 x hx
def allBy {α:Type} [DecidableEq α] (key:α→List UInt8) (l:List α):List α:=l.foldl (fun a t=>nK key t a) []
theorem pK {α:Type} [DecidableEq α] {key:α→List UInt8} {S:α→Prop} (hS:∀a b,S a→S b→key a=key b→a=b):∀(l a:List α),(∀x∈l,S x)→(∀x∈a,S x)→yb key a→
  yb key (l.foldl (fun a t=>nK key t a) a)∧∀x,x∈l.foldl (fun a t=>nK key t a) a↔x∈a∨x∈l
 |[],a,_,_,h=>⟨h,fun x=>by simp⟩
 |t::l,a,hl,ha,h=>by
  have ht:=hl t (bW ..)
  obtain⟨h1,h2⟩:=pK hS l (nK key t a) (fun x hx=>hl x (cq _ hx)) (fun x hx=>by
   rcases nW.1 hx with rfl|hx
   ·exact ht
   ·exact ha x hx) (zO (fun u hu e=>hS _ _ (ha u hu) ht e) h)
  refine⟨h1,fun x=>?_⟩;rw[List.foldl_cons,h2,nW,du];constructor
  ·rintro((h|h)|h)
   ·exact .inr (.inl h)
   ·exact .inl h
   ·exact .inr (.inr h)
  ·rintro(h|h|h)
   ·exact .inl (.inr h)
   ·exact .inl (.inl h)
   ·exact .inr h
theorem yb.nodup {α:Type} {key:α→List UInt8} {l:List α} (h:yb key l):l.Nodup:=h.imp fun {a b} h e=>by subst e;exact iH _ h
abbrev EE (t:Fd):Prop:=(0:UInt8)∉t.1
theorem pL {a b:Fd} (ha:EE a) (hb:EE b) (h:cL a=cL b):a=b:=by
 obtain⟨h1,h2⟩:=tI ha hb h;exact Prod.ext h1 h2
def cJ (tl:List (Fd×Nat)):List Fd:=allBy cL (tl.map (·.1))
theorem pM {tl:List (Fd×Nat)} (hz:∀p∈tl,EE p.1):yb cL (cJ tl):=
 (pK (S:=EE) (fun _ _=>pL) _ [] (fun x hx=>by obtain⟨p,hp,rfl⟩:=bZ.1 hx;exact hz p hp) (fun x h=>by cases h) List.Pairwise.nil).1
theorem gJ {tl:List (Fd×Nat)} (hz:∀p∈tl,EE p.1) {t:Fd}:t∈cJ tl↔t∈tl.map (·.1):=by
 have:=(pK (S:=EE) (key:=cL) (fun _ _=>pL) (tl.map (·.1)) [] (fun x hx=>by obtain⟨p,hp,rfl⟩:=bZ.1 hx;exact hz p hp) (fun x h=>by cases h) List.Pairwise.nil).2 t;simpa[cJ,allBy]using this
theorem CX (t:Fd):∀(ts:List (Fd×Nat)) (l:List Fd),t∈ts.foldl (fun l p=>if p.1∈l then l else l++[p.1]) l↔t∈l∨t∈ts.map (·.1)
 |[],l=>by simp
 |p::ts,l=>by
  rw[List.foldl_cons,CX t ts,fj,du]
  split
  ·rename_i h
   constructor
   ·rintro(h1|h1)
    ·exact .inl h1
    ·exact .inr (.inr h1)
   ·rintro(h1|h1|h1)
    ·exact .inl h1
    ·exact .inl (by rw[h1];exact h)
    ·exact .inr h1
  ·rw[cY,cw];constructor
   ·rintro((h1|h1)|h1)
    ·exact .inl h1
    ·exact .inr (.inl h1)
    ·exact .inr (.inr h1)
   ·rintro(h1|h1|h1)
    ·exact .inl (.inl h1)
    ·exact .inl (.inr h1)
    ·exact .inr h1
theorem pN {tl:List (Fd×Nat)} {t:Fd}:t∈seen tl↔t∈tl.map (·.1):=by unfold seen;rw[CX];simp
theorem zP {tl:List (Fd×Nat)} {us:List Fd} (hz:∀p∈tl,EE p.1) (mZ:us.Nodup) (lQ:∀t,t∈us↔t∈seen tl) (LQ:Gp us):us=cJ tl:=by
 have hm:∀t,t∈us↔t∈cJ tl:=fun t=>by rw[lQ,pN,gJ hz]
 have gS:∀t∈cJ tl,EE t:=fun t ht=>by obtain⟨p,hp,rfl⟩:=bZ.1 ((gJ hz).1 ht);exact hz p hp
 refine List.Perm.eq_of_pairwise (le:=fun a b=>¬compareBytes (cL b) (cL a)<0) (fun a b ha hb h1 h2=>?_) LQ ((pM hz).imp fun {a b} h h'=>iI h ((nJ _ _).1 h')) ((List.perm_ext_iff_of_nodup mZ (pM hz).nodup).2 hm);rw[nJ]at h1 h2;rcases kR (cL a) (cL b)with h|h|h
 ·exact absurd h h2
 ·exact pL (gS a ((hm a).1 ha)) (gS b hb) h
 ·exact absurd h h1
theorem pO (a b:List (Fd×Nat)) (t:Fd):posOf (a++b) t=posOf a t++posOf b t:=by simp[posOf]
theorem Gt {tl:List (Fd×Nat)} {t:Fd} (h:t∈tl.map (·.1)):posOf tl t≠[]:=by
 obtain⟨p,hp,rfl⟩:=bZ.1 h;intro e;have:p∈tl.filter fun q=>decide (q.1=p.1):=mY.2 ⟨hp,by simp⟩
 rw[List.map_eq_nil_iff.1 e]at this;cases this
theorem DW {tl:List (Fd×Nat)} {t:Fd} (h:t∉tl.map (·.1)):posOf tl t=[]:=by
 unfold posOf;rw[List.filter_eq_nil_iff.2 fun p hp=>by simp;intro e;exact h (bZ.2 ⟨p,hp,e⟩)];rfl
theorem zQ (x:Fd) (t:Fd):(posOf (fY x) t).Sublist ((List.range' 0 (words x.2).length).map fun(i:Nat)=>(i:Int)):=by
 have e:(fY x).map (fun p=>(p.2:Int))=(List.range' 0 (words x.2).length).map fun(i:Nat)=>(i:Int):=by
  rw[←List.zipIdx_map_snd 0 (words x.2),List.map_map];unfold fY;rw[List.map_map];rfl
 rw[←e];exact List.filter_sublist.map _
theorem DX (x:Fd) (t:Fd):(posOf (fY x) t).Pairwise (· < ·)∧∀i∈posOf (fY x) t,0≤i∧i<(words x.2).length:=by
 refine⟨List.Pairwise.sublist (zQ x t) (dv.2 ((List.pairwise_lt_range' (s:=0) (n:=(words x.2).length)).imp fun h=>by omega)),fun i hi=>?_⟩;have:=(zQ x t).subset hi;obtain⟨k,hk,rfl⟩:=bZ.1 this;have:=List.mem_range'_1.1 hk;omega
theorem wo {x:Fd} {p:Fd×Nat} (h:p∈fY x):p.1.1=x.1∧p.1.2∈words x.2:=by
 obtain⟨q,hq,rfl⟩:=bZ.1 h;have:=List.mem_zipIdx hq;exact⟨rfl,by simp only;rw[this.2.2];exact List.getElem_mem _⟩
theorem wu {fs:List Fd} {p:Fd×Nat} (h:p∈bX fs):∃x∈fs,p.1.1=x.1∧p.1.2∈words x.2:=by
 obtain⟨x,hx,hp⟩:=List.mem_flatMap.1 h;exact⟨x,hx,wo hp⟩
theorem tL {x t:Fd} (h:x.1≠t.1):posOf (fY x) t=[]:=DW fun hm=>by
 obtain⟨p,hp,rfl⟩:=bZ.1 hm;exact h (wo hp).1.symm
theorem wx {t:Fd}:∀{fs:List Fd},(∀x∈fs,x.1≠t.1)→posOf (bX fs) t=[]
 |[],_=>rfl
 |x::fs,h=>by
  show posOf (fY x++bX fs) t=[];rw[pO,tL (h x (bW ..)),wx fun y hy=>h y (cq _ hy)];rfl
theorem zR {t:Fd}:∀{fs:List Fd},(fs.map (·.1)).Nodup→posOf (bX fs) t=[]∨∃x∈fs,posOf (bX fs) t=posOf (fY x) t
 |[],_=> .inl rfl
 |x::fs,h=>by
  have h':=rZ.1 h;have e:posOf (bX (x::fs)) t=posOf (fY x) t++posOf (bX fs) t:=by show posOf (fY x++bX fs) t=_;rw[pO]
  by_cases hx:x.1=t.1
  ·refine .inr ⟨x,bW ..,?_⟩;rw[e,wx fun y hy e=>h'.1 (by have h9:y.1∈fs.map (·.1):=fu hy;rw[e,←hx]at h9;exact h9),rY]
  ·rw[e,tL hx,jJ];rcases zR (t:=t) h'.2 with h1|⟨y,hy,h1⟩
   ·exact .inl h1
   ·exact .inr ⟨y,cq _ hy,h1⟩
theorem zS:∀{l:List Int} {last:Int},(∀x∈l,last<x)→l.Pairwise (· < ·)→ey last l=true
 |[],_,_,_=>rfl
 |x::l,last,h1,h2=>by
  have xm:=fN.1 h2;simp only[ey,bD,decide_eq_true_eq];exact⟨h1 x (bW ..),zS xm.1 xm.2⟩
structure gR (d:Dc):Prop where
 names:∀f∈d.2,eS f.1=true
 once:(d.2.map (·.1)).Nodup
 toks:∀f∈d.2,kg 0 (words f.2)=0
 many:(bX d.2).length≤500
 few:d.2.length≤8
theorem wy:∀{fs sn:List Fd} {n:Nat},tw sn fs n=0→(∀f∈fs,eS f.1=true∧kg 0 (words f.2)=0∧∀g∈sn,g.1≠f.1)∧(fs.map (·.1)).Nodup∧n+(bX fs).length≤500
 |[],sn,n,h=>by
  refine⟨(fun f hf=>by cases hf),List.nodup_nil,?_⟩;simp only[tw]at h
  split at h
  ·cases h
  ·simp[bX];omega
 |f::fs,sn,n,h=>by
  simp only[tw]at h
  split at h
  ·cases h
  ·rename_i h1
   split at h
   ·cases h
   ·rename_i h2
    split at h
    ·exact absurd h (by assumption)
    ·rename_i h3
     obtain⟨h4,h5,h6⟩:=wy h;have h7:∀g∈sn,g.1≠f.1:=fun g hg e=>h2 (p9.2 ⟨g,hg,by simp[e]⟩)
     refine⟨fun x hx=>?_,rZ.2 ⟨fun hm=>?_,h5⟩,?_⟩
     ·rcases du.1 hx with rfl|hx
      ·exact⟨by simpa using h1,by simpa using h3,h7⟩
      ·obtain⟨a,b,c⟩:=h4 x hx;exact⟨a,b,fun g hg=>c g (kW _ hg)⟩
     ·obtain⟨y,hy,e⟩:=bZ.1 hm;exact(h4 y hy).2.2 f (List.mem_append_right _ (cw.2 rfl)) e.symm
     ·have:(bX (f::fs)).length=(fY f).length+(bX fs).length:=by show(fY f++bX fs).length=_;rw[bP]
      rw[this,lJ];omega
theorem yc {d:Dc} (h:kI d=0):gR d:=by
 unfold kI at h
 split at h
 ·cases h
 ·obtain⟨h1,h2,h3⟩:=wy h;exact⟨fun f hf=>(h1 f hf).1,h2,fun f hf=>(h1 f hf).2.1,by omega,by omega⟩
theorem wC:∀{ws:List (List UInt8)} {i:Nat},kg i ws=0→∀x∈ws,x.length≤30
 |[],_,_,x,hx=>by cases hx
 |a::ws,i,h,x,hx=>by
  simp only[kg]at h
  split at h
  ·cases h
  ·split at h
   ·cases h
   ·rcases du.1 hx with rfl|hx
    ·omega
    ·exact wC h x hx
theorem Gu {s:List UInt8} (h:eS s=true):(0:UInt8)∉s:=fun h0=>by
 simp only[eS,bD,ep]at h;have:=h.2 0 h0
 revert this;decide
theorem gR.EF {d:Dc} (h:gR d):∀p∈bX d.2,EE p.1:=fun p hp=>by
 obtain⟨x,hx,h1,_⟩:=wu hp;show(0:UInt8)∉p.1.1;rw[h1];exact Gu (h.names x hx)
theorem gR.small {d:Dc} (h:gR d):∀p∈bX d.2,p.1.1.length≤12∧p.1.2.length≤30:=fun p hp=>by
 obtain⟨x,hx,h1,h2⟩:=wu hp;exact⟨by rw[h1];exact zu (h.names x hx),wC (h.toks x hx) _ h2⟩
theorem gR.pos {d:Dc} (h:gR d) (t:Fd):(posOf (bX d.2) t).Pairwise (· < ·)∧(∀i∈posOf (bX d.2) t,0≤i∧i<500)∧(posOf (bX d.2) t).length≤500:=by
 have hl:=qv (bX d.2) t;have hm:=h.many;rcases zR (t:=t) h.once with h1|⟨x,hx,h1⟩
 ·rw[h1];exact⟨List.Pairwise.nil,(fun i hi=>by cases hi),by simp⟩
 ·obtain⟨h2,h3⟩:=DX x t
  have vL:(words x.2).length≤500:=by
   have:(fY x).length≤(bX d.2).length:=by
    obtain⟨i,hi⟩:=bF.1 hx;have:=oU hi
    have h5:(bX (d.2.take (i+1))).length≤(bX d.2).length:=by
     have:bX d.2=bX (d.2.take (i+1))++bX (d.2.drop (i+1)):=by unfold bX;rw[←List.flatMap_append,List.take_append_drop]
     rw[this,bP];omega
    rw[this,bP]at h5;omega
   rw[lJ]at this;omega
  rw[h1]at hl ⊢;exact⟨h2,fun i hi=>⟨(h3 i hi).1,by have:=(h3 i hi).2;omega⟩,by omega⟩
theorem gR.ey {d:Dc} (h:gR d) (t:Fd):l2 (posOf (bX d.2) t)=true:=by
 obtain⟨h1,h2,_⟩:=h.pos t;exact l3.2 ⟨zS (fun x hx=>by have:=(h2 x hx).1;omega) h1,fun x hx=>by have:=(h2 x hx).2;omega⟩
abbrev o6 (e:En):List (Fd×Nat):=bX e.1.2
def yF (i:Nat) (tl:List (Fd×Nat)) (k:List UInt8):List Po:=((cJ tl).filter fun t=>decide (cL t=k)).map fun t=>((i:Int),posOf tl t)
def zT (k:List UInt8):Nat→List En→List Po
 |_,[]=>[]
 |i,e::L=>yF i (o6 e) k++zT k (i+1) L
def pk (L:List En) (k:List UInt8):List Po:=zT k 0 L
theorem zU (k:List UInt8) (e:En):∀(L:List En) (i:Nat),zT k i (L++[e])=zT k i L++yF (i+L.length) (o6 e) k
 |[],i=>by simp[zT]
 |x::L,i=>by
  simp only[iT,zT,zU k e L (i+1),List.append_assoc,cA];rw[show i+1+L.length=i+(L.length+1) by omega]
theorem Jv (L:List En) (e:En) (k:List UInt8):pk (L++[e]) k=pk L k++yF L.length (o6 e) k:=by
 unfold pk;rw[zU];simp
def gK (L:List En):List (List UInt8):=L.flatMap fun e=>(cJ (o6 e)).map cL
theorem BJ (L:List En) (e:En):gK (L++[e])=gK L++(cJ (o6 e)).map cL:=by simp[gK]
def keysOf (L:List En):List (List UInt8):=allBy id (gK L)
theorem kS (L:List En):x9 (keysOf L):=(pK (key:=id) (S:=fun _=>True) (fun a b _ _ h=>h) _ [] (fun _ _=>trivial) (fun _ _=>trivial) List.Pairwise.nil).1
theorem ku {L:List En} {k:List UInt8}:k∈keysOf L↔k∈gK L:=by
 have:=(pK (key:=id) (S:=fun _=>True) (fun a b _ _ h=>h) (gK L) [] (fun _ _=>trivial) (fun _ _=>trivial) List.Pairwise.nil).2 k;simpa[keysOf,allBy]using this
theorem filter_one {α:Type} {key:α→List UInt8} {l:List α} (h:yb key l) (k:List UInt8):l.filter (fun t=>decide (key t=k))=[]∨∃t∈l,key t=k∧l.filter (fun t=>decide (key t=k))=[t]:=by
 have h1:yb key (l.filter fun t=>decide (key t=k)):=List.Pairwise.sublist List.filter_sublist h;have h2:∀x∈l.filter (fun t=>decide (key t=k)),x∈l∧key x=k:=fun x hx=>by simpa using mY.1 hx
 revert h1 h2
 generalize l.filter (fun t=>decide (key t=k))=m;intro h1 h2
 match m,h1,h2 with
 |[],_,_=>exact .inl rfl
 |[t],_,h2=>exact .inr ⟨t,(h2 t (bW ..)).1,(h2 t (bW ..)).2,rfl⟩
 |t::u::m,h1,h2=>
  have:=(fN.1 h1).1 u (bW ..);rw[(h2 t (bW ..)).2,(h2 u (by simp)).2]at this;exact absurd this (iH k)
theorem rQ {d:Dc} (h:gR d) (i:Nat) (k:List UInt8):yF i (bX d.2) k=[]∨∃t∈cJ (bX d.2),cL t=k∧yF i (bX d.2) k=[((i:Int),posOf (bX d.2) t)]:=by
 rcases filter_one (pM h.EF) k with h1|⟨t,ht,hk,h1⟩
 ·exact .inl (by unfold yF;rw[h1];rfl)
 ·exact .inr ⟨t,ht,hk,by unfold yF;rw[h1];rfl⟩
theorem Gv {tl:List (Fd×Nat)} {i:Nat} {t:Fd} (h:t∈cJ tl):yF i tl (cL t)≠[]:=fun e=>by
 have:t∈(cJ tl).filter fun u=>decide (cL u=cL t):=mY.2 ⟨h,by simp⟩
 rw[List.map_eq_nil_iff.1 e]at this;cases this
theorem rR (k:List UInt8):∀(L:List En) (i:Nat) (last:Int),(∀e∈L,gR e.1)→last<i→i+L.length≤2147483648→dR last (zT k i L)=true
 |[],_,_,_,_,_=>rfl
 |e::L,i,last,hF,h1,h2=>by
  have hf:=hF e (bW ..);have hr:=fun last h=>rR k L (i+1) last (fun x hx=>hF x (cq _ hx)) h (by simp at h2;omega)
  simp only[zT];rcases rQ hf i k with h3|⟨t,ht,hk,h3⟩
  ·rw[show yF i (o6 e) k=[]from h3];exact hr last (by omega)
  ·rw[show yF i (o6 e) k=_ from h3]
   have eI:(posOf (bX e.1.2) t).isEmpty=false:=by
    have:=Gt ((gJ hf.EF).1 ht)
    cases h:posOf (bX e.1.2) t with
    |nil=>exact absurd h this
    |cons a b=>rfl
   simp only[iT,jJ,dR,eI,hf.ey t,hr i (by omega),iz,Bool.not_false,bD,decide_eq_true_eq];simp at h2;omega
theorem qw (k:List UInt8):∀(L:List En) (i:Nat),(∀e∈L,gR e.1)→(zT k i L).length≤L.length∧∀p∈zT k i L,(i:Int)≤p.1∧p.1<i+L.length∧p.2.length≤500
 |[],_,_=>⟨a7 _,fun p h=>by cases h⟩
 |e::L,i,hF=>by
  have hf:=hF e (bW ..);obtain⟨h1,h2⟩:=qw k L (i+1) (fun x hx=>hF x (cq _ hx));simp only[zT,cA];rcases rQ hf i k with h3|⟨t,ht,hk,h3⟩
  ·rw[show yF i (o6 e) k=[]from h3];exact⟨by simpa using Nat.le_succ_of_le h1,fun p hp=>by have:=h2 p (by simpa using hp);exact⟨by omega,by omega,this.2.2⟩⟩
  ·rw[show yF i (o6 e) k=_ from h3];refine⟨by simp;omega,fun p hp=>?_⟩;rcases du.1 hp with rfl|hp
   ·exact⟨Int.le_refl _,by simp only;omega,(hf.pos t).2.2⟩
   ·have:=h2 p (by simpa using hp);exact⟨by omega,by omega,this.2.2⟩
theorem qx:∀(l:List Po) (last:Int) (m:Nat),-1≤last→dR last l=true→(∀p∈l,p.2.length≤m)→m≤1000000→(dy last l).length≤(18+9*m)*l.length∧gA l≤m*l.length
 |[],_,_,_,_,_,_=>⟨by simp[dy],by simp[gA]⟩
 |(d,ps)::l,last,m,h0,hm,hs,hmm=>by
  simp only[dR,bD,decide_eq_true_eq]at hm;obtain⟨⟨⟨⟨h1,h2⟩,h3⟩,h4⟩,h5⟩:=hm;obtain⟨h6,h7⟩:=l3.1 h4;have rr:=hs _ (bW ..);simp only at rr;obtain⟨i1,i2⟩:=qx l d m (by omega) h5 (fun p hp=>hs p (cq _ hp)) hmm;have a1:=sK ps (-1) (by omega) (fun x hx=>by have:=h7 x hx;omega) h6;have a3:=jo (n:=(d-last-1).toNat) (by omega);have a4:=jo (n:=ps.length) (by omega);have e1:9*ps.length≤9*m:=by omega
  constructor
  ·simp only[dy,dI,bP,cA,Nat.mul_add,Nat.mul_one];omega
  ·simp only[gA,fj,List.sum_cons,cA]at i2 ⊢;rw[Int.natCast_add,Int.mul_add];omega
theorem Gw {k:List UInt8}:∀{L:List En} (i:Nat),k∈gK L→zT k i L≠[]
 |[],_,h=>by cases h
 |e::L,i,h=>by
  simp only[zT];intro hn;obtain⟨h1,h2⟩:=List.append_eq_nil_iff.1 hn;have h:k∈(cJ (o6 e)).map cL++gK L:=h;rcases cY.1 h with h|h
  ·obtain⟨t,ht,rfl⟩:=bZ.1 h;exact Gv ht h1
  ·exact Gw (i+1) h h2
theorem CY {k:List UInt8}:∀{L:List En} (i:Nat),k∉gK L→zT k i L=[]
 |[],_,_=>rfl
 |e::L,i,h=>by
  have h:k∉(cJ (o6 e)).map cL++gK L:=h;rw[cY,not_or]at h;simp only[zT];rw[CY (i+1) h.2,rY];unfold yF;rw[List.filter_eq_nil_iff.2 fun t ht=>by simp;intro e';exact h.1 (bZ.2 ⟨t,ht,e'⟩)];rfl
end Go.K
namespace Go.K
def RT.ptr {α:Type} (A:RT α) (hn:0<A.n:=by decide):RT α where
 n:=1
 agg:=false
 R:=fun M w x vs=>∃b o us,vs=[.pointer (some ⟨b,o,none⟩)]∧¬M b∧A.R M w x us∧w.rangeAt b o us
 len:=by rintro _ _ x vs ⟨b,o,us,rfl,_⟩;rfl
 one:=by rintro _ _ x vs ⟨b,o,us,rfl,_⟩ v hv;simp at hv;subst hv;rfl
 le:=by
  rintro M w M' w' x vs hl ⟨b,o,us,h1,h2,h3,h4⟩;have hp:0<us.length:=by rw[A.len h3];exact hn
  have hc:=h4 0 (us[0]'hp) (aD hp);exact⟨b,o,us,h1,(hl b (World.block_lt_of_cell? w _ hc) h2).1,A.le hl h3,oG hl h2 h4⟩
theorem CZ {α:Type} {A:RT α} {hn:0<A.n} {M:aB} {w:World} {x:α} {v:Value}:(A.ptr hn).V M w x v↔cp A M w v x:=
 ⟨fun⟨vs,⟨b,o,us,h1,h2,h3,h4⟩,h5⟩=>⟨b,o,us,by subst h1;exact h5,h2,h3,h4⟩,fun⟨b,o,us,h1,h2,h3,h4⟩=>⟨[v],⟨b,o,us,by rw[h1],h2,h3,h4⟩,rfl⟩⟩
abbrev Di:=List (List UInt8)×List Li
abbrev Se:=List Int×List Int×Di
abbrev RT.di:RT Di:=RT.pair (RT.str.sl) (((RT.li).ptr).sl)
abbrev RT.se:RT Se:=RT.pair ((RT.int .i64).sl) (RT.pair ((RT.int .i64).sl) ((RT.di).ptr))
theorem Ub:Part RT.di (RT.str.sl) (fun p=>p.1) 0:=kF _ _
theorem di1:Part RT.di (((RT.li).ptr).sl) (fun p=>p.2) 1:=fU _ _
theorem se0:Part RT.se ((RT.int .i64).sl) (fun p=>p.1) 0:=kF _ _
theorem se1:Part RT.se ((RT.int .i64).sl) (fun p=>p.2.1) 1:=(fU ((RT.int .i64).sl) (RT.pair ((RT.int .i64).sl) ((RT.di).ptr))).trans (kF _ _)
theorem se2:Part RT.se ((RT.di).ptr) (fun p=>p.2.2) 2:=(fU ((RT.int .i64).sl) (RT.pair ((RT.int .i64).sl) ((RT.di).ptr))).trans (fU ((RT.int .i64).sl) ((RT.di).ptr))
abbrev Pa:=List Int×List Int×List (List UInt8)×List (List Po)
abbrev RT.pa:RT Pa:=RT.pair ((RT.int .i64).sl) (RT.pair ((RT.int .i64).sl) (RT.pair (RT.str.sl) (((RT.po).sl).sl)))
theorem pa0:Part RT.pa ((RT.int .i64).sl) (fun p=>p.1) 0:=kF _ _
theorem W4:Part RT.pa ((RT.int .i64).sl) (fun p=>p.2.1) 1:=(fU ((RT.int .i64).sl) (RT.pair ((RT.int .i64).sl) (RT.pair (RT.str.sl) (((RT.po).sl).sl)))).trans (kF _ _)
theorem pa2:Part RT.pa (RT.str.sl) (fun p=>p.2.2.1) 2:=((fU ((RT.int .i64).sl) (RT.pair ((RT.int .i64).sl) (RT.pair (RT.str.sl) (((RT.po).sl).sl)))).trans (fU ((RT.int .i64).sl) (RT.pair (RT.str.sl) (((RT.po).sl).sl)))).trans (kF _ _)
theorem pa3:Part RT.pa (((RT.po).sl).sl) (fun p=>p.2.2.2) 3:=((fU ((RT.int .i64).sl) (RT.pair ((RT.int .i64).sl) (RT.pair (RT.str.sl) (((RT.po).sl).sl)))).trans (fU ((RT.int .i64).sl) (RT.pair (RT.str.sl) (((RT.po).sl).sl)))).trans (fU _ _)
theorem W5 {M:aB} {w:World} {x:Se} {a b c:Value} (h0:((RT.int .i64).sl).V M w x.1 a) (h1:((RT.int .i64).sl).V M w x.2.1 b) (h2:cp RT.di M w c x.2.2):RT.se.V M w x (.agg [a,b,c].toArray):=
 ⟨[a,b,c],⟨[a],[b,c],rfl,kc h0 rfl rfl,[b],[c],rfl,kc h1 rfl rfl,kc (CZ.2 h2) rfl rfl⟩,rfl⟩
theorem W6 {M:aB} {w:World} {x:Pa} {a b c d:Value} (h0:((RT.int .i64).sl).V M w x.1 a) (h1:((RT.int .i64).sl).V M w x.2.1 b) (h2:(RT.str.sl).V M w x.2.2.1 c) (h3:(((RT.po).sl).sl).V M w x.2.2.2 d):RT.pa.V M w x (.agg [a,b,c,d].toArray):=
 ⟨[a,b,c,d],⟨[a],[b,c,d],rfl,kc h0 rfl rfl,[b],[c,d],rfl,kc h1 rfl rfl,[c],[d],rfl,kc h2 rfl rfl,kc h3 rfl rfl⟩,rfl⟩
theorem BK {α:Type} {A:RT α} (hg:A.agg=true) {M:aB} {w:World} {x:α} {vs:List Value} (h:A.V M w x (.agg vs.toArray)):∀u∈vs,u.oneCell'=true:=by
 obtain⟨us,h1,h2⟩:=h
 have:vs=us:=by
  unfold RT.val at h2;rw[if_pos hg]at h2;injection h2 with h2
  simpa using congrArg Array.toList h2
 subst this;exact A.one h1
theorem eA.free {α:Type} {A:RT α} (hA:∀M w M' w' x vs,A.R M w x vs→A.R M' w' x vs) {M M':aB} {w w':World}:∀{xs:List α} {C:List Value},eA A M w xs C→eA A M' w' xs C
 |[],_,h=>h
 |x::xs,C,h=>by
  obtain⟨vs,r,h1,h2,h3⟩:=h;exact⟨vs,r,h1,hA _ _ _ _ _ _ h2,eA.free hA h3⟩
theorem Own.tell {α:Type} {A:RT α} {hn:0<A.n} (hA:∀M w M' w' x vs,A.R M w x vs→A.R M' w' x vs) {e:TypeId} {M M0:aB} {w:World} {base:Nat} {v:Value} {xs:List α} (h:Own A e M w base v xs) (hb:∀b,v.ownBlock=some b→¬M0 b) (hlen:xs.length≤140737488355328):(A.sl hn).V M0 w xs v:=by
 obtain⟨⟨C,hr,ha⟩,hm⟩:=h;have h':Own A e (fun b=>v.ownBlock=some b∨M0 b) w base v xs:=⟨⟨C,hr,eA.free hA ha⟩,fun b hb=> .inl hb⟩;exact h'.sl (fun b _ hn=>⟨fun h=>hn (.inr h),rfl⟩) hb hlen
end Go.K
namespace Go.K
open Go.Maps (Keyed)
section
variable {P:Program} {r:Option Nat} {n:Nat} {L:Sl} {ds:List Deferred} {w:World} {K:Kt} {ops:Array Oper} {rest:List Oper} {d:Nat} {x y z:Operand} {ty:TypeId} {pos:String} {af:Array Edge}
variable {kt:TypeId} {M:aB} {b clock:Nat} {es:List MapEntry}
theorem eF.Nl (h:eF P kt w b es clock) {i s:Nat} {key v0 val:Value} (hi:es[i]? =some ⟨key,v0,s⟩) {w':World} (hw:w'.heap[b]? =some (.map (es.set i ⟨key,val,s⟩).toArray clock)):
  eF P kt w' b (es.set i ⟨key,val,s⟩) clock∧(es.set i ⟨key,val,s⟩).map (·.key)=es.map (·.key)∧∀zv gF v',dF zv (es.set i ⟨key,val,s⟩) gF v'↔(gF=key∧v'=val)∨(gF≠key∧dF zv es gF v'):=by
 have mN:=(av.1 hi).1;have lQ:(⟨key,v0,s⟩:MapEntry)∈es:=aI hi;obtain⟨mH,qt⟩:∃mH,mH=es.set i ⟨key,val,s⟩:=⟨_,rfl⟩;rw[←qt]at hw ⊢
 have gh:∀j e',mH[j]? =some e'→(j=i∧e'=⟨key,val,s⟩)∨(j≠i∧es[j]? =some e'):=fun j e' hj=>by
  rw[qt,dJ]at hj
  split at hj
  ·rename_i gv
   left;exact⟨gv.symm,by simpa[mN]using hj.symm⟩
  ·rename_i gv
   exact .inr ⟨fun e=>gv e.symm,hj⟩
 have mI:mH.map (·.key)=es.map (·.key):=by
  rw[qt,List.map_set];apply kC;intro j;rw[dJ]
  split
  ·rename_i gv
   subst gv;have e:=(av.1 hi).2;simp[mN,e]
  ·rfl
 have Gb:mH.map (·.born)=es.map (·.born):=by
  rw[qt,List.map_set];apply kC;intro j;rw[dJ]
  split
  ·rename_i gv
   subst gv;have e:=(av.1 hi).2;simp[mN,e]
  ·rfl
 have ej:∀e'∈mH,(e'=⟨key,val,s⟩)∨(e'∈es∧e'.key≠key):=fun e' nG=>by
  obtain⟨j,hj⟩:=bF.1 nG;rcases gh j e' hj with⟨_,e⟩|⟨eI,qi⟩
  ·exact .inl e
  ·refine .inr ⟨aI qi,fun e=>eI ?_⟩;rcases ir j i with h1|h1|h1
   ·exact absurd e (fT h.keys qi hi h1)
   ·exact h1
   ·exact absurd e.symm (fT h.keys hi qi h1)
 have Gc:(⟨key,val,s⟩:MapEntry)∈mH:=aI (i:=i) (by rw[qt,dJ];simp[mN])
 have hold:∀e'∈es,e'.key≠key→e'∈mH:=fun e' nG eI=>by
  obtain⟨j,hj⟩:=bF.1 nG;refine aI (i:=j) ?_;rw[qt,dJ,if_neg]
  ·exact hj
  ·rintro rfl;rw[hi]at hj;cases hj;exact eI rfl
 refine⟨⟨hw,?_,fun e' nG=>?_,?_,fun e' nG=>?_⟩,mI,fun zv gF v'=>?_⟩
 ·have:=dv.2 h.born;rw[←Gb]at this;exact dv.1 this
 ·rcases ej e' nG with e|⟨h1,_⟩
  ·rw[e];exact(h.lt _ lQ:s<clock)
  ·exact h.lt _ h1
 ·have:=dv.2 h.keys;rw[←mI]at this;exact dv.1 this
 ·rcases ej e' nG with e|⟨h1,_⟩
  ·rw[e];exact(h.ok _ lQ:∃l,keyOf P kt key=some l)
  ·exact h.ok _ h1
 ·constructor
  ·rintro(⟨e',nG,hk,hv⟩|⟨h1,h2⟩)
   ·rcases ej e' nG with e|⟨h3,h4⟩
    ·subst e;exact .inl ⟨hk.symm,hv⟩
    ·exact .inr ⟨by rw[←hk];exact h4,.inl ⟨e',h3,hk,hv⟩⟩
   ·have eI:gF≠key:=fun e=>h1 _ Gc e.symm
    exact .inr ⟨eI,.inr ⟨fun e' nG=>fun e=>by
     by_cases h5:e'.key=key
     ·exact eI (e.symm.trans h5)
     ·exact h1 e' (hold e' nG h5) e,h2⟩⟩
  ·rintro(⟨rfl,rfl⟩|⟨eI,⟨e',nG,hk,hv⟩|⟨h1,h2⟩⟩)
   ·exact .inl ⟨_,Gc,rfl,rfl⟩
   ·exact .inl ⟨e',hold e' nG (by rw[hk];exact eI),hk,hv⟩
   ·exact .inr ⟨fun e' nG=>by
     rcases ej e' nG with e|⟨h3,_⟩
     ·rw[e];exact fun e=>eI e.symm
     ·exact h1 e' h3,h2⟩
theorem dF.put {key val:Value} {s:Nat} (hn:∀e∈es,e.key≠key) (zv gF v':Value):dF zv (es++[⟨key,val,s⟩]) gF v'↔(gF=key∧v'=val)∨(gF≠key∧dF zv es gF v'):=by
 constructor
 ·rintro(⟨e,he,hk,hv⟩|⟨h1,h2⟩)
  ·rcases cY.1 he with he|he
   ·exact .inr ⟨by rw[←hk];exact hn e he,.inl ⟨e,he,hk,hv⟩⟩
   ·obtain rfl:=cw.1 he;exact .inl ⟨hk.symm,hv⟩
  ·exact .inr ⟨fun e=>h1 ⟨key,val,s⟩ (by simp) e.symm,.inr ⟨fun e he=>h1 e (kW _ he),h2⟩⟩
 ·rintro(⟨rfl,rfl⟩|⟨eI,⟨e,he,hk,hv⟩|⟨h1,h2⟩⟩)
  ·exact .inl ⟨⟨_,_,s⟩,by simp,rfl,rfl⟩
  ·exact .inl ⟨e,kW _ he,hk,hv⟩
  ·refine .inr ⟨fun e he=>?_,h2⟩;rcases cY.1 he with he|he
   ·exact h1 e he
   ·obtain rfl:=cw.1 he;exact fun e=>eI e.symm
theorem Rg.Jw {t e:TypeId} {key val:Value} {kl:Lit} (ht:P.underlying t=some (.map kt e)) (Kk:Keyed P kt) (hx:ev L x=some (.map (some b))) (hy:ev L y=some key) (hz:ev L z=some val) (jE:keyOf P kt key=some kl) (h:eF P kt w b es clock) (hm:M b)
  (k:∀w' mH By,eF P kt w' b mH By→((mH.map (·.key)=es.map (·.key)∧∃e∈es,e.key=key)∨(mH.map (·.key)=es.map (·.key)++[key]∧∀e∈es,e.key≠key))→(∀zv gF v',dF zv mH gF v'↔(gF=key∧v'=val)∨(gF≠key∧dF zv es gF v'))→Step M w M w' (fun k=>k=b)→Rg P r n ops rest L ds w' K):
  Rg P r n ops ({dst:=none,op:= .mapUpdate t x y z,type:=ty,pos,after:=af,guard:=none}::rest) L ds w K:=by
 have dC:=ak h.at_;rcases Kk.find w jE es h.ok with⟨h1,h2⟩|⟨j,e0,h1,h2,h3⟩
 ·have hw:({w with heap:=w.heap.setIfInBounds b (.map (es.toArray.push ⟨key,val,clock⟩) (clock+1))}:World).heap[b]? =some (.map (es++([⟨key,val,clock⟩]:List MapEntry)).toArray (clock+1)):=by
   simp[cT,dC]
  refine .Pp (fun _ h=>by cases h) rfl rfl _ (fun ρ hρ=>?_) (k _ _ _ (h.push jE h2 hw) (Or.inr ⟨by simp,h2⟩) (dF.put h2) (gC M hm));simp only[execOp,hρ x _ hx,hρ y _ hy,hρ z _ hz,Instr.mapUpdate,db,run_underlying ht,dw,dm h.at_,Kk.check w false jE,h1,run_setObj_map h.at_];simp
 ·have he:e0∈es:=aI h2;obtain⟨k0,v0,s0⟩:=e0;simp only at h3;subst h3;have hj:es.toArray[j]? =some ⟨k0,v0,s0⟩:=by simpa using h2
  have Ga:es.toArray.modify j (fun e=>{e with key:=k0,val:=val})=(es.set j ⟨k0,val,s0⟩).toArray:=by
   apply Array.ext_getElem?;intro i;rw[pY];simp only[fJ,dJ]
   split
   ·rename_i Q9
    subst Q9;have:=(av.1 h2).1;rw[h2];simp[this]
   ·rfl
  have hw:({w with heap:=w.heap.setIfInBounds b (.map (es.set j ⟨k0,val,s0⟩).toArray clock)}:World).heap[b]? =some (.map (es.set j ⟨k0,val,s0⟩).toArray clock):=by simp[cT,dC]
  obtain⟨hW,p6,k7⟩:=h.Nl h2 hw
  have iK:(Instr.keyThatStays ((Option.map (fun(e:MapEntry)=>e.key) es.toArray[j]?).getD k0) k0).run P w= .ok k0 w:=by
   rw[hj];simp only[dN,Option.getD_some];exact Kk.stays w jE
  refine .Pp (fun _ h=>by cases h) rfl rfl _ (fun ρ hρ=>?_) (k _ _ clock hW (Or.inl ⟨p6,_,he,rfl⟩) k7 (gC M hm));simp only[execOp,hρ x _ hx,hρ y _ hy,hρ z _ hz,Instr.mapUpdate,db,run_underlying ht,dw,dm h.at_,Kk.check w false jE,h1,iK,Ga,run_setObj_map h.at_];simp
theorem zV {t e:TypeId} {zv key:Value} {size bytes:Nat} {kl:Lit} (ht:P.underlying t=some (.map kt e)) (Kk:Keyed P kt) (hi:TI P e zv size bytes) (jE:keyOf P kt key=some kl) (h:eF P kt w b es clock):
  ∃v,dF zv es key v∧∀(w:World) (ρ:Operand→Value) (dst:Option Tmp) (gd:Option (Nat×Bool)),ρ x= .map (some b)→ρ y=key→eF P kt w b es clock→(execOp ρ {dst,op:= .lookup t x y false,type:=ty,pos,after:=af,guard:=gd}).run P w= .ok (.value v) w:=by
 rcases Kk.find w jE es h.ok with⟨h1,h2⟩|⟨j,e0,h1,h2,h3⟩
 ·refine⟨zv,Or.inr ⟨h2,rfl⟩,fun w ρ dst gd hx hy h=>?_⟩;obtain⟨inf,i1,i2,_,_⟩:=hi.get;have hz:(zeroValue e).run P w= .ok zv w:=by simp[zeroValue,typeInfo,i1,i2]
  rcases Kk.find w jE es h.ok with⟨h1,_⟩|⟨j,e0,_,g2,g3⟩
  ·simp only[execOp,hx,hy,Instr.lookup,db,run_underlying ht,dw,dm h.at_,Sem.run_pure,Kk.check w _ jE,h1,hz];simp
  ·exact absurd g3 (h2 e0 (aI g2))
 ·refine⟨e0.val,Or.inl ⟨e0,aI h2,h3,rfl⟩,fun w ρ dst gd hx hy h=>?_⟩;rcases Kk.find w jE es h.ok with⟨_,g2⟩|⟨j',e1,g1,g2,g3⟩
  ·exact absurd h3 (g2 e0 (aI h2))
  ·have:e1=e0:=h.CQ (aI g2) (aI h2) (g3.trans h3.symm);subst this;simp only[execOp,hx,hy,Instr.lookup,db,run_underlying ht,dw,dm h.at_,Sem.run_pure,Kk.check w _ jE,g1];simp
theorem cd.pH {N:aB} {t e:TypeId} {zv key:Value} {size bytes:Nat} {kl:Lit} {dst:Option Tmp} {gd:Option (Nat×Bool)} (ht:P.underlying t=some (.map kt e)) (Kk:Keyed P kt) (hi:TI P e zv size bytes) (hx:ev L x=some (.map (some b))) (hy:ev L y=some key) (jE:keyOf P kt key=some kl) (h:eF P kt w b es clock) (hn: ¬N b):
  cd P N w L {dst,op:= .lookup t x y false,type:=ty,pos,after:=af,guard:=gd}:=fun ρ hρ v w' hk hr=>by
 obtain⟨v0,_,gg⟩:=zV (x:=x) (y:=y) (ty:=ty) (pos:=pos) (af:=af) ht Kk hi jE h;have h':eF P kt w' b es clock:=⟨(hk.2 b (ak h.at_) hn).trans h.at_,h.born,h.lt,h.keys,h.ok⟩;rw[gg w ρ dst gd (hρ x _ hx) (hρ y _ hy) h]at hr;rw[gg w' ρ dst gd (hρ x _ hx) (hρ y _ hy) h'];injection hr with h1 h2
 rw[h1]
end
end Go.K
namespace Go.Proofs
open Go.Shelf
def Tryz.wF:Go.Shelf.Ren:=⟨fun|7=>62|10=>114|n=>n,fun|23=>100|26=>3|3=>109|28=>116|0=>0|27=>115|33=>158|4=>4|n=>n,fun|n=>n⟩
theorem Tryz.Rp:Go.Proofs.SlLaysZI.n7 Tryz.prog Tryz.wF:={
 mixed:=by kernel_rfl
 f7:=⟨Tryz.f62.name,by decide,Tryz.func62.trans (congrArg some (by kernel_rfl))⟩
 f10:=⟨Tryz.f114.name,by decide,Tryz.func114.trans (congrArg some (by kernel_rfl))⟩
 t0:=gV
 a0:=rV
 z0:=oB
 v0:=iU
 t4:=gX
 a4:=Tryz.isAgg4
 z4:=Tryz.sizeOf4
 v4:=o7
 t23:=Tryz.underlying100
 a23:=Tryz.isAgg100
 z23:=Tryz.sizeOf100
 v23:=Tryz.zeroValue100
 t26:=ar
 a26:=rW
 z26:=oC
 v26:=iV
 t27:=Tryz.underlying115
 a27:=Tryz.isAgg115
 z27:=Tryz.sizeOf115
 v27:=Tryz.zeroValue115
 t28:=Tryz.underlying116
 a28:=Tryz.isAgg116
 z28:=Tryz.sizeOf116
 v28:=Tryz.zeroValue116
 t33:=Tryz.underlying158
 a33:=Tryz.isAgg158
 z33:=Tryz.sizeOf158
 v33:=Tryz.zeroValue158}
def Tryz.qY:Go.Shelf.Ren:=⟨fun|6=>61|8=>71|9=>113|11=>121|13=>166|12=>165|23=>210|24=>211|14=>202|15=>203|16=>204|17=>205|18=>206|19=>207|20=>118|21=>208|22=>209|25=>245|26=>246|27=>247|28=>248|29=>249|30=>168|31=>273|n=>n,fun|26=>3|28=>116|24=>32|0=>0|3=>3|37=>183|48=>273|50=>165|4=>4|40=>267|39=>266|45=>121|5=>5|9=>9|51=>295|55=>299|57=>327|58=>305|33=>158|n=>n,fun|n=>n⟩
theorem Tryz.Jy:Go.Proofs.SlLaysZI.n6 Tryz.prog Tryz.qY:={
 mixed:=by kernel_rfl
 f6:=⟨Tryz.f61.name,by decide,Tryz.func61.trans (congrArg some (by kernel_rfl))⟩
 f8:=⟨Tryz.f71.name,by decide,Tryz.func71.trans (congrArg some (by kernel_rfl))⟩
 f11:=⟨Tryz.f121.name,by decide,Tryz.func121.trans (congrArg some (by kernel_rfl))⟩
 t0:=gV
 a0:=rV
 z0:=oB
 v0:=iU
 t24:=au
 a24:=Tryz.isAgg32
 z24:=Tryz.sizeOf32
 v24:=Tryz.zeroValue32
 t26:=ar
 a26:=rW
 z26:=oC
 v26:=iV
 t28:=Tryz.underlying116
 a28:=Tryz.isAgg116
 z28:=Tryz.sizeOf116
 v28:=Tryz.zeroValue116
 i26:=by kernel_rfl}
def Tryz.DY:Go.Shelf.Ren:=⟨fun|5=>113|8=>166|7=>165|19=>210|20=>211|10=>202|11=>203|12=>204|13=>205|14=>206|15=>207|16=>118|17=>208|18=>209|30=>245|31=>246|32=>247|33=>248|34=>249|35=>168|40=>273|n=>n,fun|23=>32|25=>3|3=>3|32=>183|22=>32|0=>0|44=>273|46=>165|4=>4|36=>267|35=>266|41=>121|5=>5|9=>9|53=>295|57=>299|63=>327|64=>305|n=>n,fun|n=>n⟩
theorem Tryz.K2:Go.Proofs.SlLaysM.n5 Tryz.prog Tryz.DY:={
 mixed:=by kernel_rfl
 f5:=⟨Tryz.f113.name,by decide,Tryz.func113.trans (congrArg some (by kernel_rfl))⟩
 f7:=⟨Tryz.f165.name,by decide,Tryz.func165.trans (congrArg some (by kernel_rfl))⟩
 f8:=Tryz.func166.trans (congrArg some (by kernel_rfl))
 f10:=⟨Tryz.f202.name,by decide,Tryz.func202.trans (congrArg some (by kernel_rfl))⟩
 f11:=⟨Tryz.f203.name,by decide,Tryz.func203.trans (congrArg some (by kernel_rfl))⟩
 f12:=⟨Tryz.f204.name,by decide,Tryz.func204.trans (congrArg some (by kernel_rfl))⟩
 f13:=⟨Tryz.f205.name,by decide,Tryz.func205.trans (congrArg some (by kernel_rfl))⟩
 f14:=⟨Tryz.f206.name,by decide,Tryz.func206.trans (congrArg some (by kernel_rfl))⟩
 f15:=⟨Tryz.f207.name,by decide,Tryz.func207.trans (congrArg some (by kernel_rfl))⟩
 f16:=⟨Tryz.f118.name,by decide,Tryz.func118.trans (congrArg some (by kernel_rfl))⟩
 f17:=⟨Tryz.f208.name,by decide,Tryz.func208.trans (congrArg some (by kernel_rfl))⟩
 f18:=⟨Tryz.f209.name,by decide,Tryz.func209.trans (congrArg some (by kernel_rfl))⟩
 f19:=Tryz.func210.trans (congrArg some (by kernel_rfl))
 f20:=Tryz.func211.trans (congrArg some (by kernel_rfl))
 f30:=⟨Tryz.f245.name,by decide,Tryz.func245.trans (congrArg some (by kernel_rfl))⟩
 f31:=Tryz.func246.trans (congrArg some (by kernel_rfl))
 f32:=Tryz.func247.trans (congrArg some (by kernel_rfl))
 f33:=⟨Tryz.f248.name,by decide,Tryz.func248.trans (congrArg some (by kernel_rfl))⟩
 f34:=⟨Tryz.f249.name,by decide,Tryz.func249.trans (congrArg some (by kernel_rfl))⟩
 f35:=⟨Tryz.f168.name,by decide,Tryz.func168.trans (congrArg some (by kernel_rfl))⟩
 f40:=⟨Tryz.f273.name,by decide,Tryz.func273.trans (congrArg some (by kernel_rfl))⟩
 t0:=gV
 a0:=rV
 z0:=oB
 v0:=iU
 t3:=ar
 a3:=rW
 z3:=oC
 v3:=iV
 t4:=gX
 a4:=Tryz.isAgg4
 z4:=Tryz.sizeOf4
 v4:=o7
 t5:=cf
 a5:=Tryz.isAgg5
 z5:=Tryz.sizeOf5
 v5:=Tryz.zeroValue5
 t9:=aC
 a9:=rX
 z9:=oD
 v9:=iW
 t22:=au
 a22:=Tryz.isAgg32
 z22:=Tryz.sizeOf32
 v22:=Tryz.zeroValue32
 t23:=au
 a23:=Tryz.isAgg32
 z23:=Tryz.sizeOf32
 v23:=Tryz.zeroValue32
 t25:=ar
 a25:=rW
 z25:=oC
 v25:=iV
 t32:=Tryz.underlying183
 a32:=Tryz.isAgg183
 z32:=Tryz.sizeOf183
 v32:=Tryz.zeroValue183
 t35:=Tryz.underlying266
 a35:=Tryz.isAgg266
 z35:=Tryz.sizeOf266
 v35:=Tryz.zeroValue266
 t36:=Tryz.underlying267
 a36:=Tryz.isAgg267
 z36:=Tryz.sizeOf267
 v36:=Tryz.zeroValue267
 t41:=Tryz.underlying121
 a41:=Tryz.isAgg121
 z41:=Tryz.sizeOf121
 v41:=Tryz.zeroValue121
 t44:=Tryz.underlying273
 a44:=Tryz.isAgg273
 z44:=Tryz.sizeOf273
 v44:=Tryz.zeroValue273
 t46:=jW
 a46:=Tryz.isAgg165
 z46:=Tryz.sizeOf165
 v46:=Tryz.zeroValue165
 t53:=Tryz.underlying295
 a53:=Tryz.isAgg295
 z53:=Tryz.sizeOf295
 v53:=Tryz.zeroValue295
 t57:=Tryz.underlying299
 a57:=Tryz.isAgg299
 z57:=Tryz.sizeOf299
 v57:=Tryz.zeroValue299
 t63:=Tryz.underlying327
 a63:=Tryz.isAgg327
 z63:=Tryz.sizeOf327
 v63:=Tryz.zeroValue327
 t64:=Tryz.underlying305
 a64:=Tryz.isAgg305
 z64:=Tryz.sizeOf305
 v64:=Tryz.zeroValue305}
def Tryz.wG:Go.Shelf.Ren:=⟨fun|7=>112|10=>164|n=>n,fun|23=>167|26=>9|3=>107|28=>178|0=>0|27=>177|33=>182|4=>4|n=>n,fun|n=>n⟩
theorem Tryz.C0:Go.Proofs.SlLaysZ.n7 Tryz.prog Tryz.wG:={
 mixed:=by kernel_rfl
 f7:=⟨Tryz.f112.name,by decide,Tryz.func112.trans (congrArg some (by kernel_rfl))⟩
 f10:=⟨Tryz.f164.name,by decide,Tryz.func164.trans (congrArg some (by kernel_rfl))⟩
 t0:=gV
 a0:=rV
 z0:=oB
 v0:=iU
 t4:=gX
 a4:=Tryz.isAgg4
 z4:=Tryz.sizeOf4
 v4:=o7
 t23:=fZ
 a23:=Tryz.isAgg167
 z23:=Tryz.sizeOf167
 v23:=Tryz.zeroValue167
 t26:=aC
 a26:=rX
 z26:=oD
 v26:=iW
 t27:=Tryz.underlying177
 a27:=Tryz.isAgg177
 z27:=Tryz.sizeOf177
 v27:=Tryz.zeroValue177
 t28:=Tryz.underlying178
 a28:=Tryz.isAgg178
 z28:=Tryz.sizeOf178
 v28:=Tryz.zeroValue178
 t33:=Tryz.underlying182
 a33:=Tryz.isAgg182
 z33:=Tryz.sizeOf182
 v33:=Tryz.zeroValue182}
def Tryz.qZ:Go.Shelf.Ren:=⟨fun|6=>111|8=>162|9=>163|11=>200|13=>166|12=>201|23=>210|24=>211|14=>236|15=>237|16=>238|17=>239|18=>240|19=>241|20=>242|21=>243|22=>244|25=>269|26=>246|27=>247|28=>270|29=>271|30=>272|31=>284|n=>n,fun|26=>9|28=>178|24=>55|0=>0|3=>3|37=>183|48=>273|50=>165|4=>4|40=>267|39=>266|45=>121|5=>5|9=>9|51=>295|55=>299|57=>327|58=>305|33=>182|n=>n,fun|n=>n⟩
theorem Tryz.Jz:Go.Proofs.SlLaysZ.n6 Tryz.prog Tryz.qZ:={
 mixed:=by kernel_rfl
 f6:=⟨Tryz.f111.name,by decide,Tryz.func111.trans (congrArg some (by kernel_rfl))⟩
 f8:=⟨Tryz.f162.name,by decide,Tryz.func162.trans (congrArg some (by kernel_rfl))⟩
 f11:=⟨Tryz.f200.name,by decide,Tryz.func200.trans (congrArg some (by kernel_rfl))⟩
 t0:=gV
 a0:=rV
 z0:=oB
 v0:=iU
 t24:=a8
 a24:=Tryz.isAgg55
 z24:=Tryz.sizeOf55
 v24:=Tryz.zeroValue55
 t26:=aC
 a26:=rX
 z26:=oD
 v26:=iW
 t28:=Tryz.underlying178
 a28:=Tryz.isAgg178
 z28:=Tryz.sizeOf178
 v28:=Tryz.zeroValue178
 i26:=by kernel_rfl}
def Tryz.DZ:Go.Shelf.Ren:=⟨fun|6=>163|8=>166|9=>201|19=>210|20=>211|21=>236|22=>237|23=>238|24=>239|25=>240|26=>241|27=>242|28=>243|29=>244|36=>269|31=>246|32=>247|37=>270|38=>271|39=>272|41=>284|n=>n,fun|27=>55|29=>9|3=>3|32=>183|26=>55|0=>0|44=>273|46=>165|4=>4|36=>267|35=>266|41=>121|5=>5|9=>9|53=>295|57=>299|63=>327|64=>305|n=>n,fun|n=>n⟩
theorem Tryz.K3:Go.Proofs.SlLaysM.n6 Tryz.prog Tryz.DZ:={
 mixed:=by kernel_rfl
 f6:=⟨Tryz.f163.name,by decide,Tryz.func163.trans (congrArg some (by kernel_rfl))⟩
 f8:=Tryz.func166.trans (congrArg some (by kernel_rfl))
 f9:=⟨Tryz.f201.name,by decide,Tryz.func201.trans (congrArg some (by kernel_rfl))⟩
 f19:=Tryz.func210.trans (congrArg some (by kernel_rfl))
 f20:=Tryz.func211.trans (congrArg some (by kernel_rfl))
 f21:=⟨Tryz.f236.name,by decide,Tryz.func236.trans (congrArg some (by kernel_rfl))⟩
 f22:=⟨Tryz.f237.name,by decide,Tryz.func237.trans (congrArg some (by kernel_rfl))⟩
 f23:=⟨Tryz.f238.name,by decide,Tryz.func238.trans (congrArg some (by kernel_rfl))⟩
 f24:=⟨Tryz.f239.name,by decide,Tryz.func239.trans (congrArg some (by kernel_rfl))⟩
 f25:=⟨Tryz.f240.name,by decide,Tryz.func240.trans (congrArg some (by kernel_rfl))⟩
 f26:=⟨Tryz.f241.name,by decide,Tryz.func241.trans (congrArg some (by kernel_rfl))⟩
 f27:=⟨Tryz.f242.name,by decide,Tryz.func242.trans (congrArg some (by kernel_rfl))⟩
 f28:=⟨Tryz.f243.name,by decide,Tryz.func243.trans (congrArg some (by kernel_rfl))⟩
 f29:=⟨Tryz.f244.name,by decide,Tryz.func244.trans (congrArg some (by kernel_rfl))⟩
 f31:=Tryz.func246.trans (congrArg some (by kernel_rfl))
 f32:=Tryz.func247.trans (congrArg some (by kernel_rfl))
 f36:=⟨Tryz.f269.name,by decide,Tryz.func269.trans (congrArg some (by kernel_rfl))⟩
 f37:=⟨Tryz.f270.name,by decide,Tryz.func270.trans (congrArg some (by kernel_rfl))⟩
 f38:=⟨Tryz.f271.name,by decide,Tryz.func271.trans (congrArg some (by kernel_rfl))⟩
 f39:=⟨Tryz.f272.name,by decide,Tryz.func272.trans (congrArg some (by kernel_rfl))⟩
 f41:=⟨Tryz.f284.name,by decide,Tryz.func284.trans (congrArg some (by kernel_rfl))⟩
 t0:=gV
 a0:=rV
 z0:=oB
 v0:=iU
 t3:=ar
 a3:=rW
 z3:=oC
 v3:=iV
 t4:=gX
 a4:=Tryz.isAgg4
 z4:=Tryz.sizeOf4
 v4:=o7
 t5:=cf
 a5:=Tryz.isAgg5
 z5:=Tryz.sizeOf5
 v5:=Tryz.zeroValue5
 t9:=aC
 a9:=rX
 z9:=oD
 v9:=iW
 t26:=a8
 a26:=Tryz.isAgg55
 z26:=Tryz.sizeOf55
 v26:=Tryz.zeroValue55
 t27:=a8
 a27:=Tryz.isAgg55
 z27:=Tryz.sizeOf55
 v27:=Tryz.zeroValue55
 t29:=aC
 a29:=rX
 z29:=oD
 v29:=iW
 t32:=Tryz.underlying183
 a32:=Tryz.isAgg183
 z32:=Tryz.sizeOf183
 v32:=Tryz.zeroValue183
 t35:=Tryz.underlying266
 a35:=Tryz.isAgg266
 z35:=Tryz.sizeOf266
 v35:=Tryz.zeroValue266
 t36:=Tryz.underlying267
 a36:=Tryz.isAgg267
 z36:=Tryz.sizeOf267
 v36:=Tryz.zeroValue267
 t41:=Tryz.underlying121
 a41:=Tryz.isAgg121
 z41:=Tryz.sizeOf121
 v41:=Tryz.zeroValue121
 t44:=Tryz.underlying273
 a44:=Tryz.isAgg273
 z44:=Tryz.sizeOf273
 v44:=Tryz.zeroValue273
 t46:=jW
 a46:=Tryz.isAgg165
 z46:=Tryz.sizeOf165
 v46:=Tryz.zeroValue165
 t53:=Tryz.underlying295
 a53:=Tryz.isAgg295
 z53:=Tryz.sizeOf295
 v53:=Tryz.zeroValue295
 t57:=Tryz.underlying299
 a57:=Tryz.isAgg299
 z57:=Tryz.sizeOf299
 v57:=Tryz.zeroValue299
 t63:=Tryz.underlying327
 a63:=Tryz.isAgg327
 z63:=Tryz.sizeOf327
 v63:=Tryz.zeroValue327
 t64:=Tryz.underlying305
 a64:=Tryz.isAgg305
 z64:=Tryz.sizeOf305
 v64:=Tryz.zeroValue305}
end Go.Proofs
namespace Go.K
open Go.Proofs
set_option maxRecDepth 10000
open Go.RowKit Go.Maps Go.Sort Go.Shelf
theorem Nn (m:Nat):AnyZI.SortsIn Tryz.prog Tryz.qY Fence.wide m:=
 ⟨fun jj off cap ss W hH hblk jg=>callsIn_wide.2 (AnyM.slices_Sort_int Tryz.K2 jj off cap ss W hH hblk jg),
  fun p cap W=>callsIn_wide.2 (AnyM.slices_Sort_int_none Tryz.K2 p cap W)⟩
theorem JA {R:Value→Option (DU×List MemPlace)} {M:aB} {w:World} {b bb:Nat} {m:List (Lit×DU)} (h:Me Tryz.prog 3 R M w b m) (K4:w.cell? ⟨bb,0,none⟩=some (.map (some b))) (hl:m.length≤1099511627776):
  Spec Tryz.prog 61 #[.func (.func 114) #[] #[.pointer (some ⟨bb,0,none⟩)]] w (fun v w'=>(∃ss:List Int,ss.Perm (intKeys (DataW.map m))∧w'.ownsRow w.heap.size 3 1 v ss.length ((ss.mergeSort (fun x y=>decide (x≤y))).map encZ)∧(v= .slice none 0 0↔ss=[]))∧Step M w M w' aA):=by
 have No:SeqGives Fence.wide 2 Tryz.prog 114 #[.pointer (some ⟨bb,0,none⟩)] encZ (fun ss=>ss.Perm (intKeys (DataW.map m))) (Maps.size (DataW.map m)) w:=
  AnyZI.keys_gives (ρ:=Tryz.wF) {Tryz.Rp with} Fence.wide _ trivial rfl (by omega) bb b m.length (DataW.map m) _ (World.block_lt_of_cell? w _ K4) K4 h.own
 have jg:Maps.size (DataW.map m)=m.length:=rfl;have cS:=AnyZI.sorted_in Tryz.Jy Fence.wide 5 trivial trivial trivial trivial rfl (by omega) (Nn _) (enters_of Tryz.func113 (by kernel_rfl) rfl) 114 #[.pointer (some ⟨bb,0,none⟩)] trivial (enters_of Tryz.func114 (by kernel_rfl) rfl) _ _ (by rw[jg];unfold maxLen;omega) (by rw[jg];omega) _ No;exact(callsIn_wide (n:=5)).1 (cS.mono fun e w' ⟨v,ss,h1,h2,h3,h4,h5⟩=>⟨v,h1,⟨ss,h2,h3,h4⟩,.sU h5 M⟩)
theorem Np (m:Nat):AnyZ.SortsIn Tryz.prog Tryz.qZ Fence.wide m:=
 ⟨fun jj off cap ss W hH hblk jg=>callsIn_wide.2 (AnyM.slices_Sort_string Tryz.K3 jj off cap ss W hH hblk jg),
  fun p cap W=>callsIn_wide.2 (AnyM.slices_Sort_string_none Tryz.K3 p cap W)⟩
theorem BL (mb:Option Nat) (w:World):Spec Tryz.prog 112 #[.map mb] w (fun v w'=>v= .func (.func 164) #[] #[.pointer (some ⟨w.heap.size,0,none⟩)]∧w'=w.alloc (.cells #[.map mb] 167)):=
 (callsIn_wide (n:=5)).1 ((AnyZ.keys_in Tryz.C0 Fence.wide 5 trivial rfl mb w).mono fun e w' ⟨h1,h2⟩=>⟨_,h1,rfl,h2⟩)
theorem yd {R:Value→Option (DU×List MemPlace)} {M:aB} {w:World} {b bb:Nat} {m:List (Lit×DU)} (h:Me Tryz.prog 9 R M w b m) (K4:w.cell? ⟨bb,0,none⟩=some (.map (some b))) (hl:m.length≤1099511627776):
  Spec Tryz.prog 111 #[.func (.func 164) #[] #[.pointer (some ⟨bb,0,none⟩)]] w (fun v w'=>(∃ss:List (List UInt8),ss.Perm (strKeys (DataW.map m))∧w'.ownsRow w.heap.size 9 1 v ss.length ((ss.mergeSort (fun x y=>decide (x≤y))).map encStr)∧(v= .slice none 0 0↔ss=[]))∧Step M w M w' aA):=by
 have No:SeqGives Fence.wide 2 Tryz.prog 164 #[.pointer (some ⟨bb,0,none⟩)] encStr (fun ss=>ss.Perm (strKeys (DataW.map m))) (Maps.size (DataW.map m)) w:=
  AnyZ.keys_gives (ρ:=Tryz.wG) {Tryz.C0 with} Fence.wide _ trivial rfl (by omega) bb b m.length (DataW.map m) _ (World.block_lt_of_cell? w _ K4) K4 h.own
 have jg:Maps.size (DataW.map m)=m.length:=rfl;have cS:=AnyZ.sorted_in Tryz.Jz Fence.wide 5 trivial trivial trivial trivial rfl (by omega) (Np _) (enters_of Tryz.func163 (by kernel_rfl) rfl) 164 #[.pointer (some ⟨bb,0,none⟩)] trivial (enters_of Tryz.func164 (by kernel_rfl) rfl) _ _ (by rw[jg];unfold maxLen;omega) (by rw[jg];omega) _ No;exact(callsIn_wide (n:=5)).1 (cS.mono fun e w' ⟨v,ss,h1,h2,h3,h4,h5⟩=>⟨v,h1,⟨ss,h2,h3,h4⟩,.sU h5 M⟩)
theorem vg {w w':World} {v:Value} {t:TypeId} (h:w'=w.alloc (.cells #[v] t)):w'.cell? ⟨w.heap.size,0,none⟩=some v:=by
 subst h;exact gH (cz w _) rfl
end Go.K
namespace Go.K
open Go.Proofs
set_option maxRecDepth 10000
theorem JB {M:aB} {w0:World} {v:Value} {b:List Fd} (hM:Lt M w0) (hv:(RT.fd.sl).V M w0 b v) (AX:b.length≤1099511627776):
  Spec Tryz.prog 199 #[v] w0 (fun v' w'=>(RT.fd.sl).V M w' b v'∧Step M w0 M w' aA):=by
 obtain⟨a,cap,vh,hc,hl,hs⟩:=gY.1 hv;refine aZ (args:=[_]) (fn:=Tryz.f199) Tryz.func199 rfl (n:=8) Tryz.ntmps199 (aj (ah (ai rfl rfl (ad (aj (aj (ah (ae rfl rfl (bz (v':= .slice a b.length cap) vh (Rg.rL aP rfl rfl rfl (ad ?_)))))))))));refine bH rfl (fun c1=>?_) (fun c1=>?_)
 ·refine aj (ah (ai rfl rfl (ad (aL ?_))))
  have hb:b=[]:=by
   rcases hs with h|⟨_,_,h,_⟩
   ·exact h
   ·rw[c1]at h;cases h
  exact aO rfl rfl ⟨by rw[hb];exact jG,an _ _⟩
 ·refine aS (aj (ah ?_));refine Rg.TX aP gQ M rfl (fun a0 w1 s1=>?_);refine ae rfl rfl ?_;refine Rg.nS (A:=RT.fd) (hn:=by decide) (M:=M) aP gQ rfl rfl rfl rfl hv s1.le (s1.lt hM) (by omega) (fun u2 w2 rv s2=>?_);refine ai rfl rfl (ad (aL ?_));exact aO rfl rfl ⟨rv,s1.ax s2⟩
theorem tM {M:aB} {w0:World} {v:Value} {b:List Int} (hM:Lt M w0) (hv:((RT.int .i64).sl).V M w0 b v) (AX:b.length≤1099511627776):
  Spec Tryz.prog 63 #[v] w0 (fun v' w'=>((RT.int .i64).sl).V M w' b v'∧Step M w0 M w' aA):=by
 obtain⟨a,cap,vh,hc,hl,hs⟩:=gY.1 hv;refine aZ (args:=[_]) (fn:=Tryz.f63) Tryz.func63 rfl (n:=8) Tryz.ntmps63 (aj (ah (ai rfl rfl (ad (aj (aj (ah (ae rfl rfl (bz (v':= .slice a b.length cap) vh (Rg.rL au rfl rfl rfl (ad ?_)))))))))));refine bH rfl (fun c1=>?_) (fun c1=>?_)
 ·refine aj (ah (ai rfl rfl (ad (aL ?_))))
  have hb:b=[]:=by
   rcases hs with h|⟨_,_,h,_⟩
   ·exact h
   ·rw[c1]at h;cases h
  exact aO rfl rfl ⟨by rw[hb];exact jG,an _ _⟩
 ·refine aS (aj (ah ?_));refine Rg.TX au I3 M rfl (fun a0 w1 s1=>?_);refine ae rfl rfl ?_;refine Rg.nS (A:=(RT.int .i64)) (hn:=by decide) (M:=M) au I3 rfl rfl rfl rfl hv s1.le (s1.lt hM) (by omega) (fun u2 w2 rv s2=>?_);refine ai rfl rfl (ad (aL ?_));exact aO rfl rfl ⟨rv,s1.ax s2⟩
theorem Gx {M:aB} {w0:World} {v:Value} {b:List (List UInt8)} (hM:Lt M w0) (hv:(RT.str.sl).V M w0 b v) (AX:b.length≤1099511627776):
  Spec Tryz.prog 177 #[v] w0 (fun v' w'=>(RT.str.sl).V M w' b v'∧Step M w0 M w' aA):=by
 obtain⟨a,cap,vh,hc,hl,hs⟩:=gY.1 hv;refine aZ (args:=[_]) (fn:=Tryz.f177) Tryz.func177 rfl (n:=8) Tryz.ntmps177 (aj (ah (ai rfl rfl (ad (aj (aj (ah (ae rfl rfl (bz (v':= .slice a b.length cap) vh (Rg.rL a8 rfl rfl rfl (ad ?_)))))))))));refine bH rfl (fun c1=>?_) (fun c1=>?_)
 ·refine aj (ah (ai rfl rfl (ad (aL ?_))))
  have hb:b=[]:=by
   rcases hs with h|⟨_,_,h,_⟩
   ·exact h
   ·rw[c1]at h;cases h
  exact aO rfl rfl ⟨by rw[hb];exact jG,an _ _⟩
 ·refine aS (aj (ah ?_));refine Rg.TX a8 I9 M rfl (fun a0 w1 s1=>?_);refine ae rfl rfl ?_;refine Rg.nS (A:=RT.str) (hn:=by decide) (M:=M) a8 I9 rfl rfl rfl rfl hv s1.le (s1.lt hM) (by omega) (fun u2 w2 rv s2=>?_);refine ai rfl rfl (ad (aL ?_));exact aO rfl rfl ⟨rv,s1.ax s2⟩
theorem JC {M:aB} {w0:World} {v:Value} {b:List Li} (hM:Lt M w0) (hv:(((RT.li).ptr).sl).V M w0 b v) (AX:b.length≤1099511627776):
  Spec Tryz.prog 178 #[v] w0 (fun v' w'=>(((RT.li).ptr).sl).V M w' b v'∧Step M w0 M w' aA):=by
 obtain⟨a,cap,vh,hc,hl,hs⟩:=gY.1 hv;refine aZ (args:=[_]) (fn:=Tryz.f178) Tryz.func178 rfl (n:=8) Tryz.ntmps178 (aj (ah (ai rfl rfl (ad (aj (aj (ah (ae rfl rfl (bz (v':= .slice a b.length cap) vh (Rg.rL dO rfl rfl rfl (ad ?_)))))))))));refine bH rfl (fun c1=>?_) (fun c1=>?_)
 ·refine aj (ah (ai rfl rfl (ad (aL ?_))))
  have hb:b=[]:=by
   rcases hs with h|⟨_,_,h,_⟩
   ·exact h
   ·rw[c1]at h;cases h
  exact aO rfl rfl ⟨by rw[hb];exact jG,an _ _⟩
 ·refine aS (aj (ah ?_));refine Rg.TX dO oN M rfl (fun a0 w1 s1=>?_);refine ae rfl rfl ?_;refine Rg.nS (A:=((RT.li).ptr)) (hn:=by decide) (M:=M) dO oN rfl rfl rfl rfl hv s1.le (s1.lt hM) (by omega) (fun u2 w2 rv s2=>?_);refine ai rfl rfl (ad (aL ?_));exact aO rfl rfl ⟨rv,s1.ax s2⟩
theorem zW {M:aB} {d:Dc} {v0:Value} (w0:World) (hM:Lt M w0) (hv:RT.dc.V M w0 d v0) (hl:d.2.length≤1099511627776):
  Spec Tryz.prog 160 #[v0] w0 (fun v w=>RT.dc.V M w d v∧Step M w0 M w aA):=by
 have iL:=hM;refine aZ (args:=[_]) (fn:=Tryz.f160) Tryz.func160 rfl (n:=9) Tryz.ntmps160 ?_;have S:Step M w0 M w0 aA:=(an _ _).ca (fun _ h=>h.elim) (fun _ h=>h.elim);refine aj (ah ?_);refine gx (A:=RT.dc) rfl rfl hM hv rfl (fun u0 w1 cv s0 _=>?_);replace hM:=s0.lt hM;have:=S.size;replace S:=S.ax s0;refine fh M kE rfl (fun me Bv MS MT eQ k8=>?_);obtain⟨eg,kj⟩:∃M',M'=ins M me:=⟨_,rfl⟩;rw[←kj]at k8;have dV:eg me:=by rw[kj];exact .inl rfl
 change Bv.heap[me]? =some (.cells #[.int .i64 0,.slice none 0 0] _ _)at eQ;replace cv:=cv.le (by decide) k8.le;replace hM:=k8.lt hM;have:=S.size;replace S:=S.ax k8;refine ad (aj ?_);apply T.ni 4 [0,1] 1 aA mixed rfl rfl rfl rfl;intro FB I1;have kH:=I1 eg;have:=ak eQ;replace dV:=(kH.mem _ this).2 dV;replace eQ:=kH.aM eQ;replace cv:=cv.le (by decide) kH.le;replace hM:=kH.lt hM;have:=S.size;replace S:=S.ax kH;refine aF (M:=eg) (A:=RT.dc) (B:=RT.int .i64) aK rfl rfl I3 (by decide) (QN) rfl rfl (by decide) (by assumption) (by repeat (first|exact ao _ _|refine aT (bj (by assumption)) ?_)) (fun uP jI=>?_);refine ad ⟨rfl,rfl,rfl,?_⟩;refine bV (M:=eg) ar rfl rfl (by assumption) (by repeat (first|exact ao _ _|refine aT (bj (by assumption)) ?_)) (fun KR=>?_);refine ad ⟨rfl,rfl,rfl,?_⟩;refine aF (M:=eg) (A:=RT.dc) (B:=(RT.fd).sl) aK rfl rfl o3 (by decide) (AW) rfl rfl (by decide) (by assumption) (by repeat (first|exact ao _ _|refine aT (bj (by assumption)) ?_)) (fun JD tN=>?_);refine ad ⟨rfl,rfl,rfl,?_⟩;refine bY (M:=eg) aP rfl rfl rfl rfl rfl (by assumption) (by repeat (first|exact ao _ _|refine aT (bj (by assumption)) ?_)) (fun Rq Gy=>?_);refine ad ⟨rfl,rfl,rfl,?_⟩;refine fa ?_;obtain⟨bb,oo,cs,ee,fr,rfl,lz,_⟩:=jI.float;refine⟨iM ⟨mA aK rfl I3 (by decide),⟨gw rfl lz (fun h=>h),trivial⟩⟩,?_⟩;have kp:=kG aA FB;refine aQ rfl rfl Vx (JB hM Gy hl) (fun v4 w4 hc=>?_);obtain⟨qq,s4⟩:=hc;have:=ak eQ;replace dV:=(s4.mem _ this).2 dV;replace eQ:=s4.aM eQ;replace cv:=cv.le (by decide) s4.le;replace hM:=s4.lt hM;have:=S.size;replace S:=S.ax s4;refine(fun(kp:eB _ _ _)=>ad ⟨rfl,rfl,fun _=>kp,?_⟩) (by first|exact kp|exact kp.rA (by assumption)|exact kp.goN (by assumption)|exact kp.go (by assumption) (fun _ _ h=>by first|exact h|exact h.elim))
 refine dU (places:=[(0,1),(1,1)]) aK kE PZ rfl ⟨_,_,rfl,rfl,_,_,rfl,rfl,rfl⟩ (out:=[_,_]) ⟨0,[_],rfl,rfl,by simp[Value.cells],1,[_],rfl,iB qq,by simp[Value.cells],rfl⟩ ?_;refine ad ⟨rfl,rfl,fun h=>absurd rfl h,?_⟩;have hd:RT.dc.V eg w4 d (.agg [.int .i64 d.1,v4].toArray):=ef (fW KR) qq rfl rfl rfl rfl;refine fo (M:=eg) (vs:=[.int .i64 d.1,v4]) kE rfl rfl (BK rfl hd) rfl rfl eQ dV (fun w6 g6 s6=>?_);have:=ak eQ;replace dV:=(s6.mem _ this).2 dV;replace cv:=cv.le (by decide) s6.le;replace qq:=qq.le s6.le;replace hd:=hd.le s6.le;replace hM:=s6.lt hM;have:=S.size;replace S:=S.trans s6 (fun k hk h=>by have h:_=_:=h;subst h;first|(exfalso;omega)|(show _≤_;omega)|exact⟨by first|omega|assumption,(S.mem _ hk).1 ((s6.mem _ (ak eQ)).1 dV)⟩|exact .inl rfl|exact .inr rfl|exact .inr (.inl rfl)|exact .inr (.inr rfl)|exact rfl);have zX:=g6;clear eQ;have eQ:=zX;clear zX;refine ad ⟨rfl,rfl,fun h=>absurd rfl h,?_⟩;refine qG (aL ?_);exact xz (vs:=[.int .i64 d.1,v4]) rfl rfl aK rfl kE rfl eQ ⟨hd.le (Le.close iL S),S.back⟩
theorem Gz {M:aB} {e:En} {v0:Value} (w0:World) (hM:Lt M w0) (hv:RT.en.V M w0 e v0) (hl:e.1.2.length≤1099511627776):
  Spec Tryz.prog 109 #[v0] w0 (fun v w=>RT.en.V M w e v∧Step M w0 M w aA):=by
 have iL:=hM;refine aZ (args:=[_]) (fn:=Tryz.f109) Tryz.func109 rfl (n:=9) Tryz.ntmps109 ?_;have S:Step M w0 M w0 aA:=(an _ _).ca (fun _ h=>h.elim) (fun _ h=>h.elim);refine aj (ah ?_);refine gx (A:=RT.en) rfl rfl hM hv rfl (fun u0 w1 cv s0 _=>?_);replace hM:=s0.lt hM;have:=S.size;replace S:=S.ax s0;refine fh M uD rfl (fun me Bv MS MT eQ k8=>?_);obtain⟨eg,kj⟩:∃M',M'=ins M me:=⟨_,rfl⟩;rw[←kj]at k8;have dV:eg me:=by rw[kj];exact .inl rfl
 change Bv.heap[me]? =some (.cells #[.int .i64 0,.slice none 0 0,.int .i64 0] _ _)at eQ;replace cv:=cv.le (by decide) k8.le;replace hM:=k8.lt hM;have:=S.size;replace S:=S.ax k8;refine ad (aj ?_);apply T.Kz [0,1,3,4,2,5,6] 4 [2,3] 1 aA mixed
 ·simp+decide only[xu,rB,fj,List.map_nil,List.getD_cons_zero,List.getD_cons_succ,List.map_toArray,dN,rU,List.idxOf_cons,cond_true,cond_false,Nat.reduceBEq,Nat.reduceAdd,beq_self_eq_true];rfl
 ·rfl
 ·rfl
 ·rfl
 ·rfl
 ·rfl
 ·rfl
 intro FB I1;have kH:=I1 eg;have:=ak eQ;replace dV:=(kH.mem _ this).2 dV;replace eQ:=kH.aM eQ;replace cv:=cv.le (by decide) kH.le;replace hM:=kH.lt hM;have:=S.size;replace S:=S.ax kH;refine aF (M:=eg) (A:=RT.en) (B:=RT.dc) cn rfl rfl kE (by decide) O1 rfl rfl (by decide) cv (ao _ _) (fun uP jI=>?_);refine ad ⟨rfl,rfl,rfl,?_⟩;refine b5 (M:=eg) (A:=RT.dc) aK rfl kE (by decide) rfl rfl rfl jI (ao _ _) (fun uQ kQ=>?_);refine ad ⟨rfl,rfl,rfl,?_⟩;refine aF (M:=eg) (A:=RT.en) (B:=RT.int .i64) cn rfl rfl I3 (by decide) O2 rfl rfl (by decide) cv (ao _ _) (fun JD tN=>?_);refine ad ⟨rfl,rfl,rfl,?_⟩;refine bV (M:=eg) ar rfl rfl (by assumption) (by repeat (first|exact ao _ _|refine aT (bj (by assumption)) ?_)) (fun GA=>?_);refine bz (v':= .int .i64 (e.2)) rfl ?_;replace GA: -9223372036854775808≤(e.2:Int)∧e.2≤9223372036854775807:=GA;refine ad ⟨rfl,rfl,rfl,?_⟩;refine fa ?_;obtain⟨bb,oo,cs,ee,fr,rfl,lz,_⟩:=tN.float;refine⟨iM ⟨mA cn rfl I3 (by decide),⟨gw rfl lz (fun h=>h),trivial⟩⟩,?_⟩;have kp:=kG aA FB;refine aQ rfl rfl Vm (zW _ hM kQ hl) (fun v4 w4 hc=>?_);obtain⟨qq,s4⟩:=hc;obtain⟨uf,rfl⟩:=xS qq;have:=ak eQ;replace dV:=(s4.mem _ this).2 dV;replace eQ:=s4.aM eQ;replace cv:=cv.le (by decide) s4.le;replace hM:=s4.lt hM;have:=S.size;replace S:=S.ax s4;refine(fun(kp:eB _ _ _)=>ad ⟨rfl,rfl,fun _=>kp,?_⟩) (by first|exact kp|exact kp.rA (by assumption)|exact kp.goN (by assumption)|exact kp.go (by assumption) (fun _ _ h=>by first|exact h|exact h.elim));refine dU (places:=[(0,2),(2,1)]) cn uD T0 rfl ⟨_,_,rfl,rfl,_,_,rfl,rfl,rfl⟩ (out:=[_,_,_]) ⟨0,[_,_],rfl,rfl,by simp[Value.cells],2,[_],rfl,rfl,by simp[Value.cells],rfl⟩ ?_
 refine ad ⟨rfl,rfl,fun h=>absurd rfl h,?_⟩;have hd:RT.en.V eg w4 e (.agg [.int .i64 e.1.1,uf,.int .i64 e.2].toArray):=CM (p:=e.1) qq GA;refine fo (M:=eg) (vs:=[.int .i64 e.1.1,uf,.int .i64 e.2]) uD rfl rfl (BK rfl hd) rfl rfl eQ dV (fun w6 g6 s6=>?_);have:=ak eQ;replace dV:=(s6.mem _ this).2 dV;replace cv:=cv.le (by decide) s6.le;replace qq:=qq.le s6.le;replace hd:=hd.le s6.le;replace hM:=s6.lt hM;have:=S.size;replace S:=S.trans s6 (fun k hk h=>by have h:_=_:=h;subst h;first|(exfalso;omega)|(show _≤_;omega)|exact⟨by first|omega|assumption,(S.mem _ hk).1 ((s6.mem _ (ak eQ)).1 dV)⟩|exact .inl rfl|exact .inr rfl|exact .inr (.inl rfl)|exact .inr (.inr rfl)|exact rfl);have zX:=g6;clear eQ;have eQ:=zX;clear zX;refine ad ⟨rfl,rfl,fun h=>absurd rfl h,?_⟩;refine qG (aL ?_);exact xz (vs:=[.int .i64 e.1.1,uf,.int .i64 e.2]) rfl rfl cn rfl uD rfl eQ ⟨hd.le (Le.close iL S),S.back⟩
end Go.K
namespace Go.K
open Go.Proofs
namespace TKBldB
theorem Rr:TI Tryz.prog 227 (.map none) 1 8:=by unfold TI;kernel_rfl
theorem W7:Enters Tryz.prog 155:=enters Tryz.func155 rfl (by decide)
theorem W8:Enters Tryz.prog 156:=enters Tryz.func156 rfl (by decide)
theorem W9:Enters Tryz.prog 157:=enters Tryz.func157 rfl (by decide)
end TKBldB
open TKBldB
set_option maxRecDepth 10000
theorem IJ.bh {bt mb B:Nat} {ts:List (Fd×Nat)} {M M':aB} {w w':World} (h:IJ bt mb B ts M w) (s:Step M w M' w' aA):IJ bt mb B ts M' w':=by
 obtain⟨gb,dA,dW,hB,CW,es,clock,hW,hI⟩:=h;exact⟨s.aM gb,(s.mem _ (ak gb)).2 dA,(s.mem _ (ak hW.at_)).2 dW,hB,CW,es,clock,hW.bh s,hI.bh s⟩
theorem GB {bt mb B:Nat}:Na Tryz.prog 155 [.pointer (some ⟨bt,0,none⟩)] B (IJ bt mb B):=
 ⟨W7,fun ts M w M' w' h s=>h.bh s,fun ts M w t i hJ hM h1 h2 hi h4=>DT w hM h1 h2 hi h4 hJ⟩
theorem GC (M:aB) (w:World) (B:Nat):DS M w B [] [] where
 o t v hv:=by
  rcases hv with⟨e,he,_⟩|⟨_,rfl⟩
  ·cases he
  ·exact dK _ _ _ _ _
 a t t' v v' _ hv _:=by
  rcases hv with⟨e,he,_⟩|⟨_,rfl⟩
  ·cases he
  ·exact(iS.nil v').symm
 k:=rfl
theorem zY:∀(ts:List (Fd×Nat)) (l:List Fd),(ts.foldl (fun l p=>if p.1∈l then l else l++[p.1]) l).length≤l.length+ts.length
 |[],l=>by simp
 |p::ts,l=>by
  rw[List.foldl_cons,cA];refine eK (zY ts _) ?_
  split
  ·omega
  ·rw[bP];simp;omega
theorem JE (M:aB) (w:World) (M':aB) (w':World) (x:Fd) (vs:List Value) (h:RT.fd.R M w x vs):RT.fd.R M' w' x vs:=h
theorem zZ {M:aB} {d:Dc} {v0:Value} (w0:World) (hM:Lt M w0) (hv:RT.dc.V M w0 d v0) (hF:gR d) (hl:∀f∈d.2,f.1.length≤900000∧f.2.length≤900000):
  Spec Tryz.prog 108 #[v0] w0 (fun v w=>∃a b,v= .tuple #[a,b]∧(RT.fd.sl).V M w (cJ (bX d.2)) a∧(((RT.int .i64).sl).sl).V M w ((cJ (bX d.2)).map (posOf (bX d.2))) b∧Step M w0 M w aA):=by
 have iL:=hM;have K5:=hF.many;refine aZ (args:=[_]) (fn:=Tryz.f108) Tryz.func108 rfl (n:=31) Tryz.ntmps108 ?_;have S:Step M w0 M w0 aA:=(an _ _).ca (fun _ h=>h.elim) (fun _ h=>h.elim);refine aj (ah ?_);refine gx (A:=RT.dc) rfl rfl hM hv rfl (fun u0 w1 cv s0 _=>?_);replace hM:=s0.lt hM;have:=S.size;replace S:=S.ax s0;refine ai rfl rfl (ai rfl rfl (ad (aj (ah ?_))));refine Rg.zF M jV rfl (fun mb w1m p1 q1 gW s1=>?_);obtain⟨Nq,GD⟩:∃M',M'=ins M mb:=⟨_,rfl⟩;rw[←GD]at s1;have ye:Nq mb:=by rw[GD];exact .inl rfl
 replace cv:=cv.le (by decide) s1.le;replace hM:=s1.lt hM;have:=S.size;replace S:=S.ax s1;refine fh Nq Rr rfl (fun D0 Jn aeP aeQ uV oV=>?_);obtain⟨GF,GG⟩:∃M',M'=ins Nq D0:=⟨_,rfl⟩;rw[←GG]at oV;have tO:GF D0:=by rw[GG];exact .inl rfl
 change Jn.heap[D0]? =some (.cells #[.map none] _ _)at uV;replace cv:=cv.le (by decide) oV.le;replace ye:=(oV.mem _ (ak gW.at_)).2 ye;replace gW:=gW.bh oV;replace hM:=oV.lt hM;have:=S.size;replace S:=S.ax oV;refine bS (M:=GF) Rr rfl rfl uV rfl (rfl) tO (fun Jm fR mS=>?_)
 try simp only[List.setIfInBounds_toArray,List.set_cons_zero,List.set_cons_succ]at fR
 have:=ak uV;replace tO:=(mS.mem _ this).2 tO;replace cv:=cv.le (by decide) mS.le;replace ye:=(mS.mem _ (ak gW.at_)).2 ye;replace gW:=gW.step mS (by show¬(_=_);omega);replace hM:=mS.lt hM;have:=S.size;replace S:=S.trans mS (fun k hk h=>by have h:_=_:=h;subst h;first|(exfalso;omega)|(show _≤_;omega)|exact⟨by first|omega|assumption,(S.mem _ hk).1 ((mS.mem _ (ak uV)).1 tO)⟩|exact .inl rfl|exact .inr rfl|exact .inr (.inl rfl)|exact .inr (.inr rfl)|exact rfl);have K6:=fR;clear uV;have uV:=K6;clear K6;refine ad (aj (ah ?_));refine b5 (M:=GF) (A:=RT.dc) aK rfl kE (by decide) rfl rfl rfl (by assumption) (by repeat (first|exact ao _ _|refine aT (bj (by assumption)) ?_)) (fun aeR C1=>?_);refine iw (xs:=[]) (ys:=[.tmp 4]) rfl rfl rfl ?_;refine aQ rfl rfl P3 (wk (cap:=[.pointer (some ⟨D0,0,none⟩)]) (B:=w0.heap.size) _ hM C1 hl hF.few (GB (mb:=mb)) ⟨uV,tO,ye,by omega,by omega,[],0,gW,GC _ _ _⟩) (fun r2 w2 hc=>?_);obtain⟨M2,KH,⟨gb,_,_,_,_,es,clock,hW,hI⟩,s2⟩:=hc;replace S:=S.j0 s2 (a7 _);have mU:∀t v,dF jc es (kv t) v→(((RT.int .i64).sl)).V M w2 (posOf (bX d.2) t) v:=fun t v h=>(hI.o t v h).close iL S (by have:=qv (bX d.2) t;omega)
 replace S:=S.back;replace hM:=S.lt iL
 have Rs:∀e∈es,∃t∈seen (bX d.2),e.key=kv t:=fun e he=>by
  have:e.key∈(seen (bX d.2)).map kv:=by rw[←hI.k];exact fu he
  obtain⟨t,h1,h2⟩:=bZ.1 this;exact⟨t,h1,h2.symm⟩
 have xl:∀t∈seen (bX d.2),EE t∧t.1.length≤12∧t.2.length≤30:=fun t ht=>by
  obtain⟨p,hp,rfl⟩:=bZ.1 (pN.1 ht);exact⟨hF.EF p hp,hF.small p hp⟩
 have oH:(seen (bX d.2)).length≤500:=eK (zY _ _) (by simp;omega);have so:es.length≤500:=by have:=congrArg List.length hI.k;simp at this;omega
 refine ad (aj (ah (aH jV rfl rfl rfl gb rfl ?_)));refine aQ rfl rfl W9 (BG _) (fun r3 w3 hc=>?_);obtain⟨bs,rfl,Gj,_,s3⟩:=hc;replace s3:=s3.toAny M;replace hW:=hW.bh s3;replace gb:=s3.aM gb;replace mU:=fun t v h=>(mU t v h).le s3.le
 replace hM:=s3.lt hM;have:=S.size;replace S:=S.ax s3
 refine aQ rfl rfl W8 (zL _ (fun e he=>by
  obtain⟨t,h1,h2⟩:=Rs e he;exact⟨t,h2,by have:=(xl t h1).2;omega,by have:=(xl t h1).2;omega⟩) (fun e he t ht=>by
  obtain⟨t',h1,h2⟩:=Rs e he;obtain rfl:=qu (ht.symm.trans h2);exact⟨(xl _ h1).1,by have:=(xl _ h1).2;omega,by have:=(xl _ h1).2;omega⟩) (by omega) (fun ts mZ lQ=>by
  have:=mZ.length_le_of_subset (l₂:=seen (bX d.2)) (fun t ht=>(pJ hI.k).1 (lQ t ht));omega) Gj hW) (fun r4 w4 hc=>?_)
 obtain⟨us,mZ,lQ,LQ,Ri,s4⟩:=hc;obtain rfl:=zP hF.EF mZ (fun t=>(lQ t).trans (pJ hI.k)) LQ;have Rh:(cJ (bX d.2)).length≤500:=eK (mZ.length_le_of_subset (l₂:=seen (bX d.2)) (fun t ht=>pN.2 ((gJ hF.EF).1 ht))) oH;replace s4:=s4.toAny M;have yz:(RT.fd.sl).V M w4 (cJ (bX d.2)) r4:=Ri.tell JE (fun b hb h=>by have:=(Ri.base b hb).1;have:=hM b h;omega) (by omega);clear Ri;replace hW:=hW.bh s4;replace gb:=s4.aM gb;replace mU:=fun t v h=>(mU t v h).le s4.le
 replace hM:=s4.lt hM;have:=S.size;replace S:=S.ax s4;refine ai rfl rfl (ad (aj (ah (ai rfl rfl (ad (aj (aj (ah (ae rfl rfl (bM iN rfl yz rfl (ae rfl rfl ?_)))))))))));refine ad (aY ?_);refine dr (σ:=Nat×Value) (fun q=>[(4,.pointer (some ⟨D0,0,none⟩)),(5,r4),(6,q.2),(16,r4),(17,.int .i64 ((cJ (bX d.2)).length:Int)),(18,.int .i64 (q.1:Int))]) (fun q w=>∃M',Lt M' w∧Step M w0 M' w aA∧Own ((RT.int .i64).sl) 32 M' w w0.heap.size q.2 (((cJ (bX d.2)).take q.1).map (posOf (bX d.2)))∧(RT.fd.sl).V M' w (cJ (bX d.2)) r4∧eF Tryz.prog 47 w mb es clock∧w.heap[D0]? =some (.cells #[.map (some mb)] 227 (0,0))∧(∀t v,dF jc es (kv t) v→(((RT.int .i64).sl)).V M' w (posOf (bX d.2) t) v)∧q.1≤(cJ (bX d.2)).length) (fun q=>(cJ (bX d.2)).length-q.1) (0,.slice none 0 0) (.cons rfl (.cons rfl (.cons rfl (.cons rfl (.cons rfl (.cons rfl .nil)))))) ?_ ?_
 ·exact⟨M,hM,S,dK _ _ _ _ _,yz,hW,gb,mU,bB _⟩
 ·clear hM yz hW gb mU S;rintro⟨i,u⟩ w ⟨M1,hM,S,ho,yz,hW,gb,mU,hi⟩;dsimp only at ho hi ⊢;refine aj (ah (b4 rfl rfl rfl (ad (aj ?_))));refine bH rfl (fun c6=>?_) (fun c6=>?_)
  ·refine aS (aj (aY (aj (ah ?_))));refine cK (M:=M1) iN o4 rfl rfl rfl yz (ao _ _) (by omega) (fun QT t Xa CP=>?_);rw[aw]at Xa;have IE:=aI Xa;have E4:=xl t (pN.2 ((gJ hF.EF).1 IE));refine b5 (M:=M1) (A:=RT.fd) bR rfl o4 (by decide) rfl rfl rfl CP (ao _ _) (fun Wy KN=>?_);refine mz (A:=RT.fd) (M:=M1) o4 rfl rfl rfl rfl rfl (by assumption) (ao _ _) hM (fun Rt Xb oy qy aeS=>?_);replace yz:=yz.le qy.le;replace ho:=ho.bh qy;replace hW:=hW.bh qy;replace gb:=qy.aM gb;replace mU:=fun t v h=>(mU t v h).le qy.le
   replace hM:=qy.lt hM;have:=S.size;replace S:=S.ax qy;refine ad (ah (ae rfl rfl (aH jV rfl rfl rfl gb rfl ?_)));refine b5 (M:=M1) (A:=RT.fd) bR rfl o4 (by decide) rfl rfl rfl oy (ao _ _) (fun aeT Ru=>?_);obtain rfl:=kh Ru;obtain⟨kl,Dq⟩:=Gf t (by omega) (by omega);refine Rg.pH jV wh nY rfl rfl rfl Dq hW (fun v8 vh=>?_);have C2:=mU _ _ vh;clear vh;refine eh (A:=((RT.int .i64).sl)) (hn:=by decide) (M:=M1) Tryz.underlying171 nY (by decide) rfl rfl hM (C2) (.inr ⟨rfl,rfl⟩) (fun aeU aeV GH Aa=>?_);replace yz:=yz.le Aa.le;replace oy:=oy.le (by decide) Aa.le;replace ho:=ho.bh Aa;replace hW:=hW.bh Aa;replace gb:=Aa.aM gb;replace mU:=fun t v h=>(mU t v h).le Aa.le
   replace hM:=Aa.lt hM;have:=S.size;replace S:=S.ax Aa;refine cR (M:=M1) (base:=w0.heap.size) Tryz.underlying171 nY rfl rfl rfl rfl ho GH (ao _ _) (by simp;omega) (by simp;omega) (S.size) (fun Xc Xd aeW Rv Ab=>?_);replace yz:=yz.le Ab.le;replace oy:=oy.le (by decide) Ab.le;replace GH:=GH.le Ab.le;replace hW:=hW.step Ab (fun h=>ho.jd hW.at_ h);replace gb:=Ab.bJ gb (fun h=>ho.eR gb (by decide) h);replace mU:=fun t v h=>(mU t v h).le Ab.le
   replace hM:=Ab.lt hM;have:=S.size;replace S:=S.dd Ab ho (a7 _);replace ho:=Rv;refine ai rfl rfl (ad (ah (bu rfl rfl rfl (by omega) (ae rfl rfl (ad ?_)))));refine⟨rfl,(i+1,Xc),(.cons rfl (.cons rfl (.cons rfl (.cons rfl (.cons rfl (.cons rfl .nil)))))),?_,?_⟩
   ·exact⟨Xd,hM,S,by rw[bN,Xa,ck,eL];exact ho,yz,hW,gb,mU,by dsimp only;omega⟩
   ·dsimp only;omega
  ·refine cG (aj (ah (ae rfl rfl (ae rfl rfl (ai rfl rfl (ai rfl rfl (ad (aL ?_))))))));have e:(cJ (bX d.2)).take i=cJ (bX d.2):=aW (by omega);rw[e]at ho;exact eN rfl rfl rfl ⟨_,_,rfl,yz.le (Le.close iL S),ho.close iL S (by simp;omega),S.back⟩
end Go.K
namespace Go.K
def K7 {α:Type} (A:RT α) (M:aB) (w:World) (v:Value) (x:α):Prop:=∃b o vs,v= .pointer (some ⟨b,o,none⟩)∧A.R M w x vs∧w.rangeAt b o vs
theorem Own.elem {α:Type} {A:RT α} {e:TypeId} {M:aB} {w:World} {base:Nat} {v:Value} {xs:List α} (h:Own A e M w base v xs) (hA:0<A.n) {i:Nat} {x:α} (hx:xs[i]? =some x):
  ∃g cap vs,v= .slice (some ⟨g,0,none⟩) xs.length cap∧M g∧A.R M w x vs∧w.rangeAt g (i*A.n) vs:=by
 obtain⟨⟨C,hr,ha⟩,hm⟩:=h;rcases hr.2 with⟨h1,h2⟩|⟨g,cap,cur,h1,h2,h3,h4,h5,h6,h7⟩
 ·have:xs=[]:=List.eq_nil_of_length_eq_zero h2;subst this;simp at hx
 ·obtain⟨vs,hv,hj⟩:=ha.at_ i x hx;refine⟨g,cap,vs,h1,hm g (by rw[h1];rfl),hv,fun j u hu=>?_⟩;have h8:=hj j u hu;rw[←h7,dG]at h8
  split at h8
  ·simp only[World.cell?,h3];simpa using h8
  ·cases h8
section
variable {P:Program} {r:Option Nat} {n:Nat} {L:Sl} {ds:List Deferred} {w:World} {K:Kt} {ops:Array Oper} {rest:List Oper} {d:Nat} {x y:Operand} {ty:TypeId} {pos:String} {af:Array Edge} {α:Type} {A:RT α}
theorem Rg.Xe {t e e':TypeId} {i:Operand} {κ:IntKind} {j:Int} {M:aB} {base:Nat} {xs:List α} {v zv:Value} {bytes:Nat} (ht:P.underlying t=some (.slice e)) (hi:TI P e zv A.n bytes) (hA:0<A.n)
  (hx:ev L x=some v) (EO:ev L i=some (.int κ j)) (hd:Nat.blt d n=true) (ho:Own A e' M w base v xs) (hj:0≤j∧j<xs.length)
  (k:∀u a,xs[j.toNat]? =some a→K7 A M w u a→Rg P r n ops rest ((d,u)::L) ds w K):
  Rg P r n ops ({dst:=some d,op:= .indexAddr t x i,type:=ty,pos,after:=af,guard:=none}::rest) L ds w K:=by
 have dC:j.toNat<xs.length:=by omega
 obtain⟨g,cap,vs,rfl,hm,h1,h2⟩:=ho.elem hA (aD dC);refine .op (fun _ h=>by cases h) rfl rfl hd (.pointer (some ⟨g,0+j.toNat*A.n,none⟩)) w (fun ρ h=>?_) (k _ xs[j.toNat] (aD dC) ⟨g,_,vs,rfl,h1,by rw[Nat.zero_add];exact h2⟩);simp only[execOp,h x _ hx,h i _ EO];simp[Instr.indexAt,run_underlying ht,asIntOf,hj,hi.sizeOf,Addr.add_mid]
theorem Rg.GI {t:TypeId} {fs:TypeDesc} {zv:Value} {bytes:Nat} {M:aB} {p:Value} {a:α} (hu:P.underlying t=some fs) (hf:fs.isRow=true) (hi:TI P t zv A.n bytes) (hg:A.agg=true)
  (hx:ev L x=some p) (hd:Nat.blt d n=true) (hp:K7 A M w p a) (k:∀v,A.V M w a v→Rg P r n ops rest ((d,v)::L) ds w K):
  Rg P r n ops ({dst:=some d,op:= .load t x,type:=ty,pos,after:=af,guard:=none}::rest) L ds w K:=by
 obtain⟨b,o,vs,rfl,h1,h2⟩:=hp;refine .op (fun _ h=>by cases h) rfl rfl hd (.agg vs.toArray) w (fun ρ h=>?_) (k _ ⟨vs,h1,by simp[RT.val,hg]⟩);simp only[execOp,h x _ hx];obtain⟨i,vH,_,AV,_⟩:=hi.get;have:=run_loadAt_mid (P:=P) w b o t vs fs h2 hu hf (by simp[vH,AV,A.len h1]);simp[this]
end
end Go.K
namespace Go.K
open Go.Proofs
namespace TKBldC
theorem Xf:TI Tryz.prog 169 (.agg #[(.slice none 0 0),(.map none),(.int .i64 0),(.int .i64 0)]) 4 48:=by unfold TI;kernel_rfl
theorem Xg:placesOf Tryz.prog 169=[(0,1),(1,1),(2,1),(3,1)].map some:=by kernel_rfl
end TKBldC
open TKBldC
set_option maxRecDepth 10000
open Go.Maps (Keyed)
theorem pP:Keyed Tryz.prog 9:=Go.Maps.string_keyed aC
theorem GK (k:List UInt8) (h:k.length≤140737488355328):∃l,keyOf Tryz.prog 9 (sv k)=some l:=by
 have e1:(⟨k.toArray⟩:ByteArray).size=k.length:=by simp[ByteArray.size]
 exact⟨_,Go.WideMaps.keyOf_string_mk aC (by rw[e1];unfold maxLen;omega)⟩
structure Ac (Z:aB) (M:aB) (w:World) (B:Nat) (f:List UInt8→List Po) (K:List UInt8→Prop) (es:List MapEntry):Prop where
 o:∀k v,dF jc es (sv k) v→Own RT.po 153 M w B v (f k)
 a:∀k k' v v',k≠k'→dF jc es (sv k) v→dF jc es (sv k') v'→iS v v'
 k:∀x,(∃e∈es,e.key=sv x)↔K x
 z:∀k v c,dF jc es (sv k) v→v.ownBlock=some c→Z c
theorem Ac.step {Z M M' N:aB} {w w':World} {B:Nat} {f:List UInt8→List Po} {K:List UInt8→Prop} {es:List MapEntry} (h:Ac Z M w B f K es) (s:Step M w M' w' N) (hn:∀k v b,dF jc es (sv k) v→v.ownBlock=some b→¬N b):Ac Z M' w' B f K es:=
 ⟨fun k v hv=>(h.o k v hv).step s fun b hb=>hn k v b hv hb,h.a,h.k,h.z⟩
theorem Ac.bh {Z M M':aB} {w w':World} {B:Nat} {f:List UInt8→List Po} {K:List UInt8→Prop} {es:List MapEntry} (h:Ac Z M w B f K es) (s:Step M w M' w' aA):Ac Z M' w' B f K es:=h.step s fun _ _ _ _ _ h=>h
theorem Ac.congr {Z M:aB} {w:World} {B:Nat} {f f':List UInt8→List Po} {K K':List UInt8→Prop} {es:List MapEntry} (h:Ac Z M w B f K es) (hf:∀k,f' k=f k) (hK:∀k,K' k↔K k):Ac Z M w B f' K' es:=
 ⟨fun k v hv=>by rw[hf];exact h.o k v hv,h.a,fun x=>(h.k x).trans (hK x).symm,h.z⟩
theorem Ac.D1 {Z Z' M:aB} {w:World} {B:Nat} {f:List UInt8→List Po} {K:List UInt8→Prop} {es:List MapEntry} (h:Ac Z M w B f K es) (hz:∀c,Z c→c<w.heap.size→Z' c):Ac Z' M w B f K es:=
 ⟨h.o,h.a,h.k,fun k v c hv hc=>hz c (h.z k v c hv hc) ((h.o k v hv).base c hc).2⟩
theorem Ac.put {Z M M2:aB} {w w1 w2:World} {B mb c:Nat} {mes:Array MapEntry} {f:List UInt8→List Po} {K:List UInt8→Prop} {es Nr:List MapEntry} {k0:List UInt8} {v0 v1:Value} {ps:List Po} (h:Ac Z M w B f K es) (hZ:∀c,w.heap.size≤c→Z c) (H8:dF jc es (sv k0) v0)
  (Uc:Own RT.po 153 (jA M v1) w1 B v1 (f k0++ps)) (s1:Step M w (jA M v1) w1 (jj v0)) (hF:∀b,v1.ownBlock=some b→w.heap.size≤b∨v0.ownBlock=some b) (hmb:w1.heap[mb]? =some (.map mes c)) (s2:Step (jA M v1) w1 M2 w2 (fun k=>k=mb))
  (zM:∀zv gF v',dF zv Nr gF v'↔(gF=sv k0∧v'=v1)∨(gF≠sv k0∧dF zv es gF v')) (mI:(Nr.map (·.key)=es.map (·.key)∧∃e∈es,e.key=sv k0)∨(Nr.map (·.key)=es.map (·.key)++[sv k0]∧∀e∈es,e.key≠sv k0)):
  Ac Z M2 w2 B (fun k=>if k=k0 then f k0++ps else f k) (fun x=>K x∨x=k0) Nr:=by
 have ox:∀k v,dF jc Nr (sv k) v→(k=k0∧v=v1)∨(k≠k0∧dF jc es (sv k) v):=fun k v hv=>by
  rcases(zM jc (sv k) v).1 hv with⟨h3,h4⟩|⟨h3,h4⟩
  ·exact .inl ⟨ya h3,h4⟩
  ·exact .inr ⟨fun e=>h3 (by rw[e]),h4⟩
 have Js:∀k v,k≠k0→dF jc es (sv k) v→iS v1 v:=fun k v eI hv=>(h.a k k0 v v0 eI hv H8).symm.grown hF (fun b hb=>((h.o k v hv).base b hb).2)
 have Jt:∀k v,k≠k0→dF jc es (sv k) v→Own RT.po 153 (jA M v1) w1 B v (f k):=fun k v eI hv=>(h.o k v hv).step s1 (fun b hb hk=>h.a k k0 v v0 eI hv H8 b hb hk)
 have Va:∀{v:Value} {xs:List Po},Own RT.po 153 (jA M v1) w1 B v xs→∀b,v.ownBlock=some b→¬b=mb:=fun ho b hb e=>ho.jd hmb (by rw[←e];exact hb)
 refine⟨fun k v hv=>?_,fun k k' v v' eI hv od=>?_,fun x=>?_,fun k v c hv hc=>?_⟩
 ·rcases ox k v hv with⟨rfl,rfl⟩|⟨h3,h4⟩
  ·rw[if_pos rfl];exact Uc.step s2 (Va Uc)
  ·rw[if_neg h3];exact(Jt k v h3 h4).step s2 (Va (Jt k v h3 h4))
 ·rcases ox k v hv with⟨rfl,rfl⟩|⟨h3,h4⟩
  ·rcases ox k' v' od with⟨rfl,_⟩|⟨h5,h6⟩
   ·exact absurd rfl eI
   ·exact Js k' v' h5 h6
  ·rcases ox k' v' od with⟨rfl,rfl⟩|⟨h5,h6⟩
   ·exact(Js k v h3 h4).symm
   ·exact h.a k k' v v' eI h4 h6
 ·have lQ:(∃e∈Nr,e.key=sv x)↔sv x∈Nr.map (·.key):=by simp
  have Xh:(∃e∈es,e.key=sv x)↔sv x∈es.map (·.key):=by simp
  rw[lQ,←h.k x,Xh];rcases mI with⟨h3,e,he,hk⟩|⟨h3,_⟩
  ·rw[h3];constructor
   ·exact .inl
   ·rintro(h4|rfl)
    ·exact h4
    ·rw[←hk];exact fu he
  ·rw[h3,cY,cw];constructor
   ·rintro(h4|h4)
    ·exact .inl h4
    ·exact .inr (ya h4)
   ·rintro(h4|rfl)
    ·exact .inl h4
    ·exact .inr rfl
 ·rcases ox k v hv with⟨rfl,rfl⟩|⟨h3,h4⟩
  ·rcases hF c hc with h5|h5
   ·exact hZ c h5
   ·exact h.z _ _ c H8 h5
  ·exact h.z k v c h4 hc
theorem JF (Z M:aB) (w:World) (B:Nat):Ac Z M w B (pk []) (fun x=>x∈gK []) [] where
 o k v hv:=by
  rcases hv with⟨e,he,_⟩|⟨_,rfl⟩
  ·cases he
  ·exact dK _ _ _ _ _
 a k k' v v' _ hv _:=by
  rcases hv with⟨e,he,_⟩|⟨_,rfl⟩
  ·cases he
  ·exact(iS.nil v').symm
 k x:=by simp[gK]
 z k v c hv hc:=by
  rcases hv with⟨e,he,_⟩|⟨_,rfl⟩
  ·cases he
  ·cases hc
structure Buf (Z M:aB) (w:World) (B b mb:Nat) (vl:Value) (L:List En) (words last:Int) (f:List UInt8→List Po) (K:List UInt8→Prop) (es:List MapEntry) (clock:Nat):Prop where
 at_:w.heap[b]? =some (.cells #[vl,.map (some mb),.int .i64 words,.int .i64 last] 169 (0,0))
 m:M b
 mm:M mb
 hb:Z b
 hmb:Z mb
 l:Own RT.en 43 M w B vl L
 map:eF Tryz.prog 9 w mb es clock
 rows:Ac Z M w B f K es
 zl:∀c,vl.ownBlock=some c→Z c
def lM (Z M:aB) (w:World) (B b:Nat) (L:List En) (words last:Int):Prop:=∃mb vl es clock,Buf Z M w B b mb vl L words last (pk L) (fun x=>x∈gK L) es clock
theorem lM.bh {Z M M':aB} {w w':World} {B b:Nat} {L:List En} {words last:Int} (h:lM Z M w B b L words last) (s:Step M w M' w' aA):lM Z M' w' B b L words last:=by
 obtain⟨mb,vl,es,clock,h1,h2,h3,h4,h5,h6,h7,h8,h9⟩:=h;exact⟨mb,vl,es,clock,s.aM h1,(s.mem _ (ak h1)).2 h2,(s.mem _ (ak h7.at_)).2 h3,h4,h5,h6.bh s,h7.bh s,h8.bh s,h9⟩
theorem lM.D1 {Z Z' M:aB} {w:World} {B b:Nat} {L:List En} {words last:Int} (h:lM Z M w B b L words last) (hz:∀c,Z c→c<w.heap.size→Z' c):lM Z' M w B b L words last:=by
 obtain⟨mb,vl,es,clock,h1,h2,h3,h4,h5,h6,h7,h8,h9⟩:=h;exact⟨mb,vl,es,clock,h1,h2,h3,hz _ h4 (ak h1),hz _ h5 (ak h7.at_),h6,h7,h8.D1 hz,fun c hc=>hz c (h9 c hc) (h6.base c hc).2⟩
theorem lM.step {Z M M' N:aB} {w w':World} {B b:Nat} {L:List En} {words last:Int} (h:lM Z M w B b L words last) (s:Step M w M' w' N) (hn:∀k,N k→¬Z k):lM Z M' w' B b L words last:=by
 obtain⟨mb,vl,es,clock,h1,h2,h3,h4,h5,h6,h7,h8,h9⟩:=h;exact⟨mb,vl,es,clock,s.bJ h1 (fun hk=>hn _ hk h4),(s.mem _ (ak h1)).2 h2,(s.mem _ (ak h7.at_)).2 h3,h4,h5,h6.step s (fun c hc hk=>hn _ hk (h9 c hc)),h7.step s (fun hk=>hn _ hk h5),h8.step s (fun k v c hv hc hk=>hn _ hk (h8.z k v c hv hc)),h9⟩
theorem lM.stepT {Z M M' N:aB} {w w':World} {B b:Nat} {L:List En} {words last:Int} (h:lM Z M w B b L words last) (s:Step M w M' w' N) (hn:∀k,N k→∃cs t,w.heap[k]? =some (.cells cs t (0,0))∧t≠169∧t≠43∧t≠153):lM Z M' w' B b L words last:=by
 obtain⟨mb,vl,es,clock,h1,h2,h3,h4,h5,h6,h7,h8,hz⟩:=h;refine⟨mb,vl,es,clock,s.bJ h1 (fun hk=>?_),(s.mem _ (ak h1)).2 h2,(s.mem _ (ak h7.at_)).2 h3,h4,h5,h6.step s (fun c hc hk=>?_),h7.step s (fun hk=>?_),h8.step s (fun k v c hv hc hk=>?_),hz⟩
 ·obtain⟨cs,t,h9,D2,_⟩:=hn _ hk;rw[h1]at h9;simp at h9;exact D2 h9.2.symm
 ·obtain⟨cs,t,h9,_,D2,_⟩:=hn _ hk;exact h6.eR h9 D2 hc
 ·obtain⟨cs,t,h9,_⟩:=hn _ hk;rw[h7.at_]at h9;cases h9
 ·obtain⟨cs,t,h9,_,_,D2⟩:=hn _ hk;exact(h8.o k v hv).eR h9 D2 hc
def GL (M Z:aB):aB:=fun k=>Z k∧M k
theorem dF.ex (zv:Value) (es:List MapEntry) (key:Value):∃v,dF zv es key v:=by
 by_cases h:∃e∈es,e.key=key
 ·obtain⟨e,he,hk⟩:=h;exact⟨e.val,.inl ⟨e,he,hk,rfl⟩⟩
 ·exact⟨zv,.inr ⟨fun e he hk=>h ⟨e,he,hk⟩,rfl⟩⟩
def jP (last:Int) (e:En):Int:=if kI e.1≠0 then kI e.1 else if e.2≤last then 12 else 0
def GM (L:List En) (tl:List (Fd×Nat)) (i:Nat) (k:List UInt8):List Po:=pk L k++(((cJ tl).take i).filter fun t=>decide (cL t=k)).map fun t=>((L.length:Int),posOf tl t)
theorem GN (L:List En) (tl:List (Fd×Nat)) (k:List UInt8):GM L tl 0 k=pk L k:=by simp[GM]
theorem GO {L:List En} {tl:List (Fd×Nat)} {i:Nat} {t:Fd} (h:(cJ tl)[i]? =some t) (k:List UInt8):GM L tl (i+1) k=if k=cL t then GM L tl i (cL t)++[((L.length:Int),posOf tl t)]else GM L tl i k:=by
 unfold GM;rw[bN,h,ck,List.filter_append,eL]
 split
 ·rename_i e;subst e;simp
 ·rename_i e
  have: ¬cL t=k:=fun h=>e h.symm
  simp[this]
theorem JG {L:List En} {e:En} {i:Nat} (h:(cJ (o6 e)).length≤i) (k:List UInt8):GM L (o6 e) i k=pk (L++[e]) k:=by
 unfold GM;rw[Jv,aW h];rfl
theorem JH {L:List En} (hF:∀x∈L,gR x.1) (tl:List (Fd×Nat)) (i:Nat) (k:List UInt8):(GM L tl i k).length≤L.length+(cJ tl).length:=by
 unfold GM;have h1:=(qw k L 0 hF).1;have h2:=List.length_filter_le (fun t=>decide (cL t=k)) ((cJ tl).take i);have h3:=List.length_take_le i (cJ tl);have h4:(pk L k).length≤L.length:=h1;simp only[bP,ch,bG]at*;omega
theorem wH {d:Dc} (hF:gR d):(cJ (bX d.2)).length≤500:=by
 have h1:=(pM hF.EF).nodup.length_le_of_subset (l₂:=(bX d.2).map (·.1)) (fun t ht=>(gJ hF.EF).1 ht);have:=hF.many;simp at h1;omega
theorem gR.term {d:Dc} (hF:gR d) {t:Fd} (h:t∈cJ (bX d.2)):t.1.length≤12∧t.2.length≤30:=by
 obtain⟨p,hp,rfl⟩:=bZ.1 ((gJ hF.EF).1 h);exact hF.small p hp
theorem GP {Z M:aB} {B:Nat} (w0:World) (hM:Lt M w0) (hB:B≤w0.heap.size) (hZ:∀k,w0.heap.size≤k→Z k):
  Spec Tryz.prog 56 #[] w0 (fun v w=>∃M' b,v= .pointer (some ⟨b,0,none⟩)∧Lt M' w∧lM Z M' w B b [] 0 (-1)∧Step M w0 M' w aA):=by
 refine aZ (args:=[]) (fn:=Tryz.f56) Tryz.func56 rfl (n:=4) Tryz.ntmps56 ?_;have S:Step M w0 M w0 aA:=(an _ _).ca (fun _ h=>h.elim) (fun _ h=>h.elim);refine aj (ah (ai rfl rfl (ad (aj (ah ?_)))));refine Rg.zF M fZ rfl (fun mb w1m p1 q1 gW s1=>?_);obtain⟨Nq,GD⟩:∃M',M'=ins M mb:=⟨_,rfl⟩;rw[←GD]at s1;have ye:Nq mb:=by rw[GD];exact .inl rfl
 replace hM:=s1.lt hM;have:=S.size;replace S:=S.ax s1;refine dU (places:=[(0,1),(1,1),(2,1),(3,1)]) dq Xf Xg rfl ⟨_,_,rfl,rfl,_,_,rfl,rfl,rfl⟩ (out:=[.slice none 0 0,_,.int .i64 0,_]) ⟨1,[_],rfl,rfl,by simp[Value.cells],3,[_],rfl,rfl,by simp[Value.cells],rfl⟩ ?_;refine o8 Nq rfl rfl (fun Nt Jm aeY aeZ fR mS=>?_);obtain⟨Rw,GQ⟩:∃M',M'=ins Nq Nt:=⟨_,rfl⟩;rw[←GQ]at mS;have Nu:Rw Nt:=by rw[GQ];exact .inl rfl
 change Jm.heap[Nt]? =some (.cells #[.slice none 0 0,.map (some mb),.int .i64 0,.int .i64 (-1)] _ _)at fR;replace ye:=(mS.mem _ (ak gW.at_)).2 ye;replace gW:=gW.bh mS;replace hM:=mS.lt hM;have:=S.size;replace S:=S.ax mS;refine ai rfl rfl (ad (aL ?_));exact aO rfl rfl ⟨_,_,rfl,hM,⟨mb,_,[],0,fR,Nu,ye,hZ _ (by omega),hZ _ (by omega),dK _ _ _ _ _,gW,JF _ _ _ _,fun c hc=>by cases hc⟩,S⟩
end Go.K
namespace Go.K
open Go.Proofs
namespace TKBldD
theorem Rx:TI Tryz.prog 37 (.slice none 0 0) 1 24:=by unfold TI;kernel_rfl
theorem jQ:TI Tryz.prog 107 (.slice none 0 0) 1 24:=by unfold TI;kernel_rfl
theorem BM:TI Tryz.prog 167 (.map none) 1 8:=by unfold TI;kernel_rfl
theorem Xi:Enters Tryz.prog 107:=enters Tryz.func107 rfl (by decide)
theorem Xj:Enters Tryz.prog 108:=enters Tryz.func108 rfl (by decide)
theorem Xk:Enters Tryz.prog 109:=enters Tryz.func109 rfl (by decide)
theorem Xl:Enters Tryz.prog 110:=enters Tryz.func110 rfl (by decide)
end TKBldD
open TKBldD
set_option maxRecDepth 10000
set_option maxHeartbeats 4000000 in
theorem GR {Z M:aB} {B b:Nat} {L:List En} {words last:Int} {e:En} {v0:Value} (w0:World) (hM:Lt M w0) (hZ:∀k,w0.heap.size≤k→Z k) (hb:lM Z M w0 B b L words last) (hBw:B≤w0.heap.size) (hv:RT.en.V M w0 e v0) (hl:∀f∈e.1.2,f.1.length≤900000∧f.2.length≤900000) (hLF:∀x∈L,gR x.1) (hLn:L.length≤1000000) (hw:0≤words∧words≤1000000000):
  Spec Tryz.prog 57 #[.pointer (some ⟨b,0,none⟩),v0] w0 (fun v w=>∃M',Lt M' w∧Step M w0 M' w (GL M Z)∧v= .int .i64 (jP last e)∧(jP last e≠0→lM Z M' w B b L words last)∧(jP last e=0→lM Z M' w B b (L++[e]) (words+((o6 e).length:Int)) e.2)):=by
 obtain⟨mb,vl,es,clock,gb,dA,dW,hB,CW,ho,hW,hR,zl⟩:=hb;have K1:b≠mb:=fun h=>by have:=hW.at_;rw[←h,gb]at this;cases this
 refine aZ (args:=[_,_]) (fn:=Tryz.f57) Tryz.func57 rfl (n:=89) Tryz.ntmps57 ?_;have S:Step M w0 M w0 (GL M Z):=(an _ _).ca (fun _ h=>h.elim) (fun _ h=>h.2);refine aj (ah ?_);refine gx (A:=RT.en) rfl rfl hM hv rfl (fun u0 w1 cv s0 _=>?_);have:=ak gb;replace dA:=(s0.mem _ this).2 dA;replace gb:=s0.aM gb;replace ho:=ho.bh s0;replace dW:=(s0.mem _ (ak hW.at_)).2 dW;replace hW:=hW.bh s0;replace hR:=hR.bh s0;replace hM:=s0.lt hM;have:=S.size;replace S:=S.ax s0;refine ai rfl rfl (ad (aj (aj (ah ?_))));refine aF (M:=M) (A:=RT.en) (B:=RT.dc) cn rfl rfl kE (by decide) O1 rfl rfl (by decide) cv (ao _ _) (fun uP jI=>?_);refine b5 (M:=M) (A:=RT.dc) aK rfl kE (by decide) rfl rfl rfl jI (ao _ _) (fun uQ kQ=>?_);refine aQ rfl rfl Xi (FN _ hM kQ hl) (fun r2 w2 hc=>?_);obtain⟨rfl,s2⟩:=hc;have:=ak gb;replace dA:=(s2.mem _ this).2 dA;replace gb:=s2.aM gb;replace cv:=cv.le (by decide) s2.le;replace ho:=ho.bh s2;replace dW:=(s2.mem _ (ak hW.at_)).2 dW;replace hW:=hW.bh s2;replace hR:=hR.bh s2;replace hM:=s2.lt hM;have:=S.size;replace S:=S.ax s2;refine ai rfl rfl (ad (aj (ah (ae rfl rfl (eW rfl rfl rfl (ad ?_))))));refine bH rfl (fun c2=>?_) (fun c2=>?_)
 ·refine aj (ah (ae rfl rfl (ai rfl rfl (ad (aL ?_)))));have ea:jP last e=kI e.1:=if_pos c2;exact aO rfl rfl ⟨_,hM,S,by rw[ea],fun _=>⟨mb,vl,es,clock,gb,dA,dW,hB,CW,ho,hW,hR,zl⟩,fun h=>absurd (ea▸h) c2⟩
 ·have hF:gR e.1:=yc (by simpa using c2);refine aS (aj (aj ?_));apply T.j7 mixed rfl rfl;intro wD4 sA4;have wI:=sA4 M;have:=ak gb;replace dA:=(wI.mem _ this).2 dA;replace gb:=wI.aM gb;replace cv:=cv.le (by decide) wI.le;replace ho:=ho.bh wI;replace dW:=(wI.mem _ (ak hW.at_)).2 dW;replace hW:=hW.bh wI;replace hR:=hR.bh wI;replace hM:=wI.lt hM;have:=S.size;replace S:=S.ax wI;refine aF (M:=M) (A:=RT.en) (B:=RT.int .i64) cn rfl rfl I3 (by decide) O2 rfl rfl (by decide) cv (ao _ _) (fun MG CO=>?_);refine ad ⟨rfl,rfl,rfl,?_⟩;refine bV (M:=M) ar rfl rfl (by assumption) (by repeat (first|exact ao _ _|refine aT (bj (by assumption)) ?_)) (fun K8=>?_);refine bz (v':= .int .i64 (e.2)) rfl ?_;replace K8: -9223372036854775808≤(e.2:Int)∧e.2≤9223372036854775807:=K8;refine ad ⟨rfl,rfl,rfl,?_⟩;refine ae rfl rfl ?_;refine ad ⟨rfl,rfl,rfl,?_⟩;refine aU rfl ⟨_,rfl⟩ rfl ?_;refine ad ⟨rfl,rfl,rfl,?_⟩;refine aV (o':=3) dq rfl rfl I3 (by decide) rfl rfl ?_;refine ad ⟨rfl,rfl,rfl,?_⟩;refine aH ar rfl rfl rfl (by first|assumption|exact cc wI (by assumption)) rfl ?_;refine ad ⟨rfl,rfl,rfl,?_⟩;refine eV rfl rfl rfl ?_;refine ad ⟨rfl,rfl,rfl,?_⟩;refine fa ?_;refine bH rfl (fun c4=>?_) (fun c4=>?_)
  ·refine aj (ah (ai rfl rfl (ad (aL ?_))));have ea:jP last e=12:=by unfold jP;rw[if_neg (fun h=>h (by simpa using c2)),if_pos c4]
   exact aO rfl rfl ⟨_,hM,S,by rw[ea],fun _=>⟨mb,vl,es,clock,gb,dA,dW,hB,CW,ho,hW,hR,zl⟩,fun h=>absurd (ea▸h) (by decide)⟩
  ·refine aS (aj (ah ?_));refine aF (M:=M) (A:=RT.en) (B:=RT.dc) cn rfl rfl kE (by decide) O1 rfl rfl (by decide) cv (ao _ _) (fun Q1 FZ=>?_);refine b5 (M:=M) (A:=RT.dc) aK rfl kE (by decide) rfl rfl rfl FZ (ao _ _) (fun MW tA=>?_);refine aQ rfl rfl Xj (zZ _ hM tA hF hl) (fun r6 w6 hc=>?_);obtain⟨a6,b6,rfl,ha,n4,s6⟩:=hc;have:=ak gb;replace dA:=(s6.mem _ this).2 dA;replace gb:=s6.aM gb;replace cv:=cv.le (by decide) s6.le;replace ho:=ho.bh s6;replace dW:=(s6.mem _ (ak hW.at_)).2 dW;replace hW:=hW.bh s6;replace hR:=hR.bh s6;replace hM:=s6.lt hM;have:=S.size;replace S:=S.ax s6;refine ae rfl rfl (bU rfl rfl rfl (bU rfl rfl rfl (ai rfl rfl (ai rfl rfl (ad (aj (aj (ah (ae rfl rfl (bM iN rfl ha rfl (ae rfl rfl ?_)))))))))));refine ad (aY ?_);refine dr (σ:=Nat) (fun q=>[(0,.pointer (some ⟨b,0,none⟩)),(3,u0),(7,b6),(30,a6),(31,.int .i64 ((cJ (o6 e)).length:Int)),(32,.int .i64 (q:Int))]) (fun q w=>∃M' es clock,Lt M' w∧Step M w0 M' w (GL M Z)∧cp RT.en M' w u0 e∧(RT.fd.sl).V M' w (cJ (o6 e)) a6∧(((RT.int .i64).sl).sl).V M' w ((cJ (o6 e)).map (posOf (o6 e))) b6∧Buf Z M' w B b mb vl L words last (GM L (o6 e) q) (fun x=>x∈gK L∨x∈((cJ (o6 e)).take q).map cL) es clock∧q≤(cJ (o6 e)).length) (fun q=>(cJ (o6 e)).length-q) 0 (.cons rfl (.cons rfl (.cons rfl (.cons rfl (.cons rfl (.cons rfl .nil)))))) ?_ ?_
   ·exact⟨_,es,clock,hM,S,cv,ha,n4,⟨gb,dA,dW,hB,CW,ho,hW,hR.congr (fun k=>GN _ _ _) (fun k=>by simp),zl⟩,bB _⟩
   ·clear hM S cv ha n4 gb dA dW ho hW hR;rintro i w ⟨M1,es,clock,hM,S,cv,ha,n4,⟨gb,dA,dW,_,_,ho,hW,hR,_⟩,hi⟩;refine aj (ah (b4 rfl rfl rfl (ad (aj ?_))));refine bH rfl (fun c8=>?_) (fun c8=>?_)
    ·refine aS (aj (aY (aj (ah (ae rfl rfl ?_)))));refine cK (M:=M1) iN o4 rfl rfl rfl ha (ao _ _) (by omega) (fun Xm t Ih GS=>?_);rw[aw]at Ih;have IE:=aI Ih;have E4:=hF.term IE;refine b5 (M:=M1) (A:=RT.fd) bR rfl o4 (by decide) rfl rfl rfl GS (ao _ _) (fun Xn GU=>?_);obtain rfl:=kh GU;refine fh M1 o4 rfl (fun tP Qp ae2 ae3 mh nw=>?_);obtain⟨ra,GV⟩:∃M',M'=ins M1 tP:=⟨_,rfl⟩;rw[←GV]at nw;have yf:ra tP:=by rw[GV];exact .inl rfl
     change Qp.heap[tP]? =some (.cells #[.string ⟨#[]⟩,.string ⟨#[]⟩] _ _)at mh;have:=ak gb;replace dA:=(nw.mem _ this).2 dA;replace gb:=nw.aM gb;replace cv:=cv.le (by decide) nw.le;replace ha:=ha.le nw.le;replace n4:=n4.le nw.le;replace ho:=ho.bh nw;replace dW:=(nw.mem _ (ak hW.at_)).2 dW;replace hW:=hW.bh nw;replace hR:=hR.bh nw;replace hM:=nw.lt hM;have:=S.size;replace S:=S.ax nw;refine ai rfl rfl ?_;refine fo (M:=ra) (vs:=[.string ⟨t.1.toArray⟩,.string ⟨t.2.toArray⟩]) o4 rfl rfl (BK rfl GU) rfl rfl mh yf (fun w9 g9 s9=>?_);have:=ak gb;replace dA:=(s9.mem _ this).2 dA;replace gb:=s9.bJ gb (fun hk=>by have hk:_=_:=hk;omega);have:=ak mh;replace yf:=(s9.mem _ this).2 yf;replace cv:=cv.le (by decide) s9.le;replace ha:=ha.le s9.le;replace n4:=n4.le s9.le;replace ho:=ho.step s9 (fun c hc (h:_=_)=>by first|exact ho.eR gb (by decide) (h▸hc)|exact ho.eR mh (by decide) (h▸hc));replace dW:=(s9.mem _ (ak hW.at_)).2 dW;replace hW:=hW.step s9 (by first|exact fun h=>ho.jd hW.at_ h|exact fun(h:mb=b)=>K1 h.symm|exact fun(h:mb=tP)=>by have h9:=hW.at_;rw[h,mh]at h9;cases h9);replace hR:=hR.step s9 (by first|exact fun k v c hv hc h=>(hR.o k v hv).iG ho (by decide) hc h|exact fun k v c hv hc (h:c=b)=>(hR.o k v hv).eR gb (by decide) (h▸hc)|exact fun k v c hv hc (h:c=tP)=>(hR.o k v hv).eR mh (by decide) (h▸hc));replace hM:=s9.lt hM;have:=S.size;replace S:=S.trans s9 (fun k hk h=>by have h:_=_:=h;subst h;first|(exfalso;omega)|(show _≤_;omega)|exact⟨by first|omega|assumption,(S.mem _ hk).1 ((s9.mem _ (ak mh)).1 yf)⟩|exact .inl rfl|exact .inr rfl|exact .inr (.inl rfl)|exact .inr (.inr rfl)|exact rfl);have K9:=g9;clear mh;have mh:=K9;clear K9;refine ad (aj (ah (ix (vs:=[.string ⟨t.1.toArray⟩,.string ⟨t.2.toArray⟩]) bR rfl o4 rfl rfl rfl mh ?_)));refine aQ rfl rfl T1 (Gk (t:=t) _ hM (by omega) (by omega)) (fun r10 Wu hc=>?_)
     obtain⟨rfl,p8⟩:=hc;have:=ak gb;replace dA:=(p8.mem _ this).2 dA;replace gb:=p8.aM gb;replace cv:=cv.le (by decide) p8.le;replace ha:=ha.le p8.le;replace n4:=n4.le p8.le;replace ho:=ho.bh p8;replace dW:=(p8.mem _ (ak hW.at_)).2 dW;replace hW:=hW.bh p8;replace hR:=hR.bh p8;replace hM:=p8.lt hM;have:=S.size;replace S:=S.ax p8;refine ai rfl rfl (ad ?_);obtain⟨v10,vh⟩:=dF.ex jc es (sv (cL t));apply T.ni 21 [0,1,2,3,4,5,6,7,8,9,10] 2 (jj v10) mixed rfl rfl rfl rfl;intro JI Nv;have jF:=Nv ra;have:=ak gb;replace dA:=(jF.mem _ this).2 dA;replace gb:=jF.aM gb;replace cv:=cv.le (by decide) jF.le;replace ha:=ha.le jF.le;replace n4:=n4.le jF.le;replace ho:=ho.bh jF;replace dW:=(jF.mem _ (ak hW.at_)).2 dW;replace hW:=hW.bh jF;replace hR:=hR.bh jF;replace hM:=jF.lt hM;have:=S.size;replace S:=S.ax jF;refine ae rfl rfl ?_;refine ad ⟨rfl,rfl,rfl,?_⟩;refine aU rfl ⟨_,rfl⟩ rfl ?_;refine ad ⟨rfl,rfl,rfl,?_⟩;refine aV (o':=1) dq rfl rfl BM (by decide) rfl rfl ?_;refine ad ⟨rfl,rfl,rfl,?_⟩;refine aH fZ rfl rfl rfl (by first|assumption|exact cc jF (by assumption)) rfl ?_;refine ad ⟨rfl,rfl,rfl,?_⟩;refine ae rfl rfl ?_;refine ad ⟨rfl,rfl,rfl,?_⟩;refine ae rfl rfl ?_;refine ad ⟨rfl,rfl,rfl,?_⟩;refine aU rfl ⟨_,rfl⟩ rfl ?_;refine ad ⟨rfl,rfl,rfl,?_⟩;refine aV (o':=1) dq rfl rfl BM (by decide) rfl rfl ?_;refine ad ⟨rfl,rfl,rfl,?_⟩;refine aH fZ rfl rfl rfl (by first|assumption|exact cc jF (by assumption)) rfl ?_;refine ad ⟨rfl,rfl,rfl,?_⟩;refine ae rfl rfl ?_;refine ad ⟨rfl,rfl,rfl,?_⟩;obtain⟨kl,Dq⟩:=GK (cL t) (by unfold cL;simp;omega);refine Rg.pH fZ pP jQ rfl rfl rfl Dq hW (fun Xo Xp=>?_);obtain rfl:v10=Xo:=hW.val_one vh Xp
     have yT:=JH hLF (o6 e) i (cL t);have IB:(cJ (o6 e)).length≤500:=wH hF;refine ad ⟨rfl,rfl,rfl,?_⟩;refine ae rfl rfl ?_;refine ad ⟨rfl,rfl,rfl,?_⟩;refine aU rfl ⟨_,rfl⟩ rfl ?_;refine ad ⟨rfl,rfl,rfl,?_⟩;refine aV (o':=0) dq rfl rfl Rx (by decide) rfl rfl ?_;refine ad ⟨rfl,rfl,rfl,?_⟩;refine aH dp rfl rfl rfl (by first|assumption|exact cc jF (by assumption)) rfl ?_;refine ad ⟨rfl,rfl,rfl,?_⟩;refine gO dp rfl ho rfl ?_;refine ad ⟨rfl,rfl,rfl,?_⟩;refine ae rfl rfl ?_;refine ad ⟨rfl,rfl,rfl,?_⟩;refine ae rfl rfl ?_;refine ad ⟨rfl,rfl,rfl,?_⟩;refine cK (M:=ra) Tryz.underlying171 nY rfl rfl rfl n4 (ao _ _) (by simp;omega) (fun u18 ps Ry Nw=>?_);rw[aw,cy,Ih]at Ry;obtain rfl:=bp Ry;refine ad ⟨rfl,rfl,rfl,?_⟩;refine bY (M:=ra) au rfl rfl rfl rfl rfl Nw (ao _ _) (fun v19 JJ=>?_);refine ad ⟨rfl,rfl,rfl,?_⟩;refine dU (places:=[(0,1),(1,1)]) bL gD IS rfl ⟨_,_,rfl,rfl,_,_,rfl,rfl,rfl⟩ (out:=[_,_]) ⟨0,[_],rfl,rfl,by simp[Value.cells],1,[_],rfl,iB JJ,by simp[Value.cells],rfl⟩ ?_;have GW:RT.po.V ra _ ((L.length:Int),posOf (o6 e) t) _:=ef (fW (by omega)) JJ rfl rfl rfl rfl;refine ad ⟨rfl,rfl,rfl,?_⟩;refine fa ?_;have ov:=hR.o _ _ vh;refine⟨iM ⟨jy,⟨cd.nilCheck rfl,⟨mA dq rfl BM (by decide),⟨gw rfl gb (fun h=>ov.eR gb (by decide) h),⟨jy,⟨jy,⟨cd.nilCheck rfl,⟨mA dq rfl BM (by decide),⟨gw rfl gb (fun h=>ov.eR gb (by decide) h),⟨jy,⟨cd.pH fZ pP jQ rfl rfl Dq hW (fun h=>ov.jd hW.at_ h),trivial⟩⟩⟩⟩⟩⟩⟩⟩⟩⟩⟩,?_⟩;have kp:=kG (jj v10) JI;refine eh (A:=RT.po) (hn:=by decide) (M:=ra) aX gD (by decide) rfl rfl hM (GW) (.inl rfl) (fun Xq Xr JK kx=>?_)
     have:=ak gb;replace dA:=(kx.mem _ this).2 dA;replace gb:=kx.aM gb;replace cv:=cv.le (by decide) kx.le;replace ha:=ha.le kx.le;replace n4:=n4.le kx.le;replace ho:=ho.bh kx;replace dW:=(kx.mem _ (ak hW.at_)).2 dW;replace hW:=hW.bh kx;replace hR:=hR.bh kx;replace hM:=kx.lt hM;have:=S.size;replace S:=S.ax kx;refine(fun(kp:eB _ _ _)=>ad ⟨rfl,rfl,fun _=>kp,?_⟩) (by first|exact kp|exact kp.rA (by assumption)|exact kp.goN (by assumption)|exact kp.go (by assumption) (fun _ _ h=>by first|exact h|exact h.elim));refine Rg.kK (M:=ra) (base:=B) aX gD rfl rfl rfl rfl (hR.o _ _ vh) JK (ao _ _) (by simp;omega) (by simp;omega) (by have:=S.size;omega) (fun v22 w22 Xs GX Xt=>?_);have ov:=hR.o _ _ vh;have abo:=hW.at_;have Rz:v10.ownBlock≠some mb:=ov.jd hW.at_;have La:=ho.step GX (fun c hc h=>ho.iG ov (by decide) hc h);have BN:=(GX.mem _ (ak hW.at_)).2 dW;have JL:=hW.step GX Rz;have RA:=GX.bJ gb (fun h=>ov.eR gb (by decide) h);have Nx:=(GX.mem _ (ak gb)).2 dA;have S22:=S.trans GX (fun k hk h=>⟨hR.z _ _ k vh h,(S.mem k hk).1 (ov.mut_ k h)⟩);have Xu:=GX.lt hM;replace cv:=cv.le (by decide) GX.le;replace ha:=ha.le GX.le;replace n4:=n4.le GX.le;refine(fun(kp:eB _ _ _)=>ad ⟨rfl,rfl,fun _=>kp,?_⟩) (by first|exact kp|exact kp.rA (by assumption)|exact kp.goN (by assumption)|exact kp.go (by assumption) (fun _ _ h=>by first|exact h|exact h.elim));refine Rg.Jw fZ pP rfl rfl rfl Dq JL BN (fun w23 Xv Xw Xx Xy Ny Ij=>?_);have Xz:=hR.put (fun c hc=>hZ c (by have:=S.size;omega)) vh Xs GX Xt JL.at_ Ij Ny Xy;replace cv:=cv.le (by decide) Ij.le;replace ha:=ha.le Ij.le;replace n4:=n4.le Ij.le;have XA:=La.step Ij (fun c hc (h:c=mb)=>La.jd JL.at_ (h▸hc));have XB:=Ij.bJ RA K1;have Nz:=(Ij.mem _ (ak RA)).2 Nx
     have NA:=(Ij.mem _ (ak JL.at_)).2 BN;have XC:=Ij.lt Xu;have S23:=S22.trans Ij (fun k hk (h:k=mb)=>⟨by rw[h];exact CW,(S22.mem k hk).1 (by rw[h];exact BN)⟩);refine ad ⟨rfl,rfl,fun h=>absurd rfl h,?_⟩;refine qG (ah (bu rfl rfl rfl (by omega) (ae rfl rfl (ad ?_))));refine⟨rfl,i+1,(.cons rfl (.cons rfl (.cons rfl (.cons rfl (.cons rfl (.cons rfl .nil)))))),?_,?_⟩
     ·exact⟨_,Xv,Xw,XC,S23,cv,ha,n4,⟨XB,Nz,NA,hB,CW,XA,Xx,Xz.congr (fun k=>GO Ih k) (fun k=>by rw[bN,Ih,ck,eL,cY,or_assoc];simp),zl⟩,by omega⟩
     ·omega
    ·refine cG (aj ?_);apply T.ni 6 [0,1,2,3,4] 3 (jj vl) mixed rfl rfl rfl rfl;intro MK ML;have mc:=ML M1;have:=ak gb;replace dA:=(mc.mem _ this).2 dA;replace gb:=mc.aM gb;replace cv:=cv.le (by decide) mc.le;replace ha:=ha.le mc.le;replace n4:=n4.le mc.le;replace ho:=ho.bh mc;replace dW:=(mc.mem _ (ak hW.at_)).2 dW;replace hW:=hW.bh mc;replace hR:=hR.bh mc;replace hM:=mc.lt hM;have:=S.size;replace S:=S.ax mc;refine ae rfl rfl ?_;refine ad ⟨rfl,rfl,rfl,?_⟩;refine ae rfl rfl ?_;refine ad ⟨rfl,rfl,rfl,?_⟩;refine aU rfl ⟨_,rfl⟩ rfl ?_;refine ad ⟨rfl,rfl,rfl,?_⟩;refine aV (o':=0) dq rfl rfl Rx (by decide) rfl rfl ?_;refine ad ⟨rfl,rfl,rfl,?_⟩;refine aH dp rfl rfl rfl gb rfl (bz (v':=vl) rfl ?_);refine ad ⟨rfl,rfl,rfl,?_⟩;refine b5 (M:=M1) (A:=RT.en) cn rfl uD (by decide) rfl rfl rfl cv (ao _ _) (fun KP xU=>?_);refine ad ⟨rfl,rfl,rfl,?_⟩;refine fa ?_;refine⟨iM ⟨jy,⟨jy,⟨cd.nilCheck rfl,⟨mA dq rfl Rx (by decide),⟨gw rfl gb (fun h=>ho.eR gb (by decide) h),trivial⟩⟩⟩⟩⟩,?_⟩;have kp:=kG (jj vl) MK;refine aQ rfl rfl Xk (Gz _ hM xU (by have:=hF.few;omega)) (fun abq RB hc=>?_);obtain⟨BO,vm⟩:=hc;have:=ak gb;replace dA:=(vm.mem _ this).2 dA;replace gb:=vm.aM gb;replace cv:=cv.le (by decide) vm.le;replace ha:=ha.le vm.le;replace n4:=n4.le vm.le;replace ho:=ho.bh vm;replace dW:=(vm.mem _ (ak hW.at_)).2 dW;replace hW:=hW.bh vm;replace hR:=hR.bh vm;replace hM:=vm.lt hM;have:=S.size;replace S:=S.ax vm;refine(fun(kp:eB _ _ _)=>ad ⟨rfl,rfl,fun _=>kp,?_⟩) (by first|exact kp|exact kp.rA (by assumption)|exact kp.goN (by assumption)|exact kp.go (by assumption) (fun _ _ h=>by first|exact h|exact h.elim));refine eh (A:=RT.en) (hn:=by decide) (M:=M1) dp uD (by decide) rfl rfl hM (BO) (.inl rfl) (fun abr abt NB mK=>?_)
     have:=ak gb;replace dA:=(mK.mem _ this).2 dA;replace gb:=mK.aM gb;replace cv:=cv.le (by decide) mK.le;replace ha:=ha.le mK.le;replace n4:=n4.le mK.le;replace BO:=BO.le mK.le;replace ho:=ho.bh mK;replace dW:=(mK.mem _ (ak hW.at_)).2 dW;replace hW:=hW.bh mK;replace hR:=hR.bh mK;replace hM:=mK.lt hM;have:=S.size;replace S:=S.ax mK;refine(fun(kp:eB _ _ _)=>ad ⟨rfl,rfl,fun _=>kp,?_⟩) (by first|exact kp|exact kp.rA (by assumption)|exact kp.goN (by assumption)|exact kp.go (by assumption) (fun _ _ h=>by first|exact h|exact h.elim));refine Rg.kK (M:=M1) (base:=B) dp uD rfl rfl rfl rfl ho NB (ao _ _) (by simp;omega) (by simp;omega) (by have:=S.size;omega) (fun Ad abu NC rb XD=>?_);replace dA:=(rb.mem _ (ak gb)).2 dA
     have zl':∀c,Ad.ownBlock=some c→Z c:=fun c hc=>by
      rcases XD c hc with h|h
      ·exact hZ c (by have:=S.size;omega)
      ·exact zl c h
     replace hR:=hR.step rb (fun k v c hv hc h=>(hR.o k v hv).iG ho (by decide) hc h);replace dW:=(rb.mem _ (ak hW.at_)).2 dW;replace hW:=hW.step rb (fun h=>ho.jd hW.at_ h);replace gb:=rb.bJ gb (fun h=>ho.eR gb (by decide) h);replace cv:=cv.le (by decide) rb.le;replace S:=S.trans rb (fun k hk h=>⟨zl k h,(S.mem k hk).1 (ho.mut_ k h)⟩);replace hM:=rb.lt hM;replace ho:=NC;obtain⟨Lb,XE⟩:∃M',M'=jA M1 Ad:=⟨_,rfl⟩;rw[←XE]at hR dW cv S hM ho dA;refine(fun(kp:eB _ _ _)=>ad ⟨rfl,rfl,fun _=>kp,?_⟩) (by first|exact kp|exact kp.rA (by assumption)|exact kp.goN (by assumption)|exact kp.go (by assumption) (fun _ _ h=>by first|exact h|exact h.elim));refine aU rfl ⟨_,rfl⟩ rfl ?_;refine ad ⟨rfl,rfl,fun h=>absurd rfl h,?_⟩;refine aV (o':=0) dq rfl rfl Rx (by decide) rfl rfl ?_;refine ad ⟨rfl,rfl,fun h=>absurd rfl h,?_⟩;refine bS (M:=Lb) Rx rfl rfl gb rfl (by obtain⟨_,_,he,_⟩:=ho.isSlice;rw[he];rfl) dA (fun ND GY mi=>?_);change ND.heap[_]? =some (Obj.cells #[Ad,.map (some mb),.int .i64 words,.int .i64 last] _ _)at GY;have:=ak gb;replace dA:=(mi.mem _ this).2 dA;replace cv:=cv.le (by decide) mi.le;replace ho:=ho.step mi (fun c hc (h:_=_)=>by first|exact ho.eR gb (by decide) (h▸hc)|exact ho.eR mh (by decide) (h▸hc));replace dW:=(mi.mem _ (ak hW.at_)).2 dW;replace hW:=hW.step mi (by first|exact fun h=>ho.jd hW.at_ h|exact fun(h:mb=b)=>K1 h.symm|exact fun(h:mb=tP)=>by have h9:=hW.at_;rw[h,mh]at h9;cases h9);replace hR:=hR.step mi (by first|exact fun k v c hv hc h=>(hR.o k v hv).iG ho (by decide) hc h|exact fun k v c hv hc (h:c=b)=>(hR.o k v hv).eR gb (by decide) (h▸hc)|exact fun k v c hv hc (h:c=tP)=>(hR.o k v hv).eR mh (by decide) (h▸hc));replace hM:=mi.lt hM;have:=S.size;replace S:=S.trans mi (fun k hk h=>by have h:_=_:=h;subst h;first|(exfalso;omega)|(show _≤_;omega)|exact⟨by first|omega|assumption,(S.mem _ hk).1 ((mi.mem _ (ak gb)).1 dA)⟩|exact .inl rfl|exact .inr rfl|exact .inr (.inl rfl)|exact .inr (.inr rfl)|exact rfl)
     have Gh:=GY;clear gb;have gb:=Gh;clear Gh;refine ad ⟨rfl,rfl,fun h=>absurd rfl h,?_⟩;refine qG (aj ?_);apply T.ni 6 [0,1,2,3] 1 aA mixed rfl rfl rfl rfl;intro NF GZ;have oa:=GZ Lb;have:=ak gb;replace dA:=(oa.mem _ this).2 dA;replace gb:=oa.aM gb;replace cv:=cv.le (by decide) oa.le;replace ho:=ho.bh oa;replace dW:=(oa.mem _ (ak hW.at_)).2 dW;replace hW:=hW.bh oa;replace hR:=hR.bh oa;replace hM:=oa.lt hM;have:=S.size;replace S:=S.ax oa;refine ae rfl rfl ?_;refine ad ⟨rfl,rfl,rfl,?_⟩;refine aU rfl ⟨_,rfl⟩ rfl ?_;refine ad ⟨rfl,rfl,rfl,?_⟩;refine aV (o':=2) dq rfl rfl I3 (by decide) rfl rfl ?_;refine ad ⟨rfl,rfl,rfl,?_⟩;refine aH ar rfl rfl rfl (by first|assumption|exact cc oa (by assumption)) rfl ?_;refine ad ⟨rfl,rfl,rfl,?_⟩;refine aF (M:=Lb) (A:=RT.en) (B:=RT.dc) cn rfl rfl kE (by decide) O1 rfl rfl (by decide) cv (ao _ _) (fun abv NG=>?_);refine ad ⟨rfl,rfl,rfl,?_⟩;refine b5 (M:=Lb) (A:=RT.dc) aK rfl kE (by decide) rfl rfl rfl NG (ao _ _) (fun abw NH=>?_);refine ad ⟨rfl,rfl,rfl,?_⟩;refine fa ?_;refine⟨iM ⟨jy,⟨cd.nilCheck rfl,⟨mA dq rfl I3 (by decide),⟨gw rfl gb (fun h=>h),trivial⟩⟩⟩⟩,?_⟩;have kp:=kG aA NF;refine aQ rfl rfl Xl (zH _ hM NH hl hF.few) (fun r14 Q7 hc=>?_);obtain⟨rfl,jv⟩:=hc;have:=ak gb;replace dA:=(jv.mem _ this).2 dA;replace gb:=jv.aM gb;replace cv:=cv.le (by decide) jv.le;replace ho:=ho.bh jv;replace dW:=(jv.mem _ (ak hW.at_)).2 dW;replace hW:=hW.bh jv;replace hR:=hR.bh jv;replace hM:=jv.lt hM;have:=S.size;replace S:=S.ax jv;refine(fun(kp:eB _ _ _)=>ad ⟨rfl,rfl,fun _=>kp,?_⟩) (by first|exact kp|exact kp.rA (by assumption)|exact kp.goN (by assumption)|exact kp.go (by assumption) (fun _ _ h=>by first|exact h|exact h.elim))
     have:=hF.many;refine bu rfl rfl rfl (by omega) ?_;refine ad ⟨rfl,rfl,fun h=>absurd rfl h,?_⟩;refine aU rfl ⟨_,rfl⟩ rfl ?_;refine ad ⟨rfl,rfl,fun h=>absurd rfl h,?_⟩;refine aV (o':=2) dq rfl rfl I3 (by decide) rfl rfl ?_;refine ad ⟨rfl,rfl,fun h=>absurd rfl h,?_⟩;refine bS (M:=Lb) I3 rfl rfl gb rfl (rfl) dA (fun NI G0 mj=>?_);change NI.heap[_]? =some (Obj.cells #[Ad,.map (some mb),.int .i64 (words+((o6 e).length:Int)),.int .i64 last] _ _)at G0;have:=ak gb;replace dA:=(mj.mem _ this).2 dA;replace cv:=cv.le (by decide) mj.le;replace ho:=ho.step mj (fun c hc (h:_=_)=>by first|exact ho.eR gb (by decide) (h▸hc)|exact ho.eR mh (by decide) (h▸hc));replace dW:=(mj.mem _ (ak hW.at_)).2 dW;replace hW:=hW.step mj (by first|exact fun h=>ho.jd hW.at_ h|exact fun(h:mb=b)=>K1 h.symm|exact fun(h:mb=tP)=>by have h9:=hW.at_;rw[h,mh]at h9;cases h9);replace hR:=hR.step mj (by first|exact fun k v c hv hc h=>(hR.o k v hv).iG ho (by decide) hc h|exact fun k v c hv hc (h:c=b)=>(hR.o k v hv).eR gb (by decide) (h▸hc)|exact fun k v c hv hc (h:c=tP)=>(hR.o k v hv).eR mh (by decide) (h▸hc));replace hM:=mj.lt hM;have:=S.size;replace S:=S.trans mj (fun k hk h=>by have h:_=_:=h;subst h;first|(exfalso;omega)|(show _≤_;omega)|exact⟨by first|omega|assumption,(S.mem _ hk).1 ((mj.mem _ (ak gb)).1 dA)⟩|exact .inl rfl|exact .inr rfl|exact .inr (.inl rfl)|exact .inr (.inr rfl)|exact rfl);have Gh:=G0;clear gb;have gb:=Gh;clear Gh;refine ad ⟨rfl,rfl,fun h=>absurd rfl h,?_⟩;refine qG (aj (ah (ae rfl rfl ?_)));refine aF (M:=Lb) (A:=RT.en) (B:=RT.int .i64) cn rfl rfl I3 (by decide) O2 rfl rfl (by decide) cv (ao _ _) (fun abx XF=>?_);refine bV (M:=Lb) ar rfl rfl (by assumption) (by repeat (first|exact ao _ _|refine aT (bj (by assumption)) ?_)) (fun G1=>?_)
     refine bz (v':= .int .i64 (e.2)) rfl ?_;replace G1: -9223372036854775808≤(e.2:Int)∧e.2≤9223372036854775807:=G1;refine aU rfl ⟨_,rfl⟩ rfl (aV (o':=3) dq rfl rfl I3 (by decide) rfl rfl ?_);refine bS (M:=Lb) I3 rfl rfl gb rfl (rfl) dA (fun Lc Ld il=>?_);change Lc.heap[_]? =some (Obj.cells #[Ad,.map (some mb),.int .i64 (words+((o6 e).length:Int)),.int .i64 e.2] _ _)at Ld;have:=ak gb;replace dA:=(il.mem _ this).2 dA;replace cv:=cv.le (by decide) il.le;replace ho:=ho.step il (fun c hc (h:_=_)=>by first|exact ho.eR gb (by decide) (h▸hc)|exact ho.eR mh (by decide) (h▸hc));replace dW:=(il.mem _ (ak hW.at_)).2 dW;replace hW:=hW.step il (by first|exact fun h=>ho.jd hW.at_ h|exact fun(h:mb=b)=>K1 h.symm|exact fun(h:mb=tP)=>by have h9:=hW.at_;rw[h,mh]at h9;cases h9);replace hR:=hR.step il (by first|exact fun k v c hv hc h=>(hR.o k v hv).iG ho (by decide) hc h|exact fun k v c hv hc (h:c=b)=>(hR.o k v hv).eR gb (by decide) (h▸hc)|exact fun k v c hv hc (h:c=tP)=>(hR.o k v hv).eR mh (by decide) (h▸hc));replace hM:=il.lt hM;have:=S.size;replace S:=S.trans il (fun k hk h=>by have h:_=_:=h;subst h;first|(exfalso;omega)|(show _≤_;omega)|exact⟨by first|omega|assumption,(S.mem _ hk).1 ((il.mem _ (ak gb)).1 dA)⟩|exact .inl rfl|exact .inr rfl|exact .inr (.inl rfl)|exact .inr (.inr rfl)|exact rfl);have Gh:=Ld;clear gb;have gb:=Gh;clear Gh;refine ad (aj (ah (ai rfl rfl (ad (aL ?_)))));have ea:jP last e=0:=by unfold jP;rw[if_neg (fun h=>h (by simpa using c2)),if_neg c4]
     exact aO rfl rfl ⟨_,hM,S,by rw[ea],fun h=>absurd ea h,fun _=>⟨mb,_,es,clock,gb,dA,dW,hB,CW,ho,hW,hR.congr (fun k=>(JG (by omega) k).symm) (fun k=>by rw[BJ,cY,aW (by omega)]),zl'⟩⟩
end Go.K

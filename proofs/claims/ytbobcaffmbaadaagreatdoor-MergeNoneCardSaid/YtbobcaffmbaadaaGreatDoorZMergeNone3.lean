/- What the law 'MergeNone' needs of walks and plain Lean, part 3: nothing is assumed beyond the texts that it imports. -/
import Derived.Deep.Draws
import Derived.DeepKeys4
import Derived.Ground.GgzProg
import Derived.Ground.SlgmProg
import Derived.Ground.SlsfProg
import Derived.KernelRfl
import Derived.Lib.Bytealg
import Derived.Shelf.SlGeneric
import Derived.Shelf.SlIter.Nil
import Derived.Shelf.SlIterI.Nil
import Derived.Shelf.SlSortCmp.NoneTotal
import Derived.Shelf.SortM.Plain
import Derived.Shelf.SortM.SortNone
import Derived.Sort.Grow
import Derived.Sort.KeysCollected
import Derived.Sort.Walk0
import Derived.Test.YtbobcaffmbaadaaGreatDoorProg
import Derived.Test.YtbobcaffmbaadaaGreatDoorZMergeNone1
import Derived.Test.YtbobcaffmbaadaaGreatDoorZMergeNone2
set_option linter.unusedVariables false
set_option linter.unusedSimpArgs false
theorem mS:type_of% @Go.K.Rg.invoke:=@Go.K.Rg.invoke
theorem qc:type_of% @Go.K.Rg.pb:=@Go.K.Rg.pb
theorem wz:type_of% @Go.K.Rg.sV:=@Go.K.Rg.sV
theorem xH:type_of% @Go.K.Rg.mi:=@Go.K.Rg.mi
namespace Go.K
open Go.Proofs
set_option maxRecDepth 10000
theorem A3 {M:aD} {d:Dc} {v0:Value} (w0:World) (hM:Lt M w0) (hv:RT.dc.V M w0 d v0) (hl:∀f∈d.2,f.1.length≤900000∧f.2.length≤900000):
  Spec Tryz.prog 94 #[v0] w0 (fun v w=>v= .int .i64 (lO d)∧Step M w0 M w aC):=by
 have jM:=hM;refine bc (args:=[_]) (fn:=Tryz.f94) Tryz.func94 rfl (n:=66) Tryz.ntmps94 ?_;have S:Step M w0 M w0 aC:=(aw _ _).cA (fun _ h=>h.elim) (fun _ h=>h.elim);refine aj (ae ?_);refine qc (A:=RT.dc) rfl rfl hM hv rfl (fun u0 w1 dn s0 _=>?_);replace hM:=s0.lt hM;have:=S.size;replace S:=S.aB s0;refine ah rfl rfl (ab (aj (aj (ae ?_))));refine aN (M:=M) (A:=RT.dc) (B:=(RT.fd).sl) bg rfl rfl vE (by decide) (Jd) rfl rfl (by decide) (by assumption) (by repeat (first|exact aq _ _|refine a8 (bD (by assumption)) ?_)) (fun B6 ni=>?_);refine bT (M:=M) bu rfl rfl rfl rfl rfl (by assumption) (by repeat (first|exact aq _ _|refine a8 (bD (by assumption)) ?_)) (fun Ar nj=>?_);refine bM bu rfl nj rfl (jd rfl rfl rfl (ab ?_));refine bN rfl (fun c1=>?_) (fun c1=>?_)
 ·refine aj (ae (ah rfl rfl (ab (aO ?_))));exact aS rfl rfl ⟨by rw[lO,if_pos (by omega)],S.back⟩
 ·refine aU (aj (ae (ah rfl rfl (ab (aj (aj (ae (ah rfl rfl (ab (aZ ?_))))))))));refine de (σ:=Nat×Nat) (fun q=>[(1,u0),(3,.int .i64 (q.2:Int)),(4,.int .i64 (q.1:Int))]) (fun q w=>Lt M w∧Step M w0 M w aC∧cN RT.dc M w u0 d∧lO d=Ap (d.2.take q.1) (d.2.drop q.1) q.2∧q.1≤d.2.length∧q.2≤900001*q.1∧d.2.length≤8) (fun q=>d.2.length-q.1) (0,0) (.cons rfl (.cons rfl (.cons rfl .nil))) ?_ ?_
  ·exact⟨hM,S,dn,by rw[lO,if_neg (by omega)];rfl,bE _,aT _,by omega⟩
  ·rintro⟨i,n⟩ w ⟨hM,S,dn,Gh,hi,hn,hd8⟩;dsimp only at Gh hi hn ⊢;refine aj (aj (ae (ad rfl rfl ?_)));refine aN (M:=M) (A:=RT.dc) (B:=(RT.fd).sl) bg rfl rfl vE (by decide) (Jd) rfl rfl (by decide) (by assumption) (by repeat (first|exact aq _ _|refine a8 (bD (by assumption)) ?_)) (fun YN iZ=>?_);refine bT (M:=M) bu rfl rfl rfl rfl rfl (by assumption) (by repeat (first|exact aq _ _|refine a8 (bD (by assumption)) ?_)) (fun aeI RN=>?_);refine bM bu rfl RN rfl (cj rfl rfl rfl (ab ?_));refine bN rfl (fun c5=>?_) (fun c5=>?_)
   ·refine aU (aj (aZ (aj (ae ?_))));refine aN (M:=M) (A:=RT.dc) (B:=(RT.fd).sl) bg rfl rfl vE (by decide) (Jd) rfl rfl (by decide) (by assumption) (by repeat (first|exact aq _ _|refine a8 (bD (by assumption)) ?_)) (fun YO HT=>?_);refine bT (M:=M) bu rfl rfl rfl rfl rfl (by assumption) (by repeat (first|exact aq _ _|refine a8 (bD (by assumption)) ?_)) (fun aeJ RO=>?_);refine ad rfl rfl ?_;refine cy (M:=M) bu kE rfl rfl rfl RO (aq _ _) (by omega) (fun aox x DH akm=>?_);rw[ay]at DH;refine aN (M:=M) (A:=RT.fd) (B:=RT.str) cv rfl rfl I9 (by decide) (Xd) rfl rfl (by decide) (by assumption) (by repeat (first|exact aq _ _|refine a8 (bD (by assumption)) ?_)) (fun aoy YP=>?_);refine bT (M:=M) aJ rfl rfl rfl rfl rfl YP (aq _ _) (fun aoz YQ=>?_);obtain rfl:=fS YQ;have kD:=HR (n:=n) DH;have qV:=hl _ (aA DH);refine aX rfl rfl E93 (yO x.1 (by omega) _) (fun r7 w7 hc=>?_);obtain⟨rfl,rfl⟩:=hc;refine ah rfl rfl (ab (aj (aj (ae (ad rfl rfl (lH rfl rfl (aV (v':= .bool (decide (fX x.1=false))) (by cases fX x.1<;>rfl) (ab ?_))))))));refine bN rfl (fun c8=>?_) (fun c8=>?_)
    ·refine aj (ae (ah rfl rfl (ab (aO ?_))));exact aS rfl rfl ⟨by rw[Gh,kD,if_pos (by assumption)],S.back⟩
    ·refine aU (aj (aj (ae (ah rfl rfl (ab (aZ ?_))))));refine de (σ:=Nat) (fun j=>[(1,u0),(3,.int .i64 (n:Int)),(4,.int .i64 (i:Int)),(6,.int .i64 (j:Int))]) (fun j w=>Lt M w∧Step M w0 M w aC∧cN RT.dc M w u0 d∧j≤i∧∀k y,k<j→d.2[k]? =some y→y.1≠x.1) (fun j=>i-j) 0 (.cons rfl (.cons rfl (.cons rfl (.cons rfl .nil)))) ?_ ?_
     ·exact⟨hM,S,dn,bE _,fun k c h=>absurd h (Nat.not_lt_zero k)⟩
     ·rintro j w ⟨hM,S,dn,hj,j9⟩;refine aj (aj (ae (ad rfl rfl (ad rfl rfl (cj rfl rfl rfl (ab ?_))))));refine bN rfl (fun F8=>?_) (fun F8=>?_)
      ·refine aU (aj (aZ (aj ?_)));apply mQ mixed rfl rfl;intro Uu Uv;have pf:=Uv M;replace dn:=dn.le (by decide) pf.le;replace hM:=pf.lt hM;have:=S.size;replace S:=S.aB pf;refine aN (M:=M) (A:=RT.dc) (B:=(RT.fd).sl) bg rfl rfl vE (by decide) (Jd) rfl rfl (by decide) (by assumption) (by repeat (first|exact aq _ _|refine a8 (bD (by assumption)) ?_)) (fun akn aeK=>?_);refine ab ⟨rfl,rfl,rfl,?_⟩;refine bT (M:=M) bu rfl rfl rfl rfl rfl (by assumption) (by repeat (first|exact aq _ _|refine a8 (bD (by assumption)) ?_)) (fun ako Uw=>?_);refine ab ⟨rfl,rfl,rfl,?_⟩;refine ad rfl rfl ?_;refine ab ⟨rfl,rfl,rfl,?_⟩;refine cy (M:=M) bu kE rfl rfl rfl Uw (aq _ _) (by omega) (fun RP y Gi fT=>?_);rw[ay]at Gi;refine ab ⟨rfl,rfl,rfl,?_⟩;refine aN (M:=M) (A:=RT.fd) (B:=RT.str) cv rfl rfl I9 (by decide) (Xd) rfl rfl (by decide) (by assumption) (by repeat (first|exact aq _ _|refine a8 (bD (by assumption)) ?_)) (fun fP yQ=>?_);refine ab ⟨rfl,rfl,rfl,?_⟩;refine bT (M:=M) aJ rfl rfl rfl rfl rfl yQ (aq _ _) (fun RQ B7=>?_);obtain rfl:=fS B7;refine ab ⟨rfl,rfl,rfl,?_⟩;refine aN (M:=M) (A:=RT.dc) (B:=(RT.fd).sl) bg rfl rfl vE (by decide) (Jd) rfl rfl (by decide) (by assumption) (by repeat (first|exact aq _ _|refine a8 (bD (by assumption)) ?_)) (fun akp aeL=>?_);refine ab ⟨rfl,rfl,rfl,?_⟩;refine bT (M:=M) bu rfl rfl rfl rfl rfl (by assumption) (by repeat (first|exact aq _ _|refine a8 (bD (by assumption)) ?_)) (fun akq Ux=>?_);refine ab ⟨rfl,rfl,rfl,?_⟩;refine ad rfl rfl ?_;refine ab ⟨rfl,rfl,rfl,?_⟩;refine cy (M:=M) bu kE rfl rfl rfl Ux (aq _ _) (by omega) (fun akr z LN aeM=>?_)
       rw[ay]at LN;refine ab ⟨rfl,rfl,rfl,?_⟩;refine aN (M:=M) (A:=RT.fd) (B:=RT.str) cv rfl rfl I9 (by decide) (Xd) rfl rfl (by decide) (by assumption) (by repeat (first|exact aq _ _|refine a8 (bD (by assumption)) ?_)) (fun aeN PW=>?_);refine ab ⟨rfl,rfl,rfl,?_⟩;refine bT (M:=M) aJ rfl rfl rfl rfl rfl PW (aq _ _) (fun aeO PX=>?_);obtain rfl:=fS PX;refine ab ⟨rfl,rfl,rfl,?_⟩;refine Rg.HA (p:=y.1) (q:=z.1) rfl rfl rfl ?_;obtain rfl:x=z:=aH (DH.symm.trans LN);refine ab ⟨rfl,rfl,rfl,?_⟩;refine ew ?_;refine bN rfl (fun PY=>?_) (fun PY=>?_)
       ·refine aj (ae (ah rfl rfl (ab (aO ?_))));have LO:((d.2.take i).any fun g=>decide (g.1=x.1))=true:=uU.2 ⟨y,aA (i:=j) (by rw[cn,if_pos (by omega)];exact Gi),by simpa using(by assumption)⟩;exact aS rfl rfl ⟨by rw[Gh,kD,if_neg (by assumption),if_pos LO],S.back⟩
       ·refine aU (ae (ad rfl rfl (bF rfl rfl rfl (by omega) (ah rfl rfl (ab ?_)))));refine⟨rfl,j+1,(.cons rfl (.cons rfl (.cons rfl (.cons rfl .nil)))),?_,?_⟩
        ·exact⟨hM,S,dn,by omega,fun k y' h hc=>by
          rcases cI k j with h2|h2
          ·exact j9 k y' h2 hc
          ·obtain rfl:k=j:=by omega
           rw[Gi]at hc;cases hc;assumption⟩
        ·omega
      ·refine cG (aj (ae ?_));refine aN (M:=M) (A:=RT.dc) (B:=(RT.fd).sl) bg rfl rfl vE (by decide) (Jd) rfl rfl (by decide) (by assumption) (by repeat (first|exact aq _ _|refine a8 (bD (by assumption)) ?_)) (fun aks aeP=>?_);refine bT (M:=M) bu rfl rfl rfl rfl rfl (by assumption) (by repeat (first|exact aq _ _|refine a8 (bD (by assumption)) ?_)) (fun akt Uy=>?_);refine ad rfl rfl ?_;refine cy (M:=M) bu kE rfl rfl rfl Uy (aq _ _) (by omega) (fun aku z LP aeQ=>?_);rw[ay]at LP;refine aN (M:=M) (A:=RT.fd) (B:=RT.str) cv rfl rfl I9 (by decide) (fd1) rfl rfl (by decide) (by assumption) (by repeat (first|exact aq _ _|refine a8 (bD (by assumption)) ?_)) (fun akv Uz=>?_);refine bT (M:=M) aJ rfl rfl rfl rfl rfl Uz (aq _ _) (fun akw UA=>?_);obtain rfl:=fS UA;obtain rfl:x=z:=aH (DH.symm.trans LP);refine aX rfl rfl adB (Ge _ hM qV.2) (fun r15 w15 hc=>?_);obtain⟨⟨u15,rfl,aeR⟩,xv⟩:=hc;replace dn:=dn.le (by decide) xv.le;replace hM:=xv.lt hM;have:=S.size;replace S:=S.aB xv;refine ad rfl rfl (bW rfl rfl rfl (bW rfl rfl rfl (ah rfl rfl (ah rfl rfl (ab (aj (aj (ae (ad rfl rfl (eM rfl rfl rfl (ab ?_)))))))))));refine bN rfl (fun Xe=>?_) (fun Xe=>?_)
       ·refine aj (ae (ad rfl rfl (ah rfl rfl (ab (aO ?_)))))
        have LO:((d.2.take i).any fun g=>decide (g.1=x.1))=false:=cV.2 fun h=>by
         obtain⟨y,hy,he⟩:=uU.1 h;obtain⟨k,hk⟩:=bB.1 hy;rw[cn]at hk
         split at hk
         ·exact j9 k y (by omega) hk (by simpa using he)
         ·cases hk
        exact aS rfl rfl ⟨by rw[Gh,kD,if_neg (by assumption),if_neg (by rw[LO];simp),if_pos Xe];rfl,S.back⟩
       ·refine aU (ae (ad rfl rfl ?_));have RM:mC 0 (words x.2)=0:=Classical.not_not.1 Xe;obtain⟨a,cap,rfl⟩:=aeR RM;have hwl:=qY x.2;refine ad rfl rfl (Rg.mn Tryz.underlying212 rfl rfl (bF rfl rfl rfl (by omega) (ah rfl rfl (ab (ae (ad rfl rfl (bF rfl rfl rfl (by omega) (ah rfl rfl (ab ?_)))))))))
        have LO:((d.2.take i).any fun g=>decide (g.1=x.1))=false:=cV.2 fun h=>by
         obtain⟨y,hy,he⟩:=uU.1 h;obtain⟨k,hk⟩:=bB.1 hy;rw[cn]at hk
         split at hk
         ·exact j9 k y (by omega) hk (by simpa using he)
         ·cases hk
        refine⟨rfl,(i+1,n+(words x.2).length),(.cons rfl (.cons rfl (.cons rfl .nil))),?_,?_⟩
        ·exact⟨hM,S,dn,by rw[Gh,kD,if_neg (by assumption),if_neg (by rw[LO];simp),if_neg Xe],by dsimp only;omega,by dsimp only;omega,hd8⟩
        ·dsimp only;omega
   ·refine cG (aj (aj (ae (ad rfl rfl (jd rfl rfl rfl (ab ?_))))));refine bN rfl (fun c19=>?_) (fun c19=>?_)
    ·refine aj (ae (ah rfl rfl (ab (aO ?_))));exact aS rfl rfl ⟨by rw[Gh,tX (by omega),if_pos (by omega)],S.back⟩
    ·refine aU (aj (ae (ah rfl rfl (ab (aO ?_)))));exact aS rfl rfl ⟨by rw[Gh,tX (by omega),if_neg (by omega)],S.back⟩
def DI:List (List UInt8):=[[116],[117],[118],[119]]
def fixF (i:Nat) (x:Fd):Fd:=(if fX x.1=true then x.1 else DI.getD i [],x.2.take 40)
def ou (id:Int):Nat→List Fd→List Fd→List Fd
 |_,out,[]=>out
 |i,out,x::fs=>if i<4 then(if lO (id,out++[fixF i x])=0 then ou id (i+1) (out++[fixF i x]) fs else ou id (i+1) out fs)else out
def pL (d:Dc):Dc:=(d.1,ou d.1 0 [] d.2)
def tg (l:List Fd):Prop:=∀x∈l,x.1.length≤12∧x.2.length≤40
theorem DJ {s:List UInt8} (h:fX s=true):s.length≤12:=by
 simp only[fX,bU,decide_eq_true_eq]at h;omega
theorem yR {i:Nat} (x:Fd) (hi:i<4):(fixF i x).1.length≤12∧(fixF i x).2.length≤40:=by
 refine⟨?_,by simp only[fixF,bH];omega⟩;unfold fixF;dsimp only
 split
 ·exact DJ (by assumption)
 ·have h:i=0∨i=1∨i=2∨i=3:=by omega
  rcases h with rfl|rfl|rfl|rfl<;>decide
theorem tg.snoc {l:List Fd} {x:Fd} (h:tg l) (hx:x.1.length≤12∧x.2.length≤40):tg (l++[x]):=fun y hy=>by
 rcases cp.1 hy with hy|hy
 ·exact h y hy
 ·rw[bJ.1 hy];exact hx
theorem LQ {id:Int} {fs:List Fd} {i:Nat} {out:List Fd} {x:Fd} (h:fs[i]? =some x) (hi:i<4):ou id i out (fs.drop i)=if lO (id,out++[fixF i x])=0 then ou id (i+1) (out++[fixF i x]) (fs.drop (i+1))else ou id (i+1) out (fs.drop (i+1)):=by
 have dR:=(ao.1 h).1;rw[dB dR,(ao.1 h).2];show(if i<4 then _ else _)=_;rw[if_pos hi]
theorem A4 {id:Int} {fs:List Fd} {i:Nat} {out:List Fd} (h:fs.length≤i∨4≤i):ou id i out (fs.drop i)=out:=by
 cases hd:fs.drop i with
 |nil=>rfl
 |cons x r=>
  show(if i<4 then _ else _)=_;rw[if_neg];rcases h with h|h
  ·rw[gO h]at hd;cases hd
  ·omega
theorem DK (l:List UInt8):l.take (min (l.length:Int) 40).toNat=l.take 40:=by
 by_cases h:l.length≤40
 ·rw[aW (by omega),aW h]
 ·congr 1;omega
theorem Jh {M:aD} {d:Dc} {v0:Value} (w0:World) (hM:Lt M w0) (hv:RT.dc.V M w0 d v0):
  Spec Tryz.prog 44 #[v0] w0 (fun v w=>RT.dc.V M w (pL d) v∧Step M w0 M w aC):=by
 have jM:=hM
 have hdi: -9223372036854775808≤d.1∧d.1≤9223372036854775807:=by
  obtain⟨vs,⟨va,vb,_,⟨_,h1,h2⟩,_⟩,_⟩:=hv;exact⟨h1,h2⟩
 refine bc (args:=[_]) (fn:=Tryz.f44) Tryz.func44 rfl (n:=67) Tryz.ntmps44 ?_;have S:Step M w0 M w0 aC:=(aw _ _).cA (fun _ h=>h.elim) (fun _ h=>h.elim);refine aj (ae ?_);refine qc (A:=RT.dc) rfl rfl hM hv rfl (fun u0 w1 dn s0 _=>?_);replace hM:=s0.lt hM;have:=S.size;replace S:=S.aB s0;refine dP M o5 rfl (fun pg Gj UB UC fU nG=>?_);obtain⟨fj,mE⟩:∃M',M'=ins M pg:=⟨_,rfl⟩;rw[←mE]at nG;have eW:fj pg:=by rw[mE];exact .inl rfl
 change Gj.heap[pg]? =some (.cells #[.int .i64 0,.slice none 0 0] _ _)at fU;replace dn:=dn.le (by decide) nG.le;replace hM:=nG.lt hM;have:=S.size;replace S:=S.aB nG;refine ab (aj (ae ?_));refine aN (M:=fj) (A:=RT.dc) (B:=RT.int .i64) bg rfl rfl I3 (by decide) (YJ) rfl rfl (by decide) (by assumption) (by repeat (first|exact aq _ _|refine a8 (bD (by assumption)) ?_)) (fun B6 ni=>?_);refine cb (M:=fj) ax rfl rfl (by assumption) (by repeat (first|exact aq _ _|refine a8 (bD (by assumption)) ?_)) (fun RR=>?_);refine iC (places:=[(0,1),(1,1)]) bg o5 B69 rfl ⟨_,_,rfl,rfl,rfl⟩ (out:=[_,.slice none 0 0]) ⟨0,[_],rfl,rfl,by simp[Value.cells],rfl⟩ ?_;refine dP fj o5 rfl (fun xw Ja aeS aeT lh s1_3=>?_);obtain⟨nk,yS⟩:∃M',M'=ins fj xw:=⟨_,rfl⟩;rw[←yS]at s1_3;have jV:nk xw:=by rw[yS];exact .inl rfl
 change Ja.heap[xw]? =some (.cells #[.int .i64 0,.slice none 0 0] _ _)at lh;have:=ak fU;replace eW:=(s1_3.mem _ this).2 eW;replace fU:=s1_3.aK fU;replace dn:=dn.le (by decide) s1_3.le;replace hM:=s1_3.lt hM;have:=S.size;replace S:=S.aB s1_3;refine dC (M:=nk) (vs:=[.int .i64 d.1,.slice none 0 0]) o5 rfl rfl (by intro u hu;simp at hu;rcases hu with rfl|rfl<;>first|rfl|exact lE (by assumption) rfl rfl) rfl rfl lh jV (fun w1b aeU UD=>?_);have:=ak fU;replace eW:=(UD.mem _ this).2 eW;replace fU:=UD.keep fU (fun hk=>by have hk:_=_:=hk;omega);have:=ak lh;replace jV:=(UD.mem _ this).2 jV;replace dn:=dn.le (by decide) UD.le;replace hM:=UD.lt hM;have:=S.size;replace S:=S.trans UD (fun k hk h=>by have h:_=_:=h;subst h;first|(exfalso;omega)|(show _≤_;omega)|exact⟨by first|omega|assumption,(S.mem _ hk).1 ((UD.mem _ (ak lh)).1 jV)⟩|exact .inl rfl|exact .inr rfl|exact .inr (.inl rfl)|exact .inr (.inr rfl)|exact .inr (.inr (.inl rfl))|exact rfl);have DL:=aeU;clear lh;have lh:=DL;clear DL;refine ab (aj (ae ?_));refine Rg.W2 (A:=RT.str) (hn:=by decide) (M:=nk) (xs:=DI) aI I9 rfl (by decide) rfl ⟨_,_,_,rfl,rfl,rfl,kG.2 ⟨rfl,by decide⟩,_,_,_,rfl,rfl,rfl,kG.2 ⟨rfl,by decide⟩,_,_,_,rfl,rfl,rfl,kG.2 ⟨rfl,by decide⟩,_,_,_,rfl,rfl,rfl,kG.2 ⟨rfl,by decide⟩,rfl⟩ rfl hM (.inr ⟨rfl,rfl⟩) (by decide) (fun u2 w2 dK s2=>?_);have:=ak fU;replace eW:=(s2.mem _ this).2 eW;replace fU:=s2.aK fU;have:=ak lh;replace jV:=(s2.mem _ this).2 jV;replace lh:=s2.aK lh;replace dn:=dn.le (by decide) s2.le;replace hM:=s2.lt hM;have:=S.size;replace S:=S.aB s2;refine ah rfl rfl (ab (aj (aj (ae (ah rfl rfl (ab (aZ ?_)))))));refine de (σ:=Nat×List Fd) (fun q=>[(1,u0),(2,.pointer (some ⟨pg,0,none⟩)),(3,.pointer (some ⟨xw,0,none⟩)),(4,u2),(5,.int .i64 (q.1:Int))]) (fun q w=>∃M' uo,Lt M' w∧Step M w0 M' w aC∧cN RT.dc M' w u0 d∧(RT.str.sl).V M' w DI u2∧w.heap[pg]? =some (.cells #[.int .i64 0,.slice none 0 0] 69 (0,0))∧M' pg∧w.heap[xw]? =some (.cells #[.int .i64 d.1,uo] 69 (0,0))∧M' xw∧(RT.fd.sl).V M' w q.2 uo∧ou d.1 0 [] d.2=ou d.1 q.1 q.2 (d.2.drop q.1)∧q.1≤d.2.length∧q.1≤4∧tg q.2∧q.2.length≤q.1) (fun q=>d.2.length-q.1) (0,[]) (.cons rfl (.cons rfl (.cons rfl (.cons rfl (.cons rfl .nil))))) ?_ ?_
 ·exact⟨_,.slice none 0 0,hM,S,dn,dK,fU,eW,lh,jV,pE,rfl,bE _,bE _,(fun x hx=>by cases hx),aT _⟩
 ·rintro⟨i,out⟩ w ⟨M1,uo,hM,S,dn,dK,g2,dE,g3,eU,fk,o9,hi,aeV,BF,fy⟩;dsimp only at g3 fk o9 hi aeV BF fy ⊢;refine aj (aj (ae (ad rfl rfl ?_)));refine aN (M:=M1) (A:=RT.dc) (B:=(RT.fd).sl) bg rfl rfl vE (by decide) (Jd) rfl rfl (by decide) (by assumption) (by repeat (first|exact aq _ _|refine a8 (bD (by assumption)) ?_)) (fun YE YR=>?_);refine bT (M:=M1) bu rfl rfl rfl rfl rfl (by assumption) (by repeat (first|exact aq _ _|refine a8 (bD (by assumption)) ?_)) (fun aoB YS=>?_);refine bM bu rfl YS rfl (cj rfl rfl rfl (ad rfl rfl ?_));refine aQ (g:=18) rfl (fun vI=>?_) (fun vI=>?_)
  ·refine al rfl rfl (ad rfl rfl (al rfl rfl (cj rfl rfl rfl (aY rfl rfl rfl (ab ?_)))));refine bN rfl (fun c4=>?_) (fun c4=>?_)
   ·refine aU (aj (aZ (aj (ae ?_))));refine aN (M:=M1) (A:=RT.dc) (B:=(RT.fd).sl) bg rfl rfl vE (by decide) (Jd) rfl rfl (by decide) (by assumption) (by repeat (first|exact aq _ _|refine a8 (bD (by assumption)) ?_)) (fun YT LR=>?_);refine bT (M:=M1) bu rfl rfl rfl rfl rfl (by assumption) (by repeat (first|exact aq _ _|refine a8 (bD (by assumption)) ?_)) (fun UE yT=>?_);refine ad rfl rfl ?_;refine cy (M:=M1) bu kE rfl rfl rfl yT (aq _ _) (by omega) (fun u6 x Kg Gc=>?_);rw[ay]at Kg;have Xz:i<4:=by omega
    have hga:=LQ (id:=d.1) (out:=out) Kg Xz;have RS:=yR x Xz;refine cX (M:=M1) (A:=RT.fd) cv rfl kE (by decide) rfl rfl rfl Gc (aq _ _) (fun v6 wT=>?_);obtain rfl:=tf wT;have hxb:=Uo wT;refine dP M1 kE rfl (fun UF YU aoD aoE dM nH=>?_);obtain⟨mF,LS⟩:∃M',M'=ins M1 UF:=⟨_,rfl⟩;rw[←LS]at nH;have dh:mF UF:=by rw[LS];exact .inl rfl
    change YU.heap[UF]? =some (.cells #[.string ⟨#[]⟩,.string ⟨#[]⟩] _ _)at dM;have:=ak g2;replace dE:=(nH.mem _ this).2 dE;replace g2:=nH.aK g2;have:=ak g3;replace eU:=(nH.mem _ this).2 eU;replace g3:=nH.aK g3;replace dn:=dn.le (by decide) nH.le;replace dK:=dK.le nH.le;replace fk:=fk.le nH.le;replace hM:=nH.lt hM;have:=S.size;replace S:=S.aB nH;refine dC (M:=mF) (vs:=[.string ⟨x.1.toArray⟩,.string ⟨x.2.toArray⟩]) kE rfl rfl (by intro u hu;simp at hu;rcases hu with rfl|rfl<;>first|rfl|exact lE (by assumption) rfl rfl) rfl rfl dM dh (fun w6b aeW LU=>?_);have:=ak g2;replace dE:=(LU.mem _ this).2 dE;replace g2:=LU.keep g2 (fun hk=>by have hk:_=_:=hk;omega);have:=ak g3;replace eU:=(LU.mem _ this).2 eU;replace g3:=LU.keep g3 (fun hk=>by have hk:_=_:=hk;omega);have:=ak dM;replace dh:=(LU.mem _ this).2 dh;replace dn:=dn.le (by decide) LU.le;replace dK:=dK.le LU.le;replace fk:=fk.le LU.le;replace hM:=LU.lt hM;have:=S.size;replace S:=S.trans LU (fun k hk h=>by have h:_=_:=h;subst h;first|(exfalso;omega)|(show _≤_;omega)|exact⟨by first|omega|assumption,(S.mem _ hk).1 ((LU.mem _ (ak dM)).1 dh)⟩|exact .inl rfl|exact .inr rfl|exact .inr (.inl rfl)|exact .inr (.inr rfl)|exact .inr (.inr (.inl rfl))|exact rfl);have qA:=aeW;clear dM;have dM:=qA;clear qA;refine ab (aj (ae (bG (o':=0) cv rfl rfl I9 (by decide) rfl rfl (aM aJ rfl rfl rfl (by assumption) rfl ?_))));refine aX rfl rfl E93 (yO x.1 hxb.1 _) (fun r7 w7 hc=>?_);obtain⟨rfl,rfl⟩:=hc;refine ah rfl rfl (ab (aj (aj (ae (ad rfl rfl (lH rfl rfl (aV (v':= .bool (decide (fX x.1=false))) (by cases fX x.1<;>rfl) (ab ?_))))))));refine bN rfl (fun c8=>?_) (fun c8=>?_)
    ·refine ae (ad rfl rfl (ad rfl rfl ?_));refine cy (M:=mF) aI I9 rfl rfl rfl dK (aq _ _) (by have:DI.length=4:=rfl;omega) (fun u9 y RU YV=>?_);rw[ay]at RU;refine bT (M:=mF) aJ rfl rfl rfl rfl rfl YV (aq _ _) (fun v9 DM=>?_);obtain rfl:=fS DM
     obtain rfl:y=(fixF i x).1:=by
      show y=if fX x.1=true then x.1 else DI.getD i []
      rw[if_neg (by rw[c8];simp),az,RU];rfl
     refine bG (o':=0) cv rfl rfl I9 (by decide) rfl rfl ?_;refine cu (M:=mF) I9 rfl rfl dM rfl (rfl) dh (fun YF YW qz=>?_);change YF.heap[_]? =some (Obj.cells #[.string ⟨((fixF i x).1).toArray⟩,.string ⟨x.2.toArray⟩] _ _)at YW;have:=ak g2;replace dE:=(qz.mem _ this).2 dE;replace g2:=qz.keep g2 (fun hk=>by have hk:_=_:=hk;omega);have:=ak g3;replace eU:=(qz.mem _ this).2 eU;replace g3:=qz.keep g3 (fun hk=>by have hk:_=_:=hk;omega);have:=ak dM;replace dh:=(qz.mem _ this).2 dh;replace dn:=dn.le (by decide) qz.le;replace dK:=dK.le qz.le;replace fk:=fk.le qz.le;replace hM:=qz.lt hM;have:=S.size;replace S:=S.trans qz (fun k hk h=>by have h:_=_:=h;subst h;first|(exfalso;omega)|(show _≤_;omega)|exact⟨by first|omega|assumption,(S.mem _ hk).1 ((qz.mem _ (ak dM)).1 dh)⟩|exact .inl rfl|exact .inr rfl|exact .inr (.inl rfl)|exact .inr (.inr rfl)|exact .inr (.inr (.inl rfl))|exact rfl);have qA:=YW;clear dM;have dM:=qA;clear qA;refine ab (aj (ae (bG (o':=1) cv rfl rfl I9 (by decide) rfl rfl (aM aJ rfl rfl rfl (by assumption) rfl (bG (o':=1) cv rfl rfl I9 (by decide) rfl rfl (aM aJ rfl rfl rfl (by assumption) rfl (Rg.nz aJ rfl rfl (aV (v':= .int .i64 (x.2.length:Int)) (by simp[ByteArray.size]) (Rg.min2 rfl rfl rfl (Rg.RC aJ rfl rfl rfl (by omega) (aV (v':= .string ⟨((fixF i x).2).toArray⟩) (by rw[DK];rfl) ?_)))))))))));refine bG (o':=1) cv rfl rfl I9 (by decide) rfl rfl ?_;refine cu (M:=mF) I9 rfl rfl dM rfl (rfl) dh (fun HQ DN gM=>?_);change HQ.heap[_]? =some (Obj.cells #[.string ⟨((fixF i x).1).toArray⟩,.string ⟨((fixF i x).2).toArray⟩] _ _)at DN;have:=ak g2;replace dE:=(gM.mem _ this).2 dE;replace g2:=gM.keep g2 (fun hk=>by have hk:_=_:=hk;omega)
     have:=ak g3;replace eU:=(gM.mem _ this).2 eU;replace g3:=gM.keep g3 (fun hk=>by have hk:_=_:=hk;omega);have:=ak dM;replace dh:=(gM.mem _ this).2 dh;replace dn:=dn.le (by decide) gM.le;replace dK:=dK.le gM.le;replace fk:=fk.le gM.le;replace hM:=gM.lt hM;have:=S.size;replace S:=S.trans gM (fun k hk h=>by have h:_=_:=h;subst h;first|(exfalso;omega)|(show _≤_;omega)|exact⟨by first|omega|assumption,(S.mem _ hk).1 ((gM.mem _ (ak dM)).1 dh)⟩|exact .inl rfl|exact .inr rfl|exact .inr (.inl rfl)|exact .inr (.inr rfl)|exact .inr (.inr (.inl rfl))|exact rfl);have qA:=DN;clear dM;have dM:=qA;clear qA;refine ab (aj (ae ?_));refine aN (M:=mF) (A:=RT.dc) (B:=RT.int .i64) bg rfl rfl I3 (by decide) (YJ) rfl rfl (by decide) (by assumption) (by repeat (first|exact aq _ _|refine a8 (bD (by assumption)) ?_)) (fun RV LV=>?_);refine cb (M:=mF) ax rfl rfl (by assumption) (by repeat (first|exact aq _ _|refine a8 (bD (by assumption)) ?_)) (fun UG=>?_);refine iC (places:=[(0,1),(1,1)]) bg o5 B69 rfl ⟨_,_,rfl,rfl,rfl⟩ (out:=[_,.slice none 0 0]) ⟨0,[_],rfl,rfl,by simp[Value.cells],rfl⟩ ?_;refine dP mF o5 rfl (fun yU DO YX YY cU fA=>?_);obtain⟨th,tY⟩:∃M',M'=ins mF yU:=⟨_,rfl⟩;rw[←tY]at fA;have cP:th yU:=by rw[tY];exact .inl rfl
     change DO.heap[yU]? =some (.cells #[.int .i64 0,.slice none 0 0] _ _)at cU;have:=ak g2;replace dE:=(fA.mem _ this).2 dE;replace g2:=fA.aK g2;have:=ak g3;replace eU:=(fA.mem _ this).2 eU;replace g3:=fA.aK g3;have:=ak dM;replace dh:=(fA.mem _ this).2 dh;replace dM:=fA.aK dM;replace dn:=dn.le (by decide) fA.le;replace dK:=dK.le fA.le;replace fk:=fk.le fA.le;replace hM:=fA.lt hM;have:=S.size;replace S:=S.aB fA;refine dC (M:=th) (vs:=[.int .i64 d.1,.slice none 0 0]) o5 rfl rfl (by intro u hu;simp at hu;rcases hu with rfl|rfl<;>first|rfl|exact lE (by assumption) rfl rfl) rfl rfl cU cP (fun B8 LW kO=>?_);have:=ak g2;replace dE:=(kO.mem _ this).2 dE;replace g2:=kO.keep g2 (fun hk=>by have hk:_=_:=hk;omega);have:=ak g3;replace eU:=(kO.mem _ this).2 eU;replace g3:=kO.keep g3 (fun hk=>by have hk:_=_:=hk;omega);have:=ak dM;replace dh:=(kO.mem _ this).2 dh;replace dM:=kO.keep dM (fun hk=>by have hk:_=_:=hk;omega);have:=ak cU;replace cP:=(kO.mem _ this).2 cP;replace dn:=dn.le (by decide) kO.le;replace dK:=dK.le kO.le;replace fk:=fk.le kO.le;replace hM:=kO.lt hM;have:=S.size;replace S:=S.trans kO (fun k hk h=>by have h:_=_:=h;subst h;first|(exfalso;omega)|(show _≤_;omega)|exact⟨by first|omega|assumption,(S.mem _ hk).1 ((kO.mem _ (ak cU)).1 cP)⟩|exact .inl rfl|exact .inr rfl|exact .inr (.inl rfl)|exact .inr (.inr rfl)|exact .inr (.inr (.inl rfl))|exact rfl);have jn:=LW;clear cU;have cU:=jn;clear jn;refine ab (aj (ae (bG (o':=1) bg rfl rfl vE (by decide) rfl rfl (aM bu rfl rfl rfl (by assumption) rfl (bG (o':=1) bg rfl rfl vE (by decide) rfl rfl (aM bu rfl rfl rfl (by assumption) rfl ?_))))));have dv:=Own.RJ RT.fd 166 B8.heap.size hM
     have aeX:=ak dM;have LX:w0.heap.size≤B8.heap.size:=S.size;refine cZ (M:=th) (base:=B8.heap.size) bu kE rfl rfl rfl rfl dv fk (aq _ _) (by simp;omega) (by simp;omega) (aT _) (fun yM qy LD td eT=>?_);have:=ak g2;replace dE:=(eT.mem _ this).2 dE;replace g2:=eT.keep g2 (fun h=>by first|exact dv.eg g2 h|exact dv.eI g2 (by decide) h|(have:=(dv.base _ h).1;omega));have:=ak g3;replace eU:=(eT.mem _ this).2 eU;replace g3:=eT.keep g3 (fun h=>by first|exact dv.eg g3 h|exact dv.eI g3 (by decide) h|(have:=(dv.base _ h).1;omega));have:=ak dM;replace dh:=(eT.mem _ this).2 dh;replace dM:=eT.keep dM (fun h=>by first|exact dv.eg dM h|exact dv.eI dM (by decide) h|(have:=(dv.base _ h).1;omega));have:=ak cU;replace cP:=(eT.mem _ this).2 cP;replace cU:=eT.keep cU (fun h=>by first|exact dv.eg cU h|exact dv.eI cU (by decide) h|(have:=(dv.base _ h).1;omega));replace dn:=dn.le (by decide) eT.le;replace dK:=dK.le eT.le;replace fk:=fk.le eT.le;replace hM:=eT.lt hM;have:=S.size;replace S:=S.dg eT dv LX;replace dv:=td;refine bG (o':=1) bg rfl rfl vE (by decide) rfl rfl ?_;refine cu (M:=qy) vE rfl rfl cU rfl ((by obtain⟨_,_,he,_⟩:=dv.isSlice;rw[he];rfl)) cP (fun LY DP gB=>?_);change LY.heap[_]? =some (Obj.cells #[.int .i64 d.1,yM] _ _)at DP;have:=ak g2;replace dE:=(gB.mem _ this).2 dE;replace g2:=gB.keep g2 (fun hk=>by have hk:_=_:=hk;omega);have:=ak g3;replace eU:=(gB.mem _ this).2 eU;replace g3:=gB.keep g3 (fun hk=>by have hk:_=_:=hk;omega);have:=ak dM;replace dh:=(gB.mem _ this).2 dh;replace dM:=gB.keep dM (fun hk=>by have hk:_=_:=hk;omega);have:=ak cU;replace cP:=(gB.mem _ this).2 cP
     replace dn:=dn.le (by decide) gB.le;replace dK:=dK.le gB.le;replace fk:=fk.le gB.le;replace dv:=dv.step gB (fun b hb hk=>by have hk:_=_:=hk;have:=(dv.base b hb);omega);replace hM:=gB.lt hM;have:=S.size;replace S:=S.trans gB (fun k hk h=>by have h:_=_:=h;subst h;first|(exfalso;omega)|(show _≤_;omega)|exact⟨by first|omega|assumption,(S.mem _ hk).1 ((gB.mem _ (ak cU)).1 cP)⟩|exact .inl rfl|exact .inr rfl|exact .inr (.inl rfl)|exact .inr (.inr rfl)|exact .inr (.inr (.inl rfl))|exact rfl);have jn:=DP;clear cU;have cU:=jn;clear jn;refine ab (aj (ae (bG (o':=1) bg rfl rfl vE (by decide) rfl rfl (aM bu rfl rfl rfl (by assumption) rfl (fE (vs:=[.string ⟨((fixF i x).1).toArray⟩,.string ⟨((fixF i x).2).toArray⟩]) cv rfl kE rfl rfl rfl dM ?_)))));refine ed (A:=RT.fd) (hn:=by decide) (M:=qy) bu kE (by decide) rfl rfl hM (show RT.fd.V _ _ (fixF i x) _ from eS (kG.2 ⟨rfl,ez RS.1 (by decide)⟩) (kG.2 ⟨rfl,ez RS.2 (by decide)⟩) rfl rfl rfl rfl) (.inl rfl) (fun RP YZ fT gC=>?_);have:=ak g2;replace dE:=(gC.mem _ this).2 dE;replace g2:=gC.aK g2;have:=ak g3;replace eU:=(gC.mem _ this).2 eU;replace g3:=gC.aK g3;have:=ak dM;replace dh:=(gC.mem _ this).2 dh;replace dM:=gC.aK dM;have:=ak cU;replace cP:=(gC.mem _ this).2 cP;replace cU:=gC.aK cU;replace dn:=dn.le (by decide) gC.le;replace dK:=dK.le gC.le;replace fk:=fk.le gC.le;replace dv:=dv.aP gC;replace hM:=gC.lt hM;have:=S.size;replace S:=S.aB gC;refine cZ (M:=qy) (base:=B8.heap.size) bu kE rfl rfl rfl rfl dv fT (aq _ _) (by simp;omega) (by simp;omega) (by have:=eT.size;have:=gB.size;have:=gC.size;omega) (fun fP mG RW Gk eV=>?_)
     have:=ak g2;replace dE:=(eV.mem _ this).2 dE;replace g2:=eV.keep g2 (fun h=>by first|exact dv.eg g2 h|exact dv.eI g2 (by decide) h|(have:=(dv.base _ h).1;omega));have:=ak g3;replace eU:=(eV.mem _ this).2 eU;replace g3:=eV.keep g3 (fun h=>by first|exact dv.eg g3 h|exact dv.eI g3 (by decide) h|(have:=(dv.base _ h).1;omega));have:=ak dM;replace dh:=(eV.mem _ this).2 dh;replace dM:=eV.keep dM (fun h=>by first|exact dv.eg dM h|exact dv.eI dM (by decide) h|(have:=(dv.base _ h).1;omega));have:=ak cU;replace cP:=(eV.mem _ this).2 cP;replace cU:=eV.keep cU (fun h=>by first|exact dv.eg cU h|exact dv.eI cU (by decide) h|(have:=(dv.base _ h).1;omega));replace dn:=dn.le (by decide) eV.le;replace dK:=dK.le eV.le;replace fk:=fk.le eV.le;replace fT:=fT.le eV.le;replace hM:=eV.lt hM;have:=S.size;replace S:=S.dg eV dv LX;replace dv:=Gk;refine bG (o':=1) bg rfl rfl vE (by decide) rfl rfl ?_;refine cu (M:=mG) vE rfl rfl cU rfl ((by obtain⟨_,_,he,_⟩:=dv.isSlice;rw[he];rfl)) cP (fun LZ DQ gD=>?_);change LZ.heap[_]? =some (Obj.cells #[.int .i64 d.1,fP] _ _)at DQ;have:=ak g2;replace dE:=(gD.mem _ this).2 dE;replace g2:=gD.keep g2 (fun hk=>by have hk:_=_:=hk;omega);have:=ak g3;replace eU:=(gD.mem _ this).2 eU;replace g3:=gD.keep g3 (fun hk=>by have hk:_=_:=hk;omega);have:=ak dM;replace dh:=(gD.mem _ this).2 dh;replace dM:=gD.keep dM (fun hk=>by have hk:_=_:=hk;omega);have:=ak cU;replace cP:=(gD.mem _ this).2 cP;replace dn:=dn.le (by decide) gD.le;replace dK:=dK.le gD.le;replace fk:=fk.le gD.le;replace fT:=fT.le gD.le;replace dv:=dv.step gD (fun b hb hk=>by have hk:_=_:=hk;have:=(dv.base b hb);omega);replace hM:=gD.lt hM
     have:=S.size;replace S:=S.trans gD (fun k hk h=>by have h:_=_:=h;subst h;first|(exfalso;omega)|(show _≤_;omega)|exact⟨by first|omega|assumption,(S.mem _ hk).1 ((gD.mem _ (ak cU)).1 cP)⟩|exact .inl rfl|exact .inr rfl|exact .inr (.inl rfl)|exact .inr (.inr rfl)|exact .inr (.inr (.inl rfl))|exact rfl);have jn:=DQ;clear cU;have cU:=jn;clear jn;refine ab (aj (ae (fE (vs:=[.int .i64 d.1,fP]) bg rfl o5 rfl rfl rfl cU ?_)));have rZ:=dv.view (hn:=by decide) (by simp;omega);replace dE:rm mG fP _:=⟨dE,by first|exact dv.eI g2 (by decide)|(intro h;have:=(dv.base _ h).1;omega)⟩;replace eU:rm mG fP _:=⟨eU,by first|exact dv.eI g3 (by decide)|(intro h;have:=(dv.base _ h).1;omega)⟩;replace dh:rm mG fP _:=⟨dh,by first|exact dv.eI dM (by decide)|(intro h;have:=(dv.base _ h).1;omega)⟩;replace cP:rm mG fP _:=⟨cP,by first|exact dv.eI cU (by decide)|(intro h;have:=(dv.base _ h).1;omega)⟩;replace dn:=dn.le (by decide) (fg _ fP _);replace dK:=dK.le (fg _ fP _);replace fk:=fk.le (fg _ fP _);replace fT:=fT.le (fg _ fP _);replace hM:Lt (rm mG fP) _:=fun b hb=>hM b hb.1
     replace S:=S.freeze (v:=fP) (fun b hb=>by have:=(dv.base b hb).1;omega);clear dv;refine aX rfl rfl E94 (A3 (d:=(d.1,[]++out++[fixF i x])) _ hM (eS (fV hdi) rZ rfl rfl rfl rfl) (fun y hy=>by have:=(BF.snoc RS) y (by simpa using hy);omega)) (fun r14 UH hc=>?_);obtain⟨rfl,jW⟩:=hc;rw[fK]at rZ;have:=ak g2;replace dE:=(jW.mem _ this).2 dE;replace g2:=jW.aK g2;have:=ak g3;replace eU:=(jW.mem _ this).2 eU;replace g3:=jW.aK g3;have:=ak dM;replace dh:=(jW.mem _ this).2 dh;replace dM:=jW.aK dM;have:=ak cU;replace cP:=(jW.mem _ this).2 cP;replace cU:=jW.aK cU;replace dn:=dn.le (by decide) jW.le;replace dK:=dK.le jW.le;replace fk:=fk.le jW.le;replace fT:=fT.le jW.le;replace rZ:=rZ.le jW.le;replace hM:=jW.lt hM;have:=S.size;replace S:=S.aB jW;refine nX rfl rfl rfl (aV (v':= .bool (decide (lO (d.1,out++[fixF i x])=0))) (by rw[fK]) (ab ?_));refine bN rfl (fun Ki=>?_) (fun Ki=>?_)
     ·refine ae (fE (vs:=[.int .i64 d.1,fP]) bg rfl o5 rfl rfl rfl cU ?_);refine dC (M:=rm mG fP) (vs:=[.int .i64 d.1,fP]) o5 rfl rfl (by intro u hu;simp at hu;rcases hu with rfl|rfl<;>first|rfl|exact lE (by assumption) rfl rfl) rfl rfl g3 eU (fun aeY L0 jX=>?_);have:=ak g2;replace dE:=(jX.mem _ this).2 dE;replace g2:=jX.keep g2 (fun hk=>by have hk:_=_:=hk;omega);have:=ak g3;replace eU:=(jX.mem _ this).2 eU;have:=ak dM;replace dh:=(jX.mem _ this).2 dh;replace dM:=jX.keep dM (fun hk=>by have hk:_=_:=hk;omega);have:=ak cU;replace cP:=(jX.mem _ this).2 cP;replace cU:=jX.keep cU (fun hk=>by have hk:_=_:=hk;omega);replace dn:=dn.le (by decide) jX.le;replace dK:=dK.le jX.le;replace fk:=fk.le jX.le;replace fT:=fT.le jX.le;replace rZ:=rZ.le jX.le;replace hM:=jX.lt hM;have:=S.size;replace S:=S.trans jX (fun k hk h=>by have h:_=_:=h;subst h;first|(exfalso;omega)|(show _≤_;omega)|exact⟨by first|omega|assumption,(S.mem _ hk).1 ((jX.mem _ (ak g3)).1 eU)⟩|exact .inl rfl|exact .inr rfl|exact .inr (.inl rfl)|exact .inr (.inr rfl)|exact .inr (.inr (.inl rfl))|exact rfl);have Y0:=L0;clear g3;have g3:=Y0;clear Y0;refine ab (ae (ad rfl rfl (bF rfl rfl rfl (by omega) (ah rfl rfl (ab ?_)))));refine⟨rfl,(i+1,out++[fixF i x]),(.cons rfl (.cons rfl (.cons rfl (.cons rfl (.cons rfl .nil))))),?_,?_⟩
      ·exact⟨_,_,hM,S,dn,dK,g2,dE,g3,eU,rZ,by rw[o9,hga,if_pos Ki],by dsimp only;omega,by dsimp only;omega,BF.snoc RS,by simp;omega⟩
      ·dsimp only;omega
     ·refine aU (ae (ad rfl rfl (bF rfl rfl rfl (by omega) (ah rfl rfl (ab ?_)))));refine⟨rfl,(i+1,out),(.cons rfl (.cons rfl (.cons rfl (.cons rfl (.cons rfl .nil))))),?_,?_⟩
      ·exact⟨_,_,hM,S,dn,dK,g2,dE,g3,eU,fk,by rw[o9,hga,if_neg Ki],by dsimp only;omega,by dsimp only;omega,BF,by dsimp only;omega⟩
      ·dsimp only;omega
    ·rw[show x.1=(fixF i x).1 from by show x.1=if fX x.1=true then x.1 else _;rw[if_pos (by cases hq:fX x.1 with|true=>rfl|false=>exact absurd hq c8)]]at dM;refine aU (aj (ae (bG (o':=1) cv rfl rfl I9 (by decide) rfl rfl (aM aJ rfl rfl rfl (by assumption) rfl (bG (o':=1) cv rfl rfl I9 (by decide) rfl rfl (aM aJ rfl rfl rfl (by assumption) rfl (Rg.nz aJ rfl rfl (aV (v':= .int .i64 (x.2.length:Int)) (by simp[ByteArray.size]) (Rg.min2 rfl rfl rfl (Rg.RC aJ rfl rfl rfl (by omega) (aV (v':= .string ⟨((fixF i x).2).toArray⟩) (by rw[DK];rfl) ?_)))))))))));refine bG (o':=1) cv rfl rfl I9 (by decide) rfl rfl ?_;refine cu (M:=mF) I9 rfl rfl dM rfl (rfl) dh (fun HQ DN gM=>?_);change HQ.heap[_]? =some (Obj.cells #[.string ⟨((fixF i x).1).toArray⟩,.string ⟨((fixF i x).2).toArray⟩] _ _)at DN;have:=ak g2;replace dE:=(gM.mem _ this).2 dE;replace g2:=gM.keep g2 (fun hk=>by have hk:_=_:=hk;omega);have:=ak g3;replace eU:=(gM.mem _ this).2 eU;replace g3:=gM.keep g3 (fun hk=>by have hk:_=_:=hk;omega);have:=ak dM;replace dh:=(gM.mem _ this).2 dh;replace dn:=dn.le (by decide) gM.le;replace dK:=dK.le gM.le;replace fk:=fk.le gM.le;replace hM:=gM.lt hM;have:=S.size;replace S:=S.trans gM (fun k hk h=>by have h:_=_:=h;subst h;first|(exfalso;omega)|(show _≤_;omega)|exact⟨by first|omega|assumption,(S.mem _ hk).1 ((gM.mem _ (ak dM)).1 dh)⟩|exact .inl rfl|exact .inr rfl|exact .inr (.inl rfl)|exact .inr (.inr rfl)|exact .inr (.inr (.inl rfl))|exact rfl);have qA:=DN;clear dM;have dM:=qA;clear qA;refine ab (aj (ae ?_));refine aN (M:=mF) (A:=RT.dc) (B:=RT.int .i64) bg rfl rfl I3 (by decide) (YJ) rfl rfl (by decide) (by assumption) (by repeat (first|exact aq _ _|refine a8 (bD (by assumption)) ?_)) (fun RV LV=>?_)
     refine cb (M:=mF) ax rfl rfl (by assumption) (by repeat (first|exact aq _ _|refine a8 (bD (by assumption)) ?_)) (fun UG=>?_);refine iC (places:=[(0,1),(1,1)]) bg o5 B69 rfl ⟨_,_,rfl,rfl,rfl⟩ (out:=[_,.slice none 0 0]) ⟨0,[_],rfl,rfl,by simp[Value.cells],rfl⟩ ?_;refine dP mF o5 rfl (fun yU DO YX YY cU fA=>?_);obtain⟨th,tY⟩:∃M',M'=ins mF yU:=⟨_,rfl⟩;rw[←tY]at fA;have cP:th yU:=by rw[tY];exact .inl rfl
     change DO.heap[yU]? =some (.cells #[.int .i64 0,.slice none 0 0] _ _)at cU;have:=ak g2;replace dE:=(fA.mem _ this).2 dE;replace g2:=fA.aK g2;have:=ak g3;replace eU:=(fA.mem _ this).2 eU;replace g3:=fA.aK g3;have:=ak dM;replace dh:=(fA.mem _ this).2 dh;replace dM:=fA.aK dM;replace dn:=dn.le (by decide) fA.le;replace dK:=dK.le fA.le;replace fk:=fk.le fA.le;replace hM:=fA.lt hM;have:=S.size;replace S:=S.aB fA;refine dC (M:=th) (vs:=[.int .i64 d.1,.slice none 0 0]) o5 rfl rfl (by intro u hu;simp at hu;rcases hu with rfl|rfl<;>first|rfl|exact lE (by assumption) rfl rfl) rfl rfl cU cP (fun B8 LW kO=>?_);have:=ak g2;replace dE:=(kO.mem _ this).2 dE;replace g2:=kO.keep g2 (fun hk=>by have hk:_=_:=hk;omega);have:=ak g3;replace eU:=(kO.mem _ this).2 eU;replace g3:=kO.keep g3 (fun hk=>by have hk:_=_:=hk;omega);have:=ak dM;replace dh:=(kO.mem _ this).2 dh;replace dM:=kO.keep dM (fun hk=>by have hk:_=_:=hk;omega);have:=ak cU;replace cP:=(kO.mem _ this).2 cP;replace dn:=dn.le (by decide) kO.le;replace dK:=dK.le kO.le;replace fk:=fk.le kO.le;replace hM:=kO.lt hM;have:=S.size;replace S:=S.trans kO (fun k hk h=>by have h:_=_:=h;subst h;first|(exfalso;omega)|(show _≤_;omega)|exact⟨by first|omega|assumption,(S.mem _ hk).1 ((kO.mem _ (ak cU)).1 cP)⟩|exact .inl rfl|exact .inr rfl|exact .inr (.inl rfl)|exact .inr (.inr rfl)|exact .inr (.inr (.inl rfl))|exact rfl);have jn:=LW;clear cU;have cU:=jn;clear jn;refine ab (aj (ae (bG (o':=1) bg rfl rfl vE (by decide) rfl rfl (aM bu rfl rfl rfl (by assumption) rfl (bG (o':=1) bg rfl rfl vE (by decide) rfl rfl (aM bu rfl rfl rfl (by assumption) rfl ?_))))));have dv:=Own.RJ RT.fd 166 B8.heap.size hM
     have aeX:=ak dM;have LX:w0.heap.size≤B8.heap.size:=S.size;refine cZ (M:=th) (base:=B8.heap.size) bu kE rfl rfl rfl rfl dv fk (aq _ _) (by simp;omega) (by simp;omega) (aT _) (fun yM qy LD td eT=>?_);have:=ak g2;replace dE:=(eT.mem _ this).2 dE;replace g2:=eT.keep g2 (fun h=>by first|exact dv.eg g2 h|exact dv.eI g2 (by decide) h|(have:=(dv.base _ h).1;omega));have:=ak g3;replace eU:=(eT.mem _ this).2 eU;replace g3:=eT.keep g3 (fun h=>by first|exact dv.eg g3 h|exact dv.eI g3 (by decide) h|(have:=(dv.base _ h).1;omega));have:=ak dM;replace dh:=(eT.mem _ this).2 dh;replace dM:=eT.keep dM (fun h=>by first|exact dv.eg dM h|exact dv.eI dM (by decide) h|(have:=(dv.base _ h).1;omega));have:=ak cU;replace cP:=(eT.mem _ this).2 cP;replace cU:=eT.keep cU (fun h=>by first|exact dv.eg cU h|exact dv.eI cU (by decide) h|(have:=(dv.base _ h).1;omega));replace dn:=dn.le (by decide) eT.le;replace dK:=dK.le eT.le;replace fk:=fk.le eT.le;replace hM:=eT.lt hM;have:=S.size;replace S:=S.dg eT dv LX;replace dv:=td;refine bG (o':=1) bg rfl rfl vE (by decide) rfl rfl ?_;refine cu (M:=qy) vE rfl rfl cU rfl ((by obtain⟨_,_,he,_⟩:=dv.isSlice;rw[he];rfl)) cP (fun LY DP gB=>?_);change LY.heap[_]? =some (Obj.cells #[.int .i64 d.1,yM] _ _)at DP;have:=ak g2;replace dE:=(gB.mem _ this).2 dE;replace g2:=gB.keep g2 (fun hk=>by have hk:_=_:=hk;omega);have:=ak g3;replace eU:=(gB.mem _ this).2 eU;replace g3:=gB.keep g3 (fun hk=>by have hk:_=_:=hk;omega);have:=ak dM;replace dh:=(gB.mem _ this).2 dh;replace dM:=gB.keep dM (fun hk=>by have hk:_=_:=hk;omega);have:=ak cU;replace cP:=(gB.mem _ this).2 cP
     replace dn:=dn.le (by decide) gB.le;replace dK:=dK.le gB.le;replace fk:=fk.le gB.le;replace dv:=dv.step gB (fun b hb hk=>by have hk:_=_:=hk;have:=(dv.base b hb);omega);replace hM:=gB.lt hM;have:=S.size;replace S:=S.trans gB (fun k hk h=>by have h:_=_:=h;subst h;first|(exfalso;omega)|(show _≤_;omega)|exact⟨by first|omega|assumption,(S.mem _ hk).1 ((gB.mem _ (ak cU)).1 cP)⟩|exact .inl rfl|exact .inr rfl|exact .inr (.inl rfl)|exact .inr (.inr rfl)|exact .inr (.inr (.inl rfl))|exact rfl);have jn:=DP;clear cU;have cU:=jn;clear jn;refine ab (aj (ae (bG (o':=1) bg rfl rfl vE (by decide) rfl rfl (aM bu rfl rfl rfl (by assumption) rfl (fE (vs:=[.string ⟨((fixF i x).1).toArray⟩,.string ⟨((fixF i x).2).toArray⟩]) cv rfl kE rfl rfl rfl dM ?_)))));refine ed (A:=RT.fd) (hn:=by decide) (M:=qy) bu kE (by decide) rfl rfl hM (show RT.fd.V _ _ (fixF i x) _ from eS (kG.2 ⟨rfl,ez RS.1 (by decide)⟩) (kG.2 ⟨rfl,ez RS.2 (by decide)⟩) rfl rfl rfl rfl) (.inl rfl) (fun RP YZ fT gC=>?_);have:=ak g2;replace dE:=(gC.mem _ this).2 dE;replace g2:=gC.aK g2;have:=ak g3;replace eU:=(gC.mem _ this).2 eU;replace g3:=gC.aK g3;have:=ak dM;replace dh:=(gC.mem _ this).2 dh;replace dM:=gC.aK dM;have:=ak cU;replace cP:=(gC.mem _ this).2 cP;replace cU:=gC.aK cU;replace dn:=dn.le (by decide) gC.le;replace dK:=dK.le gC.le;replace fk:=fk.le gC.le;replace dv:=dv.aP gC;replace hM:=gC.lt hM;have:=S.size;replace S:=S.aB gC;refine cZ (M:=qy) (base:=B8.heap.size) bu kE rfl rfl rfl rfl dv fT (aq _ _) (by simp;omega) (by simp;omega) (by have:=eT.size;have:=gB.size;have:=gC.size;omega) (fun fP mG RW Gk eV=>?_)
     have:=ak g2;replace dE:=(eV.mem _ this).2 dE;replace g2:=eV.keep g2 (fun h=>by first|exact dv.eg g2 h|exact dv.eI g2 (by decide) h|(have:=(dv.base _ h).1;omega));have:=ak g3;replace eU:=(eV.mem _ this).2 eU;replace g3:=eV.keep g3 (fun h=>by first|exact dv.eg g3 h|exact dv.eI g3 (by decide) h|(have:=(dv.base _ h).1;omega));have:=ak dM;replace dh:=(eV.mem _ this).2 dh;replace dM:=eV.keep dM (fun h=>by first|exact dv.eg dM h|exact dv.eI dM (by decide) h|(have:=(dv.base _ h).1;omega));have:=ak cU;replace cP:=(eV.mem _ this).2 cP;replace cU:=eV.keep cU (fun h=>by first|exact dv.eg cU h|exact dv.eI cU (by decide) h|(have:=(dv.base _ h).1;omega));replace dn:=dn.le (by decide) eV.le;replace dK:=dK.le eV.le;replace fk:=fk.le eV.le;replace fT:=fT.le eV.le;replace hM:=eV.lt hM;have:=S.size;replace S:=S.dg eV dv LX;replace dv:=Gk;refine bG (o':=1) bg rfl rfl vE (by decide) rfl rfl ?_;refine cu (M:=mG) vE rfl rfl cU rfl ((by obtain⟨_,_,he,_⟩:=dv.isSlice;rw[he];rfl)) cP (fun LZ DQ gD=>?_);change LZ.heap[_]? =some (Obj.cells #[.int .i64 d.1,fP] _ _)at DQ;have:=ak g2;replace dE:=(gD.mem _ this).2 dE;replace g2:=gD.keep g2 (fun hk=>by have hk:_=_:=hk;omega);have:=ak g3;replace eU:=(gD.mem _ this).2 eU;replace g3:=gD.keep g3 (fun hk=>by have hk:_=_:=hk;omega);have:=ak dM;replace dh:=(gD.mem _ this).2 dh;replace dM:=gD.keep dM (fun hk=>by have hk:_=_:=hk;omega);have:=ak cU;replace cP:=(gD.mem _ this).2 cP;replace dn:=dn.le (by decide) gD.le;replace dK:=dK.le gD.le;replace fk:=fk.le gD.le;replace fT:=fT.le gD.le;replace dv:=dv.step gD (fun b hb hk=>by have hk:_=_:=hk;have:=(dv.base b hb);omega);replace hM:=gD.lt hM
     have:=S.size;replace S:=S.trans gD (fun k hk h=>by have h:_=_:=h;subst h;first|(exfalso;omega)|(show _≤_;omega)|exact⟨by first|omega|assumption,(S.mem _ hk).1 ((gD.mem _ (ak cU)).1 cP)⟩|exact .inl rfl|exact .inr rfl|exact .inr (.inl rfl)|exact .inr (.inr rfl)|exact .inr (.inr (.inl rfl))|exact rfl);have jn:=DQ;clear cU;have cU:=jn;clear jn;refine ab (aj (ae (fE (vs:=[.int .i64 d.1,fP]) bg rfl o5 rfl rfl rfl cU ?_)));have rZ:=dv.view (hn:=by decide) (by simp;omega);replace dE:rm mG fP _:=⟨dE,by first|exact dv.eI g2 (by decide)|(intro h;have:=(dv.base _ h).1;omega)⟩;replace eU:rm mG fP _:=⟨eU,by first|exact dv.eI g3 (by decide)|(intro h;have:=(dv.base _ h).1;omega)⟩;replace dh:rm mG fP _:=⟨dh,by first|exact dv.eI dM (by decide)|(intro h;have:=(dv.base _ h).1;omega)⟩;replace cP:rm mG fP _:=⟨cP,by first|exact dv.eI cU (by decide)|(intro h;have:=(dv.base _ h).1;omega)⟩;replace dn:=dn.le (by decide) (fg _ fP _);replace dK:=dK.le (fg _ fP _);replace fk:=fk.le (fg _ fP _);replace fT:=fT.le (fg _ fP _);replace hM:Lt (rm mG fP) _:=fun b hb=>hM b hb.1
     replace S:=S.freeze (v:=fP) (fun b hb=>by have:=(dv.base b hb).1;omega);clear dv;refine aX rfl rfl E94 (A3 (d:=(d.1,[]++out++[fixF i x])) _ hM (eS (fV hdi) rZ rfl rfl rfl rfl) (fun y hy=>by have:=(BF.snoc RS) y (by simpa using hy);omega)) (fun r14 UH hc=>?_);obtain⟨rfl,jW⟩:=hc;rw[fK]at rZ;have:=ak g2;replace dE:=(jW.mem _ this).2 dE;replace g2:=jW.aK g2;have:=ak g3;replace eU:=(jW.mem _ this).2 eU;replace g3:=jW.aK g3;have:=ak dM;replace dh:=(jW.mem _ this).2 dh;replace dM:=jW.aK dM;have:=ak cU;replace cP:=(jW.mem _ this).2 cP;replace cU:=jW.aK cU;replace dn:=dn.le (by decide) jW.le;replace dK:=dK.le jW.le;replace fk:=fk.le jW.le;replace fT:=fT.le jW.le;replace rZ:=rZ.le jW.le;replace hM:=jW.lt hM;have:=S.size;replace S:=S.aB jW;refine nX rfl rfl rfl (aV (v':= .bool (decide (lO (d.1,out++[fixF i x])=0))) (by rw[fK]) (ab ?_));refine bN rfl (fun Ki=>?_) (fun Ki=>?_)
     ·refine ae (fE (vs:=[.int .i64 d.1,fP]) bg rfl o5 rfl rfl rfl cU ?_);refine dC (M:=rm mG fP) (vs:=[.int .i64 d.1,fP]) o5 rfl rfl (by intro u hu;simp at hu;rcases hu with rfl|rfl<;>first|rfl|exact lE (by assumption) rfl rfl) rfl rfl g3 eU (fun aeY L0 jX=>?_);have:=ak g2;replace dE:=(jX.mem _ this).2 dE;replace g2:=jX.keep g2 (fun hk=>by have hk:_=_:=hk;omega);have:=ak g3;replace eU:=(jX.mem _ this).2 eU;have:=ak dM;replace dh:=(jX.mem _ this).2 dh;replace dM:=jX.keep dM (fun hk=>by have hk:_=_:=hk;omega);have:=ak cU;replace cP:=(jX.mem _ this).2 cP;replace cU:=jX.keep cU (fun hk=>by have hk:_=_:=hk;omega);replace dn:=dn.le (by decide) jX.le;replace dK:=dK.le jX.le;replace fk:=fk.le jX.le;replace fT:=fT.le jX.le;replace rZ:=rZ.le jX.le;replace hM:=jX.lt hM;have:=S.size;replace S:=S.trans jX (fun k hk h=>by have h:_=_:=h;subst h;first|(exfalso;omega)|(show _≤_;omega)|exact⟨by first|omega|assumption,(S.mem _ hk).1 ((jX.mem _ (ak g3)).1 eU)⟩|exact .inl rfl|exact .inr rfl|exact .inr (.inl rfl)|exact .inr (.inr rfl)|exact .inr (.inr (.inl rfl))|exact rfl);have Y0:=L0;clear g3;have g3:=Y0;clear Y0;refine ab (ae (ad rfl rfl (bF rfl rfl rfl (by omega) (ah rfl rfl (ab ?_)))));refine⟨rfl,(i+1,out++[fixF i x]),(.cons rfl (.cons rfl (.cons rfl (.cons rfl (.cons rfl .nil))))),?_,?_⟩
      ·exact⟨_,_,hM,S,dn,dK,g2,dE,g3,eU,rZ,by rw[o9,hga,if_pos Ki],by dsimp only;omega,by dsimp only;omega,BF.snoc RS,by simp;omega⟩
      ·dsimp only;omega
     ·refine aU (ae (ad rfl rfl (bF rfl rfl rfl (by omega) (ah rfl rfl (ab ?_)))));refine⟨rfl,(i+1,out),(.cons rfl (.cons rfl (.cons rfl (.cons rfl (.cons rfl .nil))))),?_,?_⟩
      ·exact⟨_,_,hM,S,dn,dK,g2,dE,g3,eU,fk,by rw[o9,hga,if_neg Ki],by dsimp only;omega,by dsimp only;omega,BF,by dsimp only;omega⟩
      ·dsimp only;omega
   ·refine cG (aj (ae (fE (vs:=[.int .i64 d.1,uo]) bg rfl o5 rfl rfl rfl g3 ?_)));refine dC (M:=M1) (vs:=[.int .i64 d.1,uo]) o5 rfl rfl (by intro u hu;simp at hu;rcases hu with rfl|rfl<;>first|rfl|exact lE (by assumption) rfl rfl) rfl rfl g2 dE (fun aeZ L3 ph=>?_);have:=ak g2;replace dE:=(ph.mem _ this).2 dE;have:=ak g3;replace eU:=(ph.mem _ this).2 eU;replace g3:=ph.keep g3 (fun hk=>by have hk:_=_:=hk;omega);replace dn:=dn.le (by decide) ph.le;replace dK:=dK.le ph.le;replace fk:=fk.le ph.le;replace hM:=ph.lt hM;have:=S.size;replace S:=S.trans ph (fun k hk h=>by have h:_=_:=h;subst h;first|(exfalso;omega)|(show _≤_;omega)|exact⟨by first|omega|assumption,(S.mem _ hk).1 ((ph.mem _ (ak g2)).1 dE)⟩|exact .inl rfl|exact .inr rfl|exact .inr (.inl rfl)|exact .inr (.inr rfl)|exact .inr (.inr (.inl rfl))|exact rfl);have L4:=L3;clear g2;have g2:=L4;clear L4;refine ab (aO ?_);have e:pL d=(d.1,out):=by rw[pL,o9,A4 (by omega)]
    rw[e];refine BQ (vs:=[.int .i64 d.1,uo]) rfl rfl bg rfl o5 rfl g2 ⟨eS (fV hdi) (fk.le (Le.close jM S)) rfl rfl rfl rfl,S.back⟩
  ·refine au rfl rfl rfl rfl (au rfl rfl rfl rfl (aE rfl rfl rfl (ab (jE rfl (cG (aj (ae (fE (vs:=[.int .i64 d.1,uo]) bg rfl o5 rfl rfl rfl g3 ?_))))))));refine dC (M:=M1) (vs:=[.int .i64 d.1,uo]) o5 rfl rfl (by intro u hu;simp at hu;rcases hu with rfl|rfl<;>first|rfl|exact lE (by assumption) rfl rfl) rfl rfl g2 dE (fun aeZ L3 ph=>?_);have:=ak g2;replace dE:=(ph.mem _ this).2 dE;have:=ak g3;replace eU:=(ph.mem _ this).2 eU;replace g3:=ph.keep g3 (fun hk=>by have hk:_=_:=hk;omega);replace dn:=dn.le (by decide) ph.le;replace dK:=dK.le ph.le;replace fk:=fk.le ph.le;replace hM:=ph.lt hM;have:=S.size;replace S:=S.trans ph (fun k hk h=>by have h:_=_:=h;subst h;first|(exfalso;omega)|(show _≤_;omega)|exact⟨by first|omega|assumption,(S.mem _ hk).1 ((ph.mem _ (ak g2)).1 dE)⟩|exact .inl rfl|exact .inr rfl|exact .inr (.inl rfl)|exact .inr (.inr rfl)|exact .inr (.inr (.inl rfl))|exact rfl);have L4:=L3;clear g2;have g2:=L4;clear L4;refine ab (aO ?_);have e:pL d=(d.1,out):=by rw[pL,o9,A4 (by omega)]
   rw[e];refine BQ (vs:=[.int .i64 d.1,uo]) rfl rfl bg rfl o5 rfl g2 ⟨eS (fV hdi) (fk.le (Le.close jM S)) rfl rfl rfl rfl,S.back⟩
end Go.K
namespace Go.K
open Go.Proofs
set_option maxRecDepth 10000
def ja (l:List Dc) (from_ step:Int):Nat→List En
 |0=>[]
 |k+1=>ja l from_ step k++(match l[k]? with|some d=>[(pL d,from_+step*(k:Int))]|none=>[])
theorem lZ (l:List Dc) (a s:Int):∀k,(ja l a s k).length=min k l.length
 |0=>by simp[ja]
 |k+1=>by
  rw[ja,bj,lZ l a s k]
  cases h:l[k]? with
  |none=>have:=List.getElem?_eq_none_iff.1 h;simp;omega
  |some d=>have:=(ao.1 h).1;simp;omega
theorem yV {l:List Dc} {a s:Int} {k:Nat} {d:Dc} (h:l[k]? =some d):ja l a s (k+1)=ja l a s k++[(pL d,a+s*(k:Int))]:=by rw[ja,h]
theorem yW {l:List Dc} {a s:Int} {k:Nat} (h:l.length≤k):ja l a s (k+1)=ja l a s k:=by
 rw[ja,List.getElem?_eq_none_iff.2 h];simp
theorem DR {l:List Dc} {a s:Int} {n i:Nat} (h:l.length≤i∨n≤i) (h1:i≤n):ja l a s i=ja l a s n:=by
 induction n with
 |zero=>have:i=0:=by omega
        rw[this]
 |succ n ih=>
  rcases lr h1 with e|dR
  ·rw[e]
  ·rcases h with h|h
   ·rw[yW (by omega)];exact ih (.inl h) (by omega)
   ·omega
theorem PZ {s k:Int} (h:0≤s∧s≤1000) (hk:0≤k∧k≤100):0≤s*k∧s*k≤100000:=
 ⟨Int.mul_nonneg h.1 hk.1,Int.le_trans (Int.mul_le_mul h.2 hk.2 hk.1 (by omega)) (by omega)⟩
theorem Gl {M:aD} {l:List Dc} {v0:Value} {most:Nat} {a s:Int} (w0:World) (hM:Lt M w0) (hv:(RT.dc.sl).V M w0 l v0) (hm:most≤100) (ha:0≤a∧a≤1000000) (hs:0≤s∧s≤1000):
  Spec Tryz.prog 12 #[v0,.int .i64 (most:Int),.int .i64 a,.int .i64 s] w0 (fun v w=>(RT.en.sl).V M w (ja l a s most) v∧Step M w0 M w aC):=by
 have jM:=hM;refine bc (args:=[_,_,_,_]) (fn:=Tryz.f12) Tryz.func12 rfl (n:=37) Tryz.ntmps12 ?_;have S:Step M w0 M w0 aC:=(aw _ _).cA (fun _ h=>h.elim) (fun _ h=>h.elim);refine aj (ae (ah rfl rfl (ab (aj (ae (ah rfl rfl (ab (aj (aj (ae (ah rfl rfl ?_)))))))))));refine ab (aZ ?_);refine de (σ:=Nat×Value) (fun q=>[(0,v0),(1,.int .i64 (most:Int)),(2,.int .i64 a),(3,.int .i64 s),(9,q.2),(10,.int .i64 (q.1:Int))]) (fun q w=>∃M',Lt M' w∧Step M w0 M' w aC∧Own RT.en 71 M' w w0.heap.size q.2 (ja l a s q.1)∧(RT.dc.sl).V M' w l v0∧q.1≤most∧q.1≤l.length) (fun q=>most-q.1) (0,.slice none 0 0) (.cons rfl (.cons rfl (.cons rfl (.cons rfl (.cons rfl (.cons rfl .nil)))))) ?_ ?_
 ·exact⟨M,hM,S,dF _ _ _ _ _,hv,bE _,bE _⟩
 ·rintro⟨i,u⟩ w ⟨M1,hM,S,ho,hv,hi,oK⟩;dsimp only at ho hi oK ⊢;refine aj (aj (ae (ad rfl rfl (ad rfl rfl (bM Tryz.underlying22 rfl hv rfl (cj rfl rfl rfl (ad rfl rfl ?_)))))));refine aQ (g:=15) rfl (fun ka=>?_) (fun ka=>?_)
  ·refine al rfl rfl (ad rfl rfl (al rfl rfl (ad rfl rfl (al rfl rfl (cj rfl rfl rfl (aY rfl rfl rfl (ab ?_)))))));refine bN rfl (fun c3=>?_) (fun c3=>?_)
   ·refine aU (aj (aZ (ae (ad rfl rfl (ad rfl rfl (ad rfl rfl ?_))))));refine cy (M:=M1) Tryz.underlying22 o5 rfl rfl rfl hv (aq _ _) (by omega) (fun u5 d I8 Dw=>?_);rw[ay]at I8;have Ji:=PZ (k:=(i:Int)) hs (by omega);refine cX (M:=M1) (A:=RT.dc) bg rfl o5 (by decide) rfl rfl rfl Dw (aq _ _) (fun v5 qg=>?_);refine aX rfl rfl E44 (Jh _ hM qg) (fun r5 w5 hc=>?_);obtain⟨o9,s5⟩:=hc;replace hv:=hv.le s5.le;replace ho:=ho.aP s5;replace hM:=s5.lt hM;have:=S.size;replace S:=S.aB s5;refine ad rfl rfl (ad rfl rfl (ad rfl rfl (Rg.Pk rfl rfl rfl (by omega) (bF rfl rfl rfl (by omega) ?_))));obtain⟨uf,rfl⟩:=LG o9;refine iC (places:=[(0,2),(2,1)]) dW HK B71 rfl ⟨_,_,rfl,rfl,_,_,rfl,rfl,rfl⟩ (out:=[_,_,_]) ⟨0,[_,_],rfl,rfl,by simp[Value.cells],2,[_],rfl,rfl,by simp[Value.cells],rfl⟩ ?_;refine ed (A:=RT.en) (hn:=by decide) (M:=M1) ik HK (by decide) rfl rfl hM (show RT.en.V _ _ (pL d,a+s*(i:Int)) _ from RI o9 (by omega)) (.inl rfl) (fun akz akA Gm DS=>?_);replace hv:=hv.le DS.le;replace o9:=o9.le DS.le;replace ho:=ho.aP DS;replace hM:=DS.lt hM;have:=S.size;replace S:=S.aB DS;refine cZ (M:=M1) (base:=w0.heap.size) ik HK rfl rfl rfl rfl ho Gm (aq _ _) (by have:=lZ l a s i;simp;omega) (by have:=lZ l a s i;simp;omega) (S.size) (fun Y1 Y2 akB UI DT=>?_);replace hv:=hv.le DT.le;replace o9:=o9.le DT.le;replace Gm:=Gm.le DT.le;replace hM:=DT.lt hM;have:=S.size;replace S:=S.dg DT ho (aT _);replace ho:=UI;refine ah rfl rfl (ab (ae (ad rfl rfl (bF rfl rfl rfl (by omega) (ah rfl rfl (ab ?_))))));refine⟨rfl,(i+1,Y1),(.cons rfl (.cons rfl (.cons rfl (.cons rfl (.cons rfl (.cons rfl .nil)))))),?_,?_⟩
    ·exact⟨Y2,hM,S,by rw[yV I8];exact ho,hv,by dsimp only;omega,by dsimp only;omega⟩
    ·dsimp only;omega
   ·refine cG (aj (ae (ad rfl rfl (ah rfl rfl (ab (aO ?_))))));rw[←DR (i:=i) (n:=most) (by omega) hi];exact aS rfl rfl ⟨ho.close jM S (by have:=lZ l a s i;omega),S.back⟩
  ·refine au rfl rfl rfl rfl (au rfl rfl rfl rfl (au rfl rfl rfl rfl (aE rfl rfl rfl (ab (jE rfl (cG (aj (ae (ad rfl rfl (ah rfl rfl (ab ?_)))))))))));refine aO ?_;rw[←DR (i:=i) (n:=most) (by omega) hi];exact aS rfl rfl ⟨ho.close jM S (by have:=lZ l a s i;omega),S.back⟩
end Go.K
namespace Go.K
open Go.Maps (Keyed)
structure fB (P:Program) (kt:TypeId) (w:World) (b:Nat) (es:List MapEntry) (clock:Nat):Prop where
 at_:w.heap[b]? =some (.map es.toArray clock)
 born:es.Pairwise fun x y=>x.born≠y.born
 lt:∀e∈es,e.born<clock
 keys:es.Pairwise fun x y=>x.key≠y.key
 ok:∀e∈es,∃l,keyOf P kt e.key=some l
def ej (zv:Value) (es:List MapEntry) (key v:Value):Prop:=(∃e∈es,e.key=key∧v=e.val)∨((∀e∈es,e.key≠key)∧v=zv)
section
variable {P:Program} {kt:TypeId} {w:World} {b clock:Nat} {es:List MapEntry}
theorem fB.step {M M' N:aD} {w':World} (h:fB P kt w b es clock) (s:Step M w M' w' N) (hn: ¬N b):fB P kt w' b es clock:=⟨s.keep h.at_ hn,h.born,h.lt,h.keys,h.ok⟩
theorem fB.aP {M M':aD} {w':World} (h:fB P kt w b es clock) (s:Step M w M' w' aC):fB P kt w' b es clock:=h.step s fun h=>h
theorem ix {α:Type} {R:α→α→Prop} {l:List α} (h:l.Pairwise R) {i j:Nat} {x y:α} (hi:l[i]? =some x) (hj:l[j]? =some y) (ji:i<j):R x y:=by
 obtain⟨h1,h2⟩:=ao.1 hi;obtain⟨h3,h4⟩:=ao.1 hj;have:=cC.1 h i j h1 h3 ji
 rwa [h2,h4]at this
theorem fB.HU (h:fB P kt w b es clock) {x y:MapEntry} (hx:x∈es) (hy:y∈es) (e:x.key=y.key):x=y:=by
 obtain⟨i,hi⟩:=bB.1 hx;obtain⟨j,hj⟩:=bB.1 hy;rcases fa i j with h1|h1|h1
 ·exact absurd e (ix h.keys hi hj h1)
 ·subst h1;rw[hi]at hj;exact aH hj
 ·exact absurd e.symm (ix h.keys hj hi h1)
theorem fB.DV (h:fB P kt w b es clock) {i j:Nat} {x y:MapEntry} (hi:es[i]? =some x) (hj:es[j]? =some y) (e:x.born=y.born):i=j:=by
 rcases fa i j with h1|h1|h1
 ·exact absurd e (ix h.born hi hj h1)
 ·exact h1
 ·exact absurd e.symm (ix h.born hj hi h1)
theorem fB.val_one (h:fB P kt w b es clock) {zv key v v':Value} (h1:ej zv es key v) (h2:ej zv es key v'):v=v':=by
 rcases h1 with⟨e,he,hk,hv⟩|⟨hn,hv⟩
 ·rcases h2 with⟨e',qB,tK,rR⟩|⟨Jj,_⟩
  ·have:=h.HU he qB (hk.trans tK.symm);rw[hv,rR,this]
  ·exact absurd hk (Jj e he)
 ·rcases h2 with⟨e',qB,tK,_⟩|⟨_,rR⟩
  ·exact absurd tK (hn e' qB)
  ·rw[hv,rR]
theorem dN {r:Nat} {a:Array MapEntry} {c:Nat} (hb:w.heap[r]? =some (.map a c)):(getObj r).run P w= .ok (.map a c) w:=by simp[getObj,Sem.run,hb]
theorem run_setObj_map {r:Nat} {a:Array MapEntry} {c:Nat} {o:Obj} (hb:w.heap[r]? =some (.map a c)):(setObj r o).run P w= .ok () {w with heap:=w.heap.setIfInBounds r o}:=by simp[setObj,Sem.run,hb]
theorem fB.push (h:fB P kt w b es clock) {key v:Value} {kl:Lit} (lA:keyOf P kt key=some kl) (hn:∀e∈es,e.key≠key) {w':World} (hw:w'.heap[b]? =some (.map (es++([⟨key,v,clock⟩]:List MapEntry)).toArray (clock+1))):fB P kt w' b (es++[⟨key,v,clock⟩]) (clock+1):=
 ⟨hw,ny.2 ⟨h.born,List.pairwise_singleton _ _,fun x hx y hy=>by rw[bJ.1 hy];have:=h.lt x hx;show x.born≠clock;omega⟩,(fun e he=>by
  rcases cp.1 he with he|he
  ·have:=h.lt e he;omega
  ·rw[bJ.1 he];exact Nat.lt_succ_self _),ny.2 ⟨h.keys,List.pairwise_singleton _ _,fun x hx y hy=>by rw[bJ.1 hy];exact hn x hx⟩,(fun e he=>by
  rcases cp.1 he with he|he
  ·exact h.ok e he
  ·rw[bJ.1 he];exact⟨kl,lA⟩)⟩
theorem ej.push {zv key:Value} {s:Nat} (hn:∀e∈es,e.key≠key) (jo v':Value):ej zv (es++[⟨key,zv,s⟩]) jo v'↔ej zv es jo v':=by
 constructor
 ·rintro(⟨e,he,hk,hv⟩|⟨h1,h2⟩)
  ·rcases cp.1 he with he|he
   ·exact .inl ⟨e,he,hk,hv⟩
   ·rw[bJ.1 he]at hk hv;exact .inr ⟨fun e he=>by rw[←hk];exact hn e he,hv⟩
  ·exact .inr ⟨fun e he=>h1 e (gu _ he),h2⟩
 ·rintro(⟨e,he,hk,hv⟩|⟨h1,h2⟩)
  ·exact .inl ⟨e,gu _ he,hk,hv⟩
  ·by_cases hk:key=jo
   ·exact .inl ⟨⟨key,zv,s⟩,by simp,hk,h2⟩
   ·exact .inr ⟨fun e he=>by
     rcases cp.1 he with he|he
     ·exact h1 e he
     ·rw[bJ.1 he];exact hk,h2⟩
end
section
variable {P:Program} {r:Option Nat} {n:Nat} {L:Sl} {ds:List Deferred} {w:World} {K:Kt} {ops:Array Oper} {rest:List Oper} {d:Nat} {x y z:Operand} {ty:TypeId} {pos:String} {af:Array Edge}
variable {kt:TypeId} {M:aD} {b clock:Nat} {es:List MapEntry}
theorem Rg.DW {t e:TypeId} (M:aD) (ht:P.underlying t=some (.map kt e)) (hd:Nat.blt d n=true)
  (k:∀b w',w.heap.size≤b→b<w'.heap.size→fB P kt w' b [] 0→Step M w (ins M b) w' aC→Rg P r n ops rest ((d,.map (some b))::L) ds w' K):
  Rg P r n ops ({dst:=some d,op:= .makeMap t none,type:=ty,pos,after:=af,guard:=none}::rest) L ds w K:=by
 refine .op (fun _ h=>by cases h) rfl rfl hd (.map (some w.heap.size)) (w.alloc (.map #[] 0)) (fun ρ hρ=>?_) (k w.heap.size _ (aT _) (by simp) ⟨cg w _,List.Pairwise.nil,(fun e he=>by cases he),List.Pairwise.nil,(fun e he=>by cases he)⟩ ((cQ M w _).own (aT _) (by simp)));simp only[execOp];simp[Instr.makeMap,newObj,Sem.run,run_underlying ht]
theorem Rg.mapEntry {t e:TypeId} {zv key:Value} {size bytes:Nat} {kl:Lit} (ht:P.underlying t=some (.map kt e)) (Kk:Keyed P kt) (hi:TI P e zv size bytes) (hx:ev L x=some (.map (some b))) (hy:ev L y=some key) (hd:Nat.blt d n=true) (lA:keyOf P kt key=some kl) (h:fB P kt w b es clock) (hm:M b)
  (k:∀w' pM Gn v s,fB P kt w' b pM Gn→ej zv es key v→(⟨key,v,s⟩:MapEntry)∈pM→(∀jo v',ej zv pM jo v'↔ej zv es jo v')→((pM.map (·.key)=es.map (·.key)∧∃e∈es,e.key=key)∨(pM.map (·.key)=es.map (·.key)++[key]∧∀e∈es,e.key≠key))→Step M w M w' (fun k=>k=b)→Rg P r n ops rest ((d,.tuple #[v,.int .i64 (s:Nat)])::L) ds w' K):
  Rg P r n ops ({dst:=some d,op:= .mapEntry t x y,type:=ty,pos,after:=af,guard:=none}::rest) L ds w K:=by
 have dR:=ak h.at_;rcases Kk.find w lA es h.ok with⟨h1,h2⟩|⟨j,e0,h1,h2,h3⟩
 ·obtain⟨inf,i1,i2,_,_⟩:=hi.get;have hz:(zeroValue e).run P w= .ok zv w:=by simp[zeroValue,typeInfo,i1,i2]
  have hw:({w with heap:=w.heap.setIfInBounds b (.map (es.toArray.push ⟨key,zv,clock⟩) (clock+1))}:World).heap[b]? =some (.map (es++([⟨key,zv,clock⟩]:List MapEntry)).toArray (clock+1)):=by
   simp[dx,dR]
  refine .op (fun _ h=>by cases h) rfl rfl hd _ _ (fun ρ hρ=>?_) (k _ _ _ zv clock (h.push lA h2 hw) (Or.inr ⟨h2,rfl⟩) (by simp) (ej.push h2) (Or.inr ⟨by simp,h2⟩) (jm M hm));simp only[execOp,hρ x _ hx,hρ y _ hy,Instr.mapEntry,ck,run_underlying ht,cB,dN h.at_,Kk.check w false lA,h1,hz,run_setObj_map h.at_];simp[goInt]
 ·have he:e0∈es:=aA h2
  have L5:es.toArray.modify j (fun e=>{e with key:=key})=es.toArray:=by
   apply Array.ext_getElem?;intro i;rw[jH]
   split
   ·rename_i RX
    subst RX;simp only[il,h2,dd];rw[←h3]
   ·rfl
  have hw:({w with heap:=w.heap.setIfInBounds b (.map es.toArray clock)}:World).heap[b]? =some (.map es.toArray clock):=by simp[dx,dR]
  have hj:es.toArray[j]? =some e0:=by simpa using h2
  have kD:(Instr.keyThatStays ((Option.map (fun(e:MapEntry)=>e.key) es.toArray[j]?).getD key) key).run P w= .ok key w:=by
   rw[hj];simp only[dd,Option.getD_some,h3];exact Kk.stays w lA
  refine .op (fun _ h=>by cases h) rfl rfl hd _ _ (fun ρ hρ=>?_) (k _ es clock e0.val e0.born ⟨hw,h.born,h.lt,h.keys,h.ok⟩ (Or.inl ⟨e0,he,h3,rfl⟩) (by rw[←h3];exact he) (fun _ _=>Iff.rfl) (Or.inl ⟨rfl,e0,he,h3⟩) (jm M hm));simp only[execOp,hρ x _ hx,hρ y _ hy,Instr.mapEntry,ck,run_underlying ht,cB,dN h.at_,Kk.check w false lA,h1,kD,L5,run_setObj_map h.at_];simp[goInt,hj]
theorem Rg.entryStore {t:TypeId} {key v0 val:Value} {s:Nat} (hx:ev L x=some (.map (some b))) (hy:ev L y=some (.int .i64 (s:Int))) (hz:ev L z=some val) (h:fB P kt w b es clock) (hm:M b) (kq:(⟨key,v0,s⟩:MapEntry)∈es)
  (k:∀w' pM,fB P kt w' b pM clock→pM.map (·.key)=es.map (·.key)→(∀zv jo v',ej zv pM jo v'↔(jo=key∧v'=val)∨(jo≠key∧ej zv es jo v'))→Step M w M w' (fun k=>k=b)→Rg P r n ops rest L ds w' K):
  Rg P r n ops ({dst:=none,op:= .entryStore t x y z,type:=ty,pos,after:=af,guard:=none}::rest) L ds w K:=by
 have dR:=ak h.at_;obtain⟨i,hi⟩:=bB.1 kq;have oK:=(ao.1 hi).1
 have ae0:es.toArray.findIdx? (fun e=>(e.born:Int)==(s:Int))=some i:=by
  rw[List.findIdx?_toArray,List.findIdx?_eq_some_iff_getElem];refine⟨oK,by rw[(ao.1 hi).2];simp,fun j hj=>?_⟩;have xo:j<es.length:=by omega
  have:=fun e=>h.DV (ar xo) hi e
  simp only[Bool.not_eq_true,beq_eq_false_iff_ne,ne_eq];intro e;have e2:((es[j]).born:Int)=(s:Int):=by simpa using e
  have:=this (by show(es[j]).born=s;omega);omega
 obtain⟨pM,vJ⟩:∃pM,pM=es.set i ⟨key,val,s⟩:=⟨_,rfl⟩
 have L5:es.toArray.modify i (fun e=>{e with val:=val})=pM.toArray:=by
  apply Array.ext_getElem?;intro j;rw[jH,vJ];simp only[il,dp]
  split
  ·rename_i RX
   subst RX;rw[hi];simp
  ·rfl
 have iX:∀j e',pM[j]? =some e'→(j=i∧e'=⟨key,val,s⟩)∨(j≠i∧es[j]? =some e'):=fun j e' hj=>by
  rw[vJ,dp]at hj
  split at hj
  ·rename_i ji
   left;exact⟨ji.symm,by simpa[oK]using hj.symm⟩
  ·rename_i ji
   exact .inr ⟨fun e=>ji e.symm,hj⟩
 have pN:pM.map (·.key)=es.map (·.key):=by
  rw[vJ,List.map_set];apply eZ;intro j;rw[dp]
  split
  ·rename_i ji
   subst ji;have e:=(ao.1 hi).2;simp[oK,e]
  ·rfl
 have L6:pM.map (·.born)=es.map (·.born):=by
  rw[vJ,List.map_set];apply eZ;intro j;rw[dp]
  split
  ·rename_i ji
   subst ji;have e:=(ao.1 hi).2;simp[oK,e]
  ·rfl
 have hw:({w with heap:=w.heap.setIfInBounds b (.map pM.toArray clock)}:World).heap[b]? =some (.map pM.toArray clock):=by simp[dx,dR]
 have eH:∀e'∈pM,(e'=⟨key,val,s⟩)∨(e'∈es∧e'.key≠key):=fun e' qB=>by
  obtain⟨j,hj⟩:=bB.1 qB;rcases iX j e' hj with⟨_,e⟩|⟨eK,tN⟩
  ·exact .inl e
  ·refine .inr ⟨aA tN,fun e=>eK ?_⟩;rcases fa j i with h1|h1|h1
   ·exact absurd e (ix h.keys tN hi h1)
   ·exact h1
   ·exact absurd e.symm (ix h.keys hi tN h1)
 have L7:(⟨key,val,s⟩:MapEntry)∈pM:=aA (i:=i) (by rw[vJ,dp];simp[oK])
 have hold:∀e'∈es,e'.key≠key→e'∈pM:=fun e' qB eK=>by
  obtain⟨j,hj⟩:=bB.1 qB;refine aA (i:=j) ?_;rw[vJ,dp,if_neg]
  ·exact hj
  ·rintro rfl;rw[hi]at hj;cases hj;exact eK rfl
 have hW:fB P kt {w with heap:=w.heap.setIfInBounds b (.map pM.toArray clock)} b pM clock:=by
  refine⟨hw,?_,fun e' qB=>?_,?_,fun e' qB=>?_⟩
  ·have:=cz.2 h.born;rw[←L6]at this;exact cz.1 this
  ·rcases eH e' qB with e|⟨h1,_⟩
   ·rw[e];exact(h.lt _ kq:s<clock)
   ·exact h.lt _ h1
  ·have:=cz.2 h.keys;rw[←pN]at this;exact cz.1 this
  ·rcases eH e' qB with e|⟨h1,_⟩
   ·rw[e];exact(h.ok _ kq:∃l,keyOf P kt key=some l)
   ·exact h.ok _ h1
 refine .Rm (fun _ h=>by cases h) rfl rfl _ (fun ρ hρ=>?_) (k _ pM hW pN (fun zv jo v'=>?_) (jm M hm))
 ·simp only[execOp,hρ x _ hx,hρ y _ hy,hρ z _ hz,Instr.entryStore,ck,dN h.at_,cB,asInt,asIntOf,Sem.run_pure,ae0,L5,run_setObj_map h.at_]
 ·constructor
  ·rintro(⟨e',qB,hk,hv⟩|⟨h1,h2⟩)
   ·rcases eH e' qB with e|⟨h3,h4⟩
    ·subst e;exact .inl ⟨hk.symm,hv⟩
    ·exact .inr ⟨by rw[←hk];exact h4,.inl ⟨e',h3,hk,hv⟩⟩
   ·have eK:jo≠key:=fun e=>h1 _ L7 e.symm
    exact .inr ⟨eK,.inr ⟨fun e' qB=>fun e=>by
     by_cases h5:e'.key=key
     ·exact eK (e.symm.trans h5)
     ·exact h1 e' (hold e' qB h5) e,h2⟩⟩
  ·rintro(⟨rfl,rfl⟩|⟨eK,⟨e',qB,hk,hv⟩|⟨h1,h2⟩⟩)
   ·exact .inl ⟨_,L7,rfl,rfl⟩
   ·exact .inl ⟨e',hold e' qB (by rw[hk];exact eK),hk,hv⟩
   ·exact .inr ⟨fun e' qB=>by
     rcases eH e' qB with e|⟨h3,_⟩
     ·rw[e];exact fun e=>eK e.symm
     ·exact h1 e' h3,h2⟩
theorem Rg.tZ {t e:TypeId} {zv key:Value} {size bytes:Nat} {kl:Lit} (ht:P.underlying t=some (.map kt e)) (Kk:Keyed P kt) (hi:TI P e zv size bytes) (hx:ev L x=some (.map (some b))) (hy:ev L y=some key) (hd:Nat.blt d n=true) (lA:keyOf P kt key=some kl) (h:fB P kt w b es clock)
  (k:∀v,ej zv es key v→Rg P r n ops rest ((d,v)::L) ds w K):
  Rg P r n ops ({dst:=some d,op:= .lookup t x y false,type:=ty,pos,after:=af,guard:=none}::rest) L ds w K:=by
 rcases Kk.find w lA es h.ok with⟨h1,h2⟩|⟨j,e0,h1,h2,h3⟩
 ·obtain⟨inf,i1,i2,_,_⟩:=hi.get;have hz:(zeroValue e).run P w= .ok zv w:=by simp[zeroValue,typeInfo,i1,i2]
  refine .op (fun _ h=>by cases h) rfl rfl hd zv w (fun ρ hρ=>?_) (k zv (Or.inr ⟨h2,rfl⟩));simp only[execOp,hρ x _ hx,hρ y _ hy,Instr.lookup,ck,run_underlying ht,cB,dN h.at_,Sem.run_pure,Kk.check w _ lA,h1,hz];simp
 ·refine .op (fun _ h=>by cases h) rfl rfl hd e0.val w (fun ρ hρ=>?_) (k e0.val (Or.inl ⟨e0,aA h2,h3,rfl⟩));simp only[execOp,hρ x _ hx,hρ y _ hy,Instr.lookup,ck,run_underlying ht,cB,dN h.at_,Sem.run_pure,Kk.check w _ lA,h1];simp
end
end Go.K
namespace Go.K
open Go.Proofs
set_option maxRecDepth 10000
open Go.Maps (Keyed)
def kv (t:Fd):Value:= .agg #[.string ⟨t.1.toArray⟩,.string ⟨t.2.toArray⟩]
theorem vK {a b:Fd} (h:kv a=kv b):a=b:=by
 unfold kv at h;simp only[Value.agg.injEq,Array.mk.injEq,List.cons.injEq,Value.string.injEq,ByteArray.mk.injEq,and_true]at h;exact xh h.1 h.2
theorem L8:laidOutB Tryz.prog=true:=by kernel_rfl
theorem L9:Tryz.prog.types.size=383:=by kernel_rfl
theorem A5:Keyed Tryz.prog 78:=Keyed.of_law (deep_law_laid L8 (m:=2) (k:=78) (by omega) (by rw[L9];decide) (by kernel_rfl) (by kernel_rfl))
theorem Y3:Tryz.prog.keyType 78=true:=by kernel_rfl
theorem HV:Tryz.prog.cellsOf 78=2:=by kernel_rfl
theorem P0:Tryz.prog.cellsOf 9=1:=by kernel_rfl
theorem Mc (t:Fd) (h1:t.1.length≤140737488355328) (h2:t.2.length≤140737488355328):∃l,keyOf Tryz.prog 78 (kv t)=some l:=by
 have e1:(⟨t.1.toArray⟩:ByteArray).size=t.1.length:=by simp[ByteArray.size]
 have e2:(⟨t.2.toArray⟩:ByteArray).size=t.2.length:=by simp[ByteArray.size]
 have hs:∀(s:ByteArray),s.size≤maxLen→Tryz.prog.keyLits 383 9 [.string s]=some [.string s.data.toList]:=fun s hs=>by
  show(match Tryz.prog.underlying 9,[Value.string s]with|_,_=>_)=_;rw[aJ];exact if_pos hs
 unfold keyOf kv;rw[dH];simp only[Y3,Value.formed,dH,HV,L9]
 have key:∃ls,Tryz.prog.keyLits (383+1) 78 [.string ⟨t.1.toArray⟩,.string ⟨t.2.toArray⟩]=some ls:=by
  unfold Program.keyLits;simp only[dH];rw[if_pos ⟨by rw[HV];rfl,by kernel_rfl⟩];simp only[List.mapM_cons,List.mapM_nil,P0];have g1:=hs ⟨t.1.toArray⟩ (by rw[e1];unfold maxLen;omega);have g2:=hs ⟨t.2.toArray⟩ (by rw[e2];unfold maxLen;omega);refine⟨[.string (⟨t.1.toArray⟩:ByteArray).data.toList,.string (⟨t.2.toArray⟩:ByteArray).data.toList],?_⟩;simp only[List.drop_zero,List.drop_succ_cons,oM,List.take_zero,g1,g2];rfl
 obtain⟨ls,hls⟩:=key;exact⟨.string (keyBytes ls),by rw[if_pos (by simp)];show Option.map _ (Tryz.prog.keyLits (383+1) 78 [.string ⟨t.1.toArray⟩,.string ⟨t.2.toArray⟩])=_;rw[hls];rfl⟩
end Go.K
namespace Go.K
open Go.Proofs
set_option maxRecDepth 10000
def jq (x:Fd):List (Fd×Nat):=(words x.2).zipIdx.map fun p=>((x.1,p.1),p.2)
def cF (l:List Fd):List (Fd×Nat):=l.flatMap jq
theorem ox (x:Fd):(jq x).length=(words x.2).length:=by simp[jq]
theorem Md {x:Fd} {k:Nat} {y:List UInt8} (h:(words x.2)[k]? =some y):(jq x)[k]? =some ((x.1,y),k):=by
 simp[jq,List.getElem?_zipIdx,h]
theorem ti {fs:List Fd} {i:Nat} {x:Fd} (h:fs[i]? =some x):cF (fs.take (i+1))=cF (fs.take i)++jq x:=by
 rw[bK,h];simp[cF]
structure UJ (P:Program) (g:FuncId) (cap:List Value) (B:Nat) (J:List (Fd×Nat)→aD→World→Prop):Prop where
 enters:Enters P g
 step:∀ts M w M' w',J ts M w→Step M w M' w' aC→J ts M' w'
 tell:∀ts M w (t:Fd) (i:Nat),J ts M w→Lt M w→t.1.length≤900000→t.2.length≤140737488355328→i≤1000000→ts.length≤10000000→Spec P g ([kv t,.int .i64 (i:Int)]++cap).toArray w (fun _ w'=>∃M',Lt M' w'∧J (ts++[(t,i)]) M' w'∧Step M w M' w' (lJ M B))
theorem A6 {M:aD} {d:Dc} {v0:Value} {g:FuncId} {cap:List Value} {B:Nat} {J:List (Fd×Nat)→aD→World→Prop} (w0:World) (hM:Lt M w0) (hv:RT.dc.V M w0 d v0) (hl:∀f∈d.2,f.1.length≤900000∧f.2.length≤900000) (hd8:d.2.length≤8) (hT:UJ Tryz.prog g cap B J) (hJ:J [] M w0):
  Spec Tryz.prog 132 #[v0,.func (.func g) #[] cap.toArray] w0 (fun v w=>∃M',Lt M' w∧J (cF d.2) M' w∧Step M w0 M' w (lJ M B)):=by
 refine bc (args:=[_,_]) (fn:=Tryz.f132) Tryz.func132 rfl (n:=33) Tryz.ntmps132 ?_;have S:Step M w0 M w0 (lJ M B):=(aw _ _).cA (fun _ h=>h.elim) (fun _ h=>h.2);refine aj (ae ?_);refine qc (A:=RT.dc) rfl rfl hM hv rfl (fun u0 w1 dn s0 _=>?_);replace hJ:=hT.step _ _ _ _ _ hJ s0;replace hM:=s0.lt hM;have:=S.size;replace S:=S.aB s0;refine ab (aj (ae ?_));refine aN (M:=M) (A:=RT.dc) (B:=(RT.fd).sl) bg rfl rfl vE (by decide) (Jd) rfl rfl (by decide) (by assumption) (by repeat (first|exact aq _ _|refine a8 (bD (by assumption)) ?_)) (fun B6 ni=>?_);refine bT (M:=M) bu rfl rfl rfl rfl rfl (by assumption) (by repeat (first|exact aq _ _|refine a8 (bD (by assumption)) ?_)) (fun Ar nj=>?_);refine bM bu rfl nj rfl (ad rfl rfl (ab (aZ ?_)));refine de (σ:=Nat) (fun i=>[(1,.func (.func g) #[] cap.toArray),(9,Ar),(10,.int .i64 (d.2.length:Int)),(11,.int .i64 (i:Int))]) (fun i w=>∃M',Lt M' w∧Step M w0 M' w (lJ M B)∧(RT.fd.sl).V M' w d.2 Ar∧J (cF (d.2.take i)) M' w∧i≤d.2.length∧(cF (d.2.take i)).length≤900001*i) (fun i=>d.2.length-i) 0 (.cons rfl (.cons rfl (.cons rfl (.cons rfl .nil)))) ?_ ?_
 ·exact⟨_,hM,S,nj,hJ,bE _,aT _⟩
 ·rintro i w ⟨M1,hM,S,lp,hJ,hi,IN⟩;refine aj (ae (cj rfl rfl rfl (ab (aj ?_))));refine bN rfl (fun c2=>?_) (fun c2=>?_)
  ·refine aU (aj (aZ (aj (ae ?_))));refine cy (M:=M1) bu kE rfl rfl rfl lp (aq _ _) (by omega) (fun u3 x O1 Jk=>?_);rw[ay]at O1;have qV:=hl _ (aA O1);refine cX (M:=M1) (A:=RT.fd) cv rfl kE (by decide) rfl rfl rfl Jk (aq _ _) (fun v3 Ac=>?_);refine xG (A:=RT.fd) (M:=M1) kE rfl rfl rfl rfl rfl (by assumption) (aq _ _) hM (fun UK aoF A7 P1 aoG=>?_);replace lp:=lp.le P1.le;replace hJ:=hT.step _ _ _ _ _ hJ P1;replace hM:=P1.lt hM;have:=S.size;replace S:=S.aB P1;refine ab (aj (ae ?_));refine aN (M:=M1) (A:=RT.fd) (B:=RT.str) cv rfl rfl I9 (by decide) (fd1) rfl rfl (by decide) (by assumption) (by repeat (first|exact aq _ _|refine a8 (bD (by assumption)) ?_)) (fun Uq HS=>?_);refine bT (M:=M1) aJ rfl rfl rfl rfl rfl HS (aq _ _) (fun v4 qf=>?_);obtain rfl:=fS qf;refine aX rfl rfl X6 (yI (l:=x.2) _ hM qV.2) (fun v5 w5 hc=>?_);obtain⟨Y4,s5⟩:=hc;replace lp:=lp.le s5.le;replace A7:=A7.le (by decide) s5.le;replace hJ:=hT.step _ _ _ _ _ hJ s5;replace hM:=s5.lt hM;have:=S.size;replace S:=S.aB s5;have hwl:=qY x.2;refine bM aI rfl Y4 rfl (ad rfl rfl (ab (aZ ?_)));refine de (σ:=Nat) (fun k=>[(1,.func (.func g) #[] cap.toArray),(5,UK),(9,Ar),(10,.int .i64 (d.2.length:Int)),(11,.int .i64 (i:Int)),(17,v5),(18,.int .i64 ((words x.2).length:Int)),(19,.int .i64 (k:Int))]) (fun k w=>∃M',Lt M' w∧Step M w0 M' w (lJ M B)∧(RT.fd.sl).V M' w d.2 Ar∧cN RT.fd M' w UK x∧(RT.str.sl).V M' w (words x.2) v5∧J (cF (d.2.take i)++(jq x).take k) M' w∧k≤(words x.2).length) (fun k=>(words x.2).length-k) 0 (.cons rfl (.cons rfl (.cons rfl (.cons rfl (.cons rfl (.cons rfl (.cons rfl (.cons rfl .nil)))))))) ?_ ?_
   ·exact⟨_,hM,S,lp,A7,Y4,by rw[List.take_zero,iW];exact hJ,bE _⟩
   ·rintro k w ⟨M2,hM,S,lp,A7,Y4,hJ,hk⟩;refine aj (ae (cj rfl rfl rfl (ab (aj ?_))));refine bN rfl (fun c5=>?_) (fun c5=>?_)
    ·refine aU (aj (aZ (aj (ae (ad rfl rfl ?_)))));refine cy (M:=M2) aI I9 rfl rfl rfl Y4 (aq _ _) (by omega) (fun u6 y Kg Gc=>?_);rw[ay]at Kg;refine bT (M:=M2) aJ rfl rfl rfl rfl rfl Gc (aq _ _) (fun v6 wT=>?_);have FU:=(kG.1 wT).2;obtain rfl:=fS wT;refine ah rfl rfl (ah rfl rfl (ab (ae (ad rfl rfl ?_))));refine aN (M:=M2) (A:=RT.fd) (B:=RT.str) cv rfl rfl I9 (by decide) (Xd) rfl rfl (by decide) (by assumption) (by repeat (first|exact aq _ _|refine a8 (bD (by assumption)) ?_)) (fun aoH Y5=>?_);refine bT (M:=M2) aJ rfl rfl rfl rfl rfl Y5 (aq _ _) (fun v7 Gp=>?_);obtain rfl:=fS Gp;refine ad rfl rfl (iC (places:=[(0,1),(1,1)]) dH AY B78 rfl ⟨_,_,rfl,rfl,_,_,rfl,rfl,rfl⟩ (out:=[_,_]) ⟨0,[_],rfl,rfl,by simp[Value.cells],1,[_],rfl,rfl,by simp[Value.cells],rfl⟩ (ad rfl rfl ?_));refine rr (first:=[]) (captured:=cap) (xs:=[.tmp 28,.tmp 29]) rfl rfl rfl hT.enters (hT.tell _ _ _ (x.1,y) k hJ hM qV.1 FU (by omega) (by rw[bj,bH,ox];omega)) (fun r7 w7 hc=>?_);obtain⟨M7,hM7,hJ7,s7⟩:=hc;refine ab (ae (bF rfl rfl rfl (by omega) (ad rfl rfl (ab ?_))));refine⟨rfl,k+1,(.cons rfl (.cons rfl (.cons rfl (.cons rfl (.cons rfl (.cons rfl (.cons rfl (.cons rfl .nil)))))))),?_,?_⟩
     ·exact⟨M7,hM7,S.trans s7 (fun b hb h=>⟨h.1,(S.mem b hb).1 h.2⟩),lp.le s7.le,A7.le (by decide) s7.le,Y4.le s7.le,by rw[bK,Md Kg,cT,←List.append_assoc];exact hJ7,by omega⟩
     ·omega
    ·refine cG (ae (bF rfl rfl rfl (by omega) (ad rfl rfl (ab ?_))));refine⟨rfl,i+1,(.cons rfl (.cons rfl (.cons rfl (.cons rfl .nil)))),?_,?_⟩
     ·exact⟨_,hM,S,lp,by rw[ti O1];have e:(jq x).take k=jq x:=aW (by rw[ox];omega);rw[e]at hJ;exact hJ,by omega,by rw[ti O1,bj,ox];omega⟩
     ·omega
  ·refine cG ?_
   first|refine rq ?_|simp+decide only[ru,jx,if_true,if_false]|skip
   have e:d.2.take i=d.2:=aW (by omega);rw[e]at hJ;exact fR rfl ⟨_,hM,hJ,S⟩
theorem Jl {M:aD} {w:World} {t:Fd} (h1:t.1.length≤140737488355328) (h2:t.2.length≤140737488355328):RT.fd.V M w t (kv t):=eS (kG.2 ⟨rfl,h1⟩) (kG.2 ⟨rfl,h2⟩) rfl rfl rfl rfl
def WJ (b B:Nat) (ts:List (Fd×Nat)) (M:aD) (w:World):Prop:=w.heap[b]? =some (.cells #[.int .i64 (ts.length:Int)] 3 (0,0))∧M b∧B≤b
theorem B9 {M:aD} {b B:Nat} {ts:List (Fd×Nat)} {t:Fd} {i:Nat} (w0:World) (hM:Lt M w0) (h1:t.1.length≤900000) (h2:t.2.length≤140737488355328) (KO:ts.length≤10000000) (hJ:WJ b B ts M w0):
  Spec Tryz.prog 139 #[kv t,.int .i64 (i:Int),.pointer (some ⟨b,0,none⟩)] w0 (fun v w=>∃M',Lt M' w∧WJ b B (ts++[(t,i)]) M' w∧Step M w0 M' w (lJ M B)):=by
 obtain⟨gb,ef,hB⟩:=hJ;refine bc (args:=[_,_,_]) (fn:=Tryz.f139) Tryz.func139 rfl (n:=7) Tryz.ntmps139 ?_;have S:Step M w0 M w0 (lJ M B):=(aw _ _).cA (fun _ h=>h.elim) (fun _ h=>h.2);refine aj (ae ?_);refine qc (A:=RT.fd) rfl rfl hM (Jl (by omega) h2) rfl (fun u0 w1 dn s0 _=>?_);have:=ak gb;replace ef:=(s0.mem _ this).2 ef;replace gb:=s0.aK gb;replace hM:=s0.lt hM;have:=S.size;replace S:=S.aB s0;refine ab (ae (aM ax rfl rfl rfl (by assumption) rfl (bF rfl rfl rfl (by omega) ?_)));refine cu (M:=M) I3 rfl rfl gb rfl (rfl) ef (fun P2 iL pW=>?_);change P2.heap[_]? =some (Obj.cells #[.int .i64 ((ts.length:Int)+1)] _ _)at iL;have:=ak gb;replace ef:=(pW.mem _ this).2 ef;replace hM:=pW.lt hM;have:=S.size;replace S:=S.trans pW (fun k hk h=>by have h:_=_:=h;subst h;first|(exfalso;omega)|(show _≤_;omega)|exact⟨by first|omega|assumption,(S.mem _ hk).1 ((pW.mem _ (ak gb)).1 ef)⟩|exact .inl rfl|exact .inr rfl|exact .inr (.inl rfl)|exact .inr (.inr rfl)|exact .inr (.inr (.inl rfl))|exact rfl);have Me:=iL;clear gb;have gb:=Me;clear Me;refine ab ?_
 first|refine rq ?_|simp+decide only[ru,jx,if_true,if_false]|skip
 exact fR rfl ⟨_,hM,⟨by rw[bj];exact gb,ef,hB⟩,S⟩
theorem DX {b B:Nat}:UJ Tryz.prog 139 [.pointer (some ⟨b,0,none⟩)] B (WJ b B):=
 ⟨adA,fun ts M w M' w' ⟨h1,h2,h3⟩ s=>⟨s.aK h1,(s.mem _ (ak h1)).2 h2,h3⟩,fun ts M w t i hJ hM h1 h2 _ h4=>B9 w hM h1 h2 h4 hJ⟩
theorem DY {M:aD} {d:Dc} {v0:Value} (w0:World) (hM:Lt M w0) (hv:RT.dc.V M w0 d v0) (hl:∀f∈d.2,f.1.length≤900000∧f.2.length≤900000) (hd8:d.2.length≤8):
  Spec Tryz.prog 89 #[v0] w0 (fun v w=>v= .int .i64 ((cF d.2).length:Int)∧Step M w0 M w aC):=by
 refine bc (args:=[_]) (fn:=Tryz.f89) Tryz.func89 rfl (n:=8) Tryz.ntmps89 ?_;have S:Step M w0 M w0 aC:=(aw _ _).cA (fun _ h=>h.elim) (fun _ h=>h.elim);refine aj (ae ?_);refine qc (A:=RT.dc) rfl rfl hM hv rfl (fun u0 w1 dn s0 _=>?_);replace hM:=s0.lt hM;have:=S.size;replace S:=S.aB s0;refine ah rfl rfl (ab (aj (ae ?_)));refine dP M I3 rfl (fun mA Dz Uf Ug jU nF=>?_);obtain⟨lg,mB⟩:∃M',M'=ins M mA:=⟨_,rfl⟩;rw[←mB]at nF;have iM:lg mA:=by rw[mB];exact .inl rfl
 change Dz.heap[mA]? =some (.cells #[.int .i64 0] _ _)at jU;replace dn:=dn.le (by decide) nF.le;replace hM:=nF.lt hM;have:=S.size;replace S:=S.aB nF;refine cu (M:=lg) I3 rfl rfl jU rfl (rfl) iM (fun UL As xx=>?_);change UL.heap[_]? =some (Obj.cells #[.int .i64 0] _ _)at As;have:=ak jU;replace iM:=(xx.mem _ this).2 iM;replace dn:=dn.le (by decide) xx.le;replace hM:=xx.lt hM;have:=S.size;replace S:=S.trans xx (fun k hk h=>by have h:_=_:=h;subst h;first|(exfalso;omega)|(show _≤_;omega)|exact⟨by first|omega|assumption,(S.mem _ hk).1 ((xx.mem _ (ak jU)).1 iM)⟩|exact .inl rfl|exact .inr rfl|exact .inr (.inl rfl)|exact .inr (.inr rfl)|exact .inr (.inr (.inl rfl))|exact rfl);have RY:=As;clear jU;have jU:=RY;clear RY;refine ab (aj (ae ?_));refine cX (M:=lg) (A:=RT.dc) bg rfl o5 (by decide) rfl rfl rfl dn (aq _ _) (fun v2 Fu=>?_);refine kb (xs:=[]) (ys:=[.tmp 3]) rfl rfl rfl ?_;refine aX rfl rfl X5 (A6 (cap:=[.pointer (some ⟨mA,0,none⟩)]) (B:=w0.heap.size) _ hM Fu hl hd8 DX ⟨jU,iM,by omega⟩) (fun r2 w2 hc=>?_);obtain⟨M2,Fw,⟨g2,_,_⟩,s2⟩:=hc;replace S:=S.l4 s2 (aT _);refine ab (aj (ae (aM ax rfl rfl rfl g2 rfl (ah rfl rfl (ab (aO ?_))))));exact aS rfl rfl ⟨rfl,S.back⟩
end Go.K
namespace Go.K
section
variable {P:Program} {r:Option Nat} {n:Nat} {L:Sl} {ds:List Deferred} {w:World} {K:Kt} {ops:Array Oper} {rest:List Oper} {d:Nat} {x y z:Operand} {ty:TypeId} {pos:String} {af:Array Edge}
variable {kt:TypeId} {M:aD} {b mb clock:Nat} {es:List MapEntry} {sn:Array Nat}
theorem Rg.rangeMap {t e:TypeId} (M:aD) (ht:P.underlying t=some (.map kt e)) (hx:ev L x=some (.map (some mb))) (hd:Nat.blt d n=true) (h:fB P kt w mb es clock)
  (k:∀b w',w.heap.size≤b→b<w'.heap.size→w'.heap[b]? =some (.mapIter (some mb) clock #[] clock)→Step M w (ins M b) w' aC→Rg P r n ops rest ((d,.pointer (some ⟨b,0,none⟩))::L) ds w' K):
  Rg P r n ops ({dst:=some d,op:= .range t x,type:=ty,pos,after:=af,guard:=none}::rest) L ds w K:=by
 refine .op (fun _ h=>by cases h) rfl rfl hd (.pointer (some ⟨w.heap.size,0,none⟩)) (w.alloc (.mapIter (some mb) clock #[] clock)) (fun ρ hρ=>?_) (k w.heap.size _ (aT _) (by simp) (cg w _) ((cQ M w _).own (aT _) (by simp)));simp only[execOp,hρ x _ hx];simp[Instr.range,ck,run_underlying ht,dN h.at_,newObj,Sem.run]
theorem pO {sb:Option Nat} {s c:Nat} (hb:w.heap[b]? =some (.mapIter sb s sn c)):(getObj b).run P w= .ok (.mapIter sb s sn c) w:=by simp[getObj,Sem.run,hb]
theorem Gq (h:fB P kt w mb es clock) (seen:Array Nat):(!seen.isEmpty&& !es.toArray.isEmpty&&es.toArray.all (fun x=>decide (x.born≥clock)))=false:=by
 cases es with
 |nil=>simp
 |cons e l=>
  have:=h.lt e (by simp);simp only[Bool.and_eq_false_iff];right;rw[cV];intro h2;rw[Array.all_eq_true_iff_forall_mem]at h2;have:=h2 e (by simp);simp at this;omega
theorem DZ (k:Nat) (hk:0<k):∃j w1,j<k∧(∀M,Step M w M w1 aC)∧w1.heap=w.heap∧(choose (Question.mapNext k)).run P w= .ok j w1:=by
 by_cases hf:k≤1
 ·exact⟨0,w,hk,fun M=>aw M w,rfl,by simp[choose,Sem.run,Question.forced,hf]⟩
 ·exact⟨_,w.drew,Nat.mod_lt _ hk,fun M=>lU M w,rfl,by
   simp only[choose,Sem.run,Question.forced,decide_eq_true_eq,hf,if_false,Question.cut];rfl⟩
theorem Mf (h:fB P kt w mb es clock) (hb:w.heap[b]? =some (.mapIter (some mb) clock sn clock)) (hm:M b):
  ((∀e∈es,e.born∈sn)∧(Instr.next (.pointer (some ⟨b,0,none⟩)) false ty).run P w= .ok (.tuple #[.bool false]) w)∨
  ∃e w',e∈es∧e.born∉sn∧w'.heap[b]? =some (.mapIter (some mb) clock (sn.push e.born) clock)∧Step M w M w' (fun k=>k=b)∧(Instr.next (.pointer (some ⟨b,0,none⟩)) false ty).run P w= .ok (.tuple #[.bool true,e.key,e.val]) w':=by
 have dR:=ak hb;simp only[Instr.next,ck,pO hb,cB,dN h.at_,Gq h sn,Bool.false_eq_true,if_false];have hL:∀e∈es.toArray.filter (fun e=> !sn.contains e.born),e.born<clock:=fun e he=>h.lt e (by simpa using(Array.mem_filter.1 he).1)
 have kq:∀e,e∈es.toArray.filter (fun e=> !sn.contains e.born)↔e∈es∧e.born∉sn:=fun e=>by simp[Array.mem_filter]
 generalize es.toArray.filter (fun e=> !sn.contains e.born)=Lf at hL kq ⊢;have e1:Lf.filter (fun x=>decide (x.born<clock))=Lf:=Array.filter_eq_self.2 fun x hx=>by simpa using hL x hx
 have e2:Lf.filter (fun x=>decide (x.born≥clock))= #[]:=by
  rw[Array.filter_eq_empty_iff];intro x hx;have:=hL x hx;simp;omega
 simp only[e1,e2,Array.append_empty];by_cases h0:Lf.size=0
 ·left;have rA:Lf= #[]:=Array.eq_empty_of_size_eq_zero h0;subst rA;refine⟨fun e he=>?_,by simp[choose,Sem.run,Question.forced]⟩;by_cases hs:e.born∈sn
  ·exact hs
  ·exact absurd ((kq e).2 ⟨he,hs⟩) (by simp)
 ·right;have eK:Lf.isEmpty=false:=by simp[Array.isEmpty,h0]
  simp only[eK,Bool.false_eq_true,if_false,Array.empty_append,Array.size_map];obtain⟨j,w1,hj,hs1,hh1,gQ⟩:=DZ (P:=P) (w:=w) Lf.size (by omega);have mv:w1.heap[b]? =some (.mapIter (some mb) clock sn clock):=by rw[hh1];exact hb
  have eH:=(kq Lf[j]).1 (by simp);refine⟨Lf[j],{w1 with heap:=w1.heap.setIfInBounds b (.mapIter (some mb) clock (sn.push Lf[j].born) clock)},eH.1,eH.2,by simp[dx,hh1,dR],?_,?_⟩
  ·exact((hs1 M).cA (fun _ h=>h.elim) (fun k hk=>by subst hk;exact hm)).trans (jm M hm) (fun _ _ h=>h)
  ·simp only[gQ,cB,Array.getElem?_map,Array.getElem?_eq_getElem hj,dd,ck];simp[setObj,Sem.run,mv]
theorem Rg.P3 (hx:ev L x=some (.pointer (some ⟨b,0,none⟩))) (hb:w.heap[b]? =some (.mapIter (some mb) clock sn clock)) (hm:M b) (h:fB P kt w mb es clock) (hd:Nat.blt d n=true)
  (k1:∀e w',e∈es→e.born∉sn→w'.heap[b]? =some (.mapIter (some mb) clock (sn.push e.born) clock)→Step M w M w' (fun k=>k=b)→Rg P r n ops rest ((d,.tuple #[.bool true,e.key,e.val])::L) ds w' K)
  (k2:(∀e∈es,e.born∈sn)→Rg P r n ops rest ((d,.tuple #[.bool false])::L) ds w K):
  Rg P r n ops ({dst:=some d,op:= .next x false,type:=ty,pos,after:=af,guard:=none}::rest) L ds w K:=by
 rcases Mf (ty:=ty) h hb hm with⟨h1,h2⟩|⟨e,w',h1,h2,h3,h4,h5⟩
 ·refine .op (fun _ h=>by cases h) rfl rfl hd _ w (fun ρ hρ=>?_) (k2 h1);simp only[execOp,hρ x _ hx];simp[h2]
 ·refine .op (fun _ h=>by cases h) rfl rfl hd _ w' (fun ρ hρ=>?_) (k1 e w' h1 h2 h3 h4);simp only[execOp,hρ x _ hx];simp[h5]
theorem Rg.entry {e:MapEntry} {sn':Array Nat} (hx:ev L x=some (.pointer (some ⟨b,0,none⟩))) (hb:w.heap[b]? =some (.mapIter (some mb) clock (sn'.push e.born) clock)) (h:fB P kt w mb es clock) (he:e∈es) (hd:Nat.blt d n=true)
  (k:Rg P r n ops rest ((d,.tuple #[e.key,e.val])::L) ds w K):
  Rg P r n ops ({dst:=some d,op:= .entry x,type:=ty,pos,after:=af,guard:=none}::rest) L ds w K:=by
 have hf:es.find? (fun x=>x.born==e.born)=some e:=by
  rw[List.find?_eq_some_iff_getElem];obtain⟨i,hi⟩:=bB.1 he;obtain⟨h1,h2⟩:=ao.1 hi;refine⟨by simp,i,h1,h2,fun j hj=>?_⟩;have xo:j<es.length:=by omega
  have:=fun q=>h.DV (ar xo) hi q
  simp only[iU,beq_eq_false_iff_ne,ne_eq];intro q;have:=this q;omega
 refine .op (fun _ h=>by cases h) rfl rfl hd _ w (fun ρ hρ=>?_) k;simp only[execOp,hρ x _ hx,Instr.entry,ck,pO hb,cB,dN h.at_];simp[hf,ck,dN h.at_]
end
end Go.K
namespace Go.K
open Go.Proofs
set_option maxRecDepth 10000
theorem filter_lt {α:Type} {p q:α→Bool} {a:α}:∀{l:List α},(∀x∈l,q x=true→p x=true)→a∈l→p a=true→q a=false→(l.filter q).length<(l.filter p).length
 |[],_,ha,_,_=>by cases ha
 |x::l,h,ha,hp,hq=>by
  have hle:(l.filter q).length≤(l.filter p).length:=by
   rw[←List.countP_eq_length_filter,←List.countP_eq_length_filter];exact List.countP_mono_left fun y hy=>h y (b9 _ hy)
  rcases cf.1 ha with rfl|ha
  ·rw[List.filter_cons_of_pos hp,List.filter_cons_of_neg (by simp[hq])];simp;omega
  ·have:=filter_lt (fun y hy=>h y (b9 _ hy)) ha hp hq;by_cases hx:q x=true
   ·rw[List.filter_cons_of_pos hx,List.filter_cons_of_pos (h x (bP ..) hx)];simp;omega
   ·rw[List.filter_cons_of_neg hx];by_cases hx2:p x=true
    ·rw[List.filter_cons_of_pos hx2];simp;omega
    ·rw[List.filter_cons_of_neg hx2];omega
theorem fB.UM {P:Program} {kt:TypeId} {w:World} {b clock:Nat} {es:List MapEntry} (h:fB P kt w b es clock) {x y:MapEntry} (hx:x∈es) (hy:y∈es) (hk:x.key=y.key):x=y:=by
 obtain⟨i,hi⟩:=bB.1 hx;obtain⟨j,hj⟩:=bB.1 hy;rcases fa i j with ji|rfl|ji
 ·exact absurd hk (ix h.keys hi hj ji)
 ·exact aH (hi.symm.trans hj)
 ·exact absurd hk.symm (ix h.keys hj hi ji)
theorem fB.P5 {P:Program} {kt:TypeId} {w:World} {b clock:Nat} {es:List MapEntry} (h:fB P kt w b es clock) {x y:MapEntry} (hx:x∈es) (hy:y∈es) (hk:x.born=y.born):x=y:=by
 obtain⟨i,hi⟩:=bB.1 hx;obtain⟨j,hj⟩:=bB.1 hy;rcases fa i j with ji|rfl|ji
 ·exact absurd hk (ix h.born hi hj ji)
 ·exact aH (hi.symm.trans hj)
 ·exact absurd hk.symm (ix h.born hj hi ji)
def Gr (w:World) (k:Nat):Prop:=∃m s sn c,w.heap[k]? =some (.mapIter m s sn c)
def HW (es:List MapEntry):Prop:=∀e∈es,∃t:Fd,e.key=kv t∧t.1.length≤140737488355328∧t.2.length≤140737488355328
theorem Gt {yl bs mb clock:Nat} {es:List MapEntry} {J:List Fd→World→Prop} (w0:World) (hk:HW es) (hJs:∀ts w w' N,J ts w→Step allM w allM w' N→(∀k,k<w.heap.size→N k→w0.heap.size≤k∧Gr w k)→J ts w') (hJb:∀ts w,J ts w→w.heap[bs]? =some (.cells #[.map (some mb)] 217 (0,0))∧fB Tryz.prog 78 w mb es clock) (hy:∀ts w (t:Fd),J ts w→(∃e∈es,e.key=kv t)→t∉ts→ts.length<es.length→wJ Tryz.prog yl [kv t].toArray w (fun r w'=>r= .bool true∧J (ts++[t]) w'∧∃N,Step allM w allM w' N∧∀k,N k→¬Gr w k)) (h0:J [] w0):
  Spec Tryz.prog 188 #[.func (.yield yl) #[] #[],.pointer (some ⟨bs,0,none⟩)] w0 (fun v w=>∃ts,J ts w∧ts.Nodup∧∀t,t∈ts↔∃e∈es,e.key=kv t):=by
 obtain⟨gb,hW⟩:=hJb _ _ h0;have hJ:=h0;clear h0;refine bc (args:=[_,_]) (fn:=Tryz.f188) Tryz.func188 rfl (n:=14) Tryz.ntmps188 ?_;have S:Step allM w0 allM w0 allM:=(aw _ _).cA (fun _ h=>h.elim) (fun _ _=>trivial);refine aj (ae (aM l2 rfl rfl rfl (by assumption) rfl ?_));refine Rg.rangeMap allM l2 rfl rfl hW (fun bi w1 mv pD gi s1=>?_);replace s1:=s1.all;have:=ak gb;replace gb:=s1.aK gb;replace hJ:=hJs _ _ _ _ hJ s1 (fun _ _ h=>h.elim);have:=S.size;replace S:=S.aB s1;refine ab (aZ ?_);refine de (σ:=List Fd×Array Nat) (fun s=>[(0,.func (.yield yl) #[] #[]),(1,.pointer (some ⟨bs,0,none⟩)),(5,.pointer (some ⟨bi,0,none⟩))]) (fun s w=>J s.1 w∧Step allM w0 allM w allM∧w.heap[bi]? =some (.mapIter (some mb) clock s.2 clock)∧s.1.Nodup∧(∀e∈es,e.born∈s.2↔∃t∈s.1,e.key=kv t)∧(∀t∈s.1,∃e∈es,e.key=kv t)) (fun s=>(es.filter fun e=>decide (e.born∉s.2)).length) ([],#[]) (.cons rfl (.cons rfl (.cons rfl .nil))) ?_ ?_
 ·exact⟨hJ,S,gi,List.nodup_nil,fun e _=>by simp,fun t h=>by cases h⟩
 ·rintro⟨ts,sn⟩ w ⟨hJ,S,gi,oJ,hsn,kq⟩;dsimp only at hJ gi oJ hsn kq ⊢;obtain⟨gb,hW⟩:=hJb _ _ hJ;refine aj (ae ?_);refine Rg.P3 (M:=allM) rfl gi trivial hW rfl (fun UN Dz ud RZ jU nF=>?_) (fun ae3=>?_)
  ·have gi0:=gi;replace gb:=nF.keep gb (fun hk=>by have hk:_=_:=hk;omega);replace hJ:=hJs _ _ _ _ hJ nF (fun k hk h=>by have h:k=bi:=h;subst h;exact⟨mv,_,_,_,_,gi0⟩);have:=S.size;replace S:=S.trans nF (fun k hk h=>by have h:_=_:=h;subst h;first|(exfalso;omega)|(show _≤_;omega)|exact .inl rfl|exact .inr rfl|exact .inr (.inl rfl)|exact .inr (.inr rfl)|exact .inr (.inr (.inl rfl))|exact rfl);have gi_:=jU;clear gi;have gi:=gi_;clear gi_;refine bW rfl rfl rfl (ab (aj (nQ rfl (aU (aZ (aj (ae (Rg.entry rfl gi (hJb _ _ hJ).2 ud rfl ?_))))))));obtain⟨t,P7,R0,Jb⟩:=hk _ ud;have TB:t∉ts:=fun h=>RZ ((hsn _ ud).2 ⟨t,h,P7⟩)
   have dR:ts.length<es.length:=by
    have h1:((t::ts).map kv).Nodup:=cz.2 ((List.nodup_cons.2 ⟨TB,oJ⟩).imp fun h e=>h (vK e))
    have h2:=h1.length_le_of_subset (l₂:=es.map (·.key)) (fun x hx=>by
     obtain⟨u,hu,rfl⟩:=ca.1 hx;rcases cf.1 hu with rfl|hu
     ·rw[←P7];exact gX ud
     ·obtain⟨e,he,h⟩:=kq u hu;rw[←h];exact gX he)
    simp at h2;omega
   rw[P7];refine bW rfl rfl rfl ?_;refine xG (A:=RT.fd) (M:=aC) AY rfl rfl rfl rfl rfl (Jl R0 Jb) (aq _ _) (Lt.none _) (fun u2 w2 rT s2 z2=>?_);replace s2:=s2.all;have:=ak gb;replace gb:=s2.aK gb;have:=ak gi;replace gi:=s2.aK gi;replace hJ:=hJs _ _ _ _ hJ s2 (fun _ _ h=>h.elim);have:=S.size;replace S:=S.aB s2
   skip
   refine ab (aj (ae (ad rfl rfl ?_)));refine cX (M:=aC) (A:=RT.fd) dH rfl AY (by decide) rfl rfl rfl rT (aq _ _) (fun v3 Ac=>?_);obtain rfl:=tf Ac;refine Rg.yield (vs:=[kv t]) rfl rfl rfl (hy _ _ t hJ ⟨_,ud,P7⟩ TB dR) (fun r3 w3 hc=>?_);obtain⟨rfl,Y6,N3,s3,hN3⟩:=hc;clear jU;replace gi:=s3.keep gi (fun h=>hN3 _ h ⟨_,_,_,_,gi⟩);replace hJ:=Y6;clear Y6;obtain⟨gb,-⟩:=hJb _ _ hJ;replace S:=S.trans s3 (fun _ _ _=>trivial);refine lH rfl rfl (aV (v':= .bool false) rfl (ab (jE rfl (aU ?_))));refine⟨rfl,(ts++[t],sn.push UN.born),(.cons rfl (.cons rfl (.cons rfl .nil))),?_,?_⟩
   ·have sJ:∀e∈es,e.born=UN.born↔e.key=kv t:=fun e he=>by
     constructor
     ·intro h;rw[fB.P5 hW he ud h,P7]
     ·intro h;rw[fB.UM hW he ud (h.trans P7.symm)]
    refine⟨hJ,S,gi,List.nodup_append.2 ⟨oJ,by simp,fun a ha b hb h=>by simp at hb;subst hb;subst h;exact TB ha⟩,fun e he=>?_,fun u hu=>?_⟩
    ·rw[Array.mem_push,hsn e he,sJ e he];constructor
     ·rintro(⟨u,h1,h2⟩|h)
      ·exact⟨u,gu _ h1,h2⟩
      ·exact⟨t,by simp,h⟩
     ·rintro⟨u,h1,h2⟩;rcases cp.1 h1 with h1|h1
      ·exact .inl ⟨u,h1,h2⟩
      ·simp at h1;subst h1;exact .inr h2
    ·rcases cp.1 hu with hu|hu
     ·exact kq u hu
     ·simp at hu;subst hu;exact⟨_,ud,P7⟩
   ·exact filter_lt (a:=UN) (fun e _ h=>by simp only[decide_eq_true_eq,Array.mem_push,not_or]at h ⊢;exact h.1) ud (by simpa using RZ) (by simp)
  ·refine bW rfl rfl rfl (ab (aj (jE rfl (cG ?_))))
   first|refine rq ?_|simp+decide only[ru,jx,if_true,if_false]|skip
   exact fR rfl ⟨ts,hJ,oJ,fun t=>⟨kq t,fun⟨e,he,P7⟩=>by obtain⟨t',h1,h2⟩:=(hsn e he).1 (ae3 e he);rw[←vK (h2.symm.trans P7)];exact h1⟩⟩
end Go.K
namespace Go.K
open Go.Proofs
set_option maxRecDepth 10000
theorem dX.any {α:Type} {A:RT α} (hA:∀M w M' w' x vs,A.R M w x vs→A.R M' w' x vs) {M M':aD} {w w':World}:∀{xs:List α} {C:List Value},dX A M w xs C→dX A M' w' xs C
 |[],_,h=>h
 |x::xs,C,h=>by
  obtain⟨vs,r,h1,h2,h3⟩:=h;exact⟨vs,r,h1,hA _ _ _ _ _ _ h2,dX.any hA h3⟩
theorem Ca (M:aD) (w:World) (M':aD) (w':World) (x:Fd) (vs:List Value) (h:RT.fd.R M w x vs):RT.fd.R M' w' x vs:=h
theorem Own.HX {α:Type} {A:RT α} (hA:∀M w M' w' x vs,A.R M w x vs→A.R M' w' x vs) {e:TypeId} {M N:aD} {w w':World} {base:Nat} {v:Value} {xs:List α} (h:Own A e M w base v xs) (s:Step allM w allM w' N) (hn:∀b,v.ownBlock=some b→¬N b):Own A e (mV v) w' base v xs:=by
 obtain⟨⟨C,h1,h2⟩,_⟩:=h;refine⟨⟨C,⟨h1.1,?_⟩,dX.any hA h2⟩,fun _ h=>h⟩;rcases h1.2 with h3|⟨g,cap,cur,h3,h4,h5,h6,h7,h8⟩
 ·exact .inl h3
 ·exact .inr ⟨g,cap,cur,h3,h4,by rw[s.same g (ak h5) (hn g (by rw[h3];rfl))];exact h5,h6,h7,h8⟩
theorem Own.isCells {α:Type} {A:RT α} {e:TypeId} {M:aD} {w:World} {base b:Nat} {v:Value} {xs:List α} (h:Own A e M w base v xs) (hb:v.ownBlock=some b):∃cs,w.heap[b]? =some (.cells cs e (0,0)):=by
 obtain⟨⟨C,h1,_⟩,_⟩:=h;rcases h1.2 with h3|⟨g,cap,cur,h3,h4,h5,_⟩
 ·rw[h3.1]at hb;cases hb
 ·rw[h3]at hb;cases hb;exact⟨_,h5⟩
structure Aq (w0:World) (bt D:Nat) (st:Loop) (v:Value) (ts:List Fd) (w:World):Prop where
 S:Step allM w0 allM w aC
 c:w.heap[bt]? =some (.cells #[v] 155 (0,0))
 o:Own RT.fd 78 (mV v) w w0.heap.size v ts
 d:w.heap[D]? =some (.deferred (some []))
 r:w.heap[D+1]? =some (.loop st)
 hb:w0.heap.size≤bt
 hD:w0.heap.size≤D
theorem Aq.step {w0 w w':World} {bt D:Nat} {st:Loop} {v:Value} {ts:List Fd} {N:aD} (h:Aq w0 bt D st v ts w) (s:Step allM w allM w' N) (hN:∀k,k<w.heap.size→N k→w0.heap.size≤k∧Gr w k):Aq w0 bt D st v ts w':=by
 have no:∀{k o},w.heap[k]? =some o→(∀m s sn c,o≠ .mapIter m s sn c)→¬N k:=fun hk ho hn=>by
  obtain⟨_,m,s,sn,c,h'⟩:=hN _ (ak hk) hn;rw[hk]at h';exact ho m s sn c (aH h')
 refine⟨h.S.trans s (fun k hk hn=>?_),s.keep h.c (no h.c (by intros;simp)),h.o.HX Ca s (fun b hb=>?_),s.keep h.d (no h.d (by intros;simp)),s.keep h.r (no h.r (by intros;simp)),h.hb,h.hD⟩
 ·have:=(hN k (iu hk h.S.size) hn).1;omega
 ·obtain⟨cs,hc⟩:=h.o.isCells hb;exact no hc (by intros;simp)
theorem Aq.mH {w0 w:World} {bt D:Nat} {st st':Loop} {v:Value} {ts:List Fd} (h:Aq w0 bt D st v ts w):Aq w0 bt D st' v ts (w.putObj (D+1) (.loop st')):=by
 have s:Step allM w allM (w.putObj (D+1) (.loop st')) (fun k=>k=D+1):=dS trivial;have hD:=h.hD;refine⟨h.S.trans s (fun k hk hn=>by have hn:k=D+1:=hn;omega),s.keep h.c (fun hn=>by have hn:bt=D+1:=hn;have h1:=h.c;rw[hn,h.r]at h1;cases h1),h.o.HX Ca s (fun b hb hn=>?_),s.keep h.d (fun hn=>by have hn:D=D+1:=hn;omega),by have:=ak h.r;simp[World.putObj,dx,this],h.hb,h.hD⟩;have hn:b=D+1:=hn;obtain⟨cs,hc⟩:=h.o.isCells hb;rw[hn,h.r]at hc;cases hc
theorem D0 {bs mb clock:Nat} {es:List MapEntry} (w0:World) (hk:HW es) (hes:es.length≤100000000) (UO:w0.heap[bs]? =some (.cells #[.map (some mb)] 217 (0,0))) (hW:fB Tryz.prog 78 w0 mb es clock):
  Spec Tryz.prog 237 #[.slice none 0 0,.func (.func 188) #[] [.pointer (some ⟨bs,0,none⟩)].toArray] w0 (fun v w=>∃ts:List Fd,ts.Nodup∧(∀t,t∈ts↔∃e∈es,e.key=kv t)∧Own RT.fd 78 (mV v) w w0.heap.size v ts∧Step allM w0 allM w aC):=by
 refine oc (args:=[_,_]) (fn:=Tryz.f237) Tryz.func237 rfl (n:=13) Tryz.ntmps237 (aj (ae ?_));refine xj allM rfl rfl (fun bt w1 mv aoM gt s1=>?_);change w1.heap[bt]? =some (.cells #[.slice none 0 0] 155 (0,0))at gt;replace s1:=s1.all;refine ah rfl rfl (ab (aj (aj (ae (ad rfl rfl (ab (aZ ?_)))))));refine T.range (gf:=188) (lb:=[.pointer (some ⟨bs,0,none⟩)].toArray) rfl adG (fun rec nD=>?_);obtain⟨D,hD⟩:∃D,D=w1.heap.size:=⟨_,rfl⟩;have sA:Step allM w1 allM ((w1.alloc (.deferred (some []))).alloc (.loop (rec .ready none))) aC:=(cQ _ _ _).aB (cQ _ _ _)
 have h0:Aq w0 bt D (rec .ready none) (.slice none 0 0) [] ((w1.alloc (.deferred (some []))).alloc (.loop (rec .ready none))):=by
  refine⟨s1.aB sA,sA.aK gt,dF _ _ _ _ _,?_,?_,mv,by rw[hD];exact s1.size⟩
  ·rw[hD];exact(cQ allM (w1.alloc _) _).aK (cg w1 _)
  ·rw[hD];have:=cg (w1.alloc (.deferred (some []))) (.loop (rec .ready none));rwa [Af]at this
 rw[←hD]at nD ⊢;have hz:=h0.S.size;refine Spec.mono (Gt (J:=fun ts w=>∃v,Aq w0 bt D (rec .ready none) v ts w) _ hk (fun ts w w' N ⟨v,h⟩ s hN=>⟨v,h.step s (fun k hk hn=>⟨ez hz (hN k hk hn).1,(hN k hk hn).2⟩)⟩) (fun ts w ⟨v,h⟩=>⟨h.S.aK UO,hW.aP h.S⟩) (fun ts wr t hJ kq TB dR=>?_) ⟨_,h0⟩) (fun _ w3 h3=>?_)
 ·obtain⟨v,h⟩:=hJ;obtain⟨e,he,hke⟩:=kq;obtain⟨t',ae5,R0,Jb⟩:=hk e he;obtain rfl:=vK (hke.symm.trans ae5);have hzr:=ak h.r;refine lW (ps:=[7]) (vs:=[kv t]) nD h.r rfl (by decide) (ae ?_);refine xG (A:=RT.fd) (M:=fun k=>k=D+1) AY rfl rfl rfl rfl rfl (Jl R0 Jb) (aq _ _) (fun k hk=>by have hk:k=D+1:=hk;omega) (fun u2 w2 rT s2 z2=>?_);replace s2:=s2.all
  skip
  refine ab ?_;refine⟨rfl,s2.aK h.r,?_⟩;have h4:=(h.step s2 (fun _ _ h=>h.elim)).mH (st':=rec .busy none);have s3':Step (fun k=>k=D+1) w2 (fun k=>k=D+1) (w2.putObj (D+1) (.loop (rec .busy none))) (fun k=>k=D+1):=dS rfl;have s3:=s3'.all;have Ft:=rT.le (by decide) s3'.le;clear s3';generalize w2.putObj (D+1) _=w4 at h4 s3 Ft ⊢;refine aZ (ae (aM jR rfl rfl rfl h4.c rfl ?_));refine cX (M:=fun k=>k=D+1) (A:=RT.fd) dH rfl AY (by decide) rfl rfl rfl Ft (aq _ _) (fun v3 Ac=>?_);obtain rfl:=tf Ac;refine ed (A:=RT.fd) (hn:=by decide) (M:=mV v) jR AY (by decide) rfl rfl (fun b hb=>(h4.o.base b hb).2) (Jl R0 Jb) (.inl rfl) (fun u5 w5 Dw s5=>?_);refine cZ (M:=mV v) (base:=w0.heap.size) jR AY rfl rfl rfl rfl (h4.o.aP s5) Dw (aq _ _) (by simp;omega) (by simp;omega) (ez h4.S.size s5.size) (fun v6 M6 w6 ue s6=>?_);have gc:=s6.all.keep (s5.all.aK h4.c) (fun hn=>h4.o.eI h4.c (by decide) hn);refine cu (M:=allM) adm rfl rfl gc rfl (by obtain⟨_,_,he,_⟩:=ue.isSlice;rw[he];rfl) trivial (fun w7 gc7 s7=>?_);refine ab ?_
  have ae7:∀k,mV v k→¬Gr wr k:=fun k hk ⟨_,_,_,_,h9⟩=>by
   obtain⟨cs,hc⟩:=h.o.isCells hk;rw[hc]at h9;cases h9
  have pr:∀k,k<wr.heap.size→k=D+1→¬Gr wr k:=fun k _ hk ⟨_,_,_,_,h9⟩=>by subst hk;rw[h.r]at h9;cases h9
  have pc:∀k,k<wr.heap.size→k=bt→¬Gr wr k:=fun k _ hk ⟨_,_,_,_,h9⟩=>by subst hk;rw[h.c]at h9;cases h9
  have h7:Aq w0 bt D (rec .busy none) v6 (ts++[t]) w7:=by
   have nb:∀b,v6.ownBlock=some b→b≠bt:=fun b hb hn=>by subst hn;exact ue.eI gc (by decide) hb
   refine⟨?_,gc7,ue.HX Ca s7 nb,?_,?_,h.hb,h.hD⟩
   ·refine((h4.S.aB s5.all).trans s6.all (fun k hk hn=>?_)).trans s7 (fun k hk hn=>?_)
    ·have:=(h4.o.base k hn).1;omega
    ·have hn:k=bt:=hn;have:=h.hb;omega
   ·exact s7.keep (s6.all.keep (s5.all.aK h4.d) (fun hn=>by obtain⟨cs,hc⟩:=h4.o.isCells hn;rw[h4.d]at hc;cases hc)) (fun hn=>by have hn:D=bt:=hn;have h1:=h.c;rw[←hn,h.d]at h1;cases h1)
   ·exact s7.keep (s6.all.keep (s5.all.aK h4.r) (fun hn=>by obtain⟨cs,hc⟩:=h4.o.isCells hn;rw[h4.r]at hc;cases hc)) (fun hn=>by have hn:D+1=bt:=hn;have h1:=h.c;rw[←hn,h.r]at h1;cases h1)
  have s8:Step allM w7 allM (w7.putObj (D+1) (.loop (rec .ready none))) (fun k=>k=D+1):=dS trivial;exact⟨h7.r,rfl,⟨v6,h7.mH⟩,fun k=>¬Gr wr k,(((((s2.cA (fun _ h=>h.elim) (fun _ _=>trivial)).trans s3 pr).aB s5.all).trans s6.all (fun k _ hn=>ae7 k hn)).trans s7 pc).trans s8 pr,fun _ h=>h⟩
 ·obtain⟨ts,⟨v,h⟩,oJ,kq⟩:=h3;left;refine⟨h.r,?_⟩;have h5:=h.mH (st':=rec .exhausted none);generalize w3.putObj (D+1) _=wE at h5 ⊢;refine aj (ae (aM jR rfl rfl rfl h5.c rfl (ah rfl rfl (ab (aO ?_)))));have sE:Step allM wE allM (wE.putObj D (.deferred none)) (fun k=>k=D):=dS trivial;have hDD:=h.hD;exact BN rfl rfl h5.d ⟨ts,oJ,kq,h5.o.HX Ca sE (fun b hb hn=>by have hn:b=D:=hn;obtain⟨cs,hc⟩:=h5.o.isCells hb;rw[hn,h5.d]at hc;cases hc),h5.S.trans sE (fun k hk hn=>by have hn:k=D:=hn;omega)⟩
end Go.K
namespace Go.K
open Go.Proofs
set_option maxRecDepth 10000
theorem Cb {bs mb clock:Nat} {es:List MapEntry} (w0:World) (hk:HW es) (hes:es.length≤100000000) (UO:w0.heap[bs]? =some (.cells #[.map (some mb)] 217 (0,0))) (hW:fB Tryz.prog 78 w0 mb es clock):
  Spec Tryz.prog 186 #[.func (.func 188) #[] [.pointer (some ⟨bs,0,none⟩)].toArray] w0 (fun v w=>∃ts:List Fd,ts.Nodup∧(∀t,t∈ts↔∃e∈es,e.key=kv t)∧Own RT.fd 78 (mV v) w w0.heap.size v ts∧Step allM w0 allM w aC):=by
 refine bc (args:=[_]) (fn:=Tryz.f186) Tryz.func186 rfl (n:=5) Tryz.ntmps186 (aj (ae (ah rfl rfl (ab (aj (ae (ad rfl rfl ?_)))))));refine aX rfl rfl adS (D0 _ hk hes UO hW) (fun r w1 hc=>?_);refine ah rfl rfl (ab (aO ?_));exact aS rfl rfl hc
def gE (t:Fd):List UInt8:=t.1++[0]++t.2
theorem Mh {M:aD} {t:Fd} (w0:World) (hM:Lt M w0) (h1:t.1.length≤1000000) (h2:t.2.length≤1000000):
  Spec Tryz.prog 80 #[kv t] w0 (fun v w=>v= .string ⟨(gE t).toArray⟩∧Step M w0 M w aC):=by
 refine bc (args:=[_]) (fn:=Tryz.f80) Tryz.func80 rfl (n:=9) Tryz.ntmps80 ?_;have S:Step M w0 M w0 aC:=(aw _ _).cA (fun _ h=>h.elim) (fun _ h=>h.elim);refine aj (ae ?_);refine qc (A:=RT.fd) rfl rfl hM (Jl (by omega) (by omega)) rfl (fun u0 w1 dn s0 _=>?_);replace hM:=s0.lt hM;have:=S.size;replace S:=S.aB s0;refine ah rfl rfl (ab (aj (ae ?_)));refine aN (M:=M) (A:=RT.fd) (B:=RT.str) dH rfl rfl I9 (by decide) (Xd) rfl rfl (by decide) (by assumption) (by repeat (first|exact aq _ _|refine a8 (bD (by assumption)) ?_)) (fun B6 ni=>?_);refine bT (M:=M) aJ rfl rfl rfl rfl rfl ni (aq _ _) (fun v1 A2=>?_);obtain rfl:=fS A2;refine Rg.cat (p:=t.1) (q:=[0]) rfl rfl rfl (by simp;omega) ?_;refine aN (M:=M) (A:=RT.fd) (B:=RT.str) dH rfl rfl I9 (by decide) (fd1) rfl rfl (by decide) (by assumption) (by repeat (first|exact aq _ _|refine a8 (bD (by assumption)) ?_)) (fun PT kJ=>?_);refine bT (M:=M) aJ rfl rfl rfl rfl rfl kJ (aq _ _) (fun v4 qf=>?_);obtain rfl:=fS qf;refine Rg.cat (p:=t.1++[0]) (q:=t.2) rfl rfl rfl (by simp;omega) (ah rfl rfl (ab (aO ?_)));exact aS rfl rfl ⟨rfl,S⟩
end Go.K
namespace Go.K
open Go.Proofs
set_option maxRecDepth 10000
theorem Cc (a b:List UInt8) (w:World):Spec Tryz.prog 137 #[.string ⟨a.toArray⟩,.string ⟨b.toArray⟩] w (fun v w'=>v= .int .i64 (Lib.compareBytes a b)∧w'=w):=(Any.strings_Compare Tryz.PK ⟨a.toArray⟩ ⟨b.toArray⟩ w).mono fun e w' ⟨h1,h2⟩=>⟨_,h1,rfl,h2⟩
end Go.K
namespace Go.K
section
variable {P:Program} {r:Option Nat} {n:Nat} {L:Sl} {ds:List Deferred} {w:World} {K:Kt} {ops:Array Oper} {rest:List Oper} {d:Nat} {x:Operand} {ty:TypeId} {pos:String} {af:Array Edge}
theorem ia.tE {id:Nat} {l:List Oper} (hm:P.follows .mixedOrders=true) (dm:eB l 0=true) (h:ia P r n l L ds (w.drewN 1) K):T P r n (.region id l.toArray true) L ds w K:=by
 refine⟨fun a ha=>wpIn_region_draw fun t=>?_⟩;simp only[Region.schedule,hm,Bool.true_or,if_true,Region.linearise];obtain⟨J,h1,h2,h3,h4⟩:=h a ha;refine oS (J:=J) dm (fun {D D' a w} hi hD=>h1 D D' a w hi hD) (fun {D a' w' j o rest} hj ho pG hp lv hi hk=>h2 _ _ _ _ _ _ _ hj ho pG hp lv hi hk) h3 _ t _ a _ (by simp) (by simp[List.countP_replicate]) (fun i o h1 h2=>?_) (h1 _ _ _ _ h4 fun i _=>?_)
 ·simp[Array.getElem?_replicate]at h2
 ·simp[Array.getElem?_replicate]
theorem T.UP {id:Nat} {l l':List Oper} (π:List Nat) (m:Nat) (fl:List Nat) (c:Nat) (N:aD) (hm:P.follows .mixedOrders=true) (FR:yj π l=l') (rU:eB l 0=true) (hπ:lx π l.length=true) (ql:Nat.blt m l'.length=true) (dm:eB l' 0=true) (nC:km l' m=true) (Fq:k8 l' m fl c=true)
  (h:kH P r n l'.toArray (l'.take m) L ds (w.drewN 1) (fun L'=>(∀j o,j∈fl→l'[j]? =some o→bX P N (w.drewN 1) L' o)∧sM P r n l'.toArray N (w.drewN 1) K c (l'.drop m) L' ds (w.drewN 1))):T P r n (.region id l.toArray true) L ds w K:=by
 subst FR;exact ia.tE hm rU (.perm π hπ rU (yi m fl c N ql dm nC Fq h))
theorem Rg.Mi {e:TypeId} {v:Value} (hx:ev L x=some v) (hd:Nat.blt d n=true) (k:Rg P r n ops rest ((d,.pointer (some ⟨w.heap.size,0,none⟩))::L) ds (w.alloc (.cells v.cells e (0,0))) K):
  Rg P r n ops ({dst:=some d,op:= .box e x,type:=ty,pos,after:=af,guard:=none}::rest) L ds w K:=by
 refine .op (fun _ h=>by cases h) rfl rfl hd _ (w.alloc (.cells v.cells e (0,0))) (fun ρ hρ=>?_) k;simp only[execOp,hρ x _ hx];simp[Instr.box,newVar,newRow,newObj,Sem.run]
theorem yX (w:World) (o:Obj):w.alloc o=Go.Sort.grow w #[o]:=by
 unfold World.alloc Go.Sort.grow;congr 1
theorem Gu (w:World) (os:Array Obj) (q:Nat):(Go.Sort.grow w os).drewN q=Go.Sort.grow (w.drewN q) os:=rfl
end
end Go.K
namespace Go.K
open Go.Proofs
set_option maxRecDepth 10000
abbrev fY (t:Fd):Obj:= .cells #[.string ⟨t.1.toArray⟩,.string ⟨t.2.toArray⟩] 78 (0,0)
theorem Mj {t:Fd} (w0:World) (h1:t.1.length≤1000000) (h2:t.2.length≤1000000):
  Spec Tryz.prog 80 #[kv t] w0 (fun v w=>v= .string ⟨(gE t).toArray⟩∧w=w0.alloc (fY t)):=by
 refine bc (args:=[_]) (fn:=Tryz.f80) Tryz.func80 rfl (n:=9) Tryz.ntmps80 (aj (ae (Rg.Mi rfl rfl ?_)));have gb:=cg w0 (fY t);change Rg _ _ _ _ _ _ _ (w0.alloc (fY t)) _;generalize hw:w0.alloc (fY t)=w1 at gb ⊢;refine ah rfl rfl (ab (aj (ae (bG (o':=0) dH rfl rfl I9 (by decide) rfl rfl (aM aJ rfl rfl rfl gb rfl (Rg.cat (p:=t.1) (q:=[0]) rfl rfl rfl (by simp;omega) (bG (o':=1) dH rfl rfl I9 (by decide) rfl rfl (aM aJ rfl rfl rfl gb rfl (Rg.cat (p:=t.1++[0]) (q:=t.2) rfl rfl rfl (by simp;omega) (ah rfl rfl (ab ?_)))))))))));refine aO ?_;exact aS rfl rfl ⟨rfl,rfl⟩
theorem P9 {s t:Fd} (w0:World) (h1:s.1.length≤1000000) (h2:s.2.length≤1000000) (h3:t.1.length≤1000000) (h4:t.2.length≤1000000):
  Spec Tryz.prog 136 #[kv s,kv t] w0 (fun v w=>v= .int .i64 (Lib.compareBytes (gE s) (gE t))∧w=((((w0.alloc (fY s)).alloc (fY t)).drewN 1).alloc (fY s)).alloc (fY t)):=by
 refine bc (args:=[_,_]) (fn:=Tryz.f136) Tryz.func136 rfl (n:=10) Tryz.ntmps136 (aj (ae (Rg.Mi rfl rfl ?_)));change Rg _ _ _ _ _ _ _ (w0.alloc (fY s)) _;refine Rg.Mi rfl rfl ?_;change Rg _ _ _ _ _ _ _ ((w0.alloc (fY s)).alloc (fY t)) _;have g1:((w0.alloc (fY s)).alloc (fY t)).heap[w0.heap.size]? =some (fY s):=(cQ aC _ _).aK (cg w0 _);have g2:=cg (w0.alloc (fY s)) (fY t);have kp:=jF aC (((w0.alloc (fY s)).alloc (fY t)).drewN 1);refine ah rfl rfl (ab (aj ?_));apply T.UP [0,2,1,3,4,5] 2 [1] 1 aC mixed
 ·simp+decide only[yj,sN,eQ,j5,je,jf,fq,dd,ie,qd,cond_true,cond_false,Nat.reduceBEq,Nat.reduceAdd,beq_self_eq_true];rfl
 ·rfl
 ·rfl
 ·rfl
 ·rfl
 ·rfl
 ·rfl
 have g1':(((w0.alloc (fY s)).alloc (fY t)).drewN 1).heap[w0.heap.size]? =some (fY s):=g1;have g2':(((w0.alloc (fY s)).alloc (fY t)).drewN 1).heap[(w0.alloc (fY s)).heap.size]? =some (fY t):=g2;refine fE (vs:=[.string ⟨s.1.toArray⟩,.string ⟨s.2.toArray⟩]) dH rfl AY rfl rfl rfl g1' ?_;refine ab ⟨rfl,rfl,rfl,?_⟩;refine fE (vs:=[.string ⟨t.1.toArray⟩,.string ⟨t.2.toArray⟩]) dH rfl AY rfl rfl rfl g2' ?_;refine ab ⟨rfl,rfl,rfl,?_⟩;refine ew ?_;refine⟨iB ⟨ey rfl (by assumption) (by first|assumption|exact fun h=>h|(intro h;have h:_=_:=h;omega)),trivial⟩,?_⟩;replace kp:=kp.rB (cQ aC (((w0.alloc (fY s)).alloc (fY t)).drewN 1) (fY s));refine aX rfl rfl E80 (Mj (t:=s) _ h1 h2) (fun r5 w5 hc=>?_);obtain⟨rfl,rfl⟩:=hc;refine(fun(kp:eF _ _ _)=>ab ⟨rfl,rfl,fun _=>kp,?_⟩) (by first|exact kp|exact kp.rB (by assumption)|exact kp.goN (by assumption)|exact kp.go (by assumption) (fun _ _ h=>by first|exact h|exact h.elim));refine aX rfl rfl E80 (Mj (t:=t) _ h3 h4) (fun r6 w6 hc=>?_);obtain⟨rfl,rfl⟩:=hc;refine ab ⟨rfl,rfl,fun h=>absurd rfl h,?_⟩;refine aX rfl rfl ady (Cc _ _ _) (fun r7 w7 hc=>?_);obtain⟨rfl,rfl⟩:=hc;refine ab ⟨rfl,rfl,fun h=>absurd rfl h,?_⟩;refine ah rfl rfl ?_;refine ab ⟨rfl,rfl,fun h=>absurd rfl h,?_⟩;refine mN (aO ?_);exact aS rfl rfl ⟨rfl,rfl⟩
end Go.K
namespace Go.K
open Go.Lib (compareBytes)
theorem oy (a b:UInt8) (x y:List UInt8):compareBytes (a::x) (b::y)=if a.toNat<b.toNat then-1 else if b.toNat<a.toNat then 1 else compareBytes x y:=by
 rw[compareBytes];simp only[UInt8.lt_iff_toNat_lt]
theorem yY:∀a,compareBytes a a=0
 |[]=>rfl
 |a::x=>by rw[oy,if_neg (jt _),if_neg (jt _)];exact yY x
theorem qC:∀{a b},compareBytes a b=0→a=b
 |[],[],_=>rfl
 |[],_::_,h=>by simp[compareBytes]at h
 |_::_,[],h=>by simp[compareBytes]at h
 |a::x,b::y,h=>by
  rw[oy]at h
  split at h
  ·omega
  ·split at h
   ·omega
   ·rw[qC h,UInt8.toNat_inj.1 (show a.toNat=b.toNat by omega)]
theorem pj:∀a b,compareBytes a b= -compareBytes b a
 |[],[]=>rfl
 |[],_::_=>rfl
 |_::_,[]=>rfl
 |a::x,b::y=>by
  rw[oy,oy,pj x y]
  split<;>split<;>first|omega|rfl
theorem re:∀{a b c},compareBytes a b<0→compareBytes b c<0→compareBytes a c<0
 |[],[],_,h,_=>by simp[compareBytes]at h
 |_::_,[],_,h,_=>by simp[compareBytes]at h
 |_,_::_,[],_,h=>by simp[compareBytes]at h
 |[],_::_,_::_,_,_=>by simp[compareBytes]
 |a::x,b::y,c::z,h1,h2=>by
  rw[oy]at h1 h2 ⊢
  split at h1
  ·split at h2
   ·rw[if_pos (by omega)];omega
   ·split at h2
    ·omega
    ·rw[if_pos (by omega)];omega
  ·split at h1
   ·omega
   ·split at h2
    ·rw[if_pos (by omega)];omega
    ·split at h2
     ·omega
     ·rw[if_neg (by omega),if_neg (by omega)];exact re h1 h2
theorem HY {α:Type} (f:α→List UInt8):Go.Sort.SWO (Go.Proofs.ltOf fun x y=>compareBytes (f x) (f y)) where
 irrefl x:=by simp[Go.Proofs.ltOf,yY]
 trans x y z h1 h2:=by
  simp only[Go.Proofs.ltOf,decide_eq_true_eq]at*
  exact re h1 h2
 ntrans x y z h1 h2:=by
  simp only[Go.Proofs.ltOf,decide_eq_false_iff_not]at*
  intro h3;by_cases e1:compareBytes (f x) (f y)=0
  ·rw[qC e1]at h3;exact h2 h3
  ·by_cases e2:compareBytes (f y) (f z)=0
   ·rw[qC e2]at h1;exact h1 h3
   ·have n1:=pj (f x) (f y);have n2:=pj (f y) (f z);have n3:=pj (f x) (f z);have:compareBytes (f z) (f x)<0:=re (b:=f y) (by omega) (by omega);omega
end Go.K
namespace Go.Proofs
open Go.Shelf
def Tryz.Gv:Go.Shelf.Ren:=⟨fun|6=>187|15=>115|14=>238|28=>172|29=>173|20=>272|21=>273|22=>274|23=>275|24=>276|25=>277|26=>278|27=>279|46=>294|47=>218|48=>219|49=>295|50=>296|57=>303|n=>n,fun|22=>155|24=>78|25=>225|3=>3|39=>189|0=>0|53=>257|55=>190|4=>4|46=>251|45=>250|50=>202|5=>5|9=>9|66=>296|70=>300|76=>327|77=>328|n=>n,fun|n=>n⟩
theorem Tryz.Mk:Go.Proofs.SlLaysF0.n6 Tryz.prog Tryz.Gv:={
 mixed:=by kernel_rfl
 f6:=⟨Tryz.f187.name,by decide,Tryz.func187.trans (congrArg some (by kernel_rfl))⟩
 f14:=⟨Tryz.f238.name,by decide,Tryz.func238.trans (congrArg some (by kernel_rfl))⟩
 f15:=Tryz.func115.trans (congrArg some (by kernel_rfl))
 f20:=⟨Tryz.f272.name,by decide,Tryz.func272.trans (congrArg some (by kernel_rfl))⟩
 f21:=⟨Tryz.f273.name,by decide,Tryz.func273.trans (congrArg some (by kernel_rfl))⟩
 f22:=⟨Tryz.f274.name,by decide,Tryz.func274.trans (congrArg some (by kernel_rfl))⟩
 f23:=⟨Tryz.f275.name,by decide,Tryz.func275.trans (congrArg some (by kernel_rfl))⟩
 f24:=⟨Tryz.f276.name,by decide,Tryz.func276.trans (congrArg some (by kernel_rfl))⟩
 f25:=⟨Tryz.f277.name,by decide,Tryz.func277.trans (congrArg some (by kernel_rfl))⟩
 f26:=⟨Tryz.f278.name,by decide,Tryz.func278.trans (congrArg some (by kernel_rfl))⟩
 f27:=⟨Tryz.f279.name,by decide,Tryz.func279.trans (congrArg some (by kernel_rfl))⟩
 f28:=Tryz.func172.trans (congrArg some (by kernel_rfl))
 f29:=Tryz.func173.trans (congrArg some (by kernel_rfl))
 f46:=⟨Tryz.f294.name,by decide,Tryz.func294.trans (congrArg some (by kernel_rfl))⟩
 f47:=Tryz.func218.trans (congrArg some (by kernel_rfl))
 f48:=Tryz.func219.trans (congrArg some (by kernel_rfl))
 f49:=⟨Tryz.f295.name,by decide,Tryz.func295.trans (congrArg some (by kernel_rfl))⟩
 f50:=⟨Tryz.f296.name,by decide,Tryz.func296.trans (congrArg some (by kernel_rfl))⟩
 f57:=⟨Tryz.f303.name,by decide,Tryz.func303.trans (congrArg some (by kernel_rfl))⟩
 t0:=fD
 a0:=lB
 z0:=j6
 v0:=gG
 t3:=ax
 a3:=lC
 z3:=j7
 v3:=gH
 t4:=iO
 a4:=rO
 z4:=nW
 v4:=jv
 t5:=cx
 a5:=Tryz.isAgg5
 z5:=Tryz.sizeOf5
 v5:=tC
 t9:=aJ
 a9:=lD
 z9:=j8
 v9:=gI
 t22:=jR
 a22:=Tryz.isAgg155
 z22:=Tryz.sizeOf155
 v22:=Tryz.zeroValue155
 t25:=Tryz.underlying225
 a25:=Tryz.isAgg225
 z25:=Tryz.sizeOf225
 v25:=Tryz.zeroValue225
 t39:=jQ
 a39:=Tryz.isAgg189
 z39:=Tryz.sizeOf189
 v39:=Tryz.zeroValue189
 t45:=Tryz.underlying250
 a45:=Tryz.isAgg250
 z45:=Tryz.sizeOf250
 v45:=Tryz.zeroValue250
 t46:=Tryz.underlying251
 a46:=Tryz.isAgg251
 z46:=Tryz.sizeOf251
 v46:=Tryz.zeroValue251
 t50:=Tryz.underlying202
 a50:=Tryz.isAgg202
 z50:=Tryz.sizeOf202
 v50:=Tryz.zeroValue202
 t53:=Tryz.underlying257
 a53:=Tryz.isAgg257
 z53:=Tryz.sizeOf257
 v53:=Tryz.zeroValue257
 t55:=sC
 a55:=Tryz.isAgg190
 z55:=Tryz.sizeOf190
 v55:=Tryz.zeroValue190
 t66:=Tryz.underlying296
 a66:=Tryz.isAgg296
 z66:=Tryz.sizeOf296
 v66:=Tryz.zeroValue296
 t70:=Tryz.underlying300
 a70:=Tryz.isAgg300
 z70:=Tryz.sizeOf300
 v70:=Tryz.zeroValue300
 t76:=Tryz.underlying327
 a76:=Tryz.isAgg327
 z76:=Tryz.sizeOf327
 v76:=Tryz.zeroValue327
 t77:=Tryz.underlying328
 a77:=Tryz.isAgg328
 z77:=Tryz.sizeOf328
 v77:=Tryz.zeroValue328}
end Go.Proofs
namespace Go.K
open Go.Proofs
set_option maxRecDepth 10000
open Go.Proofs Go.Sort
abbrev TK:Type:={t:Fd // (0:UInt8)∉t.1∧t.1.length≤1000000∧t.2.length≤1000000}
instance akE:Inhabited TK:=⟨⟨([],[]),by simp,by simp,by simp⟩⟩
def Au (x:TK):List Value:=[.string ⟨x.1.1.toArray⟩,.string ⟨x.1.2.toArray⟩]
def Kj (x y:TK):Int:=Lib.compareBytes (gE x.1) (gE y.1)
theorem yZ:∀{a b x y:List UInt8},(0:UInt8)∉a→(0:UInt8)∉b→a++[0]++x=b++[0]++y→a=b∧x=y
 |[],[],_,_,_,_,h=>⟨rfl,by simpa using h⟩
 |[],c::b,_,_,_,hb,h=>by
  simp at h;exact absurd (by rw[←h.1];exact bP ..) hb
 |c::a,[],_,_,ha,_,h=>by
  simp at h;exact absurd (by rw[h.1];exact bP ..) ha
 |c::a,e::b,x,y,ha,hb,h=>by
  simp only[kK,List.cons.injEq]at h;obtain⟨h1,h2⟩:=yZ (fun h=>ha (b9 _ h)) (fun h=>hb (b9 _ h)) h.2;exact⟨by rw[h.1,h1],h2⟩
theorem ae8 (w:World):(isAgg 78).run Tryz.prog w= .ok true w:=by simp[isAgg,ck,run_underlying dH]
theorem Y7 (w:World):(Go.sizeOf 78).run Tryz.prog w= .ok 2 w:=by
 obtain⟨i,h1,_,h2,_⟩:=AY.get;simp[Go.sizeOf,typeInfo,ck,program,Sem.run,h1,h2]
theorem Ml (fz off size:Nat) (w:World):CmpLays Tryz.prog 136 #[] Au 2 Kj fz off size w:=fun m os dk hs x y=>
 (show Calls Tryz.prog 136 #[kv x.1,kv y.1] (sortWorldK Au 2 w fz off m dk os) (fun e w'=>∃v,e= .returned v∧_∧_)from P9 (s:=x.1) (t:=y.1) _ x.2.2.1 x.2.2.2 y.2.2.1 y.2.2.2).mono fun e w' ⟨v,h1,h2,h3⟩=>⟨by rw[h1,h2];rfl,1,#[fY x.1,fY y.1,fY x.1,fY y.1],by rw[h3];simp only[yX,Gu,Go.Sort.grow_grow];rfl⟩
theorem Y8 (fz off cap:Nat) (d:Array TK) (w:World) (hH:HoldsK Au 2 w fz off d) (hblk:fz<w.heap.size) (jT:d.size<4611686018427387904):
  Spec Tryz.prog 187 #[.slice (some ⟨fz,off,none⟩) d.size cap,.func (.func 136) #[] #[]] w (fun v w'=>v= .tuple #[]∧∃n os,w'=sortWorldK Au 2 w fz off n (d.toList.mergeSort fun x y=> !(Go.Proofs.ltOf Kj) y x).toArray os):=by
 exact(Go.Proofs.AnyQ.slices_SortFunc_total Tryz.Mk 2 ae8 Y7 Au (fun _=>rfl) (fun x v hv=>by simp[Au]at hv;rcases hv with rfl|rfl<;>rfl) Kj (HY _) 136 #[] fz off cap d w adx (Ml fz off d.size w) hH hblk jT (fun x y h1 h2=>by
  have h0:Kj x y=0:=by
   have:=pj (gE x.1) (gE y.1);simp only[Go.Proofs.ltOf,decide_eq_false_iff_not]at h1 h2;unfold Kj at h1 h2 ⊢;omega
  have h3:=qC h0;obtain⟨h4,h5⟩:=yZ x.2.1 y.2.1 h3;exact Subtype.ext (xh h4 h5))).mono fun e w' ⟨h1,h2⟩=>⟨_,h1,rfl,h2⟩
end Go.K
namespace Go.K
set_option linter.unusedSectionVars false
open Go.Sort Go.Proofs
section
variable {α:Type} [Inhabited α] {enc:α→List Value} {k:Nat}
theorem wU (hk:∀x,(enc x).length=k) (h0:0<k):∀(l:List α) (t:Nat),(l.flatMap enc)[t]? =(l[t/k]?).bind fun x=>(enc x)[t%k]?
 |[],t=>by simp
 |x::l,t=>by
  rw[sw];rcases cI t k with h|h
  ·rw[jP (by rw[hk];exact h),Nat.div_eq_of_lt h,nV h];rfl
  ·rw[List.getElem?_append_right (by rw[hk];exact h),hk,wU hk h0 l];have e1:t/k=(t-k)/k+1:=by rw[Nat.div_eq t k,if_pos ⟨h0,h⟩]
   have e2:(t-k)%k=t%k:=by rw[Nat.mod_eq t k,if_pos ⟨h0,h⟩]
   rw[e1,e2,List.getElem?_cons_succ]
theorem np (hk:∀x,(enc x).length=k):∀l:List α,(l.flatMap enc).length=l.length*k
 |[]=>by simp
 |x::l=>by rw[sw,bj,hk,np hk l,cM,Nat.add_mul];omega
theorem y4 (hk:∀x,(enc x).length=k) (h0:0<k) (d:Array α) {t:Nat} (ht:t<d.size*k):(d.toList.flatMap enc)[t]? =some (flatK enc k d)[t]! :=by
 have h1:t/k<d.size:=Nat.div_lt_of_lt_mul (by rw[Nat.mul_comm];exact ht);have h2:t%k<k:=Nat.mod_lt _ h0;rw[wU hk h0,get_flatK _ _ _ _ ht];have e:d.toList[t/k]? =some d[t/k]! :=by simp[h1]
 rw[e];simp[hk,h2]
theorem A8 {w:World} {g:Nat} {cur:Array Value} {e:TypeId} {d:Array α} (hk:∀x,(enc x).length=k) (h0:0<k) (hg:w.heap[g]? =some (.cells cur e (0,0))) (hC:cur.toList.take (d.size*k)=d.toList.flatMap enc):HoldsK enc k w g 0 d:=fun j hj=>by
 rw[size_flatK]at hj;have h1:=y4 hk h0 d hj;rw[←hC,cn,if_pos hj,Array.getElem?_toList]at h1;constructor
 ·simp[World.cell?,hg,h1]
 ·simp[World.frozen?,hg]
theorem sd {w:World} {g n:Nat} {cur:Array Value} {e:TypeId} {d:Array α} {os:Array Obj} (hg:w.heap[g]? =some (.cells cur e (0,0))):(sortWorldK enc k w g 0 n d os).heap[g]? =some (.cells (putCells id 0 (flatK enc k d) cur) e (0,0)):=by
 have dR:g<w.heap.size:=ak hg
 have h1:(w.heap.modify g (onCells (putCells id 0 (flatK enc k d))))[g]? =some (.cells (putCells id 0 (flatK enc k d) cur) e (0,0)):=by
  rw[jH,if_pos rfl,hg];rfl
 show((w.heap.modify g (onCells (putCells id 0 (flatK enc k d))))++os)[g]? =_;rw[Array.getElem?_append_left (by simpa using dR)];exact h1
theorem pP {w:World} {g n:Nat} {d:Array α} {os:Array Obj}:Step allM w allM (sortWorldK enc k w g 0 n d os) (fun b=>b=g):=
 ⟨fun h=>absurd (h w.heap.size trivial) (jt _),rfl,rfl,rfl,by show _≤((w.heap.modify g _)++os).size;simp,fun _ _=>Iff.rfl,fun b hb hn=>by
  have hn: ¬b=g:=hn;show((w.heap.modify g (onCells (putCells id 0 (flatK enc k d))))++os)[b]? =_;rw[Array.getElem?_append_left (by simpa using hb),jH,if_neg (fun h=>hn h.symm)],fun _ _=>trivial⟩
theorem sf {F cur:Array Value} (h:F.size≤cur.size):(putCells id 0 F cur).toList.take F.size=F.toList:=by
 apply eZ;intro j;rw[cn];by_cases hj:j<F.size
 ·rw[if_pos hj];simp[putCells,hj,iu hj h]
 ·rw[if_neg hj,dU (by simpa using hj)]
theorem ug (hk:∀x,(enc x).length=k) (h0:0<k) (d:Array α):(flatK enc k d).toList=d.toList.flatMap enc:=by
 apply eZ;intro j;by_cases hj:j<d.size*k
 ·rw[y4 hk h0 d hj];have:j<(flatK enc k d).size:=by rw[size_flatK];exact hj
  rw[Array.getElem?_toList,getElem!_pos _ j this];exact Array.getElem?_eq_getElem this
 ·rw[dU (by rw[zY,size_flatK];omega),dU (by rw[np hk,zY];omega)]
end
end Go.K
namespace Go.K
open Go.Proofs
set_option maxRecDepth 10000
open Go.Proofs Go.Sort
theorem HZ:∀{ts:List Fd} {C:List Value} {M:aD} {w:World},dX RT.fd M w ts C→C=ts.flatMap fun t=>[.string ⟨t.1.toArray⟩,.string ⟨t.2.toArray⟩]
 |[],C,_,_,h=>h
 |t::ts,C,_,_,⟨vs,r,h1,h2,h3⟩=>by
  obtain⟨va,vb,rfl,h4,h5⟩:=h2;rw[h1,HZ h3,h4.1,h5.1];rfl
theorem D1 {M:aD} {w:World}:∀{ts:List Fd},(∀t∈ts,t.1.length≤1000000∧t.2.length≤1000000)→dX RT.fd M w ts (ts.flatMap fun t=>[.string ⟨t.1.toArray⟩,.string ⟨t.2.toArray⟩])
 |[],_=>rfl
 |t::ts,h=>by
  obtain⟨h1,h2⟩:=h t (bP ..);exact⟨_,_,rfl,⟨_,_,rfl,⟨rfl,by omega⟩,⟨rfl,by omega⟩⟩,D1 fun u hu=>h u (b9 _ hu)⟩
def Mm (us:List Fd):Prop:=us.Pairwise fun a b=>¬Lib.compareBytes (gE b) (gE a)<0
theorem Av {base:Nat} {v:Value} {ts:List Fd} (w0:World) (ho:Own RT.fd 78 (mV v) w0 base v ts) (hT:∀t∈ts,(0:UInt8)∉t.1∧t.1.length≤1000000∧t.2.length≤1000000) (hl:ts.length≤100000000):
  Spec Tryz.prog 187 #[v,.func (.func 136) #[] #[]] w0 (fun r w=>r= .tuple #[]∧∃us:List Fd,us.Perm ts∧Mm us∧Own RT.fd 78 (mV v) w base v us∧Step allM w0 allM w (mV v)):=by
 obtain⟨⟨C,⟨hC,hr⟩,hA⟩,hm⟩:=ho;rcases hr with⟨rfl,h0⟩|⟨g,cap,cur,rfl,hb,hg,hle,UQ,Kl,rz⟩
 ·have KO:ts=[]:=cR.1 h0;subst KO;exact(AnyF.slices_SortFunc_none Tryz.Mk none 0 _ w0).mono fun e w' ⟨h1,h2⟩=>⟨_,h1,rfl,[],.refl _,List.Pairwise.nil,dF _ _ _ _ _,by rw[h2];exact(aw allM w0).cA (fun _ h=>h.elim) (fun _ _=>trivial)⟩
 ·obtain⟨d,hd⟩:∃d:Array TK,d.toList.map (·.1)=ts:=⟨(ts.attach.map fun x=>(⟨x.1,hT x.1 x.2⟩:TK)).toArray,by rw[List.toList_toArray,List.map_map];exact List.attach_map_subtype_val ts⟩;have jT:d.size=ts.length:=by rw[←hd];simp
  have hk:∀x:TK,(Au x).length=2:=fun _=>rfl
  have Gw:∀l:List TK,(l.map (·.1)).flatMap (fun t:Fd=>[Value.string ⟨t.1.toArray⟩,.string ⟨t.2.toArray⟩])=l.flatMap Au:=fun l=>by rw[List.flatMap_map];rfl
  have hH:HoldsK Au 2 w0 g 0 d:=A8 hk (by omega) hg (by
   have e2:RT.fd.n=2:=rfl;rw[e2]at rz;rw[jT,rz,HZ hA,←hd,Gw])
  have hs:=Y8 g 0 cap d w0 hH (ak hg) (by omega);rw[jT]at hs;refine hs.mono fun r w' ⟨h1,n,os,h2⟩=>⟨h1,(d.toList.mergeSort fun x y=> !(ltOf Kj) y x).map (·.1),?_,?_,?_,?_⟩
  ·rw[←hd];exact(jg _ _).map _
  ·refine cz.2 ((List.pairwise_mergeSort (fun a b c h1 h2=>?_) (fun a b=>?_) _).imp fun h=>?_)
   ·simp only[ltOf,iU,decide_eq_false_iff_not]at*
    have:=(HY fun x:TK=>gE x.1).ntrans c b a (by simpa[ltOf,Kj]using h2) (by simpa[ltOf,Kj]using h1);simpa[ltOf,Kj]using this
   ·simp only[ltOf,qb,iU,decide_eq_false_iff_not];have:=pj (gE a.1) (gE b.1);unfold Kj;omega
   ·rw[iU]at h;exact of_decide_eq_false h
  ·have hp:=jg d.toList fun x y=> !(ltOf Kj) y x
   rw[h2];generalize (d.toList.mergeSort fun x y=> !(ltOf Kj) y x)=us at hp;have Km:(us.map (·.1)).length=ts.length:=by rw[aL,hp.length_eq,zY,jT]
   have Ai:us.toArray.size*2=ts.length*2:=by rw[←Km];simp
   have e2:RT.fd.n=2:=rfl;refine⟨⟨(us.map (·.1)).flatMap (fun t:Fd=>[Value.string ⟨t.1.toArray⟩,.string ⟨t.2.toArray⟩]),⟨?_,.inr ⟨g,cap,_,by rw[Km],hb,sd hg,by rw[Km];exact hle,UQ,by rw[←Kl];simp[putCells],?_⟩⟩,D1 fun t ht=>?_⟩,hm⟩
   ·rw[Gw,np hk,aL,e2]
   ·rw[Gw,Km,e2,←Ai,←size_flatK Au,sf (by rw[size_flatK,Ai,Kl,e2];omega),ug hk (by omega)]
   ·obtain⟨x,_,rfl⟩:=ca.1 ht;exact x.2.2
  ·rw[h2];exact pP.cA (fun b hb=>by have hb:b=g:=hb;subst hb;rfl) (fun _ _=>trivial)
end Go.K
namespace Go.K
open Go.Proofs
set_option maxRecDepth 10000
theorem D2 {bs mb clock:Nat} {es:List MapEntry} (w0:World) (hk:HW es) (hT:∀e∈es,∀t,e.key=kv t→(0:UInt8)∉t.1∧t.1.length≤1000000∧t.2.length≤1000000) (hes:es.length≤100000000) (hlen:∀ts:List Fd,ts.Nodup→(∀t∈ts,∃e∈es,e.key=kv t)→ts.length≤100000000) (UO:w0.heap[bs]? =some (.cells #[.map (some mb)] 217 (0,0))) (hW:fB Tryz.prog 78 w0 mb es clock):
  Spec Tryz.prog 134 #[.func (.func 188) #[] [.pointer (some ⟨bs,0,none⟩)].toArray,.func (.func 136) #[] #[]] w0 (fun v w=>∃us:List Fd,us.Nodup∧(∀t,t∈us↔∃e∈es,e.key=kv t)∧Mm us∧Own RT.fd 78 (mV v) w w0.heap.size v us∧Step allM w0 allM w aC):=by
 refine bc (args:=[_,_]) (fn:=Tryz.f134) Tryz.func134 rfl (n:=12) Tryz.ntmps134 (aj (ae (ah rfl rfl (ab (aj (ae (ad rfl rfl ?_)))))));refine aX rfl rfl adE (Cb _ hk hes UO hW) (fun v1 w1 hc=>?_);obtain⟨ts,oJ,kq,ho,s1⟩:=hc;refine ah rfl rfl (ab (aj (ae (ad rfl rfl (ad rfl rfl ?_)))));refine aX rfl rfl adF (Av _ ho (fun t ht=>by obtain⟨e,he,hke⟩:=(kq t).1 ht;exact hT e he t hke) (hlen ts oJ fun t ht=>(kq t).1 ht)) (fun r2 w2 hc=>?_);obtain⟨rfl,us,hp,Tv,Y9,s2⟩:=hc;refine ab (aj (ae (ad rfl rfl (ah rfl rfl (ab (aO ?_))))));exact aS rfl rfl ⟨us,hp.nodup_iff.2 oJ,fun t=>hp.mem_iff.trans (kq t),Tv,Y9,s1.trans s2 (fun k hk hn=>by have:=(ho.base k hn).1;omega)⟩
theorem Gx {mb:Nat} (w0:World):
  Spec Tryz.prog 135 #[.map (some mb)] w0 (fun v w=>∃bs,v= .func (.func 188) #[] [.pointer (some ⟨bs,0,none⟩)].toArray∧w.heap[bs]? =some (.cells #[.map (some mb)] 217 (0,0))∧w0.heap.size≤bs∧Step allM w0 allM w aC):=by
 refine bc (args:=[_]) (fn:=Tryz.f135) Tryz.func135 rfl (n:=4) Tryz.ntmps135 (aj (ae ?_));refine xj allM rfl rfl (fun bs w1 mv pD gs s1=>?_);change w1.heap[bs]? =some (.cells #[.map (some mb)] 217 (0,0))at gs;replace s1:=s1.all;refine ah rfl rfl (ab (aj (ae (kb (xs:=[]) (ys:=[.tmp 1]) rfl rfl rfl (ah rfl rfl (ab (aO ?_)))))));exact aS rfl rfl ⟨bs,rfl,gs,mv,s1⟩
end Go.K
namespace Go.K
open Go.Proofs
set_option maxRecDepth 10000
def posOf (ts:List (Fd×Nat)) (t:Fd):List Int:=(ts.filter fun p=>decide (p.1=t)).map fun p=>(p.2:Int)
def seen (ts:List (Fd×Nat)):List Fd:=ts.foldl (fun l p=>if p.1∈l then l else l++[p.1]) []
theorem Jm (ts:List (Fd×Nat)) (t:Fd) (i:Nat):seen (ts++[(t,i)])=if t∈seen ts then seen ts else seen ts++[t]:=by unfold seen;rw[sy];rfl
theorem y5 (ts:List (Fd×Nat)) (t t':Fd) (i:Nat):posOf (ts++[(t,i)]) t'=if t=t' then posOf ts t'++[(i:Int)]else posOf ts t':=by
 unfold posOf;rw[List.filter_append];by_cases h:t=t'<;>simp[h]
theorem vL (ts:List (Fd×Nat)) (t:Fd):(posOf ts t).length≤ts.length:=by
 unfold posOf;rw[aL];exact l3 _ _
abbrev kP:Value:= .slice none 0 0
structure Jn (M:aD) (w:World) (B:Nat) (ts:List (Fd×Nat)) (es:List MapEntry):Prop where
 o:∀t v,ej kP es (kv t) v→Own (RT.int .i64) 3 M w B v (posOf ts t)
 a:∀t t' v v',t≠t'→ej kP es (kv t) v→ej kP es (kv t') v'→iE v v'
 k:es.map (·.key)=(seen ts).map kv
theorem Jn.aP {M M':aD} {w w':World} {B:Nat} {ts:List (Fd×Nat)} {es:List MapEntry} (h:Jn M w B ts es) (s:Step M w M' w' aC):Jn M' w' B ts es:=⟨fun t v hv=>(h.o t v hv).aP s,h.a,h.k⟩
def IJ (bt mb B:Nat) (ts:List (Fd×Nat)) (M:aD) (w:World):Prop:=w.heap[bt]? =some (.cells #[.map (some mb)] 217 (0,0))∧M bt∧M mb∧B≤bt∧B≤mb∧∃es clock,fB Tryz.prog 78 w mb es clock∧Jn M w B ts es
theorem Own.kQ {α:Type} {A:RT α} {e:TypeId} {M:aD} {w:World} {base b c:Nat} {a:Array MapEntry} {v:Value} {xs:List α} (h:Own A e M w base v xs) (hb:w.heap[b]? =some (.map a c)):v.ownBlock≠some b:=fun hv=>by
 obtain⟨⟨C,h1,_⟩,_⟩:=h;rcases h1.2 with⟨h2,_⟩|⟨g,cap,cur,h2,_,h3,_⟩
 ·rw[h2]at hv;cases hv
 ·rw[h2]at hv;cases hv;rw[h3]at hb;cases hb
theorem uh {ts:List (Fd×Nat)} {es:List MapEntry} {t:Fd} (hk:es.map (·.key)=(seen ts).map kv):(∃e∈es,e.key=kv t)↔t∈seen ts:=by
 constructor
 ·rintro⟨e,he,h⟩;have:kv t∈(seen ts).map kv:=by rw[←hk,←h];exact gX he
  obtain⟨t',h1,h2⟩:=ca.1 this;rw[←vK h2];exact h1
 ·intro h;have:kv t∈es.map (·.key):=by rw[hk];exact gX h
  obtain⟨e,h1,h2⟩:=ca.1 this;exact⟨e,h1,h2⟩
theorem Jo {M:aD} {bt mb B:Nat} {ts:List (Fd×Nat)} {t:Fd} {i:Nat} (w0:World) (hM:Lt M w0) (h1:t.1.length≤900000) (h2:t.2.length≤140737488355328) (hi:i≤1000000) (KO:ts.length≤10000000) (hJ:IJ bt mb B ts M w0):
  Spec Tryz.prog 133 #[kv t,.int .i64 (i:Int),.pointer (some ⟨bt,0,none⟩)] w0 (fun v w=>∃M',Lt M' w∧IJ bt mb B (ts++[(t,i)]) M' w∧Step M w0 M' w (lJ M B)):=by
 obtain⟨gb,ef,eX,hB,H0,es,clock,hW,hI⟩:=hJ;refine bc (args:=[_,_,_]) (fn:=Tryz.f133) Tryz.func133 rfl (n:=13) Tryz.ntmps133 ?_;have S:Step M w0 M w0 (lJ M B):=(aw _ _).cA (fun _ h=>h.elim) (fun _ h=>h.2);refine aj (ae ?_);refine qc (A:=RT.fd) rfl rfl hM (Jl (by omega) h2) rfl (fun u0 w1 dn s0 _=>?_);have:=ak gb;replace ef:=(s0.mem _ this).2 ef;replace gb:=s0.aK gb;replace eX:=(s0.mem _ (ak hW.at_)).2 eX;replace hW:=hW.aP s0;replace hI:=hI.aP s0;replace hM:=s0.lt hM;have:=S.size;replace S:=S.aB s0;refine ab (ae (aM l2 rfl rfl rfl (by assumption) rfl ?_));refine cX (M:=M) (A:=RT.fd) dH rfl AY (by decide) rfl rfl rfl dn (aq _ _) (fun v1 A2=>?_);obtain rfl:=tf A2;refine ad rfl rfl ?_;refine ed (A:=RT.int .i64) (hn:=by decide) (M:=M) an I3 (by decide) rfl rfl hM (fV (by omega)) (.inr ⟨rfl,rfl⟩) (fun PT Ja kJ s1_3=>?_);have:=ak gb;replace ef:=(s1_3.mem _ this).2 ef;replace gb:=s1_3.aK gb;replace dn:=dn.le (by decide) s1_3.le;replace eX:=(s1_3.mem _ (ak hW.at_)).2 eX;replace hW:=hW.aP s1_3;replace hI:=hI.aP s1_3;replace hM:=s1_3.lt hM;have:=S.size;replace S:=S.aB s1_3;obtain⟨kl,FK⟩:=Mc t (by omega) h2;refine Rg.mapEntry (M:=M) (zv:=kP) l2 A5 jL rfl rfl rfl FK hW eX (fun w4 es4 cl4 v s Xf hv kq Jp FO s4=>?_);have Gy:∀t v,ej kP es (kv t) v→v.ownBlock≠some mb:=fun t v h=>(hI.o t v h).kQ hW.at_
 have R1:bt≠mb:=fun e=>by subst e;have:=hW.at_;rw[gb]at this;cases this
 replace hI:Jn M w4 B ts es:=⟨fun t v hv=>(hI.o t v hv).step s4 (fun b hb hk=>Gy t v hv (by have hk:b=mb:=hk;rw[←hk];exact hb)),hI.a,hI.k⟩;have Za:=(s4.mem _ (ak hW.at_)).2 eX;replace ef:=(s4.mem _ (ak gb)).2 ef;replace gb:=s4.keep gb R1;replace kJ:=kJ.le s4.le;replace hM:=s4.lt hM;have hmM:∀b,b<w0.heap.size→M b→M b:=fun b hb h=>(S.mem b hb).1 h
 have hz0:=S.size;replace S:=S.trans s4 (fun k hk h=>by have h:k=mb:=h;subst h;exact⟨H0,hmM k hk eX⟩);have si:=hI.o t v hv;have tz:=vL ts t;refine bW rfl rfl rfl ?_;refine nY (M:=M) (base:=B) an I3 rfl rfl rfl rfl si kJ (aq _ _) (by simp;omega) (by simp;omega) (by have:=ak gb;omega) (fun v6 w6 ue s6 hF=>?_);have hblk:∀b,fz v b→B≤b∧M b:=fun b h=>⟨(si.base b h).1,si.mut_ b h⟩
 have xQ:∀t' v',t'≠t→ej kP es (kv t') v'→iE v' v:=fun t' v' eK rR=>hI.a t' t v' v eK rR hv
 have Qa:∀t' v',t'≠t→ej kP es (kv t') v'→Own (RT.int .i64) 3 (jz M v6) w6 B v' (posOf ts t'):=fun t' v' eK rR=>(hI.o t' v' rR).step s6 (fun b hb hk=>xQ t' v' eK rR b hb hk)
 have jT:∀t' v',ej kP es (kv t') v'→∀b,v'.ownBlock=some b→b<w4.heap.size:=fun t' v' rR b hb=>((hI.o t' v' rR).base b hb).2
 have Mn:∀t' v',t'≠t→ej kP es (kv t') v'→iE v6 v':=fun t' v' eK rR=>(xQ t' v' eK rR).symm.grown hF (jT t' v' rR)
 have ae9:v.ownBlock≠some mb:=si.kQ Xf.at_;have Mo:=(s6.mem _ (ak Xf.at_)).2 Za;replace Xf:=Xf.step s6 ae9;replace ef:=(s6.mem _ (ak gb)).2 ef;replace gb:=s6.keep gb (fun h=>si.eI gb (by decide) h);replace hM:=s6.lt hM;have afa:∀b,b<w0.heap.size→M b→M b:=fun b hb h=>(S.mem b hb).1 h
 replace S:=S.trans s6 (fun k hk h=>⟨(hblk k h).1,afa k hk (hblk k h).2⟩);refine bW rfl rfl rfl ?_;have Zb:=Xf.at_;refine Rg.entryStore rfl rfl rfl Xf Mo kq (fun w8 es8 hW8 pN Zc s8=>?_);have hm8:v6.ownBlock≠some mb:=ue.kQ Zb;replace ue:=ue.step s8 (fun b hb hk=>hm8 (by have hk:b=mb:=hk;rw[←hk];exact hb));have Zd:∀t' v',t'≠t→ej kP es (kv t') v'→Own (RT.int .i64) 3 _ w8 B v' (posOf ts t'):=fun t' v' eK rR=>(Qa t' v' eK rR).step s8 (fun b hb hk=>Gy t' v' rR (by have hk:b=mb:=hk;rw[←hk];exact hb))
 have Ze:=(s8.mem _ (ak Zb)).2 Mo;refine ab ?_
 first|refine rq ?_|simp+decide only[ru,jx,if_true,if_false]|skip
 replace ef:=(s8.mem _ (ak gb)).2 ef;replace gb:=s8.keep gb R1;replace hM:=s8.lt hM;replace S:=S.trans s8 (fun k hk h=>by have h:k=mb:=h;subst h;exact⟨H0,(S.mem k hk).1 Mo⟩)
 have sk:∀t1 v1,ej kP es8 (kv t1) v1→(t1=t∧v1=v6)∨(t1≠t∧ej kP es (kv t1) v1):=fun t1 v1 A2=>by
  rcases(Zc kP (kv t1) v1).1 A2 with⟨h3,h4⟩|⟨h3,h4⟩
  ·exact .inl ⟨vK h3,h4⟩
  ·exact .inr ⟨fun e=>h3 (by rw[e];rfl),(Jp (kv t1) v1).1 h4⟩
 refine fR rfl ⟨_,hM,⟨gb,ef,Ze,hB,H0,es8,_,hW8,⟨fun t1 v1 A2=>?_,fun t1 t2 v1 v2 eK A2 Fu=>?_,?_⟩⟩,S⟩
 ·rcases sk t1 v1 A2 with⟨rfl,rfl⟩|⟨h3,h4⟩
  ·rw[y5,if_pos rfl];exact ue
  ·rw[y5,if_neg (fun e=>h3 e.symm)];exact Zd t1 v1 h3 h4
 ·rcases sk t1 v1 A2 with⟨rfl,rfl⟩|⟨h3,h4⟩
  ·rcases sk t2 v2 Fu with⟨rfl,_⟩|⟨h5,h6⟩
   ·exact absurd rfl eK
   ·exact Mn t2 v2 h5 h6
  ·rcases sk t2 v2 Fu with⟨rfl,rfl⟩|⟨h5,h6⟩
   ·exact(Mn t1 v1 h3 h4).symm
   ·exact hI.a t1 t2 v1 v2 eK h4 h6
 ·rw[pN,Jm];rcases FO with⟨h3,h4⟩|⟨h3,h4⟩
  ·rw[h3,hI.k,if_pos ((uh hI.k).1 h4)]
  ·rw[h3,hI.k,if_neg (fun h=>by obtain⟨e,he,hk⟩:=(uh hI.k).2 h;exact h4 e he hk)];simp[kv]
end Go.K
namespace Go.K
open Go.Maps (Keyed)
open Go.Lib (compareBytes)
theorem D3:∀a b:List UInt8,Op.bytesLess a b=decide (compareBytes a b<0)
 |[],[]=>by simp[Op.bytesLess,compareBytes]
 |_::_,[]=>by simp[Op.bytesLess,compareBytes]
 |[],_::_=>by simp[Op.bytesLess,compareBytes]
 |a::x,b::y=>by
  rw[Op.bytesLess,D3 x y,oy];by_cases h1:a.toNat<b.toNat
  ·simp[UInt8.lt_iff_toNat_lt,h1]
  ·by_cases h2:b.toNat<a.toNat
   ·have: ¬a=b:=fun e=>by subst e;omega
    simp[UInt8.lt_iff_toNat_lt,h1,h2,this]
   ·have:a=b:=UInt8.toNat_inj.1 (by omega);simp[UInt8.lt_iff_toNat_lt,h1,h2,this]
theorem qD (a b:List UInt8):compareBytes a b<0↔a<b:=by
 have h:=D3 a b;rw[Go.Proofs.bytesLess_eq]at h;exact(decide_eq_decide.1 h).symm
theorem jb (a:List UInt8): ¬a<a:=fun h=>by have:=(qD a a).2 h;rw[yY]at this;omega
theorem l0 {a b c:List UInt8} (h:a<b) (h':b<c):a<c:=(qD _ _).1 (re ((qD _ _).2 h) ((qD _ _).2 h'))
theorem jN (a b:List UInt8):a<b∨a=b∨b<a:=by
 rcases Int.lt_trichotomy (compareBytes a b) 0 with h|h|h
 ·exact .inl ((qD _ _).1 h)
 ·exact .inr (.inl (qC h))
 ·exact .inr (.inr ((qD _ _).1 (by rw[pj];omega)))
theorem iR {a b:List UInt8} (h:a<b): ¬b<a:=fun h'=>jb a (l0 h h')
theorem Gz {a b:List UInt8}:a≤b↔¬b<a:=Iff.rfl
section
variable {P:Program} {r:Option Nat} {n:Nat} {L:Sl} {ds:List Deferred} {w:World} {K:Kt} {ops:Array Oper} {rest:List Oper} {d:Nat} {x y:Operand} {ty:TypeId} {pos:String} {af:Array Edge}
theorem Rg.afb {t t':TypeId} {p q:List UInt8} (hx:ev L x=some (.string ⟨p.toArray⟩)) (hy:ev L y=some (.string ⟨q.toArray⟩)) (hd:Nat.blt d n=true)
  (k:Rg P r n ops rest ((d,.bool (decide (q<p)))::L) ds w K):
  Rg P r n ops ({dst:=some d,op:= .binOp .gtr t x y t',type:=ty,pos,after:=af,guard:=none}::rest) L ds w K:=
 .op (fun _ h=>by cases h) rfl rfl hd _ w (fun ρ h=>by
  have e:(!(decide (p<q)||p==q))=decide (q<p):=by
   rcases jN p q with h|h|h
   ·simp[h,iR h]
   ·subst h;simp[jb]
   ·have: ¬p=q:=fun e=>by subst e;exact jb p h
    simp[h,iR h,this]
  simp only[execOp];rw[h x _ hx,h y _ hy];simp only[binOp,Op.stringOp,ke,Go.Proofs.bytesLess_eq,e];simp[eqGuard]) k
theorem Rg.UR {t t':TypeId} {p q:List UInt8} (hx:ev L x=some (.string ⟨p.toArray⟩)) (hy:ev L y=some (.string ⟨q.toArray⟩)) (hd:Nat.blt d n=true)
  (k:Rg P r n ops rest ((d,.bool (decide (¬p<q)))::L) ds w K):
  Rg P r n ops ({dst:=some d,op:= .binOp .geq t x y t',type:=ty,pos,after:=af,guard:=none}::rest) L ds w K:=
 .op (fun _ h=>by cases h) rfl rfl hd _ w (fun ρ h=>by
  have e:(!decide (p<q))=decide (¬p<q):=by by_cases h:p<q<;>simp[h]
  simp only[execOp];rw[h x _ hx,h y _ hy];simp only[binOp,Op.stringOp,ke,Go.Proofs.bytesLess_eq,e];simp[eqGuard]) k
theorem Rg.US {t t':TypeId} {p q:List UInt8} (hx:ev L x=some (.string ⟨p.toArray⟩)) (hy:ev L y=some (.string ⟨q.toArray⟩)) (hd:Nat.blt d n=true)
  (k:Rg P r n ops rest ((d,.bool (decide (¬q<p)))::L) ds w K):
  Rg P r n ops ({dst:=some d,op:= .binOp .leq t x y t',type:=ty,pos,after:=af,guard:=none}::rest) L ds w K:=
 .op (fun _ h=>by cases h) rfl rfl hd _ w (fun ρ h=>by
  have e:(decide (p<q)||p==q)=decide (¬q<p):=by
   rcases jN p q with h|h|h
   ·simp[h,iR h]
   ·subst h;simp[jb]
   ·have: ¬p=q:=fun e=>by subst e;exact jb p h
    simp[h,iR h,this]
  simp only[execOp];rw[h x _ hx,h y _ hy];simp only[binOp,Op.stringOp,ke,Go.Proofs.bytesLess_eq,e];simp[eqGuard]) k
end
abbrev D4 (l:List (List UInt8)):Prop:=l.Pairwise (· < ·)
theorem Jq {ss:List (List UInt8)} (h:ss.Nodup):D4 (ss.mergeSort fun x y=>decide (x≤y)):=by
 have h1:(ss.mergeSort fun x y=>decide (x≤y)).Pairwise (fun x y=>decide (x≤y)=true):=List.pairwise_mergeSort (fun a b c h1 h2=>by
  simp only[decide_eq_true_eq,Gz]at h1 h2 ⊢;intro h3;rcases jN a b with h|h|h
  ·exact h2 (l0 h3 h)
  ·subst h;exact h2 h3
  ·exact h1 h) (fun a b=>by
  simp only[qb,decide_eq_true_eq,Gz];rcases jN a b with h|h|h
  ·exact .inl (iR h)
  ·subst h;exact .inl (jb a)
  ·exact .inr (iR h)) ss
 have h2:(ss.mergeSort fun x y=>decide (x≤y)).Nodup:=(jg ss _).nodup_iff.2 h;refine (h1.and h2).imp ?_;rintro a b ⟨h3,h4⟩;simp only[decide_eq_true_eq,Gz]at h3;rcases jN a b with h|h|h
 ·exact h
 ·exact absurd h h4
 ·exact absurd h h3
theorem D4.nodup {l:List (List UInt8)} (h:D4 l):l.Nodup:=h.imp fun {a b} h e=>by subst e;exact jb a h
theorem uj {α:Type} {R:α→α→Prop} (hR:∀a b,R a b→R b a→a=b) {l l':List α} (h:l.Pairwise R) (h':l'.Pairwise R) (hn:l.Nodup) (Jj:l'.Nodup) (hm:∀x,x∈l↔x∈l'):l=l':=
 List.Perm.eq_of_pairwise (fun a b _ _ h1 h2=>hR a b h1 h2) h h' ((List.perm_ext_iff_of_nodup hn Jj).2 hm)
theorem UT {l l':List (List UInt8)} (h:D4 l) (h':D4 l') (hm:∀x,x∈l↔x∈l'):l=l':=
 uj (fun a b h1 h2=>absurd h2 (iR h1)) h h' h.nodup h'.nodup hm
abbrev sv (k:List UInt8):Value:= .string ⟨k.toArray⟩
theorem Cd {a b:List UInt8} (h:sv a=sv b):a=b:=by simpa[sv]using h
def GA:Value→Option (DU×List MemPlace):=fun _=>some (.nil,[])
theorem fB.afc {P:Program} {kt:TypeId} {M:aD} {w:World} {b:Nat} {es:List MapEntry} {clock:Nat} (hk:P.underlying kt=some .string) (h:fB P kt w b es clock) (hm:M b) (hl:es.length≤maxLen) (ks:List (List UInt8)) (Qb:es.map (·.key)=ks.map sv):
  ∃m:List (Lit×DU),TU P kt GA M w b m∧(strKeys (DataW.map m)).Perm ks∧m.length=ks.length:=by
 have hF:Go.WideElems.Fit P kt GA es.toArray clock:=by
  refine⟨by simpa using hl,⟨fun x hx=>h.lt x (by simpa using hx),?_,?_⟩,fun x hx=>?_⟩
  ·simpa[List.Nodup,cz]using h.born
  ·simpa[List.Nodup,cz]using h.keys
  ·obtain⟨l,hl⟩:=h.ok x (by simpa using hx);exact⟨(l,.nil),by simp[Go.WideElems.rd,hl,GA]⟩
 have hp:=Go.WideShapes.sorted_perm (es.toArray.toList.map (Go.WideElems.rg P kt GA));have hlen:(List.foldr DataW.insert [] (es.toArray.toList.map (Go.WideElems.rg P kt GA))).length=es.length:=by rw[hp.length_eq];simp
 refine⟨_,⟨hm,es.toArray,clock,h.at_,hF,by rw[hlen];simp,rfl⟩,?_,?_⟩
 ·refine (hp.map fun p=>strOf p.1).trans ?_;rw[List.map_map]
  have e:es.toArray.toList.map ((fun p=>strOf p.1)∘Go.WideElems.rg (H:=Unit) P kt GA)=ks:=by
   refine eZ fun i=>?_
   have hi:=congrArg (·[i]?) Qb;simp only[bC]at hi ⊢
   cases he:es[i]? with
   |none=>
    rw[he]at hi
    cases afd:ks[i]? with
    |none=>simp[he]
    |some a=>rw[afd]at hi;cases hi
   |some e=>
    rw[he]at hi;obtain⟨l,hl⟩:=h.ok e (aA he);obtain⟨s,hs,h1⟩:=Option.map_eq_some_iff.1 hi.symm;obtain⟨z,hz1,hz2,_⟩:=Maps.keyOf_str hk hl;have:z=s:=Cd (hz1.symm.trans (by simpa using h1.symm));subst this;simp[he,hs,Go.WideElems.rg,Go.WideElems.rd,hl,GA,hz2,strOf]
  rw[e]
 ·rw[hlen];have:=congrArg List.length Qb;simpa using this
end Go.K
namespace Go.K
open Go.Lib (compareBytes)
def qE {α:Type} [DecidableEq α] (key:α→List UInt8) (t:α):List α→List α
 |[]=>[t]
 |u::l=>if key t<key u then t::u::l else if u=t then u::l else u::qE key t l
theorem rf {α:Type} [DecidableEq α] {key:α→List UInt8} {t x:α}:∀{l:List α},x∈qE key t l↔x=t∨x∈l
 |[]=>by simp[qE]
 |u::l=>by
  unfold qE
  split
  ·simp
  ·split
   ·rename_i h;subst h;simp
   ·rw[cf,rf (l:=l),cf];constructor
    ·rintro(h|h|h)
     ·exact .inr (.inl h)
     ·exact .inl h
     ·exact .inr (.inr h)
    ·rintro(h|h|h)
     ·exact .inr (.inl h)
     ·exact .inl h
     ·exact .inr (.inr h)
abbrev Ce {α:Type} (key:α→List UInt8) (l:List α):Prop:=l.Pairwise fun a b=>key a<key b
theorem D5 {α:Type} [DecidableEq α] {key:α→List UInt8} {t:α}:∀{l:List α},(∀u∈l,key u=key t→u=t)→Ce key l→Ce key (qE key t l)
 |[],_,_=>by simp[qE]
 |u::l,hi,h=>by
  have h':=ek.1 h;unfold qE
  split
  ·rename_i dR
   refine ek.2 ⟨fun x hx=>?_,h⟩;rcases cf.1 hx with rfl|hx
   ·exact dR
   ·exact l0 dR (h'.1 x hx)
  ·rename_i dR
   split
   ·exact h
   ·rename_i eK
    have hut:key u<key t:=by
     rcases jN (key u) (key t)with h1|h1|h1
     ·exact h1
     ·exact absurd (hi u (bP ..) h1) eK
     ·exact absurd h1 dR
    refine ek.2 ⟨fun x hx=>?_,D5 (fun v hv=>hi v (b9 _ hv)) h'.2⟩;rcases rf.1 hx with rfl|hx
    ·exact hut
    ·exact h'.1 x hx
def allBy {α:Type} [DecidableEq α] (key:α→List UInt8) (l:List α):List α:=l.foldl (fun a t=>qE key t a) []
theorem uk {α:Type} [DecidableEq α] {key:α→List UInt8} {S:α→Prop} (hS:∀a b,S a→S b→key a=key b→a=b):∀(l a:List α),(∀x∈l,S x)→(∀x∈a,S x)→Ce key a→
  Ce key (l.foldl (fun a t=>qE key t a) a)∧∀x,x∈l.foldl (fun a t=>qE key t a) a↔x∈a∨x∈l
 |[],a,_,_,h=>⟨h,fun x=>by simp⟩
 |t::l,a,hl,ha,h=>by
  have ht:=hl t (bP ..)
  obtain⟨h1,h2⟩:=uk hS l (qE key t a) (fun x hx=>hl x (b9 _ hx)) (fun x hx=>by
   rcases rf.1 hx with rfl|hx
   ·exact ht
   ·exact ha x hx) (D5 (fun u hu e=>hS _ _ (ha u hu) ht e) h)
  refine⟨h1,fun x=>?_⟩;rw[List.foldl_cons,h2,rf,cf];constructor
  ·rintro((h|h)|h)
   ·exact .inr (.inl h)
   ·exact .inl h
   ·exact .inr (.inr h)
  ·rintro(h|h|h)
   ·exact .inl (.inr h)
   ·exact .inl (.inl h)
   ·exact .inr h
theorem Ce.nodup {α:Type} {key:α→List UInt8} {l:List α} (h:Ce key l):l.Nodup:=h.imp fun {a b} h e=>by subst e;exact jb _ h
abbrev O2 (t:Fd):Prop:=(0:UInt8)∉t.1
theorem y6 {a b:Fd} (ha:O2 a) (hb:O2 b) (h:gE a=gE b):a=b:=by
 obtain⟨h1,h2⟩:=yZ ha hb h;exact xh h1 h2
def db (tl:List (Fd×Nat)):List Fd:=allBy gE (tl.map (·.1))
theorem um {tl:List (Fd×Nat)} (hz:∀p∈tl,O2 p.1):Ce gE (db tl):=
 (uk (S:=O2) (fun _ _=>y6) _ [] (fun x hx=>by obtain⟨p,hp,rfl⟩:=ca.1 hx;exact hz p hp) (fun x h=>by cases h) List.Pairwise.nil).1
theorem kR {tl:List (Fd×Nat)} (hz:∀p∈tl,O2 p.1) {t:Fd}:t∈db tl↔t∈tl.map (·.1):=by
 have:=(uk (S:=O2) (key:=gE) (fun _ _=>y6) (tl.map (·.1)) [] (fun x hx=>by obtain⟨p,hp,rfl⟩:=ca.1 hx;exact hz p hp) (fun x h=>by cases h) List.Pairwise.nil).2 t;simpa[db,allBy]using this
theorem H2 (t:Fd):∀(ts:List (Fd×Nat)) (l:List Fd),t∈ts.foldl (fun l p=>if p.1∈l then l else l++[p.1]) l↔t∈l∨t∈ts.map (·.1)
 |[],l=>by simp
 |p::ts,l=>by
  rw[List.foldl_cons,H2 t ts,eQ,cf]
  split
  ·rename_i h
   constructor
   ·rintro(h1|h1)
    ·exact .inl h1
    ·exact .inr (.inr h1)
   ·rintro(h1|h1|h1)
    ·exact .inl h1
    ·exact .inl (by rw[h1];exact h)
    ·exact .inr h1
  ·rw[cp,bJ];constructor
   ·rintro((h1|h1)|h1)
    ·exact .inl h1
    ·exact .inr (.inl h1)
    ·exact .inr (.inr h1)
   ·rintro(h1|h1|h1)
    ·exact .inl (.inl h1)
    ·exact .inl (.inr h1)
    ·exact .inr h1
theorem uq {tl:List (Fd×Nat)} {t:Fd}:t∈seen tl↔t∈tl.map (·.1):=by unfold seen;rw[H2];simp
theorem D6 {tl:List (Fd×Nat)} {us:List Fd} (hz:∀p∈tl,O2 p.1) (oJ:us.Nodup) (kq:∀t,t∈us↔t∈seen tl) (Tv:Mm us):us=db tl:=by
 have hm:∀t,t∈us↔t∈db tl:=fun t=>by rw[kq,uq,kR hz]
 have j9:∀t∈db tl,O2 t:=fun t ht=>by obtain⟨p,hp,rfl⟩:=ca.1 ((kR hz).1 ht);exact hz p hp
 refine List.Perm.eq_of_pairwise (le:=fun a b=>¬compareBytes (gE b) (gE a)<0) (fun a b ha hb h1 h2=>?_) Tv ((um hz).imp fun {a b} h h'=>iR h ((qD _ _).1 h')) ((List.perm_ext_iff_of_nodup oJ (um hz).nodup).2 hm);rw[qD]at h1 h2;rcases jN (gE a) (gE b)with h|h|h
 ·exact absurd h h2
 ·exact y6 (j9 a ((hm a).1 ha)) (j9 b hb) h
 ·exact absurd h h1
theorem ur (a b:List (Fd×Nat)) (t:Fd):posOf (a++b) t=posOf a t++posOf b t:=by simp[posOf]
theorem Mp {tl:List (Fd×Nat)} {t:Fd} (h:t∈tl.map (·.1)):posOf tl t≠[]:=by
 obtain⟨p,hp,rfl⟩:=ca.1 h;intro e;have:p∈tl.filter fun q=>decide (q.1=p.1):=fN.2 ⟨hp,by simp⟩
 rw[List.map_eq_nil_iff.1 e]at this;cases this
theorem Jr {tl:List (Fd×Nat)} {t:Fd} (h:t∉tl.map (·.1)):posOf tl t=[]:=by
 unfold posOf;rw[List.filter_eq_nil_iff.2 fun p hp=>by simp;intro e;exact h (ca.2 ⟨p,hp,e⟩)];rfl
theorem D7 (x:Fd) (t:Fd):(posOf (jq x) t).Sublist ((List.range' 0 (words x.2).length).map fun(i:Nat)=>(i:Int)):=by
 have e:(jq x).map (fun p=>(p.2:Int))=(List.range' 0 (words x.2).length).map fun(i:Nat)=>(i:Int):=by
  rw[←List.zipIdx_map_snd 0 (words x.2),List.map_map];unfold jq;rw[List.map_map];rfl
 rw[←e];exact zZ.map _
theorem Js (x:Fd) (t:Fd):(posOf (jq x) t).Pairwise (· < ·)∧∀i∈posOf (jq x) t,0≤i∧i<(words x.2).length:=by
 refine⟨uQ (D7 x t) (cz.2 ((List.pairwise_lt_range' (s:=0) (n:=(words x.2).length)).imp fun h=>by omega)),fun i hi=>?_⟩;have:=(D7 x t).subset hi;obtain⟨k,hk,rfl⟩:=ca.1 this;have:=List.mem_range'_1.1 hk;omega
theorem A9 {x:Fd} {p:Fd×Nat} (h:p∈jq x):p.1.1=x.1∧p.1.2∈words x.2:=by
 obtain⟨q,hq,rfl⟩:=ca.1 h;have:=List.mem_zipIdx hq;exact⟨rfl,by simp only;rw[this.2.2];exact uV _⟩
theorem Ba {fs:List Fd} {p:Fd×Nat} (h:p∈cF fs):∃x∈fs,p.1.1=x.1∧p.1.2∈words x.2:=by
 obtain⟨x,hx,hp⟩:=uW.1 h;exact⟨x,hx,A9 hp⟩
theorem y7 {x t:Fd} (h:x.1≠t.1):posOf (jq x) t=[]:=Jr fun hm=>by
 obtain⟨p,hp,rfl⟩:=ca.1 hm;exact h (A9 hp).1.symm
theorem Bb {t:Fd}:∀{fs:List Fd},(∀x∈fs,x.1≠t.1)→posOf (cF fs) t=[]
 |[],_=>rfl
 |x::fs,h=>by
  show posOf (jq x++cF fs) t=[];rw[ur,y7 (h x (bP ..)),Bb fun y hy=>h y (b9 _ hy)];rfl
theorem D8 {t:Fd}:∀{fs:List Fd},(fs.map (·.1)).Nodup→posOf (cF fs) t=[]∨∃x∈fs,posOf (cF fs) t=posOf (jq x) t
 |[],_=> .inl rfl
 |x::fs,h=>by
  have h':=List.nodup_cons.1 h;have e:posOf (cF (x::fs)) t=posOf (jq x) t++posOf (cF fs) t:=by show posOf (jq x++cF fs) t=_;rw[ur]
  by_cases hx:x.1=t.1
  ·refine .inr ⟨x,bP ..,?_⟩;rw[e,Bb fun y hy e=>h'.1 (by have h9:y.1∈fs.map (·.1):=gX hy;rw[e,←hx]at h9;exact h9),iW]
  ·rw[e,y7 hx,fK];rcases D8 (t:=t) h'.2 with h1|⟨y,hy,h1⟩
   ·exact .inl h1
   ·exact .inr ⟨y,b9 _ hy,h1⟩
theorem y8:∀{l:List Int} {last:Int},(∀x∈l,last<x)→l.Pairwise (· < ·)→eo last l=true
 |[],_,_,_=>rfl
 |x::l,last,h1,h2=>by
  have yc:=ek.1 h2;simp only[eo,bU,decide_eq_true_eq];exact⟨h1 x (bP ..),y8 yc.1 yc.2⟩
structure kS (d:Dc):Prop where
 names:∀f∈d.2,fX f.1=true
 once:(d.2.map (·.1)).Nodup
 toks:∀f∈d.2,mC 0 (words f.2)=0
 many:(cF d.2).length≤500
 few:d.2.length≤8
theorem Bc:∀{fs sn:List Fd} {n:Nat},Ap sn fs n=0→(∀f∈fs,fX f.1=true∧mC 0 (words f.2)=0∧∀g∈sn,g.1≠f.1)∧(fs.map (·.1)).Nodup∧n+(cF fs).length≤500
 |[],sn,n,h=>by
  refine⟨(fun f hf=>by cases hf),List.nodup_nil,?_⟩;simp only[Ap]at h
  split at h
  ·cases h
  ·simp[cF];omega
 |f::fs,sn,n,h=>by
  simp only[Ap]at h
  split at h
  ·cases h
  ·rename_i h1
   split at h
   ·cases h
   ·rename_i h2
    split at h
    ·exact absurd h (by assumption)
    ·rename_i h3
     obtain⟨h4,h5,h6⟩:=Bc h;have h7:∀g∈sn,g.1≠f.1:=fun g hg e=>h2 (uU.2 ⟨g,hg,by simp[e]⟩)
     refine⟨fun x hx=>?_,List.nodup_cons.2 ⟨fun hm=>?_,h5⟩,?_⟩
     ·rcases cf.1 hx with rfl|hx
      ·exact⟨by simpa using h1,by simpa using h3,h7⟩
      ·obtain⟨a,b,c⟩:=h4 x hx;exact⟨a,b,fun g hg=>c g (gu _ hg)⟩
     ·obtain⟨y,hy,e⟩:=ca.1 hm;exact(h4 y hy).2.2 f (List.mem_append_right _ (bJ.2 rfl)) e.symm
     ·have:(cF (f::fs)).length=(jq f).length+(cF fs).length:=by show(jq f++cF fs).length=_;rw[bj]
      rw[this,ox];omega
theorem H3 {d:Dc} (h:lO d=0):kS d:=by
 unfold lO at h
 split at h
 ·cases h
 ·obtain⟨h1,h2,h3⟩:=Bc h;exact⟨fun f hf=>(h1 f hf).1,h2,fun f hf=>(h1 f hf).2.1,by omega,by omega⟩
theorem Bd:∀{ws:List (List UInt8)} {i:Nat},mC i ws=0→∀x∈ws,x.length≤30
 |[],_,_,x,hx=>by cases hx
 |a::ws,i,h,x,hx=>by
  simp only[mC]at h
  split at h
  ·cases h
  ·split at h
   ·cases h
   ·rcases cf.1 hx with rfl|hx
    ·omega
    ·exact Bd h x hx
theorem Mq {s:List UInt8} (h:fX s=true):(0:UInt8)∉s:=fun h0=>by
 simp only[fX,bU,fu]at h;have:=h.2 0 h0
 revert this;decide
theorem kS.Qd {d:Dc} (h:kS d):∀p∈cF d.2,O2 p.1:=fun p hp=>by
 obtain⟨x,hx,h1,_⟩:=Ba hp;show(0:UInt8)∉p.1.1;rw[h1];exact Mq (h.names x hx)
theorem kS.small {d:Dc} (h:kS d):∀p∈cF d.2,p.1.1.length≤12∧p.1.2.length≤30:=fun p hp=>by
 obtain⟨x,hx,h1,h2⟩:=Ba hp;exact⟨by rw[h1];exact DJ (h.names x hx),Bd (h.toks x hx) _ h2⟩
theorem kS.pos {d:Dc} (h:kS d) (t:Fd):(posOf (cF d.2) t).Pairwise (· < ·)∧(∀i∈posOf (cF d.2) t,0≤i∧i<500)∧(posOf (cF d.2) t).length≤500:=by
 have hl:=vL (cF d.2) t;have hm:=h.many;rcases D8 (t:=t) h.once with h1|⟨x,hx,h1⟩
 ·rw[h1];exact⟨List.Pairwise.nil,(fun i hi=>by cases hi),by simp⟩
 ·obtain⟨h2,h3⟩:=Js x t
  have qV:(words x.2).length≤500:=by
   have:(jq x).length≤(cF d.2).length:=by
    obtain⟨i,hi⟩:=bB.1 hx;have:=ti hi
    have h5:(cF (d.2.take (i+1))).length≤(cF d.2).length:=by
     have:cF d.2=cF (d.2.take (i+1))++cF (d.2.drop (i+1)):=by unfold cF;rw[←List.flatMap_append,uP]
     rw[this,bj];omega
    rw[this,bj]at h5;omega
   rw[ox]at this;omega
  rw[h1]at hl ⊢;exact⟨h2,fun i hi=>⟨(h3 i hi).1,by have:=(h3 i hi).2;omega⟩,by omega⟩
theorem kS.eo {d:Dc} (h:kS d) (t:Fd):oX (posOf (cF d.2) t)=true:=by
 obtain⟨h1,h2,_⟩:=h.pos t;exact oY.2 ⟨y8 (fun x hx=>by have:=(h2 x hx).1;omega) h1,fun x hx=>by have:=(h2 x hx).2;omega⟩
abbrev pQ (e:En):List (Fd×Nat):=cF e.1.2
def Fy (i:Nat) (tl:List (Fd×Nat)) (k:List UInt8):List Po:=((db tl).filter fun t=>decide (gE t=k)).map fun t=>((i:Int),posOf tl t)
def CT (k:List UInt8):Nat→List En→List Po
 |_,[]=>[]
 |i,e::L=>Fy i (pQ e) k++CT k (i+1) L
def pk (L:List En) (k:List UInt8):List Po:=CT k 0 L
theorem D9 (k:List UInt8) (e:En):∀(L:List En) (i:Nat),CT k i (L++[e])=CT k i L++Fy (i+L.length) (pQ e) k
 |[],i=>by simp[CT]
 |x::L,i=>by
  simp only[kK,CT,D9 k e L (i+1),List.append_assoc,cM];rw[show i+1+L.length=i+(L.length+1) by omega]
theorem Qe (L:List En) (e:En) (k:List UInt8):pk (L++[e]) k=pk L k++Fy L.length (pQ e) k:=by
 unfold pk;rw[D9];simp
def iy (L:List En):List (List UInt8):=L.flatMap fun e=>(db (pQ e)).map gE
theorem GB (L:List En) (e:En):iy (L++[e])=iy L++(db (pQ e)).map gE:=by simp[iy]
def keysOf (L:List En):List (List UInt8):=allBy id (iy L)
theorem kZ (L:List En):D4 (keysOf L):=(uk (key:=id) (S:=fun _=>True) (fun a b _ _ h=>h) _ [] (fun _ _=>trivial) (fun _ _=>trivial) List.Pairwise.nil).1
theorem iS {L:List En} {k:List UInt8}:k∈keysOf L↔k∈iy L:=by
 have:=(uk (key:=id) (S:=fun _=>True) (fun a b _ _ h=>h) (iy L) [] (fun _ _=>trivial) (fun _ _=>trivial) List.Pairwise.nil).2 k;simpa[keysOf,allBy]using this
theorem filter_one {α:Type} {key:α→List UInt8} {l:List α} (h:Ce key l) (k:List UInt8):l.filter (fun t=>decide (key t=k))=[]∨∃t∈l,key t=k∧l.filter (fun t=>decide (key t=k))=[t]:=by
 have h1:Ce key (l.filter fun t=>decide (key t=k)):=uQ zZ h;have h2:∀x∈l.filter (fun t=>decide (key t=k)),x∈l∧key x=k:=fun x hx=>by simpa using fN.1 hx
 revert h1 h2
 generalize l.filter (fun t=>decide (key t=k))=m;intro h1 h2
 match m,h1,h2 with
 |[],_,_=>exact .inl rfl
 |[t],_,h2=>exact .inr ⟨t,(h2 t (bP ..)).1,(h2 t (bP ..)).2,rfl⟩
 |t::u::m,h1,h2=>
  have:=(ek.1 h1).1 u (bP ..);rw[(h2 t (bP ..)).2,(h2 u (by simp)).2]at this;exact absurd this (jb k)
theorem H4 {d:Dc} (h:kS d) (i:Nat) (k:List UInt8):Fy i (cF d.2) k=[]∨∃t∈db (cF d.2),gE t=k∧Fy i (cF d.2) k=[((i:Int),posOf (cF d.2) t)]:=by
 rcases filter_one (um h.Qd) k with h1|⟨t,ht,hk,h1⟩
 ·exact .inl (by unfold Fy;rw[h1];rfl)
 ·exact .inr ⟨t,ht,hk,by unfold Fy;rw[h1];rfl⟩
theorem UU {tl:List (Fd×Nat)} {i:Nat} {t:Fd} (h:t∈db tl):Fy i tl (gE t)≠[]:=fun e=>by
 have:t∈(db tl).filter fun u=>decide (gE u=gE t):=fN.2 ⟨h,by simp⟩
 rw[List.map_eq_nil_iff.1 e]at this;cases this
theorem uu (k:List UInt8):∀(L:List En) (i:Nat) (last:Int),(∀e∈L,kS e.1)→last<i→i+L.length≤2147483648→fH last (CT k i L)=true
 |[],_,_,_,_,_=>rfl
 |e::L,i,last,hF,h1,h2=>by
  have hf:=hF e (bP ..);have hr:=fun last h=>uu k L (i+1) last (fun x hx=>hF x (b9 _ hx)) h (by simp at h2;omega)
  simp only[CT];rcases H4 hf i k with h3|⟨t,ht,hk,h3⟩
  ·rw[show Fy i (pQ e) k=[]from h3];exact hr last (by omega)
  ·rw[show Fy i (pQ e) k=_ from h3]
   have eK:(posOf (cF e.1.2) t).isEmpty=false:=by
    have:=Mp ((kR hf.Qd).1 ht)
    cases h:posOf (cF e.1.2) t with
    |nil=>exact absurd h this
    |cons a b=>rfl
   simp only[kK,fK,fH,eK,hf.eo t,hr i (by omega),Bool.and_true,Bool.not_false,bU,decide_eq_true_eq];simp at h2;omega
theorem qF (k:List UInt8):∀(L:List En) (i:Nat),(∀e∈L,kS e.1)→(CT k i L).length≤L.length∧∀p∈CT k i L,(i:Int)≤p.1∧p.1<i+L.length∧p.2.length≤500
 |[],_,_=>⟨aT _,fun p h=>by cases h⟩
 |e::L,i,hF=>by
  have hf:=hF e (bP ..);obtain⟨h1,h2⟩:=qF k L (i+1) (fun x hx=>hF x (b9 _ hx));simp only[CT,cM];rcases H4 hf i k with h3|⟨t,ht,hk,h3⟩
  ·rw[show Fy i (pQ e) k=[]from h3];exact⟨by simpa using Nat.le_succ_of_le h1,fun p hp=>by have:=h2 p (by simpa using hp);exact⟨by omega,by omega,this.2.2⟩⟩
  ·rw[show Fy i (pQ e) k=_ from h3];refine⟨by simp;omega,fun p hp=>?_⟩;rcases cf.1 hp with rfl|hp
   ·exact⟨Int.le_refl _,by simp only;omega,(hf.pos t).2.2⟩
   ·have:=h2 p (by simpa using hp);exact⟨by omega,by omega,this.2.2⟩
theorem vM:∀(l:List Po) (last:Int) (m:Nat),-1≤last→fH last l=true→(∀p∈l,p.2.length≤m)→m≤1000000→(dY last l).length≤(18+9*m)*l.length∧jl l≤m*l.length
 |[],_,_,_,_,_,_=>⟨by simp[dY],by simp[jl]⟩
 |(d,ps)::l,last,m,h0,hm,hs,hmm=>by
  simp only[fH,bU,decide_eq_true_eq]at hm;obtain⟨⟨⟨⟨h1,h2⟩,h3⟩,h4⟩,h5⟩:=hm;obtain⟨h6,h7⟩:=oY.1 h4;have kf:=hs _ (bP ..);simp only at kf;obtain⟨i1,i2⟩:=vM l d m (by omega) h5 (fun p hp=>hs p (b9 _ hp)) hmm;have a1:=yn ps (-1) (by omega) (fun x hx=>by have:=h7 x hx;omega) h6;have a3:=lf (n:=(d-last-1).toNat) (by omega);have a4:=lf (n:=ps.length) (by omega);have e1:9*ps.length≤9*m:=by omega
  constructor
  ·simp only[dY,eD,bj,cM,Nat.mul_add,eG];omega
  ·simp only[jl,eQ,List.sum_cons,cM]at i2 ⊢;rw[Int.natCast_add,Int.mul_add];omega
abbrev Sg:Type:=List Int×List Int×List (List UInt8)×List (List Po)
theorem GC {k:List UInt8}:∀{L:List En} (i:Nat),k∈iy L→CT k i L≠[]
 |[],_,h=>by cases h
 |e::L,i,h=>by
  simp only[CT];intro hn;obtain⟨h1,h2⟩:=List.append_eq_nil_iff.1 hn;have h:k∈(db (pQ e)).map gE++iy L:=h;rcases cp.1 h with h|h
  ·obtain⟨t,ht,rfl⟩:=ca.1 h;exact UU ht h1
  ·exact GC (i+1) h h2
theorem Cf {k:List UInt8}:∀{L:List En} (i:Nat),k∉iy L→CT k i L=[]
 |[],_,_=>rfl
 |e::L,i,h=>by
  have h:k∉(db (pQ e)).map gE++iy L:=h;rw[cp,not_or]at h;simp only[CT];rw[Cf (i+1) h.2,iW];unfold Fy;rw[List.filter_eq_nil_iff.2 fun t ht=>by simp;intro e';exact h.1 (ca.2 ⟨t,ht,e'⟩)];rfl
end Go.K
namespace Go.K
def RT.ptr {α:Type} (A:RT α) (hn:0<A.n:=by decide):RT α where
 n:=1
 agg:=false
 R:=fun M w x vs=>∃b o us,vs=[.pointer (some ⟨b,o,none⟩)]∧¬M b∧A.R M w x us∧w.rangeAt b o us
 len:=by rintro _ _ x vs ⟨b,o,us,rfl,_⟩;rfl
 one:=by rintro _ _ x vs ⟨b,o,us,rfl,_⟩ v hv;simp at hv;subst hv;rfl
 le:=by
  rintro M w M' w' x vs hl ⟨b,o,us,h1,h2,h3,h4⟩;have hp:0<us.length:=by rw[A.len h3];exact hn
  have hc:=h4 0 (us[0]'hp) (ar hp);exact⟨b,o,us,h1,(hl b (World.block_lt_of_cell? w _ hc) h2).1,A.le hl h3,sI hl h2 h4⟩
theorem lF {α:Type} {A:RT α} {hn:0<A.n} {M:aD} {w:World} {x:α} {v:Value}:(A.ptr hn).V M w x v↔cN A M w v x:=
 ⟨fun⟨vs,⟨b,o,us,h1,h2,h3,h4⟩,h5⟩=>⟨b,o,us,by subst h1;exact h5,h2,h3,h4⟩,fun⟨b,o,us,h1,h2,h3,h4⟩=>⟨[v],⟨b,o,us,by rw[h1],h2,h3,h4⟩,rfl⟩⟩
abbrev Di:=List (List UInt8)×List Li
abbrev Se:=List Int×List Int×Di
abbrev RT.di:RT Di:=RT.pair (RT.str.sl) (((RT.li).ptr).sl)
abbrev RT.se:RT Se:=RT.pair ((RT.int .i64).sl) (RT.pair ((RT.int .i64).sl) ((RT.di).ptr))
theorem Xg:Part RT.di (RT.str.sl) (fun p=>p.1) 0:=mP _ _
theorem di1:Part RT.di (((RT.li).ptr).sl) (fun p=>p.2) 1:=iA _ _
theorem se0:Part RT.se ((RT.int .i64).sl) (fun p=>p.1) 0:=mP _ _
theorem se1:Part RT.se ((RT.int .i64).sl) (fun p=>p.2.1) 1:=(iA ((RT.int .i64).sl) (RT.pair ((RT.int .i64).sl) ((RT.di).ptr))).trans (mP _ _)
theorem se2:Part RT.se ((RT.di).ptr) (fun p=>p.2.2) 2:=(iA ((RT.int .i64).sl) (RT.pair ((RT.int .i64).sl) ((RT.di).ptr))).trans (iA ((RT.int .i64).sl) ((RT.di).ptr))
abbrev Pa:=List Int×List Int×List (List UInt8)×List (List Po)
abbrev RT.pa:RT Pa:=RT.pair ((RT.int .i64).sl) (RT.pair ((RT.int .i64).sl) (RT.pair (RT.str.sl) (((RT.po).sl).sl)))
theorem pa0:Part RT.pa ((RT.int .i64).sl) (fun p=>p.1) 0:=mP _ _
theorem pa1:Part RT.pa ((RT.int .i64).sl) (fun p=>p.2.1) 1:=(iA ((RT.int .i64).sl) (RT.pair ((RT.int .i64).sl) (RT.pair (RT.str.sl) (((RT.po).sl).sl)))).trans (mP _ _)
theorem pa2:Part RT.pa (RT.str.sl) (fun p=>p.2.2.1) 2:=((iA ((RT.int .i64).sl) (RT.pair ((RT.int .i64).sl) (RT.pair (RT.str.sl) (((RT.po).sl).sl)))).trans (iA ((RT.int .i64).sl) (RT.pair (RT.str.sl) (((RT.po).sl).sl)))).trans (mP _ _)
theorem pa3:Part RT.pa (((RT.po).sl).sl) (fun p=>p.2.2.2) 3:=((iA ((RT.int .i64).sl) (RT.pair ((RT.int .i64).sl) (RT.pair (RT.str.sl) (((RT.po).sl).sl)))).trans (iA ((RT.int .i64).sl) (RT.pair (RT.str.sl) (((RT.po).sl).sl)))).trans (iA _ _)
theorem afg {M:aD} {w:World} {x:Se} {a b c:Value} (h0:((RT.int .i64).sl).V M w x.1 a) (h1:((RT.int .i64).sl).V M w x.2.1 b) (h2:cN RT.di M w c x.2.2):RT.se.V M w x (.agg [a,b,c].toArray):=
 ⟨[a,b,c],⟨[a],[b,c],rfl,mf h0 rfl rfl,[b],[c],rfl,mf h1 rfl rfl,mf (lF.2 h2) rfl rfl⟩,rfl⟩
theorem UW {M:aD} {w:World} {x:Pa} {a b c d:Value} (h0:((RT.int .i64).sl).V M w x.1 a) (h1:((RT.int .i64).sl).V M w x.2.1 b) (h2:(RT.str.sl).V M w x.2.2.1 c) (h3:(((RT.po).sl).sl).V M w x.2.2.2 d):RT.pa.V M w x (.agg [a,b,c,d].toArray):=
 ⟨[a,b,c,d],⟨[a],[b,c,d],rfl,mf h0 rfl rfl,[b],[c,d],rfl,mf h1 rfl rfl,[c],[d],rfl,mf h2 rfl rfl,mf h3 rfl rfl⟩,rfl⟩
theorem Mt {M:aD} {w:World} {x:Pa} {v:Value} (h:RT.pa.V M w x v):∃a b c d,v= .agg [a,b,c,d].toArray∧((RT.int .i64).sl).V M w x.1 a∧((RT.int .i64).sl).V M w x.2.1 b∧(RT.str.sl).V M w x.2.2.1 c∧(((RT.po).sl).sl).V M w x.2.2.2 d:=by
 obtain⟨vs,⟨va,vb,rfl,h1,vc,vd,rfl,h2,ve,vf,rfl,h3,h4⟩,rfl⟩:=h;have e1:=(RT.sl (RT.int .i64)).len h1;have e2:=(RT.sl (RT.int .i64)).len h2;have e3:=(RT.sl RT.str).len h3;have e4:=(RT.sl (RT.sl RT.po)).len h4
 match va,vc,ve,vf,e1,e2,e3,e4,h1,h2,h3,h4 with
 |[a],[b],[c],[d],_,_,_,_,h1,h2,h3,h4=>exact⟨a,b,c,d,rfl,⟨_,h1,rfl⟩,⟨_,h2,rfl⟩,⟨_,h3,rfl⟩,⟨_,h4,rfl⟩⟩
theorem vN {α:Type} {A:RT α} (hg:A.agg=true) {M:aD} {w:World} {x:α} {vs:List Value} (h:A.V M w x (.agg vs.toArray)):∀u∈vs,u.oneCell'=true:=by
 obtain⟨us,h1,h2⟩:=h
 have:vs=us:=by
  unfold RT.val at h2;rw[if_pos hg]at h2;injection h2 with h2
  simpa using congrArg Array.toList h2
 subst this;exact A.one h1
theorem dX.free {α:Type} {A:RT α} (hA:∀M w M' w' x vs,A.R M w x vs→A.R M' w' x vs) {M M':aD} {w w':World}:∀{xs:List α} {C:List Value},dX A M w xs C→dX A M' w' xs C
 |[],_,h=>h
 |x::xs,C,h=>by
  obtain⟨vs,r,h1,h2,h3⟩:=h;exact⟨vs,r,h1,hA _ _ _ _ _ _ h2,dX.free hA h3⟩
theorem Own.tell {α:Type} {A:RT α} {hn:0<A.n} (hA:∀M w M' w' x vs,A.R M w x vs→A.R M' w' x vs) {e:TypeId} {M M0:aD} {w:World} {base:Nat} {v:Value} {xs:List α} (h:Own A e M w base v xs) (hb:∀b,v.ownBlock=some b→¬M0 b) (hlen:xs.length≤140737488355328):(A.sl hn).V M0 w xs v:=by
 obtain⟨⟨C,hr,ha⟩,hm⟩:=h;have h':Own A e (fun b=>v.ownBlock=some b∨M0 b) w base v xs:=⟨⟨C,hr,dX.free hA ha⟩,fun b hb=> .inl hb⟩;exact h'.sl (fun b _ hn=>⟨fun h=>hn (.inr h),rfl⟩) hb hlen
end Go.K
namespace Go.K
open Go.Maps (Keyed)
section
variable {P:Program} {r:Option Nat} {n:Nat} {L:Sl} {ds:List Deferred} {w:World} {K:Kt} {ops:Array Oper} {rest:List Oper} {d:Nat} {x y z:Operand} {ty:TypeId} {pos:String} {af:Array Edge}
variable {kt:TypeId} {M:aD} {b clock:Nat} {es:List MapEntry}
theorem fB.UX (h:fB P kt w b es clock) {i s:Nat} {key v0 val:Value} (hi:es[i]? =some ⟨key,v0,s⟩) {w':World} (hw:w'.heap[b]? =some (.map (es.set i ⟨key,val,s⟩).toArray clock)):
  fB P kt w' b (es.set i ⟨key,val,s⟩) clock∧(es.set i ⟨key,val,s⟩).map (·.key)=es.map (·.key)∧∀zv jo v',ej zv (es.set i ⟨key,val,s⟩) jo v'↔(jo=key∧v'=val)∨(jo≠key∧ej zv es jo v'):=by
 have oK:=(ao.1 hi).1;have kq:(⟨key,v0,s⟩:MapEntry)∈es:=aA hi;obtain⟨pM,vJ⟩:∃pM,pM=es.set i ⟨key,val,s⟩:=⟨_,rfl⟩;rw[←vJ]at hw ⊢
 have iX:∀j e',pM[j]? =some e'→(j=i∧e'=⟨key,val,s⟩)∨(j≠i∧es[j]? =some e'):=fun j e' hj=>by
  rw[vJ,dp]at hj
  split at hj
  ·rename_i ji
   left;exact⟨ji.symm,by simpa[oK]using hj.symm⟩
  ·rename_i ji
   exact .inr ⟨fun e=>ji e.symm,hj⟩
 have pN:pM.map (·.key)=es.map (·.key):=by
  rw[vJ,List.map_set];apply eZ;intro j;rw[dp]
  split
  ·rename_i ji
   subst ji;have e:=(ao.1 hi).2;simp[oK,e]
  ·rfl
 have L6:pM.map (·.born)=es.map (·.born):=by
  rw[vJ,List.map_set];apply eZ;intro j;rw[dp]
  split
  ·rename_i ji
   subst ji;have e:=(ao.1 hi).2;simp[oK,e]
  ·rfl
 have eH:∀e'∈pM,(e'=⟨key,val,s⟩)∨(e'∈es∧e'.key≠key):=fun e' qB=>by
  obtain⟨j,hj⟩:=bB.1 qB;rcases iX j e' hj with⟨_,e⟩|⟨eK,tN⟩
  ·exact .inl e
  ·refine .inr ⟨aA tN,fun e=>eK ?_⟩;rcases fa j i with h1|h1|h1
   ·exact absurd e (ix h.keys tN hi h1)
   ·exact h1
   ·exact absurd e.symm (ix h.keys hi tN h1)
 have L7:(⟨key,val,s⟩:MapEntry)∈pM:=aA (i:=i) (by rw[vJ,dp];simp[oK])
 have hold:∀e'∈es,e'.key≠key→e'∈pM:=fun e' qB eK=>by
  obtain⟨j,hj⟩:=bB.1 qB;refine aA (i:=j) ?_;rw[vJ,dp,if_neg]
  ·exact hj
  ·rintro rfl;rw[hi]at hj;cases hj;exact eK rfl
 refine⟨⟨hw,?_,fun e' qB=>?_,?_,fun e' qB=>?_⟩,pN,fun zv jo v'=>?_⟩
 ·have:=cz.2 h.born;rw[←L6]at this;exact cz.1 this
 ·rcases eH e' qB with e|⟨h1,_⟩
  ·rw[e];exact(h.lt _ kq:s<clock)
  ·exact h.lt _ h1
 ·have:=cz.2 h.keys;rw[←pN]at this;exact cz.1 this
 ·rcases eH e' qB with e|⟨h1,_⟩
  ·rw[e];exact(h.ok _ kq:∃l,keyOf P kt key=some l)
  ·exact h.ok _ h1
 ·constructor
  ·rintro(⟨e',qB,hk,hv⟩|⟨h1,h2⟩)
   ·rcases eH e' qB with e|⟨h3,h4⟩
    ·subst e;exact .inl ⟨hk.symm,hv⟩
    ·exact .inr ⟨by rw[←hk];exact h4,.inl ⟨e',h3,hk,hv⟩⟩
   ·have eK:jo≠key:=fun e=>h1 _ L7 e.symm
    exact .inr ⟨eK,.inr ⟨fun e' qB=>fun e=>by
     by_cases h5:e'.key=key
     ·exact eK (e.symm.trans h5)
     ·exact h1 e' (hold e' qB h5) e,h2⟩⟩
  ·rintro(⟨rfl,rfl⟩|⟨eK,⟨e',qB,hk,hv⟩|⟨h1,h2⟩⟩)
   ·exact .inl ⟨_,L7,rfl,rfl⟩
   ·exact .inl ⟨e',hold e' qB (by rw[hk];exact eK),hk,hv⟩
   ·exact .inr ⟨fun e' qB=>by
     rcases eH e' qB with e|⟨h3,_⟩
     ·rw[e];exact fun e=>eK e.symm
     ·exact h1 e' h3,h2⟩
theorem ej.put {key val:Value} {s:Nat} (hn:∀e∈es,e.key≠key) (zv jo v':Value):ej zv (es++[⟨key,val,s⟩]) jo v'↔(jo=key∧v'=val)∨(jo≠key∧ej zv es jo v'):=by
 constructor
 ·rintro(⟨e,he,hk,hv⟩|⟨h1,h2⟩)
  ·rcases cp.1 he with he|he
   ·exact .inr ⟨by rw[←hk];exact hn e he,.inl ⟨e,he,hk,hv⟩⟩
   ·obtain rfl:=bJ.1 he;exact .inl ⟨hk.symm,hv⟩
  ·exact .inr ⟨fun e=>h1 ⟨key,val,s⟩ (by simp) e.symm,.inr ⟨fun e he=>h1 e (gu _ he),h2⟩⟩
 ·rintro(⟨rfl,rfl⟩|⟨eK,⟨e,he,hk,hv⟩|⟨h1,h2⟩⟩)
  ·exact .inl ⟨⟨_,_,s⟩,by simp,rfl,rfl⟩
  ·exact .inl ⟨e,gu _ he,hk,hv⟩
  ·refine .inr ⟨fun e he=>?_,h2⟩;rcases cp.1 he with he|he
   ·exact h1 e he
   ·obtain rfl:=bJ.1 he;exact fun e=>eK e.symm
theorem Rg.Qf {t e:TypeId} {key val:Value} {kl:Lit} (ht:P.underlying t=some (.map kt e)) (Kk:Keyed P kt) (hx:ev L x=some (.map (some b))) (hy:ev L y=some key) (hz:ev L z=some val) (lA:keyOf P kt key=some kl) (h:fB P kt w b es clock) (hm:M b)
  (k:∀w' pM Gn,fB P kt w' b pM Gn→((pM.map (·.key)=es.map (·.key)∧∃e∈es,e.key=key)∨(pM.map (·.key)=es.map (·.key)++[key]∧∀e∈es,e.key≠key))→(∀zv jo v',ej zv pM jo v'↔(jo=key∧v'=val)∨(jo≠key∧ej zv es jo v'))→Step M w M w' (fun k=>k=b)→Rg P r n ops rest L ds w' K):
  Rg P r n ops ({dst:=none,op:= .mapUpdate t x y z,type:=ty,pos,after:=af,guard:=none}::rest) L ds w K:=by
 have dR:=ak h.at_;rcases Kk.find w lA es h.ok with⟨h1,h2⟩|⟨j,e0,h1,h2,h3⟩
 ·have hw:({w with heap:=w.heap.setIfInBounds b (.map (es.toArray.push ⟨key,val,clock⟩) (clock+1))}:World).heap[b]? =some (.map (es++([⟨key,val,clock⟩]:List MapEntry)).toArray (clock+1)):=by
   simp[dx,dR]
  refine .Rm (fun _ h=>by cases h) rfl rfl _ (fun ρ hρ=>?_) (k _ _ _ (h.push lA h2 hw) (Or.inr ⟨by simp,h2⟩) (ej.put h2) (jm M hm));simp only[execOp,hρ x _ hx,hρ y _ hy,hρ z _ hz,Instr.mapUpdate,ck,run_underlying ht,cB,dN h.at_,Kk.check w false lA,h1,run_setObj_map h.at_];simp
 ·have he:e0∈es:=aA h2;obtain⟨k0,v0,s0⟩:=e0;simp only at h3;subst h3;have hj:es.toArray[j]? =some ⟨k0,v0,s0⟩:=by simpa using h2
  have L5:es.toArray.modify j (fun e=>{e with key:=k0,val:=val})=(es.set j ⟨k0,val,s0⟩).toArray:=by
   apply Array.ext_getElem?;intro i;rw[jH];simp only[il,dp]
   split
   ·rename_i RX
    subst RX;have:=(ao.1 h2).1;rw[h2];simp[this]
   ·rfl
  have hw:({w with heap:=w.heap.setIfInBounds b (.map (es.set j ⟨k0,val,s0⟩).toArray clock)}:World).heap[b]? =some (.map (es.set j ⟨k0,val,s0⟩).toArray clock):=by simp[dx,dR]
  obtain⟨hW,tL,A2⟩:=h.UX h2 hw
  have kD:(Instr.keyThatStays ((Option.map (fun(e:MapEntry)=>e.key) es.toArray[j]?).getD k0) k0).run P w= .ok k0 w:=by
   rw[hj];simp only[dd,Option.getD_some];exact Kk.stays w lA
  refine .Rm (fun _ h=>by cases h) rfl rfl _ (fun ρ hρ=>?_) (k _ _ clock hW (Or.inl ⟨tL,_,he,rfl⟩) A2 (jm M hm));simp only[execOp,hρ x _ hx,hρ y _ hy,hρ z _ hz,Instr.mapUpdate,ck,run_underlying ht,cB,dN h.at_,Kk.check w false lA,h1,kD,L5,run_setObj_map h.at_];simp
theorem Ea {t e:TypeId} {zv key:Value} {size bytes:Nat} {kl:Lit} (ht:P.underlying t=some (.map kt e)) (Kk:Keyed P kt) (hi:TI P e zv size bytes) (lA:keyOf P kt key=some kl) (h:fB P kt w b es clock):
  ∃v,ej zv es key v∧∀(w:World) (ρ:Operand→Value) (dst:Option Tmp) (gd:Option (Nat×Bool)),ρ x= .map (some b)→ρ y=key→fB P kt w b es clock→(execOp ρ {dst,op:= .lookup t x y false,type:=ty,pos,after:=af,guard:=gd}).run P w= .ok (.value v) w:=by
 rcases Kk.find w lA es h.ok with⟨h1,h2⟩|⟨j,e0,h1,h2,h3⟩
 ·refine⟨zv,Or.inr ⟨h2,rfl⟩,fun w ρ dst gd hx hy h=>?_⟩;obtain⟨inf,i1,i2,_,_⟩:=hi.get;have hz:(zeroValue e).run P w= .ok zv w:=by simp[zeroValue,typeInfo,i1,i2]
  rcases Kk.find w lA es h.ok with⟨h1,_⟩|⟨j,e0,_,g2,g3⟩
  ·simp only[execOp,hx,hy,Instr.lookup,ck,run_underlying ht,cB,dN h.at_,Sem.run_pure,Kk.check w _ lA,h1,hz];simp
  ·exact absurd g3 (h2 e0 (aA g2))
 ·refine⟨e0.val,Or.inl ⟨e0,aA h2,h3,rfl⟩,fun w ρ dst gd hx hy h=>?_⟩;rcases Kk.find w lA es h.ok with⟨_,g2⟩|⟨j',e1,g1,g2,g3⟩
  ·exact absurd h3 (g2 e0 (aA h2))
  ·have:e1=e0:=h.HU (aA g2) (aA h2) (g3.trans h3.symm);subst this;simp only[execOp,hx,hy,Instr.lookup,ck,run_underlying ht,cB,dN h.at_,Sem.run_pure,Kk.check w _ lA,g1];simp
theorem bX.tZ {N:aD} {t e:TypeId} {zv key:Value} {size bytes:Nat} {kl:Lit} {dst:Option Tmp} {gd:Option (Nat×Bool)} (ht:P.underlying t=some (.map kt e)) (Kk:Keyed P kt) (hi:TI P e zv size bytes) (hx:ev L x=some (.map (some b))) (hy:ev L y=some key) (lA:keyOf P kt key=some kl) (h:fB P kt w b es clock) (hn: ¬N b):
  bX P N w L {dst,op:= .lookup t x y false,type:=ty,pos,after:=af,guard:=gd}:=fun ρ hρ v w' hk hr=>by
 obtain⟨v0,_,gQ⟩:=Ea (x:=x) (y:=y) (ty:=ty) (pos:=pos) (af:=af) ht Kk hi lA h;have h':fB P kt w' b es clock:=⟨(hk.2 b (ak h.at_) hn).trans h.at_,h.born,h.lt,h.keys,h.ok⟩;rw[gQ w ρ dst gd (hρ x _ hx) (hρ y _ hy) h]at hr;rw[gQ w' ρ dst gd (hρ x _ hx) (hρ y _ hy) h'];injection hr with h1 h2
 rw[h1]
end
end Go.K
namespace Go.Proofs
open Go.Shelf
def Tryz.Be:Go.Shelf.Ren:=⟨fun|7=>54|10=>101|n=>n,fun|23=>89|26=>3|3=>97|28=>115|0=>0|27=>114|33=>104|4=>4|n=>n,fun|n=>n⟩
theorem Tryz.Zf:Go.Proofs.SlLaysZI.n7 Tryz.prog Tryz.Be:={
 mixed:=by kernel_rfl
 f7:=⟨Tryz.f54.name,by decide,Tryz.func54.trans (congrArg some (by kernel_rfl))⟩
 f10:=⟨Tryz.f101.name,by decide,Tryz.func101.trans (congrArg some (by kernel_rfl))⟩
 t0:=fD
 a0:=lB
 z0:=j6
 v0:=gG
 t4:=iO
 a4:=rO
 z4:=nW
 v4:=jv
 t23:=Tryz.underlying89
 a23:=Tryz.isAgg89
 z23:=Tryz.sizeOf89
 v23:=Tryz.zeroValue89
 t26:=ax
 a26:=lC
 z26:=j7
 v26:=gH
 t27:=Tryz.underlying114
 a27:=Tryz.isAgg114
 z27:=Tryz.sizeOf114
 v27:=Tryz.zeroValue114
 t28:=Tryz.underlying115
 a28:=Tryz.isAgg115
 z28:=Tryz.sizeOf115
 v28:=Tryz.zeroValue115
 t33:=Tryz.underlying104
 a33:=Tryz.isAgg104
 z33:=Tryz.sizeOf104
 v33:=Tryz.zeroValue104}
def Tryz.wV:Go.Shelf.Ren:=⟨fun|6=>53|8=>99|9=>100|11=>152|13=>115|12=>153|23=>172|24=>173|14=>204|15=>205|16=>206|17=>207|18=>208|19=>209|20=>210|21=>211|22=>212|25=>259|26=>218|27=>219|28=>260|29=>261|30=>116|31=>286|n=>n,fun|26=>3|28=>115|24=>37|0=>0|3=>3|37=>189|48=>257|50=>190|4=>4|40=>251|39=>250|45=>202|5=>5|9=>9|51=>296|55=>300|57=>327|58=>328|33=>104|n=>n,fun|n=>n⟩
theorem Tryz.Qg:Go.Proofs.SlLaysZI.n6 Tryz.prog Tryz.wV:={
 mixed:=by kernel_rfl
 f6:=⟨Tryz.f53.name,by decide,Tryz.func53.trans (congrArg some (by kernel_rfl))⟩
 f8:=⟨Tryz.f99.name,by decide,Tryz.func99.trans (congrArg some (by kernel_rfl))⟩
 f11:=⟨Tryz.f152.name,by decide,Tryz.func152.trans (congrArg some (by kernel_rfl))⟩
 t0:=fD
 a0:=lB
 z0:=j6
 v0:=gG
 t24:=an
 a24:=Tryz.isAgg37
 z24:=Tryz.sizeOf37
 v24:=Tryz.zeroValue37
 t26:=ax
 a26:=lC
 z26:=j7
 v26:=gH
 t28:=Tryz.underlying115
 a28:=Tryz.isAgg115
 z28:=Tryz.sizeOf115
 v28:=Tryz.zeroValue115
 i26:=by kernel_rfl}
def Tryz.Jt:Go.Shelf.Ren:=⟨fun|5=>100|8=>115|7=>153|19=>172|20=>173|10=>204|11=>205|12=>206|13=>207|14=>208|15=>209|16=>210|17=>211|18=>212|30=>259|31=>218|32=>219|33=>260|34=>261|35=>116|40=>286|n=>n,fun|23=>37|25=>3|3=>3|32=>189|22=>37|0=>0|44=>257|46=>190|4=>4|36=>251|35=>250|41=>202|5=>5|9=>9|53=>296|57=>300|63=>327|64=>328|n=>n,fun|n=>n⟩
theorem Tryz.R2:Go.Proofs.SlLaysM.n5 Tryz.prog Tryz.Jt:={
 mixed:=by kernel_rfl
 f5:=⟨Tryz.f100.name,by decide,Tryz.func100.trans (congrArg some (by kernel_rfl))⟩
 f7:=⟨Tryz.f153.name,by decide,Tryz.func153.trans (congrArg some (by kernel_rfl))⟩
 f8:=Tryz.func115.trans (congrArg some (by kernel_rfl))
 f10:=⟨Tryz.f204.name,by decide,Tryz.func204.trans (congrArg some (by kernel_rfl))⟩
 f11:=⟨Tryz.f205.name,by decide,Tryz.func205.trans (congrArg some (by kernel_rfl))⟩
 f12:=⟨Tryz.f206.name,by decide,Tryz.func206.trans (congrArg some (by kernel_rfl))⟩
 f13:=⟨Tryz.f207.name,by decide,Tryz.func207.trans (congrArg some (by kernel_rfl))⟩
 f14:=⟨Tryz.f208.name,by decide,Tryz.func208.trans (congrArg some (by kernel_rfl))⟩
 f15:=⟨Tryz.f209.name,by decide,Tryz.func209.trans (congrArg some (by kernel_rfl))⟩
 f16:=⟨Tryz.f210.name,by decide,Tryz.func210.trans (congrArg some (by kernel_rfl))⟩
 f17:=⟨Tryz.f211.name,by decide,Tryz.func211.trans (congrArg some (by kernel_rfl))⟩
 f18:=⟨Tryz.f212.name,by decide,Tryz.func212.trans (congrArg some (by kernel_rfl))⟩
 f19:=Tryz.func172.trans (congrArg some (by kernel_rfl))
 f20:=Tryz.func173.trans (congrArg some (by kernel_rfl))
 f30:=⟨Tryz.f259.name,by decide,Tryz.func259.trans (congrArg some (by kernel_rfl))⟩
 f31:=Tryz.func218.trans (congrArg some (by kernel_rfl))
 f32:=Tryz.func219.trans (congrArg some (by kernel_rfl))
 f33:=⟨Tryz.f260.name,by decide,Tryz.func260.trans (congrArg some (by kernel_rfl))⟩
 f34:=⟨Tryz.f261.name,by decide,Tryz.func261.trans (congrArg some (by kernel_rfl))⟩
 f35:=⟨Tryz.f116.name,by decide,Tryz.func116.trans (congrArg some (by kernel_rfl))⟩
 f40:=⟨Tryz.f286.name,by decide,Tryz.func286.trans (congrArg some (by kernel_rfl))⟩
 t0:=fD
 a0:=lB
 z0:=j6
 v0:=gG
 t3:=ax
 a3:=lC
 z3:=j7
 v3:=gH
 t4:=iO
 a4:=rO
 z4:=nW
 v4:=jv
 t5:=cx
 a5:=Tryz.isAgg5
 z5:=Tryz.sizeOf5
 v5:=tC
 t9:=aJ
 a9:=lD
 z9:=j8
 v9:=gI
 t22:=an
 a22:=Tryz.isAgg37
 z22:=Tryz.sizeOf37
 v22:=Tryz.zeroValue37
 t23:=an
 a23:=Tryz.isAgg37
 z23:=Tryz.sizeOf37
 v23:=Tryz.zeroValue37
 t25:=ax
 a25:=lC
 z25:=j7
 v25:=gH
 t32:=jQ
 a32:=Tryz.isAgg189
 z32:=Tryz.sizeOf189
 v32:=Tryz.zeroValue189
 t35:=Tryz.underlying250
 a35:=Tryz.isAgg250
 z35:=Tryz.sizeOf250
 v35:=Tryz.zeroValue250
 t36:=Tryz.underlying251
 a36:=Tryz.isAgg251
 z36:=Tryz.sizeOf251
 v36:=Tryz.zeroValue251
 t41:=Tryz.underlying202
 a41:=Tryz.isAgg202
 z41:=Tryz.sizeOf202
 v41:=Tryz.zeroValue202
 t44:=Tryz.underlying257
 a44:=Tryz.isAgg257
 z44:=Tryz.sizeOf257
 v44:=Tryz.zeroValue257
 t46:=sC
 a46:=Tryz.isAgg190
 z46:=Tryz.sizeOf190
 v46:=Tryz.zeroValue190
 t53:=Tryz.underlying296
 a53:=Tryz.isAgg296
 z53:=Tryz.sizeOf296
 v53:=Tryz.zeroValue296
 t57:=Tryz.underlying300
 a57:=Tryz.isAgg300
 z57:=Tryz.sizeOf300
 v57:=Tryz.zeroValue300
 t63:=Tryz.underlying327
 a63:=Tryz.isAgg327
 z63:=Tryz.sizeOf327
 v63:=Tryz.zeroValue327
 t64:=Tryz.underlying328
 a64:=Tryz.isAgg328
 z64:=Tryz.sizeOf328
 v64:=Tryz.zeroValue328}
def Tryz.Bf:Go.Shelf.Ren:=⟨fun|7=>91|10=>142|n=>n,fun|23=>151|26=>9|3=>80|28=>162|0=>0|27=>161|33=>167|4=>4|n=>n,fun|n=>n⟩
theorem Tryz.H5:Go.Proofs.SlLaysZ.n7 Tryz.prog Tryz.Bf:={
 mixed:=by kernel_rfl
 f7:=⟨Tryz.f91.name,by decide,Tryz.func91.trans (congrArg some (by kernel_rfl))⟩
 f10:=⟨Tryz.f142.name,by decide,Tryz.func142.trans (congrArg some (by kernel_rfl))⟩
 t0:=fD
 a0:=lB
 z0:=j6
 v0:=gG
 t4:=iO
 a4:=rO
 z4:=nW
 v4:=jv
 t23:=iG
 a23:=Tryz.isAgg151
 z23:=Tryz.sizeOf151
 v23:=Tryz.zeroValue151
 t26:=aJ
 a26:=lD
 z26:=j8
 v26:=gI
 t27:=Tryz.underlying161
 a27:=Tryz.isAgg161
 z27:=Tryz.sizeOf161
 v27:=Tryz.zeroValue161
 t28:=Tryz.underlying162
 a28:=Tryz.isAgg162
 z28:=Tryz.sizeOf162
 v28:=Tryz.zeroValue162
 t33:=Tryz.underlying167
 a33:=Tryz.isAgg167
 z33:=Tryz.sizeOf167
 v33:=Tryz.zeroValue167}
def Tryz.wW:Go.Shelf.Ren:=⟨fun|6=>90|8=>140|9=>141|11=>191|13=>115|12=>192|23=>172|24=>173|14=>240|15=>241|16=>242|17=>243|18=>244|19=>245|20=>246|21=>247|22=>248|25=>280|26=>218|27=>219|28=>281|29=>282|30=>283|31=>297|n=>n,fun|26=>9|28=>162|24=>57|0=>0|3=>3|37=>189|48=>257|50=>190|4=>4|40=>251|39=>250|45=>202|5=>5|9=>9|51=>296|55=>300|57=>327|58=>328|33=>167|n=>n,fun|n=>n⟩
theorem Tryz.Qh:Go.Proofs.SlLaysZ.n6 Tryz.prog Tryz.wW:={
 mixed:=by kernel_rfl
 f6:=⟨Tryz.f90.name,by decide,Tryz.func90.trans (congrArg some (by kernel_rfl))⟩
 f8:=⟨Tryz.f140.name,by decide,Tryz.func140.trans (congrArg some (by kernel_rfl))⟩
 f11:=⟨Tryz.f191.name,by decide,Tryz.func191.trans (congrArg some (by kernel_rfl))⟩
 t0:=fD
 a0:=lB
 z0:=j6
 v0:=gG
 t24:=aI
 a24:=Tryz.isAgg57
 z24:=Tryz.sizeOf57
 v24:=Tryz.zeroValue57
 t26:=aJ
 a26:=lD
 z26:=j8
 v26:=gI
 t28:=Tryz.underlying162
 a28:=Tryz.isAgg162
 z28:=Tryz.sizeOf162
 v28:=Tryz.zeroValue162
 i26:=by kernel_rfl}
def Tryz.Ju:Go.Shelf.Ren:=⟨fun|6=>141|8=>115|9=>192|19=>172|20=>173|21=>240|22=>241|23=>242|24=>243|25=>244|26=>245|27=>246|28=>247|29=>248|36=>280|31=>218|32=>219|37=>281|38=>282|39=>283|41=>297|n=>n,fun|27=>57|29=>9|3=>3|32=>189|26=>57|0=>0|44=>257|46=>190|4=>4|36=>251|35=>250|41=>202|5=>5|9=>9|53=>296|57=>300|63=>327|64=>328|n=>n,fun|n=>n⟩
theorem Tryz.H6:Go.Proofs.SlLaysM.n6 Tryz.prog Tryz.Ju:={
 mixed:=by kernel_rfl
 f6:=⟨Tryz.f141.name,by decide,Tryz.func141.trans (congrArg some (by kernel_rfl))⟩
 f8:=Tryz.func115.trans (congrArg some (by kernel_rfl))
 f9:=⟨Tryz.f192.name,by decide,Tryz.func192.trans (congrArg some (by kernel_rfl))⟩
 f19:=Tryz.func172.trans (congrArg some (by kernel_rfl))
 f20:=Tryz.func173.trans (congrArg some (by kernel_rfl))
 f21:=⟨Tryz.f240.name,by decide,Tryz.func240.trans (congrArg some (by kernel_rfl))⟩
 f22:=⟨Tryz.f241.name,by decide,Tryz.func241.trans (congrArg some (by kernel_rfl))⟩
 f23:=⟨Tryz.f242.name,by decide,Tryz.func242.trans (congrArg some (by kernel_rfl))⟩
 f24:=⟨Tryz.f243.name,by decide,Tryz.func243.trans (congrArg some (by kernel_rfl))⟩
 f25:=⟨Tryz.f244.name,by decide,Tryz.func244.trans (congrArg some (by kernel_rfl))⟩
 f26:=⟨Tryz.f245.name,by decide,Tryz.func245.trans (congrArg some (by kernel_rfl))⟩
 f27:=⟨Tryz.f246.name,by decide,Tryz.func246.trans (congrArg some (by kernel_rfl))⟩
 f28:=⟨Tryz.f247.name,by decide,Tryz.func247.trans (congrArg some (by kernel_rfl))⟩
 f29:=⟨Tryz.f248.name,by decide,Tryz.func248.trans (congrArg some (by kernel_rfl))⟩
 f31:=Tryz.func218.trans (congrArg some (by kernel_rfl))
 f32:=Tryz.func219.trans (congrArg some (by kernel_rfl))
 f36:=⟨Tryz.f280.name,by decide,Tryz.func280.trans (congrArg some (by kernel_rfl))⟩
 f37:=⟨Tryz.f281.name,by decide,Tryz.func281.trans (congrArg some (by kernel_rfl))⟩
 f38:=⟨Tryz.f282.name,by decide,Tryz.func282.trans (congrArg some (by kernel_rfl))⟩
 f39:=⟨Tryz.f283.name,by decide,Tryz.func283.trans (congrArg some (by kernel_rfl))⟩
 f41:=⟨Tryz.f297.name,by decide,Tryz.func297.trans (congrArg some (by kernel_rfl))⟩
 t0:=fD
 a0:=lB
 z0:=j6
 v0:=gG
 t3:=ax
 a3:=lC
 z3:=j7
 v3:=gH
 t4:=iO
 a4:=rO
 z4:=nW
 v4:=jv
 t5:=cx
 a5:=Tryz.isAgg5
 z5:=Tryz.sizeOf5
 v5:=tC
 t9:=aJ
 a9:=lD
 z9:=j8
 v9:=gI
 t26:=aI
 a26:=Tryz.isAgg57
 z26:=Tryz.sizeOf57
 v26:=Tryz.zeroValue57
 t27:=aI
 a27:=Tryz.isAgg57
 z27:=Tryz.sizeOf57
 v27:=Tryz.zeroValue57
 t29:=aJ
 a29:=lD
 z29:=j8
 v29:=gI
 t32:=jQ
 a32:=Tryz.isAgg189
 z32:=Tryz.sizeOf189
 v32:=Tryz.zeroValue189
 t35:=Tryz.underlying250
 a35:=Tryz.isAgg250
 z35:=Tryz.sizeOf250
 v35:=Tryz.zeroValue250
 t36:=Tryz.underlying251
 a36:=Tryz.isAgg251
 z36:=Tryz.sizeOf251
 v36:=Tryz.zeroValue251
 t41:=Tryz.underlying202
 a41:=Tryz.isAgg202
 z41:=Tryz.sizeOf202
 v41:=Tryz.zeroValue202
 t44:=Tryz.underlying257
 a44:=Tryz.isAgg257
 z44:=Tryz.sizeOf257
 v44:=Tryz.zeroValue257
 t46:=sC
 a46:=Tryz.isAgg190
 z46:=Tryz.sizeOf190
 v46:=Tryz.zeroValue190
 t53:=Tryz.underlying296
 a53:=Tryz.isAgg296
 z53:=Tryz.sizeOf296
 v53:=Tryz.zeroValue296
 t57:=Tryz.underlying300
 a57:=Tryz.isAgg300
 z57:=Tryz.sizeOf300
 v57:=Tryz.zeroValue300
 t63:=Tryz.underlying327
 a63:=Tryz.isAgg327
 z63:=Tryz.sizeOf327
 v63:=Tryz.zeroValue327
 t64:=Tryz.underlying328
 a64:=Tryz.isAgg328
 z64:=Tryz.sizeOf328
 v64:=Tryz.zeroValue328}
end Go.Proofs
namespace Go.K
open Go.Proofs
set_option maxRecDepth 10000
open Go.RowKit Go.Maps Go.Sort Go.Shelf
theorem UY (m:Nat):AnyZI.SortsIn Tryz.prog Tryz.wV Fence.wide m:=
 ⟨fun fz off cap ss W hH hblk jT=>callsIn_wide.2 (AnyM.slices_Sort_int Tryz.R2 fz off cap ss W hH hblk jT),
  fun p cap W=>callsIn_wide.2 (AnyM.slices_Sort_int_none Tryz.R2 p cap W)⟩
theorem Qi {R:Value→Option (DU×List MemPlace)} {M:aD} {w:World} {b bb:Nat} {m:List (Lit×DU)} (h:TU Tryz.prog 3 R M w b m) (Mu:w.cell? ⟨bb,0,none⟩=some (.map (some b))) (hl:m.length≤1099511627776):
  Spec Tryz.prog 53 #[.func (.func 101) #[] #[.pointer (some ⟨bb,0,none⟩)]] w (fun v w'=>(∃ss:List Int,ss.Perm (intKeys (DataW.map m))∧w'.ownsRow w.heap.size 3 1 v ss.length ((ss.mergeSort (fun x y=>decide (x≤y))).map encZ)∧(v= .slice none 0 0↔ss=[]))∧Step M w M w' aC):=by
 have UZ:SeqGives Fence.wide 2 Tryz.prog 101 #[.pointer (some ⟨bb,0,none⟩)] encZ (fun ss=>ss.Perm (intKeys (DataW.map m))) (Maps.size (DataW.map m)) w:=
  AnyZI.keys_gives (ρ:=Tryz.Be) {Tryz.Zf with} Fence.wide _ trivial rfl (by omega) bb b m.length (DataW.map m) _ (World.block_lt_of_cell? w _ Mu) Mu h.own
 have jT:Maps.size (DataW.map m)=m.length:=rfl;have cS:=AnyZI.sorted_in Tryz.Qg Fence.wide 5 trivial trivial trivial trivial rfl (by omega) (UY _) (enters_of Tryz.func100 (by kernel_rfl) rfl) 101 #[.pointer (some ⟨bb,0,none⟩)] trivial (enters_of Tryz.func101 (by kernel_rfl) rfl) _ _ (by rw[jT];unfold maxLen;omega) (by rw[jT];omega) _ UZ;exact(callsIn_wide (n:=5)).1 (cS.mono fun e w' ⟨v,ss,h1,h2,h3,h4,h5⟩=>⟨v,h1,⟨ss,h2,h3,h4⟩,.yw h5 M⟩)
theorem U0 (m:Nat):AnyZ.SortsIn Tryz.prog Tryz.wW Fence.wide m:=
 ⟨fun fz off cap ss W hH hblk jT=>callsIn_wide.2 (AnyM.slices_Sort_string Tryz.H6 fz off cap ss W hH hblk jT),
  fun p cap W=>callsIn_wide.2 (AnyM.slices_Sort_string_none Tryz.H6 p cap W)⟩
theorem GD (mb:Option Nat) (w:World):Spec Tryz.prog 91 #[.map mb] w (fun v w'=>v= .func (.func 142) #[] #[.pointer (some ⟨w.heap.size,0,none⟩)]∧w'=w.alloc (.cells #[.map mb] 151)):=
 (callsIn_wide (n:=5)).1 ((AnyZ.keys_in Tryz.H5 Fence.wide 5 trivial rfl mb w).mono fun e w' ⟨h1,h2⟩=>⟨_,h1,rfl,h2⟩)
theorem Cg {R:Value→Option (DU×List MemPlace)} {M:aD} {w:World} {b bb:Nat} {m:List (Lit×DU)} (h:TU Tryz.prog 9 R M w b m) (Mu:w.cell? ⟨bb,0,none⟩=some (.map (some b))) (hl:m.length≤1099511627776):
  Spec Tryz.prog 90 #[.func (.func 142) #[] #[.pointer (some ⟨bb,0,none⟩)]] w (fun v w'=>(∃ss:List (List UInt8),ss.Perm (strKeys (DataW.map m))∧w'.ownsRow w.heap.size 9 1 v ss.length ((ss.mergeSort (fun x y=>decide (x≤y))).map encStr)∧(v= .slice none 0 0↔ss=[]))∧Step M w M w' aC):=by
 have UZ:SeqGives Fence.wide 2 Tryz.prog 142 #[.pointer (some ⟨bb,0,none⟩)] encStr (fun ss=>ss.Perm (strKeys (DataW.map m))) (Maps.size (DataW.map m)) w:=
  AnyZ.keys_gives (ρ:=Tryz.Bf) {Tryz.H5 with} Fence.wide _ trivial rfl (by omega) bb b m.length (DataW.map m) _ (World.block_lt_of_cell? w _ Mu) Mu h.own
 have jT:Maps.size (DataW.map m)=m.length:=rfl;have cS:=AnyZ.sorted_in Tryz.Qh Fence.wide 5 trivial trivial trivial trivial rfl (by omega) (U0 _) (enters_of Tryz.func141 (by kernel_rfl) rfl) 142 #[.pointer (some ⟨bb,0,none⟩)] trivial (enters_of Tryz.func142 (by kernel_rfl) rfl) _ _ (by rw[jT];unfold maxLen;omega) (by rw[jT];omega) _ UZ;exact(callsIn_wide (n:=5)).1 (cS.mono fun e w' ⟨v,ss,h1,h2,h3,h4,h5⟩=>⟨v,h1,⟨ss,h2,h3,h4⟩,.yw h5 M⟩)
theorem Aw {w w':World} {v:Value} {t:TypeId} (h:w'=w.alloc (.cells #[v] t)):w'.cell? ⟨w.heap.size,0,none⟩=some v:=by
 subst h;exact fG (cg w _) rfl
end Go.K
namespace Go.K
open Go.Proofs
set_option maxRecDepth 10000
theorem Qj {M:aD} {w0:World} {v:Value} {b:List Fd} (hM:Lt M w0) (hv:(RT.fd.sl).V M w0 b v) (k3:b.length≤1099511627776):
  Spec Tryz.prog 190 #[v] w0 (fun v' w'=>(RT.fd.sl).V M w' b v'∧Step M w0 M w' aC):=by
 obtain⟨a,cap,lP,hc,hl,hs⟩:=iD.1 hv;refine bc (args:=[_]) (fn:=Tryz.f190) Tryz.func190 rfl (n:=8) Tryz.ntmps190 (aj (ae (ah rfl rfl (ab (aj (aj (ae (ad rfl rfl (aV (v':= .slice a b.length cap) lP (Rg.tP bu rfl rfl rfl (ab ?_)))))))))));refine bN rfl (fun c1=>?_) (fun c1=>?_)
 ·refine aj (ae (ah rfl rfl (ab (aO ?_))))
  have hb:b=[]:=by
   rcases hs with h|⟨_,_,h,_⟩
   ·exact h
   ·rw[c1]at h;cases h
  exact aS rfl rfl ⟨by rw[hb];exact pE,aw _ _⟩
 ·refine aU (aj (ae ?_));refine Rg.sl0 bu kE M rfl (fun a0 w1 s1=>?_);refine ad rfl rfl ?_;refine Rg.qW (A:=RT.fd) (hn:=by decide) (M:=M) bu kE rfl rfl rfl rfl hv s1.le (s1.lt hM) (by omega) (fun u2 w2 rT s2=>?_);refine ah rfl rfl (ab (aO ?_));exact aS rfl rfl ⟨rT,s1.aB s2⟩
theorem qG {M:aD} {w0:World} {v:Value} {b:List Int} (hM:Lt M w0) (hv:((RT.int .i64).sl).V M w0 b v) (k3:b.length≤1099511627776):
  Spec Tryz.prog 51 #[v] w0 (fun v' w'=>((RT.int .i64).sl).V M w' b v'∧Step M w0 M w' aC):=by
 obtain⟨a,cap,lP,hc,hl,hs⟩:=iD.1 hv;refine bc (args:=[_]) (fn:=Tryz.f51) Tryz.func51 rfl (n:=8) Tryz.ntmps51 (aj (ae (ah rfl rfl (ab (aj (aj (ae (ad rfl rfl (aV (v':= .slice a b.length cap) lP (Rg.tP an rfl rfl rfl (ab ?_)))))))))));refine bN rfl (fun c1=>?_) (fun c1=>?_)
 ·refine aj (ae (ah rfl rfl (ab (aO ?_))))
  have hb:b=[]:=by
   rcases hs with h|⟨_,_,h,_⟩
   ·exact h
   ·rw[c1]at h;cases h
  exact aS rfl rfl ⟨by rw[hb];exact pE,aw _ _⟩
 ·refine aU (aj (ae ?_));refine Rg.sl0 an I3 M rfl (fun a0 w1 s1=>?_);refine ad rfl rfl ?_;refine Rg.qW (A:=(RT.int .i64)) (hn:=by decide) (M:=M) an I3 rfl rfl rfl rfl hv s1.le (s1.lt hM) (by omega) (fun u2 w2 rT s2=>?_);refine ah rfl rfl (ab (aO ?_));exact aS rfl rfl ⟨rT,s1.aB s2⟩
theorem Mv {M:aD} {w0:World} {v:Value} {b:List (List UInt8)} (hM:Lt M w0) (hv:(RT.str.sl).V M w0 b v) (k3:b.length≤1099511627776):
  Spec Tryz.prog 199 #[v] w0 (fun v' w'=>(RT.str.sl).V M w' b v'∧Step M w0 M w' aC):=by
 obtain⟨a,cap,lP,hc,hl,hs⟩:=iD.1 hv;refine bc (args:=[_]) (fn:=Tryz.f199) Tryz.func199 rfl (n:=8) Tryz.ntmps199 (aj (ae (ah rfl rfl (ab (aj (aj (ae (ad rfl rfl (aV (v':= .slice a b.length cap) lP (Rg.tP aI rfl rfl rfl (ab ?_)))))))))));refine bN rfl (fun c1=>?_) (fun c1=>?_)
 ·refine aj (ae (ah rfl rfl (ab (aO ?_))))
  have hb:b=[]:=by
   rcases hs with h|⟨_,_,h,_⟩
   ·exact h
   ·rw[c1]at h;cases h
  exact aS rfl rfl ⟨by rw[hb];exact pE,aw _ _⟩
 ·refine aU (aj (ae ?_));refine Rg.sl0 aI I9 M rfl (fun a0 w1 s1=>?_);refine ad rfl rfl ?_;refine Rg.qW (A:=RT.str) (hn:=by decide) (M:=M) aI I9 rfl rfl rfl rfl hv s1.le (s1.lt hM) (by omega) (fun u2 w2 rT s2=>?_);refine ah rfl rfl (ab (aO ?_));exact aS rfl rfl ⟨rT,s1.aB s2⟩
theorem Qk {M:aD} {w0:World} {v:Value} {b:List Li} (hM:Lt M w0) (hv:(((RT.li).ptr).sl).V M w0 b v) (k3:b.length≤1099511627776):
  Spec Tryz.prog 200 #[v] w0 (fun v' w'=>(((RT.li).ptr).sl).V M w' b v'∧Step M w0 M w' aC):=by
 obtain⟨a,cap,lP,hc,hl,hs⟩:=iD.1 hv;refine bc (args:=[_]) (fn:=Tryz.f200) Tryz.func200 rfl (n:=8) Tryz.ntmps200 (aj (ae (ah rfl rfl (ab (aj (aj (ae (ad rfl rfl (aV (v':= .slice a b.length cap) lP (Rg.tP dZ rfl rfl rfl (ab ?_)))))))))));refine bN rfl (fun c1=>?_) (fun c1=>?_)
 ·refine aj (ae (ah rfl rfl (ab (aO ?_))))
  have hb:b=[]:=by
   rcases hs with h|⟨_,_,h,_⟩
   ·exact h
   ·rw[c1]at h;cases h
  exact aS rfl rfl ⟨by rw[hb];exact pE,aw _ _⟩
 ·refine aU (aj (ae ?_));refine Rg.sl0 dZ Am M rfl (fun a0 w1 s1=>?_);refine ad rfl rfl ?_;refine Rg.qW (A:=((RT.li).ptr)) (hn:=by decide) (M:=M) dZ Am rfl rfl rfl rfl hv s1.le (s1.lt hM) (by omega) (fun u2 w2 rT s2=>?_);refine ah rfl rfl (ab (aO ?_));exact aS rfl rfl ⟨rT,s1.aB s2⟩
theorem Eb {M:aD} {d:Dc} {v0:Value} (w0:World) (hM:Lt M w0) (hv:RT.dc.V M w0 d v0) (hl:d.2.length≤1099511627776):
  Spec Tryz.prog 138 #[v0] w0 (fun v w=>RT.dc.V M w d v∧Step M w0 M w aC):=by
 have jM:=hM;refine bc (args:=[_]) (fn:=Tryz.f138) Tryz.func138 rfl (n:=9) Tryz.ntmps138 ?_;have S:Step M w0 M w0 aC:=(aw _ _).cA (fun _ h=>h.elim) (fun _ h=>h.elim);refine aj (ae ?_);refine qc (A:=RT.dc) rfl rfl hM hv rfl (fun u0 w1 dn s0 _=>?_);replace hM:=s0.lt hM;have:=S.size;replace S:=S.aB s0;refine dP M o5 rfl (fun pg Gj UB UC fU nG=>?_);obtain⟨fj,mE⟩:∃M',M'=ins M pg:=⟨_,rfl⟩;rw[←mE]at nG;have eW:fj pg:=by rw[mE];exact .inl rfl
 change Gj.heap[pg]? =some (.cells #[.int .i64 0,.slice none 0 0] _ _)at fU;replace dn:=dn.le (by decide) nG.le;replace hM:=nG.lt hM;have:=S.size;replace S:=S.aB nG;refine ab (aj ?_);apply T.pJ 4 [0,1] 1 aC mixed rfl rfl rfl rfl;intro Fv Lv;have lY:=Lv fj;have:=ak fU;replace eW:=(lY.mem _ this).2 eW;replace fU:=lY.aK fU;replace dn:=dn.le (by decide) lY.le;replace hM:=lY.lt hM;have:=S.size;replace S:=S.aB lY;refine aN (M:=fj) (A:=RT.dc) (B:=RT.int .i64) bg rfl rfl I3 (by decide) (YJ) rfl rfl (by decide) (by assumption) (by repeat (first|exact aq _ _|refine a8 (bD (by assumption)) ?_)) (fun B6 ni=>?_);refine ab ⟨rfl,rfl,rfl,?_⟩;refine cb (M:=fj) ax rfl rfl (by assumption) (by repeat (first|exact aq _ _|refine a8 (bD (by assumption)) ?_)) (fun RR=>?_);refine ab ⟨rfl,rfl,rfl,?_⟩;refine aN (M:=fj) (A:=RT.dc) (B:=(RT.fd).sl) bg rfl rfl vE (by decide) (Jd) rfl rfl (by decide) (by assumption) (by repeat (first|exact aq _ _|refine a8 (bD (by assumption)) ?_)) (fun GF oz=>?_);refine ab ⟨rfl,rfl,rfl,?_⟩;refine bT (M:=fj) bu rfl rfl rfl rfl rfl (by assumption) (by repeat (first|exact aq _ _|refine a8 (bD (by assumption)) ?_)) (fun afh R3=>?_);refine ab ⟨rfl,rfl,rfl,?_⟩;refine ew ?_;obtain⟨bb,oo,cs,ee,fr,rfl,k9,_⟩:=ni.float;refine⟨iB ⟨iz bg rfl I3 (by decide),⟨ey rfl k9 (fun h=>h),trivial⟩⟩,?_⟩;have kp:=jF aC Fv;refine aX rfl rfl adH (Qj hM R3 hl) (fun v4 w4 hc=>?_);obtain⟨qf,s4⟩:=hc;have:=ak fU;replace eW:=(s4.mem _ this).2 eW;replace fU:=s4.aK fU;replace dn:=dn.le (by decide) s4.le;replace hM:=s4.lt hM;have:=S.size;replace S:=S.aB s4;refine(fun(kp:eF _ _ _)=>ab ⟨rfl,rfl,fun _=>kp,?_⟩) (by first|exact kp|exact kp.rB (by assumption)|exact kp.goN (by assumption)|exact kp.go (by assumption) (fun _ _ h=>by first|exact h|exact h.elim))
 refine iC (places:=[(0,1),(1,1)]) bg o5 B69 rfl ⟨_,_,rfl,rfl,_,_,rfl,rfl,rfl⟩ (out:=[_,_]) ⟨0,[_],rfl,rfl,by simp[Value.cells],1,[_],rfl,ju qf,by simp[Value.cells],rfl⟩ ?_;refine ab ⟨rfl,rfl,fun h=>absurd rfl h,?_⟩;have hd:RT.dc.V fj w4 d (.agg [.int .i64 d.1,v4].toArray):=eS (fV RR) qf rfl rfl rfl rfl;refine dC (M:=fj) (vs:=[.int .i64 d.1,v4]) o5 rfl rfl (vN rfl hd) rfl rfl fU eW (fun w6 g6 s6=>?_);have:=ak fU;replace eW:=(s6.mem _ this).2 eW;replace dn:=dn.le (by decide) s6.le;replace qf:=qf.le s6.le;replace hd:=hd.le s6.le;replace hM:=s6.lt hM;have:=S.size;replace S:=S.trans s6 (fun k hk h=>by have h:_=_:=h;subst h;first|(exfalso;omega)|(show _≤_;omega)|exact⟨by first|omega|assumption,(S.mem _ hk).1 ((s6.mem _ (ak fU)).1 eW)⟩|exact .inl rfl|exact .inr rfl|exact .inr (.inl rfl)|exact .inr (.inr rfl)|exact .inr (.inr (.inl rfl))|exact rfl);have Ec:=g6;clear fU;have fU:=Ec;clear Ec;refine ab ⟨rfl,rfl,fun h=>absurd rfl h,?_⟩;refine mN (aO ?_);exact BQ (vs:=[.int .i64 d.1,v4]) rfl rfl bg rfl o5 rfl fU ⟨hd.le (Le.close jM S),S.back⟩
theorem Mw {M:aD} {e:En} {v0:Value} (w0:World) (hM:Lt M w0) (hv:RT.en.V M w0 e v0) (hl:e.1.2.length≤1099511627776):
  Spec Tryz.prog 88 #[v0] w0 (fun v w=>RT.en.V M w e v∧Step M w0 M w aC):=by
 have jM:=hM;refine bc (args:=[_]) (fn:=Tryz.f88) Tryz.func88 rfl (n:=9) Tryz.ntmps88 ?_;have S:Step M w0 M w0 aC:=(aw _ _).cA (fun _ h=>h.elim) (fun _ h=>h.elim);refine aj (ae ?_);refine qc (A:=RT.en) rfl rfl hM hv rfl (fun u0 w1 dn s0 _=>?_);replace hM:=s0.lt hM;have:=S.size;replace S:=S.aB s0;refine dP M HK rfl (fun pg Gj UB UC fU nG=>?_);obtain⟨fj,mE⟩:∃M',M'=ins M pg:=⟨_,rfl⟩;rw[←mE]at nG;have eW:fj pg:=by rw[mE];exact .inl rfl
 change Gj.heap[pg]? =some (.cells #[.int .i64 0,.slice none 0 0,.int .i64 0] _ _)at fU;replace dn:=dn.le (by decide) nG.le;replace hM:=nG.lt hM;have:=S.size;replace S:=S.aB nG;refine ab (aj ?_);apply T.KS [0,1,3,4,2,5,6] 4 [2,3] 1 aC mixed
 ·simp+decide only[yj,sN,eQ,j5,je,jf,fq,dd,ie,qd,cond_true,cond_false,Nat.reduceBEq,Nat.reduceAdd,beq_self_eq_true];rfl
 ·rfl
 ·rfl
 ·rfl
 ·rfl
 ·rfl
 ·rfl
 intro Fv Lv;have lY:=Lv fj;have:=ak fU;replace eW:=(lY.mem _ this).2 eW;replace fU:=lY.aK fU;replace dn:=dn.le (by decide) lY.le;replace hM:=lY.lt hM;have:=S.size;replace S:=S.aB lY;refine aN (M:=fj) (A:=RT.en) (B:=RT.dc) dW rfl rfl o5 (by decide) YK rfl rfl (by decide) dn (aq _ _) (fun B6 ni=>?_);refine ab ⟨rfl,rfl,rfl,?_⟩;refine cX (M:=fj) (A:=RT.dc) bg rfl o5 (by decide) rfl rfl rfl ni (aq _ _) (fun Ar nj=>?_);refine ab ⟨rfl,rfl,rfl,?_⟩;refine aN (M:=fj) (A:=RT.en) (B:=RT.int .i64) dW rfl rfl I3 (by decide) en1 rfl rfl (by decide) dn (aq _ _) (fun GF oz=>?_);refine ab ⟨rfl,rfl,rfl,?_⟩;refine cb (M:=fj) ax rfl rfl (by assumption) (by repeat (first|exact aq _ _|refine a8 (bD (by assumption)) ?_)) (fun Mx=>?_);refine aV (v':= .int .i64 (e.2)) rfl ?_;replace Mx: -9223372036854775808≤(e.2:Int)∧e.2≤9223372036854775807:=Mx;refine ab ⟨rfl,rfl,rfl,?_⟩;refine ew ?_;obtain⟨bb,oo,cs,ee,fr,rfl,k9,_⟩:=oz.float;refine⟨iB ⟨iz dW rfl I3 (by decide),⟨ey rfl k9 (fun h=>h),trivial⟩⟩,?_⟩;have kp:=jF aC Fv;refine aX rfl rfl adz (Eb _ hM nj hl) (fun v4 w4 hc=>?_);obtain⟨qf,s4⟩:=hc;obtain⟨uf,rfl⟩:=LG qf;have:=ak fU;replace eW:=(s4.mem _ this).2 eW;replace fU:=s4.aK fU;replace dn:=dn.le (by decide) s4.le;replace hM:=s4.lt hM;have:=S.size;replace S:=S.aB s4;refine(fun(kp:eF _ _ _)=>ab ⟨rfl,rfl,fun _=>kp,?_⟩) (by first|exact kp|exact kp.rB (by assumption)|exact kp.goN (by assumption)|exact kp.go (by assumption) (fun _ _ h=>by first|exact h|exact h.elim));refine iC (places:=[(0,2),(2,1)]) dW HK B71 rfl ⟨_,_,rfl,rfl,_,_,rfl,rfl,rfl⟩ (out:=[_,_,_]) ⟨0,[_,_],rfl,rfl,by simp[Value.cells],2,[_],rfl,rfl,by simp[Value.cells],rfl⟩ ?_
 refine ab ⟨rfl,rfl,fun h=>absurd rfl h,?_⟩;have hd:RT.en.V fj w4 e (.agg [.int .i64 e.1.1,uf,.int .i64 e.2].toArray):=RI (p:=e.1) qf Mx;refine dC (M:=fj) (vs:=[.int .i64 e.1.1,uf,.int .i64 e.2]) HK rfl rfl (vN rfl hd) rfl rfl fU eW (fun w6 g6 s6=>?_);have:=ak fU;replace eW:=(s6.mem _ this).2 eW;replace dn:=dn.le (by decide) s6.le;replace qf:=qf.le s6.le;replace hd:=hd.le s6.le;replace hM:=s6.lt hM;have:=S.size;replace S:=S.trans s6 (fun k hk h=>by have h:_=_:=h;subst h;first|(exfalso;omega)|(show _≤_;omega)|exact⟨by first|omega|assumption,(S.mem _ hk).1 ((s6.mem _ (ak fU)).1 eW)⟩|exact .inl rfl|exact .inr rfl|exact .inr (.inl rfl)|exact .inr (.inr rfl)|exact .inr (.inr (.inl rfl))|exact rfl);have Ec:=g6;clear fU;have fU:=Ec;clear Ec;refine ab ⟨rfl,rfl,fun h=>absurd rfl h,?_⟩;refine mN (aO ?_);exact BQ (vs:=[.int .i64 e.1.1,uf,.int .i64 e.2]) rfl rfl dW rfl HK rfl fU ⟨hd.le (Le.close jM S),S.back⟩
end Go.K
namespace Go.K
open Go.Proofs
namespace TKBldB
theorem Zg:TI Tryz.prog 217 (.map none) 1 8:=by unfold TI;kernel_rfl
theorem afi:Enters Tryz.prog 133:=enters Tryz.func133 rfl (by decide)
theorem afj:Enters Tryz.prog 134:=enters Tryz.func134 rfl (by decide)
theorem afk:Enters Tryz.prog 135:=enters Tryz.func135 rfl (by decide)
end TKBldB
open TKBldB
set_option maxRecDepth 10000
theorem IJ.aP {bt mb B:Nat} {ts:List (Fd×Nat)} {M M':aD} {w w':World} (h:IJ bt mb B ts M w) (s:Step M w M' w' aC):IJ bt mb B ts M' w':=by
 obtain⟨gb,ef,eX,hB,H0,es,clock,hW,hI⟩:=h;exact⟨s.aK gb,(s.mem _ (ak gb)).2 ef,(s.mem _ (ak hW.at_)).2 eX,hB,H0,es,clock,hW.aP s,hI.aP s⟩
theorem My {bt mb B:Nat}:UJ Tryz.prog 133 [.pointer (some ⟨bt,0,none⟩)] B (IJ bt mb B):=
 ⟨afi,fun ts M w M' w' h s=>h.aP s,fun ts M w t i hJ hM h1 h2 hi h4=>Jo w hM h1 h2 hi h4 hJ⟩
theorem MA (M:aD) (w:World) (B:Nat):Jn M w B [] [] where
 o t v hv:=by
  rcases hv with⟨e,he,_⟩|⟨_,rfl⟩
  ·cases he
  ·exact dF _ _ _ _ _
 a t t' v v' _ hv _:=by
  rcases hv with⟨e,he,_⟩|⟨_,rfl⟩
  ·cases he
  ·exact(iE.nil v').symm
 k:=rfl
theorem Ed:∀(ts:List (Fd×Nat)) (l:List Fd),(ts.foldl (fun l p=>if p.1∈l then l else l++[p.1]) l).length≤l.length+ts.length
 |[],l=>by simp
 |p::ts,l=>by
  rw[List.foldl_cons,cM];refine ez (Ed ts _) ?_
  split
  ·omega
  ·rw[bj];simp;omega
theorem Ql (M:aD) (w:World) (M':aD) (w':World) (x:Fd) (vs:List Value) (h:RT.fd.R M w x vs):RT.fd.R M' w' x vs:=h
theorem Ee {M:aD} {d:Dc} {v0:Value} (w0:World) (hM:Lt M w0) (hv:RT.dc.V M w0 d v0) (hF:kS d) (hl:∀f∈d.2,f.1.length≤900000∧f.2.length≤900000):
  Spec Tryz.prog 87 #[v0] w0 (fun v w=>∃a b,v= .tuple #[a,b]∧(RT.fd.sl).V M w (db (cF d.2)) a∧(((RT.int .i64).sl).sl).V M w ((db (cF d.2)).map (posOf (cF d.2))) b∧Step M w0 M w aC):=by
 have jM:=hM;have R4:=hF.many;refine bc (args:=[_]) (fn:=Tryz.f87) Tryz.func87 rfl (n:=31) Tryz.ntmps87 ?_;have S:Step M w0 M w0 aC:=(aw _ _).cA (fun _ h=>h.elim) (fun _ h=>h.elim);refine aj (ae ?_);refine qc (A:=RT.dc) rfl rfl hM hv rfl (fun u0 w1 dn s0 _=>?_);replace hM:=s0.lt hM;have:=S.size;replace S:=S.aB s0;refine ah rfl rfl (ah rfl rfl (ab (aj (ae ?_))));refine Rg.DW M l2 rfl (fun mb w1m p1 q1 gW s1=>?_);obtain⟨U1,MB⟩:∃M',M'=ins M mb:=⟨_,rfl⟩;rw[←MB]at s1;have Ch:U1 mb:=by rw[MB];exact .inl rfl
 replace dn:=dn.le (by decide) s1.le;replace hM:=s1.lt hM;have:=S.size;replace S:=S.aB s1;refine dP U1 Zg rfl (fun Jv UL aoY aoZ As xx=>?_);obtain⟨MC,MD⟩:∃M',M'=ins U1 Jv:=⟨_,rfl⟩;rw[←MD]at xx;have y9:MC Jv:=by rw[MD];exact .inl rfl
 change UL.heap[Jv]? =some (.cells #[.map none] _ _)at As;replace dn:=dn.le (by decide) xx.le;replace Ch:=(xx.mem _ (ak gW.at_)).2 Ch;replace gW:=gW.aP xx;replace hM:=xx.lt hM;have:=S.size;replace S:=S.aB xx;refine cu (M:=MC) Zg rfl rfl As rfl (rfl) y9 (fun P2 iL pW=>?_)
 try simp only[List.setIfInBounds_toArray,List.set_cons_zero,List.set_cons_succ]at iL
 have:=ak As;replace y9:=(pW.mem _ this).2 y9;replace dn:=dn.le (by decide) pW.le;replace Ch:=(pW.mem _ (ak gW.at_)).2 Ch;replace gW:=gW.step pW (by show¬(_=_);omega);replace hM:=pW.lt hM;have:=S.size;replace S:=S.trans pW (fun k hk h=>by have h:_=_:=h;subst h;first|(exfalso;omega)|(show _≤_;omega)|exact⟨by first|omega|assumption,(S.mem _ hk).1 ((pW.mem _ (ak As)).1 y9)⟩|exact .inl rfl|exact .inr rfl|exact .inr (.inl rfl)|exact .inr (.inr rfl)|exact .inr (.inr (.inl rfl))|exact rfl);have R5:=iL;clear As;have As:=R5;clear R5;refine ab (aj (ae ?_));refine cX (M:=MC) (A:=RT.dc) bg rfl o5 (by decide) rfl rfl rfl (by assumption) (by repeat (first|exact aq _ _|refine a8 (bD (by assumption)) ?_)) (fun ao0 Zh=>?_);refine kb (xs:=[]) (ys:=[.tmp 4]) rfl rfl rfl ?_;refine aX rfl rfl X5 (A6 (cap:=[.pointer (some ⟨Jv,0,none⟩)]) (B:=w0.heap.size) _ hM Zh hl hF.few (My (mb:=mb)) ⟨As,y9,Ch,by omega,by omega,[],0,gW,MA _ _ _⟩) (fun r2 w2 hc=>?_);obtain⟨M2,Fw,⟨gb,_,_,_,_,es,clock,hW,hI⟩,s2⟩:=hc;replace S:=S.l4 s2 (aT _);have pX:∀t v,ej kP es (kv t) v→(((RT.int .i64).sl)).V M w2 (posOf (cF d.2) t) v:=fun t v h=>(hI.o t v h).close jM S (by have:=vL (cF d.2) t;omega)
 replace S:=S.back;replace hM:=S.lt jM
 have Zi:∀e∈es,∃t∈seen (cF d.2),e.key=kv t:=fun e he=>by
  have:e.key∈(seen (cF d.2)).map kv:=by rw[←hI.k];exact gX he
  obtain⟨t,h1,h2⟩:=ca.1 this;exact⟨t,h1,h2.symm⟩
 have BF:∀t∈seen (cF d.2),O2 t∧t.1.length≤12∧t.2.length≤30:=fun t ht=>by
  obtain⟨p,hp,rfl⟩:=ca.1 (uq.1 ht);exact⟨hF.Qd p hp,hF.small p hp⟩
 have nC:(seen (cF d.2)).length≤500:=ez (Ed _ _) (by simp;omega);have C1:es.length≤500:=by have:=congrArg List.length hI.k;simp at this;omega
 refine ab (aj (ae (aM l2 rfl rfl rfl gb rfl ?_)));refine aX rfl rfl afk (Gx _) (fun r3 w3 hc=>?_);obtain⟨bs,rfl,UO,_,s3⟩:=hc;replace s3:=s3.toAny M;replace hW:=hW.aP s3;replace gb:=s3.aK gb;replace pX:=fun t v h=>(pX t v h).le s3.le
 replace hM:=s3.lt hM;have:=S.size;replace S:=S.aB s3
 refine aX rfl rfl afj (D2 _ (fun e he=>by
  obtain⟨t,h1,h2⟩:=Zi e he;exact⟨t,h2,by have:=(BF t h1).2;omega,by have:=(BF t h1).2;omega⟩) (fun e he t ht=>by
  obtain⟨t',h1,h2⟩:=Zi e he;obtain rfl:=vK (ht.symm.trans h2);exact⟨(BF _ h1).1,by have:=(BF _ h1).2;omega,by have:=(BF _ h1).2;omega⟩) (by omega) (fun ts oJ kq=>by
  have:=oJ.length_le_of_subset (l₂:=seen (cF d.2)) (fun t ht=>(uh hI.k).1 (kq t ht));omega) UO hW) (fun r4 w4 hc=>?_)
 obtain⟨us,oJ,kq,Tv,Y9,s4⟩:=hc;obtain rfl:=D6 hF.Qd oJ (fun t=>(kq t).trans (uh hI.k)) Tv;have Km:(db (cF d.2)).length≤500:=ez (oJ.length_le_of_subset (l₂:=seen (cF d.2)) (fun t ht=>uq.2 ((kR hF.Qd).1 ht))) nC;replace s4:=s4.toAny M;have Ai:(RT.fd.sl).V M w4 (db (cF d.2)) r4:=Y9.tell Ql (fun b hb h=>by have:=(Y9.base b hb).1;have:=hM b h;omega) (by omega);clear Y9;replace hW:=hW.aP s4;replace gb:=s4.aK gb;replace pX:=fun t v h=>(pX t v h).le s4.le
 replace hM:=s4.lt hM;have:=S.size;replace S:=S.aB s4;refine ah rfl rfl (ab (aj (ae (ah rfl rfl (ab (aj (aj (ae (ad rfl rfl (bM jR rfl Ai rfl (ad rfl rfl ?_)))))))))));refine ab (aZ ?_);refine de (σ:=Nat×Value) (fun q=>[(4,.pointer (some ⟨Jv,0,none⟩)),(5,r4),(6,q.2),(16,r4),(17,.int .i64 ((db (cF d.2)).length:Int)),(18,.int .i64 (q.1:Int))]) (fun q w=>∃M',Lt M' w∧Step M w0 M' w aC∧Own ((RT.int .i64).sl) 37 M' w w0.heap.size q.2 (((db (cF d.2)).take q.1).map (posOf (cF d.2)))∧(RT.fd.sl).V M' w (db (cF d.2)) r4∧fB Tryz.prog 78 w mb es clock∧w.heap[Jv]? =some (.cells #[.map (some mb)] 217 (0,0))∧(∀t v,ej kP es (kv t) v→(((RT.int .i64).sl)).V M' w (posOf (cF d.2) t) v)∧q.1≤(db (cF d.2)).length) (fun q=>(db (cF d.2)).length-q.1) (0,.slice none 0 0) (.cons rfl (.cons rfl (.cons rfl (.cons rfl (.cons rfl (.cons rfl .nil)))))) ?_ ?_
 ·exact⟨M,hM,S,dF _ _ _ _ _,Ai,hW,gb,pX,bE _⟩
 ·clear hM Ai hW gb pX S;rintro⟨i,u⟩ w ⟨M1,hM,S,ho,Ai,hW,gb,pX,hi⟩;dsimp only at ho hi ⊢;refine aj (ae (cj rfl rfl rfl (ab (aj ?_))));refine bN rfl (fun c6=>?_) (fun c6=>?_)
  ·refine aU (aj (aZ (aj (ae ?_))));refine cy (M:=M1) jR AY rfl rfl rfl Ai (aq _ _) (by omega) (fun YO t hg7 HT=>?_);rw[ay]at hg7;have Px:=aA hg7;have KO:=BF t (uq.2 ((kR hF.Qd).1 Px));refine cX (M:=M1) (A:=RT.fd) dH rfl AY (by decide) rfl rfl rfl HT (aq _ _) (fun aeJ RO=>?_);refine xG (A:=RT.fd) (M:=M1) AY rfl rfl rfl rfl rfl (by assumption) (aq _ _) hM (fun afm ao1 Bg GG ao2=>?_);replace Ai:=Ai.le GG.le;replace ho:=ho.aP GG;replace hW:=hW.aP GG;replace gb:=GG.aK gb;replace pX:=fun t v h=>(pX t v h).le GG.le
   replace hM:=GG.lt hM;have:=S.size;replace S:=S.aB GG;refine ab (ae (ad rfl rfl (aM l2 rfl rfl rfl gb rfl ?_)));refine cX (M:=M1) (A:=RT.fd) dH rfl AY (by decide) rfl rfl rfl Bg (aq _ _) (fun ao3 Zj=>?_);obtain rfl:=tf Zj;obtain⟨kl,FK⟩:=Mc t (by omega) (by omega);refine Rg.tZ l2 A5 jL rfl rfl rfl FK hW (fun v8 lP=>?_);have Kn:=pX _ _ lP;clear lP;refine ed (A:=((RT.int .i64).sl)) (hn:=by decide) (M:=M1) cK jL (by decide) rfl rfl hM (Kn) (.inr ⟨rfl,rfl⟩) (fun ao4 ao5 ME Ef=>?_);replace Ai:=Ai.le Ef.le;replace Bg:=Bg.le (by decide) Ef.le;replace ho:=ho.aP Ef;replace hW:=hW.aP Ef;replace gb:=Ef.aK gb;replace pX:=fun t v h=>(pX t v h).le Ef.le
   replace hM:=Ef.lt hM;have:=S.size;replace S:=S.aB Ef;refine cZ (M:=M1) (base:=w0.heap.size) cK jL rfl rfl rfl rfl ho ME (aq _ _) (by simp;omega) (by simp;omega) (S.size) (fun afn afo ao6 Zk Eg=>?_);replace Ai:=Ai.le Eg.le;replace Bg:=Bg.le (by decide) Eg.le;replace ME:=ME.le Eg.le;replace hW:=hW.step Eg (fun h=>ho.kQ hW.at_ h);replace gb:=Eg.keep gb (fun h=>ho.eI gb (by decide) h);replace pX:=fun t v h=>(pX t v h).le Eg.le
   replace hM:=Eg.lt hM;have:=S.size;replace S:=S.dg Eg ho (aT _);replace ho:=Zk;refine ah rfl rfl (ab (ae (bF rfl rfl rfl (by omega) (ad rfl rfl (ab ?_)))));refine⟨rfl,(i+1,afn),(.cons rfl (.cons rfl (.cons rfl (.cons rfl (.cons rfl (.cons rfl .nil)))))),?_,?_⟩
   ·exact⟨afo,hM,S,by rw[bK,hg7,cT,eA];exact ho,Ai,hW,gb,pX,by dsimp only;omega⟩
   ·dsimp only;omega
  ·refine cG (aj (ae (ad rfl rfl (ad rfl rfl (ah rfl rfl (ah rfl rfl (ab (aO ?_))))))));have e:(db (cF d.2)).take i=db (cF d.2):=aW (by omega);rw[e]at ho;exact eY rfl rfl rfl ⟨_,_,rfl,Ai.le (Le.close jM S),ho.close jM S (by simp;omega),S.back⟩
end Go.K
namespace Go.K
def R6 {α:Type} (A:RT α) (M:aD) (w:World) (v:Value) (x:α):Prop:=∃b o vs,v= .pointer (some ⟨b,o,none⟩)∧A.R M w x vs∧w.rangeAt b o vs
theorem Own.elem {α:Type} {A:RT α} {e:TypeId} {M:aD} {w:World} {base:Nat} {v:Value} {xs:List α} (h:Own A e M w base v xs) (hA:0<A.n) {i:Nat} {x:α} (hx:xs[i]? =some x):
  ∃g cap vs,v= .slice (some ⟨g,0,none⟩) xs.length cap∧M g∧A.R M w x vs∧w.rangeAt g (i*A.n) vs:=by
 obtain⟨⟨C,hr,ha⟩,hm⟩:=h;rcases hr.2 with⟨h1,h2⟩|⟨g,cap,cur,h1,h2,h3,h4,h5,h6,h7⟩
 ·have:xs=[]:=List.eq_nil_of_length_eq_zero h2;subst this;simp at hx
 ·obtain⟨vs,hv,hj⟩:=ha.at_ i x hx;refine⟨g,cap,vs,h1,hm g (by rw[h1];rfl),hv,fun j u hu=>?_⟩;have h8:=hj j u hu;rw[←h7,cn]at h8
  split at h8
  ·simp only[World.cell?,h3];simpa using h8
  ·cases h8
section
variable {P:Program} {r:Option Nat} {n:Nat} {L:Sl} {ds:List Deferred} {w:World} {K:Kt} {ops:Array Oper} {rest:List Oper} {d:Nat} {x y:Operand} {ty:TypeId} {pos:String} {af:Array Edge} {α:Type} {A:RT α}
theorem Rg.afp {t e e':TypeId} {i:Operand} {κ:IntKind} {j:Int} {M:aD} {base:Nat} {xs:List α} {v zv:Value} {bytes:Nat} (ht:P.underlying t=some (.slice e)) (hi:TI P e zv A.n bytes) (hA:0<A.n)
  (hx:ev L x=some v) (FF:ev L i=some (.int κ j)) (hd:Nat.blt d n=true) (ho:Own A e' M w base v xs) (hj:0≤j∧j<xs.length)
  (k:∀u a,xs[j.toNat]? =some a→R6 A M w u a→Rg P r n ops rest ((d,u)::L) ds w K):
  Rg P r n ops ({dst:=some d,op:= .indexAddr t x i,type:=ty,pos,after:=af,guard:=none}::rest) L ds w K:=by
 have dR:j.toNat<xs.length:=by omega
 obtain⟨g,cap,vs,rfl,hm,h1,h2⟩:=ho.elem hA (ar dR);refine .op (fun _ h=>by cases h) rfl rfl hd (.pointer (some ⟨g,0+j.toNat*A.n,none⟩)) w (fun ρ h=>?_) (k _ xs[j.toNat] (ar dR) ⟨g,_,vs,rfl,h1,by rw[fL];exact h2⟩);simp only[execOp,h x _ hx,h i _ FF];simp[Instr.indexAt,run_underlying ht,asIntOf,hj,hi.sizeOf,xi]
theorem Rg.MF {t:TypeId} {fs:TypeDesc} {zv:Value} {bytes:Nat} {M:aD} {p:Value} {a:α} (hu:P.underlying t=some fs) (hf:fs.isRow=true) (hi:TI P t zv A.n bytes) (hg:A.agg=true)
  (hx:ev L x=some p) (hd:Nat.blt d n=true) (hp:R6 A M w p a) (k:∀v,A.V M w a v→Rg P r n ops rest ((d,v)::L) ds w K):
  Rg P r n ops ({dst:=some d,op:= .load t x,type:=ty,pos,after:=af,guard:=none}::rest) L ds w K:=by
 obtain⟨b,o,vs,rfl,h1,h2⟩:=hp;refine .op (fun _ h=>by cases h) rfl rfl hd (.agg vs.toArray) w (fun ρ h=>?_) (k _ ⟨vs,h1,by simp[RT.val,hg]⟩);simp only[execOp,h x _ hx];obtain⟨i,xJ,_,Ab,_⟩:=hi.get;have:=run_loadAt_mid (P:=P) w b o t vs fs h2 hu hf (by simp[xJ,Ab,A.len h1]);simp[this]
end
end Go.K
namespace Go.K
open Go.Proofs
namespace TKBldC
theorem afq:TI Tryz.prog 153 (.agg #[(.slice none 0 0),(.map none),(.int .i64 0),(.int .i64 0)]) 4 48:=by unfold TI;kernel_rfl
theorem afr:placesOf Tryz.prog 153=[(0,1),(1,1),(2,1),(3,1)].map some:=by kernel_rfl
end TKBldC
open TKBldC
set_option maxRecDepth 10000
open Go.Maps (Keyed)
theorem uv:Keyed Tryz.prog 9:=Go.Maps.string_keyed aJ
theorem MG (k:List UInt8) (h:k.length≤140737488355328):∃l,keyOf Tryz.prog 9 (sv k)=some l:=by
 have e1:(⟨k.toArray⟩:ByteArray).size=k.length:=by simp[ByteArray.size]
 exact⟨_,Go.WideMaps.keyOf_string_mk aJ (by rw[e1];unfold maxLen;omega)⟩
structure Eh (Z:aD) (M:aD) (w:World) (B:Nat) (f:List UInt8→List Po) (K:List UInt8→Prop) (es:List MapEntry):Prop where
 o:∀k v,ej kP es (sv k) v→Own RT.po 83 M w B v (f k)
 a:∀k k' v v',k≠k'→ej kP es (sv k) v→ej kP es (sv k') v'→iE v v'
 k:∀x,(∃e∈es,e.key=sv x)↔K x
 z:∀k v c,ej kP es (sv k) v→v.ownBlock=some c→Z c
theorem Eh.step {Z M M' N:aD} {w w':World} {B:Nat} {f:List UInt8→List Po} {K:List UInt8→Prop} {es:List MapEntry} (h:Eh Z M w B f K es) (s:Step M w M' w' N) (hn:∀k v b,ej kP es (sv k) v→v.ownBlock=some b→¬N b):Eh Z M' w' B f K es:=
 ⟨fun k v hv=>(h.o k v hv).step s fun b hb=>hn k v b hv hb,h.a,h.k,h.z⟩
theorem Eh.aP {Z M M':aD} {w w':World} {B:Nat} {f:List UInt8→List Po} {K:List UInt8→Prop} {es:List MapEntry} (h:Eh Z M w B f K es) (s:Step M w M' w' aC):Eh Z M' w' B f K es:=h.step s fun _ _ _ _ _ h=>h
theorem Eh.congr {Z M:aD} {w:World} {B:Nat} {f f':List UInt8→List Po} {K K':List UInt8→Prop} {es:List MapEntry} (h:Eh Z M w B f K es) (hf:∀k,f' k=f k) (hK:∀k,K' k↔K k):Eh Z M w B f' K' es:=
 ⟨fun k v hv=>by rw[hf];exact h.o k v hv,h.a,fun x=>(h.k x).trans (hK x).symm,h.z⟩
theorem Eh.Jw {Z Z' M:aD} {w:World} {B:Nat} {f:List UInt8→List Po} {K:List UInt8→Prop} {es:List MapEntry} (h:Eh Z M w B f K es) (hz:∀c,Z c→c<w.heap.size→Z' c):Eh Z' M w B f K es:=
 ⟨h.o,h.a,h.k,fun k v c hv hc=>hz c (h.z k v c hv hc) ((h.o k v hv).base c hc).2⟩
theorem Eh.put {Z M M2:aD} {w w1 w2:World} {B mb c:Nat} {mes:Array MapEntry} {f:List UInt8→List Po} {K:List UInt8→Prop} {es U2:List MapEntry} {k0:List UInt8} {v0 v1:Value} {ps:List Po} (h:Eh Z M w B f K es) (hZ:∀c,w.heap.size≤c→Z c) (OX:ej kP es (sv k0) v0)
  (U3:Own RT.po 83 (jz M v1) w1 B v1 (f k0++ps)) (s1:Step M w (jz M v1) w1 (fz v0)) (hF:∀b,v1.ownBlock=some b→w.heap.size≤b∨v0.ownBlock=some b) (hmb:w1.heap[mb]? =some (.map mes c)) (s2:Step (jz M v1) w1 M2 w2 (fun k=>k=mb))
  (Jp:∀zv jo v',ej zv U2 jo v'↔(jo=sv k0∧v'=v1)∨(jo≠sv k0∧ej zv es jo v')) (pN:(U2.map (·.key)=es.map (·.key)∧∃e∈es,e.key=sv k0)∨(U2.map (·.key)=es.map (·.key)++[sv k0]∧∀e∈es,e.key≠sv k0)):
  Eh Z M2 w2 B (fun k=>if k=k0 then f k0++ps else f k) (fun x=>K x∨x=k0) U2:=by
 have sk:∀k v,ej kP U2 (sv k) v→(k=k0∧v=v1)∨(k≠k0∧ej kP es (sv k) v):=fun k v hv=>by
  rcases(Jp kP (sv k) v).1 hv with⟨h3,h4⟩|⟨h3,h4⟩
  ·exact .inl ⟨Cd h3,h4⟩
  ·exact .inr ⟨fun e=>h3 (by rw[e]),h4⟩
 have xQ:∀k v,k≠k0→ej kP es (sv k) v→iE v1 v:=fun k v eK hv=>(h.a k k0 v v0 eK hv OX).symm.grown hF (fun b hb=>((h.o k v hv).base b hb).2)
 have Qa:∀k v,k≠k0→ej kP es (sv k) v→Own RT.po 83 (jz M v1) w1 B v (f k):=fun k v eK hv=>(h.o k v hv).step s1 (fun b hb hk=>h.a k k0 v v0 eK hv OX b hb hk)
 have hnm:∀{v:Value} {xs:List Po},Own RT.po 83 (jz M v1) w1 B v xs→∀b,v.ownBlock=some b→¬b=mb:=fun ho b hb e=>ho.kQ hmb (by rw[←e];exact hb)
 refine⟨fun k v hv=>?_,fun k k' v v' eK hv rR=>?_,fun x=>?_,fun k v c hv hc=>?_⟩
 ·rcases sk k v hv with⟨rfl,rfl⟩|⟨h3,h4⟩
  ·rw[if_pos rfl];exact U3.step s2 (hnm U3)
  ·rw[if_neg h3];exact(Qa k v h3 h4).step s2 (hnm (Qa k v h3 h4))
 ·rcases sk k v hv with⟨rfl,rfl⟩|⟨h3,h4⟩
  ·rcases sk k' v' rR with⟨rfl,_⟩|⟨h5,h6⟩
   ·exact absurd rfl eK
   ·exact xQ k' v' h5 h6
  ·rcases sk k' v' rR with⟨rfl,rfl⟩|⟨h5,h6⟩
   ·exact(xQ k v h3 h4).symm
   ·exact h.a k k' v v' eK h4 h6
 ·have kq:(∃e∈U2,e.key=sv x)↔sv x∈U2.map (·.key):=by simp
  have afs:(∃e∈es,e.key=sv x)↔sv x∈es.map (·.key):=by simp
  rw[kq,←h.k x,afs];rcases pN with⟨h3,e,he,hk⟩|⟨h3,_⟩
  ·rw[h3];constructor
   ·exact .inl
   ·rintro(h4|rfl)
    ·exact h4
    ·rw[←hk];exact gX he
  ·rw[h3,cp,bJ];constructor
   ·rintro(h4|h4)
    ·exact .inl h4
    ·exact .inr (Cd h4)
   ·rintro(h4|rfl)
    ·exact .inl h4
    ·exact .inr rfl
 ·rcases sk k v hv with⟨rfl,rfl⟩|⟨h3,h4⟩
  ·rcases hF c hc with h5|h5
   ·exact hZ c h5
   ·exact h.z _ _ c OX h5
  ·exact h.z k v c h4 hc
theorem Qm (Z M:aD) (w:World) (B:Nat):Eh Z M w B (pk []) (fun x=>x∈iy []) [] where
 o k v hv:=by
  rcases hv with⟨e,he,_⟩|⟨_,rfl⟩
  ·cases he
  ·exact dF _ _ _ _ _
 a k k' v v' _ hv _:=by
  rcases hv with⟨e,he,_⟩|⟨_,rfl⟩
  ·cases he
  ·exact(iE.nil v').symm
 k x:=by simp[iy]
 z k v c hv hc:=by
  rcases hv with⟨e,he,_⟩|⟨_,rfl⟩
  ·cases he
  ·cases hc
structure Buf (Z M:aD) (w:World) (B b mb:Nat) (vl:Value) (L:List En) (words last:Int) (f:List UInt8→List Po) (K:List UInt8→Prop) (es:List MapEntry) (clock:Nat):Prop where
 at_:w.heap[b]? =some (.cells #[vl,.map (some mb),.int .i64 words,.int .i64 last] 153 (0,0))
 m:M b
 mm:M mb
 hb:Z b
 hmb:Z mb
 l:Own RT.en 71 M w B vl L
 map:fB Tryz.prog 9 w mb es clock
 rows:Eh Z M w B f K es
 zl:∀c,vl.ownBlock=some c→Z c
def oA (Z M:aD) (w:World) (B b:Nat) (L:List En) (words last:Int):Prop:=∃mb vl es clock,Buf Z M w B b mb vl L words last (pk L) (fun x=>x∈iy L) es clock
theorem oA.aP {Z M M':aD} {w w':World} {B b:Nat} {L:List En} {words last:Int} (h:oA Z M w B b L words last) (s:Step M w M' w' aC):oA Z M' w' B b L words last:=by
 obtain⟨mb,vl,es,clock,h1,h2,h3,h4,h5,h6,h7,h8,h9⟩:=h;exact⟨mb,vl,es,clock,s.aK h1,(s.mem _ (ak h1)).2 h2,(s.mem _ (ak h7.at_)).2 h3,h4,h5,h6.aP s,h7.aP s,h8.aP s,h9⟩
theorem oA.Jw {Z Z' M:aD} {w:World} {B b:Nat} {L:List En} {words last:Int} (h:oA Z M w B b L words last) (hz:∀c,Z c→c<w.heap.size→Z' c):oA Z' M w B b L words last:=by
 obtain⟨mb,vl,es,clock,h1,h2,h3,h4,h5,h6,h7,h8,h9⟩:=h;exact⟨mb,vl,es,clock,h1,h2,h3,hz _ h4 (ak h1),hz _ h5 (ak h7.at_),h6,h7,h8.Jw hz,fun c hc=>hz c (h9 c hc) (h6.base c hc).2⟩
theorem oA.step {Z M M' N:aD} {w w':World} {B b:Nat} {L:List En} {words last:Int} (h:oA Z M w B b L words last) (s:Step M w M' w' N) (hn:∀k,N k→¬Z k):oA Z M' w' B b L words last:=by
 obtain⟨mb,vl,es,clock,h1,h2,h3,h4,h5,h6,h7,h8,h9⟩:=h;exact⟨mb,vl,es,clock,s.keep h1 (fun hk=>hn _ hk h4),(s.mem _ (ak h1)).2 h2,(s.mem _ (ak h7.at_)).2 h3,h4,h5,h6.step s (fun c hc hk=>hn _ hk (h9 c hc)),h7.step s (fun hk=>hn _ hk h5),h8.step s (fun k v c hv hc hk=>hn _ hk (h8.z k v c hv hc)),h9⟩
theorem oA.stepT {Z M M' N:aD} {w w':World} {B b:Nat} {L:List En} {words last:Int} (h:oA Z M w B b L words last) (s:Step M w M' w' N) (hn:∀k,N k→∃cs t,w.heap[k]? =some (.cells cs t (0,0))∧t≠153∧t≠71∧t≠83):oA Z M' w' B b L words last:=by
 obtain⟨mb,vl,es,clock,h1,h2,h3,h4,h5,h6,h7,h8,hz⟩:=h;refine⟨mb,vl,es,clock,s.keep h1 (fun hk=>?_),(s.mem _ (ak h1)).2 h2,(s.mem _ (ak h7.at_)).2 h3,h4,h5,h6.step s (fun c hc hk=>?_),h7.step s (fun hk=>?_),h8.step s (fun k v c hv hc hk=>?_),hz⟩
 ·obtain⟨cs,t,h9,Qn,_⟩:=hn _ hk;rw[h1]at h9;simp at h9;exact Qn h9.2.symm
 ·obtain⟨cs,t,h9,_,Qn,_⟩:=hn _ hk;exact h6.eI h9 Qn hc
 ·obtain⟨cs,t,h9,_⟩:=hn _ hk;rw[h7.at_]at h9;cases h9
 ·obtain⟨cs,t,h9,_,_,Qn⟩:=hn _ hk;exact(h8.o k v hv).eI h9 Qn hc
def MH (M Z:aD):aD:=fun k=>Z k∧M k
theorem ej.ex (zv:Value) (es:List MapEntry) (key:Value):∃v,ej zv es key v:=by
 by_cases h:∃e∈es,e.key=key
 ·obtain⟨e,he,hk⟩:=h;exact⟨e.val,.inl ⟨e,he,hk,rfl⟩⟩
 ·exact⟨zv,.inr ⟨fun e he hk=>h ⟨e,he,hk⟩,rfl⟩⟩
def mX (last:Int) (e:En):Int:=if lO e.1≠0 then lO e.1 else if e.2≤last then 12 else 0
def MI (L:List En) (tl:List (Fd×Nat)) (i:Nat) (k:List UInt8):List Po:=pk L k++(((db tl).take i).filter fun t=>decide (gE t=k)).map fun t=>((L.length:Int),posOf tl t)
theorem MJ (L:List En) (tl:List (Fd×Nat)) (k:List UInt8):MI L tl 0 k=pk L k:=by simp[MI]
theorem MK {L:List En} {tl:List (Fd×Nat)} {i:Nat} {t:Fd} (h:(db tl)[i]? =some t) (k:List UInt8):MI L tl (i+1) k=if k=gE t then MI L tl i (gE t)++[((L.length:Int),posOf tl t)]else MI L tl i k:=by
 unfold MI;rw[bK,h,cT,List.filter_append,eA]
 split
 ·rename_i e;subst e;simp
 ·rename_i e
  have: ¬gE t=k:=fun h=>e h.symm
  simp[this]
theorem Qo {L:List En} {e:En} {i:Nat} (h:(db (pQ e)).length≤i) (k:List UInt8):MI L (pQ e) i k=pk (L++[e]) k:=by
 unfold MI;rw[Qe,aW h];rfl
theorem Qp {L:List En} (hF:∀x∈L,kS x.1) (tl:List (Fd×Nat)) (i:Nat) (k:List UInt8):(MI L tl i k).length≤L.length+(db tl).length:=by
 unfold MI;have h1:=(qF k L 0 hF).1;have h2:=l3 (fun t=>decide (gE t=k)) ((db tl).take i);have h3:=List.length_take_le i (db tl);have h4:(pk L k).length≤L.length:=h1;simp only[bj,aL,bH]at*;omega
theorem Bh {d:Dc} (hF:kS d):(db (cF d.2)).length≤500:=by
 have h1:=(um hF.Qd).nodup.length_le_of_subset (l₂:=(cF d.2).map (·.1)) (fun t ht=>(kR hF.Qd).1 ht);have:=hF.many;simp at h1;omega
theorem kS.term {d:Dc} (hF:kS d) {t:Fd} (h:t∈db (cF d.2)):t.1.length≤12∧t.2.length≤30:=by
 obtain⟨p,hp,rfl⟩:=ca.1 ((kR hF.Qd).1 h);exact hF.small p hp
theorem ML {Z M:aD} {B:Nat} (w0:World) (hM:Lt M w0) (hB:B≤w0.heap.size) (hZ:∀k,w0.heap.size≤k→Z k):
  Spec Tryz.prog 39 #[] w0 (fun v w=>∃M' b,v= .pointer (some ⟨b,0,none⟩)∧Lt M' w∧oA Z M' w B b [] 0 (-1)∧Step M w0 M' w aC):=by
 refine bc (args:=[]) (fn:=Tryz.f39) Tryz.func39 rfl (n:=4) Tryz.ntmps39 ?_;have S:Step M w0 M w0 aC:=(aw _ _).cA (fun _ h=>h.elim) (fun _ h=>h.elim);refine aj (ae (ah rfl rfl (ab (aj (ae ?_)))));refine Rg.DW M iG rfl (fun mb w1m p1 q1 gW s1=>?_);obtain⟨U1,MB⟩:∃M',M'=ins M mb:=⟨_,rfl⟩;rw[←MB]at s1;have Ch:U1 mb:=by rw[MB];exact .inl rfl
 replace hM:=s1.lt hM;have:=S.size;replace S:=S.aB s1;refine iC (places:=[(0,1),(1,1),(2,1),(3,1)]) dQ afq afr rfl ⟨_,_,rfl,rfl,_,_,rfl,rfl,rfl⟩ (out:=[.slice none 0 0,_,.int .i64 0,_]) ⟨1,[_],rfl,rfl,by simp[Value.cells],3,[_],rfl,rfl,by simp[Value.cells],rfl⟩ ?_;refine xj U1 rfl rfl (fun U4 P2 ao8 ao9 iL pW=>?_);obtain⟨Zl,MM⟩:∃M',M'=ins U1 U4:=⟨_,rfl⟩;rw[←MM]at pW;have U5:Zl U4:=by rw[MM];exact .inl rfl
 change P2.heap[U4]? =some (.cells #[.slice none 0 0,.map (some mb),.int .i64 0,.int .i64 (-1)] _ _)at iL;replace Ch:=(pW.mem _ (ak gW.at_)).2 Ch;replace gW:=gW.aP pW;replace hM:=pW.lt hM;have:=S.size;replace S:=S.aB pW;refine ah rfl rfl (ab (aO ?_));exact aS rfl rfl ⟨_,_,rfl,hM,⟨mb,_,[],0,iL,U5,Ch,hZ _ (by omega),hZ _ (by omega),dF _ _ _ _ _,gW,Qm _ _ _ _,fun c hc=>by cases hc⟩,S⟩
end Go.K
namespace Go.K
open Go.Proofs
namespace TKBldD
theorem Zm:TI Tryz.prog 29 (.slice none 0 0) 1 24:=by unfold TI;kernel_rfl
theorem xy:TI Tryz.prog 80 (.slice none 0 0) 1 24:=by unfold TI;kernel_rfl
theorem GH:TI Tryz.prog 151 (.map none) 1 8:=by unfold TI;kernel_rfl
theorem E86:Enters Tryz.prog 86:=enters Tryz.func86 rfl (by decide)
theorem E87:Enters Tryz.prog 87:=enters Tryz.func87 rfl (by decide)
theorem E88:Enters Tryz.prog 88:=enters Tryz.func88 rfl (by decide)
theorem E89:Enters Tryz.prog 89:=enters Tryz.func89 rfl (by decide)
end TKBldD
open TKBldD
set_option maxRecDepth 10000
set_option maxHeartbeats 4000000 in
theorem MN {Z M:aD} {B b:Nat} {L:List En} {words last:Int} {e:En} {v0:Value} (w0:World) (hM:Lt M w0) (hZ:∀k,w0.heap.size≤k→Z k) (hb:oA Z M w0 B b L words last) (hBw:B≤w0.heap.size) (hv:RT.en.V M w0 e v0) (hl:∀f∈e.1.2,f.1.length≤900000∧f.2.length≤900000) (hLF:∀x∈L,kS x.1) (hLn:L.length≤1000000) (hw:0≤words∧words≤1000000000):
  Spec Tryz.prog 40 #[.pointer (some ⟨b,0,none⟩),v0] w0 (fun v w=>∃M',Lt M' w∧Step M w0 M' w (MH M Z)∧v= .int .i64 (mX last e)∧(mX last e≠0→oA Z M' w B b L words last)∧(mX last e=0→oA Z M' w B b (L++[e]) (words+((pQ e).length:Int)) e.2)):=by
 obtain⟨mb,vl,es,clock,gb,ef,eX,hB,H0,ho,hW,hR,zl⟩:=hb;have R1:b≠mb:=fun h=>by have:=hW.at_;rw[←h,gb]at this;cases this
 refine bc (args:=[_,_]) (fn:=Tryz.f40) Tryz.func40 rfl (n:=89) Tryz.ntmps40 ?_;have S:Step M w0 M w0 (MH M Z):=(aw _ _).cA (fun _ h=>h.elim) (fun _ h=>h.2);refine aj (ae ?_);refine qc (A:=RT.en) rfl rfl hM hv rfl (fun u0 w1 dn s0 _=>?_);have:=ak gb;replace ef:=(s0.mem _ this).2 ef;replace gb:=s0.aK gb;replace ho:=ho.aP s0;replace eX:=(s0.mem _ (ak hW.at_)).2 eX;replace hW:=hW.aP s0;replace hR:=hR.aP s0;replace hM:=s0.lt hM;have:=S.size;replace S:=S.aB s0;refine ah rfl rfl (ab (aj (aj (ae ?_))));refine aN (M:=M) (A:=RT.en) (B:=RT.dc) dW rfl rfl o5 (by decide) YK rfl rfl (by decide) dn (aq _ _) (fun B6 ni=>?_);refine cX (M:=M) (A:=RT.dc) bg rfl o5 (by decide) rfl rfl rfl ni (aq _ _) (fun Ar nj=>?_);refine aX rfl rfl E86 (LI _ hM nj hl) (fun r2 w2 hc=>?_);obtain⟨rfl,s2⟩:=hc;have:=ak gb;replace ef:=(s2.mem _ this).2 ef;replace gb:=s2.aK gb;replace dn:=dn.le (by decide) s2.le;replace ho:=ho.aP s2;replace eX:=(s2.mem _ (ak hW.at_)).2 eX;replace hW:=hW.aP s2;replace hR:=hR.aP s2;replace hM:=s2.lt hM;have:=S.size;replace S:=S.aB s2;refine ah rfl rfl (ab (aj (ae (ad rfl rfl (eM rfl rfl rfl (ab ?_))))));refine bN rfl (fun c2=>?_) (fun c2=>?_)
 ·refine aj (ae (ad rfl rfl (ah rfl rfl (ab (aO ?_)))));have ea:mX last e=lO e.1:=if_pos c2;exact aS rfl rfl ⟨_,hM,S,by rw[ea],fun _=>⟨mb,vl,es,clock,gb,ef,eX,hB,H0,ho,hW,hR,zl⟩,fun h=>absurd (ea▸h) c2⟩
 ·have hF:kS e.1:=H3 (by simpa using c2);refine aU (aj (aj ?_));apply mQ mixed rfl rfl;intro wD4 Zn;have Bi:=Zn M;have:=ak gb;replace ef:=(Bi.mem _ this).2 ef;replace gb:=Bi.aK gb;replace dn:=dn.le (by decide) Bi.le;replace ho:=ho.aP Bi;replace eX:=(Bi.mem _ (ak hW.at_)).2 eX;replace hW:=hW.aP Bi;replace hR:=hR.aP Bi;replace hM:=Bi.lt hM;have:=S.size;replace S:=S.aB Bi;refine aN (M:=M) (A:=RT.en) (B:=RT.int .i64) dW rfl rfl I3 (by decide) en1 rfl rfl (by decide) dn (aq _ _) (fun Uq HS=>?_);refine ab ⟨rfl,rfl,rfl,?_⟩;refine cb (M:=M) ax rfl rfl (by assumption) (by repeat (first|exact aq _ _|refine a8 (bD (by assumption)) ?_)) (fun R7=>?_);refine aV (v':= .int .i64 (e.2)) rfl ?_;replace R7: -9223372036854775808≤(e.2:Int)∧e.2≤9223372036854775807:=R7;refine ab ⟨rfl,rfl,rfl,?_⟩;refine ad rfl rfl ?_;refine ab ⟨rfl,rfl,rfl,?_⟩;refine bS rfl ⟨_,rfl⟩ rfl ?_;refine ab ⟨rfl,rfl,rfl,?_⟩;refine bG (o':=3) dQ rfl rfl I3 (by decide) rfl rfl ?_;refine ab ⟨rfl,rfl,rfl,?_⟩;refine aM ax rfl rfl rfl (by first|assumption|exact cW Bi (by assumption)) rfl ?_;refine ab ⟨rfl,rfl,rfl,?_⟩;refine gK rfl rfl rfl ?_;refine ab ⟨rfl,rfl,rfl,?_⟩;refine ew ?_;refine bN rfl (fun c4=>?_) (fun c4=>?_)
  ·refine aj (ae (ah rfl rfl (ab (aO ?_))));have ea:mX last e=12:=by unfold mX;rw[if_neg (fun h=>h (by simpa using c2)),if_pos c4]
   exact aS rfl rfl ⟨_,hM,S,by rw[ea],fun _=>⟨mb,vl,es,clock,gb,ef,eX,hB,H0,ho,hW,hR,zl⟩,fun h=>absurd (ea▸h) (by decide)⟩
  ·refine aU (aj (ae ?_));refine aN (M:=M) (A:=RT.en) (B:=RT.dc) dW rfl rfl o5 (by decide) YK rfl rfl (by decide) dn (aq _ _) (fun YT LR=>?_);refine cX (M:=M) (A:=RT.dc) bg rfl o5 (by decide) rfl rfl rfl LR (aq _ _) (fun UE yT=>?_);refine aX rfl rfl E87 (Ee _ hM yT hF hl) (fun r6 w6 hc=>?_);obtain⟨a6,b6,rfl,ha,qH,s6⟩:=hc;have:=ak gb;replace ef:=(s6.mem _ this).2 ef;replace gb:=s6.aK gb;replace dn:=dn.le (by decide) s6.le;replace ho:=ho.aP s6;replace eX:=(s6.mem _ (ak hW.at_)).2 eX;replace hW:=hW.aP s6;replace hR:=hR.aP s6;replace hM:=s6.lt hM;have:=S.size;replace S:=S.aB s6;refine ad rfl rfl (bW rfl rfl rfl (bW rfl rfl rfl (ah rfl rfl (ah rfl rfl (ab (aj (aj (ae (ad rfl rfl (bM jR rfl ha rfl (ad rfl rfl ?_)))))))))));refine ab (aZ ?_);refine de (σ:=Nat) (fun q=>[(0,.pointer (some ⟨b,0,none⟩)),(3,u0),(7,b6),(30,a6),(31,.int .i64 ((db (pQ e)).length:Int)),(32,.int .i64 (q:Int))]) (fun q w=>∃M' es clock,Lt M' w∧Step M w0 M' w (MH M Z)∧cN RT.en M' w u0 e∧(RT.fd.sl).V M' w (db (pQ e)) a6∧(((RT.int .i64).sl).sl).V M' w ((db (pQ e)).map (posOf (pQ e))) b6∧Buf Z M' w B b mb vl L words last (MI L (pQ e) q) (fun x=>x∈iy L∨x∈((db (pQ e)).take q).map gE) es clock∧q≤(db (pQ e)).length) (fun q=>(db (pQ e)).length-q) 0 (.cons rfl (.cons rfl (.cons rfl (.cons rfl (.cons rfl (.cons rfl .nil)))))) ?_ ?_
   ·exact⟨_,es,clock,hM,S,dn,ha,qH,⟨gb,ef,eX,hB,H0,ho,hW,hR.congr (fun k=>MJ _ _ _) (fun k=>by simp),zl⟩,bE _⟩
   ·clear hM S dn ha qH gb ef eX ho hW hR;rintro i w ⟨M1,es,clock,hM,S,dn,ha,qH,⟨gb,ef,eX,_,_,ho,hW,hR,_⟩,hi⟩;refine aj (ae (cj rfl rfl rfl (ab (aj ?_))));refine bN rfl (fun c8=>?_) (fun c8=>?_)
    ·refine aU (aj (aZ (aj (ae (ad rfl rfl ?_)))));refine cy (M:=M1) jR AY rfl rfl rfl ha (aq _ _) (by omega) (fun afu t RU MO=>?_);rw[ay]at RU;have Px:=aA RU;have KO:=hF.term Px;refine cX (M:=M1) (A:=RT.fd) dH rfl AY (by decide) rfl rfl rfl MO (aq _ _) (fun afv MR=>?_);obtain rfl:=tf MR;refine dP M1 AY rfl (fun zc Yl apf apg pq qv=>?_);obtain⟨wX,MS⟩:∃M',M'=ins M1 zc:=⟨_,rfl⟩;rw[←MS]at qv;have Ci:wX zc:=by rw[MS];exact .inl rfl
     change Yl.heap[zc]? =some (.cells #[.string ⟨#[]⟩,.string ⟨#[]⟩] _ _)at pq;have:=ak gb;replace ef:=(qv.mem _ this).2 ef;replace gb:=qv.aK gb;replace dn:=dn.le (by decide) qv.le;replace ha:=ha.le qv.le;replace qH:=qH.le qv.le;replace ho:=ho.aP qv;replace eX:=(qv.mem _ (ak hW.at_)).2 eX;replace hW:=hW.aP qv;replace hR:=hR.aP qv;replace hM:=qv.lt hM;have:=S.size;replace S:=S.aB qv;refine ah rfl rfl ?_;refine dC (M:=wX) (vs:=[.string ⟨t.1.toArray⟩,.string ⟨t.2.toArray⟩]) AY rfl rfl (vN rfl MR) rfl rfl pq Ci (fun w9 g9 s9=>?_);have:=ak gb;replace ef:=(s9.mem _ this).2 ef;replace gb:=s9.keep gb (fun hk=>by have hk:_=_:=hk;omega);have:=ak pq;replace Ci:=(s9.mem _ this).2 Ci;replace dn:=dn.le (by decide) s9.le;replace ha:=ha.le s9.le;replace qH:=qH.le s9.le;replace ho:=ho.step s9 (fun c hc (h:_=_)=>by first|exact ho.eI gb (by decide) (h▸hc)|exact ho.eI pq (by decide) (h▸hc));replace eX:=(s9.mem _ (ak hW.at_)).2 eX;replace hW:=hW.step s9 (by first|exact fun h=>ho.kQ hW.at_ h|exact fun(h:mb=b)=>R1 h.symm|exact fun(h:mb=zc)=>by have h9:=hW.at_;rw[h,pq]at h9;cases h9);replace hR:=hR.step s9 (by first|exact fun k v c hv hc h=>(hR.o k v hv).dz ho (by decide) hc h|exact fun k v c hv hc (h:c=b)=>(hR.o k v hv).eI gb (by decide) (h▸hc)|exact fun k v c hv hc (h:c=zc)=>(hR.o k v hv).eI pq (by decide) (h▸hc));replace hM:=s9.lt hM;have:=S.size;replace S:=S.trans s9 (fun k hk h=>by have h:_=_:=h;subst h;first|(exfalso;omega)|(show _≤_;omega)|exact⟨by first|omega|assumption,(S.mem _ hk).1 ((s9.mem _ (ak pq)).1 Ci)⟩|exact .inl rfl|exact .inr rfl|exact .inr (.inl rfl)|exact .inr (.inr rfl)|exact .inr (.inr (.inl rfl))|exact rfl);have R8:=g9;clear pq;have pq:=R8;clear R8;refine ab (aj (ae (fE (vs:=[.string ⟨t.1.toArray⟩,.string ⟨t.2.toArray⟩]) dH rfl AY rfl rfl rfl pq ?_)))
     refine aX rfl rfl E80 (Mh (t:=t) _ hM (by omega) (by omega)) (fun r10 w10 hc=>?_);obtain⟨rfl,yP⟩:=hc;have:=ak gb;replace ef:=(yP.mem _ this).2 ef;replace gb:=yP.aK gb;replace dn:=dn.le (by decide) yP.le;replace ha:=ha.le yP.le;replace qH:=qH.le yP.le;replace ho:=ho.aP yP;replace eX:=(yP.mem _ (ak hW.at_)).2 eX;replace hW:=hW.aP yP;replace hR:=hR.aP yP;replace hM:=yP.lt hM;have:=S.size;replace S:=S.aB yP;refine ah rfl rfl (ab ?_);obtain⟨v10,lP⟩:=ej.ex kP es (sv (gE t));apply T.pJ 21 [0,1,2,3,4,5,6,7,8,9,10] 2 (fz v10) mixed rfl rfl rfl rfl;intro MT MU;have jh:=MU wX;have:=ak gb;replace ef:=(jh.mem _ this).2 ef;replace gb:=jh.aK gb;replace dn:=dn.le (by decide) jh.le;replace ha:=ha.le jh.le;replace qH:=qH.le jh.le;replace ho:=ho.aP jh;replace eX:=(jh.mem _ (ak hW.at_)).2 eX;replace hW:=hW.aP jh;replace hR:=hR.aP jh;replace hM:=jh.lt hM;have:=S.size;replace S:=S.aB jh;refine ad rfl rfl ?_;refine ab ⟨rfl,rfl,rfl,?_⟩;refine bS rfl ⟨_,rfl⟩ rfl ?_;refine ab ⟨rfl,rfl,rfl,?_⟩;refine bG (o':=1) dQ rfl rfl GH (by decide) rfl rfl ?_;refine ab ⟨rfl,rfl,rfl,?_⟩;refine aM iG rfl rfl rfl (by first|assumption|exact cW jh (by assumption)) rfl ?_;refine ab ⟨rfl,rfl,rfl,?_⟩;refine ad rfl rfl ?_;refine ab ⟨rfl,rfl,rfl,?_⟩;refine ad rfl rfl ?_;refine ab ⟨rfl,rfl,rfl,?_⟩;refine bS rfl ⟨_,rfl⟩ rfl ?_;refine ab ⟨rfl,rfl,rfl,?_⟩;refine bG (o':=1) dQ rfl rfl GH (by decide) rfl rfl ?_;refine ab ⟨rfl,rfl,rfl,?_⟩;refine aM iG rfl rfl rfl (by first|assumption|exact cW jh (by assumption)) rfl ?_;refine ab ⟨rfl,rfl,rfl,?_⟩;refine ad rfl rfl ?_;refine ab ⟨rfl,rfl,rfl,?_⟩;obtain⟨kl,FK⟩:=MG (gE t) (by unfold gE;simp;omega);refine Rg.tZ iG uv xy rfl rfl rfl FK hW (fun afw afx=>?_)
     obtain rfl:v10=afw:=hW.val_one lP afx;have tz:=Qp hLF (pQ e) i (gE t);have IN:(db (pQ e)).length≤500:=Bh hF;refine ab ⟨rfl,rfl,rfl,?_⟩;refine ad rfl rfl ?_;refine ab ⟨rfl,rfl,rfl,?_⟩;refine bS rfl ⟨_,rfl⟩ rfl ?_;refine ab ⟨rfl,rfl,rfl,?_⟩;refine bG (o':=0) dQ rfl rfl Zm (by decide) rfl rfl ?_;refine ab ⟨rfl,rfl,rfl,?_⟩;refine aM ik rfl rfl rfl (by first|assumption|exact cW jh (by assumption)) rfl ?_;refine ab ⟨rfl,rfl,rfl,?_⟩;refine fM ik rfl ho rfl ?_;refine ab ⟨rfl,rfl,rfl,?_⟩;refine ad rfl rfl ?_;refine ab ⟨rfl,rfl,rfl,?_⟩;refine ad rfl rfl ?_;refine ab ⟨rfl,rfl,rfl,?_⟩;refine cy (M:=wX) cK jL rfl rfl rfl qH (aq _ _) (by simp;omega) (fun u18 ps Zo U6=>?_);rw[ay,bC,RU]at Zo;obtain rfl:=aH Zo;refine ab ⟨rfl,rfl,rfl,?_⟩;refine bT (M:=wX) an rfl rfl rfl rfl rfl U6 (aq _ _) (fun v19 Qq=>?_);refine ab ⟨rfl,rfl,rfl,?_⟩;refine iC (places:=[(0,1),(1,1)]) bI lM X3 rfl ⟨_,_,rfl,rfl,_,_,rfl,rfl,rfl⟩ (out:=[_,_]) ⟨0,[_],rfl,rfl,by simp[Value.cells],1,[_],rfl,ju Qq,by simp[Value.cells],rfl⟩ ?_;have CU:RT.po.V wX _ ((L.length:Int),posOf (pQ e) t) _:=eS (fV (by omega)) Qq rfl rfl rfl rfl;refine ab ⟨rfl,rfl,rfl,?_⟩;refine ew ?_;have si:=hR.o _ _ lP;refine⟨iB ⟨gP,⟨bX.nilCheck rfl,⟨iz dQ rfl GH (by decide),⟨ey rfl gb (fun h=>si.eI gb (by decide) h),⟨gP,⟨gP,⟨bX.nilCheck rfl,⟨iz dQ rfl GH (by decide),⟨ey rfl gb (fun h=>si.eI gb (by decide) h),⟨gP,⟨bX.tZ iG uv xy rfl rfl FK hW (fun h=>si.kQ hW.at_ h),trivial⟩⟩⟩⟩⟩⟩⟩⟩⟩⟩⟩,?_⟩;have kp:=jF (fz v10) MT;refine ed (A:=RT.po) (hn:=by decide) (M:=wX) br lM (by decide) rfl rfl hM (CU) (.inl rfl) (fun afy afz Qr mI=>?_)
     have:=ak gb;replace ef:=(mI.mem _ this).2 ef;replace gb:=mI.aK gb;replace dn:=dn.le (by decide) mI.le;replace ha:=ha.le mI.le;replace qH:=qH.le mI.le;replace ho:=ho.aP mI;replace eX:=(mI.mem _ (ak hW.at_)).2 eX;replace hW:=hW.aP mI;replace hR:=hR.aP mI;replace hM:=mI.lt hM;have:=S.size;replace S:=S.aB mI;refine(fun(kp:eF _ _ _)=>ab ⟨rfl,rfl,fun _=>kp,?_⟩) (by first|exact kp|exact kp.rB (by assumption)|exact kp.goN (by assumption)|exact kp.go (by assumption) (fun _ _ h=>by first|exact h|exact h.elim));refine nY (M:=wX) (base:=B) br lM rfl rfl rfl rfl (hR.o _ _ lP) Qr (aq _ _) (by simp;omega) (by simp;omega) (by have:=S.size;omega) (fun v22 w22 afA MV afB=>?_);have si:=hR.o _ _ lP;have akO:=hW.at_;have Zp:v10.ownBlock≠some mb:=si.kQ hW.at_;have R9:=ho.step MV (fun c hc h=>ho.dz si (by decide) hc h);have GI:=(MV.mem _ (ak hW.at_)).2 eX;have Qs:=hW.step MV Zp;have Zq:=MV.keep gb (fun h=>si.eI gb (by decide) h);have U7:=(MV.mem _ (ak gb)).2 ef;have S22:=S.trans MV (fun k hk h=>⟨hR.z _ _ k lP h,(S.mem k hk).1 (si.mut_ k h)⟩);have afC:=MV.lt hM;replace dn:=dn.le (by decide) MV.le;replace ha:=ha.le MV.le;replace qH:=qH.le MV.le;refine(fun(kp:eF _ _ _)=>ab ⟨rfl,rfl,fun _=>kp,?_⟩) (by first|exact kp|exact kp.rB (by assumption)|exact kp.goN (by assumption)|exact kp.go (by assumption) (fun _ _ h=>by first|exact h|exact h.elim));refine Rg.Qf iG uv rfl rfl rfl FK Qs GI (fun w23 afD afE afF afG U8 O3=>?_);have afH:=hR.put (fun c hc=>hZ c (by have:=S.size;omega)) lP afA MV afB Qs.at_ O3 U8 afG;replace dn:=dn.le (by decide) O3.le;replace ha:=ha.le O3.le;replace qH:=qH.le O3.le;have afI:=R9.step O3 (fun c hc (h:c=mb)=>R9.kQ Qs.at_ (h▸hc));have afJ:=O3.keep Zq R1;have U9:=(O3.mem _ (ak Zq)).2 U7
     have Va:=(O3.mem _ (ak Qs.at_)).2 GI;have afK:=O3.lt afC;have S23:=S22.trans O3 (fun k hk (h:k=mb)=>⟨by rw[h];exact H0,(S22.mem k hk).1 (by rw[h];exact GI)⟩);refine ab ⟨rfl,rfl,fun h=>absurd rfl h,?_⟩;refine mN (ae (bF rfl rfl rfl (by omega) (ad rfl rfl (ab ?_))));refine⟨rfl,i+1,(.cons rfl (.cons rfl (.cons rfl (.cons rfl (.cons rfl (.cons rfl .nil)))))),?_,?_⟩
     ·exact⟨_,afD,afE,afK,S23,dn,ha,qH,⟨afJ,U9,Va,hB,H0,afI,afF,afH.congr (fun k=>MK RU k) (fun k=>by rw[bK,RU,cT,eA,cp,or_assoc];simp),zl⟩,by omega⟩
     ·omega
    ·refine cG (aj ?_);apply T.pJ 6 [0,1,2,3,4] 3 (fz vl) mixed rfl rfl rfl rfl;intro Uu Uv;have pf:=Uv M1;have:=ak gb;replace ef:=(pf.mem _ this).2 ef;replace gb:=pf.aK gb;replace dn:=dn.le (by decide) pf.le;replace ha:=ha.le pf.le;replace qH:=qH.le pf.le;replace ho:=ho.aP pf;replace eX:=(pf.mem _ (ak hW.at_)).2 eX;replace hW:=hW.aP pf;replace hR:=hR.aP pf;replace hM:=pf.lt hM;have:=S.size;replace S:=S.aB pf;refine ad rfl rfl ?_;refine ab ⟨rfl,rfl,rfl,?_⟩;refine ad rfl rfl ?_;refine ab ⟨rfl,rfl,rfl,?_⟩;refine bS rfl ⟨_,rfl⟩ rfl ?_;refine ab ⟨rfl,rfl,rfl,?_⟩;refine bG (o':=0) dQ rfl rfl Zm (by decide) rfl rfl ?_;refine ab ⟨rfl,rfl,rfl,?_⟩;refine aM ik rfl rfl rfl gb rfl (aV (v':=vl) rfl ?_);refine ab ⟨rfl,rfl,rfl,?_⟩;refine cX (M:=M1) (A:=RT.en) dW rfl HK (by decide) rfl rfl rfl dn (aq _ _) (fun RQ B7=>?_);refine ab ⟨rfl,rfl,rfl,?_⟩;refine ew ?_;refine⟨iB ⟨gP,⟨gP,⟨bX.nilCheck rfl,⟨iz dQ rfl Zm (by decide),⟨ey rfl gb (fun h=>ho.eI gb (by decide) h),trivial⟩⟩⟩⟩⟩,?_⟩;have kp:=jF (fz vl) Uu;refine aX rfl rfl E88 (Mw _ hM B7 (by have:=hF.few;omega)) (fun akQ w13 hc=>?_);obtain⟨GK,CV⟩:=hc;have:=ak gb;replace ef:=(CV.mem _ this).2 ef;replace gb:=CV.aK gb;replace dn:=dn.le (by decide) CV.le;replace ha:=ha.le CV.le;replace qH:=qH.le CV.le;replace ho:=ho.aP CV;replace eX:=(CV.mem _ (ak hW.at_)).2 eX;replace hW:=hW.aP CV;replace hR:=hR.aP CV;replace hM:=CV.lt hM;have:=S.size;replace S:=S.aB CV;refine(fun(kp:eF _ _ _)=>ab ⟨rfl,rfl,fun _=>kp,?_⟩) (by first|exact kp|exact kp.rB (by assumption)|exact kp.goN (by assumption)|exact kp.go (by assumption) (fun _ _ h=>by first|exact h|exact h.elim));refine ed (A:=RT.en) (hn:=by decide) (M:=M1) ik HK (by decide) rfl rfl hM (GK) (.inl rfl) (fun akS akT Vb pR=>?_)
     have:=ak gb;replace ef:=(pR.mem _ this).2 ef;replace gb:=pR.aK gb;replace dn:=dn.le (by decide) pR.le;replace ha:=ha.le pR.le;replace qH:=qH.le pR.le;replace GK:=GK.le pR.le;replace ho:=ho.aP pR;replace eX:=(pR.mem _ (ak hW.at_)).2 eX;replace hW:=hW.aP pR;replace hR:=hR.aP pR;replace hM:=pR.lt hM;have:=S.size;replace S:=S.aB pR;refine(fun(kp:eF _ _ _)=>ab ⟨rfl,rfl,fun _=>kp,?_⟩) (by first|exact kp|exact kp.rB (by assumption)|exact kp.goN (by assumption)|exact kp.go (by assumption) (fun _ _ h=>by first|exact h|exact h.elim));refine nY (M:=M1) (base:=B) ik HK rfl rfl rfl rfl ho Vb (aq _ _) (by simp;omega) (by simp;omega) (by have:=S.size;omega) (fun Ei akU Vc wY afL=>?_);replace ef:=(wY.mem _ (ak gb)).2 ef
     have zl':∀c,Ei.ownBlock=some c→Z c:=fun c hc=>by
      rcases afL c hc with h|h
      ·exact hZ c (by have:=S.size;omega)
      ·exact zl c h
     replace hR:=hR.step wY (fun k v c hv hc h=>(hR.o k v hv).dz ho (by decide) hc h);replace eX:=(wY.mem _ (ak hW.at_)).2 eX;replace hW:=hW.step wY (fun h=>ho.kQ hW.at_ h);replace gb:=wY.keep gb (fun h=>ho.eI gb (by decide) h);replace dn:=dn.le (by decide) wY.le;replace S:=S.trans wY (fun k hk h=>⟨zl k h,(S.mem k hk).1 (ho.mut_ k h)⟩);replace hM:=wY.lt hM;replace ho:=Vc;obtain⟨H7,MW⟩:∃M',M'=jz M1 Ei:=⟨_,rfl⟩;rw[←MW]at hR eX dn S hM ho ef;refine(fun(kp:eF _ _ _)=>ab ⟨rfl,rfl,fun _=>kp,?_⟩) (by first|exact kp|exact kp.rB (by assumption)|exact kp.goN (by assumption)|exact kp.go (by assumption) (fun _ _ h=>by first|exact h|exact h.elim));refine bS rfl ⟨_,rfl⟩ rfl ?_;refine ab ⟨rfl,rfl,fun h=>absurd rfl h,?_⟩;refine bG (o':=0) dQ rfl rfl Zm (by decide) rfl rfl ?_;refine ab ⟨rfl,rfl,fun h=>absurd rfl h,?_⟩;refine cu (M:=H7) Zm rfl rfl gb rfl (by obtain⟨_,_,he,_⟩:=ho.isSlice;rw[he];rfl) ef (fun Vd MX pv=>?_);change Vd.heap[_]? =some (Obj.cells #[Ei,.map (some mb),.int .i64 words,.int .i64 last] _ _)at MX;have:=ak gb;replace ef:=(pv.mem _ this).2 ef;replace dn:=dn.le (by decide) pv.le;replace ho:=ho.step pv (fun c hc (h:_=_)=>by first|exact ho.eI gb (by decide) (h▸hc)|exact ho.eI pq (by decide) (h▸hc));replace eX:=(pv.mem _ (ak hW.at_)).2 eX;replace hW:=hW.step pv (by first|exact fun h=>ho.kQ hW.at_ h|exact fun(h:mb=b)=>R1 h.symm|exact fun(h:mb=zc)=>by have h9:=hW.at_;rw[h,pq]at h9;cases h9);replace hR:=hR.step pv (by first|exact fun k v c hv hc h=>(hR.o k v hv).dz ho (by decide) hc h|exact fun k v c hv hc (h:c=b)=>(hR.o k v hv).eI gb (by decide) (h▸hc)|exact fun k v c hv hc (h:c=zc)=>(hR.o k v hv).eI pq (by decide) (h▸hc));replace hM:=pv.lt hM;have:=S.size;replace S:=S.trans pv (fun k hk h=>by have h:_=_:=h;subst h;first|(exfalso;omega)|(show _≤_;omega)|exact⟨by first|omega|assumption,(S.mem _ hk).1 ((pv.mem _ (ak gb)).1 ef)⟩|exact .inl rfl|exact .inr rfl|exact .inr (.inl rfl)|exact .inr (.inr rfl)|exact .inr (.inr (.inl rfl))|exact rfl)
     have Me:=MX;clear gb;have gb:=Me;clear Me;refine ab ⟨rfl,rfl,fun h=>absurd rfl h,?_⟩;refine mN (aj ?_);apply T.pJ 6 [0,1,2,3] 1 aC mixed rfl rfl rfl rfl;intro Ve MY;have rE:=MY H7;have:=ak gb;replace ef:=(rE.mem _ this).2 ef;replace gb:=rE.aK gb;replace dn:=dn.le (by decide) rE.le;replace ho:=ho.aP rE;replace eX:=(rE.mem _ (ak hW.at_)).2 eX;replace hW:=hW.aP rE;replace hR:=hR.aP rE;replace hM:=rE.lt hM;have:=S.size;replace S:=S.aB rE;refine ad rfl rfl ?_;refine ab ⟨rfl,rfl,rfl,?_⟩;refine bS rfl ⟨_,rfl⟩ rfl ?_;refine ab ⟨rfl,rfl,rfl,?_⟩;refine bG (o':=2) dQ rfl rfl I3 (by decide) rfl rfl ?_;refine ab ⟨rfl,rfl,rfl,?_⟩;refine aM ax rfl rfl rfl (by first|assumption|exact cW rE (by assumption)) rfl ?_;refine ab ⟨rfl,rfl,rfl,?_⟩;refine aN (M:=H7) (A:=RT.en) (B:=RT.dc) dW rfl rfl o5 (by decide) YK rfl rfl (by decide) dn (aq _ _) (fun akV Vf=>?_);refine ab ⟨rfl,rfl,rfl,?_⟩;refine cX (M:=H7) (A:=RT.dc) bg rfl o5 (by decide) rfl rfl rfl Vf (aq _ _) (fun akW Vg=>?_);refine ab ⟨rfl,rfl,rfl,?_⟩;refine ew ?_;refine⟨iB ⟨gP,⟨bX.nilCheck rfl,⟨iz dQ rfl I3 (by decide),⟨ey rfl gb (fun h=>h),trivial⟩⟩⟩⟩,?_⟩;have kp:=jF aC Ve;refine aX rfl rfl E89 (DY _ hM Vg hl hF.few) (fun r14 UH hc=>?_);obtain⟨rfl,jW⟩:=hc;have:=ak gb;replace ef:=(jW.mem _ this).2 ef;replace gb:=jW.aK gb;replace dn:=dn.le (by decide) jW.le;replace ho:=ho.aP jW;replace eX:=(jW.mem _ (ak hW.at_)).2 eX;replace hW:=hW.aP jW;replace hR:=hR.aP jW;replace hM:=jW.lt hM;have:=S.size;replace S:=S.aB jW;refine(fun(kp:eF _ _ _)=>ab ⟨rfl,rfl,fun _=>kp,?_⟩) (by first|exact kp|exact kp.rB (by assumption)|exact kp.goN (by assumption)|exact kp.go (by assumption) (fun _ _ h=>by first|exact h|exact h.elim))
     have:=hF.many;refine bF rfl rfl rfl (by omega) ?_;refine ab ⟨rfl,rfl,fun h=>absurd rfl h,?_⟩;refine bS rfl ⟨_,rfl⟩ rfl ?_;refine ab ⟨rfl,rfl,fun h=>absurd rfl h,?_⟩;refine bG (o':=2) dQ rfl rfl I3 (by decide) rfl rfl ?_;refine ab ⟨rfl,rfl,fun h=>absurd rfl h,?_⟩;refine cu (M:=H7) I3 rfl rfl gb rfl (rfl) ef (fun Vh MZ pw=>?_);change Vh.heap[_]? =some (Obj.cells #[Ei,.map (some mb),.int .i64 (words+((pQ e).length:Int)),.int .i64 last] _ _)at MZ;have:=ak gb;replace ef:=(pw.mem _ this).2 ef;replace dn:=dn.le (by decide) pw.le;replace ho:=ho.step pw (fun c hc (h:_=_)=>by first|exact ho.eI gb (by decide) (h▸hc)|exact ho.eI pq (by decide) (h▸hc));replace eX:=(pw.mem _ (ak hW.at_)).2 eX;replace hW:=hW.step pw (by first|exact fun h=>ho.kQ hW.at_ h|exact fun(h:mb=b)=>R1 h.symm|exact fun(h:mb=zc)=>by have h9:=hW.at_;rw[h,pq]at h9;cases h9);replace hR:=hR.step pw (by first|exact fun k v c hv hc h=>(hR.o k v hv).dz ho (by decide) hc h|exact fun k v c hv hc (h:c=b)=>(hR.o k v hv).eI gb (by decide) (h▸hc)|exact fun k v c hv hc (h:c=zc)=>(hR.o k v hv).eI pq (by decide) (h▸hc));replace hM:=pw.lt hM;have:=S.size;replace S:=S.trans pw (fun k hk h=>by have h:_=_:=h;subst h;first|(exfalso;omega)|(show _≤_;omega)|exact⟨by first|omega|assumption,(S.mem _ hk).1 ((pw.mem _ (ak gb)).1 ef)⟩|exact .inl rfl|exact .inr rfl|exact .inr (.inl rfl)|exact .inr (.inr rfl)|exact .inr (.inr (.inl rfl))|exact rfl);have Me:=MZ;clear gb;have gb:=Me;clear Me;refine ab ⟨rfl,rfl,fun h=>absurd rfl h,?_⟩;refine mN (aj (ae (ad rfl rfl ?_)));refine aN (M:=H7) (A:=RT.en) (B:=RT.int .i64) dW rfl rfl I3 (by decide) en1 rfl rfl (by decide) dn (aq _ _) (fun akX afM=>?_);refine cb (M:=H7) ax rfl rfl (by assumption) (by repeat (first|exact aq _ _|refine a8 (bD (by assumption)) ?_)) (fun Na=>?_)
     refine aV (v':= .int .i64 (e.2)) rfl ?_;replace Na: -9223372036854775808≤(e.2:Int)∧e.2≤9223372036854775807:=Na;refine bS rfl ⟨_,rfl⟩ rfl (bG (o':=3) dQ rfl rfl I3 (by decide) rfl rfl ?_);refine cu (M:=H7) I3 rfl rfl gb rfl (rfl) ef (fun Sa Sb j3=>?_);change Sa.heap[_]? =some (Obj.cells #[Ei,.map (some mb),.int .i64 (words+((pQ e).length:Int)),.int .i64 e.2] _ _)at Sb;have:=ak gb;replace ef:=(j3.mem _ this).2 ef;replace dn:=dn.le (by decide) j3.le;replace ho:=ho.step j3 (fun c hc (h:_=_)=>by first|exact ho.eI gb (by decide) (h▸hc)|exact ho.eI pq (by decide) (h▸hc));replace eX:=(j3.mem _ (ak hW.at_)).2 eX;replace hW:=hW.step j3 (by first|exact fun h=>ho.kQ hW.at_ h|exact fun(h:mb=b)=>R1 h.symm|exact fun(h:mb=zc)=>by have h9:=hW.at_;rw[h,pq]at h9;cases h9);replace hR:=hR.step j3 (by first|exact fun k v c hv hc h=>(hR.o k v hv).dz ho (by decide) hc h|exact fun k v c hv hc (h:c=b)=>(hR.o k v hv).eI gb (by decide) (h▸hc)|exact fun k v c hv hc (h:c=zc)=>(hR.o k v hv).eI pq (by decide) (h▸hc));replace hM:=j3.lt hM;have:=S.size;replace S:=S.trans j3 (fun k hk h=>by have h:_=_:=h;subst h;first|(exfalso;omega)|(show _≤_;omega)|exact⟨by first|omega|assumption,(S.mem _ hk).1 ((j3.mem _ (ak gb)).1 ef)⟩|exact .inl rfl|exact .inr rfl|exact .inr (.inl rfl)|exact .inr (.inr rfl)|exact .inr (.inr (.inl rfl))|exact rfl);have Me:=Sb;clear gb;have gb:=Me;clear Me;refine ab (aj (ae (ah rfl rfl (ab (aO ?_)))));have ea:mX last e=0:=by unfold mX;rw[if_neg (fun h=>h (by simpa using c2)),if_neg c4]
     exact aS rfl rfl ⟨_,hM,S,by rw[ea],fun h=>absurd ea h,fun _=>⟨mb,_,es,clock,gb,ef,eX,hB,H0,ho,hW,hR.congr (fun k=>(Qo (by omega) k).symm) (fun k=>by rw[GB,cp,aW (by omega)]),zl'⟩⟩
end Go.K

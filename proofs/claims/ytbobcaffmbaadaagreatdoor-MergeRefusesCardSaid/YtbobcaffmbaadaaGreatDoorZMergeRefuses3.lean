/- What the law 'MergeRefuses' needs of walks and plain Lean, part 3: nothing is assumed beyond the texts that it imports. -/
import Derived.Deep.Draws
import Derived.DeepKeys4
import Derived.Ground.GgzProg
import Derived.Ground.SlgmProg
import Derived.Ground.SlsfProg
import Derived.KernelRfl
import Derived.Lib.Bytealg
import Derived.Shelf.SlGeneric
import Derived.Shelf.SlIter.Nil
import Derived.Shelf.SlIterI.Nil
import Derived.Shelf.SlSortCmp.NoneTotal
import Derived.Shelf.SortM.Plain
import Derived.Shelf.SortM.SortNone
import Derived.Sort.Grow
import Derived.Sort.KeysCollected
import Derived.Sort.Walk0
import Derived.Test.YtbobcaffmbaadaaGreatDoorProg
import Derived.Test.YtbobcaffmbaadaaGreatDoorZMergeRefuses1
import Derived.Test.YtbobcaffmbaadaaGreatDoorZMergeRefuses2
set_option linter.unusedVariables false
set_option linter.unusedSimpArgs false
theorem mT:type_of% @Go.K.Rg.invoke:=@Go.K.Rg.invoke
theorem vU:type_of% @Go.K.Rg.qz:=@Go.K.Rg.qz
theorem vW:type_of% @Go.K.Rg.sL:=@Go.K.Rg.sL
theorem xp:type_of% @Go.K.Rg.mn:=@Go.K.Rg.mn
namespace Go.K
open Go.Proofs
set_option maxRecDepth 10000
theorem Az {M:aC} {d:Dc} {v0:Value} (w0:World) (hM:Lt M w0) (hv:RT.dc.V M w0 d v0) (hl:∀f∈d.2,f.1.length≤900000∧f.2.length≤900000):
  Spec Tryz.prog 94 #[v0] w0 (fun v w=>v= .int .i64 (lR d)∧Step M w0 M w aD):=by
 have lC:=hM;refine bc (args:=[_]) (fn:=Tryz.f94) Tryz.func94 rfl (n:=66) Tryz.ntmps94 ?_;have S:Step M w0 M w0 aD:=(ax _ _).cG (fun _ h=>h.elim) (fun _ h=>h.elim);refine aj (ae ?_);refine vU (A:=RT.dc) rfl rfl hM hv rfl (fun u0 w1 dp s0 _=>?_);replace hM:=s0.lt hM;have:=S.size;replace S:=S.aB s0;refine ah rfl rfl (ab (aj (aj (ae ?_))));refine aS (M:=M) (A:=RT.dc) (B:=(RT.fd).sl) a8 rfl rfl vh (by decide) (Iq) rfl rfl (by decide) (by assumption) (by repeat (first|exact aq _ _|refine aY (bu (by assumption)) ?_)) (fun BB nc=>?_);refine bV (M:=M) bj rfl rfl rfl rfl rfl (by assumption) (by repeat (first|exact aq _ _|refine aY (bu (by assumption)) ?_)) (fun zO nf=>?_);refine bJ bj rfl nf rfl (jc rfl rfl rfl (ab ?_));refine bP rfl (fun c1=>?_) (fun c1=>?_)
 ·refine aj (ae (ah rfl rfl (ab (aN ?_))));exact aU rfl rfl ⟨by rw[lR,if_pos (by omega)],S.back⟩
 ·refine aT (aj (ae (ah rfl rfl (ab (aj (aj (ae (ah rfl rfl (ab (aZ ?_))))))))));refine dn (σ:=Nat×Nat) (fun q=>[(1,u0),(3,.int .i64 (q.2:Int)),(4,.int .i64 (q.1:Int))]) (fun q w=>Lt M w∧Step M w0 M w aD∧dg RT.dc M w u0 d∧lR d=zN (d.2.take q.1) (d.2.drop q.1) q.2∧q.1≤d.2.length∧q.2≤900001*q.1∧d.2.length≤8) (fun q=>d.2.length-q.1) (0,0) (.cons rfl (.cons rfl (.cons rfl .nil))) ?_ ?_
  ·exact⟨hM,S,dp,by rw[lR,if_neg (by omega)];rfl,bG _,aR _,by omega⟩
  ·rintro⟨i,n⟩ w ⟨hM,S,dp,FE,hi,hn,hd8⟩;dsimp only at FE hi hn ⊢;refine aj (aj (ae (ad rfl rfl ?_)));refine aS (M:=M) (A:=RT.dc) (B:=(RT.fd).sl) a8 rfl rfl vh (by decide) (Iq) rfl rfl (by decide) (by assumption) (by repeat (first|exact aq _ _|refine aY (bu (by assumption)) ?_)) (fun adv QU=>?_);refine bV (M:=M) bj rfl rfl rfl rfl rfl (by assumption) (by repeat (first|exact aq _ _|refine aY (bu (by assumption)) ?_)) (fun adw QV=>?_);refine bJ bj rfl QV rfl (cf rfl rfl rfl (ab ?_));refine bP rfl (fun c5=>?_) (fun c5=>?_)
   ·refine aT (aj (aZ (aj (ae ?_))));refine aS (M:=M) (A:=RT.dc) (B:=(RT.fd).sl) a8 rfl rfl vh (by decide) (Iq) rfl rfl (by decide) (by assumption) (by repeat (first|exact aq _ _|refine aY (bu (by assumption)) ?_)) (fun XK Hh=>?_);refine bV (M:=M) bj rfl rfl rfl rfl rfl (by assumption) (by repeat (first|exact aq _ _|refine aY (bu (by assumption)) ?_)) (fun adx QW=>?_);refine ad rfl rfl ?_;refine cF (M:=M) bj kD rfl rfl rfl QW (aq _ _) (by omega) (fun anf x Db aiY=>?_);rw[ay]at Db;refine aS (M:=M) (A:=RT.fd) (B:=RT.str) cv rfl rfl I9 (by decide) (V5) rfl rfl (by decide) (by assumption) (by repeat (first|exact aq _ _|refine aY (bu (by assumption)) ?_)) (fun ang XL=>?_);refine bV (M:=M) aH rfl rfl rfl rfl rfl XL (aq _ _) (fun anh XM=>?_);obtain rfl:=ix XM;have kC:=Hf (n:=n) Db;have qU:=hl _ (aA Db);refine aX rfl rfl E93 (yt x.1 (by omega) _) (fun r7 w7 hc=>?_);obtain⟨rfl,rfl⟩:=hc;refine ah rfl rfl (ab (aj (aj (ae (ad rfl rfl (mS rfl rfl (aV (v':= .bool (decide (gr x.1=false))) (by cases gr x.1<;>rfl) (ab ?_))))))));refine bP rfl (fun c8=>?_) (fun c8=>?_)
    ·refine aj (ae (ah rfl rfl (ab (aN ?_))));exact aU rfl rfl ⟨by rw[FE,kC,if_pos (by assumption)],S.back⟩
    ·refine aT (aj (aj (ae (ah rfl rfl (ab (aZ ?_))))));refine dn (σ:=Nat) (fun j=>[(1,u0),(3,.int .i64 (n:Int)),(4,.int .i64 (i:Int)),(6,.int .i64 (j:Int))]) (fun j w=>Lt M w∧Step M w0 M w aD∧dg RT.dc M w u0 d∧j≤i∧∀k y,k<j→d.2[k]? =some y→y.1≠x.1) (fun j=>i-j) 0 (.cons rfl (.cons rfl (.cons rfl (.cons rfl .nil)))) ?_ ?_
     ·exact⟨hM,S,dp,bG _,fun k c h=>absurd h (Nat.not_lt_zero k)⟩
     ·rintro j w ⟨hM,S,dp,hj,j9⟩;refine aj (aj (ae (ad rfl rfl (ad rfl rfl (cf rfl rfl rfl (ab ?_))))));refine bP rfl (fun Fv=>?_) (fun Fv=>?_)
      ·refine aT (aj (aZ (aj ?_)));apply uO mixed rfl rfl;intro Ty Tz;have o7:=Tz M;replace dp:=dp.le (by decide) o7.le;replace hM:=o7.lt hM;have:=S.size;replace S:=S.aB o7;refine aS (M:=M) (A:=RT.dc) (B:=(RT.fd).sl) a8 rfl rfl vh (by decide) (Iq) rfl rfl (by decide) (by assumption) (by repeat (first|exact aq _ _|refine aY (bu (by assumption)) ?_)) (fun aiZ ady=>?_);refine ab ⟨rfl,rfl,rfl,?_⟩;refine bV (M:=M) bj rfl rfl rfl rfl rfl (by assumption) (by repeat (first|exact aq _ _|refine aY (bu (by assumption)) ?_)) (fun ai0 TA=>?_);refine ab ⟨rfl,rfl,rfl,?_⟩;refine ad rfl rfl ?_;refine ab ⟨rfl,rfl,rfl,?_⟩;refine cF (M:=M) bj kD rfl rfl rfl TA (aq _ _) (by omega) (fun QX y FF fZ=>?_);rw[ay]at FF;refine ab ⟨rfl,rfl,rfl,?_⟩;refine aS (M:=M) (A:=RT.fd) (B:=RT.str) cv rfl rfl I9 (by decide) (V5) rfl rfl (by decide) (by assumption) (by repeat (first|exact aq _ _|refine aY (bu (by assumption)) ?_)) (fun fV yu=>?_);refine ab ⟨rfl,rfl,rfl,?_⟩;refine bV (M:=M) aH rfl rfl rfl rfl rfl yu (aq _ _) (fun QY BC=>?_);obtain rfl:=ix BC;refine ab ⟨rfl,rfl,rfl,?_⟩;refine aS (M:=M) (A:=RT.dc) (B:=(RT.fd).sl) a8 rfl rfl vh (by decide) (Iq) rfl rfl (by decide) (by assumption) (by repeat (first|exact aq _ _|refine aY (bu (by assumption)) ?_)) (fun ai1 adz=>?_);refine ab ⟨rfl,rfl,rfl,?_⟩;refine bV (M:=M) bj rfl rfl rfl rfl rfl (by assumption) (by repeat (first|exact aq _ _|refine aY (bu (by assumption)) ?_)) (fun ai2 TB=>?_);refine ab ⟨rfl,rfl,rfl,?_⟩;refine ad rfl rfl ?_;refine ab ⟨rfl,rfl,rfl,?_⟩;refine cF (M:=M) bj kD rfl rfl rfl TB (aq _ _) (by omega) (fun ai3 z KX adA=>?_)
       rw[ay]at KX;refine ab ⟨rfl,rfl,rfl,?_⟩;refine aS (M:=M) (A:=RT.fd) (B:=RT.str) cv rfl rfl I9 (by decide) (V5) rfl rfl (by decide) (by assumption) (by repeat (first|exact aq _ _|refine aY (bu (by assumption)) ?_)) (fun adB OX=>?_);refine ab ⟨rfl,rfl,rfl,?_⟩;refine bV (M:=M) aH rfl rfl rfl rfl rfl OX (aq _ _) (fun adC OY=>?_);obtain rfl:=ix OY;refine ab ⟨rfl,rfl,rfl,?_⟩;refine Rg.GW (p:=y.1) (q:=z.1) rfl rfl rfl ?_;obtain rfl:x=z:=aJ (Db.symm.trans KX);refine ab ⟨rfl,rfl,rfl,?_⟩;refine ff ?_;refine bP rfl (fun OZ=>?_) (fun OZ=>?_)
       ·refine aj (ae (ah rfl rfl (ab (aN ?_))));have KY:((d.2.take i).any fun g=>decide (g.1=x.1))=true:=uN.2 ⟨y,aA (i:=j) (by rw[cj,if_pos (by omega)];exact FF),by simpa using(by assumption)⟩;exact aU rfl rfl ⟨by rw[FE,kC,if_neg (by assumption),if_pos KY],S.back⟩
       ·refine aT (ae (ad rfl rfl (bD rfl rfl rfl (by omega) (ah rfl rfl (ab ?_)))));refine⟨rfl,j+1,(.cons rfl (.cons rfl (.cons rfl (.cons rfl .nil)))),?_,?_⟩
        ·exact⟨hM,S,dp,by omega,fun k y' h hc=>by
          rcases cJ k j with h2|h2
          ·exact j9 k y' h2 hc
          ·obtain rfl:k=j:=by omega
           rw[FF]at hc;cases hc;assumption⟩
        ·omega
      ·refine cL (aj (ae ?_));refine aS (M:=M) (A:=RT.dc) (B:=(RT.fd).sl) a8 rfl rfl vh (by decide) (Iq) rfl rfl (by decide) (by assumption) (by repeat (first|exact aq _ _|refine aY (bu (by assumption)) ?_)) (fun ai4 adD=>?_);refine bV (M:=M) bj rfl rfl rfl rfl rfl (by assumption) (by repeat (first|exact aq _ _|refine aY (bu (by assumption)) ?_)) (fun ai5 TC=>?_);refine ad rfl rfl ?_;refine cF (M:=M) bj kD rfl rfl rfl TC (aq _ _) (by omega) (fun ai6 z KZ adE=>?_);rw[ay]at KZ;refine aS (M:=M) (A:=RT.fd) (B:=RT.str) cv rfl rfl I9 (by decide) (fd1) rfl rfl (by decide) (by assumption) (by repeat (first|exact aq _ _|refine aY (bu (by assumption)) ?_)) (fun ai7 TD=>?_);refine bV (M:=M) aH rfl rfl rfl rfl rfl TD (aq _ _) (fun ai8 TE=>?_);obtain rfl:=ix TE;obtain rfl:x=z:=aJ (Db.symm.trans KZ);refine aX rfl rfl aci (FB _ hM qU.2) (fun r15 w15 hc=>?_);obtain⟨⟨u15,rfl,adF⟩,xg⟩:=hc;replace dp:=dp.le (by decide) xg.le;replace hM:=xg.lt hM;have:=S.size;replace S:=S.aB xg;refine ad rfl rfl (bK rfl rfl rfl (bK rfl rfl rfl (ah rfl rfl (ah rfl rfl (ab (aj (aj (ae (ad rfl rfl (fp rfl rfl rfl (ab ?_)))))))))));refine bP rfl (fun V6=>?_) (fun V6=>?_)
       ·refine aj (ae (ad rfl rfl (ah rfl rfl (ab (aN ?_)))))
        have KY:((d.2.take i).any fun g=>decide (g.1=x.1))=false:=dd.2 fun h=>by
         obtain⟨y,hy,he⟩:=uN.1 h;obtain⟨k,hk⟩:=bm.1 hy;rw[cj]at hk
         split at hk
         ·exact j9 k y (by omega) hk (by simpa using he)
         ·cases hk
        exact aU rfl rfl ⟨by rw[FE,kC,if_neg (by assumption),if_neg (by rw[KY];simp),if_pos V6];rfl,S.back⟩
       ·refine aT (ae (ad rfl rfl ?_));have QT:mD 0 (words x.2)=0:=Classical.not_not.1 V6;obtain⟨a,cap,rfl⟩:=adF QT;have hwl:=qX x.2;refine ad rfl rfl (Rg.mu Tryz.underlying212 rfl rfl (bD rfl rfl rfl (by omega) (ah rfl rfl (ab (ae (ad rfl rfl (bD rfl rfl rfl (by omega) (ah rfl rfl (ab ?_)))))))))
        have KY:((d.2.take i).any fun g=>decide (g.1=x.1))=false:=dd.2 fun h=>by
         obtain⟨y,hy,he⟩:=uN.1 h;obtain⟨k,hk⟩:=bm.1 hy;rw[cj]at hk
         split at hk
         ·exact j9 k y (by omega) hk (by simpa using he)
         ·cases hk
        refine⟨rfl,(i+1,n+(words x.2).length),(.cons rfl (.cons rfl (.cons rfl .nil))),?_,?_⟩
        ·exact⟨hM,S,dp,by rw[FE,kC,if_neg (by assumption),if_neg (by rw[KY];simp),if_neg V6],by dsimp only;omega,by dsimp only;omega,hd8⟩
        ·dsimp only;omega
   ·refine cL (aj (aj (ae (ad rfl rfl (jc rfl rfl rfl (ab ?_))))));refine bP rfl (fun c19=>?_) (fun c19=>?_)
    ·refine aj (ae (ah rfl rfl (ab (aN ?_))));exact aU rfl rfl ⟨by rw[FE,tS (by omega),if_pos (by omega)],S.back⟩
    ·refine aT (aj (ae (ah rfl rfl (ab (aN ?_)))));exact aU rfl rfl ⟨by rw[FE,tS (by omega),if_neg (by omega)],S.back⟩
def Dd:List (List UInt8):=[[116],[117],[118],[119]]
def fixF (i:Nat) (x:Fd):Fd:=(if gr x.1=true then x.1 else Dd.getD i [],x.2.take 40)
def od (id:Int):Nat→List Fd→List Fd→List Fd
 |_,out,[]=>out
 |i,out,x::fs=>if i<4 then(if lR (id,out++[fixF i x])=0 then od id (i+1) (out++[fixF i x]) fs else od id (i+1) out fs)else out
def pH (d:Dc):Dc:=(d.1,od d.1 0 [] d.2)
def sV (l:List Fd):Prop:=∀x∈l,x.1.length≤12∧x.2.length≤40
theorem De {s:List UInt8} (h:gr s=true):s.length≤12:=by
 simp only[gr,bT,decide_eq_true_eq]at h;omega
theorem yv {i:Nat} (x:Fd) (hi:i<4):(fixF i x).1.length≤12∧(fixF i x).2.length≤40:=by
 refine⟨?_,by simp only[fixF,bC];omega⟩;unfold fixF;dsimp only
 split
 ·exact De (by assumption)
 ·have h:i=0∨i=1∨i=2∨i=3:=by omega
  rcases h with rfl|rfl|rfl|rfl<;>decide
theorem sV.snoc {l:List Fd} {x:Fd} (h:sV l) (hx:x.1.length≤12∧x.2.length≤40):sV (l++[x]):=fun y hy=>by
 rcases ck.1 hy with hy|hy
 ·exact h y hy
 ·rw[bE.1 hy];exact hx
theorem K0 {id:Int} {fs:List Fd} {i:Nat} {out:List Fd} {x:Fd} (h:fs[i]? =some x) (hi:i<4):od id i out (fs.drop i)=if lR (id,out++[fixF i x])=0 then od id (i+1) (out++[fixF i x]) (fs.drop (i+1))else od id (i+1) out (fs.drop (i+1)):=by
 have dO:=(an.1 h).1;rw[dB dO,(an.1 h).2];show(if i<4 then _ else _)=_;rw[if_pos hi]
theorem AA {id:Int} {fs:List Fd} {i:Nat} {out:List Fd} (h:fs.length≤i∨4≤i):od id i out (fs.drop i)=out:=by
 cases hd:fs.drop i with
 |nil=>rfl
 |cons x r=>
  show(if i<4 then _ else _)=_;rw[if_neg];rcases h with h|h
  ·rw[gQ h]at hd;cases hd
  ·omega
theorem Df (l:List UInt8):l.take (min (l.length:Int) 40).toNat=l.take 40:=by
 by_cases h:l.length≤40
 ·rw[br (by omega),br h]
 ·congr 1;omega
theorem Iu {M:aC} {d:Dc} {v0:Value} (w0:World) (hM:Lt M w0) (hv:RT.dc.V M w0 d v0):
  Spec Tryz.prog 44 #[v0] w0 (fun v w=>RT.dc.V M w (pH d) v∧Step M w0 M w aD):=by
 have lC:=hM
 have hdi: -9223372036854775808≤d.1∧d.1≤9223372036854775807:=by
  obtain⟨vs,⟨va,vb,_,⟨_,h1,h2⟩,_⟩,_⟩:=hv;exact⟨h1,h2⟩
 refine bc (args:=[_]) (fn:=Tryz.f44) Tryz.func44 rfl (n:=67) Tryz.ntmps44 ?_;have S:Step M w0 M w0 aD:=(ax _ _).cG (fun _ h=>h.elim) (fun _ h=>h.elim);refine aj (ae ?_);refine vU (A:=RT.dc) rfl rfl hM hv rfl (fun u0 w1 dp s0 _=>?_);replace hM:=s0.lt hM;have:=S.size;replace S:=S.aB s0;refine ey M oZ rfl (fun o8 FG TF TG gj nA=>?_);obtain⟨fy,mF⟩:∃M',M'=ins M o8:=⟨_,rfl⟩;rw[←mF]at nA;have fa:fy o8:=by rw[mF];exact .inl rfl
 change FG.heap[o8]? =some (.cells #[.int .i64 0,.slice none 0 0] _ _)at gj;replace dp:=dp.le (by decide) nA.le;replace hM:=nA.lt hM;have:=S.size;replace S:=S.aB nA;refine ab (aj (ae ?_));refine aS (M:=fy) (A:=RT.dc) (B:=RT.int .i64) a8 rfl rfl I3 (by decide) (XG) rfl rfl (by decide) (by assumption) (by repeat (first|exact aq _ _|refine aY (bu (by assumption)) ?_)) (fun BB nc=>?_);refine cd (M:=fy) aw rfl rfl (by assumption) (by repeat (first|exact aq _ _|refine aY (bu (by assumption)) ?_)) (fun QZ=>?_);refine iW (places:=[(0,1),(1,1)]) a8 oZ B69 rfl ⟨_,_,rfl,rfl,rfl⟩ (out:=[_,.slice none 0 0]) ⟨0,[_],rfl,rfl,by simp[Value.cells],rfl⟩ ?_;refine ey fy oZ rfl (fun xh Im adG adH lr s1_3=>?_);obtain⟨ng,yw⟩:∃M',M'=ins fy xh:=⟨_,rfl⟩;rw[←yw]at s1_3;have jU:ng xh:=by rw[yw];exact .inl rfl
 change Im.heap[xh]? =some (.cells #[.int .i64 0,.slice none 0 0] _ _)at lr;have:=ak gj;replace fa:=(s1_3.mem _ this).2 fa;replace gj:=s1_3.aK gj;replace dp:=dp.le (by decide) s1_3.le;replace hM:=s1_3.lt hM;have:=S.size;replace S:=S.aB s1_3;refine ez (M:=ng) (vs:=[.int .i64 d.1,.slice none 0 0]) oZ rfl rfl (by intro u hu;simp at hu;rcases hu with rfl|rfl<;>first|rfl|exact pF (by assumption) rfl rfl) rfl rfl lr jU (fun w1b adI TH=>?_);have:=ak gj;replace fa:=(TH.mem _ this).2 fa;replace gj:=TH.keep gj (fun hk=>by have hk:_=_:=hk;omega);have:=ak lr;replace jU:=(TH.mem _ this).2 jU;replace dp:=dp.le (by decide) TH.le;replace hM:=TH.lt hM;have:=S.size;replace S:=S.trans TH (fun k hk h=>by have h:_=_:=h;subst h;first|(exfalso;omega)|(show _≤_;omega)|exact⟨by first|omega|assumption,(S.mem _ hk).1 ((TH.mem _ (ak lr)).1 jU)⟩|exact .inl rfl|exact .inr rfl|exact .inr (.inl rfl)|exact .inr (.inr rfl)|exact .inr (.inr (.inl rfl))|exact rfl);have Dg:=adI;clear lr;have lr:=Dg;clear Dg;refine ab (aj (ae ?_));refine Rg.NX (A:=RT.str) (hn:=by decide) (M:=ng) (xs:=Dd) aQ I9 rfl (by decide) rfl ⟨_,_,_,rfl,rfl,rfl,kF.2 ⟨rfl,by decide⟩,_,_,_,rfl,rfl,rfl,kF.2 ⟨rfl,by decide⟩,_,_,_,rfl,rfl,rfl,kF.2 ⟨rfl,by decide⟩,_,_,_,rfl,rfl,rfl,kF.2 ⟨rfl,by decide⟩,rfl⟩ rfl hM (.inr ⟨rfl,rfl⟩) (by decide) (fun u2 w2 dH s2=>?_);have:=ak gj;replace fa:=(s2.mem _ this).2 fa;replace gj:=s2.aK gj;have:=ak lr;replace jU:=(s2.mem _ this).2 jU;replace lr:=s2.aK lr;replace dp:=dp.le (by decide) s2.le;replace hM:=s2.lt hM;have:=S.size;replace S:=S.aB s2;refine ah rfl rfl (ab (aj (aj (ae (ah rfl rfl (ab (aZ ?_)))))));refine dn (σ:=Nat×List Fd) (fun q=>[(1,u0),(2,.pointer (some ⟨o8,0,none⟩)),(3,.pointer (some ⟨xh,0,none⟩)),(4,u2),(5,.int .i64 (q.1:Int))]) (fun q w=>∃M' uo,Lt M' w∧Step M w0 M' w aD∧dg RT.dc M' w u0 d∧(RT.str.sl).V M' w Dd u2∧w.heap[o8]? =some (.cells #[.int .i64 0,.slice none 0 0] 69 (0,0))∧M' o8∧w.heap[xh]? =some (.cells #[.int .i64 d.1,uo] 69 (0,0))∧M' xh∧(RT.fd.sl).V M' w q.2 uo∧od d.1 0 [] d.2=od d.1 q.1 q.2 (d.2.drop q.1)∧q.1≤d.2.length∧q.1≤4∧sV q.2∧q.2.length≤q.1) (fun q=>d.2.length-q.1) (0,[]) (.cons rfl (.cons rfl (.cons rfl (.cons rfl (.cons rfl .nil))))) ?_ ?_
 ·exact⟨_,.slice none 0 0,hM,S,dp,dH,gj,fa,lr,jU,nR,rfl,bG _,bG _,(fun x hx=>by cases hx),aR _⟩
 ·rintro⟨i,out⟩ w ⟨M1,uo,hM,S,dp,dH,g2,dD,g3,eX,fz,pU,hi,adJ,A9,fF⟩;dsimp only at g3 fz pU hi adJ A9 fF ⊢;refine aj (aj (ae (ad rfl rfl ?_)));refine aS (M:=M1) (A:=RT.dc) (B:=(RT.fd).sl) a8 rfl rfl vh (by decide) (Iq) rfl rfl (by decide) (by assumption) (by repeat (first|exact aq _ _|refine aY (bu (by assumption)) ?_)) (fun XB XN=>?_);refine bV (M:=M1) bj rfl rfl rfl rfl rfl (by assumption) (by repeat (first|exact aq _ _|refine aY (bu (by assumption)) ?_)) (fun anj XO=>?_);refine bJ bj rfl XO rfl (cf rfl rfl rfl (ad rfl rfl ?_));refine aO (g:=18) rfl (fun TL=>?_) (fun TL=>?_)
  ·refine al rfl rfl (ad rfl rfl (al rfl rfl (cf rfl rfl rfl (aW rfl rfl rfl (ab ?_)))));refine bP rfl (fun c4=>?_) (fun c4=>?_)
   ·refine aT (aj (aZ (aj (ae ?_))));refine aS (M:=M1) (A:=RT.dc) (B:=(RT.fd).sl) a8 rfl rfl vh (by decide) (Iq) rfl rfl (by decide) (by assumption) (by repeat (first|exact aq _ _|refine aY (bu (by assumption)) ?_)) (fun XP K1=>?_);refine bV (M:=M1) bj rfl rfl rfl rfl rfl (by assumption) (by repeat (first|exact aq _ _|refine aY (bu (by assumption)) ?_)) (fun TM yx=>?_);refine ad rfl rfl ?_;refine cF (M:=M1) bj kD rfl rfl rfl yx (aq _ _) (by omega) (fun u6 x Jz Fz=>?_);rw[ay]at Jz;have Wt:i<4:=by omega
    have hga:=K0 (id:=d.1) (out:=out) Jz Wt;have Q0:=yv x Wt;refine de (M:=M1) (A:=RT.fd) cv rfl kD (by decide) rfl rfl rfl Fz (aq _ _) (fun v6 uM=>?_);obtain rfl:=sU uM;have hxb:=Tt uM;refine ey M1 kD rfl (fun TN adK anl anm dK zP=>?_);obtain⟨mG,K2⟩:∃M',M'=ins M1 TN:=⟨_,rfl⟩;rw[←K2]at zP;have db:mG TN:=by rw[K2];exact .inl rfl
    change adK.heap[TN]? =some (.cells #[.string ⟨#[]⟩,.string ⟨#[]⟩] _ _)at dK;have:=ak g2;replace dD:=(zP.mem _ this).2 dD;replace g2:=zP.aK g2;have:=ak g3;replace eX:=(zP.mem _ this).2 eX;replace g3:=zP.aK g3;replace dp:=dp.le (by decide) zP.le;replace dH:=dH.le zP.le;replace fz:=fz.le zP.le;replace hM:=zP.lt hM;have:=S.size;replace S:=S.aB zP;refine ez (M:=mG) (vs:=[.string ⟨x.1.toArray⟩,.string ⟨x.2.toArray⟩]) kD rfl rfl (by intro u hu;simp at hu;rcases hu with rfl|rfl<;>first|rfl|exact pF (by assumption) rfl rfl) rfl rfl dK db (fun w6b adL K3=>?_);have:=ak g2;replace dD:=(K3.mem _ this).2 dD;replace g2:=K3.keep g2 (fun hk=>by have hk:_=_:=hk;omega);have:=ak g3;replace eX:=(K3.mem _ this).2 eX;replace g3:=K3.keep g3 (fun hk=>by have hk:_=_:=hk;omega);have:=ak dK;replace db:=(K3.mem _ this).2 db;replace dp:=dp.le (by decide) K3.le;replace dH:=dH.le K3.le;replace fz:=fz.le K3.le;replace hM:=K3.lt hM;have:=S.size;replace S:=S.trans K3 (fun k hk h=>by have h:_=_:=h;subst h;first|(exfalso;omega)|(show _≤_;omega)|exact⟨by first|omega|assumption,(S.mem _ hk).1 ((K3.mem _ (ak dK)).1 db)⟩|exact .inl rfl|exact .inr rfl|exact .inr (.inl rfl)|exact .inr (.inr rfl)|exact .inr (.inr (.inl rfl))|exact rfl);have qA:=adL;clear dK;have dK:=qA;clear qA;refine ab (aj (ae (bN (o':=0) cv rfl rfl I9 (by decide) rfl rfl (aL aH rfl rfl rfl (by assumption) rfl ?_))));refine aX rfl rfl E93 (yt x.1 hxb.1 _) (fun r7 w7 hc=>?_);obtain⟨rfl,rfl⟩:=hc;refine ah rfl rfl (ab (aj (aj (ae (ad rfl rfl (mS rfl rfl (aV (v':= .bool (decide (gr x.1=false))) (by cases gr x.1<;>rfl) (ab ?_))))))));refine bP rfl (fun c8=>?_) (fun c8=>?_)
    ·refine ae (ad rfl rfl (ad rfl rfl ?_));refine cF (M:=mG) aQ I9 rfl rfl rfl dH (aq _ _) (by have:Dd.length=4:=rfl;omega) (fun u9 y Q1 XQ=>?_);rw[ay]at Q1;refine bV (M:=mG) aH rfl rfl rfl rfl rfl XQ (aq _ _) (fun v9 Iv=>?_);obtain rfl:=ix Iv
     obtain rfl:y=(fixF i x).1:=by
      show y=if gr x.1=true then x.1 else Dd.getD i []
      rw[if_neg (by rw[c8];simp),az,Q1];rfl
     refine bN (o':=0) cv rfl rfl I9 (by decide) rfl rfl ?_;refine cu (M:=mG) I9 rfl rfl dK rfl (rfl) db (fun XC XR qy=>?_);change XC.heap[_]? =some (Obj.cells #[.string ⟨((fixF i x).1).toArray⟩,.string ⟨x.2.toArray⟩] _ _)at XR;have:=ak g2;replace dD:=(qy.mem _ this).2 dD;replace g2:=qy.keep g2 (fun hk=>by have hk:_=_:=hk;omega);have:=ak g3;replace eX:=(qy.mem _ this).2 eX;replace g3:=qy.keep g3 (fun hk=>by have hk:_=_:=hk;omega);have:=ak dK;replace db:=(qy.mem _ this).2 db;replace dp:=dp.le (by decide) qy.le;replace dH:=dH.le qy.le;replace fz:=fz.le qy.le;replace hM:=qy.lt hM;have:=S.size;replace S:=S.trans qy (fun k hk h=>by have h:_=_:=h;subst h;first|(exfalso;omega)|(show _≤_;omega)|exact⟨by first|omega|assumption,(S.mem _ hk).1 ((qy.mem _ (ak dK)).1 db)⟩|exact .inl rfl|exact .inr rfl|exact .inr (.inl rfl)|exact .inr (.inr rfl)|exact .inr (.inr (.inl rfl))|exact rfl);have qA:=XR;clear dK;have dK:=qA;clear qA;refine ab (aj (ae (bN (o':=1) cv rfl rfl I9 (by decide) rfl rfl (aL aH rfl rfl rfl (by assumption) rfl (bN (o':=1) cv rfl rfl I9 (by decide) rfl rfl (aL aH rfl rfl rfl (by assumption) rfl (Rg.nu aH rfl rfl (aV (v':= .int .i64 (x.2.length:Int)) (by simp[ByteArray.size]) (Rg.min2 rfl rfl rfl (Rg.QH aH rfl rfl rfl (by omega) (aV (v':= .string ⟨((fixF i x).2).toArray⟩) (by rw[Df];rfl) ?_)))))))))));refine bN (o':=1) cv rfl rfl I9 (by decide) rfl rfl ?_;refine cu (M:=mG) I9 rfl rfl dK rfl (rfl) db (fun He Dh gP=>?_);change He.heap[_]? =some (Obj.cells #[.string ⟨((fixF i x).1).toArray⟩,.string ⟨((fixF i x).2).toArray⟩] _ _)at Dh;have:=ak g2;replace dD:=(gP.mem _ this).2 dD;replace g2:=gP.keep g2 (fun hk=>by have hk:_=_:=hk;omega)
     have:=ak g3;replace eX:=(gP.mem _ this).2 eX;replace g3:=gP.keep g3 (fun hk=>by have hk:_=_:=hk;omega);have:=ak dK;replace db:=(gP.mem _ this).2 db;replace dp:=dp.le (by decide) gP.le;replace dH:=dH.le gP.le;replace fz:=fz.le gP.le;replace hM:=gP.lt hM;have:=S.size;replace S:=S.trans gP (fun k hk h=>by have h:_=_:=h;subst h;first|(exfalso;omega)|(show _≤_;omega)|exact⟨by first|omega|assumption,(S.mem _ hk).1 ((gP.mem _ (ak dK)).1 db)⟩|exact .inl rfl|exact .inr rfl|exact .inr (.inl rfl)|exact .inr (.inr rfl)|exact .inr (.inr (.inl rfl))|exact rfl);have qA:=Dh;clear dK;have dK:=qA;clear qA;refine ab (aj (ae ?_));refine aS (M:=mG) (A:=RT.dc) (B:=RT.int .i64) a8 rfl rfl I3 (by decide) (XG) rfl rfl (by decide) (by assumption) (by repeat (first|exact aq _ _|refine aY (bu (by assumption)) ?_)) (fun Q2 K4=>?_);refine cd (M:=mG) aw rfl rfl (by assumption) (by repeat (first|exact aq _ _|refine aY (bu (by assumption)) ?_)) (fun TO=>?_);refine iW (places:=[(0,1),(1,1)]) a8 oZ B69 rfl ⟨_,_,rfl,rfl,rfl⟩ (out:=[_,.slice none 0 0]) ⟨0,[_],rfl,rfl,by simp[Value.cells],rfl⟩ ?_;refine ey mG oZ rfl (fun yy Dj XS XT cQ fG=>?_);obtain⟨ta,tT⟩:∃M',M'=ins mG yy:=⟨_,rfl⟩;rw[←tT]at fG;have cO:ta yy:=by rw[tT];exact .inl rfl
     change Dj.heap[yy]? =some (.cells #[.int .i64 0,.slice none 0 0] _ _)at cQ;have:=ak g2;replace dD:=(fG.mem _ this).2 dD;replace g2:=fG.aK g2;have:=ak g3;replace eX:=(fG.mem _ this).2 eX;replace g3:=fG.aK g3;have:=ak dK;replace db:=(fG.mem _ this).2 db;replace dK:=fG.aK dK;replace dp:=dp.le (by decide) fG.le;replace dH:=dH.le fG.le;replace fz:=fz.le fG.le;replace hM:=fG.lt hM;have:=S.size;replace S:=S.aB fG;refine ez (M:=ta) (vs:=[.int .i64 d.1,.slice none 0 0]) oZ rfl rfl (by intro u hu;simp at hu;rcases hu with rfl|rfl<;>first|rfl|exact pF (by assumption) rfl rfl) rfl rfl cQ cO (fun BD K5 kP=>?_);have:=ak g2;replace dD:=(kP.mem _ this).2 dD;replace g2:=kP.keep g2 (fun hk=>by have hk:_=_:=hk;omega);have:=ak g3;replace eX:=(kP.mem _ this).2 eX;replace g3:=kP.keep g3 (fun hk=>by have hk:_=_:=hk;omega);have:=ak dK;replace db:=(kP.mem _ this).2 db;replace dK:=kP.keep dK (fun hk=>by have hk:_=_:=hk;omega);have:=ak cQ;replace cO:=(kP.mem _ this).2 cO;replace dp:=dp.le (by decide) kP.le;replace dH:=dH.le kP.le;replace fz:=fz.le kP.le;replace hM:=kP.lt hM;have:=S.size;replace S:=S.trans kP (fun k hk h=>by have h:_=_:=h;subst h;first|(exfalso;omega)|(show _≤_;omega)|exact⟨by first|omega|assumption,(S.mem _ hk).1 ((kP.mem _ (ak cQ)).1 cO)⟩|exact .inl rfl|exact .inr rfl|exact .inr (.inl rfl)|exact .inr (.inr rfl)|exact .inr (.inr (.inl rfl))|exact rfl);have jo:=K5;clear cQ;have cQ:=jo;clear jo;refine ab (aj (ae (bN (o':=1) a8 rfl rfl vh (by decide) rfl rfl (aL bj rfl rfl rfl (by assumption) rfl (bN (o':=1) a8 rfl rfl vh (by decide) rfl rfl (aL bj rfl rfl rfl (by assumption) rfl ?_))))));have dy:=Own.QQ RT.fd 166 BD.heap.size hM
     have adM:=ak dK;have K6:w0.heap.size≤BD.heap.size:=S.size;refine cX (M:=ta) (base:=BD.heap.size) bj kD rfl rfl rfl rfl dy fz (aq _ _) (by simp;omega) (by simp;omega) (aR _) (fun yq qx KP sT eW=>?_);have:=ak g2;replace dD:=(eW.mem _ this).2 dD;replace g2:=eW.keep g2 (fun h=>by first|exact dy.ec g2 h|exact dy.eK g2 (by decide) h|(have:=(dy.base _ h).1;omega));have:=ak g3;replace eX:=(eW.mem _ this).2 eX;replace g3:=eW.keep g3 (fun h=>by first|exact dy.ec g3 h|exact dy.eK g3 (by decide) h|(have:=(dy.base _ h).1;omega));have:=ak dK;replace db:=(eW.mem _ this).2 db;replace dK:=eW.keep dK (fun h=>by first|exact dy.ec dK h|exact dy.eK dK (by decide) h|(have:=(dy.base _ h).1;omega));have:=ak cQ;replace cO:=(eW.mem _ this).2 cO;replace cQ:=eW.keep cQ (fun h=>by first|exact dy.ec cQ h|exact dy.eK cQ (by decide) h|(have:=(dy.base _ h).1;omega));replace dp:=dp.le (by decide) eW.le;replace dH:=dH.le eW.le;replace fz:=fz.le eW.le;replace hM:=eW.lt hM;have:=S.size;replace S:=S.dm eW dy K6;replace dy:=sT;refine bN (o':=1) a8 rfl rfl vh (by decide) rfl rfl ?_;refine cu (M:=qx) vh rfl rfl cQ rfl ((by obtain⟨_,_,he,_⟩:=dy.isSlice;rw[he];rfl)) cO (fun K7 Dk gE=>?_);change K7.heap[_]? =some (Obj.cells #[.int .i64 d.1,yq] _ _)at Dk;have:=ak g2;replace dD:=(gE.mem _ this).2 dD;replace g2:=gE.keep g2 (fun hk=>by have hk:_=_:=hk;omega);have:=ak g3;replace eX:=(gE.mem _ this).2 eX;replace g3:=gE.keep g3 (fun hk=>by have hk:_=_:=hk;omega);have:=ak dK;replace db:=(gE.mem _ this).2 db;replace dK:=gE.keep dK (fun hk=>by have hk:_=_:=hk;omega);have:=ak cQ;replace cO:=(gE.mem _ this).2 cO
     replace dp:=dp.le (by decide) gE.le;replace dH:=dH.le gE.le;replace fz:=fz.le gE.le;replace dy:=dy.step gE (fun b hb hk=>by have hk:_=_:=hk;have:=(dy.base b hb);omega);replace hM:=gE.lt hM;have:=S.size;replace S:=S.trans gE (fun k hk h=>by have h:_=_:=h;subst h;first|(exfalso;omega)|(show _≤_;omega)|exact⟨by first|omega|assumption,(S.mem _ hk).1 ((gE.mem _ (ak cQ)).1 cO)⟩|exact .inl rfl|exact .inr rfl|exact .inr (.inl rfl)|exact .inr (.inr rfl)|exact .inr (.inr (.inl rfl))|exact rfl);have jo:=Dk;clear cQ;have cQ:=jo;clear jo;refine ab (aj (ae (bN (o':=1) a8 rfl rfl vh (by decide) rfl rfl (aL bj rfl rfl rfl (by assumption) rfl (iM (vs:=[.string ⟨((fixF i x).1).toArray⟩,.string ⟨((fixF i x).2).toArray⟩]) cv rfl kD rfl rfl rfl dK ?_)))));refine dQ (A:=RT.fd) (hn:=by decide) (M:=qx) bj kD (by decide) rfl rfl hM (show RT.fd.V _ _ (fixF i x) _ from eV (kF.2 ⟨rfl,eJ Q0.1 (by decide)⟩) (kF.2 ⟨rfl,eJ Q0.2 (by decide)⟩) rfl rfl rfl rfl) (.inl rfl) (fun QX XU fZ gF=>?_);have:=ak g2;replace dD:=(gF.mem _ this).2 dD;replace g2:=gF.aK g2;have:=ak g3;replace eX:=(gF.mem _ this).2 eX;replace g3:=gF.aK g3;have:=ak dK;replace db:=(gF.mem _ this).2 db;replace dK:=gF.aK dK;have:=ak cQ;replace cO:=(gF.mem _ this).2 cO;replace cQ:=gF.aK cQ;replace dp:=dp.le (by decide) gF.le;replace dH:=dH.le gF.le;replace fz:=fz.le gF.le;replace dy:=dy.aM gF;replace hM:=gF.lt hM;have:=S.size;replace S:=S.aB gF;refine cX (M:=qx) (base:=BD.heap.size) bj kD rfl rfl rfl rfl dy fZ (aq _ _) (by simp;omega) (by simp;omega) (by have:=eW.size;have:=gE.size;have:=gF.size;omega) (fun fV mH Q3 FH eY=>?_)
     have:=ak g2;replace dD:=(eY.mem _ this).2 dD;replace g2:=eY.keep g2 (fun h=>by first|exact dy.ec g2 h|exact dy.eK g2 (by decide) h|(have:=(dy.base _ h).1;omega));have:=ak g3;replace eX:=(eY.mem _ this).2 eX;replace g3:=eY.keep g3 (fun h=>by first|exact dy.ec g3 h|exact dy.eK g3 (by decide) h|(have:=(dy.base _ h).1;omega));have:=ak dK;replace db:=(eY.mem _ this).2 db;replace dK:=eY.keep dK (fun h=>by first|exact dy.ec dK h|exact dy.eK dK (by decide) h|(have:=(dy.base _ h).1;omega));have:=ak cQ;replace cO:=(eY.mem _ this).2 cO;replace cQ:=eY.keep cQ (fun h=>by first|exact dy.ec cQ h|exact dy.eK cQ (by decide) h|(have:=(dy.base _ h).1;omega));replace dp:=dp.le (by decide) eY.le;replace dH:=dH.le eY.le;replace fz:=fz.le eY.le;replace fZ:=fZ.le eY.le;replace hM:=eY.lt hM;have:=S.size;replace S:=S.dm eY dy K6;replace dy:=FH;refine bN (o':=1) a8 rfl rfl vh (by decide) rfl rfl ?_;refine cu (M:=mH) vh rfl rfl cQ rfl ((by obtain⟨_,_,he,_⟩:=dy.isSlice;rw[he];rfl)) cO (fun K8 Dl gG=>?_);change K8.heap[_]? =some (Obj.cells #[.int .i64 d.1,fV] _ _)at Dl;have:=ak g2;replace dD:=(gG.mem _ this).2 dD;replace g2:=gG.keep g2 (fun hk=>by have hk:_=_:=hk;omega);have:=ak g3;replace eX:=(gG.mem _ this).2 eX;replace g3:=gG.keep g3 (fun hk=>by have hk:_=_:=hk;omega);have:=ak dK;replace db:=(gG.mem _ this).2 db;replace dK:=gG.keep dK (fun hk=>by have hk:_=_:=hk;omega);have:=ak cQ;replace cO:=(gG.mem _ this).2 cO;replace dp:=dp.le (by decide) gG.le;replace dH:=dH.le gG.le;replace fz:=fz.le gG.le;replace fZ:=fZ.le gG.le;replace dy:=dy.step gG (fun b hb hk=>by have hk:_=_:=hk;have:=(dy.base b hb);omega);replace hM:=gG.lt hM
     have:=S.size;replace S:=S.trans gG (fun k hk h=>by have h:_=_:=h;subst h;first|(exfalso;omega)|(show _≤_;omega)|exact⟨by first|omega|assumption,(S.mem _ hk).1 ((gG.mem _ (ak cQ)).1 cO)⟩|exact .inl rfl|exact .inr rfl|exact .inr (.inl rfl)|exact .inr (.inr rfl)|exact .inr (.inr (.inl rfl))|exact rfl);have jo:=Dl;clear cQ;have cQ:=jo;clear jo;refine ab (aj (ae (iM (vs:=[.int .i64 d.1,fV]) a8 rfl oZ rfl rfl rfl cQ ?_)));have rV:=dy.view (hn:=by decide) (by simp;omega);replace dD:rm mH fV _:=⟨dD,by first|exact dy.eK g2 (by decide)|(intro h;have:=(dy.base _ h).1;omega)⟩;replace eX:rm mH fV _:=⟨eX,by first|exact dy.eK g3 (by decide)|(intro h;have:=(dy.base _ h).1;omega)⟩;replace db:rm mH fV _:=⟨db,by first|exact dy.eK dK (by decide)|(intro h;have:=(dy.base _ h).1;omega)⟩;replace cO:rm mH fV _:=⟨cO,by first|exact dy.eK cQ (by decide)|(intro h;have:=(dy.base _ h).1;omega)⟩;replace dp:=dp.le (by decide) (fw _ fV _);replace dH:=dH.le (fw _ fV _);replace fz:=fz.le (fw _ fV _);replace fZ:=fZ.le (fw _ fV _);replace hM:Lt (rm mH fV) _:=fun b hb=>hM b hb.1
     replace S:=S.freeze (v:=fV) (fun b hb=>by have:=(dy.base b hb).1;omega);clear dy;refine aX rfl rfl E94 (Az (d:=(d.1,[]++out++[fixF i x])) _ hM (eV (gm hdi) rV rfl rfl rfl rfl) (fun y hy=>by have:=(A9.snoc Q0) y (by simpa using hy);omega)) (fun r14 TQ hc=>?_);obtain⟨rfl,jV⟩:=hc;rw[fQ]at rV;have:=ak g2;replace dD:=(jV.mem _ this).2 dD;replace g2:=jV.aK g2;have:=ak g3;replace eX:=(jV.mem _ this).2 eX;replace g3:=jV.aK g3;have:=ak dK;replace db:=(jV.mem _ this).2 db;replace dK:=jV.aK dK;have:=ak cQ;replace cO:=(jV.mem _ this).2 cO;replace cQ:=jV.aK cQ;replace dp:=dp.le (by decide) jV.le;replace dH:=dH.le jV.le;replace fz:=fz.le jV.le;replace fZ:=fZ.le jV.le;replace rV:=rV.le jV.le;replace hM:=jV.lt hM;have:=S.size;replace S:=S.aB jV;refine k7 rfl rfl rfl (aV (v':= .bool (decide (lR (d.1,out++[fixF i x])=0))) (by rw[fQ]) (ab ?_));refine bP rfl (fun JB=>?_) (fun JB=>?_)
     ·refine ae (iM (vs:=[.int .i64 d.1,fV]) a8 rfl oZ rfl rfl rfl cQ ?_);refine ez (M:=rm mH fV) (vs:=[.int .i64 d.1,fV]) oZ rfl rfl (by intro u hu;simp at hu;rcases hu with rfl|rfl<;>first|rfl|exact pF (by assumption) rfl rfl) rfl rfl g3 eX (fun adN K9 jW=>?_);have:=ak g2;replace dD:=(jW.mem _ this).2 dD;replace g2:=jW.keep g2 (fun hk=>by have hk:_=_:=hk;omega);have:=ak g3;replace eX:=(jW.mem _ this).2 eX;have:=ak dK;replace db:=(jW.mem _ this).2 db;replace dK:=jW.keep dK (fun hk=>by have hk:_=_:=hk;omega);have:=ak cQ;replace cO:=(jW.mem _ this).2 cO;replace cQ:=jW.keep cQ (fun hk=>by have hk:_=_:=hk;omega);replace dp:=dp.le (by decide) jW.le;replace dH:=dH.le jW.le;replace fz:=fz.le jW.le;replace fZ:=fZ.le jW.le;replace rV:=rV.le jW.le;replace hM:=jW.lt hM;have:=S.size;replace S:=S.trans jW (fun k hk h=>by have h:_=_:=h;subst h;first|(exfalso;omega)|(show _≤_;omega)|exact⟨by first|omega|assumption,(S.mem _ hk).1 ((jW.mem _ (ak g3)).1 eX)⟩|exact .inl rfl|exact .inr rfl|exact .inr (.inl rfl)|exact .inr (.inr rfl)|exact .inr (.inr (.inl rfl))|exact rfl);have XV:=K9;clear g3;have g3:=XV;clear XV;refine ab (ae (ad rfl rfl (bD rfl rfl rfl (by omega) (ah rfl rfl (ab ?_)))));refine⟨rfl,(i+1,out++[fixF i x]),(.cons rfl (.cons rfl (.cons rfl (.cons rfl (.cons rfl .nil))))),?_,?_⟩
      ·exact⟨_,_,hM,S,dp,dH,g2,dD,g3,eX,rV,by rw[pU,hga,if_pos JB],by dsimp only;omega,by dsimp only;omega,A9.snoc Q0,by simp;omega⟩
      ·dsimp only;omega
     ·refine aT (ae (ad rfl rfl (bD rfl rfl rfl (by omega) (ah rfl rfl (ab ?_)))));refine⟨rfl,(i+1,out),(.cons rfl (.cons rfl (.cons rfl (.cons rfl (.cons rfl .nil))))),?_,?_⟩
      ·exact⟨_,_,hM,S,dp,dH,g2,dD,g3,eX,fz,by rw[pU,hga,if_neg JB],by dsimp only;omega,by dsimp only;omega,A9,by dsimp only;omega⟩
      ·dsimp only;omega
    ·rw[show x.1=(fixF i x).1 from by show x.1=if gr x.1=true then x.1 else _;rw[if_pos (by cases hq:gr x.1 with|true=>rfl|false=>exact absurd hq c8)]]at dK;refine aT (aj (ae (bN (o':=1) cv rfl rfl I9 (by decide) rfl rfl (aL aH rfl rfl rfl (by assumption) rfl (bN (o':=1) cv rfl rfl I9 (by decide) rfl rfl (aL aH rfl rfl rfl (by assumption) rfl (Rg.nu aH rfl rfl (aV (v':= .int .i64 (x.2.length:Int)) (by simp[ByteArray.size]) (Rg.min2 rfl rfl rfl (Rg.QH aH rfl rfl rfl (by omega) (aV (v':= .string ⟨((fixF i x).2).toArray⟩) (by rw[Df];rfl) ?_)))))))))));refine bN (o':=1) cv rfl rfl I9 (by decide) rfl rfl ?_;refine cu (M:=mG) I9 rfl rfl dK rfl (rfl) db (fun He Dh gP=>?_);change He.heap[_]? =some (Obj.cells #[.string ⟨((fixF i x).1).toArray⟩,.string ⟨((fixF i x).2).toArray⟩] _ _)at Dh;have:=ak g2;replace dD:=(gP.mem _ this).2 dD;replace g2:=gP.keep g2 (fun hk=>by have hk:_=_:=hk;omega);have:=ak g3;replace eX:=(gP.mem _ this).2 eX;replace g3:=gP.keep g3 (fun hk=>by have hk:_=_:=hk;omega);have:=ak dK;replace db:=(gP.mem _ this).2 db;replace dp:=dp.le (by decide) gP.le;replace dH:=dH.le gP.le;replace fz:=fz.le gP.le;replace hM:=gP.lt hM;have:=S.size;replace S:=S.trans gP (fun k hk h=>by have h:_=_:=h;subst h;first|(exfalso;omega)|(show _≤_;omega)|exact⟨by first|omega|assumption,(S.mem _ hk).1 ((gP.mem _ (ak dK)).1 db)⟩|exact .inl rfl|exact .inr rfl|exact .inr (.inl rfl)|exact .inr (.inr rfl)|exact .inr (.inr (.inl rfl))|exact rfl);have qA:=Dh;clear dK;have dK:=qA;clear qA;refine ab (aj (ae ?_));refine aS (M:=mG) (A:=RT.dc) (B:=RT.int .i64) a8 rfl rfl I3 (by decide) (XG) rfl rfl (by decide) (by assumption) (by repeat (first|exact aq _ _|refine aY (bu (by assumption)) ?_)) (fun Q2 K4=>?_)
     refine cd (M:=mG) aw rfl rfl (by assumption) (by repeat (first|exact aq _ _|refine aY (bu (by assumption)) ?_)) (fun TO=>?_);refine iW (places:=[(0,1),(1,1)]) a8 oZ B69 rfl ⟨_,_,rfl,rfl,rfl⟩ (out:=[_,.slice none 0 0]) ⟨0,[_],rfl,rfl,by simp[Value.cells],rfl⟩ ?_;refine ey mG oZ rfl (fun yy Dj XS XT cQ fG=>?_);obtain⟨ta,tT⟩:∃M',M'=ins mG yy:=⟨_,rfl⟩;rw[←tT]at fG;have cO:ta yy:=by rw[tT];exact .inl rfl
     change Dj.heap[yy]? =some (.cells #[.int .i64 0,.slice none 0 0] _ _)at cQ;have:=ak g2;replace dD:=(fG.mem _ this).2 dD;replace g2:=fG.aK g2;have:=ak g3;replace eX:=(fG.mem _ this).2 eX;replace g3:=fG.aK g3;have:=ak dK;replace db:=(fG.mem _ this).2 db;replace dK:=fG.aK dK;replace dp:=dp.le (by decide) fG.le;replace dH:=dH.le fG.le;replace fz:=fz.le fG.le;replace hM:=fG.lt hM;have:=S.size;replace S:=S.aB fG;refine ez (M:=ta) (vs:=[.int .i64 d.1,.slice none 0 0]) oZ rfl rfl (by intro u hu;simp at hu;rcases hu with rfl|rfl<;>first|rfl|exact pF (by assumption) rfl rfl) rfl rfl cQ cO (fun BD K5 kP=>?_);have:=ak g2;replace dD:=(kP.mem _ this).2 dD;replace g2:=kP.keep g2 (fun hk=>by have hk:_=_:=hk;omega);have:=ak g3;replace eX:=(kP.mem _ this).2 eX;replace g3:=kP.keep g3 (fun hk=>by have hk:_=_:=hk;omega);have:=ak dK;replace db:=(kP.mem _ this).2 db;replace dK:=kP.keep dK (fun hk=>by have hk:_=_:=hk;omega);have:=ak cQ;replace cO:=(kP.mem _ this).2 cO;replace dp:=dp.le (by decide) kP.le;replace dH:=dH.le kP.le;replace fz:=fz.le kP.le;replace hM:=kP.lt hM;have:=S.size;replace S:=S.trans kP (fun k hk h=>by have h:_=_:=h;subst h;first|(exfalso;omega)|(show _≤_;omega)|exact⟨by first|omega|assumption,(S.mem _ hk).1 ((kP.mem _ (ak cQ)).1 cO)⟩|exact .inl rfl|exact .inr rfl|exact .inr (.inl rfl)|exact .inr (.inr rfl)|exact .inr (.inr (.inl rfl))|exact rfl);have jo:=K5;clear cQ;have cQ:=jo;clear jo;refine ab (aj (ae (bN (o':=1) a8 rfl rfl vh (by decide) rfl rfl (aL bj rfl rfl rfl (by assumption) rfl (bN (o':=1) a8 rfl rfl vh (by decide) rfl rfl (aL bj rfl rfl rfl (by assumption) rfl ?_))))));have dy:=Own.QQ RT.fd 166 BD.heap.size hM
     have adM:=ak dK;have K6:w0.heap.size≤BD.heap.size:=S.size;refine cX (M:=ta) (base:=BD.heap.size) bj kD rfl rfl rfl rfl dy fz (aq _ _) (by simp;omega) (by simp;omega) (aR _) (fun yq qx KP sT eW=>?_);have:=ak g2;replace dD:=(eW.mem _ this).2 dD;replace g2:=eW.keep g2 (fun h=>by first|exact dy.ec g2 h|exact dy.eK g2 (by decide) h|(have:=(dy.base _ h).1;omega));have:=ak g3;replace eX:=(eW.mem _ this).2 eX;replace g3:=eW.keep g3 (fun h=>by first|exact dy.ec g3 h|exact dy.eK g3 (by decide) h|(have:=(dy.base _ h).1;omega));have:=ak dK;replace db:=(eW.mem _ this).2 db;replace dK:=eW.keep dK (fun h=>by first|exact dy.ec dK h|exact dy.eK dK (by decide) h|(have:=(dy.base _ h).1;omega));have:=ak cQ;replace cO:=(eW.mem _ this).2 cO;replace cQ:=eW.keep cQ (fun h=>by first|exact dy.ec cQ h|exact dy.eK cQ (by decide) h|(have:=(dy.base _ h).1;omega));replace dp:=dp.le (by decide) eW.le;replace dH:=dH.le eW.le;replace fz:=fz.le eW.le;replace hM:=eW.lt hM;have:=S.size;replace S:=S.dm eW dy K6;replace dy:=sT;refine bN (o':=1) a8 rfl rfl vh (by decide) rfl rfl ?_;refine cu (M:=qx) vh rfl rfl cQ rfl ((by obtain⟨_,_,he,_⟩:=dy.isSlice;rw[he];rfl)) cO (fun K7 Dk gE=>?_);change K7.heap[_]? =some (Obj.cells #[.int .i64 d.1,yq] _ _)at Dk;have:=ak g2;replace dD:=(gE.mem _ this).2 dD;replace g2:=gE.keep g2 (fun hk=>by have hk:_=_:=hk;omega);have:=ak g3;replace eX:=(gE.mem _ this).2 eX;replace g3:=gE.keep g3 (fun hk=>by have hk:_=_:=hk;omega);have:=ak dK;replace db:=(gE.mem _ this).2 db;replace dK:=gE.keep dK (fun hk=>by have hk:_=_:=hk;omega);have:=ak cQ;replace cO:=(gE.mem _ this).2 cO
     replace dp:=dp.le (by decide) gE.le;replace dH:=dH.le gE.le;replace fz:=fz.le gE.le;replace dy:=dy.step gE (fun b hb hk=>by have hk:_=_:=hk;have:=(dy.base b hb);omega);replace hM:=gE.lt hM;have:=S.size;replace S:=S.trans gE (fun k hk h=>by have h:_=_:=h;subst h;first|(exfalso;omega)|(show _≤_;omega)|exact⟨by first|omega|assumption,(S.mem _ hk).1 ((gE.mem _ (ak cQ)).1 cO)⟩|exact .inl rfl|exact .inr rfl|exact .inr (.inl rfl)|exact .inr (.inr rfl)|exact .inr (.inr (.inl rfl))|exact rfl);have jo:=Dk;clear cQ;have cQ:=jo;clear jo;refine ab (aj (ae (bN (o':=1) a8 rfl rfl vh (by decide) rfl rfl (aL bj rfl rfl rfl (by assumption) rfl (iM (vs:=[.string ⟨((fixF i x).1).toArray⟩,.string ⟨((fixF i x).2).toArray⟩]) cv rfl kD rfl rfl rfl dK ?_)))));refine dQ (A:=RT.fd) (hn:=by decide) (M:=qx) bj kD (by decide) rfl rfl hM (show RT.fd.V _ _ (fixF i x) _ from eV (kF.2 ⟨rfl,eJ Q0.1 (by decide)⟩) (kF.2 ⟨rfl,eJ Q0.2 (by decide)⟩) rfl rfl rfl rfl) (.inl rfl) (fun QX XU fZ gF=>?_);have:=ak g2;replace dD:=(gF.mem _ this).2 dD;replace g2:=gF.aK g2;have:=ak g3;replace eX:=(gF.mem _ this).2 eX;replace g3:=gF.aK g3;have:=ak dK;replace db:=(gF.mem _ this).2 db;replace dK:=gF.aK dK;have:=ak cQ;replace cO:=(gF.mem _ this).2 cO;replace cQ:=gF.aK cQ;replace dp:=dp.le (by decide) gF.le;replace dH:=dH.le gF.le;replace fz:=fz.le gF.le;replace dy:=dy.aM gF;replace hM:=gF.lt hM;have:=S.size;replace S:=S.aB gF;refine cX (M:=qx) (base:=BD.heap.size) bj kD rfl rfl rfl rfl dy fZ (aq _ _) (by simp;omega) (by simp;omega) (by have:=eW.size;have:=gE.size;have:=gF.size;omega) (fun fV mH Q3 FH eY=>?_)
     have:=ak g2;replace dD:=(eY.mem _ this).2 dD;replace g2:=eY.keep g2 (fun h=>by first|exact dy.ec g2 h|exact dy.eK g2 (by decide) h|(have:=(dy.base _ h).1;omega));have:=ak g3;replace eX:=(eY.mem _ this).2 eX;replace g3:=eY.keep g3 (fun h=>by first|exact dy.ec g3 h|exact dy.eK g3 (by decide) h|(have:=(dy.base _ h).1;omega));have:=ak dK;replace db:=(eY.mem _ this).2 db;replace dK:=eY.keep dK (fun h=>by first|exact dy.ec dK h|exact dy.eK dK (by decide) h|(have:=(dy.base _ h).1;omega));have:=ak cQ;replace cO:=(eY.mem _ this).2 cO;replace cQ:=eY.keep cQ (fun h=>by first|exact dy.ec cQ h|exact dy.eK cQ (by decide) h|(have:=(dy.base _ h).1;omega));replace dp:=dp.le (by decide) eY.le;replace dH:=dH.le eY.le;replace fz:=fz.le eY.le;replace fZ:=fZ.le eY.le;replace hM:=eY.lt hM;have:=S.size;replace S:=S.dm eY dy K6;replace dy:=FH;refine bN (o':=1) a8 rfl rfl vh (by decide) rfl rfl ?_;refine cu (M:=mH) vh rfl rfl cQ rfl ((by obtain⟨_,_,he,_⟩:=dy.isSlice;rw[he];rfl)) cO (fun K8 Dl gG=>?_);change K8.heap[_]? =some (Obj.cells #[.int .i64 d.1,fV] _ _)at Dl;have:=ak g2;replace dD:=(gG.mem _ this).2 dD;replace g2:=gG.keep g2 (fun hk=>by have hk:_=_:=hk;omega);have:=ak g3;replace eX:=(gG.mem _ this).2 eX;replace g3:=gG.keep g3 (fun hk=>by have hk:_=_:=hk;omega);have:=ak dK;replace db:=(gG.mem _ this).2 db;replace dK:=gG.keep dK (fun hk=>by have hk:_=_:=hk;omega);have:=ak cQ;replace cO:=(gG.mem _ this).2 cO;replace dp:=dp.le (by decide) gG.le;replace dH:=dH.le gG.le;replace fz:=fz.le gG.le;replace fZ:=fZ.le gG.le;replace dy:=dy.step gG (fun b hb hk=>by have hk:_=_:=hk;have:=(dy.base b hb);omega);replace hM:=gG.lt hM
     have:=S.size;replace S:=S.trans gG (fun k hk h=>by have h:_=_:=h;subst h;first|(exfalso;omega)|(show _≤_;omega)|exact⟨by first|omega|assumption,(S.mem _ hk).1 ((gG.mem _ (ak cQ)).1 cO)⟩|exact .inl rfl|exact .inr rfl|exact .inr (.inl rfl)|exact .inr (.inr rfl)|exact .inr (.inr (.inl rfl))|exact rfl);have jo:=Dl;clear cQ;have cQ:=jo;clear jo;refine ab (aj (ae (iM (vs:=[.int .i64 d.1,fV]) a8 rfl oZ rfl rfl rfl cQ ?_)));have rV:=dy.view (hn:=by decide) (by simp;omega);replace dD:rm mH fV _:=⟨dD,by first|exact dy.eK g2 (by decide)|(intro h;have:=(dy.base _ h).1;omega)⟩;replace eX:rm mH fV _:=⟨eX,by first|exact dy.eK g3 (by decide)|(intro h;have:=(dy.base _ h).1;omega)⟩;replace db:rm mH fV _:=⟨db,by first|exact dy.eK dK (by decide)|(intro h;have:=(dy.base _ h).1;omega)⟩;replace cO:rm mH fV _:=⟨cO,by first|exact dy.eK cQ (by decide)|(intro h;have:=(dy.base _ h).1;omega)⟩;replace dp:=dp.le (by decide) (fw _ fV _);replace dH:=dH.le (fw _ fV _);replace fz:=fz.le (fw _ fV _);replace fZ:=fZ.le (fw _ fV _);replace hM:Lt (rm mH fV) _:=fun b hb=>hM b hb.1
     replace S:=S.freeze (v:=fV) (fun b hb=>by have:=(dy.base b hb).1;omega);clear dy;refine aX rfl rfl E94 (Az (d:=(d.1,[]++out++[fixF i x])) _ hM (eV (gm hdi) rV rfl rfl rfl rfl) (fun y hy=>by have:=(A9.snoc Q0) y (by simpa using hy);omega)) (fun r14 TQ hc=>?_);obtain⟨rfl,jV⟩:=hc;rw[fQ]at rV;have:=ak g2;replace dD:=(jV.mem _ this).2 dD;replace g2:=jV.aK g2;have:=ak g3;replace eX:=(jV.mem _ this).2 eX;replace g3:=jV.aK g3;have:=ak dK;replace db:=(jV.mem _ this).2 db;replace dK:=jV.aK dK;have:=ak cQ;replace cO:=(jV.mem _ this).2 cO;replace cQ:=jV.aK cQ;replace dp:=dp.le (by decide) jV.le;replace dH:=dH.le jV.le;replace fz:=fz.le jV.le;replace fZ:=fZ.le jV.le;replace rV:=rV.le jV.le;replace hM:=jV.lt hM;have:=S.size;replace S:=S.aB jV;refine k7 rfl rfl rfl (aV (v':= .bool (decide (lR (d.1,out++[fixF i x])=0))) (by rw[fQ]) (ab ?_));refine bP rfl (fun JB=>?_) (fun JB=>?_)
     ·refine ae (iM (vs:=[.int .i64 d.1,fV]) a8 rfl oZ rfl rfl rfl cQ ?_);refine ez (M:=rm mH fV) (vs:=[.int .i64 d.1,fV]) oZ rfl rfl (by intro u hu;simp at hu;rcases hu with rfl|rfl<;>first|rfl|exact pF (by assumption) rfl rfl) rfl rfl g3 eX (fun adN K9 jW=>?_);have:=ak g2;replace dD:=(jW.mem _ this).2 dD;replace g2:=jW.keep g2 (fun hk=>by have hk:_=_:=hk;omega);have:=ak g3;replace eX:=(jW.mem _ this).2 eX;have:=ak dK;replace db:=(jW.mem _ this).2 db;replace dK:=jW.keep dK (fun hk=>by have hk:_=_:=hk;omega);have:=ak cQ;replace cO:=(jW.mem _ this).2 cO;replace cQ:=jW.keep cQ (fun hk=>by have hk:_=_:=hk;omega);replace dp:=dp.le (by decide) jW.le;replace dH:=dH.le jW.le;replace fz:=fz.le jW.le;replace fZ:=fZ.le jW.le;replace rV:=rV.le jW.le;replace hM:=jW.lt hM;have:=S.size;replace S:=S.trans jW (fun k hk h=>by have h:_=_:=h;subst h;first|(exfalso;omega)|(show _≤_;omega)|exact⟨by first|omega|assumption,(S.mem _ hk).1 ((jW.mem _ (ak g3)).1 eX)⟩|exact .inl rfl|exact .inr rfl|exact .inr (.inl rfl)|exact .inr (.inr rfl)|exact .inr (.inr (.inl rfl))|exact rfl);have XV:=K9;clear g3;have g3:=XV;clear XV;refine ab (ae (ad rfl rfl (bD rfl rfl rfl (by omega) (ah rfl rfl (ab ?_)))));refine⟨rfl,(i+1,out++[fixF i x]),(.cons rfl (.cons rfl (.cons rfl (.cons rfl (.cons rfl .nil))))),?_,?_⟩
      ·exact⟨_,_,hM,S,dp,dH,g2,dD,g3,eX,rV,by rw[pU,hga,if_pos JB],by dsimp only;omega,by dsimp only;omega,A9.snoc Q0,by simp;omega⟩
      ·dsimp only;omega
     ·refine aT (ae (ad rfl rfl (bD rfl rfl rfl (by omega) (ah rfl rfl (ab ?_)))));refine⟨rfl,(i+1,out),(.cons rfl (.cons rfl (.cons rfl (.cons rfl (.cons rfl .nil))))),?_,?_⟩
      ·exact⟨_,_,hM,S,dp,dH,g2,dD,g3,eX,fz,by rw[pU,hga,if_neg JB],by dsimp only;omega,by dsimp only;omega,A9,by dsimp only;omega⟩
      ·dsimp only;omega
   ·refine cL (aj (ae (iM (vs:=[.int .i64 d.1,uo]) a8 rfl oZ rfl rfl rfl g3 ?_)));refine ez (M:=M1) (vs:=[.int .i64 d.1,uo]) oZ rfl rfl (by intro u hu;simp at hu;rcases hu with rfl|rfl<;>first|rfl|exact pF (by assumption) rfl rfl) rfl rfl g2 dD (fun adO La o9=>?_);have:=ak g2;replace dD:=(o9.mem _ this).2 dD;have:=ak g3;replace eX:=(o9.mem _ this).2 eX;replace g3:=o9.keep g3 (fun hk=>by have hk:_=_:=hk;omega);replace dp:=dp.le (by decide) o9.le;replace dH:=dH.le o9.le;replace fz:=fz.le o9.le;replace hM:=o9.lt hM;have:=S.size;replace S:=S.trans o9 (fun k hk h=>by have h:_=_:=h;subst h;first|(exfalso;omega)|(show _≤_;omega)|exact⟨by first|omega|assumption,(S.mem _ hk).1 ((o9.mem _ (ak g2)).1 dD)⟩|exact .inl rfl|exact .inr rfl|exact .inr (.inl rfl)|exact .inr (.inr rfl)|exact .inr (.inr (.inl rfl))|exact rfl);have Lb:=La;clear g2;have g2:=Lb;clear Lb;refine ab (aN ?_);have e:pH d=(d.1,out):=by rw[pH,pU,AA (by omega)]
    rw[e];refine Bk (vs:=[.int .i64 d.1,uo]) rfl rfl a8 rfl oZ rfl g2 ⟨eV (gm hdi) (fz.le (Le.close lC S)) rfl rfl rfl rfl,S.back⟩
  ·refine ar rfl rfl rfl rfl (ar rfl rfl rfl rfl (aE rfl rfl rfl (ab (jD rfl (cL (aj (ae (iM (vs:=[.int .i64 d.1,uo]) a8 rfl oZ rfl rfl rfl g3 ?_))))))));refine ez (M:=M1) (vs:=[.int .i64 d.1,uo]) oZ rfl rfl (by intro u hu;simp at hu;rcases hu with rfl|rfl<;>first|rfl|exact pF (by assumption) rfl rfl) rfl rfl g2 dD (fun adO La o9=>?_);have:=ak g2;replace dD:=(o9.mem _ this).2 dD;have:=ak g3;replace eX:=(o9.mem _ this).2 eX;replace g3:=o9.keep g3 (fun hk=>by have hk:_=_:=hk;omega);replace dp:=dp.le (by decide) o9.le;replace dH:=dH.le o9.le;replace fz:=fz.le o9.le;replace hM:=o9.lt hM;have:=S.size;replace S:=S.trans o9 (fun k hk h=>by have h:_=_:=h;subst h;first|(exfalso;omega)|(show _≤_;omega)|exact⟨by first|omega|assumption,(S.mem _ hk).1 ((o9.mem _ (ak g2)).1 dD)⟩|exact .inl rfl|exact .inr rfl|exact .inr (.inl rfl)|exact .inr (.inr rfl)|exact .inr (.inr (.inl rfl))|exact rfl);have Lb:=La;clear g2;have g2:=Lb;clear Lb;refine ab (aN ?_);have e:pH d=(d.1,out):=by rw[pH,pU,AA (by omega)]
   rw[e];refine Bk (vs:=[.int .i64 d.1,uo]) rfl rfl a8 rfl oZ rfl g2 ⟨eV (gm hdi) (fz.le (Le.close lC S)) rfl rfl rfl rfl,S.back⟩
end Go.K
namespace Go.K
open Go.Proofs
set_option maxRecDepth 10000
def fj (l:List Dc) (from_ step:Int):Nat→List En
 |0=>[]
 |k+1=>fj l from_ step k++(match l[k]? with|some d=>[(pH d,from_+step*(k:Int))]|none=>[])
theorem l0 (l:List Dc) (a s:Int):∀k,(fj l a s k).length=min k l.length
 |0=>by simp[fj]
 |k+1=>by
  rw[fj,bg,l0 l a s k]
  cases h:l[k]? with
  |none=>have:=List.getElem?_eq_none_iff.1 h;simp;omega
  |some d=>have:=(an.1 h).1;simp;omega
theorem yz {l:List Dc} {a s:Int} {k:Nat} {d:Dc} (h:l[k]? =some d):fj l a s (k+1)=fj l a s k++[(pH d,a+s*(k:Int))]:=by rw[fj,h]
theorem yA {l:List Dc} {a s:Int} {k:Nat} (h:l.length≤k):fj l a s (k+1)=fj l a s k:=by
 rw[fj,List.getElem?_eq_none_iff.2 h];simp
theorem Dm {l:List Dc} {a s:Int} {n i:Nat} (h:l.length≤i∨n≤i) (h1:i≤n):fj l a s i=fj l a s n:=by
 induction n with
 |zero=>have:i=0:=by omega
        rw[this]
 |succ n ih=>
  rcases lE h1 with e|dO
  ·rw[e]
  ·rcases h with h|h
   ·rw[yA (by omega)];exact ih (.inl h) (by omega)
   ·omega
theorem O0 {s k:Int} (h:0≤s∧s≤1000) (hk:0≤k∧k≤100):0≤s*k∧s*k≤100000:=
 ⟨Int.mul_nonneg h.1 hk.1,Int.le_trans (Int.mul_le_mul h.2 hk.2 hk.1 (by omega)) (by omega)⟩
theorem FI {M:aC} {l:List Dc} {v0:Value} {most:Nat} {a s:Int} (w0:World) (hM:Lt M w0) (hv:(RT.dc.sl).V M w0 l v0) (hm:most≤100) (ha:0≤a∧a≤1000000) (hs:0≤s∧s≤1000):
  Spec Tryz.prog 12 #[v0,.int .i64 (most:Int),.int .i64 a,.int .i64 s] w0 (fun v w=>(RT.en.sl).V M w (fj l a s most) v∧Step M w0 M w aD):=by
 have lC:=hM;refine bc (args:=[_,_,_,_]) (fn:=Tryz.f12) Tryz.func12 rfl (n:=37) Tryz.ntmps12 ?_;have S:Step M w0 M w0 aD:=(ax _ _).cG (fun _ h=>h.elim) (fun _ h=>h.elim);refine aj (ae (ah rfl rfl (ab (aj (ae (ah rfl rfl (ab (aj (aj (ae (ah rfl rfl ?_)))))))))));refine ab (aZ ?_);refine dn (σ:=Nat×Value) (fun q=>[(0,v0),(1,.int .i64 (most:Int)),(2,.int .i64 a),(3,.int .i64 s),(9,q.2),(10,.int .i64 (q.1:Int))]) (fun q w=>∃M',Lt M' w∧Step M w0 M' w aD∧Own RT.en 71 M' w w0.heap.size q.2 (fj l a s q.1)∧(RT.dc.sl).V M' w l v0∧q.1≤most∧q.1≤l.length) (fun q=>most-q.1) (0,.slice none 0 0) (.cons rfl (.cons rfl (.cons rfl (.cons rfl (.cons rfl (.cons rfl .nil)))))) ?_ ?_
 ·exact⟨M,hM,S,dE _ _ _ _ _,hv,bG _,bG _⟩
 ·rintro⟨i,u⟩ w ⟨M1,hM,S,ho,hv,hi,oN⟩;dsimp only at ho hi oN ⊢;refine aj (aj (ae (ad rfl rfl (ad rfl rfl (bJ Tryz.underlying22 rfl hv rfl (cf rfl rfl rfl (ad rfl rfl ?_)))))));refine aO (g:=15) rfl (fun adP=>?_) (fun adP=>?_)
  ·refine al rfl rfl (ad rfl rfl (al rfl rfl (ad rfl rfl (al rfl rfl (cf rfl rfl rfl (aW rfl rfl rfl (ab ?_)))))));refine bP rfl (fun c3=>?_) (fun c3=>?_)
   ·refine aT (aj (aZ (ae (ad rfl rfl (ad rfl rfl (ad rfl rfl ?_))))));refine cF (M:=M1) Tryz.underlying22 oZ rfl rfl rfl hv (aq _ _) (by omega) (fun u5 d Il zL=>?_);rw[ay]at Il;have Iw:=O0 (k:=(i:Int)) hs (by omega);refine de (M:=M1) (A:=RT.dc) a8 rfl oZ (by decide) rfl rfl rfl zL (aq _ _) (fun v5 oF=>?_);refine aX rfl rfl E44 (Iu _ hM oF) (fun r5 w5 hc=>?_);obtain⟨pU,s5⟩:=hc;replace hv:=hv.le s5.le;replace ho:=ho.aM s5;replace hM:=s5.lt hM;have:=S.size;replace S:=S.aB s5;refine ad rfl rfl (ad rfl rfl (ad rfl rfl (Rg.Ol rfl rfl rfl (by omega) (bD rfl rfl rfl (by omega) ?_))));obtain⟨uf,rfl⟩:=KQ pU;refine iW (places:=[(0,2),(2,1)]) dU G6 B71 rfl ⟨_,_,rfl,rfl,_,_,rfl,rfl,rfl⟩ (out:=[_,_,_]) ⟨0,[_,_],rfl,rfl,by simp[Value.cells],2,[_],rfl,rfl,by simp[Value.cells],rfl⟩ ?_;refine dQ (A:=RT.en) (hn:=by decide) (M:=M1) ej G6 (by decide) rfl rfl hM (show RT.en.V _ _ (pH d,a+s*(i:Int)) _ from QP pU (by omega)) (.inl rfl) (fun ajb ajc FJ Dn=>?_);replace hv:=hv.le Dn.le;replace pU:=pU.le Dn.le;replace ho:=ho.aM Dn;replace hM:=Dn.lt hM;have:=S.size;replace S:=S.aB Dn;refine cX (M:=M1) (base:=w0.heap.size) ej G6 rfl rfl rfl rfl ho FJ (aq _ _) (by have:=l0 l a s i;simp;omega) (by have:=l0 l a s i;simp;omega) (S.size) (fun XW XX ajd TR Dp=>?_);replace hv:=hv.le Dp.le;replace pU:=pU.le Dp.le;replace FJ:=FJ.le Dp.le;replace hM:=Dp.lt hM;have:=S.size;replace S:=S.dm Dp ho (aR _);replace ho:=TR;refine ah rfl rfl (ab (ae (ad rfl rfl (bD rfl rfl rfl (by omega) (ah rfl rfl (ab ?_))))));refine⟨rfl,(i+1,XW),(.cons rfl (.cons rfl (.cons rfl (.cons rfl (.cons rfl (.cons rfl .nil)))))),?_,?_⟩
    ·exact⟨XX,hM,S,by rw[yz Il];exact ho,hv,by dsimp only;omega,by dsimp only;omega⟩
    ·dsimp only;omega
   ·refine cL (aj (ae (ad rfl rfl (ah rfl rfl (ab (aN ?_))))));rw[←Dm (i:=i) (n:=most) (by omega) hi];exact aU rfl rfl ⟨ho.close lC S (by have:=l0 l a s i;omega),S.back⟩
  ·refine ar rfl rfl rfl rfl (ar rfl rfl rfl rfl (ar rfl rfl rfl rfl (aE rfl rfl rfl (ab (jD rfl (cL (aj (ae (ad rfl rfl (ah rfl rfl (ab ?_)))))))))));refine aN ?_;rw[←Dm (i:=i) (n:=most) (by omega) hi];exact aU rfl rfl ⟨ho.close lC S (by have:=l0 l a s i;omega),S.back⟩
end Go.K
namespace Go.K
open Go.Maps (Keyed)
structure fH (P:Program) (kt:TypeId) (w:World) (b:Nat) (es:List MapEntry) (clock:Nat):Prop where
 at_:w.heap[b]? =some (.map es.toArray clock)
 born:es.Pairwise fun x y=>x.born≠y.born
 lt:∀e∈es,e.born<clock
 keys:es.Pairwise fun x y=>x.key≠y.key
 ok:∀e∈es,∃l,keyOf P kt e.key=some l
def eh (zv:Value) (es:List MapEntry) (key v:Value):Prop:=(∃e∈es,e.key=key∧v=e.val)∨((∀e∈es,e.key≠key)∧v=zv)
section
variable {P:Program} {kt:TypeId} {w:World} {b clock:Nat} {es:List MapEntry}
theorem fH.step {M M' N:aC} {w':World} (h:fH P kt w b es clock) (s:Step M w M' w' N) (hn: ¬N b):fH P kt w' b es clock:=⟨s.keep h.at_ hn,h.born,h.lt,h.keys,h.ok⟩
theorem fH.aM {M M':aC} {w':World} (h:fH P kt w b es clock) (s:Step M w M' w' aD):fH P kt w' b es clock:=h.step s fun h=>h
theorem iz {α:Type} {R:α→α→Prop} {l:List α} (h:l.Pairwise R) {i j:Nat} {x y:α} (hi:l[i]? =some x) (hj:l[j]? =some y) (ji:i<j):R x y:=by
 obtain⟨h1,h2⟩:=an.1 hi;obtain⟨h3,h4⟩:=an.1 hj;have:=cq.1 h i j h1 h3 ji
 rwa [h2,h4]at this
theorem fH.Hi (h:fH P kt w b es clock) {x y:MapEntry} (hx:x∈es) (hy:y∈es) (e:x.key=y.key):x=y:=by
 obtain⟨i,hi⟩:=bm.1 hx;obtain⟨j,hj⟩:=bm.1 hy;rcases eE i j with h1|h1|h1
 ·exact absurd e (iz h.keys hi hj h1)
 ·subst h1;rw[hi]at hj;exact aJ hj
 ·exact absurd e.symm (iz h.keys hj hi h1)
theorem fH.Dq (h:fH P kt w b es clock) {i j:Nat} {x y:MapEntry} (hi:es[i]? =some x) (hj:es[j]? =some y) (e:x.born=y.born):i=j:=by
 rcases eE i j with h1|h1|h1
 ·exact absurd e (iz h.born hi hj h1)
 ·exact h1
 ·exact absurd e.symm (iz h.born hj hi h1)
theorem fH.val_one (h:fH P kt w b es clock) {zv key v v':Value} (h1:eh zv es key v) (h2:eh zv es key v'):v=v':=by
 rcases h1 with⟨e,he,hk,hv⟩|⟨hn,hv⟩
 ·rcases h2 with⟨e',qB,ry,rM⟩|⟨Ix,_⟩
  ·have:=h.Hi he qB (hk.trans ry.symm);rw[hv,rM,this]
  ·exact absurd hk (Ix e he)
 ·rcases h2 with⟨e',qB,ry,_⟩|⟨_,rM⟩
  ·exact absurd ry (hn e' qB)
  ·rw[hv,rM]
theorem dL {r:Nat} {a:Array MapEntry} {c:Nat} (hb:w.heap[r]? =some (.map a c)):(getObj r).run P w= .ok (.map a c) w:=by simp[getObj,Sem.run,hb]
theorem run_setObj_map {r:Nat} {a:Array MapEntry} {c:Nat} {o:Obj} (hb:w.heap[r]? =some (.map a c)):(setObj r o).run P w= .ok () {w with heap:=w.heap.setIfInBounds r o}:=by simp[setObj,Sem.run,hb]
theorem fH.push (h:fH P kt w b es clock) {key v:Value} {kl:Lit} (lI:keyOf P kt key=some kl) (hn:∀e∈es,e.key≠key) {w':World} (hw:w'.heap[b]? =some (.map (es++([⟨key,v,clock⟩]:List MapEntry)).toArray (clock+1))):fH P kt w' b (es++[⟨key,v,clock⟩]) (clock+1):=
 ⟨hw,nt.2 ⟨h.born,List.pairwise_singleton _ _,fun x hx y hy=>by rw[bE.1 hy];have:=h.lt x hx;show x.born≠clock;omega⟩,(fun e he=>by
  rcases ck.1 he with he|he
  ·have:=h.lt e he;omega
  ·rw[bE.1 he];exact Nat.lt_succ_self _),nt.2 ⟨h.keys,List.pairwise_singleton _ _,fun x hx y hy=>by rw[bE.1 hy];exact hn x hx⟩,(fun e he=>by
  rcases ck.1 he with he|he
  ·exact h.ok e he
  ·rw[bE.1 he];exact⟨kl,lI⟩)⟩
theorem eh.push {zv key:Value} {s:Nat} (hn:∀e∈es,e.key≠key) (jq v':Value):eh zv (es++[⟨key,zv,s⟩]) jq v'↔eh zv es jq v':=by
 constructor
 ·rintro(⟨e,he,hk,hv⟩|⟨h1,h2⟩)
  ·rcases ck.1 he with he|he
   ·exact .inl ⟨e,he,hk,hv⟩
   ·rw[bE.1 he]at hk hv;exact .inr ⟨fun e he=>by rw[←hk];exact hn e he,hv⟩
  ·exact .inr ⟨fun e he=>h1 e (gy _ he),h2⟩
 ·rintro(⟨e,he,hk,hv⟩|⟨h1,h2⟩)
  ·exact .inl ⟨e,gy _ he,hk,hv⟩
  ·by_cases hk:key=jq
   ·exact .inl ⟨⟨key,zv,s⟩,by simp,hk,h2⟩
   ·exact .inr ⟨fun e he=>by
     rcases ck.1 he with he|he
     ·exact h1 e he
     ·rw[bE.1 he];exact hk,h2⟩
end
section
variable {P:Program} {r:Option Nat} {n:Nat} {L:Sl} {ds:List Deferred} {w:World} {K:Kt} {ops:Array Oper} {rest:List Oper} {d:Nat} {x y z:Operand} {ty:TypeId} {pos:String} {af:Array Edge}
variable {kt:TypeId} {M:aC} {b clock:Nat} {es:List MapEntry}
theorem Rg.Dr {t e:TypeId} (M:aC) (ht:P.underlying t=some (.map kt e)) (hd:Nat.blt d n=true)
  (k:∀b w',w.heap.size≤b→b<w'.heap.size→fH P kt w' b [] 0→Step M w (ins M b) w' aD→Rg P r n ops rest ((d,.map (some b))::L) ds w' K):
  Rg P r n ops ({dst:=some d,op:= .makeMap t none,type:=ty,pos,after:=af,guard:=none}::rest) L ds w K:=by
 refine .op (fun _ h=>by cases h) rfl rfl hd (.map (some w.heap.size)) (w.alloc (.map #[] 0)) (fun ρ hρ=>?_) (k w.heap.size _ (aR _) (by simp) ⟨cp w _,List.Pairwise.nil,(fun e he=>by cases he),List.Pairwise.nil,(fun e he=>by cases he)⟩ ((cW M w _).own (aR _) (by simp)));simp only[execOp];simp[Instr.makeMap,newObj,Sem.run,run_underlying ht]
theorem Rg.mapEntry {t e:TypeId} {zv key:Value} {size bytes:Nat} {kl:Lit} (ht:P.underlying t=some (.map kt e)) (Kk:Keyed P kt) (hi:TI P e zv size bytes) (hx:ev L x=some (.map (some b))) (hy:ev L y=some key) (hd:Nat.blt d n=true) (lI:keyOf P kt key=some kl) (h:fH P kt w b es clock) (hm:M b)
  (k:∀w' pI FK v s,fH P kt w' b pI FK→eh zv es key v→(⟨key,v,s⟩:MapEntry)∈pI→(∀jq v',eh zv pI jq v'↔eh zv es jq v')→((pI.map (·.key)=es.map (·.key)∧∃e∈es,e.key=key)∨(pI.map (·.key)=es.map (·.key)++[key]∧∀e∈es,e.key≠key))→Step M w M w' (fun k=>k=b)→Rg P r n ops rest ((d,.tuple #[v,.int .i64 (s:Nat)])::L) ds w' K):
  Rg P r n ops ({dst:=some d,op:= .mapEntry t x y,type:=ty,pos,after:=af,guard:=none}::rest) L ds w K:=by
 have dO:=ak h.at_;rcases Kk.find w lI es h.ok with⟨h1,h2⟩|⟨j,e0,h1,h2,h3⟩
 ·obtain⟨inf,i1,i2,_,_⟩:=hi.get;have hz:(zeroValue e).run P w= .ok zv w:=by simp[zeroValue,typeInfo,i1,i2]
  have hw:({w with heap:=w.heap.setIfInBounds b (.map (es.toArray.push ⟨key,zv,clock⟩) (clock+1))}:World).heap[b]? =some (.map (es++([⟨key,zv,clock⟩]:List MapEntry)).toArray (clock+1)):=by
   simp[dz,dO]
  refine .op (fun _ h=>by cases h) rfl rfl hd _ _ (fun ρ hρ=>?_) (k _ _ _ zv clock (h.push lI h2 hw) (Or.inr ⟨h2,rfl⟩) (by simp) (eh.push h2) (Or.inr ⟨by simp,h2⟩) (jn M hm));simp only[execOp,hρ x _ hx,hρ y _ hy,Instr.mapEntry,ch,run_underlying ht,cB,dL h.at_,Kk.check w false lI,h1,hz,run_setObj_map h.at_];simp[goInt]
 ·have he:e0∈es:=aA h2
  have Lc:es.toArray.modify j (fun e=>{e with key:=key})=es.toArray:=by
   apply Array.ext_getElem?;intro i;rw[jF]
   split
   ·rename_i Q4
    subst Q4;simp only[il,h2,cV];rw[←h3]
   ·rfl
  have hw:({w with heap:=w.heap.setIfInBounds b (.map es.toArray clock)}:World).heap[b]? =some (.map es.toArray clock):=by simp[dz,dO]
  have hj:es.toArray[j]? =some e0:=by simpa using h2
  have kC:(Instr.keyThatStays ((Option.map (fun(e:MapEntry)=>e.key) es.toArray[j]?).getD key) key).run P w= .ok key w:=by
   rw[hj];simp only[cV,Option.getD_some,h3];exact Kk.stays w lI
  refine .op (fun _ h=>by cases h) rfl rfl hd _ _ (fun ρ hρ=>?_) (k _ es clock e0.val e0.born ⟨hw,h.born,h.lt,h.keys,h.ok⟩ (Or.inl ⟨e0,he,h3,rfl⟩) (by rw[←h3];exact he) (fun _ _=>Iff.rfl) (Or.inl ⟨rfl,e0,he,h3⟩) (jn M hm));simp only[execOp,hρ x _ hx,hρ y _ hy,Instr.mapEntry,ch,run_underlying ht,cB,dL h.at_,Kk.check w false lI,h1,kC,Lc,run_setObj_map h.at_];simp[goInt,hj]
theorem Rg.entryStore {t:TypeId} {key v0 val:Value} {s:Nat} (hx:ev L x=some (.map (some b))) (hy:ev L y=some (.int .i64 (s:Int))) (hz:ev L z=some val) (h:fH P kt w b es clock) (hm:M b) (kq:(⟨key,v0,s⟩:MapEntry)∈es)
  (k:∀w' pI,fH P kt w' b pI clock→pI.map (·.key)=es.map (·.key)→(∀zv jq v',eh zv pI jq v'↔(jq=key∧v'=val)∨(jq≠key∧eh zv es jq v'))→Step M w M w' (fun k=>k=b)→Rg P r n ops rest L ds w' K):
  Rg P r n ops ({dst:=none,op:= .entryStore t x y z,type:=ty,pos,after:=af,guard:=none}::rest) L ds w K:=by
 have dO:=ak h.at_;obtain⟨i,hi⟩:=bm.1 kq;have oN:=(an.1 hi).1
 have adQ:es.toArray.findIdx? (fun e=>(e.born:Int)==(s:Int))=some i:=by
  rw[List.findIdx?_toArray,List.findIdx?_eq_some_iff_getElem];refine⟨oN,by rw[(an.1 hi).2];simp,fun j hj=>?_⟩;have xc:j<es.length:=by omega
  have:=fun e=>h.Dq (au xc) hi e
  simp only[Bool.not_eq_true,beq_eq_false_iff_ne,ne_eq];intro e;have e2:((es[j]).born:Int)=(s:Int):=by simpa using e
  have:=this (by show(es[j]).born=s;omega);omega
 obtain⟨pI,vw⟩:∃pI,pI=es.set i ⟨key,val,s⟩:=⟨_,rfl⟩
 have Lc:es.toArray.modify i (fun e=>{e with val:=val})=pI.toArray:=by
  apply Array.ext_getElem?;intro j;rw[jF,vw];simp only[il,du]
  split
  ·rename_i Q4
   subst Q4;rw[hi];simp
  ·rfl
 have iY:∀j e',pI[j]? =some e'→(j=i∧e'=⟨key,val,s⟩)∨(j≠i∧es[j]? =some e'):=fun j e' hj=>by
  rw[vw,du]at hj
  split at hj
  ·rename_i ji
   left;exact⟨ji.symm,by simpa[oN]using hj.symm⟩
  ·rename_i ji
   exact .inr ⟨fun e=>ji e.symm,hj⟩
 have pJ:pI.map (·.key)=es.map (·.key):=by
  rw[vw,List.map_set];apply fe;intro j;rw[du]
  split
  ·rename_i ji
   subst ji;have e:=(an.1 hi).2;simp[oN,e]
  ·rfl
 have Ld:pI.map (·.born)=es.map (·.born):=by
  rw[vw,List.map_set];apply fe;intro j;rw[du]
  split
  ·rename_i ji
   subst ji;have e:=(an.1 hi).2;simp[oN,e]
  ·rfl
 have hw:({w with heap:=w.heap.setIfInBounds b (.map pI.toArray clock)}:World).heap[b]? =some (.map pI.toArray clock):=by simp[dz,dO]
 have eH:∀e'∈pI,(e'=⟨key,val,s⟩)∨(e'∈es∧e'.key≠key):=fun e' qB=>by
  obtain⟨j,hj⟩:=bm.1 qB;rcases iY j e' hj with⟨_,e⟩|⟨eN,tH⟩
  ·exact .inl e
  ·refine .inr ⟨aA tH,fun e=>eN ?_⟩;rcases eE j i with h1|h1|h1
   ·exact absurd e (iz h.keys tH hi h1)
   ·exact h1
   ·exact absurd e.symm (iz h.keys hi tH h1)
 have Lg:(⟨key,val,s⟩:MapEntry)∈pI:=aA (i:=i) (by rw[vw,du];simp[oN])
 have hold:∀e'∈es,e'.key≠key→e'∈pI:=fun e' qB eN=>by
  obtain⟨j,hj⟩:=bm.1 qB;refine aA (i:=j) ?_;rw[vw,du,if_neg]
  ·exact hj
  ·rintro rfl;rw[hi]at hj;cases hj;exact eN rfl
 have hW:fH P kt {w with heap:=w.heap.setIfInBounds b (.map pI.toArray clock)} b pI clock:=by
  refine⟨hw,?_,fun e' qB=>?_,?_,fun e' qB=>?_⟩
  ·have:=cy.2 h.born;rw[←Ld]at this;exact cy.1 this
  ·rcases eH e' qB with e|⟨h1,_⟩
   ·rw[e];exact(h.lt _ kq:s<clock)
   ·exact h.lt _ h1
  ·have:=cy.2 h.keys;rw[←pJ]at this;exact cy.1 this
  ·rcases eH e' qB with e|⟨h1,_⟩
   ·rw[e];exact(h.ok _ kq:∃l,keyOf P kt key=some l)
   ·exact h.ok _ h1
 refine .Qq (fun _ h=>by cases h) rfl rfl _ (fun ρ hρ=>?_) (k _ pI hW pJ (fun zv jq v'=>?_) (jn M hm))
 ·simp only[execOp,hρ x _ hx,hρ y _ hy,hρ z _ hz,Instr.entryStore,ch,dL h.at_,cB,asInt,asIntOf,Sem.run_pure,adQ,Lc,run_setObj_map h.at_]
 ·constructor
  ·rintro(⟨e',qB,hk,hv⟩|⟨h1,h2⟩)
   ·rcases eH e' qB with e|⟨h3,h4⟩
    ·subst e;exact .inl ⟨hk.symm,hv⟩
    ·exact .inr ⟨by rw[←hk];exact h4,.inl ⟨e',h3,hk,hv⟩⟩
   ·have eN:jq≠key:=fun e=>h1 _ Lg e.symm
    exact .inr ⟨eN,.inr ⟨fun e' qB=>fun e=>by
     by_cases h5:e'.key=key
     ·exact eN (e.symm.trans h5)
     ·exact h1 e' (hold e' qB h5) e,h2⟩⟩
  ·rintro(⟨rfl,rfl⟩|⟨eN,⟨e',qB,hk,hv⟩|⟨h1,h2⟩⟩)
   ·exact .inl ⟨_,Lg,rfl,rfl⟩
   ·exact .inl ⟨e',hold e' qB (by rw[hk];exact eN),hk,hv⟩
   ·exact .inr ⟨fun e' qB=>by
     rcases eH e' qB with e|⟨h3,_⟩
     ·rw[e];exact fun e=>eN e.symm
     ·exact h1 e' h3,h2⟩
theorem Rg.tU {t e:TypeId} {zv key:Value} {size bytes:Nat} {kl:Lit} (ht:P.underlying t=some (.map kt e)) (Kk:Keyed P kt) (hi:TI P e zv size bytes) (hx:ev L x=some (.map (some b))) (hy:ev L y=some key) (hd:Nat.blt d n=true) (lI:keyOf P kt key=some kl) (h:fH P kt w b es clock)
  (k:∀v,eh zv es key v→Rg P r n ops rest ((d,v)::L) ds w K):
  Rg P r n ops ({dst:=some d,op:= .lookup t x y false,type:=ty,pos,after:=af,guard:=none}::rest) L ds w K:=by
 rcases Kk.find w lI es h.ok with⟨h1,h2⟩|⟨j,e0,h1,h2,h3⟩
 ·obtain⟨inf,i1,i2,_,_⟩:=hi.get;have hz:(zeroValue e).run P w= .ok zv w:=by simp[zeroValue,typeInfo,i1,i2]
  refine .op (fun _ h=>by cases h) rfl rfl hd zv w (fun ρ hρ=>?_) (k zv (Or.inr ⟨h2,rfl⟩));simp only[execOp,hρ x _ hx,hρ y _ hy,Instr.lookup,ch,run_underlying ht,cB,dL h.at_,Sem.run_pure,Kk.check w _ lI,h1,hz];simp
 ·refine .op (fun _ h=>by cases h) rfl rfl hd e0.val w (fun ρ hρ=>?_) (k e0.val (Or.inl ⟨e0,aA h2,h3,rfl⟩));simp only[execOp,hρ x _ hx,hρ y _ hy,Instr.lookup,ch,run_underlying ht,cB,dL h.at_,Sem.run_pure,Kk.check w _ lI,h1];simp
end
end Go.K
namespace Go.K
open Go.Proofs
set_option maxRecDepth 10000
open Go.Maps (Keyed)
def kv (t:Fd):Value:= .agg #[.string ⟨t.1.toArray⟩,.string ⟨t.2.toArray⟩]
theorem vz {a b:Fd} (h:kv a=kv b):a=b:=by
 unfold kv at h;simp only[Value.agg.injEq,Array.mk.injEq,List.cons.injEq,Value.string.injEq,ByteArray.mk.injEq,and_true]at h;exact Prod.ext h.1 h.2
theorem Lh:laidOutB Tryz.prog=true:=by kernel_rfl
theorem Lj:Tryz.prog.types.size=383:=by kernel_rfl
theorem AB:Keyed Tryz.prog 78:=Keyed.of_law (deep_law_laid Lh (m:=2) (k:=78) (by omega) (by rw[Lj];decide) (by kernel_rfl) (by kernel_rfl))
theorem XY:Tryz.prog.keyType 78=true:=by kernel_rfl
theorem Hj:Tryz.prog.cellsOf 78=2:=by kernel_rfl
theorem O1:Tryz.prog.cellsOf 9=1:=by kernel_rfl
theorem Lk (t:Fd) (h1:t.1.length≤140737488355328) (h2:t.2.length≤140737488355328):∃l,keyOf Tryz.prog 78 (kv t)=some l:=by
 have e1:(⟨t.1.toArray⟩:ByteArray).size=t.1.length:=by simp[ByteArray.size]
 have e2:(⟨t.2.toArray⟩:ByteArray).size=t.2.length:=by simp[ByteArray.size]
 have hs:∀(s:ByteArray),s.size≤maxLen→Tryz.prog.keyLits 383 9 [.string s]=some [.string s.data.toList]:=fun s hs=>by
  show(match Tryz.prog.underlying 9,[Value.string s]with|_,_=>_)=_;rw[aH];exact if_pos hs
 unfold keyOf kv;rw[dF];simp only[XY,Value.formed,dF,Hj,Lj]
 have key:∃ls,Tryz.prog.keyLits (383+1) 78 [.string ⟨t.1.toArray⟩,.string ⟨t.2.toArray⟩]=some ls:=by
  unfold Program.keyLits;simp only[dF];rw[if_pos ⟨by rw[Hj];rfl,by kernel_rfl⟩];simp only[List.mapM_cons,List.mapM_nil,O1];have g1:=hs ⟨t.1.toArray⟩ (by rw[e1];unfold maxLen;omega);have g2:=hs ⟨t.2.toArray⟩ (by rw[e2];unfold maxLen;omega);refine⟨[.string (⟨t.1.toArray⟩:ByteArray).data.toList,.string (⟨t.2.toArray⟩:ByteArray).data.toList],?_⟩;simp only[List.drop_zero,List.drop_succ_cons,oH,List.take_zero,g1,g2];rfl
 obtain⟨ls,hls⟩:=key;exact⟨.string (keyBytes ls),by rw[if_pos (by simp)];show Option.map _ (Tryz.prog.keyLits (383+1) 78 [.string ⟨t.1.toArray⟩,.string ⟨t.2.toArray⟩])=_;rw[hls];rfl⟩
end Go.K
namespace Go.K
open Go.Proofs
set_option maxRecDepth 10000
def jr (x:Fd):List (Fd×Nat):=(words x.2).zipIdx.map fun p=>((x.1,p.1),p.2)
def cE (l:List Fd):List (Fd×Nat):=l.flatMap jr
theorem oe (x:Fd):(jr x).length=(words x.2).length:=by simp[jr]
theorem Ll {x:Fd} {k:Nat} {y:List UInt8} (h:(words x.2)[k]? =some y):(jr x)[k]? =some ((x.1,y),k):=by
 simp[jr,List.getElem?_zipIdx,h]
theorem tb {fs:List Fd} {i:Nat} {x:Fd} (h:fs[i]? =some x):cE (fs.take (i+1))=cE (fs.take i)++jr x:=by
 rw[cb,h];simp[cE]
structure TS (P:Program) (g:FuncId) (cap:List Value) (B:Nat) (J:List (Fd×Nat)→aC→World→Prop):Prop where
 enters:Enters P g
 step:∀ts M w M' w',J ts M w→Step M w M' w' aD→J ts M' w'
 tell:∀ts M w (t:Fd) (i:Nat),J ts M w→Lt M w→t.1.length≤900000→t.2.length≤140737488355328→i≤1000000→ts.length≤10000000→Spec P g ([kv t,.int .i64 (i:Int)]++cap).toArray w (fun _ w'=>∃M',Lt M' w'∧J (ts++[(t,i)]) M' w'∧Step M w M' w' (lN M B))
theorem AD {M:aC} {d:Dc} {v0:Value} {g:FuncId} {cap:List Value} {B:Nat} {J:List (Fd×Nat)→aC→World→Prop} (w0:World) (hM:Lt M w0) (hv:RT.dc.V M w0 d v0) (hl:∀f∈d.2,f.1.length≤900000∧f.2.length≤900000) (hd8:d.2.length≤8) (hT:TS Tryz.prog g cap B J) (hJ:J [] M w0):
  Spec Tryz.prog 132 #[v0,.func (.func g) #[] cap.toArray] w0 (fun v w=>∃M',Lt M' w∧J (cE d.2) M' w∧Step M w0 M' w (lN M B)):=by
 refine bc (args:=[_,_]) (fn:=Tryz.f132) Tryz.func132 rfl (n:=33) Tryz.ntmps132 ?_;have S:Step M w0 M w0 (lN M B):=(ax _ _).cG (fun _ h=>h.elim) (fun _ h=>h.2);refine aj (ae ?_);refine vU (A:=RT.dc) rfl rfl hM hv rfl (fun u0 w1 dp s0 _=>?_);replace hJ:=hT.step _ _ _ _ _ hJ s0;replace hM:=s0.lt hM;have:=S.size;replace S:=S.aB s0;refine ab (aj (ae ?_));refine aS (M:=M) (A:=RT.dc) (B:=(RT.fd).sl) a8 rfl rfl vh (by decide) (Iq) rfl rfl (by decide) (by assumption) (by repeat (first|exact aq _ _|refine aY (bu (by assumption)) ?_)) (fun BB nc=>?_);refine bV (M:=M) bj rfl rfl rfl rfl rfl (by assumption) (by repeat (first|exact aq _ _|refine aY (bu (by assumption)) ?_)) (fun zO nf=>?_);refine bJ bj rfl nf rfl (ad rfl rfl (ab (aZ ?_)));refine dn (σ:=Nat) (fun i=>[(1,.func (.func g) #[] cap.toArray),(9,zO),(10,.int .i64 (d.2.length:Int)),(11,.int .i64 (i:Int))]) (fun i w=>∃M',Lt M' w∧Step M w0 M' w (lN M B)∧(RT.fd.sl).V M' w d.2 zO∧J (cE (d.2.take i)) M' w∧i≤d.2.length∧(cE (d.2.take i)).length≤900001*i) (fun i=>d.2.length-i) 0 (.cons rfl (.cons rfl (.cons rfl (.cons rfl .nil)))) ?_ ?_
 ·exact⟨_,hM,S,nf,hJ,bG _,aR _⟩
 ·rintro i w ⟨M1,hM,S,lA,hJ,hi,H3⟩;refine aj (ae (cf rfl rfl rfl (ab (aj ?_))));refine bP rfl (fun c2=>?_) (fun c2=>?_)
  ·refine aT (aj (aZ (aj (ae ?_))));refine cF (M:=M1) bj kD rfl rfl rfl lA (aq _ _) (by omega) (fun u3 x N2 Q5=>?_);rw[ay]at N2;have qU:=hl _ (aA N2);refine de (M:=M1) (A:=RT.fd) cv rfl kD (by decide) rfl rfl rfl Q5 (aq _ _) (fun v3 AE=>?_);refine xn (A:=RT.fd) (M:=M1) kD rfl rfl rfl rfl rfl (by assumption) (aq _ _) hM (fun TT ann AF O2 ano=>?_);replace lA:=lA.le O2.le;replace hJ:=hT.step _ _ _ _ _ hJ O2;replace hM:=O2.lt hM;have:=S.size;replace S:=S.aB O2;refine ab (aj (ae ?_));refine aS (M:=M1) (A:=RT.fd) (B:=RT.str) cv rfl rfl I9 (by decide) (fd1) rfl rfl (by decide) (by assumption) (by repeat (first|exact aq _ _|refine aY (bu (by assumption)) ?_)) (fun Tu Hg=>?_);refine bV (M:=M1) aH rfl rfl rfl rfl rfl Hg (aq _ _) (fun v4 rU=>?_);obtain rfl:=ix rU;refine aX rfl rfl W4 (ym (l:=x.2) _ hM qU.2) (fun v5 w5 hc=>?_);obtain⟨XZ,s5⟩:=hc;replace lA:=lA.le s5.le;replace AF:=AF.le (by decide) s5.le;replace hJ:=hT.step _ _ _ _ _ hJ s5;replace hM:=s5.lt hM;have:=S.size;replace S:=S.aB s5;have hwl:=qX x.2;refine bJ aQ rfl XZ rfl (ad rfl rfl (ab (aZ ?_)));refine dn (σ:=Nat) (fun k=>[(1,.func (.func g) #[] cap.toArray),(5,TT),(9,zO),(10,.int .i64 (d.2.length:Int)),(11,.int .i64 (i:Int)),(17,v5),(18,.int .i64 ((words x.2).length:Int)),(19,.int .i64 (k:Int))]) (fun k w=>∃M',Lt M' w∧Step M w0 M' w (lN M B)∧(RT.fd.sl).V M' w d.2 zO∧dg RT.fd M' w TT x∧(RT.str.sl).V M' w (words x.2) v5∧J (cE (d.2.take i)++(jr x).take k) M' w∧k≤(words x.2).length) (fun k=>(words x.2).length-k) 0 (.cons rfl (.cons rfl (.cons rfl (.cons rfl (.cons rfl (.cons rfl (.cons rfl (.cons rfl .nil)))))))) ?_ ?_
   ·exact⟨_,hM,S,lA,AF,XZ,by rw[List.take_zero,iX];exact hJ,bG _⟩
   ·rintro k w ⟨M2,hM,S,lA,AF,XZ,hJ,hk⟩;refine aj (ae (cf rfl rfl rfl (ab (aj ?_))));refine bP rfl (fun c5=>?_) (fun c5=>?_)
    ·refine aT (aj (aZ (aj (ae (ad rfl rfl ?_)))));refine cF (M:=M2) aQ I9 rfl rfl rfl XZ (aq _ _) (by omega) (fun u6 y Jz Fz=>?_);rw[ay]at Jz;refine bV (M:=M2) aH rfl rfl rfl rfl rfl Fz (aq _ _) (fun v6 uM=>?_);have Ff:=(kF.1 uM).2;obtain rfl:=ix uM;refine ah rfl rfl (ah rfl rfl (ab (ae (ad rfl rfl ?_))));refine aS (M:=M2) (A:=RT.fd) (B:=RT.str) cv rfl rfl I9 (by decide) (V5) rfl rfl (by decide) (by assumption) (by repeat (first|exact aq _ _|refine aY (bu (by assumption)) ?_)) (fun anp X0=>?_);refine bV (M:=M2) aH rfl rfl rfl rfl rfl X0 (aq _ _) (fun v7 Iy=>?_);obtain rfl:=ix Iy;refine ad rfl rfl (iW (places:=[(0,1),(1,1)]) dF Au B78 rfl ⟨_,_,rfl,rfl,_,_,rfl,rfl,rfl⟩ (out:=[_,_]) ⟨0,[_],rfl,rfl,by simp[Value.cells],1,[_],rfl,rfl,by simp[Value.cells],rfl⟩ (ad rfl rfl ?_));refine zC (first:=[]) (captured:=cap) (xs:=[.tmp 28,.tmp 29]) rfl rfl rfl hT.enters (hT.tell _ _ _ (x.1,y) k hJ hM qU.1 Ff (by omega) (by rw[bg,bC,oe];omega)) (fun r7 w7 hc=>?_);obtain⟨M7,hM7,hJ7,s7⟩:=hc;refine ab (ae (bD rfl rfl rfl (by omega) (ad rfl rfl (ab ?_))));refine⟨rfl,k+1,(.cons rfl (.cons rfl (.cons rfl (.cons rfl (.cons rfl (.cons rfl (.cons rfl (.cons rfl .nil)))))))),?_,?_⟩
     ·exact⟨M7,hM7,S.trans s7 (fun b hb h=>⟨h.1,(S.mem b hb).1 h.2⟩),lA.le s7.le,AF.le (by decide) s7.le,XZ.le s7.le,by rw[cb,Ll Jz,cY,←List.append_assoc];exact hJ7,by omega⟩
     ·omega
    ·refine cL (ae (bD rfl rfl rfl (by omega) (ad rfl rfl (ab ?_))));refine⟨rfl,i+1,(.cons rfl (.cons rfl (.cons rfl (.cons rfl .nil)))),?_,?_⟩
     ·exact⟨_,hM,S,lA,by rw[tb N2];have e:(jr x).take k=jr x:=br (by rw[oe];omega);rw[e]at hJ;exact hJ,by omega,by rw[tb N2,bg,oe];omega⟩
     ·omega
  ·refine cL ?_
   first|refine rj ?_|simp+decide only[rq,jy,if_true,if_false]|skip
   have e:d.2.take i=d.2:=br (by omega);rw[e]at hJ;exact fY rfl ⟨_,hM,hJ,S⟩
theorem Iz {M:aC} {w:World} {t:Fd} (h1:t.1.length≤140737488355328) (h2:t.2.length≤140737488355328):RT.fd.V M w t (kv t):=eV (kF.2 ⟨rfl,h1⟩) (kF.2 ⟨rfl,h2⟩) rfl rfl rfl rfl
def WJ (b B:Nat) (ts:List (Fd×Nat)) (M:aC) (w:World):Prop:=w.heap[b]? =some (.cells #[.int .i64 (ts.length:Int)] 3 (0,0))∧M b∧B≤b
theorem BE {M:aC} {b B:Nat} {ts:List (Fd×Nat)} {t:Fd} {i:Nat} (w0:World) (hM:Lt M w0) (h1:t.1.length≤900000) (h2:t.2.length≤140737488355328) (J4:ts.length≤10000000) (hJ:WJ b B ts M w0):
  Spec Tryz.prog 139 #[kv t,.int .i64 (i:Int),.pointer (some ⟨b,0,none⟩)] w0 (fun v w=>∃M',Lt M' w∧WJ b B (ts++[(t,i)]) M' w∧Step M w0 M' w (lN M B)):=by
 obtain⟨gb,dZ,hB⟩:=hJ;refine bc (args:=[_,_,_]) (fn:=Tryz.f139) Tryz.func139 rfl (n:=7) Tryz.ntmps139 ?_;have S:Step M w0 M w0 (lN M B):=(ax _ _).cG (fun _ h=>h.elim) (fun _ h=>h.2);refine aj (ae ?_);refine vU (A:=RT.fd) rfl rfl hM (Iz (by omega) h2) rfl (fun u0 w1 dp s0 _=>?_);have:=ak gb;replace dZ:=(s0.mem _ this).2 dZ;replace gb:=s0.aK gb;replace hM:=s0.lt hM;have:=S.size;replace S:=S.aB s0;refine ab (ae (aL aw rfl rfl rfl (by assumption) rfl (bD rfl rfl rfl (by omega) ?_)));refine cu (M:=M) I3 rfl rfl gb rfl (rfl) dZ (fun O3 iJ pV=>?_);change O3.heap[_]? =some (Obj.cells #[.int .i64 ((ts.length:Int)+1)] _ _)at iJ;have:=ak gb;replace dZ:=(pV.mem _ this).2 dZ;replace hM:=pV.lt hM;have:=S.size;replace S:=S.trans pV (fun k hk h=>by have h:_=_:=h;subst h;first|(exfalso;omega)|(show _≤_;omega)|exact⟨by first|omega|assumption,(S.mem _ hk).1 ((pV.mem _ (ak gb)).1 dZ)⟩|exact .inl rfl|exact .inr rfl|exact .inr (.inl rfl)|exact .inr (.inr rfl)|exact .inr (.inr (.inl rfl))|exact rfl);have Ln:=iJ;clear gb;have gb:=Ln;clear Ln;refine ab ?_
 first|refine rj ?_|simp+decide only[rq,jy,if_true,if_false]|skip
 exact fY rfl ⟨_,hM,⟨by rw[bg];exact gb,dZ,hB⟩,S⟩
theorem Ds {b B:Nat}:TS Tryz.prog 139 [.pointer (some ⟨b,0,none⟩)] B (WJ b B):=
 ⟨ach,fun ts M w M' w' ⟨h1,h2,h3⟩ s=>⟨s.aK h1,(s.mem _ (ak h1)).2 h2,h3⟩,fun ts M w t i hJ hM h1 h2 _ h4=>BE w hM h1 h2 h4 hJ⟩
theorem Dt {M:aC} {d:Dc} {v0:Value} (w0:World) (hM:Lt M w0) (hv:RT.dc.V M w0 d v0) (hl:∀f∈d.2,f.1.length≤900000∧f.2.length≤900000) (hd8:d.2.length≤8):
  Spec Tryz.prog 89 #[v0] w0 (fun v w=>v= .int .i64 ((cE d.2).length:Int)∧Step M w0 M w aD):=by
 refine bc (args:=[_]) (fn:=Tryz.f89) Tryz.func89 rfl (n:=8) Tryz.ntmps89 ?_;have S:Step M w0 M w0 aD:=(ax _ _).cG (fun _ h=>h.elim) (fun _ h=>h.elim);refine aj (ae ?_);refine vU (A:=RT.dc) rfl rfl hM hv rfl (fun u0 w1 dp s0 _=>?_);replace hM:=s0.lt hM;have:=S.size;replace S:=S.aB s0;refine ah rfl rfl (ab (aj (ae ?_)));refine ey M I3 rfl (fun mB C3 Tg Ti jT nz=>?_);obtain⟨lp,mC⟩:∃M',M'=ins M mB:=⟨_,rfl⟩;rw[←mC]at nz;have iK:lp mB:=by rw[mC];exact .inl rfl
 change C3.heap[mB]? =some (.cells #[.int .i64 0] _ _)at jT;replace dp:=dp.le (by decide) nz.le;replace hM:=nz.lt hM;have:=S.size;replace S:=S.aB nz;refine cu (M:=lp) I3 rfl rfl jT rfl (rfl) iK (fun TU zQ xi=>?_);change TU.heap[_]? =some (Obj.cells #[.int .i64 0] _ _)at zQ;have:=ak jT;replace iK:=(xi.mem _ this).2 iK;replace dp:=dp.le (by decide) xi.le;replace hM:=xi.lt hM;have:=S.size;replace S:=S.trans xi (fun k hk h=>by have h:_=_:=h;subst h;first|(exfalso;omega)|(show _≤_;omega)|exact⟨by first|omega|assumption,(S.mem _ hk).1 ((xi.mem _ (ak jT)).1 iK)⟩|exact .inl rfl|exact .inr rfl|exact .inr (.inl rfl)|exact .inr (.inr rfl)|exact .inr (.inr (.inl rfl))|exact rfl);have Q6:=zQ;clear jT;have jT:=Q6;clear Q6;refine ab (aj (ae ?_));refine de (M:=lp) (A:=RT.dc) a8 rfl oZ (by decide) rfl rfl rfl dp (aq _ _) (fun v2 G9=>?_);refine ka (xs:=[]) (ys:=[.tmp 3]) rfl rfl rfl ?_;refine aX rfl rfl W3 (AD (cap:=[.pointer (some ⟨mB,0,none⟩)]) (B:=w0.heap.size) _ hM G9 hl hd8 Ds ⟨jT,iK,by omega⟩) (fun r2 w2 hc=>?_);obtain⟨M2,EU,⟨g2,_,_⟩,s2⟩:=hc;replace S:=S.l6 s2 (aR _);refine ab (aj (ae (aL aw rfl rfl rfl g2 rfl (ah rfl rfl (ab (aN ?_))))));exact aU rfl rfl ⟨rfl,S.back⟩
end Go.K
namespace Go.K
section
variable {P:Program} {r:Option Nat} {n:Nat} {L:Sl} {ds:List Deferred} {w:World} {K:Kt} {ops:Array Oper} {rest:List Oper} {d:Nat} {x y z:Operand} {ty:TypeId} {pos:String} {af:Array Edge}
variable {kt:TypeId} {M:aC} {b mb clock:Nat} {es:List MapEntry} {sn:Array Nat}
theorem Rg.rangeMap {t e:TypeId} (M:aC) (ht:P.underlying t=some (.map kt e)) (hx:ev L x=some (.map (some mb))) (hd:Nat.blt d n=true) (h:fH P kt w mb es clock)
  (k:∀b w',w.heap.size≤b→b<w'.heap.size→w'.heap[b]? =some (.mapIter (some mb) clock #[] clock)→Step M w (ins M b) w' aD→Rg P r n ops rest ((d,.pointer (some ⟨b,0,none⟩))::L) ds w' K):
  Rg P r n ops ({dst:=some d,op:= .range t x,type:=ty,pos,after:=af,guard:=none}::rest) L ds w K:=by
 refine .op (fun _ h=>by cases h) rfl rfl hd (.pointer (some ⟨w.heap.size,0,none⟩)) (w.alloc (.mapIter (some mb) clock #[] clock)) (fun ρ hρ=>?_) (k w.heap.size _ (aR _) (by simp) (cp w _) ((cW M w _).own (aR _) (by simp)));simp only[execOp,hρ x _ hx];simp[Instr.range,ch,run_underlying ht,dL h.at_,newObj,Sem.run]
theorem pK {sb:Option Nat} {s c:Nat} (hb:w.heap[b]? =some (.mapIter sb s sn c)):(getObj b).run P w= .ok (.mapIter sb s sn c) w:=by simp[getObj,Sem.run,hb]
theorem FL (h:fH P kt w mb es clock) (seen:Array Nat):(!seen.isEmpty&& !es.toArray.isEmpty&&es.toArray.all (fun x=>decide (x.born≥clock)))=false:=by
 cases es with
 |nil=>simp
 |cons e l=>
  have:=h.lt e (by simp);simp only[Bool.and_eq_false_iff];right;rw[dd];intro h2;rw[Array.all_eq_true_iff_forall_mem]at h2;have:=h2 e (by simp);simp at this;omega
theorem Du (k:Nat) (hk:0<k):∃j w1,j<k∧(∀M,Step M w M w1 aD)∧w1.heap=w.heap∧(choose (Question.mapNext k)).run P w= .ok j w1:=by
 by_cases hf:k≤1
 ·exact⟨0,w,hk,fun M=>ax M w,rfl,by simp[choose,Sem.run,Question.forced,hf]⟩
 ·exact⟨_,w.drew,Nat.mod_lt _ hk,fun M=>lX M w,rfl,by
   simp only[choose,Sem.run,Question.forced,decide_eq_true_eq,hf,if_false,Question.cut];rfl⟩
theorem Lo (h:fH P kt w mb es clock) (hb:w.heap[b]? =some (.mapIter (some mb) clock sn clock)) (hm:M b):
  ((∀e∈es,e.born∈sn)∧(Instr.next (.pointer (some ⟨b,0,none⟩)) false ty).run P w= .ok (.tuple #[.bool false]) w)∨
  ∃e w',e∈es∧e.born∉sn∧w'.heap[b]? =some (.mapIter (some mb) clock (sn.push e.born) clock)∧Step M w M w' (fun k=>k=b)∧(Instr.next (.pointer (some ⟨b,0,none⟩)) false ty).run P w= .ok (.tuple #[.bool true,e.key,e.val]) w':=by
 have dO:=ak hb;simp only[Instr.next,ch,pK hb,cB,dL h.at_,FL h sn,Bool.false_eq_true,if_false];have hL:∀e∈es.toArray.filter (fun e=> !sn.contains e.born),e.born<clock:=fun e he=>h.lt e (by simpa using(Array.mem_filter.1 he).1)
 have kq:∀e,e∈es.toArray.filter (fun e=> !sn.contains e.born)↔e∈es∧e.born∉sn:=fun e=>by simp[Array.mem_filter]
 generalize es.toArray.filter (fun e=> !sn.contains e.born)=Lf at hL kq ⊢;have e1:Lf.filter (fun x=>decide (x.born<clock))=Lf:=Array.filter_eq_self.2 fun x hx=>by simpa using hL x hx
 have e2:Lf.filter (fun x=>decide (x.born≥clock))= #[]:=by
  rw[Array.filter_eq_empty_iff];intro x hx;have:=hL x hx;simp;omega
 simp only[e1,e2,Array.append_empty];by_cases h0:Lf.size=0
 ·left;have rz:Lf= #[]:=Array.eq_empty_of_size_eq_zero h0;subst rz;refine⟨fun e he=>?_,by simp[choose,Sem.run,Question.forced]⟩;by_cases hs:e.born∈sn
  ·exact hs
  ·exact absurd ((kq e).2 ⟨he,hs⟩) (by simp)
 ·right;have eN:Lf.isEmpty=false:=by simp[Array.isEmpty,h0]
  simp only[eN,Bool.false_eq_true,if_false,Array.empty_append,Array.size_map];obtain⟨j,w1,hj,hs1,hh1,gT⟩:=Du (P:=P) (w:=w) Lf.size (by omega);have wz:w1.heap[b]? =some (.mapIter (some mb) clock sn clock):=by rw[hh1];exact hb
  have eH:=(kq Lf[j]).1 (by simp);refine⟨Lf[j],{w1 with heap:=w1.heap.setIfInBounds b (.mapIter (some mb) clock (sn.push Lf[j].born) clock)},eH.1,eH.2,by simp[dz,hh1,dO],?_,?_⟩
  ·exact((hs1 M).cG (fun _ h=>h.elim) (fun k hk=>by subst hk;exact hm)).trans (jn M hm) (fun _ _ h=>h)
  ·simp only[gT,cB,Array.getElem?_map,Array.getElem?_eq_getElem hj,cV,ch];simp[setObj,Sem.run,wz]
theorem Rg.O4 (hx:ev L x=some (.pointer (some ⟨b,0,none⟩))) (hb:w.heap[b]? =some (.mapIter (some mb) clock sn clock)) (hm:M b) (h:fH P kt w mb es clock) (hd:Nat.blt d n=true)
  (k1:∀e w',e∈es→e.born∉sn→w'.heap[b]? =some (.mapIter (some mb) clock (sn.push e.born) clock)→Step M w M w' (fun k=>k=b)→Rg P r n ops rest ((d,.tuple #[.bool true,e.key,e.val])::L) ds w' K)
  (k2:(∀e∈es,e.born∈sn)→Rg P r n ops rest ((d,.tuple #[.bool false])::L) ds w K):
  Rg P r n ops ({dst:=some d,op:= .next x false,type:=ty,pos,after:=af,guard:=none}::rest) L ds w K:=by
 rcases Lo (ty:=ty) h hb hm with⟨h1,h2⟩|⟨e,w',h1,h2,h3,h4,h5⟩
 ·refine .op (fun _ h=>by cases h) rfl rfl hd _ w (fun ρ hρ=>?_) (k2 h1);simp only[execOp,hρ x _ hx];simp[h2]
 ·refine .op (fun _ h=>by cases h) rfl rfl hd _ w' (fun ρ hρ=>?_) (k1 e w' h1 h2 h3 h4);simp only[execOp,hρ x _ hx];simp[h5]
theorem Rg.entry {e:MapEntry} {sn':Array Nat} (hx:ev L x=some (.pointer (some ⟨b,0,none⟩))) (hb:w.heap[b]? =some (.mapIter (some mb) clock (sn'.push e.born) clock)) (h:fH P kt w mb es clock) (he:e∈es) (hd:Nat.blt d n=true)
  (k:Rg P r n ops rest ((d,.tuple #[e.key,e.val])::L) ds w K):
  Rg P r n ops ({dst:=some d,op:= .entry x,type:=ty,pos,after:=af,guard:=none}::rest) L ds w K:=by
 have hf:es.find? (fun x=>x.born==e.born)=some e:=by
  rw[List.find?_eq_some_iff_getElem];obtain⟨i,hi⟩:=bm.1 he;obtain⟨h1,h2⟩:=an.1 hi;refine⟨by simp,i,h1,h2,fun j hj=>?_⟩;have xc:j<es.length:=by omega
  have:=fun q=>h.Dq (au xc) hi q
  simp only[iU,beq_eq_false_iff_ne,ne_eq];intro q;have:=this q;omega
 refine .op (fun _ h=>by cases h) rfl rfl hd _ w (fun ρ hρ=>?_) k;simp only[execOp,hρ x _ hx,Instr.entry,ch,pK hb,cB,dL h.at_];simp[hf,ch,dL h.at_]
end
end Go.K
namespace Go.K
open Go.Proofs
set_option maxRecDepth 10000
theorem filter_lt {α:Type} {p q:α→Bool} {a:α}:∀{l:List α},(∀x∈l,q x=true→p x=true)→a∈l→p a=true→q a=false→(l.filter q).length<(l.filter p).length
 |[],_,ha,_,_=>by cases ha
 |x::l,h,ha,hp,hq=>by
  have hle:(l.filter q).length≤(l.filter p).length:=by
   rw[←List.countP_eq_length_filter,←List.countP_eq_length_filter];exact List.countP_mono_left fun y hy=>h y (b9 _ hy)
  rcases bX.1 ha with rfl|ha
  ·rw[List.filter_cons_of_pos hp,List.filter_cons_of_neg (by simp[hq])];simp;omega
  ·have:=filter_lt (fun y hy=>h y (b9 _ hy)) ha hp hq;by_cases hx:q x=true
   ·rw[List.filter_cons_of_pos hx,List.filter_cons_of_pos (h x (bH ..) hx)];simp;omega
   ·rw[List.filter_cons_of_neg hx];by_cases hx2:p x=true
    ·rw[List.filter_cons_of_pos hx2];simp;omega
    ·rw[List.filter_cons_of_neg hx2];omega
theorem fH.TV {P:Program} {kt:TypeId} {w:World} {b clock:Nat} {es:List MapEntry} (h:fH P kt w b es clock) {x y:MapEntry} (hx:x∈es) (hy:y∈es) (hk:x.key=y.key):x=y:=by
 obtain⟨i,hi⟩:=bm.1 hx;obtain⟨j,hj⟩:=bm.1 hy;rcases eE i j with ji|rfl|ji
 ·exact absurd hk (iz h.keys hi hj ji)
 ·exact aJ (hi.symm.trans hj)
 ·exact absurd hk.symm (iz h.keys hj hi ji)
theorem fH.O5 {P:Program} {kt:TypeId} {w:World} {b clock:Nat} {es:List MapEntry} (h:fH P kt w b es clock) {x y:MapEntry} (hx:x∈es) (hy:y∈es) (hk:x.born=y.born):x=y:=by
 obtain⟨i,hi⟩:=bm.1 hx;obtain⟨j,hj⟩:=bm.1 hy;rcases eE i j with ji|rfl|ji
 ·exact absurd hk (iz h.born hi hj ji)
 ·exact aJ (hi.symm.trans hj)
 ·exact absurd hk.symm (iz h.born hj hi ji)
def FM (w:World) (k:Nat):Prop:=∃m s sn c,w.heap[k]? =some (.mapIter m s sn c)
def Hk (es:List MapEntry):Prop:=∀e∈es,∃t:Fd,e.key=kv t∧t.1.length≤140737488355328∧t.2.length≤140737488355328
theorem FN {yl bs mb clock:Nat} {es:List MapEntry} {J:List Fd→World→Prop} (w0:World) (hk:Hk es) (hJs:∀ts w w' N,J ts w→Step allM w allM w' N→(∀k,k<w.heap.size→N k→w0.heap.size≤k∧FM w k)→J ts w') (hJb:∀ts w,J ts w→w.heap[bs]? =some (.cells #[.map (some mb)] 217 (0,0))∧fH Tryz.prog 78 w mb es clock) (hy:∀ts w (t:Fd),J ts w→(∃e∈es,e.key=kv t)→t∉ts→ts.length<es.length→wk Tryz.prog yl [kv t].toArray w (fun r w'=>r= .bool true∧J (ts++[t]) w'∧∃N,Step allM w allM w' N∧∀k,N k→¬FM w k)) (h0:J [] w0):
  Spec Tryz.prog 188 #[.func (.yield yl) #[] #[],.pointer (some ⟨bs,0,none⟩)] w0 (fun v w=>∃ts,J ts w∧ts.Nodup∧∀t,t∈ts↔∃e∈es,e.key=kv t):=by
 obtain⟨gb,hW⟩:=hJb _ _ h0;have hJ:=h0;clear h0;refine bc (args:=[_,_]) (fn:=Tryz.f188) Tryz.func188 rfl (n:=14) Tryz.ntmps188 ?_;have S:Step allM w0 allM w0 allM:=(ax _ _).cG (fun _ h=>h.elim) (fun _ _=>trivial);refine aj (ae (aL l4 rfl rfl rfl (by assumption) rfl ?_));refine Rg.rangeMap allM l4 rfl rfl hW (fun bi w1 wz A7 gi s1=>?_);replace s1:=s1.all;have:=ak gb;replace gb:=s1.aK gb;replace hJ:=hJs _ _ _ _ hJ s1 (fun _ _ h=>h.elim);have:=S.size;replace S:=S.aB s1;refine ab (aZ ?_);refine dn (σ:=List Fd×Array Nat) (fun s=>[(0,.func (.yield yl) #[] #[]),(1,.pointer (some ⟨bs,0,none⟩)),(5,.pointer (some ⟨bi,0,none⟩))]) (fun s w=>J s.1 w∧Step allM w0 allM w allM∧w.heap[bi]? =some (.mapIter (some mb) clock s.2 clock)∧s.1.Nodup∧(∀e∈es,e.born∈s.2↔∃t∈s.1,e.key=kv t)∧(∀t∈s.1,∃e∈es,e.key=kv t)) (fun s=>(es.filter fun e=>decide (e.born∉s.2)).length) ([],#[]) (.cons rfl (.cons rfl (.cons rfl .nil))) ?_ ?_
 ·exact⟨hJ,S,gi,List.nodup_nil,fun e _=>by simp,fun t h=>by cases h⟩
 ·rintro⟨ts,sn⟩ w ⟨hJ,S,gi,oE,hsn,kq⟩;dsimp only at hJ gi oE hsn kq ⊢;obtain⟨gb,hW⟩:=hJb _ _ hJ;refine aj (ae ?_);refine Rg.O4 (M:=allM) rfl gi trivial hW rfl (fun TW C3 tV Q7 jT nz=>?_) (fun adT=>?_)
  ·have gi0:=gi;replace gb:=nz.keep gb (fun hk=>by have hk:_=_:=hk;omega);replace hJ:=hJs _ _ _ _ hJ nz (fun k hk h=>by have h:k=bi:=h;subst h;exact⟨wz,_,_,_,_,gi0⟩);have:=S.size;replace S:=S.trans nz (fun k hk h=>by have h:_=_:=h;subst h;first|(exfalso;omega)|(show _≤_;omega)|exact .inl rfl|exact .inr rfl|exact .inr (.inl rfl)|exact .inr (.inr rfl)|exact .inr (.inr (.inl rfl))|exact rfl);have gi_:=jT;clear gi;have gi:=gi_;clear gi_;refine bK rfl rfl rfl (ab (aj (lD rfl (aT (aZ (aj (ae (Rg.entry rfl gi (hJb _ _ hJ).2 tV rfl ?_))))))));obtain⟨t,O6,Q8,Io⟩:=hk _ tV;have Sq:t∉ts:=fun h=>Q7 ((hsn _ tV).2 ⟨t,h,O6⟩)
   have dO:ts.length<es.length:=by
    have h1:((t::ts).map kv).Nodup:=cy.2 ((List.nodup_cons.2 ⟨Sq,oE⟩).imp fun h e=>h (vz e))
    have h2:=h1.length_le_of_subset (l₂:=es.map (·.key)) (fun x hx=>by
     obtain⟨u,hu,rfl⟩:=ca.1 hx;rcases bX.1 hu with rfl|hu
     ·rw[←O6];exact gY tV
     ·obtain⟨e,he,h⟩:=kq u hu;rw[←h];exact gY he)
    simp at h2;omega
   rw[O6];refine bK rfl rfl rfl ?_;refine xn (A:=RT.fd) (M:=aD) Au rfl rfl rfl rfl rfl (Iz Q8 Io) (aq _ _) (Lt.none _) (fun u2 w2 xe s2 z2=>?_);replace s2:=s2.all;have:=ak gb;replace gb:=s2.aK gb;have:=ak gi;replace gi:=s2.aK gi;replace hJ:=hJs _ _ _ _ hJ s2 (fun _ _ h=>h.elim);have:=S.size;replace S:=S.aB s2
   skip
   refine ab (aj (ae (ad rfl rfl ?_)));refine de (M:=aD) (A:=RT.fd) dF rfl Au (by decide) rfl rfl rfl xe (aq _ _) (fun v3 AE=>?_);obtain rfl:=sU AE;refine Rg.yield (vs:=[kv t]) rfl rfl rfl (hy _ _ t hJ ⟨_,tV,O6⟩ Sq dO) (fun r3 w3 hc=>?_);obtain⟨rfl,X1,N3,s3,hN3⟩:=hc;clear jT;replace gi:=s3.keep gi (fun h=>hN3 _ h ⟨_,_,_,_,gi⟩);replace hJ:=X1;clear X1;obtain⟨gb,-⟩:=hJb _ _ hJ;replace S:=S.trans s3 (fun _ _ _=>trivial);refine mS rfl rfl (aV (v':= .bool false) rfl (ab (jD rfl (aT ?_))));refine⟨rfl,(ts++[t],sn.push TW.born),(.cons rfl (.cons rfl (.cons rfl .nil))),?_,?_⟩
   ·have sy:∀e∈es,e.born=TW.born↔e.key=kv t:=fun e he=>by
     constructor
     ·intro h;rw[fH.O5 hW he tV h,O6]
     ·intro h;rw[fH.TV hW he tV (h.trans O6.symm)]
    refine⟨hJ,S,gi,List.nodup_append.2 ⟨oE,by simp,fun a ha b hb h=>by simp at hb;subst hb;subst h;exact Sq ha⟩,fun e he=>?_,fun u hu=>?_⟩
    ·rw[Array.mem_push,hsn e he,sy e he];constructor
     ·rintro(⟨u,h1,h2⟩|h)
      ·exact⟨u,gy _ h1,h2⟩
      ·exact⟨t,by simp,h⟩
     ·rintro⟨u,h1,h2⟩;rcases ck.1 h1 with h1|h1
      ·exact .inl ⟨u,h1,h2⟩
      ·simp at h1;subst h1;exact .inr h2
    ·rcases ck.1 hu with hu|hu
     ·exact kq u hu
     ·simp at hu;subst hu;exact⟨_,tV,O6⟩
   ·exact filter_lt (a:=TW) (fun e _ h=>by simp only[decide_eq_true_eq,Array.mem_push,not_or]at h ⊢;exact h.1) tV (by simpa using Q7) (by simp)
  ·refine bK rfl rfl rfl (ab (aj (jD rfl (cL ?_))))
   first|refine rj ?_|simp+decide only[rq,jy,if_true,if_false]|skip
   exact fY rfl ⟨ts,hJ,oE,fun t=>⟨kq t,fun⟨e,he,O6⟩=>by obtain⟨t',h1,h2⟩:=(hsn e he).1 (adT e he);rw[←vz (h2.symm.trans O6)];exact h1⟩⟩
end Go.K
namespace Go.K
open Go.Proofs
set_option maxRecDepth 10000
theorem dV.any {α:Type} {A:RT α} (hA:∀M w M' w' x vs,A.R M w x vs→A.R M' w' x vs) {M M':aC} {w w':World}:∀{xs:List α} {C:List Value},dV A M w xs C→dV A M' w' xs C
 |[],_,h=>h
 |x::xs,C,h=>by
  obtain⟨vs,r,h1,h2,h3⟩:=h;exact⟨vs,r,h1,hA _ _ _ _ _ _ h2,dV.any hA h3⟩
theorem BF (M:aC) (w:World) (M':aC) (w':World) (x:Fd) (vs:List Value) (h:RT.fd.R M w x vs):RT.fd.R M' w' x vs:=h
theorem Own.Hl {α:Type} {A:RT α} (hA:∀M w M' w' x vs,A.R M w x vs→A.R M' w' x vs) {e:TypeId} {M N:aC} {w w':World} {base:Nat} {v:Value} {xs:List α} (h:Own A e M w base v xs) (s:Step allM w allM w' N) (hn:∀b,v.ownBlock=some b→¬N b):Own A e (mU v) w' base v xs:=by
 obtain⟨⟨C,h1,h2⟩,_⟩:=h;refine⟨⟨C,⟨h1.1,?_⟩,dV.any hA h2⟩,fun _ h=>h⟩;rcases h1.2 with h3|⟨g,cap,cur,h3,h4,h5,h6,h7,h8⟩
 ·exact .inl h3
 ·exact .inr ⟨g,cap,cur,h3,h4,by rw[s.same g (ak h5) (hn g (by rw[h3];rfl))];exact h5,h6,h7,h8⟩
theorem Own.isCells {α:Type} {A:RT α} {e:TypeId} {M:aC} {w:World} {base b:Nat} {v:Value} {xs:List α} (h:Own A e M w base v xs) (hb:v.ownBlock=some b):∃cs,w.heap[b]? =some (.cells cs e (0,0)):=by
 obtain⟨⟨C,h1,_⟩,_⟩:=h;rcases h1.2 with h3|⟨g,cap,cur,h3,h4,h5,_⟩
 ·rw[h3.1]at hb;cases hb
 ·rw[h3]at hb;cases hb;exact⟨_,h5⟩
structure Aq (w0:World) (bt D:Nat) (st:Loop) (v:Value) (ts:List Fd) (w:World):Prop where
 S:Step allM w0 allM w aD
 c:w.heap[bt]? =some (.cells #[v] 155 (0,0))
 o:Own RT.fd 78 (mU v) w w0.heap.size v ts
 d:w.heap[D]? =some (.deferred (some []))
 r:w.heap[D+1]? =some (.loop st)
 hb:w0.heap.size≤bt
 hD:w0.heap.size≤D
theorem Aq.step {w0 w w':World} {bt D:Nat} {st:Loop} {v:Value} {ts:List Fd} {N:aC} (h:Aq w0 bt D st v ts w) (s:Step allM w allM w' N) (hN:∀k,k<w.heap.size→N k→w0.heap.size≤k∧FM w k):Aq w0 bt D st v ts w':=by
 have no:∀{k o},w.heap[k]? =some o→(∀m s sn c,o≠ .mapIter m s sn c)→¬N k:=fun hk ho hn=>by
  obtain⟨_,m,s,sn,c,h'⟩:=hN _ (ak hk) hn;rw[hk]at h';exact ho m s sn c (aJ h')
 refine⟨h.S.trans s (fun k hk hn=>?_),s.keep h.c (no h.c (by intros;simp)),h.o.Hl BF s (fun b hb=>?_),s.keep h.d (no h.d (by intros;simp)),s.keep h.r (no h.r (by intros;simp)),h.hb,h.hD⟩
 ·have:=(hN k (iu hk h.S.size) hn).1;omega
 ·obtain⟨cs,hc⟩:=h.o.isCells hb;exact no hc (by intros;simp)
theorem Aq.pb {w0 w:World} {bt D:Nat} {st st':Loop} {v:Value} {ts:List Fd} (h:Aq w0 bt D st v ts w):Aq w0 bt D st' v ts (w.putObj (D+1) (.loop st')):=by
 have s:Step allM w allM (w.putObj (D+1) (.loop st')) (fun k=>k=D+1):=eu trivial;have hD:=h.hD;refine⟨h.S.trans s (fun k hk hn=>by have hn:k=D+1:=hn;omega),s.keep h.c (fun hn=>by have hn:bt=D+1:=hn;have h1:=h.c;rw[hn,h.r]at h1;cases h1),h.o.Hl BF s (fun b hb hn=>?_),s.keep h.d (fun hn=>by have hn:D=D+1:=hn;omega),by have:=ak h.r;simp[World.putObj,dz,this],h.hb,h.hD⟩;have hn:b=D+1:=hn;obtain⟨cs,hc⟩:=h.o.isCells hb;rw[hn,h.r]at hc;cases hc
theorem Dv {bs mb clock:Nat} {es:List MapEntry} (w0:World) (hk:Hk es) (hes:es.length≤100000000) (TX:w0.heap[bs]? =some (.cells #[.map (some mb)] 217 (0,0))) (hW:fH Tryz.prog 78 w0 mb es clock):
  Spec Tryz.prog 237 #[.slice none 0 0,.func (.func 188) #[] [.pointer (some ⟨bs,0,none⟩)].toArray] w0 (fun v w=>∃ts:List Fd,ts.Nodup∧(∀t,t∈ts↔∃e∈es,e.key=kv t)∧Own RT.fd 78 (mU v) w w0.heap.size v ts∧Step allM w0 allM w aD):=by
 refine qm (args:=[_,_]) (fn:=Tryz.f237) Tryz.func237 rfl (n:=13) Tryz.ntmps237 (aj (ae ?_));refine wX allM rfl rfl (fun bt w1 wz anu gt s1=>?_);change w1.heap[bt]? =some (.cells #[.slice none 0 0] 155 (0,0))at gt;replace s1:=s1.all;refine ah rfl rfl (ab (aj (aj (ae (ad rfl rfl (ab (aZ ?_)))))));refine T.range (gf:=188) (lb:=[.pointer (some ⟨bs,0,none⟩)].toArray) rfl aco (fun rec pS=>?_);obtain⟨D,hD⟩:∃D,D=w1.heap.size:=⟨_,rfl⟩;have sA:Step allM w1 allM ((w1.alloc (.deferred (some []))).alloc (.loop (rec .ready none))) aD:=(cW _ _ _).aB (cW _ _ _)
 have h0:Aq w0 bt D (rec .ready none) (.slice none 0 0) [] ((w1.alloc (.deferred (some []))).alloc (.loop (rec .ready none))):=by
  refine⟨s1.aB sA,sA.aK gt,dE _ _ _ _ _,?_,?_,wz,by rw[hD];exact s1.size⟩
  ·rw[hD];exact(cW allM (w1.alloc _) _).aK (cp w1 _)
  ·rw[hD];have:=cp (w1.alloc (.deferred (some []))) (.loop (rec .ready none));rwa [World.size_alloc]at this
 rw[←hD]at pS ⊢;have hz:=h0.S.size;refine Spec.mono (FN (J:=fun ts w=>∃v,Aq w0 bt D (rec .ready none) v ts w) _ hk (fun ts w w' N ⟨v,h⟩ s hN=>⟨v,h.step s (fun k hk hn=>⟨eJ hz (hN k hk hn).1,(hN k hk hn).2⟩)⟩) (fun ts w ⟨v,h⟩=>⟨h.S.aK TX,hW.aM h.S⟩) (fun ts wr t hJ kq Sq dO=>?_) ⟨_,h0⟩) (fun _ w3 h3=>?_)
 ·obtain⟨v,h⟩:=hJ;obtain⟨e,he,hke⟩:=kq;obtain⟨t',adV,Q8,Io⟩:=hk e he;obtain rfl:=vz (hke.symm.trans adV);have hzr:=ak h.r;refine nV (ps:=[7]) (vs:=[kv t]) pS h.r rfl (by decide) (ae ?_);refine xn (A:=RT.fd) (M:=fun k=>k=D+1) Au rfl rfl rfl rfl rfl (Iz Q8 Io) (aq _ _) (fun k hk=>by have hk:k=D+1:=hk;omega) (fun u2 w2 xe s2 z2=>?_);replace s2:=s2.all
  skip
  refine ab ?_;refine⟨rfl,s2.aK h.r,?_⟩;have h4:=(h.step s2 (fun _ _ h=>h.elim)).pb (st':=rec .busy none);have s3':Step (fun k=>k=D+1) w2 (fun k=>k=D+1) (w2.putObj (D+1) (.loop (rec .busy none))) (fun k=>k=D+1):=eu rfl;have s3:=s3'.all;have ET:=xe.le (by decide) s3'.le;clear s3';generalize w2.putObj (D+1) _=w4 at h4 s3 ET ⊢;refine aZ (ae (aL jP rfl rfl rfl h4.c rfl ?_));refine de (M:=fun k=>k=D+1) (A:=RT.fd) dF rfl Au (by decide) rfl rfl rfl ET (aq _ _) (fun v3 AE=>?_);obtain rfl:=sU AE;refine dQ (A:=RT.fd) (hn:=by decide) (M:=mU v) jP Au (by decide) rfl rfl (fun b hb=>(h4.o.base b hb).2) (Iz Q8 Io) (.inl rfl) (fun u5 w5 zL s5=>?_);refine cX (M:=mU v) (base:=w0.heap.size) jP Au rfl rfl rfl rfl (h4.o.aM s5) zL (aq _ _) (by simp;omega) (by simp;omega) (eJ h4.S.size s5.size) (fun v6 M6 w6 tW s6=>?_);have gc:=s6.all.keep (s5.all.aK h4.c) (fun hn=>h4.o.eK h4.c (by decide) hn);refine cu (M:=allM) ab3 rfl rfl gc rfl (by obtain⟨_,_,he,_⟩:=tW.isSlice;rw[he];rfl) trivial (fun w7 gc7 s7=>?_);refine ab ?_
  have adX:∀k,mU v k→¬FM wr k:=fun k hk ⟨_,_,_,_,h9⟩=>by
   obtain⟨cs,hc⟩:=h.o.isCells hk;rw[hc]at h9;cases h9
  have pr:∀k,k<wr.heap.size→k=D+1→¬FM wr k:=fun k _ hk ⟨_,_,_,_,h9⟩=>by subst hk;rw[h.r]at h9;cases h9
  have pc:∀k,k<wr.heap.size→k=bt→¬FM wr k:=fun k _ hk ⟨_,_,_,_,h9⟩=>by subst hk;rw[h.c]at h9;cases h9
  have h7:Aq w0 bt D (rec .busy none) v6 (ts++[t]) w7:=by
   have nb:∀b,v6.ownBlock=some b→b≠bt:=fun b hb hn=>by subst hn;exact tW.eK gc (by decide) hb
   refine⟨?_,gc7,tW.Hl BF s7 nb,?_,?_,h.hb,h.hD⟩
   ·refine((h4.S.aB s5.all).trans s6.all (fun k hk hn=>?_)).trans s7 (fun k hk hn=>?_)
    ·have:=(h4.o.base k hn).1;omega
    ·have hn:k=bt:=hn;have:=h.hb;omega
   ·exact s7.keep (s6.all.keep (s5.all.aK h4.d) (fun hn=>by obtain⟨cs,hc⟩:=h4.o.isCells hn;rw[h4.d]at hc;cases hc)) (fun hn=>by have hn:D=bt:=hn;have h1:=h.c;rw[←hn,h.d]at h1;cases h1)
   ·exact s7.keep (s6.all.keep (s5.all.aK h4.r) (fun hn=>by obtain⟨cs,hc⟩:=h4.o.isCells hn;rw[h4.r]at hc;cases hc)) (fun hn=>by have hn:D+1=bt:=hn;have h1:=h.c;rw[←hn,h.r]at h1;cases h1)
  have s8:Step allM w7 allM (w7.putObj (D+1) (.loop (rec .ready none))) (fun k=>k=D+1):=eu trivial;exact⟨h7.r,rfl,⟨v6,h7.pb⟩,fun k=>¬FM wr k,(((((s2.cG (fun _ h=>h.elim) (fun _ _=>trivial)).trans s3 pr).aB s5.all).trans s6.all (fun k _ hn=>adX k hn)).trans s7 pc).trans s8 pr,fun _ h=>h⟩
 ·obtain⟨ts,⟨v,h⟩,oE,kq⟩:=h3;left;refine⟨h.r,?_⟩;have h5:=h.pb (st':=rec .exhausted none);generalize w3.putObj (D+1) _=wE at h5 ⊢;refine aj (ae (aL jP rfl rfl rfl h5.c rfl (ah rfl rfl (ab (aN ?_)))));have sE:Step allM wE allM (wE.putObj D (.deferred none)) (fun k=>k=D):=eu trivial;have hDD:=h.hD;exact Bh rfl rfl h5.d ⟨ts,oE,kq,h5.o.Hl BF sE (fun b hb hn=>by have hn:b=D:=hn;obtain⟨cs,hc⟩:=h5.o.isCells hb;rw[hn,h5.d]at hc;cases hc),h5.S.trans sE (fun k hk hn=>by have hn:k=D:=hn;omega)⟩
end Go.K
namespace Go.K
open Go.Proofs
set_option maxRecDepth 10000
theorem BG {bs mb clock:Nat} {es:List MapEntry} (w0:World) (hk:Hk es) (hes:es.length≤100000000) (TX:w0.heap[bs]? =some (.cells #[.map (some mb)] 217 (0,0))) (hW:fH Tryz.prog 78 w0 mb es clock):
  Spec Tryz.prog 186 #[.func (.func 188) #[] [.pointer (some ⟨bs,0,none⟩)].toArray] w0 (fun v w=>∃ts:List Fd,ts.Nodup∧(∀t,t∈ts↔∃e∈es,e.key=kv t)∧Own RT.fd 78 (mU v) w w0.heap.size v ts∧Step allM w0 allM w aD):=by
 refine bc (args:=[_]) (fn:=Tryz.f186) Tryz.func186 rfl (n:=5) Tryz.ntmps186 (aj (ae (ah rfl rfl (ab (aj (ae (ad rfl rfl ?_)))))));refine aX rfl rfl acB (Dv _ hk hes TX hW) (fun r w1 hc=>?_);refine ah rfl rfl (ab (aN ?_));exact aU rfl rfl hc
def gH (t:Fd):List UInt8:=t.1++[0]++t.2
theorem Lq {M:aC} {t:Fd} (w0:World) (hM:Lt M w0) (h1:t.1.length≤1000000) (h2:t.2.length≤1000000):
  Spec Tryz.prog 80 #[kv t] w0 (fun v w=>v= .string ⟨(gH t).toArray⟩∧Step M w0 M w aD):=by
 refine bc (args:=[_]) (fn:=Tryz.f80) Tryz.func80 rfl (n:=9) Tryz.ntmps80 ?_;have S:Step M w0 M w0 aD:=(ax _ _).cG (fun _ h=>h.elim) (fun _ h=>h.elim);refine aj (ae ?_);refine vU (A:=RT.fd) rfl rfl hM (Iz (by omega) (by omega)) rfl (fun u0 w1 dp s0 _=>?_);replace hM:=s0.lt hM;have:=S.size;replace S:=S.aB s0;refine ah rfl rfl (ab (aj (ae ?_)));refine aS (M:=M) (A:=RT.fd) (B:=RT.str) dF rfl rfl I9 (by decide) (V5) rfl rfl (by decide) (by assumption) (by repeat (first|exact aq _ _|refine aY (bu (by assumption)) ?_)) (fun BB nc=>?_);refine bV (M:=M) aH rfl rfl rfl rfl rfl nc (aq _ _) (fun v1 Ay=>?_);obtain rfl:=ix Ay;refine Rg.cat (p:=t.1) (q:=[0]) rfl rfl rfl (by simp;omega) ?_;refine aS (M:=M) (A:=RT.fd) (B:=RT.str) dF rfl rfl I9 (by decide) (fd1) rfl rfl (by decide) (by assumption) (by repeat (first|exact aq _ _|refine aY (bu (by assumption)) ?_)) (fun OV kI=>?_);refine bV (M:=M) aH rfl rfl rfl rfl rfl kI (aq _ _) (fun v4 rU=>?_);obtain rfl:=ix rU;refine Rg.cat (p:=t.1++[0]) (q:=t.2) rfl rfl rfl (by simp;omega) (ah rfl rfl (ab (aN ?_)));exact aU rfl rfl ⟨rfl,S⟩
end Go.K
namespace Go.K
open Go.Proofs
set_option maxRecDepth 10000
theorem BH (a b:List UInt8) (w:World):Spec Tryz.prog 137 #[.string ⟨a.toArray⟩,.string ⟨b.toArray⟩] w (fun v w'=>v= .int .i64 (Lib.compareBytes a b)∧w'=w):=(Any.strings_Compare Tryz.ON ⟨a.toArray⟩ ⟨b.toArray⟩ w).mono fun e w' ⟨h1,h2⟩=>⟨_,h1,rfl,h2⟩
end Go.K
namespace Go.K
section
variable {P:Program} {r:Option Nat} {n:Nat} {L:Sl} {ds:List Deferred} {w:World} {K:Kt} {ops:Array Oper} {rest:List Oper} {d:Nat} {x:Operand} {ty:TypeId} {pos:String} {af:Array Edge}
theorem ib.tE {id:Nat} {l:List Oper} (hm:P.follows .mixedOrders=true) (dj:eB l 0=true) (h:ib P r n l L ds (w.drewN 1) K):T P r n (.region id l.toArray true) L ds w K:=by
 refine⟨fun a ha=>wpIn_region_draw fun t=>?_⟩;simp only[Region.schedule,hm,Bool.true_or,if_true,Region.linearise];obtain⟨J,h1,h2,h3,h4⟩:=h a ha;refine oP (J:=J) dj (fun {D D' a w} hi hD=>h1 D D' a w hi hD) (fun {D a' w' j o rest} hj ho pC hp lF hi hk=>h2 _ _ _ _ _ _ _ hj ho pC hp lF hi hk) h3 _ t _ a _ (by simp) (by simp[List.countP_replicate]) (fun i o h1 h2=>?_) (h1 _ _ _ _ h4 fun i _=>?_)
 ·simp[Array.getElem?_replicate]at h2
 ·simp[Array.getElem?_replicate]
theorem T.TY {id:Nat} {l l':List Oper} (π:List Nat) (m:Nat) (fl:List Nat) (c:Nat) (N:aC) (hm:P.follows .mixedOrders=true) (Fc:xT π l=l') (rO:eB l 0=true) (hπ:lG π l.length=true) (qh:Nat.blt m l'.length=true) (dj:eB l' 0=true) (nw:km l' m=true) (ER:lh l' m fl c=true)
  (h:lB P r n l'.toArray (l'.take m) L ds (w.drewN 1) (fun L'=>(∀j o,j∈fl→l'[j]? =some o→bZ P N (w.drewN 1) L' o)∧tq P r n l'.toArray N (w.drewN 1) K c (l'.drop m) L' ds (w.drewN 1))):T P r n (.region id l.toArray true) L ds w K:=by
 subst Fc;exact ib.tE hm rO (.perm π hπ rO (xS m fl c N qh dj nw ER h))
theorem Rg.Lr {e:TypeId} {v:Value} (hx:ev L x=some v) (hd:Nat.blt d n=true) (k:Rg P r n ops rest ((d,.pointer (some ⟨w.heap.size,0,none⟩))::L) ds (w.alloc (.cells v.cells e (0,0))) K):
  Rg P r n ops ({dst:=some d,op:= .box e x,type:=ty,pos,after:=af,guard:=none}::rest) L ds w K:=by
 refine .op (fun _ h=>by cases h) rfl rfl hd _ (w.alloc (.cells v.cells e (0,0))) (fun ρ hρ=>?_) k;simp only[execOp,hρ x _ hx];simp[Instr.box,newVar,newRow,newObj,Sem.run]
theorem yB (w:World) (o:Obj):w.alloc o=Go.Sort.grow w #[o]:=by
 unfold World.alloc Go.Sort.grow;congr 1
theorem FO (w:World) (os:Array Obj) (q:Nat):(Go.Sort.grow w os).drewN q=Go.Sort.grow (w.drewN q) os:=rfl
end
end Go.K
namespace Go.K
open Go.Proofs
set_option maxRecDepth 10000
abbrev gu (t:Fd):Obj:= .cells #[.string ⟨t.1.toArray⟩,.string ⟨t.2.toArray⟩] 78 (0,0)
theorem Ls {t:Fd} (w0:World) (h1:t.1.length≤1000000) (h2:t.2.length≤1000000):
  Spec Tryz.prog 80 #[kv t] w0 (fun v w=>v= .string ⟨(gH t).toArray⟩∧w=w0.alloc (gu t)):=by
 refine bc (args:=[_]) (fn:=Tryz.f80) Tryz.func80 rfl (n:=9) Tryz.ntmps80 (aj (ae (Rg.Lr rfl rfl ?_)));have gb:=cp w0 (gu t);change Rg _ _ _ _ _ _ _ (w0.alloc (gu t)) _;generalize hw:w0.alloc (gu t)=w1 at gb ⊢;refine ah rfl rfl (ab (aj (ae (bN (o':=0) dF rfl rfl I9 (by decide) rfl rfl (aL aH rfl rfl rfl gb rfl (Rg.cat (p:=t.1) (q:=[0]) rfl rfl rfl (by simp;omega) (bN (o':=1) dF rfl rfl I9 (by decide) rfl rfl (aL aH rfl rfl rfl gb rfl (Rg.cat (p:=t.1++[0]) (q:=t.2) rfl rfl rfl (by simp;omega) (ah rfl rfl (ab ?_)))))))))));refine aN ?_;exact aU rfl rfl ⟨rfl,rfl⟩
theorem O7 {s t:Fd} (w0:World) (h1:s.1.length≤1000000) (h2:s.2.length≤1000000) (h3:t.1.length≤1000000) (h4:t.2.length≤1000000):
  Spec Tryz.prog 136 #[kv s,kv t] w0 (fun v w=>v= .int .i64 (Lib.compareBytes (gH s) (gH t))∧w=((((w0.alloc (gu s)).alloc (gu t)).drewN 1).alloc (gu s)).alloc (gu t)):=by
 refine bc (args:=[_,_]) (fn:=Tryz.f136) Tryz.func136 rfl (n:=10) Tryz.ntmps136 (aj (ae (Rg.Lr rfl rfl ?_)));change Rg _ _ _ _ _ _ _ (w0.alloc (gu s)) _;refine Rg.Lr rfl rfl ?_;change Rg _ _ _ _ _ _ _ ((w0.alloc (gu s)).alloc (gu t)) _;have g1:((w0.alloc (gu s)).alloc (gu t)).heap[w0.heap.size]? =some (gu s):=(cW aD _ _).aK (cp w0 _);have g2:=cp (w0.alloc (gu s)) (gu t);have kp:=kd aD (((w0.alloc (gu s)).alloc (gu t)).drewN 1);refine ah rfl rfl (ab (aj ?_));apply T.TY [0,2,1,3,4,5] 2 [1] 1 aD mixed
 ·simp+decide only[xT,sH,eS,j5,je,jf,fB,cV,ig,qc,cond_true,cond_false,Nat.reduceBEq,Nat.reduceAdd,beq_self_eq_true];rfl
 ·rfl
 ·rfl
 ·rfl
 ·rfl
 ·rfl
 ·rfl
 have g1':(((w0.alloc (gu s)).alloc (gu t)).drewN 1).heap[w0.heap.size]? =some (gu s):=g1;have g2':(((w0.alloc (gu s)).alloc (gu t)).drewN 1).heap[(w0.alloc (gu s)).heap.size]? =some (gu t):=g2;refine iM (vs:=[.string ⟨s.1.toArray⟩,.string ⟨s.2.toArray⟩]) dF rfl Au rfl rfl rfl g1' ?_;refine ab ⟨rfl,rfl,rfl,?_⟩;refine iM (vs:=[.string ⟨t.1.toArray⟩,.string ⟨t.2.toArray⟩]) dF rfl Au rfl rfl rfl g2' ?_;refine ab ⟨rfl,rfl,rfl,?_⟩;refine ff ?_;refine⟨jd ⟨eI rfl (by assumption) (by first|assumption|exact fun h=>h|(intro h;have h:_=_:=h;omega)),trivial⟩,?_⟩;replace kp:=kp.sG (cW aD (((w0.alloc (gu s)).alloc (gu t)).drewN 1) (gu s));refine aX rfl rfl E80 (Ls (t:=s) _ h1 h2) (fun r5 w5 hc=>?_);obtain⟨rfl,rfl⟩:=hc;refine(fun(kp:eO _ _ _)=>ab ⟨rfl,rfl,fun _=>kp,?_⟩) (by first|exact kp|exact kp.sG (by assumption)|exact kp.goN (by assumption)|exact kp.go (by assumption) (fun _ _ h=>by first|exact h|exact h.elim));refine aX rfl rfl E80 (Ls (t:=t) _ h3 h4) (fun r6 w6 hc=>?_);obtain⟨rfl,rfl⟩:=hc;refine ab ⟨rfl,rfl,fun h=>absurd rfl h,?_⟩;refine aX rfl rfl acf (BH _ _ _) (fun r7 w7 hc=>?_);obtain⟨rfl,rfl⟩:=hc;refine ab ⟨rfl,rfl,fun h=>absurd rfl h,?_⟩;refine ah rfl rfl ?_;refine ab ⟨rfl,rfl,fun h=>absurd rfl h,?_⟩;refine nN (aN ?_);exact aU rfl rfl ⟨rfl,rfl⟩
end Go.K
namespace Go.K
open Go.Lib (compareBytes)
theorem og (a b:UInt8) (x y:List UInt8):compareBytes (a::x) (b::y)=if a.toNat<b.toNat then-1 else if b.toNat<a.toNat then 1 else compareBytes x y:=by
 rw[compareBytes];simp only[UInt8.lt_iff_toNat_lt]
theorem yC:∀a,compareBytes a a=0
 |[]=>rfl
 |a::x=>by rw[og,if_neg (jv _),if_neg (jv _)];exact yC x
theorem qC:∀{a b},compareBytes a b=0→a=b
 |[],[],_=>rfl
 |[],_::_,h=>by simp[compareBytes]at h
 |_::_,[],h=>by simp[compareBytes]at h
 |a::x,b::y,h=>by
  rw[og]at h
  split at h
  ·omega
  ·split at h
   ·omega
   ·rw[qC h,UInt8.toNat_inj.1 (show a.toNat=b.toNat by omega)]
theorem pf:∀a b,compareBytes a b= -compareBytes b a
 |[],[]=>rfl
 |[],_::_=>rfl
 |_::_,[]=>rfl
 |a::x,b::y=>by
  rw[og,og,pf x y]
  split<;>split<;>first|omega|rfl
theorem qZ:∀{a b c},compareBytes a b<0→compareBytes b c<0→compareBytes a c<0
 |[],[],_,h,_=>by simp[compareBytes]at h
 |_::_,[],_,h,_=>by simp[compareBytes]at h
 |_,_::_,[],_,h=>by simp[compareBytes]at h
 |[],_::_,_::_,_,_=>by simp[compareBytes]
 |a::x,b::y,c::z,h1,h2=>by
  rw[og]at h1 h2 ⊢
  split at h1
  ·split at h2
   ·rw[if_pos (by omega)];omega
   ·split at h2
    ·omega
    ·rw[if_pos (by omega)];omega
  ·split at h1
   ·omega
   ·split at h2
    ·rw[if_pos (by omega)];omega
    ·split at h2
     ·omega
     ·rw[if_neg (by omega),if_neg (by omega)];exact qZ h1 h2
theorem Hm {α:Type} (f:α→List UInt8):Go.Sort.SWO (Go.Proofs.ltOf fun x y=>compareBytes (f x) (f y)) where
 irrefl x:=by simp[Go.Proofs.ltOf,yC]
 trans x y z h1 h2:=by
  simp only[Go.Proofs.ltOf,decide_eq_true_eq]at*
  exact qZ h1 h2
 ntrans x y z h1 h2:=by
  simp only[Go.Proofs.ltOf,decide_eq_false_iff_not]at*
  intro h3;by_cases e1:compareBytes (f x) (f y)=0
  ·rw[qC e1]at h3;exact h2 h3
  ·by_cases e2:compareBytes (f y) (f z)=0
   ·rw[qC e2]at h1;exact h1 h3
   ·have n1:=pf (f x) (f y);have n2:=pf (f y) (f z);have n3:=pf (f x) (f z);have:compareBytes (f z) (f x)<0:=qZ (b:=f y) (by omega) (by omega);omega
end Go.K
namespace Go.Proofs
open Go.Shelf
def Tryz.FP:Go.Shelf.Ren:=⟨fun|6=>187|15=>115|14=>238|28=>172|29=>173|20=>272|21=>273|22=>274|23=>275|24=>276|25=>277|26=>278|27=>279|46=>294|47=>218|48=>219|49=>295|50=>296|57=>303|n=>n,fun|22=>155|24=>78|25=>225|3=>3|39=>189|0=>0|53=>257|55=>190|4=>4|46=>251|45=>250|50=>202|5=>5|9=>9|66=>296|70=>300|76=>327|77=>328|n=>n,fun|n=>n⟩
theorem Tryz.Lu:Go.Proofs.SlLaysF0.n6 Tryz.prog Tryz.FP:={
 mixed:=by kernel_rfl
 f6:=⟨Tryz.f187.name,by decide,Tryz.func187.trans (congrArg some (by kernel_rfl))⟩
 f14:=⟨Tryz.f238.name,by decide,Tryz.func238.trans (congrArg some (by kernel_rfl))⟩
 f15:=Tryz.func115.trans (congrArg some (by kernel_rfl))
 f20:=⟨Tryz.f272.name,by decide,Tryz.func272.trans (congrArg some (by kernel_rfl))⟩
 f21:=⟨Tryz.f273.name,by decide,Tryz.func273.trans (congrArg some (by kernel_rfl))⟩
 f22:=⟨Tryz.f274.name,by decide,Tryz.func274.trans (congrArg some (by kernel_rfl))⟩
 f23:=⟨Tryz.f275.name,by decide,Tryz.func275.trans (congrArg some (by kernel_rfl))⟩
 f24:=⟨Tryz.f276.name,by decide,Tryz.func276.trans (congrArg some (by kernel_rfl))⟩
 f25:=⟨Tryz.f277.name,by decide,Tryz.func277.trans (congrArg some (by kernel_rfl))⟩
 f26:=⟨Tryz.f278.name,by decide,Tryz.func278.trans (congrArg some (by kernel_rfl))⟩
 f27:=⟨Tryz.f279.name,by decide,Tryz.func279.trans (congrArg some (by kernel_rfl))⟩
 f28:=Tryz.func172.trans (congrArg some (by kernel_rfl))
 f29:=Tryz.func173.trans (congrArg some (by kernel_rfl))
 f46:=⟨Tryz.f294.name,by decide,Tryz.func294.trans (congrArg some (by kernel_rfl))⟩
 f47:=Tryz.func218.trans (congrArg some (by kernel_rfl))
 f48:=Tryz.func219.trans (congrArg some (by kernel_rfl))
 f49:=⟨Tryz.f295.name,by decide,Tryz.func295.trans (congrArg some (by kernel_rfl))⟩
 f50:=⟨Tryz.f296.name,by decide,Tryz.func296.trans (congrArg some (by kernel_rfl))⟩
 f57:=⟨Tryz.f303.name,by decide,Tryz.func303.trans (congrArg some (by kernel_rfl))⟩
 t0:=fJ
 a0:=lJ
 z0:=j6
 v0:=gI
 t3:=aw
 a3:=lK
 z3:=j7
 v3:=gJ
 t4:=iN
 a4:=rI
 z4:=nL
 v4:=jw
 t5:=cx
 a5:=Tryz.isAgg5
 z5:=Tryz.sizeOf5
 v5:=tw
 t9:=aH
 a9:=lL
 z9:=j8
 v9:=gK
 t22:=jP
 a22:=Tryz.isAgg155
 z22:=Tryz.sizeOf155
 v22:=Tryz.zeroValue155
 t25:=Tryz.underlying225
 a25:=Tryz.isAgg225
 z25:=Tryz.sizeOf225
 v25:=Tryz.zeroValue225
 t39:=jO
 a39:=Tryz.isAgg189
 z39:=Tryz.sizeOf189
 v39:=Tryz.zeroValue189
 t45:=Tryz.underlying250
 a45:=Tryz.isAgg250
 z45:=Tryz.sizeOf250
 v45:=Tryz.zeroValue250
 t46:=Tryz.underlying251
 a46:=Tryz.isAgg251
 z46:=Tryz.sizeOf251
 v46:=Tryz.zeroValue251
 t50:=Tryz.underlying202
 a50:=Tryz.isAgg202
 z50:=Tryz.sizeOf202
 v50:=Tryz.zeroValue202
 t53:=Tryz.underlying257
 a53:=Tryz.isAgg257
 z53:=Tryz.sizeOf257
 v53:=Tryz.zeroValue257
 t55:=su
 a55:=Tryz.isAgg190
 z55:=Tryz.sizeOf190
 v55:=Tryz.zeroValue190
 t66:=Tryz.underlying296
 a66:=Tryz.isAgg296
 z66:=Tryz.sizeOf296
 v66:=Tryz.zeroValue296
 t70:=Tryz.underlying300
 a70:=Tryz.isAgg300
 z70:=Tryz.sizeOf300
 v70:=Tryz.zeroValue300
 t76:=Tryz.underlying327
 a76:=Tryz.isAgg327
 z76:=Tryz.sizeOf327
 v76:=Tryz.zeroValue327
 t77:=Tryz.underlying328
 a77:=Tryz.isAgg328
 z77:=Tryz.sizeOf328
 v77:=Tryz.zeroValue328}
end Go.Proofs
namespace Go.K
open Go.Proofs
set_option maxRecDepth 10000
open Go.Proofs Go.Sort
abbrev TK:Type:={t:Fd // (0:UInt8)∉t.1∧t.1.length≤1000000∧t.2.length≤1000000}
instance ajg:Inhabited TK:=⟨⟨([],[]),by simp,by simp,by simp⟩⟩
def zR (x:TK):List Value:=[.string ⟨x.1.1.toArray⟩,.string ⟨x.1.2.toArray⟩]
def JC (x y:TK):Int:=Lib.compareBytes (gH x.1) (gH y.1)
theorem yD:∀{a b x y:List UInt8},(0:UInt8)∉a→(0:UInt8)∉b→a++[0]++x=b++[0]++y→a=b∧x=y
 |[],[],_,_,_,_,h=>⟨rfl,by simpa using h⟩
 |[],c::b,_,_,_,hb,h=>by
  simp at h;exact absurd (by rw[←h.1];exact bH ..) hb
 |c::a,[],_,_,ha,_,h=>by
  simp at h;exact absurd (by rw[h.1];exact bH ..) ha
 |c::a,e::b,x,y,ha,hb,h=>by
  simp only[kJ,List.cons.injEq]at h;obtain⟨h1,h2⟩:=yD (fun h=>ha (b9 _ h)) (fun h=>hb (b9 _ h)) h.2;exact⟨by rw[h.1,h1],h2⟩
theorem adY (w:World):(isAgg 78).run Tryz.prog w= .ok true w:=by simp[isAgg,ch,run_underlying dF]
theorem X2 (w:World):(Go.sizeOf 78).run Tryz.prog w= .ok 2 w:=by
 obtain⟨i,h1,_,h2,_⟩:=Au.get;simp[Go.sizeOf,typeInfo,ch,program,Sem.run,h1,h2]
theorem Lv (fP off size:Nat) (w:World):CmpLays Tryz.prog 136 #[] zR 2 JC fP off size w:=fun m os dk hs x y=>
 (show Calls Tryz.prog 136 #[kv x.1,kv y.1] (sortWorldK zR 2 w fP off m dk os) (fun e w'=>∃v,e= .returned v∧_∧_)from O7 (s:=x.1) (t:=y.1) _ x.2.2.1 x.2.2.2 y.2.2.1 y.2.2.2).mono fun e w' ⟨v,h1,h2,h3⟩=>⟨by rw[h1,h2];rfl,1,#[gu x.1,gu y.1,gu x.1,gu y.1],by rw[h3];simp only[yB,FO,Go.Sort.grow_grow];rfl⟩
theorem X3 (fP off cap:Nat) (d:Array TK) (w:World) (hH:HoldsK zR 2 w fP off d) (hblk:fP<w.heap.size) (jS:d.size<4611686018427387904):
  Spec Tryz.prog 187 #[.slice (some ⟨fP,off,none⟩) d.size cap,.func (.func 136) #[] #[]] w (fun v w'=>v= .tuple #[]∧∃n os,w'=sortWorldK zR 2 w fP off n (d.toList.mergeSort fun x y=> !(Go.Proofs.ltOf JC) y x).toArray os):=by
 exact(Go.Proofs.AnyQ.slices_SortFunc_total Tryz.Lu 2 adY X2 zR (fun _=>rfl) (fun x v hv=>by simp[zR]at hv;rcases hv with rfl|rfl<;>rfl) JC (Hm _) 136 #[] fP off cap d w ace (Lv fP off d.size w) hH hblk jS (fun x y h1 h2=>by
  have h0:JC x y=0:=by
   have:=pf (gH x.1) (gH y.1);simp only[Go.Proofs.ltOf,decide_eq_false_iff_not]at h1 h2;unfold JC at h1 h2 ⊢;omega
  have h3:=qC h0;obtain⟨h4,h5⟩:=yD x.2.1 y.2.1 h3;exact Subtype.ext (Prod.ext h4 h5))).mono fun e w' ⟨h1,h2⟩=>⟨_,h1,rfl,h2⟩
end Go.K
namespace Go.K
set_option linter.unusedSectionVars false
open Go.Sort Go.Proofs
section
variable {α:Type} [Inhabited α] {enc:α→List Value} {k:Nat}
theorem wF (hk:∀x,(enc x).length=k) (h0:0<k):∀(l:List α) (t:Nat),(l.flatMap enc)[t]? =(l[t/k]?).bind fun x=>(enc x)[t%k]?
 |[],t=>by simp
 |x::l,t=>by
  rw[sm];rcases cJ t k with h|h
  ·rw[jN (by rw[hk];exact h),Nat.div_eq_of_lt h,nK h];rfl
  ·rw[List.getElem?_append_right (by rw[hk];exact h),hk,wF hk h0 l];have e1:t/k=(t-k)/k+1:=by rw[Nat.div_eq t k,if_pos ⟨h0,h⟩]
   have e2:(t-k)%k=t%k:=by rw[Nat.mod_eq t k,if_pos ⟨h0,h⟩]
   rw[e1,e2,kL]
theorem nh (hk:∀x,(enc x).length=k):∀l:List α,(l.flatMap enc).length=l.length*k
 |[]=>by simp
 |x::l=>by rw[sm,bg,hk,nh hk l,cD,Nat.add_mul];omega
theorem yE (hk:∀x,(enc x).length=k) (h0:0<k) (d:Array α) {t:Nat} (ht:t<d.size*k):(d.toList.flatMap enc)[t]? =some (flatK enc k d)[t]! :=by
 have h1:t/k<d.size:=Nat.div_lt_of_lt_mul (by rw[Nat.mul_comm];exact ht);have h2:t%k<k:=Nat.mod_lt _ h0;rw[wF hk h0,get_flatK _ _ _ _ ht];have e:d.toList[t/k]? =some d[t/k]! :=by simp[h1]
 rw[e];simp[hk,h2]
theorem AG {w:World} {g:Nat} {cur:Array Value} {e:TypeId} {d:Array α} (hk:∀x,(enc x).length=k) (h0:0<k) (hg:w.heap[g]? =some (.cells cur e (0,0))) (hC:cur.toList.take (d.size*k)=d.toList.flatMap enc):HoldsK enc k w g 0 d:=fun j hj=>by
 rw[size_flatK]at hj;have h1:=yE hk h0 d hj;rw[←hC,cj,if_pos hj,Array.getElem?_toList]at h1;constructor
 ·simp[World.cell?,hg,h1]
 ·simp[World.frozen?,hg]
theorem rW {w:World} {g n:Nat} {cur:Array Value} {e:TypeId} {d:Array α} {os:Array Obj} (hg:w.heap[g]? =some (.cells cur e (0,0))):(sortWorldK enc k w g 0 n d os).heap[g]? =some (.cells (putCells id 0 (flatK enc k d) cur) e (0,0)):=by
 have dO:g<w.heap.size:=ak hg
 have h1:(w.heap.modify g (onCells (putCells id 0 (flatK enc k d))))[g]? =some (.cells (putCells id 0 (flatK enc k d) cur) e (0,0)):=by
  rw[jF,if_pos rfl,hg];rfl
 show((w.heap.modify g (onCells (putCells id 0 (flatK enc k d))))++os)[g]? =_;rw[Array.getElem?_append_left (by simpa using dO)];exact h1
theorem pL {w:World} {g n:Nat} {d:Array α} {os:Array Obj}:Step allM w allM (sortWorldK enc k w g 0 n d os) (fun b=>b=g):=
 ⟨fun h=>absurd (h w.heap.size trivial) (jv _),rfl,rfl,rfl,by show _≤((w.heap.modify g _)++os).size;simp,fun _ _=>Iff.rfl,fun b hb hn=>by
  have hn: ¬b=g:=hn;show((w.heap.modify g (onCells (putCells id 0 (flatK enc k d))))++os)[b]? =_;rw[Array.getElem?_append_left (by simpa using hb),jF,if_neg (fun h=>hn h.symm)],fun _ _=>trivial⟩
theorem rX {F cur:Array Value} (h:F.size≤cur.size):(putCells id 0 F cur).toList.take F.size=F.toList:=by
 apply fe;intro j;rw[cj];by_cases hj:j<F.size
 ·rw[if_pos hj];simp[putCells,hj,iu hj h]
 ·rw[if_neg hj,dS (by simpa using hj)]
theorem tX (hk:∀x,(enc x).length=k) (h0:0<k) (d:Array α):(flatK enc k d).toList=d.toList.flatMap enc:=by
 apply fe;intro j;by_cases hj:j<d.size*k
 ·rw[yE hk h0 d hj];have:j<(flatK enc k d).size:=by rw[size_flatK];exact hj
  rw[Array.getElem?_toList,getElem!_pos _ j this];exact Array.getElem?_eq_getElem this
 ·rw[dS (by rw[zu,size_flatK];omega),dS (by rw[nh hk,zu];omega)]
end
end Go.K
namespace Go.K
open Go.Proofs
set_option maxRecDepth 10000
open Go.Proofs Go.Sort
theorem Hn:∀{ts:List Fd} {C:List Value} {M:aC} {w:World},dV RT.fd M w ts C→C=ts.flatMap fun t=>[.string ⟨t.1.toArray⟩,.string ⟨t.2.toArray⟩]
 |[],C,_,_,h=>h
 |t::ts,C,_,_,⟨vs,r,h1,h2,h3⟩=>by
  obtain⟨va,vb,rfl,h4,h5⟩:=h2;rw[h1,Hn h3,h4.1,h5.1];rfl
theorem Dw {M:aC} {w:World}:∀{ts:List Fd},(∀t∈ts,t.1.length≤1000000∧t.2.length≤1000000)→dV RT.fd M w ts (ts.flatMap fun t=>[.string ⟨t.1.toArray⟩,.string ⟨t.2.toArray⟩])
 |[],_=>rfl
 |t::ts,h=>by
  obtain⟨h1,h2⟩:=h t (bH ..);exact⟨_,_,rfl,⟨_,_,rfl,⟨rfl,by omega⟩,⟨rfl,by omega⟩⟩,Dw fun u hu=>h u (b9 _ hu)⟩
def Lw (us:List Fd):Prop:=us.Pairwise fun a b=>¬Lib.compareBytes (gH b) (gH a)<0
theorem zT {base:Nat} {v:Value} {ts:List Fd} (w0:World) (ho:Own RT.fd 78 (mU v) w0 base v ts) (hT:∀t∈ts,(0:UInt8)∉t.1∧t.1.length≤1000000∧t.2.length≤1000000) (hl:ts.length≤100000000):
  Spec Tryz.prog 187 #[v,.func (.func 136) #[] #[]] w0 (fun r w=>r= .tuple #[]∧∃us:List Fd,us.Perm ts∧Lw us∧Own RT.fd 78 (mU v) w base v us∧Step allM w0 allM w (mU v)):=by
 obtain⟨⟨C,⟨hC,hr⟩,hA⟩,hm⟩:=ho;rcases hr with⟨rfl,h0⟩|⟨g,cap,cur,rfl,hb,hg,hle,Q9,JD,ru⟩
 ·have J4:ts=[]:=cP.1 h0;subst J4;exact(AnyF.slices_SortFunc_none Tryz.Lu none 0 _ w0).mono fun e w' ⟨h1,h2⟩=>⟨_,h1,rfl,[],.refl _,List.Pairwise.nil,dE _ _ _ _ _,by rw[h2];exact(ax allM w0).cG (fun _ h=>h.elim) (fun _ _=>trivial)⟩
 ·obtain⟨d,hd⟩:∃d:Array TK,d.toList.map (·.1)=ts:=⟨(ts.attach.map fun x=>(⟨x.1,hT x.1 x.2⟩:TK)).toArray,by rw[List.toList_toArray,List.map_map];exact List.attach_map_subtype_val ts⟩;have jS:d.size=ts.length:=by rw[←hd];simp
  have hk:∀x:TK,(zR x).length=2:=fun _=>rfl
  have FQ:∀l:List TK,(l.map (·.1)).flatMap (fun t:Fd=>[Value.string ⟨t.1.toArray⟩,.string ⟨t.2.toArray⟩])=l.flatMap zR:=fun l=>by rw[List.flatMap_map];rfl
  have hH:HoldsK zR 2 w0 g 0 d:=AG hk (by omega) hg (by
   have e2:RT.fd.n=2:=rfl;rw[e2]at ru;rw[jS,ru,Hn hA,←hd,FQ])
  have hs:=X3 g 0 cap d w0 hH (ak hg) (by omega);rw[jS]at hs;refine hs.mono fun r w' ⟨h1,n,os,h2⟩=>⟨h1,(d.toList.mergeSort fun x y=> !(ltOf JC) y x).map (·.1),?_,?_,?_,?_⟩
  ·rw[←hd];exact(jg _ _).map _
  ·refine cy.2 ((List.pairwise_mergeSort (fun a b c h1 h2=>?_) (fun a b=>?_) _).imp fun h=>?_)
   ·simp only[ltOf,iU,decide_eq_false_iff_not]at*
    have:=(Hm fun x:TK=>gH x.1).ntrans c b a (by simpa[ltOf,JC]using h2) (by simpa[ltOf,JC]using h1);simpa[ltOf,JC]using this
   ·simp only[ltOf,qb,iU,decide_eq_false_iff_not];have:=pf (gH a.1) (gH b.1);unfold JC;omega
   ·rw[iU]at h;exact of_decide_eq_false h
  ·have hp:=jg d.toList fun x y=> !(ltOf JC) y x
   rw[h2];generalize (d.toList.mergeSort fun x y=> !(ltOf JC) y x)=us at hp;have JE:(us.map (·.1)).length=ts.length:=by rw[aI,hp.length_eq,zu,jS]
   have zG:us.toArray.size*2=ts.length*2:=by rw[←JE];simp
   have e2:RT.fd.n=2:=rfl;refine⟨⟨(us.map (·.1)).flatMap (fun t:Fd=>[Value.string ⟨t.1.toArray⟩,.string ⟨t.2.toArray⟩]),⟨?_,.inr ⟨g,cap,_,by rw[JE],hb,rW hg,by rw[JE];exact hle,Q9,by rw[←JD];simp[putCells],?_⟩⟩,Dw fun t ht=>?_⟩,hm⟩
   ·rw[FQ,nh hk,aI,e2]
   ·rw[FQ,JE,e2,←zG,←size_flatK zR,rX (by rw[size_flatK,zG,JD,e2];omega),tX hk (by omega)]
   ·obtain⟨x,_,rfl⟩:=ca.1 ht;exact x.2.2
  ·rw[h2];exact pL.cG (fun b hb=>by have hb:b=g:=hb;subst hb;rfl) (fun _ _=>trivial)
end Go.K
namespace Go.K
open Go.Proofs
set_option maxRecDepth 10000
theorem Dx {bs mb clock:Nat} {es:List MapEntry} (w0:World) (hk:Hk es) (hT:∀e∈es,∀t,e.key=kv t→(0:UInt8)∉t.1∧t.1.length≤1000000∧t.2.length≤1000000) (hes:es.length≤100000000) (hlen:∀ts:List Fd,ts.Nodup→(∀t∈ts,∃e∈es,e.key=kv t)→ts.length≤100000000) (TX:w0.heap[bs]? =some (.cells #[.map (some mb)] 217 (0,0))) (hW:fH Tryz.prog 78 w0 mb es clock):
  Spec Tryz.prog 134 #[.func (.func 188) #[] [.pointer (some ⟨bs,0,none⟩)].toArray,.func (.func 136) #[] #[]] w0 (fun v w=>∃us:List Fd,us.Nodup∧(∀t,t∈us↔∃e∈es,e.key=kv t)∧Lw us∧Own RT.fd 78 (mU v) w w0.heap.size v us∧Step allM w0 allM w aD):=by
 refine bc (args:=[_,_]) (fn:=Tryz.f134) Tryz.func134 rfl (n:=12) Tryz.ntmps134 (aj (ae (ah rfl rfl (ab (aj (ae (ad rfl rfl ?_)))))));refine aX rfl rfl acm (BG _ hk hes TX hW) (fun v1 w1 hc=>?_);obtain⟨ts,oE,kq,ho,s1⟩:=hc;refine ah rfl rfl (ab (aj (ae (ad rfl rfl (ad rfl rfl ?_)))));refine aX rfl rfl acn (zT _ ho (fun t ht=>by obtain⟨e,he,hke⟩:=(kq t).1 ht;exact hT e he t hke) (hlen ts oE fun t ht=>(kq t).1 ht)) (fun r2 w2 hc=>?_);obtain⟨rfl,us,hp,Si,X4,s2⟩:=hc;refine ab (aj (ae (ad rfl rfl (ah rfl rfl (ab (aN ?_))))));exact aU rfl rfl ⟨us,hp.nodup_iff.2 oE,fun t=>hp.mem_iff.trans (kq t),Si,X4,s1.trans s2 (fun k hk hn=>by have:=(ho.base k hn).1;omega)⟩
theorem FR {mb:Nat} (w0:World):
  Spec Tryz.prog 135 #[.map (some mb)] w0 (fun v w=>∃bs,v= .func (.func 188) #[] [.pointer (some ⟨bs,0,none⟩)].toArray∧w.heap[bs]? =some (.cells #[.map (some mb)] 217 (0,0))∧w0.heap.size≤bs∧Step allM w0 allM w aD):=by
 refine bc (args:=[_]) (fn:=Tryz.f135) Tryz.func135 rfl (n:=4) Tryz.ntmps135 (aj (ae ?_));refine wX allM rfl rfl (fun bs w1 wz A7 gs s1=>?_);change w1.heap[bs]? =some (.cells #[.map (some mb)] 217 (0,0))at gs;replace s1:=s1.all;refine ah rfl rfl (ab (aj (ae (ka (xs:=[]) (ys:=[.tmp 1]) rfl rfl rfl (ah rfl rfl (ab (aN ?_)))))));exact aU rfl rfl ⟨bs,rfl,gs,wz,s1⟩
end Go.K
namespace Go.K
open Go.Proofs
set_option maxRecDepth 10000
def posOf (ts:List (Fd×Nat)) (t:Fd):List Int:=(ts.filter fun p=>decide (p.1=t)).map fun p=>(p.2:Int)
def seen (ts:List (Fd×Nat)):List Fd:=ts.foldl (fun l p=>if p.1∈l then l else l++[p.1]) []
theorem IA (ts:List (Fd×Nat)) (t:Fd) (i:Nat):seen (ts++[(t,i)])=if t∈seen ts then seen ts else seen ts++[t]:=by unfold seen;rw[sr];rfl
theorem yF (ts:List (Fd×Nat)) (t t':Fd) (i:Nat):posOf (ts++[(t,i)]) t'=if t=t' then posOf ts t'++[(i:Int)]else posOf ts t':=by
 unfold posOf;rw[List.filter_append];by_cases h:t=t'<;>simp[h]
theorem vB (ts:List (Fd×Nat)) (t:Fd):(posOf ts t).length≤ts.length:=by
 unfold posOf;rw[aI];exact l5 _ _
abbrev kQ:Value:= .slice none 0 0
structure IB (M:aC) (w:World) (B:Nat) (ts:List (Fd×Nat)) (es:List MapEntry):Prop where
 o:∀t v,eh kQ es (kv t) v→Own (RT.int .i64) 3 M w B v (posOf ts t)
 a:∀t t' v v',t≠t'→eh kQ es (kv t) v→eh kQ es (kv t') v'→iB v v'
 k:es.map (·.key)=(seen ts).map kv
theorem IB.aM {M M':aC} {w w':World} {B:Nat} {ts:List (Fd×Nat)} {es:List MapEntry} (h:IB M w B ts es) (s:Step M w M' w' aD):IB M' w' B ts es:=⟨fun t v hv=>(h.o t v hv).aM s,h.a,h.k⟩
def IJ (bt mb B:Nat) (ts:List (Fd×Nat)) (M:aC) (w:World):Prop:=w.heap[bt]? =some (.cells #[.map (some mb)] 217 (0,0))∧M bt∧M mb∧B≤bt∧B≤mb∧∃es clock,fH Tryz.prog 78 w mb es clock∧IB M w B ts es
theorem Own.kR {α:Type} {A:RT α} {e:TypeId} {M:aC} {w:World} {base b c:Nat} {a:Array MapEntry} {v:Value} {xs:List α} (h:Own A e M w base v xs) (hb:w.heap[b]? =some (.map a c)):v.ownBlock≠some b:=fun hv=>by
 obtain⟨⟨C,h1,_⟩,_⟩:=h;rcases h1.2 with⟨h2,_⟩|⟨g,cap,cur,h2,_,h3,_⟩
 ·rw[h2]at hv;cases hv
 ·rw[h2]at hv;cases hv;rw[h3]at hb;cases hb
theorem tY {ts:List (Fd×Nat)} {es:List MapEntry} {t:Fd} (hk:es.map (·.key)=(seen ts).map kv):(∃e∈es,e.key=kv t)↔t∈seen ts:=by
 constructor
 ·rintro⟨e,he,h⟩;have:kv t∈(seen ts).map kv:=by rw[←hk,←h];exact gY he
  obtain⟨t',h1,h2⟩:=ca.1 this;rw[←vz h2];exact h1
 ·intro h;have:kv t∈es.map (·.key):=by rw[hk];exact gY h
  obtain⟨e,h1,h2⟩:=ca.1 this;exact⟨e,h1,h2⟩
theorem IC {M:aC} {bt mb B:Nat} {ts:List (Fd×Nat)} {t:Fd} {i:Nat} (w0:World) (hM:Lt M w0) (h1:t.1.length≤900000) (h2:t.2.length≤140737488355328) (hi:i≤1000000) (J4:ts.length≤10000000) (hJ:IJ bt mb B ts M w0):
  Spec Tryz.prog 133 #[kv t,.int .i64 (i:Int),.pointer (some ⟨bt,0,none⟩)] w0 (fun v w=>∃M',Lt M' w∧IJ bt mb B (ts++[(t,i)]) M' w∧Step M w0 M' w (lN M B)):=by
 obtain⟨gb,dZ,fc,hB,Ho,es,clock,hW,hI⟩:=hJ;refine bc (args:=[_,_,_]) (fn:=Tryz.f133) Tryz.func133 rfl (n:=13) Tryz.ntmps133 ?_;have S:Step M w0 M w0 (lN M B):=(ax _ _).cG (fun _ h=>h.elim) (fun _ h=>h.2);refine aj (ae ?_);refine vU (A:=RT.fd) rfl rfl hM (Iz (by omega) h2) rfl (fun u0 w1 dp s0 _=>?_);have:=ak gb;replace dZ:=(s0.mem _ this).2 dZ;replace gb:=s0.aK gb;replace fc:=(s0.mem _ (ak hW.at_)).2 fc;replace hW:=hW.aM s0;replace hI:=hI.aM s0;replace hM:=s0.lt hM;have:=S.size;replace S:=S.aB s0;refine ab (ae (aL l4 rfl rfl rfl (by assumption) rfl ?_));refine de (M:=M) (A:=RT.fd) dF rfl Au (by decide) rfl rfl rfl dp (aq _ _) (fun v1 Ay=>?_);obtain rfl:=sU Ay;refine ad rfl rfl ?_;refine dQ (A:=RT.int .i64) (hn:=by decide) (M:=M) ao I3 (by decide) rfl rfl hM (gm (by omega)) (.inr ⟨rfl,rfl⟩) (fun OV Im kI s1_3=>?_);have:=ak gb;replace dZ:=(s1_3.mem _ this).2 dZ;replace gb:=s1_3.aK gb;replace dp:=dp.le (by decide) s1_3.le;replace fc:=(s1_3.mem _ (ak hW.at_)).2 fc;replace hW:=hW.aM s1_3;replace hI:=hI.aM s1_3;replace hM:=s1_3.lt hM;have:=S.size;replace S:=S.aB s1_3;obtain⟨kl,E5⟩:=Lk t (by omega) h2;refine Rg.mapEntry (M:=M) (zv:=kQ) l4 AB kG rfl rfl rfl E5 hW fc (fun w4 es4 cl4 v s V7 hv kq FT E9 s4=>?_);have N4:∀t v,eh kQ es (kv t) v→v.ownBlock≠some mb:=fun t v h=>(hI.o t v h).kR hW.at_
 have Ra:bt≠mb:=fun e=>by subst e;have:=hW.at_;rw[gb]at this;cases this
 replace hI:IB M w4 B ts es:=⟨fun t v hv=>(hI.o t v hv).step s4 (fun b hb hk=>N4 t v hv (by have hk:b=mb:=hk;rw[←hk];exact hb)),hI.a,hI.k⟩;have X5:=(s4.mem _ (ak hW.at_)).2 fc;replace dZ:=(s4.mem _ (ak gb)).2 dZ;replace gb:=s4.keep gb Ra;replace kI:=kI.le s4.le;replace hM:=s4.lt hM;have hmM:∀b,b<w0.heap.size→M b→M b:=fun b hb h=>(S.mem b hb).1 h
 have hz0:=S.size;replace S:=S.trans s4 (fun k hk h=>by have h:k=mb:=h;subst h;exact⟨Ho,hmM k hk fc⟩);have rY:=hI.o t v hv;have tu:=vB ts t;refine bK rfl rfl rfl ?_;refine nP (M:=M) (base:=B) ao I3 rfl rfl rfl rfl rY kI (aq _ _) (by simp;omega) (by simp;omega) (by have:=ak gb;omega) (fun v6 w6 tW s6 hF=>?_);have hblk:∀b,fP v b→B≤b∧M b:=fun b h=>⟨(rY.base b h).1,rY.mut_ b h⟩
 have xw:∀t' v',t'≠t→eh kQ es (kv t') v'→iB v' v:=fun t' v' eN rM=>hI.a t' t v' v eN rM hv
 have O8:∀t' v',t'≠t→eh kQ es (kv t') v'→Own (RT.int .i64) 3 (jA M v6) w6 B v' (posOf ts t'):=fun t' v' eN rM=>(hI.o t' v' rM).step s6 (fun b hb hk=>xw t' v' eN rM b hb hk)
 have jS:∀t' v',eh kQ es (kv t') v'→∀b,v'.ownBlock=some b→b<w4.heap.size:=fun t' v' rM b hb=>((hI.o t' v' rM).base b hb).2
 have Lx:∀t' v',t'≠t→eh kQ es (kv t') v'→iB v6 v':=fun t' v' eN rM=>(xw t' v' eN rM).symm.grown hF (jS t' v' rM)
 have adZ:v.ownBlock≠some mb:=rY.kR V7.at_;have Ly:=(s6.mem _ (ak V7.at_)).2 X5;replace V7:=V7.step s6 adZ;replace dZ:=(s6.mem _ (ak gb)).2 dZ;replace gb:=s6.keep gb (fun h=>rY.eK gb (by decide) h);replace hM:=s6.lt hM;have ad0:∀b,b<w0.heap.size→M b→M b:=fun b hb h=>(S.mem b hb).1 h
 replace S:=S.trans s6 (fun k hk h=>⟨(hblk k h).1,ad0 k hk (hblk k h).2⟩);refine bK rfl rfl rfl ?_;have X6:=V7.at_;refine Rg.entryStore rfl rfl rfl V7 Ly kq (fun w8 es8 hW8 pJ X7 s8=>?_);have hm8:v6.ownBlock≠some mb:=tW.kR X6;replace tW:=tW.step s8 (fun b hb hk=>hm8 (by have hk:b=mb:=hk;rw[←hk];exact hb));have X8:∀t' v',t'≠t→eh kQ es (kv t') v'→Own (RT.int .i64) 3 _ w8 B v' (posOf ts t'):=fun t' v' eN rM=>(O8 t' v' eN rM).step s8 (fun b hb hk=>N4 t' v' rM (by have hk:b=mb:=hk;rw[←hk];exact hb))
 have X9:=(s8.mem _ (ak X6)).2 Ly;refine ab ?_
 first|refine rj ?_|simp+decide only[rq,jy,if_true,if_false]|skip
 replace dZ:=(s8.mem _ (ak gb)).2 dZ;replace gb:=s8.keep gb Ra;replace hM:=s8.lt hM;replace S:=S.trans s8 (fun k hk h=>by have h:k=mb:=h;subst h;exact⟨Ho,(S.mem k hk).1 Ly⟩)
 have rZ:∀t1 v1,eh kQ es8 (kv t1) v1→(t1=t∧v1=v6)∨(t1≠t∧eh kQ es (kv t1) v1):=fun t1 v1 Ay=>by
  rcases(X7 kQ (kv t1) v1).1 Ay with⟨h3,h4⟩|⟨h3,h4⟩
  ·exact .inl ⟨vz h3,h4⟩
  ·exact .inr ⟨fun e=>h3 (by rw[e];rfl),(FT (kv t1) v1).1 h4⟩
 refine fY rfl ⟨_,hM,⟨gb,dZ,X9,hB,Ho,es8,_,hW8,⟨fun t1 v1 Ay=>?_,fun t1 t2 v1 v2 eN Ay G9=>?_,?_⟩⟩,S⟩
 ·rcases rZ t1 v1 Ay with⟨rfl,rfl⟩|⟨h3,h4⟩
  ·rw[yF,if_pos rfl];exact tW
  ·rw[yF,if_neg (fun e=>h3 e.symm)];exact X8 t1 v1 h3 h4
 ·rcases rZ t1 v1 Ay with⟨rfl,rfl⟩|⟨h3,h4⟩
  ·rcases rZ t2 v2 G9 with⟨rfl,_⟩|⟨h5,h6⟩
   ·exact absurd rfl eN
   ·exact Lx t2 v2 h5 h6
  ·rcases rZ t2 v2 G9 with⟨rfl,rfl⟩|⟨h5,h6⟩
   ·exact(Lx t1 v1 h3 h4).symm
   ·exact hI.a t1 t2 v1 v2 eN h4 h6
 ·rw[pJ,IA];rcases E9 with⟨h3,h4⟩|⟨h3,h4⟩
  ·rw[h3,hI.k,if_pos ((tY hI.k).1 h4)]
  ·rw[h3,hI.k,if_neg (fun h=>by obtain⟨e,he,hk⟩:=(tY hI.k).2 h;exact h4 e he hk)];simp[kv]
end Go.K
namespace Go.K
open Go.Maps (Keyed)
open Go.Lib (compareBytes)
theorem Dy:∀a b:List UInt8,Op.bytesLess a b=decide (compareBytes a b<0)
 |[],[]=>by simp[Op.bytesLess,compareBytes]
 |_::_,[]=>by simp[Op.bytesLess,compareBytes]
 |[],_::_=>by simp[Op.bytesLess,compareBytes]
 |a::x,b::y=>by
  rw[Op.bytesLess,Dy x y,og];by_cases h1:a.toNat<b.toNat
  ·simp[UInt8.lt_iff_toNat_lt,h1]
  ·by_cases h2:b.toNat<a.toNat
   ·have: ¬a=b:=fun e=>by subst e;omega
    simp[UInt8.lt_iff_toNat_lt,h1,h2,this]
   ·have:a=b:=UInt8.toNat_inj.1 (by omega);simp[UInt8.lt_iff_toNat_lt,h1,h2,this]
theorem qD (a b:List UInt8):compareBytes a b<0↔a<b:=by
 have h:=Dy a b;rw[Go.Proofs.bytesLess_eq]at h;exact(decide_eq_decide.1 h).symm
theorem jb (a:List UInt8): ¬a<a:=fun h=>by have:=(qD a a).2 h;rw[yC]at this;omega
theorem l1 {a b c:List UInt8} (h:a<b) (h':b<c):a<c:=(qD _ _).1 (qZ ((qD _ _).2 h) ((qD _ _).2 h'))
theorem jM (a b:List UInt8):a<b∨a=b∨b<a:=by
 rcases Int.lt_trichotomy (compareBytes a b) 0 with h|h|h
 ·exact .inl ((qD _ _).1 h)
 ·exact .inr (.inl (qC h))
 ·exact .inr (.inr ((qD _ _).1 (by rw[pf];omega)))
theorem iR {a b:List UInt8} (h:a<b): ¬b<a:=fun h'=>jb a (l1 h h')
theorem FU {a b:List UInt8}:a≤b↔¬b<a:=Iff.rfl
section
variable {P:Program} {r:Option Nat} {n:Nat} {L:Sl} {ds:List Deferred} {w:World} {K:Kt} {ops:Array Oper} {rest:List Oper} {d:Nat} {x y:Operand} {ty:TypeId} {pos:String} {af:Array Edge}
theorem Rg.ad1 {t t':TypeId} {p q:List UInt8} (hx:ev L x=some (.string ⟨p.toArray⟩)) (hy:ev L y=some (.string ⟨q.toArray⟩)) (hd:Nat.blt d n=true)
  (k:Rg P r n ops rest ((d,.bool (decide (q<p)))::L) ds w K):
  Rg P r n ops ({dst:=some d,op:= .binOp .gtr t x y t',type:=ty,pos,after:=af,guard:=none}::rest) L ds w K:=
 .op (fun _ h=>by cases h) rfl rfl hd _ w (fun ρ h=>by
  have e:(!(decide (p<q)||p==q))=decide (q<p):=by
   rcases jM p q with h|h|h
   ·simp[h,iR h]
   ·subst h;simp[jb]
   ·have: ¬p=q:=fun e=>by subst e;exact jb p h
    simp[h,iR h,this]
  simp only[execOp];rw[h x _ hx,h y _ hy];simp only[binOp,Op.stringOp,ke,Go.Proofs.bytesLess_eq,e];simp[eqGuard]) k
theorem Rg.TZ {t t':TypeId} {p q:List UInt8} (hx:ev L x=some (.string ⟨p.toArray⟩)) (hy:ev L y=some (.string ⟨q.toArray⟩)) (hd:Nat.blt d n=true)
  (k:Rg P r n ops rest ((d,.bool (decide (¬p<q)))::L) ds w K):
  Rg P r n ops ({dst:=some d,op:= .binOp .geq t x y t',type:=ty,pos,after:=af,guard:=none}::rest) L ds w K:=
 .op (fun _ h=>by cases h) rfl rfl hd _ w (fun ρ h=>by
  have e:(!decide (p<q))=decide (¬p<q):=by by_cases h:p<q<;>simp[h]
  simp only[execOp];rw[h x _ hx,h y _ hy];simp only[binOp,Op.stringOp,ke,Go.Proofs.bytesLess_eq,e];simp[eqGuard]) k
theorem Rg.T0 {t t':TypeId} {p q:List UInt8} (hx:ev L x=some (.string ⟨p.toArray⟩)) (hy:ev L y=some (.string ⟨q.toArray⟩)) (hd:Nat.blt d n=true)
  (k:Rg P r n ops rest ((d,.bool (decide (¬q<p)))::L) ds w K):
  Rg P r n ops ({dst:=some d,op:= .binOp .leq t x y t',type:=ty,pos,after:=af,guard:=none}::rest) L ds w K:=
 .op (fun _ h=>by cases h) rfl rfl hd _ w (fun ρ h=>by
  have e:(decide (p<q)||p==q)=decide (¬q<p):=by
   rcases jM p q with h|h|h
   ·simp[h,iR h]
   ·subst h;simp[jb]
   ·have: ¬p=q:=fun e=>by subst e;exact jb p h
    simp[h,iR h,this]
  simp only[execOp];rw[h x _ hx,h y _ hy];simp only[binOp,Op.stringOp,ke,Go.Proofs.bytesLess_eq,e];simp[eqGuard]) k
end
abbrev Dz (l:List (List UInt8)):Prop:=l.Pairwise (· < ·)
theorem ID {ss:List (List UInt8)} (h:ss.Nodup):Dz (ss.mergeSort fun x y=>decide (x≤y)):=by
 have h1:(ss.mergeSort fun x y=>decide (x≤y)).Pairwise (fun x y=>decide (x≤y)=true):=List.pairwise_mergeSort (fun a b c h1 h2=>by
  simp only[decide_eq_true_eq,FU]at h1 h2 ⊢;intro h3;rcases jM a b with h|h|h
  ·exact h2 (l1 h3 h)
  ·subst h;exact h2 h3
  ·exact h1 h) (fun a b=>by
  simp only[qb,decide_eq_true_eq,FU];rcases jM a b with h|h|h
  ·exact .inl (iR h)
  ·subst h;exact .inl (jb a)
  ·exact .inr (iR h)) ss
 have h2:(ss.mergeSort fun x y=>decide (x≤y)).Nodup:=(jg ss _).nodup_iff.2 h;refine (h1.and h2).imp ?_;rintro a b ⟨h3,h4⟩;simp only[decide_eq_true_eq,FU]at h3;rcases jM a b with h|h|h
 ·exact h
 ·exact absurd h h4
 ·exact absurd h h3
theorem Dz.nodup {l:List (List UInt8)} (h:Dz l):l.Nodup:=h.imp fun {a b} h e=>by subst e;exact jb a h
theorem tZ {α:Type} {R:α→α→Prop} (hR:∀a b,R a b→R b a→a=b) {l l':List α} (h:l.Pairwise R) (h':l'.Pairwise R) (hn:l.Nodup) (Ix:l'.Nodup) (hm:∀x,x∈l↔x∈l'):l=l':=
 List.Perm.eq_of_pairwise (fun a b _ _ h1 h2=>hR a b h1 h2) h h' ((List.perm_ext_iff_of_nodup hn Ix).2 hm)
theorem T1 {l l':List (List UInt8)} (h:Dz l) (h':Dz l') (hm:∀x,x∈l↔x∈l'):l=l':=
 tZ (fun a b h1 h2=>absurd h2 (iR h1)) h h' h.nodup h'.nodup hm
abbrev sv (k:List UInt8):Value:= .string ⟨k.toArray⟩
theorem BI {a b:List UInt8} (h:sv a=sv b):a=b:=by simpa[sv]using h
def FV:Value→Option (DU×List MemPlace):=fun _=>some (.nil,[])
theorem fH.ad2 {P:Program} {kt:TypeId} {M:aC} {w:World} {b:Nat} {es:List MapEntry} {clock:Nat} (hk:P.underlying kt=some .string) (h:fH P kt w b es clock) (hm:M b) (hl:es.length≤maxLen) (ks:List (List UInt8)) (O9:es.map (·.key)=ks.map sv):
  ∃m:List (Lit×DU),SG P kt FV M w b m∧(strKeys (DataW.map m)).Perm ks∧m.length=ks.length:=by
 have hF:Go.WideElems.Fit P kt FV es.toArray clock:=by
  refine⟨by simpa using hl,⟨fun x hx=>h.lt x (by simpa using hx),?_,?_⟩,fun x hx=>?_⟩
  ·simpa[List.Nodup,cy]using h.born
  ·simpa[List.Nodup,cy]using h.keys
  ·obtain⟨l,hl⟩:=h.ok x (by simpa using hx);exact⟨(l,.nil),by simp[Go.WideElems.rd,hl,FV]⟩
 have hp:=Go.WideShapes.sorted_perm (es.toArray.toList.map (Go.WideElems.rg P kt FV));have hlen:(List.foldr DataW.insert [] (es.toArray.toList.map (Go.WideElems.rg P kt FV))).length=es.length:=by rw[hp.length_eq];simp
 refine⟨_,⟨hm,es.toArray,clock,h.at_,hF,by rw[hlen];simp,rfl⟩,?_,?_⟩
 ·refine (hp.map fun p=>strOf p.1).trans ?_;rw[List.map_map]
  have e:es.toArray.toList.map ((fun p=>strOf p.1)∘Go.WideElems.rg (H:=Unit) P kt FV)=ks:=by
   refine fe fun i=>?_
   have hi:=congrArg (·[i]?) O9;simp only[bB]at hi ⊢
   cases he:es[i]? with
   |none=>
    rw[he]at hi
    cases ad3:ks[i]? with
    |none=>simp[he]
    |some a=>rw[ad3]at hi;cases hi
   |some e=>
    rw[he]at hi;obtain⟨l,hl⟩:=h.ok e (aA he);obtain⟨s,hs,h1⟩:=Option.map_eq_some_iff.1 hi.symm;obtain⟨z,hz1,hz2,_⟩:=Maps.keyOf_str hk hl;have:z=s:=BI (hz1.symm.trans (by simpa using h1.symm));subst this;simp[he,hs,Go.WideElems.rg,Go.WideElems.rd,hl,FV,hz2,strOf]
  rw[e]
 ·rw[hlen];have:=congrArg List.length O9;simpa using this
end Go.K
namespace Go.K
open Go.Lib (compareBytes)
def qE {α:Type} [DecidableEq α] (key:α→List UInt8) (t:α):List α→List α
 |[]=>[t]
 |u::l=>if key t<key u then t::u::l else if u=t then u::l else u::qE key t l
theorem re {α:Type} [DecidableEq α] {key:α→List UInt8} {t x:α}:∀{l:List α},x∈qE key t l↔x=t∨x∈l
 |[]=>by simp[qE]
 |u::l=>by
  unfold qE
  split
  ·simp
  ·split
   ·rename_i h;subst h;simp
   ·rw[bX,re (l:=l),bX];constructor
    ·rintro(h|h|h)
     ·exact .inr (.inl h)
     ·exact .inl h
     ·exact .inr (.inr h)
    ·rintro(h|h|h)
     ·exact .inr (.inl h)
     ·exact .inl h
     ·exact .inr (.inr h)
abbrev BJ {α:Type} (key:α→List UInt8) (l:List α):Prop:=l.Pairwise fun a b=>key a<key b
theorem DA {α:Type} [DecidableEq α] {key:α→List UInt8} {t:α}:∀{l:List α},(∀u∈l,key u=key t→u=t)→BJ key l→BJ key (qE key t l)
 |[],_,_=>by simp[qE]
 |u::l,hi,h=>by
  have h':=ei.1 h;unfold qE
  split
  ·rename_i dO
   refine ei.2 ⟨fun x hx=>?_,h⟩;rcases bX.1 hx with rfl|hx
   ·exact dO
   ·exact l1 dO (h'.1 x hx)
  ·rename_i dO
   split
   ·exact h
   ·rename_i eN
    have hut:key u<key t:=by
     rcases jM (key u) (key t)with h1|h1|h1
     ·exact h1
     ·exact absurd (hi u (bH ..) h1) eN
     ·exact absurd h1 dO
    refine ei.2 ⟨fun x hx=>?_,DA (fun v hv=>hi v (b9 _ hv)) h'.2⟩;rcases re.1 hx with rfl|hx
    ·exact hut
    ·exact h'.1 x hx
def allBy {α:Type} [DecidableEq α] (key:α→List UInt8) (l:List α):List α:=l.foldl (fun a t=>qE key t a) []
theorem ud {α:Type} [DecidableEq α] {key:α→List UInt8} {S:α→Prop} (hS:∀a b,S a→S b→key a=key b→a=b):∀(l a:List α),(∀x∈l,S x)→(∀x∈a,S x)→BJ key a→
  BJ key (l.foldl (fun a t=>qE key t a) a)∧∀x,x∈l.foldl (fun a t=>qE key t a) a↔x∈a∨x∈l
 |[],a,_,_,h=>⟨h,fun x=>by simp⟩
 |t::l,a,hl,ha,h=>by
  have ht:=hl t (bH ..)
  obtain⟨h1,h2⟩:=ud hS l (qE key t a) (fun x hx=>hl x (b9 _ hx)) (fun x hx=>by
   rcases re.1 hx with rfl|hx
   ·exact ht
   ·exact ha x hx) (DA (fun u hu e=>hS _ _ (ha u hu) ht e) h)
  refine⟨h1,fun x=>?_⟩;rw[List.foldl_cons,h2,re,bX];constructor
  ·rintro((h|h)|h)
   ·exact .inr (.inl h)
   ·exact .inl h
   ·exact .inr (.inr h)
  ·rintro(h|h|h)
   ·exact .inl (.inr h)
   ·exact .inl (.inl h)
   ·exact .inr h
theorem BJ.nodup {α:Type} {key:α→List UInt8} {l:List α} (h:BJ key l):l.Nodup:=h.imp fun {a b} h e=>by subst e;exact jb _ h
abbrev N5 (t:Fd):Prop:=(0:UInt8)∉t.1
theorem yG {a b:Fd} (ha:N5 a) (hb:N5 b) (h:gH a=gH b):a=b:=by
 obtain⟨h1,h2⟩:=yD ha hb h;exact Prod.ext h1 h2
def cU (tl:List (Fd×Nat)):List Fd:=allBy gH (tl.map (·.1))
theorem ue {tl:List (Fd×Nat)} (hz:∀p∈tl,N5 p.1):BJ gH (cU tl):=
 (ud (S:=N5) (fun _ _=>yG) _ [] (fun x hx=>by obtain⟨p,hp,rfl⟩:=ca.1 hx;exact hz p hp) (fun x h=>by cases h) List.Pairwise.nil).1
theorem kS {tl:List (Fd×Nat)} (hz:∀p∈tl,N5 p.1) {t:Fd}:t∈cU tl↔t∈tl.map (·.1):=by
 have:=(ud (S:=N5) (key:=gH) (fun _ _=>yG) (tl.map (·.1)) [] (fun x hx=>by obtain⟨p,hp,rfl⟩:=ca.1 hx;exact hz p hp) (fun x h=>by cases h) List.Pairwise.nil).2 t;simpa[cU,allBy]using this
theorem Hp (t:Fd):∀(ts:List (Fd×Nat)) (l:List Fd),t∈ts.foldl (fun l p=>if p.1∈l then l else l++[p.1]) l↔t∈l∨t∈ts.map (·.1)
 |[],l=>by simp
 |p::ts,l=>by
  rw[List.foldl_cons,Hp t ts,eS,bX]
  split
  ·rename_i h
   constructor
   ·rintro(h1|h1)
    ·exact .inl h1
    ·exact .inr (.inr h1)
   ·rintro(h1|h1|h1)
    ·exact .inl h1
    ·exact .inl (by rw[h1];exact h)
    ·exact .inr h1
  ·rw[ck,bE];constructor
   ·rintro((h1|h1)|h1)
    ·exact .inl h1
    ·exact .inr (.inl h1)
    ·exact .inr (.inr h1)
   ·rintro(h1|h1|h1)
    ·exact .inl (.inl h1)
    ·exact .inl (.inr h1)
    ·exact .inr h1
theorem ug {tl:List (Fd×Nat)} {t:Fd}:t∈seen tl↔t∈tl.map (·.1):=by unfold seen;rw[Hp];simp
theorem DB {tl:List (Fd×Nat)} {us:List Fd} (hz:∀p∈tl,N5 p.1) (oE:us.Nodup) (kq:∀t,t∈us↔t∈seen tl) (Si:Lw us):us=cU tl:=by
 have hm:∀t,t∈us↔t∈cU tl:=fun t=>by rw[kq,ug,kS hz]
 have j9:∀t∈cU tl,N5 t:=fun t ht=>by obtain⟨p,hp,rfl⟩:=ca.1 ((kS hz).1 ht);exact hz p hp
 refine List.Perm.eq_of_pairwise (le:=fun a b=>¬compareBytes (gH b) (gH a)<0) (fun a b ha hb h1 h2=>?_) Si ((ue hz).imp fun {a b} h h'=>iR h ((qD _ _).1 h')) ((List.perm_ext_iff_of_nodup oE (ue hz).nodup).2 hm);rw[qD]at h1 h2;rcases jM (gH a) (gH b)with h|h|h
 ·exact absurd h h2
 ·exact yG (j9 a ((hm a).1 ha)) (j9 b hb) h
 ·exact absurd h h1
theorem uh (a b:List (Fd×Nat)) (t:Fd):posOf (a++b) t=posOf a t++posOf b t:=by simp[posOf]
theorem Lz {tl:List (Fd×Nat)} {t:Fd} (h:t∈tl.map (·.1)):posOf tl t≠[]:=by
 obtain⟨p,hp,rfl⟩:=ca.1 h;intro e;have:p∈tl.filter fun q=>decide (q.1=p.1):=fT.2 ⟨hp,by simp⟩
 rw[List.map_eq_nil_iff.1 e]at this;cases this
theorem IE {tl:List (Fd×Nat)} {t:Fd} (h:t∉tl.map (·.1)):posOf tl t=[]:=by
 unfold posOf;rw[List.filter_eq_nil_iff.2 fun p hp=>by simp;intro e;exact h (ca.2 ⟨p,hp,e⟩)];rfl
theorem DC (x:Fd) (t:Fd):(posOf (jr x) t).Sublist ((List.range' 0 (words x.2).length).map fun(i:Nat)=>(i:Int)):=by
 have e:(jr x).map (fun p=>(p.2:Int))=(List.range' 0 (words x.2).length).map fun(i:Nat)=>(i:Int):=by
  rw[←List.zipIdx_map_snd 0 (words x.2),List.map_map];unfold jr;rw[List.map_map];rfl
 rw[←e];exact zw.map _
theorem IF (x:Fd) (t:Fd):(posOf (jr x) t).Pairwise (· < ·)∧∀i∈posOf (jr x) t,0≤i∧i<(words x.2).length:=by
 refine⟨uL (DC x t) (cy.2 ((List.pairwise_lt_range' (s:=0) (n:=(words x.2).length)).imp fun h=>by omega)),fun i hi=>?_⟩;have:=(DC x t).subset hi;obtain⟨k,hk,rfl⟩:=ca.1 this;have:=List.mem_range'_1.1 hk;omega
theorem AH {x:Fd} {p:Fd×Nat} (h:p∈jr x):p.1.1=x.1∧p.1.2∈words x.2:=by
 obtain⟨q,hq,rfl⟩:=ca.1 h;have:=List.mem_zipIdx hq;exact⟨rfl,by simp only;rw[this.2.2];exact uP _⟩
theorem AI {fs:List Fd} {p:Fd×Nat} (h:p∈cE fs):∃x∈fs,p.1.1=x.1∧p.1.2∈words x.2:=by
 obtain⟨x,hx,hp⟩:=uQ.1 h;exact⟨x,hx,AH hp⟩
theorem yH {x t:Fd} (h:x.1≠t.1):posOf (jr x) t=[]:=IE fun hm=>by
 obtain⟨p,hp,rfl⟩:=ca.1 hm;exact h (AH hp).1.symm
theorem AJ {t:Fd}:∀{fs:List Fd},(∀x∈fs,x.1≠t.1)→posOf (cE fs) t=[]
 |[],_=>rfl
 |x::fs,h=>by
  show posOf (jr x++cE fs) t=[];rw[uh,yH (h x (bH ..)),AJ fun y hy=>h y (b9 _ hy)];rfl
theorem DD {t:Fd}:∀{fs:List Fd},(fs.map (·.1)).Nodup→posOf (cE fs) t=[]∨∃x∈fs,posOf (cE fs) t=posOf (jr x) t
 |[],_=> .inl rfl
 |x::fs,h=>by
  have h':=List.nodup_cons.1 h;have e:posOf (cE (x::fs)) t=posOf (jr x) t++posOf (cE fs) t:=by show posOf (jr x++cE fs) t=_;rw[uh]
  by_cases hx:x.1=t.1
  ·refine .inr ⟨x,bH ..,?_⟩;rw[e,AJ fun y hy e=>h'.1 (by have h9:y.1∈fs.map (·.1):=gY hy;rw[e,←hx]at h9;exact h9),iX]
  ·rw[e,yH hx,fQ];rcases DD (t:=t) h'.2 with h1|⟨y,hy,h1⟩
   ·exact .inl h1
   ·exact .inr ⟨y,b9 _ hy,h1⟩
theorem yI:∀{l:List Int} {last:Int},(∀x∈l,last<x)→l.Pairwise (· < ·)→ek last l=true
 |[],_,_,_=>rfl
 |x::l,last,h1,h2=>by
  have xM:=ei.1 h2;simp only[ek,bT,decide_eq_true_eq];exact⟨h1 x (bH ..),yI xM.1 xM.2⟩
structure kT (d:Dc):Prop where
 names:∀f∈d.2,gr f.1=true
 once:(d.2.map (·.1)).Nodup
 toks:∀f∈d.2,mD 0 (words f.2)=0
 many:(cE d.2).length≤500
 few:d.2.length≤8
theorem AK:∀{fs sn:List Fd} {n:Nat},zN sn fs n=0→(∀f∈fs,gr f.1=true∧mD 0 (words f.2)=0∧∀g∈sn,g.1≠f.1)∧(fs.map (·.1)).Nodup∧n+(cE fs).length≤500
 |[],sn,n,h=>by
  refine⟨(fun f hf=>by cases hf),List.nodup_nil,?_⟩;simp only[zN]at h
  split at h
  ·cases h
  ·simp[cE];omega
 |f::fs,sn,n,h=>by
  simp only[zN]at h
  split at h
  ·cases h
  ·rename_i h1
   split at h
   ·cases h
   ·rename_i h2
    split at h
    ·exact absurd h (by assumption)
    ·rename_i h3
     obtain⟨h4,h5,h6⟩:=AK h;have h7:∀g∈sn,g.1≠f.1:=fun g hg e=>h2 (uN.2 ⟨g,hg,by simp[e]⟩)
     refine⟨fun x hx=>?_,List.nodup_cons.2 ⟨fun hm=>?_,h5⟩,?_⟩
     ·rcases bX.1 hx with rfl|hx
      ·exact⟨by simpa using h1,by simpa using h3,h7⟩
      ·obtain⟨a,b,c⟩:=h4 x hx;exact⟨a,b,fun g hg=>c g (gy _ hg)⟩
     ·obtain⟨y,hy,e⟩:=ca.1 hm;exact(h4 y hy).2.2 f (List.mem_append_right _ (bE.2 rfl)) e.symm
     ·have:(cE (f::fs)).length=(jr f).length+(cE fs).length:=by show(jr f++cE fs).length=_;rw[bg]
      rw[this,oe];omega
theorem Hq {d:Dc} (h:lR d=0):kT d:=by
 unfold lR at h
 split at h
 ·cases h
 ·obtain⟨h1,h2,h3⟩:=AK h;exact⟨fun f hf=>(h1 f hf).1,h2,fun f hf=>(h1 f hf).2.1,by omega,by omega⟩
theorem AL:∀{ws:List (List UInt8)} {i:Nat},mD i ws=0→∀x∈ws,x.length≤30
 |[],_,_,x,hx=>by cases hx
 |a::ws,i,h,x,hx=>by
  simp only[mD]at h
  split at h
  ·cases h
  ·split at h
   ·cases h
   ·rcases bX.1 hx with rfl|hx
    ·omega
    ·exact AL h x hx
theorem LA {s:List UInt8} (h:gr s=true):(0:UInt8)∉s:=fun h0=>by
 simp only[gr,bT,fC]at h;have:=h.2 0 h0
 revert this;decide
theorem kT.Pb {d:Dc} (h:kT d):∀p∈cE d.2,N5 p.1:=fun p hp=>by
 obtain⟨x,hx,h1,_⟩:=AI hp;show(0:UInt8)∉p.1.1;rw[h1];exact LA (h.names x hx)
theorem kT.small {d:Dc} (h:kT d):∀p∈cE d.2,p.1.1.length≤12∧p.1.2.length≤30:=fun p hp=>by
 obtain⟨x,hx,h1,h2⟩:=AI hp;exact⟨by rw[h1];exact De (h.names x hx),AL (h.toks x hx) _ h2⟩
theorem kT.pos {d:Dc} (h:kT d) (t:Fd):(posOf (cE d.2) t).Pairwise (· < ·)∧(∀i∈posOf (cE d.2) t,0≤i∧i<500)∧(posOf (cE d.2) t).length≤500:=by
 have hl:=vB (cE d.2) t;have hm:=h.many;rcases DD (t:=t) h.once with h1|⟨x,hx,h1⟩
 ·rw[h1];exact⟨List.Pairwise.nil,(fun i hi=>by cases hi),by simp⟩
 ·obtain⟨h2,h3⟩:=IF x t
  have qU:(words x.2).length≤500:=by
   have:(jr x).length≤(cE d.2).length:=by
    obtain⟨i,hi⟩:=bm.1 hx;have:=tb hi
    have h5:(cE (d.2.take (i+1))).length≤(cE d.2).length:=by
     have:cE d.2=cE (d.2.take (i+1))++cE (d.2.drop (i+1)):=by unfold cE;rw[←List.flatMap_append,uK]
     rw[this,bg];omega
    rw[this,bg]at h5;omega
   rw[oe]at this;omega
  rw[h1]at hl ⊢;exact⟨h2,fun i hi=>⟨(h3 i hi).1,by have:=(h3 i hi).2;omega⟩,by omega⟩
theorem kT.ek {d:Dc} (h:kT d) (t:Fd):oV (posOf (cE d.2) t)=true:=by
 obtain⟨h1,h2,_⟩:=h.pos t;exact oW.2 ⟨yI (fun x hx=>by have:=(h2 x hx).1;omega) h1,fun x hx=>by have:=(h2 x hx).2;omega⟩
abbrev pM (e:En):List (Fd×Nat):=cE e.1.2
def EW (i:Nat) (tl:List (Fd×Nat)) (k:List UInt8):List Po:=((cU tl).filter fun t=>decide (gH t=k)).map fun t=>((i:Int),posOf tl t)
def Cn (k:List UInt8):Nat→List En→List Po
 |_,[]=>[]
 |i,e::L=>EW i (pM e) k++Cn k (i+1) L
def pk (L:List En) (k:List UInt8):List Po:=Cn k 0 L
theorem DE (k:List UInt8) (e:En):∀(L:List En) (i:Nat),Cn k i (L++[e])=Cn k i L++EW (i+L.length) (pM e) k
 |[],i=>by simp[Cn]
 |x::L,i=>by
  simp only[kJ,Cn,DE k e L (i+1),List.append_assoc,cD];rw[show i+1+L.length=i+(L.length+1) by omega]
theorem Pc (L:List En) (e:En) (k:List UInt8):pk (L++[e]) k=pk L k++EW L.length (pM e) k:=by
 unfold pk;rw[DE];simp
def iE (L:List En):List (List UInt8):=L.flatMap fun e=>(cU (pM e)).map gH
theorem FX (L:List En) (e:En):iE (L++[e])=iE L++(cU (pM e)).map gH:=by simp[iE]
def keysOf (L:List En):List (List UInt8):=allBy id (iE L)
theorem k4 (L:List En):Dz (keysOf L):=(ud (key:=id) (S:=fun _=>True) (fun a b _ _ h=>h) _ [] (fun _ _=>trivial) (fun _ _=>trivial) List.Pairwise.nil).1
theorem jt {L:List En} {k:List UInt8}:k∈keysOf L↔k∈iE L:=by
 have:=(ud (key:=id) (S:=fun _=>True) (fun a b _ _ h=>h) (iE L) [] (fun _ _=>trivial) (fun _ _=>trivial) List.Pairwise.nil).2 k;simpa[keysOf,allBy]using this
theorem filter_one {α:Type} {key:α→List UInt8} {l:List α} (h:BJ key l) (k:List UInt8):l.filter (fun t=>decide (key t=k))=[]∨∃t∈l,key t=k∧l.filter (fun t=>decide (key t=k))=[t]:=by
 have h1:BJ key (l.filter fun t=>decide (key t=k)):=uL zw h;have h2:∀x∈l.filter (fun t=>decide (key t=k)),x∈l∧key x=k:=fun x hx=>by simpa using fT.1 hx
 revert h1 h2
 generalize l.filter (fun t=>decide (key t=k))=m;intro h1 h2
 match m,h1,h2 with
 |[],_,_=>exact .inl rfl
 |[t],_,h2=>exact .inr ⟨t,(h2 t (bH ..)).1,(h2 t (bH ..)).2,rfl⟩
 |t::u::m,h1,h2=>
  have:=(ei.1 h1).1 u (bH ..);rw[(h2 t (bH ..)).2,(h2 u (by simp)).2]at this;exact absurd this (jb k)
theorem Hr {d:Dc} (h:kT d) (i:Nat) (k:List UInt8):EW i (cE d.2) k=[]∨∃t∈cU (cE d.2),gH t=k∧EW i (cE d.2) k=[((i:Int),posOf (cE d.2) t)]:=by
 rcases filter_one (ue h.Pb) k with h1|⟨t,ht,hk,h1⟩
 ·exact .inl (by unfold EW;rw[h1];rfl)
 ·exact .inr ⟨t,ht,hk,by unfold EW;rw[h1];rfl⟩
theorem T2 {tl:List (Fd×Nat)} {i:Nat} {t:Fd} (h:t∈cU tl):EW i tl (gH t)≠[]:=fun e=>by
 have:t∈(cU tl).filter fun u=>decide (gH u=gH t):=fT.2 ⟨h,by simp⟩
 rw[List.map_eq_nil_iff.1 e]at this;cases this
theorem uj (k:List UInt8):∀(L:List En) (i:Nat) (last:Int),(∀e∈L,kT e.1)→last<i→i+L.length≤2147483648→fU last (Cn k i L)=true
 |[],_,_,_,_,_=>rfl
 |e::L,i,last,hF,h1,h2=>by
  have hf:=hF e (bH ..);have hr:=fun last h=>uj k L (i+1) last (fun x hx=>hF x (b9 _ hx)) h (by simp at h2;omega)
  simp only[Cn];rcases Hr hf i k with h3|⟨t,ht,hk,h3⟩
  ·rw[show EW i (pM e) k=[]from h3];exact hr last (by omega)
  ·rw[show EW i (pM e) k=_ from h3]
   have eN:(posOf (cE e.1.2) t).isEmpty=false:=by
    have:=Lz ((kS hf.Pb).1 ht)
    cases h:posOf (cE e.1.2) t with
    |nil=>exact absurd h this
    |cons a b=>rfl
   simp only[kJ,fQ,fU,eN,hf.ek t,hr i (by omega),Bool.and_true,Bool.not_false,bT,decide_eq_true_eq];simp at h2;omega
theorem qF (k:List UInt8):∀(L:List En) (i:Nat),(∀e∈L,kT e.1)→(Cn k i L).length≤L.length∧∀p∈Cn k i L,(i:Int)≤p.1∧p.1<i+L.length∧p.2.length≤500
 |[],_,_=>⟨aR _,fun p h=>by cases h⟩
 |e::L,i,hF=>by
  have hf:=hF e (bH ..);obtain⟨h1,h2⟩:=qF k L (i+1) (fun x hx=>hF x (b9 _ hx));simp only[Cn,cD];rcases Hr hf i k with h3|⟨t,ht,hk,h3⟩
  ·rw[show EW i (pM e) k=[]from h3];exact⟨by simpa using Nat.le_succ_of_le h1,fun p hp=>by have:=h2 p (by simpa using hp);exact⟨by omega,by omega,this.2.2⟩⟩
  ·rw[show EW i (pM e) k=_ from h3];refine⟨by simp;omega,fun p hp=>?_⟩;rcases bX.1 hp with rfl|hp
   ·exact⟨Int.le_refl _,by simp only;omega,(hf.pos t).2.2⟩
   ·have:=h2 p (by simpa using hp);exact⟨by omega,by omega,this.2.2⟩
theorem vC:∀(l:List Po) (last:Int) (m:Nat),-1≤last→fU last l=true→(∀p∈l,p.2.length≤m)→m≤1000000→(dY last l).length≤(18+9*m)*l.length∧jm l≤m*l.length
 |[],_,_,_,_,_,_=>⟨by simp[dY],by simp[jm]⟩
 |(d,ps)::l,last,m,h0,hm,hs,hmm=>by
  simp only[fU,bT,decide_eq_true_eq]at hm;obtain⟨⟨⟨⟨h1,h2⟩,h3⟩,h4⟩,h5⟩:=hm;obtain⟨h6,h7⟩:=oW.1 h4;have kf:=hs _ (bH ..);simp only at kf;obtain⟨i1,i2⟩:=vC l d m (by omega) h5 (fun p hp=>hs p (b9 _ hp)) hmm;have a1:=xW ps (-1) (by omega) (fun x hx=>by have:=h7 x hx;omega) h6;have a3:=ll (n:=(d-last-1).toNat) (by omega);have a4:=ll (n:=ps.length) (by omega);have e1:9*ps.length≤9*m:=by omega
  constructor
  ·simp only[dY,eC,bg,cD,Nat.mul_add,eG];omega
  ·simp only[jm,eS,List.sum_cons,cD]at i2 ⊢;rw[Int.natCast_add,Int.mul_add];omega
abbrev Sg:Type:=List Int×List Int×List (List UInt8)×List (List Po)
theorem FY {k:List UInt8}:∀{L:List En} (i:Nat),k∈iE L→Cn k i L≠[]
 |[],_,h=>by cases h
 |e::L,i,h=>by
  simp only[Cn];intro hn;obtain⟨h1,h2⟩:=List.append_eq_nil_iff.1 hn;have h:k∈(cU (pM e)).map gH++iE L:=h;rcases ck.1 h with h|h
  ·obtain⟨t,ht,rfl⟩:=ca.1 h;exact T2 ht h1
  ·exact FY (i+1) h h2
theorem BK {k:List UInt8}:∀{L:List En} (i:Nat),k∉iE L→Cn k i L=[]
 |[],_,_=>rfl
 |e::L,i,h=>by
  have h:k∉(cU (pM e)).map gH++iE L:=h;rw[ck,not_or]at h;simp only[Cn];rw[BK (i+1) h.2,iX];unfold EW;rw[List.filter_eq_nil_iff.2 fun t ht=>by simp;intro e';exact h.1 (ca.2 ⟨t,ht,e'⟩)];rfl
end Go.K
namespace Go.K
def RT.ptr {α:Type} (A:RT α) (hn:0<A.n:=by decide):RT α where
 n:=1
 agg:=false
 R:=fun M w x vs=>∃b o us,vs=[.pointer (some ⟨b,o,none⟩)]∧¬M b∧A.R M w x us∧w.rangeAt b o us
 len:=by rintro _ _ x vs ⟨b,o,us,rfl,_⟩;rfl
 one:=by rintro _ _ x vs ⟨b,o,us,rfl,_⟩ v hv;simp at hv;subst hv;rfl
 le:=by
  rintro M w M' w' x vs hl ⟨b,o,us,h1,h2,h3,h4⟩;have hp:0<us.length:=by rw[A.len h3];exact hn
  have hc:=h4 0 (us[0]'hp) (au hp);exact⟨b,o,us,h1,(hl b (World.block_lt_of_cell? w _ hc) h2).1,A.le hl h3,sx hl h2 h4⟩
theorem j0 {α:Type} {A:RT α} {hn:0<A.n} {M:aC} {w:World} {x:α} {v:Value}:(A.ptr hn).V M w x v↔dg A M w v x:=
 ⟨fun⟨vs,⟨b,o,us,h1,h2,h3,h4⟩,h5⟩=>⟨b,o,us,by subst h1;exact h5,h2,h3,h4⟩,fun⟨b,o,us,h1,h2,h3,h4⟩=>⟨[v],⟨b,o,us,by rw[h1],h2,h3,h4⟩,rfl⟩⟩
abbrev Di:=List (List UInt8)×List Li
abbrev Se:=List Int×List Int×Di
abbrev RT.di:RT Di:=RT.pair (RT.str.sl) (((RT.li).ptr).sl)
abbrev RT.se:RT Se:=RT.pair ((RT.int .i64).sl) (RT.pair ((RT.int .i64).sl) ((RT.di).ptr))
theorem V8:Part RT.di (RT.str.sl) (fun p=>p.1) 0:=mR _ _
theorem di1:Part RT.di (((RT.li).ptr).sl) (fun p=>p.2) 1:=iA _ _
theorem se0:Part RT.se ((RT.int .i64).sl) (fun p=>p.1) 0:=mR _ _
theorem se1:Part RT.se ((RT.int .i64).sl) (fun p=>p.2.1) 1:=(iA ((RT.int .i64).sl) (RT.pair ((RT.int .i64).sl) ((RT.di).ptr))).trans (mR _ _)
theorem se2:Part RT.se ((RT.di).ptr) (fun p=>p.2.2) 2:=(iA ((RT.int .i64).sl) (RT.pair ((RT.int .i64).sl) ((RT.di).ptr))).trans (iA ((RT.int .i64).sl) ((RT.di).ptr))
abbrev Pa:=List Int×List Int×List (List UInt8)×List (List Po)
abbrev RT.pa:RT Pa:=RT.pair ((RT.int .i64).sl) (RT.pair ((RT.int .i64).sl) (RT.pair (RT.str.sl) (((RT.po).sl).sl)))
theorem pa0:Part RT.pa ((RT.int .i64).sl) (fun p=>p.1) 0:=mR _ _
theorem pa1:Part RT.pa ((RT.int .i64).sl) (fun p=>p.2.1) 1:=(iA ((RT.int .i64).sl) (RT.pair ((RT.int .i64).sl) (RT.pair (RT.str.sl) (((RT.po).sl).sl)))).trans (mR _ _)
theorem pa2:Part RT.pa (RT.str.sl) (fun p=>p.2.2.1) 2:=((iA ((RT.int .i64).sl) (RT.pair ((RT.int .i64).sl) (RT.pair (RT.str.sl) (((RT.po).sl).sl)))).trans (iA ((RT.int .i64).sl) (RT.pair (RT.str.sl) (((RT.po).sl).sl)))).trans (mR _ _)
theorem pa3:Part RT.pa (((RT.po).sl).sl) (fun p=>p.2.2.2) 3:=((iA ((RT.int .i64).sl) (RT.pair ((RT.int .i64).sl) (RT.pair (RT.str.sl) (((RT.po).sl).sl)))).trans (iA ((RT.int .i64).sl) (RT.pair (RT.str.sl) (((RT.po).sl).sl)))).trans (iA _ _)
theorem ad5 {M:aC} {w:World} {x:Se} {a b c:Value} (h0:((RT.int .i64).sl).V M w x.1 a) (h1:((RT.int .i64).sl).V M w x.2.1 b) (h2:dg RT.di M w c x.2.2):RT.se.V M w x (.agg [a,b,c].toArray):=
 ⟨[a,b,c],⟨[a],[b,c],rfl,mi h0 rfl rfl,[b],[c],rfl,mi h1 rfl rfl,mi (j0.2 h2) rfl rfl⟩,rfl⟩
theorem Ya {M:aC} {w:World} {x:Pa} {a b c d:Value} (h0:((RT.int .i64).sl).V M w x.1 a) (h1:((RT.int .i64).sl).V M w x.2.1 b) (h2:(RT.str.sl).V M w x.2.2.1 c) (h3:(((RT.po).sl).sl).V M w x.2.2.2 d):RT.pa.V M w x (.agg [a,b,c,d].toArray):=
 ⟨[a,b,c,d],⟨[a],[b,c,d],rfl,mi h0 rfl rfl,[b],[c,d],rfl,mi h1 rfl rfl,[c],[d],rfl,mi h2 rfl rfl,mi h3 rfl rfl⟩,rfl⟩
theorem BL {α:Type} {A:RT α} (hg:A.agg=true) {M:aC} {w:World} {x:α} {vs:List Value} (h:A.V M w x (.agg vs.toArray)):∀u∈vs,u.oneCell'=true:=by
 obtain⟨us,h1,h2⟩:=h
 have:vs=us:=by
  unfold RT.val at h2;rw[if_pos hg]at h2;injection h2 with h2
  simpa using congrArg Array.toList h2
 subst this;exact A.one h1
theorem dV.free {α:Type} {A:RT α} (hA:∀M w M' w' x vs,A.R M w x vs→A.R M' w' x vs) {M M':aC} {w w':World}:∀{xs:List α} {C:List Value},dV A M w xs C→dV A M' w' xs C
 |[],_,h=>h
 |x::xs,C,h=>by
  obtain⟨vs,r,h1,h2,h3⟩:=h;exact⟨vs,r,h1,hA _ _ _ _ _ _ h2,dV.free hA h3⟩
theorem Own.tell {α:Type} {A:RT α} {hn:0<A.n} (hA:∀M w M' w' x vs,A.R M w x vs→A.R M' w' x vs) {e:TypeId} {M M0:aC} {w:World} {base:Nat} {v:Value} {xs:List α} (h:Own A e M w base v xs) (hb:∀b,v.ownBlock=some b→¬M0 b) (hlen:xs.length≤140737488355328):(A.sl hn).V M0 w xs v:=by
 obtain⟨⟨C,hr,ha⟩,hm⟩:=h;have h':Own A e (fun b=>v.ownBlock=some b∨M0 b) w base v xs:=⟨⟨C,hr,dV.free hA ha⟩,fun b hb=> .inl hb⟩;exact h'.sl (fun b _ hn=>⟨fun h=>hn (.inr h),rfl⟩) hb hlen
end Go.K
namespace Go.K
open Go.Maps (Keyed)
section
variable {P:Program} {r:Option Nat} {n:Nat} {L:Sl} {ds:List Deferred} {w:World} {K:Kt} {ops:Array Oper} {rest:List Oper} {d:Nat} {x y z:Operand} {ty:TypeId} {pos:String} {af:Array Edge}
variable {kt:TypeId} {M:aC} {b clock:Nat} {es:List MapEntry}
theorem fH.T3 (h:fH P kt w b es clock) {i s:Nat} {key v0 val:Value} (hi:es[i]? =some ⟨key,v0,s⟩) {w':World} (hw:w'.heap[b]? =some (.map (es.set i ⟨key,val,s⟩).toArray clock)):
  fH P kt w' b (es.set i ⟨key,val,s⟩) clock∧(es.set i ⟨key,val,s⟩).map (·.key)=es.map (·.key)∧∀zv jq v',eh zv (es.set i ⟨key,val,s⟩) jq v'↔(jq=key∧v'=val)∨(jq≠key∧eh zv es jq v'):=by
 have oN:=(an.1 hi).1;have kq:(⟨key,v0,s⟩:MapEntry)∈es:=aA hi;obtain⟨pI,vw⟩:∃pI,pI=es.set i ⟨key,val,s⟩:=⟨_,rfl⟩;rw[←vw]at hw ⊢
 have iY:∀j e',pI[j]? =some e'→(j=i∧e'=⟨key,val,s⟩)∨(j≠i∧es[j]? =some e'):=fun j e' hj=>by
  rw[vw,du]at hj
  split at hj
  ·rename_i ji
   left;exact⟨ji.symm,by simpa[oN]using hj.symm⟩
  ·rename_i ji
   exact .inr ⟨fun e=>ji e.symm,hj⟩
 have pJ:pI.map (·.key)=es.map (·.key):=by
  rw[vw,List.map_set];apply fe;intro j;rw[du]
  split
  ·rename_i ji
   subst ji;have e:=(an.1 hi).2;simp[oN,e]
  ·rfl
 have Ld:pI.map (·.born)=es.map (·.born):=by
  rw[vw,List.map_set];apply fe;intro j;rw[du]
  split
  ·rename_i ji
   subst ji;have e:=(an.1 hi).2;simp[oN,e]
  ·rfl
 have eH:∀e'∈pI,(e'=⟨key,val,s⟩)∨(e'∈es∧e'.key≠key):=fun e' qB=>by
  obtain⟨j,hj⟩:=bm.1 qB;rcases iY j e' hj with⟨_,e⟩|⟨eN,tH⟩
  ·exact .inl e
  ·refine .inr ⟨aA tH,fun e=>eN ?_⟩;rcases eE j i with h1|h1|h1
   ·exact absurd e (iz h.keys tH hi h1)
   ·exact h1
   ·exact absurd e.symm (iz h.keys hi tH h1)
 have Lg:(⟨key,val,s⟩:MapEntry)∈pI:=aA (i:=i) (by rw[vw,du];simp[oN])
 have hold:∀e'∈es,e'.key≠key→e'∈pI:=fun e' qB eN=>by
  obtain⟨j,hj⟩:=bm.1 qB;refine aA (i:=j) ?_;rw[vw,du,if_neg]
  ·exact hj
  ·rintro rfl;rw[hi]at hj;cases hj;exact eN rfl
 refine⟨⟨hw,?_,fun e' qB=>?_,?_,fun e' qB=>?_⟩,pJ,fun zv jq v'=>?_⟩
 ·have:=cy.2 h.born;rw[←Ld]at this;exact cy.1 this
 ·rcases eH e' qB with e|⟨h1,_⟩
  ·rw[e];exact(h.lt _ kq:s<clock)
  ·exact h.lt _ h1
 ·have:=cy.2 h.keys;rw[←pJ]at this;exact cy.1 this
 ·rcases eH e' qB with e|⟨h1,_⟩
  ·rw[e];exact(h.ok _ kq:∃l,keyOf P kt key=some l)
  ·exact h.ok _ h1
 ·constructor
  ·rintro(⟨e',qB,hk,hv⟩|⟨h1,h2⟩)
   ·rcases eH e' qB with e|⟨h3,h4⟩
    ·subst e;exact .inl ⟨hk.symm,hv⟩
    ·exact .inr ⟨by rw[←hk];exact h4,.inl ⟨e',h3,hk,hv⟩⟩
   ·have eN:jq≠key:=fun e=>h1 _ Lg e.symm
    exact .inr ⟨eN,.inr ⟨fun e' qB=>fun e=>by
     by_cases h5:e'.key=key
     ·exact eN (e.symm.trans h5)
     ·exact h1 e' (hold e' qB h5) e,h2⟩⟩
  ·rintro(⟨rfl,rfl⟩|⟨eN,⟨e',qB,hk,hv⟩|⟨h1,h2⟩⟩)
   ·exact .inl ⟨_,Lg,rfl,rfl⟩
   ·exact .inl ⟨e',hold e' qB (by rw[hk];exact eN),hk,hv⟩
   ·exact .inr ⟨fun e' qB=>by
     rcases eH e' qB with e|⟨h3,_⟩
     ·rw[e];exact fun e=>eN e.symm
     ·exact h1 e' h3,h2⟩
theorem eh.put {key val:Value} {s:Nat} (hn:∀e∈es,e.key≠key) (zv jq v':Value):eh zv (es++[⟨key,val,s⟩]) jq v'↔(jq=key∧v'=val)∨(jq≠key∧eh zv es jq v'):=by
 constructor
 ·rintro(⟨e,he,hk,hv⟩|⟨h1,h2⟩)
  ·rcases ck.1 he with he|he
   ·exact .inr ⟨by rw[←hk];exact hn e he,.inl ⟨e,he,hk,hv⟩⟩
   ·obtain rfl:=bE.1 he;exact .inl ⟨hk.symm,hv⟩
  ·exact .inr ⟨fun e=>h1 ⟨key,val,s⟩ (by simp) e.symm,.inr ⟨fun e he=>h1 e (gy _ he),h2⟩⟩
 ·rintro(⟨rfl,rfl⟩|⟨eN,⟨e,he,hk,hv⟩|⟨h1,h2⟩⟩)
  ·exact .inl ⟨⟨_,_,s⟩,by simp,rfl,rfl⟩
  ·exact .inl ⟨e,gy _ he,hk,hv⟩
  ·refine .inr ⟨fun e he=>?_,h2⟩;rcases ck.1 he with he|he
   ·exact h1 e he
   ·obtain rfl:=bE.1 he;exact fun e=>eN e.symm
theorem Rg.Pd {t e:TypeId} {key val:Value} {kl:Lit} (ht:P.underlying t=some (.map kt e)) (Kk:Keyed P kt) (hx:ev L x=some (.map (some b))) (hy:ev L y=some key) (hz:ev L z=some val) (lI:keyOf P kt key=some kl) (h:fH P kt w b es clock) (hm:M b)
  (k:∀w' pI FK,fH P kt w' b pI FK→((pI.map (·.key)=es.map (·.key)∧∃e∈es,e.key=key)∨(pI.map (·.key)=es.map (·.key)++[key]∧∀e∈es,e.key≠key))→(∀zv jq v',eh zv pI jq v'↔(jq=key∧v'=val)∨(jq≠key∧eh zv es jq v'))→Step M w M w' (fun k=>k=b)→Rg P r n ops rest L ds w' K):
  Rg P r n ops ({dst:=none,op:= .mapUpdate t x y z,type:=ty,pos,after:=af,guard:=none}::rest) L ds w K:=by
 have dO:=ak h.at_;rcases Kk.find w lI es h.ok with⟨h1,h2⟩|⟨j,e0,h1,h2,h3⟩
 ·have hw:({w with heap:=w.heap.setIfInBounds b (.map (es.toArray.push ⟨key,val,clock⟩) (clock+1))}:World).heap[b]? =some (.map (es++([⟨key,val,clock⟩]:List MapEntry)).toArray (clock+1)):=by
   simp[dz,dO]
  refine .Qq (fun _ h=>by cases h) rfl rfl _ (fun ρ hρ=>?_) (k _ _ _ (h.push lI h2 hw) (Or.inr ⟨by simp,h2⟩) (eh.put h2) (jn M hm));simp only[execOp,hρ x _ hx,hρ y _ hy,hρ z _ hz,Instr.mapUpdate,ch,run_underlying ht,cB,dL h.at_,Kk.check w false lI,h1,run_setObj_map h.at_];simp
 ·have he:e0∈es:=aA h2;obtain⟨k0,v0,s0⟩:=e0;simp only at h3;subst h3;have hj:es.toArray[j]? =some ⟨k0,v0,s0⟩:=by simpa using h2
  have Lc:es.toArray.modify j (fun e=>{e with key:=k0,val:=val})=(es.set j ⟨k0,val,s0⟩).toArray:=by
   apply Array.ext_getElem?;intro i;rw[jF];simp only[il,du]
   split
   ·rename_i Q4
    subst Q4;have:=(an.1 h2).1;rw[h2];simp[this]
   ·rfl
  have hw:({w with heap:=w.heap.setIfInBounds b (.map (es.set j ⟨k0,val,s0⟩).toArray clock)}:World).heap[b]? =some (.map (es.set j ⟨k0,val,s0⟩).toArray clock):=by simp[dz,dO]
  obtain⟨hW,tD,Ay⟩:=h.T3 h2 hw
  have kC:(Instr.keyThatStays ((Option.map (fun(e:MapEntry)=>e.key) es.toArray[j]?).getD k0) k0).run P w= .ok k0 w:=by
   rw[hj];simp only[cV,Option.getD_some];exact Kk.stays w lI
  refine .Qq (fun _ h=>by cases h) rfl rfl _ (fun ρ hρ=>?_) (k _ _ clock hW (Or.inl ⟨tD,_,he,rfl⟩) Ay (jn M hm));simp only[execOp,hρ x _ hx,hρ y _ hy,hρ z _ hz,Instr.mapUpdate,ch,run_underlying ht,cB,dL h.at_,Kk.check w false lI,h1,kC,Lc,run_setObj_map h.at_];simp
theorem DF {t e:TypeId} {zv key:Value} {size bytes:Nat} {kl:Lit} (ht:P.underlying t=some (.map kt e)) (Kk:Keyed P kt) (hi:TI P e zv size bytes) (lI:keyOf P kt key=some kl) (h:fH P kt w b es clock):
  ∃v,eh zv es key v∧∀(w:World) (ρ:Operand→Value) (dst:Option Tmp) (gd:Option (Nat×Bool)),ρ x= .map (some b)→ρ y=key→fH P kt w b es clock→(execOp ρ {dst,op:= .lookup t x y false,type:=ty,pos,after:=af,guard:=gd}).run P w= .ok (.value v) w:=by
 rcases Kk.find w lI es h.ok with⟨h1,h2⟩|⟨j,e0,h1,h2,h3⟩
 ·refine⟨zv,Or.inr ⟨h2,rfl⟩,fun w ρ dst gd hx hy h=>?_⟩;obtain⟨inf,i1,i2,_,_⟩:=hi.get;have hz:(zeroValue e).run P w= .ok zv w:=by simp[zeroValue,typeInfo,i1,i2]
  rcases Kk.find w lI es h.ok with⟨h1,_⟩|⟨j,e0,_,g2,g3⟩
  ·simp only[execOp,hx,hy,Instr.lookup,ch,run_underlying ht,cB,dL h.at_,Sem.run_pure,Kk.check w _ lI,h1,hz];simp
  ·exact absurd g3 (h2 e0 (aA g2))
 ·refine⟨e0.val,Or.inl ⟨e0,aA h2,h3,rfl⟩,fun w ρ dst gd hx hy h=>?_⟩;rcases Kk.find w lI es h.ok with⟨_,g2⟩|⟨j',e1,g1,g2,g3⟩
  ·exact absurd h3 (g2 e0 (aA h2))
  ·have:e1=e0:=h.Hi (aA g2) (aA h2) (g3.trans h3.symm);subst this;simp only[execOp,hx,hy,Instr.lookup,ch,run_underlying ht,cB,dL h.at_,Sem.run_pure,Kk.check w _ lI,g1];simp
theorem bZ.tU {N:aC} {t e:TypeId} {zv key:Value} {size bytes:Nat} {kl:Lit} {dst:Option Tmp} {gd:Option (Nat×Bool)} (ht:P.underlying t=some (.map kt e)) (Kk:Keyed P kt) (hi:TI P e zv size bytes) (hx:ev L x=some (.map (some b))) (hy:ev L y=some key) (lI:keyOf P kt key=some kl) (h:fH P kt w b es clock) (hn: ¬N b):
  bZ P N w L {dst,op:= .lookup t x y false,type:=ty,pos,after:=af,guard:=gd}:=fun ρ hρ v w' hk hr=>by
 obtain⟨v0,_,gT⟩:=DF (x:=x) (y:=y) (ty:=ty) (pos:=pos) (af:=af) ht Kk hi lI h;have h':fH P kt w' b es clock:=⟨(hk.2 b (ak h.at_) hn).trans h.at_,h.born,h.lt,h.keys,h.ok⟩;rw[gT w ρ dst gd (hρ x _ hx) (hρ y _ hy) h]at hr;rw[gT w' ρ dst gd (hρ x _ hx) (hρ y _ hy) h'];injection hr with h1 h2
 rw[h1]
end
end Go.K
namespace Go.Proofs
open Go.Shelf
def Tryz.AM:Go.Shelf.Ren:=⟨fun|7=>54|10=>101|n=>n,fun|23=>89|26=>3|3=>97|28=>115|0=>0|27=>114|33=>104|4=>4|n=>n,fun|n=>n⟩
theorem Tryz.Yb:Go.Proofs.SlLaysZI.n7 Tryz.prog Tryz.AM:={
 mixed:=by kernel_rfl
 f7:=⟨Tryz.f54.name,by decide,Tryz.func54.trans (congrArg some (by kernel_rfl))⟩
 f10:=⟨Tryz.f101.name,by decide,Tryz.func101.trans (congrArg some (by kernel_rfl))⟩
 t0:=fJ
 a0:=lJ
 z0:=j6
 v0:=gI
 t4:=iN
 a4:=rI
 z4:=nL
 v4:=jw
 t23:=Tryz.underlying89
 a23:=Tryz.isAgg89
 z23:=Tryz.sizeOf89
 v23:=Tryz.zeroValue89
 t26:=aw
 a26:=lK
 z26:=j7
 v26:=gJ
 t27:=Tryz.underlying114
 a27:=Tryz.isAgg114
 z27:=Tryz.sizeOf114
 v27:=Tryz.zeroValue114
 t28:=Tryz.underlying115
 a28:=Tryz.isAgg115
 z28:=Tryz.sizeOf115
 v28:=Tryz.zeroValue115
 t33:=Tryz.underlying104
 a33:=Tryz.isAgg104
 z33:=Tryz.sizeOf104
 v33:=Tryz.zeroValue104}
def Tryz.wG:Go.Shelf.Ren:=⟨fun|6=>53|8=>99|9=>100|11=>152|13=>115|12=>153|23=>172|24=>173|14=>204|15=>205|16=>206|17=>207|18=>208|19=>209|20=>210|21=>211|22=>212|25=>259|26=>218|27=>219|28=>260|29=>261|30=>116|31=>286|n=>n,fun|26=>3|28=>115|24=>37|0=>0|3=>3|37=>189|48=>257|50=>190|4=>4|40=>251|39=>250|45=>202|5=>5|9=>9|51=>296|55=>300|57=>327|58=>328|33=>104|n=>n,fun|n=>n⟩
theorem Tryz.Pe:Go.Proofs.SlLaysZI.n6 Tryz.prog Tryz.wG:={
 mixed:=by kernel_rfl
 f6:=⟨Tryz.f53.name,by decide,Tryz.func53.trans (congrArg some (by kernel_rfl))⟩
 f8:=⟨Tryz.f99.name,by decide,Tryz.func99.trans (congrArg some (by kernel_rfl))⟩
 f11:=⟨Tryz.f152.name,by decide,Tryz.func152.trans (congrArg some (by kernel_rfl))⟩
 t0:=fJ
 a0:=lJ
 z0:=j6
 v0:=gI
 t24:=ao
 a24:=Tryz.isAgg37
 z24:=Tryz.sizeOf37
 v24:=Tryz.zeroValue37
 t26:=aw
 a26:=lK
 z26:=j7
 v26:=gJ
 t28:=Tryz.underlying115
 a28:=Tryz.isAgg115
 z28:=Tryz.sizeOf115
 v28:=Tryz.zeroValue115
 i26:=by kernel_rfl}
def Tryz.IG:Go.Shelf.Ren:=⟨fun|5=>100|8=>115|7=>153|19=>172|20=>173|10=>204|11=>205|12=>206|13=>207|14=>208|15=>209|16=>210|17=>211|18=>212|30=>259|31=>218|32=>219|33=>260|34=>261|35=>116|40=>286|n=>n,fun|23=>37|25=>3|3=>3|32=>189|22=>37|0=>0|44=>257|46=>190|4=>4|36=>251|35=>250|41=>202|5=>5|9=>9|53=>296|57=>300|63=>327|64=>328|n=>n,fun|n=>n⟩
theorem Tryz.Rb:Go.Proofs.SlLaysM.n5 Tryz.prog Tryz.IG:={
 mixed:=by kernel_rfl
 f5:=⟨Tryz.f100.name,by decide,Tryz.func100.trans (congrArg some (by kernel_rfl))⟩
 f7:=⟨Tryz.f153.name,by decide,Tryz.func153.trans (congrArg some (by kernel_rfl))⟩
 f8:=Tryz.func115.trans (congrArg some (by kernel_rfl))
 f10:=⟨Tryz.f204.name,by decide,Tryz.func204.trans (congrArg some (by kernel_rfl))⟩
 f11:=⟨Tryz.f205.name,by decide,Tryz.func205.trans (congrArg some (by kernel_rfl))⟩
 f12:=⟨Tryz.f206.name,by decide,Tryz.func206.trans (congrArg some (by kernel_rfl))⟩
 f13:=⟨Tryz.f207.name,by decide,Tryz.func207.trans (congrArg some (by kernel_rfl))⟩
 f14:=⟨Tryz.f208.name,by decide,Tryz.func208.trans (congrArg some (by kernel_rfl))⟩
 f15:=⟨Tryz.f209.name,by decide,Tryz.func209.trans (congrArg some (by kernel_rfl))⟩
 f16:=⟨Tryz.f210.name,by decide,Tryz.func210.trans (congrArg some (by kernel_rfl))⟩
 f17:=⟨Tryz.f211.name,by decide,Tryz.func211.trans (congrArg some (by kernel_rfl))⟩
 f18:=⟨Tryz.f212.name,by decide,Tryz.func212.trans (congrArg some (by kernel_rfl))⟩
 f19:=Tryz.func172.trans (congrArg some (by kernel_rfl))
 f20:=Tryz.func173.trans (congrArg some (by kernel_rfl))
 f30:=⟨Tryz.f259.name,by decide,Tryz.func259.trans (congrArg some (by kernel_rfl))⟩
 f31:=Tryz.func218.trans (congrArg some (by kernel_rfl))
 f32:=Tryz.func219.trans (congrArg some (by kernel_rfl))
 f33:=⟨Tryz.f260.name,by decide,Tryz.func260.trans (congrArg some (by kernel_rfl))⟩
 f34:=⟨Tryz.f261.name,by decide,Tryz.func261.trans (congrArg some (by kernel_rfl))⟩
 f35:=⟨Tryz.f116.name,by decide,Tryz.func116.trans (congrArg some (by kernel_rfl))⟩
 f40:=⟨Tryz.f286.name,by decide,Tryz.func286.trans (congrArg some (by kernel_rfl))⟩
 t0:=fJ
 a0:=lJ
 z0:=j6
 v0:=gI
 t3:=aw
 a3:=lK
 z3:=j7
 v3:=gJ
 t4:=iN
 a4:=rI
 z4:=nL
 v4:=jw
 t5:=cx
 a5:=Tryz.isAgg5
 z5:=Tryz.sizeOf5
 v5:=tw
 t9:=aH
 a9:=lL
 z9:=j8
 v9:=gK
 t22:=ao
 a22:=Tryz.isAgg37
 z22:=Tryz.sizeOf37
 v22:=Tryz.zeroValue37
 t23:=ao
 a23:=Tryz.isAgg37
 z23:=Tryz.sizeOf37
 v23:=Tryz.zeroValue37
 t25:=aw
 a25:=lK
 z25:=j7
 v25:=gJ
 t32:=jO
 a32:=Tryz.isAgg189
 z32:=Tryz.sizeOf189
 v32:=Tryz.zeroValue189
 t35:=Tryz.underlying250
 a35:=Tryz.isAgg250
 z35:=Tryz.sizeOf250
 v35:=Tryz.zeroValue250
 t36:=Tryz.underlying251
 a36:=Tryz.isAgg251
 z36:=Tryz.sizeOf251
 v36:=Tryz.zeroValue251
 t41:=Tryz.underlying202
 a41:=Tryz.isAgg202
 z41:=Tryz.sizeOf202
 v41:=Tryz.zeroValue202
 t44:=Tryz.underlying257
 a44:=Tryz.isAgg257
 z44:=Tryz.sizeOf257
 v44:=Tryz.zeroValue257
 t46:=su
 a46:=Tryz.isAgg190
 z46:=Tryz.sizeOf190
 v46:=Tryz.zeroValue190
 t53:=Tryz.underlying296
 a53:=Tryz.isAgg296
 z53:=Tryz.sizeOf296
 v53:=Tryz.zeroValue296
 t57:=Tryz.underlying300
 a57:=Tryz.isAgg300
 z57:=Tryz.sizeOf300
 v57:=Tryz.zeroValue300
 t63:=Tryz.underlying327
 a63:=Tryz.isAgg327
 z63:=Tryz.sizeOf327
 v63:=Tryz.zeroValue327
 t64:=Tryz.underlying328
 a64:=Tryz.isAgg328
 z64:=Tryz.sizeOf328
 v64:=Tryz.zeroValue328}
def Tryz.AN:Go.Shelf.Ren:=⟨fun|7=>91|10=>142|n=>n,fun|23=>151|26=>9|3=>80|28=>162|0=>0|27=>161|33=>167|4=>4|n=>n,fun|n=>n⟩
theorem Tryz.Hs:Go.Proofs.SlLaysZ.n7 Tryz.prog Tryz.AN:={
 mixed:=by kernel_rfl
 f7:=⟨Tryz.f91.name,by decide,Tryz.func91.trans (congrArg some (by kernel_rfl))⟩
 f10:=⟨Tryz.f142.name,by decide,Tryz.func142.trans (congrArg some (by kernel_rfl))⟩
 t0:=fJ
 a0:=lJ
 z0:=j6
 v0:=gI
 t4:=iN
 a4:=rI
 z4:=nL
 v4:=jw
 t23:=iF
 a23:=Tryz.isAgg151
 z23:=Tryz.sizeOf151
 v23:=Tryz.zeroValue151
 t26:=aH
 a26:=lL
 z26:=j8
 v26:=gK
 t27:=Tryz.underlying161
 a27:=Tryz.isAgg161
 z27:=Tryz.sizeOf161
 v27:=Tryz.zeroValue161
 t28:=Tryz.underlying162
 a28:=Tryz.isAgg162
 z28:=Tryz.sizeOf162
 v28:=Tryz.zeroValue162
 t33:=Tryz.underlying167
 a33:=Tryz.isAgg167
 z33:=Tryz.sizeOf167
 v33:=Tryz.zeroValue167}
def Tryz.wH:Go.Shelf.Ren:=⟨fun|6=>90|8=>140|9=>141|11=>191|13=>115|12=>192|23=>172|24=>173|14=>240|15=>241|16=>242|17=>243|18=>244|19=>245|20=>246|21=>247|22=>248|25=>280|26=>218|27=>219|28=>281|29=>282|30=>283|31=>297|n=>n,fun|26=>9|28=>162|24=>57|0=>0|3=>3|37=>189|48=>257|50=>190|4=>4|40=>251|39=>250|45=>202|5=>5|9=>9|51=>296|55=>300|57=>327|58=>328|33=>167|n=>n,fun|n=>n⟩
theorem Tryz.Pf:Go.Proofs.SlLaysZ.n6 Tryz.prog Tryz.wH:={
 mixed:=by kernel_rfl
 f6:=⟨Tryz.f90.name,by decide,Tryz.func90.trans (congrArg some (by kernel_rfl))⟩
 f8:=⟨Tryz.f140.name,by decide,Tryz.func140.trans (congrArg some (by kernel_rfl))⟩
 f11:=⟨Tryz.f191.name,by decide,Tryz.func191.trans (congrArg some (by kernel_rfl))⟩
 t0:=fJ
 a0:=lJ
 z0:=j6
 v0:=gI
 t24:=aQ
 a24:=Tryz.isAgg57
 z24:=Tryz.sizeOf57
 v24:=Tryz.zeroValue57
 t26:=aH
 a26:=lL
 z26:=j8
 v26:=gK
 t28:=Tryz.underlying162
 a28:=Tryz.isAgg162
 z28:=Tryz.sizeOf162
 v28:=Tryz.zeroValue162
 i26:=by kernel_rfl}
def Tryz.IH:Go.Shelf.Ren:=⟨fun|6=>141|8=>115|9=>192|19=>172|20=>173|21=>240|22=>241|23=>242|24=>243|25=>244|26=>245|27=>246|28=>247|29=>248|36=>280|31=>218|32=>219|37=>281|38=>282|39=>283|41=>297|n=>n,fun|27=>57|29=>9|3=>3|32=>189|26=>57|0=>0|44=>257|46=>190|4=>4|36=>251|35=>250|41=>202|5=>5|9=>9|53=>296|57=>300|63=>327|64=>328|n=>n,fun|n=>n⟩
theorem Tryz.Ht:Go.Proofs.SlLaysM.n6 Tryz.prog Tryz.IH:={
 mixed:=by kernel_rfl
 f6:=⟨Tryz.f141.name,by decide,Tryz.func141.trans (congrArg some (by kernel_rfl))⟩
 f8:=Tryz.func115.trans (congrArg some (by kernel_rfl))
 f9:=⟨Tryz.f192.name,by decide,Tryz.func192.trans (congrArg some (by kernel_rfl))⟩
 f19:=Tryz.func172.trans (congrArg some (by kernel_rfl))
 f20:=Tryz.func173.trans (congrArg some (by kernel_rfl))
 f21:=⟨Tryz.f240.name,by decide,Tryz.func240.trans (congrArg some (by kernel_rfl))⟩
 f22:=⟨Tryz.f241.name,by decide,Tryz.func241.trans (congrArg some (by kernel_rfl))⟩
 f23:=⟨Tryz.f242.name,by decide,Tryz.func242.trans (congrArg some (by kernel_rfl))⟩
 f24:=⟨Tryz.f243.name,by decide,Tryz.func243.trans (congrArg some (by kernel_rfl))⟩
 f25:=⟨Tryz.f244.name,by decide,Tryz.func244.trans (congrArg some (by kernel_rfl))⟩
 f26:=⟨Tryz.f245.name,by decide,Tryz.func245.trans (congrArg some (by kernel_rfl))⟩
 f27:=⟨Tryz.f246.name,by decide,Tryz.func246.trans (congrArg some (by kernel_rfl))⟩
 f28:=⟨Tryz.f247.name,by decide,Tryz.func247.trans (congrArg some (by kernel_rfl))⟩
 f29:=⟨Tryz.f248.name,by decide,Tryz.func248.trans (congrArg some (by kernel_rfl))⟩
 f31:=Tryz.func218.trans (congrArg some (by kernel_rfl))
 f32:=Tryz.func219.trans (congrArg some (by kernel_rfl))
 f36:=⟨Tryz.f280.name,by decide,Tryz.func280.trans (congrArg some (by kernel_rfl))⟩
 f37:=⟨Tryz.f281.name,by decide,Tryz.func281.trans (congrArg some (by kernel_rfl))⟩
 f38:=⟨Tryz.f282.name,by decide,Tryz.func282.trans (congrArg some (by kernel_rfl))⟩
 f39:=⟨Tryz.f283.name,by decide,Tryz.func283.trans (congrArg some (by kernel_rfl))⟩
 f41:=⟨Tryz.f297.name,by decide,Tryz.func297.trans (congrArg some (by kernel_rfl))⟩
 t0:=fJ
 a0:=lJ
 z0:=j6
 v0:=gI
 t3:=aw
 a3:=lK
 z3:=j7
 v3:=gJ
 t4:=iN
 a4:=rI
 z4:=nL
 v4:=jw
 t5:=cx
 a5:=Tryz.isAgg5
 z5:=Tryz.sizeOf5
 v5:=tw
 t9:=aH
 a9:=lL
 z9:=j8
 v9:=gK
 t26:=aQ
 a26:=Tryz.isAgg57
 z26:=Tryz.sizeOf57
 v26:=Tryz.zeroValue57
 t27:=aQ
 a27:=Tryz.isAgg57
 z27:=Tryz.sizeOf57
 v27:=Tryz.zeroValue57
 t29:=aH
 a29:=lL
 z29:=j8
 v29:=gK
 t32:=jO
 a32:=Tryz.isAgg189
 z32:=Tryz.sizeOf189
 v32:=Tryz.zeroValue189
 t35:=Tryz.underlying250
 a35:=Tryz.isAgg250
 z35:=Tryz.sizeOf250
 v35:=Tryz.zeroValue250
 t36:=Tryz.underlying251
 a36:=Tryz.isAgg251
 z36:=Tryz.sizeOf251
 v36:=Tryz.zeroValue251
 t41:=Tryz.underlying202
 a41:=Tryz.isAgg202
 z41:=Tryz.sizeOf202
 v41:=Tryz.zeroValue202
 t44:=Tryz.underlying257
 a44:=Tryz.isAgg257
 z44:=Tryz.sizeOf257
 v44:=Tryz.zeroValue257
 t46:=su
 a46:=Tryz.isAgg190
 z46:=Tryz.sizeOf190
 v46:=Tryz.zeroValue190
 t53:=Tryz.underlying296
 a53:=Tryz.isAgg296
 z53:=Tryz.sizeOf296
 v53:=Tryz.zeroValue296
 t57:=Tryz.underlying300
 a57:=Tryz.isAgg300
 z57:=Tryz.sizeOf300
 v57:=Tryz.zeroValue300
 t63:=Tryz.underlying327
 a63:=Tryz.isAgg327
 z63:=Tryz.sizeOf327
 v63:=Tryz.zeroValue327
 t64:=Tryz.underlying328
 a64:=Tryz.isAgg328
 z64:=Tryz.sizeOf328
 v64:=Tryz.zeroValue328}
end Go.Proofs
namespace Go.K
open Go.Proofs
set_option maxRecDepth 10000
open Go.RowKit Go.Maps Go.Sort Go.Shelf
theorem T4 (m:Nat):AnyZI.SortsIn Tryz.prog Tryz.wG Fence.wide m:=
 ⟨fun fP off cap ss W hH hblk jS=>callsIn_wide.2 (AnyM.slices_Sort_int Tryz.Rb fP off cap ss W hH hblk jS),
  fun p cap W=>callsIn_wide.2 (AnyM.slices_Sort_int_none Tryz.Rb p cap W)⟩
theorem Pg {R:Value→Option (DU×List MemPlace)} {M:aC} {w:World} {b bb:Nat} {m:List (Lit×DU)} (h:SG Tryz.prog 3 R M w b m) (LB:w.cell? ⟨bb,0,none⟩=some (.map (some b))) (hl:m.length≤1099511627776):
  Spec Tryz.prog 53 #[.func (.func 101) #[] #[.pointer (some ⟨bb,0,none⟩)]] w (fun v w'=>(∃ss:List Int,ss.Perm (intKeys (DataW.map m))∧w'.ownsRow w.heap.size 3 1 v ss.length ((ss.mergeSort (fun x y=>decide (x≤y))).map encZ)∧(v= .slice none 0 0↔ss=[]))∧Step M w M w' aD):=by
 have T5:SeqGives Fence.wide 2 Tryz.prog 101 #[.pointer (some ⟨bb,0,none⟩)] encZ (fun ss=>ss.Perm (intKeys (DataW.map m))) (Maps.size (DataW.map m)) w:=
  AnyZI.keys_gives (ρ:=Tryz.AM) {Tryz.Yb with} Fence.wide _ trivial rfl (by omega) bb b m.length (DataW.map m) _ (World.block_lt_of_cell? w _ LB) LB h.own
 have jS:Maps.size (DataW.map m)=m.length:=rfl;have cS:=AnyZI.sorted_in Tryz.Pe Fence.wide 5 trivial trivial trivial trivial rfl (by omega) (T4 _) (enters_of Tryz.func100 (by kernel_rfl) rfl) 101 #[.pointer (some ⟨bb,0,none⟩)] trivial (enters_of Tryz.func101 (by kernel_rfl) rfl) _ _ (by rw[jS];unfold maxLen;omega) (by rw[jS];omega) _ T5;exact(callsIn_wide (n:=5)).1 (cS.mono fun e w' ⟨v,ss,h1,h2,h3,h4,h5⟩=>⟨v,h1,⟨ss,h2,h3,h4⟩,.x9 h5 M⟩)
theorem T6 (m:Nat):AnyZ.SortsIn Tryz.prog Tryz.wH Fence.wide m:=
 ⟨fun fP off cap ss W hH hblk jS=>callsIn_wide.2 (AnyM.slices_Sort_string Tryz.Ht fP off cap ss W hH hblk jS),
  fun p cap W=>callsIn_wide.2 (AnyM.slices_Sort_string_none Tryz.Ht p cap W)⟩
theorem FZ (mb:Option Nat) (w:World):Spec Tryz.prog 91 #[.map mb] w (fun v w'=>v= .func (.func 142) #[] #[.pointer (some ⟨w.heap.size,0,none⟩)]∧w'=w.alloc (.cells #[.map mb] 151)):=
 (callsIn_wide (n:=5)).1 ((AnyZ.keys_in Tryz.Hs Fence.wide 5 trivial rfl mb w).mono fun e w' ⟨h1,h2⟩=>⟨_,h1,rfl,h2⟩)
theorem BM {R:Value→Option (DU×List MemPlace)} {M:aC} {w:World} {b bb:Nat} {m:List (Lit×DU)} (h:SG Tryz.prog 9 R M w b m) (LB:w.cell? ⟨bb,0,none⟩=some (.map (some b))) (hl:m.length≤1099511627776):
  Spec Tryz.prog 90 #[.func (.func 142) #[] #[.pointer (some ⟨bb,0,none⟩)]] w (fun v w'=>(∃ss:List (List UInt8),ss.Perm (strKeys (DataW.map m))∧w'.ownsRow w.heap.size 9 1 v ss.length ((ss.mergeSort (fun x y=>decide (x≤y))).map encStr)∧(v= .slice none 0 0↔ss=[]))∧Step M w M w' aD):=by
 have T5:SeqGives Fence.wide 2 Tryz.prog 142 #[.pointer (some ⟨bb,0,none⟩)] encStr (fun ss=>ss.Perm (strKeys (DataW.map m))) (Maps.size (DataW.map m)) w:=
  AnyZ.keys_gives (ρ:=Tryz.AN) {Tryz.Hs with} Fence.wide _ trivial rfl (by omega) bb b m.length (DataW.map m) _ (World.block_lt_of_cell? w _ LB) LB h.own
 have jS:Maps.size (DataW.map m)=m.length:=rfl;have cS:=AnyZ.sorted_in Tryz.Pf Fence.wide 5 trivial trivial trivial trivial rfl (by omega) (T6 _) (enters_of Tryz.func141 (by kernel_rfl) rfl) 142 #[.pointer (some ⟨bb,0,none⟩)] trivial (enters_of Tryz.func142 (by kernel_rfl) rfl) _ _ (by rw[jS];unfold maxLen;omega) (by rw[jS];omega) _ T5;exact(callsIn_wide (n:=5)).1 (cS.mono fun e w' ⟨v,ss,h1,h2,h3,h4,h5⟩=>⟨v,h1,⟨ss,h2,h3,h4⟩,.x9 h5 M⟩)
theorem zU {w w':World} {v:Value} {t:TypeId} (h:w'=w.alloc (.cells #[v] t)):w'.cell? ⟨w.heap.size,0,none⟩=some v:=by
 subst h;exact fX (cp w _) rfl
end Go.K
namespace Go.K
open Go.Proofs
set_option maxRecDepth 10000
theorem Ph {M:aC} {w0:World} {v:Value} {b:List Fd} (hM:Lt M w0) (hv:(RT.fd.sl).V M w0 b v) (k5:b.length≤1099511627776):
  Spec Tryz.prog 190 #[v] w0 (fun v' w'=>(RT.fd.sl).V M w' b v'∧Step M w0 M w' aD):=by
 obtain⟨a,cap,pW,hc,hl,hs⟩:=iP.1 hv;refine bc (args:=[_]) (fn:=Tryz.f190) Tryz.func190 rfl (n:=8) Tryz.ntmps190 (aj (ae (ah rfl rfl (ab (aj (aj (ae (ad rfl rfl (aV (v':= .slice a b.length cap) pW (Rg.tJ bj rfl rfl rfl (ab ?_)))))))))));refine bP rfl (fun c1=>?_) (fun c1=>?_)
 ·refine aj (ae (ah rfl rfl (ab (aN ?_))))
  have hb:b=[]:=by
   rcases hs with h|⟨_,_,h,_⟩
   ·exact h
   ·rw[c1]at h;cases h
  exact aU rfl rfl ⟨by rw[hb];exact nR,ax _ _⟩
 ·refine aT (aj (ae ?_));refine Rg.sl0 bj kD M rfl (fun a0 w1 s1=>?_);refine ad rfl rfl ?_;refine Rg.qV (A:=RT.fd) (hn:=by decide) (M:=M) bj kD rfl rfl rfl rfl hv s1.le (s1.lt hM) (by omega) (fun u2 w2 xe s2=>?_);refine ah rfl rfl (ab (aN ?_));exact aU rfl rfl ⟨xe,s1.aB s2⟩
theorem yJ {M:aC} {w0:World} {v:Value} {b:List Int} (hM:Lt M w0) (hv:((RT.int .i64).sl).V M w0 b v) (k5:b.length≤1099511627776):
  Spec Tryz.prog 51 #[v] w0 (fun v' w'=>((RT.int .i64).sl).V M w' b v'∧Step M w0 M w' aD):=by
 obtain⟨a,cap,pW,hc,hl,hs⟩:=iP.1 hv;refine bc (args:=[_]) (fn:=Tryz.f51) Tryz.func51 rfl (n:=8) Tryz.ntmps51 (aj (ae (ah rfl rfl (ab (aj (aj (ae (ad rfl rfl (aV (v':= .slice a b.length cap) pW (Rg.tJ ao rfl rfl rfl (ab ?_)))))))))));refine bP rfl (fun c1=>?_) (fun c1=>?_)
 ·refine aj (ae (ah rfl rfl (ab (aN ?_))))
  have hb:b=[]:=by
   rcases hs with h|⟨_,_,h,_⟩
   ·exact h
   ·rw[c1]at h;cases h
  exact aU rfl rfl ⟨by rw[hb];exact nR,ax _ _⟩
 ·refine aT (aj (ae ?_));refine Rg.sl0 ao I3 M rfl (fun a0 w1 s1=>?_);refine ad rfl rfl ?_;refine Rg.qV (A:=(RT.int .i64)) (hn:=by decide) (M:=M) ao I3 rfl rfl rfl rfl hv s1.le (s1.lt hM) (by omega) (fun u2 w2 xe s2=>?_);refine ah rfl rfl (ab (aN ?_));exact aU rfl rfl ⟨xe,s1.aB s2⟩
theorem LC {M:aC} {w0:World} {v:Value} {b:List (List UInt8)} (hM:Lt M w0) (hv:(RT.str.sl).V M w0 b v) (k5:b.length≤1099511627776):
  Spec Tryz.prog 199 #[v] w0 (fun v' w'=>(RT.str.sl).V M w' b v'∧Step M w0 M w' aD):=by
 obtain⟨a,cap,pW,hc,hl,hs⟩:=iP.1 hv;refine bc (args:=[_]) (fn:=Tryz.f199) Tryz.func199 rfl (n:=8) Tryz.ntmps199 (aj (ae (ah rfl rfl (ab (aj (aj (ae (ad rfl rfl (aV (v':= .slice a b.length cap) pW (Rg.tJ aQ rfl rfl rfl (ab ?_)))))))))));refine bP rfl (fun c1=>?_) (fun c1=>?_)
 ·refine aj (ae (ah rfl rfl (ab (aN ?_))))
  have hb:b=[]:=by
   rcases hs with h|⟨_,_,h,_⟩
   ·exact h
   ·rw[c1]at h;cases h
  exact aU rfl rfl ⟨by rw[hb];exact nR,ax _ _⟩
 ·refine aT (aj (ae ?_));refine Rg.sl0 aQ I9 M rfl (fun a0 w1 s1=>?_);refine ad rfl rfl ?_;refine Rg.qV (A:=RT.str) (hn:=by decide) (M:=M) aQ I9 rfl rfl rfl rfl hv s1.le (s1.lt hM) (by omega) (fun u2 w2 xe s2=>?_);refine ah rfl rfl (ab (aN ?_));exact aU rfl rfl ⟨xe,s1.aB s2⟩
theorem Pj {M:aC} {w0:World} {v:Value} {b:List Li} (hM:Lt M w0) (hv:(((RT.li).ptr).sl).V M w0 b v) (k5:b.length≤1099511627776):
  Spec Tryz.prog 200 #[v] w0 (fun v' w'=>(((RT.li).ptr).sl).V M w' b v'∧Step M w0 M w' aD):=by
 obtain⟨a,cap,pW,hc,hl,hs⟩:=iP.1 hv;refine bc (args:=[_]) (fn:=Tryz.f200) Tryz.func200 rfl (n:=8) Tryz.ntmps200 (aj (ae (ah rfl rfl (ab (aj (aj (ae (ad rfl rfl (aV (v':= .slice a b.length cap) pW (Rg.tJ dX rfl rfl rfl (ab ?_)))))))))));refine bP rfl (fun c1=>?_) (fun c1=>?_)
 ·refine aj (ae (ah rfl rfl (ab (aN ?_))))
  have hb:b=[]:=by
   rcases hs with h|⟨_,_,h,_⟩
   ·exact h
   ·rw[c1]at h;cases h
  exact aU rfl rfl ⟨by rw[hb];exact nR,ax _ _⟩
 ·refine aT (aj (ae ?_));refine Rg.sl0 dX zK M rfl (fun a0 w1 s1=>?_);refine ad rfl rfl ?_;refine Rg.qV (A:=((RT.li).ptr)) (hn:=by decide) (M:=M) dX zK rfl rfl rfl rfl hv s1.le (s1.lt hM) (by omega) (fun u2 w2 xe s2=>?_);refine ah rfl rfl (ab (aN ?_));exact aU rfl rfl ⟨xe,s1.aB s2⟩
theorem DG {M:aC} {d:Dc} {v0:Value} (w0:World) (hM:Lt M w0) (hv:RT.dc.V M w0 d v0) (hl:d.2.length≤1099511627776):
  Spec Tryz.prog 138 #[v0] w0 (fun v w=>RT.dc.V M w d v∧Step M w0 M w aD):=by
 have lC:=hM;refine bc (args:=[_]) (fn:=Tryz.f138) Tryz.func138 rfl (n:=9) Tryz.ntmps138 ?_;have S:Step M w0 M w0 aD:=(ax _ _).cG (fun _ h=>h.elim) (fun _ h=>h.elim);refine aj (ae ?_);refine vU (A:=RT.dc) rfl rfl hM hv rfl (fun u0 w1 dp s0 _=>?_);replace hM:=s0.lt hM;have:=S.size;replace S:=S.aB s0;refine ey M oZ rfl (fun o8 FG TF TG gj nA=>?_);obtain⟨fy,mF⟩:∃M',M'=ins M o8:=⟨_,rfl⟩;rw[←mF]at nA;have fa:fy o8:=by rw[mF];exact .inl rfl
 change FG.heap[o8]? =some (.cells #[.int .i64 0,.slice none 0 0] _ _)at gj;replace dp:=dp.le (by decide) nA.le;replace hM:=nA.lt hM;have:=S.size;replace S:=S.aB nA;refine ab (aj ?_);apply T.ql 4 [0,1] 1 aD mixed rfl rfl rfl rfl;intro KG KH;have mQ:=KH fy;have:=ak gj;replace fa:=(mQ.mem _ this).2 fa;replace gj:=mQ.aK gj;replace dp:=dp.le (by decide) mQ.le;replace hM:=mQ.lt hM;have:=S.size;replace S:=S.aB mQ;refine aS (M:=fy) (A:=RT.dc) (B:=RT.int .i64) a8 rfl rfl I3 (by decide) (XG) rfl rfl (by decide) (by assumption) (by repeat (first|exact aq _ _|refine aY (bu (by assumption)) ?_)) (fun BB nc=>?_);refine ab ⟨rfl,rfl,rfl,?_⟩;refine cd (M:=fy) aw rfl rfl (by assumption) (by repeat (first|exact aq _ _|refine aY (bu (by assumption)) ?_)) (fun QZ=>?_);refine ab ⟨rfl,rfl,rfl,?_⟩;refine aS (M:=fy) (A:=RT.dc) (B:=(RT.fd).sl) a8 rfl rfl vh (by decide) (Iq) rfl rfl (by decide) (by assumption) (by repeat (first|exact aq _ _|refine aY (bu (by assumption)) ?_)) (fun F0 oh=>?_);refine ab ⟨rfl,rfl,rfl,?_⟩;refine bV (M:=fy) bj rfl rfl rfl rfl rfl (by assumption) (by repeat (first|exact aq _ _|refine aY (bu (by assumption)) ?_)) (fun anH Yc=>?_);refine ab ⟨rfl,rfl,rfl,?_⟩;refine ff ?_;obtain⟨bb,oo,cs,ee,fr,rfl,lj,_⟩:=nc.float;refine⟨jd ⟨jj a8 rfl I3 (by decide),⟨eI rfl lj (fun h=>h),trivial⟩⟩,?_⟩;have kp:=kd aD KG;refine aX rfl rfl acp (Ph hM Yc hl) (fun v4 w4 hc=>?_);obtain⟨rU,s4⟩:=hc;have:=ak gj;replace fa:=(s4.mem _ this).2 fa;replace gj:=s4.aK gj;replace dp:=dp.le (by decide) s4.le;replace hM:=s4.lt hM;have:=S.size;replace S:=S.aB s4;refine(fun(kp:eO _ _ _)=>ab ⟨rfl,rfl,fun _=>kp,?_⟩) (by first|exact kp|exact kp.sG (by assumption)|exact kp.goN (by assumption)|exact kp.go (by assumption) (fun _ _ h=>by first|exact h|exact h.elim))
 refine iW (places:=[(0,1),(1,1)]) a8 oZ B69 rfl ⟨_,_,rfl,rfl,_,_,rfl,rfl,rfl⟩ (out:=[_,_]) ⟨0,[_],rfl,rfl,by simp[Value.cells],1,[_],rfl,kZ rU,by simp[Value.cells],rfl⟩ ?_;refine ab ⟨rfl,rfl,fun h=>absurd rfl h,?_⟩;have hd:RT.dc.V fy w4 d (.agg [.int .i64 d.1,v4].toArray):=eV (gm QZ) rU rfl rfl rfl rfl;refine ez (M:=fy) (vs:=[.int .i64 d.1,v4]) oZ rfl rfl (BL rfl hd) rfl rfl gj fa (fun w6 g6 s6=>?_);have:=ak gj;replace fa:=(s6.mem _ this).2 fa;replace dp:=dp.le (by decide) s6.le;replace rU:=rU.le s6.le;replace hd:=hd.le s6.le;replace hM:=s6.lt hM;have:=S.size;replace S:=S.trans s6 (fun k hk h=>by have h:_=_:=h;subst h;first|(exfalso;omega)|(show _≤_;omega)|exact⟨by first|omega|assumption,(S.mem _ hk).1 ((s6.mem _ (ak gj)).1 fa)⟩|exact .inl rfl|exact .inr rfl|exact .inr (.inl rfl)|exact .inr (.inr rfl)|exact .inr (.inr (.inl rfl))|exact rfl);have DH:=g6;clear gj;have gj:=DH;clear DH;refine ab ⟨rfl,rfl,fun h=>absurd rfl h,?_⟩;refine nN (aN ?_);exact Bk (vs:=[.int .i64 d.1,v4]) rfl rfl a8 rfl oZ rfl gj ⟨hd.le (Le.close lC S),S.back⟩
theorem LD {M:aC} {e:En} {v0:Value} (w0:World) (hM:Lt M w0) (hv:RT.en.V M w0 e v0) (hl:e.1.2.length≤1099511627776):
  Spec Tryz.prog 88 #[v0] w0 (fun v w=>RT.en.V M w e v∧Step M w0 M w aD):=by
 have lC:=hM;refine bc (args:=[_]) (fn:=Tryz.f88) Tryz.func88 rfl (n:=9) Tryz.ntmps88 ?_;have S:Step M w0 M w0 aD:=(ax _ _).cG (fun _ h=>h.elim) (fun _ h=>h.elim);refine aj (ae ?_);refine vU (A:=RT.en) rfl rfl hM hv rfl (fun u0 w1 dp s0 _=>?_);replace hM:=s0.lt hM;have:=S.size;replace S:=S.aB s0;refine ey M G6 rfl (fun o8 FG TF TG gj nA=>?_);obtain⟨fy,mF⟩:∃M',M'=ins M o8:=⟨_,rfl⟩;rw[←mF]at nA;have fa:fy o8:=by rw[mF];exact .inl rfl
 change FG.heap[o8]? =some (.cells #[.int .i64 0,.slice none 0 0,.int .i64 0] _ _)at gj;replace dp:=dp.le (by decide) nA.le;replace hM:=nA.lt hM;have:=S.size;replace S:=S.aB nA;refine ab (aj ?_);apply T.J8 [0,1,3,4,2,5,6] 4 [2,3] 1 aD mixed
 ·simp+decide only[xT,sH,eS,j5,je,jf,fB,cV,ig,qc,cond_true,cond_false,Nat.reduceBEq,Nat.reduceAdd,beq_self_eq_true];rfl
 ·rfl
 ·rfl
 ·rfl
 ·rfl
 ·rfl
 ·rfl
 intro KG KH;have mQ:=KH fy;have:=ak gj;replace fa:=(mQ.mem _ this).2 fa;replace gj:=mQ.aK gj;replace dp:=dp.le (by decide) mQ.le;replace hM:=mQ.lt hM;have:=S.size;replace S:=S.aB mQ;refine aS (M:=fy) (A:=RT.en) (B:=RT.dc) dU rfl rfl oZ (by decide) XH rfl rfl (by decide) dp (aq _ _) (fun BB nc=>?_);refine ab ⟨rfl,rfl,rfl,?_⟩;refine de (M:=fy) (A:=RT.dc) a8 rfl oZ (by decide) rfl rfl rfl nc (aq _ _) (fun zO nf=>?_);refine ab ⟨rfl,rfl,rfl,?_⟩;refine aS (M:=fy) (A:=RT.en) (B:=RT.int .i64) dU rfl rfl I3 (by decide) en1 rfl rfl (by decide) dp (aq _ _) (fun F0 oh=>?_);refine ab ⟨rfl,rfl,rfl,?_⟩;refine cd (M:=fy) aw rfl rfl (by assumption) (by repeat (first|exact aq _ _|refine aY (bu (by assumption)) ?_)) (fun LF=>?_);refine aV (v':= .int .i64 (e.2)) rfl ?_;replace LF: -9223372036854775808≤(e.2:Int)∧e.2≤9223372036854775807:=LF;refine ab ⟨rfl,rfl,rfl,?_⟩;refine ff ?_;obtain⟨bb,oo,cs,ee,fr,rfl,lj,_⟩:=oh.float;refine⟨jd ⟨jj dU rfl I3 (by decide),⟨eI rfl lj (fun h=>h),trivial⟩⟩,?_⟩;have kp:=kd aD KG;refine aX rfl rfl acg (DG _ hM nf hl) (fun v4 w4 hc=>?_);obtain⟨rU,s4⟩:=hc;obtain⟨uf,rfl⟩:=KQ rU;have:=ak gj;replace fa:=(s4.mem _ this).2 fa;replace gj:=s4.aK gj;replace dp:=dp.le (by decide) s4.le;replace hM:=s4.lt hM;have:=S.size;replace S:=S.aB s4;refine(fun(kp:eO _ _ _)=>ab ⟨rfl,rfl,fun _=>kp,?_⟩) (by first|exact kp|exact kp.sG (by assumption)|exact kp.goN (by assumption)|exact kp.go (by assumption) (fun _ _ h=>by first|exact h|exact h.elim));refine iW (places:=[(0,2),(2,1)]) dU G6 B71 rfl ⟨_,_,rfl,rfl,_,_,rfl,rfl,rfl⟩ (out:=[_,_,_]) ⟨0,[_,_],rfl,rfl,by simp[Value.cells],2,[_],rfl,rfl,by simp[Value.cells],rfl⟩ ?_
 refine ab ⟨rfl,rfl,fun h=>absurd rfl h,?_⟩;have hd:RT.en.V fy w4 e (.agg [.int .i64 e.1.1,uf,.int .i64 e.2].toArray):=QP (p:=e.1) rU LF;refine ez (M:=fy) (vs:=[.int .i64 e.1.1,uf,.int .i64 e.2]) G6 rfl rfl (BL rfl hd) rfl rfl gj fa (fun w6 g6 s6=>?_);have:=ak gj;replace fa:=(s6.mem _ this).2 fa;replace dp:=dp.le (by decide) s6.le;replace rU:=rU.le s6.le;replace hd:=hd.le s6.le;replace hM:=s6.lt hM;have:=S.size;replace S:=S.trans s6 (fun k hk h=>by have h:_=_:=h;subst h;first|(exfalso;omega)|(show _≤_;omega)|exact⟨by first|omega|assumption,(S.mem _ hk).1 ((s6.mem _ (ak gj)).1 fa)⟩|exact .inl rfl|exact .inr rfl|exact .inr (.inl rfl)|exact .inr (.inr rfl)|exact .inr (.inr (.inl rfl))|exact rfl);have DH:=g6;clear gj;have gj:=DH;clear DH;refine ab ⟨rfl,rfl,fun h=>absurd rfl h,?_⟩;refine nN (aN ?_);exact Bk (vs:=[.int .i64 e.1.1,uf,.int .i64 e.2]) rfl rfl dU rfl G6 rfl gj ⟨hd.le (Le.close lC S),S.back⟩
end Go.K
namespace Go.K
open Go.Proofs
namespace TKBldB
theorem Yd:TI Tryz.prog 217 (.map none) 1 8:=by unfold TI;kernel_rfl
theorem ad6:Enters Tryz.prog 133:=enters Tryz.func133 rfl (by decide)
theorem ad7:Enters Tryz.prog 134:=enters Tryz.func134 rfl (by decide)
theorem ad8:Enters Tryz.prog 135:=enters Tryz.func135 rfl (by decide)
end TKBldB
open TKBldB
set_option maxRecDepth 10000
theorem IJ.aM {bt mb B:Nat} {ts:List (Fd×Nat)} {M M':aC} {w w':World} (h:IJ bt mb B ts M w) (s:Step M w M' w' aD):IJ bt mb B ts M' w':=by
 obtain⟨gb,dZ,fc,hB,Ho,es,clock,hW,hI⟩:=h;exact⟨s.aK gb,(s.mem _ (ak gb)).2 dZ,(s.mem _ (ak hW.at_)).2 fc,hB,Ho,es,clock,hW.aM s,hI.aM s⟩
theorem LG {bt mb B:Nat}:TS Tryz.prog 133 [.pointer (some ⟨bt,0,none⟩)] B (IJ bt mb B):=
 ⟨ad6,fun ts M w M' w' h s=>h.aM s,fun ts M w t i hJ hM h1 h2 hi h4=>IC w hM h1 h2 hi h4 hJ⟩
theorem LH (M:aC) (w:World) (B:Nat):IB M w B [] [] where
 o t v hv:=by
  rcases hv with⟨e,he,_⟩|⟨_,rfl⟩
  ·cases he
  ·exact dE _ _ _ _ _
 a t t' v v' _ hv _:=by
  rcases hv with⟨e,he,_⟩|⟨_,rfl⟩
  ·cases he
  ·exact(iB.nil v').symm
 k:=rfl
theorem DI:∀(ts:List (Fd×Nat)) (l:List Fd),(ts.foldl (fun l p=>if p.1∈l then l else l++[p.1]) l).length≤l.length+ts.length
 |[],l=>by simp
 |p::ts,l=>by
  rw[List.foldl_cons,cD];refine eJ (DI ts _) ?_
  split
  ·omega
  ·rw[bg];simp;omega
theorem Pk (M:aC) (w:World) (M':aC) (w':World) (x:Fd) (vs:List Value) (h:RT.fd.R M w x vs):RT.fd.R M' w' x vs:=h
theorem DJ {M:aC} {d:Dc} {v0:Value} (w0:World) (hM:Lt M w0) (hv:RT.dc.V M w0 d v0) (hF:kT d) (hl:∀f∈d.2,f.1.length≤900000∧f.2.length≤900000):
  Spec Tryz.prog 87 #[v0] w0 (fun v w=>∃a b,v= .tuple #[a,b]∧(RT.fd.sl).V M w (cU (cE d.2)) a∧(((RT.int .i64).sl).sl).V M w ((cU (cE d.2)).map (posOf (cE d.2))) b∧Step M w0 M w aD):=by
 have lC:=hM;have Rc:=hF.many;refine bc (args:=[_]) (fn:=Tryz.f87) Tryz.func87 rfl (n:=31) Tryz.ntmps87 ?_;have S:Step M w0 M w0 aD:=(ax _ _).cG (fun _ h=>h.elim) (fun _ h=>h.elim);refine aj (ae ?_);refine vU (A:=RT.dc) rfl rfl hM hv rfl (fun u0 w1 dp s0 _=>?_);replace hM:=s0.lt hM;have:=S.size;replace S:=S.aB s0;refine ah rfl rfl (ah rfl rfl (ab (aj (ae ?_))));refine Rg.Dr M l4 rfl (fun mb w1m p1 q1 gW s1=>?_);obtain⟨T7,LI⟩:∃M',M'=ins M mb:=⟨_,rfl⟩;rw[←LI]at s1;have BN:T7 mb:=by rw[LI];exact .inl rfl
 replace dp:=dp.le (by decide) s1.le;replace hM:=s1.lt hM;have:=S.size;replace S:=S.aB s1;refine ey T7 Yd rfl (fun II TU anJ anK zQ xi=>?_);obtain⟨LJ,LK⟩:∃M',M'=ins T7 II:=⟨_,rfl⟩;rw[←LK]at xi;have yK:LJ II:=by rw[LK];exact .inl rfl
 change TU.heap[II]? =some (.cells #[.map none] _ _)at zQ;replace dp:=dp.le (by decide) xi.le;replace BN:=(xi.mem _ (ak gW.at_)).2 BN;replace gW:=gW.aM xi;replace hM:=xi.lt hM;have:=S.size;replace S:=S.aB xi;refine cu (M:=LJ) Yd rfl rfl zQ rfl (rfl) yK (fun O3 iJ pV=>?_)
 try simp only[List.setIfInBounds_toArray,List.set_cons_zero,List.set_cons_succ]at iJ
 have:=ak zQ;replace yK:=(pV.mem _ this).2 yK;replace dp:=dp.le (by decide) pV.le;replace BN:=(pV.mem _ (ak gW.at_)).2 BN;replace gW:=gW.step pV (by show¬(_=_);omega);replace hM:=pV.lt hM;have:=S.size;replace S:=S.trans pV (fun k hk h=>by have h:_=_:=h;subst h;first|(exfalso;omega)|(show _≤_;omega)|exact⟨by first|omega|assumption,(S.mem _ hk).1 ((pV.mem _ (ak zQ)).1 yK)⟩|exact .inl rfl|exact .inr rfl|exact .inr (.inl rfl)|exact .inr (.inr rfl)|exact .inr (.inr (.inl rfl))|exact rfl);have Re:=iJ;clear zQ;have zQ:=Re;clear Re;refine ab (aj (ae ?_));refine de (M:=LJ) (A:=RT.dc) a8 rfl oZ (by decide) rfl rfl rfl (by assumption) (by repeat (first|exact aq _ _|refine aY (bu (by assumption)) ?_)) (fun anL Ye=>?_);refine ka (xs:=[]) (ys:=[.tmp 4]) rfl rfl rfl ?_;refine aX rfl rfl W3 (AD (cap:=[.pointer (some ⟨II,0,none⟩)]) (B:=w0.heap.size) _ hM Ye hl hF.few (LG (mb:=mb)) ⟨zQ,yK,BN,by omega,by omega,[],0,gW,LH _ _ _⟩) (fun r2 w2 hc=>?_);obtain⟨M2,EU,⟨gb,_,_,_,_,es,clock,hW,hI⟩,s2⟩:=hc;replace S:=S.l6 s2 (aR _);have pX:∀t v,eh kQ es (kv t) v→(((RT.int .i64).sl)).V M w2 (posOf (cE d.2) t) v:=fun t v h=>(hI.o t v h).close lC S (by have:=vB (cE d.2) t;omega)
 replace S:=S.back;replace hM:=S.lt lC
 have Yf:∀e∈es,∃t∈seen (cE d.2),e.key=kv t:=fun e he=>by
  have:e.key∈(seen (cE d.2)).map kv:=by rw[←hI.k];exact gY he
  obtain⟨t,h1,h2⟩:=ca.1 this;exact⟨t,h1,h2.symm⟩
 have A9:∀t∈seen (cE d.2),N5 t∧t.1.length≤12∧t.2.length≤30:=fun t ht=>by
  obtain⟨p,hp,rfl⟩:=ca.1 (ug.1 ht);exact⟨hF.Pb p hp,hF.small p hp⟩
 have nw:(seen (cE d.2)).length≤500:=eJ (DI _ _) (by simp;omega);have Cw:es.length≤500:=by have:=congrArg List.length hI.k;simp at this;omega
 refine ab (aj (ae (aL l4 rfl rfl rfl gb rfl ?_)));refine aX rfl rfl ad8 (FR _) (fun r3 w3 hc=>?_);obtain⟨bs,rfl,TX,_,s3⟩:=hc;replace s3:=s3.toAny M;replace hW:=hW.aM s3;replace gb:=s3.aK gb;replace pX:=fun t v h=>(pX t v h).le s3.le
 replace hM:=s3.lt hM;have:=S.size;replace S:=S.aB s3
 refine aX rfl rfl ad7 (Dx _ (fun e he=>by
  obtain⟨t,h1,h2⟩:=Yf e he;exact⟨t,h2,by have:=(A9 t h1).2;omega,by have:=(A9 t h1).2;omega⟩) (fun e he t ht=>by
  obtain⟨t',h1,h2⟩:=Yf e he;obtain rfl:=vz (ht.symm.trans h2);exact⟨(A9 _ h1).1,by have:=(A9 _ h1).2;omega,by have:=(A9 _ h1).2;omega⟩) (by omega) (fun ts oE kq=>by
  have:=oE.length_le_of_subset (l₂:=seen (cE d.2)) (fun t ht=>(tY hI.k).1 (kq t ht));omega) TX hW) (fun r4 w4 hc=>?_)
 obtain⟨us,oE,kq,Si,X4,s4⟩:=hc;obtain rfl:=DB hF.Pb oE (fun t=>(kq t).trans (tY hI.k)) Si;have JE:(cU (cE d.2)).length≤500:=eJ (oE.length_le_of_subset (l₂:=seen (cE d.2)) (fun t ht=>ug.2 ((kS hF.Pb).1 ht))) nw;replace s4:=s4.toAny M;have zG:(RT.fd.sl).V M w4 (cU (cE d.2)) r4:=X4.tell Pk (fun b hb h=>by have:=(X4.base b hb).1;have:=hM b h;omega) (by omega);clear X4;replace hW:=hW.aM s4;replace gb:=s4.aK gb;replace pX:=fun t v h=>(pX t v h).le s4.le
 replace hM:=s4.lt hM;have:=S.size;replace S:=S.aB s4;refine ah rfl rfl (ab (aj (ae (ah rfl rfl (ab (aj (aj (ae (ad rfl rfl (bJ jP rfl zG rfl (ad rfl rfl ?_)))))))))));refine ab (aZ ?_);refine dn (σ:=Nat×Value) (fun q=>[(4,.pointer (some ⟨II,0,none⟩)),(5,r4),(6,q.2),(16,r4),(17,.int .i64 ((cU (cE d.2)).length:Int)),(18,.int .i64 (q.1:Int))]) (fun q w=>∃M',Lt M' w∧Step M w0 M' w aD∧Own ((RT.int .i64).sl) 37 M' w w0.heap.size q.2 (((cU (cE d.2)).take q.1).map (posOf (cE d.2)))∧(RT.fd.sl).V M' w (cU (cE d.2)) r4∧fH Tryz.prog 78 w mb es clock∧w.heap[II]? =some (.cells #[.map (some mb)] 217 (0,0))∧(∀t v,eh kQ es (kv t) v→(((RT.int .i64).sl)).V M' w (posOf (cE d.2) t) v)∧q.1≤(cU (cE d.2)).length) (fun q=>(cU (cE d.2)).length-q.1) (0,.slice none 0 0) (.cons rfl (.cons rfl (.cons rfl (.cons rfl (.cons rfl (.cons rfl .nil)))))) ?_ ?_
 ·exact⟨M,hM,S,dE _ _ _ _ _,zG,hW,gb,pX,bG _⟩
 ·clear hM zG hW gb pX S;rintro⟨i,u⟩ w ⟨M1,hM,S,ho,zG,hW,gb,pX,hi⟩;dsimp only at ho hi ⊢;refine aj (ae (cf rfl rfl rfl (ab (aj ?_))));refine bP rfl (fun c6=>?_) (fun c6=>?_)
  ·refine aT (aj (aZ (aj (ae ?_))));refine cF (M:=M1) jP Au rfl rfl rfl zG (aq _ _) (by omega) (fun XK t hg7 Hh=>?_);rw[ay]at hg7;have OA:=aA hg7;have J4:=A9 t (ug.2 ((kS hF.Pb).1 OA));refine de (M:=M1) (A:=RT.fd) dF rfl Au (by decide) rfl rfl rfl Hh (aq _ _) (fun adx QW=>?_);refine xn (A:=RT.fd) (M:=M1) Au rfl rfl rfl rfl rfl (by assumption) (aq _ _) hM (fun aea anM AO F1 anN=>?_);replace zG:=zG.le F1.le;replace ho:=ho.aM F1;replace hW:=hW.aM F1;replace gb:=F1.aK gb;replace pX:=fun t v h=>(pX t v h).le F1.le
   replace hM:=F1.lt hM;have:=S.size;replace S:=S.aB F1;refine ab (ae (ad rfl rfl (aL l4 rfl rfl rfl gb rfl ?_)));refine de (M:=M1) (A:=RT.fd) dF rfl Au (by decide) rfl rfl rfl AO (aq _ _) (fun anO Yg=>?_);obtain rfl:=sU Yg;obtain⟨kl,E5⟩:=Lk t (by omega) (by omega);refine Rg.tU l4 AB kG rfl rfl rfl E5 hW (fun v8 pW=>?_);have N6:=pX _ _ pW;clear pW;refine dQ (A:=((RT.int .i64).sl)) (hn:=by decide) (M:=M1) cK kG (by decide) rfl rfl hM (N6) (.inr ⟨rfl,rfl⟩) (fun anP anQ LL DK=>?_);replace zG:=zG.le DK.le;replace AO:=AO.le (by decide) DK.le;replace ho:=ho.aM DK;replace hW:=hW.aM DK;replace gb:=DK.aK gb;replace pX:=fun t v h=>(pX t v h).le DK.le
   replace hM:=DK.lt hM;have:=S.size;replace S:=S.aB DK;refine cX (M:=M1) (base:=w0.heap.size) cK kG rfl rfl rfl rfl ho LL (aq _ _) (by simp;omega) (by simp;omega) (S.size) (fun aeb aec anR Yh DL=>?_);replace zG:=zG.le DL.le;replace AO:=AO.le (by decide) DL.le;replace LL:=LL.le DL.le;replace hW:=hW.step DL (fun h=>ho.kR hW.at_ h);replace gb:=DL.keep gb (fun h=>ho.eK gb (by decide) h);replace pX:=fun t v h=>(pX t v h).le DL.le
   replace hM:=DL.lt hM;have:=S.size;replace S:=S.dm DL ho (aR _);replace ho:=Yh;refine ah rfl rfl (ab (ae (bD rfl rfl rfl (by omega) (ad rfl rfl (ab ?_)))));refine⟨rfl,(i+1,aeb),(.cons rfl (.cons rfl (.cons rfl (.cons rfl (.cons rfl (.cons rfl .nil)))))),?_,?_⟩
   ·exact⟨aec,hM,S,by rw[cb,hg7,cY,eA];exact ho,zG,hW,gb,pX,by dsimp only;omega⟩
   ·dsimp only;omega
  ·refine cL (aj (ae (ad rfl rfl (ad rfl rfl (ah rfl rfl (ah rfl rfl (ab (aN ?_))))))));have e:(cU (cE d.2)).take i=cU (cE d.2):=br (by omega);rw[e]at ho;exact eU rfl rfl rfl ⟨_,_,rfl,zG.le (Le.close lC S),ho.close lC S (by simp;omega),S.back⟩
end Go.K
namespace Go.K
def Rf {α:Type} (A:RT α) (M:aC) (w:World) (v:Value) (x:α):Prop:=∃b o vs,v= .pointer (some ⟨b,o,none⟩)∧A.R M w x vs∧w.rangeAt b o vs
theorem Own.elem {α:Type} {A:RT α} {e:TypeId} {M:aC} {w:World} {base:Nat} {v:Value} {xs:List α} (h:Own A e M w base v xs) (hA:0<A.n) {i:Nat} {x:α} (hx:xs[i]? =some x):
  ∃g cap vs,v= .slice (some ⟨g,0,none⟩) xs.length cap∧M g∧A.R M w x vs∧w.rangeAt g (i*A.n) vs:=by
 obtain⟨⟨C,hr,ha⟩,hm⟩:=h;rcases hr.2 with⟨h1,h2⟩|⟨g,cap,cur,h1,h2,h3,h4,h5,h6,h7⟩
 ·have:xs=[]:=List.eq_nil_of_length_eq_zero h2;subst this;simp at hx
 ·obtain⟨vs,hv,hj⟩:=ha.at_ i x hx;refine⟨g,cap,vs,h1,hm g (by rw[h1];rfl),hv,fun j u hu=>?_⟩;have h8:=hj j u hu;rw[←h7,cj]at h8
  split at h8
  ·simp only[World.cell?,h3];simpa using h8
  ·cases h8
section
variable {P:Program} {r:Option Nat} {n:Nat} {L:Sl} {ds:List Deferred} {w:World} {K:Kt} {ops:Array Oper} {rest:List Oper} {d:Nat} {x y:Operand} {ty:TypeId} {pos:String} {af:Array Edge} {α:Type} {A:RT α}
theorem Rg.aed {t e e':TypeId} {i:Operand} {κ:IntKind} {j:Int} {M:aC} {base:Nat} {xs:List α} {v zv:Value} {bytes:Nat} (ht:P.underlying t=some (.slice e)) (hi:TI P e zv A.n bytes) (hA:0<A.n)
  (hx:ev L x=some v) (E1:ev L i=some (.int κ j)) (hd:Nat.blt d n=true) (ho:Own A e' M w base v xs) (hj:0≤j∧j<xs.length)
  (k:∀u a,xs[j.toNat]? =some a→Rf A M w u a→Rg P r n ops rest ((d,u)::L) ds w K):
  Rg P r n ops ({dst:=some d,op:= .indexAddr t x i,type:=ty,pos,after:=af,guard:=none}::rest) L ds w K:=by
 have dO:j.toNat<xs.length:=by omega
 obtain⟨g,cap,vs,rfl,hm,h1,h2⟩:=ho.elem hA (au dO);refine .op (fun _ h=>by cases h) rfl rfl hd (.pointer (some ⟨g,0+j.toNat*A.n,none⟩)) w (fun ρ h=>?_) (k _ xs[j.toNat] (au dO) ⟨g,_,vs,rfl,h1,by rw[fR];exact h2⟩);simp only[execOp,h x _ hx,h i _ E1];simp[Instr.indexAt,run_underlying ht,asIntOf,hj,hi.sizeOf,wW]
theorem Rg.LM {t:TypeId} {fs:TypeDesc} {zv:Value} {bytes:Nat} {M:aC} {p:Value} {a:α} (hu:P.underlying t=some fs) (hf:fs.isRow=true) (hi:TI P t zv A.n bytes) (hg:A.agg=true)
  (hx:ev L x=some p) (hd:Nat.blt d n=true) (hp:Rf A M w p a) (k:∀v,A.V M w a v→Rg P r n ops rest ((d,v)::L) ds w K):
  Rg P r n ops ({dst:=some d,op:= .load t x,type:=ty,pos,after:=af,guard:=none}::rest) L ds w K:=by
 obtain⟨b,o,vs,rfl,h1,h2⟩:=hp;refine .op (fun _ h=>by cases h) rfl rfl hd (.agg vs.toArray) w (fun ρ h=>?_) (k _ ⟨vs,h1,by simp[RT.val,hg]⟩);simp only[execOp,h x _ hx];obtain⟨i,zy,_,Ah,_⟩:=hi.get;have:=run_loadAt_mid (P:=P) w b o t vs fs h2 hu hf (by simp[zy,Ah,A.len h1]);simp[this]
end
end Go.K
namespace Go.K
open Go.Proofs
namespace TKBldC
theorem aee:TI Tryz.prog 153 (.agg #[(.slice none 0 0),(.map none),(.int .i64 0),(.int .i64 0)]) 4 48:=by unfold TI;kernel_rfl
theorem aef:placesOf Tryz.prog 153=[(0,1),(1,1),(2,1),(3,1)].map some:=by kernel_rfl
end TKBldC
open TKBldC
set_option maxRecDepth 10000
open Go.Maps (Keyed)
theorem uk:Keyed Tryz.prog 9:=Go.Maps.string_keyed aH
theorem LN (k:List UInt8) (h:k.length≤140737488355328):∃l,keyOf Tryz.prog 9 (sv k)=some l:=by
 have e1:(⟨k.toArray⟩:ByteArray).size=k.length:=by simp[ByteArray.size]
 exact⟨_,Go.WideMaps.keyOf_string_mk aH (by rw[e1];unfold maxLen;omega)⟩
structure DM (Z:aC) (M:aC) (w:World) (B:Nat) (f:List UInt8→List Po) (K:List UInt8→Prop) (es:List MapEntry):Prop where
 o:∀k v,eh kQ es (sv k) v→Own RT.po 83 M w B v (f k)
 a:∀k k' v v',k≠k'→eh kQ es (sv k) v→eh kQ es (sv k') v'→iB v v'
 k:∀x,(∃e∈es,e.key=sv x)↔K x
 z:∀k v c,eh kQ es (sv k) v→v.ownBlock=some c→Z c
theorem DM.step {Z M M' N:aC} {w w':World} {B:Nat} {f:List UInt8→List Po} {K:List UInt8→Prop} {es:List MapEntry} (h:DM Z M w B f K es) (s:Step M w M' w' N) (hn:∀k v b,eh kQ es (sv k) v→v.ownBlock=some b→¬N b):DM Z M' w' B f K es:=
 ⟨fun k v hv=>(h.o k v hv).step s fun b hb=>hn k v b hv hb,h.a,h.k,h.z⟩
theorem DM.aM {Z M M':aC} {w w':World} {B:Nat} {f:List UInt8→List Po} {K:List UInt8→Prop} {es:List MapEntry} (h:DM Z M w B f K es) (s:Step M w M' w' aD):DM Z M' w' B f K es:=h.step s fun _ _ _ _ _ h=>h
theorem DM.congr {Z M:aC} {w:World} {B:Nat} {f f':List UInt8→List Po} {K K':List UInt8→Prop} {es:List MapEntry} (h:DM Z M w B f K es) (hf:∀k,f' k=f k) (hK:∀k,K' k↔K k):DM Z M w B f' K' es:=
 ⟨fun k v hv=>by rw[hf];exact h.o k v hv,h.a,fun x=>(h.k x).trans (hK x).symm,h.z⟩
theorem DM.IK {Z Z' M:aC} {w:World} {B:Nat} {f:List UInt8→List Po} {K:List UInt8→Prop} {es:List MapEntry} (h:DM Z M w B f K es) (hz:∀c,Z c→c<w.heap.size→Z' c):DM Z' M w B f K es:=
 ⟨h.o,h.a,h.k,fun k v c hv hc=>hz c (h.z k v c hv hc) ((h.o k v hv).base c hc).2⟩
theorem DM.put {Z M M2:aC} {w w1 w2:World} {B mb c:Nat} {mes:Array MapEntry} {f:List UInt8→List Po} {K:List UInt8→Prop} {es T8:List MapEntry} {k0:List UInt8} {v0 v1:Value} {ps:List Po} (h:DM Z M w B f K es) (hZ:∀c,w.heap.size≤c→Z c) (NZ:eh kQ es (sv k0) v0)
  (T9:Own RT.po 83 (jA M v1) w1 B v1 (f k0++ps)) (s1:Step M w (jA M v1) w1 (fP v0)) (hF:∀b,v1.ownBlock=some b→w.heap.size≤b∨v0.ownBlock=some b) (hmb:w1.heap[mb]? =some (.map mes c)) (s2:Step (jA M v1) w1 M2 w2 (fun k=>k=mb))
  (FT:∀zv jq v',eh zv T8 jq v'↔(jq=sv k0∧v'=v1)∨(jq≠sv k0∧eh zv es jq v')) (pJ:(T8.map (·.key)=es.map (·.key)∧∃e∈es,e.key=sv k0)∨(T8.map (·.key)=es.map (·.key)++[sv k0]∧∀e∈es,e.key≠sv k0)):
  DM Z M2 w2 B (fun k=>if k=k0 then f k0++ps else f k) (fun x=>K x∨x=k0) T8:=by
 have rZ:∀k v,eh kQ T8 (sv k) v→(k=k0∧v=v1)∨(k≠k0∧eh kQ es (sv k) v):=fun k v hv=>by
  rcases(FT kQ (sv k) v).1 hv with⟨h3,h4⟩|⟨h3,h4⟩
  ·exact .inl ⟨BI h3,h4⟩
  ·exact .inr ⟨fun e=>h3 (by rw[e]),h4⟩
 have xw:∀k v,k≠k0→eh kQ es (sv k) v→iB v1 v:=fun k v eN hv=>(h.a k k0 v v0 eN hv NZ).symm.grown hF (fun b hb=>((h.o k v hv).base b hb).2)
 have O8:∀k v,k≠k0→eh kQ es (sv k) v→Own RT.po 83 (jA M v1) w1 B v (f k):=fun k v eN hv=>(h.o k v hv).step s1 (fun b hb hk=>h.a k k0 v v0 eN hv NZ b hb hk)
 have hnm:∀{v:Value} {xs:List Po},Own RT.po 83 (jA M v1) w1 B v xs→∀b,v.ownBlock=some b→¬b=mb:=fun ho b hb e=>ho.kR hmb (by rw[←e];exact hb)
 refine⟨fun k v hv=>?_,fun k k' v v' eN hv rM=>?_,fun x=>?_,fun k v c hv hc=>?_⟩
 ·rcases rZ k v hv with⟨rfl,rfl⟩|⟨h3,h4⟩
  ·rw[if_pos rfl];exact T9.step s2 (hnm T9)
  ·rw[if_neg h3];exact(O8 k v h3 h4).step s2 (hnm (O8 k v h3 h4))
 ·rcases rZ k v hv with⟨rfl,rfl⟩|⟨h3,h4⟩
  ·rcases rZ k' v' rM with⟨rfl,_⟩|⟨h5,h6⟩
   ·exact absurd rfl eN
   ·exact xw k' v' h5 h6
  ·rcases rZ k' v' rM with⟨rfl,rfl⟩|⟨h5,h6⟩
   ·exact(xw k v h3 h4).symm
   ·exact h.a k k' v v' eN h4 h6
 ·have kq:(∃e∈T8,e.key=sv x)↔sv x∈T8.map (·.key):=by simp
  have aeg:(∃e∈es,e.key=sv x)↔sv x∈es.map (·.key):=by simp
  rw[kq,←h.k x,aeg];rcases pJ with⟨h3,e,he,hk⟩|⟨h3,_⟩
  ·rw[h3];constructor
   ·exact .inl
   ·rintro(h4|rfl)
    ·exact h4
    ·rw[←hk];exact gY he
  ·rw[h3,ck,bE];constructor
   ·rintro(h4|h4)
    ·exact .inl h4
    ·exact .inr (BI h4)
   ·rintro(h4|rfl)
    ·exact .inl h4
    ·exact .inr rfl
 ·rcases rZ k v hv with⟨rfl,rfl⟩|⟨h3,h4⟩
  ·rcases hF c hc with h5|h5
   ·exact hZ c h5
   ·exact h.z _ _ c NZ h5
  ·exact h.z k v c h4 hc
theorem Pl (Z M:aC) (w:World) (B:Nat):DM Z M w B (pk []) (fun x=>x∈iE []) [] where
 o k v hv:=by
  rcases hv with⟨e,he,_⟩|⟨_,rfl⟩
  ·cases he
  ·exact dE _ _ _ _ _
 a k k' v v' _ hv _:=by
  rcases hv with⟨e,he,_⟩|⟨_,rfl⟩
  ·cases he
  ·exact(iB.nil v').symm
 k x:=by simp[iE]
 z k v c hv hc:=by
  rcases hv with⟨e,he,_⟩|⟨_,rfl⟩
  ·cases he
  ·cases hc
structure Buf (Z M:aC) (w:World) (B b mb:Nat) (vl:Value) (L:List En) (words last:Int) (f:List UInt8→List Po) (K:List UInt8→Prop) (es:List MapEntry) (clock:Nat):Prop where
 at_:w.heap[b]? =some (.cells #[vl,.map (some mb),.int .i64 words,.int .i64 last] 153 (0,0))
 m:M b
 mm:M mb
 hb:Z b
 hmb:Z mb
 l:Own RT.en 71 M w B vl L
 map:fH Tryz.prog 9 w mb es clock
 rows:DM Z M w B f K es
 zl:∀c,vl.ownBlock=some c→Z c
def om (Z M:aC) (w:World) (B b:Nat) (L:List En) (words last:Int):Prop:=∃mb vl es clock,Buf Z M w B b mb vl L words last (pk L) (fun x=>x∈iE L) es clock
theorem om.aM {Z M M':aC} {w w':World} {B b:Nat} {L:List En} {words last:Int} (h:om Z M w B b L words last) (s:Step M w M' w' aD):om Z M' w' B b L words last:=by
 obtain⟨mb,vl,es,clock,h1,h2,h3,h4,h5,h6,h7,h8,h9⟩:=h;exact⟨mb,vl,es,clock,s.aK h1,(s.mem _ (ak h1)).2 h2,(s.mem _ (ak h7.at_)).2 h3,h4,h5,h6.aM s,h7.aM s,h8.aM s,h9⟩
theorem om.IK {Z Z' M:aC} {w:World} {B b:Nat} {L:List En} {words last:Int} (h:om Z M w B b L words last) (hz:∀c,Z c→c<w.heap.size→Z' c):om Z' M w B b L words last:=by
 obtain⟨mb,vl,es,clock,h1,h2,h3,h4,h5,h6,h7,h8,h9⟩:=h;exact⟨mb,vl,es,clock,h1,h2,h3,hz _ h4 (ak h1),hz _ h5 (ak h7.at_),h6,h7,h8.IK hz,fun c hc=>hz c (h9 c hc) (h6.base c hc).2⟩
theorem om.step {Z M M' N:aC} {w w':World} {B b:Nat} {L:List En} {words last:Int} (h:om Z M w B b L words last) (s:Step M w M' w' N) (hn:∀k,N k→¬Z k):om Z M' w' B b L words last:=by
 obtain⟨mb,vl,es,clock,h1,h2,h3,h4,h5,h6,h7,h8,h9⟩:=h;exact⟨mb,vl,es,clock,s.keep h1 (fun hk=>hn _ hk h4),(s.mem _ (ak h1)).2 h2,(s.mem _ (ak h7.at_)).2 h3,h4,h5,h6.step s (fun c hc hk=>hn _ hk (h9 c hc)),h7.step s (fun hk=>hn _ hk h5),h8.step s (fun k v c hv hc hk=>hn _ hk (h8.z k v c hv hc)),h9⟩
theorem om.stepT {Z M M' N:aC} {w w':World} {B b:Nat} {L:List En} {words last:Int} (h:om Z M w B b L words last) (s:Step M w M' w' N) (hn:∀k,N k→∃cs t,w.heap[k]? =some (.cells cs t (0,0))∧t≠153∧t≠71∧t≠83):om Z M' w' B b L words last:=by
 obtain⟨mb,vl,es,clock,h1,h2,h3,h4,h5,h6,h7,h8,hz⟩:=h;refine⟨mb,vl,es,clock,s.keep h1 (fun hk=>?_),(s.mem _ (ak h1)).2 h2,(s.mem _ (ak h7.at_)).2 h3,h4,h5,h6.step s (fun c hc hk=>?_),h7.step s (fun hk=>?_),h8.step s (fun k v c hv hc hk=>?_),hz⟩
 ·obtain⟨cs,t,h9,Pm,_⟩:=hn _ hk;rw[h1]at h9;simp at h9;exact Pm h9.2.symm
 ·obtain⟨cs,t,h9,_,Pm,_⟩:=hn _ hk;exact h6.eK h9 Pm hc
 ·obtain⟨cs,t,h9,_⟩:=hn _ hk;rw[h7.at_]at h9;cases h9
 ·obtain⟨cs,t,h9,_,_,Pm⟩:=hn _ hk;exact(h8.o k v hv).eK h9 Pm hc
def LO (M Z:aC):aC:=fun k=>Z k∧M k
theorem eh.ex (zv:Value) (es:List MapEntry) (key:Value):∃v,eh zv es key v:=by
 by_cases h:∃e∈es,e.key=key
 ·obtain⟨e,he,hk⟩:=h;exact⟨e.val,.inl ⟨e,he,hk,rfl⟩⟩
 ·exact⟨zv,.inr ⟨fun e he hk=>h ⟨e,he,hk⟩,rfl⟩⟩
def mV (last:Int) (e:En):Int:=if lR e.1≠0 then lR e.1 else if e.2≤last then 12 else 0
def LP (L:List En) (tl:List (Fd×Nat)) (i:Nat) (k:List UInt8):List Po:=pk L k++(((cU tl).take i).filter fun t=>decide (gH t=k)).map fun t=>((L.length:Int),posOf tl t)
theorem LQ (L:List En) (tl:List (Fd×Nat)) (k:List UInt8):LP L tl 0 k=pk L k:=by simp[LP]
theorem LR {L:List En} {tl:List (Fd×Nat)} {i:Nat} {t:Fd} (h:(cU tl)[i]? =some t) (k:List UInt8):LP L tl (i+1) k=if k=gH t then LP L tl i (gH t)++[((L.length:Int),posOf tl t)]else LP L tl i k:=by
 unfold LP;rw[cb,h,cY,List.filter_append,eA]
 split
 ·rename_i e;subst e;simp
 ·rename_i e
  have: ¬gH t=k:=fun h=>e h.symm
  simp[this]
theorem Pn {L:List En} {e:En} {i:Nat} (h:(cU (pM e)).length≤i) (k:List UInt8):LP L (pM e) i k=pk (L++[e]) k:=by
 unfold LP;rw[Pc,br h];rfl
theorem Pp {L:List En} (hF:∀x∈L,kT x.1) (tl:List (Fd×Nat)) (i:Nat) (k:List UInt8):(LP L tl i k).length≤L.length+(cU tl).length:=by
 unfold LP;have h1:=(qF k L 0 hF).1;have h2:=l5 (fun t=>decide (gH t=k)) ((cU tl).take i);have h3:=List.length_take_le i (cU tl);have h4:(pk L k).length≤L.length:=h1;simp only[bg,aI,bC]at*;omega
theorem AP {d:Dc} (hF:kT d):(cU (cE d.2)).length≤500:=by
 have h1:=(ue hF.Pb).nodup.length_le_of_subset (l₂:=(cE d.2).map (·.1)) (fun t ht=>(kS hF.Pb).1 ht);have:=hF.many;simp at h1;omega
theorem kT.term {d:Dc} (hF:kT d) {t:Fd} (h:t∈cU (cE d.2)):t.1.length≤12∧t.2.length≤30:=by
 obtain⟨p,hp,rfl⟩:=ca.1 ((kS hF.Pb).1 h);exact hF.small p hp
theorem LS {Z M:aC} {B:Nat} (w0:World) (hM:Lt M w0) (hB:B≤w0.heap.size) (hZ:∀k,w0.heap.size≤k→Z k):
  Spec Tryz.prog 39 #[] w0 (fun v w=>∃M' b,v= .pointer (some ⟨b,0,none⟩)∧Lt M' w∧om Z M' w B b [] 0 (-1)∧Step M w0 M' w aD):=by
 refine bc (args:=[]) (fn:=Tryz.f39) Tryz.func39 rfl (n:=4) Tryz.ntmps39 ?_;have S:Step M w0 M w0 aD:=(ax _ _).cG (fun _ h=>h.elim) (fun _ h=>h.elim);refine aj (ae (ah rfl rfl (ab (aj (ae ?_)))));refine Rg.Dr M iF rfl (fun mb w1m p1 q1 gW s1=>?_);obtain⟨T7,LI⟩:∃M',M'=ins M mb:=⟨_,rfl⟩;rw[←LI]at s1;have BN:T7 mb:=by rw[LI];exact .inl rfl
 replace hM:=s1.lt hM;have:=S.size;replace S:=S.aB s1;refine iW (places:=[(0,1),(1,1),(2,1),(3,1)]) dN aee aef rfl ⟨_,_,rfl,rfl,_,_,rfl,rfl,rfl⟩ (out:=[.slice none 0 0,_,.int .i64 0,_]) ⟨1,[_],rfl,rfl,by simp[Value.cells],3,[_],rfl,rfl,by simp[Value.cells],rfl⟩ ?_;refine wX T7 rfl rfl (fun Ua O3 anT anU iJ pV=>?_);obtain⟨Yi,LU⟩:∃M',M'=ins T7 Ua:=⟨_,rfl⟩;rw[←LU]at pV;have Ub:Yi Ua:=by rw[LU];exact .inl rfl
 change O3.heap[Ua]? =some (.cells #[.slice none 0 0,.map (some mb),.int .i64 0,.int .i64 (-1)] _ _)at iJ;replace BN:=(pV.mem _ (ak gW.at_)).2 BN;replace gW:=gW.aM pV;replace hM:=pV.lt hM;have:=S.size;replace S:=S.aB pV;refine ah rfl rfl (ab (aN ?_));exact aU rfl rfl ⟨_,_,rfl,hM,⟨mb,_,[],0,iJ,Ub,BN,hZ _ (by omega),hZ _ (by omega),dE _ _ _ _ _,gW,Pl _ _ _ _,fun c hc=>by cases hc⟩,S⟩
end Go.K
namespace Go.K
open Go.Proofs
namespace TKBldD
theorem Yj:TI Tryz.prog 29 (.slice none 0 0) 1 24:=by unfold TI;kernel_rfl
theorem zV:TI Tryz.prog 80 (.slice none 0 0) 1 24:=by unfold TI;kernel_rfl
theorem F2:TI Tryz.prog 151 (.map none) 1 8:=by unfold TI;kernel_rfl
theorem E86:Enters Tryz.prog 86:=enters Tryz.func86 rfl (by decide)
theorem E87:Enters Tryz.prog 87:=enters Tryz.func87 rfl (by decide)
theorem E88:Enters Tryz.prog 88:=enters Tryz.func88 rfl (by decide)
theorem E89:Enters Tryz.prog 89:=enters Tryz.func89 rfl (by decide)
end TKBldD
open TKBldD
set_option maxRecDepth 10000
set_option maxHeartbeats 4000000 in
theorem LV {Z M:aC} {B b:Nat} {L:List En} {words last:Int} {e:En} {v0:Value} (w0:World) (hM:Lt M w0) (hZ:∀k,w0.heap.size≤k→Z k) (hb:om Z M w0 B b L words last) (hBw:B≤w0.heap.size) (hv:RT.en.V M w0 e v0) (hl:∀f∈e.1.2,f.1.length≤900000∧f.2.length≤900000) (hLF:∀x∈L,kT x.1) (hLn:L.length≤1000000) (hw:0≤words∧words≤1000000000):
  Spec Tryz.prog 40 #[.pointer (some ⟨b,0,none⟩),v0] w0 (fun v w=>∃M',Lt M' w∧Step M w0 M' w (LO M Z)∧v= .int .i64 (mV last e)∧(mV last e≠0→om Z M' w B b L words last)∧(mV last e=0→om Z M' w B b (L++[e]) (words+((pM e).length:Int)) e.2)):=by
 obtain⟨mb,vl,es,clock,gb,dZ,fc,hB,Ho,ho,hW,hR,zl⟩:=hb;have Ra:b≠mb:=fun h=>by have:=hW.at_;rw[←h,gb]at this;cases this
 refine bc (args:=[_,_]) (fn:=Tryz.f40) Tryz.func40 rfl (n:=89) Tryz.ntmps40 ?_;have S:Step M w0 M w0 (LO M Z):=(ax _ _).cG (fun _ h=>h.elim) (fun _ h=>h.2);refine aj (ae ?_);refine vU (A:=RT.en) rfl rfl hM hv rfl (fun u0 w1 dp s0 _=>?_);have:=ak gb;replace dZ:=(s0.mem _ this).2 dZ;replace gb:=s0.aK gb;replace ho:=ho.aM s0;replace fc:=(s0.mem _ (ak hW.at_)).2 fc;replace hW:=hW.aM s0;replace hR:=hR.aM s0;replace hM:=s0.lt hM;have:=S.size;replace S:=S.aB s0;refine ah rfl rfl (ab (aj (aj (ae ?_))));refine aS (M:=M) (A:=RT.en) (B:=RT.dc) dU rfl rfl oZ (by decide) XH rfl rfl (by decide) dp (aq _ _) (fun BB nc=>?_);refine de (M:=M) (A:=RT.dc) a8 rfl oZ (by decide) rfl rfl rfl nc (aq _ _) (fun zO nf=>?_);refine aX rfl rfl E86 (KS _ hM nf hl) (fun r2 w2 hc=>?_);obtain⟨rfl,s2⟩:=hc;have:=ak gb;replace dZ:=(s2.mem _ this).2 dZ;replace gb:=s2.aK gb;replace dp:=dp.le (by decide) s2.le;replace ho:=ho.aM s2;replace fc:=(s2.mem _ (ak hW.at_)).2 fc;replace hW:=hW.aM s2;replace hR:=hR.aM s2;replace hM:=s2.lt hM;have:=S.size;replace S:=S.aB s2;refine ah rfl rfl (ab (aj (ae (ad rfl rfl (fp rfl rfl rfl (ab ?_))))));refine bP rfl (fun c2=>?_) (fun c2=>?_)
 ·refine aj (ae (ad rfl rfl (ah rfl rfl (ab (aN ?_)))));have ea:mV last e=lR e.1:=if_pos c2;exact aU rfl rfl ⟨_,hM,S,by rw[ea],fun _=>⟨mb,vl,es,clock,gb,dZ,fc,hB,Ho,ho,hW,hR,zl⟩,fun h=>absurd (ea▸h) c2⟩
 ·have hF:kT e.1:=Hq (by simpa using c2);refine aT (aj (aj ?_));apply uO mixed rfl rfl;intro wD4 sA4;have F3:=sA4 M;have:=ak gb;replace dZ:=(F3.mem _ this).2 dZ;replace gb:=F3.aK gb;replace dp:=dp.le (by decide) F3.le;replace ho:=ho.aM F3;replace fc:=(F3.mem _ (ak hW.at_)).2 fc;replace hW:=hW.aM F3;replace hR:=hR.aM F3;replace hM:=F3.lt hM;have:=S.size;replace S:=S.aB F3;refine aS (M:=M) (A:=RT.en) (B:=RT.int .i64) dU rfl rfl I3 (by decide) en1 rfl rfl (by decide) dp (aq _ _) (fun Tu Hg=>?_);refine ab ⟨rfl,rfl,rfl,?_⟩;refine cd (M:=M) aw rfl rfl (by assumption) (by repeat (first|exact aq _ _|refine aY (bu (by assumption)) ?_)) (fun Rh=>?_);refine aV (v':= .int .i64 (e.2)) rfl ?_;replace Rh: -9223372036854775808≤(e.2:Int)∧e.2≤9223372036854775807:=Rh;refine ab ⟨rfl,rfl,rfl,?_⟩;refine ad rfl rfl ?_;refine ab ⟨rfl,rfl,rfl,?_⟩;refine bS rfl ⟨_,rfl⟩ rfl ?_;refine ab ⟨rfl,rfl,rfl,?_⟩;refine bN (o':=3) dN rfl rfl I3 (by decide) rfl rfl ?_;refine ab ⟨rfl,rfl,rfl,?_⟩;refine aL aw rfl rfl rfl (by first|assumption|exact cR F3 (by assumption)) rfl ?_;refine ab ⟨rfl,rfl,rfl,?_⟩;refine gN rfl rfl rfl ?_;refine ab ⟨rfl,rfl,rfl,?_⟩;refine ff ?_;refine bP rfl (fun c4=>?_) (fun c4=>?_)
  ·refine aj (ae (ah rfl rfl (ab (aN ?_))));have ea:mV last e=12:=by unfold mV;rw[if_neg (fun h=>h (by simpa using c2)),if_pos c4]
   exact aU rfl rfl ⟨_,hM,S,by rw[ea],fun _=>⟨mb,vl,es,clock,gb,dZ,fc,hB,Ho,ho,hW,hR,zl⟩,fun h=>absurd (ea▸h) (by decide)⟩
  ·refine aT (aj (ae ?_));refine aS (M:=M) (A:=RT.en) (B:=RT.dc) dU rfl rfl oZ (by decide) XH rfl rfl (by decide) dp (aq _ _) (fun XP K1=>?_);refine de (M:=M) (A:=RT.dc) a8 rfl oZ (by decide) rfl rfl rfl K1 (aq _ _) (fun TM yx=>?_);refine aX rfl rfl E87 (DJ _ hM yx hF hl) (fun r6 w6 hc=>?_);obtain⟨a6,b6,rfl,ha,qG,s6⟩:=hc;have:=ak gb;replace dZ:=(s6.mem _ this).2 dZ;replace gb:=s6.aK gb;replace dp:=dp.le (by decide) s6.le;replace ho:=ho.aM s6;replace fc:=(s6.mem _ (ak hW.at_)).2 fc;replace hW:=hW.aM s6;replace hR:=hR.aM s6;replace hM:=s6.lt hM;have:=S.size;replace S:=S.aB s6;refine ad rfl rfl (bK rfl rfl rfl (bK rfl rfl rfl (ah rfl rfl (ah rfl rfl (ab (aj (aj (ae (ad rfl rfl (bJ jP rfl ha rfl (ad rfl rfl ?_)))))))))));refine ab (aZ ?_);refine dn (σ:=Nat) (fun q=>[(0,.pointer (some ⟨b,0,none⟩)),(3,u0),(7,b6),(30,a6),(31,.int .i64 ((cU (pM e)).length:Int)),(32,.int .i64 (q:Int))]) (fun q w=>∃M' es clock,Lt M' w∧Step M w0 M' w (LO M Z)∧dg RT.en M' w u0 e∧(RT.fd.sl).V M' w (cU (pM e)) a6∧(((RT.int .i64).sl).sl).V M' w ((cU (pM e)).map (posOf (pM e))) b6∧Buf Z M' w B b mb vl L words last (LP L (pM e) q) (fun x=>x∈iE L∨x∈((cU (pM e)).take q).map gH) es clock∧q≤(cU (pM e)).length) (fun q=>(cU (pM e)).length-q) 0 (.cons rfl (.cons rfl (.cons rfl (.cons rfl (.cons rfl (.cons rfl .nil)))))) ?_ ?_
   ·exact⟨_,es,clock,hM,S,dp,ha,qG,⟨gb,dZ,fc,hB,Ho,ho,hW,hR.congr (fun k=>LQ _ _ _) (fun k=>by simp),zl⟩,bG _⟩
   ·clear hM S dp ha qG gb dZ fc ho hW hR;rintro i w ⟨M1,es,clock,hM,S,dp,ha,qG,⟨gb,dZ,fc,_,_,ho,hW,hR,_⟩,hi⟩;refine aj (ae (cf rfl rfl rfl (ab (aj ?_))));refine bP rfl (fun c8=>?_) (fun c8=>?_)
    ·refine aT (aj (aZ (aj (ae (ad rfl rfl ?_)))));refine cF (M:=M1) jP Au rfl rfl rfl ha (aq _ _) (by omega) (fun Yk t Q1 eL=>?_);rw[ay]at Q1;have OA:=aA Q1;have J4:=hF.term OA;refine de (M:=M1) (A:=RT.fd) dF rfl Au (by decide) rfl rfl rfl eL (aq _ _) (fun aei LW=>?_);obtain rfl:=sU LW;refine ey M1 Au rfl (fun yL Xj an1 an2 pg qu=>?_);obtain⟨wI,LX⟩:∃M',M'=ins M1 yL:=⟨_,rfl⟩;rw[←LX]at qu;have BO:wI yL:=by rw[LX];exact .inl rfl
     change Xj.heap[yL]? =some (.cells #[.string ⟨#[]⟩,.string ⟨#[]⟩] _ _)at pg;have:=ak gb;replace dZ:=(qu.mem _ this).2 dZ;replace gb:=qu.aK gb;replace dp:=dp.le (by decide) qu.le;replace ha:=ha.le qu.le;replace qG:=qG.le qu.le;replace ho:=ho.aM qu;replace fc:=(qu.mem _ (ak hW.at_)).2 fc;replace hW:=hW.aM qu;replace hR:=hR.aM qu;replace hM:=qu.lt hM;have:=S.size;replace S:=S.aB qu;refine ah rfl rfl ?_;refine ez (M:=wI) (vs:=[.string ⟨t.1.toArray⟩,.string ⟨t.2.toArray⟩]) Au rfl rfl (BL rfl LW) rfl rfl pg BO (fun w9 g9 s9=>?_);have:=ak gb;replace dZ:=(s9.mem _ this).2 dZ;replace gb:=s9.keep gb (fun hk=>by have hk:_=_:=hk;omega);have:=ak pg;replace BO:=(s9.mem _ this).2 BO;replace dp:=dp.le (by decide) s9.le;replace ha:=ha.le s9.le;replace qG:=qG.le s9.le;replace ho:=ho.step s9 (fun c hc (h:_=_)=>by first|exact ho.eK gb (by decide) (h▸hc)|exact ho.eK pg (by decide) (h▸hc));replace fc:=(s9.mem _ (ak hW.at_)).2 fc;replace hW:=hW.step s9 (by first|exact fun h=>ho.kR hW.at_ h|exact fun(h:mb=b)=>Ra h.symm|exact fun(h:mb=yL)=>by have h9:=hW.at_;rw[h,pg]at h9;cases h9);replace hR:=hR.step s9 (by first|exact fun k v c hv hc h=>(hR.o k v hv).dA ho (by decide) hc h|exact fun k v c hv hc (h:c=b)=>(hR.o k v hv).eK gb (by decide) (h▸hc)|exact fun k v c hv hc (h:c=yL)=>(hR.o k v hv).eK pg (by decide) (h▸hc));replace hM:=s9.lt hM;have:=S.size;replace S:=S.trans s9 (fun k hk h=>by have h:_=_:=h;subst h;first|(exfalso;omega)|(show _≤_;omega)|exact⟨by first|omega|assumption,(S.mem _ hk).1 ((s9.mem _ (ak pg)).1 BO)⟩|exact .inl rfl|exact .inr rfl|exact .inr (.inl rfl)|exact .inr (.inr rfl)|exact .inr (.inr (.inl rfl))|exact rfl);have Ri:=g9;clear pg;have pg:=Ri;clear Ri;refine ab (aj (ae (iM (vs:=[.string ⟨t.1.toArray⟩,.string ⟨t.2.toArray⟩]) dF rfl Au rfl rfl rfl pg ?_)))
     refine aX rfl rfl E80 (Lq (t:=t) _ hM (by omega) (by omega)) (fun r10 w10 hc=>?_);obtain⟨rfl,Cm⟩:=hc;have:=ak gb;replace dZ:=(Cm.mem _ this).2 dZ;replace gb:=Cm.aK gb;replace dp:=dp.le (by decide) Cm.le;replace ha:=ha.le Cm.le;replace qG:=qG.le Cm.le;replace ho:=ho.aM Cm;replace fc:=(Cm.mem _ (ak hW.at_)).2 fc;replace hW:=hW.aM Cm;replace hR:=hR.aM Cm;replace hM:=Cm.lt hM;have:=S.size;replace S:=S.aB Cm;refine ah rfl rfl (ab ?_);obtain⟨v10,pW⟩:=eh.ex kQ es (sv (gH t));apply T.ql 21 [0,1,2,3,4,5,6,7,8,9,10] 2 (fP v10) mixed rfl rfl rfl rfl;intro LY LZ;have jh:=LZ wI;have:=ak gb;replace dZ:=(jh.mem _ this).2 dZ;replace gb:=jh.aK gb;replace dp:=dp.le (by decide) jh.le;replace ha:=ha.le jh.le;replace qG:=qG.le jh.le;replace ho:=ho.aM jh;replace fc:=(jh.mem _ (ak hW.at_)).2 fc;replace hW:=hW.aM jh;replace hR:=hR.aM jh;replace hM:=jh.lt hM;have:=S.size;replace S:=S.aB jh;refine ad rfl rfl ?_;refine ab ⟨rfl,rfl,rfl,?_⟩;refine bS rfl ⟨_,rfl⟩ rfl ?_;refine ab ⟨rfl,rfl,rfl,?_⟩;refine bN (o':=1) dN rfl rfl F2 (by decide) rfl rfl ?_;refine ab ⟨rfl,rfl,rfl,?_⟩;refine aL iF rfl rfl rfl (by first|assumption|exact cR jh (by assumption)) rfl ?_;refine ab ⟨rfl,rfl,rfl,?_⟩;refine ad rfl rfl ?_;refine ab ⟨rfl,rfl,rfl,?_⟩;refine ad rfl rfl ?_;refine ab ⟨rfl,rfl,rfl,?_⟩;refine bS rfl ⟨_,rfl⟩ rfl ?_;refine ab ⟨rfl,rfl,rfl,?_⟩;refine bN (o':=1) dN rfl rfl F2 (by decide) rfl rfl ?_;refine ab ⟨rfl,rfl,rfl,?_⟩;refine aL iF rfl rfl rfl (by first|assumption|exact cR jh (by assumption)) rfl ?_;refine ab ⟨rfl,rfl,rfl,?_⟩;refine ad rfl rfl ?_;refine ab ⟨rfl,rfl,rfl,?_⟩;obtain⟨kl,E5⟩:=LN (gH t) (by unfold gH;simp;omega);refine Rg.tU iF uk zV rfl rfl rfl E5 hW (fun aej aek=>?_)
     obtain rfl:v10=aej:=hW.val_one pW aek;have tu:=Pp hLF (pM e) i (gH t);have H3:(cU (pM e)).length≤500:=AP hF;refine ab ⟨rfl,rfl,rfl,?_⟩;refine ad rfl rfl ?_;refine ab ⟨rfl,rfl,rfl,?_⟩;refine bS rfl ⟨_,rfl⟩ rfl ?_;refine ab ⟨rfl,rfl,rfl,?_⟩;refine bN (o':=0) dN rfl rfl Yj (by decide) rfl rfl ?_;refine ab ⟨rfl,rfl,rfl,?_⟩;refine aL ej rfl rfl rfl (by first|assumption|exact cR jh (by assumption)) rfl ?_;refine ab ⟨rfl,rfl,rfl,?_⟩;refine fS ej rfl ho rfl ?_;refine ab ⟨rfl,rfl,rfl,?_⟩;refine ad rfl rfl ?_;refine ab ⟨rfl,rfl,rfl,?_⟩;refine ad rfl rfl ?_;refine ab ⟨rfl,rfl,rfl,?_⟩;refine cF (M:=wI) cK kG rfl rfl rfl qG (aq _ _) (by simp;omega) (fun u18 ps Yl ael=>?_);rw[ay,bB,Q1]at Yl;obtain rfl:=aJ Yl;refine ab ⟨rfl,rfl,rfl,?_⟩;refine bV (M:=wI) ao rfl rfl rfl rfl rfl ael (aq _ _) (fun v19 Ym=>?_);refine ab ⟨rfl,rfl,rfl,?_⟩;refine iW (places:=[(0,1),(1,1)]) bW o0 W0 rfl ⟨_,_,rfl,rfl,_,_,rfl,rfl,rfl⟩ (out:=[_,_]) ⟨0,[_],rfl,rfl,by simp[Value.cells],1,[_],rfl,kZ Ym,by simp[Value.cells],rfl⟩ ?_;have Co:RT.po.V wI _ ((L.length:Int),posOf (pM e) t) _:=eV (gm (by omega)) Ym rfl rfl rfl rfl;refine ab ⟨rfl,rfl,rfl,?_⟩;refine ff ?_;have rY:=hR.o _ _ pW;refine⟨jd ⟨gR,⟨bZ.nilCheck rfl,⟨jj dN rfl F2 (by decide),⟨eI rfl gb (fun h=>rY.eK gb (by decide) h),⟨gR,⟨gR,⟨bZ.nilCheck rfl,⟨jj dN rfl F2 (by decide),⟨eI rfl gb (fun h=>rY.eK gb (by decide) h),⟨gR,⟨bZ.tU iF uk zV rfl rfl E5 hW (fun h=>rY.kR hW.at_ h),trivial⟩⟩⟩⟩⟩⟩⟩⟩⟩⟩⟩,?_⟩;have kp:=kd (fP v10) LY;refine dQ (A:=RT.po) (hn:=by decide) (M:=wI) bF o0 (by decide) rfl rfl hM (Co) (.inl rfl) (fun aem aen Pq mI=>?_)
     have:=ak gb;replace dZ:=(mI.mem _ this).2 dZ;replace gb:=mI.aK gb;replace dp:=dp.le (by decide) mI.le;replace ha:=ha.le mI.le;replace qG:=qG.le mI.le;replace ho:=ho.aM mI;replace fc:=(mI.mem _ (ak hW.at_)).2 fc;replace hW:=hW.aM mI;replace hR:=hR.aM mI;replace hM:=mI.lt hM;have:=S.size;replace S:=S.aB mI;refine(fun(kp:eO _ _ _)=>ab ⟨rfl,rfl,fun _=>kp,?_⟩) (by first|exact kp|exact kp.sG (by assumption)|exact kp.goN (by assumption)|exact kp.go (by assumption) (fun _ _ h=>by first|exact h|exact h.elim));refine nP (M:=wI) (base:=B) bF o0 rfl rfl rfl rfl (hR.o _ _ pW) Pq (aq _ _) (by simp;omega) (by simp;omega) (by have:=S.size;omega) (fun v22 w22 aeo L0 aep=>?_);have rY:=hR.o _ _ pW;have ajr:=hW.at_;have Yn:v10.ownBlock≠some mb:=rY.kR hW.at_;have Rj:=ho.step L0 (fun c hc h=>ho.dA rY (by decide) hc h);have F4:=(L0.mem _ (ak hW.at_)).2 fc;have Pr:=hW.step L0 Yn;have Yo:=L0.keep gb (fun h=>rY.eK gb (by decide) h);have Uc:=(L0.mem _ (ak gb)).2 dZ;have S22:=S.trans L0 (fun k hk h=>⟨hR.z _ _ k pW h,(S.mem k hk).1 (rY.mut_ k h)⟩);have aeq:=L0.lt hM;replace dp:=dp.le (by decide) L0.le;replace ha:=ha.le L0.le;replace qG:=qG.le L0.le;refine(fun(kp:eO _ _ _)=>ab ⟨rfl,rfl,fun _=>kp,?_⟩) (by first|exact kp|exact kp.sG (by assumption)|exact kp.goN (by assumption)|exact kp.go (by assumption) (fun _ _ h=>by first|exact h|exact h.elim));refine Rg.Pd iF uk rfl rfl rfl E5 Pr F4 (fun w23 aer aes aet aeu Ud N7=>?_);have aev:=hR.put (fun c hc=>hZ c (by have:=S.size;omega)) pW aeo L0 aep Pr.at_ N7 Ud aeu;replace dp:=dp.le (by decide) N7.le;replace ha:=ha.le N7.le;replace qG:=qG.le N7.le;have aew:=Rj.step N7 (fun c hc (h:c=mb)=>Rj.kR Pr.at_ (h▸hc));have aex:=N7.keep Yo Ra;have Ue:=(N7.mem _ (ak Yo)).2 Uc
     have Uf:=(N7.mem _ (ak Pr.at_)).2 F4;have aey:=N7.lt aeq;have S23:=S22.trans N7 (fun k hk (h:k=mb)=>⟨by rw[h];exact Ho,(S22.mem k hk).1 (by rw[h];exact F4)⟩);refine ab ⟨rfl,rfl,fun h=>absurd rfl h,?_⟩;refine nN (ae (bD rfl rfl rfl (by omega) (ad rfl rfl (ab ?_))));refine⟨rfl,i+1,(.cons rfl (.cons rfl (.cons rfl (.cons rfl (.cons rfl (.cons rfl .nil)))))),?_,?_⟩
     ·exact⟨_,aer,aes,aey,S23,dp,ha,qG,⟨aex,Ue,Uf,hB,Ho,aew,aet,aev.congr (fun k=>LR Q1 k) (fun k=>by rw[cb,Q1,cY,eA,ck,or_assoc];simp),zl⟩,by omega⟩
     ·omega
    ·refine cL (aj ?_);apply T.ql 6 [0,1,2,3,4] 3 (fP vl) mixed rfl rfl rfl rfl;intro Ty Tz;have o7:=Tz M1;have:=ak gb;replace dZ:=(o7.mem _ this).2 dZ;replace gb:=o7.aK gb;replace dp:=dp.le (by decide) o7.le;replace ha:=ha.le o7.le;replace qG:=qG.le o7.le;replace ho:=ho.aM o7;replace fc:=(o7.mem _ (ak hW.at_)).2 fc;replace hW:=hW.aM o7;replace hR:=hR.aM o7;replace hM:=o7.lt hM;have:=S.size;replace S:=S.aB o7;refine ad rfl rfl ?_;refine ab ⟨rfl,rfl,rfl,?_⟩;refine ad rfl rfl ?_;refine ab ⟨rfl,rfl,rfl,?_⟩;refine bS rfl ⟨_,rfl⟩ rfl ?_;refine ab ⟨rfl,rfl,rfl,?_⟩;refine bN (o':=0) dN rfl rfl Yj (by decide) rfl rfl ?_;refine ab ⟨rfl,rfl,rfl,?_⟩;refine aL ej rfl rfl rfl gb rfl (aV (v':=vl) rfl ?_);refine ab ⟨rfl,rfl,rfl,?_⟩;refine de (M:=M1) (A:=RT.en) dU rfl G6 (by decide) rfl rfl rfl dp (aq _ _) (fun QY BC=>?_);refine ab ⟨rfl,rfl,rfl,?_⟩;refine ff ?_;refine⟨jd ⟨gR,⟨gR,⟨bZ.nilCheck rfl,⟨jj dN rfl Yj (by decide),⟨eI rfl gb (fun h=>ho.eK gb (by decide) h),trivial⟩⟩⟩⟩⟩,?_⟩;have kp:=kd (fP vl) Ty;refine aX rfl rfl E88 (LD _ hM BC (by have:=hF.few;omega)) (fun ajt w13 hc=>?_);obtain⟨F5,Cp⟩:=hc;have:=ak gb;replace dZ:=(Cp.mem _ this).2 dZ;replace gb:=Cp.aK gb;replace dp:=dp.le (by decide) Cp.le;replace ha:=ha.le Cp.le;replace qG:=qG.le Cp.le;replace ho:=ho.aM Cp;replace fc:=(Cp.mem _ (ak hW.at_)).2 fc;replace hW:=hW.aM Cp;replace hR:=hR.aM Cp;replace hM:=Cp.lt hM;have:=S.size;replace S:=S.aB Cp;refine(fun(kp:eO _ _ _)=>ab ⟨rfl,rfl,fun _=>kp,?_⟩) (by first|exact kp|exact kp.sG (by assumption)|exact kp.goN (by assumption)|exact kp.go (by assumption) (fun _ _ h=>by first|exact h|exact h.elim));refine dQ (A:=RT.en) (hn:=by decide) (M:=M1) ej G6 (by decide) rfl rfl hM (F5) (.inl rfl) (fun ajv ajw Ug pN=>?_)
     have:=ak gb;replace dZ:=(pN.mem _ this).2 dZ;replace gb:=pN.aK gb;replace dp:=dp.le (by decide) pN.le;replace ha:=ha.le pN.le;replace qG:=qG.le pN.le;replace F5:=F5.le pN.le;replace ho:=ho.aM pN;replace fc:=(pN.mem _ (ak hW.at_)).2 fc;replace hW:=hW.aM pN;replace hR:=hR.aM pN;replace hM:=pN.lt hM;have:=S.size;replace S:=S.aB pN;refine(fun(kp:eO _ _ _)=>ab ⟨rfl,rfl,fun _=>kp,?_⟩) (by first|exact kp|exact kp.sG (by assumption)|exact kp.goN (by assumption)|exact kp.go (by assumption) (fun _ _ h=>by first|exact h|exact h.elim));refine nP (M:=M1) (base:=B) ej G6 rfl rfl rfl rfl ho Ug (aq _ _) (by simp;omega) (by simp;omega) (by have:=S.size;omega) (fun DN ajx Uh wJ aez=>?_);replace dZ:=(wJ.mem _ (ak gb)).2 dZ
     have zl':∀c,DN.ownBlock=some c→Z c:=fun c hc=>by
      rcases aez c hc with h|h
      ·exact hZ c (by have:=S.size;omega)
      ·exact zl c h
     replace hR:=hR.step wJ (fun k v c hv hc h=>(hR.o k v hv).dA ho (by decide) hc h);replace fc:=(wJ.mem _ (ak hW.at_)).2 fc;replace hW:=hW.step wJ (fun h=>ho.kR hW.at_ h);replace gb:=wJ.keep gb (fun h=>ho.eK gb (by decide) h);replace dp:=dp.le (by decide) wJ.le;replace S:=S.trans wJ (fun k hk h=>⟨zl k h,(S.mem k hk).1 (ho.mut_ k h)⟩);replace hM:=wJ.lt hM;replace ho:=Uh;obtain⟨Hu,L3⟩:∃M',M'=jA M1 DN:=⟨_,rfl⟩;rw[←L3]at hR fc dp S hM ho dZ;refine(fun(kp:eO _ _ _)=>ab ⟨rfl,rfl,fun _=>kp,?_⟩) (by first|exact kp|exact kp.sG (by assumption)|exact kp.goN (by assumption)|exact kp.go (by assumption) (fun _ _ h=>by first|exact h|exact h.elim));refine bS rfl ⟨_,rfl⟩ rfl ?_;refine ab ⟨rfl,rfl,fun h=>absurd rfl h,?_⟩;refine bN (o':=0) dN rfl rfl Yj (by decide) rfl rfl ?_;refine ab ⟨rfl,rfl,fun h=>absurd rfl h,?_⟩;refine cu (M:=Hu) Yj rfl rfl gb rfl (by obtain⟨_,_,he,_⟩:=ho.isSlice;rw[he];rfl) dZ (fun Ui L4 ph=>?_);change Ui.heap[_]? =some (Obj.cells #[DN,.map (some mb),.int .i64 words,.int .i64 last] _ _)at L4;have:=ak gb;replace dZ:=(ph.mem _ this).2 dZ;replace dp:=dp.le (by decide) ph.le;replace ho:=ho.step ph (fun c hc (h:_=_)=>by first|exact ho.eK gb (by decide) (h▸hc)|exact ho.eK pg (by decide) (h▸hc));replace fc:=(ph.mem _ (ak hW.at_)).2 fc;replace hW:=hW.step ph (by first|exact fun h=>ho.kR hW.at_ h|exact fun(h:mb=b)=>Ra h.symm|exact fun(h:mb=yL)=>by have h9:=hW.at_;rw[h,pg]at h9;cases h9);replace hR:=hR.step ph (by first|exact fun k v c hv hc h=>(hR.o k v hv).dA ho (by decide) hc h|exact fun k v c hv hc (h:c=b)=>(hR.o k v hv).eK gb (by decide) (h▸hc)|exact fun k v c hv hc (h:c=yL)=>(hR.o k v hv).eK pg (by decide) (h▸hc));replace hM:=ph.lt hM;have:=S.size;replace S:=S.trans ph (fun k hk h=>by have h:_=_:=h;subst h;first|(exfalso;omega)|(show _≤_;omega)|exact⟨by first|omega|assumption,(S.mem _ hk).1 ((ph.mem _ (ak gb)).1 dZ)⟩|exact .inl rfl|exact .inr rfl|exact .inr (.inl rfl)|exact .inr (.inr rfl)|exact .inr (.inr (.inl rfl))|exact rfl)
     have Ln:=L4;clear gb;have gb:=Ln;clear Ln;refine ab ⟨rfl,rfl,fun h=>absurd rfl h,?_⟩;refine nN (aj ?_);apply T.ql 6 [0,1,2,3] 1 aD mixed rfl rfl rfl rfl;intro Uj L5;have rC:=L5 Hu;have:=ak gb;replace dZ:=(rC.mem _ this).2 dZ;replace gb:=rC.aK gb;replace dp:=dp.le (by decide) rC.le;replace ho:=ho.aM rC;replace fc:=(rC.mem _ (ak hW.at_)).2 fc;replace hW:=hW.aM rC;replace hR:=hR.aM rC;replace hM:=rC.lt hM;have:=S.size;replace S:=S.aB rC;refine ad rfl rfl ?_;refine ab ⟨rfl,rfl,rfl,?_⟩;refine bS rfl ⟨_,rfl⟩ rfl ?_;refine ab ⟨rfl,rfl,rfl,?_⟩;refine bN (o':=2) dN rfl rfl I3 (by decide) rfl rfl ?_;refine ab ⟨rfl,rfl,rfl,?_⟩;refine aL aw rfl rfl rfl (by first|assumption|exact cR rC (by assumption)) rfl ?_;refine ab ⟨rfl,rfl,rfl,?_⟩;refine aS (M:=Hu) (A:=RT.en) (B:=RT.dc) dU rfl rfl oZ (by decide) XH rfl rfl (by decide) dp (aq _ _) (fun ajy Uk=>?_);refine ab ⟨rfl,rfl,rfl,?_⟩;refine de (M:=Hu) (A:=RT.dc) a8 rfl oZ (by decide) rfl rfl rfl Uk (aq _ _) (fun ajz Ul=>?_);refine ab ⟨rfl,rfl,rfl,?_⟩;refine ff ?_;refine⟨jd ⟨gR,⟨bZ.nilCheck rfl,⟨jj dN rfl I3 (by decide),⟨eI rfl gb (fun h=>h),trivial⟩⟩⟩⟩,?_⟩;have kp:=kd aD Uj;refine aX rfl rfl E89 (Dt _ hM Ul hl hF.few) (fun r14 TQ hc=>?_);obtain⟨rfl,jV⟩:=hc;have:=ak gb;replace dZ:=(jV.mem _ this).2 dZ;replace gb:=jV.aK gb;replace dp:=dp.le (by decide) jV.le;replace ho:=ho.aM jV;replace fc:=(jV.mem _ (ak hW.at_)).2 fc;replace hW:=hW.aM jV;replace hR:=hR.aM jV;replace hM:=jV.lt hM;have:=S.size;replace S:=S.aB jV;refine(fun(kp:eO _ _ _)=>ab ⟨rfl,rfl,fun _=>kp,?_⟩) (by first|exact kp|exact kp.sG (by assumption)|exact kp.goN (by assumption)|exact kp.go (by assumption) (fun _ _ h=>by first|exact h|exact h.elim))
     have:=hF.many;refine bD rfl rfl rfl (by omega) ?_;refine ab ⟨rfl,rfl,fun h=>absurd rfl h,?_⟩;refine bS rfl ⟨_,rfl⟩ rfl ?_;refine ab ⟨rfl,rfl,fun h=>absurd rfl h,?_⟩;refine bN (o':=2) dN rfl rfl I3 (by decide) rfl rfl ?_;refine ab ⟨rfl,rfl,fun h=>absurd rfl h,?_⟩;refine cu (M:=Hu) I3 rfl rfl gb rfl (rfl) dZ (fun Um L6 pj=>?_);change Um.heap[_]? =some (Obj.cells #[DN,.map (some mb),.int .i64 (words+((pM e).length:Int)),.int .i64 last] _ _)at L6;have:=ak gb;replace dZ:=(pj.mem _ this).2 dZ;replace dp:=dp.le (by decide) pj.le;replace ho:=ho.step pj (fun c hc (h:_=_)=>by first|exact ho.eK gb (by decide) (h▸hc)|exact ho.eK pg (by decide) (h▸hc));replace fc:=(pj.mem _ (ak hW.at_)).2 fc;replace hW:=hW.step pj (by first|exact fun h=>ho.kR hW.at_ h|exact fun(h:mb=b)=>Ra h.symm|exact fun(h:mb=yL)=>by have h9:=hW.at_;rw[h,pg]at h9;cases h9);replace hR:=hR.step pj (by first|exact fun k v c hv hc h=>(hR.o k v hv).dA ho (by decide) hc h|exact fun k v c hv hc (h:c=b)=>(hR.o k v hv).eK gb (by decide) (h▸hc)|exact fun k v c hv hc (h:c=yL)=>(hR.o k v hv).eK pg (by decide) (h▸hc));replace hM:=pj.lt hM;have:=S.size;replace S:=S.trans pj (fun k hk h=>by have h:_=_:=h;subst h;first|(exfalso;omega)|(show _≤_;omega)|exact⟨by first|omega|assumption,(S.mem _ hk).1 ((pj.mem _ (ak gb)).1 dZ)⟩|exact .inl rfl|exact .inr rfl|exact .inr (.inl rfl)|exact .inr (.inr rfl)|exact .inr (.inr (.inl rfl))|exact rfl);have Ln:=L6;clear gb;have gb:=Ln;clear Ln;refine ab ⟨rfl,rfl,fun h=>absurd rfl h,?_⟩;refine nN (aj (ae (ad rfl rfl ?_)));refine aS (M:=Hu) (A:=RT.en) (B:=RT.int .i64) dU rfl rfl I3 (by decide) en1 rfl rfl (by decide) dp (aq _ _) (fun ajA aeA=>?_);refine cd (M:=Hu) aw rfl rfl (by assumption) (by repeat (first|exact aq _ _|refine aY (bu (by assumption)) ?_)) (fun L7=>?_)
     refine aV (v':= .int .i64 (e.2)) rfl ?_;replace L7: -9223372036854775808≤(e.2:Int)∧e.2≤9223372036854775807:=L7;refine bS rfl ⟨_,rfl⟩ rfl (bN (o':=3) dN rfl rfl I3 (by decide) rfl rfl ?_);refine cu (M:=Hu) I3 rfl rfl gb rfl (rfl) dZ (fun Rk Rl j3=>?_);change Rk.heap[_]? =some (Obj.cells #[DN,.map (some mb),.int .i64 (words+((pM e).length:Int)),.int .i64 e.2] _ _)at Rl;have:=ak gb;replace dZ:=(j3.mem _ this).2 dZ;replace dp:=dp.le (by decide) j3.le;replace ho:=ho.step j3 (fun c hc (h:_=_)=>by first|exact ho.eK gb (by decide) (h▸hc)|exact ho.eK pg (by decide) (h▸hc));replace fc:=(j3.mem _ (ak hW.at_)).2 fc;replace hW:=hW.step j3 (by first|exact fun h=>ho.kR hW.at_ h|exact fun(h:mb=b)=>Ra h.symm|exact fun(h:mb=yL)=>by have h9:=hW.at_;rw[h,pg]at h9;cases h9);replace hR:=hR.step j3 (by first|exact fun k v c hv hc h=>(hR.o k v hv).dA ho (by decide) hc h|exact fun k v c hv hc (h:c=b)=>(hR.o k v hv).eK gb (by decide) (h▸hc)|exact fun k v c hv hc (h:c=yL)=>(hR.o k v hv).eK pg (by decide) (h▸hc));replace hM:=j3.lt hM;have:=S.size;replace S:=S.trans j3 (fun k hk h=>by have h:_=_:=h;subst h;first|(exfalso;omega)|(show _≤_;omega)|exact⟨by first|omega|assumption,(S.mem _ hk).1 ((j3.mem _ (ak gb)).1 dZ)⟩|exact .inl rfl|exact .inr rfl|exact .inr (.inl rfl)|exact .inr (.inr rfl)|exact .inr (.inr (.inl rfl))|exact rfl);have Ln:=Rl;clear gb;have gb:=Ln;clear Ln;refine ab (aj (ae (ah rfl rfl (ab (aN ?_)))));have ea:mV last e=0:=by unfold mV;rw[if_neg (fun h=>h (by simpa using c2)),if_neg c4]
     exact aU rfl rfl ⟨_,hM,S,by rw[ea],fun h=>absurd ea h,fun _=>⟨mb,_,es,clock,gb,dZ,fc,hB,Ho,ho,hW,hR.congr (fun k=>(Pn (by omega) k).symm) (fun k=>by rw[FX,ck,br (by omega)]),zl'⟩⟩
end Go.K

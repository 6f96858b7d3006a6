/- What the law 'MergeBuilds' needs of walks and plain Lean, part 3: nothing is assumed beyond the texts that it imports. -/
import Derived.Deep.Draws
import Derived.DeepKeys4
import Derived.Ground.GgzProg
import Derived.Ground.SlgmProg
import Derived.Ground.SlsfProg
import Derived.KernelRfl
import Derived.Lib.Bytealg
import Derived.Shelf.SlGeneric
import Derived.Shelf.SlIter.Nil
import Derived.Shelf.SlIterI.Nil
import Derived.Shelf.SlSortCmp.NoneTotal
import Derived.Shelf.SortM.Plain
import Derived.Shelf.SortM.SortNone
import Derived.Sort.Grow
import Derived.Sort.KeysCollected
import Derived.Sort.Walk0
import Derived.Test.YtbobcaffmbaadaaGreatDoorProg
import Derived.Test.YtbobcaffmbaadaaGreatDoorZMergeBuilds1
import Derived.Test.YtbobcaffmbaadaaGreatDoorZMergeBuilds2
set_option linter.unusedVariables false
set_option linter.unusedSimpArgs false
theorem nr:type_of% @Go.K.Rg.invoke:=@Go.K.Rg.invoke
theorem qs:type_of% @Go.K.Rg.pI:=@Go.K.Rg.pI
theorem xd:type_of% @Go.K.Rg.tz:=@Go.K.Rg.tz
theorem yg:type_of% @Go.K.Rg.mK:=@Go.K.Rg.mK
namespace Go.K
open Go.Proofs
set_option maxRecDepth 10000
theorem Bx {M:aD} {d:Dc} {v0:Value} (w0:World) (hM:Lt M w0) (hv:RT.dc.V M w0 d v0) (hl:∀f∈d.2,f.1.length≤900000∧f.2.length≤900000):
  Spec Tryz.prog 94 #[v0] w0 (fun v w=>v= .int .i64 (l6 d)∧Step M w0 M w aC):=by
 have jO:=hM;refine bg (args:=[_]) (fn:=Tryz.f94) Tryz.func94 rfl (n:=66) Tryz.ntmps94 ?_;have S:Step M w0 M w0 aC:=(au _ _).cB (fun _ h=>h.elim) (fun _ h=>h.elim);refine aj (ae ?_);refine qs (A:=RT.dc) rfl rfl hM hv rfl (fun u0 w1 dx s0 _=>?_);replace hM:=s0.lt hM;have:=S.size;replace S:=S.aB s0;refine ah rfl rfl (ab (aj (aj (ae ?_))));refine aQ (M:=M) (A:=RT.dc) (B:=(RT.fd).sl) bm rfl rfl wo (by decide) (JZ) rfl rfl (by decide) (by assumption) (by repeat (first|exact aq _ _|refine bc (bF (by assumption)) ?_)) (fun CB nF=>?_);refine bU (M:=M) bB rfl rfl rfl rfl rfl (by assumption) (by repeat (first|exact aq _ _|refine bc (bF (by assumption)) ?_)) (fun AU nG=>?_);refine bN bB rfl nG rfl (jk rfl rfl rfl (ab ?_));refine bM rfl (fun c1=>?_) (fun c1=>?_)
 ·refine aj (ae (ah rfl rfl (ab (aP ?_))));exact aV rfl rfl ⟨by rw[l6,if_pos (by omega)],S.back⟩
 ·refine aT (aj (ae (ah rfl rfl (ab (aj (aj (ae (ah rfl rfl (ab (aY ?_))))))))));refine dh (σ:=Nat×Nat) (fun q=>[(1,u0),(3,.int .i64 (q.2:Int)),(4,.int .i64 (q.1:Int))]) (fun q w=>Lt M w∧Step M w0 M w aC∧cO RT.dc M w u0 d∧l6 d=AT (d.2.take q.1) (d.2.drop q.1) q.2∧q.1≤d.2.length∧q.2≤900001*q.1∧d.2.length≤8) (fun q=>d.2.length-q.1) (0,0) (.cons rfl (.cons rfl (.cons rfl .nil))) ?_ ?_
  ·exact⟨hM,S,dx,by rw[l6,if_neg (by omega)];rfl,bD _,aR _,by omega⟩
  ·rintro⟨i,n⟩ w ⟨hM,S,dx,G4,hi,hn,hd8⟩;dsimp only at G4 hi hn ⊢;refine aj (aj (ae (ad rfl rfl ?_)));refine aQ (M:=M) (A:=RT.dc) (B:=(RT.fd).sl) bm rfl rfl wo (by decide) (JZ) rfl rfl (by decide) (by assumption) (by repeat (first|exact aq _ _|refine bc (bF (by assumption)) ?_)) (fun af1 SP=>?_);refine bU (M:=M) bB rfl rfl rfl rfl rfl (by assumption) (by repeat (first|exact aq _ _|refine bc (bF (by assumption)) ?_)) (fun af3 SQ=>?_);refine bN bB rfl SQ rfl (cg rfl rfl rfl (ab ?_));refine bM rfl (fun c5=>?_) (fun c5=>?_)
   ·refine aT (aj (aY (aj (ae ?_))));refine aQ (M:=M) (A:=RT.dc) (B:=(RT.fd).sl) bm rfl rfl wo (by decide) (JZ) rfl rfl (by decide) (by assumption) (by repeat (first|exact aq _ _|refine bc (bF (by assumption)) ?_)) (fun ZR IH=>?_);refine bU (M:=M) bB rfl rfl rfl rfl rfl (by assumption) (by repeat (first|exact aq _ _|refine bc (bF (by assumption)) ?_)) (fun af4 SR=>?_);refine ad rfl rfl ?_;refine cv (M:=M) bB kO rfl rfl rfl SR (aq _ _) (by omega) (fun aqn x Ek al4=>?_);rw[ay]at Ek;refine aQ (M:=M) (A:=RT.fd) (B:=RT.str) cz rfl rfl I9 (by decide) (Ye) rfl rfl (by decide) (by assumption) (by repeat (first|exact aq _ _|refine bc (bF (by assumption)) ?_)) (fun aqo ZS=>?_);refine bU (M:=M) aK rfl rfl rfl rfl rfl ZS (aq _ _) (fun aqp ZT=>?_);obtain rfl:=gm ZT;have kM:=IF (n:=n) Ek;have ru:=hl _ (az Ek);refine aX rfl rfl E93 (zq x.1 (by omega) _) (fun r7 w7 hc=>?_);obtain⟨rfl,rfl⟩:=hc;refine ah rfl rfl (ab (aj (aj (ae (ad rfl rfl (lY rfl rfl (aU (v':= .bool (decide (gx x.1=false))) (by cases gx x.1<;>rfl) (ab ?_))))))));refine bM rfl (fun c8=>?_) (fun c8=>?_)
    ·refine aj (ae (ah rfl rfl (ab (aP ?_))));exact aV rfl rfl ⟨by rw[G4,kM,if_pos (by assumption)],S.back⟩
    ·refine aT (aj (aj (ae (ah rfl rfl (ab (aY ?_))))));refine dh (σ:=Nat) (fun j=>[(1,u0),(3,.int .i64 (n:Int)),(4,.int .i64 (i:Int)),(6,.int .i64 (j:Int))]) (fun j w=>Lt M w∧Step M w0 M w aC∧cO RT.dc M w u0 d∧j≤i∧∀k y,k<j→d.2[k]? =some y→y.1≠x.1) (fun j=>i-j) 0 (.cons rfl (.cons rfl (.cons rfl (.cons rfl .nil)))) ?_ ?_
     ·exact⟨hM,S,dx,bD _,fun k c h=>absurd h (Nat.not_lt_zero k)⟩
     ·rintro j w ⟨hM,S,dx,hj,ko⟩;refine aj (aj (ae (ad rfl rfl (ad rfl rfl (cg rfl rfl rfl (ab ?_))))));refine bM rfl (fun GV=>?_) (fun GV=>?_)
      ·refine aT (aj (aY (aj ?_)));apply nq mixed rfl rfl;intro Vu Vv;have pJ:=Vv M;replace dx:=dx.le (by decide) pJ.le;replace hM:=pJ.lt hM;have:=S.size;replace S:=S.aB pJ;refine aQ (M:=M) (A:=RT.dc) (B:=(RT.fd).sl) bm rfl rfl wo (by decide) (JZ) rfl rfl (by decide) (by assumption) (by repeat (first|exact aq _ _|refine bc (bF (by assumption)) ?_)) (fun al5 af5=>?_);refine ab ⟨rfl,rfl,rfl,?_⟩;refine bU (M:=M) bB rfl rfl rfl rfl rfl (by assumption) (by repeat (first|exact aq _ _|refine bc (bF (by assumption)) ?_)) (fun al6 Vw=>?_);refine ab ⟨rfl,rfl,rfl,?_⟩;refine ad rfl rfl ?_;refine ab ⟨rfl,rfl,rfl,?_⟩;refine cv (M:=M) bB kO rfl rfl rfl Vw (aq _ _) (by omega) (fun SU y G5 gr=>?_);rw[ay]at G5;refine ab ⟨rfl,rfl,rfl,?_⟩;refine aQ (M:=M) (A:=RT.fd) (B:=RT.str) cz rfl rfl I9 (by decide) (Ye) rfl rfl (by decide) (by assumption) (by repeat (first|exact aq _ _|refine bc (bF (by assumption)) ?_)) (fun fW zt=>?_);refine ab ⟨rfl,rfl,rfl,?_⟩;refine bU (M:=M) aK rfl rfl rfl rfl rfl zt (aq _ _) (fun SV CC=>?_);obtain rfl:=gm CC;refine ab ⟨rfl,rfl,rfl,?_⟩;refine aQ (M:=M) (A:=RT.dc) (B:=(RT.fd).sl) bm rfl rfl wo (by decide) (JZ) rfl rfl (by decide) (by assumption) (by repeat (first|exact aq _ _|refine bc (bF (by assumption)) ?_)) (fun al7 af6=>?_);refine ab ⟨rfl,rfl,rfl,?_⟩;refine bU (M:=M) bB rfl rfl rfl rfl rfl (by assumption) (by repeat (first|exact aq _ _|refine bc (bF (by assumption)) ?_)) (fun al8 Vx=>?_);refine ab ⟨rfl,rfl,rfl,?_⟩;refine ad rfl rfl ?_;refine ab ⟨rfl,rfl,rfl,?_⟩;refine cv (M:=M) bB kO rfl rfl rfl Vx (aq _ _) (by omega) (fun al9 z MH af7=>?_)
       rw[ay]at MH;refine ab ⟨rfl,rfl,rfl,?_⟩;refine aQ (M:=M) (A:=RT.fd) (B:=RT.str) cz rfl rfl I9 (by decide) (Ye) rfl rfl (by decide) (by assumption) (by repeat (first|exact aq _ _|refine bc (bF (by assumption)) ?_)) (fun af8 QK=>?_);refine ab ⟨rfl,rfl,rfl,?_⟩;refine bU (M:=M) aK rfl rfl rfl rfl rfl QK (aq _ _) (fun af9 QL=>?_);obtain rfl:=gm QL;refine ab ⟨rfl,rfl,rfl,?_⟩;refine Rg.Im (p:=y.1) (q:=z.1) rfl rfl rfl ?_;obtain rfl:x=z:=aF (Ek.symm.trans MH);refine ab ⟨rfl,rfl,rfl,?_⟩;refine eD ?_;refine bM rfl (fun QM=>?_) (fun QM=>?_)
       ·refine aj (ae (ah rfl rfl (ab (aP ?_))));have MI:((d.2.take i).any fun g=>decide (g.1=x.1))=true:=vL.2 ⟨y,az (i:=j) (by rw[ck,if_pos (by omega)];exact G5),by simpa using(by assumption)⟩;exact aV rfl rfl ⟨by rw[G4,kM,if_neg (by assumption),if_pos MI],S.back⟩
       ·refine aT (ae (ad rfl rfl (bG rfl rfl rfl (by omega) (ah rfl rfl (ab ?_)))));refine⟨rfl,j+1,(.cons rfl (.cons rfl (.cons rfl (.cons rfl .nil)))),?_,?_⟩
        ·exact⟨hM,S,dx,by omega,fun k y' h hc=>by
          rcases cE k j with h2|h2
          ·exact ko k y' h2 hc
          ·obtain rfl:k=j:=by omega
           rw[G5]at hc;cases hc;assumption⟩
        ·omega
      ·refine cH (aj (ae ?_));refine aQ (M:=M) (A:=RT.dc) (B:=(RT.fd).sl) bm rfl rfl wo (by decide) (JZ) rfl rfl (by decide) (by assumption) (by repeat (first|exact aq _ _|refine bc (bF (by assumption)) ?_)) (fun ama aga=>?_);refine bU (M:=M) bB rfl rfl rfl rfl rfl (by assumption) (by repeat (first|exact aq _ _|refine bc (bF (by assumption)) ?_)) (fun amb Vy=>?_);refine ad rfl rfl ?_;refine cv (M:=M) bB kO rfl rfl rfl Vy (aq _ _) (by omega) (fun amc z MJ agb=>?_);rw[ay]at MJ;refine aQ (M:=M) (A:=RT.fd) (B:=RT.str) cz rfl rfl I9 (by decide) (fd1) rfl rfl (by decide) (by assumption) (by repeat (first|exact aq _ _|refine bc (bF (by assumption)) ?_)) (fun amd Vz=>?_);refine bU (M:=M) aK rfl rfl rfl rfl rfl Vz (aq _ _) (fun ame VA=>?_);obtain rfl:=gm VA;obtain rfl:x=z:=aF (Ek.symm.trans MJ);refine aX rfl rfl aeV (G1 _ hM ru.2) (fun r15 w15 hc=>?_);obtain⟨⟨u15,rfl,agc⟩,xZ⟩:=hc;replace dx:=dx.le (by decide) xZ.le;replace hM:=xZ.lt hM;have:=S.size;replace S:=S.aB xZ;refine ad rfl rfl (bW rfl rfl rfl (bW rfl rfl rfl (ah rfl rfl (ah rfl rfl (ab (aj (aj (ae (ad rfl rfl (eM rfl rfl rfl (ab ?_)))))))))));refine bM rfl (fun Yf=>?_) (fun Yf=>?_)
       ·refine aj (ae (ad rfl rfl (ah rfl rfl (ab (aP ?_)))))
        have MI:((d.2.take i).any fun g=>decide (g.1=x.1))=false:=dd.2 fun h=>by
         obtain⟨y,hy,he⟩:=vL.1 h;obtain⟨k,hk⟩:=bz.1 hy;rw[ck]at hk
         split at hk
         ·exact ko k y (by omega) hk (by simpa using he)
         ·cases hk
        exact aV rfl rfl ⟨by rw[G4,kM,if_neg (by assumption),if_neg (by rw[MI];simp),if_pos Yf];rfl,S.back⟩
       ·refine aT (ae (ad rfl rfl ?_));have SO:mV 0 (words x.2)=0:=Classical.not_not.1 Yf;obtain⟨a,cap,rfl⟩:=agc SO;have hwl:=rB x.2;refine ad rfl rfl (Rg.mM Tryz.underlying212 rfl rfl (bG rfl rfl rfl (by omega) (ah rfl rfl (ab (ae (ad rfl rfl (bG rfl rfl rfl (by omega) (ah rfl rfl (ab ?_)))))))))
        have MI:((d.2.take i).any fun g=>decide (g.1=x.1))=false:=dd.2 fun h=>by
         obtain⟨y,hy,he⟩:=vL.1 h;obtain⟨k,hk⟩:=bz.1 hy;rw[ck]at hk
         split at hk
         ·exact ko k y (by omega) hk (by simpa using he)
         ·cases hk
        refine⟨rfl,(i+1,n+(words x.2).length),(.cons rfl (.cons rfl (.cons rfl .nil))),?_,?_⟩
        ·exact⟨hM,S,dx,by rw[G4,kM,if_neg (by assumption),if_neg (by rw[MI];simp),if_neg Yf],by dsimp only;omega,by dsimp only;omega,hd8⟩
        ·dsimp only;omega
   ·refine cH (aj (aj (ae (ad rfl rfl (jk rfl rfl rfl (ab ?_))))));refine bM rfl (fun c19=>?_) (fun c19=>?_)
    ·refine aj (ae (ah rfl rfl (ab (aP ?_))));exact aV rfl rfl ⟨by rw[G4,uE (by omega),if_pos (by omega)],S.back⟩
    ·refine aT (aj (ae (ah rfl rfl (ab (aP ?_)))));exact aV rfl rfl ⟨by rw[G4,uE (by omega),if_neg (by omega)],S.back⟩
def El:List (List UInt8):=[[116],[117],[118],[119]]
def fixF (i:Nat) (x:Fd):Fd:=(if gx x.1=true then x.1 else El.getD i [],x.2.take 40)
def oO (id:Int):Nat→List Fd→List Fd→List Fd
 |_,out,[]=>out
 |i,out,x::fs=>if i<4 then(if l6 (id,out++[fixF i x])=0 then oO id (i+1) (out++[fixF i x]) fs else oO id (i+1) out fs)else out
def p9 (d:Dc):Dc:=(d.1,oO d.1 0 [] d.2)
def tG (l:List Fd):Prop:=∀x∈l,x.1.length≤12∧x.2.length≤40
theorem Em {s:List UInt8} (h:gx s=true):s.length≤12:=by
 simp only[gx,bX,decide_eq_true_eq]at h;omega
theorem zu {i:Nat} (x:Fd) (hi:i<4):(fixF i x).1.length≤12∧(fixF i x).2.length≤40:=by
 refine⟨?_,by simp only[fixF,br];omega⟩;unfold fixF;dsimp only
 split
 ·exact Em (by assumption)
 ·have h:i=0∨i=1∨i=2∨i=3:=by omega
  rcases h with rfl|rfl|rfl|rfl<;>decide
theorem tG.snoc {l:List Fd} {x:Fd} (h:tG l) (hx:x.1.length≤12∧x.2.length≤40):tG (l++[x]):=fun y hy=>by
 rcases cr.1 hy with hy|hy
 ·exact h y hy
 ·rw[bS.1 hy];exact hx
theorem MK {id:Int} {fs:List Fd} {i:Nat} {out:List Fd} {x:Fd} (h:fs[i]? =some x) (hi:i<4):oO id i out (fs.drop i)=if l6 (id,out++[fixF i x])=0 then oO id (i+1) (out++[fixF i x]) (fs.drop (i+1))else oO id (i+1) out (fs.drop (i+1)):=by
 have dY:=(an.1 h).1;rw[dH dY,(an.1 h).2];show(if i<4 then _ else _)=_;rw[if_pos hi]
theorem By {id:Int} {fs:List Fd} {i:Nat} {out:List Fd} (h:fs.length≤i∨4≤i):oO id i out (fs.drop i)=out:=by
 cases hd:fs.drop i with
 |nil=>rfl
 |cons x r=>
  show(if i<4 then _ else _)=_;rw[if_neg];rcases h with h|h
  ·rw[gX h]at hd;cases hd
  ·omega
theorem Eo (l:List UInt8):l.take (min (l.length:Int) 40).toNat=l.take 40:=by
 by_cases h:l.length≤40
 ·rw[aW (by omega),aW h]
 ·congr 1;omega
theorem J3 {M:aD} {d:Dc} {v0:Value} (w0:World) (hM:Lt M w0) (hv:RT.dc.V M w0 d v0):
  Spec Tryz.prog 44 #[v0] w0 (fun v w=>RT.dc.V M w (p9 d) v∧Step M w0 M w aC):=by
 have jO:=hM
 have hdi: -9223372036854775808≤d.1∧d.1≤9223372036854775807:=by
  obtain⟨vs,⟨va,vb,_,⟨_,h1,h2⟩,_⟩,_⟩:=hv;exact⟨h1,h2⟩
 refine bg (args:=[_]) (fn:=Tryz.f44) Tryz.func44 rfl (n:=67) Tryz.ntmps44 ?_;have S:Step M w0 M w0 aC:=(au _ _).cB (fun _ h=>h.elim) (fun _ h=>h.elim);refine aj (ae ?_);refine qs (A:=RT.dc) rfl rfl hM hv rfl (fun u0 w1 dx s0 _=>?_);replace hM:=s0.lt hM;have:=S.size;replace S:=S.aB s0;refine dU M pD rfl (fun pK G6 VB VC gu nY=>?_);obtain⟨fx,mX⟩:∃M',M'=ins M pK:=⟨_,rfl⟩;rw[←mX]at nY;have fk:fx pK:=by rw[mX];exact .inl rfl
 change G6.heap[pK]? =some (.cells #[.int .i64 0,.slice none 0 0] _ _)at gu;replace dx:=dx.le (by decide) nY.le;replace hM:=nY.lt hM;have:=S.size;replace S:=S.aB nY;refine ab (aj (ae ?_));refine aQ (M:=fx) (A:=RT.dc) (B:=RT.int .i64) bm rfl rfl I3 (by decide) (ZM) rfl rfl (by decide) (by assumption) (by repeat (first|exact aq _ _|refine bc (bF (by assumption)) ?_)) (fun CB nF=>?_);refine cd (M:=fx) ax rfl rfl (by assumption) (by repeat (first|exact aq _ _|refine bc (bF (by assumption)) ?_)) (fun SX=>?_);refine iM (places:=[(0,1),(1,1)]) bm pD B69 rfl ⟨_,_,rfl,rfl,rfl⟩ (out:=[_,.slice none 0 0]) ⟨0,[_],rfl,rfl,by simp[Value.cells],rfl⟩ ?_;refine dU fx pD rfl (fun x4 JW agd age lF s1_3=>?_);obtain⟨nH,zw⟩:∃M',M'=ins fx x4:=⟨_,rfl⟩;rw[←zw]at s1_3;have j9:nH x4:=by rw[zw];exact .inl rfl
 change JW.heap[x4]? =some (.cells #[.int .i64 0,.slice none 0 0] _ _)at lF;have:=ak gu;replace fk:=(s1_3.mem _ this).2 fk;replace gu:=s1_3.aL gu;replace dx:=dx.le (by decide) s1_3.le;replace hM:=s1_3.lt hM;have:=S.size;replace S:=S.aB s1_3;refine dI (M:=nH) (vs:=[.int .i64 d.1,.slice none 0 0]) pD rfl rfl (by intro u hu;simp at hu;rcases hu with rfl|rfl<;>first|rfl|exact lW (by assumption) rfl rfl) rfl rfl lF j9 (fun w1b agf VD=>?_);have:=ak gu;replace fk:=(VD.mem _ this).2 fk;replace gu:=VD.keep gu (fun hk=>by have hk:_=_:=hk;omega);have:=ak lF;replace j9:=(VD.mem _ this).2 j9;replace dx:=dx.le (by decide) VD.le;replace hM:=VD.lt hM;have:=S.size;replace S:=S.trans VD (fun k hk h=>by have h:_=_:=h;subst h;first|(exfalso;omega)|(show _≤_;omega)|exact⟨by first|omega|assumption,(S.mem _ hk).1 ((VD.mem _ (ak lF)).1 j9)⟩|exact .inl rfl|exact .inr rfl|exact .inr (.inl rfl)|exact .inr (.inr rfl)|exact .inr (.inr (.inl rfl))|exact rfl);have Ep:=agf;clear lF;have lF:=Ep;clear Ep;refine ab (aj (ae ?_));refine Rg.Sk (A:=RT.str) (hn:=by decide) (M:=nH) (xs:=El) aJ I9 rfl (by decide) rfl ⟨_,_,_,rfl,rfl,rfl,kS.2 ⟨rfl,by decide⟩,_,_,_,rfl,rfl,rfl,kS.2 ⟨rfl,by decide⟩,_,_,_,rfl,rfl,rfl,kS.2 ⟨rfl,by decide⟩,_,_,_,rfl,rfl,rfl,kS.2 ⟨rfl,by decide⟩,rfl⟩ rfl hM (.inr ⟨rfl,rfl⟩) (by decide) (fun u2 w2 dP s2=>?_);have:=ak gu;replace fk:=(s2.mem _ this).2 fk;replace gu:=s2.aL gu;have:=ak lF;replace j9:=(s2.mem _ this).2 j9;replace lF:=s2.aL lF;replace dx:=dx.le (by decide) s2.le;replace hM:=s2.lt hM;have:=S.size;replace S:=S.aB s2;refine ah rfl rfl (ab (aj (aj (ae (ah rfl rfl (ab (aY ?_)))))));refine dh (σ:=Nat×List Fd) (fun q=>[(1,u0),(2,.pointer (some ⟨pK,0,none⟩)),(3,.pointer (some ⟨x4,0,none⟩)),(4,u2),(5,.int .i64 (q.1:Int))]) (fun q w=>∃M' uo,Lt M' w∧Step M w0 M' w aC∧cO RT.dc M' w u0 d∧(RT.str.sl).V M' w El u2∧w.heap[pK]? =some (.cells #[.int .i64 0,.slice none 0 0] 69 (0,0))∧M' pK∧w.heap[x4]? =some (.cells #[.int .i64 d.1,uo] 69 (0,0))∧M' x4∧(RT.fd.sl).V M' w q.2 uo∧oO d.1 0 [] d.2=oO d.1 q.1 q.2 (d.2.drop q.1)∧q.1≤d.2.length∧q.1≤4∧tG q.2∧q.2.length≤q.1) (fun q=>d.2.length-q.1) (0,[]) (.cons rfl (.cons rfl (.cons rfl (.cons rfl (.cons rfl .nil))))) ?_ ?_
 ·exact⟨_,.slice none 0 0,hM,S,dx,dP,gu,fk,lF,j9,pW,rfl,bD _,bD _,(fun x hx=>by cases hx),aR _⟩
 ·rintro⟨i,out⟩ w ⟨M1,uo,hM,S,dx,dP,g2,dK,g3,fh,fy,pH,hi,agh,Cc,fE⟩;dsimp only at g3 fy pH hi agh Cc fE ⊢;refine aj (aj (ae (ad rfl rfl ?_)));refine aQ (M:=M1) (A:=RT.dc) (B:=(RT.fd).sl) bm rfl rfl wo (by decide) (JZ) rfl rfl (by decide) (by assumption) (by repeat (first|exact aq _ _|refine bc (bF (by assumption)) ?_)) (fun ZH ZU=>?_);refine bU (M:=M1) bB rfl rfl rfl rfl rfl (by assumption) (by repeat (first|exact aq _ _|refine bc (bF (by assumption)) ?_)) (fun aqr ZV=>?_);refine bN bB rfl ZV rfl (cg rfl rfl rfl (ad rfl rfl ?_));refine aS (g:=18) rfl (fun wz=>?_) (fun wz=>?_)
  ·refine al rfl rfl (ad rfl rfl (al rfl rfl (cg rfl rfl rfl (aZ rfl rfl rfl (ab ?_)))));refine bM rfl (fun c4=>?_) (fun c4=>?_)
   ·refine aT (aj (aY (aj (ae ?_))));refine aQ (M:=M1) (A:=RT.dc) (B:=(RT.fd).sl) bm rfl rfl wo (by decide) (JZ) rfl rfl (by decide) (by assumption) (by repeat (first|exact aq _ _|refine bc (bF (by assumption)) ?_)) (fun ZW ML=>?_);refine bU (M:=M1) bB rfl rfl rfl rfl rfl (by assumption) (by repeat (first|exact aq _ _|refine bc (bF (by assumption)) ?_)) (fun VE zx=>?_);refine ad rfl rfl ?_;refine cv (M:=M1) bB kO rfl rfl rfl zx (aq _ _) (by omega) (fun u6 x K1 GZ=>?_);rw[ay]at K1;have YA:i<4:=by omega
    have hga:=MK (id:=d.1) (out:=out) K1 YA;have SY:=zu x YA;refine cT (M:=M1) (A:=RT.fd) cz rfl kO (by decide) rfl rfl rfl GZ (aq _ _) (fun v6 rD=>?_);obtain rfl:=tF rD;have hxb:=Vp rD;refine dU M1 kO rfl (fun VF agi aqt aqu dS AV=>?_);obtain⟨mY,MM⟩:∃M',M'=ins M1 VF:=⟨_,rfl⟩;rw[←MM]at AV;have dm:mY VF:=by rw[MM];exact .inl rfl
    change agi.heap[VF]? =some (.cells #[.string ⟨#[]⟩,.string ⟨#[]⟩] _ _)at dS;have:=ak g2;replace dK:=(AV.mem _ this).2 dK;replace g2:=AV.aL g2;have:=ak g3;replace fh:=(AV.mem _ this).2 fh;replace g3:=AV.aL g3;replace dx:=dx.le (by decide) AV.le;replace dP:=dP.le AV.le;replace fy:=fy.le AV.le;replace hM:=AV.lt hM;have:=S.size;replace S:=S.aB AV;refine dI (M:=mY) (vs:=[.string ⟨x.1.toArray⟩,.string ⟨x.2.toArray⟩]) kO rfl rfl (by intro u hu;simp at hu;rcases hu with rfl|rfl<;>first|rfl|exact lW (by assumption) rfl rfl) rfl rfl dS dm (fun w6b agj MN=>?_);have:=ak g2;replace dK:=(MN.mem _ this).2 dK;replace g2:=MN.keep g2 (fun hk=>by have hk:_=_:=hk;omega);have:=ak g3;replace fh:=(MN.mem _ this).2 fh;replace g3:=MN.keep g3 (fun hk=>by have hk:_=_:=hk;omega);have:=ak dS;replace dm:=(MN.mem _ this).2 dm;replace dx:=dx.le (by decide) MN.le;replace dP:=dP.le MN.le;replace fy:=fy.le MN.le;replace hM:=MN.lt hM;have:=S.size;replace S:=S.trans MN (fun k hk h=>by have h:_=_:=h;subst h;first|(exfalso;omega)|(show _≤_;omega)|exact⟨by first|omega|assumption,(S.mem _ hk).1 ((MN.mem _ (ak dS)).1 dm)⟩|exact .inl rfl|exact .inr rfl|exact .inr (.inl rfl)|exact .inr (.inr rfl)|exact .inr (.inr (.inl rfl))|exact rfl);have qM:=agj;clear dS;have dS:=qM;clear qM;refine ab (aj (ae (bJ (o':=0) cz rfl rfl I9 (by decide) rfl rfl (aN aK rfl rfl rfl (by assumption) rfl ?_))));refine aX rfl rfl E93 (zq x.1 hxb.1 _) (fun r7 w7 hc=>?_);obtain⟨rfl,rfl⟩:=hc;refine ah rfl rfl (ab (aj (aj (ae (ad rfl rfl (lY rfl rfl (aU (v':= .bool (decide (gx x.1=false))) (by cases gx x.1<;>rfl) (ab ?_))))))));refine bM rfl (fun c8=>?_) (fun c8=>?_)
    ·refine ae (ad rfl rfl (ad rfl rfl ?_));refine cv (M:=mY) aJ I9 rfl rfl rfl dP (aq _ _) (by have:El.length=4:=rfl;omega) (fun u9 y S0 ZX=>?_);rw[ay]at S0;refine bU (M:=mY) aK rfl rfl rfl rfl rfl ZX (aq _ _) (fun v9 Er=>?_);obtain rfl:=gm Er
     obtain rfl:y=(fixF i x).1:=by
      show y=if gx x.1=true then x.1 else El.getD i []
      rw[if_neg (by rw[c8];simp),aA,S0];rfl
     refine bJ (o':=0) cz rfl rfl I9 (by decide) rfl rfl ?_;refine cw (M:=mY) I9 rfl rfl dS rfl (rfl) dm (fun ZI ZY qL=>?_);change ZI.heap[_]? =some (Obj.cells #[.string ⟨((fixF i x).1).toArray⟩,.string ⟨x.2.toArray⟩] _ _)at ZY;have:=ak g2;replace dK:=(qL.mem _ this).2 dK;replace g2:=qL.keep g2 (fun hk=>by have hk:_=_:=hk;omega);have:=ak g3;replace fh:=(qL.mem _ this).2 fh;replace g3:=qL.keep g3 (fun hk=>by have hk:_=_:=hk;omega);have:=ak dS;replace dm:=(qL.mem _ this).2 dm;replace dx:=dx.le (by decide) qL.le;replace dP:=dP.le qL.le;replace fy:=fy.le qL.le;replace hM:=qL.lt hM;have:=S.size;replace S:=S.trans qL (fun k hk h=>by have h:_=_:=h;subst h;first|(exfalso;omega)|(show _≤_;omega)|exact⟨by first|omega|assumption,(S.mem _ hk).1 ((qL.mem _ (ak dS)).1 dm)⟩|exact .inl rfl|exact .inr rfl|exact .inr (.inl rfl)|exact .inr (.inr rfl)|exact .inr (.inr (.inl rfl))|exact rfl);have qM:=ZY;clear dS;have dS:=qM;clear qM;refine ab (aj (ae (bJ (o':=1) cz rfl rfl I9 (by decide) rfl rfl (aN aK rfl rfl rfl (by assumption) rfl (bJ (o':=1) cz rfl rfl I9 (by decide) rfl rfl (aN aK rfl rfl rfl (by assumption) rfl (Rg.nQ aK rfl rfl (aU (v':= .int .i64 (x.2.length:Int)) (by simp[ByteArray.size]) (Rg.min2 rfl rfl rfl (Rg.SF aK rfl rfl rfl (by omega) (aU (v':= .string ⟨((fixF i x).2).toArray⟩) (by rw[Eo];rfl) ?_)))))))))));refine bJ (o':=1) cz rfl rfl I9 (by decide) rfl rfl ?_;refine cw (M:=mY) I9 rfl rfl dS rfl (rfl) dm (fun IE Es gU=>?_);change IE.heap[_]? =some (Obj.cells #[.string ⟨((fixF i x).1).toArray⟩,.string ⟨((fixF i x).2).toArray⟩] _ _)at Es;have:=ak g2;replace dK:=(gU.mem _ this).2 dK;replace g2:=gU.keep g2 (fun hk=>by have hk:_=_:=hk;omega)
     have:=ak g3;replace fh:=(gU.mem _ this).2 fh;replace g3:=gU.keep g3 (fun hk=>by have hk:_=_:=hk;omega);have:=ak dS;replace dm:=(gU.mem _ this).2 dm;replace dx:=dx.le (by decide) gU.le;replace dP:=dP.le gU.le;replace fy:=fy.le gU.le;replace hM:=gU.lt hM;have:=S.size;replace S:=S.trans gU (fun k hk h=>by have h:_=_:=h;subst h;first|(exfalso;omega)|(show _≤_;omega)|exact⟨by first|omega|assumption,(S.mem _ hk).1 ((gU.mem _ (ak dS)).1 dm)⟩|exact .inl rfl|exact .inr rfl|exact .inr (.inl rfl)|exact .inr (.inr rfl)|exact .inr (.inr (.inl rfl))|exact rfl);have qM:=Es;clear dS;have dS:=qM;clear qM;refine ab (aj (ae ?_));refine aQ (M:=mY) (A:=RT.dc) (B:=RT.int .i64) bm rfl rfl I3 (by decide) (ZM) rfl rfl (by decide) (by assumption) (by repeat (first|exact aq _ _|refine bc (bF (by assumption)) ?_)) (fun Tc MO=>?_);refine cd (M:=mY) ax rfl rfl (by assumption) (by repeat (first|exact aq _ _|refine bc (bF (by assumption)) ?_)) (fun VG=>?_);refine iM (places:=[(0,1),(1,1)]) bm pD B69 rfl ⟨_,_,rfl,rfl,rfl⟩ (out:=[_,.slice none 0 0]) ⟨0,[_],rfl,rfl,by simp[Value.cells],rfl⟩ ?_;refine dU mY pD rfl (fun zy Bz ZZ Z0 db eT=>?_);obtain⟨tH,uF⟩:∃M',M'=ins mY zy:=⟨_,rfl⟩;rw[←uF]at eT;have cU:tH zy:=by rw[uF];exact .inl rfl
     change Bz.heap[zy]? =some (.cells #[.int .i64 0,.slice none 0 0] _ _)at db;have:=ak g2;replace dK:=(eT.mem _ this).2 dK;replace g2:=eT.aL g2;have:=ak g3;replace fh:=(eT.mem _ this).2 fh;replace g3:=eT.aL g3;have:=ak dS;replace dm:=(eT.mem _ this).2 dm;replace dS:=eT.aL dS;replace dx:=dx.le (by decide) eT.le;replace dP:=dP.le eT.le;replace fy:=fy.le eT.le;replace hM:=eT.lt hM;have:=S.size;replace S:=S.aB eT;refine dI (M:=tH) (vs:=[.int .i64 d.1,.slice none 0 0]) pD rfl rfl (by intro u hu;simp at hu;rcases hu with rfl|rfl<;>first|rfl|exact lW (by assumption) rfl rfl) rfl rfl db cU (fun CD MR k5=>?_);have:=ak g2;replace dK:=(k5.mem _ this).2 dK;replace g2:=k5.keep g2 (fun hk=>by have hk:_=_:=hk;omega);have:=ak g3;replace fh:=(k5.mem _ this).2 fh;replace g3:=k5.keep g3 (fun hk=>by have hk:_=_:=hk;omega);have:=ak dS;replace dm:=(k5.mem _ this).2 dm;replace dS:=k5.keep dS (fun hk=>by have hk:_=_:=hk;omega);have:=ak db;replace cU:=(k5.mem _ this).2 cU;replace dx:=dx.le (by decide) k5.le;replace dP:=dP.le k5.le;replace fy:=fy.le k5.le;replace hM:=k5.lt hM;have:=S.size;replace S:=S.trans k5 (fun k hk h=>by have h:_=_:=h;subst h;first|(exfalso;omega)|(show _≤_;omega)|exact⟨by first|omega|assumption,(S.mem _ hk).1 ((k5.mem _ (ak db)).1 cU)⟩|exact .inl rfl|exact .inr rfl|exact .inr (.inl rfl)|exact .inr (.inr rfl)|exact .inr (.inr (.inl rfl))|exact rfl);have jx:=MR;clear db;have db:=jx;clear jx;refine ab (aj (ae (bJ (o':=1) bm rfl rfl wo (by decide) rfl rfl (aN bB rfl rfl rfl (by assumption) rfl (bJ (o':=1) bm rfl rfl wo (by decide) rfl rfl (aN bB rfl rfl rfl (by assumption) rfl ?_))))));have dE:=Own.SM RT.fd 166 CD.heap.size hM
     have agk:=ak dS;have MS:w0.heap.size≤CD.heap.size:=S.size;refine cV (M:=tH) (base:=CD.heap.size) bB kO rfl rfl rfl rfl dE fy (aq _ _) (by simp;omega) (by simp;omega) (aR _) (fun xp qK IC tD ek=>?_);have:=ak g2;replace dK:=(ek.mem _ this).2 dK;replace g2:=ek.keep g2 (fun h=>by first|exact dE.ep g2 h|exact dE.eS g2 (by decide) h|(have:=(dE.base _ h).1;omega));have:=ak g3;replace fh:=(ek.mem _ this).2 fh;replace g3:=ek.keep g3 (fun h=>by first|exact dE.ep g3 h|exact dE.eS g3 (by decide) h|(have:=(dE.base _ h).1;omega));have:=ak dS;replace dm:=(ek.mem _ this).2 dm;replace dS:=ek.keep dS (fun h=>by first|exact dE.ep dS h|exact dE.eS dS (by decide) h|(have:=(dE.base _ h).1;omega));have:=ak db;replace cU:=(ek.mem _ this).2 cU;replace db:=ek.keep db (fun h=>by first|exact dE.ep db h|exact dE.eS db (by decide) h|(have:=(dE.base _ h).1;omega));replace dx:=dx.le (by decide) ek.le;replace dP:=dP.le ek.le;replace fy:=fy.le ek.le;replace hM:=ek.lt hM;have:=S.size;replace S:=S.cX ek dE MS;replace dE:=tD;refine bJ (o':=1) bm rfl rfl wo (by decide) rfl rfl ?_;refine cw (M:=qK) wo rfl rfl db rfl ((by obtain⟨_,_,he,_⟩:=dE.isSlice;rw[he];rfl)) cU (fun MT Et gI=>?_);change MT.heap[_]? =some (Obj.cells #[.int .i64 d.1,xp] _ _)at Et;have:=ak g2;replace dK:=(gI.mem _ this).2 dK;replace g2:=gI.keep g2 (fun hk=>by have hk:_=_:=hk;omega);have:=ak g3;replace fh:=(gI.mem _ this).2 fh;replace g3:=gI.keep g3 (fun hk=>by have hk:_=_:=hk;omega);have:=ak dS;replace dm:=(gI.mem _ this).2 dm;replace dS:=gI.keep dS (fun hk=>by have hk:_=_:=hk;omega);have:=ak db;replace cU:=(gI.mem _ this).2 cU
     replace dx:=dx.le (by decide) gI.le;replace dP:=dP.le gI.le;replace fy:=fy.le gI.le;replace dE:=dE.step gI (fun b hb hk=>by have hk:_=_:=hk;have:=(dE.base b hb);omega);replace hM:=gI.lt hM;have:=S.size;replace S:=S.trans gI (fun k hk h=>by have h:_=_:=h;subst h;first|(exfalso;omega)|(show _≤_;omega)|exact⟨by first|omega|assumption,(S.mem _ hk).1 ((gI.mem _ (ak db)).1 cU)⟩|exact .inl rfl|exact .inr rfl|exact .inr (.inl rfl)|exact .inr (.inr rfl)|exact .inr (.inr (.inl rfl))|exact rfl);have jx:=Et;clear db;have db:=jx;clear jx;refine ab (aj (ae (bJ (o':=1) bm rfl rfl wo (by decide) rfl rfl (aN bB rfl rfl rfl (by assumption) rfl (fL (vs:=[.string ⟨((fixF i x).1).toArray⟩,.string ⟨((fixF i x).2).toArray⟩]) cz rfl kO rfl rfl rfl dS ?_)))));refine eu (A:=RT.fd) (hn:=by decide) (M:=qK) bB kO (by decide) rfl rfl hM (show RT.fd.V _ _ (fixF i x) _ from fg (kS.2 ⟨rfl,ez SY.1 (by decide)⟩) (kS.2 ⟨rfl,ez SY.2 (by decide)⟩) rfl rfl rfl rfl) (.inl rfl) (fun SU Z1 gr gJ=>?_);have:=ak g2;replace dK:=(gJ.mem _ this).2 dK;replace g2:=gJ.aL g2;have:=ak g3;replace fh:=(gJ.mem _ this).2 fh;replace g3:=gJ.aL g3;have:=ak dS;replace dm:=(gJ.mem _ this).2 dm;replace dS:=gJ.aL dS;have:=ak db;replace cU:=(gJ.mem _ this).2 cU;replace db:=gJ.aL db;replace dx:=dx.le (by decide) gJ.le;replace dP:=dP.le gJ.le;replace fy:=fy.le gJ.le;replace dE:=dE.aO gJ;replace hM:=gJ.lt hM;have:=S.size;replace S:=S.aB gJ;refine cV (M:=qK) (base:=CD.heap.size) bB kO rfl rfl rfl rfl dE gr (aq _ _) (by simp;omega) (by simp;omega) (by have:=ek.size;have:=gI.size;have:=gJ.size;omega) (fun fW mZ Td G7 fj=>?_)
     have:=ak g2;replace dK:=(fj.mem _ this).2 dK;replace g2:=fj.keep g2 (fun h=>by first|exact dE.ep g2 h|exact dE.eS g2 (by decide) h|(have:=(dE.base _ h).1;omega));have:=ak g3;replace fh:=(fj.mem _ this).2 fh;replace g3:=fj.keep g3 (fun h=>by first|exact dE.ep g3 h|exact dE.eS g3 (by decide) h|(have:=(dE.base _ h).1;omega));have:=ak dS;replace dm:=(fj.mem _ this).2 dm;replace dS:=fj.keep dS (fun h=>by first|exact dE.ep dS h|exact dE.eS dS (by decide) h|(have:=(dE.base _ h).1;omega));have:=ak db;replace cU:=(fj.mem _ this).2 cU;replace db:=fj.keep db (fun h=>by first|exact dE.ep db h|exact dE.eS db (by decide) h|(have:=(dE.base _ h).1;omega));replace dx:=dx.le (by decide) fj.le;replace dP:=dP.le fj.le;replace fy:=fy.le fj.le;replace gr:=gr.le fj.le;replace hM:=fj.lt hM;have:=S.size;replace S:=S.cX fj dE MS;replace dE:=G7;refine bJ (o':=1) bm rfl rfl wo (by decide) rfl rfl ?_;refine cw (M:=mZ) wo rfl rfl db rfl ((by obtain⟨_,_,he,_⟩:=dE.isSlice;rw[he];rfl)) cU (fun MU Eu gK=>?_);change MU.heap[_]? =some (Obj.cells #[.int .i64 d.1,fW] _ _)at Eu;have:=ak g2;replace dK:=(gK.mem _ this).2 dK;replace g2:=gK.keep g2 (fun hk=>by have hk:_=_:=hk;omega);have:=ak g3;replace fh:=(gK.mem _ this).2 fh;replace g3:=gK.keep g3 (fun hk=>by have hk:_=_:=hk;omega);have:=ak dS;replace dm:=(gK.mem _ this).2 dm;replace dS:=gK.keep dS (fun hk=>by have hk:_=_:=hk;omega);have:=ak db;replace cU:=(gK.mem _ this).2 cU;replace dx:=dx.le (by decide) gK.le;replace dP:=dP.le gK.le;replace fy:=fy.le gK.le;replace gr:=gr.le gK.le;replace dE:=dE.step gK (fun b hb hk=>by have hk:_=_:=hk;have:=(dE.base b hb);omega);replace hM:=gK.lt hM
     have:=S.size;replace S:=S.trans gK (fun k hk h=>by have h:_=_:=h;subst h;first|(exfalso;omega)|(show _≤_;omega)|exact⟨by first|omega|assumption,(S.mem _ hk).1 ((gK.mem _ (ak db)).1 cU)⟩|exact .inl rfl|exact .inr rfl|exact .inr (.inl rfl)|exact .inr (.inr rfl)|exact .inr (.inr (.inl rfl))|exact rfl);have jx:=Eu;clear db;have db:=jx;clear jx;refine ab (aj (ae (fL (vs:=[.int .i64 d.1,fW]) bm rfl pD rfl rfl rfl db ?_)));have sJ:=dE.view (hn:=by decide) (by simp;omega);replace dK:rm mZ fW _:=⟨dK,by first|exact dE.eS g2 (by decide)|(intro h;have:=(dE.base _ h).1;omega)⟩;replace fh:rm mZ fW _:=⟨fh,by first|exact dE.eS g3 (by decide)|(intro h;have:=(dE.base _ h).1;omega)⟩;replace dm:rm mZ fW _:=⟨dm,by first|exact dE.eS dS (by decide)|(intro h;have:=(dE.base _ h).1;omega)⟩;replace cU:rm mZ fW _:=⟨cU,by first|exact dE.eS db (by decide)|(intro h;have:=(dE.base _ h).1;omega)⟩;replace dx:=dx.le (by decide) (eO _ fW _);replace dP:=dP.le (eO _ fW _);replace fy:=fy.le (eO _ fW _);replace gr:=gr.le (eO _ fW _);replace hM:Lt (rm mZ fW) _:=fun b hb=>hM b hb.1
     replace S:=S.freeze (v:=fW) (fun b hb=>by have:=(dE.base b hb).1;omega);clear dE;refine aX rfl rfl E94 (Bx (d:=(d.1,[]++out++[fixF i x])) _ hM (fg (gv hdi) sJ rfl rfl rfl rfl) (fun y hy=>by have:=(Cc.snoc SY) y (by simpa using hy);omega)) (fun r14 VH hc=>?_);obtain⟨rfl,ka⟩:=hc;rw[fQ]at sJ;have:=ak g2;replace dK:=(ka.mem _ this).2 dK;replace g2:=ka.aL g2;have:=ak g3;replace fh:=(ka.mem _ this).2 fh;replace g3:=ka.aL g3;have:=ak dS;replace dm:=(ka.mem _ this).2 dm;replace dS:=ka.aL dS;have:=ak db;replace cU:=(ka.mem _ this).2 cU;replace db:=ka.aL db;replace dx:=dx.le (by decide) ka.le;replace dP:=dP.le ka.le;replace fy:=fy.le ka.le;replace gr:=gr.le ka.le;replace sJ:=sJ.le ka.le;replace hM:=ka.lt hM;have:=S.size;replace S:=S.aB ka;refine tY rfl rfl rfl (aU (v':= .bool (decide (l6 (d.1,out++[fixF i x])=0))) (by rw[fQ]) (ab ?_));refine bM rfl (fun K3=>?_) (fun K3=>?_)
     ·refine ae (fL (vs:=[.int .i64 d.1,fW]) bm rfl pD rfl rfl rfl db ?_);refine dI (M:=rm mZ fW) (vs:=[.int .i64 d.1,fW]) pD rfl rfl (by intro u hu;simp at hu;rcases hu with rfl|rfl<;>first|rfl|exact lW (by assumption) rfl rfl) rfl rfl g3 fh (fun agl MV kb=>?_);have:=ak g2;replace dK:=(kb.mem _ this).2 dK;replace g2:=kb.keep g2 (fun hk=>by have hk:_=_:=hk;omega);have:=ak g3;replace fh:=(kb.mem _ this).2 fh;have:=ak dS;replace dm:=(kb.mem _ this).2 dm;replace dS:=kb.keep dS (fun hk=>by have hk:_=_:=hk;omega);have:=ak db;replace cU:=(kb.mem _ this).2 cU;replace db:=kb.keep db (fun hk=>by have hk:_=_:=hk;omega);replace dx:=dx.le (by decide) kb.le;replace dP:=dP.le kb.le;replace fy:=fy.le kb.le;replace gr:=gr.le kb.le;replace sJ:=sJ.le kb.le;replace hM:=kb.lt hM;have:=S.size;replace S:=S.trans kb (fun k hk h=>by have h:_=_:=h;subst h;first|(exfalso;omega)|(show _≤_;omega)|exact⟨by first|omega|assumption,(S.mem _ hk).1 ((kb.mem _ (ak g3)).1 fh)⟩|exact .inl rfl|exact .inr rfl|exact .inr (.inl rfl)|exact .inr (.inr rfl)|exact .inr (.inr (.inl rfl))|exact rfl);have Z2:=MV;clear g3;have g3:=Z2;clear Z2;refine ab (ae (ad rfl rfl (bG rfl rfl rfl (by omega) (ah rfl rfl (ab ?_)))));refine⟨rfl,(i+1,out++[fixF i x]),(.cons rfl (.cons rfl (.cons rfl (.cons rfl (.cons rfl .nil))))),?_,?_⟩
      ·exact⟨_,_,hM,S,dx,dP,g2,dK,g3,fh,sJ,by rw[pH,hga,if_pos K3],by dsimp only;omega,by dsimp only;omega,Cc.snoc SY,by simp;omega⟩
      ·dsimp only;omega
     ·refine aT (ae (ad rfl rfl (bG rfl rfl rfl (by omega) (ah rfl rfl (ab ?_)))));refine⟨rfl,(i+1,out),(.cons rfl (.cons rfl (.cons rfl (.cons rfl (.cons rfl .nil))))),?_,?_⟩
      ·exact⟨_,_,hM,S,dx,dP,g2,dK,g3,fh,fy,by rw[pH,hga,if_neg K3],by dsimp only;omega,by dsimp only;omega,Cc,by dsimp only;omega⟩
      ·dsimp only;omega
    ·rw[show x.1=(fixF i x).1 from by show x.1=if gx x.1=true then x.1 else _;rw[if_pos (by cases hq:gx x.1 with|true=>rfl|false=>exact absurd hq c8)]]at dS;refine aT (aj (ae (bJ (o':=1) cz rfl rfl I9 (by decide) rfl rfl (aN aK rfl rfl rfl (by assumption) rfl (bJ (o':=1) cz rfl rfl I9 (by decide) rfl rfl (aN aK rfl rfl rfl (by assumption) rfl (Rg.nQ aK rfl rfl (aU (v':= .int .i64 (x.2.length:Int)) (by simp[ByteArray.size]) (Rg.min2 rfl rfl rfl (Rg.SF aK rfl rfl rfl (by omega) (aU (v':= .string ⟨((fixF i x).2).toArray⟩) (by rw[Eo];rfl) ?_)))))))))));refine bJ (o':=1) cz rfl rfl I9 (by decide) rfl rfl ?_;refine cw (M:=mY) I9 rfl rfl dS rfl (rfl) dm (fun IE Es gU=>?_);change IE.heap[_]? =some (Obj.cells #[.string ⟨((fixF i x).1).toArray⟩,.string ⟨((fixF i x).2).toArray⟩] _ _)at Es;have:=ak g2;replace dK:=(gU.mem _ this).2 dK;replace g2:=gU.keep g2 (fun hk=>by have hk:_=_:=hk;omega);have:=ak g3;replace fh:=(gU.mem _ this).2 fh;replace g3:=gU.keep g3 (fun hk=>by have hk:_=_:=hk;omega);have:=ak dS;replace dm:=(gU.mem _ this).2 dm;replace dx:=dx.le (by decide) gU.le;replace dP:=dP.le gU.le;replace fy:=fy.le gU.le;replace hM:=gU.lt hM;have:=S.size;replace S:=S.trans gU (fun k hk h=>by have h:_=_:=h;subst h;first|(exfalso;omega)|(show _≤_;omega)|exact⟨by first|omega|assumption,(S.mem _ hk).1 ((gU.mem _ (ak dS)).1 dm)⟩|exact .inl rfl|exact .inr rfl|exact .inr (.inl rfl)|exact .inr (.inr rfl)|exact .inr (.inr (.inl rfl))|exact rfl);have qM:=Es;clear dS;have dS:=qM;clear qM;refine ab (aj (ae ?_));refine aQ (M:=mY) (A:=RT.dc) (B:=RT.int .i64) bm rfl rfl I3 (by decide) (ZM) rfl rfl (by decide) (by assumption) (by repeat (first|exact aq _ _|refine bc (bF (by assumption)) ?_)) (fun Tc MO=>?_)
     refine cd (M:=mY) ax rfl rfl (by assumption) (by repeat (first|exact aq _ _|refine bc (bF (by assumption)) ?_)) (fun VG=>?_);refine iM (places:=[(0,1),(1,1)]) bm pD B69 rfl ⟨_,_,rfl,rfl,rfl⟩ (out:=[_,.slice none 0 0]) ⟨0,[_],rfl,rfl,by simp[Value.cells],rfl⟩ ?_;refine dU mY pD rfl (fun zy Bz ZZ Z0 db eT=>?_);obtain⟨tH,uF⟩:∃M',M'=ins mY zy:=⟨_,rfl⟩;rw[←uF]at eT;have cU:tH zy:=by rw[uF];exact .inl rfl
     change Bz.heap[zy]? =some (.cells #[.int .i64 0,.slice none 0 0] _ _)at db;have:=ak g2;replace dK:=(eT.mem _ this).2 dK;replace g2:=eT.aL g2;have:=ak g3;replace fh:=(eT.mem _ this).2 fh;replace g3:=eT.aL g3;have:=ak dS;replace dm:=(eT.mem _ this).2 dm;replace dS:=eT.aL dS;replace dx:=dx.le (by decide) eT.le;replace dP:=dP.le eT.le;replace fy:=fy.le eT.le;replace hM:=eT.lt hM;have:=S.size;replace S:=S.aB eT;refine dI (M:=tH) (vs:=[.int .i64 d.1,.slice none 0 0]) pD rfl rfl (by intro u hu;simp at hu;rcases hu with rfl|rfl<;>first|rfl|exact lW (by assumption) rfl rfl) rfl rfl db cU (fun CD MR k5=>?_);have:=ak g2;replace dK:=(k5.mem _ this).2 dK;replace g2:=k5.keep g2 (fun hk=>by have hk:_=_:=hk;omega);have:=ak g3;replace fh:=(k5.mem _ this).2 fh;replace g3:=k5.keep g3 (fun hk=>by have hk:_=_:=hk;omega);have:=ak dS;replace dm:=(k5.mem _ this).2 dm;replace dS:=k5.keep dS (fun hk=>by have hk:_=_:=hk;omega);have:=ak db;replace cU:=(k5.mem _ this).2 cU;replace dx:=dx.le (by decide) k5.le;replace dP:=dP.le k5.le;replace fy:=fy.le k5.le;replace hM:=k5.lt hM;have:=S.size;replace S:=S.trans k5 (fun k hk h=>by have h:_=_:=h;subst h;first|(exfalso;omega)|(show _≤_;omega)|exact⟨by first|omega|assumption,(S.mem _ hk).1 ((k5.mem _ (ak db)).1 cU)⟩|exact .inl rfl|exact .inr rfl|exact .inr (.inl rfl)|exact .inr (.inr rfl)|exact .inr (.inr (.inl rfl))|exact rfl);have jx:=MR;clear db;have db:=jx;clear jx;refine ab (aj (ae (bJ (o':=1) bm rfl rfl wo (by decide) rfl rfl (aN bB rfl rfl rfl (by assumption) rfl (bJ (o':=1) bm rfl rfl wo (by decide) rfl rfl (aN bB rfl rfl rfl (by assumption) rfl ?_))))));have dE:=Own.SM RT.fd 166 CD.heap.size hM
     have agk:=ak dS;have MS:w0.heap.size≤CD.heap.size:=S.size;refine cV (M:=tH) (base:=CD.heap.size) bB kO rfl rfl rfl rfl dE fy (aq _ _) (by simp;omega) (by simp;omega) (aR _) (fun xp qK IC tD ek=>?_);have:=ak g2;replace dK:=(ek.mem _ this).2 dK;replace g2:=ek.keep g2 (fun h=>by first|exact dE.ep g2 h|exact dE.eS g2 (by decide) h|(have:=(dE.base _ h).1;omega));have:=ak g3;replace fh:=(ek.mem _ this).2 fh;replace g3:=ek.keep g3 (fun h=>by first|exact dE.ep g3 h|exact dE.eS g3 (by decide) h|(have:=(dE.base _ h).1;omega));have:=ak dS;replace dm:=(ek.mem _ this).2 dm;replace dS:=ek.keep dS (fun h=>by first|exact dE.ep dS h|exact dE.eS dS (by decide) h|(have:=(dE.base _ h).1;omega));have:=ak db;replace cU:=(ek.mem _ this).2 cU;replace db:=ek.keep db (fun h=>by first|exact dE.ep db h|exact dE.eS db (by decide) h|(have:=(dE.base _ h).1;omega));replace dx:=dx.le (by decide) ek.le;replace dP:=dP.le ek.le;replace fy:=fy.le ek.le;replace hM:=ek.lt hM;have:=S.size;replace S:=S.cX ek dE MS;replace dE:=tD;refine bJ (o':=1) bm rfl rfl wo (by decide) rfl rfl ?_;refine cw (M:=qK) wo rfl rfl db rfl ((by obtain⟨_,_,he,_⟩:=dE.isSlice;rw[he];rfl)) cU (fun MT Et gI=>?_);change MT.heap[_]? =some (Obj.cells #[.int .i64 d.1,xp] _ _)at Et;have:=ak g2;replace dK:=(gI.mem _ this).2 dK;replace g2:=gI.keep g2 (fun hk=>by have hk:_=_:=hk;omega);have:=ak g3;replace fh:=(gI.mem _ this).2 fh;replace g3:=gI.keep g3 (fun hk=>by have hk:_=_:=hk;omega);have:=ak dS;replace dm:=(gI.mem _ this).2 dm;replace dS:=gI.keep dS (fun hk=>by have hk:_=_:=hk;omega);have:=ak db;replace cU:=(gI.mem _ this).2 cU
     replace dx:=dx.le (by decide) gI.le;replace dP:=dP.le gI.le;replace fy:=fy.le gI.le;replace dE:=dE.step gI (fun b hb hk=>by have hk:_=_:=hk;have:=(dE.base b hb);omega);replace hM:=gI.lt hM;have:=S.size;replace S:=S.trans gI (fun k hk h=>by have h:_=_:=h;subst h;first|(exfalso;omega)|(show _≤_;omega)|exact⟨by first|omega|assumption,(S.mem _ hk).1 ((gI.mem _ (ak db)).1 cU)⟩|exact .inl rfl|exact .inr rfl|exact .inr (.inl rfl)|exact .inr (.inr rfl)|exact .inr (.inr (.inl rfl))|exact rfl);have jx:=Et;clear db;have db:=jx;clear jx;refine ab (aj (ae (bJ (o':=1) bm rfl rfl wo (by decide) rfl rfl (aN bB rfl rfl rfl (by assumption) rfl (fL (vs:=[.string ⟨((fixF i x).1).toArray⟩,.string ⟨((fixF i x).2).toArray⟩]) cz rfl kO rfl rfl rfl dS ?_)))));refine eu (A:=RT.fd) (hn:=by decide) (M:=qK) bB kO (by decide) rfl rfl hM (show RT.fd.V _ _ (fixF i x) _ from fg (kS.2 ⟨rfl,ez SY.1 (by decide)⟩) (kS.2 ⟨rfl,ez SY.2 (by decide)⟩) rfl rfl rfl rfl) (.inl rfl) (fun SU Z1 gr gJ=>?_);have:=ak g2;replace dK:=(gJ.mem _ this).2 dK;replace g2:=gJ.aL g2;have:=ak g3;replace fh:=(gJ.mem _ this).2 fh;replace g3:=gJ.aL g3;have:=ak dS;replace dm:=(gJ.mem _ this).2 dm;replace dS:=gJ.aL dS;have:=ak db;replace cU:=(gJ.mem _ this).2 cU;replace db:=gJ.aL db;replace dx:=dx.le (by decide) gJ.le;replace dP:=dP.le gJ.le;replace fy:=fy.le gJ.le;replace dE:=dE.aO gJ;replace hM:=gJ.lt hM;have:=S.size;replace S:=S.aB gJ;refine cV (M:=qK) (base:=CD.heap.size) bB kO rfl rfl rfl rfl dE gr (aq _ _) (by simp;omega) (by simp;omega) (by have:=ek.size;have:=gI.size;have:=gJ.size;omega) (fun fW mZ Td G7 fj=>?_)
     have:=ak g2;replace dK:=(fj.mem _ this).2 dK;replace g2:=fj.keep g2 (fun h=>by first|exact dE.ep g2 h|exact dE.eS g2 (by decide) h|(have:=(dE.base _ h).1;omega));have:=ak g3;replace fh:=(fj.mem _ this).2 fh;replace g3:=fj.keep g3 (fun h=>by first|exact dE.ep g3 h|exact dE.eS g3 (by decide) h|(have:=(dE.base _ h).1;omega));have:=ak dS;replace dm:=(fj.mem _ this).2 dm;replace dS:=fj.keep dS (fun h=>by first|exact dE.ep dS h|exact dE.eS dS (by decide) h|(have:=(dE.base _ h).1;omega));have:=ak db;replace cU:=(fj.mem _ this).2 cU;replace db:=fj.keep db (fun h=>by first|exact dE.ep db h|exact dE.eS db (by decide) h|(have:=(dE.base _ h).1;omega));replace dx:=dx.le (by decide) fj.le;replace dP:=dP.le fj.le;replace fy:=fy.le fj.le;replace gr:=gr.le fj.le;replace hM:=fj.lt hM;have:=S.size;replace S:=S.cX fj dE MS;replace dE:=G7;refine bJ (o':=1) bm rfl rfl wo (by decide) rfl rfl ?_;refine cw (M:=mZ) wo rfl rfl db rfl ((by obtain⟨_,_,he,_⟩:=dE.isSlice;rw[he];rfl)) cU (fun MU Eu gK=>?_);change MU.heap[_]? =some (Obj.cells #[.int .i64 d.1,fW] _ _)at Eu;have:=ak g2;replace dK:=(gK.mem _ this).2 dK;replace g2:=gK.keep g2 (fun hk=>by have hk:_=_:=hk;omega);have:=ak g3;replace fh:=(gK.mem _ this).2 fh;replace g3:=gK.keep g3 (fun hk=>by have hk:_=_:=hk;omega);have:=ak dS;replace dm:=(gK.mem _ this).2 dm;replace dS:=gK.keep dS (fun hk=>by have hk:_=_:=hk;omega);have:=ak db;replace cU:=(gK.mem _ this).2 cU;replace dx:=dx.le (by decide) gK.le;replace dP:=dP.le gK.le;replace fy:=fy.le gK.le;replace gr:=gr.le gK.le;replace dE:=dE.step gK (fun b hb hk=>by have hk:_=_:=hk;have:=(dE.base b hb);omega);replace hM:=gK.lt hM
     have:=S.size;replace S:=S.trans gK (fun k hk h=>by have h:_=_:=h;subst h;first|(exfalso;omega)|(show _≤_;omega)|exact⟨by first|omega|assumption,(S.mem _ hk).1 ((gK.mem _ (ak db)).1 cU)⟩|exact .inl rfl|exact .inr rfl|exact .inr (.inl rfl)|exact .inr (.inr rfl)|exact .inr (.inr (.inl rfl))|exact rfl);have jx:=Eu;clear db;have db:=jx;clear jx;refine ab (aj (ae (fL (vs:=[.int .i64 d.1,fW]) bm rfl pD rfl rfl rfl db ?_)));have sJ:=dE.view (hn:=by decide) (by simp;omega);replace dK:rm mZ fW _:=⟨dK,by first|exact dE.eS g2 (by decide)|(intro h;have:=(dE.base _ h).1;omega)⟩;replace fh:rm mZ fW _:=⟨fh,by first|exact dE.eS g3 (by decide)|(intro h;have:=(dE.base _ h).1;omega)⟩;replace dm:rm mZ fW _:=⟨dm,by first|exact dE.eS dS (by decide)|(intro h;have:=(dE.base _ h).1;omega)⟩;replace cU:rm mZ fW _:=⟨cU,by first|exact dE.eS db (by decide)|(intro h;have:=(dE.base _ h).1;omega)⟩;replace dx:=dx.le (by decide) (eO _ fW _);replace dP:=dP.le (eO _ fW _);replace fy:=fy.le (eO _ fW _);replace gr:=gr.le (eO _ fW _);replace hM:Lt (rm mZ fW) _:=fun b hb=>hM b hb.1
     replace S:=S.freeze (v:=fW) (fun b hb=>by have:=(dE.base b hb).1;omega);clear dE;refine aX rfl rfl E94 (Bx (d:=(d.1,[]++out++[fixF i x])) _ hM (fg (gv hdi) sJ rfl rfl rfl rfl) (fun y hy=>by have:=(Cc.snoc SY) y (by simpa using hy);omega)) (fun r14 VH hc=>?_);obtain⟨rfl,ka⟩:=hc;rw[fQ]at sJ;have:=ak g2;replace dK:=(ka.mem _ this).2 dK;replace g2:=ka.aL g2;have:=ak g3;replace fh:=(ka.mem _ this).2 fh;replace g3:=ka.aL g3;have:=ak dS;replace dm:=(ka.mem _ this).2 dm;replace dS:=ka.aL dS;have:=ak db;replace cU:=(ka.mem _ this).2 cU;replace db:=ka.aL db;replace dx:=dx.le (by decide) ka.le;replace dP:=dP.le ka.le;replace fy:=fy.le ka.le;replace gr:=gr.le ka.le;replace sJ:=sJ.le ka.le;replace hM:=ka.lt hM;have:=S.size;replace S:=S.aB ka;refine tY rfl rfl rfl (aU (v':= .bool (decide (l6 (d.1,out++[fixF i x])=0))) (by rw[fQ]) (ab ?_));refine bM rfl (fun K3=>?_) (fun K3=>?_)
     ·refine ae (fL (vs:=[.int .i64 d.1,fW]) bm rfl pD rfl rfl rfl db ?_);refine dI (M:=rm mZ fW) (vs:=[.int .i64 d.1,fW]) pD rfl rfl (by intro u hu;simp at hu;rcases hu with rfl|rfl<;>first|rfl|exact lW (by assumption) rfl rfl) rfl rfl g3 fh (fun agl MV kb=>?_);have:=ak g2;replace dK:=(kb.mem _ this).2 dK;replace g2:=kb.keep g2 (fun hk=>by have hk:_=_:=hk;omega);have:=ak g3;replace fh:=(kb.mem _ this).2 fh;have:=ak dS;replace dm:=(kb.mem _ this).2 dm;replace dS:=kb.keep dS (fun hk=>by have hk:_=_:=hk;omega);have:=ak db;replace cU:=(kb.mem _ this).2 cU;replace db:=kb.keep db (fun hk=>by have hk:_=_:=hk;omega);replace dx:=dx.le (by decide) kb.le;replace dP:=dP.le kb.le;replace fy:=fy.le kb.le;replace gr:=gr.le kb.le;replace sJ:=sJ.le kb.le;replace hM:=kb.lt hM;have:=S.size;replace S:=S.trans kb (fun k hk h=>by have h:_=_:=h;subst h;first|(exfalso;omega)|(show _≤_;omega)|exact⟨by first|omega|assumption,(S.mem _ hk).1 ((kb.mem _ (ak g3)).1 fh)⟩|exact .inl rfl|exact .inr rfl|exact .inr (.inl rfl)|exact .inr (.inr rfl)|exact .inr (.inr (.inl rfl))|exact rfl);have Z2:=MV;clear g3;have g3:=Z2;clear Z2;refine ab (ae (ad rfl rfl (bG rfl rfl rfl (by omega) (ah rfl rfl (ab ?_)))));refine⟨rfl,(i+1,out++[fixF i x]),(.cons rfl (.cons rfl (.cons rfl (.cons rfl (.cons rfl .nil))))),?_,?_⟩
      ·exact⟨_,_,hM,S,dx,dP,g2,dK,g3,fh,sJ,by rw[pH,hga,if_pos K3],by dsimp only;omega,by dsimp only;omega,Cc.snoc SY,by simp;omega⟩
      ·dsimp only;omega
     ·refine aT (ae (ad rfl rfl (bG rfl rfl rfl (by omega) (ah rfl rfl (ab ?_)))));refine⟨rfl,(i+1,out),(.cons rfl (.cons rfl (.cons rfl (.cons rfl (.cons rfl .nil))))),?_,?_⟩
      ·exact⟨_,_,hM,S,dx,dP,g2,dK,g3,fh,fy,by rw[pH,hga,if_neg K3],by dsimp only;omega,by dsimp only;omega,Cc,by dsimp only;omega⟩
      ·dsimp only;omega
   ·refine cH (aj (ae (fL (vs:=[.int .i64 d.1,uo]) bm rfl pD rfl rfl rfl g3 ?_)));refine dI (M:=M1) (vs:=[.int .i64 d.1,uo]) pD rfl rfl (by intro u hu;simp at hu;rcases hu with rfl|rfl<;>first|rfl|exact lW (by assumption) rfl rfl) rfl rfl g2 dK (fun agm MW pL=>?_);have:=ak g2;replace dK:=(pL.mem _ this).2 dK;have:=ak g3;replace fh:=(pL.mem _ this).2 fh;replace g3:=pL.keep g3 (fun hk=>by have hk:_=_:=hk;omega);replace dx:=dx.le (by decide) pL.le;replace dP:=dP.le pL.le;replace fy:=fy.le pL.le;replace hM:=pL.lt hM;have:=S.size;replace S:=S.trans pL (fun k hk h=>by have h:_=_:=h;subst h;first|(exfalso;omega)|(show _≤_;omega)|exact⟨by first|omega|assumption,(S.mem _ hk).1 ((pL.mem _ (ak g2)).1 dK)⟩|exact .inl rfl|exact .inr rfl|exact .inr (.inl rfl)|exact .inr (.inr rfl)|exact .inr (.inr (.inl rfl))|exact rfl);have MX:=MW;clear g2;have g2:=MX;clear MX;refine ab (aP ?_);have e:p9 d=(d.1,out):=by rw[p9,pH,By (by omega)]
    rw[e];refine Cn (vs:=[.int .i64 d.1,uo]) rfl rfl bm rfl pD rfl g2 ⟨fg (gv hdi) (fy.le (Le.close jO S)) rfl rfl rfl rfl,S.back⟩
  ·refine aw rfl rfl rfl rfl (aw rfl rfl rfl rfl (aE rfl rfl rfl (ab (jD rfl (cH (aj (ae (fL (vs:=[.int .i64 d.1,uo]) bm rfl pD rfl rfl rfl g3 ?_))))))));refine dI (M:=M1) (vs:=[.int .i64 d.1,uo]) pD rfl rfl (by intro u hu;simp at hu;rcases hu with rfl|rfl<;>first|rfl|exact lW (by assumption) rfl rfl) rfl rfl g2 dK (fun agm MW pL=>?_);have:=ak g2;replace dK:=(pL.mem _ this).2 dK;have:=ak g3;replace fh:=(pL.mem _ this).2 fh;replace g3:=pL.keep g3 (fun hk=>by have hk:_=_:=hk;omega);replace dx:=dx.le (by decide) pL.le;replace dP:=dP.le pL.le;replace fy:=fy.le pL.le;replace hM:=pL.lt hM;have:=S.size;replace S:=S.trans pL (fun k hk h=>by have h:_=_:=h;subst h;first|(exfalso;omega)|(show _≤_;omega)|exact⟨by first|omega|assumption,(S.mem _ hk).1 ((pL.mem _ (ak g2)).1 dK)⟩|exact .inl rfl|exact .inr rfl|exact .inr (.inl rfl)|exact .inr (.inr rfl)|exact .inr (.inr (.inl rfl))|exact rfl);have MX:=MW;clear g2;have g2:=MX;clear MX;refine ab (aP ?_);have e:p9 d=(d.1,out):=by rw[p9,pH,By (by omega)]
   rw[e];refine Cn (vs:=[.int .i64 d.1,uo]) rfl rfl bm rfl pD rfl g2 ⟨fg (gv hdi) (fy.le (Le.close jO S)) rfl rfl rfl rfl,S.back⟩
end Go.K
namespace Go.K
open Go.Proofs
set_option maxRecDepth 10000
def dn (l:List Dc) (from_ step:Int):Nat→List En
 |0=>[]
 |k+1=>dn l from_ step k++(match l[k]? with|some d=>[(p9 d,from_+step*(k:Int))]|none=>[])
theorem mn (l:List Dc) (a s:Int):∀k,(dn l a s k).length=min k l.length
 |0=>by simp[dn]
 |k+1=>by
  rw[dn,a8,mn l a s k]
  cases h:l[k]? with
  |none=>have:=List.getElem?_eq_none_iff.1 h;simp;omega
  |some d=>have:=(an.1 h).1;simp;omega
theorem zz {l:List Dc} {a s:Int} {k:Nat} {d:Dc} (h:l[k]? =some d):dn l a s (k+1)=dn l a s k++[(p9 d,a+s*(k:Int))]:=by rw[dn,h]
theorem zA {l:List Dc} {a s:Int} {k:Nat} (h:l.length≤k):dn l a s (k+1)=dn l a s k:=by
 rw[dn,List.getElem?_eq_none_iff.2 h];simp
theorem Ev {l:List Dc} {a s:Int} {n i:Nat} (h:l.length≤i∨n≤i) (h1:i≤n):dn l a s i=dn l a s n:=by
 induction n with
 |zero=>have:i=0:=by omega
        rw[this]
 |succ n ih=>
  rcases lK h1 with e|dY
  ·rw[e]
  ·rcases h with h|h
   ·rw[zA (by omega)];exact ih (.inl h) (by omega)
   ·omega
theorem QN {s k:Int} (h:0≤s∧s≤1000) (hk:0≤k∧k≤100):0≤s*k∧s*k≤100000:=
 ⟨Int.mul_nonneg h.1 hk.1,Int.le_trans (Int.mul_le_mul h.2 hk.2 hk.1 (by omega)) (by omega)⟩
theorem G8 {M:aD} {l:List Dc} {v0:Value} {most:Nat} {a s:Int} (w0:World) (hM:Lt M w0) (hv:(RT.dc.sl).V M w0 l v0) (hm:most≤100) (ha:0≤a∧a≤1000000) (hs:0≤s∧s≤1000):
  Spec Tryz.prog 12 #[v0,.int .i64 (most:Int),.int .i64 a,.int .i64 s] w0 (fun v w=>(RT.en.sl).V M w (dn l a s most) v∧Step M w0 M w aC):=by
 have jO:=hM;refine bg (args:=[_,_,_,_]) (fn:=Tryz.f12) Tryz.func12 rfl (n:=37) Tryz.ntmps12 ?_;have S:Step M w0 M w0 aC:=(au _ _).cB (fun _ h=>h.elim) (fun _ h=>h.elim);refine aj (ae (ah rfl rfl (ab (aj (ae (ah rfl rfl (ab (aj (aj (ae (ah rfl rfl ?_)))))))))));refine ab (aY ?_);refine dh (σ:=Nat×Value) (fun q=>[(0,v0),(1,.int .i64 (most:Int)),(2,.int .i64 a),(3,.int .i64 s),(9,q.2),(10,.int .i64 (q.1:Int))]) (fun q w=>∃M',Lt M' w∧Step M w0 M' w aC∧Own RT.en 71 M' w w0.heap.size q.2 (dn l a s q.1)∧(RT.dc.sl).V M' w l v0∧q.1≤most∧q.1≤l.length) (fun q=>most-q.1) (0,.slice none 0 0) (.cons rfl (.cons rfl (.cons rfl (.cons rfl (.cons rfl (.cons rfl .nil)))))) ?_ ?_
 ·exact⟨M,hM,S,dz _ _ _ _ _,hv,bD _,bD _⟩
 ·rintro⟨i,u⟩ w ⟨M1,hM,S,ho,hv,hi,ou⟩;dsimp only at ho hi ou ⊢;refine aj (aj (ae (ad rfl rfl (ad rfl rfl (bN Tryz.underlying22 rfl hv rfl (cg rfl rfl rfl (ad rfl rfl ?_)))))));refine aS (g:=15) rfl (fun kq=>?_) (fun kq=>?_)
  ·refine al rfl rfl (ad rfl rfl (al rfl rfl (ad rfl rfl (al rfl rfl (cg rfl rfl rfl (aZ rfl rfl rfl (ab ?_)))))));refine bM rfl (fun c3=>?_) (fun c3=>?_)
   ·refine aT (aj (aY (ae (ad rfl rfl (ad rfl rfl (ad rfl rfl ?_))))));refine cv (M:=M1) Tryz.underlying22 pD rfl rfl rfl hv (aq _ _) (by omega) (fun u5 d JV D9=>?_);rw[ay]at JV;have J4:=QN (k:=(i:Int)) hs (by omega);refine cT (M:=M1) (A:=RT.dc) bm rfl pD (by decide) rfl rfl rfl D9 (aq _ _) (fun v5 ox=>?_);refine aX rfl rfl E44 (J3 _ hM ox) (fun r5 w5 hc=>?_);obtain⟨pH,s5⟩:=hc;replace hv:=hv.le s5.le;replace ho:=ho.aO s5;replace hM:=s5.lt hM;have:=S.size;replace S:=S.aB s5;refine ad rfl rfl (ad rfl rfl (ad rfl rfl (Rg.P9 rfl rfl rfl (by omega) (bG rfl rfl rfl (by omega) ?_))));obtain⟨uf,rfl⟩:=MA pH;refine iM (places:=[(0,2),(2,1)]) dV Dx B71 rfl ⟨_,_,rfl,rfl,_,_,rfl,rfl,rfl⟩ (out:=[_,_,_]) ⟨0,[_,_],rfl,rfl,by simp[Value.cells],2,[_],rfl,rfl,by simp[Value.cells],rfl⟩ ?_;refine eu (A:=RT.en) (hn:=by decide) (M:=M1) eE Dx (by decide) rfl rfl hM (show RT.en.V _ _ (p9 d,a+s*(i:Int)) _ from SL pH (by omega)) (.inl rfl) (fun amh ami G9 Ew=>?_);replace hv:=hv.le Ew.le;replace pH:=pH.le Ew.le;replace ho:=ho.aO Ew;replace hM:=Ew.lt hM;have:=S.size;replace S:=S.aB Ew;refine cV (M:=M1) (base:=w0.heap.size) eE Dx rfl rfl rfl rfl ho G9 (aq _ _) (by have:=mn l a s i;simp;omega) (by have:=mn l a s i;simp;omega) (S.size) (fun Z3 Z4 amj VI Ex=>?_);replace hv:=hv.le Ex.le;replace pH:=pH.le Ex.le;replace G9:=G9.le Ex.le;replace hM:=Ex.lt hM;have:=S.size;replace S:=S.cX Ex ho (aR _);replace ho:=VI;refine ah rfl rfl (ab (ae (ad rfl rfl (bG rfl rfl rfl (by omega) (ah rfl rfl (ab ?_))))));refine⟨rfl,(i+1,Z3),(.cons rfl (.cons rfl (.cons rfl (.cons rfl (.cons rfl (.cons rfl .nil)))))),?_,?_⟩
    ·exact⟨Z4,hM,S,by rw[zz JV];exact ho,hv,by dsimp only;omega,by dsimp only;omega⟩
    ·dsimp only;omega
   ·refine cH (aj (ae (ad rfl rfl (ah rfl rfl (ab (aP ?_))))));rw[←Ev (i:=i) (n:=most) (by omega) hi];exact aV rfl rfl ⟨ho.close jO S (by have:=mn l a s i;omega),S.back⟩
  ·refine aw rfl rfl rfl rfl (aw rfl rfl rfl rfl (aw rfl rfl rfl rfl (aE rfl rfl rfl (ab (jD rfl (cH (aj (ae (ad rfl rfl (ah rfl rfl (ab ?_)))))))))));refine aP ?_;rw[←Ev (i:=i) (n:=most) (by omega) hi];exact aV rfl rfl ⟨ho.close jO S (by have:=mn l a s i;omega),S.back⟩
end Go.K
namespace Go.K
open Go.Maps (Keyed)
structure fI (P:Program) (kt:TypeId) (w:World) (b:Nat) (es:List MapEntry) (clock:Nat):Prop where
 at_:w.heap[b]? =some (.map es.toArray clock)
 born:es.Pairwise fun x y=>x.born≠y.born
 lt:∀e∈es,e.born<clock
 keys:es.Pairwise fun x y=>x.key≠y.key
 ok:∀e∈es,∃l,keyOf P kt e.key=some l
def eB (zv:Value) (es:List MapEntry) (key v:Value):Prop:=(∃e∈es,e.key=key∧v=e.val)∨((∀e∈es,e.key≠key)∧v=zv)
section
variable {P:Program} {kt:TypeId} {w:World} {b clock:Nat} {es:List MapEntry}
theorem fI.step {M M' N:aD} {w':World} (h:fI P kt w b es clock) (s:Step M w M' w' N) (hn: ¬N b):fI P kt w' b es clock:=⟨s.keep h.at_ hn,h.born,h.lt,h.keys,h.ok⟩
theorem fI.aO {M M':aD} {w':World} (h:fI P kt w b es clock) (s:Step M w M' w' aC):fI P kt w' b es clock:=h.step s fun h=>h
theorem iH {α:Type} {R:α→α→Prop} {l:List α} (h:l.Pairwise R) {i j:Nat} {x y:α} (hi:l[i]? =some x) (hj:l[j]? =some y) (jq:i<j):R x y:=by
 obtain⟨h1,h2⟩:=an.1 hi;obtain⟨h3,h4⟩:=an.1 hj;have:=cn.1 h i j h1 h3 jq
 rwa [h2,h4]at this
theorem fI.II (h:fI P kt w b es clock) {x y:MapEntry} (hx:x∈es) (hy:y∈es) (e:x.key=y.key):x=y:=by
 obtain⟨i,hi⟩:=bz.1 hx;obtain⟨j,hj⟩:=bz.1 hy;rcases eR i j with h1|h1|h1
 ·exact absurd e (iH h.keys hi hj h1)
 ·subst h1;rw[hi]at hj;exact aF hj
 ·exact absurd e.symm (iH h.keys hj hi h1)
theorem fI.Ey (h:fI P kt w b es clock) {i j:Nat} {x y:MapEntry} (hi:es[i]? =some x) (hj:es[j]? =some y) (e:x.born=y.born):i=j:=by
 rcases eR i j with h1|h1|h1
 ·exact absurd e (iH h.born hi hj h1)
 ·exact h1
 ·exact absurd e.symm (iH h.born hj hi h1)
theorem fI.val_one (h:fI P kt w b es clock) {zv key v v':Value} (h1:eB zv es key v) (h2:eB zv es key v'):v=v':=by
 rcases h1 with⟨e,he,hk,hv⟩|⟨hn,hv⟩
 ·rcases h2 with⟨e',qN,uj,sr⟩|⟨J5,_⟩
  ·have:=h.II he qN (hk.trans uj.symm);rw[hv,sr,this]
  ·exact absurd hk (J5 e he)
 ·rcases h2 with⟨e',qN,uj,_⟩|⟨_,sr⟩
  ·exact absurd uj (hn e' qN)
  ·rw[hv,sr]
theorem dT {r:Nat} {a:Array MapEntry} {c:Nat} (hb:w.heap[r]? =some (.map a c)):(getObj r).run P w= .ok (.map a c) w:=by simp[getObj,Sem.run,hb]
theorem run_setObj_map {r:Nat} {a:Array MapEntry} {c:Nat} {o:Obj} (hb:w.heap[r]? =some (.map a c)):(setObj r o).run P w= .ok () {w with heap:=w.heap.setIfInBounds r o}:=by simp[setObj,Sem.run,hb]
theorem fI.push (h:fI P kt w b es clock) {key v:Value} {kl:Lit} (lQ:keyOf P kt key=some kl) (hn:∀e∈es,e.key≠key) {w':World} (hw:w'.heap[b]? =some (.map (es++([⟨key,v,clock⟩]:List MapEntry)).toArray (clock+1))):fI P kt w' b (es++[⟨key,v,clock⟩]) (clock+1):=
 ⟨hw,iP.2 ⟨h.born,List.pairwise_singleton _ _,fun x hx y hy=>by rw[bS.1 hy];have:=h.lt x hx;show x.born≠clock;omega⟩,(fun e he=>by
  rcases cr.1 he with he|he
  ·have:=h.lt e he;omega
  ·rw[bS.1 he];exact Nat.lt_succ_self _),iP.2 ⟨h.keys,List.pairwise_singleton _ _,fun x hx y hy=>by rw[bS.1 hy];exact hn x hx⟩,(fun e he=>by
  rcases cr.1 he with he|he
  ·exact h.ok e he
  ·rw[bS.1 he];exact⟨kl,lQ⟩)⟩
theorem eB.push {zv key:Value} {s:Nat} (hn:∀e∈es,e.key≠key) (jy v':Value):eB zv (es++[⟨key,zv,s⟩]) jy v'↔eB zv es jy v':=by
 constructor
 ·rintro(⟨e,he,hk,hv⟩|⟨h1,h2⟩)
  ·rcases cr.1 he with he|he
   ·exact .inl ⟨e,he,hk,hv⟩
   ·rw[bS.1 he]at hk hv;exact .inr ⟨fun e he=>by rw[←hk];exact hn e he,hv⟩
  ·exact .inr ⟨fun e he=>h1 e (gC _ he),h2⟩
 ·rintro(⟨e,he,hk,hv⟩|⟨h1,h2⟩)
  ·exact .inl ⟨e,gC _ he,hk,hv⟩
  ·by_cases hk:key=jy
   ·exact .inl ⟨⟨key,zv,s⟩,by simp,hk,h2⟩
   ·exact .inr ⟨fun e he=>by
     rcases cr.1 he with he|he
     ·exact h1 e he
     ·rw[bS.1 he];exact hk,h2⟩
end
section
variable {P:Program} {r:Option Nat} {n:Nat} {L:Sl} {ds:List Deferred} {w:World} {K:Kt} {ops:Array Oper} {rest:List Oper} {d:Nat} {x y z:Operand} {ty:TypeId} {pos:String} {af:Array Edge}
variable {kt:TypeId} {M:aD} {b clock:Nat} {es:List MapEntry}
theorem Rg.Ez {t e:TypeId} (M:aD) (ht:P.underlying t=some (.map kt e)) (hd:Nat.blt d n=true)
  (k:∀b w',w.heap.size≤b→b<w'.heap.size→fI P kt w' b [] 0→Step M w (ins M b) w' aC→Rg P r n ops rest ((d,.map (some b))::L) ds w' K):
  Rg P r n ops ({dst:=some d,op:= .makeMap t none,type:=ty,pos,after:=af,guard:=none}::rest) L ds w K:=by
 refine .op (fun _ h=>by cases h) rfl rfl hd (.map (some w.heap.size)) (w.alloc (.map #[] 0)) (fun ρ hρ=>?_) (k w.heap.size _ (aR _) (by simp) ⟨cj w _,List.Pairwise.nil,(fun e he=>by cases he),List.Pairwise.nil,(fun e he=>by cases he)⟩ ((cW M w _).own (aR _) (by simp)));simp only[execOp];simp[Instr.makeMap,newObj,Sem.run,run_underlying ht]
theorem Rg.mapEntry {t e:TypeId} {zv key:Value} {size bytes:Nat} {kl:Lit} (ht:P.underlying t=some (.map kt e)) (Kk:Keyed P kt) (hi:TI P e zv size bytes) (hx:ev L x=some (.map (some b))) (hy:ev L y=some key) (hd:Nat.blt d n=true) (lQ:keyOf P kt key=some kl) (h:fI P kt w b es clock) (hm:M b)
  (k:∀w' qa Ha v s,fI P kt w' b qa Ha→eB zv es key v→(⟨key,v,s⟩:MapEntry)∈qa→(∀jy v',eB zv qa jy v'↔eB zv es jy v')→((qa.map (·.key)=es.map (·.key)∧∃e∈es,e.key=key)∨(qa.map (·.key)=es.map (·.key)++[key]∧∀e∈es,e.key≠key))→Step M w M w' (fun k=>k=b)→Rg P r n ops rest ((d,.tuple #[v,.int .i64 (s:Nat)])::L) ds w' K):
  Rg P r n ops ({dst:=some d,op:= .mapEntry t x y,type:=ty,pos,after:=af,guard:=none}::rest) L ds w K:=by
 have dY:=ak h.at_;rcases Kk.find w lQ es h.ok with⟨h1,h2⟩|⟨j,e0,h1,h2,h3⟩
 ·obtain⟨inf,i1,i2,_,_⟩:=hi.get;have hz:(zeroValue e).run P w= .ok zv w:=by simp[zeroValue,typeInfo,i1,i2]
  have hw:({w with heap:=w.heap.setIfInBounds b (.map (es.toArray.push ⟨key,zv,clock⟩) (clock+1))}:World).heap[b]? =some (.map (es++([⟨key,zv,clock⟩]:List MapEntry)).toArray (clock+1)):=by
   simp[dG,dY]
  refine .op (fun _ h=>by cases h) rfl rfl hd _ _ (fun ρ hρ=>?_) (k _ _ _ zv clock (h.push lQ h2 hw) (Or.inr ⟨h2,rfl⟩) (by simp) (eB.push h2) (Or.inr ⟨by simp,h2⟩) (jw M hm));simp only[execOp,hρ x _ hx,hρ y _ hy,Instr.mapEntry,cq,run_underlying ht,cD,dT h.at_,Kk.check w false lQ,h1,hz,run_setObj_map h.at_];simp[goInt]
 ·have he:e0∈es:=az h2
  have MY:es.toArray.modify j (fun e=>{e with key:=key})=es.toArray:=by
   apply Array.ext_getElem?;intro i;rw[jS]
   split
   ·rename_i Tf
    subst Tf;simp only[eI,h2,cY];rw[←h3]
   ·rfl
  have hw:({w with heap:=w.heap.setIfInBounds b (.map es.toArray clock)}:World).heap[b]? =some (.map es.toArray clock):=by simp[dG,dY]
  have hj:es.toArray[j]? =some e0:=by simpa using h2
  have kM:(Instr.keyThatStays ((Option.map (fun(e:MapEntry)=>e.key) es.toArray[j]?).getD key) key).run P w= .ok key w:=by
   rw[hj];simp only[cY,Option.getD_some,h3];exact Kk.stays w lQ
  refine .op (fun _ h=>by cases h) rfl rfl hd _ _ (fun ρ hρ=>?_) (k _ es clock e0.val e0.born ⟨hw,h.born,h.lt,h.keys,h.ok⟩ (Or.inl ⟨e0,he,h3,rfl⟩) (by rw[←h3];exact he) (fun _ _=>Iff.rfl) (Or.inl ⟨rfl,e0,he,h3⟩) (jw M hm));simp only[execOp,hρ x _ hx,hρ y _ hy,Instr.mapEntry,cq,run_underlying ht,cD,dT h.at_,Kk.check w false lQ,h1,kM,MY,run_setObj_map h.at_];simp[goInt,hj]
theorem Rg.entryStore {t:TypeId} {key v0 val:Value} {s:Nat} (hx:ev L x=some (.map (some b))) (hy:ev L y=some (.int .i64 (s:Int))) (hz:ev L z=some val) (h:fI P kt w b es clock) (hm:M b) (kE:(⟨key,v0,s⟩:MapEntry)∈es)
  (k:∀w' qa,fI P kt w' b qa clock→qa.map (·.key)=es.map (·.key)→(∀zv jy v',eB zv qa jy v'↔(jy=key∧v'=val)∨(jy≠key∧eB zv es jy v'))→Step M w M w' (fun k=>k=b)→Rg P r n ops rest L ds w' K):
  Rg P r n ops ({dst:=none,op:= .entryStore t x y z,type:=ty,pos,after:=af,guard:=none}::rest) L ds w K:=by
 have dY:=ak h.at_;obtain⟨i,hi⟩:=bz.1 kE;have ou:=(an.1 hi).1
 have agn:es.toArray.findIdx? (fun e=>(e.born:Int)==(s:Int))=some i:=by
  rw[List.findIdx?_toArray,List.findIdx?_eq_some_iff_getElem];refine⟨ou,by rw[(an.1 hi).2];simp,fun j hj=>?_⟩;have xU:j<es.length:=by omega
  have:=fun e=>h.Ey (ar xU) hi e
  simp only[Bool.not_eq_true,beq_eq_false_iff_ne,ne_eq];intro e;have e2:((es[j]).born:Int)=(s:Int):=by simpa using e
  have:=this (by show(es[j]).born=s;omega);omega
 obtain⟨qa,wC⟩:∃qa,qa=es.set i ⟨key,val,s⟩:=⟨_,rfl⟩
 have MY:es.toArray.modify i (fun e=>{e with val:=val})=qa.toArray:=by
  apply Array.ext_getElem?;intro j;rw[jS,wC];simp only[eI,dp]
  split
  ·rename_i Tf
   subst Tf;rw[hi];simp
  ·rfl
 have jf:∀j e',qa[j]? =some e'→(j=i∧e'=⟨key,val,s⟩)∨(j≠i∧es[j]? =some e'):=fun j e' hj=>by
  rw[wC,dp]at hj
  split at hj
  ·rename_i jq
   left;exact⟨jq.symm,by simpa[ou]using hj.symm⟩
  ·rename_i jq
   exact .inr ⟨fun e=>jq e.symm,hj⟩
 have qb:qa.map (·.key)=es.map (·.key):=by
  rw[wC,List.map_set];apply fq;intro j;rw[dp]
  split
  ·rename_i jq
   subst jq;have e:=(an.1 hi).2;simp[ou,e]
  ·rfl
 have MZ:qa.map (·.born)=es.map (·.born):=by
  rw[wC,List.map_set];apply fq;intro j;rw[dp]
  split
  ·rename_i jq
   subst jq;have e:=(an.1 hi).2;simp[ou,e]
  ·rfl
 have hw:({w with heap:=w.heap.setIfInBounds b (.map qa.toArray clock)}:World).heap[b]? =some (.map qa.toArray clock):=by simp[dG,dY]
 have eV:∀e'∈qa,(e'=⟨key,val,s⟩)∨(e'∈es∧e'.key≠key):=fun e' qN=>by
  obtain⟨j,hj⟩:=bz.1 qN;rcases jf j e' hj with⟨_,e⟩|⟨eN,uq⟩
  ·exact .inl e
  ·refine .inr ⟨az uq,fun e=>eN ?_⟩;rcases eR j i with h1|h1|h1
   ·exact absurd e (iH h.keys uq hi h1)
   ·exact h1
   ·exact absurd e.symm (iH h.keys hi uq h1)
 have Na:(⟨key,val,s⟩:MapEntry)∈qa:=az (i:=i) (by rw[wC,dp];simp[ou])
 have hold:∀e'∈es,e'.key≠key→e'∈qa:=fun e' qN eN=>by
  obtain⟨j,hj⟩:=bz.1 qN;refine az (i:=j) ?_;rw[wC,dp,if_neg]
  ·exact hj
  ·rintro rfl;rw[hi]at hj;cases hj;exact eN rfl
 have hW:fI P kt {w with heap:=w.heap.setIfInBounds b (.map qa.toArray clock)} b qa clock:=by
  refine⟨hw,?_,fun e' qN=>?_,?_,fun e' qN=>?_⟩
  ·have:=cx.2 h.born;rw[←MZ]at this;exact cx.1 this
  ·rcases eV e' qN with e|⟨h1,_⟩
   ·rw[e];exact(h.lt _ kE:s<clock)
   ·exact h.lt _ h1
  ·have:=cx.2 h.keys;rw[←qb]at this;exact cx.1 this
  ·rcases eV e' qN with e|⟨h1,_⟩
   ·rw[e];exact(h.ok _ kE:∃l,keyOf P kt key=some l)
   ·exact h.ok _ h1
 refine .Sj (fun _ h=>by cases h) rfl rfl _ (fun ρ hρ=>?_) (k _ qa hW qb (fun zv jy v'=>?_) (jw M hm))
 ·simp only[execOp,hρ x _ hx,hρ y _ hy,hρ z _ hz,Instr.entryStore,cq,dT h.at_,cD,asInt,asIntOf,Sem.run_pure,agn,MY,run_setObj_map h.at_]
 ·constructor
  ·rintro(⟨e',qN,hk,hv⟩|⟨h1,h2⟩)
   ·rcases eV e' qN with e|⟨h3,h4⟩
    ·subst e;exact .inl ⟨hk.symm,hv⟩
    ·exact .inr ⟨by rw[←hk];exact h4,.inl ⟨e',h3,hk,hv⟩⟩
   ·have eN:jy≠key:=fun e=>h1 _ Na e.symm
    exact .inr ⟨eN,.inr ⟨fun e' qN=>fun e=>by
     by_cases h5:e'.key=key
     ·exact eN (e.symm.trans h5)
     ·exact h1 e' (hold e' qN h5) e,h2⟩⟩
  ·rintro(⟨rfl,rfl⟩|⟨eN,⟨e',qN,hk,hv⟩|⟨h1,h2⟩⟩)
   ·exact .inl ⟨_,Na,rfl,rfl⟩
   ·exact .inl ⟨e',hold e' qN (by rw[hk];exact eN),hk,hv⟩
   ·exact .inr ⟨fun e' qN=>by
     rcases eV e' qN with e|⟨h3,_⟩
     ·rw[e];exact fun e=>eN e.symm
     ·exact h1 e' h3,h2⟩
theorem Rg.uG {t e:TypeId} {zv key:Value} {size bytes:Nat} {kl:Lit} (ht:P.underlying t=some (.map kt e)) (Kk:Keyed P kt) (hi:TI P e zv size bytes) (hx:ev L x=some (.map (some b))) (hy:ev L y=some key) (hd:Nat.blt d n=true) (lQ:keyOf P kt key=some kl) (h:fI P kt w b es clock)
  (k:∀v,eB zv es key v→Rg P r n ops rest ((d,v)::L) ds w K):
  Rg P r n ops ({dst:=some d,op:= .lookup t x y false,type:=ty,pos,after:=af,guard:=none}::rest) L ds w K:=by
 rcases Kk.find w lQ es h.ok with⟨h1,h2⟩|⟨j,e0,h1,h2,h3⟩
 ·obtain⟨inf,i1,i2,_,_⟩:=hi.get;have hz:(zeroValue e).run P w= .ok zv w:=by simp[zeroValue,typeInfo,i1,i2]
  refine .op (fun _ h=>by cases h) rfl rfl hd zv w (fun ρ hρ=>?_) (k zv (Or.inr ⟨h2,rfl⟩));simp only[execOp,hρ x _ hx,hρ y _ hy,Instr.lookup,cq,run_underlying ht,cD,dT h.at_,Sem.run_pure,Kk.check w _ lQ,h1,hz];simp
 ·refine .op (fun _ h=>by cases h) rfl rfl hd e0.val w (fun ρ hρ=>?_) (k e0.val (Or.inl ⟨e0,az h2,h3,rfl⟩));simp only[execOp,hρ x _ hx,hρ y _ hy,Instr.lookup,cq,run_underlying ht,cD,dT h.at_,Sem.run_pure,Kk.check w _ lQ,h1];simp
end
end Go.K
namespace Go.K
open Go.Proofs
set_option maxRecDepth 10000
open Go.Maps (Keyed)
def kv (t:Fd):Value:= .agg #[.string ⟨t.1.toArray⟩,.string ⟨t.2.toArray⟩]
theorem wG {a b:Fd} (h:kv a=kv b):a=b:=by
 unfold kv at h;simp only[Value.agg.injEq,Array.mk.injEq,List.cons.injEq,Value.string.injEq,ByteArray.mk.injEq,and_true]at h;exact xK h.1 h.2
theorem Nb:laidOutB Tryz.prog=true:=by kernel_rfl
theorem Nc:Tryz.prog.types.size=383:=by kernel_rfl
theorem BA:Keyed Tryz.prog 78:=Keyed.of_law (deep_law_laid Nb (m:=2) (k:=78) (by omega) (by rw[Nc];decide) (by kernel_rfl) (by kernel_rfl))
theorem Z5:Tryz.prog.keyType 78=true:=by kernel_rfl
theorem IK:Tryz.prog.cellsOf 78=2:=by kernel_rfl
theorem QO:Tryz.prog.cellsOf 9=1:=by kernel_rfl
theorem Nd (t:Fd) (h1:t.1.length≤140737488355328) (h2:t.2.length≤140737488355328):∃l,keyOf Tryz.prog 78 (kv t)=some l:=by
 have e1:(⟨t.1.toArray⟩:ByteArray).size=t.1.length:=by simp[ByteArray.size]
 have e2:(⟨t.2.toArray⟩:ByteArray).size=t.2.length:=by simp[ByteArray.size]
 have hs:∀(s:ByteArray),s.size≤maxLen→Tryz.prog.keyLits 383 9 [.string s]=some [.string s.data.toList]:=fun s hs=>by
  show(match Tryz.prog.underlying 9,[Value.string s]with|_,_=>_)=_;rw[aK];exact if_pos hs
 unfold keyOf kv;rw[dN];simp only[Z5,Value.formed,dN,IK,Nc]
 have key:∃ls,Tryz.prog.keyLits (383+1) 78 [.string ⟨t.1.toArray⟩,.string ⟨t.2.toArray⟩]=some ls:=by
  unfold Program.keyLits;simp only[dN];rw[if_pos ⟨by rw[IK];rfl,by kernel_rfl⟩];simp only[List.mapM_cons,List.mapM_nil,QO];have g1:=hs ⟨t.1.toArray⟩ (by rw[e1];unfold maxLen;omega);have g2:=hs ⟨t.2.toArray⟩ (by rw[e2];unfold maxLen;omega);refine⟨[.string (⟨t.1.toArray⟩:ByteArray).data.toList,.string (⟨t.2.toArray⟩:ByteArray).data.toList],?_⟩;simp only[List.drop_zero,List.drop_succ_cons,o8,List.take_zero,g1,g2];rfl
 obtain⟨ls,hls⟩:=key;exact⟨.string (keyBytes ls),by rw[if_pos (by simp)];show Option.map _ (Tryz.prog.keyLits (383+1) 78 [.string ⟨t.1.toArray⟩,.string ⟨t.2.toArray⟩])=_;rw[hls];rfl⟩
end Go.K
namespace Go.K
open Go.Proofs
set_option maxRecDepth 10000
def jz (x:Fd):List (Fd×Nat):=(words x.2).zipIdx.map fun p=>((x.1,p.1),p.2)
def cM (l:List Fd):List (Fd×Nat):=l.flatMap jz
theorem oP (x:Fd):(jz x).length=(words x.2).length:=by simp[jz]
theorem Nf {x:Fd} {k:Nat} {y:List UInt8} (h:(words x.2)[k]? =some y):(jz x)[k]? =some ((x.1,y),k):=by
 simp[jz,List.getElem?_zipIdx,h]
theorem tI {fs:List Fd} {i:Nat} {x:Fd} (h:fs[i]? =some x):cM (fs.take (i+1))=cM (fs.take i)++jz x:=by
 rw[bI,h];simp[cM]
structure VJ (P:Program) (g:FuncId) (cap:List Value) (B:Nat) (J:List (Fd×Nat)→aD→World→Prop):Prop where
 enters:Enters P g
 step:∀ts M w M' w',J ts M w→Step M w M' w' aC→J ts M' w'
 tell:∀ts M w (t:Fd) (i:Nat),J ts M w→Lt M w→t.1.length≤900000→t.2.length≤140737488355328→i≤1000000→ts.length≤10000000→Spec P g ([kv t,.int .i64 (i:Int)]++cap).toArray w (fun _ w'=>∃M',Lt M' w'∧J (ts++[(t,i)]) M' w'∧Step M w M' w' (l1 M B))
theorem BB {M:aD} {d:Dc} {v0:Value} {g:FuncId} {cap:List Value} {B:Nat} {J:List (Fd×Nat)→aD→World→Prop} (w0:World) (hM:Lt M w0) (hv:RT.dc.V M w0 d v0) (hl:∀f∈d.2,f.1.length≤900000∧f.2.length≤900000) (hd8:d.2.length≤8) (hT:VJ Tryz.prog g cap B J) (hJ:J [] M w0):
  Spec Tryz.prog 132 #[v0,.func (.func g) #[] cap.toArray] w0 (fun v w=>∃M',Lt M' w∧J (cM d.2) M' w∧Step M w0 M' w (l1 M B)):=by
 refine bg (args:=[_,_]) (fn:=Tryz.f132) Tryz.func132 rfl (n:=33) Tryz.ntmps132 ?_;have S:Step M w0 M w0 (l1 M B):=(au _ _).cB (fun _ h=>h.elim) (fun _ h=>h.2);refine aj (ae ?_);refine qs (A:=RT.dc) rfl rfl hM hv rfl (fun u0 w1 dx s0 _=>?_);replace hJ:=hT.step _ _ _ _ _ hJ s0;replace hM:=s0.lt hM;have:=S.size;replace S:=S.aB s0;refine ab (aj (ae ?_));refine aQ (M:=M) (A:=RT.dc) (B:=(RT.fd).sl) bm rfl rfl wo (by decide) (JZ) rfl rfl (by decide) (by assumption) (by repeat (first|exact aq _ _|refine bc (bF (by assumption)) ?_)) (fun CB nF=>?_);refine bU (M:=M) bB rfl rfl rfl rfl rfl (by assumption) (by repeat (first|exact aq _ _|refine bc (bF (by assumption)) ?_)) (fun AU nG=>?_);refine bN bB rfl nG rfl (ad rfl rfl (ab (aY ?_)));refine dh (σ:=Nat) (fun i=>[(1,.func (.func g) #[] cap.toArray),(9,AU),(10,.int .i64 (d.2.length:Int)),(11,.int .i64 (i:Int))]) (fun i w=>∃M',Lt M' w∧Step M w0 M' w (l1 M B)∧(RT.fd.sl).V M' w d.2 AU∧J (cM (d.2.take i)) M' w∧i≤d.2.length∧(cM (d.2.take i)).length≤900001*i) (fun i=>d.2.length-i) 0 (.cons rfl (.cons rfl (.cons rfl (.cons rfl .nil)))) ?_ ?_
 ·exact⟨_,hM,S,nG,hJ,bD _,aR _⟩
 ·rintro i w ⟨M1,hM,S,jd,hJ,hi,Is⟩;refine aj (ae (cg rfl rfl rfl (ab (aj ?_))));refine bM rfl (fun c2=>?_) (fun c2=>?_)
  ·refine aT (aj (aY (aj (ae ?_))));refine cv (M:=M1) bB kO rfl rfl rfl jd (aq _ _) (by omega) (fun u3 x PQ J6=>?_);rw[ay]at PQ;have ru:=hl _ (az PQ);refine cT (M:=M1) (A:=RT.fd) cz rfl kO (by decide) rfl rfl rfl J6 (aq _ _) (fun v3 xr=>?_);refine yf (A:=RT.fd) (M:=M1) kO rfl rfl rfl rfl rfl (by assumption) (aq _ _) hM (fun VK aqv BC QP aqw=>?_);replace jd:=jd.le QP.le;replace hJ:=hT.step _ _ _ _ _ hJ QP;replace hM:=QP.lt hM;have:=S.size;replace S:=S.aB QP;refine ab (aj (ae ?_));refine aQ (M:=M1) (A:=RT.fd) (B:=RT.str) cz rfl rfl I9 (by decide) (fd1) rfl rfl (by decide) (by assumption) (by repeat (first|exact aq _ _|refine bc (bF (by assumption)) ?_)) (fun Vq IG=>?_);refine bU (M:=M1) aK rfl rfl rfl rfl rfl IG (aq _ _) (fun v4 nv=>?_);obtain rfl:=gm nv;refine aX rfl rfl Y9 (zk (l:=x.2) _ hM ru.2) (fun v5 w5 hc=>?_);obtain⟨Z6,s5⟩:=hc;replace jd:=jd.le s5.le;replace BC:=BC.le (by decide) s5.le;replace hJ:=hT.step _ _ _ _ _ hJ s5;replace hM:=s5.lt hM;have:=S.size;replace S:=S.aB s5;have hwl:=rB x.2;refine bN aJ rfl Z6 rfl (ad rfl rfl (ab (aY ?_)));refine dh (σ:=Nat) (fun k=>[(1,.func (.func g) #[] cap.toArray),(5,VK),(9,AU),(10,.int .i64 (d.2.length:Int)),(11,.int .i64 (i:Int)),(17,v5),(18,.int .i64 ((words x.2).length:Int)),(19,.int .i64 (k:Int))]) (fun k w=>∃M',Lt M' w∧Step M w0 M' w (l1 M B)∧(RT.fd.sl).V M' w d.2 AU∧cO RT.fd M' w VK x∧(RT.str.sl).V M' w (words x.2) v5∧J (cM (d.2.take i)++(jz x).take k) M' w∧k≤(words x.2).length) (fun k=>(words x.2).length-k) 0 (.cons rfl (.cons rfl (.cons rfl (.cons rfl (.cons rfl (.cons rfl (.cons rfl (.cons rfl .nil)))))))) ?_ ?_
   ·exact⟨_,hM,S,jd,BC,Z6,by rw[List.take_zero,fT];exact hJ,bD _⟩
   ·rintro k w ⟨M2,hM,S,jd,BC,Z6,hJ,hk⟩;refine aj (ae (cg rfl rfl rfl (ab (aj ?_))));refine bM rfl (fun c5=>?_) (fun c5=>?_)
    ·refine aT (aj (aY (aj (ae (ad rfl rfl ?_)))));refine cv (M:=M2) aJ I9 rfl rfl rfl Z6 (aq _ _) (by omega) (fun u6 y K1 GZ=>?_);rw[ay]at K1;refine bU (M:=M2) aK rfl rfl rfl rfl rfl GZ (aq _ _) (fun v6 rD=>?_);have GG:=(kS.1 rD).2;obtain rfl:=gm rD;refine ah rfl rfl (ah rfl rfl (ab (ae (ad rfl rfl ?_))));refine aQ (M:=M2) (A:=RT.fd) (B:=RT.str) cz rfl rfl I9 (by decide) (Ye) rfl rfl (by decide) (by assumption) (by repeat (first|exact aq _ _|refine bc (bF (by assumption)) ?_)) (fun aqx Z7=>?_);refine bU (M:=M2) aK rfl rfl rfl rfl rfl Z7 (aq _ _) (fun v7 Hb=>?_);obtain rfl:=gm Hb;refine ad rfl rfl (iM (places:=[(0,1),(1,1)]) dN Bs B78 rfl ⟨_,_,rfl,rfl,_,_,rfl,rfl,rfl⟩ (out:=[_,_]) ⟨0,[_],rfl,rfl,by simp[Value.cells],1,[_],rfl,rfl,by simp[Value.cells],rfl⟩ (ad rfl rfl ?_));refine rO (first:=[]) (captured:=cap) (xs:=[.tmp 28,.tmp 29]) rfl rfl rfl hT.enters (hT.tell _ _ _ (x.1,y) k hJ hM ru.1 GG (by omega) (by rw[a8,br,oP];omega)) (fun r7 w7 hc=>?_);obtain⟨M7,hM7,hJ7,s7⟩:=hc;refine ab (ae (bG rfl rfl rfl (by omega) (ad rfl rfl (ab ?_))));refine⟨rfl,k+1,(.cons rfl (.cons rfl (.cons rfl (.cons rfl (.cons rfl (.cons rfl (.cons rfl (.cons rfl .nil)))))))),?_,?_⟩
     ·exact⟨M7,hM7,S.trans s7 (fun b hb h=>⟨h.1,(S.mem b hb).1 h.2⟩),jd.le s7.le,BC.le (by decide) s7.le,Z6.le s7.le,by rw[bI,Nf K1,cJ,←List.append_assoc];exact hJ7,by omega⟩
     ·omega
    ·refine cH (ae (bG rfl rfl rfl (by omega) (ad rfl rfl (ab ?_))));refine⟨rfl,i+1,(.cons rfl (.cons rfl (.cons rfl (.cons rfl .nil)))),?_,?_⟩
     ·exact⟨_,hM,S,jd,by rw[tI PQ];have e:(jz x).take k=jz x:=aW (by rw[oP];omega);rw[e]at hJ;exact hJ,by omega,by rw[tI PQ,a8,oP];omega⟩
     ·omega
  ·refine cH ?_
   first|refine rN ?_|simp+decide only[rQ,jJ,if_true,if_false]|skip
   have e:d.2.take i=d.2:=aW (by omega);rw[e]at hJ;exact gj rfl ⟨_,hM,hJ,S⟩
theorem J7 {M:aD} {w:World} {t:Fd} (h1:t.1.length≤140737488355328) (h2:t.2.length≤140737488355328):RT.fd.V M w t (kv t):=fg (kS.2 ⟨rfl,h1⟩) (kS.2 ⟨rfl,h2⟩) rfl rfl rfl rfl
def WJ (b B:Nat) (ts:List (Fd×Nat)) (M:aD) (w:World):Prop:=w.heap[b]? =some (.cells #[.int .i64 (ts.length:Int)] 3 (0,0))∧M b∧B≤b
theorem CE {M:aD} {b B:Nat} {ts:List (Fd×Nat)} {t:Fd} {i:Nat} (w0:World) (hM:Lt M w0) (h1:t.1.length≤900000) (h2:t.2.length≤140737488355328) (LG:ts.length≤10000000) (hJ:WJ b B ts M w0):
  Spec Tryz.prog 139 #[kv t,.int .i64 (i:Int),.pointer (some ⟨b,0,none⟩)] w0 (fun v w=>∃M',Lt M' w∧WJ b B (ts++[(t,i)]) M' w∧Step M w0 M' w (l1 M B)):=by
 obtain⟨gb,eo,hB⟩:=hJ;refine bg (args:=[_,_,_]) (fn:=Tryz.f139) Tryz.func139 rfl (n:=7) Tryz.ntmps139 ?_;have S:Step M w0 M w0 (l1 M B):=(au _ _).cB (fun _ h=>h.elim) (fun _ h=>h.2);refine aj (ae ?_);refine qs (A:=RT.fd) rfl rfl hM (J7 (by omega) h2) rfl (fun u0 w1 dx s0 _=>?_);have:=ak gb;replace eo:=(s0.mem _ this).2 eo;replace gb:=s0.aL gb;replace hM:=s0.lt hM;have:=S.size;replace S:=S.aB s0;refine ab (ae (aN ax rfl rfl rfl (by assumption) rfl (bG rfl rfl rfl (by omega) ?_)));refine cw (M:=M) I3 rfl rfl gb rfl (rfl) eo (fun QQ iU qi=>?_);change QQ.heap[_]? =some (Obj.cells #[.int .i64 ((ts.length:Int)+1)] _ _)at iU;have:=ak gb;replace eo:=(qi.mem _ this).2 eo;replace hM:=qi.lt hM;have:=S.size;replace S:=S.trans qi (fun k hk h=>by have h:_=_:=h;subst h;first|(exfalso;omega)|(show _≤_;omega)|exact⟨by first|omega|assumption,(S.mem _ hk).1 ((qi.mem _ (ak gb)).1 eo)⟩|exact .inl rfl|exact .inr rfl|exact .inr (.inl rfl)|exact .inr (.inr rfl)|exact .inr (.inr (.inl rfl))|exact rfl);have Ng:=iU;clear gb;have gb:=Ng;clear Ng;refine ab ?_
 first|refine rN ?_|simp+decide only[rQ,jJ,if_true,if_false]|skip
 exact gj rfl ⟨_,hM,⟨by rw[a8];exact gb,eo,hB⟩,S⟩
theorem EA {b B:Nat}:VJ Tryz.prog 139 [.pointer (some ⟨b,0,none⟩)] B (WJ b B):=
 ⟨aeU,fun ts M w M' w' ⟨h1,h2,h3⟩ s=>⟨s.aL h1,(s.mem _ (ak h1)).2 h2,h3⟩,fun ts M w t i hJ hM h1 h2 _ h4=>CE w hM h1 h2 h4 hJ⟩
theorem EB {M:aD} {d:Dc} {v0:Value} (w0:World) (hM:Lt M w0) (hv:RT.dc.V M w0 d v0) (hl:∀f∈d.2,f.1.length≤900000∧f.2.length≤900000) (hd8:d.2.length≤8):
  Spec Tryz.prog 89 #[v0] w0 (fun v w=>v= .int .i64 ((cM d.2).length:Int)∧Step M w0 M w aC):=by
 refine bg (args:=[_]) (fn:=Tryz.f89) Tryz.func89 rfl (n:=8) Tryz.ntmps89 ?_;have S:Step M w0 M w0 aC:=(au _ _).cB (fun _ h=>h.elim) (fun _ h=>h.elim);refine aj (ae ?_);refine qs (A:=RT.dc) rfl rfl hM hv rfl (fun u0 w1 dx s0 _=>?_);replace hM:=s0.lt hM;have:=S.size;replace S:=S.aB s0;refine ah rfl rfl (ab (aj (ae ?_)));refine dU M I3 rfl (fun mT Ec Vg Vh j8 nX=>?_);obtain⟨lE,mU⟩:∃M',M'=ins M mT:=⟨_,rfl⟩;rw[←mU]at nX;have iV:lE mT:=by rw[mU];exact .inl rfl
 change Ec.heap[mT]? =some (.cells #[.int .i64 0] _ _)at j8;replace dx:=dx.le (by decide) nX.le;replace hM:=nX.lt hM;have:=S.size;replace S:=S.aB nX;refine cw (M:=lE) I3 rfl rfl j8 rfl (rfl) iV (fun VL AW x5=>?_);change VL.heap[_]? =some (Obj.cells #[.int .i64 0] _ _)at AW;have:=ak j8;replace iV:=(x5.mem _ this).2 iV;replace dx:=dx.le (by decide) x5.le;replace hM:=x5.lt hM;have:=S.size;replace S:=S.trans x5 (fun k hk h=>by have h:_=_:=h;subst h;first|(exfalso;omega)|(show _≤_;omega)|exact⟨by first|omega|assumption,(S.mem _ hk).1 ((x5.mem _ (ak j8)).1 iV)⟩|exact .inl rfl|exact .inr rfl|exact .inr (.inl rfl)|exact .inr (.inr rfl)|exact .inr (.inr (.inl rfl))|exact rfl);have Tg:=AW;clear j8;have j8:=Tg;clear Tg;refine ab (aj (ae ?_));refine cT (M:=lE) (A:=RT.dc) bm rfl pD (by decide) rfl rfl rfl dx (aq _ _) (fun v2 Bv=>?_);refine kr (xs:=[]) (ys:=[.tmp 3]) rfl rfl rfl ?_;refine aX rfl rfl Y8 (BB (cap:=[.pointer (some ⟨mT,0,none⟩)]) (B:=w0.heap.size) _ hM Bv hl hd8 EA ⟨j8,iV,by omega⟩) (fun r2 w2 hc=>?_);obtain⟨M2,Gg,⟨g2,_,_⟩,s2⟩:=hc;replace S:=S.mA s2 (aR _);refine ab (aj (ae (aN ax rfl rfl rfl g2 rfl (ah rfl rfl (ab (aP ?_))))));exact aV rfl rfl ⟨rfl,S.back⟩
end Go.K
namespace Go.K
section
variable {P:Program} {r:Option Nat} {n:Nat} {L:Sl} {ds:List Deferred} {w:World} {K:Kt} {ops:Array Oper} {rest:List Oper} {d:Nat} {x y z:Operand} {ty:TypeId} {pos:String} {af:Array Edge}
variable {kt:TypeId} {M:aD} {b mb clock:Nat} {es:List MapEntry} {sn:Array Nat}
theorem Rg.rangeMap {t e:TypeId} (M:aD) (ht:P.underlying t=some (.map kt e)) (hx:ev L x=some (.map (some mb))) (hd:Nat.blt d n=true) (h:fI P kt w mb es clock)
  (k:∀b w',w.heap.size≤b→b<w'.heap.size→w'.heap[b]? =some (.mapIter (some mb) clock #[] clock)→Step M w (ins M b) w' aC→Rg P r n ops rest ((d,.pointer (some ⟨b,0,none⟩))::L) ds w' K):
  Rg P r n ops ({dst:=some d,op:= .range t x,type:=ty,pos,after:=af,guard:=none}::rest) L ds w K:=by
 refine .op (fun _ h=>by cases h) rfl rfl hd (.pointer (some ⟨w.heap.size,0,none⟩)) (w.alloc (.mapIter (some mb) clock #[] clock)) (fun ρ hρ=>?_) (k w.heap.size _ (aR _) (by simp) (cj w _) ((cW M w _).own (aR _) (by simp)));simp only[execOp,hρ x _ hx];simp[Instr.range,cq,run_underlying ht,dT h.at_,newObj,Sem.run]
theorem qc {sb:Option Nat} {s c:Nat} (hb:w.heap[b]? =some (.mapIter sb s sn c)):(getObj b).run P w= .ok (.mapIter sb s sn c) w:=by simp[getObj,Sem.run,hb]
theorem Hc (h:fI P kt w mb es clock) (seen:Array Nat):(!seen.isEmpty&& !es.toArray.isEmpty&&es.toArray.all (fun x=>decide (x.born≥clock)))=false:=by
 cases es with
 |nil=>simp
 |cons e l=>
  have:=h.lt e (by simp);simp only[Bool.and_eq_false_iff];right;rw[dd];intro h2;rw[Array.all_eq_true_iff_forall_mem]at h2;have:=h2 e (by simp);simp at this;omega
theorem EC (k:Nat) (hk:0<k):∃j w1,j<k∧(∀M,Step M w M w1 aC)∧w1.heap=w.heap∧(choose (Question.mapNext k)).run P w= .ok j w1:=by
 by_cases hf:k≤1
 ·exact⟨0,w,hk,fun M=>au M w,rfl,by simp[choose,Sem.run,Question.forced,hf]⟩
 ·exact⟨_,w.drew,Nat.mod_lt _ hk,fun M=>me M w,rfl,by
   simp only[choose,Sem.run,Question.forced,decide_eq_true_eq,hf,if_false,Question.cut];rfl⟩
theorem Nh (h:fI P kt w mb es clock) (hb:w.heap[b]? =some (.mapIter (some mb) clock sn clock)) (hm:M b):
  ((∀e∈es,e.born∈sn)∧(Instr.next (.pointer (some ⟨b,0,none⟩)) false ty).run P w= .ok (.tuple #[.bool false]) w)∨
  ∃e w',e∈es∧e.born∉sn∧w'.heap[b]? =some (.mapIter (some mb) clock (sn.push e.born) clock)∧Step M w M w' (fun k=>k=b)∧(Instr.next (.pointer (some ⟨b,0,none⟩)) false ty).run P w= .ok (.tuple #[.bool true,e.key,e.val]) w':=by
 have dY:=ak hb;simp only[Instr.next,cq,qc hb,cD,dT h.at_,Hc h sn,Bool.false_eq_true,if_false];have hL:∀e∈es.toArray.filter (fun e=> !sn.contains e.born),e.born<clock:=fun e he=>h.lt e (by simpa using(Array.mem_filter.1 he).1)
 have kE:∀e,e∈es.toArray.filter (fun e=> !sn.contains e.born)↔e∈es∧e.born∉sn:=fun e=>by simp[Array.mem_filter]
 generalize es.toArray.filter (fun e=> !sn.contains e.born)=Lf at hL kE ⊢;have e1:Lf.filter (fun x=>decide (x.born<clock))=Lf:=Array.filter_eq_self.2 fun x hx=>by simpa using hL x hx
 have e2:Lf.filter (fun x=>decide (x.born≥clock))= #[]:=by
  rw[Array.filter_eq_empty_iff];intro x hx;have:=hL x hx;simp;omega
 simp only[e1,e2,Array.append_empty];by_cases h0:Lf.size=0
 ·left;have rT:Lf= #[]:=Array.eq_empty_of_size_eq_zero h0;subst rT;refine⟨fun e he=>?_,by simp[choose,Sem.run,Question.forced]⟩;by_cases hs:e.born∈sn
  ·exact hs
  ·exact absurd ((kE e).2 ⟨he,hs⟩) (by simp)
 ·right;have eN:Lf.isEmpty=false:=by simp[Array.isEmpty,h0]
  simp only[eN,Bool.false_eq_true,if_false,Array.empty_append,Array.size_map];obtain⟨j,w1,hj,hs1,hh1,gY⟩:=EC (P:=P) (w:=w) Lf.size (by omega);have mP:w1.heap[b]? =some (.mapIter (some mb) clock sn clock):=by rw[hh1];exact hb
  have eV:=(kE Lf[j]).1 (by simp);refine⟨Lf[j],{w1 with heap:=w1.heap.setIfInBounds b (.mapIter (some mb) clock (sn.push Lf[j].born) clock)},eV.1,eV.2,by simp[dG,hh1,dY],?_,?_⟩
  ·exact((hs1 M).cB (fun _ h=>h.elim) (fun k hk=>by subst hk;exact hm)).trans (jw M hm) (fun _ _ h=>h)
  ·simp only[gY,cD,Array.getElem?_map,Array.getElem?_eq_getElem hj,cY,cq];simp[setObj,Sem.run,mP]
theorem Rg.QR (hx:ev L x=some (.pointer (some ⟨b,0,none⟩))) (hb:w.heap[b]? =some (.mapIter (some mb) clock sn clock)) (hm:M b) (h:fI P kt w mb es clock) (hd:Nat.blt d n=true)
  (k1:∀e w',e∈es→e.born∉sn→w'.heap[b]? =some (.mapIter (some mb) clock (sn.push e.born) clock)→Step M w M w' (fun k=>k=b)→Rg P r n ops rest ((d,.tuple #[.bool true,e.key,e.val])::L) ds w' K)
  (k2:(∀e∈es,e.born∈sn)→Rg P r n ops rest ((d,.tuple #[.bool false])::L) ds w K):
  Rg P r n ops ({dst:=some d,op:= .next x false,type:=ty,pos,after:=af,guard:=none}::rest) L ds w K:=by
 rcases Nh (ty:=ty) h hb hm with⟨h1,h2⟩|⟨e,w',h1,h2,h3,h4,h5⟩
 ·refine .op (fun _ h=>by cases h) rfl rfl hd _ w (fun ρ hρ=>?_) (k2 h1);simp only[execOp,hρ x _ hx];simp[h2]
 ·refine .op (fun _ h=>by cases h) rfl rfl hd _ w' (fun ρ hρ=>?_) (k1 e w' h1 h2 h3 h4);simp only[execOp,hρ x _ hx];simp[h5]
theorem Rg.entry {e:MapEntry} {sn':Array Nat} (hx:ev L x=some (.pointer (some ⟨b,0,none⟩))) (hb:w.heap[b]? =some (.mapIter (some mb) clock (sn'.push e.born) clock)) (h:fI P kt w mb es clock) (he:e∈es) (hd:Nat.blt d n=true)
  (k:Rg P r n ops rest ((d,.tuple #[e.key,e.val])::L) ds w K):
  Rg P r n ops ({dst:=some d,op:= .entry x,type:=ty,pos,after:=af,guard:=none}::rest) L ds w K:=by
 have hf:es.find? (fun x=>x.born==e.born)=some e:=by
  rw[List.find?_eq_some_iff_getElem];obtain⟨i,hi⟩:=bz.1 he;obtain⟨h1,h2⟩:=an.1 hi;refine⟨by simp,i,h1,h2,fun j hj=>?_⟩;have xU:j<es.length:=by omega
  have:=fun q=>h.Ey (ar xU) hi q
  simp only[jc,beq_eq_false_iff_ne,ne_eq];intro q;have:=this q;omega
 refine .op (fun _ h=>by cases h) rfl rfl hd _ w (fun ρ hρ=>?_) k;simp only[execOp,hρ x _ hx,Instr.entry,cq,qc hb,cD,dT h.at_];simp[hf,cq,dT h.at_]
end
end Go.K
namespace Go.K
open Go.Proofs
set_option maxRecDepth 10000
theorem filter_lt {α:Type} {p q:α→Bool} {a:α}:∀{l:List α},(∀x∈l,q x=true→p x=true)→a∈l→p a=true→q a=false→(l.filter q).length<(l.filter p).length
 |[],_,ha,_,_=>by cases ha
 |x::l,h,ha,hp,hq=>by
  have hle:(l.filter q).length≤(l.filter p).length:=by
   rw[←List.countP_eq_length_filter,←List.countP_eq_length_filter];exact List.countP_mono_left fun y hy=>h y (b9 _ hy)
  rcases ca.1 ha with rfl|ha
  ·rw[List.filter_cons_of_pos hp,List.filter_cons_of_neg (by simp[hq])];simp;omega
  ·have:=filter_lt (fun y hy=>h y (b9 _ hy)) ha hp hq;by_cases hx:q x=true
   ·rw[List.filter_cons_of_pos hx,List.filter_cons_of_pos (h x (bH ..) hx)];simp;omega
   ·rw[List.filter_cons_of_neg hx];by_cases hx2:p x=true
    ·rw[List.filter_cons_of_pos hx2];simp;omega
    ·rw[List.filter_cons_of_neg hx2];omega
theorem fI.VM {P:Program} {kt:TypeId} {w:World} {b clock:Nat} {es:List MapEntry} (h:fI P kt w b es clock) {x y:MapEntry} (hx:x∈es) (hy:y∈es) (hk:x.key=y.key):x=y:=by
 obtain⟨i,hi⟩:=bz.1 hx;obtain⟨j,hj⟩:=bz.1 hy;rcases eR i j with jq|rfl|jq
 ·exact absurd hk (iH h.keys hi hj jq)
 ·exact aF (hi.symm.trans hj)
 ·exact absurd hk.symm (iH h.keys hj hi jq)
theorem fI.QS {P:Program} {kt:TypeId} {w:World} {b clock:Nat} {es:List MapEntry} (h:fI P kt w b es clock) {x y:MapEntry} (hx:x∈es) (hy:y∈es) (hk:x.born=y.born):x=y:=by
 obtain⟨i,hi⟩:=bz.1 hx;obtain⟨j,hj⟩:=bz.1 hy;rcases eR i j with jq|rfl|jq
 ·exact absurd hk (iH h.born hi hj jq)
 ·exact aF (hi.symm.trans hj)
 ·exact absurd hk.symm (iH h.born hj hi jq)
def He (w:World) (k:Nat):Prop:=∃m s sn c,w.heap[k]? =some (.mapIter m s sn c)
def IL (es:List MapEntry):Prop:=∀e∈es,∃t:Fd,e.key=kv t∧t.1.length≤140737488355328∧t.2.length≤140737488355328
theorem Hf {yl bs mb clock:Nat} {es:List MapEntry} {J:List Fd→World→Prop} (w0:World) (hk:IL es) (hJs:∀ts w w' N,J ts w→Step allM w allM w' N→(∀k,k<w.heap.size→N k→w0.heap.size≤k∧He w k)→J ts w') (hJb:∀ts w,J ts w→w.heap[bs]? =some (.cells #[.map (some mb)] 217 (0,0))∧fI Tryz.prog 78 w mb es clock) (hy:∀ts w (t:Fd),J ts w→(∃e∈es,e.key=kv t)→t∉ts→ts.length<es.length→xj Tryz.prog yl [kv t].toArray w (fun r w'=>r= .bool true∧J (ts++[t]) w'∧∃N,Step allM w allM w' N∧∀k,N k→¬He w k)) (h0:J [] w0):
  Spec Tryz.prog 188 #[.func (.yield yl) #[] #[],.pointer (some ⟨bs,0,none⟩)] w0 (fun v w=>∃ts,J ts w∧ts.Nodup∧∀t,t∈ts↔∃e∈es,e.key=kv t):=by
 obtain⟨gb,hW⟩:=hJb _ _ h0;have hJ:=h0;clear h0;refine bg (args:=[_,_]) (fn:=Tryz.f188) Tryz.func188 rfl (n:=14) Tryz.ntmps188 ?_;have S:Step allM w0 allM w0 allM:=(au _ _).cB (fun _ h=>h.elim) (fun _ _=>trivial);refine aj (ae (aN mv rfl rfl rfl (by assumption) rfl ?_));refine Rg.rangeMap allM mv rfl rfl hW (fun bi w1 mP oC gi s1=>?_);replace s1:=s1.all;have:=ak gb;replace gb:=s1.aL gb;replace hJ:=hJs _ _ _ _ hJ s1 (fun _ _ h=>h.elim);have:=S.size;replace S:=S.aB s1;refine ab (aY ?_);refine dh (σ:=List Fd×Array Nat) (fun s=>[(0,.func (.yield yl) #[] #[]),(1,.pointer (some ⟨bs,0,none⟩)),(5,.pointer (some ⟨bi,0,none⟩))]) (fun s w=>J s.1 w∧Step allM w0 allM w allM∧w.heap[bi]? =some (.mapIter (some mb) clock s.2 clock)∧s.1.Nodup∧(∀e∈es,e.born∈s.2↔∃t∈s.1,e.key=kv t)∧(∀t∈s.1,∃e∈es,e.key=kv t)) (fun s=>(es.filter fun e=>decide (e.born∉s.2)).length) ([],#[]) (.cons rfl (.cons rfl (.cons rfl .nil))) ?_ ?_
 ·exact⟨hJ,S,gi,List.nodup_nil,fun e _=>by simp,fun t h=>by cases h⟩
 ·rintro⟨ts,sn⟩ w ⟨hJ,S,gi,o6,hsn,kE⟩;dsimp only at hJ gi o6 hsn kE ⊢;obtain⟨gb,hW⟩:=hJb _ _ hJ;refine aj (ae ?_);refine Rg.QR (M:=allM) rfl gi trivial hW rfl (fun VN Ec uH Ti j8 nX=>?_) (fun agq=>?_)
  ·have gi0:=gi;replace gb:=nX.keep gb (fun hk=>by have hk:_=_:=hk;omega);replace hJ:=hJs _ _ _ _ hJ nX (fun k hk h=>by have h:k=bi:=h;subst h;exact⟨mP,_,_,_,_,gi0⟩);have:=S.size;replace S:=S.trans nX (fun k hk h=>by have h:_=_:=h;subst h;first|(exfalso;omega)|(show _≤_;omega)|exact .inl rfl|exact .inr rfl|exact .inr (.inl rfl)|exact .inr (.inr rfl)|exact .inr (.inr (.inl rfl))|exact rfl);have gi_:=j8;clear gi;have gi:=gi_;clear gi_;refine bW rfl rfl rfl (ab (aj (ot rfl (aT (aY (aj (ae (Rg.entry rfl gi (hJb _ _ hJ).2 uH rfl ?_))))))));obtain⟨t,QT,Tj,JX⟩:=hk _ uH;have UF:t∉ts:=fun h=>Ti ((hsn _ uH).2 ⟨t,h,QT⟩)
   have dY:ts.length<es.length:=by
    have h1:((t::ts).map kv).Nodup:=cx.2 ((List.nodup_cons.2 ⟨UF,o6⟩).imp fun h e=>h (wG e))
    have h2:=h1.length_le_of_subset (l₂:=es.map (·.key)) (fun x hx=>by
     obtain⟨u,hu,rfl⟩:=bV.1 hx;rcases ca.1 hu with rfl|hu
     ·rw[←QT];exact ib uH
     ·obtain⟨e,he,h⟩:=kE u hu;rw[←h];exact ib he)
    simp at h2;omega
   rw[QT];refine bW rfl rfl rfl ?_;refine yf (A:=RT.fd) (M:=aC) Bs rfl rfl rfl rfl rfl (J7 Tj JX) (aq _ _) (Lt.none _) (fun u2 w2 sw s2 z2=>?_);replace s2:=s2.all;have:=ak gb;replace gb:=s2.aL gb;have:=ak gi;replace gi:=s2.aL gi;replace hJ:=hJs _ _ _ _ hJ s2 (fun _ _ h=>h.elim);have:=S.size;replace S:=S.aB s2
   skip
   refine ab (aj (ae (ad rfl rfl ?_)));refine cT (M:=aC) (A:=RT.fd) dN rfl Bs (by decide) rfl rfl rfl sw (aq _ _) (fun v3 xr=>?_);obtain rfl:=tF xr;refine Rg.yield (vs:=[kv t]) rfl rfl rfl (hy _ _ t hJ ⟨_,uH,QT⟩ UF dY) (fun r3 w3 hc=>?_);obtain⟨rfl,Z8,N3,s3,hN3⟩:=hc;clear j8;replace gi:=s3.keep gi (fun h=>hN3 _ h ⟨_,_,_,_,gi⟩);replace hJ:=Z8;clear Z8;obtain⟨gb,-⟩:=hJb _ _ hJ;replace S:=S.trans s3 (fun _ _ _=>trivial);refine lY rfl rfl (aU (v':= .bool false) rfl (ab (jD rfl (aT ?_))));refine⟨rfl,(ts++[t],sn.push VN.born),(.cons rfl (.cons rfl (.cons rfl .nil))),?_,?_⟩
   ·have tp:∀e∈es,e.born=VN.born↔e.key=kv t:=fun e he=>by
     constructor
     ·intro h;rw[fI.QS hW he uH h,QT]
     ·intro h;rw[fI.VM hW he uH (h.trans QT.symm)]
    refine⟨hJ,S,gi,List.nodup_append.2 ⟨o6,by simp,fun a ha b hb h=>by simp at hb;subst hb;subst h;exact UF ha⟩,fun e he=>?_,fun u hu=>?_⟩
    ·rw[Array.mem_push,hsn e he,tp e he];constructor
     ·rintro(⟨u,h1,h2⟩|h)
      ·exact⟨u,gC _ h1,h2⟩
      ·exact⟨t,by simp,h⟩
     ·rintro⟨u,h1,h2⟩;rcases cr.1 h1 with h1|h1
      ·exact .inl ⟨u,h1,h2⟩
      ·simp at h1;subst h1;exact .inr h2
    ·rcases cr.1 hu with hu|hu
     ·exact kE u hu
     ·simp at hu;subst hu;exact⟨_,uH,QT⟩
   ·exact filter_lt (a:=VN) (fun e _ h=>by simp only[decide_eq_true_eq,Array.mem_push,not_or]at h ⊢;exact h.1) uH (by simpa using Ti) (by simp)
  ·refine bW rfl rfl rfl (ab (aj (jD rfl (cH ?_))))
   first|refine rN ?_|simp+decide only[rQ,jJ,if_true,if_false]|skip
   exact gj rfl ⟨ts,hJ,o6,fun t=>⟨kE t,fun⟨e,he,QT⟩=>by obtain⟨t',h1,h2⟩:=(hsn e he).1 (agq e he);rw[←wG (h2.symm.trans QT)];exact h1⟩⟩
end Go.K
namespace Go.K
open Go.Proofs
set_option maxRecDepth 10000
theorem eg.any {α:Type} {A:RT α} (hA:∀M w M' w' x vs,A.R M w x vs→A.R M' w' x vs) {M M':aD} {w w':World}:∀{xs:List α} {C:List Value},eg A M w xs C→eg A M' w' xs C
 |[],_,h=>h
 |x::xs,C,h=>by
  obtain⟨vs,r,h1,h2,h3⟩:=h;exact⟨vs,r,h1,hA _ _ _ _ _ _ h2,eg.any hA h3⟩
theorem CF (M:aD) (w:World) (M':aD) (w':World) (x:Fd) (vs:List Value) (h:RT.fd.R M w x vs):RT.fd.R M' w' x vs:=h
theorem Own.IM {α:Type} {A:RT α} (hA:∀M w M' w' x vs,A.R M w x vs→A.R M' w' x vs) {e:TypeId} {M N:aD} {w w':World} {base:Nat} {v:Value} {xs:List α} (h:Own A e M w base v xs) (s:Step allM w allM w' N) (hn:∀b,v.ownBlock=some b→¬N b):Own A e (nt v) w' base v xs:=by
 obtain⟨⟨C,h1,h2⟩,_⟩:=h;refine⟨⟨C,⟨h1.1,?_⟩,eg.any hA h2⟩,fun _ h=>h⟩;rcases h1.2 with h3|⟨g,cap,cur,h3,h4,h5,h6,h7,h8⟩
 ·exact .inl h3
 ·exact .inr ⟨g,cap,cur,h3,h4,by rw[s.same g (ak h5) (hn g (by rw[h3];rfl))];exact h5,h6,h7,h8⟩
theorem Own.isCells {α:Type} {A:RT α} {e:TypeId} {M:aD} {w:World} {base b:Nat} {v:Value} {xs:List α} (h:Own A e M w base v xs) (hb:v.ownBlock=some b):∃cs,w.heap[b]? =some (.cells cs e (0,0)):=by
 obtain⟨⟨C,h1,_⟩,_⟩:=h;rcases h1.2 with h3|⟨g,cap,cur,h3,h4,h5,_⟩
 ·rw[h3.1]at hb;cases hb
 ·rw[h3]at hb;cases hb;exact⟨_,h5⟩
structure Aq (w0:World) (bt D:Nat) (st:Loop) (v:Value) (ts:List Fd) (w:World):Prop where
 S:Step allM w0 allM w aC
 c:w.heap[bt]? =some (.cells #[v] 155 (0,0))
 o:Own RT.fd 78 (nt v) w w0.heap.size v ts
 d:w.heap[D]? =some (.deferred (some []))
 r:w.heap[D+1]? =some (.loop st)
 hb:w0.heap.size≤bt
 hD:w0.heap.size≤D
theorem Aq.step {w0 w w':World} {bt D:Nat} {st:Loop} {v:Value} {ts:List Fd} {N:aD} (h:Aq w0 bt D st v ts w) (s:Step allM w allM w' N) (hN:∀k,k<w.heap.size→N k→w0.heap.size≤k∧He w k):Aq w0 bt D st v ts w':=by
 have no:∀{k o},w.heap[k]? =some o→(∀m s sn c,o≠ .mapIter m s sn c)→¬N k:=fun hk ho hn=>by
  obtain⟨_,m,s,sn,c,h'⟩:=hN _ (ak hk) hn;rw[hk]at h';exact ho m s sn c (aF h')
 refine⟨h.S.trans s (fun k hk hn=>?_),s.keep h.c (no h.c (by intros;simp)),h.o.IM CF s (fun b hb=>?_),s.keep h.d (no h.d (by intros;simp)),s.keep h.r (no h.r (by intros;simp)),h.hb,h.hD⟩
 ·have:=(hN k (iE hk h.S.size) hn).1;omega
 ·obtain⟨cs,hc⟩:=h.o.isCells hb;exact no hc (by intros;simp)
theorem Aq.na {w0 w:World} {bt D:Nat} {st st':Loop} {v:Value} {ts:List Fd} (h:Aq w0 bt D st v ts w):Aq w0 bt D st' v ts (w.putObj (D+1) (.loop st')):=by
 have s:Step allM w allM (w.putObj (D+1) (.loop st')) (fun k=>k=D+1):=dZ trivial;have hD:=h.hD;refine⟨h.S.trans s (fun k hk hn=>by have hn:k=D+1:=hn;omega),s.keep h.c (fun hn=>by have hn:bt=D+1:=hn;have h1:=h.c;rw[hn,h.r]at h1;cases h1),h.o.IM CF s (fun b hb hn=>?_),s.keep h.d (fun hn=>by have hn:D=D+1:=hn;omega),by have:=ak h.r;simp[World.putObj,dG,this],h.hb,h.hD⟩;have hn:b=D+1:=hn;obtain⟨cs,hc⟩:=h.o.isCells hb;rw[hn,h.r]at hc;cases hc
theorem ED {bs mb clock:Nat} {es:List MapEntry} (w0:World) (hk:IL es) (hes:es.length≤100000000) (VO:w0.heap[bs]? =some (.cells #[.map (some mb)] 217 (0,0))) (hW:fI Tryz.prog 78 w0 mb es clock):
  Spec Tryz.prog 237 #[.slice none 0 0,.func (.func 188) #[] [.pointer (some ⟨bs,0,none⟩)].toArray] w0 (fun v w=>∃ts:List Fd,ts.Nodup∧(∀t,t∈ts↔∃e∈es,e.key=kv t)∧Own RT.fd 78 (nt v) w w0.heap.size v ts∧Step allM w0 allM w aC):=by
 refine oH (args:=[_,_]) (fn:=Tryz.f237) Tryz.func237 rfl (n:=13) Tryz.ntmps237 (aj (ae ?_));refine xM allM rfl rfl (fun bt w1 mP aqC gt s1=>?_);change w1.heap[bt]? =some (.cells #[.slice none 0 0] 155 (0,0))at gt;replace s1:=s1.all;refine ah rfl rfl (ab (aj (aj (ae (ad rfl rfl (ab (aY ?_)))))));refine T.range (gf:=188) (lb:=[.pointer (some ⟨bs,0,none⟩)].toArray) rfl ae0 (fun rec nU=>?_);obtain⟨D,hD⟩:∃D,D=w1.heap.size:=⟨_,rfl⟩;have sA:Step allM w1 allM ((w1.alloc (.deferred (some []))).alloc (.loop (rec .ready none))) aC:=(cW _ _ _).aB (cW _ _ _)
 have h0:Aq w0 bt D (rec .ready none) (.slice none 0 0) [] ((w1.alloc (.deferred (some []))).alloc (.loop (rec .ready none))):=by
  refine⟨s1.aB sA,sA.aL gt,dz _ _ _ _ _,?_,?_,mP,by rw[hD];exact s1.size⟩
  ·rw[hD];exact(cW allM (w1.alloc _) _).aL (cj w1 _)
  ·rw[hD];have:=cj (w1.alloc (.deferred (some []))) (.loop (rec .ready none));rwa [AJ]at this
 rw[←hD]at nU ⊢;have hz:=h0.S.size;refine Spec.mono (Hf (J:=fun ts w=>∃v,Aq w0 bt D (rec .ready none) v ts w) _ hk (fun ts w w' N ⟨v,h⟩ s hN=>⟨v,h.step s (fun k hk hn=>⟨ez hz (hN k hk hn).1,(hN k hk hn).2⟩)⟩) (fun ts w ⟨v,h⟩=>⟨h.S.aL VO,hW.aO h.S⟩) (fun ts wr t hJ kE UF dY=>?_) ⟨_,h0⟩) (fun _ w3 h3=>?_)
 ·obtain⟨v,h⟩:=hJ;obtain⟨e,he,hke⟩:=kE;obtain⟨t',ags,Tj,JX⟩:=hk e he;obtain rfl:=wG (hke.symm.trans ags);have hzr:=ak h.r;refine mg (ps:=[7]) (vs:=[kv t]) nU h.r rfl (by decide) (ae ?_);refine yf (A:=RT.fd) (M:=fun k=>k=D+1) Bs rfl rfl rfl rfl rfl (J7 Tj JX) (aq _ _) (fun k hk=>by have hk:k=D+1:=hk;omega) (fun u2 w2 sw s2 z2=>?_);replace s2:=s2.all
  skip
  refine ab ?_;refine⟨rfl,s2.aL h.r,?_⟩;have h4:=(h.step s2 (fun _ _ h=>h.elim)).na (st':=rec .busy none);have s3':Step (fun k=>k=D+1) w2 (fun k=>k=D+1) (w2.putObj (D+1) (.loop (rec .busy none))) (fun k=>k=D+1):=dZ rfl;have s3:=s3'.all;have Ge:=sw.le (by decide) s3'.le;clear s3';generalize w2.putObj (D+1) _=w4 at h4 s3 Ge ⊢;refine aY (ae (aN j5 rfl rfl rfl h4.c rfl ?_));refine cT (M:=fun k=>k=D+1) (A:=RT.fd) dN rfl Bs (by decide) rfl rfl rfl Ge (aq _ _) (fun v3 xr=>?_);obtain rfl:=tF xr;refine eu (A:=RT.fd) (hn:=by decide) (M:=nt v) j5 Bs (by decide) rfl rfl (fun b hb=>(h4.o.base b hb).2) (J7 Tj JX) (.inl rfl) (fun u5 w5 D9 s5=>?_);refine cV (M:=nt v) (base:=w0.heap.size) j5 Bs rfl rfl rfl rfl (h4.o.aO s5) D9 (aq _ _) (by simp;omega) (by simp;omega) (ez h4.S.size s5.size) (fun v6 M6 w6 uI s6=>?_);have gc:=s6.all.keep (s5.all.aL h4.c) (fun hn=>h4.o.eS h4.c (by decide) hn);refine cw (M:=allM) aeH rfl rfl gc rfl (by obtain⟨_,_,he,_⟩:=uI.isSlice;rw[he];rfl) trivial (fun w7 gc7 s7=>?_);refine ab ?_
  have agu:∀k,nt v k→¬He wr k:=fun k hk ⟨_,_,_,_,h9⟩=>by
   obtain⟨cs,hc⟩:=h.o.isCells hk;rw[hc]at h9;cases h9
  have pr:∀k,k<wr.heap.size→k=D+1→¬He wr k:=fun k _ hk ⟨_,_,_,_,h9⟩=>by subst hk;rw[h.r]at h9;cases h9
  have pc:∀k,k<wr.heap.size→k=bt→¬He wr k:=fun k _ hk ⟨_,_,_,_,h9⟩=>by subst hk;rw[h.c]at h9;cases h9
  have h7:Aq w0 bt D (rec .busy none) v6 (ts++[t]) w7:=by
   have nb:∀b,v6.ownBlock=some b→b≠bt:=fun b hb hn=>by subst hn;exact uI.eS gc (by decide) hb
   refine⟨?_,gc7,uI.IM CF s7 nb,?_,?_,h.hb,h.hD⟩
   ·refine((h4.S.aB s5.all).trans s6.all (fun k hk hn=>?_)).trans s7 (fun k hk hn=>?_)
    ·have:=(h4.o.base k hn).1;omega
    ·have hn:k=bt:=hn;have:=h.hb;omega
   ·exact s7.keep (s6.all.keep (s5.all.aL h4.d) (fun hn=>by obtain⟨cs,hc⟩:=h4.o.isCells hn;rw[h4.d]at hc;cases hc)) (fun hn=>by have hn:D=bt:=hn;have h1:=h.c;rw[←hn,h.d]at h1;cases h1)
   ·exact s7.keep (s6.all.keep (s5.all.aL h4.r) (fun hn=>by obtain⟨cs,hc⟩:=h4.o.isCells hn;rw[h4.r]at hc;cases hc)) (fun hn=>by have hn:D+1=bt:=hn;have h1:=h.c;rw[←hn,h.r]at h1;cases h1)
  have s8:Step allM w7 allM (w7.putObj (D+1) (.loop (rec .ready none))) (fun k=>k=D+1):=dZ trivial;exact⟨h7.r,rfl,⟨v6,h7.na⟩,fun k=>¬He wr k,(((((s2.cB (fun _ h=>h.elim) (fun _ _=>trivial)).trans s3 pr).aB s5.all).trans s6.all (fun k _ hn=>agu k hn)).trans s7 pc).trans s8 pr,fun _ h=>h⟩
 ·obtain⟨ts,⟨v,h⟩,o6,kE⟩:=h3;left;refine⟨h.r,?_⟩;have h5:=h.na (st':=rec .exhausted none);generalize w3.putObj (D+1) _=wE at h5 ⊢;refine aj (ae (aN j5 rfl rfl rfl h5.c rfl (ah rfl rfl (ab (aP ?_)))));have sE:Step allM wE allM (wE.putObj D (.deferred none)) (fun k=>k=D):=dZ trivial;have hDD:=h.hD;exact Ck rfl rfl h5.d ⟨ts,o6,kE,h5.o.IM CF sE (fun b hb hn=>by have hn:b=D:=hn;obtain⟨cs,hc⟩:=h5.o.isCells hb;rw[hn,h5.d]at hc;cases hc),h5.S.trans sE (fun k hk hn=>by have hn:k=D:=hn;omega)⟩
end Go.K
namespace Go.K
open Go.Proofs
set_option maxRecDepth 10000
theorem CG {bs mb clock:Nat} {es:List MapEntry} (w0:World) (hk:IL es) (hes:es.length≤100000000) (VO:w0.heap[bs]? =some (.cells #[.map (some mb)] 217 (0,0))) (hW:fI Tryz.prog 78 w0 mb es clock):
  Spec Tryz.prog 186 #[.func (.func 188) #[] [.pointer (some ⟨bs,0,none⟩)].toArray] w0 (fun v w=>∃ts:List Fd,ts.Nodup∧(∀t,t∈ts↔∃e∈es,e.key=kv t)∧Own RT.fd 78 (nt v) w w0.heap.size v ts∧Step allM w0 allM w aC):=by
 refine bg (args:=[_]) (fn:=Tryz.f186) Tryz.func186 rfl (n:=5) Tryz.ntmps186 (aj (ae (ah rfl rfl (ab (aj (ae (ad rfl rfl ?_)))))));refine aX rfl rfl afc (ED _ hk hes VO hW) (fun r w1 hc=>?_);refine ah rfl rfl (ab (aP ?_));exact aV rfl rfl hc
def gL (t:Fd):List UInt8:=t.1++[0]++t.2
theorem Ni {M:aD} {t:Fd} (w0:World) (hM:Lt M w0) (h1:t.1.length≤1000000) (h2:t.2.length≤1000000):
  Spec Tryz.prog 80 #[kv t] w0 (fun v w=>v= .string ⟨(gL t).toArray⟩∧Step M w0 M w aC):=by
 refine bg (args:=[_]) (fn:=Tryz.f80) Tryz.func80 rfl (n:=9) Tryz.ntmps80 ?_;have S:Step M w0 M w0 aC:=(au _ _).cB (fun _ h=>h.elim) (fun _ h=>h.elim);refine aj (ae ?_);refine qs (A:=RT.fd) rfl rfl hM (J7 (by omega) (by omega)) rfl (fun u0 w1 dx s0 _=>?_);replace hM:=s0.lt hM;have:=S.size;replace S:=S.aB s0;refine ah rfl rfl (ab (aj (ae ?_)));refine aQ (M:=M) (A:=RT.fd) (B:=RT.str) dN rfl rfl I9 (by decide) (Ye) rfl rfl (by decide) (by assumption) (by repeat (first|exact aq _ _|refine bc (bF (by assumption)) ?_)) (fun CB nF=>?_);refine bU (M:=M) aK rfl rfl rfl rfl rfl nF (aq _ _) (fun v1 vK=>?_);obtain rfl:=gm vK;refine Rg.cat (p:=t.1) (q:=[0]) rfl rfl rfl (by simp;omega) ?_;refine aQ (M:=M) (A:=RT.fd) (B:=RT.str) dN rfl rfl I9 (by decide) (fd1) rfl rfl (by decide) (by assumption) (by repeat (first|exact aq _ _|refine bc (bF (by assumption)) ?_)) (fun QG kU=>?_);refine bU (M:=M) aK rfl rfl rfl rfl rfl kU (aq _ _) (fun v4 nv=>?_);obtain rfl:=gm nv;refine Rg.cat (p:=t.1++[0]) (q:=t.2) rfl rfl rfl (by simp;omega) (ah rfl rfl (ab (aP ?_)));exact aV rfl rfl ⟨rfl,S⟩
end Go.K
namespace Go.K
open Go.Proofs
set_option maxRecDepth 10000
theorem CH (a b:List UInt8) (w:World):Spec Tryz.prog 137 #[.string ⟨a.toArray⟩,.string ⟨b.toArray⟩] w (fun v w'=>v= .int .i64 (Lib.compareBytes a b)∧w'=w):=(Any.strings_Compare Tryz.Qy ⟨a.toArray⟩ ⟨b.toArray⟩ w).mono fun e w' ⟨h1,h2⟩=>⟨_,h1,rfl,h2⟩
end Go.K
namespace Go.K
section
variable {P:Program} {r:Option Nat} {n:Nat} {L:Sl} {ds:List Deferred} {w:World} {K:Kt} {ops:Array Oper} {rest:List Oper} {d:Nat} {x:Operand} {ty:TypeId} {pos:String} {af:Array Edge}
theorem il.tE {id:Nat} {l:List Oper} (hm:P.follows .mixedOrders=true) (dr:eK l 0=true) (h:il P r n l L ds (w.drewN 1) K):T P r n (.region id l.toArray true) L ds w K:=by
 refine⟨fun a ha=>wpIn_region_draw fun t=>?_⟩;simp only[Region.schedule,hm,Bool.true_or,if_true,Region.linearise];obtain⟨J,h1,h2,h3,h4⟩:=h a ha;refine pq (J:=J) dr (fun {D D' a w} hi hD=>h1 D D' a w hi hD) (fun {D a' w' j o rest} hj ho pY hp lL hi hk=>h2 _ _ _ _ _ _ _ hj ho pY hp lL hi hk) h3 _ t _ a _ (by simp) (by simp[List.countP_replicate]) (fun i o h1 h2=>?_) (h1 _ _ _ _ h4 fun i _=>?_)
 ·simp[Array.getElem?_replicate]at h2
 ·simp[Array.getElem?_replicate]
theorem T.VP {id:Nat} {l l':List Oper} (π:List Nat) (m:Nat) (fl:List Nat) (c:Nat) (N:aD) (hm:P.follows .mixedOrders=true) (GD:yP π l=l') (sy:eK l 0=true) (hπ:lM π l.length=true) (qy:Nat.blt m l'.length=true) (dr:eK l' 0=true) (nT:kC l' m=true) (Gb:lB l' m fl c=true)
  (h:kN P r n l'.toArray (l'.take m) L ds (w.drewN 1) (fun L'=>(∀j o,j∈fl→l'[j]? =some o→bZ P N (w.drewN 1) L' o)∧sx P r n l'.toArray N (w.drewN 1) K c (l'.drop m) L' ds (w.drewN 1))):T P r n (.region id l.toArray true) L ds w K:=by
 subst GD;exact il.tE hm sy (.perm π hπ sy (yO m fl c N qy dr nT Gb h))
theorem Rg.Nj {e:TypeId} {v:Value} (hx:ev L x=some v) (hd:Nat.blt d n=true) (k:Rg P r n ops rest ((d,.pointer (some ⟨w.heap.size,0,none⟩))::L) ds (w.alloc (.cells v.cells e (0,0))) K):
  Rg P r n ops ({dst:=some d,op:= .box e x,type:=ty,pos,after:=af,guard:=none}::rest) L ds w K:=by
 refine .op (fun _ h=>by cases h) rfl rfl hd _ (w.alloc (.cells v.cells e (0,0))) (fun ρ hρ=>?_) k;simp only[execOp,hρ x _ hx];simp[Instr.box,newVar,newRow,newObj,Sem.run]
theorem zB (w:World) (o:Obj):w.alloc o=Go.Sort.grow w #[o]:=by
 unfold World.alloc Go.Sort.grow;congr 1
theorem Hg (w:World) (os:Array Obj) (q:Nat):(Go.Sort.grow w os).drewN q=Go.Sort.grow (w.drewN q) os:=rfl
end
end Go.K
namespace Go.K
open Go.Proofs
set_option maxRecDepth 10000
abbrev gy (t:Fd):Obj:= .cells #[.string ⟨t.1.toArray⟩,.string ⟨t.2.toArray⟩] 78 (0,0)
theorem Nk {t:Fd} (w0:World) (h1:t.1.length≤1000000) (h2:t.2.length≤1000000):
  Spec Tryz.prog 80 #[kv t] w0 (fun v w=>v= .string ⟨(gL t).toArray⟩∧w=w0.alloc (gy t)):=by
 refine bg (args:=[_]) (fn:=Tryz.f80) Tryz.func80 rfl (n:=9) Tryz.ntmps80 (aj (ae (Rg.Nj rfl rfl ?_)));have gb:=cj w0 (gy t);change Rg _ _ _ _ _ _ _ (w0.alloc (gy t)) _;generalize hw:w0.alloc (gy t)=w1 at gb ⊢;refine ah rfl rfl (ab (aj (ae (bJ (o':=0) dN rfl rfl I9 (by decide) rfl rfl (aN aK rfl rfl rfl gb rfl (Rg.cat (p:=t.1) (q:=[0]) rfl rfl rfl (by simp;omega) (bJ (o':=1) dN rfl rfl I9 (by decide) rfl rfl (aN aK rfl rfl rfl gb rfl (Rg.cat (p:=t.1++[0]) (q:=t.2) rfl rfl rfl (by simp;omega) (ah rfl rfl (ab ?_)))))))))));refine aP ?_;exact aV rfl rfl ⟨rfl,rfl⟩
theorem QU {s t:Fd} (w0:World) (h1:s.1.length≤1000000) (h2:s.2.length≤1000000) (h3:t.1.length≤1000000) (h4:t.2.length≤1000000):
  Spec Tryz.prog 136 #[kv s,kv t] w0 (fun v w=>v= .int .i64 (Lib.compareBytes (gL s) (gL t))∧w=((((w0.alloc (gy s)).alloc (gy t)).drewN 1).alloc (gy s)).alloc (gy t)):=by
 refine bg (args:=[_,_]) (fn:=Tryz.f136) Tryz.func136 rfl (n:=10) Tryz.ntmps136 (aj (ae (Rg.Nj rfl rfl ?_)));change Rg _ _ _ _ _ _ _ (w0.alloc (gy s)) _;refine Rg.Nj rfl rfl ?_;change Rg _ _ _ _ _ _ _ ((w0.alloc (gy s)).alloc (gy t)) _;have g1:((w0.alloc (gy s)).alloc (gy t)).heap[w0.heap.size]? =some (gy s):=(cW aC _ _).aL (cj w0 _);have g2:=cj (w0.alloc (gy s)) (gy t);have kp:=jl aC (((w0.alloc (gy s)).alloc (gy t)).drewN 1);refine ah rfl rfl (ab (aj ?_));apply T.VP [0,2,1,3,4,5] 2 [1] 1 aC mixed
 ·simp+decide only[yP,tu,eQ,jr,jm,jn,fe,cY,iu,qt,cond_true,cond_false,Nat.reduceBEq,Nat.reduceAdd,beq_self_eq_true];rfl
 ·rfl
 ·rfl
 ·rfl
 ·rfl
 ·rfl
 ·rfl
 have g1':(((w0.alloc (gy s)).alloc (gy t)).drewN 1).heap[w0.heap.size]? =some (gy s):=g1;have g2':(((w0.alloc (gy s)).alloc (gy t)).drewN 1).heap[(w0.alloc (gy s)).heap.size]? =some (gy t):=g2;refine fL (vs:=[.string ⟨s.1.toArray⟩,.string ⟨s.2.toArray⟩]) dN rfl Bs rfl rfl rfl g1' ?_;refine ab ⟨rfl,rfl,rfl,?_⟩;refine fL (vs:=[.string ⟨t.1.toArray⟩,.string ⟨t.2.toArray⟩]) dN rfl Bs rfl rfl rfl g2' ?_;refine ab ⟨rfl,rfl,rfl,?_⟩;refine eD ?_;refine⟨ik ⟨ey rfl (by assumption) (by first|assumption|exact fun h=>h|(intro h;have h:_=_:=h;omega)),trivial⟩,?_⟩;replace kp:=kp.ry (cW aC (((w0.alloc (gy s)).alloc (gy t)).drewN 1) (gy s));refine aX rfl rfl E80 (Nk (t:=s) _ h1 h2) (fun r5 w5 hc=>?_);obtain⟨rfl,rfl⟩:=hc;refine(fun(kp:eJ _ _ _)=>ab ⟨rfl,rfl,fun _=>kp,?_⟩) (by first|exact kp|exact kp.ry (by assumption)|exact kp.goN (by assumption)|exact kp.go (by assumption) (fun _ _ h=>by first|exact h|exact h.elim));refine aX rfl rfl E80 (Nk (t:=t) _ h3 h4) (fun r6 w6 hc=>?_);obtain⟨rfl,rfl⟩:=hc;refine ab ⟨rfl,rfl,fun h=>absurd rfl h,?_⟩;refine aX rfl rfl aeS (CH _ _ _) (fun r7 w7 hc=>?_);obtain⟨rfl,rfl⟩:=hc;refine ab ⟨rfl,rfl,fun h=>absurd rfl h,?_⟩;refine ah rfl rfl ?_;refine ab ⟨rfl,rfl,fun h=>absurd rfl h,?_⟩;refine lJ (aP ?_);exact aV rfl rfl ⟨rfl,rfl⟩
end Go.K
namespace Go.K
open Go.Lib (compareBytes)
theorem oQ (a b:UInt8) (x y:List UInt8):compareBytes (a::x) (b::y)=if a.toNat<b.toNat then-1 else if b.toNat<a.toNat then 1 else compareBytes x y:=by
 rw[compareBytes];simp only[UInt8.lt_iff_toNat_lt]
theorem zC:∀a,compareBytes a a=0
 |[]=>rfl
 |a::x=>by rw[oQ,if_neg (jC _),if_neg (jC _)];exact zC x
theorem qO:∀{a b},compareBytes a b=0→a=b
 |[],[],_=>rfl
 |[],_::_,h=>by simp[compareBytes]at h
 |_::_,[],h=>by simp[compareBytes]at h
 |a::x,b::y,h=>by
  rw[oQ]at h
  split at h
  ·omega
  ·split at h
   ·omega
   ·rw[qO h,UInt8.toNat_inj.1 (show a.toNat=b.toNat by omega)]
theorem pM:∀a b,compareBytes a b= -compareBytes b a
 |[],[]=>rfl
 |[],_::_=>rfl
 |_::_,[]=>rfl
 |a::x,b::y=>by
  rw[oQ,oQ,pM x y]
  split<;>split<;>first|omega|rfl
theorem rE:∀{a b c},compareBytes a b<0→compareBytes b c<0→compareBytes a c<0
 |[],[],_,h,_=>by simp[compareBytes]at h
 |_::_,[],_,h,_=>by simp[compareBytes]at h
 |_,_::_,[],_,h=>by simp[compareBytes]at h
 |[],_::_,_::_,_,_=>by simp[compareBytes]
 |a::x,b::y,c::z,h1,h2=>by
  rw[oQ]at h1 h2 ⊢
  split at h1
  ·split at h2
   ·rw[if_pos (by omega)];omega
   ·split at h2
    ·omega
    ·rw[if_pos (by omega)];omega
  ·split at h1
   ·omega
   ·split at h2
    ·rw[if_pos (by omega)];omega
    ·split at h2
     ·omega
     ·rw[if_neg (by omega),if_neg (by omega)];exact rE h1 h2
theorem IN {α:Type} (f:α→List UInt8):Go.Sort.SWO (Go.Proofs.ltOf fun x y=>compareBytes (f x) (f y)) where
 irrefl x:=by simp[Go.Proofs.ltOf,zC]
 trans x y z h1 h2:=by
  simp only[Go.Proofs.ltOf,decide_eq_true_eq]at*
  exact rE h1 h2
 ntrans x y z h1 h2:=by
  simp only[Go.Proofs.ltOf,decide_eq_false_iff_not]at*
  intro h3;by_cases e1:compareBytes (f x) (f y)=0
  ·rw[qO e1]at h3;exact h2 h3
  ·by_cases e2:compareBytes (f y) (f z)=0
   ·rw[qO e2]at h1;exact h1 h3
   ·have n1:=pM (f x) (f y);have n2:=pM (f y) (f z);have n3:=pM (f x) (f z);have:compareBytes (f z) (f x)<0:=rE (b:=f y) (by omega) (by omega);omega
end Go.K
namespace Go.Proofs
open Go.Shelf
def Tryz.Hh:Go.Shelf.Ren:=⟨fun|6=>187|15=>115|14=>238|28=>172|29=>173|20=>272|21=>273|22=>274|23=>275|24=>276|25=>277|26=>278|27=>279|46=>294|47=>218|48=>219|49=>295|50=>296|57=>303|n=>n,fun|22=>155|24=>78|25=>225|3=>3|39=>189|0=>0|53=>257|55=>190|4=>4|46=>251|45=>250|50=>202|5=>5|9=>9|66=>296|70=>300|76=>327|77=>328|n=>n,fun|n=>n⟩
theorem Tryz.Nl:Go.Proofs.SlLaysF0.n6 Tryz.prog Tryz.Hh:={
 mixed:=by kernel_rfl
 f6:=⟨Tryz.f187.name,by decide,Tryz.func187.trans (congrArg some (by kernel_rfl))⟩
 f14:=⟨Tryz.f238.name,by decide,Tryz.func238.trans (congrArg some (by kernel_rfl))⟩
 f15:=Tryz.func115.trans (congrArg some (by kernel_rfl))
 f20:=⟨Tryz.f272.name,by decide,Tryz.func272.trans (congrArg some (by kernel_rfl))⟩
 f21:=⟨Tryz.f273.name,by decide,Tryz.func273.trans (congrArg some (by kernel_rfl))⟩
 f22:=⟨Tryz.f274.name,by decide,Tryz.func274.trans (congrArg some (by kernel_rfl))⟩
 f23:=⟨Tryz.f275.name,by decide,Tryz.func275.trans (congrArg some (by kernel_rfl))⟩
 f24:=⟨Tryz.f276.name,by decide,Tryz.func276.trans (congrArg some (by kernel_rfl))⟩
 f25:=⟨Tryz.f277.name,by decide,Tryz.func277.trans (congrArg some (by kernel_rfl))⟩
 f26:=⟨Tryz.f278.name,by decide,Tryz.func278.trans (congrArg some (by kernel_rfl))⟩
 f27:=⟨Tryz.f279.name,by decide,Tryz.func279.trans (congrArg some (by kernel_rfl))⟩
 f28:=Tryz.func172.trans (congrArg some (by kernel_rfl))
 f29:=Tryz.func173.trans (congrArg some (by kernel_rfl))
 f46:=⟨Tryz.f294.name,by decide,Tryz.func294.trans (congrArg some (by kernel_rfl))⟩
 f47:=Tryz.func218.trans (congrArg some (by kernel_rfl))
 f48:=Tryz.func219.trans (congrArg some (by kernel_rfl))
 f49:=⟨Tryz.f295.name,by decide,Tryz.func295.trans (congrArg some (by kernel_rfl))⟩
 f50:=⟨Tryz.f296.name,by decide,Tryz.func296.trans (congrArg some (by kernel_rfl))⟩
 f57:=⟨Tryz.f303.name,by decide,Tryz.func303.trans (congrArg some (by kernel_rfl))⟩
 t0:=fK
 a0:=lS
 z0:=kj
 v0:=gM
 t3:=ax
 a3:=lT
 z3:=km
 v3:=gN
 t4:=iX
 a4:=sk
 z4:=oB
 v4:=jG
 t5:=cC
 a5:=Tryz.isAgg5
 z5:=Tryz.sizeOf5
 v5:=tX
 t9:=aK
 a9:=lU
 z9:=kn
 v9:=gO
 t22:=j5
 a22:=Tryz.isAgg155
 z22:=Tryz.sizeOf155
 v22:=Tryz.zeroValue155
 t25:=Tryz.underlying225
 a25:=Tryz.isAgg225
 z25:=Tryz.sizeOf225
 v25:=Tryz.zeroValue225
 t39:=j4
 a39:=Tryz.isAgg189
 z39:=Tryz.sizeOf189
 v39:=Tryz.zeroValue189
 t45:=Tryz.underlying250
 a45:=Tryz.isAgg250
 z45:=Tryz.sizeOf250
 v45:=Tryz.zeroValue250
 t46:=Tryz.underlying251
 a46:=Tryz.isAgg251
 z46:=Tryz.sizeOf251
 v46:=Tryz.zeroValue251
 t50:=Tryz.underlying202
 a50:=Tryz.isAgg202
 z50:=Tryz.sizeOf202
 v50:=Tryz.zeroValue202
 t53:=Tryz.underlying257
 a53:=Tryz.isAgg257
 z53:=Tryz.sizeOf257
 v53:=Tryz.zeroValue257
 t55:=tg
 a55:=Tryz.isAgg190
 z55:=Tryz.sizeOf190
 v55:=Tryz.zeroValue190
 t66:=Tryz.underlying296
 a66:=Tryz.isAgg296
 z66:=Tryz.sizeOf296
 v66:=Tryz.zeroValue296
 t70:=Tryz.underlying300
 a70:=Tryz.isAgg300
 z70:=Tryz.sizeOf300
 v70:=Tryz.zeroValue300
 t76:=Tryz.underlying327
 a76:=Tryz.isAgg327
 z76:=Tryz.sizeOf327
 v76:=Tryz.zeroValue327
 t77:=Tryz.underlying328
 a77:=Tryz.isAgg328
 z77:=Tryz.sizeOf328
 v77:=Tryz.zeroValue328}
end Go.Proofs
namespace Go.K
open Go.Proofs
set_option maxRecDepth 10000
open Go.Proofs Go.Sort
abbrev TK:Type:={t:Fd // (0:UInt8)∉t.1∧t.1.length≤1000000∧t.2.length≤1000000}
instance amm:Inhabited TK:=⟨⟨([],[]),by simp,by simp,by simp⟩⟩
def AX (x:TK):List Value:=[.string ⟨x.1.1.toArray⟩,.string ⟨x.1.2.toArray⟩]
def K4 (x y:TK):Int:=Lib.compareBytes (gL x.1) (gL y.1)
theorem zD:∀{a b x y:List UInt8},(0:UInt8)∉a→(0:UInt8)∉b→a++[0]++x=b++[0]++y→a=b∧x=y
 |[],[],_,_,_,_,h=>⟨rfl,by simpa using h⟩
 |[],c::b,_,_,_,hb,h=>by
  simp at h;exact absurd (by rw[←h.1];exact bH ..) hb
 |c::a,[],_,_,ha,_,h=>by
  simp at h;exact absurd (by rw[h.1];exact bH ..) ha
 |c::a,e::b,x,y,ha,hb,h=>by
  simp only[kV,List.cons.injEq]at h;obtain⟨h1,h2⟩:=zD (fun h=>ha (b9 _ h)) (fun h=>hb (b9 _ h)) h.2;exact⟨by rw[h.1,h1],h2⟩
theorem agv (w:World):(isAgg 78).run Tryz.prog w= .ok true w:=by simp[isAgg,cq,run_underlying dN]
theorem Z9 (w:World):(Go.sizeOf 78).run Tryz.prog w= .ok 2 w:=by
 obtain⟨i,h1,_,h2,_⟩:=Bs.get;simp[Go.sizeOf,typeInfo,cq,program,Sem.run,h1,h2]
theorem Nn (fD off size:Nat) (w:World):CmpLays Tryz.prog 136 #[] AX 2 K4 fD off size w:=fun m os dk hs x y=>
 (show Calls Tryz.prog 136 #[kv x.1,kv y.1] (sortWorldK AX 2 w fD off m dk os) (fun e w'=>∃v,e= .returned v∧_∧_)from QU (s:=x.1) (t:=y.1) _ x.2.2.1 x.2.2.2 y.2.2.1 y.2.2.2).mono fun e w' ⟨v,h1,h2,h3⟩=>⟨by rw[h1,h2];rfl,1,#[gy x.1,gy y.1,gy x.1,gy y.1],by rw[h3];simp only[zB,Hg,Go.Sort.grow_grow];rfl⟩
theorem aaa (fD off cap:Nat) (d:Array TK) (w:World) (hH:HoldsK AX 2 w fD off d) (hblk:fD<w.heap.size) (jW:d.size<4611686018427387904):
  Spec Tryz.prog 187 #[.slice (some ⟨fD,off,none⟩) d.size cap,.func (.func 136) #[] #[]] w (fun v w'=>v= .tuple #[]∧∃n os,w'=sortWorldK AX 2 w fD off n (d.toList.mergeSort fun x y=> !(Go.Proofs.ltOf K4) y x).toArray os):=by
 exact(Go.Proofs.AnyQ.slices_SortFunc_total Tryz.Nl 2 agv Z9 AX (fun _=>rfl) (fun x v hv=>by simp[AX]at hv;rcases hv with rfl|rfl<;>rfl) K4 (IN _) 136 #[] fD off cap d w aeR (Nn fD off d.size w) hH hblk jW (fun x y h1 h2=>by
  have h0:K4 x y=0:=by
   have:=pM (gL x.1) (gL y.1);simp only[Go.Proofs.ltOf,decide_eq_false_iff_not]at h1 h2;unfold K4 at h1 h2 ⊢;omega
  have h3:=qO h0;obtain⟨h4,h5⟩:=zD x.2.1 y.2.1 h3;exact Subtype.ext (xK h4 h5))).mono fun e w' ⟨h1,h2⟩=>⟨_,h1,rfl,h2⟩
end Go.K
namespace Go.K
set_option linter.unusedSectionVars false
open Go.Sort Go.Proofs
section
variable {α:Type} [Inhabited α] {enc:α→List Value} {k:Nat}
theorem xu (hk:∀x,(enc x).length=k) (h0:0<k):∀(l:List α) (t:Nat),(l.flatMap enc)[t]? =(l[t/k]?).bind fun x=>(enc x)[t%k]?
 |[],t=>by simp
 |x::l,t=>by
  rw[tc];rcases cE t k with h|h
  ·rw[fF (by rw[hk];exact h),Nat.div_eq_of_lt h,oA h];rfl
  ·rw[jI (by rw[hk];exact h),hk,xu hk h0 l];have e1:t/k=(t-k)/k+1:=by rw[Nat.div_eq t k,if_pos ⟨h0,h⟩]
   have e2:(t-k)%k=t%k:=by rw[Nat.mod_eq t k,if_pos ⟨h0,h⟩]
   rw[e1,e2,List.getElem?_cons_succ]
theorem nI (hk:∀x,(enc x).length=k):∀l:List α,(l.flatMap enc).length=l.length*k
 |[]=>by simp
 |x::l=>by rw[tc,a8,hk,nI hk l,cI,Nat.add_mul];omega
theorem zE (hk:∀x,(enc x).length=k) (h0:0<k) (d:Array α) {t:Nat} (ht:t<d.size*k):(d.toList.flatMap enc)[t]? =some (flatK enc k d)[t]! :=by
 have h1:t/k<d.size:=Nat.div_lt_of_lt_mul (by rw[Nat.mul_comm];exact ht);have h2:t%k<k:=Nat.mod_lt _ h0;rw[xu hk h0,get_flatK _ _ _ _ ht];have e:d.toList[t/k]? =some d[t/k]! :=by simp[h1]
 rw[e];simp[hk,h2]
theorem BD {w:World} {g:Nat} {cur:Array Value} {e:TypeId} {d:Array α} (hk:∀x,(enc x).length=k) (h0:0<k) (hg:w.heap[g]? =some (.cells cur e (0,0))) (hC:cur.toList.take (d.size*k)=d.toList.flatMap enc):HoldsK enc k w g 0 d:=fun j hj=>by
 rw[size_flatK]at hj;have h1:=zE hk h0 d hj;rw[←hC,ck,if_pos hj,Array.getElem?_toList]at h1;constructor
 ·simp[World.cell?,hg,h1]
 ·simp[World.frozen?,hg]
theorem sK {w:World} {g n:Nat} {cur:Array Value} {e:TypeId} {d:Array α} {os:Array Obj} (hg:w.heap[g]? =some (.cells cur e (0,0))):(sortWorldK enc k w g 0 n d os).heap[g]? =some (.cells (putCells id 0 (flatK enc k d) cur) e (0,0)):=by
 have dY:g<w.heap.size:=ak hg
 have h1:(w.heap.modify g (onCells (putCells id 0 (flatK enc k d))))[g]? =some (.cells (putCells id 0 (flatK enc k d) cur) e (0,0)):=by
  rw[jS,if_pos rfl,hg];rfl
 show((w.heap.modify g (onCells (putCells id 0 (flatK enc k d))))++os)[g]? =_;rw[Array.getElem?_append_left (by simpa using dY)];exact h1
theorem qd {w:World} {g n:Nat} {d:Array α} {os:Array Obj}:Step allM w allM (sortWorldK enc k w g 0 n d os) (fun b=>b=g):=
 ⟨fun h=>absurd (h w.heap.size trivial) (jC _),rfl,rfl,rfl,by show _≤((w.heap.modify g _)++os).size;simp,fun _ _=>Iff.rfl,fun b hb hn=>by
  have hn: ¬b=g:=hn;show((w.heap.modify g (onCells (putCells id 0 (flatK enc k d))))++os)[b]? =_;rw[Array.getElem?_append_left (by simpa using hb),jS,if_neg (fun h=>hn h.symm)],fun _ _=>trivial⟩
theorem sL {F cur:Array Value} (h:F.size≤cur.size):(putCells id 0 F cur).toList.take F.size=F.toList:=by
 apply fq;intro j;rw[ck];by_cases hj:j<F.size
 ·rw[if_pos hj];simp[putCells,hj,iE hj h]
 ·rw[if_neg hj,du (by simpa using hj)]
theorem uJ (hk:∀x,(enc x).length=k) (h0:0<k) (d:Array α):(flatK enc k d).toList=d.toList.flatMap enc:=by
 apply fq;intro j;by_cases hj:j<d.size*k
 ·rw[zE hk h0 d hj];have:j<(flatK enc k d).size:=by rw[size_flatK];exact hj
  rw[Array.getElem?_toList,getElem!_pos _ j this];exact Array.getElem?_eq_getElem this
 ·rw[du (by rw[AE,size_flatK];omega),du (by rw[nI hk,AE];omega)]
end
end Go.K
namespace Go.K
open Go.Proofs
set_option maxRecDepth 10000
open Go.Proofs Go.Sort
theorem IP:∀{ts:List Fd} {C:List Value} {M:aD} {w:World},eg RT.fd M w ts C→C=ts.flatMap fun t=>[.string ⟨t.1.toArray⟩,.string ⟨t.2.toArray⟩]
 |[],C,_,_,h=>h
 |t::ts,C,_,_,⟨vs,r,h1,h2,h3⟩=>by
  obtain⟨va,vb,rfl,h4,h5⟩:=h2;rw[h1,IP h3,h4.1,h5.1];rfl
theorem EE {M:aD} {w:World}:∀{ts:List Fd},(∀t∈ts,t.1.length≤1000000∧t.2.length≤1000000)→eg RT.fd M w ts (ts.flatMap fun t=>[.string ⟨t.1.toArray⟩,.string ⟨t.2.toArray⟩])
 |[],_=>rfl
 |t::ts,h=>by
  obtain⟨h1,h2⟩:=h t (bH ..);exact⟨_,_,rfl,⟨_,_,rfl,⟨rfl,by omega⟩,⟨rfl,by omega⟩⟩,EE fun u hu=>h u (b9 _ hu)⟩
def No (us:List Fd):Prop:=us.Pairwise fun a b=>¬Lib.compareBytes (gL b) (gL a)<0
theorem AY {base:Nat} {v:Value} {ts:List Fd} (w0:World) (ho:Own RT.fd 78 (nt v) w0 base v ts) (hT:∀t∈ts,(0:UInt8)∉t.1∧t.1.length≤1000000∧t.2.length≤1000000) (hl:ts.length≤100000000):
  Spec Tryz.prog 187 #[v,.func (.func 136) #[] #[]] w0 (fun r w=>r= .tuple #[]∧∃us:List Fd,us.Perm ts∧No us∧Own RT.fd 78 (nt v) w base v us∧Step allM w0 allM w (nt v)):=by
 obtain⟨⟨C,⟨hC,hr⟩,hA⟩,hm⟩:=ho;rcases hr with⟨rfl,h0⟩|⟨g,cap,cur,rfl,hb,hg,hle,VQ,K5,rS⟩
 ·have LG:ts=[]:=cZ.1 h0;subst LG;exact(AnyF.slices_SortFunc_none Tryz.Nl none 0 _ w0).mono fun e w' ⟨h1,h2⟩=>⟨_,h1,rfl,[],.refl _,List.Pairwise.nil,dz _ _ _ _ _,by rw[h2];exact(au allM w0).cB (fun _ h=>h.elim) (fun _ _=>trivial)⟩
 ·obtain⟨d,hd⟩:∃d:Array TK,d.toList.map (·.1)=ts:=⟨(ts.attach.map fun x=>(⟨x.1,hT x.1 x.2⟩:TK)).toArray,by rw[List.toList_toArray,List.map_map];exact List.attach_map_subtype_val ts⟩;have jW:d.size=ts.length:=by rw[←hd];simp
  have hk:∀x:TK,(AX x).length=2:=fun _=>rfl
  have Hi:∀l:List TK,(l.map (·.1)).flatMap (fun t:Fd=>[Value.string ⟨t.1.toArray⟩,.string ⟨t.2.toArray⟩])=l.flatMap AX:=fun l=>by rw[List.flatMap_map];rfl
  have hH:HoldsK AX 2 w0 g 0 d:=BD hk (by omega) hg (by
   have e2:RT.fd.n=2:=rfl;rw[e2]at rS;rw[jW,rS,IP hA,←hd,Hi])
  have hs:=aaa g 0 cap d w0 hH (ak hg) (by omega);rw[jW]at hs;refine hs.mono fun r w' ⟨h1,n,os,h2⟩=>⟨h1,(d.toList.mergeSort fun x y=> !(ltOf K4) y x).map (·.1),?_,?_,?_,?_⟩
  ·rw[←hd];exact(jo _ _).map _
  ·refine cx.2 ((List.pairwise_mergeSort (fun a b c h1 h2=>?_) (fun a b=>?_) _).imp fun h=>?_)
   ·simp only[ltOf,jc,decide_eq_false_iff_not]at*
    have:=(IN fun x:TK=>gL x.1).ntrans c b a (by simpa[ltOf,K4]using h2) (by simpa[ltOf,K4]using h1);simpa[ltOf,K4]using this
   ·simp only[ltOf,qq,jc,decide_eq_false_iff_not];have:=pM (gL a.1) (gL b.1);unfold K4;omega
   ·rw[jc]at h;exact of_decide_eq_false h
  ·have hp:=jo d.toList fun x y=> !(ltOf K4) y x
   rw[h2];generalize (d.toList.mergeSort fun x y=> !(ltOf K4) y x)=us at hp;have K6:(us.map (·.1)).length=ts.length:=by rw[aH,hp.length_eq,AE,jW]
   have xS:us.toArray.size*2=ts.length*2:=by rw[←K6];simp
   have e2:RT.fd.n=2:=rfl;refine⟨⟨(us.map (·.1)).flatMap (fun t:Fd=>[Value.string ⟨t.1.toArray⟩,.string ⟨t.2.toArray⟩]),⟨?_,.inr ⟨g,cap,_,by rw[K6],hb,sK hg,by rw[K6];exact hle,VQ,by rw[←K5];simp[putCells],?_⟩⟩,EE fun t ht=>?_⟩,hm⟩
   ·rw[Hi,nI hk,aH,e2]
   ·rw[Hi,K6,e2,←xS,←size_flatK AX,sL (by rw[size_flatK,xS,K5,e2];omega),uJ hk (by omega)]
   ·obtain⟨x,_,rfl⟩:=bV.1 ht;exact x.2.2
  ·rw[h2];exact qd.cB (fun b hb=>by have hb:b=g:=hb;subst hb;rfl) (fun _ _=>trivial)
end Go.K
namespace Go.K
open Go.Proofs
set_option maxRecDepth 10000
theorem EF {bs mb clock:Nat} {es:List MapEntry} (w0:World) (hk:IL es) (hT:∀e∈es,∀t,e.key=kv t→(0:UInt8)∉t.1∧t.1.length≤1000000∧t.2.length≤1000000) (hes:es.length≤100000000) (hlen:∀ts:List Fd,ts.Nodup→(∀t∈ts,∃e∈es,e.key=kv t)→ts.length≤100000000) (VO:w0.heap[bs]? =some (.cells #[.map (some mb)] 217 (0,0))) (hW:fI Tryz.prog 78 w0 mb es clock):
  Spec Tryz.prog 134 #[.func (.func 188) #[] [.pointer (some ⟨bs,0,none⟩)].toArray,.func (.func 136) #[] #[]] w0 (fun v w=>∃us:List Fd,us.Nodup∧(∀t,t∈us↔∃e∈es,e.key=kv t)∧No us∧Own RT.fd 78 (nt v) w w0.heap.size v us∧Step allM w0 allM w aC):=by
 refine bg (args:=[_,_]) (fn:=Tryz.f134) Tryz.func134 rfl (n:=12) Tryz.ntmps134 (aj (ae (ah rfl rfl (ab (aj (ae (ad rfl rfl ?_)))))));refine aX rfl rfl aeY (CG _ hk hes VO hW) (fun v1 w1 hc=>?_);obtain⟨ts,o6,kE,ho,s1⟩:=hc;refine ah rfl rfl (ab (aj (ae (ad rfl rfl (ad rfl rfl ?_)))));refine aX rfl rfl aeZ (AY _ ho (fun t ht=>by obtain⟨e,he,hke⟩:=(kE t).1 ht;exact hT e he t hke) (hlen ts o6 fun t ht=>(kE t).1 ht)) (fun r2 w2 hc=>?_);obtain⟨rfl,us,hp,UA,hou,s2⟩:=hc;refine ab (aj (ae (ad rfl rfl (ah rfl rfl (ab (aP ?_))))));exact aV rfl rfl ⟨us,hp.nodup_iff.2 o6,fun t=>hp.mem_iff.trans (kE t),UA,hou,s1.trans s2 (fun k hk hn=>by have:=(ho.base k hn).1;omega)⟩
theorem Hj {mb:Nat} (w0:World):
  Spec Tryz.prog 135 #[.map (some mb)] w0 (fun v w=>∃bs,v= .func (.func 188) #[] [.pointer (some ⟨bs,0,none⟩)].toArray∧w.heap[bs]? =some (.cells #[.map (some mb)] 217 (0,0))∧w0.heap.size≤bs∧Step allM w0 allM w aC):=by
 refine bg (args:=[_]) (fn:=Tryz.f135) Tryz.func135 rfl (n:=4) Tryz.ntmps135 (aj (ae ?_));refine xM allM rfl rfl (fun bs w1 mP oC gs s1=>?_);change w1.heap[bs]? =some (.cells #[.map (some mb)] 217 (0,0))at gs;replace s1:=s1.all;refine ah rfl rfl (ab (aj (ae (kr (xs:=[]) (ys:=[.tmp 1]) rfl rfl rfl (ah rfl rfl (ab (aP ?_)))))));exact aV rfl rfl ⟨bs,rfl,gs,mP,s1⟩
end Go.K
namespace Go.K
open Go.Proofs
set_option maxRecDepth 10000
def posOf (ts:List (Fd×Nat)) (t:Fd):List Int:=(ts.filter fun p=>decide (p.1=t)).map fun p=>(p.2:Int)
def seen (ts:List (Fd×Nat)):List Fd:=ts.foldl (fun l p=>if p.1∈l then l else l++[p.1]) []
theorem J8 (ts:List (Fd×Nat)) (t:Fd) (i:Nat):seen (ts++[(t,i)])=if t∈seen ts then seen ts else seen ts++[t]:=by unfold seen;rw[tf];rfl
theorem zF (ts:List (Fd×Nat)) (t t':Fd) (i:Nat):posOf (ts++[(t,i)]) t'=if t=t' then posOf ts t'++[(i:Int)]else posOf ts t':=by
 unfold posOf;rw[List.filter_append];by_cases h:t=t'<;>simp[h]
theorem wH (ts:List (Fd×Nat)) (t:Fd):(posOf ts t).length≤ts.length:=by
 unfold posOf;rw[aH];exact jT _ _
abbrev k7:Value:= .slice none 0 0
structure J9 (M:aD) (w:World) (B:Nat) (ts:List (Fd×Nat)) (es:List MapEntry):Prop where
 o:∀t v,eB k7 es (kv t) v→Own (RT.int .i64) 3 M w B v (posOf ts t)
 a:∀t t' v v',t≠t'→eB k7 es (kv t) v→eB k7 es (kv t') v'→ix v v'
 k:es.map (·.key)=(seen ts).map kv
theorem J9.aO {M M':aD} {w w':World} {B:Nat} {ts:List (Fd×Nat)} {es:List MapEntry} (h:J9 M w B ts es) (s:Step M w M' w' aC):J9 M' w' B ts es:=⟨fun t v hv=>(h.o t v hv).aO s,h.a,h.k⟩
def IJ (bt mb B:Nat) (ts:List (Fd×Nat)) (M:aD) (w:World):Prop:=w.heap[bt]? =some (.cells #[.map (some mb)] 217 (0,0))∧M bt∧M mb∧B≤bt∧B≤mb∧∃es clock,fI Tryz.prog 78 w mb es clock∧J9 M w B ts es
theorem Own.k8 {α:Type} {A:RT α} {e:TypeId} {M:aD} {w:World} {base b c:Nat} {a:Array MapEntry} {v:Value} {xs:List α} (h:Own A e M w base v xs) (hb:w.heap[b]? =some (.map a c)):v.ownBlock≠some b:=fun hv=>by
 obtain⟨⟨C,h1,_⟩,_⟩:=h;rcases h1.2 with⟨h2,_⟩|⟨g,cap,cur,h2,_,h3,_⟩
 ·rw[h2]at hv;cases hv
 ·rw[h2]at hv;cases hv;rw[h3]at hb;cases hb
theorem uK {ts:List (Fd×Nat)} {es:List MapEntry} {t:Fd} (hk:es.map (·.key)=(seen ts).map kv):(∃e∈es,e.key=kv t)↔t∈seen ts:=by
 constructor
 ·rintro⟨e,he,h⟩;have:kv t∈(seen ts).map kv:=by rw[←hk,←h];exact ib he
  obtain⟨t',h1,h2⟩:=bV.1 this;rw[←wG h2];exact h1
 ·intro h;have:kv t∈es.map (·.key):=by rw[hk];exact ib h
  obtain⟨e,h1,h2⟩:=bV.1 this;exact⟨e,h1,h2⟩
theorem Ka {M:aD} {bt mb B:Nat} {ts:List (Fd×Nat)} {t:Fd} {i:Nat} (w0:World) (hM:Lt M w0) (h1:t.1.length≤900000) (h2:t.2.length≤140737488355328) (hi:i≤1000000) (LG:ts.length≤10000000) (hJ:IJ bt mb B ts M w0):
  Spec Tryz.prog 133 #[kv t,.int .i64 (i:Int),.pointer (some ⟨bt,0,none⟩)] w0 (fun v w=>∃M',Lt M' w∧IJ bt mb B (ts++[(t,i)]) M' w∧Step M w0 M' w (l1 M B)):=by
 obtain⟨gb,eo,fm,hB,IQ,es,clock,hW,hI⟩:=hJ;refine bg (args:=[_,_,_]) (fn:=Tryz.f133) Tryz.func133 rfl (n:=13) Tryz.ntmps133 ?_;have S:Step M w0 M w0 (l1 M B):=(au _ _).cB (fun _ h=>h.elim) (fun _ h=>h.2);refine aj (ae ?_);refine qs (A:=RT.fd) rfl rfl hM (J7 (by omega) h2) rfl (fun u0 w1 dx s0 _=>?_);have:=ak gb;replace eo:=(s0.mem _ this).2 eo;replace gb:=s0.aL gb;replace fm:=(s0.mem _ (ak hW.at_)).2 fm;replace hW:=hW.aO s0;replace hI:=hI.aO s0;replace hM:=s0.lt hM;have:=S.size;replace S:=S.aB s0;refine ab (ae (aN mv rfl rfl rfl (by assumption) rfl ?_));refine cT (M:=M) (A:=RT.fd) dN rfl Bs (by decide) rfl rfl rfl dx (aq _ _) (fun v1 vK=>?_);obtain rfl:=tF vK;refine ad rfl rfl ?_;refine eu (A:=RT.int .i64) (hn:=by decide) (M:=M) ao I3 (by decide) rfl rfl hM (gv (by omega)) (.inr ⟨rfl,rfl⟩) (fun QG JW kU s1_3=>?_);have:=ak gb;replace eo:=(s1_3.mem _ this).2 eo;replace gb:=s1_3.aL gb;replace dx:=dx.le (by decide) s1_3.le;replace fm:=(s1_3.mem _ (ak hW.at_)).2 fm;replace hW:=hW.aO s1_3;replace hI:=hI.aO s1_3;replace hM:=s1_3.lt hM;have:=S.size;replace S:=S.aB s1_3;obtain⟨kl,Dw⟩:=Nd t (by omega) h2;refine Rg.mapEntry (M:=M) (zv:=k7) mv BA jY rfl rfl rfl Dw hW fm (fun w4 es4 cl4 v s Yg hv kE Hk GA s4=>?_);have Hl:∀t v,eB k7 es (kv t) v→v.ownBlock≠some mb:=fun t v h=>(hI.o t v h).k8 hW.at_
 have Tk:bt≠mb:=fun e=>by subst e;have:=hW.at_;rw[gb]at this;cases this
 replace hI:J9 M w4 B ts es:=⟨fun t v hv=>(hI.o t v hv).step s4 (fun b hb hk=>Hl t v hv (by have hk:b=mb:=hk;rw[←hk];exact hb)),hI.a,hI.k⟩;have aac:=(s4.mem _ (ak hW.at_)).2 fm;replace eo:=(s4.mem _ (ak gb)).2 eo;replace gb:=s4.keep gb Tk;replace kU:=kU.le s4.le;replace hM:=s4.lt hM;have hmM:∀b,b<w0.heap.size→M b→M b:=fun b hb h=>(S.mem b hb).1 h
 have hz0:=S.size;replace S:=S.trans s4 (fun k hk h=>by have h:k=mb:=h;subst h;exact⟨IQ,hmM k hk fm⟩);have sM:=hI.o t v hv;have tS:=wH ts t;refine bW rfl rfl rfl ?_;refine l0 (M:=M) (base:=B) ao I3 rfl rfl rfl rfl sM kU (aq _ _) (by simp;omega) (by simp;omega) (by have:=ak gb;omega) (fun v6 w6 uI s6 hF=>?_);have hblk:∀b,fD v b→B≤b∧M b:=fun b h=>⟨(sM.base b h).1,sM.mut_ b h⟩
 have tU:∀t' v',t'≠t→eB k7 es (kv t') v'→ix v' v:=fun t' v' eN sr=>hI.a t' t v' v eN sr hv
 have QV:∀t' v',t'≠t→eB k7 es (kv t') v'→Own (RT.int .i64) 3 (jF M v6) w6 B v' (posOf ts t'):=fun t' v' eN sr=>(hI.o t' v' sr).step s6 (fun b hb hk=>tU t' v' eN sr b hb hk)
 have jW:∀t' v',eB k7 es (kv t') v'→∀b,v'.ownBlock=some b→b<w4.heap.size:=fun t' v' sr b hb=>((hI.o t' v' sr).base b hb).2
 have Np:∀t' v',t'≠t→eB k7 es (kv t') v'→ix v6 v':=fun t' v' eN sr=>(tU t' v' eN sr).symm.grown hF (jW t' v' sr)
 have agw:v.ownBlock≠some mb:=sM.k8 Yg.at_;have Nq:=(s6.mem _ (ak Yg.at_)).2 aac;replace Yg:=Yg.step s6 agw;replace eo:=(s6.mem _ (ak gb)).2 eo;replace gb:=s6.keep gb (fun h=>sM.eS gb (by decide) h);replace hM:=s6.lt hM;have agx:∀b,b<w0.heap.size→M b→M b:=fun b hb h=>(S.mem b hb).1 h
 replace S:=S.trans s6 (fun k hk h=>⟨(hblk k h).1,agx k hk (hblk k h).2⟩);refine bW rfl rfl rfl ?_;have aad:=Yg.at_;refine Rg.entryStore rfl rfl rfl Yg Nq kE (fun w8 es8 hW8 qb aae s8=>?_);have hm8:v6.ownBlock≠some mb:=uI.k8 aad;replace uI:=uI.step s8 (fun b hb hk=>hm8 (by have hk:b=mb:=hk;rw[←hk];exact hb));have aaf:∀t' v',t'≠t→eB k7 es (kv t') v'→Own (RT.int .i64) 3 _ w8 B v' (posOf ts t'):=fun t' v' eN sr=>(QV t' v' eN sr).step s8 (fun b hb hk=>Hl t' v' sr (by have hk:b=mb:=hk;rw[←hk];exact hb))
 have aag:=(s8.mem _ (ak aad)).2 Nq;refine ab ?_
 first|refine rN ?_|simp+decide only[rQ,jJ,if_true,if_false]|skip
 replace eo:=(s8.mem _ (ak gb)).2 eo;replace gb:=s8.keep gb Tk;replace hM:=s8.lt hM;replace S:=S.trans s8 (fun k hk h=>by have h:k=mb:=h;subst h;exact⟨IQ,(S.mem k hk).1 Nq⟩)
 have sN:∀t1 v1,eB k7 es8 (kv t1) v1→(t1=t∧v1=v6)∨(t1≠t∧eB k7 es (kv t1) v1):=fun t1 v1 vK=>by
  rcases(aae k7 (kv t1) v1).1 vK with⟨h3,h4⟩|⟨h3,h4⟩
  ·exact .inl ⟨wG h3,h4⟩
  ·exact .inr ⟨fun e=>h3 (by rw[e];rfl),(Hk (kv t1) v1).1 h4⟩
 refine gj rfl ⟨_,hM,⟨gb,eo,aag,hB,IQ,es8,_,hW8,⟨fun t1 v1 vK=>?_,fun t1 t2 v1 v2 eN vK Bv=>?_,?_⟩⟩,S⟩
 ·rcases sN t1 v1 vK with⟨rfl,rfl⟩|⟨h3,h4⟩
  ·rw[zF,if_pos rfl];exact uI
  ·rw[zF,if_neg (fun e=>h3 e.symm)];exact aaf t1 v1 h3 h4
 ·rcases sN t1 v1 vK with⟨rfl,rfl⟩|⟨h3,h4⟩
  ·rcases sN t2 v2 Bv with⟨rfl,_⟩|⟨h5,h6⟩
   ·exact absurd rfl eN
   ·exact Np t2 v2 h5 h6
  ·rcases sN t2 v2 Bv with⟨rfl,rfl⟩|⟨h5,h6⟩
   ·exact(Np t1 v1 h3 h4).symm
   ·exact hI.a t1 t2 v1 v2 eN h4 h6
 ·rw[qb,J8];rcases GA with⟨h3,h4⟩|⟨h3,h4⟩
  ·rw[h3,hI.k,if_pos ((uK hI.k).1 h4)]
  ·rw[h3,hI.k,if_neg (fun h=>by obtain⟨e,he,hk⟩:=(uK hI.k).2 h;exact h4 e he hk)];simp[kv]
end Go.K
namespace Go.K
open Go.Maps (Keyed)
open Go.Lib (compareBytes)
theorem EG:∀a b:List UInt8,Op.bytesLess a b=decide (compareBytes a b<0)
 |[],[]=>by simp[Op.bytesLess,compareBytes]
 |_::_,[]=>by simp[Op.bytesLess,compareBytes]
 |[],_::_=>by simp[Op.bytesLess,compareBytes]
 |a::x,b::y=>by
  rw[Op.bytesLess,EG x y,oQ];by_cases h1:a.toNat<b.toNat
  ·simp[UInt8.lt_iff_toNat_lt,h1]
  ·by_cases h2:b.toNat<a.toNat
   ·have: ¬a=b:=fun e=>by subst e;omega
    simp[UInt8.lt_iff_toNat_lt,h1,h2,this]
   ·have:a=b:=UInt8.toNat_inj.1 (by omega);simp[UInt8.lt_iff_toNat_lt,h1,h2,this]
theorem qP (a b:List UInt8):compareBytes a b<0↔a<b:=by
 have h:=EG a b;rw[Go.Proofs.bytesLess_eq]at h;exact(decide_eq_decide.1 h).symm
theorem ji (a:List UInt8): ¬a<a:=fun h=>by have:=(qP a a).2 h;rw[zC]at this;omega
theorem mq {a b c:List UInt8} (h:a<b) (h':b<c):a<c:=(qP _ _).1 (rE ((qP _ _).2 h) ((qP _ _).2 h'))
theorem jZ (a b:List UInt8):a<b∨a=b∨b<a:=by
 rcases Int.lt_trichotomy (compareBytes a b) 0 with h|h|h
 ·exact .inl ((qP _ _).1 h)
 ·exact .inr (.inl (qO h))
 ·exact .inr (.inr ((qP _ _).1 (by rw[pM];omega)))
theorem ja {a b:List UInt8} (h:a<b): ¬b<a:=fun h'=>ji a (mq h h')
theorem Hm {a b:List UInt8}:a≤b↔¬b<a:=Iff.rfl
section
variable {P:Program} {r:Option Nat} {n:Nat} {L:Sl} {ds:List Deferred} {w:World} {K:Kt} {ops:Array Oper} {rest:List Oper} {d:Nat} {x y:Operand} {ty:TypeId} {pos:String} {af:Array Edge}
theorem Rg.agy {t t':TypeId} {p q:List UInt8} (hx:ev L x=some (.string ⟨p.toArray⟩)) (hy:ev L y=some (.string ⟨q.toArray⟩)) (hd:Nat.blt d n=true)
  (k:Rg P r n ops rest ((d,.bool (decide (q<p)))::L) ds w K):
  Rg P r n ops ({dst:=some d,op:= .binOp .gtr t x y t',type:=ty,pos,after:=af,guard:=none}::rest) L ds w K:=
 .op (fun _ h=>by cases h) rfl rfl hd _ w (fun ρ h=>by
  have e:(!(decide (p<q)||p==q))=decide (q<p):=by
   rcases jZ p q with h|h|h
   ·simp[h,ja h]
   ·subst h;simp[ji]
   ·have: ¬p=q:=fun e=>by subst e;exact ji p h
    simp[h,ja h,this]
  simp only[execOp];rw[h x _ hx,h y _ hy];simp only[binOp,Op.stringOp,kx,Go.Proofs.bytesLess_eq,e];simp[eqGuard]) k
theorem Rg.VR {t t':TypeId} {p q:List UInt8} (hx:ev L x=some (.string ⟨p.toArray⟩)) (hy:ev L y=some (.string ⟨q.toArray⟩)) (hd:Nat.blt d n=true)
  (k:Rg P r n ops rest ((d,.bool (decide (¬p<q)))::L) ds w K):
  Rg P r n ops ({dst:=some d,op:= .binOp .geq t x y t',type:=ty,pos,after:=af,guard:=none}::rest) L ds w K:=
 .op (fun _ h=>by cases h) rfl rfl hd _ w (fun ρ h=>by
  have e:(!decide (p<q))=decide (¬p<q):=by by_cases h:p<q<;>simp[h]
  simp only[execOp];rw[h x _ hx,h y _ hy];simp only[binOp,Op.stringOp,kx,Go.Proofs.bytesLess_eq,e];simp[eqGuard]) k
theorem Rg.VS {t t':TypeId} {p q:List UInt8} (hx:ev L x=some (.string ⟨p.toArray⟩)) (hy:ev L y=some (.string ⟨q.toArray⟩)) (hd:Nat.blt d n=true)
  (k:Rg P r n ops rest ((d,.bool (decide (¬q<p)))::L) ds w K):
  Rg P r n ops ({dst:=some d,op:= .binOp .leq t x y t',type:=ty,pos,after:=af,guard:=none}::rest) L ds w K:=
 .op (fun _ h=>by cases h) rfl rfl hd _ w (fun ρ h=>by
  have e:(decide (p<q)||p==q)=decide (¬q<p):=by
   rcases jZ p q with h|h|h
   ·simp[h,ja h]
   ·subst h;simp[ji]
   ·have: ¬p=q:=fun e=>by subst e;exact ji p h
    simp[h,ja h,this]
  simp only[execOp];rw[h x _ hx,h y _ hy];simp only[binOp,Op.stringOp,kx,Go.Proofs.bytesLess_eq,e];simp[eqGuard]) k
end
abbrev EH (l:List (List UInt8)):Prop:=l.Pairwise (· < ·)
theorem Kb {ss:List (List UInt8)} (h:ss.Nodup):EH (ss.mergeSort fun x y=>decide (x≤y)):=by
 have h1:(ss.mergeSort fun x y=>decide (x≤y)).Pairwise (fun x y=>decide (x≤y)=true):=List.pairwise_mergeSort (fun a b c h1 h2=>by
  simp only[decide_eq_true_eq,Hm]at h1 h2 ⊢;intro h3;rcases jZ a b with h|h|h
  ·exact h2 (mq h3 h)
  ·subst h;exact h2 h3
  ·exact h1 h) (fun a b=>by
  simp only[qq,decide_eq_true_eq,Hm];rcases jZ a b with h|h|h
  ·exact .inl (ja h)
  ·subst h;exact .inl (ji a)
  ·exact .inr (ja h)) ss
 have h2:(ss.mergeSort fun x y=>decide (x≤y)).Nodup:=(jo ss _).nodup_iff.2 h;refine (h1.and h2).imp ?_;rintro a b ⟨h3,h4⟩;simp only[decide_eq_true_eq,Hm]at h3;rcases jZ a b with h|h|h
 ·exact h
 ·exact absurd h h4
 ·exact absurd h h3
theorem EH.nodup {l:List (List UInt8)} (h:EH l):l.Nodup:=h.imp fun {a b} h e=>by subst e;exact ji a h
theorem uL {α:Type} {R:α→α→Prop} (hR:∀a b,R a b→R b a→a=b) {l l':List α} (h:l.Pairwise R) (h':l'.Pairwise R) (hn:l.Nodup) (J5:l'.Nodup) (hm:∀x,x∈l↔x∈l'):l=l':=
 List.Perm.eq_of_pairwise (fun a b _ _ h1 h2=>hR a b h1 h2) h h' ((List.perm_ext_iff_of_nodup hn J5).2 hm)
theorem VT {l l':List (List UInt8)} (h:EH l) (h':EH l') (hm:∀x,x∈l↔x∈l'):l=l':=
 uL (fun a b h1 h2=>absurd h2 (ja h1)) h h' h.nodup h'.nodup hm
abbrev sv (k:List UInt8):Value:= .string ⟨k.toArray⟩
theorem CI {a b:List UInt8} (h:sv a=sv b):a=b:=by simpa[sv]using h
def Hn:Value→Option (DU×List MemPlace):=fun _=>some (.nil,[])
theorem fI.agz {P:Program} {kt:TypeId} {M:aD} {w:World} {b:Nat} {es:List MapEntry} {clock:Nat} (hk:P.underlying kt=some .string) (h:fI P kt w b es clock) (hm:M b) (hl:es.length≤maxLen) (ks:List (List UInt8)) (QW:es.map (·.key)=ks.map sv):
  ∃m:List (Lit×DU),UU P kt Hn M w b m∧(strKeys (DataW.map m)).Perm ks∧m.length=ks.length:=by
 have hF:Go.WideElems.Fit P kt Hn es.toArray clock:=by
  refine⟨by simpa using hl,⟨fun x hx=>h.lt x (by simpa using hx),?_,?_⟩,fun x hx=>?_⟩
  ·simpa[List.Nodup,cx]using h.born
  ·simpa[List.Nodup,cx]using h.keys
  ·obtain⟨l,hl⟩:=h.ok x (by simpa using hx);exact⟨(l,.nil),by simp[Go.WideElems.rd,hl,Hn]⟩
 have hp:=Go.WideShapes.sorted_perm (es.toArray.toList.map (Go.WideElems.rg P kt Hn));have hlen:(List.foldr DataW.insert [] (es.toArray.toList.map (Go.WideElems.rg P kt Hn))).length=es.length:=by rw[hp.length_eq];simp
 refine⟨_,⟨hm,es.toArray,clock,h.at_,hF,by rw[hlen];simp,rfl⟩,?_,?_⟩
 ·refine (hp.map fun p=>strOf p.1).trans ?_;rw[List.map_map]
  have e:es.toArray.toList.map ((fun p=>strOf p.1)∘Go.WideElems.rg (H:=Unit) P kt Hn)=ks:=by
   refine fq fun i=>?_
   have hi:=congrArg (·[i]?) QW;simp only[bj]at hi ⊢
   cases he:es[i]? with
   |none=>
    rw[he]at hi
    cases agA:ks[i]? with
    |none=>simp[he]
    |some a=>rw[agA]at hi;cases hi
   |some e=>
    rw[he]at hi;obtain⟨l,hl⟩:=h.ok e (az he);obtain⟨s,hs,h1⟩:=Option.map_eq_some_iff.1 hi.symm;obtain⟨z,hz1,hz2,_⟩:=Maps.keyOf_str hk hl;have:z=s:=CI (hz1.symm.trans (by simpa using h1.symm));subst this;simp[he,hs,Go.WideElems.rg,Go.WideElems.rd,hl,Hn,hz2,strOf]
  rw[e]
 ·rw[hlen];have:=congrArg List.length QW;simpa using this
end Go.K
namespace Go.K
open Go.Lib (compareBytes)
def qQ {α:Type} [DecidableEq α] (key:α→List UInt8) (t:α):List α→List α
 |[]=>[t]
 |u::l=>if key t<key u then t::u::l else if u=t then u::l else u::qQ key t l
theorem rF {α:Type} [DecidableEq α] {key:α→List UInt8} {t x:α}:∀{l:List α},x∈qQ key t l↔x=t∨x∈l
 |[]=>by simp[qQ]
 |u::l=>by
  unfold qQ
  split
  ·simp
  ·split
   ·rename_i h;subst h;simp
   ·rw[ca,rF (l:=l),ca];constructor
    ·rintro(h|h|h)
     ·exact .inr (.inl h)
     ·exact .inl h
     ·exact .inr (.inr h)
    ·rintro(h|h|h)
     ·exact .inr (.inl h)
     ·exact .inl h
     ·exact .inr (.inr h)
abbrev CJ {α:Type} (key:α→List UInt8) (l:List α):Prop:=l.Pairwise fun a b=>key a<key b
theorem EI {α:Type} [DecidableEq α] {key:α→List UInt8} {t:α}:∀{l:List α},(∀u∈l,key u=key t→u=t)→CJ key l→CJ key (qQ key t l)
 |[],_,_=>by simp[qQ]
 |u::l,hi,h=>by
  have h':=eC.1 h;unfold qQ
  split
  ·rename_i dY
   refine eC.2 ⟨fun x hx=>?_,h⟩;rcases ca.1 hx with rfl|hx
   ·exact dY
   ·exact mq dY (h'.1 x hx)
  ·rename_i dY
   split
   ·exact h
   ·rename_i eN
    have hut:key u<key t:=by
     rcases jZ (key u) (key t)with h1|h1|h1
     ·exact h1
     ·exact absurd (hi u (bH ..) h1) eN
     ·exact absurd h1 dY
    refine eC.2 ⟨fun x hx=>?_,EI (fun v hv=>hi v (b9 _ hv)) h'.2⟩;rcases rF.1 hx with rfl|hx
    ·exact hut
    ·exact h'.1 x hx
def allBy {α:Type} [DecidableEq α] (key:α→List UInt8) (l:List α):List α:=l.foldl (fun a t=>qQ key t a) []
theorem uM {α:Type} [DecidableEq α] {key:α→List UInt8} {S:α→Prop} (hS:∀a b,S a→S b→key a=key b→a=b):∀(l a:List α),(∀x∈l,S x)→(∀x∈a,S x)→CJ key a→
  CJ key (l.foldl (fun a t=>qQ key t a) a)∧∀x,x∈l.foldl (fun a t=>qQ key t a) a↔x∈a∨x∈l
 |[],a,_,_,h=>⟨h,fun x=>by simp⟩
 |t::l,a,hl,ha,h=>by
  have ht:=hl t (bH ..)
  obtain⟨h1,h2⟩:=uM hS l (qQ key t a) (fun x hx=>hl x (b9 _ hx)) (fun x hx=>by
   rcases rF.1 hx with rfl|hx
   ·exact ht
   ·exact ha x hx) (EI (fun u hu e=>hS _ _ (ha u hu) ht e) h)
  refine⟨h1,fun x=>?_⟩;rw[List.foldl_cons,h2,rF,ca];constructor
  ·rintro((h|h)|h)
   ·exact .inr (.inl h)
   ·exact .inl h
   ·exact .inr (.inr h)
  ·rintro(h|h|h)
   ·exact .inl (.inr h)
   ·exact .inl (.inl h)
   ·exact .inr h
theorem CJ.nodup {α:Type} {key:α→List UInt8} {l:List α} (h:CJ key l):l.Nodup:=h.imp fun {a b} h e=>by subst e;exact ji _ h
abbrev PR (t:Fd):Prop:=(0:UInt8)∉t.1
theorem zG {a b:Fd} (ha:PR a) (hb:PR b) (h:gL a=gL b):a=b:=by
 obtain⟨h1,h2⟩:=zD ha hb h;exact xK h1 h2
def dj (tl:List (Fd×Nat)):List Fd:=allBy gL (tl.map (·.1))
theorem uN {tl:List (Fd×Nat)} (hz:∀p∈tl,PR p.1):CJ gL (dj tl):=
 (uM (S:=PR) (fun _ _=>zG) _ [] (fun x hx=>by obtain⟨p,hp,rfl⟩:=bV.1 hx;exact hz p hp) (fun x h=>by cases h) List.Pairwise.nil).1
theorem k9 {tl:List (Fd×Nat)} (hz:∀p∈tl,PR p.1) {t:Fd}:t∈dj tl↔t∈tl.map (·.1):=by
 have:=(uM (S:=PR) (key:=gL) (fun _ _=>zG) (tl.map (·.1)) [] (fun x hx=>by obtain⟨p,hp,rfl⟩:=bV.1 hx;exact hz p hp) (fun x h=>by cases h) List.Pairwise.nil).2 t;simpa[dj,allBy]using this
theorem IS (t:Fd):∀(ts:List (Fd×Nat)) (l:List Fd),t∈ts.foldl (fun l p=>if p.1∈l then l else l++[p.1]) l↔t∈l∨t∈ts.map (·.1)
 |[],l=>by simp
 |p::ts,l=>by
  rw[List.foldl_cons,IS t ts,eQ,ca]
  split
  ·rename_i h
   constructor
   ·rintro(h1|h1)
    ·exact .inl h1
    ·exact .inr (.inr h1)
   ·rintro(h1|h1|h1)
    ·exact .inl h1
    ·exact .inl (by rw[h1];exact h)
    ·exact .inr h1
  ·rw[cr,bS];constructor
   ·rintro((h1|h1)|h1)
    ·exact .inl h1
    ·exact .inr (.inl h1)
    ·exact .inr (.inr h1)
   ·rintro(h1|h1|h1)
    ·exact .inl (.inl h1)
    ·exact .inl (.inr h1)
    ·exact .inr h1
theorem uO {tl:List (Fd×Nat)} {t:Fd}:t∈seen tl↔t∈tl.map (·.1):=by unfold seen;rw[IS];simp
theorem EJ {tl:List (Fd×Nat)} {us:List Fd} (hz:∀p∈tl,PR p.1) (o6:us.Nodup) (kE:∀t,t∈us↔t∈seen tl) (UA:No us):us=dj tl:=by
 have hm:∀t,t∈us↔t∈dj tl:=fun t=>by rw[kE,uO,k9 hz]
 have ko:∀t∈dj tl,PR t:=fun t ht=>by obtain⟨p,hp,rfl⟩:=bV.1 ((k9 hz).1 ht);exact hz p hp
 refine List.Perm.eq_of_pairwise (le:=fun a b=>¬compareBytes (gL b) (gL a)<0) (fun a b ha hb h1 h2=>?_) UA ((uN hz).imp fun {a b} h h'=>ja h ((qP _ _).1 h')) ((List.perm_ext_iff_of_nodup o6 (uN hz).nodup).2 hm);rw[qP]at h1 h2;rcases jZ (gL a) (gL b)with h|h|h
 ·exact absurd h h2
 ·exact zG (ko a ((hm a).1 ha)) (ko b hb) h
 ·exact absurd h h1
theorem uP (a b:List (Fd×Nat)) (t:Fd):posOf (a++b) t=posOf a t++posOf b t:=by simp[posOf]
theorem Nr {tl:List (Fd×Nat)} {t:Fd} (h:t∈tl.map (·.1)):posOf tl t≠[]:=by
 obtain⟨p,hp,rfl⟩:=bV.1 h;intro e;have:p∈tl.filter fun q=>decide (q.1=p.1):=fU.2 ⟨hp,by simp⟩
 rw[List.map_eq_nil_iff.1 e]at this;cases this
theorem Kc {tl:List (Fd×Nat)} {t:Fd} (h:t∉tl.map (·.1)):posOf tl t=[]:=by
 unfold posOf;rw[List.filter_eq_nil_iff.2 fun p hp=>by simp;intro e;exact h (bV.2 ⟨p,hp,e⟩)];rfl
theorem EK (x:Fd) (t:Fd):(posOf (jz x) t).Sublist ((List.range' 0 (words x.2).length).map fun(i:Nat)=>(i:Int)):=by
 have e:(jz x).map (fun p=>(p.2:Int))=(List.range' 0 (words x.2).length).map fun(i:Nat)=>(i:Int):=by
  rw[←List.zipIdx_map_snd 0 (words x.2),List.map_map];unfold jz;rw[List.map_map];rfl
 rw[←e];exact AF.map _
theorem Kd (x:Fd) (t:Fd):(posOf (jz x) t).Pairwise (· < ·)∧∀i∈posOf (jz x) t,0≤i∧i<(words x.2).length:=by
 refine⟨vI (EK x t) (cx.2 ((List.pairwise_lt_range' (s:=0) (n:=(words x.2).length)).imp fun h=>by omega)),fun i hi=>?_⟩;have:=(EK x t).subset hi;obtain⟨k,hk,rfl⟩:=bV.1 this;have:=List.mem_range'_1.1 hk;omega
theorem BE {x:Fd} {p:Fd×Nat} (h:p∈jz x):p.1.1=x.1∧p.1.2∈words x.2:=by
 obtain⟨q,hq,rfl⟩:=bV.1 h;have:=List.mem_zipIdx hq;exact⟨rfl,by simp only;rw[this.2.2];exact vM _⟩
theorem BF {fs:List Fd} {p:Fd×Nat} (h:p∈cM fs):∃x∈fs,p.1.1=x.1∧p.1.2∈words x.2:=by
 obtain⟨x,hx,hp⟩:=vN.1 h;exact⟨x,hx,BE hp⟩
theorem zH {x t:Fd} (h:x.1≠t.1):posOf (jz x) t=[]:=Kc fun hm=>by
 obtain⟨p,hp,rfl⟩:=bV.1 hm;exact h (BE hp).1.symm
theorem BG {t:Fd}:∀{fs:List Fd},(∀x∈fs,x.1≠t.1)→posOf (cM fs) t=[]
 |[],_=>rfl
 |x::fs,h=>by
  show posOf (jz x++cM fs) t=[];rw[uP,zH (h x (bH ..)),BG fun y hy=>h y (b9 _ hy)];rfl
theorem EL {t:Fd}:∀{fs:List Fd},(fs.map (·.1)).Nodup→posOf (cM fs) t=[]∨∃x∈fs,posOf (cM fs) t=posOf (jz x) t
 |[],_=> .inl rfl
 |x::fs,h=>by
  have h':=List.nodup_cons.1 h;have e:posOf (cM (x::fs)) t=posOf (jz x) t++posOf (cM fs) t:=by show posOf (jz x++cM fs) t=_;rw[uP]
  by_cases hx:x.1=t.1
  ·refine .inr ⟨x,bH ..,?_⟩;rw[e,BG fun y hy e=>h'.1 (by have h9:y.1∈fs.map (·.1):=ib hy;rw[e,←hx]at h9;exact h9),fT]
  ·rw[e,zH hx,fQ];rcases EL (t:=t) h'.2 with h1|⟨y,hy,h1⟩
   ·exact .inl h1
   ·exact .inr ⟨y,b9 _ hy,h1⟩
theorem zI:∀{l:List Int} {last:Int},(∀x∈l,last<x)→l.Pairwise (· < ·)→eG last l=true
 |[],_,_,_=>rfl
 |x::l,last,h1,h2=>by
  have xT:=eC.1 h2;simp only[eG,bX,decide_eq_true_eq];exact⟨h1 x (bH ..),zI xT.1 xT.2⟩
structure lf (d:Dc):Prop where
 names:∀f∈d.2,gx f.1=true
 once:(d.2.map (·.1)).Nodup
 toks:∀f∈d.2,mV 0 (words f.2)=0
 many:(cM d.2).length≤500
 few:d.2.length≤8
theorem BH:∀{fs sn:List Fd} {n:Nat},AT sn fs n=0→(∀f∈fs,gx f.1=true∧mV 0 (words f.2)=0∧∀g∈sn,g.1≠f.1)∧(fs.map (·.1)).Nodup∧n+(cM fs).length≤500
 |[],sn,n,h=>by
  refine⟨(fun f hf=>by cases hf),List.nodup_nil,?_⟩;simp only[AT]at h
  split at h
  ·cases h
  ·simp[cM];omega
 |f::fs,sn,n,h=>by
  simp only[AT]at h
  split at h
  ·cases h
  ·rename_i h1
   split at h
   ·cases h
   ·rename_i h2
    split at h
    ·exact absurd h (by assumption)
    ·rename_i h3
     obtain⟨h4,h5,h6⟩:=BH h;have h7:∀g∈sn,g.1≠f.1:=fun g hg e=>h2 (vL.2 ⟨g,hg,by simp[e]⟩)
     refine⟨fun x hx=>?_,List.nodup_cons.2 ⟨fun hm=>?_,h5⟩,?_⟩
     ·rcases ca.1 hx with rfl|hx
      ·exact⟨by simpa using h1,by simpa using h3,h7⟩
      ·obtain⟨a,b,c⟩:=h4 x hx;exact⟨a,b,fun g hg=>c g (gC _ hg)⟩
     ·obtain⟨y,hy,e⟩:=bV.1 hm;exact(h4 y hy).2.2 f (List.mem_append_right _ (bS.2 rfl)) e.symm
     ·have:(cM (f::fs)).length=(jz f).length+(cM fs).length:=by show(jz f++cM fs).length=_;rw[a8]
      rw[this,oP];omega
theorem IT {d:Dc} (h:l6 d=0):lf d:=by
 unfold l6 at h
 split at h
 ·cases h
 ·obtain⟨h1,h2,h3⟩:=BH h;exact⟨fun f hf=>(h1 f hf).1,h2,fun f hf=>(h1 f hf).2.1,by omega,by omega⟩
theorem BI:∀{ws:List (List UInt8)} {i:Nat},mV i ws=0→∀x∈ws,x.length≤30
 |[],_,_,x,hx=>by cases hx
 |a::ws,i,h,x,hx=>by
  simp only[mV]at h
  split at h
  ·cases h
  ·split at h
   ·cases h
   ·rcases ca.1 hx with rfl|hx
    ·omega
    ·exact BI h x hx
theorem Nt {s:List UInt8} (h:gx s=true):(0:UInt8)∉s:=fun h0=>by
 simp only[gx,bX,fA]at h;have:=h.2 0 h0
 revert this;decide
theorem lf.QX {d:Dc} (h:lf d):∀p∈cM d.2,PR p.1:=fun p hp=>by
 obtain⟨x,hx,h1,_⟩:=BF hp;show(0:UInt8)∉p.1.1;rw[h1];exact Nt (h.names x hx)
theorem lf.small {d:Dc} (h:lf d):∀p∈cM d.2,p.1.1.length≤12∧p.1.2.length≤30:=fun p hp=>by
 obtain⟨x,hx,h1,h2⟩:=BF hp;exact⟨by rw[h1];exact Em (h.names x hx),BI (h.toks x hx) _ h2⟩
theorem lf.pos {d:Dc} (h:lf d) (t:Fd):(posOf (cM d.2) t).Pairwise (· < ·)∧(∀i∈posOf (cM d.2) t,0≤i∧i<500)∧(posOf (cM d.2) t).length≤500:=by
 have hl:=wH (cM d.2) t;have hm:=h.many;rcases EL (t:=t) h.once with h1|⟨x,hx,h1⟩
 ·rw[h1];exact⟨List.Pairwise.nil,(fun i hi=>by cases hi),by simp⟩
 ·obtain⟨h2,h3⟩:=Kd x t
  have ru:(words x.2).length≤500:=by
   have:(jz x).length≤(cM d.2).length:=by
    obtain⟨i,hi⟩:=bz.1 hx;have:=tI hi
    have h5:(cM (d.2.take (i+1))).length≤(cM d.2).length:=by
     have:cM d.2=cM (d.2.take (i+1))++cM (d.2.drop (i+1)):=by unfold cM;rw[←List.flatMap_append,vH]
     rw[this,a8];omega
    rw[this,a8]at h5;omega
   rw[oP]at this;omega
  rw[h1]at hl ⊢;exact⟨h2,fun i hi=>⟨(h3 i hi).1,by have:=(h3 i hi).2;omega⟩,by omega⟩
theorem lf.eG {d:Dc} (h:lf d) (t:Fd):pz (posOf (cM d.2) t)=true:=by
 obtain⟨h1,h2,_⟩:=h.pos t;exact pA.2 ⟨zI (fun x hx=>by have:=(h2 x hx).1;omega) h1,fun x hx=>by have:=(h2 x hx).2;omega⟩
abbrev qe (e:En):List (Fd×Nat):=cM e.1.2
def Gi (i:Nat) (tl:List (Fd×Nat)) (k:List UInt8):List Po:=((dj tl).filter fun t=>decide (gL t=k)).map fun t=>((i:Int),posOf tl t)
def Dy (k:List UInt8):Nat→List En→List Po
 |_,[]=>[]
 |i,e::L=>Gi i (qe e) k++Dy k (i+1) L
def pk (L:List En) (k:List UInt8):List Po:=Dy k 0 L
theorem EM (k:List UInt8) (e:En):∀(L:List En) (i:Nat),Dy k i (L++[e])=Dy k i L++Gi (i+L.length) (qe e) k
 |[],i=>by simp[Dy]
 |x::L,i=>by
  simp only[kV,Dy,EM k e L (i+1),List.append_assoc,cI];rw[show i+1+L.length=i+(L.length+1) by omega]
theorem QY (L:List En) (e:En) (k:List UInt8):pk (L++[e]) k=pk L k++Gi L.length (qe e) k:=by
 unfold pk;rw[EM];simp
def iO (L:List En):List (List UInt8):=L.flatMap fun e=>(dj (qe e)).map gL
theorem Ho (L:List En) (e:En):iO (L++[e])=iO L++(dj (qe e)).map gL:=by simp[iO]
def keysOf (L:List En):List (List UInt8):=allBy id (iO L)
theorem lv (L:List En):EH (keysOf L):=(uM (key:=id) (S:=fun _=>True) (fun a b _ _ h=>h) _ [] (fun _ _=>trivial) (fun _ _=>trivial) List.Pairwise.nil).1
theorem jA {L:List En} {k:List UInt8}:k∈keysOf L↔k∈iO L:=by
 have:=(uM (key:=id) (S:=fun _=>True) (fun a b _ _ h=>h) (iO L) [] (fun _ _=>trivial) (fun _ _=>trivial) List.Pairwise.nil).2 k;simpa[keysOf,allBy]using this
theorem filter_one {α:Type} {key:α→List UInt8} {l:List α} (h:CJ key l) (k:List UInt8):l.filter (fun t=>decide (key t=k))=[]∨∃t∈l,key t=k∧l.filter (fun t=>decide (key t=k))=[t]:=by
 have h1:CJ key (l.filter fun t=>decide (key t=k)):=vI AF h;have h2:∀x∈l.filter (fun t=>decide (key t=k)),x∈l∧key x=k:=fun x hx=>by simpa using fU.1 hx
 revert h1 h2
 generalize l.filter (fun t=>decide (key t=k))=m;intro h1 h2
 match m,h1,h2 with
 |[],_,_=>exact .inl rfl
 |[t],_,h2=>exact .inr ⟨t,(h2 t (bH ..)).1,(h2 t (bH ..)).2,rfl⟩
 |t::u::m,h1,h2=>
  have:=(eC.1 h1).1 u (bH ..);rw[(h2 t (bH ..)).2,(h2 u (by simp)).2]at this;exact absurd this (ji k)
theorem IU {d:Dc} (h:lf d) (i:Nat) (k:List UInt8):Gi i (cM d.2) k=[]∨∃t∈dj (cM d.2),gL t=k∧Gi i (cM d.2) k=[((i:Int),posOf (cM d.2) t)]:=by
 rcases filter_one (uN h.QX) k with h1|⟨t,ht,hk,h1⟩
 ·exact .inl (by unfold Gi;rw[h1];rfl)
 ·exact .inr ⟨t,ht,hk,by unfold Gi;rw[h1];rfl⟩
theorem VU {tl:List (Fd×Nat)} {i:Nat} {t:Fd} (h:t∈dj tl):Gi i tl (gL t)≠[]:=fun e=>by
 have:t∈(dj tl).filter fun u=>decide (gL u=gL t):=fU.2 ⟨h,by simp⟩
 rw[List.map_eq_nil_iff.1 e]at this;cases this
theorem uQ (k:List UInt8):∀(L:List En) (i:Nat) (last:Int),(∀e∈L,lf e.1)→last<i→i+L.length≤2147483648→fN last (Dy k i L)=true
 |[],_,_,_,_,_=>rfl
 |e::L,i,last,hF,h1,h2=>by
  have hf:=hF e (bH ..);have hr:=fun last h=>uQ k L (i+1) last (fun x hx=>hF x (b9 _ hx)) h (by simp at h2;omega)
  simp only[Dy];rcases IU hf i k with h3|⟨t,ht,hk,h3⟩
  ·rw[show Gi i (qe e) k=[]from h3];exact hr last (by omega)
  ·rw[show Gi i (qe e) k=_ from h3]
   have eN:(posOf (cM e.1.2) t).isEmpty=false:=by
    have:=Nr ((k9 hf.QX).1 ht)
    cases h:posOf (cM e.1.2) t with
    |nil=>exact absurd h this
    |cons a b=>rfl
   simp only[kV,fQ,fN,eN,hf.eG t,hr i (by omega),Bool.and_true,Bool.not_false,bX,decide_eq_true_eq];simp at h2;omega
theorem qR (k:List UInt8):∀(L:List En) (i:Nat),(∀e∈L,lf e.1)→(Dy k i L).length≤L.length∧∀p∈Dy k i L,(i:Int)≤p.1∧p.1<i+L.length∧p.2.length≤500
 |[],_,_=>⟨aR _,fun p h=>by cases h⟩
 |e::L,i,hF=>by
  have hf:=hF e (bH ..);obtain⟨h1,h2⟩:=qR k L (i+1) (fun x hx=>hF x (b9 _ hx));simp only[Dy,cI];rcases IU hf i k with h3|⟨t,ht,hk,h3⟩
  ·rw[show Gi i (qe e) k=[]from h3];exact⟨by simpa using Nat.le_succ_of_le h1,fun p hp=>by have:=h2 p (by simpa using hp);exact⟨by omega,by omega,this.2.2⟩⟩
  ·rw[show Gi i (qe e) k=_ from h3];refine⟨by simp;omega,fun p hp=>?_⟩;rcases ca.1 hp with rfl|hp
   ·exact⟨Int.le_refl _,by simp only;omega,(hf.pos t).2.2⟩
   ·have:=h2 p (by simpa using hp);exact⟨by omega,by omega,this.2.2⟩
theorem wI:∀(l:List Po) (last:Int) (m:Nat),-1≤last→fN last l=true→(∀p∈l,p.2.length≤m)→m≤1000000→(eh last l).length≤(18+9*m)*l.length∧jv l≤m*l.length
 |[],_,_,_,_,_,_=>⟨by simp[eh],by simp[jv]⟩
 |(d,ps)::l,last,m,h0,hm,hs,hmm=>by
  simp only[fN,bX,decide_eq_true_eq]at hm;obtain⟨⟨⟨⟨h1,h2⟩,h3⟩,h4⟩,h5⟩:=hm;obtain⟨h6,h7⟩:=pA.1 h4;have ky:=hs _ (bH ..);simp only at ky;obtain⟨i1,i2⟩:=wI l d m (by omega) h5 (fun p hp=>hs p (b9 _ hp)) hmm;have a1:=yS ps (-1) (by omega) (fun x hx=>by have:=h7 x hx;omega) h6;have a3:=lD (n:=(d-last-1).toNat) (by omega);have a4:=lD (n:=ps.length) (by omega);have e1:9*ps.length≤9*m:=by omega
  constructor
  ·simp only[eh,eL,a8,cI,Nat.mul_add,eU];omega
  ·simp only[jv,eQ,List.sum_cons,cI]at i2 ⊢;rw[Int.natCast_add,Int.mul_add];omega
abbrev Sg:Type:=List Int×List Int×List (List UInt8)×List (List Po)
theorem Hp {k:List UInt8}:∀{L:List En} (i:Nat),k∈iO L→Dy k i L≠[]
 |[],_,h=>by cases h
 |e::L,i,h=>by
  simp only[Dy];intro hn;obtain⟨h1,h2⟩:=List.append_eq_nil_iff.1 hn;have h:k∈(dj (qe e)).map gL++iO L:=h;rcases cr.1 h with h|h
  ·obtain⟨t,ht,rfl⟩:=bV.1 h;exact VU ht h1
  ·exact Hp (i+1) h h2
theorem CK {k:List UInt8}:∀{L:List En} (i:Nat),k∉iO L→Dy k i L=[]
 |[],_,_=>rfl
 |e::L,i,h=>by
  have h:k∉(dj (qe e)).map gL++iO L:=h;rw[cr,not_or]at h;simp only[Dy];rw[CK (i+1) h.2,fT];unfold Gi;rw[List.filter_eq_nil_iff.2 fun t ht=>by simp;intro e';exact h.1 (bV.2 ⟨t,ht,e'⟩)];rfl
end Go.K
namespace Go.K
def RT.ptr {α:Type} (A:RT α) (hn:0<A.n:=by decide):RT α where
 n:=1
 agg:=false
 R:=fun M w x vs=>∃b o us,vs=[.pointer (some ⟨b,o,none⟩)]∧¬M b∧A.R M w x us∧w.rangeAt b o us
 len:=by rintro _ _ x vs ⟨b,o,us,rfl,_⟩;rfl
 one:=by rintro _ _ x vs ⟨b,o,us,rfl,_⟩ v hv;simp at hv;subst hv;rfl
 le:=by
  rintro M w M' w' x vs hl ⟨b,o,us,h1,h2,h3,h4⟩;have hp:0<us.length:=by rw[A.len h3];exact hn
  have hc:=h4 0 (us[0]'hp) (ar hp);exact⟨b,o,us,h1,(hl b (World.block_lt_of_cell? w _ hc) h2).1,A.le hl h3,tn hl h2 h4⟩
theorem lX {α:Type} {A:RT α} {hn:0<A.n} {M:aD} {w:World} {x:α} {v:Value}:(A.ptr hn).V M w x v↔cO A M w v x:=
 ⟨fun⟨vs,⟨b,o,us,h1,h2,h3,h4⟩,h5⟩=>⟨b,o,us,by subst h1;exact h5,h2,h3,h4⟩,fun⟨b,o,us,h1,h2,h3,h4⟩=>⟨[v],⟨b,o,us,by rw[h1],h2,h3,h4⟩,rfl⟩⟩
abbrev Di:=List (List UInt8)×List Li
abbrev Se:=List Int×List Int×Di
abbrev RT.di:RT Di:=RT.pair (RT.str.sl) (((RT.li).ptr).sl)
abbrev RT.se:RT Se:=RT.pair ((RT.int .i64).sl) (RT.pair ((RT.int .i64).sl) ((RT.di).ptr))
theorem Yh:Part RT.di (RT.str.sl) (fun p=>p.1) 0:=np _ _
theorem di1:Part RT.di (((RT.li).ptr).sl) (fun p=>p.2) 1:=iK _ _
theorem se0:Part RT.se ((RT.int .i64).sl) (fun p=>p.1) 0:=np _ _
theorem se1:Part RT.se ((RT.int .i64).sl) (fun p=>p.2.1) 1:=(iK ((RT.int .i64).sl) (RT.pair ((RT.int .i64).sl) ((RT.di).ptr))).trans (np _ _)
theorem se2:Part RT.se ((RT.di).ptr) (fun p=>p.2.2) 2:=(iK ((RT.int .i64).sl) (RT.pair ((RT.int .i64).sl) ((RT.di).ptr))).trans (iK ((RT.int .i64).sl) ((RT.di).ptr))
abbrev Pa:=List Int×List Int×List (List UInt8)×List (List Po)
abbrev RT.pa:RT Pa:=RT.pair ((RT.int .i64).sl) (RT.pair ((RT.int .i64).sl) (RT.pair (RT.str.sl) (((RT.po).sl).sl)))
theorem pa0:Part RT.pa ((RT.int .i64).sl) (fun p=>p.1) 0:=np _ _
theorem pa1:Part RT.pa ((RT.int .i64).sl) (fun p=>p.2.1) 1:=(iK ((RT.int .i64).sl) (RT.pair ((RT.int .i64).sl) (RT.pair (RT.str.sl) (((RT.po).sl).sl)))).trans (np _ _)
theorem pa2:Part RT.pa (RT.str.sl) (fun p=>p.2.2.1) 2:=((iK ((RT.int .i64).sl) (RT.pair ((RT.int .i64).sl) (RT.pair (RT.str.sl) (((RT.po).sl).sl)))).trans (iK ((RT.int .i64).sl) (RT.pair (RT.str.sl) (((RT.po).sl).sl)))).trans (np _ _)
theorem pa3:Part RT.pa (((RT.po).sl).sl) (fun p=>p.2.2.2) 3:=((iK ((RT.int .i64).sl) (RT.pair ((RT.int .i64).sl) (RT.pair (RT.str.sl) (((RT.po).sl).sl)))).trans (iK ((RT.int .i64).sl) (RT.pair (RT.str.sl) (((RT.po).sl).sl)))).trans (iK _ _)
theorem agD {M:aD} {w:World} {x:Se} {a b c:Value} (h0:((RT.int .i64).sl).V M w x.1 a) (h1:((RT.int .i64).sl).V M w x.2.1 b) (h2:cO RT.di M w c x.2.2):RT.se.V M w x (.agg [a,b,c].toArray):=
 ⟨[a,b,c],⟨[a],[b,c],rfl,mI h0 rfl rfl,[b],[c],rfl,mI h1 rfl rfl,mI (lX.2 h2) rfl rfl⟩,rfl⟩
theorem VV {M:aD} {w:World} {x:Pa} {a b c d:Value} (h0:((RT.int .i64).sl).V M w x.1 a) (h1:((RT.int .i64).sl).V M w x.2.1 b) (h2:(RT.str.sl).V M w x.2.2.1 c) (h3:(((RT.po).sl).sl).V M w x.2.2.2 d):RT.pa.V M w x (.agg [a,b,c,d].toArray):=
 ⟨[a,b,c,d],⟨[a],[b,c,d],rfl,mI h0 rfl rfl,[b],[c,d],rfl,mI h1 rfl rfl,[c],[d],rfl,mI h2 rfl rfl,mI h3 rfl rfl⟩,rfl⟩
theorem Nu {M:aD} {w:World} {x:Pa} {v:Value} (h:RT.pa.V M w x v):∃a b c d,v= .agg [a,b,c,d].toArray∧((RT.int .i64).sl).V M w x.1 a∧((RT.int .i64).sl).V M w x.2.1 b∧(RT.str.sl).V M w x.2.2.1 c∧(((RT.po).sl).sl).V M w x.2.2.2 d:=by
 obtain⟨vs,⟨va,vb,rfl,h1,vc,vd,rfl,h2,ve,vf,rfl,h3,h4⟩,rfl⟩:=h;have e1:=(RT.sl (RT.int .i64)).len h1;have e2:=(RT.sl (RT.int .i64)).len h2;have e3:=(RT.sl RT.str).len h3;have e4:=(RT.sl (RT.sl RT.po)).len h4
 match va,vc,ve,vf,e1,e2,e3,e4,h1,h2,h3,h4 with
 |[a],[b],[c],[d],_,_,_,_,h1,h2,h3,h4=>exact⟨a,b,c,d,rfl,⟨_,h1,rfl⟩,⟨_,h2,rfl⟩,⟨_,h3,rfl⟩,⟨_,h4,rfl⟩⟩
theorem wJ {α:Type} {A:RT α} (hg:A.agg=true) {M:aD} {w:World} {x:α} {vs:List Value} (h:A.V M w x (.agg vs.toArray)):∀u∈vs,u.oneCell'=true:=by
 obtain⟨us,h1,h2⟩:=h
 have:vs=us:=by
  unfold RT.val at h2;rw[if_pos hg]at h2;injection h2 with h2
  simpa using congrArg Array.toList h2
 subst this;exact A.one h1
theorem eg.free {α:Type} {A:RT α} (hA:∀M w M' w' x vs,A.R M w x vs→A.R M' w' x vs) {M M':aD} {w w':World}:∀{xs:List α} {C:List Value},eg A M w xs C→eg A M' w' xs C
 |[],_,h=>h
 |x::xs,C,h=>by
  obtain⟨vs,r,h1,h2,h3⟩:=h;exact⟨vs,r,h1,hA _ _ _ _ _ _ h2,eg.free hA h3⟩
theorem Own.tell {α:Type} {A:RT α} {hn:0<A.n} (hA:∀M w M' w' x vs,A.R M w x vs→A.R M' w' x vs) {e:TypeId} {M M0:aD} {w:World} {base:Nat} {v:Value} {xs:List α} (h:Own A e M w base v xs) (hb:∀b,v.ownBlock=some b→¬M0 b) (hlen:xs.length≤140737488355328):(A.sl hn).V M0 w xs v:=by
 obtain⟨⟨C,hr,ha⟩,hm⟩:=h;have h':Own A e (fun b=>v.ownBlock=some b∨M0 b) w base v xs:=⟨⟨C,hr,eg.free hA ha⟩,fun b hb=> .inl hb⟩;exact h'.sl (fun b _ hn=>⟨fun h=>hn (.inr h),rfl⟩) hb hlen
end Go.K
namespace Go.K
open Go.Maps (Keyed)
section
variable {P:Program} {r:Option Nat} {n:Nat} {L:Sl} {ds:List Deferred} {w:World} {K:Kt} {ops:Array Oper} {rest:List Oper} {d:Nat} {x y z:Operand} {ty:TypeId} {pos:String} {af:Array Edge}
variable {kt:TypeId} {M:aD} {b clock:Nat} {es:List MapEntry}
theorem fI.VW (h:fI P kt w b es clock) {i s:Nat} {key v0 val:Value} (hi:es[i]? =some ⟨key,v0,s⟩) {w':World} (hw:w'.heap[b]? =some (.map (es.set i ⟨key,val,s⟩).toArray clock)):
  fI P kt w' b (es.set i ⟨key,val,s⟩) clock∧(es.set i ⟨key,val,s⟩).map (·.key)=es.map (·.key)∧∀zv jy v',eB zv (es.set i ⟨key,val,s⟩) jy v'↔(jy=key∧v'=val)∨(jy≠key∧eB zv es jy v'):=by
 have ou:=(an.1 hi).1;have kE:(⟨key,v0,s⟩:MapEntry)∈es:=az hi;obtain⟨qa,wC⟩:∃qa,qa=es.set i ⟨key,val,s⟩:=⟨_,rfl⟩;rw[←wC]at hw ⊢
 have jf:∀j e',qa[j]? =some e'→(j=i∧e'=⟨key,val,s⟩)∨(j≠i∧es[j]? =some e'):=fun j e' hj=>by
  rw[wC,dp]at hj
  split at hj
  ·rename_i jq
   left;exact⟨jq.symm,by simpa[ou]using hj.symm⟩
  ·rename_i jq
   exact .inr ⟨fun e=>jq e.symm,hj⟩
 have qb:qa.map (·.key)=es.map (·.key):=by
  rw[wC,List.map_set];apply fq;intro j;rw[dp]
  split
  ·rename_i jq
   subst jq;have e:=(an.1 hi).2;simp[ou,e]
  ·rfl
 have MZ:qa.map (·.born)=es.map (·.born):=by
  rw[wC,List.map_set];apply fq;intro j;rw[dp]
  split
  ·rename_i jq
   subst jq;have e:=(an.1 hi).2;simp[ou,e]
  ·rfl
 have eV:∀e'∈qa,(e'=⟨key,val,s⟩)∨(e'∈es∧e'.key≠key):=fun e' qN=>by
  obtain⟨j,hj⟩:=bz.1 qN;rcases jf j e' hj with⟨_,e⟩|⟨eN,uq⟩
  ·exact .inl e
  ·refine .inr ⟨az uq,fun e=>eN ?_⟩;rcases eR j i with h1|h1|h1
   ·exact absurd e (iH h.keys uq hi h1)
   ·exact h1
   ·exact absurd e.symm (iH h.keys hi uq h1)
 have Na:(⟨key,val,s⟩:MapEntry)∈qa:=az (i:=i) (by rw[wC,dp];simp[ou])
 have hold:∀e'∈es,e'.key≠key→e'∈qa:=fun e' qN eN=>by
  obtain⟨j,hj⟩:=bz.1 qN;refine az (i:=j) ?_;rw[wC,dp,if_neg]
  ·exact hj
  ·rintro rfl;rw[hi]at hj;cases hj;exact eN rfl
 refine⟨⟨hw,?_,fun e' qN=>?_,?_,fun e' qN=>?_⟩,qb,fun zv jy v'=>?_⟩
 ·have:=cx.2 h.born;rw[←MZ]at this;exact cx.1 this
 ·rcases eV e' qN with e|⟨h1,_⟩
  ·rw[e];exact(h.lt _ kE:s<clock)
  ·exact h.lt _ h1
 ·have:=cx.2 h.keys;rw[←qb]at this;exact cx.1 this
 ·rcases eV e' qN with e|⟨h1,_⟩
  ·rw[e];exact(h.ok _ kE:∃l,keyOf P kt key=some l)
  ·exact h.ok _ h1
 ·constructor
  ·rintro(⟨e',qN,hk,hv⟩|⟨h1,h2⟩)
   ·rcases eV e' qN with e|⟨h3,h4⟩
    ·subst e;exact .inl ⟨hk.symm,hv⟩
    ·exact .inr ⟨by rw[←hk];exact h4,.inl ⟨e',h3,hk,hv⟩⟩
   ·have eN:jy≠key:=fun e=>h1 _ Na e.symm
    exact .inr ⟨eN,.inr ⟨fun e' qN=>fun e=>by
     by_cases h5:e'.key=key
     ·exact eN (e.symm.trans h5)
     ·exact h1 e' (hold e' qN h5) e,h2⟩⟩
  ·rintro(⟨rfl,rfl⟩|⟨eN,⟨e',qN,hk,hv⟩|⟨h1,h2⟩⟩)
   ·exact .inl ⟨_,Na,rfl,rfl⟩
   ·exact .inl ⟨e',hold e' qN (by rw[hk];exact eN),hk,hv⟩
   ·exact .inr ⟨fun e' qN=>by
     rcases eV e' qN with e|⟨h3,_⟩
     ·rw[e];exact fun e=>eN e.symm
     ·exact h1 e' h3,h2⟩
theorem eB.put {key val:Value} {s:Nat} (hn:∀e∈es,e.key≠key) (zv jy v':Value):eB zv (es++[⟨key,val,s⟩]) jy v'↔(jy=key∧v'=val)∨(jy≠key∧eB zv es jy v'):=by
 constructor
 ·rintro(⟨e,he,hk,hv⟩|⟨h1,h2⟩)
  ·rcases cr.1 he with he|he
   ·exact .inr ⟨by rw[←hk];exact hn e he,.inl ⟨e,he,hk,hv⟩⟩
   ·obtain rfl:=bS.1 he;exact .inl ⟨hk.symm,hv⟩
  ·exact .inr ⟨fun e=>h1 ⟨key,val,s⟩ (by simp) e.symm,.inr ⟨fun e he=>h1 e (gC _ he),h2⟩⟩
 ·rintro(⟨rfl,rfl⟩|⟨eN,⟨e,he,hk,hv⟩|⟨h1,h2⟩⟩)
  ·exact .inl ⟨⟨_,_,s⟩,by simp,rfl,rfl⟩
  ·exact .inl ⟨e,gC _ he,hk,hv⟩
  ·refine .inr ⟨fun e he=>?_,h2⟩;rcases cr.1 he with he|he
   ·exact h1 e he
   ·obtain rfl:=bS.1 he;exact fun e=>eN e.symm
theorem Rg.QZ {t e:TypeId} {key val:Value} {kl:Lit} (ht:P.underlying t=some (.map kt e)) (Kk:Keyed P kt) (hx:ev L x=some (.map (some b))) (hy:ev L y=some key) (hz:ev L z=some val) (lQ:keyOf P kt key=some kl) (h:fI P kt w b es clock) (hm:M b)
  (k:∀w' qa Ha,fI P kt w' b qa Ha→((qa.map (·.key)=es.map (·.key)∧∃e∈es,e.key=key)∨(qa.map (·.key)=es.map (·.key)++[key]∧∀e∈es,e.key≠key))→(∀zv jy v',eB zv qa jy v'↔(jy=key∧v'=val)∨(jy≠key∧eB zv es jy v'))→Step M w M w' (fun k=>k=b)→Rg P r n ops rest L ds w' K):
  Rg P r n ops ({dst:=none,op:= .mapUpdate t x y z,type:=ty,pos,after:=af,guard:=none}::rest) L ds w K:=by
 have dY:=ak h.at_;rcases Kk.find w lQ es h.ok with⟨h1,h2⟩|⟨j,e0,h1,h2,h3⟩
 ·have hw:({w with heap:=w.heap.setIfInBounds b (.map (es.toArray.push ⟨key,val,clock⟩) (clock+1))}:World).heap[b]? =some (.map (es++([⟨key,val,clock⟩]:List MapEntry)).toArray (clock+1)):=by
   simp[dG,dY]
  refine .Sj (fun _ h=>by cases h) rfl rfl _ (fun ρ hρ=>?_) (k _ _ _ (h.push lQ h2 hw) (Or.inr ⟨by simp,h2⟩) (eB.put h2) (jw M hm));simp only[execOp,hρ x _ hx,hρ y _ hy,hρ z _ hz,Instr.mapUpdate,cq,run_underlying ht,cD,dT h.at_,Kk.check w false lQ,h1,run_setObj_map h.at_];simp
 ·have he:e0∈es:=az h2;obtain⟨k0,v0,s0⟩:=e0;simp only at h3;subst h3;have hj:es.toArray[j]? =some ⟨k0,v0,s0⟩:=by simpa using h2
  have MY:es.toArray.modify j (fun e=>{e with key:=k0,val:=val})=(es.set j ⟨k0,val,s0⟩).toArray:=by
   apply Array.ext_getElem?;intro i;rw[jS];simp only[eI,dp]
   split
   ·rename_i Tf
    subst Tf;have:=(an.1 h2).1;rw[h2];simp[this]
   ·rfl
  have hw:({w with heap:=w.heap.setIfInBounds b (.map (es.set j ⟨k0,val,s0⟩).toArray clock)}:World).heap[b]? =some (.map (es.set j ⟨k0,val,s0⟩).toArray clock):=by simp[dG,dY]
  obtain⟨hW,uk,vK⟩:=h.VW h2 hw
  have kM:(Instr.keyThatStays ((Option.map (fun(e:MapEntry)=>e.key) es.toArray[j]?).getD k0) k0).run P w= .ok k0 w:=by
   rw[hj];simp only[cY,Option.getD_some];exact Kk.stays w lQ
  refine .Sj (fun _ h=>by cases h) rfl rfl _ (fun ρ hρ=>?_) (k _ _ clock hW (Or.inl ⟨uk,_,he,rfl⟩) vK (jw M hm));simp only[execOp,hρ x _ hx,hρ y _ hy,hρ z _ hz,Instr.mapUpdate,cq,run_underlying ht,cD,dT h.at_,Kk.check w false lQ,h1,kM,MY,run_setObj_map h.at_];simp
theorem EN {t e:TypeId} {zv key:Value} {size bytes:Nat} {kl:Lit} (ht:P.underlying t=some (.map kt e)) (Kk:Keyed P kt) (hi:TI P e zv size bytes) (lQ:keyOf P kt key=some kl) (h:fI P kt w b es clock):
  ∃v,eB zv es key v∧∀(w:World) (ρ:Operand→Value) (dst:Option Tmp) (gd:Option (Nat×Bool)),ρ x= .map (some b)→ρ y=key→fI P kt w b es clock→(execOp ρ {dst,op:= .lookup t x y false,type:=ty,pos,after:=af,guard:=gd}).run P w= .ok (.value v) w:=by
 rcases Kk.find w lQ es h.ok with⟨h1,h2⟩|⟨j,e0,h1,h2,h3⟩
 ·refine⟨zv,Or.inr ⟨h2,rfl⟩,fun w ρ dst gd hx hy h=>?_⟩;obtain⟨inf,i1,i2,_,_⟩:=hi.get;have hz:(zeroValue e).run P w= .ok zv w:=by simp[zeroValue,typeInfo,i1,i2]
  rcases Kk.find w lQ es h.ok with⟨h1,_⟩|⟨j,e0,_,g2,g3⟩
  ·simp only[execOp,hx,hy,Instr.lookup,cq,run_underlying ht,cD,dT h.at_,Sem.run_pure,Kk.check w _ lQ,h1,hz];simp
  ·exact absurd g3 (h2 e0 (az g2))
 ·refine⟨e0.val,Or.inl ⟨e0,az h2,h3,rfl⟩,fun w ρ dst gd hx hy h=>?_⟩;rcases Kk.find w lQ es h.ok with⟨_,g2⟩|⟨j',e1,g1,g2,g3⟩
  ·exact absurd h3 (g2 e0 (az h2))
  ·have:e1=e0:=h.II (az g2) (az h2) (g3.trans h3.symm);subst this;simp only[execOp,hx,hy,Instr.lookup,cq,run_underlying ht,cD,dT h.at_,Sem.run_pure,Kk.check w _ lQ,g1];simp
theorem bZ.uG {N:aD} {t e:TypeId} {zv key:Value} {size bytes:Nat} {kl:Lit} {dst:Option Tmp} {gd:Option (Nat×Bool)} (ht:P.underlying t=some (.map kt e)) (Kk:Keyed P kt) (hi:TI P e zv size bytes) (hx:ev L x=some (.map (some b))) (hy:ev L y=some key) (lQ:keyOf P kt key=some kl) (h:fI P kt w b es clock) (hn: ¬N b):
  bZ P N w L {dst,op:= .lookup t x y false,type:=ty,pos,after:=af,guard:=gd}:=fun ρ hρ v w' hk hr=>by
 obtain⟨v0,_,gY⟩:=EN (x:=x) (y:=y) (ty:=ty) (pos:=pos) (af:=af) ht Kk hi lQ h;have h':fI P kt w' b es clock:=⟨(hk.2 b (ak h.at_) hn).trans h.at_,h.born,h.lt,h.keys,h.ok⟩;rw[gY w ρ dst gd (hρ x _ hx) (hρ y _ hy) h]at hr;rw[gY w' ρ dst gd (hρ x _ hx) (hρ y _ hy) h'];injection hr with h1 h2
 rw[h1]
end
end Go.K
namespace Go.Proofs
open Go.Shelf
def Tryz.BJ:Go.Shelf.Ren:=⟨fun|7=>54|10=>101|n=>n,fun|23=>89|26=>3|3=>97|28=>115|0=>0|27=>114|33=>104|4=>4|n=>n,fun|n=>n⟩
theorem Tryz.aah:Go.Proofs.SlLaysZI.n7 Tryz.prog Tryz.BJ:={
 mixed:=by kernel_rfl
 f7:=⟨Tryz.f54.name,by decide,Tryz.func54.trans (congrArg some (by kernel_rfl))⟩
 f10:=⟨Tryz.f101.name,by decide,Tryz.func101.trans (congrArg some (by kernel_rfl))⟩
 t0:=fK
 a0:=lS
 z0:=kj
 v0:=gM
 t4:=iX
 a4:=sk
 z4:=oB
 v4:=jG
 t23:=Tryz.underlying89
 a23:=Tryz.isAgg89
 z23:=Tryz.sizeOf89
 v23:=Tryz.zeroValue89
 t26:=ax
 a26:=lT
 z26:=km
 v26:=gN
 t27:=Tryz.underlying114
 a27:=Tryz.isAgg114
 z27:=Tryz.sizeOf114
 v27:=Tryz.zeroValue114
 t28:=Tryz.underlying115
 a28:=Tryz.isAgg115
 z28:=Tryz.sizeOf115
 v28:=Tryz.zeroValue115
 t33:=Tryz.underlying104
 a33:=Tryz.isAgg104
 z33:=Tryz.sizeOf104
 v33:=Tryz.zeroValue104}
def Tryz.xv:Go.Shelf.Ren:=⟨fun|6=>53|8=>99|9=>100|11=>152|13=>115|12=>153|23=>172|24=>173|14=>204|15=>205|16=>206|17=>207|18=>208|19=>209|20=>210|21=>211|22=>212|25=>259|26=>218|27=>219|28=>260|29=>261|30=>116|31=>286|n=>n,fun|26=>3|28=>115|24=>37|0=>0|3=>3|37=>189|48=>257|50=>190|4=>4|40=>251|39=>250|45=>202|5=>5|9=>9|51=>296|55=>300|57=>327|58=>328|33=>104|n=>n,fun|n=>n⟩
theorem Tryz.Q0:Go.Proofs.SlLaysZI.n6 Tryz.prog Tryz.xv:={
 mixed:=by kernel_rfl
 f6:=⟨Tryz.f53.name,by decide,Tryz.func53.trans (congrArg some (by kernel_rfl))⟩
 f8:=⟨Tryz.f99.name,by decide,Tryz.func99.trans (congrArg some (by kernel_rfl))⟩
 f11:=⟨Tryz.f152.name,by decide,Tryz.func152.trans (congrArg some (by kernel_rfl))⟩
 t0:=fK
 a0:=lS
 z0:=kj
 v0:=gM
 t24:=ao
 a24:=Tryz.isAgg37
 z24:=Tryz.sizeOf37
 v24:=Tryz.zeroValue37
 t26:=ax
 a26:=lT
 z26:=km
 v26:=gN
 t28:=Tryz.underlying115
 a28:=Tryz.isAgg115
 z28:=Tryz.sizeOf115
 v28:=Tryz.zeroValue115
 i26:=by kernel_rfl}
def Tryz.Ke:Go.Shelf.Ren:=⟨fun|5=>100|8=>115|7=>153|19=>172|20=>173|10=>204|11=>205|12=>206|13=>207|14=>208|15=>209|16=>210|17=>211|18=>212|30=>259|31=>218|32=>219|33=>260|34=>261|35=>116|40=>286|n=>n,fun|23=>37|25=>3|3=>3|32=>189|22=>37|0=>0|44=>257|46=>190|4=>4|36=>251|35=>250|41=>202|5=>5|9=>9|53=>296|57=>300|63=>327|64=>328|n=>n,fun|n=>n⟩
theorem Tryz.Tl:Go.Proofs.SlLaysM.n5 Tryz.prog Tryz.Ke:={
 mixed:=by kernel_rfl
 f5:=⟨Tryz.f100.name,by decide,Tryz.func100.trans (congrArg some (by kernel_rfl))⟩
 f7:=⟨Tryz.f153.name,by decide,Tryz.func153.trans (congrArg some (by kernel_rfl))⟩
 f8:=Tryz.func115.trans (congrArg some (by kernel_rfl))
 f10:=⟨Tryz.f204.name,by decide,Tryz.func204.trans (congrArg some (by kernel_rfl))⟩
 f11:=⟨Tryz.f205.name,by decide,Tryz.func205.trans (congrArg some (by kernel_rfl))⟩
 f12:=⟨Tryz.f206.name,by decide,Tryz.func206.trans (congrArg some (by kernel_rfl))⟩
 f13:=⟨Tryz.f207.name,by decide,Tryz.func207.trans (congrArg some (by kernel_rfl))⟩
 f14:=⟨Tryz.f208.name,by decide,Tryz.func208.trans (congrArg some (by kernel_rfl))⟩
 f15:=⟨Tryz.f209.name,by decide,Tryz.func209.trans (congrArg some (by kernel_rfl))⟩
 f16:=⟨Tryz.f210.name,by decide,Tryz.func210.trans (congrArg some (by kernel_rfl))⟩
 f17:=⟨Tryz.f211.name,by decide,Tryz.func211.trans (congrArg some (by kernel_rfl))⟩
 f18:=⟨Tryz.f212.name,by decide,Tryz.func212.trans (congrArg some (by kernel_rfl))⟩
 f19:=Tryz.func172.trans (congrArg some (by kernel_rfl))
 f20:=Tryz.func173.trans (congrArg some (by kernel_rfl))
 f30:=⟨Tryz.f259.name,by decide,Tryz.func259.trans (congrArg some (by kernel_rfl))⟩
 f31:=Tryz.func218.trans (congrArg some (by kernel_rfl))
 f32:=Tryz.func219.trans (congrArg some (by kernel_rfl))
 f33:=⟨Tryz.f260.name,by decide,Tryz.func260.trans (congrArg some (by kernel_rfl))⟩
 f34:=⟨Tryz.f261.name,by decide,Tryz.func261.trans (congrArg some (by kernel_rfl))⟩
 f35:=⟨Tryz.f116.name,by decide,Tryz.func116.trans (congrArg some (by kernel_rfl))⟩
 f40:=⟨Tryz.f286.name,by decide,Tryz.func286.trans (congrArg some (by kernel_rfl))⟩
 t0:=fK
 a0:=lS
 z0:=kj
 v0:=gM
 t3:=ax
 a3:=lT
 z3:=km
 v3:=gN
 t4:=iX
 a4:=sk
 z4:=oB
 v4:=jG
 t5:=cC
 a5:=Tryz.isAgg5
 z5:=Tryz.sizeOf5
 v5:=tX
 t9:=aK
 a9:=lU
 z9:=kn
 v9:=gO
 t22:=ao
 a22:=Tryz.isAgg37
 z22:=Tryz.sizeOf37
 v22:=Tryz.zeroValue37
 t23:=ao
 a23:=Tryz.isAgg37
 z23:=Tryz.sizeOf37
 v23:=Tryz.zeroValue37
 t25:=ax
 a25:=lT
 z25:=km
 v25:=gN
 t32:=j4
 a32:=Tryz.isAgg189
 z32:=Tryz.sizeOf189
 v32:=Tryz.zeroValue189
 t35:=Tryz.underlying250
 a35:=Tryz.isAgg250
 z35:=Tryz.sizeOf250
 v35:=Tryz.zeroValue250
 t36:=Tryz.underlying251
 a36:=Tryz.isAgg251
 z36:=Tryz.sizeOf251
 v36:=Tryz.zeroValue251
 t41:=Tryz.underlying202
 a41:=Tryz.isAgg202
 z41:=Tryz.sizeOf202
 v41:=Tryz.zeroValue202
 t44:=Tryz.underlying257
 a44:=Tryz.isAgg257
 z44:=Tryz.sizeOf257
 v44:=Tryz.zeroValue257
 t46:=tg
 a46:=Tryz.isAgg190
 z46:=Tryz.sizeOf190
 v46:=Tryz.zeroValue190
 t53:=Tryz.underlying296
 a53:=Tryz.isAgg296
 z53:=Tryz.sizeOf296
 v53:=Tryz.zeroValue296
 t57:=Tryz.underlying300
 a57:=Tryz.isAgg300
 z57:=Tryz.sizeOf300
 v57:=Tryz.zeroValue300
 t63:=Tryz.underlying327
 a63:=Tryz.isAgg327
 z63:=Tryz.sizeOf327
 v63:=Tryz.zeroValue327
 t64:=Tryz.underlying328
 a64:=Tryz.isAgg328
 z64:=Tryz.sizeOf328
 v64:=Tryz.zeroValue328}
def Tryz.BK:Go.Shelf.Ren:=⟨fun|7=>91|10=>142|n=>n,fun|23=>151|26=>9|3=>80|28=>162|0=>0|27=>161|33=>167|4=>4|n=>n,fun|n=>n⟩
theorem Tryz.IV:Go.Proofs.SlLaysZ.n7 Tryz.prog Tryz.BK:={
 mixed:=by kernel_rfl
 f7:=⟨Tryz.f91.name,by decide,Tryz.func91.trans (congrArg some (by kernel_rfl))⟩
 f10:=⟨Tryz.f142.name,by decide,Tryz.func142.trans (congrArg some (by kernel_rfl))⟩
 t0:=fK
 a0:=lS
 z0:=kj
 v0:=gM
 t4:=iX
 a4:=sk
 z4:=oB
 v4:=jG
 t23:=iQ
 a23:=Tryz.isAgg151
 z23:=Tryz.sizeOf151
 v23:=Tryz.zeroValue151
 t26:=aK
 a26:=lU
 z26:=kn
 v26:=gO
 t27:=Tryz.underlying161
 a27:=Tryz.isAgg161
 z27:=Tryz.sizeOf161
 v27:=Tryz.zeroValue161
 t28:=Tryz.underlying162
 a28:=Tryz.isAgg162
 z28:=Tryz.sizeOf162
 v28:=Tryz.zeroValue162
 t33:=Tryz.underlying167
 a33:=Tryz.isAgg167
 z33:=Tryz.sizeOf167
 v33:=Tryz.zeroValue167}
def Tryz.xw:Go.Shelf.Ren:=⟨fun|6=>90|8=>140|9=>141|11=>191|13=>115|12=>192|23=>172|24=>173|14=>240|15=>241|16=>242|17=>243|18=>244|19=>245|20=>246|21=>247|22=>248|25=>280|26=>218|27=>219|28=>281|29=>282|30=>283|31=>297|n=>n,fun|26=>9|28=>162|24=>57|0=>0|3=>3|37=>189|48=>257|50=>190|4=>4|40=>251|39=>250|45=>202|5=>5|9=>9|51=>296|55=>300|57=>327|58=>328|33=>167|n=>n,fun|n=>n⟩
theorem Tryz.Q1:Go.Proofs.SlLaysZ.n6 Tryz.prog Tryz.xw:={
 mixed:=by kernel_rfl
 f6:=⟨Tryz.f90.name,by decide,Tryz.func90.trans (congrArg some (by kernel_rfl))⟩
 f8:=⟨Tryz.f140.name,by decide,Tryz.func140.trans (congrArg some (by kernel_rfl))⟩
 f11:=⟨Tryz.f191.name,by decide,Tryz.func191.trans (congrArg some (by kernel_rfl))⟩
 t0:=fK
 a0:=lS
 z0:=kj
 v0:=gM
 t24:=aJ
 a24:=Tryz.isAgg57
 z24:=Tryz.sizeOf57
 v24:=Tryz.zeroValue57
 t26:=aK
 a26:=lU
 z26:=kn
 v26:=gO
 t28:=Tryz.underlying162
 a28:=Tryz.isAgg162
 z28:=Tryz.sizeOf162
 v28:=Tryz.zeroValue162
 i26:=by kernel_rfl}
def Tryz.Kf:Go.Shelf.Ren:=⟨fun|6=>141|8=>115|9=>192|19=>172|20=>173|21=>240|22=>241|23=>242|24=>243|25=>244|26=>245|27=>246|28=>247|29=>248|36=>280|31=>218|32=>219|37=>281|38=>282|39=>283|41=>297|n=>n,fun|27=>57|29=>9|3=>3|32=>189|26=>57|0=>0|44=>257|46=>190|4=>4|36=>251|35=>250|41=>202|5=>5|9=>9|53=>296|57=>300|63=>327|64=>328|n=>n,fun|n=>n⟩
theorem Tryz.IW:Go.Proofs.SlLaysM.n6 Tryz.prog Tryz.Kf:={
 mixed:=by kernel_rfl
 f6:=⟨Tryz.f141.name,by decide,Tryz.func141.trans (congrArg some (by kernel_rfl))⟩
 f8:=Tryz.func115.trans (congrArg some (by kernel_rfl))
 f9:=⟨Tryz.f192.name,by decide,Tryz.func192.trans (congrArg some (by kernel_rfl))⟩
 f19:=Tryz.func172.trans (congrArg some (by kernel_rfl))
 f20:=Tryz.func173.trans (congrArg some (by kernel_rfl))
 f21:=⟨Tryz.f240.name,by decide,Tryz.func240.trans (congrArg some (by kernel_rfl))⟩
 f22:=⟨Tryz.f241.name,by decide,Tryz.func241.trans (congrArg some (by kernel_rfl))⟩
 f23:=⟨Tryz.f242.name,by decide,Tryz.func242.trans (congrArg some (by kernel_rfl))⟩
 f24:=⟨Tryz.f243.name,by decide,Tryz.func243.trans (congrArg some (by kernel_rfl))⟩
 f25:=⟨Tryz.f244.name,by decide,Tryz.func244.trans (congrArg some (by kernel_rfl))⟩
 f26:=⟨Tryz.f245.name,by decide,Tryz.func245.trans (congrArg some (by kernel_rfl))⟩
 f27:=⟨Tryz.f246.name,by decide,Tryz.func246.trans (congrArg some (by kernel_rfl))⟩
 f28:=⟨Tryz.f247.name,by decide,Tryz.func247.trans (congrArg some (by kernel_rfl))⟩
 f29:=⟨Tryz.f248.name,by decide,Tryz.func248.trans (congrArg some (by kernel_rfl))⟩
 f31:=Tryz.func218.trans (congrArg some (by kernel_rfl))
 f32:=Tryz.func219.trans (congrArg some (by kernel_rfl))
 f36:=⟨Tryz.f280.name,by decide,Tryz.func280.trans (congrArg some (by kernel_rfl))⟩
 f37:=⟨Tryz.f281.name,by decide,Tryz.func281.trans (congrArg some (by kernel_rfl))⟩
 f38:=⟨Tryz.f282.name,by decide,Tryz.func282.trans (congrArg some (by kernel_rfl))⟩
 f39:=⟨Tryz.f283.name,by decide,Tryz.func283.trans (congrArg some (by kernel_rfl))⟩
 f41:=⟨Tryz.f297.name,by decide,Tryz.func297.trans (congrArg some (by kernel_rfl))⟩
 t0:=fK
 a0:=lS
 z0:=kj
 v0:=gM
 t3:=ax
 a3:=lT
 z3:=km
 v3:=gN
 t4:=iX
 a4:=sk
 z4:=oB
 v4:=jG
 t5:=cC
 a5:=Tryz.isAgg5
 z5:=Tryz.sizeOf5
 v5:=tX
 t9:=aK
 a9:=lU
 z9:=kn
 v9:=gO
 t26:=aJ
 a26:=Tryz.isAgg57
 z26:=Tryz.sizeOf57
 v26:=Tryz.zeroValue57
 t27:=aJ
 a27:=Tryz.isAgg57
 z27:=Tryz.sizeOf57
 v27:=Tryz.zeroValue57
 t29:=aK
 a29:=lU
 z29:=kn
 v29:=gO
 t32:=j4
 a32:=Tryz.isAgg189
 z32:=Tryz.sizeOf189
 v32:=Tryz.zeroValue189
 t35:=Tryz.underlying250
 a35:=Tryz.isAgg250
 z35:=Tryz.sizeOf250
 v35:=Tryz.zeroValue250
 t36:=Tryz.underlying251
 a36:=Tryz.isAgg251
 z36:=Tryz.sizeOf251
 v36:=Tryz.zeroValue251
 t41:=Tryz.underlying202
 a41:=Tryz.isAgg202
 z41:=Tryz.sizeOf202
 v41:=Tryz.zeroValue202
 t44:=Tryz.underlying257
 a44:=Tryz.isAgg257
 z44:=Tryz.sizeOf257
 v44:=Tryz.zeroValue257
 t46:=tg
 a46:=Tryz.isAgg190
 z46:=Tryz.sizeOf190
 v46:=Tryz.zeroValue190
 t53:=Tryz.underlying296
 a53:=Tryz.isAgg296
 z53:=Tryz.sizeOf296
 v53:=Tryz.zeroValue296
 t57:=Tryz.underlying300
 a57:=Tryz.isAgg300
 z57:=Tryz.sizeOf300
 v57:=Tryz.zeroValue300
 t63:=Tryz.underlying327
 a63:=Tryz.isAgg327
 z63:=Tryz.sizeOf327
 v63:=Tryz.zeroValue327
 t64:=Tryz.underlying328
 a64:=Tryz.isAgg328
 z64:=Tryz.sizeOf328
 v64:=Tryz.zeroValue328}
end Go.Proofs
namespace Go.K
open Go.Proofs
set_option maxRecDepth 10000
open Go.RowKit Go.Maps Go.Sort Go.Shelf
theorem VX (m:Nat):AnyZI.SortsIn Tryz.prog Tryz.xv Fence.wide m:=
 ⟨fun fD off cap ss W hH hblk jW=>callsIn_wide.2 (AnyM.slices_Sort_int Tryz.Tl fD off cap ss W hH hblk jW),
  fun p cap W=>callsIn_wide.2 (AnyM.slices_Sort_int_none Tryz.Tl p cap W)⟩
theorem Q2 {R:Value→Option (DU×List MemPlace)} {M:aD} {w:World} {b bb:Nat} {m:List (Lit×DU)} (h:UU Tryz.prog 3 R M w b m) (Nv:w.cell? ⟨bb,0,none⟩=some (.map (some b))) (hl:m.length≤1099511627776):
  Spec Tryz.prog 53 #[.func (.func 101) #[] #[.pointer (some ⟨bb,0,none⟩)]] w (fun v w'=>(∃ss:List Int,ss.Perm (intKeys (DataW.map m))∧w'.ownsRow w.heap.size 3 1 v ss.length ((ss.mergeSort (fun x y=>decide (x≤y))).map encZ)∧(v= .slice none 0 0↔ss=[]))∧Step M w M w' aC):=by
 have VY:SeqGives Fence.wide 2 Tryz.prog 101 #[.pointer (some ⟨bb,0,none⟩)] encZ (fun ss=>ss.Perm (intKeys (DataW.map m))) (Maps.size (DataW.map m)) w:=
  AnyZI.keys_gives (ρ:=Tryz.BJ) {Tryz.aah with} Fence.wide _ trivial rfl (by omega) bb b m.length (DataW.map m) _ (World.block_lt_of_cell? w _ Nv) Nv h.own
 have jW:Maps.size (DataW.map m)=m.length:=rfl;have cS:=AnyZI.sorted_in Tryz.Q0 Fence.wide 5 trivial trivial trivial trivial rfl (by omega) (VX _) (enters_of Tryz.func100 (by kernel_rfl) rfl) 101 #[.pointer (some ⟨bb,0,none⟩)] trivial (enters_of Tryz.func101 (by kernel_rfl) rfl) _ _ (by rw[jW];unfold maxLen;omega) (by rw[jW];omega) _ VY;exact(callsIn_wide (n:=5)).1 (cS.mono fun e w' ⟨v,ss,h1,h2,h3,h4,h5⟩=>⟨v,h1,⟨ss,h2,h3,h4⟩,.y4 h5 M⟩)
theorem VZ (m:Nat):AnyZ.SortsIn Tryz.prog Tryz.xw Fence.wide m:=
 ⟨fun fD off cap ss W hH hblk jW=>callsIn_wide.2 (AnyM.slices_Sort_string Tryz.IW fD off cap ss W hH hblk jW),
  fun p cap W=>callsIn_wide.2 (AnyM.slices_Sort_string_none Tryz.IW p cap W)⟩
theorem Hq (mb:Option Nat) (w:World):Spec Tryz.prog 91 #[.map mb] w (fun v w'=>v= .func (.func 142) #[] #[.pointer (some ⟨w.heap.size,0,none⟩)]∧w'=w.alloc (.cells #[.map mb] 151)):=
 (callsIn_wide (n:=5)).1 ((AnyZ.keys_in Tryz.IV Fence.wide 5 trivial rfl mb w).mono fun e w' ⟨h1,h2⟩=>⟨_,h1,rfl,h2⟩)
theorem CL {R:Value→Option (DU×List MemPlace)} {M:aD} {w:World} {b bb:Nat} {m:List (Lit×DU)} (h:UU Tryz.prog 9 R M w b m) (Nv:w.cell? ⟨bb,0,none⟩=some (.map (some b))) (hl:m.length≤1099511627776):
  Spec Tryz.prog 90 #[.func (.func 142) #[] #[.pointer (some ⟨bb,0,none⟩)]] w (fun v w'=>(∃ss:List (List UInt8),ss.Perm (strKeys (DataW.map m))∧w'.ownsRow w.heap.size 9 1 v ss.length ((ss.mergeSort (fun x y=>decide (x≤y))).map encStr)∧(v= .slice none 0 0↔ss=[]))∧Step M w M w' aC):=by
 have VY:SeqGives Fence.wide 2 Tryz.prog 142 #[.pointer (some ⟨bb,0,none⟩)] encStr (fun ss=>ss.Perm (strKeys (DataW.map m))) (Maps.size (DataW.map m)) w:=
  AnyZ.keys_gives (ρ:=Tryz.BK) {Tryz.IV with} Fence.wide _ trivial rfl (by omega) bb b m.length (DataW.map m) _ (World.block_lt_of_cell? w _ Nv) Nv h.own
 have jW:Maps.size (DataW.map m)=m.length:=rfl;have cS:=AnyZ.sorted_in Tryz.Q1 Fence.wide 5 trivial trivial trivial trivial rfl (by omega) (VZ _) (enters_of Tryz.func141 (by kernel_rfl) rfl) 142 #[.pointer (some ⟨bb,0,none⟩)] trivial (enters_of Tryz.func142 (by kernel_rfl) rfl) _ _ (by rw[jW];unfold maxLen;omega) (by rw[jW];omega) _ VY;exact(callsIn_wide (n:=5)).1 (cS.mono fun e w' ⟨v,ss,h1,h2,h3,h4,h5⟩=>⟨v,h1,⟨ss,h2,h3,h4⟩,.y4 h5 M⟩)
theorem AZ {w w':World} {v:Value} {t:TypeId} (h:w'=w.alloc (.cells #[v] t)):w'.cell? ⟨w.heap.size,0,none⟩=some v:=by
 subst h;exact fG (cj w _) rfl
end Go.K
namespace Go.K
open Go.Proofs
set_option maxRecDepth 10000
theorem Q3 {M:aD} {w0:World} {v:Value} {b:List Fd} (hM:Lt M w0) (hv:(RT.fd.sl).V M w0 b v) (kQ:b.length≤1099511627776):
  Spec Tryz.prog 190 #[v] w0 (fun v' w'=>(RT.fd.sl).V M w' b v'∧Step M w0 M w' aC):=by
 obtain⟨a,cap,lG,hc,hl,hs⟩:=iz.1 hv;refine bg (args:=[_]) (fn:=Tryz.f190) Tryz.func190 rfl (n:=8) Tryz.ntmps190 (aj (ae (ah rfl rfl (ab (aj (aj (ae (ad rfl rfl (aU (v':= .slice a b.length cap) lG (Rg.uu bB rfl rfl rfl (ab ?_)))))))))));refine bM rfl (fun c1=>?_) (fun c1=>?_)
 ·refine aj (ae (ah rfl rfl (ab (aP ?_))))
  have hb:b=[]:=by
   rcases hs with h|⟨_,_,h,_⟩
   ·exact h
   ·rw[c1]at h;cases h
  exact aV rfl rfl ⟨by rw[hb];exact pW,au _ _⟩
 ·refine aT (aj (ae ?_));refine Rg.sl0 bB kO M rfl (fun a0 w1 s1=>?_);refine ad rfl rfl ?_;refine Rg.rz (A:=RT.fd) (hn:=by decide) (M:=M) bB kO rfl rfl rfl rfl hv s1.le (s1.lt hM) (by omega) (fun u2 w2 sw s2=>?_);refine ah rfl rfl (ab (aP ?_));exact aV rfl rfl ⟨sw,s1.aB s2⟩
theorem qS {M:aD} {w0:World} {v:Value} {b:List Int} (hM:Lt M w0) (hv:((RT.int .i64).sl).V M w0 b v) (kQ:b.length≤1099511627776):
  Spec Tryz.prog 51 #[v] w0 (fun v' w'=>((RT.int .i64).sl).V M w' b v'∧Step M w0 M w' aC):=by
 obtain⟨a,cap,lG,hc,hl,hs⟩:=iz.1 hv;refine bg (args:=[_]) (fn:=Tryz.f51) Tryz.func51 rfl (n:=8) Tryz.ntmps51 (aj (ae (ah rfl rfl (ab (aj (aj (ae (ad rfl rfl (aU (v':= .slice a b.length cap) lG (Rg.uu ao rfl rfl rfl (ab ?_)))))))))));refine bM rfl (fun c1=>?_) (fun c1=>?_)
 ·refine aj (ae (ah rfl rfl (ab (aP ?_))))
  have hb:b=[]:=by
   rcases hs with h|⟨_,_,h,_⟩
   ·exact h
   ·rw[c1]at h;cases h
  exact aV rfl rfl ⟨by rw[hb];exact pW,au _ _⟩
 ·refine aT (aj (ae ?_));refine Rg.sl0 ao I3 M rfl (fun a0 w1 s1=>?_);refine ad rfl rfl ?_;refine Rg.rz (A:=(RT.int .i64)) (hn:=by decide) (M:=M) ao I3 rfl rfl rfl rfl hv s1.le (s1.lt hM) (by omega) (fun u2 w2 sw s2=>?_);refine ah rfl rfl (ab (aP ?_));exact aV rfl rfl ⟨sw,s1.aB s2⟩
theorem Nw {M:aD} {w0:World} {v:Value} {b:List (List UInt8)} (hM:Lt M w0) (hv:(RT.str.sl).V M w0 b v) (kQ:b.length≤1099511627776):
  Spec Tryz.prog 199 #[v] w0 (fun v' w'=>(RT.str.sl).V M w' b v'∧Step M w0 M w' aC):=by
 obtain⟨a,cap,lG,hc,hl,hs⟩:=iz.1 hv;refine bg (args:=[_]) (fn:=Tryz.f199) Tryz.func199 rfl (n:=8) Tryz.ntmps199 (aj (ae (ah rfl rfl (ab (aj (aj (ae (ad rfl rfl (aU (v':= .slice a b.length cap) lG (Rg.uu aJ rfl rfl rfl (ab ?_)))))))))));refine bM rfl (fun c1=>?_) (fun c1=>?_)
 ·refine aj (ae (ah rfl rfl (ab (aP ?_))))
  have hb:b=[]:=by
   rcases hs with h|⟨_,_,h,_⟩
   ·exact h
   ·rw[c1]at h;cases h
  exact aV rfl rfl ⟨by rw[hb];exact pW,au _ _⟩
 ·refine aT (aj (ae ?_));refine Rg.sl0 aJ I9 M rfl (fun a0 w1 s1=>?_);refine ad rfl rfl ?_;refine Rg.rz (A:=RT.str) (hn:=by decide) (M:=M) aJ I9 rfl rfl rfl rfl hv s1.le (s1.lt hM) (by omega) (fun u2 w2 sw s2=>?_);refine ah rfl rfl (ab (aP ?_));exact aV rfl rfl ⟨sw,s1.aB s2⟩
theorem Q4 {M:aD} {w0:World} {v:Value} {b:List Li} (hM:Lt M w0) (hv:(((RT.li).ptr).sl).V M w0 b v) (kQ:b.length≤1099511627776):
  Spec Tryz.prog 200 #[v] w0 (fun v' w'=>(((RT.li).ptr).sl).V M w' b v'∧Step M w0 M w' aC):=by
 obtain⟨a,cap,lG,hc,hl,hs⟩:=iz.1 hv;refine bg (args:=[_]) (fn:=Tryz.f200) Tryz.func200 rfl (n:=8) Tryz.ntmps200 (aj (ae (ah rfl rfl (ab (aj (aj (ae (ad rfl rfl (aU (v':= .slice a b.length cap) lG (Rg.uu ei rfl rfl rfl (ab ?_)))))))))));refine bM rfl (fun c1=>?_) (fun c1=>?_)
 ·refine aj (ae (ah rfl rfl (ab (aP ?_))))
  have hb:b=[]:=by
   rcases hs with h|⟨_,_,h,_⟩
   ·exact h
   ·rw[c1]at h;cases h
  exact aV rfl rfl ⟨by rw[hb];exact pW,au _ _⟩
 ·refine aT (aj (ae ?_));refine Rg.sl0 ei AQ M rfl (fun a0 w1 s1=>?_);refine ad rfl rfl ?_;refine Rg.rz (A:=((RT.li).ptr)) (hn:=by decide) (M:=M) ei AQ rfl rfl rfl rfl hv s1.le (s1.lt hM) (by omega) (fun u2 w2 sw s2=>?_);refine ah rfl rfl (ab (aP ?_));exact aV rfl rfl ⟨sw,s1.aB s2⟩
theorem EO {M:aD} {d:Dc} {v0:Value} (w0:World) (hM:Lt M w0) (hv:RT.dc.V M w0 d v0) (hl:d.2.length≤1099511627776):
  Spec Tryz.prog 138 #[v0] w0 (fun v w=>RT.dc.V M w d v∧Step M w0 M w aC):=by
 have jO:=hM;refine bg (args:=[_]) (fn:=Tryz.f138) Tryz.func138 rfl (n:=9) Tryz.ntmps138 ?_;have S:Step M w0 M w0 aC:=(au _ _).cB (fun _ h=>h.elim) (fun _ h=>h.elim);refine aj (ae ?_);refine qs (A:=RT.dc) rfl rfl hM hv rfl (fun u0 w1 dx s0 _=>?_);replace hM:=s0.lt hM;have:=S.size;replace S:=S.aB s0;refine dU M pD rfl (fun pK G6 VB VC gu nY=>?_);obtain⟨fx,mX⟩:∃M',M'=ins M pK:=⟨_,rfl⟩;rw[←mX]at nY;have fk:fx pK:=by rw[mX];exact .inl rfl
 change G6.heap[pK]? =some (.cells #[.int .i64 0,.slice none 0 0] _ _)at gu;replace dx:=dx.le (by decide) nY.le;replace hM:=nY.lt hM;have:=S.size;replace S:=S.aB nY;refine ab (aj ?_);apply T.oG 4 [0,1] 1 aC mixed rfl rfl rfl rfl;intro Gf Mm;have mj:=Mm fx;have:=ak gu;replace fk:=(mj.mem _ this).2 fk;replace gu:=mj.aL gu;replace dx:=dx.le (by decide) mj.le;replace hM:=mj.lt hM;have:=S.size;replace S:=S.aB mj;refine aQ (M:=fx) (A:=RT.dc) (B:=RT.int .i64) bm rfl rfl I3 (by decide) (ZM) rfl rfl (by decide) (by assumption) (by repeat (first|exact aq _ _|refine bc (bF (by assumption)) ?_)) (fun CB nF=>?_);refine ab ⟨rfl,rfl,rfl,?_⟩;refine cd (M:=fx) ax rfl rfl (by assumption) (by repeat (first|exact aq _ _|refine bc (bF (by assumption)) ?_)) (fun SX=>?_);refine ab ⟨rfl,rfl,rfl,?_⟩;refine aQ (M:=fx) (A:=RT.dc) (B:=(RT.fd).sl) bm rfl rfl wo (by decide) (JZ) rfl rfl (by decide) (by assumption) (by repeat (first|exact aq _ _|refine bc (bF (by assumption)) ?_)) (fun Hr oR=>?_);refine ab ⟨rfl,rfl,rfl,?_⟩;refine bU (M:=fx) bB rfl rfl rfl rfl rfl (by assumption) (by repeat (first|exact aq _ _|refine bc (bF (by assumption)) ?_)) (fun agE Tn=>?_);refine ab ⟨rfl,rfl,rfl,?_⟩;refine eD ?_;obtain⟨bb,oo,cs,ee,fr,rfl,lC,_⟩:=nF.float;refine⟨ik ⟨iJ bm rfl I3 (by decide),⟨ey rfl lC (fun h=>h),trivial⟩⟩,?_⟩;have kp:=jl aC Gf;refine aX rfl rfl ae1 (Q3 hM Tn hl) (fun v4 w4 hc=>?_);obtain⟨nv,s4⟩:=hc;have:=ak gu;replace fk:=(s4.mem _ this).2 fk;replace gu:=s4.aL gu;replace dx:=dx.le (by decide) s4.le;replace hM:=s4.lt hM;have:=S.size;replace S:=S.aB s4;refine(fun(kp:eJ _ _ _)=>ab ⟨rfl,rfl,fun _=>kp,?_⟩) (by first|exact kp|exact kp.ry (by assumption)|exact kp.goN (by assumption)|exact kp.go (by assumption) (fun _ _ h=>by first|exact h|exact h.elim))
 refine iM (places:=[(0,1),(1,1)]) bm pD B69 rfl ⟨_,_,rfl,rfl,_,_,rfl,rfl,rfl⟩ (out:=[_,_]) ⟨0,[_],rfl,rfl,by simp[Value.cells],1,[_],rfl,jE nv,by simp[Value.cells],rfl⟩ ?_;refine ab ⟨rfl,rfl,fun h=>absurd rfl h,?_⟩;have hd:RT.dc.V fx w4 d (.agg [.int .i64 d.1,v4].toArray):=fg (gv SX) nv rfl rfl rfl rfl;refine dI (M:=fx) (vs:=[.int .i64 d.1,v4]) pD rfl rfl (wJ rfl hd) rfl rfl gu fk (fun w6 g6 s6=>?_);have:=ak gu;replace fk:=(s6.mem _ this).2 fk;replace dx:=dx.le (by decide) s6.le;replace nv:=nv.le s6.le;replace hd:=hd.le s6.le;replace hM:=s6.lt hM;have:=S.size;replace S:=S.trans s6 (fun k hk h=>by have h:_=_:=h;subst h;first|(exfalso;omega)|(show _≤_;omega)|exact⟨by first|omega|assumption,(S.mem _ hk).1 ((s6.mem _ (ak gu)).1 fk)⟩|exact .inl rfl|exact .inr rfl|exact .inr (.inl rfl)|exact .inr (.inr rfl)|exact .inr (.inr (.inl rfl))|exact rfl);have EP:=g6;clear gu;have gu:=EP;clear EP;refine ab ⟨rfl,rfl,fun h=>absurd rfl h,?_⟩;refine lJ (aP ?_);exact Cn (vs:=[.int .i64 d.1,v4]) rfl rfl bm rfl pD rfl gu ⟨hd.le (Le.close jO S),S.back⟩
theorem Nx {M:aD} {e:En} {v0:Value} (w0:World) (hM:Lt M w0) (hv:RT.en.V M w0 e v0) (hl:e.1.2.length≤1099511627776):
  Spec Tryz.prog 88 #[v0] w0 (fun v w=>RT.en.V M w e v∧Step M w0 M w aC):=by
 have jO:=hM;refine bg (args:=[_]) (fn:=Tryz.f88) Tryz.func88 rfl (n:=9) Tryz.ntmps88 ?_;have S:Step M w0 M w0 aC:=(au _ _).cB (fun _ h=>h.elim) (fun _ h=>h.elim);refine aj (ae ?_);refine qs (A:=RT.en) rfl rfl hM hv rfl (fun u0 w1 dx s0 _=>?_);replace hM:=s0.lt hM;have:=S.size;replace S:=S.aB s0;refine dU M Dx rfl (fun pK G6 VB VC gu nY=>?_);obtain⟨fx,mX⟩:∃M',M'=ins M pK:=⟨_,rfl⟩;rw[←mX]at nY;have fk:fx pK:=by rw[mX];exact .inl rfl
 change G6.heap[pK]? =some (.cells #[.int .i64 0,.slice none 0 0,.int .i64 0] _ _)at gu;replace dx:=dx.le (by decide) nY.le;replace hM:=nY.lt hM;have:=S.size;replace S:=S.aB nY;refine ab (aj ?_);apply T.LK [0,1,3,4,2,5,6] 4 [2,3] 1 aC mixed
 ·simp+decide only[yP,tu,eQ,jr,jm,jn,fe,cY,iu,qt,cond_true,cond_false,Nat.reduceBEq,Nat.reduceAdd,beq_self_eq_true];rfl
 ·rfl
 ·rfl
 ·rfl
 ·rfl
 ·rfl
 ·rfl
 intro Gf Mm;have mj:=Mm fx;have:=ak gu;replace fk:=(mj.mem _ this).2 fk;replace gu:=mj.aL gu;replace dx:=dx.le (by decide) mj.le;replace hM:=mj.lt hM;have:=S.size;replace S:=S.aB mj;refine aQ (M:=fx) (A:=RT.en) (B:=RT.dc) dV rfl rfl pD (by decide) ZN rfl rfl (by decide) dx (aq _ _) (fun CB nF=>?_);refine ab ⟨rfl,rfl,rfl,?_⟩;refine cT (M:=fx) (A:=RT.dc) bm rfl pD (by decide) rfl rfl rfl nF (aq _ _) (fun AU nG=>?_);refine ab ⟨rfl,rfl,rfl,?_⟩;refine aQ (M:=fx) (A:=RT.en) (B:=RT.int .i64) dV rfl rfl I3 (by decide) en1 rfl rfl (by decide) dx (aq _ _) (fun Hr oR=>?_);refine ab ⟨rfl,rfl,rfl,?_⟩;refine cd (M:=fx) ax rfl rfl (by assumption) (by repeat (first|exact aq _ _|refine bc (bF (by assumption)) ?_)) (fun Ny=>?_);refine aU (v':= .int .i64 (e.2)) rfl ?_;replace Ny: -9223372036854775808≤(e.2:Int)∧e.2≤9223372036854775807:=Ny;refine ab ⟨rfl,rfl,rfl,?_⟩;refine eD ?_;obtain⟨bb,oo,cs,ee,fr,rfl,lC,_⟩:=oR.float;refine⟨ik ⟨iJ dV rfl I3 (by decide),⟨ey rfl lC (fun h=>h),trivial⟩⟩,?_⟩;have kp:=jl aC Gf;refine aX rfl rfl aeT (EO _ hM nG hl) (fun v4 w4 hc=>?_);obtain⟨nv,s4⟩:=hc;obtain⟨uf,rfl⟩:=MA nv;have:=ak gu;replace fk:=(s4.mem _ this).2 fk;replace gu:=s4.aL gu;replace dx:=dx.le (by decide) s4.le;replace hM:=s4.lt hM;have:=S.size;replace S:=S.aB s4;refine(fun(kp:eJ _ _ _)=>ab ⟨rfl,rfl,fun _=>kp,?_⟩) (by first|exact kp|exact kp.ry (by assumption)|exact kp.goN (by assumption)|exact kp.go (by assumption) (fun _ _ h=>by first|exact h|exact h.elim));refine iM (places:=[(0,2),(2,1)]) dV Dx B71 rfl ⟨_,_,rfl,rfl,_,_,rfl,rfl,rfl⟩ (out:=[_,_,_]) ⟨0,[_,_],rfl,rfl,by simp[Value.cells],2,[_],rfl,rfl,by simp[Value.cells],rfl⟩ ?_
 refine ab ⟨rfl,rfl,fun h=>absurd rfl h,?_⟩;have hd:RT.en.V fx w4 e (.agg [.int .i64 e.1.1,uf,.int .i64 e.2].toArray):=SL (p:=e.1) nv Ny;refine dI (M:=fx) (vs:=[.int .i64 e.1.1,uf,.int .i64 e.2]) Dx rfl rfl (wJ rfl hd) rfl rfl gu fk (fun w6 g6 s6=>?_);have:=ak gu;replace fk:=(s6.mem _ this).2 fk;replace dx:=dx.le (by decide) s6.le;replace nv:=nv.le s6.le;replace hd:=hd.le s6.le;replace hM:=s6.lt hM;have:=S.size;replace S:=S.trans s6 (fun k hk h=>by have h:_=_:=h;subst h;first|(exfalso;omega)|(show _≤_;omega)|exact⟨by first|omega|assumption,(S.mem _ hk).1 ((s6.mem _ (ak gu)).1 fk)⟩|exact .inl rfl|exact .inr rfl|exact .inr (.inl rfl)|exact .inr (.inr rfl)|exact .inr (.inr (.inl rfl))|exact rfl);have EP:=g6;clear gu;have gu:=EP;clear EP;refine ab ⟨rfl,rfl,fun h=>absurd rfl h,?_⟩;refine lJ (aP ?_);exact Cn (vs:=[.int .i64 e.1.1,uf,.int .i64 e.2]) rfl rfl dV rfl Dx rfl gu ⟨hd.le (Le.close jO S),S.back⟩
end Go.K
namespace Go.K
open Go.Proofs
namespace TKBldB
theorem aai:TI Tryz.prog 217 (.map none) 1 8:=by unfold TI;kernel_rfl
theorem agF:Enters Tryz.prog 133:=enters Tryz.func133 rfl (by decide)
theorem agG:Enters Tryz.prog 134:=enters Tryz.func134 rfl (by decide)
theorem agH:Enters Tryz.prog 135:=enters Tryz.func135 rfl (by decide)
end TKBldB
open TKBldB
set_option maxRecDepth 10000
theorem IJ.aO {bt mb B:Nat} {ts:List (Fd×Nat)} {M M':aD} {w w':World} (h:IJ bt mb B ts M w) (s:Step M w M' w' aC):IJ bt mb B ts M' w':=by
 obtain⟨gb,eo,fm,hB,IQ,es,clock,hW,hI⟩:=h;exact⟨s.aL gb,(s.mem _ (ak gb)).2 eo,(s.mem _ (ak hW.at_)).2 fm,hB,IQ,es,clock,hW.aO s,hI.aO s⟩
theorem Nz {bt mb B:Nat}:VJ Tryz.prog 133 [.pointer (some ⟨bt,0,none⟩)] B (IJ bt mb B):=
 ⟨agF,fun ts M w M' w' h s=>h.aO s,fun ts M w t i hJ hM h1 h2 hi h4=>Ka w hM h1 h2 hi h4 hJ⟩
theorem NA (M:aD) (w:World) (B:Nat):J9 M w B [] [] where
 o t v hv:=by
  rcases hv with⟨e,he,_⟩|⟨_,rfl⟩
  ·cases he
  ·exact dz _ _ _ _ _
 a t t' v v' _ hv _:=by
  rcases hv with⟨e,he,_⟩|⟨_,rfl⟩
  ·cases he
  ·exact(ix.nil v').symm
 k:=rfl
theorem ER:∀(ts:List (Fd×Nat)) (l:List Fd),(ts.foldl (fun l p=>if p.1∈l then l else l++[p.1]) l).length≤l.length+ts.length
 |[],l=>by simp
 |p::ts,l=>by
  rw[List.foldl_cons,cI];refine ez (ER ts _) ?_
  split
  ·omega
  ·rw[a8];simp;omega
theorem Q5 (M:aD) (w:World) (M':aD) (w':World) (x:Fd) (vs:List Value) (h:RT.fd.R M w x vs):RT.fd.R M' w' x vs:=h
theorem ES {M:aD} {d:Dc} {v0:Value} (w0:World) (hM:Lt M w0) (hv:RT.dc.V M w0 d v0) (hF:lf d) (hl:∀f∈d.2,f.1.length≤900000∧f.2.length≤900000):
  Spec Tryz.prog 87 #[v0] w0 (fun v w=>∃a b,v= .tuple #[a,b]∧(RT.fd.sl).V M w (dj (cM d.2)) a∧(((RT.int .i64).sl).sl).V M w ((dj (cM d.2)).map (posOf (cM d.2))) b∧Step M w0 M w aC):=by
 have jO:=hM;have To:=hF.many;refine bg (args:=[_]) (fn:=Tryz.f87) Tryz.func87 rfl (n:=31) Tryz.ntmps87 ?_;have S:Step M w0 M w0 aC:=(au _ _).cB (fun _ h=>h.elim) (fun _ h=>h.elim);refine aj (ae ?_);refine qs (A:=RT.dc) rfl rfl hM hv rfl (fun u0 w1 dx s0 _=>?_);replace hM:=s0.lt hM;have:=S.size;replace S:=S.aB s0;refine ah rfl rfl (ah rfl rfl (ab (aj (ae ?_))));refine Rg.Ez M mv rfl (fun mb w1m p1 q1 gW s1=>?_);obtain⟨V0,NC⟩:∃M',M'=ins M mb:=⟨_,rfl⟩;rw[←NC]at s1;have CM:V0 mb:=by rw[NC];exact .inl rfl
 replace dx:=dx.le (by decide) s1.le;replace hM:=s1.lt hM;have:=S.size;replace S:=S.aB s1;refine dU V0 aai rfl (fun Kg VL aqO aqP AW x5=>?_);obtain⟨ND,NF⟩:∃M',M'=ins V0 Kg:=⟨_,rfl⟩;rw[←NF]at x5;have zJ:ND Kg:=by rw[NF];exact .inl rfl
 change VL.heap[Kg]? =some (.cells #[.map none] _ _)at AW;replace dx:=dx.le (by decide) x5.le;replace CM:=(x5.mem _ (ak gW.at_)).2 CM;replace gW:=gW.aO x5;replace hM:=x5.lt hM;have:=S.size;replace S:=S.aB x5;refine cw (M:=ND) aai rfl rfl AW rfl (rfl) zJ (fun QQ iU qi=>?_)
 try simp only[List.setIfInBounds_toArray,List.set_cons_zero,List.set_cons_succ]at iU
 have:=ak AW;replace zJ:=(qi.mem _ this).2 zJ;replace dx:=dx.le (by decide) qi.le;replace CM:=(qi.mem _ (ak gW.at_)).2 CM;replace gW:=gW.step qi (by show¬(_=_);omega);replace hM:=qi.lt hM;have:=S.size;replace S:=S.trans qi (fun k hk h=>by have h:_=_:=h;subst h;first|(exfalso;omega)|(show _≤_;omega)|exact⟨by first|omega|assumption,(S.mem _ hk).1 ((qi.mem _ (ak AW)).1 zJ)⟩|exact .inl rfl|exact .inr rfl|exact .inr (.inl rfl)|exact .inr (.inr rfl)|exact .inr (.inr (.inl rfl))|exact rfl);have Tp:=iU;clear AW;have AW:=Tp;clear Tp;refine ab (aj (ae ?_));refine cT (M:=ND) (A:=RT.dc) bm rfl pD (by decide) rfl rfl rfl (by assumption) (by repeat (first|exact aq _ _|refine bc (bF (by assumption)) ?_)) (fun aqQ aaj=>?_);refine kr (xs:=[]) (ys:=[.tmp 4]) rfl rfl rfl ?_;refine aX rfl rfl Y8 (BB (cap:=[.pointer (some ⟨Kg,0,none⟩)]) (B:=w0.heap.size) _ hM aaj hl hF.few (Nz (mb:=mb)) ⟨AW,zJ,CM,by omega,by omega,[],0,gW,NA _ _ _⟩) (fun r2 w2 hc=>?_);obtain⟨M2,Gg,⟨gb,_,_,_,_,es,clock,hW,hI⟩,s2⟩:=hc;replace S:=S.mA s2 (aR _);have qj:∀t v,eB k7 es (kv t) v→(((RT.int .i64).sl)).V M w2 (posOf (cM d.2) t) v:=fun t v h=>(hI.o t v h).close jO S (by have:=wH (cM d.2) t;omega)
 replace S:=S.back;replace hM:=S.lt jO
 have aak:∀e∈es,∃t∈seen (cM d.2),e.key=kv t:=fun e he=>by
  have:e.key∈(seen (cM d.2)).map kv:=by rw[←hI.k];exact ib he
  obtain⟨t,h1,h2⟩:=bV.1 this;exact⟨t,h1,h2.symm⟩
 have Cc:∀t∈seen (cM d.2),PR t∧t.1.length≤12∧t.2.length≤30:=fun t ht=>by
  obtain⟨p,hp,rfl⟩:=bV.1 (uO.1 ht);exact⟨hF.QX p hp,hF.small p hp⟩
 have nT:(seen (cM d.2)).length≤500:=ez (ER _ _) (by simp;omega);have DF:es.length≤500:=by have:=congrArg List.length hI.k;simp at this;omega
 refine ab (aj (ae (aN mv rfl rfl rfl gb rfl ?_)));refine aX rfl rfl agH (Hj _) (fun r3 w3 hc=>?_);obtain⟨bs,rfl,VO,_,s3⟩:=hc;replace s3:=s3.toAny M;replace hW:=hW.aO s3;replace gb:=s3.aL gb;replace qj:=fun t v h=>(qj t v h).le s3.le
 replace hM:=s3.lt hM;have:=S.size;replace S:=S.aB s3
 refine aX rfl rfl agG (EF _ (fun e he=>by
  obtain⟨t,h1,h2⟩:=aak e he;exact⟨t,h2,by have:=(Cc t h1).2;omega,by have:=(Cc t h1).2;omega⟩) (fun e he t ht=>by
  obtain⟨t',h1,h2⟩:=aak e he;obtain rfl:=wG (ht.symm.trans h2);exact⟨(Cc _ h1).1,by have:=(Cc _ h1).2;omega,by have:=(Cc _ h1).2;omega⟩) (by omega) (fun ts o6 kE=>by
  have:=o6.length_le_of_subset (l₂:=seen (cM d.2)) (fun t ht=>(uK hI.k).1 (kE t ht));omega) VO hW) (fun r4 w4 hc=>?_)
 obtain⟨us,o6,kE,UA,hou,s4⟩:=hc;obtain rfl:=EJ hF.QX o6 (fun t=>(kE t).trans (uK hI.k)) UA;have K6:(dj (cM d.2)).length≤500:=ez (o6.length_le_of_subset (l₂:=seen (cM d.2)) (fun t ht=>uO.2 ((k9 hF.QX).1 ht))) nT;replace s4:=s4.toAny M;have xS:(RT.fd.sl).V M w4 (dj (cM d.2)) r4:=hou.tell Q5 (fun b hb h=>by have:=(hou.base b hb).1;have:=hM b h;omega) (by omega);clear hou;replace hW:=hW.aO s4;replace gb:=s4.aL gb;replace qj:=fun t v h=>(qj t v h).le s4.le
 replace hM:=s4.lt hM;have:=S.size;replace S:=S.aB s4;refine ah rfl rfl (ab (aj (ae (ah rfl rfl (ab (aj (aj (ae (ad rfl rfl (bN j5 rfl xS rfl (ad rfl rfl ?_)))))))))));refine ab (aY ?_);refine dh (σ:=Nat×Value) (fun q=>[(4,.pointer (some ⟨Kg,0,none⟩)),(5,r4),(6,q.2),(16,r4),(17,.int .i64 ((dj (cM d.2)).length:Int)),(18,.int .i64 (q.1:Int))]) (fun q w=>∃M',Lt M' w∧Step M w0 M' w aC∧Own ((RT.int .i64).sl) 37 M' w w0.heap.size q.2 (((dj (cM d.2)).take q.1).map (posOf (cM d.2)))∧(RT.fd.sl).V M' w (dj (cM d.2)) r4∧fI Tryz.prog 78 w mb es clock∧w.heap[Kg]? =some (.cells #[.map (some mb)] 217 (0,0))∧(∀t v,eB k7 es (kv t) v→(((RT.int .i64).sl)).V M' w (posOf (cM d.2) t) v)∧q.1≤(dj (cM d.2)).length) (fun q=>(dj (cM d.2)).length-q.1) (0,.slice none 0 0) (.cons rfl (.cons rfl (.cons rfl (.cons rfl (.cons rfl (.cons rfl .nil)))))) ?_ ?_
 ·exact⟨M,hM,S,dz _ _ _ _ _,xS,hW,gb,qj,bD _⟩
 ·clear hM xS hW gb qj S;rintro⟨i,u⟩ w ⟨M1,hM,S,ho,xS,hW,gb,qj,hi⟩;dsimp only at ho hi ⊢;refine aj (ae (cg rfl rfl rfl (ab (aj ?_))));refine bM rfl (fun c6=>?_) (fun c6=>?_)
  ·refine aT (aj (aY (aj (ae ?_))));refine cv (M:=M1) j5 Bs rfl rfl rfl xS (aq _ _) (by omega) (fun ZR t hg7 IH=>?_);rw[ay]at hg7;have Ql:=az hg7;have LG:=Cc t (uO.2 ((k9 hF.QX).1 Ql));refine cT (M:=M1) (A:=RT.fd) dN rfl Bs (by decide) rfl rfl rfl IH (aq _ _) (fun af4 SR=>?_);refine yf (A:=RT.fd) (M:=M1) Bs rfl rfl rfl rfl rfl (by assumption) (aq _ _) hM (fun agJ aqR BL Hs aqS=>?_);replace xS:=xS.le Hs.le;replace ho:=ho.aO Hs;replace hW:=hW.aO Hs;replace gb:=Hs.aL gb;replace qj:=fun t v h=>(qj t v h).le Hs.le
   replace hM:=Hs.lt hM;have:=S.size;replace S:=S.aB Hs;refine ab (ae (ad rfl rfl (aN mv rfl rfl rfl gb rfl ?_)));refine cT (M:=M1) (A:=RT.fd) dN rfl Bs (by decide) rfl rfl rfl BL (aq _ _) (fun aqT aal=>?_);obtain rfl:=tF aal;obtain⟨kl,Dw⟩:=Nd t (by omega) (by omega);refine Rg.uG mv BA jY rfl rfl rfl Dw hW (fun v8 lG=>?_);have IX:=qj _ _ lG;clear lG;refine eu (A:=((RT.int .i64).sl)) (hn:=by decide) (M:=M1) cQ jY (by decide) rfl rfl hM (IX) (.inr ⟨rfl,rfl⟩) (fun aqU aqV NG ET=>?_);replace xS:=xS.le ET.le;replace BL:=BL.le (by decide) ET.le;replace ho:=ho.aO ET;replace hW:=hW.aO ET;replace gb:=ET.aL gb;replace qj:=fun t v h=>(qj t v h).le ET.le
   replace hM:=ET.lt hM;have:=S.size;replace S:=S.aB ET;refine cV (M:=M1) (base:=w0.heap.size) cQ jY rfl rfl rfl rfl ho NG (aq _ _) (by simp;omega) (by simp;omega) (S.size) (fun agK agL aqW aam EU=>?_);replace xS:=xS.le EU.le;replace BL:=BL.le (by decide) EU.le;replace NG:=NG.le EU.le;replace hW:=hW.step EU (fun h=>ho.k8 hW.at_ h);replace gb:=EU.keep gb (fun h=>ho.eS gb (by decide) h);replace qj:=fun t v h=>(qj t v h).le EU.le
   replace hM:=EU.lt hM;have:=S.size;replace S:=S.cX EU ho (aR _);replace ho:=aam;refine ah rfl rfl (ab (ae (bG rfl rfl rfl (by omega) (ad rfl rfl (ab ?_)))));refine⟨rfl,(i+1,agK),(.cons rfl (.cons rfl (.cons rfl (.cons rfl (.cons rfl (.cons rfl .nil)))))),?_,?_⟩
   ·exact⟨agL,hM,S,by rw[bI,hg7,cJ,ec];exact ho,xS,hW,gb,qj,by dsimp only;omega⟩
   ·dsimp only;omega
  ·refine cH (aj (ae (ad rfl rfl (ad rfl rfl (ah rfl rfl (ah rfl rfl (ab (aP ?_))))))));have e:(dj (cM d.2)).take i=dj (cM d.2):=aW (by omega);rw[e]at ho;exact fp rfl rfl rfl ⟨_,_,rfl,xS.le (Le.close jO S),ho.close jO S (by simp;omega),S.back⟩
end Go.K
namespace Go.K
def Tq {α:Type} (A:RT α) (M:aD) (w:World) (v:Value) (x:α):Prop:=∃b o vs,v= .pointer (some ⟨b,o,none⟩)∧A.R M w x vs∧w.rangeAt b o vs
theorem Own.elem {α:Type} {A:RT α} {e:TypeId} {M:aD} {w:World} {base:Nat} {v:Value} {xs:List α} (h:Own A e M w base v xs) (hA:0<A.n) {i:Nat} {x:α} (hx:xs[i]? =some x):
  ∃g cap vs,v= .slice (some ⟨g,0,none⟩) xs.length cap∧M g∧A.R M w x vs∧w.rangeAt g (i*A.n) vs:=by
 obtain⟨⟨C,hr,ha⟩,hm⟩:=h;rcases hr.2 with⟨h1,h2⟩|⟨g,cap,cur,h1,h2,h3,h4,h5,h6,h7⟩
 ·have:xs=[]:=List.eq_nil_of_length_eq_zero h2;subst this;simp at hx
 ·obtain⟨vs,hv,hj⟩:=ha.at_ i x hx;refine⟨g,cap,vs,h1,hm g (by rw[h1];rfl),hv,fun j u hu=>?_⟩;have h8:=hj j u hu;rw[←h7,ck]at h8
  split at h8
  ·simp only[World.cell?,h3];simpa using h8
  ·cases h8
section
variable {P:Program} {r:Option Nat} {n:Nat} {L:Sl} {ds:List Deferred} {w:World} {K:Kt} {ops:Array Oper} {rest:List Oper} {d:Nat} {x y:Operand} {ty:TypeId} {pos:String} {af:Array Edge} {α:Type} {A:RT α}
theorem Rg.agM {t e e':TypeId} {i:Operand} {κ:IntKind} {j:Int} {M:aD} {base:Nat} {xs:List α} {v zv:Value} {bytes:Nat} (ht:P.underlying t=some (.slice e)) (hi:TI P e zv A.n bytes) (hA:0<A.n)
  (hx:ev L x=some v) (Gq:ev L i=some (.int κ j)) (hd:Nat.blt d n=true) (ho:Own A e' M w base v xs) (hj:0≤j∧j<xs.length)
  (k:∀u a,xs[j.toNat]? =some a→Tq A M w u a→Rg P r n ops rest ((d,u)::L) ds w K):
  Rg P r n ops ({dst:=some d,op:= .indexAddr t x i,type:=ty,pos,after:=af,guard:=none}::rest) L ds w K:=by
 have dY:j.toNat<xs.length:=by omega
 obtain⟨g,cap,vs,rfl,hm,h1,h2⟩:=ho.elem hA (ar dY);refine .op (fun _ h=>by cases h) rfl rfl hd (.pointer (some ⟨g,0+j.toNat*A.n,none⟩)) w (fun ρ h=>?_) (k _ xs[j.toNat] (ar dY) ⟨g,_,vs,rfl,h1,by rw[fR];exact h2⟩);simp only[execOp,h x _ hx,h i _ Gq];simp[Instr.indexAt,run_underlying ht,asIntOf,hj,hi.sizeOf,xL]
theorem Rg.NH {t:TypeId} {fs:TypeDesc} {zv:Value} {bytes:Nat} {M:aD} {p:Value} {a:α} (hu:P.underlying t=some fs) (hf:fs.isRow=true) (hi:TI P t zv A.n bytes) (hg:A.agg=true)
  (hx:ev L x=some p) (hd:Nat.blt d n=true) (hp:Tq A M w p a) (k:∀v,A.V M w a v→Rg P r n ops rest ((d,v)::L) ds w K):
  Rg P r n ops ({dst:=some d,op:= .load t x,type:=ty,pos,after:=af,guard:=none}::rest) L ds w K:=by
 obtain⟨b,o,vs,rfl,h1,h2⟩:=hp;refine .op (fun _ h=>by cases h) rfl rfl hd (.agg vs.toArray) w (fun ρ h=>?_) (k _ ⟨vs,h1,by simp[RT.val,hg]⟩);simp only[execOp,h x _ hx];obtain⟨i,yi,_,AG,_⟩:=hi.get;have:=run_loadAt_mid (P:=P) w b o t vs fs h2 hu hf (by simp[yi,AG,A.len h1]);simp[this]
end
end Go.K
namespace Go.K
open Go.Proofs
namespace TKBldC
theorem agN:TI Tryz.prog 153 (.agg #[(.slice none 0 0),(.map none),(.int .i64 0),(.int .i64 0)]) 4 48:=by unfold TI;kernel_rfl
theorem agO:placesOf Tryz.prog 153=[(0,1),(1,1),(2,1),(3,1)].map some:=by kernel_rfl
end TKBldC
open TKBldC
set_option maxRecDepth 10000
open Go.Maps (Keyed)
theorem uR:Keyed Tryz.prog 9:=Go.Maps.string_keyed aK
theorem NI (k:List UInt8) (h:k.length≤140737488355328):∃l,keyOf Tryz.prog 9 (sv k)=some l:=by
 have e1:(⟨k.toArray⟩:ByteArray).size=k.length:=by simp[ByteArray.size]
 exact⟨_,Go.WideMaps.keyOf_string_mk aK (by rw[e1];unfold maxLen;omega)⟩
structure EV (Z:aD) (M:aD) (w:World) (B:Nat) (f:List UInt8→List Po) (K:List UInt8→Prop) (es:List MapEntry):Prop where
 o:∀k v,eB k7 es (sv k) v→Own RT.po 83 M w B v (f k)
 a:∀k k' v v',k≠k'→eB k7 es (sv k) v→eB k7 es (sv k') v'→ix v v'
 k:∀x,(∃e∈es,e.key=sv x)↔K x
 z:∀k v c,eB k7 es (sv k) v→v.ownBlock=some c→Z c
theorem EV.step {Z M M' N:aD} {w w':World} {B:Nat} {f:List UInt8→List Po} {K:List UInt8→Prop} {es:List MapEntry} (h:EV Z M w B f K es) (s:Step M w M' w' N) (hn:∀k v b,eB k7 es (sv k) v→v.ownBlock=some b→¬N b):EV Z M' w' B f K es:=
 ⟨fun k v hv=>(h.o k v hv).step s fun b hb=>hn k v b hv hb,h.a,h.k,h.z⟩
theorem EV.aO {Z M M':aD} {w w':World} {B:Nat} {f:List UInt8→List Po} {K:List UInt8→Prop} {es:List MapEntry} (h:EV Z M w B f K es) (s:Step M w M' w' aC):EV Z M' w' B f K es:=h.step s fun _ _ _ _ _ h=>h
theorem EV.congr {Z M:aD} {w:World} {B:Nat} {f f':List UInt8→List Po} {K K':List UInt8→Prop} {es:List MapEntry} (h:EV Z M w B f K es) (hf:∀k,f' k=f k) (hK:∀k,K' k↔K k):EV Z M w B f' K' es:=
 ⟨fun k v hv=>by rw[hf];exact h.o k v hv,h.a,fun x=>(h.k x).trans (hK x).symm,h.z⟩
theorem EV.Kh {Z Z' M:aD} {w:World} {B:Nat} {f:List UInt8→List Po} {K:List UInt8→Prop} {es:List MapEntry} (h:EV Z M w B f K es) (hz:∀c,Z c→c<w.heap.size→Z' c):EV Z' M w B f K es:=
 ⟨h.o,h.a,h.k,fun k v c hv hc=>hz c (h.z k v c hv hc) ((h.o k v hv).base c hc).2⟩
theorem EV.put {Z M M2:aD} {w w1 w2:World} {B mb c:Nat} {mes:Array MapEntry} {f:List UInt8→List Po} {K:List UInt8→Prop} {es V1:List MapEntry} {k0:List UInt8} {v0 v1:Value} {ps:List Po} (h:EV Z M w B f K es) (hZ:∀c,w.heap.size≤c→Z c) (PL:eB k7 es (sv k0) v0)
  (V2:Own RT.po 83 (jF M v1) w1 B v1 (f k0++ps)) (s1:Step M w (jF M v1) w1 (fD v0)) (hF:∀b,v1.ownBlock=some b→w.heap.size≤b∨v0.ownBlock=some b) (hmb:w1.heap[mb]? =some (.map mes c)) (s2:Step (jF M v1) w1 M2 w2 (fun k=>k=mb))
  (Hk:∀zv jy v',eB zv V1 jy v'↔(jy=sv k0∧v'=v1)∨(jy≠sv k0∧eB zv es jy v')) (qb:(V1.map (·.key)=es.map (·.key)∧∃e∈es,e.key=sv k0)∨(V1.map (·.key)=es.map (·.key)++[sv k0]∧∀e∈es,e.key≠sv k0)):
  EV Z M2 w2 B (fun k=>if k=k0 then f k0++ps else f k) (fun x=>K x∨x=k0) V1:=by
 have sN:∀k v,eB k7 V1 (sv k) v→(k=k0∧v=v1)∨(k≠k0∧eB k7 es (sv k) v):=fun k v hv=>by
  rcases(Hk k7 (sv k) v).1 hv with⟨h3,h4⟩|⟨h3,h4⟩
  ·exact .inl ⟨CI h3,h4⟩
  ·exact .inr ⟨fun e=>h3 (by rw[e]),h4⟩
 have tU:∀k v,k≠k0→eB k7 es (sv k) v→ix v1 v:=fun k v eN hv=>(h.a k k0 v v0 eN hv PL).symm.grown hF (fun b hb=>((h.o k v hv).base b hb).2)
 have QV:∀k v,k≠k0→eB k7 es (sv k) v→Own RT.po 83 (jF M v1) w1 B v (f k):=fun k v eN hv=>(h.o k v hv).step s1 (fun b hb hk=>h.a k k0 v v0 eN hv PL b hb hk)
 have hnm:∀{v:Value} {xs:List Po},Own RT.po 83 (jF M v1) w1 B v xs→∀b,v.ownBlock=some b→¬b=mb:=fun ho b hb e=>ho.k8 hmb (by rw[←e];exact hb)
 refine⟨fun k v hv=>?_,fun k k' v v' eN hv sr=>?_,fun x=>?_,fun k v c hv hc=>?_⟩
 ·rcases sN k v hv with⟨rfl,rfl⟩|⟨h3,h4⟩
  ·rw[if_pos rfl];exact V2.step s2 (hnm V2)
  ·rw[if_neg h3];exact(QV k v h3 h4).step s2 (hnm (QV k v h3 h4))
 ·rcases sN k v hv with⟨rfl,rfl⟩|⟨h3,h4⟩
  ·rcases sN k' v' sr with⟨rfl,_⟩|⟨h5,h6⟩
   ·exact absurd rfl eN
   ·exact tU k' v' h5 h6
  ·rcases sN k' v' sr with⟨rfl,rfl⟩|⟨h5,h6⟩
   ·exact(tU k v h3 h4).symm
   ·exact h.a k k' v v' eN h4 h6
 ·have kE:(∃e∈V1,e.key=sv x)↔sv x∈V1.map (·.key):=by simp
  have agP:(∃e∈es,e.key=sv x)↔sv x∈es.map (·.key):=by simp
  rw[kE,←h.k x,agP];rcases qb with⟨h3,e,he,hk⟩|⟨h3,_⟩
  ·rw[h3];constructor
   ·exact .inl
   ·rintro(h4|rfl)
    ·exact h4
    ·rw[←hk];exact ib he
  ·rw[h3,cr,bS];constructor
   ·rintro(h4|h4)
    ·exact .inl h4
    ·exact .inr (CI h4)
   ·rintro(h4|rfl)
    ·exact .inl h4
    ·exact .inr rfl
 ·rcases sN k v hv with⟨rfl,rfl⟩|⟨h3,h4⟩
  ·rcases hF c hc with h5|h5
   ·exact hZ c h5
   ·exact h.z _ _ c PL h5
  ·exact h.z k v c h4 hc
theorem Q6 (Z M:aD) (w:World) (B:Nat):EV Z M w B (pk []) (fun x=>x∈iO []) [] where
 o k v hv:=by
  rcases hv with⟨e,he,_⟩|⟨_,rfl⟩
  ·cases he
  ·exact dz _ _ _ _ _
 a k k' v v' _ hv _:=by
  rcases hv with⟨e,he,_⟩|⟨_,rfl⟩
  ·cases he
  ·exact(ix.nil v').symm
 k x:=by simp[iO]
 z k v c hv hc:=by
  rcases hv with⟨e,he,_⟩|⟨_,rfl⟩
  ·cases he
  ·cases hc
structure Buf (Z M:aD) (w:World) (B b mb:Nat) (vl:Value) (L:List En) (words last:Int) (f:List UInt8→List Po) (K:List UInt8→Prop) (es:List MapEntry) (clock:Nat):Prop where
 at_:w.heap[b]? =some (.cells #[vl,.map (some mb),.int .i64 words,.int .i64 last] 153 (0,0))
 m:M b
 mm:M mb
 hb:Z b
 hmb:Z mb
 l:Own RT.en 71 M w B vl L
 map:fI Tryz.prog 9 w mb es clock
 rows:EV Z M w B f K es
 zl:∀c,vl.ownBlock=some c→Z c
def oS (Z M:aD) (w:World) (B b:Nat) (L:List En) (words last:Int):Prop:=∃mb vl es clock,Buf Z M w B b mb vl L words last (pk L) (fun x=>x∈iO L) es clock
theorem oS.aO {Z M M':aD} {w w':World} {B b:Nat} {L:List En} {words last:Int} (h:oS Z M w B b L words last) (s:Step M w M' w' aC):oS Z M' w' B b L words last:=by
 obtain⟨mb,vl,es,clock,h1,h2,h3,h4,h5,h6,h7,h8,h9⟩:=h;exact⟨mb,vl,es,clock,s.aL h1,(s.mem _ (ak h1)).2 h2,(s.mem _ (ak h7.at_)).2 h3,h4,h5,h6.aO s,h7.aO s,h8.aO s,h9⟩
theorem oS.Kh {Z Z' M:aD} {w:World} {B b:Nat} {L:List En} {words last:Int} (h:oS Z M w B b L words last) (hz:∀c,Z c→c<w.heap.size→Z' c):oS Z' M w B b L words last:=by
 obtain⟨mb,vl,es,clock,h1,h2,h3,h4,h5,h6,h7,h8,h9⟩:=h;exact⟨mb,vl,es,clock,h1,h2,h3,hz _ h4 (ak h1),hz _ h5 (ak h7.at_),h6,h7,h8.Kh hz,fun c hc=>hz c (h9 c hc) (h6.base c hc).2⟩
theorem oS.step {Z M M' N:aD} {w w':World} {B b:Nat} {L:List En} {words last:Int} (h:oS Z M w B b L words last) (s:Step M w M' w' N) (hn:∀k,N k→¬Z k):oS Z M' w' B b L words last:=by
 obtain⟨mb,vl,es,clock,h1,h2,h3,h4,h5,h6,h7,h8,h9⟩:=h;exact⟨mb,vl,es,clock,s.keep h1 (fun hk=>hn _ hk h4),(s.mem _ (ak h1)).2 h2,(s.mem _ (ak h7.at_)).2 h3,h4,h5,h6.step s (fun c hc hk=>hn _ hk (h9 c hc)),h7.step s (fun hk=>hn _ hk h5),h8.step s (fun k v c hv hc hk=>hn _ hk (h8.z k v c hv hc)),h9⟩
theorem oS.stepT {Z M M' N:aD} {w w':World} {B b:Nat} {L:List En} {words last:Int} (h:oS Z M w B b L words last) (s:Step M w M' w' N) (hn:∀k,N k→∃cs t,w.heap[k]? =some (.cells cs t (0,0))∧t≠153∧t≠71∧t≠83):oS Z M' w' B b L words last:=by
 obtain⟨mb,vl,es,clock,h1,h2,h3,h4,h5,h6,h7,h8,hz⟩:=h;refine⟨mb,vl,es,clock,s.keep h1 (fun hk=>?_),(s.mem _ (ak h1)).2 h2,(s.mem _ (ak h7.at_)).2 h3,h4,h5,h6.step s (fun c hc hk=>?_),h7.step s (fun hk=>?_),h8.step s (fun k v c hv hc hk=>?_),hz⟩
 ·obtain⟨cs,t,h9,Q7,_⟩:=hn _ hk;rw[h1]at h9;simp at h9;exact Q7 h9.2.symm
 ·obtain⟨cs,t,h9,_,Q7,_⟩:=hn _ hk;exact h6.eS h9 Q7 hc
 ·obtain⟨cs,t,h9,_⟩:=hn _ hk;rw[h7.at_]at h9;cases h9
 ·obtain⟨cs,t,h9,_,_,Q7⟩:=hn _ hk;exact(h8.o k v hv).eS h9 Q7 hc
def NJ (M Z:aD):aD:=fun k=>Z k∧M k
theorem eB.ex (zv:Value) (es:List MapEntry) (key:Value):∃v,eB zv es key v:=by
 by_cases h:∃e∈es,e.key=key
 ·obtain⟨e,he,hk⟩:=h;exact⟨e.val,.inl ⟨e,he,hk,rfl⟩⟩
 ·exact⟨zv,.inr ⟨fun e he hk=>h ⟨e,he,hk⟩,rfl⟩⟩
def nw (last:Int) (e:En):Int:=if l6 e.1≠0 then l6 e.1 else if e.2≤last then 12 else 0
def NK (L:List En) (tl:List (Fd×Nat)) (i:Nat) (k:List UInt8):List Po:=pk L k++(((dj tl).take i).filter fun t=>decide (gL t=k)).map fun t=>((L.length:Int),posOf tl t)
theorem NL (L:List En) (tl:List (Fd×Nat)) (k:List UInt8):NK L tl 0 k=pk L k:=by simp[NK]
theorem NM {L:List En} {tl:List (Fd×Nat)} {i:Nat} {t:Fd} (h:(dj tl)[i]? =some t) (k:List UInt8):NK L tl (i+1) k=if k=gL t then NK L tl i (gL t)++[((L.length:Int),posOf tl t)]else NK L tl i k:=by
 unfold NK;rw[bI,h,cJ,List.filter_append,ec]
 split
 ·rename_i e;subst e;simp
 ·rename_i e
  have: ¬gL t=k:=fun h=>e h.symm
  simp[this]
theorem Q8 {L:List En} {e:En} {i:Nat} (h:(dj (qe e)).length≤i) (k:List UInt8):NK L (qe e) i k=pk (L++[e]) k:=by
 unfold NK;rw[QY,aW h];rfl
theorem Q9 {L:List En} (hF:∀x∈L,lf x.1) (tl:List (Fd×Nat)) (i:Nat) (k:List UInt8):(NK L tl i k).length≤L.length+(dj tl).length:=by
 unfold NK;have h1:=(qR k L 0 hF).1;have h2:=jT (fun t=>decide (gL t=k)) ((dj tl).take i);have h3:=List.length_take_le i (dj tl);have h4:(pk L k).length≤L.length:=h1;simp only[a8,aH,br]at*;omega
theorem BM {d:Dc} (hF:lf d):(dj (cM d.2)).length≤500:=by
 have h1:=(uN hF.QX).nodup.length_le_of_subset (l₂:=(cM d.2).map (·.1)) (fun t ht=>(k9 hF.QX).1 ht);have:=hF.many;simp at h1;omega
theorem lf.term {d:Dc} (hF:lf d) {t:Fd} (h:t∈dj (cM d.2)):t.1.length≤12∧t.2.length≤30:=by
 obtain⟨p,hp,rfl⟩:=bV.1 ((k9 hF.QX).1 h);exact hF.small p hp
theorem NN {Z M:aD} {B:Nat} (w0:World) (hM:Lt M w0) (hB:B≤w0.heap.size) (hZ:∀k,w0.heap.size≤k→Z k):
  Spec Tryz.prog 39 #[] w0 (fun v w=>∃M' b,v= .pointer (some ⟨b,0,none⟩)∧Lt M' w∧oS Z M' w B b [] 0 (-1)∧Step M w0 M' w aC):=by
 refine bg (args:=[]) (fn:=Tryz.f39) Tryz.func39 rfl (n:=4) Tryz.ntmps39 ?_;have S:Step M w0 M w0 aC:=(au _ _).cB (fun _ h=>h.elim) (fun _ h=>h.elim);refine aj (ae (ah rfl rfl (ab (aj (ae ?_)))));refine Rg.Ez M iQ rfl (fun mb w1m p1 q1 gW s1=>?_);obtain⟨V0,NC⟩:∃M',M'=ins M mb:=⟨_,rfl⟩;rw[←NC]at s1;have CM:V0 mb:=by rw[NC];exact .inl rfl
 replace hM:=s1.lt hM;have:=S.size;replace S:=S.aB s1;refine iM (places:=[(0,1),(1,1),(2,1),(3,1)]) dX agN agO rfl ⟨_,_,rfl,rfl,_,_,rfl,rfl,rfl⟩ (out:=[.slice none 0 0,_,.int .i64 0,_]) ⟨1,[_],rfl,rfl,by simp[Value.cells],3,[_],rfl,rfl,by simp[Value.cells],rfl⟩ ?_;refine xM V0 rfl rfl (fun V3 QQ aqY aqZ iU qi=>?_);obtain⟨aan,NO⟩:∃M',M'=ins V0 V3:=⟨_,rfl⟩;rw[←NO]at qi;have V4:aan V3:=by rw[NO];exact .inl rfl
 change QQ.heap[V3]? =some (.cells #[.slice none 0 0,.map (some mb),.int .i64 0,.int .i64 (-1)] _ _)at iU;replace CM:=(qi.mem _ (ak gW.at_)).2 CM;replace gW:=gW.aO qi;replace hM:=qi.lt hM;have:=S.size;replace S:=S.aB qi;refine ah rfl rfl (ab (aP ?_));exact aV rfl rfl ⟨_,_,rfl,hM,⟨mb,_,[],0,iU,V4,CM,hZ _ (by omega),hZ _ (by omega),dz _ _ _ _ _,gW,Q6 _ _ _ _,fun c hc=>by cases hc⟩,S⟩
end Go.K
namespace Go.K
open Go.Proofs
namespace TKBldD
theorem K7:TI Tryz.prog 29 (.slice none 0 0) 1 24:=by unfold TI;kernel_rfl
theorem x7:TI Tryz.prog 80 (.slice none 0 0) 1 24:=by unfold TI;kernel_rfl
theorem Ht:TI Tryz.prog 151 (.map none) 1 8:=by unfold TI;kernel_rfl
theorem E86:Enters Tryz.prog 86:=enters Tryz.func86 rfl (by decide)
theorem E87:Enters Tryz.prog 87:=enters Tryz.func87 rfl (by decide)
theorem E88:Enters Tryz.prog 88:=enters Tryz.func88 rfl (by decide)
theorem E89:Enters Tryz.prog 89:=enters Tryz.func89 rfl (by decide)
end TKBldD
open TKBldD
set_option maxRecDepth 10000
set_option maxHeartbeats 4000000 in
theorem NP {Z M:aD} {B b:Nat} {L:List En} {words last:Int} {e:En} {v0:Value} (w0:World) (hM:Lt M w0) (hZ:∀k,w0.heap.size≤k→Z k) (hb:oS Z M w0 B b L words last) (hBw:B≤w0.heap.size) (hv:RT.en.V M w0 e v0) (hl:∀f∈e.1.2,f.1.length≤900000∧f.2.length≤900000) (hLF:∀x∈L,lf x.1) (hLn:L.length≤1000000) (hw:0≤words∧words≤1000000000):
  Spec Tryz.prog 40 #[.pointer (some ⟨b,0,none⟩),v0] w0 (fun v w=>∃M',Lt M' w∧Step M w0 M' w (NJ M Z)∧v= .int .i64 (nw last e)∧(nw last e≠0→oS Z M' w B b L words last)∧(nw last e=0→oS Z M' w B b (L++[e]) (words+((qe e).length:Int)) e.2)):=by
 obtain⟨mb,vl,es,clock,gb,eo,fm,hB,IQ,ho,hW,hR,zl⟩:=hb;have Tk:b≠mb:=fun h=>by have:=hW.at_;rw[←h,gb]at this;cases this
 refine bg (args:=[_,_]) (fn:=Tryz.f40) Tryz.func40 rfl (n:=89) Tryz.ntmps40 ?_;have S:Step M w0 M w0 (NJ M Z):=(au _ _).cB (fun _ h=>h.elim) (fun _ h=>h.2);refine aj (ae ?_);refine qs (A:=RT.en) rfl rfl hM hv rfl (fun u0 w1 dx s0 _=>?_);have:=ak gb;replace eo:=(s0.mem _ this).2 eo;replace gb:=s0.aL gb;replace ho:=ho.aO s0;replace fm:=(s0.mem _ (ak hW.at_)).2 fm;replace hW:=hW.aO s0;replace hR:=hR.aO s0;replace hM:=s0.lt hM;have:=S.size;replace S:=S.aB s0;refine ah rfl rfl (ab (aj (aj (ae ?_))));refine aQ (M:=M) (A:=RT.en) (B:=RT.dc) dV rfl rfl pD (by decide) ZN rfl rfl (by decide) dx (aq _ _) (fun CB nF=>?_);refine cT (M:=M) (A:=RT.dc) bm rfl pD (by decide) rfl rfl rfl nF (aq _ _) (fun AU nG=>?_);refine aX rfl rfl E86 (MC _ hM nG hl) (fun r2 w2 hc=>?_);obtain⟨rfl,s2⟩:=hc;have:=ak gb;replace eo:=(s2.mem _ this).2 eo;replace gb:=s2.aL gb;replace dx:=dx.le (by decide) s2.le;replace ho:=ho.aO s2;replace fm:=(s2.mem _ (ak hW.at_)).2 fm;replace hW:=hW.aO s2;replace hR:=hR.aO s2;replace hM:=s2.lt hM;have:=S.size;replace S:=S.aB s2;refine ah rfl rfl (ab (aj (ae (ad rfl rfl (eM rfl rfl rfl (ab ?_))))));refine bM rfl (fun c2=>?_) (fun c2=>?_)
 ·refine aj (ae (ad rfl rfl (ah rfl rfl (ab (aP ?_)))));have ea:nw last e=l6 e.1:=if_pos c2;exact aV rfl rfl ⟨_,hM,S,by rw[ea],fun _=>⟨mb,vl,es,clock,gb,eo,fm,hB,IQ,ho,hW,hR,zl⟩,fun h=>absurd (ea▸h) c2⟩
 ·have hF:lf e.1:=IT (by simpa using c2);refine aT (aj (aj ?_));apply nq mixed rfl rfl;intro wD4 sA4;have BN:=sA4 M;have:=ak gb;replace eo:=(BN.mem _ this).2 eo;replace gb:=BN.aL gb;replace dx:=dx.le (by decide) BN.le;replace ho:=ho.aO BN;replace fm:=(BN.mem _ (ak hW.at_)).2 fm;replace hW:=hW.aO BN;replace hR:=hR.aO BN;replace hM:=BN.lt hM;have:=S.size;replace S:=S.aB BN;refine aQ (M:=M) (A:=RT.en) (B:=RT.int .i64) dV rfl rfl I3 (by decide) en1 rfl rfl (by decide) dx (aq _ _) (fun Vq IG=>?_);refine ab ⟨rfl,rfl,rfl,?_⟩;refine cd (M:=M) ax rfl rfl (by assumption) (by repeat (first|exact aq _ _|refine bc (bF (by assumption)) ?_)) (fun Tt=>?_);refine aU (v':= .int .i64 (e.2)) rfl ?_;replace Tt: -9223372036854775808≤(e.2:Int)∧e.2≤9223372036854775807:=Tt;refine ab ⟨rfl,rfl,rfl,?_⟩;refine ad rfl rfl ?_;refine ab ⟨rfl,rfl,rfl,?_⟩;refine bT rfl ⟨_,rfl⟩ rfl ?_;refine ab ⟨rfl,rfl,rfl,?_⟩;refine bJ (o':=3) dX rfl rfl I3 (by decide) rfl rfl ?_;refine ab ⟨rfl,rfl,rfl,?_⟩;refine aN ax rfl rfl rfl (by first|assumption|exact de BN (by assumption)) rfl ?_;refine ab ⟨rfl,rfl,rfl,?_⟩;refine gQ rfl rfl rfl ?_;refine ab ⟨rfl,rfl,rfl,?_⟩;refine eD ?_;refine bM rfl (fun c4=>?_) (fun c4=>?_)
  ·refine aj (ae (ah rfl rfl (ab (aP ?_))));have ea:nw last e=12:=by unfold nw;rw[if_neg (fun h=>h (by simpa using c2)),if_pos c4]
   exact aV rfl rfl ⟨_,hM,S,by rw[ea],fun _=>⟨mb,vl,es,clock,gb,eo,fm,hB,IQ,ho,hW,hR,zl⟩,fun h=>absurd (ea▸h) (by decide)⟩
  ·refine aT (aj (ae ?_));refine aQ (M:=M) (A:=RT.en) (B:=RT.dc) dV rfl rfl pD (by decide) ZN rfl rfl (by decide) dx (aq _ _) (fun ZW ML=>?_);refine cT (M:=M) (A:=RT.dc) bm rfl pD (by decide) rfl rfl rfl ML (aq _ _) (fun VE zx=>?_);refine aX rfl rfl E87 (ES _ hM zx hF hl) (fun r6 w6 hc=>?_);obtain⟨a6,b6,rfl,ha,qT,s6⟩:=hc;have:=ak gb;replace eo:=(s6.mem _ this).2 eo;replace gb:=s6.aL gb;replace dx:=dx.le (by decide) s6.le;replace ho:=ho.aO s6;replace fm:=(s6.mem _ (ak hW.at_)).2 fm;replace hW:=hW.aO s6;replace hR:=hR.aO s6;replace hM:=s6.lt hM;have:=S.size;replace S:=S.aB s6;refine ad rfl rfl (bW rfl rfl rfl (bW rfl rfl rfl (ah rfl rfl (ah rfl rfl (ab (aj (aj (ae (ad rfl rfl (bN j5 rfl ha rfl (ad rfl rfl ?_)))))))))));refine ab (aY ?_);refine dh (σ:=Nat) (fun q=>[(0,.pointer (some ⟨b,0,none⟩)),(3,u0),(7,b6),(30,a6),(31,.int .i64 ((dj (qe e)).length:Int)),(32,.int .i64 (q:Int))]) (fun q w=>∃M' es clock,Lt M' w∧Step M w0 M' w (NJ M Z)∧cO RT.en M' w u0 e∧(RT.fd.sl).V M' w (dj (qe e)) a6∧(((RT.int .i64).sl).sl).V M' w ((dj (qe e)).map (posOf (qe e))) b6∧Buf Z M' w B b mb vl L words last (NK L (qe e) q) (fun x=>x∈iO L∨x∈((dj (qe e)).take q).map gL) es clock∧q≤(dj (qe e)).length) (fun q=>(dj (qe e)).length-q) 0 (.cons rfl (.cons rfl (.cons rfl (.cons rfl (.cons rfl (.cons rfl .nil)))))) ?_ ?_
   ·exact⟨_,es,clock,hM,S,dx,ha,qT,⟨gb,eo,fm,hB,IQ,ho,hW,hR.congr (fun k=>NL _ _ _) (fun k=>by simp),zl⟩,bD _⟩
   ·clear hM S dx ha qT gb eo fm ho hW hR;rintro i w ⟨M1,es,clock,hM,S,dx,ha,qT,⟨gb,eo,fm,_,_,ho,hW,hR,_⟩,hi⟩;refine aj (ae (cg rfl rfl rfl (ab (aj ?_))));refine bM rfl (fun c8=>?_) (fun c8=>?_)
    ·refine aT (aj (aY (aj (ae (ad rfl rfl ?_)))));refine cv (M:=M1) j5 Bs rfl rfl rfl ha (aq _ _) (by omega) (fun agR t S0 NQ=>?_);rw[ay]at S0;have Ql:=az S0;have LG:=hF.term Ql;refine cT (M:=M1) (A:=RT.fd) dN rfl Bs (by decide) rfl rfl rfl NQ (aq _ _) (fun agS NR=>?_);obtain rfl:=tF NR;refine dU M1 Bs rfl (fun zK Zo aq5 aq6 pN qH=>?_);obtain⟨xx,NS⟩:∃M',M'=ins M1 zK:=⟨_,rfl⟩;rw[←NS]at qH;have CN:xx zK:=by rw[NS];exact .inl rfl
     change Zo.heap[zK]? =some (.cells #[.string ⟨#[]⟩,.string ⟨#[]⟩] _ _)at pN;have:=ak gb;replace eo:=(qH.mem _ this).2 eo;replace gb:=qH.aL gb;replace dx:=dx.le (by decide) qH.le;replace ha:=ha.le qH.le;replace qT:=qT.le qH.le;replace ho:=ho.aO qH;replace fm:=(qH.mem _ (ak hW.at_)).2 fm;replace hW:=hW.aO qH;replace hR:=hR.aO qH;replace hM:=qH.lt hM;have:=S.size;replace S:=S.aB qH;refine ah rfl rfl ?_;refine dI (M:=xx) (vs:=[.string ⟨t.1.toArray⟩,.string ⟨t.2.toArray⟩]) Bs rfl rfl (wJ rfl NR) rfl rfl pN CN (fun w9 g9 s9=>?_);have:=ak gb;replace eo:=(s9.mem _ this).2 eo;replace gb:=s9.keep gb (fun hk=>by have hk:_=_:=hk;omega);have:=ak pN;replace CN:=(s9.mem _ this).2 CN;replace dx:=dx.le (by decide) s9.le;replace ha:=ha.le s9.le;replace qT:=qT.le s9.le;replace ho:=ho.step s9 (fun c hc (h:_=_)=>by first|exact ho.eS gb (by decide) (h▸hc)|exact ho.eS pN (by decide) (h▸hc));replace fm:=(s9.mem _ (ak hW.at_)).2 fm;replace hW:=hW.step s9 (by first|exact fun h=>ho.k8 hW.at_ h|exact fun(h:mb=b)=>Tk h.symm|exact fun(h:mb=zK)=>by have h9:=hW.at_;rw[h,pN]at h9;cases h9);replace hR:=hR.step s9 (by first|exact fun k v c hv hc h=>(hR.o k v hv).dw ho (by decide) hc h|exact fun k v c hv hc (h:c=b)=>(hR.o k v hv).eS gb (by decide) (h▸hc)|exact fun k v c hv hc (h:c=zK)=>(hR.o k v hv).eS pN (by decide) (h▸hc));replace hM:=s9.lt hM;have:=S.size;replace S:=S.trans s9 (fun k hk h=>by have h:_=_:=h;subst h;first|(exfalso;omega)|(show _≤_;omega)|exact⟨by first|omega|assumption,(S.mem _ hk).1 ((s9.mem _ (ak pN)).1 CN)⟩|exact .inl rfl|exact .inr rfl|exact .inr (.inl rfl)|exact .inr (.inr rfl)|exact .inr (.inr (.inl rfl))|exact rfl);have Tu:=g9;clear pN;have pN:=Tu;clear Tu;refine ab (aj (ae (fL (vs:=[.string ⟨t.1.toArray⟩,.string ⟨t.2.toArray⟩]) dN rfl Bs rfl rfl rfl pN ?_)))
     refine aX rfl rfl E80 (Ni (t:=t) _ hM (by omega) (by omega)) (fun r10 w10 hc=>?_);obtain⟨rfl,zr⟩:=hc;have:=ak gb;replace eo:=(zr.mem _ this).2 eo;replace gb:=zr.aL gb;replace dx:=dx.le (by decide) zr.le;replace ha:=ha.le zr.le;replace qT:=qT.le zr.le;replace ho:=ho.aO zr;replace fm:=(zr.mem _ (ak hW.at_)).2 fm;replace hW:=hW.aO zr;replace hR:=hR.aO zr;replace hM:=zr.lt hM;have:=S.size;replace S:=S.aB zr;refine ah rfl rfl (ab ?_);obtain⟨v10,lG⟩:=eB.ex k7 es (sv (gL t));apply T.oG 21 [0,1,2,3,4,5,6,7,8,9,10] 2 (fD v10) mixed rfl rfl rfl rfl;intro Hu Hv;have iq:=Hv xx;have:=ak gb;replace eo:=(iq.mem _ this).2 eo;replace gb:=iq.aL gb;replace dx:=dx.le (by decide) iq.le;replace ha:=ha.le iq.le;replace qT:=qT.le iq.le;replace ho:=ho.aO iq;replace fm:=(iq.mem _ (ak hW.at_)).2 fm;replace hW:=hW.aO iq;replace hR:=hR.aO iq;replace hM:=iq.lt hM;have:=S.size;replace S:=S.aB iq;refine ad rfl rfl ?_;refine ab ⟨rfl,rfl,rfl,?_⟩;refine bT rfl ⟨_,rfl⟩ rfl ?_;refine ab ⟨rfl,rfl,rfl,?_⟩;refine bJ (o':=1) dX rfl rfl Ht (by decide) rfl rfl ?_;refine ab ⟨rfl,rfl,rfl,?_⟩;refine aN iQ rfl rfl rfl (by first|assumption|exact de iq (by assumption)) rfl ?_;refine ab ⟨rfl,rfl,rfl,?_⟩;refine ad rfl rfl ?_;refine ab ⟨rfl,rfl,rfl,?_⟩;refine ad rfl rfl ?_;refine ab ⟨rfl,rfl,rfl,?_⟩;refine bT rfl ⟨_,rfl⟩ rfl ?_;refine ab ⟨rfl,rfl,rfl,?_⟩;refine bJ (o':=1) dX rfl rfl Ht (by decide) rfl rfl ?_;refine ab ⟨rfl,rfl,rfl,?_⟩;refine aN iQ rfl rfl rfl (by first|assumption|exact de iq (by assumption)) rfl ?_;refine ab ⟨rfl,rfl,rfl,?_⟩;refine ad rfl rfl ?_;refine ab ⟨rfl,rfl,rfl,?_⟩;obtain⟨kl,Dw⟩:=NI (gL t) (by unfold gL;simp;omega);refine Rg.uG iQ uR x7 rfl rfl rfl Dw hW (fun agT agU=>?_)
     obtain rfl:v10=agT:=hW.val_one lG agU;have tS:=Q9 hLF (qe e) i (gL t);have Is:(dj (qe e)).length≤500:=BM hF;refine ab ⟨rfl,rfl,rfl,?_⟩;refine ad rfl rfl ?_;refine ab ⟨rfl,rfl,rfl,?_⟩;refine bT rfl ⟨_,rfl⟩ rfl ?_;refine ab ⟨rfl,rfl,rfl,?_⟩;refine bJ (o':=0) dX rfl rfl K7 (by decide) rfl rfl ?_;refine ab ⟨rfl,rfl,rfl,?_⟩;refine aN eE rfl rfl rfl (by first|assumption|exact de iq (by assumption)) rfl ?_;refine ab ⟨rfl,rfl,rfl,?_⟩;refine fS eE rfl ho rfl ?_;refine ab ⟨rfl,rfl,rfl,?_⟩;refine ad rfl rfl ?_;refine ab ⟨rfl,rfl,rfl,?_⟩;refine ad rfl rfl ?_;refine ab ⟨rfl,rfl,rfl,?_⟩;refine cv (M:=xx) cQ jY rfl rfl rfl qT (aq _ _) (by simp;omega) (fun u18 ps aap V5=>?_);rw[ay,bj,S0]at aap;obtain rfl:=aF aap;refine ab ⟨rfl,rfl,rfl,?_⟩;refine bU (M:=xx) ao rfl rfl rfl rfl rfl V5 (aq _ _) (fun v19 Ra=>?_);refine ab ⟨rfl,rfl,rfl,?_⟩;refine iM (places:=[(0,1),(1,1)]) bK l4 Y6 rfl ⟨_,_,rfl,rfl,_,_,rfl,rfl,rfl⟩ (out:=[_,_]) ⟨0,[_],rfl,rfl,by simp[Value.cells],1,[_],rfl,jE Ra,by simp[Value.cells],rfl⟩ ?_;have Dz:RT.po.V xx _ ((L.length:Int),posOf (qe e) t) _:=fg (gv (by omega)) Ra rfl rfl rfl rfl;refine ab ⟨rfl,rfl,rfl,?_⟩;refine eD ?_;have sM:=hR.o _ _ lG;refine⟨ik ⟨eW,⟨bZ.nilCheck rfl,⟨iJ dX rfl Ht (by decide),⟨ey rfl gb (fun h=>sM.eS gb (by decide) h),⟨eW,⟨eW,⟨bZ.nilCheck rfl,⟨iJ dX rfl Ht (by decide),⟨ey rfl gb (fun h=>sM.eS gb (by decide) h),⟨eW,⟨bZ.uG iQ uR x7 rfl rfl Dw hW (fun h=>sM.k8 hW.at_ h),trivial⟩⟩⟩⟩⟩⟩⟩⟩⟩⟩⟩,?_⟩;have kp:=jl (fD v10) Hu;refine eu (A:=RT.po) (hn:=by decide) (M:=xx) bA l4 (by decide) rfl rfl hM (Dz) (.inl rfl) (fun agV agW Rb nc=>?_)
     have:=ak gb;replace eo:=(nc.mem _ this).2 eo;replace gb:=nc.aL gb;replace dx:=dx.le (by decide) nc.le;replace ha:=ha.le nc.le;replace qT:=qT.le nc.le;replace ho:=ho.aO nc;replace fm:=(nc.mem _ (ak hW.at_)).2 fm;replace hW:=hW.aO nc;replace hR:=hR.aO nc;replace hM:=nc.lt hM;have:=S.size;replace S:=S.aB nc;refine(fun(kp:eJ _ _ _)=>ab ⟨rfl,rfl,fun _=>kp,?_⟩) (by first|exact kp|exact kp.ry (by assumption)|exact kp.goN (by assumption)|exact kp.go (by assumption) (fun _ _ h=>by first|exact h|exact h.elim));refine l0 (M:=xx) (base:=B) bA l4 rfl rfl rfl rfl (hR.o _ _ lG) Rb (aq _ _) (by simp;omega) (by simp;omega) (by have:=S.size;omega) (fun v22 w22 agX NT agY=>?_);have sM:=hR.o _ _ lG;have amw:=hW.at_;have aaq:v10.ownBlock≠some mb:=sM.k8 hW.at_;have Tv:=ho.step NT (fun c hc h=>ho.dw sM (by decide) hc h);have Hw:=(NT.mem _ (ak hW.at_)).2 fm;have Rc:=hW.step NT aaq;have aar:=NT.keep gb (fun h=>sM.eS gb (by decide) h);have V6:=(NT.mem _ (ak gb)).2 eo;have S22:=S.trans NT (fun k hk h=>⟨hR.z _ _ k lG h,(S.mem k hk).1 (sM.mut_ k h)⟩);have agZ:=NT.lt hM;replace dx:=dx.le (by decide) NT.le;replace ha:=ha.le NT.le;replace qT:=qT.le NT.le;refine(fun(kp:eJ _ _ _)=>ab ⟨rfl,rfl,fun _=>kp,?_⟩) (by first|exact kp|exact kp.ry (by assumption)|exact kp.goN (by assumption)|exact kp.go (by assumption) (fun _ _ h=>by first|exact h|exact h.elim));refine Rg.QZ iQ uR rfl rfl rfl Dw Rc Hw (fun w23 ag0 ag1 ag2 ag3 V7 PS=>?_);have ag4:=hR.put (fun c hc=>hZ c (by have:=S.size;omega)) lG agX NT agY Rc.at_ PS V7 ag3;replace dx:=dx.le (by decide) PS.le;replace ha:=ha.le PS.le;replace qT:=qT.le PS.le;have ag5:=Tv.step PS (fun c hc (h:c=mb)=>Tv.k8 Rc.at_ (h▸hc));have ag6:=PS.keep aar Tk;have V8:=(PS.mem _ (ak aar)).2 V6
     have V9:=(PS.mem _ (ak Rc.at_)).2 Hw;have ag7:=PS.lt agZ;have S23:=S22.trans PS (fun k hk (h:k=mb)=>⟨by rw[h];exact IQ,(S22.mem k hk).1 (by rw[h];exact Hw)⟩);refine ab ⟨rfl,rfl,fun h=>absurd rfl h,?_⟩;refine lJ (ae (bG rfl rfl rfl (by omega) (ad rfl rfl (ab ?_))));refine⟨rfl,i+1,(.cons rfl (.cons rfl (.cons rfl (.cons rfl (.cons rfl (.cons rfl .nil)))))),?_,?_⟩
     ·exact⟨_,ag0,ag1,ag7,S23,dx,ha,qT,⟨ag6,V8,V9,hB,IQ,ag5,ag2,ag4.congr (fun k=>NM S0 k) (fun k=>by rw[bI,S0,cJ,ec,cr,or_assoc];simp),zl⟩,by omega⟩
     ·omega
    ·refine cH (aj ?_);apply T.oG 6 [0,1,2,3,4] 3 (fD vl) mixed rfl rfl rfl rfl;intro Vu Vv;have pJ:=Vv M1;have:=ak gb;replace eo:=(pJ.mem _ this).2 eo;replace gb:=pJ.aL gb;replace dx:=dx.le (by decide) pJ.le;replace ha:=ha.le pJ.le;replace qT:=qT.le pJ.le;replace ho:=ho.aO pJ;replace fm:=(pJ.mem _ (ak hW.at_)).2 fm;replace hW:=hW.aO pJ;replace hR:=hR.aO pJ;replace hM:=pJ.lt hM;have:=S.size;replace S:=S.aB pJ;refine ad rfl rfl ?_;refine ab ⟨rfl,rfl,rfl,?_⟩;refine ad rfl rfl ?_;refine ab ⟨rfl,rfl,rfl,?_⟩;refine bT rfl ⟨_,rfl⟩ rfl ?_;refine ab ⟨rfl,rfl,rfl,?_⟩;refine bJ (o':=0) dX rfl rfl K7 (by decide) rfl rfl ?_;refine ab ⟨rfl,rfl,rfl,?_⟩;refine aN eE rfl rfl rfl gb rfl (aU (v':=vl) rfl ?_);refine ab ⟨rfl,rfl,rfl,?_⟩;refine cT (M:=M1) (A:=RT.en) dV rfl Dx (by decide) rfl rfl rfl dx (aq _ _) (fun SV CC=>?_);refine ab ⟨rfl,rfl,rfl,?_⟩;refine eD ?_;refine⟨ik ⟨eW,⟨eW,⟨bZ.nilCheck rfl,⟨iJ dX rfl K7 (by decide),⟨ey rfl gb (fun h=>ho.eS gb (by decide) h),trivial⟩⟩⟩⟩⟩,?_⟩;have kp:=jl (fD vl) Vu;refine aX rfl rfl E88 (Nx _ hM CC (by have:=hF.few;omega)) (fun amy w13 hc=>?_);obtain⟨Hx,xy⟩:=hc;have:=ak gb;replace eo:=(xy.mem _ this).2 eo;replace gb:=xy.aL gb;replace dx:=dx.le (by decide) xy.le;replace ha:=ha.le xy.le;replace qT:=qT.le xy.le;replace ho:=ho.aO xy;replace fm:=(xy.mem _ (ak hW.at_)).2 fm;replace hW:=hW.aO xy;replace hR:=hR.aO xy;replace hM:=xy.lt hM;have:=S.size;replace S:=S.aB xy;refine(fun(kp:eJ _ _ _)=>ab ⟨rfl,rfl,fun _=>kp,?_⟩) (by first|exact kp|exact kp.ry (by assumption)|exact kp.goN (by assumption)|exact kp.go (by assumption) (fun _ _ h=>by first|exact h|exact h.elim));refine eu (A:=RT.en) (hn:=by decide) (M:=M1) eE Dx (by decide) rfl rfl hM (Hx) (.inl rfl) (fun amz amA Wa qf=>?_)
     have:=ak gb;replace eo:=(qf.mem _ this).2 eo;replace gb:=qf.aL gb;replace dx:=dx.le (by decide) qf.le;replace ha:=ha.le qf.le;replace qT:=qT.le qf.le;replace Hx:=Hx.le qf.le;replace ho:=ho.aO qf;replace fm:=(qf.mem _ (ak hW.at_)).2 fm;replace hW:=hW.aO qf;replace hR:=hR.aO qf;replace hM:=qf.lt hM;have:=S.size;replace S:=S.aB qf;refine(fun(kp:eJ _ _ _)=>ab ⟨rfl,rfl,fun _=>kp,?_⟩) (by first|exact kp|exact kp.ry (by assumption)|exact kp.goN (by assumption)|exact kp.go (by assumption) (fun _ _ h=>by first|exact h|exact h.elim));refine l0 (M:=M1) (base:=B) eE Dx rfl rfl rfl rfl ho Wa (aq _ _) (by simp;omega) (by simp;omega) (by have:=S.size;omega) (fun EW amB Wb xz Wc=>?_);replace eo:=(xz.mem _ (ak gb)).2 eo
     have zl':∀c,EW.ownBlock=some c→Z c:=fun c hc=>by
      rcases Wc c hc with h|h
      ·exact hZ c (by have:=S.size;omega)
      ·exact zl c h
     replace hR:=hR.step xz (fun k v c hv hc h=>(hR.o k v hv).dw ho (by decide) hc h);replace fm:=(xz.mem _ (ak hW.at_)).2 fm;replace hW:=hW.step xz (fun h=>ho.k8 hW.at_ h);replace gb:=xz.keep gb (fun h=>ho.eS gb (by decide) h);replace dx:=dx.le (by decide) xz.le;replace S:=S.trans xz (fun k hk h=>⟨zl k h,(S.mem k hk).1 (ho.mut_ k h)⟩);replace hM:=xz.lt hM;replace ho:=Wb;obtain⟨IY,NU⟩:∃M',M'=jF M1 EW:=⟨_,rfl⟩;rw[←NU]at hR fm dx S hM ho eo;refine(fun(kp:eJ _ _ _)=>ab ⟨rfl,rfl,fun _=>kp,?_⟩) (by first|exact kp|exact kp.ry (by assumption)|exact kp.goN (by assumption)|exact kp.go (by assumption) (fun _ _ h=>by first|exact h|exact h.elim));refine bT rfl ⟨_,rfl⟩ rfl ?_;refine ab ⟨rfl,rfl,fun h=>absurd rfl h,?_⟩;refine bJ (o':=0) dX rfl rfl K7 (by decide) rfl rfl ?_;refine ab ⟨rfl,rfl,fun h=>absurd rfl h,?_⟩;refine cw (M:=IY) K7 rfl rfl gb rfl (by obtain⟨_,_,he,_⟩:=ho.isSlice;rw[he];rfl) eo (fun Wd NV pO=>?_);change Wd.heap[_]? =some (Obj.cells #[EW,.map (some mb),.int .i64 words,.int .i64 last] _ _)at NV;have:=ak gb;replace eo:=(pO.mem _ this).2 eo;replace dx:=dx.le (by decide) pO.le;replace ho:=ho.step pO (fun c hc (h:_=_)=>by first|exact ho.eS gb (by decide) (h▸hc)|exact ho.eS pN (by decide) (h▸hc));replace fm:=(pO.mem _ (ak hW.at_)).2 fm;replace hW:=hW.step pO (by first|exact fun h=>ho.k8 hW.at_ h|exact fun(h:mb=b)=>Tk h.symm|exact fun(h:mb=zK)=>by have h9:=hW.at_;rw[h,pN]at h9;cases h9);replace hR:=hR.step pO (by first|exact fun k v c hv hc h=>(hR.o k v hv).dw ho (by decide) hc h|exact fun k v c hv hc (h:c=b)=>(hR.o k v hv).eS gb (by decide) (h▸hc)|exact fun k v c hv hc (h:c=zK)=>(hR.o k v hv).eS pN (by decide) (h▸hc));replace hM:=pO.lt hM;have:=S.size;replace S:=S.trans pO (fun k hk h=>by have h:_=_:=h;subst h;first|(exfalso;omega)|(show _≤_;omega)|exact⟨by first|omega|assumption,(S.mem _ hk).1 ((pO.mem _ (ak gb)).1 eo)⟩|exact .inl rfl|exact .inr rfl|exact .inr (.inl rfl)|exact .inr (.inr rfl)|exact .inr (.inr (.inl rfl))|exact rfl)
     have Ng:=NV;clear gb;have gb:=Ng;clear Ng;refine ab ⟨rfl,rfl,fun h=>absurd rfl h,?_⟩;refine lJ (aj ?_);apply T.oG 6 [0,1,2,3] 1 aC mixed rfl rfl rfl rfl;intro NW NX;have lR:=NX IY;have:=ak gb;replace eo:=(lR.mem _ this).2 eo;replace gb:=lR.aL gb;replace dx:=dx.le (by decide) lR.le;replace ho:=ho.aO lR;replace fm:=(lR.mem _ (ak hW.at_)).2 fm;replace hW:=hW.aO lR;replace hR:=hR.aO lR;replace hM:=lR.lt hM;have:=S.size;replace S:=S.aB lR;refine ad rfl rfl ?_;refine ab ⟨rfl,rfl,rfl,?_⟩;refine bT rfl ⟨_,rfl⟩ rfl ?_;refine ab ⟨rfl,rfl,rfl,?_⟩;refine bJ (o':=2) dX rfl rfl I3 (by decide) rfl rfl ?_;refine ab ⟨rfl,rfl,rfl,?_⟩;refine aN ax rfl rfl rfl (by first|assumption|exact de lR (by assumption)) rfl ?_;refine ab ⟨rfl,rfl,rfl,?_⟩;refine aQ (M:=IY) (A:=RT.en) (B:=RT.dc) dV rfl rfl pD (by decide) ZN rfl rfl (by decide) dx (aq _ _) (fun amC We=>?_);refine ab ⟨rfl,rfl,rfl,?_⟩;refine cT (M:=IY) (A:=RT.dc) bm rfl pD (by decide) rfl rfl rfl We (aq _ _) (fun aas NY=>?_);refine ab ⟨rfl,rfl,rfl,?_⟩;refine eD ?_;refine⟨ik ⟨eW,⟨bZ.nilCheck rfl,⟨iJ dX rfl I3 (by decide),⟨ey rfl gb (fun h=>h),trivial⟩⟩⟩⟩,?_⟩;have kp:=jl aC NW;refine aX rfl rfl E89 (EB _ hM NY hl hF.few) (fun r14 VH hc=>?_);obtain⟨rfl,ka⟩:=hc;have:=ak gb;replace eo:=(ka.mem _ this).2 eo;replace gb:=ka.aL gb;replace dx:=dx.le (by decide) ka.le;replace ho:=ho.aO ka;replace fm:=(ka.mem _ (ak hW.at_)).2 fm;replace hW:=hW.aO ka;replace hR:=hR.aO ka;replace hM:=ka.lt hM;have:=S.size;replace S:=S.aB ka;refine(fun(kp:eJ _ _ _)=>ab ⟨rfl,rfl,fun _=>kp,?_⟩) (by first|exact kp|exact kp.ry (by assumption)|exact kp.goN (by assumption)|exact kp.go (by assumption) (fun _ _ h=>by first|exact h|exact h.elim))
     have:=hF.many;refine bG rfl rfl rfl (by omega) ?_;refine ab ⟨rfl,rfl,fun h=>absurd rfl h,?_⟩;refine bT rfl ⟨_,rfl⟩ rfl ?_;refine ab ⟨rfl,rfl,fun h=>absurd rfl h,?_⟩;refine bJ (o':=2) dX rfl rfl I3 (by decide) rfl rfl ?_;refine ab ⟨rfl,rfl,fun h=>absurd rfl h,?_⟩;refine cw (M:=IY) I3 rfl rfl gb rfl (rfl) eo (fun Wf NZ pP=>?_);change Wf.heap[_]? =some (Obj.cells #[EW,.map (some mb),.int .i64 (words+((qe e).length:Int)),.int .i64 last] _ _)at NZ;have:=ak gb;replace eo:=(pP.mem _ this).2 eo;replace dx:=dx.le (by decide) pP.le;replace ho:=ho.step pP (fun c hc (h:_=_)=>by first|exact ho.eS gb (by decide) (h▸hc)|exact ho.eS pN (by decide) (h▸hc));replace fm:=(pP.mem _ (ak hW.at_)).2 fm;replace hW:=hW.step pP (by first|exact fun h=>ho.k8 hW.at_ h|exact fun(h:mb=b)=>Tk h.symm|exact fun(h:mb=zK)=>by have h9:=hW.at_;rw[h,pN]at h9;cases h9);replace hR:=hR.step pP (by first|exact fun k v c hv hc h=>(hR.o k v hv).dw ho (by decide) hc h|exact fun k v c hv hc (h:c=b)=>(hR.o k v hv).eS gb (by decide) (h▸hc)|exact fun k v c hv hc (h:c=zK)=>(hR.o k v hv).eS pN (by decide) (h▸hc));replace hM:=pP.lt hM;have:=S.size;replace S:=S.trans pP (fun k hk h=>by have h:_=_:=h;subst h;first|(exfalso;omega)|(show _≤_;omega)|exact⟨by first|omega|assumption,(S.mem _ hk).1 ((pP.mem _ (ak gb)).1 eo)⟩|exact .inl rfl|exact .inr rfl|exact .inr (.inl rfl)|exact .inr (.inr rfl)|exact .inr (.inr (.inl rfl))|exact rfl);have Ng:=NZ;clear gb;have gb:=Ng;clear Ng;refine ab ⟨rfl,rfl,fun h=>absurd rfl h,?_⟩;refine lJ (aj (ae (ad rfl rfl ?_)));refine aQ (M:=IY) (A:=RT.en) (B:=RT.int .i64) dV rfl rfl I3 (by decide) en1 rfl rfl (by decide) dx (aq _ _) (fun amD ag9=>?_);refine cd (M:=IY) ax rfl rfl (by assumption) (by repeat (first|exact aq _ _|refine bc (bF (by assumption)) ?_)) (fun N0=>?_)
     refine aU (v':= .int .i64 (e.2)) rfl ?_;replace N0: -9223372036854775808≤(e.2:Int)∧e.2≤9223372036854775807:=N0;refine bT rfl ⟨_,rfl⟩ rfl (bJ (o':=3) dX rfl rfl I3 (by decide) rfl rfl ?_);refine cw (M:=IY) I3 rfl rfl gb rfl (rfl) eo (fun Tx Ty kg=>?_);change Tx.heap[_]? =some (Obj.cells #[EW,.map (some mb),.int .i64 (words+((qe e).length:Int)),.int .i64 e.2] _ _)at Ty;have:=ak gb;replace eo:=(kg.mem _ this).2 eo;replace dx:=dx.le (by decide) kg.le;replace ho:=ho.step kg (fun c hc (h:_=_)=>by first|exact ho.eS gb (by decide) (h▸hc)|exact ho.eS pN (by decide) (h▸hc));replace fm:=(kg.mem _ (ak hW.at_)).2 fm;replace hW:=hW.step kg (by first|exact fun h=>ho.k8 hW.at_ h|exact fun(h:mb=b)=>Tk h.symm|exact fun(h:mb=zK)=>by have h9:=hW.at_;rw[h,pN]at h9;cases h9);replace hR:=hR.step kg (by first|exact fun k v c hv hc h=>(hR.o k v hv).dw ho (by decide) hc h|exact fun k v c hv hc (h:c=b)=>(hR.o k v hv).eS gb (by decide) (h▸hc)|exact fun k v c hv hc (h:c=zK)=>(hR.o k v hv).eS pN (by decide) (h▸hc));replace hM:=kg.lt hM;have:=S.size;replace S:=S.trans kg (fun k hk h=>by have h:_=_:=h;subst h;first|(exfalso;omega)|(show _≤_;omega)|exact⟨by first|omega|assumption,(S.mem _ hk).1 ((kg.mem _ (ak gb)).1 eo)⟩|exact .inl rfl|exact .inr rfl|exact .inr (.inl rfl)|exact .inr (.inr rfl)|exact .inr (.inr (.inl rfl))|exact rfl);have Ng:=Ty;clear gb;have gb:=Ng;clear Ng;refine ab (aj (ae (ah rfl rfl (ab (aP ?_)))));have ea:nw last e=0:=by unfold nw;rw[if_neg (fun h=>h (by simpa using c2)),if_neg c4]
     exact aV rfl rfl ⟨_,hM,S,by rw[ea],fun h=>absurd ea h,fun _=>⟨mb,_,es,clock,gb,eo,fm,hB,IQ,ho,hW,hR.congr (fun k=>(Q8 (by omega) k).symm) (fun k=>by rw[Ho,cr,aW (by omega)]),zl'⟩⟩
end Go.K

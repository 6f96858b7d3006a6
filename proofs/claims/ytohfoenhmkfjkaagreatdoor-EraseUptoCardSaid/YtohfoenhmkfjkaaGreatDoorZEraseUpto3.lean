/- What the law 'EraseUpto' needs of walks and plain Lean, part 3: nothing is assumed beyond the texts that it imports. -/
import Derived.Deep.Draws
import Derived.DeepKeys4
import Derived.Ground.GgzProg
import Derived.Ground.SlgmProg
import Derived.Ground.SlsfProg
import Derived.KernelRfl
import Derived.Lib.Bytealg
import Derived.Shelf.SlGeneric
import Derived.Shelf.SlIter.Nil
import Derived.Shelf.SlIterI.Nil
import Derived.Shelf.SlSortCmp.NoneTotal
import Derived.Shelf.SortM.Plain
import Derived.Shelf.SortM.SortNone
import Derived.Sort.Grow
import Derived.Sort.KeysCollected
import Derived.Sort.Walk0
import Derived.Test.YtohfoenhmkfjkaaGreatDoorProg
import Derived.Test.YtohfoenhmkfjkaaGreatDoorZEraseUpto1
import Derived.Test.YtohfoenhmkfjkaaGreatDoorZEraseUpto2
set_option linter.unusedVariables false
set_option linter.unusedSimpArgs false
theorem jB:type_of% @Go.K.Rg.kM:=@Go.K.Rg.kM
namespace Go.K
open Go.Proofs
set_option maxRecDepth 10000
theorem vT {M:az} {d:Dc} {v0:Value} (w0:World) (hM:Lt M w0) (hv:RT.dc.V M w0 d v0) (hl:∀f∈d.2,f.1.length≤900000∧f.2.length≤900000):
  Spec Tryz.prog 117 #[v0] w0 (fun v w=>v= .int .i64 (kN d)∧Step M w0 M w aA):=by
 have ku:=hM;refine aW (args:=[_]) (fn:=Tryz.f117) Tryz.func117 rfl (n:=66) Tryz.ntmps117 ?_;have S:Step M w0 M w0 aA:=(an _ _).ca (fun _ h=>h.elim) (fun _ h=>h.elim);refine aj (ah ?_);refine jB (A:=RT.dc) rfl rfl hM hv rfl (fun u0 w1 cA s0 _=>?_);replace hM:=s0.lt hM;have:=S.size;replace S:=S.ax s0;refine ai rfl rfl (ad (aj (aj (ah ?_))));refine aJ (M:=M) (A:=RT.dc) (B:=(RT.fd).sl) aO rfl rfl qC (by decide) (Dt) rfl rfl (by decide) (by assumption) (by repeat (first|exact aq _ _|refine aT (a7 (by assumption)) ?_)) (fun uQ jN=>?_);refine cg (M:=M) aV rfl rfl rfl rfl rfl (by assumption) (by repeat (first|exact aq _ _|refine aT (a7 (by assumption)) ?_)) (fun uR kT=>?_);refine bU aV rfl kT rfl (mG rfl rfl rfl (ad ?_));refine bF rfl (fun c1=>?_) (fun c1=>?_)
 ·refine aj (ah (ai rfl rfl (ad (aH ?_))));exact aP rfl rfl ⟨by rw[kN,if_pos (by omega)],S.back⟩
 ·refine aU (aj (ah (ai rfl rfl (ad (aj (aj (ah (ai rfl rfl (ad (bj ?_))))))))));refine dI (σ:=Nat×Nat) (fun q=>[(1,u0),(3,.int .i64 (q.2:Int)),(4,.int .i64 (q.1:Int))]) (fun q w=>Lt M w∧Step M w0 M w aA∧ch RT.dc M w u0 d∧kN d=tB (d.2.take q.1) (d.2.drop q.1) q.2∧q.1≤d.2.length∧q.2≤900001*q.1∧d.2.length≤8) (fun q=>d.2.length-q.1) (0,0) (.cons rfl (.cons rfl (.cons rfl .nil))) ?_ ?_
  ·exact⟨hM,S,cA,by rw[kN,if_neg (by omega)];rfl,bH _,a8 _,by omega⟩
  ·rintro⟨i,n⟩ w ⟨hM,S,cA,A6,hi,hn,Th⟩;dsimp only at A6 hi hn ⊢;refine aj (aj (ah (ae rfl rfl ?_)));refine aJ (M:=M) (A:=RT.dc) (B:=(RT.fd).sl) aO rfl rfl qC (by decide) (Dt) rfl rfl (by decide) (by assumption) (by repeat (first|exact aq _ _|refine aT (a7 (by assumption)) ?_)) (fun VL J5=>?_);refine cg (M:=M) aV rfl rfl rfl rfl rfl (by assumption) (by repeat (first|exact aq _ _|refine aT (a7 (by assumption)) ?_)) (fun VM J6=>?_);refine bU aV rfl J6 rfl (cf rfl rfl rfl (ad ?_));refine bF rfl (fun c5=>?_) (fun c5=>?_)
   ·refine aU (aj (bj (aj (ah ?_))));refine aJ (M:=M) (A:=RT.dc) (B:=(RT.fd).sl) aO rfl rfl qC (by decide) (Dt) rfl rfl (by decide) (by assumption) (by repeat (first|exact aq _ _|refine aT (a7 (by assumption)) ?_)) (fun P9 Ct=>?_);refine cg (M:=M) aV rfl rfl rfl rfl rfl (by assumption) (by repeat (first|exact aq _ _|refine aT (a7 (by assumption)) ?_)) (fun VN J7=>?_);refine ae rfl rfl ?_;refine dq (M:=M) aV iB rfl rfl rfl J7 (aq _ _) (by omega) (fun adj x zb Z4=>?_);rw[aC]at zb;refine aJ (M:=M) (A:=RT.fd) (B:=RT.str) bR rfl rfl I9 (by decide) (LV) rfl rfl (by decide) (by assumption) (by repeat (first|exact aq _ _|refine aT (a7 (by assumption)) ?_)) (fun adk Qa=>?_);refine cg (M:=M) aD rfl rfl rfl rfl rfl Qa (aq _ _) (fun adl Qb=>?_);obtain rfl:=fD Qb;have il:=Cr (n:=n) zb;have uA:=hl _ (aN zb);refine aM rfl rfl Pk (tC x.1 (by omega) _) (fun r7 w7 hc=>?_);obtain⟨rfl,rfl⟩:=hc;refine ai rfl rfl (ad (aj (aj (ah (ae rfl rfl (Rg.not rfl rfl (bp (v':= .bool (decide (eT x.1=false))) (by cases eT x.1<;>rfl) (ad ?_))))))));refine bF rfl (fun c8=>?_) (fun c8=>?_)
    ·refine aj (ah (ai rfl rfl (ad (aH ?_))));exact aP rfl rfl ⟨by rw[A6,il,if_pos (by assumption)],S.back⟩
    ·refine aU (aj (aj (ah (ai rfl rfl (ad (bj ?_))))));refine dI (σ:=Nat) (fun j=>[(1,u0),(3,.int .i64 (n:Int)),(4,.int .i64 (i:Int)),(6,.int .i64 (j:Int))]) (fun j w=>Lt M w∧Step M w0 M w aA∧ch RT.dc M w u0 d∧j≤i∧∀k y,k<j→d.2[k]? =some y→y.1≠x.1) (fun j=>i-j) 0 (.cons rfl (.cons rfl (.cons rfl (.cons rfl .nil)))) ?_ ?_
     ·exact⟨hM,S,cA,bH _,fun k c h=>absurd h (jQ k)⟩
     ·rintro j w ⟨hM,S,cA,hj,iK⟩;refine aj (aj (ah (ae rfl rfl (ae rfl rfl (cf rfl rfl rfl (ad ?_))))));refine bF rfl (fun E8=>?_) (fun E8=>?_)
      ·refine aU (aj (bj (aj ?_)));apply T.ki mixed rfl rfl;intro L3 L4;have l6:=L4 M;replace cA:=cA.le (by decide) l6.le;replace hM:=l6.lt hM;have:=S.size;replace S:=S.ax l6;refine aJ (M:=M) (A:=RT.dc) (B:=(RT.fd).sl) aO rfl rfl qC (by decide) (Dt) rfl rfl (by decide) (by assumption) (by repeat (first|exact aq _ _|refine aT (a7 (by assumption)) ?_)) (fun Z5 VO=>?_);refine ad ⟨rfl,rfl,rfl,?_⟩;refine cg (M:=M) aV rfl rfl rfl rfl rfl (by assumption) (by repeat (first|exact aq _ _|refine aT (a7 (by assumption)) ?_)) (fun Z6 L5=>?_);refine ad ⟨rfl,rfl,rfl,?_⟩;refine ae rfl rfl ?_;refine ad ⟨rfl,rfl,rfl,?_⟩;refine dq (M:=M) aV iB rfl rfl rfl L5 (aq _ _) (by omega) (fun J8 y A7 eR=>?_);rw[aC]at A7;refine ad ⟨rfl,rfl,rfl,?_⟩;refine aJ (M:=M) (A:=RT.fd) (B:=RT.str) bR rfl rfl I9 (by decide) (LV) rfl rfl (by decide) (by assumption) (by repeat (first|exact aq _ _|refine aT (a7 (by assumption)) ?_)) (fun eU L6=>?_);refine ad ⟨rfl,rfl,rfl,?_⟩;refine cg (M:=M) aD rfl rfl rfl rfl rfl L6 (aq _ _) (fun J9 xD=>?_);obtain rfl:=fD xD;refine ad ⟨rfl,rfl,rfl,?_⟩;refine aJ (M:=M) (A:=RT.dc) (B:=(RT.fd).sl) aO rfl rfl qC (by decide) (Dt) rfl rfl (by decide) (by assumption) (by repeat (first|exact aq _ _|refine aT (a7 (by assumption)) ?_)) (fun Ka FB=>?_);refine ad ⟨rfl,rfl,rfl,?_⟩;refine cg (M:=M) aV rfl rfl rfl rfl rfl (by assumption) (by repeat (first|exact aq _ _|refine aT (a7 (by assumption)) ?_)) (fun Z7 L7=>?_);refine ad ⟨rfl,rfl,rfl,?_⟩;refine ae rfl rfl ?_;refine ad ⟨rfl,rfl,rfl,?_⟩;refine dq (M:=M) aV iB rfl rfl rfl L7 (aq _ _) (by omega) (fun Z8 z FC VP=>?_)
       rw[aC]at FC;refine ad ⟨rfl,rfl,rfl,?_⟩;refine aJ (M:=M) (A:=RT.fd) (B:=RT.str) bR rfl rfl I9 (by decide) (LV) rfl rfl (by decide) (by assumption) (by repeat (first|exact aq _ _|refine aT (a7 (by assumption)) ?_)) (fun VQ Iz=>?_);refine ad ⟨rfl,rfl,rfl,?_⟩;refine cg (M:=M) aD rfl rfl rfl rfl rfl Iz (aq _ _) (fun VR IA=>?_);obtain rfl:=fD IA;refine ad ⟨rfl,rfl,rfl,?_⟩;refine Rg.B8 (p:=y.1) (q:=z.1) rfl rfl rfl ?_;obtain rfl:x=z:=bQ (zb.symm.trans FC);refine ad ⟨rfl,rfl,rfl,?_⟩;refine fE ?_;refine bF rfl (fun IB=>?_) (fun IB=>?_)
       ·refine aj (ah (ai rfl rfl (ad (aH ?_))));have FD:((d.2.take i).any fun g=>decide (g.1=x.1))=true:=qj.2 ⟨y,aN (i:=j) (by rw[dr,if_pos (by omega)];exact A7),by simpa using(by assumption)⟩;exact aP rfl rfl ⟨by rw[A6,il,if_neg (by assumption),if_pos FD],S.back⟩
       ·refine aU (ah (ae rfl rfl (bz rfl rfl rfl (by omega) (ai rfl rfl (ad ?_)))));refine⟨rfl,j+1,(.cons rfl (.cons rfl (.cons rfl (.cons rfl .nil)))),?_,?_⟩
        ·exact⟨hM,S,cA,by omega,fun k y' h hc=>by
          rcases cB k j with h2|h2
          ·exact iK k y' h2 hc
          ·obtain rfl:k=j:=by omega
           rw[A7]at hc;cases hc;assumption⟩
        ·omega
      ·refine cM (aj (ah ?_));refine aJ (M:=M) (A:=RT.dc) (B:=(RT.fd).sl) aO rfl rfl qC (by decide) (Dt) rfl rfl (by decide) (by assumption) (by repeat (first|exact aq _ _|refine aT (a7 (by assumption)) ?_)) (fun Z9 VS=>?_);refine cg (M:=M) aV rfl rfl rfl rfl rfl (by assumption) (by repeat (first|exact aq _ _|refine aT (a7 (by assumption)) ?_)) (fun aaa L8=>?_);refine ae rfl rfl ?_;refine dq (M:=M) aV iB rfl rfl rfl L8 (aq _ _) (by omega) (fun aab z FE VT=>?_);rw[aC]at FE;refine aJ (M:=M) (A:=RT.fd) (B:=RT.str) bR rfl rfl I9 (by decide) (Te) rfl rfl (by decide) (by assumption) (by repeat (first|exact aq _ _|refine aT (a7 (by assumption)) ?_)) (fun aac L9=>?_);refine cg (M:=M) aD rfl rfl rfl rfl rfl L9 (aq _ _) (fun aad Mc=>?_);obtain rfl:=fD Mc;obtain rfl:x=z:=bQ (zb.symm.trans FE);refine aM rfl rfl UA (A3 _ hM uA.2) (fun r15 Qd hc=>?_);obtain⟨⟨u15,rfl,VU⟩,xE⟩:=hc;replace cA:=cA.le (by decide) xE.le;replace hM:=xE.lt hM;have:=S.size;replace S:=S.ax xE;refine ae rfl rfl (bO rfl rfl rfl (bO rfl rfl rfl (ai rfl rfl (ai rfl rfl (ad (aj (aj (ah (ae rfl rfl (eN rfl rfl rfl (ad ?_)))))))))));refine bF rfl (fun Oj=>?_) (fun Oj=>?_)
       ·refine aj (ah (ae rfl rfl (ai rfl rfl (ad (aH ?_)))))
        have FD:((d.2.take i).any fun g=>decide (g.1=x.1))=false:=eF.2 fun h=>by
         obtain⟨y,hy,he⟩:=qj.1 h;obtain⟨k,hk⟩:=bN.1 hy;rw[dr]at hk
         split at hk
         ·exact iK k y (by omega) hk (by simpa using he)
         ·cases hk
        exact aP rfl rfl ⟨by rw[A6,il,if_neg (by assumption),if_neg (by rw[FD];simp),if_pos Oj];rfl,S.back⟩
       ·refine aU (ah (ae rfl rfl ?_));have P8:kx 0 (words x.2)=0:=Classical.not_not.1 Oj;obtain⟨a,cap,rfl⟩:=VU P8;have Z3:=nR x.2;refine ae rfl rfl (Rg.xl Tryz.underlying222 rfl rfl (bz rfl rfl rfl (by omega) (ai rfl rfl (ad (ah (ae rfl rfl (bz rfl rfl rfl (by omega) (ai rfl rfl (ad ?_)))))))))
        have FD:((d.2.take i).any fun g=>decide (g.1=x.1))=false:=eF.2 fun h=>by
         obtain⟨y,hy,he⟩:=qj.1 h;obtain⟨k,hk⟩:=bN.1 hy;rw[dr]at hk
         split at hk
         ·exact iK k y (by omega) hk (by simpa using he)
         ·cases hk
        refine⟨rfl,(i+1,n+(words x.2).length),(.cons rfl (.cons rfl (.cons rfl .nil))),?_,?_⟩
        ·exact⟨hM,S,cA,by rw[A6,il,if_neg (by assumption),if_neg (by rw[FD];simp),if_neg Oj],by dsimp only;omega,by dsimp only;omega,Th⟩
        ·dsimp only;omega
   ·refine cM (aj (aj (ah (ae rfl rfl (mG rfl rfl rfl (ad ?_))))));refine bF rfl (fun U4=>?_) (fun U4=>?_)
    ·refine aj (ah (ai rfl rfl (ad (aH ?_))));exact aP rfl rfl ⟨by rw[A6,pH (by omega),if_pos (by omega)],S.back⟩
    ·refine aU (aj (ah (ai rfl rfl (ad (aH ?_)))));exact aP rfl rfl ⟨by rw[A6,pH (by omega),if_neg (by omega)],S.back⟩
def zc:List (List UInt8):=[[116],[117],[118],[119]]
def fixF (i:Nat) (x:Fd):Fd:=(if eT x.1=true then x.1 else zc.getD i [],x.2.take 40)
def lG (id:Int):Nat→List Fd→List Fd→List Fd
 |_,out,[]=>out
 |i,out,x::fs=>if i<4 then(if kN (id,out++[fixF i x])=0 then lG id (i+1) (out++[fixF i x]) fs else lG id (i+1) out fs)else out
def mA (d:Dc):Dc:=(d.1,lG d.1 0 [] d.2)
def oV (l:List Fd):Prop:=∀x∈l,x.1.length≤12∧x.2.length≤40
theorem zd {s:List UInt8} (h:eT s=true):s.length≤12:=by
 simp only[eT,bC,decide_eq_true_eq]at h;omega
theorem tD {i:Nat} (x:Fd) (hi:i<4):(fixF i x).1.length≤12∧(fixF i x).2.length≤40:=by
 refine⟨?_,by simp only[fixF,bG];omega⟩;unfold fixF;dsimp only
 split
 ·exact zd (by assumption)
 ·have h:i=0∨i=1∨i=2∨i=3:=by omega
  rcases h with rfl|rfl|rfl|rfl<;>decide
theorem oV.snoc {l:List Fd} {x:Fd} (h:oV l) (hx:x.1.length≤12∧x.2.length≤40):oV (l++[x]):=fun y hy=>by
 rcases cZ.1 hy with hy|hy
 ·exact h y hy
 ·rw[cn.1 hy];exact hx
theorem FF {id:Int} {fs:List Fd} {i:Nat} {out:List Fd} {x:Fd} (h:fs[i]? =some x) (hi:i<4):lG id i out (fs.drop i)=if kN (id,out++[fixF i x])=0 then lG id (i+1) (out++[fixF i x]) (fs.drop (i+1))else lG id (i+1) out (fs.drop (i+1)):=by
 have dy:=(au.1 h).1;rw[de dy,(au.1 h).2];show(if i<4 then _ else _)=_;rw[if_pos hi]
theorem vU {id:Int} {fs:List Fd} {i:Nat} {out:List Fd} (h:fs.length≤i∨4≤i):lG id i out (fs.drop i)=out:=by
 cases hd:fs.drop i with
 |nil=>rfl
 |cons x r=>
  show(if i<4 then _ else _)=_;rw[if_neg];rcases h with h|h
  ·rw[jA h]at hd;cases hd
  ·omega
theorem ze (l:List UInt8):l.take (min (l.length:Int) 40).toNat=l.take 40:=by
 by_cases h:l.length≤40
 ·rw[bI (by omega),bI h]
 ·congr 1;omega
theorem Dx {M:az} {d:Dc} {v0:Value} (w0:World) (hM:Lt M w0) (hv:RT.dc.V M w0 d v0):
  Spec Tryz.prog 65 #[v0] w0 (fun v w=>RT.dc.V M w (mA d) v∧Step M w0 M w aA):=by
 have ku:=hM
 have Ti: -9223372036854775808≤d.1∧d.1≤9223372036854775807:=by
  obtain⟨vs,⟨va,vb,_,⟨_,h1,h2⟩,_⟩,_⟩:=hv;exact⟨h1,h2⟩
 refine aW (args:=[_]) (fn:=Tryz.f65) Tryz.func65 rfl (n:=67) Tryz.ntmps65 ?_;have S:Step M w0 M w0 aA:=(an _ _).ca (fun _ h=>h.elim) (fun _ h=>h.elim);refine aj (ah ?_);refine jB (A:=RT.dc) rfl rfl hM hv rfl (fun u0 w1 cA s0 _=>?_);replace hM:=s0.lt hM;have:=S.size;replace S:=S.ax s0;refine ff M k5 rfl (fun l7 A8 Md Me eS k8=>?_);obtain⟨ej,kz⟩:∃M',M'=ins M l7:=⟨_,rfl⟩;rw[←kz]at k8;have dY:ej l7:=by rw[kz];exact .inl rfl
 change A8.heap[l7]? =some (.cells #[.int .i64 0,.slice none 0 0] _ _)at eS;replace cA:=cA.le (by decide) k8.le;replace hM:=k8.lt hM;have:=S.size;replace S:=S.ax k8;refine ad (aj (ah ?_));refine aJ (M:=ej) (A:=RT.dc) (B:=RT.int .i64) aO rfl rfl I3 (by decide) (P2) rfl rfl (by decide) (by assumption) (by repeat (first|exact aq _ _|refine aT (a7 (by assumption)) ?_)) (fun uQ jN=>?_);refine cd (M:=ej) ar rfl rfl (by assumption) (by repeat (first|exact aq _ _|refine aT (a7 (by assumption)) ?_)) (fun Kb=>?_);refine dX (places:=[(0,1),(1,1)]) aO k5 Ph rfl ⟨_,_,rfl,rfl,rfl⟩ (out:=[_,.slice none 0 0]) ⟨0,[_],rfl,rfl,by simp[Value.cells],rfl⟩ ?_;refine ff ej k5 rfl (fun jW xA Qe Qf gm s1_3=>?_);obtain⟨jv,ny⟩:∃M',M'=ins ej jW:=⟨_,rfl⟩;rw[←ny]at s1_3;have fk:jv jW:=by rw[ny];exact .inl rfl
 change xA.heap[jW]? =some (.cells #[.int .i64 0,.slice none 0 0] _ _)at gm;have:=ak eS;replace dY:=(s1_3.mem _ this).2 dY;replace eS:=s1_3.aG eS;replace cA:=cA.le (by decide) s1_3.le;replace hM:=s1_3.lt hM;have:=S.size;replace S:=S.ax s1_3;refine fj (M:=jv) (vs:=[.int .i64 d.1,.slice none 0 0]) k5 rfl rfl (by intro u hu;simp at hu;rcases hu with rfl|rfl<;>first|rfl|exact km (by assumption) rfl rfl) rfl rfl gm fk (fun w1b VV Mf=>?_);have:=ak eS;replace dY:=(Mf.mem _ this).2 dY;replace eS:=Mf.bE eS (fun hk=>by have hk:_=_:=hk;omega);have:=ak gm;replace fk:=(Mf.mem _ this).2 fk;replace cA:=cA.le (by decide) Mf.le;replace hM:=Mf.lt hM;have:=S.size;replace S:=S.trans Mf (fun k hk h=>by have h:_=_:=h;subst h;first|(exfalso;omega)|(show _≤_;omega)|exact⟨by first|omega|assumption,(S.mem _ hk).1 ((Mf.mem _ (ak gm)).1 fk)⟩|exact .inl rfl|exact .inr rfl|exact .inr (.inl rfl)|exact .inr (.inr rfl)|exact rfl);have rv:=VV;clear gm;have gm:=rv;clear rv;refine ad (aj (ah ?_));refine Rg.OK (A:=RT.str) (hn:=by decide) (M:=jv) (xs:=zc) bh I9 rfl (by decide) rfl ⟨_,_,_,rfl,rfl,rfl,ka.2 ⟨rfl,by decide⟩,_,_,_,rfl,rfl,rfl,ka.2 ⟨rfl,by decide⟩,_,_,_,rfl,rfl,rfl,ka.2 ⟨rfl,by decide⟩,_,_,_,rfl,rfl,rfl,ka.2 ⟨rfl,by decide⟩,rfl⟩ rfl hM (.inr ⟨rfl,rfl⟩) (by decide) (fun u2 w2 cR s2=>?_);have:=ak eS;replace dY:=(s2.mem _ this).2 dY;replace eS:=s2.aG eS;have:=ak gm;replace fk:=(s2.mem _ this).2 fk;replace gm:=s2.aG gm;replace cA:=cA.le (by decide) s2.le;replace hM:=s2.lt hM;have:=S.size;replace S:=S.ax s2;refine ai rfl rfl (ad (aj (aj (ah (ai rfl rfl (ad (bj ?_)))))));refine dI (σ:=Nat×List Fd) (fun q=>[(1,u0),(2,.pointer (some ⟨l7,0,none⟩)),(3,.pointer (some ⟨jW,0,none⟩)),(4,u2),(5,.int .i64 (q.1:Int))]) (fun q w=>∃M' uo,Lt M' w∧Step M w0 M' w aA∧ch RT.dc M' w u0 d∧(RT.str.sl).V M' w zc u2∧w.heap[l7]? =some (.cells #[.int .i64 0,.slice none 0 0] 41 (0,0))∧M' l7∧w.heap[jW]? =some (.cells #[.int .i64 d.1,uo] 41 (0,0))∧M' jW∧(RT.fd.sl).V M' w q.2 uo∧lG d.1 0 [] d.2=lG d.1 q.1 q.2 (d.2.drop q.1)∧q.1≤d.2.length∧q.1≤4∧oV q.2∧q.2.length≤q.1) (fun q=>d.2.length-q.1) (0,[]) (.cons rfl (.cons rfl (.cons rfl (.cons rfl (.cons rfl .nil))))) ?_ ?_
 ·exact⟨_,.slice none 0 0,hM,S,cA,cR,eS,dY,gm,fk,jK,rfl,bH _,bH _,(fun x hx=>by cases hx),a8 _⟩
 ·rintro⟨i,out⟩ w ⟨M1,uo,hM,S,cA,cR,g2,cK,g3,dW,gV,tx,hi,VW,wY,o5⟩;dsimp only at g3 gV tx hi VW wY o5 ⊢;refine aj (aj (ah (ae rfl rfl ?_)));refine aJ (M:=M1) (A:=RT.dc) (B:=(RT.fd).sl) aO rfl rfl qC (by decide) (Dt) rfl rfl (by decide) (by assumption) (by repeat (first|exact aq _ _|refine aT (a7 (by assumption)) ?_)) (fun VC aae=>?_);refine cg (M:=M1) aV rfl rfl rfl rfl rfl (by assumption) (by repeat (first|exact aq _ _|refine aT (a7 (by assumption)) ?_)) (fun adn Qg=>?_);refine bU aV rfl Qg rfl (cf rfl rfl rfl (ae rfl rfl ?_));refine aI (g:=18) rfl (fun Mg=>?_) (fun Mg=>?_)
  ·refine al rfl rfl (ae rfl rfl (al rfl rfl (cf rfl rfl rfl (aQ rfl rfl rfl (ad ?_)))));refine bF rfl (fun c4=>?_) (fun c4=>?_)
   ·refine aU (aj (bj (aj (ah ?_))));refine aJ (M:=M1) (A:=RT.dc) (B:=(RT.fd).sl) aO rfl rfl qC (by decide) (Dt) rfl rfl (by decide) (by assumption) (by repeat (first|exact aq _ _|refine aT (a7 (by assumption)) ?_)) (fun Qh FG=>?_);refine cg (M:=M1) aV rfl rfl rfl rfl rfl (by assumption) (by repeat (first|exact aq _ _|refine aT (a7 (by assumption)) ?_)) (fun Mh tF=>?_);refine ae rfl rfl ?_;refine dq (M:=M1) aV iB rfl rfl rfl tF (aq _ _) (by omega) (fun u6 x Eh LO=>?_);rw[aC]at Eh;have SM:i<4:=by omega
    have Tj:=FF (id:=d.1) (out:=out) Eh SM;have Kc:=tD x SM;refine cw (M:=M1) (A:=RT.fd) bR rfl iB (by decide) rfl rfl rfl LO (aq _ _) (fun v6 ov=>?_);obtain rfl:=k7 ov;have hxb:=Fv ov;refine ff M1 iB rfl (fun Mi VX adp adq cV uT=>?_);obtain⟨kA,FH⟩:∃M',M'=ins M1 Mi:=⟨_,rfl⟩;rw[←FH]at uT;have cy:kA Mi:=by rw[FH];exact .inl rfl
    change VX.heap[Mi]? =some (.cells #[.string ⟨#[]⟩,.string ⟨#[]⟩] _ _)at cV;have:=ak g2;replace cK:=(uT.mem _ this).2 cK;replace g2:=uT.aG g2;have:=ak g3;replace dW:=(uT.mem _ this).2 dW;replace g3:=uT.aG g3;replace cA:=cA.le (by decide) uT.le;replace cR:=cR.le uT.le;replace gV:=gV.le uT.le;replace hM:=uT.lt hM;have:=S.size;replace S:=S.ax uT;refine fj (M:=kA) (vs:=[.string ⟨x.1.toArray⟩,.string ⟨x.2.toArray⟩]) iB rfl rfl (by intro u hu;simp at hu;rcases hu with rfl|rfl<;>first|rfl|exact km (by assumption) rfl rfl) rfl rfl cV cy (fun w6b VY FI=>?_);have:=ak g2;replace cK:=(FI.mem _ this).2 cK;replace g2:=FI.bE g2 (fun hk=>by have hk:_=_:=hk;omega);have:=ak g3;replace dW:=(FI.mem _ this).2 dW;replace g3:=FI.bE g3 (fun hk=>by have hk:_=_:=hk;omega);have:=ak cV;replace cy:=(FI.mem _ this).2 cy;replace cA:=cA.le (by decide) FI.le;replace cR:=cR.le FI.le;replace gV:=gV.le FI.le;replace hM:=FI.lt hM;have:=S.size;replace S:=S.trans FI (fun k hk h=>by have h:_=_:=h;subst h;first|(exfalso;omega)|(show _≤_;omega)|exact⟨by first|omega|assumption,(S.mem _ hk).1 ((FI.mem _ (ak cV)).1 cy)⟩|exact .inl rfl|exact .inr rfl|exact .inr (.inl rfl)|exact .inr (.inr rfl)|exact rfl);have nz:=VY;clear cV;have cV:=nz;clear nz;refine ad (aj (ah (aS (o':=0) bR rfl rfl I9 (by decide) rfl rfl (aE aD rfl rfl rfl (by assumption) rfl ?_))));refine aM rfl rfl Pk (tC x.1 hxb.1 _) (fun r7 w7 hc=>?_);obtain⟨rfl,rfl⟩:=hc;refine ai rfl rfl (ad (aj (aj (ah (ae rfl rfl (Rg.not rfl rfl (bp (v':= .bool (decide (eT x.1=false))) (by cases eT x.1<;>rfl) (ad ?_))))))));refine bF rfl (fun c8=>?_) (fun c8=>?_)
    ·refine ah (ae rfl rfl (ae rfl rfl ?_));refine dq (M:=kA) bh I9 rfl rfl rfl cR (aq _ _) (by have:zc.length=4:=rfl;omega) (fun u9 y HK Mj=>?_);rw[aC]at HK;refine cg (M:=kA) aD rfl rfl rfl rfl rfl Mj (aq _ _) (fun v9 IC=>?_);obtain rfl:=fD IC
     obtain rfl:y=(fixF i x).1:=by
      show y=if eT x.1=true then x.1 else zc.getD i []
      rw[if_neg (by rw[c8];simp),bT,HK];rfl
     refine aS (o':=0) bR rfl rfl I9 (by decide) rfl rfl ?_;refine bP (M:=kA) I9 rfl rfl cV rfl (rfl) cy (fun PY Qi nw=>?_);change PY.heap[_]? =some (Obj.cells #[.string ⟨((fixF i x).1).toArray⟩,.string ⟨x.2.toArray⟩] _ _)at Qi;have:=ak g2;replace cK:=(nw.mem _ this).2 cK;replace g2:=nw.bE g2 (fun hk=>by have hk:_=_:=hk;omega);have:=ak g3;replace dW:=(nw.mem _ this).2 dW;replace g3:=nw.bE g3 (fun hk=>by have hk:_=_:=hk;omega);have:=ak cV;replace cy:=(nw.mem _ this).2 cy;replace cA:=cA.le (by decide) nw.le;replace cR:=cR.le nw.le;replace gV:=gV.le nw.le;replace hM:=nw.lt hM;have:=S.size;replace S:=S.trans nw (fun k hk h=>by have h:_=_:=h;subst h;first|(exfalso;omega)|(show _≤_;omega)|exact⟨by first|omega|assumption,(S.mem _ hk).1 ((nw.mem _ (ak cV)).1 cy)⟩|exact .inl rfl|exact .inr rfl|exact .inr (.inl rfl)|exact .inr (.inr rfl)|exact rfl);have nz:=Qi;clear cV;have cV:=nz;clear nz;refine ad (aj (ah (aS (o':=1) bR rfl rfl I9 (by decide) rfl rfl (aE aD rfl rfl rfl (by assumption) rfl (aS (o':=1) bR rfl rfl I9 (by decide) rfl rfl (aE aD rfl rfl rfl (by assumption) rfl (Rg.k3 aD rfl rfl (bp (v':= .int .i64 (x.2.length:Int)) (by simp[ByteArray.size]) (Rg.min2 rfl rfl rfl (Rg.J0 aD rfl rfl rfl (by omega) (bp (v':= .string ⟨((fixF i x).2).toArray⟩) (by rw[ze];rfl) ?_)))))))))));refine aS (o':=1) bR rfl rfl I9 (by decide) rfl rfl ?_;refine bP (M:=kA) I9 rfl rfl cV rfl (rfl) cy (fun Cp zf fh=>?_);change Cp.heap[_]? =some (Obj.cells #[.string ⟨((fixF i x).1).toArray⟩,.string ⟨((fixF i x).2).toArray⟩] _ _)at zf;have:=ak g2;replace cK:=(fh.mem _ this).2 cK;replace g2:=fh.bE g2 (fun hk=>by have hk:_=_:=hk;omega);have:=ak g3
     replace dW:=(fh.mem _ this).2 dW;replace g3:=fh.bE g3 (fun hk=>by have hk:_=_:=hk;omega);have:=ak cV;replace cy:=(fh.mem _ this).2 cy;replace cA:=cA.le (by decide) fh.le;replace cR:=cR.le fh.le;replace gV:=gV.le fh.le;replace hM:=fh.lt hM;have:=S.size;replace S:=S.trans fh (fun k hk h=>by have h:_=_:=h;subst h;first|(exfalso;omega)|(show _≤_;omega)|exact⟨by first|omega|assumption,(S.mem _ hk).1 ((fh.mem _ (ak cV)).1 cy)⟩|exact .inl rfl|exact .inr rfl|exact .inr (.inl rfl)|exact .inr (.inr rfl)|exact rfl);have nz:=zf;clear cV;have cV:=nz;clear nz;refine ad (aj (ah ?_));refine aJ (M:=kA) (A:=RT.dc) (B:=RT.int .i64) aO rfl rfl I3 (by decide) (P2) rfl rfl (by decide) (by assumption) (by repeat (first|exact aq _ _|refine aT (a7 (by assumption)) ?_)) (fun Kd FJ=>?_);refine cd (M:=kA) ar rfl rfl (by assumption) (by repeat (first|exact aq _ _|refine aT (a7 (by assumption)) ?_)) (fun Mk=>?_);refine dX (places:=[(0,1),(1,1)]) aO k5 Ph rfl ⟨_,_,rfl,rfl,rfl⟩ (out:=[_,.slice none 0 0]) ⟨0,[_],rfl,rfl,by simp[Value.cells],rfl⟩ ?_;refine ff kA k5 rfl (fun tG zg Qj Qk cp eC=>?_);obtain⟨oW,pI⟩:∃M',M'=ins kA tG:=⟨_,rfl⟩;rw[←pI]at eC;have cj:oW tG:=by rw[pI];exact .inl rfl
     change zg.heap[tG]? =some (.cells #[.int .i64 0,.slice none 0 0] _ _)at cp;have:=ak g2;replace cK:=(eC.mem _ this).2 cK;replace g2:=eC.aG g2;have:=ak g3;replace dW:=(eC.mem _ this).2 dW;replace g3:=eC.aG g3;have:=ak cV;replace cy:=(eC.mem _ this).2 cy;replace cV:=eC.aG cV;replace cA:=cA.le (by decide) eC.le;replace cR:=cR.le eC.le;replace gV:=gV.le eC.le;replace hM:=eC.lt hM;have:=S.size;replace S:=S.ax eC;refine fj (M:=oW) (vs:=[.int .i64 d.1,.slice none 0 0]) k5 rfl rfl (by intro u hu;simp at hu;rcases hu with rfl|rfl<;>first|rfl|exact km (by assumption) rfl rfl) rfl rfl cp cj (fun xF FK jg=>?_);have:=ak g2;replace cK:=(jg.mem _ this).2 cK;replace g2:=jg.bE g2 (fun hk=>by have hk:_=_:=hk;omega);have:=ak g3;replace dW:=(jg.mem _ this).2 dW;replace g3:=jg.bE g3 (fun hk=>by have hk:_=_:=hk;omega);have:=ak cV;replace cy:=(jg.mem _ this).2 cy;replace cV:=jg.bE cV (fun hk=>by have hk:_=_:=hk;omega);have:=ak cp;replace cj:=(jg.mem _ this).2 cj;replace cA:=cA.le (by decide) jg.le;replace cR:=cR.le jg.le;replace gV:=gV.le jg.le;replace hM:=jg.lt hM;have:=S.size;replace S:=S.trans jg (fun k hk h=>by have h:_=_:=h;subst h;first|(exfalso;omega)|(show _≤_;omega)|exact⟨by first|omega|assumption,(S.mem _ hk).1 ((jg.mem _ (ak cp)).1 cj)⟩|exact .inl rfl|exact .inr rfl|exact .inr (.inl rfl)|exact .inr (.inr rfl)|exact rfl);have gD:=FK;clear cp;have cp:=gD;clear gD;refine ad (aj (ah (aS (o':=1) aO rfl rfl qC (by decide) rfl rfl (aE aV rfl rfl rfl (by assumption) rfl (aS (o':=1) aO rfl rfl qC (by decide) rfl rfl (aE aV rfl rfl rfl (by assumption) rfl ?_))))));have cI:=Own.J3 RT.fd 127 xF.heap.size hM
     have VZ:=ak cV;have FL:w0.heap.size≤xF.heap.size:=S.size;refine dh (M:=oW) (base:=xF.heap.size) aV iB rfl rfl rfl rfl cI gV (aq _ _) (by simp;omega) (by simp;omega) (a8 _) (fun tz nv Fs oU dV=>?_);have:=ak g2;replace cK:=(dV.mem _ this).2 cK;replace g2:=dV.bE g2 (fun h=>by first|exact cI.dE g2 h|exact cI.eL g2 (by decide) h|(have:=(cI.base _ h).1;omega));have:=ak g3;replace dW:=(dV.mem _ this).2 dW;replace g3:=dV.bE g3 (fun h=>by first|exact cI.dE g3 h|exact cI.eL g3 (by decide) h|(have:=(cI.base _ h).1;omega));have:=ak cV;replace cy:=(dV.mem _ this).2 cy;replace cV:=dV.bE cV (fun h=>by first|exact cI.dE cV h|exact cI.eL cV (by decide) h|(have:=(cI.base _ h).1;omega));have:=ak cp;replace cj:=(dV.mem _ this).2 cj;replace cp:=dV.bE cp (fun h=>by first|exact cI.dE cp h|exact cI.eL cp (by decide) h|(have:=(cI.base _ h).1;omega));replace cA:=cA.le (by decide) dV.le;replace cR:=cR.le dV.le;replace gV:=gV.le dV.le;replace hM:=dV.lt hM;have:=S.size;replace S:=S.dC dV cI FL;replace cI:=oU;refine aS (o':=1) aO rfl rfl qC (by decide) rfl rfl ?_;refine bP (M:=nv) qC rfl rfl cp rfl ((by obtain⟨_,_,he,_⟩:=cI.isSlice;rw[he];rfl)) cj (fun FM zh fa=>?_);change FM.heap[_]? =some (Obj.cells #[.int .i64 d.1,tz] _ _)at zh;have:=ak g2;replace cK:=(fa.mem _ this).2 cK;replace g2:=fa.bE g2 (fun hk=>by have hk:_=_:=hk;omega);have:=ak g3;replace dW:=(fa.mem _ this).2 dW;replace g3:=fa.bE g3 (fun hk=>by have hk:_=_:=hk;omega);have:=ak cV;replace cy:=(fa.mem _ this).2 cy;replace cV:=fa.bE cV (fun hk=>by have hk:_=_:=hk;omega);have:=ak cp;replace cj:=(fa.mem _ this).2 cj
     replace cA:=cA.le (by decide) fa.le;replace cR:=cR.le fa.le;replace gV:=gV.le fa.le;replace cI:=cI.step fa (fun b hb hk=>by have hk:_=_:=hk;have:=(cI.base b hb);omega);replace hM:=fa.lt hM;have:=S.size;replace S:=S.trans fa (fun k hk h=>by have h:_=_:=h;subst h;first|(exfalso;omega)|(show _≤_;omega)|exact⟨by first|omega|assumption,(S.mem _ hk).1 ((fa.mem _ (ak cp)).1 cj)⟩|exact .inl rfl|exact .inr rfl|exact .inr (.inl rfl)|exact .inr (.inr rfl)|exact rfl);have gD:=zh;clear cp;have cp:=gD;clear gD;refine ad (aj (ah (aS (o':=1) aO rfl rfl qC (by decide) rfl rfl (aE aV rfl rfl rfl (by assumption) rfl (gG (vs:=[.string ⟨((fixF i x).1).toArray⟩,.string ⟨((fixF i x).2).toArray⟩]) bR rfl iB rfl rfl rfl cV ?_)))));refine eW (A:=RT.fd) (hn:=by decide) (M:=nv) aV iB (by decide) rfl rfl hM (show RT.fd.V _ _ (fixF i x) _ from ei (ka.2 ⟨rfl,eO Kc.1 (by decide)⟩) (ka.2 ⟨rfl,eO Kc.2 (by decide)⟩) rfl rfl rfl rfl) (.inl rfl) (fun J8 Ql eR fc=>?_);have:=ak g2;replace cK:=(fc.mem _ this).2 cK;replace g2:=fc.aG g2;have:=ak g3;replace dW:=(fc.mem _ this).2 dW;replace g3:=fc.aG g3;have:=ak cV;replace cy:=(fc.mem _ this).2 cy;replace cV:=fc.aG cV;have:=ak cp;replace cj:=(fc.mem _ this).2 cj;replace cp:=fc.aG cp;replace cA:=cA.le (by decide) fc.le;replace cR:=cR.le fc.le;replace gV:=gV.le fc.le;replace cI:=cI.bg fc;replace hM:=fc.lt hM;have:=S.size;replace S:=S.ax fc;refine dh (M:=nv) (base:=xF.heap.size) aV iB rfl rfl rfl rfl cI eR (aq _ _) (by simp;omega) (by simp;omega) (by have:=dV.size;have:=fa.size;have:=fc.size;omega) (fun eU kB Qm A9 fw=>?_);have:=ak g2
     replace cK:=(fw.mem _ this).2 cK;replace g2:=fw.bE g2 (fun h=>by first|exact cI.dE g2 h|exact cI.eL g2 (by decide) h|(have:=(cI.base _ h).1;omega));have:=ak g3;replace dW:=(fw.mem _ this).2 dW;replace g3:=fw.bE g3 (fun h=>by first|exact cI.dE g3 h|exact cI.eL g3 (by decide) h|(have:=(cI.base _ h).1;omega));have:=ak cV;replace cy:=(fw.mem _ this).2 cy;replace cV:=fw.bE cV (fun h=>by first|exact cI.dE cV h|exact cI.eL cV (by decide) h|(have:=(cI.base _ h).1;omega));have:=ak cp;replace cj:=(fw.mem _ this).2 cj;replace cp:=fw.bE cp (fun h=>by first|exact cI.dE cp h|exact cI.eL cp (by decide) h|(have:=(cI.base _ h).1;omega));replace cA:=cA.le (by decide) fw.le;replace cR:=cR.le fw.le;replace gV:=gV.le fw.le;replace eR:=eR.le fw.le;replace hM:=fw.lt hM;have:=S.size;replace S:=S.dC fw cI FL;replace cI:=A9;refine aS (o':=1) aO rfl rfl qC (by decide) rfl rfl ?_;refine bP (M:=kB) qC rfl rfl cp rfl ((by obtain⟨_,_,he,_⟩:=cI.isSlice;rw[he];rfl)) cj (fun FN zi fe=>?_);change FN.heap[_]? =some (Obj.cells #[.int .i64 d.1,eU] _ _)at zi;have:=ak g2;replace cK:=(fe.mem _ this).2 cK;replace g2:=fe.bE g2 (fun hk=>by have hk:_=_:=hk;omega);have:=ak g3;replace dW:=(fe.mem _ this).2 dW;replace g3:=fe.bE g3 (fun hk=>by have hk:_=_:=hk;omega);have:=ak cV;replace cy:=(fe.mem _ this).2 cy;replace cV:=fe.bE cV (fun hk=>by have hk:_=_:=hk;omega);have:=ak cp;replace cj:=(fe.mem _ this).2 cj;replace cA:=cA.le (by decide) fe.le;replace cR:=cR.le fe.le;replace gV:=gV.le fe.le;replace eR:=eR.le fe.le;replace cI:=cI.step fe (fun b hb hk=>by have hk:_=_:=hk;have:=(cI.base b hb);omega);replace hM:=fe.lt hM;have:=S.size
     replace S:=S.trans fe (fun k hk h=>by have h:_=_:=h;subst h;first|(exfalso;omega)|(show _≤_;omega)|exact⟨by first|omega|assumption,(S.mem _ hk).1 ((fe.mem _ (ak cp)).1 cj)⟩|exact .inl rfl|exact .inr rfl|exact .inr (.inl rfl)|exact .inr (.inr rfl)|exact rfl);have gD:=zi;clear cp;have cp:=gD;clear gD;refine ad (aj (ah (gG (vs:=[.int .i64 d.1,eU]) aO rfl k5 rfl rfl rfl cp ?_)));have sc:=cI.view (hn:=by decide) (by simp;omega);replace cK:rm kB eU _:=⟨cK,by first|exact cI.eL g2 (by decide)|(intro h;have:=(cI.base _ h).1;omega)⟩;replace dW:rm kB eU _:=⟨dW,by first|exact cI.eL g3 (by decide)|(intro h;have:=(cI.base _ h).1;omega)⟩;replace cy:rm kB eU _:=⟨cy,by first|exact cI.eL cV (by decide)|(intro h;have:=(cI.base _ h).1;omega)⟩;replace cj:rm kB eU _:=⟨cj,by first|exact cI.eL cp (by decide)|(intro h;have:=(cI.base _ h).1;omega)⟩;replace cA:=cA.le (by decide) (oe _ eU _);replace cR:=cR.le (oe _ eU _);replace gV:=gV.le (oe _ eU _);replace eR:=eR.le (oe _ eU _);replace hM:Lt (rm kB eU) _:=fun b hb=>hM b hb.1
     replace S:=S.freeze (v:=eU) (fun b hb=>by have:=(cI.base b hb).1;omega);clear cI;refine aM rfl rfl Pl (vT (d:=(d.1,[]++out++[fixF i x])) _ hM (ei (gv Ti) sc rfl rfl rfl rfl) (fun y hy=>by have:=(wY.snoc Kc) y (by simpa using hy);omega)) (fun r14 Qn hc=>?_);obtain⟨rfl,jy⟩:=hc;rw[ig]at sc;have:=ak g2;replace cK:=(jy.mem _ this).2 cK;replace g2:=jy.aG g2;have:=ak g3;replace dW:=(jy.mem _ this).2 dW;replace g3:=jy.aG g3;have:=ak cV;replace cy:=(jy.mem _ this).2 cy;replace cV:=jy.aG cV;have:=ak cp;replace cj:=(jy.mem _ this).2 cj;replace cp:=jy.aG cp;replace cA:=cA.le (by decide) jy.le;replace cR:=cR.le jy.le;replace gV:=gV.le jy.le;replace eR:=eR.le jy.le;replace sc:=sc.le jy.le;replace hM:=jy.lt hM;have:=S.size;replace S:=S.ax jy;refine Rg.Ay rfl rfl rfl (bp (v':= .bool (decide (kN (d.1,out++[fixF i x])=0))) (by rw[ig]) (ad ?_));refine bF rfl (fun Ml=>?_) (fun Ml=>?_)
     ·refine ah (gG (vs:=[.int .i64 d.1,eU]) aO rfl k5 rfl rfl rfl cp ?_);refine fj (M:=rm kB eU) (vs:=[.int .i64 d.1,eU]) k5 rfl rfl (by intro u hu;simp at hu;rcases hu with rfl|rfl<;>first|rfl|exact km (by assumption) rfl rfl) rfl rfl g3 dW (fun V0 FO ic=>?_);have:=ak g2;replace cK:=(ic.mem _ this).2 cK;replace g2:=ic.bE g2 (fun hk=>by have hk:_=_:=hk;omega);have:=ak g3;replace dW:=(ic.mem _ this).2 dW;have:=ak cV;replace cy:=(ic.mem _ this).2 cy;replace cV:=ic.bE cV (fun hk=>by have hk:_=_:=hk;omega);have:=ak cp;replace cj:=(ic.mem _ this).2 cj;replace cp:=ic.bE cp (fun hk=>by have hk:_=_:=hk;omega);replace cA:=cA.le (by decide) ic.le;replace cR:=cR.le ic.le;replace gV:=gV.le ic.le;replace eR:=eR.le ic.le;replace sc:=sc.le ic.le;replace hM:=ic.lt hM;have:=S.size;replace S:=S.trans ic (fun k hk h=>by have h:_=_:=h;subst h;first|(exfalso;omega)|(show _≤_;omega)|exact⟨by first|omega|assumption,(S.mem _ hk).1 ((ic.mem _ (ak g3)).1 dW)⟩|exact .inl rfl|exact .inr rfl|exact .inr (.inl rfl)|exact .inr (.inr rfl)|exact rfl);have Qo:=FO;clear g3;have g3:=Qo;clear Qo;refine ad (ah (ae rfl rfl (bz rfl rfl rfl (by omega) (ai rfl rfl (ad ?_)))));refine⟨rfl,(i+1,out++[fixF i x]),(.cons rfl (.cons rfl (.cons rfl (.cons rfl (.cons rfl .nil))))),?_,?_⟩
      ·exact⟨_,_,hM,S,cA,cR,g2,cK,g3,dW,sc,by rw[tx,Tj,if_pos Ml],by dsimp only;omega,by dsimp only;omega,wY.snoc Kc,by simp;omega⟩
      ·dsimp only;omega
     ·refine aU (ah (ae rfl rfl (bz rfl rfl rfl (by omega) (ai rfl rfl (ad ?_)))));refine⟨rfl,(i+1,out),(.cons rfl (.cons rfl (.cons rfl (.cons rfl (.cons rfl .nil))))),?_,?_⟩
      ·exact⟨_,_,hM,S,cA,cR,g2,cK,g3,dW,gV,by rw[tx,Tj,if_neg Ml],by dsimp only;omega,by dsimp only;omega,wY,by dsimp only;omega⟩
      ·dsimp only;omega
    ·rw[show x.1=(fixF i x).1 from by show x.1=if eT x.1=true then x.1 else _;rw[if_pos (by cases hq:eT x.1 with|true=>rfl|false=>exact absurd hq c8)]]at cV;refine aU (aj (ah (aS (o':=1) bR rfl rfl I9 (by decide) rfl rfl (aE aD rfl rfl rfl (by assumption) rfl (aS (o':=1) bR rfl rfl I9 (by decide) rfl rfl (aE aD rfl rfl rfl (by assumption) rfl (Rg.k3 aD rfl rfl (bp (v':= .int .i64 (x.2.length:Int)) (by simp[ByteArray.size]) (Rg.min2 rfl rfl rfl (Rg.J0 aD rfl rfl rfl (by omega) (bp (v':= .string ⟨((fixF i x).2).toArray⟩) (by rw[ze];rfl) ?_)))))))))));refine aS (o':=1) bR rfl rfl I9 (by decide) rfl rfl ?_;refine bP (M:=kA) I9 rfl rfl cV rfl (rfl) cy (fun Cp zf fh=>?_);change Cp.heap[_]? =some (Obj.cells #[.string ⟨((fixF i x).1).toArray⟩,.string ⟨((fixF i x).2).toArray⟩] _ _)at zf;have:=ak g2;replace cK:=(fh.mem _ this).2 cK;replace g2:=fh.bE g2 (fun hk=>by have hk:_=_:=hk;omega);have:=ak g3;replace dW:=(fh.mem _ this).2 dW;replace g3:=fh.bE g3 (fun hk=>by have hk:_=_:=hk;omega);have:=ak cV;replace cy:=(fh.mem _ this).2 cy;replace cA:=cA.le (by decide) fh.le;replace cR:=cR.le fh.le;replace gV:=gV.le fh.le;replace hM:=fh.lt hM;have:=S.size;replace S:=S.trans fh (fun k hk h=>by have h:_=_:=h;subst h;first|(exfalso;omega)|(show _≤_;omega)|exact⟨by first|omega|assumption,(S.mem _ hk).1 ((fh.mem _ (ak cV)).1 cy)⟩|exact .inl rfl|exact .inr rfl|exact .inr (.inl rfl)|exact .inr (.inr rfl)|exact rfl);have nz:=zf;clear cV;have cV:=nz;clear nz;refine ad (aj (ah ?_));refine aJ (M:=kA) (A:=RT.dc) (B:=RT.int .i64) aO rfl rfl I3 (by decide) (P2) rfl rfl (by decide) (by assumption) (by repeat (first|exact aq _ _|refine aT (a7 (by assumption)) ?_)) (fun Kd FJ=>?_)
     refine cd (M:=kA) ar rfl rfl (by assumption) (by repeat (first|exact aq _ _|refine aT (a7 (by assumption)) ?_)) (fun Mk=>?_);refine dX (places:=[(0,1),(1,1)]) aO k5 Ph rfl ⟨_,_,rfl,rfl,rfl⟩ (out:=[_,.slice none 0 0]) ⟨0,[_],rfl,rfl,by simp[Value.cells],rfl⟩ ?_;refine ff kA k5 rfl (fun tG zg Qj Qk cp eC=>?_);obtain⟨oW,pI⟩:∃M',M'=ins kA tG:=⟨_,rfl⟩;rw[←pI]at eC;have cj:oW tG:=by rw[pI];exact .inl rfl
     change zg.heap[tG]? =some (.cells #[.int .i64 0,.slice none 0 0] _ _)at cp;have:=ak g2;replace cK:=(eC.mem _ this).2 cK;replace g2:=eC.aG g2;have:=ak g3;replace dW:=(eC.mem _ this).2 dW;replace g3:=eC.aG g3;have:=ak cV;replace cy:=(eC.mem _ this).2 cy;replace cV:=eC.aG cV;replace cA:=cA.le (by decide) eC.le;replace cR:=cR.le eC.le;replace gV:=gV.le eC.le;replace hM:=eC.lt hM;have:=S.size;replace S:=S.ax eC;refine fj (M:=oW) (vs:=[.int .i64 d.1,.slice none 0 0]) k5 rfl rfl (by intro u hu;simp at hu;rcases hu with rfl|rfl<;>first|rfl|exact km (by assumption) rfl rfl) rfl rfl cp cj (fun xF FK jg=>?_);have:=ak g2;replace cK:=(jg.mem _ this).2 cK;replace g2:=jg.bE g2 (fun hk=>by have hk:_=_:=hk;omega);have:=ak g3;replace dW:=(jg.mem _ this).2 dW;replace g3:=jg.bE g3 (fun hk=>by have hk:_=_:=hk;omega);have:=ak cV;replace cy:=(jg.mem _ this).2 cy;replace cV:=jg.bE cV (fun hk=>by have hk:_=_:=hk;omega);have:=ak cp;replace cj:=(jg.mem _ this).2 cj;replace cA:=cA.le (by decide) jg.le;replace cR:=cR.le jg.le;replace gV:=gV.le jg.le;replace hM:=jg.lt hM;have:=S.size;replace S:=S.trans jg (fun k hk h=>by have h:_=_:=h;subst h;first|(exfalso;omega)|(show _≤_;omega)|exact⟨by first|omega|assumption,(S.mem _ hk).1 ((jg.mem _ (ak cp)).1 cj)⟩|exact .inl rfl|exact .inr rfl|exact .inr (.inl rfl)|exact .inr (.inr rfl)|exact rfl);have gD:=FK;clear cp;have cp:=gD;clear gD;refine ad (aj (ah (aS (o':=1) aO rfl rfl qC (by decide) rfl rfl (aE aV rfl rfl rfl (by assumption) rfl (aS (o':=1) aO rfl rfl qC (by decide) rfl rfl (aE aV rfl rfl rfl (by assumption) rfl ?_))))));have cI:=Own.J3 RT.fd 127 xF.heap.size hM
     have VZ:=ak cV;have FL:w0.heap.size≤xF.heap.size:=S.size;refine dh (M:=oW) (base:=xF.heap.size) aV iB rfl rfl rfl rfl cI gV (aq _ _) (by simp;omega) (by simp;omega) (a8 _) (fun tz nv Fs oU dV=>?_);have:=ak g2;replace cK:=(dV.mem _ this).2 cK;replace g2:=dV.bE g2 (fun h=>by first|exact cI.dE g2 h|exact cI.eL g2 (by decide) h|(have:=(cI.base _ h).1;omega));have:=ak g3;replace dW:=(dV.mem _ this).2 dW;replace g3:=dV.bE g3 (fun h=>by first|exact cI.dE g3 h|exact cI.eL g3 (by decide) h|(have:=(cI.base _ h).1;omega));have:=ak cV;replace cy:=(dV.mem _ this).2 cy;replace cV:=dV.bE cV (fun h=>by first|exact cI.dE cV h|exact cI.eL cV (by decide) h|(have:=(cI.base _ h).1;omega));have:=ak cp;replace cj:=(dV.mem _ this).2 cj;replace cp:=dV.bE cp (fun h=>by first|exact cI.dE cp h|exact cI.eL cp (by decide) h|(have:=(cI.base _ h).1;omega));replace cA:=cA.le (by decide) dV.le;replace cR:=cR.le dV.le;replace gV:=gV.le dV.le;replace hM:=dV.lt hM;have:=S.size;replace S:=S.dC dV cI FL;replace cI:=oU;refine aS (o':=1) aO rfl rfl qC (by decide) rfl rfl ?_;refine bP (M:=nv) qC rfl rfl cp rfl ((by obtain⟨_,_,he,_⟩:=cI.isSlice;rw[he];rfl)) cj (fun FM zh fa=>?_);change FM.heap[_]? =some (Obj.cells #[.int .i64 d.1,tz] _ _)at zh;have:=ak g2;replace cK:=(fa.mem _ this).2 cK;replace g2:=fa.bE g2 (fun hk=>by have hk:_=_:=hk;omega);have:=ak g3;replace dW:=(fa.mem _ this).2 dW;replace g3:=fa.bE g3 (fun hk=>by have hk:_=_:=hk;omega);have:=ak cV;replace cy:=(fa.mem _ this).2 cy;replace cV:=fa.bE cV (fun hk=>by have hk:_=_:=hk;omega);have:=ak cp;replace cj:=(fa.mem _ this).2 cj
     replace cA:=cA.le (by decide) fa.le;replace cR:=cR.le fa.le;replace gV:=gV.le fa.le;replace cI:=cI.step fa (fun b hb hk=>by have hk:_=_:=hk;have:=(cI.base b hb);omega);replace hM:=fa.lt hM;have:=S.size;replace S:=S.trans fa (fun k hk h=>by have h:_=_:=h;subst h;first|(exfalso;omega)|(show _≤_;omega)|exact⟨by first|omega|assumption,(S.mem _ hk).1 ((fa.mem _ (ak cp)).1 cj)⟩|exact .inl rfl|exact .inr rfl|exact .inr (.inl rfl)|exact .inr (.inr rfl)|exact rfl);have gD:=zh;clear cp;have cp:=gD;clear gD;refine ad (aj (ah (aS (o':=1) aO rfl rfl qC (by decide) rfl rfl (aE aV rfl rfl rfl (by assumption) rfl (gG (vs:=[.string ⟨((fixF i x).1).toArray⟩,.string ⟨((fixF i x).2).toArray⟩]) bR rfl iB rfl rfl rfl cV ?_)))));refine eW (A:=RT.fd) (hn:=by decide) (M:=nv) aV iB (by decide) rfl rfl hM (show RT.fd.V _ _ (fixF i x) _ from ei (ka.2 ⟨rfl,eO Kc.1 (by decide)⟩) (ka.2 ⟨rfl,eO Kc.2 (by decide)⟩) rfl rfl rfl rfl) (.inl rfl) (fun J8 Ql eR fc=>?_);have:=ak g2;replace cK:=(fc.mem _ this).2 cK;replace g2:=fc.aG g2;have:=ak g3;replace dW:=(fc.mem _ this).2 dW;replace g3:=fc.aG g3;have:=ak cV;replace cy:=(fc.mem _ this).2 cy;replace cV:=fc.aG cV;have:=ak cp;replace cj:=(fc.mem _ this).2 cj;replace cp:=fc.aG cp;replace cA:=cA.le (by decide) fc.le;replace cR:=cR.le fc.le;replace gV:=gV.le fc.le;replace cI:=cI.bg fc;replace hM:=fc.lt hM;have:=S.size;replace S:=S.ax fc;refine dh (M:=nv) (base:=xF.heap.size) aV iB rfl rfl rfl rfl cI eR (aq _ _) (by simp;omega) (by simp;omega) (by have:=dV.size;have:=fa.size;have:=fc.size;omega) (fun eU kB Qm A9 fw=>?_);have:=ak g2
     replace cK:=(fw.mem _ this).2 cK;replace g2:=fw.bE g2 (fun h=>by first|exact cI.dE g2 h|exact cI.eL g2 (by decide) h|(have:=(cI.base _ h).1;omega));have:=ak g3;replace dW:=(fw.mem _ this).2 dW;replace g3:=fw.bE g3 (fun h=>by first|exact cI.dE g3 h|exact cI.eL g3 (by decide) h|(have:=(cI.base _ h).1;omega));have:=ak cV;replace cy:=(fw.mem _ this).2 cy;replace cV:=fw.bE cV (fun h=>by first|exact cI.dE cV h|exact cI.eL cV (by decide) h|(have:=(cI.base _ h).1;omega));have:=ak cp;replace cj:=(fw.mem _ this).2 cj;replace cp:=fw.bE cp (fun h=>by first|exact cI.dE cp h|exact cI.eL cp (by decide) h|(have:=(cI.base _ h).1;omega));replace cA:=cA.le (by decide) fw.le;replace cR:=cR.le fw.le;replace gV:=gV.le fw.le;replace eR:=eR.le fw.le;replace hM:=fw.lt hM;have:=S.size;replace S:=S.dC fw cI FL;replace cI:=A9;refine aS (o':=1) aO rfl rfl qC (by decide) rfl rfl ?_;refine bP (M:=kB) qC rfl rfl cp rfl ((by obtain⟨_,_,he,_⟩:=cI.isSlice;rw[he];rfl)) cj (fun FN zi fe=>?_);change FN.heap[_]? =some (Obj.cells #[.int .i64 d.1,eU] _ _)at zi;have:=ak g2;replace cK:=(fe.mem _ this).2 cK;replace g2:=fe.bE g2 (fun hk=>by have hk:_=_:=hk;omega);have:=ak g3;replace dW:=(fe.mem _ this).2 dW;replace g3:=fe.bE g3 (fun hk=>by have hk:_=_:=hk;omega);have:=ak cV;replace cy:=(fe.mem _ this).2 cy;replace cV:=fe.bE cV (fun hk=>by have hk:_=_:=hk;omega);have:=ak cp;replace cj:=(fe.mem _ this).2 cj;replace cA:=cA.le (by decide) fe.le;replace cR:=cR.le fe.le;replace gV:=gV.le fe.le;replace eR:=eR.le fe.le;replace cI:=cI.step fe (fun b hb hk=>by have hk:_=_:=hk;have:=(cI.base b hb);omega);replace hM:=fe.lt hM;have:=S.size
     replace S:=S.trans fe (fun k hk h=>by have h:_=_:=h;subst h;first|(exfalso;omega)|(show _≤_;omega)|exact⟨by first|omega|assumption,(S.mem _ hk).1 ((fe.mem _ (ak cp)).1 cj)⟩|exact .inl rfl|exact .inr rfl|exact .inr (.inl rfl)|exact .inr (.inr rfl)|exact rfl);have gD:=zi;clear cp;have cp:=gD;clear gD;refine ad (aj (ah (gG (vs:=[.int .i64 d.1,eU]) aO rfl k5 rfl rfl rfl cp ?_)));have sc:=cI.view (hn:=by decide) (by simp;omega);replace cK:rm kB eU _:=⟨cK,by first|exact cI.eL g2 (by decide)|(intro h;have:=(cI.base _ h).1;omega)⟩;replace dW:rm kB eU _:=⟨dW,by first|exact cI.eL g3 (by decide)|(intro h;have:=(cI.base _ h).1;omega)⟩;replace cy:rm kB eU _:=⟨cy,by first|exact cI.eL cV (by decide)|(intro h;have:=(cI.base _ h).1;omega)⟩;replace cj:rm kB eU _:=⟨cj,by first|exact cI.eL cp (by decide)|(intro h;have:=(cI.base _ h).1;omega)⟩;replace cA:=cA.le (by decide) (oe _ eU _);replace cR:=cR.le (oe _ eU _);replace gV:=gV.le (oe _ eU _);replace eR:=eR.le (oe _ eU _);replace hM:Lt (rm kB eU) _:=fun b hb=>hM b hb.1
     replace S:=S.freeze (v:=eU) (fun b hb=>by have:=(cI.base b hb).1;omega);clear cI;refine aM rfl rfl Pl (vT (d:=(d.1,[]++out++[fixF i x])) _ hM (ei (gv Ti) sc rfl rfl rfl rfl) (fun y hy=>by have:=(wY.snoc Kc) y (by simpa using hy);omega)) (fun r14 Qn hc=>?_);obtain⟨rfl,jy⟩:=hc;rw[ig]at sc;have:=ak g2;replace cK:=(jy.mem _ this).2 cK;replace g2:=jy.aG g2;have:=ak g3;replace dW:=(jy.mem _ this).2 dW;replace g3:=jy.aG g3;have:=ak cV;replace cy:=(jy.mem _ this).2 cy;replace cV:=jy.aG cV;have:=ak cp;replace cj:=(jy.mem _ this).2 cj;replace cp:=jy.aG cp;replace cA:=cA.le (by decide) jy.le;replace cR:=cR.le jy.le;replace gV:=gV.le jy.le;replace eR:=eR.le jy.le;replace sc:=sc.le jy.le;replace hM:=jy.lt hM;have:=S.size;replace S:=S.ax jy;refine Rg.Ay rfl rfl rfl (bp (v':= .bool (decide (kN (d.1,out++[fixF i x])=0))) (by rw[ig]) (ad ?_));refine bF rfl (fun Ml=>?_) (fun Ml=>?_)
     ·refine ah (gG (vs:=[.int .i64 d.1,eU]) aO rfl k5 rfl rfl rfl cp ?_);refine fj (M:=rm kB eU) (vs:=[.int .i64 d.1,eU]) k5 rfl rfl (by intro u hu;simp at hu;rcases hu with rfl|rfl<;>first|rfl|exact km (by assumption) rfl rfl) rfl rfl g3 dW (fun V0 FO ic=>?_);have:=ak g2;replace cK:=(ic.mem _ this).2 cK;replace g2:=ic.bE g2 (fun hk=>by have hk:_=_:=hk;omega);have:=ak g3;replace dW:=(ic.mem _ this).2 dW;have:=ak cV;replace cy:=(ic.mem _ this).2 cy;replace cV:=ic.bE cV (fun hk=>by have hk:_=_:=hk;omega);have:=ak cp;replace cj:=(ic.mem _ this).2 cj;replace cp:=ic.bE cp (fun hk=>by have hk:_=_:=hk;omega);replace cA:=cA.le (by decide) ic.le;replace cR:=cR.le ic.le;replace gV:=gV.le ic.le;replace eR:=eR.le ic.le;replace sc:=sc.le ic.le;replace hM:=ic.lt hM;have:=S.size;replace S:=S.trans ic (fun k hk h=>by have h:_=_:=h;subst h;first|(exfalso;omega)|(show _≤_;omega)|exact⟨by first|omega|assumption,(S.mem _ hk).1 ((ic.mem _ (ak g3)).1 dW)⟩|exact .inl rfl|exact .inr rfl|exact .inr (.inl rfl)|exact .inr (.inr rfl)|exact rfl);have Qo:=FO;clear g3;have g3:=Qo;clear Qo;refine ad (ah (ae rfl rfl (bz rfl rfl rfl (by omega) (ai rfl rfl (ad ?_)))));refine⟨rfl,(i+1,out++[fixF i x]),(.cons rfl (.cons rfl (.cons rfl (.cons rfl (.cons rfl .nil))))),?_,?_⟩
      ·exact⟨_,_,hM,S,cA,cR,g2,cK,g3,dW,sc,by rw[tx,Tj,if_pos Ml],by dsimp only;omega,by dsimp only;omega,wY.snoc Kc,by simp;omega⟩
      ·dsimp only;omega
     ·refine aU (ah (ae rfl rfl (bz rfl rfl rfl (by omega) (ai rfl rfl (ad ?_)))));refine⟨rfl,(i+1,out),(.cons rfl (.cons rfl (.cons rfl (.cons rfl (.cons rfl .nil))))),?_,?_⟩
      ·exact⟨_,_,hM,S,cA,cR,g2,cK,g3,dW,gV,by rw[tx,Tj,if_neg Ml],by dsimp only;omega,by dsimp only;omega,wY,by dsimp only;omega⟩
      ·dsimp only;omega
   ·refine cM (aj (ah (gG (vs:=[.int .i64 d.1,uo]) aO rfl k5 rfl rfl rfl g3 ?_)));refine fj (M:=M1) (vs:=[.int .i64 d.1,uo]) k5 rfl rfl (by intro u hu;simp at hu;rcases hu with rfl|rfl<;>first|rfl|exact km (by assumption) rfl rfl) rfl rfl g2 cK (fun V1 FP l8=>?_);have:=ak g2;replace cK:=(l8.mem _ this).2 cK;have:=ak g3;replace dW:=(l8.mem _ this).2 dW;replace g3:=l8.bE g3 (fun hk=>by have hk:_=_:=hk;omega);replace cA:=cA.le (by decide) l8.le;replace cR:=cR.le l8.le;replace gV:=gV.le l8.le;replace hM:=l8.lt hM;have:=S.size;replace S:=S.trans l8 (fun k hk h=>by have h:_=_:=h;subst h;first|(exfalso;omega)|(show _≤_;omega)|exact⟨by first|omega|assumption,(S.mem _ hk).1 ((l8.mem _ (ak g2)).1 cK)⟩|exact .inl rfl|exact .inr rfl|exact .inr (.inl rfl)|exact .inr (.inr rfl)|exact rfl);have FQ:=FP;clear g2;have g2:=FQ;clear FQ;refine ad (aH ?_);have e:mA d=(d.1,out):=by rw[mA,tx,vU (by omega)]
    rw[e];refine xi (vs:=[.int .i64 d.1,uo]) rfl rfl aO rfl k5 rfl g2 ⟨ei (gv Ti) (gV.le (Le.close ku S)) rfl rfl rfl rfl,S.back⟩
  ·refine ao rfl rfl rfl rfl (ao rfl rfl rfl rfl (ay rfl rfl rfl (ad (gL rfl (cM (aj (ah (gG (vs:=[.int .i64 d.1,uo]) aO rfl k5 rfl rfl rfl g3 ?_))))))));refine fj (M:=M1) (vs:=[.int .i64 d.1,uo]) k5 rfl rfl (by intro u hu;simp at hu;rcases hu with rfl|rfl<;>first|rfl|exact km (by assumption) rfl rfl) rfl rfl g2 cK (fun V1 FP l8=>?_);have:=ak g2;replace cK:=(l8.mem _ this).2 cK;have:=ak g3;replace dW:=(l8.mem _ this).2 dW;replace g3:=l8.bE g3 (fun hk=>by have hk:_=_:=hk;omega);replace cA:=cA.le (by decide) l8.le;replace cR:=cR.le l8.le;replace gV:=gV.le l8.le;replace hM:=l8.lt hM;have:=S.size;replace S:=S.trans l8 (fun k hk h=>by have h:_=_:=h;subst h;first|(exfalso;omega)|(show _≤_;omega)|exact⟨by first|omega|assumption,(S.mem _ hk).1 ((l8.mem _ (ak g2)).1 cK)⟩|exact .inl rfl|exact .inr rfl|exact .inr (.inl rfl)|exact .inr (.inr rfl)|exact rfl);have FQ:=FP;clear g2;have g2:=FQ;clear FQ;refine ad (aH ?_);have e:mA d=(d.1,out):=by rw[mA,tx,vU (by omega)]
   rw[e];refine xi (vs:=[.int .i64 d.1,uo]) rfl rfl aO rfl k5 rfl g2 ⟨ei (gv Ti) (gV.le (Le.close ku S)) rfl rfl rfl rfl,S.back⟩
end Go.K
namespace Go.K
open Go.Proofs
set_option maxRecDepth 10000
def fx (l:List Dc) (from_ step:Int):Nat→List En
 |0=>[]
 |k+1=>fx l from_ step k++(match l[k]? with|some d=>[(mA d,from_+step*(k:Int))]|none=>[])
theorem j4 (l:List Dc) (a s:Int):∀k,(fx l a s k).length=min k l.length
 |0=>by simp[fx]
 |k+1=>by
  rw[fx,bM,j4 l a s k]
  cases h:l[k]? with
  |none=>have:=List.getElem?_eq_none_iff.1 h;simp;omega
  |some d=>have:=(au.1 h).1;simp;omega
theorem tH {l:List Dc} {a s:Int} {k:Nat} {d:Dc} (h:l[k]? =some d):fx l a s (k+1)=fx l a s k++[(mA d,a+s*(k:Int))]:=by rw[fx,h]
theorem tI {l:List Dc} {a s:Int} {k:Nat} (h:l.length≤k):fx l a s (k+1)=fx l a s k:=by
 rw[fx,List.getElem?_eq_none_iff.2 h];simp
theorem zj {l:List Dc} {a s:Int} {n i:Nat} (h:l.length≤i∨n≤i) (h1:i≤n):fx l a s i=fx l a s n:=by
 induction n with
 |zero=>have:i=0:=by omega
        rw[this]
 |succ n ih=>
  rcases dO h1 with e|dy
  ·rw[e]
  ·rcases h with h|h
   ·rw[tI (by omega)];exact ih (.inl h) (by omega)
   ·omega
theorem ID {s k:Int} (h:0≤s∧s≤1000) (hk:0≤k∧k≤100):0≤s*k∧s*k≤100000:=
 ⟨Int.mul_nonneg h.1 hk.1,Int.le_trans (Int.mul_le_mul h.2 hk.2 hk.1 (by omega)) (by omega)⟩
theorem Ba {M:az} {l:List Dc} {v0:Value} {most:Nat} {a s:Int} (w0:World) (hM:Lt M w0) (hv:(RT.dc.sl).V M w0 l v0) (hm:most≤100) (ha:0≤a∧a≤1000000) (hs:0≤s∧s≤1000):
  Spec Tryz.prog 21 #[v0,.int .i64 (most:Int),.int .i64 a,.int .i64 s] w0 (fun v w=>(RT.en.sl).V M w (fx l a s most) v∧Step M w0 M w aA):=by
 have ku:=hM;refine aW (args:=[_,_,_,_]) (fn:=Tryz.f21) Tryz.func21 rfl (n:=37) Tryz.ntmps21 ?_;have S:Step M w0 M w0 aA:=(an _ _).ca (fun _ h=>h.elim) (fun _ h=>h.elim);refine aj (ah (ai rfl rfl (ad (aj (ah (ai rfl rfl (ad (aj (aj (ah (ai rfl rfl ?_)))))))))));refine ad (bj ?_);refine dI (σ:=Nat×Value) (fun q=>[(0,v0),(1,.int .i64 (most:Int)),(2,.int .i64 a),(3,.int .i64 s),(9,q.2),(10,.int .i64 (q.1:Int))]) (fun q w=>∃M',Lt M' w∧Step M w0 M' w aA∧Own RT.en 43 M' w w0.heap.size q.2 (fx l a s q.1)∧(RT.dc.sl).V M' w l v0∧q.1≤most∧q.1≤l.length) (fun q=>most-q.1) (0,.slice none 0 0) (.cons rfl (.cons rfl (.cons rfl (.cons rfl (.cons rfl (.cons rfl .nil)))))) ?_ ?_
 ·exact⟨M,hM,S,eo _ _ _ _ _,hv,bH _,bH _⟩
 ·rintro⟨i,u⟩ w ⟨M1,hM,S,ho,hv,hi,lS⟩;dsimp only at ho hi lS ⊢;refine aj (aj (ah (ae rfl rfl (ae rfl rfl (bU Tryz.underlying36 rfl hv rfl (cf rfl rfl rfl (ae rfl rfl ?_)))))));refine aI (g:=15) rfl (fun V2=>?_) (fun V2=>?_)
  ·refine al rfl rfl (ae rfl rfl (al rfl rfl (ae rfl rfl (al rfl rfl (cf rfl rfl rfl (aQ rfl rfl rfl (ad ?_)))))));refine bF rfl (fun c3=>?_) (fun c3=>?_)
   ·refine aU (aj (bj (ah (ae rfl rfl (ae rfl rfl (ae rfl rfl ?_))))));refine dq (M:=M1) Tryz.underlying36 k5 rfl rfl rfl hv (aq _ _) (by omega) (fun u5 d Dn AY=>?_);rw[aC]at Dn;have hsi:=ID (k:=(i:Int)) hs (by omega);refine cw (M:=M1) (A:=RT.dc) aO rfl k5 (by decide) rfl rfl rfl AY (aq _ _) (fun v5 ox=>?_);refine aM rfl rfl E65 (Dx _ hM ox) (fun r5 w5 hc=>?_);obtain⟨tx,s5⟩:=hc;replace hv:=hv.le s5.le;replace ho:=ho.bg s5;replace hM:=s5.lt hM;have:=S.size;replace S:=S.ax s5;refine ae rfl rfl (ae rfl rfl (ae rfl rfl (Rg.HT rfl rfl rfl (by omega) (bz rfl rfl rfl (by omega) ?_))));obtain⟨uf,rfl⟩:=xC tx;refine dX (places:=[(0,2),(2,1)]) cO yR S8 rfl ⟨_,_,rfl,rfl,_,_,rfl,rfl,rfl⟩ (out:=[_,_,_]) ⟨0,[_,_],rfl,rfl,by simp[Value.cells],2,[_],rfl,rfl,by simp[Value.cells],rfl⟩ ?_;refine eW (A:=RT.en) (hn:=by decide) (M:=M1) gp yR (by decide) rfl rfl hM (show RT.en.V _ _ (mA d,a+s*(i:Int)) _ from Cq tx (by omega)) (.inl rfl) (fun aag aah Bb zk=>?_);replace hv:=hv.le zk.le;replace tx:=tx.le zk.le;replace ho:=ho.bg zk;replace hM:=zk.lt hM;have:=S.size;replace S:=S.ax zk;refine dh (M:=M1) (base:=w0.heap.size) gp yR rfl rfl rfl rfl ho Bb (aq _ _) (by have:=j4 l a s i;simp;omega) (by have:=j4 l a s i;simp;omega) (S.size) (fun Qp Qq aai Mm zm=>?_);replace hv:=hv.le zm.le;replace tx:=tx.le zm.le;replace Bb:=Bb.le zm.le;replace hM:=zm.lt hM;have:=S.size;replace S:=S.dC zm ho (a8 _);replace ho:=Mm;refine ai rfl rfl (ad (ah (ae rfl rfl (bz rfl rfl rfl (by omega) (ai rfl rfl (ad ?_))))));refine⟨rfl,(i+1,Qp),(.cons rfl (.cons rfl (.cons rfl (.cons rfl (.cons rfl (.cons rfl .nil)))))),?_,?_⟩
    ·exact⟨Qq,hM,S,by rw[tH Dn];exact ho,hv,by dsimp only;omega,by dsimp only;omega⟩
    ·dsimp only;omega
   ·refine cM (aj (ah (ae rfl rfl (ai rfl rfl (ad (aH ?_))))));rw[←zj (i:=i) (n:=most) (by omega) hi];exact aP rfl rfl ⟨ho.close ku S (by have:=j4 l a s i;omega),S.back⟩
  ·refine ao rfl rfl rfl rfl (ao rfl rfl rfl rfl (ao rfl rfl rfl rfl (ay rfl rfl rfl (ad (gL rfl (cM (aj (ah (ae rfl rfl (ai rfl rfl (ad ?_)))))))))));refine aH ?_;rw[←zj (i:=i) (n:=most) (by omega) hi];exact aP rfl rfl ⟨ho.close ku S (by have:=j4 l a s i;omega),S.back⟩
end Go.K
namespace Go.K
open Go.Maps (Keyed)
structure eD (P:Program) (kt:TypeId) (w:World) (b:Nat) (es:List MapEntry) (clock:Nat):Prop where
 at_:w.heap[b]? =some (.map es.toArray clock)
 born:es.Pairwise fun x y=>x.born≠y.born
 lt:∀e∈es,e.born<clock
 keys:es.Pairwise fun x y=>x.key≠y.key
 ok:∀e∈es,∃l,keyOf P kt e.key=some l
def dF (zv:Value) (es:List MapEntry) (key v:Value):Prop:=(∃e∈es,e.key=key∧v=e.val)∨((∀e∈es,e.key≠key)∧v=zv)
section
variable {P:Program} {kt:TypeId} {w:World} {b clock:Nat} {es:List MapEntry}
theorem eD.step {M M' N:az} {w':World} (h:eD P kt w b es clock) (s:Step M w M' w' N) (hn: ¬N b):eD P kt w' b es clock:=⟨s.bE h.at_ hn,h.born,h.lt,h.keys,h.ok⟩
theorem eD.bg {M M':az} {w':World} (h:eD P kt w b es clock) (s:Step M w M' w' aA):eD P kt w' b es clock:=h.step s fun h=>h
theorem fy {α:Type} {R:α→α→Prop} {l:List α} (h:l.Pairwise R) {i j:Nat} {x y:α} (hi:l[i]? =some x) (hj:l[j]? =some y) (fZ:i<j):R x y:=by
 obtain⟨h1,h2⟩:=au.1 hi;obtain⟨h3,h4⟩:=au.1 hj;have:=List.pairwise_iff_getElem.1 h i j h1 h3 fZ
 rwa [h2,h4]at this
theorem eD.Cv (h:eD P kt w b es clock) {x y:MapEntry} (hx:x∈es) (hy:y∈es) (e:x.key=y.key):x=y:=by
 obtain⟨i,hi⟩:=bN.1 hx;obtain⟨j,hj⟩:=bN.1 hy;rcases iy i j with h1|h1|h1
 ·exact absurd e (fy h.keys hi hj h1)
 ·subst h1;rw[hi]at hj;exact bQ hj
 ·exact absurd e.symm (fy h.keys hj hi h1)
theorem eD.zn (h:eD P kt w b es clock) {i j:Nat} {x y:MapEntry} (hi:es[i]? =some x) (hj:es[j]? =some y) (e:x.born=y.born):i=j:=by
 rcases iy i j with h1|h1|h1
 ·exact absurd e (fy h.born hi hj h1)
 ·exact h1
 ·exact absurd e.symm (fy h.born hj hi h1)
theorem eD.val_one (h:eD P kt w b es clock) {zv key v v':Value} (h1:dF zv es key v) (h2:dF zv es key v'):v=v':=by
 rcases h1 with⟨e,he,hk,hv⟩|⟨hn,hv⟩
 ·rcases h2 with⟨e',nA,sI,mW⟩|⟨HL,_⟩
  ·have:=h.Cv he nA (hk.trans sI.symm);rw[hv,mW,this]
  ·exact absurd hk (HL e he)
 ·rcases h2 with⟨e',nA,sI,_⟩|⟨_,mW⟩
  ·exact absurd sI (hn e' nA)
  ·rw[hv,mW]
theorem cW {r:Nat} {a:Array MapEntry} {c:Nat} (hb:w.heap[r]? =some (.map a c)):(getObj r).run P w= .ok (.map a c) w:=by simp[getObj,Sem.run,hb]
theorem run_setObj_map {r:Nat} {a:Array MapEntry} {c:Nat} {o:Obj} (hb:w.heap[r]? =some (.map a c)):(setObj r o).run P w= .ok () {w with heap:=w.heap.setIfInBounds r o}:=by simp[setObj,Sem.run,hb]
theorem eD.push (h:eD P kt w b es clock) {key v:Value} {kl:Lit} (jI:keyOf P kt key=some kl) (hn:∀e∈es,e.key≠key) {w':World} (hw:w'.heap[b]? =some (.map (es++([⟨key,v,clock⟩]:List MapEntry)).toArray (clock+1))):eD P kt w' b (es++[⟨key,v,clock⟩]) (clock+1):=
 ⟨hw,List.pairwise_append.2 ⟨h.born,List.pairwise_singleton _ _,fun x hx y hy=>by rw[cn.1 hy];have:=h.lt x hx;show x.born≠clock;omega⟩,(fun e he=>by
  rcases cZ.1 he with he|he
  ·have:=h.lt e he;omega
  ·rw[cn.1 he];exact Nat.lt_succ_self _),List.pairwise_append.2 ⟨h.keys,List.pairwise_singleton _ _,fun x hx y hy=>by rw[cn.1 hy];exact hn x hx⟩,(fun e he=>by
  rcases cZ.1 he with he|he
  ·exact h.ok e he
  ·rw[cn.1 he];exact⟨kl,jI⟩)⟩
theorem dF.push {zv key:Value} {s:Nat} (hn:∀e∈es,e.key≠key) (gE v':Value):dF zv (es++[⟨key,zv,s⟩]) gE v'↔dF zv es gE v':=by
 constructor
 ·rintro(⟨e,he,hk,hv⟩|⟨h1,h2⟩)
  ·rcases cZ.1 he with he|he
   ·exact .inl ⟨e,he,hk,hv⟩
   ·rw[cn.1 he]at hk hv;exact .inr ⟨fun e he=>by rw[←hk];exact hn e he,hv⟩
  ·exact .inr ⟨fun e he=>h1 e (kY _ he),h2⟩
 ·rintro(⟨e,he,hk,hv⟩|⟨h1,h2⟩)
  ·exact .inl ⟨e,kY _ he,hk,hv⟩
  ·by_cases hk:key=gE
   ·exact .inl ⟨⟨key,zv,s⟩,by simp,hk,h2⟩
   ·exact .inr ⟨fun e he=>by
     rcases cZ.1 he with he|he
     ·exact h1 e he
     ·rw[cn.1 he];exact hk,h2⟩
end
section
variable {P:Program} {r:Option Nat} {n:Nat} {L:Sl} {ds:List Deferred} {w:World} {K:Kt} {ops:Array Oper} {rest:List Oper} {d:Nat} {x y z:Operand} {ty:TypeId} {pos:String} {af:Array Edge}
variable {kt:TypeId} {M:az} {b clock:Nat} {es:List MapEntry}
theorem Rg.zo {t e:TypeId} (M:az) (ht:P.underlying t=some (.map kt e)) (hd:Nat.blt d n=true)
  (k:∀b w',w.heap.size≤b→b<w'.heap.size→eD P kt w' b [] 0→Step M w (ins M b) w' aA→Rg P r n ops rest ((d,.map (some b))::L) ds w' K):
  Rg P r n ops ({dst:=some d,op:= .makeMap t none,type:=ty,pos,after:=af,guard:=none}::rest) L ds w K:=by
 refine .op (fun _ h=>by cases h) rfl rfl hd (.map (some w.heap.size)) (w.alloc (.map #[] 0)) (fun ρ hρ=>?_) (k w.heap.size _ (a8 _) (by simp) ⟨cu w _,List.Pairwise.nil,(fun e he=>by cases he),List.Pairwise.nil,(fun e he=>by cases he)⟩ ((cU M w _).own (a8 _) (by simp)));simp only[execOp];simp[Instr.makeMap,newObj,Sem.run,run_underlying ht]
theorem Rg.mapEntry {t e:TypeId} {zv key:Value} {size bytes:Nat} {kl:Lit} (ht:P.underlying t=some (.map kt e)) (Kk:Keyed P kt) (hi:TI P e zv size bytes) (hx:ev L x=some (.map (some b))) (hy:ev L y=some key) (hd:Nat.blt d n=true) (jI:keyOf P kt key=some kl) (h:eD P kt w b es clock) (hm:M b)
  (k:∀w' mB Bc v s,eD P kt w' b mB Bc→dF zv es key v→(⟨key,v,s⟩:MapEntry)∈mB→(∀gE v',dF zv mB gE v'↔dF zv es gE v')→((mB.map (·.key)=es.map (·.key)∧∃e∈es,e.key=key)∨(mB.map (·.key)=es.map (·.key)++[key]∧∀e∈es,e.key≠key))→Step M w M w' (fun k=>k=b)→Rg P r n ops rest ((d,.tuple #[v,.int .i64 (s:Nat)])::L) ds w' K):
  Rg P r n ops ({dst:=some d,op:= .mapEntry t x y,type:=ty,pos,after:=af,guard:=none}::rest) L ds w K:=by
 have dy:=ak h.at_;rcases Kk.find w jI es h.ok with⟨h1,h2⟩|⟨j,e0,h1,h2,h3⟩
 ·obtain⟨inf,i1,i2,_,_⟩:=hi.get;have hz:(zeroValue e).run P w= .ok zv w:=by simp[zeroValue,typeInfo,i1,i2]
  have hw:({w with heap:=w.heap.setIfInBounds b (.map (es.toArray.push ⟨key,zv,clock⟩) (clock+1))}:World).heap[b]? =some (.map (es++([⟨key,zv,clock⟩]:List MapEntry)).toArray (clock+1)):=by
   simp[cJ,dy]
  refine .op (fun _ h=>by cases h) rfl rfl hd _ _ (fun ρ hρ=>?_) (k _ _ _ zv clock (h.push jI h2 hw) (Or.inr ⟨h2,rfl⟩) (by simp) (dF.push h2) (Or.inr ⟨by simp,h2⟩) (gB M hm));simp only[execOp,hρ x _ hx,hρ y _ hy,Instr.mapEntry,cQ,run_underlying ht,du,cW h.at_,Kk.check w false jI,h1,hz,run_setObj_map h.at_];simp[goInt]
 ·have he:e0∈es:=aN h2
  have FR:es.toArray.modify j (fun e=>{e with key:=key})=es.toArray:=by
   apply Array.ext_getElem?;intro i;rw[qd]
   split
   ·rename_i Qr
    subst Qr;simp only[j5,h2,fB];rw[←h3]
   ·rfl
  have hw:({w with heap:=w.heap.setIfInBounds b (.map es.toArray clock)}:World).heap[b]? =some (.map es.toArray clock):=by simp[cJ,dy]
  have hj:es.toArray[j]? =some e0:=by simpa using h2
  have il:(Instr.keyThatStays ((Option.map (fun(e:MapEntry)=>e.key) es.toArray[j]?).getD key) key).run P w= .ok key w:=by
   rw[hj];simp only[fB,Option.getD_some,h3];exact Kk.stays w jI
  refine .op (fun _ h=>by cases h) rfl rfl hd _ _ (fun ρ hρ=>?_) (k _ es clock e0.val e0.born ⟨hw,h.born,h.lt,h.keys,h.ok⟩ (Or.inl ⟨e0,he,h3,rfl⟩) (by rw[←h3];exact he) (fun _ _=>Iff.rfl) (Or.inl ⟨rfl,e0,he,h3⟩) (gB M hm));simp only[execOp,hρ x _ hx,hρ y _ hy,Instr.mapEntry,cQ,run_underlying ht,du,cW h.at_,Kk.check w false jI,h1,il,FR,run_setObj_map h.at_];simp[goInt,hj]
theorem Rg.entryStore {t:TypeId} {key v0 val:Value} {s:Nat} (hx:ev L x=some (.map (some b))) (hy:ev L y=some (.int .i64 (s:Int))) (hz:ev L z=some val) (h:eD P kt w b es clock) (hm:M b) (lD:(⟨key,v0,s⟩:MapEntry)∈es)
  (k:∀w' mB,eD P kt w' b mB clock→mB.map (·.key)=es.map (·.key)→(∀zv gE v',dF zv mB gE v'↔(gE=key∧v'=val)∨(gE≠key∧dF zv es gE v'))→Step M w M w' (fun k=>k=b)→Rg P r n ops rest L ds w' K):
  Rg P r n ops ({dst:=none,op:= .entryStore t x y z,type:=ty,pos,after:=af,guard:=none}::rest) L ds w K:=by
 have dy:=ak h.at_;obtain⟨i,hi⟩:=bN.1 lD;have lS:=(au.1 hi).1
 have V3:es.toArray.findIdx? (fun e=>(e.born:Int)==(s:Int))=some i:=by
  rw[List.findIdx?_toArray,List.findIdx?_eq_some_iff_getElem];refine⟨lS,by rw[(au.1 hi).2];simp,fun j hj=>?_⟩;have oK:j<es.length:=by omega
  have:=fun e=>h.zn (aL oK) hi e
  simp only[Bool.not_eq_true,beq_eq_false_iff_ne,ne_eq];intro e;have e2:((es[j]).born:Int)=(s:Int):=by simpa using e
  have:=this (by show(es[j]).born=s;omega);omega
 obtain⟨mB,qI⟩:∃mB,mB=es.set i ⟨key,val,s⟩:=⟨_,rfl⟩
 have FR:es.toArray.modify i (fun e=>{e with val:=val})=mB.toArray:=by
  apply Array.ext_getElem?;intro j;rw[qd,qI];simp only[j5,dN]
  split
  ·rename_i Qr
   subst Qr;rw[hi];simp
  ·rfl
 have fL:∀j e',mB[j]? =some e'→(j=i∧e'=⟨key,val,s⟩)∨(j≠i∧es[j]? =some e'):=fun j e' hj=>by
  rw[qI,dN]at hj
  split at hj
  ·rename_i fZ
   left;exact⟨fZ.symm,by simpa[lS]using hj.symm⟩
  ·rename_i fZ
   exact .inr ⟨fun e=>fZ e.symm,hj⟩
 have mC:mB.map (·.key)=es.map (·.key):=by
  rw[qI,List.map_set];apply kH;intro j;rw[dN]
  split
  ·rename_i fZ
   subst fZ;have e:=(au.1 hi).2;simp[lS,e]
  ·rfl
 have FT:mB.map (·.born)=es.map (·.born):=by
  rw[qI,List.map_set];apply kH;intro j;rw[dN]
  split
  ·rename_i fZ
   subst fZ;have e:=(au.1 hi).2;simp[lS,e]
  ·rfl
 have hw:({w with heap:=w.heap.setIfInBounds b (.map mB.toArray clock)}:World).heap[b]? =some (.map mB.toArray clock):=by simp[cJ,dy]
 have ek:∀e'∈mB,(e'=⟨key,val,s⟩)∨(e'∈es∧e'.key≠key):=fun e' nA=>by
  obtain⟨j,hj⟩:=bN.1 nA;rcases fL j e' hj with⟨_,e⟩|⟨eK,qg⟩
  ·exact .inl e
  ·refine .inr ⟨aN qg,fun e=>eK ?_⟩;rcases iy j i with h1|h1|h1
   ·exact absurd e (fy h.keys qg hi h1)
   ·exact h1
   ·exact absurd e.symm (fy h.keys hi qg h1)
 have FU:(⟨key,val,s⟩:MapEntry)∈mB:=aN (i:=i) (by rw[qI,dN];simp[lS])
 have hold:∀e'∈es,e'.key≠key→e'∈mB:=fun e' nA eK=>by
  obtain⟨j,hj⟩:=bN.1 nA;refine aN (i:=j) ?_;rw[qI,dN,if_neg]
  ·exact hj
  ·rintro rfl;rw[hi]at hj;cases hj;exact eK rfl
 have hW:eD P kt {w with heap:=w.heap.setIfInBounds b (.map mB.toArray clock)} b mB clock:=by
  refine⟨hw,?_,fun e' nA=>?_,?_,fun e' nA=>?_⟩
  ·have:=dp.2 h.born;rw[←FT]at this;exact dp.1 this
  ·rcases ek e' nA with e|⟨h1,_⟩
   ·rw[e];exact(h.lt _ lD:s<clock)
   ·exact h.lt _ h1
  ·have:=dp.2 h.keys;rw[←mC]at this;exact dp.1 this
  ·rcases ek e' nA with e|⟨h1,_⟩
   ·rw[e];exact(h.ok _ lD:∃l,keyOf P kt key=some l)
   ·exact h.ok _ h1
 refine .OH (fun _ h=>by cases h) rfl rfl _ (fun ρ hρ=>?_) (k _ mB hW mC (fun zv gE v'=>?_) (gB M hm))
 ·simp only[execOp,hρ x _ hx,hρ y _ hy,hρ z _ hz,Instr.entryStore,cQ,cW h.at_,du,asInt,asIntOf,Sem.run_pure,V3,FR,run_setObj_map h.at_]
 ·constructor
  ·rintro(⟨e',nA,hk,hv⟩|⟨h1,h2⟩)
   ·rcases ek e' nA with e|⟨h3,h4⟩
    ·subst e;exact .inl ⟨hk.symm,hv⟩
    ·exact .inr ⟨by rw[←hk];exact h4,.inl ⟨e',h3,hk,hv⟩⟩
   ·have eK:gE≠key:=fun e=>h1 _ FU e.symm
    exact .inr ⟨eK,.inr ⟨fun e' nA=>fun e=>by
     by_cases h5:e'.key=key
     ·exact eK (e.symm.trans h5)
     ·exact h1 e' (hold e' nA h5) e,h2⟩⟩
  ·rintro(⟨rfl,rfl⟩|⟨eK,⟨e',nA,hk,hv⟩|⟨h1,h2⟩⟩)
   ·exact .inl ⟨_,FU,rfl,rfl⟩
   ·exact .inl ⟨e',hold e' nA (by rw[hk];exact eK),hk,hv⟩
   ·exact .inr ⟨fun e' nA=>by
     rcases ek e' nA with e|⟨h3,_⟩
     ·rw[e];exact fun e=>eK e.symm
     ·exact h1 e' h3,h2⟩
theorem Rg.pJ {t e:TypeId} {zv key:Value} {size bytes:Nat} {kl:Lit} (ht:P.underlying t=some (.map kt e)) (Kk:Keyed P kt) (hi:TI P e zv size bytes) (hx:ev L x=some (.map (some b))) (hy:ev L y=some key) (hd:Nat.blt d n=true) (jI:keyOf P kt key=some kl) (h:eD P kt w b es clock)
  (k:∀v,dF zv es key v→Rg P r n ops rest ((d,v)::L) ds w K):
  Rg P r n ops ({dst:=some d,op:= .lookup t x y false,type:=ty,pos,after:=af,guard:=none}::rest) L ds w K:=by
 rcases Kk.find w jI es h.ok with⟨h1,h2⟩|⟨j,e0,h1,h2,h3⟩
 ·obtain⟨inf,i1,i2,_,_⟩:=hi.get;have hz:(zeroValue e).run P w= .ok zv w:=by simp[zeroValue,typeInfo,i1,i2]
  refine .op (fun _ h=>by cases h) rfl rfl hd zv w (fun ρ hρ=>?_) (k zv (Or.inr ⟨h2,rfl⟩));simp only[execOp,hρ x _ hx,hρ y _ hy,Instr.lookup,cQ,run_underlying ht,du,cW h.at_,Sem.run_pure,Kk.check w _ jI,h1,hz];simp
 ·refine .op (fun _ h=>by cases h) rfl rfl hd e0.val w (fun ρ hρ=>?_) (k e0.val (Or.inl ⟨e0,aN h2,h3,rfl⟩));simp only[execOp,hρ x _ hx,hρ y _ hy,Instr.lookup,cQ,run_underlying ht,du,cW h.at_,Sem.run_pure,Kk.check w _ jI,h1];simp
end
end Go.K
namespace Go.K
open Go.Proofs
set_option maxRecDepth 10000
open Go.Maps (Keyed)
def kv (t:Fd):Value:= .agg #[.string ⟨t.1.toArray⟩,.string ⟨t.2.toArray⟩]
theorem qJ {a b:Fd} (h:kv a=kv b):a=b:=by
 unfold kv at h;simp only[Value.agg.injEq,Array.mk.injEq,List.cons.injEq,Value.string.injEq,ByteArray.mk.injEq,and_true]at h;exact Prod.ext h.1 h.2
theorem FV:laidOutB Tryz.prog=true:=by kernel_rfl
theorem FX:Tryz.prog.types.size=356:=by kernel_rfl
theorem vV:Keyed Tryz.prog 47:=Keyed.of_law (deep_law_laid FV (m:=2) (k:=47) (by omega) (by rw[FX];decide) (by kernel_rfl) (by kernel_rfl))
theorem Qs:Tryz.prog.keyType 47=true:=by kernel_rfl
theorem Cw:Tryz.prog.cellsOf 47=2:=by kernel_rfl
theorem IE:Tryz.prog.cellsOf 9=1:=by kernel_rfl
theorem FY (t:Fd) (h1:t.1.length≤140737488355328) (h2:t.2.length≤140737488355328):∃l,keyOf Tryz.prog 47 (kv t)=some l:=by
 have e1:(⟨t.1.toArray⟩:ByteArray).size=t.1.length:=by simp[ByteArray.size]
 have e2:(⟨t.2.toArray⟩:ByteArray).size=t.2.length:=by simp[ByteArray.size]
 have hs:∀(s:ByteArray),s.size≤maxLen→Tryz.prog.keyLits 356 9 [.string s]=some [.string s.data.toList]:=fun s hs=>by
  show(match Tryz.prog.underlying 9,[Value.string s]with|_,_=>_)=_;rw[aD];exact if_pos hs
 unfold keyOf kv;rw[cb];simp only[Qs,Value.formed,cb,Cw,FX]
 have key:∃ls,Tryz.prog.keyLits (356+1) 47 [.string ⟨t.1.toArray⟩,.string ⟨t.2.toArray⟩]=some ls:=by
  unfold Program.keyLits;simp only[cb];rw[if_pos ⟨by rw[Cw];rfl,by kernel_rfl⟩];simp only[List.mapM_cons,List.mapM_nil,IE];have g1:=hs ⟨t.1.toArray⟩ (by rw[e1];unfold maxLen;omega);have g2:=hs ⟨t.2.toArray⟩ (by rw[e2];unfold maxLen;omega);refine⟨[.string (⟨t.1.toArray⟩:ByteArray).data.toList,.string (⟨t.2.toArray⟩:ByteArray).data.toList],?_⟩;simp only[List.drop_zero,List.drop_succ_cons,iR,List.take_zero,g1,g2];rfl
 obtain⟨ls,Ej⟩:=key;exact⟨.string (keyBytes ls),by rw[if_pos (by simp)];show Option.map _ (Tryz.prog.keyLits (356+1) 47 [.string ⟨t.1.toArray⟩,.string ⟨t.2.toArray⟩])=_;rw[Ej];rfl⟩
end Go.K
namespace Go.K
open Go.Proofs
set_option maxRecDepth 10000
def gg (x:Fd):List (Fd×Nat):=(words x.2).zipIdx.map fun p=>((x.1,p.1),p.2)
def b8 (l:List Fd):List (Fd×Nat):=l.flatMap gg
theorem lH (x:Fd):(gg x).length=(words x.2).length:=by simp[gg]
theorem FZ {x:Fd} {k:Nat} {y:List UInt8} (h:(words x.2)[k]? =some y):(gg x)[k]? =some ((x.1,y),k):=by
 simp[gg,List.getElem?_zipIdx,h]
theorem oX {fs:List Fd} {i:Nat} {x:Fd} (h:fs[i]? =some x):b8 (fs.take (i+1))=b8 (fs.take i)++gg x:=by
 rw[cr,h];simp[b8]
structure Mn (P:Program) (g:FuncId) (cap:List Value) (B:Nat) (J:List (Fd×Nat)→az→World→Prop):Prop where
 enters:Enters P g
 step:∀ts M w M' w',J ts M w→Step M w M' w' aA→J ts M' w'
 tell:∀ts M w (t:Fd) (i:Nat),J ts M w→Lt M w→t.1.length≤900000→t.2.length≤140737488355328→i≤1000000→ts.length≤10000000→Spec P g ([kv t,.int .i64 (i:Int)]++cap).toArray w (fun _ w'=>∃M',Lt M' w'∧J (ts++[(t,i)]) M' w'∧Step M w M' w' (jS M B))
theorem vW {M:az} {d:Dc} {v0:Value} {g:FuncId} {cap:List Value} {B:Nat} {J:List (Fd×Nat)→az→World→Prop} (w0:World) (hM:Lt M w0) (hv:RT.dc.V M w0 d v0) (hl:∀f∈d.2,f.1.length≤900000∧f.2.length≤900000) (Th:d.2.length≤8) (hT:Mn Tryz.prog g cap B J) (hJ:J [] M w0):
  Spec Tryz.prog 154 #[v0,.func (.func g) #[] cap.toArray] w0 (fun v w=>∃M',Lt M' w∧J (b8 d.2) M' w∧Step M w0 M' w (jS M B)):=by
 refine aW (args:=[_,_]) (fn:=Tryz.f154) Tryz.func154 rfl (n:=33) Tryz.ntmps154 ?_;have S:Step M w0 M w0 (jS M B):=(an _ _).ca (fun _ h=>h.elim) (fun _ h=>h.2);refine aj (ah ?_);refine jB (A:=RT.dc) rfl rfl hM hv rfl (fun u0 w1 cA s0 _=>?_);replace hJ:=hT.step _ _ _ _ _ hJ s0;replace hM:=s0.lt hM;have:=S.size;replace S:=S.ax s0;refine ad (aj (ah ?_));refine aJ (M:=M) (A:=RT.dc) (B:=(RT.fd).sl) aO rfl rfl qC (by decide) (Dt) rfl rfl (by decide) (by assumption) (by repeat (first|exact aq _ _|refine aT (a7 (by assumption)) ?_)) (fun uQ jN=>?_);refine cg (M:=M) aV rfl rfl rfl rfl rfl (by assumption) (by repeat (first|exact aq _ _|refine aT (a7 (by assumption)) ?_)) (fun uR kT=>?_);refine bU aV rfl kT rfl (ae rfl rfl (ad (bj ?_)));refine dI (σ:=Nat) (fun i=>[(1,.func (.func g) #[] cap.toArray),(9,uR),(10,.int .i64 (d.2.length:Int)),(11,.int .i64 (i:Int))]) (fun i w=>∃M',Lt M' w∧Step M w0 M' w (jS M B)∧(RT.fd.sl).V M' w d.2 uR∧J (b8 (d.2.take i)) M' w∧i≤d.2.length∧(b8 (d.2.take i)).length≤900001*i) (fun i=>d.2.length-i) 0 (.cons rfl (.cons rfl (.cons rfl (.cons rfl .nil)))) ?_ ?_
 ·exact⟨_,hM,S,kT,hJ,bH _,a8 _⟩
 ·rintro i w ⟨M1,hM,S,mu,hJ,hi,Ed⟩;refine aj (ah (cf rfl rfl rfl (ad (aj ?_))));refine bF rfl (fun c2=>?_) (fun c2=>?_)
  ·refine aU (aj (bj (aj (ah ?_))));refine dq (M:=M1) aV iB rfl rfl rfl mu (aq _ _) (by omega) (fun u3 x Mo hu3=>?_);rw[aC]at Mo;have uA:=hl _ (aN Mo);refine cw (M:=M1) (A:=RT.fd) bR rfl iB (by decide) rfl rfl rfl hu3 (aq _ _) (fun v3 uU=>?_);refine oH (A:=RT.fd) (M:=M1) iB rfl rfl rfl rfl rfl (by assumption) (aq _ _) hM (fun IF adr tJ IG ads=>?_);replace mu:=mu.le IG.le;replace hJ:=hT.step _ _ _ _ _ hJ IG;replace hM:=IG.lt hM;have:=S.size;replace S:=S.ax IG;refine ad (aj (ah ?_));refine aJ (M:=M1) (A:=RT.fd) (B:=RT.str) bR rfl rfl I9 (by decide) (Te) rfl rfl (by decide) (by assumption) (by repeat (first|exact aq _ _|refine aT (a7 (by assumption)) ?_)) (fun LX Cs=>?_);refine cg (M:=M1) aD rfl rfl rfl rfl rfl Cs (aq _ _) (fun v4 qH=>?_);obtain rfl:=fD qH;refine aM rfl rfl Pn (tt (l:=x.2) _ hM uA.2) (fun v5 w5 hc=>?_);obtain⟨Qt,s5⟩:=hc;replace mu:=mu.le s5.le;replace tJ:=tJ.le (by decide) s5.le;replace hJ:=hT.step _ _ _ _ _ hJ s5;replace hM:=s5.lt hM;have:=S.size;replace S:=S.ax s5;have Z3:=nR x.2;refine bU bh rfl Qt rfl (ae rfl rfl (ad (bj ?_)));refine dI (σ:=Nat) (fun k=>[(1,.func (.func g) #[] cap.toArray),(5,IF),(9,uR),(10,.int .i64 (d.2.length:Int)),(11,.int .i64 (i:Int)),(17,v5),(18,.int .i64 ((words x.2).length:Int)),(19,.int .i64 (k:Int))]) (fun k w=>∃M',Lt M' w∧Step M w0 M' w (jS M B)∧(RT.fd.sl).V M' w d.2 uR∧ch RT.fd M' w IF x∧(RT.str.sl).V M' w (words x.2) v5∧J (b8 (d.2.take i)++(gg x).take k) M' w∧k≤(words x.2).length) (fun k=>(words x.2).length-k) 0 (.cons rfl (.cons rfl (.cons rfl (.cons rfl (.cons rfl (.cons rfl (.cons rfl (.cons rfl .nil)))))))) ?_ ?_
   ·exact⟨_,hM,S,mu,tJ,Qt,by rw[List.take_zero,sk];exact hJ,bH _⟩
   ·rintro k w ⟨M2,hM,S,mu,tJ,Qt,hJ,hk⟩;refine aj (ah (cf rfl rfl rfl (ad (aj ?_))));refine bF rfl (fun c5=>?_) (fun c5=>?_)
    ·refine aU (aj (bj (aj (ah (ae rfl rfl ?_)))));refine dq (M:=M2) bh I9 rfl rfl rfl Qt (aq _ _) (by omega) (fun u6 y Eh LO=>?_);rw[aC]at Eh;refine cg (M:=M2) aD rfl rfl rfl rfl rfl LO (aq _ _) (fun v6 ov=>?_);have Oa:=(ka.1 ov).2;obtain rfl:=fD ov;refine ai rfl rfl (ai rfl rfl (ad (ah (ae rfl rfl ?_))));refine aJ (M:=M2) (A:=RT.fd) (B:=RT.str) bR rfl rfl I9 (by decide) (LV) rfl rfl (by decide) (by assumption) (by repeat (first|exact aq _ _|refine aT (a7 (by assumption)) ?_)) (fun adt Qv=>?_);refine cg (M:=M2) aD rfl rfl rfl rfl rfl Qv (aq _ _) (fun v7 Bd=>?_);obtain rfl:=fD Bd;refine ae rfl rfl (dX (places:=[(0,1),(1,1)]) cb rq ZV rfl ⟨_,_,rfl,rfl,_,_,rfl,rfl,rfl⟩ (out:=[_,_]) ⟨0,[_],rfl,rfl,by simp[Value.cells],1,[_],rfl,rfl,by simp[Value.cells],rfl⟩ (ae rfl rfl ?_));refine Rg.mV (first:=[]) (captured:=cap) (xs:=[.tmp 28,.tmp 29]) rfl rfl rfl hT.enters (hT.tell _ _ _ (x.1,y) k hJ hM uA.1 Oa (by omega) (by rw[bM,bG,lH];omega)) (fun r7 w7 hc=>?_);obtain⟨M7,hM7,hJ7,s7⟩:=hc;refine ad (ah (bz rfl rfl rfl (by omega) (ae rfl rfl (ad ?_))));refine⟨rfl,k+1,(.cons rfl (.cons rfl (.cons rfl (.cons rfl (.cons rfl (.cons rfl (.cons rfl (.cons rfl .nil)))))))),?_,?_⟩
     ·exact⟨M7,hM7,S.trans s7 (fun b hb h=>⟨h.1,(S.mem b hb).1 h.2⟩),mu.le s7.le,tJ.le (by decide) s7.le,Qt.le s7.le,by rw[cr,FZ Eh,cY,←List.append_assoc];exact hJ7,by omega⟩
     ·omega
    ·refine cM (ah (bz rfl rfl rfl (by omega) (ae rfl rfl (ad ?_))));refine⟨rfl,i+1,(.cons rfl (.cons rfl (.cons rfl (.cons rfl .nil)))),?_,?_⟩
     ·exact⟨_,hM,S,mu,by rw[oX Mo];have e:(gg x).take k=gg x:=bI (by rw[lH];omega);rw[e]at hJ;exact hJ,by omega,by rw[oX Mo,bM,lH];omega⟩
     ·omega
  ·refine cM ?_
   first|refine fK.nil ?_|simp+decide only[so,kZ,if_true,if_false]|skip
   have e:d.2.take i=d.2:=bI (by omega);rw[e]at hJ;exact gZ rfl ⟨_,hM,hJ,S⟩
theorem xG {M:az} {w:World} {t:Fd} (h1:t.1.length≤140737488355328) (h2:t.2.length≤140737488355328):RT.fd.V M w t (kv t):=ei (ka.2 ⟨rfl,h1⟩) (ka.2 ⟨rfl,h2⟩) rfl rfl rfl rfl
def WJ (b B:Nat) (ts:List (Fd×Nat)) (M:az) (w:World):Prop:=w.heap[b]? =some (.cells #[.int .i64 (ts.length:Int)] 3 (0,0))∧M b∧B≤b
theorem xH {M:az} {b B:Nat} {ts:List (Fd×Nat)} {t:Fd} {i:Nat} (w0:World) (hM:Lt M w0) (h1:t.1.length≤900000) (h2:t.2.length≤140737488355328) (C6:ts.length≤10000000) (hJ:WJ b B ts M w0):
  Spec Tryz.prog 161 #[kv t,.int .i64 (i:Int),.pointer (some ⟨b,0,none⟩)] w0 (fun v w=>∃M',Lt M' w∧WJ b B (ts++[(t,i)]) M' w∧Step M w0 M' w (jS M B)):=by
 obtain⟨gb,dB,hB⟩:=hJ;refine aW (args:=[_,_,_]) (fn:=Tryz.f161) Tryz.func161 rfl (n:=7) Tryz.ntmps161 ?_;have S:Step M w0 M w0 (jS M B):=(an _ _).ca (fun _ h=>h.elim) (fun _ h=>h.2);refine aj (ah ?_);refine jB (A:=RT.fd) rfl rfl hM (xG (by omega) h2) rfl (fun u0 w1 cA s0 _=>?_);have:=ak gb;replace dB:=(s0.mem _ this).2 dB;replace gb:=s0.aG gb;replace hM:=s0.lt hM;have:=S.size;replace S:=S.ax s0;refine ad (ah (aE ar rfl rfl rfl (by assumption) rfl (bz rfl rfl rfl (by omega) ?_)));refine bP (M:=M) I3 rfl rfl gb rfl (rfl) dB (fun IH fM mM=>?_);change IH.heap[_]? =some (Obj.cells #[.int .i64 ((ts.length:Int)+1)] _ _)at fM;have:=ak gb;replace dB:=(mM.mem _ this).2 dB;replace hM:=mM.lt hM;have:=S.size;replace S:=S.trans mM (fun k hk h=>by have h:_=_:=h;subst h;first|(exfalso;omega)|(show _≤_;omega)|exact⟨by first|omega|assumption,(S.mem _ hk).1 ((mM.mem _ (ak gb)).1 dB)⟩|exact .inl rfl|exact .inr rfl|exact .inr (.inl rfl)|exact .inr (.inr rfl)|exact rfl);have F0:=fM;clear gb;have gb:=F0;clear F0;refine ad ?_
 first|refine fK.nil ?_|simp+decide only[so,kZ,if_true,if_false]|skip
 exact gZ rfl ⟨_,hM,⟨by rw[bM];exact gb,dB,hB⟩,S⟩
theorem zp {b B:Nat}:Mn Tryz.prog 161 [.pointer (some ⟨b,0,none⟩)] B (WJ b B):=
 ⟨Uz,fun ts M w M' w' ⟨h1,h2,h3⟩ s=>⟨s.aG h1,(s.mem _ (ak h1)).2 h2,h3⟩,fun ts M w t i hJ hM h1 h2 _ h4=>xH w hM h1 h2 h4 hJ⟩
theorem zq {M:az} {d:Dc} {v0:Value} (w0:World) (hM:Lt M w0) (hv:RT.dc.V M w0 d v0) (hl:∀f∈d.2,f.1.length≤900000∧f.2.length≤900000) (Th:d.2.length≤8):
  Spec Tryz.prog 110 #[v0] w0 (fun v w=>v= .int .i64 ((b8 d.2).length:Int)∧Step M w0 M w aA):=by
 refine aW (args:=[_]) (fn:=Tryz.f110) Tryz.func110 rfl (n:=8) Tryz.ntmps110 ?_;have S:Step M w0 M w0 aA:=(an _ _).ca (fun _ h=>h.elim) (fun _ h=>h.elim);refine aj (ah ?_);refine jB (A:=RT.dc) rfl rfl hM hv rfl (fun u0 w1 cA s0 _=>?_);replace hM:=s0.lt hM;have:=S.size;replace S:=S.ax s0;refine ai rfl rfl (ad (aj (ah ?_)));refine ff M I3 rfl (fun mK Dq PO PQ jH n4=>?_);obtain⟨nr,nt⟩:∃M',M'=ins M mK:=⟨_,rfl⟩;rw[←nt]at n4;have ib:nr mK:=by rw[nt];exact .inl rfl
 change Dq.heap[mK]? =some (.cells #[.int .i64 0] _ _)at jH;replace cA:=cA.le (by decide) n4.le;replace hM:=n4.lt hM;have:=S.size;replace S:=S.ax n4;refine bP (M:=nr) I3 rfl rfl jH rfl (rfl) ib (fun II uV oY=>?_);change II.heap[_]? =some (Obj.cells #[.int .i64 0] _ _)at uV;have:=ak jH;replace ib:=(oY.mem _ this).2 ib;replace cA:=cA.le (by decide) oY.le;replace hM:=oY.lt hM;have:=S.size;replace S:=S.trans oY (fun k hk h=>by have h:_=_:=h;subst h;first|(exfalso;omega)|(show _≤_;omega)|exact⟨by first|omega|assumption,(S.mem _ hk).1 ((oY.mem _ (ak jH)).1 ib)⟩|exact .inl rfl|exact .inr rfl|exact .inr (.inl rfl)|exact .inr (.inr rfl)|exact rfl);have Ke:=uV;clear jH;have jH:=Ke;clear Ke;refine ad (aj (ah ?_));refine cw (M:=nr) (A:=RT.dc) aO rfl k5 (by decide) rfl rfl rfl cA (aq _ _) (fun v2 xo=>?_);refine iD (xs:=[]) (ys:=[.tmp 3]) rfl rfl rfl ?_;refine aM rfl rfl Pm (vW (cap:=[.pointer (some ⟨mK,0,none⟩)]) (B:=w0.heap.size) _ hM xo hl Th zp ⟨jH,ib,by omega⟩) (fun r2 w2 hc=>?_);obtain⟨M2,HJ,⟨g2,_,_⟩,s2⟩:=hc;replace S:=S.kc s2 (a8 _);refine ad (aj (ah (aE ar rfl rfl rfl g2 rfl (ai rfl rfl (ad (aH ?_))))));exact aP rfl rfl ⟨rfl,S.back⟩
end Go.K
namespace Go.K
section
variable {P:Program} {r:Option Nat} {n:Nat} {L:Sl} {ds:List Deferred} {w:World} {K:Kt} {ops:Array Oper} {rest:List Oper} {d:Nat} {x y z:Operand} {ty:TypeId} {pos:String} {af:Array Edge}
variable {kt:TypeId} {M:az} {b mb clock:Nat} {es:List MapEntry} {sn:Array Nat}
theorem Rg.rangeMap {t e:TypeId} (M:az) (ht:P.underlying t=some (.map kt e)) (hx:ev L x=some (.map (some mb))) (hd:Nat.blt d n=true) (h:eD P kt w mb es clock)
  (k:∀b w',w.heap.size≤b→b<w'.heap.size→w'.heap[b]? =some (.mapIter (some mb) clock #[] clock)→Step M w (ins M b) w' aA→Rg P r n ops rest ((d,.pointer (some ⟨b,0,none⟩))::L) ds w' K):
  Rg P r n ops ({dst:=some d,op:= .range t x,type:=ty,pos,after:=af,guard:=none}::rest) L ds w K:=by
 refine .op (fun _ h=>by cases h) rfl rfl hd (.pointer (some ⟨w.heap.size,0,none⟩)) (w.alloc (.mapIter (some mb) clock #[] clock)) (fun ρ hρ=>?_) (k w.heap.size _ (a8 _) (by simp) (cu w _) ((cU M w _).own (a8 _) (by simp)));simp only[execOp,hρ x _ hx];simp[Instr.range,cQ,run_underlying ht,cW h.at_,newObj,Sem.run]
theorem mD {sb:Option Nat} {s c:Nat} (hb:w.heap[b]? =some (.mapIter sb s sn c)):(getObj b).run P w= .ok (.mapIter sb s sn c) w:=by simp[getObj,Sem.run,hb]
theorem Be (h:eD P kt w mb es clock) (seen:Array Nat):(!seen.isEmpty&& !es.toArray.isEmpty&&es.toArray.all (fun x=>decide (x.born≥clock)))=false:=by
 cases es with
 |nil=>simp
 |cons e l=>
  have:=h.lt e (by simp);simp only[Bool.and_eq_false_iff];right;rw[eF];intro h2;rw[Array.all_eq_true_iff_forall_mem]at h2;have:=h2 e (by simp);simp at this;omega
theorem zr (k:Nat) (hk:0<k):∃j w1,j<k∧(∀M,Step M w M w1 aA)∧w1.heap=w.heap∧(choose (Question.mapNext k)).run P w= .ok j w1:=by
 by_cases hf:k≤1
 ·exact⟨0,w,hk,fun M=>an M w,rfl,by simp[choose,Sem.run,Question.forced,hf]⟩
 ·exact⟨_,w.drew,Nat.mod_lt _ hk,fun M=>lp M w,rfl,by
   simp only[choose,Sem.run,Question.forced,decide_eq_true_eq,hf,if_false,Question.cut];rfl⟩
theorem F1 (h:eD P kt w mb es clock) (hb:w.heap[b]? =some (.mapIter (some mb) clock sn clock)) (hm:M b):
  ((∀e∈es,e.born∈sn)∧(Instr.next (.pointer (some ⟨b,0,none⟩)) false ty).run P w= .ok (.tuple #[.bool false]) w)∨
  ∃e w',e∈es∧e.born∉sn∧w'.heap[b]? =some (.mapIter (some mb) clock (sn.push e.born) clock)∧Step M w M w' (fun k=>k=b)∧(Instr.next (.pointer (some ⟨b,0,none⟩)) false ty).run P w= .ok (.tuple #[.bool true,e.key,e.val]) w':=by
 have dy:=ak hb;simp only[Instr.next,cQ,mD hb,du,cW h.at_,Be h sn,Bool.false_eq_true,if_false];have hL:∀e∈es.toArray.filter (fun e=> !sn.contains e.born),e.born<clock:=fun e he=>h.lt e (by simpa using(Array.mem_filter.1 he).1)
 have lD:∀e,e∈es.toArray.filter (fun e=> !sn.contains e.born)↔e∈es∧e.born∉sn:=fun e=>by simp[Array.mem_filter]
 generalize es.toArray.filter (fun e=> !sn.contains e.born)=Lf at hL lD ⊢;have e1:Lf.filter (fun x=>decide (x.born<clock))=Lf:=Array.filter_eq_self.2 fun x hx=>by simpa using hL x hx
 have e2:Lf.filter (fun x=>decide (x.born≥clock))= #[]:=by
  rw[Array.filter_eq_empty_iff];intro x hx;have:=hL x hx;simp;omega
 simp only[e1,e2,Array.append_empty];by_cases h0:Lf.size=0
 ·left;have sJ:Lf= #[]:=Array.eq_empty_of_size_eq_zero h0;subst sJ;refine⟨fun e he=>?_,by simp[choose,Sem.run,Question.forced]⟩;by_cases hs:e.born∈sn
  ·exact hs
  ·exact absurd ((lD e).2 ⟨he,hs⟩) (by simp)
 ·right;have eK:Lf.isEmpty=false:=by simp[Array.isEmpty,h0]
  simp only[eK,Bool.false_eq_true,if_false,Array.empty_append,Array.size_map];obtain⟨j,w1,hj,KY,hh1,fY⟩:=zr (P:=P) (w:=w) Lf.size (by omega);have qh:w1.heap[b]? =some (.mapIter (some mb) clock sn clock):=by rw[hh1];exact hb
  have ek:=(lD Lf[j]).1 (by simp);refine⟨Lf[j],{w1 with heap:=w1.heap.setIfInBounds b (.mapIter (some mb) clock (sn.push Lf[j].born) clock)},ek.1,ek.2,by simp[cJ,hh1,dy],?_,?_⟩
  ·exact((KY M).ca (fun _ h=>h.elim) (fun k hk=>by subst hk;exact hm)).trans (gB M hm) (fun _ _ h=>h)
  ·simp only[fY,du,Array.getElem?_map,Array.getElem?_eq_getElem hj,fB,cQ];simp[setObj,Sem.run,qh]
theorem Rg.IK (hx:ev L x=some (.pointer (some ⟨b,0,none⟩))) (hb:w.heap[b]? =some (.mapIter (some mb) clock sn clock)) (hm:M b) (h:eD P kt w mb es clock) (hd:Nat.blt d n=true)
  (k1:∀e w',e∈es→e.born∉sn→w'.heap[b]? =some (.mapIter (some mb) clock (sn.push e.born) clock)→Step M w M w' (fun k=>k=b)→Rg P r n ops rest ((d,.tuple #[.bool true,e.key,e.val])::L) ds w' K)
  (k2:(∀e∈es,e.born∈sn)→Rg P r n ops rest ((d,.tuple #[.bool false])::L) ds w K):
  Rg P r n ops ({dst:=some d,op:= .next x false,type:=ty,pos,after:=af,guard:=none}::rest) L ds w K:=by
 rcases F1 (ty:=ty) h hb hm with⟨h1,h2⟩|⟨e,w',h1,h2,h3,h4,h5⟩
 ·refine .op (fun _ h=>by cases h) rfl rfl hd _ w (fun ρ hρ=>?_) (k2 h1);simp only[execOp,hρ x _ hx];simp[h2]
 ·refine .op (fun _ h=>by cases h) rfl rfl hd _ w' (fun ρ hρ=>?_) (k1 e w' h1 h2 h3 h4);simp only[execOp,hρ x _ hx];simp[h5]
theorem Rg.entry {e:MapEntry} {sn':Array Nat} (hx:ev L x=some (.pointer (some ⟨b,0,none⟩))) (hb:w.heap[b]? =some (.mapIter (some mb) clock (sn'.push e.born) clock)) (h:eD P kt w mb es clock) (he:e∈es) (hd:Nat.blt d n=true)
  (k:Rg P r n ops rest ((d,.tuple #[e.key,e.val])::L) ds w K):
  Rg P r n ops ({dst:=some d,op:= .entry x,type:=ty,pos,after:=af,guard:=none}::rest) L ds w K:=by
 have hf:es.find? (fun x=>x.born==e.born)=some e:=by
  rw[List.find?_eq_some_iff_getElem];obtain⟨i,hi⟩:=bN.1 he;obtain⟨h1,h2⟩:=au.1 hi;refine⟨by simp,i,h1,h2,fun j hj=>?_⟩;have oK:j<es.length:=by omega
  have:=fun q=>h.zn (aL oK) hi q
  simp only[oI,beq_eq_false_iff_ne,ne_eq];intro q;have:=this q;omega
 refine .op (fun _ h=>by cases h) rfl rfl hd _ w (fun ρ hρ=>?_) k;simp only[execOp,hρ x _ hx,Instr.entry,cQ,mD hb,du,cW h.at_];simp[hf,cQ,cW h.at_]
end
end Go.K
namespace Go.K
open Go.Proofs
set_option maxRecDepth 10000
theorem filter_lt {α:Type} {p q:α→Bool} {a:α}:∀{l:List α},(∀x∈l,q x=true→p x=true)→a∈l→p a=true→q a=false→(l.filter q).length<(l.filter p).length
 |[],_,ha,_,_=>by cases ha
 |x::l,h,ha,hp,hq=>by
  have hle:(l.filter q).length≤(l.filter p).length:=by
   rw[←List.countP_eq_length_filter,←List.countP_eq_length_filter];exact List.countP_mono_left fun y hy=>h y (cq _ hy)
  rcases dm.1 ha with rfl|ha
  ·rw[iZ hp,nM (by simp[hq])];simp;omega
  ·have:=filter_lt (fun y hy=>h y (cq _ hy)) ha hp hq;by_cases hx:q x=true
   ·rw[iZ hx,iZ (h x (bY ..) hx)];simp;omega
   ·rw[nM hx];by_cases Tk:p x=true
    ·rw[iZ Tk];simp;omega
    ·rw[nM Tk];omega
theorem eD.Mp {P:Program} {kt:TypeId} {w:World} {b clock:Nat} {es:List MapEntry} (h:eD P kt w b es clock) {x y:MapEntry} (hx:x∈es) (hy:y∈es) (hk:x.key=y.key):x=y:=by
 obtain⟨i,hi⟩:=bN.1 hx;obtain⟨j,hj⟩:=bN.1 hy;rcases iy i j with fZ|rfl|fZ
 ·exact absurd hk (fy h.keys hi hj fZ)
 ·exact bQ (hi.symm.trans hj)
 ·exact absurd hk.symm (fy h.keys hj hi fZ)
theorem eD.IL {P:Program} {kt:TypeId} {w:World} {b clock:Nat} {es:List MapEntry} (h:eD P kt w b es clock) {x y:MapEntry} (hx:x∈es) (hy:y∈es) (hk:x.born=y.born):x=y:=by
 obtain⟨i,hi⟩:=bN.1 hx;obtain⟨j,hj⟩:=bN.1 hy;rcases iy i j with fZ|rfl|fZ
 ·exact absurd hk (fy h.born hi hj fZ)
 ·exact bQ (hi.symm.trans hj)
 ·exact absurd hk.symm (fy h.born hj hi fZ)
def Bf (w:World) (k:Nat):Prop:=∃m s sn c,w.heap[k]? =some (.mapIter m s sn c)
def Cx (es:List MapEntry):Prop:=∀e∈es,∃t:Fd,e.key=kv t∧t.1.length≤140737488355328∧t.2.length≤140737488355328
theorem Bg {yl bs mb clock:Nat} {es:List MapEntry} {J:List Fd→World→Prop} (w0:World) (hk:Cx es) (V4:∀ts w w' N,J ts w→Step allM w allM w' N→(∀k,k<w.heap.size→N k→w0.heap.size≤k∧Bf w k)→J ts w') (Tl:∀ts w,J ts w→w.heap[bs]? =some (.cells #[.map (some mb)] 227 (0,0))∧eD Tryz.prog 47 w mb es clock) (hy:∀ts w (t:Fd),J ts w→(∃e∈es,e.key=kv t)→t∉ts→ts.length<es.length→rj Tryz.prog yl [kv t].toArray w (fun r w'=>r= .bool true∧J (ts++[t]) w'∧∃N,Step allM w allM w' N∧∀k,N k→¬Bf w k)) (h0:J [] w0):
  Spec Tryz.prog 197 #[.func (.yield yl) #[] #[],.pointer (some ⟨bs,0,none⟩)] w0 (fun v w=>∃ts,J ts w∧ts.Nodup∧∀t,t∈ts↔∃e∈es,e.key=kv t):=by
 obtain⟨gb,hW⟩:=Tl _ _ h0;have hJ:=h0;clear h0;refine aW (args:=[_,_]) (fn:=Tryz.f197) Tryz.func197 rfl (n:=14) Tryz.ntmps197 ?_;have S:Step allM w0 allM w0 allM:=(an _ _).ca (fun _ h=>h.elim) (fun _ _=>trivial);refine aj (ah (aE j6 rfl rfl rfl (by assumption) rfl ?_));refine Rg.rangeMap allM j6 rfl rfl hW (fun bi w1 qh yf gi s1=>?_);replace s1:=s1.all;have:=ak gb;replace gb:=s1.aG gb;replace hJ:=V4 _ _ _ _ hJ s1 (fun _ _ h=>h.elim);have:=S.size;replace S:=S.ax s1;refine ad (bj ?_);refine dI (σ:=List Fd×Array Nat) (fun s=>[(0,.func (.yield yl) #[] #[]),(1,.pointer (some ⟨bs,0,none⟩)),(5,.pointer (some ⟨bi,0,none⟩))]) (fun s w=>J s.1 w∧Step allM w0 allM w allM∧w.heap[bi]? =some (.mapIter (some mb) clock s.2 clock)∧s.1.Nodup∧(∀e∈es,e.born∈s.2↔∃t∈s.1,e.key=kv t)∧(∀t∈s.1,∃e∈es,e.key=kv t)) (fun s=>(es.filter fun e=>decide (e.born∉s.2)).length) ([],#[]) (.cons rfl (.cons rfl (.cons rfl .nil))) ?_ ?_
 ·exact⟨hJ,S,gi,List.nodup_nil,fun e _=>by simp,fun t h=>by cases h⟩
 ·rintro⟨ts,sn⟩ w ⟨hJ,S,gi,mS,Tn,lD⟩;dsimp only at hJ gi mS Tn lD ⊢;obtain⟨gb,hW⟩:=Tl _ _ hJ;refine aj (ah ?_);refine Rg.IK (M:=allM) rfl gi trivial hW rfl (fun Ms Dq pK Kf jH n4=>?_) (fun V5=>?_)
  ·have gi0:=gi;replace gb:=n4.bE gb (fun hk=>by have hk:_=_:=hk;omega);replace hJ:=V4 _ _ _ _ hJ n4 (fun k hk h=>by have h:k=bi:=h;subst h;exact⟨qh,_,_,_,_,gi0⟩);have:=S.size;replace S:=S.trans n4 (fun k hk h=>by have h:_=_:=h;subst h;first|(exfalso;omega)|(show _≤_;omega)|exact .inl rfl|exact .inr rfl|exact .inr (.inl rfl)|exact .inr (.inr rfl)|exact rfl);have gi_:=jH;clear gi;have gi:=gi_;clear gi_;refine bO rfl rfl rfl (ad (aj (lO rfl (aU (bj (aj (ah (Rg.entry rfl gi (Tl _ _ hJ).2 pK rfl ?_))))))));obtain⟨t,IM,To,Ix⟩:=hk _ pK;have K4:t∉ts:=fun h=>Kf ((Tn _ pK).2 ⟨t,h,IM⟩)
   have dy:ts.length<es.length:=by
    have h1:((t::ts).map kv).Nodup:=dp.2 ((sm.2 ⟨K4,mS⟩).imp fun h e=>h (qJ e))
    have h2:=h1.length_le_of_subset (l₂:=es.map (·.key)) (fun x hx=>by
     obtain⟨u,hu,rfl⟩:=cE.1 hx;rcases dm.1 hu with rfl|hu
     ·rw[←IM];exact fm pK
     ·obtain⟨e,he,h⟩:=lD u hu;rw[←h];exact fm he)
    simp at h2;omega
   rw[IM];refine bO rfl rfl rfl ?_;refine oH (A:=RT.fd) (M:=aA) rq rfl rfl rfl rfl rfl (xG To Ix) (aq _ _) (Lt.none _) (fun u2 w2 qt s2 z2=>?_);replace s2:=s2.all;have:=ak gb;replace gb:=s2.aG gb;have:=ak gi;replace gi:=s2.aG gi;replace hJ:=V4 _ _ _ _ hJ s2 (fun _ _ h=>h.elim);have:=S.size;replace S:=S.ax s2
   skip
   refine ad (aj (ah (ae rfl rfl ?_)));refine cw (M:=aA) (A:=RT.fd) cb rfl rq (by decide) rfl rfl rfl qt (aq _ _) (fun v3 uU=>?_);obtain rfl:=k7 uU;refine Rg.yield (vs:=[kv t]) rfl rfl rfl (hy _ _ t hJ ⟨_,pK,IM⟩ K4 dy) (fun r3 w3 hc=>?_);obtain⟨rfl,HM,N3,s3,hN3⟩:=hc;clear jH;replace gi:=s3.bE gi (fun h=>hN3 _ h ⟨_,_,_,_,gi⟩);replace hJ:=HM;clear HM;obtain⟨gb,-⟩:=Tl _ _ hJ;replace S:=S.trans s3 (fun _ _ _=>trivial);refine Rg.not rfl rfl (bp (v':= .bool false) rfl (ad (gL rfl (aU ?_))));refine⟨rfl,(ts++[t],sn.push Ms.born),(.cons rfl (.cons rfl (.cons rfl .nil))),?_,?_⟩
   ·have qn:∀e∈es,e.born=Ms.born↔e.key=kv t:=fun e he=>by
     constructor
     ·intro h;rw[eD.IL hW he pK h,IM]
     ·intro h;rw[eD.Mp hW he pK (h.trans IM.symm)]
    refine⟨hJ,S,gi,List.nodup_append.2 ⟨mS,by simp,fun a ha b hb h=>by simp at hb;subst hb;subst h;exact K4 ha⟩,fun e he=>?_,fun u hu=>?_⟩
    ·rw[Array.mem_push,Tn e he,qn e he];constructor
     ·rintro(⟨u,h1,h2⟩|h)
      ·exact⟨u,kY _ h1,h2⟩
      ·exact⟨t,by simp,h⟩
     ·rintro⟨u,h1,h2⟩;rcases cZ.1 h1 with h1|h1
      ·exact .inl ⟨u,h1,h2⟩
      ·simp at h1;subst h1;exact .inr h2
    ·rcases cZ.1 hu with hu|hu
     ·exact lD u hu
     ·simp at hu;subst hu;exact⟨_,pK,IM⟩
   ·exact filter_lt (a:=Ms) (fun e _ h=>by simp only[decide_eq_true_eq,Array.mem_push,not_or]at h ⊢;exact h.1) pK (by simpa using Kf) (by simp)
  ·refine bO rfl rfl rfl (ad (aj (gL rfl (cM ?_))))
   first|refine fK.nil ?_|simp+decide only[so,kZ,if_true,if_false]|skip
   exact gZ rfl ⟨ts,hJ,mS,fun t=>⟨lD t,fun⟨e,he,IM⟩=>by obtain⟨t',h1,h2⟩:=(Tn e he).1 (V5 e he);rw[←qJ (h2.symm.trans IM)];exact h1⟩⟩
end Go.K
namespace Go.K
open Go.Proofs
set_option maxRecDepth 10000
theorem ey.any {α:Type} {A:RT α} (hA:∀M w M' w' x vs,A.R M w x vs→A.R M' w' x vs) {M M':az} {w w':World}:∀{xs:List α} {C:List Value},ey A M w xs C→ey A M' w' xs C
 |[],_,h=>h
 |x::xs,C,h=>by
  obtain⟨vs,r,h1,h2,h3⟩:=h;exact⟨vs,r,h1,hA _ _ _ _ _ _ h2,ey.any hA h3⟩
theorem xI (M:az) (w:World) (M':az) (w':World) (x:Fd) (vs:List Value) (h:RT.fd.R M w x vs):RT.fd.R M' w' x vs:=h
theorem Own.Cy {α:Type} {A:RT α} (hA:∀M w M' w' x vs,A.R M w x vs→A.R M' w' x vs) {e:TypeId} {M N:az} {w w':World} {base:Nat} {v:Value} {xs:List α} (h:Own A e M w base v xs) (s:Step allM w allM w' N) (hn:∀b,v.ownBlock=some b→¬N b):Own A e (nY v) w' base v xs:=by
 obtain⟨⟨C,h1,h2⟩,_⟩:=h;refine⟨⟨C,⟨h1.1,?_⟩,ey.any hA h2⟩,fun _ h=>h⟩;rcases h1.2 with h3|⟨g,cap,cur,h3,h4,h5,h6,h7,h8⟩
 ·exact .inl h3
 ·exact .inr ⟨g,cap,cur,h3,h4,by rw[s.same g (ak h5) (hn g (by rw[h3];rfl))];exact h5,h6,h7,h8⟩
theorem Own.isCells {α:Type} {A:RT α} {e:TypeId} {M:az} {w:World} {base b:Nat} {v:Value} {xs:List α} (h:Own A e M w base v xs) (hb:v.ownBlock=some b):∃cs,w.heap[b]? =some (.cells cs e (0,0)):=by
 obtain⟨⟨C,h1,_⟩,_⟩:=h;rcases h1.2 with h3|⟨g,cap,cur,h3,h4,h5,_⟩
 ·rw[h3.1]at hb;cases hb
 ·rw[h3]at hb;cases hb;exact⟨_,h5⟩
structure Aq (w0:World) (bt D:Nat) (st:Loop) (v:Value) (ts:List Fd) (w:World):Prop where
 S:Step allM w0 allM w aA
 c:w.heap[bt]? =some (.cells #[v] 98 (0,0))
 o:Own RT.fd 47 (nY v) w w0.heap.size v ts
 d:w.heap[D]? =some (.deferred (some []))
 r:w.heap[D+1]? =some (.loop st)
 hb:w0.heap.size≤bt
 hD:w0.heap.size≤D
theorem Aq.step {w0 w w':World} {bt D:Nat} {st:Loop} {v:Value} {ts:List Fd} {N:az} (h:Aq w0 bt D st v ts w) (s:Step allM w allM w' N) (hN:∀k,k<w.heap.size→N k→w0.heap.size≤k∧Bf w k):Aq w0 bt D st v ts w':=by
 have no:∀{k o},w.heap[k]? =some o→(∀m s sn c,o≠ .mapIter m s sn c)→¬N k:=fun hk ho hn=>by
  obtain⟨_,m,s,sn,c,h'⟩:=hN _ (ak hk) hn;rw[hk]at h';exact ho m s sn c (bQ h')
 refine⟨h.S.trans s (fun k hk hn=>?_),s.bE h.c (no h.c (by intros;simp)),h.o.Cy xI s (fun b hb=>?_),s.bE h.d (no h.d (by intros;simp)),s.bE h.r (no h.r (by intros;simp)),h.hb,h.hD⟩
 ·have:=(hN k (jz hk h.S.size) hn).1;omega
 ·obtain⟨cs,hc⟩:=h.o.isCells hb;exact no hc (by intros;simp)
theorem Aq.mN {w0 w:World} {bt D:Nat} {st st':Loop} {v:Value} {ts:List Fd} (h:Aq w0 bt D st v ts w):Aq w0 bt D st' v ts (w.putObj (D+1) (.loop st')):=by
 have s:Step allM w allM (w.putObj (D+1) (.loop st')) (fun k=>k=D+1):=dK trivial;have hD:=h.hD;refine⟨h.S.trans s (fun k hk hn=>by have hn:k=D+1:=hn;omega),s.bE h.c (fun hn=>by have hn:bt=D+1:=hn;have h1:=h.c;rw[hn,h.r]at h1;cases h1),h.o.Cy xI s (fun b hb hn=>?_),s.bE h.d (fun hn=>by have hn:D=D+1:=hn;omega),by have:=ak h.r;simp[World.putObj,cJ,this],h.hb,h.hD⟩;have hn:b=D+1:=hn;obtain⟨cs,hc⟩:=h.o.isCells hb;rw[hn,h.r]at hc;cases hc
theorem zt {bs mb clock:Nat} {es:List MapEntry} (w0:World) (hk:Cx es) (Tp:es.length≤100000000) (F2:w0.heap[bs]? =some (.cells #[.map (some mb)] 227 (0,0))) (hW:eD Tryz.prog 47 w0 mb es clock):
  Spec Tryz.prog 233 #[.slice none 0 0,.func (.func 197) #[] [.pointer (some ⟨bs,0,none⟩)].toArray] w0 (fun v w=>∃ts:List Fd,ts.Nodup∧(∀t,t∈ts↔∃e∈es,e.key=kv t)∧Own RT.fd 47 (nY v) w w0.heap.size v ts∧Step allM w0 allM w aA):=by
 refine nc (args:=[_,_]) (fn:=Tryz.f233) Tryz.func233 rfl (n:=13) Tryz.ntmps233 (aj (ah ?_));refine mH allM rfl rfl (fun bt w1 qh adz gt s1=>?_);change w1.heap[bt]? =some (.cells #[.slice none 0 0] 98 (0,0))at gt;replace s1:=s1.all;refine ai rfl rfl (ad (aj (aj (ah (ae rfl rfl (ad (bj ?_)))))));refine T.range (gf:=197) (lb:=[.pointer (some ⟨bs,0,none⟩)].toArray) rfl UJ (fun rec na=>?_);obtain⟨D,hD⟩:∃D,D=w1.heap.size:=⟨_,rfl⟩;have sA:Step allM w1 allM ((w1.alloc (.deferred (some []))).alloc (.loop (rec .ready none))) aA:=(cU _ _ _).ax (cU _ _ _)
 have h0:Aq w0 bt D (rec .ready none) (.slice none 0 0) [] ((w1.alloc (.deferred (some []))).alloc (.loop (rec .ready none))):=by
  refine⟨s1.ax sA,sA.aG gt,eo _ _ _ _ _,?_,?_,qh,by rw[hD];exact s1.size⟩
  ·rw[hD];exact(cU allM (w1.alloc _) _).aG (cu w1 _)
  ·rw[hD];have:=cu (w1.alloc (.deferred (some []))) (.loop (rec .ready none));rwa [World.size_alloc]at this
 rw[←hD]at na ⊢;have hz:=h0.S.size;refine Spec.mono (Bg (J:=fun ts w=>∃v,Aq w0 bt D (rec .ready none) v ts w) _ hk (fun ts w w' N ⟨v,h⟩ s hN=>⟨v,h.step s (fun k hk hn=>⟨eO hz (hN k hk hn).1,(hN k hk hn).2⟩)⟩) (fun ts w ⟨v,h⟩=>⟨h.S.aG F2,hW.bg h.S⟩) (fun ts wr t hJ lD K4 dy=>?_) ⟨_,h0⟩) (fun _ w3 h3=>?_)
 ·obtain⟨v,h⟩:=hJ;obtain⟨e,he,V6⟩:=lD;obtain⟨t',V7,To,Ix⟩:=hk e he;obtain rfl:=qJ (V6.symm.trans V7);have hzr:=ak h.r;refine lx (ps:=[7]) (vs:=[kv t]) na h.r rfl (by decide) (ah ?_);refine oH (A:=RT.fd) (M:=fun k=>k=D+1) rq rfl rfl rfl rfl rfl (xG To Ix) (aq _ _) (fun k hk=>by have hk:k=D+1:=hk;omega) (fun u2 w2 qt s2 z2=>?_);replace s2:=s2.all
  skip
  refine ad ?_;refine⟨rfl,s2.aG h.r,?_⟩;have h4:=(h.step s2 (fun _ _ h=>h.elim)).mN (st':=rec .busy none);have V8:Step (fun k=>k=D+1) w2 (fun k=>k=D+1) (w2.putObj (D+1) (.loop (rec .busy none))) (fun k=>k=D+1):=dK rfl;have s3:=V8.all;have AA:=qt.le (by decide) V8.le;clear V8;generalize w2.putObj (D+1) _=w4 at h4 s3 AA ⊢;refine bj (ah (aE fF rfl rfl rfl h4.c rfl ?_));refine cw (M:=fun k=>k=D+1) (A:=RT.fd) cb rfl rq (by decide) rfl rfl rfl AA (aq _ _) (fun v3 uU=>?_);obtain rfl:=k7 uU;refine eW (A:=RT.fd) (hn:=by decide) (M:=nY v) fF rq (by decide) rfl rfl (fun b hb=>(h4.o.base b hb).2) (xG To Ix) (.inl rfl) (fun u5 w5 AY s5=>?_);refine dh (M:=nY v) (base:=w0.heap.size) fF rq rfl rfl rfl rfl (h4.o.bg s5) AY (aq _ _) (by simp;omega) (by simp;omega) (eO h4.S.size s5.size) (fun v6 M6 w6 ry s6=>?_);have gc:=s6.all.bE (s5.all.aG h4.c) (fun hn=>h4.o.eL h4.c (by decide) hn);refine bP (M:=allM) I98 rfl rfl gc rfl (by obtain⟨_,_,he,_⟩:=ry.isSlice;rw[he];rfl) trivial (fun w7 gc7 s7=>?_);refine ad ?_
  have V9:∀k,nY v k→¬Bf wr k:=fun k hk ⟨_,_,_,_,h9⟩=>by
   obtain⟨cs,hc⟩:=h.o.isCells hk;rw[hc]at h9;cases h9
  have pr:∀k,k<wr.heap.size→k=D+1→¬Bf wr k:=fun k _ hk ⟨_,_,_,_,h9⟩=>by subst hk;rw[h.r]at h9;cases h9
  have pc:∀k,k<wr.heap.size→k=bt→¬Bf wr k:=fun k _ hk ⟨_,_,_,_,h9⟩=>by subst hk;rw[h.c]at h9;cases h9
  have h7:Aq w0 bt D (rec .busy none) v6 (ts++[t]) w7:=by
   have nb:∀b,v6.ownBlock=some b→b≠bt:=fun b hb hn=>by subst hn;exact ry.eL gc (by decide) hb
   refine⟨?_,gc7,ry.Cy xI s7 nb,?_,?_,h.hb,h.hD⟩
   ·refine((h4.S.ax s5.all).trans s6.all (fun k hk hn=>?_)).trans s7 (fun k hk hn=>?_)
    ·have:=(h4.o.base k hn).1;omega
    ·have hn:k=bt:=hn;have:=h.hb;omega
   ·exact s7.bE (s6.all.bE (s5.all.aG h4.d) (fun hn=>by obtain⟨cs,hc⟩:=h4.o.isCells hn;rw[h4.d]at hc;cases hc)) (fun hn=>by have hn:D=bt:=hn;have h1:=h.c;rw[←hn,h.d]at h1;cases h1)
   ·exact s7.bE (s6.all.bE (s5.all.aG h4.r) (fun hn=>by obtain⟨cs,hc⟩:=h4.o.isCells hn;rw[h4.r]at hc;cases hc)) (fun hn=>by have hn:D+1=bt:=hn;have h1:=h.c;rw[←hn,h.r]at h1;cases h1)
  have s8:Step allM w7 allM (w7.putObj (D+1) (.loop (rec .ready none))) (fun k=>k=D+1):=dK trivial;exact⟨h7.r,rfl,⟨v6,h7.mN⟩,fun k=>¬Bf wr k,(((((s2.ca (fun _ h=>h.elim) (fun _ _=>trivial)).trans s3 pr).ax s5.all).trans s6.all (fun k _ hn=>V9 k hn)).trans s7 pc).trans s8 pr,fun _ h=>h⟩
 ·obtain⟨ts,⟨v,h⟩,mS,lD⟩:=h3;left;refine⟨h.r,?_⟩;have h5:=h.mN (st':=rec .exhausted none);generalize w3.putObj (D+1) _=wE at h5 ⊢;refine aj (ah (aE fF rfl rfl rfl h5.c rfl (ai rfl rfl (ad (aH ?_)))));have sE:Step allM wE allM (wE.putObj D (.deferred none)) (fun k=>k=D):=dK trivial;have hDD:=h.hD;exact AL rfl rfl h5.d ⟨ts,mS,lD,h5.o.Cy xI sE (fun b hb hn=>by have hn:b=D:=hn;obtain⟨cs,hc⟩:=h5.o.isCells hb;rw[hn,h5.d]at hc;cases hc),h5.S.trans sE (fun k hk hn=>by have hn:k=D:=hn;omega)⟩
end Go.K
namespace Go.K
open Go.Proofs
set_option maxRecDepth 10000
theorem xJ {bs mb clock:Nat} {es:List MapEntry} (w0:World) (hk:Cx es) (Tp:es.length≤100000000) (F2:w0.heap[bs]? =some (.cells #[.map (some mb)] 227 (0,0))) (hW:eD Tryz.prog 47 w0 mb es clock):
  Spec Tryz.prog 195 #[.func (.func 197) #[] [.pointer (some ⟨bs,0,none⟩)].toArray] w0 (fun v w=>∃ts:List Fd,ts.Nodup∧(∀t,t∈ts↔∃e∈es,e.key=kv t)∧Own RT.fd 47 (nY v) w w0.heap.size v ts∧Step allM w0 allM w aA):=by
 refine aW (args:=[_]) (fn:=Tryz.f195) Tryz.func195 rfl (n:=5) Tryz.ntmps195 (aj (ah (ai rfl rfl (ad (aj (ah (ae rfl rfl ?_)))))));refine aM rfl rfl UU (zt _ hk Tp F2 hW) (fun r w1 hc=>?_);refine ai rfl rfl (ad (aH ?_));exact aP rfl rfl hc
def dd (t:Fd):List UInt8:=t.1++[0]++t.2
theorem F3 {M:az} {t:Fd} (w0:World) (hM:Lt M w0) (h1:t.1.length≤1000000) (h2:t.2.length≤1000000):
  Spec Tryz.prog 74 #[kv t] w0 (fun v w=>v= .string ⟨(dd t).toArray⟩∧Step M w0 M w aA):=by
 refine aW (args:=[_]) (fn:=Tryz.f74) Tryz.func74 rfl (n:=9) Tryz.ntmps74 ?_;have S:Step M w0 M w0 aA:=(an _ _).ca (fun _ h=>h.elim) (fun _ h=>h.elim);refine aj (ah ?_);refine jB (A:=RT.fd) rfl rfl hM (xG (by omega) (by omega)) rfl (fun u0 w1 cA s0 _=>?_);replace hM:=s0.lt hM;have:=S.size;replace S:=S.ax s0;refine ai rfl rfl (ad (aj (ah ?_)));refine aJ (M:=M) (A:=RT.fd) (B:=RT.str) cb rfl rfl I9 (by decide) (LV) rfl rfl (by decide) (by assumption) (by repeat (first|exact aq _ _|refine aT (a7 (by assumption)) ?_)) (fun uQ jN=>?_);refine cg (M:=M) aD rfl rfl rfl rfl rfl jN (aq _ _) (fun v1 gF=>?_);obtain rfl:=fD gF;refine Rg.cat (p:=t.1) (q:=[0]) rfl rfl rfl (by simp;omega) ?_;refine aJ (M:=M) (A:=RT.fd) (B:=RT.str) cb rfl rfl I9 (by decide) (Te) rfl rfl (by decide) (by assumption) (by repeat (first|exact aq _ _|refine aT (a7 (by assumption)) ?_)) (fun Fh fH=>?_);refine cg (M:=M) aD rfl rfl rfl rfl rfl fH (aq _ _) (fun v4 qH=>?_);obtain rfl:=fD qH;refine Rg.cat (p:=t.1++[0]) (q:=t.2) rfl rfl rfl (by simp;omega) (ai rfl rfl (ad (aH ?_)));exact aP rfl rfl ⟨rfl,S⟩
end Go.K
namespace Go.K
open Go.Proofs
set_option maxRecDepth 10000
theorem xK (a b:List UInt8) (w:World):Spec Tryz.prog 159 #[.string ⟨a.toArray⟩,.string ⟨b.toArray⟩] w (fun v w'=>v= .int .i64 (Lib.compareBytes a b)∧w'=w):=(Any.strings_Compare Tryz.Ip ⟨a.toArray⟩ ⟨b.toArray⟩ w).mono fun e w' ⟨h1,h2⟩=>⟨_,h1,rfl,h2⟩
end Go.K
namespace Go.K
section
variable {P:Program} {r:Option Nat} {n:Nat} {L:Sl} {ds:List Deferred} {w:World} {K:Kt} {ops:Array Oper} {rest:List Oper} {d:Nat} {x:Operand} {ty:TypeId} {pos:String} {af:Array Edge}
theorem fX.tE {id:Nat} {l:List Oper} (hm:P.follows .mixedOrders=true) (ck:dL l 0=true) (h:fX P r n l L ds (w.drewN 1) K):T P r n (.region id l.toArray true) L ds w K:=by
 refine⟨fun a ha=>wpIn_region_draw fun t=>?_⟩;simp only[Region.schedule,hm,Bool.true_or,if_true,Region.linearise];obtain⟨J,h1,h2,h3,h4⟩:=h a ha;refine lT (J:=J) ck (fun {D D' a w} hi hD=>h1 D D' a w hi hD) (fun {D a' w' j o rest} hj ho kQ hp jM hi hk=>h2 _ _ _ _ _ _ _ hj ho kQ hp jM hi hk) h3 _ t _ a _ (by simp) (by simp[List.countP_replicate]) (fun i o h1 h2=>?_) (h1 _ _ _ _ h4 fun i _=>?_)
 ·simp[Array.getElem?_replicate]at h2
 ·simp[Array.getElem?_replicate]
theorem T.Mt {id:Nat} {l l':List Oper} (π:List Nat) (m:Nat) (fl:List Nat) (c:Nat) (N:az) (hm:P.follows .mixedOrders=true) (AK:uL π l=l') (mZ:dL l 0=true) (hπ:jD π l.length=true) (o4:Nat.blt m l'.length=true) (ck:dL l' 0=true) (mX:gU l' m=true) (yj:gQ l' m fl c=true)
  (h:kR P r n l'.toArray (l'.take m) L ds (w.drewN 1) (fun L'=>(∀j o,j∈fl→l'[j]? =some o→bJ P N (w.drewN 1) L' o)∧rQ P r n l'.toArray N (w.drewN 1) K c (l'.drop m) L' ds (w.drewN 1))):T P r n (.region id l.toArray true) L ds w K:=by
 subst AK;exact fX.tE hm mZ (.perm π hπ mZ (yD m fl c N o4 ck mX yj h))
theorem Rg.Mu {e:TypeId} {v:Value} (hx:ev L x=some v) (hd:Nat.blt d n=true) (k:Rg P r n ops rest ((d,.pointer (some ⟨w.heap.size,0,none⟩))::L) ds (w.alloc (.cells v.cells e (0,0))) K):
  Rg P r n ops ({dst:=some d,op:= .box e x,type:=ty,pos,after:=af,guard:=none}::rest) L ds w K:=by
 refine .op (fun _ h=>by cases h) rfl rfl hd _ (w.alloc (.cells v.cells e (0,0))) (fun ρ hρ=>?_) k;simp only[execOp,hρ x _ hx];simp[Instr.box,newVar,newRow,newObj,Sem.run]
theorem Bh (w:World) (o:Obj):w.alloc o=Go.Sort.grow w #[o]:=by
 unfold World.alloc Go.Sort.grow;congr 1
theorem Bi (w:World) (os:Array Obj) (q:Nat):(Go.Sort.grow w os).drewN q=Go.Sort.grow (w.drewN q) os:=rfl
end
end Go.K
namespace Go.K
open Go.Proofs
set_option maxRecDepth 10000
abbrev eV (t:Fd):Obj:= .cells #[.string ⟨t.1.toArray⟩,.string ⟨t.2.toArray⟩] 47 (0,0)
theorem F4 {t:Fd} (w0:World) (h1:t.1.length≤1000000) (h2:t.2.length≤1000000):
  Spec Tryz.prog 74 #[kv t] w0 (fun v w=>v= .string ⟨(dd t).toArray⟩∧w=w0.alloc (eV t)):=by
 refine aW (args:=[_]) (fn:=Tryz.f74) Tryz.func74 rfl (n:=9) Tryz.ntmps74 (aj (ah (Rg.Mu rfl rfl ?_)));have gb:=cu w0 (eV t);change Rg _ _ _ _ _ _ _ (w0.alloc (eV t)) _;generalize hw:w0.alloc (eV t)=w1 at gb ⊢;refine ai rfl rfl (ad (aj (ah (aS (o':=0) cb rfl rfl I9 (by decide) rfl rfl (aE aD rfl rfl rfl gb rfl (Rg.cat (p:=t.1) (q:=[0]) rfl rfl rfl (by simp;omega) (aS (o':=1) cb rfl rfl I9 (by decide) rfl rfl (aE aD rfl rfl rfl gb rfl (Rg.cat (p:=t.1++[0]) (q:=t.2) rfl rfl rfl (by simp;omega) (ai rfl rfl (ad ?_)))))))))));refine aH ?_;exact aP rfl rfl ⟨rfl,rfl⟩
theorem IN {s t:Fd} (w0:World) (h1:s.1.length≤1000000) (h2:s.2.length≤1000000) (h3:t.1.length≤1000000) (h4:t.2.length≤1000000):
  Spec Tryz.prog 158 #[kv s,kv t] w0 (fun v w=>v= .int .i64 (Lib.compareBytes (dd s) (dd t))∧w=((((w0.alloc (eV s)).alloc (eV t)).drewN 1).alloc (eV s)).alloc (eV t)):=by
 refine aW (args:=[_,_]) (fn:=Tryz.f158) Tryz.func158 rfl (n:=10) Tryz.ntmps158 (aj (ah (Rg.Mu rfl rfl ?_)));change Rg _ _ _ _ _ _ _ (w0.alloc (eV s)) _;refine Rg.Mu rfl rfl ?_;change Rg _ _ _ _ _ _ _ ((w0.alloc (eV s)).alloc (eV t)) _;have g1:((w0.alloc (eV s)).alloc (eV t)).heap[w0.heap.size]? =some (eV s):=(cU aA _ _).aG (cu w0 _);have g2:=cu (w0.alloc (eV s)) (eV t);have kp:=jw aA (((w0.alloc (eV s)).alloc (eV t)).drewN 1);refine ai rfl rfl (ad (aj ?_));apply T.Mt [0,2,1,3,4,5] 2 [1] 1 aA mixed
 ·simp+decide only[uL,qw,iE,List.map_nil,uv,uw,List.map_toArray,fB,mR,List.idxOf_cons,cond_true,cond_false,Nat.reduceBEq,Nat.reduceAdd,beq_self_eq_true];rfl
 ·rfl
 ·rfl
 ·rfl
 ·rfl
 ·rfl
 ·rfl
 have g1':(((w0.alloc (eV s)).alloc (eV t)).drewN 1).heap[w0.heap.size]? =some (eV s):=g1;have g2':(((w0.alloc (eV s)).alloc (eV t)).drewN 1).heap[(w0.alloc (eV s)).heap.size]? =some (eV t):=g2;refine gG (vs:=[.string ⟨s.1.toArray⟩,.string ⟨s.2.toArray⟩]) cb rfl rq rfl rfl rfl g1' ?_;refine ad ⟨rfl,rfl,rfl,?_⟩;refine gG (vs:=[.string ⟨t.1.toArray⟩,.string ⟨t.2.toArray⟩]) cb rfl rq rfl rfl rfl g2' ?_;refine ad ⟨rfl,rfl,rfl,?_⟩;refine fE ?_;refine⟨jP ⟨ep rfl (by assumption) (by first|assumption|exact fun h=>h|(intro h;have h:_=_:=h;omega)),trivial⟩,?_⟩;replace kp:=kp.qu (cU aA (((w0.alloc (eV s)).alloc (eV t)).drewN 1) (eV s));refine aM rfl rfl Ta (F4 (t:=s) _ h1 h2) (fun r5 w5 hc=>?_);obtain⟨rfl,rfl⟩:=hc;refine(fun(kp:dR _ _ _)=>ad ⟨rfl,rfl,fun _=>kp,?_⟩) (by first|exact kp|exact kp.qu (by assumption)|exact kp.goN (by assumption)|exact kp.go (by assumption) (fun _ _ h=>by first|exact h|exact h.elim));refine aM rfl rfl Ta (F4 (t:=t) _ h3 h4) (fun r6 w6 hc=>?_);obtain⟨rfl,rfl⟩:=hc;refine ad ⟨rfl,rfl,fun h=>absurd rfl h,?_⟩;refine aM rfl rfl Ux (xK _ _ _) (fun r7 w7 hc=>?_);obtain⟨rfl,rfl⟩:=hc;refine ad ⟨rfl,rfl,fun h=>absurd rfl h,?_⟩;refine ai rfl rfl ?_;refine ad ⟨rfl,rfl,fun h=>absurd rfl h,?_⟩;refine uE (aH ?_);exact aP rfl rfl ⟨rfl,rfl⟩
end Go.K
namespace Go.K
open Go.Lib (compareBytes)
theorem lI (a b:UInt8) (x y:List UInt8):compareBytes (a::x) (b::y)=if a.toNat<b.toNat then-1 else if b.toNat<a.toNat then 1 else compareBytes x y:=by
 rw[compareBytes];simp only[UInt8.lt_iff_toNat_lt]
theorem tK:∀a,compareBytes a a=0
 |[]=>rfl
 |a::x=>by rw[lI,if_neg (iF _),if_neg (iF _)];exact tK x
theorem nB:∀{a b},compareBytes a b=0→a=b
 |[],[],_=>rfl
 |[],_::_,h=>by simp[compareBytes]at h
 |_::_,[],h=>by simp[compareBytes]at h
 |a::x,b::y,h=>by
  rw[lI]at h
  split at h
  ·omega
  ·split at h
   ·omega
   ·rw[nB h,UInt8.toNat_inj.1 (show a.toNat=b.toNat by omega)]
theorem l9:∀a b,compareBytes a b= -compareBytes b a
 |[],[]=>rfl
 |[],_::_=>rfl
 |_::_,[]=>rfl
 |a::x,b::y=>by
  rw[lI,lI,l9 x y]
  split<;>split<;>first|omega|rfl
theorem nT:∀{a b c},compareBytes a b<0→compareBytes b c<0→compareBytes a c<0
 |[],[],_,h,_=>by simp[compareBytes]at h
 |_::_,[],_,h,_=>by simp[compareBytes]at h
 |_,_::_,[],_,h=>by simp[compareBytes]at h
 |[],_::_,_::_,_,_=>by simp[compareBytes]
 |a::x,b::y,c::z,h1,h2=>by
  rw[lI]at h1 h2 ⊢
  split at h1
  ·split at h2
   ·rw[if_pos (by omega)];omega
   ·split at h2
    ·omega
    ·rw[if_pos (by omega)];omega
  ·split at h1
   ·omega
   ·split at h2
    ·rw[if_pos (by omega)];omega
    ·split at h2
     ·omega
     ·rw[if_neg (by omega),if_neg (by omega)];exact nT h1 h2
theorem Cz {α:Type} (f:α→List UInt8):Go.Sort.SWO (Go.Proofs.ltOf fun x y=>compareBytes (f x) (f y)) where
 irrefl x:=by simp[Go.Proofs.ltOf,tK]
 trans x y z h1 h2:=by
  simp only[Go.Proofs.ltOf,decide_eq_true_eq]at*
  exact nT h1 h2
 ntrans x y z h1 h2:=by
  simp only[Go.Proofs.ltOf,decide_eq_false_iff_not]at*
  intro h3;by_cases e1:compareBytes (f x) (f y)=0
  ·rw[nB e1]at h3;exact h2 h3
  ·by_cases e2:compareBytes (f y) (f z)=0
   ·rw[nB e2]at h1;exact h1 h3
   ·have n1:=l9 (f x) (f y);have n2:=l9 (f y) (f z);have n3:=l9 (f x) (f z);have:compareBytes (f z) (f x)<0:=nT (b:=f y) (by omega) (by omega);omega
end Go.K
namespace Go.Proofs
open Go.Shelf
def Tryz.Bj:Go.Shelf.Ren:=⟨fun|6=>196|15=>166|14=>234|28=>210|29=>211|20=>261|21=>262|22=>263|23=>264|24=>265|25=>266|26=>267|27=>268|46=>281|47=>246|48=>247|49=>282|50=>283|57=>290|n=>n,fun|22=>98|24=>47|25=>235|3=>3|39=>183|0=>0|53=>273|55=>165|4=>4|46=>267|45=>266|50=>121|5=>5|9=>9|66=>295|70=>299|76=>327|77=>305|n=>n,fun|n=>n⟩
theorem Tryz.F5:Go.Proofs.SlLaysF0.n6 Tryz.prog Tryz.Bj:={
 mixed:=by kernel_rfl
 f6:=⟨Tryz.f196.name,by decide,Tryz.func196.trans (congrArg some (by kernel_rfl))⟩
 f14:=⟨Tryz.f234.name,by decide,Tryz.func234.trans (congrArg some (by kernel_rfl))⟩
 f15:=Tryz.func166.trans (congrArg some (by kernel_rfl))
 f20:=⟨Tryz.f261.name,by decide,Tryz.func261.trans (congrArg some (by kernel_rfl))⟩
 f21:=⟨Tryz.f262.name,by decide,Tryz.func262.trans (congrArg some (by kernel_rfl))⟩
 f22:=⟨Tryz.f263.name,by decide,Tryz.func263.trans (congrArg some (by kernel_rfl))⟩
 f23:=⟨Tryz.f264.name,by decide,Tryz.func264.trans (congrArg some (by kernel_rfl))⟩
 f24:=⟨Tryz.f265.name,by decide,Tryz.func265.trans (congrArg some (by kernel_rfl))⟩
 f25:=⟨Tryz.f266.name,by decide,Tryz.func266.trans (congrArg some (by kernel_rfl))⟩
 f26:=⟨Tryz.f267.name,by decide,Tryz.func267.trans (congrArg some (by kernel_rfl))⟩
 f27:=⟨Tryz.f268.name,by decide,Tryz.func268.trans (congrArg some (by kernel_rfl))⟩
 f28:=Tryz.func210.trans (congrArg some (by kernel_rfl))
 f29:=Tryz.func211.trans (congrArg some (by kernel_rfl))
 f46:=⟨Tryz.f281.name,by decide,Tryz.func281.trans (congrArg some (by kernel_rfl))⟩
 f47:=Tryz.func246.trans (congrArg some (by kernel_rfl))
 f48:=Tryz.func247.trans (congrArg some (by kernel_rfl))
 f49:=⟨Tryz.f282.name,by decide,Tryz.func282.trans (congrArg some (by kernel_rfl))⟩
 f50:=⟨Tryz.f283.name,by decide,Tryz.func283.trans (congrArg some (by kernel_rfl))⟩
 f57:=⟨Tryz.f290.name,by decide,Tryz.func290.trans (congrArg some (by kernel_rfl))⟩
 t0:=gX
 a0:=sf
 z0:=oC
 v0:=iW
 t3:=ar
 a3:=sh
 z3:=oD
 v3:=iX
 t4:=jO
 a4:=Tryz.isAgg4
 z4:=Tryz.sizeOf4
 v4:=o8
 t5:=bZ
 a5:=Tryz.isAgg5
 z5:=Tryz.sizeOf5
 v5:=Tryz.zeroValue5
 t9:=aD
 a9:=si
 z9:=oE
 v9:=iY
 t22:=fF
 a22:=Tryz.isAgg98
 z22:=Tryz.sizeOf98
 v22:=Tryz.zeroValue98
 t25:=Tryz.underlying235
 a25:=Tryz.isAgg235
 z25:=Tryz.sizeOf235
 v25:=Tryz.zeroValue235
 t39:=oF
 a39:=Tryz.isAgg183
 z39:=Tryz.sizeOf183
 v39:=Tryz.zeroValue183
 t45:=Tryz.underlying266
 a45:=Tryz.isAgg266
 z45:=Tryz.sizeOf266
 v45:=Tryz.zeroValue266
 t46:=Tryz.underlying267
 a46:=Tryz.isAgg267
 z46:=Tryz.sizeOf267
 v46:=Tryz.zeroValue267
 t50:=Tryz.underlying121
 a50:=Tryz.isAgg121
 z50:=Tryz.sizeOf121
 v50:=Tryz.zeroValue121
 t53:=Tryz.underlying273
 a53:=Tryz.isAgg273
 z53:=Tryz.sizeOf273
 v53:=Tryz.zeroValue273
 t55:=j7
 a55:=Tryz.isAgg165
 z55:=Tryz.sizeOf165
 v55:=Tryz.zeroValue165
 t66:=Tryz.underlying295
 a66:=Tryz.isAgg295
 z66:=Tryz.sizeOf295
 v66:=Tryz.zeroValue295
 t70:=Tryz.underlying299
 a70:=Tryz.isAgg299
 z70:=Tryz.sizeOf299
 v70:=Tryz.zeroValue299
 t76:=Tryz.underlying327
 a76:=Tryz.isAgg327
 z76:=Tryz.sizeOf327
 v76:=Tryz.zeroValue327
 t77:=Tryz.underlying305
 a77:=Tryz.isAgg305
 z77:=Tryz.sizeOf305
 v77:=Tryz.zeroValue305}
end Go.Proofs
namespace Go.K
open Go.Proofs
set_option maxRecDepth 10000
open Go.Proofs Go.Sort
abbrev TK:Type:={t:Fd // (0:UInt8)∉t.1∧t.1.length≤1000000∧t.2.length≤1000000}
instance aam:Inhabited TK:=⟨⟨([],[]),by simp,by simp,by simp⟩⟩
def uW (x:TK):List Value:=[.string ⟨x.1.1.toArray⟩,.string ⟨x.1.2.toArray⟩]
def Ek (x y:TK):Int:=Lib.compareBytes (dd x.1) (dd y.1)
theorem tL:∀{a b x y:List UInt8},(0:UInt8)∉a→(0:UInt8)∉b→a++[0]++x=b++[0]++y→a=b∧x=y
 |[],[],_,_,_,_,h=>⟨rfl,by simpa using h⟩
 |[],c::b,_,_,_,hb,h=>by
  simp at h;exact absurd (by rw[←h.1];exact bY ..) hb
 |c::a,[],_,_,ha,_,h=>by
  simp at h;exact absurd (by rw[h.1];exact bY ..) ha
 |c::a,e::b,x,y,ha,hb,h=>by
  simp only[iV,List.cons.injEq]at h;obtain⟨h1,h2⟩:=tL (fun h=>ha (cq _ h)) (fun h=>hb (cq _ h)) h.2;exact⟨by rw[h.1,h1],h2⟩
theorem Wa (w:World):(isAgg 47).run Tryz.prog w= .ok true w:=by simp[isAgg,cQ,run_underlying cb]
theorem Qw (w:World):(Go.sizeOf 47).run Tryz.prog w= .ok 2 w:=by
 obtain⟨i,h1,_,h2,_⟩:=rq.get;simp[Go.sizeOf,typeInfo,cQ,program,Sem.run,h1,h2]
theorem F6 (jb off size:Nat) (w:World):CmpLays Tryz.prog 158 #[] uW 2 Ek jb off size w:=fun m os dk hs x y=>
 (show Calls Tryz.prog 158 #[kv x.1,kv y.1] (sortWorldK uW 2 w jb off m dk os) (fun e w'=>∃v,e= .returned v∧_∧_)from IN (s:=x.1) (t:=y.1) _ x.2.2.1 x.2.2.2 y.2.2.1 y.2.2.2).mono fun e w' ⟨v,h1,h2,h3⟩=>⟨by rw[h1,h2];rfl,1,#[eV x.1,eV y.1,eV x.1,eV y.1],by rw[h3];simp only[Bh,Bi,Go.Sort.grow_grow];rfl⟩
theorem Qx (jb off cap:Nat) (d:Array TK) (w:World) (hH:HoldsK uW 2 w jb off d) (hblk:jb<w.heap.size) (jx:d.size<4611686018427387904):
  Spec Tryz.prog 196 #[.slice (some ⟨jb,off,none⟩) d.size cap,.func (.func 158) #[] #[]] w (fun v w'=>v= .tuple #[]∧∃n os,w'=sortWorldK uW 2 w jb off n (d.toList.mergeSort fun x y=> !(Go.Proofs.ltOf Ek) y x).toArray os):=by
 exact(Go.Proofs.AnyQ.slices_SortFunc_total Tryz.F5 2 Wa Qw uW (fun _=>rfl) (fun x v hv=>by simp[uW]at hv;rcases hv with rfl|rfl<;>rfl) Ek (Cz _) 158 #[] jb off cap d w Uw (F6 jb off d.size w) hH hblk jx (fun x y h1 h2=>by
  have h0:Ek x y=0:=by
   have:=l9 (dd x.1) (dd y.1);simp only[Go.Proofs.ltOf,decide_eq_false_iff_not]at h1 h2;unfold Ek at h1 h2 ⊢;omega
  have h3:=nB h0;obtain⟨h4,h5⟩:=tL x.2.1 y.2.1 h3;exact Subtype.ext (Prod.ext h4 h5))).mono fun e w' ⟨h1,h2⟩=>⟨_,h1,rfl,h2⟩
end Go.K
namespace Go.K
set_option linter.unusedSectionVars false
open Go.Sort Go.Proofs
section
variable {α:Type} [Inhabited α] {enc:α→List Value} {k:Nat}
theorem rz (hk:∀x,(enc x).length=k) (h0:0<k):∀(l:List α) (t:Nat),(l.flatMap enc)[t]? =(l[t/k]?).bind fun x=>(enc x)[t%k]?
 |[],t=>by simp
 |x::l,t=>by
  rw[List.flatMap_cons];rcases cB t k with h|h
  ·rw[List.getElem?_append_left (by rw[hk];exact h),Nat.div_eq_of_lt h,ll h];rfl
  ·rw[List.getElem?_append_right (by rw[hk];exact h),hk,rz hk h0 l];have e1:t/k=(t-k)/k+1:=by rw[Nat.div_eq t k,if_pos ⟨h0,h⟩]
   have e2:(t-k)%k=t%k:=by rw[Nat.mod_eq t k,if_pos ⟨h0,h⟩]
   rw[e1,e2,List.getElem?_cons_succ]
theorem nC (hk:∀x,(enc x).length=k):∀l:List α,(l.flatMap enc).length=l.length*k
 |[]=>by simp
 |x::l=>by rw[List.flatMap_cons,bM,hk,nC hk l,cv,Nat.add_mul];omega
theorem tM (hk:∀x,(enc x).length=k) (h0:0<k) (d:Array α) {t:Nat} (ht:t<d.size*k):(d.toList.flatMap enc)[t]? =some (flatK enc k d)[t]! :=by
 have h1:t/k<d.size:=Nat.div_lt_of_lt_mul (by rw[Nat.mul_comm];exact ht);have h2:t%k<k:=Nat.mod_lt _ h0;rw[rz hk h0,get_flatK _ _ _ _ ht];have e:d.toList[t/k]? =some d[t/k]! :=by simp[h1]
 rw[e];simp[hk,h2]
theorem Dy {w:World} {g:Nat} {cur:Array Value} {e:TypeId} {d:Array α} (hk:∀x,(enc x).length=k) (h0:0<k) (hg:w.heap[g]? =some (.cells cur e (0,0))) (hC:cur.toList.take (d.size*k)=d.toList.flatMap enc):HoldsK enc k w g 0 d:=fun j hj=>by
 rw[size_flatK]at hj;have h1:=tM hk h0 d hj;rw[←hC,dr,if_pos hj,Array.getElem?_toList]at h1;constructor
 ·simp[World.cell?,hg,h1]
 ·simp[World.frozen?,hg]
theorem uY {w:World} {g n:Nat} {cur:Array Value} {e:TypeId} {d:Array α} {os:Array Obj} (hg:w.heap[g]? =some (.cells cur e (0,0))):(sortWorldK enc k w g 0 n d os).heap[g]? =some (.cells (putCells id 0 (flatK enc k d) cur) e (0,0)):=by
 have dy:g<w.heap.size:=ak hg
 have h1:(w.heap.modify g (onCells (putCells id 0 (flatK enc k d))))[g]? =some (.cells (putCells id 0 (flatK enc k d) cur) e (0,0)):=by
  rw[qd,if_pos rfl,hg];rfl
 show((w.heap.modify g (onCells (putCells id 0 (flatK enc k d))))++os)[g]? =_;rw[Array.getElem?_append_left (by simpa using dy)];exact h1
theorem rR {w:World} {g n:Nat} {d:Array α} {os:Array Obj}:Step allM w allM (sortWorldK enc k w g 0 n d os) (fun b=>b=g):=
 ⟨fun h=>absurd (h w.heap.size trivial) (iF _),rfl,rfl,rfl,by show _≤((w.heap.modify g _)++os).size;simp,fun _ _=>Iff.rfl,fun b hb hn=>by
  have hn: ¬b=g:=hn;show((w.heap.modify g (onCells (putCells id 0 (flatK enc k d))))++os)[b]? =_;rw[Array.getElem?_append_left (by simpa using hb),qd,if_neg (fun h=>hn h.symm)],fun _ _=>trivial⟩
theorem uZ {F cur:Array Value} (h:F.size≤cur.size):(putCells id 0 F cur).toList.take F.size=F.toList:=by
 apply kH;intro j;rw[dr];by_cases hj:j<F.size
 ·rw[if_pos hj];simp[putCells,hj,jz hj h]
 ·rw[if_neg hj,fI (by simpa using hj)]
theorem xL (hk:∀x,(enc x).length=k) (h0:0<k) (d:Array α):(flatK enc k d).toList=d.toList.flatMap enc:=by
 apply kH;intro j;by_cases hj:j<d.size*k
 ·rw[tM hk h0 d hj];have:j<(flatK enc k d).size:=by rw[size_flatK];exact hj
  rw[Array.getElem?_toList,getElem!_pos _ j this];exact Array.getElem?_eq_getElem this
 ·rw[fI (by rw[Array.length_toList,size_flatK];omega),fI (by rw[nC hk,Array.length_toList];omega)]
end
end Go.K
namespace Go.K
open Go.Proofs
set_option maxRecDepth 10000
open Go.Proofs Go.Sort
theorem CA:∀{ts:List Fd} {C:List Value} {M:az} {w:World},ey RT.fd M w ts C→C=ts.flatMap fun t=>[.string ⟨t.1.toArray⟩,.string ⟨t.2.toArray⟩]
 |[],C,_,_,h=>h
 |t::ts,C,_,_,⟨vs,r,h1,h2,h3⟩=>by
  obtain⟨va,vb,rfl,h4,h5⟩:=h2;rw[h1,CA h3,h4.1,h5.1];rfl
theorem zu {M:az} {w:World}:∀{ts:List Fd},(∀t∈ts,t.1.length≤1000000∧t.2.length≤1000000)→ey RT.fd M w ts (ts.flatMap fun t=>[.string ⟨t.1.toArray⟩,.string ⟨t.2.toArray⟩])
 |[],_=>rfl
 |t::ts,h=>by
  obtain⟨h1,h2⟩:=h t (bY ..);exact⟨_,_,rfl,⟨_,_,rfl,⟨rfl,by omega⟩,⟨rfl,by omega⟩⟩,zu fun u hu=>h u (cq _ hu)⟩
def F7 (us:List Fd):Prop:=us.Pairwise fun a b=>¬Lib.compareBytes (dd b) (dd a)<0
theorem vf {base:Nat} {v:Value} {ts:List Fd} (w0:World) (ho:Own RT.fd 47 (nY v) w0 base v ts) (hT:∀t∈ts,(0:UInt8)∉t.1∧t.1.length≤1000000∧t.2.length≤1000000) (hl:ts.length≤100000000):
  Spec Tryz.prog 196 #[v,.func (.func 158) #[] #[]] w0 (fun r w=>r= .tuple #[]∧∃us:List Fd,us.Perm ts∧F7 us∧Own RT.fd 47 (nY v) w base v us∧Step allM w0 allM w (nY v)):=by
 obtain⟨⟨C,⟨hC,hr⟩,hA⟩,hm⟩:=ho;rcases hr with⟨rfl,h0⟩|⟨g,cap,cur,rfl,hb,hg,hle,hmx,Tq,C1⟩
 ·have C6:ts=[]:=gh.1 h0;subst C6;exact(AnyF.slices_SortFunc_none Tryz.F5 none 0 _ w0).mono fun e w' ⟨h1,h2⟩=>⟨_,h1,rfl,[],.refl _,List.Pairwise.nil,eo _ _ _ _ _,by rw[h2];exact(an allM w0).ca (fun _ h=>h.elim) (fun _ _=>trivial)⟩
 ·obtain⟨d,hd⟩:∃d:Array TK,d.toList.map (·.1)=ts:=⟨(ts.attach.map fun x=>(⟨x.1,hT x.1 x.2⟩:TK)).toArray,by rw[List.toList_toArray,List.map_map];exact List.attach_map_subtype_val ts⟩;have jx:d.size=ts.length:=by rw[←hd];simp
  have hk:∀x:TK,(uW x).length=2:=fun _=>rfl
  have Mv:∀l:List TK,(l.map (·.1)).flatMap (fun t:Fd=>[Value.string ⟨t.1.toArray⟩,.string ⟨t.2.toArray⟩])=l.flatMap uW:=fun l=>by rw[List.flatMap_map];rfl
  have hH:HoldsK uW 2 w0 g 0 d:=Dy hk (by omega) hg (by
   have e2:RT.fd.n=2:=rfl;rw[e2]at C1;rw[jx,C1,CA hA,←hd,Mv])
  have hs:=Qx g 0 cap d w0 hH (ak hg) (by omega);rw[jx]at hs;refine hs.mono fun r w' ⟨h1,n,os,h2⟩=>⟨h1,(d.toList.mergeSort fun x y=> !(ltOf Ek) y x).map (·.1),?_,?_,?_,?_⟩
  ·rw[←hd];exact(List.mergeSort_perm _ _).map _
  ·refine dp.2 ((List.pairwise_mergeSort (fun a b c h1 h2=>?_) (fun a b=>?_) _).imp fun h=>?_)
   ·simp only[ltOf,oI,decide_eq_false_iff_not]at*
    have:=(Cz fun x:TK=>dd x.1).ntrans c b a (by simpa[ltOf,Ek]using h2) (by simpa[ltOf,Ek]using h1);simpa[ltOf,Ek]using this
   ·simp only[ltOf,Bool.or_eq_true,oI,decide_eq_false_iff_not];have:=l9 (dd a.1) (dd b.1);unfold Ek;omega
   ·rw[oI]at h;exact of_decide_eq_false h
  ·have hp:=List.mergeSort_perm d.toList fun x y=> !(ltOf Ek) y x
   rw[h2];generalize (d.toList.mergeSort fun x y=> !(ltOf Ek) y x)=us at hp;have Qy:(us.map (·.1)).length=ts.length:=by rw[cN,hp.length_eq,Array.length_toList,jx]
   have yh:us.toArray.size*2=ts.length*2:=by rw[←Qy];simp
   have e2:RT.fd.n=2:=rfl;refine⟨⟨(us.map (·.1)).flatMap (fun t:Fd=>[Value.string ⟨t.1.toArray⟩,.string ⟨t.2.toArray⟩]),⟨?_,.inr ⟨g,cap,_,by rw[Qy],hb,uY hg,by rw[Qy];exact hle,hmx,by rw[←Tq];simp[putCells],?_⟩⟩,zu fun t ht=>?_⟩,hm⟩
   ·rw[Mv,nC hk,cN,e2]
   ·rw[Mv,Qy,e2,←yh,←size_flatK uW,uZ (by rw[size_flatK,yh,Tq,e2];omega),xL hk (by omega)]
   ·obtain⟨x,_,rfl⟩:=cE.1 ht;exact x.2.2
  ·rw[h2];exact rR.ca (fun b hb=>by have hb:b=g:=hb;subst hb;rfl) (fun _ _=>trivial)
end Go.K
namespace Go.K
open Go.Proofs
set_option maxRecDepth 10000
theorem zw {bs mb clock:Nat} {es:List MapEntry} (w0:World) (hk:Cx es) (hT:∀e∈es,∀t,e.key=kv t→(0:UInt8)∉t.1∧t.1.length≤1000000∧t.2.length≤1000000) (Tp:es.length≤100000000) (hlen:∀ts:List Fd,ts.Nodup→(∀t∈ts,∃e∈es,e.key=kv t)→ts.length≤100000000) (F2:w0.heap[bs]? =some (.cells #[.map (some mb)] 227 (0,0))) (hW:eD Tryz.prog 47 w0 mb es clock):
  Spec Tryz.prog 156 #[.func (.func 197) #[] [.pointer (some ⟨bs,0,none⟩)].toArray,.func (.func 158) #[] #[]] w0 (fun v w=>∃us:List Fd,us.Nodup∧(∀t,t∈us↔∃e∈es,e.key=kv t)∧F7 us∧Own RT.fd 47 (nY v) w w0.heap.size v us∧Step allM w0 allM w aA):=by
 refine aW (args:=[_,_]) (fn:=Tryz.f156) Tryz.func156 rfl (n:=12) Tryz.ntmps156 (aj (ah (ai rfl rfl (ad (aj (ah (ae rfl rfl ?_)))))));refine aM rfl rfl UH (xJ _ hk Tp F2 hW) (fun v1 w1 hc=>?_);obtain⟨ts,mS,lD,ho,s1⟩:=hc;refine ai rfl rfl (ad (aj (ah (ae rfl rfl (ae rfl rfl ?_)))));refine aM rfl rfl UI (vf _ ho (fun t ht=>by obtain⟨e,he,V6⟩:=(lD t).1 ht;exact hT e he t V6) (hlen ts mS fun t ht=>(lD t).1 ht)) (fun r2 w2 hc=>?_);obtain⟨rfl,us,hp,K0,Qz,s2⟩:=hc;refine ad (aj (ah (ae rfl rfl (ai rfl rfl (ad (aH ?_))))));exact aP rfl rfl ⟨us,hp.nodup_iff.2 mS,fun t=>hp.mem_iff.trans (lD t),K0,Qz,s1.trans s2 (fun k hk hn=>by have:=(ho.base k hn).1;omega)⟩
theorem Bk {mb:Nat} (w0:World):
  Spec Tryz.prog 157 #[.map (some mb)] w0 (fun v w=>∃bs,v= .func (.func 197) #[] [.pointer (some ⟨bs,0,none⟩)].toArray∧w.heap[bs]? =some (.cells #[.map (some mb)] 227 (0,0))∧w0.heap.size≤bs∧Step allM w0 allM w aA):=by
 refine aW (args:=[_]) (fn:=Tryz.f157) Tryz.func157 rfl (n:=4) Tryz.ntmps157 (aj (ah ?_));refine mH allM rfl rfl (fun bs w1 qh yf gs s1=>?_);change w1.heap[bs]? =some (.cells #[.map (some mb)] 227 (0,0))at gs;replace s1:=s1.all;refine ai rfl rfl (ad (aj (ah (iD (xs:=[]) (ys:=[.tmp 1]) rfl rfl rfl (ai rfl rfl (ad (aH ?_)))))));exact aP rfl rfl ⟨bs,rfl,gs,qh,s1⟩
end Go.K
namespace Go.K
open Go.Proofs
set_option maxRecDepth 10000
def posOf (ts:List (Fd×Nat)) (t:Fd):List Int:=(ts.filter fun p=>decide (p.1=t)).map fun p=>(p.2:Int)
def seen (ts:List (Fd×Nat)):List Fd:=ts.foldl (fun l p=>if p.1∈l then l else l++[p.1]) []
theorem Dz (ts:List (Fd×Nat)) (t:Fd) (i:Nat):seen (ts++[(t,i)])=if t∈seen ts then seen ts else seen ts++[t]:=by unfold seen;rw[oG];rfl
theorem tN (ts:List (Fd×Nat)) (t t':Fd) (i:Nat):posOf (ts++[(t,i)]) t'=if t=t' then posOf ts t'++[(i:Int)]else posOf ts t':=by
 unfold posOf;rw[List.filter_append];by_cases h:t=t'<;>simp[h]
theorem qK (ts:List (Fd×Nat)) (t:Fd):(posOf ts t).length≤ts.length:=by
 unfold posOf;rw[cN];exact List.length_filter_le _ _
abbrev jh:Value:= .slice none 0 0
structure DA (M:az) (w:World) (B:Nat) (ts:List (Fd×Nat)) (es:List MapEntry):Prop where
 o:∀t v,dF jh es (kv t) v→Own (RT.int .i64) 3 M w B v (posOf ts t)
 a:∀t t' v v',t≠t'→dF jh es (kv t) v→dF jh es (kv t') v'→iT v v'
 k:es.map (·.key)=(seen ts).map kv
theorem DA.bg {M M':az} {w w':World} {B:Nat} {ts:List (Fd×Nat)} {es:List MapEntry} (h:DA M w B ts es) (s:Step M w M' w' aA):DA M' w' B ts es:=⟨fun t v hv=>(h.o t v hv).bg s,h.a,h.k⟩
def IJ (bt mb B:Nat) (ts:List (Fd×Nat)) (M:az) (w:World):Prop:=w.heap[bt]? =some (.cells #[.map (some mb)] 227 (0,0))∧M bt∧M mb∧B≤bt∧B≤mb∧∃es clock,eD Tryz.prog 47 w mb es clock∧DA M w B ts es
theorem Own.ji {α:Type} {A:RT α} {e:TypeId} {M:az} {w:World} {base b c:Nat} {a:Array MapEntry} {v:Value} {xs:List α} (h:Own A e M w base v xs) (hb:w.heap[b]? =some (.map a c)):v.ownBlock≠some b:=fun hv=>by
 obtain⟨⟨C,h1,_⟩,_⟩:=h;rcases h1.2 with⟨h2,_⟩|⟨g,cap,cur,h2,_,h3,_⟩
 ·rw[h2]at hv;cases hv
 ·rw[h2]at hv;cases hv;rw[h3]at hb;cases hb
theorem pL {ts:List (Fd×Nat)} {es:List MapEntry} {t:Fd} (hk:es.map (·.key)=(seen ts).map kv):(∃e∈es,e.key=kv t)↔t∈seen ts:=by
 constructor
 ·rintro⟨e,he,h⟩;have:kv t∈(seen ts).map kv:=by rw[←hk,←h];exact fm he
  obtain⟨t',h1,h2⟩:=cE.1 this;rw[←qJ h2];exact h1
 ·intro h;have:kv t∈es.map (·.key):=by rw[hk];exact fm h
  obtain⟨e,h1,h2⟩:=cE.1 this;exact⟨e,h1,h2⟩
theorem DB {M:az} {bt mb B:Nat} {ts:List (Fd×Nat)} {t:Fd} {i:Nat} (w0:World) (hM:Lt M w0) (h1:t.1.length≤900000) (h2:t.2.length≤140737488355328) (hi:i≤1000000) (C6:ts.length≤10000000) (hJ:IJ bt mb B ts M w0):
  Spec Tryz.prog 155 #[kv t,.int .i64 (i:Int),.pointer (some ⟨bt,0,none⟩)] w0 (fun v w=>∃M',Lt M' w∧IJ bt mb B (ts++[(t,i)]) M' w∧Step M w0 M' w (jS M B)):=by
 obtain⟨gb,dB,dZ,hB,CB,es,clock,hW,hI⟩:=hJ;refine aW (args:=[_,_,_]) (fn:=Tryz.f155) Tryz.func155 rfl (n:=13) Tryz.ntmps155 ?_;have S:Step M w0 M w0 (jS M B):=(an _ _).ca (fun _ h=>h.elim) (fun _ h=>h.2);refine aj (ah ?_);refine jB (A:=RT.fd) rfl rfl hM (xG (by omega) h2) rfl (fun u0 w1 cA s0 _=>?_);have:=ak gb;replace dB:=(s0.mem _ this).2 dB;replace gb:=s0.aG gb;replace dZ:=(s0.mem _ (ak hW.at_)).2 dZ;replace hW:=hW.bg s0;replace hI:=hI.bg s0;replace hM:=s0.lt hM;have:=S.size;replace S:=S.ax s0;refine ad (ah (aE j6 rfl rfl rfl (by assumption) rfl ?_));refine cw (M:=M) (A:=RT.fd) cb rfl rq (by decide) rfl rfl rfl cA (aq _ _) (fun v1 gF=>?_);obtain rfl:=k7 gF;refine ae rfl rfl ?_;refine eW (A:=RT.int .i64) (hn:=by decide) (M:=M) av I3 (by decide) rfl rfl hM (gv (by omega)) (.inr ⟨rfl,rfl⟩) (fun Fh xA fH s1_3=>?_);have:=ak gb;replace dB:=(s1_3.mem _ this).2 dB;replace gb:=s1_3.aG gb;replace cA:=cA.le (by decide) s1_3.le;replace dZ:=(s1_3.mem _ (ak hW.at_)).2 dZ;replace hW:=hW.bg s1_3;replace hI:=hI.bg s1_3;replace hM:=s1_3.lt hM;have:=S.size;replace S:=S.ax s1_3;obtain⟨kl,C3⟩:=FY t (by omega) h2;refine Rg.mapEntry (M:=M) (zv:=jh) j6 vV nZ rfl rfl rfl C3 hW dZ (fun w4 es4 cl4 v s Ol hv lD zx uK s4=>?_);have QA:∀t v,dF jh es (kv t) v→v.ownBlock≠some mb:=fun t v h=>(hI.o t v h).ji hW.at_
 have Kg:bt≠mb:=fun e=>by subst e;have:=hW.at_;rw[gb]at this;cases this
 replace hI:DA M w4 B ts es:=⟨fun t v hv=>(hI.o t v hv).step s4 (fun b hb hk=>QA t v hv (by have hk:b=mb:=hk;rw[←hk];exact hb)),hI.a,hI.k⟩;have QB:=(s4.mem _ (ak hW.at_)).2 dZ;replace dB:=(s4.mem _ (ak gb)).2 dB;replace gb:=s4.bE gb Kg;replace fH:=fH.le s4.le;replace hM:=s4.lt hM;have hmM:∀b,b<w0.heap.size→M b→M b:=fun b hb h=>(S.mem b hb).1 h
 have hz0:=S.size;replace S:=S.trans s4 (fun k hk h=>by have h:k=mb:=h;subst h;exact⟨CB,hmM k hk dZ⟩);have oy:=hI.o t v hv;have xd:=qK ts t;refine bO rfl rfl rfl ?_;refine Rg.kO (M:=M) (base:=B) av I3 rfl rfl rfl rfl oy fH (aq _ _) (by simp;omega) (by simp;omega) (by have:=ak gb;omega) (fun v6 w6 ry s6 hF=>?_);have hblk:∀b,jb v b→B≤b∧M b:=fun b h=>⟨(oy.base b h).1,oy.mut_ b h⟩
 have IP:∀t' v',t'≠t→dF jh es (kv t') v'→iT v' v:=fun t' v' eK mW=>hI.a t' t v' v eK mW hv
 have IQ:∀t' v',t'≠t→dF jh es (kv t') v'→Own (RT.int .i64) 3 (ja M v6) w6 B v' (posOf ts t'):=fun t' v' eK mW=>(hI.o t' v' mW).step s6 (fun b hb hk=>IP t' v' eK mW b hb hk)
 have jx:∀t' v',dF jh es (kv t') v'→∀b,v'.ownBlock=some b→b<w4.heap.size:=fun t' v' mW b hb=>((hI.o t' v' mW).base b hb).2
 have F8:∀t' v',t'≠t→dF jh es (kv t') v'→iT v6 v':=fun t' v' eK mW=>(IP t' v' eK mW).symm.grown hF (jx t' v' mW)
 have Wb:v.ownBlock≠some mb:=oy.ji Ol.at_;have F9:=(s6.mem _ (ak Ol.at_)).2 QB;replace Ol:=Ol.step s6 Wb;replace dB:=(s6.mem _ (ak gb)).2 dB;replace gb:=s6.bE gb (fun h=>oy.eL gb (by decide) h);replace hM:=s6.lt hM;have Wc:∀b,b<w0.heap.size→M b→M b:=fun b hb h=>(S.mem b hb).1 h
 replace S:=S.trans s6 (fun k hk h=>⟨(hblk k h).1,Wc k hk (hblk k h).2⟩);refine bO rfl rfl rfl ?_;have QC:=Ol.at_;refine Rg.entryStore rfl rfl rfl Ol F9 lD (fun w8 es8 hW8 mC QD s8=>?_);have hm8:v6.ownBlock≠some mb:=ry.ji QC;replace ry:=ry.step s8 (fun b hb hk=>hm8 (by have hk:b=mb:=hk;rw[←hk];exact hb));have QE:∀t' v',t'≠t→dF jh es (kv t') v'→Own (RT.int .i64) 3 _ w8 B v' (posOf ts t'):=fun t' v' eK mW=>(IQ t' v' eK mW).step s8 (fun b hb hk=>QA t' v' mW (by have hk:b=mb:=hk;rw[←hk];exact hb))
 have QF:=(s8.mem _ (ak QC)).2 F9;refine ad ?_
 first|refine fK.nil ?_|simp+decide only[so,kZ,if_true,if_false]|skip
 replace dB:=(s8.mem _ (ak gb)).2 dB;replace gb:=s8.bE gb Kg;replace hM:=s8.lt hM;replace S:=S.trans s8 (fun k hk h=>by have h:k=mb:=h;subst h;exact⟨CB,(S.mem k hk).1 F9⟩)
 have oz:∀t1 v1,dF jh es8 (kv t1) v1→(t1=t∧v1=v6)∨(t1≠t∧dF jh es (kv t1) v1):=fun t1 v1 gF=>by
  rcases(QD jh (kv t1) v1).1 gF with⟨h3,h4⟩|⟨h3,h4⟩
  ·exact .inl ⟨qJ h3,h4⟩
  ·exact .inr ⟨fun e=>h3 (by rw[e];rfl),(zx (kv t1) v1).1 h4⟩
 refine gZ rfl ⟨_,hM,⟨gb,dB,QF,hB,CB,es8,_,hW8,⟨fun t1 v1 gF=>?_,fun t1 t2 v1 v2 eK gF xo=>?_,?_⟩⟩,S⟩
 ·rcases oz t1 v1 gF with⟨rfl,rfl⟩|⟨h3,h4⟩
  ·rw[tN,if_pos rfl];exact ry
  ·rw[tN,if_neg (fun e=>h3 e.symm)];exact QE t1 v1 h3 h4
 ·rcases oz t1 v1 gF with⟨rfl,rfl⟩|⟨h3,h4⟩
  ·rcases oz t2 v2 xo with⟨rfl,_⟩|⟨h5,h6⟩
   ·exact absurd rfl eK
   ·exact F8 t2 v2 h5 h6
  ·rcases oz t2 v2 xo with⟨rfl,rfl⟩|⟨h5,h6⟩
   ·exact(F8 t1 v1 h3 h4).symm
   ·exact hI.a t1 t2 v1 v2 eK h4 h6
 ·rw[mC,Dz];rcases uK with⟨h3,h4⟩|⟨h3,h4⟩
  ·rw[h3,hI.k,if_pos ((pL hI.k).1 h4)]
  ·rw[h3,hI.k,if_neg (fun h=>by obtain⟨e,he,hk⟩:=(pL hI.k).2 h;exact h4 e he hk)];simp[kv]
end Go.K
namespace Go.K
open Go.Maps (Keyed)
open Go.Lib (compareBytes)
theorem zy:∀a b:List UInt8,Op.bytesLess a b=decide (compareBytes a b<0)
 |[],[]=>by simp[Op.bytesLess,compareBytes]
 |_::_,[]=>by simp[Op.bytesLess,compareBytes]
 |[],_::_=>by simp[Op.bytesLess,compareBytes]
 |a::x,b::y=>by
  rw[Op.bytesLess,zy x y,lI];by_cases h1:a.toNat<b.toNat
  ·simp[UInt8.lt_iff_toNat_lt,h1]
  ·by_cases h2:b.toNat<a.toNat
   ·have: ¬a=b:=fun e=>by subst e;omega
    simp[UInt8.lt_iff_toNat_lt,h1,h2,this]
   ·have:a=b:=UInt8.toNat_inj.1 (by omega);simp[UInt8.lt_iff_toNat_lt,h1,h2,this]
theorem nD (a b:List UInt8):compareBytes a b<0↔a<b:=by
 have h:=zy a b;rw[Go.Proofs.bytesLess_eq]at h;exact(decide_eq_decide.1 h).symm
theorem iN (a:List UInt8): ¬a<a:=fun h=>by have:=(nD a a).2 h;rw[tK]at this;omega
theorem lJ {a b c:List UInt8} (h:a<b) (h':b<c):a<c:=(nD _ _).1 (nT ((nD _ _).2 h) ((nD _ _).2 h'))
theorem kU (a b:List UInt8):a<b∨a=b∨b<a:=by
 rcases Int.lt_trichotomy (compareBytes a b) 0 with h|h|h
 ·exact .inl ((nD _ _).1 h)
 ·exact .inr (.inl (nB h))
 ·exact .inr (.inr ((nD _ _).1 (by rw[l9];omega)))
theorem iO {a b:List UInt8} (h:a<b): ¬b<a:=fun h'=>iN a (lJ h h')
theorem Bm {a b:List UInt8}:a≤b↔¬b<a:=Iff.rfl
section
variable {P:Program} {r:Option Nat} {n:Nat} {L:Sl} {ds:List Deferred} {w:World} {K:Kt} {ops:Array Oper} {rest:List Oper} {d:Nat} {x y:Operand} {ty:TypeId} {pos:String} {af:Array Edge}
theorem Rg.Wd {t t':TypeId} {p q:List UInt8} (hx:ev L x=some (.string ⟨p.toArray⟩)) (hy:ev L y=some (.string ⟨q.toArray⟩)) (hd:Nat.blt d n=true)
  (k:Rg P r n ops rest ((d,.bool (decide (q<p)))::L) ds w K):
  Rg P r n ops ({dst:=some d,op:= .binOp .gtr t x y t',type:=ty,pos,after:=af,guard:=none}::rest) L ds w K:=
 .op (fun _ h=>by cases h) rfl rfl hd _ w (fun ρ h=>by
  have e:(!(decide (p<q)||p==q))=decide (q<p):=by
   rcases kU p q with h|h|h
   ·simp[h,iO h]
   ·subst h;simp[iN]
   ·have: ¬p=q:=fun e=>by subst e;exact iN p h
    simp[h,iO h,this]
  simp only[execOp];rw[h x _ hx,h y _ hy];simp only[binOp,Op.stringOp,iH,Go.Proofs.bytesLess_eq,e];simp[eqGuard]) k
theorem Rg.Mw {t t':TypeId} {p q:List UInt8} (hx:ev L x=some (.string ⟨p.toArray⟩)) (hy:ev L y=some (.string ⟨q.toArray⟩)) (hd:Nat.blt d n=true)
  (k:Rg P r n ops rest ((d,.bool (decide (¬p<q)))::L) ds w K):
  Rg P r n ops ({dst:=some d,op:= .binOp .geq t x y t',type:=ty,pos,after:=af,guard:=none}::rest) L ds w K:=
 .op (fun _ h=>by cases h) rfl rfl hd _ w (fun ρ h=>by
  have e:(!decide (p<q))=decide (¬p<q):=by by_cases h:p<q<;>simp[h]
  simp only[execOp];rw[h x _ hx,h y _ hy];simp only[binOp,Op.stringOp,iH,Go.Proofs.bytesLess_eq,e];simp[eqGuard]) k
theorem Rg.Mx {t t':TypeId} {p q:List UInt8} (hx:ev L x=some (.string ⟨p.toArray⟩)) (hy:ev L y=some (.string ⟨q.toArray⟩)) (hd:Nat.blt d n=true)
  (k:Rg P r n ops rest ((d,.bool (decide (¬q<p)))::L) ds w K):
  Rg P r n ops ({dst:=some d,op:= .binOp .leq t x y t',type:=ty,pos,after:=af,guard:=none}::rest) L ds w K:=
 .op (fun _ h=>by cases h) rfl rfl hd _ w (fun ρ h=>by
  have e:(decide (p<q)||p==q)=decide (¬q<p):=by
   rcases kU p q with h|h|h
   ·simp[h,iO h]
   ·subst h;simp[iN]
   ·have: ¬p=q:=fun e=>by subst e;exact iN p h
    simp[h,iO h,this]
  simp only[execOp];rw[h x _ hx,h y _ hy];simp only[binOp,Op.stringOp,iH,Go.Proofs.bytesLess_eq,e];simp[eqGuard]) k
end
abbrev xM (l:List (List UInt8)):Prop:=l.Pairwise (· < ·)
theorem DC {ss:List (List UInt8)} (h:ss.Nodup):xM (ss.mergeSort fun x y=>decide (x≤y)):=by
 have h1:(ss.mergeSort fun x y=>decide (x≤y)).Pairwise (fun x y=>decide (x≤y)=true):=List.pairwise_mergeSort (fun a b c h1 h2=>by
  simp only[decide_eq_true_eq,Bm]at h1 h2 ⊢;intro h3;rcases kU a b with h|h|h
  ·exact h2 (lJ h3 h)
  ·subst h;exact h2 h3
  ·exact h1 h) (fun a b=>by
  simp only[Bool.or_eq_true,decide_eq_true_eq,Bm];rcases kU a b with h|h|h
  ·exact .inl (iO h)
  ·subst h;exact .inl (iN a)
  ·exact .inr (iO h)) ss
 have h2:(ss.mergeSort fun x y=>decide (x≤y)).Nodup:=(List.mergeSort_perm ss _).nodup_iff.2 h;refine (h1.and h2).imp ?_;rintro a b ⟨h3,h4⟩;simp only[decide_eq_true_eq,Bm]at h3;rcases kU a b with h|h|h
 ·exact h
 ·exact absurd h h4
 ·exact absurd h h3
theorem xM.nodup {l:List (List UInt8)} (h:xM l):l.Nodup:=h.imp fun {a b} h e=>by subst e;exact iN a h
theorem Ga {α:Type} {R:α→α→Prop} (hR:∀a b,R a b→R b a→a=b) {l l':List α} (h:l.Pairwise R) (h':l'.Pairwise R) (hn:l.Nodup) (HL:l'.Nodup) (hm:∀x,x∈l↔x∈l'):l=l':=
 List.Perm.eq_of_pairwise (fun a b _ _ h1 h2=>hR a b h1 h2) h h' ((List.perm_ext_iff_of_nodup hn HL).2 hm)
theorem My {l l':List (List UInt8)} (h:xM l) (h':xM l') (hm:∀x,x∈l↔x∈l'):l=l':=
 Ga (fun a b h1 h2=>absurd h2 (iO h1)) h h' h.nodup h'.nodup hm
abbrev sv (k:List UInt8):Value:= .string ⟨k.toArray⟩
theorem xN {a b:List UInt8} (h:sv a=sv b):a=b:=by simpa[sv]using h
def Bn:Value→Option (DU×List MemPlace):=fun _=>some (.nil,[])
theorem eD.We {P:Program} {kt:TypeId} {M:az} {w:World} {b:Nat} {es:List MapEntry} {clock:Nat} (hk:P.underlying kt=some .string) (h:eD P kt w b es clock) (hm:M b) (hl:es.length≤maxLen) (ks:List (List UInt8)) (IS:es.map (·.key)=ks.map sv):
  ∃m:List (Lit×DU),Lu P kt Bn M w b m∧(strKeys (DataW.map m)).Perm ks∧m.length=ks.length:=by
 have hF:Go.WideElems.Fit P kt Bn es.toArray clock:=by
  refine⟨by simpa using hl,⟨fun x hx=>h.lt x (by simpa using hx),?_,?_⟩,fun x hx=>?_⟩
  ·simpa[List.Nodup,dp]using h.born
  ·simpa[List.Nodup,dp]using h.keys
  ·obtain⟨l,hl⟩:=h.ok x (by simpa using hx);exact⟨(l,.nil),by simp[Go.WideElems.rd,hl,Bn]⟩
 have hp:=Go.WideShapes.sorted_perm (es.toArray.toList.map (Go.WideElems.rg P kt Bn));have hlen:(List.foldr DataW.insert [] (es.toArray.toList.map (Go.WideElems.rg P kt Bn))).length=es.length:=by rw[hp.length_eq];simp
 refine⟨_,⟨hm,es.toArray,clock,h.at_,hF,by rw[hlen];simp,rfl⟩,?_,?_⟩
 ·refine (hp.map fun p=>strOf p.1).trans ?_;rw[List.map_map]
  have e:es.toArray.toList.map ((fun p=>strOf p.1)∘Go.WideElems.rg (H:=Unit) P kt Bn)=ks:=by
   refine kH fun i=>?_
   have hi:=congrArg (·[i]?) IS;simp only[eE]at hi ⊢
   cases he:es[i]? with
   |none=>
    rw[he]at hi
    cases Wf:ks[i]? with
    |none=>simp[he]
    |some a=>rw[Wf]at hi;cases hi
   |some e=>
    rw[he]at hi;obtain⟨l,hl⟩:=h.ok e (aN he);obtain⟨s,hs,h1⟩:=Option.map_eq_some_iff.1 hi.symm;obtain⟨z,hz1,hz2,_⟩:=Maps.keyOf_str hk hl;have:z=s:=xN (hz1.symm.trans (by simpa using h1.symm));subst this;simp[he,hs,Go.WideElems.rg,Go.WideElems.rd,hl,Bn,hz2,strOf]
  rw[e]
 ·rw[hlen];have:=congrArg List.length IS;simpa using this
end Go.K
namespace Go.K
open Go.Lib (compareBytes)
def nE {α:Type} [DecidableEq α] (key:α→List UInt8) (t:α):List α→List α
 |[]=>[t]
 |u::l=>if key t<key u then t::u::l else if u=t then u::l else u::nE key t l
theorem nU {α:Type} [DecidableEq α] {key:α→List UInt8} {t x:α}:∀{l:List α},x∈nE key t l↔x=t∨x∈l
 |[]=>by simp[nE]
 |u::l=>by
  unfold nE
  split
  ·simp
  ·split
   ·rename_i h;subst h;simp
   ·rw[dm,nU (l:=l),dm];constructor
    ·rintro(h|h|h)
     ·exact .inr (.inl h)
     ·exact .inl h
     ·exact .inr (.inr h)
    ·rintro(h|h|h)
     ·exact .inr (.inl h)
     ·exact .inl h
     ·exact .inr (.inr h)
abbrev xO {α:Type} (key:α→List UInt8) (l:List α):Prop:=l.Pairwise fun a b=>key a<key b
theorem zz {α:Type} [DecidableEq α] {key:α→List UInt8} {t:α}:∀{l:List α},(∀u∈l,key u=key t→u=t)→xO key l→xO key (nE key t l)
 |[],_,_=>by simp[nE]
 |u::l,hi,h=>by
  have h':=gJ.1 h;unfold nE
  split
  ·rename_i dy
   refine gJ.2 ⟨fun x hx=>?_,h⟩;rcases dm.1 hx with rfl|hx
   ·exact dy
   ·exact lJ dy (h'.1 x hx)
  ·rename_i dy
   split
   ·exact h
   ·rename_i eK
    have hut:key u<key t:=by
     rcases kU (key u) (key t)with h1|h1|h1
     ·exact h1
     ·exact absurd (hi u (bY ..) h1) eK
     ·exact absurd h1 dy
    refine gJ.2 ⟨fun x hx=>?_,zz (fun v hv=>hi v (cq _ hv)) h'.2⟩;rcases nU.1 hx with rfl|hx
    ·exact hut
    ·exact h'.1 x hx
def allBy {α:Type} [DecidableEq α] (key:α→List UInt8) (l:List α):List α:=l.foldl (fun a t=>nE key t a) []
theorem pM {α:Type} [DecidableEq α] {key:α→List UInt8} {S:α→Prop} (hS:∀a b,S a→S b→key a=key b→a=b):∀(l a:List α),(∀x∈l,S x)→(∀x∈a,S x)→xO key a→
  xO key (l.foldl (fun a t=>nE key t a) a)∧∀x,x∈l.foldl (fun a t=>nE key t a) a↔x∈a∨x∈l
 |[],a,_,_,h=>⟨h,fun x=>by simp⟩
 |t::l,a,hl,ha,h=>by
  have ht:=hl t (bY ..)
  obtain⟨h1,h2⟩:=pM hS l (nE key t a) (fun x hx=>hl x (cq _ hx)) (fun x hx=>by
   rcases nU.1 hx with rfl|hx
   ·exact ht
   ·exact ha x hx) (zz (fun u hu e=>hS _ _ (ha u hu) ht e) h)
  refine⟨h1,fun x=>?_⟩;rw[List.foldl_cons,h2,nU,dm];constructor
  ·rintro((h|h)|h)
   ·exact .inr (.inl h)
   ·exact .inl h
   ·exact .inr (.inr h)
  ·rintro(h|h|h)
   ·exact .inl (.inr h)
   ·exact .inl (.inl h)
   ·exact .inr h
theorem xO.nodup {α:Type} {key:α→List UInt8} {l:List α} (h:xO key l):l.Nodup:=h.imp fun {a b} h e=>by subst e;exact iN _ h
abbrev HN (t:Fd):Prop:=(0:UInt8)∉t.1
theorem tO {a b:Fd} (ha:HN a) (hb:HN b) (h:dd a=dd b):a=b:=by
 obtain⟨h1,h2⟩:=tL ha hb h;exact Prod.ext h1 h2
def cD (tl:List (Fd×Nat)):List Fd:=allBy dd (tl.map (·.1))
theorem pN {tl:List (Fd×Nat)} (hz:∀p∈tl,HN p.1):xO dd (cD tl):=
 (pM (S:=HN) (fun _ _=>tO) _ [] (fun x hx=>by obtain⟨p,hp,rfl⟩:=cE.1 hx;exact hz p hp) (fun x h=>by cases h) List.Pairwise.nil).1
theorem jj {tl:List (Fd×Nat)} (hz:∀p∈tl,HN p.1) {t:Fd}:t∈cD tl↔t∈tl.map (·.1):=by
 have:=(pM (S:=HN) (key:=dd) (fun _ _=>tO) (tl.map (·.1)) [] (fun x hx=>by obtain⟨p,hp,rfl⟩:=cE.1 hx;exact hz p hp) (fun x h=>by cases h) List.Pairwise.nil).2 t;simpa[cD,allBy]using this
theorem CC (t:Fd):∀(ts:List (Fd×Nat)) (l:List Fd),t∈ts.foldl (fun l p=>if p.1∈l then l else l++[p.1]) l↔t∈l∨t∈ts.map (·.1)
 |[],l=>by simp
 |p::ts,l=>by
  rw[List.foldl_cons,CC t ts,iE,dm]
  split
  ·rename_i h
   constructor
   ·rintro(h1|h1)
    ·exact .inl h1
    ·exact .inr (.inr h1)
   ·rintro(h1|h1|h1)
    ·exact .inl h1
    ·exact .inl (by rw[h1];exact h)
    ·exact .inr h1
  ·rw[cZ,cn];constructor
   ·rintro((h1|h1)|h1)
    ·exact .inl h1
    ·exact .inr (.inl h1)
    ·exact .inr (.inr h1)
   ·rintro(h1|h1|h1)
    ·exact .inl (.inl h1)
    ·exact .inl (.inr h1)
    ·exact .inr h1
theorem pO {tl:List (Fd×Nat)} {t:Fd}:t∈seen tl↔t∈tl.map (·.1):=by unfold seen;rw[CC];simp
theorem zA {tl:List (Fd×Nat)} {us:List Fd} (hz:∀p∈tl,HN p.1) (mS:us.Nodup) (lD:∀t,t∈us↔t∈seen tl) (K0:F7 us):us=cD tl:=by
 have hm:∀t,t∈us↔t∈cD tl:=fun t=>by rw[lD,pO,jj hz]
 have iK:∀t∈cD tl,HN t:=fun t ht=>by obtain⟨p,hp,rfl⟩:=cE.1 ((jj hz).1 ht);exact hz p hp
 refine List.Perm.eq_of_pairwise (le:=fun a b=>¬compareBytes (dd b) (dd a)<0) (fun a b ha hb h1 h2=>?_) K0 ((pN hz).imp fun {a b} h h'=>iO h ((nD _ _).1 h')) ((List.perm_ext_iff_of_nodup mS (pN hz).nodup).2 hm);rw[nD]at h1 h2;rcases kU (dd a) (dd b)with h|h|h
 ·exact absurd h h2
 ·exact tO (iK a ((hm a).1 ha)) (iK b hb) h
 ·exact absurd h h1
theorem pP (a b:List (Fd×Nat)) (t:Fd):posOf (a++b) t=posOf a t++posOf b t:=by simp[posOf]
theorem Gb {tl:List (Fd×Nat)} {t:Fd} (h:t∈tl.map (·.1)):posOf tl t≠[]:=by
 obtain⟨p,hp,rfl⟩:=cE.1 h;intro e;have:p∈tl.filter fun q=>decide (q.1=p.1):=List.mem_filter.2 ⟨hp,by simp⟩
 rw[List.map_eq_nil_iff.1 e]at this;cases this
theorem DD {tl:List (Fd×Nat)} {t:Fd} (h:t∉tl.map (·.1)):posOf tl t=[]:=by
 unfold posOf;rw[List.filter_eq_nil_iff.2 fun p hp=>by simp;intro e;exact h (cE.2 ⟨p,hp,e⟩)];rfl
theorem zB (x:Fd) (t:Fd):(posOf (gg x) t).Sublist ((List.range' 0 (words x.2).length).map fun(i:Nat)=>(i:Int)):=by
 have e:(gg x).map (fun p=>(p.2:Int))=(List.range' 0 (words x.2).length).map fun(i:Nat)=>(i:Int):=by
  rw[←List.zipIdx_map_snd 0 (words x.2),List.map_map];unfold gg;rw[List.map_map];rfl
 rw[←e];exact List.filter_sublist.map _
theorem DE (x:Fd) (t:Fd):(posOf (gg x) t).Pairwise (· < ·)∧∀i∈posOf (gg x) t,0≤i∧i<(words x.2).length:=by
 refine⟨List.Pairwise.sublist (zB x t) (dp.2 ((List.pairwise_lt_range' (s:=0) (n:=(words x.2).length)).imp fun h=>by omega)),fun i hi=>?_⟩;have:=(zB x t).subset hi;obtain⟨k,hk,rfl⟩:=cE.1 this;have:=List.mem_range'_1.1 hk;omega
theorem vX {x:Fd} {p:Fd×Nat} (h:p∈gg x):p.1.1=x.1∧p.1.2∈words x.2:=by
 obtain⟨q,hq,rfl⟩:=cE.1 h;have:=List.mem_zipIdx hq;exact⟨rfl,by simp only;rw[this.2.2];exact List.getElem_mem _⟩
theorem vY {fs:List Fd} {p:Fd×Nat} (h:p∈b8 fs):∃x∈fs,p.1.1=x.1∧p.1.2∈words x.2:=by
 obtain⟨x,hx,hp⟩:=List.mem_flatMap.1 h;exact⟨x,hx,vX hp⟩
theorem tP {x t:Fd} (h:x.1≠t.1):posOf (gg x) t=[]:=DD fun hm=>by
 obtain⟨p,hp,rfl⟩:=cE.1 hm;exact h (vX hp).1.symm
theorem vZ {t:Fd}:∀{fs:List Fd},(∀x∈fs,x.1≠t.1)→posOf (b8 fs) t=[]
 |[],_=>rfl
 |x::fs,h=>by
  show posOf (gg x++b8 fs) t=[];rw[pP,tP (h x (bY ..)),vZ fun y hy=>h y (cq _ hy)];rfl
theorem zC {t:Fd}:∀{fs:List Fd},(fs.map (·.1)).Nodup→posOf (b8 fs) t=[]∨∃x∈fs,posOf (b8 fs) t=posOf (gg x) t
 |[],_=> .inl rfl
 |x::fs,h=>by
  have h':=sm.1 h;have e:posOf (b8 (x::fs)) t=posOf (gg x) t++posOf (b8 fs) t:=by show posOf (gg x++b8 fs) t=_;rw[pP]
  by_cases hx:x.1=t.1
  ·refine .inr ⟨x,bY ..,?_⟩;rw[e,vZ fun y hy e=>h'.1 (by have h9:y.1∈fs.map (·.1):=fm hy;rw[e,←hx]at h9;exact h9),sk]
  ·rw[e,tP hx,ig];rcases zC (t:=t) h'.2 with h1|⟨y,hy,h1⟩
   ·exact .inl h1
   ·exact .inr ⟨y,cq _ hy,h1⟩
theorem zD:∀{l:List Int} {last:Int},(∀x∈l,last<x)→l.Pairwise (· < ·)→eH last l=true
 |[],_,_,_=>rfl
 |x::l,last,h1,h2=>by
  have wZ:=gJ.1 h2;simp only[eH,bC,decide_eq_true_eq];exact⟨h1 x (bY ..),zD wZ.1 wZ.2⟩
structure iQ (d:Dc):Prop where
 names:∀f∈d.2,eT f.1=true
 once:(d.2.map (·.1)).Nodup
 toks:∀f∈d.2,kx 0 (words f.2)=0
 many:(b8 d.2).length≤500
 few:d.2.length≤8
theorem wa:∀{fs sn:List Fd} {n:Nat},tB sn fs n=0→(∀f∈fs,eT f.1=true∧kx 0 (words f.2)=0∧∀g∈sn,g.1≠f.1)∧(fs.map (·.1)).Nodup∧n+(b8 fs).length≤500
 |[],sn,n,h=>by
  refine⟨(fun f hf=>by cases hf),List.nodup_nil,?_⟩;simp only[tB]at h
  split at h
  ·cases h
  ·simp[b8];omega
 |f::fs,sn,n,h=>by
  simp only[tB]at h
  split at h
  ·cases h
  ·rename_i h1
   split at h
   ·cases h
   ·rename_i h2
    split at h
    ·exact absurd h (by assumption)
    ·rename_i h3
     obtain⟨h4,h5,h6⟩:=wa h;have h7:∀g∈sn,g.1≠f.1:=fun g hg e=>h2 (qj.2 ⟨g,hg,by simp[e]⟩)
     refine⟨fun x hx=>?_,sm.2 ⟨fun hm=>?_,h5⟩,?_⟩
     ·rcases dm.1 hx with rfl|hx
      ·exact⟨by simpa using h1,by simpa using h3,h7⟩
      ·obtain⟨a,b,c⟩:=h4 x hx;exact⟨a,b,fun g hg=>c g (kY _ hg)⟩
     ·obtain⟨y,hy,e⟩:=cE.1 hm;exact(h4 y hy).2.2 f (List.mem_append_right _ (cn.2 rfl)) e.symm
     ·have:(b8 (f::fs)).length=(gg f).length+(b8 fs).length:=by show(gg f++b8 fs).length=_;rw[bM]
      rw[this,lH];omega
theorem CD {d:Dc} (h:kN d=0):iQ d:=by
 unfold kN at h
 split at h
 ·cases h
 ·obtain⟨h1,h2,h3⟩:=wa h;exact⟨fun f hf=>(h1 f hf).1,h2,fun f hf=>(h1 f hf).2.1,by omega,by omega⟩
theorem we:∀{ws:List (List UInt8)} {i:Nat},kx i ws=0→∀x∈ws,x.length≤30
 |[],_,_,x,hx=>by cases hx
 |a::ws,i,h,x,hx=>by
  simp only[kx]at h
  split at h
  ·cases h
  ·split at h
   ·cases h
   ·rcases dm.1 hx with rfl|hx
    ·omega
    ·exact we h x hx
theorem Gc {s:List UInt8} (h:eT s=true):(0:UInt8)∉s:=fun h0=>by
 simp only[eT,bC,dD]at h;have:=h.2 0 h0
 revert this;decide
theorem iQ.IT {d:Dc} (h:iQ d):∀p∈b8 d.2,HN p.1:=fun p hp=>by
 obtain⟨x,hx,h1,_⟩:=vY hp;show(0:UInt8)∉p.1.1;rw[h1];exact Gc (h.names x hx)
theorem iQ.small {d:Dc} (h:iQ d):∀p∈b8 d.2,p.1.1.length≤12∧p.1.2.length≤30:=fun p hp=>by
 obtain⟨x,hx,h1,h2⟩:=vY hp;exact⟨by rw[h1];exact zd (h.names x hx),we (h.toks x hx) _ h2⟩
theorem iQ.pos {d:Dc} (h:iQ d) (t:Fd):(posOf (b8 d.2) t).Pairwise (· < ·)∧(∀i∈posOf (b8 d.2) t,0≤i∧i<500)∧(posOf (b8 d.2) t).length≤500:=by
 have hl:=qK (b8 d.2) t;have hm:=h.many;rcases zC (t:=t) h.once with h1|⟨x,hx,h1⟩
 ·rw[h1];exact⟨List.Pairwise.nil,(fun i hi=>by cases hi),by simp⟩
 ·obtain⟨h2,h3⟩:=DE x t
  have uA:(words x.2).length≤500:=by
   have:(gg x).length≤(b8 d.2).length:=by
    obtain⟨i,hi⟩:=bN.1 hx;have:=oX hi
    have h5:(b8 (d.2.take (i+1))).length≤(b8 d.2).length:=by
     have:b8 d.2=b8 (d.2.take (i+1))++b8 (d.2.drop (i+1)):=by unfold b8;rw[←List.flatMap_append,List.take_append_drop]
     rw[this,bM];omega
    rw[this,bM]at h5;omega
   rw[lH]at this;omega
  rw[h1]at hl ⊢;exact⟨h2,fun i hi=>⟨(h3 i hi).1,by have:=(h3 i hi).2;omega⟩,by omega⟩
theorem iQ.eH {d:Dc} (h:iQ d) (t:Fd):lX (posOf (b8 d.2) t)=true:=by
 obtain⟨h1,h2,_⟩:=h.pos t;exact lY.2 ⟨zD (fun x hx=>by have:=(h2 x hx).1;omega) h1,fun x hx=>by have:=(h2 x hx).2;omega⟩
abbrev o6 (e:En):List (Fd×Nat):=b8 e.1.2
def Bo (i:Nat) (tl:List (Fd×Nat)) (k:List UInt8):List Po:=((cD tl).filter fun t=>decide (dd t=k)).map fun t=>((i:Int),posOf tl t)
def Bp (k:List UInt8):Nat→List En→List Po
 |_,[]=>[]
 |i,e::L=>Bo i (o6 e) k++Bp k (i+1) L
def pk (L:List En) (k:List UInt8):List Po:=Bp k 0 L
theorem zE (k:List UInt8) (e:En):∀(L:List En) (i:Nat),Bp k i (L++[e])=Bp k i L++Bo (i+L.length) (o6 e) k
 |[],i=>by simp[Bp]
 |x::L,i=>by
  simp only[iV,Bp,zE k e L (i+1),List.append_assoc,cv];rw[show i+1+L.length=i+(L.length+1) by omega]
theorem IU (L:List En) (e:En) (k:List UInt8):pk (L++[e]) k=pk L k++Bo L.length (o6 e) k:=by
 unfold pk;rw[zE];simp
def gI (L:List En):List (List UInt8):=L.flatMap fun e=>(cD (o6 e)).map dd
theorem Bq (L:List En) (e:En):gI (L++[e])=gI L++(cD (o6 e)).map dd:=by simp[gI]
def keysOf (L:List En):List (List UInt8):=allBy id (gI L)
theorem jm (L:List En):xM (keysOf L):=(pM (key:=id) (S:=fun _=>True) (fun a b _ _ h=>h) _ [] (fun _ _=>trivial) (fun _ _=>trivial) List.Pairwise.nil).1
theorem kC {L:List En} {k:List UInt8}:k∈keysOf L↔k∈gI L:=by
 have:=(pM (key:=id) (S:=fun _=>True) (fun a b _ _ h=>h) (gI L) [] (fun _ _=>trivial) (fun _ _=>trivial) List.Pairwise.nil).2 k;simpa[keysOf,allBy]using this
theorem filter_one {α:Type} {key:α→List UInt8} {l:List α} (h:xO key l) (k:List UInt8):l.filter (fun t=>decide (key t=k))=[]∨∃t∈l,key t=k∧l.filter (fun t=>decide (key t=k))=[t]:=by
 have h1:xO key (l.filter fun t=>decide (key t=k)):=List.Pairwise.sublist List.filter_sublist h;have h2:∀x∈l.filter (fun t=>decide (key t=k)),x∈l∧key x=k:=fun x hx=>by simpa using List.mem_filter.1 hx
 revert h1 h2
 generalize l.filter (fun t=>decide (key t=k))=m;intro h1 h2
 match m,h1,h2 with
 |[],_,_=>exact .inl rfl
 |[t],_,h2=>exact .inr ⟨t,(h2 t (bY ..)).1,(h2 t (bY ..)).2,rfl⟩
 |t::u::m,h1,h2=>
  have:=(gJ.1 h1).1 u (bY ..);rw[(h2 t (bY ..)).2,(h2 u (by simp)).2]at this;exact absurd this (iN k)
theorem CE {d:Dc} (h:iQ d) (i:Nat) (k:List UInt8):Bo i (b8 d.2) k=[]∨∃t∈cD (b8 d.2),dd t=k∧Bo i (b8 d.2) k=[((i:Int),posOf (b8 d.2) t)]:=by
 rcases filter_one (pN h.IT) k with h1|⟨t,ht,hk,h1⟩
 ·exact .inl (by unfold Bo;rw[h1];rfl)
 ·exact .inr ⟨t,ht,hk,by unfold Bo;rw[h1];rfl⟩
theorem MA {tl:List (Fd×Nat)} {i:Nat} {t:Fd} (h:t∈cD tl):Bo i tl (dd t)≠[]:=fun e=>by
 have:t∈(cD tl).filter fun u=>decide (dd u=dd t):=List.mem_filter.2 ⟨h,by simp⟩
 rw[List.map_eq_nil_iff.1 e]at this;cases this
theorem sd (k:List UInt8):∀(L:List En) (i:Nat) (last:Int),(∀e∈L,iQ e.1)→last<i→i+L.length≤2147483648→dU last (Bp k i L)=true
 |[],_,_,_,_,_=>rfl
 |e::L,i,last,hF,h1,h2=>by
  have hf:=hF e (bY ..);have hr:=fun last h=>sd k L (i+1) last (fun x hx=>hF x (cq _ hx)) h (by simp at h2;omega)
  simp only[Bp];rcases CE hf i k with h3|⟨t,ht,hk,h3⟩
  ·rw[show Bo i (o6 e) k=[]from h3];exact hr last (by omega)
  ·rw[show Bo i (o6 e) k=_ from h3]
   have eK:(posOf (b8 e.1.2) t).isEmpty=false:=by
    have:=Gb ((jj hf.IT).1 ht)
    cases h:posOf (b8 e.1.2) t with
    |nil=>exact absurd h this
    |cons a b=>rfl
   simp only[iV,ig,dU,eK,hf.eH t,hr i (by omega),iG,Bool.not_false,bC,decide_eq_true_eq];simp at h2;omega
theorem qL (k:List UInt8):∀(L:List En) (i:Nat),(∀e∈L,iQ e.1)→(Bp k i L).length≤L.length∧∀p∈Bp k i L,(i:Int)≤p.1∧p.1<i+L.length∧p.2.length≤500
 |[],_,_=>⟨a8 _,fun p h=>by cases h⟩
 |e::L,i,hF=>by
  have hf:=hF e (bY ..);obtain⟨h1,h2⟩:=qL k L (i+1) (fun x hx=>hF x (cq _ hx));simp only[Bp,cv];rcases CE hf i k with h3|⟨t,ht,hk,h3⟩
  ·rw[show Bo i (o6 e) k=[]from h3];exact⟨by simpa using Nat.le_succ_of_le h1,fun p hp=>by have:=h2 p (by simpa using hp);exact⟨by omega,by omega,this.2.2⟩⟩
  ·rw[show Bo i (o6 e) k=_ from h3];refine⟨by simp;omega,fun p hp=>?_⟩;rcases dm.1 hp with rfl|hp
   ·exact⟨Int.le_refl _,by simp only;omega,(hf.pos t).2.2⟩
   ·have:=h2 p (by simpa using hp);exact⟨by omega,by omega,this.2.2⟩
theorem qM:∀(l:List Po) (last:Int) (m:Nat),-1≤last→dU last l=true→(∀p∈l,p.2.length≤m)→m≤1000000→(dz last l).length≤(18+9*m)*l.length∧gz l≤m*l.length
 |[],_,_,_,_,_,_=>⟨by simp[dz],by simp[gz]⟩
 |(d,ps)::l,last,m,h0,hm,hs,hmm=>by
  simp only[dU,bC,decide_eq_true_eq]at hm;obtain⟨⟨⟨⟨h1,h2⟩,h3⟩,h4⟩,h5⟩:=hm;obtain⟨h6,h7⟩:=lY.1 h4;have rN:=hs _ (bY ..);simp only at rN;obtain⟨i1,i2⟩:=qM l d m (by omega) h5 (fun p hp=>hs p (cq _ hp)) hmm;have a1:=sT ps (-1) (by omega) (fun x hx=>by have:=h7 x hx;omega) h6;have a3:=jt (n:=(d-last-1).toNat) (by omega);have a4:=jt (n:=ps.length) (by omega);have e1:9*ps.length≤9*m:=by omega
  constructor
  ·simp only[dz,dM,bM,cv,Nat.mul_add,Nat.mul_one];omega
  ·simp only[gz,iE,List.sum_cons,cv]at i2 ⊢;rw[Int.natCast_add,Int.mul_add];omega
theorem Gd {k:List UInt8}:∀{L:List En} (i:Nat),k∈gI L→Bp k i L≠[]
 |[],_,h=>by cases h
 |e::L,i,h=>by
  simp only[Bp];intro hn;obtain⟨h1,h2⟩:=List.append_eq_nil_iff.1 hn;have h:k∈(cD (o6 e)).map dd++gI L:=h;rcases cZ.1 h with h|h
  ·obtain⟨t,ht,rfl⟩:=cE.1 h;exact MA ht h1
  ·exact Gd (i+1) h h2
theorem CF {k:List UInt8}:∀{L:List En} (i:Nat),k∉gI L→Bp k i L=[]
 |[],_,_=>rfl
 |e::L,i,h=>by
  have h:k∉(cD (o6 e)).map dd++gI L:=h;rw[cZ,not_or]at h;simp only[Bp];rw[CF (i+1) h.2,sk];unfold Bo;rw[List.filter_eq_nil_iff.2 fun t ht=>by simp;intro e';exact h.1 (cE.2 ⟨t,ht,e'⟩)];rfl
end Go.K
namespace Go.K
def RT.ptr {α:Type} (A:RT α) (hn:0<A.n:=by decide):RT α where
 n:=1
 agg:=false
 R:=fun M w x vs=>∃b o us,vs=[.pointer (some ⟨b,o,none⟩)]∧¬M b∧A.R M w x us∧w.rangeAt b o us
 len:=by rintro _ _ x vs ⟨b,o,us,rfl,_⟩;rfl
 one:=by rintro _ _ x vs ⟨b,o,us,rfl,_⟩ v hv;simp at hv;subst hv;rfl
 le:=by
  rintro M w M' w' x vs hl ⟨b,o,us,h1,h2,h3,h4⟩;have hp:0<us.length:=by rw[A.len h3];exact hn
  have hc:=h4 0 (us[0]'hp) (aL hp);exact⟨b,o,us,h1,(hl b (World.block_lt_of_cell? w _ hc) h2).1,A.le hl h3,oJ hl h2 h4⟩
theorem CG {α:Type} {A:RT α} {hn:0<A.n} {M:az} {w:World} {x:α} {v:Value}:(A.ptr hn).V M w x v↔ch A M w v x:=
 ⟨fun⟨vs,⟨b,o,us,h1,h2,h3,h4⟩,h5⟩=>⟨b,o,us,by subst h1;exact h5,h2,h3,h4⟩,fun⟨b,o,us,h1,h2,h3,h4⟩=>⟨[v],⟨b,o,us,by rw[h1],h2,h3,h4⟩,rfl⟩⟩
abbrev Di:=List (List UInt8)×List Li
abbrev Se:=List Int×List Int×Di
abbrev RT.di:RT Di:=RT.pair (RT.str.sl) (((RT.li).ptr).sl)
abbrev RT.se:RT Se:=RT.pair ((RT.int .i64).sl) (RT.pair ((RT.int .i64).sl) ((RT.di).ptr))
theorem Tr:Part RT.di (RT.str.sl) (fun p=>p.1) 0:=kJ _ _
theorem di1:Part RT.di (((RT.li).ptr).sl) (fun p=>p.2) 1:=fO _ _
theorem se0:Part RT.se ((RT.int .i64).sl) (fun p=>p.1) 0:=kJ _ _
theorem se1:Part RT.se ((RT.int .i64).sl) (fun p=>p.2.1) 1:=(fO ((RT.int .i64).sl) (RT.pair ((RT.int .i64).sl) ((RT.di).ptr))).trans (kJ _ _)
theorem se2:Part RT.se ((RT.di).ptr) (fun p=>p.2.2) 2:=(fO ((RT.int .i64).sl) (RT.pair ((RT.int .i64).sl) ((RT.di).ptr))).trans (fO ((RT.int .i64).sl) ((RT.di).ptr))
abbrev Pa:=List Int×List Int×List (List UInt8)×List (List Po)
abbrev RT.pa:RT Pa:=RT.pair ((RT.int .i64).sl) (RT.pair ((RT.int .i64).sl) (RT.pair (RT.str.sl) (((RT.po).sl).sl)))
theorem pa0:Part RT.pa ((RT.int .i64).sl) (fun p=>p.1) 0:=kJ _ _
theorem Wg:Part RT.pa ((RT.int .i64).sl) (fun p=>p.2.1) 1:=(fO ((RT.int .i64).sl) (RT.pair ((RT.int .i64).sl) (RT.pair (RT.str.sl) (((RT.po).sl).sl)))).trans (kJ _ _)
theorem pa2:Part RT.pa (RT.str.sl) (fun p=>p.2.2.1) 2:=((fO ((RT.int .i64).sl) (RT.pair ((RT.int .i64).sl) (RT.pair (RT.str.sl) (((RT.po).sl).sl)))).trans (fO ((RT.int .i64).sl) (RT.pair (RT.str.sl) (((RT.po).sl).sl)))).trans (kJ _ _)
theorem pa3:Part RT.pa (((RT.po).sl).sl) (fun p=>p.2.2.2) 3:=((fO ((RT.int .i64).sl) (RT.pair ((RT.int .i64).sl) (RT.pair (RT.str.sl) (((RT.po).sl).sl)))).trans (fO ((RT.int .i64).sl) (RT.pair (RT.str.sl) (((RT.po).sl).sl)))).trans (fO _ _)
theorem Wh {M:az} {w:World} {x:Se} {a b c:Value} (h0:((RT.int .i64).sl).V M w x.1 a) (h1:((RT.int .i64).sl).V M w x.2.1 b) (h2:ch RT.di M w c x.2.2):RT.se.V M w x (.agg [a,b,c].toArray):=
 ⟨[a,b,c],⟨[a],[b,c],rfl,kn h0 rfl rfl,[b],[c],rfl,kn h1 rfl rfl,kn (CG.2 h2) rfl rfl⟩,rfl⟩
theorem Wi {M:az} {w:World} {x:Pa} {a b c d:Value} (h0:((RT.int .i64).sl).V M w x.1 a) (h1:((RT.int .i64).sl).V M w x.2.1 b) (h2:(RT.str.sl).V M w x.2.2.1 c) (h3:(((RT.po).sl).sl).V M w x.2.2.2 d):RT.pa.V M w x (.agg [a,b,c,d].toArray):=
 ⟨[a,b,c,d],⟨[a],[b,c,d],rfl,kn h0 rfl rfl,[b],[c,d],rfl,kn h1 rfl rfl,[c],[d],rfl,kn h2 rfl rfl,kn h3 rfl rfl⟩,rfl⟩
theorem Br {α:Type} {A:RT α} (hg:A.agg=true) {M:az} {w:World} {x:α} {vs:List Value} (h:A.V M w x (.agg vs.toArray)):∀u∈vs,u.oneCell'=true:=by
 obtain⟨us,h1,h2⟩:=h
 have:vs=us:=by
  unfold RT.val at h2;rw[if_pos hg]at h2;injection h2 with h2
  simpa using congrArg Array.toList h2
 subst this;exact A.one h1
theorem ey.free {α:Type} {A:RT α} (hA:∀M w M' w' x vs,A.R M w x vs→A.R M' w' x vs) {M M':az} {w w':World}:∀{xs:List α} {C:List Value},ey A M w xs C→ey A M' w' xs C
 |[],_,h=>h
 |x::xs,C,h=>by
  obtain⟨vs,r,h1,h2,h3⟩:=h;exact⟨vs,r,h1,hA _ _ _ _ _ _ h2,ey.free hA h3⟩
theorem Own.tell {α:Type} {A:RT α} {hn:0<A.n} (hA:∀M w M' w' x vs,A.R M w x vs→A.R M' w' x vs) {e:TypeId} {M M0:az} {w:World} {base:Nat} {v:Value} {xs:List α} (h:Own A e M w base v xs) (hb:∀b,v.ownBlock=some b→¬M0 b) (hlen:xs.length≤140737488355328):(A.sl hn).V M0 w xs v:=by
 obtain⟨⟨C,hr,ha⟩,hm⟩:=h;have h':Own A e (fun b=>v.ownBlock=some b∨M0 b) w base v xs:=⟨⟨C,hr,ey.free hA ha⟩,fun b hb=> .inl hb⟩;exact h'.sl (fun b _ hn=>⟨fun h=>hn (.inr h),rfl⟩) hb hlen
end Go.K
namespace Go.K
open Go.Maps (Keyed)
section
variable {P:Program} {r:Option Nat} {n:Nat} {L:Sl} {ds:List Deferred} {w:World} {K:Kt} {ops:Array Oper} {rest:List Oper} {d:Nat} {x y z:Operand} {ty:TypeId} {pos:String} {af:Array Edge}
variable {kt:TypeId} {M:az} {b clock:Nat} {es:List MapEntry}
theorem eD.MB (h:eD P kt w b es clock) {i s:Nat} {key v0 val:Value} (hi:es[i]? =some ⟨key,v0,s⟩) {w':World} (hw:w'.heap[b]? =some (.map (es.set i ⟨key,val,s⟩).toArray clock)):
  eD P kt w' b (es.set i ⟨key,val,s⟩) clock∧(es.set i ⟨key,val,s⟩).map (·.key)=es.map (·.key)∧∀zv gE v',dF zv (es.set i ⟨key,val,s⟩) gE v'↔(gE=key∧v'=val)∨(gE≠key∧dF zv es gE v'):=by
 have lS:=(au.1 hi).1;have lD:(⟨key,v0,s⟩:MapEntry)∈es:=aN hi;obtain⟨mB,qI⟩:∃mB,mB=es.set i ⟨key,val,s⟩:=⟨_,rfl⟩;rw[←qI]at hw ⊢
 have fL:∀j e',mB[j]? =some e'→(j=i∧e'=⟨key,val,s⟩)∨(j≠i∧es[j]? =some e'):=fun j e' hj=>by
  rw[qI,dN]at hj
  split at hj
  ·rename_i fZ
   left;exact⟨fZ.symm,by simpa[lS]using hj.symm⟩
  ·rename_i fZ
   exact .inr ⟨fun e=>fZ e.symm,hj⟩
 have mC:mB.map (·.key)=es.map (·.key):=by
  rw[qI,List.map_set];apply kH;intro j;rw[dN]
  split
  ·rename_i fZ
   subst fZ;have e:=(au.1 hi).2;simp[lS,e]
  ·rfl
 have FT:mB.map (·.born)=es.map (·.born):=by
  rw[qI,List.map_set];apply kH;intro j;rw[dN]
  split
  ·rename_i fZ
   subst fZ;have e:=(au.1 hi).2;simp[lS,e]
  ·rfl
 have ek:∀e'∈mB,(e'=⟨key,val,s⟩)∨(e'∈es∧e'.key≠key):=fun e' nA=>by
  obtain⟨j,hj⟩:=bN.1 nA;rcases fL j e' hj with⟨_,e⟩|⟨eK,qg⟩
  ·exact .inl e
  ·refine .inr ⟨aN qg,fun e=>eK ?_⟩;rcases iy j i with h1|h1|h1
   ·exact absurd e (fy h.keys qg hi h1)
   ·exact h1
   ·exact absurd e.symm (fy h.keys hi qg h1)
 have FU:(⟨key,val,s⟩:MapEntry)∈mB:=aN (i:=i) (by rw[qI,dN];simp[lS])
 have hold:∀e'∈es,e'.key≠key→e'∈mB:=fun e' nA eK=>by
  obtain⟨j,hj⟩:=bN.1 nA;refine aN (i:=j) ?_;rw[qI,dN,if_neg]
  ·exact hj
  ·rintro rfl;rw[hi]at hj;cases hj;exact eK rfl
 refine⟨⟨hw,?_,fun e' nA=>?_,?_,fun e' nA=>?_⟩,mC,fun zv gE v'=>?_⟩
 ·have:=dp.2 h.born;rw[←FT]at this;exact dp.1 this
 ·rcases ek e' nA with e|⟨h1,_⟩
  ·rw[e];exact(h.lt _ lD:s<clock)
  ·exact h.lt _ h1
 ·have:=dp.2 h.keys;rw[←mC]at this;exact dp.1 this
 ·rcases ek e' nA with e|⟨h1,_⟩
  ·rw[e];exact(h.ok _ lD:∃l,keyOf P kt key=some l)
  ·exact h.ok _ h1
 ·constructor
  ·rintro(⟨e',nA,hk,hv⟩|⟨h1,h2⟩)
   ·rcases ek e' nA with e|⟨h3,h4⟩
    ·subst e;exact .inl ⟨hk.symm,hv⟩
    ·exact .inr ⟨by rw[←hk];exact h4,.inl ⟨e',h3,hk,hv⟩⟩
   ·have eK:gE≠key:=fun e=>h1 _ FU e.symm
    exact .inr ⟨eK,.inr ⟨fun e' nA=>fun e=>by
     by_cases h5:e'.key=key
     ·exact eK (e.symm.trans h5)
     ·exact h1 e' (hold e' nA h5) e,h2⟩⟩
  ·rintro(⟨rfl,rfl⟩|⟨eK,⟨e',nA,hk,hv⟩|⟨h1,h2⟩⟩)
   ·exact .inl ⟨_,FU,rfl,rfl⟩
   ·exact .inl ⟨e',hold e' nA (by rw[hk];exact eK),hk,hv⟩
   ·exact .inr ⟨fun e' nA=>by
     rcases ek e' nA with e|⟨h3,_⟩
     ·rw[e];exact fun e=>eK e.symm
     ·exact h1 e' h3,h2⟩
theorem dF.put {key val:Value} {s:Nat} (hn:∀e∈es,e.key≠key) (zv gE v':Value):dF zv (es++[⟨key,val,s⟩]) gE v'↔(gE=key∧v'=val)∨(gE≠key∧dF zv es gE v'):=by
 constructor
 ·rintro(⟨e,he,hk,hv⟩|⟨h1,h2⟩)
  ·rcases cZ.1 he with he|he
   ·exact .inr ⟨by rw[←hk];exact hn e he,.inl ⟨e,he,hk,hv⟩⟩
   ·obtain rfl:=cn.1 he;exact .inl ⟨hk.symm,hv⟩
  ·exact .inr ⟨fun e=>h1 ⟨key,val,s⟩ (by simp) e.symm,.inr ⟨fun e he=>h1 e (kY _ he),h2⟩⟩
 ·rintro(⟨rfl,rfl⟩|⟨eK,⟨e,he,hk,hv⟩|⟨h1,h2⟩⟩)
  ·exact .inl ⟨⟨_,_,s⟩,by simp,rfl,rfl⟩
  ·exact .inl ⟨e,kY _ he,hk,hv⟩
  ·refine .inr ⟨fun e he=>?_,h2⟩;rcases cZ.1 he with he|he
   ·exact h1 e he
   ·obtain rfl:=cn.1 he;exact fun e=>eK e.symm
theorem Rg.IV {t e:TypeId} {key val:Value} {kl:Lit} (ht:P.underlying t=some (.map kt e)) (Kk:Keyed P kt) (hx:ev L x=some (.map (some b))) (hy:ev L y=some key) (hz:ev L z=some val) (jI:keyOf P kt key=some kl) (h:eD P kt w b es clock) (hm:M b)
  (k:∀w' mB Bc,eD P kt w' b mB Bc→((mB.map (·.key)=es.map (·.key)∧∃e∈es,e.key=key)∨(mB.map (·.key)=es.map (·.key)++[key]∧∀e∈es,e.key≠key))→(∀zv gE v',dF zv mB gE v'↔(gE=key∧v'=val)∨(gE≠key∧dF zv es gE v'))→Step M w M w' (fun k=>k=b)→Rg P r n ops rest L ds w' K):
  Rg P r n ops ({dst:=none,op:= .mapUpdate t x y z,type:=ty,pos,after:=af,guard:=none}::rest) L ds w K:=by
 have dy:=ak h.at_;rcases Kk.find w jI es h.ok with⟨h1,h2⟩|⟨j,e0,h1,h2,h3⟩
 ·have hw:({w with heap:=w.heap.setIfInBounds b (.map (es.toArray.push ⟨key,val,clock⟩) (clock+1))}:World).heap[b]? =some (.map (es++([⟨key,val,clock⟩]:List MapEntry)).toArray (clock+1)):=by
   simp[cJ,dy]
  refine .OH (fun _ h=>by cases h) rfl rfl _ (fun ρ hρ=>?_) (k _ _ _ (h.push jI h2 hw) (Or.inr ⟨by simp,h2⟩) (dF.put h2) (gB M hm));simp only[execOp,hρ x _ hx,hρ y _ hy,hρ z _ hz,Instr.mapUpdate,cQ,run_underlying ht,du,cW h.at_,Kk.check w false jI,h1,run_setObj_map h.at_];simp
 ·have he:e0∈es:=aN h2;obtain⟨k0,v0,s0⟩:=e0;simp only at h3;subst h3;have hj:es.toArray[j]? =some ⟨k0,v0,s0⟩:=by simpa using h2
  have FR:es.toArray.modify j (fun e=>{e with key:=k0,val:=val})=(es.set j ⟨k0,val,s0⟩).toArray:=by
   apply Array.ext_getElem?;intro i;rw[qd];simp only[j5,dN]
   split
   ·rename_i Qr
    subst Qr;have:=(au.1 h2).1;rw[h2];simp[this]
   ·rfl
  have hw:({w with heap:=w.heap.setIfInBounds b (.map (es.set j ⟨k0,val,s0⟩).toArray clock)}:World).heap[b]? =some (.map (es.set j ⟨k0,val,s0⟩).toArray clock):=by simp[cJ,dy]
  obtain⟨hW,og,gF⟩:=h.MB h2 hw
  have il:(Instr.keyThatStays ((Option.map (fun(e:MapEntry)=>e.key) es.toArray[j]?).getD k0) k0).run P w= .ok k0 w:=by
   rw[hj];simp only[fB,Option.getD_some];exact Kk.stays w jI
  refine .OH (fun _ h=>by cases h) rfl rfl _ (fun ρ hρ=>?_) (k _ _ clock hW (Or.inl ⟨og,_,he,rfl⟩) gF (gB M hm));simp only[execOp,hρ x _ hx,hρ y _ hy,hρ z _ hz,Instr.mapUpdate,cQ,run_underlying ht,du,cW h.at_,Kk.check w false jI,h1,il,FR,run_setObj_map h.at_];simp
theorem zF {t e:TypeId} {zv key:Value} {size bytes:Nat} {kl:Lit} (ht:P.underlying t=some (.map kt e)) (Kk:Keyed P kt) (hi:TI P e zv size bytes) (jI:keyOf P kt key=some kl) (h:eD P kt w b es clock):
  ∃v,dF zv es key v∧∀(w:World) (ρ:Operand→Value) (dst:Option Tmp) (gd:Option (Nat×Bool)),ρ x= .map (some b)→ρ y=key→eD P kt w b es clock→(execOp ρ {dst,op:= .lookup t x y false,type:=ty,pos,after:=af,guard:=gd}).run P w= .ok (.value v) w:=by
 rcases Kk.find w jI es h.ok with⟨h1,h2⟩|⟨j,e0,h1,h2,h3⟩
 ·refine⟨zv,Or.inr ⟨h2,rfl⟩,fun w ρ dst gd hx hy h=>?_⟩;obtain⟨inf,i1,i2,_,_⟩:=hi.get;have hz:(zeroValue e).run P w= .ok zv w:=by simp[zeroValue,typeInfo,i1,i2]
  rcases Kk.find w jI es h.ok with⟨h1,_⟩|⟨j,e0,_,g2,g3⟩
  ·simp only[execOp,hx,hy,Instr.lookup,cQ,run_underlying ht,du,cW h.at_,Sem.run_pure,Kk.check w _ jI,h1,hz];simp
  ·exact absurd g3 (h2 e0 (aN g2))
 ·refine⟨e0.val,Or.inl ⟨e0,aN h2,h3,rfl⟩,fun w ρ dst gd hx hy h=>?_⟩;rcases Kk.find w jI es h.ok with⟨_,g2⟩|⟨j',e1,g1,g2,g3⟩
  ·exact absurd h3 (g2 e0 (aN h2))
  ·have:e1=e0:=h.Cv (aN g2) (aN h2) (g3.trans h3.symm);subst this;simp only[execOp,hx,hy,Instr.lookup,cQ,run_underlying ht,du,cW h.at_,Sem.run_pure,Kk.check w _ jI,g1];simp
theorem bJ.pJ {N:az} {t e:TypeId} {zv key:Value} {size bytes:Nat} {kl:Lit} {dst:Option Tmp} {gd:Option (Nat×Bool)} (ht:P.underlying t=some (.map kt e)) (Kk:Keyed P kt) (hi:TI P e zv size bytes) (hx:ev L x=some (.map (some b))) (hy:ev L y=some key) (jI:keyOf P kt key=some kl) (h:eD P kt w b es clock) (hn: ¬N b):
  bJ P N w L {dst,op:= .lookup t x y false,type:=ty,pos,after:=af,guard:=gd}:=fun ρ hρ v w' hk hr=>by
 obtain⟨v0,_,fY⟩:=zF (x:=x) (y:=y) (ty:=ty) (pos:=pos) (af:=af) ht Kk hi jI h;have h':eD P kt w' b es clock:=⟨(hk.2 b (ak h.at_) hn).trans h.at_,h.born,h.lt,h.keys,h.ok⟩;rw[fY w ρ dst gd (hρ x _ hx) (hρ y _ hy) h]at hr;rw[fY w' ρ dst gd (hρ x _ hx) (hρ y _ hy) h'];injection hr with h1 h2
 rw[h1]
end
end Go.K
namespace Go.Proofs
open Go.Shelf
def Tryz.wg:Go.Shelf.Ren:=⟨fun|7=>62|10=>114|n=>n,fun|23=>100|26=>3|3=>109|28=>116|0=>0|27=>115|33=>158|4=>4|n=>n,fun|n=>n⟩
theorem Tryz.QG:Go.Proofs.SlLaysZI.n7 Tryz.prog Tryz.wg:={
 mixed:=by kernel_rfl
 f7:=⟨Tryz.f62.name,by decide,Tryz.func62.trans (congrArg some (by kernel_rfl))⟩
 f10:=⟨Tryz.f114.name,by decide,Tryz.func114.trans (congrArg some (by kernel_rfl))⟩
 t0:=gX
 a0:=sf
 z0:=oC
 v0:=iW
 t4:=jO
 a4:=Tryz.isAgg4
 z4:=Tryz.sizeOf4
 v4:=o8
 t23:=Tryz.underlying100
 a23:=Tryz.isAgg100
 z23:=Tryz.sizeOf100
 v23:=Tryz.zeroValue100
 t26:=ar
 a26:=sh
 z26:=oD
 v26:=iX
 t27:=Tryz.underlying115
 a27:=Tryz.isAgg115
 z27:=Tryz.sizeOf115
 v27:=Tryz.zeroValue115
 t28:=Tryz.underlying116
 a28:=Tryz.isAgg116
 z28:=Tryz.sizeOf116
 v28:=Tryz.zeroValue116
 t33:=Tryz.underlying158
 a33:=Tryz.isAgg158
 z33:=Tryz.sizeOf158
 v33:=Tryz.zeroValue158}
def Tryz.rA:Go.Shelf.Ren:=⟨fun|6=>61|8=>71|9=>113|11=>121|13=>166|12=>165|23=>210|24=>211|14=>202|15=>203|16=>204|17=>205|18=>206|19=>207|20=>118|21=>208|22=>209|25=>245|26=>246|27=>247|28=>248|29=>249|30=>168|31=>273|n=>n,fun|26=>3|28=>116|24=>32|0=>0|3=>3|37=>183|48=>273|50=>165|4=>4|40=>267|39=>266|45=>121|5=>5|9=>9|51=>295|55=>299|57=>327|58=>305|33=>158|n=>n,fun|n=>n⟩
theorem Tryz.IW:Go.Proofs.SlLaysZI.n6 Tryz.prog Tryz.rA:={
 mixed:=by kernel_rfl
 f6:=⟨Tryz.f61.name,by decide,Tryz.func61.trans (congrArg some (by kernel_rfl))⟩
 f8:=⟨Tryz.f71.name,by decide,Tryz.func71.trans (congrArg some (by kernel_rfl))⟩
 f11:=⟨Tryz.f121.name,by decide,Tryz.func121.trans (congrArg some (by kernel_rfl))⟩
 t0:=gX
 a0:=sf
 z0:=oC
 v0:=iW
 t24:=av
 a24:=Tryz.isAgg32
 z24:=Tryz.sizeOf32
 v24:=Tryz.zeroValue32
 t26:=ar
 a26:=sh
 z26:=oD
 v26:=iX
 t28:=Tryz.underlying116
 a28:=Tryz.isAgg116
 z28:=Tryz.sizeOf116
 v28:=Tryz.zeroValue116
 i26:=by kernel_rfl}
def Tryz.DF:Go.Shelf.Ren:=⟨fun|5=>113|8=>166|7=>165|19=>210|20=>211|10=>202|11=>203|12=>204|13=>205|14=>206|15=>207|16=>118|17=>208|18=>209|30=>245|31=>246|32=>247|33=>248|34=>249|35=>168|40=>273|n=>n,fun|23=>32|25=>3|3=>3|32=>183|22=>32|0=>0|44=>273|46=>165|4=>4|36=>267|35=>266|41=>121|5=>5|9=>9|53=>295|57=>299|63=>327|64=>305|n=>n,fun|n=>n⟩
theorem Tryz.Kh:Go.Proofs.SlLaysM.n5 Tryz.prog Tryz.DF:={
 mixed:=by kernel_rfl
 f5:=⟨Tryz.f113.name,by decide,Tryz.func113.trans (congrArg some (by kernel_rfl))⟩
 f7:=⟨Tryz.f165.name,by decide,Tryz.func165.trans (congrArg some (by kernel_rfl))⟩
 f8:=Tryz.func166.trans (congrArg some (by kernel_rfl))
 f10:=⟨Tryz.f202.name,by decide,Tryz.func202.trans (congrArg some (by kernel_rfl))⟩
 f11:=⟨Tryz.f203.name,by decide,Tryz.func203.trans (congrArg some (by kernel_rfl))⟩
 f12:=⟨Tryz.f204.name,by decide,Tryz.func204.trans (congrArg some (by kernel_rfl))⟩
 f13:=⟨Tryz.f205.name,by decide,Tryz.func205.trans (congrArg some (by kernel_rfl))⟩
 f14:=⟨Tryz.f206.name,by decide,Tryz.func206.trans (congrArg some (by kernel_rfl))⟩
 f15:=⟨Tryz.f207.name,by decide,Tryz.func207.trans (congrArg some (by kernel_rfl))⟩
 f16:=⟨Tryz.f118.name,by decide,Tryz.func118.trans (congrArg some (by kernel_rfl))⟩
 f17:=⟨Tryz.f208.name,by decide,Tryz.func208.trans (congrArg some (by kernel_rfl))⟩
 f18:=⟨Tryz.f209.name,by decide,Tryz.func209.trans (congrArg some (by kernel_rfl))⟩
 f19:=Tryz.func210.trans (congrArg some (by kernel_rfl))
 f20:=Tryz.func211.trans (congrArg some (by kernel_rfl))
 f30:=⟨Tryz.f245.name,by decide,Tryz.func245.trans (congrArg some (by kernel_rfl))⟩
 f31:=Tryz.func246.trans (congrArg some (by kernel_rfl))
 f32:=Tryz.func247.trans (congrArg some (by kernel_rfl))
 f33:=⟨Tryz.f248.name,by decide,Tryz.func248.trans (congrArg some (by kernel_rfl))⟩
 f34:=⟨Tryz.f249.name,by decide,Tryz.func249.trans (congrArg some (by kernel_rfl))⟩
 f35:=⟨Tryz.f168.name,by decide,Tryz.func168.trans (congrArg some (by kernel_rfl))⟩
 f40:=⟨Tryz.f273.name,by decide,Tryz.func273.trans (congrArg some (by kernel_rfl))⟩
 t0:=gX
 a0:=sf
 z0:=oC
 v0:=iW
 t3:=ar
 a3:=sh
 z3:=oD
 v3:=iX
 t4:=jO
 a4:=Tryz.isAgg4
 z4:=Tryz.sizeOf4
 v4:=o8
 t5:=bZ
 a5:=Tryz.isAgg5
 z5:=Tryz.sizeOf5
 v5:=Tryz.zeroValue5
 t9:=aD
 a9:=si
 z9:=oE
 v9:=iY
 t22:=av
 a22:=Tryz.isAgg32
 z22:=Tryz.sizeOf32
 v22:=Tryz.zeroValue32
 t23:=av
 a23:=Tryz.isAgg32
 z23:=Tryz.sizeOf32
 v23:=Tryz.zeroValue32
 t25:=ar
 a25:=sh
 z25:=oD
 v25:=iX
 t32:=oF
 a32:=Tryz.isAgg183
 z32:=Tryz.sizeOf183
 v32:=Tryz.zeroValue183
 t35:=Tryz.underlying266
 a35:=Tryz.isAgg266
 z35:=Tryz.sizeOf266
 v35:=Tryz.zeroValue266
 t36:=Tryz.underlying267
 a36:=Tryz.isAgg267
 z36:=Tryz.sizeOf267
 v36:=Tryz.zeroValue267
 t41:=Tryz.underlying121
 a41:=Tryz.isAgg121
 z41:=Tryz.sizeOf121
 v41:=Tryz.zeroValue121
 t44:=Tryz.underlying273
 a44:=Tryz.isAgg273
 z44:=Tryz.sizeOf273
 v44:=Tryz.zeroValue273
 t46:=j7
 a46:=Tryz.isAgg165
 z46:=Tryz.sizeOf165
 v46:=Tryz.zeroValue165
 t53:=Tryz.underlying295
 a53:=Tryz.isAgg295
 z53:=Tryz.sizeOf295
 v53:=Tryz.zeroValue295
 t57:=Tryz.underlying299
 a57:=Tryz.isAgg299
 z57:=Tryz.sizeOf299
 v57:=Tryz.zeroValue299
 t63:=Tryz.underlying327
 a63:=Tryz.isAgg327
 z63:=Tryz.sizeOf327
 v63:=Tryz.zeroValue327
 t64:=Tryz.underlying305
 a64:=Tryz.isAgg305
 z64:=Tryz.sizeOf305
 v64:=Tryz.zeroValue305}
def Tryz.wh:Go.Shelf.Ren:=⟨fun|7=>112|10=>164|n=>n,fun|23=>167|26=>9|3=>107|28=>178|0=>0|27=>177|33=>182|4=>4|n=>n,fun|n=>n⟩
theorem Tryz.CH:Go.Proofs.SlLaysZ.n7 Tryz.prog Tryz.wh:={
 mixed:=by kernel_rfl
 f7:=⟨Tryz.f112.name,by decide,Tryz.func112.trans (congrArg some (by kernel_rfl))⟩
 f10:=⟨Tryz.f164.name,by decide,Tryz.func164.trans (congrArg some (by kernel_rfl))⟩
 t0:=gX
 a0:=sf
 z0:=oC
 v0:=iW
 t4:=jO
 a4:=Tryz.isAgg4
 z4:=Tryz.sizeOf4
 v4:=o8
 t23:=fT
 a23:=Tryz.isAgg167
 z23:=Tryz.sizeOf167
 v23:=Tryz.zeroValue167
 t26:=aD
 a26:=si
 z26:=oE
 v26:=iY
 t27:=Tryz.underlying177
 a27:=Tryz.isAgg177
 z27:=Tryz.sizeOf177
 v27:=Tryz.zeroValue177
 t28:=Tryz.underlying178
 a28:=Tryz.isAgg178
 z28:=Tryz.sizeOf178
 v28:=Tryz.zeroValue178
 t33:=Tryz.underlying182
 a33:=Tryz.isAgg182
 z33:=Tryz.sizeOf182
 v33:=Tryz.zeroValue182}
def Tryz.rB:Go.Shelf.Ren:=⟨fun|6=>111|8=>162|9=>163|11=>200|13=>166|12=>201|23=>210|24=>211|14=>236|15=>237|16=>238|17=>239|18=>240|19=>241|20=>242|21=>243|22=>244|25=>269|26=>246|27=>247|28=>270|29=>271|30=>272|31=>284|n=>n,fun|26=>9|28=>178|24=>55|0=>0|3=>3|37=>183|48=>273|50=>165|4=>4|40=>267|39=>266|45=>121|5=>5|9=>9|51=>295|55=>299|57=>327|58=>305|33=>182|n=>n,fun|n=>n⟩
theorem Tryz.IX:Go.Proofs.SlLaysZ.n6 Tryz.prog Tryz.rB:={
 mixed:=by kernel_rfl
 f6:=⟨Tryz.f111.name,by decide,Tryz.func111.trans (congrArg some (by kernel_rfl))⟩
 f8:=⟨Tryz.f162.name,by decide,Tryz.func162.trans (congrArg some (by kernel_rfl))⟩
 f11:=⟨Tryz.f200.name,by decide,Tryz.func200.trans (congrArg some (by kernel_rfl))⟩
 t0:=gX
 a0:=sf
 z0:=oC
 v0:=iW
 t24:=bh
 a24:=Tryz.isAgg55
 z24:=Tryz.sizeOf55
 v24:=Tryz.zeroValue55
 t26:=aD
 a26:=si
 z26:=oE
 v26:=iY
 t28:=Tryz.underlying178
 a28:=Tryz.isAgg178
 z28:=Tryz.sizeOf178
 v28:=Tryz.zeroValue178
 i26:=by kernel_rfl}
def Tryz.DG:Go.Shelf.Ren:=⟨fun|6=>163|8=>166|9=>201|19=>210|20=>211|21=>236|22=>237|23=>238|24=>239|25=>240|26=>241|27=>242|28=>243|29=>244|36=>269|31=>246|32=>247|37=>270|38=>271|39=>272|41=>284|n=>n,fun|27=>55|29=>9|3=>3|32=>183|26=>55|0=>0|44=>273|46=>165|4=>4|36=>267|35=>266|41=>121|5=>5|9=>9|53=>295|57=>299|63=>327|64=>305|n=>n,fun|n=>n⟩
theorem Tryz.Ki:Go.Proofs.SlLaysM.n6 Tryz.prog Tryz.DG:={
 mixed:=by kernel_rfl
 f6:=⟨Tryz.f163.name,by decide,Tryz.func163.trans (congrArg some (by kernel_rfl))⟩
 f8:=Tryz.func166.trans (congrArg some (by kernel_rfl))
 f9:=⟨Tryz.f201.name,by decide,Tryz.func201.trans (congrArg some (by kernel_rfl))⟩
 f19:=Tryz.func210.trans (congrArg some (by kernel_rfl))
 f20:=Tryz.func211.trans (congrArg some (by kernel_rfl))
 f21:=⟨Tryz.f236.name,by decide,Tryz.func236.trans (congrArg some (by kernel_rfl))⟩
 f22:=⟨Tryz.f237.name,by decide,Tryz.func237.trans (congrArg some (by kernel_rfl))⟩
 f23:=⟨Tryz.f238.name,by decide,Tryz.func238.trans (congrArg some (by kernel_rfl))⟩
 f24:=⟨Tryz.f239.name,by decide,Tryz.func239.trans (congrArg some (by kernel_rfl))⟩
 f25:=⟨Tryz.f240.name,by decide,Tryz.func240.trans (congrArg some (by kernel_rfl))⟩
 f26:=⟨Tryz.f241.name,by decide,Tryz.func241.trans (congrArg some (by kernel_rfl))⟩
 f27:=⟨Tryz.f242.name,by decide,Tryz.func242.trans (congrArg some (by kernel_rfl))⟩
 f28:=⟨Tryz.f243.name,by decide,Tryz.func243.trans (congrArg some (by kernel_rfl))⟩
 f29:=⟨Tryz.f244.name,by decide,Tryz.func244.trans (congrArg some (by kernel_rfl))⟩
 f31:=Tryz.func246.trans (congrArg some (by kernel_rfl))
 f32:=Tryz.func247.trans (congrArg some (by kernel_rfl))
 f36:=⟨Tryz.f269.name,by decide,Tryz.func269.trans (congrArg some (by kernel_rfl))⟩
 f37:=⟨Tryz.f270.name,by decide,Tryz.func270.trans (congrArg some (by kernel_rfl))⟩
 f38:=⟨Tryz.f271.name,by decide,Tryz.func271.trans (congrArg some (by kernel_rfl))⟩
 f39:=⟨Tryz.f272.name,by decide,Tryz.func272.trans (congrArg some (by kernel_rfl))⟩
 f41:=⟨Tryz.f284.name,by decide,Tryz.func284.trans (congrArg some (by kernel_rfl))⟩
 t0:=gX
 a0:=sf
 z0:=oC
 v0:=iW
 t3:=ar
 a3:=sh
 z3:=oD
 v3:=iX
 t4:=jO
 a4:=Tryz.isAgg4
 z4:=Tryz.sizeOf4
 v4:=o8
 t5:=bZ
 a5:=Tryz.isAgg5
 z5:=Tryz.sizeOf5
 v5:=Tryz.zeroValue5
 t9:=aD
 a9:=si
 z9:=oE
 v9:=iY
 t26:=bh
 a26:=Tryz.isAgg55
 z26:=Tryz.sizeOf55
 v26:=Tryz.zeroValue55
 t27:=bh
 a27:=Tryz.isAgg55
 z27:=Tryz.sizeOf55
 v27:=Tryz.zeroValue55
 t29:=aD
 a29:=si
 z29:=oE
 v29:=iY
 t32:=oF
 a32:=Tryz.isAgg183
 z32:=Tryz.sizeOf183
 v32:=Tryz.zeroValue183
 t35:=Tryz.underlying266
 a35:=Tryz.isAgg266
 z35:=Tryz.sizeOf266
 v35:=Tryz.zeroValue266
 t36:=Tryz.underlying267
 a36:=Tryz.isAgg267
 z36:=Tryz.sizeOf267
 v36:=Tryz.zeroValue267
 t41:=Tryz.underlying121
 a41:=Tryz.isAgg121
 z41:=Tryz.sizeOf121
 v41:=Tryz.zeroValue121
 t44:=Tryz.underlying273
 a44:=Tryz.isAgg273
 z44:=Tryz.sizeOf273
 v44:=Tryz.zeroValue273
 t46:=j7
 a46:=Tryz.isAgg165
 z46:=Tryz.sizeOf165
 v46:=Tryz.zeroValue165
 t53:=Tryz.underlying295
 a53:=Tryz.isAgg295
 z53:=Tryz.sizeOf295
 v53:=Tryz.zeroValue295
 t57:=Tryz.underlying299
 a57:=Tryz.isAgg299
 z57:=Tryz.sizeOf299
 v57:=Tryz.zeroValue299
 t63:=Tryz.underlying327
 a63:=Tryz.isAgg327
 z63:=Tryz.sizeOf327
 v63:=Tryz.zeroValue327
 t64:=Tryz.underlying305
 a64:=Tryz.isAgg305
 z64:=Tryz.sizeOf305
 v64:=Tryz.zeroValue305}
end Go.Proofs
namespace Go.K
open Go.Proofs
set_option maxRecDepth 10000
open Go.RowKit Go.Maps Go.Sort Go.Shelf
theorem MC (m:Nat):AnyZI.SortsIn Tryz.prog Tryz.rA Fence.wide m:=
 ⟨fun jb off cap ss W hH hblk jx=>callsIn_wide.2 (AnyM.slices_Sort_int Tryz.Kh jb off cap ss W hH hblk jx),
  fun p cap W=>callsIn_wide.2 (AnyM.slices_Sort_int_none Tryz.Kh p cap W)⟩
theorem IY {R:Value→Option (DU×List MemPlace)} {M:az} {w:World} {b bb:Nat} {m:List (Lit×DU)} (h:Lu Tryz.prog 3 R M w b m) (Kj:w.cell? ⟨bb,0,none⟩=some (.map (some b))) (hl:m.length≤1099511627776):
  Spec Tryz.prog 61 #[.func (.func 114) #[] #[.pointer (some ⟨bb,0,none⟩)]] w (fun v w'=>(∃ss:List Int,ss.Perm (intKeys (DataW.map m))∧w'.ownsRow w.heap.size 3 1 v ss.length ((ss.mergeSort (fun x y=>decide (x≤y))).map encZ)∧(v= .slice none 0 0↔ss=[]))∧Step M w M w' aA):=by
 have MD:SeqGives Fence.wide 2 Tryz.prog 114 #[.pointer (some ⟨bb,0,none⟩)] encZ (fun ss=>ss.Perm (intKeys (DataW.map m))) (Maps.size (DataW.map m)) w:=
  AnyZI.keys_gives (ρ:=Tryz.wg) {Tryz.QG with} Fence.wide _ trivial rfl (by omega) bb b m.length (DataW.map m) _ (World.block_lt_of_cell? w _ Kj) Kj h.own
 have jx:Maps.size (DataW.map m)=m.length:=rfl;have cS:=AnyZI.sorted_in Tryz.IW Fence.wide 5 trivial trivial trivial trivial rfl (by omega) (MC _) (enters_of Tryz.func113 (by kernel_rfl) rfl) 114 #[.pointer (some ⟨bb,0,none⟩)] trivial (enters_of Tryz.func114 (by kernel_rfl) rfl) _ _ (by rw[jx];unfold maxLen;omega) (by rw[jx];omega) _ MD;exact(callsIn_wide (n:=5)).1 (cS.mono fun e w' ⟨v,ss,h1,h2,h3,h4,h5⟩=>⟨v,h1,⟨ss,h2,h3,h4⟩,.tc h5 M⟩)
theorem ME (m:Nat):AnyZ.SortsIn Tryz.prog Tryz.rB Fence.wide m:=
 ⟨fun jb off cap ss W hH hblk jx=>callsIn_wide.2 (AnyM.slices_Sort_string Tryz.Ki jb off cap ss W hH hblk jx),
  fun p cap W=>callsIn_wide.2 (AnyM.slices_Sort_string_none Tryz.Ki p cap W)⟩
theorem Bs (mb:Option Nat) (w:World):Spec Tryz.prog 112 #[.map mb] w (fun v w'=>v= .func (.func 164) #[] #[.pointer (some ⟨w.heap.size,0,none⟩)]∧w'=w.alloc (.cells #[.map mb] 167)):=
 (callsIn_wide (n:=5)).1 ((AnyZ.keys_in Tryz.CH Fence.wide 5 trivial rfl mb w).mono fun e w' ⟨h1,h2⟩=>⟨_,h1,rfl,h2⟩)
theorem xQ {R:Value→Option (DU×List MemPlace)} {M:az} {w:World} {b bb:Nat} {m:List (Lit×DU)} (h:Lu Tryz.prog 9 R M w b m) (Kj:w.cell? ⟨bb,0,none⟩=some (.map (some b))) (hl:m.length≤1099511627776):
  Spec Tryz.prog 111 #[.func (.func 164) #[] #[.pointer (some ⟨bb,0,none⟩)]] w (fun v w'=>(∃ss:List (List UInt8),ss.Perm (strKeys (DataW.map m))∧w'.ownsRow w.heap.size 9 1 v ss.length ((ss.mergeSort (fun x y=>decide (x≤y))).map encStr)∧(v= .slice none 0 0↔ss=[]))∧Step M w M w' aA):=by
 have MD:SeqGives Fence.wide 2 Tryz.prog 164 #[.pointer (some ⟨bb,0,none⟩)] encStr (fun ss=>ss.Perm (strKeys (DataW.map m))) (Maps.size (DataW.map m)) w:=
  AnyZ.keys_gives (ρ:=Tryz.wh) {Tryz.CH with} Fence.wide _ trivial rfl (by omega) bb b m.length (DataW.map m) _ (World.block_lt_of_cell? w _ Kj) Kj h.own
 have jx:Maps.size (DataW.map m)=m.length:=rfl;have cS:=AnyZ.sorted_in Tryz.IX Fence.wide 5 trivial trivial trivial trivial rfl (by omega) (ME _) (enters_of Tryz.func163 (by kernel_rfl) rfl) 164 #[.pointer (some ⟨bb,0,none⟩)] trivial (enters_of Tryz.func164 (by kernel_rfl) rfl) _ _ (by rw[jx];unfold maxLen;omega) (by rw[jx];omega) _ MD;exact(callsIn_wide (n:=5)).1 (cS.mono fun e w' ⟨v,ss,h1,h2,h3,h4,h5⟩=>⟨v,h1,⟨ss,h2,h3,h4⟩,.tc h5 M⟩)
theorem vg {w w':World} {v:Value} {t:TypeId} (h:w'=w.alloc (.cells #[v] t)):w'.cell? ⟨w.heap.size,0,none⟩=some v:=by
 subst h;exact gS (cu w _) rfl
end Go.K
namespace Go.K
open Go.Proofs
set_option maxRecDepth 10000
theorem IZ {M:az} {w0:World} {v:Value} {b:List Fd} (hM:Lt M w0) (hv:(RT.fd.sl).V M w0 b v) (zG:b.length≤1099511627776):
  Spec Tryz.prog 199 #[v] w0 (fun v' w'=>(RT.fd.sl).V M w' b v'∧Step M w0 M w' aA):=by
 obtain⟨a,cap,tQ,hc,hl,hs⟩:=gH.1 hv;refine aW (args:=[_]) (fn:=Tryz.f199) Tryz.func199 rfl (n:=8) Tryz.ntmps199 (aj (ah (ai rfl rfl (ad (aj (aj (ah (ae rfl rfl (bp (v':= .slice a b.length cap) tQ (Rg.pv aV rfl rfl rfl (ad ?_)))))))))));refine bF rfl (fun c1=>?_) (fun c1=>?_)
 ·refine aj (ah (ai rfl rfl (ad (aH ?_))))
  have hb:b=[]:=by
   rcases hs with h|⟨_,_,h,_⟩
   ·exact h
   ·rw[c1]at h;cases h
  exact aP rfl rfl ⟨by rw[hb];exact jK,an _ _⟩
 ·refine aU (aj (ah ?_));refine Rg.O7 aV iB M rfl (fun a0 w1 s1=>?_);refine ae rfl rfl ?_;refine Rg.ly (A:=RT.fd) (hn:=by decide) (M:=M) aV iB rfl rfl rfl rfl hv s1.le (s1.lt hM) (by omega) (fun u2 w2 qt s2=>?_);refine ai rfl rfl (ad (aH ?_));exact aP rfl rfl ⟨qt,s1.ax s2⟩
theorem tR {M:az} {w0:World} {v:Value} {b:List Int} (hM:Lt M w0) (hv:((RT.int .i64).sl).V M w0 b v) (zG:b.length≤1099511627776):
  Spec Tryz.prog 63 #[v] w0 (fun v' w'=>((RT.int .i64).sl).V M w' b v'∧Step M w0 M w' aA):=by
 obtain⟨a,cap,tQ,hc,hl,hs⟩:=gH.1 hv;refine aW (args:=[_]) (fn:=Tryz.f63) Tryz.func63 rfl (n:=8) Tryz.ntmps63 (aj (ah (ai rfl rfl (ad (aj (aj (ah (ae rfl rfl (bp (v':= .slice a b.length cap) tQ (Rg.pv av rfl rfl rfl (ad ?_)))))))))));refine bF rfl (fun c1=>?_) (fun c1=>?_)
 ·refine aj (ah (ai rfl rfl (ad (aH ?_))))
  have hb:b=[]:=by
   rcases hs with h|⟨_,_,h,_⟩
   ·exact h
   ·rw[c1]at h;cases h
  exact aP rfl rfl ⟨by rw[hb];exact jK,an _ _⟩
 ·refine aU (aj (ah ?_));refine Rg.O7 av I3 M rfl (fun a0 w1 s1=>?_);refine ae rfl rfl ?_;refine Rg.ly (A:=(RT.int .i64)) (hn:=by decide) (M:=M) av I3 rfl rfl rfl rfl hv s1.le (s1.lt hM) (by omega) (fun u2 w2 qt s2=>?_);refine ai rfl rfl (ad (aH ?_));exact aP rfl rfl ⟨qt,s1.ax s2⟩
theorem Ge {M:az} {w0:World} {v:Value} {b:List (List UInt8)} (hM:Lt M w0) (hv:(RT.str.sl).V M w0 b v) (zG:b.length≤1099511627776):
  Spec Tryz.prog 177 #[v] w0 (fun v' w'=>(RT.str.sl).V M w' b v'∧Step M w0 M w' aA):=by
 obtain⟨a,cap,tQ,hc,hl,hs⟩:=gH.1 hv;refine aW (args:=[_]) (fn:=Tryz.f177) Tryz.func177 rfl (n:=8) Tryz.ntmps177 (aj (ah (ai rfl rfl (ad (aj (aj (ah (ae rfl rfl (bp (v':= .slice a b.length cap) tQ (Rg.pv bh rfl rfl rfl (ad ?_)))))))))));refine bF rfl (fun c1=>?_) (fun c1=>?_)
 ·refine aj (ah (ai rfl rfl (ad (aH ?_))))
  have hb:b=[]:=by
   rcases hs with h|⟨_,_,h,_⟩
   ·exact h
   ·rw[c1]at h;cases h
  exact aP rfl rfl ⟨by rw[hb];exact jK,an _ _⟩
 ·refine aU (aj (ah ?_));refine Rg.O7 bh I9 M rfl (fun a0 w1 s1=>?_);refine ae rfl rfl ?_;refine Rg.ly (A:=RT.str) (hn:=by decide) (M:=M) bh I9 rfl rfl rfl rfl hv s1.le (s1.lt hM) (by omega) (fun u2 w2 qt s2=>?_);refine ai rfl rfl (ad (aH ?_));exact aP rfl rfl ⟨qt,s1.ax s2⟩
theorem I0 {M:az} {w0:World} {v:Value} {b:List Li} (hM:Lt M w0) (hv:(((RT.li).ptr).sl).V M w0 b v) (zG:b.length≤1099511627776):
  Spec Tryz.prog 178 #[v] w0 (fun v' w'=>(((RT.li).ptr).sl).V M w' b v'∧Step M w0 M w' aA):=by
 obtain⟨a,cap,tQ,hc,hl,hs⟩:=gH.1 hv;refine aW (args:=[_]) (fn:=Tryz.f178) Tryz.func178 rfl (n:=8) Tryz.ntmps178 (aj (ah (ai rfl rfl (ad (aj (aj (ah (ae rfl rfl (bp (v':= .slice a b.length cap) tQ (Rg.pv dS rfl rfl rfl (ad ?_)))))))))));refine bF rfl (fun c1=>?_) (fun c1=>?_)
 ·refine aj (ah (ai rfl rfl (ad (aH ?_))))
  have hb:b=[]:=by
   rcases hs with h|⟨_,_,h,_⟩
   ·exact h
   ·rw[c1]at h;cases h
  exact aP rfl rfl ⟨by rw[hb];exact jK,an _ _⟩
 ·refine aU (aj (ah ?_));refine Rg.O7 dS oR M rfl (fun a0 w1 s1=>?_);refine ae rfl rfl ?_;refine Rg.ly (A:=((RT.li).ptr)) (hn:=by decide) (M:=M) dS oR rfl rfl rfl rfl hv s1.le (s1.lt hM) (by omega) (fun u2 w2 qt s2=>?_);refine ai rfl rfl (ad (aH ?_));exact aP rfl rfl ⟨qt,s1.ax s2⟩
theorem zH {M:az} {d:Dc} {v0:Value} (w0:World) (hM:Lt M w0) (hv:RT.dc.V M w0 d v0) (hl:d.2.length≤1099511627776):
  Spec Tryz.prog 160 #[v0] w0 (fun v w=>RT.dc.V M w d v∧Step M w0 M w aA):=by
 have ku:=hM;refine aW (args:=[_]) (fn:=Tryz.f160) Tryz.func160 rfl (n:=9) Tryz.ntmps160 ?_;have S:Step M w0 M w0 aA:=(an _ _).ca (fun _ h=>h.elim) (fun _ h=>h.elim);refine aj (ah ?_);refine jB (A:=RT.dc) rfl rfl hM hv rfl (fun u0 w1 cA s0 _=>?_);replace hM:=s0.lt hM;have:=S.size;replace S:=S.ax s0;refine ff M k5 rfl (fun l7 A8 Md Me eS k8=>?_);obtain⟨ej,kz⟩:∃M',M'=ins M l7:=⟨_,rfl⟩;rw[←kz]at k8;have dY:ej l7:=by rw[kz];exact .inl rfl
 change A8.heap[l7]? =some (.cells #[.int .i64 0,.slice none 0 0] _ _)at eS;replace cA:=cA.le (by decide) k8.le;replace hM:=k8.lt hM;have:=S.size;replace S:=S.ax k8;refine ad (aj ?_);apply T.oh 4 [0,1] 1 aA mixed rfl rfl rfl rfl;intro Cn Dp;have hY:=Dp ej;have:=ak eS;replace dY:=(hY.mem _ this).2 dY;replace eS:=hY.aG eS;replace cA:=cA.le (by decide) hY.le;replace hM:=hY.lt hM;have:=S.size;replace S:=S.ax hY;refine aJ (M:=ej) (A:=RT.dc) (B:=RT.int .i64) aO rfl rfl I3 (by decide) (P2) rfl rfl (by decide) (by assumption) (by repeat (first|exact aq _ _|refine aT (a7 (by assumption)) ?_)) (fun uQ jN=>?_);refine ad ⟨rfl,rfl,rfl,?_⟩;refine cd (M:=ej) ar rfl rfl (by assumption) (by repeat (first|exact aq _ _|refine aT (a7 (by assumption)) ?_)) (fun Kb=>?_);refine ad ⟨rfl,rfl,rfl,?_⟩;refine aJ (M:=ej) (A:=RT.dc) (B:=(RT.fd).sl) aO rfl rfl qC (by decide) (Dt) rfl rfl (by decide) (by assumption) (by repeat (first|exact aq _ _|refine aT (a7 (by assumption)) ?_)) (fun I1 tS=>?_);refine ad ⟨rfl,rfl,rfl,?_⟩;refine cg (M:=ej) aV rfl rfl rfl rfl rfl (by assumption) (by repeat (first|exact aq _ _|refine aT (a7 (by assumption)) ?_)) (fun QH Gf=>?_);refine ad ⟨rfl,rfl,rfl,?_⟩;refine fE ?_;obtain⟨bb,oo,cs,ee,fr,rfl,lv,_⟩:=jN.float;refine⟨jP ⟨gq aO rfl I3 (by decide),⟨ep rfl lv (fun h=>h),trivial⟩⟩,?_⟩;have kp:=jw aA Cn;refine aM rfl rfl UK (IZ hM Gf hl) (fun v4 w4 hc=>?_);obtain⟨qH,s4⟩:=hc;have:=ak eS;replace dY:=(s4.mem _ this).2 dY;replace eS:=s4.aG eS;replace cA:=cA.le (by decide) s4.le;replace hM:=s4.lt hM;have:=S.size;replace S:=S.ax s4;refine(fun(kp:dR _ _ _)=>ad ⟨rfl,rfl,fun _=>kp,?_⟩) (by first|exact kp|exact kp.qu (by assumption)|exact kp.goN (by assumption)|exact kp.go (by assumption) (fun _ _ h=>by first|exact h|exact h.elim))
 refine dX (places:=[(0,1),(1,1)]) aO k5 Ph rfl ⟨_,_,rfl,rfl,_,_,rfl,rfl,rfl⟩ (out:=[_,_]) ⟨0,[_],rfl,rfl,by simp[Value.cells],1,[_],rfl,iI qH,by simp[Value.cells],rfl⟩ ?_;refine ad ⟨rfl,rfl,fun h=>absurd rfl h,?_⟩;have hd:RT.dc.V ej w4 d (.agg [.int .i64 d.1,v4].toArray):=ei (gv Kb) qH rfl rfl rfl rfl;refine fj (M:=ej) (vs:=[.int .i64 d.1,v4]) k5 rfl rfl (Br rfl hd) rfl rfl eS dY (fun w6 g6 s6=>?_);have:=ak eS;replace dY:=(s6.mem _ this).2 dY;replace cA:=cA.le (by decide) s6.le;replace qH:=qH.le s6.le;replace hd:=hd.le s6.le;replace hM:=s6.lt hM;have:=S.size;replace S:=S.trans s6 (fun k hk h=>by have h:_=_:=h;subst h;first|(exfalso;omega)|(show _≤_;omega)|exact⟨by first|omega|assumption,(S.mem _ hk).1 ((s6.mem _ (ak eS)).1 dY)⟩|exact .inl rfl|exact .inr rfl|exact .inr (.inl rfl)|exact .inr (.inr rfl)|exact rfl);have zI:=g6;clear eS;have eS:=zI;clear zI;refine ad ⟨rfl,rfl,fun h=>absurd rfl h,?_⟩;refine uE (aH ?_);exact xi (vs:=[.int .i64 d.1,v4]) rfl rfl aO rfl k5 rfl eS ⟨hd.le (Le.close ku S),S.back⟩
theorem Gg {M:az} {e:En} {v0:Value} (w0:World) (hM:Lt M w0) (hv:RT.en.V M w0 e v0) (hl:e.1.2.length≤1099511627776):
  Spec Tryz.prog 109 #[v0] w0 (fun v w=>RT.en.V M w e v∧Step M w0 M w aA):=by
 have ku:=hM;refine aW (args:=[_]) (fn:=Tryz.f109) Tryz.func109 rfl (n:=9) Tryz.ntmps109 ?_;have S:Step M w0 M w0 aA:=(an _ _).ca (fun _ h=>h.elim) (fun _ h=>h.elim);refine aj (ah ?_);refine jB (A:=RT.en) rfl rfl hM hv rfl (fun u0 w1 cA s0 _=>?_);replace hM:=s0.lt hM;have:=S.size;replace S:=S.ax s0;refine ff M yR rfl (fun l7 A8 Md Me eS k8=>?_);obtain⟨ej,kz⟩:∃M',M'=ins M l7:=⟨_,rfl⟩;rw[←kz]at k8;have dY:ej l7:=by rw[kz];exact .inl rfl
 change A8.heap[l7]? =some (.cells #[.int .i64 0,.slice none 0 0,.int .i64 0] _ _)at eS;replace cA:=cA.le (by decide) k8.le;replace hM:=k8.lt hM;have:=S.size;replace S:=S.ax k8;refine ad (aj ?_);apply T.JV [0,1,3,4,2,5,6] 4 [2,3] 1 aA mixed
 ·simp+decide only[uL,qw,iE,List.map_nil,uv,uw,List.map_toArray,fB,mR,List.idxOf_cons,cond_true,cond_false,Nat.reduceBEq,Nat.reduceAdd,beq_self_eq_true];rfl
 ·rfl
 ·rfl
 ·rfl
 ·rfl
 ·rfl
 ·rfl
 intro Cn Dp;have hY:=Dp ej;have:=ak eS;replace dY:=(hY.mem _ this).2 dY;replace eS:=hY.aG eS;replace cA:=cA.le (by decide) hY.le;replace hM:=hY.lt hM;have:=S.size;replace S:=S.ax hY;refine aJ (M:=ej) (A:=RT.en) (B:=RT.dc) cO rfl rfl k5 (by decide) P3 rfl rfl (by decide) cA (aq _ _) (fun uQ jN=>?_);refine ad ⟨rfl,rfl,rfl,?_⟩;refine cw (M:=ej) (A:=RT.dc) aO rfl k5 (by decide) rfl rfl rfl jN (aq _ _) (fun uR kT=>?_);refine ad ⟨rfl,rfl,rfl,?_⟩;refine aJ (M:=ej) (A:=RT.en) (B:=RT.int .i64) cO rfl rfl I3 (by decide) Tf rfl rfl (by decide) cA (aq _ _) (fun I1 tS=>?_);refine ad ⟨rfl,rfl,rfl,?_⟩;refine cd (M:=ej) ar rfl rfl (by assumption) (by repeat (first|exact aq _ _|refine aT (a7 (by assumption)) ?_)) (fun Gh=>?_);refine bp (v':= .int .i64 (e.2)) rfl ?_;replace Gh: -9223372036854775808≤(e.2:Int)∧e.2≤9223372036854775807:=Gh;refine ad ⟨rfl,rfl,rfl,?_⟩;refine fE ?_;obtain⟨bb,oo,cs,ee,fr,rfl,lv,_⟩:=tS.float;refine⟨jP ⟨gq cO rfl I3 (by decide),⟨ep rfl lv (fun h=>h),trivial⟩⟩,?_⟩;have kp:=jw aA Cn;refine aM rfl rfl Uy (zH _ hM kT hl) (fun v4 w4 hc=>?_);obtain⟨qH,s4⟩:=hc;obtain⟨uf,rfl⟩:=xC qH;have:=ak eS;replace dY:=(s4.mem _ this).2 dY;replace eS:=s4.aG eS;replace cA:=cA.le (by decide) s4.le;replace hM:=s4.lt hM;have:=S.size;replace S:=S.ax s4;refine(fun(kp:dR _ _ _)=>ad ⟨rfl,rfl,fun _=>kp,?_⟩) (by first|exact kp|exact kp.qu (by assumption)|exact kp.goN (by assumption)|exact kp.go (by assumption) (fun _ _ h=>by first|exact h|exact h.elim));refine dX (places:=[(0,2),(2,1)]) cO yR S8 rfl ⟨_,_,rfl,rfl,_,_,rfl,rfl,rfl⟩ (out:=[_,_,_]) ⟨0,[_,_],rfl,rfl,by simp[Value.cells],2,[_],rfl,rfl,by simp[Value.cells],rfl⟩ ?_
 refine ad ⟨rfl,rfl,fun h=>absurd rfl h,?_⟩;have hd:RT.en.V ej w4 e (.agg [.int .i64 e.1.1,uf,.int .i64 e.2].toArray):=Cq (p:=e.1) qH Gh;refine fj (M:=ej) (vs:=[.int .i64 e.1.1,uf,.int .i64 e.2]) yR rfl rfl (Br rfl hd) rfl rfl eS dY (fun w6 g6 s6=>?_);have:=ak eS;replace dY:=(s6.mem _ this).2 dY;replace cA:=cA.le (by decide) s6.le;replace qH:=qH.le s6.le;replace hd:=hd.le s6.le;replace hM:=s6.lt hM;have:=S.size;replace S:=S.trans s6 (fun k hk h=>by have h:_=_:=h;subst h;first|(exfalso;omega)|(show _≤_;omega)|exact⟨by first|omega|assumption,(S.mem _ hk).1 ((s6.mem _ (ak eS)).1 dY)⟩|exact .inl rfl|exact .inr rfl|exact .inr (.inl rfl)|exact .inr (.inr rfl)|exact rfl);have zI:=g6;clear eS;have eS:=zI;clear zI;refine ad ⟨rfl,rfl,fun h=>absurd rfl h,?_⟩;refine uE (aH ?_);exact xi (vs:=[.int .i64 e.1.1,uf,.int .i64 e.2]) rfl rfl cO rfl yR rfl eS ⟨hd.le (Le.close ku S),S.back⟩
end Go.K
namespace Go.K
open Go.Proofs
namespace TKBldB
theorem QI:TI Tryz.prog 227 (.map none) 1 8:=by unfold TI;kernel_rfl
theorem Wj:Enters Tryz.prog 155:=enters Tryz.func155 rfl (by decide)
theorem Wk:Enters Tryz.prog 156:=enters Tryz.func156 rfl (by decide)
theorem Wl:Enters Tryz.prog 157:=enters Tryz.func157 rfl (by decide)
end TKBldB
open TKBldB
set_option maxRecDepth 10000
theorem IJ.bg {bt mb B:Nat} {ts:List (Fd×Nat)} {M M':az} {w w':World} (h:IJ bt mb B ts M w) (s:Step M w M' w' aA):IJ bt mb B ts M' w':=by
 obtain⟨gb,dB,dZ,hB,CB,es,clock,hW,hI⟩:=h;exact⟨s.aG gb,(s.mem _ (ak gb)).2 dB,(s.mem _ (ak hW.at_)).2 dZ,hB,CB,es,clock,hW.bg s,hI.bg s⟩
theorem Gi {bt mb B:Nat}:Mn Tryz.prog 155 [.pointer (some ⟨bt,0,none⟩)] B (IJ bt mb B):=
 ⟨Wj,fun ts M w M' w' h s=>h.bg s,fun ts M w t i hJ hM h1 h2 hi h4=>DB w hM h1 h2 hi h4 hJ⟩
theorem Gj (M:az) (w:World) (B:Nat):DA M w B [] [] where
 o t v hv:=by
  rcases hv with⟨e,he,_⟩|⟨_,rfl⟩
  ·cases he
  ·exact eo _ _ _ _ _
 a t t' v v' _ hv _:=by
  rcases hv with⟨e,he,_⟩|⟨_,rfl⟩
  ·cases he
  ·exact(iT.nil v').symm
 k:=rfl
theorem zJ:∀(ts:List (Fd×Nat)) (l:List Fd),(ts.foldl (fun l p=>if p.1∈l then l else l++[p.1]) l).length≤l.length+ts.length
 |[],l=>by simp
 |p::ts,l=>by
  rw[List.foldl_cons,cv];refine eO (zJ ts _) ?_
  split
  ·omega
  ·rw[bM];simp;omega
theorem I2 (M:az) (w:World) (M':az) (w':World) (x:Fd) (vs:List Value) (h:RT.fd.R M w x vs):RT.fd.R M' w' x vs:=h
theorem zK {M:az} {d:Dc} {v0:Value} (w0:World) (hM:Lt M w0) (hv:RT.dc.V M w0 d v0) (hF:iQ d) (hl:∀f∈d.2,f.1.length≤900000∧f.2.length≤900000):
  Spec Tryz.prog 108 #[v0] w0 (fun v w=>∃a b,v= .tuple #[a,b]∧(RT.fd.sl).V M w (cD (b8 d.2)) a∧(((RT.int .i64).sl).sl).V M w ((cD (b8 d.2)).map (posOf (b8 d.2))) b∧Step M w0 M w aA):=by
 have ku:=hM;have Kl:=hF.many;refine aW (args:=[_]) (fn:=Tryz.f108) Tryz.func108 rfl (n:=31) Tryz.ntmps108 ?_;have S:Step M w0 M w0 aA:=(an _ _).ca (fun _ h=>h.elim) (fun _ h=>h.elim);refine aj (ah ?_);refine jB (A:=RT.dc) rfl rfl hM hv rfl (fun u0 w1 cA s0 _=>?_);replace hM:=s0.lt hM;have:=S.size;replace S:=S.ax s0;refine ai rfl rfl (ai rfl rfl (ad (aj (ah ?_))));refine Rg.zo M j6 rfl (fun mb w1m p1 q1 gW s1=>?_);obtain⟨MF,Gk⟩:∃M',M'=ins M mb:=⟨_,rfl⟩;rw[←Gk]at s1;have xR:MF mb:=by rw[Gk];exact .inl rfl
 replace cA:=cA.le (by decide) s1.le;replace hM:=s1.lt hM;have:=S.size;replace S:=S.ax s1;refine ff MF QI rfl (fun DH II adR adS uV oY=>?_);obtain⟨Gl,Gm⟩:∃M',M'=ins MF DH:=⟨_,rfl⟩;rw[←Gm]at oY;have tT:Gl DH:=by rw[Gm];exact .inl rfl
 change II.heap[DH]? =some (.cells #[.map none] _ _)at uV;replace cA:=cA.le (by decide) oY.le;replace xR:=(oY.mem _ (ak gW.at_)).2 xR;replace gW:=gW.bg oY;replace hM:=oY.lt hM;have:=S.size;replace S:=S.ax oY;refine bP (M:=Gl) QI rfl rfl uV rfl (rfl) tT (fun IH fM mM=>?_)
 try simp only[List.setIfInBounds_toArray,List.set_cons_zero,List.set_cons_succ]at fM
 have:=ak uV;replace tT:=(mM.mem _ this).2 tT;replace cA:=cA.le (by decide) mM.le;replace xR:=(mM.mem _ (ak gW.at_)).2 xR;replace gW:=gW.step mM (by show¬(_=_);omega);replace hM:=mM.lt hM;have:=S.size;replace S:=S.trans mM (fun k hk h=>by have h:_=_:=h;subst h;first|(exfalso;omega)|(show _≤_;omega)|exact⟨by first|omega|assumption,(S.mem _ hk).1 ((mM.mem _ (ak uV)).1 tT)⟩|exact .inl rfl|exact .inr rfl|exact .inr (.inl rfl)|exact .inr (.inr rfl)|exact rfl);have Km:=fM;clear uV;have uV:=Km;clear Km;refine ad (aj (ah ?_));refine cw (M:=Gl) (A:=RT.dc) aO rfl k5 (by decide) rfl rfl rfl (by assumption) (by repeat (first|exact aq _ _|refine aT (a7 (by assumption)) ?_)) (fun adT CI=>?_);refine iD (xs:=[]) (ys:=[.tmp 4]) rfl rfl rfl ?_;refine aM rfl rfl Pm (vW (cap:=[.pointer (some ⟨DH,0,none⟩)]) (B:=w0.heap.size) _ hM CI hl hF.few (Gi (mb:=mb)) ⟨uV,tT,xR,by omega,by omega,[],0,gW,Gj _ _ _⟩) (fun r2 w2 hc=>?_);obtain⟨M2,HJ,⟨gb,_,_,_,_,es,clock,hW,hI⟩,s2⟩:=hc;replace S:=S.kc s2 (a8 _);have jX:∀t v,dF jh es (kv t) v→(((RT.int .i64).sl)).V M w2 (posOf (b8 d.2) t) v:=fun t v h=>(hI.o t v h).close ku S (by have:=qK (b8 d.2) t;omega)
 replace S:=S.back;replace hM:=S.lt ku
 have QK:∀e∈es,∃t∈seen (b8 d.2),e.key=kv t:=fun e he=>by
  have:e.key∈(seen (b8 d.2)).map kv:=by rw[←hI.k];exact fm he
  obtain⟨t,h1,h2⟩:=cE.1 this;exact⟨t,h1,h2.symm⟩
 have wY:∀t∈seen (b8 d.2),HN t∧t.1.length≤12∧t.2.length≤30:=fun t ht=>by
  obtain⟨p,hp,rfl⟩:=cE.1 (pO.1 ht);exact⟨hF.IT p hp,hF.small p hp⟩
 have mX:(seen (b8 d.2)).length≤500:=eO (zJ _ _) (by simp;omega);have yr:es.length≤500:=by have:=congrArg List.length hI.k;simp at this;omega
 refine ad (aj (ah (aE j6 rfl rfl rfl gb rfl ?_)));refine aM rfl rfl Wl (Bk _) (fun r3 w3 hc=>?_);obtain⟨bs,rfl,F2,_,s3⟩:=hc;replace s3:=s3.toAny M;replace hW:=hW.bg s3;replace gb:=s3.aG gb;replace jX:=fun t v h=>(jX t v h).le s3.le
 replace hM:=s3.lt hM;have:=S.size;replace S:=S.ax s3
 refine aM rfl rfl Wk (zw _ (fun e he=>by
  obtain⟨t,h1,h2⟩:=QK e he;exact⟨t,h2,by have:=(wY t h1).2;omega,by have:=(wY t h1).2;omega⟩) (fun e he t ht=>by
  obtain⟨t',h1,h2⟩:=QK e he;obtain rfl:=qJ (ht.symm.trans h2);exact⟨(wY _ h1).1,by have:=(wY _ h1).2;omega,by have:=(wY _ h1).2;omega⟩) (by omega) (fun ts mS lD=>by
  have:=mS.length_le_of_subset (l₂:=seen (b8 d.2)) (fun t ht=>(pL hI.k).1 (lD t ht));omega) F2 hW) (fun r4 w4 hc=>?_)
 obtain⟨us,mS,lD,K0,Qz,s4⟩:=hc;obtain rfl:=zA hF.IT mS (fun t=>(lD t).trans (pL hI.k)) K0;have Qy:(cD (b8 d.2)).length≤500:=eO (mS.length_le_of_subset (l₂:=seen (b8 d.2)) (fun t ht=>pO.2 ((jj hF.IT).1 ht))) mX;replace s4:=s4.toAny M;have yh:(RT.fd.sl).V M w4 (cD (b8 d.2)) r4:=Qz.tell I2 (fun b hb h=>by have:=(Qz.base b hb).1;have:=hM b h;omega) (by omega);clear Qz;replace hW:=hW.bg s4;replace gb:=s4.aG gb;replace jX:=fun t v h=>(jX t v h).le s4.le
 replace hM:=s4.lt hM;have:=S.size;replace S:=S.ax s4;refine ai rfl rfl (ad (aj (ah (ai rfl rfl (ad (aj (aj (ah (ae rfl rfl (bU fF rfl yh rfl (ae rfl rfl ?_)))))))))));refine ad (bj ?_);refine dI (σ:=Nat×Value) (fun q=>[(4,.pointer (some ⟨DH,0,none⟩)),(5,r4),(6,q.2),(16,r4),(17,.int .i64 ((cD (b8 d.2)).length:Int)),(18,.int .i64 (q.1:Int))]) (fun q w=>∃M',Lt M' w∧Step M w0 M' w aA∧Own ((RT.int .i64).sl) 32 M' w w0.heap.size q.2 (((cD (b8 d.2)).take q.1).map (posOf (b8 d.2)))∧(RT.fd.sl).V M' w (cD (b8 d.2)) r4∧eD Tryz.prog 47 w mb es clock∧w.heap[DH]? =some (.cells #[.map (some mb)] 227 (0,0))∧(∀t v,dF jh es (kv t) v→(((RT.int .i64).sl)).V M' w (posOf (b8 d.2) t) v)∧q.1≤(cD (b8 d.2)).length) (fun q=>(cD (b8 d.2)).length-q.1) (0,.slice none 0 0) (.cons rfl (.cons rfl (.cons rfl (.cons rfl (.cons rfl (.cons rfl .nil)))))) ?_ ?_
 ·exact⟨M,hM,S,eo _ _ _ _ _,yh,hW,gb,jX,bH _⟩
 ·clear hM yh hW gb jX S;rintro⟨i,u⟩ w ⟨M1,hM,S,ho,yh,hW,gb,jX,hi⟩;dsimp only at ho hi ⊢;refine aj (ah (cf rfl rfl rfl (ad (aj ?_))));refine bF rfl (fun c6=>?_) (fun c6=>?_)
  ·refine aU (aj (bj (aj (ah ?_))));refine dq (M:=M1) fF rq rfl rfl rfl yh (aq _ _) (by omega) (fun P9 t Wm Ct=>?_);rw[aC]at Wm;have H7:=aN Wm;have C6:=wY t (pO.2 ((jj hF.IT).1 H7));refine cw (M:=M1) (A:=RT.fd) cb rfl rq (by decide) rfl rfl rfl Ct (aq _ _) (fun VN J7=>?_);refine oH (A:=RT.fd) (M:=M1) rq rfl rfl rfl rfl rfl (by assumption) (aq _ _) hM (fun Wn adU wk Bt adV=>?_);replace yh:=yh.le Bt.le;replace ho:=ho.bg Bt;replace hW:=hW.bg Bt;replace gb:=Bt.aG gb;replace jX:=fun t v h=>(jX t v h).le Bt.le
   replace hM:=Bt.lt hM;have:=S.size;replace S:=S.ax Bt;refine ad (ah (ae rfl rfl (aE j6 rfl rfl rfl gb rfl ?_)));refine cw (M:=M1) (A:=RT.fd) cb rfl rq (by decide) rfl rfl rfl wk (aq _ _) (fun adW QL=>?_);obtain rfl:=k7 QL;obtain⟨kl,C3⟩:=FY t (by omega) (by omega);refine Rg.pJ j6 vV nZ rfl rfl rfl C3 hW (fun v8 tQ=>?_);have CJ:=jX _ _ tQ;clear tQ;refine eW (A:=((RT.int .i64).sl)) (hn:=by decide) (M:=M1) Tryz.underlying171 nZ (by decide) rfl rfl hM (CJ) (.inr ⟨rfl,rfl⟩) (fun adX adY Gn zL=>?_);replace yh:=yh.le zL.le;replace wk:=wk.le (by decide) zL.le;replace ho:=ho.bg zL;replace hW:=hW.bg zL;replace gb:=zL.aG gb;replace jX:=fun t v h=>(jX t v h).le zL.le
   replace hM:=zL.lt hM;have:=S.size;replace S:=S.ax zL;refine dh (M:=M1) (base:=w0.heap.size) Tryz.underlying171 nZ rfl rfl rfl rfl ho Gn (aq _ _) (by simp;omega) (by simp;omega) (S.size) (fun Wo Wp adZ QM zM=>?_);replace yh:=yh.le zM.le;replace wk:=wk.le (by decide) zM.le;replace Gn:=Gn.le zM.le;replace hW:=hW.step zM (fun h=>ho.ji hW.at_ h);replace gb:=zM.bE gb (fun h=>ho.eL gb (by decide) h);replace jX:=fun t v h=>(jX t v h).le zM.le
   replace hM:=zM.lt hM;have:=S.size;replace S:=S.dC zM ho (a8 _);replace ho:=QM;refine ai rfl rfl (ad (ah (bz rfl rfl rfl (by omega) (ae rfl rfl (ad ?_)))));refine⟨rfl,(i+1,Wo),(.cons rfl (.cons rfl (.cons rfl (.cons rfl (.cons rfl (.cons rfl .nil)))))),?_,?_⟩
   ·exact⟨Wp,hM,S,by rw[cr,Wm,cY,jR];exact ho,yh,hW,gb,jX,by dsimp only;omega⟩
   ·dsimp only;omega
  ·refine cM (aj (ah (ae rfl rfl (ae rfl rfl (ai rfl rfl (ai rfl rfl (ad (aH ?_))))))));have e:(cD (b8 d.2)).take i=cD (b8 d.2):=bI (by omega);rw[e]at ho;exact ez rfl rfl rfl ⟨_,_,rfl,yh.le (Le.close ku S),ho.close ku S (by simp;omega),S.back⟩
end Go.K
namespace Go.K
def Kn {α:Type} (A:RT α) (M:az) (w:World) (v:Value) (x:α):Prop:=∃b o vs,v= .pointer (some ⟨b,o,none⟩)∧A.R M w x vs∧w.rangeAt b o vs
theorem Own.elem {α:Type} {A:RT α} {e:TypeId} {M:az} {w:World} {base:Nat} {v:Value} {xs:List α} (h:Own A e M w base v xs) (hA:0<A.n) {i:Nat} {x:α} (hx:xs[i]? =some x):
  ∃g cap vs,v= .slice (some ⟨g,0,none⟩) xs.length cap∧M g∧A.R M w x vs∧w.rangeAt g (i*A.n) vs:=by
 obtain⟨⟨C,hr,ha⟩,hm⟩:=h;rcases hr.2 with⟨h1,h2⟩|⟨g,cap,cur,h1,h2,h3,h4,h5,h6,h7⟩
 ·have:xs=[]:=List.eq_nil_of_length_eq_zero h2;subst this;simp at hx
 ·obtain⟨vs,hv,hj⟩:=ha.at_ i x hx;refine⟨g,cap,vs,h1,hm g (by rw[h1];rfl),hv,fun j u hu=>?_⟩;have h8:=hj j u hu;rw[←h7,dr]at h8
  split at h8
  ·simp only[World.cell?,h3];simpa using h8
  ·cases h8
section
variable {P:Program} {r:Option Nat} {n:Nat} {L:Sl} {ds:List Deferred} {w:World} {K:Kt} {ops:Array Oper} {rest:List Oper} {d:Nat} {x y:Operand} {ty:TypeId} {pos:String} {af:Array Edge} {α:Type} {A:RT α}
theorem Rg.Wq {t e e':TypeId} {i:Operand} {κ:IntKind} {j:Int} {M:az} {base:Nat} {xs:List α} {v zv:Value} {bytes:Nat} (ht:P.underlying t=some (.slice e)) (hi:TI P e zv A.n bytes) (hA:0<A.n)
  (hx:ev L x=some v) (Ev:ev L i=some (.int κ j)) (hd:Nat.blt d n=true) (ho:Own A e' M w base v xs) (hj:0≤j∧j<xs.length)
  (k:∀u a,xs[j.toNat]? =some a→Kn A M w u a→Rg P r n ops rest ((d,u)::L) ds w K):
  Rg P r n ops ({dst:=some d,op:= .indexAddr t x i,type:=ty,pos,after:=af,guard:=none}::rest) L ds w K:=by
 have dy:j.toNat<xs.length:=by omega
 obtain⟨g,cap,vs,rfl,hm,h1,h2⟩:=ho.elem hA (aL dy);refine .op (fun _ h=>by cases h) rfl rfl hd (.pointer (some ⟨g,0+j.toNat*A.n,none⟩)) w (fun ρ h=>?_) (k _ xs[j.toNat] (aL dy) ⟨g,_,vs,rfl,h1,by rw[Nat.zero_add];exact h2⟩);simp only[execOp,h x _ hx,h i _ Ev];simp[Instr.indexAt,run_underlying ht,asIntOf,hj,hi.sizeOf,Addr.add_mid]
theorem Rg.Gp {t:TypeId} {fs:TypeDesc} {zv:Value} {bytes:Nat} {M:az} {p:Value} {a:α} (hu:P.underlying t=some fs) (hf:fs.isRow=true) (hi:TI P t zv A.n bytes) (hg:A.agg=true)
  (hx:ev L x=some p) (hd:Nat.blt d n=true) (hp:Kn A M w p a) (k:∀v,A.V M w a v→Rg P r n ops rest ((d,v)::L) ds w K):
  Rg P r n ops ({dst:=some d,op:= .load t x,type:=ty,pos,after:=af,guard:=none}::rest) L ds w K:=by
 obtain⟨b,o,vs,rfl,h1,h2⟩:=hp;refine .op (fun _ h=>by cases h) rfl rfl hd (.agg vs.toArray) w (fun ρ h=>?_) (k _ ⟨vs,h1,by simp[RT.val,hg]⟩);simp only[execOp,h x _ hx];obtain⟨i,vE,_,Az,_⟩:=hi.get;have:=run_loadAt_mid (P:=P) w b o t vs fs h2 hu hf (by simp[vE,Az,A.len h1]);simp[this]
end
end Go.K
namespace Go.K
open Go.Proofs
namespace TKBldC
theorem Wr:TI Tryz.prog 169 (.agg #[(.slice none 0 0),(.map none),(.int .i64 0),(.int .i64 0)]) 4 48:=by unfold TI;kernel_rfl
theorem Ws:placesOf Tryz.prog 169=[(0,1),(1,1),(2,1),(3,1)].map some:=by kernel_rfl
end TKBldC
open TKBldC
set_option maxRecDepth 10000
open Go.Maps (Keyed)
theorem pQ:Keyed Tryz.prog 9:=Go.Maps.string_keyed aD
theorem Gq (k:List UInt8) (h:k.length≤140737488355328):∃l,keyOf Tryz.prog 9 (sv k)=some l:=by
 have e1:(⟨k.toArray⟩:ByteArray).size=k.length:=by simp[ByteArray.size]
 exact⟨_,Go.WideMaps.keyOf_string_mk aD (by rw[e1];unfold maxLen;omega)⟩
structure zN (Z:az) (M:az) (w:World) (B:Nat) (f:List UInt8→List Po) (K:List UInt8→Prop) (es:List MapEntry):Prop where
 o:∀k v,dF jh es (sv k) v→Own RT.po 153 M w B v (f k)
 a:∀k k' v v',k≠k'→dF jh es (sv k) v→dF jh es (sv k') v'→iT v v'
 k:∀x,(∃e∈es,e.key=sv x)↔K x
 z:∀k v c,dF jh es (sv k) v→v.ownBlock=some c→Z c
theorem zN.step {Z M M' N:az} {w w':World} {B:Nat} {f:List UInt8→List Po} {K:List UInt8→Prop} {es:List MapEntry} (h:zN Z M w B f K es) (s:Step M w M' w' N) (hn:∀k v b,dF jh es (sv k) v→v.ownBlock=some b→¬N b):zN Z M' w' B f K es:=
 ⟨fun k v hv=>(h.o k v hv).step s fun b hb=>hn k v b hv hb,h.a,h.k,h.z⟩
theorem zN.bg {Z M M':az} {w w':World} {B:Nat} {f:List UInt8→List Po} {K:List UInt8→Prop} {es:List MapEntry} (h:zN Z M w B f K es) (s:Step M w M' w' aA):zN Z M' w' B f K es:=h.step s fun _ _ _ _ _ h=>h
theorem zN.congr {Z M:az} {w:World} {B:Nat} {f f':List UInt8→List Po} {K K':List UInt8→Prop} {es:List MapEntry} (h:zN Z M w B f K es) (hf:∀k,f' k=f k) (hK:∀k,K' k↔K k):zN Z M w B f' K' es:=
 ⟨fun k v hv=>by rw[hf];exact h.o k v hv,h.a,fun x=>(h.k x).trans (hK x).symm,h.z⟩
theorem zN.DI {Z Z' M:az} {w:World} {B:Nat} {f:List UInt8→List Po} {K:List UInt8→Prop} {es:List MapEntry} (h:zN Z M w B f K es) (hz:∀c,Z c→c<w.heap.size→Z' c):zN Z' M w B f K es:=
 ⟨h.o,h.a,h.k,fun k v c hv hc=>hz c (h.z k v c hv hc) ((h.o k v hv).base c hc).2⟩
theorem zN.put {Z M M2:az} {w w1 w2:World} {B mb c:Nat} {mes:Array MapEntry} {f:List UInt8→List Po} {K:List UInt8→Prop} {es MG:List MapEntry} {k0:List UInt8} {v0 v1:Value} {ps:List Po} (h:zN Z M w B f K es) (hZ:∀c,w.heap.size≤c→Z c) (HE:dF jh es (sv k0) v0)
  (Tt:Own RT.po 153 (ja M v1) w1 B v1 (f k0++ps)) (s1:Step M w (ja M v1) w1 (jb v0)) (hF:∀b,v1.ownBlock=some b→w.heap.size≤b∨v0.ownBlock=some b) (hmb:w1.heap[mb]? =some (.map mes c)) (s2:Step (ja M v1) w1 M2 w2 (fun k=>k=mb))
  (zx:∀zv gE v',dF zv MG gE v'↔(gE=sv k0∧v'=v1)∨(gE≠sv k0∧dF zv es gE v')) (mC:(MG.map (·.key)=es.map (·.key)∧∃e∈es,e.key=sv k0)∨(MG.map (·.key)=es.map (·.key)++[sv k0]∧∀e∈es,e.key≠sv k0)):
  zN Z M2 w2 B (fun k=>if k=k0 then f k0++ps else f k) (fun x=>K x∨x=k0) MG:=by
 have oz:∀k v,dF jh MG (sv k) v→(k=k0∧v=v1)∨(k≠k0∧dF jh es (sv k) v):=fun k v hv=>by
  rcases(zx jh (sv k) v).1 hv with⟨h3,h4⟩|⟨h3,h4⟩
  ·exact .inl ⟨xN h3,h4⟩
  ·exact .inr ⟨fun e=>h3 (by rw[e]),h4⟩
 have IP:∀k v,k≠k0→dF jh es (sv k) v→iT v1 v:=fun k v eK hv=>(h.a k k0 v v0 eK hv HE).symm.grown hF (fun b hb=>((h.o k v hv).base b hb).2)
 have IQ:∀k v,k≠k0→dF jh es (sv k) v→Own RT.po 153 (ja M v1) w1 B v (f k):=fun k v eK hv=>(h.o k v hv).step s1 (fun b hb hk=>h.a k k0 v v0 eK hv HE b hb hk)
 have Um:∀{v:Value} {xs:List Po},Own RT.po 153 (ja M v1) w1 B v xs→∀b,v.ownBlock=some b→¬b=mb:=fun ho b hb e=>ho.ji hmb (by rw[←e];exact hb)
 refine⟨fun k v hv=>?_,fun k k' v v' eK hv mW=>?_,fun x=>?_,fun k v c hv hc=>?_⟩
 ·rcases oz k v hv with⟨rfl,rfl⟩|⟨h3,h4⟩
  ·rw[if_pos rfl];exact Tt.step s2 (Um Tt)
  ·rw[if_neg h3];exact(IQ k v h3 h4).step s2 (Um (IQ k v h3 h4))
 ·rcases oz k v hv with⟨rfl,rfl⟩|⟨h3,h4⟩
  ·rcases oz k' v' mW with⟨rfl,_⟩|⟨h5,h6⟩
   ·exact absurd rfl eK
   ·exact IP k' v' h5 h6
  ·rcases oz k' v' mW with⟨rfl,rfl⟩|⟨h5,h6⟩
   ·exact(IP k v h3 h4).symm
   ·exact h.a k k' v v' eK h4 h6
 ·have lD:(∃e∈MG,e.key=sv x)↔sv x∈MG.map (·.key):=by simp
  have Wt:(∃e∈es,e.key=sv x)↔sv x∈es.map (·.key):=by simp
  rw[lD,←h.k x,Wt];rcases mC with⟨h3,e,he,hk⟩|⟨h3,_⟩
  ·rw[h3];constructor
   ·exact .inl
   ·rintro(h4|rfl)
    ·exact h4
    ·rw[←hk];exact fm he
  ·rw[h3,cZ,cn];constructor
   ·rintro(h4|h4)
    ·exact .inl h4
    ·exact .inr (xN h4)
   ·rintro(h4|rfl)
    ·exact .inl h4
    ·exact .inr rfl
 ·rcases oz k v hv with⟨rfl,rfl⟩|⟨h3,h4⟩
  ·rcases hF c hc with h5|h5
   ·exact hZ c h5
   ·exact h.z _ _ c HE h5
  ·exact h.z k v c h4 hc
theorem I4 (Z M:az) (w:World) (B:Nat):zN Z M w B (pk []) (fun x=>x∈gI []) [] where
 o k v hv:=by
  rcases hv with⟨e,he,_⟩|⟨_,rfl⟩
  ·cases he
  ·exact eo _ _ _ _ _
 a k k' v v' _ hv _:=by
  rcases hv with⟨e,he,_⟩|⟨_,rfl⟩
  ·cases he
  ·exact(iT.nil v').symm
 k x:=by simp[gI]
 z k v c hv hc:=by
  rcases hv with⟨e,he,_⟩|⟨_,rfl⟩
  ·cases he
  ·cases hc
structure Buf (Z M:az) (w:World) (B b mb:Nat) (vl:Value) (L:List En) (words last:Int) (f:List UInt8→List Po) (K:List UInt8→Prop) (es:List MapEntry) (clock:Nat):Prop where
 at_:w.heap[b]? =some (.cells #[vl,.map (some mb),.int .i64 words,.int .i64 last] 169 (0,0))
 m:M b
 mm:M mb
 hb:Z b
 hmb:Z mb
 l:Own RT.en 43 M w B vl L
 map:eD Tryz.prog 9 w mb es clock
 rows:zN Z M w B f K es
 zl:∀c,vl.ownBlock=some c→Z c
def lK (Z M:az) (w:World) (B b:Nat) (L:List En) (words last:Int):Prop:=∃mb vl es clock,Buf Z M w B b mb vl L words last (pk L) (fun x=>x∈gI L) es clock
theorem lK.bg {Z M M':az} {w w':World} {B b:Nat} {L:List En} {words last:Int} (h:lK Z M w B b L words last) (s:Step M w M' w' aA):lK Z M' w' B b L words last:=by
 obtain⟨mb,vl,es,clock,h1,h2,h3,h4,h5,h6,h7,h8,h9⟩:=h;exact⟨mb,vl,es,clock,s.aG h1,(s.mem _ (ak h1)).2 h2,(s.mem _ (ak h7.at_)).2 h3,h4,h5,h6.bg s,h7.bg s,h8.bg s,h9⟩
theorem lK.DI {Z Z' M:az} {w:World} {B b:Nat} {L:List En} {words last:Int} (h:lK Z M w B b L words last) (hz:∀c,Z c→c<w.heap.size→Z' c):lK Z' M w B b L words last:=by
 obtain⟨mb,vl,es,clock,h1,h2,h3,h4,h5,h6,h7,h8,h9⟩:=h;exact⟨mb,vl,es,clock,h1,h2,h3,hz _ h4 (ak h1),hz _ h5 (ak h7.at_),h6,h7,h8.DI hz,fun c hc=>hz c (h9 c hc) (h6.base c hc).2⟩
theorem lK.step {Z M M' N:az} {w w':World} {B b:Nat} {L:List En} {words last:Int} (h:lK Z M w B b L words last) (s:Step M w M' w' N) (hn:∀k,N k→¬Z k):lK Z M' w' B b L words last:=by
 obtain⟨mb,vl,es,clock,h1,h2,h3,h4,h5,h6,h7,h8,h9⟩:=h;exact⟨mb,vl,es,clock,s.bE h1 (fun hk=>hn _ hk h4),(s.mem _ (ak h1)).2 h2,(s.mem _ (ak h7.at_)).2 h3,h4,h5,h6.step s (fun c hc hk=>hn _ hk (h9 c hc)),h7.step s (fun hk=>hn _ hk h5),h8.step s (fun k v c hv hc hk=>hn _ hk (h8.z k v c hv hc)),h9⟩
theorem lK.stepT {Z M M' N:az} {w w':World} {B b:Nat} {L:List En} {words last:Int} (h:lK Z M w B b L words last) (s:Step M w M' w' N) (hn:∀k,N k→∃cs t,w.heap[k]? =some (.cells cs t (0,0))∧t≠169∧t≠43∧t≠153):lK Z M' w' B b L words last:=by
 obtain⟨mb,vl,es,clock,h1,h2,h3,h4,h5,h6,h7,h8,hz⟩:=h;refine⟨mb,vl,es,clock,s.bE h1 (fun hk=>?_),(s.mem _ (ak h1)).2 h2,(s.mem _ (ak h7.at_)).2 h3,h4,h5,h6.step s (fun c hc hk=>?_),h7.step s (fun hk=>?_),h8.step s (fun k v c hv hc hk=>?_),hz⟩
 ·obtain⟨cs,t,h9,DJ,_⟩:=hn _ hk;rw[h1]at h9;simp at h9;exact DJ h9.2.symm
 ·obtain⟨cs,t,h9,_,DJ,_⟩:=hn _ hk;exact h6.eL h9 DJ hc
 ·obtain⟨cs,t,h9,_⟩:=hn _ hk;rw[h7.at_]at h9;cases h9
 ·obtain⟨cs,t,h9,_,_,DJ⟩:=hn _ hk;exact(h8.o k v hv).eL h9 DJ hc
def Gr (M Z:az):az:=fun k=>Z k∧M k
theorem dF.ex (zv:Value) (es:List MapEntry) (key:Value):∃v,dF zv es key v:=by
 by_cases h:∃e∈es,e.key=key
 ·obtain⟨e,he,hk⟩:=h;exact⟨e.val,.inl ⟨e,he,hk,rfl⟩⟩
 ·exact⟨zv,.inr ⟨fun e he hk=>h ⟨e,he,hk⟩,rfl⟩⟩
def jY (last:Int) (e:En):Int:=if kN e.1≠0 then kN e.1 else if e.2≤last then 12 else 0
def Gs (L:List En) (tl:List (Fd×Nat)) (i:Nat) (k:List UInt8):List Po:=pk L k++(((cD tl).take i).filter fun t=>decide (dd t=k)).map fun t=>((L.length:Int),posOf tl t)
theorem Gt (L:List En) (tl:List (Fd×Nat)) (k:List UInt8):Gs L tl 0 k=pk L k:=by simp[Gs]
theorem Gu {L:List En} {tl:List (Fd×Nat)} {i:Nat} {t:Fd} (h:(cD tl)[i]? =some t) (k:List UInt8):Gs L tl (i+1) k=if k=dd t then Gs L tl i (dd t)++[((L.length:Int),posOf tl t)]else Gs L tl i k:=by
 unfold Gs;rw[cr,h,cY,List.filter_append,jR]
 split
 ·rename_i e;subst e;simp
 ·rename_i e
  have: ¬dd t=k:=fun h=>e h.symm
  simp[this]
theorem I6 {L:List En} {e:En} {i:Nat} (h:(cD (o6 e)).length≤i) (k:List UInt8):Gs L (o6 e) i k=pk (L++[e]) k:=by
 unfold Gs;rw[IU,bI h];rfl
theorem I7 {L:List En} (hF:∀x∈L,iQ x.1) (tl:List (Fd×Nat)) (i:Nat) (k:List UInt8):(Gs L tl i k).length≤L.length+(cD tl).length:=by
 unfold Gs;have h1:=(qL k L 0 hF).1;have h2:=List.length_filter_le (fun t=>decide (dd t=k)) ((cD tl).take i);have h3:=List.length_take_le i (cD tl);have h4:(pk L k).length≤L.length:=h1;simp only[bM,cN,bG]at*;omega
theorem wo {d:Dc} (hF:iQ d):(cD (b8 d.2)).length≤500:=by
 have h1:=(pN hF.IT).nodup.length_le_of_subset (l₂:=(b8 d.2).map (·.1)) (fun t ht=>(jj hF.IT).1 ht);have:=hF.many;simp at h1;omega
theorem iQ.term {d:Dc} (hF:iQ d) {t:Fd} (h:t∈cD (b8 d.2)):t.1.length≤12∧t.2.length≤30:=by
 obtain⟨p,hp,rfl⟩:=cE.1 ((jj hF.IT).1 h);exact hF.small p hp
theorem Gv {Z M:az} {B:Nat} (w0:World) (hM:Lt M w0) (hB:B≤w0.heap.size) (hZ:∀k,w0.heap.size≤k→Z k):
  Spec Tryz.prog 56 #[] w0 (fun v w=>∃M' b,v= .pointer (some ⟨b,0,none⟩)∧Lt M' w∧lK Z M' w B b [] 0 (-1)∧Step M w0 M' w aA):=by
 refine aW (args:=[]) (fn:=Tryz.f56) Tryz.func56 rfl (n:=4) Tryz.ntmps56 ?_;have S:Step M w0 M w0 aA:=(an _ _).ca (fun _ h=>h.elim) (fun _ h=>h.elim);refine aj (ah (ai rfl rfl (ad (aj (ah ?_)))));refine Rg.zo M fT rfl (fun mb w1m p1 q1 gW s1=>?_);obtain⟨MF,Gk⟩:∃M',M'=ins M mb:=⟨_,rfl⟩;rw[←Gk]at s1;have xR:MF mb:=by rw[Gk];exact .inl rfl
 replace hM:=s1.lt hM;have:=S.size;replace S:=S.ax s1;refine dX (places:=[(0,1),(1,1),(2,1),(3,1)]) dg Wr Ws rfl ⟨_,_,rfl,rfl,_,_,rfl,rfl,rfl⟩ (out:=[.slice none 0 0,_,.int .i64 0,_]) ⟨1,[_],rfl,rfl,by simp[Value.cells],3,[_],rfl,rfl,by simp[Value.cells],rfl⟩ ?_;refine mH MF rfl rfl (fun MH IH ad1 ad2 fM mM=>?_);obtain⟨QN,Gw⟩:∃M',M'=ins MF MH:=⟨_,rfl⟩;rw[←Gw]at mM;have MI:QN MH:=by rw[Gw];exact .inl rfl
 change IH.heap[MH]? =some (.cells #[.slice none 0 0,.map (some mb),.int .i64 0,.int .i64 (-1)] _ _)at fM;replace xR:=(mM.mem _ (ak gW.at_)).2 xR;replace gW:=gW.bg mM;replace hM:=mM.lt hM;have:=S.size;replace S:=S.ax mM;refine ai rfl rfl (ad (aH ?_));exact aP rfl rfl ⟨_,_,rfl,hM,⟨mb,_,[],0,fM,MI,xR,hZ _ (by omega),hZ _ (by omega),eo _ _ _ _ _,gW,I4 _ _ _ _,fun c hc=>by cases hc⟩,S⟩
end Go.K
namespace Go.K
open Go.Proofs
namespace TKBldD
theorem QO:TI Tryz.prog 37 (.slice none 0 0) 1 24:=by unfold TI;kernel_rfl
theorem jZ:TI Tryz.prog 107 (.slice none 0 0) 1 24:=by unfold TI;kernel_rfl
theorem Bu:TI Tryz.prog 167 (.map none) 1 8:=by unfold TI;kernel_rfl
theorem Wu:Enters Tryz.prog 107:=enters Tryz.func107 rfl (by decide)
theorem Wv:Enters Tryz.prog 108:=enters Tryz.func108 rfl (by decide)
theorem Ww:Enters Tryz.prog 109:=enters Tryz.func109 rfl (by decide)
theorem Wx:Enters Tryz.prog 110:=enters Tryz.func110 rfl (by decide)
end TKBldD
open TKBldD
set_option maxRecDepth 10000
set_option maxHeartbeats 4000000 in
theorem Gx {Z M:az} {B b:Nat} {L:List En} {words last:Int} {e:En} {v0:Value} (w0:World) (hM:Lt M w0) (hZ:∀k,w0.heap.size≤k→Z k) (hb:lK Z M w0 B b L words last) (hBw:B≤w0.heap.size) (hv:RT.en.V M w0 e v0) (hl:∀f∈e.1.2,f.1.length≤900000∧f.2.length≤900000) (hLF:∀x∈L,iQ x.1) (hLn:L.length≤1000000) (hw:0≤words∧words≤1000000000):
  Spec Tryz.prog 57 #[.pointer (some ⟨b,0,none⟩),v0] w0 (fun v w=>∃M',Lt M' w∧Step M w0 M' w (Gr M Z)∧v= .int .i64 (jY last e)∧(jY last e≠0→lK Z M' w B b L words last)∧(jY last e=0→lK Z M' w B b (L++[e]) (words+((o6 e).length:Int)) e.2)):=by
 obtain⟨mb,vl,es,clock,gb,dB,dZ,hB,CB,ho,hW,hR,zl⟩:=hb;have Kg:b≠mb:=fun h=>by have:=hW.at_;rw[←h,gb]at this;cases this
 refine aW (args:=[_,_]) (fn:=Tryz.f57) Tryz.func57 rfl (n:=89) Tryz.ntmps57 ?_;have S:Step M w0 M w0 (Gr M Z):=(an _ _).ca (fun _ h=>h.elim) (fun _ h=>h.2);refine aj (ah ?_);refine jB (A:=RT.en) rfl rfl hM hv rfl (fun u0 w1 cA s0 _=>?_);have:=ak gb;replace dB:=(s0.mem _ this).2 dB;replace gb:=s0.aG gb;replace ho:=ho.bg s0;replace dZ:=(s0.mem _ (ak hW.at_)).2 dZ;replace hW:=hW.bg s0;replace hR:=hR.bg s0;replace hM:=s0.lt hM;have:=S.size;replace S:=S.ax s0;refine ai rfl rfl (ad (aj (aj (ah ?_))));refine aJ (M:=M) (A:=RT.en) (B:=RT.dc) cO rfl rfl k5 (by decide) P3 rfl rfl (by decide) cA (aq _ _) (fun uQ jN=>?_);refine cw (M:=M) (A:=RT.dc) aO rfl k5 (by decide) rfl rfl rfl jN (aq _ _) (fun uR kT=>?_);refine aM rfl rfl Wu (Fw _ hM kT hl) (fun r2 w2 hc=>?_);obtain⟨rfl,s2⟩:=hc;have:=ak gb;replace dB:=(s2.mem _ this).2 dB;replace gb:=s2.aG gb;replace cA:=cA.le (by decide) s2.le;replace ho:=ho.bg s2;replace dZ:=(s2.mem _ (ak hW.at_)).2 dZ;replace hW:=hW.bg s2;replace hR:=hR.bg s2;replace hM:=s2.lt hM;have:=S.size;replace S:=S.ax s2;refine ai rfl rfl (ad (aj (ah (ae rfl rfl (eN rfl rfl rfl (ad ?_))))));refine bF rfl (fun c2=>?_) (fun c2=>?_)
 ·refine aj (ah (ae rfl rfl (ai rfl rfl (ad (aH ?_)))));have ea:jY last e=kN e.1:=if_pos c2;exact aP rfl rfl ⟨_,hM,S,by rw[ea],fun _=>⟨mb,vl,es,clock,gb,dB,dZ,hB,CB,ho,hW,hR,zl⟩,fun h=>absurd (ea▸h) c2⟩
 ·have hF:iQ e.1:=CD (by simpa using c2);refine aU (aj (aj ?_));apply T.ki mixed rfl rfl;intro wD4 sA4;have wu:=sA4 M;have:=ak gb;replace dB:=(wu.mem _ this).2 dB;replace gb:=wu.aG gb;replace cA:=cA.le (by decide) wu.le;replace ho:=ho.bg wu;replace dZ:=(wu.mem _ (ak hW.at_)).2 dZ;replace hW:=hW.bg wu;replace hR:=hR.bg wu;replace hM:=wu.lt hM;have:=S.size;replace S:=S.ax wu;refine aJ (M:=M) (A:=RT.en) (B:=RT.int .i64) cO rfl rfl I3 (by decide) Tf rfl rfl (by decide) cA (aq _ _) (fun LX Cs=>?_);refine ad ⟨rfl,rfl,rfl,?_⟩;refine cd (M:=M) ar rfl rfl (by assumption) (by repeat (first|exact aq _ _|refine aT (a7 (by assumption)) ?_)) (fun Ko=>?_);refine bp (v':= .int .i64 (e.2)) rfl ?_;replace Ko: -9223372036854775808≤(e.2:Int)∧e.2≤9223372036854775807:=Ko;refine ad ⟨rfl,rfl,rfl,?_⟩;refine ae rfl rfl ?_;refine ad ⟨rfl,rfl,rfl,?_⟩;refine aR rfl ⟨_,rfl⟩ rfl ?_;refine ad ⟨rfl,rfl,rfl,?_⟩;refine aS (o':=3) dg rfl rfl I3 (by decide) rfl rfl ?_;refine ad ⟨rfl,rfl,rfl,?_⟩;refine aE ar rfl rfl rfl (by first|assumption|exact bS wu (by assumption)) rfl ?_;refine ad ⟨rfl,rfl,rfl,?_⟩;refine eM rfl rfl rfl ?_;refine ad ⟨rfl,rfl,rfl,?_⟩;refine fE ?_;refine bF rfl (fun c4=>?_) (fun c4=>?_)
  ·refine aj (ah (ai rfl rfl (ad (aH ?_))));have ea:jY last e=12:=by unfold jY;rw[if_neg (fun h=>h (by simpa using c2)),if_pos c4]
   exact aP rfl rfl ⟨_,hM,S,by rw[ea],fun _=>⟨mb,vl,es,clock,gb,dB,dZ,hB,CB,ho,hW,hR,zl⟩,fun h=>absurd (ea▸h) (by decide)⟩
  ·refine aU (aj (ah ?_));refine aJ (M:=M) (A:=RT.en) (B:=RT.dc) cO rfl rfl k5 (by decide) P3 rfl rfl (by decide) cA (aq _ _) (fun Qh FG=>?_);refine cw (M:=M) (A:=RT.dc) aO rfl k5 (by decide) rfl rfl rfl FG (aq _ _) (fun Mh tF=>?_);refine aM rfl rfl Wv (zK _ hM tF hF hl) (fun r6 w6 hc=>?_);obtain⟨a6,b6,rfl,ha,oa,s6⟩:=hc;have:=ak gb;replace dB:=(s6.mem _ this).2 dB;replace gb:=s6.aG gb;replace cA:=cA.le (by decide) s6.le;replace ho:=ho.bg s6;replace dZ:=(s6.mem _ (ak hW.at_)).2 dZ;replace hW:=hW.bg s6;replace hR:=hR.bg s6;replace hM:=s6.lt hM;have:=S.size;replace S:=S.ax s6;refine ae rfl rfl (bO rfl rfl rfl (bO rfl rfl rfl (ai rfl rfl (ai rfl rfl (ad (aj (aj (ah (ae rfl rfl (bU fF rfl ha rfl (ae rfl rfl ?_)))))))))));refine ad (bj ?_);refine dI (σ:=Nat) (fun q=>[(0,.pointer (some ⟨b,0,none⟩)),(3,u0),(7,b6),(30,a6),(31,.int .i64 ((cD (o6 e)).length:Int)),(32,.int .i64 (q:Int))]) (fun q w=>∃M' es clock,Lt M' w∧Step M w0 M' w (Gr M Z)∧ch RT.en M' w u0 e∧(RT.fd.sl).V M' w (cD (o6 e)) a6∧(((RT.int .i64).sl).sl).V M' w ((cD (o6 e)).map (posOf (o6 e))) b6∧Buf Z M' w B b mb vl L words last (Gs L (o6 e) q) (fun x=>x∈gI L∨x∈((cD (o6 e)).take q).map dd) es clock∧q≤(cD (o6 e)).length) (fun q=>(cD (o6 e)).length-q) 0 (.cons rfl (.cons rfl (.cons rfl (.cons rfl (.cons rfl (.cons rfl .nil)))))) ?_ ?_
   ·exact⟨_,es,clock,hM,S,cA,ha,oa,⟨gb,dB,dZ,hB,CB,ho,hW,hR.congr (fun k=>Gt _ _ _) (fun k=>by simp),zl⟩,bH _⟩
   ·clear hM S cA ha oa gb dB dZ ho hW hR;rintro i w ⟨M1,es,clock,hM,S,cA,ha,oa,⟨gb,dB,dZ,_,_,ho,hW,hR,_⟩,hi⟩;refine aj (ah (cf rfl rfl rfl (ad (aj ?_))));refine bF rfl (fun c8=>?_) (fun c8=>?_)
    ·refine aU (aj (bj (aj (ah (ae rfl rfl ?_)))));refine dq (M:=M1) fF rq rfl rfl rfl ha (aq _ _) (by omega) (fun Wy t HK Gy=>?_);rw[aC]at HK;have H7:=aN HK;have C6:=hF.term H7;refine cw (M:=M1) (A:=RT.fd) cb rfl rq (by decide) rfl rfl rfl Gy (aq _ _) (fun Wz Gz=>?_);obtain rfl:=k7 Gz;refine ff M1 rq rfl (fun tU PG ad5 ad6 ma np=>?_);obtain⟨rC,GA⟩:∃M',M'=ins M1 tU:=⟨_,rfl⟩;rw[←GA]at np;have xS:rC tU:=by rw[GA];exact .inl rfl
     change PG.heap[tU]? =some (.cells #[.string ⟨#[]⟩,.string ⟨#[]⟩] _ _)at ma;have:=ak gb;replace dB:=(np.mem _ this).2 dB;replace gb:=np.aG gb;replace cA:=cA.le (by decide) np.le;replace ha:=ha.le np.le;replace oa:=oa.le np.le;replace ho:=ho.bg np;replace dZ:=(np.mem _ (ak hW.at_)).2 dZ;replace hW:=hW.bg np;replace hR:=hR.bg np;replace hM:=np.lt hM;have:=S.size;replace S:=S.ax np;refine ai rfl rfl ?_;refine fj (M:=rC) (vs:=[.string ⟨t.1.toArray⟩,.string ⟨t.2.toArray⟩]) rq rfl rfl (Br rfl Gz) rfl rfl ma xS (fun w9 g9 s9=>?_);have:=ak gb;replace dB:=(s9.mem _ this).2 dB;replace gb:=s9.bE gb (fun hk=>by have hk:_=_:=hk;omega);have:=ak ma;replace xS:=(s9.mem _ this).2 xS;replace cA:=cA.le (by decide) s9.le;replace ha:=ha.le s9.le;replace oa:=oa.le s9.le;replace ho:=ho.step s9 (fun c hc (h:_=_)=>by first|exact ho.eL gb (by decide) (h▸hc)|exact ho.eL ma (by decide) (h▸hc));replace dZ:=(s9.mem _ (ak hW.at_)).2 dZ;replace hW:=hW.step s9 (by first|exact fun h=>ho.ji hW.at_ h|exact fun(h:mb=b)=>Kg h.symm|exact fun(h:mb=tU)=>by have h9:=hW.at_;rw[h,ma]at h9;cases h9);replace hR:=hR.step s9 (by first|exact fun k v c hv hc h=>(hR.o k v hv).iM ho (by decide) hc h|exact fun k v c hv hc (h:c=b)=>(hR.o k v hv).eL gb (by decide) (h▸hc)|exact fun k v c hv hc (h:c=tU)=>(hR.o k v hv).eL ma (by decide) (h▸hc));replace hM:=s9.lt hM;have:=S.size;replace S:=S.trans s9 (fun k hk h=>by have h:_=_:=h;subst h;first|(exfalso;omega)|(show _≤_;omega)|exact⟨by first|omega|assumption,(S.mem _ hk).1 ((s9.mem _ (ak ma)).1 xS)⟩|exact .inl rfl|exact .inr rfl|exact .inr (.inl rfl)|exact .inr (.inr rfl)|exact rfl);have Kp:=g9;clear ma;have ma:=Kp;clear Kp;refine ad (aj (ah (gG (vs:=[.string ⟨t.1.toArray⟩,.string ⟨t.2.toArray⟩]) cb rfl rq rfl rfl rfl ma ?_)));refine aM rfl rfl Ta (F3 (t:=t) _ hM (by omega) (by omega)) (fun r10 VK hc=>?_)
     obtain⟨rfl,qi⟩:=hc;have:=ak gb;replace dB:=(qi.mem _ this).2 dB;replace gb:=qi.aG gb;replace cA:=cA.le (by decide) qi.le;replace ha:=ha.le qi.le;replace oa:=oa.le qi.le;replace ho:=ho.bg qi;replace dZ:=(qi.mem _ (ak hW.at_)).2 dZ;replace hW:=hW.bg qi;replace hR:=hR.bg qi;replace hM:=qi.lt hM;have:=S.size;replace S:=S.ax qi;refine ai rfl rfl (ad ?_);obtain⟨v10,tQ⟩:=dF.ex jh es (sv (dd t));apply T.oh 21 [0,1,2,3,4,5,6,7,8,9,10] 2 (jb v10) mixed rfl rfl rfl rfl;intro I8 MJ;have jJ:=MJ rC;have:=ak gb;replace dB:=(jJ.mem _ this).2 dB;replace gb:=jJ.aG gb;replace cA:=cA.le (by decide) jJ.le;replace ha:=ha.le jJ.le;replace oa:=oa.le jJ.le;replace ho:=ho.bg jJ;replace dZ:=(jJ.mem _ (ak hW.at_)).2 dZ;replace hW:=hW.bg jJ;replace hR:=hR.bg jJ;replace hM:=jJ.lt hM;have:=S.size;replace S:=S.ax jJ;refine ae rfl rfl ?_;refine ad ⟨rfl,rfl,rfl,?_⟩;refine aR rfl ⟨_,rfl⟩ rfl ?_;refine ad ⟨rfl,rfl,rfl,?_⟩;refine aS (o':=1) dg rfl rfl Bu (by decide) rfl rfl ?_;refine ad ⟨rfl,rfl,rfl,?_⟩;refine aE fT rfl rfl rfl (by first|assumption|exact bS jJ (by assumption)) rfl ?_;refine ad ⟨rfl,rfl,rfl,?_⟩;refine ae rfl rfl ?_;refine ad ⟨rfl,rfl,rfl,?_⟩;refine ae rfl rfl ?_;refine ad ⟨rfl,rfl,rfl,?_⟩;refine aR rfl ⟨_,rfl⟩ rfl ?_;refine ad ⟨rfl,rfl,rfl,?_⟩;refine aS (o':=1) dg rfl rfl Bu (by decide) rfl rfl ?_;refine ad ⟨rfl,rfl,rfl,?_⟩;refine aE fT rfl rfl rfl (by first|assumption|exact bS jJ (by assumption)) rfl ?_;refine ad ⟨rfl,rfl,rfl,?_⟩;refine ae rfl rfl ?_;refine ad ⟨rfl,rfl,rfl,?_⟩;obtain⟨kl,C3⟩:=Gq (dd t) (by unfold dd;simp;omega);refine Rg.pJ fT pQ jZ rfl rfl rfl C3 hW (fun WA WB=>?_);obtain rfl:v10=WA:=hW.val_one tQ WB
     have xd:=I7 hLF (o6 e) i (dd t);have Ed:(cD (o6 e)).length≤500:=wo hF;refine ad ⟨rfl,rfl,rfl,?_⟩;refine ae rfl rfl ?_;refine ad ⟨rfl,rfl,rfl,?_⟩;refine aR rfl ⟨_,rfl⟩ rfl ?_;refine ad ⟨rfl,rfl,rfl,?_⟩;refine aS (o':=0) dg rfl rfl QO (by decide) rfl rfl ?_;refine ad ⟨rfl,rfl,rfl,?_⟩;refine aE gp rfl rfl rfl (by first|assumption|exact bS jJ (by assumption)) rfl ?_;refine ad ⟨rfl,rfl,rfl,?_⟩;refine gN gp rfl ho rfl ?_;refine ad ⟨rfl,rfl,rfl,?_⟩;refine ae rfl rfl ?_;refine ad ⟨rfl,rfl,rfl,?_⟩;refine ae rfl rfl ?_;refine ad ⟨rfl,rfl,rfl,?_⟩;refine dq (M:=rC) Tryz.underlying171 nZ rfl rfl rfl oa (aq _ _) (by simp;omega) (fun u18 ps QP WC=>?_);rw[aC,eE,HK]at QP;obtain rfl:=bQ QP;refine ad ⟨rfl,rfl,rfl,?_⟩;refine cg (M:=rC) av rfl rfl rfl rfl rfl WC (aq _ _) (fun v19 QQ=>?_);refine ad ⟨rfl,rfl,rfl,?_⟩;refine dX (places:=[(0,1),(1,1)]) bK gC Il rfl ⟨_,_,rfl,rfl,_,_,rfl,rfl,rfl⟩ (out:=[_,_]) ⟨0,[_],rfl,rfl,by simp[Value.cells],1,[_],rfl,iI QQ,by simp[Value.cells],rfl⟩ ?_;have GB:RT.po.V rC _ ((L.length:Int),posOf (o6 e) t) _:=ei (gv (by omega)) QQ rfl rfl rfl rfl;refine ad ⟨rfl,rfl,rfl,?_⟩;refine fE ?_;have oy:=hR.o _ _ tQ;refine⟨jP ⟨gr,⟨bJ.nilCheck rfl,⟨gq dg rfl Bu (by decide),⟨ep rfl gb (fun h=>oy.eL gb (by decide) h),⟨gr,⟨gr,⟨bJ.nilCheck rfl,⟨gq dg rfl Bu (by decide),⟨ep rfl gb (fun h=>oy.eL gb (by decide) h),⟨gr,⟨bJ.pJ fT pQ jZ rfl rfl C3 hW (fun h=>oy.ji hW.at_ h),trivial⟩⟩⟩⟩⟩⟩⟩⟩⟩⟩⟩,?_⟩;have kp:=jw (jb v10) I8;refine eW (A:=RT.po) (hn:=by decide) (M:=rC) aX gC (by decide) rfl rfl hM (GB) (.inl rfl) (fun WD WE Ja kD=>?_)
     have:=ak gb;replace dB:=(kD.mem _ this).2 dB;replace gb:=kD.aG gb;replace cA:=cA.le (by decide) kD.le;replace ha:=ha.le kD.le;replace oa:=oa.le kD.le;replace ho:=ho.bg kD;replace dZ:=(kD.mem _ (ak hW.at_)).2 dZ;replace hW:=hW.bg kD;replace hR:=hR.bg kD;replace hM:=kD.lt hM;have:=S.size;replace S:=S.ax kD;refine(fun(kp:dR _ _ _)=>ad ⟨rfl,rfl,fun _=>kp,?_⟩) (by first|exact kp|exact kp.qu (by assumption)|exact kp.goN (by assumption)|exact kp.go (by assumption) (fun _ _ h=>by first|exact h|exact h.elim));refine Rg.kO (M:=rC) (base:=B) aX gC rfl rfl rfl rfl (hR.o _ _ tQ) Ja (aq _ _) (by simp;omega) (by simp;omega) (by have:=S.size;omega) (fun v22 w22 WG GC WH=>?_);have oy:=hR.o _ _ tQ;have aau:=hW.at_;have QR:v10.ownBlock≠some mb:=oy.ji hW.at_;have Kq:=ho.step GC (fun c hc h=>ho.iM oy (by decide) hc h);have Bv:=(GC.mem _ (ak hW.at_)).2 dZ;have Jb:=hW.step GC QR;have QS:=GC.bE gb (fun h=>oy.eL gb (by decide) h);have MK:=(GC.mem _ (ak gb)).2 dB;have S22:=S.trans GC (fun k hk h=>⟨hR.z _ _ k tQ h,(S.mem k hk).1 (oy.mut_ k h)⟩);have WI:=GC.lt hM;replace cA:=cA.le (by decide) GC.le;replace ha:=ha.le GC.le;replace oa:=oa.le GC.le;refine(fun(kp:dR _ _ _)=>ad ⟨rfl,rfl,fun _=>kp,?_⟩) (by first|exact kp|exact kp.qu (by assumption)|exact kp.goN (by assumption)|exact kp.go (by assumption) (fun _ _ h=>by first|exact h|exact h.elim));refine Rg.IV fT pQ rfl rfl rfl C3 Jb Bv (fun w23 WK WL WM WN ML HO=>?_);have WO:=hR.put (fun c hc=>hZ c (by have:=S.size;omega)) tQ WG GC WH Jb.at_ HO ML WN;replace cA:=cA.le (by decide) HO.le;replace ha:=ha.le HO.le;replace oa:=oa.le HO.le;have WQ:=Kq.step HO (fun c hc (h:c=mb)=>Kq.ji Jb.at_ (h▸hc));have WR:=HO.bE QS Kg;have MM:=(HO.mem _ (ak QS)).2 MK
     have MN:=(HO.mem _ (ak Jb.at_)).2 Bv;have WS:=HO.lt WI;have S23:=S22.trans HO (fun k hk (h:k=mb)=>⟨by rw[h];exact CB,(S22.mem k hk).1 (by rw[h];exact Bv)⟩);refine ad ⟨rfl,rfl,fun h=>absurd rfl h,?_⟩;refine uE (ah (bz rfl rfl rfl (by omega) (ae rfl rfl (ad ?_))));refine⟨rfl,i+1,(.cons rfl (.cons rfl (.cons rfl (.cons rfl (.cons rfl (.cons rfl .nil)))))),?_,?_⟩
     ·exact⟨_,WK,WL,WS,S23,cA,ha,oa,⟨WR,MM,MN,hB,CB,WQ,WM,WO.congr (fun k=>Gu HK k) (fun k=>by rw[cr,HK,cY,jR,cZ,or_assoc];simp),zl⟩,by omega⟩
     ·omega
    ·refine cM (aj ?_);apply T.oh 6 [0,1,2,3,4] 3 (jb vl) mixed rfl rfl rfl rfl;intro L3 L4;have l6:=L4 M1;have:=ak gb;replace dB:=(l6.mem _ this).2 dB;replace gb:=l6.aG gb;replace cA:=cA.le (by decide) l6.le;replace ha:=ha.le l6.le;replace oa:=oa.le l6.le;replace ho:=ho.bg l6;replace dZ:=(l6.mem _ (ak hW.at_)).2 dZ;replace hW:=hW.bg l6;replace hR:=hR.bg l6;replace hM:=l6.lt hM;have:=S.size;replace S:=S.ax l6;refine ae rfl rfl ?_;refine ad ⟨rfl,rfl,rfl,?_⟩;refine ae rfl rfl ?_;refine ad ⟨rfl,rfl,rfl,?_⟩;refine aR rfl ⟨_,rfl⟩ rfl ?_;refine ad ⟨rfl,rfl,rfl,?_⟩;refine aS (o':=0) dg rfl rfl QO (by decide) rfl rfl ?_;refine ad ⟨rfl,rfl,rfl,?_⟩;refine aE gp rfl rfl rfl gb rfl (bp (v':=vl) rfl ?_);refine ad ⟨rfl,rfl,rfl,?_⟩;refine cw (M:=M1) (A:=RT.en) cO rfl yR (by decide) rfl rfl rfl cA (aq _ _) (fun J9 xD=>?_);refine ad ⟨rfl,rfl,rfl,?_⟩;refine fE ?_;refine⟨jP ⟨gr,⟨gr,⟨bJ.nilCheck rfl,⟨gq dg rfl QO (by decide),⟨ep rfl gb (fun h=>ho.eL gb (by decide) h),trivial⟩⟩⟩⟩⟩,?_⟩;have kp:=jw (jb vl) L3;refine aM rfl rfl Ww (Gg _ hM xD (by have:=hF.few;omega)) (fun aaw Om hc=>?_);obtain⟨Bw,rS⟩:=hc;have:=ak gb;replace dB:=(rS.mem _ this).2 dB;replace gb:=rS.aG gb;replace cA:=cA.le (by decide) rS.le;replace ha:=ha.le rS.le;replace oa:=oa.le rS.le;replace ho:=ho.bg rS;replace dZ:=(rS.mem _ (ak hW.at_)).2 dZ;replace hW:=hW.bg rS;replace hR:=hR.bg rS;replace hM:=rS.lt hM;have:=S.size;replace S:=S.ax rS;refine(fun(kp:dR _ _ _)=>ad ⟨rfl,rfl,fun _=>kp,?_⟩) (by first|exact kp|exact kp.qu (by assumption)|exact kp.goN (by assumption)|exact kp.go (by assumption) (fun _ _ h=>by first|exact h|exact h.elim));refine eW (A:=RT.en) (hn:=by decide) (M:=M1) gp yR (by decide) rfl rfl hM (Bw) (.inl rfl) (fun aax aay MO mE=>?_)
     have:=ak gb;replace dB:=(mE.mem _ this).2 dB;replace gb:=mE.aG gb;replace cA:=cA.le (by decide) mE.le;replace ha:=ha.le mE.le;replace oa:=oa.le mE.le;replace Bw:=Bw.le mE.le;replace ho:=ho.bg mE;replace dZ:=(mE.mem _ (ak hW.at_)).2 dZ;replace hW:=hW.bg mE;replace hR:=hR.bg mE;replace hM:=mE.lt hM;have:=S.size;replace S:=S.ax mE;refine(fun(kp:dR _ _ _)=>ad ⟨rfl,rfl,fun _=>kp,?_⟩) (by first|exact kp|exact kp.qu (by assumption)|exact kp.goN (by assumption)|exact kp.go (by assumption) (fun _ _ h=>by first|exact h|exact h.elim));refine Rg.kO (M:=M1) (base:=B) gp yR rfl rfl rfl rfl ho MO (aq _ _) (by simp;omega) (by simp;omega) (by have:=S.size;omega) (fun zO aaz MP rD WT=>?_);replace dB:=(rD.mem _ (ak gb)).2 dB
     have zl':∀c,zO.ownBlock=some c→Z c:=fun c hc=>by
      rcases WT c hc with h|h
      ·exact hZ c (by have:=S.size;omega)
      ·exact zl c h
     replace hR:=hR.step rD (fun k v c hv hc h=>(hR.o k v hv).iM ho (by decide) hc h);replace dZ:=(rD.mem _ (ak hW.at_)).2 dZ;replace hW:=hW.step rD (fun h=>ho.ji hW.at_ h);replace gb:=rD.bE gb (fun h=>ho.eL gb (by decide) h);replace cA:=cA.le (by decide) rD.le;replace S:=S.trans rD (fun k hk h=>⟨zl k h,(S.mem k hk).1 (ho.mut_ k h)⟩);replace hM:=rD.lt hM;replace ho:=MP;obtain⟨Kr,WU⟩:∃M',M'=ja M1 zO:=⟨_,rfl⟩;rw[←WU]at hR dZ cA S hM ho dB;refine(fun(kp:dR _ _ _)=>ad ⟨rfl,rfl,fun _=>kp,?_⟩) (by first|exact kp|exact kp.qu (by assumption)|exact kp.goN (by assumption)|exact kp.go (by assumption) (fun _ _ h=>by first|exact h|exact h.elim));refine aR rfl ⟨_,rfl⟩ rfl ?_;refine ad ⟨rfl,rfl,fun h=>absurd rfl h,?_⟩;refine aS (o':=0) dg rfl rfl QO (by decide) rfl rfl ?_;refine ad ⟨rfl,rfl,fun h=>absurd rfl h,?_⟩;refine bP (M:=Kr) QO rfl rfl gb rfl (by obtain⟨_,_,he,_⟩:=ho.isSlice;rw[he];rfl) dB (fun MQ GD mc=>?_);change MQ.heap[_]? =some (Obj.cells #[zO,.map (some mb),.int .i64 words,.int .i64 last] _ _)at GD;have:=ak gb;replace dB:=(mc.mem _ this).2 dB;replace cA:=cA.le (by decide) mc.le;replace ho:=ho.step mc (fun c hc (h:_=_)=>by first|exact ho.eL gb (by decide) (h▸hc)|exact ho.eL ma (by decide) (h▸hc));replace dZ:=(mc.mem _ (ak hW.at_)).2 dZ;replace hW:=hW.step mc (by first|exact fun h=>ho.ji hW.at_ h|exact fun(h:mb=b)=>Kg h.symm|exact fun(h:mb=tU)=>by have h9:=hW.at_;rw[h,ma]at h9;cases h9);replace hR:=hR.step mc (by first|exact fun k v c hv hc h=>(hR.o k v hv).iM ho (by decide) hc h|exact fun k v c hv hc (h:c=b)=>(hR.o k v hv).eL gb (by decide) (h▸hc)|exact fun k v c hv hc (h:c=tU)=>(hR.o k v hv).eL ma (by decide) (h▸hc));replace hM:=mc.lt hM;have:=S.size;replace S:=S.trans mc (fun k hk h=>by have h:_=_:=h;subst h;first|(exfalso;omega)|(show _≤_;omega)|exact⟨by first|omega|assumption,(S.mem _ hk).1 ((mc.mem _ (ak gb)).1 dB)⟩|exact .inl rfl|exact .inr rfl|exact .inr (.inl rfl)|exact .inr (.inr rfl)|exact rfl)
     have F0:=GD;clear gb;have gb:=F0;clear F0;refine ad ⟨rfl,rfl,fun h=>absurd rfl h,?_⟩;refine uE (aj ?_);apply T.oh 6 [0,1,2,3] 1 aA mixed rfl rfl rfl rfl;intro MR GF;have oc:=GF Kr;have:=ak gb;replace dB:=(oc.mem _ this).2 dB;replace gb:=oc.aG gb;replace cA:=cA.le (by decide) oc.le;replace ho:=ho.bg oc;replace dZ:=(oc.mem _ (ak hW.at_)).2 dZ;replace hW:=hW.bg oc;replace hR:=hR.bg oc;replace hM:=oc.lt hM;have:=S.size;replace S:=S.ax oc;refine ae rfl rfl ?_;refine ad ⟨rfl,rfl,rfl,?_⟩;refine aR rfl ⟨_,rfl⟩ rfl ?_;refine ad ⟨rfl,rfl,rfl,?_⟩;refine aS (o':=2) dg rfl rfl I3 (by decide) rfl rfl ?_;refine ad ⟨rfl,rfl,rfl,?_⟩;refine aE ar rfl rfl rfl (by first|assumption|exact bS oc (by assumption)) rfl ?_;refine ad ⟨rfl,rfl,rfl,?_⟩;refine aJ (M:=Kr) (A:=RT.en) (B:=RT.dc) cO rfl rfl k5 (by decide) P3 rfl rfl (by decide) cA (aq _ _) (fun aaA MS=>?_);refine ad ⟨rfl,rfl,rfl,?_⟩;refine cw (M:=Kr) (A:=RT.dc) aO rfl k5 (by decide) rfl rfl rfl MS (aq _ _) (fun aaB MT=>?_);refine ad ⟨rfl,rfl,rfl,?_⟩;refine fE ?_;refine⟨jP ⟨gr,⟨bJ.nilCheck rfl,⟨gq dg rfl I3 (by decide),⟨ep rfl gb (fun h=>h),trivial⟩⟩⟩⟩,?_⟩;have kp:=jw aA MR;refine aM rfl rfl Wx (zq _ hM MT hl hF.few) (fun r14 Qn hc=>?_);obtain⟨rfl,jy⟩:=hc;have:=ak gb;replace dB:=(jy.mem _ this).2 dB;replace gb:=jy.aG gb;replace cA:=cA.le (by decide) jy.le;replace ho:=ho.bg jy;replace dZ:=(jy.mem _ (ak hW.at_)).2 dZ;replace hW:=hW.bg jy;replace hR:=hR.bg jy;replace hM:=jy.lt hM;have:=S.size;replace S:=S.ax jy;refine(fun(kp:dR _ _ _)=>ad ⟨rfl,rfl,fun _=>kp,?_⟩) (by first|exact kp|exact kp.qu (by assumption)|exact kp.goN (by assumption)|exact kp.go (by assumption) (fun _ _ h=>by first|exact h|exact h.elim))
     have:=hF.many;refine bz rfl rfl rfl (by omega) ?_;refine ad ⟨rfl,rfl,fun h=>absurd rfl h,?_⟩;refine aR rfl ⟨_,rfl⟩ rfl ?_;refine ad ⟨rfl,rfl,fun h=>absurd rfl h,?_⟩;refine aS (o':=2) dg rfl rfl I3 (by decide) rfl rfl ?_;refine ad ⟨rfl,rfl,fun h=>absurd rfl h,?_⟩;refine bP (M:=Kr) I3 rfl rfl gb rfl (rfl) dB (fun MU GG me=>?_);change MU.heap[_]? =some (Obj.cells #[zO,.map (some mb),.int .i64 (words+((o6 e).length:Int)),.int .i64 last] _ _)at GG;have:=ak gb;replace dB:=(me.mem _ this).2 dB;replace cA:=cA.le (by decide) me.le;replace ho:=ho.step me (fun c hc (h:_=_)=>by first|exact ho.eL gb (by decide) (h▸hc)|exact ho.eL ma (by decide) (h▸hc));replace dZ:=(me.mem _ (ak hW.at_)).2 dZ;replace hW:=hW.step me (by first|exact fun h=>ho.ji hW.at_ h|exact fun(h:mb=b)=>Kg h.symm|exact fun(h:mb=tU)=>by have h9:=hW.at_;rw[h,ma]at h9;cases h9);replace hR:=hR.step me (by first|exact fun k v c hv hc h=>(hR.o k v hv).iM ho (by decide) hc h|exact fun k v c hv hc (h:c=b)=>(hR.o k v hv).eL gb (by decide) (h▸hc)|exact fun k v c hv hc (h:c=tU)=>(hR.o k v hv).eL ma (by decide) (h▸hc));replace hM:=me.lt hM;have:=S.size;replace S:=S.trans me (fun k hk h=>by have h:_=_:=h;subst h;first|(exfalso;omega)|(show _≤_;omega)|exact⟨by first|omega|assumption,(S.mem _ hk).1 ((me.mem _ (ak gb)).1 dB)⟩|exact .inl rfl|exact .inr rfl|exact .inr (.inl rfl)|exact .inr (.inr rfl)|exact rfl);have F0:=GG;clear gb;have gb:=F0;clear F0;refine ad ⟨rfl,rfl,fun h=>absurd rfl h,?_⟩;refine uE (aj (ah (ae rfl rfl ?_)));refine aJ (M:=Kr) (A:=RT.en) (B:=RT.int .i64) cO rfl rfl I3 (by decide) Tf rfl rfl (by decide) cA (aq _ _) (fun aaC WV=>?_);refine cd (M:=Kr) ar rfl rfl (by assumption) (by repeat (first|exact aq _ _|refine aT (a7 (by assumption)) ?_)) (fun GH=>?_)
     refine bp (v':= .int .i64 (e.2)) rfl ?_;replace GH: -9223372036854775808≤(e.2:Int)∧e.2≤9223372036854775807:=GH;refine aR rfl ⟨_,rfl⟩ rfl (aS (o':=3) dg rfl rfl I3 (by decide) rfl rfl ?_);refine bP (M:=Kr) I3 rfl rfl gb rfl (rfl) dB (fun Ks Ku iv=>?_);change Ks.heap[_]? =some (Obj.cells #[zO,.map (some mb),.int .i64 (words+((o6 e).length:Int)),.int .i64 e.2] _ _)at Ku;have:=ak gb;replace dB:=(iv.mem _ this).2 dB;replace cA:=cA.le (by decide) iv.le;replace ho:=ho.step iv (fun c hc (h:_=_)=>by first|exact ho.eL gb (by decide) (h▸hc)|exact ho.eL ma (by decide) (h▸hc));replace dZ:=(iv.mem _ (ak hW.at_)).2 dZ;replace hW:=hW.step iv (by first|exact fun h=>ho.ji hW.at_ h|exact fun(h:mb=b)=>Kg h.symm|exact fun(h:mb=tU)=>by have h9:=hW.at_;rw[h,ma]at h9;cases h9);replace hR:=hR.step iv (by first|exact fun k v c hv hc h=>(hR.o k v hv).iM ho (by decide) hc h|exact fun k v c hv hc (h:c=b)=>(hR.o k v hv).eL gb (by decide) (h▸hc)|exact fun k v c hv hc (h:c=tU)=>(hR.o k v hv).eL ma (by decide) (h▸hc));replace hM:=iv.lt hM;have:=S.size;replace S:=S.trans iv (fun k hk h=>by have h:_=_:=h;subst h;first|(exfalso;omega)|(show _≤_;omega)|exact⟨by first|omega|assumption,(S.mem _ hk).1 ((iv.mem _ (ak gb)).1 dB)⟩|exact .inl rfl|exact .inr rfl|exact .inr (.inl rfl)|exact .inr (.inr rfl)|exact rfl);have F0:=Ku;clear gb;have gb:=F0;clear F0;refine ad (aj (ah (ai rfl rfl (ad (aH ?_)))));have ea:jY last e=0:=by unfold jY;rw[if_neg (fun h=>h (by simpa using c2)),if_neg c4]
     exact aP rfl rfl ⟨_,hM,S,by rw[ea],fun h=>absurd ea h,fun _=>⟨mb,_,es,clock,gb,dB,dZ,hB,CB,ho,hW,hR.congr (fun k=>(I6 (by omega) k).symm) (fun k=>by rw[Bq,cZ,bI (by omega)]),zl'⟩⟩
end Go.K

/- What the law 'EraseJoins' needs of walks and plain Lean, part 3: nothing is assumed beyond the texts that it imports. -/
import Derived.Deep.Draws
import Derived.DeepKeys4
import Derived.Ground.GgzProg
import Derived.Ground.SlgmProg
import Derived.Ground.SlsfProg
import Derived.KernelRfl
import Derived.Lib.Bytealg
import Derived.Shelf.SlGeneric
import Derived.Shelf.SlIter.Nil
import Derived.Shelf.SlIterI.Nil
import Derived.Shelf.SlSortCmp.NoneTotal
import Derived.Shelf.SortM.Plain
import Derived.Shelf.SortM.SortNone
import Derived.Sort.Grow
import Derived.Sort.KeysCollected
import Derived.Sort.Walk0
import Derived.Test.YtohfoenhmkfjkaaGreatDoorProg
import Derived.Test.YtohfoenhmkfjkaaGreatDoorZEraseJoins1
import Derived.Test.YtohfoenhmkfjkaaGreatDoorZEraseJoins2
set_option linter.unusedVariables false
set_option linter.unusedSimpArgs false
theorem kd:type_of% @Go.K.Rg.kH:=@Go.K.Rg.kH
namespace Go.K
open Go.Proofs
set_option maxRecDepth 10000
theorem u1 {M:aA} {d:Dc} {v0:Value} (w0:World) (hM:Lt M w0) (hv:RT.dc.V M w0 d v0) (hl:∀f∈d.2,f.1.length≤900000∧f.2.length≤900000):
  Spec Tryz.prog 117 #[v0] w0 (fun v w=>v= .int .i64 (kh d)∧Step M w0 M w aC):=by
 have jH:=hM;refine aX (args:=[_]) (fn:=Tryz.f117) Tryz.func117 rfl (n:=66) Tryz.ntmps117 ?_;have S:Step M w0 M w0 aC:=(an _ _).cb (fun _ h=>h.elim) (fun _ h=>h.elim);refine aj (ah ?_);refine kd (A:=RT.dc) rfl rfl hM hv rfl (fun u0 w1 cz s0 _=>?_);replace hM:=s0.lt hM;have:=S.size;replace S:=S.ay s0;refine ai rfl rfl (ad (aj (aj (ah ?_))));refine aH (M:=M) (A:=RT.dc) (B:=(RT.fd).sl) aM rfl rfl pY (by decide) (CP) rfl rfl (by decide) (by assumption) (by repeat (first|exact aq _ _|refine aT (aY (by assumption)) ?_)) (fun uc jt=>?_);refine cf (M:=M) aU rfl rfl rfl rfl rfl (by assumption) (by repeat (first|exact aq _ _|refine aT (aY (by assumption)) ?_)) (fun ud kr=>?_);refine bT aU rfl kr rfl (nD rfl rfl rfl (ad ?_));refine bI rfl (fun c1=>?_) (fun c1=>?_)
 ·refine aj (ah (ai rfl rfl (ad (aJ ?_))));exact aO rfl rfl ⟨by rw[kh,if_pos (by omega)],S.back⟩
 ·refine aV (aj (ah (ai rfl rfl (ad (aj (aj (ah (ai rfl rfl (ad (bj ?_))))))))));refine dF (σ:=Nat×Nat) (fun q=>[(1,u0),(3,.int .i64 (q.2:Int)),(4,.int .i64 (q.1:Int))]) (fun q w=>Lt M w∧Step M w0 M w aC∧ch RT.dc M w u0 d∧kh d=sM (d.2.take q.1) (d.2.drop q.1) q.2∧q.1≤d.2.length∧q.2≤900001*q.1∧d.2.length≤8) (fun q=>d.2.length-q.1) (0,0) (.cons rfl (.cons rfl (.cons rfl .nil))) ?_ ?_
  ·exact⟨hM,S,cz,by rw[kh,if_neg (by omega)];rfl,bH _,bh _,by omega⟩
  ·rintro⟨i,n⟩ w ⟨hM,S,cz,Aw,hi,hn,Sa⟩;dsimp only at Aw hi hn ⊢;refine aj (aj (ah (ae rfl rfl ?_)));refine aH (M:=M) (A:=RT.dc) (B:=(RT.fd).sl) aM rfl rfl pY (by decide) (CP) rfl rfl (by decide) (by assumption) (by repeat (first|exact aq _ _|refine aT (aY (by assumption)) ?_)) (fun UX Jp=>?_);refine cf (M:=M) aU rfl rfl rfl rfl rfl (by assumption) (by repeat (first|exact aq _ _|refine aT (aY (by assumption)) ?_)) (fun UY Jq=>?_);refine bT aU rfl Jq rfl (cd rfl rfl rfl (ad ?_));refine bI rfl (fun c5=>?_) (fun c5=>?_)
   ·refine aV (aj (bj (aj (ah ?_))));refine aH (M:=M) (A:=RT.dc) (B:=(RT.fd).sl) aM rfl rfl pY (by decide) (CP) rfl rfl (by decide) (by assumption) (by repeat (first|exact aq _ _|refine aT (aY (by assumption)) ?_)) (fun Pu BV=>?_);refine cf (M:=M) aU rfl rfl rfl rfl rfl (by assumption) (by repeat (first|exact aq _ _|refine aT (aY (by assumption)) ?_)) (fun UZ Jr=>?_);refine ae rfl rfl ?_;refine dq (M:=M) aU hU rfl rfl rfl Jr (aq _ _) (by omega) (fun acp x yE Y4=>?_);rw[az]at yE;refine aH (M:=M) (A:=RT.fd) (B:=RT.str) bS rfl rfl I9 (by decide) (K8) rfl rfl (by decide) (by assumption) (by repeat (first|exact aq _ _|refine aT (aY (by assumption)) ?_)) (fun acq Pv=>?_);refine cf (M:=M) aD rfl rfl rfl rfl rfl Pv (aq _ _) (fun acr Pw=>?_);obtain rfl:=fy Pw;have iy:=BT (n:=n) yE;have uJ:=hl _ (aL yE);refine aP rfl rfl OE (sN x.1 (by omega) _) (fun r7 w7 hc=>?_);obtain⟨rfl,rfl⟩:=hc;refine ai rfl rfl (ad (aj (aj (ah (ae rfl rfl (Rg.not rfl rfl (bz (v':= .bool (decide (eM x.1=false))) (by cases eM x.1<;>rfl) (ad ?_))))))));refine bI rfl (fun c8=>?_) (fun c8=>?_)
    ·refine aj (ah (ai rfl rfl (ad (aJ ?_))));exact aO rfl rfl ⟨by rw[Aw,iy,if_pos (by assumption)],S.back⟩
    ·refine aV (aj (aj (ah (ai rfl rfl (ad (bj ?_))))));refine dF (σ:=Nat) (fun j=>[(1,u0),(3,.int .i64 (n:Int)),(4,.int .i64 (i:Int)),(6,.int .i64 (j:Int))]) (fun j w=>Lt M w∧Step M w0 M w aC∧ch RT.dc M w u0 d∧j≤i∧∀k y,k<j→d.2[k]? =some y→y.1≠x.1) (fun j=>i-j) 0 (.cons rfl (.cons rfl (.cons rfl (.cons rfl .nil)))) ?_ ?_
     ·exact⟨hM,S,cz,bH _,fun k c h=>absurd h (jv k)⟩
     ·rintro j w ⟨hM,S,cz,hj,iI⟩;refine aj (aj (ah (ae rfl rfl (ae rfl rfl (cd rfl rfl rfl (ad ?_))))));refine bI rfl (fun KN=>?_) (fun KN=>?_)
      ·refine aV (aj (bj (aj ?_)));apply T.kE mixed rfl rfl;intro Lg Lh;have lR:=Lh M;replace cz:=cz.le (by decide) lR.le;replace hM:=lR.lt hM;have:=S.size;replace S:=S.ay lR;refine aH (M:=M) (A:=RT.dc) (B:=(RT.fd).sl) aM rfl rfl pY (by decide) (CP) rfl rfl (by decide) (by assumption) (by repeat (first|exact aq _ _|refine aT (aY (by assumption)) ?_)) (fun Y5 U0=>?_);refine ad ⟨rfl,rfl,rfl,?_⟩;refine cf (M:=M) aU rfl rfl rfl rfl rfl (by assumption) (by repeat (first|exact aq _ _|refine aT (aY (by assumption)) ?_)) (fun Y6 Lj=>?_);refine ad ⟨rfl,rfl,rfl,?_⟩;refine ae rfl rfl ?_;refine ad ⟨rfl,rfl,rfl,?_⟩;refine dq (M:=M) aU hU rfl rfl rfl Lj (aq _ _) (by omega) (fun Js y Ax eJ=>?_);rw[az]at Ax;refine ad ⟨rfl,rfl,rfl,?_⟩;refine aH (M:=M) (A:=RT.fd) (B:=RT.str) bS rfl rfl I9 (by decide) (K8) rfl rfl (by decide) (by assumption) (by repeat (first|exact aq _ _|refine aT (aY (by assumption)) ?_)) (fun eN Lk=>?_);refine ad ⟨rfl,rfl,rfl,?_⟩;refine cf (M:=M) aD rfl rfl rfl rfl rfl Lk (aq _ _) (fun Jt wZ=>?_);obtain rfl:=fy wZ;refine ad ⟨rfl,rfl,rfl,?_⟩;refine aH (M:=M) (A:=RT.dc) (B:=(RT.fd).sl) aM rfl rfl pY (by decide) (CP) rfl rfl (by decide) (by assumption) (by repeat (first|exact aq _ _|refine aT (aY (by assumption)) ?_)) (fun Ju EV=>?_);refine ad ⟨rfl,rfl,rfl,?_⟩;refine cf (M:=M) aU rfl rfl rfl rfl rfl (by assumption) (by repeat (first|exact aq _ _|refine aT (aY (by assumption)) ?_)) (fun Y7 Ll=>?_);refine ad ⟨rfl,rfl,rfl,?_⟩;refine ae rfl rfl ?_;refine ad ⟨rfl,rfl,rfl,?_⟩;refine dq (M:=M) aU hU rfl rfl rfl Ll (aq _ _) (by omega) (fun Y8 z EW U1=>?_)
       rw[az]at EW;refine ad ⟨rfl,rfl,rfl,?_⟩;refine aH (M:=M) (A:=RT.fd) (B:=RT.str) bS rfl rfl I9 (by decide) (K8) rfl rfl (by decide) (by assumption) (by repeat (first|exact aq _ _|refine aT (aY (by assumption)) ?_)) (fun U2 HS=>?_);refine ad ⟨rfl,rfl,rfl,?_⟩;refine cf (M:=M) aD rfl rfl rfl rfl rfl HS (aq _ _) (fun U3 HT=>?_);obtain rfl:=fy HT;refine ad ⟨rfl,rfl,rfl,?_⟩;refine Rg.BB (p:=y.1) (q:=z.1) rfl rfl rfl ?_;obtain rfl:x=z:=bM (yE.symm.trans EW);refine ad ⟨rfl,rfl,rfl,?_⟩;refine fz ?_;refine bI rfl (fun HU=>?_) (fun HU=>?_)
       ·refine aj (ah (ai rfl rfl (ad (aJ ?_))));have EX:((d.2.take i).any fun g=>decide (g.1=x.1))=true:=pH.2 ⟨y,aL (i:=j) (by rw[dE,if_pos (by omega)];exact Ax),by simpa using(by assumption)⟩;exact aO rfl rfl ⟨by rw[Aw,iy,if_neg (by assumption),if_pos EX],S.back⟩
       ·refine aV (ah (ae rfl rfl (bB rfl rfl rfl (by omega) (ai rfl rfl (ad ?_)))));refine⟨rfl,j+1,(.cons rfl (.cons rfl (.cons rfl (.cons rfl .nil)))),?_,?_⟩
        ·exact⟨hM,S,cz,by omega,fun k y' h hc=>by
          rcases cK k j with h2|h2
          ·exact iI k y' h2 hc
          ·obtain rfl:k=j:=by omega
           rw[Ax]at hc;cases hc;assumption⟩
        ·omega
      ·refine cN (aj (ah ?_));refine aH (M:=M) (A:=RT.dc) (B:=(RT.fd).sl) aM rfl rfl pY (by decide) (CP) rfl rfl (by decide) (by assumption) (by repeat (first|exact aq _ _|refine aT (aY (by assumption)) ?_)) (fun Y9 U4=>?_);refine cf (M:=M) aU rfl rfl rfl rfl rfl (by assumption) (by repeat (first|exact aq _ _|refine aT (aY (by assumption)) ?_)) (fun Za Ln=>?_);refine ae rfl rfl ?_;refine dq (M:=M) aU hU rfl rfl rfl Ln (aq _ _) (by omega) (fun Zb z EY U5=>?_);rw[az]at EY;refine aH (M:=M) (A:=RT.fd) (B:=RT.str) bS rfl rfl I9 (by decide) (R7) rfl rfl (by decide) (by assumption) (by repeat (first|exact aq _ _|refine aT (aY (by assumption)) ?_)) (fun Zc Lo=>?_);refine cf (M:=M) aD rfl rfl rfl rfl rfl Lo (aq _ _) (fun Zd Lq=>?_);obtain rfl:=fy Lq;obtain rfl:x=z:=bM (yE.symm.trans EY);refine aP rfl rfl TM (As _ hM uJ.2) (fun Ze ND hc=>?_);obtain⟨⟨u15,rfl,U6⟩,qa⟩:=hc;replace cz:=cz.le (by decide) qa.le;replace hM:=qa.lt hM;have:=S.size;replace S:=S.ay qa;refine ae rfl rfl (bP rfl rfl rfl (bP rfl rfl rfl (ai rfl rfl (ai rfl rfl (ad (aj (aj (ah (ae rfl rfl (eW rfl rfl rfl (ad ?_)))))))))));refine bI rfl (fun NC=>?_) (fun NC=>?_)
       ·refine aj (ah (ae rfl rfl (ai rfl rfl (ad (aJ ?_)))))
        have EX:((d.2.take i).any fun g=>decide (g.1=x.1))=false:=ez.2 fun h=>by
         obtain⟨y,hy,he⟩:=pH.1 h;obtain⟨k,hk⟩:=bO.1 hy;rw[dE]at hk
         split at hk
         ·exact iI k y (by omega) hk (by simpa using he)
         ·cases hk
        exact aO rfl rfl ⟨by rw[Aw,iy,if_neg (by assumption),if_neg (by rw[EX];simp),if_pos NC];rfl,S.back⟩
       ·refine aV (ah (ae rfl rfl ?_));have HR:j4 0 (words x.2)=0:=Classical.not_not.1 NC;obtain⟨a,cap,rfl⟩:=U6 HR;have Y3:=nz x.2;refine ae rfl rfl (Rg.pW Tryz.underlying222 rfl rfl (bB rfl rfl rfl (by omega) (ai rfl rfl (ad (ah (ae rfl rfl (bB rfl rfl rfl (by omega) (ai rfl rfl (ad ?_)))))))))
        have EX:((d.2.take i).any fun g=>decide (g.1=x.1))=false:=ez.2 fun h=>by
         obtain⟨y,hy,he⟩:=pH.1 h;obtain⟨k,hk⟩:=bO.1 hy;rw[dE]at hk
         split at hk
         ·exact iI k y (by omega) hk (by simpa using he)
         ·cases hk
        refine⟨rfl,(i+1,n+(words x.2).length),(.cons rfl (.cons rfl (.cons rfl .nil))),?_,?_⟩
        ·exact⟨hM,S,cz,by rw[Aw,iy,if_neg (by assumption),if_neg (by rw[EX];simp),if_neg NC],by dsimp only;omega,by dsimp only;omega,Sa⟩
        ·dsimp only;omega
   ·refine cN (aj (aj (ah (ae rfl rfl (nD rfl rfl rfl (ad ?_))))));refine bI rfl (fun Uf=>?_) (fun Uf=>?_)
    ·refine aj (ah (ai rfl rfl (ad (aJ ?_))));exact aO rfl rfl ⟨by rw[Aw,o6 (by omega),if_pos (by omega)],S.back⟩
    ·refine aV (aj (ah (ai rfl rfl (ad (aJ ?_)))));exact aO rfl rfl ⟨by rw[Aw,o6 (by omega),if_neg (by omega)],S.back⟩
def yF:List (List UInt8):=[[116],[117],[118],[119]]
def fixF (i:Nat) (x:Fd):Fd:=(if eM x.1=true then x.1 else yF.getD i [],x.2.take 40)
def la (id:Int):Nat→List Fd→List Fd→List Fd
 |_,out,[]=>out
 |i,out,x::fs=>if i<4 then(if kh (id,out++[fixF i x])=0 then la id (i+1) (out++[fixF i x]) fs else la id (i+1) out fs)else out
def l7 (d:Dc):Dc:=(d.1,la d.1 0 [] d.2)
def oA (l:List Fd):Prop:=∀x∈l,x.1.length≤12∧x.2.length≤40
theorem yG {s:List UInt8} (h:eM s=true):s.length≤12:=by
 simp only[eM,bC,decide_eq_true_eq]at h;omega
theorem sO {i:Nat} (x:Fd) (hi:i<4):(fixF i x).1.length≤12∧(fixF i x).2.length≤40:=by
 refine⟨?_,by simp only[fixF,bU];omega⟩;unfold fixF;dsimp only
 split
 ·exact yG (by assumption)
 ·have h:i=0∨i=1∨i=2∨i=3:=by omega
  rcases h with rfl|rfl|rfl|rfl<;>decide
theorem oA.snoc {l:List Fd} {x:Fd} (h:oA l) (hx:x.1.length≤12∧x.2.length≤40):oA (l++[x]):=fun y hy=>by
 rcases dm.1 hy with hy|hy
 ·exact h y hy
 ·rw[cE.1 hy];exact hx
theorem EZ {id:Int} {fs:List Fd} {i:Nat} {out:List Fd} {x:Fd} (h:fs[i]? =some x) (hi:i<4):la id i out (fs.drop i)=if kh (id,out++[fixF i x])=0 then la id (i+1) (out++[fixF i x]) (fs.drop (i+1))else la id (i+1) out (fs.drop (i+1)):=by
 have dB:=(av.1 h).1;rw[dA dB,(av.1 h).2];show(if i<4 then _ else _)=_;rw[if_pos hi]
theorem vf {id:Int} {fs:List Fd} {i:Nat} {out:List Fd} (h:fs.length≤i∨4≤i):la id i out (fs.drop i)=out:=by
 cases hd:fs.drop i with
 |nil=>rfl
 |cons x r=>
  show(if i<4 then _ else _)=_;rw[if_neg];rcases h with h|h
  ·rw[jf h]at hd;cases hd
  ·omega
theorem yH (l:List UInt8):l.take (min (l.length:Int) 40).toNat=l.take 40:=by
 by_cases h:l.length≤40
 ·rw[bp (by omega),bp h]
 ·congr 1;omega
theorem CT {M:aA} {d:Dc} {v0:Value} (w0:World) (hM:Lt M w0) (hv:RT.dc.V M w0 d v0):
  Spec Tryz.prog 65 #[v0] w0 (fun v w=>RT.dc.V M w (l7 d) v∧Step M w0 M w aC):=by
 have jH:=hM
 have Sb: -9223372036854775808≤d.1∧d.1≤9223372036854775807:=by
  obtain⟨vs,⟨va,vb,_,⟨_,h1,h2⟩,_⟩,_⟩:=hv;exact⟨h1,h2⟩
 refine aX (args:=[_]) (fn:=Tryz.f65) Tryz.func65 rfl (n:=67) Tryz.ntmps65 ?_;have S:Step M w0 M w0 aC:=(an _ _).cb (fun _ h=>h.elim) (fun _ h=>h.elim);refine aj (ah ?_);refine kd (A:=RT.dc) rfl rfl hM hv rfl (fun u0 w1 cz s0 _=>?_);replace hM:=s0.lt hM;have:=S.size;replace S:=S.ay s0;refine eX M kG rfl (fun lS Ay Lr Ls eK kJ=>?_);obtain⟨ed,j6⟩:∃M',M'=ins M lS:=⟨_,rfl⟩;rw[←j6]at kJ;have dT:ed lS:=by rw[j6];exact .inl rfl
 change Ay.heap[lS]? =some (.cells #[.int .i64 0,.slice none 0 0] _ _)at eK;replace cz:=cz.le (by decide) kJ.le;replace hM:=kJ.lt hM;have:=S.size;replace S:=S.ay kJ;refine ad (aj (ah ?_));refine aH (M:=ed) (A:=RT.dc) (B:=RT.int .i64) aM rfl rfl I3 (by decide) (Pp) rfl rfl (by decide) (by assumption) (by repeat (first|exact aq _ _|refine aT (aY (by assumption)) ?_)) (fun uc jt=>?_);refine cc (M:=ed) ar rfl rfl (by assumption) (by repeat (first|exact aq _ _|refine aT (aY (by assumption)) ?_)) (fun Jv=>?_);refine dZ (places:=[(0,1),(1,1)]) aM kG OC rfl ⟨_,_,rfl,rfl,rfl⟩ (out:=[_,.slice none 0 0]) ⟨0,[_],rfl,rfl,by simp[Value.cells],rfl⟩ ?_;refine eX ed kG rfl (fun jB wV Px Py ga s1_3=>?_);obtain⟨jc,nc⟩:∃M',M'=ins ed jB:=⟨_,rfl⟩;rw[←nc]at s1_3;have fg:jc jB:=by rw[nc];exact .inl rfl
 change wV.heap[jB]? =some (.cells #[.int .i64 0,.slice none 0 0] _ _)at ga;have:=ak eK;replace dT:=(s1_3.mem _ this).2 dT;replace eK:=s1_3.aI eK;replace cz:=cz.le (by decide) s1_3.le;replace hM:=s1_3.lt hM;have:=S.size;replace S:=S.ay s1_3;refine fc (M:=jc) (vs:=[.int .i64 d.1,.slice none 0 0]) kG rfl rfl (by intro u hu;simp at hu;rcases hu with rfl|rfl<;>first|rfl|exact jY (by assumption) rfl rfl) rfl rfl ga fg (fun w1b U7 Lu=>?_);have:=ak eK;replace dT:=(Lu.mem _ this).2 dT;replace eK:=Lu.bF eK (fun hk=>by have hk:_=_:=hk;omega);have:=ak ga;replace fg:=(Lu.mem _ this).2 fg;replace cz:=cz.le (by decide) Lu.le;replace hM:=Lu.lt hM;have:=S.size;replace S:=S.trans Lu (fun k hk h=>by have h:_=_:=h;subst h;first|(exfalso;omega)|(show _≤_;omega)|exact⟨by first|omega|assumption,(S.mem _ hk).1 ((Lu.mem _ (ak ga)).1 fg)⟩|exact .inl rfl|exact .inr rfl|exact .inr (.inl rfl)|exact .inr (.inr rfl)|exact rfl);have qH:=U7;clear ga;have ga:=qH;clear qH;refine ad (aj (ah ?_));refine Rg.N1 (A:=RT.str) (hn:=by decide) (M:=jc) (xs:=yF) a8 I9 rfl (by decide) rfl ⟨_,_,_,rfl,rfl,rfl,jM.2 ⟨rfl,by decide⟩,_,_,_,rfl,rfl,rfl,jM.2 ⟨rfl,by decide⟩,_,_,_,rfl,rfl,rfl,jM.2 ⟨rfl,by decide⟩,_,_,_,rfl,rfl,rfl,jM.2 ⟨rfl,by decide⟩,rfl⟩ rfl hM (.inr ⟨rfl,rfl⟩) (by decide) (fun u2 w2 cT s2=>?_);have:=ak eK;replace dT:=(s2.mem _ this).2 dT;replace eK:=s2.aI eK;have:=ak ga;replace fg:=(s2.mem _ this).2 fg;replace ga:=s2.aI ga;replace cz:=cz.le (by decide) s2.le;replace hM:=s2.lt hM;have:=S.size;replace S:=S.ay s2;refine ai rfl rfl (ad (aj (aj (ah (ai rfl rfl (ad (bj ?_)))))));refine dF (σ:=Nat×List Fd) (fun q=>[(1,u0),(2,.pointer (some ⟨lS,0,none⟩)),(3,.pointer (some ⟨jB,0,none⟩)),(4,u2),(5,.int .i64 (q.1:Int))]) (fun q w=>∃M' uo,Lt M' w∧Step M w0 M' w aC∧ch RT.dc M' w u0 d∧(RT.str.sl).V M' w yF u2∧w.heap[lS]? =some (.cells #[.int .i64 0,.slice none 0 0] 41 (0,0))∧M' lS∧w.heap[jB]? =some (.cells #[.int .i64 d.1,uo] 41 (0,0))∧M' jB∧(RT.fd.sl).V M' w q.2 uo∧la d.1 0 [] d.2=la d.1 q.1 q.2 (d.2.drop q.1)∧q.1≤d.2.length∧q.1≤4∧oA q.2∧q.2.length≤q.1) (fun q=>d.2.length-q.1) (0,[]) (.cons rfl (.cons rfl (.cons rfl (.cons rfl (.cons rfl .nil))))) ?_ ?_
 ·exact⟨_,.slice none 0 0,hM,S,cz,cT,eK,dT,ga,fg,jN,rfl,bH _,bH _,(fun x hx=>by cases hx),bh _⟩
 ·rintro⟨i,out⟩ w ⟨M1,uo,hM,S,cz,cT,g2,cL,g3,dS,gF,sI,hi,U8,vY,oK⟩;dsimp only at g3 gF sI hi U8 vY oK ⊢;refine aj (aj (ah (ae rfl rfl ?_)));refine aH (M:=M1) (A:=RT.dc) (B:=(RT.fd).sl) aM rfl rfl pY (by decide) (CP) rfl rfl (by decide) (by assumption) (by repeat (first|exact aq _ _|refine aT (aY (by assumption)) ?_)) (fun UN Zf=>?_);refine cf (M:=M1) aU rfl rfl rfl rfl rfl (by assumption) (by repeat (first|exact aq _ _|refine aT (aY (by assumption)) ?_)) (fun acs Pz=>?_);refine bT aU rfl Pz rfl (cd rfl rfl rfl (ae rfl rfl ?_));refine aG (g:=18) rfl (fun Lv=>?_) (fun Lv=>?_)
  ·refine al rfl rfl (ae rfl rfl (al rfl rfl (cd rfl rfl rfl (aR rfl rfl rfl (ad ?_)))));refine bI rfl (fun c4=>?_) (fun c4=>?_)
   ·refine aV (aj (bj (aj (ah ?_))));refine aH (M:=M1) (A:=RT.dc) (B:=(RT.fd).sl) aM rfl rfl pY (by decide) (CP) rfl rfl (by decide) (by assumption) (by repeat (first|exact aq _ _|refine aT (aY (by assumption)) ?_)) (fun PA E0=>?_);refine cf (M:=M1) aU rfl rfl rfl rfl rfl (by assumption) (by repeat (first|exact aq _ _|refine aT (aY (by assumption)) ?_)) (fun Lw sT=>?_);refine ae rfl rfl ?_;refine dq (M:=M1) aU hU rfl rfl rfl sT (aq _ _) (by omega) (fun u6 x DB K2=>?_);rw[az]at DB;have RP:i<4:=by omega
    have Sc:=EZ (id:=d.1) (out:=out) DB RP;have Jw:=sO x RP;refine cC (M:=M1) (A:=RT.fd) bS rfl hU (by decide) rfl rfl rfl K2 (aq _ _) (fun v6 nR=>?_);obtain rfl:=kI nR;have hxb:=EO nR;refine eX M1 hU rfl (fun Lx U9 acv acw cW ue=>?_);obtain⟨j7,E1⟩:∃M',M'=ins M1 Lx:=⟨_,rfl⟩;rw[←E1]at ue;have cv:j7 Lx:=by rw[E1];exact .inl rfl
    change U9.heap[Lx]? =some (.cells #[.string ⟨#[]⟩,.string ⟨#[]⟩] _ _)at cW;have:=ak g2;replace cL:=(ue.mem _ this).2 cL;replace g2:=ue.aI g2;have:=ak g3;replace dS:=(ue.mem _ this).2 dS;replace g3:=ue.aI g3;replace cz:=cz.le (by decide) ue.le;replace cT:=cT.le ue.le;replace gF:=gF.le ue.le;replace hM:=ue.lt hM;have:=S.size;replace S:=S.ay ue;refine fc (M:=j7) (vs:=[.string ⟨x.1.toArray⟩,.string ⟨x.2.toArray⟩]) hU rfl rfl (by intro u hu;simp at hu;rcases hu with rfl|rfl<;>first|rfl|exact jY (by assumption) rfl rfl) rfl rfl cW cv (fun w6b Va E2=>?_);have:=ak g2;replace cL:=(E2.mem _ this).2 cL;replace g2:=E2.bF g2 (fun hk=>by have hk:_=_:=hk;omega);have:=ak g3;replace dS:=(E2.mem _ this).2 dS;replace g3:=E2.bF g3 (fun hk=>by have hk:_=_:=hk;omega);have:=ak cW;replace cv:=(E2.mem _ this).2 cv;replace cz:=cz.le (by decide) E2.le;replace cT:=cT.le E2.le;replace gF:=gF.le E2.le;replace hM:=E2.lt hM;have:=S.size;replace S:=S.trans E2 (fun k hk h=>by have h:_=_:=h;subst h;first|(exfalso;omega)|(show _≤_;omega)|exact⟨by first|omega|assumption,(S.mem _ hk).1 ((E2.mem _ (ak cW)).1 cv)⟩|exact .inl rfl|exact .inr rfl|exact .inr (.inl rfl)|exact .inr (.inr rfl)|exact rfl);have nf:=Va;clear cW;have cW:=nf;clear nf;refine ad (aj (ah (aS (o':=0) bS rfl rfl I9 (by decide) rfl rfl (aE aD rfl rfl rfl (by assumption) rfl ?_))));refine aP rfl rfl OE (sN x.1 hxb.1 _) (fun r7 w7 hc=>?_);obtain⟨rfl,rfl⟩:=hc;refine ai rfl rfl (ad (aj (aj (ah (ae rfl rfl (Rg.not rfl rfl (bz (v':= .bool (decide (eM x.1=false))) (by cases eM x.1<;>rfl) (ad ?_))))))));refine bI rfl (fun c8=>?_) (fun c8=>?_)
    ·refine ah (ae rfl rfl (ae rfl rfl ?_));refine dq (M:=j7) a8 I9 rfl rfl rfl cT (aq _ _) (by have:yF.length=4:=rfl;omega) (fun u9 y G9 Ly=>?_);rw[az]at G9;refine cf (M:=j7) aD rfl rfl rfl rfl rfl Ly (aq _ _) (fun v9 HV=>?_);obtain rfl:=fy HV
     obtain rfl:y=(fixF i x).1:=by
      show y=if eM x.1=true then x.1 else yF.getD i []
      rw[if_neg (by rw[c8];simp),bG,G9];rfl
     refine aS (o':=0) bS rfl rfl I9 (by decide) rfl rfl ?_;refine bQ (M:=j7) I9 rfl rfl cW rfl (rfl) cv (fun Pk PB na=>?_);change Pk.heap[_]? =some (Obj.cells #[.string ⟨((fixF i x).1).toArray⟩,.string ⟨x.2.toArray⟩] _ _)at PB;have:=ak g2;replace cL:=(na.mem _ this).2 cL;replace g2:=na.bF g2 (fun hk=>by have hk:_=_:=hk;omega);have:=ak g3;replace dS:=(na.mem _ this).2 dS;replace g3:=na.bF g3 (fun hk=>by have hk:_=_:=hk;omega);have:=ak cW;replace cv:=(na.mem _ this).2 cv;replace cz:=cz.le (by decide) na.le;replace cT:=cT.le na.le;replace gF:=gF.le na.le;replace hM:=na.lt hM;have:=S.size;replace S:=S.trans na (fun k hk h=>by have h:_=_:=h;subst h;first|(exfalso;omega)|(show _≤_;omega)|exact⟨by first|omega|assumption,(S.mem _ hk).1 ((na.mem _ (ak cW)).1 cv)⟩|exact .inl rfl|exact .inr rfl|exact .inr (.inl rfl)|exact .inr (.inr rfl)|exact rfl);have nf:=PB;clear cW;have cW:=nf;clear nf;refine ad (aj (ah (aS (o':=1) bS rfl rfl I9 (by decide) rfl rfl (aE aD rfl rfl rfl (by assumption) rfl (aS (o':=1) bS rfl rfl I9 (by decide) rfl rfl (aE aD rfl rfl rfl (by assumption) rfl (Rg.kD aD rfl rfl (bz (v':= .int .i64 (x.2.length:Int)) (by simp[ByteArray.size]) (Rg.min2 rfl rfl rfl (Rg.Jj aD rfl rfl rfl (by omega) (bz (v':= .string ⟨((fixF i x).2).toArray⟩) (by rw[yH];rfl) ?_)))))))))));refine aS (o':=1) bS rfl rfl I9 (by decide) rfl rfl ?_;refine bQ (M:=j7) I9 rfl rfl cW rfl (rfl) cv (fun BR yI eZ=>?_);change BR.heap[_]? =some (Obj.cells #[.string ⟨((fixF i x).1).toArray⟩,.string ⟨((fixF i x).2).toArray⟩] _ _)at yI;have:=ak g2;replace cL:=(eZ.mem _ this).2 cL;replace g2:=eZ.bF g2 (fun hk=>by have hk:_=_:=hk;omega);have:=ak g3
     replace dS:=(eZ.mem _ this).2 dS;replace g3:=eZ.bF g3 (fun hk=>by have hk:_=_:=hk;omega);have:=ak cW;replace cv:=(eZ.mem _ this).2 cv;replace cz:=cz.le (by decide) eZ.le;replace cT:=cT.le eZ.le;replace gF:=gF.le eZ.le;replace hM:=eZ.lt hM;have:=S.size;replace S:=S.trans eZ (fun k hk h=>by have h:_=_:=h;subst h;first|(exfalso;omega)|(show _≤_;omega)|exact⟨by first|omega|assumption,(S.mem _ hk).1 ((eZ.mem _ (ak cW)).1 cv)⟩|exact .inl rfl|exact .inr rfl|exact .inr (.inl rfl)|exact .inr (.inr rfl)|exact rfl);have nf:=yI;clear cW;have cW:=nf;clear nf;refine ad (aj (ah ?_));refine aH (M:=j7) (A:=RT.dc) (B:=RT.int .i64) aM rfl rfl I3 (by decide) (Pp) rfl rfl (by decide) (by assumption) (by repeat (first|exact aq _ _|refine aT (aY (by assumption)) ?_)) (fun Jy E3=>?_);refine cc (M:=j7) ar rfl rfl (by assumption) (by repeat (first|exact aq _ _|refine aT (aY (by assumption)) ?_)) (fun Lz=>?_);refine dZ (places:=[(0,1),(1,1)]) aM kG OC rfl ⟨_,_,rfl,rfl,rfl⟩ (out:=[_,.slice none 0 0]) ⟨0,[_],rfl,rfl,by simp[Value.cells],rfl⟩ ?_;refine eX j7 kG rfl (fun sU yJ PC PD cn eu=>?_);obtain⟨oB,o7⟩:∃M',M'=ins j7 sU:=⟨_,rfl⟩;rw[←o7]at eu;have ck:oB sU:=by rw[o7];exact .inl rfl
     change yJ.heap[sU]? =some (.cells #[.int .i64 0,.slice none 0 0] _ _)at cn;have:=ak g2;replace cL:=(eu.mem _ this).2 cL;replace g2:=eu.aI g2;have:=ak g3;replace dS:=(eu.mem _ this).2 dS;replace g3:=eu.aI g3;have:=ak cW;replace cv:=(eu.mem _ this).2 cv;replace cW:=eu.aI cW;replace cz:=cz.le (by decide) eu.le;replace cT:=cT.le eu.le;replace gF:=gF.le eu.le;replace hM:=eu.lt hM;have:=S.size;replace S:=S.ay eu;refine fc (M:=oB) (vs:=[.int .i64 d.1,.slice none 0 0]) kG rfl rfl (by intro u hu;simp at hu;rcases hu with rfl|rfl<;>first|rfl|exact jY (by assumption) rfl rfl) rfl rfl cn ck (fun xa E4 iN=>?_);have:=ak g2;replace cL:=(iN.mem _ this).2 cL;replace g2:=iN.bF g2 (fun hk=>by have hk:_=_:=hk;omega);have:=ak g3;replace dS:=(iN.mem _ this).2 dS;replace g3:=iN.bF g3 (fun hk=>by have hk:_=_:=hk;omega);have:=ak cW;replace cv:=(iN.mem _ this).2 cv;replace cW:=iN.bF cW (fun hk=>by have hk:_=_:=hk;omega);have:=ak cn;replace ck:=(iN.mem _ this).2 ck;replace cz:=cz.le (by decide) iN.le;replace cT:=cT.le iN.le;replace gF:=gF.le iN.le;replace hM:=iN.lt hM;have:=S.size;replace S:=S.trans iN (fun k hk h=>by have h:_=_:=h;subst h;first|(exfalso;omega)|(show _≤_;omega)|exact⟨by first|omega|assumption,(S.mem _ hk).1 ((iN.mem _ (ak cn)).1 ck)⟩|exact .inl rfl|exact .inr rfl|exact .inr (.inl rfl)|exact .inr (.inr rfl)|exact rfl);have gv:=E4;clear cn;have cn:=gv;clear gv;refine ad (aj (ah (aS (o':=1) aM rfl rfl pY (by decide) rfl rfl (aE aU rfl rfl rfl (by assumption) rfl (aS (o':=1) aM rfl rfl pY (by decide) rfl rfl (aE aU rfl rfl rfl (by assumption) rfl ?_))))));have cI:=Own.Jn RT.fd 127 xa.heap.size hM
     have Vb:=ak cW;have E5:w0.heap.size≤xa.heap.size:=S.size;refine cO (M:=oB) (base:=xa.heap.size) aU hU rfl rfl rfl rfl cI gF (aq _ _) (by simp;omega) (by simp;omega) (bh _) (fun sJ mZ EL oz dR=>?_);have:=ak g2;replace cL:=(dR.mem _ this).2 cL;replace g2:=dR.bF g2 (fun h=>by first|exact cI.dC g2 h|exact cI.eL g2 (by decide) h|(have:=(cI.base _ h).1;omega));have:=ak g3;replace dS:=(dR.mem _ this).2 dS;replace g3:=dR.bF g3 (fun h=>by first|exact cI.dC g3 h|exact cI.eL g3 (by decide) h|(have:=(cI.base _ h).1;omega));have:=ak cW;replace cv:=(dR.mem _ this).2 cv;replace cW:=dR.bF cW (fun h=>by first|exact cI.dC cW h|exact cI.eL cW (by decide) h|(have:=(cI.base _ h).1;omega));have:=ak cn;replace ck:=(dR.mem _ this).2 ck;replace cn:=dR.bF cn (fun h=>by first|exact cI.dC cn h|exact cI.eL cn (by decide) h|(have:=(cI.base _ h).1;omega));replace cz:=cz.le (by decide) dR.le;replace cT:=cT.le dR.le;replace gF:=gF.le dR.le;replace hM:=dR.lt hM;have:=S.size;replace S:=S.dh dR cI E5;replace cI:=oz;refine aS (o':=1) aM rfl rfl pY (by decide) rfl rfl ?_;refine bQ (M:=mZ) pY rfl rfl cn rfl ((by obtain⟨_,_,he,_⟩:=cI.isSlice;rw[he];rfl)) ck (fun E6 yK eT=>?_);change E6.heap[_]? =some (Obj.cells #[.int .i64 d.1,sJ] _ _)at yK;have:=ak g2;replace cL:=(eT.mem _ this).2 cL;replace g2:=eT.bF g2 (fun hk=>by have hk:_=_:=hk;omega);have:=ak g3;replace dS:=(eT.mem _ this).2 dS;replace g3:=eT.bF g3 (fun hk=>by have hk:_=_:=hk;omega);have:=ak cW;replace cv:=(eT.mem _ this).2 cv;replace cW:=eT.bF cW (fun hk=>by have hk:_=_:=hk;omega);have:=ak cn;replace ck:=(eT.mem _ this).2 ck
     replace cz:=cz.le (by decide) eT.le;replace cT:=cT.le eT.le;replace gF:=gF.le eT.le;replace cI:=cI.step eT (fun b hb hk=>by have hk:_=_:=hk;have:=(cI.base b hb);omega);replace hM:=eT.lt hM;have:=S.size;replace S:=S.trans eT (fun k hk h=>by have h:_=_:=h;subst h;first|(exfalso;omega)|(show _≤_;omega)|exact⟨by first|omega|assumption,(S.mem _ hk).1 ((eT.mem _ (ak cn)).1 ck)⟩|exact .inl rfl|exact .inr rfl|exact .inr (.inl rfl)|exact .inr (.inr rfl)|exact rfl);have gv:=yK;clear cn;have cn:=gv;clear gv;refine ad (aj (ah (aS (o':=1) aM rfl rfl pY (by decide) rfl rfl (aE aU rfl rfl rfl (by assumption) rfl (ib (vs:=[.string ⟨((fixF i x).1).toArray⟩,.string ⟨((fixF i x).2).toArray⟩]) bS rfl hU rfl rfl rfl cW ?_)))));refine eQ (A:=RT.fd) (hn:=by decide) (M:=mZ) aU hU (by decide) rfl rfl hM (show RT.fd.V _ _ (fixF i x) _ from dY (jM.2 ⟨rfl,fK Jw.1 (by decide)⟩) (jM.2 ⟨rfl,fK Jw.2 (by decide)⟩) rfl rfl rfl rfl) (.inl rfl) (fun Js PE eJ eU=>?_);have:=ak g2;replace cL:=(eU.mem _ this).2 cL;replace g2:=eU.aI g2;have:=ak g3;replace dS:=(eU.mem _ this).2 dS;replace g3:=eU.aI g3;have:=ak cW;replace cv:=(eU.mem _ this).2 cv;replace cW:=eU.aI cW;have:=ak cn;replace ck:=(eU.mem _ this).2 ck;replace cn:=eU.aI cn;replace cz:=cz.le (by decide) eU.le;replace cT:=cT.le eU.le;replace gF:=gF.le eU.le;replace cI:=cI.bg eU;replace hM:=eU.lt hM;have:=S.size;replace S:=S.ay eU;refine cO (M:=mZ) (base:=xa.heap.size) aU hU rfl rfl rfl rfl cI eJ (aq _ _) (by simp;omega) (by simp;omega) (by have:=dR.size;have:=eT.size;have:=eU.size;omega) (fun eN j8 PF Az fo=>?_);have:=ak g2
     replace cL:=(fo.mem _ this).2 cL;replace g2:=fo.bF g2 (fun h=>by first|exact cI.dC g2 h|exact cI.eL g2 (by decide) h|(have:=(cI.base _ h).1;omega));have:=ak g3;replace dS:=(fo.mem _ this).2 dS;replace g3:=fo.bF g3 (fun h=>by first|exact cI.dC g3 h|exact cI.eL g3 (by decide) h|(have:=(cI.base _ h).1;omega));have:=ak cW;replace cv:=(fo.mem _ this).2 cv;replace cW:=fo.bF cW (fun h=>by first|exact cI.dC cW h|exact cI.eL cW (by decide) h|(have:=(cI.base _ h).1;omega));have:=ak cn;replace ck:=(fo.mem _ this).2 ck;replace cn:=fo.bF cn (fun h=>by first|exact cI.dC cn h|exact cI.eL cn (by decide) h|(have:=(cI.base _ h).1;omega));replace cz:=cz.le (by decide) fo.le;replace cT:=cT.le fo.le;replace gF:=gF.le fo.le;replace eJ:=eJ.le fo.le;replace hM:=fo.lt hM;have:=S.size;replace S:=S.dh fo cI E5;replace cI:=Az;refine aS (o':=1) aM rfl rfl pY (by decide) rfl rfl ?_;refine bQ (M:=j8) pY rfl rfl cn rfl ((by obtain⟨_,_,he,_⟩:=cI.isSlice;rw[he];rfl)) ck (fun E7 yL eV=>?_);change E7.heap[_]? =some (Obj.cells #[.int .i64 d.1,eN] _ _)at yL;have:=ak g2;replace cL:=(eV.mem _ this).2 cL;replace g2:=eV.bF g2 (fun hk=>by have hk:_=_:=hk;omega);have:=ak g3;replace dS:=(eV.mem _ this).2 dS;replace g3:=eV.bF g3 (fun hk=>by have hk:_=_:=hk;omega);have:=ak cW;replace cv:=(eV.mem _ this).2 cv;replace cW:=eV.bF cW (fun hk=>by have hk:_=_:=hk;omega);have:=ak cn;replace ck:=(eV.mem _ this).2 ck;replace cz:=cz.le (by decide) eV.le;replace cT:=cT.le eV.le;replace gF:=gF.le eV.le;replace eJ:=eJ.le eV.le;replace cI:=cI.step eV (fun b hb hk=>by have hk:_=_:=hk;have:=(cI.base b hb);omega);replace hM:=eV.lt hM;have:=S.size
     replace S:=S.trans eV (fun k hk h=>by have h:_=_:=h;subst h;first|(exfalso;omega)|(show _≤_;omega)|exact⟨by first|omega|assumption,(S.mem _ hk).1 ((eV.mem _ (ak cn)).1 ck)⟩|exact .inl rfl|exact .inr rfl|exact .inr (.inl rfl)|exact .inr (.inr rfl)|exact rfl);have gv:=yL;clear cn;have cn:=gv;clear gv;refine ad (aj (ah (ib (vs:=[.int .i64 d.1,eN]) aM rfl kG rfl rfl rfl cn ?_)));have rq:=cI.view (hn:=by decide) (by simp;omega);replace cL:rm j8 eN _:=⟨cL,by first|exact cI.eL g2 (by decide)|(intro h;have:=(cI.base _ h).1;omega)⟩;replace dS:rm j8 eN _:=⟨dS,by first|exact cI.eL g3 (by decide)|(intro h;have:=(cI.base _ h).1;omega)⟩;replace cv:rm j8 eN _:=⟨cv,by first|exact cI.eL cW (by decide)|(intro h;have:=(cI.base _ h).1;omega)⟩;replace ck:rm j8 eN _:=⟨ck,by first|exact cI.eL cn (by decide)|(intro h;have:=(cI.base _ h).1;omega)⟩;replace cz:=cz.le (by decide) (l3 _ eN _);replace cT:=cT.le (l3 _ eN _);replace gF:=gF.le (l3 _ eN _);replace eJ:=eJ.le (l3 _ eN _);replace hM:Lt (rm j8 eN) _:=fun b hb=>hM b hb.1
     replace S:=S.freeze (v:=eN) (fun b hb=>by have:=(cI.base b hb).1;omega);clear cI;refine aP rfl rfl OF (u1 (d:=(d.1,[]++out++[fixF i x])) _ hM (dY (gj Sb) rq rfl rfl rfl rfl) (fun y hy=>by have:=(vY.snoc Jw) y (by simpa using hy);omega)) (fun Zg PG hc=>?_);obtain⟨rfl,je⟩:=hc;rw[gN]at rq;have:=ak g2;replace cL:=(je.mem _ this).2 cL;replace g2:=je.aI g2;have:=ak g3;replace dS:=(je.mem _ this).2 dS;replace g3:=je.aI g3;have:=ak cW;replace cv:=(je.mem _ this).2 cv;replace cW:=je.aI cW;have:=ak cn;replace ck:=(je.mem _ this).2 ck;replace cn:=je.aI cn;replace cz:=cz.le (by decide) je.le;replace cT:=cT.le je.le;replace gF:=gF.le je.le;replace eJ:=eJ.le je.le;replace rq:=rq.le je.le;replace hM:=je.lt hM;have:=S.size;replace S:=S.ay je;refine Rg.zS rfl rfl rfl (bz (v':= .bool (decide (kh (d.1,out++[fixF i x])=0))) (by rw[gN]) (ad ?_));refine bI rfl (fun LA=>?_) (fun LA=>?_)
     ·refine ah (ib (vs:=[.int .i64 d.1,eN]) aM rfl kG rfl rfl rfl cn ?_);refine fc (M:=rm j8 eN) (vs:=[.int .i64 d.1,eN]) kG rfl rfl (by intro u hu;simp at hu;rcases hu with rfl|rfl<;>first|rfl|exact jY (by assumption) rfl rfl) rfl rfl g3 dS (fun Vc E8 gM=>?_);have:=ak g2;replace cL:=(gM.mem _ this).2 cL;replace g2:=gM.bF g2 (fun hk=>by have hk:_=_:=hk;omega);have:=ak g3;replace dS:=(gM.mem _ this).2 dS;have:=ak cW;replace cv:=(gM.mem _ this).2 cv;replace cW:=gM.bF cW (fun hk=>by have hk:_=_:=hk;omega);have:=ak cn;replace ck:=(gM.mem _ this).2 ck;replace cn:=gM.bF cn (fun hk=>by have hk:_=_:=hk;omega);replace cz:=cz.le (by decide) gM.le;replace cT:=cT.le gM.le;replace gF:=gF.le gM.le;replace eJ:=eJ.le gM.le;replace rq:=rq.le gM.le;replace hM:=gM.lt hM;have:=S.size;replace S:=S.trans gM (fun k hk h=>by have h:_=_:=h;subst h;first|(exfalso;omega)|(show _≤_;omega)|exact⟨by first|omega|assumption,(S.mem _ hk).1 ((gM.mem _ (ak g3)).1 dS)⟩|exact .inl rfl|exact .inr rfl|exact .inr (.inl rfl)|exact .inr (.inr rfl)|exact rfl);have PH:=E8;clear g3;have g3:=PH;clear PH;refine ad (ah (ae rfl rfl (bB rfl rfl rfl (by omega) (ai rfl rfl (ad ?_)))));refine⟨rfl,(i+1,out++[fixF i x]),(.cons rfl (.cons rfl (.cons rfl (.cons rfl (.cons rfl .nil))))),?_,?_⟩
      ·exact⟨_,_,hM,S,cz,cT,g2,cL,g3,dS,rq,by rw[sI,Sc,if_pos LA],by dsimp only;omega,by dsimp only;omega,vY.snoc Jw,by simp;omega⟩
      ·dsimp only;omega
     ·refine aV (ah (ae rfl rfl (bB rfl rfl rfl (by omega) (ai rfl rfl (ad ?_)))));refine⟨rfl,(i+1,out),(.cons rfl (.cons rfl (.cons rfl (.cons rfl (.cons rfl .nil))))),?_,?_⟩
      ·exact⟨_,_,hM,S,cz,cT,g2,cL,g3,dS,gF,by rw[sI,Sc,if_neg LA],by dsimp only;omega,by dsimp only;omega,vY,by dsimp only;omega⟩
      ·dsimp only;omega
    ·rw[show x.1=(fixF i x).1 from by show x.1=if eM x.1=true then x.1 else _;rw[if_pos (by cases hq:eM x.1 with|true=>rfl|false=>exact absurd hq c8)]]at cW;refine aV (aj (ah (aS (o':=1) bS rfl rfl I9 (by decide) rfl rfl (aE aD rfl rfl rfl (by assumption) rfl (aS (o':=1) bS rfl rfl I9 (by decide) rfl rfl (aE aD rfl rfl rfl (by assumption) rfl (Rg.kD aD rfl rfl (bz (v':= .int .i64 (x.2.length:Int)) (by simp[ByteArray.size]) (Rg.min2 rfl rfl rfl (Rg.Jj aD rfl rfl rfl (by omega) (bz (v':= .string ⟨((fixF i x).2).toArray⟩) (by rw[yH];rfl) ?_)))))))))));refine aS (o':=1) bS rfl rfl I9 (by decide) rfl rfl ?_;refine bQ (M:=j7) I9 rfl rfl cW rfl (rfl) cv (fun BR yI eZ=>?_);change BR.heap[_]? =some (Obj.cells #[.string ⟨((fixF i x).1).toArray⟩,.string ⟨((fixF i x).2).toArray⟩] _ _)at yI;have:=ak g2;replace cL:=(eZ.mem _ this).2 cL;replace g2:=eZ.bF g2 (fun hk=>by have hk:_=_:=hk;omega);have:=ak g3;replace dS:=(eZ.mem _ this).2 dS;replace g3:=eZ.bF g3 (fun hk=>by have hk:_=_:=hk;omega);have:=ak cW;replace cv:=(eZ.mem _ this).2 cv;replace cz:=cz.le (by decide) eZ.le;replace cT:=cT.le eZ.le;replace gF:=gF.le eZ.le;replace hM:=eZ.lt hM;have:=S.size;replace S:=S.trans eZ (fun k hk h=>by have h:_=_:=h;subst h;first|(exfalso;omega)|(show _≤_;omega)|exact⟨by first|omega|assumption,(S.mem _ hk).1 ((eZ.mem _ (ak cW)).1 cv)⟩|exact .inl rfl|exact .inr rfl|exact .inr (.inl rfl)|exact .inr (.inr rfl)|exact rfl);have nf:=yI;clear cW;have cW:=nf;clear nf;refine ad (aj (ah ?_));refine aH (M:=j7) (A:=RT.dc) (B:=RT.int .i64) aM rfl rfl I3 (by decide) (Pp) rfl rfl (by decide) (by assumption) (by repeat (first|exact aq _ _|refine aT (aY (by assumption)) ?_)) (fun Jy E3=>?_)
     refine cc (M:=j7) ar rfl rfl (by assumption) (by repeat (first|exact aq _ _|refine aT (aY (by assumption)) ?_)) (fun Lz=>?_);refine dZ (places:=[(0,1),(1,1)]) aM kG OC rfl ⟨_,_,rfl,rfl,rfl⟩ (out:=[_,.slice none 0 0]) ⟨0,[_],rfl,rfl,by simp[Value.cells],rfl⟩ ?_;refine eX j7 kG rfl (fun sU yJ PC PD cn eu=>?_);obtain⟨oB,o7⟩:∃M',M'=ins j7 sU:=⟨_,rfl⟩;rw[←o7]at eu;have ck:oB sU:=by rw[o7];exact .inl rfl
     change yJ.heap[sU]? =some (.cells #[.int .i64 0,.slice none 0 0] _ _)at cn;have:=ak g2;replace cL:=(eu.mem _ this).2 cL;replace g2:=eu.aI g2;have:=ak g3;replace dS:=(eu.mem _ this).2 dS;replace g3:=eu.aI g3;have:=ak cW;replace cv:=(eu.mem _ this).2 cv;replace cW:=eu.aI cW;replace cz:=cz.le (by decide) eu.le;replace cT:=cT.le eu.le;replace gF:=gF.le eu.le;replace hM:=eu.lt hM;have:=S.size;replace S:=S.ay eu;refine fc (M:=oB) (vs:=[.int .i64 d.1,.slice none 0 0]) kG rfl rfl (by intro u hu;simp at hu;rcases hu with rfl|rfl<;>first|rfl|exact jY (by assumption) rfl rfl) rfl rfl cn ck (fun xa E4 iN=>?_);have:=ak g2;replace cL:=(iN.mem _ this).2 cL;replace g2:=iN.bF g2 (fun hk=>by have hk:_=_:=hk;omega);have:=ak g3;replace dS:=(iN.mem _ this).2 dS;replace g3:=iN.bF g3 (fun hk=>by have hk:_=_:=hk;omega);have:=ak cW;replace cv:=(iN.mem _ this).2 cv;replace cW:=iN.bF cW (fun hk=>by have hk:_=_:=hk;omega);have:=ak cn;replace ck:=(iN.mem _ this).2 ck;replace cz:=cz.le (by decide) iN.le;replace cT:=cT.le iN.le;replace gF:=gF.le iN.le;replace hM:=iN.lt hM;have:=S.size;replace S:=S.trans iN (fun k hk h=>by have h:_=_:=h;subst h;first|(exfalso;omega)|(show _≤_;omega)|exact⟨by first|omega|assumption,(S.mem _ hk).1 ((iN.mem _ (ak cn)).1 ck)⟩|exact .inl rfl|exact .inr rfl|exact .inr (.inl rfl)|exact .inr (.inr rfl)|exact rfl);have gv:=E4;clear cn;have cn:=gv;clear gv;refine ad (aj (ah (aS (o':=1) aM rfl rfl pY (by decide) rfl rfl (aE aU rfl rfl rfl (by assumption) rfl (aS (o':=1) aM rfl rfl pY (by decide) rfl rfl (aE aU rfl rfl rfl (by assumption) rfl ?_))))));have cI:=Own.Jn RT.fd 127 xa.heap.size hM
     have Vb:=ak cW;have E5:w0.heap.size≤xa.heap.size:=S.size;refine cO (M:=oB) (base:=xa.heap.size) aU hU rfl rfl rfl rfl cI gF (aq _ _) (by simp;omega) (by simp;omega) (bh _) (fun sJ mZ EL oz dR=>?_);have:=ak g2;replace cL:=(dR.mem _ this).2 cL;replace g2:=dR.bF g2 (fun h=>by first|exact cI.dC g2 h|exact cI.eL g2 (by decide) h|(have:=(cI.base _ h).1;omega));have:=ak g3;replace dS:=(dR.mem _ this).2 dS;replace g3:=dR.bF g3 (fun h=>by first|exact cI.dC g3 h|exact cI.eL g3 (by decide) h|(have:=(cI.base _ h).1;omega));have:=ak cW;replace cv:=(dR.mem _ this).2 cv;replace cW:=dR.bF cW (fun h=>by first|exact cI.dC cW h|exact cI.eL cW (by decide) h|(have:=(cI.base _ h).1;omega));have:=ak cn;replace ck:=(dR.mem _ this).2 ck;replace cn:=dR.bF cn (fun h=>by first|exact cI.dC cn h|exact cI.eL cn (by decide) h|(have:=(cI.base _ h).1;omega));replace cz:=cz.le (by decide) dR.le;replace cT:=cT.le dR.le;replace gF:=gF.le dR.le;replace hM:=dR.lt hM;have:=S.size;replace S:=S.dh dR cI E5;replace cI:=oz;refine aS (o':=1) aM rfl rfl pY (by decide) rfl rfl ?_;refine bQ (M:=mZ) pY rfl rfl cn rfl ((by obtain⟨_,_,he,_⟩:=cI.isSlice;rw[he];rfl)) ck (fun E6 yK eT=>?_);change E6.heap[_]? =some (Obj.cells #[.int .i64 d.1,sJ] _ _)at yK;have:=ak g2;replace cL:=(eT.mem _ this).2 cL;replace g2:=eT.bF g2 (fun hk=>by have hk:_=_:=hk;omega);have:=ak g3;replace dS:=(eT.mem _ this).2 dS;replace g3:=eT.bF g3 (fun hk=>by have hk:_=_:=hk;omega);have:=ak cW;replace cv:=(eT.mem _ this).2 cv;replace cW:=eT.bF cW (fun hk=>by have hk:_=_:=hk;omega);have:=ak cn;replace ck:=(eT.mem _ this).2 ck
     replace cz:=cz.le (by decide) eT.le;replace cT:=cT.le eT.le;replace gF:=gF.le eT.le;replace cI:=cI.step eT (fun b hb hk=>by have hk:_=_:=hk;have:=(cI.base b hb);omega);replace hM:=eT.lt hM;have:=S.size;replace S:=S.trans eT (fun k hk h=>by have h:_=_:=h;subst h;first|(exfalso;omega)|(show _≤_;omega)|exact⟨by first|omega|assumption,(S.mem _ hk).1 ((eT.mem _ (ak cn)).1 ck)⟩|exact .inl rfl|exact .inr rfl|exact .inr (.inl rfl)|exact .inr (.inr rfl)|exact rfl);have gv:=yK;clear cn;have cn:=gv;clear gv;refine ad (aj (ah (aS (o':=1) aM rfl rfl pY (by decide) rfl rfl (aE aU rfl rfl rfl (by assumption) rfl (ib (vs:=[.string ⟨((fixF i x).1).toArray⟩,.string ⟨((fixF i x).2).toArray⟩]) bS rfl hU rfl rfl rfl cW ?_)))));refine eQ (A:=RT.fd) (hn:=by decide) (M:=mZ) aU hU (by decide) rfl rfl hM (show RT.fd.V _ _ (fixF i x) _ from dY (jM.2 ⟨rfl,fK Jw.1 (by decide)⟩) (jM.2 ⟨rfl,fK Jw.2 (by decide)⟩) rfl rfl rfl rfl) (.inl rfl) (fun Js PE eJ eU=>?_);have:=ak g2;replace cL:=(eU.mem _ this).2 cL;replace g2:=eU.aI g2;have:=ak g3;replace dS:=(eU.mem _ this).2 dS;replace g3:=eU.aI g3;have:=ak cW;replace cv:=(eU.mem _ this).2 cv;replace cW:=eU.aI cW;have:=ak cn;replace ck:=(eU.mem _ this).2 ck;replace cn:=eU.aI cn;replace cz:=cz.le (by decide) eU.le;replace cT:=cT.le eU.le;replace gF:=gF.le eU.le;replace cI:=cI.bg eU;replace hM:=eU.lt hM;have:=S.size;replace S:=S.ay eU;refine cO (M:=mZ) (base:=xa.heap.size) aU hU rfl rfl rfl rfl cI eJ (aq _ _) (by simp;omega) (by simp;omega) (by have:=dR.size;have:=eT.size;have:=eU.size;omega) (fun eN j8 PF Az fo=>?_);have:=ak g2
     replace cL:=(fo.mem _ this).2 cL;replace g2:=fo.bF g2 (fun h=>by first|exact cI.dC g2 h|exact cI.eL g2 (by decide) h|(have:=(cI.base _ h).1;omega));have:=ak g3;replace dS:=(fo.mem _ this).2 dS;replace g3:=fo.bF g3 (fun h=>by first|exact cI.dC g3 h|exact cI.eL g3 (by decide) h|(have:=(cI.base _ h).1;omega));have:=ak cW;replace cv:=(fo.mem _ this).2 cv;replace cW:=fo.bF cW (fun h=>by first|exact cI.dC cW h|exact cI.eL cW (by decide) h|(have:=(cI.base _ h).1;omega));have:=ak cn;replace ck:=(fo.mem _ this).2 ck;replace cn:=fo.bF cn (fun h=>by first|exact cI.dC cn h|exact cI.eL cn (by decide) h|(have:=(cI.base _ h).1;omega));replace cz:=cz.le (by decide) fo.le;replace cT:=cT.le fo.le;replace gF:=gF.le fo.le;replace eJ:=eJ.le fo.le;replace hM:=fo.lt hM;have:=S.size;replace S:=S.dh fo cI E5;replace cI:=Az;refine aS (o':=1) aM rfl rfl pY (by decide) rfl rfl ?_;refine bQ (M:=j8) pY rfl rfl cn rfl ((by obtain⟨_,_,he,_⟩:=cI.isSlice;rw[he];rfl)) ck (fun E7 yL eV=>?_);change E7.heap[_]? =some (Obj.cells #[.int .i64 d.1,eN] _ _)at yL;have:=ak g2;replace cL:=(eV.mem _ this).2 cL;replace g2:=eV.bF g2 (fun hk=>by have hk:_=_:=hk;omega);have:=ak g3;replace dS:=(eV.mem _ this).2 dS;replace g3:=eV.bF g3 (fun hk=>by have hk:_=_:=hk;omega);have:=ak cW;replace cv:=(eV.mem _ this).2 cv;replace cW:=eV.bF cW (fun hk=>by have hk:_=_:=hk;omega);have:=ak cn;replace ck:=(eV.mem _ this).2 ck;replace cz:=cz.le (by decide) eV.le;replace cT:=cT.le eV.le;replace gF:=gF.le eV.le;replace eJ:=eJ.le eV.le;replace cI:=cI.step eV (fun b hb hk=>by have hk:_=_:=hk;have:=(cI.base b hb);omega);replace hM:=eV.lt hM;have:=S.size
     replace S:=S.trans eV (fun k hk h=>by have h:_=_:=h;subst h;first|(exfalso;omega)|(show _≤_;omega)|exact⟨by first|omega|assumption,(S.mem _ hk).1 ((eV.mem _ (ak cn)).1 ck)⟩|exact .inl rfl|exact .inr rfl|exact .inr (.inl rfl)|exact .inr (.inr rfl)|exact rfl);have gv:=yL;clear cn;have cn:=gv;clear gv;refine ad (aj (ah (ib (vs:=[.int .i64 d.1,eN]) aM rfl kG rfl rfl rfl cn ?_)));have rq:=cI.view (hn:=by decide) (by simp;omega);replace cL:rm j8 eN _:=⟨cL,by first|exact cI.eL g2 (by decide)|(intro h;have:=(cI.base _ h).1;omega)⟩;replace dS:rm j8 eN _:=⟨dS,by first|exact cI.eL g3 (by decide)|(intro h;have:=(cI.base _ h).1;omega)⟩;replace cv:rm j8 eN _:=⟨cv,by first|exact cI.eL cW (by decide)|(intro h;have:=(cI.base _ h).1;omega)⟩;replace ck:rm j8 eN _:=⟨ck,by first|exact cI.eL cn (by decide)|(intro h;have:=(cI.base _ h).1;omega)⟩;replace cz:=cz.le (by decide) (l3 _ eN _);replace cT:=cT.le (l3 _ eN _);replace gF:=gF.le (l3 _ eN _);replace eJ:=eJ.le (l3 _ eN _);replace hM:Lt (rm j8 eN) _:=fun b hb=>hM b hb.1
     replace S:=S.freeze (v:=eN) (fun b hb=>by have:=(cI.base b hb).1;omega);clear cI;refine aP rfl rfl OF (u1 (d:=(d.1,[]++out++[fixF i x])) _ hM (dY (gj Sb) rq rfl rfl rfl rfl) (fun y hy=>by have:=(vY.snoc Jw) y (by simpa using hy);omega)) (fun Zg PG hc=>?_);obtain⟨rfl,je⟩:=hc;rw[gN]at rq;have:=ak g2;replace cL:=(je.mem _ this).2 cL;replace g2:=je.aI g2;have:=ak g3;replace dS:=(je.mem _ this).2 dS;replace g3:=je.aI g3;have:=ak cW;replace cv:=(je.mem _ this).2 cv;replace cW:=je.aI cW;have:=ak cn;replace ck:=(je.mem _ this).2 ck;replace cn:=je.aI cn;replace cz:=cz.le (by decide) je.le;replace cT:=cT.le je.le;replace gF:=gF.le je.le;replace eJ:=eJ.le je.le;replace rq:=rq.le je.le;replace hM:=je.lt hM;have:=S.size;replace S:=S.ay je;refine Rg.zS rfl rfl rfl (bz (v':= .bool (decide (kh (d.1,out++[fixF i x])=0))) (by rw[gN]) (ad ?_));refine bI rfl (fun LA=>?_) (fun LA=>?_)
     ·refine ah (ib (vs:=[.int .i64 d.1,eN]) aM rfl kG rfl rfl rfl cn ?_);refine fc (M:=rm j8 eN) (vs:=[.int .i64 d.1,eN]) kG rfl rfl (by intro u hu;simp at hu;rcases hu with rfl|rfl<;>first|rfl|exact jY (by assumption) rfl rfl) rfl rfl g3 dS (fun Vc E8 gM=>?_);have:=ak g2;replace cL:=(gM.mem _ this).2 cL;replace g2:=gM.bF g2 (fun hk=>by have hk:_=_:=hk;omega);have:=ak g3;replace dS:=(gM.mem _ this).2 dS;have:=ak cW;replace cv:=(gM.mem _ this).2 cv;replace cW:=gM.bF cW (fun hk=>by have hk:_=_:=hk;omega);have:=ak cn;replace ck:=(gM.mem _ this).2 ck;replace cn:=gM.bF cn (fun hk=>by have hk:_=_:=hk;omega);replace cz:=cz.le (by decide) gM.le;replace cT:=cT.le gM.le;replace gF:=gF.le gM.le;replace eJ:=eJ.le gM.le;replace rq:=rq.le gM.le;replace hM:=gM.lt hM;have:=S.size;replace S:=S.trans gM (fun k hk h=>by have h:_=_:=h;subst h;first|(exfalso;omega)|(show _≤_;omega)|exact⟨by first|omega|assumption,(S.mem _ hk).1 ((gM.mem _ (ak g3)).1 dS)⟩|exact .inl rfl|exact .inr rfl|exact .inr (.inl rfl)|exact .inr (.inr rfl)|exact rfl);have PH:=E8;clear g3;have g3:=PH;clear PH;refine ad (ah (ae rfl rfl (bB rfl rfl rfl (by omega) (ai rfl rfl (ad ?_)))));refine⟨rfl,(i+1,out++[fixF i x]),(.cons rfl (.cons rfl (.cons rfl (.cons rfl (.cons rfl .nil))))),?_,?_⟩
      ·exact⟨_,_,hM,S,cz,cT,g2,cL,g3,dS,rq,by rw[sI,Sc,if_pos LA],by dsimp only;omega,by dsimp only;omega,vY.snoc Jw,by simp;omega⟩
      ·dsimp only;omega
     ·refine aV (ah (ae rfl rfl (bB rfl rfl rfl (by omega) (ai rfl rfl (ad ?_)))));refine⟨rfl,(i+1,out),(.cons rfl (.cons rfl (.cons rfl (.cons rfl (.cons rfl .nil))))),?_,?_⟩
      ·exact⟨_,_,hM,S,cz,cT,g2,cL,g3,dS,gF,by rw[sI,Sc,if_neg LA],by dsimp only;omega,by dsimp only;omega,vY,by dsimp only;omega⟩
      ·dsimp only;omega
   ·refine cN (aj (ah (ib (vs:=[.int .i64 d.1,uo]) aM rfl kG rfl rfl rfl g3 ?_)));refine fc (M:=M1) (vs:=[.int .i64 d.1,uo]) kG rfl rfl (by intro u hu;simp at hu;rcases hu with rfl|rfl<;>first|rfl|exact jY (by assumption) rfl rfl) rfl rfl g2 cL (fun Vd E9 lT=>?_);have:=ak g2;replace cL:=(lT.mem _ this).2 cL;have:=ak g3;replace dS:=(lT.mem _ this).2 dS;replace g3:=lT.bF g3 (fun hk=>by have hk:_=_:=hk;omega);replace cz:=cz.le (by decide) lT.le;replace cT:=cT.le lT.le;replace gF:=gF.le lT.le;replace hM:=lT.lt hM;have:=S.size;replace S:=S.trans lT (fun k hk h=>by have h:_=_:=h;subst h;first|(exfalso;omega)|(show _≤_;omega)|exact⟨by first|omega|assumption,(S.mem _ hk).1 ((lT.mem _ (ak g2)).1 cL)⟩|exact .inl rfl|exact .inr rfl|exact .inr (.inl rfl)|exact .inr (.inr rfl)|exact rfl);have Fa:=E9;clear g2;have g2:=Fa;clear Fa;refine ad (aJ ?_);have e:l7 d=(d.1,out):=by rw[l7,sI,vf (by omega)]
    rw[e];refine wy (vs:=[.int .i64 d.1,uo]) rfl rfl aM rfl kG rfl g2 ⟨dY (gj Sb) (gF.le (Le.close jH S)) rfl rfl rfl rfl,S.back⟩
  ·refine ao rfl rfl rfl rfl (ao rfl rfl rfl rfl (ax rfl rfl rfl (ad (hY rfl (cN (aj (ah (ib (vs:=[.int .i64 d.1,uo]) aM rfl kG rfl rfl rfl g3 ?_))))))));refine fc (M:=M1) (vs:=[.int .i64 d.1,uo]) kG rfl rfl (by intro u hu;simp at hu;rcases hu with rfl|rfl<;>first|rfl|exact jY (by assumption) rfl rfl) rfl rfl g2 cL (fun Vd E9 lT=>?_);have:=ak g2;replace cL:=(lT.mem _ this).2 cL;have:=ak g3;replace dS:=(lT.mem _ this).2 dS;replace g3:=lT.bF g3 (fun hk=>by have hk:_=_:=hk;omega);replace cz:=cz.le (by decide) lT.le;replace cT:=cT.le lT.le;replace gF:=gF.le lT.le;replace hM:=lT.lt hM;have:=S.size;replace S:=S.trans lT (fun k hk h=>by have h:_=_:=h;subst h;first|(exfalso;omega)|(show _≤_;omega)|exact⟨by first|omega|assumption,(S.mem _ hk).1 ((lT.mem _ (ak g2)).1 cL)⟩|exact .inl rfl|exact .inr rfl|exact .inr (.inl rfl)|exact .inr (.inr rfl)|exact rfl);have Fa:=E9;clear g2;have g2:=Fa;clear Fa;refine ad (aJ ?_);have e:l7 d=(d.1,out):=by rw[l7,sI,vf (by omega)]
   rw[e];refine wy (vs:=[.int .i64 d.1,uo]) rfl rfl aM rfl kG rfl g2 ⟨dY (gj Sb) (gF.le (Le.close jH S)) rfl rfl rfl rfl,S.back⟩
end Go.K
namespace Go.K
open Go.Proofs
set_option maxRecDepth 10000
def fO (l:List Dc) (from_ step:Int):Nat→List En
 |0=>[]
 |k+1=>fO l from_ step k++(match l[k]? with|some d=>[(l7 d,from_+step*(k:Int))]|none=>[])
theorem jI (l:List Dc) (a s:Int):∀k,(fO l a s k).length=min k l.length
 |0=>by simp[fO]
 |k+1=>by
  rw[fO,bJ,jI l a s k]
  cases h:l[k]? with
  |none=>have:=List.getElem?_eq_none_iff.1 h;simp;omega
  |some d=>have:=(av.1 h).1;simp;omega
theorem sV {l:List Dc} {a s:Int} {k:Nat} {d:Dc} (h:l[k]? =some d):fO l a s (k+1)=fO l a s k++[(l7 d,a+s*(k:Int))]:=by rw[fO,h]
theorem sY {l:List Dc} {a s:Int} {k:Nat} (h:l.length≤k):fO l a s (k+1)=fO l a s k:=by
 rw[fO,List.getElem?_eq_none_iff.2 h];simp
theorem yM {l:List Dc} {a s:Int} {n i:Nat} (h:l.length≤i∨n≤i) (h1:i≤n):fO l a s i=fO l a s n:=by
 induction n with
 |zero=>have:i=0:=by omega
        rw[this]
 |succ n ih=>
  rcases jg h1 with e|dB
  ·rw[e]
  ·rcases h with h|h
   ·rw[sY (by omega)];exact ih (.inl h) (by omega)
   ·omega
theorem HW {s k:Int} (h:0≤s∧s≤1000) (hk:0≤k∧k≤100):0≤s*k∧s*k≤100000:=
 ⟨Int.mul_nonneg h.1 hk.1,Int.le_trans (Int.mul_le_mul h.2 hk.2 hk.1 (by omega)) (by omega)⟩
theorem AA {M:aA} {l:List Dc} {v0:Value} {most:Nat} {a s:Int} (w0:World) (hM:Lt M w0) (hv:(RT.dc.sl).V M w0 l v0) (hm:most≤100) (ha:0≤a∧a≤1000000) (hs:0≤s∧s≤1000):
  Spec Tryz.prog 21 #[v0,.int .i64 (most:Int),.int .i64 a,.int .i64 s] w0 (fun v w=>(RT.en.sl).V M w (fO l a s most) v∧Step M w0 M w aC):=by
 have jH:=hM;refine aX (args:=[_,_,_,_]) (fn:=Tryz.f21) Tryz.func21 rfl (n:=37) Tryz.ntmps21 ?_;have S:Step M w0 M w0 aC:=(an _ _).cb (fun _ h=>h.elim) (fun _ h=>h.elim);refine aj (ah (ai rfl rfl (ad (aj (ah (ai rfl rfl (ad (aj (aj (ah (ai rfl rfl ?_)))))))))));refine ad (bj ?_);refine dF (σ:=Nat×Value) (fun q=>[(0,v0),(1,.int .i64 (most:Int)),(2,.int .i64 a),(3,.int .i64 s),(9,q.2),(10,.int .i64 (q.1:Int))]) (fun q w=>∃M',Lt M' w∧Step M w0 M' w aC∧Own RT.en 43 M' w w0.heap.size q.2 (fO l a s q.1)∧(RT.dc.sl).V M' w l v0∧q.1≤most∧q.1≤l.length) (fun q=>most-q.1) (0,.slice none 0 0) (.cons rfl (.cons rfl (.cons rfl (.cons rfl (.cons rfl (.cons rfl .nil)))))) ?_ ?_
 ·exact⟨M,hM,S,ec _ _ _ _ _,hv,bH _,bH _⟩
 ·rintro⟨i,u⟩ w ⟨M1,hM,S,ho,hv,hi,mf⟩;dsimp only at ho hi mf ⊢;refine aj (aj (ah (ae rfl rfl (ae rfl rfl (bT Tryz.underlying36 rfl hv rfl (cd rfl rfl rfl (ae rfl rfl ?_)))))));refine aG (g:=15) rfl (fun LB=>?_) (fun LB=>?_)
  ·refine al rfl rfl (ae rfl rfl (al rfl rfl (ae rfl rfl (al rfl rfl (cd rfl rfl rfl (aR rfl rfl rfl (ad ?_)))))));refine bI rfl (fun c3=>?_) (fun c3=>?_)
   ·refine aV (aj (bj (ah (ae rfl rfl (ae rfl rfl (ae rfl rfl ?_))))));refine dq (M:=M1) Tryz.underlying36 kG rfl rfl rfl hv (aq _ _) (by omega) (fun u5 d CM Am=>?_);rw[az]at CM;have hsi:=HW (k:=(i:Int)) hs (by omega);refine cC (M:=M1) (A:=RT.dc) aM rfl kG (by decide) rfl rfl rfl Am (aq _ _) (fun v5 nS=>?_);refine aP rfl rfl E65 (CT _ hM nS) (fun r5 w5 hc=>?_);obtain⟨sI,s5⟩:=hc;replace hv:=hv.le s5.le;replace ho:=ho.bg s5;replace hM:=s5.lt hM;have:=S.size;replace S:=S.ay s5;refine ae rfl rfl (ae rfl rfl (ae rfl rfl (Rg.Kg rfl rfl rfl (by omega) (bB rfl rfl rfl (by omega) ?_))));obtain⟨uf,rfl⟩:=wY sI;refine dZ (places:=[(0,2),(2,1)]) cP yk R2 rfl ⟨_,_,rfl,rfl,_,_,rfl,rfl,rfl⟩ (out:=[_,_,_]) ⟨0,[_,_],rfl,rfl,by simp[Value.cells],2,[_],rfl,rfl,by simp[Value.cells],rfl⟩ ?_;refine eQ (A:=RT.en) (hn:=by decide) (M:=M1) gg yk (by decide) rfl rfl hM (show RT.en.V _ _ (l7 d,a+s*(i:Int)) _ from BS sI (by omega)) (.inl rfl) (fun PI PJ oC nT=>?_);replace hv:=hv.le nT.le;replace sI:=sI.le nT.le;replace ho:=ho.bg nT;replace hM:=nT.lt hM;have:=S.size;replace S:=S.ay nT;refine cO (M:=M1) (base:=w0.heap.size) gg yk rfl rfl rfl rfl ho oC (aq _ _) (by have:=jI l a s i;simp;omega) (by have:=jI l a s i;simp;omega) (S.size) (fun Fb Fc PK AB nU=>?_);replace hv:=hv.le nU.le;replace sI:=sI.le nU.le;replace oC:=oC.le nU.le;replace hM:=nU.lt hM;have:=S.size;replace S:=S.dh nU ho (bh _);replace ho:=AB;refine ai rfl rfl (ad (ah (ae rfl rfl (bB rfl rfl rfl (by omega) (ai rfl rfl (ad ?_))))));refine⟨rfl,(i+1,Fb),(.cons rfl (.cons rfl (.cons rfl (.cons rfl (.cons rfl (.cons rfl .nil)))))),?_,?_⟩
    ·exact⟨Fc,hM,S,by rw[sV CM];exact ho,hv,by dsimp only;omega,by dsimp only;omega⟩
    ·dsimp only;omega
   ·refine cN (aj (ah (ae rfl rfl (ai rfl rfl (ad (aJ ?_))))));rw[←yM (i:=i) (n:=most) (by omega) hi];exact aO rfl rfl ⟨ho.close jH S (by have:=jI l a s i;omega),S.back⟩
  ·refine ao rfl rfl rfl rfl (ao rfl rfl rfl rfl (ao rfl rfl rfl rfl (ax rfl rfl rfl (ad (hY rfl (cN (aj (ah (ae rfl rfl (ai rfl rfl (ad ?_)))))))))));refine aJ ?_;rw[←yM (i:=i) (n:=most) (by omega) hi];exact aO rfl rfl ⟨ho.close jH S (by have:=jI l a s i;omega),S.back⟩
end Go.K
namespace Go.K
open Go.Maps (Keyed)
structure ew (P:Program) (kt:TypeId) (w:World) (b:Nat) (es:List MapEntry) (clock:Nat):Prop where
 at_:w.heap[b]? =some (.map es.toArray clock)
 born:es.Pairwise fun x y=>x.born≠y.born
 lt:∀e∈es,e.born<clock
 keys:es.Pairwise fun x y=>x.key≠y.key
 ok:∀e∈es,∃l,keyOf P kt e.key=some l
def dD (zv:Value) (es:List MapEntry) (key v:Value):Prop:=(∃e∈es,e.key=key∧v=e.val)∨((∀e∈es,e.key≠key)∧v=zv)
section
variable {P:Program} {kt:TypeId} {w:World} {b clock:Nat} {es:List MapEntry}
theorem ew.step {M M' N:aA} {w':World} (h:ew P kt w b es clock) (s:Step M w M' w' N) (hn: ¬N b):ew P kt w' b es clock:=⟨s.bF h.at_ hn,h.born,h.lt,h.keys,h.ok⟩
theorem ew.bg {M M':aA} {w':World} (h:ew P kt w b es clock) (s:Step M w M' w' aC):ew P kt w' b es clock:=h.step s fun h=>h
theorem fH {α:Type} {R:α→α→Prop} {l:List α} (h:l.Pairwise R) {i j:Nat} {x y:α} (hi:l[i]? =some x) (hj:l[j]? =some y) (gm:i<j):R x y:=by
 obtain⟨h1,h2⟩:=av.1 hi;obtain⟨h3,h4⟩:=av.1 hj;have:=List.pairwise_iff_getElem.1 h i j h1 h3 gm
 rwa [h2,h4]at this
theorem ew.BW (h:ew P kt w b es clock) {x y:MapEntry} (hx:x∈es) (hy:y∈es) (e:x.key=y.key):x=y:=by
 obtain⟨i,hi⟩:=bO.1 hx;obtain⟨j,hj⟩:=bO.1 hy;rcases gV i j with h1|h1|h1
 ·exact absurd e (fH h.keys hi hj h1)
 ·subst h1;rw[hi]at hj;exact bM hj
 ·exact absurd e.symm (fH h.keys hj hi h1)
theorem ew.yN (h:ew P kt w b es clock) {i j:Nat} {x y:MapEntry} (hi:es[i]? =some x) (hj:es[j]? =some y) (e:x.born=y.born):i=j:=by
 rcases gV i j with h1|h1|h1
 ·exact absurd e (fH h.born hi hj h1)
 ·exact h1
 ·exact absurd e.symm (fH h.born hj hi h1)
theorem ew.val_one (h:ew P kt w b es clock) {zv key v v':Value} (h1:dD zv es key v) (h2:dD zv es key v'):v=v':=by
 rcases h1 with⟨e,he,hk,hv⟩|⟨hn,hv⟩
 ·rcases h2 with⟨e',ng,rQ,nL⟩|⟨Jz,_⟩
  ·have:=h.BW he ng (hk.trans rQ.symm);rw[hv,nL,this]
  ·exact absurd hk (Jz e he)
 ·rcases h2 with⟨e',ng,rQ,_⟩|⟨_,nL⟩
  ·exact absurd rQ (hn e' ng)
  ·rw[hv,nL]
theorem cY {r:Nat} {a:Array MapEntry} {c:Nat} (hb:w.heap[r]? =some (.map a c)):(getObj r).run P w= .ok (.map a c) w:=by simp[getObj,Sem.run,hb]
theorem run_setObj_map {r:Nat} {a:Array MapEntry} {c:Nat} {o:Obj} (hb:w.heap[r]? =some (.map a c)):(setObj r o).run P w= .ok () {w with heap:=w.heap.setIfInBounds r o}:=by simp[setObj,Sem.run,hb]
theorem ew.push (h:ew P kt w b es clock) {key v:Value} {kl:Lit} (jo:keyOf P kt key=some kl) (hn:∀e∈es,e.key≠key) {w':World} (hw:w'.heap[b]? =some (.map (es++([⟨key,v,clock⟩]:List MapEntry)).toArray (clock+1))):ew P kt w' b (es++[⟨key,v,clock⟩]) (clock+1):=
 ⟨hw,List.pairwise_append.2 ⟨h.born,List.pairwise_singleton _ _,fun x hx y hy=>by rw[cE.1 hy];have:=h.lt x hx;show x.born≠clock;omega⟩,(fun e he=>by
  rcases dm.1 he with he|he
  ·have:=h.lt e he;omega
  ·rw[cE.1 he];exact Nat.lt_succ_self _),List.pairwise_append.2 ⟨h.keys,List.pairwise_singleton _ _,fun x hx y hy=>by rw[cE.1 hy];exact hn x hx⟩,(fun e he=>by
  rcases dm.1 he with he|he
  ·exact h.ok e he
  ·rw[cE.1 he];exact⟨kl,jo⟩)⟩
theorem dD.push {zv key:Value} {s:Nat} (hn:∀e∈es,e.key≠key) (gw v':Value):dD zv (es++[⟨key,zv,s⟩]) gw v'↔dD zv es gw v':=by
 constructor
 ·rintro(⟨e,he,hk,hv⟩|⟨h1,h2⟩)
  ·rcases dm.1 he with he|he
   ·exact .inl ⟨e,he,hk,hv⟩
   ·rw[cE.1 he]at hk hv;exact .inr ⟨fun e he=>by rw[←hk];exact hn e he,hv⟩
  ·exact .inr ⟨fun e he=>h1 e (kA _ he),h2⟩
 ·rintro(⟨e,he,hk,hv⟩|⟨h1,h2⟩)
  ·exact .inl ⟨e,kA _ he,hk,hv⟩
  ·by_cases hk:key=gw
   ·exact .inl ⟨⟨key,zv,s⟩,by simp,hk,h2⟩
   ·exact .inr ⟨fun e he=>by
     rcases dm.1 he with he|he
     ·exact h1 e he
     ·rw[cE.1 he];exact hk,h2⟩
end
section
variable {P:Program} {r:Option Nat} {n:Nat} {L:Sl} {ds:List Deferred} {w:World} {K:Kt} {ops:Array Oper} {rest:List Oper} {d:Nat} {x y z:Operand} {ty:TypeId} {pos:String} {af:Array Edge}
variable {kt:TypeId} {M:aA} {b clock:Nat} {es:List MapEntry}
theorem Rg.yO {t e:TypeId} (M:aA) (ht:P.underlying t=some (.map kt e)) (hd:Nat.blt d n=true)
  (k:∀b w',w.heap.size≤b→b<w'.heap.size→ew P kt w' b [] 0→Step M w (ins M b) w' aC→Rg P r n ops rest ((d,.map (some b))::L) ds w' K):
  Rg P r n ops ({dst:=some d,op:= .makeMap t none,type:=ty,pos,after:=af,guard:=none}::rest) L ds w K:=by
 refine .op (fun _ h=>by cases h) rfl rfl hd (.map (some w.heap.size)) (w.alloc (.map #[] 0)) (fun ρ hρ=>?_) (k w.heap.size _ (bh _) (by simp) ⟨cq w _,List.Pairwise.nil,(fun e he=>by cases he),List.Pairwise.nil,(fun e he=>by cases he)⟩ ((cU M w _).own (bh _) (by simp)));simp only[execOp];simp[Instr.makeMap,newObj,Sem.run,run_underlying ht]
theorem Rg.mapEntry {t e:TypeId} {zv key:Value} {size bytes:Nat} {kl:Lit} (ht:P.underlying t=some (.map kt e)) (Kk:Keyed P kt) (hi:TI P e zv size bytes) (hx:ev L x=some (.map (some b))) (hy:ev L y=some key) (hd:Nat.blt d n=true) (jo:keyOf P kt key=some kl) (h:ew P kt w b es clock) (hm:M b)
  (k:∀w' l8 AD v s,ew P kt w' b l8 AD→dD zv es key v→(⟨key,v,s⟩:MapEntry)∈l8→(∀gw v',dD zv l8 gw v'↔dD zv es gw v')→((l8.map (·.key)=es.map (·.key)∧∃e∈es,e.key=key)∨(l8.map (·.key)=es.map (·.key)++[key]∧∀e∈es,e.key≠key))→Step M w M w' (fun k=>k=b)→Rg P r n ops rest ((d,.tuple #[v,.int .i64 (s:Nat)])::L) ds w' K):
  Rg P r n ops ({dst:=some d,op:= .mapEntry t x y,type:=ty,pos,after:=af,guard:=none}::rest) L ds w K:=by
 have dB:=ak h.at_;rcases Kk.find w jo es h.ok with⟨h1,h2⟩|⟨j,e0,h1,h2,h3⟩
 ·obtain⟨inf,i1,i2,_,_⟩:=hi.get;have hz:(zeroValue e).run P w= .ok zv w:=by simp[zeroValue,typeInfo,i1,i2]
  have hw:({w with heap:=w.heap.setIfInBounds b (.map (es.toArray.push ⟨key,zv,clock⟩) (clock+1))}:World).heap[b]? =some (.map (es++([⟨key,zv,clock⟩]:List MapEntry)).toArray (clock+1)):=by
   simp[cJ,dB]
  refine .op (fun _ h=>by cases h) rfl rfl hd _ _ (fun ρ hρ=>?_) (k _ _ _ zv clock (h.push jo h2 hw) (Or.inr ⟨h2,rfl⟩) (by simp) (dD.push h2) (Or.inr ⟨by simp,h2⟩) (gr M hm));simp only[execOp,hρ x _ hx,hρ y _ hy,Instr.mapEntry,cQ,run_underlying ht,dr,cY h.at_,Kk.check w false jo,h1,hz,run_setObj_map h.at_];simp[goInt]
 ·have he:e0∈es:=aL h2
  have Fe:es.toArray.modify j (fun e=>{e with key:=key})=es.toArray:=by
   apply Array.ext_getElem?;intro i;rw[pD]
   split
   ·rename_i PL
    subst PL;simp only[jJ,h2,fu];rw[←h3]
   ·rfl
  have hw:({w with heap:=w.heap.setIfInBounds b (.map es.toArray clock)}:World).heap[b]? =some (.map es.toArray clock):=by simp[cJ,dB]
  have hj:es.toArray[j]? =some e0:=by simpa using h2
  have iy:(Instr.keyThatStays ((Option.map (fun(e:MapEntry)=>e.key) es.toArray[j]?).getD key) key).run P w= .ok key w:=by
   rw[hj];simp only[fu,Option.getD_some,h3];exact Kk.stays w jo
  refine .op (fun _ h=>by cases h) rfl rfl hd _ _ (fun ρ hρ=>?_) (k _ es clock e0.val e0.born ⟨hw,h.born,h.lt,h.keys,h.ok⟩ (Or.inl ⟨e0,he,h3,rfl⟩) (by rw[←h3];exact he) (fun _ _=>Iff.rfl) (Or.inl ⟨rfl,e0,he,h3⟩) (gr M hm));simp only[execOp,hρ x _ hx,hρ y _ hy,Instr.mapEntry,cQ,run_underlying ht,dr,cY h.at_,Kk.check w false jo,h1,iy,Fe,run_setObj_map h.at_];simp[goInt,hj]
theorem Rg.entryStore {t:TypeId} {key v0 val:Value} {s:Nat} (hx:ev L x=some (.map (some b))) (hy:ev L y=some (.int .i64 (s:Int))) (hz:ev L z=some val) (h:ew P kt w b es clock) (hm:M b) (lr:(⟨key,v0,s⟩:MapEntry)∈es)
  (k:∀w' l8,ew P kt w' b l8 clock→l8.map (·.key)=es.map (·.key)→(∀zv gw v',dD zv l8 gw v'↔(gw=key∧v'=val)∨(gw≠key∧dD zv es gw v'))→Step M w M w' (fun k=>k=b)→Rg P r n ops rest L ds w' K):
  Rg P r n ops ({dst:=none,op:= .entryStore t x y z,type:=ty,pos,after:=af,guard:=none}::rest) L ds w K:=by
 have dB:=ak h.at_;obtain⟨i,hi⟩:=bO.1 lr;have mf:=(av.1 hi).1
 have Ve:es.toArray.findIdx? (fun e=>(e.born:Int)==(s:Int))=some i:=by
  rw[List.findIdx?_toArray,List.findIdx?_eq_some_iff_getElem];refine⟨mf,by rw[(av.1 hi).2];simp,fun j hj=>?_⟩;have pF:j<es.length:=by omega
  have:=fun e=>h.yN (aN pF) hi e
  simp only[Bool.not_eq_true,beq_eq_false_iff_ne,ne_eq];intro e;have e2:((es[j]).born:Int)=(s:Int):=by simpa using e
  have:=this (by show(es[j]).born=s;omega);omega
 obtain⟨l8,qb⟩:∃l8,l8=es.set i ⟨key,val,s⟩:=⟨_,rfl⟩
 have Fe:es.toArray.modify i (fun e=>{e with val:=val})=l8.toArray:=by
  apply Array.ext_getElem?;intro j;rw[pD,qb];simp only[jJ,dK]
  split
  ·rename_i PL
   subst PL;rw[hi];simp
  ·rfl
 have fU:∀j e',l8[j]? =some e'→(j=i∧e'=⟨key,val,s⟩)∨(j≠i∧es[j]? =some e'):=fun j e' hj=>by
  rw[qb,dK]at hj
  split at hj
  ·rename_i gm
   left;exact⟨gm.symm,by simpa[mf]using hj.symm⟩
  ·rename_i gm
   exact .inr ⟨fun e=>gm e.symm,hj⟩
 have l9:l8.map (·.key)=es.map (·.key):=by
  rw[qb,List.map_set];apply ke;intro j;rw[dK]
  split
  ·rename_i gm
   subst gm;have e:=(av.1 hi).2;simp[mf,e]
  ·rfl
 have Ff:l8.map (·.born)=es.map (·.born):=by
  rw[qb,List.map_set];apply ke;intro j;rw[dK]
  split
  ·rename_i gm
   subst gm;have e:=(av.1 hi).2;simp[mf,e]
  ·rfl
 have hw:({w with heap:=w.heap.setIfInBounds b (.map l8.toArray clock)}:World).heap[b]? =some (.map l8.toArray clock):=by simp[cJ,dB]
 have ef:∀e'∈l8,(e'=⟨key,val,s⟩)∨(e'∈es∧e'.key≠key):=fun e' ng=>by
  obtain⟨j,hj⟩:=bO.1 ng;rcases fU j e' hj with⟨_,e⟩|⟨eG,pQ⟩
  ·exact .inl e
  ·refine .inr ⟨aL pQ,fun e=>eG ?_⟩;rcases gV j i with h1|h1|h1
   ·exact absurd e (fH h.keys pQ hi h1)
   ·exact h1
   ·exact absurd e.symm (fH h.keys hi pQ h1)
 have Fg:(⟨key,val,s⟩:MapEntry)∈l8:=aL (i:=i) (by rw[qb,dK];simp[mf])
 have hold:∀e'∈es,e'.key≠key→e'∈l8:=fun e' ng eG=>by
  obtain⟨j,hj⟩:=bO.1 ng;refine aL (i:=j) ?_;rw[qb,dK,if_neg]
  ·exact hj
  ·rintro rfl;rw[hi]at hj;cases hj;exact eG rfl
 have hW:ew P kt {w with heap:=w.heap.setIfInBounds b (.map l8.toArray clock)} b l8 clock:=by
  refine⟨hw,?_,fun e' ng=>?_,?_,fun e' ng=>?_⟩
  ·have:=dp.2 h.born;rw[←Ff]at this;exact dp.1 this
  ·rcases ef e' ng with e|⟨h1,_⟩
   ·rw[e];exact(h.lt _ lr:s<clock)
   ·exact h.lt _ h1
  ·have:=dp.2 h.keys;rw[←l9]at this;exact dp.1 this
  ·rcases ef e' ng with e|⟨h1,_⟩
   ·rw[e];exact(h.ok _ lr:∃l,keyOf P kt key=some l)
   ·exact h.ok _ h1
 refine .NX (fun _ h=>by cases h) rfl rfl _ (fun ρ hρ=>?_) (k _ l8 hW l9 (fun zv gw v'=>?_) (gr M hm))
 ·simp only[execOp,hρ x _ hx,hρ y _ hy,hρ z _ hz,Instr.entryStore,cQ,cY h.at_,dr,asInt,asIntOf,Sem.run_pure,Ve,Fe,run_setObj_map h.at_]
 ·constructor
  ·rintro(⟨e',ng,hk,hv⟩|⟨h1,h2⟩)
   ·rcases ef e' ng with e|⟨h3,h4⟩
    ·subst e;exact .inl ⟨hk.symm,hv⟩
    ·exact .inr ⟨by rw[←hk];exact h4,.inl ⟨e',h3,hk,hv⟩⟩
   ·have eG:gw≠key:=fun e=>h1 _ Fg e.symm
    exact .inr ⟨eG,.inr ⟨fun e' ng=>fun e=>by
     by_cases h5:e'.key=key
     ·exact eG (e.symm.trans h5)
     ·exact h1 e' (hold e' ng h5) e,h2⟩⟩
  ·rintro(⟨rfl,rfl⟩|⟨eG,⟨e',ng,hk,hv⟩|⟨h1,h2⟩⟩)
   ·exact .inl ⟨_,Fg,rfl,rfl⟩
   ·exact .inl ⟨e',hold e' ng (by rw[hk];exact eG),hk,hv⟩
   ·exact .inr ⟨fun e' ng=>by
     rcases ef e' ng with e|⟨h3,_⟩
     ·rw[e];exact fun e=>eG e.symm
     ·exact h1 e' h3,h2⟩
theorem Rg.o8 {t e:TypeId} {zv key:Value} {size bytes:Nat} {kl:Lit} (ht:P.underlying t=some (.map kt e)) (Kk:Keyed P kt) (hi:TI P e zv size bytes) (hx:ev L x=some (.map (some b))) (hy:ev L y=some key) (hd:Nat.blt d n=true) (jo:keyOf P kt key=some kl) (h:ew P kt w b es clock)
  (k:∀v,dD zv es key v→Rg P r n ops rest ((d,v)::L) ds w K):
  Rg P r n ops ({dst:=some d,op:= .lookup t x y false,type:=ty,pos,after:=af,guard:=none}::rest) L ds w K:=by
 rcases Kk.find w jo es h.ok with⟨h1,h2⟩|⟨j,e0,h1,h2,h3⟩
 ·obtain⟨inf,i1,i2,_,_⟩:=hi.get;have hz:(zeroValue e).run P w= .ok zv w:=by simp[zeroValue,typeInfo,i1,i2]
  refine .op (fun _ h=>by cases h) rfl rfl hd zv w (fun ρ hρ=>?_) (k zv (Or.inr ⟨h2,rfl⟩));simp only[execOp,hρ x _ hx,hρ y _ hy,Instr.lookup,cQ,run_underlying ht,dr,cY h.at_,Sem.run_pure,Kk.check w _ jo,h1,hz];simp
 ·refine .op (fun _ h=>by cases h) rfl rfl hd e0.val w (fun ρ hρ=>?_) (k e0.val (Or.inl ⟨e0,aL h2,h3,rfl⟩));simp only[execOp,hρ x _ hx,hρ y _ hy,Instr.lookup,cQ,run_underlying ht,dr,cY h.at_,Sem.run_pure,Kk.check w _ jo,h1];simp
end
end Go.K
namespace Go.K
open Go.Proofs
set_option maxRecDepth 10000
open Go.Maps (Keyed)
def kv (t:Fd):Value:= .agg #[.string ⟨t.1.toArray⟩,.string ⟨t.2.toArray⟩]
theorem qc {a b:Fd} (h:kv a=kv b):a=b:=by
 unfold kv at h;simp only[Value.agg.injEq,Array.mk.injEq,List.cons.injEq,Value.string.injEq,ByteArray.mk.injEq,and_true]at h;exact Prod.ext h.1 h.2
theorem Fh:laidOutB Tryz.prog=true:=by kernel_rfl
theorem Fi:Tryz.prog.types.size=356:=by kernel_rfl
theorem vg:Keyed Tryz.prog 47:=Keyed.of_law (deep_law_laid Fh (m:=2) (k:=47) (by omega) (by rw[Fi];decide) (by kernel_rfl) (by kernel_rfl))
theorem PM:Tryz.prog.keyType 47=true:=by kernel_rfl
theorem BX:Tryz.prog.cellsOf 47=2:=by kernel_rfl
theorem HX:Tryz.prog.cellsOf 9=1:=by kernel_rfl
theorem Fj (t:Fd) (h1:t.1.length≤140737488355328) (h2:t.2.length≤140737488355328):∃l,keyOf Tryz.prog 47 (kv t)=some l:=by
 have e1:(⟨t.1.toArray⟩:ByteArray).size=t.1.length:=by simp[ByteArray.size]
 have e2:(⟨t.2.toArray⟩:ByteArray).size=t.2.length:=by simp[ByteArray.size]
 have hs:∀(s:ByteArray),s.size≤maxLen→Tryz.prog.keyLits 356 9 [.string s]=some [.string s.data.toList]:=fun s hs=>by
  show(match Tryz.prog.underlying 9,[Value.string s]with|_,_=>_)=_;rw[aD];exact if_pos hs
 unfold keyOf kv;rw[b9];simp only[PM,Value.formed,b9,BX,Fi]
 have key:∃ls,Tryz.prog.keyLits (356+1) 47 [.string ⟨t.1.toArray⟩,.string ⟨t.2.toArray⟩]=some ls:=by
  unfold Program.keyLits;simp only[b9];rw[if_pos ⟨by rw[BX];rfl,by kernel_rfl⟩];simp only[List.mapM_cons,List.mapM_nil,HX];have g1:=hs ⟨t.1.toArray⟩ (by rw[e1];unfold maxLen;omega);have g2:=hs ⟨t.2.toArray⟩ (by rw[e2];unfold maxLen;omega);refine⟨[.string (⟨t.1.toArray⟩:ByteArray).data.toList,.string (⟨t.2.toArray⟩:ByteArray).data.toList],?_⟩;simp only[List.drop_zero,List.drop_succ_cons,lv,List.take_zero,g1,g2];rfl
 obtain⟨ls,DD⟩:=key;exact⟨.string (keyBytes ls),by rw[if_pos (by simp)];show Option.map _ (Tryz.prog.keyLits (356+1) 47 [.string ⟨t.1.toArray⟩,.string ⟨t.2.toArray⟩])=_;rw[DD];rfl⟩
end Go.K
namespace Go.K
open Go.Proofs
set_option maxRecDepth 10000
def fW (x:Fd):List (Fd×Nat):=(words x.2).zipIdx.map fun p=>((x.1,p.1),p.2)
def b5 (l:List Fd):List (Fd×Nat):=l.flatMap fW
theorem lg (x:Fd):(fW x).length=(words x.2).length:=by simp[fW]
theorem Fk {x:Fd} {k:Nat} {y:List UInt8} (h:(words x.2)[k]? =some y):(fW x)[k]? =some ((x.1,y),k):=by
 simp[fW,List.getElem?_zipIdx,h]
theorem oD {fs:List Fd} {i:Nat} {x:Fd} (h:fs[i]? =some x):b5 (fs.take (i+1))=b5 (fs.take i)++fW x:=by
 rw[cg,h];simp[b5]
structure LC (P:Program) (g:FuncId) (cap:List Value) (B:Nat) (J:List (Fd×Nat)→aA→World→Prop):Prop where
 enters:Enters P g
 step:∀ts M w M' w',J ts M w→Step M w M' w' aC→J ts M' w'
 tell:∀ts M w (t:Fd) (i:Nat),J ts M w→Lt M w→t.1.length≤900000→t.2.length≤140737488355328→i≤1000000→ts.length≤10000000→Spec P g ([kv t,.int .i64 (i:Int)]++cap).toArray w (fun _ w'=>∃M',Lt M' w'∧J (ts++[(t,i)]) M' w'∧Step M w M' w' (jy M B))
theorem vh {M:aA} {d:Dc} {v0:Value} {g:FuncId} {cap:List Value} {B:Nat} {J:List (Fd×Nat)→aA→World→Prop} (w0:World) (hM:Lt M w0) (hv:RT.dc.V M w0 d v0) (hl:∀f∈d.2,f.1.length≤900000∧f.2.length≤900000) (Sa:d.2.length≤8) (hT:LC Tryz.prog g cap B J) (hJ:J [] M w0):
  Spec Tryz.prog 154 #[v0,.func (.func g) #[] cap.toArray] w0 (fun v w=>∃M',Lt M' w∧J (b5 d.2) M' w∧Step M w0 M' w (jy M B)):=by
 refine aX (args:=[_,_]) (fn:=Tryz.f154) Tryz.func154 rfl (n:=33) Tryz.ntmps154 ?_;have S:Step M w0 M w0 (jy M B):=(an _ _).cb (fun _ h=>h.elim) (fun _ h=>h.2);refine aj (ah ?_);refine kd (A:=RT.dc) rfl rfl hM hv rfl (fun u0 w1 cz s0 _=>?_);replace hJ:=hT.step _ _ _ _ _ hJ s0;replace hM:=s0.lt hM;have:=S.size;replace S:=S.ay s0;refine ad (aj (ah ?_));refine aH (M:=M) (A:=RT.dc) (B:=(RT.fd).sl) aM rfl rfl pY (by decide) (CP) rfl rfl (by decide) (by assumption) (by repeat (first|exact aq _ _|refine aT (aY (by assumption)) ?_)) (fun uc jt=>?_);refine cf (M:=M) aU rfl rfl rfl rfl rfl (by assumption) (by repeat (first|exact aq _ _|refine aT (aY (by assumption)) ?_)) (fun ud kr=>?_);refine bT aU rfl kr rfl (ae rfl rfl (ad (bj ?_)));refine dF (σ:=Nat) (fun i=>[(1,.func (.func g) #[] cap.toArray),(9,ud),(10,.int .i64 (d.2.length:Int)),(11,.int .i64 (i:Int))]) (fun i w=>∃M',Lt M' w∧Step M w0 M' w (jy M B)∧(RT.fd.sl).V M' w d.2 ud∧J (b5 (d.2.take i)) M' w∧i≤d.2.length∧(b5 (d.2.take i)).length≤900001*i) (fun i=>d.2.length-i) 0 (.cons rfl (.cons rfl (.cons rfl (.cons rfl .nil)))) ?_ ?_
 ·exact⟨_,hM,S,kr,hJ,bH _,bh _⟩
 ·rintro i w ⟨M1,hM,S,kU,hJ,hi,Jc⟩;refine aj (ah (cd rfl rfl rfl (ad (aj ?_))));refine bI rfl (fun c2=>?_) (fun c2=>?_)
  ·refine aV (aj (bj (aj (ah ?_))));refine dq (M:=M1) aU hU rfl rfl rfl kU (aq _ _) (by omega) (fun u3 x LD Sd=>?_);rw[az]at LD;have uJ:=hl _ (aL LD);refine cC (M:=M1) (A:=RT.fd) bS rfl hU (by decide) rfl rfl rfl Sd (aq _ _) (fun v3 ug=>?_);refine oc (A:=RT.fd) (M:=M1) hU rfl rfl rfl rfl rfl (by assumption) (aq _ _) hM (fun HY acx ta HZ acy=>?_);replace kU:=kU.le HZ.le;replace hJ:=hT.step _ _ _ _ _ hJ HZ;replace hM:=HZ.lt hM;have:=S.size;replace S:=S.ay HZ;refine ad (aj (ah ?_));refine aH (M:=M1) (A:=RT.fd) (B:=RT.str) bS rfl rfl I9 (by decide) (R7) rfl rfl (by decide) (by assumption) (by repeat (first|exact aq _ _|refine aT (aY (by assumption)) ?_)) (fun La BU=>?_);refine cf (M:=M1) aD rfl rfl rfl rfl rfl BU (aq _ _) (fun v4 p9=>?_);obtain rfl:=fy p9;refine aP rfl rfl OH (sC (l:=x.2) _ hM uJ.2) (fun v5 w5 hc=>?_);obtain⟨PN,s5⟩:=hc;replace kU:=kU.le s5.le;replace ta:=ta.le (by decide) s5.le;replace hJ:=hT.step _ _ _ _ _ hJ s5;replace hM:=s5.lt hM;have:=S.size;replace S:=S.ay s5;have Y3:=nz x.2;refine bT a8 rfl PN rfl (ae rfl rfl (ad (bj ?_)));refine dF (σ:=Nat) (fun k=>[(1,.func (.func g) #[] cap.toArray),(5,HY),(9,ud),(10,.int .i64 (d.2.length:Int)),(11,.int .i64 (i:Int)),(17,v5),(18,.int .i64 ((words x.2).length:Int)),(19,.int .i64 (k:Int))]) (fun k w=>∃M',Lt M' w∧Step M w0 M' w (jy M B)∧(RT.fd.sl).V M' w d.2 ud∧ch RT.fd M' w HY x∧(RT.str.sl).V M' w (words x.2) v5∧J (b5 (d.2.take i)++(fW x).take k) M' w∧k≤(words x.2).length) (fun k=>(words x.2).length-k) 0 (.cons rfl (.cons rfl (.cons rfl (.cons rfl (.cons rfl (.cons rfl (.cons rfl (.cons rfl .nil)))))))) ?_ ?_
   ·exact⟨_,hM,S,kU,ta,PN,by rw[List.take_zero,rz];exact hJ,bH _⟩
   ·rintro k w ⟨M2,hM,S,kU,ta,PN,hJ,hk⟩;refine aj (ah (cd rfl rfl rfl (ad (aj ?_))));refine bI rfl (fun c5=>?_) (fun c5=>?_)
    ·refine aV (aj (bj (aj (ah (ae rfl rfl ?_)))));refine dq (M:=M2) a8 I9 rfl rfl rfl PN (aq _ _) (by omega) (fun u6 y DB K2=>?_);rw[az]at DB;refine cf (M:=M2) aD rfl rfl rfl rfl rfl K2 (aq _ _) (fun v6 nR=>?_);have Nt:=(jM.1 nR).2;obtain rfl:=fy nR;refine ai rfl rfl (ai rfl rfl (ad (ah (ae rfl rfl ?_))));refine aH (M:=M2) (A:=RT.fd) (B:=RT.str) bS rfl rfl I9 (by decide) (K8) rfl rfl (by decide) (by assumption) (by repeat (first|exact aq _ _|refine aT (aY (by assumption)) ?_)) (fun acz PO=>?_);refine cf (M:=M2) aD rfl rfl rfl rfl rfl PO (aq _ _) (fun v7 AE=>?_);obtain rfl:=fy AE;refine ae rfl rfl (dZ (places:=[(0,1),(1,1)]) b9 qE YU rfl ⟨_,_,rfl,rfl,_,_,rfl,rfl,rfl⟩ (out:=[_,_]) ⟨0,[_],rfl,rfl,by simp[Value.cells],1,[_],rfl,rfl,by simp[Value.cells],rfl⟩ (ae rfl rfl ?_));refine Rg.nK (first:=[]) (captured:=cap) (xs:=[.tmp 28,.tmp 29]) rfl rfl rfl hT.enters (hT.tell _ _ _ (x.1,y) k hJ hM uJ.1 Nt (by omega) (by rw[bJ,bU,lg];omega)) (fun r7 w7 hc=>?_);obtain⟨M7,hM7,hJ7,s7⟩:=hc;refine ad (ah (bB rfl rfl rfl (by omega) (ae rfl rfl (ad ?_))));refine⟨rfl,k+1,(.cons rfl (.cons rfl (.cons rfl (.cons rfl (.cons rfl (.cons rfl (.cons rfl (.cons rfl .nil)))))))),?_,?_⟩
     ·exact⟨M7,hM7,S.trans s7 (fun b hb h=>⟨h.1,(S.mem b hb).1 h.2⟩),kU.le s7.le,ta.le (by decide) s7.le,PN.le s7.le,by rw[cg,Fk DB,cZ,←List.append_assoc];exact hJ7,by omega⟩
     ·omega
    ·refine cN (ah (bB rfl rfl rfl (by omega) (ae rfl rfl (ad ?_))));refine⟨rfl,i+1,(.cons rfl (.cons rfl (.cons rfl (.cons rfl .nil)))),?_,?_⟩
     ·exact⟨_,hM,S,kU,by rw[oD LD];have e:(fW x).take k=fW x:=bp (by rw[lg];omega);rw[e]at hJ;exact hJ,by omega,by rw[oD LD,bJ,lg];omega⟩
     ·omega
  ·refine cN ?_
   first|refine fC.nil ?_|simp+decide only[rB,kB,if_true,if_false]|skip
   have e:d.2.take i=d.2:=bp (by omega);rw[e]at hJ;exact gI rfl ⟨_,hM,hJ,S⟩
theorem xb {M:aA} {w:World} {t:Fd} (h1:t.1.length≤140737488355328) (h2:t.2.length≤140737488355328):RT.fd.V M w t (kv t):=dY (jM.2 ⟨rfl,h1⟩) (jM.2 ⟨rfl,h2⟩) rfl rfl rfl rfl
def WJ (b B:Nat) (ts:List (Fd×Nat)) (M:aA) (w:World):Prop:=w.heap[b]? =some (.cells #[.int .i64 (ts.length:Int)] 3 (0,0))∧M b∧B≤b
theorem xc {M:aA} {b B:Nat} {ts:List (Fd×Nat)} {t:Fd} {i:Nat} (w0:World) (hM:Lt M w0) (h1:t.1.length≤900000) (h2:t.2.length≤140737488355328) (D3:ts.length≤10000000) (hJ:WJ b B ts M w0):
  Spec Tryz.prog 161 #[kv t,.int .i64 (i:Int),.pointer (some ⟨b,0,none⟩)] w0 (fun v w=>∃M',Lt M' w∧WJ b B (ts++[(t,i)]) M' w∧Step M w0 M' w (jy M B)):=by
 obtain⟨gb,dz,hB⟩:=hJ;refine aX (args:=[_,_,_]) (fn:=Tryz.f161) Tryz.func161 rfl (n:=7) Tryz.ntmps161 ?_;have S:Step M w0 M w0 (jy M B):=(an _ _).cb (fun _ h=>h.elim) (fun _ h=>h.2);refine aj (ah ?_);refine kd (A:=RT.fd) rfl rfl hM (xb (by omega) h2) rfl (fun u0 w1 cz s0 _=>?_);have:=ak gb;replace dz:=(s0.mem _ this).2 dz;replace gb:=s0.aI gb;replace hM:=s0.lt hM;have:=S.size;replace S:=S.ay s0;refine ad (ah (aE ar rfl rfl rfl (by assumption) rfl (bB rfl rfl rfl (by omega) ?_)));refine bQ (M:=M) I3 rfl rfl gb rfl (rfl) dz (fun H0 fF mq=>?_);change H0.heap[_]? =some (Obj.cells #[.int .i64 ((ts.length:Int)+1)] _ _)at fF;have:=ak gb;replace dz:=(mq.mem _ this).2 dz;replace hM:=mq.lt hM;have:=S.size;replace S:=S.trans mq (fun k hk h=>by have h:_=_:=h;subst h;first|(exfalso;omega)|(show _≤_;omega)|exact⟨by first|omega|assumption,(S.mem _ hk).1 ((mq.mem _ (ak gb)).1 dz)⟩|exact .inl rfl|exact .inr rfl|exact .inr (.inl rfl)|exact .inr (.inr rfl)|exact rfl);have Fl:=fF;clear gb;have gb:=Fl;clear Fl;refine ad ?_
 first|refine fC.nil ?_|simp+decide only[rB,kB,if_true,if_false]|skip
 exact gI rfl ⟨_,hM,⟨by rw[bJ];exact gb,dz,hB⟩,S⟩
theorem yP {b B:Nat}:LC Tryz.prog 161 [.pointer (some ⟨b,0,none⟩)] B (WJ b B):=
 ⟨TL,fun ts M w M' w' ⟨h1,h2,h3⟩ s=>⟨s.aI h1,(s.mem _ (ak h1)).2 h2,h3⟩,fun ts M w t i hJ hM h1 h2 _ h4=>xc w hM h1 h2 h4 hJ⟩
theorem yQ {M:aA} {d:Dc} {v0:Value} (w0:World) (hM:Lt M w0) (hv:RT.dc.V M w0 d v0) (hl:∀f∈d.2,f.1.length≤900000∧f.2.length≤900000) (Sa:d.2.length≤8):
  Spec Tryz.prog 110 #[v0] w0 (fun v w=>v= .int .i64 ((b5 d.2).length:Int)∧Step M w0 M w aC):=by
 refine aX (args:=[_]) (fn:=Tryz.f110) Tryz.func110 rfl (n:=8) Tryz.ntmps110 ?_;have S:Step M w0 M w0 aC:=(an _ _).cb (fun _ h=>h.elim) (fun _ h=>h.elim);refine aj (ah ?_);refine kd (A:=RT.dc) rfl rfl hM hv rfl (fun u0 w1 cz s0 _=>?_);replace hM:=s0.lt hM;have:=S.size;replace S:=S.ay s0;refine ai rfl rfl (ad (aj (ah ?_)));refine eX M I3 rfl (fun mi CN O9 Pb jn nG=>?_);obtain⟨mW,mX⟩:∃M',M'=ins M mi:=⟨_,rfl⟩;rw[←mX]at nG;have gL:mW mi:=by rw[mX];exact .inl rfl
 change CN.heap[mi]? =some (.cells #[.int .i64 0] _ _)at jn;replace cz:=cz.le (by decide) nG.le;replace hM:=nG.lt hM;have:=S.size;replace S:=S.ay nG;refine bQ (M:=mW) I3 rfl rfl jn rfl (rfl) gL (fun H2 uh oE=>?_);change H2.heap[_]? =some (Obj.cells #[.int .i64 0] _ _)at uh;have:=ak jn;replace gL:=(oE.mem _ this).2 gL;replace cz:=cz.le (by decide) oE.le;replace hM:=oE.lt hM;have:=S.size;replace S:=S.trans oE (fun k hk h=>by have h:_=_:=h;subst h;first|(exfalso;omega)|(show _≤_;omega)|exact⟨by first|omega|assumption,(S.mem _ hk).1 ((oE.mem _ (ak jn)).1 gL)⟩|exact .inl rfl|exact .inr rfl|exact .inr (.inl rfl)|exact .inr (.inr rfl)|exact rfl);have JA:=uh;clear jn;have jn:=JA;clear JA;refine ad (aj (ah ?_));refine cC (M:=mW) (A:=RT.dc) aM rfl kG (by decide) rfl rfl rfl cz (aq _ _) (fun v2 ny=>?_);refine ia (xs:=[]) (ys:=[.tmp 3]) rfl rfl rfl ?_;refine aP rfl rfl OG (vh (cap:=[.pointer (some ⟨mi,0,none⟩)]) (B:=w0.heap.size) _ hM ny hl Sa yP ⟨jn,gL,by omega⟩) (fun r2 w2 hc=>?_);obtain⟨M2,Jl,⟨g2,_,_⟩,s2⟩:=hc;replace S:=S.jP s2 (bh _);refine ad (aj (ah (aE ar rfl rfl rfl g2 rfl (ai rfl rfl (ad (aJ ?_))))));exact aO rfl rfl ⟨rfl,S.back⟩
end Go.K
namespace Go.K
section
variable {P:Program} {r:Option Nat} {n:Nat} {L:Sl} {ds:List Deferred} {w:World} {K:Kt} {ops:Array Oper} {rest:List Oper} {d:Nat} {x y z:Operand} {ty:TypeId} {pos:String} {af:Array Edge}
variable {kt:TypeId} {M:aA} {b mb clock:Nat} {es:List MapEntry} {sn:Array Nat}
theorem Rg.rangeMap {t e:TypeId} (M:aA) (ht:P.underlying t=some (.map kt e)) (hx:ev L x=some (.map (some mb))) (hd:Nat.blt d n=true) (h:ew P kt w mb es clock)
  (k:∀b w',w.heap.size≤b→b<w'.heap.size→w'.heap[b]? =some (.mapIter (some mb) clock #[] clock)→Step M w (ins M b) w' aC→Rg P r n ops rest ((d,.pointer (some ⟨b,0,none⟩))::L) ds w' K):
  Rg P r n ops ({dst:=some d,op:= .range t x,type:=ty,pos,after:=af,guard:=none}::rest) L ds w K:=by
 refine .op (fun _ h=>by cases h) rfl rfl hd (.pointer (some ⟨w.heap.size,0,none⟩)) (w.alloc (.mapIter (some mb) clock #[] clock)) (fun ρ hρ=>?_) (k w.heap.size _ (bh _) (by simp) (cq w _) ((cU M w _).own (bh _) (by simp)));simp only[execOp,hρ x _ hx];simp[Instr.range,cQ,run_underlying ht,cY h.at_,newObj,Sem.run]
theorem ma {sb:Option Nat} {s c:Nat} (hb:w.heap[b]? =some (.mapIter sb s sn c)):(getObj b).run P w= .ok (.mapIter sb s sn c) w:=by simp[getObj,Sem.run,hb]
theorem AF (h:ew P kt w mb es clock) (seen:Array Nat):(!seen.isEmpty&& !es.toArray.isEmpty&&es.toArray.all (fun x=>decide (x.born≥clock)))=false:=by
 cases es with
 |nil=>simp
 |cons e l=>
  have:=h.lt e (by simp);simp only[Bool.and_eq_false_iff];right;rw[ez];intro h2;rw[Array.all_eq_true_iff_forall_mem]at h2;have:=h2 e (by simp);simp at this;omega
theorem yR (k:Nat) (hk:0<k):∃j w1,j<k∧(∀M,Step M w M w1 aC)∧w1.heap=w.heap∧(choose (Question.mapNext k)).run P w= .ok j w1:=by
 by_cases hf:k≤1
 ·exact⟨0,w,hk,fun M=>an M w,rfl,by simp[choose,Sem.run,Question.forced,hf]⟩
 ·exact⟨_,w.drew,Nat.mod_lt _ hk,fun M=>kT M w,rfl,by
   simp only[choose,Sem.run,Question.forced,decide_eq_true_eq,hf,if_false,Question.cut];rfl⟩
theorem Fm (h:ew P kt w mb es clock) (hb:w.heap[b]? =some (.mapIter (some mb) clock sn clock)) (hm:M b):
  ((∀e∈es,e.born∈sn)∧(Instr.next (.pointer (some ⟨b,0,none⟩)) false ty).run P w= .ok (.tuple #[.bool false]) w)∨
  ∃e w',e∈es∧e.born∉sn∧w'.heap[b]? =some (.mapIter (some mb) clock (sn.push e.born) clock)∧Step M w M w' (fun k=>k=b)∧(Instr.next (.pointer (some ⟨b,0,none⟩)) false ty).run P w= .ok (.tuple #[.bool true,e.key,e.val]) w':=by
 have dB:=ak hb;simp only[Instr.next,cQ,ma hb,dr,cY h.at_,AF h sn,Bool.false_eq_true,if_false];have hL:∀e∈es.toArray.filter (fun e=> !sn.contains e.born),e.born<clock:=fun e he=>h.lt e (by simpa using(Array.mem_filter.1 he).1)
 have lr:∀e,e∈es.toArray.filter (fun e=> !sn.contains e.born)↔e∈es∧e.born∉sn:=fun e=>by simp[Array.mem_filter]
 generalize es.toArray.filter (fun e=> !sn.contains e.born)=Lf at hL lr ⊢;have e1:Lf.filter (fun x=>decide (x.born<clock))=Lf:=Array.filter_eq_self.2 fun x hx=>by simpa using hL x hx
 have e2:Lf.filter (fun x=>decide (x.born≥clock))= #[]:=by
  rw[Array.filter_eq_empty_iff];intro x hx;have:=hL x hx;simp;omega
 simp only[e1,e2,Array.append_empty];by_cases h0:Lf.size=0
 ·left;have rR:Lf= #[]:=Array.eq_empty_of_size_eq_zero h0;subst rR;refine⟨fun e he=>?_,by simp[choose,Sem.run,Question.forced]⟩;by_cases hs:e.born∈sn
  ·exact hs
  ·exact absurd ((lr e).2 ⟨he,hs⟩) (by simp)
 ·right;have eG:Lf.isEmpty=false:=by simp[Array.isEmpty,h0]
  simp only[eG,Bool.false_eq_true,if_false,Array.empty_append,Array.size_map];obtain⟨j,w1,hj,Kn,Zh,fS⟩:=yR (P:=P) (w:=w) Lf.size (by omega);have o0:w1.heap[b]? =some (.mapIter (some mb) clock sn clock):=by rw[Zh];exact hb
  have ef:=(lr Lf[j]).1 (by simp);refine⟨Lf[j],{w1 with heap:=w1.heap.setIfInBounds b (.mapIter (some mb) clock (sn.push Lf[j].born) clock)},ef.1,ef.2,by simp[cJ,Zh,dB],?_,?_⟩
  ·exact((Kn M).cb (fun _ h=>h.elim) (fun k hk=>by subst hk;exact hm)).trans (gr M hm) (fun _ _ h=>h)
  ·simp only[fS,dr,Array.getElem?_map,Array.getElem?_eq_getElem hj,fu,cQ];simp[setObj,Sem.run,o0]
theorem Rg.H3 (hx:ev L x=some (.pointer (some ⟨b,0,none⟩))) (hb:w.heap[b]? =some (.mapIter (some mb) clock sn clock)) (hm:M b) (h:ew P kt w mb es clock) (hd:Nat.blt d n=true)
  (k1:∀e w',e∈es→e.born∉sn→w'.heap[b]? =some (.mapIter (some mb) clock (sn.push e.born) clock)→Step M w M w' (fun k=>k=b)→Rg P r n ops rest ((d,.tuple #[.bool true,e.key,e.val])::L) ds w' K)
  (k2:(∀e∈es,e.born∈sn)→Rg P r n ops rest ((d,.tuple #[.bool false])::L) ds w K):
  Rg P r n ops ({dst:=some d,op:= .next x false,type:=ty,pos,after:=af,guard:=none}::rest) L ds w K:=by
 rcases Fm (ty:=ty) h hb hm with⟨h1,h2⟩|⟨e,w',h1,h2,h3,h4,h5⟩
 ·refine .op (fun _ h=>by cases h) rfl rfl hd _ w (fun ρ hρ=>?_) (k2 h1);simp only[execOp,hρ x _ hx];simp[h2]
 ·refine .op (fun _ h=>by cases h) rfl rfl hd _ w' (fun ρ hρ=>?_) (k1 e w' h1 h2 h3 h4);simp only[execOp,hρ x _ hx];simp[h5]
theorem Rg.entry {e:MapEntry} {sn':Array Nat} (hx:ev L x=some (.pointer (some ⟨b,0,none⟩))) (hb:w.heap[b]? =some (.mapIter (some mb) clock (sn'.push e.born) clock)) (h:ew P kt w mb es clock) (he:e∈es) (hd:Nat.blt d n=true)
  (k:Rg P r n ops rest ((d,.tuple #[e.key,e.val])::L) ds w K):
  Rg P r n ops ({dst:=some d,op:= .entry x,type:=ty,pos,after:=af,guard:=none}::rest) L ds w K:=by
 have hf:es.find? (fun x=>x.born==e.born)=some e:=by
  rw[List.find?_eq_some_iff_getElem];obtain⟨i,hi⟩:=bO.1 he;obtain⟨h1,h2⟩:=av.1 hi;refine⟨by simp,i,h1,h2,fun j hj=>?_⟩;have pF:j<es.length:=by omega
  have:=fun q=>h.yN (aN pF) hi q
  simp only[od,beq_eq_false_iff_ne,ne_eq];intro q;have:=this q;omega
 refine .op (fun _ h=>by cases h) rfl rfl hd _ w (fun ρ hρ=>?_) k;simp only[execOp,hρ x _ hx,Instr.entry,cQ,ma hb,dr,cY h.at_];simp[hf,cQ,cY h.at_]
end
end Go.K
namespace Go.K
open Go.Proofs
set_option maxRecDepth 10000
theorem filter_lt {α:Type} {p q:α→Bool} {a:α}:∀{l:List α},(∀x∈l,q x=true→p x=true)→a∈l→p a=true→q a=false→(l.filter q).length<(l.filter p).length
 |[],_,ha,_,_=>by cases ha
 |x::l,h,ha,hp,hq=>by
  have hle:(l.filter q).length≤(l.filter p).length:=by
   rw[←List.countP_eq_length_filter,←List.countP_eq_length_filter];exact List.countP_mono_left fun y hy=>h y (cp _ hy)
  rcases dw.1 ha with rfl|ha
  ·rw[List.filter_cons_of_pos hp,List.filter_cons_of_neg (by simp[hq])];simp;omega
  ·have:=filter_lt (fun y hy=>h y (cp _ hy)) ha hp hq;by_cases hx:q x=true
   ·rw[List.filter_cons_of_pos hx,List.filter_cons_of_pos (h x (bY ..) hx)];simp;omega
   ·rw[List.filter_cons_of_neg hx];by_cases Sf:p x=true
    ·rw[List.filter_cons_of_pos Sf];simp;omega
    ·rw[List.filter_cons_of_neg Sf];omega
theorem ew.LF {P:Program} {kt:TypeId} {w:World} {b clock:Nat} {es:List MapEntry} (h:ew P kt w b es clock) {x y:MapEntry} (hx:x∈es) (hy:y∈es) (hk:x.key=y.key):x=y:=by
 obtain⟨i,hi⟩:=bO.1 hx;obtain⟨j,hj⟩:=bO.1 hy;rcases gV i j with gm|rfl|gm
 ·exact absurd hk (fH h.keys hi hj gm)
 ·exact bM (hi.symm.trans hj)
 ·exact absurd hk.symm (fH h.keys hj hi gm)
theorem ew.H4 {P:Program} {kt:TypeId} {w:World} {b clock:Nat} {es:List MapEntry} (h:ew P kt w b es clock) {x y:MapEntry} (hx:x∈es) (hy:y∈es) (hk:x.born=y.born):x=y:=by
 obtain⟨i,hi⟩:=bO.1 hx;obtain⟨j,hj⟩:=bO.1 hy;rcases gV i j with gm|rfl|gm
 ·exact absurd hk (fH h.born hi hj gm)
 ·exact bM (hi.symm.trans hj)
 ·exact absurd hk.symm (fH h.born hj hi gm)
def AG (w:World) (k:Nat):Prop:=∃m s sn c,w.heap[k]? =some (.mapIter m s sn c)
def BY (es:List MapEntry):Prop:=∀e∈es,∃t:Fd,e.key=kv t∧t.1.length≤140737488355328∧t.2.length≤140737488355328
theorem AH {yl bs mb clock:Nat} {es:List MapEntry} {J:List Fd→World→Prop} (w0:World) (hk:BY es) (Vf:∀ts w w' N,J ts w→Step allM w allM w' N→(∀k,k<w.heap.size→N k→w0.heap.size≤k∧AG w k)→J ts w') (Sg:∀ts w,J ts w→w.heap[bs]? =some (.cells #[.map (some mb)] 227 (0,0))∧ew Tryz.prog 47 w mb es clock) (hy:∀ts w (t:Fd),J ts w→(∃e∈es,e.key=kv t)→t∉ts→ts.length<es.length→qA Tryz.prog yl [kv t].toArray w (fun r w'=>r= .bool true∧J (ts++[t]) w'∧∃N,Step allM w allM w' N∧∀k,N k→¬AG w k)) (h0:J [] w0):
  Spec Tryz.prog 197 #[.func (.yield yl) #[] #[],.pointer (some ⟨bs,0,none⟩)] w0 (fun v w=>∃ts,J ts w∧ts.Nodup∧∀t,t∈ts↔∃e∈es,e.key=kv t):=by
 obtain⟨gb,hW⟩:=Sg _ _ h0;have hJ:=h0;clear h0;refine aX (args:=[_,_]) (fn:=Tryz.f197) Tryz.func197 rfl (n:=14) Tryz.ntmps197 ?_;have S:Step allM w0 allM w0 allM:=(an _ _).cb (fun _ h=>h.elim) (fun _ _=>trivial);refine aj (ah (aE jK rfl rfl rfl (by assumption) rfl ?_));refine Rg.rangeMap allM jK rfl rfl hW (fun bi w1 o0 xE gi s1=>?_);replace s1:=s1.all;have:=ak gb;replace gb:=s1.aI gb;replace hJ:=Vf _ _ _ _ hJ s1 (fun _ _ h=>h.elim);have:=S.size;replace S:=S.ay s1;refine ad (bj ?_);refine dF (σ:=List Fd×Array Nat) (fun s=>[(0,.func (.yield yl) #[] #[]),(1,.pointer (some ⟨bs,0,none⟩)),(5,.pointer (some ⟨bi,0,none⟩))]) (fun s w=>J s.1 w∧Step allM w0 allM w allM∧w.heap[bi]? =some (.mapIter (some mb) clock s.2 clock)∧s.1.Nodup∧(∀e∈es,e.born∈s.2↔∃t∈s.1,e.key=kv t)∧(∀t∈s.1,∃e∈es,e.key=kv t)) (fun s=>(es.filter fun e=>decide (e.born∉s.2)).length) ([],#[]) (.cons rfl (.cons rfl (.cons rfl .nil))) ?_ ?_
 ·exact⟨hJ,S,gi,List.nodup_nil,fun e _=>by simp,fun t h=>by cases h⟩
 ·rintro⟨ts,sn⟩ w ⟨hJ,S,gi,mD,Sh,lr⟩;dsimp only at hJ gi mD Sh lr ⊢;obtain⟨gb,hW⟩:=Sg _ _ hJ;refine aj (ah ?_);refine Rg.H3 (M:=allM) rfl gi trivial hW rfl (fun LG CN o9 JB jn nG=>?_) (fun Vg=>?_)
  ·have gi0:=gi;replace gb:=nG.bF gb (fun hk=>by have hk:_=_:=hk;omega);replace hJ:=Vf _ _ _ _ hJ nG (fun k hk h=>by have h:k=bi:=h;subst h;exact⟨o0,_,_,_,_,gi0⟩);have:=S.size;replace S:=S.trans nG (fun k hk h=>by have h:_=_:=h;subst h;first|(exfalso;omega)|(show _≤_;omega)|exact .inl rfl|exact .inr rfl|exact .inr (.inl rfl)|exact .inr (.inr rfl)|exact rfl);have Zi:=jn;clear gi;have gi:=Zi;clear Zi;refine bP rfl rfl rfl (ad (aj (ly rfl (aV (bj (aj (ah (Rg.entry rfl gi (Sg _ _ hJ).2 o9 rfl ?_))))))));obtain⟨t,H5,Si,HP⟩:=hk _ o9;have Ku:t∉ts:=fun h=>JB ((Sh _ o9).2 ⟨t,h,H5⟩)
   have dB:ts.length<es.length:=by
    have h1:((t::ts).map kv).Nodup:=dp.2 ((rA.2 ⟨Ku,mD⟩).imp fun h e=>h (qc e))
    have h2:=h1.length_le_of_subset (l₂:=es.map (·.key)) (fun x hx=>by
     obtain⟨u,hu,rfl⟩:=cF.1 hx;rcases dw.1 hu with rfl|hu
     ·rw[←H5];exact fh o9
     ·obtain⟨e,he,h⟩:=lr u hu;rw[←h];exact fh he)
    simp at h2;omega
   rw[H5];refine bP rfl rfl rfl ?_;refine oc (A:=RT.fd) (M:=aC) qE rfl rfl rfl rfl rfl (xb Si HP) (aq _ _) (Lt.none _) (fun u2 w2 qY s2 z2=>?_);replace s2:=s2.all;have:=ak gb;replace gb:=s2.aI gb;have:=ak gi;replace gi:=s2.aI gi;replace hJ:=Vf _ _ _ _ hJ s2 (fun _ _ h=>h.elim);have:=S.size;replace S:=S.ay s2
   skip
   refine ad (aj (ah (ae rfl rfl ?_)));refine cC (M:=aC) (A:=RT.fd) b9 rfl qE (by decide) rfl rfl rfl qY (aq _ _) (fun v3 ug=>?_);obtain rfl:=kI ug;refine Rg.yield (vs:=[kv t]) rfl rfl rfl (hy _ _ t hJ ⟨_,o9,H5⟩ Ku dB) (fun r3 w3 hc=>?_);obtain⟨rfl,Ha,N3,s3,hN3⟩:=hc;clear jn;replace gi:=s3.bF gi (fun h=>hN3 _ h ⟨_,_,_,_,gi⟩);replace hJ:=Ha;clear Ha;obtain⟨gb,-⟩:=Sg _ _ hJ;replace S:=S.trans s3 (fun _ _ _=>trivial);refine Rg.not rfl rfl (bz (v':= .bool false) rfl (ad (hY rfl (aV ?_))));refine⟨rfl,(ts++[t],sn.push LG.born),(.cons rfl (.cons rfl (.cons rfl .nil))),?_,?_⟩
   ·have pL:∀e∈es,e.born=LG.born↔e.key=kv t:=fun e he=>by
     constructor
     ·intro h;rw[ew.H4 hW he o9 h,H5]
     ·intro h;rw[ew.LF hW he o9 (h.trans H5.symm)]
    refine⟨hJ,S,gi,List.nodup_append.2 ⟨mD,by simp,fun a ha b hb h=>by simp at hb;subst hb;subst h;exact Ku ha⟩,fun e he=>?_,fun u hu=>?_⟩
    ·rw[Array.mem_push,Sh e he,pL e he];constructor
     ·rintro(⟨u,h1,h2⟩|h)
      ·exact⟨u,kA _ h1,h2⟩
      ·exact⟨t,by simp,h⟩
     ·rintro⟨u,h1,h2⟩;rcases dm.1 h1 with h1|h1
      ·exact .inl ⟨u,h1,h2⟩
      ·simp at h1;subst h1;exact .inr h2
    ·rcases dm.1 hu with hu|hu
     ·exact lr u hu
     ·simp at hu;subst hu;exact⟨_,o9,H5⟩
   ·exact filter_lt (a:=LG) (fun e _ h=>by simp only[decide_eq_true_eq,Array.mem_push,not_or]at h ⊢;exact h.1) o9 (by simpa using JB) (by simp)
  ·refine bP rfl rfl rfl (ad (aj (hY rfl (cN ?_))))
   first|refine fC.nil ?_|simp+decide only[rB,kB,if_true,if_false]|skip
   exact gI rfl ⟨ts,hJ,mD,fun t=>⟨lr t,fun⟨e,he,H5⟩=>by obtain⟨t',h1,h2⟩:=(Sh e he).1 (Vg e he);rw[←qc (h2.symm.trans H5)];exact h1⟩⟩
end Go.K
namespace Go.K
open Go.Proofs
set_option maxRecDepth 10000
theorem eo.any {α:Type} {A:RT α} (hA:∀M w M' w' x vs,A.R M w x vs→A.R M' w' x vs) {M M':aA} {w w':World}:∀{xs:List α} {C:List Value},eo A M w xs C→eo A M' w' xs C
 |[],_,h=>h
 |x::xs,C,h=>by
  obtain⟨vs,r,h1,h2,h3⟩:=h;exact⟨vs,r,h1,hA _ _ _ _ _ _ h2,eo.any hA h3⟩
theorem xd (M:aA) (w:World) (M':aA) (w':World) (x:Fd) (vs:List Value) (h:RT.fd.R M w x vs):RT.fd.R M' w' x vs:=h
theorem Own.BZ {α:Type} {A:RT α} (hA:∀M w M' w' x vs,A.R M w x vs→A.R M' w' x vs) {e:TypeId} {M N:aA} {w w':World} {base:Nat} {v:Value} {xs:List α} (h:Own A e M w base v xs) (s:Step allM w allM w' N) (hn:∀b,v.ownBlock=some b→¬N b):Own A e (nE v) w' base v xs:=by
 obtain⟨⟨C,h1,h2⟩,_⟩:=h;refine⟨⟨C,⟨h1.1,?_⟩,eo.any hA h2⟩,fun _ h=>h⟩;rcases h1.2 with h3|⟨g,cap,cur,h3,h4,h5,h6,h7,h8⟩
 ·exact .inl h3
 ·exact .inr ⟨g,cap,cur,h3,h4,by rw[s.same g (ak h5) (hn g (by rw[h3];rfl))];exact h5,h6,h7,h8⟩
theorem Own.isCells {α:Type} {A:RT α} {e:TypeId} {M:aA} {w:World} {base b:Nat} {v:Value} {xs:List α} (h:Own A e M w base v xs) (hb:v.ownBlock=some b):∃cs,w.heap[b]? =some (.cells cs e (0,0)):=by
 obtain⟨⟨C,h1,_⟩,_⟩:=h;rcases h1.2 with h3|⟨g,cap,cur,h3,h4,h5,_⟩
 ·rw[h3.1]at hb;cases hb
 ·rw[h3]at hb;cases hb;exact⟨_,h5⟩
structure Aq (w0:World) (bt D:Nat) (st:Loop) (v:Value) (ts:List Fd) (w:World):Prop where
 S:Step allM w0 allM w aC
 c:w.heap[bt]? =some (.cells #[v] 98 (0,0))
 o:Own RT.fd 47 (nE v) w w0.heap.size v ts
 d:w.heap[D]? =some (.deferred (some []))
 r:w.heap[D+1]? =some (.loop st)
 hb:w0.heap.size≤bt
 hD:w0.heap.size≤D
theorem Aq.step {w0 w w':World} {bt D:Nat} {st:Loop} {v:Value} {ts:List Fd} {N:aA} (h:Aq w0 bt D st v ts w) (s:Step allM w allM w' N) (hN:∀k,k<w.heap.size→N k→w0.heap.size≤k∧AG w k):Aq w0 bt D st v ts w':=by
 have no:∀{k o},w.heap[k]? =some o→(∀m s sn c,o≠ .mapIter m s sn c)→¬N k:=fun hk ho hn=>by
  obtain⟨_,m,s,sn,c,h'⟩:=hN _ (ak hk) hn;rw[hk]at h';exact ho m s sn c (bM h')
 refine⟨h.S.trans s (fun k hk hn=>?_),s.bF h.c (no h.c (by intros;simp)),h.o.BZ xd s (fun b hb=>?_),s.bF h.d (no h.d (by intros;simp)),s.bF h.r (no h.r (by intros;simp)),h.hb,h.hD⟩
 ·have:=(hN k (mI hk h.S.size) hn).1;omega
 ·obtain⟨cs,hc⟩:=h.o.isCells hb;exact no hc (by intros;simp)
theorem Aq.mu {w0 w:World} {bt D:Nat} {st st':Loop} {v:Value} {ts:List Fd} (h:Aq w0 bt D st v ts w):Aq w0 bt D st' v ts (w.putObj (D+1) (.loop st')):=by
 have s:Step allM w allM (w.putObj (D+1) (.loop st')) (fun k=>k=D+1):=dG trivial;have hD:=h.hD;refine⟨h.S.trans s (fun k hk hn=>by have hn:k=D+1:=hn;omega),s.bF h.c (fun hn=>by have hn:bt=D+1:=hn;have h1:=h.c;rw[hn,h.r]at h1;cases h1),h.o.BZ xd s (fun b hb hn=>?_),s.bF h.d (fun hn=>by have hn:D=D+1:=hn;omega),by have:=ak h.r;simp[World.putObj,cJ,this],h.hb,h.hD⟩;have hn:b=D+1:=hn;obtain⟨cs,hc⟩:=h.o.isCells hb;rw[hn,h.r]at hc;cases hc
theorem yS {bs mb clock:Nat} {es:List MapEntry} (w0:World) (hk:BY es) (Sj:es.length≤100000000) (Fo:w0.heap[bs]? =some (.cells #[.map (some mb)] 227 (0,0))) (hW:ew Tryz.prog 47 w0 mb es clock):
  Spec Tryz.prog 233 #[.slice none 0 0,.func (.func 197) #[] [.pointer (some ⟨bs,0,none⟩)].toArray] w0 (fun v w=>∃ts:List Fd,ts.Nodup∧(∀t,t∈ts↔∃e∈es,e.key=kv t)∧Own RT.fd 47 (nE v) w w0.heap.size v ts∧Step allM w0 allM w aC):=by
 refine mN (args:=[_,_]) (fn:=Tryz.f233) Tryz.func233 rfl (n:=13) Tryz.ntmps233 (aj (ah ?_));refine oN allM rfl rfl (fun bt w1 o0 acF gt s1=>?_);change w1.heap[bt]? =some (.cells #[.slice none 0 0] 98 (0,0))at gt;replace s1:=s1.all;refine ai rfl rfl (ad (aj (aj (ah (ae rfl rfl (ad (bj ?_)))))));refine T.range (gf:=197) (lb:=[.pointer (some ⟨bs,0,none⟩)].toArray) rfl TV (fun rec mM=>?_);obtain⟨D,hD⟩:∃D,D=w1.heap.size:=⟨_,rfl⟩;have sA:Step allM w1 allM ((w1.alloc (.deferred (some []))).alloc (.loop (rec .ready none))) aC:=(cU _ _ _).ay (cU _ _ _)
 have h0:Aq w0 bt D (rec .ready none) (.slice none 0 0) [] ((w1.alloc (.deferred (some []))).alloc (.loop (rec .ready none))):=by
  refine⟨s1.ay sA,sA.aI gt,ec _ _ _ _ _,?_,?_,o0,by rw[hD];exact s1.size⟩
  ·rw[hD];exact(cU allM (w1.alloc _) _).aI (cq w1 _)
  ·rw[hD];have:=cq (w1.alloc (.deferred (some []))) (.loop (rec .ready none));rwa [World.size_alloc]at this
 rw[←hD]at mM ⊢;have hz:=h0.S.size;refine Spec.mono (AH (J:=fun ts w=>∃v,Aq w0 bt D (rec .ready none) v ts w) _ hk (fun ts w w' N ⟨v,h⟩ s hN=>⟨v,h.step s (fun k hk hn=>⟨fK hz (hN k hk hn).1,(hN k hk hn).2⟩)⟩) (fun ts w ⟨v,h⟩=>⟨h.S.aI Fo,hW.bg h.S⟩) (fun ts wr t hJ lr Ku dB=>?_) ⟨_,h0⟩) (fun _ w3 h3=>?_)
 ·obtain⟨v,h⟩:=hJ;obtain⟨e,he,Vh⟩:=lr;obtain⟨t',Vi,Si,HP⟩:=hk e he;obtain rfl:=qc (Vh.symm.trans Vi);have hzr:=ak h.r;refine kZ (ps:=[7]) (vs:=[kv t]) mM h.r rfl (by decide) (ah ?_);refine oc (A:=RT.fd) (M:=fun k=>k=D+1) qE rfl rfl rfl rfl rfl (xb Si HP) (aq _ _) (fun k hk=>by have hk:k=D+1:=hk;omega) (fun u2 w2 qY s2 z2=>?_);replace s2:=s2.all
  skip
  refine ad ?_;refine⟨rfl,s2.aI h.r,?_⟩;have h4:=(h.step s2 (fun _ _ h=>h.elim)).mu (st':=rec .busy none);have Vj:Step (fun k=>k=D+1) w2 (fun k=>k=D+1) (w2.putObj (D+1) (.loop (rec .busy none))) (fun k=>k=D+1):=dG rfl;have s3:=Vj.all;have xL:=qY.le (by decide) Vj.le;clear Vj;generalize w2.putObj (D+1) _=w4 at h4 s3 xL ⊢;refine bj (ah (aE iB rfl rfl rfl h4.c rfl ?_));refine cC (M:=fun k=>k=D+1) (A:=RT.fd) b9 rfl qE (by decide) rfl rfl rfl xL (aq _ _) (fun v3 ug=>?_);obtain rfl:=kI ug;refine eQ (A:=RT.fd) (hn:=by decide) (M:=nE v) iB qE (by decide) rfl rfl (fun b hb=>(h4.o.base b hb).2) (xb Si HP) (.inl rfl) (fun u5 w5 Am s5=>?_);refine cO (M:=nE v) (base:=w0.heap.size) iB qE rfl rfl rfl rfl (h4.o.bg s5) Am (aq _ _) (by simp;omega) (by simp;omega) (fK h4.S.size s5.size) (fun v6 M6 w6 qI s6=>?_);have gc:=s6.all.bF (s5.all.aI h4.c) (fun hn=>h4.o.eL h4.c (by decide) hn);refine bQ (M:=allM) I98 rfl rfl gc rfl (by obtain⟨_,_,he,_⟩:=qI.isSlice;rw[he];rfl) trivial (fun w7 gc7 s7=>?_);refine ad ?_
  have Vk:∀k,nE v k→¬AG wr k:=fun k hk ⟨_,_,_,_,h9⟩=>by
   obtain⟨cs,hc⟩:=h.o.isCells hk;rw[hc]at h9;cases h9
  have pr:∀k,k<wr.heap.size→k=D+1→¬AG wr k:=fun k _ hk ⟨_,_,_,_,h9⟩=>by subst hk;rw[h.r]at h9;cases h9
  have pc:∀k,k<wr.heap.size→k=bt→¬AG wr k:=fun k _ hk ⟨_,_,_,_,h9⟩=>by subst hk;rw[h.c]at h9;cases h9
  have h7:Aq w0 bt D (rec .busy none) v6 (ts++[t]) w7:=by
   have nb:∀b,v6.ownBlock=some b→b≠bt:=fun b hb hn=>by subst hn;exact qI.eL gc (by decide) hb
   refine⟨?_,gc7,qI.BZ xd s7 nb,?_,?_,h.hb,h.hD⟩
   ·refine((h4.S.ay s5.all).trans s6.all (fun k hk hn=>?_)).trans s7 (fun k hk hn=>?_)
    ·have:=(h4.o.base k hn).1;omega
    ·have hn:k=bt:=hn;have:=h.hb;omega
   ·exact s7.bF (s6.all.bF (s5.all.aI h4.d) (fun hn=>by obtain⟨cs,hc⟩:=h4.o.isCells hn;rw[h4.d]at hc;cases hc)) (fun hn=>by have hn:D=bt:=hn;have h1:=h.c;rw[←hn,h.d]at h1;cases h1)
   ·exact s7.bF (s6.all.bF (s5.all.aI h4.r) (fun hn=>by obtain⟨cs,hc⟩:=h4.o.isCells hn;rw[h4.r]at hc;cases hc)) (fun hn=>by have hn:D+1=bt:=hn;have h1:=h.c;rw[←hn,h.r]at h1;cases h1)
  have s8:Step allM w7 allM (w7.putObj (D+1) (.loop (rec .ready none))) (fun k=>k=D+1):=dG trivial;exact⟨h7.r,rfl,⟨v6,h7.mu⟩,fun k=>¬AG wr k,(((((s2.cb (fun _ h=>h.elim) (fun _ _=>trivial)).trans s3 pr).ay s5.all).trans s6.all (fun k _ hn=>Vk k hn)).trans s7 pc).trans s8 pr,fun _ h=>h⟩
 ·obtain⟨ts,⟨v,h⟩,mD,lr⟩:=h3;left;refine⟨h.r,?_⟩;have h5:=h.mu (st':=rec .exhausted none);generalize w3.putObj (D+1) _=wE at h5 ⊢;refine aj (ah (aE iB rfl rfl rfl h5.c rfl (ai rfl rfl (ad (aJ ?_)))));have sE:Step allM wE allM (wE.putObj D (.deferred none)) (fun k=>k=D):=dG trivial;have hDD:=h.hD;exact Aa rfl rfl h5.d ⟨ts,mD,lr,h5.o.BZ xd sE (fun b hb hn=>by have hn:b=D:=hn;obtain⟨cs,hc⟩:=h5.o.isCells hb;rw[hn,h5.d]at hc;cases hc),h5.S.trans sE (fun k hk hn=>by have hn:k=D:=hn;omega)⟩
end Go.K
namespace Go.K
open Go.Proofs
set_option maxRecDepth 10000
theorem xe {bs mb clock:Nat} {es:List MapEntry} (w0:World) (hk:BY es) (Sj:es.length≤100000000) (Fo:w0.heap[bs]? =some (.cells #[.map (some mb)] 227 (0,0))) (hW:ew Tryz.prog 47 w0 mb es clock):
  Spec Tryz.prog 195 #[.func (.func 197) #[] [.pointer (some ⟨bs,0,none⟩)].toArray] w0 (fun v w=>∃ts:List Fd,ts.Nodup∧(∀t,t∈ts↔∃e∈es,e.key=kv t)∧Own RT.fd 47 (nE v) w w0.heap.size v ts∧Step allM w0 allM w aC):=by
 refine aX (args:=[_]) (fn:=Tryz.f195) Tryz.func195 rfl (n:=5) Tryz.ntmps195 (aj (ah (ai rfl rfl (ad (aj (ah (ae rfl rfl ?_)))))));refine aP rfl rfl T6 (yS _ hk Sj Fo hW) (fun r w1 hc=>?_);refine ai rfl rfl (ad (aJ ?_));exact aO rfl rfl hc
def dd (t:Fd):List UInt8:=t.1++[0]++t.2
theorem Fp {M:aA} {t:Fd} (w0:World) (hM:Lt M w0) (h1:t.1.length≤1000000) (h2:t.2.length≤1000000):
  Spec Tryz.prog 74 #[kv t] w0 (fun v w=>v= .string ⟨(dd t).toArray⟩∧Step M w0 M w aC):=by
 refine aX (args:=[_]) (fn:=Tryz.f74) Tryz.func74 rfl (n:=9) Tryz.ntmps74 ?_;have S:Step M w0 M w0 aC:=(an _ _).cb (fun _ h=>h.elim) (fun _ h=>h.elim);refine aj (ah ?_);refine kd (A:=RT.fd) rfl rfl hM (xb (by omega) (by omega)) rfl (fun u0 w1 cz s0 _=>?_);replace hM:=s0.lt hM;have:=S.size;replace S:=S.ay s0;refine ai rfl rfl (ad (aj (ah ?_)));refine aH (M:=M) (A:=RT.fd) (B:=RT.str) b9 rfl rfl I9 (by decide) (K8) rfl rfl (by decide) (by assumption) (by repeat (first|exact aq _ _|refine aT (aY (by assumption)) ?_)) (fun uc jt=>?_);refine cf (M:=M) aD rfl rfl rfl rfl rfl jt (aq _ _) (fun v1 mn=>?_);obtain rfl:=fy mn;refine Rg.cat (p:=t.1) (q:=[0]) rfl rfl rfl (by simp;omega) ?_;refine aH (M:=M) (A:=RT.fd) (B:=RT.str) b9 rfl rfl I9 (by decide) (R7) rfl rfl (by decide) (by assumption) (by repeat (first|exact aq _ _|refine aT (aY (by assumption)) ?_)) (fun EC fA=>?_);refine cf (M:=M) aD rfl rfl rfl rfl rfl fA (aq _ _) (fun v4 p9=>?_);obtain rfl:=fy p9;refine Rg.cat (p:=t.1++[0]) (q:=t.2) rfl rfl rfl (by simp;omega) (ai rfl rfl (ad (aJ ?_)));exact aO rfl rfl ⟨rfl,S⟩
end Go.K
namespace Go.K
open Go.Proofs
set_option maxRecDepth 10000
theorem xf (a b:List UInt8) (w:World):Spec Tryz.prog 159 #[.string ⟨a.toArray⟩,.string ⟨b.toArray⟩] w (fun v w'=>v= .int .i64 (Lib.compareBytes a b)∧w'=w):=(Any.strings_Compare Tryz.HH ⟨a.toArray⟩ ⟨b.toArray⟩ w).mono fun e w' ⟨h1,h2⟩=>⟨_,h1,rfl,h2⟩
end Go.K
namespace Go.K
section
variable {P:Program} {r:Option Nat} {n:Nat} {L:Sl} {ds:List Deferred} {w:World} {K:Kt} {ops:Array Oper} {rest:List Oper} {d:Nat} {x:Operand} {ty:TypeId} {pos:String} {af:Array Edge}
theorem gx.tE {id:Nat} {l:List Oper} (hm:P.follows .mixedOrders=true) (cB:dN l 0=true) (h:gx P r n l L ds (w.drewN 1) K):T P r n (.region id l.toArray true) L ds w K:=by
 refine⟨fun a ha=>wpIn_region_draw fun t=>?_⟩;simp only[Region.schedule,hm,Bool.true_or,if_true,Region.linearise];obtain⟨J,h1,h2,h3,h4⟩:=h a ha;refine lC (J:=J) cB (fun {D D' a w} hi hD=>h1 D D' a w hi hD) (fun {D a' w' j o rest} hj ho mH hp km hi hk=>h2 _ _ _ _ _ _ _ hj ho mH hp km hi hk) h3 _ t _ a _ (by simp) (by simp[List.countP_replicate]) (fun i o h1 h2=>?_) (h1 _ _ _ _ h4 fun i _=>?_)
 ·simp[Array.getElem?_replicate]at h2
 ·simp[Array.getElem?_replicate]
theorem T.LH {id:Nat} {l l':List Oper} (π:List Nat) (m:Nat) (fl:List Nat) (c:Nat) (N:aA) (hm:P.follows .mixedOrders=true) (D5:uN π l=l') (qz:dN l 0=true) (hπ:jX π l.length=true) (pK:Nat.blt m l'.length=true) (cB:dN l' 0=true) (og:iV l' m=true) (Cm:jV l' m fl c=true)
  (h:kn P r n l'.toArray (l'.take m) L ds (w.drewN 1) (fun L'=>(∀j o,j∈fl→l'[j]? =some o→bR P N (w.drewN 1) L' o)∧qy P r n l'.toArray N (w.drewN 1) K c (l'.drop m) L' ds (w.drewN 1))):T P r n (.region id l.toArray true) L ds w K:=by
 subst D5;exact gx.tE hm qz (.perm π hπ qz (x8 m fl c N pK cB og Cm h))
theorem Rg.LI {e:TypeId} {v:Value} (hx:ev L x=some v) (hd:Nat.blt d n=true) (k:Rg P r n ops rest ((d,.pointer (some ⟨w.heap.size,0,none⟩))::L) ds (w.alloc (.cells v.cells e (0,0))) K):
  Rg P r n ops ({dst:=some d,op:= .box e x,type:=ty,pos,after:=af,guard:=none}::rest) L ds w K:=by
 refine .op (fun _ h=>by cases h) rfl rfl hd _ (w.alloc (.cells v.cells e (0,0))) (fun ρ hρ=>?_) k;simp only[execOp,hρ x _ hx];simp[Instr.box,newVar,newRow,newObj,Sem.run]
theorem AI (w:World) (o:Obj):w.alloc o=Go.Sort.grow w #[o]:=by
 unfold World.alloc Go.Sort.grow;congr 1
theorem AJ (w:World) (os:Array Obj) (q:Nat):(Go.Sort.grow w os).drewN q=Go.Sort.grow (w.drewN q) os:=rfl
end
end Go.K
namespace Go.K
open Go.Proofs
set_option maxRecDepth 10000
abbrev eO (t:Fd):Obj:= .cells #[.string ⟨t.1.toArray⟩,.string ⟨t.2.toArray⟩] 47 (0,0)
theorem Fq {t:Fd} (w0:World) (h1:t.1.length≤1000000) (h2:t.2.length≤1000000):
  Spec Tryz.prog 74 #[kv t] w0 (fun v w=>v= .string ⟨(dd t).toArray⟩∧w=w0.alloc (eO t)):=by
 refine aX (args:=[_]) (fn:=Tryz.f74) Tryz.func74 rfl (n:=9) Tryz.ntmps74 (aj (ah (Rg.LI rfl rfl ?_)));have gb:=cq w0 (eO t);change Rg _ _ _ _ _ _ _ (w0.alloc (eO t)) _;generalize hw:w0.alloc (eO t)=w1 at gb ⊢;refine ai rfl rfl (ad (aj (ah (aS (o':=0) b9 rfl rfl I9 (by decide) rfl rfl (aE aD rfl rfl rfl gb rfl (Rg.cat (p:=t.1) (q:=[0]) rfl rfl rfl (by simp;omega) (aS (o':=1) b9 rfl rfl I9 (by decide) rfl rfl (aE aD rfl rfl rfl gb rfl (Rg.cat (p:=t.1++[0]) (q:=t.2) rfl rfl rfl (by simp;omega) (ai rfl rfl (ad ?_)))))))))));refine aJ ?_;exact aO rfl rfl ⟨rfl,rfl⟩
theorem H6 {s t:Fd} (w0:World) (h1:s.1.length≤1000000) (h2:s.2.length≤1000000) (h3:t.1.length≤1000000) (h4:t.2.length≤1000000):
  Spec Tryz.prog 158 #[kv s,kv t] w0 (fun v w=>v= .int .i64 (Lib.compareBytes (dd s) (dd t))∧w=((((w0.alloc (eO s)).alloc (eO t)).drewN 1).alloc (eO s)).alloc (eO t)):=by
 refine aX (args:=[_,_]) (fn:=Tryz.f158) Tryz.func158 rfl (n:=10) Tryz.ntmps158 (aj (ah (Rg.LI rfl rfl ?_)));change Rg _ _ _ _ _ _ _ (w0.alloc (eO s)) _;refine Rg.LI rfl rfl ?_;change Rg _ _ _ _ _ _ _ ((w0.alloc (eO s)).alloc (eO t)) _;have g1:((w0.alloc (eO s)).alloc (eO t)).heap[w0.heap.size]? =some (eO s):=(cU aC _ _).aI (cq w0 _);have g2:=cq (w0.alloc (eO s)) (eO t);have kp:=kg aC (((w0.alloc (eO s)).alloc (eO t)).drewN 1);refine ai rfl rfl (ad (aj ?_));apply T.LH [0,2,1,3,4,5] 2 [1] 1 aC mixed
 ·simp+decide only[uN,pR,ic,List.map_nil,tN,tO,List.map_toArray,fu,mC,List.idxOf_cons,cond_true,cond_false,Nat.reduceBEq,Nat.reduceAdd,beq_self_eq_true];rfl
 ·rfl
 ·rfl
 ·rfl
 ·rfl
 ·rfl
 ·rfl
 have g1':(((w0.alloc (eO s)).alloc (eO t)).drewN 1).heap[w0.heap.size]? =some (eO s):=g1;have g2':(((w0.alloc (eO s)).alloc (eO t)).drewN 1).heap[(w0.alloc (eO s)).heap.size]? =some (eO t):=g2;refine ib (vs:=[.string ⟨s.1.toArray⟩,.string ⟨s.2.toArray⟩]) b9 rfl qE rfl rfl rfl g1' ?_;refine ad ⟨rfl,rfl,rfl,?_⟩;refine ib (vs:=[.string ⟨t.1.toArray⟩,.string ⟨t.2.toArray⟩]) b9 rfl qE rfl rfl rfl g2' ?_;refine ad ⟨rfl,rfl,rfl,?_⟩;refine fz ?_;refine⟨iz ⟨fJ rfl (by assumption) (by first|assumption|exact fun h=>h|(intro h;have h:_=_:=h;omega)),trivial⟩,?_⟩;replace kp:=kp.pO (cU aC (((w0.alloc (eO s)).alloc (eO t)).drewN 1) (eO s));refine aP rfl rfl R3 (Fq (t:=s) _ h1 h2) (fun r5 w5 hc=>?_);obtain⟨rfl,rfl⟩:=hc;refine(fun(kp:eg _ _ _)=>ad ⟨rfl,rfl,fun _=>kp,?_⟩) (by first|exact kp|exact kp.pO (by assumption)|exact kp.goN (by assumption)|exact kp.go (by assumption) (fun _ _ h=>by first|exact h|exact h.elim));refine aP rfl rfl R3 (Fq (t:=t) _ h3 h4) (fun r6 w6 hc=>?_);obtain⟨rfl,rfl⟩:=hc;refine ad ⟨rfl,rfl,fun h=>absurd rfl h,?_⟩;refine aP rfl rfl TG (xf _ _ _) (fun r7 w7 hc=>?_);obtain⟨rfl,rfl⟩:=hc;refine ad ⟨rfl,rfl,fun h=>absurd rfl h,?_⟩;refine ai rfl rfl ?_;refine ad ⟨rfl,rfl,fun h=>absurd rfl h,?_⟩;refine qp (aJ ?_);exact aO rfl rfl ⟨rfl,rfl⟩
end Go.K
namespace Go.K
open Go.Lib (compareBytes)
theorem lh (a b:UInt8) (x y:List UInt8):compareBytes (a::x) (b::y)=if a.toNat<b.toNat then-1 else if b.toNat<a.toNat then 1 else compareBytes x y:=by
 rw[compareBytes];simp only[UInt8.lt_iff_toNat_lt]
theorem tb:∀a,compareBytes a a=0
 |[]=>rfl
 |a::x=>by rw[lh,if_neg (ie _),if_neg (ie _)];exact tb x
theorem nh:∀{a b},compareBytes a b=0→a=b
 |[],[],_=>rfl
 |[],_::_,h=>by simp[compareBytes]at h
 |_::_,[],h=>by simp[compareBytes]at h
 |a::x,b::y,h=>by
  rw[lh]at h
  split at h
  ·omega
  ·split at h
   ·omega
   ·rw[nh h,UInt8.toNat_inj.1 (show a.toNat=b.toNat by omega)]
theorem lU:∀a b,compareBytes a b= -compareBytes b a
 |[],[]=>rfl
 |[],_::_=>rfl
 |_::_,[]=>rfl
 |a::x,b::y=>by
  rw[lh,lh,lU x y]
  split<;>split<;>first|omega|rfl
theorem nB:∀{a b c},compareBytes a b<0→compareBytes b c<0→compareBytes a c<0
 |[],[],_,h,_=>by simp[compareBytes]at h
 |_::_,[],_,h,_=>by simp[compareBytes]at h
 |_,_::_,[],_,h=>by simp[compareBytes]at h
 |[],_::_,_::_,_,_=>by simp[compareBytes]
 |a::x,b::y,c::z,h1,h2=>by
  rw[lh]at h1 h2 ⊢
  split at h1
  ·split at h2
   ·rw[if_pos (by omega)];omega
   ·split at h2
    ·omega
    ·rw[if_pos (by omega)];omega
  ·split at h1
   ·omega
   ·split at h2
    ·rw[if_pos (by omega)];omega
    ·split at h2
     ·omega
     ·rw[if_neg (by omega),if_neg (by omega)];exact nB h1 h2
theorem B0 {α:Type} (f:α→List UInt8):Go.Sort.SWO (Go.Proofs.ltOf fun x y=>compareBytes (f x) (f y)) where
 irrefl x:=by simp[Go.Proofs.ltOf,tb]
 trans x y z h1 h2:=by
  simp only[Go.Proofs.ltOf,decide_eq_true_eq]at*
  exact nB h1 h2
 ntrans x y z h1 h2:=by
  simp only[Go.Proofs.ltOf,decide_eq_false_iff_not]at*
  intro h3;by_cases e1:compareBytes (f x) (f y)=0
  ·rw[nh e1]at h3;exact h2 h3
  ·by_cases e2:compareBytes (f y) (f z)=0
   ·rw[nh e2]at h1;exact h1 h3
   ·have n1:=lU (f x) (f y);have n2:=lU (f y) (f z);have n3:=lU (f x) (f z);have:compareBytes (f z) (f x)<0:=nB (b:=f y) (by omega) (by omega);omega
end Go.K
namespace Go.Proofs
open Go.Shelf
def Tryz.AK:Go.Shelf.Ren:=⟨fun|6=>196|15=>166|14=>234|28=>210|29=>211|20=>261|21=>262|22=>263|23=>264|24=>265|25=>266|26=>267|27=>268|46=>281|47=>246|48=>247|49=>282|50=>283|57=>290|n=>n,fun|22=>98|24=>47|25=>235|3=>3|39=>183|0=>0|53=>273|55=>165|4=>4|46=>267|45=>266|50=>121|5=>5|9=>9|66=>295|70=>299|76=>327|77=>305|n=>n,fun|n=>n⟩
theorem Tryz.Fs:Go.Proofs.SlLaysF0.n6 Tryz.prog Tryz.AK:={
 mixed:=by kernel_rfl
 f6:=⟨Tryz.f196.name,by decide,Tryz.func196.trans (congrArg some (by kernel_rfl))⟩
 f14:=⟨Tryz.f234.name,by decide,Tryz.func234.trans (congrArg some (by kernel_rfl))⟩
 f15:=Tryz.func166.trans (congrArg some (by kernel_rfl))
 f20:=⟨Tryz.f261.name,by decide,Tryz.func261.trans (congrArg some (by kernel_rfl))⟩
 f21:=⟨Tryz.f262.name,by decide,Tryz.func262.trans (congrArg some (by kernel_rfl))⟩
 f22:=⟨Tryz.f263.name,by decide,Tryz.func263.trans (congrArg some (by kernel_rfl))⟩
 f23:=⟨Tryz.f264.name,by decide,Tryz.func264.trans (congrArg some (by kernel_rfl))⟩
 f24:=⟨Tryz.f265.name,by decide,Tryz.func265.trans (congrArg some (by kernel_rfl))⟩
 f25:=⟨Tryz.f266.name,by decide,Tryz.func266.trans (congrArg some (by kernel_rfl))⟩
 f26:=⟨Tryz.f267.name,by decide,Tryz.func267.trans (congrArg some (by kernel_rfl))⟩
 f27:=⟨Tryz.f268.name,by decide,Tryz.func268.trans (congrArg some (by kernel_rfl))⟩
 f28:=Tryz.func210.trans (congrArg some (by kernel_rfl))
 f29:=Tryz.func211.trans (congrArg some (by kernel_rfl))
 f46:=⟨Tryz.f281.name,by decide,Tryz.func281.trans (congrArg some (by kernel_rfl))⟩
 f47:=Tryz.func246.trans (congrArg some (by kernel_rfl))
 f48:=Tryz.func247.trans (congrArg some (by kernel_rfl))
 f49:=⟨Tryz.f282.name,by decide,Tryz.func282.trans (congrArg some (by kernel_rfl))⟩
 f50:=⟨Tryz.f283.name,by decide,Tryz.func283.trans (congrArg some (by kernel_rfl))⟩
 f57:=⟨Tryz.f290.name,by decide,Tryz.func290.trans (congrArg some (by kernel_rfl))⟩
 t0:=gG
 a0:=ru
 z0:=nZ
 v0:=iF
 t3:=ar
 a3:=rv
 z3:=n0
 v3:=iG
 t4:=ju
 a4:=Tryz.isAgg4
 z4:=Tryz.sizeOf4
 v4:=oM
 t5:=b4
 a5:=Tryz.isAgg5
 z5:=Tryz.sizeOf5
 v5:=Tryz.zeroValue5
 t9:=aD
 a9:=ry
 z9:=n4
 v9:=iH
 t22:=iB
 a22:=Tryz.isAgg98
 z22:=Tryz.sizeOf98
 v22:=Tryz.zeroValue98
 t25:=Tryz.underlying235
 a25:=Tryz.isAgg235
 z25:=Tryz.sizeOf235
 v25:=Tryz.zeroValue235
 t39:=Tryz.underlying183
 a39:=Tryz.isAgg183
 z39:=Tryz.sizeOf183
 v39:=Tryz.zeroValue183
 t45:=Tryz.underlying266
 a45:=Tryz.isAgg266
 z45:=Tryz.sizeOf266
 v45:=Tryz.zeroValue266
 t46:=Tryz.underlying267
 a46:=Tryz.isAgg267
 z46:=Tryz.sizeOf267
 v46:=Tryz.zeroValue267
 t50:=Tryz.underlying121
 a50:=Tryz.isAgg121
 z50:=Tryz.sizeOf121
 v50:=Tryz.zeroValue121
 t53:=Tryz.underlying273
 a53:=Tryz.isAgg273
 z53:=Tryz.sizeOf273
 v53:=Tryz.zeroValue273
 t55:=gH
 a55:=Tryz.isAgg165
 z55:=Tryz.sizeOf165
 v55:=Tryz.zeroValue165
 t66:=Tryz.underlying295
 a66:=Tryz.isAgg295
 z66:=Tryz.sizeOf295
 v66:=Tryz.zeroValue295
 t70:=Tryz.underlying299
 a70:=Tryz.isAgg299
 z70:=Tryz.sizeOf299
 v70:=Tryz.zeroValue299
 t76:=Tryz.underlying327
 a76:=Tryz.isAgg327
 z76:=Tryz.sizeOf327
 v76:=Tryz.zeroValue327
 t77:=Tryz.underlying305
 a77:=Tryz.isAgg305
 z77:=Tryz.sizeOf305
 v77:=Tryz.zeroValue305}
end Go.Proofs
namespace Go.K
open Go.Proofs
set_option maxRecDepth 10000
open Go.Proofs Go.Sort
abbrev TK:Type:={t:Fd // (0:UInt8)∉t.1∧t.1.length≤1000000∧t.2.length≤1000000}
instance Zj:Inhabited TK:=⟨⟨([],[]),by simp,by simp,by simp⟩⟩
def ui (x:TK):List Value:=[.string ⟨x.1.1.toArray⟩,.string ⟨x.1.2.toArray⟩]
def DE (x y:TK):Int:=Lib.compareBytes (dd x.1) (dd y.1)
theorem tc:∀{a b x y:List UInt8},(0:UInt8)∉a→(0:UInt8)∉b→a++[0]++x=b++[0]++y→a=b∧x=y
 |[],[],_,_,_,_,h=>⟨rfl,by simpa using h⟩
 |[],c::b,_,_,_,hb,h=>by
  simp at h;exact absurd (by rw[←h.1];exact bY ..) hb
 |c::a,[],_,_,ha,_,h=>by
  simp at h;exact absurd (by rw[h.1];exact bY ..) ha
 |c::a,e::b,x,y,ha,hb,h=>by
  simp only[iE,List.cons.injEq]at h;obtain⟨h1,h2⟩:=tc (fun h=>ha (cp _ h)) (fun h=>hb (cp _ h)) h.2;exact⟨by rw[h.1,h1],h2⟩
theorem Vl (w:World):(isAgg 47).run Tryz.prog w= .ok true w:=by simp[isAgg,cQ,run_underlying b9]
theorem PQ (w:World):(Go.sizeOf 47).run Tryz.prog w= .ok 2 w:=by
 obtain⟨i,h1,_,h2,_⟩:=qE.get;simp[Go.sizeOf,typeInfo,cQ,program,Sem.run,h1,h2]
theorem Ft (iT off size:Nat) (w:World):CmpLays Tryz.prog 158 #[] ui 2 DE iT off size w:=fun m os dk hs x y=>
 (show Calls Tryz.prog 158 #[kv x.1,kv y.1] (sortWorldK ui 2 w iT off m dk os) (fun e w'=>∃v,e= .returned v∧_∧_)from H6 (s:=x.1) (t:=y.1) _ x.2.2.1 x.2.2.2 y.2.2.1 y.2.2.2).mono fun e w' ⟨v,h1,h2,h3⟩=>⟨by rw[h1,h2];rfl,1,#[eO x.1,eO y.1,eO x.1,eO y.1],by rw[h3];simp only[AI,AJ,Go.Sort.grow_grow];rfl⟩
theorem PR (iT off cap:Nat) (d:Array TK) (w:World) (hH:HoldsK ui 2 w iT off d) (hblk:iT<w.heap.size) (iK:d.size<4611686018427387904):
  Spec Tryz.prog 196 #[.slice (some ⟨iT,off,none⟩) d.size cap,.func (.func 158) #[] #[]] w (fun v w'=>v= .tuple #[]∧∃n os,w'=sortWorldK ui 2 w iT off n (d.toList.mergeSort fun x y=> !(Go.Proofs.ltOf DE) y x).toArray os):=by
 exact(Go.Proofs.AnyQ.slices_SortFunc_total Tryz.Fs 2 Vl PQ ui (fun _=>rfl) (fun x v hv=>by simp[ui]at hv;rcases hv with rfl|rfl<;>rfl) DE (B0 _) 158 #[] iT off cap d w TF (Ft iT off d.size w) hH hblk iK (fun x y h1 h2=>by
  have h0:DE x y=0:=by
   have:=lU (dd x.1) (dd y.1);simp only[Go.Proofs.ltOf,decide_eq_false_iff_not]at h1 h2;unfold DE at h1 h2 ⊢;omega
  have h3:=nh h0;obtain⟨h4,h5⟩:=tc x.2.1 y.2.1 h3;exact Subtype.ext (Prod.ext h4 h5))).mono fun e w' ⟨h1,h2⟩=>⟨_,h1,rfl,h2⟩
end Go.K
namespace Go.K
set_option linter.unusedSectionVars false
open Go.Sort Go.Proofs
section
variable {α:Type} [Inhabited α] {enc:α→List Value} {k:Nat}
theorem qJ (hk:∀x,(enc x).length=k) (h0:0<k):∀(l:List α) (t:Nat),(l.flatMap enc)[t]? =(l[t/k]?).bind fun x=>(enc x)[t%k]?
 |[],t=>by simp
 |x::l,t=>by
  rw[List.flatMap_cons];rcases cK t k with h|h
  ·rw[List.getElem?_append_left (by rw[hk];exact h),Nat.div_eq_of_lt h,kQ h];rfl
  ·rw[List.getElem?_append_right (by rw[hk];exact h),hk,qJ hk h0 l];have e1:t/k=(t-k)/k+1:=by rw[Nat.div_eq t k,if_pos ⟨h0,h⟩]
   have e2:(t-k)%k=t%k:=by rw[Nat.mod_eq t k,if_pos ⟨h0,h⟩]
   rw[e1,e2,List.getElem?_cons_succ]
theorem ni (hk:∀x,(enc x).length=k):∀l:List α,(l.flatMap enc).length=l.length*k
 |[]=>by simp
 |x::l=>by rw[List.flatMap_cons,bJ,hk,ni hk l,cr,Nat.add_mul];omega
theorem td (hk:∀x,(enc x).length=k) (h0:0<k) (d:Array α) {t:Nat} (ht:t<d.size*k):(d.toList.flatMap enc)[t]? =some (flatK enc k d)[t]! :=by
 have h1:t/k<d.size:=Nat.div_lt_of_lt_mul (by rw[Nat.mul_comm];exact ht);have h2:t%k<k:=Nat.mod_lt _ h0;rw[qJ hk h0,get_flatK _ _ _ _ ht];have e:d.toList[t/k]? =some d[t/k]! :=by simp[h1]
 rw[e];simp[hk,h2]
theorem CU {w:World} {g:Nat} {cur:Array Value} {e:TypeId} {d:Array α} (hk:∀x,(enc x).length=k) (h0:0<k) (hg:w.heap[g]? =some (.cells cur e (0,0))) (hC:cur.toList.take (d.size*k)=d.toList.flatMap enc):HoldsK enc k w g 0 d:=fun j hj=>by
 rw[size_flatK]at hj;have h1:=td hk h0 d hj;rw[←hC,dE,if_pos hj,Array.getElem?_toList]at h1;constructor
 ·simp[World.cell?,hg,h1]
 ·simp[World.frozen?,hg]
theorem uj {w:World} {g n:Nat} {cur:Array Value} {e:TypeId} {d:Array α} {os:Array Obj} (hg:w.heap[g]? =some (.cells cur e (0,0))):(sortWorldK enc k w g 0 n d os).heap[g]? =some (.cells (putCells id 0 (flatK enc k d) cur) e (0,0)):=by
 have dB:g<w.heap.size:=ak hg
 have h1:(w.heap.modify g (onCells (putCells id 0 (flatK enc k d))))[g]? =some (.cells (putCells id 0 (flatK enc k d) cur) e (0,0)):=by
  rw[pD,if_pos rfl,hg];rfl
 show((w.heap.modify g (onCells (putCells id 0 (flatK enc k d))))++os)[g]? =_;rw[Array.getElem?_append_left (by simpa using dB)];exact h1
theorem ra {w:World} {g n:Nat} {d:Array α} {os:Array Obj}:Step allM w allM (sortWorldK enc k w g 0 n d os) (fun b=>b=g):=
 ⟨fun h=>absurd (h w.heap.size trivial) (ie _),rfl,rfl,rfl,by show _≤((w.heap.modify g _)++os).size;simp,fun _ _=>Iff.rfl,fun b hb hn=>by
  have hn: ¬b=g:=hn;show((w.heap.modify g (onCells (putCells id 0 (flatK enc k d))))++os)[b]? =_;rw[Array.getElem?_append_left (by simpa using hb),pD,if_neg (fun h=>hn h.symm)],fun _ _=>trivial⟩
theorem uk {F cur:Array Value} (h:F.size≤cur.size):(putCells id 0 F cur).toList.take F.size=F.toList:=by
 apply ke;intro j;rw[dE];by_cases hj:j<F.size
 ·rw[if_pos hj];simp[putCells,hj,mI hj h]
 ·rw[if_neg hj,dH (by simpa using hj)]
theorem xg (hk:∀x,(enc x).length=k) (h0:0<k) (d:Array α):(flatK enc k d).toList=d.toList.flatMap enc:=by
 apply ke;intro j;by_cases hj:j<d.size*k
 ·rw[td hk h0 d hj];have:j<(flatK enc k d).size:=by rw[size_flatK];exact hj
  rw[Array.getElem?_toList,getElem!_pos _ j this];exact Array.getElem?_eq_getElem this
 ·rw[dH (by rw[Array.length_toList,size_flatK];omega),dH (by rw[ni hk,Array.length_toList];omega)]
end
end Go.K
namespace Go.K
open Go.Proofs
set_option maxRecDepth 10000
open Go.Proofs Go.Sort
theorem B1:∀{ts:List Fd} {C:List Value} {M:aA} {w:World},eo RT.fd M w ts C→C=ts.flatMap fun t=>[.string ⟨t.1.toArray⟩,.string ⟨t.2.toArray⟩]
 |[],C,_,_,h=>h
 |t::ts,C,_,_,⟨vs,r,h1,h2,h3⟩=>by
  obtain⟨va,vb,rfl,h4,h5⟩:=h2;rw[h1,B1 h3,h4.1,h5.1];rfl
theorem yT {M:aA} {w:World}:∀{ts:List Fd},(∀t∈ts,t.1.length≤1000000∧t.2.length≤1000000)→eo RT.fd M w ts (ts.flatMap fun t=>[.string ⟨t.1.toArray⟩,.string ⟨t.2.toArray⟩])
 |[],_=>rfl
 |t::ts,h=>by
  obtain⟨h1,h2⟩:=h t (bY ..);exact⟨_,_,rfl,⟨_,_,rfl,⟨rfl,by omega⟩,⟨rfl,by omega⟩⟩,yT fun u hu=>h u (cp _ hu)⟩
def Fu (us:List Fd):Prop:=us.Pairwise fun a b=>¬Lib.compareBytes (dd b) (dd a)<0
theorem um {base:Nat} {v:Value} {ts:List Fd} (w0:World) (ho:Own RT.fd 47 (nE v) w0 base v ts) (hT:∀t∈ts,(0:UInt8)∉t.1∧t.1.length≤1000000∧t.2.length≤1000000) (hl:ts.length≤100000000):
  Spec Tryz.prog 196 #[v,.func (.func 158) #[] #[]] w0 (fun r w=>r= .tuple #[]∧∃us:List Fd,us.Perm ts∧Fu us∧Own RT.fd 47 (nE v) w base v us∧Step allM w0 allM w (nE v)):=by
 obtain⟨⟨C,⟨hC,hr⟩,hA⟩,hm⟩:=ho;rcases hr with⟨rfl,h0⟩|⟨g,cap,cur,rfl,hb,hg,hle,hmx,Zk,Cq⟩
 ·have D3:ts=[]:=fX.1 h0;subst D3;exact(AnyF.slices_SortFunc_none Tryz.Fs none 0 _ w0).mono fun e w' ⟨h1,h2⟩=>⟨_,h1,rfl,[],.refl _,List.Pairwise.nil,ec _ _ _ _ _,by rw[h2];exact(an allM w0).cb (fun _ h=>h.elim) (fun _ _=>trivial)⟩
 ·obtain⟨d,hd⟩:∃d:Array TK,d.toList.map (·.1)=ts:=⟨(ts.attach.map fun x=>(⟨x.1,hT x.1 x.2⟩:TK)).toArray,by rw[List.toList_toArray,List.map_map];exact List.attach_map_subtype_val ts⟩;have iK:d.size=ts.length:=by rw[←hd];simp
  have hk:∀x:TK,(ui x).length=2:=fun _=>rfl
  have LJ:∀l:List TK,(l.map (·.1)).flatMap (fun t:Fd=>[Value.string ⟨t.1.toArray⟩,.string ⟨t.2.toArray⟩])=l.flatMap ui:=fun l=>by rw[List.flatMap_map];rfl
  have hH:HoldsK ui 2 w0 g 0 d:=CU hk (by omega) hg (by
   have e2:RT.fd.n=2:=rfl;rw[e2]at Cq;rw[iK,Cq,B1 hA,←hd,LJ])
  have hs:=PR g 0 cap d w0 hH (ak hg) (by omega);rw[iK]at hs;refine hs.mono fun r w' ⟨h1,n,os,h2⟩=>⟨h1,(d.toList.mergeSort fun x y=> !(ltOf DE) y x).map (·.1),?_,?_,?_,?_⟩
  ·rw[←hd];exact(List.mergeSort_perm _ _).map _
  ·refine dp.2 ((List.pairwise_mergeSort (fun a b c h1 h2=>?_) (fun a b=>?_) _).imp fun h=>?_)
   ·simp only[ltOf,od,decide_eq_false_iff_not]at*
    have:=(B0 fun x:TK=>dd x.1).ntrans c b a (by simpa[ltOf,DE]using h2) (by simpa[ltOf,DE]using h1);simpa[ltOf,DE]using this
   ·simp only[ltOf,Bool.or_eq_true,od,decide_eq_false_iff_not];have:=lU (dd a.1) (dd b.1);unfold DE;omega
   ·rw[od]at h;exact of_decide_eq_false h
  ·have hp:=List.mergeSort_perm d.toList fun x y=> !(ltOf DE) y x
   rw[h2];generalize (d.toList.mergeSort fun x y=> !(ltOf DE) y x)=us at hp;have NF:(us.map (·.1)).length=ts.length:=by rw[db,hp.length_eq,Array.length_toList,iK]
   have xF:us.toArray.size*2=ts.length*2:=by rw[←NF];simp
   have e2:RT.fd.n=2:=rfl;refine⟨⟨(us.map (·.1)).flatMap (fun t:Fd=>[Value.string ⟨t.1.toArray⟩,.string ⟨t.2.toArray⟩]),⟨?_,.inr ⟨g,cap,_,by rw[NF],hb,uj hg,by rw[NF];exact hle,hmx,by rw[←Zk];simp[putCells],?_⟩⟩,yT fun t ht=>?_⟩,hm⟩
   ·rw[LJ,ni hk,db,e2]
   ·rw[LJ,NF,e2,←xF,←size_flatK ui,uk (by rw[size_flatK,xF,Zk,e2];omega),xg hk (by omega)]
   ·obtain⟨x,_,rfl⟩:=cF.1 ht;exact x.2.2
  ·rw[h2];exact ra.cb (fun b hb=>by have hb:b=g:=hb;subst hb;rfl) (fun _ _=>trivial)
end Go.K
namespace Go.K
open Go.Proofs
set_option maxRecDepth 10000
theorem yU {bs mb clock:Nat} {es:List MapEntry} (w0:World) (hk:BY es) (hT:∀e∈es,∀t,e.key=kv t→(0:UInt8)∉t.1∧t.1.length≤1000000∧t.2.length≤1000000) (Sj:es.length≤100000000) (hlen:∀ts:List Fd,ts.Nodup→(∀t∈ts,∃e∈es,e.key=kv t)→ts.length≤100000000) (Fo:w0.heap[bs]? =some (.cells #[.map (some mb)] 227 (0,0))) (hW:ew Tryz.prog 47 w0 mb es clock):
  Spec Tryz.prog 156 #[.func (.func 197) #[] [.pointer (some ⟨bs,0,none⟩)].toArray,.func (.func 158) #[] #[]] w0 (fun v w=>∃us:List Fd,us.Nodup∧(∀t,t∈us↔∃e∈es,e.key=kv t)∧Fu us∧Own RT.fd 47 (nE v) w w0.heap.size v us∧Step allM w0 allM w aC):=by
 refine aX (args:=[_,_]) (fn:=Tryz.f156) Tryz.func156 rfl (n:=12) Tryz.ntmps156 (aj (ah (ai rfl rfl (ad (aj (ah (ae rfl rfl ?_)))))));refine aP rfl rfl TT (xe _ hk Sj Fo hW) (fun v1 w1 hc=>?_);obtain⟨ts,mD,lr,ho,s1⟩:=hc;refine ai rfl rfl (ad (aj (ah (ae rfl rfl (ae rfl rfl ?_)))));refine aP rfl rfl TU (um _ ho (fun t ht=>by obtain⟨e,he,Vh⟩:=(lr t).1 ht;exact hT e he t Vh) (hlen ts mD fun t ht=>(lr t).1 ht)) (fun r2 w2 hc=>?_);obtain⟨rfl,us,hp,Kp,PS,s2⟩:=hc;refine ad (aj (ah (ae rfl rfl (ai rfl rfl (ad (aJ ?_))))));exact aO rfl rfl ⟨us,hp.nodup_iff.2 mD,fun t=>hp.mem_iff.trans (lr t),Kp,PS,s1.trans s2 (fun k hk hn=>by have:=(ho.base k hn).1;omega)⟩
theorem AL {mb:Nat} (w0:World):
  Spec Tryz.prog 157 #[.map (some mb)] w0 (fun v w=>∃bs,v= .func (.func 197) #[] [.pointer (some ⟨bs,0,none⟩)].toArray∧w.heap[bs]? =some (.cells #[.map (some mb)] 227 (0,0))∧w0.heap.size≤bs∧Step allM w0 allM w aC):=by
 refine aX (args:=[_]) (fn:=Tryz.f157) Tryz.func157 rfl (n:=4) Tryz.ntmps157 (aj (ah ?_));refine oN allM rfl rfl (fun bs w1 o0 xE gs s1=>?_);change w1.heap[bs]? =some (.cells #[.map (some mb)] 227 (0,0))at gs;replace s1:=s1.all;refine ai rfl rfl (ad (aj (ah (ia (xs:=[]) (ys:=[.tmp 1]) rfl rfl rfl (ai rfl rfl (ad (aJ ?_)))))));exact aO rfl rfl ⟨bs,rfl,gs,o0,s1⟩
end Go.K
namespace Go.K
open Go.Proofs
set_option maxRecDepth 10000
def posOf (ts:List (Fd×Nat)) (t:Fd):List Int:=(ts.filter fun p=>decide (p.1=t)).map fun p=>(p.2:Int)
def seen (ts:List (Fd×Nat)):List Fd:=ts.foldl (fun l p=>if p.1∈l then l else l++[p.1]) []
theorem CV (ts:List (Fd×Nat)) (t:Fd) (i:Nat):seen (ts++[(t,i)])=if t∈seen ts then seen ts else seen ts++[t]:=by unfold seen;rw[oa];rfl
theorem te (ts:List (Fd×Nat)) (t t':Fd) (i:Nat):posOf (ts++[(t,i)]) t'=if t=t' then posOf ts t'++[(i:Int)]else posOf ts t':=by
 unfold posOf;rw[List.filter_append];by_cases h:t=t'<;>simp[h]
theorem qd (ts:List (Fd×Nat)) (t:Fd):(posOf ts t).length≤ts.length:=by
 unfold posOf;rw[db];exact List.length_filter_le _ _
abbrev iO:Value:= .slice none 0 0
structure CW (M:aA) (w:World) (B:Nat) (ts:List (Fd×Nat)) (es:List MapEntry):Prop where
 o:∀t v,dD iO es (kv t) v→Own (RT.int .i64) 3 M w B v (posOf ts t)
 a:∀t t' v v',t≠t'→dD iO es (kv t) v→dD iO es (kv t') v'→iC v v'
 k:es.map (·.key)=(seen ts).map kv
theorem CW.bg {M M':aA} {w w':World} {B:Nat} {ts:List (Fd×Nat)} {es:List MapEntry} (h:CW M w B ts es) (s:Step M w M' w' aC):CW M' w' B ts es:=⟨fun t v hv=>(h.o t v hv).bg s,h.a,h.k⟩
def IJ (bt mb B:Nat) (ts:List (Fd×Nat)) (M:aA) (w:World):Prop:=w.heap[bt]? =some (.cells #[.map (some mb)] 227 (0,0))∧M bt∧M mb∧B≤bt∧B≤mb∧∃es clock,ew Tryz.prog 47 w mb es clock∧CW M w B ts es
theorem Own.iP {α:Type} {A:RT α} {e:TypeId} {M:aA} {w:World} {base b c:Nat} {a:Array MapEntry} {v:Value} {xs:List α} (h:Own A e M w base v xs) (hb:w.heap[b]? =some (.map a c)):v.ownBlock≠some b:=fun hv=>by
 obtain⟨⟨C,h1,_⟩,_⟩:=h;rcases h1.2 with⟨h2,_⟩|⟨g,cap,cur,h2,_,h3,_⟩
 ·rw[h2]at hv;cases hv
 ·rw[h2]at hv;cases hv;rw[h3]at hb;cases hb
theorem pb {ts:List (Fd×Nat)} {es:List MapEntry} {t:Fd} (hk:es.map (·.key)=(seen ts).map kv):(∃e∈es,e.key=kv t)↔t∈seen ts:=by
 constructor
 ·rintro⟨e,he,h⟩;have:kv t∈(seen ts).map kv:=by rw[←hk,←h];exact fh he
  obtain⟨t',h1,h2⟩:=cF.1 this;rw[←qc h2];exact h1
 ·intro h;have:kv t∈es.map (·.key):=by rw[hk];exact fh h
  obtain⟨e,h1,h2⟩:=cF.1 this;exact⟨e,h1,h2⟩
theorem CX {M:aA} {bt mb B:Nat} {ts:List (Fd×Nat)} {t:Fd} {i:Nat} (w0:World) (hM:Lt M w0) (h1:t.1.length≤900000) (h2:t.2.length≤140737488355328) (hi:i≤1000000) (D3:ts.length≤10000000) (hJ:IJ bt mb B ts M w0):
  Spec Tryz.prog 155 #[kv t,.int .i64 (i:Int),.pointer (some ⟨bt,0,none⟩)] w0 (fun v w=>∃M',Lt M' w∧IJ bt mb B (ts++[(t,i)]) M' w∧Step M w0 M' w (jy M B)):=by
 obtain⟨gb,dz,dU,hB,B2,es,clock,hW,hI⟩:=hJ;refine aX (args:=[_,_,_]) (fn:=Tryz.f155) Tryz.func155 rfl (n:=13) Tryz.ntmps155 ?_;have S:Step M w0 M w0 (jy M B):=(an _ _).cb (fun _ h=>h.elim) (fun _ h=>h.2);refine aj (ah ?_);refine kd (A:=RT.fd) rfl rfl hM (xb (by omega) h2) rfl (fun u0 w1 cz s0 _=>?_);have:=ak gb;replace dz:=(s0.mem _ this).2 dz;replace gb:=s0.aI gb;replace dU:=(s0.mem _ (ak hW.at_)).2 dU;replace hW:=hW.bg s0;replace hI:=hI.bg s0;replace hM:=s0.lt hM;have:=S.size;replace S:=S.ay s0;refine ad (ah (aE jK rfl rfl rfl (by assumption) rfl ?_));refine cC (M:=M) (A:=RT.fd) b9 rfl qE (by decide) rfl rfl rfl cz (aq _ _) (fun v1 mn=>?_);obtain rfl:=kI mn;refine ae rfl rfl ?_;refine eQ (A:=RT.int .i64) (hn:=by decide) (M:=M) au I3 (by decide) rfl rfl hM (gj (by omega)) (.inr ⟨rfl,rfl⟩) (fun EC wV fA s1_3=>?_);have:=ak gb;replace dz:=(s1_3.mem _ this).2 dz;replace gb:=s1_3.aI gb;replace cz:=cz.le (by decide) s1_3.le;replace dU:=(s1_3.mem _ (ak hW.at_)).2 dU;replace hW:=hW.bg s1_3;replace hI:=hI.bg s1_3;replace hM:=s1_3.lt hM;have:=S.size;replace S:=S.ay s1_3;obtain⟨kl,Ct⟩:=Fj t (by omega) h2;refine Rg.mapEntry (M:=M) (zv:=iO) jK vg nF rfl rfl rfl Ct hW dU (fun w4 es4 cl4 v s NG hv lr xh xZ s4=>?_);have PT:∀t v,dD iO es (kv t) v→v.ownBlock≠some mb:=fun t v h=>(hI.o t v h).iP hW.at_
 have JC:bt≠mb:=fun e=>by subst e;have:=hW.at_;rw[gb]at this;cases this
 replace hI:CW M w4 B ts es:=⟨fun t v hv=>(hI.o t v hv).step s4 (fun b hb hk=>PT t v hv (by have hk:b=mb:=hk;rw[←hk];exact hb)),hI.a,hI.k⟩;have PU:=(s4.mem _ (ak hW.at_)).2 dU;replace dz:=(s4.mem _ (ak gb)).2 dz;replace gb:=s4.bF gb JC;replace fA:=fA.le s4.le;replace hM:=s4.lt hM;have hmM:∀b,b<w0.heap.size→M b→M b:=fun b hb h=>(S.mem b hb).1 h
 have Zl:=S.size;replace S:=S.trans s4 (fun k hk h=>by have h:k=mb:=h;subst h;exact⟨B2,hmM k hk dU⟩);have nV:=hI.o t v hv;have x7:=qd ts t;refine bP rfl rfl rfl ?_;refine Rg.ki (M:=M) (base:=B) au I3 rfl rfl rfl rfl nV fA (aq _ _) (by simp;omega) (by simp;omega) (by have:=ak gb;omega) (fun v6 w6 qI s6 hF=>?_);have hblk:∀b,iT v b→B≤b∧M b:=fun b h=>⟨(nV.base b h).1,nV.mut_ b h⟩
 have H7:∀t' v',t'≠t→dD iO es (kv t') v'→iC v' v:=fun t' v' eG nL=>hI.a t' t v' v eG nL hv
 have H8:∀t' v',t'≠t→dD iO es (kv t') v'→Own (RT.int .i64) 3 (jj M v6) w6 B v' (posOf ts t'):=fun t' v' eG nL=>(hI.o t' v' nL).step s6 (fun b hb hk=>H7 t' v' eG nL b hb hk)
 have iK:∀t' v',dD iO es (kv t') v'→∀b,v'.ownBlock=some b→b<w4.heap.size:=fun t' v' nL b hb=>((hI.o t' v' nL).base b hb).2
 have Fv:∀t' v',t'≠t→dD iO es (kv t') v'→iC v6 v':=fun t' v' eG nL=>(H7 t' v' eG nL).symm.grown hF (iK t' v' nL)
 have Vm:v.ownBlock≠some mb:=nV.iP NG.at_;have Fw:=(s6.mem _ (ak NG.at_)).2 PU;replace NG:=NG.step s6 Vm;replace dz:=(s6.mem _ (ak gb)).2 dz;replace gb:=s6.bF gb (fun h=>nV.eL gb (by decide) h);replace hM:=s6.lt hM;have Vn:∀b,b<w0.heap.size→M b→M b:=fun b hb h=>(S.mem b hb).1 h
 replace S:=S.trans s6 (fun k hk h=>⟨(hblk k h).1,Vn k hk (hblk k h).2⟩);refine bP rfl rfl rfl ?_;have PV:=NG.at_;refine Rg.entryStore rfl rfl rfl NG Fw lr (fun w8 Zm hW8 l9 PW s8=>?_);have hm8:v6.ownBlock≠some mb:=qI.iP PV;replace qI:=qI.step s8 (fun b hb hk=>hm8 (by have hk:b=mb:=hk;rw[←hk];exact hb));have PX:∀t' v',t'≠t→dD iO es (kv t') v'→Own (RT.int .i64) 3 _ w8 B v' (posOf ts t'):=fun t' v' eG nL=>(H8 t' v' eG nL).step s8 (fun b hb hk=>PT t' v' nL (by have hk:b=mb:=hk;rw[←hk];exact hb))
 have PY:=(s8.mem _ (ak PV)).2 Fw;refine ad ?_
 first|refine fC.nil ?_|simp+decide only[rB,kB,if_true,if_false]|skip
 replace dz:=(s8.mem _ (ak gb)).2 dz;replace gb:=s8.bF gb JC;replace hM:=s8.lt hM;replace S:=S.trans s8 (fun k hk h=>by have h:k=mb:=h;subst h;exact⟨B2,(S.mem k hk).1 Fw⟩)
 have nW:∀t1 v1,dD iO Zm (kv t1) v1→(t1=t∧v1=v6)∨(t1≠t∧dD iO es (kv t1) v1):=fun t1 v1 mn=>by
  rcases(PW iO (kv t1) v1).1 mn with⟨h3,h4⟩|⟨h3,h4⟩
  ·exact .inl ⟨qc h3,h4⟩
  ·exact .inr ⟨fun e=>h3 (by rw[e];rfl),(xh (kv t1) v1).1 h4⟩
 refine gI rfl ⟨_,hM,⟨gb,dz,PY,hB,B2,Zm,_,hW8,⟨fun t1 v1 mn=>?_,fun t1 t2 v1 v2 eG mn ny=>?_,?_⟩⟩,S⟩
 ·rcases nW t1 v1 mn with⟨rfl,rfl⟩|⟨h3,h4⟩
  ·rw[te,if_pos rfl];exact qI
  ·rw[te,if_neg (fun e=>h3 e.symm)];exact PX t1 v1 h3 h4
 ·rcases nW t1 v1 mn with⟨rfl,rfl⟩|⟨h3,h4⟩
  ·rcases nW t2 v2 ny with⟨rfl,_⟩|⟨h5,h6⟩
   ·exact absurd rfl eG
   ·exact Fv t2 v2 h5 h6
  ·rcases nW t2 v2 ny with⟨rfl,rfl⟩|⟨h5,h6⟩
   ·exact(Fv t1 v1 h3 h4).symm
   ·exact hI.a t1 t2 v1 v2 eG h4 h6
 ·rw[l9,CV];rcases xZ with⟨h3,h4⟩|⟨h3,h4⟩
  ·rw[h3,hI.k,if_pos ((pb hI.k).1 h4)]
  ·rw[h3,hI.k,if_neg (fun h=>by obtain⟨e,he,hk⟩:=(pb hI.k).2 h;exact h4 e he hk)];simp[kv]
end Go.K
namespace Go.K
open Go.Maps (Keyed)
open Go.Lib (compareBytes)
theorem yV:∀a b:List UInt8,Op.bytesLess a b=decide (compareBytes a b<0)
 |[],[]=>by simp[Op.bytesLess,compareBytes]
 |_::_,[]=>by simp[Op.bytesLess,compareBytes]
 |[],_::_=>by simp[Op.bytesLess,compareBytes]
 |a::x,b::y=>by
  rw[Op.bytesLess,yV x y,lh];by_cases h1:a.toNat<b.toNat
  ·simp[UInt8.lt_iff_toNat_lt,h1]
  ·by_cases h2:b.toNat<a.toNat
   ·have: ¬a=b:=fun e=>by subst e;omega
    simp[UInt8.lt_iff_toNat_lt,h1,h2,this]
   ·have:a=b:=UInt8.toNat_inj.1 (by omega);simp[UInt8.lt_iff_toNat_lt,h1,h2,this]
theorem nj (a b:List UInt8):compareBytes a b<0↔a<b:=by
 have h:=yV a b;rw[Go.Proofs.bytesLess_eq]at h;exact(decide_eq_decide.1 h).symm
theorem iv (a:List UInt8): ¬a<a:=fun h=>by have:=(nj a a).2 h;rw[tb]at this;omega
theorem lj {a b c:List UInt8} (h:a<b) (h':b<c):a<c:=(nj _ _).1 (nB ((nj _ _).2 h) ((nj _ _).2 h'))
theorem ku (a b:List UInt8):a<b∨a=b∨b<a:=by
 rcases Int.lt_trichotomy (compareBytes a b) 0 with h|h|h
 ·exact .inl ((nj _ _).1 h)
 ·exact .inr (.inl (nh h))
 ·exact .inr (.inr ((nj _ _).1 (by rw[lU];omega)))
theorem iw {a b:List UInt8} (h:a<b): ¬b<a:=fun h'=>iv a (lj h h')
theorem AM {a b:List UInt8}:a≤b↔¬b<a:=Iff.rfl
section
variable {P:Program} {r:Option Nat} {n:Nat} {L:Sl} {ds:List Deferred} {w:World} {K:Kt} {ops:Array Oper} {rest:List Oper} {d:Nat} {x y:Operand} {ty:TypeId} {pos:String} {af:Array Edge}
theorem Rg.Vo {t t':TypeId} {p q:List UInt8} (hx:ev L x=some (.string ⟨p.toArray⟩)) (hy:ev L y=some (.string ⟨q.toArray⟩)) (hd:Nat.blt d n=true)
  (k:Rg P r n ops rest ((d,.bool (decide (q<p)))::L) ds w K):
  Rg P r n ops ({dst:=some d,op:= .binOp .gtr t x y t',type:=ty,pos,after:=af,guard:=none}::rest) L ds w K:=
 .op (fun _ h=>by cases h) rfl rfl hd _ w (fun ρ h=>by
  have e:(!(decide (p<q)||p==q))=decide (q<p):=by
   rcases ku p q with h|h|h
   ·simp[h,iw h]
   ·subst h;simp[iv]
   ·have: ¬p=q:=fun e=>by subst e;exact iv p h
    simp[h,iw h,this]
  simp only[execOp];rw[h x _ hx,h y _ hy];simp only[binOp,Op.stringOp,ij,Go.Proofs.bytesLess_eq,e];simp[eqGuard]) k
theorem Rg.LK {t t':TypeId} {p q:List UInt8} (hx:ev L x=some (.string ⟨p.toArray⟩)) (hy:ev L y=some (.string ⟨q.toArray⟩)) (hd:Nat.blt d n=true)
  (k:Rg P r n ops rest ((d,.bool (decide (¬p<q)))::L) ds w K):
  Rg P r n ops ({dst:=some d,op:= .binOp .geq t x y t',type:=ty,pos,after:=af,guard:=none}::rest) L ds w K:=
 .op (fun _ h=>by cases h) rfl rfl hd _ w (fun ρ h=>by
  have e:(!decide (p<q))=decide (¬p<q):=by by_cases h:p<q<;>simp[h]
  simp only[execOp];rw[h x _ hx,h y _ hy];simp only[binOp,Op.stringOp,ij,Go.Proofs.bytesLess_eq,e];simp[eqGuard]) k
theorem Rg.LL {t t':TypeId} {p q:List UInt8} (hx:ev L x=some (.string ⟨p.toArray⟩)) (hy:ev L y=some (.string ⟨q.toArray⟩)) (hd:Nat.blt d n=true)
  (k:Rg P r n ops rest ((d,.bool (decide (¬q<p)))::L) ds w K):
  Rg P r n ops ({dst:=some d,op:= .binOp .leq t x y t',type:=ty,pos,after:=af,guard:=none}::rest) L ds w K:=
 .op (fun _ h=>by cases h) rfl rfl hd _ w (fun ρ h=>by
  have e:(decide (p<q)||p==q)=decide (¬q<p):=by
   rcases ku p q with h|h|h
   ·simp[h,iw h]
   ·subst h;simp[iv]
   ·have: ¬p=q:=fun e=>by subst e;exact iv p h
    simp[h,iw h,this]
  simp only[execOp];rw[h x _ hx,h y _ hy];simp only[binOp,Op.stringOp,ij,Go.Proofs.bytesLess_eq,e];simp[eqGuard]) k
end
abbrev xi (l:List (List UInt8)):Prop:=l.Pairwise (· < ·)
theorem CY {ss:List (List UInt8)} (h:ss.Nodup):xi (ss.mergeSort fun x y=>decide (x≤y)):=by
 have h1:(ss.mergeSort fun x y=>decide (x≤y)).Pairwise (fun x y=>decide (x≤y)=true):=List.pairwise_mergeSort (fun a b c h1 h2=>by
  simp only[decide_eq_true_eq,AM]at h1 h2 ⊢;intro h3;rcases ku a b with h|h|h
  ·exact h2 (lj h3 h)
  ·subst h;exact h2 h3
  ·exact h1 h) (fun a b=>by
  simp only[Bool.or_eq_true,decide_eq_true_eq,AM];rcases ku a b with h|h|h
  ·exact .inl (iw h)
  ·subst h;exact .inl (iv a)
  ·exact .inr (iw h)) ss
 have h2:(ss.mergeSort fun x y=>decide (x≤y)).Nodup:=(List.mergeSort_perm ss _).nodup_iff.2 h;refine (h1.and h2).imp ?_;rintro a b ⟨h3,h4⟩;simp only[decide_eq_true_eq,AM]at h3;rcases ku a b with h|h|h
 ·exact h
 ·exact absurd h h4
 ·exact absurd h h3
theorem xi.nodup {l:List (List UInt8)} (h:xi l):l.Nodup:=h.imp fun {a b} h e=>by subst e;exact iv a h
theorem Fx {α:Type} {R:α→α→Prop} (hR:∀a b,R a b→R b a→a=b) {l l':List α} (h:l.Pairwise R) (h':l'.Pairwise R) (hn:l.Nodup) (Jz:l'.Nodup) (hm:∀x,x∈l↔x∈l'):l=l':=
 List.Perm.eq_of_pairwise (fun a b _ _ h1 h2=>hR a b h1 h2) h h' ((List.perm_ext_iff_of_nodup hn Jz).2 hm)
theorem LM {l l':List (List UInt8)} (h:xi l) (h':xi l') (hm:∀x,x∈l↔x∈l'):l=l':=
 Fx (fun a b h1 h2=>absurd h2 (iw h1)) h h' h.nodup h'.nodup hm
abbrev sv (k:List UInt8):Value:= .string ⟨k.toArray⟩
theorem xj {a b:List UInt8} (h:sv a=sv b):a=b:=by simpa[sv]using h
def AN:Value→Option (DU×List MemPlace):=fun _=>some (.nil,[])
theorem ew.Vp {P:Program} {kt:TypeId} {M:aA} {w:World} {b:Nat} {es:List MapEntry} {clock:Nat} (hk:P.underlying kt=some .string) (h:ew P kt w b es clock) (hm:M b) (hl:es.length≤maxLen) (ks:List (List UInt8)) (H9:es.map (·.key)=ks.map sv):
  ∃m:List (Lit×DU),KK P kt AN M w b m∧(strKeys (DataW.map m)).Perm ks∧m.length=ks.length:=by
 have hF:Go.WideElems.Fit P kt AN es.toArray clock:=by
  refine⟨by simpa using hl,⟨fun x hx=>h.lt x (by simpa using hx),?_,?_⟩,fun x hx=>?_⟩
  ·simpa[List.Nodup,dp]using h.born
  ·simpa[List.Nodup,dp]using h.keys
  ·obtain⟨l,hl⟩:=h.ok x (by simpa using hx);exact⟨(l,.nil),by simp[Go.WideElems.rd,hl,AN]⟩
 have hp:=Go.WideShapes.sorted_perm (es.toArray.toList.map (Go.WideElems.rg P kt AN));have hlen:(List.foldr DataW.insert [] (es.toArray.toList.map (Go.WideElems.rg P kt AN))).length=es.length:=by rw[hp.length_eq];simp
 refine⟨_,⟨hm,es.toArray,clock,h.at_,hF,by rw[hlen];simp,rfl⟩,?_,?_⟩
 ·refine (hp.map fun p=>strOf p.1).trans ?_;rw[List.map_map]
  have e:es.toArray.toList.map ((fun p=>strOf p.1)∘Go.WideElems.rg (H:=Unit) P kt AN)=ks:=by
   refine ke fun i=>?_
   have hi:=congrArg (·[i]?) H9;simp only[ey]at hi ⊢
   cases he:es[i]? with
   |none=>
    rw[he]at hi
    cases Vq:ks[i]? with
    |none=>simp[he]
    |some a=>rw[Vq]at hi;cases hi
   |some e=>
    rw[he]at hi;obtain⟨l,hl⟩:=h.ok e (aL he);obtain⟨s,hs,h1⟩:=Option.map_eq_some_iff.1 hi.symm;obtain⟨z,Zn,hz2,_⟩:=Maps.keyOf_str hk hl;have:z=s:=xj (Zn.symm.trans (by simpa using h1.symm));subst this;simp[he,hs,Go.WideElems.rg,Go.WideElems.rd,hl,AN,hz2,strOf]
  rw[e]
 ·rw[hlen];have:=congrArg List.length H9;simpa using this
end Go.K
namespace Go.K
open Go.Lib (compareBytes)
def nk {α:Type} [DecidableEq α] (key:α→List UInt8) (t:α):List α→List α
 |[]=>[t]
 |u::l=>if key t<key u then t::u::l else if u=t then u::l else u::nk key t l
theorem nC {α:Type} [DecidableEq α] {key:α→List UInt8} {t x:α}:∀{l:List α},x∈nk key t l↔x=t∨x∈l
 |[]=>by simp[nk]
 |u::l=>by
  unfold nk
  split
  ·simp
  ·split
   ·rename_i h;subst h;simp
   ·rw[dw,nC (l:=l),dw];constructor
    ·rintro(h|h|h)
     ·exact .inr (.inl h)
     ·exact .inl h
     ·exact .inr (.inr h)
    ·rintro(h|h|h)
     ·exact .inr (.inl h)
     ·exact .inl h
     ·exact .inr (.inr h)
abbrev xk {α:Type} (key:α→List UInt8) (l:List α):Prop:=l.Pairwise fun a b=>key a<key b
theorem yW {α:Type} [DecidableEq α] {key:α→List UInt8} {t:α}:∀{l:List α},(∀u∈l,key u=key t→u=t)→xk key l→xk key (nk key t l)
 |[],_,_=>by simp[nk]
 |u::l,hi,h=>by
  have h':=jh.1 h;unfold nk
  split
  ·rename_i dB
   refine jh.2 ⟨fun x hx=>?_,h⟩;rcases dw.1 hx with rfl|hx
   ·exact dB
   ·exact lj dB (h'.1 x hx)
  ·rename_i dB
   split
   ·exact h
   ·rename_i eG
    have hut:key u<key t:=by
     rcases ku (key u) (key t)with h1|h1|h1
     ·exact h1
     ·exact absurd (hi u (bY ..) h1) eG
     ·exact absurd h1 dB
    refine jh.2 ⟨fun x hx=>?_,yW (fun v hv=>hi v (cp _ hv)) h'.2⟩;rcases nC.1 hx with rfl|hx
    ·exact hut
    ·exact h'.1 x hx
def allBy {α:Type} [DecidableEq α] (key:α→List UInt8) (l:List α):List α:=l.foldl (fun a t=>nk key t a) []
theorem pf {α:Type} [DecidableEq α] {key:α→List UInt8} {S:α→Prop} (hS:∀a b,S a→S b→key a=key b→a=b):∀(l a:List α),(∀x∈l,S x)→(∀x∈a,S x)→xk key a→
  xk key (l.foldl (fun a t=>nk key t a) a)∧∀x,x∈l.foldl (fun a t=>nk key t a) a↔x∈a∨x∈l
 |[],a,_,_,h=>⟨h,fun x=>by simp⟩
 |t::l,a,hl,ha,h=>by
  have ht:=hl t (bY ..)
  obtain⟨h1,h2⟩:=pf hS l (nk key t a) (fun x hx=>hl x (cp _ hx)) (fun x hx=>by
   rcases nC.1 hx with rfl|hx
   ·exact ht
   ·exact ha x hx) (yW (fun u hu e=>hS _ _ (ha u hu) ht e) h)
  refine⟨h1,fun x=>?_⟩;rw[List.foldl_cons,h2,nC,dw];constructor
  ·rintro((h|h)|h)
   ·exact .inr (.inl h)
   ·exact .inl h
   ·exact .inr (.inr h)
  ·rintro(h|h|h)
   ·exact .inl (.inr h)
   ·exact .inl (.inl h)
   ·exact .inr h
theorem xk.nodup {α:Type} {key:α→List UInt8} {l:List α} (h:xk key l):l.Nodup:=h.imp fun {a b} h e=>by subst e;exact iv _ h
abbrev Hb (t:Fd):Prop:=(0:UInt8)∉t.1
theorem tf {a b:Fd} (ha:Hb a) (hb:Hb b) (h:dd a=dd b):a=b:=by
 obtain⟨h1,h2⟩:=tc ha hb h;exact Prod.ext h1 h2
def cD (tl:List (Fd×Nat)):List Fd:=allBy dd (tl.map (·.1))
theorem pg {tl:List (Fd×Nat)} (hz:∀p∈tl,Hb p.1):xk dd (cD tl):=
 (pf (S:=Hb) (fun _ _=>tf) _ [] (fun x hx=>by obtain⟨p,hp,rfl⟩:=cF.1 hx;exact hz p hp) (fun x h=>by cases h) List.Pairwise.nil).1
theorem iQ {tl:List (Fd×Nat)} (hz:∀p∈tl,Hb p.1) {t:Fd}:t∈cD tl↔t∈tl.map (·.1):=by
 have:=(pf (S:=Hb) (key:=dd) (fun _ _=>tf) (tl.map (·.1)) [] (fun x hx=>by obtain⟨p,hp,rfl⟩:=cF.1 hx;exact hz p hp) (fun x h=>by cases h) List.Pairwise.nil).2 t;simpa[cD,allBy]using this
theorem B3 (t:Fd):∀(ts:List (Fd×Nat)) (l:List Fd),t∈ts.foldl (fun l p=>if p.1∈l then l else l++[p.1]) l↔t∈l∨t∈ts.map (·.1)
 |[],l=>by simp
 |p::ts,l=>by
  rw[List.foldl_cons,B3 t ts,ic,dw]
  split
  ·rename_i h
   constructor
   ·rintro(h1|h1)
    ·exact .inl h1
    ·exact .inr (.inr h1)
   ·rintro(h1|h1|h1)
    ·exact .inl h1
    ·exact .inl (by rw[h1];exact h)
    ·exact .inr h1
  ·rw[dm,cE];constructor
   ·rintro((h1|h1)|h1)
    ·exact .inl h1
    ·exact .inr (.inl h1)
    ·exact .inr (.inr h1)
   ·rintro(h1|h1|h1)
    ·exact .inl (.inl h1)
    ·exact .inl (.inr h1)
    ·exact .inr h1
theorem ph {tl:List (Fd×Nat)} {t:Fd}:t∈seen tl↔t∈tl.map (·.1):=by unfold seen;rw[B3];simp
theorem yX {tl:List (Fd×Nat)} {us:List Fd} (hz:∀p∈tl,Hb p.1) (mD:us.Nodup) (lr:∀t,t∈us↔t∈seen tl) (Kp:Fu us):us=cD tl:=by
 have hm:∀t,t∈us↔t∈cD tl:=fun t=>by rw[lr,ph,iQ hz]
 have iI:∀t∈cD tl,Hb t:=fun t ht=>by obtain⟨p,hp,rfl⟩:=cF.1 ((iQ hz).1 ht);exact hz p hp
 refine List.Perm.eq_of_pairwise (le:=fun a b=>¬compareBytes (dd b) (dd a)<0) (fun a b ha hb h1 h2=>?_) Kp ((pg hz).imp fun {a b} h h'=>iw h ((nj _ _).1 h')) ((List.perm_ext_iff_of_nodup mD (pg hz).nodup).2 hm);rw[nj]at h1 h2;rcases ku (dd a) (dd b)with h|h|h
 ·exact absurd h h2
 ·exact tf (iI a ((hm a).1 ha)) (iI b hb) h
 ·exact absurd h h1
theorem pq (a b:List (Fd×Nat)) (t:Fd):posOf (a++b) t=posOf a t++posOf b t:=by simp[posOf]
theorem Fy {tl:List (Fd×Nat)} {t:Fd} (h:t∈tl.map (·.1)):posOf tl t≠[]:=by
 obtain⟨p,hp,rfl⟩:=cF.1 h;intro e;have:p∈tl.filter fun q=>decide (q.1=p.1):=List.mem_filter.2 ⟨hp,by simp⟩
 rw[List.map_eq_nil_iff.1 e]at this;cases this
theorem CZ {tl:List (Fd×Nat)} {t:Fd} (h:t∉tl.map (·.1)):posOf tl t=[]:=by
 unfold posOf;rw[List.filter_eq_nil_iff.2 fun p hp=>by simp;intro e;exact h (cF.2 ⟨p,hp,e⟩)];rfl
theorem yY (x:Fd) (t:Fd):(posOf (fW x) t).Sublist ((List.range' 0 (words x.2).length).map fun(i:Nat)=>(i:Int)):=by
 have e:(fW x).map (fun p=>(p.2:Int))=(List.range' 0 (words x.2).length).map fun(i:Nat)=>(i:Int):=by
  rw[←List.zipIdx_map_snd 0 (words x.2),List.map_map];unfold fW;rw[List.map_map];rfl
 rw[←e];exact List.filter_sublist.map _
theorem C0 (x:Fd) (t:Fd):(posOf (fW x) t).Pairwise (· < ·)∧∀i∈posOf (fW x) t,0≤i∧i<(words x.2).length:=by
 refine⟨List.Pairwise.sublist (yY x t) (dp.2 ((List.pairwise_lt_range' (s:=0) (n:=(words x.2).length)).imp fun h=>by omega)),fun i hi=>?_⟩;have:=(yY x t).subset hi;obtain⟨k,hk,rfl⟩:=cF.1 this;have:=List.mem_range'_1.1 hk;omega
theorem vm {x:Fd} {p:Fd×Nat} (h:p∈fW x):p.1.1=x.1∧p.1.2∈words x.2:=by
 obtain⟨q,hq,rfl⟩:=cF.1 h;have:=List.mem_zipIdx hq;exact⟨rfl,by simp only;rw[this.2.2];exact List.getElem_mem _⟩
theorem vq {fs:List Fd} {p:Fd×Nat} (h:p∈b5 fs):∃x∈fs,p.1.1=x.1∧p.1.2∈words x.2:=by
 obtain⟨x,hx,hp⟩:=List.mem_flatMap.1 h;exact⟨x,hx,vm hp⟩
theorem tg {x t:Fd} (h:x.1≠t.1):posOf (fW x) t=[]:=CZ fun hm=>by
 obtain⟨p,hp,rfl⟩:=cF.1 hm;exact h (vm hp).1.symm
theorem vr {t:Fd}:∀{fs:List Fd},(∀x∈fs,x.1≠t.1)→posOf (b5 fs) t=[]
 |[],_=>rfl
 |x::fs,h=>by
  show posOf (fW x++b5 fs) t=[];rw[pq,tg (h x (bY ..)),vr fun y hy=>h y (cp _ hy)];rfl
theorem yZ {t:Fd}:∀{fs:List Fd},(fs.map (·.1)).Nodup→posOf (b5 fs) t=[]∨∃x∈fs,posOf (b5 fs) t=posOf (fW x) t
 |[],_=> .inl rfl
 |x::fs,h=>by
  have h':=rA.1 h;have e:posOf (b5 (x::fs)) t=posOf (fW x) t++posOf (b5 fs) t:=by show posOf (fW x++b5 fs) t=_;rw[pq]
  by_cases hx:x.1=t.1
  ·refine .inr ⟨x,bY ..,?_⟩;rw[e,vr fun y hy e=>h'.1 (by have h9:y.1∈fs.map (·.1):=fh hy;rw[e,←hx]at h9;exact h9),rz]
  ·rw[e,tg hx,gN];rcases yZ (t:=t) h'.2 with h1|⟨y,hy,h1⟩
   ·exact .inl h1
   ·exact .inr ⟨y,cp _ hy,h1⟩
theorem y2:∀{l:List Int} {last:Int},(∀x∈l,last<x)→l.Pairwise (· < ·)→eB last l=true
 |[],_,_,_=>rfl
 |x::l,last,h1,h2=>by
  have tU:=jh.1 h2;simp only[eB,bC,decide_eq_true_eq];exact⟨h1 x (bY ..),y2 tU.1 tU.2⟩
structure iA (d:Dc):Prop where
 names:∀f∈d.2,eM f.1=true
 once:(d.2.map (·.1)).Nodup
 toks:∀f∈d.2,j4 0 (words f.2)=0
 many:(b5 d.2).length≤500
 few:d.2.length≤8
theorem vu:∀{fs sn:List Fd} {n:Nat},sM sn fs n=0→(∀f∈fs,eM f.1=true∧j4 0 (words f.2)=0∧∀g∈sn,g.1≠f.1)∧(fs.map (·.1)).Nodup∧n+(b5 fs).length≤500
 |[],sn,n,h=>by
  refine⟨(fun f hf=>by cases hf),List.nodup_nil,?_⟩;simp only[sM]at h
  split at h
  ·cases h
  ·simp[b5];omega
 |f::fs,sn,n,h=>by
  simp only[sM]at h
  split at h
  ·cases h
  ·rename_i h1
   split at h
   ·cases h
   ·rename_i h2
    split at h
    ·exact absurd h (by assumption)
    ·rename_i h3
     obtain⟨h4,h5,h6⟩:=vu h;have h7:∀g∈sn,g.1≠f.1:=fun g hg e=>h2 (pH.2 ⟨g,hg,by simp[e]⟩)
     refine⟨fun x hx=>?_,rA.2 ⟨fun hm=>?_,h5⟩,?_⟩
     ·rcases dw.1 hx with rfl|hx
      ·exact⟨by simpa using h1,by simpa using h3,h7⟩
      ·obtain⟨a,b,c⟩:=h4 x hx;exact⟨a,b,fun g hg=>c g (kA _ hg)⟩
     ·obtain⟨y,hy,e⟩:=cF.1 hm;exact(h4 y hy).2.2 f (List.mem_append_right _ (cE.2 rfl)) e.symm
     ·have:(b5 (f::fs)).length=(fW f).length+(b5 fs).length:=by show(fW f++b5 fs).length=_;rw[bJ]
      rw[this,lg];omega
theorem B4 {d:Dc} (h:kh d=0):iA d:=by
 unfold kh at h
 split at h
 ·cases h
 ·obtain⟨h1,h2,h3⟩:=vu h;exact⟨fun f hf=>(h1 f hf).1,h2,fun f hf=>(h1 f hf).2.1,by omega,by omega⟩
theorem vv:∀{ws:List (List UInt8)} {i:Nat},j4 i ws=0→∀x∈ws,x.length≤30
 |[],_,_,x,hx=>by cases hx
 |a::ws,i,h,x,hx=>by
  simp only[j4]at h
  split at h
  ·cases h
  ·split at h
   ·cases h
   ·rcases dw.1 hx with rfl|hx
    ·omega
    ·exact vv h x hx
theorem Fz {s:List UInt8} (h:eM s=true):(0:UInt8)∉s:=fun h0=>by
 simp only[eM,bC,eh]at h;have:=h.2 0 h0
 revert this;decide
theorem iA.Ia {d:Dc} (h:iA d):∀p∈b5 d.2,Hb p.1:=fun p hp=>by
 obtain⟨x,hx,h1,_⟩:=vq hp;show(0:UInt8)∉p.1.1;rw[h1];exact Fz (h.names x hx)
theorem iA.small {d:Dc} (h:iA d):∀p∈b5 d.2,p.1.1.length≤12∧p.1.2.length≤30:=fun p hp=>by
 obtain⟨x,hx,h1,h2⟩:=vq hp;exact⟨by rw[h1];exact yG (h.names x hx),vv (h.toks x hx) _ h2⟩
theorem iA.pos {d:Dc} (h:iA d) (t:Fd):(posOf (b5 d.2) t).Pairwise (· < ·)∧(∀i∈posOf (b5 d.2) t,0≤i∧i<500)∧(posOf (b5 d.2) t).length≤500:=by
 have hl:=qd (b5 d.2) t;have hm:=h.many;rcases yZ (t:=t) h.once with h1|⟨x,hx,h1⟩
 ·rw[h1];exact⟨List.Pairwise.nil,(fun i hi=>by cases hi),by simp⟩
 ·obtain⟨h2,h3⟩:=C0 x t
  have uJ:(words x.2).length≤500:=by
   have:(fW x).length≤(b5 d.2).length:=by
    obtain⟨i,hi⟩:=bO.1 hx;have:=oD hi
    have h5:(b5 (d.2.take (i+1))).length≤(b5 d.2).length:=by
     have:b5 d.2=b5 (d.2.take (i+1))++b5 (d.2.drop (i+1)):=by unfold b5;rw[←List.flatMap_append,List.take_append_drop]
     rw[this,bJ];omega
    rw[this,bJ]at h5;omega
   rw[lg]at this;omega
  rw[h1]at hl ⊢;exact⟨h2,fun i hi=>⟨(h3 i hi).1,by have:=(h3 i hi).2;omega⟩,by omega⟩
theorem iA.eB {d:Dc} (h:iA d) (t:Fd):lH (posOf (b5 d.2) t)=true:=by
 obtain⟨h1,h2,_⟩:=h.pos t;exact lI.2 ⟨y2 (fun x hx=>by have:=(h2 x hx).1;omega) h1,fun x hx=>by have:=(h2 x hx).2;omega⟩
abbrev oL (e:En):List (Fd×Nat):=b5 e.1.2
def AO (i:Nat) (tl:List (Fd×Nat)) (k:List UInt8):List Po:=((cD tl).filter fun t=>decide (dd t=k)).map fun t=>((i:Int),posOf tl t)
def AP (k:List UInt8):Nat→List En→List Po
 |_,[]=>[]
 |i,e::L=>AO i (oL e) k++AP k (i+1) L
def pk (L:List En) (k:List UInt8):List Po:=AP k 0 L
theorem y3 (k:List UInt8) (e:En):∀(L:List En) (i:Nat),AP k i (L++[e])=AP k i L++AO (i+L.length) (oL e) k
 |[],i=>by simp[AP]
 |x::L,i=>by
  simp only[iE,AP,y3 k e L (i+1),List.append_assoc,cr];rw[show i+1+L.length=i+(L.length+1) by omega]
theorem Ib (L:List En) (e:En) (k:List UInt8):pk (L++[e]) k=pk L k++AO L.length (oL e) k:=by
 unfold pk;rw[y3];simp
def gy (L:List En):List (List UInt8):=L.flatMap fun e=>(cD (oL e)).map dd
theorem AQ (L:List En) (e:En):gy (L++[e])=gy L++(cD (oL e)).map dd:=by simp[gy]
def keysOf (L:List En):List (List UInt8):=allBy id (gy L)
theorem jC (L:List En):xi (keysOf L):=(pf (key:=id) (S:=fun _=>True) (fun a b _ _ h=>h) _ [] (fun _ _=>trivial) (fun _ _=>trivial) List.Pairwise.nil).1
theorem j9 {L:List En} {k:List UInt8}:k∈keysOf L↔k∈gy L:=by
 have:=(pf (key:=id) (S:=fun _=>True) (fun a b _ _ h=>h) (gy L) [] (fun _ _=>trivial) (fun _ _=>trivial) List.Pairwise.nil).2 k;simpa[keysOf,allBy]using this
theorem filter_one {α:Type} {key:α→List UInt8} {l:List α} (h:xk key l) (k:List UInt8):l.filter (fun t=>decide (key t=k))=[]∨∃t∈l,key t=k∧l.filter (fun t=>decide (key t=k))=[t]:=by
 have h1:xk key (l.filter fun t=>decide (key t=k)):=List.Pairwise.sublist List.filter_sublist h;have h2:∀x∈l.filter (fun t=>decide (key t=k)),x∈l∧key x=k:=fun x hx=>by simpa using List.mem_filter.1 hx
 revert h1 h2
 generalize l.filter (fun t=>decide (key t=k))=m;intro h1 h2
 match m,h1,h2 with
 |[],_,_=>exact .inl rfl
 |[t],_,h2=>exact .inr ⟨t,(h2 t (bY ..)).1,(h2 t (bY ..)).2,rfl⟩
 |t::u::m,h1,h2=>
  have:=(jh.1 h1).1 u (bY ..);rw[(h2 t (bY ..)).2,(h2 u (by simp)).2]at this;exact absurd this (iv k)
theorem B5 {d:Dc} (h:iA d) (i:Nat) (k:List UInt8):AO i (b5 d.2) k=[]∨∃t∈cD (b5 d.2),dd t=k∧AO i (b5 d.2) k=[((i:Int),posOf (b5 d.2) t)]:=by
 rcases filter_one (pg h.Ia) k with h1|⟨t,ht,hk,h1⟩
 ·exact .inl (by unfold AO;rw[h1];rfl)
 ·exact .inr ⟨t,ht,hk,by unfold AO;rw[h1];rfl⟩
theorem LN {tl:List (Fd×Nat)} {i:Nat} {t:Fd} (h:t∈cD tl):AO i tl (dd t)≠[]:=fun e=>by
 have:t∈(cD tl).filter fun u=>decide (dd u=dd t):=List.mem_filter.2 ⟨h,by simp⟩
 rw[List.map_eq_nil_iff.1 e]at this;cases this
theorem rr (k:List UInt8):∀(L:List En) (i:Nat) (last:Int),(∀e∈L,iA e.1)→last<i→i+L.length≤2147483648→dQ last (AP k i L)=true
 |[],_,_,_,_,_=>rfl
 |e::L,i,last,hF,h1,h2=>by
  have hf:=hF e (bY ..);have hr:=fun last h=>rr k L (i+1) last (fun x hx=>hF x (cp _ hx)) h (by simp at h2;omega)
  simp only[AP];rcases B5 hf i k with h3|⟨t,ht,hk,h3⟩
  ·rw[show AO i (oL e) k=[]from h3];exact hr last (by omega)
  ·rw[show AO i (oL e) k=_ from h3]
   have eG:(posOf (b5 e.1.2) t).isEmpty=false:=by
    have:=Fy ((iQ hf.Ia).1 ht)
    cases h:posOf (b5 e.1.2) t with
    |nil=>exact absurd h this
    |cons a b=>rfl
   simp only[iE,gN,dQ,eG,hf.eB t,hr i (by omega),ig,Bool.not_false,bC,decide_eq_true_eq];simp at h2;omega
theorem qe (k:List UInt8):∀(L:List En) (i:Nat),(∀e∈L,iA e.1)→(AP k i L).length≤L.length∧∀p∈AP k i L,(i:Int)≤p.1∧p.1<i+L.length∧p.2.length≤500
 |[],_,_=>⟨bh _,fun p h=>by cases h⟩
 |e::L,i,hF=>by
  have hf:=hF e (bY ..);obtain⟨h1,h2⟩:=qe k L (i+1) (fun x hx=>hF x (cp _ hx));simp only[AP,cr];rcases B5 hf i k with h3|⟨t,ht,hk,h3⟩
  ·rw[show AO i (oL e) k=[]from h3];exact⟨by simpa using Nat.le_succ_of_le h1,fun p hp=>by have:=h2 p (by simpa using hp);exact⟨by omega,by omega,this.2.2⟩⟩
  ·rw[show AO i (oL e) k=_ from h3];refine⟨by simp;omega,fun p hp=>?_⟩;rcases dw.1 hp with rfl|hp
   ·exact⟨Int.le_refl _,by simp only;omega,(hf.pos t).2.2⟩
   ·have:=h2 p (by simpa using hp);exact⟨by omega,by omega,this.2.2⟩
theorem qf:∀(l:List Po) (last:Int) (m:Nat),-1≤last→dQ last l=true→(∀p∈l,p.2.length≤m)→m≤1000000→(dx last l).length≤(18+9*m)*l.length∧gq l≤m*l.length
 |[],_,_,_,_,_,_=>⟨by simp[dx],by simp[gq]⟩
 |(d,ps)::l,last,m,h0,hm,hs,hmm=>by
  simp only[dQ,bC,decide_eq_true_eq]at hm;obtain⟨⟨⟨⟨h1,h2⟩,h3⟩,h4⟩,h5⟩:=hm;obtain⟨h6,h7⟩:=lI.1 h4;have qW:=hs _ (bY ..);simp only at qW;obtain⟨i1,i2⟩:=qf l d m (by omega) h5 (fun p hp=>hs p (cp _ hp)) hmm;have a1:=rV ps (-1) (by omega) (fun x hx=>by have:=h7 x hx;omega) h6;have a3:=ja (n:=(d-last-1).toNat) (by omega);have a4:=ja (n:=ps.length) (by omega);have e1:9*ps.length≤9*m:=by omega
  constructor
  ·simp only[dx,dJ,bJ,cr,Nat.mul_add,Nat.mul_one];omega
  ·simp only[gq,ic,List.sum_cons,cr]at i2 ⊢;rw[Int.natCast_add,Int.mul_add];omega
theorem FA {k:List UInt8}:∀{L:List En} (i:Nat),k∈gy L→AP k i L≠[]
 |[],_,h=>by cases h
 |e::L,i,h=>by
  simp only[AP];intro hn;obtain⟨h1,h2⟩:=List.append_eq_nil_iff.1 hn;have h:k∈(cD (oL e)).map dd++gy L:=h;rcases dm.1 h with h|h
  ·obtain⟨t,ht,rfl⟩:=cF.1 h;exact LN ht h1
  ·exact FA (i+1) h h2
theorem B6 {k:List UInt8}:∀{L:List En} (i:Nat),k∉gy L→AP k i L=[]
 |[],_,_=>rfl
 |e::L,i,h=>by
  have h:k∉(cD (oL e)).map dd++gy L:=h;rw[dm,not_or]at h;simp only[AP];rw[B6 (i+1) h.2,rz];unfold AO;rw[List.filter_eq_nil_iff.2 fun t ht=>by simp;intro e';exact h.1 (cF.2 ⟨t,ht,e'⟩)];rfl
end Go.K
namespace Go.K
def RT.ptr {α:Type} (A:RT α) (hn:0<A.n:=by decide):RT α where
 n:=1
 agg:=false
 R:=fun M w x vs=>∃b o us,vs=[.pointer (some ⟨b,o,none⟩)]∧¬M b∧A.R M w x us∧w.rangeAt b o us
 len:=by rintro _ _ x vs ⟨b,o,us,rfl,_⟩;rfl
 one:=by rintro _ _ x vs ⟨b,o,us,rfl,_⟩ v hv;simp at hv;subst hv;rfl
 le:=by
  rintro M w M' w' x vs hl ⟨b,o,us,h1,h2,h3,h4⟩;have hp:0<us.length:=by rw[A.len h3];exact hn
  have hc:=h4 0 (us[0]'hp) (aN hp);exact⟨b,o,us,h1,(hl b (World.block_lt_of_cell? w _ hc) h2).1,A.le hl h3,oe hl h2 h4⟩
theorem B7 {α:Type} {A:RT α} {hn:0<A.n} {M:aA} {w:World} {x:α} {v:Value}:(A.ptr hn).V M w x v↔ch A M w v x:=
 ⟨fun⟨vs,⟨b,o,us,h1,h2,h3,h4⟩,h5⟩=>⟨b,o,us,by subst h1;exact h5,h2,h3,h4⟩,fun⟨b,o,us,h1,h2,h3,h4⟩=>⟨[v],⟨b,o,us,by rw[h1],h2,h3,h4⟩,rfl⟩⟩
abbrev Di:=List (List UInt8)×List Li
abbrev Se:=List Int×List Int×Di
abbrev RT.di:RT Di:=RT.pair (RT.str.sl) (((RT.li).ptr).sl)
abbrev RT.se:RT Se:=RT.pair ((RT.int .i64).sl) (RT.pair ((RT.int .i64).sl) ((RT.di).ptr))
theorem Sk:Part RT.di (RT.str.sl) (fun p=>p.1) 0:=kf _ _
theorem di1:Part RT.di (((RT.li).ptr).sl) (fun p=>p.2) 1:=fI _ _
theorem se0:Part RT.se ((RT.int .i64).sl) (fun p=>p.1) 0:=kf _ _
theorem se1:Part RT.se ((RT.int .i64).sl) (fun p=>p.2.1) 1:=(fI ((RT.int .i64).sl) (RT.pair ((RT.int .i64).sl) ((RT.di).ptr))).trans (kf _ _)
theorem se2:Part RT.se ((RT.di).ptr) (fun p=>p.2.2) 2:=(fI ((RT.int .i64).sl) (RT.pair ((RT.int .i64).sl) ((RT.di).ptr))).trans (fI ((RT.int .i64).sl) ((RT.di).ptr))
abbrev Pa:=List Int×List Int×List (List UInt8)×List (List Po)
abbrev RT.pa:RT Pa:=RT.pair ((RT.int .i64).sl) (RT.pair ((RT.int .i64).sl) (RT.pair (RT.str.sl) (((RT.po).sl).sl)))
theorem Zo:Part RT.pa ((RT.int .i64).sl) (fun p=>p.1) 0:=kf _ _
theorem Vr:Part RT.pa ((RT.int .i64).sl) (fun p=>p.2.1) 1:=(fI ((RT.int .i64).sl) (RT.pair ((RT.int .i64).sl) (RT.pair (RT.str.sl) (((RT.po).sl).sl)))).trans (kf _ _)
theorem pa2:Part RT.pa (RT.str.sl) (fun p=>p.2.2.1) 2:=((fI ((RT.int .i64).sl) (RT.pair ((RT.int .i64).sl) (RT.pair (RT.str.sl) (((RT.po).sl).sl)))).trans (fI ((RT.int .i64).sl) (RT.pair (RT.str.sl) (((RT.po).sl).sl)))).trans (kf _ _)
theorem pa3:Part RT.pa (((RT.po).sl).sl) (fun p=>p.2.2.2) 3:=((fI ((RT.int .i64).sl) (RT.pair ((RT.int .i64).sl) (RT.pair (RT.str.sl) (((RT.po).sl).sl)))).trans (fI ((RT.int .i64).sl) (RT.pair (RT.str.sl) (((RT.po).sl).sl)))).trans (fI _ _)
theorem Vs {M:aA} {w:World} {x:Se} {a b c:Value} (h0:((RT.int .i64).sl).V M w x.1 a) (h1:((RT.int .i64).sl).V M w x.2.1 b) (h2:ch RT.di M w c x.2.2):RT.se.V M w x (.agg [a,b,c].toArray):=
 ⟨[a,b,c],⟨[a],[b,c],rfl,jZ h0 rfl rfl,[b],[c],rfl,jZ h1 rfl rfl,jZ (B7.2 h2) rfl rfl⟩,rfl⟩
theorem Vt {M:aA} {w:World} {x:Pa} {a b c d:Value} (h0:((RT.int .i64).sl).V M w x.1 a) (h1:((RT.int .i64).sl).V M w x.2.1 b) (h2:(RT.str.sl).V M w x.2.2.1 c) (h3:(((RT.po).sl).sl).V M w x.2.2.2 d):RT.pa.V M w x (.agg [a,b,c,d].toArray):=
 ⟨[a,b,c,d],⟨[a],[b,c,d],rfl,jZ h0 rfl rfl,[b],[c,d],rfl,jZ h1 rfl rfl,[c],[d],rfl,jZ h2 rfl rfl,jZ h3 rfl rfl⟩,rfl⟩
theorem AR {α:Type} {A:RT α} (hg:A.agg=true) {M:aA} {w:World} {x:α} {vs:List Value} (h:A.V M w x (.agg vs.toArray)):∀u∈vs,u.oneCell'=true:=by
 obtain⟨us,h1,h2⟩:=h
 have:vs=us:=by
  unfold RT.val at h2;rw[if_pos hg]at h2;injection h2 with h2
  simpa using congrArg Array.toList h2
 subst this;exact A.one h1
theorem eo.free {α:Type} {A:RT α} (hA:∀M w M' w' x vs,A.R M w x vs→A.R M' w' x vs) {M M':aA} {w w':World}:∀{xs:List α} {C:List Value},eo A M w xs C→eo A M' w' xs C
 |[],_,h=>h
 |x::xs,C,h=>by
  obtain⟨vs,r,h1,h2,h3⟩:=h;exact⟨vs,r,h1,hA _ _ _ _ _ _ h2,eo.free hA h3⟩
theorem Own.tell {α:Type} {A:RT α} {hn:0<A.n} (hA:∀M w M' w' x vs,A.R M w x vs→A.R M' w' x vs) {e:TypeId} {M M0:aA} {w:World} {base:Nat} {v:Value} {xs:List α} (h:Own A e M w base v xs) (hb:∀b,v.ownBlock=some b→¬M0 b) (hlen:xs.length≤140737488355328):(A.sl hn).V M0 w xs v:=by
 obtain⟨⟨C,hr,ha⟩,hm⟩:=h;have h':Own A e (fun b=>v.ownBlock=some b∨M0 b) w base v xs:=⟨⟨C,hr,eo.free hA ha⟩,fun b hb=> .inl hb⟩;exact h'.sl (fun b _ hn=>⟨fun h=>hn (.inr h),rfl⟩) hb hlen
end Go.K
namespace Go.K
open Go.Maps (Keyed)
section
variable {P:Program} {r:Option Nat} {n:Nat} {L:Sl} {ds:List Deferred} {w:World} {K:Kt} {ops:Array Oper} {rest:List Oper} {d:Nat} {x y z:Operand} {ty:TypeId} {pos:String} {af:Array Edge}
variable {kt:TypeId} {M:aA} {b clock:Nat} {es:List MapEntry}
theorem ew.LO (h:ew P kt w b es clock) {i s:Nat} {key v0 val:Value} (hi:es[i]? =some ⟨key,v0,s⟩) {w':World} (hw:w'.heap[b]? =some (.map (es.set i ⟨key,val,s⟩).toArray clock)):
  ew P kt w' b (es.set i ⟨key,val,s⟩) clock∧(es.set i ⟨key,val,s⟩).map (·.key)=es.map (·.key)∧∀zv gw v',dD zv (es.set i ⟨key,val,s⟩) gw v'↔(gw=key∧v'=val)∨(gw≠key∧dD zv es gw v'):=by
 have mf:=(av.1 hi).1;have lr:(⟨key,v0,s⟩:MapEntry)∈es:=aL hi;obtain⟨l8,qb⟩:∃l8,l8=es.set i ⟨key,val,s⟩:=⟨_,rfl⟩;rw[←qb]at hw ⊢
 have fU:∀j e',l8[j]? =some e'→(j=i∧e'=⟨key,val,s⟩)∨(j≠i∧es[j]? =some e'):=fun j e' hj=>by
  rw[qb,dK]at hj
  split at hj
  ·rename_i gm
   left;exact⟨gm.symm,by simpa[mf]using hj.symm⟩
  ·rename_i gm
   exact .inr ⟨fun e=>gm e.symm,hj⟩
 have l9:l8.map (·.key)=es.map (·.key):=by
  rw[qb,List.map_set];apply ke;intro j;rw[dK]
  split
  ·rename_i gm
   subst gm;have e:=(av.1 hi).2;simp[mf,e]
  ·rfl
 have Ff:l8.map (·.born)=es.map (·.born):=by
  rw[qb,List.map_set];apply ke;intro j;rw[dK]
  split
  ·rename_i gm
   subst gm;have e:=(av.1 hi).2;simp[mf,e]
  ·rfl
 have ef:∀e'∈l8,(e'=⟨key,val,s⟩)∨(e'∈es∧e'.key≠key):=fun e' ng=>by
  obtain⟨j,hj⟩:=bO.1 ng;rcases fU j e' hj with⟨_,e⟩|⟨eG,pQ⟩
  ·exact .inl e
  ·refine .inr ⟨aL pQ,fun e=>eG ?_⟩;rcases gV j i with h1|h1|h1
   ·exact absurd e (fH h.keys pQ hi h1)
   ·exact h1
   ·exact absurd e.symm (fH h.keys hi pQ h1)
 have Fg:(⟨key,val,s⟩:MapEntry)∈l8:=aL (i:=i) (by rw[qb,dK];simp[mf])
 have hold:∀e'∈es,e'.key≠key→e'∈l8:=fun e' ng eG=>by
  obtain⟨j,hj⟩:=bO.1 ng;refine aL (i:=j) ?_;rw[qb,dK,if_neg]
  ·exact hj
  ·rintro rfl;rw[hi]at hj;cases hj;exact eG rfl
 refine⟨⟨hw,?_,fun e' ng=>?_,?_,fun e' ng=>?_⟩,l9,fun zv gw v'=>?_⟩
 ·have:=dp.2 h.born;rw[←Ff]at this;exact dp.1 this
 ·rcases ef e' ng with e|⟨h1,_⟩
  ·rw[e];exact(h.lt _ lr:s<clock)
  ·exact h.lt _ h1
 ·have:=dp.2 h.keys;rw[←l9]at this;exact dp.1 this
 ·rcases ef e' ng with e|⟨h1,_⟩
  ·rw[e];exact(h.ok _ lr:∃l,keyOf P kt key=some l)
  ·exact h.ok _ h1
 ·constructor
  ·rintro(⟨e',ng,hk,hv⟩|⟨h1,h2⟩)
   ·rcases ef e' ng with e|⟨h3,h4⟩
    ·subst e;exact .inl ⟨hk.symm,hv⟩
    ·exact .inr ⟨by rw[←hk];exact h4,.inl ⟨e',h3,hk,hv⟩⟩
   ·have eG:gw≠key:=fun e=>h1 _ Fg e.symm
    exact .inr ⟨eG,.inr ⟨fun e' ng=>fun e=>by
     by_cases h5:e'.key=key
     ·exact eG (e.symm.trans h5)
     ·exact h1 e' (hold e' ng h5) e,h2⟩⟩
  ·rintro(⟨rfl,rfl⟩|⟨eG,⟨e',ng,hk,hv⟩|⟨h1,h2⟩⟩)
   ·exact .inl ⟨_,Fg,rfl,rfl⟩
   ·exact .inl ⟨e',hold e' ng (by rw[hk];exact eG),hk,hv⟩
   ·exact .inr ⟨fun e' ng=>by
     rcases ef e' ng with e|⟨h3,_⟩
     ·rw[e];exact fun e=>eG e.symm
     ·exact h1 e' h3,h2⟩
theorem dD.put {key val:Value} {s:Nat} (hn:∀e∈es,e.key≠key) (zv gw v':Value):dD zv (es++[⟨key,val,s⟩]) gw v'↔(gw=key∧v'=val)∨(gw≠key∧dD zv es gw v'):=by
 constructor
 ·rintro(⟨e,he,hk,hv⟩|⟨h1,h2⟩)
  ·rcases dm.1 he with he|he
   ·exact .inr ⟨by rw[←hk];exact hn e he,.inl ⟨e,he,hk,hv⟩⟩
   ·obtain rfl:=cE.1 he;exact .inl ⟨hk.symm,hv⟩
  ·exact .inr ⟨fun e=>h1 ⟨key,val,s⟩ (by simp) e.symm,.inr ⟨fun e he=>h1 e (kA _ he),h2⟩⟩
 ·rintro(⟨rfl,rfl⟩|⟨eG,⟨e,he,hk,hv⟩|⟨h1,h2⟩⟩)
  ·exact .inl ⟨⟨_,_,s⟩,by simp,rfl,rfl⟩
  ·exact .inl ⟨e,kA _ he,hk,hv⟩
  ·refine .inr ⟨fun e he=>?_,h2⟩;rcases dm.1 he with he|he
   ·exact h1 e he
   ·obtain rfl:=cE.1 he;exact fun e=>eG e.symm
theorem Rg.Ic {t e:TypeId} {key val:Value} {kl:Lit} (ht:P.underlying t=some (.map kt e)) (Kk:Keyed P kt) (hx:ev L x=some (.map (some b))) (hy:ev L y=some key) (hz:ev L z=some val) (jo:keyOf P kt key=some kl) (h:ew P kt w b es clock) (hm:M b)
  (k:∀w' l8 AD,ew P kt w' b l8 AD→((l8.map (·.key)=es.map (·.key)∧∃e∈es,e.key=key)∨(l8.map (·.key)=es.map (·.key)++[key]∧∀e∈es,e.key≠key))→(∀zv gw v',dD zv l8 gw v'↔(gw=key∧v'=val)∨(gw≠key∧dD zv es gw v'))→Step M w M w' (fun k=>k=b)→Rg P r n ops rest L ds w' K):
  Rg P r n ops ({dst:=none,op:= .mapUpdate t x y z,type:=ty,pos,after:=af,guard:=none}::rest) L ds w K:=by
 have dB:=ak h.at_;rcases Kk.find w jo es h.ok with⟨h1,h2⟩|⟨j,e0,h1,h2,h3⟩
 ·have hw:({w with heap:=w.heap.setIfInBounds b (.map (es.toArray.push ⟨key,val,clock⟩) (clock+1))}:World).heap[b]? =some (.map (es++([⟨key,val,clock⟩]:List MapEntry)).toArray (clock+1)):=by
   simp[cJ,dB]
  refine .NX (fun _ h=>by cases h) rfl rfl _ (fun ρ hρ=>?_) (k _ _ _ (h.push jo h2 hw) (Or.inr ⟨by simp,h2⟩) (dD.put h2) (gr M hm));simp only[execOp,hρ x _ hx,hρ y _ hy,hρ z _ hz,Instr.mapUpdate,cQ,run_underlying ht,dr,cY h.at_,Kk.check w false jo,h1,run_setObj_map h.at_];simp
 ·have he:e0∈es:=aL h2;obtain⟨k0,v0,s0⟩:=e0;simp only at h3;subst h3;have hj:es.toArray[j]? =some ⟨k0,v0,s0⟩:=by simpa using h2
  have Fe:es.toArray.modify j (fun e=>{e with key:=k0,val:=val})=(es.set j ⟨k0,val,s0⟩).toArray:=by
   apply Array.ext_getElem?;intro i;rw[pD];simp only[jJ,dK]
   split
   ·rename_i PL
    subst PL;have:=(av.1 h2).1;rw[h2];simp[this]
   ·rfl
  have hw:({w with heap:=w.heap.setIfInBounds b (.map (es.set j ⟨k0,val,s0⟩).toArray clock)}:World).heap[b]? =some (.map (es.set j ⟨k0,val,s0⟩).toArray clock):=by simp[cJ,dB]
  obtain⟨hW,pG,mn⟩:=h.LO h2 hw
  have iy:(Instr.keyThatStays ((Option.map (fun(e:MapEntry)=>e.key) es.toArray[j]?).getD k0) k0).run P w= .ok k0 w:=by
   rw[hj];simp only[fu,Option.getD_some];exact Kk.stays w jo
  refine .NX (fun _ h=>by cases h) rfl rfl _ (fun ρ hρ=>?_) (k _ _ clock hW (Or.inl ⟨pG,_,he,rfl⟩) mn (gr M hm));simp only[execOp,hρ x _ hx,hρ y _ hy,hρ z _ hz,Instr.mapUpdate,cQ,run_underlying ht,dr,cY h.at_,Kk.check w false jo,h1,iy,Fe,run_setObj_map h.at_];simp
theorem y4 {t e:TypeId} {zv key:Value} {size bytes:Nat} {kl:Lit} (ht:P.underlying t=some (.map kt e)) (Kk:Keyed P kt) (hi:TI P e zv size bytes) (jo:keyOf P kt key=some kl) (h:ew P kt w b es clock):
  ∃v,dD zv es key v∧∀(w:World) (ρ:Operand→Value) (dst:Option Tmp) (gd:Option (Nat×Bool)),ρ x= .map (some b)→ρ y=key→ew P kt w b es clock→(execOp ρ {dst,op:= .lookup t x y false,type:=ty,pos,after:=af,guard:=gd}).run P w= .ok (.value v) w:=by
 rcases Kk.find w jo es h.ok with⟨h1,h2⟩|⟨j,e0,h1,h2,h3⟩
 ·refine⟨zv,Or.inr ⟨h2,rfl⟩,fun w ρ dst gd hx hy h=>?_⟩;obtain⟨inf,i1,i2,_,_⟩:=hi.get;have hz:(zeroValue e).run P w= .ok zv w:=by simp[zeroValue,typeInfo,i1,i2]
  rcases Kk.find w jo es h.ok with⟨h1,_⟩|⟨j,e0,_,g2,g3⟩
  ·simp only[execOp,hx,hy,Instr.lookup,cQ,run_underlying ht,dr,cY h.at_,Sem.run_pure,Kk.check w _ jo,h1,hz];simp
  ·exact absurd g3 (h2 e0 (aL g2))
 ·refine⟨e0.val,Or.inl ⟨e0,aL h2,h3,rfl⟩,fun w ρ dst gd hx hy h=>?_⟩;rcases Kk.find w jo es h.ok with⟨_,g2⟩|⟨j',e1,g1,g2,g3⟩
  ·exact absurd h3 (g2 e0 (aL h2))
  ·have:e1=e0:=h.BW (aL g2) (aL h2) (g3.trans h3.symm);subst this;simp only[execOp,hx,hy,Instr.lookup,cQ,run_underlying ht,dr,cY h.at_,Sem.run_pure,Kk.check w _ jo,g1];simp
theorem bR.o8 {N:aA} {t e:TypeId} {zv key:Value} {size bytes:Nat} {kl:Lit} {dst:Option Tmp} {gd:Option (Nat×Bool)} (ht:P.underlying t=some (.map kt e)) (Kk:Keyed P kt) (hi:TI P e zv size bytes) (hx:ev L x=some (.map (some b))) (hy:ev L y=some key) (jo:keyOf P kt key=some kl) (h:ew P kt w b es clock) (hn: ¬N b):
  bR P N w L {dst,op:= .lookup t x y false,type:=ty,pos,after:=af,guard:=gd}:=fun ρ hρ v w' hk hr=>by
 obtain⟨v0,_,fS⟩:=y4 (x:=x) (y:=y) (ty:=ty) (pos:=pos) (af:=af) ht Kk hi jo h;have h':ew P kt w' b es clock:=⟨(hk.2 b (ak h.at_) hn).trans h.at_,h.born,h.lt,h.keys,h.ok⟩;rw[fS w ρ dst gd (hρ x _ hx) (hρ y _ hy) h]at hr;rw[fS w' ρ dst gd (hρ x _ hx) (hρ y _ hy) h'];injection hr with h1 h2
 rw[h1]
end
end Go.K
namespace Go.Proofs
open Go.Shelf
def Tryz.vw:Go.Shelf.Ren:=⟨fun|7=>62|10=>114|n=>n,fun|23=>100|26=>3|3=>109|28=>116|0=>0|27=>115|33=>158|4=>4|n=>n,fun|n=>n⟩
theorem Tryz.PZ:Go.Proofs.SlLaysZI.n7 Tryz.prog Tryz.vw:={
 mixed:=by kernel_rfl
 f7:=⟨Tryz.f62.name,by decide,Tryz.func62.trans (congrArg some (by kernel_rfl))⟩
 f10:=⟨Tryz.f114.name,by decide,Tryz.func114.trans (congrArg some (by kernel_rfl))⟩
 t0:=gG
 a0:=ru
 z0:=nZ
 v0:=iF
 t4:=ju
 a4:=Tryz.isAgg4
 z4:=Tryz.sizeOf4
 v4:=oM
 t23:=Tryz.underlying100
 a23:=Tryz.isAgg100
 z23:=Tryz.sizeOf100
 v23:=Tryz.zeroValue100
 t26:=ar
 a26:=rv
 z26:=n0
 v26:=iG
 t27:=Tryz.underlying115
 a27:=Tryz.isAgg115
 z27:=Tryz.sizeOf115
 v27:=Tryz.zeroValue115
 t28:=Tryz.underlying116
 a28:=Tryz.isAgg116
 z28:=Tryz.sizeOf116
 v28:=Tryz.zeroValue116
 t33:=Tryz.underlying158
 a33:=Tryz.isAgg158
 z33:=Tryz.sizeOf158
 v33:=Tryz.zeroValue158}
def Tryz.qK:Go.Shelf.Ren:=⟨fun|6=>61|8=>71|9=>113|11=>121|13=>166|12=>165|23=>210|24=>211|14=>202|15=>203|16=>204|17=>205|18=>206|19=>207|20=>118|21=>208|22=>209|25=>245|26=>246|27=>247|28=>248|29=>249|30=>168|31=>273|n=>n,fun|26=>3|28=>116|24=>32|0=>0|3=>3|37=>183|48=>273|50=>165|4=>4|40=>267|39=>266|45=>121|5=>5|9=>9|51=>295|55=>299|57=>327|58=>305|33=>158|n=>n,fun|n=>n⟩
theorem Tryz.Ie:Go.Proofs.SlLaysZI.n6 Tryz.prog Tryz.qK:={
 mixed:=by kernel_rfl
 f6:=⟨Tryz.f61.name,by decide,Tryz.func61.trans (congrArg some (by kernel_rfl))⟩
 f8:=⟨Tryz.f71.name,by decide,Tryz.func71.trans (congrArg some (by kernel_rfl))⟩
 f11:=⟨Tryz.f121.name,by decide,Tryz.func121.trans (congrArg some (by kernel_rfl))⟩
 t0:=gG
 a0:=ru
 z0:=nZ
 v0:=iF
 t24:=au
 a24:=Tryz.isAgg32
 z24:=Tryz.sizeOf32
 v24:=Tryz.zeroValue32
 t26:=ar
 a26:=rv
 z26:=n0
 v26:=iG
 t28:=Tryz.underlying116
 a28:=Tryz.isAgg116
 z28:=Tryz.sizeOf116
 v28:=Tryz.zeroValue116
 i26:=by kernel_rfl}
def Tryz.C1:Go.Shelf.Ren:=⟨fun|5=>113|8=>166|7=>165|19=>210|20=>211|10=>202|11=>203|12=>204|13=>205|14=>206|15=>207|16=>118|17=>208|18=>209|30=>245|31=>246|32=>247|33=>248|34=>249|35=>168|40=>273|n=>n,fun|23=>32|25=>3|3=>3|32=>183|22=>32|0=>0|44=>273|46=>165|4=>4|36=>267|35=>266|41=>121|5=>5|9=>9|53=>295|57=>299|63=>327|64=>305|n=>n,fun|n=>n⟩
theorem Tryz.JD:Go.Proofs.SlLaysM.n5 Tryz.prog Tryz.C1:={
 mixed:=by kernel_rfl
 f5:=⟨Tryz.f113.name,by decide,Tryz.func113.trans (congrArg some (by kernel_rfl))⟩
 f7:=⟨Tryz.f165.name,by decide,Tryz.func165.trans (congrArg some (by kernel_rfl))⟩
 f8:=Tryz.func166.trans (congrArg some (by kernel_rfl))
 f10:=⟨Tryz.f202.name,by decide,Tryz.func202.trans (congrArg some (by kernel_rfl))⟩
 f11:=⟨Tryz.f203.name,by decide,Tryz.func203.trans (congrArg some (by kernel_rfl))⟩
 f12:=⟨Tryz.f204.name,by decide,Tryz.func204.trans (congrArg some (by kernel_rfl))⟩
 f13:=⟨Tryz.f205.name,by decide,Tryz.func205.trans (congrArg some (by kernel_rfl))⟩
 f14:=⟨Tryz.f206.name,by decide,Tryz.func206.trans (congrArg some (by kernel_rfl))⟩
 f15:=⟨Tryz.f207.name,by decide,Tryz.func207.trans (congrArg some (by kernel_rfl))⟩
 f16:=⟨Tryz.f118.name,by decide,Tryz.func118.trans (congrArg some (by kernel_rfl))⟩
 f17:=⟨Tryz.f208.name,by decide,Tryz.func208.trans (congrArg some (by kernel_rfl))⟩
 f18:=⟨Tryz.f209.name,by decide,Tryz.func209.trans (congrArg some (by kernel_rfl))⟩
 f19:=Tryz.func210.trans (congrArg some (by kernel_rfl))
 f20:=Tryz.func211.trans (congrArg some (by kernel_rfl))
 f30:=⟨Tryz.f245.name,by decide,Tryz.func245.trans (congrArg some (by kernel_rfl))⟩
 f31:=Tryz.func246.trans (congrArg some (by kernel_rfl))
 f32:=Tryz.func247.trans (congrArg some (by kernel_rfl))
 f33:=⟨Tryz.f248.name,by decide,Tryz.func248.trans (congrArg some (by kernel_rfl))⟩
 f34:=⟨Tryz.f249.name,by decide,Tryz.func249.trans (congrArg some (by kernel_rfl))⟩
 f35:=⟨Tryz.f168.name,by decide,Tryz.func168.trans (congrArg some (by kernel_rfl))⟩
 f40:=⟨Tryz.f273.name,by decide,Tryz.func273.trans (congrArg some (by kernel_rfl))⟩
 t0:=gG
 a0:=ru
 z0:=nZ
 v0:=iF
 t3:=ar
 a3:=rv
 z3:=n0
 v3:=iG
 t4:=ju
 a4:=Tryz.isAgg4
 z4:=Tryz.sizeOf4
 v4:=oM
 t5:=b4
 a5:=Tryz.isAgg5
 z5:=Tryz.sizeOf5
 v5:=Tryz.zeroValue5
 t9:=aD
 a9:=ry
 z9:=n4
 v9:=iH
 t22:=au
 a22:=Tryz.isAgg32
 z22:=Tryz.sizeOf32
 v22:=Tryz.zeroValue32
 t23:=au
 a23:=Tryz.isAgg32
 z23:=Tryz.sizeOf32
 v23:=Tryz.zeroValue32
 t25:=ar
 a25:=rv
 z25:=n0
 v25:=iG
 t32:=Tryz.underlying183
 a32:=Tryz.isAgg183
 z32:=Tryz.sizeOf183
 v32:=Tryz.zeroValue183
 t35:=Tryz.underlying266
 a35:=Tryz.isAgg266
 z35:=Tryz.sizeOf266
 v35:=Tryz.zeroValue266
 t36:=Tryz.underlying267
 a36:=Tryz.isAgg267
 z36:=Tryz.sizeOf267
 v36:=Tryz.zeroValue267
 t41:=Tryz.underlying121
 a41:=Tryz.isAgg121
 z41:=Tryz.sizeOf121
 v41:=Tryz.zeroValue121
 t44:=Tryz.underlying273
 a44:=Tryz.isAgg273
 z44:=Tryz.sizeOf273
 v44:=Tryz.zeroValue273
 t46:=gH
 a46:=Tryz.isAgg165
 z46:=Tryz.sizeOf165
 v46:=Tryz.zeroValue165
 t53:=Tryz.underlying295
 a53:=Tryz.isAgg295
 z53:=Tryz.sizeOf295
 v53:=Tryz.zeroValue295
 t57:=Tryz.underlying299
 a57:=Tryz.isAgg299
 z57:=Tryz.sizeOf299
 v57:=Tryz.zeroValue299
 t63:=Tryz.underlying327
 a63:=Tryz.isAgg327
 z63:=Tryz.sizeOf327
 v63:=Tryz.zeroValue327
 t64:=Tryz.underlying305
 a64:=Tryz.isAgg305
 z64:=Tryz.sizeOf305
 v64:=Tryz.zeroValue305}
def Tryz.vz:Go.Shelf.Ren:=⟨fun|7=>112|10=>164|n=>n,fun|23=>167|26=>9|3=>107|28=>178|0=>0|27=>177|33=>182|4=>4|n=>n,fun|n=>n⟩
theorem Tryz.B8:Go.Proofs.SlLaysZ.n7 Tryz.prog Tryz.vz:={
 mixed:=by kernel_rfl
 f7:=⟨Tryz.f112.name,by decide,Tryz.func112.trans (congrArg some (by kernel_rfl))⟩
 f10:=⟨Tryz.f164.name,by decide,Tryz.func164.trans (congrArg some (by kernel_rfl))⟩
 t0:=gG
 a0:=ru
 z0:=nZ
 v0:=iF
 t4:=ju
 a4:=Tryz.isAgg4
 z4:=Tryz.sizeOf4
 v4:=oM
 t23:=fQ
 a23:=Tryz.isAgg167
 z23:=Tryz.sizeOf167
 v23:=Tryz.zeroValue167
 t26:=aD
 a26:=ry
 z26:=n4
 v26:=iH
 t27:=Tryz.underlying177
 a27:=Tryz.isAgg177
 z27:=Tryz.sizeOf177
 v27:=Tryz.zeroValue177
 t28:=Tryz.underlying178
 a28:=Tryz.isAgg178
 z28:=Tryz.sizeOf178
 v28:=Tryz.zeroValue178
 t33:=Tryz.underlying182
 a33:=Tryz.isAgg182
 z33:=Tryz.sizeOf182
 v33:=Tryz.zeroValue182}
def Tryz.qL:Go.Shelf.Ren:=⟨fun|6=>111|8=>162|9=>163|11=>200|13=>166|12=>201|23=>210|24=>211|14=>236|15=>237|16=>238|17=>239|18=>240|19=>241|20=>242|21=>243|22=>244|25=>269|26=>246|27=>247|28=>270|29=>271|30=>272|31=>284|n=>n,fun|26=>9|28=>178|24=>55|0=>0|3=>3|37=>183|48=>273|50=>165|4=>4|40=>267|39=>266|45=>121|5=>5|9=>9|51=>295|55=>299|57=>327|58=>305|33=>182|n=>n,fun|n=>n⟩
theorem Tryz.Ig:Go.Proofs.SlLaysZ.n6 Tryz.prog Tryz.qL:={
 mixed:=by kernel_rfl
 f6:=⟨Tryz.f111.name,by decide,Tryz.func111.trans (congrArg some (by kernel_rfl))⟩
 f8:=⟨Tryz.f162.name,by decide,Tryz.func162.trans (congrArg some (by kernel_rfl))⟩
 f11:=⟨Tryz.f200.name,by decide,Tryz.func200.trans (congrArg some (by kernel_rfl))⟩
 t0:=gG
 a0:=ru
 z0:=nZ
 v0:=iF
 t24:=a8
 a24:=Tryz.isAgg55
 z24:=Tryz.sizeOf55
 v24:=Tryz.zeroValue55
 t26:=aD
 a26:=ry
 z26:=n4
 v26:=iH
 t28:=Tryz.underlying178
 a28:=Tryz.isAgg178
 z28:=Tryz.sizeOf178
 v28:=Tryz.zeroValue178
 i26:=by kernel_rfl}
def Tryz.C2:Go.Shelf.Ren:=⟨fun|6=>163|8=>166|9=>201|19=>210|20=>211|21=>236|22=>237|23=>238|24=>239|25=>240|26=>241|27=>242|28=>243|29=>244|36=>269|31=>246|32=>247|37=>270|38=>271|39=>272|41=>284|n=>n,fun|27=>55|29=>9|3=>3|32=>183|26=>55|0=>0|44=>273|46=>165|4=>4|36=>267|35=>266|41=>121|5=>5|9=>9|53=>295|57=>299|63=>327|64=>305|n=>n,fun|n=>n⟩
theorem Tryz.JE:Go.Proofs.SlLaysM.n6 Tryz.prog Tryz.C2:={
 mixed:=by kernel_rfl
 f6:=⟨Tryz.f163.name,by decide,Tryz.func163.trans (congrArg some (by kernel_rfl))⟩
 f8:=Tryz.func166.trans (congrArg some (by kernel_rfl))
 f9:=⟨Tryz.f201.name,by decide,Tryz.func201.trans (congrArg some (by kernel_rfl))⟩
 f19:=Tryz.func210.trans (congrArg some (by kernel_rfl))
 f20:=Tryz.func211.trans (congrArg some (by kernel_rfl))
 f21:=⟨Tryz.f236.name,by decide,Tryz.func236.trans (congrArg some (by kernel_rfl))⟩
 f22:=⟨Tryz.f237.name,by decide,Tryz.func237.trans (congrArg some (by kernel_rfl))⟩
 f23:=⟨Tryz.f238.name,by decide,Tryz.func238.trans (congrArg some (by kernel_rfl))⟩
 f24:=⟨Tryz.f239.name,by decide,Tryz.func239.trans (congrArg some (by kernel_rfl))⟩
 f25:=⟨Tryz.f240.name,by decide,Tryz.func240.trans (congrArg some (by kernel_rfl))⟩
 f26:=⟨Tryz.f241.name,by decide,Tryz.func241.trans (congrArg some (by kernel_rfl))⟩
 f27:=⟨Tryz.f242.name,by decide,Tryz.func242.trans (congrArg some (by kernel_rfl))⟩
 f28:=⟨Tryz.f243.name,by decide,Tryz.func243.trans (congrArg some (by kernel_rfl))⟩
 f29:=⟨Tryz.f244.name,by decide,Tryz.func244.trans (congrArg some (by kernel_rfl))⟩
 f31:=Tryz.func246.trans (congrArg some (by kernel_rfl))
 f32:=Tryz.func247.trans (congrArg some (by kernel_rfl))
 f36:=⟨Tryz.f269.name,by decide,Tryz.func269.trans (congrArg some (by kernel_rfl))⟩
 f37:=⟨Tryz.f270.name,by decide,Tryz.func270.trans (congrArg some (by kernel_rfl))⟩
 f38:=⟨Tryz.f271.name,by decide,Tryz.func271.trans (congrArg some (by kernel_rfl))⟩
 f39:=⟨Tryz.f272.name,by decide,Tryz.func272.trans (congrArg some (by kernel_rfl))⟩
 f41:=⟨Tryz.f284.name,by decide,Tryz.func284.trans (congrArg some (by kernel_rfl))⟩
 t0:=gG
 a0:=ru
 z0:=nZ
 v0:=iF
 t3:=ar
 a3:=rv
 z3:=n0
 v3:=iG
 t4:=ju
 a4:=Tryz.isAgg4
 z4:=Tryz.sizeOf4
 v4:=oM
 t5:=b4
 a5:=Tryz.isAgg5
 z5:=Tryz.sizeOf5
 v5:=Tryz.zeroValue5
 t9:=aD
 a9:=ry
 z9:=n4
 v9:=iH
 t26:=a8
 a26:=Tryz.isAgg55
 z26:=Tryz.sizeOf55
 v26:=Tryz.zeroValue55
 t27:=a8
 a27:=Tryz.isAgg55
 z27:=Tryz.sizeOf55
 v27:=Tryz.zeroValue55
 t29:=aD
 a29:=ry
 z29:=n4
 v29:=iH
 t32:=Tryz.underlying183
 a32:=Tryz.isAgg183
 z32:=Tryz.sizeOf183
 v32:=Tryz.zeroValue183
 t35:=Tryz.underlying266
 a35:=Tryz.isAgg266
 z35:=Tryz.sizeOf266
 v35:=Tryz.zeroValue266
 t36:=Tryz.underlying267
 a36:=Tryz.isAgg267
 z36:=Tryz.sizeOf267
 v36:=Tryz.zeroValue267
 t41:=Tryz.underlying121
 a41:=Tryz.isAgg121
 z41:=Tryz.sizeOf121
 v41:=Tryz.zeroValue121
 t44:=Tryz.underlying273
 a44:=Tryz.isAgg273
 z44:=Tryz.sizeOf273
 v44:=Tryz.zeroValue273
 t46:=gH
 a46:=Tryz.isAgg165
 z46:=Tryz.sizeOf165
 v46:=Tryz.zeroValue165
 t53:=Tryz.underlying295
 a53:=Tryz.isAgg295
 z53:=Tryz.sizeOf295
 v53:=Tryz.zeroValue295
 t57:=Tryz.underlying299
 a57:=Tryz.isAgg299
 z57:=Tryz.sizeOf299
 v57:=Tryz.zeroValue299
 t63:=Tryz.underlying327
 a63:=Tryz.isAgg327
 z63:=Tryz.sizeOf327
 v63:=Tryz.zeroValue327
 t64:=Tryz.underlying305
 a64:=Tryz.isAgg305
 z64:=Tryz.sizeOf305
 v64:=Tryz.zeroValue305}
end Go.Proofs
namespace Go.K
open Go.Proofs
set_option maxRecDepth 10000
open Go.RowKit Go.Maps Go.Sort Go.Shelf
theorem LP (m:Nat):AnyZI.SortsIn Tryz.prog Tryz.qK Fence.wide m:=
 ⟨fun iT off cap ss W hH hblk iK=>callsIn_wide.2 (AnyM.slices_Sort_int Tryz.JD iT off cap ss W hH hblk iK),
  fun p cap W=>callsIn_wide.2 (AnyM.slices_Sort_int_none Tryz.JD p cap W)⟩
theorem Ih {R:Value→Option (DU×List MemPlace)} {M:aA} {w:World} {b bb:Nat} {m:List (Lit×DU)} (h:KK Tryz.prog 3 R M w b m) (JF:w.cell? ⟨bb,0,none⟩=some (.map (some b))) (hl:m.length≤1099511627776):
  Spec Tryz.prog 61 #[.func (.func 114) #[] #[.pointer (some ⟨bb,0,none⟩)]] w (fun v w'=>(∃ss:List Int,ss.Perm (intKeys (DataW.map m))∧w'.ownsRow w.heap.size 3 1 v ss.length ((ss.mergeSort (fun x y=>decide (x≤y))).map encZ)∧(v= .slice none 0 0↔ss=[]))∧Step M w M w' aC):=by
 have LQ:SeqGives Fence.wide 2 Tryz.prog 114 #[.pointer (some ⟨bb,0,none⟩)] encZ (fun ss=>ss.Perm (intKeys (DataW.map m))) (Maps.size (DataW.map m)) w:=
  AnyZI.keys_gives (ρ:=Tryz.vw) {Tryz.PZ with} Fence.wide _ trivial rfl (by omega) bb b m.length (DataW.map m) _ (World.block_lt_of_cell? w _ JF) JF h.own
 have iK:Maps.size (DataW.map m)=m.length:=rfl;have cS:=AnyZI.sorted_in Tryz.Ie Fence.wide 5 trivial trivial trivial trivial rfl (by omega) (LP _) (enters_of Tryz.func113 (by kernel_rfl) rfl) 114 #[.pointer (some ⟨bb,0,none⟩)] trivial (enters_of Tryz.func114 (by kernel_rfl) rfl) _ _ (by rw[iK];unfold maxLen;omega) (by rw[iK];omega) _ LQ;exact(callsIn_wide (n:=5)).1 (cS.mono fun e w' ⟨v,ss,h1,h2,h3,h4,h5⟩=>⟨v,h1,⟨ss,h2,h3,h4⟩,.sh h5 M⟩)
theorem LR (m:Nat):AnyZ.SortsIn Tryz.prog Tryz.qL Fence.wide m:=
 ⟨fun iT off cap ss W hH hblk iK=>callsIn_wide.2 (AnyM.slices_Sort_string Tryz.JE iT off cap ss W hH hblk iK),
  fun p cap W=>callsIn_wide.2 (AnyM.slices_Sort_string_none Tryz.JE p cap W)⟩
theorem AS (mb:Option Nat) (w:World):Spec Tryz.prog 112 #[.map mb] w (fun v w'=>v= .func (.func 164) #[] #[.pointer (some ⟨w.heap.size,0,none⟩)]∧w'=w.alloc (.cells #[.map mb] 167)):=
 (callsIn_wide (n:=5)).1 ((AnyZ.keys_in Tryz.B8 Fence.wide 5 trivial rfl mb w).mono fun e w' ⟨h1,h2⟩=>⟨_,h1,rfl,h2⟩)
theorem xl {R:Value→Option (DU×List MemPlace)} {M:aA} {w:World} {b bb:Nat} {m:List (Lit×DU)} (h:KK Tryz.prog 9 R M w b m) (JF:w.cell? ⟨bb,0,none⟩=some (.map (some b))) (hl:m.length≤1099511627776):
  Spec Tryz.prog 111 #[.func (.func 164) #[] #[.pointer (some ⟨bb,0,none⟩)]] w (fun v w'=>(∃ss:List (List UInt8),ss.Perm (strKeys (DataW.map m))∧w'.ownsRow w.heap.size 9 1 v ss.length ((ss.mergeSort (fun x y=>decide (x≤y))).map encStr)∧(v= .slice none 0 0↔ss=[]))∧Step M w M w' aC):=by
 have LQ:SeqGives Fence.wide 2 Tryz.prog 164 #[.pointer (some ⟨bb,0,none⟩)] encStr (fun ss=>ss.Perm (strKeys (DataW.map m))) (Maps.size (DataW.map m)) w:=
  AnyZ.keys_gives (ρ:=Tryz.vz) {Tryz.B8 with} Fence.wide _ trivial rfl (by omega) bb b m.length (DataW.map m) _ (World.block_lt_of_cell? w _ JF) JF h.own
 have iK:Maps.size (DataW.map m)=m.length:=rfl;have cS:=AnyZ.sorted_in Tryz.Ig Fence.wide 5 trivial trivial trivial trivial rfl (by omega) (LR _) (enters_of Tryz.func163 (by kernel_rfl) rfl) 164 #[.pointer (some ⟨bb,0,none⟩)] trivial (enters_of Tryz.func164 (by kernel_rfl) rfl) _ _ (by rw[iK];unfold maxLen;omega) (by rw[iK];omega) _ LQ;exact(callsIn_wide (n:=5)).1 (cS.mono fun e w' ⟨v,ss,h1,h2,h3,h4,h5⟩=>⟨v,h1,⟨ss,h2,h3,h4⟩,.sh h5 M⟩)
theorem uq {w w':World} {v:Value} {t:TypeId} (h:w'=w.alloc (.cells #[v] t)):w'.cell? ⟨w.heap.size,0,none⟩=some v:=by
 subst h;exact gD (cq w _) rfl
end Go.K
namespace Go.K
open Go.Proofs
set_option maxRecDepth 10000
theorem Ii {M:aA} {w0:World} {v:Value} {b:List Fd} (hM:Lt M w0) (hv:(RT.fd.sl).V M w0 b v) (zP:b.length≤1099511627776):
  Spec Tryz.prog 199 #[v] w0 (fun v' w'=>(RT.fd.sl).V M w' b v'∧Step M w0 M w' aC):=by
 obtain⟨a,cap,ur,hc,hl,hs⟩:=gX.1 hv;refine aX (args:=[_]) (fn:=Tryz.f199) Tryz.func199 rfl (n:=8) Tryz.ntmps199 (aj (ah (ai rfl rfl (ad (aj (aj (ah (ae rfl rfl (bz (v':= .slice a b.length cap) ur (Rg.rl aU rfl rfl rfl (ad ?_)))))))))));refine bI rfl (fun c1=>?_) (fun c1=>?_)
 ·refine aj (ah (ai rfl rfl (ad (aJ ?_))))
  have hb:b=[]:=by
   rcases hs with h|⟨_,_,h,_⟩
   ·exact h
   ·rw[c1]at h;cases h
  exact aO rfl rfl ⟨by rw[hb];exact jN,an _ _⟩
 ·refine aV (aj (ah ?_));refine Rg.RZ aU hU M rfl (fun a0 w1 s1=>?_);refine ae rfl rfl ?_;refine Rg.nv (A:=RT.fd) (hn:=by decide) (M:=M) aU hU rfl rfl rfl rfl hv s1.le (s1.lt hM) (by omega) (fun u2 w2 qY s2=>?_);refine ai rfl rfl (ad (aJ ?_));exact aO rfl rfl ⟨qY,s1.ay s2⟩
theorem th {M:aA} {w0:World} {v:Value} {b:List Int} (hM:Lt M w0) (hv:((RT.int .i64).sl).V M w0 b v) (zP:b.length≤1099511627776):
  Spec Tryz.prog 63 #[v] w0 (fun v' w'=>((RT.int .i64).sl).V M w' b v'∧Step M w0 M w' aC):=by
 obtain⟨a,cap,ur,hc,hl,hs⟩:=gX.1 hv;refine aX (args:=[_]) (fn:=Tryz.f63) Tryz.func63 rfl (n:=8) Tryz.ntmps63 (aj (ah (ai rfl rfl (ad (aj (aj (ah (ae rfl rfl (bz (v':= .slice a b.length cap) ur (Rg.rl au rfl rfl rfl (ad ?_)))))))))));refine bI rfl (fun c1=>?_) (fun c1=>?_)
 ·refine aj (ah (ai rfl rfl (ad (aJ ?_))))
  have hb:b=[]:=by
   rcases hs with h|⟨_,_,h,_⟩
   ·exact h
   ·rw[c1]at h;cases h
  exact aO rfl rfl ⟨by rw[hb];exact jN,an _ _⟩
 ·refine aV (aj (ah ?_));refine Rg.RZ au I3 M rfl (fun a0 w1 s1=>?_);refine ae rfl rfl ?_;refine Rg.nv (A:=(RT.int .i64)) (hn:=by decide) (M:=M) au I3 rfl rfl rfl rfl hv s1.le (s1.lt hM) (by omega) (fun u2 w2 qY s2=>?_);refine ai rfl rfl (ad (aJ ?_));exact aO rfl rfl ⟨qY,s1.ay s2⟩
theorem FB {M:aA} {w0:World} {v:Value} {b:List (List UInt8)} (hM:Lt M w0) (hv:(RT.str.sl).V M w0 b v) (zP:b.length≤1099511627776):
  Spec Tryz.prog 177 #[v] w0 (fun v' w'=>(RT.str.sl).V M w' b v'∧Step M w0 M w' aC):=by
 obtain⟨a,cap,ur,hc,hl,hs⟩:=gX.1 hv;refine aX (args:=[_]) (fn:=Tryz.f177) Tryz.func177 rfl (n:=8) Tryz.ntmps177 (aj (ah (ai rfl rfl (ad (aj (aj (ah (ae rfl rfl (bz (v':= .slice a b.length cap) ur (Rg.rl a8 rfl rfl rfl (ad ?_)))))))))));refine bI rfl (fun c1=>?_) (fun c1=>?_)
 ·refine aj (ah (ai rfl rfl (ad (aJ ?_))))
  have hb:b=[]:=by
   rcases hs with h|⟨_,_,h,_⟩
   ·exact h
   ·rw[c1]at h;cases h
  exact aO rfl rfl ⟨by rw[hb];exact jN,an _ _⟩
 ·refine aV (aj (ah ?_));refine Rg.RZ a8 I9 M rfl (fun a0 w1 s1=>?_);refine ae rfl rfl ?_;refine Rg.nv (A:=RT.str) (hn:=by decide) (M:=M) a8 I9 rfl rfl rfl rfl hv s1.le (s1.lt hM) (by omega) (fun u2 w2 qY s2=>?_);refine ai rfl rfl (ad (aJ ?_));exact aO rfl rfl ⟨qY,s1.ay s2⟩
theorem Ij {M:aA} {w0:World} {v:Value} {b:List Li} (hM:Lt M w0) (hv:(((RT.li).ptr).sl).V M w0 b v) (zP:b.length≤1099511627776):
  Spec Tryz.prog 178 #[v] w0 (fun v' w'=>(((RT.li).ptr).sl).V M w' b v'∧Step M w0 M w' aC):=by
 obtain⟨a,cap,ur,hc,hl,hs⟩:=gX.1 hv;refine aX (args:=[_]) (fn:=Tryz.f178) Tryz.func178 rfl (n:=8) Tryz.ntmps178 (aj (ah (ai rfl rfl (ad (aj (aj (ah (ae rfl rfl (bz (v':= .slice a b.length cap) ur (Rg.rl dO rfl rfl rfl (ad ?_)))))))))));refine bI rfl (fun c1=>?_) (fun c1=>?_)
 ·refine aj (ah (ai rfl rfl (ad (aJ ?_))))
  have hb:b=[]:=by
   rcases hs with h|⟨_,_,h,_⟩
   ·exact h
   ·rw[c1]at h;cases h
  exact aO rfl rfl ⟨by rw[hb];exact jN,an _ _⟩
 ·refine aV (aj (ah ?_));refine Rg.RZ dO ov M rfl (fun a0 w1 s1=>?_);refine ae rfl rfl ?_;refine Rg.nv (A:=((RT.li).ptr)) (hn:=by decide) (M:=M) dO ov rfl rfl rfl rfl hv s1.le (s1.lt hM) (by omega) (fun u2 w2 qY s2=>?_);refine ai rfl rfl (ad (aJ ?_));exact aO rfl rfl ⟨qY,s1.ay s2⟩
theorem y5 {M:aA} {d:Dc} {v0:Value} (w0:World) (hM:Lt M w0) (hv:RT.dc.V M w0 d v0) (hl:d.2.length≤1099511627776):
  Spec Tryz.prog 160 #[v0] w0 (fun v w=>RT.dc.V M w d v∧Step M w0 M w aC):=by
 have jH:=hM;refine aX (args:=[_]) (fn:=Tryz.f160) Tryz.func160 rfl (n:=9) Tryz.ntmps160 ?_;have S:Step M w0 M w0 aC:=(an _ _).cb (fun _ h=>h.elim) (fun _ h=>h.elim);refine aj (ah ?_);refine kd (A:=RT.dc) rfl rfl hM hv rfl (fun u0 w1 cz s0 _=>?_);replace hM:=s0.lt hM;have:=S.size;replace S:=S.ay s0;refine eX M kG rfl (fun lS Ay Lr Ls eK kJ=>?_);obtain⟨ed,j6⟩:∃M',M'=ins M lS:=⟨_,rfl⟩;rw[←j6]at kJ;have dT:ed lS:=by rw[j6];exact .inl rfl
 change Ay.heap[lS]? =some (.cells #[.int .i64 0,.slice none 0 0] _ _)at eK;replace cz:=cz.le (by decide) kJ.le;replace hM:=kJ.lt hM;have:=S.size;replace S:=S.ay kJ;refine ad (aj ?_);apply T.nM 4 [0,1] 1 aC mixed rfl rfl rfl rfl;intro DA EB;have jd:=EB ed;have:=ak eK;replace dT:=(jd.mem _ this).2 dT;replace eK:=jd.aI eK;replace cz:=cz.le (by decide) jd.le;replace hM:=jd.lt hM;have:=S.size;replace S:=S.ay jd;refine aH (M:=ed) (A:=RT.dc) (B:=RT.int .i64) aM rfl rfl I3 (by decide) (Pp) rfl rfl (by decide) (by assumption) (by repeat (first|exact aq _ _|refine aT (aY (by assumption)) ?_)) (fun uc jt=>?_);refine ad ⟨rfl,rfl,rfl,?_⟩;refine cc (M:=ed) ar rfl rfl (by assumption) (by repeat (first|exact aq _ _|refine aT (aY (by assumption)) ?_)) (fun Jv=>?_);refine ad ⟨rfl,rfl,rfl,?_⟩;refine aH (M:=ed) (A:=RT.dc) (B:=(RT.fd).sl) aM rfl rfl pY (by decide) (CP) rfl rfl (by decide) (by assumption) (by repeat (first|exact aq _ _|refine aT (aY (by assumption)) ?_)) (fun Ik ti=>?_);refine ad ⟨rfl,rfl,rfl,?_⟩;refine cf (M:=ed) aU rfl rfl rfl rfl rfl (by assumption) (by repeat (first|exact aq _ _|refine aT (aY (by assumption)) ?_)) (fun P0 FC=>?_);refine ad ⟨rfl,rfl,rfl,?_⟩;refine fz ?_;obtain⟨bb,oo,cs,ee,fr,rfl,kY,_⟩:=jt.float;refine⟨iz ⟨jw aM rfl I3 (by decide),⟨fJ rfl kY (fun h=>h),trivial⟩⟩,?_⟩;have kp:=kg aC DA;refine aP rfl rfl TW (Ii hM FC hl) (fun v4 w4 hc=>?_);obtain⟨p9,s4⟩:=hc;have:=ak eK;replace dT:=(s4.mem _ this).2 dT;replace eK:=s4.aI eK;replace cz:=cz.le (by decide) s4.le;replace hM:=s4.lt hM;have:=S.size;replace S:=S.ay s4;refine(fun(kp:eg _ _ _)=>ad ⟨rfl,rfl,fun _=>kp,?_⟩) (by first|exact kp|exact kp.pO (by assumption)|exact kp.goN (by assumption)|exact kp.go (by assumption) (fun _ _ h=>by first|exact h|exact h.elim))
 refine dZ (places:=[(0,1),(1,1)]) aM kG OC rfl ⟨_,_,rfl,rfl,_,_,rfl,rfl,rfl⟩ (out:=[_,_]) ⟨0,[_],rfl,rfl,by simp[Value.cells],1,[_],rfl,ik p9,by simp[Value.cells],rfl⟩ ?_;refine ad ⟨rfl,rfl,fun h=>absurd rfl h,?_⟩;have hd:RT.dc.V ed w4 d (.agg [.int .i64 d.1,v4].toArray):=dY (gj Jv) p9 rfl rfl rfl rfl;refine fc (M:=ed) (vs:=[.int .i64 d.1,v4]) kG rfl rfl (AR rfl hd) rfl rfl eK dT (fun w6 g6 s6=>?_);have:=ak eK;replace dT:=(s6.mem _ this).2 dT;replace cz:=cz.le (by decide) s6.le;replace p9:=p9.le s6.le;replace hd:=hd.le s6.le;replace hM:=s6.lt hM;have:=S.size;replace S:=S.trans s6 (fun k hk h=>by have h:_=_:=h;subst h;first|(exfalso;omega)|(show _≤_;omega)|exact⟨by first|omega|assumption,(S.mem _ hk).1 ((s6.mem _ (ak eK)).1 dT)⟩|exact .inl rfl|exact .inr rfl|exact .inr (.inl rfl)|exact .inr (.inr rfl)|exact rfl);have y6:=g6;clear eK;have eK:=y6;clear y6;refine ad ⟨rfl,rfl,fun h=>absurd rfl h,?_⟩;refine qp (aJ ?_);exact wy (vs:=[.int .i64 d.1,v4]) rfl rfl aM rfl kG rfl eK ⟨hd.le (Le.close jH S),S.back⟩
theorem FD {M:aA} {e:En} {v0:Value} (w0:World) (hM:Lt M w0) (hv:RT.en.V M w0 e v0) (hl:e.1.2.length≤1099511627776):
  Spec Tryz.prog 109 #[v0] w0 (fun v w=>RT.en.V M w e v∧Step M w0 M w aC):=by
 have jH:=hM;refine aX (args:=[_]) (fn:=Tryz.f109) Tryz.func109 rfl (n:=9) Tryz.ntmps109 ?_;have S:Step M w0 M w0 aC:=(an _ _).cb (fun _ h=>h.elim) (fun _ h=>h.elim);refine aj (ah ?_);refine kd (A:=RT.en) rfl rfl hM hv rfl (fun u0 w1 cz s0 _=>?_);replace hM:=s0.lt hM;have:=S.size;replace S:=S.ay s0;refine eX M yk rfl (fun lS Ay Lr Ls eK kJ=>?_);obtain⟨ed,j6⟩:∃M',M'=ins M lS:=⟨_,rfl⟩;rw[←j6]at kJ;have dT:ed lS:=by rw[j6];exact .inl rfl
 change Ay.heap[lS]? =some (.cells #[.int .i64 0,.slice none 0 0,.int .i64 0] _ _)at eK;replace cz:=cz.le (by decide) kJ.le;replace hM:=kJ.lt hM;have:=S.size;replace S:=S.ay kJ;refine ad (aj ?_);apply T.D4 [0,1,3,4,2,5,6] 4 [2,3] 1 aC mixed
 ·simp+decide only[uN,pR,ic,List.map_nil,tN,tO,List.map_toArray,fu,mC,List.idxOf_cons,cond_true,cond_false,Nat.reduceBEq,Nat.reduceAdd,beq_self_eq_true];rfl
 ·rfl
 ·rfl
 ·rfl
 ·rfl
 ·rfl
 ·rfl
 intro DA EB;have jd:=EB ed;have:=ak eK;replace dT:=(jd.mem _ this).2 dT;replace eK:=jd.aI eK;replace cz:=cz.le (by decide) jd.le;replace hM:=jd.lt hM;have:=S.size;replace S:=S.ay jd;refine aH (M:=ed) (A:=RT.en) (B:=RT.dc) cP rfl rfl kG (by decide) Pq rfl rfl (by decide) cz (aq _ _) (fun uc jt=>?_);refine ad ⟨rfl,rfl,rfl,?_⟩;refine cC (M:=ed) (A:=RT.dc) aM rfl kG (by decide) rfl rfl rfl jt (aq _ _) (fun ud kr=>?_);refine ad ⟨rfl,rfl,rfl,?_⟩;refine aH (M:=ed) (A:=RT.en) (B:=RT.int .i64) cP rfl rfl I3 (by decide) R8 rfl rfl (by decide) cz (aq _ _) (fun Ik ti=>?_);refine ad ⟨rfl,rfl,rfl,?_⟩;refine cc (M:=ed) ar rfl rfl (by assumption) (by repeat (first|exact aq _ _|refine aT (aY (by assumption)) ?_)) (fun FE=>?_);refine bz (v':= .int .i64 (e.2)) rfl ?_;replace FE: -9223372036854775808≤(e.2:Int)∧e.2≤9223372036854775807:=FE;refine ad ⟨rfl,rfl,rfl,?_⟩;refine fz ?_;obtain⟨bb,oo,cs,ee,fr,rfl,kY,_⟩:=ti.float;refine⟨iz ⟨jw cP rfl I3 (by decide),⟨fJ rfl kY (fun h=>h),trivial⟩⟩,?_⟩;have kp:=kg aC DA;refine aP rfl rfl TH (y5 _ hM kr hl) (fun v4 w4 hc=>?_);obtain⟨p9,s4⟩:=hc;obtain⟨uf,rfl⟩:=wY p9;have:=ak eK;replace dT:=(s4.mem _ this).2 dT;replace eK:=s4.aI eK;replace cz:=cz.le (by decide) s4.le;replace hM:=s4.lt hM;have:=S.size;replace S:=S.ay s4;refine(fun(kp:eg _ _ _)=>ad ⟨rfl,rfl,fun _=>kp,?_⟩) (by first|exact kp|exact kp.pO (by assumption)|exact kp.goN (by assumption)|exact kp.go (by assumption) (fun _ _ h=>by first|exact h|exact h.elim));refine dZ (places:=[(0,2),(2,1)]) cP yk R2 rfl ⟨_,_,rfl,rfl,_,_,rfl,rfl,rfl⟩ (out:=[_,_,_]) ⟨0,[_,_],rfl,rfl,by simp[Value.cells],2,[_],rfl,rfl,by simp[Value.cells],rfl⟩ ?_
 refine ad ⟨rfl,rfl,fun h=>absurd rfl h,?_⟩;have hd:RT.en.V ed w4 e (.agg [.int .i64 e.1.1,uf,.int .i64 e.2].toArray):=BS (p:=e.1) p9 FE;refine fc (M:=ed) (vs:=[.int .i64 e.1.1,uf,.int .i64 e.2]) yk rfl rfl (AR rfl hd) rfl rfl eK dT (fun w6 g6 s6=>?_);have:=ak eK;replace dT:=(s6.mem _ this).2 dT;replace cz:=cz.le (by decide) s6.le;replace p9:=p9.le s6.le;replace hd:=hd.le s6.le;replace hM:=s6.lt hM;have:=S.size;replace S:=S.trans s6 (fun k hk h=>by have h:_=_:=h;subst h;first|(exfalso;omega)|(show _≤_;omega)|exact⟨by first|omega|assumption,(S.mem _ hk).1 ((s6.mem _ (ak eK)).1 dT)⟩|exact .inl rfl|exact .inr rfl|exact .inr (.inl rfl)|exact .inr (.inr rfl)|exact rfl);have y6:=g6;clear eK;have eK:=y6;clear y6;refine ad ⟨rfl,rfl,fun h=>absurd rfl h,?_⟩;refine qp (aJ ?_);exact wy (vs:=[.int .i64 e.1.1,uf,.int .i64 e.2]) rfl rfl cP rfl yk rfl eK ⟨hd.le (Le.close jH S),S.back⟩
end Go.K
namespace Go.K
open Go.Proofs
namespace TKBldB
theorem P1:TI Tryz.prog 227 (.map none) 1 8:=by unfold TI;kernel_rfl
theorem Vu:Enters Tryz.prog 155:=enters Tryz.func155 rfl (by decide)
theorem Vv:Enters Tryz.prog 156:=enters Tryz.func156 rfl (by decide)
theorem Vw:Enters Tryz.prog 157:=enters Tryz.func157 rfl (by decide)
end TKBldB
open TKBldB
set_option maxRecDepth 10000
theorem IJ.bg {bt mb B:Nat} {ts:List (Fd×Nat)} {M M':aA} {w w':World} (h:IJ bt mb B ts M w) (s:Step M w M' w' aC):IJ bt mb B ts M' w':=by
 obtain⟨gb,dz,dU,hB,B2,es,clock,hW,hI⟩:=h;exact⟨s.aI gb,(s.mem _ (ak gb)).2 dz,(s.mem _ (ak hW.at_)).2 dU,hB,B2,es,clock,hW.bg s,hI.bg s⟩
theorem FF {bt mb B:Nat}:LC Tryz.prog 155 [.pointer (some ⟨bt,0,none⟩)] B (IJ bt mb B):=
 ⟨Vu,fun ts M w M' w' h s=>h.bg s,fun ts M w t i hJ hM h1 h2 hi h4=>CX w hM h1 h2 hi h4 hJ⟩
theorem FG (M:aA) (w:World) (B:Nat):CW M w B [] [] where
 o t v hv:=by
  rcases hv with⟨e,he,_⟩|⟨_,rfl⟩
  ·cases he
  ·exact ec _ _ _ _ _
 a t t' v v' _ hv _:=by
  rcases hv with⟨e,he,_⟩|⟨_,rfl⟩
  ·cases he
  ·exact(iC.nil v').symm
 k:=rfl
theorem y7:∀(ts:List (Fd×Nat)) (l:List Fd),(ts.foldl (fun l p=>if p.1∈l then l else l++[p.1]) l).length≤l.length+ts.length
 |[],l=>by simp
 |p::ts,l=>by
  rw[List.foldl_cons,cr];refine fK (y7 ts _) ?_
  split
  ·omega
  ·rw[bJ];simp;omega
theorem Il (M:aA) (w:World) (M':aA) (w':World) (x:Fd) (vs:List Value) (h:RT.fd.R M w x vs):RT.fd.R M' w' x vs:=h
theorem y8 {M:aA} {d:Dc} {v0:Value} (w0:World) (hM:Lt M w0) (hv:RT.dc.V M w0 d v0) (hF:iA d) (hl:∀f∈d.2,f.1.length≤900000∧f.2.length≤900000):
  Spec Tryz.prog 108 #[v0] w0 (fun v w=>∃a b,v= .tuple #[a,b]∧(RT.fd.sl).V M w (cD (b5 d.2)) a∧(((RT.int .i64).sl).sl).V M w ((cD (b5 d.2)).map (posOf (b5 d.2))) b∧Step M w0 M w aC):=by
 have jH:=hM;have JG:=hF.many;refine aX (args:=[_]) (fn:=Tryz.f108) Tryz.func108 rfl (n:=31) Tryz.ntmps108 ?_;have S:Step M w0 M w0 aC:=(an _ _).cb (fun _ h=>h.elim) (fun _ h=>h.elim);refine aj (ah ?_);refine kd (A:=RT.dc) rfl rfl hM hv rfl (fun u0 w1 cz s0 _=>?_);replace hM:=s0.lt hM;have:=S.size;replace S:=S.ay s0;refine ai rfl rfl (ai rfl rfl (ad (aj (ah ?_))));refine Rg.yO M jK rfl (fun mb w1m p1 q1 gW s1=>?_);obtain⟨LS,FH⟩:∃M',M'=ins M mb:=⟨_,rfl⟩;rw[←FH]at s1;have xm:LS mb:=by rw[FH];exact .inl rfl
 replace cz:=cz.le (by decide) s1.le;replace hM:=s1.lt hM;have:=S.size;replace S:=S.ay s1;refine eX LS P1 rfl (fun C3 H2 acX acY uh oE=>?_);obtain⟨FI,FJ⟩:∃M',M'=ins LS C3:=⟨_,rfl⟩;rw[←FJ]at oE;have tj:FI C3:=by rw[FJ];exact .inl rfl
 change H2.heap[C3]? =some (.cells #[.map none] _ _)at uh;replace cz:=cz.le (by decide) oE.le;replace xm:=(oE.mem _ (ak gW.at_)).2 xm;replace gW:=gW.bg oE;replace hM:=oE.lt hM;have:=S.size;replace S:=S.ay oE;refine bQ (M:=FI) P1 rfl rfl uh rfl (rfl) tj (fun H0 fF mq=>?_)
 try simp only[List.setIfInBounds_toArray,List.set_cons_zero,List.set_cons_succ]at fF
 have:=ak uh;replace tj:=(mq.mem _ this).2 tj;replace cz:=cz.le (by decide) mq.le;replace xm:=(mq.mem _ (ak gW.at_)).2 xm;replace gW:=gW.step mq (by show¬(_=_);omega);replace hM:=mq.lt hM;have:=S.size;replace S:=S.trans mq (fun k hk h=>by have h:_=_:=h;subst h;first|(exfalso;omega)|(show _≤_;omega)|exact⟨by first|omega|assumption,(S.mem _ hk).1 ((mq.mem _ (ak uh)).1 tj)⟩|exact .inl rfl|exact .inr rfl|exact .inr (.inl rfl)|exact .inr (.inr rfl)|exact rfl);have JH:=fF;clear uh;have uh:=JH;clear JH;refine ad (aj (ah ?_));refine cC (M:=FI) (A:=RT.dc) aM rfl kG (by decide) rfl rfl rfl (by assumption) (by repeat (first|exact aq _ _|refine aT (aY (by assumption)) ?_)) (fun acZ B9=>?_);refine ia (xs:=[]) (ys:=[.tmp 4]) rfl rfl rfl ?_;refine aP rfl rfl OG (vh (cap:=[.pointer (some ⟨C3,0,none⟩)]) (B:=w0.heap.size) _ hM B9 hl hF.few (FF (mb:=mb)) ⟨uh,tj,xm,by omega,by omega,[],0,gW,FG _ _ _⟩) (fun r2 w2 hc=>?_);obtain⟨M2,Jl,⟨gb,_,_,_,_,es,clock,hW,hI⟩,s2⟩:=hc;replace S:=S.jP s2 (bh _);have mv:∀t v,dD iO es (kv t) v→(((RT.int .i64).sl)).V M w2 (posOf (b5 d.2) t) v:=fun t v h=>(hI.o t v h).close jH S (by have:=qd (b5 d.2) t;omega)
 replace S:=S.back;replace hM:=S.lt jH
 have P2:∀e∈es,∃t∈seen (b5 d.2),e.key=kv t:=fun e he=>by
  have:e.key∈(seen (b5 d.2)).map kv:=by rw[←hI.k];exact fh he
  obtain⟨t,h1,h2⟩:=cF.1 this;exact⟨t,h1,h2.symm⟩
 have vY:∀t∈seen (b5 d.2),Hb t∧t.1.length≤12∧t.2.length≤30:=fun t ht=>by
  obtain⟨p,hp,rfl⟩:=cF.1 (ph.1 ht);exact⟨hF.Ia p hp,hF.small p hp⟩
 have og:(seen (b5 d.2)).length≤500:=fK (y7 _ _) (by simp;omega);have uE:es.length≤500:=by have:=congrArg List.length hI.k;simp at this;omega
 refine ad (aj (ah (aE jK rfl rfl rfl gb rfl ?_)));refine aP rfl rfl Vw (AL _) (fun r3 w3 hc=>?_);obtain⟨bs,rfl,Fo,_,s3⟩:=hc;replace s3:=s3.toAny M;replace hW:=hW.bg s3;replace gb:=s3.aI gb;replace mv:=fun t v h=>(mv t v h).le s3.le
 replace hM:=s3.lt hM;have:=S.size;replace S:=S.ay s3
 refine aP rfl rfl Vv (yU _ (fun e he=>by
  obtain⟨t,h1,h2⟩:=P2 e he;exact⟨t,h2,by have:=(vY t h1).2;omega,by have:=(vY t h1).2;omega⟩) (fun e he t ht=>by
  obtain⟨t',h1,h2⟩:=P2 e he;obtain rfl:=qc (ht.symm.trans h2);exact⟨(vY _ h1).1,by have:=(vY _ h1).2;omega,by have:=(vY _ h1).2;omega⟩) (by omega) (fun ts mD lr=>by
  have:=mD.length_le_of_subset (l₂:=seen (b5 d.2)) (fun t ht=>(pb hI.k).1 (lr t ht));omega) Fo hW) (fun r4 w4 hc=>?_)
 obtain⟨us,mD,lr,Kp,PS,s4⟩:=hc;obtain rfl:=yX hF.Ia mD (fun t=>(lr t).trans (pb hI.k)) Kp;have NF:(cD (b5 d.2)).length≤500:=fK (mD.length_le_of_subset (l₂:=seen (b5 d.2)) (fun t ht=>ph.2 ((iQ hF.Ia).1 ht))) og;replace s4:=s4.toAny M;have xF:(RT.fd.sl).V M w4 (cD (b5 d.2)) r4:=PS.tell Il (fun b hb h=>by have:=(PS.base b hb).1;have:=hM b h;omega) (by omega);clear PS;replace hW:=hW.bg s4;replace gb:=s4.aI gb;replace mv:=fun t v h=>(mv t v h).le s4.le
 replace hM:=s4.lt hM;have:=S.size;replace S:=S.ay s4;refine ai rfl rfl (ad (aj (ah (ai rfl rfl (ad (aj (aj (ah (ae rfl rfl (bT iB rfl xF rfl (ae rfl rfl ?_)))))))))));refine ad (bj ?_);refine dF (σ:=Nat×Value) (fun q=>[(4,.pointer (some ⟨C3,0,none⟩)),(5,r4),(6,q.2),(16,r4),(17,.int .i64 ((cD (b5 d.2)).length:Int)),(18,.int .i64 (q.1:Int))]) (fun q w=>∃M',Lt M' w∧Step M w0 M' w aC∧Own ((RT.int .i64).sl) 32 M' w w0.heap.size q.2 (((cD (b5 d.2)).take q.1).map (posOf (b5 d.2)))∧(RT.fd.sl).V M' w (cD (b5 d.2)) r4∧ew Tryz.prog 47 w mb es clock∧w.heap[C3]? =some (.cells #[.map (some mb)] 227 (0,0))∧(∀t v,dD iO es (kv t) v→(((RT.int .i64).sl)).V M' w (posOf (b5 d.2) t) v)∧q.1≤(cD (b5 d.2)).length) (fun q=>(cD (b5 d.2)).length-q.1) (0,.slice none 0 0) (.cons rfl (.cons rfl (.cons rfl (.cons rfl (.cons rfl (.cons rfl .nil)))))) ?_ ?_
 ·exact⟨M,hM,S,ec _ _ _ _ _,xF,hW,gb,mv,bH _⟩
 ·clear hM xF hW gb mv S;rintro⟨i,u⟩ w ⟨M1,hM,S,ho,xF,hW,gb,mv,hi⟩;dsimp only at ho hi ⊢;refine aj (ah (cd rfl rfl rfl (ad (aj ?_))));refine bI rfl (fun c6=>?_) (fun c6=>?_)
  ·refine aV (aj (bj (aj (ah ?_))));refine dq (M:=M1) iB qE rfl rfl rfl xF (aq _ _) (by omega) (fun Pu t Vx BV=>?_);rw[az]at Vx;have Ht:=aL Vx;have D3:=vY t (ph.2 ((iQ hF.Ia).1 Ht));refine cC (M:=M1) (A:=RT.fd) b9 rfl qE (by decide) rfl rfl rfl BV (aq _ _) (fun UZ Jr=>?_);refine oc (A:=RT.fd) (M:=M1) qE rfl rfl rfl rfl rfl (by assumption) (aq _ _) hM (fun Vy ac0 vB AT ac1=>?_);replace xF:=xF.le AT.le;replace ho:=ho.bg AT;replace hW:=hW.bg AT;replace gb:=AT.aI gb;replace mv:=fun t v h=>(mv t v h).le AT.le
   replace hM:=AT.lt hM;have:=S.size;replace S:=S.ay AT;refine ad (ah (ae rfl rfl (aE jK rfl rfl rfl gb rfl ?_)));refine cC (M:=M1) (A:=RT.fd) b9 rfl qE (by decide) rfl rfl rfl vB (aq _ _) (fun ac2 P3=>?_);obtain rfl:=kI P3;obtain⟨kl,Ct⟩:=Fj t (by omega) (by omega);refine Rg.o8 jK vg nF rfl rfl rfl Ct hW (fun v8 ur=>?_);have Ca:=mv _ _ ur;clear ur;refine eQ (A:=((RT.int .i64).sl)) (hn:=by decide) (M:=M1) Tryz.underlying171 nF (by decide) rfl rfl hM (Ca) (.inr ⟨rfl,rfl⟩) (fun ac3 ac4 FK y9=>?_);replace xF:=xF.le y9.le;replace vB:=vB.le (by decide) y9.le;replace ho:=ho.bg y9;replace hW:=hW.bg y9;replace gb:=y9.aI gb;replace mv:=fun t v h=>(mv t v h).le y9.le
   replace hM:=y9.lt hM;have:=S.size;replace S:=S.ay y9;refine cO (M:=M1) (base:=w0.heap.size) Tryz.underlying171 nF rfl rfl rfl rfl ho FK (aq _ _) (by simp;omega) (by simp;omega) (S.size) (fun Vz VA ac5 P4 za=>?_);replace xF:=xF.le za.le;replace vB:=vB.le (by decide) za.le;replace FK:=FK.le za.le;replace hW:=hW.step za (fun h=>ho.iP hW.at_ h);replace gb:=za.bF gb (fun h=>ho.eL gb (by decide) h);replace mv:=fun t v h=>(mv t v h).le za.le
   replace hM:=za.lt hM;have:=S.size;replace S:=S.dh za ho (bh _);replace ho:=P4;refine ai rfl rfl (ad (ah (bB rfl rfl rfl (by omega) (ae rfl rfl (ad ?_)))));refine⟨rfl,(i+1,Vz),(.cons rfl (.cons rfl (.cons rfl (.cons rfl (.cons rfl (.cons rfl .nil)))))),?_,?_⟩
   ·exact⟨VA,hM,S,by rw[cg,Vx,cZ,jx];exact ho,xF,hW,gb,mv,by dsimp only;omega⟩
   ·dsimp only;omega
  ·refine cN (aj (ah (ae rfl rfl (ae rfl rfl (ai rfl rfl (ai rfl rfl (ad (aJ ?_))))))));have e:(cD (b5 d.2)).take i=cD (b5 d.2):=bp (by omega);rw[e]at ho;exact eH rfl rfl rfl ⟨_,_,rfl,xF.le (Le.close jH S),ho.close jH S (by simp;omega),S.back⟩
end Go.K
namespace Go.K
def JI {α:Type} (A:RT α) (M:aA) (w:World) (v:Value) (x:α):Prop:=∃b o vs,v= .pointer (some ⟨b,o,none⟩)∧A.R M w x vs∧w.rangeAt b o vs
theorem Own.elem {α:Type} {A:RT α} {e:TypeId} {M:aA} {w:World} {base:Nat} {v:Value} {xs:List α} (h:Own A e M w base v xs) (hA:0<A.n) {i:Nat} {x:α} (hx:xs[i]? =some x):
  ∃g cap vs,v= .slice (some ⟨g,0,none⟩) xs.length cap∧M g∧A.R M w x vs∧w.rangeAt g (i*A.n) vs:=by
 obtain⟨⟨C,hr,ha⟩,hm⟩:=h;rcases hr.2 with⟨h1,h2⟩|⟨g,cap,cur,h1,h2,h3,h4,h5,h6,h7⟩
 ·have:xs=[]:=List.eq_nil_of_length_eq_zero h2;subst this;simp at hx
 ·obtain⟨vs,hv,hj⟩:=ha.at_ i x hx;refine⟨g,cap,vs,h1,hm g (by rw[h1];rfl),hv,fun j u hu=>?_⟩;have h8:=hj j u hu;rw[←h7,dE]at h8
  split at h8
  ·simp only[World.cell?,h3];simpa using h8
  ·cases h8
section
variable {P:Program} {r:Option Nat} {n:Nat} {L:Sl} {ds:List Deferred} {w:World} {K:Kt} {ops:Array Oper} {rest:List Oper} {d:Nat} {x y:Operand} {ty:TypeId} {pos:String} {af:Array Edge} {α:Type} {A:RT α}
theorem Rg.VB {t e e':TypeId} {i:Operand} {κ:IntKind} {j:Int} {M:aA} {base:Nat} {xs:List α} {v zv:Value} {bytes:Nat} (ht:P.underlying t=some (.slice e)) (hi:TI P e zv A.n bytes) (hA:0<A.n)
  (hx:ev L x=some v) (DM:ev L i=some (.int κ j)) (hd:Nat.blt d n=true) (ho:Own A e' M w base v xs) (hj:0≤j∧j<xs.length)
  (k:∀u a,xs[j.toNat]? =some a→JI A M w u a→Rg P r n ops rest ((d,u)::L) ds w K):
  Rg P r n ops ({dst:=some d,op:= .indexAddr t x i,type:=ty,pos,after:=af,guard:=none}::rest) L ds w K:=by
 have dB:j.toNat<xs.length:=by omega
 obtain⟨g,cap,vs,rfl,hm,h1,h2⟩:=ho.elem hA (aN dB);refine .op (fun _ h=>by cases h) rfl rfl hd (.pointer (some ⟨g,0+j.toNat*A.n,none⟩)) w (fun ρ h=>?_) (k _ xs[j.toNat] (aN dB) ⟨g,_,vs,rfl,h1,by rw[Nat.zero_add];exact h2⟩);simp only[execOp,h x _ hx,h i _ DM];simp[Instr.indexAt,run_underlying ht,asIntOf,hj,hi.sizeOf,Addr.add_mid]
theorem Rg.FL {t:TypeId} {fs:TypeDesc} {zv:Value} {bytes:Nat} {M:aA} {p:Value} {a:α} (hu:P.underlying t=some fs) (hf:fs.isRow=true) (hi:TI P t zv A.n bytes) (hg:A.agg=true)
  (hx:ev L x=some p) (hd:Nat.blt d n=true) (hp:JI A M w p a) (k:∀v,A.V M w a v→Rg P r n ops rest ((d,v)::L) ds w K):
  Rg P r n ops ({dst:=some d,op:= .load t x,type:=ty,pos,after:=af,guard:=none}::rest) L ds w K:=by
 obtain⟨b,o,vs,rfl,h1,h2⟩:=hp;refine .op (fun _ h=>by cases h) rfl rfl hd (.agg vs.toArray) w (fun ρ h=>?_) (k _ ⟨vs,h1,by simp[RT.val,hg]⟩);simp only[execOp,h x _ hx];obtain⟨i,uF,_,zO,_⟩:=hi.get;have:=run_loadAt_mid (P:=P) w b o t vs fs h2 hu hf (by simp[uF,zO,A.len h1]);simp[this]
end
end Go.K
namespace Go.K
open Go.Proofs
namespace TKBldC
theorem VC:TI Tryz.prog 169 (.agg #[(.slice none 0 0),(.map none),(.int .i64 0),(.int .i64 0)]) 4 48:=by unfold TI;kernel_rfl
theorem VD:placesOf Tryz.prog 169=[(0,1),(1,1),(2,1),(3,1)].map some:=by kernel_rfl
end TKBldC
open TKBldC
set_option maxRecDepth 10000
open Go.Maps (Keyed)
theorem pv:Keyed Tryz.prog 9:=Go.Maps.string_keyed aD
theorem FM (k:List UInt8) (h:k.length≤140737488355328):∃l,keyOf Tryz.prog 9 (sv k)=some l:=by
 have e1:(⟨k.toArray⟩:ByteArray).size=k.length:=by simp[ByteArray.size]
 exact⟨_,Go.WideMaps.keyOf_string_mk aD (by rw[e1];unfold maxLen;omega)⟩
structure zb (Z:aA) (M:aA) (w:World) (B:Nat) (f:List UInt8→List Po) (K:List UInt8→Prop) (es:List MapEntry):Prop where
 o:∀k v,dD iO es (sv k) v→Own RT.po 153 M w B v (f k)
 a:∀k k' v v',k≠k'→dD iO es (sv k) v→dD iO es (sv k') v'→iC v v'
 k:∀x,(∃e∈es,e.key=sv x)↔K x
 z:∀k v c,dD iO es (sv k) v→v.ownBlock=some c→Z c
theorem zb.step {Z M M' N:aA} {w w':World} {B:Nat} {f:List UInt8→List Po} {K:List UInt8→Prop} {es:List MapEntry} (h:zb Z M w B f K es) (s:Step M w M' w' N) (hn:∀k v b,dD iO es (sv k) v→v.ownBlock=some b→¬N b):zb Z M' w' B f K es:=
 ⟨fun k v hv=>(h.o k v hv).step s fun b hb=>hn k v b hv hb,h.a,h.k,h.z⟩
theorem zb.bg {Z M M':aA} {w w':World} {B:Nat} {f:List UInt8→List Po} {K:List UInt8→Prop} {es:List MapEntry} (h:zb Z M w B f K es) (s:Step M w M' w' aC):zb Z M' w' B f K es:=h.step s fun _ _ _ _ _ h=>h
theorem zb.congr {Z M:aA} {w:World} {B:Nat} {f f':List UInt8→List Po} {K K':List UInt8→Prop} {es:List MapEntry} (h:zb Z M w B f K es) (hf:∀k,f' k=f k) (hK:∀k,K' k↔K k):zb Z M w B f' K' es:=
 ⟨fun k v hv=>by rw[hf];exact h.o k v hv,h.a,fun x=>(h.k x).trans (hK x).symm,h.z⟩
theorem zb.C4 {Z Z' M:aA} {w:World} {B:Nat} {f:List UInt8→List Po} {K:List UInt8→Prop} {es:List MapEntry} (h:zb Z M w B f K es) (hz:∀c,Z c→c<w.heap.size→Z' c):zb Z' M w B f K es:=
 ⟨h.o,h.a,h.k,fun k v c hv hc=>hz c (h.z k v c hv hc) ((h.o k v hv).base c hc).2⟩
theorem zb.put {Z M M2:aA} {w w1 w2:World} {B mb c:Nat} {mes:Array MapEntry} {f:List UInt8→List Po} {K:List UInt8→Prop} {es LU:List MapEntry} {k0:List UInt8} {v0 v1:Value} {ps:List Po} (h:zb Z M w B f K es) (hZ:∀c,w.heap.size≤c→Z c) (G2:dD iO es (sv k0) v0)
  (Sm:Own RT.po 153 (jj M v1) w1 B v1 (f k0++ps)) (s1:Step M w (jj M v1) w1 (iT v0)) (hF:∀b,v1.ownBlock=some b→w.heap.size≤b∨v0.ownBlock=some b) (hmb:w1.heap[mb]? =some (.map mes c)) (s2:Step (jj M v1) w1 M2 w2 (fun k=>k=mb))
  (xh:∀zv gw v',dD zv LU gw v'↔(gw=sv k0∧v'=v1)∨(gw≠sv k0∧dD zv es gw v')) (l9:(LU.map (·.key)=es.map (·.key)∧∃e∈es,e.key=sv k0)∨(LU.map (·.key)=es.map (·.key)++[sv k0]∧∀e∈es,e.key≠sv k0)):
  zb Z M2 w2 B (fun k=>if k=k0 then f k0++ps else f k) (fun x=>K x∨x=k0) LU:=by
 have nW:∀k v,dD iO LU (sv k) v→(k=k0∧v=v1)∨(k≠k0∧dD iO es (sv k) v):=fun k v hv=>by
  rcases(xh iO (sv k) v).1 hv with⟨h3,h4⟩|⟨h3,h4⟩
  ·exact .inl ⟨xj h3,h4⟩
  ·exact .inr ⟨fun e=>h3 (by rw[e]),h4⟩
 have H7:∀k v,k≠k0→dD iO es (sv k) v→iC v1 v:=fun k v eG hv=>(h.a k k0 v v0 eG hv G2).symm.grown hF (fun b hb=>((h.o k v hv).base b hb).2)
 have H8:∀k v,k≠k0→dD iO es (sv k) v→Own RT.po 153 (jj M v1) w1 B v (f k):=fun k v eG hv=>(h.o k v hv).step s1 (fun b hb hk=>h.a k k0 v v0 eG hv G2 b hb hk)
 have Tu:∀{v:Value} {xs:List Po},Own RT.po 153 (jj M v1) w1 B v xs→∀b,v.ownBlock=some b→¬b=mb:=fun ho b hb e=>ho.iP hmb (by rw[←e];exact hb)
 refine⟨fun k v hv=>?_,fun k k' v v' eG hv nL=>?_,fun x=>?_,fun k v c hv hc=>?_⟩
 ·rcases nW k v hv with⟨rfl,rfl⟩|⟨h3,h4⟩
  ·rw[if_pos rfl];exact Sm.step s2 (Tu Sm)
  ·rw[if_neg h3];exact(H8 k v h3 h4).step s2 (Tu (H8 k v h3 h4))
 ·rcases nW k v hv with⟨rfl,rfl⟩|⟨h3,h4⟩
  ·rcases nW k' v' nL with⟨rfl,_⟩|⟨h5,h6⟩
   ·exact absurd rfl eG
   ·exact H7 k' v' h5 h6
  ·rcases nW k' v' nL with⟨rfl,rfl⟩|⟨h5,h6⟩
   ·exact(H7 k v h3 h4).symm
   ·exact h.a k k' v v' eG h4 h6
 ·have lr:(∃e∈LU,e.key=sv x)↔sv x∈LU.map (·.key):=by simp
  have VE:(∃e∈es,e.key=sv x)↔sv x∈es.map (·.key):=by simp
  rw[lr,←h.k x,VE];rcases l9 with⟨h3,e,he,hk⟩|⟨h3,_⟩
  ·rw[h3];constructor
   ·exact .inl
   ·rintro(h4|rfl)
    ·exact h4
    ·rw[←hk];exact fh he
  ·rw[h3,dm,cE];constructor
   ·rintro(h4|h4)
    ·exact .inl h4
    ·exact .inr (xj h4)
   ·rintro(h4|rfl)
    ·exact .inl h4
    ·exact .inr rfl
 ·rcases nW k v hv with⟨rfl,rfl⟩|⟨h3,h4⟩
  ·rcases hF c hc with h5|h5
   ·exact hZ c h5
   ·exact h.z _ _ c G2 h5
  ·exact h.z k v c h4 hc
theorem Im (Z M:aA) (w:World) (B:Nat):zb Z M w B (pk []) (fun x=>x∈gy []) [] where
 o k v hv:=by
  rcases hv with⟨e,he,_⟩|⟨_,rfl⟩
  ·cases he
  ·exact ec _ _ _ _ _
 a k k' v v' _ hv _:=by
  rcases hv with⟨e,he,_⟩|⟨_,rfl⟩
  ·cases he
  ·exact(iC.nil v').symm
 k x:=by simp[gy]
 z k v c hv hc:=by
  rcases hv with⟨e,he,_⟩|⟨_,rfl⟩
  ·cases he
  ·cases hc
structure Zp (Z M:aA) (w:World) (B b mb:Nat) (vl:Value) (L:List En) (words last:Int) (f:List UInt8→List Po) (K:List UInt8→Prop) (es:List MapEntry) (clock:Nat):Prop where
 at_:w.heap[b]? =some (.cells #[vl,.map (some mb),.int .i64 words,.int .i64 last] 169 (0,0))
 m:M b
 mm:M mb
 hb:Z b
 hmb:Z mb
 l:Own RT.en 43 M w B vl L
 map:ew Tryz.prog 9 w mb es clock
 rows:zb Z M w B f K es
 zl:∀c,vl.ownBlock=some c→Z c
def ll (Z M:aA) (w:World) (B b:Nat) (L:List En) (words last:Int):Prop:=∃mb vl es clock,Zp Z M w B b mb vl L words last (pk L) (fun x=>x∈gy L) es clock
theorem ll.bg {Z M M':aA} {w w':World} {B b:Nat} {L:List En} {words last:Int} (h:ll Z M w B b L words last) (s:Step M w M' w' aC):ll Z M' w' B b L words last:=by
 obtain⟨mb,vl,es,clock,h1,h2,h3,h4,h5,h6,h7,h8,h9⟩:=h;exact⟨mb,vl,es,clock,s.aI h1,(s.mem _ (ak h1)).2 h2,(s.mem _ (ak h7.at_)).2 h3,h4,h5,h6.bg s,h7.bg s,h8.bg s,h9⟩
theorem ll.C4 {Z Z' M:aA} {w:World} {B b:Nat} {L:List En} {words last:Int} (h:ll Z M w B b L words last) (hz:∀c,Z c→c<w.heap.size→Z' c):ll Z' M w B b L words last:=by
 obtain⟨mb,vl,es,clock,h1,h2,h3,h4,h5,h6,h7,h8,h9⟩:=h;exact⟨mb,vl,es,clock,h1,h2,h3,hz _ h4 (ak h1),hz _ h5 (ak h7.at_),h6,h7,h8.C4 hz,fun c hc=>hz c (h9 c hc) (h6.base c hc).2⟩
theorem ll.step {Z M M' N:aA} {w w':World} {B b:Nat} {L:List En} {words last:Int} (h:ll Z M w B b L words last) (s:Step M w M' w' N) (hn:∀k,N k→¬Z k):ll Z M' w' B b L words last:=by
 obtain⟨mb,vl,es,clock,h1,h2,h3,h4,h5,h6,h7,h8,h9⟩:=h;exact⟨mb,vl,es,clock,s.bF h1 (fun hk=>hn _ hk h4),(s.mem _ (ak h1)).2 h2,(s.mem _ (ak h7.at_)).2 h3,h4,h5,h6.step s (fun c hc hk=>hn _ hk (h9 c hc)),h7.step s (fun hk=>hn _ hk h5),h8.step s (fun k v c hv hc hk=>hn _ hk (h8.z k v c hv hc)),h9⟩
theorem ll.stepT {Z M M' N:aA} {w w':World} {B b:Nat} {L:List En} {words last:Int} (h:ll Z M w B b L words last) (s:Step M w M' w' N) (hn:∀k,N k→∃cs t,w.heap[k]? =some (.cells cs t (0,0))∧t≠169∧t≠43∧t≠153):ll Z M' w' B b L words last:=by
 obtain⟨mb,vl,es,clock,h1,h2,h3,h4,h5,h6,h7,h8,hz⟩:=h;refine⟨mb,vl,es,clock,s.bF h1 (fun hk=>?_),(s.mem _ (ak h1)).2 h2,(s.mem _ (ak h7.at_)).2 h3,h4,h5,h6.step s (fun c hc hk=>?_),h7.step s (fun hk=>?_),h8.step s (fun k v c hv hc hk=>?_),hz⟩
 ·obtain⟨cs,t,h9,C5,_⟩:=hn _ hk;rw[h1]at h9;simp at h9;exact C5 h9.2.symm
 ·obtain⟨cs,t,h9,_,C5,_⟩:=hn _ hk;exact h6.eL h9 C5 hc
 ·obtain⟨cs,t,h9,_⟩:=hn _ hk;rw[h7.at_]at h9;cases h9
 ·obtain⟨cs,t,h9,_,_,C5⟩:=hn _ hk;exact(h8.o k v hv).eL h9 C5 hc
def FN (M Z:aA):aA:=fun k=>Z k∧M k
theorem dD.ex (zv:Value) (es:List MapEntry) (key:Value):∃v,dD zv es key v:=by
 by_cases h:∃e∈es,e.key=key
 ·obtain⟨e,he,hk⟩:=h;exact⟨e.val,.inl ⟨e,he,hk,rfl⟩⟩
 ·exact⟨zv,.inr ⟨fun e he hk=>h ⟨e,he,hk⟩,rfl⟩⟩
def jD (last:Int) (e:En):Int:=if kh e.1≠0 then kh e.1 else if e.2≤last then 12 else 0
def FO (L:List En) (tl:List (Fd×Nat)) (i:Nat) (k:List UInt8):List Po:=pk L k++(((cD tl).take i).filter fun t=>decide (dd t=k)).map fun t=>((L.length:Int),posOf tl t)
theorem FP (L:List En) (tl:List (Fd×Nat)) (k:List UInt8):FO L tl 0 k=pk L k:=by simp[FO]
theorem FQ {L:List En} {tl:List (Fd×Nat)} {i:Nat} {t:Fd} (h:(cD tl)[i]? =some t) (k:List UInt8):FO L tl (i+1) k=if k=dd t then FO L tl i (dd t)++[((L.length:Int),posOf tl t)]else FO L tl i k:=by
 unfold FO;rw[cg,h,cZ,List.filter_append,jx]
 split
 ·rename_i e;subst e;simp
 ·rename_i e
  have: ¬dd t=k:=fun h=>e h.symm
  simp[this]
theorem Io {L:List En} {e:En} {i:Nat} (h:(cD (oL e)).length≤i) (k:List UInt8):FO L (oL e) i k=pk (L++[e]) k:=by
 unfold FO;rw[Ib,bp h];rfl
theorem Ip {L:List En} (hF:∀x∈L,iA x.1) (tl:List (Fd×Nat)) (i:Nat) (k:List UInt8):(FO L tl i k).length≤L.length+(cD tl).length:=by
 unfold FO;have h1:=(qe k L 0 hF).1;have h2:=List.length_filter_le (fun t=>decide (dd t=k)) ((cD tl).take i);have h3:=List.length_take_le i (cD tl);have h4:(pk L k).length≤L.length:=h1;simp only[bJ,db,bU]at*;omega
theorem vC {d:Dc} (hF:iA d):(cD (b5 d.2)).length≤500:=by
 have h1:=(pg hF.Ia).nodup.length_le_of_subset (l₂:=(b5 d.2).map (·.1)) (fun t ht=>(iQ hF.Ia).1 ht);have:=hF.many;simp at h1;omega
theorem iA.term {d:Dc} (hF:iA d) {t:Fd} (h:t∈cD (b5 d.2)):t.1.length≤12∧t.2.length≤30:=by
 obtain⟨p,hp,rfl⟩:=cF.1 ((iQ hF.Ia).1 h);exact hF.small p hp
theorem FR {Z M:aA} {B:Nat} (w0:World) (hM:Lt M w0) (hB:B≤w0.heap.size) (hZ:∀k,w0.heap.size≤k→Z k):
  Spec Tryz.prog 56 #[] w0 (fun v w=>∃M' b,v= .pointer (some ⟨b,0,none⟩)∧Lt M' w∧ll Z M' w B b [] 0 (-1)∧Step M w0 M' w aC):=by
 refine aX (args:=[]) (fn:=Tryz.f56) Tryz.func56 rfl (n:=4) Tryz.ntmps56 ?_;have S:Step M w0 M w0 aC:=(an _ _).cb (fun _ h=>h.elim) (fun _ h=>h.elim);refine aj (ah (ai rfl rfl (ad (aj (ah ?_)))));refine Rg.yO M fQ rfl (fun mb w1m p1 q1 gW s1=>?_);obtain⟨LS,FH⟩:∃M',M'=ins M mb:=⟨_,rfl⟩;rw[←FH]at s1;have xm:LS mb:=by rw[FH];exact .inl rfl
 replace hM:=s1.lt hM;have:=S.size;replace S:=S.ay s1;refine dZ (places:=[(0,1),(1,1),(2,1),(3,1)]) de VC VD rfl ⟨_,_,rfl,rfl,_,_,rfl,rfl,rfl⟩ (out:=[.slice none 0 0,_,.int .i64 0,_]) ⟨1,[_],rfl,rfl,by simp[Value.cells],3,[_],rfl,rfl,by simp[Value.cells],rfl⟩ ?_;refine oN LS rfl rfl (fun LV H0 ac7 ac8 fF mq=>?_);obtain⟨P5,FT⟩:∃M',M'=ins LS LV:=⟨_,rfl⟩;rw[←FT]at mq;have LW:P5 LV:=by rw[FT];exact .inl rfl
 change H0.heap[LV]? =some (.cells #[.slice none 0 0,.map (some mb),.int .i64 0,.int .i64 (-1)] _ _)at fF;replace xm:=(mq.mem _ (ak gW.at_)).2 xm;replace gW:=gW.bg mq;replace hM:=mq.lt hM;have:=S.size;replace S:=S.ay mq;refine ai rfl rfl (ad (aJ ?_));exact aO rfl rfl ⟨_,_,rfl,hM,⟨mb,_,[],0,fF,LW,xm,hZ _ (by omega),hZ _ (by omega),ec _ _ _ _ _,gW,Im _ _ _ _,fun c hc=>by cases hc⟩,S⟩
end Go.K
namespace Go.K
open Go.Proofs
namespace TKBldD
theorem P7:TI Tryz.prog 37 (.slice none 0 0) 1 24:=by unfold TI;kernel_rfl
theorem jE:TI Tryz.prog 107 (.slice none 0 0) 1 24:=by unfold TI;kernel_rfl
theorem AU:TI Tryz.prog 167 (.map none) 1 8:=by unfold TI;kernel_rfl
theorem VF:Enters Tryz.prog 107:=enters Tryz.func107 rfl (by decide)
theorem VG:Enters Tryz.prog 108:=enters Tryz.func108 rfl (by decide)
theorem VH:Enters Tryz.prog 109:=enters Tryz.func109 rfl (by decide)
theorem VI:Enters Tryz.prog 110:=enters Tryz.func110 rfl (by decide)
end TKBldD
open TKBldD
set_option maxRecDepth 10000
set_option maxHeartbeats 4000000 in
theorem FU {Z M:aA} {B b:Nat} {L:List En} {words last:Int} {e:En} {v0:Value} (w0:World) (hM:Lt M w0) (hZ:∀k,w0.heap.size≤k→Z k) (hb:ll Z M w0 B b L words last) (hBw:B≤w0.heap.size) (hv:RT.en.V M w0 e v0) (hl:∀f∈e.1.2,f.1.length≤900000∧f.2.length≤900000) (hLF:∀x∈L,iA x.1) (Zq:L.length≤1000000) (hw:0≤words∧words≤1000000000):
  Spec Tryz.prog 57 #[.pointer (some ⟨b,0,none⟩),v0] w0 (fun v w=>∃M',Lt M' w∧Step M w0 M' w (FN M Z)∧v= .int .i64 (jD last e)∧(jD last e≠0→ll Z M' w B b L words last)∧(jD last e=0→ll Z M' w B b (L++[e]) (words+((oL e).length:Int)) e.2)):=by
 obtain⟨mb,vl,es,clock,gb,dz,dU,hB,B2,ho,hW,hR,zl⟩:=hb;have JC:b≠mb:=fun h=>by have:=hW.at_;rw[←h,gb]at this;cases this
 refine aX (args:=[_,_]) (fn:=Tryz.f57) Tryz.func57 rfl (n:=89) Tryz.ntmps57 ?_;have S:Step M w0 M w0 (FN M Z):=(an _ _).cb (fun _ h=>h.elim) (fun _ h=>h.2);refine aj (ah ?_);refine kd (A:=RT.en) rfl rfl hM hv rfl (fun u0 w1 cz s0 _=>?_);have:=ak gb;replace dz:=(s0.mem _ this).2 dz;replace gb:=s0.aI gb;replace ho:=ho.bg s0;replace dU:=(s0.mem _ (ak hW.at_)).2 dU;replace hW:=hW.bg s0;replace hR:=hR.bg s0;replace hM:=s0.lt hM;have:=S.size;replace S:=S.ay s0;refine ai rfl rfl (ad (aj (aj (ah ?_))));refine aH (M:=M) (A:=RT.en) (B:=RT.dc) cP rfl rfl kG (by decide) Pq rfl rfl (by decide) cz (aq _ _) (fun uc jt=>?_);refine cC (M:=M) (A:=RT.dc) aM rfl kG (by decide) rfl rfl rfl jt (aq _ _) (fun ud kr=>?_);refine aP rfl rfl VF (EP _ hM kr hl) (fun r2 w2 hc=>?_);obtain⟨rfl,s2⟩:=hc;have:=ak gb;replace dz:=(s2.mem _ this).2 dz;replace gb:=s2.aI gb;replace cz:=cz.le (by decide) s2.le;replace ho:=ho.bg s2;replace dU:=(s2.mem _ (ak hW.at_)).2 dU;replace hW:=hW.bg s2;replace hR:=hR.bg s2;replace hM:=s2.lt hM;have:=S.size;replace S:=S.ay s2;refine ai rfl rfl (ad (aj (ah (ae rfl rfl (eW rfl rfl rfl (ad ?_))))));refine bI rfl (fun c2=>?_) (fun c2=>?_)
 ·refine aj (ah (ae rfl rfl (ai rfl rfl (ad (aJ ?_)))));have ea:jD last e=kh e.1:=if_pos c2;exact aO rfl rfl ⟨_,hM,S,by rw[ea],fun _=>⟨mb,vl,es,clock,gb,dz,dU,hB,B2,ho,hW,hR,zl⟩,fun h=>absurd (ea▸h) c2⟩
 ·have hF:iA e.1:=B4 (by simpa using c2);refine aV (aj (aj ?_));apply T.kE mixed rfl rfl;intro Zr sA4;have vD:=sA4 M;have:=ak gb;replace dz:=(vD.mem _ this).2 dz;replace gb:=vD.aI gb;replace cz:=cz.le (by decide) vD.le;replace ho:=ho.bg vD;replace dU:=(vD.mem _ (ak hW.at_)).2 dU;replace hW:=hW.bg vD;replace hR:=hR.bg vD;replace hM:=vD.lt hM;have:=S.size;replace S:=S.ay vD;refine aH (M:=M) (A:=RT.en) (B:=RT.int .i64) cP rfl rfl I3 (by decide) R8 rfl rfl (by decide) cz (aq _ _) (fun La BU=>?_);refine ad ⟨rfl,rfl,rfl,?_⟩;refine cc (M:=M) ar rfl rfl (by assumption) (by repeat (first|exact aq _ _|refine aT (aY (by assumption)) ?_)) (fun JJ=>?_);refine bz (v':= .int .i64 (e.2)) rfl ?_;replace JJ: -9223372036854775808≤(e.2:Int)∧e.2≤9223372036854775807:=JJ;refine ad ⟨rfl,rfl,rfl,?_⟩;refine ae rfl rfl ?_;refine ad ⟨rfl,rfl,rfl,?_⟩;refine aQ rfl ⟨_,rfl⟩ rfl ?_;refine ad ⟨rfl,rfl,rfl,?_⟩;refine aS (o':=3) de rfl rfl I3 (by decide) rfl rfl ?_;refine ad ⟨rfl,rfl,rfl,?_⟩;refine aE ar rfl rfl rfl (by first|assumption|exact bV vD (by assumption)) rfl ?_;refine ad ⟨rfl,rfl,rfl,?_⟩;refine eP rfl rfl rfl ?_;refine ad ⟨rfl,rfl,rfl,?_⟩;refine fz ?_;refine bI rfl (fun c4=>?_) (fun c4=>?_)
  ·refine aj (ah (ai rfl rfl (ad (aJ ?_))));have ea:jD last e=12:=by unfold jD;rw[if_neg (fun h=>h (by simpa using c2)),if_pos c4]
   exact aO rfl rfl ⟨_,hM,S,by rw[ea],fun _=>⟨mb,vl,es,clock,gb,dz,dU,hB,B2,ho,hW,hR,zl⟩,fun h=>absurd (ea▸h) (by decide)⟩
  ·refine aV (aj (ah ?_));refine aH (M:=M) (A:=RT.en) (B:=RT.dc) cP rfl rfl kG (by decide) Pq rfl rfl (by decide) cz (aq _ _) (fun PA E0=>?_);refine cC (M:=M) (A:=RT.dc) aM rfl kG (by decide) rfl rfl rfl E0 (aq _ _) (fun Lw sT=>?_);refine aP rfl rfl VG (y8 _ hM sT hF hl) (fun r6 w6 hc=>?_);obtain⟨a6,b6,rfl,ha,nH,s6⟩:=hc;have:=ak gb;replace dz:=(s6.mem _ this).2 dz;replace gb:=s6.aI gb;replace cz:=cz.le (by decide) s6.le;replace ho:=ho.bg s6;replace dU:=(s6.mem _ (ak hW.at_)).2 dU;replace hW:=hW.bg s6;replace hR:=hR.bg s6;replace hM:=s6.lt hM;have:=S.size;replace S:=S.ay s6;refine ae rfl rfl (bP rfl rfl rfl (bP rfl rfl rfl (ai rfl rfl (ai rfl rfl (ad (aj (aj (ah (ae rfl rfl (bT iB rfl ha rfl (ae rfl rfl ?_)))))))))));refine ad (bj ?_);refine dF (σ:=Nat) (fun q=>[(0,.pointer (some ⟨b,0,none⟩)),(3,u0),(7,b6),(30,a6),(31,.int .i64 ((cD (oL e)).length:Int)),(32,.int .i64 (q:Int))]) (fun q w=>∃M' es clock,Lt M' w∧Step M w0 M' w (FN M Z)∧ch RT.en M' w u0 e∧(RT.fd.sl).V M' w (cD (oL e)) a6∧(((RT.int .i64).sl).sl).V M' w ((cD (oL e)).map (posOf (oL e))) b6∧Zp Z M' w B b mb vl L words last (FO L (oL e) q) (fun x=>x∈gy L∨x∈((cD (oL e)).take q).map dd) es clock∧q≤(cD (oL e)).length) (fun q=>(cD (oL e)).length-q) 0 (.cons rfl (.cons rfl (.cons rfl (.cons rfl (.cons rfl (.cons rfl .nil)))))) ?_ ?_
   ·exact⟨_,es,clock,hM,S,cz,ha,nH,⟨gb,dz,dU,hB,B2,ho,hW,hR.congr (fun k=>FP _ _ _) (fun k=>by simp),zl⟩,bH _⟩
   ·clear hM S cz ha nH gb dz dU ho hW hR;rintro i w ⟨M1,es,clock,hM,S,cz,ha,nH,⟨gb,dz,dU,_,_,ho,hW,hR,_⟩,hi⟩;refine aj (ah (cd rfl rfl rfl (ad (aj ?_))));refine bI rfl (fun c8=>?_) (fun c8=>?_)
    ·refine aV (aj (bj (aj (ah (ae rfl rfl ?_)))));refine dq (M:=M1) iB qE rfl rfl rfl ha (aq _ _) (by omega) (fun VJ t G9 FV=>?_);rw[az]at G9;have Ht:=aL G9;have D3:=hF.term Ht;refine cC (M:=M1) (A:=RT.fd) b9 rfl qE (by decide) rfl rfl rfl FV (aq _ _) (fun VK FX=>?_);obtain rfl:=kI FX;refine eX M1 qE rfl (fun tn OZ adb ade lV mU=>?_);obtain⟨qM,FY⟩:∃M',M'=ins M1 tn:=⟨_,rfl⟩;rw[←FY]at mU;have xn:qM tn:=by rw[FY];exact .inl rfl
     change OZ.heap[tn]? =some (.cells #[.string ⟨#[]⟩,.string ⟨#[]⟩] _ _)at lV;have:=ak gb;replace dz:=(mU.mem _ this).2 dz;replace gb:=mU.aI gb;replace cz:=cz.le (by decide) mU.le;replace ha:=ha.le mU.le;replace nH:=nH.le mU.le;replace ho:=ho.bg mU;replace dU:=(mU.mem _ (ak hW.at_)).2 dU;replace hW:=hW.bg mU;replace hR:=hR.bg mU;replace hM:=mU.lt hM;have:=S.size;replace S:=S.ay mU;refine ai rfl rfl ?_;refine fc (M:=qM) (vs:=[.string ⟨t.1.toArray⟩,.string ⟨t.2.toArray⟩]) qE rfl rfl (AR rfl FX) rfl rfl lV xn (fun w9 g9 s9=>?_);have:=ak gb;replace dz:=(s9.mem _ this).2 dz;replace gb:=s9.bF gb (fun hk=>by have hk:_=_:=hk;omega);have:=ak lV;replace xn:=(s9.mem _ this).2 xn;replace cz:=cz.le (by decide) s9.le;replace ha:=ha.le s9.le;replace nH:=nH.le s9.le;replace ho:=ho.step s9 (fun c hc (h:_=_)=>by first|exact ho.eL gb (by decide) (h▸hc)|exact ho.eL lV (by decide) (h▸hc));replace dU:=(s9.mem _ (ak hW.at_)).2 dU;replace hW:=hW.step s9 (by first|exact fun h=>ho.iP hW.at_ h|exact fun(h:mb=b)=>JC h.symm|exact fun(h:mb=tn)=>by have h9:=hW.at_;rw[h,lV]at h9;cases h9);replace hR:=hR.step s9 (by first|exact fun k v c hv hc h=>(hR.o k v hv).iu ho (by decide) hc h|exact fun k v c hv hc (h:c=b)=>(hR.o k v hv).eL gb (by decide) (h▸hc)|exact fun k v c hv hc (h:c=tn)=>(hR.o k v hv).eL lV (by decide) (h▸hc));replace hM:=s9.lt hM;have:=S.size;replace S:=S.trans s9 (fun k hk h=>by have h:_=_:=h;subst h;first|(exfalso;omega)|(show _≤_;omega)|exact⟨by first|omega|assumption,(S.mem _ hk).1 ((s9.mem _ (ak lV)).1 xn)⟩|exact .inl rfl|exact .inr rfl|exact .inr (.inl rfl)|exact .inr (.inr rfl)|exact rfl);have JK:=g9;clear lV;have lV:=JK;clear JK;refine ad (aj (ah (ib (vs:=[.string ⟨t.1.toArray⟩,.string ⟨t.2.toArray⟩]) b9 rfl qE rfl rfl rfl lV ?_)));refine aP rfl rfl R3 (Fp (t:=t) _ hM (by omega) (by omega)) (fun Y2 UW hc=>?_)
     obtain⟨rfl,oJ⟩:=hc;have:=ak gb;replace dz:=(oJ.mem _ this).2 dz;replace gb:=oJ.aI gb;replace cz:=cz.le (by decide) oJ.le;replace ha:=ha.le oJ.le;replace nH:=nH.le oJ.le;replace ho:=ho.bg oJ;replace dU:=(oJ.mem _ (ak hW.at_)).2 dU;replace hW:=hW.bg oJ;replace hR:=hR.bg oJ;replace hM:=oJ.lt hM;have:=S.size;replace S:=S.ay oJ;refine ai rfl rfl (ad ?_);obtain⟨v10,ur⟩:=dD.ex iO es (sv (dd t));apply T.nM 21 [0,1,2,3,4,5,6,7,8,9,10] 2 (iT v10) mixed rfl rfl rfl rfl;intro Iq LX;have jq:=LX qM;have:=ak gb;replace dz:=(jq.mem _ this).2 dz;replace gb:=jq.aI gb;replace cz:=cz.le (by decide) jq.le;replace ha:=ha.le jq.le;replace nH:=nH.le jq.le;replace ho:=ho.bg jq;replace dU:=(jq.mem _ (ak hW.at_)).2 dU;replace hW:=hW.bg jq;replace hR:=hR.bg jq;replace hM:=jq.lt hM;have:=S.size;replace S:=S.ay jq;refine ae rfl rfl ?_;refine ad ⟨rfl,rfl,rfl,?_⟩;refine aQ rfl ⟨_,rfl⟩ rfl ?_;refine ad ⟨rfl,rfl,rfl,?_⟩;refine aS (o':=1) de rfl rfl AU (by decide) rfl rfl ?_;refine ad ⟨rfl,rfl,rfl,?_⟩;refine aE fQ rfl rfl rfl (by first|assumption|exact bV jq (by assumption)) rfl ?_;refine ad ⟨rfl,rfl,rfl,?_⟩;refine ae rfl rfl ?_;refine ad ⟨rfl,rfl,rfl,?_⟩;refine ae rfl rfl ?_;refine ad ⟨rfl,rfl,rfl,?_⟩;refine aQ rfl ⟨_,rfl⟩ rfl ?_;refine ad ⟨rfl,rfl,rfl,?_⟩;refine aS (o':=1) de rfl rfl AU (by decide) rfl rfl ?_;refine ad ⟨rfl,rfl,rfl,?_⟩;refine aE fQ rfl rfl rfl (by first|assumption|exact bV jq (by assumption)) rfl ?_;refine ad ⟨rfl,rfl,rfl,?_⟩;refine ae rfl rfl ?_;refine ad ⟨rfl,rfl,rfl,?_⟩;obtain⟨kl,Ct⟩:=FM (dd t) (by unfold dd;simp;omega);refine Rg.o8 fQ pv jE rfl rfl rfl Ct hW (fun VL VM=>?_);obtain rfl:v10=VL:=hW.val_one ur VM
     have x7:=Ip hLF (oL e) i (dd t);have Jc:(cD (oL e)).length≤500:=vC hF;refine ad ⟨rfl,rfl,rfl,?_⟩;refine ae rfl rfl ?_;refine ad ⟨rfl,rfl,rfl,?_⟩;refine aQ rfl ⟨_,rfl⟩ rfl ?_;refine ad ⟨rfl,rfl,rfl,?_⟩;refine aS (o':=0) de rfl rfl P7 (by decide) rfl rfl ?_;refine ad ⟨rfl,rfl,rfl,?_⟩;refine aE gg rfl rfl rfl (by first|assumption|exact bV jq (by assumption)) rfl ?_;refine ad ⟨rfl,rfl,rfl,?_⟩;refine gB gg rfl ho rfl ?_;refine ad ⟨rfl,rfl,rfl,?_⟩;refine ae rfl rfl ?_;refine ad ⟨rfl,rfl,rfl,?_⟩;refine ae rfl rfl ?_;refine ad ⟨rfl,rfl,rfl,?_⟩;refine dq (M:=qM) Tryz.underlying171 nF rfl rfl rfl nH (aq _ _) (by simp;omega) (fun u18 ps P8 VN=>?_);rw[az,ey,G9]at P8;obtain rfl:=bM P8;refine ad ⟨rfl,rfl,rfl,?_⟩;refine cf (M:=qM) au rfl rfl rfl rfl rfl VN (aq _ _) (fun v19 P9=>?_);refine ad ⟨rfl,rfl,rfl,?_⟩;refine dZ (places:=[(0,1),(1,1)]) bK gu HE rfl ⟨_,_,rfl,rfl,_,_,rfl,rfl,rfl⟩ (out:=[_,_]) ⟨0,[_],rfl,rfl,by simp[Value.cells],1,[_],rfl,ik P9,by simp[Value.cells],rfl⟩ ?_;have FZ:RT.po.V qM _ ((L.length:Int),posOf (oL e) t) _:=dY (gj (by omega)) P9 rfl rfl rfl rfl;refine ad ⟨rfl,rfl,rfl,?_⟩;refine fz ?_;have nV:=hR.o _ _ ur;refine⟨iz ⟨fe,⟨bR.nilCheck rfl,⟨jw de rfl AU (by decide),⟨fJ rfl gb (fun h=>nV.eL gb (by decide) h),⟨fe,⟨fe,⟨bR.nilCheck rfl,⟨jw de rfl AU (by decide),⟨fJ rfl gb (fun h=>nV.eL gb (by decide) h),⟨fe,⟨bR.o8 fQ pv jE rfl rfl Ct hW (fun h=>nV.iP hW.at_ h),trivial⟩⟩⟩⟩⟩⟩⟩⟩⟩⟩⟩,?_⟩;have kp:=kg (iT v10) Iq;refine eQ (A:=RT.po) (hn:=by decide) (M:=qM) aW gu (by decide) rfl rfl hM (FZ) (.inl rfl) (fun VO VP Ir ka=>?_)
     have:=ak gb;replace dz:=(ka.mem _ this).2 dz;replace gb:=ka.aI gb;replace cz:=cz.le (by decide) ka.le;replace ha:=ha.le ka.le;replace nH:=nH.le ka.le;replace ho:=ho.bg ka;replace dU:=(ka.mem _ (ak hW.at_)).2 dU;replace hW:=hW.bg ka;replace hR:=hR.bg ka;replace hM:=ka.lt hM;have:=S.size;replace S:=S.ay ka;refine(fun(kp:eg _ _ _)=>ad ⟨rfl,rfl,fun _=>kp,?_⟩) (by first|exact kp|exact kp.pO (by assumption)|exact kp.goN (by assumption)|exact kp.go (by assumption) (fun _ _ h=>by first|exact h|exact h.elim));refine Rg.ki (M:=qM) (base:=B) aW gu rfl rfl rfl rfl (hR.o _ _ ur) Ir (aq _ _) (by simp;omega) (by simp;omega) (by have:=S.size;omega) (fun v22 w22 VQ F0 VR=>?_);have nV:=hR.o _ _ ur;have Zs:=hW.at_;have Qa:v10.ownBlock≠some mb:=nV.iP hW.at_;have JL:=ho.step F0 (fun c hc h=>ho.iu nV (by decide) hc h);have AV:=(F0.mem _ (ak hW.at_)).2 dU;have Is:=hW.step F0 Qa;have Qb:=F0.bF gb (fun h=>nV.eL gb (by decide) h);have LY:=(F0.mem _ (ak gb)).2 dz;have Zt:=S.trans F0 (fun k hk h=>⟨hR.z _ _ k ur h,(S.mem k hk).1 (nV.mut_ k h)⟩);have VS:=F0.lt hM;replace cz:=cz.le (by decide) F0.le;replace ha:=ha.le F0.le;replace nH:=nH.le F0.le;refine(fun(kp:eg _ _ _)=>ad ⟨rfl,rfl,fun _=>kp,?_⟩) (by first|exact kp|exact kp.pO (by assumption)|exact kp.goN (by assumption)|exact kp.go (by assumption) (fun _ _ h=>by first|exact h|exact h.elim));refine Rg.Ic fQ pv rfl rfl rfl Ct Is AV (fun w23 VT VU VV VW LZ Hc=>?_);have VX:=hR.put (fun c hc=>hZ c (by have:=S.size;omega)) ur VQ F0 VR Is.at_ Hc LZ VW;replace cz:=cz.le (by decide) Hc.le;replace ha:=ha.le Hc.le;replace nH:=nH.le Hc.le;have VY:=JL.step Hc (fun c hc (h:c=mb)=>JL.iP Is.at_ (h▸hc));have VZ:=Hc.bF Qb JC;have L0:=(Hc.mem _ (ak Qb)).2 LY
     have L3:=(Hc.mem _ (ak Is.at_)).2 AV;have V0:=Hc.lt VS;have S23:=Zt.trans Hc (fun k hk (h:k=mb)=>⟨by rw[h];exact B2,(Zt.mem k hk).1 (by rw[h];exact AV)⟩);refine ad ⟨rfl,rfl,fun h=>absurd rfl h,?_⟩;refine qp (ah (bB rfl rfl rfl (by omega) (ae rfl rfl (ad ?_))));refine⟨rfl,i+1,(.cons rfl (.cons rfl (.cons rfl (.cons rfl (.cons rfl (.cons rfl .nil)))))),?_,?_⟩
     ·exact⟨_,VT,VU,V0,S23,cz,ha,nH,⟨VZ,L0,L3,hB,B2,VY,VV,VX.congr (fun k=>FQ G9 k) (fun k=>by rw[cg,G9,cZ,jx,dm,or_assoc];simp),zl⟩,by omega⟩
     ·omega
    ·refine cN (aj ?_);apply T.nM 6 [0,1,2,3,4] 3 (iT vl) mixed rfl rfl rfl rfl;intro Lg Lh;have lR:=Lh M1;have:=ak gb;replace dz:=(lR.mem _ this).2 dz;replace gb:=lR.aI gb;replace cz:=cz.le (by decide) lR.le;replace ha:=ha.le lR.le;replace nH:=nH.le lR.le;replace ho:=ho.bg lR;replace dU:=(lR.mem _ (ak hW.at_)).2 dU;replace hW:=hW.bg lR;replace hR:=hR.bg lR;replace hM:=lR.lt hM;have:=S.size;replace S:=S.ay lR;refine ae rfl rfl ?_;refine ad ⟨rfl,rfl,rfl,?_⟩;refine ae rfl rfl ?_;refine ad ⟨rfl,rfl,rfl,?_⟩;refine aQ rfl ⟨_,rfl⟩ rfl ?_;refine ad ⟨rfl,rfl,rfl,?_⟩;refine aS (o':=0) de rfl rfl P7 (by decide) rfl rfl ?_;refine ad ⟨rfl,rfl,rfl,?_⟩;refine aE gg rfl rfl rfl gb rfl (bz (v':=vl) rfl ?_);refine ad ⟨rfl,rfl,rfl,?_⟩;refine cC (M:=M1) (A:=RT.en) cP rfl yk (by decide) rfl rfl rfl cz (aq _ _) (fun Jt wZ=>?_);refine ad ⟨rfl,rfl,rfl,?_⟩;refine fz ?_;refine⟨iz ⟨fe,⟨fe,⟨bR.nilCheck rfl,⟨jw de rfl P7 (by decide),⟨fJ rfl gb (fun h=>ho.eL gb (by decide) h),trivial⟩⟩⟩⟩⟩,?_⟩;have kp:=kg (iT vl) Lg;refine aP rfl rfl VH (FD _ hM wZ (by have:=hF.few;omega)) (fun Zu Qd hc=>?_);obtain⟨AW,uu⟩:=hc;have:=ak gb;replace dz:=(uu.mem _ this).2 dz;replace gb:=uu.aI gb;replace cz:=cz.le (by decide) uu.le;replace ha:=ha.le uu.le;replace nH:=nH.le uu.le;replace ho:=ho.bg uu;replace dU:=(uu.mem _ (ak hW.at_)).2 dU;replace hW:=hW.bg uu;replace hR:=hR.bg uu;replace hM:=uu.lt hM;have:=S.size;replace S:=S.ay uu;refine(fun(kp:eg _ _ _)=>ad ⟨rfl,rfl,fun _=>kp,?_⟩) (by first|exact kp|exact kp.pO (by assumption)|exact kp.goN (by assumption)|exact kp.go (by assumption) (fun _ _ h=>by first|exact h|exact h.elim));refine eQ (A:=RT.en) (hn:=by decide) (M:=M1) gg yk (by decide) rfl rfl hM (AW) (.inl rfl) (fun Zv Zw L4 mc=>?_)
     have:=ak gb;replace dz:=(mc.mem _ this).2 dz;replace gb:=mc.aI gb;replace cz:=cz.le (by decide) mc.le;replace ha:=ha.le mc.le;replace nH:=nH.le mc.le;replace AW:=AW.le mc.le;replace ho:=ho.bg mc;replace dU:=(mc.mem _ (ak hW.at_)).2 dU;replace hW:=hW.bg mc;replace hR:=hR.bg mc;replace hM:=mc.lt hM;have:=S.size;replace S:=S.ay mc;refine(fun(kp:eg _ _ _)=>ad ⟨rfl,rfl,fun _=>kp,?_⟩) (by first|exact kp|exact kp.pO (by assumption)|exact kp.goN (by assumption)|exact kp.go (by assumption) (fun _ _ h=>by first|exact h|exact h.elim));refine Rg.ki (M:=M1) (base:=B) gg yk rfl rfl rfl rfl ho L4 (aq _ _) (by simp;omega) (by simp;omega) (by have:=S.size;omega) (fun zc Zx L5 qN V1=>?_);replace dz:=(qN.mem _ (ak gb)).2 dz
     have zl':∀c,zc.ownBlock=some c→Z c:=fun c hc=>by
      rcases V1 c hc with h|h
      ·exact hZ c (by have:=S.size;omega)
      ·exact zl c h
     replace hR:=hR.step qN (fun k v c hv hc h=>(hR.o k v hv).iu ho (by decide) hc h);replace dU:=(qN.mem _ (ak hW.at_)).2 dU;replace hW:=hW.step qN (fun h=>ho.iP hW.at_ h);replace gb:=qN.bF gb (fun h=>ho.eL gb (by decide) h);replace cz:=cz.le (by decide) qN.le;replace S:=S.trans qN (fun k hk h=>⟨zl k h,(S.mem k hk).1 (ho.mut_ k h)⟩);replace hM:=qN.lt hM;replace ho:=L5;obtain⟨JM,V2⟩:∃M',M'=jj M1 zc:=⟨_,rfl⟩;rw[←V2]at hR dU cz S hM ho dz;refine(fun(kp:eg _ _ _)=>ad ⟨rfl,rfl,fun _=>kp,?_⟩) (by first|exact kp|exact kp.pO (by assumption)|exact kp.goN (by assumption)|exact kp.go (by assumption) (fun _ _ h=>by first|exact h|exact h.elim));refine aQ rfl ⟨_,rfl⟩ rfl ?_;refine ad ⟨rfl,rfl,fun h=>absurd rfl h,?_⟩;refine aS (o':=0) de rfl rfl P7 (by decide) rfl rfl ?_;refine ad ⟨rfl,rfl,fun h=>absurd rfl h,?_⟩;refine bQ (M:=JM) P7 rfl rfl gb rfl (by obtain⟨_,_,he,_⟩:=ho.isSlice;rw[he];rfl) dz (fun L6 F1 lW=>?_);change L6.heap[_]? =some (Obj.cells #[zc,.map (some mb),.int .i64 words,.int .i64 last] _ _)at F1;have:=ak gb;replace dz:=(lW.mem _ this).2 dz;replace cz:=cz.le (by decide) lW.le;replace ho:=ho.step lW (fun c hc (h:_=_)=>by first|exact ho.eL gb (by decide) (h▸hc)|exact ho.eL lV (by decide) (h▸hc));replace dU:=(lW.mem _ (ak hW.at_)).2 dU;replace hW:=hW.step lW (by first|exact fun h=>ho.iP hW.at_ h|exact fun(h:mb=b)=>JC h.symm|exact fun(h:mb=tn)=>by have h9:=hW.at_;rw[h,lV]at h9;cases h9);replace hR:=hR.step lW (by first|exact fun k v c hv hc h=>(hR.o k v hv).iu ho (by decide) hc h|exact fun k v c hv hc (h:c=b)=>(hR.o k v hv).eL gb (by decide) (h▸hc)|exact fun k v c hv hc (h:c=tn)=>(hR.o k v hv).eL lV (by decide) (h▸hc));replace hM:=lW.lt hM;have:=S.size;replace S:=S.trans lW (fun k hk h=>by have h:_=_:=h;subst h;first|(exfalso;omega)|(show _≤_;omega)|exact⟨by first|omega|assumption,(S.mem _ hk).1 ((lW.mem _ (ak gb)).1 dz)⟩|exact .inl rfl|exact .inr rfl|exact .inr (.inl rfl)|exact .inr (.inr rfl)|exact rfl)
     have Fl:=F1;clear gb;have gb:=Fl;clear Fl;refine ad ⟨rfl,rfl,fun h=>absurd rfl h,?_⟩;refine qp (aj ?_);apply T.nM 6 [0,1,2,3] 1 aC mixed rfl rfl rfl rfl;intro L7 F2;have nI:=F2 JM;have:=ak gb;replace dz:=(nI.mem _ this).2 dz;replace gb:=nI.aI gb;replace cz:=cz.le (by decide) nI.le;replace ho:=ho.bg nI;replace dU:=(nI.mem _ (ak hW.at_)).2 dU;replace hW:=hW.bg nI;replace hR:=hR.bg nI;replace hM:=nI.lt hM;have:=S.size;replace S:=S.ay nI;refine ae rfl rfl ?_;refine ad ⟨rfl,rfl,rfl,?_⟩;refine aQ rfl ⟨_,rfl⟩ rfl ?_;refine ad ⟨rfl,rfl,rfl,?_⟩;refine aS (o':=2) de rfl rfl I3 (by decide) rfl rfl ?_;refine ad ⟨rfl,rfl,rfl,?_⟩;refine aE ar rfl rfl rfl (by first|assumption|exact bV nI (by assumption)) rfl ?_;refine ad ⟨rfl,rfl,rfl,?_⟩;refine aH (M:=JM) (A:=RT.en) (B:=RT.dc) cP rfl rfl kG (by decide) Pq rfl rfl (by decide) cz (aq _ _) (fun Zy L8=>?_);refine ad ⟨rfl,rfl,rfl,?_⟩;refine cC (M:=JM) (A:=RT.dc) aM rfl kG (by decide) rfl rfl rfl L8 (aq _ _) (fun Zz L9=>?_);refine ad ⟨rfl,rfl,rfl,?_⟩;refine fz ?_;refine⟨iz ⟨fe,⟨bR.nilCheck rfl,⟨jw de rfl I3 (by decide),⟨fJ rfl gb (fun h=>h),trivial⟩⟩⟩⟩,?_⟩;have kp:=kg aC L7;refine aP rfl rfl VI (yQ _ hM L9 hl hF.few) (fun Zg PG hc=>?_);obtain⟨rfl,je⟩:=hc;have:=ak gb;replace dz:=(je.mem _ this).2 dz;replace gb:=je.aI gb;replace cz:=cz.le (by decide) je.le;replace ho:=ho.bg je;replace dU:=(je.mem _ (ak hW.at_)).2 dU;replace hW:=hW.bg je;replace hR:=hR.bg je;replace hM:=je.lt hM;have:=S.size;replace S:=S.ay je;refine(fun(kp:eg _ _ _)=>ad ⟨rfl,rfl,fun _=>kp,?_⟩) (by first|exact kp|exact kp.pO (by assumption)|exact kp.goN (by assumption)|exact kp.go (by assumption) (fun _ _ h=>by first|exact h|exact h.elim))
     have:=hF.many;refine bB rfl rfl rfl (by omega) ?_;refine ad ⟨rfl,rfl,fun h=>absurd rfl h,?_⟩;refine aQ rfl ⟨_,rfl⟩ rfl ?_;refine ad ⟨rfl,rfl,fun h=>absurd rfl h,?_⟩;refine aS (o':=2) de rfl rfl I3 (by decide) rfl rfl ?_;refine ad ⟨rfl,rfl,fun h=>absurd rfl h,?_⟩;refine bQ (M:=JM) I3 rfl rfl gb rfl (rfl) dz (fun Mc F3 lX=>?_);change Mc.heap[_]? =some (Obj.cells #[zc,.map (some mb),.int .i64 (words+((oL e).length:Int)),.int .i64 last] _ _)at F3;have:=ak gb;replace dz:=(lX.mem _ this).2 dz;replace cz:=cz.le (by decide) lX.le;replace ho:=ho.step lX (fun c hc (h:_=_)=>by first|exact ho.eL gb (by decide) (h▸hc)|exact ho.eL lV (by decide) (h▸hc));replace dU:=(lX.mem _ (ak hW.at_)).2 dU;replace hW:=hW.step lX (by first|exact fun h=>ho.iP hW.at_ h|exact fun(h:mb=b)=>JC h.symm|exact fun(h:mb=tn)=>by have h9:=hW.at_;rw[h,lV]at h9;cases h9);replace hR:=hR.step lX (by first|exact fun k v c hv hc h=>(hR.o k v hv).iu ho (by decide) hc h|exact fun k v c hv hc (h:c=b)=>(hR.o k v hv).eL gb (by decide) (h▸hc)|exact fun k v c hv hc (h:c=tn)=>(hR.o k v hv).eL lV (by decide) (h▸hc));replace hM:=lX.lt hM;have:=S.size;replace S:=S.trans lX (fun k hk h=>by have h:_=_:=h;subst h;first|(exfalso;omega)|(show _≤_;omega)|exact⟨by first|omega|assumption,(S.mem _ hk).1 ((lX.mem _ (ak gb)).1 dz)⟩|exact .inl rfl|exact .inr rfl|exact .inr (.inl rfl)|exact .inr (.inr rfl)|exact rfl);have Fl:=F3;clear gb;have gb:=Fl;clear Fl;refine ad ⟨rfl,rfl,fun h=>absurd rfl h,?_⟩;refine qp (aj (ah (ae rfl rfl ?_)));refine aH (M:=JM) (A:=RT.en) (B:=RT.int .i64) cP rfl rfl I3 (by decide) R8 rfl rfl (by decide) cz (aq _ _) (fun ZA V3=>?_);refine cc (M:=JM) ar rfl rfl (by assumption) (by repeat (first|exact aq _ _|refine aT (aY (by assumption)) ?_)) (fun F4=>?_)
     refine bz (v':= .int .i64 (e.2)) rfl ?_;replace F4: -9223372036854775808≤(e.2:Int)∧e.2≤9223372036854775807:=F4;refine aQ rfl ⟨_,rfl⟩ rfl (aS (o':=3) de rfl rfl I3 (by decide) rfl rfl ?_);refine bQ (M:=JM) I3 rfl rfl gb rfl (rfl) dz (fun JN JO gS=>?_);change JN.heap[_]? =some (Obj.cells #[zc,.map (some mb),.int .i64 (words+((oL e).length:Int)),.int .i64 e.2] _ _)at JO;have:=ak gb;replace dz:=(gS.mem _ this).2 dz;replace cz:=cz.le (by decide) gS.le;replace ho:=ho.step gS (fun c hc (h:_=_)=>by first|exact ho.eL gb (by decide) (h▸hc)|exact ho.eL lV (by decide) (h▸hc));replace dU:=(gS.mem _ (ak hW.at_)).2 dU;replace hW:=hW.step gS (by first|exact fun h=>ho.iP hW.at_ h|exact fun(h:mb=b)=>JC h.symm|exact fun(h:mb=tn)=>by have h9:=hW.at_;rw[h,lV]at h9;cases h9);replace hR:=hR.step gS (by first|exact fun k v c hv hc h=>(hR.o k v hv).iu ho (by decide) hc h|exact fun k v c hv hc (h:c=b)=>(hR.o k v hv).eL gb (by decide) (h▸hc)|exact fun k v c hv hc (h:c=tn)=>(hR.o k v hv).eL lV (by decide) (h▸hc));replace hM:=gS.lt hM;have:=S.size;replace S:=S.trans gS (fun k hk h=>by have h:_=_:=h;subst h;first|(exfalso;omega)|(show _≤_;omega)|exact⟨by first|omega|assumption,(S.mem _ hk).1 ((gS.mem _ (ak gb)).1 dz)⟩|exact .inl rfl|exact .inr rfl|exact .inr (.inl rfl)|exact .inr (.inr rfl)|exact rfl);have Fl:=JO;clear gb;have gb:=Fl;clear Fl;refine ad (aj (ah (ai rfl rfl (ad (aJ ?_)))));have ea:jD last e=0:=by unfold jD;rw[if_neg (fun h=>h (by simpa using c2)),if_neg c4]
     exact aO rfl rfl ⟨_,hM,S,by rw[ea],fun h=>absurd ea h,fun _=>⟨mb,_,es,clock,gb,dz,dU,hB,B2,ho,hW,hR.congr (fun k=>(Io (by omega) k).symm) (fun k=>by rw[AQ,dm,bp (by omega)]),zl'⟩⟩
end Go.K

/- What the law 'SegmentMakes' needs of walks and plain Lean, part 3: nothing is assumed beyond the texts that it imports. -/
import Derived.Deep.Draws
import Derived.DeepKeys4
import Derived.Ground.GgzProg
import Derived.Ground.SlgmProg
import Derived.Ground.SlsfProg
import Derived.KernelRfl
import Derived.Lib.Bytealg
import Derived.Shelf.SlGeneric
import Derived.Shelf.SlIter.Nil
import Derived.Shelf.SlIterI.Nil
import Derived.Shelf.SlSortCmp.NoneTotal
import Derived.Shelf.SortM.Plain
import Derived.Shelf.SortM.SortNone
import Derived.Sort.Grow
import Derived.Sort.KeysCollected
import Derived.Sort.Walk0
import Derived.Test.YtohfoenhmkfjkaaGreatDoorProg
import Derived.Test.YtohfoenhmkfjkaaGreatDoorZSegmentMakes1
import Derived.Test.YtohfoenhmkfjkaaGreatDoorZSegmentMakes2
set_option linter.unusedVariables false
set_option linter.unusedSimpArgs false
theorem eG:type_of% @Go.K.Rg.ik:=@Go.K.Rg.ik
namespace Go.K
open Go.Proofs
set_option maxRecDepth 10000
theorem zD {M:aU} {d:Dc} {v0:Value} (w0:World) (hM:Lt M w0) (hv:RT.dc.V M w0 d v0) (hl:∀f∈d.2,f.1.length≤900000∧f.2.length≤900000):
  Spec Tryz.prog 117 #[v0] w0 (fun v w=>v= .int .i64 (nc d)∧Step M w0 M w aN):=by
 have fZ:=hM;refine bE (args:=[_]) (fn:=Tryz.f117) Tryz.func117 rfl (n:=66) Tryz.ntmps117 ?_;have S:Step M w0 M w0 aN:=(ah _ _).cD (fun _ h=>h.elim) (fun _ h=>h.elim);refine au (ak ?_);refine eG (A:=RT.dc) rfl rfl hM hv rfl (fun u0 w1 cQ s0 _=>?_);replace hM:=s0.lt hM;have:=S.size;replace S:=S.aE s0;refine al rfl rfl (ae (au (au (ak ?_))));refine aA (M:=M) (A:=RT.dc) (B:=(RT.fd).sl) a7 rfl rfl qx (by decide) (AU) rfl rfl (by decide) (by assumption) (by repeat (first|exact ar _ _|refine aT (bh (by assumption)) ?_)) (fun tU jR=>?_);refine aY (M:=M) bj rfl rfl rfl rfl rfl (by assumption) (by repeat (first|exact ar _ _|refine aT (bh (by assumption)) ?_)) (fun vB kF=>?_);refine bF bj rfl kF rfl (hY rfl rfl rfl (ae ?_));refine bW rfl (fun c1=>?_) (fun c1=>?_)
 ·refine au (ak (al rfl rfl (ae (aW ?_))));exact a8 rfl rfl ⟨by rw[nc,if_pos (by omega)],S.back⟩
 ·refine bg (au (ak (al rfl rfl (ae (au (au (ak (al rfl rfl (ae (bu ?_))))))))));refine de (σ:=Nat×Nat) (fun q=>[(1,u0),(3,.int .i64 (q.2:Int)),(4,.int .i64 (q.1:Int))]) (fun q w=>Lt M w∧Step M w0 M w aN∧bL RT.dc M w u0 d∧nc d=xk (d.2.take q.1) (d.2.drop q.1) q.2∧q.1≤d.2.length∧q.2≤900001*q.1∧d.2.length≤8) (fun q=>d.2.length-q.1) (0,0) (.cons rfl (.cons rfl (.cons rfl .nil))) ?_ ?_
  ·exact⟨hM,S,cQ,by rw[nc,if_neg (by omega)];rfl,bM _,bw _,by omega⟩
  ·rintro⟨i,n⟩ w ⟨hM,S,cQ,Ef,hi,hn,Z8⟩;dsimp only at Ef hi hn ⊢;refine au (au (ak (aj rfl rfl ?_)));refine aA (M:=M) (A:=RT.dc) (B:=(RT.fd).sl) a7 rfl rfl qx (by decide) (AU) rfl rfl (by decide) (by assumption) (by repeat (first|exact ar _ _|refine aT (bh (by assumption)) ?_)) (fun VL Jj=>?_);refine aY (M:=M) bj rfl rfl rfl rfl rfl (by assumption) (by repeat (first|exact ar _ _|refine aT (bh (by assumption)) ?_)) (fun yS pM=>?_);refine bF bj rfl pM rfl (cu rfl rfl rfl (ae ?_));refine bW rfl (fun c5=>?_) (fun c5=>?_)
   ·refine bg (au (bu (au (ak ?_))));refine aA (M:=M) (A:=RT.dc) (B:=(RT.fd).sl) a7 rfl rfl qx (by decide) (AU) rfl rfl (by decide) (by assumption) (by repeat (first|exact ar _ _|refine aT (bh (by assumption)) ?_)) (fun VM FP=>?_);refine aY (M:=M) bj rfl rfl rfl rfl rfl (by assumption) (by repeat (first|exact ar _ _|refine aT (bh (by assumption)) ?_)) (fun acy OD=>?_);refine aj rfl rfl ?_;refine bS (M:=M) bj jz rfl rfl rfl OD (ar _ _) (by omega) (fun VN x Cn ahC=>?_);rw[aK]at Cn;refine aA (M:=M) (A:=RT.fd) (B:=RT.str) cv rfl rfl I9 (by decide) (G3) rfl rfl (by decide) (by assumption) (by repeat (first|exact ar _ _|refine aT (bh (by assumption)) ?_)) (fun VO OE=>?_);refine aY (M:=M) aM rfl rfl rfl rfl rfl OE (ar _ _) (fun alj VP=>?_);obtain rfl:=dQ VP;have lg:=FN (n:=n) Cn;have wk:=hl _ (aQ Cn);refine aS rfl rfl UY (xl x.1 (by omega) _) (fun r7 w7 hc=>?_);obtain⟨rfl,rfl⟩:=hc;refine al rfl rfl (ae (au (au (ak (aj rfl rfl (fP rfl rfl (bO (v':= .bool (decide (ga x.1=false))) (by cases ga x.1<;>rfl) (ae ?_))))))));refine bW rfl (fun c8=>?_) (fun c8=>?_)
    ·refine au (ak (al rfl rfl (ae (aW ?_))));exact a8 rfl rfl ⟨by rw[Ef,lg,if_pos (by assumption)],S.back⟩
    ·refine bg (au (au (ak (al rfl rfl (ae (bu ?_))))));refine de (σ:=Nat) (fun j=>[(1,u0),(3,.int .i64 (n:Int)),(4,.int .i64 (i:Int)),(6,.int .i64 (j:Int))]) (fun j w=>Lt M w∧Step M w0 M w aN∧bL RT.dc M w u0 d∧j≤i∧∀k y,k<j→d.2[k]? =some y→y.1≠x.1) (fun j=>i-j) 0 (.cons rfl (.cons rfl (.cons rfl (.cons rfl .nil)))) ?_ ?_
     ·exact⟨hM,S,cQ,bM _,fun k c h=>absurd h (j5 k)⟩
     ·rintro j w ⟨hM,S,cQ,hj,jU⟩;refine au (au (ak (aj rfl rfl (aj rfl rfl (cu rfl rfl rfl (ae ?_))))));refine bW rfl (fun Vd=>?_) (fun Vd=>?_)
      ·refine bg (au (bu (au ?_)));apply kz mixed rfl rfl;intro QB QC;have ox:=QC M;replace cQ:=cQ.le (by decide) ox.le;replace hM:=ox.lt hM;have:=S.size;replace S:=S.aE ox;refine aA (M:=M) (A:=RT.dc) (B:=(RT.fd).sl) a7 rfl rfl qx (by decide) (AU) rfl rfl (by decide) (by assumption) (by repeat (first|exact ar _ _|refine aT (bh (by assumption)) ?_)) (fun ahD acz=>?_);refine ae ⟨rfl,rfl,rfl,?_⟩;refine aY (M:=M) bj rfl rfl rfl rfl rfl (by assumption) (by repeat (first|exact ar _ _|refine aT (bh (by assumption)) ?_)) (fun ahE QD=>?_);refine ae ⟨rfl,rfl,rfl,?_⟩;refine aj rfl rfl ?_;refine ae ⟨rfl,rfl,rfl,?_⟩;refine bS (M:=M) bj jz rfl rfl rfl QD (ar _ _) (by omega) (fun OF y Eg fW=>?_);rw[aK]at Eg;refine ae ⟨rfl,rfl,rfl,?_⟩;refine aA (M:=M) (A:=RT.fd) (B:=RT.str) cv rfl rfl I9 (by decide) (G3) rfl rfl (by decide) (by assumption) (by repeat (first|exact ar _ _|refine aT (bh (by assumption)) ?_)) (fun gg QE=>?_);refine ae ⟨rfl,rfl,rfl,?_⟩;refine aY (M:=M) aM rfl rfl rfl rfl rfl QE (ar _ _) (fun OG AV=>?_);obtain rfl:=dQ AV;refine ae ⟨rfl,rfl,rfl,?_⟩;refine aA (M:=M) (A:=RT.dc) (B:=(RT.fd).sl) a7 rfl rfl qx (by decide) (AU) rfl rfl (by decide) (by assumption) (by repeat (first|exact ar _ _|refine aT (bh (by assumption)) ?_)) (fun OH Jk=>?_);refine ae ⟨rfl,rfl,rfl,?_⟩;refine aY (M:=M) bj rfl rfl rfl rfl rfl (by assumption) (by repeat (first|exact ar _ _|refine aT (bh (by assumption)) ?_)) (fun ahF QF=>?_);refine ae ⟨rfl,rfl,rfl,?_⟩;refine aj rfl rfl ?_;refine ae ⟨rfl,rfl,rfl,?_⟩;refine bS (M:=M) bj jz rfl rfl rfl QF (ar _ _) (by omega) (fun ahG z Jl acA=>?_)
       rw[aK]at Jl;refine ae ⟨rfl,rfl,rfl,?_⟩;refine aA (M:=M) (A:=RT.fd) (B:=RT.str) cv rfl rfl I9 (by decide) (G3) rfl rfl (by decide) (by assumption) (by repeat (first|exact ar _ _|refine aT (bh (by assumption)) ?_)) (fun acB Nb=>?_);refine ae ⟨rfl,rfl,rfl,?_⟩;refine aY (M:=M) aM rfl rfl rfl rfl rfl Nb (ar _ _) (fun acC Nc=>?_);obtain rfl:=dQ Nc;refine ae ⟨rfl,rfl,rfl,?_⟩;refine Rg.rL (p:=y.1) (q:=z.1) rfl rfl rfl ?_;obtain rfl:x=z:=aG (Cn.symm.trans Jl);refine ae ⟨rfl,rfl,rfl,?_⟩;refine dv ?_;refine bW rfl (fun Nd=>?_) (fun Nd=>?_)
       ·refine au (ak (al rfl rfl (ae (aW ?_))));have Jm:((d.2.take i).any fun g=>decide (g.1=x.1))=true:=tu.2 ⟨y,aQ (i:=j) (by rw[eE,if_pos (by omega)];exact Eg),by simpa using(by assumption)⟩;exact a8 rfl rfl ⟨by rw[Ef,lg,if_neg (by assumption),if_pos Jm],S.back⟩
       ·refine bg (ak (aj rfl rfl (bQ rfl rfl rfl (by omega) (al rfl rfl (ae ?_)))));refine⟨rfl,j+1,(.cons rfl (.cons rfl (.cons rfl (.cons rfl .nil)))),?_,?_⟩
        ·exact⟨hM,S,cQ,by omega,fun k y' h hc=>by
          rcases eT k j with h2|h2
          ·exact jU k y' h2 hc
          ·obtain rfl:k=j:=by omega
           rw[Eg]at hc;cases hc;assumption⟩
        ·omega
      ·refine cP (au (ak ?_));refine aA (M:=M) (A:=RT.dc) (B:=(RT.fd).sl) a7 rfl rfl qx (by decide) (AU) rfl rfl (by decide) (by assumption) (by repeat (first|exact ar _ _|refine aT (bh (by assumption)) ?_)) (fun ahH acD=>?_);refine aY (M:=M) bj rfl rfl rfl rfl rfl (by assumption) (by repeat (first|exact ar _ _|refine aT (bh (by assumption)) ?_)) (fun ahI QG=>?_);refine aj rfl rfl ?_;refine bS (M:=M) bj jz rfl rfl rfl QG (ar _ _) (by omega) (fun ahJ z Jn acE=>?_);rw[aK]at Jn;refine aA (M:=M) (A:=RT.fd) (B:=RT.str) cv rfl rfl I9 (by decide) (Oz) rfl rfl (by decide) (by assumption) (by repeat (first|exact ar _ _|refine aT (bh (by assumption)) ?_)) (fun ahK QH=>?_);refine aY (M:=M) aM rfl rfl rfl rfl rfl QH (ar _ _) (fun ahL QI=>?_);obtain rfl:=dQ QI;obtain rfl:x=z:=aG (Cn.symm.trans Jn);refine aS rfl rfl abq (Ec _ hM wk.2) (fun r15 VQ hc=>?_);obtain⟨⟨u15,rfl,acF⟩,AW⟩:=hc;replace cQ:=cQ.le (by decide) AW.le;replace hM:=AW.lt hM;have:=S.size;replace S:=S.aE AW;refine aj rfl rfl (b5 rfl rfl rfl (b5 rfl rfl rfl (al rfl rfl (al rfl rfl (ae (au (au (ak (aj rfl rfl (eC rfl rfl rfl (ae ?_)))))))))));refine bW rfl (fun TX=>?_) (fun TX=>?_)
       ·refine au (ak (aj rfl rfl (al rfl rfl (ae (aW ?_)))))
        have Jm:((d.2.take i).any fun g=>decide (g.1=x.1))=false:=fp.2 fun h=>by
         obtain⟨y,hy,he⟩:=tu.1 h;obtain⟨k,hk⟩:=cg.1 hy;rw[eE]at hk
         split at hk
         ·exact jU k y (by omega) hk (by simpa using he)
         ·cases hk
        exact a8 rfl rfl ⟨by rw[Ef,lg,if_neg (by assumption),if_neg (by rw[Jm];simp),if_pos TX];rfl,S.back⟩
       ·refine bg (ak (aj rfl rfl ?_));have VK:mg 0 (words x.2)=0:=Classical.not_not.1 TX;obtain⟨a,cap,rfl⟩:=acF VK;have Z7:=lV x.2;refine aj rfl rfl (Rg.IH Tryz.underlying222 rfl rfl (bQ rfl rfl rfl (by omega) (al rfl rfl (ae (ak (aj rfl rfl (bQ rfl rfl rfl (by omega) (al rfl rfl (ae ?_)))))))))
        have Jm:((d.2.take i).any fun g=>decide (g.1=x.1))=false:=fp.2 fun h=>by
         obtain⟨y,hy,he⟩:=tu.1 h;obtain⟨k,hk⟩:=cg.1 hy;rw[eE]at hk
         split at hk
         ·exact jU k y (by omega) hk (by simpa using he)
         ·cases hk
        refine⟨rfl,(i+1,n+(words x.2).length),(.cons rfl (.cons rfl (.cons rfl .nil))),?_,?_⟩
        ·exact⟨hM,S,cQ,by rw[Ef,lg,if_neg (by assumption),if_neg (by rw[Jm];simp),if_neg TX],by dsimp only;omega,by dsimp only;omega,Z8⟩
        ·dsimp only;omega
   ·refine cP (au (au (ak (aj rfl rfl (hY rfl rfl rfl (ae ?_))))));refine bW rfl (fun c19=>?_) (fun c19=>?_)
    ·refine au (ak (al rfl rfl (ae (aW ?_))));exact a8 rfl rfl ⟨by rw[Ef,si (by omega),if_pos (by omega)],S.back⟩
    ·refine bg (au (ak (al rfl rfl (ae (aW ?_)))));exact a8 rfl rfl ⟨by rw[Ef,si (by omega),if_neg (by omega)],S.back⟩
def Co:List (List UInt8):=[[116],[117],[118],[119]]
def fixF (i:Nat) (x:Fd):Fd:=(if ga x.1=true then x.1 else Co.getD i [],x.2.take 40)
def nG (id:Int):Nat→List Fd→List Fd→List Fd
 |_,out,[]=>out
 |i,out,x::fs=>if i<4 then(if nc (id,out++[fixF i x])=0 then nG id (i+1) (out++[fixF i x]) fs else nG id (i+1) out fs)else out
def oR (d:Dc):Dc:=(d.1,nG d.1 0 [] d.2)
def rp (l:List Fd):Prop:=∀x∈l,x.1.length≤12∧x.2.length≤40
theorem Cp {s:List UInt8} (h:ga s=true):s.length≤12:=by
 simp only[ga,bZ,decide_eq_true_eq]at h;omega
theorem xm {i:Nat} (x:Fd) (hi:i<4):(fixF i x).1.length≤12∧(fixF i x).2.length≤40:=by
 refine⟨?_,by simp only[fixF,bU];omega⟩;unfold fixF;dsimp only
 split
 ·exact Cp (by assumption)
 ·have h:i=0∨i=1∨i=2∨i=3:=by omega
  rcases h with rfl|rfl|rfl|rfl<;>decide
theorem rp.snoc {l:List Fd} {x:Fd} (h:rp l) (hx:x.1.length≤12∧x.2.length≤40):rp (l++[x]):=fun y hy=>by
 rcases dE.1 hy with hy|hy
 ·exact h y hy
 ·rw[cT.1 hy];exact hx
theorem Jo {id:Int} {fs:List Fd} {i:Nat} {out:List Fd} {x:Fd} (h:fs[i]? =some x) (hi:i<4):nG id i out (fs.drop i)=if nc (id,out++[fixF i x])=0 then nG id (i+1) (out++[fixF i x]) (fs.drop (i+1))else nG id (i+1) out (fs.drop (i+1)):=by
 have ek:=(aF.1 h).1;rw[dV ek,(aF.1 h).2];show(if i<4 then _ else _)=_;rw[if_pos hi]
theorem zE {id:Int} {fs:List Fd} {i:Nat} {out:List Fd} (h:fs.length≤i∨4≤i):nG id i out (fs.drop i)=out:=by
 cases hd:fs.drop i with
 |nil=>rfl
 |cons x r=>
  show(if i<4 then _ else _)=_;rw[if_neg];rcases h with h|h
  ·rw[lx h]at hd;cases hd
  ·omega
theorem Cq (l:List UInt8):l.take (min (l.length:Int) 40).toNat=l.take 40:=by
 by_cases h:l.length≤40
 ·rw[bm (by omega),bm h]
 ·congr 1;omega
theorem G7 {M:aU} {d:Dc} {v0:Value} (w0:World) (hM:Lt M w0) (hv:RT.dc.V M w0 d v0):
  Spec Tryz.prog 65 #[v0] w0 (fun v w=>RT.dc.V M w (oR d) v∧Step M w0 M w aN):=by
 have fZ:=hM
 have Z9: -9223372036854775808≤d.1∧d.1≤9223372036854775807:=by
  obtain⟨vs,⟨va,vb,_,⟨_,h1,h2⟩,_⟩,_⟩:=hv;exact⟨h1,h2⟩
 refine bE (args:=[_]) (fn:=Tryz.f65) Tryz.func65 rfl (n:=67) Tryz.ntmps65 ?_;have S:Step M w0 M w0 aN:=(ah _ _).cD (fun _ h=>h.elim) (fun _ h=>h.elim);refine au (ak ?_);refine eG (A:=RT.dc) rfl rfl hM hv rfl (fun u0 w1 cQ s0 _=>?_);replace hM:=s0.lt hM;have:=S.size;replace S:=S.aE s0;refine eu M lN rfl (fun iS nd G8 G9 eN ja=>?_);obtain⟨dR,jj⟩:∃M',M'=ins M iS:=⟨_,rfl⟩;rw[←jj]at ja;have ed:dR iS:=by rw[jj];exact .inl rfl
 change nd.heap[iS]? =some (.cells #[.int .i64 0,.slice none 0 0] _ _)at eN;replace cQ:=cQ.le (by decide) ja.le;replace hM:=ja.lt hM;have:=S.size;replace S:=S.aE ja;refine ae (au (ak ?_));refine aA (M:=dR) (A:=RT.dc) (B:=RT.int .i64) a7 rfl rfl I3 (by decide) (TW) rfl rfl (by decide) (by assumption) (by repeat (first|exact ar _ _|refine aT (bh (by assumption)) ?_)) (fun tU jR=>?_);refine bK (M:=dR) aB rfl rfl (by assumption) (by repeat (first|exact ar _ _|refine aT (bh (by assumption)) ?_)) (fun OI=>?_);refine eF (places:=[(0,1),(1,1)]) a7 lN UU rfl ⟨_,_,rfl,rfl,rfl⟩ (out:=[_,.slice none 0 0]) ⟨0,[_],rfl,rfl,by simp[Value.cells],rfl⟩ ?_;refine eu dR lN rfl (fun o2 Cc VR VS jA s1_3=>?_);obtain⟨iK,pN⟩:∃M',M'=ins dR o2:=⟨_,rfl⟩;rw[←pN]at s1_3;have gr:iK o2:=by rw[pN];exact .inl rfl
 change Cc.heap[o2]? =some (.cells #[.int .i64 0,.slice none 0 0] _ _)at jA;have:=av eN;replace ed:=(s1_3.mem _ this).2 ed;replace eN:=s1_3.aX eN;replace cQ:=cQ.le (by decide) s1_3.le;replace hM:=s1_3.lt hM;have:=S.size;replace S:=S.aE s1_3;refine eB (M:=iK) (vs:=[.int .i64 d.1,.slice none 0 0]) lN rfl rfl (by intro u hu;simp at hu;rcases hu with rfl|rfl<;>first|rfl|exact iV (by assumption) rfl rfl) rfl rfl jA gr (fun w1b acG QK=>?_);have:=av eN;replace ed:=(QK.mem _ this).2 ed;replace eN:=QK.b9 eN (fun hk=>by have hk:_=_:=hk;omega);have:=av jA;replace gr:=(QK.mem _ this).2 gr;replace cQ:=cQ.le (by decide) QK.le;replace hM:=QK.lt hM;have:=S.size;replace S:=S.trans QK (fun k hk h=>by have h:_=_:=h;subst h;first|(exfalso;omega)|(show _≤_;omega)|exact⟨by first|omega|assumption,(S.mem _ hk).1 ((QK.mem _ (av jA)).1 gr)⟩|exact .inl rfl|exact .inr rfl|exact .inr (.inl rfl)|exact .inr (.inr rfl)|exact rfl);have uI:=acG;clear jA;have jA:=uI;clear uI;refine ae (au (ak ?_));refine Rg.ZR (A:=RT.str) (hn:=by decide) (M:=iK) (xs:=Co) aJ I9 rfl (by decide) rfl ⟨_,_,_,rfl,rfl,rfl,jM.2 ⟨rfl,by decide⟩,_,_,_,rfl,rfl,rfl,jM.2 ⟨rfl,by decide⟩,_,_,_,rfl,rfl,rfl,jM.2 ⟨rfl,by decide⟩,_,_,_,rfl,rfl,rfl,jM.2 ⟨rfl,by decide⟩,rfl⟩ rfl hM (.inr ⟨rfl,rfl⟩) (by decide) (fun u2 w2 dP s2=>?_);have:=av eN;replace ed:=(s2.mem _ this).2 ed;replace eN:=s2.aX eN;have:=av jA;replace gr:=(s2.mem _ this).2 gr;replace jA:=s2.aX jA;replace cQ:=cQ.le (by decide) s2.le;replace hM:=s2.lt hM;have:=S.size;replace S:=S.aE s2;refine al rfl rfl (ae (au (au (ak (al rfl rfl (ae (bu ?_)))))));refine de (σ:=Nat×List Fd) (fun q=>[(1,u0),(2,.pointer (some ⟨iS,0,none⟩)),(3,.pointer (some ⟨o2,0,none⟩)),(4,u2),(5,.int .i64 (q.1:Int))]) (fun q w=>∃M' uo,Lt M' w∧Step M w0 M' w aN∧bL RT.dc M' w u0 d∧(RT.str.sl).V M' w Co u2∧w.heap[iS]? =some (.cells #[.int .i64 0,.slice none 0 0] 41 (0,0))∧M' iS∧w.heap[o2]? =some (.cells #[.int .i64 d.1,uo] 41 (0,0))∧M' o2∧(RT.fd.sl).V M' w q.2 uo∧nG d.1 0 [] d.2=nG d.1 q.1 q.2 (d.2.drop q.1)∧q.1≤d.2.length∧q.1≤4∧rp q.2∧q.2.length≤q.1) (fun q=>d.2.length-q.1) (0,[]) (.cons rfl (.cons rfl (.cons rfl (.cons rfl (.cons rfl .nil))))) ?_ ?_
 ·exact⟨_,.slice none 0 0,hM,S,cQ,dP,eN,ed,jA,gr,jD,rfl,bM _,bM _,(fun x hx=>by cases hx),bw _⟩
 ·rintro⟨i,out⟩ w ⟨M1,uo,hM,S,cQ,dP,g2,cB,g3,ff,jX,tR,hi,acH,Ar,ix⟩;dsimp only at g3 jX tR hi acH Ar ix ⊢;refine au (au (ak (aj rfl rfl ?_)));refine aA (M:=M1) (A:=RT.dc) (B:=(RT.fd).sl) a7 rfl rfl qx (by decide) (AU) rfl rfl (by decide) (by assumption) (by repeat (first|exact ar _ _|refine aT (bh (by assumption)) ?_)) (fun acq ahM=>?_);refine aY (M:=M1) bj rfl rfl rfl rfl rfl (by assumption) (by repeat (first|exact ar _ _|refine aT (bh (by assumption)) ?_)) (fun QL FQ=>?_);refine bF bj rfl FQ rfl (cu rfl rfl rfl (aj rfl rfl ?_));refine aZ (g:=18) rfl (fun Eh=>?_) (fun Eh=>?_)
  ·refine aq rfl rfl (aj rfl rfl (aq rfl rfl (cu rfl rfl rfl (aR rfl rfl rfl (ae ?_)))));refine bW rfl (fun c4=>?_) (fun c4=>?_)
   ·refine bg (au (bu (au (ak ?_))));refine aA (M:=M1) (A:=RT.dc) (B:=(RT.fd).sl) a7 rfl rfl qx (by decide) (AU) rfl rfl (by decide) (by assumption) (by repeat (first|exact ar _ _|refine aT (bh (by assumption)) ?_)) (fun QM FR=>?_);refine aY (M:=M1) bj rfl rfl rfl rfl rfl (by assumption) (by repeat (first|exact ar _ _|refine aT (bh (by assumption)) ?_)) (fun Jp pO=>?_);refine aj rfl rfl ?_;refine bS (M:=M1) bj jz rfl rfl rfl pO (ar _ _) (by omega) (fun u6 x HT MW=>?_);rw[aK]at HT;have ZQ:i<4:=by omega
    have hga:=Jo (id:=d.1) (out:=out) HT ZQ;have OJ:=xm x ZQ;refine cc (M:=M1) (A:=RT.fd) cv rfl jz (by decide) rfl rfl rfl MW (ar _ _) (fun v6 nS=>?_);obtain rfl:=iB nS;have hxb:=tT nS;refine eu M1 jz rfl (fun QN acI aln alo dT yT=>?_);obtain⟨mi,Jq⟩:∃M',M'=ins M1 QN:=⟨_,rfl⟩;rw[←Jq]at yT;have dn:mi QN:=by rw[Jq];exact .inl rfl
    change acI.heap[QN]? =some (.cells #[.string ⟨#[]⟩,.string ⟨#[]⟩] _ _)at dT;have:=av g2;replace cB:=(yT.mem _ this).2 cB;replace g2:=yT.aX g2;have:=av g3;replace ff:=(yT.mem _ this).2 ff;replace g3:=yT.aX g3;replace cQ:=cQ.le (by decide) yT.le;replace dP:=dP.le yT.le;replace jX:=jX.le yT.le;replace hM:=yT.lt hM;have:=S.size;replace S:=S.aE yT;refine eB (M:=mi) (vs:=[.string ⟨x.1.toArray⟩,.string ⟨x.2.toArray⟩]) jz rfl rfl (by intro u hu;simp at hu;rcases hu with rfl|rfl<;>first|rfl|exact iV (by assumption) rfl rfl) rfl rfl dT dn (fun w6b acJ Jr=>?_);have:=av g2;replace cB:=(Jr.mem _ this).2 cB;replace g2:=Jr.b9 g2 (fun hk=>by have hk:_=_:=hk;omega);have:=av g3;replace ff:=(Jr.mem _ this).2 ff;replace g3:=Jr.b9 g3 (fun hk=>by have hk:_=_:=hk;omega);have:=av dT;replace dn:=(Jr.mem _ this).2 dn;replace cQ:=cQ.le (by decide) Jr.le;replace dP:=dP.le Jr.le;replace jX:=jX.le Jr.le;replace hM:=Jr.lt hM;have:=S.size;replace S:=S.trans Jr (fun k hk h=>by have h:_=_:=h;subst h;first|(exfalso;omega)|(show _≤_;omega)|exact⟨by first|omega|assumption,(S.mem _ hk).1 ((Jr.mem _ (av dT)).1 dn)⟩|exact .inl rfl|exact .inr rfl|exact .inr (.inl rfl)|exact .inr (.inr rfl)|exact rfl);have pP:=acJ;clear dT;have dT:=pP;clear pP;refine ae (au (ak (bI (o':=0) cv rfl rfl I9 (by decide) rfl rfl (br aM rfl rfl rfl (by assumption) rfl ?_))));refine aS rfl rfl UY (xl x.1 hxb.1 _) (fun r7 w7 hc=>?_);obtain⟨rfl,rfl⟩:=hc;refine al rfl rfl (ae (au (au (ak (aj rfl rfl (fP rfl rfl (bO (v':= .bool (decide (ga x.1=false))) (by cases ga x.1<;>rfl) (ae ?_))))))));refine bW rfl (fun c8=>?_) (fun c8=>?_)
    ·refine ak (aj rfl rfl (aj rfl rfl ?_));refine bS (M:=mi) aJ I9 rfl rfl rfl dP (ar _ _) (by have:Co.length=4:=rfl;omega) (fun u9 y OK vC=>?_);rw[aK]at OK;refine aY (M:=mi) aM rfl rfl rfl rfl rfl vC (ar _ _) (fun v9 qi=>?_);obtain rfl:=dQ qi
     obtain rfl:y=(fixF i x).1:=by
      show y=if ga x.1=true then x.1 else Co.getD i []
      rw[if_neg (by rw[c8];simp),dN,OK];rfl
     refine bI (o':=0) cv rfl rfl I9 (by decide) rfl rfl ?_;refine cw (M:=mi) I9 rfl rfl dT rfl (rfl) dn (fun VB Nf pL=>?_);change VB.heap[_]? =some (Obj.cells #[.string ⟨((fixF i x).1).toArray⟩,.string ⟨x.2.toArray⟩] _ _)at Nf;have:=av g2;replace cB:=(pL.mem _ this).2 cB;replace g2:=pL.b9 g2 (fun hk=>by have hk:_=_:=hk;omega);have:=av g3;replace ff:=(pL.mem _ this).2 ff;replace g3:=pL.b9 g3 (fun hk=>by have hk:_=_:=hk;omega);have:=av dT;replace dn:=(pL.mem _ this).2 dn;replace cQ:=cQ.le (by decide) pL.le;replace dP:=dP.le pL.le;replace jX:=jX.le pL.le;replace hM:=pL.lt hM;have:=S.size;replace S:=S.trans pL (fun k hk h=>by have h:_=_:=h;subst h;first|(exfalso;omega)|(show _≤_;omega)|exact⟨by first|omega|assumption,(S.mem _ hk).1 ((pL.mem _ (av dT)).1 dn)⟩|exact .inl rfl|exact .inr rfl|exact .inr (.inl rfl)|exact .inr (.inr rfl)|exact rfl);have pP:=Nf;clear dT;have dT:=pP;clear pP;refine ae (au (ak (bI (o':=1) cv rfl rfl I9 (by decide) rfl rfl (br aM rfl rfl rfl (by assumption) rfl (bI (o':=1) cv rfl rfl I9 (by decide) rfl rfl (br aM rfl rfl rfl (by assumption) rfl (vJ aM rfl rfl (bO (v':= .int .i64 (x.2.length:Int)) (by simp[ByteArray.size]) (Rg.min2 rfl rfl rfl (Rg.IK aM rfl rfl rfl (by omega) (bO (v':= .string ⟨((fixF i x).2).toArray⟩) (by rw[Cq];rfl) ?_)))))))))));refine bI (o':=1) cv rfl rfl I9 (by decide) rfl rfl ?_;refine cw (M:=mi) I9 rfl rfl dT rfl (rfl) dn (fun FM Cr gC=>?_);change FM.heap[_]? =some (Obj.cells #[.string ⟨((fixF i x).1).toArray⟩,.string ⟨((fixF i x).2).toArray⟩] _ _)at Cr;have:=av g2;replace cB:=(gC.mem _ this).2 cB;replace g2:=gC.b9 g2 (fun hk=>by have hk:_=_:=hk;omega);have:=av g3
     replace ff:=(gC.mem _ this).2 ff;replace g3:=gC.b9 g3 (fun hk=>by have hk:_=_:=hk;omega);have:=av dT;replace dn:=(gC.mem _ this).2 dn;replace cQ:=cQ.le (by decide) gC.le;replace dP:=dP.le gC.le;replace jX:=jX.le gC.le;replace hM:=gC.lt hM;have:=S.size;replace S:=S.trans gC (fun k hk h=>by have h:_=_:=h;subst h;first|(exfalso;omega)|(show _≤_;omega)|exact⟨by first|omega|assumption,(S.mem _ hk).1 ((gC.mem _ (av dT)).1 dn)⟩|exact .inl rfl|exact .inr rfl|exact .inr (.inl rfl)|exact .inr (.inr rfl)|exact rfl);have pP:=Cr;clear dT;have dT:=pP;clear pP;refine ae (au (ak ?_));refine aA (M:=mi) (A:=RT.dc) (B:=RT.int .i64) a7 rfl rfl I3 (by decide) (TW) rfl rfl (by decide) (by assumption) (by repeat (first|exact ar _ _|refine aT (bh (by assumption)) ?_)) (fun Js Ei=>?_);refine bK (M:=mi) aB rfl rfl (by assumption) (by repeat (first|exact ar _ _|refine aT (bh (by assumption)) ?_)) (fun QO=>?_);refine eF (places:=[(0,1),(1,1)]) a7 lN UU rfl ⟨_,_,rfl,rfl,rfl⟩ (out:=[_,.slice none 0 0]) ⟨0,[_],rfl,rfl,by simp[Value.cells],rfl⟩ ?_;refine eu mi lN rfl (fun xn Cs VT VU dd fI=>?_);obtain⟨rq,sm⟩:∃M',M'=ins mi xn:=⟨_,rfl⟩;rw[←sm]at fI;have cZ:rq xn:=by rw[sm];exact .inl rfl
     change Cs.heap[xn]? =some (.cells #[.int .i64 0,.slice none 0 0] _ _)at dd;have:=av g2;replace cB:=(fI.mem _ this).2 cB;replace g2:=fI.aX g2;have:=av g3;replace ff:=(fI.mem _ this).2 ff;replace g3:=fI.aX g3;have:=av dT;replace dn:=(fI.mem _ this).2 dn;replace dT:=fI.aX dT;replace cQ:=cQ.le (by decide) fI.le;replace dP:=dP.le fI.le;replace jX:=jX.le fI.le;replace hM:=fI.lt hM;have:=S.size;replace S:=S.aE fI;refine eB (M:=rq) (vs:=[.int .i64 d.1,.slice none 0 0]) lN rfl rfl (by intro u hu;simp at hu;rcases hu with rfl|rfl<;>first|rfl|exact iV (by assumption) rfl rfl) rfl rfl dd cZ (fun AX Jt kQ=>?_);have:=av g2;replace cB:=(kQ.mem _ this).2 cB;replace g2:=kQ.b9 g2 (fun hk=>by have hk:_=_:=hk;omega);have:=av g3;replace ff:=(kQ.mem _ this).2 ff;replace g3:=kQ.b9 g3 (fun hk=>by have hk:_=_:=hk;omega);have:=av dT;replace dn:=(kQ.mem _ this).2 dn;replace dT:=kQ.b9 dT (fun hk=>by have hk:_=_:=hk;omega);have:=av dd;replace cZ:=(kQ.mem _ this).2 cZ;replace cQ:=cQ.le (by decide) kQ.le;replace dP:=dP.le kQ.le;replace jX:=jX.le kQ.le;replace hM:=kQ.lt hM;have:=S.size;replace S:=S.trans kQ (fun k hk h=>by have h:_=_:=h;subst h;first|(exfalso;omega)|(show _≤_;omega)|exact⟨by first|omega|assumption,(S.mem _ hk).1 ((kQ.mem _ (av dd)).1 cZ)⟩|exact .inl rfl|exact .inr rfl|exact .inr (.inl rfl)|exact .inr (.inr rfl)|exact rfl);have jk:=Jt;clear dd;have dd:=jk;clear jk;refine ae (au (ak (bI (o':=1) a7 rfl rfl qx (by decide) rfl rfl (br bj rfl rfl rfl (by assumption) rfl (bI (o':=1) a7 rfl rfl qx (by decide) rfl rfl (br bj rfl rfl rfl (by assumption) rfl ?_))))));have dB:=Own.OA RT.fd 127 AX.heap.size hM
     have acK:=av dT;have Ju:w0.heap.size≤AX.heap.size:=S.size;refine cz (M:=rq) (base:=AX.heap.size) bj jz rfl rfl rfl rfl dB jX (ar _ _) (by simp;omega) (by simp;omega) (bw _) (fun xi pK Jc rn fe=>?_);have:=av g2;replace cB:=(fe.mem _ this).2 cB;replace g2:=fe.b9 g2 (fun h=>by first|exact dB.dZ g2 h|exact dB.fc g2 (by decide) h|(have:=(dB.base _ h).1;omega));have:=av g3;replace ff:=(fe.mem _ this).2 ff;replace g3:=fe.b9 g3 (fun h=>by first|exact dB.dZ g3 h|exact dB.fc g3 (by decide) h|(have:=(dB.base _ h).1;omega));have:=av dT;replace dn:=(fe.mem _ this).2 dn;replace dT:=fe.b9 dT (fun h=>by first|exact dB.dZ dT h|exact dB.fc dT (by decide) h|(have:=(dB.base _ h).1;omega));have:=av dd;replace cZ:=(fe.mem _ this).2 cZ;replace dd:=fe.b9 dd (fun h=>by first|exact dB.dZ dd h|exact dB.fc dd (by decide) h|(have:=(dB.base _ h).1;omega));replace cQ:=cQ.le (by decide) fe.le;replace dP:=dP.le fe.le;replace jX:=jX.le fe.le;replace hM:=fe.lt hM;have:=S.size;replace S:=S.cJ fe dB Ju;replace dB:=rn;refine bI (o':=1) a7 rfl rfl qx (by decide) rfl rfl ?_;refine cw (M:=pK) qx rfl rfl dd rfl ((by obtain⟨_,_,he,_⟩:=dB.isSlice;rw[he];rfl)) cZ (fun Jv Ct gu=>?_);change Jv.heap[_]? =some (Obj.cells #[.int .i64 d.1,xi] _ _)at Ct;have:=av g2;replace cB:=(gu.mem _ this).2 cB;replace g2:=gu.b9 g2 (fun hk=>by have hk:_=_:=hk;omega);have:=av g3;replace ff:=(gu.mem _ this).2 ff;replace g3:=gu.b9 g3 (fun hk=>by have hk:_=_:=hk;omega);have:=av dT;replace dn:=(gu.mem _ this).2 dn;replace dT:=gu.b9 dT (fun hk=>by have hk:_=_:=hk;omega);have:=av dd;replace cZ:=(gu.mem _ this).2 cZ
     replace cQ:=cQ.le (by decide) gu.le;replace dP:=dP.le gu.le;replace jX:=jX.le gu.le;replace dB:=dB.step gu (fun b hb hk=>by have hk:_=_:=hk;have:=(dB.base b hb);omega);replace hM:=gu.lt hM;have:=S.size;replace S:=S.trans gu (fun k hk h=>by have h:_=_:=h;subst h;first|(exfalso;omega)|(show _≤_;omega)|exact⟨by first|omega|assumption,(S.mem _ hk).1 ((gu.mem _ (av dd)).1 cZ)⟩|exact .inl rfl|exact .inr rfl|exact .inr (.inl rfl)|exact .inr (.inr rfl)|exact rfl);have jk:=Ct;clear dd;have dd:=jk;clear jk;refine ae (au (ak (bI (o':=1) a7 rfl rfl qx (by decide) rfl rfl (br bj rfl rfl rfl (by assumption) rfl (gQ (vs:=[.string ⟨((fixF i x).1).toArray⟩,.string ⟨((fixF i x).2).toArray⟩]) cv rfl jz rfl rfl rfl dT ?_)))));refine ez (A:=RT.fd) (hn:=by decide) (M:=pK) bj jz (by decide) rfl rfl hM (show RT.fd.V _ _ (fixF i x) _ from eS (jM.2 ⟨rfl,dJ OJ.1 (by decide)⟩) (jM.2 ⟨rfl,dJ OJ.2 (by decide)⟩) rfl rfl rfl rfl) (.inl rfl) (fun OF VV fW gv=>?_);have:=av g2;replace cB:=(gv.mem _ this).2 cB;replace g2:=gv.aX g2;have:=av g3;replace ff:=(gv.mem _ this).2 ff;replace g3:=gv.aX g3;have:=av dT;replace dn:=(gv.mem _ this).2 dn;replace dT:=gv.aX dT;have:=av dd;replace cZ:=(gv.mem _ this).2 cZ;replace dd:=gv.aX dd;replace cQ:=cQ.le (by decide) gv.le;replace dP:=dP.le gv.le;replace jX:=jX.le gv.le;replace dB:=dB.bC gv;replace hM:=gv.lt hM;have:=S.size;replace S:=S.aE gv;refine cz (M:=pK) (base:=AX.heap.size) bj jz rfl rfl rfl rfl dB fW (ar _ _) (by simp;omega) (by simp;omega) (by have:=fe.size;have:=gu.size;have:=gv.size;omega) (fun gg mj VW Ej gM=>?_);have:=av g2
     replace cB:=(gM.mem _ this).2 cB;replace g2:=gM.b9 g2 (fun h=>by first|exact dB.dZ g2 h|exact dB.fc g2 (by decide) h|(have:=(dB.base _ h).1;omega));have:=av g3;replace ff:=(gM.mem _ this).2 ff;replace g3:=gM.b9 g3 (fun h=>by first|exact dB.dZ g3 h|exact dB.fc g3 (by decide) h|(have:=(dB.base _ h).1;omega));have:=av dT;replace dn:=(gM.mem _ this).2 dn;replace dT:=gM.b9 dT (fun h=>by first|exact dB.dZ dT h|exact dB.fc dT (by decide) h|(have:=(dB.base _ h).1;omega));have:=av dd;replace cZ:=(gM.mem _ this).2 cZ;replace dd:=gM.b9 dd (fun h=>by first|exact dB.dZ dd h|exact dB.fc dd (by decide) h|(have:=(dB.base _ h).1;omega));replace cQ:=cQ.le (by decide) gM.le;replace dP:=dP.le gM.le;replace jX:=jX.le gM.le;replace fW:=fW.le gM.le;replace hM:=gM.lt hM;have:=S.size;replace S:=S.cJ gM dB Ju;replace dB:=Ej;refine bI (o':=1) a7 rfl rfl qx (by decide) rfl rfl ?_;refine cw (M:=mj) qx rfl rfl dd rfl ((by obtain⟨_,_,he,_⟩:=dB.isSlice;rw[he];rfl)) cZ (fun Jw Cv gw=>?_);change Jw.heap[_]? =some (Obj.cells #[.int .i64 d.1,gg] _ _)at Cv;have:=av g2;replace cB:=(gw.mem _ this).2 cB;replace g2:=gw.b9 g2 (fun hk=>by have hk:_=_:=hk;omega);have:=av g3;replace ff:=(gw.mem _ this).2 ff;replace g3:=gw.b9 g3 (fun hk=>by have hk:_=_:=hk;omega);have:=av dT;replace dn:=(gw.mem _ this).2 dn;replace dT:=gw.b9 dT (fun hk=>by have hk:_=_:=hk;omega);have:=av dd;replace cZ:=(gw.mem _ this).2 cZ;replace cQ:=cQ.le (by decide) gw.le;replace dP:=dP.le gw.le;replace jX:=jX.le gw.le;replace fW:=fW.le gw.le;replace dB:=dB.step gw (fun b hb hk=>by have hk:_=_:=hk;have:=(dB.base b hb);omega);replace hM:=gw.lt hM;have:=S.size
     replace S:=S.trans gw (fun k hk h=>by have h:_=_:=h;subst h;first|(exfalso;omega)|(show _≤_;omega)|exact⟨by first|omega|assumption,(S.mem _ hk).1 ((gw.mem _ (av dd)).1 cZ)⟩|exact .inl rfl|exact .inr rfl|exact .inr (.inl rfl)|exact .inr (.inr rfl)|exact rfl);have jk:=Cv;clear dd;have dd:=jk;clear jk;refine ae (au (ak (gQ (vs:=[.int .i64 d.1,gg]) a7 rfl lN rfl rfl rfl dd ?_)));have tj:=dB.view (hn:=by decide) (by simp;omega);replace cB:rm mj gg _:=⟨cB,by first|exact dB.fc g2 (by decide)|(intro h;have:=(dB.base _ h).1;omega)⟩;replace ff:rm mj gg _:=⟨ff,by first|exact dB.fc g3 (by decide)|(intro h;have:=(dB.base _ h).1;omega)⟩;replace dn:rm mj gg _:=⟨dn,by first|exact dB.fc dT (by decide)|(intro h;have:=(dB.base _ h).1;omega)⟩;replace cZ:rm mj gg _:=⟨cZ,by first|exact dB.fc dd (by decide)|(intro h;have:=(dB.base _ h).1;omega)⟩;replace cQ:=cQ.le (by decide) (rR _ gg _);replace dP:=dP.le (rR _ gg _);replace jX:=jX.le (rR _ gg _);replace fW:=fW.le (rR _ gg _);replace hM:Lt (rm mj gg) _:=fun b hb=>hM b hb.1
     replace S:=S.freeze (v:=gg) (fun b hb=>by have:=(dB.base b hb).1;omega);clear dB;refine aS rfl rfl UZ (zD (d:=(d.1,[]++out++[fixF i x])) _ hM (eS (ie Z9) tj rfl rfl rfl rfl) (fun y hy=>by have:=(Ar.snoc OJ) y (by simpa using hy);omega)) (fun r14 VX hc=>?_);obtain⟨rfl,lu⟩:=hc;rw[fz]at tj;have:=av g2;replace cB:=(lu.mem _ this).2 cB;replace g2:=lu.aX g2;have:=av g3;replace ff:=(lu.mem _ this).2 ff;replace g3:=lu.aX g3;have:=av dT;replace dn:=(lu.mem _ this).2 dn;replace dT:=lu.aX dT;have:=av dd;replace cZ:=(lu.mem _ this).2 cZ;replace dd:=lu.aX dd;replace cQ:=cQ.le (by decide) lu.le;replace dP:=dP.le lu.le;replace jX:=jX.le lu.le;replace fW:=fW.le lu.le;replace tj:=tj.le lu.le;replace hM:=lu.lt hM;have:=S.size;replace S:=S.aE lu;refine iE rfl rfl rfl (bO (v':= .bool (decide (nc (d.1,out++[fixF i x])=0))) (by rw[fz]) (ae ?_));refine bW rfl (fun QP=>?_) (fun QP=>?_)
     ·refine ak (gQ (vs:=[.int .i64 d.1,gg]) a7 rfl lN rfl rfl rfl dd ?_);refine eB (M:=rm mj gg) (vs:=[.int .i64 d.1,gg]) lN rfl rfl (by intro u hu;simp at hu;rcases hu with rfl|rfl<;>first|rfl|exact iV (by assumption) rfl rfl) rfl rfl g3 ff (fun acL Jy j2=>?_);have:=av g2;replace cB:=(j2.mem _ this).2 cB;replace g2:=j2.b9 g2 (fun hk=>by have hk:_=_:=hk;omega);have:=av g3;replace ff:=(j2.mem _ this).2 ff;have:=av dT;replace dn:=(j2.mem _ this).2 dn;replace dT:=j2.b9 dT (fun hk=>by have hk:_=_:=hk;omega);have:=av dd;replace cZ:=(j2.mem _ this).2 cZ;replace dd:=j2.b9 dd (fun hk=>by have hk:_=_:=hk;omega);replace cQ:=cQ.le (by decide) j2.le;replace dP:=dP.le j2.le;replace jX:=jX.le j2.le;replace fW:=fW.le j2.le;replace tj:=tj.le j2.le;replace hM:=j2.lt hM;have:=S.size;replace S:=S.trans j2 (fun k hk h=>by have h:_=_:=h;subst h;first|(exfalso;omega)|(show _≤_;omega)|exact⟨by first|omega|assumption,(S.mem _ hk).1 ((j2.mem _ (av g3)).1 ff)⟩|exact .inl rfl|exact .inr rfl|exact .inr (.inl rfl)|exact .inr (.inr rfl)|exact rfl);have VY:=Jy;clear g3;have g3:=VY;clear VY;refine ae (ak (aj rfl rfl (bQ rfl rfl rfl (by omega) (al rfl rfl (ae ?_)))));refine⟨rfl,(i+1,out++[fixF i x]),(.cons rfl (.cons rfl (.cons rfl (.cons rfl (.cons rfl .nil))))),?_,?_⟩
      ·exact⟨_,_,hM,S,cQ,dP,g2,cB,g3,ff,tj,by rw[tR,hga,if_pos QP],by dsimp only;omega,by dsimp only;omega,Ar.snoc OJ,by simp;omega⟩
      ·dsimp only;omega
     ·refine bg (ak (aj rfl rfl (bQ rfl rfl rfl (by omega) (al rfl rfl (ae ?_)))));refine⟨rfl,(i+1,out),(.cons rfl (.cons rfl (.cons rfl (.cons rfl (.cons rfl .nil))))),?_,?_⟩
      ·exact⟨_,_,hM,S,cQ,dP,g2,cB,g3,ff,jX,by rw[tR,hga,if_neg QP],by dsimp only;omega,by dsimp only;omega,Ar,by dsimp only;omega⟩
      ·dsimp only;omega
    ·rw[show x.1=(fixF i x).1 from by show x.1=if ga x.1=true then x.1 else _;rw[if_pos (by cases hq:ga x.1 with|true=>rfl|false=>exact absurd hq c8)]]at dT;refine bg (au (ak (bI (o':=1) cv rfl rfl I9 (by decide) rfl rfl (br aM rfl rfl rfl (by assumption) rfl (bI (o':=1) cv rfl rfl I9 (by decide) rfl rfl (br aM rfl rfl rfl (by assumption) rfl (vJ aM rfl rfl (bO (v':= .int .i64 (x.2.length:Int)) (by simp[ByteArray.size]) (Rg.min2 rfl rfl rfl (Rg.IK aM rfl rfl rfl (by omega) (bO (v':= .string ⟨((fixF i x).2).toArray⟩) (by rw[Cq];rfl) ?_)))))))))));refine bI (o':=1) cv rfl rfl I9 (by decide) rfl rfl ?_;refine cw (M:=mi) I9 rfl rfl dT rfl (rfl) dn (fun FM Cr gC=>?_);change FM.heap[_]? =some (Obj.cells #[.string ⟨((fixF i x).1).toArray⟩,.string ⟨((fixF i x).2).toArray⟩] _ _)at Cr;have:=av g2;replace cB:=(gC.mem _ this).2 cB;replace g2:=gC.b9 g2 (fun hk=>by have hk:_=_:=hk;omega);have:=av g3;replace ff:=(gC.mem _ this).2 ff;replace g3:=gC.b9 g3 (fun hk=>by have hk:_=_:=hk;omega);have:=av dT;replace dn:=(gC.mem _ this).2 dn;replace cQ:=cQ.le (by decide) gC.le;replace dP:=dP.le gC.le;replace jX:=jX.le gC.le;replace hM:=gC.lt hM;have:=S.size;replace S:=S.trans gC (fun k hk h=>by have h:_=_:=h;subst h;first|(exfalso;omega)|(show _≤_;omega)|exact⟨by first|omega|assumption,(S.mem _ hk).1 ((gC.mem _ (av dT)).1 dn)⟩|exact .inl rfl|exact .inr rfl|exact .inr (.inl rfl)|exact .inr (.inr rfl)|exact rfl);have pP:=Cr;clear dT;have dT:=pP;clear pP;refine ae (au (ak ?_));refine aA (M:=mi) (A:=RT.dc) (B:=RT.int .i64) a7 rfl rfl I3 (by decide) (TW) rfl rfl (by decide) (by assumption) (by repeat (first|exact ar _ _|refine aT (bh (by assumption)) ?_)) (fun Js Ei=>?_)
     refine bK (M:=mi) aB rfl rfl (by assumption) (by repeat (first|exact ar _ _|refine aT (bh (by assumption)) ?_)) (fun QO=>?_);refine eF (places:=[(0,1),(1,1)]) a7 lN UU rfl ⟨_,_,rfl,rfl,rfl⟩ (out:=[_,.slice none 0 0]) ⟨0,[_],rfl,rfl,by simp[Value.cells],rfl⟩ ?_;refine eu mi lN rfl (fun xn Cs VT VU dd fI=>?_);obtain⟨rq,sm⟩:∃M',M'=ins mi xn:=⟨_,rfl⟩;rw[←sm]at fI;have cZ:rq xn:=by rw[sm];exact .inl rfl
     change Cs.heap[xn]? =some (.cells #[.int .i64 0,.slice none 0 0] _ _)at dd;have:=av g2;replace cB:=(fI.mem _ this).2 cB;replace g2:=fI.aX g2;have:=av g3;replace ff:=(fI.mem _ this).2 ff;replace g3:=fI.aX g3;have:=av dT;replace dn:=(fI.mem _ this).2 dn;replace dT:=fI.aX dT;replace cQ:=cQ.le (by decide) fI.le;replace dP:=dP.le fI.le;replace jX:=jX.le fI.le;replace hM:=fI.lt hM;have:=S.size;replace S:=S.aE fI;refine eB (M:=rq) (vs:=[.int .i64 d.1,.slice none 0 0]) lN rfl rfl (by intro u hu;simp at hu;rcases hu with rfl|rfl<;>first|rfl|exact iV (by assumption) rfl rfl) rfl rfl dd cZ (fun AX Jt kQ=>?_);have:=av g2;replace cB:=(kQ.mem _ this).2 cB;replace g2:=kQ.b9 g2 (fun hk=>by have hk:_=_:=hk;omega);have:=av g3;replace ff:=(kQ.mem _ this).2 ff;replace g3:=kQ.b9 g3 (fun hk=>by have hk:_=_:=hk;omega);have:=av dT;replace dn:=(kQ.mem _ this).2 dn;replace dT:=kQ.b9 dT (fun hk=>by have hk:_=_:=hk;omega);have:=av dd;replace cZ:=(kQ.mem _ this).2 cZ;replace cQ:=cQ.le (by decide) kQ.le;replace dP:=dP.le kQ.le;replace jX:=jX.le kQ.le;replace hM:=kQ.lt hM;have:=S.size;replace S:=S.trans kQ (fun k hk h=>by have h:_=_:=h;subst h;first|(exfalso;omega)|(show _≤_;omega)|exact⟨by first|omega|assumption,(S.mem _ hk).1 ((kQ.mem _ (av dd)).1 cZ)⟩|exact .inl rfl|exact .inr rfl|exact .inr (.inl rfl)|exact .inr (.inr rfl)|exact rfl);have jk:=Jt;clear dd;have dd:=jk;clear jk;refine ae (au (ak (bI (o':=1) a7 rfl rfl qx (by decide) rfl rfl (br bj rfl rfl rfl (by assumption) rfl (bI (o':=1) a7 rfl rfl qx (by decide) rfl rfl (br bj rfl rfl rfl (by assumption) rfl ?_))))));have dB:=Own.OA RT.fd 127 AX.heap.size hM
     have acK:=av dT;have Ju:w0.heap.size≤AX.heap.size:=S.size;refine cz (M:=rq) (base:=AX.heap.size) bj jz rfl rfl rfl rfl dB jX (ar _ _) (by simp;omega) (by simp;omega) (bw _) (fun xi pK Jc rn fe=>?_);have:=av g2;replace cB:=(fe.mem _ this).2 cB;replace g2:=fe.b9 g2 (fun h=>by first|exact dB.dZ g2 h|exact dB.fc g2 (by decide) h|(have:=(dB.base _ h).1;omega));have:=av g3;replace ff:=(fe.mem _ this).2 ff;replace g3:=fe.b9 g3 (fun h=>by first|exact dB.dZ g3 h|exact dB.fc g3 (by decide) h|(have:=(dB.base _ h).1;omega));have:=av dT;replace dn:=(fe.mem _ this).2 dn;replace dT:=fe.b9 dT (fun h=>by first|exact dB.dZ dT h|exact dB.fc dT (by decide) h|(have:=(dB.base _ h).1;omega));have:=av dd;replace cZ:=(fe.mem _ this).2 cZ;replace dd:=fe.b9 dd (fun h=>by first|exact dB.dZ dd h|exact dB.fc dd (by decide) h|(have:=(dB.base _ h).1;omega));replace cQ:=cQ.le (by decide) fe.le;replace dP:=dP.le fe.le;replace jX:=jX.le fe.le;replace hM:=fe.lt hM;have:=S.size;replace S:=S.cJ fe dB Ju;replace dB:=rn;refine bI (o':=1) a7 rfl rfl qx (by decide) rfl rfl ?_;refine cw (M:=pK) qx rfl rfl dd rfl ((by obtain⟨_,_,he,_⟩:=dB.isSlice;rw[he];rfl)) cZ (fun Jv Ct gu=>?_);change Jv.heap[_]? =some (Obj.cells #[.int .i64 d.1,xi] _ _)at Ct;have:=av g2;replace cB:=(gu.mem _ this).2 cB;replace g2:=gu.b9 g2 (fun hk=>by have hk:_=_:=hk;omega);have:=av g3;replace ff:=(gu.mem _ this).2 ff;replace g3:=gu.b9 g3 (fun hk=>by have hk:_=_:=hk;omega);have:=av dT;replace dn:=(gu.mem _ this).2 dn;replace dT:=gu.b9 dT (fun hk=>by have hk:_=_:=hk;omega);have:=av dd;replace cZ:=(gu.mem _ this).2 cZ
     replace cQ:=cQ.le (by decide) gu.le;replace dP:=dP.le gu.le;replace jX:=jX.le gu.le;replace dB:=dB.step gu (fun b hb hk=>by have hk:_=_:=hk;have:=(dB.base b hb);omega);replace hM:=gu.lt hM;have:=S.size;replace S:=S.trans gu (fun k hk h=>by have h:_=_:=h;subst h;first|(exfalso;omega)|(show _≤_;omega)|exact⟨by first|omega|assumption,(S.mem _ hk).1 ((gu.mem _ (av dd)).1 cZ)⟩|exact .inl rfl|exact .inr rfl|exact .inr (.inl rfl)|exact .inr (.inr rfl)|exact rfl);have jk:=Ct;clear dd;have dd:=jk;clear jk;refine ae (au (ak (bI (o':=1) a7 rfl rfl qx (by decide) rfl rfl (br bj rfl rfl rfl (by assumption) rfl (gQ (vs:=[.string ⟨((fixF i x).1).toArray⟩,.string ⟨((fixF i x).2).toArray⟩]) cv rfl jz rfl rfl rfl dT ?_)))));refine ez (A:=RT.fd) (hn:=by decide) (M:=pK) bj jz (by decide) rfl rfl hM (show RT.fd.V _ _ (fixF i x) _ from eS (jM.2 ⟨rfl,dJ OJ.1 (by decide)⟩) (jM.2 ⟨rfl,dJ OJ.2 (by decide)⟩) rfl rfl rfl rfl) (.inl rfl) (fun OF VV fW gv=>?_);have:=av g2;replace cB:=(gv.mem _ this).2 cB;replace g2:=gv.aX g2;have:=av g3;replace ff:=(gv.mem _ this).2 ff;replace g3:=gv.aX g3;have:=av dT;replace dn:=(gv.mem _ this).2 dn;replace dT:=gv.aX dT;have:=av dd;replace cZ:=(gv.mem _ this).2 cZ;replace dd:=gv.aX dd;replace cQ:=cQ.le (by decide) gv.le;replace dP:=dP.le gv.le;replace jX:=jX.le gv.le;replace dB:=dB.bC gv;replace hM:=gv.lt hM;have:=S.size;replace S:=S.aE gv;refine cz (M:=pK) (base:=AX.heap.size) bj jz rfl rfl rfl rfl dB fW (ar _ _) (by simp;omega) (by simp;omega) (by have:=fe.size;have:=gu.size;have:=gv.size;omega) (fun gg mj VW Ej gM=>?_);have:=av g2
     replace cB:=(gM.mem _ this).2 cB;replace g2:=gM.b9 g2 (fun h=>by first|exact dB.dZ g2 h|exact dB.fc g2 (by decide) h|(have:=(dB.base _ h).1;omega));have:=av g3;replace ff:=(gM.mem _ this).2 ff;replace g3:=gM.b9 g3 (fun h=>by first|exact dB.dZ g3 h|exact dB.fc g3 (by decide) h|(have:=(dB.base _ h).1;omega));have:=av dT;replace dn:=(gM.mem _ this).2 dn;replace dT:=gM.b9 dT (fun h=>by first|exact dB.dZ dT h|exact dB.fc dT (by decide) h|(have:=(dB.base _ h).1;omega));have:=av dd;replace cZ:=(gM.mem _ this).2 cZ;replace dd:=gM.b9 dd (fun h=>by first|exact dB.dZ dd h|exact dB.fc dd (by decide) h|(have:=(dB.base _ h).1;omega));replace cQ:=cQ.le (by decide) gM.le;replace dP:=dP.le gM.le;replace jX:=jX.le gM.le;replace fW:=fW.le gM.le;replace hM:=gM.lt hM;have:=S.size;replace S:=S.cJ gM dB Ju;replace dB:=Ej;refine bI (o':=1) a7 rfl rfl qx (by decide) rfl rfl ?_;refine cw (M:=mj) qx rfl rfl dd rfl ((by obtain⟨_,_,he,_⟩:=dB.isSlice;rw[he];rfl)) cZ (fun Jw Cv gw=>?_);change Jw.heap[_]? =some (Obj.cells #[.int .i64 d.1,gg] _ _)at Cv;have:=av g2;replace cB:=(gw.mem _ this).2 cB;replace g2:=gw.b9 g2 (fun hk=>by have hk:_=_:=hk;omega);have:=av g3;replace ff:=(gw.mem _ this).2 ff;replace g3:=gw.b9 g3 (fun hk=>by have hk:_=_:=hk;omega);have:=av dT;replace dn:=(gw.mem _ this).2 dn;replace dT:=gw.b9 dT (fun hk=>by have hk:_=_:=hk;omega);have:=av dd;replace cZ:=(gw.mem _ this).2 cZ;replace cQ:=cQ.le (by decide) gw.le;replace dP:=dP.le gw.le;replace jX:=jX.le gw.le;replace fW:=fW.le gw.le;replace dB:=dB.step gw (fun b hb hk=>by have hk:_=_:=hk;have:=(dB.base b hb);omega);replace hM:=gw.lt hM;have:=S.size
     replace S:=S.trans gw (fun k hk h=>by have h:_=_:=h;subst h;first|(exfalso;omega)|(show _≤_;omega)|exact⟨by first|omega|assumption,(S.mem _ hk).1 ((gw.mem _ (av dd)).1 cZ)⟩|exact .inl rfl|exact .inr rfl|exact .inr (.inl rfl)|exact .inr (.inr rfl)|exact rfl);have jk:=Cv;clear dd;have dd:=jk;clear jk;refine ae (au (ak (gQ (vs:=[.int .i64 d.1,gg]) a7 rfl lN rfl rfl rfl dd ?_)));have tj:=dB.view (hn:=by decide) (by simp;omega);replace cB:rm mj gg _:=⟨cB,by first|exact dB.fc g2 (by decide)|(intro h;have:=(dB.base _ h).1;omega)⟩;replace ff:rm mj gg _:=⟨ff,by first|exact dB.fc g3 (by decide)|(intro h;have:=(dB.base _ h).1;omega)⟩;replace dn:rm mj gg _:=⟨dn,by first|exact dB.fc dT (by decide)|(intro h;have:=(dB.base _ h).1;omega)⟩;replace cZ:rm mj gg _:=⟨cZ,by first|exact dB.fc dd (by decide)|(intro h;have:=(dB.base _ h).1;omega)⟩;replace cQ:=cQ.le (by decide) (rR _ gg _);replace dP:=dP.le (rR _ gg _);replace jX:=jX.le (rR _ gg _);replace fW:=fW.le (rR _ gg _);replace hM:Lt (rm mj gg) _:=fun b hb=>hM b hb.1
     replace S:=S.freeze (v:=gg) (fun b hb=>by have:=(dB.base b hb).1;omega);clear dB;refine aS rfl rfl UZ (zD (d:=(d.1,[]++out++[fixF i x])) _ hM (eS (ie Z9) tj rfl rfl rfl rfl) (fun y hy=>by have:=(Ar.snoc OJ) y (by simpa using hy);omega)) (fun r14 VX hc=>?_);obtain⟨rfl,lu⟩:=hc;rw[fz]at tj;have:=av g2;replace cB:=(lu.mem _ this).2 cB;replace g2:=lu.aX g2;have:=av g3;replace ff:=(lu.mem _ this).2 ff;replace g3:=lu.aX g3;have:=av dT;replace dn:=(lu.mem _ this).2 dn;replace dT:=lu.aX dT;have:=av dd;replace cZ:=(lu.mem _ this).2 cZ;replace dd:=lu.aX dd;replace cQ:=cQ.le (by decide) lu.le;replace dP:=dP.le lu.le;replace jX:=jX.le lu.le;replace fW:=fW.le lu.le;replace tj:=tj.le lu.le;replace hM:=lu.lt hM;have:=S.size;replace S:=S.aE lu;refine iE rfl rfl rfl (bO (v':= .bool (decide (nc (d.1,out++[fixF i x])=0))) (by rw[fz]) (ae ?_));refine bW rfl (fun QP=>?_) (fun QP=>?_)
     ·refine ak (gQ (vs:=[.int .i64 d.1,gg]) a7 rfl lN rfl rfl rfl dd ?_);refine eB (M:=rm mj gg) (vs:=[.int .i64 d.1,gg]) lN rfl rfl (by intro u hu;simp at hu;rcases hu with rfl|rfl<;>first|rfl|exact iV (by assumption) rfl rfl) rfl rfl g3 ff (fun acL Jy j2=>?_);have:=av g2;replace cB:=(j2.mem _ this).2 cB;replace g2:=j2.b9 g2 (fun hk=>by have hk:_=_:=hk;omega);have:=av g3;replace ff:=(j2.mem _ this).2 ff;have:=av dT;replace dn:=(j2.mem _ this).2 dn;replace dT:=j2.b9 dT (fun hk=>by have hk:_=_:=hk;omega);have:=av dd;replace cZ:=(j2.mem _ this).2 cZ;replace dd:=j2.b9 dd (fun hk=>by have hk:_=_:=hk;omega);replace cQ:=cQ.le (by decide) j2.le;replace dP:=dP.le j2.le;replace jX:=jX.le j2.le;replace fW:=fW.le j2.le;replace tj:=tj.le j2.le;replace hM:=j2.lt hM;have:=S.size;replace S:=S.trans j2 (fun k hk h=>by have h:_=_:=h;subst h;first|(exfalso;omega)|(show _≤_;omega)|exact⟨by first|omega|assumption,(S.mem _ hk).1 ((j2.mem _ (av g3)).1 ff)⟩|exact .inl rfl|exact .inr rfl|exact .inr (.inl rfl)|exact .inr (.inr rfl)|exact rfl);have VY:=Jy;clear g3;have g3:=VY;clear VY;refine ae (ak (aj rfl rfl (bQ rfl rfl rfl (by omega) (al rfl rfl (ae ?_)))));refine⟨rfl,(i+1,out++[fixF i x]),(.cons rfl (.cons rfl (.cons rfl (.cons rfl (.cons rfl .nil))))),?_,?_⟩
      ·exact⟨_,_,hM,S,cQ,dP,g2,cB,g3,ff,tj,by rw[tR,hga,if_pos QP],by dsimp only;omega,by dsimp only;omega,Ar.snoc OJ,by simp;omega⟩
      ·dsimp only;omega
     ·refine bg (ak (aj rfl rfl (bQ rfl rfl rfl (by omega) (al rfl rfl (ae ?_)))));refine⟨rfl,(i+1,out),(.cons rfl (.cons rfl (.cons rfl (.cons rfl (.cons rfl .nil))))),?_,?_⟩
      ·exact⟨_,_,hM,S,cQ,dP,g2,cB,g3,ff,jX,by rw[tR,hga,if_neg QP],by dsimp only;omega,by dsimp only;omega,Ar,by dsimp only;omega⟩
      ·dsimp only;omega
   ·refine cP (au (ak (gQ (vs:=[.int .i64 d.1,uo]) a7 rfl lN rfl rfl rfl g3 ?_)));refine eB (M:=M1) (vs:=[.int .i64 d.1,uo]) lN rfl rfl (by intro u hu;simp at hu;rcases hu with rfl|rfl<;>first|rfl|exact iV (by assumption) rfl rfl) rfl rfl g2 cB (fun acM Jz oy=>?_);have:=av g2;replace cB:=(oy.mem _ this).2 cB;have:=av g3;replace ff:=(oy.mem _ this).2 ff;replace g3:=oy.b9 g3 (fun hk=>by have hk:_=_:=hk;omega);replace cQ:=cQ.le (by decide) oy.le;replace dP:=dP.le oy.le;replace jX:=jX.le oy.le;replace hM:=oy.lt hM;have:=S.size;replace S:=S.trans oy (fun k hk h=>by have h:_=_:=h;subst h;first|(exfalso;omega)|(show _≤_;omega)|exact⟨by first|omega|assumption,(S.mem _ hk).1 ((oy.mem _ (av g2)).1 cB)⟩|exact .inl rfl|exact .inr rfl|exact .inr (.inl rfl)|exact .inr (.inr rfl)|exact rfl);have so:=Jz;clear g2;have g2:=so;clear so;refine ae (aW ?_);have e:oR d=(d.1,out):=by rw[oR,tR,zE (by omega)]
    rw[e];refine pE (vs:=[.int .i64 d.1,uo]) rfl rfl a7 rfl lN rfl g2 ⟨eS (ie Z9) (jX.le (ly fZ S)) rfl rfl rfl rfl,S.back⟩
  ·refine aw rfl rfl rfl rfl (aw rfl rfl rfl rfl (aL rfl rfl rfl (ae (ir rfl (cP (au (ak (gQ (vs:=[.int .i64 d.1,uo]) a7 rfl lN rfl rfl rfl g3 ?_))))))));refine eB (M:=M1) (vs:=[.int .i64 d.1,uo]) lN rfl rfl (by intro u hu;simp at hu;rcases hu with rfl|rfl<;>first|rfl|exact iV (by assumption) rfl rfl) rfl rfl g2 cB (fun acM Jz oy=>?_);have:=av g2;replace cB:=(oy.mem _ this).2 cB;have:=av g3;replace ff:=(oy.mem _ this).2 ff;replace g3:=oy.b9 g3 (fun hk=>by have hk:_=_:=hk;omega);replace cQ:=cQ.le (by decide) oy.le;replace dP:=dP.le oy.le;replace jX:=jX.le oy.le;replace hM:=oy.lt hM;have:=S.size;replace S:=S.trans oy (fun k hk h=>by have h:_=_:=h;subst h;first|(exfalso;omega)|(show _≤_;omega)|exact⟨by first|omega|assumption,(S.mem _ hk).1 ((oy.mem _ (av g2)).1 cB)⟩|exact .inl rfl|exact .inr rfl|exact .inr (.inl rfl)|exact .inr (.inr rfl)|exact rfl);have so:=Jz;clear g2;have g2:=so;clear so;refine ae (aW ?_);have e:oR d=(d.1,out):=by rw[oR,tR,zE (by omega)]
   rw[e];refine pE (vs:=[.int .i64 d.1,uo]) rfl rfl a7 rfl lN rfl g2 ⟨eS (ie Z9) (jX.le (ly fZ S)) rfl rfl rfl rfl,S.back⟩
end Go.K
namespace Go.K
open Go.Proofs
set_option maxRecDepth 10000
def jG (l:List Dc) (from_ step:Int):Nat→List En
 |0=>[]
 |k+1=>jG l from_ step k++(match l[k]? with|some d=>[(oR d,from_+step*(k:Int))]|none=>[])
theorem lW (l:List Dc) (a s:Int):∀k,(jG l a s k).length=min k l.length
 |0=>by simp[jG]
 |k+1=>by
  rw[jG,bP,lW l a s k]
  cases h:l[k]? with
  |none=>have:=List.getElem?_eq_none_iff.1 h;simp;omega
  |some d=>have:=(aF.1 h).1;simp;omega
theorem xo {l:List Dc} {a s:Int} {k:Nat} {d:Dc} (h:l[k]? =some d):jG l a s (k+1)=jG l a s k++[(oR d,a+s*(k:Int))]:=by rw[jG,h]
theorem xp {l:List Dc} {a s:Int} {k:Nat} (h:l.length≤k):jG l a s (k+1)=jG l a s k:=by
 rw[jG,List.getElem?_eq_none_iff.2 h];simp
theorem Cw {l:List Dc} {a s:Int} {n i:Nat} (h:l.length≤i∨n≤i) (h1:i≤n):jG l a s i=jG l a s n:=by
 induction n with
 |zero=>have:i=0:=by omega
        rw[this]
 |succ n ih=>
  rcases pq h1 with e|ek
  ·rw[e]
  ·rcases h with h|h
   ·rw[xp (by omega)];exact ih (.inl h) (by omega)
   ·omega
theorem Ng {s k:Int} (h:0≤s∧s≤1000) (hk:0≤k∧k≤100):0≤s*k∧s*k≤100000:=
 ⟨Int.mul_nonneg h.1 hk.1,Int.le_trans (Int.mul_le_mul h.2 hk.2 hk.1 (by omega)) (by omega)⟩
theorem xq {M:aU} {l:List Dc} {v0:Value} {most:Nat} {a s:Int} (w0:World) (hM:Lt M w0) (hv:(RT.dc.sl).V M w0 l v0) (hm:most≤100) (ha:0≤a∧a≤1000000) (hs:0≤s∧s≤1000):
  Spec Tryz.prog 21 #[v0,.int .i64 (most:Int),.int .i64 a,.int .i64 s] w0 (fun v w=>(RT.en.sl).V M w (jG l a s most) v∧Step M w0 M w aN):=by
 have fZ:=hM;refine bE (args:=[_,_,_,_]) (fn:=Tryz.f21) Tryz.func21 rfl (n:=37) Tryz.ntmps21 ?_;have S:Step M w0 M w0 aN:=(ah _ _).cD (fun _ h=>h.elim) (fun _ h=>h.elim);refine au (ak (al rfl rfl (ae (au (ak (al rfl rfl (ae (au (au (ak (al rfl rfl ?_)))))))))));refine ae (bu ?_);refine de (σ:=Nat×Value) (fun q=>[(0,v0),(1,.int .i64 (most:Int)),(2,.int .i64 a),(3,.int .i64 s),(9,q.2),(10,.int .i64 (q.1:Int))]) (fun q w=>∃M',Lt M' w∧Step M w0 M' w aN∧Own RT.en 43 M' w w0.heap.size q.2 (jG l a s q.1)∧(RT.dc.sl).V M' w l v0∧q.1≤most∧q.1≤l.length) (fun q=>most-q.1) (0,.slice none 0 0) (.cons rfl (.cons rfl (.cons rfl (.cons rfl (.cons rfl (.cons rfl .nil)))))) ?_ ?_
 ·exact⟨M,hM,S,dO _ _ _ _ _,hv,bM _,bM _⟩
 ·rintro⟨i,u⟩ w ⟨M1,hM,S,ho,hv,hi,nq⟩;dsimp only at ho hi nq ⊢;refine au (au (ak (aj rfl rfl (aj rfl rfl (bF Tryz.underlying36 rfl hv rfl (cu rfl rfl rfl (aj rfl rfl ?_)))))));refine aZ (g:=15) rfl (fun acN=>?_) (fun acN=>?_)
  ·refine aq rfl rfl (aj rfl rfl (aq rfl rfl (aj rfl rfl (aq rfl rfl (cu rfl rfl rfl (aR rfl rfl rfl (ae ?_)))))));refine bW rfl (fun c3=>?_) (fun c3=>?_)
   ·refine bg (au (bu (ak (aj rfl rfl (aj rfl rfl (aj rfl rfl ?_))))));refine bS (M:=M1) Tryz.underlying36 lN rfl rfl rfl hv (ar _ _) (by omega) (fun u5 d GZ gV=>?_);rw[aK]at GZ;have hsi:=Ng (k:=(i:Int)) hs (by omega);refine cc (M:=M1) (A:=RT.dc) a7 rfl lN (by decide) rfl rfl rfl gV (ar _ _) (fun v5 oz=>?_);refine aS rfl rfl E65 (G7 _ hM oz) (fun r5 w5 hc=>?_);obtain⟨tR,s5⟩:=hc;replace hv:=hv.le s5.le;replace ho:=ho.bC s5;replace hM:=s5.lt hM;have:=S.size;replace S:=S.aE s5;refine aj rfl rfl (aj rfl rfl (aj rfl rfl (Rg.PI rfl rfl rfl (by omega) (bQ rfl rfl rfl (by omega) ?_))));obtain⟨uf,rfl⟩:=Jd tR;refine eF (places:=[(0,2),(2,1)]) cV yO B43 rfl ⟨_,_,rfl,rfl,_,_,rfl,rfl,rfl⟩ (out:=[_,_,_]) ⟨0,[_,_],rfl,rfl,by simp[Value.cells],2,[_],rfl,rfl,by simp[Value.cells],rfl⟩ ?_;refine ez (A:=RT.en) (hn:=by decide) (M:=M1) dK yO (by decide) rfl rfl hM (show RT.en.V _ _ (oR d,a+s*(i:Int)) _ from Je tR (by omega)) (.inl rfl) (fun ahO ahP Ek Cx=>?_);replace hv:=hv.le Cx.le;replace tR:=tR.le Cx.le;replace ho:=ho.bC Cx;replace hM:=Cx.lt hM;have:=S.size;replace S:=S.aE Cx;refine cz (M:=M1) (base:=w0.heap.size) dK yO rfl rfl rfl rfl ho Ek (ar _ _) (by have:=lW l a s i;simp;omega) (by have:=lW l a s i;simp;omega) (S.size) (fun VZ V0 ahQ QQ Cy=>?_);replace hv:=hv.le Cy.le;replace tR:=tR.le Cy.le;replace Ek:=Ek.le Cy.le;replace hM:=Cy.lt hM;have:=S.size;replace S:=S.cJ Cy ho (bw _);replace ho:=QQ;refine al rfl rfl (ae (ak (aj rfl rfl (bQ rfl rfl rfl (by omega) (al rfl rfl (ae ?_))))));refine⟨rfl,(i+1,VZ),(.cons rfl (.cons rfl (.cons rfl (.cons rfl (.cons rfl (.cons rfl .nil)))))),?_,?_⟩
    ·exact⟨V0,hM,S,by rw[xo GZ];exact ho,hv,by dsimp only;omega,by dsimp only;omega⟩
    ·dsimp only;omega
   ·refine cP (au (ak (aj rfl rfl (al rfl rfl (ae (aW ?_))))));rw[←Cw (i:=i) (n:=most) (by omega) hi];exact a8 rfl rfl ⟨ho.close fZ S (by have:=lW l a s i;omega),S.back⟩
  ·refine aw rfl rfl rfl rfl (aw rfl rfl rfl rfl (aw rfl rfl rfl rfl (aL rfl rfl rfl (ae (ir rfl (cP (au (ak (aj rfl rfl (al rfl rfl (ae ?_)))))))))));refine aW ?_;rw[←Cw (i:=i) (n:=most) (by omega) hi];exact a8 rfl rfl ⟨ho.close fZ S (by have:=lW l a s i;omega),S.back⟩
end Go.K
namespace Go.K
open Go.Maps (Keyed)
structure fJ (P:Program) (kt:TypeId) (w:World) (b:Nat) (es:List MapEntry) (clock:Nat):Prop where
 at_:w.heap[b]? =some (.map es.toArray clock)
 born:es.Pairwise fun x y=>x.born≠y.born
 lt:∀e∈es,e.born<clock
 keys:es.Pairwise fun x y=>x.key≠y.key
 ok:∀e∈es,∃l,keyOf P kt e.key=some l
def eD (zv:Value) (es:List MapEntry) (key v:Value):Prop:=(∃e∈es,e.key=key∧v=e.val)∨((∀e∈es,e.key≠key)∧v=zv)
section
variable {P:Program} {kt:TypeId} {w:World} {b clock:Nat} {es:List MapEntry}
theorem fJ.step {M M' N:aU} {w':World} (h:fJ P kt w b es clock) (s:Step M w M' w' N) (hn: ¬N b):fJ P kt w' b es clock:=⟨s.b9 h.at_ hn,h.born,h.lt,h.keys,h.ok⟩
theorem fJ.bC {M M':aU} {w':World} (h:fJ P kt w b es clock) (s:Step M w M' w' aN):fJ P kt w' b es clock:=h.step s fun h=>h
theorem im {α:Type} {R:α→α→Prop} {l:List α} (h:l.Pairwise R) {i j:Nat} {x y:α} (hi:l[i]? =some x) (hj:l[j]? =some y) (jc:i<j):R x y:=by
 obtain⟨h1,h2⟩:=aF.1 hi;obtain⟨h3,h4⟩:=aF.1 hj;have:=List.pairwise_iff_getElem.1 h i j h1 h3 jc
 rwa [h2,h4]at this
theorem fJ.FT (h:fJ P kt w b es clock) {x y:MapEntry} (hx:x∈es) (hy:y∈es) (e:x.key=y.key):x=y:=by
 obtain⟨i,hi⟩:=cg.1 hx;obtain⟨j,hj⟩:=cg.1 hy;rcases mC i j with h1|h1|h1
 ·exact absurd e (im h.keys hi hj h1)
 ·subst h1;rw[hi]at hj;exact aG hj
 ·exact absurd e.symm (im h.keys hj hi h1)
theorem fJ.Cz (h:fJ P kt w b es clock) {i j:Nat} {x y:MapEntry} (hi:es[i]? =some x) (hj:es[j]? =some y) (e:x.born=y.born):i=j:=by
 rcases mC i j with h1|h1|h1
 ·exact absurd e (im h.born hi hj h1)
 ·exact h1
 ·exact absurd e.symm (im h.born hj hi h1)
theorem fJ.val_one (h:fJ P kt w b es clock) {zv key v v':Value} (h1:eD zv es key v) (h2:eD zv es key v'):v=v':=by
 rcases h1 with⟨e,he,hk,hv⟩|⟨hn,hv⟩
 ·rcases h2 with⟨e',pQ,tC,qC⟩|⟨OL,_⟩
  ·have:=h.FT he pQ (hk.trans tC.symm);rw[hv,qC,this]
  ·exact absurd hk (OL e he)
 ·rcases h2 with⟨e',pQ,tC,_⟩|⟨_,qC⟩
  ·exact absurd tC (hn e' pQ)
  ·rw[hv,qC]
theorem dU {r:Nat} {a:Array MapEntry} {c:Nat} (hb:w.heap[r]? =some (.map a c)):(getObj r).run P w= .ok (.map a c) w:=by simp[getObj,Sem.run,hb]
theorem run_setObj_map {r:Nat} {a:Array MapEntry} {c:Nat} {o:Obj} (hb:w.heap[r]? =some (.map a c)):(setObj r o).run P w= .ok () {w with heap:=w.heap.setIfInBounds r o}:=by simp[setObj,Sem.run,hb]
theorem fJ.push (h:fJ P kt w b es clock) {key v:Value} {kl:Lit} (lD:keyOf P kt key=some kl) (hn:∀e∈es,e.key≠key) {w':World} (hw:w'.heap[b]? =some (.map (es++([⟨key,v,clock⟩]:List MapEntry)).toArray (clock+1))):fJ P kt w' b (es++[⟨key,v,clock⟩]) (clock+1):=
 ⟨hw,List.pairwise_append.2 ⟨h.born,List.pairwise_singleton _ _,fun x hx y hy=>by rw[cT.1 hy];have:=h.lt x hx;show x.born≠clock;omega⟩,(fun e he=>by
  rcases dE.1 he with he|he
  ·have:=h.lt e he;omega
  ·rw[cT.1 he];exact Nat.lt_succ_self _),List.pairwise_append.2 ⟨h.keys,List.pairwise_singleton _ _,fun x hx y hy=>by rw[cT.1 hy];exact hn x hx⟩,(fun e he=>by
  rcases dE.1 he with he|he
  ·exact h.ok e he
  ·rw[cT.1 he];exact⟨kl,lD⟩)⟩
theorem eD.push {zv key:Value} {s:Nat} (hn:∀e∈es,e.key≠key) (jl v':Value):eD zv (es++[⟨key,zv,s⟩]) jl v'↔eD zv es jl v':=by
 constructor
 ·rintro(⟨e,he,hk,hv⟩|⟨h1,h2⟩)
  ·rcases dE.1 he with he|he
   ·exact .inl ⟨e,he,hk,hv⟩
   ·rw[cT.1 he]at hk hv;exact .inr ⟨fun e he=>by rw[←hk];exact hn e he,hv⟩
  ·exact .inr ⟨fun e he=>h1 e (mW _ he),h2⟩
 ·rintro(⟨e,he,hk,hv⟩|⟨h1,h2⟩)
  ·exact .inl ⟨e,mW _ he,hk,hv⟩
  ·by_cases hk:key=jl
   ·exact .inl ⟨⟨key,zv,s⟩,by simp,hk,h2⟩
   ·exact .inr ⟨fun e he=>by
     rcases dE.1 he with he|he
     ·exact h1 e he
     ·rw[cT.1 he];exact hk,h2⟩
end
section
variable {P:Program} {r:Option Nat} {n:Nat} {L:Sl} {ds:List Deferred} {w:World} {K:Kt} {ops:Array Oper} {rest:List Oper} {d:Nat} {x y z:Operand} {ty:TypeId} {pos:String} {af:Array Edge}
variable {kt:TypeId} {M:aU} {b clock:Nat} {es:List MapEntry}
theorem Rg.CA {t e:TypeId} (M:aU) (ht:P.underlying t=some (.map kt e)) (hd:Nat.blt d n=true)
  (k:∀b w',w.heap.size≤b→b<w'.heap.size→fJ P kt w' b [] 0→Step M w (ins M b) w' aN→Rg P r n ops rest ((d,.map (some b))::L) ds w' K):
  Rg P r n ops ({dst:=some d,op:= .makeMap t none,type:=ty,pos,after:=af,guard:=none}::rest) L ds w K:=by
 refine .op (fun _ h=>by cases h) rfl rfl hd (.map (some w.heap.size)) (w.alloc (.map #[] 0)) (fun ρ hρ=>?_) (k w.heap.size _ (bw _) (by simp) ⟨cO w _,List.Pairwise.nil,(fun e he=>by cases he),List.Pairwise.nil,(fun e he=>by cases he)⟩ ((dA M w _).own (bw _) (by simp)));simp only[execOp];simp[Instr.makeMap,newObj,Sem.run,run_underlying ht]
theorem Rg.mapEntry {t e:TypeId} {zv key:Value} {size bytes:Nat} {kl:Lit} (ht:P.underlying t=some (.map kt e)) (Kk:Keyed P kt) (hi:TI P e zv size bytes) (hx:ev L x=some (.map (some b))) (hy:ev L y=some key) (hd:Nat.blt d n=true) (lD:keyOf P kt key=some kl) (h:fJ P kt w b es clock) (hm:M b)
  (k:∀w' oS El v s,fJ P kt w' b oS El→eD zv es key v→(⟨key,v,s⟩:MapEntry)∈oS→(∀jl v',eD zv oS jl v'↔eD zv es jl v')→((oS.map (·.key)=es.map (·.key)∧∃e∈es,e.key=key)∨(oS.map (·.key)=es.map (·.key)++[key]∧∀e∈es,e.key≠key))→Step M w M w' (fun k=>k=b)→Rg P r n ops rest ((d,.tuple #[v,.int .i64 (s:Nat)])::L) ds w' K):
  Rg P r n ops ({dst:=some d,op:= .mapEntry t x y,type:=ty,pos,after:=af,guard:=none}::rest) L ds w K:=by
 have ek:=av h.at_;rcases Kk.find w lD es h.ok with⟨h1,h2⟩|⟨j,e0,h1,h2,h3⟩
 ·obtain⟨inf,i1,i2,_,_⟩:=hi.get;have hz:(zeroValue e).run P w= .ok zv w:=by simp[zeroValue,typeInfo,i1,i2]
  have hw:({w with heap:=w.heap.setIfInBounds b (.map (es.toArray.push ⟨key,zv,clock⟩) (clock+1))}:World).heap[b]? =some (.map (es++([⟨key,zv,clock⟩]:List MapEntry)).toArray (clock+1)):=by
   simp[dC,ek]
  refine .op (fun _ h=>by cases h) rfl rfl hd _ _ (fun ρ hρ=>?_) (k _ _ _ zv clock (h.push lD h2 hw) (Or.inr ⟨h2,rfl⟩) (by simp) (eD.push h2) (Or.inr ⟨by simp,h2⟩) (jf M hm));simp only[execOp,hρ x _ hx,hρ y _ hy,Instr.mapEntry,cR,run_underlying ht,dD,dU h.at_,Kk.check w false lD,h1,hz,run_setObj_map h.at_];simp[goInt]
 ·have he:e0∈es:=aQ h2
  have JA:es.toArray.modify j (fun e=>{e with key:=key})=es.toArray:=by
   apply Array.ext_getElem?;intro i;rw[tf]
   split
   ·rename_i V1
    subst V1;simp only[te,h2,eZ];rw[←h3]
   ·rfl
  have hw:({w with heap:=w.heap.setIfInBounds b (.map es.toArray clock)}:World).heap[b]? =some (.map es.toArray clock):=by simp[dC,ek]
  have hj:es.toArray[j]? =some e0:=by simpa using h2
  have lg:(Instr.keyThatStays ((Option.map (fun(e:MapEntry)=>e.key) es.toArray[j]?).getD key) key).run P w= .ok key w:=by
   rw[hj];simp only[eZ,Option.getD_some,h3];exact Kk.stays w lD
  refine .op (fun _ h=>by cases h) rfl rfl hd _ _ (fun ρ hρ=>?_) (k _ es clock e0.val e0.born ⟨hw,h.born,h.lt,h.keys,h.ok⟩ (Or.inl ⟨e0,he,h3,rfl⟩) (by rw[←h3];exact he) (fun _ _=>Iff.rfl) (Or.inl ⟨rfl,e0,he,h3⟩) (jf M hm));simp only[execOp,hρ x _ hx,hρ y _ hy,Instr.mapEntry,cR,run_underlying ht,dD,dU h.at_,Kk.check w false lD,h1,lg,JA,run_setObj_map h.at_];simp[goInt,hj]
theorem Rg.entryStore {t:TypeId} {key v0 val:Value} {s:Nat} (hx:ev L x=some (.map (some b))) (hy:ev L y=some (.int .i64 (s:Int))) (hz:ev L z=some val) (h:fJ P kt w b es clock) (hm:M b) (jN:(⟨key,v0,s⟩:MapEntry)∈es)
  (k:∀w' oS,fJ P kt w' b oS clock→oS.map (·.key)=es.map (·.key)→(∀zv jl v',eD zv oS jl v'↔(jl=key∧v'=val)∨(jl≠key∧eD zv es jl v'))→Step M w M w' (fun k=>k=b)→Rg P r n ops rest L ds w' K):
  Rg P r n ops ({dst:=none,op:= .entryStore t x y z,type:=ty,pos,after:=af,guard:=none}::rest) L ds w K:=by
 have ek:=av h.at_;obtain⟨i,hi⟩:=cg.1 jN;have nq:=(aF.1 hi).1
 have acO:es.toArray.findIdx? (fun e=>(e.born:Int)==(s:Int))=some i:=by
  rw[List.findIdx?_toArray,List.findIdx?_eq_some_iff_getElem];refine⟨nq,by rw[(aF.1 hi).2];simp,fun j hj=>?_⟩;have rI:j<es.length:=by omega
  have:=fun e=>h.Cz (aI rI) hi e
  simp only[gj,beq_eq_false_iff_ne,ne_eq];intro e;have e2:((es[j]).born:Int)=(s:Int):=by simpa using e
  have:=this (by show(es[j]).born=s;omega);omega
 obtain⟨oS,tV⟩:∃oS,oS=es.set i ⟨key,val,s⟩:=⟨_,rfl⟩
 have JA:es.toArray.modify i (fun e=>{e with val:=val})=oS.toArray:=by
  apply Array.ext_getElem?;intro j;rw[tf,tV];simp only[te,fq]
  split
  ·rename_i V1
   subst V1;rw[hi];simp
  ·rfl
 have iI:∀j e',oS[j]? =some e'→(j=i∧e'=⟨key,val,s⟩)∨(j≠i∧es[j]? =some e'):=fun j e' hj=>by
  rw[tV,fq]at hj
  split at hj
  ·rename_i jc
   left;exact⟨jc.symm,by simpa[nq]using hj.symm⟩
  ·rename_i jc
   exact .inr ⟨fun e=>jc e.symm,hj⟩
 have oT:oS.map (·.key)=es.map (·.key):=by
  rw[tV,List.map_set];apply mE;intro j;rw[fq]
  split
  ·rename_i jc
   subst jc;have e:=(aF.1 hi).2;simp[nq,e]
  ·rfl
 have JB:oS.map (·.born)=es.map (·.born):=by
  rw[tV,List.map_set];apply mE;intro j;rw[fq]
  split
  ·rename_i jc
   subst jc;have e:=(aF.1 hi).2;simp[nq,e]
  ·rfl
 have hw:({w with heap:=w.heap.setIfInBounds b (.map oS.toArray clock)}:World).heap[b]? =some (.map oS.toArray clock):=by simp[dC,ek]
 have fh:∀e'∈oS,(e'=⟨key,val,s⟩)∨(e'∈es∧e'.key≠key):=fun e' pQ=>by
  obtain⟨j,hj⟩:=cg.1 pQ;rcases iI j e' hj with⟨_,e⟩|⟨fE,uB⟩
  ·exact .inl e
  ·refine .inr ⟨aQ uB,fun e=>fE ?_⟩;rcases mC j i with h1|h1|h1
   ·exact absurd e (im h.keys uB hi h1)
   ·exact h1
   ·exact absurd e.symm (im h.keys hi uB h1)
 have JC:(⟨key,val,s⟩:MapEntry)∈oS:=aQ (i:=i) (by rw[tV,fq];simp[nq])
 have hold:∀e'∈es,e'.key≠key→e'∈oS:=fun e' pQ fE=>by
  obtain⟨j,hj⟩:=cg.1 pQ;refine aQ (i:=j) ?_;rw[tV,fq,if_neg]
  ·exact hj
  ·rintro rfl;rw[hi]at hj;cases hj;exact fE rfl
 have hW:fJ P kt {w with heap:=w.heap.setIfInBounds b (.map oS.toArray clock)} b oS clock:=by
  refine⟨hw,?_,fun e' pQ=>?_,?_,fun e' pQ=>?_⟩
  ·have:=eo.2 h.born;rw[←JB]at this;exact eo.1 this
  ·rcases fh e' pQ with e|⟨h1,_⟩
   ·rw[e];exact(h.lt _ jN:s<clock)
   ·exact h.lt _ h1
  ·have:=eo.2 h.keys;rw[←oT]at this;exact eo.1 this
  ·rcases fh e' pQ with e|⟨h1,_⟩
   ·rw[e];exact(h.ok _ jN:∃l,keyOf P kt key=some l)
   ·exact h.ok _ h1
 refine .Uo (fun _ h=>by cases h) rfl rfl _ (fun ρ hρ=>?_) (k _ oS hW oT (fun zv jl v'=>?_) (jf M hm))
 ·simp only[execOp,hρ x _ hx,hρ y _ hy,hρ z _ hz,Instr.entryStore,cR,dU h.at_,dD,asInt,asIntOf,Sem.run_pure,acO,JA,run_setObj_map h.at_]
 ·constructor
  ·rintro(⟨e',pQ,hk,hv⟩|⟨h1,h2⟩)
   ·rcases fh e' pQ with e|⟨h3,h4⟩
    ·subst e;exact .inl ⟨hk.symm,hv⟩
    ·exact .inr ⟨by rw[←hk];exact h4,.inl ⟨e',h3,hk,hv⟩⟩
   ·have fE:jl≠key:=fun e=>h1 _ JC e.symm
    exact .inr ⟨fE,.inr ⟨fun e' pQ=>fun e=>by
     by_cases h5:e'.key=key
     ·exact fE (e.symm.trans h5)
     ·exact h1 e' (hold e' pQ h5) e,h2⟩⟩
  ·rintro(⟨rfl,rfl⟩|⟨fE,⟨e',pQ,hk,hv⟩|⟨h1,h2⟩⟩)
   ·exact .inl ⟨_,JC,rfl,rfl⟩
   ·exact .inl ⟨e',hold e' pQ (by rw[hk];exact fE),hk,hv⟩
   ·exact .inr ⟨fun e' pQ=>by
     rcases fh e' pQ with e|⟨h3,_⟩
     ·rw[e];exact fun e=>fE e.symm
     ·exact h1 e' h3,h2⟩
theorem Rg.sq {t e:TypeId} {zv key:Value} {size bytes:Nat} {kl:Lit} (ht:P.underlying t=some (.map kt e)) (Kk:Keyed P kt) (hi:TI P e zv size bytes) (hx:ev L x=some (.map (some b))) (hy:ev L y=some key) (hd:Nat.blt d n=true) (lD:keyOf P kt key=some kl) (h:fJ P kt w b es clock)
  (k:∀v,eD zv es key v→Rg P r n ops rest ((d,v)::L) ds w K):
  Rg P r n ops ({dst:=some d,op:= .lookup t x y false,type:=ty,pos,after:=af,guard:=none}::rest) L ds w K:=by
 rcases Kk.find w lD es h.ok with⟨h1,h2⟩|⟨j,e0,h1,h2,h3⟩
 ·obtain⟨inf,i1,i2,_,_⟩:=hi.get;have hz:(zeroValue e).run P w= .ok zv w:=by simp[zeroValue,typeInfo,i1,i2]
  refine .op (fun _ h=>by cases h) rfl rfl hd zv w (fun ρ hρ=>?_) (k zv (Or.inr ⟨h2,rfl⟩));simp only[execOp,hρ x _ hx,hρ y _ hy,Instr.lookup,cR,run_underlying ht,dD,dU h.at_,Sem.run_pure,Kk.check w _ lD,h1,hz];simp
 ·refine .op (fun _ h=>by cases h) rfl rfl hd e0.val w (fun ρ hρ=>?_) (k e0.val (Or.inl ⟨e0,aQ h2,h3,rfl⟩));simp only[execOp,hρ x _ hx,hρ y _ hy,Instr.lookup,cR,run_underlying ht,dD,dU h.at_,Sem.run_pure,Kk.check w _ lD,h1];simp
end
end Go.K
namespace Go.K
open Go.Proofs
set_option maxRecDepth 10000
open Go.Maps (Keyed)
def kv (t:Fd):Value:= .agg #[.string ⟨t.1.toArray⟩,.string ⟨t.2.toArray⟩]
theorem tW {a b:Fd} (h:kv a=kv b):a=b:=by
 unfold kv at h;simp only[Value.agg.injEq,Array.mk.injEq,List.cons.injEq,Value.string.injEq,ByteArray.mk.injEq,and_true]at h;exact qQ h.1 h.2
theorem JD:laidOutB Tryz.prog=true:=by kernel_rfl
theorem JE:Tryz.prog.types.size=356:=by kernel_rfl
theorem zF:Keyed Tryz.prog 47:=Keyed.of_law (deep_law_laid JD (m:=2) (k:=47) (by omega) (by rw[JE];decide) (by kernel_rfl) (by kernel_rfl))
theorem V2:Tryz.prog.keyType 47=true:=by kernel_rfl
theorem FU:Tryz.prog.cellsOf 47=2:=by kernel_rfl
theorem Nh:Tryz.prog.cellsOf 9=1:=by kernel_rfl
theorem JF (t:Fd) (h1:t.1.length≤140737488355328) (h2:t.2.length≤140737488355328):∃l,keyOf Tryz.prog 47 (kv t)=some l:=by
 have e1:(⟨t.1.toArray⟩:ByteArray).size=t.1.length:=by simp[ByteArray.size]
 have e2:(⟨t.2.toArray⟩:ByteArray).size=t.2.length:=by simp[ByteArray.size]
 have hs:∀(s:ByteArray),s.size≤maxLen→Tryz.prog.keyLits 356 9 [.string s]=some [.string s.data.toList]:=fun s hs=>by
  show(match Tryz.prog.underlying 9,[Value.string s]with|_,_=>_)=_;rw[aM];exact if_pos hs
 unfold keyOf kv;rw[bG];simp only[V2,Value.formed,bG,FU,JE]
 have key:∃ls,Tryz.prog.keyLits (356+1) 47 [.string ⟨t.1.toArray⟩,.string ⟨t.2.toArray⟩]=some ls:=by
  unfold Program.keyLits;simp only[bG];rw[if_pos ⟨by rw[FU];rfl,by kernel_rfl⟩];simp only[List.mapM_cons,List.mapM_nil,Nh];have g1:=hs ⟨t.1.toArray⟩ (by rw[e1];unfold maxLen;omega);have g2:=hs ⟨t.2.toArray⟩ (by rw[e2];unfold maxLen;omega);refine⟨[.string (⟨t.1.toArray⟩:ByteArray).data.toList,.string (⟨t.2.toArray⟩:ByteArray).data.toList],?_⟩;simp only[List.drop_zero,List.drop_succ_cons,nT,List.take_zero,g1,g2];rfl
 obtain⟨ls,hls⟩:=key;exact⟨.string (keyBytes ls),by rw[if_pos (by simp)];show Option.map _ (Tryz.prog.keyLits (356+1) 47 [.string ⟨t.1.toArray⟩,.string ⟨t.2.toArray⟩])=_;rw[hls];rfl⟩
end Go.K
namespace Go.K
open Go.Proofs
set_option maxRecDepth 10000
def gx (x:Fd):List (Fd×Nat):=(words x.2).zipIdx.map fun p=>((x.1,p.1),p.2)
def ck (l:List Fd):List (Fd×Nat):=l.flatMap gx
theorem nH (x:Fd):(gx x).length=(words x.2).length:=by simp[gx]
theorem JG {x:Fd} {k:Nat} {y:List UInt8} (h:(words x.2)[k]? =some y):(gx x)[k]? =some ((x.1,y),k):=by
 simp[gx,List.getElem?_zipIdx,h]
theorem rr {fs:List Fd} {i:Nat} {x:Fd} (h:fs[i]? =some x):ck (fs.take (i+1))=ck (fs.take i)++gx x:=by
 rw[bX,h];simp[ck]
structure QR (P:Program) (g:FuncId) (cap:List Value) (B:Nat) (J:List (Fd×Nat)→aU→World→Prop):Prop where
 enters:Enters P g
 step:∀ts M w M' w',J ts M w→Step M w M' w' aN→J ts M' w'
 tell:∀ts M w (t:Fd) (i:Nat),J ts M w→Lt M w→t.1.length≤900000→t.2.length≤140737488355328→i≤1000000→ts.length≤10000000→Spec P g ([kv t,.int .i64 (i:Int)]++cap).toArray w (fun _ w'=>∃M',Lt M' w'∧J (ts++[(t,i)]) M' w'∧Step M w M' w' (kL M B))
theorem zG {M:aU} {d:Dc} {v0:Value} {g:FuncId} {cap:List Value} {B:Nat} {J:List (Fd×Nat)→aU→World→Prop} (w0:World) (hM:Lt M w0) (hv:RT.dc.V M w0 d v0) (hl:∀f∈d.2,f.1.length≤900000∧f.2.length≤900000) (Z8:d.2.length≤8) (hT:QR Tryz.prog g cap B J) (hJ:J [] M w0):
  Spec Tryz.prog 154 #[v0,.func (.func g) #[] cap.toArray] w0 (fun v w=>∃M',Lt M' w∧J (ck d.2) M' w∧Step M w0 M' w (kL M B)):=by
 refine bE (args:=[_,_]) (fn:=Tryz.f154) Tryz.func154 rfl (n:=33) Tryz.ntmps154 ?_;have S:Step M w0 M w0 (kL M B):=(ah _ _).cD (fun _ h=>h.elim) (fun _ h=>h.2);refine au (ak ?_);refine eG (A:=RT.dc) rfl rfl hM hv rfl (fun u0 w1 cQ s0 _=>?_);replace hJ:=hT.step _ _ _ _ _ hJ s0;replace hM:=s0.lt hM;have:=S.size;replace S:=S.aE s0;refine ae (au (ak ?_));refine aA (M:=M) (A:=RT.dc) (B:=(RT.fd).sl) a7 rfl rfl qx (by decide) (AU) rfl rfl (by decide) (by assumption) (by repeat (first|exact ar _ _|refine aT (bh (by assumption)) ?_)) (fun tU jR=>?_);refine aY (M:=M) bj rfl rfl rfl rfl rfl (by assumption) (by repeat (first|exact ar _ _|refine aT (bh (by assumption)) ?_)) (fun vB kF=>?_);refine bF bj rfl kF rfl (aj rfl rfl (ae (bu ?_)));refine de (σ:=Nat) (fun i=>[(1,.func (.func g) #[] cap.toArray),(9,vB),(10,.int .i64 (d.2.length:Int)),(11,.int .i64 (i:Int))]) (fun i w=>∃M',Lt M' w∧Step M w0 M' w (kL M B)∧(RT.fd.sl).V M' w d.2 vB∧J (ck (d.2.take i)) M' w∧i≤d.2.length∧(ck (d.2.take i)).length≤900001*i) (fun i=>d.2.length-i) 0 (.cons rfl (.cons rfl (.cons rfl (.cons rfl .nil)))) ?_ ?_
 ·exact⟨_,hM,S,kF,hJ,bM _,bw _⟩
 ·rintro i w ⟨M1,hM,S,oY,hJ,hi,FF⟩;refine au (ak (cu rfl rfl rfl (ae (au ?_))));refine bW rfl (fun c2=>?_) (fun c2=>?_)
  ·refine bg (au (bu (au (ak ?_))));refine bS (M:=M1) bj jz rfl rfl rfl oY (ar _ _) (by omega) (fun u3 x L6 jH=>?_);rw[aK]at L6;have wk:=hl _ (aQ L6);refine cc (M:=M1) (A:=RT.fd) cv rfl jz (by decide) rfl rfl rfl jH (ar _ _) (fun v3 lv=>?_);refine mG (A:=RT.fd) (M:=M1) jz rfl rfl rfl rfl rfl (by assumption) (ar _ _) hM (fun Ni alp xr Nj alq=>?_);replace oY:=oY.le Nj.le;replace hJ:=hT.step _ _ _ _ _ hJ Nj;replace hM:=Nj.lt hM;have:=S.size;replace S:=S.aE Nj;refine ae (au (ak ?_));refine aA (M:=M1) (A:=RT.fd) (B:=RT.str) cv rfl rfl I9 (by decide) (Oz) rfl rfl (by decide) (by assumption) (by repeat (first|exact ar _ _|refine aT (bh (by assumption)) ?_)) (fun M8 Cl=>?_);refine aY (M:=M1) aM rfl rfl rfl rfl rfl Cl (ar _ _) (fun v4 oQ=>?_);obtain rfl:=dQ oQ;refine aS rfl rfl U3 (xd (l:=x.2) _ hM wk.2) (fun v5 w5 hc=>?_);obtain⟨V3,s5⟩:=hc;replace oY:=oY.le s5.le;replace xr:=xr.le (by decide) s5.le;replace hJ:=hT.step _ _ _ _ _ hJ s5;replace hM:=s5.lt hM;have:=S.size;replace S:=S.aE s5;have Z7:=lV x.2;refine bF aJ rfl V3 rfl (aj rfl rfl (ae (bu ?_)));refine de (σ:=Nat) (fun k=>[(1,.func (.func g) #[] cap.toArray),(5,Ni),(9,vB),(10,.int .i64 (d.2.length:Int)),(11,.int .i64 (i:Int)),(17,v5),(18,.int .i64 ((words x.2).length:Int)),(19,.int .i64 (k:Int))]) (fun k w=>∃M',Lt M' w∧Step M w0 M' w (kL M B)∧(RT.fd.sl).V M' w d.2 vB∧bL RT.fd M' w Ni x∧(RT.str.sl).V M' w (words x.2) v5∧J (ck (d.2.take i)++(gx x).take k) M' w∧k≤(words x.2).length) (fun k=>(words x.2).length-k) 0 (.cons rfl (.cons rfl (.cons rfl (.cons rfl (.cons rfl (.cons rfl (.cons rfl (.cons rfl .nil)))))))) ?_ ?_
   ·exact⟨_,hM,S,oY,xr,V3,by rw[List.take_zero,iP];exact hJ,bM _⟩
   ·rintro k w ⟨M2,hM,S,oY,xr,V3,hJ,hk⟩;refine au (ak (cu rfl rfl rfl (ae (au ?_))));refine bW rfl (fun c5=>?_) (fun c5=>?_)
    ·refine bg (au (bu (au (ak (aj rfl rfl ?_)))));refine bS (M:=M2) aJ I9 rfl rfl rfl V3 (ar _ _) (by omega) (fun u6 y HT MW=>?_);rw[aK]at HT;refine aY (M:=M2) aM rfl rfl rfl rfl rfl MW (ar _ _) (fun v6 nS=>?_);have Oq:=(jM.1 nS).2;obtain rfl:=dQ nS;refine al rfl rfl (al rfl rfl (ae (ak (aj rfl rfl ?_))));refine aA (M:=M2) (A:=RT.fd) (B:=RT.str) cv rfl rfl I9 (by decide) (G3) rfl rfl (by decide) (by assumption) (by repeat (first|exact ar _ _|refine aT (bh (by assumption)) ?_)) (fun alr V4=>?_);refine aY (M:=M2) aM rfl rfl rfl rfl rfl V4 (ar _ _) (fun v7 qH=>?_);obtain rfl:=dQ qH;refine aj rfl rfl (eF (places:=[(0,1),(1,1)]) bG jW TQ rfl ⟨_,_,rfl,rfl,_,_,rfl,rfl,rfl⟩ (out:=[_,_]) ⟨0,[_],rfl,rfl,by simp[Value.cells],1,[_],rfl,rfl,by simp[Value.cells],rfl⟩ (aj rfl rfl ?_));refine Rg.rM (first:=[]) (captured:=cap) (xs:=[.tmp 28,.tmp 29]) rfl rfl rfl hT.enters (hT.tell _ _ _ (x.1,y) k hJ hM wk.1 Oq (by omega) (by rw[bP,bU,nH];omega)) (fun r7 w7 hc=>?_);obtain⟨M7,hM7,hJ7,s7⟩:=hc;refine ae (ak (bQ rfl rfl rfl (by omega) (aj rfl rfl (ae ?_))));refine⟨rfl,k+1,(.cons rfl (.cons rfl (.cons rfl (.cons rfl (.cons rfl (.cons rfl (.cons rfl (.cons rfl .nil)))))))),?_,?_⟩
     ·exact⟨M7,hM7,S.trans s7 (fun b hb h=>⟨h.1,(S.mem b hb).1 h.2⟩),oY.le s7.le,xr.le (by decide) s7.le,V3.le s7.le,by rw[bX,JG HT,cq,←fm];exact hJ7,by omega⟩
     ·omega
    ·refine cP (ak (bQ rfl rfl rfl (by omega) (aj rfl rfl (ae ?_))));refine⟨rfl,i+1,(.cons rfl (.cons rfl (.cons rfl (.cons rfl .nil)))),?_,?_⟩
     ·exact⟨_,hM,S,oY,by rw[rr L6];have e:(gx x).take k=gx x:=bm (by rw[nH];omega);rw[e]at hJ;exact hJ,by omega,by rw[rr L6,bP,nH];omega⟩
     ·omega
  ·refine cP ?_
   first|refine ig.nil ?_|simp+decide only[Am,nW,if_true,if_false]|skip
   have e:d.2.take i=d.2:=bm (by omega);rw[e]at hJ;exact l7 rfl ⟨_,hM,hJ,S⟩
theorem ru {M:aU} {w:World} {t:Fd} (h1:t.1.length≤140737488355328) (h2:t.2.length≤140737488355328):RT.fd.V M w t (kv t):=eS (jM.2 ⟨rfl,h1⟩) (jM.2 ⟨rfl,h2⟩) rfl rfl rfl rfl
def WJ (b B:Nat) (ts:List (Fd×Nat)) (M:aU) (w:World):Prop:=w.heap[b]? =some (.cells #[.int .i64 (ts.length:Int)] 3 (0,0))∧M b∧B≤b
theorem AY {M:aU} {b B:Nat} {ts:List (Fd×Nat)} {t:Fd} {i:Nat} (w0:World) (hM:Lt M w0) (h1:t.1.length≤900000) (h2:t.2.length≤140737488355328) (DT:ts.length≤10000000) (hJ:WJ b B ts M w0):
  Spec Tryz.prog 161 #[kv t,.int .i64 (i:Int),.pointer (some ⟨b,0,none⟩)] w0 (fun v w=>∃M',Lt M' w∧WJ b B (ts++[(t,i)]) M' w∧Step M w0 M' w (kL M B)):=by
 obtain⟨gb,ey,hB⟩:=hJ;refine bE (args:=[_,_,_]) (fn:=Tryz.f161) Tryz.func161 rfl (n:=7) Tryz.ntmps161 ?_;have S:Step M w0 M w0 (kL M B):=(ah _ _).cD (fun _ h=>h.elim) (fun _ h=>h.2);refine au (ak ?_);refine eG (A:=RT.fd) rfl rfl hM (ru (by omega) h2) rfl (fun u0 w1 cQ s0 _=>?_);have:=av gb;replace ey:=(s0.mem _ this).2 ey;replace gb:=s0.aX gb;replace hM:=s0.lt hM;have:=S.size;replace S:=S.aE s0;refine ae (ak (br aB rfl rfl rfl (by assumption) rfl (bQ rfl rfl rfl (by omega) ?_)));refine cw (M:=M) I3 rfl rfl gb rfl (rfl) ey (fun Nk iR o5=>?_);change Nk.heap[_]? =some (Obj.cells #[.int .i64 ((ts.length:Int)+1)] _ _)at iR;have:=av gb;replace ey:=(o5.mem _ this).2 ey;replace hM:=o5.lt hM;have:=S.size;replace S:=S.trans o5 (fun k hk h=>by have h:_=_:=h;subst h;first|(exfalso;omega)|(show _≤_;omega)|exact⟨by first|omega|assumption,(S.mem _ hk).1 ((o5.mem _ (av gb)).1 ey)⟩|exact .inl rfl|exact .inr rfl|exact .inr (.inl rfl)|exact .inr (.inr rfl)|exact rfl);have JH:=iR;clear gb;have gb:=JH;clear JH;refine ae ?_
 first|refine ig.nil ?_|simp+decide only[Am,nW,if_true,if_false]|skip
 exact l7 rfl ⟨_,hM,⟨by rw[bP];exact gb,ey,hB⟩,S⟩
theorem CB {b B:Nat}:QR Tryz.prog 161 [.pointer (some ⟨b,0,none⟩)] B (WJ b B):=
 ⟨abp,fun ts M w M' w' ⟨h1,h2,h3⟩ s=>⟨s.aX h1,(s.mem _ (av h1)).2 h2,h3⟩,fun ts M w t i hJ hM h1 h2 _ h4=>AY w hM h1 h2 h4 hJ⟩
theorem CC {M:aU} {d:Dc} {v0:Value} (w0:World) (hM:Lt M w0) (hv:RT.dc.V M w0 d v0) (hl:∀f∈d.2,f.1.length≤900000∧f.2.length≤900000) (Z8:d.2.length≤8):
  Spec Tryz.prog 110 #[v0] w0 (fun v w=>v= .int .i64 ((ck d.2).length:Int)∧Step M w0 M w aN):=by
 refine bE (args:=[_]) (fn:=Tryz.f110) Tryz.func110 rfl (n:=8) Tryz.ntmps110 ?_;have S:Step M w0 M w0 aN:=(ah _ _).cD (fun _ h=>h.elim) (fun _ h=>h.elim);refine au (ak ?_);refine eG (A:=RT.dc) rfl rfl hM hv rfl (fun u0 w1 cQ s0 _=>?_);replace hM:=s0.lt hM;have:=S.size;replace S:=S.aE s0;refine al rfl rfl (ae (au (ak ?_)));refine eu M I3 rfl (fun fv vz G1 I6 fU jQ=>?_);obtain⟨eY,ji⟩:∃M',M'=ins M fv:=⟨_,rfl⟩;rw[←ji]at jQ;have eL:eY fv:=by rw[ji];exact .inl rfl
 change vz.heap[fv]? =some (.cells #[.int .i64 0] _ _)at fU;replace cQ:=cQ.le (by decide) jQ.le;replace hM:=jQ.lt hM;have:=S.size;replace S:=S.aE jQ;refine cw (M:=eY) I3 rfl rfl fU rfl (rfl) eL (fun Ha tX o6=>?_);change Ha.heap[_]? =some (Obj.cells #[.int .i64 0] _ _)at tX;have:=av fU;replace eL:=(o6.mem _ this).2 eL;replace cQ:=cQ.le (by decide) o6.le;replace hM:=o6.lt hM;have:=S.size;replace S:=S.trans o6 (fun k hk h=>by have h:_=_:=h;subst h;first|(exfalso;omega)|(show _≤_;omega)|exact⟨by first|omega|assumption,(S.mem _ hk).1 ((o6.mem _ (av fU)).1 eL)⟩|exact .inl rfl|exact .inr rfl|exact .inr (.inl rfl)|exact .inr (.inr rfl)|exact rfl);have pR:=tX;clear fU;have fU:=pR;clear pR;refine ae (au (ak ?_));refine cc (M:=eY) (A:=RT.dc) a7 rfl lN (by decide) rfl rfl rfl cQ (ar _ _) (fun v2 kB=>?_);refine jv (xs:=[]) (ys:=[.tmp 3]) rfl rfl rfl ?_;refine aS rfl rfl U0 (zG (cap:=[.pointer (some ⟨fv,0,none⟩)]) (B:=w0.heap.size) _ hM kB hl Z8 CB ⟨fU,eL,by omega⟩) (fun r2 w2 hc=>?_);obtain⟨M2,Qt,⟨g2,_,_⟩,s2⟩:=hc;replace S:=S.lh s2 (bw _);refine ae (au (ak (br aB rfl rfl rfl g2 rfl (al rfl rfl (ae (aW ?_))))));exact a8 rfl rfl ⟨rfl,S.back⟩
end Go.K
namespace Go.K
section
variable {P:Program} {r:Option Nat} {n:Nat} {L:Sl} {ds:List Deferred} {w:World} {K:Kt} {ops:Array Oper} {rest:List Oper} {d:Nat} {x y z:Operand} {ty:TypeId} {pos:String} {af:Array Edge}
variable {kt:TypeId} {M:aU} {b mb clock:Nat} {es:List MapEntry} {sn:Array Nat}
theorem Rg.rangeMap {t e:TypeId} (M:aU) (ht:P.underlying t=some (.map kt e)) (hx:ev L x=some (.map (some mb))) (hd:Nat.blt d n=true) (h:fJ P kt w mb es clock)
  (k:∀b w',w.heap.size≤b→b<w'.heap.size→w'.heap[b]? =some (.mapIter (some mb) clock #[] clock)→Step M w (ins M b) w' aN→Rg P r n ops rest ((d,.pointer (some ⟨b,0,none⟩))::L) ds w' K):
  Rg P r n ops ({dst:=some d,op:= .range t x,type:=ty,pos,after:=af,guard:=none}::rest) L ds w K:=by
 refine .op (fun _ h=>by cases h) rfl rfl hd (.pointer (some ⟨w.heap.size,0,none⟩)) (w.alloc (.mapIter (some mb) clock #[] clock)) (fun ρ hρ=>?_) (k w.heap.size _ (bw _) (by simp) (cO w _) ((dA M w _).own (bw _) (by simp)));simp only[execOp,hρ x _ hx];simp[Instr.range,cR,run_underlying ht,dU h.at_,newObj,Sem.run]
theorem oU {sb:Option Nat} {s c:Nat} (hb:w.heap[b]? =some (.mapIter sb s sn c)):(getObj b).run P w= .ok (.mapIter sb s sn c) w:=by simp[getObj,Sem.run,hb]
theorem Em (h:fJ P kt w mb es clock) (seen:Array Nat):(!seen.isEmpty&& !es.toArray.isEmpty&&es.toArray.all (fun x=>decide (x.born≥clock)))=false:=by
 cases es with
 |nil=>simp
 |cons e l=>
  have:=h.lt e (by simp);simp only[Bool.and_eq_false_iff];right;rw[fp];intro h2;rw[Array.all_eq_true_iff_forall_mem]at h2;have:=h2 e (by simp);simp at this;omega
theorem CD (k:Nat) (hk:0<k):∃j w1,j<k∧(∀M,Step M w M w1 aN)∧w1.heap=w.heap∧(choose (Question.mapNext k)).run P w= .ok j w1:=by
 by_cases hf:k≤1
 ·exact⟨0,w,hk,fun M=>ah M w,rfl,by simp[choose,Sem.run,Question.forced,hf]⟩
 ·exact⟨_,w.drew,Nat.mod_lt _ hk,fun M=>nt M w,rfl,by
   simp only[choose,Sem.run,Question.forced,decide_eq_true_eq,hf,if_false,Question.cut];rfl⟩
theorem JI (h:fJ P kt w mb es clock) (hb:w.heap[b]? =some (.mapIter (some mb) clock sn clock)) (hm:M b):
  ((∀e∈es,e.born∈sn)∧(Instr.next (.pointer (some ⟨b,0,none⟩)) false ty).run P w= .ok (.tuple #[.bool false]) w)∨
  ∃e w',e∈es∧e.born∉sn∧w'.heap[b]? =some (.mapIter (some mb) clock (sn.push e.born) clock)∧Step M w M w' (fun k=>k=b)∧(Instr.next (.pointer (some ⟨b,0,none⟩)) false ty).run P w= .ok (.tuple #[.bool true,e.key,e.val]) w':=by
 have ek:=av hb;simp only[Instr.next,cR,oU hb,dD,dU h.at_,Em h sn,Bool.false_eq_true,if_false];have hL:∀e∈es.toArray.filter (fun e=> !sn.contains e.born),e.born<clock:=fun e he=>h.lt e (by simpa using(Array.mem_filter.1 he).1)
 have jN:∀e,e∈es.toArray.filter (fun e=> !sn.contains e.born)↔e∈es∧e.born∉sn:=fun e=>by simp[Array.mem_filter]
 generalize es.toArray.filter (fun e=> !sn.contains e.born)=Lf at hL jN ⊢;have e1:Lf.filter (fun x=>decide (x.born<clock))=Lf:=Array.filter_eq_self.2 fun x hx=>by simpa using hL x hx
 have e2:Lf.filter (fun x=>decide (x.born≥clock))= #[]:=by
  rw[Array.filter_eq_empty_iff];intro x hx;have:=hL x hx;simp;omega
 simp only[e1,e2,Array.append_empty];by_cases h0:Lf.size=0
 ·left;have wx:Lf= #[]:=Array.eq_empty_of_size_eq_zero h0;subst wx;refine⟨fun e he=>?_,by simp[choose,Sem.run,Question.forced]⟩;by_cases hs:e.born∈sn
  ·exact hs
  ·exact absurd ((jN e).2 ⟨he,hs⟩) (by simp)
 ·right;have fE:Lf.isEmpty=false:=by simp[Array.isEmpty,h0]
  simp only[fE,Bool.false_eq_true,if_false,Array.empty_append,Array.size_map];obtain⟨j,w1,hj,Ic,hh1,iG⟩:=CD (P:=P) (w:=w) Lf.size (by omega);have BC:w1.heap[b]? =some (.mapIter (some mb) clock sn clock):=by rw[hh1];exact hb
  have fh:=(jN Lf[j]).1 (by simp);refine⟨Lf[j],{w1 with heap:=w1.heap.setIfInBounds b (.mapIter (some mb) clock (sn.push Lf[j].born) clock)},fh.1,fh.2,by simp[dC,hh1,ek],?_,?_⟩
  ·exact((Ic M).cD (fun _ h=>h.elim) (fun k hk=>by subst hk;exact hm)).trans (jf M hm) (fun _ _ h=>h)
  ·simp only[iG,dD,Array.getElem?_map,Array.getElem?_eq_getElem hj,eZ,cR];simp[setObj,Sem.run,BC]
theorem Rg.Nl (hx:ev L x=some (.pointer (some ⟨b,0,none⟩))) (hb:w.heap[b]? =some (.mapIter (some mb) clock sn clock)) (hm:M b) (h:fJ P kt w mb es clock) (hd:Nat.blt d n=true)
  (k1:∀e w',e∈es→e.born∉sn→w'.heap[b]? =some (.mapIter (some mb) clock (sn.push e.born) clock)→Step M w M w' (fun k=>k=b)→Rg P r n ops rest ((d,.tuple #[.bool true,e.key,e.val])::L) ds w' K)
  (k2:(∀e∈es,e.born∈sn)→Rg P r n ops rest ((d,.tuple #[.bool false])::L) ds w K):
  Rg P r n ops ({dst:=some d,op:= .next x false,type:=ty,pos,after:=af,guard:=none}::rest) L ds w K:=by
 rcases JI (ty:=ty) h hb hm with⟨h1,h2⟩|⟨e,w',h1,h2,h3,h4,h5⟩
 ·refine .op (fun _ h=>by cases h) rfl rfl hd _ w (fun ρ hρ=>?_) (k2 h1);simp only[execOp,hρ x _ hx];simp[h2]
 ·refine .op (fun _ h=>by cases h) rfl rfl hd _ w' (fun ρ hρ=>?_) (k1 e w' h1 h2 h3 h4);simp only[execOp,hρ x _ hx];simp[h5]
theorem Rg.entry {e:MapEntry} {sn':Array Nat} (hx:ev L x=some (.pointer (some ⟨b,0,none⟩))) (hb:w.heap[b]? =some (.mapIter (some mb) clock (sn'.push e.born) clock)) (h:fJ P kt w mb es clock) (he:e∈es) (hd:Nat.blt d n=true)
  (k:Rg P r n ops rest ((d,.tuple #[e.key,e.val])::L) ds w K):
  Rg P r n ops ({dst:=some d,op:= .entry x,type:=ty,pos,after:=af,guard:=none}::rest) L ds w K:=by
 have hf:es.find? (fun x=>x.born==e.born)=some e:=by
  rw[List.find?_eq_some_iff_getElem];obtain⟨i,hi⟩:=cg.1 he;obtain⟨h1,h2⟩:=aF.1 hi;refine⟨by simp,i,h1,h2,fun j hj=>?_⟩;have rI:j<es.length:=by omega
  have:=fun q=>h.Cz (aI rI) hi q
  simp only[qV,beq_eq_false_iff_ne,ne_eq];intro q;have:=this q;omega
 refine .op (fun _ h=>by cases h) rfl rfl hd _ w (fun ρ hρ=>?_) k;simp only[execOp,hρ x _ hx,Instr.entry,cR,oU hb,dD,dU h.at_];simp[hf,cR,dU h.at_]
end
end Go.K
namespace Go.K
open Go.Proofs
set_option maxRecDepth 10000
theorem filter_lt {α:Type} {p q:α→Bool} {a:α}:∀{l:List α},(∀x∈l,q x=true→p x=true)→a∈l→p a=true→q a=false→(l.filter q).length<(l.filter p).length
 |[],_,ha,_,_=>by cases ha
 |x::l,h,ha,hp,hq=>by
  have hle:(l.filter q).length≤(l.filter p).length:=by
   rw[←List.countP_eq_length_filter,←List.countP_eq_length_filter];exact List.countP_mono_left fun y hy=>h y (cF _ hy)
  rcases ew.1 ha with rfl|ha
  ·rw[qc hp,List.filter_cons_of_neg (by simp[hq])];simp;omega
  ·have:=filter_lt (fun y hy=>h y (cF _ hy)) ha hp hq;by_cases hx:q x=true
   ·rw[qc hx,qc (h x (cn ..) hx)];simp;omega
   ·rw[List.filter_cons_of_neg hx];by_cases hx2:p x=true
    ·rw[qc hx2];simp;omega
    ·rw[List.filter_cons_of_neg hx2];omega
theorem fJ.QS {P:Program} {kt:TypeId} {w:World} {b clock:Nat} {es:List MapEntry} (h:fJ P kt w b es clock) {x y:MapEntry} (hx:x∈es) (hy:y∈es) (hk:x.key=y.key):x=y:=by
 obtain⟨i,hi⟩:=cg.1 hx;obtain⟨j,hj⟩:=cg.1 hy;rcases mC i j with jc|rfl|jc
 ·exact absurd hk (im h.keys hi hj jc)
 ·exact aG (hi.symm.trans hj)
 ·exact absurd hk.symm (im h.keys hj hi jc)
theorem fJ.Nn {P:Program} {kt:TypeId} {w:World} {b clock:Nat} {es:List MapEntry} (h:fJ P kt w b es clock) {x y:MapEntry} (hx:x∈es) (hy:y∈es) (hk:x.born=y.born):x=y:=by
 obtain⟨i,hi⟩:=cg.1 hx;obtain⟨j,hj⟩:=cg.1 hy;rcases mC i j with jc|rfl|jc
 ·exact absurd hk (im h.born hi hj jc)
 ·exact aG (hi.symm.trans hj)
 ·exact absurd hk.symm (im h.born hj hi jc)
def Eo (w:World) (k:Nat):Prop:=∃m s sn c,w.heap[k]? =some (.mapIter m s sn c)
def FV (es:List MapEntry):Prop:=∀e∈es,∃t:Fd,e.key=kv t∧t.1.length≤140737488355328∧t.2.length≤140737488355328
theorem Ep {yl bs mb clock:Nat} {es:List MapEntry} {J:List Fd→World→Prop} (w0:World) (hk:FV es) (hJs:∀ts w w' N,J ts w→Step allM w allM w' N→(∀k,k<w.heap.size→N k→w0.heap.size≤k∧Eo w k)→J ts w') (hJb:∀ts w,J ts w→w.heap[bs]? =some (.cells #[.map (some mb)] 227 (0,0))∧fJ Tryz.prog 47 w mb es clock) (hy:∀ts w (t:Fd),J ts w→(∃e∈es,e.key=kv t)→t∉ts→ts.length<es.length→wH Tryz.prog yl [kv t].toArray w (fun r w'=>r= .bool true∧J (ts++[t]) w'∧∃N,Step allM w allM w' N∧∀k,N k→¬Eo w k)) (h0:J [] w0):
  Spec Tryz.prog 197 #[.func (.yield yl) #[] #[],.pointer (some ⟨bs,0,none⟩)] w0 (fun v w=>∃ts,J ts w∧ts.Nodup∧∀t,t∈ts↔∃e∈es,e.key=kv t):=by
 obtain⟨gb,hW⟩:=hJb _ _ h0;have hJ:=h0;clear h0;refine bE (args:=[_,_]) (fn:=Tryz.f197) Tryz.func197 rfl (n:=14) Tryz.ntmps197 ?_;have S:Step allM w0 allM w0 allM:=(ah _ _).cD (fun _ h=>h.elim) (fun _ _=>trivial);refine au (ak (br lX rfl rfl rfl (by assumption) rfl ?_));refine Rg.rangeMap allM lX rfl rfl hW (fun bi w1 BC LX gi s1=>?_);replace s1:=s1.all;have:=av gb;replace gb:=s1.aX gb;replace hJ:=hJs _ _ _ _ hJ s1 (fun _ _ h=>h.elim);have:=S.size;replace S:=S.aE s1;refine ae (bu ?_);refine de (σ:=List Fd×Array Nat) (fun s=>[(0,.func (.yield yl) #[] #[]),(1,.pointer (some ⟨bs,0,none⟩)),(5,.pointer (some ⟨bi,0,none⟩))]) (fun s w=>J s.1 w∧Step allM w0 allM w allM∧w.heap[bi]? =some (.mapIter (some mb) clock s.2 clock)∧s.1.Nodup∧(∀e∈es,e.born∈s.2↔∃t∈s.1,e.key=kv t)∧(∀t∈s.1,∃e∈es,e.key=kv t)) (fun s=>(es.filter fun e=>decide (e.born∉s.2)).length) ([],#[]) (.cons rfl (.cons rfl (.cons rfl .nil))) ?_ ?_
 ·exact⟨hJ,S,gi,List.nodup_nil,fun e _=>by simp,fun t h=>by cases h⟩
 ·rintro⟨ts,sn⟩ w ⟨hJ,S,gi,qq,hsn,jN⟩;dsimp only at hJ gi qq hsn jN ⊢;obtain⟨gb,hW⟩:=hJb _ _ hJ;refine au (ak ?_);refine Rg.Nl (M:=allM) rfl gi trivial hW rfl (fun QT vz sr OM fU jQ=>?_) (fun acQ=>?_)
  ·have gi0:=gi;replace gb:=jQ.b9 gb (fun hk=>by have hk:_=_:=hk;omega);replace hJ:=hJs _ _ _ _ hJ jQ (fun k hk h=>by have h:k=bi:=h;subst h;exact⟨BC,_,_,_,_,gi0⟩);have:=S.size;replace S:=S.trans jQ (fun k hk h=>by have h:_=_:=h;subst h;first|(exfalso;omega)|(show _≤_;omega)|exact .inl rfl|exact .inr rfl|exact .inr (.inl rfl)|exact .inr (.inr rfl)|exact rfl);have gi_:=fU;clear gi;have gi:=gi_;clear gi_;refine b5 rfl rfl rfl (ae (au (gz rfl (bg (bu (au (ak (Rg.entry rfl gi (hJb _ _ hJ).2 sr rfl ?_))))))));obtain⟨t,No,TY,I8⟩:=hk _ sr;have PT:t∉ts:=fun h=>OM ((hsn _ sr).2 ⟨t,h,No⟩)
   have ek:ts.length<es.length:=by
    have h1:((t::ts).map kv).Nodup:=eo.2 ((List.nodup_cons.2 ⟨PT,qq⟩).imp fun h e=>h (tW e))
    have h2:=h1.length_le_of_subset (l₂:=es.map (·.key)) (fun x hx=>by
     obtain⟨u,hu,rfl⟩:=cL.1 hx;rcases ew.1 hu with rfl|hu
     ·rw[←No];exact fH sr
     ·obtain⟨e,he,h⟩:=jN u hu;rw[←h];exact fH he)
    simp at h2;omega
   rw[No];refine b5 rfl rfl rfl ?_;refine mG (A:=RT.fd) (M:=aN) jW rfl rfl rfl rfl rfl (ru TY I8) (ar _ _) (Lt.none _) (fun u2 w2 kg s2 z2=>?_);replace s2:=s2.all;have:=av gb;replace gb:=s2.aX gb;have:=av gi;replace gi:=s2.aX gi;replace hJ:=hJs _ _ _ _ hJ s2 (fun _ _ h=>h.elim);have:=S.size;replace S:=S.aE s2
   skip
   refine ae (au (ak (aj rfl rfl ?_)));refine cc (M:=aN) (A:=RT.fd) bG rfl jW (by decide) rfl rfl rfl kg (ar _ _) (fun v3 lv=>?_);obtain rfl:=iB lv;refine Rg.yield (vs:=[kv t]) rfl rfl rfl (hy _ _ t hJ ⟨_,sr,No⟩ PT ek) (fun r3 w3 hc=>?_);obtain⟨rfl,V5,N3,s3,hN3⟩:=hc;clear fU;replace gi:=s3.b9 gi (fun h=>hN3 _ h ⟨_,_,_,_,gi⟩);replace hJ:=V5;clear V5;obtain⟨gb,-⟩:=hJb _ _ hJ;replace S:=S.trans s3 (fun _ _ _=>trivial);refine fP rfl rfl (bO (v':= .bool false) rfl (ae (ir rfl (bg ?_))));refine⟨rfl,(ts++[t],sn.push QT.born),(.cons rfl (.cons rfl (.cons rfl .nil))),?_,?_⟩
   ·have tz:∀e∈es,e.born=QT.born↔e.key=kv t:=fun e he=>by
     constructor
     ·intro h;rw[fJ.Nn hW he sr h,No]
     ·intro h;rw[fJ.QS hW he sr (h.trans No.symm)]
    refine⟨hJ,S,gi,List.nodup_append.2 ⟨qq,by simp,fun a ha b hb h=>by simp at hb;subst hb;subst h;exact PT ha⟩,fun e he=>?_,fun u hu=>?_⟩
    ·rw[Array.mem_push,hsn e he,tz e he];constructor
     ·rintro(⟨u,h1,h2⟩|h)
      ·exact⟨u,mW _ h1,h2⟩
      ·exact⟨t,by simp,h⟩
     ·rintro⟨u,h1,h2⟩;rcases dE.1 h1 with h1|h1
      ·exact .inl ⟨u,h1,h2⟩
      ·simp at h1;subst h1;exact .inr h2
    ·rcases dE.1 hu with hu|hu
     ·exact jN u hu
     ·simp at hu;subst hu;exact⟨_,sr,No⟩
   ·exact filter_lt (a:=QT) (fun e _ h=>by simp only[decide_eq_true_eq,Array.mem_push,not_or]at h ⊢;exact h.1) sr (by simpa using OM) (by simp)
  ·refine b5 rfl rfl rfl (ae (au (ir rfl (cP ?_))))
   first|refine ig.nil ?_|simp+decide only[Am,nW,if_true,if_false]|skip
   exact l7 rfl ⟨ts,hJ,qq,fun t=>⟨jN t,fun⟨e,he,No⟩=>by obtain⟨t',h1,h2⟩:=(hsn e he).1 (acQ e he);rw[←tW (h2.symm.trans No)];exact h1⟩⟩
end Go.K
namespace Go.K
open Go.Proofs
set_option maxRecDepth 10000
theorem fR.any {α:Type} {A:RT α} (hA:∀M w M' w' x vs,A.R M w x vs→A.R M' w' x vs) {M M':aU} {w w':World}:∀{xs:List α} {C:List Value},fR A M w xs C→fR A M' w' xs C
 |[],_,h=>h
 |x::xs,C,h=>by
  obtain⟨vs,r,h1,h2,h3⟩:=h;exact⟨vs,r,h1,hA _ _ _ _ _ _ h2,fR.any hA h3⟩
theorem AZ (M:aU) (w:World) (M':aU) (w':World) (x:Fd) (vs:List Value) (h:RT.fd.R M w x vs):RT.fd.R M' w' x vs:=h
theorem Own.FX {α:Type} {A:RT α} (hA:∀M w M' w' x vs,A.R M w x vs→A.R M' w' x vs) {e:TypeId} {M N:aU} {w w':World} {base:Nat} {v:Value} {xs:List α} (h:Own A e M w base v xs) (s:Step allM w allM w' N) (hn:∀b,v.ownBlock=some b→¬N b):Own A e (qw v) w' base v xs:=by
 obtain⟨⟨C,h1,h2⟩,_⟩:=h;refine⟨⟨C,⟨h1.1,?_⟩,fR.any hA h2⟩,fun _ h=>h⟩;rcases h1.2 with h3|⟨g,cap,cur,h3,h4,h5,h6,h7,h8⟩
 ·exact .inl h3
 ·exact .inr ⟨g,cap,cur,h3,h4,by rw[s.same g (av h5) (hn g (by rw[h3];rfl))];exact h5,h6,h7,h8⟩
theorem Own.isCells {α:Type} {A:RT α} {e:TypeId} {M:aU} {w:World} {base b:Nat} {v:Value} {xs:List α} (h:Own A e M w base v xs) (hb:v.ownBlock=some b):∃cs,w.heap[b]? =some (.cells cs e (0,0)):=by
 obtain⟨⟨C,h1,_⟩,_⟩:=h;rcases h1.2 with h3|⟨g,cap,cur,h3,h4,h5,_⟩
 ·rw[h3.1]at hb;cases hb
 ·rw[h3]at hb;cases hb;exact⟨_,h5⟩
structure Aq (w0:World) (bt D:Nat) (st:Loop) (v:Value) (ts:List Fd) (w:World):Prop where
 S:Step allM w0 allM w aN
 c:w.heap[bt]? =some (.cells #[v] 98 (0,0))
 o:Own RT.fd 47 (qw v) w w0.heap.size v ts
 d:w.heap[D]? =some (.deferred (some []))
 r:w.heap[D+1]? =some (.loop st)
 hb:w0.heap.size≤bt
 hD:w0.heap.size≤D
theorem Aq.step {w0 w w':World} {bt D:Nat} {st:Loop} {v:Value} {ts:List Fd} {N:aU} (h:Aq w0 bt D st v ts w) (s:Step allM w allM w' N) (hN:∀k,k<w.heap.size→N k→w0.heap.size≤k∧Eo w k):Aq w0 bt D st v ts w':=by
 have no:∀{k o},w.heap[k]? =some o→(∀m s sn c,o≠ .mapIter m s sn c)→¬N k:=fun hk ho hn=>by
  obtain⟨_,m,s,sn,c,h'⟩:=hN _ (av hk) hn;rw[hk]at h';exact ho m s sn c (aG h')
 refine⟨h.S.trans s (fun k hk hn=>?_),s.b9 h.c (no h.c (by intros;simp)),h.o.FX AZ s (fun b hb=>?_),s.b9 h.d (no h.d (by intros;simp)),s.b9 h.r (no h.r (by intros;simp)),h.hb,h.hD⟩
 ·have:=(hN k (Nat.lt_of_lt_of_le hk h.S.size) hn).1;omega
 ·obtain⟨cs,hc⟩:=h.o.isCells hb;exact no hc (by intros;simp)
theorem Aq.mn {w0 w:World} {bt D:Nat} {st st':Loop} {v:Value} {ts:List Fd} (h:Aq w0 bt D st v ts w):Aq w0 bt D st' v ts (w.putObj (D+1) (.loop st')):=by
 have s:Step allM w allM (w.putObj (D+1) (.loop st')) (fun k=>k=D+1):=ef trivial;have hD:=h.hD;refine⟨h.S.trans s (fun k hk hn=>by have hn:k=D+1:=hn;omega),s.b9 h.c (fun hn=>by have hn:bt=D+1:=hn;have h1:=h.c;rw[hn,h.r]at h1;cases h1),h.o.FX AZ s (fun b hb hn=>?_),s.b9 h.d (fun hn=>by have hn:D=D+1:=hn;omega),by have:=av h.r;simp[World.putObj,dC,this],h.hb,h.hD⟩;have hn:b=D+1:=hn;obtain⟨cs,hc⟩:=h.o.isCells hb;rw[hn,h.r]at hc;cases hc
theorem CE {bs mb clock:Nat} {es:List MapEntry} (w0:World) (hk:FV es) (hes:es.length≤100000000) (QU:w0.heap[bs]? =some (.cells #[.map (some mb)] 227 (0,0))) (hW:fJ Tryz.prog 47 w0 mb es clock):
  Spec Tryz.prog 233 #[.slice none 0 0,.func (.func 197) #[] [.pointer (some ⟨bs,0,none⟩)].toArray] w0 (fun v w=>∃ts:List Fd,ts.Nodup∧(∀t,t∈ts↔∃e∈es,e.key=kv t)∧Own RT.fd 47 (qw v) w w0.heap.size v ts∧Step allM w0 allM w aN):=by
 refine nz (args:=[_,_]) (fn:=Tryz.f233) Tryz.func233 rfl (n:=13) Tryz.ntmps233 (au (ak ?_));refine vr allM rfl rfl (fun bt w1 BC aly gt s1=>?_);change w1.heap[bt]? =some (.cells #[.slice none 0 0] 98 (0,0))at gt;replace s1:=s1.all;refine al rfl rfl (ae (au (au (ak (aj rfl rfl (ae (bu ?_)))))));refine T.range (gf:=197) (lb:=[.pointer (some ⟨bs,0,none⟩)].toArray) rfl abz (fun rec mZ=>?_);obtain⟨D,hD⟩:∃D,D=w1.heap.size:=⟨_,rfl⟩;have sA:Step allM w1 allM ((w1.alloc (.deferred (some []))).alloc (.loop (rec .ready none))) aN:=(dA _ _ _).aE (dA _ _ _)
 have h0:Aq w0 bt D (rec .ready none) (.slice none 0 0) [] ((w1.alloc (.deferred (some []))).alloc (.loop (rec .ready none))):=by
  refine⟨s1.aE sA,sA.aX gt,dO _ _ _ _ _,?_,?_,BC,by rw[hD];exact s1.size⟩
  ·rw[hD];exact(dA allM (w1.alloc _) _).aX (cO w1 _)
  ·rw[hD];have:=cO (w1.alloc (.deferred (some []))) (.loop (rec .ready none));rwa [yH]at this
 rw[←hD]at mZ ⊢;have hz:=h0.S.size;refine Spec.mono (Ep (J:=fun ts w=>∃v,Aq w0 bt D (rec .ready none) v ts w) _ hk (fun ts w w' N ⟨v,h⟩ s hN=>⟨v,h.step s (fun k hk hn=>⟨dJ hz (hN k hk hn).1,(hN k hk hn).2⟩)⟩) (fun ts w ⟨v,h⟩=>⟨h.S.aX QU,hW.bC h.S⟩) (fun ts wr t hJ jN PT ek=>?_) ⟨_,h0⟩) (fun _ w3 h3=>?_)
 ·obtain⟨v,h⟩:=hJ;obtain⟨e,he,hke⟩:=jN;obtain⟨t',acS,TY,I8⟩:=hk e he;obtain rfl:=tW (hke.symm.trans acS);have hzr:=av h.r;refine lT (ps:=[7]) (vs:=[kv t]) mZ h.r rfl (by decide) (ak ?_);refine mG (A:=RT.fd) (M:=fun k=>k=D+1) jW rfl rfl rfl rfl rfl (ru TY I8) (ar _ _) (fun k hk=>by have hk:k=D+1:=hk;omega) (fun u2 w2 kg s2 z2=>?_);replace s2:=s2.all
  skip
  refine ae ?_;refine⟨rfl,s2.aX h.r,?_⟩;have h4:=(h.step s2 (fun _ _ h=>h.elim)).mn (st':=rec .busy none);have s3':Step (fun k=>k=D+1) w2 (fun k=>k=D+1) (w2.putObj (D+1) (.loop (rec .busy none))) (fun k=>k=D+1):=ef rfl;have s3:=s3'.all;have iM:=kg.le (by decide) s3'.le;clear s3';generalize w2.putObj (D+1) _=w4 at h4 s3 iM ⊢;refine bu (ak (br cb rfl rfl rfl h4.c rfl ?_));refine cc (M:=fun k=>k=D+1) (A:=RT.fd) bG rfl jW (by decide) rfl rfl rfl iM (ar _ _) (fun v3 lv=>?_);obtain rfl:=iB lv;refine ez (A:=RT.fd) (hn:=by decide) (M:=qw v) cb jW (by decide) rfl rfl (fun b hb=>(h4.o.base b hb).2) (ru TY I8) (.inl rfl) (fun u5 w5 gV s5=>?_);refine cz (M:=qw v) (base:=w0.heap.size) cb jW rfl rfl rfl rfl (h4.o.bC s5) gV (ar _ _) (by simp;omega) (by simp;omega) (dJ h4.S.size s5.size) (fun v6 M6 w6 uJ s6=>?_);have gc:=s6.all.b9 (s5.all.aX h4.c) (fun hn=>h4.o.fc h4.c (by decide) hn);refine cw (M:=allM) I98 rfl rfl gc rfl (by obtain⟨_,_,he,_⟩:=uJ.isSlice;rw[he];rfl) trivial (fun w7 gc7 s7=>?_);refine ae ?_
  have acU:∀k,qw v k→¬Eo wr k:=fun k hk ⟨_,_,_,_,h9⟩=>by
   obtain⟨cs,hc⟩:=h.o.isCells hk;rw[hc]at h9;cases h9
  have pr:∀k,k<wr.heap.size→k=D+1→¬Eo wr k:=fun k _ hk ⟨_,_,_,_,h9⟩=>by subst hk;rw[h.r]at h9;cases h9
  have pc:∀k,k<wr.heap.size→k=bt→¬Eo wr k:=fun k _ hk ⟨_,_,_,_,h9⟩=>by subst hk;rw[h.c]at h9;cases h9
  have h7:Aq w0 bt D (rec .busy none) v6 (ts++[t]) w7:=by
   have nb:∀b,v6.ownBlock=some b→b≠bt:=fun b hb hn=>by subst hn;exact uJ.fc gc (by decide) hb
   refine⟨?_,gc7,uJ.FX AZ s7 nb,?_,?_,h.hb,h.hD⟩
   ·refine((h4.S.aE s5.all).trans s6.all (fun k hk hn=>?_)).trans s7 (fun k hk hn=>?_)
    ·have:=(h4.o.base k hn).1;omega
    ·have hn:k=bt:=hn;have:=h.hb;omega
   ·exact s7.b9 (s6.all.b9 (s5.all.aX h4.d) (fun hn=>by obtain⟨cs,hc⟩:=h4.o.isCells hn;rw[h4.d]at hc;cases hc)) (fun hn=>by have hn:D=bt:=hn;have h1:=h.c;rw[←hn,h.d]at h1;cases h1)
   ·exact s7.b9 (s6.all.b9 (s5.all.aX h4.r) (fun hn=>by obtain⟨cs,hc⟩:=h4.o.isCells hn;rw[h4.r]at hc;cases hc)) (fun hn=>by have hn:D+1=bt:=hn;have h1:=h.c;rw[←hn,h.r]at h1;cases h1)
  have s8:Step allM w7 allM (w7.putObj (D+1) (.loop (rec .ready none))) (fun k=>k=D+1):=ef trivial;exact⟨h7.r,rfl,⟨v6,h7.mn⟩,fun k=>¬Eo wr k,(((((s2.cD (fun _ h=>h.elim) (fun _ _=>trivial)).trans s3 pr).aE s5.all).trans s6.all (fun k _ hn=>acU k hn)).trans s7 pc).trans s8 pr,fun _ h=>h⟩
 ·obtain⟨ts,⟨v,h⟩,qq,jN⟩:=h3;left;refine⟨h.r,?_⟩;have h5:=h.mn (st':=rec .exhausted none);generalize w3.putObj (D+1) _=wE at h5 ⊢;refine au (ak (br cb rfl rfl rfl h5.c rfl (al rfl rfl (ae (aW ?_)))));have sE:Step allM wE allM (wE.putObj D (.deferred none)) (fun k=>k=D):=ef trivial;have hDD:=h.hD;exact AA rfl rfl h5.d ⟨ts,qq,jN,h5.o.FX AZ sE (fun b hb hn=>by have hn:b=D:=hn;obtain⟨cs,hc⟩:=h5.o.isCells hb;rw[hn,h5.d]at hc;cases hc),h5.S.trans sE (fun k hk hn=>by have hn:k=D:=hn;omega)⟩
end Go.K
namespace Go.K
open Go.Proofs
set_option maxRecDepth 10000
theorem A0 {bs mb clock:Nat} {es:List MapEntry} (w0:World) (hk:FV es) (hes:es.length≤100000000) (QU:w0.heap[bs]? =some (.cells #[.map (some mb)] 227 (0,0))) (hW:fJ Tryz.prog 47 w0 mb es clock):
  Spec Tryz.prog 195 #[.func (.func 197) #[] [.pointer (some ⟨bs,0,none⟩)].toArray] w0 (fun v w=>∃ts:List Fd,ts.Nodup∧(∀t,t∈ts↔∃e∈es,e.key=kv t)∧Own RT.fd 47 (qw v) w w0.heap.size v ts∧Step allM w0 allM w aN):=by
 refine bE (args:=[_]) (fn:=Tryz.f195) Tryz.func195 rfl (n:=5) Tryz.ntmps195 (au (ak (al rfl rfl (ae (au (ak (aj rfl rfl ?_)))))));refine aS rfl rfl abK (CE _ hk hes QU hW) (fun r w1 hc=>?_);refine al rfl rfl (ae (aW ?_));exact a8 rfl rfl hc
def dm (t:Fd):List UInt8:=t.1++[0]++t.2
theorem JJ {M:aU} {t:Fd} (w0:World) (hM:Lt M w0) (h1:t.1.length≤1000000) (h2:t.2.length≤1000000):
  Spec Tryz.prog 74 #[kv t] w0 (fun v w=>v= .string ⟨(dm t).toArray⟩∧Step M w0 M w aN):=by
 refine bE (args:=[_]) (fn:=Tryz.f74) Tryz.func74 rfl (n:=9) Tryz.ntmps74 ?_;have S:Step M w0 M w0 aN:=(ah _ _).cD (fun _ h=>h.elim) (fun _ h=>h.elim);refine au (ak ?_);refine eG (A:=RT.fd) rfl rfl hM (ru (by omega) (by omega)) rfl (fun u0 w1 cQ s0 _=>?_);replace hM:=s0.lt hM;have:=S.size;replace S:=S.aE s0;refine al rfl rfl (ae (au (ak ?_)));refine aA (M:=M) (A:=RT.fd) (B:=RT.str) bG rfl rfl I9 (by decide) (G3) rfl rfl (by decide) (by assumption) (by repeat (first|exact ar _ _|refine aT (bh (by assumption)) ?_)) (fun tU jR=>?_);refine aY (M:=M) aM rfl rfl rfl rfl rfl jR (ar _ _) (fun v1 ti=>?_);obtain rfl:=dQ ti;refine Rg.cat (p:=t.1) (q:=[0]) rfl rfl rfl (by simp;omega) ?_;refine aA (M:=M) (A:=RT.fd) (B:=RT.str) bG rfl rfl I9 (by decide) (Oz) rfl rfl (by decide) (by assumption) (by repeat (first|exact ar _ _|refine aT (bh (by assumption)) ?_)) (fun G0 jh=>?_);refine aY (M:=M) aM rfl rfl rfl rfl rfl jh (ar _ _) (fun v4 oQ=>?_);obtain rfl:=dQ oQ;refine Rg.cat (p:=t.1++[0]) (q:=t.2) rfl rfl rfl (by simp;omega) (al rfl rfl (ae (aW ?_)));exact a8 rfl rfl ⟨rfl,S⟩
theorem qj {M:aU} {t:Fd} (w0:World) (hM:Lt M w0) (h1:t.1.length≤1000000) (h2:t.2.length≤1000000):
  Spec Tryz.prog 94 #[kv t] w0 (fun v w=>v= .string ⟨(dm t).toArray⟩∧Step M w0 M w aN):=by
 refine bE (args:=[_]) (fn:=Tryz.f94) Tryz.func94 rfl (n:=9) Tryz.ntmps94 ?_;have S:Step M w0 M w0 aN:=(ah _ _).cD (fun _ h=>h.elim) (fun _ h=>h.elim);refine au (ak ?_);refine eG (A:=RT.fd) rfl rfl hM (ru (by omega) (by omega)) rfl (fun u0 w1 cQ s0 _=>?_);replace hM:=s0.lt hM;have:=S.size;replace S:=S.aE s0;refine al rfl rfl (ae (au (ak ?_)));refine aA (M:=M) (A:=RT.fd) (B:=RT.str) bG rfl rfl I9 (by decide) (G3) rfl rfl (by decide) (by assumption) (by repeat (first|exact ar _ _|refine aT (bh (by assumption)) ?_)) (fun tU jR=>?_);refine aY (M:=M) aM rfl rfl rfl rfl rfl jR (ar _ _) (fun v1 ti=>?_);obtain rfl:=dQ ti;refine Rg.cat (p:=t.1) (q:=[0]) rfl rfl rfl (by simp;omega) ?_;refine aA (M:=M) (A:=RT.fd) (B:=RT.str) bG rfl rfl I9 (by decide) (Oz) rfl rfl (by decide) (by assumption) (by repeat (first|exact ar _ _|refine aT (bh (by assumption)) ?_)) (fun G0 jh=>?_);refine aY (M:=M) aM rfl rfl rfl rfl rfl jh (ar _ _) (fun v4 oQ=>?_);obtain rfl:=dQ oQ;refine Rg.cat (p:=t.1++[0]) (q:=t.2) rfl rfl rfl (by simp;omega) (al rfl rfl (ae (aW ?_)));exact a8 rfl rfl ⟨rfl,S⟩
end Go.K
namespace Go.K
open Go.Proofs
set_option maxRecDepth 10000
theorem A1 (a b:List UInt8) (w:World):Spec Tryz.prog 159 #[.string ⟨a.toArray⟩,.string ⟨b.toArray⟩] w (fun v w'=>v= .int .i64 (Lib.compareBytes a b)∧w'=w):=(Any.strings_Compare Tryz.MM ⟨a.toArray⟩ ⟨b.toArray⟩ w).mono fun e w' ⟨h1,h2⟩=>⟨_,h1,rfl,h2⟩
end Go.K
namespace Go.K
section
variable {P:Program} {r:Option Nat} {n:Nat} {L:Sl} {ds:List Deferred} {w:World} {K:Kt} {ops:Array Oper} {rest:List Oper} {d:Nat} {x:Operand} {ty:TypeId} {pos:String} {af:Array Edge}
theorem jy.tE {id:Nat} {l:List Oper} (hm:P.follows .mixedOrders=true) (du:eV l 0=true) (h:jy P r n l L ds (w.drewN 1) K):T P r n (.region id l.toArray true) L ds w K:=by
 refine⟨fun a ha=>wpIn_region_draw fun t=>?_⟩;simp only[Region.schedule,hm,Bool.true_or,if_true,Region.linearise];obtain⟨J,h1,h2,h3,h4⟩:=h a ha;refine n4 (J:=J) du (fun {D D' a w} hi hD=>h1 D D' a w hi hD) (fun {D a' w' j o rest} hj ho pg hp mL hi hk=>h2 _ _ _ _ _ _ _ hj ho pg hp mL hi hk) h3 _ t _ a _ (by simp) (by simp[List.countP_replicate]) (fun i o h1 h2=>?_) (h1 _ _ _ _ h4 fun i _=>?_)
 ·simp[Array.getElem?_replicate]at h2
 ·simp[Array.getElem?_replicate]
theorem T.QV {id:Nat} {l l':List Oper} (π:List Nat) (m:Nat) (fl:List Nat) (c:Nat) (N:aU) (hm:P.follows .mixedOrders=true) (Iu:wC π l=l') (uC:eV l 0=true) (hπ:l6 π l.length=true) (tx:Nat.blt m l'.length=true) (du:eV l' 0=true) (qu:k7 l' m=true) (zg:l4 l' m fl c=true)
  (h:ju P r n l'.toArray (l'.take m) L ds (w.drewN 1) (fun L'=>(∀j o,j∈fl→l'[j]? =some o→bT P N (w.drewN 1) L' o)∧oO P r n l'.toArray N (w.drewN 1) K c (l'.drop m) L' ds (w.drewN 1))):T P r n (.region id l.toArray true) L ds w K:=by
 subst Iu;exact jy.tE hm uC (.perm π hπ uC (BV m fl c N tx du qu zg h))
theorem Rg.QW {e:TypeId} {v:Value} (hx:ev L x=some v) (hd:Nat.blt d n=true) (k:Rg P r n ops rest ((d,.pointer (some ⟨w.heap.size,0,none⟩))::L) ds (w.alloc (.cells v.cells e (0,0))) K):
  Rg P r n ops ({dst:=some d,op:= .box e x,type:=ty,pos,after:=af,guard:=none}::rest) L ds w K:=by
 refine .op (fun _ h=>by cases h) rfl rfl hd _ (w.alloc (.cells v.cells e (0,0))) (fun ρ hρ=>?_) k;simp only[execOp,hρ x _ hx];simp[Instr.box,newVar,newRow,newObj,Sem.run]
theorem Er (w:World) (o:Obj):w.alloc o=Go.Sort.grow w #[o]:=by
 unfold World.alloc Go.Sort.grow;congr 1
theorem Es (w:World) (os:Array Obj) (q:Nat):(Go.Sort.grow w os).drewN q=Go.Sort.grow (w.drewN q) os:=rfl
end
end Go.K
namespace Go.K
open Go.Proofs
set_option maxRecDepth 10000
abbrev gh (t:Fd):Obj:= .cells #[.string ⟨t.1.toArray⟩,.string ⟨t.2.toArray⟩] 47 (0,0)
theorem JK {t:Fd} (w0:World) (h1:t.1.length≤1000000) (h2:t.2.length≤1000000):
  Spec Tryz.prog 74 #[kv t] w0 (fun v w=>v= .string ⟨(dm t).toArray⟩∧w=w0.alloc (gh t)):=by
 refine bE (args:=[_]) (fn:=Tryz.f74) Tryz.func74 rfl (n:=9) Tryz.ntmps74 (au (ak (Rg.QW rfl rfl ?_)));have gb:=cO w0 (gh t);change Rg _ _ _ _ _ _ _ (w0.alloc (gh t)) _;generalize hw:w0.alloc (gh t)=w1 at gb ⊢;refine al rfl rfl (ae (au (ak (bI (o':=0) bG rfl rfl I9 (by decide) rfl rfl (br aM rfl rfl rfl gb rfl (Rg.cat (p:=t.1) (q:=[0]) rfl rfl rfl (by simp;omega) (bI (o':=1) bG rfl rfl I9 (by decide) rfl rfl (br aM rfl rfl rfl gb rfl (Rg.cat (p:=t.1++[0]) (q:=t.2) rfl rfl rfl (by simp;omega) (al rfl rfl (ae ?_)))))))))));refine aW ?_;exact a8 rfl rfl ⟨rfl,rfl⟩
theorem Np {s t:Fd} (w0:World) (h1:s.1.length≤1000000) (h2:s.2.length≤1000000) (h3:t.1.length≤1000000) (h4:t.2.length≤1000000):
  Spec Tryz.prog 158 #[kv s,kv t] w0 (fun v w=>v= .int .i64 (Lib.compareBytes (dm s) (dm t))∧w=((((w0.alloc (gh s)).alloc (gh t)).drewN 1).alloc (gh s)).alloc (gh t)):=by
 refine bE (args:=[_,_]) (fn:=Tryz.f158) Tryz.func158 rfl (n:=10) Tryz.ntmps158 (au (ak (Rg.QW rfl rfl ?_)));change Rg _ _ _ _ _ _ _ (w0.alloc (gh s)) _;refine Rg.QW rfl rfl ?_;change Rg _ _ _ _ _ _ _ ((w0.alloc (gh s)).alloc (gh t)) _;have g1:((w0.alloc (gh s)).alloc (gh t)).heap[w0.heap.size]? =some (gh s):=(dA aN _ _).aX (cO w0 _);have g2:=cO (w0.alloc (gh s)) (gh t);have kp:=eX aN (((w0.alloc (gh s)).alloc (gh t)).drewN 1);refine al rfl rfl (ae (au ?_));apply T.QV [0,2,1,3,4,5] 2 [1] 1 aN mixed
 ·simp+decide only[wC,qv,eO,qW,iX,iY,kK,eZ,iO,lJ,cond_true,cond_false,Nat.reduceBEq,Nat.reduceAdd,beq_self_eq_true];rfl
 ·rfl
 ·rfl
 ·rfl
 ·rfl
 ·rfl
 ·rfl
 have g1':(((w0.alloc (gh s)).alloc (gh t)).drewN 1).heap[w0.heap.size]? =some (gh s):=g1;have g2':(((w0.alloc (gh s)).alloc (gh t)).drewN 1).heap[(w0.alloc (gh s)).heap.size]? =some (gh t):=g2;refine gQ (vs:=[.string ⟨s.1.toArray⟩,.string ⟨s.2.toArray⟩]) bG rfl jW rfl rfl rfl g1' ?_;refine ae ⟨rfl,rfl,rfl,?_⟩;refine gQ (vs:=[.string ⟨t.1.toArray⟩,.string ⟨t.2.toArray⟩]) bG rfl jW rfl rfl rfl g2' ?_;refine ae ⟨rfl,rfl,rfl,?_⟩;refine dv ?_;refine⟨eA ⟨dx rfl (by assumption) (by first|assumption|exact fun h=>h|(intro h;have h:_=_:=h;omega)),trivial⟩,?_⟩;replace kp:=kp.mY (dA aN (((w0.alloc (gh s)).alloc (gh t)).drewN 1) (gh s));refine aS rfl rfl UX (JK (t:=s) _ h1 h2) (fun r5 w5 hc=>?_);obtain⟨rfl,rfl⟩:=hc;refine(fun(kp:eg _ _ _)=>ae ⟨rfl,rfl,fun _=>kp,?_⟩) (by first|exact kp|exact kp.mY (by assumption)|exact kp.goN (by assumption)|exact kp.go (by assumption) (fun _ _ h=>by first|exact h|exact h.elim));refine aS rfl rfl UX (JK (t:=t) _ h3 h4) (fun r6 w6 hc=>?_);obtain⟨rfl,rfl⟩:=hc;refine ae ⟨rfl,rfl,fun h=>absurd rfl h,?_⟩;refine aS rfl rfl abn (A1 _ _ _) (fun r7 w7 hc=>?_);obtain⟨rfl,rfl⟩:=hc;refine ae ⟨rfl,rfl,fun h=>absurd rfl h,?_⟩;refine al rfl rfl ?_;refine ae ⟨rfl,rfl,fun h=>absurd rfl h,?_⟩;refine gX (aW ?_);exact a8 rfl rfl ⟨rfl,rfl⟩
end Go.K
namespace Go.K
open Go.Lib (compareBytes)
theorem nI (a b:UInt8) (x y:List UInt8):compareBytes (a::x) (b::y)=if a.toNat<b.toNat then-1 else if b.toNat<a.toNat then 1 else compareBytes x y:=by
 rw[compareBytes];simp only[UInt8.lt_iff_toNat_lt]
theorem xu:∀a,compareBytes a a=0
 |[]=>rfl
 |a::x=>by rw[nI,if_neg (jr _),if_neg (jr _)];exact xu x
theorem pS:∀{a b},compareBytes a b=0→a=b
 |[],[],_=>rfl
 |[],_::_,h=>by simp[compareBytes]at h
 |_::_,[],h=>by simp[compareBytes]at h
 |a::x,b::y,h=>by
  rw[nI]at h
  split at h
  ·omega
  ·split at h
   ·omega
   ·rw[pS h,UInt8.toNat_inj.1 (show a.toNat=b.toNat by omega)]
theorem oA:∀a b,compareBytes a b= -compareBytes b a
 |[],[]=>rfl
 |[],_::_=>rfl
 |_::_,[]=>rfl
 |a::x,b::y=>by
  rw[nI,nI,oA x y]
  split<;>split<;>first|omega|rfl
theorem qk:∀{a b c},compareBytes a b<0→compareBytes b c<0→compareBytes a c<0
 |[],[],_,h,_=>by simp[compareBytes]at h
 |_::_,[],_,h,_=>by simp[compareBytes]at h
 |_,_::_,[],_,h=>by simp[compareBytes]at h
 |[],_::_,_::_,_,_=>by simp[compareBytes]
 |a::x,b::y,c::z,h1,h2=>by
  rw[nI]at h1 h2 ⊢
  split at h1
  ·split at h2
   ·rw[if_pos (by omega)];omega
   ·split at h2
    ·omega
    ·rw[if_pos (by omega)];omega
  ·split at h1
   ·omega
   ·split at h2
    ·rw[if_pos (by omega)];omega
    ·split at h2
     ·omega
     ·rw[if_neg (by omega),if_neg (by omega)];exact qk h1 h2
theorem FY {α:Type} (f:α→List UInt8):Go.Sort.SWO (Go.Proofs.ltOf fun x y=>compareBytes (f x) (f y)) where
 irrefl x:=by simp[Go.Proofs.ltOf,xu]
 trans x y z h1 h2:=by
  simp only[Go.Proofs.ltOf,decide_eq_true_eq]at*
  exact qk h1 h2
 ntrans x y z h1 h2:=by
  simp only[Go.Proofs.ltOf,decide_eq_false_iff_not]at*
  intro h3;by_cases e1:compareBytes (f x) (f y)=0
  ·rw[pS e1]at h3;exact h2 h3
  ·by_cases e2:compareBytes (f y) (f z)=0
   ·rw[pS e2]at h1;exact h1 h3
   ·have n1:=oA (f x) (f y);have n2:=oA (f y) (f z);have n3:=oA (f x) (f z);have:compareBytes (f z) (f x)<0:=qk (b:=f y) (by omega) (by omega);omega
end Go.K
namespace Go.Proofs
open Go.Shelf
def Tryz.Et:Go.Shelf.Ren:=⟨fun|6=>196|15=>166|14=>234|28=>210|29=>211|20=>261|21=>262|22=>263|23=>264|24=>265|25=>266|26=>267|27=>268|46=>281|47=>246|48=>247|49=>282|50=>283|57=>290|n=>n,fun|22=>98|24=>47|25=>235|3=>3|39=>183|0=>0|53=>273|55=>165|4=>4|46=>267|45=>266|50=>121|5=>5|9=>9|66=>295|70=>299|76=>327|77=>305|n=>n,fun|n=>n⟩
theorem Tryz.JL:Go.Proofs.SlLaysF0.n6 Tryz.prog Tryz.Et:={
 mixed:=by kernel_rfl
 f6:=⟨Tryz.f196.name,by decide,Tryz.func196.trans (congrArg some (by kernel_rfl))⟩
 f14:=⟨Tryz.f234.name,by decide,Tryz.func234.trans (congrArg some (by kernel_rfl))⟩
 f15:=Tryz.func166.trans (congrArg some (by kernel_rfl))
 f20:=⟨Tryz.f261.name,by decide,Tryz.func261.trans (congrArg some (by kernel_rfl))⟩
 f21:=⟨Tryz.f262.name,by decide,Tryz.func262.trans (congrArg some (by kernel_rfl))⟩
 f22:=⟨Tryz.f263.name,by decide,Tryz.func263.trans (congrArg some (by kernel_rfl))⟩
 f23:=⟨Tryz.f264.name,by decide,Tryz.func264.trans (congrArg some (by kernel_rfl))⟩
 f24:=⟨Tryz.f265.name,by decide,Tryz.func265.trans (congrArg some (by kernel_rfl))⟩
 f25:=⟨Tryz.f266.name,by decide,Tryz.func266.trans (congrArg some (by kernel_rfl))⟩
 f26:=⟨Tryz.f267.name,by decide,Tryz.func267.trans (congrArg some (by kernel_rfl))⟩
 f27:=⟨Tryz.f268.name,by decide,Tryz.func268.trans (congrArg some (by kernel_rfl))⟩
 f28:=Tryz.func210.trans (congrArg some (by kernel_rfl))
 f29:=Tryz.func211.trans (congrArg some (by kernel_rfl))
 f46:=⟨Tryz.f281.name,by decide,Tryz.func281.trans (congrArg some (by kernel_rfl))⟩
 f47:=Tryz.func246.trans (congrArg some (by kernel_rfl))
 f48:=Tryz.func247.trans (congrArg some (by kernel_rfl))
 f49:=⟨Tryz.f282.name,by decide,Tryz.func282.trans (congrArg some (by kernel_rfl))⟩
 f50:=⟨Tryz.f283.name,by decide,Tryz.func283.trans (congrArg some (by kernel_rfl))⟩
 f57:=⟨Tryz.f290.name,by decide,Tryz.func290.trans (congrArg some (by kernel_rfl))⟩
 t0:=jY
 a0:=vV
 z0:=qR
 v0:=kH
 t3:=aB
 a3:=vW
 z3:=qS
 v3:=kI
 t4:=iD
 a4:=Tryz.isAgg4
 z4:=Tryz.sizeOf4
 v4:=rK
 t5:=cN
 a5:=Tryz.isAgg5
 z5:=Tryz.sizeOf5
 v5:=Tryz.zeroValue5
 t9:=aM
 a9:=vX
 z9:=qT
 v9:=kJ
 t22:=cb
 a22:=Tryz.isAgg98
 z22:=Tryz.sizeOf98
 v22:=Tryz.zeroValue98
 t25:=Tryz.underlying235
 a25:=Tryz.isAgg235
 z25:=Tryz.sizeOf235
 v25:=Tryz.zeroValue235
 t39:=Tryz.underlying183
 a39:=Tryz.isAgg183
 z39:=Tryz.sizeOf183
 v39:=Tryz.zeroValue183
 t45:=Tryz.underlying266
 a45:=Tryz.isAgg266
 z45:=Tryz.sizeOf266
 v45:=Tryz.zeroValue266
 t46:=Tryz.underlying267
 a46:=Tryz.isAgg267
 z46:=Tryz.sizeOf267
 v46:=Tryz.zeroValue267
 t50:=Tryz.underlying121
 a50:=Tryz.isAgg121
 z50:=Tryz.sizeOf121
 v50:=Tryz.zeroValue121
 t53:=Tryz.underlying273
 a53:=Tryz.isAgg273
 z53:=Tryz.sizeOf273
 v53:=Tryz.zeroValue273
 t55:=Tryz.underlying165
 a55:=Tryz.isAgg165
 z55:=Tryz.sizeOf165
 v55:=Tryz.zeroValue165
 t66:=Tryz.underlying295
 a66:=Tryz.isAgg295
 z66:=Tryz.sizeOf295
 v66:=Tryz.zeroValue295
 t70:=Tryz.underlying299
 a70:=Tryz.isAgg299
 z70:=Tryz.sizeOf299
 v70:=Tryz.zeroValue299
 t76:=Tryz.underlying327
 a76:=Tryz.isAgg327
 z76:=Tryz.sizeOf327
 v76:=Tryz.zeroValue327
 t77:=Tryz.underlying305
 a77:=Tryz.isAgg305
 z77:=Tryz.sizeOf305
 v77:=Tryz.zeroValue305}
end Go.Proofs
namespace Go.K
open Go.Proofs
set_option maxRecDepth 10000
open Go.Proofs Go.Sort
abbrev TK:Type:={t:Fd // (0:UInt8)∉t.1∧t.1.length≤1000000∧t.2.length≤1000000}
instance ahU:Inhabited TK:=⟨⟨([],[]),by simp,by simp,by simp⟩⟩
def yU (x:TK):List Value:=[.string ⟨x.1.1.toArray⟩,.string ⟨x.1.2.toArray⟩]
def HV (x y:TK):Int:=Lib.compareBytes (dm x.1) (dm y.1)
theorem xv:∀{a b x y:List UInt8},(0:UInt8)∉a→(0:UInt8)∉b→a++[0]++x=b++[0]++y→a=b∧x=y
 |[],[],_,_,_,_,h=>⟨rfl,by simpa using h⟩
 |[],c::b,_,_,_,hb,h=>by
  simp at h;exact absurd (by rw[←h.1];exact cn ..) hb
 |c::a,[],_,_,ha,_,h=>by
  simp at h;exact absurd (by rw[h.1];exact cn ..) ha
 |c::a,e::b,x,y,ha,hb,h=>by
  simp only[kG,List.cons.injEq]at h;obtain⟨h1,h2⟩:=xv (fun h=>ha (cF _ h)) (fun h=>hb (cF _ h)) h.2;exact⟨by rw[h.1,h1],h2⟩
theorem acV (w:World):(isAgg 47).run Tryz.prog w= .ok true w:=by simp[isAgg,cR,run_underlying bG]
theorem V6 (w:World):(Go.sizeOf 47).run Tryz.prog w= .ok 2 w:=by
 obtain⟨i,h1,_,h2,_⟩:=jW.get;simp[Go.sizeOf,typeInfo,cR,program,Sem.run,h1,h2]
theorem JM (kb off size:Nat) (w:World):CmpLays Tryz.prog 158 #[] yU 2 HV kb off size w:=fun m os dk hs x y=>
 (show Calls Tryz.prog 158 #[kv x.1,kv y.1] (sortWorldK yU 2 w kb off m dk os) (fun e w'=>∃v,e= .returned v∧_∧_)from Np (s:=x.1) (t:=y.1) _ x.2.2.1 x.2.2.2 y.2.2.1 y.2.2.2).mono fun e w' ⟨v,h1,h2,h3⟩=>⟨by rw[h1,h2];rfl,1,#[gh x.1,gh y.1,gh x.1,gh y.1],by rw[h3];simp only[Er,Es,Go.Sort.grow_grow];rfl⟩
theorem V7 (kb off cap:Nat) (d:Array TK) (w:World) (hH:HoldsK yU 2 w kb off d) (hblk:kb<w.heap.size) (jF:d.size<4611686018427387904):
  Spec Tryz.prog 196 #[.slice (some ⟨kb,off,none⟩) d.size cap,.func (.func 158) #[] #[]] w (fun v w'=>v= .tuple #[]∧∃n os,w'=sortWorldK yU 2 w kb off n (d.toList.mergeSort fun x y=> !(Go.Proofs.ltOf HV) y x).toArray os):=by
 exact(Go.Proofs.AnyQ.slices_SortFunc_total Tryz.JL 2 acV V6 yU (fun _=>rfl) (fun x v hv=>by simp[yU]at hv;rcases hv with rfl|rfl<;>rfl) HV (FY _) 158 #[] kb off cap d w abm (JM kb off d.size w) hH hblk jF (fun x y h1 h2=>by
  have h0:HV x y=0:=by
   have:=oA (dm x.1) (dm y.1);simp only[Go.Proofs.ltOf,decide_eq_false_iff_not]at h1 h2;unfold HV at h1 h2 ⊢;omega
  have h3:=pS h0;obtain⟨h4,h5⟩:=xv x.2.1 y.2.1 h3;exact Subtype.ext (qQ h4 h5))).mono fun e w' ⟨h1,h2⟩=>⟨_,h1,rfl,h2⟩
end Go.K
namespace Go.K
set_option linter.unusedSectionVars false
open Go.Sort Go.Proofs
section
variable {α:Type} [Inhabited α] {enc:α→List Value} {k:Nat}
theorem uK (hk:∀x,(enc x).length=k) (h0:0<k):∀(l:List α) (t:Nat),(l.flatMap enc)[t]? =(l[t/k]?).bind fun x=>(enc x)[t%k]?
 |[],t=>by simp
 |x::l,t=>by
  rw[List.flatMap_cons];rcases eT t k with h|h
  ·rw[List.getElem?_append_left (by rw[hk];exact h),Nat.div_eq_of_lt h,Nat.mod_eq_of_lt h];rfl
  ·rw[List.getElem?_append_right (by rw[hk];exact h),hk,uK hk h0 l];have e1:t/k=(t-k)/k+1:=by rw[Nat.div_eq t k,if_pos ⟨h0,h⟩]
   have e2:(t-k)%k=t%k:=by rw[Nat.mod_eq t k,if_pos ⟨h0,h⟩]
   rw[e1,e2,List.getElem?_cons_succ]
theorem pT (hk:∀x,(enc x).length=k):∀l:List α,(l.flatMap enc).length=l.length*k
 |[]=>by simp
 |x::l=>by rw[List.flatMap_cons,bP,hk,pT hk l,cK,Nat.add_mul];omega
theorem xw (hk:∀x,(enc x).length=k) (h0:0<k) (d:Array α) {t:Nat} (ht:t<d.size*k):(d.toList.flatMap enc)[t]? =some (flatK enc k d)[t]! :=by
 have h1:t/k<d.size:=Nat.div_lt_of_lt_mul (by rw[Nat.mul_comm];exact ht);have h2:t%k<k:=Nat.mod_lt _ h0;rw[uK hk h0,get_flatK _ _ _ _ ht];have e:d.toList[t/k]? =some d[t/k]! :=by simp[h1]
 rw[e];simp[hk,h2]
theorem Hb {w:World} {g:Nat} {cur:Array Value} {e:TypeId} {d:Array α} (hk:∀x,(enc x).length=k) (h0:0<k) (hg:w.heap[g]? =some (.cells cur e (0,0))) (hC:cur.toList.take (d.size*k)=d.toList.flatMap enc):HoldsK enc k w g 0 d:=fun j hj=>by
 rw[size_flatK]at hj;have h1:=xw hk h0 d hj;rw[←hC,eE,if_pos hj,Array.getElem?_toList]at h1;constructor
 ·simp[World.cell?,hg,h1]
 ·simp[World.frozen?,hg]
theorem yV {w:World} {g n:Nat} {cur:Array Value} {e:TypeId} {d:Array α} {os:Array Obj} (hg:w.heap[g]? =some (.cells cur e (0,0))):(sortWorldK enc k w g 0 n d os).heap[g]? =some (.cells (putCells id 0 (flatK enc k d) cur) e (0,0)):=by
 have ek:g<w.heap.size:=av hg
 have h1:(w.heap.modify g (onCells (putCells id 0 (flatK enc k d))))[g]? =some (.cells (putCells id 0 (flatK enc k d) cur) e (0,0)):=by
  rw[tf,if_pos rfl,hg];rfl
 show((w.heap.modify g (onCells (putCells id 0 (flatK enc k d))))++os)[g]? =_;rw[Array.getElem?_append_left (by simpa using ek)];exact h1
theorem vD {w:World} {g n:Nat} {d:Array α} {os:Array Obj}:Step allM w allM (sortWorldK enc k w g 0 n d os) (fun b=>b=g):=
 ⟨fun h=>absurd (h w.heap.size trivial) (jr _),rfl,rfl,rfl,by show _≤((w.heap.modify g _)++os).size;simp,fun _ _=>Iff.rfl,fun b hb hn=>by
  have hn: ¬b=g:=hn;show((w.heap.modify g (onCells (putCells id 0 (flatK enc k d))))++os)[b]? =_;rw[Array.getElem?_append_left (by simpa using hb),tf,if_neg (fun h=>hn h.symm)],fun _ _=>trivial⟩
theorem yW {F cur:Array Value} (h:F.size≤cur.size):(putCells id 0 F cur).toList.take F.size=F.toList:=by
 apply mE;intro j;rw[eE];by_cases hj:j<F.size
 ·rw[if_pos hj];simp[putCells,hj,Nat.lt_of_lt_of_le hj h]
 ·rw[if_neg hj,fL (by simpa using hj)]
theorem A2 (hk:∀x,(enc x).length=k) (h0:0<k) (d:Array α):(flatK enc k d).toList=d.toList.flatMap enc:=by
 apply mE;intro j;by_cases hj:j<d.size*k
 ·rw[xw hk h0 d hj];have:j<(flatK enc k d).size:=by rw[size_flatK];exact hj
  rw[Array.getElem?_toList,getElem!_pos _ j this];exact Array.getElem?_eq_getElem this
 ·rw[fL (by rw[Array.length_toList,size_flatK];omega),fL (by rw[pT hk,Array.length_toList];omega)]
end
end Go.K
namespace Go.K
open Go.Proofs
set_option maxRecDepth 10000
open Go.Proofs Go.Sort
theorem FZ:∀{ts:List Fd} {C:List Value} {M:aU} {w:World},fR RT.fd M w ts C→C=ts.flatMap fun t=>[.string ⟨t.1.toArray⟩,.string ⟨t.2.toArray⟩]
 |[],C,_,_,h=>h
 |t::ts,C,_,_,⟨vs,r,h1,h2,h3⟩=>by
  obtain⟨va,vb,rfl,h4,h5⟩:=h2;rw[h1,FZ h3,h4.1,h5.1];rfl
theorem CF {M:aU} {w:World}:∀{ts:List Fd},(∀t∈ts,t.1.length≤1000000∧t.2.length≤1000000)→fR RT.fd M w ts (ts.flatMap fun t=>[.string ⟨t.1.toArray⟩,.string ⟨t.2.toArray⟩])
 |[],_=>rfl
 |t::ts,h=>by
  obtain⟨h1,h2⟩:=h t (cn ..);exact⟨_,_,rfl,⟨_,_,rfl,⟨rfl,by omega⟩,⟨rfl,by omega⟩⟩,CF fun u hu=>h u (cF _ hu)⟩
def JN (us:List Fd):Prop:=us.Pairwise fun a b=>¬Lib.compareBytes (dm b) (dm a)<0
theorem yX {base:Nat} {v:Value} {ts:List Fd} (w0:World) (ho:Own RT.fd 47 (qw v) w0 base v ts) (hT:∀t∈ts,(0:UInt8)∉t.1∧t.1.length≤1000000∧t.2.length≤1000000) (hl:ts.length≤100000000):
  Spec Tryz.prog 196 #[v,.func (.func 158) #[] #[]] w0 (fun r w=>r= .tuple #[]∧∃us:List Fd,us.Perm ts∧JN us∧Own RT.fd 47 (qw v) w base v us∧Step allM w0 allM w (qw v)):=by
 obtain⟨⟨C,⟨hC,hr⟩,hA⟩,hm⟩:=ho;rcases hr with⟨rfl,h0⟩|⟨g,cap,cur,rfl,hb,hg,hle,hmx,hcz,Gx⟩
 ·have DT:ts=[]:=cE.1 h0;subst DT;exact(AnyF.slices_SortFunc_none Tryz.JL none 0 _ w0).mono fun e w' ⟨h1,h2⟩=>⟨_,h1,rfl,[],.refl _,List.Pairwise.nil,dO _ _ _ _ _,by rw[h2];exact(ah allM w0).cD (fun _ h=>h.elim) (fun _ _=>trivial)⟩
 ·obtain⟨d,hd⟩:∃d:Array TK,d.toList.map (·.1)=ts:=⟨(ts.attach.map fun x=>(⟨x.1,hT x.1 x.2⟩:TK)).toArray,by rw[List.toList_toArray,yI];exact List.attach_map_subtype_val ts⟩;have jF:d.size=ts.length:=by rw[←hd];simp
  have hk:∀x:TK,(yU x).length=2:=fun _=>rfl
  have QX:∀l:List TK,(l.map (·.1)).flatMap (fun t:Fd=>[Value.string ⟨t.1.toArray⟩,.string ⟨t.2.toArray⟩])=l.flatMap yU:=fun l=>by rw[List.flatMap_map];rfl
  have hH:HoldsK yU 2 w0 g 0 d:=Hb hk (by omega) hg (by
   have e2:RT.fd.n=2:=rfl;rw[e2]at Gx;rw[jF,Gx,FZ hA,←hd,QX])
  have hs:=V7 g 0 cap d w0 hH (av hg) (by omega);rw[jF]at hs;refine hs.mono fun r w' ⟨h1,n,os,h2⟩=>⟨h1,(d.toList.mergeSort fun x y=> !(ltOf HV) y x).map (·.1),?_,?_,?_,?_⟩
  ·rw[←hd];exact(List.mergeSort_perm _ _).map _
  ·refine eo.2 ((List.pairwise_mergeSort (fun a b c h1 h2=>?_) (fun a b=>?_) _).imp fun h=>?_)
   ·simp only[ltOf,qV,decide_eq_false_iff_not]at*
    have:=(FY fun x:TK=>dm x.1).ntrans c b a (by simpa[ltOf,HV]using h2) (by simpa[ltOf,HV]using h1);simpa[ltOf,HV]using this
   ·simp only[ltOf,Bool.or_eq_true,qV,decide_eq_false_iff_not];have:=oA (dm a.1) (dm b.1);unfold HV;omega
   ·rw[qV]at h;exact of_decide_eq_false h
  ·have hp:=List.mergeSort_perm d.toList fun x y=> !(ltOf HV) y x
   rw[h2];generalize (d.toList.mergeSort fun x y=> !(ltOf HV) y x)=us at hp;have V8:(us.map (·.1)).length=ts.length:=by rw[cr,hp.length_eq,Array.length_toList,jF]
   have Bw:us.toArray.size*2=ts.length*2:=by rw[←V8];simp
   have e2:RT.fd.n=2:=rfl;refine⟨⟨(us.map (·.1)).flatMap (fun t:Fd=>[Value.string ⟨t.1.toArray⟩,.string ⟨t.2.toArray⟩]),⟨?_,.inr ⟨g,cap,_,by rw[V8],hb,yV hg,by rw[V8];exact hle,hmx,by rw[←hcz];simp[putCells],?_⟩⟩,CF fun t ht=>?_⟩,hm⟩
   ·rw[QX,pT hk,cr,e2]
   ·rw[QX,V8,e2,←Bw,←size_flatK yU,yW (by rw[size_flatK,Bw,hcz,e2];omega),A2 hk (by omega)]
   ·obtain⟨x,_,rfl⟩:=cL.1 ht;exact x.2.2
  ·rw[h2];exact vD.cD (fun b hb=>by have hb:b=g:=hb;subst hb;rfl) (fun _ _=>trivial)
end Go.K
namespace Go.K
open Go.Proofs
set_option maxRecDepth 10000
theorem CG {bs mb clock:Nat} {es:List MapEntry} (w0:World) (hk:FV es) (hT:∀e∈es,∀t,e.key=kv t→(0:UInt8)∉t.1∧t.1.length≤1000000∧t.2.length≤1000000) (hes:es.length≤100000000) (hlen:∀ts:List Fd,ts.Nodup→(∀t∈ts,∃e∈es,e.key=kv t)→ts.length≤100000000) (QU:w0.heap[bs]? =some (.cells #[.map (some mb)] 227 (0,0))) (hW:fJ Tryz.prog 47 w0 mb es clock):
  Spec Tryz.prog 156 #[.func (.func 197) #[] [.pointer (some ⟨bs,0,none⟩)].toArray,.func (.func 158) #[] #[]] w0 (fun v w=>∃us:List Fd,us.Nodup∧(∀t,t∈us↔∃e∈es,e.key=kv t)∧JN us∧Own RT.fd 47 (qw v) w w0.heap.size v us∧Step allM w0 allM w aN):=by
 refine bE (args:=[_,_]) (fn:=Tryz.f156) Tryz.func156 rfl (n:=12) Tryz.ntmps156 (au (ak (al rfl rfl (ae (au (ak (aj rfl rfl ?_)))))));refine aS rfl rfl abx (A0 _ hk hes QU hW) (fun v1 w1 hc=>?_);obtain⟨ts,qq,jN,ho,s1⟩:=hc;refine al rfl rfl (ae (au (ak (aj rfl rfl (aj rfl rfl ?_)))));refine aS rfl rfl aby (yX _ ho (fun t ht=>by obtain⟨e,he,hke⟩:=(jN t).1 ht;exact hT e he t hke) (hlen ts qq fun t ht=>(jN t).1 ht)) (fun r2 w2 hc=>?_);obtain⟨rfl,us,hp,Mn,V9,s2⟩:=hc;refine ae (au (ak (aj rfl rfl (al rfl rfl (ae (aW ?_))))));exact a8 rfl rfl ⟨us,hp.nodup_iff.2 qq,fun t=>hp.mem_iff.trans (jN t),Mn,V9,s1.trans s2 (fun k hk hn=>by have:=(ho.base k hn).1;omega)⟩
theorem Eu {mb:Nat} (w0:World):
  Spec Tryz.prog 157 #[.map (some mb)] w0 (fun v w=>∃bs,v= .func (.func 197) #[] [.pointer (some ⟨bs,0,none⟩)].toArray∧w.heap[bs]? =some (.cells #[.map (some mb)] 227 (0,0))∧w0.heap.size≤bs∧Step allM w0 allM w aN):=by
 refine bE (args:=[_]) (fn:=Tryz.f157) Tryz.func157 rfl (n:=4) Tryz.ntmps157 (au (ak ?_));refine vr allM rfl rfl (fun bs w1 BC LX gs s1=>?_);change w1.heap[bs]? =some (.cells #[.map (some mb)] 227 (0,0))at gs;replace s1:=s1.all;refine al rfl rfl (ae (au (ak (jv (xs:=[]) (ys:=[.tmp 1]) rfl rfl rfl (al rfl rfl (ae (aW ?_)))))));exact a8 rfl rfl ⟨bs,rfl,gs,BC,s1⟩
end Go.K
namespace Go.K
open Go.Proofs
set_option maxRecDepth 10000
def posOf (ts:List (Fd×Nat)) (t:Fd):List Int:=(ts.filter fun p=>decide (p.1=t)).map fun p=>(p.2:Int)
def seen (ts:List (Fd×Nat)):List Fd:=ts.foldl (fun l p=>if p.1∈l then l else l++[p.1]) []
theorem Hc (ts:List (Fd×Nat)) (t:Fd) (i:Nat):seen (ts++[(t,i)])=if t∈seen ts then seen ts else seen ts++[t]:=by unfold seen;rw[mD];rfl
theorem xx (ts:List (Fd×Nat)) (t t':Fd) (i:Nat):posOf (ts++[(t,i)]) t'=if t=t' then posOf ts t'++[(i:Int)]else posOf ts t':=by
 unfold posOf;rw[List.filter_append];by_cases h:t=t'<;>simp[h]
theorem tY (ts:List (Fd×Nat)) (t:Fd):(posOf ts t).length≤ts.length:=by
 unfold posOf;rw[cr];exact List.length_filter_le _ _
abbrev kR:Value:= .slice none 0 0
structure Hd (M:aU) (w:World) (B:Nat) (ts:List (Fd×Nat)) (es:List MapEntry):Prop where
 o:∀t v,eD kR es (kv t) v→Own (RT.int .i64) 3 M w B v (posOf ts t)
 a:∀t t' v v',t≠t'→eD kR es (kv t) v→eD kR es (kv t') v'→jE v v'
 k:es.map (·.key)=(seen ts).map kv
theorem Hd.bC {M M':aU} {w w':World} {B:Nat} {ts:List (Fd×Nat)} {es:List MapEntry} (h:Hd M w B ts es) (s:Step M w M' w' aN):Hd M' w' B ts es:=⟨fun t v hv=>(h.o t v hv).bC s,h.a,h.k⟩
def IJ (bt mb B:Nat) (ts:List (Fd×Nat)) (M:aU) (w:World):Prop:=w.heap[bt]? =some (.cells #[.map (some mb)] 227 (0,0))∧M bt∧M mb∧B≤bt∧B≤mb∧∃es clock,fJ Tryz.prog 47 w mb es clock∧Hd M w B ts es
theorem Own.kS {α:Type} {A:RT α} {e:TypeId} {M:aU} {w:World} {base b c:Nat} {a:Array MapEntry} {v:Value} {xs:List α} (h:Own A e M w base v xs) (hb:w.heap[b]? =some (.map a c)):v.ownBlock≠some b:=fun hv=>by
 obtain⟨⟨C,h1,_⟩,_⟩:=h;rcases h1.2 with⟨h2,_⟩|⟨g,cap,cur,h2,_,h3,_⟩
 ·rw[h2]at hv;cases hv
 ·rw[h2]at hv;cases hv;rw[h3]at hb;cases hb
theorem su {ts:List (Fd×Nat)} {es:List MapEntry} {t:Fd} (hk:es.map (·.key)=(seen ts).map kv):(∃e∈es,e.key=kv t)↔t∈seen ts:=by
 constructor
 ·rintro⟨e,he,h⟩;have:kv t∈(seen ts).map kv:=by rw[←hk,←h];exact fH he
  obtain⟨t',h1,h2⟩:=cL.1 this;rw[←tW h2];exact h1
 ·intro h;have:kv t∈es.map (·.key):=by rw[hk];exact fH h
  obtain⟨e,h1,h2⟩:=cL.1 this;exact⟨e,h1,h2⟩
theorem He {M:aU} {bt mb B:Nat} {ts:List (Fd×Nat)} {t:Fd} {i:Nat} (w0:World) (hM:Lt M w0) (h1:t.1.length≤900000) (h2:t.2.length≤140737488355328) (hi:i≤1000000) (DT:ts.length≤10000000) (hJ:IJ bt mb B ts M w0):
  Spec Tryz.prog 155 #[kv t,.int .i64 (i:Int),.pointer (some ⟨bt,0,none⟩)] w0 (fun v w=>∃M',Lt M' w∧IJ bt mb B (ts++[(t,i)]) M' w∧Step M w0 M' w (kL M B)):=by
 obtain⟨gb,ey,fk,hB,F0,es,clock,hW,hI⟩:=hJ;refine bE (args:=[_,_,_]) (fn:=Tryz.f155) Tryz.func155 rfl (n:=13) Tryz.ntmps155 ?_;have S:Step M w0 M w0 (kL M B):=(ah _ _).cD (fun _ h=>h.elim) (fun _ h=>h.2);refine au (ak ?_);refine eG (A:=RT.fd) rfl rfl hM (ru (by omega) h2) rfl (fun u0 w1 cQ s0 _=>?_);have:=av gb;replace ey:=(s0.mem _ this).2 ey;replace gb:=s0.aX gb;replace fk:=(s0.mem _ (av hW.at_)).2 fk;replace hW:=hW.bC s0;replace hI:=hI.bC s0;replace hM:=s0.lt hM;have:=S.size;replace S:=S.aE s0;refine ae (ak (br lX rfl rfl rfl (by assumption) rfl ?_));refine cc (M:=M) (A:=RT.fd) bG rfl jW (by decide) rfl rfl rfl cQ (ar _ _) (fun v1 ti=>?_);obtain rfl:=iB ti;refine aj rfl rfl ?_;refine ez (A:=RT.int .i64) (hn:=by decide) (M:=M) ay I3 (by decide) rfl rfl hM (ie (by omega)) (.inr ⟨rfl,rfl⟩) (fun G0 Cc jh s1_3=>?_);have:=av gb;replace ey:=(s1_3.mem _ this).2 ey;replace gb:=s1_3.aX gb;replace cQ:=cQ.le (by decide) s1_3.le;replace fk:=(s1_3.mem _ (av hW.at_)).2 fk;replace hW:=hW.bC s1_3;replace hI:=hI.bC s1_3;replace hM:=s1_3.lt hM;have:=S.size;replace S:=S.aE s1_3;obtain⟨kl,HQ⟩:=JF t (by omega) h2;refine Rg.mapEntry (M:=M) (zv:=kR) lX zF gT rfl rfl rfl HQ hW fk (fun w4 es4 cl4 v s TZ hv jN Hf Mu s4=>?_);have HW:∀t v,eD kR es (kv t) v→v.ownBlock≠some mb:=fun t v h=>(hI.o t v h).kS hW.at_
 have ON:bt≠mb:=fun e=>by subst e;have:=hW.at_;rw[gb]at this;cases this
 replace hI:Hd M w4 B ts es:=⟨fun t v hv=>(hI.o t v hv).step s4 (fun b hb hk=>HW t v hv (by have hk:b=mb:=hk;rw[←hk];exact hb)),hI.a,hI.k⟩;have Wa:=(s4.mem _ (av hW.at_)).2 fk;replace ey:=(s4.mem _ (av gb)).2 ey;replace gb:=s4.b9 gb ON;replace jh:=jh.le s4.le;replace hM:=s4.lt hM;have hmM:∀b,b<w0.heap.size→M b→M b:=fun b hb h=>(S.mem b hb).1 h
 have hz0:=S.size;replace S:=S.trans s4 (fun k hk h=>by have h:k=mb:=h;subst h;exact⟨F0,hmM k hk fk⟩);have qI:=hI.o t v hv;have zk:=tY ts t;refine b5 rfl rfl rfl ?_;refine Rg.kY (M:=M) (base:=B) ay I3 rfl rfl rfl rfl qI jh (ar _ _) (by simp;omega) (by simp;omega) (by have:=av gb;omega) (fun v6 w6 uJ s6 hF=>?_);have hblk:∀b,kb v b→B≤b∧M b:=fun b h=>⟨(qI.base b h).1,qI.mut_ b h⟩
 have Hg:∀t' v',t'≠t→eD kR es (kv t') v'→jE v' v:=fun t' v' fE qC=>hI.a t' t v' v fE qC hv
 have Nq:∀t' v',t'≠t→eD kR es (kv t') v'→Own (RT.int .i64) 3 (lA M v6) w6 B v' (posOf ts t'):=fun t' v' fE qC=>(hI.o t' v' qC).step s6 (fun b hb hk=>Hg t' v' fE qC b hb hk)
 have jF:∀t' v',eD kR es (kv t') v'→∀b,v'.ownBlock=some b→b<w4.heap.size:=fun t' v' qC b hb=>((hI.o t' v' qC).base b hb).2
 have Ev:∀t' v',t'≠t→eD kR es (kv t') v'→jE v6 v':=fun t' v' fE qC=>(Hg t' v' fE qC).symm.grown hF (jF t' v' qC)
 have acW:v.ownBlock≠some mb:=qI.kS TZ.at_;have JO:=(s6.mem _ (av TZ.at_)).2 Wa;replace TZ:=TZ.step s6 acW;replace ey:=(s6.mem _ (av gb)).2 ey;replace gb:=s6.b9 gb (fun h=>qI.fc gb (by decide) h);replace hM:=s6.lt hM;have acX:∀b,b<w0.heap.size→M b→M b:=fun b hb h=>(S.mem b hb).1 h
 replace S:=S.trans s6 (fun k hk h=>⟨(hblk k h).1,acX k hk (hblk k h).2⟩);refine b5 rfl rfl rfl ?_;have Wb:=TZ.at_;refine Rg.entryStore rfl rfl rfl TZ JO jN (fun w8 es8 hW8 oT Wc s8=>?_);have hm8:v6.ownBlock≠some mb:=uJ.kS Wb;replace uJ:=uJ.step s8 (fun b hb hk=>hm8 (by have hk:b=mb:=hk;rw[←hk];exact hb));have Wd:∀t' v',t'≠t→eD kR es (kv t') v'→Own (RT.int .i64) 3 _ w8 B v' (posOf ts t'):=fun t' v' fE qC=>(Nq t' v' fE qC).step s8 (fun b hb hk=>HW t' v' qC (by have hk:b=mb:=hk;rw[←hk];exact hb))
 have We:=(s8.mem _ (av Wb)).2 JO;refine ae ?_
 first|refine ig.nil ?_|simp+decide only[Am,nW,if_true,if_false]|skip
 replace ey:=(s8.mem _ (av gb)).2 ey;replace gb:=s8.b9 gb ON;replace hM:=s8.lt hM;replace S:=S.trans s8 (fun k hk h=>by have h:k=mb:=h;subst h;exact⟨F0,(S.mem k hk).1 JO⟩)
 have qJ:∀t1 v1,eD kR es8 (kv t1) v1→(t1=t∧v1=v6)∨(t1≠t∧eD kR es (kv t1) v1):=fun t1 v1 ti=>by
  rcases(Wc kR (kv t1) v1).1 ti with⟨h3,h4⟩|⟨h3,h4⟩
  ·exact .inl ⟨tW h3,h4⟩
  ·exact .inr ⟨fun e=>h3 (by rw[e];rfl),(Hf (kv t1) v1).1 h4⟩
 refine l7 rfl ⟨_,hM,⟨gb,ey,We,hB,F0,es8,_,hW8,⟨fun t1 v1 ti=>?_,fun t1 t2 v1 v2 fE ti kB=>?_,?_⟩⟩,S⟩
 ·rcases qJ t1 v1 ti with⟨rfl,rfl⟩|⟨h3,h4⟩
  ·rw[xx,if_pos rfl];exact uJ
  ·rw[xx,if_neg (fun e=>h3 e.symm)];exact Wd t1 v1 h3 h4
 ·rcases qJ t1 v1 ti with⟨rfl,rfl⟩|⟨h3,h4⟩
  ·rcases qJ t2 v2 kB with⟨rfl,_⟩|⟨h5,h6⟩
   ·exact absurd rfl fE
   ·exact Ev t2 v2 h5 h6
  ·rcases qJ t2 v2 kB with⟨rfl,rfl⟩|⟨h5,h6⟩
   ·exact(Ev t1 v1 h3 h4).symm
   ·exact hI.a t1 t2 v1 v2 fE h4 h6
 ·rw[oT,Hc];rcases Mu with⟨h3,h4⟩|⟨h3,h4⟩
  ·rw[h3,hI.k,if_pos ((su hI.k).1 h4)]
  ·rw[h3,hI.k,if_neg (fun h=>by obtain⟨e,he,hk⟩:=(su hI.k).2 h;exact h4 e he hk)];simp[kv]
end Go.K
namespace Go.K
open Go.Maps (Keyed)
open Go.Lib (compareBytes)
theorem CH:∀a b:List UInt8,Op.bytesLess a b=decide (compareBytes a b<0)
 |[],[]=>by simp[Op.bytesLess,compareBytes]
 |_::_,[]=>by simp[Op.bytesLess,compareBytes]
 |[],_::_=>by simp[Op.bytesLess,compareBytes]
 |a::x,b::y=>by
  rw[Op.bytesLess,CH x y,nI];by_cases h1:a.toNat<b.toNat
  ·simp[UInt8.lt_iff_toNat_lt,h1]
  ·by_cases h2:b.toNat<a.toNat
   ·have: ¬a=b:=fun e=>by subst e;omega
    simp[UInt8.lt_iff_toNat_lt,h1,h2,this]
   ·have:a=b:=UInt8.toNat_inj.1 (by omega);simp[UInt8.lt_iff_toNat_lt,h1,h2,this]
theorem pU (a b:List UInt8):compareBytes a b<0↔a<b:=by
 have h:=CH a b;rw[Go.Proofs.bytesLess_eq]at h;exact(decide_eq_decide.1 h).symm
theorem iW (a:List UInt8): ¬a<a:=fun h=>by have:=(pU a a).2 h;rw[xu]at this;omega
theorem j8 {a b c:List UInt8} (h:a<b) (h':b<c):a<c:=(pU _ _).1 (qk ((pU _ _).2 h) ((pU _ _).2 h'))
theorem lP (a b:List UInt8):a<b∨a=b∨b<a:=by
 rcases Int.lt_trichotomy (compareBytes a b) 0 with h|h|h
 ·exact .inl ((pU _ _).1 h)
 ·exact .inr (.inl (pS h))
 ·exact .inr (.inr ((pU _ _).1 (by rw[oA];omega)))
theorem jm {a b:List UInt8} (h:a<b): ¬b<a:=fun h'=>iW a (j8 h h')
theorem Ew {a b:List UInt8}:a≤b↔¬b<a:=Iff.rfl
section
variable {P:Program} {r:Option Nat} {n:Nat} {L:Sl} {ds:List Deferred} {w:World} {K:Kt} {ops:Array Oper} {rest:List Oper} {d:Nat} {x y:Operand} {ty:TypeId} {pos:String} {af:Array Edge}
theorem Rg.QY {t t':TypeId} {p q:List UInt8} (hx:ev L x=some (.string ⟨p.toArray⟩)) (hy:ev L y=some (.string ⟨q.toArray⟩)) (hd:Nat.blt d n=true)
  (k:Rg P r n ops rest ((d,.bool (decide (p<q)))::L) ds w K):
  Rg P r n ops ({dst:=some d,op:= .binOp .lss t x y t',type:=ty,pos,after:=af,guard:=none}::rest) L ds w K:=
 .op (fun _ h=>by cases h) rfl rfl hd _ w (fun ρ h=>by
  simp only[execOp];rw[h x _ hx,h y _ hy];simp[eqGuard,binOp,Op.stringOp,jw,Go.Proofs.bytesLess_eq]) k
theorem Rg.acY {t t':TypeId} {p q:List UInt8} (hx:ev L x=some (.string ⟨p.toArray⟩)) (hy:ev L y=some (.string ⟨q.toArray⟩)) (hd:Nat.blt d n=true)
  (k:Rg P r n ops rest ((d,.bool (decide (q<p)))::L) ds w K):
  Rg P r n ops ({dst:=some d,op:= .binOp .gtr t x y t',type:=ty,pos,after:=af,guard:=none}::rest) L ds w K:=
 .op (fun _ h=>by cases h) rfl rfl hd _ w (fun ρ h=>by
  have e:(!(decide (p<q)||p==q))=decide (q<p):=by
   rcases lP p q with h|h|h
   ·simp[h,jm h]
   ·subst h;simp[iW]
   ·have: ¬p=q:=fun e=>by subst e;exact iW p h
    simp[h,jm h,this]
  simp only[execOp];rw[h x _ hx,h y _ hy];simp only[binOp,Op.stringOp,jw,Go.Proofs.bytesLess_eq,e];simp[eqGuard]) k
theorem Rg.JP {t t':TypeId} {p q:List UInt8} (hx:ev L x=some (.string ⟨p.toArray⟩)) (hy:ev L y=some (.string ⟨q.toArray⟩)) (hd:Nat.blt d n=true)
  (k:Rg P r n ops rest ((d,.bool (decide (¬p<q)))::L) ds w K):
  Rg P r n ops ({dst:=some d,op:= .binOp .geq t x y t',type:=ty,pos,after:=af,guard:=none}::rest) L ds w K:=
 .op (fun _ h=>by cases h) rfl rfl hd _ w (fun ρ h=>by
  have e:(!decide (p<q))=decide (¬p<q):=by by_cases h:p<q<;>simp[h]
  simp only[execOp];rw[h x _ hx,h y _ hy];simp only[binOp,Op.stringOp,jw,Go.Proofs.bytesLess_eq,e];simp[eqGuard]) k
theorem Rg.JQ {t t':TypeId} {p q:List UInt8} (hx:ev L x=some (.string ⟨p.toArray⟩)) (hy:ev L y=some (.string ⟨q.toArray⟩)) (hd:Nat.blt d n=true)
  (k:Rg P r n ops rest ((d,.bool (decide (¬q<p)))::L) ds w K):
  Rg P r n ops ({dst:=some d,op:= .binOp .leq t x y t',type:=ty,pos,after:=af,guard:=none}::rest) L ds w K:=
 .op (fun _ h=>by cases h) rfl rfl hd _ w (fun ρ h=>by
  have e:(decide (p<q)||p==q)=decide (¬q<p):=by
   rcases lP p q with h|h|h
   ·simp[h,jm h]
   ·subst h;simp[iW]
   ·have: ¬p=q:=fun e=>by subst e;exact iW p h
    simp[h,jm h,this]
  simp only[execOp];rw[h x _ hx,h y _ hy];simp only[binOp,Op.stringOp,jw,Go.Proofs.bytesLess_eq,e];simp[eqGuard]) k
end
abbrev vR (l:List (List UInt8)):Prop:=l.Pairwise (· < ·)
theorem Hh {ss:List (List UInt8)} (h:ss.Nodup):vR (ss.mergeSort fun x y=>decide (x≤y)):=by
 have h1:(ss.mergeSort fun x y=>decide (x≤y)).Pairwise (fun x y=>decide (x≤y)=true):=List.pairwise_mergeSort (fun a b c h1 h2=>by
  simp only[decide_eq_true_eq,Ew]at h1 h2 ⊢;intro h3;rcases lP a b with h|h|h
  ·exact h2 (j8 h3 h)
  ·subst h;exact h2 h3
  ·exact h1 h) (fun a b=>by
  simp only[Bool.or_eq_true,decide_eq_true_eq,Ew];rcases lP a b with h|h|h
  ·exact .inl (jm h)
  ·subst h;exact .inl (iW a)
  ·exact .inr (jm h)) ss
 have h2:(ss.mergeSort fun x y=>decide (x≤y)).Nodup:=(List.mergeSort_perm ss _).nodup_iff.2 h;refine (h1.and h2).imp ?_;rintro a b ⟨h3,h4⟩;simp only[decide_eq_true_eq,Ew]at h3;rcases lP a b with h|h|h
 ·exact h
 ·exact absurd h h4
 ·exact absurd h h3
theorem vR.nodup {l:List (List UInt8)} (h:vR l):l.Nodup:=h.imp fun {a b} h e=>by subst e;exact iW a h
theorem JR {α:Type} {R:α→α→Prop} (hR:∀a b,R a b→R b a→a=b) {l l':List α} (h:l.Pairwise R) (h':l'.Pairwise R) (hn:l.Nodup) (OL:l'.Nodup) (hm:∀x,x∈l↔x∈l'):l=l':=
 List.Perm.eq_of_pairwise (fun a b _ _ h1 h2=>hR a b h1 h2) h h' ((List.perm_ext_iff_of_nodup hn OL).2 hm)
theorem QZ {l l':List (List UInt8)} (h:vR l) (h':vR l') (hm:∀x,x∈l↔x∈l'):l=l':=
 JR (fun a b h1 h2=>absurd h2 (jm h1)) h h' h.nodup h'.nodup hm
abbrev sv (k:List UInt8):Value:= .string ⟨k.toArray⟩
theorem A3 {a b:List UInt8} (h:sv a=sv b):a=b:=by simpa[sv]using h
def Ex:Value→Option (DU×List MemPlace):=fun _=>some (.nil,[])
theorem fJ.acZ {P:Program} {kt:TypeId} {M:aU} {w:World} {b:Nat} {es:List MapEntry} {clock:Nat} (hk:P.underlying kt=some .string) (h:fJ P kt w b es clock) (hm:M b) (hl:es.length≤maxLen) (ks:List (List UInt8)) (Nr:es.map (·.key)=ks.map sv):
  ∃m:List (Lit×DU),P9 P kt Ex M w b m∧(strKeys (DataW.map m)).Perm ks∧m.length=ks.length:=by
 have hF:Go.WideElems.Fit P kt Ex es.toArray clock:=by
  refine⟨by simpa using hl,⟨fun x hx=>h.lt x (by simpa using hx),?_,?_⟩,fun x hx=>?_⟩
  ·simpa[List.Nodup,eo]using h.born
  ·simpa[List.Nodup,eo]using h.keys
  ·obtain⟨l,hl⟩:=h.ok x (by simpa using hx);exact⟨(l,.nil),by simp[Go.WideElems.rd,hl,Ex]⟩
 have hp:=Go.WideShapes.sorted_perm (es.toArray.toList.map (Go.WideElems.rg P kt Ex));have hlen:(List.foldr DataW.insert [] (es.toArray.toList.map (Go.WideElems.rg P kt Ex))).length=es.length:=by rw[hp.length_eq];simp
 refine⟨_,⟨hm,es.toArray,clock,h.at_,hF,by rw[hlen];simp,rfl⟩,?_,?_⟩
 ·refine (hp.map fun p=>strOf p.1).trans ?_;rw[yI]
  have e:es.toArray.toList.map ((fun p=>strOf p.1)∘Go.WideElems.rg (H:=Unit) P kt Ex)=ks:=by
   refine mE fun i=>?_
   have hi:=congrArg (·[i]?) Nr;simp only[gG]at hi ⊢
   cases he:es[i]? with
   |none=>
    rw[he]at hi
    cases ac0:ks[i]? with
    |none=>simp[he]
    |some a=>rw[ac0]at hi;cases hi
   |some e=>
    rw[he]at hi;obtain⟨l,hl⟩:=h.ok e (aQ he);obtain⟨s,hs,h1⟩:=lz.1 hi.symm;obtain⟨z,hz1,hz2,_⟩:=Maps.keyOf_str hk hl;have:z=s:=A3 (hz1.symm.trans (by simpa using h1.symm));subst this;simp[he,hs,Go.WideElems.rg,Go.WideElems.rd,hl,Ex,hz2,strOf]
  rw[e]
 ·rw[hlen];have:=congrArg List.length Nr;simpa using this
end Go.K
namespace Go.K
open Go.Lib (compareBytes)
def jI {α:Type} [DecidableEq α] (key:α→List UInt8) (t:α):List α→List α
 |[]=>[t]
 |u::l=>if key t<key u then t::u::l else if u=t then u::l else u::jI key t l
theorem ql {α:Type} [DecidableEq α] {key:α→List UInt8} {t x:α}:∀{l:List α},x∈jI key t l↔x=t∨x∈l
 |[]=>by simp[jI]
 |u::l=>by
  unfold jI
  split
  ·simp
  ·split
   ·rename_i h;subst h;simp
   ·rw[ew,ql (l:=l),ew];constructor
    ·rintro(h|h|h)
     ·exact .inr (.inl h)
     ·exact .inl h
     ·exact .inr (.inr h)
    ·rintro(h|h|h)
     ·exact .inr (.inl h)
     ·exact .inl h
     ·exact .inr (.inr h)
abbrev tZ {α:Type} (key:α→List UInt8) (l:List α):Prop:=l.Pairwise fun a b=>key a<key b
theorem CI {α:Type} [DecidableEq α] {key:α→List UInt8} {t:α}:∀{l:List α},(∀u∈l,key u=key t→u=t)→tZ key l→tZ key (jI key t l)
 |[],_,_=>by simp[jI]
 |u::l,hi,h=>by
  have h':=fV.1 h;unfold jI
  split
  ·rename_i ek
   refine fV.2 ⟨fun x hx=>?_,h⟩;rcases ew.1 hx with rfl|hx
   ·exact ek
   ·exact j8 ek (h'.1 x hx)
  ·rename_i ek
   split
   ·exact h
   ·rename_i fE
    have hut:key u<key t:=by
     rcases lP (key u) (key t)with h1|h1|h1
     ·exact h1
     ·exact absurd (hi u (cn ..) h1) fE
     ·exact absurd h1 ek
    refine fV.2 ⟨fun x hx=>?_,CI (fun v hv=>hi v (cF _ hv)) h'.2⟩;rcases ql.1 hx with rfl|hx
    ·exact hut
    ·exact h'.1 x hx
def allBy {α:Type} [DecidableEq α] (key:α→List UInt8) (l:List α):List α:=l.foldl (fun a t=>jI key t a) []
theorem xy {α:Type} [DecidableEq α] (key:α→List UInt8) (l:List α) (t:α):allBy key (l++[t])=jI key t (allBy key l):=by unfold allBy;rw[mD];rfl
theorem oB {α:Type} [DecidableEq α] {key:α→List UInt8} {S:α→Prop} (hS:∀a b,S a→S b→key a=key b→a=b):∀(l a:List α),(∀x∈l,S x)→(∀x∈a,S x)→tZ key a→
  tZ key (l.foldl (fun a t=>jI key t a) a)∧∀x,x∈l.foldl (fun a t=>jI key t a) a↔x∈a∨x∈l
 |[],a,_,_,h=>⟨h,fun x=>by simp⟩
 |t::l,a,hl,ha,h=>by
  have ht:=hl t (cn ..)
  obtain⟨h1,h2⟩:=oB hS l (jI key t a) (fun x hx=>hl x (cF _ hx)) (fun x hx=>by
   rcases ql.1 hx with rfl|hx
   ·exact ht
   ·exact ha x hx) (CI (fun u hu e=>hS _ _ (ha u hu) ht e) h)
  refine⟨h1,fun x=>?_⟩;rw[List.foldl_cons,h2,ql,ew];constructor
  ·rintro((h|h)|h)
   ·exact .inr (.inl h)
   ·exact .inl h
   ·exact .inr (.inr h)
  ·rintro(h|h|h)
   ·exact .inl (.inr h)
   ·exact .inl (.inl h)
   ·exact .inr h
theorem tZ.nodup {α:Type} {key:α→List UInt8} {l:List α} (h:tZ key l):l.Nodup:=h.imp fun {a b} h e=>by subst e;exact iW _ h
abbrev Hi (t:Fd):Prop:=(0:UInt8)∉t.1
theorem sw {a b:Fd} (ha:Hi a) (hb:Hi b) (h:dm a=dm b):a=b:=by
 obtain⟨h1,h2⟩:=xv ha hb h;exact qQ h1 h2
def cC (tl:List (Fd×Nat)):List Fd:=allBy dm (tl.map (·.1))
theorem pV {tl:List (Fd×Nat)} (hz:∀p∈tl,Hi p.1):tZ dm (cC tl):=
 (oB (S:=Hi) (fun _ _=>sw) _ [] (fun x hx=>by obtain⟨p,hp,rfl⟩:=cL.1 hx;exact hz p hp) (fun x h=>by cases h) List.Pairwise.nil).1
theorem jB {tl:List (Fd×Nat)} (hz:∀p∈tl,Hi p.1) {t:Fd}:t∈cC tl↔t∈tl.map (·.1):=by
 have:=(oB (S:=Hi) (key:=dm) (fun _ _=>sw) (tl.map (·.1)) [] (fun x hx=>by obtain⟨p,hp,rfl⟩:=cL.1 hx;exact hz p hp) (fun x h=>by cases h) List.Pairwise.nil).2 t;simpa[cC,allBy]using this
theorem F1 (t:Fd):∀(ts:List (Fd×Nat)) (l:List Fd),t∈ts.foldl (fun l p=>if p.1∈l then l else l++[p.1]) l↔t∈l∨t∈ts.map (·.1)
 |[],l=>by simp
 |p::ts,l=>by
  rw[List.foldl_cons,F1 t ts,eO,ew]
  split
  ·rename_i h
   constructor
   ·rintro(h1|h1)
    ·exact .inl h1
    ·exact .inr (.inr h1)
   ·rintro(h1|h1|h1)
    ·exact .inl h1
    ·exact .inl (by rw[h1];exact h)
    ·exact .inr h1
  ·rw[dE,cT];constructor
   ·rintro((h1|h1)|h1)
    ·exact .inl h1
    ·exact .inr (.inl h1)
    ·exact .inr (.inr h1)
   ·rintro(h1|h1|h1)
    ·exact .inl (.inl h1)
    ·exact .inl (.inr h1)
    ·exact .inr h1
theorem sx {tl:List (Fd×Nat)} {t:Fd}:t∈seen tl↔t∈tl.map (·.1):=by unfold seen;rw[F1];simp
theorem CJ {tl:List (Fd×Nat)} {us:List Fd} (hz:∀p∈tl,Hi p.1) (qq:us.Nodup) (jN:∀t,t∈us↔t∈seen tl) (Mn:JN us):us=cC tl:=by
 have hm:∀t,t∈us↔t∈cC tl:=fun t=>by rw[jN,sx,jB hz]
 have jU:∀t∈cC tl,Hi t:=fun t ht=>by obtain⟨p,hp,rfl⟩:=cL.1 ((jB hz).1 ht);exact hz p hp
 refine List.Perm.eq_of_pairwise (le:=fun a b=>¬compareBytes (dm b) (dm a)<0) (fun a b ha hb h1 h2=>?_) Mn ((pV hz).imp fun {a b} h h'=>jm h ((pU _ _).1 h')) ((List.perm_ext_iff_of_nodup qq (pV hz).nodup).2 hm);rw[pU]at h1 h2;rcases lP (dm a) (dm b)with h|h|h
 ·exact absurd h h2
 ·exact sw (jU a ((hm a).1 ha)) (jU b hb) h
 ·exact absurd h h1
theorem oC (a b:List (Fd×Nat)) (t:Fd):posOf (a++b) t=posOf a t++posOf b t:=by simp[posOf]
theorem JS {tl:List (Fd×Nat)} {t:Fd} (h:t∈tl.map (·.1)):posOf tl t≠[]:=by
 obtain⟨p,hp,rfl⟩:=cL.1 h;intro e;have:p∈tl.filter fun q=>decide (q.1=p.1):=List.mem_filter.2 ⟨hp,by simp⟩
 rw[List.map_eq_nil_iff.1 e]at this;cases this
theorem Hj {tl:List (Fd×Nat)} {t:Fd} (h:t∉tl.map (·.1)):posOf tl t=[]:=by
 unfold posOf;rw[List.filter_eq_nil_iff.2 fun p hp=>by simp;intro e;exact h (cL.2 ⟨p,hp,e⟩)];rfl
theorem CK (x:Fd) (t:Fd):(posOf (gx x) t).Sublist ((List.range' 0 (words x.2).length).map fun(i:Nat)=>(i:Int)):=by
 have e:(gx x).map (fun p=>(p.2:Int))=(List.range' 0 (words x.2).length).map fun(i:Nat)=>(i:Int):=by
  rw[←List.zipIdx_map_snd 0 (words x.2),yI];unfold gx;rw[yI];rfl
 rw[←e];exact List.filter_sublist.map _
theorem Hk (x:Fd) (t:Fd):(posOf (gx x) t).Pairwise (· < ·)∧∀i∈posOf (gx x) t,0≤i∧i<(words x.2).length:=by
 refine⟨List.Pairwise.sublist (CK x t) (eo.2 ((List.pairwise_lt_range' (s:=0) (n:=(words x.2).length)).imp fun h=>by omega)),fun i hi=>?_⟩;have:=(CK x t).subset hi;obtain⟨k,hk,rfl⟩:=cL.1 this;have:=List.mem_range'_1.1 hk;omega
theorem zH {x:Fd} {p:Fd×Nat} (h:p∈gx x):p.1.1=x.1∧p.1.2∈words x.2:=by
 obtain⟨q,hq,rfl⟩:=cL.1 h;have:=List.mem_zipIdx hq;exact⟨rfl,by simp only;rw[this.2.2];exact List.getElem_mem _⟩
theorem zI {fs:List Fd} {p:Fd×Nat} (h:p∈ck fs):∃x∈fs,p.1.1=x.1∧p.1.2∈words x.2:=by
 obtain⟨x,hx,hp⟩:=List.mem_flatMap.1 h;exact⟨x,hx,zH hp⟩
theorem rv {x t:Fd} (h:x.1≠t.1):posOf (gx x) t=[]:=Hj fun hm=>by
 obtain⟨p,hp,rfl⟩:=cL.1 hm;exact h (zH hp).1.symm
theorem ua {t:Fd}:∀{fs:List Fd},(∀x∈fs,x.1≠t.1)→posOf (ck fs) t=[]
 |[],_=>rfl
 |x::fs,h=>by
  show posOf (gx x++ck fs) t=[];rw[oC,rv (h x (cn ..)),ua fun y hy=>h y (cF _ hy)];rfl
theorem CL {t:Fd}:∀{fs:List Fd},(fs.map (·.1)).Nodup→posOf (ck fs) t=[]∨∃x∈fs,posOf (ck fs) t=posOf (gx x) t
 |[],_=> .inl rfl
 |x::fs,h=>by
  have h':=List.nodup_cons.1 h;have e:posOf (ck (x::fs)) t=posOf (gx x) t++posOf (ck fs) t:=by show posOf (gx x++ck fs) t=_;rw[oC]
  by_cases hx:x.1=t.1
  ·refine .inr ⟨x,cn ..,?_⟩;rw[e,ua fun y hy e=>h'.1 (by have h9:y.1∈fs.map (·.1):=fH hy;rw[e,←hx]at h9;exact h9),iP]
  ·rw[e,rv hx,fz];rcases CL (t:=t) h'.2 with h1|⟨y,hy,h1⟩
   ·exact .inl h1
   ·exact .inr ⟨y,cF _ hy,h1⟩
theorem CM:∀{l:List Int} {last:Int},(∀x∈l,last<x)→l.Pairwise (· < ·)→ec last l=true
 |[],_,_,_=>rfl
 |x::l,last,h1,h2=>by
  have As:=fV.1 h2;simp only[ec,bZ,decide_eq_true_eq];exact⟨h1 x (cn ..),CM As.1 As.2⟩
structure iT (d:Dc):Prop where
 names:∀f∈d.2,ga f.1=true
 once:(d.2.map (·.1)).Nodup
 toks:∀f∈d.2,mg 0 (words f.2)=0
 many:(ck d.2).length≤500
 few:d.2.length≤8
theorem zJ:∀{fs sn:List Fd} {n:Nat},xk sn fs n=0→(∀f∈fs,ga f.1=true∧mg 0 (words f.2)=0∧∀g∈sn,g.1≠f.1)∧(fs.map (·.1)).Nodup∧n+(ck fs).length≤500
 |[],sn,n,h=>by
  refine⟨(fun f hf=>by cases hf),List.nodup_nil,?_⟩;simp only[xk]at h
  split at h
  ·cases h
  ·simp[ck];omega
 |f::fs,sn,n,h=>by
  simp only[xk]at h
  split at h
  ·cases h
  ·rename_i h1
   split at h
   ·cases h
   ·rename_i h2
    split at h
    ·exact absurd h (by assumption)
    ·rename_i h3
     obtain⟨h4,h5,h6⟩:=zJ h;have h7:∀g∈sn,g.1≠f.1:=fun g hg e=>h2 (tu.2 ⟨g,hg,by simp[e]⟩)
     refine⟨fun x hx=>?_,List.nodup_cons.2 ⟨fun hm=>?_,h5⟩,?_⟩
     ·rcases ew.1 hx with rfl|hx
      ·exact⟨by simpa using h1,by simpa using h3,h7⟩
      ·obtain⟨a,b,c⟩:=h4 x hx;exact⟨a,b,fun g hg=>c g (mW _ hg)⟩
     ·obtain⟨y,hy,e⟩:=cL.1 hm;exact(h4 y hy).2.2 f (List.mem_append_right _ (cT.2 rfl)) e.symm
     ·have:(ck (f::fs)).length=(gx f).length+(ck fs).length:=by show(gx f++ck fs).length=_;rw[bP]
      rw[this,nH];omega
theorem F2 {d:Dc} (h:nc d=0):iT d:=by
 unfold nc at h
 split at h
 ·cases h
 ·obtain⟨h1,h2,h3⟩:=zJ h;exact⟨fun f hf=>(h1 f hf).1,h2,fun f hf=>(h1 f hf).2.1,by omega,by omega⟩
theorem zK:∀{ws:List (List UInt8)} {i:Nat},mg i ws=0→∀x∈ws,x.length≤30
 |[],_,_,x,hx=>by cases hx
 |a::ws,i,h,x,hx=>by
  simp only[mg]at h
  split at h
  ·cases h
  ·split at h
   ·cases h
   ·rcases ew.1 hx with rfl|hx
    ·omega
    ·exact zK h x hx
theorem JT {s:List UInt8} (h:ga s=true):(0:UInt8)∉s:=fun h0=>by
 simp only[ga,bZ,eh]at h;have:=h.2 0 h0
 revert this;decide
theorem iT.Hl {d:Dc} (h:iT d):∀p∈ck d.2,Hi p.1:=fun p hp=>by
 obtain⟨x,hx,h1,_⟩:=zI hp;show(0:UInt8)∉p.1.1;rw[h1];exact JT (h.names x hx)
theorem iT.small {d:Dc} (h:iT d):∀p∈ck d.2,p.1.1.length≤12∧p.1.2.length≤30:=fun p hp=>by
 obtain⟨x,hx,h1,h2⟩:=zI hp;exact⟨by rw[h1];exact Cp (h.names x hx),zK (h.toks x hx) _ h2⟩
theorem iT.pos {d:Dc} (h:iT d) (t:Fd):(posOf (ck d.2) t).Pairwise (· < ·)∧(∀i∈posOf (ck d.2) t,0≤i∧i<500)∧(posOf (ck d.2) t).length≤500:=by
 have hl:=tY (ck d.2) t;have hm:=h.many;rcases CL (t:=t) h.once with h1|⟨x,hx,h1⟩
 ·rw[h1];exact⟨List.Pairwise.nil,(fun i hi=>by cases hi),by simp⟩
 ·obtain⟨h2,h3⟩:=Hk x t
  have wk:(words x.2).length≤500:=by
   have:(gx x).length≤(ck d.2).length:=by
    obtain⟨i,hi⟩:=cg.1 hx;have:=rr hi
    have h5:(ck (d.2.take (i+1))).length≤(ck d.2).length:=by
     have:ck d.2=ck (d.2.take (i+1))++ck (d.2.drop (i+1)):=by unfold ck;rw[←List.flatMap_append,td]
     rw[this,bP];omega
    rw[this,bP]at h5;omega
   rw[nH]at this;omega
  rw[h1]at hl ⊢;exact⟨h2,fun i hi=>⟨(h3 i hi).1,by have:=(h3 i hi).2;omega⟩,by omega⟩
theorem iT.ec {d:Dc} (h:iT d) (t:Fd):dL (posOf (ck d.2) t)=true:=by
 obtain⟨h1,h2,_⟩:=h.pos t;exact je.2 ⟨CM (fun x hx=>by have:=(h2 x hx).1;omega) h1,fun x hx=>by have:=(h2 x hx).2;omega⟩
abbrev mP (e:En):List (Fd×Nat):=ck e.1.2
def F3 (i:Nat) (tl:List (Fd×Nat)) (k:List UInt8):List Po:=((cC tl).filter fun t=>decide (dm t=k)).map fun t=>((i:Int),posOf tl t)
def A4 (k:List UInt8):Nat→List En→List Po
 |_,[]=>[]
 |i,e::L=>F3 i (mP e) k++A4 k (i+1) L
def pk (L:List En) (k:List UInt8):List Po:=A4 k 0 L
theorem xz (k:List UInt8) (e:En):∀(L:List En) (i:Nat),A4 k i (L++[e])=A4 k i L++F3 (i+L.length) (mP e) k
 |[],i=>by simp[A4]
 |x::L,i=>by
  simp only[kG,A4,xz k e L (i+1),fm,cK];rw[show i+1+L.length=i+(L.length+1) by omega]
theorem Nt (L:List En) (e:En) (k:List UInt8):pk (L++[e]) k=pk L k++F3 L.length (mP e) k:=by
 unfold pk;rw[xz];simp
def gZ (L:List En):List (List UInt8):=L.flatMap fun e=>(cC (mP e)).map dm
theorem xA (L:List En) (e:En):gZ (L++[e])=gZ L++(cC (mP e)).map dm:=by simp[gZ]
def keysOf (L:List En):List (List UInt8):=allBy id (gZ L)
theorem k9 (L:List En):vR (keysOf L):=(oB (key:=id) (S:=fun _=>True) (fun a b _ _ h=>h) _ [] (fun _ _=>trivial) (fun _ _=>trivial) List.Pairwise.nil).1
theorem jS {L:List En} {k:List UInt8}:k∈keysOf L↔k∈gZ L:=by
 have:=(oB (key:=id) (S:=fun _=>True) (fun a b _ _ h=>h) (gZ L) [] (fun _ _=>trivial) (fun _ _=>trivial) List.Pairwise.nil).2 k;simpa[keysOf,allBy]using this
theorem filter_one {α:Type} {key:α→List UInt8} {l:List α} (h:tZ key l) (k:List UInt8):l.filter (fun t=>decide (key t=k))=[]∨∃t∈l,key t=k∧l.filter (fun t=>decide (key t=k))=[t]:=by
 have h1:tZ key (l.filter fun t=>decide (key t=k)):=List.Pairwise.sublist List.filter_sublist h;have h2:∀x∈l.filter (fun t=>decide (key t=k)),x∈l∧key x=k:=fun x hx=>by simpa using List.mem_filter.1 hx
 revert h1 h2
 generalize l.filter (fun t=>decide (key t=k))=m;intro h1 h2
 match m,h1,h2 with
 |[],_,_=>exact .inl rfl
 |[t],_,h2=>exact .inr ⟨t,(h2 t (cn ..)).1,(h2 t (cn ..)).2,rfl⟩
 |t::u::m,h1,h2=>
  have:=(fV.1 h1).1 u (cn ..);rw[(h2 t (cn ..)).2,(h2 u (by simp)).2]at this;exact absurd this (iW k)
theorem F4 {d:Dc} (h:iT d) (i:Nat) (k:List UInt8):F3 i (ck d.2) k=[]∨∃t∈cC (ck d.2),dm t=k∧F3 i (ck d.2) k=[((i:Int),posOf (ck d.2) t)]:=by
 rcases filter_one (pV h.Hl) k with h1|⟨t,ht,hk,h1⟩
 ·exact .inl (by unfold F3;rw[h1];rfl)
 ·exact .inr ⟨t,ht,hk,by unfold F3;rw[h1];rfl⟩
theorem Q0 {tl:List (Fd×Nat)} {i:Nat} {t:Fd} (h:t∈cC tl):F3 i tl (dm t)≠[]:=fun e=>by
 have:t∈(cC tl).filter fun u=>decide (dm u=dm t):=List.mem_filter.2 ⟨h,by simp⟩
 rw[List.map_eq_nil_iff.1 e]at this;cases this
theorem qm (k:List UInt8):∀(L:List En) (i:Nat) (last:Int),(∀e∈L,iT e.1)→last<i→i+L.length≤2147483648→dH last (A4 k i L)=true
 |[],_,_,_,_,_=>rfl
 |e::L,i,last,hF,h1,h2=>by
  have hf:=hF e (cn ..);have hr:=fun last h=>qm k L (i+1) last (fun x hx=>hF x (cF _ hx)) h (by simp at h2;omega)
  simp only[A4];rcases F4 hf i k with h3|⟨t,ht,hk,h3⟩
  ·rw[show F3 i (mP e) k=[]from h3];exact hr last (by omega)
  ·rw[show F3 i (mP e) k=_ from h3]
   have fE:(posOf (ck e.1.2) t).isEmpty=false:=by
    have:=JS ((jB hf.Hl).1 ht)
    cases h:posOf (ck e.1.2) t with
    |nil=>exact absurd h this
    |cons a b=>rfl
   simp only[kG,fz,dH,fE,hf.ec t,hr i (by omega),Bool.and_true,Bool.not_false,bZ,decide_eq_true_eq];simp at h2;omega
theorem nf (k:List UInt8):∀(L:List En) (i:Nat),(∀e∈L,iT e.1)→(A4 k i L).length≤L.length∧∀p∈A4 k i L,(i:Int)≤p.1∧p.1<i+L.length∧p.2.length≤500
 |[],_,_=>⟨bw _,fun p h=>by cases h⟩
 |e::L,i,hF=>by
  have hf:=hF e (cn ..);obtain⟨h1,h2⟩:=nf k L (i+1) (fun x hx=>hF x (cF _ hx));simp only[A4,cK];rcases F4 hf i k with h3|⟨t,ht,hk,h3⟩
  ·rw[show F3 i (mP e) k=[]from h3];exact⟨by simpa using Nat.le_succ_of_le h1,fun p hp=>by have:=h2 p (by simpa using hp);exact⟨by omega,by omega,this.2.2⟩⟩
  ·rw[show F3 i (mP e) k=_ from h3];refine⟨by simp;omega,fun p hp=>?_⟩;rcases ew.1 hp with rfl|hp
   ·exact⟨Int.le_refl _,by simp only;omega,(hf.pos t).2.2⟩
   ·have:=h2 p (by simpa using hp);exact⟨by omega,by omega,this.2.2⟩
theorem nJ:∀(l:List Po) (last:Int) (m:Nat),-1≤last→dH last l=true→(∀p∈l,p.2.length≤m)→m≤1000000→(dw last l).length≤(18+9*m)*l.length∧iw l≤m*l.length
 |[],_,_,_,_,_,_=>⟨by simp[dw],by simp[iw]⟩
 |(d,ps)::l,last,m,h0,hm,hs,hmm=>by
  simp only[dH,bZ,decide_eq_true_eq]at hm;obtain⟨⟨⟨⟨h1,h2⟩,h3⟩,h4⟩,h5⟩:=hm;obtain⟨h6,h7⟩:=je.1 h4;have nY:=hs _ (cn ..);simp only at nY;obtain⟨i1,i2⟩:=nJ l d m (by omega) h5 (fun p hp=>hs p (cF _ hp)) hmm;have a1:=pz ps (-1) (by omega) (fun x hx=>by have:=h7 x hx;omega) h6;have a3:=gp (n:=(d-last-1).toNat) (by omega);have a4:=gp (n:=ps.length) (by omega);have e1:9*ps.length≤9*m:=by omega
  constructor
  ·simp only[dw,dY,bP,cK,Nat.mul_add,Nat.mul_one];omega
  ·simp only[iw,eO,List.sum_cons,cK]at i2 ⊢;rw[Int.natCast_add,Int.mul_add];omega
theorem JU {k:List UInt8}:∀{L:List En} (i:Nat),k∈gZ L→A4 k i L≠[]
 |[],_,h=>by cases h
 |e::L,i,h=>by
  simp only[A4];intro hn;obtain⟨h1,h2⟩:=List.append_eq_nil_iff.1 hn;have h:k∈(cC (mP e)).map dm++gZ L:=h;rcases dE.1 h with h|h
  ·obtain⟨t,ht,rfl⟩:=cL.1 h;exact Q0 ht h1
  ·exact JU (i+1) h h2
theorem F5 {k:List UInt8}:∀{L:List En} (i:Nat),k∉gZ L→A4 k i L=[]
 |[],_,_=>rfl
 |e::L,i,h=>by
  have h:k∉(cC (mP e)).map dm++gZ L:=h;rw[dE,not_or]at h;simp only[A4];rw[F5 (i+1) h.2,iP];unfold F3;rw[List.filter_eq_nil_iff.2 fun t ht=>by simp;intro e';exact h.1 (cL.2 ⟨t,ht,e'⟩)];rfl
end Go.K
namespace Go.K
def RT.ptr {α:Type} (A:RT α) (hn:0<A.n:=by decide):RT α where
 n:=1
 agg:=false
 R:=fun M w x vs=>∃b o us,vs=[.pointer (some ⟨b,o,none⟩)]∧¬M b∧A.R M w x us∧w.rangeAt b o us
 len:=by rintro _ _ x vs ⟨b,o,us,rfl,_⟩;rfl
 one:=by rintro _ _ x vs ⟨b,o,us,rfl,_⟩ v hv;simp at hv;subst hv;rfl
 le:=by
  rintro M w M' w' x vs hl ⟨b,o,us,h1,h2,h3,h4⟩;have hp:0<us.length:=by rw[A.len h3];exact hn
  have hc:=h4 0 (us[0]'hp) (aI hp);exact⟨b,o,us,h1,(hl b (World.block_lt_of_cell? w _ hc) h2).1,A.le hl h3,qZ hl h2 h4⟩
theorem pW {α:Type} {A:RT α} {hn:0<A.n} {M:aU} {w:World} {x:α} {v:Value}:(A.ptr hn).V M w x v↔bL A M w v x:=
 ⟨fun⟨vs,⟨b,o,us,h1,h2,h3,h4⟩,h5⟩=>⟨b,o,us,by subst h1;exact h5,h2,h3,h4⟩,fun⟨b,o,us,h1,h2,h3,h4⟩=>⟨[v],⟨b,o,us,by rw[h1],h2,h3,h4⟩,rfl⟩⟩
abbrev Di:=List (List UInt8)×List Li
abbrev Se:=List Int×List Int×Di
abbrev RT.di:RT Di:=RT.pair (RT.str.sl) (((RT.li).ptr).sl)
abbrev RT.se:RT Se:=RT.pair ((RT.int .i64).sl) (RT.pair ((RT.int .i64).sl) ((RT.di).ptr))
theorem T0:Part RT.di (RT.str.sl) (fun p=>p.1) 0:=nU _ _
theorem di1:Part RT.di (((RT.li).ptr).sl) (fun p=>p.2) 1:=iN _ _
theorem se0:Part RT.se ((RT.int .i64).sl) (fun p=>p.1) 0:=nU _ _
theorem se1:Part RT.se ((RT.int .i64).sl) (fun p=>p.2.1) 1:=(iN ((RT.int .i64).sl) (RT.pair ((RT.int .i64).sl) ((RT.di).ptr))).trans (nU _ _)
theorem Q1:Part RT.se ((RT.di).ptr) (fun p=>p.2.2) 2:=(iN ((RT.int .i64).sl) (RT.pair ((RT.int .i64).sl) ((RT.di).ptr))).trans (iN ((RT.int .i64).sl) ((RT.di).ptr))
abbrev Pa:=List Int×List Int×List (List UInt8)×List (List Po)
abbrev RT.pa:RT Pa:=RT.pair ((RT.int .i64).sl) (RT.pair ((RT.int .i64).sl) (RT.pair (RT.str.sl) (((RT.po).sl).sl)))
theorem DL:Part RT.pa ((RT.int .i64).sl) (fun p=>p.1) 0:=nU _ _
theorem Ey:Part RT.pa ((RT.int .i64).sl) (fun p=>p.2.1) 1:=(iN ((RT.int .i64).sl) (RT.pair ((RT.int .i64).sl) (RT.pair (RT.str.sl) (((RT.po).sl).sl)))).trans (nU _ _)
theorem Ez:Part RT.pa (RT.str.sl) (fun p=>p.2.2.1) 2:=((iN ((RT.int .i64).sl) (RT.pair ((RT.int .i64).sl) (RT.pair (RT.str.sl) (((RT.po).sl).sl)))).trans (iN ((RT.int .i64).sl) (RT.pair (RT.str.sl) (((RT.po).sl).sl)))).trans (nU _ _)
theorem A5:Part RT.pa (((RT.po).sl).sl) (fun p=>p.2.2.2) 3:=((iN ((RT.int .i64).sl) (RT.pair ((RT.int .i64).sl) (RT.pair (RT.str.sl) (((RT.po).sl).sl)))).trans (iN ((RT.int .i64).sl) (RT.pair (RT.str.sl) (((RT.po).sl).sl)))).trans (iN _ _)
theorem Wf {M:aU} {w:World} {x:Se} {a b c:Value} (h0:((RT.int .i64).sl).V M w x.1 a) (h1:((RT.int .i64).sl).V M w x.2.1 b) (h2:bL RT.di M w c x.2.2):RT.se.V M w x (.agg [a,b,c].toArray):=
 ⟨[a,b,c],⟨[a],[b,c],rfl,l8 h0 rfl rfl,[b],[c],rfl,l8 h1 rfl rfl,l8 (pW.2 h2) rfl rfl⟩,rfl⟩
theorem Hm {M:aU} {w:World} {x:Pa} {a b c d:Value} (h0:((RT.int .i64).sl).V M w x.1 a) (h1:((RT.int .i64).sl).V M w x.2.1 b) (h2:(RT.str.sl).V M w x.2.2.1 c) (h3:(((RT.po).sl).sl).V M w x.2.2.2 d):RT.pa.V M w x (.agg [a,b,c,d].toArray):=
 ⟨[a,b,c,d],⟨[a],[b,c,d],rfl,l8 h0 rfl rfl,[b],[c,d],rfl,l8 h1 rfl rfl,[c],[d],rfl,l8 h2 rfl rfl,l8 h3 rfl rfl⟩,rfl⟩
theorem EA {α:Type} {A:RT α} (hg:A.agg=true) {M:aU} {w:World} {x:α} {vs:List Value} (h:A.V M w x (.agg vs.toArray)):∀u∈vs,u.oneCell'=true:=by
 obtain⟨us,h1,h2⟩:=h
 have:vs=us:=by
  unfold RT.val at h2;rw[if_pos hg]at h2;injection h2 with h2
  simpa using congrArg Array.toList h2
 subst this;exact A.one h1
theorem fR.free {α:Type} {A:RT α} (hA:∀M w M' w' x vs,A.R M w x vs→A.R M' w' x vs) {M M':aU} {w w':World}:∀{xs:List α} {C:List Value},fR A M w xs C→fR A M' w' xs C
 |[],_,h=>h
 |x::xs,C,h=>by
  obtain⟨vs,r,h1,h2,h3⟩:=h;exact⟨vs,r,h1,hA _ _ _ _ _ _ h2,fR.free hA h3⟩
theorem Own.tell {α:Type} {A:RT α} {hn:0<A.n} (hA:∀M w M' w' x vs,A.R M w x vs→A.R M' w' x vs) {e:TypeId} {M M0:aU} {w:World} {base:Nat} {v:Value} {xs:List α} (h:Own A e M w base v xs) (hb:∀b,v.ownBlock=some b→¬M0 b) (hlen:xs.length≤140737488355328):(A.sl hn).V M0 w xs v:=by
 obtain⟨⟨C,hr,ha⟩,hm⟩:=h;have h':Own A e (fun b=>v.ownBlock=some b∨M0 b) w base v xs:=⟨⟨C,hr,fR.free hA ha⟩,fun b hb=> .inl hb⟩;exact h'.sl (fun b _ hn=>⟨fun h=>hn (.inr h),rfl⟩) hb hlen
end Go.K
namespace Go.K
open Go.Maps (Keyed)
section
variable {P:Program} {r:Option Nat} {n:Nat} {L:Sl} {ds:List Deferred} {w:World} {K:Kt} {ops:Array Oper} {rest:List Oper} {d:Nat} {x y z:Operand} {ty:TypeId} {pos:String} {af:Array Edge}
variable {kt:TypeId} {M:aU} {b clock:Nat} {es:List MapEntry}
theorem fJ.Q2 (h:fJ P kt w b es clock) {i s:Nat} {key v0 val:Value} (hi:es[i]? =some ⟨key,v0,s⟩) {w':World} (hw:w'.heap[b]? =some (.map (es.set i ⟨key,val,s⟩).toArray clock)):
  fJ P kt w' b (es.set i ⟨key,val,s⟩) clock∧(es.set i ⟨key,val,s⟩).map (·.key)=es.map (·.key)∧∀zv jl v',eD zv (es.set i ⟨key,val,s⟩) jl v'↔(jl=key∧v'=val)∨(jl≠key∧eD zv es jl v'):=by
 have nq:=(aF.1 hi).1;have jN:(⟨key,v0,s⟩:MapEntry)∈es:=aQ hi;obtain⟨oS,tV⟩:∃oS,oS=es.set i ⟨key,val,s⟩:=⟨_,rfl⟩;rw[←tV]at hw ⊢
 have iI:∀j e',oS[j]? =some e'→(j=i∧e'=⟨key,val,s⟩)∨(j≠i∧es[j]? =some e'):=fun j e' hj=>by
  rw[tV,fq]at hj
  split at hj
  ·rename_i jc
   left;exact⟨jc.symm,by simpa[nq]using hj.symm⟩
  ·rename_i jc
   exact .inr ⟨fun e=>jc e.symm,hj⟩
 have oT:oS.map (·.key)=es.map (·.key):=by
  rw[tV,List.map_set];apply mE;intro j;rw[fq]
  split
  ·rename_i jc
   subst jc;have e:=(aF.1 hi).2;simp[nq,e]
  ·rfl
 have JB:oS.map (·.born)=es.map (·.born):=by
  rw[tV,List.map_set];apply mE;intro j;rw[fq]
  split
  ·rename_i jc
   subst jc;have e:=(aF.1 hi).2;simp[nq,e]
  ·rfl
 have fh:∀e'∈oS,(e'=⟨key,val,s⟩)∨(e'∈es∧e'.key≠key):=fun e' pQ=>by
  obtain⟨j,hj⟩:=cg.1 pQ;rcases iI j e' hj with⟨_,e⟩|⟨fE,uB⟩
  ·exact .inl e
  ·refine .inr ⟨aQ uB,fun e=>fE ?_⟩;rcases mC j i with h1|h1|h1
   ·exact absurd e (im h.keys uB hi h1)
   ·exact h1
   ·exact absurd e.symm (im h.keys hi uB h1)
 have JC:(⟨key,val,s⟩:MapEntry)∈oS:=aQ (i:=i) (by rw[tV,fq];simp[nq])
 have hold:∀e'∈es,e'.key≠key→e'∈oS:=fun e' pQ fE=>by
  obtain⟨j,hj⟩:=cg.1 pQ;refine aQ (i:=j) ?_;rw[tV,fq,if_neg]
  ·exact hj
  ·rintro rfl;rw[hi]at hj;cases hj;exact fE rfl
 refine⟨⟨hw,?_,fun e' pQ=>?_,?_,fun e' pQ=>?_⟩,oT,fun zv jl v'=>?_⟩
 ·have:=eo.2 h.born;rw[←JB]at this;exact eo.1 this
 ·rcases fh e' pQ with e|⟨h1,_⟩
  ·rw[e];exact(h.lt _ jN:s<clock)
  ·exact h.lt _ h1
 ·have:=eo.2 h.keys;rw[←oT]at this;exact eo.1 this
 ·rcases fh e' pQ with e|⟨h1,_⟩
  ·rw[e];exact(h.ok _ jN:∃l,keyOf P kt key=some l)
  ·exact h.ok _ h1
 ·constructor
  ·rintro(⟨e',pQ,hk,hv⟩|⟨h1,h2⟩)
   ·rcases fh e' pQ with e|⟨h3,h4⟩
    ·subst e;exact .inl ⟨hk.symm,hv⟩
    ·exact .inr ⟨by rw[←hk];exact h4,.inl ⟨e',h3,hk,hv⟩⟩
   ·have fE:jl≠key:=fun e=>h1 _ JC e.symm
    exact .inr ⟨fE,.inr ⟨fun e' pQ=>fun e=>by
     by_cases h5:e'.key=key
     ·exact fE (e.symm.trans h5)
     ·exact h1 e' (hold e' pQ h5) e,h2⟩⟩
  ·rintro(⟨rfl,rfl⟩|⟨fE,⟨e',pQ,hk,hv⟩|⟨h1,h2⟩⟩)
   ·exact .inl ⟨_,JC,rfl,rfl⟩
   ·exact .inl ⟨e',hold e' pQ (by rw[hk];exact fE),hk,hv⟩
   ·exact .inr ⟨fun e' pQ=>by
     rcases fh e' pQ with e|⟨h3,_⟩
     ·rw[e];exact fun e=>fE e.symm
     ·exact h1 e' h3,h2⟩
theorem eD.put {key val:Value} {s:Nat} (hn:∀e∈es,e.key≠key) (zv jl v':Value):eD zv (es++[⟨key,val,s⟩]) jl v'↔(jl=key∧v'=val)∨(jl≠key∧eD zv es jl v'):=by
 constructor
 ·rintro(⟨e,he,hk,hv⟩|⟨h1,h2⟩)
  ·rcases dE.1 he with he|he
   ·exact .inr ⟨by rw[←hk];exact hn e he,.inl ⟨e,he,hk,hv⟩⟩
   ·obtain rfl:=cT.1 he;exact .inl ⟨hk.symm,hv⟩
  ·exact .inr ⟨fun e=>h1 ⟨key,val,s⟩ (by simp) e.symm,.inr ⟨fun e he=>h1 e (mW _ he),h2⟩⟩
 ·rintro(⟨rfl,rfl⟩|⟨fE,⟨e,he,hk,hv⟩|⟨h1,h2⟩⟩)
  ·exact .inl ⟨⟨_,_,s⟩,by simp,rfl,rfl⟩
  ·exact .inl ⟨e,mW _ he,hk,hv⟩
  ·refine .inr ⟨fun e he=>?_,h2⟩;rcases dE.1 he with he|he
   ·exact h1 e he
   ·obtain rfl:=cT.1 he;exact fun e=>fE e.symm
theorem Rg.Nu {t e:TypeId} {key val:Value} {kl:Lit} (ht:P.underlying t=some (.map kt e)) (Kk:Keyed P kt) (hx:ev L x=some (.map (some b))) (hy:ev L y=some key) (hz:ev L z=some val) (lD:keyOf P kt key=some kl) (h:fJ P kt w b es clock) (hm:M b)
  (k:∀w' oS El,fJ P kt w' b oS El→((oS.map (·.key)=es.map (·.key)∧∃e∈es,e.key=key)∨(oS.map (·.key)=es.map (·.key)++[key]∧∀e∈es,e.key≠key))→(∀zv jl v',eD zv oS jl v'↔(jl=key∧v'=val)∨(jl≠key∧eD zv es jl v'))→Step M w M w' (fun k=>k=b)→Rg P r n ops rest L ds w' K):
  Rg P r n ops ({dst:=none,op:= .mapUpdate t x y z,type:=ty,pos,after:=af,guard:=none}::rest) L ds w K:=by
 have ek:=av h.at_;rcases Kk.find w lD es h.ok with⟨h1,h2⟩|⟨j,e0,h1,h2,h3⟩
 ·have hw:({w with heap:=w.heap.setIfInBounds b (.map (es.toArray.push ⟨key,val,clock⟩) (clock+1))}:World).heap[b]? =some (.map (es++([⟨key,val,clock⟩]:List MapEntry)).toArray (clock+1)):=by
   simp[dC,ek]
  refine .Uo (fun _ h=>by cases h) rfl rfl _ (fun ρ hρ=>?_) (k _ _ _ (h.push lD h2 hw) (Or.inr ⟨by simp,h2⟩) (eD.put h2) (jf M hm));simp only[execOp,hρ x _ hx,hρ y _ hy,hρ z _ hz,Instr.mapUpdate,cR,run_underlying ht,dD,dU h.at_,Kk.check w false lD,h1,run_setObj_map h.at_];simp
 ·have he:e0∈es:=aQ h2;obtain⟨k0,v0,s0⟩:=e0;simp only at h3;subst h3;have hj:es.toArray[j]? =some ⟨k0,v0,s0⟩:=by simpa using h2
  have JA:es.toArray.modify j (fun e=>{e with key:=k0,val:=val})=(es.set j ⟨k0,val,s0⟩).toArray:=by
   apply Array.ext_getElem?;intro i;rw[tf];simp only[te,fq]
   split
   ·rename_i V1
    subst V1;have:=(aF.1 h2).1;rw[h2];simp[this]
   ·rfl
  have hw:({w with heap:=w.heap.setIfInBounds b (.map (es.set j ⟨k0,val,s0⟩).toArray clock)}:World).heap[b]? =some (.map (es.set j ⟨k0,val,s0⟩).toArray clock):=by simp[dC,ek]
  obtain⟨hW,th,ti⟩:=h.Q2 h2 hw
  have lg:(Instr.keyThatStays ((Option.map (fun(e:MapEntry)=>e.key) es.toArray[j]?).getD k0) k0).run P w= .ok k0 w:=by
   rw[hj];simp only[eZ,Option.getD_some];exact Kk.stays w lD
  refine .Uo (fun _ h=>by cases h) rfl rfl _ (fun ρ hρ=>?_) (k _ _ clock hW (Or.inl ⟨th,_,he,rfl⟩) ti (jf M hm));simp only[execOp,hρ x _ hx,hρ y _ hy,hρ z _ hz,Instr.mapUpdate,cR,run_underlying ht,dD,dU h.at_,Kk.check w false lD,h1,lg,JA,run_setObj_map h.at_];simp
theorem CN {t e:TypeId} {zv key:Value} {size bytes:Nat} {kl:Lit} (ht:P.underlying t=some (.map kt e)) (Kk:Keyed P kt) (hi:TI P e zv size bytes) (lD:keyOf P kt key=some kl) (h:fJ P kt w b es clock):
  ∃v,eD zv es key v∧∀(w:World) (ρ:Operand→Value) (dst:Option Tmp) (gd:Option (Nat×Bool)),ρ x= .map (some b)→ρ y=key→fJ P kt w b es clock→(execOp ρ {dst,op:= .lookup t x y false,type:=ty,pos,after:=af,guard:=gd}).run P w= .ok (.value v) w:=by
 rcases Kk.find w lD es h.ok with⟨h1,h2⟩|⟨j,e0,h1,h2,h3⟩
 ·refine⟨zv,Or.inr ⟨h2,rfl⟩,fun w ρ dst gd hx hy h=>?_⟩;obtain⟨inf,i1,i2,_,_⟩:=hi.get;have hz:(zeroValue e).run P w= .ok zv w:=by simp[zeroValue,typeInfo,i1,i2]
  rcases Kk.find w lD es h.ok with⟨h1,_⟩|⟨j,e0,_,g2,g3⟩
  ·simp only[execOp,hx,hy,Instr.lookup,cR,run_underlying ht,dD,dU h.at_,Sem.run_pure,Kk.check w _ lD,h1,hz];simp
  ·exact absurd g3 (h2 e0 (aQ g2))
 ·refine⟨e0.val,Or.inl ⟨e0,aQ h2,h3,rfl⟩,fun w ρ dst gd hx hy h=>?_⟩;rcases Kk.find w lD es h.ok with⟨_,g2⟩|⟨j',e1,g1,g2,g3⟩
  ·exact absurd h3 (g2 e0 (aQ h2))
  ·have:e1=e0:=h.FT (aQ g2) (aQ h2) (g3.trans h3.symm);subst this;simp only[execOp,hx,hy,Instr.lookup,cR,run_underlying ht,dD,dU h.at_,Sem.run_pure,Kk.check w _ lD,g1];simp
theorem bT.sq {N:aU} {t e:TypeId} {zv key:Value} {size bytes:Nat} {kl:Lit} {dst:Option Tmp} {gd:Option (Nat×Bool)} (ht:P.underlying t=some (.map kt e)) (Kk:Keyed P kt) (hi:TI P e zv size bytes) (hx:ev L x=some (.map (some b))) (hy:ev L y=some key) (lD:keyOf P kt key=some kl) (h:fJ P kt w b es clock) (hn: ¬N b):
  bT P N w L {dst,op:= .lookup t x y false,type:=ty,pos,after:=af,guard:=gd}:=fun ρ hρ v w' hk hr=>by
 obtain⟨v0,_,iG⟩:=CN (x:=x) (y:=y) (ty:=ty) (pos:=pos) (af:=af) ht Kk hi lD h;have h':fJ P kt w' b es clock:=⟨(hk.2 b (av h.at_) hn).trans h.at_,h.born,h.lt,h.keys,h.ok⟩;rw[iG w ρ dst gd (hρ x _ hx) (hρ y _ hy) h]at hr;rw[iG w' ρ dst gd (hρ x _ hx) (hρ y _ hy) h'];injection hr with h1 h2
 rw[h1]
end
end Go.K
namespace Go.Proofs
open Go.Shelf
def Tryz.zL:Go.Shelf.Ren:=⟨fun|7=>62|10=>114|n=>n,fun|23=>100|26=>3|3=>109|28=>116|0=>0|27=>115|33=>158|4=>4|n=>n,fun|n=>n⟩
theorem Tryz.Wg:Go.Proofs.SlLaysZI.n7 Tryz.prog Tryz.zL:={
 mixed:=by kernel_rfl
 f7:=⟨Tryz.f62.name,by decide,Tryz.func62.trans (congrArg some (by kernel_rfl))⟩
 f10:=⟨Tryz.f114.name,by decide,Tryz.func114.trans (congrArg some (by kernel_rfl))⟩
 t0:=jY
 a0:=vV
 z0:=qR
 v0:=kH
 t4:=iD
 a4:=Tryz.isAgg4
 z4:=Tryz.sizeOf4
 v4:=rK
 t23:=Tryz.underlying100
 a23:=Tryz.isAgg100
 z23:=Tryz.sizeOf100
 v23:=Tryz.zeroValue100
 t26:=aB
 a26:=vW
 z26:=qS
 v26:=kI
 t27:=Tryz.underlying115
 a27:=Tryz.isAgg115
 z27:=Tryz.sizeOf115
 v27:=Tryz.zeroValue115
 t28:=Tryz.underlying116
 a28:=Tryz.isAgg116
 z28:=Tryz.sizeOf116
 v28:=Tryz.zeroValue116
 t33:=Tryz.underlying158
 a33:=Tryz.isAgg158
 z33:=Tryz.sizeOf158
 v33:=Tryz.zeroValue158}
def Tryz.uL:Go.Shelf.Ren:=⟨fun|6=>61|8=>71|9=>113|11=>121|13=>166|12=>165|23=>210|24=>211|14=>202|15=>203|16=>204|17=>205|18=>206|19=>207|20=>118|21=>208|22=>209|25=>245|26=>246|27=>247|28=>248|29=>249|30=>168|31=>273|n=>n,fun|26=>3|28=>116|24=>32|0=>0|3=>3|37=>183|48=>273|50=>165|4=>4|40=>267|39=>266|45=>121|5=>5|9=>9|51=>295|55=>299|57=>327|58=>305|33=>158|n=>n,fun|n=>n⟩
theorem Tryz.Nv:Go.Proofs.SlLaysZI.n6 Tryz.prog Tryz.uL:={
 mixed:=by kernel_rfl
 f6:=⟨Tryz.f61.name,by decide,Tryz.func61.trans (congrArg some (by kernel_rfl))⟩
 f8:=⟨Tryz.f71.name,by decide,Tryz.func71.trans (congrArg some (by kernel_rfl))⟩
 f11:=⟨Tryz.f121.name,by decide,Tryz.func121.trans (congrArg some (by kernel_rfl))⟩
 t0:=jY
 a0:=vV
 z0:=qR
 v0:=kH
 t24:=ay
 a24:=Tryz.isAgg32
 z24:=Tryz.sizeOf32
 v24:=Tryz.zeroValue32
 t26:=aB
 a26:=vW
 z26:=qS
 v26:=kI
 t28:=Tryz.underlying116
 a28:=Tryz.isAgg116
 z28:=Tryz.sizeOf116
 v28:=Tryz.zeroValue116
 i26:=by kernel_rfl}
def Tryz.Hn:Go.Shelf.Ren:=⟨fun|5=>113|8=>166|7=>165|19=>210|20=>211|10=>202|11=>203|12=>204|13=>205|14=>206|15=>207|16=>118|17=>208|18=>209|30=>245|31=>246|32=>247|33=>248|34=>249|35=>168|40=>273|n=>n,fun|23=>32|25=>3|3=>3|32=>183|22=>32|0=>0|44=>273|46=>165|4=>4|36=>267|35=>266|41=>121|5=>5|9=>9|53=>295|57=>299|63=>327|64=>305|n=>n,fun|n=>n⟩
theorem Tryz.OO:Go.Proofs.SlLaysM.n5 Tryz.prog Tryz.Hn:={
 mixed:=by kernel_rfl
 f5:=⟨Tryz.f113.name,by decide,Tryz.func113.trans (congrArg some (by kernel_rfl))⟩
 f7:=⟨Tryz.f165.name,by decide,Tryz.func165.trans (congrArg some (by kernel_rfl))⟩
 f8:=Tryz.func166.trans (congrArg some (by kernel_rfl))
 f10:=⟨Tryz.f202.name,by decide,Tryz.func202.trans (congrArg some (by kernel_rfl))⟩
 f11:=⟨Tryz.f203.name,by decide,Tryz.func203.trans (congrArg some (by kernel_rfl))⟩
 f12:=⟨Tryz.f204.name,by decide,Tryz.func204.trans (congrArg some (by kernel_rfl))⟩
 f13:=⟨Tryz.f205.name,by decide,Tryz.func205.trans (congrArg some (by kernel_rfl))⟩
 f14:=⟨Tryz.f206.name,by decide,Tryz.func206.trans (congrArg some (by kernel_rfl))⟩
 f15:=⟨Tryz.f207.name,by decide,Tryz.func207.trans (congrArg some (by kernel_rfl))⟩
 f16:=⟨Tryz.f118.name,by decide,Tryz.func118.trans (congrArg some (by kernel_rfl))⟩
 f17:=⟨Tryz.f208.name,by decide,Tryz.func208.trans (congrArg some (by kernel_rfl))⟩
 f18:=⟨Tryz.f209.name,by decide,Tryz.func209.trans (congrArg some (by kernel_rfl))⟩
 f19:=Tryz.func210.trans (congrArg some (by kernel_rfl))
 f20:=Tryz.func211.trans (congrArg some (by kernel_rfl))
 f30:=⟨Tryz.f245.name,by decide,Tryz.func245.trans (congrArg some (by kernel_rfl))⟩
 f31:=Tryz.func246.trans (congrArg some (by kernel_rfl))
 f32:=Tryz.func247.trans (congrArg some (by kernel_rfl))
 f33:=⟨Tryz.f248.name,by decide,Tryz.func248.trans (congrArg some (by kernel_rfl))⟩
 f34:=⟨Tryz.f249.name,by decide,Tryz.func249.trans (congrArg some (by kernel_rfl))⟩
 f35:=⟨Tryz.f168.name,by decide,Tryz.func168.trans (congrArg some (by kernel_rfl))⟩
 f40:=⟨Tryz.f273.name,by decide,Tryz.func273.trans (congrArg some (by kernel_rfl))⟩
 t0:=jY
 a0:=vV
 z0:=qR
 v0:=kH
 t3:=aB
 a3:=vW
 z3:=qS
 v3:=kI
 t4:=iD
 a4:=Tryz.isAgg4
 z4:=Tryz.sizeOf4
 v4:=rK
 t5:=cN
 a5:=Tryz.isAgg5
 z5:=Tryz.sizeOf5
 v5:=Tryz.zeroValue5
 t9:=aM
 a9:=vX
 z9:=qT
 v9:=kJ
 t22:=ay
 a22:=Tryz.isAgg32
 z22:=Tryz.sizeOf32
 v22:=Tryz.zeroValue32
 t23:=ay
 a23:=Tryz.isAgg32
 z23:=Tryz.sizeOf32
 v23:=Tryz.zeroValue32
 t25:=aB
 a25:=vW
 z25:=qS
 v25:=kI
 t32:=Tryz.underlying183
 a32:=Tryz.isAgg183
 z32:=Tryz.sizeOf183
 v32:=Tryz.zeroValue183
 t35:=Tryz.underlying266
 a35:=Tryz.isAgg266
 z35:=Tryz.sizeOf266
 v35:=Tryz.zeroValue266
 t36:=Tryz.underlying267
 a36:=Tryz.isAgg267
 z36:=Tryz.sizeOf267
 v36:=Tryz.zeroValue267
 t41:=Tryz.underlying121
 a41:=Tryz.isAgg121
 z41:=Tryz.sizeOf121
 v41:=Tryz.zeroValue121
 t44:=Tryz.underlying273
 a44:=Tryz.isAgg273
 z44:=Tryz.sizeOf273
 v44:=Tryz.zeroValue273
 t46:=Tryz.underlying165
 a46:=Tryz.isAgg165
 z46:=Tryz.sizeOf165
 v46:=Tryz.zeroValue165
 t53:=Tryz.underlying295
 a53:=Tryz.isAgg295
 z53:=Tryz.sizeOf295
 v53:=Tryz.zeroValue295
 t57:=Tryz.underlying299
 a57:=Tryz.isAgg299
 z57:=Tryz.sizeOf299
 v57:=Tryz.zeroValue299
 t63:=Tryz.underlying327
 a63:=Tryz.isAgg327
 z63:=Tryz.sizeOf327
 v63:=Tryz.zeroValue327
 t64:=Tryz.underlying305
 a64:=Tryz.isAgg305
 z64:=Tryz.sizeOf305
 v64:=Tryz.zeroValue305}
def Tryz.zM:Go.Shelf.Ren:=⟨fun|7=>112|10=>164|n=>n,fun|23=>167|26=>9|3=>107|28=>178|0=>0|27=>177|33=>182|4=>4|n=>n,fun|n=>n⟩
theorem Tryz.F6:Go.Proofs.SlLaysZ.n7 Tryz.prog Tryz.zM:={
 mixed:=by kernel_rfl
 f7:=⟨Tryz.f112.name,by decide,Tryz.func112.trans (congrArg some (by kernel_rfl))⟩
 f10:=⟨Tryz.f164.name,by decide,Tryz.func164.trans (congrArg some (by kernel_rfl))⟩
 t0:=jY
 a0:=vV
 z0:=qR
 v0:=kH
 t4:=iD
 a4:=Tryz.isAgg4
 z4:=Tryz.sizeOf4
 v4:=rK
 t23:=iy
 a23:=Tryz.isAgg167
 z23:=Tryz.sizeOf167
 v23:=Tryz.zeroValue167
 t26:=aM
 a26:=vX
 z26:=qT
 v26:=kJ
 t27:=Tryz.underlying177
 a27:=Tryz.isAgg177
 z27:=Tryz.sizeOf177
 v27:=Tryz.zeroValue177
 t28:=Tryz.underlying178
 a28:=Tryz.isAgg178
 z28:=Tryz.sizeOf178
 v28:=Tryz.zeroValue178
 t33:=Tryz.underlying182
 a33:=Tryz.isAgg182
 z33:=Tryz.sizeOf182
 v33:=Tryz.zeroValue182}
def Tryz.uM:Go.Shelf.Ren:=⟨fun|6=>111|8=>162|9=>163|11=>200|13=>166|12=>201|23=>210|24=>211|14=>236|15=>237|16=>238|17=>239|18=>240|19=>241|20=>242|21=>243|22=>244|25=>269|26=>246|27=>247|28=>270|29=>271|30=>272|31=>284|n=>n,fun|26=>9|28=>178|24=>55|0=>0|3=>3|37=>183|48=>273|50=>165|4=>4|40=>267|39=>266|45=>121|5=>5|9=>9|51=>295|55=>299|57=>327|58=>305|33=>182|n=>n,fun|n=>n⟩
theorem Tryz.Nw:Go.Proofs.SlLaysZ.n6 Tryz.prog Tryz.uM:={
 mixed:=by kernel_rfl
 f6:=⟨Tryz.f111.name,by decide,Tryz.func111.trans (congrArg some (by kernel_rfl))⟩
 f8:=⟨Tryz.f162.name,by decide,Tryz.func162.trans (congrArg some (by kernel_rfl))⟩
 f11:=⟨Tryz.f200.name,by decide,Tryz.func200.trans (congrArg some (by kernel_rfl))⟩
 t0:=jY
 a0:=vV
 z0:=qR
 v0:=kH
 t24:=aJ
 a24:=Tryz.isAgg55
 z24:=Tryz.sizeOf55
 v24:=Tryz.zeroValue55
 t26:=aM
 a26:=vX
 z26:=qT
 v26:=kJ
 t28:=Tryz.underlying178
 a28:=Tryz.isAgg178
 z28:=Tryz.sizeOf178
 v28:=Tryz.zeroValue178
 i26:=by kernel_rfl}
def Tryz.Ho:Go.Shelf.Ren:=⟨fun|6=>163|8=>166|9=>201|19=>210|20=>211|21=>236|22=>237|23=>238|24=>239|25=>240|26=>241|27=>242|28=>243|29=>244|36=>269|31=>246|32=>247|37=>270|38=>271|39=>272|41=>284|n=>n,fun|27=>55|29=>9|3=>3|32=>183|26=>55|0=>0|44=>273|46=>165|4=>4|36=>267|35=>266|41=>121|5=>5|9=>9|53=>295|57=>299|63=>327|64=>305|n=>n,fun|n=>n⟩
theorem Tryz.OP:Go.Proofs.SlLaysM.n6 Tryz.prog Tryz.Ho:={
 mixed:=by kernel_rfl
 f6:=⟨Tryz.f163.name,by decide,Tryz.func163.trans (congrArg some (by kernel_rfl))⟩
 f8:=Tryz.func166.trans (congrArg some (by kernel_rfl))
 f9:=⟨Tryz.f201.name,by decide,Tryz.func201.trans (congrArg some (by kernel_rfl))⟩
 f19:=Tryz.func210.trans (congrArg some (by kernel_rfl))
 f20:=Tryz.func211.trans (congrArg some (by kernel_rfl))
 f21:=⟨Tryz.f236.name,by decide,Tryz.func236.trans (congrArg some (by kernel_rfl))⟩
 f22:=⟨Tryz.f237.name,by decide,Tryz.func237.trans (congrArg some (by kernel_rfl))⟩
 f23:=⟨Tryz.f238.name,by decide,Tryz.func238.trans (congrArg some (by kernel_rfl))⟩
 f24:=⟨Tryz.f239.name,by decide,Tryz.func239.trans (congrArg some (by kernel_rfl))⟩
 f25:=⟨Tryz.f240.name,by decide,Tryz.func240.trans (congrArg some (by kernel_rfl))⟩
 f26:=⟨Tryz.f241.name,by decide,Tryz.func241.trans (congrArg some (by kernel_rfl))⟩
 f27:=⟨Tryz.f242.name,by decide,Tryz.func242.trans (congrArg some (by kernel_rfl))⟩
 f28:=⟨Tryz.f243.name,by decide,Tryz.func243.trans (congrArg some (by kernel_rfl))⟩
 f29:=⟨Tryz.f244.name,by decide,Tryz.func244.trans (congrArg some (by kernel_rfl))⟩
 f31:=Tryz.func246.trans (congrArg some (by kernel_rfl))
 f32:=Tryz.func247.trans (congrArg some (by kernel_rfl))
 f36:=⟨Tryz.f269.name,by decide,Tryz.func269.trans (congrArg some (by kernel_rfl))⟩
 f37:=⟨Tryz.f270.name,by decide,Tryz.func270.trans (congrArg some (by kernel_rfl))⟩
 f38:=⟨Tryz.f271.name,by decide,Tryz.func271.trans (congrArg some (by kernel_rfl))⟩
 f39:=⟨Tryz.f272.name,by decide,Tryz.func272.trans (congrArg some (by kernel_rfl))⟩
 f41:=⟨Tryz.f284.name,by decide,Tryz.func284.trans (congrArg some (by kernel_rfl))⟩
 t0:=jY
 a0:=vV
 z0:=qR
 v0:=kH
 t3:=aB
 a3:=vW
 z3:=qS
 v3:=kI
 t4:=iD
 a4:=Tryz.isAgg4
 z4:=Tryz.sizeOf4
 v4:=rK
 t5:=cN
 a5:=Tryz.isAgg5
 z5:=Tryz.sizeOf5
 v5:=Tryz.zeroValue5
 t9:=aM
 a9:=vX
 z9:=qT
 v9:=kJ
 t26:=aJ
 a26:=Tryz.isAgg55
 z26:=Tryz.sizeOf55
 v26:=Tryz.zeroValue55
 t27:=aJ
 a27:=Tryz.isAgg55
 z27:=Tryz.sizeOf55
 v27:=Tryz.zeroValue55
 t29:=aM
 a29:=vX
 z29:=qT
 v29:=kJ
 t32:=Tryz.underlying183
 a32:=Tryz.isAgg183
 z32:=Tryz.sizeOf183
 v32:=Tryz.zeroValue183
 t35:=Tryz.underlying266
 a35:=Tryz.isAgg266
 z35:=Tryz.sizeOf266
 v35:=Tryz.zeroValue266
 t36:=Tryz.underlying267
 a36:=Tryz.isAgg267
 z36:=Tryz.sizeOf267
 v36:=Tryz.zeroValue267
 t41:=Tryz.underlying121
 a41:=Tryz.isAgg121
 z41:=Tryz.sizeOf121
 v41:=Tryz.zeroValue121
 t44:=Tryz.underlying273
 a44:=Tryz.isAgg273
 z44:=Tryz.sizeOf273
 v44:=Tryz.zeroValue273
 t46:=Tryz.underlying165
 a46:=Tryz.isAgg165
 z46:=Tryz.sizeOf165
 v46:=Tryz.zeroValue165
 t53:=Tryz.underlying295
 a53:=Tryz.isAgg295
 z53:=Tryz.sizeOf295
 v53:=Tryz.zeroValue295
 t57:=Tryz.underlying299
 a57:=Tryz.isAgg299
 z57:=Tryz.sizeOf299
 v57:=Tryz.zeroValue299
 t63:=Tryz.underlying327
 a63:=Tryz.isAgg327
 z63:=Tryz.sizeOf327
 v63:=Tryz.zeroValue327
 t64:=Tryz.underlying305
 a64:=Tryz.isAgg305
 z64:=Tryz.sizeOf305
 v64:=Tryz.zeroValue305}
end Go.Proofs
namespace Go.K
open Go.Proofs
set_option maxRecDepth 10000
open Go.RowKit Go.Maps Go.Sort Go.Shelf
theorem Q3 (m:Nat):AnyZI.SortsIn Tryz.prog Tryz.uL Fence.wide m:=
 ⟨fun kb off cap ss W hH hblk jF=>callsIn_wide.2 (AnyM.slices_Sort_int Tryz.OO kb off cap ss W hH hblk jF),
  fun p cap W=>callsIn_wide.2 (AnyM.slices_Sort_int_none Tryz.OO p cap W)⟩
theorem Nx {R:Value→Option (DU×List MemPlace)} {M:aU} {w:World} {b bb:Nat} {m:List (Lit×DU)} (h:P9 Tryz.prog 3 R M w b m) (OQ:w.cell? ⟨bb,0,none⟩=some (.map (some b))) (hl:m.length≤1099511627776):
  Spec Tryz.prog 61 #[.func (.func 114) #[] #[.pointer (some ⟨bb,0,none⟩)]] w (fun v w'=>(∃ss:List Int,ss.Perm (intKeys (DataW.map m))∧w'.ownsRow w.heap.size 3 1 v ss.length ((ss.mergeSort (fun x y=>decide (x≤y))).map encZ)∧(v= .slice none 0 0↔ss=[]))∧Step M w M w' aN):=by
 have Q4:SeqGives Fence.wide 2 Tryz.prog 114 #[.pointer (some ⟨bb,0,none⟩)] encZ (fun ss=>ss.Perm (intKeys (DataW.map m))) (Maps.size (DataW.map m)) w:=
  AnyZI.keys_gives (ρ:=Tryz.zL) {Tryz.Wg with} Fence.wide _ trivial rfl (by omega) bb b m.length (DataW.map m) _ (World.block_lt_of_cell? w _ OQ) OQ h.own
 have jF:Maps.size (DataW.map m)=m.length:=rfl;have cS:=AnyZI.sorted_in Tryz.Nv Fence.wide 5 trivial trivial trivial trivial rfl (by omega) (Q3 _) (enters_of Tryz.func113 (by kernel_rfl) rfl) 114 #[.pointer (some ⟨bb,0,none⟩)] trivial (enters_of Tryz.func114 (by kernel_rfl) rfl) _ _ (by rw[jF];unfold maxLen;omega) (by rw[jF];omega) _ Q4;exact(callsIn_wide (n:=5)).1 (cS.mono fun e w' ⟨v,ss,h1,h2,h3,h4,h5⟩=>⟨v,h1,⟨ss,h2,h3,h4⟩,.wM h5 M⟩)
theorem Q5 (m:Nat):AnyZ.SortsIn Tryz.prog Tryz.uM Fence.wide m:=
 ⟨fun kb off cap ss W hH hblk jF=>callsIn_wide.2 (AnyM.slices_Sort_string Tryz.OP kb off cap ss W hH hblk jF),
  fun p cap W=>callsIn_wide.2 (AnyM.slices_Sort_string_none Tryz.OP p cap W)⟩
theorem EB (mb:Option Nat) (w:World):Spec Tryz.prog 112 #[.map mb] w (fun v w'=>v= .func (.func 164) #[] #[.pointer (some ⟨w.heap.size,0,none⟩)]∧w'=w.alloc (.cells #[.map mb] 167)):=
 (callsIn_wide (n:=5)).1 ((AnyZ.keys_in Tryz.F6 Fence.wide 5 trivial rfl mb w).mono fun e w' ⟨h1,h2⟩=>⟨_,h1,rfl,h2⟩)
theorem A6 {R:Value→Option (DU×List MemPlace)} {M:aU} {w:World} {b bb:Nat} {m:List (Lit×DU)} (h:P9 Tryz.prog 9 R M w b m) (OQ:w.cell? ⟨bb,0,none⟩=some (.map (some b))) (hl:m.length≤1099511627776):
  Spec Tryz.prog 111 #[.func (.func 164) #[] #[.pointer (some ⟨bb,0,none⟩)]] w (fun v w'=>(∃ss:List (List UInt8),ss.Perm (strKeys (DataW.map m))∧w'.ownsRow w.heap.size 9 1 v ss.length ((ss.mergeSort (fun x y=>decide (x≤y))).map encStr)∧(v= .slice none 0 0↔ss=[]))∧Step M w M w' aN):=by
 have Q4:SeqGives Fence.wide 2 Tryz.prog 164 #[.pointer (some ⟨bb,0,none⟩)] encStr (fun ss=>ss.Perm (strKeys (DataW.map m))) (Maps.size (DataW.map m)) w:=
  AnyZ.keys_gives (ρ:=Tryz.zM) {Tryz.F6 with} Fence.wide _ trivial rfl (by omega) bb b m.length (DataW.map m) _ (World.block_lt_of_cell? w _ OQ) OQ h.own
 have jF:Maps.size (DataW.map m)=m.length:=rfl;have cS:=AnyZ.sorted_in Tryz.Nw Fence.wide 5 trivial trivial trivial trivial rfl (by omega) (Q5 _) (enters_of Tryz.func163 (by kernel_rfl) rfl) 164 #[.pointer (some ⟨bb,0,none⟩)] trivial (enters_of Tryz.func164 (by kernel_rfl) rfl) _ _ (by rw[jF];unfold maxLen;omega) (by rw[jF];omega) _ Q4;exact(callsIn_wide (n:=5)).1 (cS.mono fun e w' ⟨v,ss,h1,h2,h3,h4,h5⟩=>⟨v,h1,⟨ss,h2,h3,h4⟩,.wM h5 M⟩)
theorem yY {w w':World} {v:Value} {t:TypeId} (h:w'=w.alloc (.cells #[v] t)):w'.cell? ⟨w.heap.size,0,none⟩=some v:=by
 subst h;exact jx (cO w _) rfl
end Go.K
namespace Go.K
open Go.Proofs
set_option maxRecDepth 10000
theorem Ny {M:aU} {w0:World} {v:Value} {b:List Fd} (hM:Lt M w0) (hv:(RT.fd.sl).V M w0 b v) (yZ:b.length≤1099511627776):
  Spec Tryz.prog 199 #[v] w0 (fun v' w'=>(RT.fd.sl).V M w' b v'∧Step M w0 M w' aN):=by
 obtain⟨a,cap,ke,hc,hl,hs⟩:=iZ.1 hv;refine bE (args:=[_]) (fn:=Tryz.f199) Tryz.func199 rfl (n:=8) Tryz.ntmps199 (au (ak (al rfl rfl (ae (au (au (ak (aj rfl rfl (bO (v':= .slice a b.length cap) ke (Rg.rV bj rfl rfl rfl (ae ?_)))))))))));refine bW rfl (fun c1=>?_) (fun c1=>?_)
 ·refine au (ak (al rfl rfl (ae (aW ?_))))
  have hb:b=[]:=by
   rcases hs with h|⟨_,_,h,_⟩
   ·exact h
   ·rw[c1]at h;cases h
  exact a8 rfl rfl ⟨by rw[hb];exact jD,ah _ _⟩
 ·refine bg (au (ak ?_));refine Rg.UR bj jz M rfl (fun a0 w1 s1=>?_);refine aj rfl rfl ?_;refine Rg.nA (A:=RT.fd) (hn:=by decide) (M:=M) bj jz rfl rfl rfl rfl hv s1.le (s1.lt hM) (by omega) (fun u2 w2 kg s2=>?_);refine al rfl rfl (ae (aW ?_));exact a8 rfl rfl ⟨kg,s1.aE s2⟩
theorem mq {M:aU} {w0:World} {v:Value} {b:List Int} (hM:Lt M w0) (hv:((RT.int .i64).sl).V M w0 b v) (yZ:b.length≤1099511627776):
  Spec Tryz.prog 63 #[v] w0 (fun v' w'=>((RT.int .i64).sl).V M w' b v'∧Step M w0 M w' aN):=by
 obtain⟨a,cap,ke,hc,hl,hs⟩:=iZ.1 hv;refine bE (args:=[_]) (fn:=Tryz.f63) Tryz.func63 rfl (n:=8) Tryz.ntmps63 (au (ak (al rfl rfl (ae (au (au (ak (aj rfl rfl (bO (v':= .slice a b.length cap) ke (Rg.rV ay rfl rfl rfl (ae ?_)))))))))));refine bW rfl (fun c1=>?_) (fun c1=>?_)
 ·refine au (ak (al rfl rfl (ae (aW ?_))))
  have hb:b=[]:=by
   rcases hs with h|⟨_,_,h,_⟩
   ·exact h
   ·rw[c1]at h;cases h
  exact a8 rfl rfl ⟨by rw[hb];exact jD,ah _ _⟩
 ·refine bg (au (ak ?_));refine Rg.UR ay I3 M rfl (fun a0 w1 s1=>?_);refine aj rfl rfl ?_;refine Rg.nA (A:=(RT.int .i64)) (hn:=by decide) (M:=M) ay I3 rfl rfl rfl rfl hv s1.le (s1.lt hM) (by omega) (fun u2 w2 kg s2=>?_);refine al rfl rfl (ae (aW ?_));exact a8 rfl rfl ⟨kg,s1.aE s2⟩
theorem JV {M:aU} {w0:World} {v:Value} {b:List (List UInt8)} (hM:Lt M w0) (hv:(RT.str.sl).V M w0 b v) (yZ:b.length≤1099511627776):
  Spec Tryz.prog 177 #[v] w0 (fun v' w'=>(RT.str.sl).V M w' b v'∧Step M w0 M w' aN):=by
 obtain⟨a,cap,ke,hc,hl,hs⟩:=iZ.1 hv;refine bE (args:=[_]) (fn:=Tryz.f177) Tryz.func177 rfl (n:=8) Tryz.ntmps177 (au (ak (al rfl rfl (ae (au (au (ak (aj rfl rfl (bO (v':= .slice a b.length cap) ke (Rg.rV aJ rfl rfl rfl (ae ?_)))))))))));refine bW rfl (fun c1=>?_) (fun c1=>?_)
 ·refine au (ak (al rfl rfl (ae (aW ?_))))
  have hb:b=[]:=by
   rcases hs with h|⟨_,_,h,_⟩
   ·exact h
   ·rw[c1]at h;cases h
  exact a8 rfl rfl ⟨by rw[hb];exact jD,ah _ _⟩
 ·refine bg (au (ak ?_));refine Rg.UR aJ I9 M rfl (fun a0 w1 s1=>?_);refine aj rfl rfl ?_;refine Rg.nA (A:=RT.str) (hn:=by decide) (M:=M) aJ I9 rfl rfl rfl rfl hv s1.le (s1.lt hM) (by omega) (fun u2 w2 kg s2=>?_);refine al rfl rfl (ae (aW ?_));exact a8 rfl rfl ⟨kg,s1.aE s2⟩
theorem Nz {M:aU} {w0:World} {v:Value} {b:List Li} (hM:Lt M w0) (hv:(((RT.li).ptr).sl).V M w0 b v) (yZ:b.length≤1099511627776):
  Spec Tryz.prog 178 #[v] w0 (fun v' w'=>(((RT.li).ptr).sl).V M w' b v'∧Step M w0 M w' aN):=by
 obtain⟨a,cap,ke,hc,hl,hs⟩:=iZ.1 hv;refine bE (args:=[_]) (fn:=Tryz.f178) Tryz.func178 rfl (n:=8) Tryz.ntmps178 (au (ak (al rfl rfl (ae (au (au (ak (aj rfl rfl (bO (v':= .slice a b.length cap) ke (Rg.rV dp rfl rfl rfl (ae ?_)))))))))));refine bW rfl (fun c1=>?_) (fun c1=>?_)
 ·refine au (ak (al rfl rfl (ae (aW ?_))))
  have hb:b=[]:=by
   rcases hs with h|⟨_,_,h,_⟩
   ·exact h
   ·rw[c1]at h;cases h
  exact a8 rfl rfl ⟨by rw[hb];exact jD,ah _ _⟩
 ·refine bg (au (ak ?_));refine Rg.UR dp oZ M rfl (fun a0 w1 s1=>?_);refine aj rfl rfl ?_;refine Rg.nA (A:=((RT.li).ptr)) (hn:=by decide) (M:=M) dp oZ rfl rfl rfl rfl hv s1.le (s1.lt hM) (by omega) (fun u2 w2 kg s2=>?_);refine al rfl rfl (ae (aW ?_));exact a8 rfl rfl ⟨kg,s1.aE s2⟩
theorem CO {M:aU} {d:Dc} {v0:Value} (w0:World) (hM:Lt M w0) (hv:RT.dc.V M w0 d v0) (hl:d.2.length≤1099511627776):
  Spec Tryz.prog 160 #[v0] w0 (fun v w=>RT.dc.V M w d v∧Step M w0 M w aN):=by
 have fZ:=hM;refine bE (args:=[_]) (fn:=Tryz.f160) Tryz.func160 rfl (n:=9) Tryz.ntmps160 ?_;have S:Step M w0 M w0 aN:=(ah _ _).cD (fun _ h=>h.elim) (fun _ h=>h.elim);refine au (ak ?_);refine eG (A:=RT.dc) rfl rfl hM hv rfl (fun u0 w1 cQ s0 _=>?_);replace hM:=s0.lt hM;have:=S.size;replace S:=S.aE s0;refine eu M lN rfl (fun iS nd G8 G9 eN ja=>?_);obtain⟨dR,jj⟩:∃M',M'=ins M iS:=⟨_,rfl⟩;rw[←jj]at ja;have ed:dR iS:=by rw[jj];exact .inl rfl
 change nd.heap[iS]? =some (.cells #[.int .i64 0,.slice none 0 0] _ _)at eN;replace cQ:=cQ.le (by decide) ja.le;replace hM:=ja.lt hM;have:=S.size;replace S:=S.aE ja;refine ae (au ?_);apply nr 4 [0,1] 1 aN mixed rfl rfl rfl rfl;intro BE MV;have lr:=MV dR;have:=av eN;replace ed:=(lr.mem _ this).2 ed;replace eN:=lr.aX eN;replace cQ:=cQ.le (by decide) lr.le;replace hM:=lr.lt hM;have:=S.size;replace S:=S.aE lr;refine aA (M:=dR) (A:=RT.dc) (B:=RT.int .i64) a7 rfl rfl I3 (by decide) (TW) rfl rfl (by decide) (by assumption) (by repeat (first|exact ar _ _|refine aT (bh (by assumption)) ?_)) (fun tU jR=>?_);refine ae ⟨rfl,rfl,rfl,?_⟩;refine bK (M:=dR) aB rfl rfl (by assumption) (by repeat (first|exact ar _ _|refine aT (bh (by assumption)) ?_)) (fun OI=>?_);refine ae ⟨rfl,rfl,rfl,?_⟩;refine aA (M:=dR) (A:=RT.dc) (B:=(RT.fd).sl) a7 rfl rfl qx (by decide) (AU) rfl rfl (by decide) (by assumption) (by repeat (first|exact ar _ _|refine aT (bh (by assumption)) ?_)) (fun CP mQ=>?_);refine ae ⟨rfl,rfl,rfl,?_⟩;refine aY (M:=dR) bj rfl rfl rfl rfl rfl (by assumption) (by repeat (first|exact ar _ _|refine aT (bh (by assumption)) ?_)) (fun JW xB=>?_);refine ae ⟨rfl,rfl,rfl,?_⟩;refine dv ?_;obtain⟨bb,oo,cs,ee,fr,rfl,kr,_⟩:=jR.float;refine⟨eA ⟨eM a7 rfl I3 (by decide),⟨dx rfl kr (fun h=>h),trivial⟩⟩,?_⟩;have kp:=eX aN BE;refine aS rfl rfl abA (Ny hM xB hl) (fun v4 w4 hc=>?_);obtain⟨oQ,s4⟩:=hc;have:=av eN;replace ed:=(s4.mem _ this).2 ed;replace eN:=s4.aX eN;replace cQ:=cQ.le (by decide) s4.le;replace hM:=s4.lt hM;have:=S.size;replace S:=S.aE s4;refine(fun(kp:eg _ _ _)=>ae ⟨rfl,rfl,fun _=>kp,?_⟩) (by first|exact kp|exact kp.mY (by assumption)|exact kp.goN (by assumption)|exact kp.go (by assumption) (fun _ _ h=>by first|exact h|exact h.elim))
 refine eF (places:=[(0,1),(1,1)]) a7 lN UU rfl ⟨_,_,rfl,rfl,_,_,rfl,rfl,rfl⟩ (out:=[_,_]) ⟨0,[_],rfl,rfl,by simp[Value.cells],1,[_],rfl,fg oQ,by simp[Value.cells],rfl⟩ ?_;refine ae ⟨rfl,rfl,fun h=>absurd rfl h,?_⟩;have hd:RT.dc.V dR w4 d (.agg [.int .i64 d.1,v4].toArray):=eS (ie OI) oQ rfl rfl rfl rfl;refine eB (M:=dR) (vs:=[.int .i64 d.1,v4]) lN rfl rfl (EA rfl hd) rfl rfl eN ed (fun w6 g6 s6=>?_);have:=av eN;replace ed:=(s6.mem _ this).2 ed;replace cQ:=cQ.le (by decide) s6.le;replace oQ:=oQ.le s6.le;replace hd:=hd.le s6.le;replace hM:=s6.lt hM;have:=S.size;replace S:=S.trans s6 (fun k hk h=>by have h:_=_:=h;subst h;first|(exfalso;omega)|(show _≤_;omega)|exact⟨by first|omega|assumption,(S.mem _ hk).1 ((s6.mem _ (av eN)).1 ed)⟩|exact .inl rfl|exact .inr rfl|exact .inr (.inl rfl)|exact .inr (.inr rfl)|exact rfl);have pX:=g6;clear eN;have eN:=pX;clear pX;refine ae ⟨rfl,rfl,fun h=>absurd rfl h,?_⟩;refine gX (aW ?_);exact pE (vs:=[.int .i64 d.1,v4]) rfl rfl a7 rfl lN rfl eN ⟨hd.le (ly fZ S),S.back⟩
theorem JX {M:aU} {e:En} {v0:Value} (w0:World) (hM:Lt M w0) (hv:RT.en.V M w0 e v0) (hl:e.1.2.length≤1099511627776):
  Spec Tryz.prog 109 #[v0] w0 (fun v w=>RT.en.V M w e v∧Step M w0 M w aN):=by
 have fZ:=hM;refine bE (args:=[_]) (fn:=Tryz.f109) Tryz.func109 rfl (n:=9) Tryz.ntmps109 ?_;have S:Step M w0 M w0 aN:=(ah _ _).cD (fun _ h=>h.elim) (fun _ h=>h.elim);refine au (ak ?_);refine eG (A:=RT.en) rfl rfl hM hv rfl (fun u0 w1 cQ s0 _=>?_);replace hM:=s0.lt hM;have:=S.size;replace S:=S.aE s0;refine eu M yO rfl (fun iS nd G8 G9 eN ja=>?_);obtain⟨dR,jj⟩:∃M',M'=ins M iS:=⟨_,rfl⟩;rw[←jj]at ja;have ed:dR iS:=by rw[jj];exact .inl rfl
 change nd.heap[iS]? =some (.cells #[.int .i64 0,.slice none 0 0,.int .i64 0] _ _)at eN;replace cQ:=cQ.le (by decide) ja.le;replace hM:=ja.lt hM;have:=S.size;replace S:=S.aE ja;refine ae (au ?_);apply T.zn [0,1,3,4,2,5,6] 4 [2,3] 1 aN mixed
 ·simp+decide only[wC,qv,eO,qW,iX,iY,kK,eZ,iO,lJ,cond_true,cond_false,Nat.reduceBEq,Nat.reduceAdd,beq_self_eq_true];rfl
 ·rfl
 ·rfl
 ·rfl
 ·rfl
 ·rfl
 ·rfl
 intro BE MV;have lr:=MV dR;have:=av eN;replace ed:=(lr.mem _ this).2 ed;replace eN:=lr.aX eN;replace cQ:=cQ.le (by decide) lr.le;replace hM:=lr.lt hM;have:=S.size;replace S:=S.aE lr;refine aA (M:=dR) (A:=RT.en) (B:=RT.dc) cV rfl rfl lN (by decide) MY rfl rfl (by decide) cQ (ar _ _) (fun tU jR=>?_);refine ae ⟨rfl,rfl,rfl,?_⟩;refine cc (M:=dR) (A:=RT.dc) a7 rfl lN (by decide) rfl rfl rfl jR (ar _ _) (fun vB kF=>?_);refine ae ⟨rfl,rfl,rfl,?_⟩;refine aA (M:=dR) (A:=RT.en) (B:=RT.int .i64) cV rfl rfl I3 (by decide) VF rfl rfl (by decide) cQ (ar _ _) (fun CP mQ=>?_);refine ae ⟨rfl,rfl,rfl,?_⟩;refine bK (M:=dR) aB rfl rfl (by assumption) (by repeat (first|exact ar _ _|refine aT (bh (by assumption)) ?_)) (fun JY=>?_);refine bO (v':= .int .i64 (e.2)) rfl ?_;replace JY: -9223372036854775808≤(e.2:Int)∧e.2≤9223372036854775807:=JY;refine ae ⟨rfl,rfl,rfl,?_⟩;refine dv ?_;obtain⟨bb,oo,cs,ee,fr,rfl,kr,_⟩:=mQ.float;refine⟨eA ⟨eM cV rfl I3 (by decide),⟨dx rfl kr (fun h=>h),trivial⟩⟩,?_⟩;have kp:=eX aN BE;refine aS rfl rfl abo (CO _ hM kF hl) (fun v4 w4 hc=>?_);obtain⟨oQ,s4⟩:=hc;obtain⟨uf,rfl⟩:=Jd oQ;have:=av eN;replace ed:=(s4.mem _ this).2 ed;replace eN:=s4.aX eN;replace cQ:=cQ.le (by decide) s4.le;replace hM:=s4.lt hM;have:=S.size;replace S:=S.aE s4;refine(fun(kp:eg _ _ _)=>ae ⟨rfl,rfl,fun _=>kp,?_⟩) (by first|exact kp|exact kp.mY (by assumption)|exact kp.goN (by assumption)|exact kp.go (by assumption) (fun _ _ h=>by first|exact h|exact h.elim));refine eF (places:=[(0,2),(2,1)]) cV yO B43 rfl ⟨_,_,rfl,rfl,_,_,rfl,rfl,rfl⟩ (out:=[_,_,_]) ⟨0,[_,_],rfl,rfl,by simp[Value.cells],2,[_],rfl,rfl,by simp[Value.cells],rfl⟩ ?_
 refine ae ⟨rfl,rfl,fun h=>absurd rfl h,?_⟩;have hd:RT.en.V dR w4 e (.agg [.int .i64 e.1.1,uf,.int .i64 e.2].toArray):=Je (p:=e.1) oQ JY;refine eB (M:=dR) (vs:=[.int .i64 e.1.1,uf,.int .i64 e.2]) yO rfl rfl (EA rfl hd) rfl rfl eN ed (fun w6 g6 s6=>?_);have:=av eN;replace ed:=(s6.mem _ this).2 ed;replace cQ:=cQ.le (by decide) s6.le;replace oQ:=oQ.le s6.le;replace hd:=hd.le s6.le;replace hM:=s6.lt hM;have:=S.size;replace S:=S.trans s6 (fun k hk h=>by have h:_=_:=h;subst h;first|(exfalso;omega)|(show _≤_;omega)|exact⟨by first|omega|assumption,(S.mem _ hk).1 ((s6.mem _ (av eN)).1 ed)⟩|exact .inl rfl|exact .inr rfl|exact .inr (.inl rfl)|exact .inr (.inr rfl)|exact rfl);have pX:=g6;clear eN;have eN:=pX;clear pX;refine ae ⟨rfl,rfl,fun h=>absurd rfl h,?_⟩;refine gX (aW ?_);exact pE (vs:=[.int .i64 e.1.1,uf,.int .i64 e.2]) rfl rfl cV rfl yO rfl eN ⟨hd.le (ly fZ S),S.back⟩
end Go.K
namespace Go.K
open Go.Proofs
namespace TKBldB
theorem Wh:TI Tryz.prog 227 (.map none) 1 8:=by unfold TI;kernel_rfl
theorem ac3:Enters Tryz.prog 155:=enters Tryz.func155 rfl (by decide)
theorem ac4:Enters Tryz.prog 156:=enters Tryz.func156 rfl (by decide)
theorem ac5:Enters Tryz.prog 157:=enters Tryz.func157 rfl (by decide)
end TKBldB
open TKBldB
set_option maxRecDepth 10000
theorem IJ.bC {bt mb B:Nat} {ts:List (Fd×Nat)} {M M':aU} {w w':World} (h:IJ bt mb B ts M w) (s:Step M w M' w' aN):IJ bt mb B ts M' w':=by
 obtain⟨gb,ey,fk,hB,F0,es,clock,hW,hI⟩:=h;exact⟨s.aX gb,(s.mem _ (av gb)).2 ey,(s.mem _ (av hW.at_)).2 fk,hB,F0,es,clock,hW.bC s,hI.bC s⟩
theorem JZ {bt mb B:Nat}:QR Tryz.prog 155 [.pointer (some ⟨bt,0,none⟩)] B (IJ bt mb B):=
 ⟨ac3,fun ts M w M' w' h s=>h.bC s,fun ts M w t i hJ hM h1 h2 hi h4=>He w hM h1 h2 hi h4 hJ⟩
theorem J0 (M:aU) (w:World) (B:Nat):Hd M w B [] [] where
 o t v hv:=by
  rcases hv with⟨e,he,_⟩|⟨_,rfl⟩
  ·cases he
  ·exact dO _ _ _ _ _
 a t t' v v' _ hv _:=by
  rcases hv with⟨e,he,_⟩|⟨_,rfl⟩
  ·cases he
  ·exact(jE.nil v').symm
 k:=rfl
theorem CQ:∀(ts:List (Fd×Nat)) (l:List Fd),(ts.foldl (fun l p=>if p.1∈l then l else l++[p.1]) l).length≤l.length+ts.length
 |[],l=>by simp
 |p::ts,l=>by
  rw[List.foldl_cons,cK];refine dJ (CQ ts _) ?_
  split
  ·omega
  ·rw[bP];simp;omega
theorem NA (M:aU) (w:World) (M':aU) (w':World) (x:Fd) (vs:List Value) (h:RT.fd.R M w x vs):RT.fd.R M' w' x vs:=h
theorem CR {M:aU} {d:Dc} {v0:Value} (w0:World) (hM:Lt M w0) (hv:RT.dc.V M w0 d v0) (hF:iT d) (hl:∀f∈d.2,f.1.length≤900000∧f.2.length≤900000):
  Spec Tryz.prog 108 #[v0] w0 (fun v w=>∃a b,v= .tuple #[a,b]∧(RT.fd.sl).V M w (cC (ck d.2)) a∧(((RT.int .i64).sl).sl).V M w ((cC (ck d.2)).map (posOf (ck d.2))) b∧Step M w0 M w aN):=by
 have fZ:=hM;have OR:=hF.many;refine bE (args:=[_]) (fn:=Tryz.f108) Tryz.func108 rfl (n:=31) Tryz.ntmps108 ?_;have S:Step M w0 M w0 aN:=(ah _ _).cD (fun _ h=>h.elim) (fun _ h=>h.elim);refine au (ak ?_);refine eG (A:=RT.dc) rfl rfl hM hv rfl (fun u0 w1 cQ s0 _=>?_);replace hM:=s0.lt hM;have:=S.size;replace S:=S.aE s0;refine al rfl rfl (al rfl rfl (ae (au (ak ?_))));refine Rg.CA M lX rfl (fun mb w1m p1 q1 gW s1=>?_);obtain⟨Q6,J1⟩:∃M',M'=ins M mb:=⟨_,rfl⟩;rw[←J1]at s1;have A7:Q6 mb:=by rw[J1];exact .inl rfl
 replace cQ:=cQ.le (by decide) s1.le;replace hM:=s1.lt hM;have:=S.size;replace S:=S.aE s1;refine eu Q6 Wh rfl (fun Hp Ha alK alL tX o6=>?_);obtain⟨J2,J3⟩:∃M',M'=ins Q6 Hp:=⟨_,rfl⟩;rw[←J3]at o6;have xC:J2 Hp:=by rw[J3];exact .inl rfl
 change Ha.heap[Hp]? =some (.cells #[.map none] _ _)at tX;replace cQ:=cQ.le (by decide) o6.le;replace A7:=(o6.mem _ (av gW.at_)).2 A7;replace gW:=gW.bC o6;replace hM:=o6.lt hM;have:=S.size;replace S:=S.aE o6;refine cw (M:=J2) Wh rfl rfl tX rfl (rfl) xC (fun Nk iR o5=>?_)
 try simp only[List.setIfInBounds_toArray,List.set_cons_zero,List.set_cons_succ]at iR
 have:=av tX;replace xC:=(o5.mem _ this).2 xC;replace cQ:=cQ.le (by decide) o5.le;replace A7:=(o5.mem _ (av gW.at_)).2 A7;replace gW:=gW.step o5 (by show¬(_=_);omega);replace hM:=o5.lt hM;have:=S.size;replace S:=S.trans o5 (fun k hk h=>by have h:_=_:=h;subst h;first|(exfalso;omega)|(show _≤_;omega)|exact⟨by first|omega|assumption,(S.mem _ hk).1 ((o5.mem _ (av tX)).1 xC)⟩|exact .inl rfl|exact .inr rfl|exact .inr (.inl rfl)|exact .inr (.inr rfl)|exact rfl);have OS:=iR;clear tX;have tX:=OS;clear OS;refine ae (au (ak ?_));refine cc (M:=J2) (A:=RT.dc) a7 rfl lN (by decide) rfl rfl rfl (by assumption) (by repeat (first|exact ar _ _|refine aT (bh (by assumption)) ?_)) (fun alM Wi=>?_);refine jv (xs:=[]) (ys:=[.tmp 4]) rfl rfl rfl ?_;refine aS rfl rfl U0 (zG (cap:=[.pointer (some ⟨Hp,0,none⟩)]) (B:=w0.heap.size) _ hM Wi hl hF.few (JZ (mb:=mb)) ⟨tX,xC,A7,by omega,by omega,[],0,gW,J0 _ _ _⟩) (fun r2 w2 hc=>?_);obtain⟨M2,Qt,⟨gb,_,_,_,_,es,clock,hW,hI⟩,s2⟩:=hc;replace S:=S.lh s2 (bw _);have o9:∀t v,eD kR es (kv t) v→(((RT.int .i64).sl)).V M w2 (posOf (ck d.2) t) v:=fun t v h=>(hI.o t v h).close fZ S (by have:=tY (ck d.2) t;omega)
 replace S:=S.back;replace hM:=S.lt fZ
 have Wj:∀e∈es,∃t∈seen (ck d.2),e.key=kv t:=fun e he=>by
  have:e.key∈(seen (ck d.2)).map kv:=by rw[←hI.k];exact fH he
  obtain⟨t,h1,h2⟩:=cL.1 this;exact⟨t,h1,h2.symm⟩
 have Ar:∀t∈seen (ck d.2),Hi t∧t.1.length≤12∧t.2.length≤30:=fun t ht=>by
  obtain⟨p,hp,rfl⟩:=cL.1 (sx.1 ht);exact⟨hF.Hl p hp,hF.small p hp⟩
 have qu:(seen (ck d.2)).length≤500:=dJ (CQ _ _) (by simp;omega);have Gt:es.length≤500:=by have:=congrArg List.length hI.k;simp at this;omega
 refine ae (au (ak (br lX rfl rfl rfl gb rfl ?_)));refine aS rfl rfl ac5 (Eu _) (fun r3 w3 hc=>?_);obtain⟨bs,rfl,QU,_,s3⟩:=hc;replace s3:=s3.toAny M;replace hW:=hW.bC s3;replace gb:=s3.aX gb;replace o9:=fun t v h=>(o9 t v h).le s3.le
 replace hM:=s3.lt hM;have:=S.size;replace S:=S.aE s3
 refine aS rfl rfl ac4 (CG _ (fun e he=>by
  obtain⟨t,h1,h2⟩:=Wj e he;exact⟨t,h2,by have:=(Ar t h1).2;omega,by have:=(Ar t h1).2;omega⟩) (fun e he t ht=>by
  obtain⟨t',h1,h2⟩:=Wj e he;obtain rfl:=tW (ht.symm.trans h2);exact⟨(Ar _ h1).1,by have:=(Ar _ h1).2;omega,by have:=(Ar _ h1).2;omega⟩) (by omega) (fun ts qq jN=>by
  have:=qq.length_le_of_subset (l₂:=seen (ck d.2)) (fun t ht=>(su hI.k).1 (jN t ht));omega) QU hW) (fun r4 w4 hc=>?_)
 obtain⟨us,qq,jN,Mn,V9,s4⟩:=hc;obtain rfl:=CJ hF.Hl qq (fun t=>(jN t).trans (su hI.k)) Mn;have V8:(cC (ck d.2)).length≤500:=dJ (qq.length_le_of_subset (l₂:=seen (ck d.2)) (fun t ht=>sx.2 ((jB hF.Hl).1 ht))) qu;replace s4:=s4.toAny M;have Bw:(RT.fd.sl).V M w4 (cC (ck d.2)) r4:=V9.tell NA (fun b hb h=>by have:=(V9.base b hb).1;have:=hM b h;omega) (by omega);clear V9;replace hW:=hW.bC s4;replace gb:=s4.aX gb;replace o9:=fun t v h=>(o9 t v h).le s4.le
 replace hM:=s4.lt hM;have:=S.size;replace S:=S.aE s4;refine al rfl rfl (ae (au (ak (al rfl rfl (ae (au (au (ak (aj rfl rfl (bF cb rfl Bw rfl (aj rfl rfl ?_)))))))))));refine ae (bu ?_);refine de (σ:=Nat×Value) (fun q=>[(4,.pointer (some ⟨Hp,0,none⟩)),(5,r4),(6,q.2),(16,r4),(17,.int .i64 ((cC (ck d.2)).length:Int)),(18,.int .i64 (q.1:Int))]) (fun q w=>∃M',Lt M' w∧Step M w0 M' w aN∧Own ((RT.int .i64).sl) 32 M' w w0.heap.size q.2 (((cC (ck d.2)).take q.1).map (posOf (ck d.2)))∧(RT.fd.sl).V M' w (cC (ck d.2)) r4∧fJ Tryz.prog 47 w mb es clock∧w.heap[Hp]? =some (.cells #[.map (some mb)] 227 (0,0))∧(∀t v,eD kR es (kv t) v→(((RT.int .i64).sl)).V M' w (posOf (ck d.2) t) v)∧q.1≤(cC (ck d.2)).length) (fun q=>(cC (ck d.2)).length-q.1) (0,.slice none 0 0) (.cons rfl (.cons rfl (.cons rfl (.cons rfl (.cons rfl (.cons rfl .nil)))))) ?_ ?_
 ·exact⟨M,hM,S,dO _ _ _ _ _,Bw,hW,gb,o9,bM _⟩
 ·clear hM Bw hW gb o9 S;rintro⟨i,u⟩ w ⟨M1,hM,S,ho,Bw,hW,gb,o9,hi⟩;dsimp only at ho hi ⊢;refine au (ak (cu rfl rfl rfl (ae (au ?_))));refine bW rfl (fun c6=>?_) (fun c6=>?_)
  ·refine bg (au (bu (au (ak ?_))));refine bS (M:=M1) cb jW rfl rfl rfl Bw (ar _ _) (by omega) (fun VM t hg7 FP=>?_);rw[aK]at hg7;have My:=aQ hg7;have DT:=Ar t (sx.2 ((jB hF.Hl).1 My));refine cc (M:=M1) (A:=RT.fd) bG rfl jW (by decide) rfl rfl rfl FP (ar _ _) (fun acy OD=>?_);refine mG (A:=RT.fd) (M:=M1) jW rfl rfl rfl rfl rfl (by assumption) (ar _ _) hM (fun Q7 ac7 oV uc alN=>?_);replace Bw:=Bw.le uc.le;replace ho:=ho.bC uc;replace hW:=hW.bC uc;replace gb:=uc.aX gb;replace o9:=fun t v h=>(o9 t v h).le uc.le
   replace hM:=uc.lt hM;have:=S.size;replace S:=S.aE uc;refine ae (ak (aj rfl rfl (br lX rfl rfl rfl gb rfl ?_)));refine cc (M:=M1) (A:=RT.fd) bG rfl jW (by decide) rfl rfl rfl oV (ar _ _) (fun alO Wk=>?_);obtain rfl:=iB Wk;obtain⟨kl,HQ⟩:=JF t (by omega) (by omega);refine Rg.sq lX zF gT rfl rfl rfl HQ hW (fun v8 ke=>?_);have tn:=o9 _ _ ke;clear ke;refine ez (A:=((RT.int .i64).sl)) (hn:=by decide) (M:=M1) Tryz.underlying171 gT (by decide) rfl rfl hM (tn) (.inr ⟨rfl,rfl⟩) (fun alP alQ J4 CS=>?_);replace Bw:=Bw.le CS.le;replace oV:=oV.le (by decide) CS.le;replace ho:=ho.bC CS;replace hW:=hW.bC CS;replace gb:=CS.aX gb;replace o9:=fun t v h=>(o9 t v h).le CS.le
   replace hM:=CS.lt hM;have:=S.size;replace S:=S.aE CS;refine cz (M:=M1) (base:=w0.heap.size) Tryz.underlying171 gT rfl rfl rfl rfl ho J4 (ar _ _) (by simp;omega) (by simp;omega) (S.size) (fun ac8 ac9 alR Wl CT=>?_);replace Bw:=Bw.le CT.le;replace oV:=oV.le (by decide) CT.le;replace J4:=J4.le CT.le;replace hW:=hW.step CT (fun h=>ho.kS hW.at_ h);replace gb:=CT.b9 gb (fun h=>ho.fc gb (by decide) h);replace o9:=fun t v h=>(o9 t v h).le CT.le
   replace hM:=CT.lt hM;have:=S.size;replace S:=S.cJ CT ho (bw _);replace ho:=Wl;refine al rfl rfl (ae (ak (bQ rfl rfl rfl (by omega) (aj rfl rfl (ae ?_)))));refine⟨rfl,(i+1,ac8),(.cons rfl (.cons rfl (.cons rfl (.cons rfl (.cons rfl (.cons rfl .nil)))))),?_,?_⟩
   ·exact⟨ac9,hM,S,by rw[bX,hg7,cq,dF];exact ho,Bw,hW,gb,o9,by dsimp only;omega⟩
   ·dsimp only;omega
  ·refine cP (au (ak (aj rfl rfl (aj rfl rfl (al rfl rfl (al rfl rfl (ae (aW ?_))))))));have e:(cC (ck d.2)).take i=cC (ck d.2):=bm (by omega);rw[e]at ho;exact fw rfl rfl rfl ⟨_,_,rfl,Bw.le (ly fZ S),ho.close fZ S (by simp;omega),S.back⟩
end Go.K
namespace Go.K
def OT {α:Type} (A:RT α) (M:aU) (w:World) (v:Value) (x:α):Prop:=∃b o vs,v= .pointer (some ⟨b,o,none⟩)∧A.R M w x vs∧w.rangeAt b o vs
theorem Own.elem {α:Type} {A:RT α} {e:TypeId} {M:aU} {w:World} {base:Nat} {v:Value} {xs:List α} (h:Own A e M w base v xs) (hA:0<A.n) {i:Nat} {x:α} (hx:xs[i]? =some x):
  ∃g cap vs,v= .slice (some ⟨g,0,none⟩) xs.length cap∧M g∧A.R M w x vs∧w.rangeAt g (i*A.n) vs:=by
 obtain⟨⟨C,hr,ha⟩,hm⟩:=h;rcases hr.2 with⟨h1,h2⟩|⟨g,cap,cur,h1,h2,h3,h4,h5,h6,h7⟩
 ·have:xs=[]:=List.eq_nil_of_length_eq_zero h2;subst this;simp at hx
 ·obtain⟨vs,hv,hj⟩:=ha.at_ i x hx;refine⟨g,cap,vs,h1,hm g (by rw[h1];rfl),hv,fun j u hu=>?_⟩;have h8:=hj j u hu;rw[←h7,eE]at h8
  split at h8
  ·simp only[World.cell?,h3];simpa using h8
  ·cases h8
section
variable {P:Program} {r:Option Nat} {n:Nat} {L:Sl} {ds:List Deferred} {w:World} {K:Kt} {ops:Array Oper} {rest:List Oper} {d:Nat} {x y:Operand} {ty:TypeId} {pos:String} {af:Array Edge} {α:Type} {A:RT α}
theorem Rg.ada {t e e':TypeId} {i:Operand} {κ:IntKind} {j:Int} {M:aU} {base:Nat} {xs:List α} {v zv:Value} {bytes:Nat} (ht:P.underlying t=some (.slice e)) (hi:TI P e zv A.n bytes) (hA:0<A.n)
  (hx:ev L x=some v) (PJ:ev L i=some (.int κ j)) (hd:Nat.blt d n=true) (ho:Own A e' M w base v xs) (hj:0≤j∧j<xs.length)
  (k:∀u a,xs[j.toNat]? =some a→OT A M w u a→Rg P r n ops rest ((d,u)::L) ds w K):
  Rg P r n ops ({dst:=some d,op:= .indexAddr t x i,type:=ty,pos,after:=af,guard:=none}::rest) L ds w K:=by
 have ek:j.toNat<xs.length:=by omega
 obtain⟨g,cap,vs,rfl,hm,h1,h2⟩:=ho.elem hA (aI ek);refine .op (fun _ h=>by cases h) rfl rfl hd (.pointer (some ⟨g,0+j.toNat*A.n,none⟩)) w (fun ρ h=>?_) (k _ xs[j.toNat] (aI ek) ⟨g,_,vs,rfl,h1,by rw[Nat.zero_add];exact h2⟩);simp only[execOp,h x _ hx,h i _ PJ];simp[Instr.indexAt,run_underlying ht,asIntOf,hj,hi.sizeOf,Addr.add_mid]
theorem Rg.J5 {t:TypeId} {fs:TypeDesc} {zv:Value} {bytes:Nat} {M:aU} {p:Value} {a:α} (hu:P.underlying t=some fs) (hf:fs.isRow=true) (hi:TI P t zv A.n bytes) (hg:A.agg=true)
  (hx:ev L x=some p) (hd:Nat.blt d n=true) (hp:OT A M w p a) (k:∀v,A.V M w a v→Rg P r n ops rest ((d,v)::L) ds w K):
  Rg P r n ops ({dst:=some d,op:= .load t x,type:=ty,pos,after:=af,guard:=none}::rest) L ds w K:=by
 obtain⟨b,o,vs,rfl,h1,h2⟩:=hp;refine .op (fun _ h=>by cases h) rfl rfl hd (.agg vs.toArray) w (fun ρ h=>?_) (k _ ⟨vs,h1,by simp[RT.val,hg]⟩);simp only[execOp,h x _ hx];obtain⟨i,yE,_,Bx,_⟩:=hi.get;have:=run_loadAt_mid (P:=P) w b o t vs fs h2 hu hf (by simp[yE,Bx,A.len h1]);simp[this]
end
end Go.K
namespace Go.K
open Go.Proofs
namespace TKBldC
theorem adb:TI Tryz.prog 169 (.agg #[(.slice none 0 0),(.map none),(.int .i64 0),(.int .i64 0)]) 4 48:=by unfold TI;kernel_rfl
theorem ade:placesOf Tryz.prog 169=[(0,1),(1,1),(2,1),(3,1)].map some:=by kernel_rfl
end TKBldC
open TKBldC
set_option maxRecDepth 10000
open Go.Maps (Keyed)
theorem sy:Keyed Tryz.prog 9:=Go.Maps.string_keyed aM
theorem J6 (k:List UInt8) (h:k.length≤140737488355328):∃l,keyOf Tryz.prog 9 (sv k)=some l:=by
 have e1:(⟨k.toArray⟩:ByteArray).size=k.length:=by simp[ByteArray.size]
 exact⟨_,Go.WideMaps.keyOf_string_mk aM (by rw[e1];unfold maxLen;omega)⟩
structure CU (Z:aU) (M:aU) (w:World) (B:Nat) (f:List UInt8→List Po) (K:List UInt8→Prop) (es:List MapEntry):Prop where
 o:∀k v,eD kR es (sv k) v→Own RT.po 153 M w B v (f k)
 a:∀k k' v v',k≠k'→eD kR es (sv k) v→eD kR es (sv k') v'→jE v v'
 k:∀x,(∃e∈es,e.key=sv x)↔K x
 z:∀k v c,eD kR es (sv k) v→v.ownBlock=some c→Z c
theorem CU.step {Z M M' N:aU} {w w':World} {B:Nat} {f:List UInt8→List Po} {K:List UInt8→Prop} {es:List MapEntry} (h:CU Z M w B f K es) (s:Step M w M' w' N) (hn:∀k v b,eD kR es (sv k) v→v.ownBlock=some b→¬N b):CU Z M' w' B f K es:=
 ⟨fun k v hv=>(h.o k v hv).step s fun b hb=>hn k v b hv hb,h.a,h.k,h.z⟩
theorem CU.bC {Z M M':aU} {w w':World} {B:Nat} {f:List UInt8→List Po} {K:List UInt8→Prop} {es:List MapEntry} (h:CU Z M w B f K es) (s:Step M w M' w' aN):CU Z M' w' B f K es:=h.step s fun _ _ _ _ _ h=>h
theorem CU.congr {Z M:aU} {w:World} {B:Nat} {f f':List UInt8→List Po} {K K':List UInt8→Prop} {es:List MapEntry} (h:CU Z M w B f K es) (hf:∀k,f' k=f k) (hK:∀k,K' k↔K k):CU Z M w B f' K' es:=
 ⟨fun k v hv=>by rw[hf];exact h.o k v hv,h.a,fun x=>(h.k x).trans (hK x).symm,h.z⟩
theorem CU.Hq {Z Z' M:aU} {w:World} {B:Nat} {f:List UInt8→List Po} {K:List UInt8→Prop} {es:List MapEntry} (h:CU Z M w B f K es) (hz:∀c,Z c→c<w.heap.size→Z' c):CU Z' M w B f K es:=
 ⟨h.o,h.a,h.k,fun k v c hv hc=>hz c (h.z k v c hv hc) ((h.o k v hv).base c hc).2⟩
theorem CU.put {Z M M2:aU} {w w1 w2:World} {B mb c:Nat} {mes:Array MapEntry} {f:List UInt8→List Po} {K:List UInt8→Prop} {es Q8:List MapEntry} {k0:List UInt8} {v0 v1:Value} {ps:List Po} (h:CU Z M w B f K es) (hZ:∀c,w.heap.size≤c→Z c) (LZ:eD kR es (sv k0) v0)
  (OU:Own RT.po 153 (lA M v1) w1 B v1 (f k0++ps)) (s1:Step M w (lA M v1) w1 (kb v0)) (hF:∀b,v1.ownBlock=some b→w.heap.size≤b∨v0.ownBlock=some b) (hmb:w1.heap[mb]? =some (.map mes c)) (s2:Step (lA M v1) w1 M2 w2 (fun k=>k=mb))
  (Hf:∀zv jl v',eD zv Q8 jl v'↔(jl=sv k0∧v'=v1)∨(jl≠sv k0∧eD zv es jl v')) (oT:(Q8.map (·.key)=es.map (·.key)∧∃e∈es,e.key=sv k0)∨(Q8.map (·.key)=es.map (·.key)++[sv k0]∧∀e∈es,e.key≠sv k0)):
  CU Z M2 w2 B (fun k=>if k=k0 then f k0++ps else f k) (fun x=>K x∨x=k0) Q8:=by
 have qJ:∀k v,eD kR Q8 (sv k) v→(k=k0∧v=v1)∨(k≠k0∧eD kR es (sv k) v):=fun k v hv=>by
  rcases(Hf kR (sv k) v).1 hv with⟨h3,h4⟩|⟨h3,h4⟩
  ·exact .inl ⟨A3 h3,h4⟩
  ·exact .inr ⟨fun e=>h3 (by rw[e]),h4⟩
 have Hg:∀k v,k≠k0→eD kR es (sv k) v→jE v1 v:=fun k v fE hv=>(h.a k k0 v v0 fE hv LZ).symm.grown hF (fun b hb=>((h.o k v hv).base b hb).2)
 have Nq:∀k v,k≠k0→eD kR es (sv k) v→Own RT.po 153 (lA M v1) w1 B v (f k):=fun k v fE hv=>(h.o k v hv).step s1 (fun b hb hk=>h.a k k0 v v0 fE hv LZ b hb hk)
 have hnm:∀{v:Value} {xs:List Po},Own RT.po 153 (lA M v1) w1 B v xs→∀b,v.ownBlock=some b→¬b=mb:=fun ho b hb e=>ho.kS hmb (by rw[←e];exact hb)
 refine⟨fun k v hv=>?_,fun k k' v v' fE hv qC=>?_,fun x=>?_,fun k v c hv hc=>?_⟩
 ·rcases qJ k v hv with⟨rfl,rfl⟩|⟨h3,h4⟩
  ·rw[if_pos rfl];exact OU.step s2 (hnm OU)
  ·rw[if_neg h3];exact(Nq k v h3 h4).step s2 (hnm (Nq k v h3 h4))
 ·rcases qJ k v hv with⟨rfl,rfl⟩|⟨h3,h4⟩
  ·rcases qJ k' v' qC with⟨rfl,_⟩|⟨h5,h6⟩
   ·exact absurd rfl fE
   ·exact Hg k' v' h5 h6
  ·rcases qJ k' v' qC with⟨rfl,rfl⟩|⟨h5,h6⟩
   ·exact(Hg k v h3 h4).symm
   ·exact h.a k k' v v' fE h4 h6
 ·have jN:(∃e∈Q8,e.key=sv x)↔sv x∈Q8.map (·.key):=by simp
  have adf:(∃e∈es,e.key=sv x)↔sv x∈es.map (·.key):=by simp
  rw[jN,←h.k x,adf];rcases oT with⟨h3,e,he,hk⟩|⟨h3,_⟩
  ·rw[h3];constructor
   ·exact .inl
   ·rintro(h4|rfl)
    ·exact h4
    ·rw[←hk];exact fH he
  ·rw[h3,dE,cT];constructor
   ·rintro(h4|h4)
    ·exact .inl h4
    ·exact .inr (A3 h4)
   ·rintro(h4|rfl)
    ·exact .inl h4
    ·exact .inr rfl
 ·rcases qJ k v hv with⟨rfl,rfl⟩|⟨h3,h4⟩
  ·rcases hF c hc with h5|h5
   ·exact hZ c h5
   ·exact h.z _ _ c LZ h5
  ·exact h.z k v c h4 hc
theorem NB (Z M:aU) (w:World) (B:Nat):CU Z M w B (pk []) (fun x=>x∈gZ []) [] where
 o k v hv:=by
  rcases hv with⟨e,he,_⟩|⟨_,rfl⟩
  ·cases he
  ·exact dO _ _ _ _ _
 a k k' v v' _ hv _:=by
  rcases hv with⟨e,he,_⟩|⟨_,rfl⟩
  ·cases he
  ·exact(jE.nil v').symm
 k x:=by simp[gZ]
 z k v c hv hc:=by
  rcases hv with⟨e,he,_⟩|⟨_,rfl⟩
  ·cases he
  ·cases hc
structure Buf (Z M:aU) (w:World) (B b mb:Nat) (vl:Value) (L:List En) (words last:Int) (f:List UInt8→List Po) (K:List UInt8→Prop) (es:List MapEntry) (clock:Nat):Prop where
 at_:w.heap[b]? =some (.cells #[vl,.map (some mb),.int .i64 words,.int .i64 last] 169 (0,0))
 m:M b
 mm:M mb
 hb:Z b
 hmb:Z mb
 l:Own RT.en 43 M w B vl L
 map:fJ Tryz.prog 9 w mb es clock
 rows:CU Z M w B f K es
 zl:∀c,vl.ownBlock=some c→Z c
def nK (Z M:aU) (w:World) (B b:Nat) (L:List En) (words last:Int):Prop:=∃mb vl es clock,Buf Z M w B b mb vl L words last (pk L) (fun x=>x∈gZ L) es clock
theorem nK.bC {Z M M':aU} {w w':World} {B b:Nat} {L:List En} {words last:Int} (h:nK Z M w B b L words last) (s:Step M w M' w' aN):nK Z M' w' B b L words last:=by
 obtain⟨mb,vl,es,clock,h1,h2,h3,h4,h5,h6,h7,h8,h9⟩:=h;exact⟨mb,vl,es,clock,s.aX h1,(s.mem _ (av h1)).2 h2,(s.mem _ (av h7.at_)).2 h3,h4,h5,h6.bC s,h7.bC s,h8.bC s,h9⟩
theorem nK.Hq {Z Z' M:aU} {w:World} {B b:Nat} {L:List En} {words last:Int} (h:nK Z M w B b L words last) (hz:∀c,Z c→c<w.heap.size→Z' c):nK Z' M w B b L words last:=by
 obtain⟨mb,vl,es,clock,h1,h2,h3,h4,h5,h6,h7,h8,h9⟩:=h;exact⟨mb,vl,es,clock,h1,h2,h3,hz _ h4 (av h1),hz _ h5 (av h7.at_),h6,h7,h8.Hq hz,fun c hc=>hz c (h9 c hc) (h6.base c hc).2⟩
theorem nK.step {Z M M' N:aU} {w w':World} {B b:Nat} {L:List En} {words last:Int} (h:nK Z M w B b L words last) (s:Step M w M' w' N) (hn:∀k,N k→¬Z k):nK Z M' w' B b L words last:=by
 obtain⟨mb,vl,es,clock,h1,h2,h3,h4,h5,h6,h7,h8,h9⟩:=h;exact⟨mb,vl,es,clock,s.b9 h1 (fun hk=>hn _ hk h4),(s.mem _ (av h1)).2 h2,(s.mem _ (av h7.at_)).2 h3,h4,h5,h6.step s (fun c hc hk=>hn _ hk (h9 c hc)),h7.step s (fun hk=>hn _ hk h5),h8.step s (fun k v c hv hc hk=>hn _ hk (h8.z k v c hv hc)),h9⟩
theorem nK.stepT {Z M M' N:aU} {w w':World} {B b:Nat} {L:List En} {words last:Int} (h:nK Z M w B b L words last) (s:Step M w M' w' N) (hn:∀k,N k→∃cs t,w.heap[k]? =some (.cells cs t (0,0))∧t≠169∧t≠43∧t≠153):nK Z M' w' B b L words last:=by
 obtain⟨mb,vl,es,clock,h1,h2,h3,h4,h5,h6,h7,h8,hz⟩:=h;refine⟨mb,vl,es,clock,s.b9 h1 (fun hk=>?_),(s.mem _ (av h1)).2 h2,(s.mem _ (av h7.at_)).2 h3,h4,h5,h6.step s (fun c hc hk=>?_),h7.step s (fun hk=>?_),h8.step s (fun k v c hv hc hk=>?_),hz⟩
 ·obtain⟨cs,t,h9,Hr,_⟩:=hn _ hk;rw[h1]at h9;simp at h9;exact Hr h9.2.symm
 ·obtain⟨cs,t,h9,_,Hr,_⟩:=hn _ hk;exact h6.fc h9 Hr hc
 ·obtain⟨cs,t,h9,_⟩:=hn _ hk;rw[h7.at_]at h9;cases h9
 ·obtain⟨cs,t,h9,_,_,Hr⟩:=hn _ hk;exact(h8.o k v hv).fc h9 Hr hc
def J7 (M Z:aU):aU:=fun k=>Z k∧M k
theorem eD.ex (zv:Value) (es:List MapEntry) (key:Value):∃v,eD zv es key v:=by
 by_cases h:∃e∈es,e.key=key
 ·obtain⟨e,he,hk⟩:=h;exact⟨e.val,.inl ⟨e,he,hk,rfl⟩⟩
 ·exact⟨zv,.inr ⟨fun e he hk=>h ⟨e,he,hk⟩,rfl⟩⟩
def mu (last:Int) (e:En):Int:=if nc e.1≠0 then nc e.1 else if e.2≤last then 12 else 0
def J8 (L:List En) (tl:List (Fd×Nat)) (i:Nat) (k:List UInt8):List Po:=pk L k++(((cC tl).take i).filter fun t=>decide (dm t=k)).map fun t=>((L.length:Int),posOf tl t)
theorem J9 (L:List En) (tl:List (Fd×Nat)) (k:List UInt8):J8 L tl 0 k=pk L k:=by simp[J8]
theorem Ka {L:List En} {tl:List (Fd×Nat)} {i:Nat} {t:Fd} (h:(cC tl)[i]? =some t) (k:List UInt8):J8 L tl (i+1) k=if k=dm t then J8 L tl i (dm t)++[((L.length:Int),posOf tl t)]else J8 L tl i k:=by
 unfold J8;rw[bX,h,cq,List.filter_append,dF]
 split
 ·rename_i e;subst e;simp
 ·rename_i e
  have: ¬dm t=k:=fun h=>e h.symm
  simp[this]
theorem NC {L:List En} {e:En} {i:Nat} (h:(cC (mP e)).length≤i) (k:List UInt8):J8 L (mP e) i k=pk (L++[e]) k:=by
 unfold J8;rw[Nt,bm h];rfl
theorem ND {L:List En} (hF:∀x∈L,iT x.1) (tl:List (Fd×Nat)) (i:Nat) (k:List UInt8):(J8 L tl i k).length≤L.length+(cC tl).length:=by
 unfold J8;have h1:=(nf k L 0 hF).1;have h2:=List.length_filter_le (fun t=>decide (dm t=k)) ((cC tl).take i);have h3:=List.length_take_le i (cC tl);have h4:(pk L k).length≤L.length:=h1;simp only[bP,cr,bU]at*;omega
theorem zN {d:Dc} (hF:iT d):(cC (ck d.2)).length≤500:=by
 have h1:=(pV hF.Hl).nodup.length_le_of_subset (l₂:=(ck d.2).map (·.1)) (fun t ht=>(jB hF.Hl).1 ht);have:=hF.many;simp at h1;omega
theorem iT.term {d:Dc} (hF:iT d) {t:Fd} (h:t∈cC (ck d.2)):t.1.length≤12∧t.2.length≤30:=by
 obtain⟨p,hp,rfl⟩:=cL.1 ((jB hF.Hl).1 h);exact hF.small p hp
theorem Kb {Z M:aU} {B:Nat} (w0:World) (hM:Lt M w0) (hB:B≤w0.heap.size) (hZ:∀k,w0.heap.size≤k→Z k):
  Spec Tryz.prog 56 #[] w0 (fun v w=>∃M' b,v= .pointer (some ⟨b,0,none⟩)∧Lt M' w∧nK Z M' w B b [] 0 (-1)∧Step M w0 M' w aN):=by
 refine bE (args:=[]) (fn:=Tryz.f56) Tryz.func56 rfl (n:=4) Tryz.ntmps56 ?_;have S:Step M w0 M w0 aN:=(ah _ _).cD (fun _ h=>h.elim) (fun _ h=>h.elim);refine au (ak (al rfl rfl (ae (au (ak ?_)))));refine Rg.CA M iy rfl (fun mb w1m p1 q1 gW s1=>?_);obtain⟨Q6,J1⟩:∃M',M'=ins M mb:=⟨_,rfl⟩;rw[←J1]at s1;have A7:Q6 mb:=by rw[J1];exact .inl rfl
 replace hM:=s1.lt hM;have:=S.size;replace S:=S.aE s1;refine eF (places:=[(0,1),(1,1),(2,1),(3,1)]) dX adb ade rfl ⟨_,_,rfl,rfl,_,_,rfl,rfl,rfl⟩ (out:=[.slice none 0 0,_,.int .i64 0,_]) ⟨1,[_],rfl,rfl,by simp[Value.cells],3,[_],rfl,rfl,by simp[Value.cells],rfl⟩ ?_;refine vr Q6 rfl rfl (fun Q9 Nk alT alU iR o5=>?_);obtain⟨Wm,Kc⟩:∃M',M'=ins Q6 Q9:=⟨_,rfl⟩;rw[←Kc]at o5;have Ra:Wm Q9:=by rw[Kc];exact .inl rfl
 change Nk.heap[Q9]? =some (.cells #[.slice none 0 0,.map (some mb),.int .i64 0,.int .i64 (-1)] _ _)at iR;replace A7:=(o5.mem _ (av gW.at_)).2 A7;replace gW:=gW.bC o5;replace hM:=o5.lt hM;have:=S.size;replace S:=S.aE o5;refine al rfl rfl (ae (aW ?_));exact a8 rfl rfl ⟨_,_,rfl,hM,⟨mb,_,[],0,iR,Ra,A7,hZ _ (by omega),hZ _ (by omega),dO _ _ _ _ _,gW,NB _ _ _ _,fun c hc=>by cases hc⟩,S⟩
end Go.K
namespace Go.K
open Go.Proofs
namespace TKBldD
theorem Wn:TI Tryz.prog 37 (.slice none 0 0) 1 24:=by unfold TI;kernel_rfl
theorem fX:TI Tryz.prog 107 (.slice none 0 0) 1 24:=by unfold TI;kernel_rfl
theorem EC:TI Tryz.prog 167 (.map none) 1 8:=by unfold TI;kernel_rfl
theorem adg:Enters Tryz.prog 107:=enters Tryz.func107 rfl (by decide)
theorem adh:Enters Tryz.prog 108:=enters Tryz.func108 rfl (by decide)
theorem adi:Enters Tryz.prog 109:=enters Tryz.func109 rfl (by decide)
theorem adj:Enters Tryz.prog 110:=enters Tryz.func110 rfl (by decide)
end TKBldD
open TKBldD
set_option maxRecDepth 10000
set_option maxHeartbeats 4000000 in
theorem Kd {Z M:aU} {B b:Nat} {L:List En} {words last:Int} {e:En} {v0:Value} (w0:World) (hM:Lt M w0) (hZ:∀k,w0.heap.size≤k→Z k) (hb:nK Z M w0 B b L words last) (hBw:B≤w0.heap.size) (hv:RT.en.V M w0 e v0) (hl:∀f∈e.1.2,f.1.length≤900000∧f.2.length≤900000) (hLF:∀x∈L,iT x.1) (hLn:L.length≤1000000) (hw:0≤words∧words≤1000000000):
  Spec Tryz.prog 57 #[.pointer (some ⟨b,0,none⟩),v0] w0 (fun v w=>∃M',Lt M' w∧Step M w0 M' w (J7 M Z)∧v= .int .i64 (mu last e)∧(mu last e≠0→nK Z M' w B b L words last)∧(mu last e=0→nK Z M' w B b (L++[e]) (words+((mP e).length:Int)) e.2)):=by
 obtain⟨mb,vl,es,clock,gb,ey,fk,hB,F0,ho,hW,hR,zl⟩:=hb;have ON:b≠mb:=fun h=>by have:=hW.at_;rw[←h,gb]at this;cases this
 refine bE (args:=[_,_]) (fn:=Tryz.f57) Tryz.func57 rfl (n:=89) Tryz.ntmps57 ?_;have S:Step M w0 M w0 (J7 M Z):=(ah _ _).cD (fun _ h=>h.elim) (fun _ h=>h.2);refine au (ak ?_);refine eG (A:=RT.en) rfl rfl hM hv rfl (fun u0 w1 cQ s0 _=>?_);have:=av gb;replace ey:=(s0.mem _ this).2 ey;replace gb:=s0.aX gb;replace ho:=ho.bC s0;replace fk:=(s0.mem _ (av hW.at_)).2 fk;replace hW:=hW.bC s0;replace hR:=hR.bC s0;replace hM:=s0.lt hM;have:=S.size;replace S:=S.aE s0;refine al rfl rfl (ae (au (au (ak ?_))));refine aA (M:=M) (A:=RT.en) (B:=RT.dc) cV rfl rfl lN (by decide) MY rfl rfl (by decide) cQ (ar _ _) (fun tU jR=>?_);refine cc (M:=M) (A:=RT.dc) a7 rfl lN (by decide) rfl rfl rfl jR (ar _ _) (fun vB kF=>?_);refine aS rfl rfl adg (Jg _ hM kF hl) (fun r2 w2 hc=>?_);obtain⟨rfl,s2⟩:=hc;have:=av gb;replace ey:=(s2.mem _ this).2 ey;replace gb:=s2.aX gb;replace cQ:=cQ.le (by decide) s2.le;replace ho:=ho.bC s2;replace fk:=(s2.mem _ (av hW.at_)).2 fk;replace hW:=hW.bC s2;replace hR:=hR.bC s2;replace hM:=s2.lt hM;have:=S.size;replace S:=S.aE s2;refine al rfl rfl (ae (au (ak (aj rfl rfl (eC rfl rfl rfl (ae ?_))))));refine bW rfl (fun c2=>?_) (fun c2=>?_)
 ·refine au (ak (aj rfl rfl (al rfl rfl (ae (aW ?_)))));have ea:mu last e=nc e.1:=if_pos c2;exact a8 rfl rfl ⟨_,hM,S,by rw[ea],fun _=>⟨mb,vl,es,clock,gb,ey,fk,hB,F0,ho,hW,hR,zl⟩,fun h=>absurd (ea▸h) c2⟩
 ·have hF:iT e.1:=F2 (by simpa using c2);refine bg (au (au ?_));apply kz mixed rfl rfl;intro HX Ke;have lE:=Ke M;have:=av gb;replace ey:=(lE.mem _ this).2 ey;replace gb:=lE.aX gb;replace cQ:=cQ.le (by decide) lE.le;replace ho:=ho.bC lE;replace fk:=(lE.mem _ (av hW.at_)).2 fk;replace hW:=hW.bC lE;replace hR:=hR.bC lE;replace hM:=lE.lt hM;have:=S.size;replace S:=S.aE lE;refine aA (M:=M) (A:=RT.en) (B:=RT.int .i64) cV rfl rfl I3 (by decide) VF rfl rfl (by decide) cQ (ar _ _) (fun M8 Cl=>?_);refine ae ⟨rfl,rfl,rfl,?_⟩;refine bK (M:=M) aB rfl rfl (by assumption) (by repeat (first|exact ar _ _|refine aT (bh (by assumption)) ?_)) (fun OV=>?_);refine bO (v':= .int .i64 (e.2)) rfl ?_;replace OV: -9223372036854775808≤(e.2:Int)∧e.2≤9223372036854775807:=OV;refine ae ⟨rfl,rfl,rfl,?_⟩;refine aj rfl rfl ?_;refine ae ⟨rfl,rfl,rfl,?_⟩;refine bJ rfl ⟨_,rfl⟩ rfl ?_;refine ae ⟨rfl,rfl,rfl,?_⟩;refine bI (o':=3) dX rfl rfl I3 (by decide) rfl rfl ?_;refine ae ⟨rfl,rfl,rfl,?_⟩;refine br aB rfl rfl rfl (by first|assumption|exact cI lE (by assumption)) rfl ?_;refine ae ⟨rfl,rfl,rfl,?_⟩;refine fo rfl rfl rfl ?_;refine ae ⟨rfl,rfl,rfl,?_⟩;refine dv ?_;refine bW rfl (fun c4=>?_) (fun c4=>?_)
  ·refine au (ak (al rfl rfl (ae (aW ?_))));have ea:mu last e=12:=by unfold mu;rw[if_neg (fun h=>h (by simpa using c2)),if_pos c4]
   exact a8 rfl rfl ⟨_,hM,S,by rw[ea],fun _=>⟨mb,vl,es,clock,gb,ey,fk,hB,F0,ho,hW,hR,zl⟩,fun h=>absurd (ea▸h) (by decide)⟩
  ·refine bg (au (ak ?_));refine aA (M:=M) (A:=RT.en) (B:=RT.dc) cV rfl rfl lN (by decide) MY rfl rfl (by decide) cQ (ar _ _) (fun QM FR=>?_);refine cc (M:=M) (A:=RT.dc) a7 rfl lN (by decide) rfl rfl rfl FR (ar _ _) (fun Jp pO=>?_);refine aS rfl rfl adh (CR _ hM pO hF hl) (fun r6 w6 hc=>?_);obtain⟨a6,b6,rfl,ha,oD,s6⟩:=hc;have:=av gb;replace ey:=(s6.mem _ this).2 ey;replace gb:=s6.aX gb;replace cQ:=cQ.le (by decide) s6.le;replace ho:=ho.bC s6;replace fk:=(s6.mem _ (av hW.at_)).2 fk;replace hW:=hW.bC s6;replace hR:=hR.bC s6;replace hM:=s6.lt hM;have:=S.size;replace S:=S.aE s6;refine aj rfl rfl (b5 rfl rfl rfl (b5 rfl rfl rfl (al rfl rfl (al rfl rfl (ae (au (au (ak (aj rfl rfl (bF cb rfl ha rfl (aj rfl rfl ?_)))))))))));refine ae (bu ?_);refine de (σ:=Nat) (fun q=>[(0,.pointer (some ⟨b,0,none⟩)),(3,u0),(7,b6),(30,a6),(31,.int .i64 ((cC (mP e)).length:Int)),(32,.int .i64 (q:Int))]) (fun q w=>∃M' es clock,Lt M' w∧Step M w0 M' w (J7 M Z)∧bL RT.en M' w u0 e∧(RT.fd.sl).V M' w (cC (mP e)) a6∧(((RT.int .i64).sl).sl).V M' w ((cC (mP e)).map (posOf (mP e))) b6∧Buf Z M' w B b mb vl L words last (J8 L (mP e) q) (fun x=>x∈gZ L∨x∈((cC (mP e)).take q).map dm) es clock∧q≤(cC (mP e)).length) (fun q=>(cC (mP e)).length-q) 0 (.cons rfl (.cons rfl (.cons rfl (.cons rfl (.cons rfl (.cons rfl .nil)))))) ?_ ?_
   ·exact⟨_,es,clock,hM,S,cQ,ha,oD,⟨gb,ey,fk,hB,F0,ho,hW,hR.congr (fun k=>J9 _ _ _) (fun k=>by simp),zl⟩,bM _⟩
   ·clear hM S cQ ha oD gb ey fk ho hW hR;rintro i w ⟨M1,es,clock,hM,S,cQ,ha,oD,⟨gb,ey,fk,_,_,ho,hW,hR,_⟩,hi⟩;refine au (ak (cu rfl rfl rfl (ae (au ?_))));refine bW rfl (fun c8=>?_) (fun c8=>?_)
    ·refine bg (au (bu (au (ak (aj rfl rfl ?_)))));refine bS (M:=M1) cb jW rfl rfl rfl ha (ar _ _) (by omega) (fun adk t OK Kf=>?_);rw[aK]at OK;have My:=aQ OK;have DT:=hF.term My;refine cc (M:=M1) (A:=RT.fd) bG rfl jW (by decide) rfl rfl rfl Kf (ar _ _) (fun adl Kg=>?_);obtain rfl:=iB Kg;refine eu M1 jW rfl (fun xD Vk alW alX oE pH=>?_);obtain⟨uN,Kh⟩:∃M',M'=ins M1 xD:=⟨_,rfl⟩;rw[←Kh]at pH;have A8:uN xD:=by rw[Kh];exact .inl rfl
     change Vk.heap[xD]? =some (.cells #[.string ⟨#[]⟩,.string ⟨#[]⟩] _ _)at oE;have:=av gb;replace ey:=(pH.mem _ this).2 ey;replace gb:=pH.aX gb;replace cQ:=cQ.le (by decide) pH.le;replace ha:=ha.le pH.le;replace oD:=oD.le pH.le;replace ho:=ho.bC pH;replace fk:=(pH.mem _ (av hW.at_)).2 fk;replace hW:=hW.bC pH;replace hR:=hR.bC pH;replace hM:=pH.lt hM;have:=S.size;replace S:=S.aE pH;refine al rfl rfl ?_;refine eB (M:=uN) (vs:=[.string ⟨t.1.toArray⟩,.string ⟨t.2.toArray⟩]) jW rfl rfl (EA rfl Kg) rfl rfl oE A8 (fun w9 g9 s9=>?_);have:=av gb;replace ey:=(s9.mem _ this).2 ey;replace gb:=s9.b9 gb (fun hk=>by have hk:_=_:=hk;omega);have:=av oE;replace A8:=(s9.mem _ this).2 A8;replace cQ:=cQ.le (by decide) s9.le;replace ha:=ha.le s9.le;replace oD:=oD.le s9.le;replace ho:=ho.step s9 (fun c hc (h:_=_)=>by first|exact ho.fc gb (by decide) (h▸hc)|exact ho.fc oE (by decide) (h▸hc));replace fk:=(s9.mem _ (av hW.at_)).2 fk;replace hW:=hW.step s9 (by first|exact fun h=>ho.kS hW.at_ h|exact fun(h:mb=b)=>ON h.symm|exact fun(h:mb=xD)=>by have h9:=hW.at_;rw[h,oE]at h9;cases h9);replace hR:=hR.step s9 (by first|exact fun k v c hv hc h=>(hR.o k v hv).jg ho (by decide) hc h|exact fun k v c hv hc (h:c=b)=>(hR.o k v hv).fc gb (by decide) (h▸hc)|exact fun k v c hv hc (h:c=xD)=>(hR.o k v hv).fc oE (by decide) (h▸hc));replace hM:=s9.lt hM;have:=S.size;replace S:=S.trans s9 (fun k hk h=>by have h:_=_:=h;subst h;first|(exfalso;omega)|(show _≤_;omega)|exact⟨by first|omega|assumption,(S.mem _ hk).1 ((s9.mem _ (av oE)).1 A8)⟩|exact .inl rfl|exact .inr rfl|exact .inr (.inl rfl)|exact .inr (.inr rfl)|exact rfl);have OW:=g9;clear oE;have oE:=OW;clear OW;refine ae (au (ak (gQ (vs:=[.string ⟨t.1.toArray⟩,.string ⟨t.2.toArray⟩]) bG rfl jW rfl rfl rfl oE ?_)));refine aS rfl rfl UX (JJ (t:=t) _ hM (by omega) (by omega)) (fun r10 w10 hc=>?_)
     obtain⟨rfl,sk⟩:=hc;have:=av gb;replace ey:=(sk.mem _ this).2 ey;replace gb:=sk.aX gb;replace cQ:=cQ.le (by decide) sk.le;replace ha:=ha.le sk.le;replace oD:=oD.le sk.le;replace ho:=ho.bC sk;replace fk:=(sk.mem _ (av hW.at_)).2 fk;replace hW:=hW.bC sk;replace hR:=hR.bC sk;replace hM:=sk.lt hM;have:=S.size;replace S:=S.aE sk;refine al rfl rfl (ae ?_);obtain⟨v10,ke⟩:=eD.ex kR es (sv (dm t));apply nr 21 [0,1,2,3,4,5,6,7,8,9,10] 2 (kb v10) mixed rfl rfl rfl rfl;intro y4 A9;have fF:=A9 uN;have:=av gb;replace ey:=(fF.mem _ this).2 ey;replace gb:=fF.aX gb;replace cQ:=cQ.le (by decide) fF.le;replace ha:=ha.le fF.le;replace oD:=oD.le fF.le;replace ho:=ho.bC fF;replace fk:=(fF.mem _ (av hW.at_)).2 fk;replace hW:=hW.bC fF;replace hR:=hR.bC fF;replace hM:=fF.lt hM;have:=S.size;replace S:=S.aE fF;refine aj rfl rfl ?_;refine ae ⟨rfl,rfl,rfl,?_⟩;refine bJ rfl ⟨_,rfl⟩ rfl ?_;refine ae ⟨rfl,rfl,rfl,?_⟩;refine bI (o':=1) dX rfl rfl EC (by decide) rfl rfl ?_;refine ae ⟨rfl,rfl,rfl,?_⟩;refine br iy rfl rfl rfl (by first|assumption|exact cI fF (by assumption)) rfl ?_;refine ae ⟨rfl,rfl,rfl,?_⟩;refine aj rfl rfl ?_;refine ae ⟨rfl,rfl,rfl,?_⟩;refine aj rfl rfl ?_;refine ae ⟨rfl,rfl,rfl,?_⟩;refine bJ rfl ⟨_,rfl⟩ rfl ?_;refine ae ⟨rfl,rfl,rfl,?_⟩;refine bI (o':=1) dX rfl rfl EC (by decide) rfl rfl ?_;refine ae ⟨rfl,rfl,rfl,?_⟩;refine br iy rfl rfl rfl (by first|assumption|exact cI fF (by assumption)) rfl ?_;refine ae ⟨rfl,rfl,rfl,?_⟩;refine aj rfl rfl ?_;refine ae ⟨rfl,rfl,rfl,?_⟩;obtain⟨kl,HQ⟩:=J6 (dm t) (by unfold dm;simp;omega);refine Rg.sq iy sy fX rfl rfl rfl HQ hW (fun adm adn=>?_);obtain rfl:v10=adm:=hW.val_one ke adn
     have zk:=ND hLF (mP e) i (dm t);have FF:(cC (mP e)).length≤500:=zN hF;refine ae ⟨rfl,rfl,rfl,?_⟩;refine aj rfl rfl ?_;refine ae ⟨rfl,rfl,rfl,?_⟩;refine bJ rfl ⟨_,rfl⟩ rfl ?_;refine ae ⟨rfl,rfl,rfl,?_⟩;refine bI (o':=0) dX rfl rfl Wn (by decide) rfl rfl ?_;refine ae ⟨rfl,rfl,rfl,?_⟩;refine br dK rfl rfl rfl (by first|assumption|exact cI fF (by assumption)) rfl ?_;refine ae ⟨rfl,rfl,rfl,?_⟩;refine gy dK rfl ho rfl ?_;refine ae ⟨rfl,rfl,rfl,?_⟩;refine aj rfl rfl ?_;refine ae ⟨rfl,rfl,rfl,?_⟩;refine aj rfl rfl ?_;refine ae ⟨rfl,rfl,rfl,?_⟩;refine bS (M:=uN) Tryz.underlying171 gT rfl rfl rfl oD (ar _ _) (by simp;omega) (fun u18 ps Wo ado=>?_);rw[aK,gG,OK]at Wo;obtain rfl:=aG Wo;refine ae ⟨rfl,rfl,rfl,?_⟩;refine aY (M:=uN) ay rfl rfl rfl rfl rfl ado (ar _ _) (fun v19 Wp=>?_);refine ae ⟨rfl,rfl,rfl,?_⟩;refine eF (places:=[(0,1),(1,1)]) aP dW IL rfl ⟨_,_,rfl,rfl,_,_,rfl,rfl,rfl⟩ (out:=[_,_]) ⟨0,[_],rfl,rfl,by simp[Value.cells],1,[_],rfl,fg Wp,by simp[Value.cells],rfl⟩ ?_;have vE:RT.po.V uN _ ((L.length:Int),posOf (mP e) t) _:=eS (ie (by omega)) Wp rfl rfl rfl rfl;refine ae ⟨rfl,rfl,rfl,?_⟩;refine dv ?_;have qI:=hR.o _ _ ke;refine⟨eA ⟨eU,⟨bT.nilCheck rfl,⟨eM dX rfl EC (by decide),⟨dx rfl gb (fun h=>qI.fc gb (by decide) h),⟨eU,⟨eU,⟨bT.nilCheck rfl,⟨eM dX rfl EC (by decide),⟨dx rfl gb (fun h=>qI.fc gb (by decide) h),⟨eU,⟨bT.sq iy sy fX rfl rfl HQ hW (fun h=>qI.kS hW.at_ h),trivial⟩⟩⟩⟩⟩⟩⟩⟩⟩⟩⟩,?_⟩;have kp:=eX (kb v10) y4;refine ez (A:=RT.po) (hn:=by decide) (M:=uN) aC dW (by decide) rfl rfl hM (vE) (.inl rfl) (fun adp adq NF mv=>?_)
     have:=av gb;replace ey:=(mv.mem _ this).2 ey;replace gb:=mv.aX gb;replace cQ:=cQ.le (by decide) mv.le;replace ha:=ha.le mv.le;replace oD:=oD.le mv.le;replace ho:=ho.bC mv;replace fk:=(mv.mem _ (av hW.at_)).2 fk;replace hW:=hW.bC mv;replace hR:=hR.bC mv;replace hM:=mv.lt hM;have:=S.size;replace S:=S.aE mv;refine(fun(kp:eg _ _ _)=>ae ⟨rfl,rfl,fun _=>kp,?_⟩) (by first|exact kp|exact kp.mY (by assumption)|exact kp.goN (by assumption)|exact kp.go (by assumption) (fun _ _ h=>by first|exact h|exact h.elim));refine Rg.kY (M:=uN) (base:=B) aC dW rfl rfl rfl rfl (hR.o _ _ ke) NF (ar _ _) (by simp;omega) (by simp;omega) (by have:=S.size;omega) (fun v22 w22 adr BF ads=>?_);have qI:=hR.o _ _ ke;have ah3:=hW.at_;have Wq:v10.ownBlock≠some mb:=qI.kS hW.at_;have OX:=ho.step BF (fun c hc h=>ho.jg qI (by decide) hc h);have ED:=(BF.mem _ (av hW.at_)).2 fk;have NG:=hW.step BF Wq;have Wr:=BF.b9 gb (fun h=>qI.fc gb (by decide) h);have Rb:=(BF.mem _ (av gb)).2 ey;have S22:=S.trans BF (fun k hk h=>⟨hR.z _ _ k ke h,(S.mem k hk).1 (qI.mut_ k h)⟩);have adt:=BF.lt hM;replace cQ:=cQ.le (by decide) BF.le;replace ha:=ha.le BF.le;replace oD:=oD.le BF.le;refine(fun(kp:eg _ _ _)=>ae ⟨rfl,rfl,fun _=>kp,?_⟩) (by first|exact kp|exact kp.mY (by assumption)|exact kp.goN (by assumption)|exact kp.go (by assumption) (fun _ _ h=>by first|exact h|exact h.elim));refine Rg.Nu iy sy rfl rfl rfl HQ NG ED (fun w23 adu adv adw adx Rc Ba=>?_);have ady:=hR.put (fun c hc=>hZ c (by have:=S.size;omega)) ke adr BF ads NG.at_ Ba Rc adx;replace cQ:=cQ.le (by decide) Ba.le;replace ha:=ha.le Ba.le;replace oD:=oD.le Ba.le;have adz:=OX.step Ba (fun c hc (h:c=mb)=>OX.kS NG.at_ (h▸hc));have adA:=Ba.b9 Wr ON;have Re:=(Ba.mem _ (av Wr)).2 Rb
     have Rf:=(Ba.mem _ (av NG.at_)).2 ED;have adB:=Ba.lt adt;have S23:=S22.trans Ba (fun k hk (h:k=mb)=>⟨by rw[h];exact F0,(S22.mem k hk).1 (by rw[h];exact ED)⟩);refine ae ⟨rfl,rfl,fun h=>absurd rfl h,?_⟩;refine gX (ak (bQ rfl rfl rfl (by omega) (aj rfl rfl (ae ?_))));refine⟨rfl,i+1,(.cons rfl (.cons rfl (.cons rfl (.cons rfl (.cons rfl (.cons rfl .nil)))))),?_,?_⟩
     ·exact⟨_,adu,adv,adB,S23,cQ,ha,oD,⟨adA,Re,Rf,hB,F0,adz,adw,ady.congr (fun k=>Ka OK k) (fun k=>by rw[bX,OK,cq,dF,dE,or_assoc];simp),zl⟩,by omega⟩
     ·omega
    ·refine cP (au ?_);apply nr 6 [0,1,2,3,4] 3 (kb vl) mixed rfl rfl rfl rfl;intro QB QC;have ox:=QC M1;have:=av gb;replace ey:=(ox.mem _ this).2 ey;replace gb:=ox.aX gb;replace cQ:=cQ.le (by decide) ox.le;replace ha:=ha.le ox.le;replace oD:=oD.le ox.le;replace ho:=ho.bC ox;replace fk:=(ox.mem _ (av hW.at_)).2 fk;replace hW:=hW.bC ox;replace hR:=hR.bC ox;replace hM:=ox.lt hM;have:=S.size;replace S:=S.aE ox;refine aj rfl rfl ?_;refine ae ⟨rfl,rfl,rfl,?_⟩;refine aj rfl rfl ?_;refine ae ⟨rfl,rfl,rfl,?_⟩;refine bJ rfl ⟨_,rfl⟩ rfl ?_;refine ae ⟨rfl,rfl,rfl,?_⟩;refine bI (o':=0) dX rfl rfl Wn (by decide) rfl rfl ?_;refine ae ⟨rfl,rfl,rfl,?_⟩;refine br dK rfl rfl rfl gb rfl (bO (v':=vl) rfl ?_);refine ae ⟨rfl,rfl,rfl,?_⟩;refine cc (M:=M1) (A:=RT.en) cV rfl yO (by decide) rfl rfl rfl cQ (ar _ _) (fun OG AV=>?_);refine ae ⟨rfl,rfl,rfl,?_⟩;refine dv ?_;refine⟨eA ⟨eU,⟨eU,⟨bT.nilCheck rfl,⟨eM dX rfl Wn (by decide),⟨dx rfl gb (fun h=>ho.fc gb (by decide) h),trivial⟩⟩⟩⟩⟩,?_⟩;have kp:=eX (kb vl) QB;refine aS rfl rfl adi (JX _ hM AV (by have:=hF.few;omega)) (fun ah5 Ws hc=>?_);obtain⟨EE,y5⟩:=hc;have:=av gb;replace ey:=(y5.mem _ this).2 ey;replace gb:=y5.aX gb;replace cQ:=cQ.le (by decide) y5.le;replace ha:=ha.le y5.le;replace oD:=oD.le y5.le;replace ho:=ho.bC y5;replace fk:=(y5.mem _ (av hW.at_)).2 fk;replace hW:=hW.bC y5;replace hR:=hR.bC y5;replace hM:=y5.lt hM;have:=S.size;replace S:=S.aE y5;refine(fun(kp:eg _ _ _)=>ae ⟨rfl,rfl,fun _=>kp,?_⟩) (by first|exact kp|exact kp.mY (by assumption)|exact kp.goN (by assumption)|exact kp.go (by assumption) (fun _ _ h=>by first|exact h|exact h.elim));refine ez (A:=RT.en) (hn:=by decide) (M:=M1) dK yO (by decide) rfl rfl hM (EE) (.inl rfl) (fun ah6 ah7 Rh oW=>?_)
     have:=av gb;replace ey:=(oW.mem _ this).2 ey;replace gb:=oW.aX gb;replace cQ:=cQ.le (by decide) oW.le;replace ha:=ha.le oW.le;replace oD:=oD.le oW.le;replace EE:=EE.le oW.le;replace ho:=ho.bC oW;replace fk:=(oW.mem _ (av hW.at_)).2 fk;replace hW:=hW.bC oW;replace hR:=hR.bC oW;replace hM:=oW.lt hM;have:=S.size;replace S:=S.aE oW;refine(fun(kp:eg _ _ _)=>ae ⟨rfl,rfl,fun _=>kp,?_⟩) (by first|exact kp|exact kp.mY (by assumption)|exact kp.goN (by assumption)|exact kp.go (by assumption) (fun _ _ h=>by first|exact h|exact h.elim));refine Rg.kY (M:=M1) (base:=B) dK yO rfl rfl rfl rfl ho Rh (ar _ _) (by simp;omega) (by simp;omega) (by have:=S.size;omega) (fun CV ah8 Ri uO adC=>?_);replace ey:=(uO.mem _ (av gb)).2 ey
     have zl':∀c,CV.ownBlock=some c→Z c:=fun c hc=>by
      rcases adC c hc with h|h
      ·exact hZ c (by have:=S.size;omega)
      ·exact zl c h
     replace hR:=hR.step uO (fun k v c hv hc h=>(hR.o k v hv).jg ho (by decide) hc h);replace fk:=(uO.mem _ (av hW.at_)).2 fk;replace hW:=hW.step uO (fun h=>ho.kS hW.at_ h);replace gb:=uO.b9 gb (fun h=>ho.fc gb (by decide) h);replace cQ:=cQ.le (by decide) uO.le;replace S:=S.trans uO (fun k hk h=>⟨zl k h,(S.mem k hk).1 (ho.mut_ k h)⟩);replace hM:=uO.lt hM;replace ho:=Ri;obtain⟨OY,adD⟩:∃M',M'=lA M1 CV:=⟨_,rfl⟩;rw[←adD]at hR fk cQ S hM ho ey;refine(fun(kp:eg _ _ _)=>ae ⟨rfl,rfl,fun _=>kp,?_⟩) (by first|exact kp|exact kp.mY (by assumption)|exact kp.goN (by assumption)|exact kp.go (by assumption) (fun _ _ h=>by first|exact h|exact h.elim));refine bJ rfl ⟨_,rfl⟩ rfl ?_;refine ae ⟨rfl,rfl,fun h=>absurd rfl h,?_⟩;refine bI (o':=0) dX rfl rfl Wn (by decide) rfl rfl ?_;refine ae ⟨rfl,rfl,fun h=>absurd rfl h,?_⟩;refine cw (M:=OY) Wn rfl rfl gb rfl (by obtain⟨_,_,he,_⟩:=ho.isSlice;rw[he];rfl) ey (fun Rj Ki oF=>?_);change Rj.heap[_]? =some (Obj.cells #[CV,.map (some mb),.int .i64 words,.int .i64 last] _ _)at Ki;have:=av gb;replace ey:=(oF.mem _ this).2 ey;replace cQ:=cQ.le (by decide) oF.le;replace ho:=ho.step oF (fun c hc (h:_=_)=>by first|exact ho.fc gb (by decide) (h▸hc)|exact ho.fc oE (by decide) (h▸hc));replace fk:=(oF.mem _ (av hW.at_)).2 fk;replace hW:=hW.step oF (by first|exact fun h=>ho.kS hW.at_ h|exact fun(h:mb=b)=>ON h.symm|exact fun(h:mb=xD)=>by have h9:=hW.at_;rw[h,oE]at h9;cases h9);replace hR:=hR.step oF (by first|exact fun k v c hv hc h=>(hR.o k v hv).jg ho (by decide) hc h|exact fun k v c hv hc (h:c=b)=>(hR.o k v hv).fc gb (by decide) (h▸hc)|exact fun k v c hv hc (h:c=xD)=>(hR.o k v hv).fc oE (by decide) (h▸hc));replace hM:=oF.lt hM;have:=S.size;replace S:=S.trans oF (fun k hk h=>by have h:_=_:=h;subst h;first|(exfalso;omega)|(show _≤_;omega)|exact⟨by first|omega|assumption,(S.mem _ hk).1 ((oF.mem _ (av gb)).1 ey)⟩|exact .inl rfl|exact .inr rfl|exact .inr (.inl rfl)|exact .inr (.inr rfl)|exact rfl)
     have JH:=Ki;clear gb;have gb:=JH;clear JH;refine ae ⟨rfl,rfl,fun h=>absurd rfl h,?_⟩;refine gX (au ?_);apply nr 6 [0,1,2,3] 1 aN mixed rfl rfl rfl rfl;intro Rk Kj;have qz:=Kj OY;have:=av gb;replace ey:=(qz.mem _ this).2 ey;replace gb:=qz.aX gb;replace cQ:=cQ.le (by decide) qz.le;replace ho:=ho.bC qz;replace fk:=(qz.mem _ (av hW.at_)).2 fk;replace hW:=hW.bC qz;replace hR:=hR.bC qz;replace hM:=qz.lt hM;have:=S.size;replace S:=S.aE qz;refine aj rfl rfl ?_;refine ae ⟨rfl,rfl,rfl,?_⟩;refine bJ rfl ⟨_,rfl⟩ rfl ?_;refine ae ⟨rfl,rfl,rfl,?_⟩;refine bI (o':=2) dX rfl rfl I3 (by decide) rfl rfl ?_;refine ae ⟨rfl,rfl,rfl,?_⟩;refine br aB rfl rfl rfl (by first|assumption|exact cI qz (by assumption)) rfl ?_;refine ae ⟨rfl,rfl,rfl,?_⟩;refine aA (M:=OY) (A:=RT.en) (B:=RT.dc) cV rfl rfl lN (by decide) MY rfl rfl (by decide) cQ (ar _ _) (fun ah9 Rl=>?_);refine ae ⟨rfl,rfl,rfl,?_⟩;refine cc (M:=OY) (A:=RT.dc) a7 rfl lN (by decide) rfl rfl rfl Rl (ar _ _) (fun aia Rm=>?_);refine ae ⟨rfl,rfl,rfl,?_⟩;refine dv ?_;refine⟨eA ⟨eU,⟨bT.nilCheck rfl,⟨eM dX rfl I3 (by decide),⟨dx rfl gb (fun h=>h),trivial⟩⟩⟩⟩,?_⟩;have kp:=eX aN Rk;refine aS rfl rfl adj (CC _ hM Rm hl hF.few) (fun r14 VX hc=>?_);obtain⟨rfl,lu⟩:=hc;have:=av gb;replace ey:=(lu.mem _ this).2 ey;replace gb:=lu.aX gb;replace cQ:=cQ.le (by decide) lu.le;replace ho:=ho.bC lu;replace fk:=(lu.mem _ (av hW.at_)).2 fk;replace hW:=hW.bC lu;replace hR:=hR.bC lu;replace hM:=lu.lt hM;have:=S.size;replace S:=S.aE lu;refine(fun(kp:eg _ _ _)=>ae ⟨rfl,rfl,fun _=>kp,?_⟩) (by first|exact kp|exact kp.mY (by assumption)|exact kp.goN (by assumption)|exact kp.go (by assumption) (fun _ _ h=>by first|exact h|exact h.elim))
     have:=hF.many;refine bQ rfl rfl rfl (by omega) ?_;refine ae ⟨rfl,rfl,fun h=>absurd rfl h,?_⟩;refine bJ rfl ⟨_,rfl⟩ rfl ?_;refine ae ⟨rfl,rfl,fun h=>absurd rfl h,?_⟩;refine bI (o':=2) dX rfl rfl I3 (by decide) rfl rfl ?_;refine ae ⟨rfl,rfl,fun h=>absurd rfl h,?_⟩;refine cw (M:=OY) I3 rfl rfl gb rfl (rfl) ey (fun Rn Kl oG=>?_);change Rn.heap[_]? =some (Obj.cells #[CV,.map (some mb),.int .i64 (words+((mP e).length:Int)),.int .i64 last] _ _)at Kl;have:=av gb;replace ey:=(oG.mem _ this).2 ey;replace cQ:=cQ.le (by decide) oG.le;replace ho:=ho.step oG (fun c hc (h:_=_)=>by first|exact ho.fc gb (by decide) (h▸hc)|exact ho.fc oE (by decide) (h▸hc));replace fk:=(oG.mem _ (av hW.at_)).2 fk;replace hW:=hW.step oG (by first|exact fun h=>ho.kS hW.at_ h|exact fun(h:mb=b)=>ON h.symm|exact fun(h:mb=xD)=>by have h9:=hW.at_;rw[h,oE]at h9;cases h9);replace hR:=hR.step oG (by first|exact fun k v c hv hc h=>(hR.o k v hv).jg ho (by decide) hc h|exact fun k v c hv hc (h:c=b)=>(hR.o k v hv).fc gb (by decide) (h▸hc)|exact fun k v c hv hc (h:c=xD)=>(hR.o k v hv).fc oE (by decide) (h▸hc));replace hM:=oG.lt hM;have:=S.size;replace S:=S.trans oG (fun k hk h=>by have h:_=_:=h;subst h;first|(exfalso;omega)|(show _≤_;omega)|exact⟨by first|omega|assumption,(S.mem _ hk).1 ((oG.mem _ (av gb)).1 ey)⟩|exact .inl rfl|exact .inr rfl|exact .inr (.inl rfl)|exact .inr (.inr rfl)|exact rfl);have JH:=Kl;clear gb;have gb:=JH;clear JH;refine ae ⟨rfl,rfl,fun h=>absurd rfl h,?_⟩;refine gX (au (ak (aj rfl rfl ?_)));refine aA (M:=OY) (A:=RT.en) (B:=RT.int .i64) cV rfl rfl I3 (by decide) VF rfl rfl (by decide) cQ (ar _ _) (fun aib adE=>?_);refine bK (M:=OY) aB rfl rfl (by assumption) (by repeat (first|exact ar _ _|refine aT (bh (by assumption)) ?_)) (fun Km=>?_)
     refine bO (v':= .int .i64 (e.2)) rfl ?_;replace Km: -9223372036854775808≤(e.2:Int)∧e.2≤9223372036854775807:=Km;refine bJ rfl ⟨_,rfl⟩ rfl (bI (o':=3) dX rfl rfl I3 (by decide) rfl rfl ?_);refine cw (M:=OY) I3 rfl rfl gb rfl (rfl) ey (fun OZ O0 j9=>?_);change OZ.heap[_]? =some (Obj.cells #[CV,.map (some mb),.int .i64 (words+((mP e).length:Int)),.int .i64 e.2] _ _)at O0;have:=av gb;replace ey:=(j9.mem _ this).2 ey;replace cQ:=cQ.le (by decide) j9.le;replace ho:=ho.step j9 (fun c hc (h:_=_)=>by first|exact ho.fc gb (by decide) (h▸hc)|exact ho.fc oE (by decide) (h▸hc));replace fk:=(j9.mem _ (av hW.at_)).2 fk;replace hW:=hW.step j9 (by first|exact fun h=>ho.kS hW.at_ h|exact fun(h:mb=b)=>ON h.symm|exact fun(h:mb=xD)=>by have h9:=hW.at_;rw[h,oE]at h9;cases h9);replace hR:=hR.step j9 (by first|exact fun k v c hv hc h=>(hR.o k v hv).jg ho (by decide) hc h|exact fun k v c hv hc (h:c=b)=>(hR.o k v hv).fc gb (by decide) (h▸hc)|exact fun k v c hv hc (h:c=xD)=>(hR.o k v hv).fc oE (by decide) (h▸hc));replace hM:=j9.lt hM;have:=S.size;replace S:=S.trans j9 (fun k hk h=>by have h:_=_:=h;subst h;first|(exfalso;omega)|(show _≤_;omega)|exact⟨by first|omega|assumption,(S.mem _ hk).1 ((j9.mem _ (av gb)).1 ey)⟩|exact .inl rfl|exact .inr rfl|exact .inr (.inl rfl)|exact .inr (.inr rfl)|exact rfl);have JH:=O0;clear gb;have gb:=JH;clear JH;refine ae (au (ak (al rfl rfl (ae (aW ?_)))));have ea:mu last e=0:=by unfold mu;rw[if_neg (fun h=>h (by simpa using c2)),if_neg c4]
     exact a8 rfl rfl ⟨_,hM,S,by rw[ea],fun h=>absurd ea h,fun _=>⟨mb,_,es,clock,gb,ey,fk,hB,F0,ho,hW,hR.congr (fun k=>(NC (by omega) k).symm) (fun k=>by rw[xA,dE,bm (by omega)]),zl'⟩⟩
end Go.K

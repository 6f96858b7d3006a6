/- What the law 'MergeCounts' needs of walks and plain Lean, part 3: nothing is assumed beyond the texts that it imports. -/
import Derived.Deep.Draws
import Derived.DeepKeys4
import Derived.Ground.GgzProg
import Derived.Ground.SlgmProg
import Derived.Ground.SlsfProg
import Derived.KernelRfl
import Derived.Lib.Bytealg
import Derived.Shelf.SlGeneric
import Derived.Shelf.SlIter.Nil
import Derived.Shelf.SlIterI.Nil
import Derived.Shelf.SlSortCmp.NoneTotal
import Derived.Shelf.SortM.Plain
import Derived.Shelf.SortM.SortNone
import Derived.Sort.Grow
import Derived.Sort.KeysCollected
import Derived.Sort.Walk0
import Derived.Test.YtbobcaffmbaadaaGreatDoorProg
import Derived.Test.YtbobcaffmbaadaaGreatDoorZMergeCounts1
import Derived.Test.YtbobcaffmbaadaaGreatDoorZMergeCounts2
set_option linter.unusedVariables false
set_option linter.unusedSimpArgs false
theorem mP:type_of% @Go.K.Rg.invoke:=@Go.K.Rg.invoke
theorem nP:type_of% @Go.K.Rg.n0:=@Go.K.Rg.n0
theorem vQ:type_of% @Go.K.Rg.sI:=@Go.K.Rg.sI
theorem xh:type_of% @Go.K.Rg.mj:=@Go.K.Rg.mj
namespace Go.K
open Go.Proofs
set_option maxRecDepth 10000
theorem Aw {M:aD} {d:Dc} {v0:Value} (w0:World) (hM:Lt M w0) (hv:RT.dc.V M w0 d v0) (hl:∀f∈d.2,f.1.length≤900000∧f.2.length≤900000):
  Spec Tryz.prog 94 #[v0] w0 (fun v w=>v= .int .i64 (lT d)∧Step M w0 M w aC):=by
 have kR:=hM;refine bm (args:=[_]) (fn:=Tryz.f94) Tryz.func94 rfl (n:=66) Tryz.ntmps94 ?_;have S:Step M w0 M w0 aC:=(ax _ _).cH (fun _ h=>h.elim) (fun _ h=>h.elim);refine aj (ae ?_);refine nP (A:=RT.dc) rfl rfl hM hv rfl (fun u0 w1 dw s0 _=>?_);replace hM:=s0.lt hM;have:=S.size;replace S:=S.aB s0;refine ah rfl rfl (ab (aj (aj (ae ?_))));refine aK (M:=M) (A:=RT.dc) (B:=(RT.fd).sl) bj rfl rfl uV (by decide) (IS) rfl rfl (by decide) (by assumption) (by repeat (first|exact ao _ _|refine aX (bu (by assumption)) ?_)) (fun zF lK=>?_);refine bR (M:=M) bz rfl rfl rfl rfl rfl (by assumption) (by repeat (first|exact ao _ _|refine aX (bu (by assumption)) ?_)) (fun zG mZ=>?_);refine bQ bz rfl mZ rfl (iY rfl rfl rfl (ab ?_));refine bI rfl (fun c1=>?_) (fun c1=>?_)
 ·refine aj (ae (ah rfl rfl (ab (aQ ?_))));exact aV rfl rfl ⟨by rw[lT,if_pos (by omega)],S.back⟩
 ·refine aT (aj (ae (ah rfl rfl (ab (aj (aj (ae (ah rfl rfl (ab (aZ ?_))))))))));refine dn (σ:=Nat×Nat) (fun q=>[(1,u0),(3,.int .i64 (q.2:Int)),(4,.int .i64 (q.1:Int))]) (fun q w=>Lt M w∧Step M w0 M w aC∧cQ RT.dc M w u0 d∧lT d=zE (d.2.take q.1) (d.2.drop q.1) q.2∧q.1≤d.2.length∧q.2≤900001*q.1∧d.2.length≤8) (fun q=>d.2.length-q.1) (0,0) (.cons rfl (.cons rfl (.cons rfl .nil))) ?_ ?_
  ·exact⟨hM,S,dw,by rw[lT,if_neg (by omega)];rfl,bD _,aN _,by omega⟩
  ·rintro⟨i,n⟩ w ⟨hM,S,dw,FG,hi,hn,hd8⟩;dsimp only at FG hi hn ⊢;refine aj (aj (ae (ad rfl rfl ?_)));refine aK (M:=M) (A:=RT.dc) (B:=(RT.fd).sl) bj rfl rfl uV (by decide) (IS) rfl rfl (by decide) (by assumption) (by repeat (first|exact ao _ _|refine aX (bu (by assumption)) ?_)) (fun Ya Lu=>?_);refine bR (M:=M) bz rfl rfl rfl rfl rfl (by assumption) (by repeat (first|exact ao _ _|refine aX (bu (by assumption)) ?_)) (fun aeg Rq=>?_);refine bQ bz rfl Rq rfl (cg rfl rfl rfl (ab ?_));refine bI rfl (fun c5=>?_) (fun c5=>?_)
   ·refine aT (aj (aZ (aj (ae ?_))));refine aK (M:=M) (A:=RT.dc) (B:=(RT.fd).sl) bj rfl rfl uV (by decide) (IS) rfl rfl (by decide) (by assumption) (by repeat (first|exact ao _ _|refine aX (bu (by assumption)) ?_)) (fun Yb Hz=>?_);refine bR (M:=M) bz rfl rfl rfl rfl rfl (by assumption) (by repeat (first|exact ao _ _|refine aX (bu (by assumption)) ?_)) (fun aeh Rr=>?_);refine ad rfl rfl ?_;refine cF (M:=M) bz kG rfl rfl rfl Rr (ao _ _) (by omega) (fun an4 x Dd ajT=>?_);rw[ay]at Dd;refine aK (M:=M) (A:=RT.fd) (B:=RT.str) cx rfl rfl I9 (by decide) (Pn) rfl rfl (by decide) (by assumption) (by repeat (first|exact ao _ _|refine aX (bu (by assumption)) ?_)) (fun an5 Yc=>?_);refine bR (M:=M) aF rfl rfl rfl rfl rfl Yc (ao _ _) (fun an6 Yd=>?_);obtain rfl:=fF Yd;have kF:=Hx (n:=n) Dd;have qd:=hl _ (az Dd);refine aY rfl rfl E93 (yj x.1 (by omega) _) (fun r7 w7 hc=>?_);obtain⟨rfl,rfl⟩:=hc;refine ah rfl rfl (ab (aj (aj (ae (ad rfl rfl (mO rfl rfl (aU (v':= .bool (decide (gj x.1=false))) (by cases gj x.1<;>rfl) (ab ?_))))))));refine bI rfl (fun c8=>?_) (fun c8=>?_)
    ·refine aj (ae (ah rfl rfl (ab (aQ ?_))));exact aV rfl rfl ⟨by rw[FG,kF,if_pos (by assumption)],S.back⟩
    ·refine aT (aj (aj (ae (ah rfl rfl (ab (aZ ?_))))));refine dn (σ:=Nat) (fun j=>[(1,u0),(3,.int .i64 (n:Int)),(4,.int .i64 (i:Int)),(6,.int .i64 (j:Int))]) (fun j w=>Lt M w∧Step M w0 M w aC∧cQ RT.dc M w u0 d∧j≤i∧∀k y,k<j→d.2[k]? =some y→y.1≠x.1) (fun j=>i-j) 0 (.cons rfl (.cons rfl (.cons rfl (.cons rfl .nil)))) ?_ ?_
     ·exact⟨hM,S,dw,bD _,fun k c h=>absurd h (Nat.not_lt_zero k)⟩
     ·rintro j w ⟨hM,S,dw,hj,kf⟩;refine aj (aj (ae (ad rfl rfl (ad rfl rfl (cg rfl rfl rfl (ab ?_))))));refine bI rfl (fun Fy=>?_) (fun Fy=>?_)
      ·refine aT (aj (aZ (aj ?_)));apply uG mixed rfl rfl;intro T8 T9;have o5:=T9 M;replace dw:=dw.le (by decide) o5.le;replace hM:=o5.lt hM;have:=S.size;replace S:=S.aB o5;refine aK (M:=M) (A:=RT.dc) (B:=(RT.fd).sl) bj rfl rfl uV (by decide) (IS) rfl rfl (by decide) (by assumption) (by repeat (first|exact ao _ _|refine aX (bu (by assumption)) ?_)) (fun ajU aei=>?_);refine ab ⟨rfl,rfl,rfl,?_⟩;refine bR (M:=M) bz rfl rfl rfl rfl rfl (by assumption) (by repeat (first|exact ao _ _|refine aX (bu (by assumption)) ?_)) (fun ajV Ua=>?_);refine ab ⟨rfl,rfl,rfl,?_⟩;refine ad rfl rfl ?_;refine ab ⟨rfl,rfl,rfl,?_⟩;refine cF (M:=M) bz kG rfl rfl rfl Ua (ao _ _) (by omega) (fun Rs y FH fV=>?_);rw[ay]at FH;refine ab ⟨rfl,rfl,rfl,?_⟩;refine aK (M:=M) (A:=RT.fd) (B:=RT.str) cx rfl rfl I9 (by decide) (Pn) rfl rfl (by decide) (by assumption) (by repeat (first|exact ao _ _|refine aX (bu (by assumption)) ?_)) (fun fO kS=>?_);refine ab ⟨rfl,rfl,rfl,?_⟩;refine bR (M:=M) aF rfl rfl rfl rfl rfl kS (ao _ _) (fun Rt Bx=>?_);obtain rfl:=fF Bx;refine ab ⟨rfl,rfl,rfl,?_⟩;refine aK (M:=M) (A:=RT.dc) (B:=(RT.fd).sl) bj rfl rfl uV (by decide) (IS) rfl rfl (by decide) (by assumption) (by repeat (first|exact ao _ _|refine aX (bu (by assumption)) ?_)) (fun ajW aej=>?_);refine ab ⟨rfl,rfl,rfl,?_⟩;refine bR (M:=M) bz rfl rfl rfl rfl rfl (by assumption) (by repeat (first|exact ao _ _|refine aX (bu (by assumption)) ?_)) (fun ajX Ub=>?_);refine ab ⟨rfl,rfl,rfl,?_⟩;refine ad rfl rfl ?_;refine ab ⟨rfl,rfl,rfl,?_⟩;refine cF (M:=M) bz kG rfl rfl rfl Ub (ao _ _) (by omega) (fun ajY z Lv aek=>?_)
       rw[ay]at Lv;refine ab ⟨rfl,rfl,rfl,?_⟩;refine aK (M:=M) (A:=RT.fd) (B:=RT.str) cx rfl rfl I9 (by decide) (Pn) rfl rfl (by decide) (by assumption) (by repeat (first|exact ao _ _|refine aX (bu (by assumption)) ?_)) (fun ael Ps=>?_);refine ab ⟨rfl,rfl,rfl,?_⟩;refine bR (M:=M) aF rfl rfl rfl rfl rfl Ps (ao _ _) (fun aem Pt=>?_);obtain rfl:=fF Pt;refine ab ⟨rfl,rfl,rfl,?_⟩;refine Rg.Hc (p:=y.1) (q:=z.1) rfl rfl rfl ?_;obtain rfl:x=z:=aH (Dd.symm.trans Lv);refine ab ⟨rfl,rfl,rfl,?_⟩;refine eZ ?_;refine bI rfl (fun Pu=>?_) (fun Pu=>?_)
       ·refine aj (ae (ah rfl rfl (ab (aQ ?_))));have Lw:((d.2.take i).any fun g=>decide (g.1=x.1))=true:=uF.2 ⟨y,az (i:=j) (by rw[cp,if_pos (by omega)];exact FH),by simpa using(by assumption)⟩;exact aV rfl rfl ⟨by rw[FG,kF,if_neg (by assumption),if_pos Lw],S.back⟩
       ·refine aT (ae (ad rfl rfl (bC rfl rfl rfl (by omega) (ah rfl rfl (ab ?_)))));refine⟨rfl,j+1,(.cons rfl (.cons rfl (.cons rfl (.cons rfl .nil)))),?_,?_⟩
        ·exact⟨hM,S,dw,by omega,fun k y' h hc=>by
          rcases cG k j with h2|h2
          ·exact kf k y' h2 hc
          ·obtain rfl:k=j:=by omega
           rw[FH]at hc;cases hc;assumption⟩
        ·omega
      ·refine cK (aj (ae ?_));refine aK (M:=M) (A:=RT.dc) (B:=(RT.fd).sl) bj rfl rfl uV (by decide) (IS) rfl rfl (by decide) (by assumption) (by repeat (first|exact ao _ _|refine aX (bu (by assumption)) ?_)) (fun ajZ aen=>?_);refine bR (M:=M) bz rfl rfl rfl rfl rfl (by assumption) (by repeat (first|exact ao _ _|refine aX (bu (by assumption)) ?_)) (fun aj0 Uc=>?_);refine ad rfl rfl ?_;refine cF (M:=M) bz kG rfl rfl rfl Uc (ao _ _) (by omega) (fun aj1 z Lx aeo=>?_);rw[ay]at Lx;refine aK (M:=M) (A:=RT.fd) (B:=RT.str) cx rfl rfl I9 (by decide) (WC) rfl rfl (by decide) (by assumption) (by repeat (first|exact ao _ _|refine aX (bu (by assumption)) ?_)) (fun aj2 Ud=>?_);refine bR (M:=M) aF rfl rfl rfl rfl rfl Ud (ao _ _) (fun aj3 Ue=>?_);obtain rfl:=fF Ue;obtain rfl:x=z:=aH (Dd.symm.trans Lx);refine aY rfl rfl ac5 (FD _ hM qd.2) (fun r15 w15 hc=>?_);obtain⟨⟨u15,rfl,aep⟩,pU⟩:=hc;replace dw:=dw.le (by decide) pU.le;replace hM:=pU.lt hM;have:=S.size;replace S:=S.aB pU;refine ad rfl rfl (bZ rfl rfl rfl (bZ rfl rfl rfl (ah rfl rfl (ah rfl rfl (ab (aj (aj (ae (ad rfl rfl (fD rfl rfl rfl (ab ?_)))))))))));refine bI rfl (fun WD=>?_) (fun WD=>?_)
       ·refine aj (ae (ad rfl rfl (ah rfl rfl (ab (aQ ?_)))))
        have Lw:((d.2.take i).any fun g=>decide (g.1=x.1))=false:=dr.2 fun h=>by
         obtain⟨y,hy,he⟩:=uF.1 h;obtain⟨k,hk⟩:=bB.1 hy;rw[cp]at hk
         split at hk
         ·exact kf k y (by omega) hk (by simpa using he)
         ·cases hk
        exact aV rfl rfl ⟨by rw[FG,kF,if_neg (by assumption),if_neg (by rw[Lw];simp),if_pos WD];rfl,S.back⟩
       ·refine aT (ae (ad rfl rfl ?_));have Rp:mB 0 (words x.2)=0:=Classical.not_not.1 WD;obtain⟨a,cap,rfl⟩:=aep Rp;have hwl:=qP x.2;refine ad rfl rfl (Rg.mq Tryz.underlying212 rfl rfl (bC rfl rfl rfl (by omega) (ah rfl rfl (ab (ae (ad rfl rfl (bC rfl rfl rfl (by omega) (ah rfl rfl (ab ?_)))))))))
        have Lw:((d.2.take i).any fun g=>decide (g.1=x.1))=false:=dr.2 fun h=>by
         obtain⟨y,hy,he⟩:=uF.1 h;obtain⟨k,hk⟩:=bB.1 hy;rw[cp]at hk
         split at hk
         ·exact kf k y (by omega) hk (by simpa using he)
         ·cases hk
        refine⟨rfl,(i+1,n+(words x.2).length),(.cons rfl (.cons rfl (.cons rfl .nil))),?_,?_⟩
        ·exact⟨hM,S,dw,by rw[FG,kF,if_neg (by assumption),if_neg (by rw[Lw];simp),if_neg WD],by dsimp only;omega,by dsimp only;omega,hd8⟩
        ·dsimp only;omega
   ·refine cK (aj (aj (ae (ad rfl rfl (iY rfl rfl rfl (ab ?_))))));refine bI rfl (fun c19=>?_) (fun c19=>?_)
    ·refine aj (ae (ah rfl rfl (ab (aQ ?_))));exact aV rfl rfl ⟨by rw[FG,tK (by omega),if_pos (by omega)],S.back⟩
    ·refine aT (aj (ae (ah rfl rfl (ab (aQ ?_)))));exact aV rfl rfl ⟨by rw[FG,tK (by omega),if_neg (by omega)],S.back⟩
def De:List (List UInt8):=[[116],[117],[118],[119]]
def fixF (i:Nat) (x:Fd):Fd:=(if gj x.1=true then x.1 else De.getD i [],x.2.take 40)
def oc (id:Int):Nat→List Fd→List Fd→List Fd
 |_,out,[]=>out
 |i,out,x::fs=>if i<4 then(if lT (id,out++[fixF i x])=0 then oc id (i+1) (out++[fixF i x]) fs else oc id (i+1) out fs)else out
def pK (d:Dc):Dc:=(d.1,oc d.1 0 [] d.2)
def sO (l:List Fd):Prop:=∀x∈l,x.1.length≤12∧x.2.length≤40
theorem Df {s:List UInt8} (h:gj s=true):s.length≤12:=by
 simp only[gj,bW,decide_eq_true_eq]at h;omega
theorem yk {i:Nat} (x:Fd) (hi:i<4):(fixF i x).1.length≤12∧(fixF i x).2.length≤40:=by
 refine⟨?_,by simp only[fixF,bg];omega⟩;unfold fixF;dsimp only
 split
 ·exact Df (by assumption)
 ·have h:i=0∨i=1∨i=2∨i=3:=by omega
  rcases h with rfl|rfl|rfl|rfl<;>decide
theorem sO.snoc {l:List Fd} {x:Fd} (h:sO l) (hx:x.1.length≤12∧x.2.length≤40):sO (l++[x]):=fun y hy=>by
 rcases ch.1 hy with hy|hy
 ·exact h y hy
 ·rw[bJ.1 hy];exact hx
theorem Ly {id:Int} {fs:List Fd} {i:Nat} {out:List Fd} {x:Fd} (h:fs[i]? =some x) (hi:i<4):oc id i out (fs.drop i)=if lT (id,out++[fixF i x])=0 then oc id (i+1) (out++[fixF i x]) (fs.drop (i+1))else oc id (i+1) out (fs.drop (i+1)):=by
 have dV:=(an.1 h).1;rw[dG dV,(an.1 h).2];show(if i<4 then _ else _)=_;rw[if_pos hi]
theorem Ax {id:Int} {fs:List Fd} {i:Nat} {out:List Fd} (h:fs.length≤i∨4≤i):oc id i out (fs.drop i)=out:=by
 cases hd:fs.drop i with
 |nil=>rfl
 |cons x r=>
  show(if i<4 then _ else _)=_;rw[if_neg];rcases h with h|h
  ·rw[gM h]at hd;cases hd
  ·omega
theorem Dg (l:List UInt8):l.take (min (l.length:Int) 40).toNat=l.take 40:=by
 by_cases h:l.length≤40
 ·rw[aW (by omega),aW h]
 ·congr 1;omega
theorem IW {M:aD} {d:Dc} {v0:Value} (w0:World) (hM:Lt M w0) (hv:RT.dc.V M w0 d v0):
  Spec Tryz.prog 44 #[v0] w0 (fun v w=>RT.dc.V M w (pK d) v∧Step M w0 M w aC):=by
 have kR:=hM
 have hdi: -9223372036854775808≤d.1∧d.1≤9223372036854775807:=by
  obtain⟨vs,⟨va,vb,_,⟨_,h1,h2⟩,_⟩,_⟩:=hv;exact⟨h1,h2⟩
 refine bm (args:=[_]) (fn:=Tryz.f44) Tryz.func44 rfl (n:=67) Tryz.ntmps44 ?_;have S:Step M w0 M w0 aC:=(ax _ _).cH (fun _ h=>h.elim) (fun _ h=>h.elim);refine aj (ae ?_);refine nP (A:=RT.dc) rfl rfl hM hv rfl (fun u0 w1 dw s0 _=>?_);replace hM:=s0.lt hM;have:=S.size;replace S:=S.aB s0;refine eE M oY rfl (fun o6 FI Uf Ug fW ny=>?_);obtain⟨fw,mD⟩:∃M',M'=ins M o6:=⟨_,rfl⟩;rw[←mD]at ny;have fh:fw o6:=by rw[mD];exact .inl rfl
 change FI.heap[o6]? =some (.cells #[.int .i64 0,.slice none 0 0] _ _)at fW;replace dw:=dw.le (by decide) ny.le;replace hM:=ny.lt hM;have:=S.size;replace S:=S.aB ny;refine ab (aj (ae ?_));refine aK (M:=fw) (A:=RT.dc) (B:=RT.int .i64) bj rfl rfl I3 (by decide) (X5) rfl rfl (by decide) (by assumption) (by repeat (first|exact ao _ _|refine aX (bu (by assumption)) ?_)) (fun zF lK=>?_);refine cd (M:=fw) aw rfl rfl (by assumption) (by repeat (first|exact ao _ _|refine aX (bu (by assumption)) ?_)) (fun Ru=>?_);refine iS (places:=[(0,1),(1,1)]) bj oY B69 rfl ⟨_,_,rfl,rfl,rfl⟩ (out:=[_,.slice none 0 0]) ⟨0,[_],rfl,rfl,by simp[Value.cells],rfl⟩ ?_;refine eE fw oY rfl (fun wZ IM aeq aer lv s1_3=>?_);obtain⟨na,ym⟩:∃M',M'=ins fw wZ:=⟨_,rfl⟩;rw[←ym]at s1_3;have jX:na wZ:=by rw[ym];exact .inl rfl
 change IM.heap[wZ]? =some (.cells #[.int .i64 0,.slice none 0 0] _ _)at lv;have:=ak fW;replace fh:=(s1_3.mem _ this).2 fh;replace fW:=s1_3.aM fW;replace dw:=dw.le (by decide) s1_3.le;replace hM:=s1_3.lt hM;have:=S.size;replace S:=S.aB s1_3;refine eG (M:=na) (vs:=[.int .i64 d.1,.slice none 0 0]) oY rfl rfl (by intro u hu;simp at hu;rcases hu with rfl|rfl<;>first|rfl|exact pI (by assumption) rfl rfl) rfl rfl lv jX (fun w1b aes Uh=>?_);have:=ak fW;replace fh:=(Uh.mem _ this).2 fh;replace fW:=Uh.keep fW (fun hk=>by have hk:_=_:=hk;omega);have:=ak lv;replace jX:=(Uh.mem _ this).2 jX;replace dw:=dw.le (by decide) Uh.le;replace hM:=Uh.lt hM;have:=S.size;replace S:=S.trans Uh (fun k hk h=>by have h:_=_:=h;subst h;first|(exfalso;omega)|(show _≤_;omega)|exact⟨by first|omega|assumption,(S.mem _ hk).1 ((Uh.mem _ (ak lv)).1 jX)⟩|exact .inl rfl|exact .inr rfl|exact .inr (.inl rfl)|exact .inr (.inr rfl)|exact .inr (.inr (.inl rfl))|exact rfl);have Dh:=aes;clear lv;have lv:=Dh;clear Dh;refine ab (aj (ae ?_));refine Rg.Wr (A:=RT.str) (hn:=by decide) (M:=na) (xs:=De) aS I9 rfl (by decide) rfl ⟨_,_,_,rfl,rfl,rfl,kI.2 ⟨rfl,by decide⟩,_,_,_,rfl,rfl,rfl,kI.2 ⟨rfl,by decide⟩,_,_,_,rfl,rfl,rfl,kI.2 ⟨rfl,by decide⟩,_,_,_,rfl,rfl,rfl,kI.2 ⟨rfl,by decide⟩,rfl⟩ rfl hM (.inr ⟨rfl,rfl⟩) (by decide) (fun u2 w2 dM s2=>?_);have:=ak fW;replace fh:=(s2.mem _ this).2 fh;replace fW:=s2.aM fW;have:=ak lv;replace jX:=(s2.mem _ this).2 jX;replace lv:=s2.aM lv;replace dw:=dw.le (by decide) s2.le;replace hM:=s2.lt hM;have:=S.size;replace S:=S.aB s2;refine ah rfl rfl (ab (aj (aj (ae (ah rfl rfl (ab (aZ ?_)))))));refine dn (σ:=Nat×List Fd) (fun q=>[(1,u0),(2,.pointer (some ⟨o6,0,none⟩)),(3,.pointer (some ⟨wZ,0,none⟩)),(4,u2),(5,.int .i64 (q.1:Int))]) (fun q w=>∃M' uo,Lt M' w∧Step M w0 M' w aC∧cQ RT.dc M' w u0 d∧(RT.str.sl).V M' w De u2∧w.heap[o6]? =some (.cells #[.int .i64 0,.slice none 0 0] 69 (0,0))∧M' o6∧w.heap[wZ]? =some (.cells #[.int .i64 d.1,uo] 69 (0,0))∧M' wZ∧(RT.fd.sl).V M' w q.2 uo∧oc d.1 0 [] d.2=oc d.1 q.1 q.2 (d.2.drop q.1)∧q.1≤d.2.length∧q.1≤4∧sO q.2∧q.2.length≤q.1) (fun q=>d.2.length-q.1) (0,[]) (.cons rfl (.cons rfl (.cons rfl (.cons rfl (.cons rfl .nil))))) ?_ ?_
 ·exact⟨_,.slice none 0 0,hM,S,dw,dM,fW,fh,lv,jX,pB,rfl,bD _,bD _,(fun x hx=>by cases hx),aN _⟩
 ·rintro⟨i,out⟩ w ⟨M1,uo,hM,S,dw,dM,g2,dI,g3,fg,fx,pT,hi,aet,A7,fB⟩;dsimp only at g3 fx pT hi aet A7 fB ⊢;refine aj (aj (ae (ad rfl rfl ?_)));refine aK (M:=M1) (A:=RT.dc) (B:=(RT.fd).sl) bj rfl rfl uV (by decide) (IS) rfl rfl (by decide) (by assumption) (by repeat (first|exact ao _ _|refine aX (bu (by assumption)) ?_)) (fun X0 Ye=>?_);refine bR (M:=M1) bz rfl rfl rfl rfl rfl (by assumption) (by repeat (first|exact ao _ _|refine aX (bu (by assumption)) ?_)) (fun an7 Yf=>?_);refine bQ bz rfl Yf rfl (cg rfl rfl rfl (ad rfl rfl ?_));refine aR (g:=18) rfl (fun Ui=>?_) (fun Ui=>?_)
  ·refine al rfl rfl (ad rfl rfl (al rfl rfl (cg rfl rfl rfl (a8 rfl rfl rfl (ab ?_)))));refine bI rfl (fun c4=>?_) (fun c4=>?_)
   ·refine aT (aj (aZ (aj (ae ?_))));refine aK (M:=M1) (A:=RT.dc) (B:=(RT.fd).sl) bj rfl rfl uV (by decide) (IS) rfl rfl (by decide) (by assumption) (by repeat (first|exact ao _ _|refine aX (bu (by assumption)) ?_)) (fun Yg Lz=>?_);refine bR (M:=M1) bz rfl rfl rfl rfl rfl (by assumption) (by repeat (first|exact ao _ _|refine aX (bu (by assumption)) ?_)) (fun Uj yn=>?_);refine ad rfl rfl ?_;refine cF (M:=M1) bz kG rfl rfl rfl yn (ao _ _) (by omega) (fun u6 x JV IN=>?_);rw[ay]at JV;have W0:i<4:=by omega
    have hga:=Ly (id:=d.1) (out:=out) JV W0;have Rv:=yk x W0;refine cN (M:=M1) (A:=RT.fd) cx rfl kG (by decide) rfl rfl rfl IN (ao _ _) (fun v6 sN=>?_);obtain rfl:=nw sN;have hxb:=Ll sN;refine eE M1 kG rfl (fun Uk aeu an9 aoa dO zH=>?_);obtain⟨mE,LA⟩:∃M',M'=ins M1 Uk:=⟨_,rfl⟩;rw[←LA]at zH;have dp:mE Uk:=by rw[LA];exact .inl rfl
    change aeu.heap[Uk]? =some (.cells #[.string ⟨#[]⟩,.string ⟨#[]⟩] _ _)at dO;have:=ak g2;replace dI:=(zH.mem _ this).2 dI;replace g2:=zH.aM g2;have:=ak g3;replace fg:=(zH.mem _ this).2 fg;replace g3:=zH.aM g3;replace dw:=dw.le (by decide) zH.le;replace dM:=dM.le zH.le;replace fx:=fx.le zH.le;replace hM:=zH.lt hM;have:=S.size;replace S:=S.aB zH;refine eG (M:=mE) (vs:=[.string ⟨x.1.toArray⟩,.string ⟨x.2.toArray⟩]) kG rfl rfl (by intro u hu;simp at hu;rcases hu with rfl|rfl<;>first|rfl|exact pI (by assumption) rfl rfl) rfl rfl dO dp (fun w6b aev LB=>?_);have:=ak g2;replace dI:=(LB.mem _ this).2 dI;replace g2:=LB.keep g2 (fun hk=>by have hk:_=_:=hk;omega);have:=ak g3;replace fg:=(LB.mem _ this).2 fg;replace g3:=LB.keep g3 (fun hk=>by have hk:_=_:=hk;omega);have:=ak dO;replace dp:=(LB.mem _ this).2 dp;replace dw:=dw.le (by decide) LB.le;replace dM:=dM.le LB.le;replace fx:=fx.le LB.le;replace hM:=LB.lt hM;have:=S.size;replace S:=S.trans LB (fun k hk h=>by have h:_=_:=h;subst h;first|(exfalso;omega)|(show _≤_;omega)|exact⟨by first|omega|assumption,(S.mem _ hk).1 ((LB.mem _ (ak dO)).1 dp)⟩|exact .inl rfl|exact .inr rfl|exact .inr (.inl rfl)|exact .inr (.inr rfl)|exact .inr (.inr (.inl rfl))|exact rfl);have qz:=aev;clear dO;have dO:=qz;clear qz;refine ab (aj (ae (bK (o':=0) cx rfl rfl I9 (by decide) rfl rfl (aP aF rfl rfl rfl (by assumption) rfl ?_))));refine aY rfl rfl E93 (yj x.1 hxb.1 _) (fun r7 w7 hc=>?_);obtain⟨rfl,rfl⟩:=hc;refine ah rfl rfl (ab (aj (aj (ae (ad rfl rfl (mO rfl rfl (aU (v':= .bool (decide (gj x.1=false))) (by cases gj x.1<;>rfl) (ab ?_))))))));refine bI rfl (fun c8=>?_) (fun c8=>?_)
    ·refine ae (ad rfl rfl (ad rfl rfl ?_));refine cF (M:=mE) aS I9 rfl rfl rfl dM (ao _ _) (by have:De.length=4:=rfl;omega) (fun u9 y Rw Yh=>?_);rw[ay]at Rw;refine bR (M:=mE) aF rfl rfl rfl rfl rfl Yh (ao _ _) (fun v9 IX=>?_);obtain rfl:=fF IX
     obtain rfl:y=(fixF i x).1:=by
      show y=if gj x.1=true then x.1 else De.getD i []
      rw[if_neg (by rw[c8];simp),aA,Rw];rfl
     refine bK (o':=0) cx rfl rfl I9 (by decide) rfl rfl ?_;refine cw (M:=mE) I9 rfl rfl dO rfl (rfl) dp (fun X1 Yi qy=>?_);change X1.heap[_]? =some (Obj.cells #[.string ⟨((fixF i x).1).toArray⟩,.string ⟨x.2.toArray⟩] _ _)at Yi;have:=ak g2;replace dI:=(qy.mem _ this).2 dI;replace g2:=qy.keep g2 (fun hk=>by have hk:_=_:=hk;omega);have:=ak g3;replace fg:=(qy.mem _ this).2 fg;replace g3:=qy.keep g3 (fun hk=>by have hk:_=_:=hk;omega);have:=ak dO;replace dp:=(qy.mem _ this).2 dp;replace dw:=dw.le (by decide) qy.le;replace dM:=dM.le qy.le;replace fx:=fx.le qy.le;replace hM:=qy.lt hM;have:=S.size;replace S:=S.trans qy (fun k hk h=>by have h:_=_:=h;subst h;first|(exfalso;omega)|(show _≤_;omega)|exact⟨by first|omega|assumption,(S.mem _ hk).1 ((qy.mem _ (ak dO)).1 dp)⟩|exact .inl rfl|exact .inr rfl|exact .inr (.inl rfl)|exact .inr (.inr rfl)|exact .inr (.inr (.inl rfl))|exact rfl);have qz:=Yi;clear dO;have dO:=qz;clear qz;refine ab (aj (ae (bK (o':=1) cx rfl rfl I9 (by decide) rfl rfl (aP aF rfl rfl rfl (by assumption) rfl (bK (o':=1) cx rfl rfl I9 (by decide) rfl rfl (aP aF rfl rfl rfl (by assumption) rfl (Rg.nq aF rfl rfl (aU (v':= .int .i64 (x.2.length:Int)) (by simp[ByteArray.size]) (Rg.min2 rfl rfl rfl (Rg.Rc aF rfl rfl rfl (by omega) (aU (v':= .string ⟨((fixF i x).2).toArray⟩) (by rw[Dg];rfl) ?_)))))))))));refine bK (o':=1) cx rfl rfl I9 (by decide) rfl rfl ?_;refine cw (M:=mE) I9 rfl rfl dO rfl (rfl) dp (fun Hw Dj gL=>?_);change Hw.heap[_]? =some (Obj.cells #[.string ⟨((fixF i x).1).toArray⟩,.string ⟨((fixF i x).2).toArray⟩] _ _)at Dj;have:=ak g2;replace dI:=(gL.mem _ this).2 dI;replace g2:=gL.keep g2 (fun hk=>by have hk:_=_:=hk;omega)
     have:=ak g3;replace fg:=(gL.mem _ this).2 fg;replace g3:=gL.keep g3 (fun hk=>by have hk:_=_:=hk;omega);have:=ak dO;replace dp:=(gL.mem _ this).2 dp;replace dw:=dw.le (by decide) gL.le;replace dM:=dM.le gL.le;replace fx:=fx.le gL.le;replace hM:=gL.lt hM;have:=S.size;replace S:=S.trans gL (fun k hk h=>by have h:_=_:=h;subst h;first|(exfalso;omega)|(show _≤_;omega)|exact⟨by first|omega|assumption,(S.mem _ hk).1 ((gL.mem _ (ak dO)).1 dp)⟩|exact .inl rfl|exact .inr rfl|exact .inr (.inl rfl)|exact .inr (.inr rfl)|exact .inr (.inr (.inl rfl))|exact rfl);have qz:=Dj;clear dO;have dO:=qz;clear qz;refine ab (aj (ae ?_));refine aK (M:=mE) (A:=RT.dc) (B:=RT.int .i64) bj rfl rfl I3 (by decide) (X5) rfl rfl (by decide) (by assumption) (by repeat (first|exact ao _ _|refine aX (bu (by assumption)) ?_)) (fun Rx LC=>?_);refine cd (M:=mE) aw rfl rfl (by assumption) (by repeat (first|exact ao _ _|refine aX (bu (by assumption)) ?_)) (fun Ul=>?_);refine iS (places:=[(0,1),(1,1)]) bj oY B69 rfl ⟨_,_,rfl,rfl,rfl⟩ (out:=[_,.slice none 0 0]) ⟨0,[_],rfl,rfl,by simp[Value.cells],rfl⟩ ?_;refine eE mE oY rfl (fun yo Dk Yj Yk db fG=>?_);obtain⟨sT,tL⟩:∃M',M'=ins mE yo:=⟨_,rfl⟩;rw[←tL]at fG;have cU:sT yo:=by rw[tL];exact .inl rfl
     change Dk.heap[yo]? =some (.cells #[.int .i64 0,.slice none 0 0] _ _)at db;have:=ak g2;replace dI:=(fG.mem _ this).2 dI;replace g2:=fG.aM g2;have:=ak g3;replace fg:=(fG.mem _ this).2 fg;replace g3:=fG.aM g3;have:=ak dO;replace dp:=(fG.mem _ this).2 dp;replace dO:=fG.aM dO;replace dw:=dw.le (by decide) fG.le;replace dM:=dM.le fG.le;replace fx:=fx.le fG.le;replace hM:=fG.lt hM;have:=S.size;replace S:=S.aB fG;refine eG (M:=sT) (vs:=[.int .i64 d.1,.slice none 0 0]) oY rfl rfl (by intro u hu;simp at hu;rcases hu with rfl|rfl<;>first|rfl|exact pI (by assumption) rfl rfl) rfl rfl db cU (fun By LD kT=>?_);have:=ak g2;replace dI:=(kT.mem _ this).2 dI;replace g2:=kT.keep g2 (fun hk=>by have hk:_=_:=hk;omega);have:=ak g3;replace fg:=(kT.mem _ this).2 fg;replace g3:=kT.keep g3 (fun hk=>by have hk:_=_:=hk;omega);have:=ak dO;replace dp:=(kT.mem _ this).2 dp;replace dO:=kT.keep dO (fun hk=>by have hk:_=_:=hk;omega);have:=ak db;replace cU:=(kT.mem _ this).2 cU;replace dw:=dw.le (by decide) kT.le;replace dM:=dM.le kT.le;replace fx:=fx.le kT.le;replace hM:=kT.lt hM;have:=S.size;replace S:=S.trans kT (fun k hk h=>by have h:_=_:=h;subst h;first|(exfalso;omega)|(show _≤_;omega)|exact⟨by first|omega|assumption,(S.mem _ hk).1 ((kT.mem _ (ak db)).1 cU)⟩|exact .inl rfl|exact .inr rfl|exact .inr (.inl rfl)|exact .inr (.inr rfl)|exact .inr (.inr (.inl rfl))|exact rfl);have jk:=LD;clear db;have db:=jk;clear jk;refine ab (aj (ae (bK (o':=1) bj rfl rfl uV (by decide) rfl rfl (aP bz rfl rfl rfl (by assumption) rfl (bK (o':=1) bj rfl rfl uV (by decide) rfl rfl (aP bz rfl rfl rfl (by assumption) rfl ?_))))));have dC:=Own.Rn RT.fd 166 By.heap.size hM
     have aew:=ak dO;have LF:w0.heap.size≤By.heap.size:=S.size;refine dd (M:=sT) (base:=By.heap.size) bz kG rfl rfl rfl rfl dC fx (ao _ _) (by simp;omega) (by simp;omega) (aN _) (fun yh qx Lg sM ff=>?_);have:=ak g2;replace dI:=(ff.mem _ this).2 dI;replace g2:=ff.keep g2 (fun h=>by first|exact dC.ek g2 h|exact dC.eO g2 (by decide) h|(have:=(dC.base _ h).1;omega));have:=ak g3;replace fg:=(ff.mem _ this).2 fg;replace g3:=ff.keep g3 (fun h=>by first|exact dC.ek g3 h|exact dC.eO g3 (by decide) h|(have:=(dC.base _ h).1;omega));have:=ak dO;replace dp:=(ff.mem _ this).2 dp;replace dO:=ff.keep dO (fun h=>by first|exact dC.ek dO h|exact dC.eO dO (by decide) h|(have:=(dC.base _ h).1;omega));have:=ak db;replace cU:=(ff.mem _ this).2 cU;replace db:=ff.keep db (fun h=>by first|exact dC.ek db h|exact dC.eO db (by decide) h|(have:=(dC.base _ h).1;omega));replace dw:=dw.le (by decide) ff.le;replace dM:=dM.le ff.le;replace fx:=fx.le ff.le;replace hM:=ff.lt hM;have:=S.size;replace S:=S.dg ff dC LF;replace dC:=sM;refine bK (o':=1) bj rfl rfl uV (by decide) rfl rfl ?_;refine cw (M:=qx) uV rfl rfl db rfl ((by obtain⟨_,_,he,_⟩:=dC.isSlice;rw[he];rfl)) cU (fun LG Dl gC=>?_);change LG.heap[_]? =some (Obj.cells #[.int .i64 d.1,yh] _ _)at Dl;have:=ak g2;replace dI:=(gC.mem _ this).2 dI;replace g2:=gC.keep g2 (fun hk=>by have hk:_=_:=hk;omega);have:=ak g3;replace fg:=(gC.mem _ this).2 fg;replace g3:=gC.keep g3 (fun hk=>by have hk:_=_:=hk;omega);have:=ak dO;replace dp:=(gC.mem _ this).2 dp;replace dO:=gC.keep dO (fun hk=>by have hk:_=_:=hk;omega);have:=ak db;replace cU:=(gC.mem _ this).2 cU
     replace dw:=dw.le (by decide) gC.le;replace dM:=dM.le gC.le;replace fx:=fx.le gC.le;replace dC:=dC.step gC (fun b hb hk=>by have hk:_=_:=hk;have:=(dC.base b hb);omega);replace hM:=gC.lt hM;have:=S.size;replace S:=S.trans gC (fun k hk h=>by have h:_=_:=h;subst h;first|(exfalso;omega)|(show _≤_;omega)|exact⟨by first|omega|assumption,(S.mem _ hk).1 ((gC.mem _ (ak db)).1 cU)⟩|exact .inl rfl|exact .inr rfl|exact .inr (.inl rfl)|exact .inr (.inr rfl)|exact .inr (.inr (.inl rfl))|exact rfl);have jk:=Dl;clear db;have db:=jk;clear jk;refine ab (aj (ae (bK (o':=1) bj rfl rfl uV (by decide) rfl rfl (aP bz rfl rfl rfl (by assumption) rfl (iK (vs:=[.string ⟨((fixF i x).1).toArray⟩,.string ⟨((fixF i x).2).toArray⟩]) cx rfl kG rfl rfl rfl dO ?_)))));refine ep (A:=RT.fd) (hn:=by decide) (M:=qx) bz kG (by decide) rfl rfl hM (show RT.fd.V _ _ (fixF i x) _ from fe (kI.2 ⟨rfl,dW Rv.1 (by decide)⟩) (kI.2 ⟨rfl,dW Rv.2 (by decide)⟩) rfl rfl rfl rfl) (.inl rfl) (fun Rs Yl fV gD=>?_);have:=ak g2;replace dI:=(gD.mem _ this).2 dI;replace g2:=gD.aM g2;have:=ak g3;replace fg:=(gD.mem _ this).2 fg;replace g3:=gD.aM g3;have:=ak dO;replace dp:=(gD.mem _ this).2 dp;replace dO:=gD.aM dO;have:=ak db;replace cU:=(gD.mem _ this).2 cU;replace db:=gD.aM db;replace dw:=dw.le (by decide) gD.le;replace dM:=dM.le gD.le;replace fx:=fx.le gD.le;replace dC:=dC.aL gD;replace hM:=gD.lt hM;have:=S.size;replace S:=S.aB gD;refine dd (M:=qx) (base:=By.heap.size) bz kG rfl rfl rfl rfl dC fV (ao _ _) (by simp;omega) (by simp;omega) (by have:=ff.size;have:=gC.size;have:=gD.size;omega) (fun fO mF LH FJ eh=>?_)
     have:=ak g2;replace dI:=(eh.mem _ this).2 dI;replace g2:=eh.keep g2 (fun h=>by first|exact dC.ek g2 h|exact dC.eO g2 (by decide) h|(have:=(dC.base _ h).1;omega));have:=ak g3;replace fg:=(eh.mem _ this).2 fg;replace g3:=eh.keep g3 (fun h=>by first|exact dC.ek g3 h|exact dC.eO g3 (by decide) h|(have:=(dC.base _ h).1;omega));have:=ak dO;replace dp:=(eh.mem _ this).2 dp;replace dO:=eh.keep dO (fun h=>by first|exact dC.ek dO h|exact dC.eO dO (by decide) h|(have:=(dC.base _ h).1;omega));have:=ak db;replace cU:=(eh.mem _ this).2 cU;replace db:=eh.keep db (fun h=>by first|exact dC.ek db h|exact dC.eO db (by decide) h|(have:=(dC.base _ h).1;omega));replace dw:=dw.le (by decide) eh.le;replace dM:=dM.le eh.le;replace fx:=fx.le eh.le;replace fV:=fV.le eh.le;replace hM:=eh.lt hM;have:=S.size;replace S:=S.dg eh dC LF;replace dC:=FJ;refine bK (o':=1) bj rfl rfl uV (by decide) rfl rfl ?_;refine cw (M:=mF) uV rfl rfl db rfl ((by obtain⟨_,_,he,_⟩:=dC.isSlice;rw[he];rfl)) cU (fun LI Dm gE=>?_);change LI.heap[_]? =some (Obj.cells #[.int .i64 d.1,fO] _ _)at Dm;have:=ak g2;replace dI:=(gE.mem _ this).2 dI;replace g2:=gE.keep g2 (fun hk=>by have hk:_=_:=hk;omega);have:=ak g3;replace fg:=(gE.mem _ this).2 fg;replace g3:=gE.keep g3 (fun hk=>by have hk:_=_:=hk;omega);have:=ak dO;replace dp:=(gE.mem _ this).2 dp;replace dO:=gE.keep dO (fun hk=>by have hk:_=_:=hk;omega);have:=ak db;replace cU:=(gE.mem _ this).2 cU;replace dw:=dw.le (by decide) gE.le;replace dM:=dM.le gE.le;replace fx:=fx.le gE.le;replace fV:=fV.le gE.le;replace dC:=dC.step gE (fun b hb hk=>by have hk:_=_:=hk;have:=(dC.base b hb);omega);replace hM:=gE.lt hM
     have:=S.size;replace S:=S.trans gE (fun k hk h=>by have h:_=_:=h;subst h;first|(exfalso;omega)|(show _≤_;omega)|exact⟨by first|omega|assumption,(S.mem _ hk).1 ((gE.mem _ (ak db)).1 cU)⟩|exact .inl rfl|exact .inr rfl|exact .inr (.inl rfl)|exact .inr (.inr rfl)|exact .inr (.inr (.inl rfl))|exact rfl);have jk:=Dm;clear db;have db:=jk;clear jk;refine ab (aj (ae (iK (vs:=[.int .i64 d.1,fO]) bj rfl oY rfl rfl rfl db ?_)));have rQ:=dC.view (hn:=by decide) (by simp;omega);replace dI:rm mF fO _:=⟨dI,by first|exact dC.eO g2 (by decide)|(intro h;have:=(dC.base _ h).1;omega)⟩;replace fg:rm mF fO _:=⟨fg,by first|exact dC.eO g3 (by decide)|(intro h;have:=(dC.base _ h).1;omega)⟩;replace dp:rm mF fO _:=⟨dp,by first|exact dC.eO dO (by decide)|(intro h;have:=(dC.base _ h).1;omega)⟩;replace cU:rm mF fO _:=⟨cU,by first|exact dC.eO db (by decide)|(intro h;have:=(dC.base _ h).1;omega)⟩;replace dw:=dw.le (by decide) (eK _ fO _);replace dM:=dM.le (eK _ fO _);replace fx:=fx.le (eK _ fO _);replace fV:=fV.le (eK _ fO _);replace hM:Lt (rm mF fO) _:=fun b hb=>hM b hb.1
     replace S:=S.freeze (v:=fO) (fun b hb=>by have:=(dC.base b hb).1;omega);clear dC;refine aY rfl rfl E94 (Aw (d:=(d.1,[]++out++[fixF i x])) _ hM (fe (fY hdi) rQ rfl rfl rfl rfl) (fun y hy=>by have:=(A7.snoc Rv) y (by simpa using hy);omega)) (fun r14 Um hc=>?_);obtain⟨rfl,jY⟩:=hc;rw[fQ]at rQ;have:=ak g2;replace dI:=(jY.mem _ this).2 dI;replace g2:=jY.aM g2;have:=ak g3;replace fg:=(jY.mem _ this).2 fg;replace g3:=jY.aM g3;have:=ak dO;replace dp:=(jY.mem _ this).2 dp;replace dO:=jY.aM dO;have:=ak db;replace cU:=(jY.mem _ this).2 cU;replace db:=jY.aM db;replace dw:=dw.le (by decide) jY.le;replace dM:=dM.le jY.le;replace fx:=fx.le jY.le;replace fV:=fV.le jY.le;replace rQ:=rQ.le jY.le;replace hM:=jY.lt hM;have:=S.size;replace S:=S.aB jY;refine qZ rfl rfl rfl (aU (v':= .bool (decide (lT (d.1,out++[fixF i x])=0))) (by rw[fQ]) (ab ?_));refine bI rfl (fun JX=>?_) (fun JX=>?_)
     ·refine ae (iK (vs:=[.int .i64 d.1,fO]) bj rfl oY rfl rfl rfl db ?_);refine eG (M:=rm mF fO) (vs:=[.int .i64 d.1,fO]) oY rfl rfl (by intro u hu;simp at hu;rcases hu with rfl|rfl<;>first|rfl|exact pI (by assumption) rfl rfl) rfl rfl g3 fg (fun aex LJ jZ=>?_);have:=ak g2;replace dI:=(jZ.mem _ this).2 dI;replace g2:=jZ.keep g2 (fun hk=>by have hk:_=_:=hk;omega);have:=ak g3;replace fg:=(jZ.mem _ this).2 fg;have:=ak dO;replace dp:=(jZ.mem _ this).2 dp;replace dO:=jZ.keep dO (fun hk=>by have hk:_=_:=hk;omega);have:=ak db;replace cU:=(jZ.mem _ this).2 cU;replace db:=jZ.keep db (fun hk=>by have hk:_=_:=hk;omega);replace dw:=dw.le (by decide) jZ.le;replace dM:=dM.le jZ.le;replace fx:=fx.le jZ.le;replace fV:=fV.le jZ.le;replace rQ:=rQ.le jZ.le;replace hM:=jZ.lt hM;have:=S.size;replace S:=S.trans jZ (fun k hk h=>by have h:_=_:=h;subst h;first|(exfalso;omega)|(show _≤_;omega)|exact⟨by first|omega|assumption,(S.mem _ hk).1 ((jZ.mem _ (ak g3)).1 fg)⟩|exact .inl rfl|exact .inr rfl|exact .inr (.inl rfl)|exact .inr (.inr rfl)|exact .inr (.inr (.inl rfl))|exact rfl);have Ym:=LJ;clear g3;have g3:=Ym;clear Ym;refine ab (ae (ad rfl rfl (bC rfl rfl rfl (by omega) (ah rfl rfl (ab ?_)))));refine⟨rfl,(i+1,out++[fixF i x]),(.cons rfl (.cons rfl (.cons rfl (.cons rfl (.cons rfl .nil))))),?_,?_⟩
      ·exact⟨_,_,hM,S,dw,dM,g2,dI,g3,fg,rQ,by rw[pT,hga,if_pos JX],by dsimp only;omega,by dsimp only;omega,A7.snoc Rv,by simp;omega⟩
      ·dsimp only;omega
     ·refine aT (ae (ad rfl rfl (bC rfl rfl rfl (by omega) (ah rfl rfl (ab ?_)))));refine⟨rfl,(i+1,out),(.cons rfl (.cons rfl (.cons rfl (.cons rfl (.cons rfl .nil))))),?_,?_⟩
      ·exact⟨_,_,hM,S,dw,dM,g2,dI,g3,fg,fx,by rw[pT,hga,if_neg JX],by dsimp only;omega,by dsimp only;omega,A7,by dsimp only;omega⟩
      ·dsimp only;omega
    ·rw[show x.1=(fixF i x).1 from by show x.1=if gj x.1=true then x.1 else _;rw[if_pos (by cases hq:gj x.1 with|true=>rfl|false=>exact absurd hq c8)]]at dO;refine aT (aj (ae (bK (o':=1) cx rfl rfl I9 (by decide) rfl rfl (aP aF rfl rfl rfl (by assumption) rfl (bK (o':=1) cx rfl rfl I9 (by decide) rfl rfl (aP aF rfl rfl rfl (by assumption) rfl (Rg.nq aF rfl rfl (aU (v':= .int .i64 (x.2.length:Int)) (by simp[ByteArray.size]) (Rg.min2 rfl rfl rfl (Rg.Rc aF rfl rfl rfl (by omega) (aU (v':= .string ⟨((fixF i x).2).toArray⟩) (by rw[Dg];rfl) ?_)))))))))));refine bK (o':=1) cx rfl rfl I9 (by decide) rfl rfl ?_;refine cw (M:=mE) I9 rfl rfl dO rfl (rfl) dp (fun Hw Dj gL=>?_);change Hw.heap[_]? =some (Obj.cells #[.string ⟨((fixF i x).1).toArray⟩,.string ⟨((fixF i x).2).toArray⟩] _ _)at Dj;have:=ak g2;replace dI:=(gL.mem _ this).2 dI;replace g2:=gL.keep g2 (fun hk=>by have hk:_=_:=hk;omega);have:=ak g3;replace fg:=(gL.mem _ this).2 fg;replace g3:=gL.keep g3 (fun hk=>by have hk:_=_:=hk;omega);have:=ak dO;replace dp:=(gL.mem _ this).2 dp;replace dw:=dw.le (by decide) gL.le;replace dM:=dM.le gL.le;replace fx:=fx.le gL.le;replace hM:=gL.lt hM;have:=S.size;replace S:=S.trans gL (fun k hk h=>by have h:_=_:=h;subst h;first|(exfalso;omega)|(show _≤_;omega)|exact⟨by first|omega|assumption,(S.mem _ hk).1 ((gL.mem _ (ak dO)).1 dp)⟩|exact .inl rfl|exact .inr rfl|exact .inr (.inl rfl)|exact .inr (.inr rfl)|exact .inr (.inr (.inl rfl))|exact rfl);have qz:=Dj;clear dO;have dO:=qz;clear qz;refine ab (aj (ae ?_));refine aK (M:=mE) (A:=RT.dc) (B:=RT.int .i64) bj rfl rfl I3 (by decide) (X5) rfl rfl (by decide) (by assumption) (by repeat (first|exact ao _ _|refine aX (bu (by assumption)) ?_)) (fun Rx LC=>?_)
     refine cd (M:=mE) aw rfl rfl (by assumption) (by repeat (first|exact ao _ _|refine aX (bu (by assumption)) ?_)) (fun Ul=>?_);refine iS (places:=[(0,1),(1,1)]) bj oY B69 rfl ⟨_,_,rfl,rfl,rfl⟩ (out:=[_,.slice none 0 0]) ⟨0,[_],rfl,rfl,by simp[Value.cells],rfl⟩ ?_;refine eE mE oY rfl (fun yo Dk Yj Yk db fG=>?_);obtain⟨sT,tL⟩:∃M',M'=ins mE yo:=⟨_,rfl⟩;rw[←tL]at fG;have cU:sT yo:=by rw[tL];exact .inl rfl
     change Dk.heap[yo]? =some (.cells #[.int .i64 0,.slice none 0 0] _ _)at db;have:=ak g2;replace dI:=(fG.mem _ this).2 dI;replace g2:=fG.aM g2;have:=ak g3;replace fg:=(fG.mem _ this).2 fg;replace g3:=fG.aM g3;have:=ak dO;replace dp:=(fG.mem _ this).2 dp;replace dO:=fG.aM dO;replace dw:=dw.le (by decide) fG.le;replace dM:=dM.le fG.le;replace fx:=fx.le fG.le;replace hM:=fG.lt hM;have:=S.size;replace S:=S.aB fG;refine eG (M:=sT) (vs:=[.int .i64 d.1,.slice none 0 0]) oY rfl rfl (by intro u hu;simp at hu;rcases hu with rfl|rfl<;>first|rfl|exact pI (by assumption) rfl rfl) rfl rfl db cU (fun By LD kT=>?_);have:=ak g2;replace dI:=(kT.mem _ this).2 dI;replace g2:=kT.keep g2 (fun hk=>by have hk:_=_:=hk;omega);have:=ak g3;replace fg:=(kT.mem _ this).2 fg;replace g3:=kT.keep g3 (fun hk=>by have hk:_=_:=hk;omega);have:=ak dO;replace dp:=(kT.mem _ this).2 dp;replace dO:=kT.keep dO (fun hk=>by have hk:_=_:=hk;omega);have:=ak db;replace cU:=(kT.mem _ this).2 cU;replace dw:=dw.le (by decide) kT.le;replace dM:=dM.le kT.le;replace fx:=fx.le kT.le;replace hM:=kT.lt hM;have:=S.size;replace S:=S.trans kT (fun k hk h=>by have h:_=_:=h;subst h;first|(exfalso;omega)|(show _≤_;omega)|exact⟨by first|omega|assumption,(S.mem _ hk).1 ((kT.mem _ (ak db)).1 cU)⟩|exact .inl rfl|exact .inr rfl|exact .inr (.inl rfl)|exact .inr (.inr rfl)|exact .inr (.inr (.inl rfl))|exact rfl);have jk:=LD;clear db;have db:=jk;clear jk;refine ab (aj (ae (bK (o':=1) bj rfl rfl uV (by decide) rfl rfl (aP bz rfl rfl rfl (by assumption) rfl (bK (o':=1) bj rfl rfl uV (by decide) rfl rfl (aP bz rfl rfl rfl (by assumption) rfl ?_))))));have dC:=Own.Rn RT.fd 166 By.heap.size hM
     have aew:=ak dO;have LF:w0.heap.size≤By.heap.size:=S.size;refine dd (M:=sT) (base:=By.heap.size) bz kG rfl rfl rfl rfl dC fx (ao _ _) (by simp;omega) (by simp;omega) (aN _) (fun yh qx Lg sM ff=>?_);have:=ak g2;replace dI:=(ff.mem _ this).2 dI;replace g2:=ff.keep g2 (fun h=>by first|exact dC.ek g2 h|exact dC.eO g2 (by decide) h|(have:=(dC.base _ h).1;omega));have:=ak g3;replace fg:=(ff.mem _ this).2 fg;replace g3:=ff.keep g3 (fun h=>by first|exact dC.ek g3 h|exact dC.eO g3 (by decide) h|(have:=(dC.base _ h).1;omega));have:=ak dO;replace dp:=(ff.mem _ this).2 dp;replace dO:=ff.keep dO (fun h=>by first|exact dC.ek dO h|exact dC.eO dO (by decide) h|(have:=(dC.base _ h).1;omega));have:=ak db;replace cU:=(ff.mem _ this).2 cU;replace db:=ff.keep db (fun h=>by first|exact dC.ek db h|exact dC.eO db (by decide) h|(have:=(dC.base _ h).1;omega));replace dw:=dw.le (by decide) ff.le;replace dM:=dM.le ff.le;replace fx:=fx.le ff.le;replace hM:=ff.lt hM;have:=S.size;replace S:=S.dg ff dC LF;replace dC:=sM;refine bK (o':=1) bj rfl rfl uV (by decide) rfl rfl ?_;refine cw (M:=qx) uV rfl rfl db rfl ((by obtain⟨_,_,he,_⟩:=dC.isSlice;rw[he];rfl)) cU (fun LG Dl gC=>?_);change LG.heap[_]? =some (Obj.cells #[.int .i64 d.1,yh] _ _)at Dl;have:=ak g2;replace dI:=(gC.mem _ this).2 dI;replace g2:=gC.keep g2 (fun hk=>by have hk:_=_:=hk;omega);have:=ak g3;replace fg:=(gC.mem _ this).2 fg;replace g3:=gC.keep g3 (fun hk=>by have hk:_=_:=hk;omega);have:=ak dO;replace dp:=(gC.mem _ this).2 dp;replace dO:=gC.keep dO (fun hk=>by have hk:_=_:=hk;omega);have:=ak db;replace cU:=(gC.mem _ this).2 cU
     replace dw:=dw.le (by decide) gC.le;replace dM:=dM.le gC.le;replace fx:=fx.le gC.le;replace dC:=dC.step gC (fun b hb hk=>by have hk:_=_:=hk;have:=(dC.base b hb);omega);replace hM:=gC.lt hM;have:=S.size;replace S:=S.trans gC (fun k hk h=>by have h:_=_:=h;subst h;first|(exfalso;omega)|(show _≤_;omega)|exact⟨by first|omega|assumption,(S.mem _ hk).1 ((gC.mem _ (ak db)).1 cU)⟩|exact .inl rfl|exact .inr rfl|exact .inr (.inl rfl)|exact .inr (.inr rfl)|exact .inr (.inr (.inl rfl))|exact rfl);have jk:=Dl;clear db;have db:=jk;clear jk;refine ab (aj (ae (bK (o':=1) bj rfl rfl uV (by decide) rfl rfl (aP bz rfl rfl rfl (by assumption) rfl (iK (vs:=[.string ⟨((fixF i x).1).toArray⟩,.string ⟨((fixF i x).2).toArray⟩]) cx rfl kG rfl rfl rfl dO ?_)))));refine ep (A:=RT.fd) (hn:=by decide) (M:=qx) bz kG (by decide) rfl rfl hM (show RT.fd.V _ _ (fixF i x) _ from fe (kI.2 ⟨rfl,dW Rv.1 (by decide)⟩) (kI.2 ⟨rfl,dW Rv.2 (by decide)⟩) rfl rfl rfl rfl) (.inl rfl) (fun Rs Yl fV gD=>?_);have:=ak g2;replace dI:=(gD.mem _ this).2 dI;replace g2:=gD.aM g2;have:=ak g3;replace fg:=(gD.mem _ this).2 fg;replace g3:=gD.aM g3;have:=ak dO;replace dp:=(gD.mem _ this).2 dp;replace dO:=gD.aM dO;have:=ak db;replace cU:=(gD.mem _ this).2 cU;replace db:=gD.aM db;replace dw:=dw.le (by decide) gD.le;replace dM:=dM.le gD.le;replace fx:=fx.le gD.le;replace dC:=dC.aL gD;replace hM:=gD.lt hM;have:=S.size;replace S:=S.aB gD;refine dd (M:=qx) (base:=By.heap.size) bz kG rfl rfl rfl rfl dC fV (ao _ _) (by simp;omega) (by simp;omega) (by have:=ff.size;have:=gC.size;have:=gD.size;omega) (fun fO mF LH FJ eh=>?_)
     have:=ak g2;replace dI:=(eh.mem _ this).2 dI;replace g2:=eh.keep g2 (fun h=>by first|exact dC.ek g2 h|exact dC.eO g2 (by decide) h|(have:=(dC.base _ h).1;omega));have:=ak g3;replace fg:=(eh.mem _ this).2 fg;replace g3:=eh.keep g3 (fun h=>by first|exact dC.ek g3 h|exact dC.eO g3 (by decide) h|(have:=(dC.base _ h).1;omega));have:=ak dO;replace dp:=(eh.mem _ this).2 dp;replace dO:=eh.keep dO (fun h=>by first|exact dC.ek dO h|exact dC.eO dO (by decide) h|(have:=(dC.base _ h).1;omega));have:=ak db;replace cU:=(eh.mem _ this).2 cU;replace db:=eh.keep db (fun h=>by first|exact dC.ek db h|exact dC.eO db (by decide) h|(have:=(dC.base _ h).1;omega));replace dw:=dw.le (by decide) eh.le;replace dM:=dM.le eh.le;replace fx:=fx.le eh.le;replace fV:=fV.le eh.le;replace hM:=eh.lt hM;have:=S.size;replace S:=S.dg eh dC LF;replace dC:=FJ;refine bK (o':=1) bj rfl rfl uV (by decide) rfl rfl ?_;refine cw (M:=mF) uV rfl rfl db rfl ((by obtain⟨_,_,he,_⟩:=dC.isSlice;rw[he];rfl)) cU (fun LI Dm gE=>?_);change LI.heap[_]? =some (Obj.cells #[.int .i64 d.1,fO] _ _)at Dm;have:=ak g2;replace dI:=(gE.mem _ this).2 dI;replace g2:=gE.keep g2 (fun hk=>by have hk:_=_:=hk;omega);have:=ak g3;replace fg:=(gE.mem _ this).2 fg;replace g3:=gE.keep g3 (fun hk=>by have hk:_=_:=hk;omega);have:=ak dO;replace dp:=(gE.mem _ this).2 dp;replace dO:=gE.keep dO (fun hk=>by have hk:_=_:=hk;omega);have:=ak db;replace cU:=(gE.mem _ this).2 cU;replace dw:=dw.le (by decide) gE.le;replace dM:=dM.le gE.le;replace fx:=fx.le gE.le;replace fV:=fV.le gE.le;replace dC:=dC.step gE (fun b hb hk=>by have hk:_=_:=hk;have:=(dC.base b hb);omega);replace hM:=gE.lt hM
     have:=S.size;replace S:=S.trans gE (fun k hk h=>by have h:_=_:=h;subst h;first|(exfalso;omega)|(show _≤_;omega)|exact⟨by first|omega|assumption,(S.mem _ hk).1 ((gE.mem _ (ak db)).1 cU)⟩|exact .inl rfl|exact .inr rfl|exact .inr (.inl rfl)|exact .inr (.inr rfl)|exact .inr (.inr (.inl rfl))|exact rfl);have jk:=Dm;clear db;have db:=jk;clear jk;refine ab (aj (ae (iK (vs:=[.int .i64 d.1,fO]) bj rfl oY rfl rfl rfl db ?_)));have rQ:=dC.view (hn:=by decide) (by simp;omega);replace dI:rm mF fO _:=⟨dI,by first|exact dC.eO g2 (by decide)|(intro h;have:=(dC.base _ h).1;omega)⟩;replace fg:rm mF fO _:=⟨fg,by first|exact dC.eO g3 (by decide)|(intro h;have:=(dC.base _ h).1;omega)⟩;replace dp:rm mF fO _:=⟨dp,by first|exact dC.eO dO (by decide)|(intro h;have:=(dC.base _ h).1;omega)⟩;replace cU:rm mF fO _:=⟨cU,by first|exact dC.eO db (by decide)|(intro h;have:=(dC.base _ h).1;omega)⟩;replace dw:=dw.le (by decide) (eK _ fO _);replace dM:=dM.le (eK _ fO _);replace fx:=fx.le (eK _ fO _);replace fV:=fV.le (eK _ fO _);replace hM:Lt (rm mF fO) _:=fun b hb=>hM b hb.1
     replace S:=S.freeze (v:=fO) (fun b hb=>by have:=(dC.base b hb).1;omega);clear dC;refine aY rfl rfl E94 (Aw (d:=(d.1,[]++out++[fixF i x])) _ hM (fe (fY hdi) rQ rfl rfl rfl rfl) (fun y hy=>by have:=(A7.snoc Rv) y (by simpa using hy);omega)) (fun r14 Um hc=>?_);obtain⟨rfl,jY⟩:=hc;rw[fQ]at rQ;have:=ak g2;replace dI:=(jY.mem _ this).2 dI;replace g2:=jY.aM g2;have:=ak g3;replace fg:=(jY.mem _ this).2 fg;replace g3:=jY.aM g3;have:=ak dO;replace dp:=(jY.mem _ this).2 dp;replace dO:=jY.aM dO;have:=ak db;replace cU:=(jY.mem _ this).2 cU;replace db:=jY.aM db;replace dw:=dw.le (by decide) jY.le;replace dM:=dM.le jY.le;replace fx:=fx.le jY.le;replace fV:=fV.le jY.le;replace rQ:=rQ.le jY.le;replace hM:=jY.lt hM;have:=S.size;replace S:=S.aB jY;refine qZ rfl rfl rfl (aU (v':= .bool (decide (lT (d.1,out++[fixF i x])=0))) (by rw[fQ]) (ab ?_));refine bI rfl (fun JX=>?_) (fun JX=>?_)
     ·refine ae (iK (vs:=[.int .i64 d.1,fO]) bj rfl oY rfl rfl rfl db ?_);refine eG (M:=rm mF fO) (vs:=[.int .i64 d.1,fO]) oY rfl rfl (by intro u hu;simp at hu;rcases hu with rfl|rfl<;>first|rfl|exact pI (by assumption) rfl rfl) rfl rfl g3 fg (fun aex LJ jZ=>?_);have:=ak g2;replace dI:=(jZ.mem _ this).2 dI;replace g2:=jZ.keep g2 (fun hk=>by have hk:_=_:=hk;omega);have:=ak g3;replace fg:=(jZ.mem _ this).2 fg;have:=ak dO;replace dp:=(jZ.mem _ this).2 dp;replace dO:=jZ.keep dO (fun hk=>by have hk:_=_:=hk;omega);have:=ak db;replace cU:=(jZ.mem _ this).2 cU;replace db:=jZ.keep db (fun hk=>by have hk:_=_:=hk;omega);replace dw:=dw.le (by decide) jZ.le;replace dM:=dM.le jZ.le;replace fx:=fx.le jZ.le;replace fV:=fV.le jZ.le;replace rQ:=rQ.le jZ.le;replace hM:=jZ.lt hM;have:=S.size;replace S:=S.trans jZ (fun k hk h=>by have h:_=_:=h;subst h;first|(exfalso;omega)|(show _≤_;omega)|exact⟨by first|omega|assumption,(S.mem _ hk).1 ((jZ.mem _ (ak g3)).1 fg)⟩|exact .inl rfl|exact .inr rfl|exact .inr (.inl rfl)|exact .inr (.inr rfl)|exact .inr (.inr (.inl rfl))|exact rfl);have Ym:=LJ;clear g3;have g3:=Ym;clear Ym;refine ab (ae (ad rfl rfl (bC rfl rfl rfl (by omega) (ah rfl rfl (ab ?_)))));refine⟨rfl,(i+1,out++[fixF i x]),(.cons rfl (.cons rfl (.cons rfl (.cons rfl (.cons rfl .nil))))),?_,?_⟩
      ·exact⟨_,_,hM,S,dw,dM,g2,dI,g3,fg,rQ,by rw[pT,hga,if_pos JX],by dsimp only;omega,by dsimp only;omega,A7.snoc Rv,by simp;omega⟩
      ·dsimp only;omega
     ·refine aT (ae (ad rfl rfl (bC rfl rfl rfl (by omega) (ah rfl rfl (ab ?_)))));refine⟨rfl,(i+1,out),(.cons rfl (.cons rfl (.cons rfl (.cons rfl (.cons rfl .nil))))),?_,?_⟩
      ·exact⟨_,_,hM,S,dw,dM,g2,dI,g3,fg,fx,by rw[pT,hga,if_neg JX],by dsimp only;omega,by dsimp only;omega,A7,by dsimp only;omega⟩
      ·dsimp only;omega
   ·refine cK (aj (ae (iK (vs:=[.int .i64 d.1,uo]) bj rfl oY rfl rfl rfl g3 ?_)));refine eG (M:=M1) (vs:=[.int .i64 d.1,uo]) oY rfl rfl (by intro u hu;simp at hu;rcases hu with rfl|rfl<;>first|rfl|exact pI (by assumption) rfl rfl) rfl rfl g2 dI (fun aey LK o7=>?_);have:=ak g2;replace dI:=(o7.mem _ this).2 dI;have:=ak g3;replace fg:=(o7.mem _ this).2 fg;replace g3:=o7.keep g3 (fun hk=>by have hk:_=_:=hk;omega);replace dw:=dw.le (by decide) o7.le;replace dM:=dM.le o7.le;replace fx:=fx.le o7.le;replace hM:=o7.lt hM;have:=S.size;replace S:=S.trans o7 (fun k hk h=>by have h:_=_:=h;subst h;first|(exfalso;omega)|(show _≤_;omega)|exact⟨by first|omega|assumption,(S.mem _ hk).1 ((o7.mem _ (ak g2)).1 dI)⟩|exact .inl rfl|exact .inr rfl|exact .inr (.inl rfl)|exact .inr (.inr rfl)|exact .inr (.inr (.inl rfl))|exact rfl);have LL:=LK;clear g2;have g2:=LL;clear LL;refine ab (aQ ?_);have e:pK d=(d.1,out):=by rw[pK,pT,Ax (by omega)]
    rw[e];refine Bi (vs:=[.int .i64 d.1,uo]) rfl rfl bj rfl oY rfl g2 ⟨fe (fY hdi) (fx.le (Le.close kR S)) rfl rfl rfl rfl,S.back⟩
  ·refine au rfl rfl rfl rfl (au rfl rfl rfl rfl (aE rfl rfl rfl (ab (jt rfl (cK (aj (ae (iK (vs:=[.int .i64 d.1,uo]) bj rfl oY rfl rfl rfl g3 ?_))))))));refine eG (M:=M1) (vs:=[.int .i64 d.1,uo]) oY rfl rfl (by intro u hu;simp at hu;rcases hu with rfl|rfl<;>first|rfl|exact pI (by assumption) rfl rfl) rfl rfl g2 dI (fun aey LK o7=>?_);have:=ak g2;replace dI:=(o7.mem _ this).2 dI;have:=ak g3;replace fg:=(o7.mem _ this).2 fg;replace g3:=o7.keep g3 (fun hk=>by have hk:_=_:=hk;omega);replace dw:=dw.le (by decide) o7.le;replace dM:=dM.le o7.le;replace fx:=fx.le o7.le;replace hM:=o7.lt hM;have:=S.size;replace S:=S.trans o7 (fun k hk h=>by have h:_=_:=h;subst h;first|(exfalso;omega)|(show _≤_;omega)|exact⟨by first|omega|assumption,(S.mem _ hk).1 ((o7.mem _ (ak g2)).1 dI)⟩|exact .inl rfl|exact .inr rfl|exact .inr (.inl rfl)|exact .inr (.inr rfl)|exact .inr (.inr (.inl rfl))|exact rfl);have LL:=LK;clear g2;have g2:=LL;clear LL;refine ab (aQ ?_);have e:pK d=(d.1,out):=by rw[pK,pT,Ax (by omega)]
   rw[e];refine Bi (vs:=[.int .i64 d.1,uo]) rfl rfl bj rfl oY rfl g2 ⟨fe (fY hdi) (fx.le (Le.close kR S)) rfl rfl rfl rfl,S.back⟩
end Go.K
namespace Go.K
open Go.Proofs
set_option maxRecDepth 10000
def dL (l:List Dc) (from_ step:Int):Nat→List En
 |0=>[]
 |k+1=>dL l from_ step k++(match l[k]? with|some d=>[(pK d,from_+step*(k:Int))]|none=>[])
theorem l1 (l:List Dc) (a s:Int):∀k,(dL l a s k).length=min k l.length
 |0=>by simp[dL]
 |k+1=>by
  rw[dL,bc,l1 l a s k]
  cases h:l[k]? with
  |none=>have:=List.getElem?_eq_none_iff.1 h;simp;omega
  |some d=>have:=(an.1 h).1;simp;omega
theorem yp {l:List Dc} {a s:Int} {k:Nat} {d:Dc} (h:l[k]? =some d):dL l a s (k+1)=dL l a s k++[(pK d,a+s*(k:Int))]:=by rw[dL,h]
theorem yq {l:List Dc} {a s:Int} {k:Nat} (h:l.length≤k):dL l a s (k+1)=dL l a s k:=by
 rw[dL,List.getElem?_eq_none_iff.2 h];simp
theorem Dn {l:List Dc} {a s:Int} {n i:Nat} (h:l.length≤i∨n≤i) (h1:i≤n):dL l a s i=dL l a s n:=by
 induction n with
 |zero=>have:i=0:=by omega
        rw[this]
 |succ n ih=>
  rcases ly h1 with e|dV
  ·rw[e]
  ·rcases h with h|h
   ·rw[yq (by omega)];exact ih (.inl h) (by omega)
   ·omega
theorem Pv {s k:Int} (h:0≤s∧s≤1000) (hk:0≤k∧k≤100):0≤s*k∧s*k≤100000:=
 ⟨Int.mul_nonneg h.1 hk.1,Int.le_trans (Int.mul_le_mul h.2 hk.2 hk.1 (by omega)) (by omega)⟩
theorem FK {M:aD} {l:List Dc} {v0:Value} {most:Nat} {a s:Int} (w0:World) (hM:Lt M w0) (hv:(RT.dc.sl).V M w0 l v0) (hm:most≤100) (ha:0≤a∧a≤1000000) (hs:0≤s∧s≤1000):
  Spec Tryz.prog 12 #[v0,.int .i64 (most:Int),.int .i64 a,.int .i64 s] w0 (fun v w=>(RT.en.sl).V M w (dL l a s most) v∧Step M w0 M w aC):=by
 have kR:=hM;refine bm (args:=[_,_,_,_]) (fn:=Tryz.f12) Tryz.func12 rfl (n:=37) Tryz.ntmps12 ?_;have S:Step M w0 M w0 aC:=(ax _ _).cH (fun _ h=>h.elim) (fun _ h=>h.elim);refine aj (ae (ah rfl rfl (ab (aj (ae (ah rfl rfl (ab (aj (aj (ae (ah rfl rfl ?_)))))))))));refine ab (aZ ?_);refine dn (σ:=Nat×Value) (fun q=>[(0,v0),(1,.int .i64 (most:Int)),(2,.int .i64 a),(3,.int .i64 s),(9,q.2),(10,.int .i64 (q.1:Int))]) (fun q w=>∃M',Lt M' w∧Step M w0 M' w aC∧Own RT.en 71 M' w w0.heap.size q.2 (dL l a s q.1)∧(RT.dc.sl).V M' w l v0∧q.1≤most∧q.1≤l.length) (fun q=>most-q.1) (0,.slice none 0 0) (.cons rfl (.cons rfl (.cons rfl (.cons rfl (.cons rfl (.cons rfl .nil)))))) ?_ ?_
 ·exact⟨M,hM,S,dD _ _ _ _ _,hv,bD _,bD _⟩
 ·rintro⟨i,u⟩ w ⟨M1,hM,S,ho,hv,hi,oN⟩;dsimp only at ho hi oN ⊢;refine aj (aj (ae (ad rfl rfl (ad rfl rfl (bQ Tryz.underlying22 rfl hv rfl (cg rfl rfl rfl (ad rfl rfl ?_)))))));refine aR (g:=15) rfl (fun aez=>?_) (fun aez=>?_)
  ·refine al rfl rfl (ad rfl rfl (al rfl rfl (ad rfl rfl (al rfl rfl (cg rfl rfl rfl (a8 rfl rfl rfl (ab ?_)))))));refine bI rfl (fun c3=>?_) (fun c3=>?_)
   ·refine aT (aj (aZ (ae (ad rfl rfl (ad rfl rfl (ad rfl rfl ?_))))));refine cF (M:=M1) Tryz.underlying22 oY rfl rfl rfl hv (ao _ _) (by omega) (fun u5 d IK jy=>?_);rw[ay]at IK;have IY:=Pv (k:=(i:Int)) hs (by omega);refine cN (M:=M1) (A:=RT.dc) bj rfl oY (by decide) rfl rfl rfl jy (ao _ _) (fun v5 qf=>?_);refine aY rfl rfl E44 (IW _ hM qf) (fun r5 w5 hc=>?_);obtain⟨pT,s5⟩:=hc;replace hv:=hv.le s5.le;replace ho:=ho.aL s5;replace hM:=s5.lt hM;have:=S.size;replace S:=S.aB s5;refine ad rfl rfl (ad rfl rfl (ad rfl rfl (Rg.OO rfl rfl rfl (by omega) (bC rfl rfl rfl (by omega) ?_))));obtain⟨uf,rfl⟩:=Lj pT;refine iS (places:=[(0,2),(2,1)]) dS Cm B71 rfl ⟨_,_,rfl,rfl,_,_,rfl,rfl,rfl⟩ (out:=[_,_,_]) ⟨0,[_,_],rfl,rfl,by simp[Value.cells],2,[_],rfl,rfl,by simp[Value.cells],rfl⟩ ?_;refine ep (A:=RT.en) (hn:=by decide) (M:=M1) ez Cm (by decide) rfl rfl hM (show RT.en.V _ _ (pK d,a+s*(i:Int)) _ from Rm pT (by omega)) (.inl rfl) (fun aj6 aj7 FL Dp=>?_);replace hv:=hv.le Dp.le;replace pT:=pT.le Dp.le;replace ho:=ho.aL Dp;replace hM:=Dp.lt hM;have:=S.size;replace S:=S.aB Dp;refine dd (M:=M1) (base:=w0.heap.size) ez Cm rfl rfl rfl rfl ho FL (ao _ _) (by have:=l1 l a s i;simp;omega) (by have:=l1 l a s i;simp;omega) (S.size) (fun Yn Yo aj8 Un Dq=>?_);replace hv:=hv.le Dq.le;replace pT:=pT.le Dq.le;replace FL:=FL.le Dq.le;replace hM:=Dq.lt hM;have:=S.size;replace S:=S.dg Dq ho (aN _);replace ho:=Un;refine ah rfl rfl (ab (ae (ad rfl rfl (bC rfl rfl rfl (by omega) (ah rfl rfl (ab ?_))))));refine⟨rfl,(i+1,Yn),(.cons rfl (.cons rfl (.cons rfl (.cons rfl (.cons rfl (.cons rfl .nil)))))),?_,?_⟩
    ·exact⟨Yo,hM,S,by rw[yp IK];exact ho,hv,by dsimp only;omega,by dsimp only;omega⟩
    ·dsimp only;omega
   ·refine cK (aj (ae (ad rfl rfl (ah rfl rfl (ab (aQ ?_))))));rw[←Dn (i:=i) (n:=most) (by omega) hi];exact aV rfl rfl ⟨ho.close kR S (by have:=l1 l a s i;omega),S.back⟩
  ·refine au rfl rfl rfl rfl (au rfl rfl rfl rfl (au rfl rfl rfl rfl (aE rfl rfl rfl (ab (jt rfl (cK (aj (ae (ad rfl rfl (ah rfl rfl (ab ?_)))))))))));refine aQ ?_;rw[←Dn (i:=i) (n:=most) (by omega) hi];exact aV rfl rfl ⟨ho.close kR S (by have:=l1 l a s i;omega),S.back⟩
end Go.K
namespace Go.K
open Go.Maps (Keyed)
structure fH (P:Program) (kt:TypeId) (w:World) (b:Nat) (es:List MapEntry) (clock:Nat):Prop where
 at_:w.heap[b]? =some (.map es.toArray clock)
 born:es.Pairwise fun x y=>x.born≠y.born
 lt:∀e∈es,e.born<clock
 keys:es.Pairwise fun x y=>x.key≠y.key
 ok:∀e∈es,∃l,keyOf P kt e.key=some l
def ew (zv:Value) (es:List MapEntry) (key v:Value):Prop:=(∃e∈es,e.key=key∧v=e.val)∨((∀e∈es,e.key≠key)∧v=zv)
section
variable {P:Program} {kt:TypeId} {w:World} {b clock:Nat} {es:List MapEntry}
theorem fH.step {M M' N:aD} {w':World} (h:fH P kt w b es clock) (s:Step M w M' w' N) (hn: ¬N b):fH P kt w' b es clock:=⟨s.keep h.at_ hn,h.born,h.lt,h.keys,h.ok⟩
theorem fH.aL {M M':aD} {w':World} (h:fH P kt w b es clock) (s:Step M w M' w' aC):fH P kt w' b es clock:=h.step s fun h=>h
theorem ix {α:Type} {R:α→α→Prop} {l:List α} (h:l.Pairwise R) {i j:Nat} {x y:α} (hi:l[i]? =some x) (hj:l[j]? =some y) (jr:i<j):R x y:=by
 obtain⟨h1,h2⟩:=an.1 hi;obtain⟨h3,h4⟩:=an.1 hj;have:=cu.1 h i j h1 h3 jr
 rwa [h2,h4]at this
theorem fH.HA (h:fH P kt w b es clock) {x y:MapEntry} (hx:x∈es) (hy:y∈es) (e:x.key=y.key):x=y:=by
 obtain⟨i,hi⟩:=bB.1 hx;obtain⟨j,hj⟩:=bB.1 hy;rcases eM i j with h1|h1|h1
 ·exact absurd e (ix h.keys hi hj h1)
 ·subst h1;rw[hi]at hj;exact aH hj
 ·exact absurd e.symm (ix h.keys hj hi h1)
theorem fH.Dr (h:fH P kt w b es clock) {i j:Nat} {x y:MapEntry} (hi:es[i]? =some x) (hj:es[j]? =some y) (e:x.born=y.born):i=j:=by
 rcases eM i j with h1|h1|h1
 ·exact absurd e (ix h.born hi hj h1)
 ·exact h1
 ·exact absurd e.symm (ix h.born hj hi h1)
theorem fH.val_one (h:fH P kt w b es clock) {zv key v v':Value} (h1:ew zv es key v) (h2:ew zv es key v'):v=v':=by
 rcases h1 with⟨e,he,hk,hv⟩|⟨hn,hv⟩
 ·rcases h2 with⟨e',qA,tw,rD⟩|⟨IZ,_⟩
  ·have:=h.HA he qA (hk.trans tw.symm);rw[hv,rD,this]
  ·exact absurd hk (IZ e he)
 ·rcases h2 with⟨e',qA,tw,_⟩|⟨_,rD⟩
  ·exact absurd tw (hn e' qA)
  ·rw[hv,rD]
theorem dP {r:Nat} {a:Array MapEntry} {c:Nat} (hb:w.heap[r]? =some (.map a c)):(getObj r).run P w= .ok (.map a c) w:=by simp[getObj,Sem.run,hb]
theorem run_setObj_map {r:Nat} {a:Array MapEntry} {c:Nat} {o:Obj} (hb:w.heap[r]? =some (.map a c)):(setObj r o).run P w= .ok () {w with heap:=w.heap.setIfInBounds r o}:=by simp[setObj,Sem.run,hb]
theorem fH.push (h:fH P kt w b es clock) {key v:Value} {kl:Lit} (lG:keyOf P kt key=some kl) (hn:∀e∈es,e.key≠key) {w':World} (hw:w'.heap[b]? =some (.map (es++([⟨key,v,clock⟩]:List MapEntry)).toArray (clock+1))):fH P kt w' b (es++[⟨key,v,clock⟩]) (clock+1):=
 ⟨hw,ke.2 ⟨h.born,List.pairwise_singleton _ _,fun x hx y hy=>by rw[bJ.1 hy];have:=h.lt x hx;show x.born≠clock;omega⟩,(fun e he=>by
  rcases ch.1 he with he|he
  ·have:=h.lt e he;omega
  ·rw[bJ.1 he];exact Nat.lt_succ_self _),ke.2 ⟨h.keys,List.pairwise_singleton _ _,fun x hx y hy=>by rw[bJ.1 hy];exact hn x hx⟩,(fun e he=>by
  rcases ch.1 he with he|he
  ·exact h.ok e he
  ·rw[bJ.1 he];exact⟨kl,lG⟩)⟩
theorem ew.push {zv key:Value} {s:Nat} (hn:∀e∈es,e.key≠key) (jl v':Value):ew zv (es++[⟨key,zv,s⟩]) jl v'↔ew zv es jl v':=by
 constructor
 ·rintro(⟨e,he,hk,hv⟩|⟨h1,h2⟩)
  ·rcases ch.1 he with he|he
   ·exact .inl ⟨e,he,hk,hv⟩
   ·rw[bJ.1 he]at hk hv;exact .inr ⟨fun e he=>by rw[←hk];exact hn e he,hv⟩
  ·exact .inr ⟨fun e he=>h1 e (gv _ he),h2⟩
 ·rintro(⟨e,he,hk,hv⟩|⟨h1,h2⟩)
  ·exact .inl ⟨e,gv _ he,hk,hv⟩
  ·by_cases hk:key=jl
   ·exact .inl ⟨⟨key,zv,s⟩,by simp,hk,h2⟩
   ·exact .inr ⟨fun e he=>by
     rcases ch.1 he with he|he
     ·exact h1 e he
     ·rw[bJ.1 he];exact hk,h2⟩
end
section
variable {P:Program} {r:Option Nat} {n:Nat} {L:Sl} {ds:List Deferred} {w:World} {K:Kt} {ops:Array Oper} {rest:List Oper} {d:Nat} {x y z:Operand} {ty:TypeId} {pos:String} {af:Array Edge}
variable {kt:TypeId} {M:aD} {b clock:Nat} {es:List MapEntry}
theorem Rg.Ds {t e:TypeId} (M:aD) (ht:P.underlying t=some (.map kt e)) (hd:Nat.blt d n=true)
  (k:∀b w',w.heap.size≤b→b<w'.heap.size→fH P kt w' b [] 0→Step M w (ins M b) w' aC→Rg P r n ops rest ((d,.map (some b))::L) ds w' K):
  Rg P r n ops ({dst:=some d,op:= .makeMap t none,type:=ty,pos,after:=af,guard:=none}::rest) L ds w K:=by
 refine .op (fun _ h=>by cases h) rfl rfl hd (.map (some w.heap.size)) (w.alloc (.map #[] 0)) (fun ρ hρ=>?_) (k w.heap.size _ (aN _) (by simp) ⟨cr w _,List.Pairwise.nil,(fun e he=>by cases he),List.Pairwise.nil,(fun e he=>by cases he)⟩ ((dm M w _).own (aN _) (by simp)));simp only[execOp];simp[Instr.makeMap,newObj,Sem.run,run_underlying ht]
theorem Rg.mapEntry {t e:TypeId} {zv key:Value} {size bytes:Nat} {kl:Lit} (ht:P.underlying t=some (.map kt e)) (Kk:Keyed P kt) (hi:TI P e zv size bytes) (hx:ev L x=some (.map (some b))) (hy:ev L y=some key) (hd:Nat.blt d n=true) (lG:keyOf P kt key=some kl) (h:fH P kt w b es clock) (hm:M b)
  (k:∀w' pL FM v s,fH P kt w' b pL FM→ew zv es key v→(⟨key,v,s⟩:MapEntry)∈pL→(∀jl v',ew zv pL jl v'↔ew zv es jl v')→((pL.map (·.key)=es.map (·.key)∧∃e∈es,e.key=key)∨(pL.map (·.key)=es.map (·.key)++[key]∧∀e∈es,e.key≠key))→Step M w M w' (fun k=>k=b)→Rg P r n ops rest ((d,.tuple #[v,.int .i64 (s:Nat)])::L) ds w' K):
  Rg P r n ops ({dst:=some d,op:= .mapEntry t x y,type:=ty,pos,after:=af,guard:=none}::rest) L ds w K:=by
 have dV:=ak h.at_;rcases Kk.find w lG es h.ok with⟨h1,h2⟩|⟨j,e0,h1,h2,h3⟩
 ·obtain⟨inf,i1,i2,_,_⟩:=hi.get;have hz:(zeroValue e).run P w= .ok zv w:=by simp[zeroValue,typeInfo,i1,i2]
  have hw:({w with heap:=w.heap.setIfInBounds b (.map (es.toArray.push ⟨key,zv,clock⟩) (clock+1))}:World).heap[b]? =some (.map (es++([⟨key,zv,clock⟩]:List MapEntry)).toArray (clock+1)):=by
   simp[dE,dV]
  refine .op (fun _ h=>by cases h) rfl rfl hd _ _ (fun ρ hρ=>?_) (k _ _ _ zv clock (h.push lG h2 hw) (Or.inr ⟨h2,rfl⟩) (by simp) (ew.push h2) (Or.inr ⟨by simp,h2⟩) (jj M hm));simp only[execOp,hρ x _ hx,hρ y _ hy,Instr.mapEntry,cn,run_underlying ht,cC,dP h.at_,Kk.check w false lG,h1,hz,run_setObj_map h.at_];simp[goInt]
 ·have he:e0∈es:=az h2
  have LM:es.toArray.modify j (fun e=>{e with key:=key})=es.toArray:=by
   apply Array.ext_getElem?;intro i;rw[jI]
   split
   ·rename_i Ry
    subst Ry;simp only[eD,h2,cW];rw[←h3]
   ·rfl
  have hw:({w with heap:=w.heap.setIfInBounds b (.map es.toArray clock)}:World).heap[b]? =some (.map es.toArray clock):=by simp[dE,dV]
  have hj:es.toArray[j]? =some e0:=by simpa using h2
  have kF:(Instr.keyThatStays ((Option.map (fun(e:MapEntry)=>e.key) es.toArray[j]?).getD key) key).run P w= .ok key w:=by
   rw[hj];simp only[cW,Option.getD_some,h3];exact Kk.stays w lG
  refine .op (fun _ h=>by cases h) rfl rfl hd _ _ (fun ρ hρ=>?_) (k _ es clock e0.val e0.born ⟨hw,h.born,h.lt,h.keys,h.ok⟩ (Or.inl ⟨e0,he,h3,rfl⟩) (by rw[←h3];exact he) (fun _ _=>Iff.rfl) (Or.inl ⟨rfl,e0,he,h3⟩) (jj M hm));simp only[execOp,hρ x _ hx,hρ y _ hy,Instr.mapEntry,cn,run_underlying ht,cC,dP h.at_,Kk.check w false lG,h1,kF,LM,run_setObj_map h.at_];simp[goInt,hj]
theorem Rg.entryStore {t:TypeId} {key v0 val:Value} {s:Nat} (hx:ev L x=some (.map (some b))) (hy:ev L y=some (.int .i64 (s:Int))) (hz:ev L z=some val) (h:fH P kt w b es clock) (hm:M b) (ku:(⟨key,v0,s⟩:MapEntry)∈es)
  (k:∀w' pL,fH P kt w' b pL clock→pL.map (·.key)=es.map (·.key)→(∀zv jl v',ew zv pL jl v'↔(jl=key∧v'=val)∨(jl≠key∧ew zv es jl v'))→Step M w M w' (fun k=>k=b)→Rg P r n ops rest L ds w' K):
  Rg P r n ops ({dst:=none,op:= .entryStore t x y z,type:=ty,pos,after:=af,guard:=none}::rest) L ds w K:=by
 have dV:=ak h.at_;obtain⟨i,hi⟩:=bB.1 ku;have oN:=(an.1 hi).1
 have aeA:es.toArray.findIdx? (fun e=>(e.born:Int)==(s:Int))=some i:=by
  rw[List.findIdx?_toArray,List.findIdx?_eq_some_iff_getElem];refine⟨oN,by rw[(an.1 hi).2];simp,fun j hj=>?_⟩;have wU:j<es.length:=by omega
  have:=fun e=>h.Dr (ar wU) hi e
  simp only[Bool.not_eq_true,beq_eq_false_iff_ne,ne_eq];intro e;have e2:((es[j]).born:Int)=(s:Int):=by simpa using e
  have:=this (by show(es[j]).born=s;omega);omega
 obtain⟨pL,ve⟩:∃pL,pL=es.set i ⟨key,val,s⟩:=⟨_,rfl⟩
 have LM:es.toArray.modify i (fun e=>{e with val:=val})=pL.toArray:=by
  apply Array.ext_getElem?;intro j;rw[jI,ve];simp only[eD,dq]
  split
  ·rename_i Ry
   subst Ry;rw[hi];simp
  ·rfl
 have iU:∀j e',pL[j]? =some e'→(j=i∧e'=⟨key,val,s⟩)∨(j≠i∧es[j]? =some e'):=fun j e' hj=>by
  rw[ve,dq]at hj
  split at hj
  ·rename_i jr
   left;exact⟨jr.symm,by simpa[oN]using hj.symm⟩
  ·rename_i jr
   exact .inr ⟨fun e=>jr e.symm,hj⟩
 have pM:pL.map (·.key)=es.map (·.key):=by
  rw[ve,List.map_set];apply fp;intro j;rw[dq]
  split
  ·rename_i jr
   subst jr;have e:=(an.1 hi).2;simp[oN,e]
  ·rfl
 have LN:pL.map (·.born)=es.map (·.born):=by
  rw[ve,List.map_set];apply fp;intro j;rw[dq]
  split
  ·rename_i jr
   subst jr;have e:=(an.1 hi).2;simp[oN,e]
  ·rfl
 have hw:({w with heap:=w.heap.setIfInBounds b (.map pL.toArray clock)}:World).heap[b]? =some (.map pL.toArray clock):=by simp[dE,dV]
 have eR:∀e'∈pL,(e'=⟨key,val,s⟩)∨(e'∈es∧e'.key≠key):=fun e' qA=>by
  obtain⟨j,hj⟩:=bB.1 qA;rcases iU j e' hj with⟨_,e⟩|⟨eQ,rG⟩
  ·exact .inl e
  ·refine .inr ⟨az rG,fun e=>eQ ?_⟩;rcases eM j i with h1|h1|h1
   ·exact absurd e (ix h.keys rG hi h1)
   ·exact h1
   ·exact absurd e.symm (ix h.keys hi rG h1)
 have LO:(⟨key,val,s⟩:MapEntry)∈pL:=az (i:=i) (by rw[ve,dq];simp[oN])
 have hold:∀e'∈es,e'.key≠key→e'∈pL:=fun e' qA eQ=>by
  obtain⟨j,hj⟩:=bB.1 qA;refine az (i:=j) ?_;rw[ve,dq,if_neg]
  ·exact hj
  ·rintro rfl;rw[hi]at hj;cases hj;exact eQ rfl
 have hW:fH P kt {w with heap:=w.heap.setIfInBounds b (.map pL.toArray clock)} b pL clock:=by
  refine⟨hw,?_,fun e' qA=>?_,?_,fun e' qA=>?_⟩
  ·have:=cA.2 h.born;rw[←LN]at this;exact cA.1 this
  ·rcases eR e' qA with e|⟨h1,_⟩
   ·rw[e];exact(h.lt _ ku:s<clock)
   ·exact h.lt _ h1
  ·have:=cA.2 h.keys;rw[←pM]at this;exact cA.1 this
  ·rcases eR e' qA with e|⟨h1,_⟩
   ·rw[e];exact(h.ok _ ku:∃l,keyOf P kt key=some l)
   ·exact h.ok _ h1
 refine .QU (fun _ h=>by cases h) rfl rfl _ (fun ρ hρ=>?_) (k _ pL hW pM (fun zv jl v'=>?_) (jj M hm))
 ·simp only[execOp,hρ x _ hx,hρ y _ hy,hρ z _ hz,Instr.entryStore,cn,dP h.at_,cC,asInt,asIntOf,Sem.run_pure,aeA,LM,run_setObj_map h.at_]
 ·constructor
  ·rintro(⟨e',qA,hk,hv⟩|⟨h1,h2⟩)
   ·rcases eR e' qA with e|⟨h3,h4⟩
    ·subst e;exact .inl ⟨hk.symm,hv⟩
    ·exact .inr ⟨by rw[←hk];exact h4,.inl ⟨e',h3,hk,hv⟩⟩
   ·have eQ:jl≠key:=fun e=>h1 _ LO e.symm
    exact .inr ⟨eQ,.inr ⟨fun e' qA=>fun e=>by
     by_cases h5:e'.key=key
     ·exact eQ (e.symm.trans h5)
     ·exact h1 e' (hold e' qA h5) e,h2⟩⟩
  ·rintro(⟨rfl,rfl⟩|⟨eQ,⟨e',qA,hk,hv⟩|⟨h1,h2⟩⟩)
   ·exact .inl ⟨_,LO,rfl,rfl⟩
   ·exact .inl ⟨e',hold e' qA (by rw[hk];exact eQ),hk,hv⟩
   ·exact .inr ⟨fun e' qA=>by
     rcases eR e' qA with e|⟨h3,_⟩
     ·rw[e];exact fun e=>eQ e.symm
     ·exact h1 e' h3,h2⟩
theorem Rg.tM {t e:TypeId} {zv key:Value} {size bytes:Nat} {kl:Lit} (ht:P.underlying t=some (.map kt e)) (Kk:Keyed P kt) (hi:TI P e zv size bytes) (hx:ev L x=some (.map (some b))) (hy:ev L y=some key) (hd:Nat.blt d n=true) (lG:keyOf P kt key=some kl) (h:fH P kt w b es clock)
  (k:∀v,ew zv es key v→Rg P r n ops rest ((d,v)::L) ds w K):
  Rg P r n ops ({dst:=some d,op:= .lookup t x y false,type:=ty,pos,after:=af,guard:=none}::rest) L ds w K:=by
 rcases Kk.find w lG es h.ok with⟨h1,h2⟩|⟨j,e0,h1,h2,h3⟩
 ·obtain⟨inf,i1,i2,_,_⟩:=hi.get;have hz:(zeroValue e).run P w= .ok zv w:=by simp[zeroValue,typeInfo,i1,i2]
  refine .op (fun _ h=>by cases h) rfl rfl hd zv w (fun ρ hρ=>?_) (k zv (Or.inr ⟨h2,rfl⟩));simp only[execOp,hρ x _ hx,hρ y _ hy,Instr.lookup,cn,run_underlying ht,cC,dP h.at_,Sem.run_pure,Kk.check w _ lG,h1,hz];simp
 ·refine .op (fun _ h=>by cases h) rfl rfl hd e0.val w (fun ρ hρ=>?_) (k e0.val (Or.inl ⟨e0,az h2,h3,rfl⟩));simp only[execOp,hρ x _ hx,hρ y _ hy,Instr.lookup,cn,run_underlying ht,cC,dP h.at_,Sem.run_pure,Kk.check w _ lG,h1];simp
end
end Go.K
namespace Go.K
open Go.Proofs
set_option maxRecDepth 10000
open Go.Maps (Keyed)
def kv (t:Fd):Value:= .agg #[.string ⟨t.1.toArray⟩,.string ⟨t.2.toArray⟩]
theorem vf {a b:Fd} (h:kv a=kv b):a=b:=by
 unfold kv at h;simp only[Value.agg.injEq,Array.mk.injEq,List.cons.injEq,Value.string.injEq,ByteArray.mk.injEq,and_true]at h;exact Prod.ext h.1 h.2
theorem LP:laidOutB Tryz.prog=true:=by kernel_rfl
theorem LQ:Tryz.prog.types.size=383:=by kernel_rfl
theorem Ay:Keyed Tryz.prog 78:=Keyed.of_law (deep_law_laid LP (m:=2) (k:=78) (by omega) (by rw[LQ];decide) (by kernel_rfl) (by kernel_rfl))
theorem Yp:Tryz.prog.keyType 78=true:=by kernel_rfl
theorem HB:Tryz.prog.cellsOf 78=2:=by kernel_rfl
theorem Pw:Tryz.prog.cellsOf 9=1:=by kernel_rfl
theorem LR (t:Fd) (h1:t.1.length≤140737488355328) (h2:t.2.length≤140737488355328):∃l,keyOf Tryz.prog 78 (kv t)=some l:=by
 have e1:(⟨t.1.toArray⟩:ByteArray).size=t.1.length:=by simp[ByteArray.size]
 have e2:(⟨t.2.toArray⟩:ByteArray).size=t.2.length:=by simp[ByteArray.size]
 have hs:∀(s:ByteArray),s.size≤maxLen→Tryz.prog.keyLits 383 9 [.string s]=some [.string s.data.toList]:=fun s hs=>by
  show(match Tryz.prog.underlying 9,[Value.string s]with|_,_=>_)=_;rw[aF];exact if_pos hs
 unfold keyOf kv;rw[ck];simp only[Yp,Value.formed,ck,HB,LQ]
 have key:∃ls,Tryz.prog.keyLits (383+1) 78 [.string ⟨t.1.toArray⟩,.string ⟨t.2.toArray⟩]=some ls:=by
  unfold Program.keyLits;simp only[ck];rw[if_pos ⟨by rw[HB];rfl,by kernel_rfl⟩];simp only[List.mapM_cons,List.mapM_nil,Pw];have g1:=hs ⟨t.1.toArray⟩ (by rw[e1];unfold maxLen;omega);have g2:=hs ⟨t.2.toArray⟩ (by rw[e2];unfold maxLen;omega);refine⟨[.string (⟨t.1.toArray⟩:ByteArray).data.toList,.string (⟨t.2.toArray⟩:ByteArray).data.toList],?_⟩;simp only[List.drop_zero,List.drop_succ_cons,oF,List.take_zero,g1,g2];rfl
 obtain⟨ls,hls⟩:=key;exact⟨.string (keyBytes ls),by rw[if_pos (by simp)];show Option.map _ (Tryz.prog.keyLits (383+1) 78 [.string ⟨t.1.toArray⟩,.string ⟨t.2.toArray⟩])=_;rw[hls];rfl⟩
end Go.K
namespace Go.K
open Go.Proofs
set_option maxRecDepth 10000
def jm (x:Fd):List (Fd×Nat):=(words x.2).zipIdx.map fun p=>((x.1,p.1),p.2)
def cJ (l:List Fd):List (Fd×Nat):=l.flatMap jm
theorem od (x:Fd):(jm x).length=(words x.2).length:=by simp[jm]
theorem LS {x:Fd} {k:Nat} {y:List UInt8} (h:(words x.2)[k]? =some y):(jm x)[k]? =some ((x.1,y),k):=by
 simp[jm,List.getElem?_zipIdx,h]
theorem sU {fs:List Fd} {i:Nat} {x:Fd} (h:fs[i]? =some x):cJ (fs.take (i+1))=cJ (fs.take i)++jm x:=by
 rw[bV,h];simp[cJ]
structure Uo (P:Program) (g:FuncId) (cap:List Value) (B:Nat) (J:List (Fd×Nat)→aD→World→Prop):Prop where
 enters:Enters P g
 step:∀ts M w M' w',J ts M w→Step M w M' w' aC→J ts M' w'
 tell:∀ts M w (t:Fd) (i:Nat),J ts M w→Lt M w→t.1.length≤900000→t.2.length≤140737488355328→i≤1000000→ts.length≤10000000→Spec P g ([kv t,.int .i64 (i:Int)]++cap).toArray w (fun _ w'=>∃M',Lt M' w'∧J (ts++[(t,i)]) M' w'∧Step M w M' w' (lP M B))
theorem Az {M:aD} {d:Dc} {v0:Value} {g:FuncId} {cap:List Value} {B:Nat} {J:List (Fd×Nat)→aD→World→Prop} (w0:World) (hM:Lt M w0) (hv:RT.dc.V M w0 d v0) (hl:∀f∈d.2,f.1.length≤900000∧f.2.length≤900000) (hd8:d.2.length≤8) (hT:Uo Tryz.prog g cap B J) (hJ:J [] M w0):
  Spec Tryz.prog 132 #[v0,.func (.func g) #[] cap.toArray] w0 (fun v w=>∃M',Lt M' w∧J (cJ d.2) M' w∧Step M w0 M' w (lP M B)):=by
 refine bm (args:=[_,_]) (fn:=Tryz.f132) Tryz.func132 rfl (n:=33) Tryz.ntmps132 ?_;have S:Step M w0 M w0 (lP M B):=(ax _ _).cH (fun _ h=>h.elim) (fun _ h=>h.2);refine aj (ae ?_);refine nP (A:=RT.dc) rfl rfl hM hv rfl (fun u0 w1 dw s0 _=>?_);replace hJ:=hT.step _ _ _ _ _ hJ s0;replace hM:=s0.lt hM;have:=S.size;replace S:=S.aB s0;refine ab (aj (ae ?_));refine aK (M:=M) (A:=RT.dc) (B:=(RT.fd).sl) bj rfl rfl uV (by decide) (IS) rfl rfl (by decide) (by assumption) (by repeat (first|exact ao _ _|refine aX (bu (by assumption)) ?_)) (fun zF lK=>?_);refine bR (M:=M) bz rfl rfl rfl rfl rfl (by assumption) (by repeat (first|exact ao _ _|refine aX (bu (by assumption)) ?_)) (fun zG mZ=>?_);refine bQ bz rfl mZ rfl (ad rfl rfl (ab (aZ ?_)));refine dn (σ:=Nat) (fun i=>[(1,.func (.func g) #[] cap.toArray),(9,zG),(10,.int .i64 (d.2.length:Int)),(11,.int .i64 (i:Int))]) (fun i w=>∃M',Lt M' w∧Step M w0 M' w (lP M B)∧(RT.fd.sl).V M' w d.2 zG∧J (cJ (d.2.take i)) M' w∧i≤d.2.length∧(cJ (d.2.take i)).length≤900001*i) (fun i=>d.2.length-i) 0 (.cons rfl (.cons rfl (.cons rfl (.cons rfl .nil)))) ?_ ?_
 ·exact⟨_,hM,S,mZ,hJ,bD _,aN _⟩
 ·rintro i w ⟨M1,hM,S,jS,hJ,hi,ET⟩;refine aj (ae (cg rfl rfl rfl (ab (aj ?_))));refine bI rfl (fun c2=>?_) (fun c2=>?_)
  ·refine aT (aj (aZ (aj (ae ?_))));refine cF (M:=M1) bz kG rfl rfl rfl jS (ao _ _) (by omega) (fun u3 x Oz Rz=>?_);rw[ay]at Oz;have qd:=hl _ (az Oz);refine cN (M:=M1) (A:=RT.fd) cx rfl kG (by decide) rfl rfl rfl Rz (ao _ _) (fun v3 xo=>?_);refine sf (A:=RT.fd) (M:=M1) kG rfl rfl rfl rfl rfl (by assumption) (ao _ _) hM (fun Uq aob AA Px aoc=>?_);replace jS:=jS.le Px.le;replace hJ:=hT.step _ _ _ _ _ hJ Px;replace hM:=Px.lt hM;have:=S.size;replace S:=S.aB Px;refine ab (aj (ae ?_));refine aK (M:=M1) (A:=RT.fd) (B:=RT.str) cx rfl rfl I9 (by decide) (WC) rfl rfl (by decide) (by assumption) (by repeat (first|exact ao _ _|refine aX (bu (by assumption)) ?_)) (fun Pq Da=>?_);refine bR (M:=M1) aF rfl rfl rfl rfl rfl Da (ao _ _) (fun v4 qR=>?_);obtain rfl:=fF qR;refine aY rfl rfl Xx (yd (l:=x.2) _ hM qd.2) (fun v5 w5 hc=>?_);obtain⟨Yq,s5⟩:=hc;replace jS:=jS.le s5.le;replace AA:=AA.le (by decide) s5.le;replace hJ:=hT.step _ _ _ _ _ hJ s5;replace hM:=s5.lt hM;have:=S.size;replace S:=S.aB s5;have hwl:=qP x.2;refine bQ aS rfl Yq rfl (ad rfl rfl (ab (aZ ?_)));refine dn (σ:=Nat) (fun k=>[(1,.func (.func g) #[] cap.toArray),(5,Uq),(9,zG),(10,.int .i64 (d.2.length:Int)),(11,.int .i64 (i:Int)),(17,v5),(18,.int .i64 ((words x.2).length:Int)),(19,.int .i64 (k:Int))]) (fun k w=>∃M',Lt M' w∧Step M w0 M' w (lP M B)∧(RT.fd.sl).V M' w d.2 zG∧cQ RT.fd M' w Uq x∧(RT.str.sl).V M' w (words x.2) v5∧J (cJ (d.2.take i)++(jm x).take k) M' w∧k≤(words x.2).length) (fun k=>(words x.2).length-k) 0 (.cons rfl (.cons rfl (.cons rfl (.cons rfl (.cons rfl (.cons rfl (.cons rfl (.cons rfl .nil)))))))) ?_ ?_
   ·exact⟨_,hM,S,jS,AA,Yq,by rw[List.take_zero,ia];exact hJ,bD _⟩
   ·rintro k w ⟨M2,hM,S,jS,AA,Yq,hJ,hk⟩;refine aj (ae (cg rfl rfl rfl (ab (aj ?_))));refine bI rfl (fun c5=>?_) (fun c5=>?_)
    ·refine aT (aj (aZ (aj (ae (ad rfl rfl ?_)))));refine cF (M:=M2) aS I9 rfl rfl rfl Yq (ao _ _) (by omega) (fun u6 y JV IN=>?_);rw[ay]at JV;refine bR (M:=M2) aF rfl rfl rfl rfl rfl IN (ao _ _) (fun v6 sN=>?_);have Fh:=(kI.1 sN).2;obtain rfl:=fF sN;refine ah rfl rfl (ah rfl rfl (ab (ae (ad rfl rfl ?_))));refine aK (M:=M2) (A:=RT.fd) (B:=RT.str) cx rfl rfl I9 (by decide) (Pn) rfl rfl (by decide) (by assumption) (by repeat (first|exact ao _ _|refine aX (bu (by assumption)) ?_)) (fun aod Yr=>?_);refine bR (M:=M2) aF rfl rfl rfl rfl rfl Yr (ao _ _) (fun v7 Bz=>?_);obtain rfl:=fF Bz;refine ad rfl rfl (iS (places:=[(0,1),(1,1)]) ck xX B78 rfl ⟨_,_,rfl,rfl,_,_,rfl,rfl,rfl⟩ (out:=[_,_]) ⟨0,[_],rfl,rfl,by simp[Value.cells],1,[_],rfl,rfl,by simp[Value.cells],rfl⟩ (ad rfl rfl ?_));refine zr (first:=[]) (captured:=cap) (xs:=[.tmp 28,.tmp 29]) rfl rfl rfl hT.enters (hT.tell _ _ _ (x.1,y) k hJ hM qd.1 Fh (by omega) (by rw[bc,bg,od];omega)) (fun r7 w7 hc=>?_);obtain⟨M7,hM7,hJ7,s7⟩:=hc;refine ab (ae (bC rfl rfl rfl (by omega) (ad rfl rfl (ab ?_))));refine⟨rfl,k+1,(.cons rfl (.cons rfl (.cons rfl (.cons rfl (.cons rfl (.cons rfl (.cons rfl (.cons rfl .nil)))))))),?_,?_⟩
     ·exact⟨M7,hM7,S.trans s7 (fun b hb h=>⟨h.1,(S.mem b hb).1 h.2⟩),jS.le s7.le,AA.le (by decide) s7.le,Yq.le s7.le,by rw[bV,LS JV,cE,←List.append_assoc];exact hJ7,by omega⟩
     ·omega
    ·refine cK (ae (bC rfl rfl rfl (by omega) (ad rfl rfl (ab ?_))));refine⟨rfl,i+1,(.cons rfl (.cons rfl (.cons rfl (.cons rfl .nil)))),?_,?_⟩
     ·exact⟨_,hM,S,jS,by rw[sU Oz];have e:(jm x).take k=jm x:=aW (by rw[od];omega);rw[e]at hJ;exact hJ,by omega,by rw[sU Oz,bc,od];omega⟩
     ·omega
  ·refine cK ?_
   first|refine re ?_|simp+decide only[rf,jC,if_true,if_false]|skip
   have e:d.2.take i=d.2:=aW (by omega);rw[e]at hJ;exact fU rfl ⟨_,hM,hJ,S⟩
theorem Dt {M:aD} {w:World} {t:Fd} (h1:t.1.length≤140737488355328) (h2:t.2.length≤140737488355328):RT.fd.V M w t (kv t):=fe (kI.2 ⟨rfl,h1⟩) (kI.2 ⟨rfl,h2⟩) rfl rfl rfl rfl
def WJ (b B:Nat) (ts:List (Fd×Nat)) (M:aD) (w:World):Prop:=w.heap[b]? =some (.cells #[.int .i64 (ts.length:Int)] 3 (0,0))∧M b∧B≤b
theorem BA {M:aD} {b B:Nat} {ts:List (Fd×Nat)} {t:Fd} {i:Nat} (w0:World) (hM:Lt M w0) (h1:t.1.length≤900000) (h2:t.2.length≤140737488355328) (Ku:ts.length≤10000000) (hJ:WJ b B ts M w0):
  Spec Tryz.prog 139 #[kv t,.int .i64 (i:Int),.pointer (some ⟨b,0,none⟩)] w0 (fun v w=>∃M',Lt M' w∧WJ b B (ts++[(t,i)]) M' w∧Step M w0 M' w (lP M B)):=by
 obtain⟨gb,ei,hB⟩:=hJ;refine bm (args:=[_,_,_]) (fn:=Tryz.f139) Tryz.func139 rfl (n:=7) Tryz.ntmps139 ?_;have S:Step M w0 M w0 (lP M B):=(ax _ _).cH (fun _ h=>h.elim) (fun _ h=>h.2);refine aj (ae ?_);refine nP (A:=RT.fd) rfl rfl hM (Dt (by omega) h2) rfl (fun u0 w1 dw s0 _=>?_);have:=ak gb;replace ei:=(s0.mem _ this).2 ei;replace gb:=s0.aM gb;replace hM:=s0.lt hM;have:=S.size;replace S:=S.aB s0;refine ab (ae (aP aw rfl rfl rfl (by assumption) rfl (bC rfl rfl rfl (by omega) ?_)));refine cw (M:=M) I3 rfl rfl gb rfl (rfl) ei (fun Py iH pV=>?_);change Py.heap[_]? =some (Obj.cells #[.int .i64 ((ts.length:Int)+1)] _ _)at iH;have:=ak gb;replace ei:=(pV.mem _ this).2 ei;replace hM:=pV.lt hM;have:=S.size;replace S:=S.trans pV (fun k hk h=>by have h:_=_:=h;subst h;first|(exfalso;omega)|(show _≤_;omega)|exact⟨by first|omega|assumption,(S.mem _ hk).1 ((pV.mem _ (ak gb)).1 ei)⟩|exact .inl rfl|exact .inr rfl|exact .inr (.inl rfl)|exact .inr (.inr rfl)|exact .inr (.inr (.inl rfl))|exact rfl);have LU:=iH;clear gb;have gb:=LU;clear LU;refine ab ?_
 first|refine re ?_|simp+decide only[rf,jC,if_true,if_false]|skip
 exact fU rfl ⟨_,hM,⟨by rw[bc];exact gb,ei,hB⟩,S⟩
theorem Du {b B:Nat}:Uo Tryz.prog 139 [.pointer (some ⟨b,0,none⟩)] B (WJ b B):=
 ⟨ac4,fun ts M w M' w' ⟨h1,h2,h3⟩ s=>⟨s.aM h1,(s.mem _ (ak h1)).2 h2,h3⟩,fun ts M w t i hJ hM h1 h2 _ h4=>BA w hM h1 h2 h4 hJ⟩
theorem Dv {M:aD} {d:Dc} {v0:Value} (w0:World) (hM:Lt M w0) (hv:RT.dc.V M w0 d v0) (hl:∀f∈d.2,f.1.length≤900000∧f.2.length≤900000) (hd8:d.2.length≤8):
  Spec Tryz.prog 89 #[v0] w0 (fun v w=>v= .int .i64 ((cJ d.2).length:Int)∧Step M w0 M w aC):=by
 refine bm (args:=[_]) (fn:=Tryz.f89) Tryz.func89 rfl (n:=8) Tryz.ntmps89 ?_;have S:Step M w0 M w0 aC:=(ax _ _).cH (fun _ h=>h.elim) (fun _ h=>h.elim);refine aj (ae ?_);refine nP (A:=RT.dc) rfl rfl hM hv rfl (fun u0 w1 dw s0 _=>?_);replace hM:=s0.lt hM;have:=S.size;replace S:=S.aB s0;refine ah rfl rfl (ab (aj (ae ?_)));refine eE M I3 rfl (fun mz C2 TW TX jW nv=>?_);obtain⟨lu,mA⟩:∃M',M'=ins M mz:=⟨_,rfl⟩;rw[←mA]at nv;have iI:lu mz:=by rw[mA];exact .inl rfl
 change C2.heap[mz]? =some (.cells #[.int .i64 0] _ _)at jW;replace dw:=dw.le (by decide) nv.le;replace hM:=nv.lt hM;have:=S.size;replace S:=S.aB nv;refine cw (M:=lu) I3 rfl rfl jW rfl (rfl) iI (fun Ur zI xa=>?_);change Ur.heap[_]? =some (Obj.cells #[.int .i64 0] _ _)at zI;have:=ak jW;replace iI:=(xa.mem _ this).2 iI;replace dw:=dw.le (by decide) xa.le;replace hM:=xa.lt hM;have:=S.size;replace S:=S.trans xa (fun k hk h=>by have h:_=_:=h;subst h;first|(exfalso;omega)|(show _≤_;omega)|exact⟨by first|omega|assumption,(S.mem _ hk).1 ((xa.mem _ (ak jW)).1 iI)⟩|exact .inl rfl|exact .inr rfl|exact .inr (.inl rfl)|exact .inr (.inr rfl)|exact .inr (.inr (.inl rfl))|exact rfl);have RA:=zI;clear jW;have jW:=RA;clear RA;refine ab (aj (ae ?_));refine cN (M:=lu) (A:=RT.dc) bj rfl oY (by decide) rfl rfl rfl dw (ao _ _) (fun v2 Cn=>?_);refine kg (xs:=[]) (ys:=[.tmp 3]) rfl rfl rfl ?_;refine aY rfl rfl Xw (Az (cap:=[.pointer (some ⟨mz,0,none⟩)]) (B:=w0.heap.size) _ hM Cn hl hd8 Du ⟨jW,iI,by omega⟩) (fun r2 w2 hc=>?_);obtain⟨M2,EX,⟨g2,_,_⟩,s2⟩:=hc;replace S:=S.l7 s2 (aN _);refine ab (aj (ae (aP aw rfl rfl rfl g2 rfl (ah rfl rfl (ab (aQ ?_))))));exact aV rfl rfl ⟨rfl,S.back⟩
end Go.K
namespace Go.K
section
variable {P:Program} {r:Option Nat} {n:Nat} {L:Sl} {ds:List Deferred} {w:World} {K:Kt} {ops:Array Oper} {rest:List Oper} {d:Nat} {x y z:Operand} {ty:TypeId} {pos:String} {af:Array Edge}
variable {kt:TypeId} {M:aD} {b mb clock:Nat} {es:List MapEntry} {sn:Array Nat}
theorem Rg.rangeMap {t e:TypeId} (M:aD) (ht:P.underlying t=some (.map kt e)) (hx:ev L x=some (.map (some mb))) (hd:Nat.blt d n=true) (h:fH P kt w mb es clock)
  (k:∀b w',w.heap.size≤b→b<w'.heap.size→w'.heap[b]? =some (.mapIter (some mb) clock #[] clock)→Step M w (ins M b) w' aC→Rg P r n ops rest ((d,.pointer (some ⟨b,0,none⟩))::L) ds w' K):
  Rg P r n ops ({dst:=some d,op:= .range t x,type:=ty,pos,after:=af,guard:=none}::rest) L ds w K:=by
 refine .op (fun _ h=>by cases h) rfl rfl hd (.pointer (some ⟨w.heap.size,0,none⟩)) (w.alloc (.mapIter (some mb) clock #[] clock)) (fun ρ hρ=>?_) (k w.heap.size _ (aN _) (by simp) (cr w _) ((dm M w _).own (aN _) (by simp)));simp only[execOp,hρ x _ hx];simp[Instr.range,cn,run_underlying ht,dP h.at_,newObj,Sem.run]
theorem pN {sb:Option Nat} {s c:Nat} (hb:w.heap[b]? =some (.mapIter sb s sn c)):(getObj b).run P w= .ok (.mapIter sb s sn c) w:=by simp[getObj,Sem.run,hb]
theorem FN (h:fH P kt w mb es clock) (seen:Array Nat):(!seen.isEmpty&& !es.toArray.isEmpty&&es.toArray.all (fun x=>decide (x.born≥clock)))=false:=by
 cases es with
 |nil=>simp
 |cons e l=>
  have:=h.lt e (by simp);simp only[Bool.and_eq_false_iff];right;rw[dr];intro h2;rw[Array.all_eq_true_iff_forall_mem]at h2;have:=h2 e (by simp);simp at this;omega
theorem Dw (k:Nat) (hk:0<k):∃j w1,j<k∧(∀M,Step M w M w1 aC)∧w1.heap=w.heap∧(choose (Question.mapNext k)).run P w= .ok j w1:=by
 by_cases hf:k≤1
 ·exact⟨0,w,hk,fun M=>ax M w,rfl,by simp[choose,Sem.run,Question.forced,hf]⟩
 ·exact⟨_,w.drew,Nat.mod_lt _ hk,fun M=>lY M w,rfl,by
   simp only[choose,Sem.run,Question.forced,decide_eq_true_eq,hf,if_false,Question.cut];rfl⟩
theorem LV (h:fH P kt w mb es clock) (hb:w.heap[b]? =some (.mapIter (some mb) clock sn clock)) (hm:M b):
  ((∀e∈es,e.born∈sn)∧(Instr.next (.pointer (some ⟨b,0,none⟩)) false ty).run P w= .ok (.tuple #[.bool false]) w)∨
  ∃e w',e∈es∧e.born∉sn∧w'.heap[b]? =some (.mapIter (some mb) clock (sn.push e.born) clock)∧Step M w M w' (fun k=>k=b)∧(Instr.next (.pointer (some ⟨b,0,none⟩)) false ty).run P w= .ok (.tuple #[.bool true,e.key,e.val]) w':=by
 have dV:=ak hb;simp only[Instr.next,cn,pN hb,cC,dP h.at_,FN h sn,Bool.false_eq_true,if_false];have hL:∀e∈es.toArray.filter (fun e=> !sn.contains e.born),e.born<clock:=fun e he=>h.lt e (by simpa using(Array.mem_filter.1 he).1)
 have ku:∀e,e∈es.toArray.filter (fun e=> !sn.contains e.born)↔e∈es∧e.born∉sn:=fun e=>by simp[Array.mem_filter]
 generalize es.toArray.filter (fun e=> !sn.contains e.born)=Lf at hL ku ⊢;have e1:Lf.filter (fun x=>decide (x.born<clock))=Lf:=Array.filter_eq_self.2 fun x hx=>by simpa using hL x hx
 have e2:Lf.filter (fun x=>decide (x.born≥clock))= #[]:=by
  rw[Array.filter_eq_empty_iff];intro x hx;have:=hL x hx;simp;omega
 simp only[e1,e2,Array.append_empty];by_cases h0:Lf.size=0
 ·left;have rj:Lf= #[]:=Array.eq_empty_of_size_eq_zero h0;subst rj;refine⟨fun e he=>?_,by simp[choose,Sem.run,Question.forced]⟩;by_cases hs:e.born∈sn
  ·exact hs
  ·exact absurd ((ku e).2 ⟨he,hs⟩) (by simp)
 ·right;have eQ:Lf.isEmpty=false:=by simp[Array.isEmpty,h0]
  simp only[eQ,Bool.false_eq_true,if_false,Array.empty_append,Array.size_map];obtain⟨j,w1,hj,hs1,hh1,gN⟩:=Dw (P:=P) (w:=w) Lf.size (by omega);have uW:w1.heap[b]? =some (.mapIter (some mb) clock sn clock):=by rw[hh1];exact hb
  have eR:=(ku Lf[j]).1 (by simp);refine⟨Lf[j],{w1 with heap:=w1.heap.setIfInBounds b (.mapIter (some mb) clock (sn.push Lf[j].born) clock)},eR.1,eR.2,by simp[dE,hh1,dV],?_,?_⟩
  ·exact((hs1 M).cH (fun _ h=>h.elim) (fun k hk=>by subst hk;exact hm)).trans (jj M hm) (fun _ _ h=>h)
  ·simp only[gN,cC,Array.getElem?_map,Array.getElem?_eq_getElem hj,cW,cn];simp[setObj,Sem.run,uW]
theorem Rg.Pz (hx:ev L x=some (.pointer (some ⟨b,0,none⟩))) (hb:w.heap[b]? =some (.mapIter (some mb) clock sn clock)) (hm:M b) (h:fH P kt w mb es clock) (hd:Nat.blt d n=true)
  (k1:∀e w',e∈es→e.born∉sn→w'.heap[b]? =some (.mapIter (some mb) clock (sn.push e.born) clock)→Step M w M w' (fun k=>k=b)→Rg P r n ops rest ((d,.tuple #[.bool true,e.key,e.val])::L) ds w' K)
  (k2:(∀e∈es,e.born∈sn)→Rg P r n ops rest ((d,.tuple #[.bool false])::L) ds w K):
  Rg P r n ops ({dst:=some d,op:= .next x false,type:=ty,pos,after:=af,guard:=none}::rest) L ds w K:=by
 rcases LV (ty:=ty) h hb hm with⟨h1,h2⟩|⟨e,w',h1,h2,h3,h4,h5⟩
 ·refine .op (fun _ h=>by cases h) rfl rfl hd _ w (fun ρ hρ=>?_) (k2 h1);simp only[execOp,hρ x _ hx];simp[h2]
 ·refine .op (fun _ h=>by cases h) rfl rfl hd _ w' (fun ρ hρ=>?_) (k1 e w' h1 h2 h3 h4);simp only[execOp,hρ x _ hx];simp[h5]
theorem Rg.entry {e:MapEntry} {sn':Array Nat} (hx:ev L x=some (.pointer (some ⟨b,0,none⟩))) (hb:w.heap[b]? =some (.mapIter (some mb) clock (sn'.push e.born) clock)) (h:fH P kt w mb es clock) (he:e∈es) (hd:Nat.blt d n=true)
  (k:Rg P r n ops rest ((d,.tuple #[e.key,e.val])::L) ds w K):
  Rg P r n ops ({dst:=some d,op:= .entry x,type:=ty,pos,after:=af,guard:=none}::rest) L ds w K:=by
 have hf:es.find? (fun x=>x.born==e.born)=some e:=by
  rw[List.find?_eq_some_iff_getElem];obtain⟨i,hi⟩:=bB.1 he;obtain⟨h1,h2⟩:=an.1 hi;refine⟨by simp,i,h1,h2,fun j hj=>?_⟩;have wU:j<es.length:=by omega
  have:=fun q=>h.Dr (ar wU) hi q
  simp only[iQ,beq_eq_false_iff_ne,ne_eq];intro q;have:=this q;omega
 refine .op (fun _ h=>by cases h) rfl rfl hd _ w (fun ρ hρ=>?_) k;simp only[execOp,hρ x _ hx,Instr.entry,cn,pN hb,cC,dP h.at_];simp[hf,cn,dP h.at_]
end
end Go.K
namespace Go.K
open Go.Proofs
set_option maxRecDepth 10000
theorem filter_lt {α:Type} {p q:α→Bool} {a:α}:∀{l:List α},(∀x∈l,q x=true→p x=true)→a∈l→p a=true→q a=false→(l.filter q).length<(l.filter p).length
 |[],_,ha,_,_=>by cases ha
 |x::l,h,ha,hp,hq=>by
  have hle:(l.filter q).length≤(l.filter p).length:=by
   rw[←List.countP_eq_length_filter,←List.countP_eq_length_filter];exact List.countP_mono_left fun y hy=>h y (bU _ hy)
  rcases cb.1 ha with rfl|ha
  ·rw[List.filter_cons_of_pos hp,List.filter_cons_of_neg (by simp[hq])];simp;omega
  ·have:=filter_lt (fun y hy=>h y (bU _ hy)) ha hp hq;by_cases hx:q x=true
   ·rw[List.filter_cons_of_pos hx,List.filter_cons_of_pos (h x (bG ..) hx)];simp;omega
   ·rw[List.filter_cons_of_neg hx];by_cases hx2:p x=true
    ·rw[List.filter_cons_of_pos hx2];simp;omega
    ·rw[List.filter_cons_of_neg hx2];omega
theorem fH.Us {P:Program} {kt:TypeId} {w:World} {b clock:Nat} {es:List MapEntry} (h:fH P kt w b es clock) {x y:MapEntry} (hx:x∈es) (hy:y∈es) (hk:x.key=y.key):x=y:=by
 obtain⟨i,hi⟩:=bB.1 hx;obtain⟨j,hj⟩:=bB.1 hy;rcases eM i j with jr|rfl|jr
 ·exact absurd hk (ix h.keys hi hj jr)
 ·exact aH (hi.symm.trans hj)
 ·exact absurd hk.symm (ix h.keys hj hi jr)
theorem fH.PA {P:Program} {kt:TypeId} {w:World} {b clock:Nat} {es:List MapEntry} (h:fH P kt w b es clock) {x y:MapEntry} (hx:x∈es) (hy:y∈es) (hk:x.born=y.born):x=y:=by
 obtain⟨i,hi⟩:=bB.1 hx;obtain⟨j,hj⟩:=bB.1 hy;rcases eM i j with jr|rfl|jr
 ·exact absurd hk (ix h.born hi hj jr)
 ·exact aH (hi.symm.trans hj)
 ·exact absurd hk.symm (ix h.born hj hi jr)
def FO (w:World) (k:Nat):Prop:=∃m s sn c,w.heap[k]? =some (.mapIter m s sn c)
def HC (es:List MapEntry):Prop:=∀e∈es,∃t:Fd,e.key=kv t∧t.1.length≤140737488355328∧t.2.length≤140737488355328
theorem FP {yl bs mb clock:Nat} {es:List MapEntry} {J:List Fd→World→Prop} (w0:World) (hk:HC es) (hJs:∀ts w w' N,J ts w→Step allM w allM w' N→(∀k,k<w.heap.size→N k→w0.heap.size≤k∧FO w k)→J ts w') (hJb:∀ts w,J ts w→w.heap[bs]? =some (.cells #[.map (some mb)] 217 (0,0))∧fH Tryz.prog 78 w mb es clock) (hy:∀ts w (t:Fd),J ts w→(∃e∈es,e.key=kv t)→t∉ts→ts.length<es.length→vW Tryz.prog yl [kv t].toArray w (fun r w'=>r= .bool true∧J (ts++[t]) w'∧∃N,Step allM w allM w' N∧∀k,N k→¬FO w k)) (h0:J [] w0):
  Spec Tryz.prog 188 #[.func (.yield yl) #[] #[],.pointer (some ⟨bs,0,none⟩)] w0 (fun v w=>∃ts,J ts w∧ts.Nodup∧∀t,t∈ts↔∃e∈es,e.key=kv t):=by
 obtain⟨gb,hW⟩:=hJb _ _ h0;have hJ:=h0;clear h0;refine bm (args:=[_,_]) (fn:=Tryz.f188) Tryz.func188 rfl (n:=14) Tryz.ntmps188 ?_;have S:Step allM w0 allM w0 allM:=(ax _ _).cH (fun _ h=>h.elim) (fun _ _=>trivial);refine aj (ae (aP l5 rfl rfl rfl (by assumption) rfl ?_));refine Rg.rangeMap allM l5 rfl rfl hW (fun bi w1 uW Aa gi s1=>?_);replace s1:=s1.all;have:=ak gb;replace gb:=s1.aM gb;replace hJ:=hJs _ _ _ _ hJ s1 (fun _ _ h=>h.elim);have:=S.size;replace S:=S.aB s1;refine ab (aZ ?_);refine dn (σ:=List Fd×Array Nat) (fun s=>[(0,.func (.yield yl) #[] #[]),(1,.pointer (some ⟨bs,0,none⟩)),(5,.pointer (some ⟨bi,0,none⟩))]) (fun s w=>J s.1 w∧Step allM w0 allM w allM∧w.heap[bi]? =some (.mapIter (some mb) clock s.2 clock)∧s.1.Nodup∧(∀e∈es,e.born∈s.2↔∃t∈s.1,e.key=kv t)∧(∀t∈s.1,∃e∈es,e.key=kv t)) (fun s=>(es.filter fun e=>decide (e.born∉s.2)).length) ([],#[]) (.cons rfl (.cons rfl (.cons rfl .nil))) ?_ ?_
 ·exact⟨hJ,S,gi,List.nodup_nil,fun e _=>by simp,fun t h=>by cases h⟩
 ·rintro⟨ts,sn⟩ w ⟨hJ,S,gi,oD,WE,ku⟩;dsimp only at hJ gi oD WE ku ⊢;obtain⟨gb,hW⟩:=hJb _ _ hJ;refine aj (ae ?_);refine Rg.Pz (M:=allM) rfl gi trivial hW rfl (fun Ut C2 tN RB jW nv=>?_) (fun aeD=>?_)
  ·have gi0:=gi;replace gb:=nv.keep gb (fun hk=>by have hk:_=_:=hk;omega);replace hJ:=hJs _ _ _ _ hJ nv (fun k hk h=>by have h:k=bi:=h;subst h;exact⟨uW,_,_,_,_,gi0⟩);have:=S.size;replace S:=S.trans nv (fun k hk h=>by have h:_=_:=h;subst h;first|(exfalso;omega)|(show _≤_;omega)|exact .inl rfl|exact .inr rfl|exact .inr (.inl rfl)|exact .inr (.inr rfl)|exact .inr (.inr (.inl rfl))|exact rfl);have gi_:=jW;clear gi;have gi:=gi_;clear gi_;refine bZ rfl rfl rfl (ab (aj (nG rfl (aT (aZ (aj (ae (Rg.entry rfl gi (hJb _ _ hJ).2 tN rfl ?_))))))));obtain⟨t,PB,RC,IP⟩:=hk _ tN;have S0:t∉ts:=fun h=>RB ((WE _ tN).2 ⟨t,h,PB⟩)
   have dV:ts.length<es.length:=by
    have h1:((t::ts).map kv).Nodup:=cA.2 ((List.nodup_cons.2 ⟨S0,oD⟩).imp fun h e=>h (vf e))
    have h2:=h1.length_le_of_subset (l₂:=es.map (·.key)) (fun x hx=>by
     obtain⟨u,hu,rfl⟩:=bP.1 hx;rcases cb.1 hu with rfl|hu
     ·rw[←PB];exact gQ tN
     ·obtain⟨e,he,h⟩:=ku u hu;rw[←h];exact gQ he)
    simp at h2;omega
   rw[PB];refine bZ rfl rfl rfl ?_;refine sf (A:=RT.fd) (M:=aC) xX rfl rfl rfl rfl rfl (Dt RC IP) (ao _ _) (Lt.none _) (fun u2 w2 wW s2 z2=>?_);replace s2:=s2.all;have:=ak gb;replace gb:=s2.aM gb;have:=ak gi;replace gi:=s2.aM gi;replace hJ:=hJs _ _ _ _ hJ s2 (fun _ _ h=>h.elim);have:=S.size;replace S:=S.aB s2
   skip
   refine ab (aj (ae (ad rfl rfl ?_)));refine cN (M:=aC) (A:=RT.fd) ck rfl xX (by decide) rfl rfl rfl wW (ao _ _) (fun v3 xo=>?_);obtain rfl:=nw xo;refine Rg.yield (vs:=[kv t]) rfl rfl rfl (hy _ _ t hJ ⟨_,tN,PB⟩ S0 dV) (fun r3 w3 hc=>?_);obtain⟨rfl,Ys,N3,s3,hN3⟩:=hc;clear jW;replace gi:=s3.keep gi (fun h=>hN3 _ h ⟨_,_,_,_,gi⟩);replace hJ:=Ys;clear Ys;obtain⟨gb,-⟩:=hJb _ _ hJ;replace S:=S.trans s3 (fun _ _ _=>trivial);refine mO rfl rfl (aU (v':= .bool false) rfl (ab (jt rfl (aT ?_))));refine⟨rfl,(ts++[t],sn.push Ut.born),(.cons rfl (.cons rfl (.cons rfl .nil))),?_,?_⟩
   ·have su:∀e∈es,e.born=Ut.born↔e.key=kv t:=fun e he=>by
     constructor
     ·intro h;rw[fH.PA hW he tN h,PB]
     ·intro h;rw[fH.Us hW he tN (h.trans PB.symm)]
    refine⟨hJ,S,gi,List.nodup_append.2 ⟨oD,by simp,fun a ha b hb h=>by simp at hb;subst hb;subst h;exact S0 ha⟩,fun e he=>?_,fun u hu=>?_⟩
    ·rw[Array.mem_push,WE e he,su e he];constructor
     ·rintro(⟨u,h1,h2⟩|h)
      ·exact⟨u,gv _ h1,h2⟩
      ·exact⟨t,by simp,h⟩
     ·rintro⟨u,h1,h2⟩;rcases ch.1 h1 with h1|h1
      ·exact .inl ⟨u,h1,h2⟩
      ·simp at h1;subst h1;exact .inr h2
    ·rcases ch.1 hu with hu|hu
     ·exact ku u hu
     ·simp at hu;subst hu;exact⟨_,tN,PB⟩
   ·exact filter_lt (a:=Ut) (fun e _ h=>by simp only[decide_eq_true_eq,Array.mem_push,not_or]at h ⊢;exact h.1) tN (by simpa using RB) (by simp)
  ·refine bZ rfl rfl rfl (ab (aj (jt rfl (cK ?_))))
   first|refine re ?_|simp+decide only[rf,jC,if_true,if_false]|skip
   exact fU rfl ⟨ts,hJ,oD,fun t=>⟨ku t,fun⟨e,he,PB⟩=>by obtain⟨t',h1,h2⟩:=(WE e he).1 (aeD e he);rw[←vf (h2.symm.trans PB)];exact h1⟩⟩
end Go.K
namespace Go.K
open Go.Proofs
set_option maxRecDepth 10000
theorem dZ.any {α:Type} {A:RT α} (hA:∀M w M' w' x vs,A.R M w x vs→A.R M' w' x vs) {M M':aD} {w w':World}:∀{xs:List α} {C:List Value},dZ A M w xs C→dZ A M' w' xs C
 |[],_,h=>h
 |x::xs,C,h=>by
  obtain⟨vs,r,h1,h2,h3⟩:=h;exact⟨vs,r,h1,hA _ _ _ _ _ _ h2,dZ.any hA h3⟩
theorem BB (M:aD) (w:World) (M':aD) (w':World) (x:Fd) (vs:List Value) (h:RT.fd.R M w x vs):RT.fd.R M' w' x vs:=h
theorem Own.HD {α:Type} {A:RT α} (hA:∀M w M' w' x vs,A.R M w x vs→A.R M' w' x vs) {e:TypeId} {M N:aD} {w w':World} {base:Nat} {v:Value} {xs:List α} (h:Own A e M w base v xs) (s:Step allM w allM w' N) (hn:∀b,v.ownBlock=some b→¬N b):Own A e (mS v) w' base v xs:=by
 obtain⟨⟨C,h1,h2⟩,_⟩:=h;refine⟨⟨C,⟨h1.1,?_⟩,dZ.any hA h2⟩,fun _ h=>h⟩;rcases h1.2 with h3|⟨g,cap,cur,h3,h4,h5,h6,h7,h8⟩
 ·exact .inl h3
 ·exact .inr ⟨g,cap,cur,h3,h4,by rw[s.same g (ak h5) (hn g (by rw[h3];rfl))];exact h5,h6,h7,h8⟩
theorem Own.isCells {α:Type} {A:RT α} {e:TypeId} {M:aD} {w:World} {base b:Nat} {v:Value} {xs:List α} (h:Own A e M w base v xs) (hb:v.ownBlock=some b):∃cs,w.heap[b]? =some (.cells cs e (0,0)):=by
 obtain⟨⟨C,h1,_⟩,_⟩:=h;rcases h1.2 with h3|⟨g,cap,cur,h3,h4,h5,_⟩
 ·rw[h3.1]at hb;cases hb
 ·rw[h3]at hb;cases hb;exact⟨_,h5⟩
structure Aq (w0:World) (bt D:Nat) (st:Loop) (v:Value) (ts:List Fd) (w:World):Prop where
 S:Step allM w0 allM w aC
 c:w.heap[bt]? =some (.cells #[v] 155 (0,0))
 o:Own RT.fd 78 (mS v) w w0.heap.size v ts
 d:w.heap[D]? =some (.deferred (some []))
 r:w.heap[D+1]? =some (.loop st)
 hb:w0.heap.size≤bt
 hD:w0.heap.size≤D
theorem Aq.step {w0 w w':World} {bt D:Nat} {st:Loop} {v:Value} {ts:List Fd} {N:aD} (h:Aq w0 bt D st v ts w) (s:Step allM w allM w' N) (hN:∀k,k<w.heap.size→N k→w0.heap.size≤k∧FO w k):Aq w0 bt D st v ts w':=by
 have no:∀{k o},w.heap[k]? =some o→(∀m s sn c,o≠ .mapIter m s sn c)→¬N k:=fun hk ho hn=>by
  obtain⟨_,m,s,sn,c,h'⟩:=hN _ (ak hk) hn;rw[hk]at h';exact ho m s sn c (aH h')
 refine⟨h.S.trans s (fun k hk hn=>?_),s.keep h.c (no h.c (by intros;simp)),h.o.HD BB s (fun b hb=>?_),s.keep h.d (no h.d (by intros;simp)),s.keep h.r (no h.r (by intros;simp)),h.hb,h.hD⟩
 ·have:=(hN k (iu hk h.S.size) hn).1;omega
 ·obtain⟨cs,hc⟩:=h.o.isCells hb;exact no hc (by intros;simp)
theorem Aq.o8 {w0 w:World} {bt D:Nat} {st st':Loop} {v:Value} {ts:List Fd} (h:Aq w0 bt D st v ts w):Aq w0 bt D st' v ts (w.putObj (D+1) (.loop st')):=by
 have s:Step allM w allM (w.putObj (D+1) (.loop st')) (fun k=>k=D+1):=eC trivial;have hD:=h.hD;refine⟨h.S.trans s (fun k hk hn=>by have hn:k=D+1:=hn;omega),s.keep h.c (fun hn=>by have hn:bt=D+1:=hn;have h1:=h.c;rw[hn,h.r]at h1;cases h1),h.o.HD BB s (fun b hb hn=>?_),s.keep h.d (fun hn=>by have hn:D=D+1:=hn;omega),by have:=ak h.r;simp[World.putObj,dE,this],h.hb,h.hD⟩;have hn:b=D+1:=hn;obtain⟨cs,hc⟩:=h.o.isCells hb;rw[hn,h.r]at hc;cases hc
theorem Dx {bs mb clock:Nat} {es:List MapEntry} (w0:World) (hk:HC es) (hes:es.length≤100000000) (Uu:w0.heap[bs]? =some (.cells #[.map (some mb)] 217 (0,0))) (hW:fH Tryz.prog 78 w0 mb es clock):
  Spec Tryz.prog 237 #[.slice none 0 0,.func (.func 188) #[] [.pointer (some ⟨bs,0,none⟩)].toArray] w0 (fun v w=>∃ts:List Fd,ts.Nodup∧(∀t,t∈ts↔∃e∈es,e.key=kv t)∧Own RT.fd 78 (mS v) w w0.heap.size v ts∧Step allM w0 allM w aC):=by
 refine qn (args:=[_,_]) (fn:=Tryz.f237) Tryz.func237 rfl (n:=13) Tryz.ntmps237 (aj (ae ?_));refine wM allM rfl rfl (fun bt w1 uW aoi gt s1=>?_);change w1.heap[bt]? =some (.cells #[.slice none 0 0] 155 (0,0))at gt;replace s1:=s1.all;refine ah rfl rfl (ab (aj (aj (ae (ad rfl rfl (ab (aZ ?_)))))));refine T.range (gf:=188) (lb:=[.pointer (some ⟨bs,0,none⟩)].toArray) rfl ada (fun rec pS=>?_);obtain⟨D,hD⟩:∃D,D=w1.heap.size:=⟨_,rfl⟩;have sA:Step allM w1 allM ((w1.alloc (.deferred (some []))).alloc (.loop (rec .ready none))) aC:=(dm _ _ _).aB (dm _ _ _)
 have h0:Aq w0 bt D (rec .ready none) (.slice none 0 0) [] ((w1.alloc (.deferred (some []))).alloc (.loop (rec .ready none))):=by
  refine⟨s1.aB sA,sA.aM gt,dD _ _ _ _ _,?_,?_,uW,by rw[hD];exact s1.size⟩
  ·rw[hD];exact(dm allM (w1.alloc _) _).aM (cr w1 _)
  ·rw[hD];have:=cr (w1.alloc (.deferred (some []))) (.loop (rec .ready none));rwa [World.size_alloc]at this
 rw[←hD]at pS ⊢;have hz:=h0.S.size;refine Spec.mono (FP (J:=fun ts w=>∃v,Aq w0 bt D (rec .ready none) v ts w) _ hk (fun ts w w' N ⟨v,h⟩ s hN=>⟨v,h.step s (fun k hk hn=>⟨dW hz (hN k hk hn).1,(hN k hk hn).2⟩)⟩) (fun ts w ⟨v,h⟩=>⟨h.S.aM Uu,hW.aL h.S⟩) (fun ts wr t hJ ku S0 dV=>?_) ⟨_,h0⟩) (fun _ w3 h3=>?_)
 ·obtain⟨v,h⟩:=hJ;obtain⟨e,he,hke⟩:=ku;obtain⟨t',aeF,RC,IP⟩:=hk e he;obtain rfl:=vf (hke.symm.trans aeF);have hzr:=ak h.r;refine nT (ps:=[7]) (vs:=[kv t]) pS h.r rfl (by decide) (ae ?_);refine sf (A:=RT.fd) (M:=fun k=>k=D+1) xX rfl rfl rfl rfl rfl (Dt RC IP) (ao _ _) (fun k hk=>by have hk:k=D+1:=hk;omega) (fun u2 w2 wW s2 z2=>?_);replace s2:=s2.all
  skip
  refine ab ?_;refine⟨rfl,s2.aM h.r,?_⟩;have h4:=(h.step s2 (fun _ _ h=>h.elim)).o8 (st':=rec .busy none);have s3':Step (fun k=>k=D+1) w2 (fun k=>k=D+1) (w2.putObj (D+1) (.loop (rec .busy none))) (fun k=>k=D+1):=eC rfl;have s3:=s3'.all;have EW:=wW.le (by decide) s3'.le;clear s3';generalize w2.putObj (D+1) _=w4 at h4 s3 EW ⊢;refine aZ (ae (aP jP rfl rfl rfl h4.c rfl ?_));refine cN (M:=fun k=>k=D+1) (A:=RT.fd) ck rfl xX (by decide) rfl rfl rfl EW (ao _ _) (fun v3 xo=>?_);obtain rfl:=nw xo;refine ep (A:=RT.fd) (hn:=by decide) (M:=mS v) jP xX (by decide) rfl rfl (fun b hb=>(h4.o.base b hb).2) (Dt RC IP) (.inl rfl) (fun u5 w5 jy s5=>?_);refine dd (M:=mS v) (base:=w0.heap.size) jP xX rfl rfl rfl rfl (h4.o.aL s5) jy (ao _ _) (by simp;omega) (by simp;omega) (dW h4.S.size s5.size) (fun v6 M6 w6 tO s6=>?_);have gc:=s6.all.keep (s5.all.aM h4.c) (fun hn=>h4.o.eO h4.c (by decide) hn);refine cw (M:=allM) acS rfl rfl gc rfl (by obtain⟨_,_,he,_⟩:=tO.isSlice;rw[he];rfl) trivial (fun w7 gc7 s7=>?_);refine ab ?_
  have aeH:∀k,mS v k→¬FO wr k:=fun k hk ⟨_,_,_,_,h9⟩=>by
   obtain⟨cs,hc⟩:=h.o.isCells hk;rw[hc]at h9;cases h9
  have pr:∀k,k<wr.heap.size→k=D+1→¬FO wr k:=fun k _ hk ⟨_,_,_,_,h9⟩=>by subst hk;rw[h.r]at h9;cases h9
  have pc:∀k,k<wr.heap.size→k=bt→¬FO wr k:=fun k _ hk ⟨_,_,_,_,h9⟩=>by subst hk;rw[h.c]at h9;cases h9
  have h7:Aq w0 bt D (rec .busy none) v6 (ts++[t]) w7:=by
   have nb:∀b,v6.ownBlock=some b→b≠bt:=fun b hb hn=>by subst hn;exact tO.eO gc (by decide) hb
   refine⟨?_,gc7,tO.HD BB s7 nb,?_,?_,h.hb,h.hD⟩
   ·refine((h4.S.aB s5.all).trans s6.all (fun k hk hn=>?_)).trans s7 (fun k hk hn=>?_)
    ·have:=(h4.o.base k hn).1;omega
    ·have hn:k=bt:=hn;have:=h.hb;omega
   ·exact s7.keep (s6.all.keep (s5.all.aM h4.d) (fun hn=>by obtain⟨cs,hc⟩:=h4.o.isCells hn;rw[h4.d]at hc;cases hc)) (fun hn=>by have hn:D=bt:=hn;have h1:=h.c;rw[←hn,h.d]at h1;cases h1)
   ·exact s7.keep (s6.all.keep (s5.all.aM h4.r) (fun hn=>by obtain⟨cs,hc⟩:=h4.o.isCells hn;rw[h4.r]at hc;cases hc)) (fun hn=>by have hn:D+1=bt:=hn;have h1:=h.c;rw[←hn,h.r]at h1;cases h1)
  have s8:Step allM w7 allM (w7.putObj (D+1) (.loop (rec .ready none))) (fun k=>k=D+1):=eC trivial;exact⟨h7.r,rfl,⟨v6,h7.o8⟩,fun k=>¬FO wr k,(((((s2.cH (fun _ h=>h.elim) (fun _ _=>trivial)).trans s3 pr).aB s5.all).trans s6.all (fun k _ hn=>aeH k hn)).trans s7 pc).trans s8 pr,fun _ h=>h⟩
 ·obtain⟨ts,⟨v,h⟩,oD,ku⟩:=h3;left;refine⟨h.r,?_⟩;have h5:=h.o8 (st':=rec .exhausted none);generalize w3.putObj (D+1) _=wE at h5 ⊢;refine aj (ae (aP jP rfl rfl rfl h5.c rfl (ah rfl rfl (ab (aQ ?_)))));have sE:Step allM wE allM (wE.putObj D (.deferred none)) (fun k=>k=D):=eC trivial;have hDD:=h.hD;exact Bf rfl rfl h5.d ⟨ts,oD,ku,h5.o.HD BB sE (fun b hb hn=>by have hn:b=D:=hn;obtain⟨cs,hc⟩:=h5.o.isCells hb;rw[hn,h5.d]at hc;cases hc),h5.S.trans sE (fun k hk hn=>by have hn:k=D:=hn;omega)⟩
end Go.K
namespace Go.K
open Go.Proofs
set_option maxRecDepth 10000
theorem BC {bs mb clock:Nat} {es:List MapEntry} (w0:World) (hk:HC es) (hes:es.length≤100000000) (Uu:w0.heap[bs]? =some (.cells #[.map (some mb)] 217 (0,0))) (hW:fH Tryz.prog 78 w0 mb es clock):
  Spec Tryz.prog 186 #[.func (.func 188) #[] [.pointer (some ⟨bs,0,none⟩)].toArray] w0 (fun v w=>∃ts:List Fd,ts.Nodup∧(∀t,t∈ts↔∃e∈es,e.key=kv t)∧Own RT.fd 78 (mS v) w w0.heap.size v ts∧Step allM w0 allM w aC):=by
 refine bm (args:=[_]) (fn:=Tryz.f186) Tryz.func186 rfl (n:=5) Tryz.ntmps186 (aj (ae (ah rfl rfl (ab (aj (ae (ad rfl rfl ?_)))))));refine aY rfl rfl ado (Dx _ hk hes Uu hW) (fun r w1 hc=>?_);refine ah rfl rfl (ab (aQ ?_));exact aV rfl rfl hc
def dy (t:Fd):List UInt8:=t.1++[0]++t.2
theorem LW {M:aD} {t:Fd} (w0:World) (hM:Lt M w0) (h1:t.1.length≤1000000) (h2:t.2.length≤1000000):
  Spec Tryz.prog 80 #[kv t] w0 (fun v w=>v= .string ⟨(dy t).toArray⟩∧Step M w0 M w aC):=by
 refine bm (args:=[_]) (fn:=Tryz.f80) Tryz.func80 rfl (n:=9) Tryz.ntmps80 ?_;have S:Step M w0 M w0 aC:=(ax _ _).cH (fun _ h=>h.elim) (fun _ h=>h.elim);refine aj (ae ?_);refine nP (A:=RT.fd) rfl rfl hM (Dt (by omega) (by omega)) rfl (fun u0 w1 dw s0 _=>?_);replace hM:=s0.lt hM;have:=S.size;replace S:=S.aB s0;refine ah rfl rfl (ab (aj (ae ?_)));refine aK (M:=M) (A:=RT.fd) (B:=RT.str) ck rfl rfl I9 (by decide) (Pn) rfl rfl (by decide) (by assumption) (by repeat (first|exact ao _ _|refine aX (bu (by assumption)) ?_)) (fun zF lK=>?_);refine bR (M:=M) aF rfl rfl rfl rfl rfl lK (ao _ _) (fun v1 zo=>?_);obtain rfl:=fF zo;refine Rg.cat (p:=t.1) (q:=[0]) rfl rfl rfl (by simp;omega) ?_;refine aK (M:=M) (A:=RT.fd) (B:=RT.str) ck rfl rfl I9 (by decide) (WC) rfl rfl (by decide) (by assumption) (by repeat (first|exact ao _ _|refine aX (bu (by assumption)) ?_)) (fun K6 j5=>?_);refine bR (M:=M) aF rfl rfl rfl rfl rfl j5 (ao _ _) (fun v4 qR=>?_);obtain rfl:=fF qR;refine Rg.cat (p:=t.1++[0]) (q:=t.2) rfl rfl rfl (by simp;omega) (ah rfl rfl (ab (aQ ?_)));exact aV rfl rfl ⟨rfl,S⟩
end Go.K
namespace Go.K
open Go.Proofs
set_option maxRecDepth 10000
theorem BD (a b:List UInt8) (w:World):Spec Tryz.prog 137 #[.string ⟨a.toArray⟩,.string ⟨b.toArray⟩] w (fun v w'=>v= .int .i64 (Lib.compareBytes a b)∧w'=w):=(Any.strings_Compare Tryz.Pf ⟨a.toArray⟩ ⟨b.toArray⟩ w).mono fun e w' ⟨h1,h2⟩=>⟨_,h1,rfl,h2⟩
end Go.K
namespace Go.K
section
variable {P:Program} {r:Option Nat} {n:Nat} {L:Sl} {ds:List Deferred} {w:World} {K:Kt} {ops:Array Oper} {rest:List Oper} {d:Nat} {x:Operand} {ty:TypeId} {pos:String} {af:Array Edge}
theorem gX.tE {id:Nat} {l:List Oper} (hm:P.follows .mixedOrders=true) (dv:eH l 0=true) (h:gX P r n l L ds (w.drewN 1) K):T P r n (.region id l.toArray true) L ds w K:=by
 refine⟨fun a ha=>wpIn_region_draw fun t=>?_⟩;simp only[Region.schedule,hm,Bool.true_or,if_true,Region.linearise];obtain⟨J,h1,h2,h3,h4⟩:=h a ha;refine oP (J:=J) dv (fun {D D' a w} hi hD=>h1 D D' a w hi hD) (fun {D a' w' j o rest} hj ho pE hp lz hi hk=>h2 _ _ _ _ _ _ _ hj ho pE hp lz hi hk) h3 _ t _ a _ (by simp) (by simp[List.countP_replicate]) (fun i o h1 h2=>?_) (h1 _ _ _ _ h4 fun i _=>?_)
 ·simp[Array.getElem?_replicate]at h2
 ·simp[Array.getElem?_replicate]
theorem T.Uv {id:Nat} {l l':List Oper} (π:List Nat) (m:Nat) (fl:List Nat) (c:Nat) (N:aD) (hm:P.follows .mixedOrders=true) (Ff:xK π l=l') (rI:eH l 0=true) (hπ:lA π l.length=true) (qj:Nat.blt m l'.length=true) (dv:eH l' 0=true) (mQ:kq l' m=true) (ES:ll l' m fl c=true)
  (h:lh P r n l'.toArray (l'.take m) L ds (w.drewN 1) (fun L'=>(∀j o,j∈fl→l'[j]? =some o→bX P N (w.drewN 1) L' o)∧sx P r n l'.toArray N (w.drewN 1) K c (l'.drop m) L' ds (w.drewN 1))):T P r n (.region id l.toArray true) L ds w K:=by
 subst Ff;exact gX.tE hm rI (.perm π hπ rI (xJ m fl c N qj dv mQ ES h))
theorem Rg.LX {e:TypeId} {v:Value} (hx:ev L x=some v) (hd:Nat.blt d n=true) (k:Rg P r n ops rest ((d,.pointer (some ⟨w.heap.size,0,none⟩))::L) ds (w.alloc (.cells v.cells e (0,0))) K):
  Rg P r n ops ({dst:=some d,op:= .box e x,type:=ty,pos,after:=af,guard:=none}::rest) L ds w K:=by
 refine .op (fun _ h=>by cases h) rfl rfl hd _ (w.alloc (.cells v.cells e (0,0))) (fun ρ hρ=>?_) k;simp only[execOp,hρ x _ hx];simp[Instr.box,newVar,newRow,newObj,Sem.run]
theorem yr (w:World) (o:Obj):w.alloc o=Go.Sort.grow w #[o]:=by
 unfold World.alloc Go.Sort.grow;congr 1
theorem FQ (w:World) (os:Array Obj) (q:Nat):(Go.Sort.grow w os).drewN q=Go.Sort.grow (w.drewN q) os:=rfl
end
end Go.K
namespace Go.K
open Go.Proofs
set_option maxRecDepth 10000
abbrev gm (t:Fd):Obj:= .cells #[.string ⟨t.1.toArray⟩,.string ⟨t.2.toArray⟩] 78 (0,0)
theorem LY {t:Fd} (w0:World) (h1:t.1.length≤1000000) (h2:t.2.length≤1000000):
  Spec Tryz.prog 80 #[kv t] w0 (fun v w=>v= .string ⟨(dy t).toArray⟩∧w=w0.alloc (gm t)):=by
 refine bm (args:=[_]) (fn:=Tryz.f80) Tryz.func80 rfl (n:=9) Tryz.ntmps80 (aj (ae (Rg.LX rfl rfl ?_)));have gb:=cr w0 (gm t);change Rg _ _ _ _ _ _ _ (w0.alloc (gm t)) _;generalize hw:w0.alloc (gm t)=w1 at gb ⊢;refine ah rfl rfl (ab (aj (ae (bK (o':=0) ck rfl rfl I9 (by decide) rfl rfl (aP aF rfl rfl rfl gb rfl (Rg.cat (p:=t.1) (q:=[0]) rfl rfl rfl (by simp;omega) (bK (o':=1) ck rfl rfl I9 (by decide) rfl rfl (aP aF rfl rfl rfl gb rfl (Rg.cat (p:=t.1++[0]) (q:=t.2) rfl rfl rfl (by simp;omega) (ah rfl rfl (ab ?_)))))))))));refine aQ ?_;exact aV rfl rfl ⟨rfl,rfl⟩
theorem PC {s t:Fd} (w0:World) (h1:s.1.length≤1000000) (h2:s.2.length≤1000000) (h3:t.1.length≤1000000) (h4:t.2.length≤1000000):
  Spec Tryz.prog 136 #[kv s,kv t] w0 (fun v w=>v= .int .i64 (Lib.compareBytes (dy s) (dy t))∧w=((((w0.alloc (gm s)).alloc (gm t)).drewN 1).alloc (gm s)).alloc (gm t)):=by
 refine bm (args:=[_,_]) (fn:=Tryz.f136) Tryz.func136 rfl (n:=10) Tryz.ntmps136 (aj (ae (Rg.LX rfl rfl ?_)));change Rg _ _ _ _ _ _ _ (w0.alloc (gm s)) _;refine Rg.LX rfl rfl ?_;change Rg _ _ _ _ _ _ _ ((w0.alloc (gm s)).alloc (gm t)) _;have g1:((w0.alloc (gm s)).alloc (gm t)).heap[w0.heap.size]? =some (gm s):=(dm aC _ _).aM (cr w0 _);have g2:=cr (w0.alloc (gm s)) (gm t);have kp:=jG aC (((w0.alloc (gm s)).alloc (gm t)).drewN 1);refine ah rfl rfl (ab (aj ?_));apply T.Uv [0,2,1,3,4,5] 2 [1] 1 aC mixed
 ·simp+decide only[xK,sy,dQ,jd,iZ,ja,fa,cW,hY,qc,cond_true,cond_false,Nat.reduceBEq,Nat.reduceAdd,beq_self_eq_true];rfl
 ·rfl
 ·rfl
 ·rfl
 ·rfl
 ·rfl
 ·rfl
 have g1':(((w0.alloc (gm s)).alloc (gm t)).drewN 1).heap[w0.heap.size]? =some (gm s):=g1;have g2':(((w0.alloc (gm s)).alloc (gm t)).drewN 1).heap[(w0.alloc (gm s)).heap.size]? =some (gm t):=g2;refine iK (vs:=[.string ⟨s.1.toArray⟩,.string ⟨s.2.toArray⟩]) ck rfl xX rfl rfl rfl g1' ?_;refine ab ⟨rfl,rfl,rfl,?_⟩;refine iK (vs:=[.string ⟨t.1.toArray⟩,.string ⟨t.2.toArray⟩]) ck rfl xX rfl rfl rfl g2' ?_;refine ab ⟨rfl,rfl,rfl,?_⟩;refine eZ ?_;refine⟨iA ⟨eF rfl (by assumption) (by first|assumption|exact fun h=>h|(intro h;have h:_=_:=h;omega)),trivial⟩,?_⟩;replace kp:=kp.rF (dm aC (((w0.alloc (gm s)).alloc (gm t)).drewN 1) (gm s));refine aY rfl rfl E80 (LY (t:=s) _ h1 h2) (fun r5 w5 hc=>?_);obtain⟨rfl,rfl⟩:=hc;refine(fun(kp:eN _ _ _)=>ab ⟨rfl,rfl,fun _=>kp,?_⟩) (by first|exact kp|exact kp.rF (by assumption)|exact kp.goN (by assumption)|exact kp.go (by assumption) (fun _ _ h=>by first|exact h|exact h.elim));refine aY rfl rfl E80 (LY (t:=t) _ h3 h4) (fun r6 w6 hc=>?_);obtain⟨rfl,rfl⟩:=hc;refine ab ⟨rfl,rfl,fun h=>absurd rfl h,?_⟩;refine aY rfl rfl ac2 (BD _ _ _) (fun r7 w7 hc=>?_);obtain⟨rfl,rfl⟩:=hc;refine ab ⟨rfl,rfl,fun h=>absurd rfl h,?_⟩;refine ah rfl rfl ?_;refine ab ⟨rfl,rfl,fun h=>absurd rfl h,?_⟩;refine mM (aQ ?_);exact aV rfl rfl ⟨rfl,rfl⟩
end Go.K
namespace Go.K
open Go.Lib (compareBytes)
theorem oe (a b:UInt8) (x y:List UInt8):compareBytes (a::x) (b::y)=if a.toNat<b.toNat then-1 else if b.toNat<a.toNat then 1 else compareBytes x y:=by
 rw[compareBytes];simp only[UInt8.lt_iff_toNat_lt]
theorem yt:∀a,compareBytes a a=0
 |[]=>rfl
 |a::x=>by rw[oe,if_neg (jq _),if_neg (jq _)];exact yt x
theorem qB:∀{a b},compareBytes a b=0→a=b
 |[],[],_=>rfl
 |[],_::_,h=>by simp[compareBytes]at h
 |_::_,[],h=>by simp[compareBytes]at h
 |a::x,b::y,h=>by
  rw[oe]at h
  split at h
  ·omega
  ·split at h
   ·omega
   ·rw[qB h,UInt8.toNat_inj.1 (show a.toNat=b.toNat by omega)]
theorem o9:∀a b,compareBytes a b= -compareBytes b a
 |[],[]=>rfl
 |[],_::_=>rfl
 |_::_,[]=>rfl
 |a::x,b::y=>by
  rw[oe,oe,o9 x y]
  split<;>split<;>first|omega|rfl
theorem qS:∀{a b c},compareBytes a b<0→compareBytes b c<0→compareBytes a c<0
 |[],[],_,h,_=>by simp[compareBytes]at h
 |_::_,[],_,h,_=>by simp[compareBytes]at h
 |_,_::_,[],_,h=>by simp[compareBytes]at h
 |[],_::_,_::_,_,_=>by simp[compareBytes]
 |a::x,b::y,c::z,h1,h2=>by
  rw[oe]at h1 h2 ⊢
  split at h1
  ·split at h2
   ·rw[if_pos (by omega)];omega
   ·split at h2
    ·omega
    ·rw[if_pos (by omega)];omega
  ·split at h1
   ·omega
   ·split at h2
    ·rw[if_pos (by omega)];omega
    ·split at h2
     ·omega
     ·rw[if_neg (by omega),if_neg (by omega)];exact qS h1 h2
theorem HE {α:Type} (f:α→List UInt8):Go.Sort.SWO (Go.Proofs.ltOf fun x y=>compareBytes (f x) (f y)) where
 irrefl x:=by simp[Go.Proofs.ltOf,yt]
 trans x y z h1 h2:=by
  simp only[Go.Proofs.ltOf,decide_eq_true_eq]at*
  exact qS h1 h2
 ntrans x y z h1 h2:=by
  simp only[Go.Proofs.ltOf,decide_eq_false_iff_not]at*
  intro h3;by_cases e1:compareBytes (f x) (f y)=0
  ·rw[qB e1]at h3;exact h2 h3
  ·by_cases e2:compareBytes (f y) (f z)=0
   ·rw[qB e2]at h1;exact h1 h3
   ·have n1:=o9 (f x) (f y);have n2:=o9 (f y) (f z);have n3:=o9 (f x) (f z);have:compareBytes (f z) (f x)<0:=qS (b:=f y) (by omega) (by omega);omega
end Go.K
namespace Go.Proofs
open Go.Shelf
def Tryz.FR:Go.Shelf.Ren:=⟨fun|6=>187|15=>115|14=>238|28=>172|29=>173|20=>272|21=>273|22=>274|23=>275|24=>276|25=>277|26=>278|27=>279|46=>294|47=>218|48=>219|49=>295|50=>296|57=>303|n=>n,fun|22=>155|24=>78|25=>225|3=>3|39=>189|0=>0|53=>257|55=>190|4=>4|46=>251|45=>250|50=>202|5=>5|9=>9|66=>296|70=>300|76=>327|77=>328|n=>n,fun|n=>n⟩
theorem Tryz.LZ:Go.Proofs.SlLaysF0.n6 Tryz.prog Tryz.FR:={
 mixed:=by kernel_rfl
 f6:=⟨Tryz.f187.name,by decide,Tryz.func187.trans (congrArg some (by kernel_rfl))⟩
 f14:=⟨Tryz.f238.name,by decide,Tryz.func238.trans (congrArg some (by kernel_rfl))⟩
 f15:=Tryz.func115.trans (congrArg some (by kernel_rfl))
 f20:=⟨Tryz.f272.name,by decide,Tryz.func272.trans (congrArg some (by kernel_rfl))⟩
 f21:=⟨Tryz.f273.name,by decide,Tryz.func273.trans (congrArg some (by kernel_rfl))⟩
 f22:=⟨Tryz.f274.name,by decide,Tryz.func274.trans (congrArg some (by kernel_rfl))⟩
 f23:=⟨Tryz.f275.name,by decide,Tryz.func275.trans (congrArg some (by kernel_rfl))⟩
 f24:=⟨Tryz.f276.name,by decide,Tryz.func276.trans (congrArg some (by kernel_rfl))⟩
 f25:=⟨Tryz.f277.name,by decide,Tryz.func277.trans (congrArg some (by kernel_rfl))⟩
 f26:=⟨Tryz.f278.name,by decide,Tryz.func278.trans (congrArg some (by kernel_rfl))⟩
 f27:=⟨Tryz.f279.name,by decide,Tryz.func279.trans (congrArg some (by kernel_rfl))⟩
 f28:=Tryz.func172.trans (congrArg some (by kernel_rfl))
 f29:=Tryz.func173.trans (congrArg some (by kernel_rfl))
 f46:=⟨Tryz.f294.name,by decide,Tryz.func294.trans (congrArg some (by kernel_rfl))⟩
 f47:=Tryz.func218.trans (congrArg some (by kernel_rfl))
 f48:=Tryz.func219.trans (congrArg some (by kernel_rfl))
 f49:=⟨Tryz.f295.name,by decide,Tryz.func295.trans (congrArg some (by kernel_rfl))⟩
 f50:=⟨Tryz.f296.name,by decide,Tryz.func296.trans (congrArg some (by kernel_rfl))⟩
 f57:=⟨Tryz.f303.name,by decide,Tryz.func303.trans (congrArg some (by kernel_rfl))⟩
 t0:=fJ
 a0:=lH
 z0:=ka
 v0:=gF
 t3:=aw
 a3:=lI
 z3:=kb
 v3:=gG
 t4:=iL
 a4:=rB
 z4:=nN
 v4:=jx
 t5:=cz
 a5:=Tryz.isAgg5
 z5:=Tryz.sizeOf5
 v5:=tj
 t9:=aF
 a9:=lJ
 z9:=kd
 v9:=gH
 t22:=jP
 a22:=Tryz.isAgg155
 z22:=Tryz.sizeOf155
 v22:=Tryz.zeroValue155
 t25:=Tryz.underlying225
 a25:=Tryz.isAgg225
 z25:=Tryz.sizeOf225
 v25:=Tryz.zeroValue225
 t39:=jO
 a39:=Tryz.isAgg189
 z39:=Tryz.sizeOf189
 v39:=Tryz.zeroValue189
 t45:=Tryz.underlying250
 a45:=Tryz.isAgg250
 z45:=Tryz.sizeOf250
 v45:=Tryz.zeroValue250
 t46:=Tryz.underlying251
 a46:=Tryz.isAgg251
 z46:=Tryz.sizeOf251
 v46:=Tryz.zeroValue251
 t50:=Tryz.underlying202
 a50:=Tryz.isAgg202
 z50:=Tryz.sizeOf202
 v50:=Tryz.zeroValue202
 t53:=Tryz.underlying257
 a53:=Tryz.isAgg257
 z53:=Tryz.sizeOf257
 v53:=Tryz.zeroValue257
 t55:=si
 a55:=Tryz.isAgg190
 z55:=Tryz.sizeOf190
 v55:=Tryz.zeroValue190
 t66:=Tryz.underlying296
 a66:=Tryz.isAgg296
 z66:=Tryz.sizeOf296
 v66:=Tryz.zeroValue296
 t70:=Tryz.underlying300
 a70:=Tryz.isAgg300
 z70:=Tryz.sizeOf300
 v70:=Tryz.zeroValue300
 t76:=Tryz.underlying327
 a76:=Tryz.isAgg327
 z76:=Tryz.sizeOf327
 v76:=Tryz.zeroValue327
 t77:=Tryz.underlying328
 a77:=Tryz.isAgg328
 z77:=Tryz.sizeOf328
 v77:=Tryz.zeroValue328}
end Go.Proofs
namespace Go.K
open Go.Proofs
set_option maxRecDepth 10000
open Go.Proofs Go.Sort
abbrev TK:Type:={t:Fd // (0:UInt8)∉t.1∧t.1.length≤1000000∧t.2.length≤1000000}
instance akb:Inhabited TK:=⟨⟨([],[]),by simp,by simp,by simp⟩⟩
def zJ (x:TK):List Value:=[.string ⟨x.1.1.toArray⟩,.string ⟨x.1.2.toArray⟩]
def JY (x y:TK):Int:=Lib.compareBytes (dy x.1) (dy y.1)
theorem yu:∀{a b x y:List UInt8},(0:UInt8)∉a→(0:UInt8)∉b→a++[0]++x=b++[0]++y→a=b∧x=y
 |[],[],_,_,_,_,h=>⟨rfl,by simpa using h⟩
 |[],c::b,_,_,_,hb,h=>by
  simp at h;exact absurd (by rw[←h.1];exact bG ..) hb
 |c::a,[],_,_,ha,_,h=>by
  simp at h;exact absurd (by rw[h.1];exact bG ..) ha
 |c::a,e::b,x,y,ha,hb,h=>by
  simp only[kL,List.cons.injEq]at h;obtain⟨h1,h2⟩:=yu (fun h=>ha (bU _ h)) (fun h=>hb (bU _ h)) h.2;exact⟨by rw[h.1,h1],h2⟩
theorem aeI (w:World):(isAgg 78).run Tryz.prog w= .ok true w:=by simp[isAgg,cn,run_underlying ck]
theorem Yt (w:World):(Go.sizeOf 78).run Tryz.prog w= .ok 2 w:=by
 obtain⟨i,h1,_,h2,_⟩:=xX.get;simp[Go.sizeOf,typeInfo,cn,program,Sem.run,h1,h2]
theorem L0 (fK off size:Nat) (w:World):CmpLays Tryz.prog 136 #[] zJ 2 JY fK off size w:=fun m os dk hs x y=>
 (show Calls Tryz.prog 136 #[kv x.1,kv y.1] (sortWorldK zJ 2 w fK off m dk os) (fun e w'=>∃v,e= .returned v∧_∧_)from PC (s:=x.1) (t:=y.1) _ x.2.2.1 x.2.2.2 y.2.2.1 y.2.2.2).mono fun e w' ⟨v,h1,h2,h3⟩=>⟨by rw[h1,h2];rfl,1,#[gm x.1,gm y.1,gm x.1,gm y.1],by rw[h3];simp only[yr,FQ,Go.Sort.grow_grow];rfl⟩
theorem Yu (fK off cap:Nat) (d:Array TK) (w:World) (hH:HoldsK zJ 2 w fK off d) (hblk:fK<w.heap.size) (jJ:d.size<4611686018427387904):
  Spec Tryz.prog 187 #[.slice (some ⟨fK,off,none⟩) d.size cap,.func (.func 136) #[] #[]] w (fun v w'=>v= .tuple #[]∧∃n os,w'=sortWorldK zJ 2 w fK off n (d.toList.mergeSort fun x y=> !(Go.Proofs.ltOf JY) y x).toArray os):=by
 exact(Go.Proofs.AnyQ.slices_SortFunc_total Tryz.LZ 2 aeI Yt zJ (fun _=>rfl) (fun x v hv=>by simp[zJ]at hv;rcases hv with rfl|rfl<;>rfl) JY (HE _) 136 #[] fK off cap d w ac1 (L0 fK off d.size w) hH hblk jJ (fun x y h1 h2=>by
  have h0:JY x y=0:=by
   have:=o9 (dy x.1) (dy y.1);simp only[Go.Proofs.ltOf,decide_eq_false_iff_not]at h1 h2;unfold JY at h1 h2 ⊢;omega
  have h3:=qB h0;obtain⟨h4,h5⟩:=yu x.2.1 y.2.1 h3;exact Subtype.ext (Prod.ext h4 h5))).mono fun e w' ⟨h1,h2⟩=>⟨_,h1,rfl,h2⟩
end Go.K
namespace Go.K
set_option linter.unusedSectionVars false
open Go.Sort Go.Proofs
section
variable {α:Type} [Inhabited α] {enc:α→List Value} {k:Nat}
theorem wi (hk:∀x,(enc x).length=k) (h0:0<k):∀(l:List α) (t:Nat),(l.flatMap enc)[t]? =(l[t/k]?).bind fun x=>(enc x)[t%k]?
 |[],t=>by simp
 |x::l,t=>by
  rw[rY];rcases cG t k with h|h
  ·rw[fC (by rw[hk];exact h),Nat.div_eq_of_lt h,nL h];rfl
  ·rw[jB (by rw[hk];exact h),hk,wi hk h0 l];have e1:t/k=(t-k)/k+1:=by rw[Nat.div_eq t k,if_pos ⟨h0,h⟩]
   have e2:(t-k)%k=t%k:=by rw[Nat.mod_eq t k,if_pos ⟨h0,h⟩]
   rw[e1,e2,List.getElem?_cons_succ]
theorem nc (hk:∀x,(enc x).length=k):∀l:List α,(l.flatMap enc).length=l.length*k
 |[]=>by simp
 |x::l=>by rw[rY,bc,hk,nc hk l,cD,Nat.add_mul];omega
theorem yv (hk:∀x,(enc x).length=k) (h0:0<k) (d:Array α) {t:Nat} (ht:t<d.size*k):(d.toList.flatMap enc)[t]? =some (flatK enc k d)[t]! :=by
 have h1:t/k<d.size:=Nat.div_lt_of_lt_mul (by rw[Nat.mul_comm];exact ht);have h2:t%k<k:=Nat.mod_lt _ h0;rw[wi hk h0,get_flatK _ _ _ _ ht];have e:d.toList[t/k]? =some d[t/k]! :=by simp[h1]
 rw[e];simp[hk,h2]
theorem AB {w:World} {g:Nat} {cur:Array Value} {e:TypeId} {d:Array α} (hk:∀x,(enc x).length=k) (h0:0<k) (hg:w.heap[g]? =some (.cells cur e (0,0))) (hC:cur.toList.take (d.size*k)=d.toList.flatMap enc):HoldsK enc k w g 0 d:=fun j hj=>by
 rw[size_flatK]at hj;have h1:=yv hk h0 d hj;rw[←hC,cp,if_pos hj,Array.getElem?_toList]at h1;constructor
 ·simp[World.cell?,hg,h1]
 ·simp[World.frozen?,hg]
theorem rR {w:World} {g n:Nat} {cur:Array Value} {e:TypeId} {d:Array α} {os:Array Obj} (hg:w.heap[g]? =some (.cells cur e (0,0))):(sortWorldK enc k w g 0 n d os).heap[g]? =some (.cells (putCells id 0 (flatK enc k d) cur) e (0,0)):=by
 have dV:g<w.heap.size:=ak hg
 have h1:(w.heap.modify g (onCells (putCells id 0 (flatK enc k d))))[g]? =some (.cells (putCells id 0 (flatK enc k d) cur) e (0,0)):=by
  rw[jI,if_pos rfl,hg];rfl
 show((w.heap.modify g (onCells (putCells id 0 (flatK enc k d))))++os)[g]? =_;rw[Array.getElem?_append_left (by simpa using dV)];exact h1
theorem pO {w:World} {g n:Nat} {d:Array α} {os:Array Obj}:Step allM w allM (sortWorldK enc k w g 0 n d os) (fun b=>b=g):=
 ⟨fun h=>absurd (h w.heap.size trivial) (jq _),rfl,rfl,rfl,by show _≤((w.heap.modify g _)++os).size;simp,fun _ _=>Iff.rfl,fun b hb hn=>by
  have hn: ¬b=g:=hn;show((w.heap.modify g (onCells (putCells id 0 (flatK enc k d))))++os)[b]? =_;rw[Array.getElem?_append_left (by simpa using hb),jI,if_neg (fun h=>hn h.symm)],fun _ _=>trivial⟩
theorem rS {F cur:Array Value} (h:F.size≤cur.size):(putCells id 0 F cur).toList.take F.size=F.toList:=by
 apply fp;intro j;rw[cp];by_cases hj:j<F.size
 ·rw[if_pos hj];simp[putCells,hj,iu hj h]
 ·rw[if_neg hj,dx (by simpa using hj)]
theorem tP (hk:∀x,(enc x).length=k) (h0:0<k) (d:Array α):(flatK enc k d).toList=d.toList.flatMap enc:=by
 apply fp;intro j;by_cases hj:j<d.size*k
 ·rw[yv hk h0 d hj];have:j<(flatK enc k d).size:=by rw[size_flatK];exact hj
  rw[Array.getElem?_toList,getElem!_pos _ j this];exact Array.getElem?_eq_getElem this
 ·rw[dx (by rw[zj,size_flatK];omega),dx (by rw[nc hk,zj];omega)]
end
end Go.K
namespace Go.K
open Go.Proofs
set_option maxRecDepth 10000
open Go.Proofs Go.Sort
theorem HF:∀{ts:List Fd} {C:List Value} {M:aD} {w:World},dZ RT.fd M w ts C→C=ts.flatMap fun t=>[.string ⟨t.1.toArray⟩,.string ⟨t.2.toArray⟩]
 |[],C,_,_,h=>h
 |t::ts,C,_,_,⟨vs,r,h1,h2,h3⟩=>by
  obtain⟨va,vb,rfl,h4,h5⟩:=h2;rw[h1,HF h3,h4.1,h5.1];rfl
theorem Dy {M:aD} {w:World}:∀{ts:List Fd},(∀t∈ts,t.1.length≤1000000∧t.2.length≤1000000)→dZ RT.fd M w ts (ts.flatMap fun t=>[.string ⟨t.1.toArray⟩,.string ⟨t.2.toArray⟩])
 |[],_=>rfl
 |t::ts,h=>by
  obtain⟨h1,h2⟩:=h t (bG ..);exact⟨_,_,rfl,⟨_,_,rfl,⟨rfl,by omega⟩,⟨rfl,by omega⟩⟩,Dy fun u hu=>h u (bU _ hu)⟩
def L3 (us:List Fd):Prop:=us.Pairwise fun a b=>¬Lib.compareBytes (dy b) (dy a)<0
theorem zK {base:Nat} {v:Value} {ts:List Fd} (w0:World) (ho:Own RT.fd 78 (mS v) w0 base v ts) (hT:∀t∈ts,(0:UInt8)∉t.1∧t.1.length≤1000000∧t.2.length≤1000000) (hl:ts.length≤100000000):
  Spec Tryz.prog 187 #[v,.func (.func 136) #[] #[]] w0 (fun r w=>r= .tuple #[]∧∃us:List Fd,us.Perm ts∧L3 us∧Own RT.fd 78 (mS v) w base v us∧Step allM w0 allM w (mS v)):=by
 obtain⟨⟨C,⟨hC,hr⟩,hA⟩,hm⟩:=ho;rcases hr with⟨rfl,h0⟩|⟨g,cap,cur,rfl,hb,hg,hle,Uw,JZ,ri⟩
 ·have Ku:ts=[]:=cY.1 h0;subst Ku;exact(AnyF.slices_SortFunc_none Tryz.LZ none 0 _ w0).mono fun e w' ⟨h1,h2⟩=>⟨_,h1,rfl,[],.refl _,List.Pairwise.nil,dD _ _ _ _ _,by rw[h2];exact(ax allM w0).cH (fun _ h=>h.elim) (fun _ _=>trivial)⟩
 ·obtain⟨d,hd⟩:∃d:Array TK,d.toList.map (·.1)=ts:=⟨(ts.attach.map fun x=>(⟨x.1,hT x.1 x.2⟩:TK)).toArray,by rw[List.toList_toArray,sk];exact List.attach_map_subtype_val ts⟩;have jJ:d.size=ts.length:=by rw[←hd];simp
  have hk:∀x:TK,(zJ x).length=2:=fun _=>rfl
  have FT:∀l:List TK,(l.map (·.1)).flatMap (fun t:Fd=>[Value.string ⟨t.1.toArray⟩,.string ⟨t.2.toArray⟩])=l.flatMap zJ:=fun l=>by rw[List.flatMap_map];rfl
  have hH:HoldsK zJ 2 w0 g 0 d:=AB hk (by omega) hg (by
   have e2:RT.fd.n=2:=rfl;rw[e2]at ri;rw[jJ,ri,HF hA,←hd,FT])
  have hs:=Yu g 0 cap d w0 hH (ak hg) (by omega);rw[jJ]at hs;refine hs.mono fun r w' ⟨h1,n,os,h2⟩=>⟨h1,(d.toList.mergeSort fun x y=> !(ltOf JY) y x).map (·.1),?_,?_,?_,?_⟩
  ·rw[←hd];exact(jb _ _).map _
  ·refine cA.2 ((List.pairwise_mergeSort (fun a b c h1 h2=>?_) (fun a b=>?_) _).imp fun h=>?_)
   ·simp only[ltOf,iQ,decide_eq_false_iff_not]at*
    have:=(HE fun x:TK=>dy x.1).ntrans c b a (by simpa[ltOf,JY]using h2) (by simpa[ltOf,JY]using h1);simpa[ltOf,JY]using this
   ·simp only[ltOf,qb,iQ,decide_eq_false_iff_not];have:=o9 (dy a.1) (dy b.1);unfold JY;omega
   ·rw[iQ]at h;exact of_decide_eq_false h
  ·have hp:=jb d.toList fun x y=> !(ltOf JY) y x
   rw[h2];generalize (d.toList.mergeSort fun x y=> !(ltOf JY) y x)=us at hp;have J0:(us.map (·.1)).length=ts.length:=by rw[aG,hp.length_eq,zj,jJ]
   have zx:us.toArray.size*2=ts.length*2:=by rw[←J0];simp
   have e2:RT.fd.n=2:=rfl;refine⟨⟨(us.map (·.1)).flatMap (fun t:Fd=>[Value.string ⟨t.1.toArray⟩,.string ⟨t.2.toArray⟩]),⟨?_,.inr ⟨g,cap,_,by rw[J0],hb,rR hg,by rw[J0];exact hle,Uw,by rw[←JZ];simp[putCells],?_⟩⟩,Dy fun t ht=>?_⟩,hm⟩
   ·rw[FT,nc hk,aG,e2]
   ·rw[FT,J0,e2,←zx,←size_flatK zJ,rS (by rw[size_flatK,zx,JZ,e2];omega),tP hk (by omega)]
   ·obtain⟨x,_,rfl⟩:=bP.1 ht;exact x.2.2
  ·rw[h2];exact pO.cH (fun b hb=>by have hb:b=g:=hb;subst hb;rfl) (fun _ _=>trivial)
end Go.K
namespace Go.K
open Go.Proofs
set_option maxRecDepth 10000
theorem Dz {bs mb clock:Nat} {es:List MapEntry} (w0:World) (hk:HC es) (hT:∀e∈es,∀t,e.key=kv t→(0:UInt8)∉t.1∧t.1.length≤1000000∧t.2.length≤1000000) (hes:es.length≤100000000) (hlen:∀ts:List Fd,ts.Nodup→(∀t∈ts,∃e∈es,e.key=kv t)→ts.length≤100000000) (Uu:w0.heap[bs]? =some (.cells #[.map (some mb)] 217 (0,0))) (hW:fH Tryz.prog 78 w0 mb es clock):
  Spec Tryz.prog 134 #[.func (.func 188) #[] [.pointer (some ⟨bs,0,none⟩)].toArray,.func (.func 136) #[] #[]] w0 (fun v w=>∃us:List Fd,us.Nodup∧(∀t,t∈us↔∃e∈es,e.key=kv t)∧L3 us∧Own RT.fd 78 (mS v) w w0.heap.size v us∧Step allM w0 allM w aC):=by
 refine bm (args:=[_,_]) (fn:=Tryz.f134) Tryz.func134 rfl (n:=12) Tryz.ntmps134 (aj (ae (ah rfl rfl (ab (aj (ae (ad rfl rfl ?_)))))));refine aY rfl rfl ac8 (BC _ hk hes Uu hW) (fun v1 w1 hc=>?_);obtain⟨ts,oD,ku,ho,s1⟩:=hc;refine ah rfl rfl (ab (aj (ae (ad rfl rfl (ad rfl rfl ?_)))));refine aY rfl rfl ac9 (zK _ ho (fun t ht=>by obtain⟨e,he,hke⟩:=(ku t).1 ht;exact hT e he t hke) (hlen ts oD fun t ht=>(ku t).1 ht)) (fun r2 w2 hc=>?_);obtain⟨rfl,us,hp,SR,Yv,s2⟩:=hc;refine ab (aj (ae (ad rfl rfl (ah rfl rfl (ab (aQ ?_))))));exact aV rfl rfl ⟨us,hp.nodup_iff.2 oD,fun t=>hp.mem_iff.trans (ku t),SR,Yv,s1.trans s2 (fun k hk hn=>by have:=(ho.base k hn).1;omega)⟩
theorem FU {mb:Nat} (w0:World):
  Spec Tryz.prog 135 #[.map (some mb)] w0 (fun v w=>∃bs,v= .func (.func 188) #[] [.pointer (some ⟨bs,0,none⟩)].toArray∧w.heap[bs]? =some (.cells #[.map (some mb)] 217 (0,0))∧w0.heap.size≤bs∧Step allM w0 allM w aC):=by
 refine bm (args:=[_]) (fn:=Tryz.f135) Tryz.func135 rfl (n:=4) Tryz.ntmps135 (aj (ae ?_));refine wM allM rfl rfl (fun bs w1 uW Aa gs s1=>?_);change w1.heap[bs]? =some (.cells #[.map (some mb)] 217 (0,0))at gs;replace s1:=s1.all;refine ah rfl rfl (ab (aj (ae (kg (xs:=[]) (ys:=[.tmp 1]) rfl rfl rfl (ah rfl rfl (ab (aQ ?_)))))));exact aV rfl rfl ⟨bs,rfl,gs,uW,s1⟩
end Go.K
namespace Go.K
open Go.Proofs
set_option maxRecDepth 10000
def posOf (ts:List (Fd×Nat)) (t:Fd):List Int:=(ts.filter fun p=>decide (p.1=t)).map fun p=>(p.2:Int)
def seen (ts:List (Fd×Nat)):List Fd:=ts.foldl (fun l p=>if p.1∈l then l else l++[p.1]) []
theorem I0 (ts:List (Fd×Nat)) (t:Fd) (i:Nat):seen (ts++[(t,i)])=if t∈seen ts then seen ts else seen ts++[t]:=by unfold seen;rw[sd];rfl
theorem yw (ts:List (Fd×Nat)) (t t':Fd) (i:Nat):posOf (ts++[(t,i)]) t'=if t=t' then posOf ts t'++[(i:Int)]else posOf ts t':=by
 unfold posOf;rw[List.filter_append];by_cases h:t=t'<;>simp[h]
theorem vg (ts:List (Fd×Nat)) (t:Fd):(posOf ts t).length≤ts.length:=by
 unfold posOf;rw[aG];exact l6 _ _
abbrev kU:Value:= .slice none 0 0
structure I1 (M:aD) (w:World) (B:Nat) (ts:List (Fd×Nat)) (es:List MapEntry):Prop where
 o:∀t v,ew kU es (kv t) v→Own (RT.int .i64) 3 M w B v (posOf ts t)
 a:∀t t' v v',t≠t'→ew kU es (kv t) v→ew kU es (kv t') v'→ie v v'
 k:es.map (·.key)=(seen ts).map kv
theorem I1.aL {M M':aD} {w w':World} {B:Nat} {ts:List (Fd×Nat)} {es:List MapEntry} (h:I1 M w B ts es) (s:Step M w M' w' aC):I1 M' w' B ts es:=⟨fun t v hv=>(h.o t v hv).aL s,h.a,h.k⟩
def IJ (bt mb B:Nat) (ts:List (Fd×Nat)) (M:aD) (w:World):Prop:=w.heap[bt]? =some (.cells #[.map (some mb)] 217 (0,0))∧M bt∧M mb∧B≤bt∧B≤mb∧∃es clock,fH Tryz.prog 78 w mb es clock∧I1 M w B ts es
theorem Own.kV {α:Type} {A:RT α} {e:TypeId} {M:aD} {w:World} {base b c:Nat} {a:Array MapEntry} {v:Value} {xs:List α} (h:Own A e M w base v xs) (hb:w.heap[b]? =some (.map a c)):v.ownBlock≠some b:=fun hv=>by
 obtain⟨⟨C,h1,_⟩,_⟩:=h;rcases h1.2 with⟨h2,_⟩|⟨g,cap,cur,h2,_,h3,_⟩
 ·rw[h2]at hv;cases hv
 ·rw[h2]at hv;cases hv;rw[h3]at hb;cases hb
theorem tQ {ts:List (Fd×Nat)} {es:List MapEntry} {t:Fd} (hk:es.map (·.key)=(seen ts).map kv):(∃e∈es,e.key=kv t)↔t∈seen ts:=by
 constructor
 ·rintro⟨e,he,h⟩;have:kv t∈(seen ts).map kv:=by rw[←hk,←h];exact gQ he
  obtain⟨t',h1,h2⟩:=bP.1 this;rw[←vf h2];exact h1
 ·intro h;have:kv t∈es.map (·.key):=by rw[hk];exact gQ h
  obtain⟨e,h1,h2⟩:=bP.1 this;exact⟨e,h1,h2⟩
theorem I2 {M:aD} {bt mb B:Nat} {ts:List (Fd×Nat)} {t:Fd} {i:Nat} (w0:World) (hM:Lt M w0) (h1:t.1.length≤900000) (h2:t.2.length≤140737488355328) (hi:i≤1000000) (Ku:ts.length≤10000000) (hJ:IJ bt mb B ts M w0):
  Spec Tryz.prog 133 #[kv t,.int .i64 (i:Int),.pointer (some ⟨bt,0,none⟩)] w0 (fun v w=>∃M',Lt M' w∧IJ bt mb B (ts++[(t,i)]) M' w∧Step M w0 M' w (lP M B)):=by
 obtain⟨gb,ei,fj,hB,HG,es,clock,hW,hI⟩:=hJ;refine bm (args:=[_,_,_]) (fn:=Tryz.f133) Tryz.func133 rfl (n:=13) Tryz.ntmps133 ?_;have S:Step M w0 M w0 (lP M B):=(ax _ _).cH (fun _ h=>h.elim) (fun _ h=>h.2);refine aj (ae ?_);refine nP (A:=RT.fd) rfl rfl hM (Dt (by omega) h2) rfl (fun u0 w1 dw s0 _=>?_);have:=ak gb;replace ei:=(s0.mem _ this).2 ei;replace gb:=s0.aM gb;replace fj:=(s0.mem _ (ak hW.at_)).2 fj;replace hW:=hW.aL s0;replace hI:=hI.aL s0;replace hM:=s0.lt hM;have:=S.size;replace S:=S.aB s0;refine ab (ae (aP l5 rfl rfl rfl (by assumption) rfl ?_));refine cN (M:=M) (A:=RT.fd) ck rfl xX (by decide) rfl rfl rfl dw (ao _ _) (fun v1 zo=>?_);obtain rfl:=nw zo;refine ad rfl rfl ?_;refine ep (A:=RT.int .i64) (hn:=by decide) (M:=M) aq I3 (by decide) rfl rfl hM (fY (by omega)) (.inr ⟨rfl,rfl⟩) (fun K6 IM j5 s1_3=>?_);have:=ak gb;replace ei:=(s1_3.mem _ this).2 ei;replace gb:=s1_3.aM gb;replace dw:=dw.le (by decide) s1_3.le;replace fj:=(s1_3.mem _ (ak hW.at_)).2 fj;replace hW:=hW.aL s1_3;replace hI:=hI.aL s1_3;replace hM:=s1_3.lt hM;have:=S.size;replace S:=S.aB s1_3;obtain⟨kl,Cl⟩:=LR t (by omega) h2;refine Rg.mapEntry (M:=M) (zv:=kU) l5 Ay kD rfl rfl rfl Cl hW fj (fun w4 es4 cl4 v s WG hv ku FV Fb s4=>?_);have OA:∀t v,ew kU es (kv t) v→v.ownBlock≠some mb:=fun t v h=>(hI.o t v h).kV hW.at_
 have RD:bt≠mb:=fun e=>by subst e;have:=hW.at_;rw[gb]at this;cases this
 replace hI:I1 M w4 B ts es:=⟨fun t v hv=>(hI.o t v hv).step s4 (fun b hb hk=>OA t v hv (by have hk:b=mb:=hk;rw[←hk];exact hb)),hI.a,hI.k⟩;have Yw:=(s4.mem _ (ak hW.at_)).2 fj;replace ei:=(s4.mem _ (ak gb)).2 ei;replace gb:=s4.keep gb RD;replace j5:=j5.le s4.le;replace hM:=s4.lt hM;have hmM:∀b,b<w0.heap.size→M b→M b:=fun b hb h=>(S.mem b hb).1 h
 have hz0:=S.size;replace S:=S.trans s4 (fun k hk h=>by have h:k=mb:=h;subst h;exact⟨HG,hmM k hk fj⟩);have rT:=hI.o t v hv;have rH:=vg ts t;refine bZ rfl rfl rfl ?_;refine lN (M:=M) (base:=B) aq I3 rfl rfl rfl rfl rT j5 (ao _ _) (by simp;omega) (by simp;omega) (by have:=ak gb;omega) (fun v6 w6 tO s6 hF=>?_);have hblk:∀b,fK v b→B≤b∧M b:=fun b h=>⟨(rT.base b h).1,rT.mut_ b h⟩
 have uD:∀t' v',t'≠t→ew kU es (kv t') v'→ie v' v:=fun t' v' eQ rD=>hI.a t' t v' v eQ rD hv
 have PD:∀t' v',t'≠t→ew kU es (kv t') v'→Own (RT.int .i64) 3 (jv M v6) w6 B v' (posOf ts t'):=fun t' v' eQ rD=>(hI.o t' v' rD).step s6 (fun b hb hk=>uD t' v' eQ rD b hb hk)
 have jJ:∀t' v',ew kU es (kv t') v'→∀b,v'.ownBlock=some b→b<w4.heap.size:=fun t' v' rD b hb=>((hI.o t' v' rD).base b hb).2
 have L4:∀t' v',t'≠t→ew kU es (kv t') v'→ie v6 v':=fun t' v' eQ rD=>(uD t' v' eQ rD).symm.grown hF (jJ t' v' rD)
 have aeJ:v.ownBlock≠some mb:=rT.kV WG.at_;have L5:=(s6.mem _ (ak WG.at_)).2 Yw;replace WG:=WG.step s6 aeJ;replace ei:=(s6.mem _ (ak gb)).2 ei;replace gb:=s6.keep gb (fun h=>rT.eO gb (by decide) h);replace hM:=s6.lt hM;have aeK:∀b,b<w0.heap.size→M b→M b:=fun b hb h=>(S.mem b hb).1 h
 replace S:=S.trans s6 (fun k hk h=>⟨(hblk k h).1,aeK k hk (hblk k h).2⟩);refine bZ rfl rfl rfl ?_;have Yx:=WG.at_;refine Rg.entryStore rfl rfl rfl WG L5 ku (fun w8 es8 hW8 pM Yy s8=>?_);have hm8:v6.ownBlock≠some mb:=tO.kV Yx;replace tO:=tO.step s8 (fun b hb hk=>hm8 (by have hk:b=mb:=hk;rw[←hk];exact hb));have Yz:∀t' v',t'≠t→ew kU es (kv t') v'→Own (RT.int .i64) 3 _ w8 B v' (posOf ts t'):=fun t' v' eQ rD=>(PD t' v' eQ rD).step s8 (fun b hb hk=>OA t' v' rD (by have hk:b=mb:=hk;rw[←hk];exact hb))
 have YA:=(s8.mem _ (ak Yx)).2 L5;refine ab ?_
 first|refine re ?_|simp+decide only[rf,jC,if_true,if_false]|skip
 replace ei:=(s8.mem _ (ak gb)).2 ei;replace gb:=s8.keep gb RD;replace hM:=s8.lt hM;replace S:=S.trans s8 (fun k hk h=>by have h:k=mb:=h;subst h;exact⟨HG,(S.mem k hk).1 L5⟩)
 have rU:∀t1 v1,ew kU es8 (kv t1) v1→(t1=t∧v1=v6)∨(t1≠t∧ew kU es (kv t1) v1):=fun t1 v1 zo=>by
  rcases(Yy kU (kv t1) v1).1 zo with⟨h3,h4⟩|⟨h3,h4⟩
  ·exact .inl ⟨vf h3,h4⟩
  ·exact .inr ⟨fun e=>h3 (by rw[e];rfl),(FV (kv t1) v1).1 h4⟩
 refine fU rfl ⟨_,hM,⟨gb,ei,YA,hB,HG,es8,_,hW8,⟨fun t1 v1 zo=>?_,fun t1 t2 v1 v2 eQ zo Cn=>?_,?_⟩⟩,S⟩
 ·rcases rU t1 v1 zo with⟨rfl,rfl⟩|⟨h3,h4⟩
  ·rw[yw,if_pos rfl];exact tO
  ·rw[yw,if_neg (fun e=>h3 e.symm)];exact Yz t1 v1 h3 h4
 ·rcases rU t1 v1 zo with⟨rfl,rfl⟩|⟨h3,h4⟩
  ·rcases rU t2 v2 Cn with⟨rfl,_⟩|⟨h5,h6⟩
   ·exact absurd rfl eQ
   ·exact L4 t2 v2 h5 h6
  ·rcases rU t2 v2 Cn with⟨rfl,rfl⟩|⟨h5,h6⟩
   ·exact(L4 t1 v1 h3 h4).symm
   ·exact hI.a t1 t2 v1 v2 eQ h4 h6
 ·rw[pM,I0];rcases Fb with⟨h3,h4⟩|⟨h3,h4⟩
  ·rw[h3,hI.k,if_pos ((tQ hI.k).1 h4)]
  ·rw[h3,hI.k,if_neg (fun h=>by obtain⟨e,he,hk⟩:=(tQ hI.k).2 h;exact h4 e he hk)];simp[kv]
end Go.K
namespace Go.K
open Go.Maps (Keyed)
open Go.Lib (compareBytes)
theorem DA:∀a b:List UInt8,Op.bytesLess a b=decide (compareBytes a b<0)
 |[],[]=>by simp[Op.bytesLess,compareBytes]
 |_::_,[]=>by simp[Op.bytesLess,compareBytes]
 |[],_::_=>by simp[Op.bytesLess,compareBytes]
 |a::x,b::y=>by
  rw[Op.bytesLess,DA x y,oe];by_cases h1:a.toNat<b.toNat
  ·simp[UInt8.lt_iff_toNat_lt,h1]
  ·by_cases h2:b.toNat<a.toNat
   ·have: ¬a=b:=fun e=>by subst e;omega
    simp[UInt8.lt_iff_toNat_lt,h1,h2,this]
   ·have:a=b:=UInt8.toNat_inj.1 (by omega);simp[UInt8.lt_iff_toNat_lt,h1,h2,this]
theorem qC (a b:List UInt8):compareBytes a b<0↔a<b:=by
 have h:=DA a b;rw[Go.Proofs.bytesLess_eq]at h;exact(decide_eq_decide.1 h).symm
theorem iW (a:List UInt8): ¬a<a:=fun h=>by have:=(qC a a).2 h;rw[yt]at this;omega
theorem l2 {a b c:List UInt8} (h:a<b) (h':b<c):a<c:=(qC _ _).1 (qS ((qC _ _).2 h) ((qC _ _).2 h'))
theorem jN (a b:List UInt8):a<b∨a=b∨b<a:=by
 rcases Int.lt_trichotomy (compareBytes a b) 0 with h|h|h
 ·exact .inl ((qC _ _).1 h)
 ·exact .inr (.inl (qB h))
 ·exact .inr (.inr ((qC _ _).1 (by rw[o9];omega)))
theorem iO {a b:List UInt8} (h:a<b): ¬b<a:=fun h'=>iW a (l2 h h')
theorem FX {a b:List UInt8}:a≤b↔¬b<a:=Iff.rfl
section
variable {P:Program} {r:Option Nat} {n:Nat} {L:Sl} {ds:List Deferred} {w:World} {K:Kt} {ops:Array Oper} {rest:List Oper} {d:Nat} {x y:Operand} {ty:TypeId} {pos:String} {af:Array Edge}
theorem Rg.aeL {t t':TypeId} {p q:List UInt8} (hx:ev L x=some (.string ⟨p.toArray⟩)) (hy:ev L y=some (.string ⟨q.toArray⟩)) (hd:Nat.blt d n=true)
  (k:Rg P r n ops rest ((d,.bool (decide (q<p)))::L) ds w K):
  Rg P r n ops ({dst:=some d,op:= .binOp .gtr t x y t',type:=ty,pos,after:=af,guard:=none}::rest) L ds w K:=
 .op (fun _ h=>by cases h) rfl rfl hd _ w (fun ρ h=>by
  have e:(!(decide (p<q)||p==q))=decide (q<p):=by
   rcases jN p q with h|h|h
   ·simp[h,iO h]
   ·subst h;simp[iW]
   ·have: ¬p=q:=fun e=>by subst e;exact iW p h
    simp[h,iO h,this]
  simp only[execOp];rw[h x _ hx,h y _ hy];simp only[binOp,Op.stringOp,kj,Go.Proofs.bytesLess_eq,e];simp[eqGuard]) k
theorem Rg.Ux {t t':TypeId} {p q:List UInt8} (hx:ev L x=some (.string ⟨p.toArray⟩)) (hy:ev L y=some (.string ⟨q.toArray⟩)) (hd:Nat.blt d n=true)
  (k:Rg P r n ops rest ((d,.bool (decide (¬p<q)))::L) ds w K):
  Rg P r n ops ({dst:=some d,op:= .binOp .geq t x y t',type:=ty,pos,after:=af,guard:=none}::rest) L ds w K:=
 .op (fun _ h=>by cases h) rfl rfl hd _ w (fun ρ h=>by
  have e:(!decide (p<q))=decide (¬p<q):=by by_cases h:p<q<;>simp[h]
  simp only[execOp];rw[h x _ hx,h y _ hy];simp only[binOp,Op.stringOp,kj,Go.Proofs.bytesLess_eq,e];simp[eqGuard]) k
theorem Rg.Uy {t t':TypeId} {p q:List UInt8} (hx:ev L x=some (.string ⟨p.toArray⟩)) (hy:ev L y=some (.string ⟨q.toArray⟩)) (hd:Nat.blt d n=true)
  (k:Rg P r n ops rest ((d,.bool (decide (¬q<p)))::L) ds w K):
  Rg P r n ops ({dst:=some d,op:= .binOp .leq t x y t',type:=ty,pos,after:=af,guard:=none}::rest) L ds w K:=
 .op (fun _ h=>by cases h) rfl rfl hd _ w (fun ρ h=>by
  have e:(decide (p<q)||p==q)=decide (¬q<p):=by
   rcases jN p q with h|h|h
   ·simp[h,iO h]
   ·subst h;simp[iW]
   ·have: ¬p=q:=fun e=>by subst e;exact iW p h
    simp[h,iO h,this]
  simp only[execOp];rw[h x _ hx,h y _ hy];simp only[binOp,Op.stringOp,kj,Go.Proofs.bytesLess_eq,e];simp[eqGuard]) k
end
abbrev Cp (l:List (List UInt8)):Prop:=l.Pairwise (· < ·)
theorem I4 {ss:List (List UInt8)} (h:ss.Nodup):Cp (ss.mergeSort fun x y=>decide (x≤y)):=by
 have h1:(ss.mergeSort fun x y=>decide (x≤y)).Pairwise (fun x y=>decide (x≤y)=true):=List.pairwise_mergeSort (fun a b c h1 h2=>by
  simp only[decide_eq_true_eq,FX]at h1 h2 ⊢;intro h3;rcases jN a b with h|h|h
  ·exact h2 (l2 h3 h)
  ·subst h;exact h2 h3
  ·exact h1 h) (fun a b=>by
  simp only[qb,decide_eq_true_eq,FX];rcases jN a b with h|h|h
  ·exact .inl (iO h)
  ·subst h;exact .inl (iW a)
  ·exact .inr (iO h)) ss
 have h2:(ss.mergeSort fun x y=>decide (x≤y)).Nodup:=(jb ss _).nodup_iff.2 h;refine (h1.and h2).imp ?_;rintro a b ⟨h3,h4⟩;simp only[decide_eq_true_eq,FX]at h3;rcases jN a b with h|h|h
 ·exact h
 ·exact absurd h h4
 ·exact absurd h h3
theorem Cp.nodup {l:List (List UInt8)} (h:Cp l):l.Nodup:=h.imp fun {a b} h e=>by subst e;exact iW a h
theorem tR {α:Type} {R:α→α→Prop} (hR:∀a b,R a b→R b a→a=b) {l l':List α} (h:l.Pairwise R) (h':l'.Pairwise R) (hn:l.Nodup) (IZ:l'.Nodup) (hm:∀x,x∈l↔x∈l'):l=l':=
 List.Perm.eq_of_pairwise (fun a b _ _ h1 h2=>hR a b h1 h2) h h' ((List.perm_ext_iff_of_nodup hn IZ).2 hm)
theorem Uz {l l':List (List UInt8)} (h:Cp l) (h':Cp l') (hm:∀x,x∈l↔x∈l'):l=l':=
 tR (fun a b h1 h2=>absurd h2 (iO h1)) h h' h.nodup h'.nodup hm
abbrev sv (k:List UInt8):Value:= .string ⟨k.toArray⟩
theorem BE {a b:List UInt8} (h:sv a=sv b):a=b:=by simpa[sv]using h
def FY:Value→Option (DU×List MemPlace):=fun _=>some (.nil,[])
theorem fH.aeM {P:Program} {kt:TypeId} {M:aD} {w:World} {b:Nat} {es:List MapEntry} {clock:Nat} (hk:P.underlying kt=some .string) (h:fH P kt w b es clock) (hm:M b) (hl:es.length≤maxLen) (ks:List (List UInt8)) (PE:es.map (·.key)=ks.map sv):
  ∃m:List (Lit×DU),Tx P kt FY M w b m∧(strKeys (DataW.map m)).Perm ks∧m.length=ks.length:=by
 have hF:Go.WideElems.Fit P kt FY es.toArray clock:=by
  refine⟨by simpa using hl,⟨fun x hx=>h.lt x (by simpa using hx),?_,?_⟩,fun x hx=>?_⟩
  ·simpa[List.Nodup,cA]using h.born
  ·simpa[List.Nodup,cA]using h.keys
  ·obtain⟨l,hl⟩:=h.ok x (by simpa using hx);exact⟨(l,.nil),by simp[Go.WideElems.rd,hl,FY]⟩
 have hp:=Go.WideShapes.sorted_perm (es.toArray.toList.map (Go.WideElems.rg P kt FY));have hlen:(List.foldr DataW.insert [] (es.toArray.toList.map (Go.WideElems.rg P kt FY))).length=es.length:=by rw[hp.length_eq];simp
 refine⟨_,⟨hm,es.toArray,clock,h.at_,hF,by rw[hlen];simp,rfl⟩,?_,?_⟩
 ·refine (hp.map fun p=>strOf p.1).trans ?_;rw[sk]
  have e:es.toArray.toList.map ((fun p=>strOf p.1)∘Go.WideElems.rg (H:=Unit) P kt FY)=ks:=by
   refine fp fun i=>?_
   have hi:=congrArg (·[i]?) PE;simp only[br]at hi ⊢
   cases he:es[i]? with
   |none=>
    rw[he]at hi
    cases aeN:ks[i]? with
    |none=>simp[he]
    |some a=>rw[aeN]at hi;cases hi
   |some e=>
    rw[he]at hi;obtain⟨l,hl⟩:=h.ok e (az he);obtain⟨s,hs,h1⟩:=Option.map_eq_some_iff.1 hi.symm;obtain⟨z,hz1,hz2,_⟩:=Maps.keyOf_str hk hl;have:z=s:=BE (hz1.symm.trans (by simpa using h1.symm));subst this;simp[he,hs,Go.WideElems.rg,Go.WideElems.rd,hl,FY,hz2,strOf]
  rw[e]
 ·rw[hlen];have:=congrArg List.length PE;simpa using this
end Go.K
namespace Go.K
open Go.Lib (compareBytes)
def qD {α:Type} [DecidableEq α] (key:α→List UInt8) (t:α):List α→List α
 |[]=>[t]
 |u::l=>if key t<key u then t::u::l else if u=t then u::l else u::qD key t l
theorem qT {α:Type} [DecidableEq α] {key:α→List UInt8} {t x:α}:∀{l:List α},x∈qD key t l↔x=t∨x∈l
 |[]=>by simp[qD]
 |u::l=>by
  unfold qD
  split
  ·simp
  ·split
   ·rename_i h;subst h;simp
   ·rw[cb,qT (l:=l),cb];constructor
    ·rintro(h|h|h)
     ·exact .inr (.inl h)
     ·exact .inl h
     ·exact .inr (.inr h)
    ·rintro(h|h|h)
     ·exact .inr (.inl h)
     ·exact .inl h
     ·exact .inr (.inr h)
abbrev BF {α:Type} (key:α→List UInt8) (l:List α):Prop:=l.Pairwise fun a b=>key a<key b
theorem DB {α:Type} [DecidableEq α] {key:α→List UInt8} {t:α}:∀{l:List α},(∀u∈l,key u=key t→u=t)→BF key l→BF key (qD key t l)
 |[],_,_=>by simp[qD]
 |u::l,hi,h=>by
  have h':=ey.1 h;unfold qD
  split
  ·rename_i dV
   refine ey.2 ⟨fun x hx=>?_,h⟩;rcases cb.1 hx with rfl|hx
   ·exact dV
   ·exact l2 dV (h'.1 x hx)
  ·rename_i dV
   split
   ·exact h
   ·rename_i eQ
    have hut:key u<key t:=by
     rcases jN (key u) (key t)with h1|h1|h1
     ·exact h1
     ·exact absurd (hi u (bG ..) h1) eQ
     ·exact absurd h1 dV
    refine ey.2 ⟨fun x hx=>?_,DB (fun v hv=>hi v (bU _ hv)) h'.2⟩;rcases qT.1 hx with rfl|hx
    ·exact hut
    ·exact h'.1 x hx
def allBy {α:Type} [DecidableEq α] (key:α→List UInt8) (l:List α):List α:=l.foldl (fun a t=>qD key t a) []
theorem tS {α:Type} [DecidableEq α] {key:α→List UInt8} {S:α→Prop} (hS:∀a b,S a→S b→key a=key b→a=b):∀(l a:List α),(∀x∈l,S x)→(∀x∈a,S x)→BF key a→
  BF key (l.foldl (fun a t=>qD key t a) a)∧∀x,x∈l.foldl (fun a t=>qD key t a) a↔x∈a∨x∈l
 |[],a,_,_,h=>⟨h,fun x=>by simp⟩
 |t::l,a,hl,ha,h=>by
  have ht:=hl t (bG ..)
  obtain⟨h1,h2⟩:=tS hS l (qD key t a) (fun x hx=>hl x (bU _ hx)) (fun x hx=>by
   rcases qT.1 hx with rfl|hx
   ·exact ht
   ·exact ha x hx) (DB (fun u hu e=>hS _ _ (ha u hu) ht e) h)
  refine⟨h1,fun x=>?_⟩;rw[List.foldl_cons,h2,qT,cb];constructor
  ·rintro((h|h)|h)
   ·exact .inr (.inl h)
   ·exact .inl h
   ·exact .inr (.inr h)
  ·rintro(h|h|h)
   ·exact .inl (.inr h)
   ·exact .inl (.inl h)
   ·exact .inr h
theorem BF.nodup {α:Type} {key:α→List UInt8} {l:List α} (h:BF key l):l.Nodup:=h.imp fun {a b} h e=>by subst e;exact iW _ h
abbrev OB (t:Fd):Prop:=(0:UInt8)∉t.1
theorem yx {a b:Fd} (ha:OB a) (hb:OB b) (h:dy a=dy b):a=b:=by
 obtain⟨h1,h2⟩:=yu ha hb h;exact Prod.ext h1 h2
def dj (tl:List (Fd×Nat)):List Fd:=allBy dy (tl.map (·.1))
theorem tT {tl:List (Fd×Nat)} (hz:∀p∈tl,OB p.1):BF dy (dj tl):=
 (tS (S:=OB) (fun _ _=>yx) _ [] (fun x hx=>by obtain⟨p,hp,rfl⟩:=bP.1 hx;exact hz p hp) (fun x h=>by cases h) List.Pairwise.nil).1
theorem kW {tl:List (Fd×Nat)} (hz:∀p∈tl,OB p.1) {t:Fd}:t∈dj tl↔t∈tl.map (·.1):=by
 have:=(tS (S:=OB) (key:=dy) (fun _ _=>yx) (tl.map (·.1)) [] (fun x hx=>by obtain⟨p,hp,rfl⟩:=bP.1 hx;exact hz p hp) (fun x h=>by cases h) List.Pairwise.nil).2 t;simpa[dj,allBy]using this
theorem HH (t:Fd):∀(ts:List (Fd×Nat)) (l:List Fd),t∈ts.foldl (fun l p=>if p.1∈l then l else l++[p.1]) l↔t∈l∨t∈ts.map (·.1)
 |[],l=>by simp
 |p::ts,l=>by
  rw[List.foldl_cons,HH t ts,dQ,cb]
  split
  ·rename_i h
   constructor
   ·rintro(h1|h1)
    ·exact .inl h1
    ·exact .inr (.inr h1)
   ·rintro(h1|h1|h1)
    ·exact .inl h1
    ·exact .inl (by rw[h1];exact h)
    ·exact .inr h1
  ·rw[ch,bJ];constructor
   ·rintro((h1|h1)|h1)
    ·exact .inl h1
    ·exact .inr (.inl h1)
    ·exact .inr (.inr h1)
   ·rintro(h1|h1|h1)
    ·exact .inl (.inl h1)
    ·exact .inl (.inr h1)
    ·exact .inr h1
theorem tU {tl:List (Fd×Nat)} {t:Fd}:t∈seen tl↔t∈tl.map (·.1):=by unfold seen;rw[HH];simp
theorem DC {tl:List (Fd×Nat)} {us:List Fd} (hz:∀p∈tl,OB p.1) (oD:us.Nodup) (ku:∀t,t∈us↔t∈seen tl) (SR:L3 us):us=dj tl:=by
 have hm:∀t,t∈us↔t∈dj tl:=fun t=>by rw[ku,tU,kW hz]
 have kf:∀t∈dj tl,OB t:=fun t ht=>by obtain⟨p,hp,rfl⟩:=bP.1 ((kW hz).1 ht);exact hz p hp
 refine List.Perm.eq_of_pairwise (le:=fun a b=>¬compareBytes (dy b) (dy a)<0) (fun a b ha hb h1 h2=>?_) SR ((tT hz).imp fun {a b} h h'=>iO h ((qC _ _).1 h')) ((List.perm_ext_iff_of_nodup oD (tT hz).nodup).2 hm);rw[qC]at h1 h2;rcases jN (dy a) (dy b)with h|h|h
 ·exact absurd h h2
 ·exact yx (kf a ((hm a).1 ha)) (kf b hb) h
 ·exact absurd h h1
theorem tV (a b:List (Fd×Nat)) (t:Fd):posOf (a++b) t=posOf a t++posOf b t:=by simp[posOf]
theorem L6 {tl:List (Fd×Nat)} {t:Fd} (h:t∈tl.map (·.1)):posOf tl t≠[]:=by
 obtain⟨p,hp,rfl⟩:=bP.1 h;intro e;have:p∈tl.filter fun q=>decide (q.1=p.1):=iT.2 ⟨hp,by simp⟩
 rw[List.map_eq_nil_iff.1 e]at this;cases this
theorem I6 {tl:List (Fd×Nat)} {t:Fd} (h:t∉tl.map (·.1)):posOf tl t=[]:=by
 unfold posOf;rw[List.filter_eq_nil_iff.2 fun p hp=>by simp;intro e;exact h (bP.2 ⟨p,hp,e⟩)];rfl
theorem DD (x:Fd) (t:Fd):(posOf (jm x) t).Sublist ((List.range' 0 (words x.2).length).map fun(i:Nat)=>(i:Int)):=by
 have e:(jm x).map (fun p=>(p.2:Int))=(List.range' 0 (words x.2).length).map fun(i:Nat)=>(i:Int):=by
  rw[←List.zipIdx_map_snd 0 (words x.2),sk];unfold jm;rw[sk];rfl
 rw[←e];exact List.filter_sublist.map _
theorem I7 (x:Fd) (t:Fd):(posOf (jm x) t).Pairwise (· < ·)∧∀i∈posOf (jm x) t,0≤i∧i<(words x.2).length:=by
 refine⟨List.Pairwise.sublist (DD x t) (cA.2 ((List.pairwise_lt_range' (s:=0) (n:=(words x.2).length)).imp fun h=>by omega)),fun i hi=>?_⟩;have:=(DD x t).subset hi;obtain⟨k,hk,rfl⟩:=bP.1 this;have:=List.mem_range'_1.1 hk;omega
theorem AD {x:Fd} {p:Fd×Nat} (h:p∈jm x):p.1.1=x.1∧p.1.2∈words x.2:=by
 obtain⟨q,hq,rfl⟩:=bP.1 h;have:=List.mem_zipIdx hq;exact⟨rfl,by simp only;rw[this.2.2];exact uH _⟩
theorem AE {fs:List Fd} {p:Fd×Nat} (h:p∈cJ fs):∃x∈fs,p.1.1=x.1∧p.1.2∈words x.2:=by
 obtain⟨x,hx,hp⟩:=uI.1 h;exact⟨x,hx,AD hp⟩
theorem yy {x t:Fd} (h:x.1≠t.1):posOf (jm x) t=[]:=I6 fun hm=>by
 obtain⟨p,hp,rfl⟩:=bP.1 hm;exact h (AD hp).1.symm
theorem AF {t:Fd}:∀{fs:List Fd},(∀x∈fs,x.1≠t.1)→posOf (cJ fs) t=[]
 |[],_=>rfl
 |x::fs,h=>by
  show posOf (jm x++cJ fs) t=[];rw[tV,yy (h x (bG ..)),AF fun y hy=>h y (bU _ hy)];rfl
theorem DE {t:Fd}:∀{fs:List Fd},(fs.map (·.1)).Nodup→posOf (cJ fs) t=[]∨∃x∈fs,posOf (cJ fs) t=posOf (jm x) t
 |[],_=> .inl rfl
 |x::fs,h=>by
  have h':=List.nodup_cons.1 h;have e:posOf (cJ (x::fs)) t=posOf (jm x) t++posOf (cJ fs) t:=by show posOf (jm x++cJ fs) t=_;rw[tV]
  by_cases hx:x.1=t.1
  ·refine .inr ⟨x,bG ..,?_⟩;rw[e,AF fun y hy e=>h'.1 (by have h9:y.1∈fs.map (·.1):=gQ hy;rw[e,←hx]at h9;exact h9),ia]
  ·rw[e,yy hx,fQ];rcases DE (t:=t) h'.2 with h1|⟨y,hy,h1⟩
   ·exact .inl h1
   ·exact .inr ⟨y,bU _ hy,h1⟩
theorem yz:∀{l:List Int} {last:Int},(∀x∈l,last<x)→l.Pairwise (· < ·)→eA last l=true
 |[],_,_,_=>rfl
 |x::l,last,h1,h2=>by
  have xj:=ey.1 h2;simp only[eA,bW,decide_eq_true_eq];exact⟨h1 x (bG ..),yz xj.1 xj.2⟩
structure kX (d:Dc):Prop where
 names:∀f∈d.2,gj f.1=true
 once:(d.2.map (·.1)).Nodup
 toks:∀f∈d.2,mB 0 (words f.2)=0
 many:(cJ d.2).length≤500
 few:d.2.length≤8
theorem AG:∀{fs sn:List Fd} {n:Nat},zE sn fs n=0→(∀f∈fs,gj f.1=true∧mB 0 (words f.2)=0∧∀g∈sn,g.1≠f.1)∧(fs.map (·.1)).Nodup∧n+(cJ fs).length≤500
 |[],sn,n,h=>by
  refine⟨(fun f hf=>by cases hf),List.nodup_nil,?_⟩;simp only[zE]at h
  split at h
  ·cases h
  ·simp[cJ];omega
 |f::fs,sn,n,h=>by
  simp only[zE]at h
  split at h
  ·cases h
  ·rename_i h1
   split at h
   ·cases h
   ·rename_i h2
    split at h
    ·exact absurd h (by assumption)
    ·rename_i h3
     obtain⟨h4,h5,h6⟩:=AG h;have h7:∀g∈sn,g.1≠f.1:=fun g hg e=>h2 (uF.2 ⟨g,hg,by simp[e]⟩)
     refine⟨fun x hx=>?_,List.nodup_cons.2 ⟨fun hm=>?_,h5⟩,?_⟩
     ·rcases cb.1 hx with rfl|hx
      ·exact⟨by simpa using h1,by simpa using h3,h7⟩
      ·obtain⟨a,b,c⟩:=h4 x hx;exact⟨a,b,fun g hg=>c g (gv _ hg)⟩
     ·obtain⟨y,hy,e⟩:=bP.1 hm;exact(h4 y hy).2.2 f (List.mem_append_right _ (bJ.2 rfl)) e.symm
     ·have:(cJ (f::fs)).length=(jm f).length+(cJ fs).length:=by show(jm f++cJ fs).length=_;rw[bc]
      rw[this,od];omega
theorem HI {d:Dc} (h:lT d=0):kX d:=by
 unfold lT at h
 split at h
 ·cases h
 ·obtain⟨h1,h2,h3⟩:=AG h;exact⟨fun f hf=>(h1 f hf).1,h2,fun f hf=>(h1 f hf).2.1,by omega,by omega⟩
theorem AH:∀{ws:List (List UInt8)} {i:Nat},mB i ws=0→∀x∈ws,x.length≤30
 |[],_,_,x,hx=>by cases hx
 |a::ws,i,h,x,hx=>by
  simp only[mB]at h
  split at h
  ·cases h
  ·split at h
   ·cases h
   ·rcases cb.1 hx with rfl|hx
    ·omega
    ·exact AH h x hx
theorem L7 {s:List UInt8} (h:gj s=true):(0:UInt8)∉s:=fun h0=>by
 simp only[gj,bW,fy]at h;have:=h.2 0 h0
 revert this;decide
theorem kX.PF {d:Dc} (h:kX d):∀p∈cJ d.2,OB p.1:=fun p hp=>by
 obtain⟨x,hx,h1,_⟩:=AE hp;show(0:UInt8)∉p.1.1;rw[h1];exact L7 (h.names x hx)
theorem kX.small {d:Dc} (h:kX d):∀p∈cJ d.2,p.1.1.length≤12∧p.1.2.length≤30:=fun p hp=>by
 obtain⟨x,hx,h1,h2⟩:=AE hp;exact⟨by rw[h1];exact Df (h.names x hx),AH (h.toks x hx) _ h2⟩
theorem kX.pos {d:Dc} (h:kX d) (t:Fd):(posOf (cJ d.2) t).Pairwise (· < ·)∧(∀i∈posOf (cJ d.2) t,0≤i∧i<500)∧(posOf (cJ d.2) t).length≤500:=by
 have hl:=vg (cJ d.2) t;have hm:=h.many;rcases DE (t:=t) h.once with h1|⟨x,hx,h1⟩
 ·rw[h1];exact⟨List.Pairwise.nil,(fun i hi=>by cases hi),by simp⟩
 ·obtain⟨h2,h3⟩:=I7 x t
  have qd:(words x.2).length≤500:=by
   have:(jm x).length≤(cJ d.2).length:=by
    obtain⟨i,hi⟩:=bB.1 hx;have:=sU hi
    have h5:(cJ (d.2.take (i+1))).length≤(cJ d.2).length:=by
     have:cJ d.2=cJ (d.2.take (i+1))++cJ (d.2.drop (i+1)):=by unfold cJ;rw[←List.flatMap_append,l4]
     rw[this,bc];omega
    rw[this,bc]at h5;omega
   rw[od]at this;omega
  rw[h1]at hl ⊢;exact⟨h2,fun i hi=>⟨(h3 i hi).1,by have:=(h3 i hi).2;omega⟩,by omega⟩
theorem kX.eA {d:Dc} (h:kX d) (t:Fd):oU (posOf (cJ d.2) t)=true:=by
 obtain⟨h1,h2,_⟩:=h.pos t;exact oV.2 ⟨yz (fun x hx=>by have:=(h2 x hx).1;omega) h1,fun x hx=>by have:=(h2 x hx).2;omega⟩
abbrev pb (e:En):List (Fd×Nat):=cJ e.1.2
def Cq (i:Nat) (tl:List (Fd×Nat)) (k:List UInt8):List Po:=((dj tl).filter fun t=>decide (dy t=k)).map fun t=>((i:Int),posOf tl t)
def AI (k:List UInt8):Nat→List En→List Po
 |_,[]=>[]
 |i,e::L=>Cq i (pb e) k++AI k (i+1) L
def pk (L:List En) (k:List UInt8):List Po:=AI k 0 L
theorem DF (k:List UInt8) (e:En):∀(L:List En) (i:Nat),AI k i (L++[e])=AI k i L++Cq (i+L.length) (pb e) k
 |[],i=>by simp[AI]
 |x::L,i=>by
  simp only[kL,AI,DF k e L (i+1),List.append_assoc,cD];rw[show i+1+L.length=i+(L.length+1) by omega]
theorem PG (L:List En) (e:En) (k:List UInt8):pk (L++[e]) k=pk L k++Cq L.length (pb e) k:=by
 unfold pk;rw[DF];simp
def iD (L:List En):List (List UInt8):=L.flatMap fun e=>(dj (pb e)).map dy
theorem FZ (L:List En) (e:En):iD (L++[e])=iD L++(dj (pb e)).map dy:=by simp[iD]
def keysOf (L:List En):List (List UInt8):=allBy id (iD L)
theorem iX (L:List En):Cp (keysOf L):=(tS (key:=id) (S:=fun _=>True) (fun a b _ _ h=>h) _ [] (fun _ _=>trivial) (fun _ _=>trivial) List.Pairwise.nil).1
theorem jn {L:List En} {k:List UInt8}:k∈keysOf L↔k∈iD L:=by
 have:=(tS (key:=id) (S:=fun _=>True) (fun a b _ _ h=>h) (iD L) [] (fun _ _=>trivial) (fun _ _=>trivial) List.Pairwise.nil).2 k;simpa[keysOf,allBy]using this
theorem filter_one {α:Type} {key:α→List UInt8} {l:List α} (h:BF key l) (k:List UInt8):l.filter (fun t=>decide (key t=k))=[]∨∃t∈l,key t=k∧l.filter (fun t=>decide (key t=k))=[t]:=by
 have h1:BF key (l.filter fun t=>decide (key t=k)):=List.Pairwise.sublist List.filter_sublist h;have h2:∀x∈l.filter (fun t=>decide (key t=k)),x∈l∧key x=k:=fun x hx=>by simpa using iT.1 hx
 revert h1 h2
 generalize l.filter (fun t=>decide (key t=k))=m;intro h1 h2
 match m,h1,h2 with
 |[],_,_=>exact .inl rfl
 |[t],_,h2=>exact .inr ⟨t,(h2 t (bG ..)).1,(h2 t (bG ..)).2,rfl⟩
 |t::u::m,h1,h2=>
  have:=(ey.1 h1).1 u (bG ..);rw[(h2 t (bG ..)).2,(h2 u (by simp)).2]at this;exact absurd this (iW k)
theorem HJ {d:Dc} (h:kX d) (i:Nat) (k:List UInt8):Cq i (cJ d.2) k=[]∨∃t∈dj (cJ d.2),dy t=k∧Cq i (cJ d.2) k=[((i:Int),posOf (cJ d.2) t)]:=by
 rcases filter_one (tT h.PF) k with h1|⟨t,ht,hk,h1⟩
 ·exact .inl (by unfold Cq;rw[h1];rfl)
 ·exact .inr ⟨t,ht,hk,by unfold Cq;rw[h1];rfl⟩
theorem UA {tl:List (Fd×Nat)} {i:Nat} {t:Fd} (h:t∈dj tl):Cq i tl (dy t)≠[]:=fun e=>by
 have:t∈(dj tl).filter fun u=>decide (dy u=dy t):=iT.2 ⟨h,by simp⟩
 rw[List.map_eq_nil_iff.1 e]at this;cases this
theorem tW (k:List UInt8):∀(L:List En) (i:Nat) (last:Int),(∀e∈L,kX e.1)→last<i→i+L.length≤2147483648→fS last (AI k i L)=true
 |[],_,_,_,_,_=>rfl
 |e::L,i,last,hF,h1,h2=>by
  have hf:=hF e (bG ..);have hr:=fun last h=>tW k L (i+1) last (fun x hx=>hF x (bU _ hx)) h (by simp at h2;omega)
  simp only[AI];rcases HJ hf i k with h3|⟨t,ht,hk,h3⟩
  ·rw[show Cq i (pb e) k=[]from h3];exact hr last (by omega)
  ·rw[show Cq i (pb e) k=_ from h3]
   have eQ:(posOf (cJ e.1.2) t).isEmpty=false:=by
    have:=L6 ((kW hf.PF).1 ht)
    cases h:posOf (cJ e.1.2) t with
    |nil=>exact absurd h this
    |cons a b=>rfl
   simp only[kL,fQ,fS,eQ,hf.eA t,hr i (by omega),Bool.and_true,Bool.not_false,bW,decide_eq_true_eq];simp at h2;omega
theorem pf (k:List UInt8):∀(L:List En) (i:Nat),(∀e∈L,kX e.1)→(AI k i L).length≤L.length∧∀p∈AI k i L,(i:Int)≤p.1∧p.1<i+L.length∧p.2.length≤500
 |[],_,_=>⟨aN _,fun p h=>by cases h⟩
 |e::L,i,hF=>by
  have hf:=hF e (bG ..);obtain⟨h1,h2⟩:=pf k L (i+1) (fun x hx=>hF x (bU _ hx));simp only[AI,cD];rcases HJ hf i k with h3|⟨t,ht,hk,h3⟩
  ·rw[show Cq i (pb e) k=[]from h3];exact⟨by simpa using Nat.le_succ_of_le h1,fun p hp=>by have:=h2 p (by simpa using hp);exact⟨by omega,by omega,this.2.2⟩⟩
  ·rw[show Cq i (pb e) k=_ from h3];refine⟨by simp;omega,fun p hp=>?_⟩;rcases cb.1 hp with rfl|hp
   ·exact⟨Int.le_refl _,by simp only;omega,(hf.pos t).2.2⟩
   ·have:=h2 p (by simpa using hp);exact⟨by omega,by omega,this.2.2⟩
theorem vh:∀(l:List Po) (last:Int) (m:Nat),-1≤last→fS last l=true→(∀p∈l,p.2.length≤m)→m≤1000000→(eg last l).length≤(18+9*m)*l.length∧ji l≤m*l.length
 |[],_,_,_,_,_,_=>⟨by simp[eg],by simp[ji]⟩
 |(d,ps)::l,last,m,h0,hm,hs,hmm=>by
  simp only[fS,bW,decide_eq_true_eq]at hm;obtain⟨⟨⟨⟨h1,h2⟩,h3⟩,h4⟩,h5⟩:=hm;obtain⟨h6,h7⟩:=oV.1 h4;have jT:=hs _ (bG ..);simp only at jT;obtain⟨i1,i2⟩:=vh l d m (by omega) h5 (fun p hp=>hs p (bU _ hp)) hmm;have a1:=xN ps (-1) (by omega) (fun x hx=>by have:=h7 x hx;omega) h6;have a3:=lr (n:=(d-last-1).toNat) (by omega);have a4:=lr (n:=ps.length) (by omega);have e1:9*ps.length≤9*m:=by omega
  constructor
  ·simp only[eg,eJ,bc,cD,Nat.mul_add,eP];omega
  ·simp only[ji,dQ,List.sum_cons,cD]at i2 ⊢;rw[Int.natCast_add,Int.mul_add];omega
abbrev Sg:Type:=List Int×List Int×List (List UInt8)×List (List Po)
theorem F0 {k:List UInt8}:∀{L:List En} (i:Nat),k∈iD L→AI k i L≠[]
 |[],_,h=>by cases h
 |e::L,i,h=>by
  simp only[AI];intro hn;obtain⟨h1,h2⟩:=List.append_eq_nil_iff.1 hn;have h:k∈(dj (pb e)).map dy++iD L:=h;rcases ch.1 h with h|h
  ·obtain⟨t,ht,rfl⟩:=bP.1 h;exact UA ht h1
  ·exact F0 (i+1) h h2
theorem BG {k:List UInt8}:∀{L:List En} (i:Nat),k∉iD L→AI k i L=[]
 |[],_,_=>rfl
 |e::L,i,h=>by
  have h:k∉(dj (pb e)).map dy++iD L:=h;rw[ch,not_or]at h;simp only[AI];rw[BG (i+1) h.2,ia];unfold Cq;rw[List.filter_eq_nil_iff.2 fun t ht=>by simp;intro e';exact h.1 (bP.2 ⟨t,ht,e'⟩)];rfl
end Go.K
namespace Go.K
def RT.ptr {α:Type} (A:RT α) (hn:0<A.n:=by decide):RT α where
 n:=1
 agg:=false
 R:=fun M w x vs=>∃b o us,vs=[.pointer (some ⟨b,o,none⟩)]∧¬M b∧A.R M w x us∧w.rangeAt b o us
 len:=by rintro _ _ x vs ⟨b,o,us,rfl,_⟩;rfl
 one:=by rintro _ _ x vs ⟨b,o,us,rfl,_⟩ v hv;simp at hv;subst hv;rfl
 le:=by
  rintro M w M' w' x vs hl ⟨b,o,us,h1,h2,h3,h4⟩;have hp:0<us.length:=by rw[A.len h3];exact hn
  have hc:=h4 0 (us[0]'hp) (ar hp);exact⟨b,o,us,h1,(hl b (World.block_lt_of_cell? w _ hc) h2).1,A.le hl h3,sr hl h2 h4⟩
theorem nf {α:Type} {A:RT α} {hn:0<A.n} {M:aD} {w:World} {x:α} {v:Value}:(A.ptr hn).V M w x v↔cQ A M w v x:=
 ⟨fun⟨vs,⟨b,o,us,h1,h2,h3,h4⟩,h5⟩=>⟨b,o,us,by subst h1;exact h5,h2,h3,h4⟩,fun⟨b,o,us,h1,h2,h3,h4⟩=>⟨[v],⟨b,o,us,by rw[h1],h2,h3,h4⟩,rfl⟩⟩
abbrev Di:=List (List UInt8)×List Li
abbrev Se:=List Int×List Int×Di
abbrev RT.di:RT Di:=RT.pair (RT.str.sl) (((RT.li).ptr).sl)
abbrev RT.se:RT Se:=RT.pair ((RT.int .i64).sl) (RT.pair ((RT.int .i64).sl) ((RT.di).ptr))
theorem WH:Part RT.di (RT.str.sl) (fun p=>p.1) 0:=mN _ _
theorem di1:Part RT.di (((RT.li).ptr).sl) (fun p=>p.2) 1:=iy _ _
theorem se0:Part RT.se ((RT.int .i64).sl) (fun p=>p.1) 0:=mN _ _
theorem se1:Part RT.se ((RT.int .i64).sl) (fun p=>p.2.1) 1:=(iy ((RT.int .i64).sl) (RT.pair ((RT.int .i64).sl) ((RT.di).ptr))).trans (mN _ _)
theorem se2:Part RT.se ((RT.di).ptr) (fun p=>p.2.2) 2:=(iy ((RT.int .i64).sl) (RT.pair ((RT.int .i64).sl) ((RT.di).ptr))).trans (iy ((RT.int .i64).sl) ((RT.di).ptr))
abbrev Pa:=List Int×List Int×List (List UInt8)×List (List Po)
abbrev RT.pa:RT Pa:=RT.pair ((RT.int .i64).sl) (RT.pair ((RT.int .i64).sl) (RT.pair (RT.str.sl) (((RT.po).sl).sl)))
theorem pa0:Part RT.pa ((RT.int .i64).sl) (fun p=>p.1) 0:=mN _ _
theorem pa1:Part RT.pa ((RT.int .i64).sl) (fun p=>p.2.1) 1:=(iy ((RT.int .i64).sl) (RT.pair ((RT.int .i64).sl) (RT.pair (RT.str.sl) (((RT.po).sl).sl)))).trans (mN _ _)
theorem pa2:Part RT.pa (RT.str.sl) (fun p=>p.2.2.1) 2:=((iy ((RT.int .i64).sl) (RT.pair ((RT.int .i64).sl) (RT.pair (RT.str.sl) (((RT.po).sl).sl)))).trans (iy ((RT.int .i64).sl) (RT.pair (RT.str.sl) (((RT.po).sl).sl)))).trans (mN _ _)
theorem pa3:Part RT.pa (((RT.po).sl).sl) (fun p=>p.2.2.2) 3:=((iy ((RT.int .i64).sl) (RT.pair ((RT.int .i64).sl) (RT.pair (RT.str.sl) (((RT.po).sl).sl)))).trans (iy ((RT.int .i64).sl) (RT.pair (RT.str.sl) (((RT.po).sl).sl)))).trans (iy _ _)
theorem aeQ {M:aD} {w:World} {x:Se} {a b c:Value} (h0:((RT.int .i64).sl).V M w x.1 a) (h1:((RT.int .i64).sl).V M w x.2.1 b) (h2:cQ RT.di M w c x.2.2):RT.se.V M w x (.agg [a,b,c].toArray):=
 ⟨[a,b,c],⟨[a],[b,c],rfl,mg h0 rfl rfl,[b],[c],rfl,mg h1 rfl rfl,mg (nf.2 h2) rfl rfl⟩,rfl⟩
theorem YB {M:aD} {w:World} {x:Pa} {a b c d:Value} (h0:((RT.int .i64).sl).V M w x.1 a) (h1:((RT.int .i64).sl).V M w x.2.1 b) (h2:(RT.str.sl).V M w x.2.2.1 c) (h3:(((RT.po).sl).sl).V M w x.2.2.2 d):RT.pa.V M w x (.agg [a,b,c,d].toArray):=
 ⟨[a,b,c,d],⟨[a],[b,c,d],rfl,mg h0 rfl rfl,[b],[c,d],rfl,mg h1 rfl rfl,[c],[d],rfl,mg h2 rfl rfl,mg h3 rfl rfl⟩,rfl⟩
theorem BH {α:Type} {A:RT α} (hg:A.agg=true) {M:aD} {w:World} {x:α} {vs:List Value} (h:A.V M w x (.agg vs.toArray)):∀u∈vs,u.oneCell'=true:=by
 obtain⟨us,h1,h2⟩:=h
 have:vs=us:=by
  unfold RT.val at h2;rw[if_pos hg]at h2;injection h2 with h2
  simpa using congrArg Array.toList h2
 subst this;exact A.one h1
theorem dZ.free {α:Type} {A:RT α} (hA:∀M w M' w' x vs,A.R M w x vs→A.R M' w' x vs) {M M':aD} {w w':World}:∀{xs:List α} {C:List Value},dZ A M w xs C→dZ A M' w' xs C
 |[],_,h=>h
 |x::xs,C,h=>by
  obtain⟨vs,r,h1,h2,h3⟩:=h;exact⟨vs,r,h1,hA _ _ _ _ _ _ h2,dZ.free hA h3⟩
theorem Own.tell {α:Type} {A:RT α} {hn:0<A.n} (hA:∀M w M' w' x vs,A.R M w x vs→A.R M' w' x vs) {e:TypeId} {M M0:aD} {w:World} {base:Nat} {v:Value} {xs:List α} (h:Own A e M w base v xs) (hb:∀b,v.ownBlock=some b→¬M0 b) (hlen:xs.length≤140737488355328):(A.sl hn).V M0 w xs v:=by
 obtain⟨⟨C,hr,ha⟩,hm⟩:=h;have h':Own A e (fun b=>v.ownBlock=some b∨M0 b) w base v xs:=⟨⟨C,hr,dZ.free hA ha⟩,fun b hb=> .inl hb⟩;exact h'.sl (fun b _ hn=>⟨fun h=>hn (.inr h),rfl⟩) hb hlen
end Go.K
namespace Go.K
open Go.Maps (Keyed)
section
variable {P:Program} {r:Option Nat} {n:Nat} {L:Sl} {ds:List Deferred} {w:World} {K:Kt} {ops:Array Oper} {rest:List Oper} {d:Nat} {x y z:Operand} {ty:TypeId} {pos:String} {af:Array Edge}
variable {kt:TypeId} {M:aD} {b clock:Nat} {es:List MapEntry}
theorem fH.UB (h:fH P kt w b es clock) {i s:Nat} {key v0 val:Value} (hi:es[i]? =some ⟨key,v0,s⟩) {w':World} (hw:w'.heap[b]? =some (.map (es.set i ⟨key,val,s⟩).toArray clock)):
  fH P kt w' b (es.set i ⟨key,val,s⟩) clock∧(es.set i ⟨key,val,s⟩).map (·.key)=es.map (·.key)∧∀zv jl v',ew zv (es.set i ⟨key,val,s⟩) jl v'↔(jl=key∧v'=val)∨(jl≠key∧ew zv es jl v'):=by
 have oN:=(an.1 hi).1;have ku:(⟨key,v0,s⟩:MapEntry)∈es:=az hi;obtain⟨pL,ve⟩:∃pL,pL=es.set i ⟨key,val,s⟩:=⟨_,rfl⟩;rw[←ve]at hw ⊢
 have iU:∀j e',pL[j]? =some e'→(j=i∧e'=⟨key,val,s⟩)∨(j≠i∧es[j]? =some e'):=fun j e' hj=>by
  rw[ve,dq]at hj
  split at hj
  ·rename_i jr
   left;exact⟨jr.symm,by simpa[oN]using hj.symm⟩
  ·rename_i jr
   exact .inr ⟨fun e=>jr e.symm,hj⟩
 have pM:pL.map (·.key)=es.map (·.key):=by
  rw[ve,List.map_set];apply fp;intro j;rw[dq]
  split
  ·rename_i jr
   subst jr;have e:=(an.1 hi).2;simp[oN,e]
  ·rfl
 have LN:pL.map (·.born)=es.map (·.born):=by
  rw[ve,List.map_set];apply fp;intro j;rw[dq]
  split
  ·rename_i jr
   subst jr;have e:=(an.1 hi).2;simp[oN,e]
  ·rfl
 have eR:∀e'∈pL,(e'=⟨key,val,s⟩)∨(e'∈es∧e'.key≠key):=fun e' qA=>by
  obtain⟨j,hj⟩:=bB.1 qA;rcases iU j e' hj with⟨_,e⟩|⟨eQ,rG⟩
  ·exact .inl e
  ·refine .inr ⟨az rG,fun e=>eQ ?_⟩;rcases eM j i with h1|h1|h1
   ·exact absurd e (ix h.keys rG hi h1)
   ·exact h1
   ·exact absurd e.symm (ix h.keys hi rG h1)
 have LO:(⟨key,val,s⟩:MapEntry)∈pL:=az (i:=i) (by rw[ve,dq];simp[oN])
 have hold:∀e'∈es,e'.key≠key→e'∈pL:=fun e' qA eQ=>by
  obtain⟨j,hj⟩:=bB.1 qA;refine az (i:=j) ?_;rw[ve,dq,if_neg]
  ·exact hj
  ·rintro rfl;rw[hi]at hj;cases hj;exact eQ rfl
 refine⟨⟨hw,?_,fun e' qA=>?_,?_,fun e' qA=>?_⟩,pM,fun zv jl v'=>?_⟩
 ·have:=cA.2 h.born;rw[←LN]at this;exact cA.1 this
 ·rcases eR e' qA with e|⟨h1,_⟩
  ·rw[e];exact(h.lt _ ku:s<clock)
  ·exact h.lt _ h1
 ·have:=cA.2 h.keys;rw[←pM]at this;exact cA.1 this
 ·rcases eR e' qA with e|⟨h1,_⟩
  ·rw[e];exact(h.ok _ ku:∃l,keyOf P kt key=some l)
  ·exact h.ok _ h1
 ·constructor
  ·rintro(⟨e',qA,hk,hv⟩|⟨h1,h2⟩)
   ·rcases eR e' qA with e|⟨h3,h4⟩
    ·subst e;exact .inl ⟨hk.symm,hv⟩
    ·exact .inr ⟨by rw[←hk];exact h4,.inl ⟨e',h3,hk,hv⟩⟩
   ·have eQ:jl≠key:=fun e=>h1 _ LO e.symm
    exact .inr ⟨eQ,.inr ⟨fun e' qA=>fun e=>by
     by_cases h5:e'.key=key
     ·exact eQ (e.symm.trans h5)
     ·exact h1 e' (hold e' qA h5) e,h2⟩⟩
  ·rintro(⟨rfl,rfl⟩|⟨eQ,⟨e',qA,hk,hv⟩|⟨h1,h2⟩⟩)
   ·exact .inl ⟨_,LO,rfl,rfl⟩
   ·exact .inl ⟨e',hold e' qA (by rw[hk];exact eQ),hk,hv⟩
   ·exact .inr ⟨fun e' qA=>by
     rcases eR e' qA with e|⟨h3,_⟩
     ·rw[e];exact fun e=>eQ e.symm
     ·exact h1 e' h3,h2⟩
theorem ew.put {key val:Value} {s:Nat} (hn:∀e∈es,e.key≠key) (zv jl v':Value):ew zv (es++[⟨key,val,s⟩]) jl v'↔(jl=key∧v'=val)∨(jl≠key∧ew zv es jl v'):=by
 constructor
 ·rintro(⟨e,he,hk,hv⟩|⟨h1,h2⟩)
  ·rcases ch.1 he with he|he
   ·exact .inr ⟨by rw[←hk];exact hn e he,.inl ⟨e,he,hk,hv⟩⟩
   ·obtain rfl:=bJ.1 he;exact .inl ⟨hk.symm,hv⟩
  ·exact .inr ⟨fun e=>h1 ⟨key,val,s⟩ (by simp) e.symm,.inr ⟨fun e he=>h1 e (gv _ he),h2⟩⟩
 ·rintro(⟨rfl,rfl⟩|⟨eQ,⟨e,he,hk,hv⟩|⟨h1,h2⟩⟩)
  ·exact .inl ⟨⟨_,_,s⟩,by simp,rfl,rfl⟩
  ·exact .inl ⟨e,gv _ he,hk,hv⟩
  ·refine .inr ⟨fun e he=>?_,h2⟩;rcases ch.1 he with he|he
   ·exact h1 e he
   ·obtain rfl:=bJ.1 he;exact fun e=>eQ e.symm
theorem Rg.PH {t e:TypeId} {key val:Value} {kl:Lit} (ht:P.underlying t=some (.map kt e)) (Kk:Keyed P kt) (hx:ev L x=some (.map (some b))) (hy:ev L y=some key) (hz:ev L z=some val) (lG:keyOf P kt key=some kl) (h:fH P kt w b es clock) (hm:M b)
  (k:∀w' pL FM,fH P kt w' b pL FM→((pL.map (·.key)=es.map (·.key)∧∃e∈es,e.key=key)∨(pL.map (·.key)=es.map (·.key)++[key]∧∀e∈es,e.key≠key))→(∀zv jl v',ew zv pL jl v'↔(jl=key∧v'=val)∨(jl≠key∧ew zv es jl v'))→Step M w M w' (fun k=>k=b)→Rg P r n ops rest L ds w' K):
  Rg P r n ops ({dst:=none,op:= .mapUpdate t x y z,type:=ty,pos,after:=af,guard:=none}::rest) L ds w K:=by
 have dV:=ak h.at_;rcases Kk.find w lG es h.ok with⟨h1,h2⟩|⟨j,e0,h1,h2,h3⟩
 ·have hw:({w with heap:=w.heap.setIfInBounds b (.map (es.toArray.push ⟨key,val,clock⟩) (clock+1))}:World).heap[b]? =some (.map (es++([⟨key,val,clock⟩]:List MapEntry)).toArray (clock+1)):=by
   simp[dE,dV]
  refine .QU (fun _ h=>by cases h) rfl rfl _ (fun ρ hρ=>?_) (k _ _ _ (h.push lG h2 hw) (Or.inr ⟨by simp,h2⟩) (ew.put h2) (jj M hm));simp only[execOp,hρ x _ hx,hρ y _ hy,hρ z _ hz,Instr.mapUpdate,cn,run_underlying ht,cC,dP h.at_,Kk.check w false lG,h1,run_setObj_map h.at_];simp
 ·have he:e0∈es:=az h2;obtain⟨k0,v0,s0⟩:=e0;simp only at h3;subst h3;have hj:es.toArray[j]? =some ⟨k0,v0,s0⟩:=by simpa using h2
  have LM:es.toArray.modify j (fun e=>{e with key:=k0,val:=val})=(es.set j ⟨k0,val,s0⟩).toArray:=by
   apply Array.ext_getElem?;intro i;rw[jI];simp only[eD,dq]
   split
   ·rename_i Ry
    subst Ry;have:=(an.1 h2).1;rw[h2];simp[this]
   ·rfl
  have hw:({w with heap:=w.heap.setIfInBounds b (.map (es.set j ⟨k0,val,s0⟩).toArray clock)}:World).heap[b]? =some (.map (es.set j ⟨k0,val,s0⟩).toArray clock):=by simp[dE,dV]
  obtain⟨hW,tx,zo⟩:=h.UB h2 hw
  have kF:(Instr.keyThatStays ((Option.map (fun(e:MapEntry)=>e.key) es.toArray[j]?).getD k0) k0).run P w= .ok k0 w:=by
   rw[hj];simp only[cW,Option.getD_some];exact Kk.stays w lG
  refine .QU (fun _ h=>by cases h) rfl rfl _ (fun ρ hρ=>?_) (k _ _ clock hW (Or.inl ⟨tx,_,he,rfl⟩) zo (jj M hm));simp only[execOp,hρ x _ hx,hρ y _ hy,hρ z _ hz,Instr.mapUpdate,cn,run_underlying ht,cC,dP h.at_,Kk.check w false lG,h1,kF,LM,run_setObj_map h.at_];simp
theorem DG {t e:TypeId} {zv key:Value} {size bytes:Nat} {kl:Lit} (ht:P.underlying t=some (.map kt e)) (Kk:Keyed P kt) (hi:TI P e zv size bytes) (lG:keyOf P kt key=some kl) (h:fH P kt w b es clock):
  ∃v,ew zv es key v∧∀(w:World) (ρ:Operand→Value) (dst:Option Tmp) (gd:Option (Nat×Bool)),ρ x= .map (some b)→ρ y=key→fH P kt w b es clock→(execOp ρ {dst,op:= .lookup t x y false,type:=ty,pos,after:=af,guard:=gd}).run P w= .ok (.value v) w:=by
 rcases Kk.find w lG es h.ok with⟨h1,h2⟩|⟨j,e0,h1,h2,h3⟩
 ·refine⟨zv,Or.inr ⟨h2,rfl⟩,fun w ρ dst gd hx hy h=>?_⟩;obtain⟨inf,i1,i2,_,_⟩:=hi.get;have hz:(zeroValue e).run P w= .ok zv w:=by simp[zeroValue,typeInfo,i1,i2]
  rcases Kk.find w lG es h.ok with⟨h1,_⟩|⟨j,e0,_,g2,g3⟩
  ·simp only[execOp,hx,hy,Instr.lookup,cn,run_underlying ht,cC,dP h.at_,Sem.run_pure,Kk.check w _ lG,h1,hz];simp
  ·exact absurd g3 (h2 e0 (az g2))
 ·refine⟨e0.val,Or.inl ⟨e0,az h2,h3,rfl⟩,fun w ρ dst gd hx hy h=>?_⟩;rcases Kk.find w lG es h.ok with⟨_,g2⟩|⟨j',e1,g1,g2,g3⟩
  ·exact absurd h3 (g2 e0 (az h2))
  ·have:e1=e0:=h.HA (az g2) (az h2) (g3.trans h3.symm);subst this;simp only[execOp,hx,hy,Instr.lookup,cn,run_underlying ht,cC,dP h.at_,Sem.run_pure,Kk.check w _ lG,g1];simp
theorem bX.tM {N:aD} {t e:TypeId} {zv key:Value} {size bytes:Nat} {kl:Lit} {dst:Option Tmp} {gd:Option (Nat×Bool)} (ht:P.underlying t=some (.map kt e)) (Kk:Keyed P kt) (hi:TI P e zv size bytes) (hx:ev L x=some (.map (some b))) (hy:ev L y=some key) (lG:keyOf P kt key=some kl) (h:fH P kt w b es clock) (hn: ¬N b):
  bX P N w L {dst,op:= .lookup t x y false,type:=ty,pos,after:=af,guard:=gd}:=fun ρ hρ v w' hk hr=>by
 obtain⟨v0,_,gN⟩:=DG (x:=x) (y:=y) (ty:=ty) (pos:=pos) (af:=af) ht Kk hi lG h;have h':fH P kt w' b es clock:=⟨(hk.2 b (ak h.at_) hn).trans h.at_,h.born,h.lt,h.keys,h.ok⟩;rw[gN w ρ dst gd (hρ x _ hx) (hρ y _ hy) h]at hr;rw[gN w' ρ dst gd (hρ x _ hx) (hρ y _ hy) h'];injection hr with h1 h2
 rw[h1]
end
end Go.K
namespace Go.Proofs
open Go.Shelf
def Tryz.AJ:Go.Shelf.Ren:=⟨fun|7=>54|10=>101|n=>n,fun|23=>89|26=>3|3=>97|28=>115|0=>0|27=>114|33=>104|4=>4|n=>n,fun|n=>n⟩
theorem Tryz.YC:Go.Proofs.SlLaysZI.n7 Tryz.prog Tryz.AJ:={
 mixed:=by kernel_rfl
 f7:=⟨Tryz.f54.name,by decide,Tryz.func54.trans (congrArg some (by kernel_rfl))⟩
 f10:=⟨Tryz.f101.name,by decide,Tryz.func101.trans (congrArg some (by kernel_rfl))⟩
 t0:=fJ
 a0:=lH
 z0:=ka
 v0:=gF
 t4:=iL
 a4:=rB
 z4:=nN
 v4:=jx
 t23:=Tryz.underlying89
 a23:=Tryz.isAgg89
 z23:=Tryz.sizeOf89
 v23:=Tryz.zeroValue89
 t26:=aw
 a26:=lI
 z26:=kb
 v26:=gG
 t27:=Tryz.underlying114
 a27:=Tryz.isAgg114
 z27:=Tryz.sizeOf114
 v27:=Tryz.zeroValue114
 t28:=Tryz.underlying115
 a28:=Tryz.isAgg115
 z28:=Tryz.sizeOf115
 v28:=Tryz.zeroValue115
 t33:=Tryz.underlying104
 a33:=Tryz.isAgg104
 z33:=Tryz.sizeOf104
 v33:=Tryz.zeroValue104}
def Tryz.wk:Go.Shelf.Ren:=⟨fun|6=>53|8=>99|9=>100|11=>152|13=>115|12=>153|23=>172|24=>173|14=>204|15=>205|16=>206|17=>207|18=>208|19=>209|20=>210|21=>211|22=>212|25=>259|26=>218|27=>219|28=>260|29=>261|30=>116|31=>286|n=>n,fun|26=>3|28=>115|24=>37|0=>0|3=>3|37=>189|48=>257|50=>190|4=>4|40=>251|39=>250|45=>202|5=>5|9=>9|51=>296|55=>300|57=>327|58=>328|33=>104|n=>n,fun|n=>n⟩
theorem Tryz.PI:Go.Proofs.SlLaysZI.n6 Tryz.prog Tryz.wk:={
 mixed:=by kernel_rfl
 f6:=⟨Tryz.f53.name,by decide,Tryz.func53.trans (congrArg some (by kernel_rfl))⟩
 f8:=⟨Tryz.f99.name,by decide,Tryz.func99.trans (congrArg some (by kernel_rfl))⟩
 f11:=⟨Tryz.f152.name,by decide,Tryz.func152.trans (congrArg some (by kernel_rfl))⟩
 t0:=fJ
 a0:=lH
 z0:=ka
 v0:=gF
 t24:=aq
 a24:=Tryz.isAgg37
 z24:=Tryz.sizeOf37
 v24:=Tryz.zeroValue37
 t26:=aw
 a26:=lI
 z26:=kb
 v26:=gG
 t28:=Tryz.underlying115
 a28:=Tryz.isAgg115
 z28:=Tryz.sizeOf115
 v28:=Tryz.zeroValue115
 i26:=by kernel_rfl}
def Tryz.I8:Go.Shelf.Ren:=⟨fun|5=>100|8=>115|7=>153|19=>172|20=>173|10=>204|11=>205|12=>206|13=>207|14=>208|15=>209|16=>210|17=>211|18=>212|30=>259|31=>218|32=>219|33=>260|34=>261|35=>116|40=>286|n=>n,fun|23=>37|25=>3|3=>3|32=>189|22=>37|0=>0|44=>257|46=>190|4=>4|36=>251|35=>250|41=>202|5=>5|9=>9|53=>296|57=>300|63=>327|64=>328|n=>n,fun|n=>n⟩
theorem Tryz.RE:Go.Proofs.SlLaysM.n5 Tryz.prog Tryz.I8:={
 mixed:=by kernel_rfl
 f5:=⟨Tryz.f100.name,by decide,Tryz.func100.trans (congrArg some (by kernel_rfl))⟩
 f7:=⟨Tryz.f153.name,by decide,Tryz.func153.trans (congrArg some (by kernel_rfl))⟩
 f8:=Tryz.func115.trans (congrArg some (by kernel_rfl))
 f10:=⟨Tryz.f204.name,by decide,Tryz.func204.trans (congrArg some (by kernel_rfl))⟩
 f11:=⟨Tryz.f205.name,by decide,Tryz.func205.trans (congrArg some (by kernel_rfl))⟩
 f12:=⟨Tryz.f206.name,by decide,Tryz.func206.trans (congrArg some (by kernel_rfl))⟩
 f13:=⟨Tryz.f207.name,by decide,Tryz.func207.trans (congrArg some (by kernel_rfl))⟩
 f14:=⟨Tryz.f208.name,by decide,Tryz.func208.trans (congrArg some (by kernel_rfl))⟩
 f15:=⟨Tryz.f209.name,by decide,Tryz.func209.trans (congrArg some (by kernel_rfl))⟩
 f16:=⟨Tryz.f210.name,by decide,Tryz.func210.trans (congrArg some (by kernel_rfl))⟩
 f17:=⟨Tryz.f211.name,by decide,Tryz.func211.trans (congrArg some (by kernel_rfl))⟩
 f18:=⟨Tryz.f212.name,by decide,Tryz.func212.trans (congrArg some (by kernel_rfl))⟩
 f19:=Tryz.func172.trans (congrArg some (by kernel_rfl))
 f20:=Tryz.func173.trans (congrArg some (by kernel_rfl))
 f30:=⟨Tryz.f259.name,by decide,Tryz.func259.trans (congrArg some (by kernel_rfl))⟩
 f31:=Tryz.func218.trans (congrArg some (by kernel_rfl))
 f32:=Tryz.func219.trans (congrArg some (by kernel_rfl))
 f33:=⟨Tryz.f260.name,by decide,Tryz.func260.trans (congrArg some (by kernel_rfl))⟩
 f34:=⟨Tryz.f261.name,by decide,Tryz.func261.trans (congrArg some (by kernel_rfl))⟩
 f35:=⟨Tryz.f116.name,by decide,Tryz.func116.trans (congrArg some (by kernel_rfl))⟩
 f40:=⟨Tryz.f286.name,by decide,Tryz.func286.trans (congrArg some (by kernel_rfl))⟩
 t0:=fJ
 a0:=lH
 z0:=ka
 v0:=gF
 t3:=aw
 a3:=lI
 z3:=kb
 v3:=gG
 t4:=iL
 a4:=rB
 z4:=nN
 v4:=jx
 t5:=cz
 a5:=Tryz.isAgg5
 z5:=Tryz.sizeOf5
 v5:=tj
 t9:=aF
 a9:=lJ
 z9:=kd
 v9:=gH
 t22:=aq
 a22:=Tryz.isAgg37
 z22:=Tryz.sizeOf37
 v22:=Tryz.zeroValue37
 t23:=aq
 a23:=Tryz.isAgg37
 z23:=Tryz.sizeOf37
 v23:=Tryz.zeroValue37
 t25:=aw
 a25:=lI
 z25:=kb
 v25:=gG
 t32:=jO
 a32:=Tryz.isAgg189
 z32:=Tryz.sizeOf189
 v32:=Tryz.zeroValue189
 t35:=Tryz.underlying250
 a35:=Tryz.isAgg250
 z35:=Tryz.sizeOf250
 v35:=Tryz.zeroValue250
 t36:=Tryz.underlying251
 a36:=Tryz.isAgg251
 z36:=Tryz.sizeOf251
 v36:=Tryz.zeroValue251
 t41:=Tryz.underlying202
 a41:=Tryz.isAgg202
 z41:=Tryz.sizeOf202
 v41:=Tryz.zeroValue202
 t44:=Tryz.underlying257
 a44:=Tryz.isAgg257
 z44:=Tryz.sizeOf257
 v44:=Tryz.zeroValue257
 t46:=si
 a46:=Tryz.isAgg190
 z46:=Tryz.sizeOf190
 v46:=Tryz.zeroValue190
 t53:=Tryz.underlying296
 a53:=Tryz.isAgg296
 z53:=Tryz.sizeOf296
 v53:=Tryz.zeroValue296
 t57:=Tryz.underlying300
 a57:=Tryz.isAgg300
 z57:=Tryz.sizeOf300
 v57:=Tryz.zeroValue300
 t63:=Tryz.underlying327
 a63:=Tryz.isAgg327
 z63:=Tryz.sizeOf327
 v63:=Tryz.zeroValue327
 t64:=Tryz.underlying328
 a64:=Tryz.isAgg328
 z64:=Tryz.sizeOf328
 v64:=Tryz.zeroValue328}
def Tryz.AK:Go.Shelf.Ren:=⟨fun|7=>91|10=>142|n=>n,fun|23=>151|26=>9|3=>80|28=>162|0=>0|27=>161|33=>167|4=>4|n=>n,fun|n=>n⟩
theorem Tryz.HK:Go.Proofs.SlLaysZ.n7 Tryz.prog Tryz.AK:={
 mixed:=by kernel_rfl
 f7:=⟨Tryz.f91.name,by decide,Tryz.func91.trans (congrArg some (by kernel_rfl))⟩
 f10:=⟨Tryz.f142.name,by decide,Tryz.func142.trans (congrArg some (by kernel_rfl))⟩
 t0:=fJ
 a0:=lH
 z0:=ka
 v0:=gF
 t4:=iL
 a4:=rB
 z4:=nN
 v4:=jx
 t23:=iE
 a23:=Tryz.isAgg151
 z23:=Tryz.sizeOf151
 v23:=Tryz.zeroValue151
 t26:=aF
 a26:=lJ
 z26:=kd
 v26:=gH
 t27:=Tryz.underlying161
 a27:=Tryz.isAgg161
 z27:=Tryz.sizeOf161
 v27:=Tryz.zeroValue161
 t28:=Tryz.underlying162
 a28:=Tryz.isAgg162
 z28:=Tryz.sizeOf162
 v28:=Tryz.zeroValue162
 t33:=Tryz.underlying167
 a33:=Tryz.isAgg167
 z33:=Tryz.sizeOf167
 v33:=Tryz.zeroValue167}
def Tryz.wo:Go.Shelf.Ren:=⟨fun|6=>90|8=>140|9=>141|11=>191|13=>115|12=>192|23=>172|24=>173|14=>240|15=>241|16=>242|17=>243|18=>244|19=>245|20=>246|21=>247|22=>248|25=>280|26=>218|27=>219|28=>281|29=>282|30=>283|31=>297|n=>n,fun|26=>9|28=>162|24=>57|0=>0|3=>3|37=>189|48=>257|50=>190|4=>4|40=>251|39=>250|45=>202|5=>5|9=>9|51=>296|55=>300|57=>327|58=>328|33=>167|n=>n,fun|n=>n⟩
theorem Tryz.PJ:Go.Proofs.SlLaysZ.n6 Tryz.prog Tryz.wo:={
 mixed:=by kernel_rfl
 f6:=⟨Tryz.f90.name,by decide,Tryz.func90.trans (congrArg some (by kernel_rfl))⟩
 f8:=⟨Tryz.f140.name,by decide,Tryz.func140.trans (congrArg some (by kernel_rfl))⟩
 f11:=⟨Tryz.f191.name,by decide,Tryz.func191.trans (congrArg some (by kernel_rfl))⟩
 t0:=fJ
 a0:=lH
 z0:=ka
 v0:=gF
 t24:=aS
 a24:=Tryz.isAgg57
 z24:=Tryz.sizeOf57
 v24:=Tryz.zeroValue57
 t26:=aF
 a26:=lJ
 z26:=kd
 v26:=gH
 t28:=Tryz.underlying162
 a28:=Tryz.isAgg162
 z28:=Tryz.sizeOf162
 v28:=Tryz.zeroValue162
 i26:=by kernel_rfl}
def Tryz.Ja:Go.Shelf.Ren:=⟨fun|6=>141|8=>115|9=>192|19=>172|20=>173|21=>240|22=>241|23=>242|24=>243|25=>244|26=>245|27=>246|28=>247|29=>248|36=>280|31=>218|32=>219|37=>281|38=>282|39=>283|41=>297|n=>n,fun|27=>57|29=>9|3=>3|32=>189|26=>57|0=>0|44=>257|46=>190|4=>4|36=>251|35=>250|41=>202|5=>5|9=>9|53=>296|57=>300|63=>327|64=>328|n=>n,fun|n=>n⟩
theorem Tryz.HL:Go.Proofs.SlLaysM.n6 Tryz.prog Tryz.Ja:={
 mixed:=by kernel_rfl
 f6:=⟨Tryz.f141.name,by decide,Tryz.func141.trans (congrArg some (by kernel_rfl))⟩
 f8:=Tryz.func115.trans (congrArg some (by kernel_rfl))
 f9:=⟨Tryz.f192.name,by decide,Tryz.func192.trans (congrArg some (by kernel_rfl))⟩
 f19:=Tryz.func172.trans (congrArg some (by kernel_rfl))
 f20:=Tryz.func173.trans (congrArg some (by kernel_rfl))
 f21:=⟨Tryz.f240.name,by decide,Tryz.func240.trans (congrArg some (by kernel_rfl))⟩
 f22:=⟨Tryz.f241.name,by decide,Tryz.func241.trans (congrArg some (by kernel_rfl))⟩
 f23:=⟨Tryz.f242.name,by decide,Tryz.func242.trans (congrArg some (by kernel_rfl))⟩
 f24:=⟨Tryz.f243.name,by decide,Tryz.func243.trans (congrArg some (by kernel_rfl))⟩
 f25:=⟨Tryz.f244.name,by decide,Tryz.func244.trans (congrArg some (by kernel_rfl))⟩
 f26:=⟨Tryz.f245.name,by decide,Tryz.func245.trans (congrArg some (by kernel_rfl))⟩
 f27:=⟨Tryz.f246.name,by decide,Tryz.func246.trans (congrArg some (by kernel_rfl))⟩
 f28:=⟨Tryz.f247.name,by decide,Tryz.func247.trans (congrArg some (by kernel_rfl))⟩
 f29:=⟨Tryz.f248.name,by decide,Tryz.func248.trans (congrArg some (by kernel_rfl))⟩
 f31:=Tryz.func218.trans (congrArg some (by kernel_rfl))
 f32:=Tryz.func219.trans (congrArg some (by kernel_rfl))
 f36:=⟨Tryz.f280.name,by decide,Tryz.func280.trans (congrArg some (by kernel_rfl))⟩
 f37:=⟨Tryz.f281.name,by decide,Tryz.func281.trans (congrArg some (by kernel_rfl))⟩
 f38:=⟨Tryz.f282.name,by decide,Tryz.func282.trans (congrArg some (by kernel_rfl))⟩
 f39:=⟨Tryz.f283.name,by decide,Tryz.func283.trans (congrArg some (by kernel_rfl))⟩
 f41:=⟨Tryz.f297.name,by decide,Tryz.func297.trans (congrArg some (by kernel_rfl))⟩
 t0:=fJ
 a0:=lH
 z0:=ka
 v0:=gF
 t3:=aw
 a3:=lI
 z3:=kb
 v3:=gG
 t4:=iL
 a4:=rB
 z4:=nN
 v4:=jx
 t5:=cz
 a5:=Tryz.isAgg5
 z5:=Tryz.sizeOf5
 v5:=tj
 t9:=aF
 a9:=lJ
 z9:=kd
 v9:=gH
 t26:=aS
 a26:=Tryz.isAgg57
 z26:=Tryz.sizeOf57
 v26:=Tryz.zeroValue57
 t27:=aS
 a27:=Tryz.isAgg57
 z27:=Tryz.sizeOf57
 v27:=Tryz.zeroValue57
 t29:=aF
 a29:=lJ
 z29:=kd
 v29:=gH
 t32:=jO
 a32:=Tryz.isAgg189
 z32:=Tryz.sizeOf189
 v32:=Tryz.zeroValue189
 t35:=Tryz.underlying250
 a35:=Tryz.isAgg250
 z35:=Tryz.sizeOf250
 v35:=Tryz.zeroValue250
 t36:=Tryz.underlying251
 a36:=Tryz.isAgg251
 z36:=Tryz.sizeOf251
 v36:=Tryz.zeroValue251
 t41:=Tryz.underlying202
 a41:=Tryz.isAgg202
 z41:=Tryz.sizeOf202
 v41:=Tryz.zeroValue202
 t44:=Tryz.underlying257
 a44:=Tryz.isAgg257
 z44:=Tryz.sizeOf257
 v44:=Tryz.zeroValue257
 t46:=si
 a46:=Tryz.isAgg190
 z46:=Tryz.sizeOf190
 v46:=Tryz.zeroValue190
 t53:=Tryz.underlying296
 a53:=Tryz.isAgg296
 z53:=Tryz.sizeOf296
 v53:=Tryz.zeroValue296
 t57:=Tryz.underlying300
 a57:=Tryz.isAgg300
 z57:=Tryz.sizeOf300
 v57:=Tryz.zeroValue300
 t63:=Tryz.underlying327
 a63:=Tryz.isAgg327
 z63:=Tryz.sizeOf327
 v63:=Tryz.zeroValue327
 t64:=Tryz.underlying328
 a64:=Tryz.isAgg328
 z64:=Tryz.sizeOf328
 v64:=Tryz.zeroValue328}
end Go.Proofs
namespace Go.K
open Go.Proofs
set_option maxRecDepth 10000
open Go.RowKit Go.Maps Go.Sort Go.Shelf
theorem UC (m:Nat):AnyZI.SortsIn Tryz.prog Tryz.wk Fence.wide m:=
 ⟨fun fK off cap ss W hH hblk jJ=>callsIn_wide.2 (AnyM.slices_Sort_int Tryz.RE fK off cap ss W hH hblk jJ),
  fun p cap W=>callsIn_wide.2 (AnyM.slices_Sort_int_none Tryz.RE p cap W)⟩
theorem PK {R:Value→Option (DU×List MemPlace)} {M:aD} {w:World} {b bb:Nat} {m:List (Lit×DU)} (h:Tx Tryz.prog 3 R M w b m) (L8:w.cell? ⟨bb,0,none⟩=some (.map (some b))) (hl:m.length≤1099511627776):
  Spec Tryz.prog 53 #[.func (.func 101) #[] #[.pointer (some ⟨bb,0,none⟩)]] w (fun v w'=>(∃ss:List Int,ss.Perm (intKeys (DataW.map m))∧w'.ownsRow w.heap.size 3 1 v ss.length ((ss.mergeSort (fun x y=>decide (x≤y))).map encZ)∧(v= .slice none 0 0↔ss=[]))∧Step M w M w' aC):=by
 have UD:SeqGives Fence.wide 2 Tryz.prog 101 #[.pointer (some ⟨bb,0,none⟩)] encZ (fun ss=>ss.Perm (intKeys (DataW.map m))) (Maps.size (DataW.map m)) w:=
  AnyZI.keys_gives (ρ:=Tryz.AJ) {Tryz.YC with} Fence.wide _ trivial rfl (by omega) bb b m.length (DataW.map m) _ (World.block_lt_of_cell? w _ L8) L8 h.own
 have jJ:Maps.size (DataW.map m)=m.length:=rfl;have cS:=AnyZI.sorted_in Tryz.PI Fence.wide 5 trivial trivial trivial trivial rfl (by omega) (UC _) (enters_of Tryz.func100 (by kernel_rfl) rfl) 101 #[.pointer (some ⟨bb,0,none⟩)] trivial (enters_of Tryz.func101 (by kernel_rfl) rfl) _ _ (by rw[jJ];unfold maxLen;omega) (by rw[jJ];omega) _ UD;exact(callsIn_wide (n:=5)).1 (cS.mono fun e w' ⟨v,ss,h1,h2,h3,h4,h5⟩=>⟨v,h1,⟨ss,h2,h3,h4⟩,.xV h5 M⟩)
theorem UE (m:Nat):AnyZ.SortsIn Tryz.prog Tryz.wo Fence.wide m:=
 ⟨fun fK off cap ss W hH hblk jJ=>callsIn_wide.2 (AnyM.slices_Sort_string Tryz.HL fK off cap ss W hH hblk jJ),
  fun p cap W=>callsIn_wide.2 (AnyM.slices_Sort_string_none Tryz.HL p cap W)⟩
theorem F1 (mb:Option Nat) (w:World):Spec Tryz.prog 91 #[.map mb] w (fun v w'=>v= .func (.func 142) #[] #[.pointer (some ⟨w.heap.size,0,none⟩)]∧w'=w.alloc (.cells #[.map mb] 151)):=
 (callsIn_wide (n:=5)).1 ((AnyZ.keys_in Tryz.HK Fence.wide 5 trivial rfl mb w).mono fun e w' ⟨h1,h2⟩=>⟨_,h1,rfl,h2⟩)
theorem BI {R:Value→Option (DU×List MemPlace)} {M:aD} {w:World} {b bb:Nat} {m:List (Lit×DU)} (h:Tx Tryz.prog 9 R M w b m) (L8:w.cell? ⟨bb,0,none⟩=some (.map (some b))) (hl:m.length≤1099511627776):
  Spec Tryz.prog 90 #[.func (.func 142) #[] #[.pointer (some ⟨bb,0,none⟩)]] w (fun v w'=>(∃ss:List (List UInt8),ss.Perm (strKeys (DataW.map m))∧w'.ownsRow w.heap.size 9 1 v ss.length ((ss.mergeSort (fun x y=>decide (x≤y))).map encStr)∧(v= .slice none 0 0↔ss=[]))∧Step M w M w' aC):=by
 have UD:SeqGives Fence.wide 2 Tryz.prog 142 #[.pointer (some ⟨bb,0,none⟩)] encStr (fun ss=>ss.Perm (strKeys (DataW.map m))) (Maps.size (DataW.map m)) w:=
  AnyZ.keys_gives (ρ:=Tryz.AK) {Tryz.HK with} Fence.wide _ trivial rfl (by omega) bb b m.length (DataW.map m) _ (World.block_lt_of_cell? w _ L8) L8 h.own
 have jJ:Maps.size (DataW.map m)=m.length:=rfl;have cS:=AnyZ.sorted_in Tryz.PJ Fence.wide 5 trivial trivial trivial trivial rfl (by omega) (UE _) (enters_of Tryz.func141 (by kernel_rfl) rfl) 142 #[.pointer (some ⟨bb,0,none⟩)] trivial (enters_of Tryz.func142 (by kernel_rfl) rfl) _ _ (by rw[jJ];unfold maxLen;omega) (by rw[jJ];omega) _ UD;exact(callsIn_wide (n:=5)).1 (cS.mono fun e w' ⟨v,ss,h1,h2,h3,h4,h5⟩=>⟨v,h1,⟨ss,h2,h3,h4⟩,.xV h5 M⟩)
theorem zL {w w':World} {v:Value} {t:TypeId} (h:w'=w.alloc (.cells #[v] t)):w'.cell? ⟨w.heap.size,0,none⟩=some v:=by
 subst h;exact fM (cr w _) rfl
end Go.K
namespace Go.K
open Go.Proofs
set_option maxRecDepth 10000
theorem PL {M:aD} {w0:World} {v:Value} {b:List Fd} (hM:Lt M w0) (hv:(RT.fd.sl).V M w0 b v) (kE:b.length≤1099511627776):
  Spec Tryz.prog 190 #[v] w0 (fun v' w'=>(RT.fd.sl).V M w' b v'∧Step M w0 M w' aC):=by
 obtain⟨a,cap,pW,hc,hl,hs⟩:=iB.1 hv;refine bm (args:=[_]) (fn:=Tryz.f190) Tryz.func190 rfl (n:=8) Tryz.ntmps190 (aj (ae (ah rfl rfl (ab (aj (aj (ae (ad rfl rfl (aU (v':= .slice a b.length cap) pW (Rg.tB bz rfl rfl rfl (ab ?_)))))))))));refine bI rfl (fun c1=>?_) (fun c1=>?_)
 ·refine aj (ae (ah rfl rfl (ab (aQ ?_))))
  have hb:b=[]:=by
   rcases hs with h|⟨_,_,h,_⟩
   ·exact h
   ·rw[c1]at h;cases h
  exact aV rfl rfl ⟨by rw[hb];exact pB,ax _ _⟩
 ·refine aT (aj (ae ?_));refine Rg.sl0 bz kG M rfl (fun a0 w1 s1=>?_);refine ad rfl rfl ?_;refine Rg.qN (A:=RT.fd) (hn:=by decide) (M:=M) bz kG rfl rfl rfl rfl hv s1.le (s1.lt hM) (by omega) (fun u2 w2 wW s2=>?_);refine ah rfl rfl (ab (aQ ?_));exact aV rfl rfl ⟨wW,s1.aB s2⟩
theorem yA {M:aD} {w0:World} {v:Value} {b:List Int} (hM:Lt M w0) (hv:((RT.int .i64).sl).V M w0 b v) (kE:b.length≤1099511627776):
  Spec Tryz.prog 51 #[v] w0 (fun v' w'=>((RT.int .i64).sl).V M w' b v'∧Step M w0 M w' aC):=by
 obtain⟨a,cap,pW,hc,hl,hs⟩:=iB.1 hv;refine bm (args:=[_]) (fn:=Tryz.f51) Tryz.func51 rfl (n:=8) Tryz.ntmps51 (aj (ae (ah rfl rfl (ab (aj (aj (ae (ad rfl rfl (aU (v':= .slice a b.length cap) pW (Rg.tB aq rfl rfl rfl (ab ?_)))))))))));refine bI rfl (fun c1=>?_) (fun c1=>?_)
 ·refine aj (ae (ah rfl rfl (ab (aQ ?_))))
  have hb:b=[]:=by
   rcases hs with h|⟨_,_,h,_⟩
   ·exact h
   ·rw[c1]at h;cases h
  exact aV rfl rfl ⟨by rw[hb];exact pB,ax _ _⟩
 ·refine aT (aj (ae ?_));refine Rg.sl0 aq I3 M rfl (fun a0 w1 s1=>?_);refine ad rfl rfl ?_;refine Rg.qN (A:=(RT.int .i64)) (hn:=by decide) (M:=M) aq I3 rfl rfl rfl rfl hv s1.le (s1.lt hM) (by omega) (fun u2 w2 wW s2=>?_);refine ah rfl rfl (ab (aQ ?_));exact aV rfl rfl ⟨wW,s1.aB s2⟩
theorem L9 {M:aD} {w0:World} {v:Value} {b:List (List UInt8)} (hM:Lt M w0) (hv:(RT.str.sl).V M w0 b v) (kE:b.length≤1099511627776):
  Spec Tryz.prog 199 #[v] w0 (fun v' w'=>(RT.str.sl).V M w' b v'∧Step M w0 M w' aC):=by
 obtain⟨a,cap,pW,hc,hl,hs⟩:=iB.1 hv;refine bm (args:=[_]) (fn:=Tryz.f199) Tryz.func199 rfl (n:=8) Tryz.ntmps199 (aj (ae (ah rfl rfl (ab (aj (aj (ae (ad rfl rfl (aU (v':= .slice a b.length cap) pW (Rg.tB aS rfl rfl rfl (ab ?_)))))))))));refine bI rfl (fun c1=>?_) (fun c1=>?_)
 ·refine aj (ae (ah rfl rfl (ab (aQ ?_))))
  have hb:b=[]:=by
   rcases hs with h|⟨_,_,h,_⟩
   ·exact h
   ·rw[c1]at h;cases h
  exact aV rfl rfl ⟨by rw[hb];exact pB,ax _ _⟩
 ·refine aT (aj (ae ?_));refine Rg.sl0 aS I9 M rfl (fun a0 w1 s1=>?_);refine ad rfl rfl ?_;refine Rg.qN (A:=RT.str) (hn:=by decide) (M:=M) aS I9 rfl rfl rfl rfl hv s1.le (s1.lt hM) (by omega) (fun u2 w2 wW s2=>?_);refine ah rfl rfl (ab (aQ ?_));exact aV rfl rfl ⟨wW,s1.aB s2⟩
theorem PM {M:aD} {w0:World} {v:Value} {b:List Li} (hM:Lt M w0) (hv:(((RT.li).ptr).sl).V M w0 b v) (kE:b.length≤1099511627776):
  Spec Tryz.prog 200 #[v] w0 (fun v' w'=>(((RT.li).ptr).sl).V M w' b v'∧Step M w0 M w' aC):=by
 obtain⟨a,cap,pW,hc,hl,hs⟩:=iB.1 hv;refine bm (args:=[_]) (fn:=Tryz.f200) Tryz.func200 rfl (n:=8) Tryz.ntmps200 (aj (ae (ah rfl rfl (ab (aj (aj (ae (ad rfl rfl (aU (v':= .slice a b.length cap) pW (Rg.tB ec rfl rfl rfl (ab ?_)))))))))));refine bI rfl (fun c1=>?_) (fun c1=>?_)
 ·refine aj (ae (ah rfl rfl (ab (aQ ?_))))
  have hb:b=[]:=by
   rcases hs with h|⟨_,_,h,_⟩
   ·exact h
   ·rw[c1]at h;cases h
  exact aV rfl rfl ⟨by rw[hb];exact pB,ax _ _⟩
 ·refine aT (aj (ae ?_));refine Rg.sl0 ec zB M rfl (fun a0 w1 s1=>?_);refine ad rfl rfl ?_;refine Rg.qN (A:=((RT.li).ptr)) (hn:=by decide) (M:=M) ec zB rfl rfl rfl rfl hv s1.le (s1.lt hM) (by omega) (fun u2 w2 wW s2=>?_);refine ah rfl rfl (ab (aQ ?_));exact aV rfl rfl ⟨wW,s1.aB s2⟩
theorem DH {M:aD} {d:Dc} {v0:Value} (w0:World) (hM:Lt M w0) (hv:RT.dc.V M w0 d v0) (hl:d.2.length≤1099511627776):
  Spec Tryz.prog 138 #[v0] w0 (fun v w=>RT.dc.V M w d v∧Step M w0 M w aC):=by
 have kR:=hM;refine bm (args:=[_]) (fn:=Tryz.f138) Tryz.func138 rfl (n:=9) Tryz.ntmps138 ?_;have S:Step M w0 M w0 aC:=(ax _ _).cH (fun _ h=>h.elim) (fun _ h=>h.elim);refine aj (ae ?_);refine nP (A:=RT.dc) rfl rfl hM hv rfl (fun u0 w1 dw s0 _=>?_);replace hM:=s0.lt hM;have:=S.size;replace S:=S.aB s0;refine eE M oY rfl (fun o6 FI Uf Ug fW ny=>?_);obtain⟨fw,mD⟩:∃M',M'=ins M o6:=⟨_,rfl⟩;rw[←mD]at ny;have fh:fw o6:=by rw[mD];exact .inl rfl
 change FI.heap[o6]? =some (.cells #[.int .i64 0,.slice none 0 0] _ _)at fW;replace dw:=dw.le (by decide) ny.le;replace hM:=ny.lt hM;have:=S.size;replace S:=S.aB ny;refine ab (aj ?_);apply T.pH 4 [0,1] 1 aC mixed rfl rfl rfl rfl;intro IL K5;have lE:=K5 fw;have:=ak fW;replace fh:=(lE.mem _ this).2 fh;replace fW:=lE.aM fW;replace dw:=dw.le (by decide) lE.le;replace hM:=lE.lt hM;have:=S.size;replace S:=S.aB lE;refine aK (M:=fw) (A:=RT.dc) (B:=RT.int .i64) bj rfl rfl I3 (by decide) (X5) rfl rfl (by decide) (by assumption) (by repeat (first|exact ao _ _|refine aX (bu (by assumption)) ?_)) (fun zF lK=>?_);refine ab ⟨rfl,rfl,rfl,?_⟩;refine cd (M:=fw) aw rfl rfl (by assumption) (by repeat (first|exact ao _ _|refine aX (bu (by assumption)) ?_)) (fun Ru=>?_);refine ab ⟨rfl,rfl,rfl,?_⟩;refine aK (M:=fw) (A:=RT.dc) (B:=(RT.fd).sl) bj rfl rfl uV (by decide) (IS) rfl rfl (by decide) (by assumption) (by repeat (first|exact ao _ _|refine aX (bu (by assumption)) ?_)) (fun F2 og=>?_);refine ab ⟨rfl,rfl,rfl,?_⟩;refine bR (M:=fw) bz rfl rfl rfl rfl rfl (by assumption) (by repeat (first|exact ao _ _|refine aX (bu (by assumption)) ?_)) (fun aeR RF=>?_);refine ab ⟨rfl,rfl,rfl,?_⟩;refine eZ ?_;obtain⟨bb,oo,cs,ee,fr,rfl,lp,_⟩:=lK.float;refine⟨iA ⟨je bj rfl I3 (by decide),⟨eF rfl lp (fun h=>h),trivial⟩⟩,?_⟩;have kp:=jG aC IL;refine aY rfl rfl adb (PL hM RF hl) (fun v4 w4 hc=>?_);obtain⟨qR,s4⟩:=hc;have:=ak fW;replace fh:=(s4.mem _ this).2 fh;replace fW:=s4.aM fW;replace dw:=dw.le (by decide) s4.le;replace hM:=s4.lt hM;have:=S.size;replace S:=S.aB s4;refine(fun(kp:eN _ _ _)=>ab ⟨rfl,rfl,fun _=>kp,?_⟩) (by first|exact kp|exact kp.rF (by assumption)|exact kp.goN (by assumption)|exact kp.go (by assumption) (fun _ _ h=>by first|exact h|exact h.elim))
 refine iS (places:=[(0,1),(1,1)]) bj oY B69 rfl ⟨_,_,rfl,rfl,_,_,rfl,rfl,rfl⟩ (out:=[_,_]) ⟨0,[_],rfl,rfl,by simp[Value.cells],1,[_],rfl,k8 qR,by simp[Value.cells],rfl⟩ ?_;refine ab ⟨rfl,rfl,fun h=>absurd rfl h,?_⟩;have hd:RT.dc.V fw w4 d (.agg [.int .i64 d.1,v4].toArray):=fe (fY Ru) qR rfl rfl rfl rfl;refine eG (M:=fw) (vs:=[.int .i64 d.1,v4]) oY rfl rfl (BH rfl hd) rfl rfl fW fh (fun w6 g6 s6=>?_);have:=ak fW;replace fh:=(s6.mem _ this).2 fh;replace dw:=dw.le (by decide) s6.le;replace qR:=qR.le s6.le;replace hd:=hd.le s6.le;replace hM:=s6.lt hM;have:=S.size;replace S:=S.trans s6 (fun k hk h=>by have h:_=_:=h;subst h;first|(exfalso;omega)|(show _≤_;omega)|exact⟨by first|omega|assumption,(S.mem _ hk).1 ((s6.mem _ (ak fW)).1 fh)⟩|exact .inl rfl|exact .inr rfl|exact .inr (.inl rfl)|exact .inr (.inr rfl)|exact .inr (.inr (.inl rfl))|exact rfl);have DI:=g6;clear fW;have fW:=DI;clear DI;refine ab ⟨rfl,rfl,fun h=>absurd rfl h,?_⟩;refine mM (aQ ?_);exact Bi (vs:=[.int .i64 d.1,v4]) rfl rfl bj rfl oY rfl fW ⟨hd.le (Le.close kR S),S.back⟩
theorem Mc {M:aD} {e:En} {v0:Value} (w0:World) (hM:Lt M w0) (hv:RT.en.V M w0 e v0) (hl:e.1.2.length≤1099511627776):
  Spec Tryz.prog 88 #[v0] w0 (fun v w=>RT.en.V M w e v∧Step M w0 M w aC):=by
 have kR:=hM;refine bm (args:=[_]) (fn:=Tryz.f88) Tryz.func88 rfl (n:=9) Tryz.ntmps88 ?_;have S:Step M w0 M w0 aC:=(ax _ _).cH (fun _ h=>h.elim) (fun _ h=>h.elim);refine aj (ae ?_);refine nP (A:=RT.en) rfl rfl hM hv rfl (fun u0 w1 dw s0 _=>?_);replace hM:=s0.lt hM;have:=S.size;replace S:=S.aB s0;refine eE M Cm rfl (fun o6 FI Uf Ug fW ny=>?_);obtain⟨fw,mD⟩:∃M',M'=ins M o6:=⟨_,rfl⟩;rw[←mD]at ny;have fh:fw o6:=by rw[mD];exact .inl rfl
 change FI.heap[o6]? =some (.cells #[.int .i64 0,.slice none 0 0,.int .i64 0] _ _)at fW;replace dw:=dw.le (by decide) ny.le;replace hM:=ny.lt hM;have:=S.size;replace S:=S.aB ny;refine ab (aj ?_);apply T.Ky [0,1,3,4,2,5,6] 4 [2,3] 1 aC mixed
 ·simp+decide only[xK,sy,dQ,jd,iZ,ja,fa,cW,hY,qc,cond_true,cond_false,Nat.reduceBEq,Nat.reduceAdd,beq_self_eq_true];rfl
 ·rfl
 ·rfl
 ·rfl
 ·rfl
 ·rfl
 ·rfl
 intro IL K5;have lE:=K5 fw;have:=ak fW;replace fh:=(lE.mem _ this).2 fh;replace fW:=lE.aM fW;replace dw:=dw.le (by decide) lE.le;replace hM:=lE.lt hM;have:=S.size;replace S:=S.aB lE;refine aK (M:=fw) (A:=RT.en) (B:=RT.dc) dS rfl rfl oY (by decide) X6 rfl rfl (by decide) dw (ao _ _) (fun zF lK=>?_);refine ab ⟨rfl,rfl,rfl,?_⟩;refine cN (M:=fw) (A:=RT.dc) bj rfl oY (by decide) rfl rfl rfl lK (ao _ _) (fun zG mZ=>?_);refine ab ⟨rfl,rfl,rfl,?_⟩;refine aK (M:=fw) (A:=RT.en) (B:=RT.int .i64) dS rfl rfl I3 (by decide) en1 rfl rfl (by decide) dw (ao _ _) (fun F2 og=>?_);refine ab ⟨rfl,rfl,rfl,?_⟩;refine cd (M:=fw) aw rfl rfl (by assumption) (by repeat (first|exact ao _ _|refine aX (bu (by assumption)) ?_)) (fun Md=>?_);refine aU (v':= .int .i64 (e.2)) rfl ?_;replace Md: -9223372036854775808≤(e.2:Int)∧e.2≤9223372036854775807:=Md;refine ab ⟨rfl,rfl,rfl,?_⟩;refine eZ ?_;obtain⟨bb,oo,cs,ee,fr,rfl,lp,_⟩:=og.float;refine⟨iA ⟨je dS rfl I3 (by decide),⟨eF rfl lp (fun h=>h),trivial⟩⟩,?_⟩;have kp:=jG aC IL;refine aY rfl rfl ac3 (DH _ hM mZ hl) (fun v4 w4 hc=>?_);obtain⟨qR,s4⟩:=hc;obtain⟨uf,rfl⟩:=Lj qR;have:=ak fW;replace fh:=(s4.mem _ this).2 fh;replace fW:=s4.aM fW;replace dw:=dw.le (by decide) s4.le;replace hM:=s4.lt hM;have:=S.size;replace S:=S.aB s4;refine(fun(kp:eN _ _ _)=>ab ⟨rfl,rfl,fun _=>kp,?_⟩) (by first|exact kp|exact kp.rF (by assumption)|exact kp.goN (by assumption)|exact kp.go (by assumption) (fun _ _ h=>by first|exact h|exact h.elim));refine iS (places:=[(0,2),(2,1)]) dS Cm B71 rfl ⟨_,_,rfl,rfl,_,_,rfl,rfl,rfl⟩ (out:=[_,_,_]) ⟨0,[_,_],rfl,rfl,by simp[Value.cells],2,[_],rfl,rfl,by simp[Value.cells],rfl⟩ ?_
 refine ab ⟨rfl,rfl,fun h=>absurd rfl h,?_⟩;have hd:RT.en.V fw w4 e (.agg [.int .i64 e.1.1,uf,.int .i64 e.2].toArray):=Rm (p:=e.1) qR Md;refine eG (M:=fw) (vs:=[.int .i64 e.1.1,uf,.int .i64 e.2]) Cm rfl rfl (BH rfl hd) rfl rfl fW fh (fun w6 g6 s6=>?_);have:=ak fW;replace fh:=(s6.mem _ this).2 fh;replace dw:=dw.le (by decide) s6.le;replace qR:=qR.le s6.le;replace hd:=hd.le s6.le;replace hM:=s6.lt hM;have:=S.size;replace S:=S.trans s6 (fun k hk h=>by have h:_=_:=h;subst h;first|(exfalso;omega)|(show _≤_;omega)|exact⟨by first|omega|assumption,(S.mem _ hk).1 ((s6.mem _ (ak fW)).1 fh)⟩|exact .inl rfl|exact .inr rfl|exact .inr (.inl rfl)|exact .inr (.inr rfl)|exact .inr (.inr (.inl rfl))|exact rfl);have DI:=g6;clear fW;have fW:=DI;clear DI;refine ab ⟨rfl,rfl,fun h=>absurd rfl h,?_⟩;refine mM (aQ ?_);exact Bi (vs:=[.int .i64 e.1.1,uf,.int .i64 e.2]) rfl rfl dS rfl Cm rfl fW ⟨hd.le (Le.close kR S),S.back⟩
end Go.K
namespace Go.K
open Go.Proofs
namespace TKBldB
theorem YD:TI Tryz.prog 217 (.map none) 1 8:=by unfold TI;kernel_rfl
theorem aeS:Enters Tryz.prog 133:=enters Tryz.func133 rfl (by decide)
theorem aeT:Enters Tryz.prog 134:=enters Tryz.func134 rfl (by decide)
theorem aeU:Enters Tryz.prog 135:=enters Tryz.func135 rfl (by decide)
end TKBldB
open TKBldB
set_option maxRecDepth 10000
theorem IJ.aL {bt mb B:Nat} {ts:List (Fd×Nat)} {M M':aD} {w w':World} (h:IJ bt mb B ts M w) (s:Step M w M' w' aC):IJ bt mb B ts M' w':=by
 obtain⟨gb,ei,fj,hB,HG,es,clock,hW,hI⟩:=h;exact⟨s.aM gb,(s.mem _ (ak gb)).2 ei,(s.mem _ (ak hW.at_)).2 fj,hB,HG,es,clock,hW.aL s,hI.aL s⟩
theorem Me {bt mb B:Nat}:Uo Tryz.prog 133 [.pointer (some ⟨bt,0,none⟩)] B (IJ bt mb B):=
 ⟨aeS,fun ts M w M' w' h s=>h.aL s,fun ts M w t i hJ hM h1 h2 hi h4=>I2 w hM h1 h2 hi h4 hJ⟩
theorem Mf (M:aD) (w:World) (B:Nat):I1 M w B [] [] where
 o t v hv:=by
  rcases hv with⟨e,he,_⟩|⟨_,rfl⟩
  ·cases he
  ·exact dD _ _ _ _ _
 a t t' v v' _ hv _:=by
  rcases hv with⟨e,he,_⟩|⟨_,rfl⟩
  ·cases he
  ·exact(ie.nil v').symm
 k:=rfl
theorem DJ:∀(ts:List (Fd×Nat)) (l:List Fd),(ts.foldl (fun l p=>if p.1∈l then l else l++[p.1]) l).length≤l.length+ts.length
 |[],l=>by simp
 |p::ts,l=>by
  rw[List.foldl_cons,cD];refine dW (DJ ts _) ?_
  split
  ·omega
  ·rw[bc];simp;omega
theorem PN (M:aD) (w:World) (M':aD) (w':World) (x:Fd) (vs:List Value) (h:RT.fd.R M w x vs):RT.fd.R M' w' x vs:=h
theorem DK {M:aD} {d:Dc} {v0:Value} (w0:World) (hM:Lt M w0) (hv:RT.dc.V M w0 d v0) (hF:kX d) (hl:∀f∈d.2,f.1.length≤900000∧f.2.length≤900000):
  Spec Tryz.prog 87 #[v0] w0 (fun v w=>∃a b,v= .tuple #[a,b]∧(RT.fd.sl).V M w (dj (cJ d.2)) a∧(((RT.int .i64).sl).sl).V M w ((dj (cJ d.2)).map (posOf (cJ d.2))) b∧Step M w0 M w aC):=by
 have kR:=hM;have RG:=hF.many;refine bm (args:=[_]) (fn:=Tryz.f87) Tryz.func87 rfl (n:=31) Tryz.ntmps87 ?_;have S:Step M w0 M w0 aC:=(ax _ _).cH (fun _ h=>h.elim) (fun _ h=>h.elim);refine aj (ae ?_);refine nP (A:=RT.dc) rfl rfl hM hv rfl (fun u0 w1 dw s0 _=>?_);replace hM:=s0.lt hM;have:=S.size;replace S:=S.aB s0;refine ah rfl rfl (ah rfl rfl (ab (aj (ae ?_))));refine Rg.Ds M l5 rfl (fun mb w1m p1 q1 gW s1=>?_);obtain⟨UF,Mh⟩:∃M',M'=ins M mb:=⟨_,rfl⟩;rw[←Mh]at s1;have BJ:UF mb:=by rw[Mh];exact .inl rfl
 replace dw:=dw.le (by decide) s1.le;replace hM:=s1.lt hM;have:=S.size;replace S:=S.aB s1;refine eE UF YD rfl (fun Jb Ur aov aow zI xa=>?_);obtain⟨Mi,Mj⟩:∃M',M'=ins UF Jb:=⟨_,rfl⟩;rw[←Mj]at xa;have yB:Mi Jb:=by rw[Mj];exact .inl rfl
 change Ur.heap[Jb]? =some (.cells #[.map none] _ _)at zI;replace dw:=dw.le (by decide) xa.le;replace BJ:=(xa.mem _ (ak gW.at_)).2 BJ;replace gW:=gW.aL xa;replace hM:=xa.lt hM;have:=S.size;replace S:=S.aB xa;refine cw (M:=Mi) YD rfl rfl zI rfl (rfl) yB (fun Py iH pV=>?_)
 try simp only[List.setIfInBounds_toArray,List.set_cons_zero,List.set_cons_succ]at iH
 have:=ak zI;replace yB:=(pV.mem _ this).2 yB;replace dw:=dw.le (by decide) pV.le;replace BJ:=(pV.mem _ (ak gW.at_)).2 BJ;replace gW:=gW.step pV (by show¬(_=_);omega);replace hM:=pV.lt hM;have:=S.size;replace S:=S.trans pV (fun k hk h=>by have h:_=_:=h;subst h;first|(exfalso;omega)|(show _≤_;omega)|exact⟨by first|omega|assumption,(S.mem _ hk).1 ((pV.mem _ (ak zI)).1 yB)⟩|exact .inl rfl|exact .inr rfl|exact .inr (.inl rfl)|exact .inr (.inr rfl)|exact .inr (.inr (.inl rfl))|exact rfl);have RH:=iH;clear zI;have zI:=RH;clear RH;refine ab (aj (ae ?_));refine cN (M:=Mi) (A:=RT.dc) bj rfl oY (by decide) rfl rfl rfl (by assumption) (by repeat (first|exact ao _ _|refine aX (bu (by assumption)) ?_)) (fun aox YE=>?_);refine kg (xs:=[]) (ys:=[.tmp 4]) rfl rfl rfl ?_;refine aY rfl rfl Xw (Az (cap:=[.pointer (some ⟨Jb,0,none⟩)]) (B:=w0.heap.size) _ hM YE hl hF.few (Me (mb:=mb)) ⟨zI,yB,BJ,by omega,by omega,[],0,gW,Mf _ _ _⟩) (fun r2 w2 hc=>?_);obtain⟨M2,EX,⟨gb,_,_,_,_,es,clock,hW,hI⟩,s2⟩:=hc;replace S:=S.l7 s2 (aN _);have pX:∀t v,ew kU es (kv t) v→(((RT.int .i64).sl)).V M w2 (posOf (cJ d.2) t) v:=fun t v h=>(hI.o t v h).close kR S (by have:=vg (cJ d.2) t;omega)
 replace S:=S.back;replace hM:=S.lt kR
 have YF:∀e∈es,∃t∈seen (cJ d.2),e.key=kv t:=fun e he=>by
  have:e.key∈(seen (cJ d.2)).map kv:=by rw[←hI.k];exact gQ he
  obtain⟨t,h1,h2⟩:=bP.1 this;exact⟨t,h1,h2.symm⟩
 have A7:∀t∈seen (cJ d.2),OB t∧t.1.length≤12∧t.2.length≤30:=fun t ht=>by
  obtain⟨p,hp,rfl⟩:=bP.1 (tU.1 ht);exact⟨hF.PF p hp,hF.small p hp⟩
 have mQ:(seen (cJ d.2)).length≤500:=dW (DJ _ _) (by simp;omega);have Cx:es.length≤500:=by have:=congrArg List.length hI.k;simp at this;omega
 refine ab (aj (ae (aP l5 rfl rfl rfl gb rfl ?_)));refine aY rfl rfl aeU (FU _) (fun r3 w3 hc=>?_);obtain⟨bs,rfl,Uu,_,s3⟩:=hc;replace s3:=s3.toAny M;replace hW:=hW.aL s3;replace gb:=s3.aM gb;replace pX:=fun t v h=>(pX t v h).le s3.le
 replace hM:=s3.lt hM;have:=S.size;replace S:=S.aB s3
 refine aY rfl rfl aeT (Dz _ (fun e he=>by
  obtain⟨t,h1,h2⟩:=YF e he;exact⟨t,h2,by have:=(A7 t h1).2;omega,by have:=(A7 t h1).2;omega⟩) (fun e he t ht=>by
  obtain⟨t',h1,h2⟩:=YF e he;obtain rfl:=vf (ht.symm.trans h2);exact⟨(A7 _ h1).1,by have:=(A7 _ h1).2;omega,by have:=(A7 _ h1).2;omega⟩) (by omega) (fun ts oD ku=>by
  have:=oD.length_le_of_subset (l₂:=seen (cJ d.2)) (fun t ht=>(tQ hI.k).1 (ku t ht));omega) Uu hW) (fun r4 w4 hc=>?_)
 obtain⟨us,oD,ku,SR,Yv,s4⟩:=hc;obtain rfl:=DC hF.PF oD (fun t=>(ku t).trans (tQ hI.k)) SR;have J0:(dj (cJ d.2)).length≤500:=dW (oD.length_le_of_subset (l₂:=seen (cJ d.2)) (fun t ht=>tU.2 ((kW hF.PF).1 ht))) mQ;replace s4:=s4.toAny M;have zx:(RT.fd.sl).V M w4 (dj (cJ d.2)) r4:=Yv.tell PN (fun b hb h=>by have:=(Yv.base b hb).1;have:=hM b h;omega) (by omega);clear Yv;replace hW:=hW.aL s4;replace gb:=s4.aM gb;replace pX:=fun t v h=>(pX t v h).le s4.le
 replace hM:=s4.lt hM;have:=S.size;replace S:=S.aB s4;refine ah rfl rfl (ab (aj (ae (ah rfl rfl (ab (aj (aj (ae (ad rfl rfl (bQ jP rfl zx rfl (ad rfl rfl ?_)))))))))));refine ab (aZ ?_);refine dn (σ:=Nat×Value) (fun q=>[(4,.pointer (some ⟨Jb,0,none⟩)),(5,r4),(6,q.2),(16,r4),(17,.int .i64 ((dj (cJ d.2)).length:Int)),(18,.int .i64 (q.1:Int))]) (fun q w=>∃M',Lt M' w∧Step M w0 M' w aC∧Own ((RT.int .i64).sl) 37 M' w w0.heap.size q.2 (((dj (cJ d.2)).take q.1).map (posOf (cJ d.2)))∧(RT.fd.sl).V M' w (dj (cJ d.2)) r4∧fH Tryz.prog 78 w mb es clock∧w.heap[Jb]? =some (.cells #[.map (some mb)] 217 (0,0))∧(∀t v,ew kU es (kv t) v→(((RT.int .i64).sl)).V M' w (posOf (cJ d.2) t) v)∧q.1≤(dj (cJ d.2)).length) (fun q=>(dj (cJ d.2)).length-q.1) (0,.slice none 0 0) (.cons rfl (.cons rfl (.cons rfl (.cons rfl (.cons rfl (.cons rfl .nil)))))) ?_ ?_
 ·exact⟨M,hM,S,dD _ _ _ _ _,zx,hW,gb,pX,bD _⟩
 ·clear hM zx hW gb pX S;rintro⟨i,u⟩ w ⟨M1,hM,S,ho,zx,hW,gb,pX,hi⟩;dsimp only at ho hi ⊢;refine aj (ae (cg rfl rfl rfl (ab (aj ?_))));refine bI rfl (fun c6=>?_) (fun c6=>?_)
  ·refine aT (aj (aZ (aj (ae ?_))));refine cF (M:=M1) jP xX rfl rfl rfl zx (ao _ _) (by omega) (fun Yb t hg7 Hz=>?_);rw[ay]at hg7;have Hi:=az hg7;have Ku:=A7 t (tU.2 ((kW hF.PF).1 Hi));refine cN (M:=M1) (A:=RT.fd) ck rfl xX (by decide) rfl rfl rfl Hz (ao _ _) (fun aeh Rr=>?_);refine sf (A:=RT.fd) (M:=M1) xX rfl rfl rfl rfl rfl (by assumption) (ao _ _) hM (fun aeW aoy AL F3 aoz=>?_);replace zx:=zx.le F3.le;replace ho:=ho.aL F3;replace hW:=hW.aL F3;replace gb:=F3.aM gb;replace pX:=fun t v h=>(pX t v h).le F3.le
   replace hM:=F3.lt hM;have:=S.size;replace S:=S.aB F3;refine ab (ae (ad rfl rfl (aP l5 rfl rfl rfl gb rfl ?_)));refine cN (M:=M1) (A:=RT.fd) ck rfl xX (by decide) rfl rfl rfl AL (ao _ _) (fun aoA YG=>?_);obtain rfl:=nw YG;obtain⟨kl,Cl⟩:=LR t (by omega) (by omega);refine Rg.tM l5 Ay kD rfl rfl rfl Cl hW (fun v8 pW=>?_);have HM:=pX _ _ pW;clear pW;refine ep (A:=((RT.int .i64).sl)) (hn:=by decide) (M:=M1) cP kD (by decide) rfl rfl hM (HM) (.inr ⟨rfl,rfl⟩) (fun aoB aoC Mk DL=>?_);replace zx:=zx.le DL.le;replace AL:=AL.le (by decide) DL.le;replace ho:=ho.aL DL;replace hW:=hW.aL DL;replace gb:=DL.aM gb;replace pX:=fun t v h=>(pX t v h).le DL.le
   replace hM:=DL.lt hM;have:=S.size;replace S:=S.aB DL;refine dd (M:=M1) (base:=w0.heap.size) cP kD rfl rfl rfl rfl ho Mk (ao _ _) (by simp;omega) (by simp;omega) (S.size) (fun aeX aeY aoD YH DM=>?_);replace zx:=zx.le DM.le;replace AL:=AL.le (by decide) DM.le;replace Mk:=Mk.le DM.le;replace hW:=hW.step DM (fun h=>ho.kV hW.at_ h);replace gb:=DM.keep gb (fun h=>ho.eO gb (by decide) h);replace pX:=fun t v h=>(pX t v h).le DM.le
   replace hM:=DM.lt hM;have:=S.size;replace S:=S.dg DM ho (aN _);replace ho:=YH;refine ah rfl rfl (ab (ae (bC rfl rfl rfl (by omega) (ad rfl rfl (ab ?_)))));refine⟨rfl,(i+1,aeX),(.cons rfl (.cons rfl (.cons rfl (.cons rfl (.cons rfl (.cons rfl .nil)))))),?_,?_⟩
   ·exact⟨aeY,hM,S,by rw[bV,hg7,cE,cX];exact ho,zx,hW,gb,pX,by dsimp only;omega⟩
   ·dsimp only;omega
  ·refine cK (aj (ae (ad rfl rfl (ad rfl rfl (ah rfl rfl (ah rfl rfl (ab (aQ ?_))))))));have e:(dj (cJ d.2)).take i=dj (cJ d.2):=aW (by omega);rw[e]at ho;exact fm rfl rfl rfl ⟨_,_,rfl,zx.le (Le.close kR S),ho.close kR S (by simp;omega),S.back⟩
end Go.K
namespace Go.K
def RI {α:Type} (A:RT α) (M:aD) (w:World) (v:Value) (x:α):Prop:=∃b o vs,v= .pointer (some ⟨b,o,none⟩)∧A.R M w x vs∧w.rangeAt b o vs
theorem Own.elem {α:Type} {A:RT α} {e:TypeId} {M:aD} {w:World} {base:Nat} {v:Value} {xs:List α} (h:Own A e M w base v xs) (hA:0<A.n) {i:Nat} {x:α} (hx:xs[i]? =some x):
  ∃g cap vs,v= .slice (some ⟨g,0,none⟩) xs.length cap∧M g∧A.R M w x vs∧w.rangeAt g (i*A.n) vs:=by
 obtain⟨⟨C,hr,ha⟩,hm⟩:=h;rcases hr.2 with⟨h1,h2⟩|⟨g,cap,cur,h1,h2,h3,h4,h5,h6,h7⟩
 ·have:xs=[]:=List.eq_nil_of_length_eq_zero h2;subst this;simp at hx
 ·obtain⟨vs,hv,hj⟩:=ha.at_ i x hx;refine⟨g,cap,vs,h1,hm g (by rw[h1];rfl),hv,fun j u hu=>?_⟩;have h8:=hj j u hu;rw[←h7,cp]at h8
  split at h8
  ·simp only[World.cell?,h3];simpa using h8
  ·cases h8
section
variable {P:Program} {r:Option Nat} {n:Nat} {L:Sl} {ds:List Deferred} {w:World} {K:Kt} {ops:Array Oper} {rest:List Oper} {d:Nat} {x y:Operand} {ty:TypeId} {pos:String} {af:Array Edge} {α:Type} {A:RT α}
theorem Rg.aeZ {t e e':TypeId} {i:Operand} {κ:IntKind} {j:Int} {M:aD} {base:Nat} {xs:List α} {v zv:Value} {bytes:Nat} (ht:P.underlying t=some (.slice e)) (hi:TI P e zv A.n bytes) (hA:0<A.n)
  (hx:ev L x=some v) (E3:ev L i=some (.int κ j)) (hd:Nat.blt d n=true) (ho:Own A e' M w base v xs) (hj:0≤j∧j<xs.length)
  (k:∀u a,xs[j.toNat]? =some a→RI A M w u a→Rg P r n ops rest ((d,u)::L) ds w K):
  Rg P r n ops ({dst:=some d,op:= .indexAddr t x i,type:=ty,pos,after:=af,guard:=none}::rest) L ds w K:=by
 have dV:j.toNat<xs.length:=by omega
 obtain⟨g,cap,vs,rfl,hm,h1,h2⟩:=ho.elem hA (ar dV);refine .op (fun _ h=>by cases h) rfl rfl hd (.pointer (some ⟨g,0+j.toNat*A.n,none⟩)) w (fun ρ h=>?_) (k _ xs[j.toNat] (ar dV) ⟨g,_,vs,rfl,h1,by rw[fR];exact h2⟩);simp only[execOp,h x _ hx,h i _ E3];simp[Instr.indexAt,run_underlying ht,asIntOf,hj,hi.sizeOf,wK]
theorem Rg.Ml {t:TypeId} {fs:TypeDesc} {zv:Value} {bytes:Nat} {M:aD} {p:Value} {a:α} (hu:P.underlying t=some fs) (hf:fs.isRow=true) (hi:TI P t zv A.n bytes) (hg:A.agg=true)
  (hx:ev L x=some p) (hd:Nat.blt d n=true) (hp:RI A M w p a) (k:∀v,A.V M w a v→Rg P r n ops rest ((d,v)::L) ds w K):
  Rg P r n ops ({dst:=some d,op:= .load t x,type:=ty,pos,after:=af,guard:=none}::rest) L ds w K:=by
 obtain⟨b,o,vs,rfl,h1,h2⟩:=hp;refine .op (fun _ h=>by cases h) rfl rfl hd (.agg vs.toArray) w (fun ρ h=>?_) (k _ ⟨vs,h1,by simp[RT.val,hg]⟩);simp only[execOp,h x _ hx];obtain⟨i,zm,_,Ac,_⟩:=hi.get;have:=run_loadAt_mid (P:=P) w b o t vs fs h2 hu hf (by simp[zm,Ac,A.len h1]);simp[this]
end
end Go.K
namespace Go.K
open Go.Proofs
namespace TKBldC
theorem ae0:TI Tryz.prog 153 (.agg #[(.slice none 0 0),(.map none),(.int .i64 0),(.int .i64 0)]) 4 48:=by unfold TI;kernel_rfl
theorem ae1:placesOf Tryz.prog 153=[(0,1),(1,1),(2,1),(3,1)].map some:=by kernel_rfl
end TKBldC
open TKBldC
set_option maxRecDepth 10000
open Go.Maps (Keyed)
theorem tX:Keyed Tryz.prog 9:=Go.Maps.string_keyed aF
theorem Mm (k:List UInt8) (h:k.length≤140737488355328):∃l,keyOf Tryz.prog 9 (sv k)=some l:=by
 have e1:(⟨k.toArray⟩:ByteArray).size=k.length:=by simp[ByteArray.size]
 exact⟨_,Go.WideMaps.keyOf_string_mk aF (by rw[e1];unfold maxLen;omega)⟩
structure DN (Z:aD) (M:aD) (w:World) (B:Nat) (f:List UInt8→List Po) (K:List UInt8→Prop) (es:List MapEntry):Prop where
 o:∀k v,ew kU es (sv k) v→Own RT.po 83 M w B v (f k)
 a:∀k k' v v',k≠k'→ew kU es (sv k) v→ew kU es (sv k') v'→ie v v'
 k:∀x,(∃e∈es,e.key=sv x)↔K x
 z:∀k v c,ew kU es (sv k) v→v.ownBlock=some c→Z c
theorem DN.step {Z M M' N:aD} {w w':World} {B:Nat} {f:List UInt8→List Po} {K:List UInt8→Prop} {es:List MapEntry} (h:DN Z M w B f K es) (s:Step M w M' w' N) (hn:∀k v b,ew kU es (sv k) v→v.ownBlock=some b→¬N b):DN Z M' w' B f K es:=
 ⟨fun k v hv=>(h.o k v hv).step s fun b hb=>hn k v b hv hb,h.a,h.k,h.z⟩
theorem DN.aL {Z M M':aD} {w w':World} {B:Nat} {f:List UInt8→List Po} {K:List UInt8→Prop} {es:List MapEntry} (h:DN Z M w B f K es) (s:Step M w M' w' aC):DN Z M' w' B f K es:=h.step s fun _ _ _ _ _ h=>h
theorem DN.congr {Z M:aD} {w:World} {B:Nat} {f f':List UInt8→List Po} {K K':List UInt8→Prop} {es:List MapEntry} (h:DN Z M w B f K es) (hf:∀k,f' k=f k) (hK:∀k,K' k↔K k):DN Z M w B f' K' es:=
 ⟨fun k v hv=>by rw[hf];exact h.o k v hv,h.a,fun x=>(h.k x).trans (hK x).symm,h.z⟩
theorem DN.Jc {Z Z' M:aD} {w:World} {B:Nat} {f:List UInt8→List Po} {K:List UInt8→Prop} {es:List MapEntry} (h:DN Z M w B f K es) (hz:∀c,Z c→c<w.heap.size→Z' c):DN Z' M w B f K es:=
 ⟨h.o,h.a,h.k,fun k v c hv hc=>hz c (h.z k v c hv hc) ((h.o k v hv).base c hc).2⟩
theorem DN.put {Z M M2:aD} {w w1 w2:World} {B mb c:Nat} {mes:Array MapEntry} {f:List UInt8→List Po} {K:List UInt8→Prop} {es UG:List MapEntry} {k0:List UInt8} {v0 v1:Value} {ps:List Po} (h:DN Z M w B f K es) (hZ:∀c,w.heap.size≤c→Z c) (Ow:ew kU es (sv k0) v0)
  (UH:Own RT.po 83 (jv M v1) w1 B v1 (f k0++ps)) (s1:Step M w (jv M v1) w1 (fK v0)) (hF:∀b,v1.ownBlock=some b→w.heap.size≤b∨v0.ownBlock=some b) (hmb:w1.heap[mb]? =some (.map mes c)) (s2:Step (jv M v1) w1 M2 w2 (fun k=>k=mb))
  (FV:∀zv jl v',ew zv UG jl v'↔(jl=sv k0∧v'=v1)∨(jl≠sv k0∧ew zv es jl v')) (pM:(UG.map (·.key)=es.map (·.key)∧∃e∈es,e.key=sv k0)∨(UG.map (·.key)=es.map (·.key)++[sv k0]∧∀e∈es,e.key≠sv k0)):
  DN Z M2 w2 B (fun k=>if k=k0 then f k0++ps else f k) (fun x=>K x∨x=k0) UG:=by
 have rU:∀k v,ew kU UG (sv k) v→(k=k0∧v=v1)∨(k≠k0∧ew kU es (sv k) v):=fun k v hv=>by
  rcases(FV kU (sv k) v).1 hv with⟨h3,h4⟩|⟨h3,h4⟩
  ·exact .inl ⟨BE h3,h4⟩
  ·exact .inr ⟨fun e=>h3 (by rw[e]),h4⟩
 have uD:∀k v,k≠k0→ew kU es (sv k) v→ie v1 v:=fun k v eQ hv=>(h.a k k0 v v0 eQ hv Ow).symm.grown hF (fun b hb=>((h.o k v hv).base b hb).2)
 have PD:∀k v,k≠k0→ew kU es (sv k) v→Own RT.po 83 (jv M v1) w1 B v (f k):=fun k v eQ hv=>(h.o k v hv).step s1 (fun b hb hk=>h.a k k0 v v0 eQ hv Ow b hb hk)
 have hnm:∀{v:Value} {xs:List Po},Own RT.po 83 (jv M v1) w1 B v xs→∀b,v.ownBlock=some b→¬b=mb:=fun ho b hb e=>ho.kV hmb (by rw[←e];exact hb)
 refine⟨fun k v hv=>?_,fun k k' v v' eQ hv rD=>?_,fun x=>?_,fun k v c hv hc=>?_⟩
 ·rcases rU k v hv with⟨rfl,rfl⟩|⟨h3,h4⟩
  ·rw[if_pos rfl];exact UH.step s2 (hnm UH)
  ·rw[if_neg h3];exact(PD k v h3 h4).step s2 (hnm (PD k v h3 h4))
 ·rcases rU k v hv with⟨rfl,rfl⟩|⟨h3,h4⟩
  ·rcases rU k' v' rD with⟨rfl,_⟩|⟨h5,h6⟩
   ·exact absurd rfl eQ
   ·exact uD k' v' h5 h6
  ·rcases rU k' v' rD with⟨rfl,rfl⟩|⟨h5,h6⟩
   ·exact(uD k v h3 h4).symm
   ·exact h.a k k' v v' eQ h4 h6
 ·have ku:(∃e∈UG,e.key=sv x)↔sv x∈UG.map (·.key):=by simp
  have ae2:(∃e∈es,e.key=sv x)↔sv x∈es.map (·.key):=by simp
  rw[ku,←h.k x,ae2];rcases pM with⟨h3,e,he,hk⟩|⟨h3,_⟩
  ·rw[h3];constructor
   ·exact .inl
   ·rintro(h4|rfl)
    ·exact h4
    ·rw[←hk];exact gQ he
  ·rw[h3,ch,bJ];constructor
   ·rintro(h4|h4)
    ·exact .inl h4
    ·exact .inr (BE h4)
   ·rintro(h4|rfl)
    ·exact .inl h4
    ·exact .inr rfl
 ·rcases rU k v hv with⟨rfl,rfl⟩|⟨h3,h4⟩
  ·rcases hF c hc with h5|h5
   ·exact hZ c h5
   ·exact h.z _ _ c Ow h5
  ·exact h.z k v c h4 hc
theorem PO (Z M:aD) (w:World) (B:Nat):DN Z M w B (pk []) (fun x=>x∈iD []) [] where
 o k v hv:=by
  rcases hv with⟨e,he,_⟩|⟨_,rfl⟩
  ·cases he
  ·exact dD _ _ _ _ _
 a k k' v v' _ hv _:=by
  rcases hv with⟨e,he,_⟩|⟨_,rfl⟩
  ·cases he
  ·exact(ie.nil v').symm
 k x:=by simp[iD]
 z k v c hv hc:=by
  rcases hv with⟨e,he,_⟩|⟨_,rfl⟩
  ·cases he
  ·cases hc
structure Buf (Z M:aD) (w:World) (B b mb:Nat) (vl:Value) (L:List En) (words last:Int) (f:List UInt8→List Po) (K:List UInt8→Prop) (es:List MapEntry) (clock:Nat):Prop where
 at_:w.heap[b]? =some (.cells #[vl,.map (some mb),.int .i64 words,.int .i64 last] 153 (0,0))
 m:M b
 mm:M mb
 hb:Z b
 hmb:Z mb
 l:Own RT.en 71 M w B vl L
 map:fH Tryz.prog 9 w mb es clock
 rows:DN Z M w B f K es
 zl:∀c,vl.ownBlock=some c→Z c
def oh (Z M:aD) (w:World) (B b:Nat) (L:List En) (words last:Int):Prop:=∃mb vl es clock,Buf Z M w B b mb vl L words last (pk L) (fun x=>x∈iD L) es clock
theorem oh.aL {Z M M':aD} {w w':World} {B b:Nat} {L:List En} {words last:Int} (h:oh Z M w B b L words last) (s:Step M w M' w' aC):oh Z M' w' B b L words last:=by
 obtain⟨mb,vl,es,clock,h1,h2,h3,h4,h5,h6,h7,h8,h9⟩:=h;exact⟨mb,vl,es,clock,s.aM h1,(s.mem _ (ak h1)).2 h2,(s.mem _ (ak h7.at_)).2 h3,h4,h5,h6.aL s,h7.aL s,h8.aL s,h9⟩
theorem oh.Jc {Z Z' M:aD} {w:World} {B b:Nat} {L:List En} {words last:Int} (h:oh Z M w B b L words last) (hz:∀c,Z c→c<w.heap.size→Z' c):oh Z' M w B b L words last:=by
 obtain⟨mb,vl,es,clock,h1,h2,h3,h4,h5,h6,h7,h8,h9⟩:=h;exact⟨mb,vl,es,clock,h1,h2,h3,hz _ h4 (ak h1),hz _ h5 (ak h7.at_),h6,h7,h8.Jc hz,fun c hc=>hz c (h9 c hc) (h6.base c hc).2⟩
theorem oh.step {Z M M' N:aD} {w w':World} {B b:Nat} {L:List En} {words last:Int} (h:oh Z M w B b L words last) (s:Step M w M' w' N) (hn:∀k,N k→¬Z k):oh Z M' w' B b L words last:=by
 obtain⟨mb,vl,es,clock,h1,h2,h3,h4,h5,h6,h7,h8,h9⟩:=h;exact⟨mb,vl,es,clock,s.keep h1 (fun hk=>hn _ hk h4),(s.mem _ (ak h1)).2 h2,(s.mem _ (ak h7.at_)).2 h3,h4,h5,h6.step s (fun c hc hk=>hn _ hk (h9 c hc)),h7.step s (fun hk=>hn _ hk h5),h8.step s (fun k v c hv hc hk=>hn _ hk (h8.z k v c hv hc)),h9⟩
theorem oh.stepT {Z M M' N:aD} {w w':World} {B b:Nat} {L:List En} {words last:Int} (h:oh Z M w B b L words last) (s:Step M w M' w' N) (hn:∀k,N k→∃cs t,w.heap[k]? =some (.cells cs t (0,0))∧t≠153∧t≠71∧t≠83):oh Z M' w' B b L words last:=by
 obtain⟨mb,vl,es,clock,h1,h2,h3,h4,h5,h6,h7,h8,hz⟩:=h;refine⟨mb,vl,es,clock,s.keep h1 (fun hk=>?_),(s.mem _ (ak h1)).2 h2,(s.mem _ (ak h7.at_)).2 h3,h4,h5,h6.step s (fun c hc hk=>?_),h7.step s (fun hk=>?_),h8.step s (fun k v c hv hc hk=>?_),hz⟩
 ·obtain⟨cs,t,h9,PQ,_⟩:=hn _ hk;rw[h1]at h9;simp at h9;exact PQ h9.2.symm
 ·obtain⟨cs,t,h9,_,PQ,_⟩:=hn _ hk;exact h6.eO h9 PQ hc
 ·obtain⟨cs,t,h9,_⟩:=hn _ hk;rw[h7.at_]at h9;cases h9
 ·obtain⟨cs,t,h9,_,_,PQ⟩:=hn _ hk;exact(h8.o k v hv).eO h9 PQ hc
def Mn (M Z:aD):aD:=fun k=>Z k∧M k
theorem ew.ex (zv:Value) (es:List MapEntry) (key:Value):∃v,ew zv es key v:=by
 by_cases h:∃e∈es,e.key=key
 ·obtain⟨e,he,hk⟩:=h;exact⟨e.val,.inl ⟨e,he,hk,rfl⟩⟩
 ·exact⟨zv,.inr ⟨fun e he hk=>h ⟨e,he,hk⟩,rfl⟩⟩
def mT (last:Int) (e:En):Int:=if lT e.1≠0 then lT e.1 else if e.2≤last then 12 else 0
def Mo (L:List En) (tl:List (Fd×Nat)) (i:Nat) (k:List UInt8):List Po:=pk L k++(((dj tl).take i).filter fun t=>decide (dy t=k)).map fun t=>((L.length:Int),posOf tl t)
theorem Mp (L:List En) (tl:List (Fd×Nat)) (k:List UInt8):Mo L tl 0 k=pk L k:=by simp[Mo]
theorem Mt {L:List En} {tl:List (Fd×Nat)} {i:Nat} {t:Fd} (h:(dj tl)[i]? =some t) (k:List UInt8):Mo L tl (i+1) k=if k=dy t then Mo L tl i (dy t)++[((L.length:Int),posOf tl t)]else Mo L tl i k:=by
 unfold Mo;rw[bV,h,cE,List.filter_append,cX]
 split
 ·rename_i e;subst e;simp
 ·rename_i e
  have: ¬dy t=k:=fun h=>e h.symm
  simp[this]
theorem PR {L:List En} {e:En} {i:Nat} (h:(dj (pb e)).length≤i) (k:List UInt8):Mo L (pb e) i k=pk (L++[e]) k:=by
 unfold Mo;rw[PG,aW h];rfl
theorem PS {L:List En} (hF:∀x∈L,kX x.1) (tl:List (Fd×Nat)) (i:Nat) (k:List UInt8):(Mo L tl i k).length≤L.length+(dj tl).length:=by
 unfold Mo;have h1:=(pf k L 0 hF).1;have h2:=l6 (fun t=>decide (dy t=k)) ((dj tl).take i);have h3:=List.length_take_le i (dj tl);have h4:(pk L k).length≤L.length:=h1;simp only[bc,aG,bg]at*;omega
theorem AM {d:Dc} (hF:kX d):(dj (cJ d.2)).length≤500:=by
 have h1:=(tT hF.PF).nodup.length_le_of_subset (l₂:=(cJ d.2).map (·.1)) (fun t ht=>(kW hF.PF).1 ht);have:=hF.many;simp at h1;omega
theorem kX.term {d:Dc} (hF:kX d) {t:Fd} (h:t∈dj (cJ d.2)):t.1.length≤12∧t.2.length≤30:=by
 obtain⟨p,hp,rfl⟩:=bP.1 ((kW hF.PF).1 h);exact hF.small p hp
theorem Mu {Z M:aD} {B:Nat} (w0:World) (hM:Lt M w0) (hB:B≤w0.heap.size) (hZ:∀k,w0.heap.size≤k→Z k):
  Spec Tryz.prog 39 #[] w0 (fun v w=>∃M' b,v= .pointer (some ⟨b,0,none⟩)∧Lt M' w∧oh Z M' w B b [] 0 (-1)∧Step M w0 M' w aC):=by
 refine bm (args:=[]) (fn:=Tryz.f39) Tryz.func39 rfl (n:=4) Tryz.ntmps39 ?_;have S:Step M w0 M w0 aC:=(ax _ _).cH (fun _ h=>h.elim) (fun _ h=>h.elim);refine aj (ae (ah rfl rfl (ab (aj (ae ?_)))));refine Rg.Ds M iE rfl (fun mb w1m p1 q1 gW s1=>?_);obtain⟨UF,Mh⟩:∃M',M'=ins M mb:=⟨_,rfl⟩;rw[←Mh]at s1;have BJ:UF mb:=by rw[Mh];exact .inl rfl
 replace hM:=s1.lt hM;have:=S.size;replace S:=S.aB s1;refine iS (places:=[(0,1),(1,1),(2,1),(3,1)]) dT ae0 ae1 rfl ⟨_,_,rfl,rfl,_,_,rfl,rfl,rfl⟩ (out:=[.slice none 0 0,_,.int .i64 0,_]) ⟨1,[_],rfl,rfl,by simp[Value.cells],3,[_],rfl,rfl,by simp[Value.cells],rfl⟩ ?_;refine wM UF rfl rfl (fun UI Py aoF aoG iH pV=>?_);obtain⟨YI,Mv⟩:∃M',M'=ins UF UI:=⟨_,rfl⟩;rw[←Mv]at pV;have UJ:YI UI:=by rw[Mv];exact .inl rfl
 change Py.heap[UI]? =some (.cells #[.slice none 0 0,.map (some mb),.int .i64 0,.int .i64 (-1)] _ _)at iH;replace BJ:=(pV.mem _ (ak gW.at_)).2 BJ;replace gW:=gW.aL pV;replace hM:=pV.lt hM;have:=S.size;replace S:=S.aB pV;refine ah rfl rfl (ab (aQ ?_));exact aV rfl rfl ⟨_,_,rfl,hM,⟨mb,_,[],0,iH,UJ,BJ,hZ _ (by omega),hZ _ (by omega),dD _ _ _ _ _,gW,PO _ _ _ _,fun c hc=>by cases hc⟩,S⟩
end Go.K
namespace Go.K
open Go.Proofs
namespace TKBldD
theorem J1:TI Tryz.prog 29 (.slice none 0 0) 1 24:=by unfold TI;kernel_rfl
theorem zM:TI Tryz.prog 80 (.slice none 0 0) 1 24:=by unfold TI;kernel_rfl
theorem F4:TI Tryz.prog 151 (.map none) 1 8:=by unfold TI;kernel_rfl
theorem E86:Enters Tryz.prog 86:=enters Tryz.func86 rfl (by decide)
theorem E87:Enters Tryz.prog 87:=enters Tryz.func87 rfl (by decide)
theorem E88:Enters Tryz.prog 88:=enters Tryz.func88 rfl (by decide)
theorem E89:Enters Tryz.prog 89:=enters Tryz.func89 rfl (by decide)
end TKBldD
open TKBldD
set_option maxRecDepth 10000
set_option maxHeartbeats 4000000 in
theorem Mw {Z M:aD} {B b:Nat} {L:List En} {words last:Int} {e:En} {v0:Value} (w0:World) (hM:Lt M w0) (hZ:∀k,w0.heap.size≤k→Z k) (hb:oh Z M w0 B b L words last) (hBw:B≤w0.heap.size) (hv:RT.en.V M w0 e v0) (hl:∀f∈e.1.2,f.1.length≤900000∧f.2.length≤900000) (hLF:∀x∈L,kX x.1) (hLn:L.length≤1000000) (hw:0≤words∧words≤1000000000):
  Spec Tryz.prog 40 #[.pointer (some ⟨b,0,none⟩),v0] w0 (fun v w=>∃M',Lt M' w∧Step M w0 M' w (Mn M Z)∧v= .int .i64 (mT last e)∧(mT last e≠0→oh Z M' w B b L words last)∧(mT last e=0→oh Z M' w B b (L++[e]) (words+((pb e).length:Int)) e.2)):=by
 obtain⟨mb,vl,es,clock,gb,ei,fj,hB,HG,ho,hW,hR,zl⟩:=hb;have RD:b≠mb:=fun h=>by have:=hW.at_;rw[←h,gb]at this;cases this
 refine bm (args:=[_,_]) (fn:=Tryz.f40) Tryz.func40 rfl (n:=89) Tryz.ntmps40 ?_;have S:Step M w0 M w0 (Mn M Z):=(ax _ _).cH (fun _ h=>h.elim) (fun _ h=>h.2);refine aj (ae ?_);refine nP (A:=RT.en) rfl rfl hM hv rfl (fun u0 w1 dw s0 _=>?_);have:=ak gb;replace ei:=(s0.mem _ this).2 ei;replace gb:=s0.aM gb;replace ho:=ho.aL s0;replace fj:=(s0.mem _ (ak hW.at_)).2 fj;replace hW:=hW.aL s0;replace hR:=hR.aL s0;replace hM:=s0.lt hM;have:=S.size;replace S:=S.aB s0;refine ah rfl rfl (ab (aj (aj (ae ?_))));refine aK (M:=M) (A:=RT.en) (B:=RT.dc) dS rfl rfl oY (by decide) X6 rfl rfl (by decide) dw (ao _ _) (fun zF lK=>?_);refine cN (M:=M) (A:=RT.dc) bj rfl oY (by decide) rfl rfl rfl lK (ao _ _) (fun zG mZ=>?_);refine aY rfl rfl E86 (Ln _ hM mZ hl) (fun r2 w2 hc=>?_);obtain⟨rfl,s2⟩:=hc;have:=ak gb;replace ei:=(s2.mem _ this).2 ei;replace gb:=s2.aM gb;replace dw:=dw.le (by decide) s2.le;replace ho:=ho.aL s2;replace fj:=(s2.mem _ (ak hW.at_)).2 fj;replace hW:=hW.aL s2;replace hR:=hR.aL s2;replace hM:=s2.lt hM;have:=S.size;replace S:=S.aB s2;refine ah rfl rfl (ab (aj (ae (ad rfl rfl (fD rfl rfl rfl (ab ?_))))));refine bI rfl (fun c2=>?_) (fun c2=>?_)
 ·refine aj (ae (ad rfl rfl (ah rfl rfl (ab (aQ ?_)))));have ea:mT last e=lT e.1:=if_pos c2;exact aV rfl rfl ⟨_,hM,S,by rw[ea],fun _=>⟨mb,vl,es,clock,gb,ei,fj,hB,HG,ho,hW,hR,zl⟩,fun h=>absurd (ea▸h) c2⟩
 ·have hF:kX e.1:=HI (by simpa using c2);refine aT (aj (aj ?_));apply uG mixed rfl rfl;intro wD4 sA4;have F5:=sA4 M;have:=ak gb;replace ei:=(F5.mem _ this).2 ei;replace gb:=F5.aM gb;replace dw:=dw.le (by decide) F5.le;replace ho:=ho.aL F5;replace fj:=(F5.mem _ (ak hW.at_)).2 fj;replace hW:=hW.aL F5;replace hR:=hR.aL F5;replace hM:=F5.lt hM;have:=S.size;replace S:=S.aB F5;refine aK (M:=M) (A:=RT.en) (B:=RT.int .i64) dS rfl rfl I3 (by decide) en1 rfl rfl (by decide) dw (ao _ _) (fun Pq Da=>?_);refine ab ⟨rfl,rfl,rfl,?_⟩;refine cd (M:=M) aw rfl rfl (by assumption) (by repeat (first|exact ao _ _|refine aX (bu (by assumption)) ?_)) (fun RJ=>?_);refine aU (v':= .int .i64 (e.2)) rfl ?_;replace RJ: -9223372036854775808≤(e.2:Int)∧e.2≤9223372036854775807:=RJ;refine ab ⟨rfl,rfl,rfl,?_⟩;refine ad rfl rfl ?_;refine ab ⟨rfl,rfl,rfl,?_⟩;refine bN rfl ⟨_,rfl⟩ rfl ?_;refine ab ⟨rfl,rfl,rfl,?_⟩;refine bK (o':=3) dT rfl rfl I3 (by decide) rfl rfl ?_;refine ab ⟨rfl,rfl,rfl,?_⟩;refine aP aw rfl rfl rfl (by first|assumption|exact de F5 (by assumption)) rfl ?_;refine ab ⟨rfl,rfl,rfl,?_⟩;refine gJ rfl rfl rfl ?_;refine ab ⟨rfl,rfl,rfl,?_⟩;refine eZ ?_;refine bI rfl (fun c4=>?_) (fun c4=>?_)
  ·refine aj (ae (ah rfl rfl (ab (aQ ?_))));have ea:mT last e=12:=by unfold mT;rw[if_neg (fun h=>h (by simpa using c2)),if_pos c4]
   exact aV rfl rfl ⟨_,hM,S,by rw[ea],fun _=>⟨mb,vl,es,clock,gb,ei,fj,hB,HG,ho,hW,hR,zl⟩,fun h=>absurd (ea▸h) (by decide)⟩
  ·refine aT (aj (ae ?_));refine aK (M:=M) (A:=RT.en) (B:=RT.dc) dS rfl rfl oY (by decide) X6 rfl rfl (by decide) dw (ao _ _) (fun Yg Lz=>?_);refine cN (M:=M) (A:=RT.dc) bj rfl oY (by decide) rfl rfl rfl Lz (ao _ _) (fun Uj yn=>?_);refine aY rfl rfl E87 (DK _ hM yn hF hl) (fun r6 w6 hc=>?_);obtain⟨a6,b6,rfl,ha,qE,s6⟩:=hc;have:=ak gb;replace ei:=(s6.mem _ this).2 ei;replace gb:=s6.aM gb;replace dw:=dw.le (by decide) s6.le;replace ho:=ho.aL s6;replace fj:=(s6.mem _ (ak hW.at_)).2 fj;replace hW:=hW.aL s6;replace hR:=hR.aL s6;replace hM:=s6.lt hM;have:=S.size;replace S:=S.aB s6;refine ad rfl rfl (bZ rfl rfl rfl (bZ rfl rfl rfl (ah rfl rfl (ah rfl rfl (ab (aj (aj (ae (ad rfl rfl (bQ jP rfl ha rfl (ad rfl rfl ?_)))))))))));refine ab (aZ ?_);refine dn (σ:=Nat) (fun q=>[(0,.pointer (some ⟨b,0,none⟩)),(3,u0),(7,b6),(30,a6),(31,.int .i64 ((dj (pb e)).length:Int)),(32,.int .i64 (q:Int))]) (fun q w=>∃M' es clock,Lt M' w∧Step M w0 M' w (Mn M Z)∧cQ RT.en M' w u0 e∧(RT.fd.sl).V M' w (dj (pb e)) a6∧(((RT.int .i64).sl).sl).V M' w ((dj (pb e)).map (posOf (pb e))) b6∧Buf Z M' w B b mb vl L words last (Mo L (pb e) q) (fun x=>x∈iD L∨x∈((dj (pb e)).take q).map dy) es clock∧q≤(dj (pb e)).length) (fun q=>(dj (pb e)).length-q) 0 (.cons rfl (.cons rfl (.cons rfl (.cons rfl (.cons rfl (.cons rfl .nil)))))) ?_ ?_
   ·exact⟨_,es,clock,hM,S,dw,ha,qE,⟨gb,ei,fj,hB,HG,ho,hW,hR.congr (fun k=>Mp _ _ _) (fun k=>by simp),zl⟩,bD _⟩
   ·clear hM S dw ha qE gb ei fj ho hW hR;rintro i w ⟨M1,es,clock,hM,S,dw,ha,qE,⟨gb,ei,fj,_,_,ho,hW,hR,_⟩,hi⟩;refine aj (ae (cg rfl rfl rfl (ab (aj ?_))));refine bI rfl (fun c8=>?_) (fun c8=>?_)
    ·refine aT (aj (aZ (aj (ae (ad rfl rfl ?_)))));refine cF (M:=M1) jP xX rfl rfl rfl ha (ao _ _) (by omega) (fun ae4 t Rw Mx=>?_);rw[ay]at Rw;have Hi:=az Rw;have Ku:=hF.term Hi;refine cN (M:=M1) (A:=RT.fd) ck rfl xX (by decide) rfl rfl rfl Mx (ao _ _) (fun ae5 My=>?_);obtain rfl:=nw My;refine eE M1 xX rfl (fun yC XL aoN aoO pg qv=>?_);obtain⟨wu,MA⟩:∃M',M'=ins M1 yC:=⟨_,rfl⟩;rw[←MA]at qv;have BK:wu yC:=by rw[MA];exact .inl rfl
     change XL.heap[yC]? =some (.cells #[.string ⟨#[]⟩,.string ⟨#[]⟩] _ _)at pg;have:=ak gb;replace ei:=(qv.mem _ this).2 ei;replace gb:=qv.aM gb;replace dw:=dw.le (by decide) qv.le;replace ha:=ha.le qv.le;replace qE:=qE.le qv.le;replace ho:=ho.aL qv;replace fj:=(qv.mem _ (ak hW.at_)).2 fj;replace hW:=hW.aL qv;replace hR:=hR.aL qv;replace hM:=qv.lt hM;have:=S.size;replace S:=S.aB qv;refine ah rfl rfl ?_;refine eG (M:=wu) (vs:=[.string ⟨t.1.toArray⟩,.string ⟨t.2.toArray⟩]) xX rfl rfl (BH rfl My) rfl rfl pg BK (fun w9 g9 s9=>?_);have:=ak gb;replace ei:=(s9.mem _ this).2 ei;replace gb:=s9.keep gb (fun hk=>by have hk:_=_:=hk;omega);have:=ak pg;replace BK:=(s9.mem _ this).2 BK;replace dw:=dw.le (by decide) s9.le;replace ha:=ha.le s9.le;replace qE:=qE.le s9.le;replace ho:=ho.step s9 (fun c hc (h:_=_)=>by first|exact ho.eO gb (by decide) (h▸hc)|exact ho.eO pg (by decide) (h▸hc));replace fj:=(s9.mem _ (ak hW.at_)).2 fj;replace hW:=hW.step s9 (by first|exact fun h=>ho.kV hW.at_ h|exact fun(h:mb=b)=>RD h.symm|exact fun(h:mb=yC)=>by have h9:=hW.at_;rw[h,pg]at h9;cases h9);replace hR:=hR.step s9 (by first|exact fun k v c hv hc h=>(hR.o k v hv).dz ho (by decide) hc h|exact fun k v c hv hc (h:c=b)=>(hR.o k v hv).eO gb (by decide) (h▸hc)|exact fun k v c hv hc (h:c=yC)=>(hR.o k v hv).eO pg (by decide) (h▸hc));replace hM:=s9.lt hM;have:=S.size;replace S:=S.trans s9 (fun k hk h=>by have h:_=_:=h;subst h;first|(exfalso;omega)|(show _≤_;omega)|exact⟨by first|omega|assumption,(S.mem _ hk).1 ((s9.mem _ (ak pg)).1 BK)⟩|exact .inl rfl|exact .inr rfl|exact .inr (.inl rfl)|exact .inr (.inr rfl)|exact .inr (.inr (.inl rfl))|exact rfl);have RL:=g9;clear pg;have pg:=RL;clear RL;refine ab (aj (ae (iK (vs:=[.string ⟨t.1.toArray⟩,.string ⟨t.2.toArray⟩]) ck rfl xX rfl rfl rfl pg ?_)))
     refine aY rfl rfl E80 (LW (t:=t) _ hM (by omega) (by omega)) (fun r10 w10 hc=>?_);obtain⟨rfl,Co⟩:=hc;have:=ak gb;replace ei:=(Co.mem _ this).2 ei;replace gb:=Co.aM gb;replace dw:=dw.le (by decide) Co.le;replace ha:=ha.le Co.le;replace qE:=qE.le Co.le;replace ho:=ho.aL Co;replace fj:=(Co.mem _ (ak hW.at_)).2 fj;replace hW:=hW.aL Co;replace hR:=hR.aL Co;replace hM:=Co.lt hM;have:=S.size;replace S:=S.aB Co;refine ah rfl rfl (ab ?_);obtain⟨v10,pW⟩:=ew.ex kU es (sv (dy t));apply T.pH 21 [0,1,2,3,4,5,6,7,8,9,10] 2 (fK v10) mixed rfl rfl rfl rfl;intro F6 F7;have gZ:=F7 wu;have:=ak gb;replace ei:=(gZ.mem _ this).2 ei;replace gb:=gZ.aM gb;replace dw:=dw.le (by decide) gZ.le;replace ha:=ha.le gZ.le;replace qE:=qE.le gZ.le;replace ho:=ho.aL gZ;replace fj:=(gZ.mem _ (ak hW.at_)).2 fj;replace hW:=hW.aL gZ;replace hR:=hR.aL gZ;replace hM:=gZ.lt hM;have:=S.size;replace S:=S.aB gZ;refine ad rfl rfl ?_;refine ab ⟨rfl,rfl,rfl,?_⟩;refine bN rfl ⟨_,rfl⟩ rfl ?_;refine ab ⟨rfl,rfl,rfl,?_⟩;refine bK (o':=1) dT rfl rfl F4 (by decide) rfl rfl ?_;refine ab ⟨rfl,rfl,rfl,?_⟩;refine aP iE rfl rfl rfl (by first|assumption|exact de gZ (by assumption)) rfl ?_;refine ab ⟨rfl,rfl,rfl,?_⟩;refine ad rfl rfl ?_;refine ab ⟨rfl,rfl,rfl,?_⟩;refine ad rfl rfl ?_;refine ab ⟨rfl,rfl,rfl,?_⟩;refine bN rfl ⟨_,rfl⟩ rfl ?_;refine ab ⟨rfl,rfl,rfl,?_⟩;refine bK (o':=1) dT rfl rfl F4 (by decide) rfl rfl ?_;refine ab ⟨rfl,rfl,rfl,?_⟩;refine aP iE rfl rfl rfl (by first|assumption|exact de gZ (by assumption)) rfl ?_;refine ab ⟨rfl,rfl,rfl,?_⟩;refine ad rfl rfl ?_;refine ab ⟨rfl,rfl,rfl,?_⟩;obtain⟨kl,Cl⟩:=Mm (dy t) (by unfold dy;simp;omega);refine Rg.tM iE tX zM rfl rfl rfl Cl hW (fun ae6 ae7=>?_)
     obtain rfl:v10=ae6:=hW.val_one pW ae7;have rH:=PS hLF (pb e) i (dy t);have ET:(dj (pb e)).length≤500:=AM hF;refine ab ⟨rfl,rfl,rfl,?_⟩;refine ad rfl rfl ?_;refine ab ⟨rfl,rfl,rfl,?_⟩;refine bN rfl ⟨_,rfl⟩ rfl ?_;refine ab ⟨rfl,rfl,rfl,?_⟩;refine bK (o':=0) dT rfl rfl J1 (by decide) rfl rfl ?_;refine ab ⟨rfl,rfl,rfl,?_⟩;refine aP ez rfl rfl rfl (by first|assumption|exact de gZ (by assumption)) rfl ?_;refine ab ⟨rfl,rfl,rfl,?_⟩;refine fE ez rfl ho rfl ?_;refine ab ⟨rfl,rfl,rfl,?_⟩;refine ad rfl rfl ?_;refine ab ⟨rfl,rfl,rfl,?_⟩;refine ad rfl rfl ?_;refine ab ⟨rfl,rfl,rfl,?_⟩;refine cF (M:=wu) cP kD rfl rfl rfl qE (ao _ _) (by simp;omega) (fun u18 ps YJ ae8=>?_);rw[ay,br,Rw]at YJ;obtain rfl:=aH YJ;refine ab ⟨rfl,rfl,rfl,?_⟩;refine bR (M:=wu) aq rfl rfl rfl rfl rfl ae8 (ao _ _) (fun v19 YK=>?_);refine ab ⟨rfl,rfl,rfl,?_⟩;refine iS (places:=[(0,1),(1,1)]) bS nW Xu rfl ⟨_,_,rfl,rfl,_,_,rfl,rfl,rfl⟩ (out:=[_,_]) ⟨0,[_],rfl,rfl,by simp[Value.cells],1,[_],rfl,k8 YK,by simp[Value.cells],rfl⟩ ?_;have Cr:RT.po.V wu _ ((L.length:Int),posOf (pb e) t) _:=fe (fY (by omega)) YK rfl rfl rfl rfl;refine ab ⟨rfl,rfl,rfl,?_⟩;refine eZ ?_;have rT:=hR.o _ _ pW;refine⟨iA ⟨eS,⟨bX.nilCheck rfl,⟨je dT rfl F4 (by decide),⟨eF rfl gb (fun h=>rT.eO gb (by decide) h),⟨eS,⟨eS,⟨bX.nilCheck rfl,⟨je dT rfl F4 (by decide),⟨eF rfl gb (fun h=>rT.eO gb (by decide) h),⟨eS,⟨bX.tM iE tX zM rfl rfl Cl hW (fun h=>rT.kV hW.at_ h),trivial⟩⟩⟩⟩⟩⟩⟩⟩⟩⟩⟩,?_⟩;have kp:=jG (fK v10) F6;refine ep (A:=RT.po) (hn:=by decide) (M:=wu) bA nW (by decide) rfl rfl hM (Cr) (.inl rfl) (fun ae9 afa PT mG=>?_)
     have:=ak gb;replace ei:=(mG.mem _ this).2 ei;replace gb:=mG.aM gb;replace dw:=dw.le (by decide) mG.le;replace ha:=ha.le mG.le;replace qE:=qE.le mG.le;replace ho:=ho.aL mG;replace fj:=(mG.mem _ (ak hW.at_)).2 fj;replace hW:=hW.aL mG;replace hR:=hR.aL mG;replace hM:=mG.lt hM;have:=S.size;replace S:=S.aB mG;refine(fun(kp:eN _ _ _)=>ab ⟨rfl,rfl,fun _=>kp,?_⟩) (by first|exact kp|exact kp.rF (by assumption)|exact kp.goN (by assumption)|exact kp.go (by assumption) (fun _ _ h=>by first|exact h|exact h.elim));refine lN (M:=wu) (base:=B) bA nW rfl rfl rfl rfl (hR.o _ _ pW) PT (ao _ _) (by simp;omega) (by simp;omega) (by have:=S.size;omega) (fun v22 w22 afb MB afc=>?_);have rT:=hR.o _ _ pW;have akl:=hW.at_;have YL:v10.ownBlock≠some mb:=rT.kV hW.at_;have RM:=ho.step MB (fun c hc h=>ho.dz rT (by decide) hc h);have F8:=(MB.mem _ (ak hW.at_)).2 fj;have PU:=hW.step MB YL;have YM:=MB.keep gb (fun h=>rT.eO gb (by decide) h);have UK:=(MB.mem _ (ak gb)).2 ei;have S22:=S.trans MB (fun k hk h=>⟨hR.z _ _ k pW h,(S.mem k hk).1 (rT.mut_ k h)⟩);have afd:=MB.lt hM;replace dw:=dw.le (by decide) MB.le;replace ha:=ha.le MB.le;replace qE:=qE.le MB.le;refine(fun(kp:eN _ _ _)=>ab ⟨rfl,rfl,fun _=>kp,?_⟩) (by first|exact kp|exact kp.rF (by assumption)|exact kp.goN (by assumption)|exact kp.go (by assumption) (fun _ _ h=>by first|exact h|exact h.elim));refine Rg.PH iE tX rfl rfl rfl Cl PU F8 (fun w23 afe aff afg afh UL F9=>?_);have afi:=hR.put (fun c hc=>hZ c (by have:=S.size;omega)) pW afb MB afc PU.at_ F9 UL afh;replace dw:=dw.le (by decide) F9.le;replace ha:=ha.le F9.le;replace qE:=qE.le F9.le;have afj:=RM.step F9 (fun c hc (h:c=mb)=>RM.kV PU.at_ (h▸hc));have afk:=F9.keep YM RD;have UM:=(F9.mem _ (ak YM)).2 UK
     have UN:=(F9.mem _ (ak PU.at_)).2 F8;have afl:=F9.lt afd;have S23:=S22.trans F9 (fun k hk (h:k=mb)=>⟨by rw[h];exact HG,(S22.mem k hk).1 (by rw[h];exact F8)⟩);refine ab ⟨rfl,rfl,fun h=>absurd rfl h,?_⟩;refine mM (ae (bC rfl rfl rfl (by omega) (ad rfl rfl (ab ?_))));refine⟨rfl,i+1,(.cons rfl (.cons rfl (.cons rfl (.cons rfl (.cons rfl (.cons rfl .nil)))))),?_,?_⟩
     ·exact⟨_,afe,aff,afl,S23,dw,ha,qE,⟨afk,UM,UN,hB,HG,afj,afg,afi.congr (fun k=>Mt Rw k) (fun k=>by rw[bV,Rw,cE,cX,ch,or_assoc];simp),zl⟩,by omega⟩
     ·omega
    ·refine cK (aj ?_);apply T.pH 6 [0,1,2,3,4] 3 (fK vl) mixed rfl rfl rfl rfl;intro T8 T9;have o5:=T9 M1;have:=ak gb;replace ei:=(o5.mem _ this).2 ei;replace gb:=o5.aM gb;replace dw:=dw.le (by decide) o5.le;replace ha:=ha.le o5.le;replace qE:=qE.le o5.le;replace ho:=ho.aL o5;replace fj:=(o5.mem _ (ak hW.at_)).2 fj;replace hW:=hW.aL o5;replace hR:=hR.aL o5;replace hM:=o5.lt hM;have:=S.size;replace S:=S.aB o5;refine ad rfl rfl ?_;refine ab ⟨rfl,rfl,rfl,?_⟩;refine ad rfl rfl ?_;refine ab ⟨rfl,rfl,rfl,?_⟩;refine bN rfl ⟨_,rfl⟩ rfl ?_;refine ab ⟨rfl,rfl,rfl,?_⟩;refine bK (o':=0) dT rfl rfl J1 (by decide) rfl rfl ?_;refine ab ⟨rfl,rfl,rfl,?_⟩;refine aP ez rfl rfl rfl gb rfl (aU (v':=vl) rfl ?_);refine ab ⟨rfl,rfl,rfl,?_⟩;refine cN (M:=M1) (A:=RT.en) dS rfl Cm (by decide) rfl rfl rfl dw (ao _ _) (fun Rt Bx=>?_);refine ab ⟨rfl,rfl,rfl,?_⟩;refine eZ ?_;refine⟨iA ⟨eS,⟨eS,⟨bX.nilCheck rfl,⟨je dT rfl J1 (by decide),⟨eF rfl gb (fun h=>ho.eO gb (by decide) h),trivial⟩⟩⟩⟩⟩,?_⟩;have kp:=jG (fK vl) T8;refine aY rfl rfl E88 (Mc _ hM Bx (by have:=hF.few;omega)) (fun akn w13 hc=>?_);obtain⟨Ga,Cs⟩:=hc;have:=ak gb;replace ei:=(Cs.mem _ this).2 ei;replace gb:=Cs.aM gb;replace dw:=dw.le (by decide) Cs.le;replace ha:=ha.le Cs.le;replace qE:=qE.le Cs.le;replace ho:=ho.aL Cs;replace fj:=(Cs.mem _ (ak hW.at_)).2 fj;replace hW:=hW.aL Cs;replace hR:=hR.aL Cs;replace hM:=Cs.lt hM;have:=S.size;replace S:=S.aB Cs;refine(fun(kp:eN _ _ _)=>ab ⟨rfl,rfl,fun _=>kp,?_⟩) (by first|exact kp|exact kp.rF (by assumption)|exact kp.goN (by assumption)|exact kp.go (by assumption) (fun _ _ h=>by first|exact h|exact h.elim));refine ep (A:=RT.en) (hn:=by decide) (M:=M1) ez Cm (by decide) rfl rfl hM (Ga) (.inl rfl) (fun akp akq UO pP=>?_)
     have:=ak gb;replace ei:=(pP.mem _ this).2 ei;replace gb:=pP.aM gb;replace dw:=dw.le (by decide) pP.le;replace ha:=ha.le pP.le;replace qE:=qE.le pP.le;replace Ga:=Ga.le pP.le;replace ho:=ho.aL pP;replace fj:=(pP.mem _ (ak hW.at_)).2 fj;replace hW:=hW.aL pP;replace hR:=hR.aL pP;replace hM:=pP.lt hM;have:=S.size;replace S:=S.aB pP;refine(fun(kp:eN _ _ _)=>ab ⟨rfl,rfl,fun _=>kp,?_⟩) (by first|exact kp|exact kp.rF (by assumption)|exact kp.goN (by assumption)|exact kp.go (by assumption) (fun _ _ h=>by first|exact h|exact h.elim));refine lN (M:=M1) (base:=B) ez Cm rfl rfl rfl rfl ho UO (ao _ _) (by simp;omega) (by simp;omega) (by have:=S.size;omega) (fun DO akr UP wx afm=>?_);replace ei:=(wx.mem _ (ak gb)).2 ei
     have zl':∀c,DO.ownBlock=some c→Z c:=fun c hc=>by
      rcases afm c hc with h|h
      ·exact hZ c (by have:=S.size;omega)
      ·exact zl c h
     replace hR:=hR.step wx (fun k v c hv hc h=>(hR.o k v hv).dz ho (by decide) hc h);replace fj:=(wx.mem _ (ak hW.at_)).2 fj;replace hW:=hW.step wx (fun h=>ho.kV hW.at_ h);replace gb:=wx.keep gb (fun h=>ho.eO gb (by decide) h);replace dw:=dw.le (by decide) wx.le;replace S:=S.trans wx (fun k hk h=>⟨zl k h,(S.mem k hk).1 (ho.mut_ k h)⟩);replace hM:=wx.lt hM;replace ho:=UP;obtain⟨HN,MC⟩:∃M',M'=jv M1 DO:=⟨_,rfl⟩;rw[←MC]at hR fj dw S hM ho ei;refine(fun(kp:eN _ _ _)=>ab ⟨rfl,rfl,fun _=>kp,?_⟩) (by first|exact kp|exact kp.rF (by assumption)|exact kp.goN (by assumption)|exact kp.go (by assumption) (fun _ _ h=>by first|exact h|exact h.elim));refine bN rfl ⟨_,rfl⟩ rfl ?_;refine ab ⟨rfl,rfl,fun h=>absurd rfl h,?_⟩;refine bK (o':=0) dT rfl rfl J1 (by decide) rfl rfl ?_;refine ab ⟨rfl,rfl,fun h=>absurd rfl h,?_⟩;refine cw (M:=HN) J1 rfl rfl gb rfl (by obtain⟨_,_,he,_⟩:=ho.isSlice;rw[he];rfl) ei (fun UQ MD ph=>?_);change UQ.heap[_]? =some (Obj.cells #[DO,.map (some mb),.int .i64 words,.int .i64 last] _ _)at MD;have:=ak gb;replace ei:=(ph.mem _ this).2 ei;replace dw:=dw.le (by decide) ph.le;replace ho:=ho.step ph (fun c hc (h:_=_)=>by first|exact ho.eO gb (by decide) (h▸hc)|exact ho.eO pg (by decide) (h▸hc));replace fj:=(ph.mem _ (ak hW.at_)).2 fj;replace hW:=hW.step ph (by first|exact fun h=>ho.kV hW.at_ h|exact fun(h:mb=b)=>RD h.symm|exact fun(h:mb=yC)=>by have h9:=hW.at_;rw[h,pg]at h9;cases h9);replace hR:=hR.step ph (by first|exact fun k v c hv hc h=>(hR.o k v hv).dz ho (by decide) hc h|exact fun k v c hv hc (h:c=b)=>(hR.o k v hv).eO gb (by decide) (h▸hc)|exact fun k v c hv hc (h:c=yC)=>(hR.o k v hv).eO pg (by decide) (h▸hc));replace hM:=ph.lt hM;have:=S.size;replace S:=S.trans ph (fun k hk h=>by have h:_=_:=h;subst h;first|(exfalso;omega)|(show _≤_;omega)|exact⟨by first|omega|assumption,(S.mem _ hk).1 ((ph.mem _ (ak gb)).1 ei)⟩|exact .inl rfl|exact .inr rfl|exact .inr (.inl rfl)|exact .inr (.inr rfl)|exact .inr (.inr (.inl rfl))|exact rfl)
     have LU:=MD;clear gb;have gb:=LU;clear LU;refine ab ⟨rfl,rfl,fun h=>absurd rfl h,?_⟩;refine mM (aj ?_);apply T.pH 6 [0,1,2,3] 1 aC mixed rfl rfl rfl rfl;intro UR ME;have rr:=ME HN;have:=ak gb;replace ei:=(rr.mem _ this).2 ei;replace gb:=rr.aM gb;replace dw:=dw.le (by decide) rr.le;replace ho:=ho.aL rr;replace fj:=(rr.mem _ (ak hW.at_)).2 fj;replace hW:=hW.aL rr;replace hR:=hR.aL rr;replace hM:=rr.lt hM;have:=S.size;replace S:=S.aB rr;refine ad rfl rfl ?_;refine ab ⟨rfl,rfl,rfl,?_⟩;refine bN rfl ⟨_,rfl⟩ rfl ?_;refine ab ⟨rfl,rfl,rfl,?_⟩;refine bK (o':=2) dT rfl rfl I3 (by decide) rfl rfl ?_;refine ab ⟨rfl,rfl,rfl,?_⟩;refine aP aw rfl rfl rfl (by first|assumption|exact de rr (by assumption)) rfl ?_;refine ab ⟨rfl,rfl,rfl,?_⟩;refine aK (M:=HN) (A:=RT.en) (B:=RT.dc) dS rfl rfl oY (by decide) X6 rfl rfl (by decide) dw (ao _ _) (fun aks US=>?_);refine ab ⟨rfl,rfl,rfl,?_⟩;refine cN (M:=HN) (A:=RT.dc) bj rfl oY (by decide) rfl rfl rfl US (ao _ _) (fun akt UT=>?_);refine ab ⟨rfl,rfl,rfl,?_⟩;refine eZ ?_;refine⟨iA ⟨eS,⟨bX.nilCheck rfl,⟨je dT rfl I3 (by decide),⟨eF rfl gb (fun h=>h),trivial⟩⟩⟩⟩,?_⟩;have kp:=jG aC UR;refine aY rfl rfl E89 (Dv _ hM UT hl hF.few) (fun r14 Um hc=>?_);obtain⟨rfl,jY⟩:=hc;have:=ak gb;replace ei:=(jY.mem _ this).2 ei;replace gb:=jY.aM gb;replace dw:=dw.le (by decide) jY.le;replace ho:=ho.aL jY;replace fj:=(jY.mem _ (ak hW.at_)).2 fj;replace hW:=hW.aL jY;replace hR:=hR.aL jY;replace hM:=jY.lt hM;have:=S.size;replace S:=S.aB jY;refine(fun(kp:eN _ _ _)=>ab ⟨rfl,rfl,fun _=>kp,?_⟩) (by first|exact kp|exact kp.rF (by assumption)|exact kp.goN (by assumption)|exact kp.go (by assumption) (fun _ _ h=>by first|exact h|exact h.elim))
     have:=hF.many;refine bC rfl rfl rfl (by omega) ?_;refine ab ⟨rfl,rfl,fun h=>absurd rfl h,?_⟩;refine bN rfl ⟨_,rfl⟩ rfl ?_;refine ab ⟨rfl,rfl,fun h=>absurd rfl h,?_⟩;refine bK (o':=2) dT rfl rfl I3 (by decide) rfl rfl ?_;refine ab ⟨rfl,rfl,fun h=>absurd rfl h,?_⟩;refine cw (M:=HN) I3 rfl rfl gb rfl (rfl) ei (fun UU MF pj=>?_);change UU.heap[_]? =some (Obj.cells #[DO,.map (some mb),.int .i64 (words+((pb e).length:Int)),.int .i64 last] _ _)at MF;have:=ak gb;replace ei:=(pj.mem _ this).2 ei;replace dw:=dw.le (by decide) pj.le;replace ho:=ho.step pj (fun c hc (h:_=_)=>by first|exact ho.eO gb (by decide) (h▸hc)|exact ho.eO pg (by decide) (h▸hc));replace fj:=(pj.mem _ (ak hW.at_)).2 fj;replace hW:=hW.step pj (by first|exact fun h=>ho.kV hW.at_ h|exact fun(h:mb=b)=>RD h.symm|exact fun(h:mb=yC)=>by have h9:=hW.at_;rw[h,pg]at h9;cases h9);replace hR:=hR.step pj (by first|exact fun k v c hv hc h=>(hR.o k v hv).dz ho (by decide) hc h|exact fun k v c hv hc (h:c=b)=>(hR.o k v hv).eO gb (by decide) (h▸hc)|exact fun k v c hv hc (h:c=yC)=>(hR.o k v hv).eO pg (by decide) (h▸hc));replace hM:=pj.lt hM;have:=S.size;replace S:=S.trans pj (fun k hk h=>by have h:_=_:=h;subst h;first|(exfalso;omega)|(show _≤_;omega)|exact⟨by first|omega|assumption,(S.mem _ hk).1 ((pj.mem _ (ak gb)).1 ei)⟩|exact .inl rfl|exact .inr rfl|exact .inr (.inl rfl)|exact .inr (.inr rfl)|exact .inr (.inr (.inl rfl))|exact rfl);have LU:=MF;clear gb;have gb:=LU;clear LU;refine ab ⟨rfl,rfl,fun h=>absurd rfl h,?_⟩;refine mM (aj (ae (ad rfl rfl ?_)));refine aK (M:=HN) (A:=RT.en) (B:=RT.int .i64) dS rfl rfl I3 (by decide) en1 rfl rfl (by decide) dw (ao _ _) (fun aku afn=>?_);refine cd (M:=HN) aw rfl rfl (by assumption) (by repeat (first|exact ao _ _|refine aX (bu (by assumption)) ?_)) (fun MG=>?_)
     refine aU (v':= .int .i64 (e.2)) rfl ?_;replace MG: -9223372036854775808≤(e.2:Int)∧e.2≤9223372036854775807:=MG;refine bN rfl ⟨_,rfl⟩ rfl (bK (o':=3) dT rfl rfl I3 (by decide) rfl rfl ?_);refine cw (M:=HN) I3 rfl rfl gb rfl (rfl) ei (fun RN RO j7=>?_);change RN.heap[_]? =some (Obj.cells #[DO,.map (some mb),.int .i64 (words+((pb e).length:Int)),.int .i64 e.2] _ _)at RO;have:=ak gb;replace ei:=(j7.mem _ this).2 ei;replace dw:=dw.le (by decide) j7.le;replace ho:=ho.step j7 (fun c hc (h:_=_)=>by first|exact ho.eO gb (by decide) (h▸hc)|exact ho.eO pg (by decide) (h▸hc));replace fj:=(j7.mem _ (ak hW.at_)).2 fj;replace hW:=hW.step j7 (by first|exact fun h=>ho.kV hW.at_ h|exact fun(h:mb=b)=>RD h.symm|exact fun(h:mb=yC)=>by have h9:=hW.at_;rw[h,pg]at h9;cases h9);replace hR:=hR.step j7 (by first|exact fun k v c hv hc h=>(hR.o k v hv).dz ho (by decide) hc h|exact fun k v c hv hc (h:c=b)=>(hR.o k v hv).eO gb (by decide) (h▸hc)|exact fun k v c hv hc (h:c=yC)=>(hR.o k v hv).eO pg (by decide) (h▸hc));replace hM:=j7.lt hM;have:=S.size;replace S:=S.trans j7 (fun k hk h=>by have h:_=_:=h;subst h;first|(exfalso;omega)|(show _≤_;omega)|exact⟨by first|omega|assumption,(S.mem _ hk).1 ((j7.mem _ (ak gb)).1 ei)⟩|exact .inl rfl|exact .inr rfl|exact .inr (.inl rfl)|exact .inr (.inr rfl)|exact .inr (.inr (.inl rfl))|exact rfl);have LU:=RO;clear gb;have gb:=LU;clear LU;refine ab (aj (ae (ah rfl rfl (ab (aQ ?_)))));have ea:mT last e=0:=by unfold mT;rw[if_neg (fun h=>h (by simpa using c2)),if_neg c4]
     exact aV rfl rfl ⟨_,hM,S,by rw[ea],fun h=>absurd ea h,fun _=>⟨mb,_,es,clock,gb,ei,fj,hB,HG,ho,hW,hR.congr (fun k=>(PR (by omega) k).symm) (fun k=>by rw[FZ,ch,aW (by omega)]),zl'⟩⟩
end Go.K

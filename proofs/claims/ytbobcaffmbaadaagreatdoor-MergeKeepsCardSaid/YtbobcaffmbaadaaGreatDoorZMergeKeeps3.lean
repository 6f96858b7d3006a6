/- What the law 'MergeKeeps' needs of walks and plain Lean, part 3: nothing is assumed beyond the texts that it imports. -/
import Derived.Deep.Draws
import Derived.DeepKeys4
import Derived.Ground.GgzProg
import Derived.Ground.SlgmProg
import Derived.Ground.SlsfProg
import Derived.KernelRfl
import Derived.Lib.Bytealg
import Derived.Shelf.SlGeneric
import Derived.Shelf.SlIter.Nil
import Derived.Shelf.SlIterI.Nil
import Derived.Shelf.SlSortCmp.NoneTotal
import Derived.Shelf.SortM.Plain
import Derived.Shelf.SortM.SortNone
import Derived.Sort.Grow
import Derived.Sort.KeysCollected
import Derived.Sort.Walk0
import Derived.Test.YtbobcaffmbaadaaGreatDoorProg
import Derived.Test.YtbobcaffmbaadaaGreatDoorZMergeKeeps1
import Derived.Test.YtbobcaffmbaadaaGreatDoorZMergeKeeps2
set_option linter.unusedVariables false
set_option linter.unusedSimpArgs false
theorem mK:type_of% @Go.K.Rg.invoke:=@Go.K.Rg.invoke
theorem vK:type_of% @Go.K.Rg.ql:=@Go.K.Rg.ql
theorem vM:type_of% @Go.K.Rg.so:=@Go.K.Rg.so
theorem xh:type_of% @Go.K.Rg.ma:=@Go.K.Rg.ma
namespace Go.K
open Go.Proofs
set_option maxRecDepth 10000
theorem As {M:aC} {d:Dc} {v0:Value} (w0:World) (hM:Lt M w0) (hv:RT.dc.V M w0 d v0) (hl:∀f∈d.2,f.1.length≤900000∧f.2.length≤900000):
  Spec Tryz.prog 94 #[v0] w0 (fun v w=>v= .int .i64 (lK d)∧Step M w0 M w aD):=by
 have kr:=hM;refine bg (args:=[_]) (fn:=Tryz.f94) Tryz.func94 rfl (n:=66) Tryz.ntmps94 ?_;have S:Step M w0 M w0 aD:=(aw _ _).cF (fun _ h=>h.elim) (fun _ h=>h.elim);refine aj (ae ?_);refine vK (A:=RT.dc) rfl rfl hM hv rfl (fun u0 w1 dq s0 _=>?_);replace hM:=s0.lt hM;have:=S.size;replace S:=S.aB s0;refine ah rfl rfl (ab (aj (aj (ae ?_))));refine aL (M:=M) (A:=RT.dc) (B:=(RT.fd).sl) a8 rfl rfl uP (by decide) (IT) rfl rfl (by decide) (by assumption) (by repeat (first|exact aq _ _|refine aY (bu (by assumption)) ?_)) (fun Bv mV=>?_);refine bT (M:=M) bz rfl rfl rfl rfl rfl (by assumption) (by repeat (first|exact aq _ _|refine aY (bu (by assumption)) ?_)) (fun zK mW=>?_);refine bR bz rfl mW rfl (jv rfl rfl rfl (ab ?_));refine bN rfl (fun c1=>?_) (fun c1=>?_)
 ·refine aj (ae (ah rfl rfl (ab (aQ ?_))));exact aV rfl rfl ⟨by rw[lK,if_pos (by omega)],S.back⟩
 ·refine aT (aj (ae (ah rfl rfl (ab (aj (aj (ae (ah rfl rfl (ab (aZ ?_))))))))));refine dn (σ:=Nat×Nat) (fun q=>[(1,u0),(3,.int .i64 (q.2:Int)),(4,.int .i64 (q.1:Int))]) (fun q w=>Lt M w∧Step M w0 M w aD∧cP RT.dc M w u0 d∧lK d=zJ (d.2.take q.1) (d.2.drop q.1) q.2∧q.1≤d.2.length∧q.2≤900001*q.1∧d.2.length≤8) (fun q=>d.2.length-q.1) (0,0) (.cons rfl (.cons rfl (.cons rfl .nil))) ?_ ?_
  ·exact⟨hM,S,dq,by rw[lK,if_neg (by omega)];rfl,bG _,aO _,by omega⟩
  ·rintro⟨i,n⟩ w ⟨hM,S,dq,FK,hi,hn,hd8⟩;dsimp only at FK hi hn ⊢;refine aj (aj (ae (ad rfl rfl ?_)));refine aL (M:=M) (A:=RT.dc) (B:=(RT.fd).sl) a8 rfl rfl uP (by decide) (IT) rfl rfl (by decide) (by assumption) (by repeat (first|exact aq _ _|refine aY (bu (by assumption)) ?_)) (fun aef Rp=>?_);refine bT (M:=M) bz rfl rfl rfl rfl rfl (by assumption) (by repeat (first|exact aq _ _|refine aY (bu (by assumption)) ?_)) (fun aeg Rq=>?_);refine bR bz rfl Rq rfl (cn rfl rfl rfl (ab ?_));refine bN rfl (fun c5=>?_) (fun c5=>?_)
   ·refine aT (aj (aZ (aj (ae ?_))));refine aL (M:=M) (A:=RT.dc) (B:=(RT.fd).sl) a8 rfl rfl uP (by decide) (IT) rfl rfl (by decide) (by assumption) (by repeat (first|exact aq _ _|refine aY (bu (by assumption)) ?_)) (fun Yl Hx=>?_);refine bT (M:=M) bz rfl rfl rfl rfl rfl (by assumption) (by repeat (first|exact aq _ _|refine aY (bu (by assumption)) ?_)) (fun aeh Rr=>?_);refine ad rfl rfl ?_;refine cE (M:=M) bz kz rfl rfl rfl Rr (aq _ _) (by omega) (fun aop x Dd ajS=>?_);rw[ay]at Dd;refine aL (M:=M) (A:=RT.fd) (B:=RT.str) cw rfl rfl I9 (by decide) (WL) rfl rfl (by decide) (by assumption) (by repeat (first|exact aq _ _|refine aY (bu (by assumption)) ?_)) (fun aoq Ym=>?_);refine bT (M:=M) aJ rfl rfl rfl rfl rfl Ym (aq _ _) (fun aor Yn=>?_);obtain rfl:=iC Yn;have ky:=Hv (n:=n) Dd;have qH:=hl _ (az Dd);refine aW rfl rfl E93 (yi x.1 (by omega) _) (fun r7 w7 hc=>?_);obtain⟨rfl,rfl⟩:=hc;refine ah rfl rfl (ab (aj (aj (ae (ad rfl rfl (mJ rfl rfl (aU (v':= .bool (decide (gj x.1=false))) (by cases gj x.1<;>rfl) (ab ?_))))))));refine bN rfl (fun c8=>?_) (fun c8=>?_)
    ·refine aj (ae (ah rfl rfl (ab (aQ ?_))));exact aV rfl rfl ⟨by rw[FK,ky,if_pos (by assumption)],S.back⟩
    ·refine aT (aj (aj (ae (ah rfl rfl (ab (aZ ?_))))));refine dn (σ:=Nat) (fun j=>[(1,u0),(3,.int .i64 (n:Int)),(4,.int .i64 (i:Int)),(6,.int .i64 (j:Int))]) (fun j w=>Lt M w∧Step M w0 M w aD∧cP RT.dc M w u0 d∧j≤i∧∀k y,k<j→d.2[k]? =some y→y.1≠x.1) (fun j=>i-j) 0 (.cons rfl (.cons rfl (.cons rfl (.cons rfl .nil)))) ?_ ?_
     ·exact⟨hM,S,dq,bG _,fun k c h=>absurd h (Nat.not_lt_zero k)⟩
     ·rintro j w ⟨hM,S,dq,hj,j4⟩;refine aj (aj (ae (ad rfl rfl (ad rfl rfl (cn rfl rfl rfl (ab ?_))))));refine bN rfl (fun FB=>?_) (fun FB=>?_)
      ·refine aT (aj (aZ (aj ?_)));apply uz mixed rfl rfl;intro T6 T7;have oS:=T7 M;replace dq:=dq.le (by decide) oS.le;replace hM:=oS.lt hM;have:=S.size;replace S:=S.aB oS;refine aL (M:=M) (A:=RT.dc) (B:=(RT.fd).sl) a8 rfl rfl uP (by decide) (IT) rfl rfl (by decide) (by assumption) (by repeat (first|exact aq _ _|refine aY (bu (by assumption)) ?_)) (fun ajT aei=>?_);refine ab ⟨rfl,rfl,rfl,?_⟩;refine bT (M:=M) bz rfl rfl rfl rfl rfl (by assumption) (by repeat (first|exact aq _ _|refine aY (bu (by assumption)) ?_)) (fun ajU T8=>?_);refine ab ⟨rfl,rfl,rfl,?_⟩;refine ad rfl rfl ?_;refine ab ⟨rfl,rfl,rfl,?_⟩;refine cE (M:=M) bz kz rfl rfl rfl T8 (aq _ _) (by omega) (fun Rs y FL fX=>?_);rw[ay]at FL;refine ab ⟨rfl,rfl,rfl,?_⟩;refine aL (M:=M) (A:=RT.fd) (B:=RT.str) cw rfl rfl I9 (by decide) (WL) rfl rfl (by decide) (by assumption) (by repeat (first|exact aq _ _|refine aY (bu (by assumption)) ?_)) (fun fU yj=>?_);refine ab ⟨rfl,rfl,rfl,?_⟩;refine bT (M:=M) aJ rfl rfl rfl rfl rfl yj (aq _ _) (fun Rt Bw=>?_);obtain rfl:=iC Bw;refine ab ⟨rfl,rfl,rfl,?_⟩;refine aL (M:=M) (A:=RT.dc) (B:=(RT.fd).sl) a8 rfl rfl uP (by decide) (IT) rfl rfl (by decide) (by assumption) (by repeat (first|exact aq _ _|refine aY (bu (by assumption)) ?_)) (fun ajV aej=>?_);refine ab ⟨rfl,rfl,rfl,?_⟩;refine bT (M:=M) bz rfl rfl rfl rfl rfl (by assumption) (by repeat (first|exact aq _ _|refine aY (bu (by assumption)) ?_)) (fun ajW T9=>?_);refine ab ⟨rfl,rfl,rfl,?_⟩;refine ad rfl rfl ?_;refine ab ⟨rfl,rfl,rfl,?_⟩;refine cE (M:=M) bz kz rfl rfl rfl T9 (aq _ _) (by omega) (fun ajX z Lo aek=>?_)
       rw[ay]at Lo;refine ab ⟨rfl,rfl,rfl,?_⟩;refine aL (M:=M) (A:=RT.fd) (B:=RT.str) cw rfl rfl I9 (by decide) (WL) rfl rfl (by decide) (by assumption) (by repeat (first|exact aq _ _|refine aY (bu (by assumption)) ?_)) (fun ael Pu=>?_);refine ab ⟨rfl,rfl,rfl,?_⟩;refine bT (M:=M) aJ rfl rfl rfl rfl rfl Pu (aq _ _) (fun aem Pv=>?_);obtain rfl:=iC Pv;refine ab ⟨rfl,rfl,rfl,?_⟩;refine Rg.He (p:=y.1) (q:=z.1) rfl rfl rfl ?_;obtain rfl:x=z:=aI (Dd.symm.trans Lo);refine ab ⟨rfl,rfl,rfl,?_⟩;refine eQ ?_;refine bN rfl (fun Pw=>?_) (fun Pw=>?_)
       ·refine aj (ae (ah rfl rfl (ab (aQ ?_))));have Lq:((d.2.take i).any fun g=>decide (g.1=x.1))=true:=uy.2 ⟨y,az (i:=j) (by rw[cp,if_pos (by omega)];exact FL),by simpa using(by assumption)⟩;exact aV rfl rfl ⟨by rw[FK,ky,if_neg (by assumption),if_pos Lq],S.back⟩
       ·refine aT (ae (ad rfl rfl (bD rfl rfl rfl (by omega) (ah rfl rfl (ab ?_)))));refine⟨rfl,j+1,(.cons rfl (.cons rfl (.cons rfl (.cons rfl .nil)))),?_,?_⟩
        ·exact⟨hM,S,dq,by omega,fun k y' h hc=>by
          rcases cy k j with h2|h2
          ·exact j4 k y' h2 hc
          ·obtain rfl:k=j:=by omega
           rw[FL]at hc;cases hc;assumption⟩
        ·omega
      ·refine cI (aj (ae ?_));refine aL (M:=M) (A:=RT.dc) (B:=(RT.fd).sl) a8 rfl rfl uP (by decide) (IT) rfl rfl (by decide) (by assumption) (by repeat (first|exact aq _ _|refine aY (bu (by assumption)) ?_)) (fun ajY aen=>?_);refine bT (M:=M) bz rfl rfl rfl rfl rfl (by assumption) (by repeat (first|exact aq _ _|refine aY (bu (by assumption)) ?_)) (fun ajZ Ua=>?_);refine ad rfl rfl ?_;refine cE (M:=M) bz kz rfl rfl rfl Ua (aq _ _) (by omega) (fun aj0 z Lr aeo=>?_);rw[ay]at Lr;refine aL (M:=M) (A:=RT.fd) (B:=RT.str) cw rfl rfl I9 (by decide) (fd1) rfl rfl (by decide) (by assumption) (by repeat (first|exact aq _ _|refine aY (bu (by assumption)) ?_)) (fun aj1 Ub=>?_);refine bT (M:=M) aJ rfl rfl rfl rfl rfl Ub (aq _ _) (fun aj2 Uc=>?_);obtain rfl:=iC Uc;obtain rfl:x=z:=aI (Dd.symm.trans Lr);refine aW rfl rfl ac5 (FH _ hM qH.2) (fun r15 w15 hc=>?_);obtain⟨⟨u15,rfl,aep⟩,wX⟩:=hc;replace dq:=dq.le (by decide) wX.le;replace hM:=wX.lt hM;have:=S.size;replace S:=S.aB wX;refine ad rfl rfl (bV rfl rfl rfl (bV rfl rfl rfl (ah rfl rfl (ah rfl rfl (ab (aj (aj (ae (ad rfl rfl (fe rfl rfl rfl (ab ?_)))))))))));refine bN rfl (fun WO=>?_) (fun WO=>?_)
       ·refine aj (ae (ad rfl rfl (ah rfl rfl (ab (aQ ?_)))))
        have Lq:((d.2.take i).any fun g=>decide (g.1=x.1))=false:=de.2 fun h=>by
         obtain⟨y,hy,he⟩:=uy.1 h;obtain⟨k,hk⟩:=bE.1 hy;rw[cp]at hk
         split at hk
         ·exact j4 k y (by omega) hk (by simpa using he)
         ·cases hk
        exact aV rfl rfl ⟨by rw[FK,ky,if_neg (by assumption),if_neg (by rw[Lq];simp),if_pos WO];rfl,S.back⟩
       ·refine aT (ae (ad rfl rfl ?_));have Ro:mn 0 (words x.2)=0:=Classical.not_not.1 WO;obtain⟨a,cap,rfl⟩:=aep Ro;have hwl:=qJ x.2;refine ad rfl rfl (Rg.oM Tryz.underlying212 rfl rfl (bD rfl rfl rfl (by omega) (ah rfl rfl (ab (ae (ad rfl rfl (bD rfl rfl rfl (by omega) (ah rfl rfl (ab ?_)))))))))
        have Lq:((d.2.take i).any fun g=>decide (g.1=x.1))=false:=de.2 fun h=>by
         obtain⟨y,hy,he⟩:=uy.1 h;obtain⟨k,hk⟩:=bE.1 hy;rw[cp]at hk
         split at hk
         ·exact j4 k y (by omega) hk (by simpa using he)
         ·cases hk
        refine⟨rfl,(i+1,n+(words x.2).length),(.cons rfl (.cons rfl (.cons rfl .nil))),?_,?_⟩
        ·exact⟨hM,S,dq,by rw[FK,ky,if_neg (by assumption),if_neg (by rw[Lq];simp),if_neg WO],by dsimp only;omega,by dsimp only;omega,hd8⟩
        ·dsimp only;omega
   ·refine cI (aj (aj (ae (ad rfl rfl (jv rfl rfl rfl (ab ?_))))));refine bN rfl (fun c19=>?_) (fun c19=>?_)
    ·refine aj (ae (ah rfl rfl (ab (aQ ?_))));exact aV rfl rfl ⟨by rw[FK,tD (by omega),if_pos (by omega)],S.back⟩
    ·refine aT (aj (ae (ah rfl rfl (ab (aQ ?_)))));exact aV rfl rfl ⟨by rw[FK,tD (by omega),if_neg (by omega)],S.back⟩
def De:List (List UInt8):=[[116],[117],[118],[119]]
def fixF (i:Nat) (x:Fd):Fd:=(if gj x.1=true then x.1 else De.getD i [],x.2.take 40)
def nU (id:Int):Nat→List Fd→List Fd→List Fd
 |_,out,[]=>out
 |i,out,x::fs=>if i<4 then(if lK (id,out++[fixF i x])=0 then nU id (i+1) (out++[fixF i x]) fs else nU id (i+1) out fs)else out
def px (d:Dc):Dc:=(d.1,nU d.1 0 [] d.2)
def sC (l:List Fd):Prop:=∀x∈l,x.1.length≤12∧x.2.length≤40
theorem Df {s:List UInt8} (h:gj s=true):s.length≤12:=by
 simp only[gj,bU,decide_eq_true_eq]at h;omega
theorem yk {i:Nat} (x:Fd) (hi:i<4):(fixF i x).1.length≤12∧(fixF i x).2.length≤40:=by
 refine⟨?_,by simp only[fixF,bC];omega⟩;unfold fixF;dsimp only
 split
 ·exact Df (by assumption)
 ·have h:i=0∨i=1∨i=2∨i=3:=by omega
  rcases h with rfl|rfl|rfl|rfl<;>decide
theorem sC.snoc {l:List Fd} {x:Fd} (h:sC l) (hx:x.1.length≤12∧x.2.length≤40):sC (l++[x]):=fun y hy=>by
 rcases cq.1 hy with hy|hy
 ·exact h y hy
 ·rw[bH.1 hy];exact hx
theorem Ls {id:Int} {fs:List Fd} {i:Nat} {out:List Fd} {x:Fd} (h:fs[i]? =some x) (hi:i<4):nU id i out (fs.drop i)=if lK (id,out++[fixF i x])=0 then nU id (i+1) (out++[fixF i x]) (fs.drop (i+1))else nU id (i+1) out (fs.drop (i+1)):=by
 have dQ:=(ao.1 h).1;rw[dC dQ,(ao.1 h).2];show(if i<4 then _ else _)=_;rw[if_pos hi]
theorem Au {id:Int} {fs:List Fd} {i:Nat} {out:List Fd} (h:fs.length≤i∨4≤i):nU id i out (fs.drop i)=out:=by
 cases hd:fs.drop i with
 |nil=>rfl
 |cons x r=>
  show(if i<4 then _ else _)=_;rw[if_neg];rcases h with h|h
  ·rw[gV h]at hd;cases hd
  ·omega
theorem Dg (l:List UInt8):l.take (min (l.length:Int) 40).toNat=l.take 40:=by
 by_cases h:l.length≤40
 ·rw[bc (by omega),bc h]
 ·congr 1;omega
theorem IX {M:aC} {d:Dc} {v0:Value} (w0:World) (hM:Lt M w0) (hv:RT.dc.V M w0 d v0):
  Spec Tryz.prog 44 #[v0] w0 (fun v w=>RT.dc.V M w (px d) v∧Step M w0 M w aD):=by
 have kr:=hM
 have hdi: -9223372036854775808≤d.1∧d.1≤9223372036854775807:=by
  obtain⟨vs,⟨va,vb,_,⟨_,h1,h2⟩,_⟩,_⟩:=hv;exact⟨h1,h2⟩
 refine bg (args:=[_]) (fn:=Tryz.f44) Tryz.func44 rfl (n:=67) Tryz.ntmps44 ?_;have S:Step M w0 M w0 aD:=(aw _ _).cF (fun _ h=>h.elim) (fun _ h=>h.elim);refine aj (ae ?_);refine vK (A:=RT.dc) rfl rfl hM hv rfl (fun u0 w1 dq s0 _=>?_);replace hM:=s0.lt hM;have:=S.size;replace S:=S.aB s0;refine ek M ou rfl (fun oT FM Ud Ue fY nu=>?_);obtain⟨fj,mu⟩:∃M',M'=ins M oT:=⟨_,rfl⟩;rw[←mu]at nu;have eX:fj oT:=by rw[mu];exact .inl rfl
 change FM.heap[oT]? =some (.cells #[.int .i64 0,.slice none 0 0] _ _)at fY;replace dq:=dq.le (by decide) nu.le;replace hM:=nu.lt hM;have:=S.size;replace S:=S.aB nu;refine ab (aj (ae ?_));refine aL (M:=fj) (A:=RT.dc) (B:=RT.int .i64) a8 rfl rfl I3 (by decide) (WM) rfl rfl (by decide) (by assumption) (by repeat (first|exact aq _ _|refine aY (bu (by assumption)) ?_)) (fun Bv mV=>?_);refine cb (M:=fj) ax rfl rfl (by assumption) (by repeat (first|exact aq _ _|refine aY (bu (by assumption)) ?_)) (fun Ru=>?_);refine iI (places:=[(0,1),(1,1)]) a8 ou B69 rfl ⟨_,_,rfl,rfl,rfl⟩ (out:=[_,.slice none 0 0]) ⟨0,[_],rfl,rfl,by simp[Value.cells],rfl⟩ ?_;refine ek fj ou rfl (fun wY IP aeq aer jH s1_3=>?_);obtain⟨mX,ym⟩:∃M',M'=ins fj wY:=⟨_,rfl⟩;rw[←ym]at s1_3;have jP:mX wY:=by rw[ym];exact .inl rfl
 change IP.heap[wY]? =some (.cells #[.int .i64 0,.slice none 0 0] _ _)at jH;have:=ak fY;replace eX:=(s1_3.mem _ this).2 eX;replace fY:=s1_3.aK fY;replace dq:=dq.le (by decide) s1_3.le;replace hM:=s1_3.lt hM;have:=S.size;replace S:=S.aB s1_3;refine dY (M:=mX) (vs:=[.int .i64 d.1,.slice none 0 0]) ou rfl rfl (by intro u hu;simp at hu;rcases hu with rfl|rfl<;>first|rfl|exact mT (by assumption) rfl rfl) rfl rfl jH jP (fun w1b aes Uf=>?_);have:=ak fY;replace eX:=(Uf.mem _ this).2 eX;replace fY:=Uf.keep fY (fun hk=>by have hk:_=_:=hk;omega);have:=ak jH;replace jP:=(Uf.mem _ this).2 jP;replace dq:=dq.le (by decide) Uf.le;replace hM:=Uf.lt hM;have:=S.size;replace S:=S.trans Uf (fun k hk h=>by have h:_=_:=h;subst h;first|(exfalso;omega)|(show _≤_;omega)|exact⟨by first|omega|assumption,(S.mem _ hk).1 ((Uf.mem _ (ak jH)).1 jP)⟩|exact .inl rfl|exact .inr rfl|exact .inr (.inl rfl)|exact .inr (.inr rfl)|exact .inr (.inr (.inl rfl))|exact rfl);have Dh:=aes;clear jH;have jH:=Dh;clear Dh;refine ab (aj (ae ?_));refine Rg.Ww (A:=RT.str) (hn:=by decide) (M:=mX) (xs:=De) aS I9 rfl (by decide) rfl ⟨_,_,_,rfl,rfl,rfl,kA.2 ⟨rfl,by decide⟩,_,_,_,rfl,rfl,rfl,kA.2 ⟨rfl,by decide⟩,_,_,_,rfl,rfl,rfl,kA.2 ⟨rfl,by decide⟩,_,_,_,rfl,rfl,rfl,kA.2 ⟨rfl,by decide⟩,rfl⟩ rfl hM (.inr ⟨rfl,rfl⟩) (by decide) (fun u2 w2 dJ s2=>?_);have:=ak fY;replace eX:=(s2.mem _ this).2 eX;replace fY:=s2.aK fY;have:=ak jH;replace jP:=(s2.mem _ this).2 jP;replace jH:=s2.aK jH;replace dq:=dq.le (by decide) s2.le;replace hM:=s2.lt hM;have:=S.size;replace S:=S.aB s2;refine ah rfl rfl (ab (aj (aj (ae (ah rfl rfl (ab (aZ ?_)))))));refine dn (σ:=Nat×List Fd) (fun q=>[(1,u0),(2,.pointer (some ⟨oT,0,none⟩)),(3,.pointer (some ⟨wY,0,none⟩)),(4,u2),(5,.int .i64 (q.1:Int))]) (fun q w=>∃M' uo,Lt M' w∧Step M w0 M' w aD∧cP RT.dc M' w u0 d∧(RT.str.sl).V M' w De u2∧w.heap[oT]? =some (.cells #[.int .i64 0,.slice none 0 0] 69 (0,0))∧M' oT∧w.heap[wY]? =some (.cells #[.int .i64 d.1,uo] 69 (0,0))∧M' wY∧(RT.fd.sl).V M' w q.2 uo∧nU d.1 0 [] d.2=nU d.1 q.1 q.2 (d.2.drop q.1)∧q.1≤d.2.length∧q.1≤4∧sC q.2∧q.2.length≤q.1) (fun q=>d.2.length-q.1) (0,[]) (.cons rfl (.cons rfl (.cons rfl (.cons rfl (.cons rfl .nil))))) ?_ ?_
 ·exact⟨_,.slice none 0 0,hM,S,dq,dJ,fY,eX,jH,jP,o8,rfl,bG _,bG _,(fun x hx=>by cases hx),aO _⟩
 ·rintro⟨i,out⟩ w ⟨M1,uo,hM,S,dq,dJ,g2,dD,g3,eV,fk,oR,hi,aet,A4,fz⟩;dsimp only at g3 fk oR hi aet A4 fz ⊢;refine aj (aj (ae (ad rfl rfl ?_)));refine aL (M:=M1) (A:=RT.dc) (B:=(RT.fd).sl) a8 rfl rfl uP (by decide) (IT) rfl rfl (by decide) (by assumption) (by repeat (first|exact aq _ _|refine aY (bu (by assumption)) ?_)) (fun Yb Yo=>?_);refine bT (M:=M1) bz rfl rfl rfl rfl rfl (by assumption) (by repeat (first|exact aq _ _|refine aY (bu (by assumption)) ?_)) (fun aot Yp=>?_);refine bR bz rfl Yp rfl (cn rfl rfl rfl (ad rfl rfl ?_));refine aN (g:=18) rfl (fun Ug=>?_) (fun Ug=>?_)
  ·refine al rfl rfl (ad rfl rfl (al rfl rfl (cn rfl rfl rfl (aX rfl rfl rfl (ab ?_)))));refine bN rfl (fun c4=>?_) (fun c4=>?_)
   ·refine aT (aj (aZ (aj (ae ?_))));refine aL (M:=M1) (A:=RT.dc) (B:=(RT.fd).sl) a8 rfl rfl uP (by decide) (IT) rfl rfl (by decide) (by assumption) (by repeat (first|exact aq _ _|refine aY (bu (by assumption)) ?_)) (fun Yq Lu=>?_);refine bT (M:=M1) bz rfl rfl rfl rfl rfl (by assumption) (by repeat (first|exact aq _ _|refine aY (bu (by assumption)) ?_)) (fun Uh yn=>?_);refine ad rfl rfl ?_;refine cE (M:=M1) bz kz rfl rfl rfl yn (aq _ _) (by omega) (fun u6 x JV FF=>?_);rw[ay]at JV;have W9:i<4:=by omega
    have hga:=Ls (id:=d.1) (out:=out) JV W9;have Rv:=yk x W9;refine dg (M:=M1) (A:=RT.fd) cw rfl kz (by decide) rfl rfl rfl FF (aq _ _) (fun v6 uU=>?_);obtain rfl:=sy uU;have hxb:=T1 uU;refine ek M1 kz rfl (fun Ui aeu aov aow dL zL=>?_);obtain⟨mv,Lv⟩:∃M',M'=ins M1 Ui:=⟨_,rfl⟩;rw[←Lv]at zL;have dd:mv Ui:=by rw[Lv];exact .inl rfl
    change aeu.heap[Ui]? =some (.cells #[.string ⟨#[]⟩,.string ⟨#[]⟩] _ _)at dL;have:=ak g2;replace dD:=(zL.mem _ this).2 dD;replace g2:=zL.aK g2;have:=ak g3;replace eV:=(zL.mem _ this).2 eV;replace g3:=zL.aK g3;replace dq:=dq.le (by decide) zL.le;replace dJ:=dJ.le zL.le;replace fk:=fk.le zL.le;replace hM:=zL.lt hM;have:=S.size;replace S:=S.aB zL;refine dY (M:=mv) (vs:=[.string ⟨x.1.toArray⟩,.string ⟨x.2.toArray⟩]) kz rfl rfl (by intro u hu;simp at hu;rcases hu with rfl|rfl<;>first|rfl|exact mT (by assumption) rfl rfl) rfl rfl dL dd (fun w6b aev Lw=>?_);have:=ak g2;replace dD:=(Lw.mem _ this).2 dD;replace g2:=Lw.keep g2 (fun hk=>by have hk:_=_:=hk;omega);have:=ak g3;replace eV:=(Lw.mem _ this).2 eV;replace g3:=Lw.keep g3 (fun hk=>by have hk:_=_:=hk;omega);have:=ak dL;replace dd:=(Lw.mem _ this).2 dd;replace dq:=dq.le (by decide) Lw.le;replace dJ:=dJ.le Lw.le;replace fk:=fk.le Lw.le;replace hM:=Lw.lt hM;have:=S.size;replace S:=S.trans Lw (fun k hk h=>by have h:_=_:=h;subst h;first|(exfalso;omega)|(show _≤_;omega)|exact⟨by first|omega|assumption,(S.mem _ hk).1 ((Lw.mem _ (ak dL)).1 dd)⟩|exact .inl rfl|exact .inr rfl|exact .inr (.inl rfl)|exact .inr (.inr rfl)|exact .inr (.inr (.inl rfl))|exact rfl);have qm:=aev;clear dL;have dL:=qm;clear qm;refine ab (aj (ae (bO (o':=0) cw rfl rfl I9 (by decide) rfl rfl (aP aJ rfl rfl rfl (by assumption) rfl ?_))));refine aW rfl rfl E93 (yi x.1 hxb.1 _) (fun r7 w7 hc=>?_);obtain⟨rfl,rfl⟩:=hc;refine ah rfl rfl (ab (aj (aj (ae (ad rfl rfl (mJ rfl rfl (aU (v':= .bool (decide (gj x.1=false))) (by cases gj x.1<;>rfl) (ab ?_))))))));refine bN rfl (fun c8=>?_) (fun c8=>?_)
    ·refine ae (ad rfl rfl (ad rfl rfl ?_));refine cE (M:=mv) aS I9 rfl rfl rfl dJ (aq _ _) (by have:De.length=4:=rfl;omega) (fun u9 y Rw Yr=>?_);rw[ay]at Rw;refine bT (M:=mv) aJ rfl rfl rfl rfl rfl Yr (aq _ _) (fun v9 Dj=>?_);obtain rfl:=iC Dj
     obtain rfl:y=(fixF i x).1:=by
      show y=if gj x.1=true then x.1 else De.getD i []
      rw[if_neg (by rw[c8];simp),aA,Rw];rfl
     refine bO (o':=0) cw rfl rfl I9 (by decide) rfl rfl ?_;refine cu (M:=mv) I9 rfl rfl dL rfl (rfl) dd (fun Yc Ys qj=>?_);change Yc.heap[_]? =some (Obj.cells #[.string ⟨((fixF i x).1).toArray⟩,.string ⟨x.2.toArray⟩] _ _)at Ys;have:=ak g2;replace dD:=(qj.mem _ this).2 dD;replace g2:=qj.keep g2 (fun hk=>by have hk:_=_:=hk;omega);have:=ak g3;replace eV:=(qj.mem _ this).2 eV;replace g3:=qj.keep g3 (fun hk=>by have hk:_=_:=hk;omega);have:=ak dL;replace dd:=(qj.mem _ this).2 dd;replace dq:=dq.le (by decide) qj.le;replace dJ:=dJ.le qj.le;replace fk:=fk.le qj.le;replace hM:=qj.lt hM;have:=S.size;replace S:=S.trans qj (fun k hk h=>by have h:_=_:=h;subst h;first|(exfalso;omega)|(show _≤_;omega)|exact⟨by first|omega|assumption,(S.mem _ hk).1 ((qj.mem _ (ak dL)).1 dd)⟩|exact .inl rfl|exact .inr rfl|exact .inr (.inl rfl)|exact .inr (.inr rfl)|exact .inr (.inr (.inl rfl))|exact rfl);have qm:=Ys;clear dL;have dL:=qm;clear qm;refine ab (aj (ae (bO (o':=1) cw rfl rfl I9 (by decide) rfl rfl (aP aJ rfl rfl rfl (by assumption) rfl (bO (o':=1) cw rfl rfl I9 (by decide) rfl rfl (aP aJ rfl rfl rfl (by assumption) rfl (Rg.nh aJ rfl rfl (aU (v':= .int .i64 (x.2.length:Int)) (by simp[ByteArray.size]) (Rg.min2 rfl rfl rfl (Rg.Re aJ rfl rfl rfl (by omega) (aU (v':= .string ⟨((fixF i x).2).toArray⟩) (by rw[Dg];rfl) ?_)))))))))));refine bO (o':=1) cw rfl rfl I9 (by decide) rfl rfl ?_;refine cu (M:=mv) I9 rfl rfl dL rfl (rfl) dd (fun Hu Dk gP=>?_);change Hu.heap[_]? =some (Obj.cells #[.string ⟨((fixF i x).1).toArray⟩,.string ⟨((fixF i x).2).toArray⟩] _ _)at Dk;have:=ak g2;replace dD:=(gP.mem _ this).2 dD;replace g2:=gP.keep g2 (fun hk=>by have hk:_=_:=hk;omega)
     have:=ak g3;replace eV:=(gP.mem _ this).2 eV;replace g3:=gP.keep g3 (fun hk=>by have hk:_=_:=hk;omega);have:=ak dL;replace dd:=(gP.mem _ this).2 dd;replace dq:=dq.le (by decide) gP.le;replace dJ:=dJ.le gP.le;replace fk:=fk.le gP.le;replace hM:=gP.lt hM;have:=S.size;replace S:=S.trans gP (fun k hk h=>by have h:_=_:=h;subst h;first|(exfalso;omega)|(show _≤_;omega)|exact⟨by first|omega|assumption,(S.mem _ hk).1 ((gP.mem _ (ak dL)).1 dd)⟩|exact .inl rfl|exact .inr rfl|exact .inr (.inl rfl)|exact .inr (.inr rfl)|exact .inr (.inr (.inl rfl))|exact rfl);have qm:=Dk;clear dL;have dL:=qm;clear qm;refine ab (aj (ae ?_));refine aL (M:=mv) (A:=RT.dc) (B:=RT.int .i64) a8 rfl rfl I3 (by decide) (WM) rfl rfl (by decide) (by assumption) (by repeat (first|exact aq _ _|refine aY (bu (by assumption)) ?_)) (fun Rx Lx=>?_);refine cb (M:=mv) ax rfl rfl (by assumption) (by repeat (first|exact aq _ _|refine aY (bu (by assumption)) ?_)) (fun Uj=>?_);refine iI (places:=[(0,1),(1,1)]) a8 ou B69 rfl ⟨_,_,rfl,rfl,rfl⟩ (out:=[_,.slice none 0 0]) ⟨0,[_],rfl,rfl,by simp[Value.cells],rfl⟩ ?_;refine ek mv ou rfl (fun yo Dl Yt Yu cU fD=>?_);obtain⟨sG,tG⟩:∃M',M'=ins mv yo:=⟨_,rfl⟩;rw[←tG]at fD;have cO:sG yo:=by rw[tG];exact .inl rfl
     change Dl.heap[yo]? =some (.cells #[.int .i64 0,.slice none 0 0] _ _)at cU;have:=ak g2;replace dD:=(fD.mem _ this).2 dD;replace g2:=fD.aK g2;have:=ak g3;replace eV:=(fD.mem _ this).2 eV;replace g3:=fD.aK g3;have:=ak dL;replace dd:=(fD.mem _ this).2 dd;replace dL:=fD.aK dL;replace dq:=dq.le (by decide) fD.le;replace dJ:=dJ.le fD.le;replace fk:=fk.le fD.le;replace hM:=fD.lt hM;have:=S.size;replace S:=S.aB fD;refine dY (M:=sG) (vs:=[.int .i64 d.1,.slice none 0 0]) ou rfl rfl (by intro u hu;simp at hu;rcases hu with rfl|rfl<;>first|rfl|exact mT (by assumption) rfl rfl) rfl rfl cU cO (fun Bx Ly kL=>?_);have:=ak g2;replace dD:=(kL.mem _ this).2 dD;replace g2:=kL.keep g2 (fun hk=>by have hk:_=_:=hk;omega);have:=ak g3;replace eV:=(kL.mem _ this).2 eV;replace g3:=kL.keep g3 (fun hk=>by have hk:_=_:=hk;omega);have:=ak dL;replace dd:=(kL.mem _ this).2 dd;replace dL:=kL.keep dL (fun hk=>by have hk:_=_:=hk;omega);have:=ak cU;replace cO:=(kL.mem _ this).2 cO;replace dq:=dq.le (by decide) kL.le;replace dJ:=dJ.le kL.le;replace fk:=fk.le kL.le;replace hM:=kL.lt hM;have:=S.size;replace S:=S.trans kL (fun k hk h=>by have h:_=_:=h;subst h;first|(exfalso;omega)|(show _≤_;omega)|exact⟨by first|omega|assumption,(S.mem _ hk).1 ((kL.mem _ (ak cU)).1 cO)⟩|exact .inl rfl|exact .inr rfl|exact .inr (.inl rfl)|exact .inr (.inr rfl)|exact .inr (.inr (.inl rfl))|exact rfl);have jn:=Ly;clear cU;have cU:=jn;clear jn;refine ab (aj (ae (bO (o':=1) a8 rfl rfl uP (by decide) rfl rfl (aP bz rfl rfl rfl (by assumption) rfl (bO (o':=1) a8 rfl rfl uP (by decide) rfl rfl (aP bz rfl rfl rfl (by assumption) rfl ?_))))));have dy:=Own.Rm RT.fd 166 Bx.heap.size hM
     have aew:=ak dL;have Lz:w0.heap.size≤Bx.heap.size:=S.size;refine cX (M:=sG) (base:=Bx.heap.size) bz kz rfl rfl rfl rfl dy fk (aq _ _) (by simp;omega) (by simp;omega) (aO _) (fun yg qi Lc sx eU=>?_);have:=ak g2;replace dD:=(eU.mem _ this).2 dD;replace g2:=eU.keep g2 (fun h=>by first|exact dy.ej g2 h|exact dy.eM g2 (by decide) h|(have:=(dy.base _ h).1;omega));have:=ak g3;replace eV:=(eU.mem _ this).2 eV;replace g3:=eU.keep g3 (fun h=>by first|exact dy.ej g3 h|exact dy.eM g3 (by decide) h|(have:=(dy.base _ h).1;omega));have:=ak dL;replace dd:=(eU.mem _ this).2 dd;replace dL:=eU.keep dL (fun h=>by first|exact dy.ej dL h|exact dy.eM dL (by decide) h|(have:=(dy.base _ h).1;omega));have:=ak cU;replace cO:=(eU.mem _ this).2 cO;replace cU:=eU.keep cU (fun h=>by first|exact dy.ej cU h|exact dy.eM cU (by decide) h|(have:=(dy.base _ h).1;omega));replace dq:=dq.le (by decide) eU.le;replace dJ:=dJ.le eU.le;replace fk:=fk.le eU.le;replace hM:=eU.lt hM;have:=S.size;replace S:=S.cV eU dy Lz;replace dy:=sx;refine bO (o':=1) a8 rfl rfl uP (by decide) rfl rfl ?_;refine cu (M:=qi) uP rfl rfl cU rfl ((by obtain⟨_,_,he,_⟩:=dy.isSlice;rw[he];rfl)) cO (fun LA Dm gB=>?_);change LA.heap[_]? =some (Obj.cells #[.int .i64 d.1,yg] _ _)at Dm;have:=ak g2;replace dD:=(gB.mem _ this).2 dD;replace g2:=gB.keep g2 (fun hk=>by have hk:_=_:=hk;omega);have:=ak g3;replace eV:=(gB.mem _ this).2 eV;replace g3:=gB.keep g3 (fun hk=>by have hk:_=_:=hk;omega);have:=ak dL;replace dd:=(gB.mem _ this).2 dd;replace dL:=gB.keep dL (fun hk=>by have hk:_=_:=hk;omega);have:=ak cU;replace cO:=(gB.mem _ this).2 cO
     replace dq:=dq.le (by decide) gB.le;replace dJ:=dJ.le gB.le;replace fk:=fk.le gB.le;replace dy:=dy.step gB (fun b hb hk=>by have hk:_=_:=hk;have:=(dy.base b hb);omega);replace hM:=gB.lt hM;have:=S.size;replace S:=S.trans gB (fun k hk h=>by have h:_=_:=h;subst h;first|(exfalso;omega)|(show _≤_;omega)|exact⟨by first|omega|assumption,(S.mem _ hk).1 ((gB.mem _ (ak cU)).1 cO)⟩|exact .inl rfl|exact .inr rfl|exact .inr (.inl rfl)|exact .inr (.inr rfl)|exact .inr (.inr (.inl rfl))|exact rfl);have jn:=Dm;clear cU;have cU:=jn;clear jn;refine ab (aj (ae (bO (o':=1) a8 rfl rfl uP (by decide) rfl rfl (aP bz rfl rfl rfl (by assumption) rfl (iq (vs:=[.string ⟨((fixF i x).1).toArray⟩,.string ⟨((fixF i x).2).toArray⟩]) cw rfl kz rfl rfl rfl dL ?_)))));refine eg (A:=RT.fd) (hn:=by decide) (M:=qi) bz kz (by decide) rfl rfl hM (show RT.fd.V _ _ (fixF i x) _ from eT (kA.2 ⟨rfl,eD Rv.1 (by decide)⟩) (kA.2 ⟨rfl,eD Rv.2 (by decide)⟩) rfl rfl rfl rfl) (.inl rfl) (fun Rs Yv fX gC=>?_);have:=ak g2;replace dD:=(gC.mem _ this).2 dD;replace g2:=gC.aK g2;have:=ak g3;replace eV:=(gC.mem _ this).2 eV;replace g3:=gC.aK g3;have:=ak dL;replace dd:=(gC.mem _ this).2 dd;replace dL:=gC.aK dL;have:=ak cU;replace cO:=(gC.mem _ this).2 cO;replace cU:=gC.aK cU;replace dq:=dq.le (by decide) gC.le;replace dJ:=dJ.le gC.le;replace fk:=fk.le gC.le;replace dy:=dy.aM gC;replace hM:=gC.lt hM;have:=S.size;replace S:=S.aB gC;refine cX (M:=qi) (base:=Bx.heap.size) bz kz rfl rfl rfl rfl dy fX (aq _ _) (by simp;omega) (by simp;omega) (by have:=eU.size;have:=gB.size;have:=gC.size;omega) (fun fU my Ry FN eW=>?_)
     have:=ak g2;replace dD:=(eW.mem _ this).2 dD;replace g2:=eW.keep g2 (fun h=>by first|exact dy.ej g2 h|exact dy.eM g2 (by decide) h|(have:=(dy.base _ h).1;omega));have:=ak g3;replace eV:=(eW.mem _ this).2 eV;replace g3:=eW.keep g3 (fun h=>by first|exact dy.ej g3 h|exact dy.eM g3 (by decide) h|(have:=(dy.base _ h).1;omega));have:=ak dL;replace dd:=(eW.mem _ this).2 dd;replace dL:=eW.keep dL (fun h=>by first|exact dy.ej dL h|exact dy.eM dL (by decide) h|(have:=(dy.base _ h).1;omega));have:=ak cU;replace cO:=(eW.mem _ this).2 cO;replace cU:=eW.keep cU (fun h=>by first|exact dy.ej cU h|exact dy.eM cU (by decide) h|(have:=(dy.base _ h).1;omega));replace dq:=dq.le (by decide) eW.le;replace dJ:=dJ.le eW.le;replace fk:=fk.le eW.le;replace fX:=fX.le eW.le;replace hM:=eW.lt hM;have:=S.size;replace S:=S.cV eW dy Lz;replace dy:=FN;refine bO (o':=1) a8 rfl rfl uP (by decide) rfl rfl ?_;refine cu (M:=my) uP rfl rfl cU rfl ((by obtain⟨_,_,he,_⟩:=dy.isSlice;rw[he];rfl)) cO (fun LB Dn gD=>?_);change LB.heap[_]? =some (Obj.cells #[.int .i64 d.1,fU] _ _)at Dn;have:=ak g2;replace dD:=(gD.mem _ this).2 dD;replace g2:=gD.keep g2 (fun hk=>by have hk:_=_:=hk;omega);have:=ak g3;replace eV:=(gD.mem _ this).2 eV;replace g3:=gD.keep g3 (fun hk=>by have hk:_=_:=hk;omega);have:=ak dL;replace dd:=(gD.mem _ this).2 dd;replace dL:=gD.keep dL (fun hk=>by have hk:_=_:=hk;omega);have:=ak cU;replace cO:=(gD.mem _ this).2 cO;replace dq:=dq.le (by decide) gD.le;replace dJ:=dJ.le gD.le;replace fk:=fk.le gD.le;replace fX:=fX.le gD.le;replace dy:=dy.step gD (fun b hb hk=>by have hk:_=_:=hk;have:=(dy.base b hb);omega);replace hM:=gD.lt hM
     have:=S.size;replace S:=S.trans gD (fun k hk h=>by have h:_=_:=h;subst h;first|(exfalso;omega)|(show _≤_;omega)|exact⟨by first|omega|assumption,(S.mem _ hk).1 ((gD.mem _ (ak cU)).1 cO)⟩|exact .inl rfl|exact .inr rfl|exact .inr (.inl rfl)|exact .inr (.inr rfl)|exact .inr (.inr (.inl rfl))|exact rfl);have jn:=Dn;clear cU;have cU:=jn;clear jn;refine ab (aj (ae (iq (vs:=[.int .i64 d.1,fU]) a8 rfl ou rfl rfl rfl cU ?_)));have rC:=dy.view (hn:=by decide) (by simp;omega);replace dD:rm my fU _:=⟨dD,by first|exact dy.eM g2 (by decide)|(intro h;have:=(dy.base _ h).1;omega)⟩;replace eV:rm my fU _:=⟨eV,by first|exact dy.eM g3 (by decide)|(intro h;have:=(dy.base _ h).1;omega)⟩;replace dd:rm my fU _:=⟨dd,by first|exact dy.eM dL (by decide)|(intro h;have:=(dy.base _ h).1;omega)⟩;replace cO:rm my fU _:=⟨cO,by first|exact dy.eM cU (by decide)|(intro h;have:=(dy.base _ h).1;omega)⟩;replace dq:=dq.le (by decide) (eH _ fU _);replace dJ:=dJ.le (eH _ fU _);replace fk:=fk.le (eH _ fU _);replace fX:=fX.le (eH _ fU _);replace hM:Lt (rm my fU) _:=fun b hb=>hM b hb.1
     replace S:=S.freeze (v:=fU) (fun b hb=>by have:=(dy.base b hb).1;omega);clear dy;refine aW rfl rfl E94 (As (d:=(d.1,[]++out++[fixF i x])) _ hM (eT (fI hdi) rC rfl rfl rfl rfl) (fun y hy=>by have:=(A4.snoc Rv) y (by simpa using hy);omega)) (fun r14 Uk hc=>?_);obtain⟨rfl,jQ⟩:=hc;rw[fM]at rC;have:=ak g2;replace dD:=(jQ.mem _ this).2 dD;replace g2:=jQ.aK g2;have:=ak g3;replace eV:=(jQ.mem _ this).2 eV;replace g3:=jQ.aK g3;have:=ak dL;replace dd:=(jQ.mem _ this).2 dd;replace dL:=jQ.aK dL;have:=ak cU;replace cO:=(jQ.mem _ this).2 cO;replace cU:=jQ.aK cU;replace dq:=dq.le (by decide) jQ.le;replace dJ:=dJ.le jQ.le;replace fk:=fk.le jQ.le;replace fX:=fX.le jQ.le;replace rC:=rC.le jQ.le;replace hM:=jQ.lt hM;have:=S.size;replace S:=S.aB jQ;refine tc rfl rfl rfl (aU (v':= .bool (decide (lK (d.1,out++[fixF i x])=0))) (by rw[fM]) (ab ?_));refine bN rfl (fun Cm=>?_) (fun Cm=>?_)
     ·refine ae (iq (vs:=[.int .i64 d.1,fU]) a8 rfl ou rfl rfl rfl cU ?_);refine dY (M:=rm my fU) (vs:=[.int .i64 d.1,fU]) ou rfl rfl (by intro u hu;simp at hu;rcases hu with rfl|rfl<;>first|rfl|exact mT (by assumption) rfl rfl) rfl rfl g3 eV (fun aex LC jR=>?_);have:=ak g2;replace dD:=(jR.mem _ this).2 dD;replace g2:=jR.keep g2 (fun hk=>by have hk:_=_:=hk;omega);have:=ak g3;replace eV:=(jR.mem _ this).2 eV;have:=ak dL;replace dd:=(jR.mem _ this).2 dd;replace dL:=jR.keep dL (fun hk=>by have hk:_=_:=hk;omega);have:=ak cU;replace cO:=(jR.mem _ this).2 cO;replace cU:=jR.keep cU (fun hk=>by have hk:_=_:=hk;omega);replace dq:=dq.le (by decide) jR.le;replace dJ:=dJ.le jR.le;replace fk:=fk.le jR.le;replace fX:=fX.le jR.le;replace rC:=rC.le jR.le;replace hM:=jR.lt hM;have:=S.size;replace S:=S.trans jR (fun k hk h=>by have h:_=_:=h;subst h;first|(exfalso;omega)|(show _≤_;omega)|exact⟨by first|omega|assumption,(S.mem _ hk).1 ((jR.mem _ (ak g3)).1 eV)⟩|exact .inl rfl|exact .inr rfl|exact .inr (.inl rfl)|exact .inr (.inr rfl)|exact .inr (.inr (.inl rfl))|exact rfl);have Yw:=LC;clear g3;have g3:=Yw;clear Yw;refine ab (ae (ad rfl rfl (bD rfl rfl rfl (by omega) (ah rfl rfl (ab ?_)))));refine⟨rfl,(i+1,out++[fixF i x]),(.cons rfl (.cons rfl (.cons rfl (.cons rfl (.cons rfl .nil))))),?_,?_⟩
      ·exact⟨_,_,hM,S,dq,dJ,g2,dD,g3,eV,rC,by rw[oR,hga,if_pos Cm],by dsimp only;omega,by dsimp only;omega,A4.snoc Rv,by simp;omega⟩
      ·dsimp only;omega
     ·refine aT (ae (ad rfl rfl (bD rfl rfl rfl (by omega) (ah rfl rfl (ab ?_)))));refine⟨rfl,(i+1,out),(.cons rfl (.cons rfl (.cons rfl (.cons rfl (.cons rfl .nil))))),?_,?_⟩
      ·exact⟨_,_,hM,S,dq,dJ,g2,dD,g3,eV,fk,by rw[oR,hga,if_neg Cm],by dsimp only;omega,by dsimp only;omega,A4,by dsimp only;omega⟩
      ·dsimp only;omega
    ·rw[show x.1=(fixF i x).1 from by show x.1=if gj x.1=true then x.1 else _;rw[if_pos (by cases hq:gj x.1 with|true=>rfl|false=>exact absurd hq c8)]]at dL;refine aT (aj (ae (bO (o':=1) cw rfl rfl I9 (by decide) rfl rfl (aP aJ rfl rfl rfl (by assumption) rfl (bO (o':=1) cw rfl rfl I9 (by decide) rfl rfl (aP aJ rfl rfl rfl (by assumption) rfl (Rg.nh aJ rfl rfl (aU (v':= .int .i64 (x.2.length:Int)) (by simp[ByteArray.size]) (Rg.min2 rfl rfl rfl (Rg.Re aJ rfl rfl rfl (by omega) (aU (v':= .string ⟨((fixF i x).2).toArray⟩) (by rw[Dg];rfl) ?_)))))))))));refine bO (o':=1) cw rfl rfl I9 (by decide) rfl rfl ?_;refine cu (M:=mv) I9 rfl rfl dL rfl (rfl) dd (fun Hu Dk gP=>?_);change Hu.heap[_]? =some (Obj.cells #[.string ⟨((fixF i x).1).toArray⟩,.string ⟨((fixF i x).2).toArray⟩] _ _)at Dk;have:=ak g2;replace dD:=(gP.mem _ this).2 dD;replace g2:=gP.keep g2 (fun hk=>by have hk:_=_:=hk;omega);have:=ak g3;replace eV:=(gP.mem _ this).2 eV;replace g3:=gP.keep g3 (fun hk=>by have hk:_=_:=hk;omega);have:=ak dL;replace dd:=(gP.mem _ this).2 dd;replace dq:=dq.le (by decide) gP.le;replace dJ:=dJ.le gP.le;replace fk:=fk.le gP.le;replace hM:=gP.lt hM;have:=S.size;replace S:=S.trans gP (fun k hk h=>by have h:_=_:=h;subst h;first|(exfalso;omega)|(show _≤_;omega)|exact⟨by first|omega|assumption,(S.mem _ hk).1 ((gP.mem _ (ak dL)).1 dd)⟩|exact .inl rfl|exact .inr rfl|exact .inr (.inl rfl)|exact .inr (.inr rfl)|exact .inr (.inr (.inl rfl))|exact rfl);have qm:=Dk;clear dL;have dL:=qm;clear qm;refine ab (aj (ae ?_));refine aL (M:=mv) (A:=RT.dc) (B:=RT.int .i64) a8 rfl rfl I3 (by decide) (WM) rfl rfl (by decide) (by assumption) (by repeat (first|exact aq _ _|refine aY (bu (by assumption)) ?_)) (fun Rx Lx=>?_)
     refine cb (M:=mv) ax rfl rfl (by assumption) (by repeat (first|exact aq _ _|refine aY (bu (by assumption)) ?_)) (fun Uj=>?_);refine iI (places:=[(0,1),(1,1)]) a8 ou B69 rfl ⟨_,_,rfl,rfl,rfl⟩ (out:=[_,.slice none 0 0]) ⟨0,[_],rfl,rfl,by simp[Value.cells],rfl⟩ ?_;refine ek mv ou rfl (fun yo Dl Yt Yu cU fD=>?_);obtain⟨sG,tG⟩:∃M',M'=ins mv yo:=⟨_,rfl⟩;rw[←tG]at fD;have cO:sG yo:=by rw[tG];exact .inl rfl
     change Dl.heap[yo]? =some (.cells #[.int .i64 0,.slice none 0 0] _ _)at cU;have:=ak g2;replace dD:=(fD.mem _ this).2 dD;replace g2:=fD.aK g2;have:=ak g3;replace eV:=(fD.mem _ this).2 eV;replace g3:=fD.aK g3;have:=ak dL;replace dd:=(fD.mem _ this).2 dd;replace dL:=fD.aK dL;replace dq:=dq.le (by decide) fD.le;replace dJ:=dJ.le fD.le;replace fk:=fk.le fD.le;replace hM:=fD.lt hM;have:=S.size;replace S:=S.aB fD;refine dY (M:=sG) (vs:=[.int .i64 d.1,.slice none 0 0]) ou rfl rfl (by intro u hu;simp at hu;rcases hu with rfl|rfl<;>first|rfl|exact mT (by assumption) rfl rfl) rfl rfl cU cO (fun Bx Ly kL=>?_);have:=ak g2;replace dD:=(kL.mem _ this).2 dD;replace g2:=kL.keep g2 (fun hk=>by have hk:_=_:=hk;omega);have:=ak g3;replace eV:=(kL.mem _ this).2 eV;replace g3:=kL.keep g3 (fun hk=>by have hk:_=_:=hk;omega);have:=ak dL;replace dd:=(kL.mem _ this).2 dd;replace dL:=kL.keep dL (fun hk=>by have hk:_=_:=hk;omega);have:=ak cU;replace cO:=(kL.mem _ this).2 cO;replace dq:=dq.le (by decide) kL.le;replace dJ:=dJ.le kL.le;replace fk:=fk.le kL.le;replace hM:=kL.lt hM;have:=S.size;replace S:=S.trans kL (fun k hk h=>by have h:_=_:=h;subst h;first|(exfalso;omega)|(show _≤_;omega)|exact⟨by first|omega|assumption,(S.mem _ hk).1 ((kL.mem _ (ak cU)).1 cO)⟩|exact .inl rfl|exact .inr rfl|exact .inr (.inl rfl)|exact .inr (.inr rfl)|exact .inr (.inr (.inl rfl))|exact rfl);have jn:=Ly;clear cU;have cU:=jn;clear jn;refine ab (aj (ae (bO (o':=1) a8 rfl rfl uP (by decide) rfl rfl (aP bz rfl rfl rfl (by assumption) rfl (bO (o':=1) a8 rfl rfl uP (by decide) rfl rfl (aP bz rfl rfl rfl (by assumption) rfl ?_))))));have dy:=Own.Rm RT.fd 166 Bx.heap.size hM
     have aew:=ak dL;have Lz:w0.heap.size≤Bx.heap.size:=S.size;refine cX (M:=sG) (base:=Bx.heap.size) bz kz rfl rfl rfl rfl dy fk (aq _ _) (by simp;omega) (by simp;omega) (aO _) (fun yg qi Lc sx eU=>?_);have:=ak g2;replace dD:=(eU.mem _ this).2 dD;replace g2:=eU.keep g2 (fun h=>by first|exact dy.ej g2 h|exact dy.eM g2 (by decide) h|(have:=(dy.base _ h).1;omega));have:=ak g3;replace eV:=(eU.mem _ this).2 eV;replace g3:=eU.keep g3 (fun h=>by first|exact dy.ej g3 h|exact dy.eM g3 (by decide) h|(have:=(dy.base _ h).1;omega));have:=ak dL;replace dd:=(eU.mem _ this).2 dd;replace dL:=eU.keep dL (fun h=>by first|exact dy.ej dL h|exact dy.eM dL (by decide) h|(have:=(dy.base _ h).1;omega));have:=ak cU;replace cO:=(eU.mem _ this).2 cO;replace cU:=eU.keep cU (fun h=>by first|exact dy.ej cU h|exact dy.eM cU (by decide) h|(have:=(dy.base _ h).1;omega));replace dq:=dq.le (by decide) eU.le;replace dJ:=dJ.le eU.le;replace fk:=fk.le eU.le;replace hM:=eU.lt hM;have:=S.size;replace S:=S.cV eU dy Lz;replace dy:=sx;refine bO (o':=1) a8 rfl rfl uP (by decide) rfl rfl ?_;refine cu (M:=qi) uP rfl rfl cU rfl ((by obtain⟨_,_,he,_⟩:=dy.isSlice;rw[he];rfl)) cO (fun LA Dm gB=>?_);change LA.heap[_]? =some (Obj.cells #[.int .i64 d.1,yg] _ _)at Dm;have:=ak g2;replace dD:=(gB.mem _ this).2 dD;replace g2:=gB.keep g2 (fun hk=>by have hk:_=_:=hk;omega);have:=ak g3;replace eV:=(gB.mem _ this).2 eV;replace g3:=gB.keep g3 (fun hk=>by have hk:_=_:=hk;omega);have:=ak dL;replace dd:=(gB.mem _ this).2 dd;replace dL:=gB.keep dL (fun hk=>by have hk:_=_:=hk;omega);have:=ak cU;replace cO:=(gB.mem _ this).2 cO
     replace dq:=dq.le (by decide) gB.le;replace dJ:=dJ.le gB.le;replace fk:=fk.le gB.le;replace dy:=dy.step gB (fun b hb hk=>by have hk:_=_:=hk;have:=(dy.base b hb);omega);replace hM:=gB.lt hM;have:=S.size;replace S:=S.trans gB (fun k hk h=>by have h:_=_:=h;subst h;first|(exfalso;omega)|(show _≤_;omega)|exact⟨by first|omega|assumption,(S.mem _ hk).1 ((gB.mem _ (ak cU)).1 cO)⟩|exact .inl rfl|exact .inr rfl|exact .inr (.inl rfl)|exact .inr (.inr rfl)|exact .inr (.inr (.inl rfl))|exact rfl);have jn:=Dm;clear cU;have cU:=jn;clear jn;refine ab (aj (ae (bO (o':=1) a8 rfl rfl uP (by decide) rfl rfl (aP bz rfl rfl rfl (by assumption) rfl (iq (vs:=[.string ⟨((fixF i x).1).toArray⟩,.string ⟨((fixF i x).2).toArray⟩]) cw rfl kz rfl rfl rfl dL ?_)))));refine eg (A:=RT.fd) (hn:=by decide) (M:=qi) bz kz (by decide) rfl rfl hM (show RT.fd.V _ _ (fixF i x) _ from eT (kA.2 ⟨rfl,eD Rv.1 (by decide)⟩) (kA.2 ⟨rfl,eD Rv.2 (by decide)⟩) rfl rfl rfl rfl) (.inl rfl) (fun Rs Yv fX gC=>?_);have:=ak g2;replace dD:=(gC.mem _ this).2 dD;replace g2:=gC.aK g2;have:=ak g3;replace eV:=(gC.mem _ this).2 eV;replace g3:=gC.aK g3;have:=ak dL;replace dd:=(gC.mem _ this).2 dd;replace dL:=gC.aK dL;have:=ak cU;replace cO:=(gC.mem _ this).2 cO;replace cU:=gC.aK cU;replace dq:=dq.le (by decide) gC.le;replace dJ:=dJ.le gC.le;replace fk:=fk.le gC.le;replace dy:=dy.aM gC;replace hM:=gC.lt hM;have:=S.size;replace S:=S.aB gC;refine cX (M:=qi) (base:=Bx.heap.size) bz kz rfl rfl rfl rfl dy fX (aq _ _) (by simp;omega) (by simp;omega) (by have:=eU.size;have:=gB.size;have:=gC.size;omega) (fun fU my Ry FN eW=>?_)
     have:=ak g2;replace dD:=(eW.mem _ this).2 dD;replace g2:=eW.keep g2 (fun h=>by first|exact dy.ej g2 h|exact dy.eM g2 (by decide) h|(have:=(dy.base _ h).1;omega));have:=ak g3;replace eV:=(eW.mem _ this).2 eV;replace g3:=eW.keep g3 (fun h=>by first|exact dy.ej g3 h|exact dy.eM g3 (by decide) h|(have:=(dy.base _ h).1;omega));have:=ak dL;replace dd:=(eW.mem _ this).2 dd;replace dL:=eW.keep dL (fun h=>by first|exact dy.ej dL h|exact dy.eM dL (by decide) h|(have:=(dy.base _ h).1;omega));have:=ak cU;replace cO:=(eW.mem _ this).2 cO;replace cU:=eW.keep cU (fun h=>by first|exact dy.ej cU h|exact dy.eM cU (by decide) h|(have:=(dy.base _ h).1;omega));replace dq:=dq.le (by decide) eW.le;replace dJ:=dJ.le eW.le;replace fk:=fk.le eW.le;replace fX:=fX.le eW.le;replace hM:=eW.lt hM;have:=S.size;replace S:=S.cV eW dy Lz;replace dy:=FN;refine bO (o':=1) a8 rfl rfl uP (by decide) rfl rfl ?_;refine cu (M:=my) uP rfl rfl cU rfl ((by obtain⟨_,_,he,_⟩:=dy.isSlice;rw[he];rfl)) cO (fun LB Dn gD=>?_);change LB.heap[_]? =some (Obj.cells #[.int .i64 d.1,fU] _ _)at Dn;have:=ak g2;replace dD:=(gD.mem _ this).2 dD;replace g2:=gD.keep g2 (fun hk=>by have hk:_=_:=hk;omega);have:=ak g3;replace eV:=(gD.mem _ this).2 eV;replace g3:=gD.keep g3 (fun hk=>by have hk:_=_:=hk;omega);have:=ak dL;replace dd:=(gD.mem _ this).2 dd;replace dL:=gD.keep dL (fun hk=>by have hk:_=_:=hk;omega);have:=ak cU;replace cO:=(gD.mem _ this).2 cO;replace dq:=dq.le (by decide) gD.le;replace dJ:=dJ.le gD.le;replace fk:=fk.le gD.le;replace fX:=fX.le gD.le;replace dy:=dy.step gD (fun b hb hk=>by have hk:_=_:=hk;have:=(dy.base b hb);omega);replace hM:=gD.lt hM
     have:=S.size;replace S:=S.trans gD (fun k hk h=>by have h:_=_:=h;subst h;first|(exfalso;omega)|(show _≤_;omega)|exact⟨by first|omega|assumption,(S.mem _ hk).1 ((gD.mem _ (ak cU)).1 cO)⟩|exact .inl rfl|exact .inr rfl|exact .inr (.inl rfl)|exact .inr (.inr rfl)|exact .inr (.inr (.inl rfl))|exact rfl);have jn:=Dn;clear cU;have cU:=jn;clear jn;refine ab (aj (ae (iq (vs:=[.int .i64 d.1,fU]) a8 rfl ou rfl rfl rfl cU ?_)));have rC:=dy.view (hn:=by decide) (by simp;omega);replace dD:rm my fU _:=⟨dD,by first|exact dy.eM g2 (by decide)|(intro h;have:=(dy.base _ h).1;omega)⟩;replace eV:rm my fU _:=⟨eV,by first|exact dy.eM g3 (by decide)|(intro h;have:=(dy.base _ h).1;omega)⟩;replace dd:rm my fU _:=⟨dd,by first|exact dy.eM dL (by decide)|(intro h;have:=(dy.base _ h).1;omega)⟩;replace cO:rm my fU _:=⟨cO,by first|exact dy.eM cU (by decide)|(intro h;have:=(dy.base _ h).1;omega)⟩;replace dq:=dq.le (by decide) (eH _ fU _);replace dJ:=dJ.le (eH _ fU _);replace fk:=fk.le (eH _ fU _);replace fX:=fX.le (eH _ fU _);replace hM:Lt (rm my fU) _:=fun b hb=>hM b hb.1
     replace S:=S.freeze (v:=fU) (fun b hb=>by have:=(dy.base b hb).1;omega);clear dy;refine aW rfl rfl E94 (As (d:=(d.1,[]++out++[fixF i x])) _ hM (eT (fI hdi) rC rfl rfl rfl rfl) (fun y hy=>by have:=(A4.snoc Rv) y (by simpa using hy);omega)) (fun r14 Uk hc=>?_);obtain⟨rfl,jQ⟩:=hc;rw[fM]at rC;have:=ak g2;replace dD:=(jQ.mem _ this).2 dD;replace g2:=jQ.aK g2;have:=ak g3;replace eV:=(jQ.mem _ this).2 eV;replace g3:=jQ.aK g3;have:=ak dL;replace dd:=(jQ.mem _ this).2 dd;replace dL:=jQ.aK dL;have:=ak cU;replace cO:=(jQ.mem _ this).2 cO;replace cU:=jQ.aK cU;replace dq:=dq.le (by decide) jQ.le;replace dJ:=dJ.le jQ.le;replace fk:=fk.le jQ.le;replace fX:=fX.le jQ.le;replace rC:=rC.le jQ.le;replace hM:=jQ.lt hM;have:=S.size;replace S:=S.aB jQ;refine tc rfl rfl rfl (aU (v':= .bool (decide (lK (d.1,out++[fixF i x])=0))) (by rw[fM]) (ab ?_));refine bN rfl (fun Cm=>?_) (fun Cm=>?_)
     ·refine ae (iq (vs:=[.int .i64 d.1,fU]) a8 rfl ou rfl rfl rfl cU ?_);refine dY (M:=rm my fU) (vs:=[.int .i64 d.1,fU]) ou rfl rfl (by intro u hu;simp at hu;rcases hu with rfl|rfl<;>first|rfl|exact mT (by assumption) rfl rfl) rfl rfl g3 eV (fun aex LC jR=>?_);have:=ak g2;replace dD:=(jR.mem _ this).2 dD;replace g2:=jR.keep g2 (fun hk=>by have hk:_=_:=hk;omega);have:=ak g3;replace eV:=(jR.mem _ this).2 eV;have:=ak dL;replace dd:=(jR.mem _ this).2 dd;replace dL:=jR.keep dL (fun hk=>by have hk:_=_:=hk;omega);have:=ak cU;replace cO:=(jR.mem _ this).2 cO;replace cU:=jR.keep cU (fun hk=>by have hk:_=_:=hk;omega);replace dq:=dq.le (by decide) jR.le;replace dJ:=dJ.le jR.le;replace fk:=fk.le jR.le;replace fX:=fX.le jR.le;replace rC:=rC.le jR.le;replace hM:=jR.lt hM;have:=S.size;replace S:=S.trans jR (fun k hk h=>by have h:_=_:=h;subst h;first|(exfalso;omega)|(show _≤_;omega)|exact⟨by first|omega|assumption,(S.mem _ hk).1 ((jR.mem _ (ak g3)).1 eV)⟩|exact .inl rfl|exact .inr rfl|exact .inr (.inl rfl)|exact .inr (.inr rfl)|exact .inr (.inr (.inl rfl))|exact rfl);have Yw:=LC;clear g3;have g3:=Yw;clear Yw;refine ab (ae (ad rfl rfl (bD rfl rfl rfl (by omega) (ah rfl rfl (ab ?_)))));refine⟨rfl,(i+1,out++[fixF i x]),(.cons rfl (.cons rfl (.cons rfl (.cons rfl (.cons rfl .nil))))),?_,?_⟩
      ·exact⟨_,_,hM,S,dq,dJ,g2,dD,g3,eV,rC,by rw[oR,hga,if_pos Cm],by dsimp only;omega,by dsimp only;omega,A4.snoc Rv,by simp;omega⟩
      ·dsimp only;omega
     ·refine aT (ae (ad rfl rfl (bD rfl rfl rfl (by omega) (ah rfl rfl (ab ?_)))));refine⟨rfl,(i+1,out),(.cons rfl (.cons rfl (.cons rfl (.cons rfl (.cons rfl .nil))))),?_,?_⟩
      ·exact⟨_,_,hM,S,dq,dJ,g2,dD,g3,eV,fk,by rw[oR,hga,if_neg Cm],by dsimp only;omega,by dsimp only;omega,A4,by dsimp only;omega⟩
      ·dsimp only;omega
   ·refine cI (aj (ae (iq (vs:=[.int .i64 d.1,uo]) a8 rfl ou rfl rfl rfl g3 ?_)));refine dY (M:=M1) (vs:=[.int .i64 d.1,uo]) ou rfl rfl (by intro u hu;simp at hu;rcases hu with rfl|rfl<;>first|rfl|exact mT (by assumption) rfl rfl) rfl rfl g2 dD (fun aey LD oU=>?_);have:=ak g2;replace dD:=(oU.mem _ this).2 dD;have:=ak g3;replace eV:=(oU.mem _ this).2 eV;replace g3:=oU.keep g3 (fun hk=>by have hk:_=_:=hk;omega);replace dq:=dq.le (by decide) oU.le;replace dJ:=dJ.le oU.le;replace fk:=fk.le oU.le;replace hM:=oU.lt hM;have:=S.size;replace S:=S.trans oU (fun k hk h=>by have h:_=_:=h;subst h;first|(exfalso;omega)|(show _≤_;omega)|exact⟨by first|omega|assumption,(S.mem _ hk).1 ((oU.mem _ (ak g2)).1 dD)⟩|exact .inl rfl|exact .inr rfl|exact .inr (.inl rfl)|exact .inr (.inr rfl)|exact .inr (.inr (.inl rfl))|exact rfl);have LF:=LD;clear g2;have g2:=LF;clear LF;refine ab (aQ ?_);have e:px d=(d.1,out):=by rw[px,oR,Au (by omega)]
    rw[e];refine Bf (vs:=[.int .i64 d.1,uo]) rfl rfl a8 rfl ou rfl g2 ⟨eT (fI hdi) (fk.le (Le.close kr S)) rfl rfl rfl rfl,S.back⟩
  ·refine ar rfl rfl rfl rfl (ar rfl rfl rfl rfl (aE rfl rfl rfl (ab (iX rfl (cI (aj (ae (iq (vs:=[.int .i64 d.1,uo]) a8 rfl ou rfl rfl rfl g3 ?_))))))));refine dY (M:=M1) (vs:=[.int .i64 d.1,uo]) ou rfl rfl (by intro u hu;simp at hu;rcases hu with rfl|rfl<;>first|rfl|exact mT (by assumption) rfl rfl) rfl rfl g2 dD (fun aey LD oU=>?_);have:=ak g2;replace dD:=(oU.mem _ this).2 dD;have:=ak g3;replace eV:=(oU.mem _ this).2 eV;replace g3:=oU.keep g3 (fun hk=>by have hk:_=_:=hk;omega);replace dq:=dq.le (by decide) oU.le;replace dJ:=dJ.le oU.le;replace fk:=fk.le oU.le;replace hM:=oU.lt hM;have:=S.size;replace S:=S.trans oU (fun k hk h=>by have h:_=_:=h;subst h;first|(exfalso;omega)|(show _≤_;omega)|exact⟨by first|omega|assumption,(S.mem _ hk).1 ((oU.mem _ (ak g2)).1 dD)⟩|exact .inl rfl|exact .inr rfl|exact .inr (.inl rfl)|exact .inr (.inr rfl)|exact .inr (.inr (.inl rfl))|exact rfl);have LF:=LD;clear g2;have g2:=LF;clear LF;refine ab (aQ ?_);have e:px d=(d.1,out):=by rw[px,oR,Au (by omega)]
   rw[e];refine Bf (vs:=[.int .i64 d.1,uo]) rfl rfl a8 rfl ou rfl g2 ⟨eT (fI hdi) (fk.le (Le.close kr S)) rfl rfl rfl rfl,S.back⟩
end Go.K
namespace Go.K
open Go.Proofs
set_option maxRecDepth 10000
def ep (l:List Dc) (from_ step:Int):Nat→List En
 |0=>[]
 |k+1=>ep l from_ step k++(match l[k]? with|some d=>[(px d,from_+step*(k:Int))]|none=>[])
theorem lV (l:List Dc) (a s:Int):∀k,(ep l a s k).length=min k l.length
 |0=>by simp[ep]
 |k+1=>by
  rw[ep,bj,lV l a s k]
  cases h:l[k]? with
  |none=>have:=List.getElem?_eq_none_iff.1 h;simp;omega
  |some d=>have:=(ao.1 h).1;simp;omega
theorem yp {l:List Dc} {a s:Int} {k:Nat} {d:Dc} (h:l[k]? =some d):ep l a s (k+1)=ep l a s k++[(px d,a+s*(k:Int))]:=by rw[ep,h]
theorem yq {l:List Dc} {a s:Int} {k:Nat} (h:l.length≤k):ep l a s (k+1)=ep l a s k:=by
 rw[ep,List.getElem?_eq_none_iff.2 h];simp
theorem Dp {l:List Dc} {a s:Int} {n i:Nat} (h:l.length≤i∨n≤i) (h1:i≤n):ep l a s i=ep l a s n:=by
 induction n with
 |zero=>have:i=0:=by omega
        rw[this]
 |succ n ih=>
  rcases lj h1 with e|dQ
  ·rw[e]
  ·rcases h with h|h
   ·rw[yq (by omega)];exact ih (.inl h) (by omega)
   ·omega
theorem Px {s k:Int} (h:0≤s∧s≤1000) (hk:0≤k∧k≤100):0≤s*k∧s*k≤100000:=
 ⟨Int.mul_nonneg h.1 hk.1,Int.le_trans (Int.mul_le_mul h.2 hk.2 hk.1 (by omega)) (by omega)⟩
theorem FO {M:aC} {l:List Dc} {v0:Value} {most:Nat} {a s:Int} (w0:World) (hM:Lt M w0) (hv:(RT.dc.sl).V M w0 l v0) (hm:most≤100) (ha:0≤a∧a≤1000000) (hs:0≤s∧s≤1000):
  Spec Tryz.prog 12 #[v0,.int .i64 (most:Int),.int .i64 a,.int .i64 s] w0 (fun v w=>(RT.en.sl).V M w (ep l a s most) v∧Step M w0 M w aD):=by
 have kr:=hM;refine bg (args:=[_,_,_,_]) (fn:=Tryz.f12) Tryz.func12 rfl (n:=37) Tryz.ntmps12 ?_;have S:Step M w0 M w0 aD:=(aw _ _).cF (fun _ h=>h.elim) (fun _ h=>h.elim);refine aj (ae (ah rfl rfl (ab (aj (ae (ah rfl rfl (ab (aj (aj (ae (ah rfl rfl ?_)))))))))));refine ab (aZ ?_);refine dn (σ:=Nat×Value) (fun q=>[(0,v0),(1,.int .i64 (most:Int)),(2,.int .i64 a),(3,.int .i64 s),(9,q.2),(10,.int .i64 (q.1:Int))]) (fun q w=>∃M',Lt M' w∧Step M w0 M' w aD∧Own RT.en 71 M' w w0.heap.size q.2 (ep l a s q.1)∧(RT.dc.sl).V M' w l v0∧q.1≤most∧q.1≤l.length) (fun q=>most-q.1) (0,.slice none 0 0) (.cons rfl (.cons rfl (.cons rfl (.cons rfl (.cons rfl (.cons rfl .nil)))))) ?_ ?_
 ·exact⟨M,hM,S,dz _ _ _ _ _,hv,bG _,bG _⟩
 ·rintro⟨i,u⟩ w ⟨M1,hM,S,ho,hv,hi,ot⟩;dsimp only at ho hi ot ⊢;refine aj (aj (ae (ad rfl rfl (ad rfl rfl (bR Tryz.underlying22 rfl hv rfl (cn rfl rfl rfl (ad rfl rfl ?_)))))));refine aN (g:=15) rfl (fun aez=>?_) (fun aez=>?_)
  ·refine al rfl rfl (ad rfl rfl (al rfl rfl (ad rfl rfl (al rfl rfl (cn rfl rfl rfl (aX rfl rfl rfl (ab ?_)))))));refine bN rfl (fun c3=>?_) (fun c3=>?_)
   ·refine aT (aj (aZ (ae (ad rfl rfl (ad rfl rfl (ad rfl rfl ?_))))));refine cE (M:=M1) Tryz.underlying22 ou rfl rfl rfl hv (aq _ _) (by omega) (fun u5 d IN C0=>?_);rw[ay]at IN;have IY:=Px (k:=(i:Int)) hs (by omega);refine dg (M:=M1) (A:=RT.dc) a8 rfl ou (by decide) rfl rfl rfl C0 (aq _ _) (fun v5 pU=>?_);refine aW rfl rfl E44 (IX _ hM pU) (fun r5 w5 hc=>?_);obtain⟨oR,s5⟩:=hc;replace hv:=hv.le s5.le;replace ho:=ho.aM s5;replace hM:=s5.lt hM;have:=S.size;replace S:=S.aB s5;refine ad rfl rfl (ad rfl rfl (ad rfl rfl (Rg.OS rfl rfl rfl (by omega) (bD rfl rfl rfl (by omega) ?_))));obtain⟨uf,rfl⟩:=Lg oR;refine iI (places:=[(0,2),(2,1)]) dG EW B71 rfl ⟨_,_,rfl,rfl,_,_,rfl,rfl,rfl⟩ (out:=[_,_,_]) ⟨0,[_,_],rfl,rfl,by simp[Value.cells],2,[_],rfl,rfl,by simp[Value.cells],rfl⟩ ?_;refine eg (A:=RT.en) (hn:=by decide) (M:=M1) ff EW (by decide) rfl rfl hM (show RT.en.V _ _ (px d,a+s*(i:Int)) _ from Rl oR (by omega)) (.inl rfl) (fun aj5 aj6 FP Dq=>?_);replace hv:=hv.le Dq.le;replace oR:=oR.le Dq.le;replace ho:=ho.aM Dq;replace hM:=Dq.lt hM;have:=S.size;replace S:=S.aB Dq;refine cX (M:=M1) (base:=w0.heap.size) ff EW rfl rfl rfl rfl ho FP (aq _ _) (by have:=lV l a s i;simp;omega) (by have:=lV l a s i;simp;omega) (S.size) (fun Yx Yy aj7 Ul Dr=>?_);replace hv:=hv.le Dr.le;replace oR:=oR.le Dr.le;replace FP:=FP.le Dr.le;replace hM:=Dr.lt hM;have:=S.size;replace S:=S.cV Dr ho (aO _);replace ho:=Ul;refine ah rfl rfl (ab (ae (ad rfl rfl (bD rfl rfl rfl (by omega) (ah rfl rfl (ab ?_))))));refine⟨rfl,(i+1,Yx),(.cons rfl (.cons rfl (.cons rfl (.cons rfl (.cons rfl (.cons rfl .nil)))))),?_,?_⟩
    ·exact⟨Yy,hM,S,by rw[yp IN];exact ho,hv,by dsimp only;omega,by dsimp only;omega⟩
    ·dsimp only;omega
   ·refine cI (aj (ae (ad rfl rfl (ah rfl rfl (ab (aQ ?_))))));rw[←Dp (i:=i) (n:=most) (by omega) hi];exact aV rfl rfl ⟨ho.close kr S (by have:=lV l a s i;omega),S.back⟩
  ·refine ar rfl rfl rfl rfl (ar rfl rfl rfl rfl (ar rfl rfl rfl rfl (aE rfl rfl rfl (ab (iX rfl (cI (aj (ae (ad rfl rfl (ah rfl rfl (ab ?_)))))))))));refine aQ ?_;rw[←Dp (i:=i) (n:=most) (by omega) hi];exact aV rfl rfl ⟨ho.close kr S (by have:=lV l a s i;omega),S.back⟩
end Go.K
namespace Go.K
open Go.Maps (Keyed)
structure fE (P:Program) (kt:TypeId) (w:World) (b:Nat) (es:List MapEntry) (clock:Nat):Prop where
 at_:w.heap[b]? =some (.map es.toArray clock)
 born:es.Pairwise fun x y=>x.born≠y.born
 lt:∀e∈es,e.born<clock
 keys:es.Pairwise fun x y=>x.key≠y.key
 ok:∀e∈es,∃l,keyOf P kt e.key=some l
def ew (zv:Value) (es:List MapEntry) (key v:Value):Prop:=(∃e∈es,e.key=key∧v=e.val)∨((∀e∈es,e.key≠key)∧v=zv)
section
variable {P:Program} {kt:TypeId} {w:World} {b clock:Nat} {es:List MapEntry}
theorem fE.step {M M' N:aC} {w':World} (h:fE P kt w b es clock) (s:Step M w M' w' N) (hn: ¬N b):fE P kt w' b es clock:=⟨s.keep h.at_ hn,h.born,h.lt,h.keys,h.ok⟩
theorem fE.aM {M M':aC} {w':World} (h:fE P kt w b es clock) (s:Step M w M' w' aD):fE P kt w' b es clock:=h.step s fun h=>h
theorem iE {α:Type} {R:α→α→Prop} {l:List α} (h:l.Pairwise R) {i j:Nat} {x y:α} (hi:l[i]? =some x) (hj:l[j]? =some y) (jf:i<j):R x y:=by
 obtain⟨h1,h2⟩:=ao.1 hi;obtain⟨h3,h4⟩:=ao.1 hj;have:=cD.1 h i j h1 h3 jf
 rwa [h2,h4]at this
theorem fE.Hy (h:fE P kt w b es clock) {x y:MapEntry} (hx:x∈es) (hy:y∈es) (e:x.key=y.key):x=y:=by
 obtain⟨i,hi⟩:=bE.1 hx;obtain⟨j,hj⟩:=bE.1 hy;rcases fa i j with h1|h1|h1
 ·exact absurd e (iE h.keys hi hj h1)
 ·subst h1;rw[hi]at hj;exact aI hj
 ·exact absurd e.symm (iE h.keys hj hi h1)
theorem fE.Ds (h:fE P kt w b es clock) {i j:Nat} {x y:MapEntry} (hi:es[i]? =some x) (hj:es[j]? =some y) (e:x.born=y.born):i=j:=by
 rcases fa i j with h1|h1|h1
 ·exact absurd e (iE h.born hi hj h1)
 ·exact h1
 ·exact absurd e.symm (iE h.born hj hi h1)
theorem fE.val_one (h:fE P kt w b es clock) {zv key v v':Value} (h1:ew zv es key v) (h2:ew zv es key v'):v=v':=by
 rcases h1 with⟨e,he,hk,hv⟩|⟨hn,hv⟩
 ·rcases h2 with⟨e',qn,tj,rq⟩|⟨IZ,_⟩
  ·have:=h.Hy he qn (hk.trans tj.symm);rw[hv,rq,this]
  ·exact absurd hk (IZ e he)
 ·rcases h2 with⟨e',qn,tj,_⟩|⟨_,rq⟩
  ·exact absurd tj (hn e' qn)
  ·rw[hv,rq]
theorem dM {r:Nat} {a:Array MapEntry} {c:Nat} (hb:w.heap[r]? =some (.map a c)):(getObj r).run P w= .ok (.map a c) w:=by simp[getObj,Sem.run,hb]
theorem run_setObj_map {r:Nat} {a:Array MapEntry} {c:Nat} {o:Obj} (hb:w.heap[r]? =some (.map a c)):(setObj r o).run P w= .ok () {w with heap:=w.heap.setIfInBounds r o}:=by simp[setObj,Sem.run,hb]
theorem fE.push (h:fE P kt w b es clock) {key v:Value} {kl:Lit} (ly:keyOf P kt key=some kl) (hn:∀e∈es,e.key≠key) {w':World} (hw:w'.heap[b]? =some (.map (es++([⟨key,v,clock⟩]:List MapEntry)).toArray (clock+1))):fE P kt w' b (es++[⟨key,v,clock⟩]) (clock+1):=
 ⟨hw,ng.2 ⟨h.born,List.pairwise_singleton _ _,fun x hx y hy=>by rw[bH.1 hy];have:=h.lt x hx;show x.born≠clock;omega⟩,(fun e he=>by
  rcases cq.1 he with he|he
  ·have:=h.lt e he;omega
  ·rw[bH.1 he];exact Nat.lt_succ_self _),ng.2 ⟨h.keys,List.pairwise_singleton _ _,fun x hx y hy=>by rw[bH.1 hy];exact hn x hx⟩,(fun e he=>by
  rcases cq.1 he with he|he
  ·exact h.ok e he
  ·rw[bH.1 he];exact⟨kl,ly⟩)⟩
theorem ew.push {zv key:Value} {s:Nat} (hn:∀e∈es,e.key≠key) (jo v':Value):ew zv (es++[⟨key,zv,s⟩]) jo v'↔ew zv es jo v':=by
 constructor
 ·rintro(⟨e,he,hk,hv⟩|⟨h1,h2⟩)
  ·rcases cq.1 he with he|he
   ·exact .inl ⟨e,he,hk,hv⟩
   ·rw[bH.1 he]at hk hv;exact .inr ⟨fun e he=>by rw[←hk];exact hn e he,hv⟩
  ·exact .inr ⟨fun e he=>h1 e (gw _ he),h2⟩
 ·rintro(⟨e,he,hk,hv⟩|⟨h1,h2⟩)
  ·exact .inl ⟨e,gw _ he,hk,hv⟩
  ·by_cases hk:key=jo
   ·exact .inl ⟨⟨key,zv,s⟩,by simp,hk,h2⟩
   ·exact .inr ⟨fun e he=>by
     rcases cq.1 he with he|he
     ·exact h1 e he
     ·rw[bH.1 he];exact hk,h2⟩
end
section
variable {P:Program} {r:Option Nat} {n:Nat} {L:Sl} {ds:List Deferred} {w:World} {K:Kt} {ops:Array Oper} {rest:List Oper} {d:Nat} {x y z:Operand} {ty:TypeId} {pos:String} {af:Array Edge}
variable {kt:TypeId} {M:aC} {b clock:Nat} {es:List MapEntry}
theorem Rg.Dt {t e:TypeId} (M:aC) (ht:P.underlying t=some (.map kt e)) (hd:Nat.blt d n=true)
  (k:∀b w',w.heap.size≤b→b<w'.heap.size→fE P kt w' b [] 0→Step M w (ins M b) w' aD→Rg P r n ops rest ((d,.map (some b))::L) ds w' K):
  Rg P r n ops ({dst:=some d,op:= .makeMap t none,type:=ty,pos,after:=af,guard:=none}::rest) L ds w K:=by
 refine .op (fun _ h=>by cases h) rfl rfl hd (.map (some w.heap.size)) (w.alloc (.map #[] 0)) (fun ρ hρ=>?_) (k w.heap.size _ (aO _) (by simp) ⟨ch w _,List.Pairwise.nil,(fun e he=>by cases he),List.Pairwise.nil,(fun e he=>by cases he)⟩ ((cQ M w _).own (aO _) (by simp)));simp only[execOp];simp[Instr.makeMap,newObj,Sem.run,run_underlying ht]
theorem Rg.mapEntry {t e:TypeId} {zv key:Value} {size bytes:Nat} {kl:Lit} (ht:P.underlying t=some (.map kt e)) (Kk:Keyed P kt) (hi:TI P e zv size bytes) (hx:ev L x=some (.map (some b))) (hy:ev L y=some key) (hd:Nat.blt d n=true) (ly:keyOf P kt key=some kl) (h:fE P kt w b es clock) (hm:M b)
  (k:∀w' py FQ v s,fE P kt w' b py FQ→ew zv es key v→(⟨key,v,s⟩:MapEntry)∈py→(∀jo v',ew zv py jo v'↔ew zv es jo v')→((py.map (·.key)=es.map (·.key)∧∃e∈es,e.key=key)∨(py.map (·.key)=es.map (·.key)++[key]∧∀e∈es,e.key≠key))→Step M w M w' (fun k=>k=b)→Rg P r n ops rest ((d,.tuple #[v,.int .i64 (s:Nat)])::L) ds w' K):
  Rg P r n ops ({dst:=some d,op:= .mapEntry t x y,type:=ty,pos,after:=af,guard:=none}::rest) L ds w K:=by
 have dQ:=ak h.at_;rcases Kk.find w ly es h.ok with⟨h1,h2⟩|⟨j,e0,h1,h2,h3⟩
 ·obtain⟨inf,i1,i2,_,_⟩:=hi.get;have hz:(zeroValue e).run P w= .ok zv w:=by simp[zeroValue,typeInfo,i1,i2]
  have hw:({w with heap:=w.heap.setIfInBounds b (.map (es.toArray.push ⟨key,zv,clock⟩) (clock+1))}:World).heap[b]? =some (.map (es++([⟨key,zv,clock⟩]:List MapEntry)).toArray (clock+1)):=by
   simp[dA,dQ]
  refine .op (fun _ h=>by cases h) rfl rfl hd _ _ (fun ρ hρ=>?_) (k _ _ _ zv clock (h.push ly h2 hw) (Or.inr ⟨h2,rfl⟩) (by simp) (ew.push h2) (Or.inr ⟨by simp,h2⟩) (jm M hm));simp only[execOp,hρ x _ hx,hρ y _ hy,Instr.mapEntry,cj,run_underlying ht,cB,dM h.at_,Kk.check w false ly,h1,hz,run_setObj_map h.at_];simp[goInt]
 ·have he:e0∈es:=az h2
  have LG:es.toArray.modify j (fun e=>{e with key:=key})=es.toArray:=by
   apply Array.ext_getElem?;intro i;rw[jE]
   split
   ·rename_i Rz
    subst Rz;simp only[dX,h2,db];rw[←h3]
   ·rfl
  have hw:({w with heap:=w.heap.setIfInBounds b (.map es.toArray clock)}:World).heap[b]? =some (.map es.toArray clock):=by simp[dA,dQ]
  have hj:es.toArray[j]? =some e0:=by simpa using h2
  have ky:(Instr.keyThatStays ((Option.map (fun(e:MapEntry)=>e.key) es.toArray[j]?).getD key) key).run P w= .ok key w:=by
   rw[hj];simp only[db,Option.getD_some,h3];exact Kk.stays w ly
  refine .op (fun _ h=>by cases h) rfl rfl hd _ _ (fun ρ hρ=>?_) (k _ es clock e0.val e0.born ⟨hw,h.born,h.lt,h.keys,h.ok⟩ (Or.inl ⟨e0,he,h3,rfl⟩) (by rw[←h3];exact he) (fun _ _=>Iff.rfl) (Or.inl ⟨rfl,e0,he,h3⟩) (jm M hm));simp only[execOp,hρ x _ hx,hρ y _ hy,Instr.mapEntry,cj,run_underlying ht,cB,dM h.at_,Kk.check w false ly,h1,ky,LG,run_setObj_map h.at_];simp[goInt,hj]
theorem Rg.entryStore {t:TypeId} {key v0 val:Value} {s:Nat} (hx:ev L x=some (.map (some b))) (hy:ev L y=some (.int .i64 (s:Int))) (hz:ev L z=some val) (h:fE P kt w b es clock) (hm:M b) (kg:(⟨key,v0,s⟩:MapEntry)∈es)
  (k:∀w' py,fE P kt w' b py clock→py.map (·.key)=es.map (·.key)→(∀zv jo v',ew zv py jo v'↔(jo=key∧v'=val)∨(jo≠key∧ew zv es jo v'))→Step M w M w' (fun k=>k=b)→Rg P r n ops rest L ds w' K):
  Rg P r n ops ({dst:=none,op:= .entryStore t x y z,type:=ty,pos,after:=af,guard:=none}::rest) L ds w K:=by
 have dQ:=ak h.at_;obtain⟨i,hi⟩:=bE.1 kg;have ot:=(ao.1 hi).1
 have aeA:es.toArray.findIdx? (fun e=>(e.born:Int)==(s:Int))=some i:=by
  rw[List.findIdx?_toArray,List.findIdx?_eq_some_iff_getElem];refine⟨ot,by rw[(ao.1 hi).2];simp,fun j hj=>?_⟩;have wT:j<es.length:=by omega
  have:=fun e=>h.Ds (au wT) hi e
  simp only[Bool.not_eq_true,beq_eq_false_iff_ne,ne_eq];intro e;have e2:((es[j]).born:Int)=(s:Int):=by simpa using e
  have:=this (by show(es[j]).born=s;omega);omega
 obtain⟨py,uV⟩:∃py,py=es.set i ⟨key,val,s⟩:=⟨_,rfl⟩
 have LG:es.toArray.modify i (fun e=>{e with val:=val})=py.toArray:=by
  apply Array.ext_getElem?;intro j;rw[jE,uV];simp only[dX,dr]
  split
  ·rename_i Rz
   subst Rz;rw[hi];simp
  ·rfl
 have iY:∀j e',py[j]? =some e'→(j=i∧e'=⟨key,val,s⟩)∨(j≠i∧es[j]? =some e'):=fun j e' hj=>by
  rw[uV,dr]at hj
  split at hj
  ·rename_i jf
   left;exact⟨jf.symm,by simpa[ot]using hj.symm⟩
  ·rename_i jf
   exact .inr ⟨fun e=>jf e.symm,hj⟩
 have pz:py.map (·.key)=es.map (·.key):=by
  rw[uV,List.map_set];apply eZ;intro j;rw[dr]
  split
  ·rename_i jf
   subst jf;have e:=(ao.1 hi).2;simp[ot,e]
  ·rfl
 have LH:py.map (·.born)=es.map (·.born):=by
  rw[uV,List.map_set];apply eZ;intro j;rw[dr]
  split
  ·rename_i jf
   subst jf;have e:=(ao.1 hi).2;simp[ot,e]
  ·rfl
 have hw:({w with heap:=w.heap.setIfInBounds b (.map py.toArray clock)}:World).heap[b]? =some (.map py.toArray clock):=by simp[dA,dQ]
 have eL:∀e'∈py,(e'=⟨key,val,s⟩)∨(e'∈es∧e'.key≠key):=fun e' qn=>by
  obtain⟨j,hj⟩:=bE.1 qn;rcases iY j e' hj with⟨_,e⟩|⟨eN,xI⟩
  ·exact .inl e
  ·refine .inr ⟨az xI,fun e=>eN ?_⟩;rcases fa j i with h1|h1|h1
   ·exact absurd e (iE h.keys xI hi h1)
   ·exact h1
   ·exact absurd e.symm (iE h.keys hi xI h1)
 have LI:(⟨key,val,s⟩:MapEntry)∈py:=az (i:=i) (by rw[uV,dr];simp[ot])
 have hold:∀e'∈es,e'.key≠key→e'∈py:=fun e' qn eN=>by
  obtain⟨j,hj⟩:=bE.1 qn;refine az (i:=j) ?_;rw[uV,dr,if_neg]
  ·exact hj
  ·rintro rfl;rw[hi]at hj;cases hj;exact eN rfl
 have hW:fE P kt {w with heap:=w.heap.setIfInBounds b (.map py.toArray clock)} b py clock:=by
  refine⟨hw,?_,fun e' qn=>?_,?_,fun e' qn=>?_⟩
  ·have:=cA.2 h.born;rw[←LH]at this;exact cA.1 this
  ·rcases eL e' qn with e|⟨h1,_⟩
   ·rw[e];exact(h.lt _ kg:s<clock)
   ·exact h.lt _ h1
  ·have:=cA.2 h.keys;rw[←pz]at this;exact cA.1 this
  ·rcases eL e' qn with e|⟨h1,_⟩
   ·rw[e];exact(h.ok _ kg:∃l,keyOf P kt key=some l)
   ·exact h.ok _ h1
 refine .QV (fun _ h=>by cases h) rfl rfl _ (fun ρ hρ=>?_) (k _ py hW pz (fun zv jo v'=>?_) (jm M hm))
 ·simp only[execOp,hρ x _ hx,hρ y _ hy,hρ z _ hz,Instr.entryStore,cj,dM h.at_,cB,asInt,asIntOf,Sem.run_pure,aeA,LG,run_setObj_map h.at_]
 ·constructor
  ·rintro(⟨e',qn,hk,hv⟩|⟨h1,h2⟩)
   ·rcases eL e' qn with e|⟨h3,h4⟩
    ·subst e;exact .inl ⟨hk.symm,hv⟩
    ·exact .inr ⟨by rw[←hk];exact h4,.inl ⟨e',h3,hk,hv⟩⟩
   ·have eN:jo≠key:=fun e=>h1 _ LI e.symm
    exact .inr ⟨eN,.inr ⟨fun e' qn=>fun e=>by
     by_cases h5:e'.key=key
     ·exact eN (e.symm.trans h5)
     ·exact h1 e' (hold e' qn h5) e,h2⟩⟩
  ·rintro(⟨rfl,rfl⟩|⟨eN,⟨e',qn,hk,hv⟩|⟨h1,h2⟩⟩)
   ·exact .inl ⟨_,LI,rfl,rfl⟩
   ·exact .inl ⟨e',hold e' qn (by rw[hk];exact eN),hk,hv⟩
   ·exact .inr ⟨fun e' qn=>by
     rcases eL e' qn with e|⟨h3,_⟩
     ·rw[e];exact fun e=>eN e.symm
     ·exact h1 e' h3,h2⟩
theorem Rg.tH {t e:TypeId} {zv key:Value} {size bytes:Nat} {kl:Lit} (ht:P.underlying t=some (.map kt e)) (Kk:Keyed P kt) (hi:TI P e zv size bytes) (hx:ev L x=some (.map (some b))) (hy:ev L y=some key) (hd:Nat.blt d n=true) (ly:keyOf P kt key=some kl) (h:fE P kt w b es clock)
  (k:∀v,ew zv es key v→Rg P r n ops rest ((d,v)::L) ds w K):
  Rg P r n ops ({dst:=some d,op:= .lookup t x y false,type:=ty,pos,after:=af,guard:=none}::rest) L ds w K:=by
 rcases Kk.find w ly es h.ok with⟨h1,h2⟩|⟨j,e0,h1,h2,h3⟩
 ·obtain⟨inf,i1,i2,_,_⟩:=hi.get;have hz:(zeroValue e).run P w= .ok zv w:=by simp[zeroValue,typeInfo,i1,i2]
  refine .op (fun _ h=>by cases h) rfl rfl hd zv w (fun ρ hρ=>?_) (k zv (Or.inr ⟨h2,rfl⟩));simp only[execOp,hρ x _ hx,hρ y _ hy,Instr.lookup,cj,run_underlying ht,cB,dM h.at_,Sem.run_pure,Kk.check w _ ly,h1,hz];simp
 ·refine .op (fun _ h=>by cases h) rfl rfl hd e0.val w (fun ρ hρ=>?_) (k e0.val (Or.inl ⟨e0,az h2,h3,rfl⟩));simp only[execOp,hρ x _ hx,hρ y _ hy,Instr.lookup,cj,run_underlying ht,cB,dM h.at_,Sem.run_pure,Kk.check w _ ly,h1];simp
end
end Go.K
namespace Go.K
open Go.Proofs
set_option maxRecDepth 10000
open Go.Maps (Keyed)
def kv (t:Fd):Value:= .agg #[.string ⟨t.1.toArray⟩,.string ⟨t.2.toArray⟩]
theorem uW {a b:Fd} (h:kv a=kv b):a=b:=by
 unfold kv at h;simp only[Value.agg.injEq,Array.mk.injEq,List.cons.injEq,Value.string.injEq,ByteArray.mk.injEq,and_true]at h;exact Prod.ext h.1 h.2
theorem LJ:laidOutB Tryz.prog=true:=by kernel_rfl
theorem LK:Tryz.prog.types.size=383:=by kernel_rfl
theorem Av:Keyed Tryz.prog 78:=Keyed.of_law (deep_law_laid LJ (m:=2) (k:=78) (by omega) (by rw[LK];decide) (by kernel_rfl) (by kernel_rfl))
theorem Yz:Tryz.prog.keyType 78=true:=by kernel_rfl
theorem Hz:Tryz.prog.cellsOf 78=2:=by kernel_rfl
theorem Py:Tryz.prog.cellsOf 9=1:=by kernel_rfl
theorem LL (t:Fd) (h1:t.1.length≤140737488355328) (h2:t.2.length≤140737488355328):∃l,keyOf Tryz.prog 78 (kv t)=some l:=by
 have e1:(⟨t.1.toArray⟩:ByteArray).size=t.1.length:=by simp[ByteArray.size]
 have e2:(⟨t.2.toArray⟩:ByteArray).size=t.2.length:=by simp[ByteArray.size]
 have hs:∀(s:ByteArray),s.size≤maxLen→Tryz.prog.keyLits 383 9 [.string s]=some [.string s.data.toList]:=fun s hs=>by
  show(match Tryz.prog.underlying 9,[Value.string s]with|_,_=>_)=_;rw[aJ];exact if_pos hs
 unfold keyOf kv;rw[dH];simp only[Yz,Value.formed,dH,Hz,LK]
 have key:∃ls,Tryz.prog.keyLits (383+1) 78 [.string ⟨t.1.toArray⟩,.string ⟨t.2.toArray⟩]=some ls:=by
  unfold Program.keyLits;simp only[dH];rw[if_pos ⟨by rw[Hz];rfl,by kernel_rfl⟩];simp only[List.mapM_cons,List.mapM_nil,Py];have g1:=hs ⟨t.1.toArray⟩ (by rw[e1];unfold maxLen;omega);have g2:=hs ⟨t.2.toArray⟩ (by rw[e2];unfold maxLen;omega);refine⟨[.string (⟨t.1.toArray⟩:ByteArray).data.toList,.string (⟨t.2.toArray⟩:ByteArray).data.toList],?_⟩;simp only[List.drop_zero,List.drop_succ_cons,ox,List.take_zero,g1,g2];rfl
 obtain⟨ls,hls⟩:=key;exact⟨.string (keyBytes ls),by rw[if_pos (by simp)];show Option.map _ (Tryz.prog.keyLits (383+1) 78 [.string ⟨t.1.toArray⟩,.string ⟨t.2.toArray⟩])=_;rw[hls];rfl⟩
end Go.K
namespace Go.K
open Go.Proofs
set_option maxRecDepth 10000
def jq (x:Fd):List (Fd×Nat):=(words x.2).zipIdx.map fun p=>((x.1,p.1),p.2)
def cG (l:List Fd):List (Fd×Nat):=l.flatMap jq
theorem nV (x:Fd):(jq x).length=(words x.2).length:=by simp[jq]
theorem LM {x:Fd} {k:Nat} {y:List UInt8} (h:(words x.2)[k]? =some y):(jq x)[k]? =some ((x.1,y),k):=by
 simp[jq,List.getElem?_zipIdx,h]
theorem sH {fs:List Fd} {i:Nat} {x:Fd} (h:fs[i]? =some x):cG (fs.take (i+1))=cG (fs.take i)++jq x:=by
 rw[b9,h];simp[cG]
structure Um (P:Program) (g:FuncId) (cap:List Value) (B:Nat) (J:List (Fd×Nat)→aC→World→Prop):Prop where
 enters:Enters P g
 step:∀ts M w M' w',J ts M w→Step M w M' w' aD→J ts M' w'
 tell:∀ts M w (t:Fd) (i:Nat),J ts M w→Lt M w→t.1.length≤900000→t.2.length≤140737488355328→i≤1000000→ts.length≤10000000→Spec P g ([kv t,.int .i64 (i:Int)]++cap).toArray w (fun _ w'=>∃M',Lt M' w'∧J (ts++[(t,i)]) M' w'∧Step M w M' w' (lG M B))
theorem Aw {M:aC} {d:Dc} {v0:Value} {g:FuncId} {cap:List Value} {B:Nat} {J:List (Fd×Nat)→aC→World→Prop} (w0:World) (hM:Lt M w0) (hv:RT.dc.V M w0 d v0) (hl:∀f∈d.2,f.1.length≤900000∧f.2.length≤900000) (hd8:d.2.length≤8) (hT:Um Tryz.prog g cap B J) (hJ:J [] M w0):
  Spec Tryz.prog 132 #[v0,.func (.func g) #[] cap.toArray] w0 (fun v w=>∃M',Lt M' w∧J (cG d.2) M' w∧Step M w0 M' w (lG M B)):=by
 refine bg (args:=[_,_]) (fn:=Tryz.f132) Tryz.func132 rfl (n:=33) Tryz.ntmps132 ?_;have S:Step M w0 M w0 (lG M B):=(aw _ _).cF (fun _ h=>h.elim) (fun _ h=>h.2);refine aj (ae ?_);refine vK (A:=RT.dc) rfl rfl hM hv rfl (fun u0 w1 dq s0 _=>?_);replace hJ:=hT.step _ _ _ _ _ hJ s0;replace hM:=s0.lt hM;have:=S.size;replace S:=S.aB s0;refine ab (aj (ae ?_));refine aL (M:=M) (A:=RT.dc) (B:=(RT.fd).sl) a8 rfl rfl uP (by decide) (IT) rfl rfl (by decide) (by assumption) (by repeat (first|exact aq _ _|refine aY (bu (by assumption)) ?_)) (fun Bv mV=>?_);refine bT (M:=M) bz rfl rfl rfl rfl rfl (by assumption) (by repeat (first|exact aq _ _|refine aY (bu (by assumption)) ?_)) (fun zK mW=>?_);refine bR bz rfl mW rfl (ad rfl rfl (ab (aZ ?_)));refine dn (σ:=Nat) (fun i=>[(1,.func (.func g) #[] cap.toArray),(9,zK),(10,.int .i64 (d.2.length:Int)),(11,.int .i64 (i:Int))]) (fun i w=>∃M',Lt M' w∧Step M w0 M' w (lG M B)∧(RT.fd.sl).V M' w d.2 zK∧J (cG (d.2.take i)) M' w∧i≤d.2.length∧(cG (d.2.take i)).length≤900001*i) (fun i=>d.2.length-i) 0 (.cons rfl (.cons rfl (.cons rfl (.cons rfl .nil)))) ?_ ?_
 ·exact⟨_,hM,S,mW,hJ,bG _,aO _⟩
 ·rintro i w ⟨M1,hM,S,kH,hJ,hi,Iu⟩;refine aj (ae (cn rfl rfl rfl (ab (aj ?_))));refine bN rfl (fun c2=>?_) (fun c2=>?_)
  ·refine aT (aj (aZ (aj (ae ?_))));refine cE (M:=M1) bz kz rfl rfl rfl kH (aq _ _) (by omega) (fun u3 x OC RA=>?_);rw[ay]at OC;have qH:=hl _ (az OC);refine dg (M:=M1) (A:=RT.fd) cw rfl kz (by decide) rfl rfl rfl RA (aq _ _) (fun v3 zu=>?_);refine rR (A:=RT.fd) (M:=M1) kz rfl rfl rfl rfl rfl (by assumption) (aq _ _) hM (fun Un aox Ax Pz aoy=>?_);replace kH:=kH.le Pz.le;replace hJ:=hT.step _ _ _ _ _ hJ Pz;replace hM:=Pz.lt hM;have:=S.size;replace S:=S.aB Pz;refine ab (aj (ae ?_));refine aL (M:=M1) (A:=RT.fd) (B:=RT.str) cw rfl rfl I9 (by decide) (fd1) rfl rfl (by decide) (by assumption) (by repeat (first|exact aq _ _|refine aY (bu (by assumption)) ?_)) (fun T2 Hw=>?_);refine bT (M:=M1) aJ rfl rfl rfl rfl rfl Hw (aq _ _) (fun v4 pT=>?_);obtain rfl:=iC pT;refine aW rfl rfl XG (yc (l:=x.2) _ hM qH.2) (fun v5 w5 hc=>?_);obtain⟨YA,s5⟩:=hc;replace kH:=kH.le s5.le;replace Ax:=Ax.le (by decide) s5.le;replace hJ:=hT.step _ _ _ _ _ hJ s5;replace hM:=s5.lt hM;have:=S.size;replace S:=S.aB s5;have hwl:=qJ x.2;refine bR aS rfl YA rfl (ad rfl rfl (ab (aZ ?_)));refine dn (σ:=Nat) (fun k=>[(1,.func (.func g) #[] cap.toArray),(5,Un),(9,zK),(10,.int .i64 (d.2.length:Int)),(11,.int .i64 (i:Int)),(17,v5),(18,.int .i64 ((words x.2).length:Int)),(19,.int .i64 (k:Int))]) (fun k w=>∃M',Lt M' w∧Step M w0 M' w (lG M B)∧(RT.fd.sl).V M' w d.2 zK∧cP RT.fd M' w Un x∧(RT.str.sl).V M' w (words x.2) v5∧J (cG (d.2.take i)++(jq x).take k) M' w∧k≤(words x.2).length) (fun k=>(words x.2).length-k) 0 (.cons rfl (.cons rfl (.cons rfl (.cons rfl (.cons rfl (.cons rfl (.cons rfl (.cons rfl .nil)))))))) ?_ ?_
   ·exact⟨_,hM,S,kH,Ax,YA,by rw[List.take_zero,fP];exact hJ,bG _⟩
   ·rintro k w ⟨M2,hM,S,kH,Ax,YA,hJ,hk⟩;refine aj (ae (cn rfl rfl rfl (ab (aj ?_))));refine bN rfl (fun c5=>?_) (fun c5=>?_)
    ·refine aT (aj (aZ (aj (ae (ad rfl rfl ?_)))));refine cE (M:=M2) aS I9 rfl rfl rfl YA (aq _ _) (by omega) (fun u6 y JV FF=>?_);rw[ay]at JV;refine bT (M:=M2) aJ rfl rfl rfl rfl rfl FF (aq _ _) (fun v6 uU=>?_);have Fk:=(kA.1 uU).2;obtain rfl:=iC uU;refine ah rfl rfl (ah rfl rfl (ab (ae (ad rfl rfl ?_))));refine aL (M:=M2) (A:=RT.fd) (B:=RT.str) cw rfl rfl I9 (by decide) (WL) rfl rfl (by decide) (by assumption) (by repeat (first|exact aq _ _|refine aY (bu (by assumption)) ?_)) (fun aoz YB=>?_);refine bT (M:=M2) aJ rfl rfl rfl rfl rfl YB (aq _ _) (fun v7 FR=>?_);obtain rfl:=iC FR;refine ad rfl rfl (iI (places:=[(0,1),(1,1)]) dH An B78 rfl ⟨_,_,rfl,rfl,_,_,rfl,rfl,rfl⟩ (out:=[_,_]) ⟨0,[_],rfl,rfl,by simp[Value.cells],1,[_],rfl,rfl,by simp[Value.cells],rfl⟩ (ad rfl rfl ?_));refine zy (first:=[]) (captured:=cap) (xs:=[.tmp 28,.tmp 29]) rfl rfl rfl hT.enters (hT.tell _ _ _ (x.1,y) k hJ hM qH.1 Fk (by omega) (by rw[bj,bC,nV];omega)) (fun r7 w7 hc=>?_);obtain⟨M7,hM7,hJ7,s7⟩:=hc;refine ab (ae (bD rfl rfl rfl (by omega) (ad rfl rfl (ab ?_))));refine⟨rfl,k+1,(.cons rfl (.cons rfl (.cons rfl (.cons rfl (.cons rfl (.cons rfl (.cons rfl (.cons rfl .nil)))))))),?_,?_⟩
     ·exact⟨M7,hM7,S.trans s7 (fun b hb h=>⟨h.1,(S.mem b hb).1 h.2⟩),kH.le s7.le,Ax.le (by decide) s7.le,YA.le s7.le,by rw[b9,LM JV,cK,←rM];exact hJ7,by omega⟩
     ·omega
    ·refine cI (ae (bD rfl rfl rfl (by omega) (ad rfl rfl (ab ?_))));refine⟨rfl,i+1,(.cons rfl (.cons rfl (.cons rfl (.cons rfl .nil)))),?_,?_⟩
     ·exact⟨_,hM,S,kH,by rw[sH OC];have e:(jq x).take k=jq x:=bc (by rw[nV];omega);rw[e]at hJ;exact hJ,by omega,by rw[sH OC,bj,nV];omega⟩
     ·omega
  ·refine cI ?_
   first|refine qQ ?_|simp+decide only[qR,jz,if_true,if_false]|skip
   have e:d.2.take i=d.2:=bc (by omega);rw[e]at hJ;exact fW rfl ⟨_,hM,hJ,S⟩
theorem I0 {M:aC} {w:World} {t:Fd} (h1:t.1.length≤140737488355328) (h2:t.2.length≤140737488355328):RT.fd.V M w t (kv t):=eT (kA.2 ⟨rfl,h1⟩) (kA.2 ⟨rfl,h2⟩) rfl rfl rfl rfl
def WJ (b B:Nat) (ts:List (Fd×Nat)) (M:aC) (w:World):Prop:=w.heap[b]? =some (.cells #[.int .i64 (ts.length:Int)] 3 (0,0))∧M b∧B≤b
theorem By {M:aC} {b B:Nat} {ts:List (Fd×Nat)} {t:Fd} {i:Nat} (w0:World) (hM:Lt M w0) (h1:t.1.length≤900000) (h2:t.2.length≤140737488355328) (Kr:ts.length≤10000000) (hJ:WJ b B ts M w0):
  Spec Tryz.prog 139 #[kv t,.int .i64 (i:Int),.pointer (some ⟨b,0,none⟩)] w0 (fun v w=>∃M',Lt M' w∧WJ b B (ts++[(t,i)]) M' w∧Step M w0 M' w (lG M B)):=by
 obtain⟨gb,eh,hB⟩:=hJ;refine bg (args:=[_,_,_]) (fn:=Tryz.f139) Tryz.func139 rfl (n:=7) Tryz.ntmps139 ?_;have S:Step M w0 M w0 (lG M B):=(aw _ _).cF (fun _ h=>h.elim) (fun _ h=>h.2);refine aj (ae ?_);refine vK (A:=RT.fd) rfl rfl hM (I0 (by omega) h2) rfl (fun u0 w1 dq s0 _=>?_);have:=ak gb;replace eh:=(s0.mem _ this).2 eh;replace gb:=s0.aK gb;replace hM:=s0.lt hM;have:=S.size;replace S:=S.aB s0;refine ab (ae (aP ax rfl rfl rfl (by assumption) rfl (bD rfl rfl rfl (by omega) ?_)));refine cu (M:=M) I3 rfl rfl gb rfl (rfl) eh (fun PA iB pJ=>?_);change PA.heap[_]? =some (Obj.cells #[.int .i64 ((ts.length:Int)+1)] _ _)at iB;have:=ak gb;replace eh:=(pJ.mem _ this).2 eh;replace hM:=pJ.lt hM;have:=S.size;replace S:=S.trans pJ (fun k hk h=>by have h:_=_:=h;subst h;first|(exfalso;omega)|(show _≤_;omega)|exact⟨by first|omega|assumption,(S.mem _ hk).1 ((pJ.mem _ (ak gb)).1 eh)⟩|exact .inl rfl|exact .inr rfl|exact .inr (.inl rfl)|exact .inr (.inr rfl)|exact .inr (.inr (.inl rfl))|exact rfl);have LN:=iB;clear gb;have gb:=LN;clear LN;refine ab ?_
 first|refine qQ ?_|simp+decide only[qR,jz,if_true,if_false]|skip
 exact fW rfl ⟨_,hM,⟨by rw[bj];exact gb,eh,hB⟩,S⟩
theorem Du {b B:Nat}:Um Tryz.prog 139 [.pointer (some ⟨b,0,none⟩)] B (WJ b B):=
 ⟨ac4,fun ts M w M' w' ⟨h1,h2,h3⟩ s=>⟨s.aK h1,(s.mem _ (ak h1)).2 h2,h3⟩,fun ts M w t i hJ hM h1 h2 _ h4=>By w hM h1 h2 h4 hJ⟩
theorem Dv {M:aC} {d:Dc} {v0:Value} (w0:World) (hM:Lt M w0) (hv:RT.dc.V M w0 d v0) (hl:∀f∈d.2,f.1.length≤900000∧f.2.length≤900000) (hd8:d.2.length≤8):
  Spec Tryz.prog 89 #[v0] w0 (fun v w=>v= .int .i64 ((cG d.2).length:Int)∧Step M w0 M w aD):=by
 refine bg (args:=[_]) (fn:=Tryz.f89) Tryz.func89 rfl (n:=8) Tryz.ntmps89 ?_;have S:Step M w0 M w0 aD:=(aw _ _).cF (fun _ h=>h.elim) (fun _ h=>h.elim);refine aj (ae ?_);refine vK (A:=RT.dc) rfl rfl hM hv rfl (fun u0 w1 dq s0 _=>?_);replace hM:=s0.lt hM;have:=S.size;replace S:=S.aB s0;refine ah rfl rfl (ab (aj (ae ?_)));refine ek M I3 rfl (fun mi C4 TR TS jO nt=>?_);obtain⟨lf,mj⟩:∃M',M'=ins M mi:=⟨_,rfl⟩;rw[←mj]at nt;have iP:lf mi:=by rw[mj];exact .inl rfl
 change C4.heap[mi]? =some (.cells #[.int .i64 0] _ _)at jO;replace dq:=dq.le (by decide) nt.le;replace hM:=nt.lt hM;have:=S.size;replace S:=S.aB nt;refine cu (M:=lf) I3 rfl rfl jO rfl (rfl) iP (fun Uo zM wZ=>?_);change Uo.heap[_]? =some (Obj.cells #[.int .i64 0] _ _)at zM;have:=ak jO;replace iP:=(wZ.mem _ this).2 iP;replace dq:=dq.le (by decide) wZ.le;replace hM:=wZ.lt hM;have:=S.size;replace S:=S.trans wZ (fun k hk h=>by have h:_=_:=h;subst h;first|(exfalso;omega)|(show _≤_;omega)|exact⟨by first|omega|assumption,(S.mem _ hk).1 ((wZ.mem _ (ak jO)).1 iP)⟩|exact .inl rfl|exact .inr rfl|exact .inr (.inl rfl)|exact .inr (.inr rfl)|exact .inr (.inr (.inl rfl))|exact rfl);have RB:=zM;clear jO;have jO:=RB;clear RB;refine ab (aj (ae ?_));refine dg (M:=lf) (A:=RT.dc) a8 rfl ou (by decide) rfl rfl rfl dq (aq _ _) (fun v2 CX=>?_);refine j5 (xs:=[]) (ys:=[.tmp 3]) rfl rfl rfl ?_;refine aW rfl rfl XF (Aw (cap:=[.pointer (some ⟨mi,0,none⟩)]) (B:=w0.heap.size) _ hM CX hl hd8 Du ⟨jO,iP,by omega⟩) (fun r2 w2 hc=>?_);obtain⟨M2,EZ,⟨g2,_,_⟩,s2⟩:=hc;replace S:=S.l0 s2 (aO _);refine ab (aj (ae (aP ax rfl rfl rfl g2 rfl (ah rfl rfl (ab (aQ ?_))))));exact aV rfl rfl ⟨rfl,S.back⟩
end Go.K
namespace Go.K
section
variable {P:Program} {r:Option Nat} {n:Nat} {L:Sl} {ds:List Deferred} {w:World} {K:Kt} {ops:Array Oper} {rest:List Oper} {d:Nat} {x y z:Operand} {ty:TypeId} {pos:String} {af:Array Edge}
variable {kt:TypeId} {M:aC} {b mb clock:Nat} {es:List MapEntry} {sn:Array Nat}
theorem Rg.rangeMap {t e:TypeId} (M:aC) (ht:P.underlying t=some (.map kt e)) (hx:ev L x=some (.map (some mb))) (hd:Nat.blt d n=true) (h:fE P kt w mb es clock)
  (k:∀b w',w.heap.size≤b→b<w'.heap.size→w'.heap[b]? =some (.mapIter (some mb) clock #[] clock)→Step M w (ins M b) w' aD→Rg P r n ops rest ((d,.pointer (some ⟨b,0,none⟩))::L) ds w' K):
  Rg P r n ops ({dst:=some d,op:= .range t x,type:=ty,pos,after:=af,guard:=none}::rest) L ds w K:=by
 refine .op (fun _ h=>by cases h) rfl rfl hd (.pointer (some ⟨w.heap.size,0,none⟩)) (w.alloc (.mapIter (some mb) clock #[] clock)) (fun ρ hρ=>?_) (k w.heap.size _ (aO _) (by simp) (ch w _) ((cQ M w _).own (aO _) (by simp)));simp only[execOp,hρ x _ hx];simp[Instr.range,cj,run_underlying ht,dM h.at_,newObj,Sem.run]
theorem pA {sb:Option Nat} {s c:Nat} (hb:w.heap[b]? =some (.mapIter sb s sn c)):(getObj b).run P w= .ok (.mapIter sb s sn c) w:=by simp[getObj,Sem.run,hb]
theorem FT (h:fE P kt w mb es clock) (seen:Array Nat):(!seen.isEmpty&& !es.toArray.isEmpty&&es.toArray.all (fun x=>decide (x.born≥clock)))=false:=by
 cases es with
 |nil=>simp
 |cons e l=>
  have:=h.lt e (by simp);simp only[Bool.and_eq_false_iff];right;rw[de];intro h2;rw[Array.all_eq_true_iff_forall_mem]at h2;have:=h2 e (by simp);simp at this;omega
theorem Dw (k:Nat) (hk:0<k):∃j w1,j<k∧(∀M,Step M w M w1 aD)∧w1.heap=w.heap∧(choose (Question.mapNext k)).run P w= .ok j w1:=by
 by_cases hf:k≤1
 ·exact⟨0,w,hk,fun M=>aw M w,rfl,by simp[choose,Sem.run,Question.forced,hf]⟩
 ·exact⟨_,w.drew,Nat.mod_lt _ hk,fun M=>lQ M w,rfl,by
   simp only[choose,Sem.run,Question.forced,decide_eq_true_eq,hf,if_false,Question.cut];rfl⟩
theorem LO (h:fE P kt w mb es clock) (hb:w.heap[b]? =some (.mapIter (some mb) clock sn clock)) (hm:M b):
  ((∀e∈es,e.born∈sn)∧(Instr.next (.pointer (some ⟨b,0,none⟩)) false ty).run P w= .ok (.tuple #[.bool false]) w)∨
  ∃e w',e∈es∧e.born∉sn∧w'.heap[b]? =some (.mapIter (some mb) clock (sn.push e.born) clock)∧Step M w M w' (fun k=>k=b)∧(Instr.next (.pointer (some ⟨b,0,none⟩)) false ty).run P w= .ok (.tuple #[.bool true,e.key,e.val]) w':=by
 have dQ:=ak hb;simp only[Instr.next,cj,pA hb,cB,dM h.at_,FT h sn,Bool.false_eq_true,if_false];have hL:∀e∈es.toArray.filter (fun e=> !sn.contains e.born),e.born<clock:=fun e he=>h.lt e (by simpa using(Array.mem_filter.1 he).1)
 have kg:∀e,e∈es.toArray.filter (fun e=> !sn.contains e.born)↔e∈es∧e.born∉sn:=fun e=>by simp[Array.mem_filter]
 generalize es.toArray.filter (fun e=> !sn.contains e.born)=Lf at hL kg ⊢;have e1:Lf.filter (fun x=>decide (x.born<clock))=Lf:=Array.filter_eq_self.2 fun x hx=>by simpa using hL x hx
 have e2:Lf.filter (fun x=>decide (x.born≥clock))= #[]:=by
  rw[Array.filter_eq_empty_iff];intro x hx;have:=hL x hx;simp;omega
 simp only[e1,e2,Array.append_empty];by_cases h0:Lf.size=0
 ·left;have qU:Lf= #[]:=Array.eq_empty_of_size_eq_zero h0;subst qU;refine⟨fun e he=>?_,by simp[choose,Sem.run,Question.forced]⟩;by_cases hs:e.born∈sn
  ·exact hs
  ·exact absurd ((kg e).2 ⟨he,hs⟩) (by simp)
 ·right;have eN:Lf.isEmpty=false:=by simp[Array.isEmpty,h0]
  simp only[eN,Bool.false_eq_true,if_false,Array.empty_append,Array.size_map];obtain⟨j,w1,hj,hs1,hh1,gY⟩:=Dw (P:=P) (w:=w) Lf.size (by omega);have Bk:w1.heap[b]? =some (.mapIter (some mb) clock sn clock):=by rw[hh1];exact hb
  have eL:=(kg Lf[j]).1 (by simp);refine⟨Lf[j],{w1 with heap:=w1.heap.setIfInBounds b (.mapIter (some mb) clock (sn.push Lf[j].born) clock)},eL.1,eL.2,by simp[dA,hh1,dQ],?_,?_⟩
  ·exact((hs1 M).cF (fun _ h=>h.elim) (fun k hk=>by subst hk;exact hm)).trans (jm M hm) (fun _ _ h=>h)
  ·simp only[gY,cB,Array.getElem?_map,Array.getElem?_eq_getElem hj,db,cj];simp[setObj,Sem.run,Bk]
theorem Rg.PB (hx:ev L x=some (.pointer (some ⟨b,0,none⟩))) (hb:w.heap[b]? =some (.mapIter (some mb) clock sn clock)) (hm:M b) (h:fE P kt w mb es clock) (hd:Nat.blt d n=true)
  (k1:∀e w',e∈es→e.born∉sn→w'.heap[b]? =some (.mapIter (some mb) clock (sn.push e.born) clock)→Step M w M w' (fun k=>k=b)→Rg P r n ops rest ((d,.tuple #[.bool true,e.key,e.val])::L) ds w' K)
  (k2:(∀e∈es,e.born∈sn)→Rg P r n ops rest ((d,.tuple #[.bool false])::L) ds w K):
  Rg P r n ops ({dst:=some d,op:= .next x false,type:=ty,pos,after:=af,guard:=none}::rest) L ds w K:=by
 rcases LO (ty:=ty) h hb hm with⟨h1,h2⟩|⟨e,w',h1,h2,h3,h4,h5⟩
 ·refine .op (fun _ h=>by cases h) rfl rfl hd _ w (fun ρ hρ=>?_) (k2 h1);simp only[execOp,hρ x _ hx];simp[h2]
 ·refine .op (fun _ h=>by cases h) rfl rfl hd _ w' (fun ρ hρ=>?_) (k1 e w' h1 h2 h3 h4);simp only[execOp,hρ x _ hx];simp[h5]
theorem Rg.entry {e:MapEntry} {sn':Array Nat} (hx:ev L x=some (.pointer (some ⟨b,0,none⟩))) (hb:w.heap[b]? =some (.mapIter (some mb) clock (sn'.push e.born) clock)) (h:fE P kt w mb es clock) (he:e∈es) (hd:Nat.blt d n=true)
  (k:Rg P r n ops rest ((d,.tuple #[e.key,e.val])::L) ds w K):
  Rg P r n ops ({dst:=some d,op:= .entry x,type:=ty,pos,after:=af,guard:=none}::rest) L ds w K:=by
 have hf:es.find? (fun x=>x.born==e.born)=some e:=by
  rw[List.find?_eq_some_iff_getElem];obtain⟨i,hi⟩:=bE.1 he;obtain⟨h1,h2⟩:=ao.1 hi;refine⟨by simp,i,h1,h2,fun j hj=>?_⟩;have wT:j<es.length:=by omega
  have:=fun q=>h.Ds (au wT) hi q
  simp only[iV,beq_eq_false_iff_ne,ne_eq];intro q;have:=this q;omega
 refine .op (fun _ h=>by cases h) rfl rfl hd _ w (fun ρ hρ=>?_) k;simp only[execOp,hρ x _ hx,Instr.entry,cj,pA hb,cB,dM h.at_];simp[hf,cj,dM h.at_]
end
end Go.K
namespace Go.K
open Go.Proofs
set_option maxRecDepth 10000
theorem filter_lt {α:Type} {p q:α→Bool} {a:α}:∀{l:List α},(∀x∈l,q x=true→p x=true)→a∈l→p a=true→q a=false→(l.filter q).length<(l.filter p).length
 |[],_,ha,_,_=>by cases ha
 |x::l,h,ha,hp,hq=>by
  have hle:(l.filter q).length≤(l.filter p).length:=by
   rw[←List.countP_eq_length_filter,←List.countP_eq_length_filter];exact List.countP_mono_left fun y hy=>h y (bZ _ hy)
  rcases cd.1 ha with rfl|ha
  ·rw[List.filter_cons_of_pos hp,List.filter_cons_of_neg (by simp[hq])];simp;omega
  ·have:=filter_lt (fun y hy=>h y (bZ _ hy)) ha hp hq;by_cases hx:q x=true
   ·rw[List.filter_cons_of_pos hx,List.filter_cons_of_pos (h x (bK ..) hx)];simp;omega
   ·rw[List.filter_cons_of_neg hx];by_cases hx2:p x=true
    ·rw[List.filter_cons_of_pos hx2];simp;omega
    ·rw[List.filter_cons_of_neg hx2];omega
theorem fE.Uq {P:Program} {kt:TypeId} {w:World} {b clock:Nat} {es:List MapEntry} (h:fE P kt w b es clock) {x y:MapEntry} (hx:x∈es) (hy:y∈es) (hk:x.key=y.key):x=y:=by
 obtain⟨i,hi⟩:=bE.1 hx;obtain⟨j,hj⟩:=bE.1 hy;rcases fa i j with jf|rfl|jf
 ·exact absurd hk (iE h.keys hi hj jf)
 ·exact aI (hi.symm.trans hj)
 ·exact absurd hk.symm (iE h.keys hj hi jf)
theorem fE.PC {P:Program} {kt:TypeId} {w:World} {b clock:Nat} {es:List MapEntry} (h:fE P kt w b es clock) {x y:MapEntry} (hx:x∈es) (hy:y∈es) (hk:x.born=y.born):x=y:=by
 obtain⟨i,hi⟩:=bE.1 hx;obtain⟨j,hj⟩:=bE.1 hy;rcases fa i j with jf|rfl|jf
 ·exact absurd hk (iE h.born hi hj jf)
 ·exact aI (hi.symm.trans hj)
 ·exact absurd hk.symm (iE h.born hj hi jf)
def FU (w:World) (k:Nat):Prop:=∃m s sn c,w.heap[k]? =some (.mapIter m s sn c)
def HA (es:List MapEntry):Prop:=∀e∈es,∃t:Fd,e.key=kv t∧t.1.length≤140737488355328∧t.2.length≤140737488355328
theorem FV {yl bs mb clock:Nat} {es:List MapEntry} {J:List Fd→World→Prop} (w0:World) (hk:HA es) (hJs:∀ts w w' N,J ts w→Step allM w allM w' N→(∀k,k<w.heap.size→N k→w0.heap.size≤k∧FU w k)→J ts w') (hJb:∀ts w,J ts w→w.heap[bs]? =some (.cells #[.map (some mb)] 217 (0,0))∧fE Tryz.prog 78 w mb es clock) (hy:∀ts w (t:Fd),J ts w→(∃e∈es,e.key=kv t)→t∉ts→ts.length<es.length→vT Tryz.prog yl [kv t].toArray w (fun r w'=>r= .bool true∧J (ts++[t]) w'∧∃N,Step allM w allM w' N∧∀k,N k→¬FU w k)) (h0:J [] w0):
  Spec Tryz.prog 188 #[.func (.yield yl) #[] #[],.pointer (some ⟨bs,0,none⟩)] w0 (fun v w=>∃ts,J ts w∧ts.Nodup∧∀t,t∈ts↔∃e∈es,e.key=kv t):=by
 obtain⟨gb,hW⟩:=hJb _ _ h0;have hJ:=h0;clear h0;refine bg (args:=[_,_]) (fn:=Tryz.f188) Tryz.func188 rfl (n:=14) Tryz.ntmps188 ?_;have S:Step allM w0 allM w0 allM:=(aw _ _).cF (fun _ h=>h.elim) (fun _ _=>trivial);refine aj (ae (aP lY rfl rfl rfl (by assumption) rfl ?_));refine Rg.rangeMap allM lY rfl rfl hW (fun bi w1 Bk Hb gi s1=>?_);replace s1:=s1.all;have:=ak gb;replace gb:=s1.aK gb;replace hJ:=hJs _ _ _ _ hJ s1 (fun _ _ h=>h.elim);have:=S.size;replace S:=S.aB s1;refine ab (aZ ?_);refine dn (σ:=List Fd×Array Nat) (fun s=>[(0,.func (.yield yl) #[] #[]),(1,.pointer (some ⟨bs,0,none⟩)),(5,.pointer (some ⟨bi,0,none⟩))]) (fun s w=>J s.1 w∧Step allM w0 allM w allM∧w.heap[bi]? =some (.mapIter (some mb) clock s.2 clock)∧s.1.Nodup∧(∀e∈es,e.born∈s.2↔∃t∈s.1,e.key=kv t)∧(∀t∈s.1,∃e∈es,e.key=kv t)) (fun s=>(es.filter fun e=>decide (e.born∉s.2)).length) ([],#[]) (.cons rfl (.cons rfl (.cons rfl .nil))) ?_ ?_
 ·exact⟨hJ,S,gi,List.nodup_nil,fun e _=>by simp,fun t h=>by cases h⟩
 ·rintro⟨ts,sn⟩ w ⟨hJ,S,gi,om,hsn,kg⟩;dsimp only at hJ gi om hsn kg ⊢;obtain⟨gb,hW⟩:=hJb _ _ hJ;refine aj (ae ?_);refine Rg.PB (M:=allM) rfl gi trivial hW rfl (fun Ur C4 tI RC jO nt=>?_) (fun aeD=>?_)
  ·have gi0:=gi;replace gb:=nt.keep gb (fun hk=>by have hk:_=_:=hk;omega);replace hJ:=hJs _ _ _ _ hJ nt (fun k hk h=>by have h:k=bi:=h;subst h;exact⟨Bk,_,_,_,_,gi0⟩);have:=S.size;replace S:=S.trans nt (fun k hk h=>by have h:_=_:=h;subst h;first|(exfalso;omega)|(show _≤_;omega)|exact .inl rfl|exact .inr rfl|exact .inr (.inl rfl)|exact .inr (.inr rfl)|exact .inr (.inr (.inl rfl))|exact rfl);have gi_:=jO;clear gi;have gi:=gi_;clear gi_;refine bV rfl rfl rfl (ab (aj (lh rfl (aT (aZ (aj (ae (Rg.entry rfl gi (hJb _ _ hJ).2 tI rfl ?_))))))));obtain⟨t,PD,RD,IQ⟩:=hk _ tI;have SU:t∉ts:=fun h=>RC ((hsn _ tI).2 ⟨t,h,PD⟩)
   have dQ:ts.length<es.length:=by
    have h1:((t::ts).map kv).Nodup:=cA.2 ((List.nodup_cons.2 ⟨SU,om⟩).imp fun h e=>h (uW e))
    have h2:=h1.length_le_of_subset (l₂:=es.map (·.key)) (fun x hx=>by
     obtain⟨u,hu,rfl⟩:=ca.1 hx;rcases cd.1 hu with rfl|hu
     ·rw[←PD];exact hY tI
     ·obtain⟨e,he,h⟩:=kg u hu;rw[←h];exact hY he)
    simp at h2;omega
   rw[PD];refine bV rfl rfl rfl ?_;refine rR (A:=RT.fd) (M:=aD) An rfl rfl rfl rfl rfl (I0 RD IQ) (aq _ _) (Lt.none _) (fun u2 w2 wV s2 z2=>?_);replace s2:=s2.all;have:=ak gb;replace gb:=s2.aK gb;have:=ak gi;replace gi:=s2.aK gi;replace hJ:=hJs _ _ _ _ hJ s2 (fun _ _ h=>h.elim);have:=S.size;replace S:=S.aB s2
   skip
   refine ab (aj (ae (ad rfl rfl ?_)));refine dg (M:=aD) (A:=RT.fd) dH rfl An (by decide) rfl rfl rfl wV (aq _ _) (fun v3 zu=>?_);obtain rfl:=sy zu;refine Rg.yield (vs:=[kv t]) rfl rfl rfl (hy _ _ t hJ ⟨_,tI,PD⟩ SU dQ) (fun r3 w3 hc=>?_);obtain⟨rfl,YC,N3,s3,hN3⟩:=hc;clear jO;replace gi:=s3.keep gi (fun h=>hN3 _ h ⟨_,_,_,_,gi⟩);replace hJ:=YC;clear YC;obtain⟨gb,-⟩:=hJb _ _ hJ;replace S:=S.trans s3 (fun _ _ _=>trivial);refine mJ rfl rfl (aU (v':= .bool false) rfl (ab (iX rfl (aT ?_))));refine⟨rfl,(ts++[t],sn.push Ur.born),(.cons rfl (.cons rfl (.cons rfl .nil))),?_,?_⟩
   ·have rX:∀e∈es,e.born=Ur.born↔e.key=kv t:=fun e he=>by
     constructor
     ·intro h;rw[fE.PC hW he tI h,PD]
     ·intro h;rw[fE.Uq hW he tI (h.trans PD.symm)]
    refine⟨hJ,S,gi,List.nodup_append.2 ⟨om,by simp,fun a ha b hb h=>by simp at hb;subst hb;subst h;exact SU ha⟩,fun e he=>?_,fun u hu=>?_⟩
    ·rw[Array.mem_push,hsn e he,rX e he];constructor
     ·rintro(⟨u,h1,h2⟩|h)
      ·exact⟨u,gw _ h1,h2⟩
      ·exact⟨t,by simp,h⟩
     ·rintro⟨u,h1,h2⟩;rcases cq.1 h1 with h1|h1
      ·exact .inl ⟨u,h1,h2⟩
      ·simp at h1;subst h1;exact .inr h2
    ·rcases cq.1 hu with hu|hu
     ·exact kg u hu
     ·simp at hu;subst hu;exact⟨_,tI,PD⟩
   ·exact filter_lt (a:=Ur) (fun e _ h=>by simp only[decide_eq_true_eq,Array.mem_push,not_or]at h ⊢;exact h.1) tI (by simpa using RC) (by simp)
  ·refine bV rfl rfl rfl (ab (aj (iX rfl (cI ?_))))
   first|refine qQ ?_|simp+decide only[qR,jz,if_true,if_false]|skip
   exact fW rfl ⟨ts,hJ,om,fun t=>⟨kg t,fun⟨e,he,PD⟩=>by obtain⟨t',h1,h2⟩:=(hsn e he).1 (aeD e he);rw[←uW (h2.symm.trans PD)];exact h1⟩⟩
end Go.K
namespace Go.K
open Go.Proofs
set_option maxRecDepth 10000
theorem dZ.any {α:Type} {A:RT α} (hA:∀M w M' w' x vs,A.R M w x vs→A.R M' w' x vs) {M M':aC} {w w':World}:∀{xs:List α} {C:List Value},dZ A M w xs C→dZ A M' w' xs C
 |[],_,h=>h
 |x::xs,C,h=>by
  obtain⟨vs,r,h1,h2,h3⟩:=h;exact⟨vs,r,h1,hA _ _ _ _ _ _ h2,dZ.any hA h3⟩
theorem Bz (M:aC) (w:World) (M':aC) (w':World) (x:Fd) (vs:List Value) (h:RT.fd.R M w x vs):RT.fd.R M' w' x vs:=h
theorem Own.HB {α:Type} {A:RT α} (hA:∀M w M' w' x vs,A.R M w x vs→A.R M' w' x vs) {e:TypeId} {M N:aC} {w w':World} {base:Nat} {v:Value} {xs:List α} (h:Own A e M w base v xs) (s:Step allM w allM w' N) (hn:∀b,v.ownBlock=some b→¬N b):Own A e (mL v) w' base v xs:=by
 obtain⟨⟨C,h1,h2⟩,_⟩:=h;refine⟨⟨C,⟨h1.1,?_⟩,dZ.any hA h2⟩,fun _ h=>h⟩;rcases h1.2 with h3|⟨g,cap,cur,h3,h4,h5,h6,h7,h8⟩
 ·exact .inl h3
 ·exact .inr ⟨g,cap,cur,h3,h4,by rw[s.same g (ak h5) (hn g (by rw[h3];rfl))];exact h5,h6,h7,h8⟩
theorem Own.isCells {α:Type} {A:RT α} {e:TypeId} {M:aC} {w:World} {base b:Nat} {v:Value} {xs:List α} (h:Own A e M w base v xs) (hb:v.ownBlock=some b):∃cs,w.heap[b]? =some (.cells cs e (0,0)):=by
 obtain⟨⟨C,h1,_⟩,_⟩:=h;rcases h1.2 with h3|⟨g,cap,cur,h3,h4,h5,_⟩
 ·rw[h3.1]at hb;cases hb
 ·rw[h3]at hb;cases hb;exact⟨_,h5⟩
structure Aq (w0:World) (bt D:Nat) (st:Loop) (v:Value) (ts:List Fd) (w:World):Prop where
 S:Step allM w0 allM w aD
 c:w.heap[bt]? =some (.cells #[v] 155 (0,0))
 o:Own RT.fd 78 (mL v) w w0.heap.size v ts
 d:w.heap[D]? =some (.deferred (some []))
 r:w.heap[D+1]? =some (.loop st)
 hb:w0.heap.size≤bt
 hD:w0.heap.size≤D
theorem Aq.step {w0 w w':World} {bt D:Nat} {st:Loop} {v:Value} {ts:List Fd} {N:aC} (h:Aq w0 bt D st v ts w) (s:Step allM w allM w' N) (hN:∀k,k<w.heap.size→N k→w0.heap.size≤k∧FU w k):Aq w0 bt D st v ts w':=by
 have no:∀{k o},w.heap[k]? =some o→(∀m s sn c,o≠ .mapIter m s sn c)→¬N k:=fun hk ho hn=>by
  obtain⟨_,m,s,sn,c,h'⟩:=hN _ (ak hk) hn;rw[hk]at h';exact ho m s sn c (aI h')
 refine⟨h.S.trans s (fun k hk hn=>?_),s.keep h.c (no h.c (by intros;simp)),h.o.HB Bz s (fun b hb=>?_),s.keep h.d (no h.d (by intros;simp)),s.keep h.r (no h.r (by intros;simp)),h.hb,h.hD⟩
 ·have:=(hN k (jy hk h.S.size) hn).1;omega
 ·obtain⟨cs,hc⟩:=h.o.isCells hb;exact no hc (by intros;simp)
theorem Aq.mz {w0 w:World} {bt D:Nat} {st st':Loop} {v:Value} {ts:List Fd} (h:Aq w0 bt D st v ts w):Aq w0 bt D st' v ts (w.putObj (D+1) (.loop st')):=by
 have s:Step allM w allM (w.putObj (D+1) (.loop st')) (fun k=>k=D+1):=dS trivial;have hD:=h.hD;refine⟨h.S.trans s (fun k hk hn=>by have hn:k=D+1:=hn;omega),s.keep h.c (fun hn=>by have hn:bt=D+1:=hn;have h1:=h.c;rw[hn,h.r]at h1;cases h1),h.o.HB Bz s (fun b hb hn=>?_),s.keep h.d (fun hn=>by have hn:D=D+1:=hn;omega),by have:=ak h.r;simp[World.putObj,dA,this],h.hb,h.hD⟩;have hn:b=D+1:=hn;obtain⟨cs,hc⟩:=h.o.isCells hb;rw[hn,h.r]at hc;cases hc
theorem Dx {bs mb clock:Nat} {es:List MapEntry} (w0:World) (hk:HA es) (hes:es.length≤100000000) (Us:w0.heap[bs]? =some (.cells #[.map (some mb)] 217 (0,0))) (hW:fE Tryz.prog 78 w0 mb es clock):
  Spec Tryz.prog 237 #[.slice none 0 0,.func (.func 188) #[] [.pointer (some ⟨bs,0,none⟩)].toArray] w0 (fun v w=>∃ts:List Fd,ts.Nodup∧(∀t,t∈ts↔∃e∈es,e.key=kv t)∧Own RT.fd 78 (mL v) w w0.heap.size v ts∧Step allM w0 allM w aD):=by
 refine nL (args:=[_,_]) (fn:=Tryz.f237) Tryz.func237 rfl (n:=13) Tryz.ntmps237 (aj (ae ?_));refine wJ allM rfl rfl (fun bt w1 Bk aoE gt s1=>?_);change w1.heap[bt]? =some (.cells #[.slice none 0 0] 155 (0,0))at gt;replace s1:=s1.all;refine ah rfl rfl (ab (aj (aj (ae (ad rfl rfl (ab (aZ ?_)))))));refine T.range (gf:=188) (lb:=[.pointer (some ⟨bs,0,none⟩)].toArray) rfl ada (fun rec np=>?_);obtain⟨D,hD⟩:∃D,D=w1.heap.size:=⟨_,rfl⟩;have sA:Step allM w1 allM ((w1.alloc (.deferred (some []))).alloc (.loop (rec .ready none))) aD:=(cQ _ _ _).aB (cQ _ _ _)
 have h0:Aq w0 bt D (rec .ready none) (.slice none 0 0) [] ((w1.alloc (.deferred (some []))).alloc (.loop (rec .ready none))):=by
  refine⟨s1.aB sA,sA.aK gt,dz _ _ _ _ _,?_,?_,Bk,by rw[hD];exact s1.size⟩
  ·rw[hD];exact(cQ allM (w1.alloc _) _).aK (ch w1 _)
  ·rw[hD];have:=ch (w1.alloc (.deferred (some []))) (.loop (rec .ready none));rwa [zz]at this
 rw[←hD]at np ⊢;have hz:=h0.S.size;refine Spec.mono (FV (J:=fun ts w=>∃v,Aq w0 bt D (rec .ready none) v ts w) _ hk (fun ts w w' N ⟨v,h⟩ s hN=>⟨v,h.step s (fun k hk hn=>⟨eD hz (hN k hk hn).1,(hN k hk hn).2⟩)⟩) (fun ts w ⟨v,h⟩=>⟨h.S.aK Us,hW.aM h.S⟩) (fun ts wr t hJ kg SU dQ=>?_) ⟨_,h0⟩) (fun _ w3 h3=>?_)
 ·obtain⟨v,h⟩:=hJ;obtain⟨e,he,hke⟩:=kg;obtain⟨t',aeF,RD,IQ⟩:=hk e he;obtain rfl:=uW (hke.symm.trans aeF);have hzr:=ak h.r;refine lS (ps:=[7]) (vs:=[kv t]) np h.r rfl (by decide) (ae ?_);refine rR (A:=RT.fd) (M:=fun k=>k=D+1) An rfl rfl rfl rfl rfl (I0 RD IQ) (aq _ _) (fun k hk=>by have hk:k=D+1:=hk;omega) (fun u2 w2 wV s2 z2=>?_);replace s2:=s2.all
  skip
  refine ab ?_;refine⟨rfl,s2.aK h.r,?_⟩;have h4:=(h.step s2 (fun _ _ h=>h.elim)).mz (st':=rec .busy none);have s3':Step (fun k=>k=D+1) w2 (fun k=>k=D+1) (w2.putObj (D+1) (.loop (rec .busy none))) (fun k=>k=D+1):=dS rfl;have s3:=s3'.all;have EX:=wV.le (by decide) s3'.le;clear s3';generalize w2.putObj (D+1) _=w4 at h4 s3 EX ⊢;refine aZ (ae (aP jM rfl rfl rfl h4.c rfl ?_));refine dg (M:=fun k=>k=D+1) (A:=RT.fd) dH rfl An (by decide) rfl rfl rfl EX (aq _ _) (fun v3 zu=>?_);obtain rfl:=sy zu;refine eg (A:=RT.fd) (hn:=by decide) (M:=mL v) jM An (by decide) rfl rfl (fun b hb=>(h4.o.base b hb).2) (I0 RD IQ) (.inl rfl) (fun u5 w5 C0 s5=>?_);refine cX (M:=mL v) (base:=w0.heap.size) jM An rfl rfl rfl rfl (h4.o.aM s5) C0 (aq _ _) (by simp;omega) (by simp;omega) (eD h4.S.size s5.size) (fun v6 M6 w6 tJ s6=>?_);have gc:=s6.all.keep (s5.all.aK h4.c) (fun hn=>h4.o.eM h4.c (by decide) hn);refine cu (M:=allM) acR rfl rfl gc rfl (by obtain⟨_,_,he,_⟩:=tJ.isSlice;rw[he];rfl) trivial (fun w7 gc7 s7=>?_);refine ab ?_
  have aeH:∀k,mL v k→¬FU wr k:=fun k hk ⟨_,_,_,_,h9⟩=>by
   obtain⟨cs,hc⟩:=h.o.isCells hk;rw[hc]at h9;cases h9
  have pr:∀k,k<wr.heap.size→k=D+1→¬FU wr k:=fun k _ hk ⟨_,_,_,_,h9⟩=>by subst hk;rw[h.r]at h9;cases h9
  have pc:∀k,k<wr.heap.size→k=bt→¬FU wr k:=fun k _ hk ⟨_,_,_,_,h9⟩=>by subst hk;rw[h.c]at h9;cases h9
  have h7:Aq w0 bt D (rec .busy none) v6 (ts++[t]) w7:=by
   have nb:∀b,v6.ownBlock=some b→b≠bt:=fun b hb hn=>by subst hn;exact tJ.eM gc (by decide) hb
   refine⟨?_,gc7,tJ.HB Bz s7 nb,?_,?_,h.hb,h.hD⟩
   ·refine((h4.S.aB s5.all).trans s6.all (fun k hk hn=>?_)).trans s7 (fun k hk hn=>?_)
    ·have:=(h4.o.base k hn).1;omega
    ·have hn:k=bt:=hn;have:=h.hb;omega
   ·exact s7.keep (s6.all.keep (s5.all.aK h4.d) (fun hn=>by obtain⟨cs,hc⟩:=h4.o.isCells hn;rw[h4.d]at hc;cases hc)) (fun hn=>by have hn:D=bt:=hn;have h1:=h.c;rw[←hn,h.d]at h1;cases h1)
   ·exact s7.keep (s6.all.keep (s5.all.aK h4.r) (fun hn=>by obtain⟨cs,hc⟩:=h4.o.isCells hn;rw[h4.r]at hc;cases hc)) (fun hn=>by have hn:D+1=bt:=hn;have h1:=h.c;rw[←hn,h.r]at h1;cases h1)
  have s8:Step allM w7 allM (w7.putObj (D+1) (.loop (rec .ready none))) (fun k=>k=D+1):=dS trivial;exact⟨h7.r,rfl,⟨v6,h7.mz⟩,fun k=>¬FU wr k,(((((s2.cF (fun _ h=>h.elim) (fun _ _=>trivial)).trans s3 pr).aB s5.all).trans s6.all (fun k _ hn=>aeH k hn)).trans s7 pc).trans s8 pr,fun _ h=>h⟩
 ·obtain⟨ts,⟨v,h⟩,om,kg⟩:=h3;left;refine⟨h.r,?_⟩;have h5:=h.mz (st':=rec .exhausted none);generalize w3.putObj (D+1) _=wE at h5 ⊢;refine aj (ae (aP jM rfl rfl rfl h5.c rfl (ah rfl rfl (ab (aQ ?_)))));have sE:Step allM wE allM (wE.putObj D (.deferred none)) (fun k=>k=D):=dS trivial;have hDD:=h.hD;exact Bc rfl rfl h5.d ⟨ts,om,kg,h5.o.HB Bz sE (fun b hb hn=>by have hn:b=D:=hn;obtain⟨cs,hc⟩:=h5.o.isCells hb;rw[hn,h5.d]at hc;cases hc),h5.S.trans sE (fun k hk hn=>by have hn:k=D:=hn;omega)⟩
end Go.K
namespace Go.K
open Go.Proofs
set_option maxRecDepth 10000
theorem BA {bs mb clock:Nat} {es:List MapEntry} (w0:World) (hk:HA es) (hes:es.length≤100000000) (Us:w0.heap[bs]? =some (.cells #[.map (some mb)] 217 (0,0))) (hW:fE Tryz.prog 78 w0 mb es clock):
  Spec Tryz.prog 186 #[.func (.func 188) #[] [.pointer (some ⟨bs,0,none⟩)].toArray] w0 (fun v w=>∃ts:List Fd,ts.Nodup∧(∀t,t∈ts↔∃e∈es,e.key=kv t)∧Own RT.fd 78 (mL v) w w0.heap.size v ts∧Step allM w0 allM w aD):=by
 refine bg (args:=[_]) (fn:=Tryz.f186) Tryz.func186 rfl (n:=5) Tryz.ntmps186 (aj (ae (ah rfl rfl (ab (aj (ae (ad rfl rfl ?_)))))));refine aW rfl rfl ado (Dx _ hk hes Us hW) (fun r w1 hc=>?_);refine ah rfl rfl (ab (aQ ?_));exact aV rfl rfl hc
def gE (t:Fd):List UInt8:=t.1++[0]++t.2
theorem LP {M:aC} {t:Fd} (w0:World) (hM:Lt M w0) (h1:t.1.length≤1000000) (h2:t.2.length≤1000000):
  Spec Tryz.prog 80 #[kv t] w0 (fun v w=>v= .string ⟨(gE t).toArray⟩∧Step M w0 M w aD):=by
 refine bg (args:=[_]) (fn:=Tryz.f80) Tryz.func80 rfl (n:=9) Tryz.ntmps80 ?_;have S:Step M w0 M w0 aD:=(aw _ _).cF (fun _ h=>h.elim) (fun _ h=>h.elim);refine aj (ae ?_);refine vK (A:=RT.fd) rfl rfl hM (I0 (by omega) (by omega)) rfl (fun u0 w1 dq s0 _=>?_);replace hM:=s0.lt hM;have:=S.size;replace S:=S.aB s0;refine ah rfl rfl (ab (aj (ae ?_)));refine aL (M:=M) (A:=RT.fd) (B:=RT.str) dH rfl rfl I9 (by decide) (WL) rfl rfl (by decide) (by assumption) (by repeat (first|exact aq _ _|refine aY (bu (by assumption)) ?_)) (fun Bv mV=>?_);refine bT (M:=M) aJ rfl rfl rfl rfl rfl mV (aq _ _) (fun v1 qL=>?_);obtain rfl:=iC qL;refine Rg.cat (p:=t.1) (q:=[0]) rfl rfl rfl (by simp;omega) ?_;refine aL (M:=M) (A:=RT.fd) (B:=RT.str) dH rfl rfl I9 (by decide) (fd1) rfl rfl (by decide) (by assumption) (by repeat (first|exact aq _ _|refine aY (bu (by assumption)) ?_)) (fun Ps kD=>?_);refine bT (M:=M) aJ rfl rfl rfl rfl rfl kD (aq _ _) (fun v4 pT=>?_);obtain rfl:=iC pT;refine Rg.cat (p:=t.1++[0]) (q:=t.2) rfl rfl rfl (by simp;omega) (ah rfl rfl (ab (aQ ?_)));exact aV rfl rfl ⟨rfl,S⟩
end Go.K
namespace Go.K
open Go.Proofs
set_option maxRecDepth 10000
theorem BB (a b:List UInt8) (w:World):Spec Tryz.prog 137 #[.string ⟨a.toArray⟩,.string ⟨b.toArray⟩] w (fun v w'=>v= .int .i64 (Lib.compareBytes a b)∧w'=w):=(Any.strings_Compare Tryz.Pj ⟨a.toArray⟩ ⟨b.toArray⟩ w).mono fun e w' ⟨h1,h2⟩=>⟨_,h1,rfl,h2⟩
end Go.K
namespace Go.K
section
variable {P:Program} {r:Option Nat} {n:Nat} {L:Sl} {ds:List Deferred} {w:World} {K:Kt} {ops:Array Oper} {rest:List Oper} {d:Nat} {x:Operand} {ty:TypeId} {pos:String} {af:Array Edge}
theorem ij.tE {id:Nat} {l:List Oper} (hm:P.follows .mixedOrders=true) (dj:eE l 0=true) (h:ij P r n l L ds (w.drewN 1) K):T P r n (.region id l.toArray true) L ds w K:=by
 refine⟨fun a ha=>wpIn_region_draw fun t=>?_⟩;simp only[Region.schedule,hm,Bool.true_or,if_true,Region.linearise];obtain⟨J,h1,h2,h3,h4⟩:=h a ha;refine oD (J:=J) dj (fun {D D' a w} hi hD=>h1 D D' a w hi hD) (fun {D a' w' j o rest} hj ho pg hp lp hi hk=>h2 _ _ _ _ _ _ _ hj ho pg hp lp hi hk) h3 _ t _ a _ (by simp) (by simp[List.countP_replicate]) (fun i o h1 h2=>?_) (h1 _ _ _ _ h4 fun i _=>?_)
 ·simp[Array.getElem?_replicate]at h2
 ·simp[Array.getElem?_replicate]
theorem T.Ut {id:Nat} {l l':List Oper} (π:List Nat) (m:Nat) (fl:List Nat) (c:Nat) (N:aC) (hm:P.follows .mixedOrders=true) (Fi:xL π l=l') (ru:eE l 0=true) (hπ:lr π l.length=true) (pZ:Nat.blt m l'.length=true) (dj:eE l' 0=true) (nk:ke l' m=true) (Ci:k7 l' m fl c=true)
  (h:k4 P r n l'.toArray (l'.take m) L ds (w.drewN 1) (fun L'=>(∀j o,j∈fl→l'[j]? =some o→bX P N (w.drewN 1) L' o)∧sd P r n l'.toArray N (w.drewN 1) K c (l'.drop m) L' ds (w.drewN 1))):T P r n (.region id l.toArray true) L ds w K:=by
 subst Fi;exact ij.tE hm ru (.perm π hπ ru (xK m fl c N pZ dj nk Ci h))
theorem Rg.LQ {e:TypeId} {v:Value} (hx:ev L x=some v) (hd:Nat.blt d n=true) (k:Rg P r n ops rest ((d,.pointer (some ⟨w.heap.size,0,none⟩))::L) ds (w.alloc (.cells v.cells e (0,0))) K):
  Rg P r n ops ({dst:=some d,op:= .box e x,type:=ty,pos,after:=af,guard:=none}::rest) L ds w K:=by
 refine .op (fun _ h=>by cases h) rfl rfl hd _ (w.alloc (.cells v.cells e (0,0))) (fun ρ hρ=>?_) k;simp only[execOp,hρ x _ hx];simp[Instr.box,newVar,newRow,newObj,Sem.run]
theorem yr (w:World) (o:Obj):w.alloc o=Go.Sort.grow w #[o]:=by
 unfold World.alloc Go.Sort.grow;congr 1
theorem FX (w:World) (os:Array Obj) (q:Nat):(Go.Sort.grow w os).drewN q=Go.Sort.grow (w.drewN q) os:=rfl
end
end Go.K
namespace Go.K
open Go.Proofs
set_option maxRecDepth 10000
abbrev gm (t:Fd):Obj:= .cells #[.string ⟨t.1.toArray⟩,.string ⟨t.2.toArray⟩] 78 (0,0)
theorem LR {t:Fd} (w0:World) (h1:t.1.length≤1000000) (h2:t.2.length≤1000000):
  Spec Tryz.prog 80 #[kv t] w0 (fun v w=>v= .string ⟨(gE t).toArray⟩∧w=w0.alloc (gm t)):=by
 refine bg (args:=[_]) (fn:=Tryz.f80) Tryz.func80 rfl (n:=9) Tryz.ntmps80 (aj (ae (Rg.LQ rfl rfl ?_)));have gb:=ch w0 (gm t);change Rg _ _ _ _ _ _ _ (w0.alloc (gm t)) _;generalize hw:w0.alloc (gm t)=w1 at gb ⊢;refine ah rfl rfl (ab (aj (ae (bO (o':=0) dH rfl rfl I9 (by decide) rfl rfl (aP aJ rfl rfl rfl gb rfl (Rg.cat (p:=t.1) (q:=[0]) rfl rfl rfl (by simp;omega) (bO (o':=1) dH rfl rfl I9 (by decide) rfl rfl (aP aJ rfl rfl rfl gb rfl (Rg.cat (p:=t.1++[0]) (q:=t.2) rfl rfl rfl (by simp;omega) (ah rfl rfl (ab ?_)))))))))));refine aQ ?_;exact aV rfl rfl ⟨rfl,rfl⟩
theorem PE {s t:Fd} (w0:World) (h1:s.1.length≤1000000) (h2:s.2.length≤1000000) (h3:t.1.length≤1000000) (h4:t.2.length≤1000000):
  Spec Tryz.prog 136 #[kv s,kv t] w0 (fun v w=>v= .int .i64 (Lib.compareBytes (gE s) (gE t))∧w=((((w0.alloc (gm s)).alloc (gm t)).drewN 1).alloc (gm s)).alloc (gm t)):=by
 refine bg (args:=[_,_]) (fn:=Tryz.f136) Tryz.func136 rfl (n:=10) Tryz.ntmps136 (aj (ae (Rg.LQ rfl rfl ?_)));change Rg _ _ _ _ _ _ _ (w0.alloc (gm s)) _;refine Rg.LQ rfl rfl ?_;change Rg _ _ _ _ _ _ _ ((w0.alloc (gm s)).alloc (gm t)) _;have g1:((w0.alloc (gm s)).alloc (gm t)).heap[w0.heap.size]? =some (gm s):=(cQ aD _ _).aK (ch w0 _);have g2:=ch (w0.alloc (gm s)) (gm t);have kp:=jC aD (((w0.alloc (gm s)).alloc (gm t)).drewN 1);refine ah rfl rfl (ab (aj ?_));apply T.Ut [0,2,1,3,4,5] 2 [1] 1 aD mixed
 ·simp+decide only[xL,sf,eR,jY,jb,jc,fq,db,im,pR,cond_true,cond_false,Nat.reduceBEq,Nat.reduceAdd,beq_self_eq_true];rfl
 ·rfl
 ·rfl
 ·rfl
 ·rfl
 ·rfl
 ·rfl
 have g1':(((w0.alloc (gm s)).alloc (gm t)).drewN 1).heap[w0.heap.size]? =some (gm s):=g1;have g2':(((w0.alloc (gm s)).alloc (gm t)).drewN 1).heap[(w0.alloc (gm s)).heap.size]? =some (gm t):=g2;refine iq (vs:=[.string ⟨s.1.toArray⟩,.string ⟨s.2.toArray⟩]) dH rfl An rfl rfl rfl g1' ?_;refine ab ⟨rfl,rfl,rfl,?_⟩;refine iq (vs:=[.string ⟨t.1.toArray⟩,.string ⟨t.2.toArray⟩]) dH rfl An rfl rfl rfl g2' ?_;refine ab ⟨rfl,rfl,rfl,?_⟩;refine eQ ?_;refine⟨iH ⟨eC rfl (by assumption) (by first|assumption|exact fun h=>h|(intro h;have h:_=_:=h;omega)),trivial⟩,?_⟩;replace kp:=kp.qV (cQ aD (((w0.alloc (gm s)).alloc (gm t)).drewN 1) (gm s));refine aW rfl rfl E80 (LR (t:=s) _ h1 h2) (fun r5 w5 hc=>?_);obtain⟨rfl,rfl⟩:=hc;refine(fun(kp:eJ _ _ _)=>ab ⟨rfl,rfl,fun _=>kp,?_⟩) (by first|exact kp|exact kp.qV (by assumption)|exact kp.goN (by assumption)|exact kp.go (by assumption) (fun _ _ h=>by first|exact h|exact h.elim));refine aW rfl rfl E80 (LR (t:=t) _ h3 h4) (fun r6 w6 hc=>?_);obtain⟨rfl,rfl⟩:=hc;refine ab ⟨rfl,rfl,fun h=>absurd rfl h,?_⟩;refine aW rfl rfl ac2 (BB _ _ _) (fun r7 w7 hc=>?_);obtain⟨rfl,rfl⟩:=hc;refine ab ⟨rfl,rfl,fun h=>absurd rfl h,?_⟩;refine ah rfl rfl ?_;refine ab ⟨rfl,rfl,fun h=>absurd rfl h,?_⟩;refine mH (aQ ?_);exact aV rfl rfl ⟨rfl,rfl⟩
end Go.K
namespace Go.K
open Go.Lib (compareBytes)
theorem nW (a b:UInt8) (x y:List UInt8):compareBytes (a::x) (b::y)=if a.toNat<b.toNat then-1 else if b.toNat<a.toNat then 1 else compareBytes x y:=by
 rw[compareBytes];simp only[UInt8.lt_iff_toNat_lt]
theorem yt:∀a,compareBytes a a=0
 |[]=>rfl
 |a::x=>by rw[nW,if_neg (ju _),if_neg (ju _)];exact yt x
theorem qo:∀{a b},compareBytes a b=0→a=b
 |[],[],_=>rfl
 |[],_::_,h=>by simp[compareBytes]at h
 |_::_,[],h=>by simp[compareBytes]at h
 |a::x,b::y,h=>by
  rw[nW]at h
  split at h
  ·omega
  ·split at h
   ·omega
   ·rw[qo h,UInt8.toNat_inj.1 (show a.toNat=b.toNat by omega)]
theorem oV:∀a b,compareBytes a b= -compareBytes b a
 |[],[]=>rfl
 |[],_::_=>rfl
 |_::_,[]=>rfl
 |a::x,b::y=>by
  rw[nW,nW,oV x y]
  split<;>split<;>first|omega|rfl
theorem qM:∀{a b c},compareBytes a b<0→compareBytes b c<0→compareBytes a c<0
 |[],[],_,h,_=>by simp[compareBytes]at h
 |_::_,[],_,h,_=>by simp[compareBytes]at h
 |_,_::_,[],_,h=>by simp[compareBytes]at h
 |[],_::_,_::_,_,_=>by simp[compareBytes]
 |a::x,b::y,c::z,h1,h2=>by
  rw[nW]at h1 h2 ⊢
  split at h1
  ·split at h2
   ·rw[if_pos (by omega)];omega
   ·split at h2
    ·omega
    ·rw[if_pos (by omega)];omega
  ·split at h1
   ·omega
   ·split at h2
    ·rw[if_pos (by omega)];omega
    ·split at h2
     ·omega
     ·rw[if_neg (by omega),if_neg (by omega)];exact qM h1 h2
theorem HC {α:Type} (f:α→List UInt8):Go.Sort.SWO (Go.Proofs.ltOf fun x y=>compareBytes (f x) (f y)) where
 irrefl x:=by simp[Go.Proofs.ltOf,yt]
 trans x y z h1 h2:=by
  simp only[Go.Proofs.ltOf,decide_eq_true_eq]at*
  exact qM h1 h2
 ntrans x y z h1 h2:=by
  simp only[Go.Proofs.ltOf,decide_eq_false_iff_not]at*
  intro h3;by_cases e1:compareBytes (f x) (f y)=0
  ·rw[qo e1]at h3;exact h2 h3
  ·by_cases e2:compareBytes (f y) (f z)=0
   ·rw[qo e2]at h1;exact h1 h3
   ·have n1:=oV (f x) (f y);have n2:=oV (f y) (f z);have n3:=oV (f x) (f z);have:compareBytes (f z) (f x)<0:=qM (b:=f y) (by omega) (by omega);omega
end Go.K
namespace Go.Proofs
open Go.Shelf
def Tryz.FY:Go.Shelf.Ren:=⟨fun|6=>187|15=>115|14=>238|28=>172|29=>173|20=>272|21=>273|22=>274|23=>275|24=>276|25=>277|26=>278|27=>279|46=>294|47=>218|48=>219|49=>295|50=>296|57=>303|n=>n,fun|22=>155|24=>78|25=>225|3=>3|39=>189|0=>0|53=>257|55=>190|4=>4|46=>251|45=>250|50=>202|5=>5|9=>9|66=>296|70=>300|76=>327|77=>328|n=>n,fun|n=>n⟩
theorem Tryz.LS:Go.Proofs.SlLaysF0.n6 Tryz.prog Tryz.FY:={
 mixed:=by kernel_rfl
 f6:=⟨Tryz.f187.name,by decide,Tryz.func187.trans (congrArg some (by kernel_rfl))⟩
 f14:=⟨Tryz.f238.name,by decide,Tryz.func238.trans (congrArg some (by kernel_rfl))⟩
 f15:=Tryz.func115.trans (congrArg some (by kernel_rfl))
 f20:=⟨Tryz.f272.name,by decide,Tryz.func272.trans (congrArg some (by kernel_rfl))⟩
 f21:=⟨Tryz.f273.name,by decide,Tryz.func273.trans (congrArg some (by kernel_rfl))⟩
 f22:=⟨Tryz.f274.name,by decide,Tryz.func274.trans (congrArg some (by kernel_rfl))⟩
 f23:=⟨Tryz.f275.name,by decide,Tryz.func275.trans (congrArg some (by kernel_rfl))⟩
 f24:=⟨Tryz.f276.name,by decide,Tryz.func276.trans (congrArg some (by kernel_rfl))⟩
 f25:=⟨Tryz.f277.name,by decide,Tryz.func277.trans (congrArg some (by kernel_rfl))⟩
 f26:=⟨Tryz.f278.name,by decide,Tryz.func278.trans (congrArg some (by kernel_rfl))⟩
 f27:=⟨Tryz.f279.name,by decide,Tryz.func279.trans (congrArg some (by kernel_rfl))⟩
 f28:=Tryz.func172.trans (congrArg some (by kernel_rfl))
 f29:=Tryz.func173.trans (congrArg some (by kernel_rfl))
 f46:=⟨Tryz.f294.name,by decide,Tryz.func294.trans (congrArg some (by kernel_rfl))⟩
 f47:=Tryz.func218.trans (congrArg some (by kernel_rfl))
 f48:=Tryz.func219.trans (congrArg some (by kernel_rfl))
 f49:=⟨Tryz.f295.name,by decide,Tryz.func295.trans (congrArg some (by kernel_rfl))⟩
 f50:=⟨Tryz.f296.name,by decide,Tryz.func296.trans (congrArg some (by kernel_rfl))⟩
 f57:=⟨Tryz.f303.name,by decide,Tryz.func303.trans (congrArg some (by kernel_rfl))⟩
 t0:=fG
 a0:=lA
 z0:=jZ
 v0:=gG
 t3:=ax
 a3:=lB
 z3:=j0
 v3:=gH
 t4:=ey
 a4:=rh
 z4:=nF
 v4:=jx
 t5:=cz
 a5:=Tryz.isAgg5
 z5:=Tryz.sizeOf5
 v5:=tb
 t9:=aJ
 a9:=lC
 z9:=j3
 v9:=gI
 t22:=jM
 a22:=Tryz.isAgg155
 z22:=Tryz.sizeOf155
 v22:=Tryz.zeroValue155
 t25:=Tryz.underlying225
 a25:=Tryz.isAgg225
 z25:=Tryz.sizeOf225
 v25:=Tryz.zeroValue225
 t39:=jL
 a39:=Tryz.isAgg189
 z39:=Tryz.sizeOf189
 v39:=Tryz.zeroValue189
 t45:=Tryz.underlying250
 a45:=Tryz.isAgg250
 z45:=Tryz.sizeOf250
 v45:=Tryz.zeroValue250
 t46:=Tryz.underlying251
 a46:=Tryz.isAgg251
 z46:=Tryz.sizeOf251
 v46:=Tryz.zeroValue251
 t50:=Tryz.underlying202
 a50:=Tryz.isAgg202
 z50:=Tryz.sizeOf202
 v50:=Tryz.zeroValue202
 t53:=Tryz.underlying257
 a53:=Tryz.isAgg257
 z53:=Tryz.sizeOf257
 v53:=Tryz.zeroValue257
 t55:=rS
 a55:=Tryz.isAgg190
 z55:=Tryz.sizeOf190
 v55:=Tryz.zeroValue190
 t66:=Tryz.underlying296
 a66:=Tryz.isAgg296
 z66:=Tryz.sizeOf296
 v66:=Tryz.zeroValue296
 t70:=Tryz.underlying300
 a70:=Tryz.isAgg300
 z70:=Tryz.sizeOf300
 v70:=Tryz.zeroValue300
 t76:=Tryz.underlying327
 a76:=Tryz.isAgg327
 z76:=Tryz.sizeOf327
 v76:=Tryz.zeroValue327
 t77:=Tryz.underlying328
 a77:=Tryz.isAgg328
 z77:=Tryz.sizeOf328
 v77:=Tryz.zeroValue328}
end Go.Proofs
namespace Go.K
open Go.Proofs
set_option maxRecDepth 10000
open Go.Proofs Go.Sort
abbrev TK:Type:={t:Fd // (0:UInt8)∉t.1∧t.1.length≤1000000∧t.2.length≤1000000}
instance aka:Inhabited TK:=⟨⟨([],[]),by simp,by simp,by simp⟩⟩
def zN (x:TK):List Value:=[.string ⟨x.1.1.toArray⟩,.string ⟨x.1.2.toArray⟩]
def JX (x y:TK):Int:=Lib.compareBytes (gE x.1) (gE y.1)
theorem yu:∀{a b x y:List UInt8},(0:UInt8)∉a→(0:UInt8)∉b→a++[0]++x=b++[0]++y→a=b∧x=y
 |[],[],_,_,_,_,h=>⟨rfl,by simpa using h⟩
 |[],c::b,_,_,_,hb,h=>by
  simp at h;exact absurd (by rw[←h.1];exact bK ..) hb
 |c::a,[],_,_,ha,_,h=>by
  simp at h;exact absurd (by rw[h.1];exact bK ..) ha
 |c::a,e::b,x,y,ha,hb,h=>by
  simp only[kF,List.cons.injEq]at h;obtain⟨h1,h2⟩:=yu (fun h=>ha (bZ _ h)) (fun h=>hb (bZ _ h)) h.2;exact⟨by rw[h.1,h1],h2⟩
theorem aeI (w:World):(isAgg 78).run Tryz.prog w= .ok true w:=by simp[isAgg,cj,run_underlying dH]
theorem YD (w:World):(Go.sizeOf 78).run Tryz.prog w= .ok 2 w:=by
 obtain⟨i,h1,_,h2,_⟩:=An.get;simp[Go.sizeOf,typeInfo,cj,program,Sem.run,h1,h2]
theorem LU (fC off size:Nat) (w:World):CmpLays Tryz.prog 136 #[] zN 2 JX fC off size w:=fun m os dk hs x y=>
 (show Calls Tryz.prog 136 #[kv x.1,kv y.1] (sortWorldK zN 2 w fC off m dk os) (fun e w'=>∃v,e= .returned v∧_∧_)from PE (s:=x.1) (t:=y.1) _ x.2.2.1 x.2.2.2 y.2.2.1 y.2.2.2).mono fun e w' ⟨v,h1,h2,h3⟩=>⟨by rw[h1,h2];rfl,1,#[gm x.1,gm y.1,gm x.1,gm y.1],by rw[h3];simp only[yr,FX,Go.Sort.grow_grow];rfl⟩
theorem YE (fC off cap:Nat) (d:Array TK) (w:World) (hH:HoldsK zN 2 w fC off d) (hblk:fC<w.heap.size) (jI:d.size<4611686018427387904):
  Spec Tryz.prog 187 #[.slice (some ⟨fC,off,none⟩) d.size cap,.func (.func 136) #[] #[]] w (fun v w'=>v= .tuple #[]∧∃n os,w'=sortWorldK zN 2 w fC off n (d.toList.mergeSort fun x y=> !(Go.Proofs.ltOf JX) y x).toArray os):=by
 exact(Go.Proofs.AnyQ.slices_SortFunc_total Tryz.LS 2 aeI YD zN (fun _=>rfl) (fun x v hv=>by simp[zN]at hv;rcases hv with rfl|rfl<;>rfl) JX (HC _) 136 #[] fC off cap d w ac1 (LU fC off d.size w) hH hblk jI (fun x y h1 h2=>by
  have h0:JX x y=0:=by
   have:=oV (gE x.1) (gE y.1);simp only[Go.Proofs.ltOf,decide_eq_false_iff_not]at h1 h2;unfold JX at h1 h2 ⊢;omega
  have h3:=qo h0;obtain⟨h4,h5⟩:=yu x.2.1 y.2.1 h3;exact Subtype.ext (Prod.ext h4 h5))).mono fun e w' ⟨h1,h2⟩=>⟨_,h1,rfl,h2⟩
end Go.K
namespace Go.K
set_option linter.unusedSectionVars false
open Go.Sort Go.Proofs
section
variable {α:Type} [Inhabited α] {enc:α→List Value} {k:Nat}
theorem vZ (hk:∀x,(enc x).length=k) (h0:0<k):∀(l:List α) (t:Nat),(l.flatMap enc)[t]? =(l[t/k]?).bind fun x=>(enc x)[t%k]?
 |[],t=>by simp
 |x::l,t=>by
  rw[rN];rcases cy t k with h|h
  ·rw[iv (by rw[hk];exact h),Nat.div_eq_of_lt h,uw h];rfl
  ·rw[List.getElem?_append_right (by rw[hk];exact h),hk,vZ hk h0 l];have e1:t/k=(t-k)/k+1:=by rw[Nat.div_eq t k,if_pos ⟨h0,h⟩]
   have e2:(t-k)%k=t%k:=by rw[Nat.mod_eq t k,if_pos ⟨h0,h⟩]
   rw[e1,e2,List.getElem?_cons_succ]
theorem mY (hk:∀x,(enc x).length=k):∀l:List α,(l.flatMap enc).length=l.length*k
 |[]=>by simp
 |x::l=>by rw[rN,bj,hk,mY hk l,cM,Nat.add_mul];omega
theorem yv (hk:∀x,(enc x).length=k) (h0:0<k) (d:Array α) {t:Nat} (ht:t<d.size*k):(d.toList.flatMap enc)[t]? =some (flatK enc k d)[t]! :=by
 have h1:t/k<d.size:=Nat.div_lt_of_lt_mul (by rw[Nat.mul_comm];exact ht);have h2:t%k<k:=Nat.mod_lt _ h0;rw[vZ hk h0,get_flatK _ _ _ _ ht];have e:d.toList[t/k]? =some d[t/k]! :=by simp[h1]
 rw[e];simp[hk,h2]
theorem Ay {w:World} {g:Nat} {cur:Array Value} {e:TypeId} {d:Array α} (hk:∀x,(enc x).length=k) (h0:0<k) (hg:w.heap[g]? =some (.cells cur e (0,0))) (hC:cur.toList.take (d.size*k)=d.toList.flatMap enc):HoldsK enc k w g 0 d:=fun j hj=>by
 rw[size_flatK]at hj;have h1:=yv hk h0 d hj;rw[←hC,cp,if_pos hj,Array.getElem?_toList]at h1;constructor
 ·simp[World.cell?,hg,h1]
 ·simp[World.frozen?,hg]
theorem rD {w:World} {g n:Nat} {cur:Array Value} {e:TypeId} {d:Array α} {os:Array Obj} (hg:w.heap[g]? =some (.cells cur e (0,0))):(sortWorldK enc k w g 0 n d os).heap[g]? =some (.cells (putCells id 0 (flatK enc k d) cur) e (0,0)):=by
 have dQ:g<w.heap.size:=ak hg
 have h1:(w.heap.modify g (onCells (putCells id 0 (flatK enc k d))))[g]? =some (.cells (putCells id 0 (flatK enc k d) cur) e (0,0)):=by
  rw[jE,if_pos rfl,hg];rfl
 show((w.heap.modify g (onCells (putCells id 0 (flatK enc k d))))++os)[g]? =_;rw[Array.getElem?_append_left (by simpa using dQ)];exact h1
theorem pB {w:World} {g n:Nat} {d:Array α} {os:Array Obj}:Step allM w allM (sortWorldK enc k w g 0 n d os) (fun b=>b=g):=
 ⟨fun h=>absurd (h w.heap.size trivial) (ju _),rfl,rfl,rfl,by show _≤((w.heap.modify g _)++os).size;simp,fun _ _=>Iff.rfl,fun b hb hn=>by
  have hn: ¬b=g:=hn;show((w.heap.modify g (onCells (putCells id 0 (flatK enc k d))))++os)[b]? =_;rw[Array.getElem?_append_left (by simpa using hb),jE,if_neg (fun h=>hn h.symm)],fun _ _=>trivial⟩
theorem rE {F cur:Array Value} (h:F.size≤cur.size):(putCells id 0 F cur).toList.take F.size=F.toList:=by
 apply eZ;intro j;rw[cp];by_cases hj:j<F.size
 ·rw[if_pos hj];simp[putCells,hj,jy hj h]
 ·rw[if_neg hj,dN (by simpa using hj)]
theorem tK (hk:∀x,(enc x).length=k) (h0:0<k) (d:Array α):(flatK enc k d).toList=d.toList.flatMap enc:=by
 apply eZ;intro j;by_cases hj:j<d.size*k
 ·rw[yv hk h0 d hj];have:j<(flatK enc k d).size:=by rw[size_flatK];exact hj
  rw[Array.getElem?_toList,getElem!_pos _ j this];exact Array.getElem?_eq_getElem this
 ·rw[dN (by rw[zp,size_flatK];omega),dN (by rw[mY hk,zp];omega)]
end
end Go.K
namespace Go.K
open Go.Proofs
set_option maxRecDepth 10000
open Go.Proofs Go.Sort
theorem HD:∀{ts:List Fd} {C:List Value} {M:aC} {w:World},dZ RT.fd M w ts C→C=ts.flatMap fun t=>[.string ⟨t.1.toArray⟩,.string ⟨t.2.toArray⟩]
 |[],C,_,_,h=>h
 |t::ts,C,_,_,⟨vs,r,h1,h2,h3⟩=>by
  obtain⟨va,vb,rfl,h4,h5⟩:=h2;rw[h1,HD h3,h4.1,h5.1];rfl
theorem Dy {M:aC} {w:World}:∀{ts:List Fd},(∀t∈ts,t.1.length≤1000000∧t.2.length≤1000000)→dZ RT.fd M w ts (ts.flatMap fun t=>[.string ⟨t.1.toArray⟩,.string ⟨t.2.toArray⟩])
 |[],_=>rfl
 |t::ts,h=>by
  obtain⟨h1,h2⟩:=h t (bK ..);exact⟨_,_,rfl,⟨_,_,rfl,⟨rfl,by omega⟩,⟨rfl,by omega⟩⟩,Dy fun u hu=>h u (bZ _ hu)⟩
def LV (us:List Fd):Prop:=us.Pairwise fun a b=>¬Lib.compareBytes (gE b) (gE a)<0
theorem zO {base:Nat} {v:Value} {ts:List Fd} (w0:World) (ho:Own RT.fd 78 (mL v) w0 base v ts) (hT:∀t∈ts,(0:UInt8)∉t.1∧t.1.length≤1000000∧t.2.length≤1000000) (hl:ts.length≤100000000):
  Spec Tryz.prog 187 #[v,.func (.func 136) #[] #[]] w0 (fun r w=>r= .tuple #[]∧∃us:List Fd,us.Perm ts∧LV us∧Own RT.fd 78 (mL v) w base v us∧Step allM w0 allM w (mL v)):=by
 obtain⟨⟨C,⟨hC,hr⟩,hA⟩,hm⟩:=ho;rcases hr with⟨rfl,h0⟩|⟨g,cap,cur,rfl,hb,hg,hle,Uu,JY,qT⟩
 ·have Kr:ts=[]:=cT.1 h0;subst Kr;exact(AnyF.slices_SortFunc_none Tryz.LS none 0 _ w0).mono fun e w' ⟨h1,h2⟩=>⟨_,h1,rfl,[],.refl _,List.Pairwise.nil,dz _ _ _ _ _,by rw[h2];exact(aw allM w0).cF (fun _ h=>h.elim) (fun _ _=>trivial)⟩
 ·obtain⟨d,hd⟩:∃d:Array TK,d.toList.map (·.1)=ts:=⟨(ts.attach.map fun x=>(⟨x.1,hT x.1 x.2⟩:TK)).toArray,by rw[List.toList_toArray,List.map_map];exact List.attach_map_subtype_val ts⟩;have jI:d.size=ts.length:=by rw[←hd];simp
  have hk:∀x:TK,(zN x).length=2:=fun _=>rfl
  have FZ:∀l:List TK,(l.map (·.1)).flatMap (fun t:Fd=>[Value.string ⟨t.1.toArray⟩,.string ⟨t.2.toArray⟩])=l.flatMap zN:=fun l=>by rw[List.flatMap_map];rfl
  have hH:HoldsK zN 2 w0 g 0 d:=Ay hk (by omega) hg (by
   have e2:RT.fd.n=2:=rfl;rw[e2]at qT;rw[jI,qT,HD hA,←hd,FZ])
  have hs:=YE g 0 cap d w0 hH (ak hg) (by omega);rw[jI]at hs;refine hs.mono fun r w' ⟨h1,n,os,h2⟩=>⟨h1,(d.toList.mergeSort fun x y=> !(ltOf JX) y x).map (·.1),?_,?_,?_,?_⟩
  ·rw[←hd];exact(jd _ _).map _
  ·refine cA.2 ((List.pairwise_mergeSort (fun a b c h1 h2=>?_) (fun a b=>?_) _).imp fun h=>?_)
   ·simp only[ltOf,iV,decide_eq_false_iff_not]at*
    have:=(HC fun x:TK=>gE x.1).ntrans c b a (by simpa[ltOf,JX]using h2) (by simpa[ltOf,JX]using h1);simpa[ltOf,JX]using this
   ·simp only[ltOf,jT,iV,decide_eq_false_iff_not];have:=oV (gE a.1) (gE b.1);unfold JX;omega
   ·rw[iV]at h;exact of_decide_eq_false h
  ·have hp:=jd d.toList fun x y=> !(ltOf JX) y x
   rw[h2];generalize (d.toList.mergeSort fun x y=> !(ltOf JX) y x)=us at hp;have JZ:(us.map (·.1)).length=ts.length:=by rw[aH,hp.length_eq,zp,jI]
   have zC:us.toArray.size*2=ts.length*2:=by rw[←JZ];simp
   have e2:RT.fd.n=2:=rfl;refine⟨⟨(us.map (·.1)).flatMap (fun t:Fd=>[Value.string ⟨t.1.toArray⟩,.string ⟨t.2.toArray⟩]),⟨?_,.inr ⟨g,cap,_,by rw[JZ],hb,rD hg,by rw[JZ];exact hle,Uu,by rw[←JY];simp[putCells],?_⟩⟩,Dy fun t ht=>?_⟩,hm⟩
   ·rw[FZ,mY hk,aH,e2]
   ·rw[FZ,JZ,e2,←zC,←size_flatK zN,rE (by rw[size_flatK,zC,JY,e2];omega),tK hk (by omega)]
   ·obtain⟨x,_,rfl⟩:=ca.1 ht;exact x.2.2
  ·rw[h2];exact pB.cF (fun b hb=>by have hb:b=g:=hb;subst hb;rfl) (fun _ _=>trivial)
end Go.K
namespace Go.K
open Go.Proofs
set_option maxRecDepth 10000
theorem Dz {bs mb clock:Nat} {es:List MapEntry} (w0:World) (hk:HA es) (hT:∀e∈es,∀t,e.key=kv t→(0:UInt8)∉t.1∧t.1.length≤1000000∧t.2.length≤1000000) (hes:es.length≤100000000) (hlen:∀ts:List Fd,ts.Nodup→(∀t∈ts,∃e∈es,e.key=kv t)→ts.length≤100000000) (Us:w0.heap[bs]? =some (.cells #[.map (some mb)] 217 (0,0))) (hW:fE Tryz.prog 78 w0 mb es clock):
  Spec Tryz.prog 134 #[.func (.func 188) #[] [.pointer (some ⟨bs,0,none⟩)].toArray,.func (.func 136) #[] #[]] w0 (fun v w=>∃us:List Fd,us.Nodup∧(∀t,t∈us↔∃e∈es,e.key=kv t)∧LV us∧Own RT.fd 78 (mL v) w w0.heap.size v us∧Step allM w0 allM w aD):=by
 refine bg (args:=[_,_]) (fn:=Tryz.f134) Tryz.func134 rfl (n:=12) Tryz.ntmps134 (aj (ae (ah rfl rfl (ab (aj (ae (ad rfl rfl ?_)))))));refine aW rfl rfl ac8 (BA _ hk hes Us hW) (fun v1 w1 hc=>?_);obtain⟨ts,om,kg,ho,s1⟩:=hc;refine ah rfl rfl (ab (aj (ae (ad rfl rfl (ad rfl rfl ?_)))));refine aW rfl rfl ac9 (zO _ ho (fun t ht=>by obtain⟨e,he,hke⟩:=(kg t).1 ht;exact hT e he t hke) (hlen ts om fun t ht=>(kg t).1 ht)) (fun r2 w2 hc=>?_);obtain⟨rfl,us,hp,SN,YF,s2⟩:=hc;refine ab (aj (ae (ad rfl rfl (ah rfl rfl (ab (aQ ?_))))));exact aV rfl rfl ⟨us,hp.nodup_iff.2 om,fun t=>hp.mem_iff.trans (kg t),SN,YF,s1.trans s2 (fun k hk hn=>by have:=(ho.base k hn).1;omega)⟩
theorem F0 {mb:Nat} (w0:World):
  Spec Tryz.prog 135 #[.map (some mb)] w0 (fun v w=>∃bs,v= .func (.func 188) #[] [.pointer (some ⟨bs,0,none⟩)].toArray∧w.heap[bs]? =some (.cells #[.map (some mb)] 217 (0,0))∧w0.heap.size≤bs∧Step allM w0 allM w aD):=by
 refine bg (args:=[_]) (fn:=Tryz.f135) Tryz.func135 rfl (n:=4) Tryz.ntmps135 (aj (ae ?_));refine wJ allM rfl rfl (fun bs w1 Bk Hb gs s1=>?_);change w1.heap[bs]? =some (.cells #[.map (some mb)] 217 (0,0))at gs;replace s1:=s1.all;refine ah rfl rfl (ab (aj (ae (j5 (xs:=[]) (ys:=[.tmp 1]) rfl rfl rfl (ah rfl rfl (ab (aQ ?_)))))));exact aV rfl rfl ⟨bs,rfl,gs,Bk,s1⟩
end Go.K
namespace Go.K
open Go.Proofs
set_option maxRecDepth 10000
def posOf (ts:List (Fd×Nat)) (t:Fd):List Int:=(ts.filter fun p=>decide (p.1=t)).map fun p=>(p.2:Int)
def seen (ts:List (Fd×Nat)):List Fd:=ts.foldl (fun l p=>if p.1∈l then l else l++[p.1]) []
theorem I1 (ts:List (Fd×Nat)) (t:Fd) (i:Nat):seen (ts++[(t,i)])=if t∈seen ts then seen ts else seen ts++[t]:=by unfold seen;rw[rQ];rfl
theorem yw (ts:List (Fd×Nat)) (t t':Fd) (i:Nat):posOf (ts++[(t,i)]) t'=if t=t' then posOf ts t'++[(i:Int)]else posOf ts t':=by
 unfold posOf;rw[List.filter_append];by_cases h:t=t'<;>simp[h]
theorem uX (ts:List (Fd×Nat)) (t:Fd):(posOf ts t).length≤ts.length:=by
 unfold posOf;rw[aH];exact jF _ _
abbrev kM:Value:= .slice none 0 0
structure I2 (M:aC) (w:World) (B:Nat) (ts:List (Fd×Nat)) (es:List MapEntry):Prop where
 o:∀t v,ew kM es (kv t) v→Own (RT.int .i64) 3 M w B v (posOf ts t)
 a:∀t t' v v',t≠t'→ew kM es (kv t) v→ew kM es (kv t') v'→gN v v'
 k:es.map (·.key)=(seen ts).map kv
theorem I2.aM {M M':aC} {w w':World} {B:Nat} {ts:List (Fd×Nat)} {es:List MapEntry} (h:I2 M w B ts es) (s:Step M w M' w' aD):I2 M' w' B ts es:=⟨fun t v hv=>(h.o t v hv).aM s,h.a,h.k⟩
def IJ (bt mb B:Nat) (ts:List (Fd×Nat)) (M:aC) (w:World):Prop:=w.heap[bt]? =some (.cells #[.map (some mb)] 217 (0,0))∧M bt∧M mb∧B≤bt∧B≤mb∧∃es clock,fE Tryz.prog 78 w mb es clock∧I2 M w B ts es
theorem Own.kN {α:Type} {A:RT α} {e:TypeId} {M:aC} {w:World} {base b c:Nat} {a:Array MapEntry} {v:Value} {xs:List α} (h:Own A e M w base v xs) (hb:w.heap[b]? =some (.map a c)):v.ownBlock≠some b:=fun hv=>by
 obtain⟨⟨C,h1,_⟩,_⟩:=h;rcases h1.2 with⟨h2,_⟩|⟨g,cap,cur,h2,_,h3,_⟩
 ·rw[h2]at hv;cases hv
 ·rw[h2]at hv;cases hv;rw[h3]at hb;cases hb
theorem tL {ts:List (Fd×Nat)} {es:List MapEntry} {t:Fd} (hk:es.map (·.key)=(seen ts).map kv):(∃e∈es,e.key=kv t)↔t∈seen ts:=by
 constructor
 ·rintro⟨e,he,h⟩;have:kv t∈(seen ts).map kv:=by rw[←hk,←h];exact hY he
  obtain⟨t',h1,h2⟩:=ca.1 this;rw[←uW h2];exact h1
 ·intro h;have:kv t∈es.map (·.key):=by rw[hk];exact hY h
  obtain⟨e,h1,h2⟩:=ca.1 this;exact⟨e,h1,h2⟩
theorem I6 {M:aC} {bt mb B:Nat} {ts:List (Fd×Nat)} {t:Fd} {i:Nat} (w0:World) (hM:Lt M w0) (h1:t.1.length≤900000) (h2:t.2.length≤140737488355328) (hi:i≤1000000) (Kr:ts.length≤10000000) (hJ:IJ bt mb B ts M w0):
  Spec Tryz.prog 133 #[kv t,.int .i64 (i:Int),.pointer (some ⟨bt,0,none⟩)] w0 (fun v w=>∃M',Lt M' w∧IJ bt mb B (ts++[(t,i)]) M' w∧Step M w0 M' w (lG M B)):=by
 obtain⟨gb,eh,eY,hB,HE,es,clock,hW,hI⟩:=hJ;refine bg (args:=[_,_,_]) (fn:=Tryz.f133) Tryz.func133 rfl (n:=13) Tryz.ntmps133 ?_;have S:Step M w0 M w0 (lG M B):=(aw _ _).cF (fun _ h=>h.elim) (fun _ h=>h.2);refine aj (ae ?_);refine vK (A:=RT.fd) rfl rfl hM (I0 (by omega) h2) rfl (fun u0 w1 dq s0 _=>?_);have:=ak gb;replace eh:=(s0.mem _ this).2 eh;replace gb:=s0.aK gb;replace eY:=(s0.mem _ (ak hW.at_)).2 eY;replace hW:=hW.aM s0;replace hI:=hI.aM s0;replace hM:=s0.lt hM;have:=S.size;replace S:=S.aB s0;refine ab (ae (aP lY rfl rfl rfl (by assumption) rfl ?_));refine dg (M:=M) (A:=RT.fd) dH rfl An (by decide) rfl rfl rfl dq (aq _ _) (fun v1 qL=>?_);obtain rfl:=sy qL;refine ad rfl rfl ?_;refine eg (A:=RT.int .i64) (hn:=by decide) (M:=M) an I3 (by decide) rfl rfl hM (fI (by omega)) (.inr ⟨rfl,rfl⟩) (fun Ps IP kD s1_3=>?_);have:=ak gb;replace eh:=(s1_3.mem _ this).2 eh;replace gb:=s1_3.aK gb;replace dq:=dq.le (by decide) s1_3.le;replace eY:=(s1_3.mem _ (ak hW.at_)).2 eY;replace hW:=hW.aM s1_3;replace hI:=hI.aM s1_3;replace hM:=s1_3.lt hM;have:=S.size;replace S:=S.aB s1_3;obtain⟨kl,Fb⟩:=LL t (by omega) h2;refine Rg.mapEntry (M:=M) (zv:=kM) lY Av j7 rfl rfl rfl Fb hW eY (fun w4 es4 cl4 v s WQ hv kg F1 SX s4=>?_);have F2:∀t v,ew kM es (kv t) v→v.ownBlock≠some mb:=fun t v h=>(hI.o t v h).kN hW.at_
 have RE:bt≠mb:=fun e=>by subst e;have:=hW.at_;rw[gb]at this;cases this
 replace hI:I2 M w4 B ts es:=⟨fun t v hv=>(hI.o t v hv).step s4 (fun b hb hk=>F2 t v hv (by have hk:b=mb:=hk;rw[←hk];exact hb)),hI.a,hI.k⟩;have YG:=(s4.mem _ (ak hW.at_)).2 eY;replace eh:=(s4.mem _ (ak gb)).2 eh;replace gb:=s4.keep gb RE;replace kD:=kD.le s4.le;replace hM:=s4.lt hM;have hmM:∀b,b<w0.heap.size→M b→M b:=fun b hb h=>(S.mem b hb).1 h
 have hz0:=S.size;replace S:=S.trans s4 (fun k hk h=>by have h:k=mb:=h;subst h;exact⟨HE,hmM k hk eY⟩);have rF:=hI.o t v hv;have sV:=uX ts t;refine bV rfl rfl rfl ?_;refine kx (M:=M) (base:=B) an I3 rfl rfl rfl rfl rF kD (aq _ _) (by simp;omega) (by simp;omega) (by have:=ak gb;omega) (fun v6 w6 tJ s6 hF=>?_);have hblk:∀b,fC v b→B≤b∧M b:=fun b h=>⟨(rF.base b h).1,rF.mut_ b h⟩
 have ta:∀t' v',t'≠t→ew kM es (kv t') v'→gN v' v:=fun t' v' eN rq=>hI.a t' t v' v eN rq hv
 have PF:∀t' v',t'≠t→ew kM es (kv t') v'→Own (RT.int .i64) 3 (jh M v6) w6 B v' (posOf ts t'):=fun t' v' eN rq=>(hI.o t' v' rq).step s6 (fun b hb hk=>ta t' v' eN rq b hb hk)
 have jI:∀t' v',ew kM es (kv t') v'→∀b,v'.ownBlock=some b→b<w4.heap.size:=fun t' v' rq b hb=>((hI.o t' v' rq).base b hb).2
 have LW:∀t' v',t'≠t→ew kM es (kv t') v'→gN v6 v':=fun t' v' eN rq=>(ta t' v' eN rq).symm.grown hF (jI t' v' rq)
 have aeJ:v.ownBlock≠some mb:=rF.kN WQ.at_;have LX:=(s6.mem _ (ak WQ.at_)).2 YG;replace WQ:=WQ.step s6 aeJ;replace eh:=(s6.mem _ (ak gb)).2 eh;replace gb:=s6.keep gb (fun h=>rF.eM gb (by decide) h);replace hM:=s6.lt hM;have aeK:∀b,b<w0.heap.size→M b→M b:=fun b hb h=>(S.mem b hb).1 h
 replace S:=S.trans s6 (fun k hk h=>⟨(hblk k h).1,aeK k hk (hblk k h).2⟩);refine bV rfl rfl rfl ?_;have YH:=WQ.at_;refine Rg.entryStore rfl rfl rfl WQ LX kg (fun w8 es8 hW8 pz YI s8=>?_);have hm8:v6.ownBlock≠some mb:=tJ.kN YH;replace tJ:=tJ.step s8 (fun b hb hk=>hm8 (by have hk:b=mb:=hk;rw[←hk];exact hb));have YJ:∀t' v',t'≠t→ew kM es (kv t') v'→Own (RT.int .i64) 3 _ w8 B v' (posOf ts t'):=fun t' v' eN rq=>(PF t' v' eN rq).step s8 (fun b hb hk=>F2 t' v' rq (by have hk:b=mb:=hk;rw[←hk];exact hb))
 have YK:=(s8.mem _ (ak YH)).2 LX;refine ab ?_
 first|refine qQ ?_|simp+decide only[qR,jz,if_true,if_false]|skip
 replace eh:=(s8.mem _ (ak gb)).2 eh;replace gb:=s8.keep gb RE;replace hM:=s8.lt hM;replace S:=S.trans s8 (fun k hk h=>by have h:k=mb:=h;subst h;exact⟨HE,(S.mem k hk).1 LX⟩)
 have rG:∀t1 v1,ew kM es8 (kv t1) v1→(t1=t∧v1=v6)∨(t1≠t∧ew kM es (kv t1) v1):=fun t1 v1 qL=>by
  rcases(YI kM (kv t1) v1).1 qL with⟨h3,h4⟩|⟨h3,h4⟩
  ·exact .inl ⟨uW h3,h4⟩
  ·exact .inr ⟨fun e=>h3 (by rw[e];rfl),(F1 (kv t1) v1).1 h4⟩
 refine fW rfl ⟨_,hM,⟨gb,eh,YK,hB,HE,es8,_,hW8,⟨fun t1 v1 qL=>?_,fun t1 t2 v1 v2 eN qL CX=>?_,?_⟩⟩,S⟩
 ·rcases rG t1 v1 qL with⟨rfl,rfl⟩|⟨h3,h4⟩
  ·rw[yw,if_pos rfl];exact tJ
  ·rw[yw,if_neg (fun e=>h3 e.symm)];exact YJ t1 v1 h3 h4
 ·rcases rG t1 v1 qL with⟨rfl,rfl⟩|⟨h3,h4⟩
  ·rcases rG t2 v2 CX with⟨rfl,_⟩|⟨h5,h6⟩
   ·exact absurd rfl eN
   ·exact LW t2 v2 h5 h6
  ·rcases rG t2 v2 CX with⟨rfl,rfl⟩|⟨h5,h6⟩
   ·exact(LW t1 v1 h3 h4).symm
   ·exact hI.a t1 t2 v1 v2 eN h4 h6
 ·rw[pz,I1];rcases SX with⟨h3,h4⟩|⟨h3,h4⟩
  ·rw[h3,hI.k,if_pos ((tL hI.k).1 h4)]
  ·rw[h3,hI.k,if_neg (fun h=>by obtain⟨e,he,hk⟩:=(tL hI.k).2 h;exact h4 e he hk)];simp[kv]
end Go.K
namespace Go.K
open Go.Maps (Keyed)
open Go.Lib (compareBytes)
theorem DA:∀a b:List UInt8,Op.bytesLess a b=decide (compareBytes a b<0)
 |[],[]=>by simp[Op.bytesLess,compareBytes]
 |_::_,[]=>by simp[Op.bytesLess,compareBytes]
 |[],_::_=>by simp[Op.bytesLess,compareBytes]
 |a::x,b::y=>by
  rw[Op.bytesLess,DA x y,nW];by_cases h1:a.toNat<b.toNat
  ·simp[UInt8.lt_iff_toNat_lt,h1]
  ·by_cases h2:b.toNat<a.toNat
   ·have: ¬a=b:=fun e=>by subst e;omega
    simp[UInt8.lt_iff_toNat_lt,h1,h2,this]
   ·have:a=b:=UInt8.toNat_inj.1 (by omega);simp[UInt8.lt_iff_toNat_lt,h1,h2,this]
theorem qp (a b:List UInt8):compareBytes a b<0↔a<b:=by
 have h:=DA a b;rw[Go.Proofs.bytesLess_eq]at h;exact(decide_eq_decide.1 h).symm
theorem ja (a:List UInt8): ¬a<a:=fun h=>by have:=(qp a a).2 h;rw[yt]at this;omega
theorem lW {a b c:List UInt8} (h:a<b) (h':b<c):a<c:=(qp _ _).1 (qM ((qp _ _).2 h) ((qp _ _).2 h'))
theorem jK (a b:List UInt8):a<b∨a=b∨b<a:=by
 rcases Int.lt_trichotomy (compareBytes a b) 0 with h|h|h
 ·exact .inl ((qp _ _).1 h)
 ·exact .inr (.inl (qo h))
 ·exact .inr (.inr ((qp _ _).1 (by rw[oV];omega)))
theorem iT {a b:List UInt8} (h:a<b): ¬b<a:=fun h'=>ja a (lW h h')
theorem F3 {a b:List UInt8}:a≤b↔¬b<a:=Iff.rfl
section
variable {P:Program} {r:Option Nat} {n:Nat} {L:Sl} {ds:List Deferred} {w:World} {K:Kt} {ops:Array Oper} {rest:List Oper} {d:Nat} {x y:Operand} {ty:TypeId} {pos:String} {af:Array Edge}
theorem Rg.aeL {t t':TypeId} {p q:List UInt8} (hx:ev L x=some (.string ⟨p.toArray⟩)) (hy:ev L y=some (.string ⟨q.toArray⟩)) (hd:Nat.blt d n=true)
  (k:Rg P r n ops rest ((d,.bool (decide (q<p)))::L) ds w K):
  Rg P r n ops ({dst:=some d,op:= .binOp .gtr t x y t',type:=ty,pos,after:=af,guard:=none}::rest) L ds w K:=
 .op (fun _ h=>by cases h) rfl rfl hd _ w (fun ρ h=>by
  have e:(!(decide (p<q)||p==q))=decide (q<p):=by
   rcases jK p q with h|h|h
   ·simp[h,iT h]
   ·subst h;simp[ja]
   ·have: ¬p=q:=fun e=>by subst e;exact ja p h
    simp[h,iT h,this]
  simp only[execOp];rw[h x _ hx,h y _ hy];simp only[binOp,Op.stringOp,j8,Go.Proofs.bytesLess_eq,e];simp[eqGuard]) k
theorem Rg.Uv {t t':TypeId} {p q:List UInt8} (hx:ev L x=some (.string ⟨p.toArray⟩)) (hy:ev L y=some (.string ⟨q.toArray⟩)) (hd:Nat.blt d n=true)
  (k:Rg P r n ops rest ((d,.bool (decide (¬p<q)))::L) ds w K):
  Rg P r n ops ({dst:=some d,op:= .binOp .geq t x y t',type:=ty,pos,after:=af,guard:=none}::rest) L ds w K:=
 .op (fun _ h=>by cases h) rfl rfl hd _ w (fun ρ h=>by
  have e:(!decide (p<q))=decide (¬p<q):=by by_cases h:p<q<;>simp[h]
  simp only[execOp];rw[h x _ hx,h y _ hy];simp only[binOp,Op.stringOp,j8,Go.Proofs.bytesLess_eq,e];simp[eqGuard]) k
theorem Rg.Uw {t t':TypeId} {p q:List UInt8} (hx:ev L x=some (.string ⟨p.toArray⟩)) (hy:ev L y=some (.string ⟨q.toArray⟩)) (hd:Nat.blt d n=true)
  (k:Rg P r n ops rest ((d,.bool (decide (¬q<p)))::L) ds w K):
  Rg P r n ops ({dst:=some d,op:= .binOp .leq t x y t',type:=ty,pos,after:=af,guard:=none}::rest) L ds w K:=
 .op (fun _ h=>by cases h) rfl rfl hd _ w (fun ρ h=>by
  have e:(decide (p<q)||p==q)=decide (¬q<p):=by
   rcases jK p q with h|h|h
   ·simp[h,iT h]
   ·subst h;simp[ja]
   ·have: ¬p=q:=fun e=>by subst e;exact ja p h
    simp[h,iT h,this]
  simp only[execOp];rw[h x _ hx,h y _ hy];simp only[binOp,Op.stringOp,j8,Go.Proofs.bytesLess_eq,e];simp[eqGuard]) k
end
abbrev DB (l:List (List UInt8)):Prop:=l.Pairwise (· < ·)
theorem I7 {ss:List (List UInt8)} (h:ss.Nodup):DB (ss.mergeSort fun x y=>decide (x≤y)):=by
 have h1:(ss.mergeSort fun x y=>decide (x≤y)).Pairwise (fun x y=>decide (x≤y)=true):=List.pairwise_mergeSort (fun a b c h1 h2=>by
  simp only[decide_eq_true_eq,F3]at h1 h2 ⊢;intro h3;rcases jK a b with h|h|h
  ·exact h2 (lW h3 h)
  ·subst h;exact h2 h3
  ·exact h1 h) (fun a b=>by
  simp only[jT,decide_eq_true_eq,F3];rcases jK a b with h|h|h
  ·exact .inl (iT h)
  ·subst h;exact .inl (ja a)
  ·exact .inr (iT h)) ss
 have h2:(ss.mergeSort fun x y=>decide (x≤y)).Nodup:=(jd ss _).nodup_iff.2 h;refine (h1.and h2).imp ?_;rintro a b ⟨h3,h4⟩;simp only[decide_eq_true_eq,F3]at h3;rcases jK a b with h|h|h
 ·exact h
 ·exact absurd h h4
 ·exact absurd h h3
theorem DB.nodup {l:List (List UInt8)} (h:DB l):l.Nodup:=h.imp fun {a b} h e=>by subst e;exact ja a h
theorem tM {α:Type} {R:α→α→Prop} (hR:∀a b,R a b→R b a→a=b) {l l':List α} (h:l.Pairwise R) (h':l'.Pairwise R) (hn:l.Nodup) (IZ:l'.Nodup) (hm:∀x,x∈l↔x∈l'):l=l':=
 List.Perm.eq_of_pairwise (fun a b _ _ h1 h2=>hR a b h1 h2) h h' ((List.perm_ext_iff_of_nodup hn IZ).2 hm)
theorem Ux {l l':List (List UInt8)} (h:DB l) (h':DB l') (hm:∀x,x∈l↔x∈l'):l=l':=
 tM (fun a b h1 h2=>absurd h2 (iT h1)) h h' h.nodup h'.nodup hm
abbrev sv (k:List UInt8):Value:= .string ⟨k.toArray⟩
theorem BC {a b:List UInt8} (h:sv a=sv b):a=b:=by simpa[sv]using h
def F4:Value→Option (DU×List MemPlace):=fun _=>some (.nil,[])
theorem fE.aeM {P:Program} {kt:TypeId} {M:aC} {w:World} {b:Nat} {es:List MapEntry} {clock:Nat} (hk:P.underlying kt=some .string) (h:fE P kt w b es clock) (hm:M b) (hl:es.length≤maxLen) (ks:List (List UInt8)) (PG:es.map (·.key)=ks.map sv):
  ∃m:List (Lit×DU),Tq P kt F4 M w b m∧(strKeys (DataW.map m)).Perm ks∧m.length=ks.length:=by
 have hF:Go.WideElems.Fit P kt F4 es.toArray clock:=by
  refine⟨by simpa using hl,⟨fun x hx=>h.lt x (by simpa using hx),?_,?_⟩,fun x hx=>?_⟩
  ·simpa[List.Nodup,cA]using h.born
  ·simpa[List.Nodup,cA]using h.keys
  ·obtain⟨l,hl⟩:=h.ok x (by simpa using hx);exact⟨(l,.nil),by simp[Go.WideElems.rd,hl,F4]⟩
 have hp:=Go.WideShapes.sorted_perm (es.toArray.toList.map (Go.WideElems.rg P kt F4));have hlen:(List.foldr DataW.insert [] (es.toArray.toList.map (Go.WideElems.rg P kt F4))).length=es.length:=by rw[hp.length_eq];simp
 refine⟨_,⟨hm,es.toArray,clock,h.at_,hF,by rw[hlen];simp,rfl⟩,?_,?_⟩
 ·refine (hp.map fun p=>strOf p.1).trans ?_;rw[List.map_map]
  have e:es.toArray.toList.map ((fun p=>strOf p.1)∘Go.WideElems.rg (H:=Unit) P kt F4)=ks:=by
   refine eZ fun i=>?_
   have hi:=congrArg (·[i]?) PG;simp only[bm]at hi ⊢
   cases he:es[i]? with
   |none=>
    rw[he]at hi
    cases aeN:ks[i]? with
    |none=>simp[he]
    |some a=>rw[aeN]at hi;cases hi
   |some e=>
    rw[he]at hi;obtain⟨l,hl⟩:=h.ok e (az he);obtain⟨s,hs,h1⟩:=Option.map_eq_some_iff.1 hi.symm;obtain⟨z,hz1,hz2,_⟩:=Maps.keyOf_str hk hl;have:z=s:=BC (hz1.symm.trans (by simpa using h1.symm));subst this;simp[he,hs,Go.WideElems.rg,Go.WideElems.rd,hl,F4,hz2,strOf]
  rw[e]
 ·rw[hlen];have:=congrArg List.length PG;simpa using this
end Go.K
namespace Go.K
open Go.Lib (compareBytes)
def qq {α:Type} [DecidableEq α] (key:α→List UInt8) (t:α):List α→List α
 |[]=>[t]
 |u::l=>if key t<key u then t::u::l else if u=t then u::l else u::qq key t l
theorem qN {α:Type} [DecidableEq α] {key:α→List UInt8} {t x:α}:∀{l:List α},x∈qq key t l↔x=t∨x∈l
 |[]=>by simp[qq]
 |u::l=>by
  unfold qq
  split
  ·simp
  ·split
   ·rename_i h;subst h;simp
   ·rw[cd,qN (l:=l),cd];constructor
    ·rintro(h|h|h)
     ·exact .inr (.inl h)
     ·exact .inl h
     ·exact .inr (.inr h)
    ·rintro(h|h|h)
     ·exact .inr (.inl h)
     ·exact .inl h
     ·exact .inr (.inr h)
abbrev BD {α:Type} (key:α→List UInt8) (l:List α):Prop:=l.Pairwise fun a b=>key a<key b
theorem DC {α:Type} [DecidableEq α] {key:α→List UInt8} {t:α}:∀{l:List α},(∀u∈l,key u=key t→u=t)→BD key l→BD key (qq key t l)
 |[],_,_=>by simp[qq]
 |u::l,hi,h=>by
  have h':=ez.1 h;unfold qq
  split
  ·rename_i dQ
   refine ez.2 ⟨fun x hx=>?_,h⟩;rcases cd.1 hx with rfl|hx
   ·exact dQ
   ·exact lW dQ (h'.1 x hx)
  ·rename_i dQ
   split
   ·exact h
   ·rename_i eN
    have hut:key u<key t:=by
     rcases jK (key u) (key t)with h1|h1|h1
     ·exact h1
     ·exact absurd (hi u (bK ..) h1) eN
     ·exact absurd h1 dQ
    refine ez.2 ⟨fun x hx=>?_,DC (fun v hv=>hi v (bZ _ hv)) h'.2⟩;rcases qN.1 hx with rfl|hx
    ·exact hut
    ·exact h'.1 x hx
def allBy {α:Type} [DecidableEq α] (key:α→List UInt8) (l:List α):List α:=l.foldl (fun a t=>qq key t a) []
theorem tN {α:Type} [DecidableEq α] {key:α→List UInt8} {S:α→Prop} (hS:∀a b,S a→S b→key a=key b→a=b):∀(l a:List α),(∀x∈l,S x)→(∀x∈a,S x)→BD key a→
  BD key (l.foldl (fun a t=>qq key t a) a)∧∀x,x∈l.foldl (fun a t=>qq key t a) a↔x∈a∨x∈l
 |[],a,_,_,h=>⟨h,fun x=>by simp⟩
 |t::l,a,hl,ha,h=>by
  have ht:=hl t (bK ..)
  obtain⟨h1,h2⟩:=tN hS l (qq key t a) (fun x hx=>hl x (bZ _ hx)) (fun x hx=>by
   rcases qN.1 hx with rfl|hx
   ·exact ht
   ·exact ha x hx) (DC (fun u hu e=>hS _ _ (ha u hu) ht e) h)
  refine⟨h1,fun x=>?_⟩;rw[List.foldl_cons,h2,qN,cd];constructor
  ·rintro((h|h)|h)
   ·exact .inr (.inl h)
   ·exact .inl h
   ·exact .inr (.inr h)
  ·rintro(h|h|h)
   ·exact .inl (.inr h)
   ·exact .inl (.inl h)
   ·exact .inr h
theorem BD.nodup {α:Type} {key:α→List UInt8} {l:List α} (h:BD key l):l.Nodup:=h.imp fun {a b} h e=>by subst e;exact ja _ h
abbrev OD (t:Fd):Prop:=(0:UInt8)∉t.1
theorem yx {a b:Fd} (ha:OD a) (hb:OD b) (h:gE a=gE b):a=b:=by
 obtain⟨h1,h2⟩:=yu ha hb h;exact Prod.ext h1 h2
def cY (tl:List (Fd×Nat)):List Fd:=allBy gE (tl.map (·.1))
theorem tO {tl:List (Fd×Nat)} (hz:∀p∈tl,OD p.1):BD gE (cY tl):=
 (tN (S:=OD) (fun _ _=>yx) _ [] (fun x hx=>by obtain⟨p,hp,rfl⟩:=ca.1 hx;exact hz p hp) (fun x h=>by cases h) List.Pairwise.nil).1
theorem kO {tl:List (Fd×Nat)} (hz:∀p∈tl,OD p.1) {t:Fd}:t∈cY tl↔t∈tl.map (·.1):=by
 have:=(tN (S:=OD) (key:=gE) (fun _ _=>yx) (tl.map (·.1)) [] (fun x hx=>by obtain⟨p,hp,rfl⟩:=ca.1 hx;exact hz p hp) (fun x h=>by cases h) List.Pairwise.nil).2 t;simpa[cY,allBy]using this
theorem HF (t:Fd):∀(ts:List (Fd×Nat)) (l:List Fd),t∈ts.foldl (fun l p=>if p.1∈l then l else l++[p.1]) l↔t∈l∨t∈ts.map (·.1)
 |[],l=>by simp
 |p::ts,l=>by
  rw[List.foldl_cons,HF t ts,eR,cd]
  split
  ·rename_i h
   constructor
   ·rintro(h1|h1)
    ·exact .inl h1
    ·exact .inr (.inr h1)
   ·rintro(h1|h1|h1)
    ·exact .inl h1
    ·exact .inl (by rw[h1];exact h)
    ·exact .inr h1
  ·rw[cq,bH];constructor
   ·rintro((h1|h1)|h1)
    ·exact .inl h1
    ·exact .inr (.inl h1)
    ·exact .inr (.inr h1)
   ·rintro(h1|h1|h1)
    ·exact .inl (.inl h1)
    ·exact .inl (.inr h1)
    ·exact .inr h1
theorem tP {tl:List (Fd×Nat)} {t:Fd}:t∈seen tl↔t∈tl.map (·.1):=by unfold seen;rw[HF];simp
theorem DD {tl:List (Fd×Nat)} {us:List Fd} (hz:∀p∈tl,OD p.1) (om:us.Nodup) (kg:∀t,t∈us↔t∈seen tl) (SN:LV us):us=cY tl:=by
 have hm:∀t,t∈us↔t∈cY tl:=fun t=>by rw[kg,tP,kO hz]
 have j4:∀t∈cY tl,OD t:=fun t ht=>by obtain⟨p,hp,rfl⟩:=ca.1 ((kO hz).1 ht);exact hz p hp
 refine List.Perm.eq_of_pairwise (le:=fun a b=>¬compareBytes (gE b) (gE a)<0) (fun a b ha hb h1 h2=>?_) SN ((tO hz).imp fun {a b} h h'=>iT h ((qp _ _).1 h')) ((List.perm_ext_iff_of_nodup om (tO hz).nodup).2 hm);rw[qp]at h1 h2;rcases jK (gE a) (gE b)with h|h|h
 ·exact absurd h h2
 ·exact yx (j4 a ((hm a).1 ha)) (j4 b hb) h
 ·exact absurd h h1
theorem tQ (a b:List (Fd×Nat)) (t:Fd):posOf (a++b) t=posOf a t++posOf b t:=by simp[posOf]
theorem LY {tl:List (Fd×Nat)} {t:Fd} (h:t∈tl.map (·.1)):posOf tl t≠[]:=by
 obtain⟨p,hp,rfl⟩:=ca.1 h;intro e;have:p∈tl.filter fun q=>decide (q.1=p.1):=fQ.2 ⟨hp,by simp⟩
 rw[List.map_eq_nil_iff.1 e]at this;cases this
theorem I8 {tl:List (Fd×Nat)} {t:Fd} (h:t∉tl.map (·.1)):posOf tl t=[]:=by
 unfold posOf;rw[List.filter_eq_nil_iff.2 fun p hp=>by simp;intro e;exact h (ca.2 ⟨p,hp,e⟩)];rfl
theorem DE (x:Fd) (t:Fd):(posOf (jq x) t).Sublist ((List.range' 0 (words x.2).length).map fun(i:Nat)=>(i:Int)):=by
 have e:(jq x).map (fun p=>(p.2:Int))=(List.range' 0 (words x.2).length).map fun(i:Nat)=>(i:Int):=by
  rw[←List.zipIdx_map_snd 0 (words x.2),List.map_map];unfold jq;rw[List.map_map];rfl
 rw[←e];exact zq.map _
theorem Ja (x:Fd) (t:Fd):(posOf (jq x) t).Pairwise (· < ·)∧∀i∈posOf (jq x) t,0≤i∧i<(words x.2).length:=by
 refine⟨uv (DE x t) (cA.2 ((List.pairwise_lt_range' (s:=0) (n:=(words x.2).length)).imp fun h=>by omega)),fun i hi=>?_⟩;have:=(DE x t).subset hi;obtain⟨k,hk,rfl⟩:=ca.1 this;have:=List.mem_range'_1.1 hk;omega
theorem Az {x:Fd} {p:Fd×Nat} (h:p∈jq x):p.1.1=x.1∧p.1.2∈words x.2:=by
 obtain⟨q,hq,rfl⟩:=ca.1 h;have:=List.mem_zipIdx hq;exact⟨rfl,by simp only;rw[this.2.2];exact uA _⟩
theorem AA {fs:List Fd} {p:Fd×Nat} (h:p∈cG fs):∃x∈fs,p.1.1=x.1∧p.1.2∈words x.2:=by
 obtain⟨x,hx,hp⟩:=uB.1 h;exact⟨x,hx,Az hp⟩
theorem yy {x t:Fd} (h:x.1≠t.1):posOf (jq x) t=[]:=I8 fun hm=>by
 obtain⟨p,hp,rfl⟩:=ca.1 hm;exact h (Az hp).1.symm
theorem AB {t:Fd}:∀{fs:List Fd},(∀x∈fs,x.1≠t.1)→posOf (cG fs) t=[]
 |[],_=>rfl
 |x::fs,h=>by
  show posOf (jq x++cG fs) t=[];rw[tQ,yy (h x (bK ..)),AB fun y hy=>h y (bZ _ hy)];rfl
theorem DF {t:Fd}:∀{fs:List Fd},(fs.map (·.1)).Nodup→posOf (cG fs) t=[]∨∃x∈fs,posOf (cG fs) t=posOf (jq x) t
 |[],_=> .inl rfl
 |x::fs,h=>by
  have h':=List.nodup_cons.1 h;have e:posOf (cG (x::fs)) t=posOf (jq x) t++posOf (cG fs) t:=by show posOf (jq x++cG fs) t=_;rw[tQ]
  by_cases hx:x.1=t.1
  ·refine .inr ⟨x,bK ..,?_⟩;rw[e,AB fun y hy e=>h'.1 (by have h9:y.1∈fs.map (·.1):=hY hy;rw[e,←hx]at h9;exact h9),fP]
  ·rw[e,yy hx,fM];rcases DF (t:=t) h'.2 with h1|⟨y,hy,h1⟩
   ·exact .inl h1
   ·exact .inr ⟨y,bZ _ hy,h1⟩
theorem yz:∀{l:List Int} {last:Int},(∀x∈l,last<x)→l.Pairwise (· < ·)→eA last l=true
 |[],_,_,_=>rfl
 |x::l,last,h1,h2=>by
  have xE:=ez.1 h2;simp only[eA,bU,decide_eq_true_eq];exact⟨h1 x (bK ..),yz xE.1 xE.2⟩
structure kP (d:Dc):Prop where
 names:∀f∈d.2,gj f.1=true
 once:(d.2.map (·.1)).Nodup
 toks:∀f∈d.2,mn 0 (words f.2)=0
 many:(cG d.2).length≤500
 few:d.2.length≤8
theorem AD:∀{fs sn:List Fd} {n:Nat},zJ sn fs n=0→(∀f∈fs,gj f.1=true∧mn 0 (words f.2)=0∧∀g∈sn,g.1≠f.1)∧(fs.map (·.1)).Nodup∧n+(cG fs).length≤500
 |[],sn,n,h=>by
  refine⟨(fun f hf=>by cases hf),List.nodup_nil,?_⟩;simp only[zJ]at h
  split at h
  ·cases h
  ·simp[cG];omega
 |f::fs,sn,n,h=>by
  simp only[zJ]at h
  split at h
  ·cases h
  ·rename_i h1
   split at h
   ·cases h
   ·rename_i h2
    split at h
    ·exact absurd h (by assumption)
    ·rename_i h3
     obtain⟨h4,h5,h6⟩:=AD h;have h7:∀g∈sn,g.1≠f.1:=fun g hg e=>h2 (uy.2 ⟨g,hg,by simp[e]⟩)
     refine⟨fun x hx=>?_,List.nodup_cons.2 ⟨fun hm=>?_,h5⟩,?_⟩
     ·rcases cd.1 hx with rfl|hx
      ·exact⟨by simpa using h1,by simpa using h3,h7⟩
      ·obtain⟨a,b,c⟩:=h4 x hx;exact⟨a,b,fun g hg=>c g (gw _ hg)⟩
     ·obtain⟨y,hy,e⟩:=ca.1 hm;exact(h4 y hy).2.2 f (List.mem_append_right _ (bH.2 rfl)) e.symm
     ·have:(cG (f::fs)).length=(jq f).length+(cG fs).length:=by show(jq f++cG fs).length=_;rw[bj]
      rw[this,nV];omega
theorem HG {d:Dc} (h:lK d=0):kP d:=by
 unfold lK at h
 split at h
 ·cases h
 ·obtain⟨h1,h2,h3⟩:=AD h;exact⟨fun f hf=>(h1 f hf).1,h2,fun f hf=>(h1 f hf).2.1,by omega,by omega⟩
theorem AE:∀{ws:List (List UInt8)} {i:Nat},mn i ws=0→∀x∈ws,x.length≤30
 |[],_,_,x,hx=>by cases hx
 |a::ws,i,h,x,hx=>by
  simp only[mn]at h
  split at h
  ·cases h
  ·split at h
   ·cases h
   ·rcases cd.1 hx with rfl|hx
    ·omega
    ·exact AE h x hx
theorem LZ {s:List UInt8} (h:gj s=true):(0:UInt8)∉s:=fun h0=>by
 simp only[gj,bU,fv]at h;have:=h.2 0 h0
 revert this;decide
theorem kP.PH {d:Dc} (h:kP d):∀p∈cG d.2,OD p.1:=fun p hp=>by
 obtain⟨x,hx,h1,_⟩:=AA hp;show(0:UInt8)∉p.1.1;rw[h1];exact LZ (h.names x hx)
theorem kP.small {d:Dc} (h:kP d):∀p∈cG d.2,p.1.1.length≤12∧p.1.2.length≤30:=fun p hp=>by
 obtain⟨x,hx,h1,h2⟩:=AA hp;exact⟨by rw[h1];exact Df (h.names x hx),AE (h.toks x hx) _ h2⟩
theorem kP.pos {d:Dc} (h:kP d) (t:Fd):(posOf (cG d.2) t).Pairwise (· < ·)∧(∀i∈posOf (cG d.2) t,0≤i∧i<500)∧(posOf (cG d.2) t).length≤500:=by
 have hl:=uX (cG d.2) t;have hm:=h.many;rcases DF (t:=t) h.once with h1|⟨x,hx,h1⟩
 ·rw[h1];exact⟨List.Pairwise.nil,(fun i hi=>by cases hi),by simp⟩
 ·obtain⟨h2,h3⟩:=Ja x t
  have qH:(words x.2).length≤500:=by
   have:(jq x).length≤(cG d.2).length:=by
    obtain⟨i,hi⟩:=bE.1 hx;have:=sH hi
    have h5:(cG (d.2.take (i+1))).length≤(cG d.2).length:=by
     have:cG d.2=cG (d.2.take (i+1))++cG (d.2.drop (i+1)):=by unfold cG;rw[←List.flatMap_append,uu]
     rw[this,bj];omega
    rw[this,bj]at h5;omega
   rw[nV]at this;omega
  rw[h1]at hl ⊢;exact⟨h2,fun i hi=>⟨(h3 i hi).1,by have:=(h3 i hi).2;omega⟩,by omega⟩
theorem kP.eA {d:Dc} (h:kP d) (t:Fd):oI (posOf (cG d.2) t)=true:=by
 obtain⟨h1,h2,_⟩:=h.pos t;exact oJ.2 ⟨yz (fun x hx=>by have:=(h2 x hx).1;omega) h1,fun x hx=>by have:=(h2 x hx).2;omega⟩
abbrev pC (e:En):List (Fd×Nat):=cG e.1.2
def E1 (i:Nat) (tl:List (Fd×Nat)) (k:List UInt8):List Po:=((cY tl).filter fun t=>decide (gE t=k)).map fun t=>((i:Int),posOf tl t)
def Cn (k:List UInt8):Nat→List En→List Po
 |_,[]=>[]
 |i,e::L=>E1 i (pC e) k++Cn k (i+1) L
def pk (L:List En) (k:List UInt8):List Po:=Cn k 0 L
theorem DG (k:List UInt8) (e:En):∀(L:List En) (i:Nat),Cn k i (L++[e])=Cn k i L++E1 (i+L.length) (pC e) k
 |[],i=>by simp[Cn]
 |x::L,i=>by
  simp only[kF,Cn,DG k e L (i+1),rM,cM];rw[show i+1+L.length=i+(L.length+1) by omega]
theorem PI (L:List En) (e:En) (k:List UInt8):pk (L++[e]) k=pk L k++E1 L.length (pC e) k:=by
 unfold pk;rw[DG];simp
def iL (L:List En):List (List UInt8):=L.flatMap fun e=>(cY (pC e)).map gE
theorem F5 (L:List En) (e:En):iL (L++[e])=iL L++(cY (pC e)).map gE:=by simp[iL]
def keysOf (L:List En):List (List UInt8):=allBy id (iL L)
theorem kX (L:List En):DB (keysOf L):=(tN (key:=id) (S:=fun _=>True) (fun a b _ _ h=>h) _ [] (fun _ _=>trivial) (fun _ _=>trivial) List.Pairwise.nil).1
theorem jr {L:List En} {k:List UInt8}:k∈keysOf L↔k∈iL L:=by
 have:=(tN (key:=id) (S:=fun _=>True) (fun a b _ _ h=>h) (iL L) [] (fun _ _=>trivial) (fun _ _=>trivial) List.Pairwise.nil).2 k;simpa[keysOf,allBy]using this
theorem filter_one {α:Type} {key:α→List UInt8} {l:List α} (h:BD key l) (k:List UInt8):l.filter (fun t=>decide (key t=k))=[]∨∃t∈l,key t=k∧l.filter (fun t=>decide (key t=k))=[t]:=by
 have h1:BD key (l.filter fun t=>decide (key t=k)):=uv zq h;have h2:∀x∈l.filter (fun t=>decide (key t=k)),x∈l∧key x=k:=fun x hx=>by simpa using fQ.1 hx
 revert h1 h2
 generalize l.filter (fun t=>decide (key t=k))=m;intro h1 h2
 match m,h1,h2 with
 |[],_,_=>exact .inl rfl
 |[t],_,h2=>exact .inr ⟨t,(h2 t (bK ..)).1,(h2 t (bK ..)).2,rfl⟩
 |t::u::m,h1,h2=>
  have:=(ez.1 h1).1 u (bK ..);rw[(h2 t (bK ..)).2,(h2 u (by simp)).2]at this;exact absurd this (ja k)
theorem HH {d:Dc} (h:kP d) (i:Nat) (k:List UInt8):E1 i (cG d.2) k=[]∨∃t∈cY (cG d.2),gE t=k∧E1 i (cG d.2) k=[((i:Int),posOf (cG d.2) t)]:=by
 rcases filter_one (tO h.PH) k with h1|⟨t,ht,hk,h1⟩
 ·exact .inl (by unfold E1;rw[h1];rfl)
 ·exact .inr ⟨t,ht,hk,by unfold E1;rw[h1];rfl⟩
theorem Uy {tl:List (Fd×Nat)} {i:Nat} {t:Fd} (h:t∈cY tl):E1 i tl (gE t)≠[]:=fun e=>by
 have:t∈(cY tl).filter fun u=>decide (gE u=gE t):=fQ.2 ⟨h,by simp⟩
 rw[List.map_eq_nil_iff.1 e]at this;cases this
theorem tR (k:List UInt8):∀(L:List En) (i:Nat) (last:Int),(∀e∈L,kP e.1)→last<i→i+L.length≤2147483648→fJ last (Cn k i L)=true
 |[],_,_,_,_,_=>rfl
 |e::L,i,last,hF,h1,h2=>by
  have hf:=hF e (bK ..);have hr:=fun last h=>tR k L (i+1) last (fun x hx=>hF x (bZ _ hx)) h (by simp at h2;omega)
  simp only[Cn];rcases HH hf i k with h3|⟨t,ht,hk,h3⟩
  ·rw[show E1 i (pC e) k=[]from h3];exact hr last (by omega)
  ·rw[show E1 i (pC e) k=_ from h3]
   have eN:(posOf (cG e.1.2) t).isEmpty=false:=by
    have:=LY ((kO hf.PH).1 ht)
    cases h:posOf (cG e.1.2) t with
    |nil=>exact absurd h this
    |cons a b=>rfl
   simp only[kF,fM,fJ,eN,hf.eA t,hr i (by omega),Bool.and_true,Bool.not_false,bU,decide_eq_true_eq];simp at h2;omega
theorem qs (k:List UInt8):∀(L:List En) (i:Nat),(∀e∈L,kP e.1)→(Cn k i L).length≤L.length∧∀p∈Cn k i L,(i:Int)≤p.1∧p.1<i+L.length∧p.2.length≤500
 |[],_,_=>⟨aO _,fun p h=>by cases h⟩
 |e::L,i,hF=>by
  have hf:=hF e (bK ..);obtain⟨h1,h2⟩:=qs k L (i+1) (fun x hx=>hF x (bZ _ hx));simp only[Cn,cM];rcases HH hf i k with h3|⟨t,ht,hk,h3⟩
  ·rw[show E1 i (pC e) k=[]from h3];exact⟨by simpa using Nat.le_succ_of_le h1,fun p hp=>by have:=h2 p (by simpa using hp);exact⟨by omega,by omega,this.2.2⟩⟩
  ·rw[show E1 i (pC e) k=_ from h3];refine⟨by simp;omega,fun p hp=>?_⟩;rcases cd.1 hp with rfl|hp
   ·exact⟨Int.le_refl _,by simp only;omega,(hf.pos t).2.2⟩
   ·have:=h2 p (by simpa using hp);exact⟨by omega,by omega,this.2.2⟩
theorem uY:∀(l:List Po) (last:Int) (m:Nat),-1≤last→fJ last l=true→(∀p∈l,p.2.length≤m)→m≤1000000→(ec last l).length≤(18+9*m)*l.length∧jk l≤m*l.length
 |[],_,_,_,_,_,_=>⟨by simp[ec],by simp[jk]⟩
 |(d,ps)::l,last,m,h0,hm,hs,hmm=>by
  simp only[fJ,bU,decide_eq_true_eq]at hm;obtain⟨⟨⟨⟨h1,h2⟩,h3⟩,h4⟩,h5⟩:=hm;obtain⟨h6,h7⟩:=oJ.1 h4;have j9:=hs _ (bK ..);simp only at j9;obtain⟨i1,i2⟩:=uY l d m (by omega) h5 (fun p hp=>hs p (bZ _ hp)) hmm;have a1:=xO ps (-1) (by omega) (fun x hx=>by have:=h7 x hx;omega) h6;have a3:=k9 (n:=(d-last-1).toNat) (by omega);have a4:=k9 (n:=ps.length) (by omega);have e1:9*ps.length≤9*m:=by omega
  constructor
  ·simp only[ec,eG,bj,cM,Nat.mul_add,eK];omega
  ·simp only[jk,eR,List.sum_cons,cM]at i2 ⊢;rw[Int.natCast_add,Int.mul_add];omega
abbrev Sg:Type:=List Int×List Int×List (List UInt8)×List (List Po)
theorem F6 {k:List UInt8}:∀{L:List En} (i:Nat),k∈iL L→Cn k i L≠[]
 |[],_,h=>by cases h
 |e::L,i,h=>by
  simp only[Cn];intro hn;obtain⟨h1,h2⟩:=List.append_eq_nil_iff.1 hn;have h:k∈(cY (pC e)).map gE++iL L:=h;rcases cq.1 h with h|h
  ·obtain⟨t,ht,rfl⟩:=ca.1 h;exact Uy ht h1
  ·exact F6 (i+1) h h2
theorem BE {k:List UInt8}:∀{L:List En} (i:Nat),k∉iL L→Cn k i L=[]
 |[],_,_=>rfl
 |e::L,i,h=>by
  have h:k∉(cY (pC e)).map gE++iL L:=h;rw[cq,not_or]at h;simp only[Cn];rw[BE (i+1) h.2,fP];unfold E1;rw[List.filter_eq_nil_iff.2 fun t ht=>by simp;intro e';exact h.1 (ca.2 ⟨t,ht,e'⟩)];rfl
end Go.K
namespace Go.K
def RT.ptr {α:Type} (A:RT α) (hn:0<A.n:=by decide):RT α where
 n:=1
 agg:=false
 R:=fun M w x vs=>∃b o us,vs=[.pointer (some ⟨b,o,none⟩)]∧¬M b∧A.R M w x us∧w.rangeAt b o us
 len:=by rintro _ _ x vs ⟨b,o,us,rfl,_⟩;rfl
 one:=by rintro _ _ x vs ⟨b,o,us,rfl,_⟩ v hv;simp at hv;subst hv;rfl
 le:=by
  rintro M w M' w' x vs hl ⟨b,o,us,h1,h2,h3,h4⟩;have hp:0<us.length:=by rw[A.len h3];exact hn
  have hc:=h4 0 (us[0]'hp) (au hp);exact⟨b,o,us,h1,(hl b (World.block_lt_of_cell? w _ hc) h2).1,A.le hl h3,rW hl h2 h4⟩
theorem mA {α:Type} {A:RT α} {hn:0<A.n} {M:aC} {w:World} {x:α} {v:Value}:(A.ptr hn).V M w x v↔cP A M w v x:=
 ⟨fun⟨vs,⟨b,o,us,h1,h2,h3,h4⟩,h5⟩=>⟨b,o,us,by subst h1;exact h5,h2,h3,h4⟩,fun⟨b,o,us,h1,h2,h3,h4⟩=>⟨[v],⟨b,o,us,by rw[h1],h2,h3,h4⟩,rfl⟩⟩
abbrev Di:=List (List UInt8)×List Li
abbrev Se:=List Int×List Int×Di
abbrev RT.di:RT Di:=RT.pair (RT.str.sl) (((RT.li).ptr).sl)
abbrev RT.se:RT Se:=RT.pair ((RT.int .i64).sl) (RT.pair ((RT.int .i64).sl) ((RT.di).ptr))
theorem WR:Part RT.di (RT.str.sl) (fun p=>p.1) 0:=mI _ _
theorem di1:Part RT.di (((RT.li).ptr).sl) (fun p=>p.2) 1:=iG _ _
theorem se0:Part RT.se ((RT.int .i64).sl) (fun p=>p.1) 0:=mI _ _
theorem se1:Part RT.se ((RT.int .i64).sl) (fun p=>p.2.1) 1:=(iG ((RT.int .i64).sl) (RT.pair ((RT.int .i64).sl) ((RT.di).ptr))).trans (mI _ _)
theorem se2:Part RT.se ((RT.di).ptr) (fun p=>p.2.2) 2:=(iG ((RT.int .i64).sl) (RT.pair ((RT.int .i64).sl) ((RT.di).ptr))).trans (iG ((RT.int .i64).sl) ((RT.di).ptr))
abbrev Pa:=List Int×List Int×List (List UInt8)×List (List Po)
abbrev RT.pa:RT Pa:=RT.pair ((RT.int .i64).sl) (RT.pair ((RT.int .i64).sl) (RT.pair (RT.str.sl) (((RT.po).sl).sl)))
theorem pa0:Part RT.pa ((RT.int .i64).sl) (fun p=>p.1) 0:=mI _ _
theorem pa1:Part RT.pa ((RT.int .i64).sl) (fun p=>p.2.1) 1:=(iG ((RT.int .i64).sl) (RT.pair ((RT.int .i64).sl) (RT.pair (RT.str.sl) (((RT.po).sl).sl)))).trans (mI _ _)
theorem pa2:Part RT.pa (RT.str.sl) (fun p=>p.2.2.1) 2:=((iG ((RT.int .i64).sl) (RT.pair ((RT.int .i64).sl) (RT.pair (RT.str.sl) (((RT.po).sl).sl)))).trans (iG ((RT.int .i64).sl) (RT.pair (RT.str.sl) (((RT.po).sl).sl)))).trans (mI _ _)
theorem pa3:Part RT.pa (((RT.po).sl).sl) (fun p=>p.2.2.2) 3:=((iG ((RT.int .i64).sl) (RT.pair ((RT.int .i64).sl) (RT.pair (RT.str.sl) (((RT.po).sl).sl)))).trans (iG ((RT.int .i64).sl) (RT.pair (RT.str.sl) (((RT.po).sl).sl)))).trans (iG _ _)
theorem aeQ {M:aC} {w:World} {x:Se} {a b c:Value} (h0:((RT.int .i64).sl).V M w x.1 a) (h1:((RT.int .i64).sl).V M w x.2.1 b) (h2:cP RT.di M w c x.2.2):RT.se.V M w x (.agg [a,b,c].toArray):=
 ⟨[a,b,c],⟨[a],[b,c],rfl,l8 h0 rfl rfl,[b],[c],rfl,l8 h1 rfl rfl,l8 (mA.2 h2) rfl rfl⟩,rfl⟩
theorem Uz {M:aC} {w:World} {x:Pa} {a b c d:Value} (h0:((RT.int .i64).sl).V M w x.1 a) (h1:((RT.int .i64).sl).V M w x.2.1 b) (h2:(RT.str.sl).V M w x.2.2.1 c) (h3:(((RT.po).sl).sl).V M w x.2.2.2 d):RT.pa.V M w x (.agg [a,b,c,d].toArray):=
 ⟨[a,b,c,d],⟨[a],[b,c,d],rfl,l8 h0 rfl rfl,[b],[c,d],rfl,l8 h1 rfl rfl,[c],[d],rfl,l8 h2 rfl rfl,l8 h3 rfl rfl⟩,rfl⟩
theorem UA {M:aC} {w:World} {x:Pa} {v:Value} (h:RT.pa.V M w x v):∃a b c d,v= .agg [a,b,c,d].toArray∧((RT.int .i64).sl).V M w x.1 a∧((RT.int .i64).sl).V M w x.2.1 b∧(RT.str.sl).V M w x.2.2.1 c∧(((RT.po).sl).sl).V M w x.2.2.2 d:=by
 obtain⟨vs,⟨va,vb,rfl,h1,vc,vd,rfl,h2,ve,vf,rfl,h3,h4⟩,rfl⟩:=h;have e1:=(RT.sl (RT.int .i64)).len h1;have e2:=(RT.sl (RT.int .i64)).len h2;have e3:=(RT.sl RT.str).len h3;have e4:=(RT.sl (RT.sl RT.po)).len h4
 match va,vc,ve,vf,e1,e2,e3,e4,h1,h2,h3,h4 with
 |[a],[b],[c],[d],_,_,_,_,h1,h2,h3,h4=>exact⟨a,b,c,d,rfl,⟨_,h1,rfl⟩,⟨_,h2,rfl⟩,⟨_,h3,rfl⟩,⟨_,h4,rfl⟩⟩
theorem BF {α:Type} {A:RT α} (hg:A.agg=true) {M:aC} {w:World} {x:α} {vs:List Value} (h:A.V M w x (.agg vs.toArray)):∀u∈vs,u.oneCell'=true:=by
 obtain⟨us,h1,h2⟩:=h
 have:vs=us:=by
  unfold RT.val at h2;rw[if_pos hg]at h2;injection h2 with h2
  simpa using congrArg Array.toList h2
 subst this;exact A.one h1
theorem dZ.free {α:Type} {A:RT α} (hA:∀M w M' w' x vs,A.R M w x vs→A.R M' w' x vs) {M M':aC} {w w':World}:∀{xs:List α} {C:List Value},dZ A M w xs C→dZ A M' w' xs C
 |[],_,h=>h
 |x::xs,C,h=>by
  obtain⟨vs,r,h1,h2,h3⟩:=h;exact⟨vs,r,h1,hA _ _ _ _ _ _ h2,dZ.free hA h3⟩
theorem Own.tell {α:Type} {A:RT α} {hn:0<A.n} (hA:∀M w M' w' x vs,A.R M w x vs→A.R M' w' x vs) {e:TypeId} {M M0:aC} {w:World} {base:Nat} {v:Value} {xs:List α} (h:Own A e M w base v xs) (hb:∀b,v.ownBlock=some b→¬M0 b) (hlen:xs.length≤140737488355328):(A.sl hn).V M0 w xs v:=by
 obtain⟨⟨C,hr,ha⟩,hm⟩:=h;have h':Own A e (fun b=>v.ownBlock=some b∨M0 b) w base v xs:=⟨⟨C,hr,dZ.free hA ha⟩,fun b hb=> .inl hb⟩;exact h'.sl (fun b _ hn=>⟨fun h=>hn (.inr h),rfl⟩) hb hlen
end Go.K
namespace Go.K
open Go.Maps (Keyed)
section
variable {P:Program} {r:Option Nat} {n:Nat} {L:Sl} {ds:List Deferred} {w:World} {K:Kt} {ops:Array Oper} {rest:List Oper} {d:Nat} {x y z:Operand} {ty:TypeId} {pos:String} {af:Array Edge}
variable {kt:TypeId} {M:aC} {b clock:Nat} {es:List MapEntry}
theorem fE.UB (h:fE P kt w b es clock) {i s:Nat} {key v0 val:Value} (hi:es[i]? =some ⟨key,v0,s⟩) {w':World} (hw:w'.heap[b]? =some (.map (es.set i ⟨key,val,s⟩).toArray clock)):
  fE P kt w' b (es.set i ⟨key,val,s⟩) clock∧(es.set i ⟨key,val,s⟩).map (·.key)=es.map (·.key)∧∀zv jo v',ew zv (es.set i ⟨key,val,s⟩) jo v'↔(jo=key∧v'=val)∨(jo≠key∧ew zv es jo v'):=by
 have ot:=(ao.1 hi).1;have kg:(⟨key,v0,s⟩:MapEntry)∈es:=az hi;obtain⟨py,uV⟩:∃py,py=es.set i ⟨key,val,s⟩:=⟨_,rfl⟩;rw[←uV]at hw ⊢
 have iY:∀j e',py[j]? =some e'→(j=i∧e'=⟨key,val,s⟩)∨(j≠i∧es[j]? =some e'):=fun j e' hj=>by
  rw[uV,dr]at hj
  split at hj
  ·rename_i jf
   left;exact⟨jf.symm,by simpa[ot]using hj.symm⟩
  ·rename_i jf
   exact .inr ⟨fun e=>jf e.symm,hj⟩
 have pz:py.map (·.key)=es.map (·.key):=by
  rw[uV,List.map_set];apply eZ;intro j;rw[dr]
  split
  ·rename_i jf
   subst jf;have e:=(ao.1 hi).2;simp[ot,e]
  ·rfl
 have LH:py.map (·.born)=es.map (·.born):=by
  rw[uV,List.map_set];apply eZ;intro j;rw[dr]
  split
  ·rename_i jf
   subst jf;have e:=(ao.1 hi).2;simp[ot,e]
  ·rfl
 have eL:∀e'∈py,(e'=⟨key,val,s⟩)∨(e'∈es∧e'.key≠key):=fun e' qn=>by
  obtain⟨j,hj⟩:=bE.1 qn;rcases iY j e' hj with⟨_,e⟩|⟨eN,xI⟩
  ·exact .inl e
  ·refine .inr ⟨az xI,fun e=>eN ?_⟩;rcases fa j i with h1|h1|h1
   ·exact absurd e (iE h.keys xI hi h1)
   ·exact h1
   ·exact absurd e.symm (iE h.keys hi xI h1)
 have LI:(⟨key,val,s⟩:MapEntry)∈py:=az (i:=i) (by rw[uV,dr];simp[ot])
 have hold:∀e'∈es,e'.key≠key→e'∈py:=fun e' qn eN=>by
  obtain⟨j,hj⟩:=bE.1 qn;refine az (i:=j) ?_;rw[uV,dr,if_neg]
  ·exact hj
  ·rintro rfl;rw[hi]at hj;cases hj;exact eN rfl
 refine⟨⟨hw,?_,fun e' qn=>?_,?_,fun e' qn=>?_⟩,pz,fun zv jo v'=>?_⟩
 ·have:=cA.2 h.born;rw[←LH]at this;exact cA.1 this
 ·rcases eL e' qn with e|⟨h1,_⟩
  ·rw[e];exact(h.lt _ kg:s<clock)
  ·exact h.lt _ h1
 ·have:=cA.2 h.keys;rw[←pz]at this;exact cA.1 this
 ·rcases eL e' qn with e|⟨h1,_⟩
  ·rw[e];exact(h.ok _ kg:∃l,keyOf P kt key=some l)
  ·exact h.ok _ h1
 ·constructor
  ·rintro(⟨e',qn,hk,hv⟩|⟨h1,h2⟩)
   ·rcases eL e' qn with e|⟨h3,h4⟩
    ·subst e;exact .inl ⟨hk.symm,hv⟩
    ·exact .inr ⟨by rw[←hk];exact h4,.inl ⟨e',h3,hk,hv⟩⟩
   ·have eN:jo≠key:=fun e=>h1 _ LI e.symm
    exact .inr ⟨eN,.inr ⟨fun e' qn=>fun e=>by
     by_cases h5:e'.key=key
     ·exact eN (e.symm.trans h5)
     ·exact h1 e' (hold e' qn h5) e,h2⟩⟩
  ·rintro(⟨rfl,rfl⟩|⟨eN,⟨e',qn,hk,hv⟩|⟨h1,h2⟩⟩)
   ·exact .inl ⟨_,LI,rfl,rfl⟩
   ·exact .inl ⟨e',hold e' qn (by rw[hk];exact eN),hk,hv⟩
   ·exact .inr ⟨fun e' qn=>by
     rcases eL e' qn with e|⟨h3,_⟩
     ·rw[e];exact fun e=>eN e.symm
     ·exact h1 e' h3,h2⟩
theorem ew.put {key val:Value} {s:Nat} (hn:∀e∈es,e.key≠key) (zv jo v':Value):ew zv (es++[⟨key,val,s⟩]) jo v'↔(jo=key∧v'=val)∨(jo≠key∧ew zv es jo v'):=by
 constructor
 ·rintro(⟨e,he,hk,hv⟩|⟨h1,h2⟩)
  ·rcases cq.1 he with he|he
   ·exact .inr ⟨by rw[←hk];exact hn e he,.inl ⟨e,he,hk,hv⟩⟩
   ·obtain rfl:=bH.1 he;exact .inl ⟨hk.symm,hv⟩
  ·exact .inr ⟨fun e=>h1 ⟨key,val,s⟩ (by simp) e.symm,.inr ⟨fun e he=>h1 e (gw _ he),h2⟩⟩
 ·rintro(⟨rfl,rfl⟩|⟨eN,⟨e,he,hk,hv⟩|⟨h1,h2⟩⟩)
  ·exact .inl ⟨⟨_,_,s⟩,by simp,rfl,rfl⟩
  ·exact .inl ⟨e,gw _ he,hk,hv⟩
  ·refine .inr ⟨fun e he=>?_,h2⟩;rcases cq.1 he with he|he
   ·exact h1 e he
   ·obtain rfl:=bH.1 he;exact fun e=>eN e.symm
theorem Rg.PJ {t e:TypeId} {key val:Value} {kl:Lit} (ht:P.underlying t=some (.map kt e)) (Kk:Keyed P kt) (hx:ev L x=some (.map (some b))) (hy:ev L y=some key) (hz:ev L z=some val) (ly:keyOf P kt key=some kl) (h:fE P kt w b es clock) (hm:M b)
  (k:∀w' py FQ,fE P kt w' b py FQ→((py.map (·.key)=es.map (·.key)∧∃e∈es,e.key=key)∨(py.map (·.key)=es.map (·.key)++[key]∧∀e∈es,e.key≠key))→(∀zv jo v',ew zv py jo v'↔(jo=key∧v'=val)∨(jo≠key∧ew zv es jo v'))→Step M w M w' (fun k=>k=b)→Rg P r n ops rest L ds w' K):
  Rg P r n ops ({dst:=none,op:= .mapUpdate t x y z,type:=ty,pos,after:=af,guard:=none}::rest) L ds w K:=by
 have dQ:=ak h.at_;rcases Kk.find w ly es h.ok with⟨h1,h2⟩|⟨j,e0,h1,h2,h3⟩
 ·have hw:({w with heap:=w.heap.setIfInBounds b (.map (es.toArray.push ⟨key,val,clock⟩) (clock+1))}:World).heap[b]? =some (.map (es++([⟨key,val,clock⟩]:List MapEntry)).toArray (clock+1)):=by
   simp[dA,dQ]
  refine .QV (fun _ h=>by cases h) rfl rfl _ (fun ρ hρ=>?_) (k _ _ _ (h.push ly h2 hw) (Or.inr ⟨by simp,h2⟩) (ew.put h2) (jm M hm));simp only[execOp,hρ x _ hx,hρ y _ hy,hρ z _ hz,Instr.mapUpdate,cj,run_underlying ht,cB,dM h.at_,Kk.check w false ly,h1,run_setObj_map h.at_];simp
 ·have he:e0∈es:=az h2;obtain⟨k0,v0,s0⟩:=e0;simp only at h3;subst h3;have hj:es.toArray[j]? =some ⟨k0,v0,s0⟩:=by simpa using h2
  have LG:es.toArray.modify j (fun e=>{e with key:=k0,val:=val})=(es.set j ⟨k0,val,s0⟩).toArray:=by
   apply Array.ext_getElem?;intro i;rw[jE];simp only[dX,dr]
   split
   ·rename_i Rz
    subst Rz;have:=(ao.1 h2).1;rw[h2];simp[this]
   ·rfl
  have hw:({w with heap:=w.heap.setIfInBounds b (.map (es.set j ⟨k0,val,s0⟩).toArray clock)}:World).heap[b]? =some (.map (es.set j ⟨k0,val,s0⟩).toArray clock):=by simp[dA,dQ]
  obtain⟨hW,tn,qL⟩:=h.UB h2 hw
  have ky:(Instr.keyThatStays ((Option.map (fun(e:MapEntry)=>e.key) es.toArray[j]?).getD k0) k0).run P w= .ok k0 w:=by
   rw[hj];simp only[db,Option.getD_some];exact Kk.stays w ly
  refine .QV (fun _ h=>by cases h) rfl rfl _ (fun ρ hρ=>?_) (k _ _ clock hW (Or.inl ⟨tn,_,he,rfl⟩) qL (jm M hm));simp only[execOp,hρ x _ hx,hρ y _ hy,hρ z _ hz,Instr.mapUpdate,cj,run_underlying ht,cB,dM h.at_,Kk.check w false ly,h1,ky,LG,run_setObj_map h.at_];simp
theorem DH {t e:TypeId} {zv key:Value} {size bytes:Nat} {kl:Lit} (ht:P.underlying t=some (.map kt e)) (Kk:Keyed P kt) (hi:TI P e zv size bytes) (ly:keyOf P kt key=some kl) (h:fE P kt w b es clock):
  ∃v,ew zv es key v∧∀(w:World) (ρ:Operand→Value) (dst:Option Tmp) (gd:Option (Nat×Bool)),ρ x= .map (some b)→ρ y=key→fE P kt w b es clock→(execOp ρ {dst,op:= .lookup t x y false,type:=ty,pos,after:=af,guard:=gd}).run P w= .ok (.value v) w:=by
 rcases Kk.find w ly es h.ok with⟨h1,h2⟩|⟨j,e0,h1,h2,h3⟩
 ·refine⟨zv,Or.inr ⟨h2,rfl⟩,fun w ρ dst gd hx hy h=>?_⟩;obtain⟨inf,i1,i2,_,_⟩:=hi.get;have hz:(zeroValue e).run P w= .ok zv w:=by simp[zeroValue,typeInfo,i1,i2]
  rcases Kk.find w ly es h.ok with⟨h1,_⟩|⟨j,e0,_,g2,g3⟩
  ·simp only[execOp,hx,hy,Instr.lookup,cj,run_underlying ht,cB,dM h.at_,Sem.run_pure,Kk.check w _ ly,h1,hz];simp
  ·exact absurd g3 (h2 e0 (az g2))
 ·refine⟨e0.val,Or.inl ⟨e0,az h2,h3,rfl⟩,fun w ρ dst gd hx hy h=>?_⟩;rcases Kk.find w ly es h.ok with⟨_,g2⟩|⟨j',e1,g1,g2,g3⟩
  ·exact absurd h3 (g2 e0 (az h2))
  ·have:e1=e0:=h.Hy (az g2) (az h2) (g3.trans h3.symm);subst this;simp only[execOp,hx,hy,Instr.lookup,cj,run_underlying ht,cB,dM h.at_,Sem.run_pure,Kk.check w _ ly,g1];simp
theorem bX.tH {N:aC} {t e:TypeId} {zv key:Value} {size bytes:Nat} {kl:Lit} {dst:Option Tmp} {gd:Option (Nat×Bool)} (ht:P.underlying t=some (.map kt e)) (Kk:Keyed P kt) (hi:TI P e zv size bytes) (hx:ev L x=some (.map (some b))) (hy:ev L y=some key) (ly:keyOf P kt key=some kl) (h:fE P kt w b es clock) (hn: ¬N b):
  bX P N w L {dst,op:= .lookup t x y false,type:=ty,pos,after:=af,guard:=gd}:=fun ρ hρ v w' hk hr=>by
 obtain⟨v0,_,gY⟩:=DH (x:=x) (y:=y) (ty:=ty) (pos:=pos) (af:=af) ht Kk hi ly h;have h':fE P kt w' b es clock:=⟨(hk.2 b (ak h.at_) hn).trans h.at_,h.born,h.lt,h.keys,h.ok⟩;rw[gY w ρ dst gd (hρ x _ hx) (hρ y _ hy) h]at hr;rw[gY w' ρ dst gd (hρ x _ hx) (hρ y _ hy) h'];injection hr with h1 h2
 rw[h1]
end
end Go.K
namespace Go.Proofs
open Go.Shelf
def Tryz.AF:Go.Shelf.Ren:=⟨fun|7=>54|10=>101|n=>n,fun|23=>89|26=>3|3=>97|28=>115|0=>0|27=>114|33=>104|4=>4|n=>n,fun|n=>n⟩
theorem Tryz.YL:Go.Proofs.SlLaysZI.n7 Tryz.prog Tryz.AF:={
 mixed:=by kernel_rfl
 f7:=⟨Tryz.f54.name,by decide,Tryz.func54.trans (congrArg some (by kernel_rfl))⟩
 f10:=⟨Tryz.f101.name,by decide,Tryz.func101.trans (congrArg some (by kernel_rfl))⟩
 t0:=fG
 a0:=lA
 z0:=jZ
 v0:=gG
 t4:=ey
 a4:=rh
 z4:=nF
 v4:=jx
 t23:=Tryz.underlying89
 a23:=Tryz.isAgg89
 z23:=Tryz.sizeOf89
 v23:=Tryz.zeroValue89
 t26:=ax
 a26:=lB
 z26:=j0
 v26:=gH
 t27:=Tryz.underlying114
 a27:=Tryz.isAgg114
 z27:=Tryz.sizeOf114
 v27:=Tryz.zeroValue114
 t28:=Tryz.underlying115
 a28:=Tryz.isAgg115
 z28:=Tryz.sizeOf115
 v28:=Tryz.zeroValue115
 t33:=Tryz.underlying104
 a33:=Tryz.isAgg104
 z33:=Tryz.sizeOf104
 v33:=Tryz.zeroValue104}
def Tryz.we:Go.Shelf.Ren:=⟨fun|6=>53|8=>99|9=>100|11=>152|13=>115|12=>153|23=>172|24=>173|14=>204|15=>205|16=>206|17=>207|18=>208|19=>209|20=>210|21=>211|22=>212|25=>259|26=>218|27=>219|28=>260|29=>261|30=>116|31=>286|n=>n,fun|26=>3|28=>115|24=>37|0=>0|3=>3|37=>189|48=>257|50=>190|4=>4|40=>251|39=>250|45=>202|5=>5|9=>9|51=>296|55=>300|57=>327|58=>328|33=>104|n=>n,fun|n=>n⟩
theorem Tryz.PK:Go.Proofs.SlLaysZI.n6 Tryz.prog Tryz.we:={
 mixed:=by kernel_rfl
 f6:=⟨Tryz.f53.name,by decide,Tryz.func53.trans (congrArg some (by kernel_rfl))⟩
 f8:=⟨Tryz.f99.name,by decide,Tryz.func99.trans (congrArg some (by kernel_rfl))⟩
 f11:=⟨Tryz.f152.name,by decide,Tryz.func152.trans (congrArg some (by kernel_rfl))⟩
 t0:=fG
 a0:=lA
 z0:=jZ
 v0:=gG
 t24:=an
 a24:=Tryz.isAgg37
 z24:=Tryz.sizeOf37
 v24:=Tryz.zeroValue37
 t26:=ax
 a26:=lB
 z26:=j0
 v26:=gH
 t28:=Tryz.underlying115
 a28:=Tryz.isAgg115
 z28:=Tryz.sizeOf115
 v28:=Tryz.zeroValue115
 i26:=by kernel_rfl}
def Tryz.Jb:Go.Shelf.Ren:=⟨fun|5=>100|8=>115|7=>153|19=>172|20=>173|10=>204|11=>205|12=>206|13=>207|14=>208|15=>209|16=>210|17=>211|18=>212|30=>259|31=>218|32=>219|33=>260|34=>261|35=>116|40=>286|n=>n,fun|23=>37|25=>3|3=>3|32=>189|22=>37|0=>0|44=>257|46=>190|4=>4|36=>251|35=>250|41=>202|5=>5|9=>9|53=>296|57=>300|63=>327|64=>328|n=>n,fun|n=>n⟩
theorem Tryz.RF:Go.Proofs.SlLaysM.n5 Tryz.prog Tryz.Jb:={
 mixed:=by kernel_rfl
 f5:=⟨Tryz.f100.name,by decide,Tryz.func100.trans (congrArg some (by kernel_rfl))⟩
 f7:=⟨Tryz.f153.name,by decide,Tryz.func153.trans (congrArg some (by kernel_rfl))⟩
 f8:=Tryz.func115.trans (congrArg some (by kernel_rfl))
 f10:=⟨Tryz.f204.name,by decide,Tryz.func204.trans (congrArg some (by kernel_rfl))⟩
 f11:=⟨Tryz.f205.name,by decide,Tryz.func205.trans (congrArg some (by kernel_rfl))⟩
 f12:=⟨Tryz.f206.name,by decide,Tryz.func206.trans (congrArg some (by kernel_rfl))⟩
 f13:=⟨Tryz.f207.name,by decide,Tryz.func207.trans (congrArg some (by kernel_rfl))⟩
 f14:=⟨Tryz.f208.name,by decide,Tryz.func208.trans (congrArg some (by kernel_rfl))⟩
 f15:=⟨Tryz.f209.name,by decide,Tryz.func209.trans (congrArg some (by kernel_rfl))⟩
 f16:=⟨Tryz.f210.name,by decide,Tryz.func210.trans (congrArg some (by kernel_rfl))⟩
 f17:=⟨Tryz.f211.name,by decide,Tryz.func211.trans (congrArg some (by kernel_rfl))⟩
 f18:=⟨Tryz.f212.name,by decide,Tryz.func212.trans (congrArg some (by kernel_rfl))⟩
 f19:=Tryz.func172.trans (congrArg some (by kernel_rfl))
 f20:=Tryz.func173.trans (congrArg some (by kernel_rfl))
 f30:=⟨Tryz.f259.name,by decide,Tryz.func259.trans (congrArg some (by kernel_rfl))⟩
 f31:=Tryz.func218.trans (congrArg some (by kernel_rfl))
 f32:=Tryz.func219.trans (congrArg some (by kernel_rfl))
 f33:=⟨Tryz.f260.name,by decide,Tryz.func260.trans (congrArg some (by kernel_rfl))⟩
 f34:=⟨Tryz.f261.name,by decide,Tryz.func261.trans (congrArg some (by kernel_rfl))⟩
 f35:=⟨Tryz.f116.name,by decide,Tryz.func116.trans (congrArg some (by kernel_rfl))⟩
 f40:=⟨Tryz.f286.name,by decide,Tryz.func286.trans (congrArg some (by kernel_rfl))⟩
 t0:=fG
 a0:=lA
 z0:=jZ
 v0:=gG
 t3:=ax
 a3:=lB
 z3:=j0
 v3:=gH
 t4:=ey
 a4:=rh
 z4:=nF
 v4:=jx
 t5:=cz
 a5:=Tryz.isAgg5
 z5:=Tryz.sizeOf5
 v5:=tb
 t9:=aJ
 a9:=lC
 z9:=j3
 v9:=gI
 t22:=an
 a22:=Tryz.isAgg37
 z22:=Tryz.sizeOf37
 v22:=Tryz.zeroValue37
 t23:=an
 a23:=Tryz.isAgg37
 z23:=Tryz.sizeOf37
 v23:=Tryz.zeroValue37
 t25:=ax
 a25:=lB
 z25:=j0
 v25:=gH
 t32:=jL
 a32:=Tryz.isAgg189
 z32:=Tryz.sizeOf189
 v32:=Tryz.zeroValue189
 t35:=Tryz.underlying250
 a35:=Tryz.isAgg250
 z35:=Tryz.sizeOf250
 v35:=Tryz.zeroValue250
 t36:=Tryz.underlying251
 a36:=Tryz.isAgg251
 z36:=Tryz.sizeOf251
 v36:=Tryz.zeroValue251
 t41:=Tryz.underlying202
 a41:=Tryz.isAgg202
 z41:=Tryz.sizeOf202
 v41:=Tryz.zeroValue202
 t44:=Tryz.underlying257
 a44:=Tryz.isAgg257
 z44:=Tryz.sizeOf257
 v44:=Tryz.zeroValue257
 t46:=rS
 a46:=Tryz.isAgg190
 z46:=Tryz.sizeOf190
 v46:=Tryz.zeroValue190
 t53:=Tryz.underlying296
 a53:=Tryz.isAgg296
 z53:=Tryz.sizeOf296
 v53:=Tryz.zeroValue296
 t57:=Tryz.underlying300
 a57:=Tryz.isAgg300
 z57:=Tryz.sizeOf300
 v57:=Tryz.zeroValue300
 t63:=Tryz.underlying327
 a63:=Tryz.isAgg327
 z63:=Tryz.sizeOf327
 v63:=Tryz.zeroValue327
 t64:=Tryz.underlying328
 a64:=Tryz.isAgg328
 z64:=Tryz.sizeOf328
 v64:=Tryz.zeroValue328}
def Tryz.AG:Go.Shelf.Ren:=⟨fun|7=>91|10=>142|n=>n,fun|23=>151|26=>9|3=>80|28=>162|0=>0|27=>161|33=>167|4=>4|n=>n,fun|n=>n⟩
theorem Tryz.HI:Go.Proofs.SlLaysZ.n7 Tryz.prog Tryz.AG:={
 mixed:=by kernel_rfl
 f7:=⟨Tryz.f91.name,by decide,Tryz.func91.trans (congrArg some (by kernel_rfl))⟩
 f10:=⟨Tryz.f142.name,by decide,Tryz.func142.trans (congrArg some (by kernel_rfl))⟩
 t0:=fG
 a0:=lA
 z0:=jZ
 v0:=gG
 t4:=ey
 a4:=rh
 z4:=nF
 v4:=jx
 t23:=iM
 a23:=Tryz.isAgg151
 z23:=Tryz.sizeOf151
 v23:=Tryz.zeroValue151
 t26:=aJ
 a26:=lC
 z26:=j3
 v26:=gI
 t27:=Tryz.underlying161
 a27:=Tryz.isAgg161
 z27:=Tryz.sizeOf161
 v27:=Tryz.zeroValue161
 t28:=Tryz.underlying162
 a28:=Tryz.isAgg162
 z28:=Tryz.sizeOf162
 v28:=Tryz.zeroValue162
 t33:=Tryz.underlying167
 a33:=Tryz.isAgg167
 z33:=Tryz.sizeOf167
 v33:=Tryz.zeroValue167}
def Tryz.wi:Go.Shelf.Ren:=⟨fun|6=>90|8=>140|9=>141|11=>191|13=>115|12=>192|23=>172|24=>173|14=>240|15=>241|16=>242|17=>243|18=>244|19=>245|20=>246|21=>247|22=>248|25=>280|26=>218|27=>219|28=>281|29=>282|30=>283|31=>297|n=>n,fun|26=>9|28=>162|24=>57|0=>0|3=>3|37=>189|48=>257|50=>190|4=>4|40=>251|39=>250|45=>202|5=>5|9=>9|51=>296|55=>300|57=>327|58=>328|33=>167|n=>n,fun|n=>n⟩
theorem Tryz.PL:Go.Proofs.SlLaysZ.n6 Tryz.prog Tryz.wi:={
 mixed:=by kernel_rfl
 f6:=⟨Tryz.f90.name,by decide,Tryz.func90.trans (congrArg some (by kernel_rfl))⟩
 f8:=⟨Tryz.f140.name,by decide,Tryz.func140.trans (congrArg some (by kernel_rfl))⟩
 f11:=⟨Tryz.f191.name,by decide,Tryz.func191.trans (congrArg some (by kernel_rfl))⟩
 t0:=fG
 a0:=lA
 z0:=jZ
 v0:=gG
 t24:=aS
 a24:=Tryz.isAgg57
 z24:=Tryz.sizeOf57
 v24:=Tryz.zeroValue57
 t26:=aJ
 a26:=lC
 z26:=j3
 v26:=gI
 t28:=Tryz.underlying162
 a28:=Tryz.isAgg162
 z28:=Tryz.sizeOf162
 v28:=Tryz.zeroValue162
 i26:=by kernel_rfl}
def Tryz.Jc:Go.Shelf.Ren:=⟨fun|6=>141|8=>115|9=>192|19=>172|20=>173|21=>240|22=>241|23=>242|24=>243|25=>244|26=>245|27=>246|28=>247|29=>248|36=>280|31=>218|32=>219|37=>281|38=>282|39=>283|41=>297|n=>n,fun|27=>57|29=>9|3=>3|32=>189|26=>57|0=>0|44=>257|46=>190|4=>4|36=>251|35=>250|41=>202|5=>5|9=>9|53=>296|57=>300|63=>327|64=>328|n=>n,fun|n=>n⟩
theorem Tryz.HJ:Go.Proofs.SlLaysM.n6 Tryz.prog Tryz.Jc:={
 mixed:=by kernel_rfl
 f6:=⟨Tryz.f141.name,by decide,Tryz.func141.trans (congrArg some (by kernel_rfl))⟩
 f8:=Tryz.func115.trans (congrArg some (by kernel_rfl))
 f9:=⟨Tryz.f192.name,by decide,Tryz.func192.trans (congrArg some (by kernel_rfl))⟩
 f19:=Tryz.func172.trans (congrArg some (by kernel_rfl))
 f20:=Tryz.func173.trans (congrArg some (by kernel_rfl))
 f21:=⟨Tryz.f240.name,by decide,Tryz.func240.trans (congrArg some (by kernel_rfl))⟩
 f22:=⟨Tryz.f241.name,by decide,Tryz.func241.trans (congrArg some (by kernel_rfl))⟩
 f23:=⟨Tryz.f242.name,by decide,Tryz.func242.trans (congrArg some (by kernel_rfl))⟩
 f24:=⟨Tryz.f243.name,by decide,Tryz.func243.trans (congrArg some (by kernel_rfl))⟩
 f25:=⟨Tryz.f244.name,by decide,Tryz.func244.trans (congrArg some (by kernel_rfl))⟩
 f26:=⟨Tryz.f245.name,by decide,Tryz.func245.trans (congrArg some (by kernel_rfl))⟩
 f27:=⟨Tryz.f246.name,by decide,Tryz.func246.trans (congrArg some (by kernel_rfl))⟩
 f28:=⟨Tryz.f247.name,by decide,Tryz.func247.trans (congrArg some (by kernel_rfl))⟩
 f29:=⟨Tryz.f248.name,by decide,Tryz.func248.trans (congrArg some (by kernel_rfl))⟩
 f31:=Tryz.func218.trans (congrArg some (by kernel_rfl))
 f32:=Tryz.func219.trans (congrArg some (by kernel_rfl))
 f36:=⟨Tryz.f280.name,by decide,Tryz.func280.trans (congrArg some (by kernel_rfl))⟩
 f37:=⟨Tryz.f281.name,by decide,Tryz.func281.trans (congrArg some (by kernel_rfl))⟩
 f38:=⟨Tryz.f282.name,by decide,Tryz.func282.trans (congrArg some (by kernel_rfl))⟩
 f39:=⟨Tryz.f283.name,by decide,Tryz.func283.trans (congrArg some (by kernel_rfl))⟩
 f41:=⟨Tryz.f297.name,by decide,Tryz.func297.trans (congrArg some (by kernel_rfl))⟩
 t0:=fG
 a0:=lA
 z0:=jZ
 v0:=gG
 t3:=ax
 a3:=lB
 z3:=j0
 v3:=gH
 t4:=ey
 a4:=rh
 z4:=nF
 v4:=jx
 t5:=cz
 a5:=Tryz.isAgg5
 z5:=Tryz.sizeOf5
 v5:=tb
 t9:=aJ
 a9:=lC
 z9:=j3
 v9:=gI
 t26:=aS
 a26:=Tryz.isAgg57
 z26:=Tryz.sizeOf57
 v26:=Tryz.zeroValue57
 t27:=aS
 a27:=Tryz.isAgg57
 z27:=Tryz.sizeOf57
 v27:=Tryz.zeroValue57
 t29:=aJ
 a29:=lC
 z29:=j3
 v29:=gI
 t32:=jL
 a32:=Tryz.isAgg189
 z32:=Tryz.sizeOf189
 v32:=Tryz.zeroValue189
 t35:=Tryz.underlying250
 a35:=Tryz.isAgg250
 z35:=Tryz.sizeOf250
 v35:=Tryz.zeroValue250
 t36:=Tryz.underlying251
 a36:=Tryz.isAgg251
 z36:=Tryz.sizeOf251
 v36:=Tryz.zeroValue251
 t41:=Tryz.underlying202
 a41:=Tryz.isAgg202
 z41:=Tryz.sizeOf202
 v41:=Tryz.zeroValue202
 t44:=Tryz.underlying257
 a44:=Tryz.isAgg257
 z44:=Tryz.sizeOf257
 v44:=Tryz.zeroValue257
 t46:=rS
 a46:=Tryz.isAgg190
 z46:=Tryz.sizeOf190
 v46:=Tryz.zeroValue190
 t53:=Tryz.underlying296
 a53:=Tryz.isAgg296
 z53:=Tryz.sizeOf296
 v53:=Tryz.zeroValue296
 t57:=Tryz.underlying300
 a57:=Tryz.isAgg300
 z57:=Tryz.sizeOf300
 v57:=Tryz.zeroValue300
 t63:=Tryz.underlying327
 a63:=Tryz.isAgg327
 z63:=Tryz.sizeOf327
 v63:=Tryz.zeroValue327
 t64:=Tryz.underlying328
 a64:=Tryz.isAgg328
 z64:=Tryz.sizeOf328
 v64:=Tryz.zeroValue328}
end Go.Proofs
namespace Go.K
open Go.Proofs
set_option maxRecDepth 10000
open Go.RowKit Go.Maps Go.Sort Go.Shelf
theorem UC (m:Nat):AnyZI.SortsIn Tryz.prog Tryz.we Fence.wide m:=
 ⟨fun fC off cap ss W hH hblk jI=>callsIn_wide.2 (AnyM.slices_Sort_int Tryz.RF fC off cap ss W hH hblk jI),
  fun p cap W=>callsIn_wide.2 (AnyM.slices_Sort_int_none Tryz.RF p cap W)⟩
theorem PM {R:Value→Option (DU×List MemPlace)} {M:aC} {w:World} {b bb:Nat} {m:List (Lit×DU)} (h:Tq Tryz.prog 3 R M w b m) (L0:w.cell? ⟨bb,0,none⟩=some (.map (some b))) (hl:m.length≤1099511627776):
  Spec Tryz.prog 53 #[.func (.func 101) #[] #[.pointer (some ⟨bb,0,none⟩)]] w (fun v w'=>(∃ss:List Int,ss.Perm (intKeys (DataW.map m))∧w'.ownsRow w.heap.size 3 1 v ss.length ((ss.mergeSort (fun x y=>decide (x≤y))).map encZ)∧(v= .slice none 0 0↔ss=[]))∧Step M w M w' aD):=by
 have UD:SeqGives Fence.wide 2 Tryz.prog 101 #[.pointer (some ⟨bb,0,none⟩)] encZ (fun ss=>ss.Perm (intKeys (DataW.map m))) (Maps.size (DataW.map m)) w:=
  AnyZI.keys_gives (ρ:=Tryz.AF) {Tryz.YL with} Fence.wide _ trivial rfl (by omega) bb b m.length (DataW.map m) _ (World.block_lt_of_cell? w _ L0) L0 h.own
 have jI:Maps.size (DataW.map m)=m.length:=rfl;have cS:=AnyZI.sorted_in Tryz.PK Fence.wide 5 trivial trivial trivial trivial rfl (by omega) (UC _) (enters_of Tryz.func100 (by kernel_rfl) rfl) 101 #[.pointer (some ⟨bb,0,none⟩)] trivial (enters_of Tryz.func101 (by kernel_rfl) rfl) _ _ (by rw[jI];unfold maxLen;omega) (by rw[jI];omega) _ UD;exact(callsIn_wide (n:=5)).1 (cS.mono fun e w' ⟨v,ss,h1,h2,h3,h4,h5⟩=>⟨v,h1,⟨ss,h2,h3,h4⟩,.xV h5 M⟩)
theorem UE (m:Nat):AnyZ.SortsIn Tryz.prog Tryz.wi Fence.wide m:=
 ⟨fun fC off cap ss W hH hblk jI=>callsIn_wide.2 (AnyM.slices_Sort_string Tryz.HJ fC off cap ss W hH hblk jI),
  fun p cap W=>callsIn_wide.2 (AnyM.slices_Sort_string_none Tryz.HJ p cap W)⟩
theorem F7 (mb:Option Nat) (w:World):Spec Tryz.prog 91 #[.map mb] w (fun v w'=>v= .func (.func 142) #[] #[.pointer (some ⟨w.heap.size,0,none⟩)]∧w'=w.alloc (.cells #[.map mb] 151)):=
 (callsIn_wide (n:=5)).1 ((AnyZ.keys_in Tryz.HI Fence.wide 5 trivial rfl mb w).mono fun e w' ⟨h1,h2⟩=>⟨_,h1,rfl,h2⟩)
theorem BG {R:Value→Option (DU×List MemPlace)} {M:aC} {w:World} {b bb:Nat} {m:List (Lit×DU)} (h:Tq Tryz.prog 9 R M w b m) (L0:w.cell? ⟨bb,0,none⟩=some (.map (some b))) (hl:m.length≤1099511627776):
  Spec Tryz.prog 90 #[.func (.func 142) #[] #[.pointer (some ⟨bb,0,none⟩)]] w (fun v w'=>(∃ss:List (List UInt8),ss.Perm (strKeys (DataW.map m))∧w'.ownsRow w.heap.size 9 1 v ss.length ((ss.mergeSort (fun x y=>decide (x≤y))).map encStr)∧(v= .slice none 0 0↔ss=[]))∧Step M w M w' aD):=by
 have UD:SeqGives Fence.wide 2 Tryz.prog 142 #[.pointer (some ⟨bb,0,none⟩)] encStr (fun ss=>ss.Perm (strKeys (DataW.map m))) (Maps.size (DataW.map m)) w:=
  AnyZ.keys_gives (ρ:=Tryz.AG) {Tryz.HI with} Fence.wide _ trivial rfl (by omega) bb b m.length (DataW.map m) _ (World.block_lt_of_cell? w _ L0) L0 h.own
 have jI:Maps.size (DataW.map m)=m.length:=rfl;have cS:=AnyZ.sorted_in Tryz.PL Fence.wide 5 trivial trivial trivial trivial rfl (by omega) (UE _) (enters_of Tryz.func141 (by kernel_rfl) rfl) 142 #[.pointer (some ⟨bb,0,none⟩)] trivial (enters_of Tryz.func142 (by kernel_rfl) rfl) _ _ (by rw[jI];unfold maxLen;omega) (by rw[jI];omega) _ UD;exact(callsIn_wide (n:=5)).1 (cS.mono fun e w' ⟨v,ss,h1,h2,h3,h4,h5⟩=>⟨v,h1,⟨ss,h2,h3,h4⟩,.xV h5 M⟩)
theorem zP {w w':World} {v:Value} {t:TypeId} (h:w'=w.alloc (.cells #[v] t)):w'.cell? ⟨w.heap.size,0,none⟩=some v:=by
 subst h;exact fA (ch w _) rfl
end Go.K
namespace Go.K
open Go.Proofs
set_option maxRecDepth 10000
theorem PN {M:aC} {w0:World} {v:Value} {b:List Fd} (hM:Lt M w0) (hv:(RT.fd.sl).V M w0 b v) (kY:b.length≤1099511627776):
  Spec Tryz.prog 190 #[v] w0 (fun v' w'=>(RT.fd.sl).V M w' b v'∧Step M w0 M w' aD):=by
 obtain⟨a,cap,lL,hc,hl,hs⟩:=iz.1 hv;refine bg (args:=[_]) (fn:=Tryz.f190) Tryz.func190 rfl (n:=8) Tryz.ntmps190 (aj (ae (ah rfl rfl (ab (aj (aj (ae (ad rfl rfl (aU (v':= .slice a b.length cap) lL (Rg.tu bz rfl rfl rfl (ab ?_)))))))))));refine bN rfl (fun c1=>?_) (fun c1=>?_)
 ·refine aj (ae (ah rfl rfl (ab (aQ ?_))))
  have hb:b=[]:=by
   rcases hs with h|⟨_,_,h,_⟩
   ·exact h
   ·rw[c1]at h;cases h
  exact aV rfl rfl ⟨by rw[hb];exact o8,aw _ _⟩
 ·refine aT (aj (ae ?_));refine Rg.sl0 bz kz M rfl (fun a0 w1 s1=>?_);refine ad rfl rfl ?_;refine Rg.qI (A:=RT.fd) (hn:=by decide) (M:=M) bz kz rfl rfl rfl rfl hv s1.le (s1.lt hM) (by omega) (fun u2 w2 wV s2=>?_);refine ah rfl rfl (ab (aQ ?_));exact aV rfl rfl ⟨wV,s1.aB s2⟩
theorem qt {M:aC} {w0:World} {v:Value} {b:List Int} (hM:Lt M w0) (hv:((RT.int .i64).sl).V M w0 b v) (kY:b.length≤1099511627776):
  Spec Tryz.prog 51 #[v] w0 (fun v' w'=>((RT.int .i64).sl).V M w' b v'∧Step M w0 M w' aD):=by
 obtain⟨a,cap,lL,hc,hl,hs⟩:=iz.1 hv;refine bg (args:=[_]) (fn:=Tryz.f51) Tryz.func51 rfl (n:=8) Tryz.ntmps51 (aj (ae (ah rfl rfl (ab (aj (aj (ae (ad rfl rfl (aU (v':= .slice a b.length cap) lL (Rg.tu an rfl rfl rfl (ab ?_)))))))))));refine bN rfl (fun c1=>?_) (fun c1=>?_)
 ·refine aj (ae (ah rfl rfl (ab (aQ ?_))))
  have hb:b=[]:=by
   rcases hs with h|⟨_,_,h,_⟩
   ·exact h
   ·rw[c1]at h;cases h
  exact aV rfl rfl ⟨by rw[hb];exact o8,aw _ _⟩
 ·refine aT (aj (ae ?_));refine Rg.sl0 an I3 M rfl (fun a0 w1 s1=>?_);refine ad rfl rfl ?_;refine Rg.qI (A:=(RT.int .i64)) (hn:=by decide) (M:=M) an I3 rfl rfl rfl rfl hv s1.le (s1.lt hM) (by omega) (fun u2 w2 wV s2=>?_);refine ah rfl rfl (ab (aQ ?_));exact aV rfl rfl ⟨wV,s1.aB s2⟩
theorem L3 {M:aC} {w0:World} {v:Value} {b:List (List UInt8)} (hM:Lt M w0) (hv:(RT.str.sl).V M w0 b v) (kY:b.length≤1099511627776):
  Spec Tryz.prog 199 #[v] w0 (fun v' w'=>(RT.str.sl).V M w' b v'∧Step M w0 M w' aD):=by
 obtain⟨a,cap,lL,hc,hl,hs⟩:=iz.1 hv;refine bg (args:=[_]) (fn:=Tryz.f199) Tryz.func199 rfl (n:=8) Tryz.ntmps199 (aj (ae (ah rfl rfl (ab (aj (aj (ae (ad rfl rfl (aU (v':= .slice a b.length cap) lL (Rg.tu aS rfl rfl rfl (ab ?_)))))))))));refine bN rfl (fun c1=>?_) (fun c1=>?_)
 ·refine aj (ae (ah rfl rfl (ab (aQ ?_))))
  have hb:b=[]:=by
   rcases hs with h|⟨_,_,h,_⟩
   ·exact h
   ·rw[c1]at h;cases h
  exact aV rfl rfl ⟨by rw[hb];exact o8,aw _ _⟩
 ·refine aT (aj (ae ?_));refine Rg.sl0 aS I9 M rfl (fun a0 w1 s1=>?_);refine ad rfl rfl ?_;refine Rg.qI (A:=RT.str) (hn:=by decide) (M:=M) aS I9 rfl rfl rfl rfl hv s1.le (s1.lt hM) (by omega) (fun u2 w2 wV s2=>?_);refine ah rfl rfl (ab (aQ ?_));exact aV rfl rfl ⟨wV,s1.aB s2⟩
theorem PO {M:aC} {w0:World} {v:Value} {b:List Li} (hM:Lt M w0) (hv:(((RT.li).ptr).sl).V M w0 b v) (kY:b.length≤1099511627776):
  Spec Tryz.prog 200 #[v] w0 (fun v' w'=>(((RT.li).ptr).sl).V M w' b v'∧Step M w0 M w' aD):=by
 obtain⟨a,cap,lL,hc,hl,hs⟩:=iz.1 hv;refine bg (args:=[_]) (fn:=Tryz.f200) Tryz.func200 rfl (n:=8) Tryz.ntmps200 (aj (ae (ah rfl rfl (ab (aj (aj (ae (ad rfl rfl (aU (v':= .slice a b.length cap) lL (Rg.tu ed rfl rfl rfl (ab ?_)))))))))));refine bN rfl (fun c1=>?_) (fun c1=>?_)
 ·refine aj (ae (ah rfl rfl (ab (aQ ?_))))
  have hb:b=[]:=by
   rcases hs with h|⟨_,_,h,_⟩
   ·exact h
   ·rw[c1]at h;cases h
  exact aV rfl rfl ⟨by rw[hb];exact o8,aw _ _⟩
 ·refine aT (aj (ae ?_));refine Rg.sl0 ed zG M rfl (fun a0 w1 s1=>?_);refine ad rfl rfl ?_;refine Rg.qI (A:=((RT.li).ptr)) (hn:=by decide) (M:=M) ed zG rfl rfl rfl rfl hv s1.le (s1.lt hM) (by omega) (fun u2 w2 wV s2=>?_);refine ah rfl rfl (ab (aQ ?_));exact aV rfl rfl ⟨wV,s1.aB s2⟩
theorem DI {M:aC} {d:Dc} {v0:Value} (w0:World) (hM:Lt M w0) (hv:RT.dc.V M w0 d v0) (hl:d.2.length≤1099511627776):
  Spec Tryz.prog 138 #[v0] w0 (fun v w=>RT.dc.V M w d v∧Step M w0 M w aD):=by
 have kr:=hM;refine bg (args:=[_]) (fn:=Tryz.f138) Tryz.func138 rfl (n:=9) Tryz.ntmps138 ?_;have S:Step M w0 M w0 aD:=(aw _ _).cF (fun _ h=>h.elim) (fun _ h=>h.elim);refine aj (ae ?_);refine vK (A:=RT.dc) rfl rfl hM hv rfl (fun u0 w1 dq s0 _=>?_);replace hM:=s0.lt hM;have:=S.size;replace S:=S.aB s0;refine ek M ou rfl (fun oT FM Ud Ue fY nu=>?_);obtain⟨fj,mu⟩:∃M',M'=ins M oT:=⟨_,rfl⟩;rw[←mu]at nu;have eX:fj oT:=by rw[mu];exact .inl rfl
 change FM.heap[oT]? =some (.cells #[.int .i64 0,.slice none 0 0] _ _)at fY;replace dq:=dq.le (by decide) nu.le;replace hM:=nu.lt hM;have:=S.size;replace S:=S.aB nu;refine ab (aj ?_);apply T.pq 4 [0,1] 1 aD mixed rfl rfl rfl rfl;intro EY K4;have lU:=K4 fj;have:=ak fY;replace eX:=(lU.mem _ this).2 eX;replace fY:=lU.aK fY;replace dq:=dq.le (by decide) lU.le;replace hM:=lU.lt hM;have:=S.size;replace S:=S.aB lU;refine aL (M:=fj) (A:=RT.dc) (B:=RT.int .i64) a8 rfl rfl I3 (by decide) (WM) rfl rfl (by decide) (by assumption) (by repeat (first|exact aq _ _|refine aY (bu (by assumption)) ?_)) (fun Bv mV=>?_);refine ab ⟨rfl,rfl,rfl,?_⟩;refine cb (M:=fj) ax rfl rfl (by assumption) (by repeat (first|exact aq _ _|refine aY (bu (by assumption)) ?_)) (fun Ru=>?_);refine ab ⟨rfl,rfl,rfl,?_⟩;refine aL (M:=fj) (A:=RT.dc) (B:=(RT.fd).sl) a8 rfl rfl uP (by decide) (IT) rfl rfl (by decide) (by assumption) (by repeat (first|exact aq _ _|refine aY (bu (by assumption)) ?_)) (fun F8 nX=>?_);refine ab ⟨rfl,rfl,rfl,?_⟩;refine bT (M:=fj) bz rfl rfl rfl rfl rfl (by assumption) (by repeat (first|exact aq _ _|refine aY (bu (by assumption)) ?_)) (fun aeR RG=>?_);refine ab ⟨rfl,rfl,rfl,?_⟩;refine eQ ?_;obtain⟨bb,oo,cs,ee,fr,rfl,k8,_⟩:=mV.float;refine⟨iH ⟨iF a8 rfl I3 (by decide),⟨eC rfl k8 (fun h=>h),trivial⟩⟩,?_⟩;have kp:=jC aD EY;refine aW rfl rfl adb (PN hM RG hl) (fun v4 w4 hc=>?_);obtain⟨pT,s4⟩:=hc;have:=ak fY;replace eX:=(s4.mem _ this).2 eX;replace fY:=s4.aK fY;replace dq:=dq.le (by decide) s4.le;replace hM:=s4.lt hM;have:=S.size;replace S:=S.aB s4;refine(fun(kp:eJ _ _ _)=>ab ⟨rfl,rfl,fun _=>kp,?_⟩) (by first|exact kp|exact kp.qV (by assumption)|exact kp.goN (by assumption)|exact kp.go (by assumption) (fun _ _ h=>by first|exact h|exact h.elim))
 refine iI (places:=[(0,1),(1,1)]) a8 ou B69 rfl ⟨_,_,rfl,rfl,_,_,rfl,rfl,rfl⟩ (out:=[_,_]) ⟨0,[_],rfl,rfl,by simp[Value.cells],1,[_],rfl,jw pT,by simp[Value.cells],rfl⟩ ?_;refine ab ⟨rfl,rfl,fun h=>absurd rfl h,?_⟩;have hd:RT.dc.V fj w4 d (.agg [.int .i64 d.1,v4].toArray):=eT (fI Ru) pT rfl rfl rfl rfl;refine dY (M:=fj) (vs:=[.int .i64 d.1,v4]) ou rfl rfl (BF rfl hd) rfl rfl fY eX (fun w6 g6 s6=>?_);have:=ak fY;replace eX:=(s6.mem _ this).2 eX;replace dq:=dq.le (by decide) s6.le;replace pT:=pT.le s6.le;replace hd:=hd.le s6.le;replace hM:=s6.lt hM;have:=S.size;replace S:=S.trans s6 (fun k hk h=>by have h:_=_:=h;subst h;first|(exfalso;omega)|(show _≤_;omega)|exact⟨by first|omega|assumption,(S.mem _ hk).1 ((s6.mem _ (ak fY)).1 eX)⟩|exact .inl rfl|exact .inr rfl|exact .inr (.inl rfl)|exact .inr (.inr rfl)|exact .inr (.inr (.inl rfl))|exact rfl);have DJ:=g6;clear fY;have fY:=DJ;clear DJ;refine ab ⟨rfl,rfl,fun h=>absurd rfl h,?_⟩;refine mH (aQ ?_);exact Bf (vs:=[.int .i64 d.1,v4]) rfl rfl a8 rfl ou rfl fY ⟨hd.le (Le.close kr S),S.back⟩
theorem L4 {M:aC} {e:En} {v0:Value} (w0:World) (hM:Lt M w0) (hv:RT.en.V M w0 e v0) (hl:e.1.2.length≤1099511627776):
  Spec Tryz.prog 88 #[v0] w0 (fun v w=>RT.en.V M w e v∧Step M w0 M w aD):=by
 have kr:=hM;refine bg (args:=[_]) (fn:=Tryz.f88) Tryz.func88 rfl (n:=9) Tryz.ntmps88 ?_;have S:Step M w0 M w0 aD:=(aw _ _).cF (fun _ h=>h.elim) (fun _ h=>h.elim);refine aj (ae ?_);refine vK (A:=RT.en) rfl rfl hM hv rfl (fun u0 w1 dq s0 _=>?_);replace hM:=s0.lt hM;have:=S.size;replace S:=S.aB s0;refine ek M EW rfl (fun oT FM Ud Ue fY nu=>?_);obtain⟨fj,mu⟩:∃M',M'=ins M oT:=⟨_,rfl⟩;rw[←mu]at nu;have eX:fj oT:=by rw[mu];exact .inl rfl
 change FM.heap[oT]? =some (.cells #[.int .i64 0,.slice none 0 0,.int .i64 0] _ _)at fY;replace dq:=dq.le (by decide) nu.le;replace hM:=nu.lt hM;have:=S.size;replace S:=S.aB nu;refine ab (aj ?_);apply T.Kw [0,1,3,4,2,5,6] 4 [2,3] 1 aD mixed
 ·simp+decide only[xL,sf,eR,jY,jb,jc,fq,db,im,pR,cond_true,cond_false,Nat.reduceBEq,Nat.reduceAdd,beq_self_eq_true];rfl
 ·rfl
 ·rfl
 ·rfl
 ·rfl
 ·rfl
 ·rfl
 intro EY K4;have lU:=K4 fj;have:=ak fY;replace eX:=(lU.mem _ this).2 eX;replace fY:=lU.aK fY;replace dq:=dq.le (by decide) lU.le;replace hM:=lU.lt hM;have:=S.size;replace S:=S.aB lU;refine aL (M:=fj) (A:=RT.en) (B:=RT.dc) dG rfl rfl ou (by decide) WN rfl rfl (by decide) dq (aq _ _) (fun Bv mV=>?_);refine ab ⟨rfl,rfl,rfl,?_⟩;refine dg (M:=fj) (A:=RT.dc) a8 rfl ou (by decide) rfl rfl rfl mV (aq _ _) (fun zK mW=>?_);refine ab ⟨rfl,rfl,rfl,?_⟩;refine aL (M:=fj) (A:=RT.en) (B:=RT.int .i64) dG rfl rfl I3 (by decide) Yg rfl rfl (by decide) dq (aq _ _) (fun F8 nX=>?_);refine ab ⟨rfl,rfl,rfl,?_⟩;refine cb (M:=fj) ax rfl rfl (by assumption) (by repeat (first|exact aq _ _|refine aY (bu (by assumption)) ?_)) (fun L5=>?_);refine aU (v':= .int .i64 (e.2)) rfl ?_;replace L5: -9223372036854775808≤(e.2:Int)∧e.2≤9223372036854775807:=L5;refine ab ⟨rfl,rfl,rfl,?_⟩;refine eQ ?_;obtain⟨bb,oo,cs,ee,fr,rfl,k8,_⟩:=nX.float;refine⟨iH ⟨iF dG rfl I3 (by decide),⟨eC rfl k8 (fun h=>h),trivial⟩⟩,?_⟩;have kp:=jC aD EY;refine aW rfl rfl ac3 (DI _ hM mW hl) (fun v4 w4 hc=>?_);obtain⟨pT,s4⟩:=hc;obtain⟨uf,rfl⟩:=Lg pT;have:=ak fY;replace eX:=(s4.mem _ this).2 eX;replace fY:=s4.aK fY;replace dq:=dq.le (by decide) s4.le;replace hM:=s4.lt hM;have:=S.size;replace S:=S.aB s4;refine(fun(kp:eJ _ _ _)=>ab ⟨rfl,rfl,fun _=>kp,?_⟩) (by first|exact kp|exact kp.qV (by assumption)|exact kp.goN (by assumption)|exact kp.go (by assumption) (fun _ _ h=>by first|exact h|exact h.elim));refine iI (places:=[(0,2),(2,1)]) dG EW B71 rfl ⟨_,_,rfl,rfl,_,_,rfl,rfl,rfl⟩ (out:=[_,_,_]) ⟨0,[_,_],rfl,rfl,by simp[Value.cells],2,[_],rfl,rfl,by simp[Value.cells],rfl⟩ ?_
 refine ab ⟨rfl,rfl,fun h=>absurd rfl h,?_⟩;have hd:RT.en.V fj w4 e (.agg [.int .i64 e.1.1,uf,.int .i64 e.2].toArray):=Rl (p:=e.1) pT L5;refine dY (M:=fj) (vs:=[.int .i64 e.1.1,uf,.int .i64 e.2]) EW rfl rfl (BF rfl hd) rfl rfl fY eX (fun w6 g6 s6=>?_);have:=ak fY;replace eX:=(s6.mem _ this).2 eX;replace dq:=dq.le (by decide) s6.le;replace pT:=pT.le s6.le;replace hd:=hd.le s6.le;replace hM:=s6.lt hM;have:=S.size;replace S:=S.trans s6 (fun k hk h=>by have h:_=_:=h;subst h;first|(exfalso;omega)|(show _≤_;omega)|exact⟨by first|omega|assumption,(S.mem _ hk).1 ((s6.mem _ (ak fY)).1 eX)⟩|exact .inl rfl|exact .inr rfl|exact .inr (.inl rfl)|exact .inr (.inr rfl)|exact .inr (.inr (.inl rfl))|exact rfl);have DJ:=g6;clear fY;have fY:=DJ;clear DJ;refine ab ⟨rfl,rfl,fun h=>absurd rfl h,?_⟩;refine mH (aQ ?_);exact Bf (vs:=[.int .i64 e.1.1,uf,.int .i64 e.2]) rfl rfl dG rfl EW rfl fY ⟨hd.le (Le.close kr S),S.back⟩
end Go.K
namespace Go.K
open Go.Proofs
namespace TKBldB
theorem YM:TI Tryz.prog 217 (.map none) 1 8:=by unfold TI;kernel_rfl
theorem aeS:Enters Tryz.prog 133:=enters Tryz.func133 rfl (by decide)
theorem aeT:Enters Tryz.prog 134:=enters Tryz.func134 rfl (by decide)
theorem aeU:Enters Tryz.prog 135:=enters Tryz.func135 rfl (by decide)
end TKBldB
open TKBldB
set_option maxRecDepth 10000
theorem IJ.aM {bt mb B:Nat} {ts:List (Fd×Nat)} {M M':aC} {w w':World} (h:IJ bt mb B ts M w) (s:Step M w M' w' aD):IJ bt mb B ts M' w':=by
 obtain⟨gb,eh,eY,hB,HE,es,clock,hW,hI⟩:=h;exact⟨s.aK gb,(s.mem _ (ak gb)).2 eh,(s.mem _ (ak hW.at_)).2 eY,hB,HE,es,clock,hW.aM s,hI.aM s⟩
theorem L6 {bt mb B:Nat}:Um Tryz.prog 133 [.pointer (some ⟨bt,0,none⟩)] B (IJ bt mb B):=
 ⟨aeS,fun ts M w M' w' h s=>h.aM s,fun ts M w t i hJ hM h1 h2 hi h4=>I6 w hM h1 h2 hi h4 hJ⟩
theorem L7 (M:aC) (w:World) (B:Nat):I2 M w B [] [] where
 o t v hv:=by
  rcases hv with⟨e,he,_⟩|⟨_,rfl⟩
  ·cases he
  ·exact dz _ _ _ _ _
 a t t' v v' _ hv _:=by
  rcases hv with⟨e,he,_⟩|⟨_,rfl⟩
  ·cases he
  ·exact(gN.nil v').symm
 k:=rfl
theorem DK:∀(ts:List (Fd×Nat)) (l:List Fd),(ts.foldl (fun l p=>if p.1∈l then l else l++[p.1]) l).length≤l.length+ts.length
 |[],l=>by simp
 |p::ts,l=>by
  rw[List.foldl_cons,cM];refine eD (DK ts _) ?_
  split
  ·omega
  ·rw[bj];simp;omega
theorem PQ (M:aC) (w:World) (M':aC) (w':World) (x:Fd) (vs:List Value) (h:RT.fd.R M w x vs):RT.fd.R M' w' x vs:=h
theorem DL {M:aC} {d:Dc} {v0:Value} (w0:World) (hM:Lt M w0) (hv:RT.dc.V M w0 d v0) (hF:kP d) (hl:∀f∈d.2,f.1.length≤900000∧f.2.length≤900000):
  Spec Tryz.prog 87 #[v0] w0 (fun v w=>∃a b,v= .tuple #[a,b]∧(RT.fd.sl).V M w (cY (cG d.2)) a∧(((RT.int .i64).sl).sl).V M w ((cY (cG d.2)).map (posOf (cG d.2))) b∧Step M w0 M w aD):=by
 have kr:=hM;have RH:=hF.many;refine bg (args:=[_]) (fn:=Tryz.f87) Tryz.func87 rfl (n:=31) Tryz.ntmps87 ?_;have S:Step M w0 M w0 aD:=(aw _ _).cF (fun _ h=>h.elim) (fun _ h=>h.elim);refine aj (ae ?_);refine vK (A:=RT.dc) rfl rfl hM hv rfl (fun u0 w1 dq s0 _=>?_);replace hM:=s0.lt hM;have:=S.size;replace S:=S.aB s0;refine ah rfl rfl (ah rfl rfl (ab (aj (ae ?_))));refine Rg.Dt M lY rfl (fun mb w1m p1 q1 gW s1=>?_);obtain⟨UF,L8⟩:∃M',M'=ins M mb:=⟨_,rfl⟩;rw[←L8]at s1;have BH:UF mb:=by rw[L8];exact .inl rfl
 replace dq:=dq.le (by decide) s1.le;replace hM:=s1.lt hM;have:=S.size;replace S:=S.aB s1;refine ek UF YM rfl (fun Jd Uo aoQ aoR zM wZ=>?_);obtain⟨L9,Mc⟩:∃M',M'=ins UF Jd:=⟨_,rfl⟩;rw[←Mc]at wZ;have yA:L9 Jd:=by rw[Mc];exact .inl rfl
 change Uo.heap[Jd]? =some (.cells #[.map none] _ _)at zM;replace dq:=dq.le (by decide) wZ.le;replace BH:=(wZ.mem _ (ak gW.at_)).2 BH;replace gW:=gW.aM wZ;replace hM:=wZ.lt hM;have:=S.size;replace S:=S.aB wZ;refine cu (M:=L9) YM rfl rfl zM rfl (rfl) yA (fun PA iB pJ=>?_)
 try simp only[List.setIfInBounds_toArray,List.set_cons_zero,List.set_cons_succ]at iB
 have:=ak zM;replace yA:=(pJ.mem _ this).2 yA;replace dq:=dq.le (by decide) pJ.le;replace BH:=(pJ.mem _ (ak gW.at_)).2 BH;replace gW:=gW.step pJ (by show¬(_=_);omega);replace hM:=pJ.lt hM;have:=S.size;replace S:=S.trans pJ (fun k hk h=>by have h:_=_:=h;subst h;first|(exfalso;omega)|(show _≤_;omega)|exact⟨by first|omega|assumption,(S.mem _ hk).1 ((pJ.mem _ (ak zM)).1 yA)⟩|exact .inl rfl|exact .inr rfl|exact .inr (.inl rfl)|exact .inr (.inr rfl)|exact .inr (.inr (.inl rfl))|exact rfl);have RI:=iB;clear zM;have zM:=RI;clear RI;refine ab (aj (ae ?_));refine dg (M:=L9) (A:=RT.dc) a8 rfl ou (by decide) rfl rfl rfl (by assumption) (by repeat (first|exact aq _ _|refine aY (bu (by assumption)) ?_)) (fun aoS YN=>?_);refine j5 (xs:=[]) (ys:=[.tmp 4]) rfl rfl rfl ?_;refine aW rfl rfl XF (Aw (cap:=[.pointer (some ⟨Jd,0,none⟩)]) (B:=w0.heap.size) _ hM YN hl hF.few (L6 (mb:=mb)) ⟨zM,yA,BH,by omega,by omega,[],0,gW,L7 _ _ _⟩) (fun r2 w2 hc=>?_);obtain⟨M2,EZ,⟨gb,_,_,_,_,es,clock,hW,hI⟩,s2⟩:=hc;replace S:=S.l0 s2 (aO _);have pK:∀t v,ew kM es (kv t) v→(((RT.int .i64).sl)).V M w2 (posOf (cG d.2) t) v:=fun t v h=>(hI.o t v h).close kr S (by have:=uX (cG d.2) t;omega)
 replace S:=S.back;replace hM:=S.lt kr
 have YO:∀e∈es,∃t∈seen (cG d.2),e.key=kv t:=fun e he=>by
  have:e.key∈(seen (cG d.2)).map kv:=by rw[←hI.k];exact hY he
  obtain⟨t,h1,h2⟩:=ca.1 this;exact⟨t,h1,h2.symm⟩
 have A4:∀t∈seen (cG d.2),OD t∧t.1.length≤12∧t.2.length≤30:=fun t ht=>by
  obtain⟨p,hp,rfl⟩:=ca.1 (tP.1 ht);exact⟨hF.PH p hp,hF.small p hp⟩
 have nk:(seen (cG d.2)).length≤500:=eD (DK _ _) (by simp;omega);have Cx:es.length≤500:=by have:=congrArg List.length hI.k;simp at this;omega
 refine ab (aj (ae (aP lY rfl rfl rfl gb rfl ?_)));refine aW rfl rfl aeU (F0 _) (fun r3 w3 hc=>?_);obtain⟨bs,rfl,Us,_,s3⟩:=hc;replace s3:=s3.toAny M;replace hW:=hW.aM s3;replace gb:=s3.aK gb;replace pK:=fun t v h=>(pK t v h).le s3.le
 replace hM:=s3.lt hM;have:=S.size;replace S:=S.aB s3
 refine aW rfl rfl aeT (Dz _ (fun e he=>by
  obtain⟨t,h1,h2⟩:=YO e he;exact⟨t,h2,by have:=(A4 t h1).2;omega,by have:=(A4 t h1).2;omega⟩) (fun e he t ht=>by
  obtain⟨t',h1,h2⟩:=YO e he;obtain rfl:=uW (ht.symm.trans h2);exact⟨(A4 _ h1).1,by have:=(A4 _ h1).2;omega,by have:=(A4 _ h1).2;omega⟩) (by omega) (fun ts om kg=>by
  have:=om.length_le_of_subset (l₂:=seen (cG d.2)) (fun t ht=>(tL hI.k).1 (kg t ht));omega) Us hW) (fun r4 w4 hc=>?_)
 obtain⟨us,om,kg,SN,YF,s4⟩:=hc;obtain rfl:=DD hF.PH om (fun t=>(kg t).trans (tL hI.k)) SN;have JZ:(cY (cG d.2)).length≤500:=eD (om.length_le_of_subset (l₂:=seen (cG d.2)) (fun t ht=>tP.2 ((kO hF.PH).1 ht))) nk;replace s4:=s4.toAny M;have zC:(RT.fd.sl).V M w4 (cY (cG d.2)) r4:=YF.tell PQ (fun b hb h=>by have:=(YF.base b hb).1;have:=hM b h;omega) (by omega);clear YF;replace hW:=hW.aM s4;replace gb:=s4.aK gb;replace pK:=fun t v h=>(pK t v h).le s4.le
 replace hM:=s4.lt hM;have:=S.size;replace S:=S.aB s4;refine ah rfl rfl (ab (aj (ae (ah rfl rfl (ab (aj (aj (ae (ad rfl rfl (bR jM rfl zC rfl (ad rfl rfl ?_)))))))))));refine ab (aZ ?_);refine dn (σ:=Nat×Value) (fun q=>[(4,.pointer (some ⟨Jd,0,none⟩)),(5,r4),(6,q.2),(16,r4),(17,.int .i64 ((cY (cG d.2)).length:Int)),(18,.int .i64 (q.1:Int))]) (fun q w=>∃M',Lt M' w∧Step M w0 M' w aD∧Own ((RT.int .i64).sl) 37 M' w w0.heap.size q.2 (((cY (cG d.2)).take q.1).map (posOf (cG d.2)))∧(RT.fd.sl).V M' w (cY (cG d.2)) r4∧fE Tryz.prog 78 w mb es clock∧w.heap[Jd]? =some (.cells #[.map (some mb)] 217 (0,0))∧(∀t v,ew kM es (kv t) v→(((RT.int .i64).sl)).V M' w (posOf (cG d.2) t) v)∧q.1≤(cY (cG d.2)).length) (fun q=>(cY (cG d.2)).length-q.1) (0,.slice none 0 0) (.cons rfl (.cons rfl (.cons rfl (.cons rfl (.cons rfl (.cons rfl .nil)))))) ?_ ?_
 ·exact⟨M,hM,S,dz _ _ _ _ _,zC,hW,gb,pK,bG _⟩
 ·clear hM zC hW gb pK S;rintro⟨i,u⟩ w ⟨M1,hM,S,ho,zC,hW,gb,pK,hi⟩;dsimp only at ho hi ⊢;refine aj (ae (cn rfl rfl rfl (ab (aj ?_))));refine bN rfl (fun c6=>?_) (fun c6=>?_)
  ·refine aT (aj (aZ (aj (ae ?_))));refine cE (M:=M1) jM An rfl rfl rfl zC (aq _ _) (by omega) (fun Yl t hg7 Hx=>?_);rw[ay]at hg7;have O4:=az hg7;have Kr:=A4 t (tP.2 ((kO hF.PH).1 O4));refine dg (M:=M1) (A:=RT.fd) dH rfl An (by decide) rfl rfl rfl Hx (aq _ _) (fun aeh Rr=>?_);refine rR (A:=RT.fd) (M:=M1) An rfl rfl rfl rfl rfl (by assumption) (aq _ _) hM (fun aeW aoT AH F9 aoU=>?_);replace zC:=zC.le F9.le;replace ho:=ho.aM F9;replace hW:=hW.aM F9;replace gb:=F9.aK gb;replace pK:=fun t v h=>(pK t v h).le F9.le
   replace hM:=F9.lt hM;have:=S.size;replace S:=S.aB F9;refine ab (ae (ad rfl rfl (aP lY rfl rfl rfl gb rfl ?_)));refine dg (M:=M1) (A:=RT.fd) dH rfl An (by decide) rfl rfl rfl AH (aq _ _) (fun aoV YP=>?_);obtain rfl:=sy YP;obtain⟨kl,Fb⟩:=LL t (by omega) (by omega);refine Rg.tH lY Av j7 rfl rfl rfl Fb hW (fun v8 lL=>?_);have J0:=pK _ _ lL;clear lL;refine eg (A:=((RT.int .i64).sl)) (hn:=by decide) (M:=M1) cL j7 (by decide) rfl rfl hM (J0) (.inr ⟨rfl,rfl⟩) (fun aoW aoX Md DM=>?_);replace zC:=zC.le DM.le;replace AH:=AH.le (by decide) DM.le;replace ho:=ho.aM DM;replace hW:=hW.aM DM;replace gb:=DM.aK gb;replace pK:=fun t v h=>(pK t v h).le DM.le
   replace hM:=DM.lt hM;have:=S.size;replace S:=S.aB DM;refine cX (M:=M1) (base:=w0.heap.size) cL j7 rfl rfl rfl rfl ho Md (aq _ _) (by simp;omega) (by simp;omega) (S.size) (fun aeX aeY aoY YQ DN=>?_);replace zC:=zC.le DN.le;replace AH:=AH.le (by decide) DN.le;replace Md:=Md.le DN.le;replace hW:=hW.step DN (fun h=>ho.kN hW.at_ h);replace gb:=DN.keep gb (fun h=>ho.eM gb (by decide) h);replace pK:=fun t v h=>(pK t v h).le DN.le
   replace hM:=DN.lt hM;have:=S.size;replace S:=S.cV DN ho (aO _);replace ho:=YQ;refine ah rfl rfl (ab (ae (bD rfl rfl rfl (by omega) (ad rfl rfl (ab ?_)))));refine⟨rfl,(i+1,aeX),(.cons rfl (.cons rfl (.cons rfl (.cons rfl (.cons rfl (.cons rfl .nil)))))),?_,?_⟩
   ·exact⟨aeY,hM,S,by rw[b9,hg7,cK,dF];exact ho,zC,hW,gb,pK,by dsimp only;omega⟩
   ·dsimp only;omega
  ·refine cI (aj (ae (ad rfl rfl (ad rfl rfl (ah rfl rfl (ah rfl rfl (ab (aQ ?_))))))));have e:(cY (cG d.2)).take i=cY (cG d.2):=bc (by omega);rw[e]at ho;exact eS rfl rfl rfl ⟨_,_,rfl,zC.le (Le.close kr S),ho.close kr S (by simp;omega),S.back⟩
end Go.K
namespace Go.K
def RJ {α:Type} (A:RT α) (M:aC) (w:World) (v:Value) (x:α):Prop:=∃b o vs,v= .pointer (some ⟨b,o,none⟩)∧A.R M w x vs∧w.rangeAt b o vs
theorem Own.elem {α:Type} {A:RT α} {e:TypeId} {M:aC} {w:World} {base:Nat} {v:Value} {xs:List α} (h:Own A e M w base v xs) (hA:0<A.n) {i:Nat} {x:α} (hx:xs[i]? =some x):
  ∃g cap vs,v= .slice (some ⟨g,0,none⟩) xs.length cap∧M g∧A.R M w x vs∧w.rangeAt g (i*A.n) vs:=by
 obtain⟨⟨C,hr,ha⟩,hm⟩:=h;rcases hr.2 with⟨h1,h2⟩|⟨g,cap,cur,h1,h2,h3,h4,h5,h6,h7⟩
 ·have:xs=[]:=List.eq_nil_of_length_eq_zero h2;subst this;simp at hx
 ·obtain⟨vs,hv,hj⟩:=ha.at_ i x hx;refine⟨g,cap,vs,h1,hm g (by rw[h1];rfl),hv,fun j u hu=>?_⟩;have h8:=hj j u hu;rw[←h7,cp]at h8
  split at h8
  ·simp only[World.cell?,h3];simpa using h8
  ·cases h8
section
variable {P:Program} {r:Option Nat} {n:Nat} {L:Sl} {ds:List Deferred} {w:World} {K:Kt} {ops:Array Oper} {rest:List Oper} {d:Nat} {x y:Operand} {ty:TypeId} {pos:String} {af:Array Edge} {α:Type} {A:RT α}
theorem Rg.aeZ {t e e':TypeId} {i:Operand} {κ:IntKind} {j:Int} {M:aC} {base:Nat} {xs:List α} {v zv:Value} {bytes:Nat} (ht:P.underlying t=some (.slice e)) (hi:TI P e zv A.n bytes) (hA:0<A.n)
  (hx:ev L x=some v) (E6:ev L i=some (.int κ j)) (hd:Nat.blt d n=true) (ho:Own A e' M w base v xs) (hj:0≤j∧j<xs.length)
  (k:∀u a,xs[j.toNat]? =some a→RJ A M w u a→Rg P r n ops rest ((d,u)::L) ds w K):
  Rg P r n ops ({dst:=some d,op:= .indexAddr t x i,type:=ty,pos,after:=af,guard:=none}::rest) L ds w K:=by
 have dQ:j.toNat<xs.length:=by omega
 obtain⟨g,cap,vs,rfl,hm,h1,h2⟩:=ho.elem hA (au dQ);refine .op (fun _ h=>by cases h) rfl rfl hd (.pointer (some ⟨g,0+j.toNat*A.n,none⟩)) w (fun ρ h=>?_) (k _ xs[j.toNat] (au dQ) ⟨g,_,vs,rfl,h1,by rw[fN];exact h2⟩);simp only[execOp,h x _ hx,h i _ E6];simp[Instr.indexAt,run_underlying ht,asIntOf,hj,hi.sizeOf,wI]
theorem Rg.Me {t:TypeId} {fs:TypeDesc} {zv:Value} {bytes:Nat} {M:aC} {p:Value} {a:α} (hu:P.underlying t=some fs) (hf:fs.isRow=true) (hi:TI P t zv A.n bytes) (hg:A.agg=true)
  (hx:ev L x=some p) (hd:Nat.blt d n=true) (hp:RJ A M w p a) (k:∀v,A.V M w a v→Rg P r n ops rest ((d,v)::L) ds w K):
  Rg P r n ops ({dst:=some d,op:= .load t x,type:=ty,pos,after:=af,guard:=none}::rest) L ds w K:=by
 obtain⟨b,o,vs,rfl,h1,h2⟩:=hp;refine .op (fun _ h=>by cases h) rfl rfl hd (.agg vs.toArray) w (fun ρ h=>?_) (k _ ⟨vs,h1,by simp[RT.val,hg]⟩);simp only[execOp,h x _ hx];obtain⟨i,xj,_,zr,_⟩:=hi.get;have:=run_loadAt_mid (P:=P) w b o t vs fs h2 hu hf (by simp[xj,zr,A.len h1]);simp[this]
end
end Go.K
namespace Go.K
open Go.Proofs
namespace TKBldC
theorem ae0:TI Tryz.prog 153 (.agg #[(.slice none 0 0),(.map none),(.int .i64 0),(.int .i64 0)]) 4 48:=by unfold TI;kernel_rfl
theorem ae1:placesOf Tryz.prog 153=[(0,1),(1,1),(2,1),(3,1)].map some:=by kernel_rfl
end TKBldC
open TKBldC
set_option maxRecDepth 10000
open Go.Maps (Keyed)
theorem tS:Keyed Tryz.prog 9:=Go.Maps.string_keyed aJ
theorem Mf (k:List UInt8) (h:k.length≤140737488355328):∃l,keyOf Tryz.prog 9 (sv k)=some l:=by
 have e1:(⟨k.toArray⟩:ByteArray).size=k.length:=by simp[ByteArray.size]
 exact⟨_,Go.WideMaps.keyOf_string_mk aJ (by rw[e1];unfold maxLen;omega)⟩
structure DO (Z:aC) (M:aC) (w:World) (B:Nat) (f:List UInt8→List Po) (K:List UInt8→Prop) (es:List MapEntry):Prop where
 o:∀k v,ew kM es (sv k) v→Own RT.po 83 M w B v (f k)
 a:∀k k' v v',k≠k'→ew kM es (sv k) v→ew kM es (sv k') v'→gN v v'
 k:∀x,(∃e∈es,e.key=sv x)↔K x
 z:∀k v c,ew kM es (sv k) v→v.ownBlock=some c→Z c
theorem DO.step {Z M M' N:aC} {w w':World} {B:Nat} {f:List UInt8→List Po} {K:List UInt8→Prop} {es:List MapEntry} (h:DO Z M w B f K es) (s:Step M w M' w' N) (hn:∀k v b,ew kM es (sv k) v→v.ownBlock=some b→¬N b):DO Z M' w' B f K es:=
 ⟨fun k v hv=>(h.o k v hv).step s fun b hb=>hn k v b hv hb,h.a,h.k,h.z⟩
theorem DO.aM {Z M M':aC} {w w':World} {B:Nat} {f:List UInt8→List Po} {K:List UInt8→Prop} {es:List MapEntry} (h:DO Z M w B f K es) (s:Step M w M' w' aD):DO Z M' w' B f K es:=h.step s fun _ _ _ _ _ h=>h
theorem DO.congr {Z M:aC} {w:World} {B:Nat} {f f':List UInt8→List Po} {K K':List UInt8→Prop} {es:List MapEntry} (h:DO Z M w B f K es) (hf:∀k,f' k=f k) (hK:∀k,K' k↔K k):DO Z M w B f' K' es:=
 ⟨fun k v hv=>by rw[hf];exact h.o k v hv,h.a,fun x=>(h.k x).trans (hK x).symm,h.z⟩
theorem DO.Je {Z Z' M:aC} {w:World} {B:Nat} {f:List UInt8→List Po} {K:List UInt8→Prop} {es:List MapEntry} (h:DO Z M w B f K es) (hz:∀c,Z c→c<w.heap.size→Z' c):DO Z' M w B f K es:=
 ⟨h.o,h.a,h.k,fun k v c hv hc=>hz c (h.z k v c hv hc) ((h.o k v hv).base c hc).2⟩
theorem DO.put {Z M M2:aC} {w w1 w2:World} {B mb c:Nat} {mes:Array MapEntry} {f:List UInt8→List Po} {K:List UInt8→Prop} {es UG:List MapEntry} {k0:List UInt8} {v0 v1:Value} {ps:List Po} (h:DO Z M w B f K es) (hZ:∀c,w.heap.size≤c→Z c) (Oy:ew kM es (sv k0) v0)
  (UH:Own RT.po 83 (jh M v1) w1 B v1 (f k0++ps)) (s1:Step M w (jh M v1) w1 (fC v0)) (hF:∀b,v1.ownBlock=some b→w.heap.size≤b∨v0.ownBlock=some b) (hmb:w1.heap[mb]? =some (.map mes c)) (s2:Step (jh M v1) w1 M2 w2 (fun k=>k=mb))
  (F1:∀zv jo v',ew zv UG jo v'↔(jo=sv k0∧v'=v1)∨(jo≠sv k0∧ew zv es jo v')) (pz:(UG.map (·.key)=es.map (·.key)∧∃e∈es,e.key=sv k0)∨(UG.map (·.key)=es.map (·.key)++[sv k0]∧∀e∈es,e.key≠sv k0)):
  DO Z M2 w2 B (fun k=>if k=k0 then f k0++ps else f k) (fun x=>K x∨x=k0) UG:=by
 have rG:∀k v,ew kM UG (sv k) v→(k=k0∧v=v1)∨(k≠k0∧ew kM es (sv k) v):=fun k v hv=>by
  rcases(F1 kM (sv k) v).1 hv with⟨h3,h4⟩|⟨h3,h4⟩
  ·exact .inl ⟨BC h3,h4⟩
  ·exact .inr ⟨fun e=>h3 (by rw[e]),h4⟩
 have ta:∀k v,k≠k0→ew kM es (sv k) v→gN v1 v:=fun k v eN hv=>(h.a k k0 v v0 eN hv Oy).symm.grown hF (fun b hb=>((h.o k v hv).base b hb).2)
 have PF:∀k v,k≠k0→ew kM es (sv k) v→Own RT.po 83 (jh M v1) w1 B v (f k):=fun k v eN hv=>(h.o k v hv).step s1 (fun b hb hk=>h.a k k0 v v0 eN hv Oy b hb hk)
 have hnm:∀{v:Value} {xs:List Po},Own RT.po 83 (jh M v1) w1 B v xs→∀b,v.ownBlock=some b→¬b=mb:=fun ho b hb e=>ho.kN hmb (by rw[←e];exact hb)
 refine⟨fun k v hv=>?_,fun k k' v v' eN hv rq=>?_,fun x=>?_,fun k v c hv hc=>?_⟩
 ·rcases rG k v hv with⟨rfl,rfl⟩|⟨h3,h4⟩
  ·rw[if_pos rfl];exact UH.step s2 (hnm UH)
  ·rw[if_neg h3];exact(PF k v h3 h4).step s2 (hnm (PF k v h3 h4))
 ·rcases rG k v hv with⟨rfl,rfl⟩|⟨h3,h4⟩
  ·rcases rG k' v' rq with⟨rfl,_⟩|⟨h5,h6⟩
   ·exact absurd rfl eN
   ·exact ta k' v' h5 h6
  ·rcases rG k' v' rq with⟨rfl,rfl⟩|⟨h5,h6⟩
   ·exact(ta k v h3 h4).symm
   ·exact h.a k k' v v' eN h4 h6
 ·have kg:(∃e∈UG,e.key=sv x)↔sv x∈UG.map (·.key):=by simp
  have ae2:(∃e∈es,e.key=sv x)↔sv x∈es.map (·.key):=by simp
  rw[kg,←h.k x,ae2];rcases pz with⟨h3,e,he,hk⟩|⟨h3,_⟩
  ·rw[h3];constructor
   ·exact .inl
   ·rintro(h4|rfl)
    ·exact h4
    ·rw[←hk];exact hY he
  ·rw[h3,cq,bH];constructor
   ·rintro(h4|h4)
    ·exact .inl h4
    ·exact .inr (BC h4)
   ·rintro(h4|rfl)
    ·exact .inl h4
    ·exact .inr rfl
 ·rcases rG k v hv with⟨rfl,rfl⟩|⟨h3,h4⟩
  ·rcases hF c hc with h5|h5
   ·exact hZ c h5
   ·exact h.z _ _ c Oy h5
  ·exact h.z k v c h4 hc
theorem PR (Z M:aC) (w:World) (B:Nat):DO Z M w B (pk []) (fun x=>x∈iL []) [] where
 o k v hv:=by
  rcases hv with⟨e,he,_⟩|⟨_,rfl⟩
  ·cases he
  ·exact dz _ _ _ _ _
 a k k' v v' _ hv _:=by
  rcases hv with⟨e,he,_⟩|⟨_,rfl⟩
  ·cases he
  ·exact(gN.nil v').symm
 k x:=by simp[iL]
 z k v c hv hc:=by
  rcases hv with⟨e,he,_⟩|⟨_,rfl⟩
  ·cases he
  ·cases hc
structure Buf (Z M:aC) (w:World) (B b mb:Nat) (vl:Value) (L:List En) (words last:Int) (f:List UInt8→List Po) (K:List UInt8→Prop) (es:List MapEntry) (clock:Nat):Prop where
 at_:w.heap[b]? =some (.cells #[vl,.map (some mb),.int .i64 words,.int .i64 last] 153 (0,0))
 m:M b
 mm:M mb
 hb:Z b
 hmb:Z mb
 l:Own RT.en 71 M w B vl L
 map:fE Tryz.prog 9 w mb es clock
 rows:DO Z M w B f K es
 zl:∀c,vl.ownBlock=some c→Z c
def nY (Z M:aC) (w:World) (B b:Nat) (L:List En) (words last:Int):Prop:=∃mb vl es clock,Buf Z M w B b mb vl L words last (pk L) (fun x=>x∈iL L) es clock
theorem nY.aM {Z M M':aC} {w w':World} {B b:Nat} {L:List En} {words last:Int} (h:nY Z M w B b L words last) (s:Step M w M' w' aD):nY Z M' w' B b L words last:=by
 obtain⟨mb,vl,es,clock,h1,h2,h3,h4,h5,h6,h7,h8,h9⟩:=h;exact⟨mb,vl,es,clock,s.aK h1,(s.mem _ (ak h1)).2 h2,(s.mem _ (ak h7.at_)).2 h3,h4,h5,h6.aM s,h7.aM s,h8.aM s,h9⟩
theorem nY.Je {Z Z' M:aC} {w:World} {B b:Nat} {L:List En} {words last:Int} (h:nY Z M w B b L words last) (hz:∀c,Z c→c<w.heap.size→Z' c):nY Z' M w B b L words last:=by
 obtain⟨mb,vl,es,clock,h1,h2,h3,h4,h5,h6,h7,h8,h9⟩:=h;exact⟨mb,vl,es,clock,h1,h2,h3,hz _ h4 (ak h1),hz _ h5 (ak h7.at_),h6,h7,h8.Je hz,fun c hc=>hz c (h9 c hc) (h6.base c hc).2⟩
theorem nY.step {Z M M' N:aC} {w w':World} {B b:Nat} {L:List En} {words last:Int} (h:nY Z M w B b L words last) (s:Step M w M' w' N) (hn:∀k,N k→¬Z k):nY Z M' w' B b L words last:=by
 obtain⟨mb,vl,es,clock,h1,h2,h3,h4,h5,h6,h7,h8,h9⟩:=h;exact⟨mb,vl,es,clock,s.keep h1 (fun hk=>hn _ hk h4),(s.mem _ (ak h1)).2 h2,(s.mem _ (ak h7.at_)).2 h3,h4,h5,h6.step s (fun c hc hk=>hn _ hk (h9 c hc)),h7.step s (fun hk=>hn _ hk h5),h8.step s (fun k v c hv hc hk=>hn _ hk (h8.z k v c hv hc)),h9⟩
theorem nY.stepT {Z M M' N:aC} {w w':World} {B b:Nat} {L:List En} {words last:Int} (h:nY Z M w B b L words last) (s:Step M w M' w' N) (hn:∀k,N k→∃cs t,w.heap[k]? =some (.cells cs t (0,0))∧t≠153∧t≠71∧t≠83):nY Z M' w' B b L words last:=by
 obtain⟨mb,vl,es,clock,h1,h2,h3,h4,h5,h6,h7,h8,hz⟩:=h;refine⟨mb,vl,es,clock,s.keep h1 (fun hk=>?_),(s.mem _ (ak h1)).2 h2,(s.mem _ (ak h7.at_)).2 h3,h4,h5,h6.step s (fun c hc hk=>?_),h7.step s (fun hk=>?_),h8.step s (fun k v c hv hc hk=>?_),hz⟩
 ·obtain⟨cs,t,h9,PS,_⟩:=hn _ hk;rw[h1]at h9;simp at h9;exact PS h9.2.symm
 ·obtain⟨cs,t,h9,_,PS,_⟩:=hn _ hk;exact h6.eM h9 PS hc
 ·obtain⟨cs,t,h9,_⟩:=hn _ hk;rw[h7.at_]at h9;cases h9
 ·obtain⟨cs,t,h9,_,_,PS⟩:=hn _ hk;exact(h8.o k v hv).eM h9 PS hc
def Mh (M Z:aC):aC:=fun k=>Z k∧M k
theorem ew.ex (zv:Value) (es:List MapEntry) (key:Value):∃v,ew zv es key v:=by
 by_cases h:∃e∈es,e.key=key
 ·obtain⟨e,he,hk⟩:=h;exact⟨e.val,.inl ⟨e,he,hk,rfl⟩⟩
 ·exact⟨zv,.inr ⟨fun e he hk=>h ⟨e,he,hk⟩,rfl⟩⟩
def mM (last:Int) (e:En):Int:=if lK e.1≠0 then lK e.1 else if e.2≤last then 12 else 0
def Mi (L:List En) (tl:List (Fd×Nat)) (i:Nat) (k:List UInt8):List Po:=pk L k++(((cY tl).take i).filter fun t=>decide (gE t=k)).map fun t=>((L.length:Int),posOf tl t)
theorem Mj (L:List En) (tl:List (Fd×Nat)) (k:List UInt8):Mi L tl 0 k=pk L k:=by simp[Mi]
theorem Mk {L:List En} {tl:List (Fd×Nat)} {i:Nat} {t:Fd} (h:(cY tl)[i]? =some t) (k:List UInt8):Mi L tl (i+1) k=if k=gE t then Mi L tl i (gE t)++[((L.length:Int),posOf tl t)]else Mi L tl i k:=by
 unfold Mi;rw[b9,h,cK,List.filter_append,dF]
 split
 ·rename_i e;subst e;simp
 ·rename_i e
  have: ¬gE t=k:=fun h=>e h.symm
  simp[this]
theorem PT {L:List En} {e:En} {i:Nat} (h:(cY (pC e)).length≤i) (k:List UInt8):Mi L (pC e) i k=pk (L++[e]) k:=by
 unfold Mi;rw[PI,bc h];rfl
theorem PU {L:List En} (hF:∀x∈L,kP x.1) (tl:List (Fd×Nat)) (i:Nat) (k:List UInt8):(Mi L tl i k).length≤L.length+(cY tl).length:=by
 unfold Mi;have h1:=(qs k L 0 hF).1;have h2:=jF (fun t=>decide (gE t=k)) ((cY tl).take i);have h3:=List.length_take_le i (cY tl);have h4:(pk L k).length≤L.length:=h1;simp only[bj,aH,bC]at*;omega
theorem AI {d:Dc} (hF:kP d):(cY (cG d.2)).length≤500:=by
 have h1:=(tO hF.PH).nodup.length_le_of_subset (l₂:=(cG d.2).map (·.1)) (fun t ht=>(kO hF.PH).1 ht);have:=hF.many;simp at h1;omega
theorem kP.term {d:Dc} (hF:kP d) {t:Fd} (h:t∈cY (cG d.2)):t.1.length≤12∧t.2.length≤30:=by
 obtain⟨p,hp,rfl⟩:=ca.1 ((kO hF.PH).1 h);exact hF.small p hp
theorem Ml {Z M:aC} {B:Nat} (w0:World) (hM:Lt M w0) (hB:B≤w0.heap.size) (hZ:∀k,w0.heap.size≤k→Z k):
  Spec Tryz.prog 39 #[] w0 (fun v w=>∃M' b,v= .pointer (some ⟨b,0,none⟩)∧Lt M' w∧nY Z M' w B b [] 0 (-1)∧Step M w0 M' w aD):=by
 refine bg (args:=[]) (fn:=Tryz.f39) Tryz.func39 rfl (n:=4) Tryz.ntmps39 ?_;have S:Step M w0 M w0 aD:=(aw _ _).cF (fun _ h=>h.elim) (fun _ h=>h.elim);refine aj (ae (ah rfl rfl (ab (aj (ae ?_)))));refine Rg.Dt M iM rfl (fun mb w1m p1 q1 gW s1=>?_);obtain⟨UF,L8⟩:∃M',M'=ins M mb:=⟨_,rfl⟩;rw[←L8]at s1;have BH:UF mb:=by rw[L8];exact .inl rfl
 replace hM:=s1.lt hM;have:=S.size;replace S:=S.aB s1;refine iI (places:=[(0,1),(1,1),(2,1),(3,1)]) dP ae0 ae1 rfl ⟨_,_,rfl,rfl,_,_,rfl,rfl,rfl⟩ (out:=[.slice none 0 0,_,.int .i64 0,_]) ⟨1,[_],rfl,rfl,by simp[Value.cells],3,[_],rfl,rfl,by simp[Value.cells],rfl⟩ ?_;refine wJ UF rfl rfl (fun UI PA ao0 ao1 iB pJ=>?_);obtain⟨YR,Mm⟩:∃M',M'=ins UF UI:=⟨_,rfl⟩;rw[←Mm]at pJ;have UJ:YR UI:=by rw[Mm];exact .inl rfl
 change PA.heap[UI]? =some (.cells #[.slice none 0 0,.map (some mb),.int .i64 0,.int .i64 (-1)] _ _)at iB;replace BH:=(pJ.mem _ (ak gW.at_)).2 BH;replace gW:=gW.aM pJ;replace hM:=pJ.lt hM;have:=S.size;replace S:=S.aB pJ;refine ah rfl rfl (ab (aQ ?_));exact aV rfl rfl ⟨_,_,rfl,hM,⟨mb,_,[],0,iB,UJ,BH,hZ _ (by omega),hZ _ (by omega),dz _ _ _ _ _,gW,PR _ _ _ _,fun c hc=>by cases hc⟩,S⟩
end Go.K
namespace Go.K
open Go.Proofs
namespace TKBldD
theorem YS:TI Tryz.prog 29 (.slice none 0 0) 1 24:=by unfold TI;kernel_rfl
theorem yB:TI Tryz.prog 80 (.slice none 0 0) 1 24:=by unfold TI;kernel_rfl
theorem Ga:TI Tryz.prog 151 (.map none) 1 8:=by unfold TI;kernel_rfl
theorem E86:Enters Tryz.prog 86:=enters Tryz.func86 rfl (by decide)
theorem E87:Enters Tryz.prog 87:=enters Tryz.func87 rfl (by decide)
theorem E88:Enters Tryz.prog 88:=enters Tryz.func88 rfl (by decide)
theorem E89:Enters Tryz.prog 89:=enters Tryz.func89 rfl (by decide)
end TKBldD
open TKBldD
set_option maxRecDepth 10000
set_option maxHeartbeats 4000000 in
theorem Mo {Z M:aC} {B b:Nat} {L:List En} {words last:Int} {e:En} {v0:Value} (w0:World) (hM:Lt M w0) (hZ:∀k,w0.heap.size≤k→Z k) (hb:nY Z M w0 B b L words last) (hBw:B≤w0.heap.size) (hv:RT.en.V M w0 e v0) (hl:∀f∈e.1.2,f.1.length≤900000∧f.2.length≤900000) (hLF:∀x∈L,kP x.1) (hLn:L.length≤1000000) (hw:0≤words∧words≤1000000000):
  Spec Tryz.prog 40 #[.pointer (some ⟨b,0,none⟩),v0] w0 (fun v w=>∃M',Lt M' w∧Step M w0 M' w (Mh M Z)∧v= .int .i64 (mM last e)∧(mM last e≠0→nY Z M' w B b L words last)∧(mM last e=0→nY Z M' w B b (L++[e]) (words+((pC e).length:Int)) e.2)):=by
 obtain⟨mb,vl,es,clock,gb,eh,eY,hB,HE,ho,hW,hR,zl⟩:=hb;have RE:b≠mb:=fun h=>by have:=hW.at_;rw[←h,gb]at this;cases this
 refine bg (args:=[_,_]) (fn:=Tryz.f40) Tryz.func40 rfl (n:=89) Tryz.ntmps40 ?_;have S:Step M w0 M w0 (Mh M Z):=(aw _ _).cF (fun _ h=>h.elim) (fun _ h=>h.2);refine aj (ae ?_);refine vK (A:=RT.en) rfl rfl hM hv rfl (fun u0 w1 dq s0 _=>?_);have:=ak gb;replace eh:=(s0.mem _ this).2 eh;replace gb:=s0.aK gb;replace ho:=ho.aM s0;replace eY:=(s0.mem _ (ak hW.at_)).2 eY;replace hW:=hW.aM s0;replace hR:=hR.aM s0;replace hM:=s0.lt hM;have:=S.size;replace S:=S.aB s0;refine ah rfl rfl (ab (aj (aj (ae ?_))));refine aL (M:=M) (A:=RT.en) (B:=RT.dc) dG rfl rfl ou (by decide) WN rfl rfl (by decide) dq (aq _ _) (fun Bv mV=>?_);refine dg (M:=M) (A:=RT.dc) a8 rfl ou (by decide) rfl rfl rfl mV (aq _ _) (fun zK mW=>?_);refine aW rfl rfl E86 (Lj _ hM mW hl) (fun r2 w2 hc=>?_);obtain⟨rfl,s2⟩:=hc;have:=ak gb;replace eh:=(s2.mem _ this).2 eh;replace gb:=s2.aK gb;replace dq:=dq.le (by decide) s2.le;replace ho:=ho.aM s2;replace eY:=(s2.mem _ (ak hW.at_)).2 eY;replace hW:=hW.aM s2;replace hR:=hR.aM s2;replace hM:=s2.lt hM;have:=S.size;replace S:=S.aB s2;refine ah rfl rfl (ab (aj (ae (ad rfl rfl (fe rfl rfl rfl (ab ?_))))));refine bN rfl (fun c2=>?_) (fun c2=>?_)
 ·refine aj (ae (ad rfl rfl (ah rfl rfl (ab (aQ ?_)))));have ea:mM last e=lK e.1:=if_pos c2;exact aV rfl rfl ⟨_,hM,S,by rw[ea],fun _=>⟨mb,vl,es,clock,gb,eh,eY,hB,HE,ho,hW,hR,zl⟩,fun h=>absurd (ea▸h) c2⟩
 ·have hF:kP e.1:=HG (by simpa using c2);refine aT (aj (aj ?_));apply uz mixed rfl rfl;intro wD4 YT;have AJ:=YT M;have:=ak gb;replace eh:=(AJ.mem _ this).2 eh;replace gb:=AJ.aK gb;replace dq:=dq.le (by decide) AJ.le;replace ho:=ho.aM AJ;replace eY:=(AJ.mem _ (ak hW.at_)).2 eY;replace hW:=hW.aM AJ;replace hR:=hR.aM AJ;replace hM:=AJ.lt hM;have:=S.size;replace S:=S.aB AJ;refine aL (M:=M) (A:=RT.en) (B:=RT.int .i64) dG rfl rfl I3 (by decide) Yg rfl rfl (by decide) dq (aq _ _) (fun T2 Hw=>?_);refine ab ⟨rfl,rfl,rfl,?_⟩;refine cb (M:=M) ax rfl rfl (by assumption) (by repeat (first|exact aq _ _|refine aY (bu (by assumption)) ?_)) (fun RL=>?_);refine aU (v':= .int .i64 (e.2)) rfl ?_;replace RL: -9223372036854775808≤(e.2:Int)∧e.2≤9223372036854775807:=RL;refine ab ⟨rfl,rfl,rfl,?_⟩;refine ad rfl rfl ?_;refine ab ⟨rfl,rfl,rfl,?_⟩;refine bQ rfl ⟨_,rfl⟩ rfl ?_;refine ab ⟨rfl,rfl,rfl,?_⟩;refine bO (o':=3) dP rfl rfl I3 (by decide) rfl rfl ?_;refine ab ⟨rfl,rfl,rfl,?_⟩;refine aP ax rfl rfl rfl (by first|assumption|exact cZ AJ (by assumption)) rfl ?_;refine ab ⟨rfl,rfl,rfl,?_⟩;refine gL rfl rfl rfl ?_;refine ab ⟨rfl,rfl,rfl,?_⟩;refine eQ ?_;refine bN rfl (fun c4=>?_) (fun c4=>?_)
  ·refine aj (ae (ah rfl rfl (ab (aQ ?_))));have ea:mM last e=12:=by unfold mM;rw[if_neg (fun h=>h (by simpa using c2)),if_pos c4]
   exact aV rfl rfl ⟨_,hM,S,by rw[ea],fun _=>⟨mb,vl,es,clock,gb,eh,eY,hB,HE,ho,hW,hR,zl⟩,fun h=>absurd (ea▸h) (by decide)⟩
  ·refine aT (aj (ae ?_));refine aL (M:=M) (A:=RT.en) (B:=RT.dc) dG rfl rfl ou (by decide) WN rfl rfl (by decide) dq (aq _ _) (fun Yq Lu=>?_);refine dg (M:=M) (A:=RT.dc) a8 rfl ou (by decide) rfl rfl rfl Lu (aq _ _) (fun Uh yn=>?_);refine aW rfl rfl E87 (DL _ hM yn hF hl) (fun r6 w6 hc=>?_);obtain⟨a6,b6,rfl,ha,qu,s6⟩:=hc;have:=ak gb;replace eh:=(s6.mem _ this).2 eh;replace gb:=s6.aK gb;replace dq:=dq.le (by decide) s6.le;replace ho:=ho.aM s6;replace eY:=(s6.mem _ (ak hW.at_)).2 eY;replace hW:=hW.aM s6;replace hR:=hR.aM s6;replace hM:=s6.lt hM;have:=S.size;replace S:=S.aB s6;refine ad rfl rfl (bV rfl rfl rfl (bV rfl rfl rfl (ah rfl rfl (ah rfl rfl (ab (aj (aj (ae (ad rfl rfl (bR jM rfl ha rfl (ad rfl rfl ?_)))))))))));refine ab (aZ ?_);refine dn (σ:=Nat) (fun q=>[(0,.pointer (some ⟨b,0,none⟩)),(3,u0),(7,b6),(30,a6),(31,.int .i64 ((cY (pC e)).length:Int)),(32,.int .i64 (q:Int))]) (fun q w=>∃M' es clock,Lt M' w∧Step M w0 M' w (Mh M Z)∧cP RT.en M' w u0 e∧(RT.fd.sl).V M' w (cY (pC e)) a6∧(((RT.int .i64).sl).sl).V M' w ((cY (pC e)).map (posOf (pC e))) b6∧Buf Z M' w B b mb vl L words last (Mi L (pC e) q) (fun x=>x∈iL L∨x∈((cY (pC e)).take q).map gE) es clock∧q≤(cY (pC e)).length) (fun q=>(cY (pC e)).length-q) 0 (.cons rfl (.cons rfl (.cons rfl (.cons rfl (.cons rfl (.cons rfl .nil)))))) ?_ ?_
   ·exact⟨_,es,clock,hM,S,dq,ha,qu,⟨gb,eh,eY,hB,HE,ho,hW,hR.congr (fun k=>Mj _ _ _) (fun k=>by simp),zl⟩,bG _⟩
   ·clear hM S dq ha qu gb eh eY ho hW hR;rintro i w ⟨M1,es,clock,hM,S,dq,ha,qu,⟨gb,eh,eY,_,_,ho,hW,hR,_⟩,hi⟩;refine aj (ae (cn rfl rfl rfl (ab (aj ?_))));refine bN rfl (fun c8=>?_) (fun c8=>?_)
    ·refine aT (aj (aZ (aj (ae (ad rfl rfl ?_)))));refine cE (M:=M1) jM An rfl rfl rfl ha (aq _ _) (by omega) (fun ae4 t Rw Mp=>?_);rw[ay]at Rw;have O4:=az Rw;have Kr:=hF.term O4;refine dg (M:=M1) (A:=RT.fd) dH rfl An (by decide) rfl rfl rfl Mp (aq _ _) (fun ae5 Mt=>?_);obtain rfl:=sy Mt;refine ek M1 An rfl (fun yC XV ao7 ao8 oW qf=>?_);obtain⟨wk,Mu⟩:∃M',M'=ins M1 yC:=⟨_,rfl⟩;rw[←Mu]at qf;have BI:wk yC:=by rw[Mu];exact .inl rfl
     change XV.heap[yC]? =some (.cells #[.string ⟨#[]⟩,.string ⟨#[]⟩] _ _)at oW;have:=ak gb;replace eh:=(qf.mem _ this).2 eh;replace gb:=qf.aK gb;replace dq:=dq.le (by decide) qf.le;replace ha:=ha.le qf.le;replace qu:=qu.le qf.le;replace ho:=ho.aM qf;replace eY:=(qf.mem _ (ak hW.at_)).2 eY;replace hW:=hW.aM qf;replace hR:=hR.aM qf;replace hM:=qf.lt hM;have:=S.size;replace S:=S.aB qf;refine ah rfl rfl ?_;refine dY (M:=wk) (vs:=[.string ⟨t.1.toArray⟩,.string ⟨t.2.toArray⟩]) An rfl rfl (BF rfl Mt) rfl rfl oW BI (fun w9 g9 s9=>?_);have:=ak gb;replace eh:=(s9.mem _ this).2 eh;replace gb:=s9.keep gb (fun hk=>by have hk:_=_:=hk;omega);have:=ak oW;replace BI:=(s9.mem _ this).2 BI;replace dq:=dq.le (by decide) s9.le;replace ha:=ha.le s9.le;replace qu:=qu.le s9.le;replace ho:=ho.step s9 (fun c hc (h:_=_)=>by first|exact ho.eM gb (by decide) (h▸hc)|exact ho.eM oW (by decide) (h▸hc));replace eY:=(s9.mem _ (ak hW.at_)).2 eY;replace hW:=hW.step s9 (by first|exact fun h=>ho.kN hW.at_ h|exact fun(h:mb=b)=>RE h.symm|exact fun(h:mb=yC)=>by have h9:=hW.at_;rw[h,oW]at h9;cases h9);replace hR:=hR.step s9 (by first|exact fun k v c hv hc h=>(hR.o k v hv).dx ho (by decide) hc h|exact fun k v c hv hc (h:c=b)=>(hR.o k v hv).eM gb (by decide) (h▸hc)|exact fun k v c hv hc (h:c=yC)=>(hR.o k v hv).eM oW (by decide) (h▸hc));replace hM:=s9.lt hM;have:=S.size;replace S:=S.trans s9 (fun k hk h=>by have h:_=_:=h;subst h;first|(exfalso;omega)|(show _≤_;omega)|exact⟨by first|omega|assumption,(S.mem _ hk).1 ((s9.mem _ (ak oW)).1 BI)⟩|exact .inl rfl|exact .inr rfl|exact .inr (.inl rfl)|exact .inr (.inr rfl)|exact .inr (.inr (.inl rfl))|exact rfl);have RM:=g9;clear oW;have oW:=RM;clear RM;refine ab (aj (ae (iq (vs:=[.string ⟨t.1.toArray⟩,.string ⟨t.2.toArray⟩]) dH rfl An rfl rfl rfl oW ?_)))
     refine aW rfl rfl E80 (LP (t:=t) _ hM (by omega) (by omega)) (fun r10 w10 hc=>?_);obtain⟨rfl,Cl⟩:=hc;have:=ak gb;replace eh:=(Cl.mem _ this).2 eh;replace gb:=Cl.aK gb;replace dq:=dq.le (by decide) Cl.le;replace ha:=ha.le Cl.le;replace qu:=qu.le Cl.le;replace ho:=ho.aM Cl;replace eY:=(Cl.mem _ (ak hW.at_)).2 eY;replace hW:=hW.aM Cl;replace hR:=hR.aM Cl;replace hM:=Cl.lt hM;have:=S.size;replace S:=S.aB Cl;refine ah rfl rfl (ab ?_);obtain⟨v10,lL⟩:=ew.ex kM es (sv (gE t));apply T.pq 21 [0,1,2,3,4,5,6,7,8,9,10] 2 (fC v10) mixed rfl rfl rfl rfl;intro Mv Mw;have je:=Mw wk;have:=ak gb;replace eh:=(je.mem _ this).2 eh;replace gb:=je.aK gb;replace dq:=dq.le (by decide) je.le;replace ha:=ha.le je.le;replace qu:=qu.le je.le;replace ho:=ho.aM je;replace eY:=(je.mem _ (ak hW.at_)).2 eY;replace hW:=hW.aM je;replace hR:=hR.aM je;replace hM:=je.lt hM;have:=S.size;replace S:=S.aB je;refine ad rfl rfl ?_;refine ab ⟨rfl,rfl,rfl,?_⟩;refine bQ rfl ⟨_,rfl⟩ rfl ?_;refine ab ⟨rfl,rfl,rfl,?_⟩;refine bO (o':=1) dP rfl rfl Ga (by decide) rfl rfl ?_;refine ab ⟨rfl,rfl,rfl,?_⟩;refine aP iM rfl rfl rfl (by first|assumption|exact cZ je (by assumption)) rfl ?_;refine ab ⟨rfl,rfl,rfl,?_⟩;refine ad rfl rfl ?_;refine ab ⟨rfl,rfl,rfl,?_⟩;refine ad rfl rfl ?_;refine ab ⟨rfl,rfl,rfl,?_⟩;refine bQ rfl ⟨_,rfl⟩ rfl ?_;refine ab ⟨rfl,rfl,rfl,?_⟩;refine bO (o':=1) dP rfl rfl Ga (by decide) rfl rfl ?_;refine ab ⟨rfl,rfl,rfl,?_⟩;refine aP iM rfl rfl rfl (by first|assumption|exact cZ je (by assumption)) rfl ?_;refine ab ⟨rfl,rfl,rfl,?_⟩;refine ad rfl rfl ?_;refine ab ⟨rfl,rfl,rfl,?_⟩;obtain⟨kl,Fb⟩:=Mf (gE t) (by unfold gE;simp;omega);refine Rg.tH iM tS yB rfl rfl rfl Fb hW (fun ae6 ae7=>?_)
     obtain rfl:v10=ae6:=hW.val_one lL ae7;have sV:=PU hLF (pC e) i (gE t);have Iu:(cY (pC e)).length≤500:=AI hF;refine ab ⟨rfl,rfl,rfl,?_⟩;refine ad rfl rfl ?_;refine ab ⟨rfl,rfl,rfl,?_⟩;refine bQ rfl ⟨_,rfl⟩ rfl ?_;refine ab ⟨rfl,rfl,rfl,?_⟩;refine bO (o':=0) dP rfl rfl YS (by decide) rfl rfl ?_;refine ab ⟨rfl,rfl,rfl,?_⟩;refine aP ff rfl rfl rfl (by first|assumption|exact cZ je (by assumption)) rfl ?_;refine ab ⟨rfl,rfl,rfl,?_⟩;refine fO ff rfl ho rfl ?_;refine ab ⟨rfl,rfl,rfl,?_⟩;refine ad rfl rfl ?_;refine ab ⟨rfl,rfl,rfl,?_⟩;refine ad rfl rfl ?_;refine ab ⟨rfl,rfl,rfl,?_⟩;refine cE (M:=wk) cL j7 rfl rfl rfl qu (aq _ _) (by simp;omega) (fun u18 ps YU ae8=>?_);rw[ay,bm,Rw]at YU;obtain rfl:=aI YU;refine ab ⟨rfl,rfl,rfl,?_⟩;refine bT (M:=wk) an rfl rfl rfl rfl rfl ae8 (aq _ _) (fun v19 YV=>?_);refine ab ⟨rfl,rfl,rfl,?_⟩;refine iI (places:=[(0,1),(1,1)]) bW oO XD rfl ⟨_,_,rfl,rfl,_,_,rfl,rfl,rfl⟩ (out:=[_,_]) ⟨0,[_],rfl,rfl,by simp[Value.cells],1,[_],rfl,jw YV,by simp[Value.cells],rfl⟩ ?_;have Co:RT.po.V wk _ ((L.length:Int),posOf (pC e) t) _:=eT (fI (by omega)) YV rfl rfl rfl rfl;refine ab ⟨rfl,rfl,rfl,?_⟩;refine eQ ?_;have rF:=hR.o _ _ lL;refine⟨iH ⟨gX,⟨bX.nilCheck rfl,⟨iF dP rfl Ga (by decide),⟨eC rfl gb (fun h=>rF.eM gb (by decide) h),⟨gX,⟨gX,⟨bX.nilCheck rfl,⟨iF dP rfl Ga (by decide),⟨eC rfl gb (fun h=>rF.eM gb (by decide) h),⟨gX,⟨bX.tH iM tS yB rfl rfl Fb hW (fun h=>rF.kN hW.at_ h),trivial⟩⟩⟩⟩⟩⟩⟩⟩⟩⟩⟩,?_⟩;have kp:=jC (fC v10) Mv;refine eg (A:=RT.po) (hn:=by decide) (M:=wk) bI oO (by decide) rfl rfl hM (Co) (.inl rfl) (fun ae9 afa PV mB=>?_)
     have:=ak gb;replace eh:=(mB.mem _ this).2 eh;replace gb:=mB.aK gb;replace dq:=dq.le (by decide) mB.le;replace ha:=ha.le mB.le;replace qu:=qu.le mB.le;replace ho:=ho.aM mB;replace eY:=(mB.mem _ (ak hW.at_)).2 eY;replace hW:=hW.aM mB;replace hR:=hR.aM mB;replace hM:=mB.lt hM;have:=S.size;replace S:=S.aB mB;refine(fun(kp:eJ _ _ _)=>ab ⟨rfl,rfl,fun _=>kp,?_⟩) (by first|exact kp|exact kp.qV (by assumption)|exact kp.goN (by assumption)|exact kp.go (by assumption) (fun _ _ h=>by first|exact h|exact h.elim));refine kx (M:=wk) (base:=B) bI oO rfl rfl rfl rfl (hR.o _ _ lL) PV (aq _ _) (by simp;omega) (by simp;omega) (by have:=S.size;omega) (fun v22 w22 afb Mx afc=>?_);have rF:=hR.o _ _ lL;have akj:=hW.at_;have YW:v10.ownBlock≠some mb:=rF.kN hW.at_;have RN:=ho.step Mx (fun c hc h=>ho.dx rF (by decide) hc h);have Gb:=(Mx.mem _ (ak hW.at_)).2 eY;have PW:=hW.step Mx YW;have YX:=Mx.keep gb (fun h=>rF.eM gb (by decide) h);have UK:=(Mx.mem _ (ak gb)).2 eh;have S22:=S.trans Mx (fun k hk h=>⟨hR.z _ _ k lL h,(S.mem k hk).1 (rF.mut_ k h)⟩);have afd:=Mx.lt hM;replace dq:=dq.le (by decide) Mx.le;replace ha:=ha.le Mx.le;replace qu:=qu.le Mx.le;refine(fun(kp:eJ _ _ _)=>ab ⟨rfl,rfl,fun _=>kp,?_⟩) (by first|exact kp|exact kp.qV (by assumption)|exact kp.goN (by assumption)|exact kp.go (by assumption) (fun _ _ h=>by first|exact h|exact h.elim));refine Rg.PJ iM tS rfl rfl rfl Fb PW Gb (fun w23 afe aff afg afh UL OE=>?_);have afi:=hR.put (fun c hc=>hZ c (by have:=S.size;omega)) lL afb Mx afc PW.at_ OE UL afh;replace dq:=dq.le (by decide) OE.le;replace ha:=ha.le OE.le;replace qu:=qu.le OE.le;have afj:=RN.step OE (fun c hc (h:c=mb)=>RN.kN PW.at_ (h▸hc));have afk:=OE.keep YX RE;have UM:=(OE.mem _ (ak YX)).2 UK
     have UN:=(OE.mem _ (ak PW.at_)).2 Gb;have afl:=OE.lt afd;have S23:=S22.trans OE (fun k hk (h:k=mb)=>⟨by rw[h];exact HE,(S22.mem k hk).1 (by rw[h];exact Gb)⟩);refine ab ⟨rfl,rfl,fun h=>absurd rfl h,?_⟩;refine mH (ae (bD rfl rfl rfl (by omega) (ad rfl rfl (ab ?_))));refine⟨rfl,i+1,(.cons rfl (.cons rfl (.cons rfl (.cons rfl (.cons rfl (.cons rfl .nil)))))),?_,?_⟩
     ·exact⟨_,afe,aff,afl,S23,dq,ha,qu,⟨afk,UM,UN,hB,HE,afj,afg,afi.congr (fun k=>Mk Rw k) (fun k=>by rw[b9,Rw,cK,dF,cq,or_assoc];simp),zl⟩,by omega⟩
     ·omega
    ·refine cI (aj ?_);apply T.pq 6 [0,1,2,3,4] 3 (fC vl) mixed rfl rfl rfl rfl;intro T6 T7;have oS:=T7 M1;have:=ak gb;replace eh:=(oS.mem _ this).2 eh;replace gb:=oS.aK gb;replace dq:=dq.le (by decide) oS.le;replace ha:=ha.le oS.le;replace qu:=qu.le oS.le;replace ho:=ho.aM oS;replace eY:=(oS.mem _ (ak hW.at_)).2 eY;replace hW:=hW.aM oS;replace hR:=hR.aM oS;replace hM:=oS.lt hM;have:=S.size;replace S:=S.aB oS;refine ad rfl rfl ?_;refine ab ⟨rfl,rfl,rfl,?_⟩;refine ad rfl rfl ?_;refine ab ⟨rfl,rfl,rfl,?_⟩;refine bQ rfl ⟨_,rfl⟩ rfl ?_;refine ab ⟨rfl,rfl,rfl,?_⟩;refine bO (o':=0) dP rfl rfl YS (by decide) rfl rfl ?_;refine ab ⟨rfl,rfl,rfl,?_⟩;refine aP ff rfl rfl rfl gb rfl (aU (v':=vl) rfl ?_);refine ab ⟨rfl,rfl,rfl,?_⟩;refine dg (M:=M1) (A:=RT.en) dG rfl EW (by decide) rfl rfl rfl dq (aq _ _) (fun Rt Bw=>?_);refine ab ⟨rfl,rfl,rfl,?_⟩;refine eQ ?_;refine⟨iH ⟨gX,⟨gX,⟨bX.nilCheck rfl,⟨iF dP rfl YS (by decide),⟨eC rfl gb (fun h=>ho.eM gb (by decide) h),trivial⟩⟩⟩⟩⟩,?_⟩;have kp:=jC (fC vl) T6;refine aW rfl rfl E88 (L4 _ hM Bw (by have:=hF.few;omega)) (fun akl w13 hc=>?_);obtain⟨Gc,Cp⟩:=hc;have:=ak gb;replace eh:=(Cp.mem _ this).2 eh;replace gb:=Cp.aK gb;replace dq:=dq.le (by decide) Cp.le;replace ha:=ha.le Cp.le;replace qu:=qu.le Cp.le;replace ho:=ho.aM Cp;replace eY:=(Cp.mem _ (ak hW.at_)).2 eY;replace hW:=hW.aM Cp;replace hR:=hR.aM Cp;replace hM:=Cp.lt hM;have:=S.size;replace S:=S.aB Cp;refine(fun(kp:eJ _ _ _)=>ab ⟨rfl,rfl,fun _=>kp,?_⟩) (by first|exact kp|exact kp.qV (by assumption)|exact kp.goN (by assumption)|exact kp.go (by assumption) (fun _ _ h=>by first|exact h|exact h.elim));refine eg (A:=RT.en) (hn:=by decide) (M:=M1) ff EW (by decide) rfl rfl hM (Gc) (.inl rfl) (fun akn ako UO pD=>?_)
     have:=ak gb;replace eh:=(pD.mem _ this).2 eh;replace gb:=pD.aK gb;replace dq:=dq.le (by decide) pD.le;replace ha:=ha.le pD.le;replace qu:=qu.le pD.le;replace Gc:=Gc.le pD.le;replace ho:=ho.aM pD;replace eY:=(pD.mem _ (ak hW.at_)).2 eY;replace hW:=hW.aM pD;replace hR:=hR.aM pD;replace hM:=pD.lt hM;have:=S.size;replace S:=S.aB pD;refine(fun(kp:eJ _ _ _)=>ab ⟨rfl,rfl,fun _=>kp,?_⟩) (by first|exact kp|exact kp.qV (by assumption)|exact kp.goN (by assumption)|exact kp.go (by assumption) (fun _ _ h=>by first|exact h|exact h.elim));refine kx (M:=M1) (base:=B) ff EW rfl rfl rfl rfl ho UO (aq _ _) (by simp;omega) (by simp;omega) (by have:=S.size;omega) (fun DP akp UP wo afm=>?_);replace eh:=(wo.mem _ (ak gb)).2 eh
     have zl':∀c,DP.ownBlock=some c→Z c:=fun c hc=>by
      rcases afm c hc with h|h
      ·exact hZ c (by have:=S.size;omega)
      ·exact zl c h
     replace hR:=hR.step wo (fun k v c hv hc h=>(hR.o k v hv).dx ho (by decide) hc h);replace eY:=(wo.mem _ (ak hW.at_)).2 eY;replace hW:=hW.step wo (fun h=>ho.kN hW.at_ h);replace gb:=wo.keep gb (fun h=>ho.eM gb (by decide) h);replace dq:=dq.le (by decide) wo.le;replace S:=S.trans wo (fun k hk h=>⟨zl k h,(S.mem k hk).1 (ho.mut_ k h)⟩);replace hM:=wo.lt hM;replace ho:=UP;obtain⟨HK,My⟩:∃M',M'=jh M1 DP:=⟨_,rfl⟩;rw[←My]at hR eY dq S hM ho eh;refine(fun(kp:eJ _ _ _)=>ab ⟨rfl,rfl,fun _=>kp,?_⟩) (by first|exact kp|exact kp.qV (by assumption)|exact kp.goN (by assumption)|exact kp.go (by assumption) (fun _ _ h=>by first|exact h|exact h.elim));refine bQ rfl ⟨_,rfl⟩ rfl ?_;refine ab ⟨rfl,rfl,fun h=>absurd rfl h,?_⟩;refine bO (o':=0) dP rfl rfl YS (by decide) rfl rfl ?_;refine ab ⟨rfl,rfl,fun h=>absurd rfl h,?_⟩;refine cu (M:=HK) YS rfl rfl gb rfl (by obtain⟨_,_,he,_⟩:=ho.isSlice;rw[he];rfl) eh (fun UQ MA oX=>?_);change UQ.heap[_]? =some (Obj.cells #[DP,.map (some mb),.int .i64 words,.int .i64 last] _ _)at MA;have:=ak gb;replace eh:=(oX.mem _ this).2 eh;replace dq:=dq.le (by decide) oX.le;replace ho:=ho.step oX (fun c hc (h:_=_)=>by first|exact ho.eM gb (by decide) (h▸hc)|exact ho.eM oW (by decide) (h▸hc));replace eY:=(oX.mem _ (ak hW.at_)).2 eY;replace hW:=hW.step oX (by first|exact fun h=>ho.kN hW.at_ h|exact fun(h:mb=b)=>RE h.symm|exact fun(h:mb=yC)=>by have h9:=hW.at_;rw[h,oW]at h9;cases h9);replace hR:=hR.step oX (by first|exact fun k v c hv hc h=>(hR.o k v hv).dx ho (by decide) hc h|exact fun k v c hv hc (h:c=b)=>(hR.o k v hv).eM gb (by decide) (h▸hc)|exact fun k v c hv hc (h:c=yC)=>(hR.o k v hv).eM oW (by decide) (h▸hc));replace hM:=oX.lt hM;have:=S.size;replace S:=S.trans oX (fun k hk h=>by have h:_=_:=h;subst h;first|(exfalso;omega)|(show _≤_;omega)|exact⟨by first|omega|assumption,(S.mem _ hk).1 ((oX.mem _ (ak gb)).1 eh)⟩|exact .inl rfl|exact .inr rfl|exact .inr (.inl rfl)|exact .inr (.inr rfl)|exact .inr (.inr (.inl rfl))|exact rfl)
     have LN:=MA;clear gb;have gb:=LN;clear LN;refine ab ⟨rfl,rfl,fun h=>absurd rfl h,?_⟩;refine mH (aj ?_);apply T.pq 6 [0,1,2,3] 1 aD mixed rfl rfl rfl rfl;intro UR MB;have qY:=MB HK;have:=ak gb;replace eh:=(qY.mem _ this).2 eh;replace gb:=qY.aK gb;replace dq:=dq.le (by decide) qY.le;replace ho:=ho.aM qY;replace eY:=(qY.mem _ (ak hW.at_)).2 eY;replace hW:=hW.aM qY;replace hR:=hR.aM qY;replace hM:=qY.lt hM;have:=S.size;replace S:=S.aB qY;refine ad rfl rfl ?_;refine ab ⟨rfl,rfl,rfl,?_⟩;refine bQ rfl ⟨_,rfl⟩ rfl ?_;refine ab ⟨rfl,rfl,rfl,?_⟩;refine bO (o':=2) dP rfl rfl I3 (by decide) rfl rfl ?_;refine ab ⟨rfl,rfl,rfl,?_⟩;refine aP ax rfl rfl rfl (by first|assumption|exact cZ qY (by assumption)) rfl ?_;refine ab ⟨rfl,rfl,rfl,?_⟩;refine aL (M:=HK) (A:=RT.en) (B:=RT.dc) dG rfl rfl ou (by decide) WN rfl rfl (by decide) dq (aq _ _) (fun akq US=>?_);refine ab ⟨rfl,rfl,rfl,?_⟩;refine dg (M:=HK) (A:=RT.dc) a8 rfl ou (by decide) rfl rfl rfl US (aq _ _) (fun akr UT=>?_);refine ab ⟨rfl,rfl,rfl,?_⟩;refine eQ ?_;refine⟨iH ⟨gX,⟨bX.nilCheck rfl,⟨iF dP rfl I3 (by decide),⟨eC rfl gb (fun h=>h),trivial⟩⟩⟩⟩,?_⟩;have kp:=jC aD UR;refine aW rfl rfl E89 (Dv _ hM UT hl hF.few) (fun r14 Uk hc=>?_);obtain⟨rfl,jQ⟩:=hc;have:=ak gb;replace eh:=(jQ.mem _ this).2 eh;replace gb:=jQ.aK gb;replace dq:=dq.le (by decide) jQ.le;replace ho:=ho.aM jQ;replace eY:=(jQ.mem _ (ak hW.at_)).2 eY;replace hW:=hW.aM jQ;replace hR:=hR.aM jQ;replace hM:=jQ.lt hM;have:=S.size;replace S:=S.aB jQ;refine(fun(kp:eJ _ _ _)=>ab ⟨rfl,rfl,fun _=>kp,?_⟩) (by first|exact kp|exact kp.qV (by assumption)|exact kp.goN (by assumption)|exact kp.go (by assumption) (fun _ _ h=>by first|exact h|exact h.elim))
     have:=hF.many;refine bD rfl rfl rfl (by omega) ?_;refine ab ⟨rfl,rfl,fun h=>absurd rfl h,?_⟩;refine bQ rfl ⟨_,rfl⟩ rfl ?_;refine ab ⟨rfl,rfl,fun h=>absurd rfl h,?_⟩;refine bO (o':=2) dP rfl rfl I3 (by decide) rfl rfl ?_;refine ab ⟨rfl,rfl,fun h=>absurd rfl h,?_⟩;refine cu (M:=HK) I3 rfl rfl gb rfl (rfl) eh (fun UU MC oY=>?_);change UU.heap[_]? =some (Obj.cells #[DP,.map (some mb),.int .i64 (words+((pC e).length:Int)),.int .i64 last] _ _)at MC;have:=ak gb;replace eh:=(oY.mem _ this).2 eh;replace dq:=dq.le (by decide) oY.le;replace ho:=ho.step oY (fun c hc (h:_=_)=>by first|exact ho.eM gb (by decide) (h▸hc)|exact ho.eM oW (by decide) (h▸hc));replace eY:=(oY.mem _ (ak hW.at_)).2 eY;replace hW:=hW.step oY (by first|exact fun h=>ho.kN hW.at_ h|exact fun(h:mb=b)=>RE h.symm|exact fun(h:mb=yC)=>by have h9:=hW.at_;rw[h,oW]at h9;cases h9);replace hR:=hR.step oY (by first|exact fun k v c hv hc h=>(hR.o k v hv).dx ho (by decide) hc h|exact fun k v c hv hc (h:c=b)=>(hR.o k v hv).eM gb (by decide) (h▸hc)|exact fun k v c hv hc (h:c=yC)=>(hR.o k v hv).eM oW (by decide) (h▸hc));replace hM:=oY.lt hM;have:=S.size;replace S:=S.trans oY (fun k hk h=>by have h:_=_:=h;subst h;first|(exfalso;omega)|(show _≤_;omega)|exact⟨by first|omega|assumption,(S.mem _ hk).1 ((oY.mem _ (ak gb)).1 eh)⟩|exact .inl rfl|exact .inr rfl|exact .inr (.inl rfl)|exact .inr (.inr rfl)|exact .inr (.inr (.inl rfl))|exact rfl);have LN:=MC;clear gb;have gb:=LN;clear LN;refine ab ⟨rfl,rfl,fun h=>absurd rfl h,?_⟩;refine mH (aj (ae (ad rfl rfl ?_)));refine aL (M:=HK) (A:=RT.en) (B:=RT.int .i64) dG rfl rfl I3 (by decide) Yg rfl rfl (by decide) dq (aq _ _) (fun aks afn=>?_);refine cb (M:=HK) ax rfl rfl (by assumption) (by repeat (first|exact aq _ _|refine aY (bu (by assumption)) ?_)) (fun MD=>?_)
     refine aU (v':= .int .i64 (e.2)) rfl ?_;replace MD: -9223372036854775808≤(e.2:Int)∧e.2≤9223372036854775807:=MD;refine bQ rfl ⟨_,rfl⟩ rfl (bO (o':=3) dP rfl rfl I3 (by decide) rfl rfl ?_);refine cu (M:=HK) I3 rfl rfl gb rfl (rfl) eh (fun RO RP jW=>?_);change RO.heap[_]? =some (Obj.cells #[DP,.map (some mb),.int .i64 (words+((pC e).length:Int)),.int .i64 e.2] _ _)at RP;have:=ak gb;replace eh:=(jW.mem _ this).2 eh;replace dq:=dq.le (by decide) jW.le;replace ho:=ho.step jW (fun c hc (h:_=_)=>by first|exact ho.eM gb (by decide) (h▸hc)|exact ho.eM oW (by decide) (h▸hc));replace eY:=(jW.mem _ (ak hW.at_)).2 eY;replace hW:=hW.step jW (by first|exact fun h=>ho.kN hW.at_ h|exact fun(h:mb=b)=>RE h.symm|exact fun(h:mb=yC)=>by have h9:=hW.at_;rw[h,oW]at h9;cases h9);replace hR:=hR.step jW (by first|exact fun k v c hv hc h=>(hR.o k v hv).dx ho (by decide) hc h|exact fun k v c hv hc (h:c=b)=>(hR.o k v hv).eM gb (by decide) (h▸hc)|exact fun k v c hv hc (h:c=yC)=>(hR.o k v hv).eM oW (by decide) (h▸hc));replace hM:=jW.lt hM;have:=S.size;replace S:=S.trans jW (fun k hk h=>by have h:_=_:=h;subst h;first|(exfalso;omega)|(show _≤_;omega)|exact⟨by first|omega|assumption,(S.mem _ hk).1 ((jW.mem _ (ak gb)).1 eh)⟩|exact .inl rfl|exact .inr rfl|exact .inr (.inl rfl)|exact .inr (.inr rfl)|exact .inr (.inr (.inl rfl))|exact rfl);have LN:=RP;clear gb;have gb:=LN;clear LN;refine ab (aj (ae (ah rfl rfl (ab (aQ ?_)))));have ea:mM last e=0:=by unfold mM;rw[if_neg (fun h=>h (by simpa using c2)),if_neg c4]
     exact aV rfl rfl ⟨_,hM,S,by rw[ea],fun h=>absurd ea h,fun _=>⟨mb,_,es,clock,gb,eh,eY,hB,HE,ho,hW,hR.congr (fun k=>(PT (by omega) k).symm) (fun k=>by rw[F5,cq,bc (by omega)]),zl'⟩⟩
end Go.K

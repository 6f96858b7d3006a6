/- What the law 'SegmentBuilds' needs of walks and plain Lean, part 3: nothing is assumed beyond the texts that it imports. -/
import Derived.Deep.Draws
import Derived.DeepKeys4
import Derived.Ground.Names2Prog
import Derived.Ground.SlsfProg
import Derived.KernelRfl
import Derived.Lib.Bytealg
import Derived.Shelf.SlGeneric
import Derived.Shelf.SlSortCmp.NoneTotal
import Derived.Shelf.Strings.SlTrimAscii
import Derived.Sort.Grow
import Derived.Sort.KeysCollected
import Derived.Sort.Walk0
import Derived.Test.YtohfoenhmkfjkaaGreatDoorProg
import Derived.Test.YtohfoenhmkfjkaaGreatDoorZSegmentBuilds1
import Derived.Test.YtohfoenhmkfjkaaGreatDoorZSegmentBuilds2
set_option linter.unusedVariables false
set_option linter.unusedSimpArgs false
theorem dC:type_of% @Go.K.bF.load:=@Go.K.bF.load
theorem dU:type_of% @Go.K.jg.nil:=@Go.K.jg.nil
theorem ew:type_of% @Go.K.eV.all:=@Go.K.eV.all
theorem eE:type_of% @Go.K.bF.move:=@Go.K.bF.move
theorem eU:type_of% @Go.K.dX.refl:=@Go.K.dX.refl
theorem fj:type_of% @Go.K.bF.field:=@Go.K.bF.field
theorem gY:type_of% @Go.K.oz.nil:=@Go.K.oz.nil
theorem qf:type_of% @Go.K.T.kJ:=@Go.K.T.kJ
namespace Go.K
open Go.Proofs
set_option maxRecDepth 10000
theorem Cz {M:aL} {l:List UInt8} (w0:World) (hM:Lt M w0) (hl:l.length≤1000000):
  Spec Tryz.prog 225 #[.string ⟨l.toArray⟩] w0 (fun v w=>((RT.int .i64).sl).V M w (eR l) v∧Step M w0 M w aE):=by
 have gB:=hM;refine bu (args:=[_]) (fn:=Tryz.f225) Tryz.func225 rfl (n:=17) Tryz.ntmps225 ?_;have S:Step M w0 M w0 aE:=(ar _ _).cw (fun _ h=>h.elim) (fun _ h=>h.elim);refine al (aj (ak rfl rfl (ae (al (aj (ak rfl rfl (ae (al (al (aj (ah rfl rfl ?_)))))))))));refine Rg.G2 M aD rfl rfl (fun G8 Y3 ah6 ah7 Y4 CA=>?_);obtain⟨L8,G9⟩:∃M',M'=ins M G8:=⟨_,rfl⟩;rw[←G9]at CA;have Om:L8 G8:=by rw[G9];exact .inl rfl
 replace hM:=CA.lt hM;have:=S.size;replace S:=S.aB CA;refine ae (bh ?_);refine dz (σ:=Nat×List Int×Value) (fun q=>[(3,q.2.2),(7,.pointer (some ⟨G8,0,none⟩))]) (fun q w=>∃M',Lt M' w∧Step M w0 M' w aE∧w.heap[G8]? =some (.stringIter ⟨l.toArray⟩ q.1)∧M' G8∧Own (RT.int .i64) 3 M' w w0.heap.size q.2.2 q.2.1∧eR l=q.2.1++eR (l.drop q.1)∧q.1≤l.length) (fun q=>l.length-q.1) (0,[],.slice none 0 0) (.cons rfl (.cons rfl .nil)) ?_ ?_
 ·exact⟨L8,hM,S,Y4,Om,dQ _ _ _ _ _,by simp,by simp⟩
 ·rintro⟨p,xs,u⟩ w ⟨M1,hM,S,g,x8,ho,y5,hp⟩;dsimp only at g ho y5 hp ⊢;refine al (aj ?_);refine Rg.Kl (M:=M1) rfl g x8 rfl (fun Y5 ah8 Y6 Ha=>?_) (fun Y5=>?_)
  ·have:=an g;replace x8:=(Ha.mem _ this).2 x8;replace ho:=ho.step Ha (fun b hb hk=>ho.dZ g (hk▸hb));replace hM:=Ha.lt hM;have:=S.size;replace S:=S.trans Ha (fun k hk h=>by have h:_=_:=h;subst h;first|(exfalso;omega)|(show _≤_;omega)|exact⟨by first|omega|assumption,(S.mem _ hk).1 ((Ha.mem _ (an g)).1 x8)⟩|exact .inl rfl|exact .inr rfl|exact .inr (.inl rfl)|exact .inr (.inr rfl)|exact rfl);have g_:=Y6;clear g;have g:=g_;clear g_;refine bZ rfl rfl rfl (ae (al (kW rfl (aZ (bh (al (aj (bZ rfl rfl rfl (ak rfl rfl (ae (aj ?_)))))))))));refine ah rfl rfl (ah rfl rfl (Rg.yE Tryz.underlying21 az rfl rfl (by have:=sw (l.drop p);omega) ?_));refine eA (A:=RT.int .i64) (hn:=by decide) (M:=M1) ax I3 (by decide) rfl rfl hM (gC (by have:=sw (l.drop p);omega)) (.inr ⟨rfl,rfl⟩) (fun SO ah9 AQ Hb=>?_);have:=an g;replace x8:=(Hb.mem _ this).2 x8;replace g:=Hb.aM g;replace ho:=ho.a8 Hb;replace hM:=Hb.lt hM;have:=S.size;replace S:=S.aB Hb;refine cv (M:=M1) (base:=w0.heap.size) ax I3 rfl rfl rfl rfl ho AQ (ao _ _) (by simp;have:=hU l;rw[y5]at this;simp at this;omega) (by simp;have:=hU l;rw[y5]at this;simp at this;omega) (S.size) (fun Y7 Y8 aia SP Hc=>?_);have:=an g;replace x8:=(Hc.mem _ this).2 x8;replace g:=Hc.bS g (fun h=>by first|exact ho.dZ g h|exact ho.eW g (by decide) h|(have:=(ho.base _ h).1;omega));replace AQ:=AQ.le Hc.le;replace hM:=Hc.lt hM;have:=S.size;replace S:=S.cF Hc ho (aT _);replace ho:=SP;refine ak rfl rfl (ae ?_);have fg:l.drop p≠[]:=by intro h;have:=congrArg List.length h;simp at this;omega
   refine⟨rfl,(p+(dec (l.drop p)).2,xs++[((dec (l.drop p)).1:Int)],Y7),(.cons rfl (.cons rfl .nil)),?_,?_⟩
   ·refine⟨Y8,hM,S,g,x8,ho,?_,?_⟩
    ·rw[y5,nw fg,List.drop_drop];simp
    ·have:=(kZ fg).2;rw[dq]at this;dsimp only;omega
   ·have:=(kZ fg).1;have:=(kZ fg).2;rw[dq]at this;dsimp only;omega
  ·refine bZ rfl rfl rfl (ae (al (iY rfl (cY (al (aj (ah rfl rfl (ak rfl rfl (ae (aQ ?_))))))))));have e:eR l=xs:=by rw[y5,kC (by omega),pv];simp
   rw[e];have:=hU l;rw[e]at this;exact aV rfl rfl ⟨ho.close gB S (by omega),S.back⟩
def fw (p:List Int×List (List UInt8)) (c:Int):List Int×List (List UInt8):=
 if fh c=true∨ny c=true then(p.1++[fm c],p.2)else if 0<p.1.length then([],p.2++[jS p.1])else([],p.2)
structure Hd (M:aL) (w:World) (B bo bs:Nat) (p:List Int×List (List UInt8)):Prop where
 a:∃u,w.heap[bo]? =some (.cells #[u] 32 (0,0))∧Own (RT.int .i64) 3 M w B u p.1
 b:∃u,w.heap[bs]? =some (.cells #[u] 55 (0,0))∧Own RT.str 9 M w B u p.2
 m:M bo∧M bs∧B≤bo∧B≤bs
theorem oO {c:Int} (h:fh c=true∨ny c=true):0≤c∧c≤1114111:=by
 simp only[fh,ny,decide_eq_true_eq]at h;omega
theorem vv {M:aL} {B bo bs:Nat} {p:List Int×List (List UInt8)} (w0:World) (hM:Lt M w0) (c:Int) (ht:Hd M w0 B bo bs p) (hl:p.1.length≤1000000∧p.2.length≤1000000):
  Spec Tryz.prog 220 #[.int .i64 c,.pointer (some ⟨bo,0,none⟩),.pointer (some ⟨bs,0,none⟩)] w0 (fun v w=>∃M',Lt M' w∧Hd M' w B bo bs (fw p c)∧Step M w0 M' w (kN M B)):=by
 obtain⟨⟨uo,go,ho⟩,⟨us,gs,hs⟩,fZ,gV,QI,QK⟩:=ht;obtain⟨own,out⟩:=p;dsimp only at ho hs hl ⊢;have fg:bo≠bs:=fun e=>by subst e;rw[go]at gs;cases gs
 refine bu (args:=[_,_,_]) (fn:=Tryz.f220) Tryz.func220 rfl (n:=23) Tryz.ntmps220 ?_;have S:Step M w0 M w0 (kN M B):=(ar _ _).cw (fun _ h=>h.elim) (fun _ h=>h.2);refine al (al (aj (ah rfl rfl ?_)));refine aP rfl rfl X7 (AJ _ _) (fun r wc hc=>?_);obtain⟨rfl,rfl⟩:=hc;refine bO (v':= .bool (decide (fh c=true))) (by cases fh c<;>rfl) (ah rfl rfl ?_);refine aR (g:=6) rfl (fun Y9=>?_) (fun Y9=>?_)
 ·refine au rfl rfl rfl rfl (au rfl rfl rfl rfl (aW rfl rfl rfl (ae (kW rfl (al ?_)))));apply qf 2 [0] 2 aE mixed rfl rfl rfl rfl;intro zU Ky;have kz:=Ky M;have:=an go;replace fZ:=(kz.mem _ this).2 fZ;replace go:=kz.aM go;have:=an gs;replace gV:=(kz.mem _ this).2 gV;replace gs:=kz.aM gs;replace ho:=ho.a8 kz;replace hs:=hs.a8 kz;replace hM:=kz.lt hM;have:=S.size;replace S:=S.aB kz;refine aX ax rfl rfl rfl (by first|assumption|exact cC kz (by assumption)) rfl ?_;refine ae ⟨rfl,rfl,rfl,?_⟩;refine ah rfl rfl ?_;refine ae ⟨rfl,rfl,rfl,?_⟩;refine dU ?_;refine⟨ew ⟨dC rfl (by assumption) (by first|assumption|exact fun h=>h|(intro h;have h:_=_:=h;omega)),trivial⟩,?_⟩;have kp:=eU aE zU;have CB:fh c=true∨ny c=true:=by first|exact .inl (by assumption)|exact .inr (by assumption)
  refine aP rfl rfl RJ (x5 c _ (oO CB)) (fun r wc hc=>?_);obtain⟨rfl,rfl⟩:=hc;refine(fun(kp:dX _ _ _)=>ae ⟨rfl,rfl,fun _=>kp,?_⟩) (by first|exact kp|exact kp.mZ (by assumption)|exact kp.goN (by assumption)|exact kp.go (by assumption) (fun _ _ h=>by first|exact h|exact h.elim));refine eA (A:=RT.int .i64) (hn:=by decide) (M:=M) ax I3 (by decide) rfl rfl hM (gC (by have:=oO CB;unfold fm;split<;>omega)) (.inr ⟨rfl,rfl⟩) (fun EZ E0 iC s1_3=>?_);have:=an go;replace fZ:=(s1_3.mem _ this).2 fZ;replace go:=s1_3.aM go;have:=an gs;replace gV:=(s1_3.mem _ this).2 gV;replace gs:=s1_3.aM gs;replace ho:=ho.a8 s1_3;replace hs:=hs.a8 s1_3;replace hM:=s1_3.lt hM;have:=S.size;replace S:=S.aB s1_3;refine(fun(kp:dX _ _ _)=>ae ⟨rfl,rfl,fun _=>kp,?_⟩) (by first|exact kp|exact kp.mZ (by assumption)|exact kp.goN (by assumption)|exact kp.go (by assumption) (fun _ _ h=>by first|exact h|exact h.elim));refine cv (M:=M) (base:=B) ax I3 rfl rfl rfl rfl ho iC (ao _ _) (by simp;omega) (by simp;omega) (by have:=an go;omega) (fun On He Oo Hf lG=>?_);have:=an go;replace fZ:=(lG.mem _ this).2 fZ;replace go:=lG.bS go (fun h=>by first|exact ho.dZ go h|exact ho.eW go (by decide) h|(have:=(ho.base _ h).1;omega));have:=an gs;replace gV:=(lG.mem _ this).2 gV;replace gs:=lG.bS gs (fun h=>by first|exact ho.dZ gs h|exact ho.eW gs (by decide) h|(have:=(ho.base _ h).1;omega));replace iC:=iC.le lG.le;replace hs:=hs.step lG (fun b h1 h2=>hs.iW ho (by decide) h1 h2);replace hM:=lG.lt hM;have:=S.size;replace S:=S.trans lG (fun b hb h=>⟨(ho.base b h).1,(S.mem b hb).1 (ho.mut_ b h)⟩);replace ho:=Hf;refine ae ⟨rfl,rfl,fun h=>absurd rfl h,?_⟩;refine ck (M:=He) jR rfl rfl go rfl ((by obtain⟨_,_,he,_⟩:=ho.isSlice;rw[he];rfl)) fZ (fun Oq sy nA=>?_);change Oq.heap[_]? =some (Obj.cells #[On] _ _)at sy
  have:=an go;replace fZ:=(nA.mem _ this).2 fZ;have:=an gs;replace gV:=(nA.mem _ this).2 gV;replace gs:=nA.bS gs (fun hk=>by have hk:_=_:=hk;omega);replace iC:=iC.le nA.le;replace ho:=ho.step nA (fun b hb hk=>by have hk:b=_:=hk;subst hk;first|exact absurd hb (ho.eW go (by decide))|exact absurd hb (ho.eW gs (by decide)));replace hs:=hs.step nA (fun b hb hk=>by have hk:b=_:=hk;subst hk;first|exact absurd hb (hs.eW go (by decide))|exact absurd hb (hs.eW gs (by decide)));replace hM:=nA.lt hM;have:=S.size;replace S:=S.trans nA (fun k hk h=>by have h:_=_:=h;subst h;first|(exfalso;omega)|(show _≤_;omega)|exact⟨by first|omega|assumption,(S.mem _ hk).1 ((nA.mem _ (an go)).1 fZ)⟩|exact .inl rfl|exact .inr rfl|exact .inr (.inl rfl)|exact .inr (.inr rfl)|exact rfl);have Hg:=sy;clear go;have go:=Hg;clear Hg;refine ae ⟨rfl,rfl,fun h=>absurd rfl h,?_⟩;refine gY (aQ ?_);rw[show fw (own,out) c=(own++[fm c],out)from if_pos CB];exact Aa rfl ⟨He,hM,⟨⟨_,go,ho⟩,⟨_,gs,hs⟩,fZ,gV,QI,QK⟩,S⟩
 ·refine aq rfl rfl (ah rfl rfl (aq rfl rfl ?_));refine aP rfl rfl X8 (Cs _ _) (fun r wc hc=>?_);obtain⟨rfl,rfl⟩:=hc;refine bO (v':= .bool (decide (ny c=true))) (by cases ny c<;>rfl) (aJ rfl rfl rfl (ae ?_));refine bQ rfl (fun c0=>?_) (fun c0=>?_)
  ·refine al ?_;apply qf 2 [0] 2 aE mixed rfl rfl rfl rfl;intro zU Ky;have kz:=Ky M;have:=an go;replace fZ:=(kz.mem _ this).2 fZ;replace go:=kz.aM go;have:=an gs;replace gV:=(kz.mem _ this).2 gV;replace gs:=kz.aM gs;replace ho:=ho.a8 kz;replace hs:=hs.a8 kz;replace hM:=kz.lt hM;have:=S.size;replace S:=S.aB kz;refine aX ax rfl rfl rfl (by first|assumption|exact cC kz (by assumption)) rfl ?_;refine ae ⟨rfl,rfl,rfl,?_⟩;refine ah rfl rfl ?_;refine ae ⟨rfl,rfl,rfl,?_⟩;refine dU ?_;refine⟨ew ⟨dC rfl (by assumption) (by first|assumption|exact fun h=>h|(intro h;have h:_=_:=h;omega)),trivial⟩,?_⟩;have kp:=eU aE zU;have CB:fh c=true∨ny c=true:=by first|exact .inl (by assumption)|exact .inr (by assumption)
   refine aP rfl rfl RJ (x5 c _ (oO CB)) (fun r wc hc=>?_);obtain⟨rfl,rfl⟩:=hc;refine(fun(kp:dX _ _ _)=>ae ⟨rfl,rfl,fun _=>kp,?_⟩) (by first|exact kp|exact kp.mZ (by assumption)|exact kp.goN (by assumption)|exact kp.go (by assumption) (fun _ _ h=>by first|exact h|exact h.elim));refine eA (A:=RT.int .i64) (hn:=by decide) (M:=M) ax I3 (by decide) rfl rfl hM (gC (by have:=oO CB;unfold fm;split<;>omega)) (.inr ⟨rfl,rfl⟩) (fun EZ E0 iC s1_3=>?_);have:=an go;replace fZ:=(s1_3.mem _ this).2 fZ;replace go:=s1_3.aM go;have:=an gs;replace gV:=(s1_3.mem _ this).2 gV;replace gs:=s1_3.aM gs;replace ho:=ho.a8 s1_3;replace hs:=hs.a8 s1_3;replace hM:=s1_3.lt hM;have:=S.size;replace S:=S.aB s1_3;refine(fun(kp:dX _ _ _)=>ae ⟨rfl,rfl,fun _=>kp,?_⟩) (by first|exact kp|exact kp.mZ (by assumption)|exact kp.goN (by assumption)|exact kp.go (by assumption) (fun _ _ h=>by first|exact h|exact h.elim));refine cv (M:=M) (base:=B) ax I3 rfl rfl rfl rfl ho iC (ao _ _) (by simp;omega) (by simp;omega) (by have:=an go;omega) (fun On He Oo Hf lG=>?_);have:=an go;replace fZ:=(lG.mem _ this).2 fZ;replace go:=lG.bS go (fun h=>by first|exact ho.dZ go h|exact ho.eW go (by decide) h|(have:=(ho.base _ h).1;omega));have:=an gs;replace gV:=(lG.mem _ this).2 gV;replace gs:=lG.bS gs (fun h=>by first|exact ho.dZ gs h|exact ho.eW gs (by decide) h|(have:=(ho.base _ h).1;omega));replace iC:=iC.le lG.le;replace hs:=hs.step lG (fun b h1 h2=>hs.iW ho (by decide) h1 h2);replace hM:=lG.lt hM;have:=S.size;replace S:=S.trans lG (fun b hb h=>⟨(ho.base b h).1,(S.mem b hb).1 (ho.mut_ b h)⟩);replace ho:=Hf;refine ae ⟨rfl,rfl,fun h=>absurd rfl h,?_⟩;refine ck (M:=He) jR rfl rfl go rfl ((by obtain⟨_,_,he,_⟩:=ho.isSlice;rw[he];rfl)) fZ (fun Oq sy nA=>?_);change Oq.heap[_]? =some (Obj.cells #[On] _ _)at sy
   have:=an go;replace fZ:=(nA.mem _ this).2 fZ;have:=an gs;replace gV:=(nA.mem _ this).2 gV;replace gs:=nA.bS gs (fun hk=>by have hk:_=_:=hk;omega);replace iC:=iC.le nA.le;replace ho:=ho.step nA (fun b hb hk=>by have hk:b=_:=hk;subst hk;first|exact absurd hb (ho.eW go (by decide))|exact absurd hb (ho.eW gs (by decide)));replace hs:=hs.step nA (fun b hb hk=>by have hk:b=_:=hk;subst hk;first|exact absurd hb (hs.eW go (by decide))|exact absurd hb (hs.eW gs (by decide)));replace hM:=nA.lt hM;have:=S.size;replace S:=S.trans nA (fun k hk h=>by have h:_=_:=h;subst h;first|(exfalso;omega)|(show _≤_;omega)|exact⟨by first|omega|assumption,(S.mem _ hk).1 ((nA.mem _ (an go)).1 fZ)⟩|exact .inl rfl|exact .inr rfl|exact .inr (.inl rfl)|exact .inr (.inr rfl)|exact rfl);have Hg:=sy;clear go;have go:=Hg;clear Hg;refine ae ⟨rfl,rfl,fun h=>absurd rfl h,?_⟩;refine gY (aQ ?_);rw[show fw (own,out) c=(own++[fm c],out)from if_pos CB];exact Aa rfl ⟨He,hM,⟨⟨_,go,ho⟩,⟨_,gs,hs⟩,fZ,gV,QI,QK⟩,S⟩
  ·refine aZ (al (al (aj (aX ax rfl rfl rfl (by assumption) rfl (ik ax rfl ho rfl (lW rfl rfl rfl (ae ?_)))))));refine bQ rfl (fun c2=>?_) (fun c2=>?_)
   ·apply qf 2 [0] 2 aE mixed rfl rfl rfl rfl;intro QL L9;have na:=L9 M;have:=an go;replace fZ:=(na.mem _ this).2 fZ;replace go:=na.aM go;have:=an gs;replace gV:=(na.mem _ this).2 gV;replace gs:=na.aM gs;replace ho:=ho.a8 na;replace hs:=hs.a8 na;replace hM:=na.lt hM;have:=S.size;replace S:=S.aB na;refine aX aF rfl rfl rfl (by first|assumption|exact cC na (by assumption)) rfl ?_;refine ae ⟨rfl,rfl,rfl,?_⟩;refine aX ax rfl rfl rfl (by first|assumption|exact cC na (by assumption)) rfl ?_;refine ae ⟨rfl,rfl,rfl,?_⟩;refine dU ?_;refine⟨ew ⟨dC rfl (by assumption) (by first|assumption|exact fun h=>h|(intro h;have h:_=_:=h;omega)),trivial⟩,?_⟩;have kp:=eU aE QL;refine aP rfl rfl X9 (EW (M:=rm M uo) _ (fun b hb=>hM b hb.1) (ho.view (by omega)) (by omega)) (fun r3 w3 hc=>?_);obtain⟨rfl,s3⟩:=hc;replace s3:=s3.any M;have:=an go;replace fZ:=(s3.mem _ this).2 fZ;replace go:=s3.aM go;have:=an gs;replace gV:=(s3.mem _ this).2 gV;replace gs:=s3.aM gs;replace ho:=ho.a8 s3;replace hs:=hs.a8 s3;replace hM:=s3.lt hM;have:=S.size;replace S:=S.aB s3;refine(fun(kp:dX _ _ _)=>ae ⟨rfl,rfl,fun _=>kp,?_⟩) (by first|exact kp|exact kp.mZ (by assumption)|exact kp.goN (by assumption)|exact kp.go (by assumption) (fun _ _ h=>by first|exact h|exact h.elim));refine eA (A:=RT.str) (hn:=by decide) (M:=M) aF I9 (by decide) rfl rfl hM (jG.2 ⟨rfl,by have:=fG own;omega⟩) (.inr ⟨rfl,rfl⟩) (fun aib aic vw AR=>?_);have:=an go;replace fZ:=(AR.mem _ this).2 fZ;replace go:=AR.aM go;have:=an gs;replace gV:=(AR.mem _ this).2 gV;replace gs:=AR.aM gs;replace ho:=ho.a8 AR;replace hs:=hs.a8 AR;replace hM:=AR.lt hM;have:=S.size;replace S:=S.aB AR;refine(fun(kp:dX _ _ _)=>ae ⟨rfl,rfl,fun _=>kp,?_⟩) (by first|exact kp|exact kp.mZ (by assumption)|exact kp.goN (by assumption)|exact kp.go (by assumption) (fun _ _ h=>by first|exact h|exact h.elim))
    refine cv (M:=M) (base:=B) aF I9 rfl rfl rfl rfl hs vw (ao _ _) (by simp;omega) (by simp;omega) (by have:=an go;omega) (fun Za SQ aid SR AS=>?_);have:=an go;replace fZ:=(AS.mem _ this).2 fZ;replace go:=AS.bS go (fun h=>by first|exact hs.dZ go h|exact hs.eW go (by decide) h|(have:=(hs.base _ h).1;omega));have:=an gs;replace gV:=(AS.mem _ this).2 gV;replace gs:=AS.bS gs (fun h=>by first|exact hs.dZ gs h|exact hs.eW gs (by decide) h|(have:=(hs.base _ h).1;omega));replace vw:=vw.le AS.le;replace ho:=ho.step AS (fun b h1 h2=>ho.iW hs (by decide) h1 h2);replace hM:=AS.lt hM;have:=S.size;replace S:=S.trans AS (fun b hb h=>⟨(hs.base b h).1,(S.mem b hb).1 (hs.mut_ b h)⟩);replace hs:=SR;refine ae ⟨rfl,rfl,fun h=>absurd rfl h,?_⟩;refine ck (M:=SQ) tR rfl rfl gs rfl ((by obtain⟨_,_,he,_⟩:=hs.isSlice;rw[he];rfl)) gV (fun Zb SU ze=>?_);change Zb.heap[_]? =some (Obj.cells #[Za] _ _)at SU;have:=an go;replace fZ:=(ze.mem _ this).2 fZ;replace go:=ze.bS go (fun hk=>by have hk:_=_:=hk;omega);have:=an gs;replace gV:=(ze.mem _ this).2 gV;replace vw:=vw.le ze.le;replace ho:=ho.step ze (fun b hb hk=>by have hk:b=_:=hk;subst hk;first|exact absurd hb (ho.eW go (by decide))|exact absurd hb (ho.eW gs (by decide)));replace hs:=hs.step ze (fun b hb hk=>by have hk:b=_:=hk;subst hk;first|exact absurd hb (hs.eW go (by decide))|exact absurd hb (hs.eW gs (by decide)));replace hM:=ze.lt hM;have:=S.size;replace S:=S.trans ze (fun k hk h=>by have h:_=_:=h;subst h;first|(exfalso;omega)|(show _≤_;omega)|exact⟨by first|omega|assumption,(S.mem _ hk).1 ((ze.mem _ (an gs)).1 gV)⟩|exact .inl rfl|exact .inr rfl|exact .inr (.inl rfl)|exact .inr (.inr rfl)|exact rfl);have gs_:=SU;clear gs;have gs:=gs_;clear gs_;refine ae ⟨rfl,rfl,fun h=>absurd rfl h,?_⟩;refine gY (aj ?_);refine ck (M:=SQ) jR rfl rfl go rfl (rfl) fZ (fun Hh AT kF=>?_)
    change Hh.heap[_]? =some (Obj.cells #[.slice none 0 0] _ _)at AT;have:=an go;replace fZ:=(kF.mem _ this).2 fZ;have:=an gs;replace gV:=(kF.mem _ this).2 gV;replace gs:=kF.bS gs (fun hk=>by have hk:_=_:=hk;omega);replace vw:=vw.le kF.le;replace ho:=ho.step kF (fun b hb hk=>by have hk:b=_:=hk;subst hk;first|exact absurd hb (ho.eW go (by decide))|exact absurd hb (ho.eW gs (by decide)));replace hs:=hs.step kF (fun b hb hk=>by have hk:b=_:=hk;subst hk;first|exact absurd hb (hs.eW go (by decide))|exact absurd hb (hs.eW gs (by decide)));replace hM:=kF.lt hM;have:=S.size;replace S:=S.trans kF (fun k hk h=>by have h:_=_:=h;subst h;first|(exfalso;omega)|(show _≤_;omega)|exact⟨by first|omega|assumption,(S.mem _ hk).1 ((kF.mem _ (an go)).1 fZ)⟩|exact .inl rfl|exact .inr rfl|exact .inr (.inl rfl)|exact .inr (.inr rfl)|exact rfl);have Hg:=AT;clear go;have go:=Hg;clear Hg;refine ae ?_
    first|refine gD.nil ?_|simp+decide only[yC,nd,if_true,if_false]|skip
    have QM: ¬(fh c=true∨ny c=true):=by rintro(h|h)<;>exact absurd h (by assumption)
    first
    |rw[show fw (own,out) c=([],out++[jS own])from(if_neg QM).trans (if_pos (by show 0<own.length;omega))]
     exact lj rfl ⟨_,hM,⟨⟨_,go,dQ _ _ _ _ _⟩,⟨_,gs,hs⟩,fZ,gV,QI,QK⟩,S⟩
    |rw[show fw (own,out) c=([],out)from(if_neg QM).trans (if_neg (by show¬0<own.length;omega))]
     exact lj rfl ⟨_,hM,⟨⟨_,go,dQ _ _ _ _ _⟩,⟨_,gs,hs⟩,fZ,gV,QI,QK⟩,S⟩
   ·refine aZ (aj ?_);refine ck (M:=M) jR rfl rfl go rfl (rfl) fZ (fun Hh AT kF=>?_);change Hh.heap[_]? =some (Obj.cells #[.slice none 0 0] _ _)at AT;have:=an go;replace fZ:=(kF.mem _ this).2 fZ;have:=an gs;replace gV:=(kF.mem _ this).2 gV;replace gs:=kF.bS gs (fun hk=>by have hk:_=_:=hk;omega);replace ho:=ho.step kF (fun b hb hk=>by have hk:b=_:=hk;subst hk;first|exact absurd hb (ho.eW go (by decide))|exact absurd hb (ho.eW gs (by decide)));replace hs:=hs.step kF (fun b hb hk=>by have hk:b=_:=hk;subst hk;first|exact absurd hb (hs.eW go (by decide))|exact absurd hb (hs.eW gs (by decide)));replace hM:=kF.lt hM;have:=S.size;replace S:=S.trans kF (fun k hk h=>by have h:_=_:=h;subst h;first|(exfalso;omega)|(show _≤_;omega)|exact⟨by first|omega|assumption,(S.mem _ hk).1 ((kF.mem _ (an go)).1 fZ)⟩|exact .inl rfl|exact .inr rfl|exact .inr (.inl rfl)|exact .inr (.inr rfl)|exact rfl);have Hg:=AT;clear go;have go:=Hg;clear Hg;refine ae ?_
    first|refine gD.nil ?_|simp+decide only[yC,nd,if_true,if_false]|skip
    have QM: ¬(fh c=true∨ny c=true):=by rintro(h|h)<;>exact absurd h (by assumption)
    first
    |rw[show fw (own,out) c=([],out++[jS own])from(if_neg QM).trans (if_pos (by show 0<own.length;omega))]
     exact lj rfl ⟨_,hM,⟨⟨_,go,dQ _ _ _ _ _⟩,⟨_,gs,hs⟩,fZ,gV,QI,QK⟩,S⟩
    |rw[show fw (own,out) c=([],out)from(if_neg QM).trans (if_neg (by show¬0<own.length;omega))]
     exact lj rfl ⟨_,hM,⟨⟨_,go,dQ _ _ _ _ _⟩,⟨_,gs,hs⟩,fZ,gV,QI,QK⟩,S⟩
theorem mP (l:List Int):∀p,(l.foldl fw p).1.length≤p.1.length+l.length∧(l.foldl fw p).2.length≤p.2.length+l.length:=by
 induction l with
 |nil=>intro p;simp
 |cons c l ih=>
  intro p;have:=ih (fw p c)
  have h1:(fw p c).1.length≤p.1.length+1∧(fw p c).2.length≤p.2.length+1:=by
   unfold fw
   split
   ·simp
   ·split<;>simp
  simp only[List.foldl_cons,dr];omega
def words (l:List UInt8):List (List UInt8):=((eR l++[32]).foldl fw ([],[])).2
theorem k3 (l:List UInt8):(words l).length≤l.length+1:=by
 have h:=(mP (eR l++[32]) ([],[])).2;have h2:=hU l;rw[bM]at h;have h3:([]:List (List UInt8)).length=0:=rfl;have h4: [(32:Int)].length=1:=rfl;unfold words;simp only[h3,h4]at h;omega
theorem vz {M:aL} {l:List UInt8} (w0:World) (hM:Lt M w0) (hl:l.length≤900000):
  Spec Tryz.prog 192 #[.string ⟨l.toArray⟩] w0 (fun v w=>(RT.str.sl).V M w (words l) v∧Step M w0 M w aE):=by
 have gB:=hM;refine bu (args:=[_]) (fn:=Tryz.f192) Tryz.func192 rfl (n:=23) Tryz.ntmps192 ?_;have S:Step M w0 M w0 aE:=(ar _ _).cw (fun _ h=>h.elim) (fun _ h=>h.elim);refine al (aj (ak rfl rfl (ae (al (aj ?_)))));refine eG M tR rfl (fun gu xn Hi Kz ic j2=>?_);obtain⟨gw,jL⟩:∃M',M'=ins M gu:=⟨_,rfl⟩;rw[←jL]at j2;have fz:gw gu:=by rw[jL];exact .inl rfl
 change xn.heap[gu]? =some (.cells #[.slice none 0 0] _ _)at ic;replace hM:=j2.lt hM;have:=S.size;replace S:=S.aB j2;refine ae (al (aj ?_));refine eG gw jR rfl (fun fO Ot Zc Zd AU vB=>?_);obtain⟨Hj,vC⟩:∃M',M'=ins gw fO:=⟨_,rfl⟩;rw[←vC]at vB;have vD:Hj fO:=by rw[vC];exact .inl rfl
 change Ot.heap[fO]? =some (.cells #[.slice none 0 0] _ _)at AU;have:=an ic;replace fz:=(vB.mem _ this).2 fz;replace ic:=vB.aM ic;replace hM:=vB.lt hM;have:=S.size;replace S:=S.aB vB;refine ae (al (aj (jF (xs:=[]) (ys:=[.tmp 4,.tmp 3]) rfl rfl rfl (ak rfl rfl (ae (al (al (aj (ah rfl rfl ?_)))))))));refine aP rfl rfl Ya (Cz _ hM (by omega)) (fun v4 w4 hc=>?_);obtain⟨y5,s4⟩:=hc;have:=an ic;replace fz:=(s4.mem _ this).2 fz;replace ic:=s4.aM ic;have:=an AU;replace vD:=(s4.mem _ this).2 vD;replace AU:=s4.aM AU;replace hM:=s4.lt hM;have:=S.size;replace S:=S.aB s4;refine bK ax rfl y5 rfl (ah rfl rfl (ae (bh ?_)));refine dz (σ:=Nat) (fun k=>[(3,.pointer (some ⟨gu,0,none⟩)),(5,.func (.func 220) #[] #[.pointer (some ⟨fO,0,none⟩),.pointer (some ⟨gu,0,none⟩)]),(10,v4),(11,.int .i64 ((eR l).length:Int)),(12,.int .i64 (k:Int))]) (fun k w=>∃M',Lt M' w∧Step M w0 M' w aE∧Hd M' w w0.heap.size fO gu (((eR l).take k).foldl fw ([],[]))∧((RT.int .i64).sl).V M' w (eR l) v4∧k≤(eR l).length) (fun k=>(eR l).length-k) 0 (.cons rfl (.cons rfl (.cons rfl (.cons rfl (.cons rfl .nil))))) ?_ ?_
 ·exact⟨_,hM,S,⟨⟨_,AU,dQ _ _ _ _ _⟩,⟨_,ic,dQ _ _ _ _ _⟩,vD,fz,by omega,by omega⟩,y5,bH _⟩
 ·rintro k w ⟨M1,hM,S,ht,y5,hk⟩;refine al (aj (cz rfl rfl rfl (ae (al ?_))));refine bQ rfl (fun c5=>?_) (fun c5=>?_)
  ·refine aZ (al (bh (al (aj ?_))));refine cu (M:=M1) ax I3 rfl rfl rfl y5 (ao _ _) (by omega) (fun u6 c FR KA=>?_);refine cr (M:=M1) az rfl rfl KA (ao _ _) (fun in6=>?_);refine ak rfl rfl (ae (aj (ah rfl rfl (ah rfl rfl ?_))));have pF:=hU l;have JU:=mP ((eR l).take k) ([],[]);rw[bG]at JU;refine Rg.qK (first:=[]) (captured:=[.pointer (some ⟨fO,0,none⟩),.pointer (some ⟨gu,0,none⟩)]) rfl rfl rfl RI (vv (B:=w0.heap.size) _ hM c ht (by simp at JU;omega)) (fun r7 w7 hc=>?_);obtain⟨M2,Ou,Hk,s7⟩:=hc;have tk:(eR l).take (k+1)=(eR l).take k++[c]:=by rw[bP];simp only[aC]at FR;rw[FR];rfl
   refine ae (aj (bI rfl rfl rfl (by omega) (ah rfl rfl (ae ?_))));refine⟨rfl,k+1,(.cons rfl (.cons rfl (.cons rfl (.cons rfl (.cons rfl .nil))))),?_,?_⟩
   ·exact⟨M2,Ou,S.k9 s7 (aT _),by rw[tk,lU];exact Hk,y5.le s7.le,by omega⟩
   ·omega
  ·refine cY (al (aj (ah rfl rfl ?_)));have pF:=hU l;have JU:=mP ((eR l).take k) ([],[]);rw[bG]at JU;refine Rg.qK (first:=[]) (captured:=[.pointer (some ⟨fO,0,none⟩),.pointer (some ⟨gu,0,none⟩)]) rfl rfl rfl RI (vv (B:=w0.heap.size) _ hM 32 ht (by simp at JU;omega)) (fun r9 w9 hc=>?_);obtain⟨M2,Ou,Hk,s9⟩:=hc;have e9:fw (((eR l).take k).foldl fw ([],[])) 32=(eR l++[32]).foldl fw ([],[]):=by rw[lU,a7 (by omega)];rfl
   rw[e9]at Hk;obtain⟨_,⟨us,gs,hs⟩,_⟩:=Hk;replace S:=S.k9 s9 (aT _);refine ae (al (aj (aX aF rfl rfl rfl gs rfl (ak rfl rfl (ae (aQ ?_))))));exact aV rfl rfl ⟨il gB S hs (by have:=k3 l;omega),S.back⟩
end Go.K
namespace Go.K
open Go.Proofs
set_option maxRecDepth 10000
theorem Hl {p:List Int×List (List UInt8)} {c:Int} (h:uq c=true):fw p c=(p.1++[fm c],p.2):=if_pos (by simpa[uq]using h)
theorem pw {p:List Int×List (List UInt8)} {c:Int} (h:uq c=false):fw p c=if 0<p.1.length then([],p.2++[jS p.1])else([],p.2):=if_neg (by simpa[uq]using h)
def FT (sg:List Int) (i:Nat) (ws:List (List UInt8)):Prop:=(i≤sg.length∧(sg.take i).foldl fw ([],[])=([],ws))∨(i=sg.length+1∧((sg++[32]).foldl fw ([],[])).2=ws)
theorem Hm {c:Int} (h:uq c=true):0≤c∧c≤1114111:=oO (by simpa[uq]using h)
theorem SV:uq 32=false:=by decide
theorem sC {sg:List Int} {i:Nat} {c:Int} (h:sg[i]? =some c) (p:List Int×List (List UInt8)):(sg.take (i+1)).foldl fw p=fw ((sg.take i).foldl fw p) c:=by
 rw[bP,h,cn,lU];rfl
theorem FT.skip {sg:List Int} {i:Nat} {ws:List (List UInt8)} {c:Int} (h:FT sg i ws) (hc:sg[i]? =some c) (hi:uq c=false):FT sg (i+1) ws:=by
 have dW:=(aw.1 hc).1;rcases h with⟨_,h⟩|⟨h,_⟩
 ·exact .inl ⟨dW,by rw[sC hc,h,pw hi];rfl⟩
 ·omega
theorem FT.word {sg:List Int} {j:Nat} {own:List Int} {ws:List (List UInt8)} (h:(sg.take j).foldl fw ([],[])=(own,ws)) (ho:0<own.length) (hj:j≤sg.length) (hn:∀c,sg[j]? =some c→uq c=false):FT sg (j+1) (ws++[jS own]):=by
 rcases fy hj with e|dW
 ·refine .inr ⟨by omega,?_⟩;rw[e,rQ]at h;rw[lU,h];show(fw (own,ws) 32).2=_;rw[pw SV,if_pos ho]
 ·have hc:sg[j]? =some sg[j]:=av dW;exact .inl ⟨dW,by rw[sC hc,h,pw (hn _ hc),if_pos ho]⟩
theorem FT.done {sg:List Int} {i:Nat} {ws:List (List UInt8)} (h:FT sg i ws) (hi:sg.length≤i):((sg++[32]).foldl fw ([],[])).2=ws:=by
 rcases h with⟨h1,h⟩|⟨_,h⟩
 ·rw[a7 (by omega)]at h;rw[lU,h];show(fw ([],ws) 32).2=_;rw[pw SV];rfl
 ·exact h
theorem FT.len {sg:List Int} {i:Nat} {ws:List (List UInt8)} (h:FT sg i ws):ws.length≤sg.length+1:=by
 rcases h with⟨_,h⟩|⟨_,h⟩
 ·have:=(mP (sg.take i) ([],[])).2;rw[h,bG]at this;simp only[jm]at this;have e:(([]:List Int),([]:List (List UInt8))).2.length=0:=rfl;omega
 ·have:=(mP (sg++[32]) ([],[])).2;rw[h,bM]at this;have e:(([]:List Int),([]:List (List UInt8))).2.length=0:=rfl;have e2: [(32:Int)].length=1:=rfl;omega
theorem fY {sg:List Int} {j:Nat} {own:List Int} {ws:List (List UInt8)} (h:(sg.take j).foldl fw ([],[])=(own,ws)):own.length≤sg.length∧ws.length≤sg.length:=by
 have:=mP (sg.take j) ([],[]);rw[h,bG]at this;simp only[jm]at this;have e:(([]:List Int),([]:List (List UInt8))).1.length=0:=rfl;have e2:(([]:List Int),([]:List (List UInt8))).2.length=0:=rfl;omega
theorem tx {M:aL} {l:List UInt8} (w0:World) (hM:Lt M w0) (hl:l.length≤900000):
  Spec Tryz.prog 191 #[.string ⟨l.toArray⟩] w0 (fun v w=>(RT.str.sl).V M w (words l) v∧Step M w0 M w aE):=by
 have gB:=hM;have pF:=hU l;refine bu (args:=[_]) (fn:=Tryz.f191) Tryz.func191 rfl (n:=50) Tryz.ntmps191 ?_;have S:Step M w0 M w0 aE:=(ar _ _).cw (fun _ h=>h.elim) (fun _ h=>h.elim);refine al (aj (ak rfl rfl (ae (al (aj (ah rfl rfl ?_))))));refine aP rfl rfl X5 (AO _ hM (by omega)) (fun v1 w1 hc=>?_);obtain⟨hv,s1⟩:=hc;replace hM:=s1.lt hM;have:=S.size;replace S:=S.aB s1;refine ak rfl rfl (ae (al (aj (ak rfl rfl (ae (al (al (aj (ak rfl rfl (ae (bh ?_)))))))))));refine dz (σ:=Nat×Value) (fun q=>[(3,v1),(4,q.2),(5,.int .i64 (q.1:Int))]) (fun q w=>∃M' ws,Lt M' w∧Step M w0 M' w aE∧Own RT.str 9 M' w w0.heap.size q.2 ws∧((RT.int .i64).sl).V M' w (eR l) v1∧FT (eR l) q.1 ws) (fun q=>(eR l).length+1-q.1) (0,.slice none 0 0) (.cons rfl (.cons rfl (.cons rfl .nil))) ?_ ?_
 ·exact⟨M,[],hM,S,dQ _ _ _ _ _,hv,.inl ⟨bH _,rfl⟩⟩
 ·rintro⟨i,u4⟩ w ⟨M1,ws,hM,S,rf,hv,SY⟩;dsimp only at rf SY ⊢;refine al (al (aj (ah rfl rfl (ah rfl rfl (bK ax rfl hv rfl (cz rfl rfl rfl (ae ?_)))))));refine bQ rfl (fun c4=>?_) (fun c4=>?_)
  ·refine aZ (al (bh (al (aj (ah rfl rfl (ah rfl rfl ?_))))));refine cu (M:=M1) ax I3 rfl rfl rfl hv (ao _ _) (by omega) (fun J6 c WH huc=>?_);refine cr (M:=M1) az rfl rfl huc (ao _ _) (fun inc=>?_);rw[aC]at WH;refine aP rfl rfl RG (AN c _) (fun r wc hc=>?_);obtain⟨rfl,rfl⟩:=hc;refine bO (v':= .bool (decide (uq c=true))) (by cases uq c<;>rfl) (ak rfl rfl (ae (al (al (aj (ah rfl rfl (jN rfl rfl (bO (v':= .bool (decide (uq c=false))) (by cases uq c<;>rfl) (ae ?_)))))))));refine bQ rfl (fun c7=>?_) (fun c7=>?_)
   ·refine cY (aj (ah rfl rfl (bI rfl rfl rfl (by omega) (ak rfl rfl (ae ?_)))));refine⟨rfl,(i+1,u4),(.cons rfl (.cons rfl (.cons rfl .nil))),?_,?_⟩
    ·exact⟨M1,ws,hM,S,rf,hv,SY.skip WH (by assumption)⟩
    ·dsimp only;omega
   ·refine aZ (al (aj (ak rfl rfl (ae (al (bh ?_))))));refine dz (σ:=Nat×List Int×Value) (fun q=>[(3,v1),(4,u4),(5,.int .i64 (q.1:Int)),(7,q.2.2)]) (fun q w=>∃M',Lt M' w∧Step M w0 M' w aE∧Own RT.str 9 M' w w0.heap.size u4 ws∧Own (RT.int .i64) 3 M' w w0.heap.size q.2.2 q.2.1∧((RT.int .i64).sl).V M' w (eR l) v1∧((eR l).take q.1).foldl fw ([],[])=(q.2.1,ws)∧i≤q.1∧q.1≤(eR l).length∧(i<q.1→0<q.2.1.length)) (fun q=>(eR l).length-q.1) (i,[],.slice none 0 0) (.cons rfl (.cons rfl (.cons rfl (.cons rfl .nil)))) ?_ ?_
    ·have Ze:((eR l).take i).foldl fw ([],[])=([],ws):=by
      rcases SY with⟨_,h⟩|⟨h,_⟩
      ·exact h
      ·omega
     exact⟨M1,hM,S,rf,dQ _ _ _ _ _,hv,Ze,aT _,by dsimp only;omega,fun h=>absurd h (od _)⟩
    ·rintro⟨j,own,u7⟩ w ⟨M2,hM,S,rf,sG,hv,hf,JH,tp,rY⟩;dsimp only at sG hf JH tp rY ⊢;refine al (al (aj (ah rfl rfl (ah rfl rfl (bK ax rfl hv rfl (cz rfl rfl rfl (ah rfl rfl ?_)))))));refine aR (g:=27) rfl (fun Zf=>?_) (fun Zf=>?_)
     ·refine aq rfl rfl (ah rfl rfl (aq rfl rfl (ah rfl rfl (aq rfl rfl ?_))));refine cu (M:=M2) ax I3 rfl rfl rfl hv (ao _ _) (by omega) (fun aif d sH hud=>?_);refine aq rfl rfl ?_;refine cr (M:=M2) az rfl rfl hud (ao _ _) (fun ind=>?_);rw[aC]at sH;refine aq rfl rfl ?_;refine aP rfl rfl RG (AN d _) (fun r wc hc=>?_);obtain⟨rfl,rfl⟩:=hc;refine bO (v':= .bool (decide (uq d=true))) (by cases uq d<;>rfl) (aW rfl rfl rfl (ae ?_));refine bQ rfl (fun c9=>?_) (fun c9=>?_)
      ·refine aZ (bh (al (aj (ah rfl rfl (ah rfl rfl (ah rfl rfl ?_))))));refine cu (M:=M2) ax I3 rfl rfl rfl hv (ao _ _) (by omega) (fun S0 e iH hue=>?_);refine cr (M:=M2) az rfl rfl hue (ao _ _) (fun l0=>?_);rw[aC]at iH;have Ov:uq e=true:=by rw[sH]at iH;cases iH;assumption
       refine aP rfl rfl X6 (Cw e _ (Hm Ov)) (fun r wc hc=>?_);obtain⟨rfl,rfl⟩:=hc;refine eA (A:=RT.int .i64) (hn:=by decide) (M:=M2) ax I3 (by decide) rfl rfl hM (gC (by have:=Hm Ov;unfold fm;split<;>omega)) (.inr ⟨rfl,rfl⟩) (fun aeE aeF CC AV=>?_);replace hv:=hv.le AV.le;replace rf:=rf.a8 AV;replace sG:=sG.a8 AV;replace hM:=AV.lt hM;have:=S.size;replace S:=S.aB AV;refine cv (M:=M2) (base:=w0.heap.size) ax I3 rfl rfl rfl rfl sG CC (ao _ _) (by have:=fY hf;simp;omega) (by have:=fY hf;simp;omega) (S.size) (fun Ma S8 Ta Ow nW=>?_);replace hv:=hv.le nW.le;replace CC:=CC.le nW.le;replace rf:=rf.step nW (fun b h1 h2=>rf.iW sG (by decide) h1 h2);replace hM:=nW.lt hM;have:=S.size;replace S:=S.cF nW sG (aT _);replace sG:=Ow;refine ak rfl rfl (ae (aj (ah rfl rfl (bI rfl rfl rfl (by omega) (ak rfl rfl (ae ?_))))));refine⟨rfl,(j+1,own++[fm e],Ma),(.cons rfl (.cons rfl (.cons rfl (.cons rfl .nil)))),?_,?_⟩
       ·exact⟨S8,hM,S,rf,sG,hv,by rw[sC iH,hf,Hl Ov],by dsimp only;omega,by dsimp only;omega,fun _=>by simp⟩
       ·dsimp only;omega
      ·refine cY (aj (ah rfl rfl (ah rfl rfl ?_)));refine aP rfl rfl RH (vr (M:=rm M2 u7) _ (fun b hb=>hM b hb.1) (sG.view (by have:=fY hf;omega)) (by have:=fY hf;omega)) (fun Tb QN Ox=>?_);obtain⟨rfl,vE⟩:=Ox;replace vE:=vE.any M2;replace hv:=hv.le vE.le;replace rf:=rf.a8 vE;replace sG:=sG.a8 vE;replace hM:=vE.lt hM;have:=S.size;replace S:=S.aB vE;refine eA (A:=RT.str) (hn:=by decide) (M:=M2) aF I9 (by decide) rfl rfl hM (jG.2 ⟨rfl,by have:=fG own;have:=fY hf;omega⟩) (.inr ⟨rfl,rfl⟩) (fun Tc Td qu oP=>?_);replace hv:=hv.le oP.le;replace rf:=rf.a8 oP;replace sG:=sG.a8 oP;replace hM:=oP.lt hM;have:=S.size;replace S:=S.aB oP;refine cv (M:=M2) (base:=w0.heap.size) aF I9 rfl rfl rfl rfl rf qu (ao _ _) (by have:=fY hf;simp;omega) (by have:=fY hf;simp;omega) (S.size) (fun vF oQ Hn qv eJ=>?_);replace hv:=hv.le eJ.le;replace qu:=qu.le eJ.le;replace sG:=sG.step eJ (fun b h1 h2=>sG.iW rf (by decide) h1 h2);replace hM:=eJ.lt hM;have:=S.size;replace S:=S.cF eJ rf (aT _);replace rf:=qv;refine ak rfl rfl (ae (aj (ah rfl rfl (bI rfl rfl rfl (by omega) (ak rfl rfl (ae ?_))))))
       have rY:0<own.length:=by
        rcases fy JH with e|h
        ·exfalso;subst e
         first|omega|(rw[WH]at sH;cases sH;exact c9 (by cases hq:uq c with|true=>rfl|false=>exact absurd hq (by assumption)))
        ·exact rY h
       have Oy:∀c,(eR l)[j]? =some c→uq c=false:=fun c hc=>by
        first|(rw[eM (by omega)]at hc;cases hc)|(rw[sH]at hc;cases hc;exact eQ.2 c9)
       refine⟨rfl,(j+1,vF),(.cons rfl (.cons rfl (.cons rfl .nil))),?_,?_⟩
       ·exact⟨oQ,_,hM,S,rf,hv,FT.word hf rY tp Oy⟩
       ·dsimp only;omega
     ·refine au rfl rfl rfl rfl (au rfl rfl rfl rfl (au rfl rfl rfl rfl (au rfl rfl rfl rfl (au rfl rfl rfl rfl (aJ rfl rfl rfl (ae (iY rfl (cY (aj (ah rfl rfl (ah rfl rfl ?_)))))))))));refine aP rfl rfl RH (vr (M:=rm M2 u7) _ (fun b hb=>hM b hb.1) (sG.view (by have:=fY hf;omega)) (by have:=fY hf;omega)) (fun Tb QN Ox=>?_);obtain⟨rfl,vE⟩:=Ox;replace vE:=vE.any M2;replace hv:=hv.le vE.le;replace rf:=rf.a8 vE;replace sG:=sG.a8 vE;replace hM:=vE.lt hM;have:=S.size;replace S:=S.aB vE;refine eA (A:=RT.str) (hn:=by decide) (M:=M2) aF I9 (by decide) rfl rfl hM (jG.2 ⟨rfl,by have:=fG own;have:=fY hf;omega⟩) (.inr ⟨rfl,rfl⟩) (fun Tc Td qu oP=>?_);replace hv:=hv.le oP.le;replace rf:=rf.a8 oP;replace sG:=sG.a8 oP;replace hM:=oP.lt hM;have:=S.size;replace S:=S.aB oP;refine cv (M:=M2) (base:=w0.heap.size) aF I9 rfl rfl rfl rfl rf qu (ao _ _) (by have:=fY hf;simp;omega) (by have:=fY hf;simp;omega) (S.size) (fun vF oQ Hn qv eJ=>?_);replace hv:=hv.le eJ.le;replace qu:=qu.le eJ.le;replace sG:=sG.step eJ (fun b h1 h2=>sG.iW rf (by decide) h1 h2);replace hM:=eJ.lt hM;have:=S.size;replace S:=S.cF eJ rf (aT _);replace rf:=qv;refine ak rfl rfl (ae (aj (ah rfl rfl (bI rfl rfl rfl (by omega) (ak rfl rfl (ae ?_))))))
      have rY:0<own.length:=by
       rcases fy JH with e|h
       ·exfalso;subst e
        first|omega|(rw[WH]at sH;cases sH;exact c9 (by cases hq:uq c with|true=>rfl|false=>exact absurd hq (by assumption)))
       ·exact rY h
      have Oy:∀c,(eR l)[j]? =some c→uq c=false:=fun c hc=>by
       first|(rw[eM (by omega)]at hc;cases hc)|(rw[sH]at hc;cases hc;exact eQ.2 c9)
      refine⟨rfl,(j+1,vF),(.cons rfl (.cons rfl (.cons rfl .nil))),?_,?_⟩
      ·exact⟨oQ,_,hM,S,rf,hv,FT.word hf rY tp Oy⟩
      ·dsimp only;omega
  ·refine cY (al (aj (ah rfl rfl (ak rfl rfl (ae (aQ ?_))))));have e:=SY.done (by omega);have e2:words l=ws:=e;rw[e2];exact aV rfl rfl ⟨rf.close gB S (by have:=SY.len;omega),S.back⟩
end Go.K
namespace Go.K
open Go.Proofs
set_option maxRecDepth 10000
def lH:Nat→List (List UInt8)→Int
 |_,[]=>0
 |i,w::ws=>if 30<w.length then 3 else if 500≤i then 7 else lH (i+1) ws
theorem DX {i k:Nat} {ws:List (List UInt8)} {x:List UInt8} (h:ws[k]? =some x):lH i (ws.drop k)=if 30<x.length then 3 else if 500≤i then 7 else lH (i+1) (ws.drop (k+1)):=by
 have dW:=(aw.1 h).1;rw[eB dW,(aw.1 h).2];rfl
theorem dP {M:aL} {w:World} {x:List UInt8} {v:Value} (h:RT.str.V M w x v):v= .string ⟨x.toArray⟩:=(jG.1 h).1
theorem E1 {M:aL} {l:List UInt8} (w0:World) (hM:Lt M w0) (hl:l.length≤900000):
  Spec Tryz.prog 150 #[.string ⟨l.toArray⟩] w0 (fun v w=>(∃u,v= .tuple #[u,.int .i64 (lH 0 (words l))]∧(lH 0 (words l)=0→∃a cap,u= .slice a (words l).length cap))∧Step M w0 M w aE):=by
 have gB:=hM;refine bu (args:=[_]) (fn:=Tryz.f150) Tryz.func150 rfl (n:=30) Tryz.ntmps150 ?_;have S:Step M w0 M w0 aE:=(ar _ _).cw (fun _ h=>h.elim) (fun _ h=>h.elim);refine al (aj (ak rfl rfl (ak rfl rfl (ae (al (aj (ak rfl rfl (ae (al (al (aj ?_)))))))))));refine ah rfl rfl ?_;refine aP rfl rfl RE (vz _ hM hl) (fun v1 w1 hc=>?_);obtain⟨hv,s1⟩:=hc;replace hM:=s1.lt hM;have:=S.size;replace S:=S.aB s1;refine bK aF rfl hv rfl (ah rfl rfl (ae (bh ?_)));refine dz (σ:=Nat×Value) (fun q=>[(8,v1),(4,q.2),(9,.int .i64 ((words l).length:Int)),(10,.int .i64 (q.1:Int))]) (fun q w=>(∃M' xs,Lt M' w∧Step M w0 M' w aE∧Own (RT.pair RT.str (RT.int .i64)) 256 M' w w0.heap.size q.2 xs∧xs.length=q.1∧(RT.str.sl).V M' w (words l) v1)∧lH 0 (words l)=lH q.1 ((words l).drop q.1)∧q.1≤(words l).length∧q.1≤500) (fun q=>(words l).length-q.1) (0,.slice none 0 0) (.cons rfl (.cons rfl (.cons rfl (.cons rfl .nil)))) ?_ ?_
 ·exact⟨⟨M,[],hM,S,dQ _ _ _ _ _,rfl,hv⟩,rfl,bH _,bH _⟩
 ·rintro⟨i,u⟩ w ⟨⟨M1,xs,hM,S,ho,yI,hv⟩,EC,hi,Zg⟩;dsimp only at ho yI EC hi Zg ⊢;refine al (aj (cz rfl rfl rfl (ae (al ?_))));refine bQ rfl (fun c3=>?_) (fun c3=>?_)
  ·refine aZ (al (bh (al (aj (ah rfl rfl ?_)))));refine cu (M:=M1) aF I9 rfl rfl rfl hv (ao _ _) (by omega) (fun Zh x xo Zi=>?_);refine bg (M:=M1) aD rfl rfl rfl rfl rfl Zi (ao _ _) (fun vx tT=>?_);rw[aC]at xo;obtain rfl:=dP tT;have ht:=DX (i:=i) xo;refine ak rfl rfl (ak rfl rfl (ae (al (bh (al (aj (ah rfl rfl (Rg.mh aD rfl rfl (bO (v':= .int .i64 (x.length:Int)) (by simp[ByteArray.size]) (lW rfl rfl rfl (ak rfl rfl ?_)))))))))));refine ae ?_;refine bQ rfl (fun c5=>?_) (fun c5=>?_)
   ·refine al (aj (ak rfl rfl (ak rfl rfl (ae (aQ ?_)))));rw[EC,ht,if_pos (by omega)];exact fa rfl rfl rfl ⟨⟨_,rfl,fun h=>by cases h⟩,S.back⟩
   ·refine al (aj (ah rfl rfl (mB rfl rfl rfl (ak rfl rfl (ae ?_)))));refine bQ rfl (fun c7=>?_) (fun c7=>?_)
    ·refine al (aj (ak rfl rfl (ak rfl rfl (ae (aQ ?_)))));rw[EC,ht,if_neg (by omega),if_pos (by omega)];exact fa rfl rfl rfl ⟨⟨_,rfl,fun h=>by cases h⟩,S.back⟩
    ·refine aZ (aj (ah rfl rfl (ah rfl rfl (ah rfl rfl (eT (places:=[(0,1),(1,1)]) Tryz.underlying256 EE Ry rfl ⟨_,_,rfl,rfl,_,_,rfl,rfl,rfl⟩ (out:=[_,_]) ⟨0,[_],rfl,rfl,by simp[Value.cells],1,[_],rfl,rfl,by simp[Value.cells],rfl⟩ ?_)))));refine eA (A:=(RT.pair RT.str (RT.int .i64))) (hn:=by decide) (M:=M1) Tryz.underlying222 EE (by decide) rfl rfl hM (eC tT (gC (x:=(i:Int)) (by omega)) rfl rfl rfl rfl) (.inl rfl) (fun Cx Ku AW jO=>?_);replace hv:=hv.le jO.le;replace tT:=tT.le jO.le;replace ho:=ho.a8 jO;replace hM:=jO.lt hM;have:=S.size;replace S:=S.aB jO;refine cv (M:=M1) (base:=w0.heap.size) Tryz.underlying222 EE rfl rfl rfl rfl ho AW (ao _ _) (by simp;omega) (by simp;omega) (S.size) (fun Zj Zk Te Tf oR=>?_);replace hv:=hv.le oR.le;replace tT:=tT.le oR.le;replace AW:=AW.le oR.le;replace hM:=oR.lt hM;have:=S.size;replace S:=S.cF oR ho (aT _);replace ho:=Tf;refine ak rfl rfl (ae (aj (bI rfl rfl rfl (by omega) (ah rfl rfl (ae ?_)))));refine⟨rfl,(i+1,Zj),(.cons rfl (.cons rfl (.cons rfl (.cons rfl .nil)))),?_,?_⟩
     ·exact⟨⟨Zk,_,hM,S,ho,by simp[yI],hv⟩,by rw[EC,ht,if_neg (by omega),if_neg (by omega)],by dsimp only;omega,by dsimp only;omega⟩
     ·dsimp only;omega
  ·refine cY (al (aj (ah rfl rfl (ak rfl rfl (ak rfl rfl (ae (aQ ?_)))))));have e:lH 0 (words l)=0:=by rw[EC,kC (by omega)];rfl
   rw[e];obtain⟨a,cap,he,_⟩:=ho.isSlice;exact fa rfl rfl rfl ⟨⟨u,rfl,fun _=>⟨a,cap,by rw[he,yI];congr 1;omega⟩⟩,S.back⟩
theorem CD {M:aL} {l:List UInt8} (w0:World) (hM:Lt M w0) (hl:l.length≤900000):
  Spec Tryz.prog 167 #[.string ⟨l.toArray⟩] w0 (fun v w=>(∃u,v= .tuple #[u,.int .i64 (lH 0 (words l))]∧(lH 0 (words l)=0→∃a cap,u= .slice a (words l).length cap))∧Step M w0 M w aE):=by
 have gB:=hM;refine bu (args:=[_]) (fn:=Tryz.f167) Tryz.func167 rfl (n:=33) Tryz.ntmps167 ?_;have S:Step M w0 M w0 aE:=(ar _ _).cw (fun _ h=>h.elim) (fun _ h=>h.elim);refine al (aj (ak rfl rfl (ak rfl rfl (ae (al (aj (ah rfl rfl ?_)))))));refine aP rfl rfl RD (tx _ hM hl) (fun v1 w1 hc=>?_);obtain⟨hv,s1⟩:=hc;replace hM:=s1.lt hM;have:=S.size;replace S:=S.aB s1;refine ak rfl rfl (ae (al (aj (ak rfl rfl (ae (al (al (aj (ak rfl rfl (ae (bh ?_)))))))))));refine dz (σ:=Nat×Value) (fun q=>[(4,v1),(5,q.2),(6,.int .i64 (q.1:Int))]) (fun q w=>(∃M' xs,Lt M' w∧Step M w0 M' w aE∧Own (RT.pair RT.str (RT.int .i64)) 256 M' w w0.heap.size q.2 xs∧xs.length=q.1∧(RT.str.sl).V M' w (words l) v1)∧lH 0 (words l)=lH q.1 ((words l).drop q.1)∧q.1≤(words l).length∧q.1≤500) (fun q=>(words l).length-q.1) (0,.slice none 0 0) (.cons rfl (.cons rfl (.cons rfl .nil))) ?_ ?_
 ·exact⟨⟨M,[],hM,S,dQ _ _ _ _ _,rfl,hv⟩,rfl,bH _,bH _⟩
 ·rintro⟨i,u⟩ w ⟨⟨M1,xs,hM,S,ho,yI,hv⟩,EC,hi,Zg⟩;dsimp only at ho yI EC hi Zg ⊢;refine al (al (aj (ah rfl rfl (ah rfl rfl (bK aF rfl hv rfl (cz rfl rfl rfl (ae ?_)))))));refine bQ rfl (fun c4=>?_) (fun c4=>?_)
  ·refine aZ (al (bh (al (al (aj (ah rfl rfl (ah rfl rfl ?_)))))));refine cu (M:=M1) aF I9 rfl rfl rfl hv (ao _ _) (by omega) (fun J6 x xo Zi=>?_);refine bg (M:=M1) aD rfl rfl rfl rfl rfl Zi (ao _ _) (fun vx tT=>?_);rw[aC]at xo;obtain rfl:=dP tT;have ht:=DX (i:=i) xo;refine Rg.mh aD rfl rfl (bO (v':= .int .i64 (x.length:Int)) (by simp[ByteArray.size]) (lW rfl rfl rfl (ae ?_)));refine bQ rfl (fun c6=>?_) (fun c6=>?_)
   ·refine al (aj (ak rfl rfl (ak rfl rfl (ae (aQ ?_)))));rw[EC,ht,if_pos (by omega)];exact fa rfl rfl rfl ⟨⟨_,rfl,fun h=>by cases h⟩,S.back⟩
   ·refine aZ (al (al (aj (ah rfl rfl (ek rfl rfl rfl (ae ?_))))));refine bQ rfl (fun c8=>?_) (fun c8=>?_)
    ·refine al (aj (ak rfl rfl (ak rfl rfl (ae (aQ ?_)))));rw[EC,ht,if_neg (by omega),if_pos (by omega)];exact fa rfl rfl rfl ⟨⟨_,rfl,fun h=>by cases h⟩,S.back⟩
    ·refine aZ (aj (ah rfl rfl (ah rfl rfl (ah rfl rfl ?_))));refine cu (M:=M1) aF I9 rfl rfl rfl hv (ao _ _) (by omega) (fun S0 y xp huy=>?_);refine bg (M:=M1) aD rfl rfl rfl rfl rfl huy (ao _ _) (fun vy QO=>?_);rw[aC]at xp;obtain rfl:=dP QO;obtain rfl:x=y:=by rw[xo]at xp;exact aN xp
     refine ah rfl rfl (eT (places:=[(0,1),(1,1)]) Tryz.underlying256 EE Ry rfl ⟨_,_,rfl,rfl,_,_,rfl,rfl,rfl⟩ (out:=[_,_]) ⟨0,[_],rfl,rfl,by simp[Value.cells],1,[_],rfl,rfl,by simp[Value.cells],rfl⟩ ?_);refine eA (A:=(RT.pair RT.str (RT.int .i64))) (hn:=by decide) (M:=M1) Tryz.underlying222 EE (by decide) rfl rfl hM (eC QO (gC (x:=(i:Int)) (by omega)) rfl rfl rfl rfl) (.inl rfl) (fun Ma Ta CE nW=>?_);replace hv:=hv.le nW.le;replace tT:=tT.le nW.le;replace QO:=QO.le nW.le;replace ho:=ho.a8 nW;replace hM:=nW.lt hM;have:=S.size;replace S:=S.aB nW;refine cv (M:=M1) (base:=w0.heap.size) Tryz.underlying222 EE rfl rfl rfl rfl ho CE (ao _ _) (by simp;omega) (by simp;omega) (S.size) (fun Tg Th DY Oz fR=>?_);replace hv:=hv.le fR.le;replace tT:=tT.le fR.le;replace QO:=QO.le fR.le;replace CE:=CE.le fR.le;replace hM:=fR.lt hM;have:=S.size;replace S:=S.cF fR ho (aT _);replace ho:=Oz;refine ak rfl rfl (ae (aj (ah rfl rfl (bI rfl rfl rfl (by omega) (ak rfl rfl (ae ?_))))));refine⟨rfl,(i+1,Tg),(.cons rfl (.cons rfl (.cons rfl .nil))),?_,?_⟩
     ·exact⟨⟨Th,_,hM,S,ho,by simp[yI],hv⟩,by rw[EC,ht,if_neg (by omega),if_neg (by omega)],by dsimp only;omega,by dsimp only;omega⟩
     ·dsimp only;omega
  ·refine cY (al (aj (ah rfl rfl (ak rfl rfl (ak rfl rfl (ae (aQ ?_)))))));have e:lH 0 (words l)=0:=by rw[EC,kC (by omega)];rfl
   rw[e];obtain⟨a,cap,he,_⟩:=ho.isSlice;exact fa rfl rfl rfl ⟨⟨u,rfl,fun _=>⟨a,cap,by rw[he,yI];congr 1;omega⟩⟩,S.back⟩
end Go.K
namespace Go.K
abbrev Fd:=List UInt8×List UInt8
abbrev Dc:=Int×List Fd
abbrev En:=Dc×Int
abbrev RT.fd:RT Fd:=RT.pair RT.str RT.str
abbrev RT.dc:RT Dc:=RT.pair (RT.int .i64) (RT.fd.sl)
abbrev RT.en:RT En:=RT.pair RT.dc (RT.int .i64)
theorem E2:Part RT.fd RT.str (fun p=>p.1) 0:=Part.fst _ _
theorem Md:Part RT.fd RT.str (fun p=>p.2) 1:=rR _ _
theorem QP:Part RT.dc (RT.int .i64) (fun p=>p.1) 0:=Part.fst _ _
theorem zf:Part RT.dc (RT.fd.sl) (fun p=>p.2) 1:=rR _ _
theorem KB:Part RT.en RT.dc (fun p=>p.1) 0:=Part.fst _ _
theorem Ti:Part RT.en (RT.int .i64) (fun p=>p.2) 2:=rR _ _
theorem Ho {M:aL} {w:World} {p:Dc} {v:Value} (h:RT.dc.V M w p v):∃u,v= .agg #[.int .i64 p.1,u]:=by
 obtain⟨vs,⟨va,vb,rfl,⟨rfl,_⟩,hb⟩,rfl⟩:=h;have:=(RT.fd.sl (by decide)).len hb
 match vb,this with
 |[u],_=>exact⟨u,rfl⟩
theorem Hp {M:aL} {w:World} {p:Dc} {u:Value} {s:Int} (h:RT.dc.V M w p (.agg #[.int .i64 p.1,u])) (hs: -9223372036854775808≤s∧s≤9223372036854775807):RT.en.V M w (p,s) (.agg [.int .i64 p.1,u,.int .i64 s].toArray):=by
 obtain⟨vs,h1,h2⟩:=h
 have h3:vs=[.int .i64 p.1,u]:=by
  have:Value.agg #[.int .i64 p.1,u]= .agg vs.toArray:=h2;injection this with this
  simpa using(congrArg Array.toList this).symm
 subst h3;exact⟨_,⟨[.int .i64 p.1,u],[.int .i64 s],rfl,h1,rfl,hs.1,hs.2⟩,rfl⟩
theorem Own.Me {α:Type} (A:RT α) (e:TypeId) (base:Nat) {M:aL} {w:World} (h:Lt M w):Own A e M w base (.slice none 0 0) []:=dQ _ _ _ _ _
section
variable {P:Program} {r:Option Nat} {n:Nat} {L:Sl} {ds:List Deferred} {w:World} {K:Kt} {ops:Array Oper} {rest:List Oper} {d:Nat} {x:Operand} {ty:TypeId} {pos:String} {af:Array Edge}
theorem Rg.iM {α:Type} {A:RT α} {e:TypeId} {v:Value} {a:α} {M:aL} (hx:ev L x=some v) (hd:Nat.blt d n=true) (hM:Lt M w) (hv:A.V M w a v) (hg:A.agg=true)
  (k:∀u w',cc A M w' u a→Step M w M w' aE→w.heap.size≤w'.heap.size→Rg P r n ops rest ((d,u)::L) ds w' K):
  Rg P r n ops ({dst:=some d,op:= .box e x,type:=ty,pos,after:=af,guard:=none}::rest) L ds w K:=by
 refine tO M hx hd (fun b w' h1 h2 hb s=>?_);obtain⟨vs,h3,h4⟩:=hv;have hc:v.cells=vs.toArray:=by subst h4;simp[RT.val,hg,Value.cells]
 rw[hc]at hb;refine k _ w' ⟨b,0,vs,rfl,fun hm=>?_,A.le s.back.le h3,fun j u hj=>?_⟩ s.back s.size
 ·have:=hM b hm;omega
 ·rw[Nat.zero_add];exact iJ hb (by simpa using hj)
end
end Go.K
namespace Go.Proofs
open Go.Shelf
def Tryz.AX:Go.Shelf.Ren:=⟨fun|160=>193|232=>227|231=>226|227=>228|234=>230|233=>229|236=>232|235=>231|228=>257|271=>260|151=>259|197=>258|120=>280|152=>279|260=>278|137=>287|119=>277|224=>288|225=>289|217=>291|266=>292|n=>n,fun|9=>9|4=>4|3=>3|5=>5|117=>283|116=>282|0=>0|124=>286|21=>21|105=>317|46=>183|119=>338|139=>341|138=>340|n=>n,fun|3=>2|4=>3|n=>n⟩
theorem Tryz.KC:Go.Proofs.Lays.n160 Tryz.prog Tryz.AX:={
 mixed:=by kernel_rfl
 f119:=Tryz.func277.trans (congrArg some (by kernel_rfl))
 f120:=Tryz.func280.trans (congrArg some (by kernel_rfl))
 f137:=Tryz.func287.trans (congrArg some (by kernel_rfl))
 f151:=Tryz.func259.trans (congrArg some (by kernel_rfl))
 f152:=Tryz.func279.trans (congrArg some (by kernel_rfl))
 f160:=Tryz.func193.trans (congrArg some (by kernel_rfl))
 f197:=Tryz.func258.trans (congrArg some (by kernel_rfl))
 f217:=Tryz.func291.trans (congrArg some (by kernel_rfl))
 f224:=Tryz.func288.trans (congrArg some (by kernel_rfl))
 f225:=Tryz.func289.trans (congrArg some (by kernel_rfl))
 f227:=Tryz.func228.trans (congrArg some (by kernel_rfl))
 f228:=Tryz.func257.trans (congrArg some (by kernel_rfl))
 f231:=Tryz.func226.trans (congrArg some (by kernel_rfl))
 f232:=Tryz.func227.trans (congrArg some (by kernel_rfl))
 f233:=Tryz.func229.trans (congrArg some (by kernel_rfl))
 f234:=Tryz.func230.trans (congrArg some (by kernel_rfl))
 f235:=Tryz.func231.trans (congrArg some (by kernel_rfl))
 f236:=Tryz.func232.trans (congrArg some (by kernel_rfl))
 f260:=Tryz.func278.trans (congrArg some (by kernel_rfl))
 f266:=Tryz.func292.trans (congrArg some (by kernel_rfl))
 f271:=Tryz.func260.trans (congrArg some (by kernel_rfl))
 t0:=jd
 a0:=uw
 z0:=qc
 v0:=jT
 t3:=az
 a3:=ux
 z3:=qd
 v3:=jU
 t4:=oB
 a4:=Tryz.isAgg4
 z4:=Tryz.sizeOf4
 v4:=qI
 t5:=cM
 a5:=Tryz.isAgg5
 z5:=Tryz.sizeOf5
 v5:=Tryz.zeroValue5
 t9:=aD
 a9:=uy
 z9:=qe
 v9:=jV
 t21:=Tryz.underlying21
 a21:=Tryz.isAgg21
 z21:=Tryz.sizeOf21
 v21:=Tryz.zeroValue21
 t46:=Tryz.underlying183
 a46:=Tryz.isAgg183
 z46:=Tryz.sizeOf183
 v46:=Tryz.zeroValue183
 t105:=Tryz.underlying317
 a105:=Tryz.isAgg317
 z105:=Tryz.sizeOf317
 v105:=Tryz.zeroValue317
 t116:=Tryz.underlying282
 a116:=Tryz.isAgg282
 z116:=Tryz.sizeOf282
 t117:=Tryz.underlying283
 a117:=Tryz.isAgg283
 z117:=Tryz.sizeOf283
 v117:=Tryz.zeroValue283
 t119:=Tryz.underlying338
 a119:=Tryz.isAgg338
 z119:=Tryz.sizeOf338
 t124:=Tryz.underlying286
 a124:=Tryz.isAgg286
 z124:=Tryz.sizeOf286
 v124:=Tryz.zeroValue286
 t138:=Tryz.underlying340
 a138:=Tryz.isAgg340
 z138:=Tryz.sizeOf340
 v138:=Tryz.zeroValue340
 t139:=Tryz.underlying341
 a139:=Tryz.isAgg341
 z139:=Tryz.sizeOf341
 v139:=Tryz.zeroValue341
 g3:=by kernel_rfl
 g4:=by kernel_rfl}
end Go.Proofs
namespace Go.K
open Go.Proofs
set_option maxRecDepth 10000
open Go.RowKit Go.Shelf
def kS:List UInt8:=[97,98,99,100,101,102,103,104,105,106,107,108,109,110,111,112,113,114,115,116,117,118,119,120,121,122]
def gH (b:UInt8):Bool:=decide (97≤b.toNat∧b.toNat≤122)
def fC (s:List UInt8):Bool:=decide (1≤s.length∧s.length≤12)&&s.all gH
theorem AY (b:UInt8):kS.contains b=gH b:=by
 have key:∀n:Fin 256,kS.contains (UInt8.ofNat n)=gH (UInt8.ofNat n):=by decide
 have:=key ⟨b.toNat,UInt8.toNat_lt b⟩;simpa using this
theorem drop_nil {α:Type} (p:α→Bool):∀l:List α,l.dropWhile p=[]↔∀x∈l,p x=true
 |[]=>by simp
 |x::l=>by
  rw[List.dropWhile_cons];by_cases h:p x=true
  ·rw[if_pos h,drop_nil p l];simp[h]
  ·rw[if_neg h];simp[h]
theorem vG (s:List UInt8):Lib.trimS s kS=[]↔s.all gH=true:=by
 have e:(fun b=>kS.contains b)=gH:=funext AY;unfold Lib.trimS Lib.trimLeftS Lib.trimRightS;rw[e,drop_nil,cK];constructor
 ·intro h
  have h2:s.reverse.dropWhile gH=[]:=by
   cases hd:s.reverse.dropWhile gH with
   |nil=>rfl
   |cons x r=>
    have h3:=h x (by rw[hd];simp);have h4:=List.head?_dropWhile_not gH s.reverse;rw[hd]at h4;simp[h3]at h4
  intro x hx;exact(drop_nil _ _).1 h2 x (List.mem_reverse.2 hx)
 ·intro h x hx;rw[(drop_nil gH s.reverse).2 (fun y hy=>h y (List.mem_reverse.1 hy))]at hx
  cases hx
theorem E3 (s:List UInt8) (hs:s.length≤140737488355328) (w:World):Spec Tryz.prog 193 #[.string ⟨s.toArray⟩,.string ⟨kS.toArray⟩] w (fun v w'=>v= .string ⟨(Lib.trimS s kS).toArray⟩∧∀M,Step M w M w' aE):=
 (Any.strings_Trim_ascii Tryz.KC Tryz.zeroValue282 (by kernel_rfl) ⟨s.toArray⟩ ⟨kS.toArray⟩ w (by simp[ByteArray.size];omega) (by decide) (fun j b hj=>by
  have hm:b∈kS:=aG hj;have:=AY b;rw[eu.2 hm]at this;have h2:97≤b.toNat∧b.toNat≤122:=by simpa[gH]using this.symm
  omega)).mono fun e w' ⟨h1,h2⟩=>⟨_,h1,rfl,fun M=> .uW h2 M⟩
theorem E4 (s:List UInt8) (hs:s.length≤140737488355328) (w0:World):
  Spec Tryz.prog 151 #[.string ⟨s.toArray⟩] w0 (fun v w=>v= .bool (fC s)∧∀M,Step M w0 M w aE):=by
 refine bu (args:=[_]) (fn:=Tryz.f151) Tryz.func151 rfl (n:=15) Tryz.ntmps151 (al (aj (ak rfl rfl (ae (al (aj (ah rfl rfl (Rg.LI (p:=s) (q:=[]) rfl rfl rfl (ah rfl rfl ?_)))))))));refine aR (g:=5) rfl (fun ib=>?_) (fun ib=>?_)
 ·refine aq rfl rfl (ah rfl rfl (aq rfl rfl (Rg.mh aD rfl rfl (bO (v':= .int .i64 (s.length:Int)) (by simp[ByteArray.size]) (aq rfl rfl (fq rfl rfl rfl (aW rfl rfl rfl (ah rfl rfl ?_))))))));refine aR (g:=10) rfl (fun Zl=>?_) (fun Zl=>?_)
  ·refine aq rfl rfl (ah rfl rfl (aq rfl rfl ?_));refine aP rfl rfl XW (E3 s hs _) (fun r w9 hc=>?_);obtain⟨rfl,s9⟩:=hc;refine aq rfl rfl (Rg.qJ (p:=Lib.trimS s kS) (q:=[]) rfl rfl rfl (aW rfl rfl rfl (ak rfl rfl (ae (aQ ?_)))))
   first
   |exact aV rfl rfl ⟨by rw[fC,decide_eq_true (p:=1≤s.length∧s.length≤12) ⟨ij.2 ib,by omega⟩,fQ];exact congrArg Value.bool (by rw[Bool.eq_iff_iff,decide_eq_true_eq];exact vG s),s9⟩
   |exact aV rfl rfl ⟨by rw[fC,decide_eq_false (p:=1≤s.length∧s.length≤12) (by omega),Bool.false_and],fun M=>ar _ _⟩
   |(have Tj:s=[]:=Classical.not_not.1 ib
     subst Tj;exact aV rfl rfl ⟨rfl,fun M=>ar _ _⟩)
  ·refine au rfl rfl rfl rfl (au rfl rfl rfl rfl (au rfl rfl rfl rfl (aJ rfl rfl rfl (ak rfl rfl (ae (aQ ?_))))))
   first
   |exact aV rfl rfl ⟨by rw[fC,decide_eq_true (p:=1≤s.length∧s.length≤12) ⟨ij.2 ib,by omega⟩,fQ];exact congrArg Value.bool (by rw[Bool.eq_iff_iff,decide_eq_true_eq];exact vG s),s9⟩
   |exact aV rfl rfl ⟨by rw[fC,decide_eq_false (p:=1≤s.length∧s.length≤12) (by omega),Bool.false_and],fun M=>ar _ _⟩
   |(have Tj:s=[]:=Classical.not_not.1 ib
     subst Tj;exact aV rfl rfl ⟨rfl,fun M=>ar _ _⟩)
 ·refine au rfl rfl rfl rfl (au rfl rfl rfl rfl (au rfl rfl rfl rfl (aJ rfl rfl rfl (ah rfl rfl (au rfl rfl rfl rfl (au rfl rfl rfl rfl (au rfl rfl rfl rfl (aJ rfl rfl rfl (ak rfl rfl (ae (aQ ?_)))))))))))
  first
  |exact aV rfl rfl ⟨by rw[fC,decide_eq_true (p:=1≤s.length∧s.length≤12) ⟨ij.2 ib,by omega⟩,fQ];exact congrArg Value.bool (by rw[Bool.eq_iff_iff,decide_eq_true_eq];exact vG s),s9⟩
  |exact aV rfl rfl ⟨by rw[fC,decide_eq_false (p:=1≤s.length∧s.length≤12) (by omega),Bool.false_and],fun M=>ar _ _⟩
  |(have Tj:s=[]:=Classical.not_not.1 ib
    subst Tj;exact aV rfl rfl ⟨rfl,fun M=>ar _ _⟩)
theorem Hq {s:List UInt8} (h:∀(k:Nat) c,s[k]? =some c→gH c=true):s.all gH=true:=cK.2 fun c hc=>by
 obtain⟨k,hk⟩:=bN.1 hc;exact h k c hk
theorem rh {s:List UInt8} {i:Nat} (h:i<s.length):s[i]? =some (s.getD i 0):=by rw[cZ,av h];rfl
theorem gN {M:aL} {w:World} {p:Fd} {v:Value} (h:RT.fd.V M w p v):v= .agg #[.string ⟨p.1.toArray⟩,.string ⟨p.2.toArray⟩]:=by
 obtain⟨vs,⟨va,vb,rfl,⟨rfl,_⟩,⟨rfl,_⟩⟩,rfl⟩:=h;rfl
theorem zg {M:aL} {w:World} {p:Fd} {v:Value} (h:RT.fd.V M w p v):p.1.length≤140737488355328∧p.2.length≤140737488355328:=by
 obtain⟨vs,⟨va,vb,rfl,⟨rfl,h1⟩,⟨rfl,h2⟩⟩,_⟩:=h;exact⟨h1,h2⟩
def vH:List Fd→List Fd→Nat→Int
 |_,[],n=>if 500<n then 7 else 0
 |seen,f::fs,n=>if fC f.1=false then 4 else if(seen.any fun g=>decide (g.1=f.1))=true then 5 else if lH 0 (words f.2)≠0 then lH 0 (words f.2)else vH (seen++[f]) fs (n+(words f.2).length)
def mq (d:Dc):Int:=if 8<d.2.length then 7 else vH [] d.2 0
theorem DZ {fs:List Fd} {i n:Nat} {x:Fd} (h:fs[i]? =some x):vH (fs.take i) (fs.drop i) n=if fC x.1=false then 4 else if((fs.take i).any fun g=>decide (g.1=x.1))=true then 5 else if lH 0 (words x.2)≠0 then lH 0 (words x.2)else vH (fs.take (i+1)) (fs.drop (i+1)) (n+(words x.2).length):=by
 have dW:=(aw.1 h).1;rw[eB dW,(aw.1 h).2,bP,h];rfl
theorem ri {fs:List Fd} {i n:Nat} (h:fs.length≤i):vH (fs.take i) (fs.drop i) n=if 500<n then 7 else 0:=by
 rw[kC h];rfl
theorem vI (s:List UInt8) (hs:s.length≤140737488355328) (w0:World):
  Spec Tryz.prog 116 #[.string ⟨s.toArray⟩] w0 (fun v w=>v= .bool (fC s)∧w=w0):=by
 refine bu (args:=[_]) (fn:=Tryz.f116) Tryz.func116 rfl (n:=28) Tryz.ntmps116 (al (aj (ak rfl rfl (ae (al (al (aj (ak rfl rfl (ae (bh ?_))))))))));refine dz (σ:=Nat) (fun i=>[(0,.string ⟨s.toArray⟩),(3,.int .i64 (i:Int))]) (fun i w=>w=w0∧i≤s.length∧∀k c,k<i→s[k]? =some c→gH c=true) (fun i=>s.length-i) 0 (.cons rfl (.cons rfl .nil)) ?_ ?_
 ·exact⟨rfl,bH _,fun k c h=>absurd h (jn k)⟩
 ·rintro i w ⟨rfl,hi,hok⟩;refine al (al (aj (ah rfl rfl (ah rfl rfl (Rg.mh aD rfl rfl (bO (v':= .int .i64 (s.length:Int)) (by simp[ByteArray.size]) (cz rfl rfl rfl (ae ?_))))))));refine bQ rfl (fun c2=>?_) (fun c2=>?_)
  ·refine aZ (al (bh (al (aj (ah rfl rfl (ah rfl rfl (Rg.DT (c:=s.getD i 0) aD rfl rfl rfl (by omega) (by rw[aC];exact rh (by omega)) (cz rfl rfl rfl (ah rfl rfl ?_)))))))));refine aR (g:=14) rfl (fun Zm=>?_) (fun Zm=>?_)
   ·refine au rfl rfl rfl rfl (au rfl rfl rfl rfl (au rfl rfl rfl rfl (au rfl rfl rfl rfl (aW rfl rfl rfl (ae (kW rfl (al (aj (ak rfl rfl (ae (aQ ?_)))))))))))
    have hx:s.all gH=false:=eQ.2 fun h=>by
     have h2:=cK.1 h _ (aG (rh (s:=s) (i:=i) (by omega)));simp only[gH,decide_eq_true_eq]at h2;omega
    exact aV rfl rfl ⟨by rw[fC,hx,Bool.and_false],rfl⟩
   ·refine aq rfl rfl (ah rfl rfl (aq rfl rfl (ah rfl rfl (aq rfl rfl (Rg.DT (c:=s.getD i 0) aD rfl rfl rfl (by omega) (by rw[aC];exact rh (by omega)) (aq rfl rfl (lW rfl rfl rfl (aJ rfl rfl rfl (ae ?_)))))))));refine bQ rfl (fun c4=>?_) (fun c4=>?_)
    ·refine al (aj (ak rfl rfl (ae (aQ ?_))))
     have hx:s.all gH=false:=eQ.2 fun h=>by
      have h2:=cK.1 h _ (aG (rh (s:=s) (i:=i) (by omega)));simp only[gH,decide_eq_true_eq]at h2;omega
     exact aV rfl rfl ⟨by rw[fC,hx,Bool.and_false],rfl⟩
    ·refine aZ (aj (ah rfl rfl (bI rfl rfl rfl (by omega) (ak rfl rfl (ae ?_)))));refine⟨rfl,i+1,(.cons rfl (.cons rfl .nil)),?_,?_⟩
     ·exact⟨rfl,by omega,fun k c h hc=>by
       rcases db k i with h2|h2
       ·exact hok k c h2 hc
       ·obtain rfl:k=i:=by omega
        rw[rh (by omega)]at hc;cases hc;simp only[gH,decide_eq_true_eq];omega⟩
     ·omega
  ·refine cY (al (aj (ah rfl rfl (Rg.mh aD rfl rfl (bO (v':= .int .i64 (s.length:Int)) (by simp[ByteArray.size]) (ek rfl rfl rfl (ah rfl rfl ?_)))))));refine aR (g:=23) rfl (fun oh=>?_) (fun oh=>?_)
   ·refine aq rfl rfl (ah rfl rfl (aq rfl rfl (Rg.mh aD rfl rfl (bO (v':= .int .i64 (s.length:Int)) (by simp[ByteArray.size]) (aq rfl rfl (fq rfl rfl rfl (aW rfl rfl rfl (ak rfl rfl (ae (aQ ?_))))))))));have ha:s.all gH=true:=Hq fun k c hc=>hok k c (by have:=(aw.1 hc).1;omega) hc
    first
    |exact aV rfl rfl ⟨by rw[fC,ha,Bool.and_true];exact congrArg Value.bool (decide_eq_decide.2 (by omega)),rfl⟩
    |exact aV rfl rfl ⟨by rw[fC,ha,Bool.and_true];exact congrArg Value.bool (decide_eq_false (by omega)).symm,rfl⟩
   ·refine au rfl rfl rfl rfl (au rfl rfl rfl rfl (au rfl rfl rfl rfl (aJ rfl rfl rfl (ak rfl rfl (ae (aQ ?_))))));have ha:s.all gH=true:=Hq fun k c hc=>hok k c (by have:=(aw.1 hc).1;omega) hc
    first
    |exact aV rfl rfl ⟨by rw[fC,ha,Bool.and_true];exact congrArg Value.bool (decide_eq_decide.2 (by omega)),rfl⟩
    |exact aV rfl rfl ⟨by rw[fC,ha,Bool.and_true];exact congrArg Value.bool (decide_eq_false (by omega)).symm,rfl⟩
theorem E5 {M:aL} {o:Fd} {v0:Value} (w0:World) (hM:Lt M w0) (hv:RT.fd.V M w0 o v0) {nm:List UInt8} {t:Value} {bf:Nat} (g:w0.heap[bf]? =some (.cells #[.string ⟨nm.toArray⟩,t] 127 (0,0))) (x8:M bf):
  Spec Tryz.prog 153 #[v0,.pointer (some ⟨bf,0,none⟩)] w0 (fun v w=>v= .bool (decide (o.1=nm))∧Step M w0 M w aE):=by
 refine bu (args:=[_,_]) (fn:=Tryz.f153) Tryz.func153 rfl (n:=9) Tryz.ntmps153 ?_;have S:Step M w0 M w0 aE:=(ar _ _).cw (fun _ h=>h.elim) (fun _ h=>h.elim);refine al (aj ?_);refine Rg.iM (A:=RT.fd) rfl rfl hM hv rfl (fun u0 w1 cV s0 _=>?_);have:=an g;replace x8:=(s0.mem _ this).2 x8;replace g:=s0.aM g;replace hM:=s0.lt hM;have:=S.size;replace S:=S.aB s0;refine ak rfl rfl (ae (al (aj ?_)));refine ay (M:=M) (A:=RT.fd) (B:=RT.str) ca rfl rfl I9 (by decide) (E2) rfl rfl (by decide) (by assumption) (by repeat (first|exact ao _ _|refine aU (br (by assumption)) ?_)) (fun tU jw=>?_);refine bg (M:=M) aD rfl rfl rfl rfl rfl jw (ao _ _) (fun v1 tu=>?_);obtain rfl:=dP tu;refine bz (o':=0) ca rfl rfl I9 (by decide) rfl rfl (aX aD rfl rfl rfl (by assumption) rfl (Rg.qJ (p:=o.1) (q:=nm) rfl rfl rfl (ak rfl rfl (ae (aQ ?_)))));exact aV rfl rfl ⟨rfl,S⟩
theorem CF {M:aL} {fs:List Fd} {v0:Value} (w0:World) (hM:Lt M w0) (hv:(RT.fd.sl).V M w0 fs v0) {nm:List UInt8} {t:Value} {bf:Nat} (g:w0.heap[bf]? =some (.cells #[.string ⟨nm.toArray⟩,t] 127 (0,0))) (x8:M bf):
  Spec Tryz.prog 194 #[v0,.func (.func 153) #[] #[.pointer (some ⟨bf,0,none⟩)]] w0 (fun v w=>(∃k:Int,v= .int .i64 k∧(0≤k↔(fs.any fun g=>decide (g.1=nm))=true)∧ -1≤k∧k≤9223372036854775807)∧Step M w0 M w aE):=by
 have DH:=dK hv;refine bu (args:=[_,_]) (fn:=Tryz.f194) Tryz.func194 rfl (n:=19) Tryz.ntmps194 ?_;have S:Step M w0 M w0 aE:=(ar _ _).cw (fun _ h=>h.elim) (fun _ h=>h.elim);refine al (aj (ak rfl rfl (ae (al (al (aj (ah rfl rfl (bK aS rfl hv rfl (ah rfl rfl (ae (bh ?_)))))))))));refine dz (σ:=Nat) (fun i=>[(0,v0),(1,.func (.func 153) #[] #[.pointer (some ⟨bf,0,none⟩)]),(6,v0),(7,.int .i64 (fs.length:Int)),(8,.int .i64 (i:Int))]) (fun i w=>Lt M w∧Step M w0 M w aE∧(w.heap[bf]? =some (.cells #[.string ⟨nm.toArray⟩,t] 127 (0,0)))∧(RT.fd.sl).V M w fs v0∧i≤fs.length∧∀k o,k<i→fs[k]? =some o→o.1≠nm) (fun i=>fs.length-i) 0 (.cons rfl (.cons rfl (.cons rfl (.cons rfl (.cons rfl .nil))))) ?_ ?_
 ·exact⟨hM,S,g,hv,bH _,fun k c h=>absurd h (jn k)⟩
 ·rintro i w ⟨hM,S,g,hv,hi,hok⟩;refine al (aj (cz rfl rfl rfl (ae (al ?_))));refine bQ rfl (fun c2=>?_) (fun c2=>?_)
  ·refine aZ (al (bh (al (aj (ah rfl rfl (ak rfl rfl (ae (al (aj (ah rfl rfl (ah rfl rfl ?_)))))))))));refine ah rfl rfl ?_;refine cu (M:=M) aS iK rfl rfl rfl hv (ao _ _) (by omega) (fun u4 o zT hY=>?_);refine ch (M:=M) (A:=RT.fd) ca rfl iK (by decide) rfl rfl rfl hY (ao _ _) (fun v4 nX=>?_);rw[aC]at zT;refine Rg.qK (first:=[]) (captured:=[.pointer (some ⟨bf,0,none⟩)]) rfl rfl rfl XM (E5 _ hM nX g x8) (fun r5 w5 hc=>?_);obtain⟨rfl,s5⟩:=hc;have:=an g;replace x8:=(s5.mem _ this).2 x8;replace g:=s5.aM g;replace hv:=hv.le s5.le;replace hM:=s5.lt hM;have:=S.size;replace S:=S.aB s5;refine ae ?_;refine bQ rfl (fun c4=>?_) (fun c4=>?_)
   ·refine al (aj (ah rfl rfl (ak rfl rfl (ae (aQ ?_)))));exact aV rfl rfl ⟨⟨_,rfl,⟨fun _=>rS.2 ⟨o,aG zT,by simpa using(by assumption)⟩,fun _=>by omega⟩,by omega,by omega⟩,S.back⟩
   ·refine aZ (aj (bI rfl rfl rfl (by omega) (ah rfl rfl (ae ?_))));refine⟨rfl,i+1,(.cons rfl (.cons rfl (.cons rfl (.cons rfl (.cons rfl .nil))))),?_,?_⟩
    ·exact⟨hM,S,g,hv,by omega,fun k o' h hc=>by
      rcases db k i with h2|h2
      ·exact hok k o' h2 hc
      ·obtain rfl:k=i:=by omega
       rw[zT]at hc;cases hc;assumption⟩
    ·omega
  ·refine cY (al (aj (ak rfl rfl (ae (aQ ?_)))))
   exact aV rfl rfl ⟨⟨-1,rfl,⟨fun h=>by omega,fun h=>by
    obtain⟨o,ho,he⟩:=rS.1 h;obtain⟨k,hk⟩:=bN.1 ho;exact absurd (by simpa using he) (hok k o (by have:=(aw.1 hk).1;omega) hk)⟩,by omega,by omega⟩,S.back⟩
theorem AZ {M:aL} {fs:List Fd} {v0:Value} (w0:World) (hM:Lt M w0) (hv:(RT.fd.sl).V M w0 fs v0) {nm:List UInt8} {t:Value} {bf:Nat} (g:w0.heap[bf]? =some (.cells #[.string ⟨nm.toArray⟩,t] 127 (0,0))) (x8:M bf):
  Spec Tryz.prog 152 #[v0,.func (.func 153) #[] #[.pointer (some ⟨bf,0,none⟩)]] w0 (fun v w=>v= .bool (fs.any fun g=>decide (g.1=nm))∧Step M w0 M w aE):=by
 refine bu (args:=[_,_]) (fn:=Tryz.f152) Tryz.func152 rfl (n:=9) Tryz.ntmps152 ?_;have S:Step M w0 M w0 aE:=(ar _ _).cw (fun _ h=>h.elim) (fun _ h=>h.elim);refine al (aj (ak rfl rfl (ae (al (aj (ah rfl rfl (ah rfl rfl ?_)))))));refine aP rfl rfl XX (CF _ hM hv g x8) (fun r1 w1 hc=>?_);obtain⟨⟨k,rfl,hk,_⟩,s1⟩:=hc;have:=an g;replace x8:=(s1.mem _ this).2 x8;replace g:=s1.aM g;replace hv:=hv.le s1.le;replace hM:=s1.lt hM;have:=S.size;replace S:=S.aB s1;refine ek rfl rfl rfl (ak rfl rfl (ae (aQ ?_)));exact aV rfl rfl ⟨congrArg Value.bool (by rw[Bool.eq_iff_iff,decide_eq_true_eq];exact hk),S⟩
theorem Hr {M:aL} {d:Dc} {v0:Value} (w0:World) (hM:Lt M w0) (hv:RT.dc.V M w0 d v0) (hl:∀f∈d.2,f.1.length≤900000∧f.2.length≤900000):
  Spec Tryz.prog 107 #[v0] w0 (fun v w=>v= .int .i64 (mq d)∧Step M w0 M w aE):=by
 have gB:=hM;refine bu (args:=[_]) (fn:=Tryz.f107) Tryz.func107 rfl (n:=49) Tryz.ntmps107 ?_;have S:Step M w0 M w0 aE:=(ar _ _).cw (fun _ h=>h.elim) (fun _ h=>h.elim);refine al (aj ?_);refine Rg.iM (A:=RT.dc) rfl rfl hM hv rfl (fun u0 w1 cV s0 _=>?_);replace hM:=s0.lt hM;have:=S.size;replace S:=S.aB s0;refine ak rfl rfl (ae (al (al (aj ?_))));refine ay (M:=M) (A:=RT.dc) (B:=(RT.fd).sl) aO rfl rfl pG (by decide) (zf) rfl rfl (by decide) (by assumption) (by repeat (first|exact ao _ _|refine aU (br (by assumption)) ?_)) (fun tU jw=>?_);refine bg (M:=M) aS rfl rfl rfl rfl rfl (by assumption) (by repeat (first|exact ao _ _|refine aU (br (by assumption)) ?_)) (fun xq l8=>?_);refine bK aS rfl l8 rfl (lW rfl rfl rfl (ae ?_));refine bQ rfl (fun c1=>?_) (fun c1=>?_)
 ·refine al (aj (ak rfl rfl (ae (aQ ?_))));exact aV rfl rfl ⟨by rw[mq,if_pos (by omega)],S.back⟩
 ·refine aZ (al (aj (ak rfl rfl (ae (al (al (aj ?_)))))));refine ay (M:=M) (A:=RT.dc) (B:=(RT.fd).sl) aO rfl rfl pG (by decide) (zf) rfl rfl (by decide) (by assumption) (by repeat (first|exact ao _ _|refine aU (br (by assumption)) ?_)) (fun Kg AG=>?_);refine bg (M:=M) aS rfl rfl rfl rfl rfl (by assumption) (by repeat (first|exact ao _ _|refine aU (br (by assumption)) ?_)) (fun Kh DP=>?_);refine bK aS rfl DP rfl (ah rfl rfl (ae (bh ?_)));refine dz (σ:=Nat×Nat) (fun q=>[(1,u0),(3,.int .i64 (q.2:Int)),(13,Kh),(14,.int .i64 (d.2.length:Int)),(15,.int .i64 (q.1:Int))]) (fun q w=>∃M',Lt M' w∧Step M w0 M' w aE∧cc RT.dc M' w u0 d∧(RT.fd.sl).V M' w d.2 Kh∧mq d=vH (d.2.take q.1) (d.2.drop q.1) q.2∧q.1≤d.2.length∧q.2≤900001*q.1) (fun q=>d.2.length-q.1) (0,0) (.cons rfl (.cons rfl (.cons rfl (.cons rfl (.cons rfl .nil))))) ?_ ?_
  ·exact⟨M,hM,S,cV,DP,by rw[mq,if_neg (by omega)];rfl,bH _,aT _⟩
  ·rintro⟨i,n⟩ w ⟨M1,hM,S,cV,oe,CG,hi,hn⟩;dsimp only at CG hi hn ⊢;refine al (aj (cz rfl rfl rfl (ae (al ?_))));refine bQ rfl (fun c5=>?_) (fun c5=>?_)
   ·refine aZ (al (bh (al (aj (ah rfl rfl ?_)))));refine cu (M:=M1) aS iK rfl rfl rfl oe (ao _ _) (by omega) (fun u6 x FR KA=>?_);refine ch (M:=M1) (A:=RT.fd) ca rfl iK (by decide) rfl rfl rfl KA (ao _ _) (fun v6 oI=>?_);rw[aC]at FR;obtain rfl:=gN oI;have km:=DZ (n:=n) FR;have yI:=hl _ (aG FR);refine eG M1 iK rfl (fun OA Tk aik ail oh xr=>?_);obtain⟨A0,Hs⟩:∃M',M'=ins M1 OA:=⟨_,rfl⟩;rw[←Hs]at xr;have lI:A0 OA:=by rw[Hs];exact .inl rfl
    change Tk.heap[OA]? =some (.cells #[.string ⟨#[]⟩,.string ⟨#[]⟩] _ _)at oh;replace cV:=cV.le (by decide) xr.le;replace oe:=oe.le xr.le;replace hM:=xr.lt hM;have:=S.size;replace S:=S.aB xr;refine ak rfl rfl ?_;refine eD (M:=A0) (vs:=[.string ⟨x.1.toArray⟩,.string ⟨x.2.toArray⟩]) iK rfl rfl (by intro u hu;simp at hu;rcases hu with rfl|rfl<;>rfl) rfl rfl oh lI (fun w6 g6 s6=>?_);have:=an oh;replace lI:=(s6.mem _ this).2 lI;replace cV:=cV.le (by decide) s6.le;replace oe:=oe.le s6.le;replace hM:=s6.lt hM;have:=S.size;replace S:=S.trans s6 (fun k hk h=>by have h:_=_:=h;subst h;first|(exfalso;omega)|(show _≤_;omega)|exact⟨by first|omega|assumption,(S.mem _ hk).1 ((s6.mem _ (an oh)).1 lI)⟩|exact .inl rfl|exact .inr rfl|exact .inr (.inl rfl)|exact .inr (.inr rfl)|exact rfl);have Mf:=g6;clear oh;have oh:=Mf;clear Mf;refine ae (al (aj (bz (o':=1) ca rfl rfl I9 (by decide) rfl rfl (aX aD rfl rfl rfl (by assumption) rfl ?_))));refine aP rfl rfl XJ (E1 _ hM yI.2) (fun r7 w7 hc=>?_);obtain⟨⟨u7,rfl,hu7⟩,s7⟩:=hc;have:=an oh;replace lI:=(s7.mem _ this).2 lI;replace oh:=s7.aM oh;replace cV:=cV.le (by decide) s7.le;replace oe:=oe.le s7.le;replace hM:=s7.lt hM;have:=S.size;replace S:=S.aB s7;refine ah rfl rfl (bZ rfl rfl rfl (bZ rfl rfl rfl (ak rfl rfl (ak rfl rfl (ae (al (bh (al (aj (bz (o':=0) ca rfl rfl I9 (by decide) rfl rfl (aX aD rfl rfl rfl (by assumption) rfl ?_)))))))))));refine aP rfl rfl XK (E4 x.1 (by omega) _) (fun r8 w8 hc=>?_);obtain⟨rfl,s8_⟩:=hc;have s8:=s8_ A0;have:=an oh;replace lI:=(s8.mem _ this).2 lI;replace oh:=s8.aM oh;replace cV:=cV.le (by decide) s8.le;replace oe:=oe.le s8.le;replace hM:=s8.lt hM;have:=S.size;replace S:=S.aB s8
    refine jN rfl rfl (bO (v':= .bool (decide (fC x.1=false))) (by cases fC x.1<;>rfl) (ak rfl rfl (ae ?_)));refine bQ rfl (fun c8=>?_) (fun c8=>?_)
    ·refine al (aj (ak rfl rfl (ae (aQ ?_))));exact aV rfl rfl ⟨by rw[CG,km,if_pos (by assumption)],S.back⟩
    ·refine al (aj ?_);refine ay (M:=A0) (A:=RT.dc) (B:=(RT.fd).sl) aO rfl rfl pG (by decide) (zf) rfl rfl (by decide) (by assumption) (by repeat (first|exact ao _ _|refine aU (br (by assumption)) ?_)) (fun Tl OB=>?_);refine bg (M:=A0) aS rfl rfl rfl rfl rfl (by assumption) (by repeat (first|exact ao _ _|refine aU (br (by assumption)) ?_)) (fun Tn Ht=>?_);refine ah rfl rfl ?_;refine Rg.qN aS iK rfl rfl rfl Ht (by omega) (fun QQ E6=>?_);rw[aC]at E6;refine jF (xs:=[]) (ys:=[.tmp 5]) rfl rfl rfl ?_;refine aP rfl rfl XL (AZ _ hM E6 oh lI) (fun r10 Zn hc=>?_);obtain⟨rfl,rj⟩:=hc;have:=an oh;replace lI:=(rj.mem _ this).2 lI;replace oh:=rj.aM oh;replace cV:=cV.le (by decide) rj.le;replace oe:=oe.le rj.le;replace hM:=rj.lt hM;have:=S.size;replace S:=S.aB rj;refine ak rfl rfl (bO (v':= .bool (decide (((d.2.take i).any fun g=>decide (g.1=x.1))=true))) (by cases((d.2.take i).any fun g=>decide (g.1=x.1))<;>rfl) (ae ?_));refine bQ rfl (fun Kv=>?_) (fun Kv=>?_)
     ·refine al (aj (ak rfl rfl (ae (aQ ?_))));exact aV rfl rfl ⟨by rw[CG,km,if_neg (by assumption),if_pos (by assumption)],S.back⟩
     ·refine al (aj (ah rfl rfl (eS rfl rfl rfl (ak rfl rfl (ae ?_)))));refine bQ rfl (fun SN=>?_) (fun SN=>?_)
      ·refine al (aj (ah rfl rfl (ak rfl rfl (ae (aQ ?_)))));exact aV rfl rfl ⟨by rw[CG,km,if_neg (by assumption),if_neg (by assumption),if_pos (by assumption)];rfl,S.back⟩
      ·refine aZ (aj (ah rfl rfl ?_));have Sw:lH 0 (words x.2)=0:=Classical.not_not.1 SN;obtain⟨a,cap,rfl⟩:=hu7 Sw;have WI:=k3 x.2;refine ah rfl rfl (Rg.G1 Tryz.underlying222 rfl rfl (bI rfl rfl rfl (by omega) (ak rfl rfl (ae (aj (bI rfl rfl rfl (by omega) (ah rfl rfl (ae ?_))))))));refine⟨rfl,(i+1,n+(words x.2).length),(.cons rfl (.cons rfl (.cons rfl (.cons rfl (.cons rfl .nil))))),?_,?_⟩
       ·exact⟨_,hM,S,cV,oe,by rw[CG,km,if_neg (by assumption),if_neg (by assumption),if_neg SN],by dsimp only;omega,by dsimp only;omega⟩
       ·dsimp only;omega
   ·refine cY (al (al (aj (ah rfl rfl (lW rfl rfl rfl (ae ?_))))));refine bQ rfl (fun QR=>?_) (fun QR=>?_)
    ·refine al (aj (ak rfl rfl (ae (aQ ?_))));exact aV rfl rfl ⟨by rw[CG,ri (by omega),if_pos (by omega)],S.back⟩
    ·refine aZ (al (aj (ak rfl rfl (ae (aQ ?_)))));exact aV rfl rfl ⟨by rw[CG,ri (by omega),if_neg (by omega)],S.back⟩
end Go.K
namespace Go.K
open Go.Proofs
set_option maxRecDepth 10000
theorem x9 {M:aL} {d:Dc} {v0:Value} (w0:World) (hM:Lt M w0) (hv:RT.dc.V M w0 d v0) (hl:∀f∈d.2,f.1.length≤900000∧f.2.length≤900000):
  Spec Tryz.prog 117 #[v0] w0 (fun v w=>v= .int .i64 (mq d)∧Step M w0 M w aE):=by
 have gB:=hM;refine bu (args:=[_]) (fn:=Tryz.f117) Tryz.func117 rfl (n:=66) Tryz.ntmps117 ?_;have S:Step M w0 M w0 aE:=(ar _ _).cw (fun _ h=>h.elim) (fun _ h=>h.elim);refine al (aj ?_);refine Rg.iM (A:=RT.dc) rfl rfl hM hv rfl (fun u0 w1 cV s0 _=>?_);replace hM:=s0.lt hM;have:=S.size;replace S:=S.aB s0;refine ak rfl rfl (ae (al (al (aj ?_))));refine ay (M:=M) (A:=RT.dc) (B:=(RT.fd).sl) aO rfl rfl pG (by decide) (zf) rfl rfl (by decide) (by assumption) (by repeat (first|exact ao _ _|refine aU (br (by assumption)) ?_)) (fun tU jw=>?_);refine bg (M:=M) aS rfl rfl rfl rfl rfl (by assumption) (by repeat (first|exact ao _ _|refine aU (br (by assumption)) ?_)) (fun xq l8=>?_);refine bK aS rfl l8 rfl (lW rfl rfl rfl (ae ?_));refine bQ rfl (fun c1=>?_) (fun c1=>?_)
 ·refine al (aj (ak rfl rfl (ae (aQ ?_))));exact aV rfl rfl ⟨by rw[mq,if_pos (by omega)],S.back⟩
 ·refine aZ (al (aj (ak rfl rfl (ae (al (al (aj (ak rfl rfl (ae (bh ?_))))))))));refine dz (σ:=Nat×Nat) (fun q=>[(1,u0),(3,.int .i64 (q.2:Int)),(4,.int .i64 (q.1:Int))]) (fun q w=>Lt M w∧Step M w0 M w aE∧cc RT.dc M w u0 d∧mq d=vH (d.2.take q.1) (d.2.drop q.1) q.2∧q.1≤d.2.length∧q.2≤900001*q.1∧d.2.length≤8) (fun q=>d.2.length-q.1) (0,0) (.cons rfl (.cons rfl (.cons rfl .nil))) ?_ ?_
  ·exact⟨hM,S,cV,by rw[mq,if_neg (by omega)];rfl,bH _,aT _,by omega⟩
  ·rintro⟨i,n⟩ w ⟨hM,S,cV,CG,hi,hn,WK⟩;dsimp only at CG hi hn ⊢;refine al (al (aj (ah rfl rfl ?_)));refine ay (M:=M) (A:=RT.dc) (B:=(RT.fd).sl) aO rfl rfl pG (by decide) (zf) rfl rfl (by decide) (by assumption) (by repeat (first|exact ao _ _|refine aU (br (by assumption)) ?_)) (fun St GW=>?_);refine bg (M:=M) aS rfl rfl rfl rfl rfl (by assumption) (by repeat (first|exact ao _ _|refine aU (br (by assumption)) ?_)) (fun YJ L4=>?_);refine bK aS rfl L4 rfl (cz rfl rfl rfl (ae ?_));refine bQ rfl (fun c5=>?_) (fun c5=>?_)
   ·refine aZ (al (bh (al (aj ?_))));refine ay (M:=M) (A:=RT.dc) (B:=(RT.fd).sl) aO rfl rfl pG (by decide) (zf) rfl rfl (by decide) (by assumption) (by repeat (first|exact ao _ _|refine aU (br (by assumption)) ?_)) (fun To D0=>?_);refine bg (M:=M) aS rfl rfl rfl rfl rfl (by assumption) (by repeat (first|exact ao _ _|refine aU (br (by assumption)) ?_)) (fun Zo Mg=>?_);refine ah rfl rfl ?_;refine cu (M:=M) aS iK rfl rfl rfl Mg (ao _ _) (by omega) (fun Tp x A1 aeH=>?_);rw[aC]at A1;refine ay (M:=M) (A:=RT.fd) (B:=RT.str) ca rfl rfl I9 (by decide) (E2) rfl rfl (by decide) (by assumption) (by repeat (first|exact ao _ _|refine aU (br (by assumption)) ?_)) (fun Tq Mh=>?_);refine bg (M:=M) aD rfl rfl rfl rfl rfl Mh (ao _ _) (fun aio Tr=>?_);obtain rfl:=dP Tr;have km:=DZ (n:=n) A1;have yI:=hl _ (aG A1);refine aP rfl rfl RA (vI x.1 (by omega) _) (fun r7 w7 hc=>?_);obtain⟨rfl,rfl⟩:=hc;refine ak rfl rfl (ae (al (al (aj (ah rfl rfl (jN rfl rfl (bO (v':= .bool (decide (fC x.1=false))) (by cases fC x.1<;>rfl) (ae ?_))))))));refine bQ rfl (fun c8=>?_) (fun c8=>?_)
    ·refine al (aj (ak rfl rfl (ae (aQ ?_))));exact aV rfl rfl ⟨by rw[CG,km,if_pos (by assumption)],S.back⟩
    ·refine aZ (al (al (aj (ak rfl rfl (ae (bh ?_))))));refine dz (σ:=Nat) (fun j=>[(1,u0),(3,.int .i64 (n:Int)),(4,.int .i64 (i:Int)),(6,.int .i64 (j:Int))]) (fun j w=>Lt M w∧Step M w0 M w aE∧cc RT.dc M w u0 d∧j≤i∧∀k y,k<j→d.2[k]? =some y→y.1≠x.1) (fun j=>i-j) 0 (.cons rfl (.cons rfl (.cons rfl (.cons rfl .nil)))) ?_ ?_
     ·exact⟨hM,S,cV,bH _,fun k c h=>absurd h (jn k)⟩
     ·rintro j w ⟨hM,S,cV,hj,jQ⟩;refine al (al (aj (ah rfl rfl (ah rfl rfl (cz rfl rfl rfl (ae ?_))))));refine bQ rfl (fun SC=>?_) (fun SC=>?_)
      ·refine aZ (al (bh (al ?_)));apply T.jh mixed rfl rfl;intro OC OD;have nB:=OD M;replace cV:=cV.le (by decide) nB.le;replace hM:=nB.lt hM;have:=S.size;replace S:=S.aB nB;refine ay (M:=M) (A:=RT.dc) (B:=(RT.fd).sl) aO rfl rfl pG (by decide) (zf) rfl rfl (by decide) (by assumption) (by repeat (first|exact ao _ _|refine aU (br (by assumption)) ?_)) (fun aeI Zp=>?_);refine ae ⟨rfl,rfl,rfl,?_⟩;refine bg (M:=M) aS rfl rfl rfl rfl rfl (by assumption) (by repeat (first|exact ao _ _|refine aU (br (by assumption)) ?_)) (fun aeJ OE=>?_);refine ae ⟨rfl,rfl,rfl,?_⟩;refine ah rfl rfl ?_;refine ae ⟨rfl,rfl,rfl,?_⟩;refine cu (M:=M) aS iK rfl rfl rfl OE (ao _ _) (by omega) (fun Mi y CH fA=>?_);rw[aC]at CH;refine ae ⟨rfl,rfl,rfl,?_⟩;refine ay (M:=M) (A:=RT.fd) (B:=RT.str) ca rfl rfl I9 (by decide) (E2) rfl rfl (by decide) (by assumption) (by repeat (first|exact ao _ _|refine aU (br (by assumption)) ?_)) (fun fD OF=>?_);refine ae ⟨rfl,rfl,rfl,?_⟩;refine bg (M:=M) aD rfl rfl rfl rfl rfl OF (ao _ _) (fun Mj zh=>?_);obtain rfl:=dP zh;refine ae ⟨rfl,rfl,rfl,?_⟩;refine ay (M:=M) (A:=RT.dc) (B:=(RT.fd).sl) aO rfl rfl pG (by decide) (zf) rfl rfl (by decide) (by assumption) (by repeat (first|exact ao _ _|refine aU (br (by assumption)) ?_)) (fun Mk Hu=>?_);refine ae ⟨rfl,rfl,rfl,?_⟩;refine bg (M:=M) aS rfl rfl rfl rfl rfl (by assumption) (by repeat (first|exact ao _ _|refine aU (br (by assumption)) ?_)) (fun aeK OG=>?_);refine ae ⟨rfl,rfl,rfl,?_⟩;refine ah rfl rfl ?_;refine ae ⟨rfl,rfl,rfl,?_⟩;refine cu (M:=M) aS iK rfl rfl rfl OG (ao _ _) (by omega) (fun aeL z Hv Zq=>?_)
       rw[aC]at Hv;refine ae ⟨rfl,rfl,rfl,?_⟩;refine ay (M:=M) (A:=RT.fd) (B:=RT.str) ca rfl rfl I9 (by decide) (E2) rfl rfl (by decide) (by assumption) (by repeat (first|exact ao _ _|refine aU (br (by assumption)) ?_)) (fun Zr KD=>?_);refine ae ⟨rfl,rfl,rfl,?_⟩;refine bg (M:=M) aD rfl rfl rfl rfl rfl KD (ao _ _) (fun Zs KE=>?_);obtain rfl:=dP KE;refine ae ⟨rfl,rfl,rfl,?_⟩;refine Rg.qJ (p:=y.1) (q:=z.1) rfl rfl rfl ?_;obtain rfl:x=z:=aN (A1.symm.trans Hv);refine ae ⟨rfl,rfl,rfl,?_⟩;refine dU ?_;refine bQ rfl (fun Kd=>?_) (fun Kd=>?_)
       ·refine al (aj (ak rfl rfl (ae (aQ ?_))));have Hw:((d.2.take i).any fun g=>decide (g.1=x.1))=true:=rS.2 ⟨y,aG (i:=j) (by rw[de,if_pos (by omega)];exact CH),by simpa using(by assumption)⟩;exact aV rfl rfl ⟨by rw[CG,km,if_neg (by assumption),if_pos Hw],S.back⟩
       ·refine aZ (aj (ah rfl rfl (bI rfl rfl rfl (by omega) (ak rfl rfl (ae ?_)))));refine⟨rfl,j+1,(.cons rfl (.cons rfl (.cons rfl (.cons rfl .nil)))),?_,?_⟩
        ·exact⟨hM,S,cV,by omega,fun k y' h hc=>by
          rcases db k j with h2|h2
          ·exact jQ k y' h2 hc
          ·obtain rfl:k=j:=by omega
           rw[CH]at hc;cases hc;assumption⟩
        ·omega
      ·refine cY (al (aj ?_));refine ay (M:=M) (A:=RT.dc) (B:=(RT.fd).sl) aO rfl rfl pG (by decide) (zf) rfl rfl (by decide) (by assumption) (by repeat (first|exact ao _ _|refine aU (br (by assumption)) ?_)) (fun aeM Zt=>?_);refine bg (M:=M) aS rfl rfl rfl rfl rfl (by assumption) (by repeat (first|exact ao _ _|refine aU (br (by assumption)) ?_)) (fun aeN OH=>?_);refine ah rfl rfl ?_;refine cu (M:=M) aS iK rfl rfl rfl OH (ao _ _) (by omega) (fun aeO z Hx Zu=>?_);rw[aC]at Hx;refine ay (M:=M) (A:=RT.fd) (B:=RT.str) ca rfl rfl I9 (by decide) (Md) rfl rfl (by decide) (by assumption) (by repeat (first|exact ao _ _|refine aU (br (by assumption)) ?_)) (fun aeP OI=>?_);refine bg (M:=M) aD rfl rfl rfl rfl rfl OI (ao _ _) (fun aeQ OJ=>?_);obtain rfl:=dP OJ;obtain rfl:x=z:=aN (A1.symm.trans Hx);refine aP rfl rfl XR (CD _ hM yI.2) (fun r15 Ts hc=>?_);obtain⟨⟨u15,rfl,Zv⟩,zi⟩:=hc;replace cV:=cV.le (by decide) zi.le;replace hM:=zi.lt hM;have:=S.size;replace S:=S.aB zi;refine ah rfl rfl (bZ rfl rfl rfl (bZ rfl rfl rfl (ak rfl rfl (ak rfl rfl (ae (al (al (aj (ah rfl rfl (eS rfl rfl rfl (ae ?_)))))))))));refine bQ rfl (fun QR=>?_) (fun QR=>?_)
       ·refine al (aj (ah rfl rfl (ak rfl rfl (ae (aQ ?_)))))
        have Hw:((d.2.take i).any fun g=>decide (g.1=x.1))=false:=eQ.2 fun h=>by
         obtain⟨y,hy,he⟩:=rS.1 h;obtain⟨k,hk⟩:=bN.1 hy;rw[de]at hk
         split at hk
         ·exact jQ k y (by omega) hk (by simpa using he)
         ·cases hk
        exact aV rfl rfl ⟨by rw[CG,km,if_neg (by assumption),if_neg (by rw[Hw];simp),if_pos QR];rfl,S.back⟩
       ·refine aZ (aj (ah rfl rfl ?_));have Sw:lH 0 (words x.2)=0:=Classical.not_not.1 QR;obtain⟨a,cap,rfl⟩:=Zv Sw;have WI:=k3 x.2;refine ah rfl rfl (Rg.G1 Tryz.underlying222 rfl rfl (bI rfl rfl rfl (by omega) (ak rfl rfl (ae (aj (ah rfl rfl (bI rfl rfl rfl (by omega) (ak rfl rfl (ae ?_)))))))))
        have Hw:((d.2.take i).any fun g=>decide (g.1=x.1))=false:=eQ.2 fun h=>by
         obtain⟨y,hy,he⟩:=rS.1 h;obtain⟨k,hk⟩:=bN.1 hy;rw[de]at hk
         split at hk
         ·exact jQ k y (by omega) hk (by simpa using he)
         ·cases hk
        refine⟨rfl,(i+1,n+(words x.2).length),(.cons rfl (.cons rfl (.cons rfl .nil))),?_,?_⟩
        ·exact⟨hM,S,cV,by rw[CG,km,if_neg (by assumption),if_neg (by rw[Hw];simp),if_neg QR],by dsimp only;omega,by dsimp only;omega,WK⟩
        ·dsimp only;omega
   ·refine cY (al (al (aj (ah rfl rfl (lW rfl rfl rfl (ae ?_))))));refine bQ rfl (fun YN=>?_) (fun YN=>?_)
    ·refine al (aj (ak rfl rfl (ae (aQ ?_))));exact aV rfl rfl ⟨by rw[CG,ri (by omega),if_pos (by omega)],S.back⟩
    ·refine aZ (al (aj (ak rfl rfl (ae (aQ ?_)))));exact aV rfl rfl ⟨by rw[CG,ri (by omega),if_neg (by omega)],S.back⟩
def A2:List (List UInt8):=[[116],[117],[118],[119]]
def fixF (i:Nat) (x:Fd):Fd:=(if fC x.1=true then x.1 else A2.getD i [],x.2.take 40)
def mQ (id:Int):Nat→List Fd→List Fd→List Fd
 |_,out,[]=>out
 |i,out,x::fs=>if i<4 then(if mq (id,out++[fixF i x])=0 then mQ id (i+1) (out++[fixF i x]) fs else mQ id (i+1) out fs)else out
def nY (d:Dc):Dc:=(d.1,mQ d.1 0 [] d.2)
def qw (l:List Fd):Prop:=∀x∈l,x.1.length≤12∧x.2.length≤40
theorem A3 {s:List UInt8} (h:fC s=true):s.length≤12:=by
 simp only[fC,bT,decide_eq_true_eq]at h;omega
theorem vJ {i:Nat} (x:Fd) (hi:i<4):(fixF i x).1.length≤12∧(fixF i x).2.length≤40:=by
 refine⟨?_,by simp only[fixF,bG];omega⟩;unfold fixF;dsimp only
 split
 ·exact A3 (by assumption)
 ·have h:i=0∨i=1∨i=2∨i=3:=by omega
  rcases h with rfl|rfl|rfl|rfl<;>decide
theorem qw.snoc {l:List Fd} {x:Fd} (h:qw l) (hx:x.1.length≤12∧x.2.length≤40):qw (l++[x]):=fun y hy=>by
 rcases dy.1 hy with hy|hy
 ·exact h y hy
 ·rw[cI.1 hy];exact hx
theorem Hy {id:Int} {fs:List Fd} {i:Nat} {out:List Fd} {x:Fd} (h:fs[i]? =some x) (hi:i<4):mQ id i out (fs.drop i)=if mq (id,out++[fixF i x])=0 then mQ id (i+1) (out++[fixF i x]) (fs.drop (i+1))else mQ id (i+1) out (fs.drop (i+1)):=by
 have dW:=(aw.1 h).1;rw[eB dW,(aw.1 h).2];show(if i<4 then _ else _)=_;rw[if_pos hi]
theorem ya {id:Int} {fs:List Fd} {i:Nat} {out:List Fd} (h:fs.length≤i∨4≤i):mQ id i out (fs.drop i)=out:=by
 cases hd:fs.drop i with
 |nil=>rfl
 |cons x r=>
  show(if i<4 then _ else _)=_;rw[if_neg];rcases h with h|h
  ·rw[kC h]at hd;cases hd
  ·omega
theorem A4 (l:List UInt8):l.take (min (l.length:Int) 40).toNat=l.take 40:=by
 by_cases h:l.length≤40
 ·rw[a7 (by omega),a7 h]
 ·congr 1;omega
theorem E7 {M:aL} {d:Dc} {v0:Value} (w0:World) (hM:Lt M w0) (hv:RT.dc.V M w0 d v0):
  Spec Tryz.prog 65 #[v0] w0 (fun v w=>RT.dc.V M w (nY d) v∧Step M w0 M w aE):=by
 have gB:=hM
 have WL: -9223372036854775808≤d.1∧d.1≤9223372036854775807:=by
  obtain⟨vs,⟨va,vb,_,⟨_,h1,h2⟩,_⟩,_⟩:=hv;exact⟨h1,h2⟩
 refine bu (args:=[_]) (fn:=Tryz.f65) Tryz.func65 rfl (n:=67) Tryz.ntmps65 ?_;have S:Step M w0 M w0 aE:=(ar _ _).cw (fun _ h=>h.elim) (fun _ h=>h.elim);refine al (aj ?_);refine Rg.iM (A:=RT.dc) rfl rfl hM hv rfl (fun u0 w1 cV s0 _=>?_);replace hM:=s0.lt hM;have:=S.size;replace S:=S.aB s0;refine eG M kQ rfl (fun lJ zj KF KG eX kx=>?_);obtain⟨ef,jM⟩:∃M',M'=ins M lJ:=⟨_,rfl⟩;rw[←jM]at kx;have ep:ef lJ:=by rw[jM];exact .inl rfl
 change zj.heap[lJ]? =some (.cells #[.int .i64 0,.slice none 0 0] _ _)at eX;replace cV:=cV.le (by decide) kx.le;replace hM:=kx.lt hM;have:=S.size;replace S:=S.aB kx;refine ae (al (aj ?_));refine ay (M:=ef) (A:=RT.dc) (B:=RT.int .i64) aO rfl rfl I3 (by decide) (QP) rfl rfl (by decide) (by assumption) (by repeat (first|exact ao _ _|refine aU (br (by assumption)) ?_)) (fun tU jw=>?_);refine cr (M:=ef) az rfl rfl (by assumption) (by repeat (first|exact ao _ _|refine aU (br (by assumption)) ?_)) (fun Ml=>?_);refine eT (places:=[(0,1),(1,1)]) aO kQ Rx rfl ⟨_,_,rfl,rfl,rfl⟩ (out:=[_,.slice none 0 0]) ⟨0,[_],rfl,rfl,by simp[Value.cells],rfl⟩ ?_;refine eG ef kQ rfl (fun tV E0 Zw Zx lX s1_3=>?_);obtain⟨l9,vK⟩:∃M',M'=ins ef tV:=⟨_,rfl⟩;rw[←vK]at s1_3;have jj:l9 tV:=by rw[vK];exact .inl rfl
 change E0.heap[tV]? =some (.cells #[.int .i64 0,.slice none 0 0] _ _)at lX;have:=an eX;replace ep:=(s1_3.mem _ this).2 ep;replace eX:=s1_3.aM eX;replace cV:=cV.le (by decide) s1_3.le;replace hM:=s1_3.lt hM;have:=S.size;replace S:=S.aB s1_3;refine eD (M:=l9) (vs:=[.int .i64 d.1,.slice none 0 0]) kQ rfl rfl (by intro u hu;simp at hu;rcases hu with rfl|rfl<;>first|rfl|exact jq (by assumption) rfl rfl) rfl rfl lX jj (fun w1b Zy OK=>?_);have:=an eX;replace ep:=(OK.mem _ this).2 ep;replace eX:=OK.bS eX (fun hk=>by have hk:_=_:=hk;omega);have:=an lX;replace jj:=(OK.mem _ this).2 jj;replace cV:=cV.le (by decide) OK.le;replace hM:=OK.lt hM;have:=S.size;replace S:=S.trans OK (fun k hk h=>by have h:_=_:=h;subst h;first|(exfalso;omega)|(show _≤_;omega)|exact⟨by first|omega|assumption,(S.mem _ hk).1 ((OK.mem _ (an lX)).1 jj)⟩|exact .inl rfl|exact .inr rfl|exact .inr (.inl rfl)|exact .inr (.inr rfl)|exact rfl);have A5:=Zy;clear lX;have lX:=A5;clear A5;refine ae (al (aj ?_));refine Rg.Wr (A:=RT.str) (hn:=by decide) (M:=l9) (xs:=A2) aF I9 rfl (by decide) rfl ⟨_,_,_,rfl,rfl,rfl,jG.2 ⟨rfl,by decide⟩,_,_,_,rfl,rfl,rfl,jG.2 ⟨rfl,by decide⟩,_,_,_,rfl,rfl,rfl,jG.2 ⟨rfl,by decide⟩,_,_,_,rfl,rfl,rfl,jG.2 ⟨rfl,by decide⟩,rfl⟩ rfl hM (.inr ⟨rfl,rfl⟩) (by decide) (fun u2 w2 dE s2=>?_);have:=an eX;replace ep:=(s2.mem _ this).2 ep;replace eX:=s2.aM eX;have:=an lX;replace jj:=(s2.mem _ this).2 jj;replace lX:=s2.aM lX;replace cV:=cV.le (by decide) s2.le;replace hM:=s2.lt hM;have:=S.size;replace S:=S.aB s2;refine ak rfl rfl (ae (al (al (aj (ak rfl rfl (ae (bh ?_)))))));refine dz (σ:=Nat×List Fd) (fun q=>[(1,u0),(2,.pointer (some ⟨lJ,0,none⟩)),(3,.pointer (some ⟨tV,0,none⟩)),(4,u2),(5,.int .i64 (q.1:Int))]) (fun q w=>∃M' uo,Lt M' w∧Step M w0 M' w aE∧cc RT.dc M' w u0 d∧(RT.str.sl).V M' w A2 u2∧w.heap[lJ]? =some (.cells #[.int .i64 0,.slice none 0 0] 41 (0,0))∧M' lJ∧w.heap[tV]? =some (.cells #[.int .i64 d.1,uo] 41 (0,0))∧M' tV∧(RT.fd.sl).V M' w q.2 uo∧mQ d.1 0 [] d.2=mQ d.1 q.1 q.2 (d.2.drop q.1)∧q.1≤d.2.length∧q.1≤4∧qw q.2∧q.2.length≤q.1) (fun q=>d.2.length-q.1) (0,[]) (.cons rfl (.cons rfl (.cons rfl (.cons rfl (.cons rfl .nil))))) ?_ ?_
 ·exact⟨_,.slice none 0 0,hM,S,cV,dE,eX,ep,lX,jj,iO,rfl,bH _,bH _,(fun x hx=>by cases hx),aT _⟩
 ·rintro⟨i,out⟩ w ⟨M1,uo,hM,S,cV,dE,g2,cE,g3,eK,jb,sH,hi,Zz,yG,j3⟩;dsimp only at g3 jb sH hi Zz yG j3 ⊢;refine al (al (aj (ah rfl rfl ?_)));refine ay (M:=M1) (A:=RT.dc) (B:=(RT.fd).sl) aO rfl rfl pG (by decide) (zf) rfl rfl (by decide) (by assumption) (by repeat (first|exact ao _ _|refine aU (br (by assumption)) ?_)) (fun Zh aeR=>?_);refine bg (M:=M1) aS rfl rfl rfl rfl rfl (by assumption) (by repeat (first|exact ao _ _|refine aU (br (by assumption)) ?_)) (fun NH DJ=>?_);refine bK aS rfl DJ rfl (cz rfl rfl rfl (ah rfl rfl ?_));refine aR (g:=18) rfl (fun Ci=>?_) (fun Ci=>?_)
  ·refine aq rfl rfl (ah rfl rfl (aq rfl rfl (cz rfl rfl rfl (aW rfl rfl rfl (ae ?_)))));refine bQ rfl (fun c4=>?_) (fun c4=>?_)
   ·refine aZ (al (bh (al (aj ?_))));refine ay (M:=M1) (A:=RT.dc) (B:=(RT.fd).sl) aO rfl rfl pG (by decide) (zf) rfl rfl (by decide) (by assumption) (by repeat (first|exact ao _ _|refine aU (br (by assumption)) ?_)) (fun Tt Hz=>?_);refine bg (M:=M1) aS rfl rfl rfl rfl rfl (by assumption) (by repeat (first|exact ao _ _|refine aU (br (by assumption)) ?_)) (fun OL vL=>?_);refine ah rfl rfl ?_;refine cu (M:=M1) aS iK rfl rfl rfl vL (ao _ _) (by omega) (fun u6 x FR KA=>?_);rw[aC]at FR;have Wq:i<4:=by omega
    have WM:=Hy (id:=d.1) (out:=out) FR Wq;have Mm:=vJ x Wq;refine ch (M:=M1) (A:=RT.fd) ca rfl iK (by decide) rfl rfl rfl KA (ao _ _) (fun v6 oI=>?_);obtain rfl:=gN oI;have hxb:=zg oI;refine eG M1 iK rfl (fun OM ZA air ais dF xu=>?_);obtain⟨lK,HA⟩:∃M',M'=ins M1 OM:=⟨_,rfl⟩;rw[←HA]at xu;have dh:lK OM:=by rw[HA];exact .inl rfl
    change ZA.heap[OM]? =some (.cells #[.string ⟨#[]⟩,.string ⟨#[]⟩] _ _)at dF;have:=an g2;replace cE:=(xu.mem _ this).2 cE;replace g2:=xu.aM g2;have:=an g3;replace eK:=(xu.mem _ this).2 eK;replace g3:=xu.aM g3;replace cV:=cV.le (by decide) xu.le;replace dE:=dE.le xu.le;replace jb:=jb.le xu.le;replace hM:=xu.lt hM;have:=S.size;replace S:=S.aB xu;refine eD (M:=lK) (vs:=[.string ⟨x.1.toArray⟩,.string ⟨x.2.toArray⟩]) iK rfl rfl (by intro u hu;simp at hu;rcases hu with rfl|rfl<;>first|rfl|exact jq (by assumption) rfl rfl) rfl rfl dF dh (fun w6b ZB HB=>?_);have:=an g2;replace cE:=(HB.mem _ this).2 cE;replace g2:=HB.bS g2 (fun hk=>by have hk:_=_:=hk;omega);have:=an g3;replace eK:=(HB.mem _ this).2 eK;replace g3:=HB.bS g3 (fun hk=>by have hk:_=_:=hk;omega);have:=an dF;replace dh:=(HB.mem _ this).2 dh;replace cV:=cV.le (by decide) HB.le;replace dE:=dE.le HB.le;replace jb:=jb.le HB.le;replace hM:=HB.lt hM;have:=S.size;replace S:=S.trans HB (fun k hk h=>by have h:_=_:=h;subst h;first|(exfalso;omega)|(show _≤_;omega)|exact⟨by first|omega|assumption,(S.mem _ hk).1 ((HB.mem _ (an dF)).1 dh)⟩|exact .inl rfl|exact .inr rfl|exact .inr (.inl rfl)|exact .inr (.inr rfl)|exact rfl);have oS:=ZB;clear dF;have dF:=oS;clear oS;refine ae (al (aj (bz (o':=0) ca rfl rfl I9 (by decide) rfl rfl (aX aD rfl rfl rfl (by assumption) rfl ?_))));refine aP rfl rfl RA (vI x.1 hxb.1 _) (fun r7 w7 hc=>?_);obtain⟨rfl,rfl⟩:=hc;refine ak rfl rfl (ae (al (al (aj (ah rfl rfl (jN rfl rfl (bO (v':= .bool (decide (fC x.1=false))) (by cases fC x.1<;>rfl) (ae ?_))))))));refine bQ rfl (fun c8=>?_) (fun c8=>?_)
    ·refine aj (ah rfl rfl (ah rfl rfl ?_));refine cu (M:=lK) aF I9 rfl rfl rfl dE (ao _ _) (by have:A2.length=4:=rfl;omega) (fun u9 y Mn YK=>?_);rw[aC]at Mn;refine bg (M:=lK) aD rfl rfl rfl rfl rfl YK (ao _ _) (fun v9 zV=>?_);obtain rfl:=dP zV
     obtain rfl:y=(fixF i x).1:=by
      show y=if fC x.1=true then x.1 else A2.getD i []
      rw[if_neg (by rw[c8];simp),cZ,Mn];rfl
     refine bz (o':=0) ca rfl rfl I9 (by decide) rfl rfl ?_;refine ck (M:=lK) I9 rfl rfl dF rfl (rfl) dh (fun Te Tu oR=>?_);change Te.heap[_]? =some (Obj.cells #[.string ⟨((fixF i x).1).toArray⟩,.string ⟨x.2.toArray⟩] _ _)at Tu;have:=an g2;replace cE:=(oR.mem _ this).2 cE;replace g2:=oR.bS g2 (fun hk=>by have hk:_=_:=hk;omega);have:=an g3;replace eK:=(oR.mem _ this).2 eK;replace g3:=oR.bS g3 (fun hk=>by have hk:_=_:=hk;omega);have:=an dF;replace dh:=(oR.mem _ this).2 dh;replace cV:=cV.le (by decide) oR.le;replace dE:=dE.le oR.le;replace jb:=jb.le oR.le;replace hM:=oR.lt hM;have:=S.size;replace S:=S.trans oR (fun k hk h=>by have h:_=_:=h;subst h;first|(exfalso;omega)|(show _≤_;omega)|exact⟨by first|omega|assumption,(S.mem _ hk).1 ((oR.mem _ (an dF)).1 dh)⟩|exact .inl rfl|exact .inr rfl|exact .inr (.inl rfl)|exact .inr (.inr rfl)|exact rfl);have oS:=Tu;clear dF;have dF:=oS;clear oS;refine ae (al (aj (bz (o':=1) ca rfl rfl I9 (by decide) rfl rfl (aX aD rfl rfl rfl (by assumption) rfl (bz (o':=1) ca rfl rfl I9 (by decide) rfl rfl (aX aD rfl rfl rfl (by assumption) rfl (Rg.mh aD rfl rfl (bO (v':= .int .i64 (x.2.length:Int)) (by simp[ByteArray.size]) (Rg.min2 rfl rfl rfl (Rg.L6 aD rfl rfl rfl (by omega) (bO (v':= .string ⟨((fixF i x).2).toArray⟩) (by rw[A4];rfl) ?_)))))))))));refine bz (o':=1) ca rfl rfl I9 (by decide) rfl rfl ?_;refine ck (M:=lK) I9 rfl rfl dF rfl (rfl) dh (fun DY A6 fR=>?_);change DY.heap[_]? =some (Obj.cells #[.string ⟨((fixF i x).1).toArray⟩,.string ⟨((fixF i x).2).toArray⟩] _ _)at A6;have:=an g2;replace cE:=(fR.mem _ this).2 cE;replace g2:=fR.bS g2 (fun hk=>by have hk:_=_:=hk;omega);have:=an g3
     replace eK:=(fR.mem _ this).2 eK;replace g3:=fR.bS g3 (fun hk=>by have hk:_=_:=hk;omega);have:=an dF;replace dh:=(fR.mem _ this).2 dh;replace cV:=cV.le (by decide) fR.le;replace dE:=dE.le fR.le;replace jb:=jb.le fR.le;replace hM:=fR.lt hM;have:=S.size;replace S:=S.trans fR (fun k hk h=>by have h:_=_:=h;subst h;first|(exfalso;omega)|(show _≤_;omega)|exact⟨by first|omega|assumption,(S.mem _ hk).1 ((fR.mem _ (an dF)).1 dh)⟩|exact .inl rfl|exact .inr rfl|exact .inr (.inl rfl)|exact .inr (.inr rfl)|exact rfl);have oS:=A6;clear dF;have dF:=oS;clear oS;refine ae (al (aj ?_));refine ay (M:=lK) (A:=RT.dc) (B:=RT.int .i64) aO rfl rfl I3 (by decide) (QP) rfl rfl (by decide) (by assumption) (by repeat (first|exact ao _ _|refine aU (br (by assumption)) ?_)) (fun Mo HC=>?_);refine cr (M:=lK) az rfl rfl (by assumption) (by repeat (first|exact ao _ _|refine aU (br (by assumption)) ?_)) (fun ON=>?_);refine eT (places:=[(0,1),(1,1)]) aO kQ Rx rfl ⟨_,_,rfl,rfl,rfl⟩ (out:=[_,.slice none 0 0]) ⟨0,[_],rfl,rfl,by simp[Value.cells],rfl⟩ ?_;refine eG lK kQ rfl (fun vM A7 Tv Tw cT fc=>?_);obtain⟨qx,rl⟩:∃M',M'=ins lK vM:=⟨_,rfl⟩;rw[←rl]at fc;have cR:qx vM:=by rw[rl];exact .inl rfl
     change A7.heap[vM]? =some (.cells #[.int .i64 0,.slice none 0 0] _ _)at cT;have:=an g2;replace cE:=(fc.mem _ this).2 cE;replace g2:=fc.aM g2;have:=an g3;replace eK:=(fc.mem _ this).2 eK;replace g3:=fc.aM g3;have:=an dF;replace dh:=(fc.mem _ this).2 dh;replace dF:=fc.aM dF;replace cV:=cV.le (by decide) fc.le;replace dE:=dE.le fc.le;replace jb:=jb.le fc.le;replace hM:=fc.lt hM;have:=S.size;replace S:=S.aB fc;refine eD (M:=qx) (vs:=[.int .i64 d.1,.slice none 0 0]) kQ rfl rfl (by intro u hu;simp at hu;rcases hu with rfl|rfl<;>first|rfl|exact jq (by assumption) rfl rfl) rfl rfl cT cR (fun zk HD j4=>?_);have:=an g2;replace cE:=(j4.mem _ this).2 cE;replace g2:=j4.bS g2 (fun hk=>by have hk:_=_:=hk;omega);have:=an g3;replace eK:=(j4.mem _ this).2 eK;replace g3:=j4.bS g3 (fun hk=>by have hk:_=_:=hk;omega);have:=an dF;replace dh:=(j4.mem _ this).2 dh;replace dF:=j4.bS dF (fun hk=>by have hk:_=_:=hk;omega);have:=an cT;replace cR:=(j4.mem _ this).2 cR;replace cV:=cV.le (by decide) j4.le;replace dE:=dE.le j4.le;replace jb:=jb.le j4.le;replace hM:=j4.lt hM;have:=S.size;replace S:=S.trans j4 (fun k hk h=>by have h:_=_:=h;subst h;first|(exfalso;omega)|(show _≤_;omega)|exact⟨by first|omega|assumption,(S.mem _ hk).1 ((j4.mem _ (an cT)).1 cR)⟩|exact .inl rfl|exact .inr rfl|exact .inr (.inl rfl)|exact .inr (.inr rfl)|exact rfl);have iD:=HD;clear cT;have cT:=iD;clear iD;refine ae (al (aj (bz (o':=1) aO rfl rfl pG (by decide) rfl rfl (aX aS rfl rfl rfl (by assumption) rfl (bz (o':=1) aO rfl rfl pG (by decide) rfl rfl (aX aS rfl rfl rfl (by assumption) rfl ?_))))));have dw:=Own.Me RT.fd 127 zk.heap.size hM
     have ZC:=an dF;have HE:w0.heap.size≤zk.heap.size:=S.size;refine cv (M:=qx) (base:=zk.heap.size) aS iK rfl rfl rfl rfl dw jb (ao _ _) (by simp;omega) (by simp;omega) (aT _) (fun vF oQ Hn qv eJ=>?_);have:=an g2;replace cE:=(eJ.mem _ this).2 cE;replace g2:=eJ.bS g2 (fun h=>by first|exact dw.dZ g2 h|exact dw.eW g2 (by decide) h|(have:=(dw.base _ h).1;omega));have:=an g3;replace eK:=(eJ.mem _ this).2 eK;replace g3:=eJ.bS g3 (fun h=>by first|exact dw.dZ g3 h|exact dw.eW g3 (by decide) h|(have:=(dw.base _ h).1;omega));have:=an dF;replace dh:=(eJ.mem _ this).2 dh;replace dF:=eJ.bS dF (fun h=>by first|exact dw.dZ dF h|exact dw.eW dF (by decide) h|(have:=(dw.base _ h).1;omega));have:=an cT;replace cR:=(eJ.mem _ this).2 cR;replace cT:=eJ.bS cT (fun h=>by first|exact dw.dZ cT h|exact dw.eW cT (by decide) h|(have:=(dw.base _ h).1;omega));replace cV:=cV.le (by decide) eJ.le;replace dE:=dE.le eJ.le;replace jb:=jb.le eJ.le;replace hM:=eJ.lt hM;have:=S.size;replace S:=S.cF eJ dw HE;replace dw:=qv;refine bz (o':=1) aO rfl rfl pG (by decide) rfl rfl ?_;refine ck (M:=oQ) pG rfl rfl cT rfl ((by obtain⟨_,_,he,_⟩:=dw.isSlice;rw[he];rfl)) cR (fun HF A8 fI=>?_);change HF.heap[_]? =some (Obj.cells #[.int .i64 d.1,vF] _ _)at A8;have:=an g2;replace cE:=(fI.mem _ this).2 cE;replace g2:=fI.bS g2 (fun hk=>by have hk:_=_:=hk;omega);have:=an g3;replace eK:=(fI.mem _ this).2 eK;replace g3:=fI.bS g3 (fun hk=>by have hk:_=_:=hk;omega);have:=an dF;replace dh:=(fI.mem _ this).2 dh;replace dF:=fI.bS dF (fun hk=>by have hk:_=_:=hk;omega);have:=an cT;replace cR:=(fI.mem _ this).2 cR
     replace cV:=cV.le (by decide) fI.le;replace dE:=dE.le fI.le;replace jb:=jb.le fI.le;replace dw:=dw.step fI (fun b hb hk=>by have hk:_=_:=hk;have:=(dw.base b hb);omega);replace hM:=fI.lt hM;have:=S.size;replace S:=S.trans fI (fun k hk h=>by have h:_=_:=h;subst h;first|(exfalso;omega)|(show _≤_;omega)|exact⟨by first|omega|assumption,(S.mem _ hk).1 ((fI.mem _ (an cT)).1 cR)⟩|exact .inl rfl|exact .inr rfl|exact .inr (.inl rfl)|exact .inr (.inr rfl)|exact rfl);have iD:=A8;clear cT;have cT:=iD;clear iD;refine ae (al (aj (bz (o':=1) aO rfl rfl pG (by decide) rfl rfl (aX aS rfl rfl rfl (by assumption) rfl (gO (vs:=[.string ⟨((fixF i x).1).toArray⟩,.string ⟨((fixF i x).2).toArray⟩]) ca rfl iK rfl rfl rfl dF ?_)))));refine eA (A:=RT.fd) (hn:=by decide) (M:=oQ) aS iK (by decide) rfl rfl hM (show RT.fd.V _ _ (fixF i x) _ from eC (jG.2 ⟨rfl,dT Mm.1 (by decide)⟩) (jG.2 ⟨rfl,dT Mm.2 (by decide)⟩) rfl rfl rfl rfl) (.inl rfl) (fun Mi Tx fA fJ=>?_);have:=an g2;replace cE:=(fJ.mem _ this).2 cE;replace g2:=fJ.aM g2;have:=an g3;replace eK:=(fJ.mem _ this).2 eK;replace g3:=fJ.aM g3;have:=an dF;replace dh:=(fJ.mem _ this).2 dh;replace dF:=fJ.aM dF;have:=an cT;replace cR:=(fJ.mem _ this).2 cR;replace cT:=fJ.aM cT;replace cV:=cV.le (by decide) fJ.le;replace dE:=dE.le fJ.le;replace jb:=jb.le fJ.le;replace dw:=dw.a8 fJ;replace hM:=fJ.lt hM;have:=S.size;replace S:=S.aB fJ;refine cv (M:=oQ) (base:=zk.heap.size) aS iK rfl rfl rfl rfl dw fA (ao _ _) (by simp;omega) (by simp;omega) (by have:=eJ.size;have:=fI.size;have:=fJ.size;omega) (fun fD lL Ty CI ga=>?_);have:=an g2
     replace cE:=(ga.mem _ this).2 cE;replace g2:=ga.bS g2 (fun h=>by first|exact dw.dZ g2 h|exact dw.eW g2 (by decide) h|(have:=(dw.base _ h).1;omega));have:=an g3;replace eK:=(ga.mem _ this).2 eK;replace g3:=ga.bS g3 (fun h=>by first|exact dw.dZ g3 h|exact dw.eW g3 (by decide) h|(have:=(dw.base _ h).1;omega));have:=an dF;replace dh:=(ga.mem _ this).2 dh;replace dF:=ga.bS dF (fun h=>by first|exact dw.dZ dF h|exact dw.eW dF (by decide) h|(have:=(dw.base _ h).1;omega));have:=an cT;replace cR:=(ga.mem _ this).2 cR;replace cT:=ga.bS cT (fun h=>by first|exact dw.dZ cT h|exact dw.eW cT (by decide) h|(have:=(dw.base _ h).1;omega));replace cV:=cV.le (by decide) ga.le;replace dE:=dE.le ga.le;replace jb:=jb.le ga.le;replace fA:=fA.le ga.le;replace hM:=ga.lt hM;have:=S.size;replace S:=S.cF ga dw HE;replace dw:=CI;refine bz (o':=1) aO rfl rfl pG (by decide) rfl rfl ?_;refine ck (M:=lL) pG rfl rfl cT rfl ((by obtain⟨_,_,he,_⟩:=dw.isSlice;rw[he];rfl)) cR (fun HG A9 fK=>?_);change HG.heap[_]? =some (Obj.cells #[.int .i64 d.1,fD] _ _)at A9;have:=an g2;replace cE:=(fK.mem _ this).2 cE;replace g2:=fK.bS g2 (fun hk=>by have hk:_=_:=hk;omega);have:=an g3;replace eK:=(fK.mem _ this).2 eK;replace g3:=fK.bS g3 (fun hk=>by have hk:_=_:=hk;omega);have:=an dF;replace dh:=(fK.mem _ this).2 dh;replace dF:=fK.bS dF (fun hk=>by have hk:_=_:=hk;omega);have:=an cT;replace cR:=(fK.mem _ this).2 cR;replace cV:=cV.le (by decide) fK.le;replace dE:=dE.le fK.le;replace jb:=jb.le fK.le;replace fA:=fA.le fK.le;replace dw:=dw.step fK (fun b hb hk=>by have hk:_=_:=hk;have:=(dw.base b hb);omega);replace hM:=fK.lt hM;have:=S.size
     replace S:=S.trans fK (fun k hk h=>by have h:_=_:=h;subst h;first|(exfalso;omega)|(show _≤_;omega)|exact⟨by first|omega|assumption,(S.mem _ hk).1 ((fK.mem _ (an cT)).1 cR)⟩|exact .inl rfl|exact .inr rfl|exact .inr (.inl rfl)|exact .inr (.inr rfl)|exact rfl);have iD:=A9;clear cT;have cT:=iD;clear iD;refine ae (al (aj (gO (vs:=[.int .i64 d.1,fD]) aO rfl kQ rfl rfl rfl cT ?_)));have rL:=dw.view (hn:=by decide) (by simp;omega);replace cE:rm lL fD _:=⟨cE,by first|exact dw.eW g2 (by decide)|(intro h;have:=(dw.base _ h).1;omega)⟩;replace eK:rm lL fD _:=⟨eK,by first|exact dw.eW g3 (by decide)|(intro h;have:=(dw.base _ h).1;omega)⟩;replace dh:rm lL fD _:=⟨dh,by first|exact dw.eW dF (by decide)|(intro h;have:=(dw.base _ h).1;omega)⟩;replace cR:rm lL fD _:=⟨cR,by first|exact dw.eW cT (by decide)|(intro h;have:=(dw.base _ h).1;omega)⟩;replace cV:=cV.le (by decide) (qP _ fD _);replace dE:=dE.le (qP _ fD _);replace jb:=jb.le (qP _ fD _);replace fA:=fA.le (qP _ fD _);replace hM:Lt (rm lL fD) _:=fun b hb=>hM b hb.1
     replace S:=S.freeze (v:=fD) (fun b hb=>by have:=(dw.base b hb).1;omega);clear dw;refine aP rfl rfl RB (x9 (d:=(d.1,[]++out++[fixF i x])) _ hM (eC (gC WL) rL rfl rfl rfl rfl) (fun y hy=>by have:=(yG.snoc Mm) y (by simpa using hy);omega)) (fun r14 Tz hc=>?_);obtain⟨rfl,kA⟩:=hc;rw[gm]at rL;have:=an g2;replace cE:=(kA.mem _ this).2 cE;replace g2:=kA.aM g2;have:=an g3;replace eK:=(kA.mem _ this).2 eK;replace g3:=kA.aM g3;have:=an dF;replace dh:=(kA.mem _ this).2 dh;replace dF:=kA.aM dF;have:=an cT;replace cR:=(kA.mem _ this).2 cR;replace cT:=kA.aM cT;replace cV:=cV.le (by decide) kA.le;replace dE:=dE.le kA.le;replace jb:=jb.le kA.le;replace fA:=fA.le kA.le;replace rL:=rL.le kA.le;replace hM:=kA.lt hM;have:=S.size;replace S:=S.aB kA;refine mB rfl rfl rfl (bO (v':= .bool (decide (mq (d.1,out++[fixF i x])=0))) (by rw[gm]) (ae ?_));refine bQ rfl (fun OO=>?_) (fun OO=>?_)
     ·refine aj (gO (vs:=[.int .i64 d.1,fD]) aO rfl kQ rfl rfl rfl cT ?_);refine eD (M:=rm lL fD) (vs:=[.int .i64 d.1,fD]) kQ rfl rfl (by intro u hu;simp at hu;rcases hu with rfl|rfl<;>first|rfl|exact jq (by assumption) rfl rfl) rfl rfl g3 eK (fun ZD HH jk=>?_);have:=an g2;replace cE:=(jk.mem _ this).2 cE;replace g2:=jk.bS g2 (fun hk=>by have hk:_=_:=hk;omega);have:=an g3;replace eK:=(jk.mem _ this).2 eK;have:=an dF;replace dh:=(jk.mem _ this).2 dh;replace dF:=jk.bS dF (fun hk=>by have hk:_=_:=hk;omega);have:=an cT;replace cR:=(jk.mem _ this).2 cR;replace cT:=jk.bS cT (fun hk=>by have hk:_=_:=hk;omega);replace cV:=cV.le (by decide) jk.le;replace dE:=dE.le jk.le;replace jb:=jb.le jk.le;replace fA:=fA.le jk.le;replace rL:=rL.le jk.le;replace hM:=jk.lt hM;have:=S.size;replace S:=S.trans jk (fun k hk h=>by have h:_=_:=h;subst h;first|(exfalso;omega)|(show _≤_;omega)|exact⟨by first|omega|assumption,(S.mem _ hk).1 ((jk.mem _ (an g3)).1 eK)⟩|exact .inl rfl|exact .inr rfl|exact .inr (.inl rfl)|exact .inr (.inr rfl)|exact rfl);have TA:=HH;clear g3;have g3:=TA;clear TA;refine ae (aj (ah rfl rfl (bI rfl rfl rfl (by omega) (ak rfl rfl (ae ?_)))));refine⟨rfl,(i+1,out++[fixF i x]),(.cons rfl (.cons rfl (.cons rfl (.cons rfl (.cons rfl .nil))))),?_,?_⟩
      ·exact⟨_,_,hM,S,cV,dE,g2,cE,g3,eK,rL,by rw[sH,WM,if_pos OO],by dsimp only;omega,by dsimp only;omega,yG.snoc Mm,by simp;omega⟩
      ·dsimp only;omega
     ·refine aZ (aj (ah rfl rfl (bI rfl rfl rfl (by omega) (ak rfl rfl (ae ?_)))));refine⟨rfl,(i+1,out),(.cons rfl (.cons rfl (.cons rfl (.cons rfl (.cons rfl .nil))))),?_,?_⟩
      ·exact⟨_,_,hM,S,cV,dE,g2,cE,g3,eK,jb,by rw[sH,WM,if_neg OO],by dsimp only;omega,by dsimp only;omega,yG,by dsimp only;omega⟩
      ·dsimp only;omega
    ·rw[show x.1=(fixF i x).1 from by show x.1=if fC x.1=true then x.1 else _;rw[if_pos (by cases hq:fC x.1 with|true=>rfl|false=>exact absurd hq c8)]]at dF;refine aZ (al (aj (bz (o':=1) ca rfl rfl I9 (by decide) rfl rfl (aX aD rfl rfl rfl (by assumption) rfl (bz (o':=1) ca rfl rfl I9 (by decide) rfl rfl (aX aD rfl rfl rfl (by assumption) rfl (Rg.mh aD rfl rfl (bO (v':= .int .i64 (x.2.length:Int)) (by simp[ByteArray.size]) (Rg.min2 rfl rfl rfl (Rg.L6 aD rfl rfl rfl (by omega) (bO (v':= .string ⟨((fixF i x).2).toArray⟩) (by rw[A4];rfl) ?_)))))))))));refine bz (o':=1) ca rfl rfl I9 (by decide) rfl rfl ?_;refine ck (M:=lK) I9 rfl rfl dF rfl (rfl) dh (fun DY A6 fR=>?_);change DY.heap[_]? =some (Obj.cells #[.string ⟨((fixF i x).1).toArray⟩,.string ⟨((fixF i x).2).toArray⟩] _ _)at A6;have:=an g2;replace cE:=(fR.mem _ this).2 cE;replace g2:=fR.bS g2 (fun hk=>by have hk:_=_:=hk;omega);have:=an g3;replace eK:=(fR.mem _ this).2 eK;replace g3:=fR.bS g3 (fun hk=>by have hk:_=_:=hk;omega);have:=an dF;replace dh:=(fR.mem _ this).2 dh;replace cV:=cV.le (by decide) fR.le;replace dE:=dE.le fR.le;replace jb:=jb.le fR.le;replace hM:=fR.lt hM;have:=S.size;replace S:=S.trans fR (fun k hk h=>by have h:_=_:=h;subst h;first|(exfalso;omega)|(show _≤_;omega)|exact⟨by first|omega|assumption,(S.mem _ hk).1 ((fR.mem _ (an dF)).1 dh)⟩|exact .inl rfl|exact .inr rfl|exact .inr (.inl rfl)|exact .inr (.inr rfl)|exact rfl);have oS:=A6;clear dF;have dF:=oS;clear oS;refine ae (al (aj ?_));refine ay (M:=lK) (A:=RT.dc) (B:=RT.int .i64) aO rfl rfl I3 (by decide) (QP) rfl rfl (by decide) (by assumption) (by repeat (first|exact ao _ _|refine aU (br (by assumption)) ?_)) (fun Mo HC=>?_)
     refine cr (M:=lK) az rfl rfl (by assumption) (by repeat (first|exact ao _ _|refine aU (br (by assumption)) ?_)) (fun ON=>?_);refine eT (places:=[(0,1),(1,1)]) aO kQ Rx rfl ⟨_,_,rfl,rfl,rfl⟩ (out:=[_,.slice none 0 0]) ⟨0,[_],rfl,rfl,by simp[Value.cells],rfl⟩ ?_;refine eG lK kQ rfl (fun vM A7 Tv Tw cT fc=>?_);obtain⟨qx,rl⟩:∃M',M'=ins lK vM:=⟨_,rfl⟩;rw[←rl]at fc;have cR:qx vM:=by rw[rl];exact .inl rfl
     change A7.heap[vM]? =some (.cells #[.int .i64 0,.slice none 0 0] _ _)at cT;have:=an g2;replace cE:=(fc.mem _ this).2 cE;replace g2:=fc.aM g2;have:=an g3;replace eK:=(fc.mem _ this).2 eK;replace g3:=fc.aM g3;have:=an dF;replace dh:=(fc.mem _ this).2 dh;replace dF:=fc.aM dF;replace cV:=cV.le (by decide) fc.le;replace dE:=dE.le fc.le;replace jb:=jb.le fc.le;replace hM:=fc.lt hM;have:=S.size;replace S:=S.aB fc;refine eD (M:=qx) (vs:=[.int .i64 d.1,.slice none 0 0]) kQ rfl rfl (by intro u hu;simp at hu;rcases hu with rfl|rfl<;>first|rfl|exact jq (by assumption) rfl rfl) rfl rfl cT cR (fun zk HD j4=>?_);have:=an g2;replace cE:=(j4.mem _ this).2 cE;replace g2:=j4.bS g2 (fun hk=>by have hk:_=_:=hk;omega);have:=an g3;replace eK:=(j4.mem _ this).2 eK;replace g3:=j4.bS g3 (fun hk=>by have hk:_=_:=hk;omega);have:=an dF;replace dh:=(j4.mem _ this).2 dh;replace dF:=j4.bS dF (fun hk=>by have hk:_=_:=hk;omega);have:=an cT;replace cR:=(j4.mem _ this).2 cR;replace cV:=cV.le (by decide) j4.le;replace dE:=dE.le j4.le;replace jb:=jb.le j4.le;replace hM:=j4.lt hM;have:=S.size;replace S:=S.trans j4 (fun k hk h=>by have h:_=_:=h;subst h;first|(exfalso;omega)|(show _≤_;omega)|exact⟨by first|omega|assumption,(S.mem _ hk).1 ((j4.mem _ (an cT)).1 cR)⟩|exact .inl rfl|exact .inr rfl|exact .inr (.inl rfl)|exact .inr (.inr rfl)|exact rfl);have iD:=HD;clear cT;have cT:=iD;clear iD;refine ae (al (aj (bz (o':=1) aO rfl rfl pG (by decide) rfl rfl (aX aS rfl rfl rfl (by assumption) rfl (bz (o':=1) aO rfl rfl pG (by decide) rfl rfl (aX aS rfl rfl rfl (by assumption) rfl ?_))))));have dw:=Own.Me RT.fd 127 zk.heap.size hM
     have ZC:=an dF;have HE:w0.heap.size≤zk.heap.size:=S.size;refine cv (M:=qx) (base:=zk.heap.size) aS iK rfl rfl rfl rfl dw jb (ao _ _) (by simp;omega) (by simp;omega) (aT _) (fun vF oQ Hn qv eJ=>?_);have:=an g2;replace cE:=(eJ.mem _ this).2 cE;replace g2:=eJ.bS g2 (fun h=>by first|exact dw.dZ g2 h|exact dw.eW g2 (by decide) h|(have:=(dw.base _ h).1;omega));have:=an g3;replace eK:=(eJ.mem _ this).2 eK;replace g3:=eJ.bS g3 (fun h=>by first|exact dw.dZ g3 h|exact dw.eW g3 (by decide) h|(have:=(dw.base _ h).1;omega));have:=an dF;replace dh:=(eJ.mem _ this).2 dh;replace dF:=eJ.bS dF (fun h=>by first|exact dw.dZ dF h|exact dw.eW dF (by decide) h|(have:=(dw.base _ h).1;omega));have:=an cT;replace cR:=(eJ.mem _ this).2 cR;replace cT:=eJ.bS cT (fun h=>by first|exact dw.dZ cT h|exact dw.eW cT (by decide) h|(have:=(dw.base _ h).1;omega));replace cV:=cV.le (by decide) eJ.le;replace dE:=dE.le eJ.le;replace jb:=jb.le eJ.le;replace hM:=eJ.lt hM;have:=S.size;replace S:=S.cF eJ dw HE;replace dw:=qv;refine bz (o':=1) aO rfl rfl pG (by decide) rfl rfl ?_;refine ck (M:=oQ) pG rfl rfl cT rfl ((by obtain⟨_,_,he,_⟩:=dw.isSlice;rw[he];rfl)) cR (fun HF A8 fI=>?_);change HF.heap[_]? =some (Obj.cells #[.int .i64 d.1,vF] _ _)at A8;have:=an g2;replace cE:=(fI.mem _ this).2 cE;replace g2:=fI.bS g2 (fun hk=>by have hk:_=_:=hk;omega);have:=an g3;replace eK:=(fI.mem _ this).2 eK;replace g3:=fI.bS g3 (fun hk=>by have hk:_=_:=hk;omega);have:=an dF;replace dh:=(fI.mem _ this).2 dh;replace dF:=fI.bS dF (fun hk=>by have hk:_=_:=hk;omega);have:=an cT;replace cR:=(fI.mem _ this).2 cR
     replace cV:=cV.le (by decide) fI.le;replace dE:=dE.le fI.le;replace jb:=jb.le fI.le;replace dw:=dw.step fI (fun b hb hk=>by have hk:_=_:=hk;have:=(dw.base b hb);omega);replace hM:=fI.lt hM;have:=S.size;replace S:=S.trans fI (fun k hk h=>by have h:_=_:=h;subst h;first|(exfalso;omega)|(show _≤_;omega)|exact⟨by first|omega|assumption,(S.mem _ hk).1 ((fI.mem _ (an cT)).1 cR)⟩|exact .inl rfl|exact .inr rfl|exact .inr (.inl rfl)|exact .inr (.inr rfl)|exact rfl);have iD:=A8;clear cT;have cT:=iD;clear iD;refine ae (al (aj (bz (o':=1) aO rfl rfl pG (by decide) rfl rfl (aX aS rfl rfl rfl (by assumption) rfl (gO (vs:=[.string ⟨((fixF i x).1).toArray⟩,.string ⟨((fixF i x).2).toArray⟩]) ca rfl iK rfl rfl rfl dF ?_)))));refine eA (A:=RT.fd) (hn:=by decide) (M:=oQ) aS iK (by decide) rfl rfl hM (show RT.fd.V _ _ (fixF i x) _ from eC (jG.2 ⟨rfl,dT Mm.1 (by decide)⟩) (jG.2 ⟨rfl,dT Mm.2 (by decide)⟩) rfl rfl rfl rfl) (.inl rfl) (fun Mi Tx fA fJ=>?_);have:=an g2;replace cE:=(fJ.mem _ this).2 cE;replace g2:=fJ.aM g2;have:=an g3;replace eK:=(fJ.mem _ this).2 eK;replace g3:=fJ.aM g3;have:=an dF;replace dh:=(fJ.mem _ this).2 dh;replace dF:=fJ.aM dF;have:=an cT;replace cR:=(fJ.mem _ this).2 cR;replace cT:=fJ.aM cT;replace cV:=cV.le (by decide) fJ.le;replace dE:=dE.le fJ.le;replace jb:=jb.le fJ.le;replace dw:=dw.a8 fJ;replace hM:=fJ.lt hM;have:=S.size;replace S:=S.aB fJ;refine cv (M:=oQ) (base:=zk.heap.size) aS iK rfl rfl rfl rfl dw fA (ao _ _) (by simp;omega) (by simp;omega) (by have:=eJ.size;have:=fI.size;have:=fJ.size;omega) (fun fD lL Ty CI ga=>?_);have:=an g2
     replace cE:=(ga.mem _ this).2 cE;replace g2:=ga.bS g2 (fun h=>by first|exact dw.dZ g2 h|exact dw.eW g2 (by decide) h|(have:=(dw.base _ h).1;omega));have:=an g3;replace eK:=(ga.mem _ this).2 eK;replace g3:=ga.bS g3 (fun h=>by first|exact dw.dZ g3 h|exact dw.eW g3 (by decide) h|(have:=(dw.base _ h).1;omega));have:=an dF;replace dh:=(ga.mem _ this).2 dh;replace dF:=ga.bS dF (fun h=>by first|exact dw.dZ dF h|exact dw.eW dF (by decide) h|(have:=(dw.base _ h).1;omega));have:=an cT;replace cR:=(ga.mem _ this).2 cR;replace cT:=ga.bS cT (fun h=>by first|exact dw.dZ cT h|exact dw.eW cT (by decide) h|(have:=(dw.base _ h).1;omega));replace cV:=cV.le (by decide) ga.le;replace dE:=dE.le ga.le;replace jb:=jb.le ga.le;replace fA:=fA.le ga.le;replace hM:=ga.lt hM;have:=S.size;replace S:=S.cF ga dw HE;replace dw:=CI;refine bz (o':=1) aO rfl rfl pG (by decide) rfl rfl ?_;refine ck (M:=lL) pG rfl rfl cT rfl ((by obtain⟨_,_,he,_⟩:=dw.isSlice;rw[he];rfl)) cR (fun HG A9 fK=>?_);change HG.heap[_]? =some (Obj.cells #[.int .i64 d.1,fD] _ _)at A9;have:=an g2;replace cE:=(fK.mem _ this).2 cE;replace g2:=fK.bS g2 (fun hk=>by have hk:_=_:=hk;omega);have:=an g3;replace eK:=(fK.mem _ this).2 eK;replace g3:=fK.bS g3 (fun hk=>by have hk:_=_:=hk;omega);have:=an dF;replace dh:=(fK.mem _ this).2 dh;replace dF:=fK.bS dF (fun hk=>by have hk:_=_:=hk;omega);have:=an cT;replace cR:=(fK.mem _ this).2 cR;replace cV:=cV.le (by decide) fK.le;replace dE:=dE.le fK.le;replace jb:=jb.le fK.le;replace fA:=fA.le fK.le;replace dw:=dw.step fK (fun b hb hk=>by have hk:_=_:=hk;have:=(dw.base b hb);omega);replace hM:=fK.lt hM;have:=S.size
     replace S:=S.trans fK (fun k hk h=>by have h:_=_:=h;subst h;first|(exfalso;omega)|(show _≤_;omega)|exact⟨by first|omega|assumption,(S.mem _ hk).1 ((fK.mem _ (an cT)).1 cR)⟩|exact .inl rfl|exact .inr rfl|exact .inr (.inl rfl)|exact .inr (.inr rfl)|exact rfl);have iD:=A9;clear cT;have cT:=iD;clear iD;refine ae (al (aj (gO (vs:=[.int .i64 d.1,fD]) aO rfl kQ rfl rfl rfl cT ?_)));have rL:=dw.view (hn:=by decide) (by simp;omega);replace cE:rm lL fD _:=⟨cE,by first|exact dw.eW g2 (by decide)|(intro h;have:=(dw.base _ h).1;omega)⟩;replace eK:rm lL fD _:=⟨eK,by first|exact dw.eW g3 (by decide)|(intro h;have:=(dw.base _ h).1;omega)⟩;replace dh:rm lL fD _:=⟨dh,by first|exact dw.eW dF (by decide)|(intro h;have:=(dw.base _ h).1;omega)⟩;replace cR:rm lL fD _:=⟨cR,by first|exact dw.eW cT (by decide)|(intro h;have:=(dw.base _ h).1;omega)⟩;replace cV:=cV.le (by decide) (qP _ fD _);replace dE:=dE.le (qP _ fD _);replace jb:=jb.le (qP _ fD _);replace fA:=fA.le (qP _ fD _);replace hM:Lt (rm lL fD) _:=fun b hb=>hM b hb.1
     replace S:=S.freeze (v:=fD) (fun b hb=>by have:=(dw.base b hb).1;omega);clear dw;refine aP rfl rfl RB (x9 (d:=(d.1,[]++out++[fixF i x])) _ hM (eC (gC WL) rL rfl rfl rfl rfl) (fun y hy=>by have:=(yG.snoc Mm) y (by simpa using hy);omega)) (fun r14 Tz hc=>?_);obtain⟨rfl,kA⟩:=hc;rw[gm]at rL;have:=an g2;replace cE:=(kA.mem _ this).2 cE;replace g2:=kA.aM g2;have:=an g3;replace eK:=(kA.mem _ this).2 eK;replace g3:=kA.aM g3;have:=an dF;replace dh:=(kA.mem _ this).2 dh;replace dF:=kA.aM dF;have:=an cT;replace cR:=(kA.mem _ this).2 cR;replace cT:=kA.aM cT;replace cV:=cV.le (by decide) kA.le;replace dE:=dE.le kA.le;replace jb:=jb.le kA.le;replace fA:=fA.le kA.le;replace rL:=rL.le kA.le;replace hM:=kA.lt hM;have:=S.size;replace S:=S.aB kA;refine mB rfl rfl rfl (bO (v':= .bool (decide (mq (d.1,out++[fixF i x])=0))) (by rw[gm]) (ae ?_));refine bQ rfl (fun OO=>?_) (fun OO=>?_)
     ·refine aj (gO (vs:=[.int .i64 d.1,fD]) aO rfl kQ rfl rfl rfl cT ?_);refine eD (M:=rm lL fD) (vs:=[.int .i64 d.1,fD]) kQ rfl rfl (by intro u hu;simp at hu;rcases hu with rfl|rfl<;>first|rfl|exact jq (by assumption) rfl rfl) rfl rfl g3 eK (fun ZD HH jk=>?_);have:=an g2;replace cE:=(jk.mem _ this).2 cE;replace g2:=jk.bS g2 (fun hk=>by have hk:_=_:=hk;omega);have:=an g3;replace eK:=(jk.mem _ this).2 eK;have:=an dF;replace dh:=(jk.mem _ this).2 dh;replace dF:=jk.bS dF (fun hk=>by have hk:_=_:=hk;omega);have:=an cT;replace cR:=(jk.mem _ this).2 cR;replace cT:=jk.bS cT (fun hk=>by have hk:_=_:=hk;omega);replace cV:=cV.le (by decide) jk.le;replace dE:=dE.le jk.le;replace jb:=jb.le jk.le;replace fA:=fA.le jk.le;replace rL:=rL.le jk.le;replace hM:=jk.lt hM;have:=S.size;replace S:=S.trans jk (fun k hk h=>by have h:_=_:=h;subst h;first|(exfalso;omega)|(show _≤_;omega)|exact⟨by first|omega|assumption,(S.mem _ hk).1 ((jk.mem _ (an g3)).1 eK)⟩|exact .inl rfl|exact .inr rfl|exact .inr (.inl rfl)|exact .inr (.inr rfl)|exact rfl);have TA:=HH;clear g3;have g3:=TA;clear TA;refine ae (aj (ah rfl rfl (bI rfl rfl rfl (by omega) (ak rfl rfl (ae ?_)))));refine⟨rfl,(i+1,out++[fixF i x]),(.cons rfl (.cons rfl (.cons rfl (.cons rfl (.cons rfl .nil))))),?_,?_⟩
      ·exact⟨_,_,hM,S,cV,dE,g2,cE,g3,eK,rL,by rw[sH,WM,if_pos OO],by dsimp only;omega,by dsimp only;omega,yG.snoc Mm,by simp;omega⟩
      ·dsimp only;omega
     ·refine aZ (aj (ah rfl rfl (bI rfl rfl rfl (by omega) (ak rfl rfl (ae ?_)))));refine⟨rfl,(i+1,out),(.cons rfl (.cons rfl (.cons rfl (.cons rfl (.cons rfl .nil))))),?_,?_⟩
      ·exact⟨_,_,hM,S,cV,dE,g2,cE,g3,eK,jb,by rw[sH,WM,if_neg OO],by dsimp only;omega,by dsimp only;omega,yG,by dsimp only;omega⟩
      ·dsimp only;omega
   ·refine cY (al (aj (gO (vs:=[.int .i64 d.1,uo]) aO rfl kQ rfl rfl rfl g3 ?_)));refine eD (M:=M1) (vs:=[.int .i64 d.1,uo]) kQ rfl rfl (by intro u hu;simp at hu;rcases hu with rfl|rfl<;>first|rfl|exact jq (by assumption) rfl rfl) rfl rfl g2 cE (fun ZE HI nC=>?_);have:=an g2;replace cE:=(nC.mem _ this).2 cE;have:=an g3;replace eK:=(nC.mem _ this).2 eK;replace g3:=nC.bS g3 (fun hk=>by have hk:_=_:=hk;omega);replace cV:=cV.le (by decide) nC.le;replace dE:=dE.le nC.le;replace jb:=jb.le nC.le;replace hM:=nC.lt hM;have:=S.size;replace S:=S.trans nC (fun k hk h=>by have h:_=_:=h;subst h;first|(exfalso;omega)|(show _≤_;omega)|exact⟨by first|omega|assumption,(S.mem _ hk).1 ((nC.mem _ (an g2)).1 cE)⟩|exact .inl rfl|exact .inr rfl|exact .inr (.inl rfl)|exact .inr (.inr rfl)|exact rfl);have vN:=HI;clear g2;have g2:=vN;clear vN;refine ae (aQ ?_);have e:nY d=(d.1,out):=by rw[nY,sH,ya (by omega)]
    rw[e];refine su (vs:=[.int .i64 d.1,uo]) rfl rfl aO rfl kQ rfl g2 ⟨eC (gC WL) (jb.le (pD gB S)) rfl rfl rfl rfl,S.back⟩
  ·refine au rfl rfl rfl rfl (au rfl rfl rfl rfl (aJ rfl rfl rfl (ae (iY rfl (cY (al (aj (gO (vs:=[.int .i64 d.1,uo]) aO rfl kQ rfl rfl rfl g3 ?_))))))));refine eD (M:=M1) (vs:=[.int .i64 d.1,uo]) kQ rfl rfl (by intro u hu;simp at hu;rcases hu with rfl|rfl<;>first|rfl|exact jq (by assumption) rfl rfl) rfl rfl g2 cE (fun ZE HI nC=>?_);have:=an g2;replace cE:=(nC.mem _ this).2 cE;have:=an g3;replace eK:=(nC.mem _ this).2 eK;replace g3:=nC.bS g3 (fun hk=>by have hk:_=_:=hk;omega);replace cV:=cV.le (by decide) nC.le;replace dE:=dE.le nC.le;replace jb:=jb.le nC.le;replace hM:=nC.lt hM;have:=S.size;replace S:=S.trans nC (fun k hk h=>by have h:_=_:=h;subst h;first|(exfalso;omega)|(show _≤_;omega)|exact⟨by first|omega|assumption,(S.mem _ hk).1 ((nC.mem _ (an g2)).1 cE)⟩|exact .inl rfl|exact .inr rfl|exact .inr (.inl rfl)|exact .inr (.inr rfl)|exact rfl);have vN:=HI;clear g2;have g2:=vN;clear vN;refine ae (aQ ?_);have e:nY d=(d.1,out):=by rw[nY,sH,ya (by omega)]
   rw[e];refine su (vs:=[.int .i64 d.1,uo]) rfl rfl aO rfl kQ rfl g2 ⟨eC (gC WL) (jb.le (pD gB S)) rfl rfl rfl rfl,S.back⟩
end Go.K
namespace Go.K
open Go.Proofs
set_option maxRecDepth 10000
def jx (l:List Dc) (from_ step:Int):Nat→List En
 |0=>[]
 |k+1=>jx l from_ step k++(match l[k]? with|some d=>[(nY d,from_+step*(k:Int))]|none=>[])
theorem k4 (l:List Dc) (a s:Int):∀k,(jx l a s k).length=min k l.length
 |0=>by simp[jx]
 |k+1=>by
  rw[jx,bM,k4 l a s k]
  cases h:l[k]? with
  |none=>have:=List.getElem?_eq_none_iff.1 h;simp;omega
  |some d=>have:=(aw.1 h).1;simp;omega
theorem vP {l:List Dc} {a s:Int} {k:Nat} {d:Dc} (h:l[k]? =some d):jx l a s (k+1)=jx l a s k++[(nY d,a+s*(k:Int))]:=by rw[jx,h]
theorem vQ {l:List Dc} {a s:Int} {k:Nat} (h:l.length≤k):jx l a s (k+1)=jx l a s k:=by
 rw[jx,List.getElem?_eq_none_iff.2 h];simp
theorem Ba {l:List Dc} {a s:Int} {n i:Nat} (h:l.length≤i∨n≤i) (h1:i≤n):jx l a s i=jx l a s n:=by
 induction n with
 |zero=>have:i=0:=by omega
        rw[this]
 |succ n ih=>
  rcases fy h1 with e|dW
  ·rw[e]
  ·rcases h with h|h
   ·rw[vQ (by omega)];exact ih (.inl h) (by omega)
   ·omega
theorem KH {s k:Int} (h:0≤s∧s≤1000) (hk:0≤k∧k≤100):0≤s*k∧s*k≤100000:=
 ⟨Int.mul_nonneg h.1 hk.1,Int.le_trans (Int.mul_le_mul h.2 hk.2 hk.1 (by omega)) (by omega)⟩
theorem CJ {M:aL} {l:List Dc} {v0:Value} {most:Nat} {a s:Int} (w0:World) (hM:Lt M w0) (hv:(RT.dc.sl).V M w0 l v0) (hm:most≤100) (ha:0≤a∧a≤1000000) (hs:0≤s∧s≤1000):
  Spec Tryz.prog 21 #[v0,.int .i64 (most:Int),.int .i64 a,.int .i64 s] w0 (fun v w=>(RT.en.sl).V M w (jx l a s most) v∧Step M w0 M w aE):=by
 have gB:=hM;refine bu (args:=[_,_,_,_]) (fn:=Tryz.f21) Tryz.func21 rfl (n:=37) Tryz.ntmps21 ?_;have S:Step M w0 M w0 aE:=(ar _ _).cw (fun _ h=>h.elim) (fun _ h=>h.elim);refine al (aj (ak rfl rfl (ae (al (aj (ak rfl rfl (ae (al (al (aj (ak rfl rfl ?_)))))))))));refine ae (bh ?_);refine dz (σ:=Nat×Value) (fun q=>[(0,v0),(1,.int .i64 (most:Int)),(2,.int .i64 a),(3,.int .i64 s),(9,q.2),(10,.int .i64 (q.1:Int))]) (fun q w=>∃M',Lt M' w∧Step M w0 M' w aE∧Own RT.en 43 M' w w0.heap.size q.2 (jx l a s q.1)∧(RT.dc.sl).V M' w l v0∧q.1≤most∧q.1≤l.length) (fun q=>most-q.1) (0,.slice none 0 0) (.cons rfl (.cons rfl (.cons rfl (.cons rfl (.cons rfl (.cons rfl .nil)))))) ?_ ?_
 ·exact⟨M,hM,S,dQ _ _ _ _ _,hv,bH _,bH _⟩
 ·rintro⟨i,u⟩ w ⟨M1,hM,S,ho,hv,hi,nR⟩;dsimp only at ho hi nR ⊢;refine al (al (aj (ah rfl rfl (ah rfl rfl (bK Tryz.underlying36 rfl hv rfl (cz rfl rfl rfl (ah rfl rfl ?_)))))));refine aR (g:=15) rfl (fun ZF=>?_) (fun ZF=>?_)
  ·refine aq rfl rfl (ah rfl rfl (aq rfl rfl (ah rfl rfl (aq rfl rfl (cz rfl rfl rfl (aW rfl rfl rfl (ae ?_)))))));refine bQ rfl (fun c3=>?_) (fun c3=>?_)
   ·refine aZ (al (bh (aj (ah rfl rfl (ah rfl rfl (ah rfl rfl ?_))))));refine cu (M:=M1) Tryz.underlying36 kQ rfl rfl rfl hv (ao _ _) (by omega) (fun u5 d EY gU=>?_);rw[aC]at EY;have hsi:=KH (k:=(i:Int)) hs (by omega);refine ch (M:=M1) (A:=RT.dc) aO rfl kQ (by decide) rfl rfl rfl gU (ao _ _) (fun v5 pW=>?_);refine aP rfl rfl E65 (E7 _ hM pW) (fun r5 w5 hc=>?_);obtain⟨sH,s5⟩:=hc;replace hv:=hv.le s5.le;replace ho:=ho.a8 s5;replace hM:=s5.lt hM;have:=S.size;replace S:=S.aB s5;refine ah rfl rfl (ah rfl rfl (ah rfl rfl (Rg.Nl rfl rfl rfl (by omega) (bI rfl rfl rfl (by omega) ?_))));obtain⟨uf,rfl⟩:=Ho sH;refine eT (places:=[(0,2),(2,1)]) cP xh XF rfl ⟨_,_,rfl,rfl,_,_,rfl,rfl,rfl⟩ (out:=[_,_,_]) ⟨0,[_,_],rfl,rfl,by simp[Value.cells],2,[_],rfl,rfl,by simp[Value.cells],rfl⟩ ?_;refine eA (A:=RT.en) (hn:=by decide) (M:=M1) dD xh (by decide) rfl rfl hM (show RT.en.V _ _ (nY d,a+s*(i:Int)) _ from Hp sH (by omega)) (.inl rfl) (fun aeT aeU CK Bb=>?_);replace hv:=hv.le Bb.le;replace sH:=sH.le Bb.le;replace ho:=ho.a8 Bb;replace hM:=Bb.lt hM;have:=S.size;replace S:=S.aB Bb;refine cv (M:=M1) (base:=w0.heap.size) dD xh rfl rfl rfl rfl ho CK (ao _ _) (by have:=k4 l a s i;simp;omega) (by have:=k4 l a s i;simp;omega) (S.size) (fun TB TC aeV OP Bc=>?_);replace hv:=hv.le Bc.le;replace sH:=sH.le Bc.le;replace CK:=CK.le Bc.le;replace hM:=Bc.lt hM;have:=S.size;replace S:=S.cF Bc ho (aT _);replace ho:=OP;refine ak rfl rfl (ae (aj (ah rfl rfl (bI rfl rfl rfl (by omega) (ak rfl rfl (ae ?_))))));refine⟨rfl,(i+1,TB),(.cons rfl (.cons rfl (.cons rfl (.cons rfl (.cons rfl (.cons rfl .nil)))))),?_,?_⟩
    ·exact⟨TC,hM,S,by rw[vP EY];exact ho,hv,by dsimp only;omega,by dsimp only;omega⟩
    ·dsimp only;omega
   ·refine cY (al (aj (ah rfl rfl (ak rfl rfl (ae (aQ ?_))))));rw[←Ba (i:=i) (n:=most) (by omega) hi];exact aV rfl rfl ⟨ho.close gB S (by have:=k4 l a s i;omega),S.back⟩
  ·refine au rfl rfl rfl rfl (au rfl rfl rfl rfl (au rfl rfl rfl rfl (aJ rfl rfl rfl (ae (iY rfl (cY (al (aj (ah rfl rfl (ak rfl rfl (ae ?_)))))))))));refine aQ ?_;rw[←Ba (i:=i) (n:=most) (by omega) hi];exact aV rfl rfl ⟨ho.close gB S (by have:=k4 l a s i;omega),S.back⟩
end Go.K
namespace Go.K
open Go.Maps (Keyed)
structure fe (P:Program) (kt:TypeId) (w:World) (b:Nat) (es:List MapEntry) (clock:Nat):Prop where
 at_:w.heap[b]? =some (.map es.toArray clock)
 born:es.Pairwise fun x y=>x.born≠y.born
 lt:∀e∈es,e.born<clock
 keys:es.Pairwise fun x y=>x.key≠y.key
 ok:∀e∈es,∃l,keyOf P kt e.key=some l
def eg (zv:Value) (es:List MapEntry) (key v:Value):Prop:=(∃e∈es,e.key=key∧v=e.val)∨((∀e∈es,e.key≠key)∧v=zv)
section
variable {P:Program} {kt:TypeId} {w:World} {b clock:Nat} {es:List MapEntry}
theorem fe.step {M M' N:aL} {w':World} (h:fe P kt w b es clock) (s:Step M w M' w' N) (hn: ¬N b):fe P kt w' b es clock:=⟨s.bS h.at_ hn,h.born,h.lt,h.keys,h.ok⟩
theorem fe.a8 {M M':aL} {w':World} (h:fe P kt w b es clock) (s:Step M w M' w' aE):fe P kt w' b es clock:=h.step s fun h=>h
theorem gI {α:Type} {R:α→α→Prop} {l:List α} (h:l.Pairwise R) {i j:Nat} {x y:α} (hi:l[i]? =some x) (hj:l[j]? =some y) (iy:i<j):R x y:=by
 obtain⟨h1,h2⟩:=aw.1 hi;obtain⟨h3,h4⟩:=aw.1 hj;have:=List.pairwise_iff_getElem.1 h i j h1 h3 iy
 rwa [h2,h4]at this
theorem fe.D1 (h:fe P kt w b es clock) {x y:MapEntry} (hx:x∈es) (hy:y∈es) (e:x.key=y.key):x=y:=by
 obtain⟨i,hi⟩:=bN.1 hx;obtain⟨j,hj⟩:=bN.1 hy;rcases lT i j with h1|h1|h1
 ·exact absurd e (gI h.keys hi hj h1)
 ·subst h1;rw[hi]at hj;exact aN hj
 ·exact absurd e.symm (gI h.keys hj hi h1)
theorem fe.Bd (h:fe P kt w b es clock) {i j:Nat} {x y:MapEntry} (hi:es[i]? =some x) (hj:es[j]? =some y) (e:x.born=y.born):i=j:=by
 rcases lT i j with h1|h1|h1
 ·exact absurd e (gI h.born hi hj h1)
 ·exact h1
 ·exact absurd e.symm (gI h.born hj hi h1)
theorem fe.val_one (h:fe P kt w b es clock) {zv key v v':Value} (h1:eg zv es key v) (h2:eg zv es key v'):v=v':=by
 rcases h1 with⟨e,he,hk,hv⟩|⟨hn,hv⟩
 ·rcases h2 with⟨e',oT,rZ,pR⟩|⟨Mp,_⟩
  ·have:=h.D1 he oT (hk.trans rZ.symm);rw[hv,pR,this]
  ·exact absurd hk (Mp e he)
 ·rcases h2 with⟨e',oT,rZ,_⟩|⟨_,pR⟩
  ·exact absurd rZ (hn e' oT)
  ·rw[hv,pR]
theorem dG {r:Nat} {a:Array MapEntry} {c:Nat} (hb:w.heap[r]? =some (.map a c)):(getObj r).run P w= .ok (.map a c) w:=by simp[getObj,Sem.run,hb]
theorem run_setObj_map {r:Nat} {a:Array MapEntry} {c:Nat} {o:Obj} (hb:w.heap[r]? =some (.map a c)):(setObj r o).run P w= .ok () {w with heap:=w.heap.setIfInBounds r o}:=by simp[setObj,Sem.run,hb]
theorem fe.push (h:fe P kt w b es clock) {key v:Value} {kl:Lit} (kG:keyOf P kt key=some kl) (hn:∀e∈es,e.key≠key) {w':World} (hw:w'.heap[b]? =some (.map (es++([⟨key,v,clock⟩]:List MapEntry)).toArray (clock+1))):fe P kt w' b (es++[⟨key,v,clock⟩]) (clock+1):=
 ⟨hw,List.pairwise_append.2 ⟨h.born,List.pairwise_singleton _ _,fun x hx y hy=>by rw[cI.1 hy];have:=h.lt x hx;show x.born≠clock;omega⟩,(fun e he=>by
  rcases dy.1 he with he|he
  ·have:=h.lt e he;omega
  ·rw[cI.1 he];exact Nat.lt_succ_self _),List.pairwise_append.2 ⟨h.keys,List.pairwise_singleton _ _,fun x hx y hy=>by rw[cI.1 hy];exact hn x hx⟩,(fun e he=>by
  rcases dy.1 he with he|he
  ·exact h.ok e he
  ·rw[cI.1 he];exact⟨kl,kG⟩)⟩
theorem eg.push {zv key:Value} {s:Nat} (hn:∀e∈es,e.key≠key) (iE v':Value):eg zv (es++[⟨key,zv,s⟩]) iE v'↔eg zv es iE v':=by
 constructor
 ·rintro(⟨e,he,hk,hv⟩|⟨h1,h2⟩)
  ·rcases dy.1 he with he|he
   ·exact .inl ⟨e,he,hk,hv⟩
   ·rw[cI.1 he]at hk hv;exact .inr ⟨fun e he=>by rw[←hk];exact hn e he,hv⟩
  ·exact .inr ⟨fun e he=>h1 e (jA _ he),h2⟩
 ·rintro(⟨e,he,hk,hv⟩|⟨h1,h2⟩)
  ·exact .inl ⟨e,jA _ he,hk,hv⟩
  ·by_cases hk:key=iE
   ·exact .inl ⟨⟨key,zv,s⟩,by simp,hk,h2⟩
   ·exact .inr ⟨fun e he=>by
     rcases dy.1 he with he|he
     ·exact h1 e he
     ·rw[cI.1 he];exact hk,h2⟩
end
section
variable {P:Program} {r:Option Nat} {n:Nat} {L:Sl} {ds:List Deferred} {w:World} {K:Kt} {ops:Array Oper} {rest:List Oper} {d:Nat} {x y z:Operand} {ty:TypeId} {pos:String} {af:Array Edge}
variable {kt:TypeId} {M:aL} {b clock:Nat} {es:List MapEntry}
theorem Rg.Be {t e:TypeId} (M:aL) (ht:P.underlying t=some (.map kt e)) (hd:Nat.blt d n=true)
  (k:∀b w',w.heap.size≤b→b<w'.heap.size→fe P kt w' b [] 0→Step M w (ins M b) w' aE→Rg P r n ops rest ((d,.map (some b))::L) ds w' K):
  Rg P r n ops ({dst:=some d,op:= .makeMap t none,type:=ty,pos,after:=af,guard:=none}::rest) L ds w K:=by
 refine .op (fun _ h=>by cases h) rfl rfl hd (.map (some w.heap.size)) (w.alloc (.map #[] 0)) (fun ρ hρ=>?_) (k w.heap.size _ (aT _) (by simp) ⟨cJ w _,List.Pairwise.nil,(fun e he=>by cases he),List.Pairwise.nil,(fun e he=>by cases he)⟩ ((dv M w _).own (aT _) (by simp)));simp only[execOp];simp[Instr.makeMap,newObj,Sem.run,run_underlying ht]
theorem Rg.mapEntry {t e:TypeId} {zv key:Value} {size bytes:Nat} {kl:Lit} (ht:P.underlying t=some (.map kt e)) (Kk:Keyed P kt) (hi:TI P e zv size bytes) (hx:ev L x=some (.map (some b))) (hy:ev L y=some key) (hd:Nat.blt d n=true) (kG:keyOf P kt key=some kl) (h:fe P kt w b es clock) (hm:M b)
  (k:∀w' nZ CL v s,fe P kt w' b nZ CL→eg zv es key v→(⟨key,v,s⟩:MapEntry)∈nZ→(∀iE v',eg zv nZ iE v'↔eg zv es iE v')→((nZ.map (·.key)=es.map (·.key)∧∃e∈es,e.key=key)∨(nZ.map (·.key)=es.map (·.key)++[key]∧∀e∈es,e.key≠key))→Step M w M w' (fun k=>k=b)→Rg P r n ops rest ((d,.tuple #[v,.int .i64 (s:Nat)])::L) ds w' K):
  Rg P r n ops ({dst:=some d,op:= .mapEntry t x y,type:=ty,pos,after:=af,guard:=none}::rest) L ds w K:=by
 have dW:=an h.at_;rcases Kk.find w kG es h.ok with⟨h1,h2⟩|⟨j,e0,h1,h2,h3⟩
 ·obtain⟨inf,i1,i2,_,_⟩:=hi.get;have hz:(zeroValue e).run P w= .ok zv w:=by simp[zeroValue,typeInfo,i1,i2]
  have hw:({w with heap:=w.heap.setIfInBounds b (.map (es.toArray.push ⟨key,zv,clock⟩) (clock+1))}:World).heap[b]? =some (.map (es++([⟨key,zv,clock⟩]:List MapEntry)).toArray (clock+1)):=by
   simp[bV,dW]
  refine .op (fun _ h=>by cases h) rfl rfl hd _ _ (fun ρ hρ=>?_) (k _ _ _ zv clock (h.push kG h2 hw) (Or.inr ⟨h2,rfl⟩) (by simp) (eg.push h2) (Or.inr ⟨by simp,h2⟩) (iB M hm));simp only[execOp,hρ x _ hx,hρ y _ hy,Instr.mapEntry,bL,run_underlying ht,cA,dG h.at_,Kk.check w false kG,h1,hz,run_setObj_map h.at_];simp[goInt]
 ·have he:e0∈es:=aG h2
  have HJ:es.toArray.modify j (fun e=>{e with key:=key})=es.toArray:=by
   apply Array.ext_getElem?;intro i;rw[rH]
   split
   ·rename_i TD
    subst TD;simp only[eL,h2,dx];rw[←h3]
   ·rfl
  have hw:({w with heap:=w.heap.setIfInBounds b (.map es.toArray clock)}:World).heap[b]? =some (.map es.toArray clock):=by simp[bV,dW]
  have hj:es.toArray[j]? =some e0:=by simpa using h2
  have km:(Instr.keyThatStays ((Option.map (fun(e:MapEntry)=>e.key) es.toArray[j]?).getD key) key).run P w= .ok key w:=by
   rw[hj];simp only[dx,fF,h3];exact Kk.stays w kG
  refine .op (fun _ h=>by cases h) rfl rfl hd _ _ (fun ρ hρ=>?_) (k _ es clock e0.val e0.born ⟨hw,h.born,h.lt,h.keys,h.ok⟩ (Or.inl ⟨e0,he,h3,rfl⟩) (by rw[←h3];exact he) (fun _ _=>Iff.rfl) (Or.inl ⟨rfl,e0,he,h3⟩) (iB M hm));simp only[execOp,hρ x _ hx,hρ y _ hy,Instr.mapEntry,bL,run_underlying ht,cA,dG h.at_,Kk.check w false kG,h1,km,HJ,run_setObj_map h.at_];simp[goInt,hj]
theorem Rg.entryStore {t:TypeId} {key v0 val:Value} {s:Nat} (hx:ev L x=some (.map (some b))) (hy:ev L y=some (.int .i64 (s:Int))) (hz:ev L z=some val) (h:fe P kt w b es clock) (hm:M b) (nV:(⟨key,v0,s⟩:MapEntry)∈es)
  (k:∀w' nZ,fe P kt w' b nZ clock→nZ.map (·.key)=es.map (·.key)→(∀zv iE v',eg zv nZ iE v'↔(iE=key∧v'=val)∨(iE≠key∧eg zv es iE v'))→Step M w M w' (fun k=>k=b)→Rg P r n ops rest L ds w' K):
  Rg P r n ops ({dst:=none,op:= .entryStore t x y z,type:=ty,pos,after:=af,guard:=none}::rest) L ds w K:=by
 have dW:=an h.at_;obtain⟨i,hi⟩:=bN.1 nV;have nR:=(aw.1 hi).1
 have ZG:es.toArray.findIdx? (fun e=>(e.born:Int)==(s:Int))=some i:=by
  rw[List.findIdx?_toArray,List.findIdx?_eq_some_iff_getElem];refine⟨nR,by rw[(aw.1 hi).2];simp,fun j hj=>?_⟩;have qG:j<es.length:=by omega
  have:=fun e=>h.Bd (av qG) hi e
  simp only[Bool.not_eq_true,beq_eq_false_iff_ne,ne_eq];intro e;have e2:((es[j]).born:Int)=(s:Int):=by simpa using e
  have:=this (by show(es[j]).born=s;omega);omega
 obtain⟨nZ,sI⟩:∃nZ,nZ=es.set i ⟨key,val,s⟩:=⟨_,rfl⟩
 have HJ:es.toArray.modify i (fun e=>{e with val:=val})=nZ.toArray:=by
  apply Array.ext_getElem?;intro j;rw[rH,sI];simp only[eL,ey]
  split
  ·rename_i TD
   subst TD;rw[hi];simp
  ·rfl
 have gT:∀j e',nZ[j]? =some e'→(j=i∧e'=⟨key,val,s⟩)∨(j≠i∧es[j]? =some e'):=fun j e' hj=>by
  rw[sI,ey]at hj
  split at hj
  ·rename_i iy
   left;exact⟨iy.symm,by simpa[nR]using hj.symm⟩
  ·rename_i iy
   exact .inr ⟨fun e=>iy e.symm,hj⟩
 have n0:nZ.map (·.key)=es.map (·.key):=by
  rw[sI,List.map_set];apply lV;intro j;rw[ey]
  split
  ·rename_i iy
   subst iy;have e:=(aw.1 hi).2;simp[nR,e]
  ·rfl
 have HK:nZ.map (·.born)=es.map (·.born):=by
  rw[sI,List.map_set];apply lV;intro j;rw[ey]
  split
  ·rename_i iy
   subst iy;have e:=(aw.1 hi).2;simp[nR,e]
  ·rfl
 have hw:({w with heap:=w.heap.setIfInBounds b (.map nZ.toArray clock)}:World).heap[b]? =some (.map nZ.toArray clock):=by simp[bV,dW]
 have eN:∀e'∈nZ,(e'=⟨key,val,s⟩)∨(e'∈es∧e'.key≠key):=fun e' oT=>by
  obtain⟨j,hj⟩:=bN.1 oT;rcases gT j e' hj with⟨_,e⟩|⟨fg,tp⟩
  ·exact .inl e
  ·refine .inr ⟨aG tp,fun e=>fg ?_⟩;rcases lT j i with h1|h1|h1
   ·exact absurd e (gI h.keys tp hi h1)
   ·exact h1
   ·exact absurd e.symm (gI h.keys hi tp h1)
 have HL:(⟨key,val,s⟩:MapEntry)∈nZ:=aG (i:=i) (by rw[sI,ey];simp[nR])
 have hold:∀e'∈es,e'.key≠key→e'∈nZ:=fun e' oT fg=>by
  obtain⟨j,hj⟩:=bN.1 oT;refine aG (i:=j) ?_;rw[sI,ey,if_neg]
  ·exact hj
  ·rintro rfl;rw[hi]at hj;cases hj;exact fg rfl
 have hW:fe P kt {w with heap:=w.heap.setIfInBounds b (.map nZ.toArray clock)} b nZ clock:=by
  refine⟨hw,?_,fun e' oT=>?_,?_,fun e' oT=>?_⟩
  ·have:=dR.2 h.born;rw[←HK]at this;exact dR.1 this
  ·rcases eN e' oT with e|⟨h1,_⟩
   ·rw[e];exact(h.lt _ nV:s<clock)
   ·exact h.lt _ h1
  ·have:=dR.2 h.keys;rw[←n0]at this;exact dR.1 this
  ·rcases eN e' oT with e|⟨h1,_⟩
   ·rw[e];exact(h.ok _ nV:∃l,keyOf P kt key=some l)
   ·exact h.ok _ h1
 refine .Rb (fun _ h=>by cases h) rfl rfl _ (fun ρ hρ=>?_) (k _ nZ hW n0 (fun zv iE v'=>?_) (iB M hm))
 ·simp only[execOp,hρ x _ hx,hρ y _ hy,hρ z _ hz,Instr.entryStore,bL,dG h.at_,cA,asInt,asIntOf,dS,ZG,HJ,run_setObj_map h.at_]
 ·constructor
  ·rintro(⟨e',oT,hk,hv⟩|⟨h1,h2⟩)
   ·rcases eN e' oT with e|⟨h3,h4⟩
    ·subst e;exact .inl ⟨hk.symm,hv⟩
    ·exact .inr ⟨by rw[←hk];exact h4,.inl ⟨e',h3,hk,hv⟩⟩
   ·have fg:iE≠key:=fun e=>h1 _ HL e.symm
    exact .inr ⟨fg,.inr ⟨fun e' oT=>fun e=>by
     by_cases h5:e'.key=key
     ·exact fg (e.symm.trans h5)
     ·exact h1 e' (hold e' oT h5) e,h2⟩⟩
  ·rintro(⟨rfl,rfl⟩|⟨fg,⟨e',oT,hk,hv⟩|⟨h1,h2⟩⟩)
   ·exact .inl ⟨_,HL,rfl,rfl⟩
   ·exact .inl ⟨e',hold e' oT (by rw[hk];exact fg),hk,hv⟩
   ·exact .inr ⟨fun e' oT=>by
     rcases eN e' oT with e|⟨h3,_⟩
     ·rw[e];exact fun e=>fg e.symm
     ·exact h1 e' h3,h2⟩
theorem Rg.rn {t e:TypeId} {zv key:Value} {size bytes:Nat} {kl:Lit} (ht:P.underlying t=some (.map kt e)) (Kk:Keyed P kt) (hi:TI P e zv size bytes) (hx:ev L x=some (.map (some b))) (hy:ev L y=some key) (hd:Nat.blt d n=true) (kG:keyOf P kt key=some kl) (h:fe P kt w b es clock)
  (k:∀v,eg zv es key v→Rg P r n ops rest ((d,v)::L) ds w K):
  Rg P r n ops ({dst:=some d,op:= .lookup t x y false,type:=ty,pos,after:=af,guard:=none}::rest) L ds w K:=by
 rcases Kk.find w kG es h.ok with⟨h1,h2⟩|⟨j,e0,h1,h2,h3⟩
 ·obtain⟨inf,i1,i2,_,_⟩:=hi.get;have hz:(zeroValue e).run P w= .ok zv w:=by simp[zeroValue,typeInfo,i1,i2]
  refine .op (fun _ h=>by cases h) rfl rfl hd zv w (fun ρ hρ=>?_) (k zv (Or.inr ⟨h2,rfl⟩));simp only[execOp,hρ x _ hx,hρ y _ hy,Instr.lookup,bL,run_underlying ht,cA,dG h.at_,dS,Kk.check w _ kG,h1,hz];simp
 ·refine .op (fun _ h=>by cases h) rfl rfl hd e0.val w (fun ρ hρ=>?_) (k e0.val (Or.inl ⟨e0,aG h2,h3,rfl⟩));simp only[execOp,hρ x _ hx,hρ y _ hy,Instr.lookup,bL,run_underlying ht,cA,dG h.at_,dS,Kk.check w _ kG,h1];simp
end
end Go.K
namespace Go.K
open Go.Proofs
set_option maxRecDepth 10000
open Go.Maps (Keyed)
def kv (t:Fd):Value:= .agg #[.string ⟨t.1.toArray⟩,.string ⟨t.2.toArray⟩]
theorem sJ {a b:Fd} (h:kv a=kv b):a=b:=by
 unfold kv at h;simp only[Value.agg.injEq,Array.mk.injEq,List.cons.injEq,Value.string.injEq,ByteArray.mk.injEq,and_true]at h;exact Prod.ext h.1 h.2
theorem HM:laidOutB Tryz.prog=true:=by kernel_rfl
theorem HN:Tryz.prog.types.size=356:=by kernel_rfl
theorem yb:Keyed Tryz.prog 47:=Keyed.of_law (deep_law_laid HM (m:=2) (k:=47) (by omega) (by rw[HN];decide) (by kernel_rfl) (by kernel_rfl))
theorem TE:Tryz.prog.keyType 47=true:=by kernel_rfl
theorem D2:Tryz.prog.cellsOf 47=2:=by kernel_rfl
theorem KI:Tryz.prog.cellsOf 9=1:=by kernel_rfl
theorem HO (t:Fd) (h1:t.1.length≤140737488355328) (h2:t.2.length≤140737488355328):∃l,keyOf Tryz.prog 47 (kv t)=some l:=by
 have e1:(⟨t.1.toArray⟩:ByteArray).size=t.1.length:=by simp[ByteArray.size]
 have e2:(⟨t.2.toArray⟩:ByteArray).size=t.2.length:=by simp[ByteArray.size]
 have hs:∀(s:ByteArray),s.size≤maxLen→Tryz.prog.keyLits 356 9 [.string s]=some [.string s.data.toList]:=fun s hs=>by
  show(match Tryz.prog.underlying 9,[Value.string s]with|_,_=>_)=_;rw[aD];exact if_pos hs
 unfold keyOf kv;rw[bw];simp only[TE,Value.formed,bw,D2,HN]
 have key:∃ls,Tryz.prog.keyLits (356+1) 47 [.string ⟨t.1.toArray⟩,.string ⟨t.2.toArray⟩]=some ls:=by
  unfold Program.keyLits;simp only[bw];rw[if_pos ⟨by rw[D2];rfl,by kernel_rfl⟩];simp only[List.mapM_cons,List.mapM_nil,KI];have g1:=hs ⟨t.1.toArray⟩ (by rw[e1];unfold maxLen;omega);have g2:=hs ⟨t.2.toArray⟩ (by rw[e2];unfold maxLen;omega);refine⟨[.string (⟨t.1.toArray⟩:ByteArray).data.toList,.string (⟨t.2.toArray⟩:ByteArray).data.toList],?_⟩;simp only[List.drop_zero,List.drop_succ_cons,List.take_succ_cons,List.take_zero,g1,g2];rfl
 obtain⟨ls,hls⟩:=key;exact⟨.string (keyBytes ls),by rw[if_pos (by simp)];show Option.map _ (Tryz.prog.keyLits (356+1) 47 [.string ⟨t.1.toArray⟩,.string ⟨t.2.toArray⟩])=_;rw[hls];rfl⟩
end Go.K
namespace Go.K
open Go.Proofs
set_option maxRecDepth 10000
def fL (x:Fd):List (Fd×Nat):=(words x.2).zipIdx.map fun p=>((x.1,p.1),p.2)
def bX (l:List Fd):List (Fd×Nat):=l.flatMap fL
theorem mS (x:Fd):(fL x).length=(words x.2).length:=by simp[fL]
theorem HP {x:Fd} {k:Nat} {y:List UInt8} (h:(words x.2)[k]? =some y):(fL x)[k]? =some ((x.1,y),k):=by
 simp[fL,List.getElem?_zipIdx,h]
theorem qy {fs:List Fd} {i:Nat} {x:Fd} (h:fs[i]? =some x):bX (fs.take (i+1))=bX (fs.take i)++fL x:=by
 rw[bP,h];simp[bX]
structure OQ (P:Program) (g:FuncId) (cap:List Value) (B:Nat) (J:List (Fd×Nat)→aL→World→Prop):Prop where
 enters:Enters P g
 step:∀ts M w M' w',J ts M w→Step M w M' w' aE→J ts M' w'
 tell:∀ts M w (t:Fd) (i:Nat),J ts M w→Lt M w→t.1.length≤900000→t.2.length≤140737488355328→i≤1000000→ts.length≤10000000→Spec P g ([kv t,.int .i64 (i:Int)]++cap).toArray w (fun _ w'=>∃M',Lt M' w'∧J (ts++[(t,i)]) M' w'∧Step M w M' w' (kN M B))
theorem yc {M:aL} {d:Dc} {v0:Value} {g:FuncId} {cap:List Value} {B:Nat} {J:List (Fd×Nat)→aL→World→Prop} (w0:World) (hM:Lt M w0) (hv:RT.dc.V M w0 d v0) (hl:∀f∈d.2,f.1.length≤900000∧f.2.length≤900000) (WK:d.2.length≤8) (hT:OQ Tryz.prog g cap B J) (hJ:J [] M w0):
  Spec Tryz.prog 154 #[v0,.func (.func g) #[] cap.toArray] w0 (fun v w=>∃M',Lt M' w∧J (bX d.2) M' w∧Step M w0 M' w (kN M B)):=by
 refine bu (args:=[_,_]) (fn:=Tryz.f154) Tryz.func154 rfl (n:=33) Tryz.ntmps154 ?_;have S:Step M w0 M w0 (kN M B):=(ar _ _).cw (fun _ h=>h.elim) (fun _ h=>h.2);refine al (aj ?_);refine Rg.iM (A:=RT.dc) rfl rfl hM hv rfl (fun u0 w1 cV s0 _=>?_);replace hJ:=hT.step _ _ _ _ _ hJ s0;replace hM:=s0.lt hM;have:=S.size;replace S:=S.aB s0;refine ae (al (aj ?_));refine ay (M:=M) (A:=RT.dc) (B:=(RT.fd).sl) aO rfl rfl pG (by decide) (zf) rfl rfl (by decide) (by assumption) (by repeat (first|exact ao _ _|refine aU (br (by assumption)) ?_)) (fun tU jw=>?_);refine bg (M:=M) aS rfl rfl rfl rfl rfl (by assumption) (by repeat (first|exact ao _ _|refine aU (br (by assumption)) ?_)) (fun xq l8=>?_);refine bK aS rfl l8 rfl (ah rfl rfl (ae (bh ?_)));refine dz (σ:=Nat) (fun i=>[(1,.func (.func g) #[] cap.toArray),(9,xq),(10,.int .i64 (d.2.length:Int)),(11,.int .i64 (i:Int))]) (fun i w=>∃M',Lt M' w∧Step M w0 M' w (kN M B)∧(RT.fd.sl).V M' w d.2 xq∧J (bX (d.2.take i)) M' w∧i≤d.2.length∧(bX (d.2.take i)).length≤900001*i) (fun i=>d.2.length-i) 0 (.cons rfl (.cons rfl (.cons rfl (.cons rfl .nil)))) ?_ ?_
 ·exact⟨_,hM,S,l8,hJ,bH _,aT _⟩
 ·rintro i w ⟨M1,hM,S,oe,hJ,hi,DM⟩;refine al (aj (cz rfl rfl rfl (ae (al ?_))));refine bQ rfl (fun c2=>?_) (fun c2=>?_)
  ·refine aZ (al (bh (al (aj ?_))));refine cu (M:=M1) aS iK rfl rfl rfl oe (ao _ _) (by omega) (fun u3 x JI iQ=>?_);rw[aC]at JI;have yI:=hl _ (aG JI);refine ch (M:=M1) (A:=RT.fd) ca rfl iK (by decide) rfl rfl rfl iQ (ao _ _) (fun v3 px=>?_);refine ug (A:=RT.fd) (M:=M1) iK rfl rfl rfl rfl rfl (by assumption) (ao _ _) hM (fun Ke ait uU KJ aiu=>?_);replace oe:=oe.le KJ.le;replace hJ:=hT.step _ _ _ _ _ hJ KJ;replace hM:=KJ.lt hM;have:=S.size;replace S:=S.aB KJ;refine ae (al (aj ?_));refine ay (M:=M1) (A:=RT.fd) (B:=RT.str) ca rfl rfl I9 (by decide) (Md) rfl rfl (by decide) (by assumption) (by repeat (first|exact ao _ _|refine aU (br (by assumption)) ?_)) (fun Kg AG=>?_);refine bg (M:=M1) aD rfl rfl rfl rfl rfl AG (ao _ _) (fun v4 nX=>?_);obtain rfl:=dP nX;refine aP rfl rfl RE (vz (l:=x.2) _ hM yI.2) (fun v5 w5 hc=>?_);obtain⟨TF,s5⟩:=hc;replace oe:=oe.le s5.le;replace uU:=uU.le (by decide) s5.le;replace hJ:=hT.step _ _ _ _ _ hJ s5;replace hM:=s5.lt hM;have:=S.size;replace S:=S.aB s5;have WI:=k3 x.2;refine bK aF rfl TF rfl (ah rfl rfl (ae (bh ?_)));refine dz (σ:=Nat) (fun k=>[(1,.func (.func g) #[] cap.toArray),(5,Ke),(9,xq),(10,.int .i64 (d.2.length:Int)),(11,.int .i64 (i:Int)),(17,v5),(18,.int .i64 ((words x.2).length:Int)),(19,.int .i64 (k:Int))]) (fun k w=>∃M',Lt M' w∧Step M w0 M' w (kN M B)∧(RT.fd.sl).V M' w d.2 xq∧cc RT.fd M' w Ke x∧(RT.str.sl).V M' w (words x.2) v5∧J (bX (d.2.take i)++(fL x).take k) M' w∧k≤(words x.2).length) (fun k=>(words x.2).length-k) 0 (.cons rfl (.cons rfl (.cons rfl (.cons rfl (.cons rfl (.cons rfl (.cons rfl (.cons rfl .nil)))))))) ?_ ?_
   ·exact⟨_,hM,S,oe,uU,TF,by rw[List.take_zero,kK];exact hJ,bH _⟩
   ·rintro k w ⟨M2,hM,S,oe,uU,TF,hJ,hk⟩;refine al (aj (cz rfl rfl rfl (ae (al ?_))));refine bQ rfl (fun c5=>?_) (fun c5=>?_)
    ·refine aZ (al (bh (al (aj (ah rfl rfl ?_)))));refine cu (M:=M2) aF I9 rfl rfl rfl TF (ao _ _) (by omega) (fun u6 y FR KA=>?_);rw[aC]at FR;refine bg (M:=M2) aD rfl rfl rfl rfl rfl KA (ao _ _) (fun v6 oI=>?_);have QB:=(jG.1 oI).2;obtain rfl:=dP oI;refine ak rfl rfl (ak rfl rfl (ae (aj (ah rfl rfl ?_))));refine ay (M:=M2) (A:=RT.fd) (B:=RT.str) ca rfl rfl I9 (by decide) (E2) rfl rfl (by decide) (by assumption) (by repeat (first|exact ao _ _|refine aU (br (by assumption)) ?_)) (fun aiv TG=>?_);refine bg (M:=M2) aD rfl rfl rfl rfl rfl TG (ao _ _) (fun v7 pT=>?_);obtain rfl:=dP pT;refine ah rfl rfl (eT (places:=[(0,1),(1,1)]) bw jr XG rfl ⟨_,_,rfl,rfl,_,_,rfl,rfl,rfl⟩ (out:=[_,_]) ⟨0,[_],rfl,rfl,by simp[Value.cells],1,[_],rfl,rfl,by simp[Value.cells],rfl⟩ (ah rfl rfl ?_));refine Rg.qK (first:=[]) (captured:=cap) (xs:=[.tmp 28,.tmp 29]) rfl rfl rfl hT.enters (hT.tell _ _ _ (x.1,y) k hJ hM yI.1 QB (by omega) (by rw[bM,bG,mS];omega)) (fun r7 w7 hc=>?_);obtain⟨M7,hM7,hJ7,s7⟩:=hc;refine ae (aj (bI rfl rfl rfl (by omega) (ah rfl rfl (ae ?_))));refine⟨rfl,k+1,(.cons rfl (.cons rfl (.cons rfl (.cons rfl (.cons rfl (.cons rfl (.cons rfl (.cons rfl .nil)))))))),?_,?_⟩
     ·exact⟨M7,hM7,S.trans s7 (fun b hb h=>⟨h.1,(S.mem b hb).1 h.2⟩),oe.le s7.le,uU.le (by decide) s7.le,TF.le s7.le,by rw[bP,HP FR,cn,←gZ];exact hJ7,by omega⟩
     ·omega
    ·refine cY (aj (bI rfl rfl rfl (by omega) (ah rfl rfl (ae ?_))));refine⟨rfl,i+1,(.cons rfl (.cons rfl (.cons rfl (.cons rfl .nil)))),?_,?_⟩
     ·exact⟨_,hM,S,oe,by rw[qy JI];have e:(fL x).take k=fL x:=a7 (by rw[mS];omega);rw[e]at hJ;exact hJ,by omega,by rw[qy JI,bM,mS];omega⟩
     ·omega
  ·refine cY ?_
   first|refine gD.nil ?_|simp+decide only[yC,nd,if_true,if_false]|skip
   have e:d.2.take i=d.2:=a7 (by omega);rw[e]at hJ;exact lj rfl ⟨_,hM,hJ,S⟩
theorem tW {M:aL} {w:World} {t:Fd} (h1:t.1.length≤140737488355328) (h2:t.2.length≤140737488355328):RT.fd.V M w t (kv t):=eC (jG.2 ⟨rfl,h1⟩) (jG.2 ⟨rfl,h2⟩) rfl rfl rfl rfl
def WJ (b B:Nat) (ts:List (Fd×Nat)) (M:aL) (w:World):Prop:=w.heap[b]? =some (.cells #[.int .i64 (ts.length:Int)] 3 (0,0))∧M b∧B≤b
theorem zm {M:aL} {b B:Nat} {ts:List (Fd×Nat)} {t:Fd} {i:Nat} (w0:World) (hM:Lt M w0) (h1:t.1.length≤900000) (h2:t.2.length≤140737488355328) (Cl:ts.length≤10000000) (hJ:WJ b B ts M w0):
  Spec Tryz.prog 161 #[kv t,.int .i64 (i:Int),.pointer (some ⟨b,0,none⟩)] w0 (fun v w=>∃M',Lt M' w∧WJ b B (ts++[(t,i)]) M' w∧Step M w0 M' w (kN M B)):=by
 obtain⟨gb,dY,hB⟩:=hJ;refine bu (args:=[_,_,_]) (fn:=Tryz.f161) Tryz.func161 rfl (n:=7) Tryz.ntmps161 ?_;have S:Step M w0 M w0 (kN M B):=(ar _ _).cw (fun _ h=>h.elim) (fun _ h=>h.2);refine al (aj ?_);refine Rg.iM (A:=RT.fd) rfl rfl hM (tW (by omega) h2) rfl (fun u0 w1 cV s0 _=>?_);have:=an gb;replace dY:=(s0.mem _ this).2 dY;replace gb:=s0.aM gb;replace hM:=s0.lt hM;have:=S.size;replace S:=S.aB s0;refine ae (aj (aX az rfl rfl rfl (by assumption) rfl (bI rfl rfl rfl (by omega) ?_)));refine ck (M:=M) I3 rfl rfl gb rfl (rfl) dY (fun KK ib om=>?_);change KK.heap[_]? =some (Obj.cells #[.int .i64 ((ts.length:Int)+1)] _ _)at ib;have:=an gb;replace dY:=(om.mem _ this).2 dY;replace hM:=om.lt hM;have:=S.size;replace S:=S.trans om (fun k hk h=>by have h:_=_:=h;subst h;first|(exfalso;omega)|(show _≤_;omega)|exact⟨by first|omega|assumption,(S.mem _ hk).1 ((om.mem _ (an gb)).1 dY)⟩|exact .inl rfl|exact .inr rfl|exact .inr (.inl rfl)|exact .inr (.inr rfl)|exact rfl);have HQ:=ib;clear gb;have gb:=HQ;clear HQ;refine ae ?_
 first|refine gD.nil ?_|simp+decide only[yC,nd,if_true,if_false]|skip
 exact lj rfl ⟨_,hM,⟨by rw[bM];exact gb,dY,hB⟩,S⟩
theorem Bf {b B:Nat}:OQ Tryz.prog 161 [.pointer (some ⟨b,0,none⟩)] B (WJ b B):=
 ⟨XQ,fun ts M w M' w' ⟨h1,h2,h3⟩ s=>⟨s.aM h1,(s.mem _ (an h1)).2 h2,h3⟩,fun ts M w t i hJ hM h1 h2 _ h4=>zm w hM h1 h2 h4 hJ⟩
theorem Bg {M:aL} {d:Dc} {v0:Value} (w0:World) (hM:Lt M w0) (hv:RT.dc.V M w0 d v0) (hl:∀f∈d.2,f.1.length≤900000∧f.2.length≤900000) (WK:d.2.length≤8):
  Spec Tryz.prog 110 #[v0] w0 (fun v w=>v= .int .i64 ((bX d.2).length:Int)∧Step M w0 M w aE):=by
 refine bu (args:=[_]) (fn:=Tryz.f110) Tryz.func110 rfl (n:=8) Tryz.ntmps110 ?_;have S:Step M w0 M w0 aE:=(ar _ _).cw (fun _ h=>h.elim) (fun _ h=>h.elim);refine al (aj ?_);refine Rg.iM (A:=RT.dc) rfl rfl hM hv rfl (fun u0 w1 cV s0 _=>?_);replace hM:=s0.lt hM;have:=S.size;replace S:=S.aB s0;refine ak rfl rfl (ae (al (aj ?_)));refine eG M I3 rfl (fun gu xn Hi Kz ic j2=>?_);obtain⟨gw,jL⟩:∃M',M'=ins M gu:=⟨_,rfl⟩;rw[←jL]at j2;have fz:gw gu:=by rw[jL];exact .inl rfl
 change xn.heap[gu]? =some (.cells #[.int .i64 0] _ _)at ic;replace cV:=cV.le (by decide) j2.le;replace hM:=j2.lt hM;have:=S.size;replace S:=S.aB j2;refine ck (M:=gw) I3 rfl rfl ic rfl (rfl) fz (fun E8 sK ot=>?_);change E8.heap[_]? =some (Obj.cells #[.int .i64 0] _ _)at sK;have:=an ic;replace fz:=(ot.mem _ this).2 fz;replace cV:=cV.le (by decide) ot.le;replace hM:=ot.lt hM;have:=S.size;replace S:=S.trans ot (fun k hk h=>by have h:_=_:=h;subst h;first|(exfalso;omega)|(show _≤_;omega)|exact⟨by first|omega|assumption,(S.mem _ hk).1 ((ot.mem _ (an ic)).1 fz)⟩|exact .inl rfl|exact .inr rfl|exact .inr (.inl rfl)|exact .inr (.inr rfl)|exact rfl);have Bh:=sK;clear ic;have ic:=Bh;clear Bh;refine ae (al (aj ?_));refine ch (M:=gw) (A:=RT.dc) aO rfl kQ (by decide) rfl rfl rfl cV (ao _ _) (fun v2 nq=>?_);refine jF (xs:=[]) (ys:=[.tmp 3]) rfl rfl rfl ?_;refine aP rfl rfl RC (yc (cap:=[.pointer (some ⟨gu,0,none⟩)]) (B:=w0.heap.size) _ hM nq hl WK Bf ⟨ic,fz,by omega⟩) (fun r2 w2 hc=>?_);obtain⟨M2,Ou,⟨g2,_,_⟩,s2⟩:=hc;replace S:=S.k9 s2 (aT _);refine ae (al (aj (aX az rfl rfl rfl g2 rfl (ak rfl rfl (ae (aQ ?_))))));exact aV rfl rfl ⟨rfl,S.back⟩
end Go.K
namespace Go.K
section
variable {P:Program} {r:Option Nat} {n:Nat} {L:Sl} {ds:List Deferred} {w:World} {K:Kt} {ops:Array Oper} {rest:List Oper} {d:Nat} {x y z:Operand} {ty:TypeId} {pos:String} {af:Array Edge}
variable {kt:TypeId} {M:aL} {b mb clock:Nat} {es:List MapEntry} {sn:Array Nat}
theorem Rg.rangeMap {t e:TypeId} (M:aL) (ht:P.underlying t=some (.map kt e)) (hx:ev L x=some (.map (some mb))) (hd:Nat.blt d n=true) (h:fe P kt w mb es clock)
  (k:∀b w',w.heap.size≤b→b<w'.heap.size→w'.heap[b]? =some (.mapIter (some mb) clock #[] clock)→Step M w (ins M b) w' aE→Rg P r n ops rest ((d,.pointer (some ⟨b,0,none⟩))::L) ds w' K):
  Rg P r n ops ({dst:=some d,op:= .range t x,type:=ty,pos,after:=af,guard:=none}::rest) L ds w K:=by
 refine .op (fun _ h=>by cases h) rfl rfl hd (.pointer (some ⟨w.heap.size,0,none⟩)) (w.alloc (.mapIter (some mb) clock #[] clock)) (fun ρ hρ=>?_) (k w.heap.size _ (aT _) (by simp) (cJ w _) ((dv M w _).own (aT _) (by simp)));simp only[execOp,hρ x _ hx];simp[Instr.range,bL,run_underlying ht,dG h.at_,newObj,Sem.run]
theorem n4 {sb:Option Nat} {s c:Nat} (hb:w.heap[b]? =some (.mapIter sb s sn c)):(getObj b).run P w= .ok (.mapIter sb s sn c) w:=by simp[getObj,Sem.run,hb]
theorem CM (h:fe P kt w mb es clock) (seen:Array Nat):(!seen.isEmpty&& !es.toArray.isEmpty&&es.toArray.all (fun x=>decide (x.born≥clock)))=false:=by
 cases es with
 |nil=>simp
 |cons e l=>
  have:=h.lt e (by simp);simp only[Bool.and_eq_false_iff];right;rw[eQ];intro h2;rw[jz]at h2;have:=h2 e (by simp);simp at this;omega
theorem Bi (k:Nat) (hk:0<k):∃j w1,j<k∧(∀M,Step M w M w1 aE)∧w1.heap=w.heap∧(choose (Question.mapNext k)).run P w= .ok j w1:=by
 by_cases hf:k≤1
 ·exact⟨0,w,hk,fun M=>ar M w,rfl,by simp[choose,Sem.run,Question.forced,hf]⟩
 ·exact⟨_,w.drew,Nat.mod_lt _ hk,fun M=>mC M w,rfl,by
   simp only[choose,Sem.run,Question.forced,decide_eq_true_eq,hf,if_false,Question.cut];rfl⟩
theorem HR (h:fe P kt w mb es clock) (hb:w.heap[b]? =some (.mapIter (some mb) clock sn clock)) (hm:M b):
  ((∀e∈es,e.born∈sn)∧(Instr.next (.pointer (some ⟨b,0,none⟩)) false ty).run P w= .ok (.tuple #[.bool false]) w)∨
  ∃e w',e∈es∧e.born∉sn∧w'.heap[b]? =some (.mapIter (some mb) clock (sn.push e.born) clock)∧Step M w M w' (fun k=>k=b)∧(Instr.next (.pointer (some ⟨b,0,none⟩)) false ty).run P w= .ok (.tuple #[.bool true,e.key,e.val]) w':=by
 have dW:=an hb;simp only[Instr.next,bL,n4 hb,cA,dG h.at_,CM h sn,kB,if_false];have hL:∀e∈es.toArray.filter (fun e=> !sn.contains e.born),e.born<clock:=fun e he=>h.lt e (by simpa using(Array.mem_filter.1 he).1)
 have nV:∀e,e∈es.toArray.filter (fun e=> !sn.contains e.born)↔e∈es∧e.born∉sn:=fun e=>by simp[Array.mem_filter]
 generalize es.toArray.filter (fun e=> !sn.contains e.born)=Lf at hL nV ⊢;have e1:Lf.filter (fun x=>decide (x.born<clock))=Lf:=Array.filter_eq_self.2 fun x hx=>by simpa using hL x hx
 have e2:Lf.filter (fun x=>decide (x.born≥clock))= #[]:=by
  rw[Array.filter_eq_empty_iff];intro x hx;have:=hL x hx;simp;omega
 simp only[e1,e2,Array.append_empty];by_cases h0:Lf.size=0
 ·left;have uG:Lf= #[]:=Array.eq_empty_of_size_eq_zero h0;subst uG;refine⟨fun e he=>?_,by simp[choose,Sem.run,Question.forced]⟩;by_cases hs:e.born∈sn
  ·exact hs
  ·exact absurd ((nV e).2 ⟨he,hs⟩) (by simp)
 ·right;have fg:Lf.isEmpty=false:=by simp[Array.isEmpty,h0]
  simp only[fg,kB,if_false,Array.empty_append,Array.size_map];obtain⟨j,w1,hj,F9,hh1,gQ⟩:=Bi (P:=P) (w:=w) Lf.size (by omega);have zS:w1.heap[b]? =some (.mapIter (some mb) clock sn clock):=by rw[hh1];exact hb
  have eN:=(nV Lf[j]).1 (by simp);refine⟨Lf[j],{w1 with heap:=w1.heap.setIfInBounds b (.mapIter (some mb) clock (sn.push Lf[j].born) clock)},eN.1,eN.2,by simp[bV,hh1,dW],?_,?_⟩
  ·exact((F9 M).cw (fun _ h=>h.elim) (fun k hk=>by subst hk;exact hm)).trans (iB M hm) (fun _ _ h=>h)
  ·simp only[gQ,cA,Array.getElem?_map,jc hj,dx,bL];simp[setObj,Sem.run,zS]
theorem Rg.KL (hx:ev L x=some (.pointer (some ⟨b,0,none⟩))) (hb:w.heap[b]? =some (.mapIter (some mb) clock sn clock)) (hm:M b) (h:fe P kt w mb es clock) (hd:Nat.blt d n=true)
  (k1:∀e w',e∈es→e.born∉sn→w'.heap[b]? =some (.mapIter (some mb) clock (sn.push e.born) clock)→Step M w M w' (fun k=>k=b)→Rg P r n ops rest ((d,.tuple #[.bool true,e.key,e.val])::L) ds w' K)
  (k2:(∀e∈es,e.born∈sn)→Rg P r n ops rest ((d,.tuple #[.bool false])::L) ds w K):
  Rg P r n ops ({dst:=some d,op:= .next x false,type:=ty,pos,after:=af,guard:=none}::rest) L ds w K:=by
 rcases HR (ty:=ty) h hb hm with⟨h1,h2⟩|⟨e,w',h1,h2,h3,h4,h5⟩
 ·refine .op (fun _ h=>by cases h) rfl rfl hd _ w (fun ρ hρ=>?_) (k2 h1);simp only[execOp,hρ x _ hx];simp[h2]
 ·refine .op (fun _ h=>by cases h) rfl rfl hd _ w' (fun ρ hρ=>?_) (k1 e w' h1 h2 h3 h4);simp only[execOp,hρ x _ hx];simp[h5]
theorem Rg.entry {e:MapEntry} {sn':Array Nat} (hx:ev L x=some (.pointer (some ⟨b,0,none⟩))) (hb:w.heap[b]? =some (.mapIter (some mb) clock (sn'.push e.born) clock)) (h:fe P kt w mb es clock) (he:e∈es) (hd:Nat.blt d n=true)
  (k:Rg P r n ops rest ((d,.tuple #[e.key,e.val])::L) ds w K):
  Rg P r n ops ({dst:=some d,op:= .entry x,type:=ty,pos,after:=af,guard:=none}::rest) L ds w K:=by
 have hf:es.find? (fun x=>x.born==e.born)=some e:=by
  rw[List.find?_eq_some_iff_getElem];obtain⟨i,hi⟩:=bN.1 he;obtain⟨h1,h2⟩:=aw.1 hi;refine⟨by simp,i,h1,h2,fun j hj=>?_⟩;have qG:j<es.length:=by omega
  have:=fun q=>h.Bd (av qG) hi q
  simp only[gX,beq_eq_false_iff_ne,ne_eq];intro q;have:=this q;omega
 refine .op (fun _ h=>by cases h) rfl rfl hd _ w (fun ρ hρ=>?_) k;simp only[execOp,hρ x _ hx,Instr.entry,bL,n4 hb,cA,dG h.at_];simp[hf,bL,dG h.at_]
end
end Go.K
namespace Go.K
open Go.Proofs
set_option maxRecDepth 10000
theorem filter_lt {α:Type} {p q:α→Bool} {a:α}:∀{l:List α},(∀x∈l,q x=true→p x=true)→a∈l→p a=true→q a=false→(l.filter q).length<(l.filter p).length
 |[],_,ha,_,_=>by cases ha
 |x::l,h,ha,hp,hq=>by
  have hle:(l.filter q).length≤(l.filter p).length:=by
   rw[←List.countP_eq_length_filter,←List.countP_eq_length_filter];exact List.countP_mono_left fun y hy=>h y (cL _ hy)
  rcases dN.1 ha with rfl|ha
  ·rw[pf hp,List.filter_cons_of_neg (by simp[hq])];simp;omega
  ·have:=filter_lt (fun y hy=>h y (cL _ hy)) ha hp hq;by_cases hx:q x=true
   ·rw[pf hx,pf (h x (cx ..) hx)];simp;omega
   ·rw[List.filter_cons_of_neg hx];by_cases hx2:p x=true
    ·rw[pf hx2];simp;omega
    ·rw[List.filter_cons_of_neg hx2];omega
theorem fe.OR {P:Program} {kt:TypeId} {w:World} {b clock:Nat} {es:List MapEntry} (h:fe P kt w b es clock) {x y:MapEntry} (hx:x∈es) (hy:y∈es) (hk:x.key=y.key):x=y:=by
 obtain⟨i,hi⟩:=bN.1 hx;obtain⟨j,hj⟩:=bN.1 hy;rcases lT i j with iy|rfl|iy
 ·exact absurd hk (gI h.keys hi hj iy)
 ·exact aN (hi.symm.trans hj)
 ·exact absurd hk.symm (gI h.keys hj hi iy)
theorem fe.KM {P:Program} {kt:TypeId} {w:World} {b clock:Nat} {es:List MapEntry} (h:fe P kt w b es clock) {x y:MapEntry} (hx:x∈es) (hy:y∈es) (hk:x.born=y.born):x=y:=by
 obtain⟨i,hi⟩:=bN.1 hx;obtain⟨j,hj⟩:=bN.1 hy;rcases lT i j with iy|rfl|iy
 ·exact absurd hk (gI h.born hi hj iy)
 ·exact aN (hi.symm.trans hj)
 ·exact absurd hk.symm (gI h.born hj hi iy)
def CN (w:World) (k:Nat):Prop:=∃m s sn c,w.heap[k]? =some (.mapIter m s sn c)
def D3 (es:List MapEntry):Prop:=∀e∈es,∃t:Fd,e.key=kv t∧t.1.length≤140737488355328∧t.2.length≤140737488355328
theorem CO {yl bs mb clock:Nat} {es:List MapEntry} {J:List Fd→World→Prop} (w0:World) (hk:D3 es) (ZH:∀ts w w' N,J ts w→Step allM w allM w' N→(∀k,k<w.heap.size→N k→w0.heap.size≤k∧CN w k)→J ts w') (WN:∀ts w,J ts w→w.heap[bs]? =some (.cells #[.map (some mb)] 227 (0,0))∧fe Tryz.prog 47 w mb es clock) (hy:∀ts w (t:Fd),J ts w→(∃e∈es,e.key=kv t)→t∉ts→ts.length<es.length→uI Tryz.prog yl [kv t].toArray w (fun r w'=>r= .bool true∧J (ts++[t]) w'∧∃N,Step allM w allM w' N∧∀k,N k→¬CN w k)) (h0:J [] w0):
  Spec Tryz.prog 197 #[.func (.yield yl) #[] #[],.pointer (some ⟨bs,0,none⟩)] w0 (fun v w=>∃ts,J ts w∧ts.Nodup∧∀t,t∈ts↔∃e∈es,e.key=kv t):=by
 obtain⟨gb,hW⟩:=WN _ _ h0;have hJ:=h0;clear h0;refine bu (args:=[_,_]) (fn:=Tryz.f197) Tryz.func197 rfl (n:=14) Tryz.ntmps197 ?_;have S:Step allM w0 allM w0 allM:=(ar _ _).cw (fun _ h=>h.elim) (fun _ _=>trivial);refine al (aj (aX k7 rfl rfl rfl (by assumption) rfl ?_));refine Rg.rangeMap allM k7 rfl rfl hW (fun bi w1 zS Jz gi s1=>?_);replace s1:=s1.all;have:=an gb;replace gb:=s1.aM gb;replace hJ:=ZH _ _ _ _ hJ s1 (fun _ _ h=>h.elim);have:=S.size;replace S:=S.aB s1;refine ae (bh ?_);refine dz (σ:=List Fd×Array Nat) (fun s=>[(0,.func (.yield yl) #[] #[]),(1,.pointer (some ⟨bs,0,none⟩)),(5,.pointer (some ⟨bi,0,none⟩))]) (fun s w=>J s.1 w∧Step allM w0 allM w allM∧w.heap[bi]? =some (.mapIter (some mb) clock s.2 clock)∧s.1.Nodup∧(∀e∈es,e.born∈s.2↔∃t∈s.1,e.key=kv t)∧(∀t∈s.1,∃e∈es,e.key=kv t)) (fun s=>(es.filter fun e=>decide (e.born∉s.2)).length) ([],#[]) (.cons rfl (.cons rfl (.cons rfl .nil))) ?_ ?_
 ·exact⟨hJ,S,gi,List.nodup_nil,fun e _=>by simp,fun t h=>by cases h⟩
 ·rintro⟨ts,sn⟩ w ⟨hJ,S,gi,pE,WO,nV⟩;dsimp only at hJ gi pE WO nV ⊢;obtain⟨gb,hW⟩:=WN _ _ hJ;refine al (aj ?_);refine Rg.KL (M:=allM) rfl gi trivial hW rfl (fun OS xn rp Mq ic j2=>?_) (fun ZI=>?_)
  ·have gi0:=gi;replace gb:=j2.bS gb (fun hk=>by have hk:_=_:=hk;omega);replace hJ:=ZH _ _ _ _ hJ j2 (fun k hk h=>by have h:k=bi:=h;subst h;exact⟨zS,_,_,_,_,gi0⟩);have:=S.size;replace S:=S.trans j2 (fun k hk h=>by have h:_=_:=h;subst h;first|(exfalso;omega)|(show _≤_;omega)|exact .inl rfl|exact .inr rfl|exact .inr (.inl rfl)|exact .inr (.inr rfl)|exact rfl);have gi_:=ic;clear gi;have gi:=gi_;clear gi_;refine bZ rfl rfl rfl (ae (al (kW rfl (aZ (bh (al (aj (Rg.entry rfl gi (WN _ _ hJ).2 rp rfl ?_))))))));obtain⟨t,KN,QS,Hk⟩:=hk _ rp;have Nw:t∉ts:=fun h=>Mq ((WO _ rp).2 ⟨t,h,KN⟩)
   have dW:ts.length<es.length:=by
    have h1:((t::ts).map kv).Nodup:=dR.2 ((List.nodup_cons.2 ⟨Nw,pE⟩).imp fun h e=>h (sJ e))
    have h2:=h1.length_le_of_subset (l₂:=es.map (·.key)) (fun x hx=>by
     obtain⟨u,hu,rfl⟩:=cg.1 hx;rcases dN.1 hu with rfl|hu
     ·rw[←KN];exact eZ rp
     ·obtain⟨e,he,h⟩:=nV u hu;rw[←h];exact eZ he)
    simp at h2;omega
   rw[KN];refine bZ rfl rfl rfl ?_;refine ug (A:=RT.fd) (M:=aE) jr rfl rfl rfl rfl rfl (tW QS Hk) (ao _ _) (Lt.none _) (fun u2 w2 jP s2 z2=>?_);replace s2:=s2.all;have:=an gb;replace gb:=s2.aM gb;have:=an gi;replace gi:=s2.aM gi;replace hJ:=ZH _ _ _ _ hJ s2 (fun _ _ h=>h.elim);have:=S.size;replace S:=S.aB s2
   skip
   refine ae (al (aj (ah rfl rfl ?_)));refine ch (M:=aE) (A:=RT.fd) bw rfl jr (by decide) rfl rfl rfl jP (ao _ _) (fun v3 px=>?_);obtain rfl:=gN px;refine Rg.yield (vs:=[kv t]) rfl rfl rfl (hy _ _ t hJ ⟨_,rp,KN⟩ Nw dW) (fun r3 w3 hc=>?_);obtain⟨rfl,TH,N3,s3,hN3⟩:=hc;clear ic;replace gi:=s3.bS gi (fun h=>hN3 _ h ⟨_,_,_,_,gi⟩);replace hJ:=TH;clear TH;obtain⟨gb,-⟩:=WN _ _ hJ;replace S:=S.trans s3 (fun _ _ _=>trivial);refine jN rfl rfl (bO (v':= .bool false) rfl (ae (iY rfl (aZ ?_))));refine⟨rfl,(ts++[t],sn.push OS.born),(.cons rfl (.cons rfl (.cons rfl .nil))),?_,?_⟩
   ·have rW:∀e∈es,e.born=OS.born↔e.key=kv t:=fun e he=>by
     constructor
     ·intro h;rw[fe.KM hW he rp h,KN]
     ·intro h;rw[fe.OR hW he rp (h.trans KN.symm)]
    refine⟨hJ,S,gi,List.nodup_append.2 ⟨pE,by simp,fun a ha b hb h=>by simp at hb;subst hb;subst h;exact Nw ha⟩,fun e he=>?_,fun u hu=>?_⟩
    ·rw[Array.mem_push,WO e he,rW e he];constructor
     ·rintro(⟨u,h1,h2⟩|h)
      ·exact⟨u,jA _ h1,h2⟩
      ·exact⟨t,by simp,h⟩
     ·rintro⟨u,h1,h2⟩;rcases dy.1 h1 with h1|h1
      ·exact .inl ⟨u,h1,h2⟩
      ·simp at h1;subst h1;exact .inr h2
    ·rcases dy.1 hu with hu|hu
     ·exact nV u hu
     ·simp at hu;subst hu;exact⟨_,rp,KN⟩
   ·exact filter_lt (a:=OS) (fun e _ h=>by simp only[decide_eq_true_eq,Array.mem_push,not_or]at h ⊢;exact h.1) rp (by simpa using Mq) (by simp)
  ·refine bZ rfl rfl rfl (ae (al (iY rfl (cY ?_))))
   first|refine gD.nil ?_|simp+decide only[yC,nd,if_true,if_false]|skip
   exact lj rfl ⟨ts,hJ,pE,fun t=>⟨nV t,fun⟨e,he,KN⟩=>by obtain⟨t',h1,h2⟩:=(WO e he).1 (ZI e he);rw[←sJ (h2.symm.trans KN)];exact h1⟩⟩
end Go.K
namespace Go.K
open Go.Proofs
set_option maxRecDepth 10000
theorem fu.any {α:Type} {A:RT α} (hA:∀M w M' w' x vs,A.R M w x vs→A.R M' w' x vs) {M M':aL} {w w':World}:∀{xs:List α} {C:List Value},fu A M w xs C→fu A M' w' xs C
 |[],_,h=>h
 |x::xs,C,h=>by
  obtain⟨vs,r,h1,h2,h3⟩:=h;exact⟨vs,r,h1,hA _ _ _ _ _ _ h2,fu.any hA h3⟩
theorem zn (M:aL) (w:World) (M':aL) (w':World) (x:Fd) (vs:List Value) (h:RT.fd.R M w x vs):RT.fd.R M' w' x vs:=h
theorem Own.D4 {α:Type} {A:RT α} (hA:∀M w M' w' x vs,A.R M w x vs→A.R M' w' x vs) {e:TypeId} {M N:aL} {w w':World} {base:Nat} {v:Value} {xs:List α} (h:Own A e M w base v xs) (s:Step allM w allM w' N) (hn:∀b,v.ownBlock=some b→¬N b):Own A e (pM v) w' base v xs:=by
 obtain⟨⟨C,h1,h2⟩,_⟩:=h;refine⟨⟨C,⟨h1.1,?_⟩,fu.any hA h2⟩,fun _ h=>h⟩;rcases h1.2 with h3|⟨g,cap,cur,h3,h4,h5,h6,h7,h8⟩
 ·exact .inl h3
 ·exact .inr ⟨g,cap,cur,h3,h4,by rw[s.same g (an h5) (hn g (by rw[h3];rfl))];exact h5,h6,h7,h8⟩
theorem Own.isCells {α:Type} {A:RT α} {e:TypeId} {M:aL} {w:World} {base b:Nat} {v:Value} {xs:List α} (h:Own A e M w base v xs) (hb:v.ownBlock=some b):∃cs,w.heap[b]? =some (.cells cs e (0,0)):=by
 obtain⟨⟨C,h1,_⟩,_⟩:=h;rcases h1.2 with h3|⟨g,cap,cur,h3,h4,h5,_⟩
 ·rw[h3.1]at hb;cases hb
 ·rw[h3]at hb;cases hb;exact⟨_,h5⟩
structure Aq (w0:World) (bt D:Nat) (st:Loop) (v:Value) (ts:List Fd) (w:World):Prop where
 S:Step allM w0 allM w aE
 c:w.heap[bt]? =some (.cells #[v] 98 (0,0))
 o:Own RT.fd 47 (pM v) w w0.heap.size v ts
 d:w.heap[D]? =some (.deferred (some []))
 r:w.heap[D+1]? =some (.loop st)
 hb:w0.heap.size≤bt
 hD:w0.heap.size≤D
theorem Aq.step {w0 w w':World} {bt D:Nat} {st:Loop} {v:Value} {ts:List Fd} {N:aL} (h:Aq w0 bt D st v ts w) (s:Step allM w allM w' N) (hN:∀k,k<w.heap.size→N k→w0.heap.size≤k∧CN w k):Aq w0 bt D st v ts w':=by
 have no:∀{k o},w.heap[k]? =some o→(∀m s sn c,o≠ .mapIter m s sn c)→¬N k:=fun hk ho hn=>by
  obtain⟨_,m,s,sn,c,h'⟩:=hN _ (an hk) hn;rw[hk]at h';exact ho m s sn c (aN h')
 refine⟨h.S.trans s (fun k hk hn=>?_),s.bS h.c (no h.c (by intros;simp)),h.o.D4 zn s (fun b hb=>?_),s.bS h.d (no h.d (by intros;simp)),s.bS h.r (no h.r (by intros;simp)),h.hb,h.hD⟩
 ·have:=(hN k (Nat.lt_of_lt_of_le hk h.S.size) hn).1;omega
 ·obtain⟨cs,hc⟩:=h.o.isCells hb;exact no hc (by intros;simp)
theorem Aq.lM {w0 w:World} {bt D:Nat} {st st':Loop} {v:Value} {ts:List Fd} (h:Aq w0 bt D st v ts w):Aq w0 bt D st' v ts (w.putObj (D+1) (.loop st')):=by
 have s:Step allM w allM (w.putObj (D+1) (.loop st')) (fun k=>k=D+1):=dM trivial;have hD:=h.hD;refine⟨h.S.trans s (fun k hk hn=>by have hn:k=D+1:=hn;omega),s.bS h.c (fun hn=>by have hn:bt=D+1:=hn;have h1:=h.c;rw[hn,h.r]at h1;cases h1),h.o.D4 zn s (fun b hb hn=>?_),s.bS h.d (fun hn=>by have hn:D=D+1:=hn;omega),by have:=an h.r;simp[World.putObj,bV,this],h.hb,h.hD⟩;have hn:b=D+1:=hn;obtain⟨cs,hc⟩:=h.o.isCells hb;rw[hn,h.r]at hc;cases hc
theorem Bj {bs mb clock:Nat} {es:List MapEntry} (w0:World) (hk:D3 es) (WQ:es.length≤100000000) (OT:w0.heap[bs]? =some (.cells #[.map (some mb)] 227 (0,0))) (hW:fe Tryz.prog 47 w0 mb es clock):
  Spec Tryz.prog 233 #[.slice none 0 0,.func (.func 197) #[] [.pointer (some ⟨bs,0,none⟩)].toArray] w0 (fun v w=>∃ts:List Fd,ts.Nodup∧(∀t,t∈ts↔∃e∈es,e.key=kv t)∧Own RT.fd 47 (pM v) w w0.heap.size v ts∧Step allM w0 allM w aE):=by
 refine mE (args:=[_,_]) (fn:=Tryz.f233) Tryz.func233 rfl (n:=13) Tryz.ntmps233 (al (aj ?_));refine tO allM rfl rfl (fun bt w1 zS aiB gt s1=>?_);change w1.heap[bt]? =some (.cells #[.slice none 0 0] 98 (0,0))at gt;replace s1:=s1.all;refine ak rfl rfl (ae (al (al (aj (ah rfl rfl (ae (bh ?_)))))));refine T.range (gf:=197) (lb:=[.pointer (some ⟨bs,0,none⟩)].toArray) rfl X0 (fun rec mj=>?_);obtain⟨D,hD⟩:∃D,D=w1.heap.size:=⟨_,rfl⟩;have sA:Step allM w1 allM ((w1.alloc (.deferred (some []))).alloc (.loop (rec .ready none))) aE:=(dv _ _ _).aB (dv _ _ _)
 have h0:Aq w0 bt D (rec .ready none) (.slice none 0 0) [] ((w1.alloc (.deferred (some []))).alloc (.loop (rec .ready none))):=by
  refine⟨s1.aB sA,sA.aM gt,dQ _ _ _ _ _,?_,?_,zS,by rw[hD];exact s1.size⟩
  ·rw[hD];exact(dv allM (w1.alloc _) _).aM (cJ w1 _)
  ·rw[hD];have:=cJ (w1.alloc (.deferred (some []))) (.loop (rec .ready none));rwa [xd]at this
 rw[←hD]at mj ⊢;have hz:=h0.S.size;refine Spec.mono (CO (J:=fun ts w=>∃v,Aq w0 bt D (rec .ready none) v ts w) _ hk (fun ts w w' N ⟨v,h⟩ s hN=>⟨v,h.step s (fun k hk hn=>⟨dT hz (hN k hk hn).1,(hN k hk hn).2⟩)⟩) (fun ts w ⟨v,h⟩=>⟨h.S.aM OT,hW.a8 h.S⟩) (fun ts wr t hJ nV Nw dW=>?_) ⟨_,h0⟩) (fun _ w3 h3=>?_)
 ·obtain⟨v,h⟩:=hJ;obtain⟨e,he,ZJ⟩:=nV;obtain⟨t',ZK,QS,Hk⟩:=hk e he;obtain rfl:=sJ (ZJ.symm.trans ZK);have hzr:=an h.r;refine kY (ps:=[7]) (vs:=[kv t]) mj h.r rfl (by decide) (aj ?_);refine ug (A:=RT.fd) (M:=fun k=>k=D+1) jr rfl rfl rfl rfl rfl (tW QS Hk) (ao _ _) (fun k hk=>by have hk:k=D+1:=hk;omega) (fun u2 w2 jP s2 z2=>?_);replace s2:=s2.all
  skip
  refine ae ?_;refine⟨rfl,s2.aM h.r,?_⟩;have h4:=(h.step s2 (fun _ _ h=>h.elim)).lM (st':=rec .busy none);have ZL:Step (fun k=>k=D+1) w2 (fun k=>k=D+1) (w2.putObj (D+1) (.loop (rec .busy none))) (fun k=>k=D+1):=dM rfl;have s3:=ZL.all;have hY:=jP.le (by decide) ZL.le;clear ZL;generalize w2.putObj (D+1) _=w4 at h4 s3 hY ⊢;refine bh (aj (aX bR rfl rfl rfl h4.c rfl ?_));refine ch (M:=fun k=>k=D+1) (A:=RT.fd) bw rfl jr (by decide) rfl rfl rfl hY (ao _ _) (fun v3 px=>?_);obtain rfl:=gN px;refine eA (A:=RT.fd) (hn:=by decide) (M:=pM v) bR jr (by decide) rfl rfl (fun b hb=>(h4.o.base b hb).2) (tW QS Hk) (.inl rfl) (fun u5 w5 gU s5=>?_);refine cv (M:=pM v) (base:=w0.heap.size) bR jr rfl rfl rfl rfl (h4.o.a8 s5) gU (ao _ _) (by simp;omega) (by simp;omega) (dT h4.S.size s5.size) (fun v6 M6 w6 tt s6=>?_);have gc:=s6.all.bS (s5.all.aM h4.c) (fun hn=>h4.o.eW h4.c (by decide) hn);refine ck (M:=allM) I98 rfl rfl gc rfl (by obtain⟨_,_,he,_⟩:=tt.isSlice;rw[he];rfl) trivial (fun w7 gc7 s7=>?_);refine ae ?_
  have ZM:∀k,pM v k→¬CN wr k:=fun k hk ⟨_,_,_,_,h9⟩=>by
   obtain⟨cs,hc⟩:=h.o.isCells hk;rw[hc]at h9;cases h9
  have pr:∀k,k<wr.heap.size→k=D+1→¬CN wr k:=fun k _ hk ⟨_,_,_,_,h9⟩=>by subst hk;rw[h.r]at h9;cases h9
  have pc:∀k,k<wr.heap.size→k=bt→¬CN wr k:=fun k _ hk ⟨_,_,_,_,h9⟩=>by subst hk;rw[h.c]at h9;cases h9
  have h7:Aq w0 bt D (rec .busy none) v6 (ts++[t]) w7:=by
   have nb:∀b,v6.ownBlock=some b→b≠bt:=fun b hb hn=>by subst hn;exact tt.eW gc (by decide) hb
   refine⟨?_,gc7,tt.D4 zn s7 nb,?_,?_,h.hb,h.hD⟩
   ·refine((h4.S.aB s5.all).trans s6.all (fun k hk hn=>?_)).trans s7 (fun k hk hn=>?_)
    ·have:=(h4.o.base k hn).1;omega
    ·have hn:k=bt:=hn;have:=h.hb;omega
   ·exact s7.bS (s6.all.bS (s5.all.aM h4.d) (fun hn=>by obtain⟨cs,hc⟩:=h4.o.isCells hn;rw[h4.d]at hc;cases hc)) (fun hn=>by have hn:D=bt:=hn;have h1:=h.c;rw[←hn,h.d]at h1;cases h1)
   ·exact s7.bS (s6.all.bS (s5.all.aM h4.r) (fun hn=>by obtain⟨cs,hc⟩:=h4.o.isCells hn;rw[h4.r]at hc;cases hc)) (fun hn=>by have hn:D+1=bt:=hn;have h1:=h.c;rw[←hn,h.r]at h1;cases h1)
  have s8:Step allM w7 allM (w7.putObj (D+1) (.loop (rec .ready none))) (fun k=>k=D+1):=dM trivial;exact⟨h7.r,rfl,⟨v6,h7.lM⟩,fun k=>¬CN wr k,(((((s2.cw (fun _ h=>h.elim) (fun _ _=>trivial)).trans s3 pr).aB s5.all).trans s6.all (fun k _ hn=>ZM k hn)).trans s7 pc).trans s8 pr,fun _ h=>h⟩
 ·obtain⟨ts,⟨v,h⟩,pE,nV⟩:=h3;left;refine⟨h.r,?_⟩;have h5:=h.lM (st':=rec .exhausted none);generalize w3.putObj (D+1) _=wE at h5 ⊢;refine al (aj (aX bR rfl rfl rfl h5.c rfl (ak rfl rfl (ae (aQ ?_)))));have sE:Step allM wE allM (wE.putObj D (.deferred none)) (fun k=>k=D):=dM trivial;have hDD:=h.hD;exact yL rfl rfl h5.d ⟨ts,pE,nV,h5.o.D4 zn sE (fun b hb hn=>by have hn:b=D:=hn;obtain⟨cs,hc⟩:=h5.o.isCells hb;rw[hn,h5.d]at hc;cases hc),h5.S.trans sE (fun k hk hn=>by have hn:k=D:=hn;omega)⟩
end Go.K
namespace Go.K
open Go.Proofs
set_option maxRecDepth 10000
theorem zo {bs mb clock:Nat} {es:List MapEntry} (w0:World) (hk:D3 es) (WQ:es.length≤100000000) (OT:w0.heap[bs]? =some (.cells #[.map (some mb)] 227 (0,0))) (hW:fe Tryz.prog 47 w0 mb es clock):
  Spec Tryz.prog 195 #[.func (.func 197) #[] [.pointer (some ⟨bs,0,none⟩)].toArray] w0 (fun v w=>∃ts:List Fd,ts.Nodup∧(∀t,t∈ts↔∃e∈es,e.key=kv t)∧Own RT.fd 47 (pM v) w w0.heap.size v ts∧Step allM w0 allM w aE):=by
 refine bu (args:=[_]) (fn:=Tryz.f195) Tryz.func195 rfl (n:=5) Tryz.ntmps195 (al (aj (ak rfl rfl (ae (al (aj (ah rfl rfl ?_)))))));refine aP rfl rfl Yb (Bj _ hk WQ OT hW) (fun r w1 hc=>?_);refine ak rfl rfl (ae (aQ ?_));exact aV rfl rfl hc
def dm (t:Fd):List UInt8:=t.1++[0]++t.2
theorem HS {M:aL} {t:Fd} (w0:World) (hM:Lt M w0) (h1:t.1.length≤1000000) (h2:t.2.length≤1000000):
  Spec Tryz.prog 74 #[kv t] w0 (fun v w=>v= .string ⟨(dm t).toArray⟩∧Step M w0 M w aE):=by
 refine bu (args:=[_]) (fn:=Tryz.f74) Tryz.func74 rfl (n:=9) Tryz.ntmps74 ?_;have S:Step M w0 M w0 aE:=(ar _ _).cw (fun _ h=>h.elim) (fun _ h=>h.elim);refine al (aj ?_);refine Rg.iM (A:=RT.fd) rfl rfl hM (tW (by omega) (by omega)) rfl (fun u0 w1 cV s0 _=>?_);replace hM:=s0.lt hM;have:=S.size;replace S:=S.aB s0;refine ak rfl rfl (ae (al (aj ?_)));refine ay (M:=M) (A:=RT.fd) (B:=RT.str) bw rfl rfl I9 (by decide) (E2) rfl rfl (by decide) (by assumption) (by repeat (first|exact ao _ _|refine aU (br (by assumption)) ?_)) (fun tU jw=>?_);refine bg (M:=M) aD rfl rfl rfl rfl rfl jw (ao _ _) (fun v1 tu=>?_);obtain rfl:=dP tu;refine Rg.cat (p:=t.1) (q:=[0]) rfl rfl rfl (by simp;omega) ?_;refine ay (M:=M) (A:=RT.fd) (B:=RT.str) bw rfl rfl I9 (by decide) (Md) rfl rfl (by decide) (by assumption) (by repeat (first|exact ao _ _|refine aU (br (by assumption)) ?_)) (fun EZ iC=>?_);refine bg (M:=M) aD rfl rfl rfl rfl rfl iC (ao _ _) (fun v4 nX=>?_);obtain rfl:=dP nX;refine Rg.cat (p:=t.1++[0]) (q:=t.2) rfl rfl rfl (by simp;omega) (ak rfl rfl (ae (aQ ?_)));exact aV rfl rfl ⟨rfl,S⟩
theorem py {M:aL} {t:Fd} (w0:World) (hM:Lt M w0) (h1:t.1.length≤1000000) (h2:t.2.length≤1000000):
  Spec Tryz.prog 94 #[kv t] w0 (fun v w=>v= .string ⟨(dm t).toArray⟩∧Step M w0 M w aE):=by
 refine bu (args:=[_]) (fn:=Tryz.f94) Tryz.func94 rfl (n:=9) Tryz.ntmps94 ?_;have S:Step M w0 M w0 aE:=(ar _ _).cw (fun _ h=>h.elim) (fun _ h=>h.elim);refine al (aj ?_);refine Rg.iM (A:=RT.fd) rfl rfl hM (tW (by omega) (by omega)) rfl (fun u0 w1 cV s0 _=>?_);replace hM:=s0.lt hM;have:=S.size;replace S:=S.aB s0;refine ak rfl rfl (ae (al (aj ?_)));refine ay (M:=M) (A:=RT.fd) (B:=RT.str) bw rfl rfl I9 (by decide) (E2) rfl rfl (by decide) (by assumption) (by repeat (first|exact ao _ _|refine aU (br (by assumption)) ?_)) (fun tU jw=>?_);refine bg (M:=M) aD rfl rfl rfl rfl rfl jw (ao _ _) (fun v1 tu=>?_);obtain rfl:=dP tu;refine Rg.cat (p:=t.1) (q:=[0]) rfl rfl rfl (by simp;omega) ?_;refine ay (M:=M) (A:=RT.fd) (B:=RT.str) bw rfl rfl I9 (by decide) (Md) rfl rfl (by decide) (by assumption) (by repeat (first|exact ao _ _|refine aU (br (by assumption)) ?_)) (fun EZ iC=>?_);refine bg (M:=M) aD rfl rfl rfl rfl rfl iC (ao _ _) (fun v4 nX=>?_);obtain rfl:=dP nX;refine Rg.cat (p:=t.1++[0]) (q:=t.2) rfl rfl rfl (by simp;omega) (ak rfl rfl (ae (aQ ?_)));exact aV rfl rfl ⟨rfl,S⟩
end Go.K
namespace Go.K
open Go.Proofs
set_option maxRecDepth 10000
theorem zp (a b:List UInt8) (w:World):Spec Tryz.prog 159 #[.string ⟨a.toArray⟩,.string ⟨b.toArray⟩] w (fun v w'=>v= .int .i64 (Lib.compareBytes a b)∧w'=w):=(Any.strings_Compare Tryz.Kp ⟨a.toArray⟩ ⟨b.toArray⟩ w).mono fun e w' ⟨h1,h2⟩=>⟨_,h1,rfl,h2⟩
end Go.K
namespace Go.K
section
variable {P:Program} {r:Option Nat} {n:Nat} {L:Sl} {ds:List Deferred} {w:World} {K:Kt} {ops:Array Oper} {rest:List Oper} {d:Nat} {x:Operand} {ty:TypeId} {pos:String} {af:Array Edge}
theorem iL.tE {id:Nat} {l:List Oper} (hm:P.follows .mixedOrders=true) (dp:eF l 0=true) (h:iL P r n l L ds (w.drewN 1) K):T P r n (.region id l.toArray true) L ds w K:=by
 refine⟨fun a ha=>wpIn_region_draw fun t=>?_⟩;simp only[Region.schedule,hm,Bool.true_or,if_true,Region.linearise];obtain⟨J,h1,h2,h3,h4⟩:=h a ha;refine nr (J:=J) dp (fun {D D' a w} hi hD=>h1 D D' a w hi hD) (fun {D a' w' j o rest} hj ho oy hp l2 hi hk=>h2 _ _ _ _ _ _ _ hj ho oy hp l2 hi hk) h3 _ t _ a _ (by simp) (by simp[rG]) (fun i o h1 h2=>?_) (h1 _ _ _ _ h4 fun i _=>?_)
 ·simp[dB]at h2
 ·simp[dB]
theorem T.OU {id:Nat} {l l':List Oper} (π:List Nat) (m:Nat) (fl:List Nat) (c:Nat) (N:aL) (hm:P.follows .mixedOrders=true) (GF:uN π l=l') (tq:eF l 0=true) (hπ:lC π l.length=true) (rV:Nat.blt m l'.length=true) (dp:eF l' 0=true) (pF:kg l' m=true) (DH:lA l' m fl c=true)
  (h:jg P r n l'.toArray (l'.take m) L ds (w.drewN 1) (fun L'=>(∀j o,j∈fl→l'[j]? =some o→bF P N (w.drewN 1) L' o)∧oz P r n l'.toArray N (w.drewN 1) K c (l'.drop m) L' ds (w.drewN 1))):T P r n (.region id l.toArray true) L ds w K:=by
 subst GF;exact iL.tE hm tq (.perm π hπ tq (AA m fl c N rV dp pF DH h))
theorem Rg.OV {e:TypeId} {v:Value} (hx:ev L x=some v) (hd:Nat.blt d n=true) (k:Rg P r n ops rest ((d,.pointer (some ⟨w.heap.size,0,none⟩))::L) ds (w.alloc (.cells v.cells e (0,0))) K):
  Rg P r n ops ({dst:=some d,op:= .box e x,type:=ty,pos,after:=af,guard:=none}::rest) L ds w K:=by
 refine .op (fun _ h=>by cases h) rfl rfl hd _ (w.alloc (.cells v.cells e (0,0))) (fun ρ hρ=>?_) k;simp only[execOp,hρ x _ hx];simp[Instr.box,newVar,newRow,newObj,Sem.run]
theorem CP (w:World) (o:Obj):w.alloc o=Go.Sort.grow w #[o]:=by
 unfold World.alloc Go.Sort.grow;congr 1
theorem CQ (w:World) (os:Array Obj) (q:Nat):(Go.Sort.grow w os).drewN q=Go.Sort.grow (w.drewN q) os:=rfl
end
end Go.K
namespace Go.K
open Go.Proofs
set_option maxRecDepth 10000
abbrev fE (t:Fd):Obj:= .cells #[.string ⟨t.1.toArray⟩,.string ⟨t.2.toArray⟩] 47 (0,0)
theorem HT {t:Fd} (w0:World) (h1:t.1.length≤1000000) (h2:t.2.length≤1000000):
  Spec Tryz.prog 74 #[kv t] w0 (fun v w=>v= .string ⟨(dm t).toArray⟩∧w=w0.alloc (fE t)):=by
 refine bu (args:=[_]) (fn:=Tryz.f74) Tryz.func74 rfl (n:=9) Tryz.ntmps74 (al (aj (Rg.OV rfl rfl ?_)));have gb:=cJ w0 (fE t);change Rg _ _ _ _ _ _ _ (w0.alloc (fE t)) _;generalize hw:w0.alloc (fE t)=w1 at gb ⊢;refine ak rfl rfl (ae (al (aj (bz (o':=0) bw rfl rfl I9 (by decide) rfl rfl (aX aD rfl rfl rfl gb rfl (Rg.cat (p:=t.1) (q:=[0]) rfl rfl rfl (by simp;omega) (bz (o':=1) bw rfl rfl I9 (by decide) rfl rfl (aX aD rfl rfl rfl gb rfl (Rg.cat (p:=t.1++[0]) (q:=t.2) rfl rfl rfl (by simp;omega) (ak rfl rfl (ae ?_)))))))))));refine aQ ?_;exact aV rfl rfl ⟨rfl,rfl⟩
theorem KO {s t:Fd} (w0:World) (h1:s.1.length≤1000000) (h2:s.2.length≤1000000) (h3:t.1.length≤1000000) (h4:t.2.length≤1000000):
  Spec Tryz.prog 158 #[kv s,kv t] w0 (fun v w=>v= .int .i64 (Lib.compareBytes (dm s) (dm t))∧w=((((w0.alloc (fE s)).alloc (fE t)).drewN 1).alloc (fE s)).alloc (fE t)):=by
 refine bu (args:=[_,_]) (fn:=Tryz.f158) Tryz.func158 rfl (n:=10) Tryz.ntmps158 (al (aj (Rg.OV rfl rfl ?_)));change Rg _ _ _ _ _ _ _ (w0.alloc (fE s)) _;refine Rg.OV rfl rfl ?_;change Rg _ _ _ _ _ _ _ ((w0.alloc (fE s)).alloc (fE t)) _;have g1:((w0.alloc (fE s)).alloc (fE t)).heap[w0.heap.size]? =some (fE s):=(dv aE _ _).aM (cJ w0 _);have g2:=cJ (w0.alloc (fE s)) (fE t);have kp:=eU aE (((w0.alloc (fE s)).alloc (fE t)).drewN 1);refine ak rfl rfl (ae (al ?_));apply T.OU [0,2,1,3,4,5] 2 [1] 1 aE mixed
 ·simp+decide only[uN,pI,fo,qg,im,iq,jW,dx,ia,kL,cond_true,cond_false,Nat.reduceBEq,Nat.reduceAdd,beq_self_eq_true];rfl
 ·rfl
 ·rfl
 ·rfl
 ·rfl
 ·rfl
 ·rfl
 have g1':(((w0.alloc (fE s)).alloc (fE t)).drewN 1).heap[w0.heap.size]? =some (fE s):=g1;have g2':(((w0.alloc (fE s)).alloc (fE t)).drewN 1).heap[(w0.alloc (fE s)).heap.size]? =some (fE t):=g2;refine gO (vs:=[.string ⟨s.1.toArray⟩,.string ⟨s.2.toArray⟩]) bw rfl jr rfl rfl rfl g1' ?_;refine ae ⟨rfl,rfl,rfl,?_⟩;refine gO (vs:=[.string ⟨t.1.toArray⟩,.string ⟨t.2.toArray⟩]) bw rfl jr rfl rfl rfl g2' ?_;refine ae ⟨rfl,rfl,rfl,?_⟩;refine dU ?_;refine⟨ew ⟨dC rfl (by assumption) (by first|assumption|exact fun h=>h|(intro h;have h:_=_:=h;omega)),trivial⟩,?_⟩;replace kp:=kp.mZ (dv aE (((w0.alloc (fE s)).alloc (fE t)).drewN 1) (fE s));refine aP rfl rfl Rz (HT (t:=s) _ h1 h2) (fun r5 w5 hc=>?_);obtain⟨rfl,rfl⟩:=hc;refine(fun(kp:dX _ _ _)=>ae ⟨rfl,rfl,fun _=>kp,?_⟩) (by first|exact kp|exact kp.mZ (by assumption)|exact kp.goN (by assumption)|exact kp.go (by assumption) (fun _ _ h=>by first|exact h|exact h.elim));refine aP rfl rfl Rz (HT (t:=t) _ h3 h4) (fun r6 w6 hc=>?_);obtain⟨rfl,rfl⟩:=hc;refine ae ⟨rfl,rfl,fun h=>absurd rfl h,?_⟩;refine aP rfl rfl XO (zp _ _ _) (fun r7 w7 hc=>?_);obtain⟨rfl,rfl⟩:=hc;refine ae ⟨rfl,rfl,fun h=>absurd rfl h,?_⟩;refine ak rfl rfl ?_;refine ae ⟨rfl,rfl,fun h=>absurd rfl h,?_⟩;refine gY (aQ ?_);exact aV rfl rfl ⟨rfl,rfl⟩
end Go.K
namespace Go.K
open Go.Lib (compareBytes)
theorem mT (a b:UInt8) (x y:List UInt8):compareBytes (a::x) (b::y)=if a.toNat<b.toNat then-1 else if b.toNat<a.toNat then 1 else compareBytes x y:=by
 rw[compareBytes];simp only[UInt8.lt_iff_toNat_lt]
theorem vR:∀a,compareBytes a a=0
 |[]=>rfl
 |a::x=>by rw[mT,if_neg (od _),if_neg (od _)];exact vR x
theorem oU:∀{a b},compareBytes a b=0→a=b
 |[],[],_=>rfl
 |[],_::_,h=>by simp[compareBytes]at h
 |_::_,[],h=>by simp[compareBytes]at h
 |a::x,b::y,h=>by
  rw[mT]at h
  split at h
  ·omega
  ·split at h
   ·omega
   ·rw[oU h,UInt8.toNat_inj.1 (show a.toNat=b.toNat by omega)]
theorem nD:∀a b,compareBytes a b= -compareBytes b a
 |[],[]=>rfl
 |[],_::_=>rfl
 |_::_,[]=>rfl
 |a::x,b::y=>by
  rw[mT,mT,nD x y]
  split<;>split<;>first|omega|rfl
theorem pz:∀{a b c},compareBytes a b<0→compareBytes b c<0→compareBytes a c<0
 |[],[],_,h,_=>by simp[compareBytes]at h
 |_::_,[],_,h,_=>by simp[compareBytes]at h
 |_,_::_,[],_,h=>by simp[compareBytes]at h
 |[],_::_,_::_,_,_=>by simp[compareBytes]
 |a::x,b::y,c::z,h1,h2=>by
  rw[mT]at h1 h2 ⊢
  split at h1
  ·split at h2
   ·rw[if_pos (by omega)];omega
   ·split at h2
    ·omega
    ·rw[if_pos (by omega)];omega
  ·split at h1
   ·omega
   ·split at h2
    ·rw[if_pos (by omega)];omega
    ·split at h2
     ·omega
     ·rw[if_neg (by omega),if_neg (by omega)];exact pz h1 h2
theorem D5 {α:Type} (f:α→List UInt8):Go.Sort.SWO (Go.Proofs.ltOf fun x y=>compareBytes (f x) (f y)) where
 irrefl x:=by simp[Go.Proofs.ltOf,vR]
 trans x y z h1 h2:=by
  simp only[Go.Proofs.ltOf,decide_eq_true_eq]at*
  exact pz h1 h2
 ntrans x y z h1 h2:=by
  simp only[Go.Proofs.ltOf,decide_eq_false_iff_not]at*
  intro h3;by_cases e1:compareBytes (f x) (f y)=0
  ·rw[oU e1]at h3;exact h2 h3
  ·by_cases e2:compareBytes (f y) (f z)=0
   ·rw[oU e2]at h1;exact h1 h3
   ·have n1:=nD (f x) (f y);have n2:=nD (f y) (f z);have n3:=nD (f x) (f z);have:compareBytes (f z) (f x)<0:=pz (b:=f y) (by omega) (by omega);omega
end Go.K
namespace Go.Proofs
open Go.Shelf
def Tryz.CR:Go.Shelf.Ren:=⟨fun|6=>196|15=>166|14=>234|28=>210|29=>211|20=>261|21=>262|22=>263|23=>264|24=>265|25=>266|26=>267|27=>268|46=>281|47=>246|48=>247|49=>282|50=>283|57=>290|n=>n,fun|22=>98|24=>47|25=>235|3=>3|39=>183|0=>0|53=>273|55=>165|4=>4|46=>267|45=>266|50=>121|5=>5|9=>9|66=>295|70=>299|76=>327|77=>305|n=>n,fun|n=>n⟩
theorem Tryz.HU:Go.Proofs.SlLaysF0.n6 Tryz.prog Tryz.CR:={
 mixed:=by kernel_rfl
 f6:=⟨Tryz.f196.name,by decide,Tryz.func196.trans (congrArg some (by kernel_rfl))⟩
 f14:=⟨Tryz.f234.name,by decide,Tryz.func234.trans (congrArg some (by kernel_rfl))⟩
 f15:=Tryz.func166.trans (congrArg some (by kernel_rfl))
 f20:=⟨Tryz.f261.name,by decide,Tryz.func261.trans (congrArg some (by kernel_rfl))⟩
 f21:=⟨Tryz.f262.name,by decide,Tryz.func262.trans (congrArg some (by kernel_rfl))⟩
 f22:=⟨Tryz.f263.name,by decide,Tryz.func263.trans (congrArg some (by kernel_rfl))⟩
 f23:=⟨Tryz.f264.name,by decide,Tryz.func264.trans (congrArg some (by kernel_rfl))⟩
 f24:=⟨Tryz.f265.name,by decide,Tryz.func265.trans (congrArg some (by kernel_rfl))⟩
 f25:=⟨Tryz.f266.name,by decide,Tryz.func266.trans (congrArg some (by kernel_rfl))⟩
 f26:=⟨Tryz.f267.name,by decide,Tryz.func267.trans (congrArg some (by kernel_rfl))⟩
 f27:=⟨Tryz.f268.name,by decide,Tryz.func268.trans (congrArg some (by kernel_rfl))⟩
 f28:=Tryz.func210.trans (congrArg some (by kernel_rfl))
 f29:=Tryz.func211.trans (congrArg some (by kernel_rfl))
 f46:=⟨Tryz.f281.name,by decide,Tryz.func281.trans (congrArg some (by kernel_rfl))⟩
 f47:=Tryz.func246.trans (congrArg some (by kernel_rfl))
 f48:=Tryz.func247.trans (congrArg some (by kernel_rfl))
 f49:=⟨Tryz.f282.name,by decide,Tryz.func282.trans (congrArg some (by kernel_rfl))⟩
 f50:=⟨Tryz.f283.name,by decide,Tryz.func283.trans (congrArg some (by kernel_rfl))⟩
 f57:=⟨Tryz.f290.name,by decide,Tryz.func290.trans (congrArg some (by kernel_rfl))⟩
 t0:=jd
 a0:=uw
 z0:=qc
 v0:=jT
 t3:=az
 a3:=ux
 z3:=qd
 v3:=jU
 t4:=oB
 a4:=Tryz.isAgg4
 z4:=Tryz.sizeOf4
 v4:=qI
 t5:=cM
 a5:=Tryz.isAgg5
 z5:=Tryz.sizeOf5
 v5:=Tryz.zeroValue5
 t9:=aD
 a9:=uy
 z9:=qe
 v9:=jV
 t22:=bR
 a22:=Tryz.isAgg98
 z22:=Tryz.sizeOf98
 v22:=Tryz.zeroValue98
 t25:=Tryz.underlying235
 a25:=Tryz.isAgg235
 z25:=Tryz.sizeOf235
 v25:=Tryz.zeroValue235
 t39:=Tryz.underlying183
 a39:=Tryz.isAgg183
 z39:=Tryz.sizeOf183
 v39:=Tryz.zeroValue183
 t45:=Tryz.underlying266
 a45:=Tryz.isAgg266
 z45:=Tryz.sizeOf266
 v45:=Tryz.zeroValue266
 t46:=Tryz.underlying267
 a46:=Tryz.isAgg267
 z46:=Tryz.sizeOf267
 v46:=Tryz.zeroValue267
 t50:=Tryz.underlying121
 a50:=Tryz.isAgg121
 z50:=Tryz.sizeOf121
 v50:=Tryz.zeroValue121
 t53:=Tryz.underlying273
 a53:=Tryz.isAgg273
 z53:=Tryz.sizeOf273
 v53:=Tryz.zeroValue273
 t55:=Tryz.underlying165
 a55:=Tryz.isAgg165
 z55:=Tryz.sizeOf165
 v55:=Tryz.zeroValue165
 t66:=Tryz.underlying295
 a66:=Tryz.isAgg295
 z66:=Tryz.sizeOf295
 v66:=Tryz.zeroValue295
 t70:=Tryz.underlying299
 a70:=Tryz.isAgg299
 z70:=Tryz.sizeOf299
 v70:=Tryz.zeroValue299
 t76:=Tryz.underlying327
 a76:=Tryz.isAgg327
 z76:=Tryz.sizeOf327
 v76:=Tryz.zeroValue327
 t77:=Tryz.underlying305
 a77:=Tryz.isAgg305
 z77:=Tryz.sizeOf305
 v77:=Tryz.zeroValue305}
end Go.Proofs
namespace Go.K
open Go.Proofs
set_option maxRecDepth 10000
open Go.Proofs Go.Sort
abbrev TK:Type:={t:Fd // (0:UInt8)∉t.1∧t.1.length≤1000000∧t.2.length≤1000000}
instance aeZ:Inhabited TK:=⟨⟨([],[]),by simp,by simp,by simp⟩⟩
def xv (x:TK):List Value:=[.string ⟨x.1.1.toArray⟩,.string ⟨x.1.2.toArray⟩]
def FU (x y:TK):Int:=Lib.compareBytes (dm x.1) (dm y.1)
theorem vS:∀{a b x y:List UInt8},(0:UInt8)∉a→(0:UInt8)∉b→a++[0]++x=b++[0]++y→a=b∧x=y
 |[],[],_,_,_,_,h=>⟨rfl,by simpa using h⟩
 |[],c::b,_,_,_,hb,h=>by
  simp at h;exact absurd (by rw[←h.1];exact cx ..) hb
 |c::a,[],_,_,ha,_,h=>by
  simp at h;exact absurd (by rw[h.1];exact cx ..) ha
 |c::a,e::b,x,y,ha,hb,h=>by
  simp only[List.cons_append,List.cons.injEq]at h;obtain⟨h1,h2⟩:=vS (fun h=>ha (cL _ h)) (fun h=>hb (cL _ h)) h.2;exact⟨by rw[h.1,h1],h2⟩
theorem ZN (w:World):(isAgg 47).run Tryz.prog w= .ok true w:=by simp[isAgg,bL,run_underlying bw]
theorem TL (w:World):(Go.sizeOf 47).run Tryz.prog w= .ok 2 w:=by
 obtain⟨i,h1,_,h2,_⟩:=jr.get;simp[Go.sizeOf,typeInfo,bL,program,Sem.run,h1,h2]
theorem HV (jC off size:Nat) (w:World):CmpLays Tryz.prog 158 #[] xv 2 FU jC off size w:=fun m os dk hs x y=>
 (show Calls Tryz.prog 158 #[kv x.1,kv y.1] (sortWorldK xv 2 w jC off m dk os) (fun e w'=>∃v,e= .returned v∧_∧_)from KO (s:=x.1) (t:=y.1) _ x.2.2.1 x.2.2.2 y.2.2.1 y.2.2.2).mono fun e w' ⟨v,h1,h2,h3⟩=>⟨by rw[h1,h2];rfl,1,#[fE x.1,fE y.1,fE x.1,fE y.1],by rw[h3];simp only[CP,CQ,Go.Sort.grow_grow];rfl⟩
theorem TM (jC off cap:Nat) (d:Array TK) (w:World) (hH:HoldsK xv 2 w jC off d) (hblk:jC<w.heap.size) (kd:d.size<4611686018427387904):
  Spec Tryz.prog 196 #[.slice (some ⟨jC,off,none⟩) d.size cap,.func (.func 158) #[] #[]] w (fun v w'=>v= .tuple #[]∧∃n os,w'=sortWorldK xv 2 w jC off n (d.toList.mergeSort fun x y=> !(Go.Proofs.ltOf FU) y x).toArray os):=by
 exact(Go.Proofs.AnyQ.slices_SortFunc_total Tryz.HU 2 ZN TL xv (fun _=>rfl) (fun x v hv=>by simp[xv]at hv;rcases hv with rfl|rfl<;>rfl) FU (D5 _) 158 #[] jC off cap d w XN (HV jC off d.size w) hH hblk kd (fun x y h1 h2=>by
  have h0:FU x y=0:=by
   have:=nD (dm x.1) (dm y.1);simp only[Go.Proofs.ltOf,decide_eq_false_iff_not]at h1 h2;unfold FU at h1 h2 ⊢;omega
  have h3:=oU h0;obtain⟨h4,h5⟩:=vS x.2.1 y.2.1 h3;exact Subtype.ext (Prod.ext h4 h5))).mono fun e w' ⟨h1,h2⟩=>⟨_,h1,rfl,h2⟩
end Go.K
namespace Go.K
set_option linter.unusedSectionVars false
open Go.Sort Go.Proofs
section
variable {α:Type} [Inhabited α] {enc:α→List Value} {k:Nat}
theorem tz (hk:∀x,(enc x).length=k) (h0:0<k):∀(l:List α) (t:Nat),(l.flatMap enc)[t]? =(l[t/k]?).bind fun x=>(enc x)[t%k]?
 |[],t=>by simp
 |x::l,t=>by
  rw[List.flatMap_cons];rcases db t k with h|h
  ·rw[List.getElem?_append_left (by rw[hk];exact h),Nat.div_eq_of_lt h,Nat.mod_eq_of_lt h];rfl
  ·rw[List.getElem?_append_right (by rw[hk];exact h),hk,tz hk h0 l];have e1:t/k=(t-k)/k+1:=by rw[Nat.div_eq t k,if_pos ⟨h0,h⟩]
   have e2:(t-k)%k=t%k:=by rw[Nat.mod_eq t k,if_pos ⟨h0,h⟩]
   rw[e1,e2,List.getElem?_cons_succ]
theorem oV (hk:∀x,(enc x).length=k):∀l:List α,(l.flatMap enc).length=l.length*k
 |[]=>by simp
 |x::l=>by rw[List.flatMap_cons,bM,hk,oV hk l,dr,Nat.add_mul];omega
theorem vT (hk:∀x,(enc x).length=k) (h0:0<k) (d:Array α) {t:Nat} (ht:t<d.size*k):(d.toList.flatMap enc)[t]? =some (flatK enc k d)[t]! :=by
 have h1:t/k<d.size:=Nat.div_lt_of_lt_mul (by rw[Nat.mul_comm];exact ht);have h2:t%k<k:=Nat.mod_lt _ h0;rw[tz hk h0,get_flatK _ _ _ _ ht];have e:d.toList[t/k]? =some d[t/k]! :=by simp[h1]
 rw[e];simp[hk,h2]
theorem E9 {w:World} {g:Nat} {cur:Array Value} {e:TypeId} {d:Array α} (hk:∀x,(enc x).length=k) (h0:0<k) (hg:w.heap[g]? =some (.cells cur e (0,0))) (hC:cur.toList.take (d.size*k)=d.toList.flatMap enc):HoldsK enc k w g 0 d:=fun j hj=>by
 rw[size_flatK]at hj;have h1:=vT hk h0 d hj;rw[←hC,de,if_pos hj,Array.getElem?_toList]at h1;constructor
 ·simp[World.cell?,hg,h1]
 ·simp[World.frozen?,hg]
theorem xw {w:World} {g n:Nat} {cur:Array Value} {e:TypeId} {d:Array α} {os:Array Obj} (hg:w.heap[g]? =some (.cells cur e (0,0))):(sortWorldK enc k w g 0 n d os).heap[g]? =some (.cells (putCells id 0 (flatK enc k d) cur) e (0,0)):=by
 have dW:g<w.heap.size:=an hg
 have h1:(w.heap.modify g (onCells (putCells id 0 (flatK enc k d))))[g]? =some (.cells (putCells id 0 (flatK enc k d) cur) e (0,0)):=by
  rw[rH,if_pos rfl,hg];rfl
 show((w.heap.modify g (onCells (putCells id 0 (flatK enc k d))))++os)[g]? =_;rw[Array.getElem?_append_left (by simpa using dW)];exact h1
theorem tX {w:World} {g n:Nat} {d:Array α} {os:Array Obj}:Step allM w allM (sortWorldK enc k w g 0 n d os) (fun b=>b=g):=
 ⟨fun h=>absurd (h w.heap.size trivial) (od _),rfl,rfl,rfl,by show _≤((w.heap.modify g _)++os).size;simp,fun _ _=>Iff.rfl,fun b hb hn=>by
  have hn: ¬b=g:=hn;show((w.heap.modify g (onCells (putCells id 0 (flatK enc k d))))++os)[b]? =_;rw[Array.getElem?_append_left (by simpa using hb),rH,if_neg (fun h=>hn h.symm)],fun _ _=>trivial⟩
theorem xx {F cur:Array Value} (h:F.size≤cur.size):(putCells id 0 F cur).toList.take F.size=F.toList:=by
 apply lV;intro j;rw[de];by_cases hj:j<F.size
 ·rw[if_pos hj];simp[putCells,hj,Nat.lt_of_lt_of_le hj h]
 ·rw[if_neg hj,eM (by simpa using hj)]
theorem zq (hk:∀x,(enc x).length=k) (h0:0<k) (d:Array α):(flatK enc k d).toList=d.toList.flatMap enc:=by
 apply lV;intro j;by_cases hj:j<d.size*k
 ·rw[vT hk h0 d hj];have:j<(flatK enc k d).size:=by rw[size_flatK];exact hj
  rw[Array.getElem?_toList,getElem!_pos _ j this];exact jc this
 ·rw[eM (by rw[nc,size_flatK];omega),eM (by rw[oV hk,nc];omega)]
end
end Go.K
namespace Go.K
open Go.Proofs
set_option maxRecDepth 10000
open Go.Proofs Go.Sort
theorem D6:∀{ts:List Fd} {C:List Value} {M:aL} {w:World},fu RT.fd M w ts C→C=ts.flatMap fun t=>[.string ⟨t.1.toArray⟩,.string ⟨t.2.toArray⟩]
 |[],C,_,_,h=>h
 |t::ts,C,_,_,⟨vs,r,h1,h2,h3⟩=>by
  obtain⟨va,vb,rfl,h4,h5⟩:=h2;rw[h1,D6 h3,h4.1,h5.1];rfl
theorem Bk {M:aL} {w:World}:∀{ts:List Fd},(∀t∈ts,t.1.length≤1000000∧t.2.length≤1000000)→fu RT.fd M w ts (ts.flatMap fun t=>[.string ⟨t.1.toArray⟩,.string ⟨t.2.toArray⟩])
 |[],_=>rfl
 |t::ts,h=>by
  obtain⟨h1,h2⟩:=h t (cx ..);exact⟨_,_,rfl,⟨_,_,rfl,⟨rfl,by omega⟩,⟨rfl,by omega⟩⟩,Bk fun u hu=>h u (cL _ hu)⟩
def HW (us:List Fd):Prop:=us.Pairwise fun a b=>¬Lib.compareBytes (dm b) (dm a)<0
theorem xy {base:Nat} {v:Value} {ts:List Fd} (w0:World) (ho:Own RT.fd 47 (pM v) w0 base v ts) (hT:∀t∈ts,(0:UInt8)∉t.1∧t.1.length≤1000000∧t.2.length≤1000000) (hl:ts.length≤100000000):
  Spec Tryz.prog 196 #[v,.func (.func 158) #[] #[]] w0 (fun r w=>r= .tuple #[]∧∃us:List Fd,us.Perm ts∧HW us∧Own RT.fd 47 (pM v) w base v us∧Step allM w0 allM w (pM v)):=by
 obtain⟨⟨C,⟨hC,hr⟩,hA⟩,hm⟩:=ho;rcases hr with⟨rfl,h0⟩|⟨g,cap,cur,rfl,hb,hg,hle,hmx,hcz,Ex⟩
 ·have Cl:ts=[]:=hG.1 h0;subst Cl;exact(AnyF.slices_SortFunc_none Tryz.HU none 0 _ w0).mono fun e w' ⟨h1,h2⟩=>⟨_,h1,rfl,[],.refl _,List.Pairwise.nil,dQ _ _ _ _ _,by rw[h2];exact(ar allM w0).cw (fun _ h=>h.elim) (fun _ _=>trivial)⟩
 ·obtain⟨d,hd⟩:∃d:Array TK,d.toList.map (·.1)=ts:=⟨(ts.attach.map fun x=>(⟨x.1,hT x.1 x.2⟩:TK)).toArray,by rw[List.toList_toArray,qa];exact List.attach_map_subtype_val ts⟩;have kd:d.size=ts.length:=by rw[←hd];simp
  have hk:∀x:TK,(xv x).length=2:=fun _=>rfl
  have OW:∀l:List TK,(l.map (·.1)).flatMap (fun t:Fd=>[Value.string ⟨t.1.toArray⟩,.string ⟨t.2.toArray⟩])=l.flatMap xv:=fun l=>by rw[List.flatMap_map];rfl
  have hH:HoldsK xv 2 w0 g 0 d:=E9 hk (by omega) hg (by
   have e2:RT.fd.n=2:=rfl;rw[e2]at Ex;rw[kd,Ex,D6 hA,←hd,OW])
  have hs:=TM g 0 cap d w0 hH (an hg) (by omega);rw[kd]at hs;refine hs.mono fun r w' ⟨h1,n,os,h2⟩=>⟨h1,(d.toList.mergeSort fun x y=> !(ltOf FU) y x).map (·.1),?_,?_,?_,?_⟩
  ·rw[←hd];exact(List.mergeSort_perm _ _).map _
  ·refine dR.2 ((List.pairwise_mergeSort (fun a b c h1 h2=>?_) (fun a b=>?_) _).imp fun h=>?_)
   ·simp only[ltOf,gX,decide_eq_false_iff_not]at*
    have:=(D5 fun x:TK=>dm x.1).ntrans c b a (by simpa[ltOf,FU]using h2) (by simpa[ltOf,FU]using h1);simpa[ltOf,FU]using this
   ·simp only[ltOf,jl,gX,decide_eq_false_iff_not];have:=nD (dm a.1) (dm b.1);unfold FU;omega
   ·rw[gX]at h;exact of_decide_eq_false h
  ·have hp:=List.mergeSort_perm d.toList fun x y=> !(ltOf FU) y x
   rw[h2];generalize (d.toList.mergeSort fun x y=> !(ltOf FU) y x)=us at hp;have TN:(us.map (·.1)).length=ts.length:=by rw[cj,hp.length_eq,nc,kd]
   have zM:us.toArray.size*2=ts.length*2:=by rw[←TN];simp
   have e2:RT.fd.n=2:=rfl;refine⟨⟨(us.map (·.1)).flatMap (fun t:Fd=>[Value.string ⟨t.1.toArray⟩,.string ⟨t.2.toArray⟩]),⟨?_,.inr ⟨g,cap,_,by rw[TN],hb,xw hg,by rw[TN];exact hle,hmx,by rw[←hcz];simp[putCells],?_⟩⟩,Bk fun t ht=>?_⟩,hm⟩
   ·rw[OW,oV hk,cj,e2]
   ·rw[OW,TN,e2,←zM,←size_flatK xv,xx (by rw[size_flatK,zM,hcz,e2];omega),zq hk (by omega)]
   ·obtain⟨x,_,rfl⟩:=cg.1 ht;exact x.2.2
  ·rw[h2];exact tX.cw (fun b hb=>by have hb:b=g:=hb;subst hb;rfl) (fun _ _=>trivial)
end Go.K
namespace Go.K
open Go.Proofs
set_option maxRecDepth 10000
theorem Bm {bs mb clock:Nat} {es:List MapEntry} (w0:World) (hk:D3 es) (hT:∀e∈es,∀t,e.key=kv t→(0:UInt8)∉t.1∧t.1.length≤1000000∧t.2.length≤1000000) (WQ:es.length≤100000000) (hlen:∀ts:List Fd,ts.Nodup→(∀t∈ts,∃e∈es,e.key=kv t)→ts.length≤100000000) (OT:w0.heap[bs]? =some (.cells #[.map (some mb)] 227 (0,0))) (hW:fe Tryz.prog 47 w0 mb es clock):
  Spec Tryz.prog 156 #[.func (.func 197) #[] [.pointer (some ⟨bs,0,none⟩)].toArray,.func (.func 158) #[] #[]] w0 (fun v w=>∃us:List Fd,us.Nodup∧(∀t,t∈us↔∃e∈es,e.key=kv t)∧HW us∧Own RT.fd 47 (pM v) w w0.heap.size v us∧Step allM w0 allM w aE):=by
 refine bu (args:=[_,_]) (fn:=Tryz.f156) Tryz.func156 rfl (n:=12) Tryz.ntmps156 (al (aj (ak rfl rfl (ae (al (aj (ah rfl rfl ?_)))))));refine aP rfl rfl XY (zo _ hk WQ OT hW) (fun v1 w1 hc=>?_);obtain⟨ts,pE,nV,ho,s1⟩:=hc;refine ak rfl rfl (ae (al (aj (ah rfl rfl (ah rfl rfl ?_)))));refine aP rfl rfl XZ (xy _ ho (fun t ht=>by obtain⟨e,he,ZJ⟩:=(nV t).1 ht;exact hT e he t ZJ) (hlen ts pE fun t ht=>(nV t).1 ht)) (fun r2 w2 hc=>?_);obtain⟨rfl,us,hp,JT,TO,s2⟩:=hc;refine ae (al (aj (ah rfl rfl (ak rfl rfl (ae (aQ ?_))))));exact aV rfl rfl ⟨us,hp.nodup_iff.2 pE,fun t=>hp.mem_iff.trans (nV t),JT,TO,s1.trans s2 (fun k hk hn=>by have:=(ho.base k hn).1;omega)⟩
theorem CS {mb:Nat} (w0:World):
  Spec Tryz.prog 157 #[.map (some mb)] w0 (fun v w=>∃bs,v= .func (.func 197) #[] [.pointer (some ⟨bs,0,none⟩)].toArray∧w.heap[bs]? =some (.cells #[.map (some mb)] 227 (0,0))∧w0.heap.size≤bs∧Step allM w0 allM w aE):=by
 refine bu (args:=[_]) (fn:=Tryz.f157) Tryz.func157 rfl (n:=4) Tryz.ntmps157 (al (aj ?_));refine tO allM rfl rfl (fun bs w1 zS Jz gs s1=>?_);change w1.heap[bs]? =some (.cells #[.map (some mb)] 227 (0,0))at gs;replace s1:=s1.all;refine ak rfl rfl (ae (al (aj (jF (xs:=[]) (ys:=[.tmp 1]) rfl rfl rfl (ak rfl rfl (ae (aQ ?_)))))));exact aV rfl rfl ⟨bs,rfl,gs,zS,s1⟩
end Go.K
namespace Go.K
open Go.Proofs
set_option maxRecDepth 10000
def posOf (ts:List (Fd×Nat)) (t:Fd):List Int:=(ts.filter fun p=>decide (p.1=t)).map fun p=>(p.2:Int)
def seen (ts:List (Fd×Nat)):List Fd:=ts.foldl (fun l p=>if p.1∈l then l else l++[p.1]) []
theorem Fa (ts:List (Fd×Nat)) (t:Fd) (i:Nat):seen (ts++[(t,i)])=if t∈seen ts then seen ts else seen ts++[t]:=by unfold seen;rw[lU];rfl
theorem vU (ts:List (Fd×Nat)) (t t':Fd) (i:Nat):posOf (ts++[(t,i)]) t'=if t=t' then posOf ts t'++[(i:Int)]else posOf ts t':=by
 unfold posOf;rw[List.filter_append];by_cases h:t=t'<;>simp[h]
theorem sL (ts:List (Fd×Nat)) (t:Fd):(posOf ts t).length≤ts.length:=by
 unfold posOf;rw[cj];exact List.length_filter_le _ _
abbrev j5:Value:= .slice none 0 0
structure Fb (M:aL) (w:World) (B:Nat) (ts:List (Fd×Nat)) (es:List MapEntry):Prop where
 o:∀t v,eg j5 es (kv t) v→Own (RT.int .i64) 3 M w B v (posOf ts t)
 a:∀t t' v v',t≠t'→eg j5 es (kv t) v→eg j5 es (kv t') v'→iP v v'
 k:es.map (·.key)=(seen ts).map kv
theorem Fb.a8 {M M':aL} {w w':World} {B:Nat} {ts:List (Fd×Nat)} {es:List MapEntry} (h:Fb M w B ts es) (s:Step M w M' w' aE):Fb M' w' B ts es:=⟨fun t v hv=>(h.o t v hv).a8 s,h.a,h.k⟩
def IJ (bt mb B:Nat) (ts:List (Fd×Nat)) (M:aL) (w:World):Prop:=w.heap[bt]? =some (.cells #[.map (some mb)] 227 (0,0))∧M bt∧M mb∧B≤bt∧B≤mb∧∃es clock,fe Tryz.prog 47 w mb es clock∧Fb M w B ts es
theorem Own.j6 {α:Type} {A:RT α} {e:TypeId} {M:aL} {w:World} {base b c:Nat} {a:Array MapEntry} {v:Value} {xs:List α} (h:Own A e M w base v xs) (hb:w.heap[b]? =some (.map a c)):v.ownBlock≠some b:=fun hv=>by
 obtain⟨⟨C,h1,_⟩,_⟩:=h;rcases h1.2 with⟨h2,_⟩|⟨g,cap,cur,h2,_,h3,_⟩
 ·rw[h2]at hv;cases hv
 ·rw[h2]at hv;cases hv;rw[h3]at hb;cases hb
theorem rq {ts:List (Fd×Nat)} {es:List MapEntry} {t:Fd} (hk:es.map (·.key)=(seen ts).map kv):(∃e∈es,e.key=kv t)↔t∈seen ts:=by
 constructor
 ·rintro⟨e,he,h⟩;have:kv t∈(seen ts).map kv:=by rw[←hk,←h];exact eZ he
  obtain⟨t',h1,h2⟩:=cg.1 this;rw[←sJ h2];exact h1
 ·intro h;have:kv t∈es.map (·.key):=by rw[hk];exact eZ h
  obtain⟨e,h1,h2⟩:=cg.1 this;exact⟨e,h1,h2⟩
theorem Fc {M:aL} {bt mb B:Nat} {ts:List (Fd×Nat)} {t:Fd} {i:Nat} (w0:World) (hM:Lt M w0) (h1:t.1.length≤900000) (h2:t.2.length≤140737488355328) (hi:i≤1000000) (Cl:ts.length≤10000000) (hJ:IJ bt mb B ts M w0):
  Spec Tryz.prog 155 #[kv t,.int .i64 (i:Int),.pointer (some ⟨bt,0,none⟩)] w0 (fun v w=>∃M',Lt M' w∧IJ bt mb B (ts++[(t,i)]) M' w∧Step M w0 M' w (kN M B)):=by
 obtain⟨gb,dY,eO,hB,D7,es,clock,hW,hI⟩:=hJ;refine bu (args:=[_,_,_]) (fn:=Tryz.f155) Tryz.func155 rfl (n:=13) Tryz.ntmps155 ?_;have S:Step M w0 M w0 (kN M B):=(ar _ _).cw (fun _ h=>h.elim) (fun _ h=>h.2);refine al (aj ?_);refine Rg.iM (A:=RT.fd) rfl rfl hM (tW (by omega) h2) rfl (fun u0 w1 cV s0 _=>?_);have:=an gb;replace dY:=(s0.mem _ this).2 dY;replace gb:=s0.aM gb;replace eO:=(s0.mem _ (an hW.at_)).2 eO;replace hW:=hW.a8 s0;replace hI:=hI.a8 s0;replace hM:=s0.lt hM;have:=S.size;replace S:=S.aB s0;refine ae (aj (aX k7 rfl rfl rfl (by assumption) rfl ?_));refine ch (M:=M) (A:=RT.fd) bw rfl jr (by decide) rfl rfl rfl cV (ao _ _) (fun v1 tu=>?_);obtain rfl:=gN tu;refine ah rfl rfl ?_;refine eA (A:=RT.int .i64) (hn:=by decide) (M:=M) ax I3 (by decide) rfl rfl hM (gC (by omega)) (.inr ⟨rfl,rfl⟩) (fun EZ E0 iC s1_3=>?_);have:=an gb;replace dY:=(s1_3.mem _ this).2 dY;replace gb:=s1_3.aM gb;replace cV:=cV.le (by decide) s1_3.le;replace eO:=(s1_3.mem _ (an hW.at_)).2 eO;replace hW:=hW.a8 s1_3;replace hI:=hI.a8 s1_3;replace hM:=s1_3.lt hM;have:=S.size;replace S:=S.aB s1_3;obtain⟨kl,FP⟩:=HO t (by omega) h2;refine Rg.mapEntry (M:=M) (zv:=j5) k7 yb jR rfl rfl rfl FP hW eO (fun w4 es4 cl4 v s QT hv nV CT J8 s4=>?_);have FV:∀t v,eg j5 es (kv t) v→v.ownBlock≠some mb:=fun t v h=>(hI.o t v h).j6 hW.at_
 have Mt:bt≠mb:=fun e=>by subst e;have:=hW.at_;rw[gb]at this;cases this
 replace hI:Fb M w4 B ts es:=⟨fun t v hv=>(hI.o t v hv).step s4 (fun b hb hk=>FV t v hv (by have hk:b=mb:=hk;rw[←hk];exact hb)),hI.a,hI.k⟩;have TP:=(s4.mem _ (an hW.at_)).2 eO;replace dY:=(s4.mem _ (an gb)).2 dY;replace gb:=s4.bS gb Mt;replace iC:=iC.le s4.le;replace hM:=s4.lt hM;have hmM:∀b,b<w0.heap.size→M b→M b:=fun b hb h=>(S.mem b hb).1 h
 have hz0:=S.size;replace S:=S.trans s4 (fun k hk h=>by have h:k=mb:=h;subst h;exact⟨D7,hmM k hk eO⟩);have pX:=hI.o t v hv;have yM:=sL ts t;refine bZ rfl rfl rfl ?_;refine Rg.kc (M:=M) (base:=B) ax I3 rfl rfl rfl rfl pX iC (ao _ _) (by simp;omega) (by simp;omega) (by have:=an gb;omega) (fun v6 w6 tt s6 hF=>?_);have hblk:∀b,jC v b→B≤b∧M b:=fun b h=>⟨(pX.base b h).1,pX.mut_ b h⟩
 have Fe:∀t' v',t'≠t→eg j5 es (kv t') v'→iP v' v:=fun t' v' fg pR=>hI.a t' t v' v fg pR hv
 have KP:∀t' v',t'≠t→eg j5 es (kv t') v'→Own (RT.int .i64) 3 (kD M v6) w6 B v' (posOf ts t'):=fun t' v' fg pR=>(hI.o t' v' pR).step s6 (fun b hb hk=>Fe t' v' fg pR b hb hk)
 have kd:∀t' v',eg j5 es (kv t') v'→∀b,v'.ownBlock=some b→b<w4.heap.size:=fun t' v' pR b hb=>((hI.o t' v' pR).base b hb).2
 have CU:∀t' v',t'≠t→eg j5 es (kv t') v'→iP v6 v':=fun t' v' fg pR=>(Fe t' v' fg pR).symm.grown hF (kd t' v' pR)
 have ZO:v.ownBlock≠some mb:=pX.j6 QT.at_;have HX:=(s6.mem _ (an QT.at_)).2 TP;replace QT:=QT.step s6 ZO;replace dY:=(s6.mem _ (an gb)).2 dY;replace gb:=s6.bS gb (fun h=>pX.eW gb (by decide) h);replace hM:=s6.lt hM;have ZQ:∀b,b<w0.heap.size→M b→M b:=fun b hb h=>(S.mem b hb).1 h
 replace S:=S.trans s6 (fun k hk h=>⟨(hblk k h).1,ZQ k hk (hblk k h).2⟩);refine bZ rfl rfl rfl ?_;have TQ:=QT.at_;refine Rg.entryStore rfl rfl rfl QT HX nV (fun w8 es8 hW8 n0 TR s8=>?_);have hm8:v6.ownBlock≠some mb:=tt.j6 TQ;replace tt:=tt.step s8 (fun b hb hk=>hm8 (by have hk:b=mb:=hk;rw[←hk];exact hb));have TS:∀t' v',t'≠t→eg j5 es (kv t') v'→Own (RT.int .i64) 3 _ w8 B v' (posOf ts t'):=fun t' v' fg pR=>(KP t' v' fg pR).step s8 (fun b hb hk=>FV t' v' pR (by have hk:b=mb:=hk;rw[←hk];exact hb))
 have TT:=(s8.mem _ (an TQ)).2 HX;refine ae ?_
 first|refine gD.nil ?_|simp+decide only[yC,nd,if_true,if_false]|skip
 replace dY:=(s8.mem _ (an gb)).2 dY;replace gb:=s8.bS gb Mt;replace hM:=s8.lt hM;replace S:=S.trans s8 (fun k hk h=>by have h:k=mb:=h;subst h;exact⟨D7,(S.mem k hk).1 HX⟩)
 have pY:∀t1 v1,eg j5 es8 (kv t1) v1→(t1=t∧v1=v6)∨(t1≠t∧eg j5 es (kv t1) v1):=fun t1 v1 tu=>by
  rcases(TR j5 (kv t1) v1).1 tu with⟨h3,h4⟩|⟨h3,h4⟩
  ·exact .inl ⟨sJ h3,h4⟩
  ·exact .inr ⟨fun e=>h3 (by rw[e];rfl),(CT (kv t1) v1).1 h4⟩
 refine lj rfl ⟨_,hM,⟨gb,dY,TT,hB,D7,es8,_,hW8,⟨fun t1 v1 tu=>?_,fun t1 t2 v1 v2 fg tu nq=>?_,?_⟩⟩,S⟩
 ·rcases pY t1 v1 tu with⟨rfl,rfl⟩|⟨h3,h4⟩
  ·rw[vU,if_pos rfl];exact tt
  ·rw[vU,if_neg (fun e=>h3 e.symm)];exact TS t1 v1 h3 h4
 ·rcases pY t1 v1 tu with⟨rfl,rfl⟩|⟨h3,h4⟩
  ·rcases pY t2 v2 nq with⟨rfl,_⟩|⟨h5,h6⟩
   ·exact absurd rfl fg
   ·exact CU t2 v2 h5 h6
  ·rcases pY t2 v2 nq with⟨rfl,rfl⟩|⟨h5,h6⟩
   ·exact(CU t1 v1 h3 h4).symm
   ·exact hI.a t1 t2 v1 v2 fg h4 h6
 ·rw[n0,Fa];rcases J8 with⟨h3,h4⟩|⟨h3,h4⟩
  ·rw[h3,hI.k,if_pos ((rq hI.k).1 h4)]
  ·rw[h3,hI.k,if_neg (fun h=>by obtain⟨e,he,hk⟩:=(rq hI.k).2 h;exact h4 e he hk)];simp[kv]
end Go.K
namespace Go.K
open Go.Maps (Keyed)
open Go.Lib (compareBytes)
theorem Bn:∀a b:List UInt8,Op.bytesLess a b=decide (compareBytes a b<0)
 |[],[]=>by simp[Op.bytesLess,compareBytes]
 |_::_,[]=>by simp[Op.bytesLess,compareBytes]
 |[],_::_=>by simp[Op.bytesLess,compareBytes]
 |a::x,b::y=>by
  rw[Op.bytesLess,Bn x y,mT];by_cases h1:a.toNat<b.toNat
  ·simp[UInt8.lt_iff_toNat_lt,h1]
  ·by_cases h2:b.toNat<a.toNat
   ·have: ¬a=b:=fun e=>by subst e;omega
    simp[UInt8.lt_iff_toNat_lt,h1,h2,this]
   ·have:a=b:=UInt8.toNat_inj.1 (by omega);simp[UInt8.lt_iff_toNat_lt,h1,h2,this]
theorem oW (a b:List UInt8):compareBytes a b<0↔a<b:=by
 have h:=Bn a b;rw[Go.Proofs.bytesLess_eq]at h;exact(decide_eq_decide.1 h).symm
theorem ig (a:List UInt8): ¬a<a:=fun h=>by have:=(oW a a).2 h;rw[vR]at this;omega
theorem j7 {a b c:List UInt8} (h:a<b) (h':b<c):a<c:=(oW _ _).1 (pz ((oW _ _).2 h) ((oW _ _).2 h'))
theorem kT (a b:List UInt8):a<b∨a=b∨b<a:=by
 rcases Int.lt_trichotomy (compareBytes a b) 0 with h|h|h
 ·exact .inl ((oW _ _).1 h)
 ·exact .inr (.inl (oU h))
 ·exact .inr (.inr ((oW _ _).1 (by rw[nD];omega)))
theorem iF {a b:List UInt8} (h:a<b): ¬b<a:=fun h'=>ig a (j7 h h')
theorem CV {a b:List UInt8}:a≤b↔¬b<a:=Iff.rfl
section
variable {P:Program} {r:Option Nat} {n:Nat} {L:Sl} {ds:List Deferred} {w:World} {K:Kt} {ops:Array Oper} {rest:List Oper} {d:Nat} {x y:Operand} {ty:TypeId} {pos:String} {af:Array Edge}
theorem Rg.OX {t t':TypeId} {p q:List UInt8} (hx:ev L x=some (.string ⟨p.toArray⟩)) (hy:ev L y=some (.string ⟨q.toArray⟩)) (hd:Nat.blt d n=true)
  (k:Rg P r n ops rest ((d,.bool (decide (p<q)))::L) ds w K):
  Rg P r n ops ({dst:=some d,op:= .binOp .lss t x y t',type:=ty,pos,after:=af,guard:=none}::rest) L ds w K:=
 .op (fun _ h=>by cases h) rfl rfl hd _ w (fun ρ h=>by
  simp only[execOp];rw[h x _ hx,h y _ hy];simp[eqGuard,binOp,Op.stringOp,iI,Go.Proofs.bytesLess_eq]) k
theorem Rg.ZR {t t':TypeId} {p q:List UInt8} (hx:ev L x=some (.string ⟨p.toArray⟩)) (hy:ev L y=some (.string ⟨q.toArray⟩)) (hd:Nat.blt d n=true)
  (k:Rg P r n ops rest ((d,.bool (decide (q<p)))::L) ds w K):
  Rg P r n ops ({dst:=some d,op:= .binOp .gtr t x y t',type:=ty,pos,after:=af,guard:=none}::rest) L ds w K:=
 .op (fun _ h=>by cases h) rfl rfl hd _ w (fun ρ h=>by
  have e:(!(decide (p<q)||p==q))=decide (q<p):=by
   rcases kT p q with h|h|h
   ·simp[h,iF h]
   ·subst h;simp[ig]
   ·have: ¬p=q:=fun e=>by subst e;exact ig p h
    simp[h,iF h,this]
  simp only[execOp];rw[h x _ hx,h y _ hy];simp only[binOp,Op.stringOp,iI,Go.Proofs.bytesLess_eq,e];simp[eqGuard]) k
theorem Rg.HY {t t':TypeId} {p q:List UInt8} (hx:ev L x=some (.string ⟨p.toArray⟩)) (hy:ev L y=some (.string ⟨q.toArray⟩)) (hd:Nat.blt d n=true)
  (k:Rg P r n ops rest ((d,.bool (decide (¬p<q)))::L) ds w K):
  Rg P r n ops ({dst:=some d,op:= .binOp .geq t x y t',type:=ty,pos,after:=af,guard:=none}::rest) L ds w K:=
 .op (fun _ h=>by cases h) rfl rfl hd _ w (fun ρ h=>by
  have e:(!decide (p<q))=decide (¬p<q):=by by_cases h:p<q<;>simp[h]
  simp only[execOp];rw[h x _ hx,h y _ hy];simp only[binOp,Op.stringOp,iI,Go.Proofs.bytesLess_eq,e];simp[eqGuard]) k
theorem Rg.OY {t t':TypeId} {p q:List UInt8} (hx:ev L x=some (.string ⟨p.toArray⟩)) (hy:ev L y=some (.string ⟨q.toArray⟩)) (hd:Nat.blt d n=true)
  (k:Rg P r n ops rest ((d,.bool (decide (¬q<p)))::L) ds w K):
  Rg P r n ops ({dst:=some d,op:= .binOp .leq t x y t',type:=ty,pos,after:=af,guard:=none}::rest) L ds w K:=
 .op (fun _ h=>by cases h) rfl rfl hd _ w (fun ρ h=>by
  have e:(decide (p<q)||p==q)=decide (¬q<p):=by
   rcases kT p q with h|h|h
   ·simp[h,iF h]
   ·subst h;simp[ig]
   ·have: ¬p=q:=fun e=>by subst e;exact ig p h
    simp[h,iF h,this]
  simp only[execOp];rw[h x _ hx,h y _ hy];simp only[binOp,Op.stringOp,iI,Go.Proofs.bytesLess_eq,e];simp[eqGuard]) k
end
abbrev xa (l:List (List UInt8)):Prop:=l.Pairwise (· < ·)
theorem Ff {ss:List (List UInt8)} (h:ss.Nodup):xa (ss.mergeSort fun x y=>decide (x≤y)):=by
 have h1:(ss.mergeSort fun x y=>decide (x≤y)).Pairwise (fun x y=>decide (x≤y)=true):=List.pairwise_mergeSort (fun a b c h1 h2=>by
  simp only[decide_eq_true_eq,CV]at h1 h2 ⊢;intro h3;rcases kT a b with h|h|h
  ·exact h2 (j7 h3 h)
  ·subst h;exact h2 h3
  ·exact h1 h) (fun a b=>by
  simp only[jl,decide_eq_true_eq,CV];rcases kT a b with h|h|h
  ·exact .inl (iF h)
  ·subst h;exact .inl (ig a)
  ·exact .inr (iF h)) ss
 have h2:(ss.mergeSort fun x y=>decide (x≤y)).Nodup:=(List.mergeSort_perm ss _).nodup_iff.2 h;refine (h1.and h2).imp ?_;rintro a b ⟨h3,h4⟩;simp only[decide_eq_true_eq,CV]at h3;rcases kT a b with h|h|h
 ·exact h
 ·exact absurd h h4
 ·exact absurd h h3
theorem xa.nodup {l:List (List UInt8)} (h:xa l):l.Nodup:=h.imp fun {a b} h e=>by subst e;exact ig a h
theorem HZ {α:Type} {R:α→α→Prop} (hR:∀a b,R a b→R b a→a=b) {l l':List α} (h:l.Pairwise R) (h':l'.Pairwise R) (hn:l.Nodup) (Mp:l'.Nodup) (hm:∀x,x∈l↔x∈l'):l=l':=
 List.Perm.eq_of_pairwise (fun a b _ _ h1 h2=>hR a b h1 h2) h h' ((List.perm_ext_iff_of_nodup hn Mp).2 hm)
theorem OZ {l l':List (List UInt8)} (h:xa l) (h':xa l') (hm:∀x,x∈l↔x∈l'):l=l':=
 HZ (fun a b h1 h2=>absurd h2 (iF h1)) h h' h.nodup h'.nodup hm
abbrev sv (k:List UInt8):Value:= .string ⟨k.toArray⟩
theorem zr {a b:List UInt8} (h:sv a=sv b):a=b:=by simpa[sv]using h
def CW:Value→Option (DU×List MemPlace):=fun _=>some (.nil,[])
theorem fe.ZS {P:Program} {kt:TypeId} {M:aL} {w:World} {b:Nat} {es:List MapEntry} {clock:Nat} (hk:P.underlying kt=some .string) (h:fe P kt w b es clock) (hm:M b) (hl:es.length≤maxLen) (ks:List (List UInt8)) (KQ:es.map (·.key)=ks.map sv):
  ∃m:List (Lit×DU),Ob P kt CW M w b m∧(strKeys (DataW.map m)).Perm ks∧m.length=ks.length:=by
 have hF:Go.WideElems.Fit P kt CW es.toArray clock:=by
  refine⟨by simpa using hl,⟨fun x hx=>h.lt x (by simpa using hx),?_,?_⟩,fun x hx=>?_⟩
  ·simpa[List.Nodup,dR]using h.born
  ·simpa[List.Nodup,dR]using h.keys
  ·obtain⟨l,hl⟩:=h.ok x (by simpa using hx);exact⟨(l,.nil),by simp[Go.WideElems.rd,hl,CW]⟩
 have hp:=Go.WideShapes.sorted_perm (es.toArray.toList.map (Go.WideElems.rg P kt CW));have hlen:(List.foldr DataW.insert [] (es.toArray.toList.map (Go.WideElems.rg P kt CW))).length=es.length:=by rw[hp.length_eq];simp
 refine⟨_,⟨hm,es.toArray,clock,h.at_,hF,by rw[hlen];simp,rfl⟩,?_,?_⟩
 ·refine (hp.map fun p=>strOf p.1).trans ?_;rw[qa]
  have e:es.toArray.toList.map ((fun p=>strOf p.1)∘Go.WideElems.rg (H:=Unit) P kt CW)=ks:=by
   refine lV fun i=>?_
   have hi:=congrArg (·[i]?) KQ;simp only[ff]at hi ⊢
   cases he:es[i]? with
   |none=>
    rw[he]at hi
    cases ZT:ks[i]? with
    |none=>simp[he]
    |some a=>rw[ZT]at hi;cases hi
   |some e=>
    rw[he]at hi;obtain⟨l,hl⟩:=h.ok e (aG he);obtain⟨s,hs,h1⟩:=iv.1 hi.symm;obtain⟨z,hz1,hz2,_⟩:=Maps.keyOf_str hk hl;have:z=s:=zr (hz1.symm.trans (by simpa using h1.symm));subst this;simp[he,hs,Go.WideElems.rg,Go.WideElems.rd,hl,CW,hz2,strOf]
  rw[e]
 ·rw[hlen];have:=congrArg List.length KQ;simpa using this
end Go.K
namespace Go.K
open Go.Lib (compareBytes)
def iR {α:Type} [DecidableEq α] (key:α→List UInt8) (t:α):List α→List α
 |[]=>[t]
 |u::l=>if key t<key u then t::u::l else if u=t then u::l else u::iR key t l
theorem pA {α:Type} [DecidableEq α] {key:α→List UInt8} {t x:α}:∀{l:List α},x∈iR key t l↔x=t∨x∈l
 |[]=>by simp[iR]
 |u::l=>by
  unfold iR
  split
  ·simp
  ·split
   ·rename_i h;subst h;simp
   ·rw[dN,pA (l:=l),dN];constructor
    ·rintro(h|h|h)
     ·exact .inr (.inl h)
     ·exact .inl h
     ·exact .inr (.inr h)
    ·rintro(h|h|h)
     ·exact .inr (.inl h)
     ·exact .inl h
     ·exact .inr (.inr h)
abbrev sM {α:Type} (key:α→List UInt8) (l:List α):Prop:=l.Pairwise fun a b=>key a<key b
theorem Bo {α:Type} [DecidableEq α] {key:α→List UInt8} {t:α}:∀{l:List α},(∀u∈l,key u=key t→u=t)→sM key l→sM key (iR key t l)
 |[],_,_=>by simp[iR]
 |u::l,hi,h=>by
  have h':=iT.1 h;unfold iR
  split
  ·rename_i dW
   refine iT.2 ⟨fun x hx=>?_,h⟩;rcases dN.1 hx with rfl|hx
   ·exact dW
   ·exact j7 dW (h'.1 x hx)
  ·rename_i dW
   split
   ·exact h
   ·rename_i fg
    have hut:key u<key t:=by
     rcases kT (key u) (key t)with h1|h1|h1
     ·exact h1
     ·exact absurd (hi u (cx ..) h1) fg
     ·exact absurd h1 dW
    refine iT.2 ⟨fun x hx=>?_,Bo (fun v hv=>hi v (cL _ hv)) h'.2⟩;rcases pA.1 hx with rfl|hx
    ·exact hut
    ·exact h'.1 x hx
def allBy {α:Type} [DecidableEq α] (key:α→List UInt8) (l:List α):List α:=l.foldl (fun a t=>iR key t a) []
theorem vV {α:Type} [DecidableEq α] (key:α→List UInt8) (l:List α) (t:α):allBy key (l++[t])=iR key t (allBy key l):=by unfold allBy;rw[lU];rfl
theorem nE {α:Type} [DecidableEq α] {key:α→List UInt8} {S:α→Prop} (hS:∀a b,S a→S b→key a=key b→a=b):∀(l a:List α),(∀x∈l,S x)→(∀x∈a,S x)→sM key a→
  sM key (l.foldl (fun a t=>iR key t a) a)∧∀x,x∈l.foldl (fun a t=>iR key t a) a↔x∈a∨x∈l
 |[],a,_,_,h=>⟨h,fun x=>by simp⟩
 |t::l,a,hl,ha,h=>by
  have ht:=hl t (cx ..)
  obtain⟨h1,h2⟩:=nE hS l (iR key t a) (fun x hx=>hl x (cL _ hx)) (fun x hx=>by
   rcases pA.1 hx with rfl|hx
   ·exact ht
   ·exact ha x hx) (Bo (fun u hu e=>hS _ _ (ha u hu) ht e) h)
  refine⟨h1,fun x=>?_⟩;rw[List.foldl_cons,h2,pA,dN];constructor
  ·rintro((h|h)|h)
   ·exact .inr (.inl h)
   ·exact .inl h
   ·exact .inr (.inr h)
  ·rintro(h|h|h)
   ·exact .inl (.inr h)
   ·exact .inl (.inl h)
   ·exact .inr h
theorem sM.nodup {α:Type} {key:α→List UInt8} {l:List α} (h:sM key l):l.Nodup:=h.imp fun {a b} h e=>by subst e;exact ig _ h
abbrev Fg (t:Fd):Prop:=(0:UInt8)∉t.1
theorem rr {a b:Fd} (ha:Fg a) (hb:Fg b) (h:dm a=dm b):a=b:=by
 obtain⟨h1,h2⟩:=vS ha hb h;exact Prod.ext h1 h2
def cq (tl:List (Fd×Nat)):List Fd:=allBy dm (tl.map (·.1))
theorem oX {tl:List (Fd×Nat)} (hz:∀p∈tl,Fg p.1):sM dm (cq tl):=
 (nE (S:=Fg) (fun _ _=>rr) _ [] (fun x hx=>by obtain⟨p,hp,rfl⟩:=cg.1 hx;exact hz p hp) (fun x h=>by cases h) List.Pairwise.nil).1
theorem iN {tl:List (Fd×Nat)} (hz:∀p∈tl,Fg p.1) {t:Fd}:t∈cq tl↔t∈tl.map (·.1):=by
 have:=(nE (S:=Fg) (key:=dm) (fun _ _=>rr) (tl.map (·.1)) [] (fun x hx=>by obtain⟨p,hp,rfl⟩:=cg.1 hx;exact hz p hp) (fun x h=>by cases h) List.Pairwise.nil).2 t;simpa[cq,allBy]using this
theorem D8 (t:Fd):∀(ts:List (Fd×Nat)) (l:List Fd),t∈ts.foldl (fun l p=>if p.1∈l then l else l++[p.1]) l↔t∈l∨t∈ts.map (·.1)
 |[],l=>by simp
 |p::ts,l=>by
  rw[List.foldl_cons,D8 t ts,fo,dN]
  split
  ·rename_i h
   constructor
   ·rintro(h1|h1)
    ·exact .inl h1
    ·exact .inr (.inr h1)
   ·rintro(h1|h1|h1)
    ·exact .inl h1
    ·exact .inl (by rw[h1];exact h)
    ·exact .inr h1
  ·rw[dy,cI];constructor
   ·rintro((h1|h1)|h1)
    ·exact .inl h1
    ·exact .inr (.inl h1)
    ·exact .inr (.inr h1)
   ·rintro(h1|h1|h1)
    ·exact .inl (.inl h1)
    ·exact .inl (.inr h1)
    ·exact .inr h1
theorem ru {tl:List (Fd×Nat)} {t:Fd}:t∈seen tl↔t∈tl.map (·.1):=by unfold seen;rw[D8];simp
theorem Bp {tl:List (Fd×Nat)} {us:List Fd} (hz:∀p∈tl,Fg p.1) (pE:us.Nodup) (nV:∀t,t∈us↔t∈seen tl) (JT:HW us):us=cq tl:=by
 have hm:∀t,t∈us↔t∈cq tl:=fun t=>by rw[nV,ru,iN hz]
 have jQ:∀t∈cq tl,Fg t:=fun t ht=>by obtain⟨p,hp,rfl⟩:=cg.1 ((iN hz).1 ht);exact hz p hp
 refine List.Perm.eq_of_pairwise (le:=fun a b=>¬compareBytes (dm b) (dm a)<0) (fun a b ha hb h1 h2=>?_) JT ((oX hz).imp fun {a b} h h'=>iF h ((oW _ _).1 h')) ((List.perm_ext_iff_of_nodup pE (oX hz).nodup).2 hm);rw[oW]at h1 h2;rcases kT (dm a) (dm b)with h|h|h
 ·exact absurd h h2
 ·exact rr (jQ a ((hm a).1 ha)) (jQ b hb) h
 ·exact absurd h h1
theorem nF (a b:List (Fd×Nat)) (t:Fd):posOf (a++b) t=posOf a t++posOf b t:=by simp[posOf]
theorem H0 {tl:List (Fd×Nat)} {t:Fd} (h:t∈tl.map (·.1)):posOf tl t≠[]:=by
 obtain⟨p,hp,rfl⟩:=cg.1 h;intro e;have:p∈tl.filter fun q=>decide (q.1=p.1):=gj.2 ⟨hp,by simp⟩
 rw[List.map_eq_nil_iff.1 e]at this;cases this
theorem Fh {tl:List (Fd×Nat)} {t:Fd} (h:t∉tl.map (·.1)):posOf tl t=[]:=by
 unfold posOf;rw[List.filter_eq_nil_iff.2 fun p hp=>by simp;intro e;exact h (cg.2 ⟨p,hp,e⟩)];rfl
theorem Bq (x:Fd) (t:Fd):(posOf (fL x) t).Sublist ((List.range' 0 (words x.2).length).map fun(i:Nat)=>(i:Int)):=by
 have e:(fL x).map (fun p=>(p.2:Int))=(List.range' 0 (words x.2).length).map fun(i:Nat)=>(i:Int):=by
  rw[←List.zipIdx_map_snd 0 (words x.2),qa];unfold fL;rw[qa];rfl
 rw[←e];exact List.filter_sublist.map _
theorem Fi (x:Fd) (t:Fd):(posOf (fL x) t).Pairwise (· < ·)∧∀i∈posOf (fL x) t,0≤i∧i<(words x.2).length:=by
 refine⟨List.Pairwise.sublist (Bq x t) (dR.2 ((List.pairwise_lt_range' (s:=0) (n:=(words x.2).length)).imp fun h=>by omega)),fun i hi=>?_⟩;have:=(Bq x t).subset hi;obtain⟨k,hk,rfl⟩:=cg.1 this;have:=List.mem_range'_1.1 hk;omega
theorem yd {x:Fd} {p:Fd×Nat} (h:p∈fL x):p.1.1=x.1∧p.1.2∈words x.2:=by
 obtain⟨q,hq,rfl⟩:=cg.1 h;have:=List.mem_zipIdx hq;exact⟨rfl,by simp only;rw[this.2.2];exact List.getElem_mem _⟩
theorem ye {fs:List Fd} {p:Fd×Nat} (h:p∈bX fs):∃x∈fs,p.1.1=x.1∧p.1.2∈words x.2:=by
 obtain⟨x,hx,hp⟩:=rN.1 h;exact⟨x,hx,yd hp⟩
theorem qz {x t:Fd} (h:x.1≠t.1):posOf (fL x) t=[]:=Fh fun hm=>by
 obtain⟨p,hp,rfl⟩:=cg.1 hm;exact h (yd hp).1.symm
theorem sN {t:Fd}:∀{fs:List Fd},(∀x∈fs,x.1≠t.1)→posOf (bX fs) t=[]
 |[],_=>rfl
 |x::fs,h=>by
  show posOf (fL x++bX fs) t=[];rw[nF,qz (h x (cx ..)),sN fun y hy=>h y (cL _ hy)];rfl
theorem Br {t:Fd}:∀{fs:List Fd},(fs.map (·.1)).Nodup→posOf (bX fs) t=[]∨∃x∈fs,posOf (bX fs) t=posOf (fL x) t
 |[],_=> .inl rfl
 |x::fs,h=>by
  have h':=List.nodup_cons.1 h;have e:posOf (bX (x::fs)) t=posOf (fL x) t++posOf (bX fs) t:=by show posOf (fL x++bX fs) t=_;rw[nF]
  by_cases hx:x.1=t.1
  ·refine .inr ⟨x,cx ..,?_⟩;rw[e,sN fun y hy e=>h'.1 (by have h9:y.1∈fs.map (·.1):=eZ hy;rw[e,←hx]at h9;exact h9),kK]
  ·rw[e,qz hx,gm];rcases Br (t:=t) h'.2 with h1|⟨y,hy,h1⟩
   ·exact .inl h1
   ·exact .inr ⟨y,cL _ hy,h1⟩
theorem Bs:∀{l:List Int} {last:Int},(∀x∈l,last<x)→l.Pairwise (· < ·)→eI last l=true
 |[],_,_,_=>rfl
 |x::l,last,h1,h2=>by
  have yH:=iT.1 h2;simp only[eI,bT,decide_eq_true_eq];exact⟨h1 x (cx ..),Bs yH.1 yH.2⟩
structure ie (d:Dc):Prop where
 names:∀f∈d.2,fC f.1=true
 once:(d.2.map (·.1)).Nodup
 toks:∀f∈d.2,lH 0 (words f.2)=0
 many:(bX d.2).length≤500
 few:d.2.length≤8
theorem yf:∀{fs sn:List Fd} {n:Nat},vH sn fs n=0→(∀f∈fs,fC f.1=true∧lH 0 (words f.2)=0∧∀g∈sn,g.1≠f.1)∧(fs.map (·.1)).Nodup∧n+(bX fs).length≤500
 |[],sn,n,h=>by
  refine⟨(fun f hf=>by cases hf),List.nodup_nil,?_⟩;simp only[vH]at h
  split at h
  ·cases h
  ·simp[bX];omega
 |f::fs,sn,n,h=>by
  simp only[vH]at h
  split at h
  ·cases h
  ·rename_i h1
   split at h
   ·cases h
   ·rename_i h2
    split at h
    ·exact absurd h (by assumption)
    ·rename_i h3
     obtain⟨h4,h5,h6⟩:=yf h;have h7:∀g∈sn,g.1≠f.1:=fun g hg e=>h2 (rS.2 ⟨g,hg,by simp[e]⟩)
     refine⟨fun x hx=>?_,List.nodup_cons.2 ⟨fun hm=>?_,h5⟩,?_⟩
     ·rcases dN.1 hx with rfl|hx
      ·exact⟨by simpa using h1,by simpa using h3,h7⟩
      ·obtain⟨a,b,c⟩:=h4 x hx;exact⟨a,b,fun g hg=>c g (jA _ hg)⟩
     ·obtain⟨y,hy,e⟩:=cg.1 hm;exact(h4 y hy).2.2 f (List.mem_append_right _ (cI.2 rfl)) e.symm
     ·have:(bX (f::fs)).length=(fL f).length+(bX fs).length:=by show(fL f++bX fs).length=_;rw[bM]
      rw[this,mS];omega
theorem D9 {d:Dc} (h:mq d=0):ie d:=by
 unfold mq at h
 split at h
 ·cases h
 ·obtain⟨h1,h2,h3⟩:=yf h;exact⟨fun f hf=>(h1 f hf).1,h2,fun f hf=>(h1 f hf).2.1,by omega,by omega⟩
theorem yg:∀{ws:List (List UInt8)} {i:Nat},lH i ws=0→∀x∈ws,x.length≤30
 |[],_,_,x,hx=>by cases hx
 |a::ws,i,h,x,hx=>by
  simp only[lH]at h
  split at h
  ·cases h
  ·split at h
   ·cases h
   ·rcases dN.1 hx with rfl|hx
    ·omega
    ·exact yg h x hx
theorem H2 {s:List UInt8} (h:fC s=true):(0:UInt8)∉s:=fun h0=>by
 simp only[fC,bT,cK]at h;have:=h.2 0 h0
 revert this;decide
theorem ie.Fj {d:Dc} (h:ie d):∀p∈bX d.2,Fg p.1:=fun p hp=>by
 obtain⟨x,hx,h1,_⟩:=ye hp;show(0:UInt8)∉p.1.1;rw[h1];exact H2 (h.names x hx)
theorem ie.small {d:Dc} (h:ie d):∀p∈bX d.2,p.1.1.length≤12∧p.1.2.length≤30:=fun p hp=>by
 obtain⟨x,hx,h1,h2⟩:=ye hp;exact⟨by rw[h1];exact A3 (h.names x hx),yg (h.toks x hx) _ h2⟩
theorem ie.pos {d:Dc} (h:ie d) (t:Fd):(posOf (bX d.2) t).Pairwise (· < ·)∧(∀i∈posOf (bX d.2) t,0≤i∧i<500)∧(posOf (bX d.2) t).length≤500:=by
 have hl:=sL (bX d.2) t;have hm:=h.many;rcases Br (t:=t) h.once with h1|⟨x,hx,h1⟩
 ·rw[h1];exact⟨List.Pairwise.nil,(fun i hi=>by cases hi),by simp⟩
 ·obtain⟨h2,h3⟩:=Fi x t
  have yI:(words x.2).length≤500:=by
   have:(fL x).length≤(bX d.2).length:=by
    obtain⟨i,hi⟩:=bN.1 hx;have:=qy hi
    have h5:(bX (d.2.take (i+1))).length≤(bX d.2).length:=by
     have:bX d.2=bX (d.2.take (i+1))++bX (d.2.drop (i+1)):=by unfold bX;rw[←List.flatMap_append,rF]
     rw[this,bM];omega
    rw[this,bM]at h5;omega
   rw[mS]at this;omega
  rw[h1]at hl ⊢;exact⟨h2,fun i hi=>⟨(h3 i hi).1,by have:=(h3 i hi).2;omega⟩,by omega⟩
theorem ie.eI {d:Dc} (h:ie d) (t:Fd):nk (posOf (bX d.2) t)=true:=by
 obtain⟨h1,h2,_⟩:=h.pos t;exact j0.2 ⟨Bs (fun x hx=>by have:=(h2 x hx).1;omega) h1,fun x hx=>by have:=(h2 x hx).2;omega⟩
abbrev ma (e:En):List (Fd×Nat):=bX e.1.2
def Ea (i:Nat) (tl:List (Fd×Nat)) (k:List UInt8):List Po:=((cq tl).filter fun t=>decide (dm t=k)).map fun t=>((i:Int),posOf tl t)
def zt (k:List UInt8):Nat→List En→List Po
 |_,[]=>[]
 |i,e::L=>Ea i (ma e) k++zt k (i+1) L
def pk (L:List En) (k:List UInt8):List Po:=zt k 0 L
theorem vW (k:List UInt8) (e:En):∀(L:List En) (i:Nat),zt k i (L++[e])=zt k i L++Ea (i+L.length) (ma e) k
 |[],i=>by simp[zt]
 |x::L,i=>by
  simp only[List.cons_append,zt,vW k e L (i+1),gZ,dr];rw[show i+1+L.length=i+(L.length+1) by omega]
theorem KR (L:List En) (e:En) (k:List UInt8):pk (L++[e]) k=pk L k++Ea L.length (ma e) k:=by
 unfold pk;rw[vW];simp
def gx (L:List En):List (List UInt8):=L.flatMap fun e=>(cq (ma e)).map dm
theorem vX (L:List En) (e:En):gx (L++[e])=gx L++(cq (ma e)).map dm:=by simp[gx]
def keysOf (L:List En):List (List UInt8):=allBy id (gx L)
theorem kh (L:List En):xa (keysOf L):=(nE (key:=id) (S:=fun _=>True) (fun a b _ _ h=>h) _ [] (fun _ _=>trivial) (fun _ _=>trivial) List.Pairwise.nil).1
theorem iZ {L:List En} {k:List UInt8}:k∈keysOf L↔k∈gx L:=by
 have:=(nE (key:=id) (S:=fun _=>True) (fun a b _ _ h=>h) (gx L) [] (fun _ _=>trivial) (fun _ _=>trivial) List.Pairwise.nil).2 k;simpa[keysOf,allBy]using this
theorem filter_one {α:Type} {key:α→List UInt8} {l:List α} (h:sM key l) (k:List UInt8):l.filter (fun t=>decide (key t=k))=[]∨∃t∈l,key t=k∧l.filter (fun t=>decide (key t=k))=[t]:=by
 have h1:sM key (l.filter fun t=>decide (key t=k)):=List.Pairwise.sublist List.filter_sublist h;have h2:∀x∈l.filter (fun t=>decide (key t=k)),x∈l∧key x=k:=fun x hx=>by simpa using gj.1 hx
 revert h1 h2
 generalize l.filter (fun t=>decide (key t=k))=m;intro h1 h2
 match m,h1,h2 with
 |[],_,_=>exact .inl rfl
 |[t],_,h2=>exact .inr ⟨t,(h2 t (cx ..)).1,(h2 t (cx ..)).2,rfl⟩
 |t::u::m,h1,h2=>
  have:=(iT.1 h1).1 u (cx ..);rw[(h2 t (cx ..)).2,(h2 u (by simp)).2]at this;exact absurd this (ig k)
theorem Eb {d:Dc} (h:ie d) (i:Nat) (k:List UInt8):Ea i (bX d.2) k=[]∨∃t∈cq (bX d.2),dm t=k∧Ea i (bX d.2) k=[((i:Int),posOf (bX d.2) t)]:=by
 rcases filter_one (oX h.Fj) k with h1|⟨t,ht,hk,h1⟩
 ·exact .inl (by unfold Ea;rw[h1];rfl)
 ·exact .inr ⟨t,ht,hk,by unfold Ea;rw[h1];rfl⟩
theorem O0 {tl:List (Fd×Nat)} {i:Nat} {t:Fd} (h:t∈cq tl):Ea i tl (dm t)≠[]:=fun e=>by
 have:t∈(cq tl).filter fun u=>decide (dm u=dm t):=gj.2 ⟨h,by simp⟩
 rw[List.map_eq_nil_iff.1 e]at this;cases this
theorem pB (k:List UInt8):∀(L:List En) (i:Nat) (last:Int),(∀e∈L,ie e.1)→last<i→i+L.length≤2147483648→ej last (zt k i L)=true
 |[],_,_,_,_,_=>rfl
 |e::L,i,last,hF,h1,h2=>by
  have hf:=hF e (cx ..);have hr:=fun last h=>pB k L (i+1) last (fun x hx=>hF x (cL _ hx)) h (by simp at h2;omega)
  simp only[zt];rcases Eb hf i k with h3|⟨t,ht,hk,h3⟩
  ·rw[show Ea i (ma e) k=[]from h3];exact hr last (by omega)
  ·rw[show Ea i (ma e) k=_ from h3]
   have fg:(posOf (bX e.1.2) t).isEmpty=false:=by
    have:=H0 ((iN hf.Fj).1 ht)
    cases h:posOf (bX e.1.2) t with
    |nil=>exact absurd h this
    |cons a b=>rfl
   simp only[List.cons_append,gm,ej,fg,hf.eI t,hr i (by omega),Bool.and_true,Bool.not_false,bT,decide_eq_true_eq];simp at h2;omega
theorem mu (k:List UInt8):∀(L:List En) (i:Nat),(∀e∈L,ie e.1)→(zt k i L).length≤L.length∧∀p∈zt k i L,(i:Int)≤p.1∧p.1<i+L.length∧p.2.length≤500
 |[],_,_=>⟨aT _,fun p h=>by cases h⟩
 |e::L,i,hF=>by
  have hf:=hF e (cx ..);obtain⟨h1,h2⟩:=mu k L (i+1) (fun x hx=>hF x (cL _ hx));simp only[zt,dr];rcases Eb hf i k with h3|⟨t,ht,hk,h3⟩
  ·rw[show Ea i (ma e) k=[]from h3];exact⟨by simpa using Nat.le_succ_of_le h1,fun p hp=>by have:=h2 p (by simpa using hp);exact⟨by omega,by omega,this.2.2⟩⟩
  ·rw[show Ea i (ma e) k=_ from h3];refine⟨by simp;omega,fun p hp=>?_⟩;rcases dN.1 hp with rfl|hp
   ·exact⟨Int.le_refl _,by simp only;omega,(hf.pos t).2.2⟩
   ·have:=h2 p (by simpa using hp);exact⟨by omega,by omega,this.2.2⟩
theorem mU:∀(l:List Po) (last:Int) (m:Nat),-1≤last→ej last l=true→(∀p∈l,p.2.length≤m)→m≤1000000→(dA last l).length≤(18+9*m)*l.length∧iA l≤m*l.length
 |[],_,_,_,_,_,_=>⟨by simp[dA],by simp[iA]⟩
 |(d,ps)::l,last,m,h0,hm,hs,hmm=>by
  simp only[ej,bT,decide_eq_true_eq]at hm;obtain⟨⟨⟨⟨h1,h2⟩,h3⟩,h4⟩,h5⟩:=hm;obtain⟨h6,h7⟩:=j0.1 h4;have ox:=hs _ (cx ..);simp only at ox;obtain⟨i1,i2⟩:=mU l d m (by omega) h5 (fun p hp=>hs p (cL _ hp)) hmm;have a1:=qT ps (-1) (by omega) (fun x hx=>by have:=h7 x hx;omega) h6;have a3:=gE (n:=(d-last-1).toNat) (by omega);have a4:=gE (n:=ps.length) (by omega);have e1:9*ps.length≤9*m:=by omega
  constructor
  ·simp only[dA,dO,bM,dr,Nat.mul_add,Nat.mul_one];omega
  ·simp only[iA,fo,List.sum_cons,dr]at i2 ⊢;rw[Int.natCast_add,Int.mul_add];omega
theorem H3 {k:List UInt8}:∀{L:List En} (i:Nat),k∈gx L→zt k i L≠[]
 |[],_,h=>by cases h
 |e::L,i,h=>by
  simp only[zt];intro hn;obtain⟨h1,h2⟩:=List.append_eq_nil_iff.1 hn;have h:k∈(cq (ma e)).map dm++gx L:=h;rcases dy.1 h with h|h
  ·obtain⟨t,ht,rfl⟩:=cg.1 h;exact O0 ht h1
  ·exact H3 (i+1) h h2
theorem Ec {k:List UInt8}:∀{L:List En} (i:Nat),k∉gx L→zt k i L=[]
 |[],_,_=>rfl
 |e::L,i,h=>by
  have h:k∉(cq (ma e)).map dm++gx L:=h;rw[dy,not_or]at h;simp only[zt];rw[Ec (i+1) h.2,kK];unfold Ea;rw[List.filter_eq_nil_iff.2 fun t ht=>by simp;intro e';exact h.1 (cg.2 ⟨t,ht,e'⟩)];rfl
end Go.K
namespace Go.K
def RT.ptr {α:Type} (A:RT α) (hn:0<A.n:=by decide):RT α where
 n:=1
 agg:=false
 R:=fun M w x vs=>∃b o us,vs=[.pointer (some ⟨b,o,none⟩)]∧¬M b∧A.R M w x us∧w.rangeAt b o us
 len:=by rintro _ _ x vs ⟨b,o,us,rfl,_⟩;rfl
 one:=by rintro _ _ x vs ⟨b,o,us,rfl,_⟩ v hv;simp at hv;subst hv;rfl
 le:=by
  rintro M w M' w' x vs hl ⟨b,o,us,h1,h2,h3,h4⟩;have hp:0<us.length:=by rw[A.len h3];exact hn
  have hc:=h4 0 (us[0]'hp) (av hp);exact⟨b,o,us,h1,(hl b (World.block_lt_of_cell? w _ hc) h2).1,A.le hl h3,qi hl h2 h4⟩
theorem oY {α:Type} {A:RT α} {hn:0<A.n} {M:aL} {w:World} {x:α} {v:Value}:(A.ptr hn).V M w x v↔cc A M w v x:=
 ⟨fun⟨vs,⟨b,o,us,h1,h2,h3,h4⟩,h5⟩=>⟨b,o,us,by subst h1;exact h5,h2,h3,h4⟩,fun⟨b,o,us,h1,h2,h3,h4⟩=>⟨[v],⟨b,o,us,by rw[h1],h2,h3,h4⟩,rfl⟩⟩
abbrev Di:=List (List UInt8)×List Li
abbrev Se:=List Int×List Int×Di
abbrev RT.di:RT Di:=RT.pair (RT.str.sl) (((RT.li).ptr).sl)
abbrev RT.se:RT Se:=RT.pair ((RT.int .i64).sl) (RT.pair ((RT.int .i64).sl) ((RT.di).ptr))
theorem QU:Part RT.di (RT.str.sl) (fun p=>p.1) 0:=Part.fst _ _
theorem di1:Part RT.di (((RT.li).ptr).sl) (fun p=>p.2) 1:=rR _ _
theorem ZU:Part RT.se ((RT.int .i64).sl) (fun p=>p.1) 0:=Part.fst _ _
theorem se1:Part RT.se ((RT.int .i64).sl) (fun p=>p.2.1) 1:=(rR ((RT.int .i64).sl) (RT.pair ((RT.int .i64).sl) ((RT.di).ptr))).trans (Part.fst _ _)
theorem O1:Part RT.se ((RT.di).ptr) (fun p=>p.2.2) 2:=(rR ((RT.int .i64).sl) (RT.pair ((RT.int .i64).sl) ((RT.di).ptr))).trans (rR ((RT.int .i64).sl) ((RT.di).ptr))
abbrev Pa:=List Int×List Int×List (List UInt8)×List (List Po)
abbrev RT.pa:RT Pa:=RT.pair ((RT.int .i64).sl) (RT.pair ((RT.int .i64).sl) (RT.pair (RT.str.sl) (((RT.po).sl).sl)))
theorem KS:Part RT.pa ((RT.int .i64).sl) (fun p=>p.1) 0:=Part.fst _ _
theorem O2:Part RT.pa ((RT.int .i64).sl) (fun p=>p.2.1) 1:=(rR ((RT.int .i64).sl) (RT.pair ((RT.int .i64).sl) (RT.pair (RT.str.sl) (((RT.po).sl).sl)))).trans (Part.fst _ _)
theorem Mu:Part RT.pa (RT.str.sl) (fun p=>p.2.2.1) 2:=((rR ((RT.int .i64).sl) (RT.pair ((RT.int .i64).sl) (RT.pair (RT.str.sl) (((RT.po).sl).sl)))).trans (rR ((RT.int .i64).sl) (RT.pair (RT.str.sl) (((RT.po).sl).sl)))).trans (Part.fst _ _)
theorem H4:Part RT.pa (((RT.po).sl).sl) (fun p=>p.2.2.2) 3:=((rR ((RT.int .i64).sl) (RT.pair ((RT.int .i64).sl) (RT.pair (RT.str.sl) (((RT.po).sl).sl)))).trans (rR ((RT.int .i64).sl) (RT.pair (RT.str.sl) (((RT.po).sl).sl)))).trans (rR _ _)
theorem ZV {M:aL} {w:World} {x:Se} {a b c:Value} (h0:((RT.int .i64).sl).V M w x.1 a) (h1:((RT.int .i64).sl).V M w x.2.1 b) (h2:cc RT.di M w c x.2.2):RT.se.V M w x (.agg [a,b,c].toArray):=
 ⟨[a,b,c],⟨[a],[b,c],rfl,lp h0 rfl rfl,[b],[c],rfl,lp h1 rfl rfl,lp (oY.2 h2) rfl rfl⟩,rfl⟩
theorem KT {M:aL} {w:World} {x:Pa} {a b c d:Value} (h0:((RT.int .i64).sl).V M w x.1 a) (h1:((RT.int .i64).sl).V M w x.2.1 b) (h2:(RT.str.sl).V M w x.2.2.1 c) (h3:(((RT.po).sl).sl).V M w x.2.2.2 d):RT.pa.V M w x (.agg [a,b,c,d].toArray):=
 ⟨[a,b,c,d],⟨[a],[b,c,d],rfl,lp h0 rfl rfl,[b],[c,d],rfl,lp h1 rfl rfl,[c],[d],rfl,lp h2 rfl rfl,lp h3 rfl rfl⟩,rfl⟩
theorem CX {α:Type} {A:RT α} (hg:A.agg=true) {M:aL} {w:World} {x:α} {vs:List Value} (h:A.V M w x (.agg vs.toArray)):∀u∈vs,u.oneCell'=true:=by
 obtain⟨us,h1,h2⟩:=h
 have:vs=us:=by
  unfold RT.val at h2;rw[if_pos hg]at h2;injection h2 with h2
  simpa using congrArg Array.toList h2
 subst this;exact A.one h1
theorem fu.free {α:Type} {A:RT α} (hA:∀M w M' w' x vs,A.R M w x vs→A.R M' w' x vs) {M M':aL} {w w':World}:∀{xs:List α} {C:List Value},fu A M w xs C→fu A M' w' xs C
 |[],_,h=>h
 |x::xs,C,h=>by
  obtain⟨vs,r,h1,h2,h3⟩:=h;exact⟨vs,r,h1,hA _ _ _ _ _ _ h2,fu.free hA h3⟩
theorem Own.tell {α:Type} {A:RT α} {hn:0<A.n} (hA:∀M w M' w' x vs,A.R M w x vs→A.R M' w' x vs) {e:TypeId} {M M0:aL} {w:World} {base:Nat} {v:Value} {xs:List α} (h:Own A e M w base v xs) (hb:∀b,v.ownBlock=some b→¬M0 b) (hlen:xs.length≤140737488355328):(A.sl hn).V M0 w xs v:=by
 obtain⟨⟨C,hr,ha⟩,hm⟩:=h;have h':Own A e (fun b=>v.ownBlock=some b∨M0 b) w base v xs:=⟨⟨C,hr,fu.free hA ha⟩,fun b hb=> .inl hb⟩;exact h'.sl (fun b _ hn=>⟨fun h=>hn (.inr h),rfl⟩) hb hlen
end Go.K
namespace Go.K
open Go.Maps (Keyed)
section
variable {P:Program} {r:Option Nat} {n:Nat} {L:Sl} {ds:List Deferred} {w:World} {K:Kt} {ops:Array Oper} {rest:List Oper} {d:Nat} {x y z:Operand} {ty:TypeId} {pos:String} {af:Array Edge}
variable {kt:TypeId} {M:aL} {b clock:Nat} {es:List MapEntry}
theorem fe.O3 (h:fe P kt w b es clock) {i s:Nat} {key v0 val:Value} (hi:es[i]? =some ⟨key,v0,s⟩) {w':World} (hw:w'.heap[b]? =some (.map (es.set i ⟨key,val,s⟩).toArray clock)):
  fe P kt w' b (es.set i ⟨key,val,s⟩) clock∧(es.set i ⟨key,val,s⟩).map (·.key)=es.map (·.key)∧∀zv iE v',eg zv (es.set i ⟨key,val,s⟩) iE v'↔(iE=key∧v'=val)∨(iE≠key∧eg zv es iE v'):=by
 have nR:=(aw.1 hi).1;have nV:(⟨key,v0,s⟩:MapEntry)∈es:=aG hi;obtain⟨nZ,sI⟩:∃nZ,nZ=es.set i ⟨key,val,s⟩:=⟨_,rfl⟩;rw[←sI]at hw ⊢
 have gT:∀j e',nZ[j]? =some e'→(j=i∧e'=⟨key,val,s⟩)∨(j≠i∧es[j]? =some e'):=fun j e' hj=>by
  rw[sI,ey]at hj
  split at hj
  ·rename_i iy
   left;exact⟨iy.symm,by simpa[nR]using hj.symm⟩
  ·rename_i iy
   exact .inr ⟨fun e=>iy e.symm,hj⟩
 have n0:nZ.map (·.key)=es.map (·.key):=by
  rw[sI,List.map_set];apply lV;intro j;rw[ey]
  split
  ·rename_i iy
   subst iy;have e:=(aw.1 hi).2;simp[nR,e]
  ·rfl
 have HK:nZ.map (·.born)=es.map (·.born):=by
  rw[sI,List.map_set];apply lV;intro j;rw[ey]
  split
  ·rename_i iy
   subst iy;have e:=(aw.1 hi).2;simp[nR,e]
  ·rfl
 have eN:∀e'∈nZ,(e'=⟨key,val,s⟩)∨(e'∈es∧e'.key≠key):=fun e' oT=>by
  obtain⟨j,hj⟩:=bN.1 oT;rcases gT j e' hj with⟨_,e⟩|⟨fg,tp⟩
  ·exact .inl e
  ·refine .inr ⟨aG tp,fun e=>fg ?_⟩;rcases lT j i with h1|h1|h1
   ·exact absurd e (gI h.keys tp hi h1)
   ·exact h1
   ·exact absurd e.symm (gI h.keys hi tp h1)
 have HL:(⟨key,val,s⟩:MapEntry)∈nZ:=aG (i:=i) (by rw[sI,ey];simp[nR])
 have hold:∀e'∈es,e'.key≠key→e'∈nZ:=fun e' oT fg=>by
  obtain⟨j,hj⟩:=bN.1 oT;refine aG (i:=j) ?_;rw[sI,ey,if_neg]
  ·exact hj
  ·rintro rfl;rw[hi]at hj;cases hj;exact fg rfl
 refine⟨⟨hw,?_,fun e' oT=>?_,?_,fun e' oT=>?_⟩,n0,fun zv iE v'=>?_⟩
 ·have:=dR.2 h.born;rw[←HK]at this;exact dR.1 this
 ·rcases eN e' oT with e|⟨h1,_⟩
  ·rw[e];exact(h.lt _ nV:s<clock)
  ·exact h.lt _ h1
 ·have:=dR.2 h.keys;rw[←n0]at this;exact dR.1 this
 ·rcases eN e' oT with e|⟨h1,_⟩
  ·rw[e];exact(h.ok _ nV:∃l,keyOf P kt key=some l)
  ·exact h.ok _ h1
 ·constructor
  ·rintro(⟨e',oT,hk,hv⟩|⟨h1,h2⟩)
   ·rcases eN e' oT with e|⟨h3,h4⟩
    ·subst e;exact .inl ⟨hk.symm,hv⟩
    ·exact .inr ⟨by rw[←hk];exact h4,.inl ⟨e',h3,hk,hv⟩⟩
   ·have fg:iE≠key:=fun e=>h1 _ HL e.symm
    exact .inr ⟨fg,.inr ⟨fun e' oT=>fun e=>by
     by_cases h5:e'.key=key
     ·exact fg (e.symm.trans h5)
     ·exact h1 e' (hold e' oT h5) e,h2⟩⟩
  ·rintro(⟨rfl,rfl⟩|⟨fg,⟨e',oT,hk,hv⟩|⟨h1,h2⟩⟩)
   ·exact .inl ⟨_,HL,rfl,rfl⟩
   ·exact .inl ⟨e',hold e' oT (by rw[hk];exact fg),hk,hv⟩
   ·exact .inr ⟨fun e' oT=>by
     rcases eN e' oT with e|⟨h3,_⟩
     ·rw[e];exact fun e=>fg e.symm
     ·exact h1 e' h3,h2⟩
theorem eg.put {key val:Value} {s:Nat} (hn:∀e∈es,e.key≠key) (zv iE v':Value):eg zv (es++[⟨key,val,s⟩]) iE v'↔(iE=key∧v'=val)∨(iE≠key∧eg zv es iE v'):=by
 constructor
 ·rintro(⟨e,he,hk,hv⟩|⟨h1,h2⟩)
  ·rcases dy.1 he with he|he
   ·exact .inr ⟨by rw[←hk];exact hn e he,.inl ⟨e,he,hk,hv⟩⟩
   ·obtain rfl:=cI.1 he;exact .inl ⟨hk.symm,hv⟩
  ·exact .inr ⟨fun e=>h1 ⟨key,val,s⟩ (by simp) e.symm,.inr ⟨fun e he=>h1 e (jA _ he),h2⟩⟩
 ·rintro(⟨rfl,rfl⟩|⟨fg,⟨e,he,hk,hv⟩|⟨h1,h2⟩⟩)
  ·exact .inl ⟨⟨_,_,s⟩,by simp,rfl,rfl⟩
  ·exact .inl ⟨e,jA _ he,hk,hv⟩
  ·refine .inr ⟨fun e he=>?_,h2⟩;rcases dy.1 he with he|he
   ·exact h1 e he
   ·obtain rfl:=cI.1 he;exact fun e=>fg e.symm
theorem Rg.KU {t e:TypeId} {key val:Value} {kl:Lit} (ht:P.underlying t=some (.map kt e)) (Kk:Keyed P kt) (hx:ev L x=some (.map (some b))) (hy:ev L y=some key) (hz:ev L z=some val) (kG:keyOf P kt key=some kl) (h:fe P kt w b es clock) (hm:M b)
  (k:∀w' nZ CL,fe P kt w' b nZ CL→((nZ.map (·.key)=es.map (·.key)∧∃e∈es,e.key=key)∨(nZ.map (·.key)=es.map (·.key)++[key]∧∀e∈es,e.key≠key))→(∀zv iE v',eg zv nZ iE v'↔(iE=key∧v'=val)∨(iE≠key∧eg zv es iE v'))→Step M w M w' (fun k=>k=b)→Rg P r n ops rest L ds w' K):
  Rg P r n ops ({dst:=none,op:= .mapUpdate t x y z,type:=ty,pos,after:=af,guard:=none}::rest) L ds w K:=by
 have dW:=an h.at_;rcases Kk.find w kG es h.ok with⟨h1,h2⟩|⟨j,e0,h1,h2,h3⟩
 ·have hw:({w with heap:=w.heap.setIfInBounds b (.map (es.toArray.push ⟨key,val,clock⟩) (clock+1))}:World).heap[b]? =some (.map (es++([⟨key,val,clock⟩]:List MapEntry)).toArray (clock+1)):=by
   simp[bV,dW]
  refine .Rb (fun _ h=>by cases h) rfl rfl _ (fun ρ hρ=>?_) (k _ _ _ (h.push kG h2 hw) (Or.inr ⟨by simp,h2⟩) (eg.put h2) (iB M hm));simp only[execOp,hρ x _ hx,hρ y _ hy,hρ z _ hz,Instr.mapUpdate,bL,run_underlying ht,cA,dG h.at_,Kk.check w false kG,h1,run_setObj_map h.at_];simp
 ·have he:e0∈es:=aG h2;obtain⟨k0,v0,s0⟩:=e0;simp only at h3;subst h3;have hj:es.toArray[j]? =some ⟨k0,v0,s0⟩:=by simpa using h2
  have HJ:es.toArray.modify j (fun e=>{e with key:=k0,val:=val})=(es.set j ⟨k0,val,s0⟩).toArray:=by
   apply Array.ext_getElem?;intro i;rw[rH];simp only[eL,ey]
   split
   ·rename_i TD
    subst TD;have:=(aw.1 h2).1;rw[h2];simp[this]
   ·rfl
  have hw:({w with heap:=w.heap.setIfInBounds b (.map (es.set j ⟨k0,val,s0⟩).toArray clock)}:World).heap[b]? =some (.map (es.set j ⟨k0,val,s0⟩).toArray clock):=by simp[bV,dW]
  obtain⟨hW,rJ,tu⟩:=h.O3 h2 hw
  have km:(Instr.keyThatStays ((Option.map (fun(e:MapEntry)=>e.key) es.toArray[j]?).getD k0) k0).run P w= .ok k0 w:=by
   rw[hj];simp only[dx,fF];exact Kk.stays w kG
  refine .Rb (fun _ h=>by cases h) rfl rfl _ (fun ρ hρ=>?_) (k _ _ clock hW (Or.inl ⟨rJ,_,he,rfl⟩) tu (iB M hm));simp only[execOp,hρ x _ hx,hρ y _ hy,hρ z _ hz,Instr.mapUpdate,bL,run_underlying ht,cA,dG h.at_,Kk.check w false kG,h1,km,HJ,run_setObj_map h.at_];simp
theorem Bt {t e:TypeId} {zv key:Value} {size bytes:Nat} {kl:Lit} (ht:P.underlying t=some (.map kt e)) (Kk:Keyed P kt) (hi:TI P e zv size bytes) (kG:keyOf P kt key=some kl) (h:fe P kt w b es clock):
  ∃v,eg zv es key v∧∀(w:World) (ρ:Operand→Value) (dst:Option Tmp) (gd:Option (Nat×Bool)),ρ x= .map (some b)→ρ y=key→fe P kt w b es clock→(execOp ρ {dst,op:= .lookup t x y false,type:=ty,pos,after:=af,guard:=gd}).run P w= .ok (.value v) w:=by
 rcases Kk.find w kG es h.ok with⟨h1,h2⟩|⟨j,e0,h1,h2,h3⟩
 ·refine⟨zv,Or.inr ⟨h2,rfl⟩,fun w ρ dst gd hx hy h=>?_⟩;obtain⟨inf,i1,i2,_,_⟩:=hi.get;have hz:(zeroValue e).run P w= .ok zv w:=by simp[zeroValue,typeInfo,i1,i2]
  rcases Kk.find w kG es h.ok with⟨h1,_⟩|⟨j,e0,_,g2,g3⟩
  ·simp only[execOp,hx,hy,Instr.lookup,bL,run_underlying ht,cA,dG h.at_,dS,Kk.check w _ kG,h1,hz];simp
  ·exact absurd g3 (h2 e0 (aG g2))
 ·refine⟨e0.val,Or.inl ⟨e0,aG h2,h3,rfl⟩,fun w ρ dst gd hx hy h=>?_⟩;rcases Kk.find w kG es h.ok with⟨_,g2⟩|⟨j',e1,g1,g2,g3⟩
  ·exact absurd h3 (g2 e0 (aG h2))
  ·have:e1=e0:=h.D1 (aG g2) (aG h2) (g3.trans h3.symm);subst this;simp only[execOp,hx,hy,Instr.lookup,bL,run_underlying ht,cA,dG h.at_,dS,Kk.check w _ kG,g1];simp
theorem bF.rn {N:aL} {t e:TypeId} {zv key:Value} {size bytes:Nat} {kl:Lit} {dst:Option Tmp} {gd:Option (Nat×Bool)} (ht:P.underlying t=some (.map kt e)) (Kk:Keyed P kt) (hi:TI P e zv size bytes) (hx:ev L x=some (.map (some b))) (hy:ev L y=some key) (kG:keyOf P kt key=some kl) (h:fe P kt w b es clock) (hn: ¬N b):
  bF P N w L {dst,op:= .lookup t x y false,type:=ty,pos,after:=af,guard:=gd}:=fun ρ hρ v w' hk hr=>by
 obtain⟨v0,_,gQ⟩:=Bt (x:=x) (y:=y) (ty:=ty) (pos:=pos) (af:=af) ht Kk hi kG h;have h':fe P kt w' b es clock:=⟨(hk.2 b (an h.at_) hn).trans h.at_,h.born,h.lt,h.keys,h.ok⟩;rw[gQ w ρ dst gd (hρ x _ hx) (hρ y _ hy) h]at hr;rw[gQ w' ρ dst gd (hρ x _ hx) (hρ y _ hy) h'];injection hr with h1 h2
 rw[h1]
end
end Go.K

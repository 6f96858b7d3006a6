/- What the law 'MergeCounts' needs of walks and plain Lean, part 5: nothing is assumed beyond the texts that it imports. -/
import Derived.Ground.Names8Prog
import Derived.Ground.SlgnProg
import Derived.Ground.SlsfProg
import Derived.KernelRfl
import Derived.Laws.StructEq
import Derived.Lib.RowBridge
import Derived.Lib.SlicesCompact
import Derived.Shelf.Lays8
import Derived.Shelf.SlGeneric
import Derived.Shelf.SlLaysN
import Derived.Shelf.SlSortCmp.NoneTotal
import Derived.Shelf.SlicesG.CompactS
import Derived.Shelf.SortM.Plain
import Derived.Shelf.SortM.SortNone
import Derived.Shelf.Spec.SlicesGrow
import Derived.Test.YtbobcaffmbaadaaGreatDoorProg
import Derived.Test.YtbobcaffmbaadaaGreatDoorZMergeCounts1
import Derived.Test.YtbobcaffmbaadaaGreatDoorZMergeCounts2
import Derived.Test.YtbobcaffmbaadaaGreatDoorZMergeCounts3
import Derived.Test.YtbobcaffmbaadaaGreatDoorZMergeCounts4
set_option linter.unusedVariables false
set_option linter.unusedSimpArgs false
namespace Go.K
open Go.Proofs
namespace TKBldJ
theorem Gm:TI Tryz.prog 58 (.slice none 0 0) 1 24:=by unfold TI;kernel_rfl
theorem OD:TI Tryz.prog 72 (.agg #[(.slice none 0 0),(.slice none 0 0),(.slice none 0 0),(.slice none 0 0)]) 4 96:=by unfold TI;kernel_rfl
theorem zM:TI Tryz.prog 80 (.slice none 0 0) 1 24:=by unfold TI;kernel_rfl
theorem E39:Enters Tryz.prog 39:=enters Tryz.func39 rfl (by decide)
theorem E40:Enters Tryz.prog 40:=enters Tryz.func40 rfl (by decide)
theorem E41:Enters Tryz.prog 41:=enters Tryz.func41 rfl (by decide)
theorem E42:Enters Tryz.prog 42:=enters Tryz.func42 rfl (by decide)
theorem E43:Enters Tryz.prog 43:=enters Tryz.func43 rfl (by decide)
end TKBldJ
open TKBldJ
set_option maxRecDepth 10000
set_option maxHeartbeats 4000000 in
theorem GA {M:aD} {L:List En} {v0:Value} (w0:World) (hM:Lt M w0) (hv:(RT.en.sl).V M w0 L v0) (hl:∀e∈L,∀f∈e.1.2,f.1.length≤900000∧f.2.length≤900000) (hn:L.length≤100000) (hok:qU (-1) L=true):
  Spec Tryz.prog 11 #[v0] w0 (fun v w=>∃s,v= .tuple #[s,.int .i64 0]∧cQ RT.se M w s (pq (fk L))∧Step M w0 M w aC):=by
 have kR:=hM;have hF:=jL hok
 have Gc:(keysOf L).length≤500000000:=by
  have h1:=(iX L).nodup.length_le_of_subset (l₂:=iD L) (fun x hx=>jn.1 hx);have:=om hF;omega
 have PE:∀k∈keysOf L,k.length≤43:=fun k hk=>wy hF k (jn.1 hk)
 refine bm (args:=[_]) (fn:=Tryz.f11) Tryz.func11 rfl (n:=63) Tryz.ntmps11 ?_;have S:Step M w0 M w0 aC:=(ax _ _).cH (fun _ h=>h.elim) (fun _ h=>h.elim);refine aj (ae (ah rfl rfl (ah rfl rfl (ab (aj (ae ?_))))));refine aY rfl rfl E39 (Mu (Z:=fun k=>w0.heap.size≤k) (B:=w0.heap.size) _ hM (aN _) (fun k hk=>hk)) (fun r1 w1 hc=>?_);obtain⟨M1,b1,rfl,_,hU,s1⟩:=hc;replace hU:=hU.Jc (Z':=fun k=>w0.heap.size≤k∧k<w1.heap.size) (fun c hc dV=>⟨hc,dV⟩);replace hv:=hv.le s1.le;replace hM:=s1.lt hM;have:=S.size;replace S:=S.aB s1;refine ah rfl rfl (ab (aj (ae ?_)));refine eE M1 OD rfl (fun gK TY ad5 ad6 C3 ye=>?_);obtain⟨Lb,yf⟩:∃M',M'=ins M1 gK:=⟨_,rfl⟩;rw[←yf]at ye;have yg:Lb gK:=by rw[yf];exact .inl rfl
 change TY.heap[gK]? =some (.cells #[.slice none 0 0,.slice none 0 0,.slice none 0 0,.slice none 0 0] _ _)at C3;replace hv:=hv.le ye.le;replace hU:=hU.aL ye;replace hM:=ye.lt hM;have:=S.size;replace S:=S.aB ye;refine ab (aj (aj (ae (ad rfl rfl (bQ ez rfl hv rfl (ad rfl rfl (ab (aZ ?_))))))));refine dn (σ:=Nat×Value×Value) (fun q=>[(4,.pointer (some ⟨b1,0,none⟩)),(5,.pointer (some ⟨gK,0,none⟩)),(12,v0),(13,.int .i64 (L.length:Int)),(14,.int .i64 (q.1:Int))]) (fun q w=>∃M' words,Lt M' w∧Step M w0 M' w aC∧(RT.en.sl).V M' w L v0∧oh (ZP w0.heap.size gK q.2.1 q.2.2) M' w w0.heap.size b1 (L.take q.1) words (ng (-1) (L.take q.1))∧w.heap[gK]? =some (.cells #[q.2.1,q.2.2,.slice none 0 0,.slice none 0 0] 72 (0,0))∧M' gK∧Own (RT.int .i64) 3 M' w w0.heap.size q.2.1 ((L.take q.1).map (·.1.1))∧Own (RT.int .i64) 3 M' w w0.heap.size q.2.2 ((L.take q.1).map (·.2))∧ie q.2.1 q.2.2∧0≤words∧words≤500*(q.1:Int)∧q.1≤L.length) (fun q=>L.length-q.1) (0,.slice none 0 0,.slice none 0 0) (.cons rfl (.cons rfl (.cons rfl (.cons rfl (.cons rfl .nil))))) ?_ ?_
 ·exact⟨_,0,hM,S,hv,hU.Jc (Z':=ZP w0.heap.size gK (.slice none 0 0) (.slice none 0 0)) (fun c hc dV=>⟨hc.1,(fun h=>by have:=hc.2;omega),(fun h=>by cases h),(fun h=>by cases h)⟩),C3,yg,dD _ _ _ _ _,dD _ _ _ _ _,ie.nil _,by omega,by omega,bD _⟩
 ·clear hM S hv hU;rintro⟨i,vi,vs⟩ w ⟨M2,words,hM,S,hv,hU,g2,dI,eU,jc,uD,hw1,hw2,hi⟩;dsimp only at hU g2 eU jc uD hw2 hi ⊢;refine aj (ae (cg rfl rfl rfl (ab (aj ?_))));refine bI rfl (fun c4=>?_) (fun c4=>?_)
  ·refine aT (aj (aZ (aj (ae ?_))));refine cF (M:=M2) ez Cm rfl rfl rfl hv (ao _ _) (by omega) (fun u5 e IK jy=>?_);rw[ay]at IK;obtain⟨R5,Vw⟩:=Nk hok IK;have hem:=az IK;refine cN (M:=M2) (A:=RT.en) dS rfl Cm (by decide) rfl rfl rfl jy (ao _ _) (fun v5 qf=>?_);obtain⟨WW,nH⟩:=Vr qf;refine sf (A:=RT.en) (M:=M2) Cm rfl rfl rfl rfl rfl (by assumption) (ao _ _) hM (fun afG aqn wz D6 aqo=>?_);have:=ak g2;replace dI:=(D6.mem _ this).2 dI;replace g2:=D6.aM g2;replace hv:=hv.le D6.le;replace eU:=eU.aL D6;replace jc:=jc.aL D6;replace hU:=hU.aL D6;replace hM:=D6.lt hM;have:=S.size;replace S:=S.aB D6;refine ab (aj (aj (ae (ad rfl rfl ?_))));refine cN (M:=M2) (A:=RT.en) dS rfl Cm (by decide) rfl rfl rfl wz (ao _ _) (fun v6 sN=>?_);refine aY rfl rfl E40 (Mw (Z:=ZP w0.heap.size gK vi vs) _ hM (fun k hk=>⟨by have:=S.size;omega,fun h=>by have:=ak g2;omega,fun h=>by have:=(eU.base k h).2;omega,fun h=>by have:=(jc.base k h).2;omega⟩) hU (by have:=S.size;omega) sN (hl e hem) (fun x hx=>hF x (wL hx)) (by simp;omega) (by omega)) (fun r6 w6 hc=>?_);obtain⟨M6,Jg,s6,rfl,_,Tg⟩:=hc;replace hU:=Tg R5;have RG:(pb e).length≤500:=(hF e hem).many;refine aU (v':= .int .i64 0) (by rw[R5]) ?_;replace eU:=eU.step s6 (fun c hc h=>h.1.2.2.1 hc);replace jc:=jc.step s6 (fun c hc h=>h.1.2.2.2 hc);replace dI:=(s6.mem _ (ak g2)).2 dI;replace g2:=s6.keep g2 (fun h=>h.1.2.1 rfl);replace hv:=hv.le s6.le;replace wz:=wz.le (by decide) s6.le;replace S:=S.cj s6 (fun k hk=>hk.1.1);replace hM:=Jg;rw[Vw.symm]at hU;refine ah rfl rfl (ab (aj (ae (ad rfl rfl (fD rfl rfl rfl (ab (T.wO rfl ((fun h=>h rfl)) (aT ?_))))))));have g2p:=g2;have Zy:=dI
   have Zu:=hv;have Zz:=hU;have BO:=eU;have Ny:=jc;have hMp:=hM;have Sp:=S;obtain⟨P6,hP6⟩:∃P6:Value→World→Prop,P6=fun v w'=>Own (RT.int .i64) 3 (mS v) w' w0.heap.size v ((L.take i).map (·.1.1)++[e.1.1])∧(∀c,v.ownBlock=some c→w6.heap.size≤c∨vi.ownBlock=some c):=⟨_,rfl⟩
   have h6:∀{v:Value} {w w':World},P6 v w→Step M6 w M6 w' aC→P6 v w':=fun {v w w'} h s=>by rw[hP6]at h ⊢;exact⟨h.1.R1 s (fun _ _ h=>h),h.2⟩
   apply T.R0 (M:=M6) [0,1,2,3,4,5,6,7,8,9,10,11,13,12,14,15,16] 13 12 37 (.pointer (some ⟨gK,0,none⟩)) [(6,fK vi)] [cT.eq (.pointer (some ⟨gK,0,none⟩)),cT.eq vi,cT.ptr RT.dc e.1,cT.ptr (RT.int .i64) e.1.1,cT.eq (.int .i64 e.1.1),cT.V ((RT.int .i64).sl) [e.1.1],(cT.mk' (fun v w=>P6 v w) (fun h s=>h6 h s)),cT.eq (.pointer (some ⟨gK,1,none⟩)),cT.eq vs,cT.ptr (RT.int .i64) e.2,cT.eq (.int .i64 e.2),cT.V ((RT.int .i64).sl) [e.2],cT.eq (.pointer (some ⟨gK,0,none⟩))] mixed
   ·simp+decide only[xK,sy,dQ,jd,iZ,ja,fa,cW,hY,qc,cond_true,cond_false,Nat.reduceBEq,Nat.reduceAdd,beq_self_eq_true];rfl
   ·rfl
   ·rfl
   ·rfl
   ·rfl
   ·rfl
   ·rfl
   ·rfl
   ·rfl
   ·rfl
   ·rfl
   ·rfl
   ·exact fun ρ w h=>yJ (size:=1) (o:=0) (o':=0) bY rfl rfl kD (by decide) (h (.tmp 5) _ rfl) w
   ·intro p hp b hb;simp only[cb,eI,or_false]at hp;subst hp;exact eU.mut_ b hb
   ·exact fun p hp=>by
     simp only[cb,eI,or_false]at hp;subst hp;show(6:Nat)≠12;decide
   ·exact vR.st (by exact⟨fun _ _ _ _=>trivial,⟨fun _ _ _ _=>trivial,⟨fun _ _ _ _=>trivial,⟨fun _ _ _ _=>trivial,⟨fun _ _ _ _=>trivial,⟨fun _ _ _ _=>trivial,⟨fun p hp b hb=>(by simp at hp),⟨fun _ _ _ _=>trivial,⟨fun _ _ _ _=>trivial,⟨fun _ _ _ _=>trivial,⟨fun _ _ _ _=>trivial,⟨fun _ _ _ _=>trivial,⟨fun _ _ _ _=>trivial,trivial⟩⟩⟩⟩⟩⟩⟩⟩⟩⟩⟩⟩⟩)
   intro wR9 sA9;have Nz:=sA9 M6;have:=ak g2;replace dI:=(Nz.mem _ this).2 dI;replace g2:=Nz.aM g2;replace hv:=hv.le Nz.le;replace wz:=wz.le (by decide) Nz.le;replace eU:=eU.aL Nz;replace jc:=jc.aL Nz;replace hU:=hU.aL Nz;replace hM:=Nz.lt hM;have:=S.size;replace S:=S.aB Nz;have g2R:=g2;have ZA:=eU;have aqq:=jc;have hz6:=Nz.size;refine⟨?_,?_⟩
   ·refine aJ ?_ ?_
    ·intro wD E sD;replace sD:Step M6 _ M6 wD (fK vi):=sD;refine bK (o':=0) bY rfl rfl kD (by decide) rfl rfl ?_;exact ab ⟨rfl,rfl,_,rfl,rfl,ax _ _⟩
    refine aJ ?_ ?_
    ·intro wD E sD;replace sD:Step M6 _ M6 wD aC:=sD;refine aO (aP aq rfl rfl rfl (sD.aM g2R) rfl ?_);exact ab ⟨rfl,rfl,_,rfl,rfl,ax _ _⟩
    refine aJ ?_ ?_
    ·intro wD E sD;replace sD:Step M6 _ M6 wD (fK vi):=sD;refine aK (M:=M6) (A:=RT.en) (B:=RT.dc) dS rfl rfl oY (by decide) X6 rfl rfl (by decide) wz sD.le (fun uf Gl=>?_);exact ab ⟨rfl,rfl,_,rfl,Gl,ax _ _⟩
    refine aJ ?_ ?_
    ·intro wD E sD;replace sD:Step M6 _ M6 wD (fK vi):=sD;intro v2 Cn;refine aK (M:=M6) (A:=RT.dc) (B:=RT.int .i64) bj rfl rfl I3 (by decide) X5 rfl rfl (by decide) (show cQ RT.dc M6 wD v2 e.1 from Cn) (ao _ _) (fun uf Gl=>?_);exact ab ⟨rfl,rfl,_,rfl,Gl,ax _ _⟩
    refine aJ ?_ ?_
    ·intro wD E sD;replace sD:Step M6 _ M6 wD (fK vi):=sD;intro v3 xo;refine cd (M:=M6) aw rfl rfl (show cQ (RT.int .i64) M6 wD v3 e.1.1 from xo) (ao _ _) (fun ku=>?_);exact ab ⟨rfl,rfl,_,rfl,rfl,ax _ _⟩
    refine aJ ?_ ?_
    ·intro wD E sD;replace sD:Step M6 _ M6 wD aC:=sD;refine aO ?_;refine ep (A:=RT.int .i64) (hn:=by decide) (M:=M6) aq I3 (by decide) rfl rfl (sD.lt hM) (fY WW) (.inr ⟨rfl,rfl⟩) (fun uS wS hS sS=>?_);exact ab ⟨rfl,rfl,_,rfl,hS,sS⟩
    refine aJ ?_ ?_
    ·intro wD E sD;replace sD:Step M6 _ M6 wD aC:=sD;refine aO ?_;intro v5 qf;replace sD:Step M6 wR9 M6 wD aC:=sD;refine lN (M:=M6) (base:=w0.heap.size) aq I3 rfl rfl rfl rfl (ZA.aL sD) (show((RT.int .i64).sl).V M6 wD [e.1.1] v5 from qf) (ao _ _) (by simp;omega) (by simp;omega) (by have:=sD.size;have:=S.size;omega) (fun vA wA hoA sA hFA=>?_);exact ab ⟨rfl,rfl,_,rfl,by show P6 vA wA;rw[hP6];exact⟨hoA.lone,fun c hc=>(hFA c hc).elim (fun h=> .inl (by have:=sD.size;omega)) .inr⟩,sA.back⟩
    refine aJ ?_ ?_
    ·intro wD E sD;replace sD:Step M6 _ M6 wD (fK vi):=sD;refine bK (o':=1) bY rfl rfl kD (by decide) rfl rfl ?_;exact ab ⟨rfl,rfl,_,rfl,rfl,ax _ _⟩
    refine aJ ?_ ?_
    ·intro wD E sD;replace sD:Step M6 _ M6 wD (fK vi):=sD;refine aO (aP aq rfl rfl rfl (sD.keep g2R (fun h=>ZA.eO g2R (by decide) h)) rfl ?_);exact ab ⟨rfl,rfl,_,rfl,rfl,ax _ _⟩
    refine aJ ?_ ?_
    ·intro wD E sD;replace sD:Step M6 _ M6 wD (fK vi):=sD;refine aK (M:=M6) (A:=RT.en) (B:=RT.int .i64) dS rfl rfl I3 (by decide) en1 rfl rfl (by decide) wz sD.le (fun uf Gl=>?_);exact ab ⟨rfl,rfl,_,rfl,Gl,ax _ _⟩
    refine aJ ?_ ?_
    ·intro wD E sD;replace sD:Step M6 _ M6 wD (fK vi):=sD;intro v9 IX;refine cd (M:=M6) aw rfl rfl (show cQ (RT.int .i64) M6 wD v9 e.2 from IX) (ao _ _) (fun ku=>?_);exact ab ⟨rfl,rfl,_,rfl,rfl,ax _ _⟩
    refine aJ ?_ ?_
    ·intro wD E sD;replace sD:Step M6 _ M6 wD (fK vi):=sD;refine aO ?_;refine ep (A:=RT.int .i64) (hn:=by decide) (M:=M6) aq I3 (by decide) rfl rfl (sD.lt hM) (fY nH) (.inr ⟨rfl,rfl⟩) (fun uS wS hS sS=>?_);exact ab ⟨rfl,rfl,_,rfl,hS,sS⟩
    refine aJ ?_ ?_
    ·intro wD E sD;replace sD:Step M6 _ M6 wD (fK vi):=sD;refine aO (aO ?_);intro v2 Cn;intro v3 xo;refine aO ?_;intro v5 qf;intro v6 sN;refine aO (aO (bK (o':=0) bY rfl rfl kD (by decide) rfl rfl ?_));exact ab ⟨rfl,rfl,_,rfl,rfl,ax _ _⟩
    exact xg
   ·intro RU DY;replace DY:Step M6 _ M6 RU (fK vi):=DY;refine aO (aO ?_);intro ae5 My;intro aqs alC;refine aO ?_;intro aqt alD;intro BP HX;refine aO (aO ?_);intro aqu alE;refine aO ?_;intro ZB GB;refine aO ?_;replace HX:P6 BP RU:=HX;rw[hP6]at HX;obtain⟨tO,ZC⟩:=HX;replace GB:((RT.int .i64).sl).V M6 RU [e.2] ZB:=GB;have sX:Step M6 w6 M6 RU (fK vi):=(Nz.cH (fun _ h=>h.elim) (fun b h=>BO.mut_ b h)).trans DY (fun b _ h=>h);have agU:=Ny.step sX (fun c hc h=>uD c h hc);refine lN (M:=M6) (base:=w0.heap.size) aq I3 rfl rfl rfl rfl agU GB (ao _ _) (by simp;omega) (by simp;omega) (by have:=Sp.size;have:=sX.size;omega) (fun v12 WB Qf zD Vx=>?_)
    have L4:∀c,BP.ownBlock=some c→vs.ownBlock≠some c:=fun c hc hv=>by
     rcases ZC c hc with h|h
     ·have:=(Ny.base c hv).2;omega
     ·exact uD c h hv
    have ZD:=tO.R1 zD (fun c hc h=>L4 c hc h)
    have ZE:ie v12 BP:=fun c hc ZF=>by
     rcases Vx c hc with h|h
     ·have:=(tO.base c ZF).2;omega
     ·exact L4 c ZF h
    have agV:∀c,v12.ownBlock=some c→w6.heap.size≤c∨vs.ownBlock=some c:=fun c hc=>(Vx c hc).elim (fun h=> .inl (by have:=sX.size;omega)) .inr
    have sZ:Step M6 w6 (jv M6 v12) WB (fun k=>fK vi k∨fK vs k):=(sX.cH (fun _ h=> .inl h) (fun b h=>h.elim (BO.mut_ b) (Ny.mut_ b))).trans zD (fun b _ h=> .inr h);obtain⟨Qg,Jq⟩:∃M',M'=jv (jv M6 v12) BP:=⟨_,rfl⟩;have sW:Step M6 w6 Qg WB (fun k=>fK vi k∨fK vs k):=by rw[Jq];exact sZ.Zr (fun c hc=>⟨(ZD.base c hc).2,(ZC c hc).elim .inl (fun h=> .inr (.inr (BO.mut_ c h)))⟩)
    have eU:=ZD.O9 (M':=Qg) (by rw[Jq];exact fun b hb=> .inl hb);have jc:=Qf.O9 (M':=Qg) (by rw[Jq];exact fun b hb=> .inr (.inl hb));have dI:=(sW.mem _ (ak g2p)).2 Zy;have g2:=sW.keep g2p (fun h=>h.elim (BO.eO g2p (by decide)) (Ny.eO g2p (by decide)));have hU:=((Zz.Jc (Z':=fun k=>ZP w0.heap.size gK vi vs k∧ZP w0.heap.size gK BP v12 k) (fun c hc dV=>⟨hc,hc.1,hc.2.1,fun h=>(ZC c h).elim (fun h=>by omega) hc.2.2.1,fun h=>(agV c h).elim (fun h=>by omega) hc.2.2.2⟩)).step sW (fun k hk hz=>hk.elim hz.1.2.2.1 hz.1.2.2.2)).Jc (Z':=ZP w0.heap.size gK BP v12) (fun c hc _=>hc.2);have hv:=Zu.le sW.le;have S:=Sp.cj sW (fun k hk=>hk.elim (fun h=>(BO.base k h).1) (fun h=>(Ny.base k h).1));have hM:=sW.lt hMp;refine ab ⟨rfl,rfl,fun h=>absurd rfl h,?_⟩;refine cw (M:=Qg) kD rfl rfl g2 rfl (by obtain⟨_,_,he,_⟩:=eU.isSlice;rw[he];rfl) dI (fun Um g14 jY=>?_);replace g14:Um.heap[gK]? =some (.cells #[BP,vs,.slice none 0 0,.slice none 0 0] 72 (0,0)):=g14;replace eU:=eU.step jY (fun c hc (h:c=gK)=>eU.eO g2 (by decide) (h▸hc));replace jc:=jc.step jY (fun c hc (h:c=gK)=>jc.eO g2 (by decide) (h▸hc));replace dI:=(jY.mem _ (ak g2)).2 dI;replace hU:=hU.step jY (fun k (hk:k=gK) hz=>hz.2.1 hk);replace hv:=hv.le jY.le;replace S:=S.cj jY (fun k (hk:k=gK)=>by rw[hk];omega);replace hM:=jY.lt hM;clear g2;have g2:=g14;refine ab ⟨rfl,rfl,fun h=>absurd rfl h,?_⟩;refine bK (o':=1) bY rfl rfl kD (by decide) rfl rfl ?_;refine ab ⟨rfl,rfl,fun h=>absurd rfl h,?_⟩;refine cw (M:=Qg) kD rfl rfl g2 rfl (by obtain⟨_,_,he,_⟩:=jc.isSlice;rw[he];rfl) dI (fun WU g16 AP=>?_);replace g16:WU.heap[gK]? =some (.cells #[BP,v12,.slice none 0 0,.slice none 0 0] 72 (0,0)):=g16;replace eU:=eU.step AP (fun c hc (h:c=gK)=>eU.eO g2 (by decide) (h▸hc));replace jc:=jc.step AP (fun c hc (h:c=gK)=>jc.eO g2 (by decide) (h▸hc));replace dI:=(AP.mem _ (ak g2)).2 dI
    replace hU:=hU.step AP (fun k (hk:k=gK) hz=>hz.2.1 hk);replace hv:=hv.le AP.le;replace S:=S.cj AP (fun k (hk:k=gK)=>by rw[hk];omega);replace hM:=AP.lt hM;clear g2;have g2:=g16;refine ab ⟨rfl,rfl,fun h=>absurd rfl h,?_⟩;refine mM (ae (bC rfl rfl rfl (by omega) (ad rfl rfl (ab ?_))));have et:L.take (i+1)=L.take i++[e]:=by rw[bV,IK,cE]
    rw[et]at hU;refine⟨rfl,(i+1,BP,v12),(.cons rfl (.cons rfl (.cons rfl (.cons rfl (.cons rfl .nil))))),?_,?_⟩
    ·exact⟨_,_,hM,S,hv,by rw[et];exact hU,g2,dI,by rw[et,cX];exact eU,by rw[et,cX];exact jc,ZE.symm,by omega,by dsimp only;omega,by dsimp only;omega⟩
    ·dsimp only;omega
  ·refine cK (aj (ae ?_));have R6:L.take i=L:=aW (by omega);rw[R6]at hU eU jc;refine ad rfl rfl ?_;refine aY rfl rfl E41 (Gb _ hM hU hF (by omega)) (fun rk w11 hc=>?_);obtain⟨AT,Jj⟩:=hc;have:=ak g2;replace dI:=(Jj.mem _ this).2 dI;replace g2:=Jj.aM g2;replace hv:=hv.le Jj.le;replace eU:=eU.aL Jj;replace jc:=jc.aL Jj;replace hU:=hU.aL Jj;replace hM:=Jj.lt hM;have:=S.size;replace S:=S.aB Jj;refine bK (o':=2) bY rfl rfl zn (by decide) rfl rfl ?_;refine cw (M:=M2) zn rfl rfl g2 rfl (pI AT rfl rfl) dI (fun Dk db fG=>?_);change Dk.heap[_]? =some (Obj.cells #[vi,vs,rk,.slice none 0 0] _ _)at db;have:=ak g2;replace dI:=(fG.mem _ this).2 dI;replace hv:=hv.le fG.le;replace AT:=AT.le fG.le;replace eU:=eU.step fG (fun c hc (h:c=gK)=>eU.eO g2 (by decide) (h▸hc));replace jc:=jc.step fG (fun c hc (h:c=gK)=>jc.eO g2 (by decide) (h▸hc));replace hU:=hU.stepT fG (by first|exact fun k hk=>by(obtain⟨cs,hc⟩:=fB.isCells hk;exact⟨cs,_,hc,by decide,by decide,by decide⟩)|exact fun k (hk:k=gK)=>⟨_,_,hk▸g2,by decide,by decide,by decide⟩);replace hM:=fG.lt hM;have:=S.size;replace S:=S.trans fG (fun k hk h=>by have h:_=_:=h;subst h;first|(exfalso;omega)|(show _≤_;omega)|exact⟨by first|omega|assumption,(S.mem _ hk).1 ((fG.mem _ (ak g2)).1 dI)⟩|exact .inl rfl|exact .inr rfl|exact .inr (.inl rfl)|exact .inr (.inr rfl)|exact .inr (.inr (.inl rfl))|exact rfl);have LL:=db;clear g2;have g2:=LL;clear LL;refine ab (aj (aj (ae (bK (o':=2) bY rfl rfl zn (by decide) rfl rfl (aP aS rfl rfl rfl g2 rfl (aU (v':=rk) rfl (bQ aS rfl AT rfl (ad rfl rfl (ab (aZ ?_))))))))));refine dn (σ:=Nat×Value) (fun q=>[(4,.pointer (some ⟨b1,0,none⟩)),(5,.pointer (some ⟨gK,0,none⟩)),(44,rk),(45,.int .i64 ((keysOf L).length:Int)),(46,.int .i64 (q.1:Int))]) (fun q w=>∃M',Lt M' w∧Step M w0 M' w aC∧oh (ZP w0.heap.size gK vi vs) M' w w0.heap.size b1 L words (ng (-1) L)∧w.heap[gK]? =some (.cells #[vi,vs,rk,q.2] 72 (0,0))∧M' gK∧Own (RT.int .i64) 3 M' w w0.heap.size vi (L.map (·.1.1))∧Own (RT.int .i64) 3 M' w w0.heap.size vs (L.map (·.2))∧Own ((RT.po).sl) 80 M' w w0.heap.size q.2 (((keysOf L).take q.1).map (pk L))∧(RT.str.sl).V M' w (keysOf L) rk∧q.1≤(keysOf L).length) (fun q=>(keysOf L).length-q.1) (0,.slice none 0 0) (.cons rfl (.cons rfl (.cons rfl (.cons rfl (.cons rfl .nil))))) ?_ ?_
   ·exact⟨_,hM,S,hU,g2,dI,eU,jc,dD _ _ _ _ _,AT,bD _⟩
   ·clear hM S hU g2 dI eU jc AT hv;rintro⟨i3,vl⟩ w ⟨M3,hM,S,hU,g2,dI,eU,jc,fB,AT,hi3⟩;dsimp only at g2 fB hi3 ⊢;refine aj (ae (cg rfl rfl rfl (ab (aj ?_))));refine bI rfl (fun Pu=>?_) (fun Pu=>?_)
    ·refine aT (aj (aZ (aj (ae ?_))));refine cF (M:=M3) aS I9 rfl rfl rfl AT (ao _ _) (by omega) (fun u14 k Vy agW=>?_);rw[ay]at Vy;refine bR (M:=M3) aF rfl rfl rfl rfl rfl agW (ao _ _) (fun vk jF=>?_);obtain rfl:=fF jF;refine ah rfl rfl (ab ?_);apply T.pH 4 [0,1] 2 aC mixed rfl rfl rfl rfl;intro U1 MQ;have pY:=MQ M3;have:=ak g2;replace dI:=(pY.mem _ this).2 dI;replace g2:=pY.aM g2;replace AT:=AT.le pY.le;replace eU:=eU.aL pY;replace jc:=jc.aL pY;replace fB:=fB.aL pY;replace hU:=hU.aL pY;replace hM:=pY.lt hM;have:=S.size;replace S:=S.aB pY;refine bK (o':=3) bY rfl rfl Gm (by decide) rfl rfl ?_;refine ab ⟨rfl,rfl,rfl,?_⟩;refine aP kH rfl rfl rfl (by first|assumption|exact de pY (by assumption)) rfl ?_;refine ab ⟨rfl,rfl,rfl,?_⟩;refine ad rfl rfl ?_;refine ab ⟨rfl,rfl,rfl,?_⟩;refine ad rfl rfl ?_;refine ab ⟨rfl,rfl,rfl,?_⟩;refine eZ ?_;refine⟨iA ⟨je bY rfl Gm (by decide),⟨eF rfl g2 (fun h=>h),trivial⟩⟩,?_⟩;have kp:=jG aC U1;refine aY rfl rfl E42 (Gd (k:=k) _ hM hU hF (by omega) (by have:=PE k (az Vy);omega)) (fun r15 w15 hc=>?_);obtain⟨Cr,pU⟩:=hc;have:=ak g2;replace dI:=(pU.mem _ this).2 dI;replace g2:=pU.aM g2;replace AT:=AT.le pU.le;replace eU:=eU.aL pU;replace jc:=jc.aL pU;replace fB:=fB.aL pU;replace hU:=hU.aL pU;replace hM:=pU.lt hM;have:=S.size;replace S:=S.aB pU;refine(fun(kp:eN _ _ _)=>ab ⟨rfl,rfl,fun _=>kp,?_⟩) (by first|exact kp|exact kp.rF (by assumption)|exact kp.goN (by assumption)|exact kp.go (by assumption) (fun _ _ h=>by first|exact h|exact h.elim));refine ep (A:=((RT.po).sl)) (hn:=by decide) (M:=M3) kH zM (by decide) rfl rfl hM (Cr) (.inr ⟨rfl,rfl⟩) (fun alF RN yP j7=>?_)
     have:=ak g2;replace dI:=(j7.mem _ this).2 dI;replace g2:=j7.aM g2;replace AT:=AT.le j7.le;replace Cr:=Cr.le j7.le;replace eU:=eU.aL j7;replace jc:=jc.aL j7;replace fB:=fB.aL j7;replace hU:=hU.aL j7;replace hM:=j7.lt hM;have:=S.size;replace S:=S.aB j7;refine(fun(kp:eN _ _ _)=>ab ⟨rfl,rfl,fun _=>kp,?_⟩) (by first|exact kp|exact kp.rF (by assumption)|exact kp.goN (by assumption)|exact kp.go (by assumption) (fun _ _ h=>by first|exact h|exact h.elim));refine dd (M:=M3) (base:=w0.heap.size) kH zM rfl rfl rfl rfl fB yP (ao _ _) (by simp;omega) (by simp;omega) (S.size) (fun NA ZG ZH Vz jz=>?_);have:=ak g2;replace dI:=(jz.mem _ this).2 dI;replace g2:=jz.keep g2 (fun h=>by first|exact fB.ek g2 h|exact fB.eO g2 (by decide) h|(have:=(fB.base _ h).1;omega));replace AT:=AT.le jz.le;replace Cr:=Cr.le jz.le;replace yP:=yP.le jz.le;replace eU:=eU.step jz (fun b h1 h2=>eU.dz fB (by decide) h1 h2);replace jc:=jc.step jz (fun b h1 h2=>jc.dz fB (by decide) h1 h2);replace hU:=hU.stepT jz (by first|exact fun k hk=>by(obtain⟨cs,hc⟩:=fB.isCells hk;exact⟨cs,_,hc,by decide,by decide,by decide⟩)|exact fun k (hk:k=gK)=>⟨_,_,hk▸g2,by decide,by decide,by decide⟩);replace hM:=jz.lt hM;have:=S.size;replace S:=S.dg jz fB (aN _);replace fB:=Vz;refine ab ⟨rfl,rfl,fun h=>absurd rfl h,?_⟩;refine bK (o':=3) bY rfl rfl Gm (by decide) rfl rfl ?_;refine ab ⟨rfl,rfl,fun h=>absurd rfl h,?_⟩;refine cw (M:=ZG) Gm rfl rfl g2 rfl (by obtain⟨_,_,he,_⟩:=fB.isSlice;rw[he];rfl) dI (fun ZI R7 qF=>?_);change ZI.heap[_]? =some (Obj.cells #[vi,vs,rk,NA] _ _)at R7;have:=ak g2;replace dI:=(qF.mem _ this).2 dI;replace AT:=AT.le qF.le;replace Cr:=Cr.le qF.le;replace yP:=yP.le qF.le;replace eU:=eU.step qF (fun c hc (h:c=gK)=>eU.eO g2 (by decide) (h▸hc))
     replace jc:=jc.step qF (fun c hc (h:c=gK)=>jc.eO g2 (by decide) (h▸hc));replace fB:=fB.step qF (fun c hc (h:c=gK)=>fB.eO g2 (by decide) (h▸hc));replace hU:=hU.stepT qF (by first|exact fun k hk=>by(obtain⟨cs,hc⟩:=fB.isCells hk;exact⟨cs,_,hc,by decide,by decide,by decide⟩)|exact fun k (hk:k=gK)=>⟨_,_,hk▸g2,by decide,by decide,by decide⟩);replace hM:=qF.lt hM;have:=S.size;replace S:=S.trans qF (fun k hk h=>by have h:_=_:=h;subst h;first|(exfalso;omega)|(show _≤_;omega)|exact⟨by first|omega|assumption,(S.mem _ hk).1 ((qF.mem _ (ak g2)).1 dI)⟩|exact .inl rfl|exact .inr rfl|exact .inr (.inl rfl)|exact .inr (.inr rfl)|exact .inr (.inr (.inl rfl))|exact rfl);have LL:=R7;clear g2;have g2:=LL;clear LL;refine ab ⟨rfl,rfl,fun h=>absurd rfl h,?_⟩;refine mM (ae (bC rfl rfl rfl (by omega) (ad rfl rfl (ab ?_))));refine⟨rfl,(i3+1,NA),(.cons rfl (.cons rfl (.cons rfl (.cons rfl (.cons rfl .nil))))),?_,?_⟩
     ·exact⟨_,hM,S,hU,g2,dI,eU,jc,by rw[bV,Vy,cE,cX];exact fB,AT,by dsimp only;omega⟩
     ·dsimp only;omega
    ·refine cK (aj (ae (iK (vs:=[vi,vs,rk,vl]) bY rfl OD rfl rfl rfl g2 ?_)));rw[aW (by omega)]at fB;have UX:RT.pa.V M _ (fk L) _:=YB (x:=fk L) (eU.close kR S (by show(L.map _).length≤_;rw[aG];omega)) (jc.close kR S (by show(L.map _).length≤_;rw[aG];omega)) (AT.le (Le.close kR S)) (fB.close kR S (by show((keysOf L).map _).length≤_;rw[aG];omega));replace S:=S.back;replace hM:=S.lt kR;refine aY rfl rfl E43 (yI (p:=fk L) _ hM UX (HU hF (by omega))) (fun r17 w17 hc=>?_);obtain⟨J3,NC,_⟩:=hc;obtain⟨sg,rfl,x9⟩:=NC (Nl hok (by omega));replace S:=S.aB J3;refine bZ rfl rfl rfl (bZ rfl rfl rfl (ah rfl rfl (ah rfl rfl (ab (aQ ?_)))));exact fm rfl rfl rfl ⟨sg,rfl,x9,S⟩
end Go.K
namespace Go.K
open Go.Proofs
set_option maxRecDepth 10000
theorem vz {id:Int}:∀(fs:List Fd) (i:Nat) (out:List Fd),lT (id,out)=0→lT (id,oc id i out fs)=0
 |[],_,_,h=>h
 |x::fs,i,out,h=>by
  unfold oc
  split
  ·split
   ·rename_i h1;exact vz fs _ _ h1
   ·exact vz fs _ _ h
  ·exact h
theorem pw {id:Int}:∀(fs:List Fd) (i:Nat) (out:List Fd),sO out→sO (oc id i out fs)
 |[],_,_,h=>h
 |x::fs,i,out,h=>by
  unfold oc
  split
  ·rename_i hi
   split
   ·exact pw fs _ _ (h.snoc (yk x hi))
   ·exact pw fs _ _ h
  ·exact h
theorem Jr (d:Dc):lT (pK d)=0:=vz d.2 0 [] rfl
theorem D7 (d:Dc):sO (pK d).2:=pw d.2 0 [] (fun x h=>by cases h)
theorem D8 {e:En}:∀{L:List En} {last:Int},qU last (L++[e])=(qU last L&&decide (mT (ng last L) e=0))
 |[],last=>by show(decide (mT last e=0)&&true)=(true&&decide (mT last e=0));rw[Bool.and_true,fc]
 |x::L,last=>by rw[kL];show(decide (mT last x=0)&&qU x.2 (L++[e]))=(decide (mT last x=0)&&qU x.2 L&&decide (mT (ng x.2 L) e=0));rw[D8 (L:=L),Bool.and_assoc]
theorem yQ {e:En}:∀{L:List En} {last:Int},ng last (L++[e])=e.2
 |[],_=>rfl
 |x::L,last=>by simp only[kL,ng];exact yQ
theorem D9 (l:List Dc) {a s:Int} (ha:0≤a) (hs:1≤s):∀k,qU (-1) (dL l a s k)=true∧ng (-1) (dL l a s k)<a+s*(k:Int)
 |0=>⟨rfl,by show(-1:Int)<_;simp;omega⟩
 |k+1=>by
  obtain⟨h1,h2⟩:=D9 l ha hs k;have e1:a+s*((k+1:Nat):Int)=a+s*(k:Int)+s:=by rw[Int.natCast_add,Int.mul_add];simp;omega
  cases h:l[k]? with
  |none=>rw[yq (List.getElem?_eq_none_iff.1 h),e1];exact⟨h1,by omega⟩
  |some d=>
   rw[yp h,D8,yQ,h1,e1]
   have:mT (ng (-1) (dL l a s k)) (pK d,a+s*(k:Int))=0:=by
    unfold mT;rw[if_neg (fun h=>h (Jr d)),if_neg (by show¬(a+s*(k:Int)≤_);omega)]
   exact⟨by rw[this];rfl,by show a+s*(k:Int)<_;omega⟩
theorem AU {l:List Dc} {a s:Int}:∀{k:Nat} {e:En},e∈dL l a s k→∃d,e.1=pK d
 |0,e,h=>by cases h
 |k+1,e,h=>by
  rw[dL]at h;rcases ch.1 h with h|h
  ·exact AU h
  ·split at h
   ·rename_i d _;rw[bJ.1 h];exact⟨d,rfl⟩
   ·cases h
theorem GC {l:List Dc} {a s:Int} {k:Nat}:∀e∈dL l a s k,∀f∈e.1.2,f.1.length≤900000∧f.2.length≤900000:=fun e he f hf=>by
 obtain⟨d,hd⟩:=AU he;rw[hd]at hf;have:=D7 d f hf;omega
end Go.K
namespace Go.K
variable {P:Program} {r:Option Nat} {n:Nat} {L:Sl} {ds:List Deferred} {w:World} {K:Kt} {ops:Array Oper} {rest:List Oper} {d:Nat} {x y:Operand} {ty:TypeId} {pos:String} {af:Array Edge} {α:Type} {A:RT α}
def BQ {α:Type} (A:RT α):Prop:=∀(M M':aD) (w w':World) (x:α) (vs:List Value),A.R M w x vs→A.R M' w' x vs
theorem dZ.Qh {M M':aD} {w w':World} (hA:BQ A):∀{xs:List α} {C:List Value},dZ A M w xs C→dZ A M' w' xs C
 |[],_,h=>h
 |_::_,_,⟨vs,rest,h1,h2,h3⟩=>⟨vs,rest,h1,hA _ _ _ _ _ _ h2,dZ.Qh hA h3⟩
theorem Own.ND {e:TypeId} {M M2:aD} {w':World} {base:Nat} {v:Value} {xs:List α} (hA:BQ A) (h:Own A e M2 w' base v xs) (s:Step M w M2 w' aC) (hb:w.heap.size≤base) (M1:aD):Own A e (jv M1 v) w' base v xs∧Step M1 w (jv M1 v) w' aC:=by
 have Ou:=h.base;obtain⟨⟨C,hr,ha⟩,hm⟩:=h;refine⟨⟨⟨C,hr,ha.Qh hA⟩,fun b hb=> .inl hb⟩,fun hl b Aa=>?_,s.os,s.tape,s.output,s.size,fun b Aa=>⟨fun h=>h.resolve_left fun e=>by have:=(Ou b e).1;omega,.inr⟩,s.same,fun b h=>h.elim⟩;rcases Aa with h|h
 ·exact(Ou b h).2
 ·exact iu (hl b h) s.size
theorem Own.GD {hn:0<A.n} {e:TypeId} {M M1 M2:aD} {w':World} {base:Nat} {v:Value} {xs:List α} (hA:BQ A) (h:Own A e M2 w' base v xs) (s:Step M w M2 w' aC) (hb:w.heap.size≤base) (hM:Lt M1 w) (hlen:xs.length≤140737488355328):(A.sl hn).V M1 w' xs v∧Step M1 w M1 w' aC:=by
 have Ou:=h.base;obtain⟨h1,h2⟩:=h.ND hA s hb M1;exact⟨h1.sl (fun b _ IZ=>⟨fun h=>IZ (.inr h),rfl⟩) (fun b uW hM'=>by have h3:=(Ou b uW).1;have h4:=hM b hM';omega) hlen,s.any M1⟩
end Go.K
namespace Go.K
open Go.Proofs
set_option maxRecDepth 10000
def gq (l:List Bool):List Int:=(l.zipIdx.filter fun p=>p.1).map fun p=>(p.2:Int)
theorem vB (l:List Bool):(gq l).length≤l.length:=by
 unfold gq;rw[aG];exact dW (l6 _ _) (by simp)
end Go.K
namespace Go.K
abbrev Hd:=Int×Int×Int
def hn (xs:List Hd) (i:Nat):Int:=(xs.getD i (0,0,0)).1
def swp (xs:List Hd) (i j:Nat):List Hd:=(xs.set i (xs.getD j (0,0,0))).set j (xs.getD i (0,0,0))
def p8 (xs:List Hd):Prop:=∀k,0<k→k<xs.length→hn xs ((k-1)/2)≤hn xs k
theorem lV (xs:List Hd) (i j:Nat):(swp xs i j).length=xs.length:=by unfold swp;simp
theorem qG {xs:List Hd} {i j:Nat} (hi:i<xs.length) (hj:j<xs.length) (k:Nat):(swp xs i j).getD k (0,0,0)=if k=j then xs.getD i (0,0,0)else if k=i then xs.getD j (0,0,0)else xs.getD k (0,0,0):=by
 unfold swp;simp only[aA,dq,eV];by_cases h1:j=k
 ·subst h1;rw[if_pos rfl,if_pos hj,if_pos rfl];rfl
 ·rw[if_neg h1,if_neg (show¬k=j from fun h=>h1 h.symm)];by_cases h2:i=k
  ·subst h2;rw[if_pos rfl,if_pos rfl,if_pos hi];rfl
  ·rw[if_neg h2,if_neg (show¬k=i from fun h=>h2 h.symm)]
theorem GF {xs:List Hd} {i j:Nat} (hi:i<xs.length) (hj:j<xs.length) (k:Nat):hn (swp xs i j) k=if k=j then hn xs i else if k=i then hn xs j else hn xs k:=by
 unfold hn;rw[qG hi hj];split
 ·rfl
 ·split<;>rfl
theorem qH {xs:List Hd} {i j:Nat} (hi:i<xs.length) (hj:j<xs.length):(swp xs i j).Perm xs:=by
 have:=List.set_set_perm hi hj;unfold swp;rw[aA,aA,ar hi,ar hj];exact this
structure OG (xs:List Hd) (j:Nat):Prop where
 a:∀k,0<k→k<xs.length→k≠j→hn xs ((k-1)/2)≤hn xs k
 b:0<j→∀k,0<k→k<xs.length→(k-1)/2=j→hn xs ((j-1)/2)≤hn xs k
theorem OG.done {xs:List Hd} {j:Nat} (h:OG xs j) (hd:j=0∨hn xs ((j-1)/2)≤hn xs j):p8 xs:=fun k h0 hk=>by
 by_cases e:k=j
 ·subst e;rcases hd with hd|hd
  ·omega
  ·exact hd
 ·exact h.a k h0 hk e
theorem OG.push {xs:List Hd} (h:p8 xs) (x:Hd):OG (xs++[x]) xs.length:=by
 have key:∀k,k<xs.length→hn (xs++[x]) k=hn xs k:=fun k hk=>by
  unfold hn;rw[aA,aA,fC hk]
 refine⟨fun k h0 hk eQ=>?_,fun h0 k EZ hk he=>?_⟩
 ·rw[bc,cI]at hk;rw[key k (by omega),key _ (by omega)];exact h k h0 (by omega)
 ·rw[bc,cI]at hk;omega
theorem OG.swap {xs:List Hd} {j:Nat} (h:OG xs j) (hj:j<xs.length) (h0:0<j) (hl:hn xs j<hn xs ((j-1)/2)):OG (swp xs ((j-1)/2) j) ((j-1)/2):=by
 obtain⟨i,hi⟩:∃i,i=(j-1)/2:=⟨_,rfl⟩;rw[←hi]at hl ⊢;have jr:i<j:=by omega
 have hs:=fun k=>GF (xs:=xs) (i:=i) (j:=j) (by omega) hj k
 refine⟨fun k EZ hk eQ=>?_,fun hi0 k EZ hk he=>?_⟩
 ·rw[lV]at hk;rw[hs,hs];by_cases e1:k=j
  ·subst e1;rw[if_pos rfl,←hi,if_neg (by omega),if_pos rfl];omega
  ·rw[if_neg e1,if_neg eQ];by_cases e2:(k-1)/2=j
   ·rw[if_pos e2];have:=h.b h0 k EZ hk e2;rw[←hi]at this;exact this
   ·rw[if_neg e2];have h1:=h.a k EZ hk e1;by_cases e3:(k-1)/2=i
    ·rw[if_pos e3];rw[e3]at h1;omega
    ·rw[if_neg e3];exact h1
 ·rw[lV]at hk;rw[hs,hs,if_neg (by omega),if_neg (by omega)];have h2:=h.a i hi0 (by omega) (by omega);by_cases e1:k=j
  ·rw[if_pos e1];exact h2
  ·rw[if_neg e1,if_neg (by omega)];have h1:=h.a k EZ hk e1;rw[he]at h1;omega
structure J5 (xs:List Hd) (n i:Nat):Prop where
 a:∀k,0<k→k<n→(k-1)/2≠i→hn xs ((k-1)/2)≤hn xs k
 b:0<i→∀k,0<k→k<n→(k-1)/2=i→hn xs ((i-1)/2)≤hn xs k
theorem J5.leaf {xs:List Hd} {n i:Nat} (h:J5 xs n i) (hl:n≤2*i+1):∀k,0<k→k<n→hn xs ((k-1)/2)≤hn xs k:=fun k h0 hk=>h.a k h0 hk (by omega)
theorem J5.stay {xs:List Hd} {n i j:Nat} (h:J5 xs n i) (hj:j=2*i+1∨j=2*i+2) (hm:∀k,(k=2*i+1∨k=2*i+2)→k<n→hn xs j≤hn xs k) (hs:hn xs i≤hn xs j):∀k,0<k→k<n→hn xs ((k-1)/2)≤hn xs k:=fun k h0 hk=>by
 by_cases e:(k-1)/2=i
 ·rw[e];have:=hm k (by omega) hk;omega
 ·exact h.a k h0 hk e
theorem J5.swap {xs:List Hd} {n i j:Nat} (h:J5 xs n i) (IZ:n≤xs.length) (JS:j<n) (hj:j=2*i+1∨j=2*i+2) (hm:∀k,(k=2*i+1∨k=2*i+2)→k<n→hn xs j≤hn xs k) (hl:hn xs j<hn xs i):J5 (swp xs i j) n j:=by
 have hs:=fun k=>GF (xs:=xs) (i:=i) (j:=j) (by omega) (by omega) k
 refine⟨fun k EZ hk eQ=>?_,fun _ k EZ hk he=>?_⟩
 ·rw[hs,hs,if_neg eQ];by_cases e1:(k-1)/2=i
  ·rw[if_pos e1];by_cases e2:k=j
   ·rw[if_pos e2];omega
   ·rw[if_neg e2,if_neg (by omega)];exact hm k (by omega) hk
  ·rw[if_neg e1,if_neg (by omega)];by_cases e2:k=i
   ·rw[if_pos e2,e2];rw[e2]at EZ;exact h.b EZ j (by omega) JS (by omega)
   ·rw[if_neg e2];exact h.a k EZ hk e1
 ·rw[hs,hs,if_neg (by omega),if_pos (by omega),if_neg (by omega),if_neg (by omega)];have h1:=h.a k EZ hk (by omega);rw[he]at h1;exact h1
theorem J5.pop {xs:List Hd} (h:p8 xs) (hl:0<xs.length):J5 (swp xs 0 (xs.length-1)) (xs.length-1) 0:=by
 have hs:=fun k=>GF (xs:=xs) (i:=0) (j:=xs.length-1) hl (by omega) k
 refine⟨fun k EZ hk eQ=>?_,fun h0=>by omega⟩;rw[hs,hs,if_neg (by omega),if_neg (by omega),if_neg (by omega),if_neg (by omega)];exact h k EZ (by omega)
theorem p8.min {xs:List Hd} (h:p8 xs):∀k,k<xs.length→hn xs 0≤hn xs k
 |0,_=>Int.le_refl _
 |k+1,hk=>Int.le_trans (p8.min h (k/2) (by omega)) (by have:=h (k+1) (by omega) hk;rwa [Nat.add_sub_cancel]at this)
termination_by k _=>k
theorem p8.take {xs:List Hd} {n:Nat} (IZ:n≤xs.length) (h:∀k,0<k→k<n→hn xs ((k-1)/2)≤hn xs k):p8 (xs.take n):=fun k h0 hk=>by
 rw[bg]at hk
 have key:∀t,t<n→hn (xs.take n) t=hn xs t:=fun t ht=>by
  unfold hn;rw[aA,aA,cp,if_pos ht]
 rw[key _ (by omega),key _ (by omega)];exact h k h0 (by omega)
theorem VA {xs:List Hd} {x:Hd} (hx:x∈xs):∃k,k<xs.length∧xs.getD k (0,0,0)=x∧hn xs k=x.1:=by
 obtain⟨k,hk⟩:=bB.1 hx;have h1:=(an.1 hk).1;refine⟨k,h1,?_,?_⟩
 ·rw[aA,hk];rfl
 ·unfold hn;rw[aA,hk];rfl
theorem Qi {xs ys:List Hd} (hl:0<xs.length) (hp:ys.Perm xs) (jh:ys.getD (xs.length-1) (0,0,0)=xs.getD 0 (0,0,0)):∃x,ys.getD (xs.length-1) (0,0,0)=x∧(x::ys.take (xs.length-1)).Perm xs:=by
 refine⟨_,rfl,?_⟩;have Fh:=hp.length_eq
 have h1:ys=ys.take (xs.length-1)++[ys.getD (xs.length-1) (0,0,0)]:=by
  conv=>lhs;rw[←l4 (xs.length-1) ys]
  congr 1;rw[dG (by omega),fz (by omega),aA,ar (by omega)];rfl
 have h2:(ys.getD (xs.length-1) (0,0,0)::ys.take (xs.length-1)).Perm (ys.take (xs.length-1)++[ys.getD (xs.length-1) (0,0,0)]):=(List.perm_append_comm (l₁:=[_]));rw[←h1]at h2;exact h2.trans hp
end Go.K
namespace Go.K
theorem ta:∀(l:List Int) (last:Int),eA last l=true→l.Pairwise (· < ·)∧∀x∈l,last<x
 |[],_,_=>by simp
 |a::l,last,h=>by
  simp only[eA,bW,decide_eq_true_eq]at h;obtain⟨h1,h2⟩:=ta l a h.2;refine⟨ey.2 ⟨h2,h1⟩,fun x hx=>?_⟩;rcases cb.1 hx with rfl|hx
  ·exact h.1
  ·have:=h2 x hx;omega
end Go.K
namespace Go.K
def Tr (ls:List (List Int)) (i k:Nat) (n:Int):Prop:=∃l,ls[i]? =some l∧l[k]? =some n
def yR (f:Nat→Nat):Nat→Nat
 |0=>0
 |k+1=>yR f k+f k
theorem HY {f g:Nat→Nat}:∀{n:Nat},(∀j,j<n→f j=g j)→yR f n=yR g n
 |0,_=>rfl
 |n+1,h=>by unfold yR;rw[HY (fun j hj=>h j (by omega)),h n (by omega)]
theorem Ea {f g:Nat→Nat} {i:Nat} (hi:f i=g i+1) (hj:∀j,j≠i→f j=g j):∀{n:Nat},i<n→yR f n=yR g n+1
 |0,h=>by omega
 |n+1,h=>by
  unfold yR;by_cases e:i=n
  ·subst e;rw[hi,HY (fun j Q7=>hj j (by omega))];omega
  ·rw[Ea hi hj (n:=n) (by omega),hj n (fun h=>e h.symm)];omega
def qI (ls:List (List Int)) (i:Nat):Nat:=(ls.getD i []).length
def rM (ls:List (List Int)):Nat:=yR (qI ls) ls.length
def rem (ls:List (List Int)) (at_:Nat→Nat):Nat:=yR (fun i=>qI ls i-at_ i) ls.length
def Eb (at_:Nat→Nat) (i:Nat):Nat→Nat:=fun j=>if j=i then at_ j+1 else at_ j
theorem Tr.lt {ls:List (List Int)} {i k:Nat} {n:Int} (h:Tr ls i k n):i<ls.length∧k<qI ls i:=by
 obtain⟨l,h1,h2⟩:=h;have h3:=(an.1 h1).1;refine⟨h3,?_⟩;unfold qI;rw[aA,h1];exact(an.1 h2).1
theorem Tr.un {ls:List (List Int)} {i k:Nat} {n n':Int} (h:Tr ls i k n) (h':Tr ls i k n'):n=n':=by
 obtain⟨l,h1,h2⟩:=h;obtain⟨l',h3,h4⟩:=h';rw[h1]at h3;cases h3;rw[h2]at h4;cases h4;rfl
theorem Tr.ex {ls:List (List Int)} {i k:Nat} (h:k<qI ls i):∃n,Tr ls i k n:=by
 unfold qI at h;rw[aA]at h
 cases hi:ls[i]? with
 |none=>rw[hi]at h;simp at h
 |some l=>rw[hi]at h;exact⟨_,l,hi,ar h⟩
def Up (ls:List (List Int)):Prop:=∀l∈ls,eA (-1) l=true
noncomputable instance (ls:List (List Int)):Decidable (Up ls):=Classical.propDecidable _
theorem Up.mono {ls:List (List Int)} (h:Up ls) {i k k':Nat} {n n':Int} (h1:Tr ls i k n) (h2:Tr ls i k' n') (hk:k<k'):n<n':=by
 obtain⟨l,a1,a2⟩:=h1;obtain⟨l',b1,b2⟩:=h2;rw[a1]at b1;cases b1;have hp:=(ta l (-1) (h l (az a1))).1;obtain⟨c1,c2⟩:=an.1 a2;obtain⟨d1,d2⟩:=an.1 b2;rw[←c2,←d2];exact(cu.1 hp) k k' c1 d1 hk
theorem Up.nn {ls:List (List Int)} (h:Up ls) {i k:Nat} {n:Int} (h1:Tr ls i k n):0≤n:=by
 obtain⟨l,a1,a2⟩:=h1;have:=(ta l (-1) (h l (az a1))).2 n (az a2);omega
structure yS (ls:List (List Int)) (at_:Nat→Nat) (out:List Hd) (last:Int):Prop where
 a:∀o∈out,∃i k:Nat,o=(o.1,(i:Int),(k:Int))∧Tr ls i k o.1∧k<at_ i
 b:∀i k n,Tr ls i k n→k<at_ i→(n,(i:Int),(k:Int))∈out
 c:out.Pairwise fun p q=>p.1<q.1
 d:∀o∈out,o.1≤last
 d2:last= -1∨∃o∈out,o.1=last
 e:∀i n,Tr ls i (at_ i) n→last≤n
 f:out.length+rem ls at_=rM ls
theorem yS.zero (ls:List (List Int)) (h:Up ls):yS ls (fun _=>0) [] (-1):=
 ⟨fun _ h=>by(cases h),fun i k n _ h=>by omega,List.Pairwise.nil,fun _ h=>by(cases h),.inl rfl,fun i n ht=>by have:=h.nn ht;omega,by simp[rem,rM]⟩
theorem yS.step {ls:List (List Int)} {at_:Nat→Nat} {out:List Hd} {last:Int} (hu:Up ls) (h:yS ls at_ out last) {i:Nat} {n:Int} (ht:Tr ls i (at_ i) n) (NF:∀j m,Tr ls j (at_ j) m→n≤m) (eQ:n≠last):
  yS ls (Eb at_ i) (out++[(n,(i:Int),((at_ i:Nat):Int))]) n:=by
 have dV:=h.e i n ht;refine⟨fun o ho=>?_,fun j k m hj hk=>?_,?_,fun o ho=>?_,.inr ⟨_,List.mem_append_right _ (bJ.2 rfl),rfl⟩,fun j m hj=>?_,?_⟩
 ·rcases ch.1 ho with ho|ho
  ·obtain⟨j,k,h1,h2,h3⟩:=h.a o ho;exact⟨j,k,h1,h2,by unfold Eb;split<;>omega⟩
  ·rw[bJ]at ho;subst ho;exact⟨i,at_ i,rfl,ht,by unfold Eb;rw[if_pos rfl];omega⟩
 ·unfold Eb at hk;by_cases e:j=i
  ·subst e;rw[if_pos rfl]at hk;rcases cG k (at_ j)with h1|h1
   ·exact gv _ (h.b j k m hj h1)
   ·obtain rfl:k=at_ j:=by omega
    rw[hj.un ht];exact List.mem_append_right _ (bJ.2 rfl)
  ·rw[if_neg e]at hk;exact gv _ (h.b j k m hj hk)
 ·refine ke.2 ⟨h.c,List.pairwise_singleton _ _,fun p hp q hq=>?_⟩;rw[bJ]at hq;subst hq;have:=h.d p hp;simp only;omega
 ·rcases ch.1 ho with ho|ho
  ·have:=h.d o ho;omega
  ·rw[bJ]at ho;subst ho;exact Int.le_refl _
 ·unfold Eb at hj;by_cases e:j=i
  ·subst e;rw[if_pos rfl]at hj;have:=hu.mono ht hj (by omega);omega
  ·rw[if_neg e]at hj;exact NF j m hj
 ·obtain⟨h1,h2⟩:=ht.lt;have h3:=h.f;have h4:rem ls at_=rem ls (Eb at_ i)+1:=Ea (i:=i) (by simp only[Eb,if_true];omega) (fun j hj=>by simp only[Eb,if_neg hj]) h1;rw[bc,cI];omega
def rz (ls:List (List Int)):Option (List Hd)→Prop
 |none=>∃i k i' k' n,¬(i=i'∧k=k')∧Tr ls i k n∧Tr ls i' k' n
 |some out=>(out.Pairwise fun p q=>p.1<q.1)∧(∀o∈out,∃i k:Nat,o=(o.1,(i:Int),(k:Int))∧Tr ls i k o.1)∧∀i k n,Tr ls i k n→(n,(i:Int),(k:Int))∈out
theorem yS.fin {ls:List (List Int)} {at_:Nat→Nat} {out:List Hd} {last:Int} (h:yS ls at_ out last) (hn:∀i n,¬Tr ls i (at_ i) n):rz ls (some out):=by
 refine⟨h.c,fun o ho=>?_,fun i k n ht=>?_⟩
 ·obtain⟨i,k,h1,h2,_⟩:=h.a o ho;exact⟨i,k,h1,h2⟩
 ·refine h.b i k n ht ?_;rcases cG k (at_ i)with h1|h1
  ·exact h1
  ·obtain⟨m,hm⟩:=Tr.ex (ls:=ls) (i:=i) (k:=at_ i) (by have:=ht.lt.2;omega);exact absurd hm (hn i m)
theorem yS.ZJ {ls:List (List Int)} {at_:Nat→Nat} {out:List Hd} {last:Int} (hu:Up ls) (h:yS ls at_ out last) {i:Nat} {n:Int} (ht:Tr ls i (at_ i) n) (he:n=last):rz ls none:=by
 rcases h.d2 with h1|⟨o,ho,h1⟩
 ·have:=hu.nn ht;omega
 ·obtain⟨j,k,h2,h3,h4⟩:=h.a o ho;refine⟨i,at_ i,j,k,n,fun⟨e1,e2⟩=>by subst e1;omega,ht,?_⟩;rw[he,←h1];exact h3
theorem AV:∀{a b:List Hd},(a.Pairwise fun p q=>p.1<q.1)→(b.Pairwise fun p q=>p.1<q.1)→(∀x,x∈a↔x∈b)→a=b
 |[],[],_,_,_=>rfl
 |[],y::b,_,_,h=>by have:=(h y).2 (bG ..);cases this
 |x::a,[],_,_,h=>by have:=(h x).1 (bG ..);cases this
 |x::a,y::b,ha,hb,h=>by
  obtain⟨ha1,ha2⟩:=ey.1 ha;obtain⟨uW,Aa⟩:=ey.1 hb
  have e:x=y:=by
   rcases cb.1 ((h x).1 (bG ..))with h1|h1
   ·exact h1
   ·rcases cb.1 ((h y).2 (bG ..))with h2|h2
    ·exact h2.symm
    ·have:=uW x h1;have:=ha1 y h2;omega
  subst e;rw[AV ha2 Aa (fun z=>?_)];constructor
  ·intro hz;rcases cb.1 ((h z).1 (bU _ hz))with h1|h1
   ·subst h1;have:=ha1 z hz;omega
   ·exact h1
  ·intro hz;rcases cb.1 ((h z).2 (bU _ hz))with h1|h1
   ·subst h1;have:=uW z hz;omega
   ·exact h1
theorem GG {out:List Hd} (h:out.Pairwise fun p q=>p.1<q.1) {x y:Hd} (hx:x∈out) (hy:y∈out) (he:x.1=y.1):x=y:=by
 obtain⟨i,hi⟩:=bB.1 hx;obtain⟨j,hj⟩:=bB.1 hy;obtain⟨i1,i2⟩:=an.1 hi;obtain⟨j1,j2⟩:=an.1 hj;have hp:=cu.1 h;rcases eM i j with h1|h1|h1
 ·have:=hp i j i1 j1 h1;rw[i2,j2]at this;omega
 ·subst h1;rw[←i2,←j2]
 ·have:=hp j i j1 i1 h1;rw[i2,j2]at this;omega
theorem rz.un {ls:List (List Int)}:∀{r r':Option (List Hd)},rz ls r→rz ls r'→r=r':=by
 have key:∀{out:List Hd},rz ls none→rz ls (some out)→False:=by
  rintro out ⟨i,k,i',k',n,eQ,h1,h2⟩ ⟨h3,h4,h5⟩;have:=GG h3 (h5 _ _ _ h1) (h5 _ _ _ h2) rfl;simp only[ef,true_and]at this;exact eQ ⟨by omega,by omega⟩
 intro r r' h h'
 cases r with
 |none=>cases r' with
  |none=>rfl
  |some o=>exact(key h h').elim
 |some o=>cases r' with
  |none=>exact(key h' h).elim
  |some o'=>
   have half:∀{a b:List Hd},rz ls (some a)→rz ls (some b)→∀x∈a,x∈b:=fun ha hb x hx=>by
    obtain⟨i,k,e1,e2⟩:=ha.2.1 x hx;rw[e1];exact hb.2.2 i k _ e2
   rw[AV h.1 h'.1 (fun x=>⟨half h h' x,half h' h x⟩)]
def ox (ls:List (List Int)) (at_:Nat→Nat) (upto:Nat) (hs:List Hd):Prop:=hs.Nodup∧∀h:Hd,h∈hs↔∃(i:Nat) (n:Int),i<upto∧h=(n,(i:Int),((at_ i:Nat):Int))∧Tr ls i (at_ i) n
theorem ox.perm {ls:List (List Int)} {at_:Nat→Nat} {u:Nat} {hs qV:List Hd} (h:ox ls at_ u hs) (hp:qV.Perm hs):ox ls at_ u qV:=⟨hp.nodup_iff.2 h.1,fun x=>(hp.mem_iff).trans (h.2 x)⟩
def Js (ls:List (List Int)) (i k:Nat):List Hd:=match (ls.getD i [])[k]? with
 |some n=>[(n,(i:Int),(k:Int))]
 |none=>[]
theorem Tr.iff {ls:List (List Int)} {i k:Nat} {n:Int}:Tr ls i k n↔i<ls.length∧(ls.getD i [])[k]? =some n:=by
 constructor
 ·rintro⟨l,h1,h2⟩;have h3:=(an.1 h1).1;rw[aA,h1];exact⟨h3,h2⟩
 ·rintro⟨h1,h2⟩;rw[aA,ar h1]at h2;exact⟨_,ar h1,h2⟩
theorem xp {ls:List (List Int)} {i k:Nat} (hi:i<ls.length) {h:Hd}:h∈Js ls i k↔∃n,h=(n,(i:Int),(k:Int))∧Tr ls i k n:=by
 unfold Js;constructor
 ·intro hh
  split at hh
  ·rename_i n hn
   rw[bJ]at hh;exact⟨n,hh,Tr.iff.2 ⟨hi,hn⟩⟩
  ·cases hh
 ·rintro⟨n,rfl,ht⟩;rw[(Tr.iff.1 ht).2];exact bJ.2 rfl
theorem AW (ls:List (List Int)) (i k:Nat):(Js ls i k).Nodup:=by unfold Js;split<;>simp
theorem ox.fill {ls:List (List Int)} {u:Nat} {hs qV:List Hd} (h:ox ls (fun _=>0) u hs) (hu:u<ls.length) (hp:qV.Perm (hs++Js ls u 0)):ox ls (fun _=>0) (u+1) qV:=by
 refine ox.perm (hs:=hs++Js ls u 0) ⟨?_,fun x=>?_⟩ hp
 ·refine List.nodup_append.2 ⟨h.1,AW _ _ _,fun a ha b hb e=>?_⟩;subst e;obtain⟨i,n,h1,h2,_⟩:=(h.2 a).1 ha;obtain⟨m,h3,_⟩:=(xp hu).1 hb;rw[h2]at h3;simp only[ef]at h3;omega
 ·rw[ch,h.2 x,xp hu];constructor
  ·rintro(⟨i,n,h1,h2,h3⟩|⟨n,h2,h3⟩)
   ·exact⟨i,n,by omega,h2,h3⟩
   ·exact⟨u,n,by omega,h2,h3⟩
  ·rintro⟨i,n,h1,h2,h3⟩;rcases cG i u with h4|h4
   ·exact .inl ⟨i,n,h4,h2,h3⟩
   ·obtain rfl:i=u:=by omega
    exact .inr ⟨n,h2,h3⟩
theorem ox.next {ls:List (List Int)} {at_:Nat→Nat} {hs ys zs:List Hd} {i:Nat} {n:Int} (h:ox ls at_ ls.length hs) (hp:((n,(i:Int),((at_ i:Nat):Int))::ys).Perm hs) (hi:i<ls.length) (hz:zs.Perm (ys++Js ls i (at_ i+1))):ox ls (Eb at_ i) ls.length zs:=by
 have oD:=(hp.nodup_iff).2 h.1;obtain⟨hn1,hn2⟩:=List.nodup_cons.1 oD
 have eR:∀x,x∈ys↔x∈hs∧x≠(n,(i:Int),((at_ i:Nat):Int)):=fun x=>by
  rw[←hp.mem_iff,cb];constructor
  ·intro hx;exact⟨.inr hx,fun e=>hn1 (e▸hx)⟩
  ·rintro⟨h1|h1,h2⟩
   ·exact absurd h1 h2
   ·exact h1
 have hx:(n,(i:Int),((at_ i:Nat):Int))∈hs:=(hp.mem_iff).1 (bG ..);obtain⟨i',n',h1,h2,h3⟩:=(h.2 _).1 hx;simp only[ef]at h2;obtain⟨e1,e2,e3⟩:=h2;obtain rfl:i=i':=by omega
 subst e1;refine ox.perm (hs:=ys++Js ls i (at_ i+1)) ⟨?_,fun x=>?_⟩ hz
 ·refine List.nodup_append.2 ⟨hn2,AW _ _ _,fun a ha b hb e=>?_⟩;subst e;obtain⟨j,m,g1,g2,g3⟩:=(h.2 a).1 ((eR a).1 ha).1;obtain⟨m',g4,_⟩:=(xp hi).1 hb;rw[g2]at g4;simp only[ef]at g4;obtain rfl:j=i:=by omega
  omega
 ·rw[ch,eR,h.2 x,xp hi];constructor
  ·rintro(⟨⟨j,m,g1,g2,g3⟩,g4⟩|⟨m,g2,g3⟩)
   ·have Ry:j≠i:=fun e=>by subst e;rw[g2]at g4;exact g4 (by rw[g3.un h3])
    exact⟨j,m,g1,by rw[g2];simp only[Eb,if_neg Ry],by simp only[Eb,if_neg Ry];exact g3⟩
   ·exact⟨i,m,hi,by rw[g2];simp only[Eb,if_true],by simp only[Eb,if_true];exact g3⟩
  ·rintro⟨j,m,g1,g2,g3⟩;by_cases e:j=i
   ·subst e;simp only[Eb,if_true]at g2 g3;exact .inr ⟨m,g2,g3⟩
   ·simp only[Eb,if_neg e]at g2 g3;exact .inl ⟨⟨j,m,g1,g2,g3⟩,fun e2=>by rw[g2]at e2;simp only[ef]at e2;omega⟩
theorem ox.zero (ls:List (List Int)):ox ls (fun _=>0) 0 []:=⟨List.nodup_nil,fun x=>⟨fun h=>by(cases h),fun⟨i,n,h,_⟩=>by omega⟩⟩
theorem ox.agX {ls:List (List Int)} {at_:Nat→Nat} (h:ox ls at_ ls.length []):∀i n,¬Tr ls i (at_ i) n:=fun i n ht=>by
 have:=(h.2 _).2 ⟨i,n,ht.lt.1,rfl,ht⟩;cases this
theorem ox.len {ls:List (List Int)} {at_:Nat→Nat} {u:Nat} {hs:List Hd} (h:ox ls at_ u hs):hs.length≤u:=by
 have OK:(hs.map fun h=>h.2.1.toNat).Nodup:=by
  refine cA.2 (h.1.imp_of_mem fun {a b} ha hb WX e=>WX ?_);obtain⟨i,n,_,h2,h3⟩:=(h.2 a).1 ha;obtain⟨j,m,_,g2,g3⟩:=(h.2 b).1 hb;rw[h2,g2]at e;simp only[ay]at e;subst e;rw[h2,g2,h3.un g3]
 have dV:∀x∈(hs.map fun h=>h.2.1.toNat),x<u:=fun x hx=>by
  obtain⟨y,hy,rfl⟩:=bP.1 hx;obtain⟨i,n,h1,h2,_⟩:=(h.2 y).1 hy;rw[h2];simpa using h1
 have hss:∀x∈(hs.map fun h=>h.2.1.toNat),x∈List.range u:=fun x hx=>so.2 (dV x hx)
 have:=List.Nodup.length_le_of_subset OK hss;rw[aG,List.length_range]at this;exact this
theorem gV {l:List Int} (h0:0<l.length):eA (-1) l=true↔0≤l.getD 0 0∧(∀i,i+1<l.length→l.getD i 0≤l.getD (i+1) 0)∧(∀i,i+1<l.length→l.getD i 0≠l.getD (i+1) 0):=by
 have key:∀(l:List Int) (last:Int),eA last l=true↔(∀x,l[0]? =some x→last<x)∧∀i,i+1<l.length→l.getD i 0<l.getD (i+1) 0:=by
  intro l
  induction l with
  |nil=>intro last;simp[eA]
  |cons a l ih=>
   intro last;simp only[eA,bW,decide_eq_true_eq,ih a];constructor
   ·rintro⟨h1,h2,h3⟩;refine⟨fun x hx=>by simp at hx;omega,fun i hi=>?_⟩
    cases i with
    |zero=>
     cases l with
     |nil=>simp at hi
     |cons b l=>simpa using h2 b rfl
    |succ i=>simpa using h3 i (by simpa using hi)
   ·rintro⟨h1,h2⟩;refine⟨h1 a rfl,fun x hx=>?_,fun i hi=>?_⟩
    ·have:=h2 0 (by have:=(an.1 hx).1;simp;omega);simp only[iZ,fR,ja]at this;rw[aA,hx]at this;exact this
    ·have:=h2 (i+1) (by simp;omega);simpa using this
 rw[key];constructor
 ·rintro⟨h1,h2⟩;refine⟨?_,fun i hi=>Int.le_of_lt (h2 i hi),fun i hi=>by have:=h2 i hi;omega⟩;have:=h1 _ (ar h0);rw[aA,ar h0];simp only[Option.getD_some];omega
 ·rintro⟨h1,h2,h3⟩;refine⟨fun x hx=>?_,fun i hi=>by have:=h2 i hi;have:=h3 i hi;omega⟩;rw[aA,hx]at h1;simp only[Option.getD_some]at h1;omega
def dX (out:List Hd):List (Int×Int):=out.map Prod.snd
end Go.K
namespace Go.K
abbrev RT.hd:RT Hd:=RT.pair (RT.int .i64) (RT.pair (RT.int .i64) (RT.int .i64))
theorem R8:Part RT.hd (RT.int .i64) (fun h=>h.1) 0:=mN _ _
theorem hd1:Part RT.hd (RT.int .i64) (fun h=>h.2.1) 1:=(iy _ _).trans (mN _ _)
theorem hd2:Part RT.hd (RT.int .i64) (fun h=>h.2.2) 2:=(iy _ _).trans (iy _ _)
def lW (x:Int):Prop:= -9223372036854775808≤x∧x≤9223372036854775807
theorem NG {M:aD} {w:World} {a b c:Int} (ha:lW a) (hb:lW b) (hc:lW c):RT.hd.V M w (a,b,c) (.agg #[.int .i64 a,.int .i64 b,.int .i64 c]):=
 ⟨[.int .i64 a,.int .i64 b,.int .i64 c],⟨[.int .i64 a],[.int .i64 b,.int .i64 c],rfl,⟨rfl,ha⟩,⟨[.int .i64 b],[.int .i64 c],rfl,⟨rfl,hb⟩,⟨rfl,hc⟩⟩⟩,rfl⟩
theorem tb {M:aD} {w:World} {a b c:Int} {v:Value} (h:RT.hd.V M w (a,b,c) v):v= .agg #[.int .i64 a,.int .i64 b,.int .i64 c]∧lW a∧lW b∧lW c:=by
 obtain⟨vs,⟨va,vb,rfl,h1,⟨vc,vd,rfl,h2,h3⟩⟩,rfl⟩:=h;have e1:=h1.1;have e2:=h2.1;have e3:=h3.1;subst e1;subst e2;subst e3;exact⟨rfl,h1.2,h2.2,h3.2⟩
theorem Step.ZK {M M2 N:aD} {w w':World} (s:Step M w M w' N) (hm:∀b,b<w.heap.size→(M2 b↔M b)) (hl:Lt M2 w'):Step M w M2 w' N:=
 ⟨fun _=>hl,s.os,s.tape,s.output,s.size,hm,s.same,s.sub⟩
theorem Own.ltM {α:Type} {A:RT α} {e:TypeId} {M:aD} {w:World} {base:Nat} {v:Value} {xs:List α} (h:Own A e M w base v xs):xs.length≤9223372036854775807:=by
 obtain⟨⟨C,hr,_⟩,_⟩:=h;rcases hr.2 with⟨_,h2⟩|⟨g,cap,cur,h1,h2,h3,h4,h5,_⟩
 ·omega
 ·unfold maxLen at h5;omega
theorem Own.BR {α:Type} {A:RT α} {e:TypeId} {M:aD} {w:World} {base:Nat} {v:Value} {xs:List α} (h:Own A e M w base v xs) (hl:0<xs.length):v≠ .slice none 0 0:=fun e=>by
 obtain⟨a,cap,h1,_⟩:=h.isSlice;rw[e]at h1;simp only[fT]at h1;omega
theorem Own.apart {α:Type} {A:RT α} {e Th:TypeId} {M:aD} {w:World} {base bh:Nat} {v:Value} {xs:List α} {cs:Array Value} {fr:Nat×Nat} (h:Own A e M w base v xs) (hb:w.heap[bh]? =some (.cells cs Th fr)) (ne:Th≠e):∀k,v.ownBlock=some k→k≠bh:=fun k hk he=>by
 obtain⟨⟨C,hr,_⟩,_⟩:=h;rcases hr.2 with⟨h1,_⟩|⟨g,cap,cur,h1,h2,h3,_⟩
 ·rw[h1]at hk;cases hk
 ·rw[h1]at hk;cases hk;have he:g=bh:=he;rw[he]at h3;have:=hb.symm.trans h3;simp only[dN,Obj.cells.injEq]at this;exact ne this.2.1
structure rA (Th Te:TypeId) (M:aD) (w:World) (bh base:Nat) (v:Value) (hs:List Hd):Prop where
 h:w.heap[bh]? =some (.cells #[v] Th (0,0))
 mh:M bh
 o:Own RT.hd Te M w base v hs
 nn:v≠ .slice none 0 0
 ne:Th≠Te
section
variable {Th Te:TypeId} {M M' N:aD} {w w':World} {bh base:Nat} {v v':Value} {hs qV:List Hd}
theorem rA.apart (h:rA Th Te M w bh base v hs):∀k,v.ownBlock=some k→k≠bh:=h.o.apart h.h h.ne
theorem rA.aL (h:rA Th Te M w bh base v hs) (s:Step M w M' w' aC):rA Th Te M' w' bh base v hs:=⟨s.aM h.h,(s.mem bh (ak h.h)).2 h.mh,h.o.aL s,h.nn,h.ne⟩
theorem rA.wrote (h:rA Th Te M w bh base v hs) (s:Step M w M w' (fK v)) (ho:Own RT.hd Te M w' base v qV):rA Th Te M w' bh base v qV:=
 ⟨s.keep h.h (fun hk=>h.apart bh hk rfl),h.mh,ho,h.nn,h.ne⟩
theorem Own.val {α:Type} {A:RT α} {e:TypeId} {base:Nat} {xs:List α} (h:Own A e M w base v xs) {j:Nat} {x:α} (hx:xs[j]? =some x):∃u,A.V M w x u:=by
 obtain⟨⟨C,hr,ha⟩,_⟩:=h;obtain⟨vs,hv,_⟩:=ha.at_ j x hx;exact⟨_,vs,hv,rfl⟩
theorem rA.view {hn:0<RT.hd.n} (h:rA Th Te M w bh base v hs) (hl:hs.length≤140737488355328):(RT.hd.sl hn).V (fun k=>M k∧¬v.ownBlock=some k) w hs v:=
 h.o.sl (fun b _ hm=>⟨fun h=>hm h.1,rfl⟩) (fun b hb h=>h.2 hb) hl
end
def BT (w:World) (k:Nat) (T:TypeId):Prop:=∃cs fr,w.heap[k]? =some (.cells cs T fr)
theorem BT.ne {w:World} {a b:Nat} {Ta Tb:TypeId} (ha:BT w a Ta) (hb:BT w b Tb) (h:Ta≠Tb):a≠b:=fun e=>by
 subst e;obtain⟨cs,fr,h1⟩:=ha;obtain⟨EU,fr',h2⟩:=hb;have:=h1.symm.trans h2;simp only[dN,Obj.cells.injEq]at this;exact h this.2.1
theorem Own.bt {α:Type} {A:RT α} {e:TypeId} {M:aD} {w:World} {base:Nat} {v:Value} {xs:List α} (h:Own A e M w base v xs):∀k,v.ownBlock=some k→BT w k e:=fun k hk=>by
 obtain⟨⟨C,hr,_⟩,_⟩:=h;rcases hr.2 with⟨h1,_⟩|⟨g,cap,cur,h1,h2,h3,_⟩
 ·rw[h1]at hk;cases hk
 ·rw[h1]at hk;cases hk;exact⟨_,_,h3⟩
def NB (Te:TypeId) (M:aD) (w:World) (bh base:Nat):aD:=fun k=>M k∧(k=bh∨(base≤k∧BT w k Te))
theorem NB.not {Te T:TypeId} {M:aD} {w:World} {bh base k:Nat} (hk:BT w k T) (eQ:T≠Te) (hb:k≠bh): ¬NB Te M w bh base k:=fun h=>h.2.elim hb fun h2=>hk.ne h2.2 eQ rfl
section
variable {Th Te:TypeId} {M M1 M2 M' N:aD} {w w0 w1 w2 w':World} {bh base:Nat} {v:Value} {hs:List Hd}
theorem Step.nb (s1:Step M w0 M1 w1 (NB Te M w0 bh base)) (s2:Step M1 w1 M2 w2 (NB Te M1 w1 bh base)):Step M w0 M2 w2 (NB Te M w0 bh base):=
 s1.trans s2 fun b hb h=>by
  by_cases hn:NB Te M w0 bh base b
  ·exact hn
  ·refine⟨(s1.mem b hb).1 h.1,h.2.imp id fun⟨L8,cs,fr,hc⟩=>⟨L8,cs,fr,?_⟩⟩;rw[←s1.same b hb hn];exact hc
theorem Step.nbw (s:Step M w M' w' (fK v)) (h:rA Th Te M w bh base v hs):Step M w M' w' (NB Te M w bh base):=s.cH (fun b hb=>⟨h.o.mut_ b hb,.inr ⟨(h.o.base b hb).1,h.o.bt b hb⟩⟩) (fun _ h=>h.1)
theorem Step.nb0 (s:Step M w M' w' aC):Step M w M' w' (NB Te M w bh base):=s.cH (fun _ h=>h.elim) (fun _ h=>h.1)
theorem rA.keep (h:rA Th Te M w bh base v hs) (s:Step M w M' w' N) (hb: ¬N bh) (hv:∀k,v.ownBlock=some k→¬N k):rA Th Te M' w' bh base v hs:=
 ⟨s.keep h.h hb,(s.mem bh (ak h.h)).2 h.mh,h.o.step s hv,h.nn,h.ne⟩
end
section
variable {P:Program} {r:Option Nat} {n:Nat} {L:Sl} {ds:List Deferred} {w:World} {K:Kt} {ops:Array Oper} {rest:List Oper} {d:Nat} {ty:TypeId} {pos:String} {af:Array Edge} {x y:Operand}
theorem Rg.par {t t':TypeId} {j:Nat} (hx:ev L x=some (.int .i64 ((j:Int)-1))) (hy:ev L y=some (.int .i64 2)) (hd:Nat.blt d n=true) (hj:j≤9223372036854775807)
  (k:Rg P r n ops rest ((d,.int .i64 (((j-1)/2:Nat):Int))::L) ds w K):
  Rg P r n ops ({dst:=some d,op:= .binOp .quo t x y t',type:=ty,pos,after:=af,guard:=none}::rest) L ds w K:=by
 cases j with
 |zero=>exact .bin hx hy hd (by simp[binOp,Op.intDiv];try rfl) k
 |succ j=>
  refine Rg.zu hx hy hd (by omega) ?_;rw[show(((j+1:Nat):Int)-1)/2=(((j+1-1)/2:Nat):Int)from by omega];exact k
end
theorem R9 {xs:List Hd} {i:Nat} {a b c:Int} (h:xs[i]? =some (a,b,c)):hn xs i=a:=by unfold hn;rw[aA,h];rfl
theorem HZ {xs:List Hd} {i j:Nat} {x y:Hd} (hx:xs[i]? =some x) (hy:xs[j]? =some y):swp xs i j=(xs.set i y).set j x:=by
 unfold swp;rw[aA,aA,hx,hy];rfl
theorem Jt {xs:List Hd} {i j:Nat} {x y:Hd} (hx:xs[i]? =some x) (hy:xs[j]? =some y):(swp xs i j).set j x=swp xs i j:=by
 rw[HZ hx hy,List.set_set]
end Go.K
namespace Go.K
open Go.Proofs
namespace TKMul
theorem ag0:Enters Tryz.prog 215:=enters Tryz.func215 rfl (by decide)
end TKMul
open TKMul
set_option maxRecDepth 10000
theorem GH {n:Nat} (h:n≤1073741824):IntKind.u64.wrap ((BitVec.ofInt IntKind.u64.bits (n:Int)&&&BitVec.ofInt IntKind.u64.bits 4294967295).toNat:Int)=(n:Int):=by
 have e:(BitVec.ofInt IntKind.u64.bits (n:Int)&&&BitVec.ofInt IntKind.u64.bits 4294967295).toNat=n:=by
  rw[BitVec.toNat_and,qg,qg];have h1:((4294967295:Int)%((2^IntKind.u64.bits:Nat):Int)).toNat=2^32-1:=by decide
  have h2:((n:Int)%((2^IntKind.u64.bits:Nat):Int)).toNat=n:=by
   change((n:Int)%((18446744073709551616:Nat):Int)).toNat=n;omega
  rw[h1,h2,Nat.and_two_pow_sub_one_eq_mod];omega
 rw[e];exact gu _ (by omega)
theorem Ec {n:Nat} (h:n≤1073741824):(n:Int).fdiv (2^min (Int.toNat 32) IntKind.u64.bits)=0:=by
 show((n:Int)).fdiv 4294967296=0;rw[Int.fdiv_eq_ediv_of_nonneg _ (by decide)];omega
theorem Ju {w0:World} {n:Nat} (hn:n≤1073741824):
  Spec Tryz.prog 215 #[.int .u64 1,.int .u64 n] w0 (fun v' w'=>v'= .tuple #[.int .u64 0,.int .u64 n]∧w0=w'):=by
 refine bm (args:=[_,_]) (fn:=Tryz.f215) Tryz.func215 rfl (n:=51) Tryz.ntmps215 (aj (ae (ah rfl rfl (ah rfl rfl (ab (aj (ae (ad rfl rfl (Rg.and rfl rfl rfl (aU (v':= .int .u64 (1)) (congrArg _ (by first|decide|exact GH (by omega))) (ah rfl rfl ?_)))))))))));refine ab (aj (ae (ad rfl rfl (Rg.shr rfl rfl rfl (by omega) (aU (v':= .int .u64 (0:Int)) (congrArg _ (by first|decide|exact Ec (by omega))) (ah rfl rfl (ab (aj (ae (ad rfl rfl (Rg.and rfl rfl rfl ?_)))))))))));refine aU (v':= .int .u64 ((n:Int))) (congrArg _ (by first|decide|exact GH (by omega))) (ah rfl rfl (ab (aj (ae (ad rfl rfl (Rg.shr rfl rfl rfl (by omega) (aU (v':= .int .u64 (0:Int)) (congrArg _ (by first|decide|exact Ec (by omega))) (ah rfl rfl (ab (aj (ae ?_)))))))))));refine ad rfl rfl (ad rfl rfl (Rg.Ij rfl rfl rfl (aU (v':= .int .u64 ((n:Int))) (congrArg _ (by rw[gu _ (by omega)];omega)) (ah rfl rfl (ab (aj (ae (ad rfl rfl (ad rfl rfl (Rg.Ij rfl rfl rfl (aU (v':= .int .u64 (0)) (congrArg _ (by rw[gu _ (by omega)];omega)) ?_)))))))))));refine ad rfl rfl (Rg.shr rfl rfl rfl (by omega) (aU (v':= .int .u64 (0:Int)) (congrArg _ (by first|decide|exact Ec (by omega))) (Rg.wT rfl rfl rfl (aU (v':= .int .u64 (0)) (congrArg _ (by rw[gu _ (by omega)];omega)) (ah rfl rfl (ab (aj (ae (ad rfl rfl (Rg.and rfl rfl rfl (aU (v':= .int .u64 (0)) (congrArg _ (by first|decide|exact GH (by omega))) ?_)))))))))));refine ah rfl rfl (ab (aj (ae (ad rfl rfl (Rg.shr rfl rfl rfl (by omega) (aU (v':= .int .u64 (0:Int)) (congrArg _ (by first|decide|exact Ec (by omega))) (ah rfl rfl (ab (aj (ae (ad rfl rfl ?_)))))))))));refine ad rfl rfl (ad rfl rfl (Rg.Ij rfl rfl rfl (aU (v':= .int .u64 (0)) (congrArg _ (by rw[gu _ (by omega)];omega)) (Rg.wT rfl rfl rfl (aU (v':= .int .u64 (0)) (congrArg _ (by rw[gu _ (by omega)];omega)) (ah rfl rfl (ab (aj (ae (ad rfl rfl (ad rfl rfl ?_)))))))))))
 refine Rg.Ij rfl rfl rfl (aU (v':= .int .u64 (0)) (congrArg _ (by rw[gu _ (by omega)];omega)) (ad rfl rfl (Rg.wT rfl rfl rfl (aU (v':= .int .u64 (0)) (congrArg _ (by rw[gu _ (by omega)];omega)) (ad rfl rfl (Rg.shr rfl rfl rfl (by omega) (aU (v':= .int .u64 (0:Int)) (congrArg _ (by first|decide|exact Ec (by omega))) (Rg.wT rfl rfl rfl (aU (v':= .int .u64 (0)) (congrArg _ (by rw[gu _ (by omega)];omega)) (ah rfl rfl (ab ?_)))))))))));refine aj (ae (ad rfl rfl (ad rfl rfl (Rg.Ij rfl rfl rfl (aU (v':= .int .u64 ((n:Int))) (congrArg _ (by rw[gu _ (by omega)];omega)) (ah rfl rfl (ab (aQ ?_))))))));exact fm rfl rfl rfl ⟨rfl,rfl⟩
theorem Qj {w0:World} {n:Nat} (hn:n≤1073741824):
  Spec Tryz.prog 161 #[.int .u64 1,.int .u64 n] w0 (fun v' w'=>v'= .tuple #[.int .u64 0,.int .u64 n]∧w0=w'):=by
 refine bm (args:=[_,_]) (fn:=Tryz.f161) Tryz.func161 rfl (n:=30) Tryz.ntmps161 (aj (ae (ah rfl rfl (ah rfl rfl (ab (aj (jt rfl (aT (aj (ae (ad rfl rfl ?_)))))))))));refine ad rfl rfl ?_;refine aY rfl rfl ag0 (Ju hn) (fun r wc h=>?_);obtain⟨rfl,rfl⟩:=h;refine ad rfl rfl (bZ rfl rfl rfl (bZ rfl rfl rfl (ah rfl rfl (ah rfl rfl (ab (aj (ae (ad rfl rfl (ad rfl rfl (ah rfl rfl (ah rfl rfl ?_)))))))))));refine ab (aQ ?_);exact fm rfl rfl rfl ⟨rfl,rfl⟩
end Go.K
namespace Go.K
open Go.Proofs
namespace TKRep11
theorem ag1:Enters Tryz.prog 161:=enters Tryz.func161 rfl (by decide)
end TKRep11
open TKRep11
set_option maxRecDepth 10000
theorem Ed (b o i:Nat):(⟨b,o,none⟩:Addr).add i=⟨b,o+i,none⟩:=by simp[Addr.add]
def filled (n k:Nat) (x:Int):List Int:=List.replicate k x++List.replicate (n-k) 0
theorem yT {n k:Nat} {x:Int} (h:k≤n):(filled n k x).length=n:=by unfold filled;simp;omega
theorem GI (n:Nat) (x:Int):filled n n x=List.replicate n x:=by unfold filled;simp
theorem GK {n k j:Nat} {x:Int} (h:j<k):(filled n k x)[j]? =some x:=by unfold filled;rw[fC (by simpa using h)];simp[h]
theorem wG {n k m:Nat} {x:Int} (h:k+m≤n):(filled n k x).take k++List.replicate m x++(filled n k x).drop (k+m)=filled n (k+m) x:=by
 unfold filled;rw[List.take_append_of_le_length (by simp),aW (by simp),List.replicate_append_replicate,List.drop_append,gM (by simp),fQ,List.drop_replicate,cf];congr 2;omega
theorem Own.ZL {M:aD} {w:World} {e:TypeId} {base g n:Nat} (h:w.heap[g]? =some (.cells (List.replicate n (.int .i64 0)).toArray e (0,0))) (hb:base≤g) (hm:M g) (hn:n≤1099511627776):Own (RT.int .i64) e M w base (.slice (some ⟨g,0,none⟩) n n) (List.replicate n 0):=by
 refine⟨⟨List.replicate n (.int .i64 0),⟨by simp[RT.int],.inr ⟨g,n,_,by simp,hb,h,by simp,by unfold maxLen;simp;omega,by simp[RT.int],by simp[RT.int]⟩⟩,?_⟩,fun b hb=>by cases hb;exact hm⟩;have:=dZ.Bn (M:=M) (w:=w) (κ:= .i64) (xs:=List.replicate n 0) (fun x hx=>by rw[iz hx];decide);simpa using this
theorem Ee {M:aD} {w0:World} {v:Value} {x:Int} {n:Nat} (hM:Lt M w0) (hv:((RT.int .i64).sl).V M w0 [x] v) (hn:n≤1073741824):
  Spec Tryz.prog 112 #[v,.int .i64 n] w0 (fun v' w'=>∃M',Own (RT.int .i64) 3 M' w' w0.heap.size v' (List.replicate n x)∧Lt M' w'∧Step M w0 M' w' aC):=by
 have hxr:=A5 hv (i:=0) rfl;obtain⟨av,aqx,rfl,hcv,_,QZ⟩:=iB.1 hv;obtain⟨bv,ov,rfl,hbv,hav⟩:=QZ.resolve_left (by simp);obtain⟨vs0,⟨ag2,_⟩,hrx⟩:=hav 0 x rfl;subst ag2;have hcx:w0.cell? ⟨bv,ov,none⟩=some (.int .i64 x):=by simpa using hrx 0 _ rfl
 refine bm (args:=[_,_]) (fn:=Tryz.f112) Tryz.func112 rfl (n:=48) Tryz.ntmps112 (aj (ae (ah rfl rfl (ab (aj (aj (ae (ad rfl rfl (cg rfl rfl rfl (ab (T.wO rfl (by omega) ?_)))))))))));refine aT (aj (ae (ad rfl rfl (Rg.mq aq rfl rfl (rZ aw jO rfl rfl (aU (v':= .int .u64 1) (congrArg _ (by simp only[cI];decide)) (ad rfl rfl (rZ aw jO rfl rfl (aU (v':= .int .u64 (n:Int)) (congrArg _ (gu _ (by omega))) ?_)))))))));refine aY rfl rfl ag1 (Qj hn) (fun r wc h=>?_);obtain⟨rfl,rfl⟩:=h;refine ad rfl rfl (bZ rfl rfl rfl (bZ rfl rfl rfl (ah rfl rfl (ah rfl rfl (ab (aj (aj (ae (ad rfl rfl (iY rfl rfl rfl (ad rfl rfl ?_)))))))))));refine Rg.E1 (g:=23) rfl (by omega) (al rfl rfl (ad rfl rfl (al rfl rfl (iY rfl rfl rfl (aE rfl rfl rfl (ab (T.wO rfl (by omega) (aT (aj (ae (ad rfl rfl ?_)))))))))));refine Rg.uL jO aw rfl rfl (by omega) ?_;refine Rg.mk0 (len:=n) M aq I3 rfl rfl rfl rfl (by omega) (by omega) (fun g wg zg zg' gg sg=>?_);have ho:Own (RT.int .i64) 3 (ins M g) wg w0.heap.size (.slice (some ⟨g,0,none⟩) n n) (filled n 0 x):=by unfold filled;simpa using Own.ZL gg zg (.inl rfl) (by omega)
 clear gg;refine ah rfl rfl (ab (aj (ae (ad rfl rfl ?_))));obtain⟨k0,EZ⟩:∃k0:Nat,k0=min 1 n:=⟨_,rfl⟩;refine ad rfl rfl ?_;refine Rg.Rb (M:=ins M g) (xs:=filled n 0 x) (ys:=List.replicate k0 x) (o:=0) aq I3 rfl rfl rfl ho (by simp;omega) (by rw[yT (by omega),cf];omega) (fun j a hj=>?_) (fun a ha=>by rw[iz ha];exact hxr) (fun w7 nZ s7=>?_)
 ·have rG:=(an.1 hj).1;rw[cf]at rG;have e:a=x:=by rw[kN]at hj;split at hj<;>simp_all
  subst e;obtain rfl:j=0:=by omega
  have hc:=sg.same bv (World.block_lt_of_cell? w0 _ hcx) (fun h=>h);have:wg.cell? ⟨bv,ov,none⟩=some (.int .i64 a):=by rw[World.cell?_of_block (w:=w0) hc];exact hcx
  rw[Ed,Nat.add_zero];exact this
 rw[cf,wG (by omega),fR]at nZ;refine aU (v':= .int .i64 (k0:Int)) (by rw[cf]) ?_;have S7:=sg.cj s7 (fun b hb=>by have hb:b=g:=hb;omega);refine ah rfl rfl (ab (aj (aZ ?_)));refine dn (σ:=Nat) (fun s=>[(7,.slice (some ⟨g,0,none⟩) n n),(8,.int .i64 s)]) (fun s w=>s≤n∧(0<n→0<s)∧Own (RT.int .i64) 3 (ins M g) w w0.heap.size (.slice (some ⟨g,0,none⟩) n n) (filled n s x)∧Step M w0 (ins M g) w aC) (fun s=>n-s) k0 (.cons rfl (.cons rfl .nil)) ?_ ?_
 ·exact⟨by omega,by omega,nZ,S7⟩
 ·rintro k w1 ⟨hk,aqB,ho,S⟩;refine aj (aj (ae (ad rfl rfl (ad rfl rfl (Rg.mq aq rfl rfl (cg rfl rfl rfl (ab ?_)))))));refine bI rfl (fun c8=>?_) (fun c8=>?_)
  ·refine aT (aZ ?_);apply T.pH 7 [0] 1 (fun b=>b=g) mixed rfl rfl rfl rfl;intro RU sA9;have DY:=sA9 (ins M g);refine ad rfl rfl ?_;refine ab ⟨rfl,rfl,rfl,?_⟩;refine ad rfl rfl ?_;refine ab ⟨rfl,rfl,rfl,?_⟩;refine ad rfl rfl ?_;refine ab ⟨rfl,rfl,rfl,?_⟩;refine Rg.KI aq I3 rfl rfl rfl (by omega) (aU (v':= .slice (some ⟨g,k,none⟩) (n-k) (n-k)) (by rw[ay,eP]) ?_);refine ab ⟨rfl,rfl,rfl,?_⟩;refine ad rfl rfl ?_;refine ab ⟨rfl,rfl,rfl,?_⟩;refine ad rfl rfl ?_;refine ab ⟨rfl,rfl,rfl,?_⟩;refine Rg.Tq aq I3 rfl rfl rfl (by omega) (aU (v':= .slice (some ⟨g,0,none⟩) k n) (by rw[ay]) ?_);refine ab ⟨rfl,rfl,rfl,?_⟩;refine eZ ?_;refine⟨iA ⟨eS,trivial⟩,?_⟩;have kp:=jG (fun b=>b=g) RU;refine Rg.Rb (M:=ins M g) (xs:=filled n k x) (ys:=List.replicate (min k (n-k)) x) (o:=k) aq I3 rfl rfl rfl (ho.aL DY) (by simp) (by rw[yT hk,cf];omega) (fun j a hj=>?_) (fun a ha=>by rw[iz ha];exact hxr) (fun w7 nZ s7=>?_)
   ·have rG:=(an.1 hj).1;rw[cf]at rG;have e:a=x:=by rw[kN]at hj;split at hj<;>simp_all
    subst e;have:=(ho.aL DY).cell (GK (n:=n) (show j<k by omega));rw[Ed,fR];exact this
   rw[cf,wG (by omega)]at nZ;refine aU (v':= .int .i64 ((min k (n-k):Nat):Int)) (by rw[cf]) ?_;refine(fun(kp:eN _ _ _)=>ab ⟨rfl,rfl,fun _=>kp,?_⟩) (by first|exact kp|exact kp.rF (by assumption)|exact kp.goN (by assumption)|exact kp.go (by assumption) (fun _ _ h=>by first|exact h|exact h.elim));refine bC rfl rfl rfl (by omega) ?_;refine ab ⟨rfl,rfl,fun h=>absurd rfl h,?_⟩;refine ah rfl rfl ?_;refine ab ⟨rfl,rfl,fun h=>absurd rfl h,?_⟩;refine mM ?_;refine⟨rfl,k+min k (n-k),(.cons rfl (.cons (congrArg (fun z=>some (Value.int .i64 z)) (by omega)) .nil)),?_,?_⟩
   ·exact⟨by omega,by omega,nZ,(S.aB (sA9 _)).cj s7 (fun b hb=>by have hb:b=g:=hb;omega)⟩
   ·show n-(k+min k (n-k))<n-k;omega
  ·refine cK (aj (ae (ad rfl rfl (ah rfl rfl (ab (aQ ?_))))));obtain rfl:k=n:=by omega
   rw[GI]at ho;exact aV rfl rfl ⟨_,ho,S.lt hM,S⟩
end Go.K
namespace Go.K
open Go.Proofs
namespace TKPlc11
theorem kx:TI Tryz.prog 124 (.agg #[(.int .i64 0),(.int .i64 0)]) 2 16:=by unfold TI;kernel_rfl
theorem ag3:Enters Tryz.prog 112:=enters Tryz.func112 rfl (by decide)
end TKPlc11
open TKPlc11
set_option maxRecDepth 10000
def px (o:List Fo) (p:Fo) (r:Int):Prop:=(r= -1∧p∉o)∨∃t:Nat,r=(t:Int)∧o[t]? =some p
theorem px.hit {o:List Fo} {p:Fo} {k:Nat} (h:o[k]? =some p):px (o.take (k+1)) p (k:Int):= .inr ⟨k,rfl,by rw[cp,if_pos (by omega)];exact h⟩
theorem px.Qk {o:List Fo} {p q:Fo} {k:Nat} {r:Int} (h:o[k]? =some q) (eQ:q≠p) (hr:px (o.take k) p r):px (o.take (k+1)) p r:=by
 obtain⟨hk,hq⟩:=an.1 h;rw[j8 hk,hq];rcases hr with⟨h1,h2⟩|⟨t,h1,h2⟩
 ·exact .inl ⟨h1,fun hm=>by rcases ch.1 hm with hm|hm;exact h2 hm;rw[bJ]at hm;exact eQ hm.symm⟩
 ·exact .inr ⟨t,h1,by rw[fC (an.1 h2).1];exact h2⟩
theorem px.all {o:List Fo} {p:Fo} {r:Int} (h:px (o.take o.length) p r):px o p r:=by rwa [List.take_length]at h
theorem qW {M:aD} {w:World} {a b:Int} {v:Value} (h:RT.fo.V M w (a,b) v):v= .agg #[.int .i64 a,.int .i64 b]∧lW a∧lW b:=by
 obtain⟨vs,⟨va,vb,rfl,⟨rfl,h1⟩,⟨rfl,h2⟩⟩,rfl⟩:=h;exact⟨rfl,h1,h2⟩
def Plc (o:List Fo) (i:Int) (n:Nat) (xs:List Int):Prop:=xs.length=n∧∀j,j<n→px o (i,(j:Int)) (xs.getD j 0)
theorem Ef {M:aD} {w0:World} {v:Value} {o:List Fo} {i:Int} {n:Nat} (hM:Lt M w0) (hv:((RT.fo).sl).V M w0 o v) (hn:n≤1073741824):
  Spec Tryz.prog 61 #[v,.int .i64 i,.int .i64 n] w0 (fun v' w'=>∃M' xs,Plc o i n xs∧Own (RT.int .i64) 3 M' w' w0.heap.size v' xs∧Lt M' w'∧Step M w0 M' w' aC):=by
 have fB:=ej hv;refine bm (args:=[_,_,_]) (fn:=Tryz.f61) Tryz.func61 rfl (n:=44) Tryz.ntmps61 (aj (ae (ah rfl rfl (ab (aj (ae ?_))))));refine ep (A:=RT.int .i64) (hn:=by decide) (M:=M) aq I3 (by decide) rfl rfl hM (fY (by decide)) (.inr ⟨rfl,rfl⟩) (fun u w1 hu s1=>?_);refine ad rfl rfl (Rg.max2 rfl rfl rfl (aU (v':= .int .i64 (n:Int)) (congrArg _ (by omega)) ?_));refine aY rfl rfl ag3 (Ee (s1.lt hM) hu hn) (fun rv w2 h=>?_);obtain⟨M2,tc,EX,s2⟩:=h;have S2:=s1.aB s2;replace tc:=tc.oL s1.size;refine ah rfl rfl (ab (aj (aj (ae (ad rfl rfl (bQ eX rfl (hv.le S2.le) rfl (ad rfl rfl (ab (aZ ?_)))))))));refine dn (σ:=Nat×List Int) (fun s=>[(1,.int .i64 i),(7,rv),(14,v),(15,.int .i64 o.length),(16,.int .i64 s.1)]) (fun s w=>s.1≤o.length∧Plc (o.take s.1) i n s.2∧∃M1,Lt M1 w∧Own (RT.int .i64) 3 M1 w w0.heap.size rv s.2∧Step M w0 M1 w aC) (fun s=>o.length-s.1) (0,List.replicate n (-1)) (.cons rfl (.cons rfl (.cons rfl (.cons rfl (.cons rfl .nil))))) ?_ ?_
 ·refine⟨bD _,⟨by simp,fun j hj=> .inl ⟨?_,by simp⟩⟩,M2,EX,tc,S2⟩;simp only[aA,kN];rw[if_pos hj];rfl
 ·clear tc S2 EX;rintro⟨k,xs⟩ w1 ⟨hk,⟨qd,rH⟩,M1,nI,ho,S⟩;dsimp only at hk qd rH ho ⊢;refine aj (ae (cg rfl rfl rfl (ab (aj ?_))));refine bI rfl (fun c3=>?_) (fun c3=>?_)
  ·refine aT (aj (aZ (aj (ae (ad rfl rfl ?_)))));obtain⟨⟨a,b⟩,hx⟩:∃x,o[k]? =some x:=⟨_,ar (by omega)⟩;refine cF (M:=M1) eX kx rfl rfl rfl (hv.le S.le) (ao _ _) (by omega) (fun u4 a4 we EW=>?_);obtain rfl:(a,b)=a4:=dH (aH (we.symm.trans (by rw[ay];exact hx)));refine cN (M:=M1) (A:=RT.fo) cy rfl kx (by decide) rfl rfl rfl EW (ao _ _) (fun v4 qR=>?_);obtain⟨rfl,ra,rb⟩:=qW qR;refine eE M1 kx rfl (fun b4 wa za za' ga sa=>?_);refine ah rfl rfl ?_;refine eG (M:=ins M1 b4) (vs:=[.int .i64 a,.int .i64 b]) kx rfl rfl (by intro u hu;simp only[cb,eI,or_false]at hu;rcases hu with rfl|rfl<;>rfl) rfl rfl ga (.inl rfl) (fun ws gs ss=>?_);have sS:=(sa.cj ss (fun b hb=>by have hb:b=b4:=hb;rw[hb];exact za)).any M1;have ho:=ho.aL sS;have S:=S.aB sS;have nI:=sS.lt nI;refine ab (aj (ae (xh (len:=2) cy I3 rfl rfl rfl (by omega) (aP aw rfl rfl rfl gs rfl (ad rfl rfl (qZ rfl rfl rfl (ad rfl rfl ?_)))))));refine aR (g:=25) rfl (fun U6=>?_) (fun U6=>?_)
   ·refine al rfl rfl (xh (len:=2) cy I3 rfl rfl rfl (by omega) (al rfl rfl (aP aw rfl rfl rfl gs rfl (al rfl rfl (dY rfl rfl rfl (a8 rfl rfl rfl (ad rfl rfl ?_)))))));refine aR (g:=30) rfl (fun U7=>?_) (fun U7=>?_)
    ·refine al rfl rfl (xh (len:=2) cy I3 rfl rfl rfl (by omega) (al rfl rfl (aP aw rfl rfl rfl gs rfl (al rfl rfl (ad rfl rfl (al rfl rfl (fE aq rfl ho rfl (al rfl rfl (cg rfl rfl rfl (a8 rfl rfl rfl (ab ?_)))))))))));refine bI rfl (fun c5=>?_) (fun c5=>?_)
     ·obtain⟨g,cap,cur,rfl,SO,Ql,Eg⟩:=ho.uR (ho.BR (by omega));refine ae (ad rfl rfl (xh (len:=2) cy I3 rfl rfl rfl (by omega) (aP aw rfl rfl rfl gs rfl (ad rfl rfl (vQ (size:=1) aq I3 rfl rfl rfl (by omega) (q:=b.toNat) (by omega) ?_)))));refine Rg.KJ (M:=M1) I3 rfl rfl ho (by omega) ⟨by show(-9223372036854775808:Int)≤_;omega,by show _≤(9223372036854775807:Int);omega⟩ (fun w6 tO s6=>?_);refine ab (ae (bC rfl rfl rfl (by omega) (ad rfl rfl (ab ?_))));refine⟨rfl,(k+1,xs.set b.toNat (k:Int)),(.cons rfl (.cons rfl (.cons rfl (.cons rfl (.cons rfl .nil))))),?_,?_⟩
      ·refine⟨by simp only;omega,⟨by simp only[eV];exact qd,fun j hj=>?_⟩,M1,s6.lt nI,tO,S.cj s6 (fun b hb=>by have hb:b=g:=hb;omega)⟩;simp only[aA,dq];by_cases e:b.toNat=j
       ·rw[if_pos e,if_pos (by omega)];exact .hit (by rw[hx];congr 2<;>omega)
       ·rw[if_neg e,←aA];exact .Qk hx (fun h=>by simp only[ef]at h;omega) (rH j hj)
      ·show o.length-(k+1)<o.length-k;omega
     ·refine aT (ae (bC rfl rfl rfl (by omega) (ad rfl rfl (ab ?_))));refine⟨rfl,(k+1,xs),(.cons rfl (.cons rfl (.cons rfl (.cons rfl (.cons rfl .nil))))),?_,?_⟩
      ·refine⟨by simp only;omega,⟨qd,fun j hj=> .Qk hx (fun h=>?_) (rH j hj)⟩,M1,nI,ho,S⟩;simp only[ef]at h
       first|omega|(simp_all;done)|(simp_all;omega)
      ·show o.length-(k+1)<o.length-k;omega
    ·refine au rfl rfl rfl rfl (au rfl rfl rfl rfl (au rfl rfl rfl rfl (au rfl rfl rfl rfl (au rfl rfl rfl rfl (aE rfl rfl rfl (ab (jt rfl (aT (ae (bC rfl rfl rfl (by omega) (ad rfl rfl ?_)))))))))));refine ab ?_;refine⟨rfl,(k+1,xs),(.cons rfl (.cons rfl (.cons rfl (.cons rfl (.cons rfl .nil))))),?_,?_⟩
     ·refine⟨by simp only;omega,⟨qd,fun j hj=> .Qk hx (fun h=>?_) (rH j hj)⟩,M1,nI,ho,S⟩;simp only[ef]at h
      first|omega|(simp_all;done)|(simp_all;omega)
     ·show o.length-(k+1)<o.length-k;omega
   ·refine au rfl rfl rfl rfl (au rfl rfl rfl rfl (au rfl rfl rfl rfl (aE rfl rfl rfl (ad rfl rfl (au rfl rfl rfl rfl (au rfl rfl rfl rfl (au rfl rfl rfl rfl (au rfl rfl rfl rfl (au rfl rfl rfl rfl (aE rfl rfl rfl (ab ?_)))))))))));refine jt rfl (aT (ae (bC rfl rfl rfl (by omega) (ad rfl rfl (ab ?_)))));refine⟨rfl,(k+1,xs),(.cons rfl (.cons rfl (.cons rfl (.cons rfl (.cons rfl .nil))))),?_,?_⟩
    ·refine⟨by simp only;omega,⟨qd,fun j hj=> .Qk hx (fun h=>?_) (rH j hj)⟩,M1,nI,ho,S⟩;simp only[ef]at h
     first|omega|(simp_all;done)|(simp_all;omega)
    ·show o.length-(k+1)<o.length-k;omega
  ·refine cK (aj (ae (ad rfl rfl (ah rfl rfl (ab (aQ ?_))))));obtain rfl:k=o.length:=by omega
   exact aV rfl rfl ⟨M1,xs,⟨qd,fun j hj=>(rH j hj).all⟩,ho,nI,S⟩
end Go.K
namespace Go.K
open Go.Proofs
set_option maxRecDepth 10000
theorem NH:Up [[1,4],[2]]:=by intro l hl;simp only[cb,eI,or_false]at hl;rcases hl with rfl|rfl<;>decide
theorem Jv:rz [[1,4],[2]] (some [((1:Int),(0:Int),(0:Int)),(2,1,0),(4,0,1)]):=by
 refine⟨by decide,fun o ho=>?_,fun i k n ⟨l,h1,h2⟩=>?_⟩
 ·simp only[cb,eI,or_false]at ho;rcases ho with rfl|rfl|rfl
  ·exact⟨0,0,rfl,_,rfl,rfl⟩
  ·exact⟨1,0,rfl,_,rfl,rfl⟩
  ·exact⟨0,1,rfl,_,rfl,rfl⟩
 ·rcases i with _|_|i
  ·simp only[List.getElem?_cons_zero,dN]at h1;subst h1;rcases k with _|_|k
   ·simp at h2;subst h2;decide
   ·simp at h2;subst h2;decide
   ·simp at h2
  ·simp only[fR,List.getElem?_cons_succ,List.getElem?_cons_zero,dN]at h1;subst h1;rcases k with _|k
   ·simp at h2;subst h2;decide
   ·simp at h2
  ·simp at h1
end Go.K
namespace Go.K
open Go.Proofs
set_option maxRecDepth 10000
abbrev Gs:Type:=List (List En×List Bool)
def oy (g:Gs) (i d:Nat) (e:En):Prop:=∃L a,g[i]? =some (L,a)∧L[d]? =some e∧a[d]? =some true
theorem oy.un {g:Gs} {i d:Nat} {e e':En} (h:oy g i d e) (h':oy g i d e'):e=e':=by
 obtain⟨L,a,h1,h2,_⟩:=h;obtain⟨L',a',h3,h4,_⟩:=h';rw[h1]at h3;cases h3;rw[h2]at h4;exact aH h4
def td (L:List En) (d:Int):Int:=(L.map (·.2)).getD d.toNat 0
def iP (g:Gs):List (List Int):=g.map fun p=>gq p.2
def ky (g:Gs):List (List Int):=g.map fun p=>(gq p.2).map (td p.1)
def kz (g:Gs) (o:List Fo):List Fo:=o.map fun p=>(p.1,((iP g).getD p.1.toNat []).getD p.2.toNat 0)
def iJ (g:Gs) (p:Fo):En:=(g.getD p.1.toNat ([],[])).1.getD p.2.toNat (((0:Int),[]),0)
def H0 (g:Gs):Prop:=∀p∈g,qU (-1) p.1=true∧p.2.length=p.1.length
theorem kZ {l:List Bool} {d:Int}:d∈gq l↔∃k:Nat,d=k∧l[k]? =some true:=by
 unfold gq;rw[bP];constructor
 ·rintro⟨⟨b,k⟩,h,rfl⟩;obtain⟨h1,h2⟩:=iT.1 h;simp only at h2;subst h2;exact⟨k,rfl,List.mem_zipIdx_iff_getElem?.1 h1⟩
 ·rintro⟨k,rfl,h⟩;exact⟨(true,k),iT.2 ⟨List.mem_zipIdx_iff_getElem?.2 h,rfl⟩,rfl⟩
theorem ud (l:List Bool):(gq l).Pairwise (· < ·):=by
 unfold gq;refine cA.2 (List.Pairwise.sublist List.filter_sublist ?_);have h:=List.pairwise_lt_range' (s:=0) (n:=l.length);rw[←List.zipIdx_map_snd 0 l]at h;exact(cA.1 h).imp fun h=>by omega
structure Mg (g:Gs) (os:List Fo) (E:List En):Prop where
 at_:∀(k:Nat) (p:Fo),os[k]? =some p→∃(i d:Nat) (e:En),p=((i:Int),(d:Int))∧E[k]? =some e∧oy g i d e
 len:E.length=os.length
 all:∀(i d:Nat) (e:En),oy g i d e→((i:Int),(d:Int))∈os
 up:E.Pairwise fun a b=>a.2<b.2
 nd:os.Nodup
theorem xq {g:Gs} (hg:H0 g) {i k:Nat} {n:Int} (h:Tr (ky g) i k n):∃(d:Nat) (e:En),oy g i d e∧((iP g).getD i []).getD k 0=(d:Int)∧n=e.2∧iJ g ((i:Int),(d:Int))=e∧((iP g).getD i [])[k]? =some (d:Int):=by
 obtain⟨l,h1,h2⟩:=h;unfold ky at h1;rw[br]at h1
 cases hi:g[i]? with
 |none=>rw[hi]at h1;simp at h1
 |some p=>
  rw[hi]at h1;obtain rfl:List.map (td p.1) (gq p.2)=l:=by simpa using h1
  rw[br]at h2
  cases hk:(gq p.2)[k]? with
  |none=>rw[hk]at h2;simp at h2
  |some d=>
   rw[hk]at h2;obtain rfl:td p.1 d=n:=by simpa using h2
   obtain⟨m,rfl,hm⟩:=kZ.1 (az hk);obtain⟨h3,h4⟩:=hg p (az hi);have qj:m<p.1.length:=by rw[←h4];exact(an.1 hm).1
   have Qm:(iP g).getD i []=gq p.2:=by unfold iP;rw[aA,br,hi];rfl
   refine⟨m,p.1[m],⟨p.1,p.2,hi,ar qj,hm⟩,?_,?_,?_,by rw[Qm];exact hk⟩
   ·rw[Qm,aA,hk];rfl
   ·unfold td;rw[ay,aA,br,ar qj];rfl
   ·have pT:g.getD i ([],[])=p:=by rw[aA,hi];rfl
    show(g.getD (i:Int).toNat ([],[])).1.getD (m:Int).toNat _=_;rw[ay,ay,pT,aA,ar qj];rfl
theorem ZM {g:Gs} (hg:H0 g) {out:List Hd} (h:rz (ky g) (some out)):Mg g (kz g (dX out)) ((kz g (dX out)).map (iJ g)):=by
 obtain⟨h1,h2,h3⟩:=h
 have key:∀(k:Nat) (o:Hd),out[k]? =some o→∃(i d:Nat) (e:En) (q:Nat),o=(e.2,(i:Int),(q:Int))∧(kz g (dX out))[k]? =some ((i:Int),(d:Int))∧oy g i d e∧iJ g ((i:Int),(d:Int))=e∧((iP g).getD i [])[q]? =some (d:Int):=fun k o ho=>by
  obtain⟨i,q,e1,e2⟩:=h2 o (az ho);obtain⟨d,e,a1,a2,a3,a4,a5⟩:=xq hg e2;refine⟨i,d,e,q,by rw[e1,a3],?_,a1,a4,a5⟩;unfold kz dX;rw[br,br,ho,e1];show some (((i:Int),((iP g).getD (i:Int).toNat []).getD (q:Int).toNat 0))=_;rw[ay,ay,a2]
 have hlen:(kz g (dX out)).length=out.length:=by unfold kz dX;rw[aG,aG]
 have get:∀(k:Nat) (p:Fo),(kz g (dX out))[k]? =some p→∃o,out[k]? =some o:=fun k p hp=>⟨_,ar (by rw[←hlen];exact(an.1 hp).1)⟩
 have ZN:((kz g (dX out)).map (iJ g)).Pairwise fun a b=>a.2<b.2:=by
  rw[cu];intro a b ha hb WX;have la:a<out.length:=by rw[aG,hlen]at ha;exact ha
  have lb:b<out.length:=by rw[aG,hlen]at hb;exact hb
  obtain⟨i,d,e,q,o1,o2,o3,o4,_⟩:=key a _ (ar la);obtain⟨i',d',e',q',p1,p2,p3,p4,_⟩:=key b _ (ar lb);have dV:=(cu.1 h1) a b la lb WX;rw[o1,p1]at dV;have f1:((kz g (dX out)).map (iJ g))[a]? =some e:=by rw[br,o2,cW,o4]
  have f2:((kz g (dX out)).map (iJ g))[b]? =some e':=by rw[br,p2,cW,p4]
  rw[(an.1 f1).2,(an.1 f2).2];exact dV
 refine⟨fun k p hp=>?_,by rw[aG],fun i d e hl=>?_,ZN,?_⟩
 ·obtain⟨o,ho⟩:=get k p hp;obtain⟨i,d,e,q,_,a2,a3,a4,_⟩:=key k o ho;rw[hp]at a2;obtain rfl:=aH a2;exact⟨i,d,e,rfl,by rw[br,hp,cW,a4],a3⟩
 ·obtain⟨L,a,b1,b2,b3⟩:=hl;have hm:(d:Int)∈gq a:=kZ.2 ⟨d,rfl,b3⟩;obtain⟨q,hq⟩:=bB.1 hm;have ht:Tr (ky g) i q (td L d):=⟨(gq a).map (td L),by unfold ky;rw[br,b1];rfl,by rw[br,hq];rfl⟩;have ku:=h3 i q _ ht;obtain⟨k,hk⟩:=bB.1 ku;obtain⟨i',d',e',q',c1,c2,c3,c4,c5⟩:=key k _ hk;simp only[ef]at c1;obtain rfl:i=i':=by omega
  obtain rfl:q=q':=by omega
  have Qm:(iP g).getD i []=gq a:=by unfold iP;rw[aA,br,b1];rfl
  rw[Qm,hq]at c5;rw[aH c5];exact az c2
 ·have h5:(kz g (dX out)).Pairwise fun a b=>(iJ g a).2<(iJ g b).2:=(cA (f:=iJ g) (R:=fun(a b:En)=>a.2<b.2)).1 ZN
  exact h5.imp fun h e=>by subst e;omega
theorem Mg.un {g:Gs} {os:List Fo} {E:List En} (h:Mg g os E) {k k':Nat} {p:Fo} (h1:os[k]? =some p) (h2:os[k']? =some p):k=k':=by
 obtain⟨a1,a2⟩:=an.1 h1;obtain⟨b1,b2⟩:=an.1 h2;exact(List.getElem_inj (h₀:=a1) (h₁:=b1) h.nd).1 (a2.trans b2.symm)
theorem ue:∀{L:List En} {last:Int},qU last L=true→∀e∈L,last<e.2∧lT e.1=0
 |[],_,_,e,h=>by cases h
 |x::L,last,h,e,he=>by
  simp only[qU,bW,decide_eq_true_eq]at h
  have hx:last<x.2∧lT x.1=0:=by
   refine⟨(vu h.1).2,?_⟩;have:=h.1;unfold mT at this
   split at this
   ·rename_i h1;exact absurd this h1
   ·rename_i h1;simpa using h1
  rcases cb.1 he with rfl|he
  ·exact hx
  ·have:=ue h.2 e he;exact⟨by omega,this.2⟩
theorem GL:∀{L:List En} {last:Int},(∀e∈L,last<e.2∧lT e.1=0)→L.Pairwise (fun a b=>a.2<b.2)→qU last L=true
 |[],_,_,_=>rfl
 |x::L,last,h,hp=>by
  obtain⟨h1,h2⟩:=h x (bG ..);have Ot:=ey.1 hp;simp only[qU,bW,decide_eq_true_eq];refine⟨?_,GL (fun e he=>⟨Ot.1 e he,(h e (bU _ he)).2⟩) Ot.2⟩;unfold mT;rw[if_neg (by rw[h2];simp),if_neg (by omega)]
theorem vC:∀{L:List En} {last:Int},qU last L=true→L.Pairwise fun a b=>a.2<b.2
 |[],_,_=>List.Pairwise.nil
 |x::L,last,h=>by
  simp only[qU,bW,decide_eq_true_eq]at h;exact ey.2 ⟨fun e he=>(ue h.2 e he).1,vC h.2⟩
theorem Mg.mem {g:Gs} {os:List Fo} {E:List En} (h:Mg g os E) {e:En}:e∈E↔∃i d,oy g i d e:=by
 constructor
 ·intro he;obtain⟨k,hk⟩:=bB.1 he;obtain⟨i,d,e',_,h2,h3⟩:=h.at_ k _ (ar (by rw[←h.len];exact(an.1 hk).1));rw[hk]at h2;cases h2;exact⟨i,d,h3⟩
 ·rintro⟨i,d,hl⟩;obtain⟨k,hk⟩:=bB.1 (h.all i d e hl);obtain⟨i',d',e',h1,h2,h3⟩:=h.at_ k _ hk;simp only[ef]at h1;obtain rfl:i=i':=by omega
  obtain rfl:d=d':=by omega
  rw[hl.un h3];exact az h2
theorem oy.ok {g:Gs} (hg:H0 g) {i d:Nat} {e:En} (h:oy g i d e): -1<e.2∧lT e.1=0:=by
 obtain⟨L,a,h1,h2,_⟩:=h;exact ue (hg _ (az h1)).1 e (az h2)
theorem Mg.ok {g:Gs} (hg:H0 g) {os:List Fo} {E:List En} (h:Mg g os E):qU (-1) E=true:=
 GL (fun e he=>by obtain⟨i,d,hl⟩:=h.mem.1 he;exact hl.ok hg) h.up
theorem Qn {E E':List En} (h:E.Pairwise fun a b=>a.2<b.2) (h':E'.Pairwise fun a b=>a.2<b.2) (hm:∀e,e∈E↔e∈E'):E=E':=
 tR (fun a b h1 h2=>by omega) h h' (h.imp fun h e=>by subst e;omega) (h'.imp fun h e=>by subst e;omega) hm
theorem Qo {i:Nat} {tl:List (Fd×Nat)} {k:List UInt8} {q:Po}:q∈Cq i tl k↔∃t∈dj tl,dy t=k∧q=((i:Int),posOf tl t):=by
 unfold Cq;rw[bP];constructor
 ·rintro⟨t,ht,rfl⟩;obtain⟨h1,h2⟩:=iT.1 ht;exact⟨t,h1,by simpa using h2,rfl⟩
 ·rintro⟨t,h1,h2,rfl⟩;exact⟨t,iT.2 ⟨h1,by simpa using h2⟩,rfl⟩
theorem H2 {k:List UInt8} {q:Po}:∀{L:List En} {i:Nat},q∈AI k i L↔∃(d:Nat) (e:En),L[d]? =some e∧q∈Cq (i+d) (pb e) k
 |[],i=>by simp[AI]
 |x::L,i=>by
  simp only[AI,ch,H2 (L:=L)];constructor
  ·rintro(h|⟨d,e,h1,h2⟩)
   ·exact⟨0,x,rfl,h⟩
   ·exact⟨d+1,e,by simpa using h1,by rw[show i+(d+1)=i+1+d from by omega];exact h2⟩
  ·rintro⟨d,e,h1,h2⟩
   cases d with
   |zero=>simp at h1;subst h1;exact .inl h2
   |succ d=>exact .inr ⟨d,e,by simpa using h1,by rw[show i+1+d=i+(d+1)from by omega];exact h2⟩
theorem yU {L:List En} {k:List UInt8} {q:Po}:q∈pk L k↔∃(d:Nat) (e:En),L[d]? =some e∧∃t∈dj (pb e),dy t=k∧q=((d:Int),posOf (pb e) t):=by
 unfold pk;rw[H2];simp only[fR,Qo]
theorem Eh:∀{l:List Po} {last:Int},fS last l=true→l.Pairwise (fun a b=>a.1<b.1)∧∀p∈l,last<p.1
 |[],_,_=>⟨List.Pairwise.nil,fun p h=>by cases h⟩
 |(d,ps)::l,last,h=>by
  simp only[fS,bW,decide_eq_true_eq]at h;obtain⟨⟨⟨⟨h1,h2⟩,h3⟩,h4⟩,h5⟩:=h;obtain⟨h6,h7⟩:=Eh h5;refine⟨ey.2 ⟨h7,h6⟩,fun p hp=>?_⟩;rcases cb.1 hp with rfl|hp
  ·exact h1
  ·have:=h7 p hp;omega
theorem NI {L:List En} (h:qU (-1) L=true) (hn:L.length≤1000000) (k:List UInt8):(pk L k).Pairwise fun a b=>a.1<b.1:=
 (Eh (tW k L 0 (-1) (jL h) (by omega) (by omega))).1
def k3 (to:List Int) (l:List Po):List Po:=l.filterMap fun p=>if 0≤to.getD p.1.toNat 0 then some (to.getD p.1.toNat 0,p.2)else none
theorem yV (to:List Int) (l:List Po) (p:Po):k3 to (l++[p])=if 0≤to.getD p.1.toNat 0 then k3 to l++[(to.getD p.1.toNat 0,p.2)]else k3 to l:=by
 unfold k3;rw[List.filterMap_append]
 split
 ·rename_i h;rw[List.filterMap_cons,if_pos h];rfl
 ·rename_i h;rw[List.filterMap_cons,if_neg h];simp
theorem tf (to:List Int) (l:List Po):(k3 to l).length≤l.length:=List.length_filterMap_le _ _
def Ei (g:Gs) (os:List Fo) (tos:List (List Int)):Prop:=tos.length=g.length∧∀(i:Nat) (p:List En×List Bool),g[i]? =some p→Plc os i p.1.length (tos.getD i [])
def xb (g:Gs) (tos:List (List Int)) (k:List UInt8) (n:Nat):List Po:=(List.range n).flatMap fun i=>k3 (tos.getD i []) (pk (g.getD i ([],[])).1 k)
theorem vD (g:Gs) (tos:List (List Int)) (k:List UInt8) (n:Nat):xb g tos k (n+1)=xb g tos k n++k3 (tos.getD n []) (pk (g.getD n ([],[])).1 k):=by
 unfold xb;rw[List.range_succ,List.flatMap_append];simp
section
variable {g:Gs} {os:List Fo} {E:List En} {tos:List (List Int)} {k:List UInt8}
theorem yW (hm:Mg g os E) (ht:Ei g os tos) {i:Nat} (hi:i<g.length) {q:Po}:q∈k3 (tos.getD i []) (pk (g.getD i ([],[])).1 k)↔∃(d n:Nat) (e:En),os[n]? =some ((i:Int),(d:Int))∧E[n]? =some e∧∃t∈dj (pb e),dy t=k∧q=((n:Int),posOf (pb e) t):=by
 have mI:g[i]? =some g[i]:=ar hi;obtain⟨hl,hp⟩:=ht.2 i _ mI;have pT:g.getD i ([],[])=g[i]:=by rw[aA,mI];rfl
 rw[pT];unfold k3;rw[List.mem_filterMap];constructor
 ·rintro⟨p,h1,h2⟩;obtain⟨d,e,hd,t,RC,IP,rfl⟩:=yU.1 h1;simp only[ay]at h2
  split at h2
  ·rename_i h3
   have h2:=aH h2;rcases hp d (an.1 hd).1 with⟨h4,_⟩|⟨n,h4,h5⟩
   ·omega
   ·obtain⟨i',d',e',a1,a2,a3⟩:=hm.at_ n _ h5;simp only[ef]at a1;obtain rfl:i=i':=by omega
    obtain rfl:d=d':=by omega
    obtain⟨L,a,b1,b2,_⟩:=a3;rw[mI]at b1;have b1:=aH b1;rw[b1]at hd;rw[hd]at b2;obtain rfl:=aH b2;exact⟨d,n,e,h5,a2,t,RC,IP,by rw[←h2,h4]⟩
  ·cases h2
 ·rintro⟨d,n,e,h1,h2,t,RC,IP,rfl⟩;obtain⟨i',d',e',a1,a2,a3⟩:=hm.at_ n _ h1;simp only[ef]at a1;obtain rfl:i=i':=by omega
  obtain rfl:d=d':=by omega
  rw[h2]at a2;obtain rfl:=aH a2;obtain⟨L,a,b1,b2,_⟩:=a3;rw[mI]at b1;have b1:=aH b1;refine⟨((d:Int),posOf (pb e) t),yU.2 ⟨d,e,by rw[b1];exact b2,t,RC,IP,rfl⟩,?_⟩;have hd:d<g[i].1.length:=by rw[b1];exact(an.1 b2).1
  simp only[ay];rcases hp d hd with⟨h4,h5⟩|⟨n',h4,h5⟩
  ·exact absurd (az h1) h5
  ·obtain rfl:=hm.un h1 h5;rw[h4,if_pos (by omega)]
theorem NJ (hg:H0 g) (hn:∀p∈g,p.1.length≤1000000) (hm:Mg g os E) (ht:Ei g os tos) {i:Nat} (hi:i<g.length):(k3 (tos.getD i []) (pk (g.getD i ([],[])).1 k)).Pairwise fun a b=>a.1≠b.1:=by
 have mI:g[i]? =some g[i]:=ar hi;obtain⟨hl,hp⟩:=ht.2 i _ mI;have pT:g.getD i ([],[])=g[i]:=by rw[aA,mI];rfl
 rw[pT];unfold k3;have hu:=NI (hg _ (az mI)).1 (hn _ (az mI)) k;refine List.pairwise_filterMap.2 (hu.imp_of_mem fun {a b} ha hb WX x hx y hy=>?_);obtain⟨d,e,hd,_,_,_,rfl⟩:=yU.1 ha;obtain⟨d',e',Oy,_,_,_,rfl⟩:=yU.1 hb;simp only[ay]at hx hy WX
 split at hx
 ·split at hy
  ·obtain rfl:=aH hx;obtain rfl:=aH hy;simp only;rcases hp d (an.1 hd).1 with⟨h4,_⟩|⟨n,h4,h5⟩
   ·omega
   ·rcases hp d' (an.1 Oy).1 with⟨h6,_⟩|⟨n',h6,h7⟩
    ·omega
    ·intro e;rw[h4,h6]at e;obtain rfl:n=n':=by omega
     rw[h5]at h7;have:=congrArg Prod.snd (aH h7);simp only at this;omega
  ·cases hy
 ·cases hx
theorem Ej (hm:Mg g os E) (ht:Ei g os tos) {n:Nat} (hn:n≤g.length) {q:Po}:q∈xb g tos k n↔∃(i d m:Nat) (e:En),i<n∧os[m]? =some ((i:Int),(d:Int))∧E[m]? =some e∧∃t∈dj (pb e),dy t=k∧q=((m:Int),posOf (pb e) t):=by
 unfold xb;rw[uI];constructor
 ·rintro⟨i,hi,h⟩;have hi:=so.1 hi;obtain⟨d,m,e,h1,h2,h3⟩:=(yW hm ht (by omega)).1 h;exact⟨i,d,m,e,hi,h1,h2,h3⟩
 ·rintro⟨i,d,m,e,hi,h1,h2,h3⟩;exact⟨i,so.2 hi,(yW hm ht (by omega)).2 ⟨d,m,e,h1,h2,h3⟩⟩
theorem xr (hg:H0 g) (hl:∀p∈g,p.1.length≤1000000) (hm:Mg g os E) (ht:Ei g os tos):∀{n:Nat},n≤g.length→(xb g tos k n).Pairwise fun a b=>a.1≠b.1
 |0,_=>List.Pairwise.nil
 |n+1,hn=>by
  rw[vD];refine ke.2 ⟨xr hg hl hm ht (by omega),NJ hg hl hm ht (by omega),fun a ha b hb e=>?_⟩;obtain⟨i,d,m,e1,hi,h1,_,_,_,_,rfl⟩:=(Ej hm ht (by omega)).1 ha;obtain⟨d',m',e2,h2,_,_,_,_,rfl⟩:=(yW hm ht (by omega)).1 hb;simp only at e;obtain rfl:m=m':=by omega
  rw[h1]at h2;have:=congrArg Prod.fst (aH h2);simp only at this;omega
theorem NK (hm:Mg g os E) (ht:Ei g os tos) {q:Po}:q∈xb g tos k g.length↔q∈pk E k:=by
 rw[Ej hm ht (aN _),yU];constructor
 ·rintro⟨i,d,m,e,_,_,h2,h3⟩;exact⟨m,e,h2,h3⟩
 ·rintro⟨m,e,h1,h2⟩;obtain⟨i,d,e',a1,a2,L,a,a3,_⟩:=hm.at_ m _ (ar (by rw[←hm.len];exact(an.1 h1).1));exact⟨i,d,m,e,(an.1 a3).1,by rw[←a1];exact ar _,h1,h2⟩
theorem vE (hg:H0 g) (hl:∀p∈g,p.1.length≤1000000) (hE:E.length≤1000000) (hm:Mg g os E) (ht:Ei g os tos):(xb g tos k g.length).Perm (pk E k):=
 (List.perm_ext_iff_of_nodup ((xr hg hl hm ht (aN _)).imp fun h e=>h (by rw[e])) ((NI (hm.ok hg) hE k).imp fun h e=>by subst e;omega)).2 fun _=>NK hm ht
theorem Ek (hg:H0 g) (hl:∀p∈g,p.1.length≤1000000) (hE:E.length≤1000000) (hm:Mg g os E) (ht:Ei g os tos) {s:List Po} (hs:s.Perm (xb g tos k g.length)) (hp:s.Pairwise fun a b=>a.1≤b.1):s=pk E k:=by
 have hu:=NI (hm.ok hg) hE k;have oD:=xr hg hl hm ht (k:=k) (aN _);refine List.Perm.eq_of_pairwise (le:=fun a b=>a.1≤b.1) (fun a b ha hb h1 h2=>?_) hp (hu.imp fun h=>by omega) (hs.trans (vE hg hl hE hm ht));have rh:=(hs.trans (vE hg hl hE hm ht)).mem_iff.1 ha;obtain⟨i,hi⟩:=wN.1 rh;obtain⟨j,hj⟩:=wN.1 hb;obtain⟨hi,rfl⟩:=hi;obtain⟨hj,rfl⟩:=hj;rcases eM i j with h|h|h
 ·have:=(cu.1 hu) i j hi hj h;omega
 ·subst h;rfl
 ·have:=(cu.1 hu) j i hj hi h;omega
theorem Jw (hm:Mg g os E) {J:List (List UInt8)} (hJ:Cp J) (ku:∀x,x∈J↔∃p∈g,x∈keysOf p.1):J.filter (fun k=> !(pk E k).isEmpty)=keysOf E:=by
 have jE:∀x,pk E x≠[]↔x∈iD E:=fun x=>⟨fun h=>Classical.byContradiction fun hn=>h (BG 0 hn),fun h=>F0 0 h⟩
 have hu:Cp (J.filter fun k=> !(pk E k).isEmpty):=List.Pairwise.sublist List.filter_sublist hJ;refine tR (R:=fun a b=>a<b) (fun a b h1 h2=>absurd h2 (iO h1)) hu (iX E) hu.nodup (iX E).nodup fun x=> ?_
 rw[iT,jn,←jE];constructor
 ·rintro⟨_,h⟩ e;rw[e]at h;simp at h
 ·intro h
  refine⟨(ku x).2 ?_,by cases hx:pk E x with
   |nil=>exact absurd hx h
   |cons a b=>rfl⟩
  have h2:=(jE x).1 h;unfold iD at h2;obtain⟨e,he,h3⟩:=uI.1 h2;obtain⟨i,d,L,a,a1,a2,_⟩:=hm.mem.1 he;exact⟨(L,a),az a1,jn.2 (uI.2 ⟨e,az a2,h3⟩)⟩
end
end Go.K
namespace Go.K
open Go.Proofs
set_option maxRecDepth 10000
def El (g:Gs):Prop:=∃(i d i' d':Nat) (e e':En),oy g i d e∧oy g i' d' e'∧¬(i=i'∧d=d')∧e.2=e'.2
theorem VB {g:List En} (hu:g.Pairwise fun a b=>a.2<b.2) {i i':Nat} {e e':En} (h:g[i]? =some e) (h':g[i']? =some e') (he:e.2=e'.2):i=i':=by
 obtain⟨p1,p2⟩:=an.1 h;obtain⟨q1,q2⟩:=an.1 h';have hp:=cu.1 hu;rcases eM i i' with hl|hl|hl
 ·have:=hp i i' p1 q1 hl;rw[p2,q2]at this;omega
 ·exact hl
 ·have:=hp i' i q1 p1 hl;rw[p2,q2]at this;omega
def zR (Ls:List (List En)):Gs:=Ls.map fun L=>(L,List.replicate L.length true)
theorem ZO {Ls:List (List En)} {i d:Nat} {e:En}:oy (zR Ls) i d e↔∃L,Ls[i]? =some L∧L[d]? =some e:=by
 unfold zR;constructor
 ·rintro⟨L',a',h1,h2,h3⟩;rw[br]at h1
  cases hi:Ls[i]? with
  |none=>rw[hi]at h1;simp at h1
  |some L=>rw[hi]at h1;simp only[cW,dN,ef]at h1;obtain⟨rfl,_⟩:=h1;exact⟨_,rfl,h2⟩
 ·rintro⟨L,h1,h2⟩;exact⟨L,_,by rw[br,h1];rfl,h2,by rw[kN,if_pos (an.1 h2).1]⟩
theorem Qp {Ls:List (List En)} {os:List Fo} {E:List En} (h:Mg (zR Ls) os E) {e:En}:e∈E↔∃L∈Ls,e∈L:=by
 rw[h.mem];constructor
 ·rintro⟨i,d,hl⟩;obtain⟨L,h1,h2⟩:=ZO.1 hl;exact⟨L,az h1,az h2⟩
 ·rintro⟨L,h1,h2⟩;obtain⟨i,hi⟩:=bB.1 h1;obtain⟨d,hd⟩:=bB.1 h2;exact⟨i,d,ZO.2 ⟨L,hi,hd⟩⟩
theorem Sa {Ls:List (List En)} (h:∀L∈Ls,qU (-1) L=true):H0 (zR Ls):=fun p hp=>by
 unfold zR at hp;obtain⟨L,hL,rfl⟩:=bP.1 hp;exact⟨h L hL,by simp⟩
theorem AX {g:Gs} (h:((g.map (·.1)).flatten).Pairwise fun x y=>x.2≠y.2): ¬El g:=by
 rintro⟨i,d,i',d',e,e',⟨L,a,h1,h2,_⟩,⟨L',a',h3,h4,_⟩,eQ,heq⟩;rw[List.pairwise_flatten]at h;obtain⟨ha,hb⟩:=h;have g1:(g.map (·.1))[i]? =some L:=by rw[br,h1];rfl
 have g3:(g.map (·.1))[i']? =some L':=by rw[br,h3];rfl
 obtain⟨p1,p2⟩:=an.1 g1;obtain⟨q1,q2⟩:=an.1 g3;rcases eM i i' with dV|rfl|dV
 ·have:=cu.1 hb i i' p1 q1 dV;rw[p2,q2]at this;exact this e (az h2) e' (az h4) heq
 ·rw[h1]at h3;cases h3;have hl:=ha L (az g1);obtain⟨r1,r2⟩:=an.1 h2;obtain⟨s1,s2⟩:=an.1 h4;rcases eM d d' with h|h|h
  ·have:=cu.1 hl d d' r1 s1 h;rw[r2,s2]at this;exact this heq
  ·exact eQ ⟨rfl,h⟩
  ·have:=cu.1 hl d' d s1 r1 h;rw[r2,s2]at this;exact this heq.symm
 ·have:=cu.1 hb i' i q1 p1 dV;rw[p2,q2]at this;exact this e' (az h4) e (az h2) heq.symm
theorem VC {L:List En} {a:List Bool} (hu:L.Pairwise fun x y=>x.2<y.2): ¬El [(L,a)]:=AX (by
 show(List.flatten [L]).Pairwise _;rw[List.flatten_cons,List.flatten_nil,ia];exact hu.imp fun h e=>by omega)
def uE (g:List En) (kof:Nat→Nat) (j:Nat):Nat→List En
 |0=>[]
 |n+1=>uE g kof j n++if kof n=j then(g[n]?).toList else[]
section
variable {g:List En} {kof:Nat→Nat} {j:Nat}
theorem nh {e:En}:∀{n:Nat},e∈uE g kof j n↔∃i,i<n∧kof i=j∧g[i]? =some e
 |0=>by simp[uE]
 |n+1=>by
  rw[uE,ch,nh];constructor
  ·rintro(⟨i,h1,h2,h3⟩|h)
   ·exact⟨i,by omega,h2,h3⟩
   ·split at h
    ·rename_i hk;exact⟨n,by omega,hk,by simpa using h⟩
    ·cases h
  ·rintro⟨i,h1,h2,h3⟩;rcases cG i n with h|h
   ·exact .inl ⟨i,h,h2,h3⟩
   ·obtain rfl:i=n:=by omega
    refine .inr ?_;rw[if_pos h2,h3];simp
theorem GM (hu:g.Pairwise fun a b=>a.2<b.2):∀n,(uE g kof j n).Pairwise fun a b=>a.2<b.2
 |0=>List.Pairwise.nil
 |n+1=>by
  rw[uE];refine ke.2 ⟨GM hu n,?_,fun a ha b hb=>?_⟩
  ·split
   ·cases g[n]? <;>simp
   ·exact .nil
  ·obtain⟨i,h1,h2,h3⟩:=nh.1 ha
   split at hb
   ·have hb:g[n]? =some b:=by simpa using hb
    obtain⟨p1,p2⟩:=an.1 h3;obtain⟨q1,q2⟩:=an.1 hb;rw[←p2,←q2];exact(cu.1 hu) i n p1 q1 h1
   ·cases hb
theorem VD (h:qU (-1) g=true) (n:Nat):qU (-1) (uE g kof j n)=true:=
 GL (fun e he=>by obtain⟨i,_,_,h3⟩:=nh.1 he;exact ue h e (az h3)) (GM (vC h) n)
theorem xu:∀n,(uE g kof j n).length≤n
 |0=>aN _
 |n+1=>by
  have:=xu n;rw[uE,bc]
  split
  ·cases g[n]? <;>simp<;>omega
  ·simp;omega
end
def qX (g:List En) (kof:Nat→Nat) (m:Nat):List (List En):=(List.range m).map fun j=>uE g kof j g.length
theorem Qq {g:List En} {kof:Nat→Nat} {m j:Nat} (h:j<m):(qX g kof m)[j]? =some (uE g kof j g.length):=by
 unfold qX;rw[br,List.getElem?_range h];rfl
theorem NL {g:List En} {kof:Nat→Nat} (hu:g.Pairwise fun a b=>a.2<b.2) (js:List Nat) (hj:js.Nodup):(js.map fun j=>uE g kof j g.length).flatten.Pairwise fun x y=>x.2≠y.2:=by
 rw[List.pairwise_flatten];refine⟨fun l hl=>?_,?_⟩
 ·obtain⟨j,_,rfl⟩:=bP.1 hl;exact(GM hu _).imp fun h e=>by omega
 ·rw[cA]
  exact hj.imp fun eQ x hx y hy e=>by
   obtain⟨i,_,h2,h3⟩:=nh.1 hx;obtain⟨i',_,xj,h3'⟩:=nh.1 hy;have:=VB hu h3 h3' e;subst this;omega
theorem Qr {g:List En} {kof:Nat→Nat} {m:Nat} (hk:∀i,kof i<m) {e:En}:(∃L∈qX g kof m,e∈L)↔e∈g:=by
 unfold qX;constructor
 ·rintro⟨L,h1,h2⟩;obtain⟨j,_,rfl⟩:=bP.1 h1;obtain⟨i,_,_,h3⟩:=nh.1 h2;exact az h3
 ·intro h;obtain⟨i,hi⟩:=bB.1 h;exact⟨_,bP.2 ⟨kof i,so.2 (hk i),rfl⟩,nh.2 ⟨i,(an.1 hi).1,rfl,hi⟩⟩
theorem NM {g:List En} {kof:Nat→Nat} (f:En→Nat) (hk:∀i,kof i<3):∀n,n≤g.length→((uE g kof 0 n).map f).sum+((uE g kof 1 n).map f).sum+((uE g kof 2 n).map f).sum=((g.take n).map f).sum
 |0,_=>rfl
 |n+1,hn=>by
  have h1:=NM (g:=g) f hk n (by omega);have h2:=hk n;rw[bV,cX,oI,←h1,uE,uE,uE];simp only[cX,oI];by_cases e0:kof n=0
  ·rw[if_pos e0,if_neg (by omega),if_neg (by omega)];simp;omega
  ·by_cases e1:kof n=1
   ·rw[if_neg e0,if_pos e1,if_neg (by omega)];simp;omega
   ·rw[if_neg e0,if_neg e1,if_pos (by omega)];simp;omega
theorem ug {k:List UInt8} {c:Po→Nat} (hc:∀i j ps,c (i,ps)=c (j,ps)):∀(L:List En) (i:Nat),((AI k i L).map c).sum=(L.map fun e=>((Cq 0 (pb e) k).map c).sum).sum
 |[],_=>rfl
 |e::L,i=>by
  rw[AI,cX,oI,ug hc L,dQ,List.sum_cons];congr 2;unfold Cq;rw[sk,sk];exact List.map_congr_left fun t _=>hc _ _ _
def jw (to:List Int) (m:Nat) (i:Nat):Nat:=((if to.getD i 0<0 then-(to.getD i 0+1)else to.getD i 0)%(m:Int)).toNat
theorem H3 {to:List Int} {m:Nat} (hm:0<m) (i:Nat):jw to m i<m:=by
 unfold jw;have h1:=Int.emod_nonneg (if to.getD i 0<0 then-(to.getD i 0+1)else to.getD i 0) (show(m:Int)≠0 by omega);have h2:=Int.emod_lt_of_pos (if to.getD i 0<0 then-(to.getD i 0+1)else to.getD i 0) (show 0<(m:Int) by omega);omega
end Go.K
namespace Go.K
theorem Own.Qs {α:Type} {A:RT α} (hA:BQ A) {e:TypeId} {M:aD} {w:World} {base:Nat} {v:Value} {xs:List α} (h:Own A e M w base v xs) {M':aD} (hm:∀b,v.ownBlock=some b→M' b):Own A e M' w base v xs:=by
 obtain⟨⟨C,h1,h2⟩,_⟩:=h;exact⟨⟨C,h1,h2.Qh hA⟩,hm⟩
theorem Own.ZQ {α:Type} {A:RT α} (hA:BQ A) {e:TypeId} {N:aD} {w w':World} {base:Nat} {v:Value} {xs:List α} (h:Own A e allM w base v xs) (s:Step allM w allM w' N) (hn:∀b,v.ownBlock=some b→¬N b):Own A e allM w' base v xs:=by
 obtain⟨⟨C,h1,h2⟩,_⟩:=h;refine⟨⟨C,⟨h1.1,?_⟩,h2.Qh hA⟩,fun _ _=>trivial⟩;rcases h1.2 with h3|⟨g,cap,cur,h3,h4,h5,h6,h7,h8⟩
 ·exact .inl h3
 ·exact .inr ⟨g,cap,cur,h3,h4,by rw[s.same g (ak h5) (hn g (by rw[h3];rfl))];exact h5,h6,h7,h8⟩
theorem Own.Sb {α:Type} {A:RT α} (hA:BQ A) {e:TypeId} {M:aD} {w:World} {base:Nat} {v:Value} {xs:List α} (h:Own A e M w base v xs):Own A e (mS v) w base v xs:=h.Qs hA fun _ h=>h
theorem Own.Sd {α:Type} {A:RT α} (hA:BQ A) {e:TypeId} {M M' N:aD} {w w':World} {base:Nat} {v:Value} {xs:List α} (h:Own A e (mS v) w base v xs) (s:Step M w M' w' N) (hn:∀c,v.ownBlock=some c→¬N c):Own A e (mS v) w' base v xs:=
 ((h.Qs hA (M':=allM) (fun _ _=>trivial)).ZQ hA s.all hn).Sb hA
end Go.K
namespace Go.K
variable {P:Program} {r:Option Nat} {n:Nat} {L:Sl} {ds:List Deferred} {w:World} {K:Kt} {ops:Array Oper} {rest:List Oper} {d:Nat} {x y:Operand} {ty:TypeId} {pos:String} {af:Array Edge} {α:Type} {A:RT α}
theorem Own.Jy {e:TypeId} {M:aD} {base:Nat} {u v:Value} {xs:List α} (h:Own A e M w base u xs) (uD:∀b,u.ownBlock=some b→v.ownBlock≠some b):Own A e (rm M v) w base u xs:=by
 obtain⟨⟨C,hr,ha⟩,hm⟩:=h;exact⟨⟨C,hr,ha.le (eK M v w)⟩,fun b hb=>⟨hm b hb,uD b hb⟩⟩
theorem Rg.VE {t e:TypeId} {zv:Value} {bytes:Nat} {M:aD} {base g len cap j:Nat} {xs:List α} {a:α} {v:Value} (hA:A.n=1∧A.agg=false) (hi:TI P t zv 1 bytes) (hx:ev L x=some (.pointer (some ⟨g,j,none⟩))) (hy:ev L y=some v) (h:Own A e M w base (.slice (some ⟨g,0,none⟩) len cap) xs) (hj:j<xs.length) (hv:A.V M w a v)
  (k:∀w',Own A e M w' base (.slice (some ⟨g,0,none⟩) len cap) (xs.set j a)→Step M w M w' (fun k=>k=g)→Rg P r n ops rest L ds w' K):
  Rg P r n ops ({dst:=none,op:= .store t x y,type:=ty,pos,after:=af,guard:=none}::rest) L ds w K:=by
 obtain⟨vs,jS,hvv⟩:=hv;have hl:=A.len jS;rw[hA.1]at hl
 obtain⟨u,rfl⟩:∃u,vs=[u]:=by
  match vs,hl with
  |[u],_=>exact⟨u,rfl⟩
 have hvu:v=u:=by rw[hvv];unfold RT.val;rw[hA.2];rfl
 subst hvu;have h1:=A.one jS v (by simp);obtain⟨w',Tt,ho,hs⟩:=h.setCells hj jS;obtain⟨⟨C,hr,_⟩,hm⟩:=h;rcases hr.2 with⟨h2,_⟩|⟨g',xD,cur,h2,_,h3,h4,h5,h6,h7⟩
 ·cases h2
 ·simp only[fT,dN,nF]at h2;obtain⟨⟨rfl,_⟩,rfl,rfl⟩:=h2;rw[hA.1]at h6 Tt;refine .QU (fun _ h=>by cases h) rfl rfl w' (fun ρ hρ=>?_) (k w' ho hs);subst Tt;simp only[execOp,hρ x _ hx,hρ y _ hy];have:=nr (P:=P) hi (w:=w) (b:=g) (o:=j) (v:=v) h1 (by rw[fM h3 (v:=cur[j]'(by omega)) (by simp)];rfl) (by simp[World.frozen?,h3]);simp[this,World.setCells]
theorem Rg.ag4 {t e:TypeId} {zv v:Value} {bytes:Nat} {M:aD} (ht:P.underlying t=some (.slice e)) (hi:TI P e zv 1 bytes) (hx:ev L x=some v) (hd:Nat.blt d n=true) (hc:v.cells= #[v])
  (k:∀g w',w.heap.size≤g→w'.heap[g]? =some (.cells #[v] e (0,0))→Step M w M w' aC→Rg P r n ops rest ((d,.slice (some ⟨g,0,none⟩) 1 1)::L) ds w' K):
  Rg P r n ops ({dst:=some d,op:= .buildSlice t 1 #[(0,x)],type:=ty,pos,after:=af,guard:=none}::rest) L ds w K:=by
 obtain⟨i,zm,Ac,hi3,W0⟩:=hi.get;refine .op (fun _ h=>by cases h) rfl rfl hd (.slice (some ⟨w.heap.size,0,none⟩) 1 1) (w.alloc (.cells #[v] e)) (fun ρ hρ=>?_) (k _ _ (aN _) (cr w _) (dm M w (.cells #[v] e)));simp only[execOp,fa,dQ,jd,hρ x _ hx];simp only[Instr.buildSlice,cn,run_underlying ht,cC,hi.sizeOf,Nat.one_mul];rw[if_neg (by omega),if_neg (by omega)];simp only[cn,zeroValue,typeInfo,program,Sem.run,zm,Ac,cC,Sem.run_pure];rw[Cy 1 _ #[v] v (by simp) hc (by simp)];simp[newRow,newObj,Sem.run]
theorem Rg.Qt {i:Operand} {t e:TypeId} {κ:IntKind} {j:Int} {b o len bytes:Nat} {zv:Value} (ht:P.underlying t=some (.array len e)) (hi:TI P e zv 1 bytes) (hx:ev L x=some (.pointer (some ⟨b,o,none⟩))) (E3:ev L i=some (.int κ j)) (hd:Nat.blt d n=true) (hj:0≤j∧j<len)
  (k:Rg P r n ops rest ((d,.pointer (some ⟨b,o+j.toNat,none⟩))::L) ds w K):
  Rg P r n ops ({dst:=some d,op:= .indexAddr t x i,type:=ty,pos,after:=af,guard:=none}::rest) L ds w K:=
 .op (fun _ h=>by cases h) rfl rfl hd _ w (fun ρ h=>by
  simp only[execOp,h x _ hx,h i _ E3];simp[Instr.indexAt,run_underlying ht,asIntOf,hj,hi.sizeOf,wK,Instr.sureAddr]) k
def OH (p:Fo):List Value:=[.int .i64 p.1,.int .i64 p.2]
def ZR (p:Fo):Prop:=lW p.1∧lW p.2
theorem xv {M:aD} {w:World}:∀{xs:List Fo} {C:List Value},dZ RT.fo M w xs C↔C=xs.flatMap OH∧∀p∈xs,ZR p
 |[],C=>⟨fun h=>⟨h,fun p h=>by cases h⟩,fun h=>h.1⟩
 |p::xs,C=>by
  constructor
  ·rintro⟨vs,r,h1,⟨va,vb,rfl,⟨rfl,ha⟩,⟨rfl,hb⟩⟩,h3⟩;obtain⟨h4,h5⟩:=xv.1 h3;refine⟨by rw[h1,h4];rfl,fun q hq=>?_⟩;rcases cb.1 hq with rfl|hq
   ·exact⟨ha,hb⟩
   ·exact h5 q hq
  ·rintro⟨h1,h2⟩;obtain⟨ha,hb⟩:=h2 p (bG ..);exact⟨_,_,by rw[h1];rfl,⟨_,_,rfl,⟨rfl,ha⟩,⟨rfl,hb⟩⟩,xv.2 ⟨rfl,fun q hq=>h2 q (bU _ hq)⟩⟩
theorem Em {a:Int}:∀{xs:List Fo} {k:Nat} {p:Fo},xs[k]? =some p→(xs.flatMap OH).set (k*2+1) (.int .i64 a)=(xs.set k (p.1,a)).flatMap OH
 |[],k,p,h=>by simp at h
 |q::xs,0,p,h=>by
  simp at h;subst h;rfl
 |q::xs,k+1,p,h=>by
  have:=Em (a:=a) (xs:=xs) (k:=k) (p:=p) (by simpa using h);rw[List.set_cons_succ,rY,rY,←this];show(OH q++_).set _ _=OH q++_;rw[show(k+1)*2+1=(k*2+1)+2 from by omega];rfl
theorem yX:∀xs:List Fo,(xs.flatMap OH).length=xs.length*2
 |[]=>rfl
 |p::xs=>by rw[rY,bc,yX xs,cD];show 2+_=_;omega
theorem Own.ZS {e:TypeId} {M:aD} {base g len cap k:Nat} {xs:List Fo} {p:Fo} (h:Own RT.fo e M w base (.slice (some ⟨g,0,none⟩) len cap) xs) (hx:xs[k]? =some p):
  ∃cur,w.heap[g]? =some (.cells cur e (0,0))∧M g∧ZR p∧base≤g∧(∃u,cur[k*2+1]? =some u∧u.oneCell'=true)∧∀(M':aD) (w':World) (a:Int),lW a→w'.heap[g]? =some (.cells (cur.setIfInBounds (k*2+1) (.int .i64 a)) e (0,0))→M' g→Own RT.fo e M' w' base (.slice (some ⟨g,0,none⟩) len cap) (xs.set k (p.1,a)):=by
 obtain⟨⟨C,hr,ha⟩,hm⟩:=h;obtain⟨rfl,hok⟩:=xv.1 ha;have Cl:=(an.1 hx).1;rcases hr.2 with⟨h1,_⟩|⟨g',xD,cur,h1,h2,h3,h4,h5,h6,h7⟩
 ·cases h1
 ·simp only[fT,dN,nF]at h1;obtain⟨⟨rfl,_⟩,rfl,rfl⟩:=h1;have e2:RT.fo.n=2:=rfl;rw[e2]at h6 h7;have ku:k*2+1<xs.length*2:=by omega
  have iU:∃u,cur[k*2+1]? =some u∧u.oneCell'=true:=by
   have hl:k*2+1<(xs.flatMap OH).length:=by rw[yX];exact ku
   refine⟨(xs.flatMap OH)[k*2+1],?_,ha.one _ (uH _)⟩;have h8:(cur.toList.take (xs.length*2))[k*2+1]? =some (xs.flatMap OH)[k*2+1]:=by rw[h7];exact ar hl
   rw[cp,if_pos ku]at h8;simpa using h8
  refine⟨cur,h3,hm g rfl,hok p (az hx),h2,iU,fun M' w' a har hw hM'=>?_⟩;refine⟨⟨(xs.set k (p.1,a)).flatMap OH,⟨by rw[yX];rfl,.inr ⟨g,cap,_,by rw[eV],h2,hw,by rw[eV];exact h4,h5,by rw[e2];simpa using h6,?_⟩⟩,xv.2 ⟨rfl,fun q hq=>?_⟩⟩,fun b hb=>by cases hb;exact hM'⟩
  ·rw[e2,eV,←Em hx,←h7];apply fp;intro j;rw[dq];simp only[cp,Array.toList_setIfInBounds,dq,bg,zj];by_cases hj:j<xs.length*2
   ·rw[if_pos hj,if_pos hj];have:xs.length*2≤cur.size:=by rw[h6];omega
    by_cases e:k*2+1=j
    ·rw[if_pos e,if_pos e,if_pos (by omega),if_pos (by omega)]
    ·rw[if_neg e,if_neg e]
   ·rw[if_neg hj,if_neg hj];rw[if_neg (by omega)]
  ·rcases List.mem_or_eq_of_mem_set hq with hq|rfl
   ·exact hok q hq
   ·exact⟨(hok p (az hx)).1,har⟩
end Go.K
namespace Go.K
open Go.Proofs
namespace TKSet
theorem Eo:TI Tryz.prog 131 (.slice none 0 0) 1 24:=by unfold TI;kernel_rfl
theorem ag5:TI Tryz.prog 133 (.agg #[(.int .i64 0),(.slice none 0 0)]) 2 32:=by unfold TI;kernel_rfl
theorem yY:TI Tryz.prog 190 (.int .u64 0) 1 8:=by unfold TI;kernel_rfl
theorem ag6:placesOf Tryz.prog 133=[(0,1),(1,1)].map some:=by kernel_rfl
end TKSet
open TKSet
set_option maxRecDepth 10000
theorem zT {w0:World} {k m x:Nat} (GN:∃e fr,w0.heap[1]? =some (.cells (IC.map fun(k:Nat)=>Value.int .u8 (k:Int)).toArray e fr)) (hx:x=2^k*(2*m+1)) (hl:x<2^64):
  Spec Tryz.prog 213 #[.int .u64 x] w0 (fun v' w'=>v'= .int .i64 k∧w0=w'):=by
 obtain⟨et,ft,GN⟩:=GN;have hp:=Nat.two_pow_pos k;have tp:0<x:=by rw[hx];exact Nat.mul_pos hp (by omega)
 have hkx:2^k≤x:=by rw[hx];exact Nat.le_mul_of_pos_right _ (by omega)
 have hk:k<64:=by
  rcases cG k 64 with h2|h2
  ·exact h2
  ·have:=np (n:=2) (by decide) h2;omega
 obtain⟨hd1,hd2⟩:=Tu k hk;have lp:((IC.map fun(k:Nat)=>Value.int .u8 (k:Int)).toArray)[(2^k*285870213051353865)%2^64/2^58]? =some (.int .u8 (k:Int)):=by rw[eD,br,hd2];rfl
 refine bm (args:=[_]) (fn:=Tryz.f213) Tryz.func213 rfl (n:=14) Tryz.ntmps213 (aj (ae (ah rfl rfl (ab (aj (aj (ae (ad rfl rfl (qZ rfl rfl rfl (ab (T.wO rfl ((by omega)) ?_)))))))))));refine aT (aj (ae (ad rfl rfl (ad rfl rfl (Rg.acO rfl rfl (aU (v':= .int .u64 ((2^64-x:Nat):Int)) (by rw[show(0:Int)-(x:Int)=((2^64-x:Nat):Int)-18446744073709551616 from by omega];simp[IntKind.wrap,IntKind.bits,IntKind.signed];omega) (Rg.and rfl rfl rfl (aU (v':= .int .u64 ((2^k:Nat):Int)) (by rw[KL x (2^64-x) hl (by omega),hx,O6 (by omega)]) (Rg.Ij rfl rfl rfl (aU (v':= .int .u64 (((2^k*285870213051353865)%2^64:Nat):Int)) (congrArg _ (by rw[show((2^k:Nat):Int)*285870213051353865=((2^k*285870213051353865:Nat):Int)from by rw[Int.natCast_mul];rfl];exact Bk _)) (Rg.shr rfl rfl rfl (by decide) ?_)))))))))));refine aU (v':= .int .u64 (((2^k*285870213051353865)%2^64/2^58:Nat):Int)) (congrArg _ (Xr _ 58 (by decide))) (xh (len:=64) Tryz.underlying326 I5 rfl rfl rfl (by omega) (aP (v:= .int .u8 (k:Int)) cz rfl rfl rfl GN (by rw[ay];exact lp) (Rg.uL cz aw rfl rfl (by omega) (ah rfl rfl (ab (aQ ?_))))));exact aV rfl rfl ⟨rfl,rfl⟩
theorem AY {M:aD} {w0:World} {n:Nat} (hn:n≤1099511627776):
  Spec Tryz.prog 24 #[.int .i64 n] w0 (fun v' w'=>∃bs bw,v'= .pointer (some ⟨bs,0,none⟩)∧w0.heap.size≤bs∧w0.heap.size≤bw∧Step M w0 (ins (ins M bw) bs) w' aC∧jK 133 190 n (List.replicate ((n+63)/64) 0) (ins (ins M bw) bs) w' bs bw):=by
 refine bm (args:=[_]) (fn:=Tryz.f24) Tryz.func24 rfl (n:=13) Tryz.ntmps24 (aj (ae (ah rfl rfl (ab (aj (ae (ad rfl rfl (Rg.max2 rfl rfl rfl (aU (v':= .int .i64 n) (congrArg _ (by omega)) (ah rfl rfl (ab ?_)))))))))));refine aj (ae (ad rfl rfl (ad rfl rfl (bC rfl rfl rfl (by omega) (fq rfl rfl rfl (by omega) (Rg.zu rfl rfl rfl (by omega) (aU (v':= .int .i64 (((n+63)/64:Nat):Int)) (congrArg _ (by omega)) ?_)))))));refine Rg.mk0 M eY yY rfl rfl rfl rfl (by omega) (by omega) (fun bw w1 z1 z1' h1 s1=>?_);refine iS (places:=[(0,1),(1,1)]) iG ag5 ag6 rfl ⟨_,_,rfl,rfl,_,_,rfl,rfl,rfl⟩ (out:=[_,_]) ⟨0,[_],rfl,rfl,by simp[Value.cells],1,[_],rfl,rfl,by simp[Value.cells],rfl⟩ ?_;refine wM (ins M bw) rfl rfl (fun bs w2 z2 z2' h2 s2=>?_);have y1:=s1.size;refine ah rfl rfl (ab (aQ ?_));refine aV rfl rfl ⟨bs,bw,rfl,by omega,z1,s1.aB s2,.inl rfl,.inr (.inl rfl),by omega,by rw[cf];exact h2,?_,by simp,fun x hx=>by rw[iz hx];decide,hn⟩;have:=s2.aM h1;rw[this];simp[qs]
end Go.K
namespace Go.K
open Go.Proofs
set_option maxRecDepth 10000
theorem Jz {M:aD} {w0:World} {n:Nat} {ws:List Nat} {bs bw:Nat} (h:jK 133 190 n ws M w0 bs bw):
  Spec Tryz.prog 102 #[.pointer (some ⟨bs,0,none⟩)] w0 (fun v' w'=>v'= .int .i64 (n:Int)∧w0=w'):=by
 have hS:=h.s;have hW:=h.w;have hlen:=h.len;have hok:=h.ok;have Ws:=h.nn;refine bm (args:=[_]) (fn:=Tryz.f102) Tryz.func102 rfl (n:=7) Tryz.ntmps102 (aj (ae (ah rfl rfl (ab (aj (ae (ad rfl rfl (bN rfl ⟨_,rfl⟩ rfl (bK iG rfl rfl I3 (by decide) rfl rfl (aP aw rfl rfl rfl (by assumption) rfl (ah rfl rfl ?_)))))))))));refine ab (aQ ?_);exact aV rfl rfl ⟨rfl,rfl⟩
end Go.K
namespace Go.K
open Go.Proofs
namespace TKSet3
theorem Eo:TI Tryz.prog 131 (.slice none 0 0) 1 24:=by unfold TI;kernel_rfl
theorem yY:TI Tryz.prog 190 (.int .u64 0) 1 8:=by unfold TI;kernel_rfl
theorem ZT:Enters Tryz.prog 155:=enters Tryz.func155 rfl (by decide)
theorem ag7:Enters Tryz.prog 213:=enters Tryz.func213 rfl (by decide)
end TKSet3
open TKSet3
set_option maxRecDepth 10000
theorem yZ {M:aD} {w0:World} {n:Nat} {ws:List Nat} {bs bw:Nat} (h:jK 133 190 n ws M w0 bs bw) {i:Int} (hi: -1≤i∧i≤1099511627776) (hb:∀j,bit ws j=true→j<n) (GN:∃e fr,w0.heap[1]? =some (.cells (IC.map fun(k:Nat)=>Value.int .u8 (k:Int)).toArray e fr)):
  Spec Tryz.prog 155 #[.pointer (some ⟨bs,0,none⟩),.int .i64 i] w0 (fun v' w'=>(∃r,v'= .int .i64 r∧Ra ws i.toNat r∧ -1≤r∧r≤1099511627776)∧w0=w'):=by
 have hS:=h.s;have hW:=h.w;have hlen:=h.len;have hok:=h.ok;have Ws:=h.nn;refine bm (args:=[_,_]) (fn:=Tryz.f155) Tryz.func155 rfl (n:=36) Tryz.ntmps155 (aj (ae (ah rfl rfl (ab (aj (ae (ad rfl rfl (Rg.max2 rfl rfl rfl (aU (v':= .int .i64 (i.toNat:Int)) (congrArg _ (by omega)) (ah rfl rfl (ab ?_)))))))))));refine aj (aZ ?_);refine dn (σ:=Nat) (fun s=>[(0,.pointer (some ⟨bs,0,none⟩)),(1,.int .i64 s)]) (fun s w=>w0=w∧i.toNat≤s∧(∀t,i.toNat≤t→t<s→bit ws t=false)∧s≤1099511627840) (fun s=>n+64-s) i.toNat (.cons rfl (.cons rfl .nil)) ?_ ?_
 ·exact⟨rfl,aN _,fun t h1 h2=>by omega,by omega⟩
 ·rintro p w1 ⟨rfl,hp,kf,jT⟩;refine aj (aj (ae (ad rfl rfl (ad rfl rfl (bN rfl ⟨_,rfl⟩ rfl (bK iG rfl rfl I3 (by decide) rfl rfl (aP aw rfl rfl rfl (by assumption) rfl (cg rfl rfl rfl (ab ?_)))))))));refine bI rfl (fun c2=>?_) (fun c2=>?_)
  ·refine aT (aZ (aj (aj (ae (ad rfl rfl (bN rfl ⟨_,rfl⟩ rfl (bK iG rfl rfl Eo (by decide) rfl rfl (aP eY rfl rfl rfl (by assumption) rfl (ad rfl rfl (Rg.zu rfl rfl rfl (by omega) (Rg.Fl eY yY rfl rfl rfl (by omega) ?_)))))))))));refine aP si rfl rfl rfl hW (v:= .int .u64 ((ws.getD (p/64) 0:Nat):Int)) (by rw[show(((p:Int)/64)).toNat=p/64 from by omega];exact mn (by omega)) (ad rfl rfl (Rg.zw rfl rfl rfl (by omega) (Rg.shr rfl rfl rfl (by omega) (aU (v':= .int .u64 ((ws.getD (p/64) 0/2^(p%64):Nat):Int)) (congrArg _ (by rw[show((p:Int)%64)=((p%64:Nat):Int)from by omega];exact Xr _ _ (by omega))) (ah rfl rfl (ab (aj (ae (ad rfl rfl (fD rfl rfl rfl (ab ?_)))))))))));refine bI rfl (fun c4=>?_) (fun c4=>?_)
   ·refine aj (ae (ad rfl rfl (ad rfl rfl ?_)));obtain⟨k,m,Fa⟩:=KN (ws.getD (p/64) 0/2^(p%64)) (Nat.pos_of_ne_zero fun h=>c4 (by rw[h];rfl));have A7:=CR (hok.get _) (show p%64<64 by omega) Fa;have ag8:ws.getD (p/64) 0/2^(p%64)<2^64:=Nat.lt_of_le_of_lt (Nat.div_le_self _ _) (hok.get _);refine aY rfl rfl ag7 (zT (k:=k) (m:=m) GN Fa ag8) (fun r wc h=>?_);obtain⟨rfl,rfl⟩:=h;refine bC rfl rfl rfl (by omega) (ah rfl rfl (ab (aQ ?_)));have hlb:=fun t ht=>(Bj (k:=k) (m:=m)).2 t ht
    have ZU:bit ws (p+k)=true:=by rw[xU A7,Fa];exact Bj.1
    have:=hb _ ZU
    exact aV rfl rfl ⟨⟨_,rfl,.inl ⟨p+k,by omega,by omega,ZU,fun t h1 h2=>by
     rcases cG t p with h|h
     ·exact kf t h1 h
     ·have h3:=xU (ws:=ws) (i:=p) (t:=t-p) (by omega);rw[show p+(t-p)=t from by omega]at h3;rw[h3,Fa];exact hlb _ (by omega)⟩,by omega,by omega⟩,rfl⟩
   ·have hz0:ws.getD (p/64) 0/2^(p%64)=0:=by
     have:=dJ.1 c4;exact Int.ofNat.inj this
    refine aT (ae (ad rfl rfl (ad rfl rfl (Rg.zw rfl rfl rfl (by omega) (fq rfl rfl rfl (by omega) (bC rfl rfl rfl (by omega) (ah rfl rfl (ab ?_))))))));refine⟨rfl,p+(64-p%64),(.cons rfl (.cons (by rw[show((p+(64-p%64):Nat):Int)=(p:Int)+(64-(p:Int)%64)from by omega];rfl) .nil)),?_,?_⟩
    ·refine⟨rfl,by omega,fun t h1 h2=>?_,by omega⟩;rcases cG t p with h|h
     ·exact kf t h1 h
     ·have h3:=xU (ws:=ws) (i:=p) (t:=t-p) (by omega);rw[show p+(t-p)=t from by omega]at h3;rw[h3,hz0];simp
    ·show n+64-(p+(64-p%64))<n+64-p;omega
  ·refine cK (aj (ae (ah rfl rfl (ab (aQ ?_)))))
   exact aV rfl rfl ⟨⟨_,rfl,.inr ⟨rfl,fun t h1=>by
    rcases cG t p with h|h
    ·exact kf t h1 h
    ·cases P5:bit ws t with
     |false=>rfl
     |true=>have:=hb t P5;omega⟩,by omega,by omega⟩,rfl⟩
theorem JA {M:aD} {w0:World} {bs:Nat} (hM:Lt M w0):
  Spec Tryz.prog 103 #[.pointer (some ⟨bs,0,none⟩)] w0 (fun v' w'=>∃bl,v'= .func (.func 154) #[] #[.pointer (some ⟨bl,0,none⟩)]∧w'.heap[bl]? =some (.cells #[.pointer (some ⟨bs,0,none⟩)] 47 (0,0))∧w0.heap.size≤bl∧Step M w0 M w' aC):=by
 refine bm (args:=[_]) (fn:=Tryz.f103) Tryz.func103 rfl (n:=4) Tryz.ntmps103 (aj (ae ?_));refine wM M rfl rfl (fun bl w1 h1 Ww hS s1=>?_);change w1.heap[bl]? =some (.cells #[.pointer (some ⟨bs,0,none⟩)] _ _)at hS;refine ah rfl rfl (ab (aj (ae (kg (xs:=[]) (ys:=[.tmp 1]) rfl rfl rfl (ah rfl rfl (ab (aQ ?_)))))));exact aV rfl rfl ⟨bl,rfl,hS,h1,s1.back⟩
theorem GO {w0:World} {n:Nat} {ws:List Nat} {bs bw bl yl:Nat} {J:Nat→aD→World→Prop} {M:aD} {Jx:World→Prop} (hb:∀j,bit ws j=true→j<n) (HQ:∀p M w,J p M w→w.heap[bl]? =some (.cells #[.pointer (some ⟨bs,0,none⟩)] 47 (0,0))∧jK 133 190 n ws M w bs bw∧(∃e fr,w.heap[1]? =some (.cells (IC.map fun(k:Nat)=>Value.int .u8 (k:Int)).toArray e fr))) (hy:∀(p j:Nat) (M:aD) (w:World),J p M w→p≤j→bit ws j=true→(∀t,p≤t→t<j→bit ws t=false)→vW Tryz.prog yl [.int .i64 j].toArray w (fun r w'=>∃c,r= .bool c∧(c=true→∃M',J (j+1) M' w')∧(c=false→Jx w'))) (h0:J 0 M w0):
  Spec Tryz.prog 154 #[.func (.yield yl) #[] #[],.pointer (some ⟨bl,0,none⟩)] w0 (fun _ w'=>(∃p M',J p M' w'∧∀t,p≤t→bit ws t=false)∨Jx w'):=by
 obtain⟨WK,T5,ag9⟩:=HQ _ _ _ h0;refine bm (args:=[_,_]) (fn:=Tryz.f154) Tryz.func154 rfl (n:=17) Tryz.ntmps154 (aj (ae (aP Tryz.underlying47 rfl rfl rfl (by assumption) rfl ?_)));refine aY rfl rfl ZT (yZ T5 (i:=0) (by omega) hb ag9) (fun r wc h=>?_);obtain⟨⟨r,rfl,hr,WW,nH⟩,rfl⟩:=h;refine ah rfl rfl (ab (aZ ?_));refine dn (σ:=Nat×Int) (fun s=>[(0,.func (.yield yl) #[] #[]),(1,.pointer (some ⟨bl,0,none⟩)),(3,.int .i64 s.2)]) (fun s w=>(∃M1,J s.1 M1 w)∧Ra ws s.1 s.2∧ -1≤s.2∧s.2≤1099511627776∧s.1≤n) (fun s=>n+1-s.1) (0,r) (.cons rfl (.cons rfl (.cons rfl .nil))) ?_ ?_
 ·exact⟨⟨M,h0⟩,hr,WW,nH,bD _⟩
 ·clear hr WW nH;rintro⟨p,r⟩ w1 ⟨⟨M1,hJ⟩,hr,WW,nH,OF⟩;dsimp only at hJ hr WW nH OF ⊢;refine aj (aj (ae (ad rfl rfl (dY rfl rfl rfl (ad rfl rfl ?_)))));refine aR (g:=8) rfl (fun iH=>?_) (fun iH=>?_)
  ·refine al rfl rfl (ad rfl rfl (al rfl rfl (ad rfl rfl (al rfl rfl ?_))))
   have hrj:∃j:Nat,r=j∧p≤j∧bit ws j=true∧∀t,p≤t→t<j→bit ws t=false:=by
    rcases hr with h|h
    ·exact h
    ·omega
   obtain⟨j,rfl,Xb,ZV,kf⟩:=hrj;have JS:=hb j ZV;refine Rg.yield rfl (vs:=[.int .i64 j]) rfl rfl (hy p j M1 _ hJ Xb ZV kf) (fun r4 w5 h5=>?_);obtain⟨c,rfl,hc5,ZF⟩:=h5;refine aU (v':= .bool (decide (c=true))) (by simp) (a8 rfl rfl rfl (ab ?_));refine bI rfl (fun c1=>?_) (fun c1=>?_)
   ·obtain⟨M2,hJ2⟩:=hc5 c1;obtain⟨Ox,E4,aha⟩:=HQ _ _ _ hJ2;refine aT (aj (aZ (aT (ae (aP Tryz.underlying47 rfl rfl rfl (by assumption) rfl (ad rfl rfl (bC rfl rfl rfl (by omega) ?_)))))));refine aY rfl rfl ZT (yZ E4 (i:=(j:Int)+1) (by have:=E4.nn;omega) hb aha) (fun r wc h=>?_);obtain⟨⟨r2,rfl,ZW,hr3,hr4⟩,rfl⟩:=h;refine ah rfl rfl (ab ?_);refine⟨rfl,(j+1,r2),(.cons rfl (.cons rfl (.cons rfl .nil))),?_,?_⟩
    ·refine⟨⟨M2,hJ2⟩,?_,hr3,hr4,by simp only;omega⟩;rw[show((j:Int)+1).toNat=j+1 from by omega]at ZW;exact ZW
    ·simp only;omega
   ·refine cK ?_;change wR Tryz.prog Tryz.f154 (fun _ w'=>(∃p M',J p M' w'∧∀t,p≤t→bit ws t=false)∨Jx w') .normal _ [] _
    first
    |exact fU rfl (.inr (ZF (by simpa using c1)))
    |(have ql:∀t,p≤t→bit ws t=false:=by
       rcases hr with⟨j,h,_⟩|h
       ·omega
       ·exact h.2
      exact fU rfl (.inl ⟨p,M1,hJ,ql⟩))
  ·refine au rfl rfl rfl rfl (au rfl rfl rfl rfl (au rfl rfl rfl rfl (aE rfl rfl rfl (ab (jt rfl (cK ?_))))));change wR Tryz.prog Tryz.f154 (fun _ w'=>(∃p M',J p M' w'∧∀t,p≤t→bit ws t=false)∨Jx w') .normal _ [] _
   first
   |exact fU rfl (.inr (ZF (by simpa using c1)))
   |(have ql:∀t,p≤t→bit ws t=false:=by
      rcases hr with⟨j,h,_⟩|h
      ·omega
      ·exact h.2
     exact fU rfl (.inl ⟨p,M1,hJ,ql⟩))
end Go.K
namespace Go.K
open Go.Proofs
namespace TKSet2
theorem Eo:TI Tryz.prog 131 (.slice none 0 0) 1 24:=by unfold TI;kernel_rfl
theorem yY:TI Tryz.prog 190 (.int .u64 0) 1 8:=by unfold TI;kernel_rfl
theorem E24:Enters Tryz.prog 24:=enters Tryz.func24 rfl (by decide)
theorem E67:Enters Tryz.prog 67:=enters Tryz.func67 rfl (by decide)
end TKSet2
open TKSet2
set_option maxRecDepth 10000
theorem AZ {ws vs:List Nat} {n:Nat} (hl:ws.length=(n+63)/64) (hv:vs.length=(n+63)/64) (hr:0<n%64) (h1:∀j,j<64*ws.length→bit vs j= !bit ws j) (j:Nat):bit (vs.set (vs.length-1) (vs.getD (vs.length-1) 0%2^(n%64))) j=(decide (j<n)&& !bit ws j):=by
 rw[Bm _ (by omega)];by_cases hj:j/64=vs.length-1
 ·rw[if_pos hj,Nat.testBit_mod_two_pow];have h2:=h1 j (by omega);have h3:(vs.getD (vs.length-1) 0).testBit (j%64)=bit vs j:=by unfold bit;rw[hj]
  rw[h3,h2];congr 1;exact decide_eq_decide.2 (by omega)
 ·rw[if_neg hj];by_cases rG:j<n
  ·rw[h1 j (by omega),decide_eq_true rG,fc]
  ·rw[decide_eq_false rG,kM,O7 (by omega)]
theorem Ep {ws vs:List Nat} {n:Nat} (hl:ws.length=(n+63)/64) (hr:n%64=0) (h1:∀j,j<64*ws.length→bit vs j= !bit ws j) (h2:∀j,64*ws.length≤j→bit vs j=false) (j:Nat):bit vs j=(decide (j<n)&& !bit ws j):=by
 by_cases rG:j<n
 ·rw[h1 j (by omega),decide_eq_true rG,fc]
 ·rw[decide_eq_false rG,kM,h2 j (by omega)]
theorem JB {M:aD} {w0:World} {n:Nat} {ws:List Nat} {bs bw:Nat} (h:jK 133 190 n ws M w0 bs bw):
  Spec Tryz.prog 67 #[.pointer (some ⟨bs,0,none⟩)] w0 (fun v' w'=>∃os ow JT,v'= .pointer (some ⟨os,0,none⟩)∧w0.heap.size≤os∧w0.heap.size≤ow∧Step M w0 (ins (ins M ow) os) w' aC∧jK 133 190 n JT (ins (ins M ow) os) w' os ow∧∀j,bit JT j=(decide (j<n)&& !bit ws j)):=by
 have hS:=h.s;have hW:=h.w;have hlen:=h.len;have hok:=h.ok;have Ws:=h.nn;refine bm (args:=[_]) (fn:=Tryz.f67) Tryz.func67 rfl (n:=56) Tryz.ntmps67 (aj (ae (ah rfl rfl (ab (aj (ae (ad rfl rfl (bN rfl ⟨_,rfl⟩ rfl (bK iG rfl rfl I3 (by decide) rfl rfl (aP aw rfl rfl rfl (by assumption) rfl ?_))))))))));refine aY rfl rfl E24 (AY (M:=M) Ws) (fun r1 w1 h=>?_);obtain⟨os,ow,rfl,z1,z2,s1,hO1⟩:=h;obtain⟨M1,BS⟩:∃M1,M1=ins (ins M ow) os:=⟨_,rfl⟩;rw[←BS]at s1 hO1;have h1:=h.step s1 (fun h=>h) (fun h=>h);have hS1:=h1.s;have lbs:=ak hS;have lbw:=ak hW;refine ah rfl rfl (ab (aj (aj (ae (ad rfl rfl (bN rfl ⟨_,rfl⟩ rfl (bK iG rfl rfl Eo (by decide) rfl rfl (aP eY rfl rfl rfl (by assumption) rfl (Rg.mq eY rfl rfl (ad rfl rfl (ab ?_)))))))))));refine aZ ?_;refine dn (σ:=Nat×List Nat) (fun s=>[(0,.pointer (some ⟨bs,0,none⟩)),(3,.pointer (some ⟨os,0,none⟩)),(15,.slice (some ⟨bw,0,none⟩) ws.length ws.length),(16,.int .i64 ws.length),(17,.int .i64 s.1)]) (fun s w=>s.1≤ws.length∧jK 133 190 n ws M1 w bs bw∧jK 133 190 n s.2 M1 w os ow∧(∀j,j<64*s.1→bit s.2 j= !bit ws j)∧(∀j,64*s.1≤j→bit s.2 j=false)∧Step M1 w1 M1 w (fun b=>b=ow)) (fun s=>ws.length-s.1) (0,List.replicate ((n+63)/64) 0) (.cons rfl (.cons rfl (.cons rfl (.cons rfl (.cons rfl .nil))))) ?_ ?_
 ·exact⟨bD _,h1,hO1,fun j hj=>by omega,fun j hj=>CQ _ _,(ax _ _).cH (fun _ h=>h.elim) (fun b hb=>by rw[hb];exact hO1.mw)⟩
 ·rintro⟨k,vs⟩ w2 ⟨hk,h2,BU,uW,Aa,S2⟩;dsimp only at hk BU uW Aa ⊢;have hS2:=h2.s;have hOS:=BU.s;have jV:=BU.len;refine aj (ae (cg rfl rfl rfl (ab (aj ?_))));refine bI rfl (fun c3=>?_) (fun c3=>?_)
  ·refine aT (aj (aZ (aj (ae (ad rfl rfl (Rg.Fl eY yY rfl rfl rfl (by omega) (aP si rfl rfl rfl h2.w (v:= .int .u64 ((ws.getD (k) 0:Nat):Int)) (by rw[show((k:Int)).toNat=k from by omega];exact mn (by omega)) (ah rfl rfl (ah rfl rfl (ab (ae ?_)))))))))));refine ad rfl rfl (bN rfl ⟨_,rfl⟩ rfl (bK iG rfl rfl Eo (by decide) rfl rfl (aP eY rfl rfl rfl (by assumption) rfl (ad rfl rfl (ad rfl rfl (Rg.Xq rfl rfl (hok.get _) (Rg.Fl eY yY rfl rfl rfl (by omega) ?_)))))));refine cw (M:=M1) (u:= .int .u64 ((vs.getD k 0:Nat):Int)) yY rfl rfl BU.w (by rw[ay];exact mn (by omega)) rfl BU.mw (fun w5 hW5 s5=>?_);rw[ay,xT]at hW5;refine ab (ae (bC rfl rfl rfl (by omega) (ad rfl rfl (ab ?_))));refine⟨rfl,(k+1,vs.set k (2^64-1-ws.getD k 0)),(.cons rfl (.cons rfl (.cons rfl (.cons rfl (.cons rfl .nil))))),?_,?_⟩
   ·refine⟨by simp only;omega,h2.step s5 (by omega) (by omega),BU.put s5 (by simp) hW5 (BU.ok.set (by omega)),fun j hj=>?_,fun j hj=>?_,S2.trans s5 (fun _ _ h=>h)⟩
    ·simp only at hj ⊢;rw[Bm _ (by omega)];by_cases hjk:j/64=k
     ·rw[if_pos hjk,KP (hok.get _) (by omega)];unfold bit;rw[hjk]
     ·rw[if_neg hjk];exact uW j (by omega)
    ·simp only at hj ⊢;rw[Bm _ (by omega),if_neg (by omega)];exact Aa j (by omega)
   ·simp only;omega
  ·refine cK (aj (aj (ae (ad rfl rfl (bN rfl ⟨_,rfl⟩ rfl (bK iG rfl rfl I3 (by decide) rfl rfl (aP aw rfl rfl rfl (by assumption) rfl (Rg.zw rfl rfl rfl (by omega) (aU (v':= .int .i64 ((n%64:Nat):Int)) (congrArg _ (by omega)) (ah rfl rfl (ab ?_)))))))))));refine aj (ae (ad rfl rfl (iY rfl rfl rfl (ab ?_))));refine bI rfl (fun c8=>?_) (fun c8=>?_)
   ·have Hk:=Nat.two_pow_pos (n%64);have hp3:2^(n%64)<2^64:=Nat.pow_lt_pow_right (by decide) (by omega);apply T.CE (M:=M1) mixed [] [cT.eq _,cT.eq _,cT.eq _,cT.eq (.slice (some ⟨ow,0,none⟩) vs.length vs.length),cT.eq _,cT.eq _,cT.eq _,cT.eq (.slice (some ⟨ow,0,none⟩) vs.length vs.length),cT.eq (.int .i64 vs.length),cT.eq (.int .i64 ((vs.length-1:Nat):Int)),cT.eq (.pointer (some ⟨ow,((vs.length-1:Nat):Int).toNat,none⟩)),cT.eq (.int .u64 ((vs.getD (vs.length-1) 0:Nat):Int)),cT.eq _,cT.eq (.int .u64 ((2^(n%64):Nat):Int)),cT.eq (.int .u64 ((2^(n%64)-1:Nat):Int)),cT.eq (.int .u64 (((vs.getD (vs.length-1) 0%2^(n%64)):Nat):Int)),cT.eq (.pointer (some ⟨ow,((vs.length-1:Nat):Int).toNat,none⟩))] 17
    ·rfl
    ·rfl
    ·rfl
    ·rfl
    ·rfl
    ·exact fun p hp=>by cases hp
    ·exact vR.none
    ·refine aJ ?_ ?_
     ·intro wD E sD;refine ad rfl rfl ?_;exact ab ⟨rfl,rfl,_,rfl,rfl,ax _ _⟩
     refine aJ ?_ ?_
     ·intro wD E sD;refine aO (bN rfl ⟨_,rfl⟩ rfl ?_);exact ab ⟨rfl,rfl,_,rfl,rfl,ax _ _⟩
     refine aJ ?_ ?_
     ·intro wD E sD;refine aO (bK iG rfl rfl Eo (by decide) rfl rfl ?_);exact ab ⟨rfl,rfl,_,rfl,rfl,ax _ _⟩
     refine aJ ?_ ?_
     ·intro wD E sD;refine aO (aP eY rfl rfl rfl (de sD (by assumption)) rfl ?_);exact ab ⟨rfl,rfl,_,rfl,rfl,ax _ _⟩
     refine aJ ?_ ?_
     ·intro wD E sD;refine ad rfl rfl ?_;exact ab ⟨rfl,rfl,_,rfl,rfl,ax _ _⟩
     refine aJ ?_ ?_
     ·intro wD E sD;refine aO (bN rfl ⟨_,rfl⟩ rfl ?_);exact ab ⟨rfl,rfl,_,rfl,rfl,ax _ _⟩
     refine aJ ?_ ?_
     ·intro wD E sD;refine aO (bK iG rfl rfl Eo (by decide) rfl rfl ?_);exact ab ⟨rfl,rfl,_,rfl,rfl,ax _ _⟩
     refine aJ ?_ ?_
     ·intro wD E sD;refine aO (aP eY rfl rfl rfl (de sD (by assumption)) rfl ?_);exact ab ⟨rfl,rfl,_,rfl,rfl,ax _ _⟩
     refine aJ ?_ ?_
     ·intro wD E sD;refine aO (Rg.mq eY rfl rfl ?_);exact ab ⟨rfl,rfl,_,rfl,rfl,ax _ _⟩
     refine aJ ?_ ?_
     ·intro wD E sD;refine aO (fq rfl rfl rfl (by omega) (aU (v':= .int .i64 ((vs.length-1:Nat):Int)) (congrArg _ (by omega)) ?_));exact ab ⟨rfl,rfl,_,rfl,rfl,ax _ _⟩
     refine aJ ?_ ?_
     ·intro wD E sD;refine aO (aO (Rg.Fl eY yY rfl rfl rfl (by omega) ?_));exact ab ⟨rfl,rfl,_,rfl,rfl,ax _ _⟩
     refine aJ ?_ ?_
     ·intro wD E sD;refine aO (aP si rfl rfl rfl (sD.aM BU.w) (v:= .int .u64 ((vs.getD (vs.length-1) 0:Nat):Int)) (by rw[ay];exact mn (by omega)) ?_);exact ab ⟨rfl,rfl,_,rfl,rfl,ax _ _⟩
     refine aJ ?_ ?_
     ·intro wD E sD;refine ad rfl rfl ?_;exact ab ⟨rfl,rfl,_,rfl,rfl,ax _ _⟩
     refine aJ ?_ ?_
     ·intro wD E sD;refine aO (Rg.shl rfl rfl rfl (by omega) (aU (v':= .int .u64 ((2^(n%64):Nat):Int)) (congrArg _ (acP _ (by omega))) ?_));exact ab ⟨rfl,rfl,_,rfl,rfl,ax _ _⟩
     refine aJ ?_ ?_
     ·intro wD E sD;refine aO (Rg.SJ rfl rfl rfl (aU (v':= .int .u64 ((2^(n%64)-1:Nat):Int)) (congrArg _ (by rw[show((2^(n%64):Nat):Int)-1=((2^(n%64)-1:Nat):Int)from by omega,Bk,nL (by omega)])) ?_));exact ab ⟨rfl,rfl,_,rfl,rfl,ax _ _⟩
     refine aJ ?_ ?_
     ·intro wD E sD;refine aO (aO (Rg.and rfl rfl rfl (aU (v':= .int .u64 (((vs.getD (vs.length-1) 0%2^(n%64)):Nat):Int)) (congrArg _ (by rw[KL _ _ (BU.ok.get _) (by omega),Nat.and_two_pow_sub_one_eq_mod])) ?_)));exact ab ⟨rfl,rfl,_,rfl,rfl,ax _ _⟩
     refine aJ ?_ ?_
     ·intro wD E sD;refine aO (aO (aO (aO (aO (aO (aO (aO (aO (aO (aO (aO ?_)))))))))));refine aO (aO (aO (aO (aO (aO (Rg.Fl eY yY rfl rfl rfl (by omega) ?_))))));exact ab ⟨rfl,rfl,_,rfl,rfl,ax _ _⟩
     exact xg
    ·intro RU DY;refine aO (aO (aO (aO (aO (aO (aO (aO (aO (aO (aO (aO ?_)))))))))));refine aO (aO (aO (aO (aO ?_))));refine cw (M:=M1) (u:= .int .u64 ((vs.getD (vs.length-1) 0:Nat):Int)) yY rfl rfl (DY.aM BU.w) (by rw[ay];exact mn (by omega)) rfl BU.mw (fun w9 hW9 s9=>?_);rw[ay,xT]at hW9;refine ab (aj (ae (ad rfl rfl (ah rfl rfl (ab (aQ ?_))))));have Fb:k=ws.length:=by omega
     first
     |exact aV rfl rfl ⟨os,ow,vs.set (vs.length-1) (vs.getD (vs.length-1) 0%2^(n%64)),rfl,z1,z2,by rw[←BS];exact(s1.cj S2 (fun b hb=>by omega)).aB DY |>.cj s9 (fun b hb=>by omega),by rw[←BS];exact(BU.step DY (fun h=>h) (fun h=>h)).put s9 (by simp) hW9 (BU.ok.set (Nat.lt_of_le_of_lt (Nat.mod_le _ _) (BU.ok.get _))),fun j=>AZ hlen jV (by omega) (by rw[←Fb];exact uW) j⟩
     |exact aV rfl rfl ⟨os,ow,vs,rfl,z1,z2,by rw[←BS];exact s1.cj S2 (fun b hb=>by omega),by rw[←BS];exact BU,fun j=>Ep hlen (by omega) (by rw[←Fb];exact uW) (by rw[←Fb];exact Aa) j⟩
   ·refine aT (aj (ae (ad rfl rfl (ah rfl rfl (ab (aQ ?_))))));have Fb:k=ws.length:=by omega
    first
    |exact aV rfl rfl ⟨os,ow,vs.set (vs.length-1) (vs.getD (vs.length-1) 0%2^(n%64)),rfl,z1,z2,by rw[←BS];exact(s1.cj S2 (fun b hb=>by omega)).aB DY |>.cj s9 (fun b hb=>by omega),by rw[←BS];exact(BU.step DY (fun h=>h) (fun h=>h)).put s9 (by simp) hW9 (BU.ok.set (Nat.lt_of_le_of_lt (Nat.mod_le _ _) (BU.ok.get _))),fun j=>AZ hlen jV (by omega) (by rw[←Fb];exact uW) j⟩
    |exact aV rfl rfl ⟨os,ow,vs,rfl,z1,z2,by rw[←BS];exact s1.cj S2 (fun b hb=>by omega),by rw[←BS];exact BU,fun j=>Ep hlen (by omega) (by rw[←Fb];exact uW) (by rw[←Fb];exact Aa) j⟩
theorem JC {M:aD} {w0:World} {n:Nat} (hn:n≤1099511627776):
  Spec Tryz.prog 23 #[.int .i64 n] w0 (fun v' w'=>∃os ow JT M',v'= .pointer (some ⟨os,0,none⟩)∧w0.heap.size≤os∧w0.heap.size≤ow∧Step M w0 M' w' aC∧jK 133 190 n JT M' w' os ow∧∀j,bit JT j=decide (j<n)):=by
 refine bm (args:=[_]) (fn:=Tryz.f23) Tryz.func23 rfl (n:=6) Tryz.ntmps23 (aj (ae (ah rfl rfl (ab (aj (ae (ad rfl rfl ?_)))))));refine aY rfl rfl E24 (AY (M:=M) hn) (fun r1 w1 h=>?_);obtain⟨bs,bw,rfl,z1,z2,s1,h1⟩:=h;refine aY rfl rfl E67 (JB h1) (fun r2 w2 h=>?_);obtain⟨os,ow,JT,rfl,z3,z4,s2,h2,hb⟩:=h;have y1:=s1.size;refine ah rfl rfl (ab (aQ ?_));exact aV rfl rfl ⟨os,ow,JT,_,rfl,by omega,by omega,s1.aB s2,h2,fun j=>by rw[hb j,CQ];simp⟩
end Go.K
namespace Go.K
open Go.Proofs
namespace TKSet5
theorem ahg:Enters Tryz.prog 103:=enters Tryz.func103 rfl (by decide)
theorem ahh:Enters Tryz.prog 154:=enters Tryz.func154 rfl (by decide)
end TKSet5
open TKSet5
set_option maxRecDepth 10000
def low (ws:List Nat):Nat→List Int
 |0=>[]
 |p+1=>if bit ws p then low ws p++[(p:Int)]else low ws p
theorem H4 (ws:List Nat):∀p,(low ws p).length≤p
 |0=>aN _
 |p+1=>by
  have:=H4 ws p;unfold low;split
  ·simp;omega
  ·omega
theorem uh {ws:List Nat} {p:Nat}:∀{j:Nat},p≤j→(∀t,p≤t→t<j→bit ws t=false)→low ws j=low ws p
 |0,h,_=>by rw[show p=0 by omega]
 |j+1,h,kf=>by
  rcases ly h with e|h1
  ·rw[e]
  ·rw[low,kf j (by omega) (by omega)];simp only[Bool.false_eq_true,if_false];exact uh (by omega) (fun t h1 h2=>kf t h1 (by omega))
theorem BV (ws:List Nat):∀p x,x∈low ws p↔∃t:Nat,x=(t:Int)∧t<p∧bit ws t=true
 |0,x=>by simp[low]
 |p+1,x=>by
  have ih:=BV ws p x;unfold low;constructor
  ·intro h
   split at h
   ·rename_i hb
    rcases ch.1 h with h|h
    ·obtain⟨t,h1,h2,h3⟩:=ih.1 h;exact⟨t,h1,by omega,h3⟩
    ·rw[bJ.1 h];exact⟨p,rfl,by omega,hb⟩
   ·obtain⟨t,h1,h2,h3⟩:=ih.1 h;exact⟨t,h1,by omega,h3⟩
  ·rintro⟨t,h1,h2,h3⟩;rcases cG t p with h|h
   ·have:=ih.2 ⟨t,h1,h,h3⟩
    split
    ·exact ch.2 (.inl this)
    ·exact this
   ·have:t=p:=by omega
    subst this;rw[if_pos h3];exact ch.2 (.inr (by rw[h1];exact bJ.2 rfl))
theorem H5:BQ (RT.int .i64):=fun _ _ _ _ _ _ h=>h
structure J6 (n:Nat) (ws:List Nat) (bs bw bl:Nat) (M:aD) (w:World):Prop where
 f: ¬M bl∧¬M bs∧¬M bw∧¬M 1
 l:w.heap[bl]? =some (.cells #[.pointer (some ⟨bs,0,none⟩)] 47 (0,0))
 s:jK 133 190 n ws (fun _=>True) w bs bw
 t:∃e fr,w.heap[1]? =some (.cells (IC.map fun(k:Nat)=>Value.int .u8 (k:Int)).toArray e fr)
theorem J6.keeps {n:Nat} {ws:List Nat} {bs bw bl:Nat} {M M':aD} {w w':World} (h:J6 n ws bs bw bl M w) (l:Le M w M' w'):J6 n ws bs bw bl M' w':=by
 obtain⟨⟨f1,f2,f3,f4⟩,hl,hs,e,fr,ht⟩:=h;have a1:=l bl (ak hl) f1;have a2:=l bs (ak hs.s) f2;have a3:=l bw (ak hs.w) f3;have a4:=l 1 (ak ht) f4;exact⟨⟨a1.1,a2.1,a3.1,a4.1⟩,a1.2.trans hl,⟨trivial,trivial,hs.ne,a2.2.trans hs.s,a3.2.trans hs.w,hs.len,hs.ok,hs.nn⟩,e,fr,a4.2.trans ht⟩
theorem GP {M:aD} {w0:World} {n:Nat} {ws:List Nat} {bs bw:Nat} (hM:Lt M w0) (h:jK 133 190 n ws (fun _=>True) w0 bs bw) (hb:∀j,bit ws j=true→j<n) (hf: ¬M bs∧¬M bw∧¬M 1) (GN:∃e fr,w0.heap[1]? =some (.cells (IC.map fun(k:Nat)=>Value.int .u8 (k:Int)).toArray e fr)):
  Spec Tryz.prog 57 #[.pointer (some ⟨bs,0,none⟩)] w0 (fun v w=>∃M',Own (RT.int .i64) 3 M' w w0.heap.size v (low ws n)∧Step M w0 M' w aC):=by
 have kR:=hM;refine qn (args:=[_]) (fn:=Tryz.f57) Tryz.func57 rfl (n:=13) Tryz.ntmps57 ?_;have S:Step M w0 M w0 aC:=(ax _ _).cH (fun _ h=>h.elim) (fun _ h=>h.elim);refine aj (ae (ah rfl rfl (ab (aj (ae ?_)))));refine eE M kD rfl (fun mz C2 TW TX jW nv=>?_);obtain⟨lu,mA⟩:∃M',M'=ins M mz:=⟨_,rfl⟩;rw[←mA]at nv;have iI:lu mz:=by rw[mA];exact .inl rfl
 change C2.heap[mz]? =some (.cells #[.slice none 0 0] _ _)at jW;replace hM:=nv.lt hM;have:=S.size;replace S:=S.aB nv;refine ab (aj (aj (ae (ad rfl rfl ?_))));refine aY rfl rfl ahg (JA (bs:=bs) hM) (fun r2 w2 hc=>?_);obtain⟨bl,rfl,gl,kE,s2⟩:=hc;have fl: ¬lu bl:=fun h=>by have:=hM _ h;omega
 have hk:J6 n ws bs bw bl lu w2:=by
  obtain⟨e,fr,ht⟩:=GN;have q:=S.aB s2;exact⟨⟨fl,fun hn=>hf.1 ((q.mem _ (ak h.s)).1 hn),fun hn=>hf.2.1 ((q.mem _ (ak h.w)).1 hn),fun hn=>hf.2.2 ((q.mem _ (ak ht)).1 hn)⟩,gl,⟨trivial,trivial,h.ne,q.aM h.s,q.aM h.w,h.len,h.ok,h.nn⟩,e,fr,q.aM ht⟩
 have:=ak jW;replace iI:=(s2.mem _ this).2 iI;replace jW:=s2.aM jW;replace hM:=s2.lt hM;have:=S.size;replace S:=S.aB s2;refine ab (aZ ?_);refine T.range (gf:=154) (lb:=[.pointer (some ⟨bl,0,none⟩)].toArray) rfl ahh (fun rec pS=>?_);obtain⟨D,hD⟩:∃D,D=w2.heap.size:=⟨_,rfl⟩;obtain⟨Mr,h0⟩:=agO (A:=RT.int .i64) (e:=3) (T:=37) (C:=284) (K:=J6 n ws bs bw bl) (st:=rec .ready none) J6.keeps hM S jW iI hk (by omega);rw[←hD]at pS h0 ⊢;refine Spec.mono (GO (M:=fun _=>True) (J:=fun p Ma w=>Ma=(fun _=>True)∧∃M' vo,Nx (RT.int .i64) 3 37 284 (J6 n ws bs bw bl) M w0 mz D (rec .ready none) vo (low ws p) M' w) (Jx:=fun _=>False) hb (fun p Ma w ⟨e,M',vo,h⟩=>by subst e;exact⟨h.k.l,h.k.s,h.k.t⟩) (fun p j Ma wr hJ Xb ZV kf=>?_) ⟨rfl,Mr,_,h0⟩) (fun _ w3 h3=>?_)
 ·obtain⟨_,M',vo,h⟩:=hJ;have JS:=hb j ZV;have Ws:=h.k.s.nn;have Ik:=H4 ws p;refine nT (ps:=[7]) (vs:=[.int .i64 (j:Int)]) pS h.r rfl (by decide) (ae (ah rfl rfl (ab ?_)));refine⟨rfl,h.r,?_⟩;have h4:=h.o8 J6.keeps (st':=rec .busy none);have s4:Step M' wr M' (wr.putObj (D+1) (.loop (rec .busy none))) (fun k=>k=D+1):=eC h.mr;generalize wr.putObj (D+1) _=w4 at h4 s4 ⊢;refine aZ (ae (aP aq rfl rfl rfl h4.o rfl (aU (v':=vo) rfl (ad rfl rfl ?_))));refine ep (A:=RT.int .i64) (hn:=by decide) (M:=M') aq I3 (by decide) rfl rfl h4.lt (xz.2 ⟨rfl,by show-9223372036854775808≤(j:Int)∧(j:Int)≤9223372036854775807;omega⟩) (.inr ⟨rfl,rfl⟩) (fun u5 w5 jy s5=>?_);have h6:=h4.aL J6.keeps s5;refine dd (M:=M') (base:=w0.heap.size) aq I3 rfl rfl rfl rfl h6.own jy (ao _ _) (by simp;omega) (by simp;omega) h6.S.size (fun v6 M6 w6 tO s6=>?_);obtain⟨⟨go6,mo6⟩,JR⟩:=h6.grow J6.keeps (by decide) s6 tO;refine cw (M:=M6) kD rfl rfl go6 rfl (by obtain⟨_,_,he,_⟩:=tO.isSlice;rw[he];rfl) mo6 (fun w7 g7 s7=>?_);refine ab ?_;have h8:=(JR s7 g7).o8 J6.keeps (st':=rec .ready none);exact⟨(JR s7 g7).r,true,rfl,fun _=>⟨_,rfl,M6,v6,by rw[low,if_pos ZV,uh Xb kf];exact h8⟩,fun h=>by cases h⟩
 ·obtain⟨p,_,⟨_,M',vo,h⟩,ql⟩:=h3.resolve_right id;left;refine⟨h.r,?_⟩;have h5:=h.o8 J6.keeps (st':=rec .exhausted none);generalize w3.putObj (D+1) _=wE at h5 ⊢;refine aj (ae (aP aq rfl rfl rfl h5.o rfl (aU (v':=vo) rfl (ah rfl rfl (ab (aQ ?_))))));have sE:Step M' wE M' (wE.putObj D (.deferred none)) (fun k=>k=D):=eC h5.md;have hz:=h5.z;have hS:=h5.S.cj sE (fun k (hk:k=D)=>by omega)
  have ho:=h5.own.step sE (fun b hb (hn:b=D)=>by
   obtain⟨cs,hc⟩:=h5.own.isCells hb;rw[hn,h5.d]at hc;cases hc)
  have e:low ws n=low ws p:=by
   rcases Nat.le_total p n with h1|h1
   ·exact uh h1 (fun t h2 _=>ql t h2)
   ·exact(uh h1 (fun t h2 _=>by
     cases P5:bit ws t with
     |false=>rfl
     |true=>have:=hb t P5;omega)).symm
  exact Bf rfl rfl h5.d ⟨M',by rw[e];exact ho,hS⟩
end Go.K
namespace Go.K
open Go.Proofs
namespace TKMay11
theorem J7:TI Tryz.prog 25 (.pointer none) 1 8:=by unfold TI;kernel_rfl
theorem Qu:TI Tryz.prog 47 (.pointer none) 1 8:=by unfold TI;kernel_rfl
theorem VF:Enters Tryz.prog 34:=enters Tryz.func34 rfl (by decide)
theorem ahi:Enters Tryz.prog 102:=enters Tryz.func102 rfl (by decide)
end TKMay11
open TKMay11
set_option maxRecDepth 10000
def GQ (M:aD) (w:World) (n:Nat) (ws:List Nat) (bs:Nat):Prop:=∃bw,jK 133 190 n ws (fun _=>True) w bs bw∧¬M bs∧¬M bw
theorem GQ.le {M M':aD} {w w':World} {n:Nat} {ws:List Nat} {bs:Nat} (hl:Le M w M' w') (h:GQ M w n ws bs):GQ M' w' n ws bs:=by
 obtain⟨bw,h1,h2,h3⟩:=h;obtain⟨a1,a2⟩:=hl bs (ak h1.s) h2;obtain⟨b1,b2⟩:=hl bw (ak h1.w) h3;exact⟨bw,⟨trivial,trivial,h1.ne,a2.trans h1.s,b2.trans h1.w,h1.len,h1.ok,h1.nn⟩,a1,b1⟩
theorem GQ.all {M:aD} {w:World} {n:Nat} {ws:List Nat} {bs:Nat} (h:GQ M w n ws bs):∃bw,jK 133 190 n ws (fun _=>True) w bs bw:=by
 obtain⟨bw,h1,_⟩:=h;exact⟨bw,h1⟩
def Er (M:aD) (w:World) (a:List Bool) (bs:Nat):Prop:=∃ws,GQ M w a.length ws bs∧∀j,bit ws j=true↔a[j]? =some true
theorem Er.le {M M':aD} {w w':World} {a:List Bool} {bs:Nat} (hl:Le M w M' w') (h:Er M w a bs):Er M' w' a bs:=by
 obtain⟨ws,h1,h2⟩:=h;exact⟨ws,h1.le hl,h2⟩
theorem xw (ws:List Nat):∀p,(low ws p).Pairwise (· < ·)
 |0=>List.Pairwise.nil
 |p+1=>by
  unfold low
  split
  ·refine ke.2 ⟨xw ws p,by simp,fun a ha b hb=>?_⟩;obtain⟨t,rfl,ht,_⟩:=(BV ws p a).1 ha;rw[bJ.1 hb];omega
  ·exact xw ws p
theorem GR {ws:List Nat} {a:List Bool} (h:∀j,bit ws j=true↔a[j]? =some true):low ws a.length=gq a:=by
 refine tR (R:=fun a b=>a<b) (fun a b h1 h2=>by omega) (xw _ _) (ud _) ((xw _ _).imp fun h e=>by omega) ((ud _).imp fun h e=>by omega) fun x=> ?_
 rw[BV,kZ];constructor
 ·rintro⟨t,rfl,_,h2⟩;exact⟨t,rfl,(h t).1 h2⟩
 ·rintro⟨t,rfl,h2⟩;exact⟨t,rfl,(an.1 h2).1,(h t).2 h2⟩
theorem Es {M:aD} {w0:World} {a:List Bool} {bs:Nat} (hM:Lt M w0) (h:Er M w0 a bs) (h0: ¬M 1) (GN:∃e fr,w0.heap[1]? =some (.cells (IC.map fun(k:Nat)=>Value.int .u8 (k:Int)).toArray e fr)):Spec Tryz.prog 57 #[.pointer (some ⟨bs,0,none⟩)] w0 (fun v w=>((RT.int .i64).sl).V M w (gq a) v∧Step M w0 M w aC):=by
 obtain⟨ws,⟨bw,h1,h2,h3⟩,h4⟩:=h;refine(GP hM h1 (fun j hj=>(an.1 ((h4 j).1 hj)).1) ⟨h2,h3,h0⟩ GN).mono fun v w ⟨M',ho,s⟩=>?_
 rw[GR h4]at ho;exact ho.GD H5 s (aN _) hM (by have:=vB a;have:=h1.nn;omega)
theorem GS {M:aD} {ss:List Se} {bs ns:List Nat} {v0 v1:Value} (w0:World) (hs:(((RT.se).ptr).sl).V M w0 ss v0) (hb:(RT.JU.sl).V M w0 bs v1) (hl:bs.length=ss.length) (hn:ns.length=ss.length) (cM:∀(i b n:Nat),bs[i]? =some b→ns[i]? =some n→∃ws,GQ M w0 n ws b):
  Spec Tryz.prog 56 #[v0,v1] w0 (fun v w=>v= .bool (decide (ss.map (fun s=>s.1.length)=ns))∧w=w0):=by
 have hlen:=ej hs;refine bm (args:=[_,_]) (fn:=Tryz.f56) Tryz.func56 rfl (n:=39) Tryz.ntmps56 (aj (ae (ah rfl rfl (ab (aj (aj (ae (ad rfl rfl (bQ eT rfl hs rfl (ad rfl rfl (bQ Tryz.underlying49 rfl hb rfl ?_)))))))))));refine fD rfl rfl rfl (ab (T.wO rfl ((fun h=>h (by rw[hl]))) (aT (aj (aj (ae (ad rfl rfl (bQ eT rfl hs rfl (ad rfl rfl (ab (aZ ?_)))))))))));refine dn (σ:=Nat) (fun i=>[(1,v1),(12,v0),(13,.int .i64 (ss.length:Int)),(14,.int .i64 (i:Int))]) (fun i w=>i≤ss.length∧(∀(j:Nat),j<i→∀(s:Se) (n:Nat),ss[j]? =some s→ns[j]? =some n→s.1.length=n)∧w=w0) (fun i=>ss.length-i) 0 (.cons rfl (.cons rfl (.cons rfl (.cons rfl .nil)))) ?_ ?_
 ·exact⟨bD _,(fun j h=>by omega),rfl⟩
 ·rintro i w ⟨hi,il,rfl⟩;refine aj (ae (cg rfl rfl rfl (ab (aj ?_))));refine bI rfl (fun c4=>?_) (fun c4=>?_)
  ·refine aT (aj (aZ (aj (ae (ad rfl rfl ?_)))));obtain⟨s,IY⟩:∃s,ss[i]? =some s:=⟨_,ar (by omega)⟩;refine cF (M:=M) eT J7 rfl rfl rfl hs (ao _ _) (by omega) (fun u5 x_ kA jy=>?_);rw[ay]at kA;obtain rfl:=aH (IY.symm.trans kA);refine bR (M:=M) jf rfl rfl rfl rfl rfl jy (ao _ _) (fun v5 qf=>?_);have ZX:=nf.1 qf;obtain⟨a5,rfl⟩:=ZX.ij;refine ah rfl rfl (ah rfl rfl (ab (aj (ae (ad rfl rfl (Rg.CL jf rfl ⟨_,rfl⟩ rfl rfl (ad rfl rfl (al rfl rfl (ad rfl rfl (al rfl rfl (ad rfl rfl ?_)))))))))));refine al rfl rfl ?_;obtain⟨b,Rf⟩:∃b,bs[i]? =some b:=⟨_,ar (by omega)⟩;refine cF (M:=M) Tryz.underlying49 Qu rfl rfl rfl hb (ao _ _) (by omega) (fun u6 x_ kA IN=>?_);rw[ay]at kA;obtain rfl:=aH (Rf.symm.trans kA);refine al rfl rfl ?_;refine bR (M:=M) Tryz.underlying47 rfl rfl rfl rfl rfl IN (ao _ _) (fun vb J2=>?_);obtain rfl:=Hn.1 J2;refine al rfl rfl (Rg.CL Tryz.underlying47 rfl ⟨_,rfl⟩ rfl rfl (aE rfl rfl rfl (ad rfl rfl (al rfl rfl (ad rfl rfl (al rfl rfl (ad rfl rfl (al rfl rfl ?_))))))));refine cF (M:=M) Tryz.underlying49 Qu rfl rfl rfl hb (ao _ _) (by omega) (fun aqK x_ kA ZY=>?_);rw[ay]at kA;obtain rfl:=aH (Rf.symm.trans kA);refine al rfl rfl ?_;refine bR (M:=M) Tryz.underlying47 rfl rfl rfl rfl rfl ZY (ao _ _) (fun vb2 ahj=>?_);obtain rfl:=Hn.1 ahj;refine al rfl rfl ?_;obtain⟨nn,Q4⟩:∃n,ns[i]? =some n:=⟨_,ar (by omega)⟩;obtain⟨ws,QZ⟩:=cM i b nn Rf Q4;obtain⟨bw,hsa⟩:=QZ.all;refine aY rfl rfl ahi (Jz hsa) (fun r6 w6 hc=>?_);obtain⟨rfl,rfl⟩:=hc;refine al rfl rfl (ad rfl rfl (al rfl rfl ?_));refine aY rfl rfl VF (vv _ ZX) (fun r7 w7 hc=>?_)
   obtain⟨rfl,rfl⟩:=hc;refine al rfl rfl (fD rfl rfl rfl (aE rfl rfl rfl (ab ?_)));refine bI rfl (fun c6=>?_) (fun c6=>?_)
   ·refine aj (ae (ah rfl rfl (ab (aQ ?_))))
    exact aV rfl rfl ⟨congrArg Value.bool (dH (decide_eq_false fun h=>c6 (by
     have h1:=congrArg (·[i]?) h;rw[br,IY,Q4]at h1;have h9:s.1.length=nn:=aH h1;omega))),rfl⟩
   ·refine aT (ae (bC rfl rfl rfl (by omega) (ad rfl rfl (ab ?_))));refine⟨rfl,i+1,(.cons rfl (.cons rfl (.cons rfl (.cons rfl .nil)))),?_,?_⟩
    ·refine⟨by omega,fun j hj s' n' h1 h2=>?_,rfl⟩;rcases cG j i with h|h
     ·exact il j h s' n' h1 h2
     ·obtain rfl:j=i:=by omega
      rw[IY]at h1;rw[Q4]at h2;cases h1;cases h2;omega
    ·omega
  ·refine cK (aj (ae (ah rfl rfl (ab (aQ ?_)))))
   exact aV rfl rfl ⟨congrArg Value.bool (dH (decide_eq_true (by
    apply fp;intro j;rw[br];rcases cG j ss.length with h|h
    ·obtain⟨s,hs⟩:∃s,ss[j]? =some s:=⟨_,ar h⟩;obtain⟨n,IZ⟩:∃n,ns[j]? =some n:=⟨_,ar (by omega)⟩;rw[hs,IZ,cW,il j (by omega) s n hs IZ]
    ·rw[dx h,dx (by omega)];rfl))),rfl⟩
end Go.K
namespace Go.K
open Go.Proofs
set_option maxRecDepth 10000
theorem Qv {M:aD} {w:World} {x:Po} {v:Value} (h:RT.po.V M w x v):∃u,v= .agg #[.int .i64 x.1,u]∧((RT.int .i64).sl).V M w x.2 u∧(-9223372036854775808≤x.1∧x.1≤9223372036854775807):=by
 obtain⟨vs,⟨va,vb,rfl,⟨rfl,hk⟩,hb⟩,rfl⟩:=h;obtain⟨a,cap,rfl,h2⟩:=hb;exact⟨.slice a x.2.length cap,rfl,⟨_,⟨a,cap,rfl,h2⟩,rfl⟩,hk⟩
theorem ZZ {M:aD} {w:World} {x:Int} {ps:List Int} {u:Value} (hx: -9223372036854775808≤x∧x≤9223372036854775807) (hu:((RT.int .i64).sl).V M w ps u):RT.po.V M w (x,ps) (.agg #[.int .i64 x,u]):=fe (fY hx) hu rfl rfl rfl rfl
theorem GU {M:aD} {l:List Po} {to:List Int} {v0 v1:Value} (w0:World) (hM:Lt M w0) (hv:(RT.po.sl).V M w0 l v0) (ht:((RT.int .i64).sl).V M w0 to v1) (hl:l.length≤1000000) (ku:∀p∈l,0≤p.1∧p.1<to.length):
  Spec Tryz.prog 63 #[v0,v1] w0 (fun v w=>∃M',Own RT.po 83 M' w w0.heap.size v (k3 to l)∧Lt M' w∧Step M w0 M' w aC):=by
 have kR:=hM;refine bm (args:=[_,_]) (fn:=Tryz.f63) Tryz.func63 rfl (n:=33) Tryz.ntmps63 ?_;have S:Step M w0 M w0 aC:=(ax _ _).cH (fun _ h=>h.elim) (fun _ h=>h.elim);refine aj (ae (ah rfl rfl (ab (aj (ae (ah rfl rfl (ab (aj (aj (ae (ad rfl rfl ?_)))))))))));refine bQ bA rfl hv rfl (ad rfl rfl (ab (aZ ?_)));refine dn (σ:=Nat×Value) (fun q=>[(1,v1),(5,q.2),(8,v0),(9,.int .i64 (l.length:Int)),(10,.int .i64 (q.1:Int))]) (fun q w=>q.1≤l.length∧∃M1,Lt M1 w∧(RT.po.sl).V M1 w l v0∧((RT.int .i64).sl).V M1 w to v1∧Own RT.po 83 M1 w w0.heap.size q.2 (k3 to (l.take q.1))∧Step M w0 M1 w aC) (fun q=>l.length-q.1) (0,.slice none 0 0) (.cons rfl (.cons rfl (.cons rfl (.cons rfl (.cons rfl .nil))))) ?_ ?_
 ·exact⟨bD _,_,hM,hv,ht,dD _ _ _ _ _,S⟩
 ·clear hM hv ht S;rintro⟨i,u⟩ w ⟨hi,M1,hM,hv,ht,ho,S⟩;dsimp only at hi ho ⊢;have jU:=fun b hb=>(ho.base b hb).2
  refine aj (ae (cg rfl rfl rfl (ab (aj ?_))));refine bI rfl (fun c3=>?_) (fun c3=>?_)
  ·refine aT (aj (aZ (aj (ae ?_))));obtain⟨p,hk⟩:∃p,l[i]? =some p:=⟨_,ar (by omega)⟩;obtain⟨hp0,rH⟩:=ku p (az hk);have Rp:l.take (i+1)=l.take i++[p]:=by rw[bV,hk];rfl
   have qj:=tf to (l.take i);have aqM:(l.take i).length=i:=by rw[bg];omega
   refine cF (M:=M1) bA nW rfl rfl rfl hv (ao _ _) (by omega) (fun u40 y Z0 ahk=>?_);rw[ay]at Z0;obtain rfl:=aH (hk.symm.trans Z0);refine cN (M:=M1) (A:=RT.po) bS rfl nW (by decide) rfl rfl rfl ahk (ao _ _) (fun v41 xc=>?_);obtain⟨ux,rfl,EY,hpr⟩:=Qv xc;obtain⟨ua,uc,rfl,_,_,_⟩:=iB.1 EY;refine eE M1 nW rfl (fun Qw KW aqN aqO lU lC=>?_);obtain⟨uj,NN⟩:∃M',M'=ins M1 Qw:=⟨_,rfl⟩;rw[←NN]at lC;have nB:uj Qw:=by rw[NN];exact .inl rfl
   change KW.heap[Qw]? =some (.cells #[.int .i64 0,.slice none 0 0] _ _)at lU;replace hv:=hv.le lC.le;replace ht:=ht.le lC.le;replace xc:=xc.le lC.le;replace EY:=EY.le lC.le;replace ho:=ho.aL lC;replace hM:=lC.lt hM;have:=S.size;replace S:=S.aB lC;refine eG (M:=uj) (vs:=[.int .i64 p.1,.slice ua p.2.length uc]) nW rfl rfl (BH rfl xc) rfl rfl lU nB (fun w43 g43 Qx=>?_);have:=ak lU;replace nB:=(Qx.mem _ this).2 nB;replace hv:=hv.le Qx.le;replace ht:=ht.le Qx.le;replace xc:=xc.le Qx.le;replace EY:=EY.le Qx.le;replace ho:=ho.step Qx (fun b hb hk=>by have hk:b=Qw:=hk;have:=jU b hb;omega);replace hM:=Qx.lt hM;have:=S.size;replace S:=S.trans Qx (fun k hk h=>by have h:_=_:=h;subst h;first|(exfalso;omega)|(show _≤_;omega)|exact⟨by first|omega|assumption,(S.mem _ hk).1 ((Qx.mem _ (ak lU)).1 nB)⟩|exact .inl rfl|exact .inr rfl|exact .inr (.inl rfl)|exact .inr (.inr rfl)|exact .inr (.inr (.inl rfl))|exact rfl);have Sf:=g43;clear lU;have lU:=Sf;clear Sf;refine ab (aj (ae (ad rfl rfl (bK (o':=0) bS rfl rfl I3 (by decide) rfl rfl (aP aw rfl rfl rfl lU rfl (aU (v':= .int .i64 p.1) rfl ?_))))));refine cF (M:=uj) aq I3 rfl rfl rfl ht (ao _ _) (by omega) (fun u53 x53 ahl ahm=>?_);refine bR (M:=uj) aw rfl rfl rfl rfl rfl ahm (ao _ _) (fun v53 ahn=>?_);obtain⟨rfl,aqR⟩:=xz.1 ahn;obtain rfl:to.getD p.1.toNat 0=x53:=by rw[aA,ahl];rfl
   refine dY rfl rfl rfl (ab ?_);refine bI rfl (fun c5=>?_) (fun c5=>?_)
   ·apply T.pH 9 [0] 1 aC mixed rfl rfl rfl rfl;intro wD6 sA6;have GV:=sA6 uj;have:=ak lU;replace nB:=(GV.mem _ this).2 nB;replace lU:=GV.aM lU;replace hv:=hv.le GV.le;replace ht:=ht.le GV.le;replace xc:=xc.le GV.le;replace EY:=EY.le GV.le;replace ho:=ho.aL GV;replace hM:=GV.lt hM;have:=S.size;replace S:=S.aB GV;refine ad rfl rfl ?_;refine ab ⟨rfl,rfl,rfl,?_⟩;refine ad rfl rfl ?_;refine ab ⟨rfl,rfl,rfl,?_⟩;refine bK (o':=0) bS rfl rfl I3 (by decide) rfl rfl ?_;refine ab ⟨rfl,rfl,rfl,?_⟩;refine aP aw rfl rfl rfl lU rfl (aU (v':= .int .i64 p.1) rfl ?_);refine ab ⟨rfl,rfl,rfl,?_⟩;refine cF (M:=uj) aq I3 rfl rfl rfl ht (ao _ _) (by omega) (fun u64 x64 ahp ahq=>?_);refine ab ⟨rfl,rfl,rfl,?_⟩;refine bR (M:=uj) aw rfl rfl rfl rfl rfl ahq (ao _ _) (fun v64 ahr=>?_);obtain⟨rfl,ahs⟩:=xz.1 ahr;obtain rfl:to.getD p.1.toNat 0=x64:=by rw[aA,ahp];rfl
    refine ab ⟨rfl,rfl,rfl,?_⟩;refine bK (o':=1) bS rfl rfl kD (by decide) rfl rfl ?_;refine ab ⟨rfl,rfl,rfl,?_⟩;refine aP aq rfl rfl rfl lU rfl (aU (v':= .slice ua p.2.length uc) rfl ?_);refine ab ⟨rfl,rfl,rfl,?_⟩;refine iS (places:=[(0,1),(1,1)]) bS nW Xu rfl ⟨_,_,rfl,rfl,_,_,rfl,rfl,rfl⟩ (out:=[_,_]) ⟨0,[_],rfl,rfl,by simp[Value.cells],1,[_],rfl,rfl,by simp[Value.cells],rfl⟩ ?_;refine ab ⟨rfl,rfl,rfl,?_⟩;refine eZ ?_;refine⟨iA ⟨eS,trivial⟩,?_⟩;have kp:=jG aC wD6;refine ep (A:=RT.po) (hn:=by decide) (M:=uj) bA nW (by decide) rfl rfl hM (ZZ (ps:=p.2) ahs EY) (.inl rfl) (fun aqT aqU NO BW=>?_);have:=ak lU;replace nB:=(BW.mem _ this).2 nB;replace lU:=BW.aM lU;replace hv:=hv.le BW.le;replace ht:=ht.le BW.le;replace xc:=xc.le BW.le;replace EY:=EY.le BW.le;replace ho:=ho.aL BW;replace hM:=BW.lt hM;have:=S.size;replace S:=S.aB BW;refine(fun(kp:eN _ _ _)=>ab ⟨rfl,rfl,fun _=>kp,?_⟩) (by first|exact kp|exact kp.rF (by assumption)|exact kp.goN (by assumption)|exact kp.go (by assumption) (fun _ _ h=>by first|exact h|exact h.elim));refine dd (M:=uj) (base:=w0.heap.size) bA nW rfl rfl rfl rfl ho NO (ao _ _) (by show _+1≤_;omega) (by show(_+1)*_≤_;omega) (S.size) (fun Z1 alL alM VG uk=>?_);have:=ak lU;replace nB:=(uk.mem _ this).2 nB;replace lU:=uk.keep lU (fun h=>by have:=jU _ h;omega);replace hv:=hv.le uk.le;replace ht:=ht.le uk.le;replace xc:=xc.le uk.le;replace EY:=EY.le uk.le;replace NO:=NO.le uk.le;replace hM:=uk.lt hM;have:=S.size;replace S:=S.dg uk ho (aN _);replace ho:=VG;refine ab ⟨rfl,rfl,fun h=>absurd rfl h,?_⟩;refine ah rfl rfl ?_;refine ab ⟨rfl,rfl,fun h=>absurd rfl h,?_⟩;refine mM (ae (bC rfl rfl rfl (by omega) (ad rfl rfl (ab ?_))))
    refine⟨rfl,(i+1,Z1),(.cons rfl (.cons rfl (.cons rfl (.cons rfl (.cons rfl .nil))))),?_,?_⟩
    ·exact⟨by dsimp only;omega,_,hM,hv,ht,by dsimp only;rw[Rp,yV,if_pos c5];exact ho,S⟩
    ·dsimp only;omega
   ·refine aT (ae (bC rfl rfl rfl (by omega) (ad rfl rfl (ab ?_))));refine⟨rfl,(i+1,u),(.cons rfl (.cons rfl (.cons rfl (.cons rfl (.cons rfl .nil))))),?_,?_⟩
    ·exact⟨by dsimp only;omega,_,hM,hv,ht,by dsimp only;rw[Rp,yV,if_neg c5];exact ho,S⟩
    ·dsimp only;omega
  ·refine cK (aj (ae (ad rfl rfl (ah rfl rfl (ab (aQ ?_))))));rw[aW (by omega)]at ho;exact aV rfl rfl ⟨_,ho,hM,S⟩
end Go.K
namespace Go.Proofs
open Go.Shelf
def Tryz.GW:Go.Shelf.Ren:=⟨fun|6=>64|15=>115|14=>114|28=>172|29=>173|20=>164|21=>165|22=>166|23=>167|24=>168|25=>169|26=>170|27=>171|46=>217|47=>218|48=>219|49=>220|50=>221|57=>262|n=>n,fun|22=>80|24=>83|25=>129|3=>3|39=>189|0=>0|53=>257|55=>190|4=>4|46=>251|45=>250|50=>202|5=>5|9=>9|66=>296|70=>300|76=>327|77=>328|n=>n,fun|n=>n⟩
theorem Tryz.VH:Go.Proofs.SlLaysF0.n6 Tryz.prog Tryz.GW:={
 mixed:=by kernel_rfl
 f6:=⟨Tryz.f64.name,by decide,Tryz.func64.trans (congrArg some (by kernel_rfl))⟩
 f14:=⟨Tryz.f114.name,by decide,Tryz.func114.trans (congrArg some (by kernel_rfl))⟩
 f15:=Tryz.func115.trans (congrArg some (by kernel_rfl))
 f20:=⟨Tryz.f164.name,by decide,Tryz.func164.trans (congrArg some (by kernel_rfl))⟩
 f21:=⟨Tryz.f165.name,by decide,Tryz.func165.trans (congrArg some (by kernel_rfl))⟩
 f22:=⟨Tryz.f166.name,by decide,Tryz.func166.trans (congrArg some (by kernel_rfl))⟩
 f23:=⟨Tryz.f167.name,by decide,Tryz.func167.trans (congrArg some (by kernel_rfl))⟩
 f24:=⟨Tryz.f168.name,by decide,Tryz.func168.trans (congrArg some (by kernel_rfl))⟩
 f25:=⟨Tryz.f169.name,by decide,Tryz.func169.trans (congrArg some (by kernel_rfl))⟩
 f26:=⟨Tryz.f170.name,by decide,Tryz.func170.trans (congrArg some (by kernel_rfl))⟩
 f27:=⟨Tryz.f171.name,by decide,Tryz.func171.trans (congrArg some (by kernel_rfl))⟩
 f28:=Tryz.func172.trans (congrArg some (by kernel_rfl))
 f29:=Tryz.func173.trans (congrArg some (by kernel_rfl))
 f46:=⟨Tryz.f217.name,by decide,Tryz.func217.trans (congrArg some (by kernel_rfl))⟩
 f47:=Tryz.func218.trans (congrArg some (by kernel_rfl))
 f48:=Tryz.func219.trans (congrArg some (by kernel_rfl))
 f49:=⟨Tryz.f220.name,by decide,Tryz.func220.trans (congrArg some (by kernel_rfl))⟩
 f50:=⟨Tryz.f221.name,by decide,Tryz.func221.trans (congrArg some (by kernel_rfl))⟩
 f57:=⟨Tryz.f262.name,by decide,Tryz.func262.trans (congrArg some (by kernel_rfl))⟩
 t0:=fJ
 a0:=lH
 z0:=ka
 v0:=gF
 t3:=aw
 a3:=lI
 z3:=kb
 v3:=gG
 t4:=iL
 a4:=rB
 z4:=nN
 v4:=jx
 t5:=cz
 a5:=Tryz.isAgg5
 z5:=Tryz.sizeOf5
 v5:=tj
 t9:=aF
 a9:=lJ
 z9:=kd
 v9:=gH
 t22:=bA
 a22:=Tryz.isAgg80
 z22:=Tryz.sizeOf80
 v22:=Tryz.zeroValue80
 t25:=Tryz.underlying129
 a25:=Tryz.isAgg129
 z25:=Tryz.sizeOf129
 v25:=Tryz.zeroValue129
 t39:=jO
 a39:=Tryz.isAgg189
 z39:=Tryz.sizeOf189
 v39:=Tryz.zeroValue189
 t45:=Tryz.underlying250
 a45:=Tryz.isAgg250
 z45:=Tryz.sizeOf250
 v45:=Tryz.zeroValue250
 t46:=Tryz.underlying251
 a46:=Tryz.isAgg251
 z46:=Tryz.sizeOf251
 v46:=Tryz.zeroValue251
 t50:=Tryz.underlying202
 a50:=Tryz.isAgg202
 z50:=Tryz.sizeOf202
 v50:=Tryz.zeroValue202
 t53:=Tryz.underlying257
 a53:=Tryz.isAgg257
 z53:=Tryz.sizeOf257
 v53:=Tryz.zeroValue257
 t55:=si
 a55:=Tryz.isAgg190
 z55:=Tryz.sizeOf190
 v55:=Tryz.zeroValue190
 t66:=Tryz.underlying296
 a66:=Tryz.isAgg296
 z66:=Tryz.sizeOf296
 v66:=Tryz.zeroValue296
 t70:=Tryz.underlying300
 a70:=Tryz.isAgg300
 z70:=Tryz.sizeOf300
 v70:=Tryz.zeroValue300
 t76:=Tryz.underlying327
 a76:=Tryz.isAgg327
 z76:=Tryz.sizeOf327
 v76:=Tryz.zeroValue327
 t77:=Tryz.underlying328
 a77:=Tryz.isAgg328
 z77:=Tryz.sizeOf328
 v77:=Tryz.zeroValue328}
end Go.Proofs
namespace Go.K
open Go.Proofs
namespace TKSmall11
theorem E66:Enters Tryz.prog 66:=enters Tryz.func66 rfl (by decide)
theorem Vs:Enters Tryz.prog 116:=enters Tryz.func116 rfl (by decide)
end TKSmall11
open TKSmall11
set_option maxRecDepth 10000
theorem y4 {w0:World} {x:Int}:
  Spec Tryz.prog 116 #[.int .i64 x] w0 (fun v' w'=>v'= .bool (decide False)∧w0=w'):=by
 refine bm (args:=[_]) (fn:=Tryz.f116) Tryz.func116 rfl (n:=6) Tryz.ntmps116 (aj (ae (ah rfl rfl (ab (aj (ae (ad rfl rfl (ad rfl rfl (fD rfl rfl rfl (ah rfl rfl (ab ?_)))))))))));refine aQ ?_;exact aV rfl rfl ⟨congrArg Value.bool (by simp),rfl⟩
theorem um {w0:World} {x y:Int}:
  Spec Tryz.prog 66 #[.int .i64 x,.int .i64 y] w0 (fun v' w'=>v'= .int .i64 (if x<y then-1 else if x>y then 1 else 0)∧w0=w'):=by
 refine bm (args:=[_,_]) (fn:=Tryz.f66) Tryz.func66 rfl (n:=20) Tryz.ntmps66 (aj (ae (ah rfl rfl (ab (aj (ae (ad rfl rfl ?_)))))));refine aY rfl rfl Vs (y4) (fun r wc h=>?_);obtain⟨rfl,rfl⟩:=h;refine ah rfl rfl (ab (aj (ae (ad rfl rfl ?_))));refine aY rfl rfl Vs (y4) (fun r wc h=>?_);obtain⟨rfl,rfl⟩:=h;refine ah rfl rfl (ab (aj (aj (ae (ad rfl rfl (ab (T.wO rfl ((fun h=>h)) (aT (aj (aj (ae ?_)))))))))));refine ad rfl rfl (ab (T.wO rfl ((fun h=>h)) (aT (aj (aj (ae (ad rfl rfl (ad rfl rfl (cg rfl rfl rfl (ab ?_))))))))));refine bI rfl (fun c9=>?_) (fun c9=>?_)
 ·refine aj (ae (ah rfl rfl (ab (aQ ?_))));exact aV rfl rfl ⟨by rw[if_pos c9],rfl⟩
 ·refine aT (aj (aj (ae (ad rfl rfl (ad rfl rfl (iY rfl rfl rfl (ab ?_)))))));refine bI rfl (fun Fy=>?_) (fun Fy=>?_)
  ·refine aj (ae (ah rfl rfl (ab (aQ ?_))));exact aV rfl rfl ⟨by rw[if_neg c9,if_pos Fy],rfl⟩
  ·refine aT (aj (ae (ah rfl rfl (ab (aQ ?_)))));exact aV rfl rfl ⟨by rw[if_neg c9,if_neg Fy],rfl⟩
noncomputable instance {xs:List Int}:Decidable (∀i,i+1<xs.length→xs.getD i 0≤xs.getD (i+1) 0):=Classical.propDecidable _
theorem ir {l:List Int} {i:Nat} {x:Int} (h:l[i]? =some x):l.getD i 0=x:=by rw[aA,h];rfl
theorem zU {M:aD} {w0:World} {v:Value} {xs:List Int} (hv:((RT.int .i64).sl).V M w0 xs v) (tp:0<xs.length):
  Spec Tryz.prog 157 #[v,.func (.func 66) #[] #[]] w0 (fun v' w'=>v'= .bool (decide (∀i,i+1<xs.length→xs.getD i 0≤xs.getD (i+1) 0))∧Step M w0 M w' aC):=by
 have hlen:=ej hv;refine bm (args:=[_,_]) (fn:=Tryz.f157) Tryz.func157 rfl (n:=25) Tryz.ntmps157 (aj (ae (ah rfl rfl (ab (aj (aj (ae (ad rfl rfl (bQ aq rfl hv rfl (fq rfl rfl rfl (by omega) (aU (v':= .int .i64 ((xs.length-1:Nat):Int)) (congrArg _ (by omega)) ?_)))))))))));refine ah rfl rfl (ab (aZ ?_));refine dn (σ:=Nat) (fun s=>[(0,v),(1,.func (.func 66) #[] #[]),(5,.int .i64 s)]) (fun s w=>s<xs.length∧(∀t,s≤t→t+1<xs.length→xs.getD t 0≤xs.getD (t+1) 0)∧Step M w0 M w aC) (fun s=>s) (xs.length-1) (.cons rfl (.cons rfl (.cons rfl .nil))) ?_ ?_
 ·exact⟨by omega,fun t h1 h2=>by omega,ax _ _⟩
 ·rintro k w1 ⟨hk,hs,S⟩;refine aj (aj (ae (ad rfl rfl (iY rfl rfl rfl (ab ?_)))));refine bI rfl (fun c2=>?_) (fun c2=>?_)
  ·refine aT (aj (aZ (aj ?_)));obtain⟨x,hx⟩:∃x,(xs)[k]? =some x:=⟨_,ar (by omega)⟩;obtain⟨y,hy⟩:∃x,(xs)[k-1]? =some x:=⟨_,ar (by omega)⟩;apply T.Kr 10 mixed rfl rfl rfl rfl rfl;intro wD4 sA4;have F5:=sA4 M;refine ad rfl rfl ?_;refine ab ⟨rfl,rfl,rfl,?_⟩;refine ad rfl rfl ?_;refine ab ⟨rfl,rfl,rfl,?_⟩;refine ad rfl rfl ?_;refine ab ⟨rfl,rfl,rfl,?_⟩;refine cF (M:=M) aq I3 rfl rfl rfl ((hv.le S.le).le F5.le) (ao _ _) (by first|omega|decide) (fun TD VI NP Z2=>?_);obtain rfl:x=VI:=dH (aH (NP.symm.trans (by rw[ay];exact hx)));refine ab ⟨rfl,rfl,rfl,?_⟩;refine cd (M:=M) aw rfl rfl (by assumption) (by repeat (first|exact ao _ _|refine aX (bu (by assumption)) ?_)) (fun Si=>?_);refine aU (v':= .int .i64 (x)) rfl ?_;replace Si: -9223372036854775808≤(x:Int)∧x≤9223372036854775807:=Si;refine ab ⟨rfl,rfl,rfl,?_⟩;refine ad rfl rfl ?_;refine ab ⟨rfl,rfl,rfl,?_⟩;refine ad rfl rfl ?_;refine ab ⟨rfl,rfl,rfl,?_⟩;refine fq rfl rfl rfl (by omega) ?_;refine ab ⟨rfl,rfl,rfl,?_⟩;refine cF (M:=M) aq I3 rfl rfl rfl ((hv.le S.le).le F5.le) (ao _ _) (by first|omega|decide) (fun aqV ahu Z3 alN=>?_);obtain rfl:y=ahu:=dH (aH (Z3.symm.trans (by rw[show((k:Int)-1).toNat=k-1 from by omega];exact hy)));refine ab ⟨rfl,rfl,rfl,?_⟩;refine cd (M:=M) aw rfl rfl (by assumption) (by repeat (first|exact ao _ _|refine aX (bu (by assumption)) ?_)) (fun Sj=>?_);refine aU (v':= .int .i64 (y)) rfl ?_;replace Sj: -9223372036854775808≤(y:Int)∧y≤9223372036854775807:=Sj;refine ab ⟨rfl,rfl,rfl,?_⟩;refine eZ ?_;refine zr (first:=[]) (captured:=[]) rfl rfl rfl E66 um (fun r w1 h=>?_);obtain⟨rfl,rfl⟩:=h;refine cg rfl rfl rfl (ab ?_);refine bI rfl (fun c4=>?_) (fun c4=>?_)
   ·have hgt: ¬(y≤x):=fun h=>by
     first
     |omega
     |(split at c4<;>first|omega|(split at c4<;>omega))
    refine aj (ae (ah rfl rfl (ab (aQ ?_))))
    exact aV rfl rfl ⟨congrArg Value.bool (dH (decide_eq_false fun h=>by
     have:=h (k-1) (by omega);rw[show k-1+1=k from by omega,ir hx,ir hy]at this;exact hgt this)),S.aB F5⟩
   ·have hle:y≤x:=by
     first
     |omega
     |(split at c4<;>first|omega|(split at c4<;>omega))
    refine aT (ae (ad rfl rfl (fq rfl rfl rfl (by omega) (ah rfl rfl (ab ?_)))));refine⟨rfl,k-1,(.cons rfl (.cons rfl (.cons (congrArg (fun z=>some (Value.int .i64 z)) (by omega)) .nil))),?_,?_⟩
    ·refine⟨by omega,fun t h1 h2=>?_,S.aB F5⟩;by_cases e:t=k-1
     ·subst e;rw[show k-1+1=k from by omega,ir hx,ir hy];exact hle
     ·exact hs t (by omega) h2
    ·show k-1<k;omega
  ·refine cK (aj (ae (ah rfl rfl (ab (aQ ?_)))));exact aV rfl rfl ⟨congrArg Value.bool (dH (decide_eq_true fun i hi=>hs i (by omega) hi)),S⟩
theorem Et {M:aD} {w0:World} {v:Value} {xs:List Int} (hM:Lt M w0) (hv:((RT.int .i64).sl).V M w0 xs v) (hl:xs.length≤1099511627776):
  Spec Tryz.prog 51 #[v] w0 (fun v' w'=>∃M',Own (RT.int .i64) 3 M' w' w0.heap.size v' xs∧Lt M' w'∧Step M w0 M' w' aC):=by
 obtain⟨a,cap,pW,hc,hlen,hs⟩:=iB.1 hv;refine bm (args:=[_]) (fn:=Tryz.f51) Tryz.func51 rfl (n:=8) Tryz.ntmps51 (aj (ae (ah rfl rfl (ab (aj (aj (ae (ad rfl rfl (aU (v':= .slice a xs.length cap) pW (Rg.tB aq rfl rfl rfl (ab ?_)))))))))));refine bI rfl (fun c1=>?_) (fun c1=>?_)
 ·refine aj (ae (ah rfl rfl (ab (aQ ?_))))
  obtain rfl:xs=[]:=by
   rcases hs with h|⟨b,o,h,_⟩
   ·exact h
   ·rw[c1]at h;cases h
  exact aV rfl rfl ⟨M,dD _ _ _ _ _,hM,ax _ _⟩
 ·refine aT (aj (ae ?_));refine Rg.Xp aq I3 M rfl (fun g w1 z1 z1' g1 s1=>?_);have nI:=s1.lt hM;refine ad rfl rfl ?_;refine dd (M:=ins M g) (base:=w0.heap.size) aq I3 rfl rfl rfl rfl (Own.empty g1 z1 (.inl rfl)) (hv.le s1.le) (ao _ _) (by simp;omega) (by simp;omega) (by have:=s1.size;omega) (fun v2 M2 w2 tc s2=>?_);refine ah rfl rfl (ab (aQ ?_));exact aV rfl rfl ⟨M2,by rw[fQ]at tc;exact tc,s2.lt nI,s1.cj s2 (fun b hb=>by have hb:b=g:=(aH hb).symm;rw[hb];exact z1)⟩
theorem BX {M:aD} {w0:World} {base:Nat} {v:Value} {xs:List Int} (ho:Own (RT.int .i64) 3 M w0 base v xs) (hl:xs.length≤1099511627776):
  Spec Tryz.prog 158 #[v] w0 (fun v' w'=>∃a k cap,v'= .slice a k cap∧(k=xs.length↔(∀i,i+1<xs.length→xs.getD i 0≠xs.getD (i+1) 0))∧Step M w0 M w' (fK v)):=by
 refine bm (args:=[_]) (fn:=Tryz.f158) Tryz.func158 rfl (n:=61) Tryz.ntmps158 (aj (ae (ah rfl rfl (ab (aj (aj (ae (ad rfl rfl (fE aq rfl ho rfl (cg rfl rfl rfl (ab ?_)))))))))));refine bI rfl (fun c1=>?_) (fun c1=>?_)
 ·refine aj (ae (ad rfl rfl (ah rfl rfl (ab (aQ ?_)))));obtain⟨a,cap,rfl,hc⟩:=ho.isSlice;exact aV rfl rfl ⟨a,xs.length,cap,rfl,⟨fun _ i hi=>by omega,fun _=>rfl⟩,(ax _ _).cH (fun _ h=>h.elim) (fun b hb=>ho.mut_ b hb)⟩
 ·obtain⟨g,cap,cur,rfl,SO,Ql,Eg⟩:=ho.uR (ho.BR (by omega));obtain⟨_,xD,Pj,Hr⟩:=ho.isSlice;simp only[fT]at Pj;have lz:xs.length≤cap:=by omega
  have hN:∀b,b=g→fK (.slice (some ⟨g,0,none⟩) xs.length cap) b:=fun b hb=>by rw[hb];rfl
  refine aT (aj (aj (ae (ah rfl rfl (ab (aZ ?_))))));refine dn (σ:=Nat) (fun s=>[(0,.slice (some ⟨g,0,none⟩) xs.length cap),(3,.int .i64 s)]) (fun s w=>1≤s∧s≤xs.length∧(∀i,i+1<s→xs.getD i 0≠xs.getD (i+1) 0)∧Step M w0 M w aC) (fun s=>xs.length-s) 1 (.cons rfl (.cons rfl .nil)) ?_ ?_
  ·exact⟨aN _,by omega,fun i hi=>by omega,ax _ _⟩
  ·rintro k w1 ⟨tx,hk,kf,S⟩;refine aj (aj (ae (ad rfl rfl (ad rfl rfl (Rg.mq aq rfl rfl (cg rfl rfl rfl (ab ?_)))))));refine bI rfl (fun c4=>?_) (fun c4=>?_)
   ·refine aT (aj (aZ (aj ?_)));obtain⟨a,hx⟩:∃x,(xs)[k]? =some x:=⟨_,ar (by omega)⟩;obtain⟨b,hy⟩:∃x,(xs)[k-1]? =some x:=⟨_,ar (by omega)⟩;apply uG mixed rfl rfl;intro wD6 sA6;have GV:=sA6 M;refine ad rfl rfl ?_;refine ab ⟨rfl,rfl,rfl,?_⟩;refine ad rfl rfl ?_;refine ab ⟨rfl,rfl,rfl,?_⟩;refine vQ (size:=1) aq I3 rfl rfl rfl (by omega) (q:=k) (by rw[ay];omega) ?_;refine ab ⟨rfl,rfl,rfl,?_⟩;refine cd (M:=fun b=>M b∧b≠g) aw rfl rfl (((ho.aL S).aL GV).KK hx) (ao _ _) (fun ku=>?_);refine ab ⟨rfl,rfl,rfl,?_⟩;refine ad rfl rfl ?_;refine ab ⟨rfl,rfl,rfl,?_⟩;refine ad rfl rfl ?_;refine ab ⟨rfl,rfl,rfl,?_⟩;refine fq rfl rfl rfl (by omega) ?_;refine ab ⟨rfl,rfl,rfl,?_⟩;refine vQ (size:=1) aq I3 rfl rfl rfl (by omega) (q:=k-1) (by omega) ?_;refine ab ⟨rfl,rfl,rfl,?_⟩;refine cd (M:=fun b=>M b∧b≠g) aw rfl rfl (((ho.aL S).aL GV).KK hy) (ao _ _) (fun ku=>?_);refine ab ⟨rfl,rfl,rfl,?_⟩;refine qZ rfl rfl rfl ?_;refine ab ⟨rfl,rfl,rfl,?_⟩;refine eZ ?_;refine bI rfl (fun c6=>?_) (fun c6=>?_)
    ·refine aj (ae (ad rfl rfl (ad rfl rfl (Rg.KI aq I3 rfl rfl rfl (by omega) (aU (v':= .slice (some ⟨g,k,none⟩) (xs.length-k) (cap-k)) (by rw[ay,eP]) (ah rfl rfl (ab (aj (aj (ae (ah rfl rfl ?_)))))))))));refine ab (aZ ?_);refine dn (σ:=Nat×Nat) (fun s=>[(0,.slice (some ⟨g,0,none⟩) xs.length cap),(3,.int .i64 s.2),(4,.slice (some ⟨g,k,none⟩) (xs.length-k) (cap-k)),(5,.int .i64 s.1)]) (fun s w=>1≤s.1∧s.1≤xs.length-k∧k≤s.2∧s.2+1≤k+s.1∧∃ys,Own (RT.int .i64) 3 M w base (.slice (some ⟨g,0,none⟩) xs.length cap) ys∧ys.length=xs.length∧Step M w0 M w (fK (.slice (some ⟨g,0,none⟩) xs.length cap))) (fun s=>xs.length-k-s.1) (1,k) (.cons rfl (.cons rfl (.cons rfl (.cons rfl .nil)))) ?_ ?_
     ·exact⟨aN _,by simp only;omega,aN _,aN _,xs,(ho.aL S).aL GV,rfl,(S.aB GV).cH (fun _ h=>h.elim) (fun b hb=>ho.mut_ b hb)⟩
     ·rintro⟨k2,kk⟩ w2 ⟨h21,h22,ahv,ahw,ys,tc,Fh,S2⟩;dsimp only at h21 h22 ahv ahw tc ⊢;refine aj (aj (ae (ad rfl rfl (ad rfl rfl (Rg.mq aq rfl rfl (cg rfl rfl rfl (ab ?_)))))));refine bI rfl (fun c9=>?_) (fun c9=>?_)
      ·refine aT (aj (aZ (aj ?_)));obtain⟨a2,hx⟩:∃x,(ys)[k+k2]? =some x:=⟨_,ar (by omega)⟩;obtain⟨b2,hy⟩:∃x,(ys)[k+k2-1]? =some x:=⟨_,ar (by omega)⟩;apply uG mixed rfl rfl;intro F6 F7;have gZ:=F7 M;refine ad rfl rfl ?_;refine ab ⟨rfl,rfl,rfl,?_⟩;refine ad rfl rfl ?_;refine ab ⟨rfl,rfl,rfl,?_⟩;refine vQ (size:=1) aq I3 rfl rfl rfl (by omega) (q:=k+k2) (by rw[ay];omega) ?_;refine ab ⟨rfl,rfl,rfl,?_⟩;refine cd (M:=fun b=>M b∧b≠g) aw rfl rfl ((tc.aL gZ).KK hx) (ao _ _) (fun ku=>?_);refine ab ⟨rfl,rfl,rfl,?_⟩;refine ad rfl rfl ?_;refine ab ⟨rfl,rfl,rfl,?_⟩;refine ad rfl rfl ?_;refine ab ⟨rfl,rfl,rfl,?_⟩;refine fq rfl rfl rfl (by omega) ?_;refine ab ⟨rfl,rfl,rfl,?_⟩;refine vQ (size:=1) aq I3 rfl rfl rfl (by omega) (q:=k+k2-1) (by omega) ?_;refine ab ⟨rfl,rfl,rfl,?_⟩;refine cd (M:=fun b=>M b∧b≠g) aw rfl rfl ((tc.aL gZ).KK hy) (ao _ _) (fun ku=>?_);refine ab ⟨rfl,rfl,rfl,?_⟩;refine fD rfl rfl rfl ?_;refine ab ⟨rfl,rfl,rfl,?_⟩;refine eZ ?_;refine bI rfl (fun Fy=>?_) (fun Fy=>?_)
       ·refine aj (ae (ad rfl rfl (ad rfl rfl (ad rfl rfl (ad rfl rfl (vQ (size:=1) aq I3 rfl rfl rfl (by omega) (q:=k+k2) (by rw[ay];omega) ?_))))));refine cd (M:=fun b=>M b∧b≠g) aw rfl rfl ((tc.aL gZ).KK hx) (ao _ _) (fun ku=>?_);refine vQ (size:=1) aq I3 rfl rfl rfl (by omega) (q:=kk) (by rw[ay];omega) ?_;refine Rg.KJ (M:=M) I3 rfl rfl (tc.aL gZ) (by omega) ku (fun w5 ho5 s5=>?_);refine ab (ae (ad rfl rfl (bC rfl rfl rfl (by omega) (ah rfl rfl (ab (ae (ad rfl rfl (bC rfl rfl rfl (by omega) (ah rfl rfl (ab ?_))))))))));refine⟨rfl,(k2+1,_),(.cons rfl (.cons rfl (.cons rfl (.cons rfl .nil)))),?_,?_⟩
        ·first
         |exact⟨by simp only;omega,by simp only;omega,by simp only;omega,by simp only;omega,_,ho5,by rw[eV];exact Fh,(S2.aB gZ).trans s5 (fun b _ hb=>hN b hb)⟩
         |exact⟨by simp only;omega,by simp only;omega,by simp only;omega,by simp only;omega,ys,tc.aL gZ,Fh,S2.aB gZ⟩
        ·simp only;omega
       ·refine aT (ae (ad rfl rfl (bC rfl rfl rfl (by omega) (ah rfl rfl (ab ?_)))));refine⟨rfl,(k2+1,_),(.cons rfl (.cons rfl (.cons rfl (.cons rfl .nil)))),?_,?_⟩
        ·first
         |exact⟨by simp only;omega,by simp only;omega,by simp only;omega,by simp only;omega,_,ho5,by rw[eV];exact Fh,(S2.aB gZ).trans s5 (fun b _ hb=>hN b hb)⟩
         |exact⟨by simp only;omega,by simp only;omega,by simp only;omega,by simp only;omega,ys,tc.aL gZ,Fh,S2.aB gZ⟩
        ·simp only;omega
      ·refine cK (aj (ae (ad rfl rfl (ad rfl rfl (Rg.KI aq I3 rfl rfl rfl (by omega) (aU (v':= .slice (some ⟨g,kk,none⟩) (xs.length-kk) (cap-kk)) (by rw[ay,eP]) ?_))))));refine Rg.Tv (M:=M) aq I3 rfl tc (by omega) (by omega) (by decide) (fun w6 tO s6=>?_);refine ab (aj (ae (ad rfl rfl (ad rfl rfl (Rg.Tq aq I3 rfl rfl rfl (by omega) (aU (v':= .slice (some ⟨g,0,none⟩) kk cap) (by rw[ay]) (ah rfl rfl (ab (aQ ?_)))))))));exact aV rfl rfl ⟨_,kk,cap,rfl,⟨fun h=>by omega,fun h=>absurd (h (k-1) (by omega)) (by rw[show k-1+1=k from by omega,ir hy,ir hx];exact fun h=>h c6.symm)⟩,S2.trans s6 (fun b _ hb=>hN b hb)⟩
    ·refine aT (ae (ad rfl rfl (bC rfl rfl rfl (by omega) (ah rfl rfl (ab ?_)))));refine⟨rfl,k+1,(.cons rfl (.cons rfl .nil)),?_,?_⟩
     ·refine⟨by omega,by omega,fun i hi=>?_,S.aB GV⟩;by_cases e:i+1=k
      ·rw[e,ir hx,show i=k-1 from by omega,ir hy];exact fun h=>c6 h.symm
      ·exact kf i (by omega)
     ·show xs.length-(k+1)<xs.length-k;omega
   ·refine cK (aj (ae (ad rfl rfl (ah rfl rfl (ab (aQ ?_))))));exact aV rfl rfl ⟨_,xs.length,cap,rfl,⟨fun _ i hi=>kf i (by omega),fun _=>rfl⟩,S.cH (fun _ h=>h.elim) (fun b hb=>ho.mut_ b hb)⟩
end Go.K
namespace Go.K
open Go.Proofs
namespace TKSortP
theorem E65:Enters Tryz.prog 65:=enters Tryz.func65 rfl (by decide)
theorem E66:Enters Tryz.prog 66:=enters Tryz.func66 rfl (by decide)
end TKSortP
open TKSortP
set_option maxRecDepth 10000
open Go.Proofs Go.Sort
abbrev J8 (a:Int) (u:Value):Obj:= .cells #[.int .i64 a,u] 83 (0,0)
theorem Qy {a b:Int} {u v:Value} (w0:World) (hu:u.oneCell'=true) (hv:v.oneCell'=true):
  Spec Tryz.prog 65 #[.agg #[.int .i64 a,u],.agg #[.int .i64 b,v]] w0 (fun r w=>r= .int .i64 (if a<b then-1 else if a>b then 1 else 0)∧w=(w0.alloc (J8 a u)).alloc (J8 b v)):=by
 refine bm (args:=[_,_]) (fn:=Tryz.f65) Tryz.func65 rfl (n:=10) Tryz.ntmps65 (aj (ae (Rg.LX rfl rfl ?_)));change Rg _ _ _ _ _ _ _ (w0.alloc (J8 a u)) _;refine Rg.LX rfl rfl ?_;change Rg _ _ _ _ _ _ _ ((w0.alloc (J8 a u)).alloc (J8 b v)) _;have ga:((w0.alloc (J8 a u)).alloc (J8 b v)).heap[w0.heap.size]? =some (J8 a u):=(dm aC _ _).aM (cr w0 _);have gb:=cr (w0.alloc (J8 a u)) (J8 b v);refine ah rfl rfl (ab (aj (ae (bK (o':=0) bS rfl rfl I3 (by decide) rfl rfl (aP aw rfl rfl rfl ga rfl (aU (v':= .int .i64 a) rfl (bK (o':=0) bS rfl rfl I3 (by decide) rfl rfl (aP aw rfl rfl rfl gb rfl (aU (v':= .int .i64 b) rfl ?_)))))))));refine aY rfl rfl E66 um (fun r7 w7 hc=>?_);obtain⟨rfl,rfl⟩:=hc;refine ah rfl rfl (ab (aQ ?_));exact aV rfl rfl ⟨rfl,rfl⟩
abbrev TP (ps:List (Po×Value)):Type:={q:Po×Value // q∈ps}
def xd {ps:List (Po×Value)} (x:TP ps):List Value:=[.int .i64 x.1.1.1,x.1.2]
def Qz {ps:List (Po×Value)} (x y:TP ps):Int:=if x.1.1.1<y.1.1.1 then-1 else if x.1.1.1>y.1.1.1 then 1 else 0
theorem py {ps:List (Po×Value)} (x y:TP ps):Qz x y<0↔x.1.1.1<y.1.1.1:=by
 unfold Qz;by_cases h:x.1.1.1<y.1.1.1
 ·rw[if_pos h];exact⟨fun _=>h,fun _=>by omega⟩
 ·rw[if_neg h];by_cases h2:x.1.1.1>y.1.1.1
  ·rw[if_pos h2];exact⟨fun h3=>by omega,fun h3=>absurd h3 h⟩
  ·rw[if_neg h2];exact⟨fun h3=>by omega,fun h3=>absurd h3 h⟩
theorem QA {ps:List (Po×Value)}:SWO (Go.Proofs.ltOf (Qz (ps:=ps))) where
 irrefl x:=by simp only[Go.Proofs.ltOf,decide_eq_false_iff_not,py];omega
 trans x y z h1 h2:=by simp only[Go.Proofs.ltOf,decide_eq_true_eq,py]at*;omega
 ntrans x y z h1 h2:=by simp only[Go.Proofs.ltOf,decide_eq_false_iff_not,py]at*;omega
theorem ahx (w:World):(isAgg 83).run Tryz.prog w= .ok true w:=by simp[isAgg,cn,run_underlying bS]
theorem Z4 (w:World):(Go.sizeOf 83).run Tryz.prog w= .ok 2 w:=by
 obtain⟨i,h1,_,h2,_⟩:=nW.get;simp[Go.sizeOf,typeInfo,cn,program,Sem.run,h1,h2]
theorem NQ {ps:List (Po×Value)} [Inhabited (TP ps)] (h1:∀q∈ps,q.2.oneCell'=true) (fK off size:Nat) (w:World):CmpLays Tryz.prog 65 #[] (xd (ps:=ps)) 2 Qz fK off size w:=fun m os dk hs x y=>
 (show Calls Tryz.prog 65 #[.agg #[.int .i64 x.1.1.1,x.1.2],.agg #[.int .i64 y.1.1.1,y.1.2]] (sortWorldK xd 2 w fK off m dk os) (fun e w'=>∃v,e= .returned v∧_∧_)from Qy (a:=x.1.1.1) (b:=y.1.1.1) _ (h1 _ x.2) (h1 _ y.2)).mono fun e w' ⟨v,h1,h2,h3⟩=>⟨by rw[h1,h2];rfl,0,#[J8 x.1.1.1 x.1.2,J8 y.1.1.1 y.1.2],by rw[h3];simp only[yr,Go.Sort.grow_grow];rfl⟩
theorem Z5 {ps:List (Po×Value)} [Inhabited (TP ps)] (h1:∀q∈ps,q.2.oneCell'=true) (VJ:∀a∈ps,∀b∈ps,a.1.1=b.1.1→a=b) (fK off cap:Nat) (d:Array (TP ps)) (w:World) (hH:HoldsK xd 2 w fK off d) (hblk:fK<w.heap.size) (jJ:d.size<4611686018427387904):
  Spec Tryz.prog 64 #[.slice (some ⟨fK,off,none⟩) d.size cap,.func (.func 65) #[] #[]] w (fun v w'=>v= .tuple #[]∧∃n os,w'=sortWorldK xd 2 w fK off n (d.toList.mergeSort fun x y=> !(Go.Proofs.ltOf Qz) y x).toArray os):=by
 exact(Go.Proofs.AnyQ.slices_SortFunc_total Tryz.VH 2 ahx Z4 xd (fun _=>rfl) (fun x v hv=>by simp[xd]at hv;rcases hv with rfl|rfl<;>first|rfl|exact h1 _ x.2) Qz QA 65 #[] fK off cap d w E65 (NQ h1 fK off d.size w) hH hblk jJ (fun x y h1 h2=>by
  simp only[Go.Proofs.ltOf,decide_eq_false_iff_not,py]at h1 h2;exact Subtype.ext (VJ _ x.2 _ y.2 (by omega)))).mono fun e w' ⟨h1,h2⟩=>⟨_,h1,rfl,h2⟩
theorem H6 {M:aD} {w:World}:∀{l:List Po} {C:List Value},dZ RT.po M w l C→∃ps:List (Po×Value),ps.map (·.1)=l∧C=ps.flatMap (fun q=>[.int .i64 q.1.1,q.2])∧∀q∈ps,RT.po.R M w q.1 [.int .i64 q.1.1,q.2]
 |[],C,h=>⟨[],rfl,h,fun q h=>by cases h⟩
 |x::l,C,⟨vs,r,h1,h2,h3⟩=>by
  obtain⟨ps,h4,h5,h6⟩:=H6 h3;obtain⟨va,vb,rfl,⟨rfl,hk⟩,hb⟩:=h2;have Ou:=hb;obtain⟨a,cap,rfl,_⟩:=hb;refine⟨(x,.slice a x.2.length cap)::ps,by simp[h4],by rw[h1,h5];rfl,fun q hq=>?_⟩;rcases cb.1 hq with rfl|hq
  ·exact⟨_,_,rfl,⟨rfl,hk⟩,Ou⟩
  ·exact h6 q hq
theorem Eu {M:aD} {w:World}:∀{ps:List (Po×Value)},(∀q∈ps,RT.po.R M w q.1 [.int .i64 q.1.1,q.2])→dZ RT.po M w (ps.map (·.1)) (ps.flatMap fun q=>[.int .i64 q.1.1,q.2])
 |[],_=>rfl
 |q::ps,h=>⟨_,_,rfl,h q (bG ..),Eu fun q hq=>h q (bU _ hq)⟩
theorem Ev {M:aD} {base:Nat} {v:Value} {l:List Po} (w0:World) (ho:Own RT.po 83 M w0 base v l) (eQ:l.Pairwise fun a b=>a.1≠b.1) (h0:0<l.length) (hl:l.length≤100000000):
  Spec Tryz.prog 64 #[v,.func (.func 65) #[] #[]] w0 (fun r w=>r= .tuple #[]∧∃s:List Po,s.Perm l∧(s.Pairwise fun a b=>a.1≤b.1)∧Own RT.po 83 M w base v s∧Step M w0 M w (fK v)):=by
 have aq0:=ho.mut_;obtain⟨⟨C,⟨hC,hr⟩,hA⟩,hm⟩:=ho;rcases hr with⟨rfl,h0'⟩|⟨g,cap,cur,rfl,hb,hg,hle,Uw,JZ,ri⟩
 ·omega
 ·obtain⟨ps,rfl,rfl,jT⟩:=H6 hA;have su:∀q∈ps,q.2.oneCell'=true:=fun q hq=>RT.po.one (jT q hq) _ (by simp)
  have OM:=cA.1 eQ
  have VJ:∀a∈ps,∀b∈ps,a.1.1=b.1.1→a=b:=fun a ha b hb e=>by
   obtain⟨i,hi,rfl⟩:=wN.1 ha;obtain⟨j,hj,rfl⟩:=wN.1 hb;rcases eM i j with h|h|h
   ·exact absurd e ((cu.1 OM) i j hi hj h)
   ·subst h;rfl
   ·exact absurd e.symm ((cu.1 OM) j i hj hi h)
  rw[aG]at h0 hl hle ri hC
  haveI:Inhabited (TP ps):=⟨⟨ps[0],uH _⟩⟩
  obtain⟨d,hd⟩:∃d:Array (TP ps),d.toList.map (·.1)=ps:=⟨ps.attach.toArray,by rw[List.toList_toArray];exact List.attach_map_subtype_val ps⟩;have jJ:d.size=ps.length:=by have:=congrArg List.length hd;simpa using this
  have hk:∀x:TP ps,(xd x).length=2:=fun _=>rfl
  have FT:∀t:List (TP ps),(t.map (·.1)).flatMap (fun q:Po×Value=>[Value.int .i64 q.1.1,q.2])=t.flatMap xd:=fun t=>by rw[List.flatMap_map];rfl
  have e2:RT.po.n=2:=rfl;rw[e2]at ri JZ hC;have hH:HoldsK xd 2 w0 g 0 d:=AB hk (by omega) hg (by rw[jJ,ri,←FT,hd]);have hs:=Z5 su VJ g 0 cap d w0 hH (ak hg) (by omega);rw[jJ]at hs;rw[aG];refine hs.mono fun r w' ⟨h1,n,os,h2⟩=> ?_
  have hp:=jb d.toList fun x y=> !(ltOf Qz) y x
  have QB:(d.toList.mergeSort fun x y=> !(ltOf Qz) y x).Pairwise fun a b=>a.1.1.1≤b.1.1.1:=by
   refine(List.pairwise_mergeSort (fun a b c h1 h2=>?_) (fun a b=>?_) _).imp fun h=>?_
   ·simp only[ltOf,iQ,decide_eq_false_iff_not,py]at*;omega
   ·simp only[ltOf,qb,iQ,decide_eq_false_iff_not,py];omega
   ·simp only[ltOf,iQ,decide_eq_false_iff_not,py]at h;omega
  generalize (d.toList.mergeSort fun x y=> !(ltOf Qz) y x)=us at hp QB h2;have J0:(us.map (·.1)).length=ps.length:=by rw[aG,hp.length_eq,zj,jJ]
  have zx:us.toArray.size*2=ps.length*2:=by rw[←J0];simp
  have kF:Step M w0 M w' (fK (.slice (some ⟨g,0,none⟩) ps.length cap)):=by
   have hgm:M g:=hm g (by rw[aG];rfl);have s:=pO (enc:=xd (ps:=ps)) (k:=2) (w:=w0) (g:=g) (n:=n) (d:=us.toArray) (os:=os);rw[←h2]at s;exact⟨fun h b hb=>iu (h b hb) s.size,s.os,s.tape,s.output,s.size,fun _ _=>Iff.rfl,fun b hb hn=>s.same b hb (fun e=>hn (by have e:b=g:=e;subst e;rfl)),fun b hb=>by have hb:some g=some b:=hb;cases hb;exact hgm⟩
  refine⟨h1,(us.map (·.1)).map (·.1),?_,?_,⟨⟨(us.map (·.1)).flatMap (fun q:Po×Value=>[Value.int .i64 q.1.1,q.2]),⟨?_,.inr ⟨g,cap,putCells id 0 (flatK xd 2 us.toArray) cur,by rw[aG,J0],hb,by rw[h2];exact rR hg,by rw[aG,J0];exact hle,Uw,by rw[e2,←JZ];simp[putCells],?_⟩⟩,?_⟩,fun b hb=>hm b (by rw[aG];exact hb)⟩,kF⟩
  ·have:=(hp.map (·.1)).map (·.1);rw[hd]at this;exact this
  ·exact cA.2 (cA.2 QB)
  ·rw[FT,nc hk,aG,aG,e2]
  ·rw[FT,aG,J0,e2,←zx,←size_flatK xd,rS (by rw[size_flatK,zx,JZ];omega),tP hk (by omega)]
  ·refine Eu fun q hq=> ?_
   obtain⟨x,hx,rfl⟩:=bP.1 hq;exact RT.po.le (fun b hb zk=>⟨zk,kF.same b hb fun e=>zk (kF.sub b e)⟩) (jT x.1 x.2)
end Go.K
namespace Go.Proofs
open Go.Shelf
def Tryz.BY:Go.Shelf.Ren:=⟨fun|44=>163|n=>n,fun|25=>57|26=>9|3=>3|4=>4|0=>0|n=>n,fun|n=>n⟩
theorem Tryz.Ew:Go.Proofs.SlLaysN.n44 Tryz.prog Tryz.BY:={
 mixed:=by kernel_rfl
 f44:=⟨Tryz.f163.name,by decide,Tryz.func163.trans (congrArg some (by kernel_rfl))⟩
 t0:=fJ
 a0:=lH
 z0:=ka
 v0:=gF
 t3:=aw
 a3:=lI
 z3:=kb
 v3:=gG
 t4:=iL
 a4:=rB
 z4:=nN
 v4:=jx
 t25:=aS
 a25:=Tryz.isAgg57
 z25:=Tryz.sizeOf57
 v25:=Tryz.zeroValue57
 t26:=aF
 a26:=lJ
 z26:=kd
 v26:=gH
 i26:=by kernel_rfl}
def Tryz.vF:Go.Shelf.Ren:=⟨fun|4=>216|n=>n,fun|22=>57|25=>9|3=>3|4=>4|9=>9|20=>20|0=>0|n=>n,fun|n=>n⟩
theorem Tryz.Sk:Go.Proofs.Lays8.n4 Tryz.prog Tryz.vF:={
 mixed:=by kernel_rfl
 f4:=⟨Tryz.f216.name,by decide,Tryz.func216.trans (congrArg some (by kernel_rfl))⟩
 t0:=fJ
 a0:=lH
 z0:=ka
 v0:=gF
 t3:=aw
 a3:=lI
 z3:=kb
 v3:=gG
 t4:=iL
 a4:=rB
 z4:=nN
 v4:=jx
 t9:=aF
 a9:=lJ
 z9:=kd
 v9:=gH
 t20:=Tryz.underlying20
 a20:=Tryz.isAgg20
 z20:=Tryz.sizeOf20
 v20:=Tryz.zeroValue20
 t22:=aS
 a22:=Tryz.isAgg57
 z22:=Tryz.sizeOf57
 v22:=Tryz.zeroValue57}
end Go.Proofs
namespace Go.K
open Go.Sort Go.Proofs
section
variable {α:Type} [Inhabited α] {enc:α→Value}
theorem A0 {w:World} {g n:Nat} {cur:Array Value} {e:TypeId} {d:Array α} {os:Array Obj} (hg:w.heap[g]? =some (.cells cur e (0,0))):(grow (putRow enc (Go.Sort.ahead w n) g 0 d) os).heap[g]? =some (.cells (putCells enc 0 d cur) e (0,0)):=by
 have dV:g<w.heap.size:=ak hg
 have h1:(w.heap.modify g (onCells (putCells enc 0 d)))[g]? =some (.cells (putCells enc 0 d cur) e (0,0)):=by
  rw[jI,if_pos rfl,hg];rfl
 show((w.heap.modify g (onCells (putCells enc 0 d)))++os)[g]? =_;rw[Array.getElem?_append_left (by simpa using dV)];exact h1
theorem wH {w:World} {g n:Nat} {d:Array α} {os:Array Obj}:Step allM w allM (grow (putRow enc (Go.Sort.ahead w n) g 0 d) os) (fun b=>b=g):=
 ⟨fun h=>absurd (h w.heap.size trivial) (jq _),rfl,rfl,rfl,by show _≤((w.heap.modify g _)++os).size;simp,fun _ _=>Iff.rfl,fun b hb hn=>by
  have hn: ¬b=g:=hn;show((w.heap.modify g (onCells (putCells enc 0 d)))++os)[b]? =_;rw[Array.getElem?_append_left (by simpa using hb),jI,if_neg (fun h=>hn h.symm)],fun _ _=>trivial⟩
theorem qJ {d:Array α} {cur:Array Value} {m:Nat} (h:d.size≤cur.size) (hm:m≤d.size):(putCells enc 0 d cur).toList.take m=(d.toList.map enc).take m:=by
 apply fp;intro j;rw[cp,cp];by_cases hj:j<m
 ·have h1:j<d.size:=by omega
  have h2:j<cur.size:=by omega
  rw[if_pos hj,if_pos hj];simp[putCells,h1,h2]
 ·rw[if_neg hj,if_neg hj]
theorem holds_of {w:World} {g:Nat} {cur:Array Value} {e:TypeId} {d:Array α} (hg:w.heap[g]? =some (.cells cur e (0,0))) (hC:cur.toList.take d.size=d.toList.map enc):Holds enc w g 0 d:=fun j hj=>by
 have h1:(cur.toList.take d.size)[j]? =(d.toList.map enc)[j]? :=by rw[hC]
 rw[cp,if_pos hj,br,Array.getElem?_toList,Array.getElem?_toList,Array.getElem?_eq_getElem hj,cW]at h1;constructor
 ·simp[World.cell?,hg,h1,hj]
 ·simp[World.frozen?,hg]
end
theorem y5:∀{xs:List (List UInt8)} {C:List Value} {M:aD} {w:World},dZ RT.str M w xs C→C=xs.map encStr∧∀x∈xs,x.length≤140737488355328
 |[],C,_,_,h=>⟨h,fun x hx=>by cases hx⟩
 |x::xs,C,_,_,⟨vs,r,h1,h2,h3⟩=>by
  obtain⟨h4,h5⟩:=y5 h3;obtain⟨h6,h7⟩:=h2;refine⟨by rw[h1,h4,h6];rfl,fun y hy=>?_⟩;rcases cb.1 hy with rfl|hy
  ·exact h7
  ·exact h5 y hy
theorem vG {M:aD} {w:World}:∀{xs:List (List UInt8)},(∀x∈xs,x.length≤140737488355328)→dZ RT.str M w xs (xs.map encStr)
 |[],_=>rfl
 |x::xs,h=>⟨[encStr x],_,rfl,⟨rfl,h x (bG ..)⟩,vG fun y hy=>h y (bU _ hy)⟩
theorem y6 {d:Array (List UInt8)} (hs:∀i j,i≤j→j<d.size→¬d[j]! <d[i]!):∀m,m≤d.size→(Go.Lib.compactUpTo d m).Pairwise (fun a b=>a<b)∧(∀x∈Go.Lib.compactUpTo d m,∃j,j<m∧x=d[j]!)∧∀j,j<m→d[j]! ∈Go.Lib.compactUpTo d m
 |0,_=>⟨List.Pairwise.nil,(fun x h=>by cases h),fun j h=>by omega⟩
 |m+1,hm=>by
  obtain⟨h1,h2,h3⟩:=y6 hs m (by omega);rw[Go.Lib.compactUpTo_succ]
  cases hk:Go.Lib.keeps d m with
  |true=>
   rw[if_pos rfl];have eQ:m=0∨d[m]! ≠d[m-1]! :=by simpa[Go.Lib.keeps]using hk
   refine⟨ke.2 ⟨h1,by simp,fun a ha b hb=>?_⟩,fun x hx=>?_,fun j hj=>?_⟩
   ·rw[bJ]at hb;subst hb;obtain⟨j,hj,rfl⟩:=h2 a ha;have h4:=hs j m (by omega) (by omega);rcases jN d[j]! d[m]! with h|h|h
    ·exact h
    ·exfalso;have h5:=hs j (m-1) (by omega) (by omega);have h6:=hs (m-1) m (by omega) (by omega);rcases eQ with h0|h0
     ·omega
     ·rcases jN d[m-1]! d[m]! with h7|h7|h7
      ·rw[←h]at h7;exact h5 h7
      ·exact h0 h7.symm
      ·exact h6 h7
    ·exact absurd h h4
   ·rcases ch.1 hx with hx|hx
    ·obtain⟨j,hj,e⟩:=h2 x hx;exact⟨j,by omega,e⟩
    ·exact⟨m,by omega,bJ.1 hx⟩
   ·rcases cG j m with h|h
    ·exact gv _ (h3 j h)
    ·obtain rfl:j=m:=by omega
     exact List.mem_append_right _ (bJ.2 rfl)
  |false=>
   rw[if_neg (by simp),ia];have he:m≠0∧d[m]! =d[m-1]! :=by simpa[Go.Lib.keeps]using hk
   refine⟨h1,fun x hx=>?_,fun j hj=>?_⟩
   ·obtain⟨j,hj,e⟩:=h2 x hx;exact⟨j,by omega,e⟩
   ·rcases cG j m with h|h
    ·exact h3 j h
    ·obtain rfl:j=m:=by omega
     rw[he.2];exact h3 _ (by omega)
def jo (ks:List (List (List UInt8))):List (List UInt8):=Go.Lib.compact (ks.flatten.mergeSort fun x y=>decide (x≤y))
theorem y7 (ks:List (List (List UInt8))):(jo ks).Pairwise (fun a b=>a<b)∧∀x,x∈jo ks↔∃l∈ks,x∈l:=by
 have Sm:(ks.flatten.mergeSort fun x y=>decide (x≤y)).Pairwise fun a b=>¬b<a:=by
  refine(List.pairwise_mergeSort (fun a b c h1 h2=>?_) (fun a b=>?_) _).imp fun h=>?_
  ·simp only[decide_eq_true_eq]at*
   intro h3;rcases jN b c with h|h|h
   ·exact h1 (l2 h h3)
   ·subst h;exact h1 h3
   ·exact h2 h
  ·simp only[qb,decide_eq_true_eq];rcases jN a b with h|h|h
   ·exact .inl fun h'=>absurd h' (iO h)
   ·subst h;exact .inl (iW _)
   ·exact .inr fun h'=>absurd h' (iO h)
  ·simp only[decide_eq_true_eq]at h;exact h
 generalize hz:(ks.flatten.mergeSort fun x y=>decide (x≤y))=zs at Sm
 have eR:∀x,x∈zs↔∃l∈ks,x∈l:=fun x=>by
  rw[←hz,(jb _ _).mem_iff,List.mem_flatten]
 obtain⟨h1,h2,h3⟩:=y6 (d:=zs.toArray) (fun i j jr hj=>by
  have Q7:j<zs.length:=by simpa using hj
  have ik:i<zs.length:=by omega
  rw[getElem!_pos _ i (by simpa using ik),getElem!_pos _ j hj];rcases cG i j with h|h
  ·simpa using(cu.1 Sm) i j ik Q7 h
  ·obtain rfl:i=j:=by omega
   exact iW _) zs.length (by simp)
 have e:jo ks=Go.Lib.compactUpTo zs.toArray zs.length:=by unfold jo Go.Lib.compact;rw[hz]
 rw[e];refine⟨h1,fun x=>?_⟩;rw[←eR];constructor
 ·intro hx;obtain⟨j,hj,rfl⟩:=h2 x hx;rw[getElem!_pos _ j (by simpa using hj)];simp
 ·intro hx;obtain⟨j,hj,rfl⟩:=wN.1 hx;have:=h3 j hj
  rwa [getElem!_pos _ j (by simpa using hj),List.getElem_toArray]at this
theorem JD (ks:List (List (List UInt8))):(jo ks).length≤ks.flatten.length:=by
 have h:=(y7 ks).1.imp (S:=fun a b=>a≠b) fun h e=>by subst e;exact iW _ h
 exact List.Nodup.length_le_of_subset h fun x hx=>by
  obtain⟨l,hl,hx⟩:=((y7 ks).2 x).1 hx;exact List.mem_flatten.2 ⟨l,hl,hx⟩
end Go.K
namespace Go.K
open Go.Proofs
set_option maxRecDepth 10000
open Go.Proofs Go.Sort
theorem ni:BQ RT.str:=fun _ _ _ _ _ _ h=>h
theorem JE {base:Nat} {v:Value} {ts:List (List UInt8)} (w0:World) (ho:Own RT.str 9 allM w0 base v ts) (hl:ts.length≤100000000):
  Spec Tryz.prog 141 #[v] w0 (fun r w=>r= .tuple #[]∧Own RT.str 9 allM w base v (ts.mergeSort fun x y=>decide (x≤y))∧Step allM w0 allM w (mS v)):=by
 obtain⟨⟨C,⟨hC,hr⟩,hA⟩,hm⟩:=ho;rcases hr with⟨rfl,h0⟩|⟨g,cap,cur,rfl,hb,hg,hle,Uw,JZ,ri⟩
 ·have Ku:ts=[]:=cY.1 h0;subst Ku;exact(AnyM.slices_Sort_string_none Tryz.HL none 0 w0).mono fun e w' ⟨h1,h2⟩=>⟨_,h1,rfl,by rw[List.mergeSort_nil];exact dD _ _ _ _ _,by rw[h2];exact(ax allM w0).cH (fun _ h=>h.elim) (fun _ _=>trivial)⟩
 ·obtain⟨rfl,jJ⟩:=y5 hA;have e1:RT.str.n=1:=rfl;rw[e1,eP]at ri JZ;have hH:Holds encStr w0 g 0 ts.toArray:=holds_of hg (by simpa using ri);refine(AnyM.slices_Sort_string Tryz.HL g 0 cap ts w0 hH (ak hg) (by omega)).mono fun e w' ⟨h1,n,os,h2⟩=>⟨_,h1,rfl,?_,?_⟩
  ·rw[h2];have hp:=jb ts fun x y=>decide (x≤y)
   generalize (ts.mergeSort fun x y=>decide (x≤y))=us at hp;have J0:us.length=ts.length:=hp.length_eq;refine⟨⟨us.map encStr,⟨by simp[e1],.inr ⟨g,cap,_,by rw[J0],hb,A0 hg,by omega,Uw,by rw[e1,eP,←JZ];simp[putCells],?_⟩⟩,vG fun x hx=>jJ x (hp.mem_iff.1 hx)⟩,fun _ _=>trivial⟩;rw[e1,eP,qJ (by simp;omega) (by simp),aW (by simp)]
  ·rw[h2];exact wH.cH (fun b hb=>by have hb:b=g:=hb;subst hb;rfl) (fun _ _=>trivial)
theorem JF {base:Nat} {v:Value} {ts:List (List UInt8)} (w0:World) (ho:Own RT.str 9 allM w0 base v ts) (hl:ts.length≤100000000):
  Spec Tryz.prog 163 #[v] w0 (fun r w=>Own RT.str 9 allM w base r (Go.Lib.compact ts)∧Step allM w0 allM w (mS v)):=by
 obtain⟨⟨C,⟨hC,hr⟩,hA⟩,hm⟩:=ho;rcases hr with⟨rfl,h0⟩|⟨g,cap,cur,rfl,hb,hg,hle,Uw,JZ,ri⟩
 ·have Ku:ts=[]:=cY.1 h0;subst Ku;exact(AnyG.slices_Compact_string_empty Tryz.Ew none 0 w0).mono fun e w' ⟨h1,h2⟩=>⟨_,h1,dD _ _ _ _ _,by rw[h2];exact(ax allM w0).cH (fun _ h=>h.elim) (fun _ _=>trivial)⟩
 ·obtain⟨rfl,jJ⟩:=y5 hA;have e1:RT.str.n=1:=rfl;rw[e1,eP]at ri JZ;have hH:Holds encStr w0 g 0 ts.toArray:=holds_of hg (by simpa using ri);have lz:=Go.Lib.compact_length_le ts;refine(AnyG.slices_Compact_string Tryz.Ew g 0 cap ts w0 hH (by omega) hle).mono fun e w' ⟨h1,n,h2⟩=>⟨_,h1,?_,?_⟩
  ·have xj:w'=grow (putRow encStr (Go.Sort.ahead w0 n) g 0 (Go.Lib.compact ts++List.replicate (ts.length-(Go.Lib.compact ts).length) []).toArray) #[]:=by rw[grow_empty];exact h2
   rw[xj];refine⟨⟨(Go.Lib.compact ts).map encStr,⟨by simp[e1],.inr ⟨g,cap,_,rfl,hb,A0 hg,by omega,Uw,by rw[e1,eP,←JZ];simp[putCells],?_⟩⟩,vG fun x hx=>jJ x ?_⟩,fun _ _=>trivial⟩
   ·rw[e1,eP,qJ (by simp;omega) (by simp)];simp
   ·unfold Go.Lib.compact Go.Lib.compactUpTo at hx;obtain⟨j,hj,rfl⟩:=bP.1 hx;have hj:=so.1 (iT.1 hj).1;rw[getElem!_pos _ j (by simpa using hj)];simp
  ·have xj:w'=grow (putRow encStr (Go.Sort.ahead w0 n) g 0 (Go.Lib.compact ts++List.replicate (ts.length-(Go.Lib.compact ts).length) []).toArray) #[]:=by rw[grow_empty];exact h2
   rw[xj];exact wH.cH (fun b hb=>by have hb:b=g:=hb;subst hb;rfl) (fun _ _=>trivial)
theorem JG {n:Nat} (w0:World) (hn:n≤1000000000):Spec Tryz.prog 216 #[.slice none 0 0,.int .i64 n] w0 (fun r w=>Own RT.str 9 allM w w0.heap.size r []∧Step allM w0 allM w aC):=by
 rcases Nat.eq_zero_or_pos n with rfl|h
 ·exact(Any8.slices_Grow_room Tryz.Sk none 0 0 0 w0 (aN _) (by omega) (by omega) (aN _)).mono fun e w' ⟨h1,h2⟩=>⟨_,h1,dD _ _ _ _ _,by rw[h2];exact ax _ _⟩
 ·obtain⟨i0,hi,hz,hs,hb⟩:=I9.get;refine(Any8.slices_Grow_grow Tryz.Sk i0 _ hi hz (by omega) none 0 0 n [] w0 (aN _) (by omega) (by rw[hb];omega) (by omega) (by simp) (fun _=>rfl) (fun a h=>by cases h)).mono fun e w' ⟨h1,h2⟩=>⟨_,h1,?_,?_⟩
  ·have hG:n≤grownCap w0 n 0 (Tryz.vF.t 25):=grownCap_ge w0 _ _ _;have hm:=grownCap_le_maxLen w0 (0+n) 0 9 (by unfold maxLen;omega);rw[h2];refine⟨⟨[],⟨rfl,.inr ⟨w0.heap.size,_,_,rfl,aN _,by exact cr w0.drew _,bD _,hm,?_,by simp⟩⟩,rfl⟩,fun _ _=>trivial⟩;show _=grownCap w0 (0+n) 0 (Tryz.vF.t 25)*1;simp[Builtin.zeroCells,Value.cells];omega
  ·rw[h2];exact(lY allM w0).aB (dm allM w0.drew _)
end Go.K
namespace Go.K
open Go.Proofs
namespace TKJoinB
theorem ahy:Enters Tryz.prog 113:=enters Tryz.func113 rfl (by decide)
theorem ahz:Enters Tryz.prog 141:=enters Tryz.func141 rfl (by decide)
theorem ahA:Enters Tryz.prog 162:=enters Tryz.func162 rfl (by decide)
theorem ahB:Enters Tryz.prog 163:=enters Tryz.func163 rfl (by decide)
theorem ahC:Enters Tryz.prog 216:=enters Tryz.func216 rfl (by decide)
end TKJoinB
open TKJoinB
set_option maxRecDepth 10000
theorem Ex {ks:List (List (List UInt8))} {i:Nat} {l:List (List UInt8)} (h:ks[i]? =some l):((ks.take (i+1)).flatten).length=(ks.take i).flatten.length+l.length∧(ks.take (i+1)).flatten=(ks.take i).flatten++l:=by
 rw[bV,h,cE,List.flatten_append,bc];simp
theorem BZ (ks:List (List (List UInt8))) (i:Nat):(ks.take i).flatten.length≤ks.flatten.length:=by
 conv=>rhs;rw[←l4 i ks,List.flatten_append,bc]
 omega
theorem B0 {M:aD} {ks:List (List (List UInt8))} {v0:Value} (w0:World) (hM:Lt M w0) (hv:((RT.str.sl).sl).V M w0 ks v0) (hl:ks.flatten.length≤100000000):
  Spec Tryz.prog 162 #[v0] w0 (fun v w=>∃M',Own RT.str 9 M' w w0.heap.size v ks.flatten∧Lt M' w∧Step M w0 M' w aC):=by
 have hlen:=ej hv;have kR:=hM;refine bm (args:=[_]) (fn:=Tryz.f162) Tryz.func162 rfl (n:=36) Tryz.ntmps162 ?_;have S:Step M w0 M w0 aC:=(ax _ _).cH (fun _ h=>h.elim) (fun _ h=>h.elim);refine aj (ae (ah rfl rfl (ab (aj (ae (ah rfl rfl (ab (aj (aj (ae (ad rfl rfl ?_)))))))))));refine bQ Tryz.underlying120 rfl hv rfl (ad rfl rfl (ab (aZ ?_)));refine dn (σ:=Nat) (fun i=>[(0,v0),(3,.int .i64 ((ks.take i).flatten.length:Int)),(9,v0),(10,.int .i64 (ks.length:Int)),(11,.int .i64 (i:Int))]) (fun i w=>i≤ks.length∧Lt M w∧((RT.str.sl).sl).V M w ks v0∧Step M w0 M w aC) (fun i=>ks.length-i) 0 (.cons rfl (.cons rfl (.cons rfl (.cons rfl (.cons rfl .nil))))) ?_ ?_
 ·exact⟨bD _,hM,hv,S⟩
 ·clear hM hv S;rintro i w ⟨hi,hM,hv,S⟩;have mQ:=BZ ks i;refine aj (ae (cg rfl rfl rfl (ab (aj ?_))));refine bI rfl (fun c3=>?_) (fun c3=>?_)
  ·refine aT (aj (aZ (aj (ae ?_))));obtain⟨l,hk⟩:∃l,ks[i]? =some l:=⟨_,ar (by omega)⟩;obtain⟨tx,Ba⟩:=Ex hk;have hk3:=BZ ks (i+1);refine cF (M:=M) Tryz.underlying120 zn rfl rfl rfl hv (ao _ _) (by omega) (fun u4 x we EW=>?_);rw[ay]at we;obtain rfl:=aH (hk.symm.trans we);refine bR (M:=M) aS rfl rfl rfl rfl rfl EW (ao _ _) (fun v4 qR=>?_);refine ah rfl rfl (ab (aj (ae (ad rfl rfl (ad rfl rfl (bQ aS rfl qR rfl (bC rfl rfl rfl (by omega) (aU (v':= .int .i64 (((ks.take (i+1)).flatten.length:Nat):Int)) (congrArg _ (by rw[tx];omega)) (ah rfl rfl (ab (aj ?_)))))))))));refine ae (ad rfl rfl (cg rfl rfl rfl (ab (T.wO rfl ((by omega)) (aT (ae (bC rfl rfl rfl (by omega) (ad rfl rfl (ab ?_)))))))));refine⟨rfl,i+1,(.cons rfl (.cons rfl (.cons rfl (.cons rfl (.cons rfl .nil))))),?_,?_⟩
   ·exact⟨by omega,hM,hv,S⟩
   ·omega
  ·refine cK (aj (ae (ad rfl rfl ?_)));have hie:i=ks.length:=by omega
   refine aU (v':= .int .i64 ((ks.flatten.length:Nat):Int)) (by rw[hie,aW (aN _)]) ?_;refine aY rfl rfl ahC (JG w (n:=ks.flatten.length) (by omega)) (fun r9 w9 hc=>?_);obtain⟨PY,s9⟩:=hc;obtain⟨ho,s9'⟩:=PY.ND (M:=allM) ni s9 (aN _) M;replace ho:=ho.oL S.size;have RQ:=s9'.lt hM;have IX:=hv.le s9'.le;have S9:=S.aB s9';refine ah rfl rfl (ab (aj (aj (ae (ad rfl rfl (bQ Tryz.underlying120 rfl IX rfl (ad rfl rfl (ab (aZ ?_)))))))));refine dn (σ:=Nat×Value) (fun q=>[(6,q.2),(25,v0),(26,.int .i64 (ks.length:Int)),(27,.int .i64 (q.1:Int))]) (fun q w=>q.1≤ks.length∧∃M1,Lt M1 w∧((RT.str.sl).sl).V M1 w ks v0∧Own RT.str 9 M1 w w0.heap.size q.2 (ks.take q.1).flatten∧Step M w0 M1 w aC) (fun q=>ks.length-q.1) (0,r9) (.cons rfl (.cons rfl (.cons rfl (.cons rfl .nil)))) ?_ ?_
   ·exact⟨bD _,_,RQ,IX,(by simpa using ho),S9⟩
   ·clear hM hv S RQ IX ho S9;rintro⟨i,u⟩ w ⟨hi,M1,hM,hv,ho,S⟩;dsimp only at hi ho ⊢;have mQ:=BZ ks i;refine aj (ae (cg rfl rfl rfl (ab (aj ?_))));refine bI rfl (fun Fy=>?_) (fun Fy=>?_)
    ·refine aT (aj (aZ (aj (ae ?_))));obtain⟨l,hk⟩:∃l,ks[i]? =some l:=⟨_,ar (by omega)⟩;obtain⟨tx,Ba⟩:=Ex hk;have hk3:=BZ ks (i+1);refine cF (M:=M1) Tryz.underlying120 zn rfl rfl rfl hv (ao _ _) (by omega) (fun u4 x we EW=>?_);rw[ay]at we;obtain rfl:=aH (hk.symm.trans we);refine bR (M:=M1) aS rfl rfl rfl rfl rfl EW (ao _ _) (fun alP VK=>?_);refine ah rfl rfl (ab (ae (ad rfl rfl (ad rfl rfl ?_))));refine dd (M:=M1) (base:=w0.heap.size) aS I9 rfl rfl rfl rfl ho VK (ao _ _) (by omega) (by omega) (S.size) (fun Z6 alQ alR VL NR=>?_);replace hv:=hv.le NR.le;replace hM:=NR.lt hM;have:=S.size;replace S:=S.dg NR ho (aN _);replace ho:=VL;refine ah rfl rfl (ab (ae (bC rfl rfl rfl (by omega) (ad rfl rfl (ab ?_)))));refine⟨rfl,(i+1,Z6),(.cons rfl (.cons rfl (.cons rfl (.cons rfl .nil)))),?_,?_⟩
     ·exact⟨by dsimp only;omega,_,hM,hv,by dsimp only;rw[Ba];exact ho,S⟩
     ·dsimp only;omega
    ·refine cK (aj (ae (ad rfl rfl (ah rfl rfl (ab (aQ ?_))))));rw[aW (by omega)]at ho;exact aV rfl rfl ⟨_,ho,hM,S⟩
theorem B1 {M:aD} {ks:List (List (List UInt8))} {v0:Value} (w0:World) (hM:Lt M w0) (hv:((RT.str.sl).sl).V M w0 ks v0) (hl:ks.flatten.length≤100000000):
  Spec Tryz.prog 113 #[v0] w0 (fun v w=>∃M',Own RT.str 9 M' w w0.heap.size v (jo ks)∧Lt M' w∧Step M w0 M' w aC):=by
 refine bm (args:=[_]) (fn:=Tryz.f113) Tryz.func113 rfl (n:=10) Tryz.ntmps113 (aj (ae (ah rfl rfl (ab (aj (ae (ad rfl rfl ?_)))))));refine aY rfl rfl ahA (B0 w0 hM hv hl) (fun r1 w1 hc=>?_);obtain⟨M1,UH,nI,s1⟩:=hc;refine ah rfl rfl (ab (aj (ae (ad rfl rfl ?_))));refine aY rfl rfl ahz (JE w1 (UH.Qs ni (M':=allM) fun _ _=>trivial) hl) (fun r2 w2 hc=>?_);obtain⟨rfl,tc,s2⟩:=hc;refine ab (aj (ae (ad rfl rfl ?_)));refine aY rfl rfl ahB (JF w2 tc (by rw[(jb _ _).length_eq];exact hl)) (fun r3 w3 hc=>?_);obtain⟨yE,s3⟩:=hc;have ZU:∀b,r1.ownBlock=some b→w0.heap.size≤b:=fun b hb=>(UH.base b hb).1
 have Cs:Step allM w0 allM w3 aC:=(s1.all.trans s2 (fun b hb h=>by have:=ZU b h;omega)).trans s3 (fun b hb h=>by have:=ZU b h;omega);obtain⟨qe,s4⟩:=yE.ND ni Cs (aN _) M;refine ah rfl rfl (ab (aQ ?_));exact aV rfl rfl ⟨_,qe,s4.lt hM,s4⟩
theorem JH {M:aD} {ks:List (List (List UInt8))} {v0:Value} (w0:World) (hM:Lt M w0) (hv:((RT.str.sl).sl).V M w0 ks v0) (hl:ks.flatten.length≤100000000):
  Spec Tryz.prog 62 #[v0] w0 (fun v w=>∃M',Own RT.str 9 M' w w0.heap.size v (jo ks)∧Lt M' w∧Step M w0 M' w aC):=by
 refine bm (args:=[_]) (fn:=Tryz.f62) Tryz.func62 rfl (n:=5) Tryz.ntmps62 (aj (ae (ah rfl rfl (ab (aj (ae (ad rfl rfl ?_)))))));refine aY rfl rfl ahy (B1 w0 hM hv hl) (fun r1 w1 hc=>?_);refine ah rfl rfl (ab (aQ ?_));exact aV rfl rfl hc
end Go.K
namespace Go.K
open Go.Proofs
namespace TKHeads
theorem Z7:TI Tryz.prog 180 (.slice none 0 0) 1 24:=by unfold TI;kernel_rfl
theorem lX:TI Tryz.prog 183 (.agg #[(.int .i64 0),(.int .i64 0),(.int .i64 0)]) 3 24:=by unfold TI;kernel_rfl
end TKHeads
open TKHeads
set_option maxRecDepth 10000
theorem Z8:qq Tryz.prog 178 "Len" 110 false:=by unfold qq;kernel_rfl
theorem Ey:qq Tryz.prog 178 "Less" 328 false:=by unfold qq;kernel_rfl
theorem Ez:qq Tryz.prog 178 "Swap" 331 false:=by unfold qq;kernel_rfl
theorem Z9:qq Tryz.prog 178 "Push" 330 true:=by unfold qq;kernel_rfl
theorem ahE:qq Tryz.prog 178 "Pop" 329 true:=by unfold qq;kernel_rfl
theorem vH {M:aD} {w0:World} {base:Nat} {v:Value} {hs:List Hd} (ho:Own RT.hd 183 M w0 base v hs):
  Spec Tryz.prog 110 #[v] w0 (fun v' w'=>v'= .int .i64 hs.length∧w0=w'):=by
 refine bm (args:=[_]) (fn:=Tryz.f110) Tryz.func110 rfl (n:=5) Tryz.ntmps110 (aj (ae (ah rfl rfl (ab (aj (ae (ad rfl rfl (fE bT rfl ho rfl (ah rfl rfl (ab (aQ ?_)))))))))));exact aV rfl rfl ⟨rfl,rfl⟩
theorem oz {M:aD} {w0:World} {v:Value} {hs:List Hd} {i j:Nat} (hv:((RT.hd).sl).V M w0 hs v) (hi:i<hs.length) (hj:j<hs.length):
  Spec Tryz.prog 328 #[v,.int .i64 i,.int .i64 j] w0 (fun v' w'=>v'= .bool (decide (hn hs i<hn hs j))∧Step M w0 M w' aC):=by
 have hlen:=ej hv;obtain⟨⟨a1,a2,a3⟩,hx⟩:∃x,hs[i]? =some x:=⟨_,ar hi⟩;obtain⟨⟨b1,b2,b3⟩,hy⟩:∃x,hs[j]? =some x:=⟨_,ar hj⟩;refine bm (args:=[_,_,_]) (fn:=Tryz.f328) Tryz.func328 rfl (n:=18) Tryz.ntmps328 (aj (ae (ah rfl rfl (ab (aj ?_)))));apply uG mixed rfl rfl;intro IL K5;have lE:=K5 M;refine ad rfl rfl ?_;refine ab ⟨rfl,rfl,rfl,?_⟩;refine ad rfl rfl ?_;refine ab ⟨rfl,rfl,rfl,?_⟩;refine cF (M:=M) bT lX rfl rfl rfl (hv.le lE.le) (ao _ _) (by first|omega|decide) (fun F2 ahF aaa og=>?_);obtain rfl:(a1,a2,a3)=ahF:=dH (aH (aaa.symm.trans (by rw[ay];exact hx)));refine ab ⟨rfl,rfl,rfl,?_⟩;refine aK (M:=M) (A:=RT.hd) (B:=RT.int .i64) dK rfl rfl I3 (by decide) (R8) rfl rfl (by decide) (by assumption) (by repeat (first|exact ao _ _|refine aX (bu (by assumption)) ?_)) (fun K6 j5=>?_);refine ab ⟨rfl,rfl,rfl,?_⟩;refine cd (M:=M) aw rfl rfl (by assumption) (by repeat (first|exact ao _ _|refine aX (bu (by assumption)) ?_)) (fun Sn=>?_);refine aU (v':= .int .i64 (a1)) rfl ?_;replace Sn: -9223372036854775808≤(a1:Int)∧a1≤9223372036854775807:=Sn;refine ab ⟨rfl,rfl,rfl,?_⟩;refine ad rfl rfl ?_;refine ab ⟨rfl,rfl,rfl,?_⟩;refine ad rfl rfl ?_;refine ab ⟨rfl,rfl,rfl,?_⟩;refine cF (M:=M) bT lX rfl rfl rfl (hv.le lE.le) (ao _ _) (by first|omega|decide) (fun aq3 ahG aab alS=>?_);obtain rfl:(b1,b2,b3)=ahG:=dH (aH (aab.symm.trans (by rw[ay];exact hy)));refine ab ⟨rfl,rfl,rfl,?_⟩;refine aK (M:=M) (A:=RT.hd) (B:=RT.int .i64) dK rfl rfl I3 (by decide) (R8) rfl rfl (by decide) (by assumption) (by repeat (first|exact ao _ _|refine aX (bu (by assumption)) ?_)) (fun aq4 alT=>?_);refine ab ⟨rfl,rfl,rfl,?_⟩
 refine cd (M:=M) aw rfl rfl (by assumption) (by repeat (first|exact ao _ _|refine aX (bu (by assumption)) ?_)) (fun Sq=>?_);refine aU (v':= .int .i64 (b1)) rfl ?_;replace Sq: -9223372036854775808≤(b1:Int)∧b1≤9223372036854775807:=Sq;refine ab ⟨rfl,rfl,rfl,?_⟩;refine cg rfl rfl rfl ?_;refine ab ⟨rfl,rfl,rfl,?_⟩;refine ah rfl rfl ?_;refine ab ⟨rfl,rfl,rfl,?_⟩;refine eZ (aQ ?_);exact aV rfl rfl ⟨by rw[R9 hx,R9 hy],lE⟩
set_option maxHeartbeats 4000000 in
theorem oA {M:aD} {w0:World} {base:Nat} {v:Value} {hs:List Hd} {i j:Nat} (h:Own RT.hd 183 M w0 base v hs) (hv:v≠ .slice none 0 0) (hi:i<hs.length) (hj:j<hs.length):
  Spec Tryz.prog 331 #[v,.int .i64 i,.int .i64 j] w0 (fun v' w'=>Own RT.hd 183 M w' base v (swp hs i j)∧Step M w0 M w' (fK v)):=by
 obtain⟨g,cap,cur,rfl,SO,Ql,Eg⟩:=h.uR hv;obtain⟨⟨x1,x2,x3⟩,hx⟩:∃x,hs[i]? =some x:=⟨_,ar hi⟩;obtain⟨⟨y1,y2,y3⟩,hy⟩:∃x,hs[j]? =some x:=⟨_,ar hj⟩;obtain⟨vx,rq⟩:∃vx,RT.hd.V M w0 (x1,x2,x3) vx:=h.val hx;obtain⟨vy,Rl⟩:∃vy,RT.hd.V M w0 (y1,y2,y3) vy:=h.val hy;obtain⟨rfl,rx1,rx2,rx3⟩:=tb rq;obtain⟨rfl,ry1,ry2,ry3⟩:=tb Rl;refine bm (args:=[_,_,_]) (fn:=Tryz.f331) Tryz.func331 rfl (n:=20) Tryz.ntmps331 ?_;apply T.Q2 (M:=M) mixed [(13,fun k=>k=g),(15,fun k=>k=g)] [cT.eq _,cT.eq _,cT.eq _,cT.eq _,cT.eq _,cT.eq _,cT.eq (.pointer (some ⟨g,j*3,none⟩)),cT.eq (.agg #[.int .i64 y1,.int .i64 y2,.int .i64 y3]),cT.eq _,cT.eq _,cT.eq (.pointer (some ⟨g,i*3,none⟩)),cT.eq (.agg #[.int .i64 x1,.int .i64 x2,.int .i64 x3]),cT.eq (.pointer (some ⟨g,i*3,none⟩)),(cT.mk' (fun _ w=>Own RT.hd 183 M w base (.slice (some ⟨g,0,none⟩) hs.length cap) (hs.set i (y1,y2,y3))∨Own RT.hd 183 M w base (.slice (some ⟨g,0,none⟩) hs.length cap) (swp hs i j)) (fun h s=>h.imp (fun h=>h.aL s) (fun h=>h.aL s))),cT.eq (.pointer (some ⟨g,j*3,none⟩)),(cT.mk' (fun _ w=>Own RT.hd 183 M w base (.slice (some ⟨g,0,none⟩) hs.length cap) (swp hs i j)) (fun h s=>h.aL s))]
 ·rfl
 ·intro p hp b hb;simp only[cb,eI,or_false]at hp;rcases hp with rfl|rfl<;>(have hb:b=g:=hb;subst hb;exact Ql)
 ·refine xF.of [(13,15)] ?_ ?_
  ·exact⟨fun _ _ _ _=>trivial,⟨fun _ _ _ _=>trivial,⟨fun _ _ _ _=>trivial,⟨fun _ _ _ _=>trivial,⟨fun _ _ _ _=>trivial,⟨fun _ _ _ _=>trivial,⟨fun _ _ _ _=>trivial,⟨fun _ _ _ _=>trivial,⟨fun _ _ _ _=>trivial,⟨fun _ _ _ _=>trivial,⟨fun _ _ _ _=>trivial,⟨fun _ _ _ _=>trivial,⟨fun _ _ _ _=>trivial,⟨fun p hp=>(eI (show p∈([]:List (Nat×aD))from hp)).elim,⟨fun _ _ _ _=>trivial,⟨fun p hp=>(eI (show p∈([]:List (Nat×aD))from hp)).elim,trivial⟩⟩⟩⟩⟩⟩⟩⟩⟩⟩⟩⟩⟩⟩⟩⟩
  ·intro x hx s sj h1 h2 v vj w w' hp st hq;obtain rfl:=bJ.1 hx;obtain rfl:=aH h1;obtain rfl:=aH h2;exact Or.inr hq
 ·refine ca ?_ ?_
  ·intro wD E sD;replace sD:Step M _ M wD aC:=sD;refine ad rfl rfl ?_;exact ab ⟨rfl,rfl,_,rfl,rfl,ax _ _⟩
  refine ca ?_ ?_
  ·intro wD E sD;replace sD:Step M _ M wD aC:=sD;refine ad rfl rfl ?_;exact ab ⟨rfl,rfl,_,rfl,rfl,ax _ _⟩
  refine ca ?_ ?_
  ·intro wD E sD;replace sD:Step M _ M wD (fun k=>k=g):=sD;refine ad rfl rfl ?_;exact ab ⟨rfl,rfl,_,rfl,rfl,ax _ _⟩
  refine ca ?_ ?_
  ·intro wD E sD;replace sD:Step M _ M wD (fun k=>k=g):=sD;refine ad rfl rfl ?_;exact ab ⟨rfl,rfl,_,rfl,rfl,ax _ _⟩
  refine ca ?_ ?_
  ·intro wD E sD;replace sD:Step M _ M wD aC:=sD;refine ad rfl rfl ?_;exact ab ⟨rfl,rfl,_,rfl,rfl,ax _ _⟩
  refine ca ?_ ?_
  ·intro wD E sD;replace sD:Step M _ M wD aC:=sD;refine ad rfl rfl ?_;exact ab ⟨rfl,rfl,_,rfl,rfl,ax _ _⟩
  refine ca ?_ ?_
  ·intro wD E sD;replace sD:Step M _ M wD aC:=sD;refine aO (aO (vQ (size:=3) bT lX rfl rfl rfl (by omega) (q:=j*3) (by rw[ay,fR]) ?_));exact ab ⟨rfl,rfl,_,rfl,rfl,ax _ _⟩
  refine ca ?_ ?_
  ·intro wD E sD;replace sD:Step M _ M wD aC:=sD;refine aO ?_;refine cN (M:=fun k=>M k∧k≠g) (A:=RT.hd) dK rfl lX (by decide) rfl rfl rfl ((h.aL sD).ptr hy) (ao _ _) (fun va pW=>?_);obtain⟨rfl,_,_,_⟩:=tb pW;exact ab ⟨rfl,rfl,_,rfl,rfl,ax _ _⟩
  refine ca ?_ ?_
  ·intro wD E sD;replace sD:Step M _ M wD (fun k=>k=g):=sD;refine ad rfl rfl ?_;exact ab ⟨rfl,rfl,_,rfl,rfl,ax _ _⟩
  refine ca ?_ ?_
  ·intro wD E sD;replace sD:Step M _ M wD (fun k=>k=g):=sD;refine ad rfl rfl ?_;exact ab ⟨rfl,rfl,_,rfl,rfl,ax _ _⟩
  refine ca ?_ ?_
  ·intro wD E sD;replace sD:Step M _ M wD (fun k=>k=g):=sD;refine aO (aO (vQ (size:=3) bT lX rfl rfl rfl (by omega) (q:=i*3) (by rw[ay,fR]) ?_));exact ab ⟨rfl,rfl,_,rfl,rfl,ax _ _⟩
  refine ca ?_ ?_
  ·intro wD E sD;replace sD:Step M _ M wD aC:=sD;refine aO ?_;refine cN (M:=fun k=>M k∧k≠g) (A:=RT.hd) dK rfl lX (by decide) rfl rfl rfl ((h.aL sD).ptr hx) (ao _ _) (fun va pW=>?_);obtain⟨rfl,_,_,_⟩:=tb pW;exact ab ⟨rfl,rfl,_,rfl,rfl,ax _ _⟩
  refine ca ?_ ?_
  ·intro wD E sD;replace sD:Step M _ M wD aC:=sD;refine aO (aO (aO (aO (aO (aO (aO (aO (aO (vQ (size:=3) bT lX rfl rfl rfl (by omega) (q:=i*3) (by rw[ay,fR]) ?_)))))))));exact ab ⟨rfl,rfl,_,rfl,rfl,ax _ _⟩
  refine ca ?_ ?_
  ·intro wD E sD;replace sD:Step M _ M wD aC:=sD;refine aO (aO (aO (aO (aO (aO (aO (aO (aO ?_))))))));refine Rg.Fk (A:=RT.hd) (M:=M) lX rfl rfl rfl (h.aL sD) hi (NG ry1 ry2 ry3) (fun w' gy s'=>?_);exact ab ⟨rfl,rfl,undef,rfl,.inl gy,s'⟩
  refine ca ?_ ?_
  ·intro wD E sD;replace sD:Step M _ M wD (fun k=>k=g):=sD;refine aO (aO (aO (aO (aO (aO (aO (aO (aO (aO (aO (aO ?_)))))))))));refine aO (aO (aO ?_));intro WI VM;refine vQ (size:=3) bT lX rfl rfl rfl (by omega) (q:=j*3) (by rw[ay,fR]) ?_;exact ab ⟨rfl,rfl,_,rfl,rfl,ax _ _⟩
  refine ca ?_ ?_
  ·intro wD E sD;replace sD:Step M _ M wD (fun k=>k=g):=sD;refine aO (aO ?_);intro WI VM;refine aO (aO (aO (aO (aO (aO (aO (aO (aO (aO (aO (aO ?_)))))))))));refine aO ?_;intro WI VM;rcases VM with ho|ho
   ·refine Rg.Fk (A:=RT.hd) (M:=M) lX rfl rfl rfl ho (by rw[eV];exact hj) (NG rx1 rx2 rx3) (fun w' gy s'=>?_);exact ab ⟨rfl,rfl,undef,rfl,by rw[HZ hx hy];exact gy,s'⟩
   ·refine Rg.Fk (A:=RT.hd) (M:=M) lX rfl rfl rfl ho (by rw[lV];exact hj) (NG rx1 rx2 rx3) (fun w' gy s'=>?_);exact ab ⟨rfl,rfl,undef,rfl,by rw[Jt hx hy]at gy;exact gy,s'⟩
  exact dR.nil
 ·intro wD0 VN;replace VN:Step M _ M wD0 (fun b=>(fun k=>k=g) b∨(fun k=>k=g) b):=VN;refine aO (aO (aO (aO (aO (aO (aO (aO (aO (aO (aO (aO ?_)))))))))));refine aO ?_;intro alX ahI;refine aO ?_;intro alY VO
  first|refine re ?_|simp+decide only[rf,jC,if_true,if_false]|skip
  exact fU rfl ⟨VO,VN.cH (fun b hb=>by rcases hb with hb|hb<;>(have hb:b=g:=hb;subst hb;rfl)) (fun b hb=>by have hb:b=g:=(aH hb).symm;subst hb;exact Ql)⟩
theorem GX {M:aD} {w0:World} {bh base:Nat} {v:Value} {hs:List Hd} {a b c:Int} (hM:Lt M w0) (h:rA 180 183 M w0 bh base v hs) (ra:lW a) (rb:lW b) (rc:lW c) (hl:hs.length≤1099511627776):
  Spec Tryz.prog 330 #[.pointer (some ⟨bh,0,none⟩),.iface 183 (.agg #[.int .i64 a,.int .i64 b,.int .i64 c])] w0 (fun v' w'=>∃M' v2,rA 180 183 M' w' bh base v2 (hs++[(a,b,c)])∧Lt M' w'∧Step M w0 M' w' (NB 183 M w0 bh base)):=by
 have hbh:=h.h;obtain⟨g,cap,cur,hvg,SO,Ql,Eg⟩:=h.o.uR h.nn;have hgl:=ak Eg;refine bm (args:=[_,_]) (fn:=Tryz.f330) Tryz.func330 rfl (n:=13) Tryz.ntmps330 ?_;apply T.CE (M:=M) mixed [(7,fK v)] [cT.eq _,cT.eq _,cT.eq _,cT.eq _,cT.eq _,cT.eq _,cT.V ((RT.hd).sl) [(a,b,c)],(cT.mk' (fun v w=>∃M2,(∀b,b<w0.heap.size→(M2 b↔M b))∧Lt M2 w∧Own RT.hd 183 M2 w base v (hs++[(a,b,c)])) (fun⟨M2,h1,h2,h3⟩ s=>⟨M2,h1,(s.any M2).lt h2,h3.aL (s.any M2)⟩))] 8
 ·rfl
 ·rfl
 ·rfl
 ·rfl
 ·rfl
 ·intro p hp b hb;obtain rfl:=bJ.1 hp;exact h.o.mut_ b hb
 ·exact⟨fun _ _ _ _=>trivial,⟨fun _ _ _ _=>trivial,⟨fun _ _ _ _=>trivial,⟨fun _ _ _ _=>trivial,⟨fun _ _ _ _=>trivial,⟨fun _ _ _ _=>trivial,⟨fun _ _ _ _=>trivial,⟨fun p hp=>(eI (show p∈([]:List (Nat×aD))from hp)).elim,trivial⟩⟩⟩⟩⟩⟩⟩⟩
 ·refine aJ ?_ ?_
  ·intro wD E sD;replace sD:Step M _ M wD (fK v):=sD;refine ad rfl rfl ?_;exact ab ⟨rfl,rfl,_,rfl,rfl,ax _ _⟩
  refine aJ ?_ ?_
  ·intro wD E sD;replace sD:Step M _ M wD (fK v):=sD;refine ad rfl rfl ?_;exact ab ⟨rfl,rfl,_,rfl,rfl,ax _ _⟩
  refine aJ ?_ ?_
  ·intro wD E sD;replace sD:Step M _ M wD (fK v):=sD;refine aO (bN rfl ⟨_,rfl⟩ rfl ?_);exact ab ⟨rfl,rfl,_,rfl,rfl,ax _ _⟩
  refine aJ ?_ ?_
  ·intro wD E sD;replace sD:Step M _ M wD aC:=sD;refine aO (aP bT rfl rfl rfl (de sD (by assumption)) rfl ?_);exact ab ⟨rfl,rfl,_,rfl,rfl,ax _ _⟩
  refine aJ ?_ ?_
  ·intro wD E sD;replace sD:Step M _ M wD (fK v):=sD;refine ad rfl rfl ?_;exact ab ⟨rfl,rfl,_,rfl,rfl,ax _ _⟩
  refine aJ ?_ ?_
  ·intro wD E sD;replace sD:Step M _ M wD (fK v):=sD;refine aO (Rg.Hl dK rfl rfl rfl ?_);exact ab ⟨rfl,rfl,_,rfl,rfl,ax _ _⟩
  refine aJ ?_ ?_
  ·intro wD E sD;replace sD:Step M _ M wD aC:=sD;refine aO ?_;refine ep (A:=RT.hd) (hn:=by decide) (M:=M) bT lX (by decide) rfl rfl (sD.lt hM) (NG ra rb rc) (.inl rfl) (fun u6 w6 IN s6=>?_);exact ab ⟨rfl,rfl,_,rfl,IN,s6⟩
  refine aJ ?_ ?_
  ·intro wD E sD;replace sD:Step M _ M wD aC:=sD;refine aO ?_;intro v6 sN;refine dd (M:=M) (base:=base) bT lX rfl rfl rfl rfl (h.o.aL sD) sN (ao _ _) (by simp;omega) (by simp;omega) (by have:=sD.size;omega) (fun v7 M7 w7 nZ s7=>?_);exact ab ⟨rfl,rfl,_,rfl,⟨M7,fun b hb=>(s7.mem b (iu hb sD.size)),s7.lt (sD.lt hM),nZ⟩,s7.back⟩
  exact xg
 ·intro wD0 VN;replace VN:Step M _ M wD0 (fK v):=VN;refine aO (aO (aO (aO (aO (aO ?_)))));intro aq8 alZ;intro ahJ aac;obtain⟨M7,hm7,hl7,nZ⟩:=aac;have s7:=VN.ZK hm7 hl7;have hb7:=s7.keep h.h (fun hk=>h.apart bh hk rfl);have mb7:M7 bh:=(hm7 bh (ak h.h)).2 h.mh;refine bN rfl ⟨_,rfl⟩ rfl ?_;refine cw (M:=M7) (u:=v) Z7 rfl rfl hb7 rfl (by obtain⟨_,_,he,_⟩:=nZ.isSlice;rw[he];rfl) mb7 (fun w9 h9 s9=>?_);refine ab ?_
  first|refine re ?_|simp+decide only[rf,jC,if_true,if_false]|skip
  refine fU rfl ⟨M7,ahJ,⟨h9,mb7,nZ.step s9 (fun k hk=>nZ.apart hb7 h.ne k hk),nZ.BR (by simp),h.ne⟩,s9.lt hl7,?_⟩;exact(s7.nbw h).trans s9 (fun b hb he=>⟨he▸h.mh,.inl he⟩)
theorem JI {M:aD} {w0:World} {bh base:Nat} {v:Value} {hs:List Hd} {a b c:Int} (hM:Lt M w0) (h:rA 180 183 M w0 bh base v hs) (hx:hs[hs.length-1]? =some (a,b,c)):
  Spec Tryz.prog 329 #[.pointer (some ⟨bh,0,none⟩)] w0 (fun v' w'=>v'= .iface 183 (.agg #[.int .i64 a,.int .i64 b,.int .i64 c])∧∃M' v2,rA 180 183 M' w' bh base v2 (hs.take (hs.length-1))∧Lt M' w'∧Step M w0 M' w' (NB 183 M w0 bh base)):=by
 obtain⟨g,cap,cur,rfl,SO,Ql,Eg⟩:=h.o.uR h.nn;have hbh:=h.h;have hlen:=h.o.ltM;have tp:=(an.1 hx).1;obtain⟨vx,rq⟩:=h.o.val hx;obtain⟨rfl,ra,rb,rc⟩:=tb rq;obtain⟨_,W2,aad,al4⟩:=h.o.isSlice;simp only[fT]at aad;have lz:hs.length≤cap:=by omega
 refine bm (args:=[_]) (fn:=Tryz.f329) Tryz.func329 rfl (n:=27) Tryz.ntmps329 (aj (ae (ah rfl rfl (ab (aj ?_)))));apply T.CE (M:=M) mixed [] [cT.eq _,cT.eq _,cT.eq _,cT.eq _,cT.eq _,cT.eq _,cT.eq _,cT.eq _,cT.eq (.pointer (some ⟨g,(hs.length-1)*3,none⟩)),cT.eq (.agg #[.int .i64 a,.int .i64 b,.int .i64 c]),(cT.mk' (fun v w=>∃b:Nat,v= .pointer (some ⟨b,0,none⟩)∧w0.heap.size≤b∧b<w.heap.size∧w.heap[b]? =some (.cells #[.int .i64 0,.int .i64 0,.int .i64 0] 183 (0,0))) (fun⟨b,h1,h2,h3,h4⟩ s=>⟨b,h1,h2,iu h3 s.size,s.aM h4⟩))] 11
 ·rfl
 ·rfl
 ·rfl
 ·rfl
 ·rfl
 ·exact fun p hp=>by cases hp
 ·exact vR.none
 ·refine aJ ?_ ?_
  ·intro wD E sD;refine ad rfl rfl ?_;exact ab ⟨rfl,rfl,_,rfl,rfl,ax _ _⟩
  refine aJ ?_ ?_
  ·intro wD E sD;refine aO (bN rfl ⟨_,rfl⟩ rfl ?_);exact ab ⟨rfl,rfl,_,rfl,rfl,ax _ _⟩
  refine aJ ?_ ?_
  ·intro wD E sD;refine aO (aP bT rfl rfl rfl (de sD (by assumption)) rfl ?_);exact ab ⟨rfl,rfl,_,rfl,rfl,ax _ _⟩
  refine aJ ?_ ?_
  ·intro wD E sD;refine ad rfl rfl ?_;exact ab ⟨rfl,rfl,_,rfl,rfl,ax _ _⟩
  refine aJ ?_ ?_
  ·intro wD E sD;refine aO (bN rfl ⟨_,rfl⟩ rfl ?_);exact ab ⟨rfl,rfl,_,rfl,rfl,ax _ _⟩
  refine aJ ?_ ?_
  ·intro wD E sD;refine aO (aP bT rfl rfl rfl (de sD (by assumption)) rfl ?_);exact ab ⟨rfl,rfl,_,rfl,rfl,ax _ _⟩
  refine aJ ?_ ?_
  ·intro wD E sD;refine aO (Rg.mq bT rfl rfl ?_);exact ab ⟨rfl,rfl,_,rfl,rfl,ax _ _⟩
  refine aJ ?_ ?_
  ·intro wD E sD;refine aO (fq rfl rfl rfl (by omega) ?_);exact ab ⟨rfl,rfl,_,rfl,rfl,ax _ _⟩
  refine aJ ?_ ?_
  ·intro wD E sD;refine aO (aO (vQ (size:=3) bT lX rfl rfl rfl (by omega) (q:=(hs.length-1)*3) (by rw[show((hs.length:Int)-1).toNat=hs.length-1 from by omega,fR]) ?_));exact ab ⟨rfl,rfl,_,rfl,rfl,ax _ _⟩
  refine aJ ?_ ?_
  ·intro wD E sD;refine aO ?_;refine cN (M:=fun k=>M k∧k≠g) (A:=RT.hd) dK rfl lX (by decide) rfl rfl rfl ((h.o.aL sD).ptr hx) (ao _ _) (fun va pW=>?_);obtain⟨rfl,_,_,_⟩:=tb pW;exact ab ⟨rfl,rfl,_,rfl,rfl,ax _ _⟩
  refine aJ ?_ ?_
  ·intro wD E sD;refine eE M lX rfl (fun b7 w7 z7 z7' g7 s7=>?_);exact ab ⟨rfl,rfl,_,rfl,⟨b7,rfl,dW sD.size z7,z7',g7⟩,s7.any M⟩
  exact xg
 ·intro IL lE;refine aO (aO (aO (aO (aO (aO (aO (aO (aO (aO ?_)))))))));intro R4 yO;obtain⟨b7,rfl,z7,z7',g7⟩:=yO;have s7:=lE.own z7 z7';refine eG (M:=ins M b7) (vs:=[.int .i64 a,.int .i64 b,.int .i64 c]) lX rfl rfl (by intro u hu;simp only[cb,eI,or_false]at hu;rcases hu with rfl|rfl|rfl<;>rfl) rfl rfl g7 (.inl rfl) (fun w8 g8 s8=>?_);have S8:=s7.cj s8 (fun b hb=>by have hb:b=b7:=hb;rw[hb];exact z7);have L8:=ak hbh;have ahL:=S8.aM hbh;clear hbh;refine ab (aj ?_);apply T.CE (M:=ins M b7) mixed [] [cT.eq _,cT.eq _,cT.eq _,cT.eq _,cT.eq _,cT.eq _,cT.eq _,cT.eq _,cT.eq _,cT.eq (.slice (some ⟨g,0,none⟩) (hs.length-1) cap)] 10
  ·rfl
  ·rfl
  ·rfl
  ·rfl
  ·rfl
  ·exact fun p hp=>by cases hp
  ·exact vR.none
  ·refine aJ ?_ ?_
   ·intro wD E sD;refine ad rfl rfl ?_;exact ab ⟨rfl,rfl,_,rfl,rfl,ax _ _⟩
   refine aJ ?_ ?_
   ·intro wD E sD;refine ad rfl rfl ?_;exact ab ⟨rfl,rfl,_,rfl,rfl,ax _ _⟩
   refine aJ ?_ ?_
   ·intro wD E sD;refine aO (bN rfl ⟨_,rfl⟩ rfl ?_);exact ab ⟨rfl,rfl,_,rfl,rfl,ax _ _⟩
   refine aJ ?_ ?_
   ·intro wD E sD;refine aO (aP bT rfl rfl rfl (de sD (by assumption)) rfl ?_);exact ab ⟨rfl,rfl,_,rfl,rfl,ax _ _⟩
   refine aJ ?_ ?_
   ·intro wD E sD;refine ad rfl rfl ?_;exact ab ⟨rfl,rfl,_,rfl,rfl,ax _ _⟩
   refine aJ ?_ ?_
   ·intro wD E sD;refine aO (bN rfl ⟨_,rfl⟩ rfl ?_);exact ab ⟨rfl,rfl,_,rfl,rfl,ax _ _⟩
   refine aJ ?_ ?_
   ·intro wD E sD;refine aO (aP bT rfl rfl rfl (de sD (by assumption)) rfl ?_);exact ab ⟨rfl,rfl,_,rfl,rfl,ax _ _⟩
   refine aJ ?_ ?_
   ·intro wD E sD;refine aO (Rg.mq bT rfl rfl ?_);exact ab ⟨rfl,rfl,_,rfl,rfl,ax _ _⟩
   refine aJ ?_ ?_
   ·intro wD E sD;refine aO (fq rfl rfl rfl (by omega) ?_);exact ab ⟨rfl,rfl,_,rfl,rfl,ax _ _⟩
   refine aJ ?_ ?_
   ·intro wD E sD;refine aO (aO (Rg.Tq bT lX rfl rfl rfl (by omega) (aU (v':= .slice (some ⟨g,0,none⟩) (hs.length-1) cap) (by rw[show((hs.length:Int)-1).toNat=hs.length-1 from by omega]) ?_)));exact ab ⟨rfl,rfl,_,rfl,rfl,ax _ _⟩
   exact xg
  ·intro wD2 Jn;refine aO (aO (aO (aO (aO (aO (aO (aO (aO (aO (bN rfl ⟨_,rfl⟩ rfl ?_))))))))));refine cw (M:=ins M b7) (u:= .slice (some ⟨g,0,none⟩) hs.length cap) Z7 rfl rfl (Jn.aM ahL) rfl rfl (.inr h.mh) (fun w9 h9 s9=>?_);have g9:=s9.keep (Jn.aM g8) (fun e=>by have e:b7=bh:=e;omega);refine ab (aj (ae (iK (vs:=[.int .i64 a,.int .i64 b,.int .i64 c]) dK rfl lX rfl rfl rfl g9 (Rg.xm dK rfl rfl rfl (ah rfl rfl (ab (aQ ?_)))))));have PY:Own RT.hd 183 (ins M b7) w9 base (.slice (some ⟨g,0,none⟩) hs.length cap) hs:=((h.o.aL S8).aL Jn).step s9 (fun k hk e=>h.apart k hk e);have S9:=(S8.aB Jn).cH (N':=NB 183 M w0 bh base) (fun _ h=>h.elim) (fun _ h=>h.1);exact aV rfl rfl ⟨rfl,ins M b7,_,⟨h9,.inr h.mh,PY.cut (by omega),by simp,h.ne⟩,s9.lt (Jn.lt (S8.lt hM)),S9.trans s9 (fun b hb he=>⟨he▸h.mh,.inl he⟩)⟩
end Go.K
namespace Go.K
open Go.Proofs
namespace TKHeap11
theorem QC:Enters Tryz.prog 110:=enters Tryz.func110 rfl (by decide)
theorem ahM:Enters Tryz.prog 159:=enters Tryz.func159 rfl (by decide)
theorem ahN:Enters Tryz.prog 160:=enters Tryz.func160 rfl (by decide)
theorem NS:Enters Tryz.prog 328:=enters Tryz.func328 rfl (by decide)
theorem ahO:Enters Tryz.prog 329:=enters Tryz.func329 rfl (by decide)
theorem ahP:Enters Tryz.prog 330:=enters Tryz.func330 rfl (by decide)
theorem NT:Enters Tryz.prog 331:=enters Tryz.func331 rfl (by decide)
end TKHeap11
open TKHeap11
set_option maxRecDepth 10000
theorem QD {M:aD} {w0:World} {bh base:Nat} {v:Value} {hs:List Hd} {j:Nat} (h0:rA 180 183 M w0 bh base v hs) (dw:OG hs j) (W7:j<hs.length) (hl:hs.length≤140737488355328):
  Spec Tryz.prog 159 #[.iface 178 (.pointer (some ⟨bh,0,none⟩)),.int .i64 j] w0 (fun v' w'=>∃qV,rA 180 183 M w' bh base v qV∧p8 qV∧qV.Perm hs∧Step M w0 M w' (fK v)):=by
 refine bm (args:=[_,_]) (fn:=Tryz.f159) Tryz.func159 rfl (n:=23) Tryz.ntmps159 (aZ ?_);refine dn (σ:=Nat×List Hd) (fun s=>[(0,.iface 178 (.pointer (some ⟨bh,0,none⟩))),(1,.int .i64 s.1)]) (fun s w=>rA 180 183 M w bh base v s.2∧OG s.2 s.1∧s.1<s.2.length∧s.2.length=hs.length∧s.2.Perm hs∧Step M w0 M w (fK v)) (fun s=>s.1) (j,hs) (.cons rfl (.cons rfl .nil)) ?_ ?_
 ·exact⟨h0,dw,W7,rfl,List.Perm.refl _,(ax _ _).cH (fun _ h=>h.elim) (fun b hb=>h0.o.mut_ b hb)⟩
 ·rintro⟨k,xs⟩ w1 ⟨h,hu,hk,qd,hp,S⟩;dsimp only at h hu hk qd hp ⊢;refine aZ (aj (ae (ad rfl rfl (fq rfl rfl rfl (by omega) (Rg.par rfl rfl rfl (by omega) ?_)))));obtain⟨i,hi⟩:∃i:Nat,i=(k-1)/2:=⟨_,rfl⟩;rw[←hi];refine ah rfl rfl (ab (aj (aj (ae (ad rfl rfl (ad rfl rfl (qZ rfl rfl rfl (ad rfl rfl ?_))))))));refine aR (g:=11) rfl (fun lv=>?_) (fun lv=>?_)
  ·refine au rfl rfl rfl rfl (au rfl rfl rfl rfl (au rfl rfl rfl rfl (au rfl rfl rfl rfl (au rfl rfl rfl rfl (a8 rfl rfl rfl (ab (nG rfl (cK ?_))))))))
   first|refine re ?_|simp+decide only[rf,jC,if_true,if_false]|skip
   first
   |exact fU rfl ⟨xs,h,hu.done (.inl (by omega)),hp,S⟩
   |exact fU rfl ⟨xs,h,hu.done (.inr (by rw[←hi];omega)),hp,S⟩
  ·refine al rfl rfl (ad rfl rfl (al rfl rfl (ad rfl rfl (al rfl rfl (ad rfl rfl (al rfl rfl ?_))))));refine mP rfl rfl rfl (Ey.load du bT rfl h.h rfl) NS (oz (i:=k) (j:=i) (h.view (by omega)) (by omega) (by omega)) (fun r w2 hq=>?_);obtain⟨rfl,sq⟩:=hq;have h:=h.aL (sq.any M);replace S:=S.aB (sq.any M);refine al rfl rfl (mO rfl rfl (aU (v':= .bool (decide (¬(hn xs k<hn xs i)))) (by rw[decide_not]) (aE rfl rfl rfl (ab ?_))));refine bI rfl (fun c1=>?_) (fun c1=>?_)
   ·refine cK ?_
    first|refine re ?_|simp+decide only[rf,jC,if_true,if_false]|skip
    first
    |exact fU rfl ⟨xs,h,hu.done (.inl (by omega)),hp,S⟩
    |exact fU rfl ⟨xs,h,hu.done (.inr (by rw[←hi];omega)),hp,S⟩
   ·have dV:=dJ.1 c1;refine aT (aj (ae (ad rfl rfl (ad rfl rfl (ad rfl rfl ?_)))));refine mP rfl rfl rfl (Ez.load du bT rfl h.h rfl) NT (oA (i:=i) (j:=k) h.o h.nn (by omega) (by omega)) (fun r w3 hq=>?_);obtain⟨ho,sq⟩:=hq;have h2:=h.wrote sq ho;have S2:=S.trans sq (fun _ _ h=>h);refine ab (ae (ad rfl rfl (ah rfl rfl (ab ?_))));refine⟨rfl,(i,swp xs i k),(.cons rfl (.cons rfl .nil)),?_,?_⟩
    ·refine⟨h2,?_,by rw[lV];simp only;omega,by rw[lV];exact qd,(qH (by omega) hk).trans hp,S2⟩;simp only;rw[hi];exact hu.swap hk (by omega) (by rw[←hi];exact dV)
    ·simp only;omega
theorem JJ {M:aD} {w0:World} {bh base:Nat} {v:Value} {hs:List Hd} {n:Nat} (h0:rA 180 183 M w0 bh base v hs) (R8:J5 hs n 0) (hn0:n≤hs.length) (hl:hs.length≤140737488355328):
  Spec Tryz.prog 160 #[.iface 178 (.pointer (some ⟨bh,0,none⟩)),.int .i64 0,.int .i64 n] w0 (fun v' w'=>∃qV,rA 180 183 M w' bh base v qV∧(∀k,0<k→k<n→hn qV ((k-1)/2)≤hn qV k)∧qV.Perm hs∧(∀k,n≤k→qV.getD k (0,0,0)=hs.getD k (0,0,0))∧Step M w0 M w' (fK v)):=by
 refine bm (args:=[_,_,_]) (fn:=Tryz.f160) Tryz.func160 rfl (n:=48) Tryz.ntmps160 (aj (ae (ah rfl rfl (ab (aj (ae (ad rfl rfl (ah rfl rfl (ab (aj (aZ ?_)))))))))));refine dn (σ:=Nat×List Hd) (fun s=>[(0,.iface 178 (.pointer (some ⟨bh,0,none⟩))),(1,.int .i64 0),(2,.int .i64 n),(7,.int .i64 s.1)]) (fun s w=>rA 180 183 M w bh base v s.2∧J5 s.2 n s.1∧s.1≤n∧s.2.length=hs.length∧s.2.Perm hs∧(∀k,n≤k→s.2.getD k (0,0,0)=hs.getD k (0,0,0))∧Step M w0 M w (fK v)) (fun s=>n-s.1) (0,hs) (.cons rfl (.cons rfl (.cons rfl (.cons rfl .nil)))) ?_ ?_
 ·exact⟨h0,R8,bD _,rfl,List.Perm.refl _,fun _ _=>rfl,(ax _ _).cH (fun _ h=>h.elim) (fun b hb=>h0.o.mut_ b hb)⟩
 ·rintro⟨i,xs⟩ w1 ⟨h,hd,ku,qd,hp,hk,S⟩;dsimp only at h hd ku qd hp hk ⊢;refine aZ (aj (ae (ad rfl rfl (Rg.OO rfl rfl rfl (by omega) (bC rfl rfl rfl (by omega) (aU (v':= .int .i64 ((2*i+1:Nat):Int)) (congrArg _ (by omega)) (ah rfl rfl (ab (aj (aj (ae ?_)))))))))));refine ad rfl rfl (ad rfl rfl (dY rfl rfl rfl (ad rfl rfl ?_)));refine aR (g:=18) rfl (fun ahQ=>?_) (fun ahQ=>?_)
  ·refine au rfl rfl rfl rfl (au rfl rfl rfl rfl (a8 rfl rfl rfl (ab (nG rfl (cK (aj (ae (ad rfl rfl (ad rfl rfl (iY rfl rfl rfl (ah rfl rfl ?_)))))))))));refine ab (aQ ?_)
   first
   |exact aV rfl rfl ⟨xs,h,hd.leaf (by omega),hp,hk,S⟩
   |exact aV rfl rfl ⟨xs,h,hd.stay B2 KH (by omega),hp,hk,S⟩
  ·refine al rfl rfl (ad rfl rfl (al rfl rfl (cg rfl rfl rfl (aE rfl rfl rfl (ab (T.wO rfl ((by omega)) (aT (aj (ae (ad rfl rfl (ah rfl rfl ?_)))))))))));refine ab (aj (aj (ae (ad rfl rfl (bC rfl rfl rfl (by omega) (aU (v':= .int .i64 ((2*i+2:Nat):Int)) (congrArg _ (by omega)) (ah rfl rfl (ab (aj (ae (ad rfl rfl ?_)))))))))));refine ad rfl rfl (cg rfl rfl rfl (ad rfl rfl ?_));refine aR (g:=28) rfl (fun oa=>?_) (fun oa=>?_)
   ·refine al rfl rfl (ad rfl rfl (al rfl rfl (ad rfl rfl (al rfl rfl (ad rfl rfl (al rfl rfl ?_))))));refine mP rfl rfl rfl (Ey.load du bT rfl h.h rfl) NS (oz (i:=2*i+2) (j:=2*i+1) (h.view (by omega)) (by omega) (by omega)) (fun r w2 hq=>?_);obtain⟨rfl,sq⟩:=hq;have h:=h.aL (sq.any M);replace S:=S.aB (sq.any M);refine a8 rfl rfl rfl (ab ?_);refine bI rfl (fun c6=>?_) (fun c6=>?_)
    ·obtain⟨j,hj⟩:∃j:Nat,j=2*i+2:=⟨_,rfl⟩;have B2:j=2*i+1∨j=2*i+2:=by omega
     have JS:j<n:=by omega
     have KH:∀k,(k=2*i+1∨k=2*i+2)→k<n→hn xs j≤hn xs k:=fun k hk Gc=>by
      rcases hk with e|e
      ·rw[e,hj];omega
      ·rw[e,hj];exact Int.le_refl _
     refine ae (ad rfl rfl (ah rfl rfl (ab (aj (aj (ae (ad rfl rfl (ad rfl rfl (aU (v':= .int .i64 (j:Int)) (congrArg _ (by omega)) (ad rfl rfl ?_))))))))));refine mP rfl rfl rfl (Ey.load du bT rfl h.h rfl) NS (oz (i:=j) (j:=i) (h.view (by omega)) (by omega) (by omega)) (fun r w3 hq=>?_);obtain⟨rfl,sq⟩:=hq;have h:=h.aL (sq.any M);replace S:=S.aB (sq.any M);refine mO rfl rfl (aU (v':= .bool (decide (¬(hn xs j<hn xs i)))) (by rw[decide_not]) (ab ?_));refine bI rfl (fun c8=>?_) (fun c8=>?_)
     ·refine cK (aj (ae (ad rfl rfl (ad rfl rfl (iY rfl rfl rfl (ah rfl rfl (ab (aQ ?_))))))))
      first
      |exact aV rfl rfl ⟨xs,h,hd.leaf (by omega),hp,hk,S⟩
      |exact aV rfl rfl ⟨xs,h,hd.stay B2 KH (by omega),hp,hk,S⟩
     ·have dV:=dJ.1 c8;refine aT (aj (ae (ad rfl rfl (ad rfl rfl (ad rfl rfl (aU (v':= .int .i64 (j:Int)) (congrArg _ (by omega)) ?_))))));refine mP rfl rfl rfl (Ez.load du bT rfl h.h rfl) NT (oA (i:=i) (j:=j) h.o h.nn (by omega) (by omega)) (fun r w4 hq=>?_);obtain⟨ho,sq⟩:=hq;have h2:=h.wrote sq ho;have S2:=S.trans sq (fun _ _ h=>h);refine ab (ae (ad rfl rfl (aU (v':= .int .i64 (j:Int)) (congrArg _ (by omega)) (ah rfl rfl (ab ?_)))));refine⟨rfl,(j,swp xs i j),(.cons rfl (.cons rfl (.cons rfl (.cons rfl .nil)))),?_,?_⟩
      ·refine⟨h2,hd.swap (by omega) JS B2 KH dV,by simp only;omega,by simp only;rw[lV];exact qd,(qH (by omega) (by omega)).trans hp,fun k Gc=>?_,S2⟩;simp only;rw[qG (by omega) (by omega),if_neg (by omega),if_neg (by omega)];exact hk k Gc
      ·simp only;omega
    ·obtain⟨j,hj⟩:∃j:Nat,j=2*i+1:=⟨_,rfl⟩;have B2:j=2*i+1∨j=2*i+2:=by omega
     have JS:j<n:=by omega
     have KH:∀k,(k=2*i+1∨k=2*i+2)→k<n→hn xs j≤hn xs k:=fun k hk Gc=>by
      rcases hk with e|e
      ·rw[e,hj];exact Int.le_refl _
      ·rw[e,hj];exact Int.not_lt.1 c6
     refine aT (aj (aj (ae (ad rfl rfl (ad rfl rfl (aU (v':= .int .i64 (j:Int)) (congrArg _ (by omega)) (ad rfl rfl ?_)))))));refine mP rfl rfl rfl (Ey.load du bT rfl h.h rfl) NS (oz (i:=j) (j:=i) (h.view (by omega)) (by omega) (by omega)) (fun r w3 hq=>?_);obtain⟨rfl,sq⟩:=hq;have h:=h.aL (sq.any M);replace S:=S.aB (sq.any M);refine mO rfl rfl (aU (v':= .bool (decide (¬(hn xs j<hn xs i)))) (by rw[decide_not]) (ab ?_));refine bI rfl (fun c8=>?_) (fun c8=>?_)
     ·refine cK (aj (ae (ad rfl rfl (ad rfl rfl (iY rfl rfl rfl (ah rfl rfl (ab (aQ ?_))))))))
      first
      |exact aV rfl rfl ⟨xs,h,hd.leaf (by omega),hp,hk,S⟩
      |exact aV rfl rfl ⟨xs,h,hd.stay B2 KH (by omega),hp,hk,S⟩
     ·have dV:=dJ.1 c8;refine aT (aj (ae (ad rfl rfl (ad rfl rfl (ad rfl rfl (aU (v':= .int .i64 (j:Int)) (congrArg _ (by omega)) ?_))))));refine mP rfl rfl rfl (Ez.load du bT rfl h.h rfl) NT (oA (i:=i) (j:=j) h.o h.nn (by omega) (by omega)) (fun r w4 hq=>?_);obtain⟨ho,sq⟩:=hq;have h2:=h.wrote sq ho;have S2:=S.trans sq (fun _ _ h=>h);refine ab (ae (ad rfl rfl (aU (v':= .int .i64 (j:Int)) (congrArg _ (by omega)) (ah rfl rfl (ab ?_)))));refine⟨rfl,(j,swp xs i j),(.cons rfl (.cons rfl (.cons rfl (.cons rfl .nil)))),?_,?_⟩
      ·refine⟨h2,hd.swap (by omega) JS B2 KH dV,by simp only;omega,by simp only;rw[lV];exact qd,(qH (by omega) (by omega)).trans hp,fun k Gc=>?_,S2⟩;simp only;rw[qG (by omega) (by omega),if_neg (by omega),if_neg (by omega)];exact hk k Gc
      ·simp only;omega
   ·obtain⟨j,hj⟩:∃j:Nat,j=2*i+1:=⟨_,rfl⟩;have B2:j=2*i+1∨j=2*i+2:=by omega
    have JS:j<n:=by omega
    have KH:∀k,(k=2*i+1∨k=2*i+2)→k<n→hn xs j≤hn xs k:=fun k hk Gc=>by
     rcases hk with e|e
     ·rw[e,hj];exact Int.le_refl _
     ·omega
    refine au rfl rfl rfl rfl (au rfl rfl rfl rfl (au rfl rfl rfl rfl (au rfl rfl rfl rfl (aE rfl rfl rfl (ab (jt rfl (aT (aj (aj (ae (ad rfl rfl ?_)))))))))));refine ad rfl rfl (aU (v':= .int .i64 (j:Int)) (congrArg _ (by omega)) (ad rfl rfl ?_));refine mP rfl rfl rfl (Ey.load du bT rfl h.h rfl) NS (oz (i:=j) (j:=i) (h.view (by omega)) (by omega) (by omega)) (fun r w3 hq=>?_);obtain⟨rfl,sq⟩:=hq;have h:=h.aL (sq.any M);replace S:=S.aB (sq.any M);refine mO rfl rfl (aU (v':= .bool (decide (¬(hn xs j<hn xs i)))) (by rw[decide_not]) (ab ?_));refine bI rfl (fun c8=>?_) (fun c8=>?_)
    ·refine cK (aj (ae (ad rfl rfl (ad rfl rfl (iY rfl rfl rfl (ah rfl rfl (ab (aQ ?_))))))))
     first
     |exact aV rfl rfl ⟨xs,h,hd.leaf (by omega),hp,hk,S⟩
     |exact aV rfl rfl ⟨xs,h,hd.stay B2 KH (by omega),hp,hk,S⟩
    ·have dV:=dJ.1 c8;refine aT (aj (ae (ad rfl rfl (ad rfl rfl (ad rfl rfl (aU (v':= .int .i64 (j:Int)) (congrArg _ (by omega)) ?_))))));refine mP rfl rfl rfl (Ez.load du bT rfl h.h rfl) NT (oA (i:=i) (j:=j) h.o h.nn (by omega) (by omega)) (fun r w4 hq=>?_);obtain⟨ho,sq⟩:=hq;have h2:=h.wrote sq ho;have S2:=S.trans sq (fun _ _ h=>h);refine ab (ae (ad rfl rfl (aU (v':= .int .i64 (j:Int)) (congrArg _ (by omega)) (ah rfl rfl (ab ?_)))));refine⟨rfl,(j,swp xs i j),(.cons rfl (.cons rfl (.cons rfl (.cons rfl .nil)))),?_,?_⟩
     ·refine⟨h2,hd.swap (by omega) JS B2 KH dV,by simp only;omega,by simp only;rw[lV];exact qd,(qH (by omega) (by omega)).trans hp,fun k Gc=>?_,S2⟩;simp only;rw[qG (by omega) (by omega),if_neg (by omega),if_neg (by omega)];exact hk k Gc
     ·simp only;omega
theorem JK {M:aD} {w0:World} {bh base:Nat} {v:Value} {hs:List Hd} {a b c:Int} (hM:Lt M w0) (h:rA 180 183 M w0 bh base v hs) (hh:p8 hs) (ra:lW a) (rb:lW b) (rc:lW c) (hl:hs.length≤1099511627776):
  Spec Tryz.prog 109 #[.iface 178 (.pointer (some ⟨bh,0,none⟩)),.iface 183 (.agg #[.int .i64 a,.int .i64 b,.int .i64 c])] w0 (fun v' w'=>∃M' v2 qV,rA 180 183 M' w' bh base v2 qV∧p8 qV∧qV.Perm (hs++[(a,b,c)])∧Lt M' w'∧Step M w0 M' w' (NB 183 M w0 bh base)):=by
 refine bm (args:=[_,_]) (fn:=Tryz.f109) Tryz.func109 rfl (n:=12) Tryz.ntmps109 (aj (ae (ad rfl rfl (ad rfl rfl ?_))));refine mP rfl rfl rfl (Z9.ptr du _) ahP (GX hM h ra rb rc hl) (fun r w1 hq=>?_);obtain⟨M1,v1,h1,nI,s1⟩:=hq;refine ab (ae (ad rfl rfl (ad rfl rfl ?_)));refine mP rfl rfl rfl (Z8.load du bT rfl h1.h rfl) QC (vH h1.o) (fun r w2 hq=>?_);obtain⟨rfl,rfl⟩:=hq;have Ik:(hs++[(a,b,c)]).length=hs.length+1:=by simp
 refine fq rfl rfl rfl (by omega) (aU (v':= .int .i64 (hs.length:Int)) (congrArg _ (by omega)) ?_);refine aY rfl rfl ahM (QD h1 (OG.push hh _) (by omega) (by omega)) (fun r2 w3 h=>?_);obtain⟨qV,h2,hh2,Hk,s2⟩:=h;refine ab ?_
 first|refine re ?_|simp+decide only[rf,jC,if_true,if_false]|skip
 exact fU rfl ⟨M1,v1,qV,h2,hh2,Hk,s2.lt nI,s1.nb (s2.nbw h1)⟩
theorem NU {M:aD} {w0:World} {bh base:Nat} {v:Value} {hs:List Hd} (hM:Lt M w0) (h:rA 180 183 M w0 bh base v hs) (hh:p8 hs) (tp:0<hs.length) (hl:hs.length≤1099511627776):
  Spec Tryz.prog 111 #[.iface 178 (.pointer (some ⟨bh,0,none⟩))] w0 (fun v' w'=>∃a b c M' v2 qV,v'= .iface 183 (.agg #[.int .i64 a,.int .i64 b,.int .i64 c])∧(lW a∧lW b∧lW c)∧rA 180 183 M' w' bh base v2 qV∧p8 qV∧((a,b,c)::qV).Perm hs∧(∀x∈hs,a≤x.1)∧Lt M' w'∧Step M w0 M' w' (NB 183 M w0 bh base)):=by
 refine bm (args:=[_]) (fn:=Tryz.f111) Tryz.func111 rfl (n:=15) Tryz.ntmps111 (aj (ae (ah rfl rfl (ab (aj (ae (ad rfl rfl ?_)))))));refine mP rfl rfl rfl (Z8.load du bT rfl h.h rfl) QC (vH h.o) (fun r w1 hq=>?_);obtain⟨rfl,rfl⟩:=hq;refine fq rfl rfl rfl (by omega) (aU (v':= .int .i64 ((hs.length-1:Nat):Int)) (congrArg _ (by omega)) (ah rfl rfl (ab (aj (ae (ad rfl rfl (ad rfl rfl ?_)))))));refine mP rfl rfl rfl (Ez.load du bT rfl h.h rfl) NT (oA (i:=0) (j:=hs.length-1) h.o h.nn (by omega) (by omega)) (fun r w2 hq=>?_);obtain⟨tc,s2⟩:=hq;have h2:=h.wrote s2 tc;have mQ:=lV hs 0 (hs.length-1);refine ab (aj (ae (ad rfl rfl (ad rfl rfl ?_))));refine aY rfl rfl ahN (JJ h2 (J5.pop hh tp) (by omega) (by omega)) (fun r3 w3 h=>?_);obtain⟨ys,h3,Kb,hp3,hk3,s3⟩:=h;have hpp:=hp3.trans (qH (xs:=hs) (i:=0) (j:=hs.length-1) (by omega) (by omega));have Fh:=hpp.length_eq;have jh:ys.getD (hs.length-1) (0,0,0)=hs.getD 0 (0,0,0):=by rw[hk3 _ (aN _),qG (by omega) (by omega),if_pos rfl]
 obtain⟨⟨a,b,c⟩,Jh⟩:∃x,ys[ys.length-1]? =some x:=⟨_,ar (by omega)⟩;obtain⟨x,hxe,hpx⟩:=Qi tp hpp jh;have ahR:x=(a,b,c):=by rw[←hxe,aA,←Fh,Jh];rfl
 subst ahR;obtain⟨vx,rq⟩:=h3.o.val Jh;obtain⟨_,ra,rb,rc⟩:=tb rq;refine ab (aj (ae (ad rfl rfl ?_)));refine mP rfl rfl rfl (ahE.ptr du _) ahO (JI (s3.lt (s2.lt hM)) h3 Jh) (fun r w4 hq=>?_);obtain⟨rfl,M4,v4,h4,hM4,s4⟩:=hq;refine ah rfl rfl (ab (aQ ?_));rw[Fh]at h4
 have NF:∀x∈hs,a≤x.1:=fun x hx=>by
  obtain⟨k,hk,_,Ba⟩:=VA hx;have:=hh.min k hk;have e0:hn hs 0=a:=by unfold hn;rw[←jh,hxe]
  omega
 have sS:=((s2.trans s3 (fun _ _ h=>h)).nbw h).nb s4;exact aV rfl rfl ⟨a,b,c,M4,v4,_,rfl,⟨ra,rb,rc⟩,h4,p8.take (by omega) Kb,hpx,NF,hM4,sS⟩
end Go.K
namespace Go.K
open Go.Proofs
namespace TKPut11
theorem lX:TI Tryz.prog 183 (.agg #[(.int .i64 0),(.int .i64 0),(.int .i64 0)]) 3 24:=by unfold TI;kernel_rfl
theorem ahS:placesOf Tryz.prog 183=[(0,1),(1,1),(2,1)].map some:=by kernel_rfl
theorem ahT:Enters Tryz.prog 109:=enters Tryz.func109 rfl (by decide)
end TKPut11
open TKPut11
set_option maxRecDepth 10000
theorem EA {M:aD} {w0:World} {bl b4 bh base:Nat} {vl v:Value} {ls:List (List Int)} {hs:List Hd} {i k:Nat} (hM:Lt M w0) (kE:w0.heap[bl]? =some (.cells #[vl] 119 (0,0))) (ru:w0.heap[b4]? =some (.cells #[.pointer (some ⟨bh,0,none⟩)] 178 (0,0))) (hv:(((RT.int .i64).sl).sl).V M w0 ls vl) (h:rA 180 183 M w0 bh base v hs) (hh:p8 hs) (hi:i<ls.length) (hk:k≤1099511627776) (hl:hs.length≤1099511627776):
  Spec Tryz.prog 108 #[.int .i64 i,.int .i64 k,.pointer (some ⟨bl,0,none⟩),.pointer (some ⟨b4,0,none⟩)] w0 (fun v' w'=>∃M' v2 qV,rA 180 183 M' w' bh base v2 qV∧p8 qV∧qV.Perm (hs++Js ls i k)∧Lt M' w'∧Step M w0 M' w' (NB 183 M w0 bh base)):=by
 have hlen:=ej hv;obtain⟨li,hli⟩:∃x,ls[i]? =some x:=⟨_,ar hi⟩;have pT:ls.getD i []=li:=by rw[aA,hli];rfl
 refine bm (args:=[_,_,_,_]) (fn:=Tryz.f108) Tryz.func108 rfl (n:=27) Tryz.ntmps108 (aj (ae (ad rfl rfl (aP cP rfl rfl rfl kE rfl (ad rfl rfl ?_)))));refine cF (M:=M) cP kD rfl rfl rfl (hv) (ao _ _) (by first|omega|decide) (fun aq9 ahV aaf al6=>?_);obtain rfl:li=ahV:=dH (aH (aaf.symm.trans (by rw[ay];exact hli)));refine bR (M:=M) aq rfl rfl rfl rfl rfl (by assumption) (by repeat (first|exact ao _ _|refine aX (bu (by assumption)) ?_)) (fun ahW NV=>?_);replace NV:(((RT.int .i64).sl)).V M _ li ahW:=NV
 first|refine bQ aq rfl (by assumption) rfl ?_|refine fE aq rfl (by assumption) rfl ?_
 refine cg rfl rfl rfl (ab ?_);refine bI rfl (fun c0=>?_) (fun c0=>?_)
 ·obtain⟨n,hn⟩:∃x,li[k]? =some x:=⟨_,ar (by omega)⟩;have rn:lW n:=A5 NV hn;have T3:Js ls i k=[(n,(i:Int),(k:Int))]:=by unfold Js;rw[pT,hn]
  apply T.CE (M:=M) mixed [] [cT.eq _,cT.eq (.iface 178 (.pointer (some ⟨bh,0,none⟩))),cT.eq _,cT.eq _,cT.ptr (((RT.int .i64).sl)) li,cT.V (((RT.int .i64).sl)) li,cT.eq _,cT.ptr (RT.int .i64) n,cT.eq (.int .i64 n),cT.eq _,cT.eq _,cT.eq (.agg #[.int .i64 n,.int .i64 i,.int .i64 k]),cT.eq (.iface 183 (.agg #[.int .i64 n,.int .i64 i,.int .i64 k]))] 13
  ·rfl
  ·rfl
  ·rfl
  ·rfl
  ·rfl
  ·exact fun p hp=>by cases hp
  ·exact vR.none
  ·refine aJ ?_ ?_
   ·intro wD E sD;refine aP du rfl rfl rfl (sD.aM ru) rfl ?_;exact ab ⟨rfl,rfl,_,rfl,rfl,ax _ _⟩
   refine aJ ?_ ?_
   ·intro wD E sD;refine aO (Rg.xm du rfl rfl rfl ?_);exact ab ⟨rfl,rfl,_,rfl,rfl,ax _ _⟩
   refine aJ ?_ ?_
   ·intro wD E sD;refine aP cP rfl rfl rfl (sD.aM kE) rfl ?_;exact ab ⟨rfl,rfl,_,rfl,rfl,ax _ _⟩
   refine aJ ?_ ?_
   ·intro wD E sD;refine ad rfl rfl ?_;exact ab ⟨rfl,rfl,_,rfl,rfl,ax _ _⟩
   refine aJ ?_ ?_
   ·intro wD E sD;refine aO (aO ?_);refine cF (M:=M) cP kD rfl rfl rfl (hv.le sD.le) (ao _ _) (by omega) (fun ui ai mI hui=>?_);obtain rfl:li=ai:=dH (aH (mI.symm.trans (by rw[ay];exact hli)));exact ab ⟨rfl,rfl,_,rfl,hui,ax _ _⟩
   refine aJ ?_ ?_
   ·intro wD E sD;intro v4 qR;refine bR (M:=M) aq rfl rfl rfl rfl rfl (show cQ (((RT.int .i64).sl)) M wD v4 li from qR) (ao _ _) (fun va pW=>?_);exact ab ⟨rfl,rfl,_,rfl,pW,ax _ _⟩
   refine aJ ?_ ?_
   ·intro wD E sD;refine ad rfl rfl ?_;exact ab ⟨rfl,rfl,_,rfl,rfl,ax _ _⟩
   refine aJ ?_ ?_
   ·intro wD E sD;intro v5 qf;refine aO ?_;refine cF (M:=M) aq I3 rfl rfl rfl ((show((RT.int .i64).sl).V M wD li v5 from qf)) (ao _ _) (by omega) (fun ui ai mI hui=>?_);obtain rfl:n=ai:=dH (aH (mI.symm.trans (by rw[ay];exact hn)));exact ab ⟨rfl,rfl,_,rfl,hui,ax _ _⟩
   refine aJ ?_ ?_
   ·intro wD E sD;intro v7 Bz;refine cd (M:=M) aw rfl rfl (show cQ (RT.int .i64) M wD v7 n from Bz) (ao _ _) (fun ku=>?_);exact ab ⟨rfl,rfl,_,rfl,rfl,ax _ _⟩
   refine aJ ?_ ?_
   ·intro wD E sD;refine ad rfl rfl ?_;exact ab ⟨rfl,rfl,_,rfl,rfl,ax _ _⟩
   refine aJ ?_ ?_
   ·intro wD E sD;refine ad rfl rfl ?_;exact ab ⟨rfl,rfl,_,rfl,rfl,ax _ _⟩
   refine aJ ?_ ?_
   ·intro wD E sD;refine aO (aO (aO (iS (places:=[(0,1),(1,1),(2,1)]) dK lX ahS rfl ⟨_,_,rfl,rfl,_,_,rfl,rfl,_,_,rfl,rfl,rfl⟩ (out:=[_,_,_]) ⟨0,[_],rfl,rfl,by simp[Value.cells],1,[_],rfl,rfl,by simp[Value.cells],2,[_],rfl,rfl,by simp[Value.cells],rfl⟩ ?_)));exact ab ⟨rfl,rfl,_,rfl,rfl,ax _ _⟩
   refine aJ ?_ ?_
   ·intro wD E sD;refine aO (Rg.xm dK rfl rfl rfl ?_);exact ab ⟨rfl,rfl,_,rfl,rfl,ax _ _⟩
   exact xg
  ·intro IL lE;refine aO (aO (aO (aO ?_)));intro ara al7;intro arb al8;refine aO ?_;intro YZ RR;refine aO (aO (aO (aO (aO ?_))));refine aY rfl rfl ahT (JK (lE.lt hM) (h.aL lE) hh rn (by unfold lW;omega) (by unfold lW;omega) hl) (fun r w1 hq=>?_);obtain⟨M1,v1,qV,h1,hh1,OC,nI,s1⟩:=hq;refine ab ?_
   first|refine re ?_|simp+decide only[rf,jC,if_true,if_false]|skip
   exact fU rfl ⟨M1,v1,qV,h1,hh1,by rw[T3];exact OC,nI,lE.nb0.nb s1⟩
 ·have T3:Js ls i k=[]:=by unfold Js;rw[pT,dx (by omega)]
  refine aT ?_
  first|refine re ?_|simp+decide only[rf,jC,if_true,if_false]|skip
  exact fU rfl ⟨M,v,hs,h,hh,by rw[T3,ia],hM,(ax _ _).nb0⟩
end Go.K
namespace Go.K
open Go.Proofs
namespace TKRises11
theorem UW:Enters Tryz.prog 51:=enters Tryz.func51 rfl (by decide)
theorem ahY:Enters Tryz.prog 106:=enters Tryz.func106 rfl (by decide)
theorem ahZ:Enters Tryz.prog 107:=enters Tryz.func107 rfl (by decide)
theorem ah0:Enters Tryz.prog 156:=enters Tryz.func156 rfl (by decide)
theorem ah1:Enters Tryz.prog 157:=enters Tryz.func157 rfl (by decide)
theorem ah2:Enters Tryz.prog 158:=enters Tryz.func158 rfl (by decide)
end TKRises11
open TKRises11
set_option maxRecDepth 10000
theorem EB {M:aD} {w0:World} {v:Value} {l:List Int} (hM:Lt M w0) (hv:((RT.int .i64).sl).V M w0 l v) (hl:l.length≤1099511627776):
  Spec Tryz.prog 107 #[v] w0 (fun v' w'=>v'= .bool (eA (-1) l)∧Step M w0 M w' aC):=by
 refine bm (args:=[_]) (fn:=Tryz.f107) Tryz.func107 rfl (n:=25) Tryz.ntmps107 (aj (ae (ah rfl rfl (ab (aj (ae (ad rfl rfl (bQ aq rfl hv rfl (qZ rfl rfl rfl (ad rfl rfl ?_))))))))));refine aR (g:=6) rfl (fun lv=>?_) (fun lv=>?_)
 ·refine au rfl rfl rfl rfl (au rfl rfl rfl rfl (au rfl rfl rfl rfl (au rfl rfl rfl rfl (au rfl rfl rfl rfl (cq rfl rfl rfl (cq rfl rfl rfl (au rfl rfl rfl rfl (au rfl rfl rfl rfl (cq rfl rfl rfl (cq rfl rfl rfl (cq rfl rfl rfl ?_)))))))))));refine cq rfl rfl rfl (cq rfl rfl rfl (cq rfl rfl rfl (cq rfl rfl rfl (au rfl rfl rfl rfl (a8 rfl rfl rfl (ah rfl rfl (ab (aQ ?_))))))))
  first
  |(obtain rfl:l=[]:=cY.1 (by omega)
    exact aV rfl rfl ⟨rfl,ax _ _⟩)
  |exact aV rfl rfl ⟨congrArg Value.bool (by
    rw[lM,gV (by omega),decide_eq_true_iff,ir hx];exact⟨fun h=>⟨B3,uq,Sr.1 (by omega)⟩,fun h=>by have:=Sr.2 h.2.2;omega⟩),(s1.aB S3.back)⟩
  |exact aV rfl rfl ⟨congrArg Value.bool (dH (by
    rw[dr];intro h;exact uq ((gV (by omega)).1 h).2.1)),s1⟩
  |exact aV rfl rfl ⟨congrArg Value.bool (dH (by
    rw[dr];intro h;have:=((gV (by omega)).1 h).1;rw[ir hx]at this;exact B3 this)),ax _ _⟩
 ·refine al rfl rfl (ad rfl rfl (al rfl rfl ?_));obtain⟨x,hx⟩:∃x,(l)[0]? =some x:=⟨_,ar (by omega)⟩;refine cF (M:=M) aq I3 rfl rfl rfl (hv) (ao _ _) (by first|omega|decide) (fun arc ah3 aag al9=>?_);obtain rfl:x=ah3:=dH (aH (aag.symm.trans hx));refine al rfl rfl ?_;refine cd (M:=M) aw rfl rfl (by assumption) (by repeat (first|exact ao _ _|refine aX (bu (by assumption)) ?_)) (fun Ss=>?_);refine aU (v':= .int .i64 (x)) rfl ?_;replace Ss: -9223372036854775808≤(x:Int)∧x≤9223372036854775807:=Ss;refine al rfl rfl (dY rfl rfl rfl (al rfl rfl (ad rfl rfl ?_)));refine aR (g:=11) rfl (fun B3=>?_) (fun B3=>?_)
  ·refine al rfl rfl (ad rfl rfl (al rfl rfl ?_));refine aY rfl rfl ah1 (zU hv (by omega)) (fun r1 w1 h=>?_);obtain⟨rfl,s1⟩:=h;refine al rfl rfl (a8 rfl rfl rfl (al rfl rfl (ad rfl rfl ?_)));refine aR (g:=15) rfl (fun uq=>?_) (fun uq=>?_)
   ·refine al rfl rfl (ad rfl rfl (al rfl rfl ?_));refine aY rfl rfl UW (Et (s1.lt hM) (hv.le s1.le) hl) (fun r2 w2 h=>?_);obtain⟨M2,tc,EX,s2⟩:=h;refine al rfl rfl ?_;refine aY rfl rfl ah2 (BX tc hl) (fun r3 w3 h=>?_);obtain⟨ac,kc,cc,rfl,Sr,s3⟩:=h;have S3:=s2.cj s3 (fun b hb=>(tc.base b hb).1);refine al rfl rfl (Rg.mq aq rfl rfl (al rfl rfl (ad rfl rfl (al rfl rfl (bQ aq rfl hv rfl (al rfl rfl (qZ rfl rfl rfl (al rfl rfl (a8 rfl rfl rfl (aE rfl rfl rfl (ah rfl rfl ?_)))))))))));refine ab (aQ ?_)
    first
    |(obtain rfl:l=[]:=cY.1 (by omega)
      exact aV rfl rfl ⟨rfl,ax _ _⟩)
    |exact aV rfl rfl ⟨congrArg Value.bool (by
      rw[lM,gV (by omega),decide_eq_true_iff,ir hx];exact⟨fun h=>⟨B3,uq,Sr.1 (by omega)⟩,fun h=>by have:=Sr.2 h.2.2;omega⟩),(s1.aB S3.back)⟩
    |exact aV rfl rfl ⟨congrArg Value.bool (dH (by
      rw[dr];intro h;exact uq ((gV (by omega)).1 h).2.1)),s1⟩
    |exact aV rfl rfl ⟨congrArg Value.bool (dH (by
      rw[dr];intro h;have:=((gV (by omega)).1 h).1;rw[ir hx]at this;exact B3 this)),ax _ _⟩
   ·refine au rfl rfl rfl rfl (au rfl rfl rfl rfl (au rfl rfl rfl rfl (au rfl rfl rfl rfl (au rfl rfl rfl rfl (au rfl rfl rfl rfl (au rfl rfl rfl rfl (al rfl rfl (aE rfl rfl rfl (aE rfl rfl rfl (ah rfl rfl (ab ?_)))))))))));refine aQ ?_
    first
    |(obtain rfl:l=[]:=cY.1 (by omega)
      exact aV rfl rfl ⟨rfl,ax _ _⟩)
    |exact aV rfl rfl ⟨congrArg Value.bool (by
      rw[lM,gV (by omega),decide_eq_true_iff,ir hx];exact⟨fun h=>⟨B3,uq,Sr.1 (by omega)⟩,fun h=>by have:=Sr.2 h.2.2;omega⟩),(s1.aB S3.back)⟩
    |exact aV rfl rfl ⟨congrArg Value.bool (dH (by
      rw[dr];intro h;exact uq ((gV (by omega)).1 h).2.1)),s1⟩
    |exact aV rfl rfl ⟨congrArg Value.bool (dH (by
      rw[dr];intro h;have:=((gV (by omega)).1 h).1;rw[ir hx]at this;exact B3 this)),ax _ _⟩
  ·refine au rfl rfl rfl rfl (au rfl rfl rfl rfl (al rfl rfl (aE rfl rfl rfl (al rfl rfl (ad rfl rfl (au rfl rfl rfl rfl (au rfl rfl rfl rfl (au rfl rfl rfl rfl (au rfl rfl rfl rfl (au rfl rfl rfl rfl (au rfl rfl rfl rfl ?_)))))))))));refine au rfl rfl rfl rfl (al rfl rfl (aE rfl rfl rfl (aE rfl rfl rfl (ah rfl rfl (ab (aQ ?_))))))
   first
   |(obtain rfl:l=[]:=cY.1 (by omega)
     exact aV rfl rfl ⟨rfl,ax _ _⟩)
   |exact aV rfl rfl ⟨congrArg Value.bool (by
     rw[lM,gV (by omega),decide_eq_true_iff,ir hx];exact⟨fun h=>⟨B3,uq,Sr.1 (by omega)⟩,fun h=>by have:=Sr.2 h.2.2;omega⟩),(s1.aB S3.back)⟩
   |exact aV rfl rfl ⟨congrArg Value.bool (dH (by
     rw[dr];intro h;exact uq ((gV (by omega)).1 h).2.1)),s1⟩
   |exact aV rfl rfl ⟨congrArg Value.bool (dH (by
     rw[dr];intro h;have:=((gV (by omega)).1 h).1;rw[ir hx]at this;exact B3 this)),ax _ _⟩
theorem EC {M:aD} {w0:World} {v:Value} {l:List Int} (hM:Lt M w0) (hv:((RT.int .i64).sl).V M w0 l v) (hl:l.length≤1099511627776):
  Spec Tryz.prog 106 #[v] w0 (fun v' w'=>v'= .bool (decide (eA (-1) l=false))∧Step M w0 M w' aC):=by
 refine bm (args:=[_]) (fn:=Tryz.f106) Tryz.func106 rfl (n:=6) Tryz.ntmps106 (aj (ae (ah rfl rfl (ab (aj (ae (ad rfl rfl ?_)))))));refine aY rfl rfl ahZ (EB hM hv hl) (fun r1 w1 h=>?_);obtain⟨rfl,s1⟩:=h;refine mO rfl rfl (aU (v':= .bool (decide (eA (-1) l=false))) (congrArg Value.bool (by cases eA (-1) l<;>rfl)) (ah rfl rfl (ab (aQ ?_))));exact aV rfl rfl ⟨rfl,s1⟩
theorem ED {M:aD} {w0:World} {v:Value} {ls:List (List Int)} (hM:Lt M w0) (hv:(((RT.int .i64).sl).sl).V M w0 ls v) (hl:∀l∈ls,l.length≤1099511627776):
  Spec Tryz.prog 156 #[v,.func (.func 106) #[] #[]] w0 (fun v' w'=>(∃r:Int,v'= .int .i64 r∧(r≥0↔∃l∈ls,eA (-1) l=false))∧Step M w0 M w' aC):=by
 have hlen:=ej hv;refine bm (args:=[_,_]) (fn:=Tryz.f156) Tryz.func156 rfl (n:=19) Tryz.ntmps156 (aj (ae (ah rfl rfl (ab (aj (aj (ae (ad rfl rfl (bQ cP rfl hv rfl (ad rfl rfl (ab ?_)))))))))));refine aZ ?_;refine dn (σ:=Nat) (fun s=>[(0,v),(1,.func (.func 106) #[] #[]),(7,.int .i64 ls.length),(8,.int .i64 s)]) (fun s w=>s≤ls.length∧(∀t,t<s→∀l,ls[t]? =some l→eA (-1) l=true)∧Step M w0 M w aC) (fun s=>ls.length-s) 0 (.cons rfl (.cons rfl (.cons rfl (.cons rfl .nil)))) ?_ ?_
 ·exact⟨bD _,fun t h=>by omega,ax _ _⟩
 ·rintro k w2 ⟨hk,kf,S⟩;refine aj (ae (cg rfl rfl rfl (ab (aj ?_))));refine bI rfl (fun c2=>?_) (fun c2=>?_)
  ·refine aT (aj (aZ (aj (ae (ad rfl rfl (ah rfl rfl (ab (aj (ae (ad rfl rfl (ad rfl rfl ?_)))))))))));refine ad rfl rfl ?_;obtain⟨l,hx⟩:∃x,(ls)[k]? =some x:=⟨_,ar (by omega)⟩;refine cF (M:=M) cP kD rfl rfl rfl (hv.le S.le) (ao _ _) (by first|omega|decide) (fun TD VI NP Z2=>?_);obtain rfl:l=VI:=dH (aH (NP.symm.trans (by rw[ay];exact hx)));refine bR (M:=M) aq rfl rfl rfl rfl rfl (by assumption) (by repeat (first|exact ao _ _|refine aX (bu (by assumption)) ?_)) (fun ah4 NW=>?_);replace NW:(((RT.int .i64).sl)).V M _ l ah4:=NW;refine zr (first:=[]) (captured:=[]) rfl rfl rfl ahY (EC (S.lt hM) NW (hl _ (az hx))) (fun r w1 h=>?_);obtain⟨rfl,s1⟩:=h;refine ab ?_;refine bI rfl (fun c4=>?_) (fun c4=>?_)
   ·refine aj (ae (ad rfl rfl (ah rfl rfl (ab (aQ ?_)))));exact aV rfl rfl ⟨⟨k,rfl,⟨fun _=>⟨l,az hx,c4⟩,fun _=>by omega⟩⟩,S.aB s1⟩
   ·refine aT (ae (bC rfl rfl rfl (by omega) (ad rfl rfl (ab ?_))));refine⟨rfl,k+1,(.cons rfl (.cons rfl (.cons rfl (.cons rfl .nil)))),?_,?_⟩
    ·refine⟨by omega,fun t ht l' hl'=>?_,S.aB s1⟩;rcases cG t k with h|h
     ·exact kf t h l' hl'
     ·rw[show t=k from by omega,hx]at hl';cases hl';simpa using c4
    ·show _-(k+1)<_-k;omega
  ·refine cK (aj (ae (ah rfl rfl (ab (aQ ?_)))));refine aV rfl rfl ⟨⟨-1,rfl,⟨fun h=>by omega,fun⟨l,hm,hf⟩=>?_⟩⟩,S⟩;obtain⟨t,ht⟩:=bB.1 hm;have:=kf t (by have:=(an.1 ht).1;omega) l ht;rw[this]at hf;cases hf
theorem y8 {M:aD} {w0:World} {v:Value} {ls:List (List Int)} (hM:Lt M w0) (hv:(((RT.int .i64).sl).sl).V M w0 ls v) (hl:∀l∈ls,l.length≤1099511627776):
  Spec Tryz.prog 105 #[v,.func (.func 106) #[] #[]] w0 (fun v' w'=>v'= .bool (decide (¬Up ls))∧Step M w0 M w' aC):=by
 refine bm (args:=[_,_]) (fn:=Tryz.f105) Tryz.func105 rfl (n:=9) Tryz.ntmps105 (aj (ae (ah rfl rfl (ab (aj (ae (ad rfl rfl (ad rfl rfl ?_))))))));refine aY rfl rfl ah0 (ED hM hv hl) (fun r1 w1 h=>?_);obtain⟨⟨r0,rfl,hr⟩,s1⟩:=h;refine dY rfl rfl rfl (ah rfl rfl (ab (aQ ?_)));refine aV rfl rfl ⟨congrArg Value.bool (decide_eq_decide.2 (hr.trans ?_)),s1⟩;unfold Up;constructor
 ·rintro⟨l,hm,hf⟩ h;rw[h l hm]at hf;cases hf
 ·intro h;refine Classical.byContradiction fun hn=>h fun l hm=> ?_
  cases nH:eA (-1) l with
  |true=>rfl
  |false=>exact absurd ⟨l,hm,nH⟩ hn
end Go.K

/- What the law 'SegmentMakes' needs of walks and plain Lean, part 6: nothing is assumed beyond the texts that it imports. -/
import Derived.KernelRfl
import Derived.Test.YtohfoenhmkfjkaaGreatDoorProg
import Derived.Test.YtohfoenhmkfjkaaGreatDoorZSegmentMakes1
import Derived.Test.YtohfoenhmkfjkaaGreatDoorZSegmentMakes2
import Derived.Test.YtohfoenhmkfjkaaGreatDoorZSegmentMakes3
import Derived.Test.YtohfoenhmkfjkaaGreatDoorZSegmentMakes4
import Derived.Test.YtohfoenhmkfjkaaGreatDoorZSegmentMakes5
set_option linter.unusedVariables false
set_option linter.unusedSimpArgs false
namespace Go.K
open Go.Proofs
namespace TKSegN
theorem my:TI Tryz.prog 56 (.slice none 0 0) 1 24:=by unfold TI;kernel_rfl
theorem qP:TI Tryz.prog 62 (.agg #[(.slice none 0 0),(.slice none 0 0),(.slice none 0 0),(.slice none 0 0)]) 4 96:=by unfold TI;kernel_rfl
theorem fX:TI Tryz.prog 107 (.slice none 0 0) 1 24:=by unfold TI;kernel_rfl
theorem E86:Enters Tryz.prog 86:=enters Tryz.func86 rfl (by decide)
theorem E87:Enters Tryz.prog 87:=enters Tryz.func87 rfl (by decide)
end TKSegN
open TKSegN
set_option maxRecDepth 10000
theorem sV {M:aU} {L:List En} {v0:Value} (w0:World) (hM:Lt M w0) (hv:(RT.en.sl).V M w0 L v0) (hF:∀e∈L,iT e.1) (hlen:∀e∈L,∀f∈e.1.2,f.1.length≤900000∧f.2.length≤900000) (hn:L.length≤100000):
  Spec Tryz.prog 31 #[v0] w0 (fun v w=>RT.pa.V M w (jo L) v∧Step M w0 M w aN):=by
 have fZ:=hM
 have T1:(keysOf L).length≤500000000:=by
  have h1:=(k9 L).nodup.length_le_of_subset (l₂:=gZ L) (fun x hx=>jS.1 hx);have:=kT hF;omega
 refine bE (args:=[_]) (fn:=Tryz.f31) Tryz.func31 rfl (n:=56) Tryz.ntmps31 ?_;have S:Step M w0 M w0 aN:=(ah _ _).cD (fun _ h=>h.elim) (fun _ h=>h.elim);refine au (ak ?_);refine eu M qP rfl (fun nh mH XB XC mz sK=>?_);obtain⟨MA,YE⟩:∃M',M'=ins M nh:=⟨_,rfl⟩;rw[←YE]at sK;have ni:MA nh:=by rw[YE];exact .inl rfl
 replace hv:=hv.le sK.le;have Ps:=sK.lt hM;have SA:=S.aE sK;clear hM S;have hM:=Ps;have S:Step MA mH MA mH aN:=ah _ _;refine ae (au (ak ?_));refine eu MA qP rfl (fun fv vz G1 I6 fU jQ=>?_);obtain⟨eY,ji⟩:∃M',M'=ins MA fv:=⟨_,rfl⟩;rw[←ji]at jQ;have eL:eY fv:=by rw[ji];exact .inl rfl
 change vz.heap[fv]? =some (.cells #[.slice none 0 0,.slice none 0 0,.slice none 0 0,.slice none 0 0] _ _)at fU;replace hv:=hv.le jQ.le;replace hM:=jQ.lt hM;have:=S.size;replace S:=S.aE jQ;refine ae (au (au (ak (al rfl rfl (ae (bu ?_))))));refine de (σ:=Nat×Value×Value) (fun q=>[(0,v0),(2,.pointer (some ⟨nh,0,none⟩)),(3,.pointer (some ⟨fv,0,none⟩)),(4,.int .i64 (q.1:Int))]) (fun q w=>∃M',Lt M' w∧Step MA mH M' w aN∧(RT.en.sl).V M' w L v0∧w.heap[fv]? =some (.cells #[q.2.1,q.2.2,.slice none 0 0,.slice none 0 0] 62 (0,0))∧M' fv∧Own (RT.int .i64) 3 M' w mH.heap.size q.2.1 ((L.take q.1).map (·.1.1))∧Own (RT.int .i64) 3 M' w mH.heap.size q.2.2 ((L.take q.1).map (·.2))∧jE q.2.1 q.2.2∧q.1≤L.length) (fun q=>L.length-q.1) (0,.slice none 0 0,.slice none 0 0) (.cons rfl (.cons rfl (.cons rfl (.cons rfl .nil)))) ?_ ?_
 ·exact⟨_,hM,S,hv,fU,eL,dO _ _ _ _ _,dO _ _ _ _ _,jE.nil _,bM _⟩
 ·clear hM S hv;rintro⟨i,vi,vs⟩ w ⟨M2,hM,S,hv,g2,cB,gB,gE,Hg,hi⟩;dsimp only at g2 gB gE Hg hi ⊢;refine au (au (ak (aj rfl rfl (aj rfl rfl (bF dK rfl hv rfl (cu rfl rfl rfl (ae ?_)))))));refine bW rfl (fun c3=>?_) (fun c3=>?_)
  ·refine bg (au (bu (au ?_)));apply nr 8 [0,1] 1 aN mixed rfl rfl rfl rfl;intro EH Ro;have mw:=Ro M2;have:=av g2;replace cB:=(mw.mem _ this).2 cB;replace g2:=mw.aX g2;replace hv:=hv.le mw.le;replace gB:=gB.bC mw;replace gE:=gE.bC mw;replace hM:=mw.lt hM;have:=S.size;replace S:=S.aE mw;refine bI (o':=0) aO rfl rfl gT (by decide) rfl rfl ?_;refine ae ⟨rfl,rfl,rfl,?_⟩;refine br ay rfl rfl rfl (by first|assumption|exact cI mw (by assumption)) rfl ?_;refine ae ⟨rfl,rfl,rfl,?_⟩;refine aj rfl rfl ?_;refine ae ⟨rfl,rfl,rfl,?_⟩;refine aj rfl rfl ?_;refine ae ⟨rfl,rfl,rfl,?_⟩;obtain⟨e,jt⟩:∃x,L[i]? =some x:=⟨_,aI (by omega)⟩;refine bS (M:=M2) dK yO rfl rfl rfl hv (ar _ _) (by omega) (fun u54 x_ fy Lj=>?_);rw[aK]at fy;obtain rfl:=aG (jt.symm.trans fy);refine ae ⟨rfl,rfl,rfl,?_⟩;refine aA (M:=M2) (A:=RT.en) (B:=RT.dc) cV rfl rfl lN (by decide) MY rfl rfl (by decide) Lj (ar _ _) (fun u55 SB=>?_);refine ae ⟨rfl,rfl,rfl,?_⟩;refine aA (M:=M2) (A:=RT.dc) (B:=RT.int .i64) a7 rfl rfl I3 (by decide) TW rfl rfl (by decide) SB (ar _ _) (fun u56 ago=>?_);refine ae ⟨rfl,rfl,rfl,?_⟩;refine bK (M:=M2) aB rfl rfl ago (ar _ _) (fun YF=>?_);refine bO (v':= .int .i64 e.1.1) rfl ?_;refine ae ⟨rfl,rfl,rfl,?_⟩;refine dv ?_;refine⟨eA ⟨eM aO rfl gT (by decide),⟨dx rfl g2 (fun h=>h),trivial⟩⟩,?_⟩;have kp:=eX aN EH;refine ez (A:=RT.int .i64) (hn:=by decide) (M:=M2) ay I3 (by decide) rfl rfl hM (ie (x:=e.1.1) YF) (.inr ⟨rfl,rfl⟩) (fun Wx adK YG sC=>?_);have:=av g2;replace cB:=(sC.mem _ this).2 cB;replace g2:=sC.aX g2;replace hv:=hv.le sC.le;replace gB:=gB.bC sC
   replace gE:=gE.bC sC;replace hM:=sC.lt hM;have:=S.size;replace S:=S.aE sC;refine(fun(kp:eg _ _ _)=>ae ⟨rfl,rfl,fun _=>kp,?_⟩) (by first|exact kp|exact kp.mY (by assumption)|exact kp.goN (by assumption)|exact kp.go (by assumption) (fun _ _ h=>by first|exact h|exact h.elim));refine Rg.kY (M:=M2) (base:=mH.heap.size) ay I3 rfl rfl rfl rfl gB YG (ar _ _) (by simp;omega) (by simp;omega) S.size (fun v5 w5 Uk s5 hF5=>?_);generalize lA M2 v5=M5 at Uk s5;have YH:jE v5 vs:=Hg.grown hF5 (fun b hb=>(gE.base b hb).2);replace gE:=gE.step s5 (fun b hb h=>Hg b h hb);replace cB:=(s5.mem _ (av g2)).2 cB;replace g2:=s5.b9 g2 (fun h=>gB.fc g2 (by decide) h);replace hv:=hv.le s5.le;replace S:=S.cJ s5 gB (bw _);replace hM:=s5.lt hM;replace gB:=Uk;refine ae ⟨rfl,rfl,fun h=>absurd rfl h,?_⟩;refine bI (o':=0) aO rfl rfl gT (by decide) rfl rfl ?_;refine ae ⟨rfl,rfl,fun h=>absurd rfl h,?_⟩;refine cw (M:=M5) gT rfl rfl g2 rfl (by obtain⟨_,_,he,_⟩:=gB.isSlice;rw[he];rfl) cB (fun YI Pt yi=>?_);change YI.heap[_]? =some (Obj.cells #[v5,vs,.slice none 0 0,.slice none 0 0] _ _)at Pt;have:=av g2;replace cB:=(yi.mem _ this).2 cB;replace hv:=hv.le yi.le;replace gB:=gB.step yi (fun c hc (h:c=fv)=>gB.fc g2 (by decide) (h▸hc));replace gE:=gE.step yi (fun c hc (h:c=fv)=>gE.fc g2 (by decide) (h▸hc));replace hM:=yi.lt hM;have:=S.size;replace S:=S.trans yi (fun k hk h=>by have h:_=_:=h;subst h;first|(exfalso;omega)|(show _≤_;omega)|exact⟨by first|omega|assumption,(S.mem _ hk).1 ((yi.mem _ (av g2)).1 cB)⟩|exact .inl rfl|exact .inr rfl|exact .inr (.inl rfl)|exact .inr (.inr rfl)|exact rfl);have so:=Pt;clear g2;have g2:=so;clear so;refine ae ⟨rfl,rfl,fun h=>absurd rfl h,?_⟩;refine gX ?_;apply nr 7 [0,1] 1 aN mixed rfl rfl rfl rfl;intro WR X9;have rJ:=X9 M5;have:=av g2;replace cB:=(rJ.mem _ this).2 cB
   replace g2:=rJ.aX g2;replace hv:=hv.le rJ.le;replace gB:=gB.bC rJ;replace gE:=gE.bC rJ;replace hM:=rJ.lt hM;have:=S.size;replace S:=S.aE rJ;refine bI (o':=1) aO rfl rfl gT (by decide) rfl rfl ?_;refine ae ⟨rfl,rfl,rfl,?_⟩;refine br ay rfl rfl rfl (by first|assumption|exact cI rJ (by assumption)) rfl ?_;refine ae ⟨rfl,rfl,rfl,?_⟩;refine aj rfl rfl ?_;refine ae ⟨rfl,rfl,rfl,?_⟩;refine aj rfl rfl ?_;refine ae ⟨rfl,rfl,rfl,?_⟩;refine bS (M:=M5) dK yO rfl rfl rfl hv (ar _ _) (by omega) (fun u64 x_ fy Sx=>?_);rw[aK]at fy;obtain rfl:=aG (jt.symm.trans fy);refine ae ⟨rfl,rfl,rfl,?_⟩;refine aA (M:=M5) (A:=RT.en) (B:=RT.int .i64) cV rfl rfl I3 (by decide) VF rfl rfl (by decide) Sx (ar _ _) (fun u65 agp=>?_);refine ae ⟨rfl,rfl,rfl,?_⟩;refine bK (M:=M5) aB rfl rfl agp (ar _ _) (fun YJ=>?_);refine bO (v':= .int .i64 e.2) rfl ?_;refine ae ⟨rfl,rfl,rfl,?_⟩;refine dv ?_;refine⟨eA ⟨eM aO rfl gT (by decide),⟨dx rfl g2 (fun h=>h),trivial⟩⟩,?_⟩;have kp:=eX aN WR;refine ez (A:=RT.int .i64) (hn:=by decide) (M:=M5) ay I3 (by decide) rfl rfl hM (ie (x:=e.2) YJ) (.inr ⟨rfl,rfl⟩) (fun aoC aoD YK Fc=>?_);have:=av g2;replace cB:=(Fc.mem _ this).2 cB;replace g2:=Fc.aX g2;replace hv:=hv.le Fc.le;replace gB:=gB.bC Fc;replace gE:=gE.bC Fc;replace hM:=Fc.lt hM;have:=S.size;replace S:=S.aE Fc;refine(fun(kp:eg _ _ _)=>ae ⟨rfl,rfl,fun _=>kp,?_⟩) (by first|exact kp|exact kp.mY (by assumption)|exact kp.goN (by assumption)|exact kp.go (by assumption) (fun _ _ h=>by first|exact h|exact h.elim));refine Rg.kY (M:=M5) (base:=mH.heap.size) ay I3 rfl rfl rfl rfl gE YK (ar _ _) (by simp;omega) (by simp;omega) S.size (fun v6 w6 uJ s6 hF6=>?_)
   generalize lA M5 v6=M6 at uJ s6;have Ev:jE v5 v6:=(YH.symm.grown hF6 (fun b hb=>(gB.base b hb).2)).symm;replace gB:=gB.step s6 (fun b hb h=>YH b hb h);replace cB:=(s6.mem _ (av g2)).2 cB;replace g2:=s6.b9 g2 (fun h=>gE.fc g2 (by decide) h);replace hv:=hv.le s6.le;replace S:=S.cJ s6 gE (bw _);replace hM:=s6.lt hM;replace gE:=uJ;refine ae ⟨rfl,rfl,fun h=>absurd rfl h,?_⟩;refine bI (o':=1) aO rfl rfl gT (by decide) rfl rfl ?_;refine ae ⟨rfl,rfl,fun h=>absurd rfl h,?_⟩;refine cw (M:=M6) gT rfl rfl g2 rfl (by obtain⟨_,_,he,_⟩:=gE.isSlice;rw[he];rfl) cB (fun YL Pu yj=>?_);change YL.heap[_]? =some (Obj.cells #[v5,v6,.slice none 0 0,.slice none 0 0] _ _)at Pu;have:=av g2;replace cB:=(yj.mem _ this).2 cB;replace hv:=hv.le yj.le;replace gB:=gB.step yj (fun c hc (h:c=fv)=>gB.fc g2 (by decide) (h▸hc));replace gE:=gE.step yj (fun c hc (h:c=fv)=>gE.fc g2 (by decide) (h▸hc));replace hM:=yj.lt hM;have:=S.size;replace S:=S.trans yj (fun k hk h=>by have h:_=_:=h;subst h;first|(exfalso;omega)|(show _≤_;omega)|exact⟨by first|omega|assumption,(S.mem _ hk).1 ((yj.mem _ (av g2)).1 cB)⟩|exact .inl rfl|exact .inr rfl|exact .inr (.inl rfl)|exact .inr (.inr rfl)|exact rfl);have so:=Pu;clear g2;have g2:=so;clear so;refine ae ⟨rfl,rfl,fun h=>absurd rfl h,?_⟩;refine gX (ak (aj rfl rfl (bQ rfl rfl rfl (by omega) (al rfl rfl (ae ?_)))));have et:L.take (i+1)=L.take i++[e]:=by rw[bX,jt,cq]
   refine⟨rfl,(i+1,v5,v6),(.cons rfl (.cons rfl (.cons rfl (.cons rfl .nil)))),?_,?_⟩
   ·exact⟨_,hM,S,hv,g2,cB,by rw[et,dF];exact gB,by rw[et,dF];exact gE,Ev,by dsimp only;omega⟩
   ·dsimp only;omega
  ·refine cP (au (ak ?_));have hLi:L.take i=L:=bm (by omega);rw[hLi]at gB gE;refine aj rfl rfl ?_;refine aS rfl rfl E86 (E7 _ hM hv hF hlen (by omega)) (fun rk w7 hc=>?_);obtain⟨nQ,s7⟩:=hc;have:=av g2;replace cB:=(s7.mem _ this).2 cB;replace g2:=s7.aX g2;replace hv:=hv.le s7.le;replace gB:=gB.bC s7;replace gE:=gE.bC s7;replace hM:=s7.lt hM;have:=S.size;replace S:=S.aE s7;refine bI (o':=2) aO rfl rfl ph (by decide) rfl rfl ?_;refine cw (M:=M2) ph rfl rfl g2 rfl (iV nQ rfl rfl) cB (fun Ya YM sT=>?_);change Ya.heap[_]? =some (Obj.cells #[vi,vs,rk,.slice none 0 0] _ _)at YM;have:=av g2;replace cB:=(sT.mem _ this).2 cB;replace hv:=hv.le sT.le;replace nQ:=nQ.le sT.le;replace gB:=gB.step sT (fun c hc (h:c=fv)=>gB.fc g2 (by decide) (h▸hc));replace gE:=gE.step sT (fun c hc (h:c=fv)=>gE.fc g2 (by decide) (h▸hc));replace hM:=sT.lt hM;have:=S.size;replace S:=S.trans sT (fun k hk h=>by have h:_=_:=h;subst h;first|(exfalso;omega)|(show _≤_;omega)|exact⟨by first|omega|assumption,(S.mem _ hk).1 ((sT.mem _ (av g2)).1 cB)⟩|exact .inl rfl|exact .inr rfl|exact .inr (.inl rfl)|exact .inr (.inr rfl)|exact rfl);have so:=YM;clear g2;have g2:=so;clear so;refine ae (au (au (ak (al rfl rfl (ae (bu ?_))))));refine de (σ:=Nat×Value) (fun q=>[(0,v0),(2,.pointer (some ⟨nh,0,none⟩)),(3,.pointer (some ⟨fv,0,none⟩)),(5,.int .i64 (q.1:Int))]) (fun q w=>∃M',Lt M' w∧Step MA mH M' w aN∧(RT.en.sl).V M' w L v0∧w.heap[fv]? =some (.cells #[vi,vs,rk,q.2] 62 (0,0))∧M' fv∧Own (RT.int .i64) 3 M' w mH.heap.size vi (L.map (·.1.1))∧Own (RT.int .i64) 3 M' w mH.heap.size vs (L.map (·.2))∧Own ((RT.po).sl) 107 M' w mH.heap.size q.2 (((keysOf L).take q.1).map (pk L))∧(RT.str.sl).V M' w (keysOf L) rk∧q.1≤(keysOf L).length) (fun q=>(keysOf L).length-q.1) (0,.slice none 0 0) (.cons rfl (.cons rfl (.cons rfl (.cons rfl .nil)))) ?_ ?_
   ·exact⟨_,hM,S,hv,g2,cB,gB,gE,dO _ _ _ _ _,nQ,bM _⟩
   ·clear hM S hv g2 cB gB gE nQ;rintro⟨j,vl⟩ w ⟨M3,hM,S,hv,g2,cB,gB,gE,ix,nQ,hj⟩;dsimp only at g2 ix hj ⊢;refine au (au (ak (aj rfl rfl (bI (o':=2) aO rfl rfl ph (by decide) rfl rfl (br aJ rfl rfl rfl g2 rfl (bO (v':=rk) rfl (bF aJ rfl nQ rfl (cu rfl rfl rfl (ae ?_)))))))));refine bW rfl (fun c9=>?_) (fun c9=>?_)
    ·refine bg (au (bu ?_));apply nr 8 [0,1] 2 aN mixed rfl rfl rfl rfl;intro y4 A9;have fF:=A9 M3;have:=av g2;replace cB:=(fF.mem _ this).2 cB;replace g2:=fF.aX g2;replace hv:=hv.le fF.le;replace nQ:=nQ.le fF.le;replace gB:=gB.bC fF;replace gE:=gE.bC fF;replace ix:=ix.bC fF;replace hM:=fF.lt hM;have:=S.size;replace S:=S.aE fF;refine bI (o':=3) aO rfl rfl my (by decide) rfl rfl ?_;refine ae ⟨rfl,rfl,rfl,?_⟩;refine br bH rfl rfl rfl (by first|assumption|exact cI fF (by assumption)) rfl ?_;refine ae ⟨rfl,rfl,rfl,?_⟩;refine aj rfl rfl ?_;refine ae ⟨rfl,rfl,rfl,?_⟩;refine bI (o':=2) aO rfl rfl ph (by decide) rfl rfl ?_;refine ae ⟨rfl,rfl,rfl,?_⟩;refine br aJ rfl rfl rfl g2 rfl (bO (v':=rk) rfl ?_);refine ae ⟨rfl,rfl,rfl,?_⟩;refine aj rfl rfl ?_;refine ae ⟨rfl,rfl,rfl,?_⟩;obtain⟨k,YN⟩:∃x,(keysOf L)[j]? =some x:=⟨_,aI (by omega)⟩;refine bS (M:=M3) aJ I9 rfl rfl rfl nQ (ar _ _) (by omega) (fun aoF x_ fy YO=>?_);rw[aK]at fy;obtain rfl:=aG (YN.symm.trans fy);refine ae ⟨rfl,rfl,rfl,?_⟩;refine aY (M:=M3) aM rfl rfl rfl rfl rfl YO (ar _ _) (fun v117 YP=>?_);obtain rfl:=dQ YP;refine ae ⟨rfl,rfl,rfl,?_⟩;refine dv ?_;refine⟨eA ⟨eM aO rfl my (by decide),⟨dx rfl g2 (fun h=>h),trivial⟩⟩,?_⟩;have kp:=eX aN y4;refine aS rfl rfl E87 (E8 (key:=k) _ hM hv hF hlen (by omega)) (fun r11 w11 hc=>?_);obtain⟨vE,tq⟩:=hc;have:=av g2;replace cB:=(tq.mem _ this).2 cB;replace g2:=tq.aX g2;replace hv:=hv.le tq.le;replace nQ:=nQ.le tq.le;replace gB:=gB.bC tq;replace gE:=gE.bC tq;replace ix:=ix.bC tq;replace hM:=tq.lt hM;have:=S.size;replace S:=S.aE tq
     refine(fun(kp:eg _ _ _)=>ae ⟨rfl,rfl,fun _=>kp,?_⟩) (by first|exact kp|exact kp.mY (by assumption)|exact kp.goN (by assumption)|exact kp.go (by assumption) (fun _ _ h=>by first|exact h|exact h.elim));refine ez (A:=((RT.po).sl)) (hn:=by decide) (M:=M3) bH fX (by decide) rfl rfl hM (vE) (.inr ⟨rfl,rfl⟩) (fun Vl Vm ou mf=>?_);have:=av g2;replace cB:=(mf.mem _ this).2 cB;replace g2:=mf.aX g2;replace hv:=hv.le mf.le;replace nQ:=nQ.le mf.le;replace vE:=vE.le mf.le;replace gB:=gB.bC mf;replace gE:=gE.bC mf;replace ix:=ix.bC mf;replace hM:=mf.lt hM;have:=S.size;replace S:=S.aE mf;refine(fun(kp:eg _ _ _)=>ae ⟨rfl,rfl,fun _=>kp,?_⟩) (by first|exact kp|exact kp.mY (by assumption)|exact kp.goN (by assumption)|exact kp.go (by assumption) (fun _ _ h=>by first|exact h|exact h.elim));refine cz (M:=M3) (base:=mH.heap.size) bH fX rfl rfl rfl rfl ix ou (ar _ _) (by simp;omega) (by simp;omega) (S.size) (fun AL D6 Qj AM j1=>?_);have:=av g2;replace cB:=(j1.mem _ this).2 cB;replace g2:=j1.b9 g2 (fun h=>by first|exact ix.dZ g2 h|exact ix.fc g2 (by decide) h|(have:=(ix.base _ h).1;omega));replace hv:=hv.le j1.le;replace nQ:=nQ.le j1.le;replace vE:=vE.le j1.le;replace ou:=ou.le j1.le;replace gB:=gB.step j1 (fun b h1 h2=>gB.jg ix (by decide) h1 h2);replace gE:=gE.step j1 (fun b h1 h2=>gE.jg ix (by decide) h1 h2);replace hM:=j1.lt hM;have:=S.size;replace S:=S.cJ j1 ix (bw _);replace ix:=AM;refine ae ⟨rfl,rfl,fun h=>absurd rfl h,?_⟩;refine bI (o':=3) aO rfl rfl my (by decide) rfl rfl ?_;refine ae ⟨rfl,rfl,fun h=>absurd rfl h,?_⟩;refine cw (M:=D6) my rfl rfl g2 rfl (by obtain⟨_,_,he,_⟩:=ix.isSlice;rw[he];rfl) cB (fun SV LG mA=>?_);change SV.heap[_]? =some (Obj.cells #[vi,vs,rk,AL] _ _)at LG
     have:=av g2;replace cB:=(mA.mem _ this).2 cB;replace hv:=hv.le mA.le;replace nQ:=nQ.le mA.le;replace vE:=vE.le mA.le;replace ou:=ou.le mA.le;replace gB:=gB.step mA (fun c hc (h:c=fv)=>gB.fc g2 (by decide) (h▸hc));replace gE:=gE.step mA (fun c hc (h:c=fv)=>gE.fc g2 (by decide) (h▸hc));replace ix:=ix.step mA (fun c hc (h:c=fv)=>ix.fc g2 (by decide) (h▸hc));replace hM:=mA.lt hM;have:=S.size;replace S:=S.trans mA (fun k hk h=>by have h:_=_:=h;subst h;first|(exfalso;omega)|(show _≤_;omega)|exact⟨by first|omega|assumption,(S.mem _ hk).1 ((mA.mem _ (av g2)).1 cB)⟩|exact .inl rfl|exact .inr rfl|exact .inr (.inl rfl)|exact .inr (.inr rfl)|exact rfl);have so:=LG;clear g2;have g2:=so;clear so;refine ae ⟨rfl,rfl,fun h=>absurd rfl h,?_⟩;refine gX (ak (aj rfl rfl (bQ rfl rfl rfl (by omega) (al rfl rfl (ae ?_)))));refine⟨rfl,(j+1,AL),(.cons rfl (.cons rfl (.cons rfl (.cons rfl .nil)))),?_,?_⟩
     ·exact⟨_,hM,S,hv,g2,cB,gB,gE,by rw[bX,YN,cq,dF];exact ix,nQ,by dsimp only;omega⟩
     ·dsimp only;omega
    ·refine cP (au (ak (gQ (vs:=[vi,vs,rk,vl]) aO rfl qP rfl rfl rfl g2 ?_)));rw[bm (by omega)]at ix;obtain⟨_,_,hea,_⟩:=gB.isSlice;obtain⟨_,_,heb,_⟩:=gE.isSlice;obtain⟨_,_,hec,_⟩:=ix.isSlice;have gR:=S.aX mz;have mR:=(S.mem _ (av mz)).2 ni;refine eB (M:=M3) (vs:=[vi,vs,rk,vl]) qP rfl rfl (by intro u hu;simp at hu;rcases hu with rfl|rfl|rfl|rfl<;>first|exact iV (by assumption) rfl rfl|(rw[hea];rfl)|(rw[heb];rfl)|(rw[hec];rfl)) rfl rfl gR mR (fun wF gF sF=>?_);refine ae (aW ?_);have Fb:=SA.size;have SS:=(SA.aE S).db sF (fun k (hk:k=nh)=>by omega);have fE:∀b,M3 b→True:=fun _ _=>trivial
     have ags:=gB.step sF (fun b hb (hn:b=nh)=>gB.fc gR (by decide) (hn▸hb));have agt:=gE.step sF (fun b hb (hn:b=nh)=>gE.fc gR (by decide) (hn▸hb));have SY:=ix.step sF (fun b hb (hn:b=nh)=>ix.fc gR (by decide) (hn▸hb));exact pE (vs:=[vi,vs,rk,vl]) rfl rfl aO rfl qP rfl gF ⟨Hm (x:=jo L) (fQ (hn:=by decide) fZ SS (ags.lB Fb) (by show(L.map _).length≤_;rw[cr];omega)) (fQ (hn:=by decide) fZ SS (agt.lB Fb) (by show(L.map _).length≤_;rw[cr];omega)) ((nQ.le sF.le).le (ly fZ SS)) (fQ (hn:=by decide) fZ SS (SY.lB Fb) (by show((keysOf L).map _).length≤_;rw[cr];omega)),SS.back⟩
end Go.K
namespace Go.K
open Go.Proofs
namespace TKMksC
theorem my:TI Tryz.prog 56 (.slice none 0 0) 1 24:=by unfold TI;kernel_rfl
theorem y7:TI Tryz.prog 58 (.agg #[(.slice none 0 0),(.slice none 0 0),(.slice none 0 0),(.slice none 0 0)]) 4 96:=by unfold TI;kernel_rfl
theorem B58:placesOf Tryz.prog 58=[(0,1),(1,1),(2,1),(3,1)].map some:=by kernel_rfl
theorem Xn:Enters Tryz.prog 76:=enters Tryz.func76 rfl (by decide)
end TKMksC
open TKMksC
set_option maxRecDepth 10000
theorem DC {M:aU} {l:List (List UInt8)} {v:Value} (w0:World) (hM:Lt M w0) (hv:(RT.str.sl).V M w0 l v):
  Spec Tryz.prog 99 #[v] w0 (fun v' w'=>v'= .bool (tp none l)∧Step M w0 M w' aN):=by
 have fZ:=hM;have ZZ:=dr hv;refine bE (args:=[_]) (fn:=Tryz.f99) Tryz.func99 rfl (n:=20) Tryz.ntmps99 ?_;have S:Step M w0 M w0 aN:=(ah _ _).cD (fun _ h=>h.elim) (fun _ h=>h.elim);refine au (ak (al rfl rfl (ae (au (au (ak (al rfl rfl (ae (bu ?_)))))))));refine de (σ:=Nat) (fun k=>[(0,v),(3,.int .i64 ((k:Int)+1))]) (fun k w=>Step M w0 M w aN∧(RT.str.sl).V M w l v∧k≤l.length∧tp none l=(match l[k]? with|some x=>tp (some x) (l.drop (k+1))|none=>true)) (fun k=>l.length-k) 0 (.cons rfl (.cons rfl .nil)) ?_ ?_
 ·exact⟨S,hv,bM _,by cases l with
   |nil=>rfl
   |cons x t=>simp[tp]⟩
 ·clear S hv hM;rintro k w ⟨S,hv,hk,hu⟩;have hM:=S.lt fZ;refine au (au (ak (aj rfl rfl (aj rfl rfl (bF aJ rfl hv rfl (cu rfl rfl rfl (ae ?_)))))));refine bW rfl (fun c2=>?_) (fun c2=>?_)
  ·refine bg (au (bu (au ?_)));apply kz mixed rfl rfl;intro HX Ke;have lE:=Ke M;replace hv:=hv.le lE.le;replace hM:=lE.lt hM;have:=S.size;replace S:=S.aE lE;refine aj rfl rfl ?_;refine ae ⟨rfl,rfl,rfl,?_⟩;refine aj rfl rfl ?_;refine ae ⟨rfl,rfl,rfl,?_⟩;obtain⟨y,qG⟩:∃y,l[k+1]? =some y:=⟨_,aI (by omega)⟩;obtain⟨x,ow⟩:∃x,l[k]? =some x:=⟨_,aI (by omega)⟩;refine bS (M:=M) aJ I9 rfl rfl rfl hv (ar _ _) (by omega) (fun u42 x_ fy SF=>?_);rw[show((k:Int)+1).toNat=k+1 from by omega]at fy;obtain rfl:=aG (qG.symm.trans fy);refine ae ⟨rfl,rfl,rfl,?_⟩;refine aY (M:=M) aM rfl rfl rfl rfl rfl SF (ar _ _) (fun v43 SG=>?_);obtain rfl:=dQ SG;refine ae ⟨rfl,rfl,rfl,?_⟩;refine aj rfl rfl ?_;refine ae ⟨rfl,rfl,rfl,?_⟩;refine aj rfl rfl ?_;refine ae ⟨rfl,rfl,rfl,?_⟩;refine eJ rfl rfl rfl (by omega) ?_;refine ae ⟨rfl,rfl,rfl,?_⟩;refine bS (M:=M) aJ I9 rfl rfl rfl hv (ar _ _) (by omega) (fun u47 x_ fy agu=>?_);rw[show((k:Int)+1-1).toNat=k from by omega]at fy;obtain rfl:=aG (ow.symm.trans fy);refine ae ⟨rfl,rfl,rfl,?_⟩;refine aY (M:=M) aM rfl rfl rfl rfl rfl agu (ar _ _) (fun Ui E3=>?_);obtain rfl:=dQ E3;refine ae ⟨rfl,rfl,rfl,?_⟩;refine Rg.JQ rfl rfl rfl ?_;refine ae ⟨rfl,rfl,rfl,?_⟩;refine dv ?_;refine bW rfl (fun c4=>?_) (fun c4=>?_)
   ·refine au (ak (al rfl rfl (ae (aW ?_))));exact a8 rfl rfl ⟨congrArg Value.bool (by rw[hu,ow];dsimp only;rw[pY qG];show false=(decide (x<y)&&_);rw[decide_eq_false c4,eK]),S⟩
   ·refine bg (ak (aj rfl rfl (bQ rfl rfl rfl (by omega) (al rfl rfl (ae ?_)))));refine⟨rfl,k+1,(.cons rfl (.cons (congrArg (fun z=>some (Value.int .i64 z)) (by omega)) .nil)),?_,?_⟩
    ·exact⟨S,hv,by omega,by
      rw[hu,ow,qG];dsimp only;rw[pY qG];show(decide (x<y)&&_)=_;rw[decide_eq_true (cy.1 c4),eP]⟩
    ·omega
  ·refine cP (au (ak (al rfl rfl (ae (aW ?_)))))
   exact a8 rfl rfl ⟨congrArg Value.bool (by
    rw[hu]
    cases hg:l[k]? with
    |none=>rfl
    |some x=>dsimp only;rw[dy (by omega)];rfl),S⟩
theorem lR {M:aU} {p:Pa} {v0:Value} (w0:World) (hM:Lt M w0) (hp:RT.pa.V M w0 p v0):
  Spec Tryz.prog 45 #[v0] w0 (fun v w=>RT.pa.V M w p v∧Step M w0 M w aN):=by
 have fZ:=hM;refine bE (args:=[_]) (fn:=Tryz.f45) Tryz.func45 rfl (n:=12) Tryz.ntmps45 ?_;have S:Step M w0 M w0 aN:=(ah _ _).cD (fun _ h=>h.elim) (fun _ h=>h.elim);refine au (ak ?_);refine eG (A:=RT.pa) (a:=p) rfl rfl hM hp rfl (fun u1 Pr eW oJ _=>?_);replace hp:=hp.le oJ.le;replace hM:=oJ.lt hM;have:=S.size;replace S:=S.aE oJ;refine eu M y7 rfl (fun iS nd G8 G9 eN ja=>?_);obtain⟨dR,jj⟩:∃M',M'=ins M iS:=⟨_,rfl⟩;rw[←jj]at ja;have ed:dR iS:=by rw[jj];exact .inl rfl
 change nd.heap[iS]? =some (.cells #[.slice none 0 0,.slice none 0 0,.slice none 0 0,.slice none 0 0] _ _)at eN;replace eW:=eW.le (by decide) ja.le;replace hM:=ja.lt hM;have:=S.size;replace S:=S.aE ja;refine ae (au (ak ?_));refine aA (M:=dR) (A:=RT.pa) (B:=((RT.int .i64).sl)) aO rfl rfl gT (by decide) DL rfl rfl (by decide) eW (ar _ _) (fun OC yR=>?_);refine aY (M:=dR) ay rfl rfl rfl rfl rfl yR (ar _ _) (fun v10 iU=>?_);refine aA (M:=dR) (A:=RT.pa) (B:=((RT.int .i64).sl)) aO rfl rfl gT (by decide) Ey rfl rfl (by decide) eW (ar _ _) (fun u11 S0=>?_);refine aY (M:=dR) ay rfl rfl rfl rfl rfl S0 (ar _ _) (fun v11 sH=>?_);refine aA (M:=dR) (A:=RT.pa) (B:=(RT.str.sl)) aO rfl rfl ph (by decide) Ez rfl rfl (by decide) eW (ar _ _) (fun u12 Lz=>?_);refine aY (M:=dR) aJ rfl rfl rfl rfl rfl Lz (ar _ _) (fun v12 yh=>?_);refine aA (M:=dR) (A:=RT.pa) (B:=(((RT.po).sl).sl)) aO rfl rfl my (by decide) A5 rfl rfl (by decide) eW (ar _ _) (fun u13 S8=>?_);refine aY (M:=dR) bH rfl rfl rfl rfl rfl S8 (ar _ _) (fun F7 uu=>?_);refine eF (places:=[(0,1),(1,1),(2,1),(3,1)]) bR y7 B58 rfl ⟨_,_,rfl,rfl,_,_,rfl,rfl,_,_,rfl,rfl,_,_,rfl,rfl,rfl⟩ (out:=[v10,v11,v12,F7]) ⟨0,[_],rfl,fg iU,by simp[Value.cells],1,[_],rfl,fg sH,by simp[Value.cells],2,[_],rfl,fg yh,by simp[Value.cells],3,[_],rfl,fg uu,by simp[Value.cells],rfl⟩ ?_;refine eB (M:=dR) (vs:=[v10,v11,v12,F7]) y7 rfl rfl (by intro u hu;simp at hu;rcases hu with rfl|rfl|rfl|rfl<;>exact iV (by assumption) rfl rfl) rfl rfl eN ed (fun wF gF sF=>?_);have:=av eN;replace ed:=(sF.mem _ this).2 ed;replace eW:=eW.le (by decide) sF.le;replace iU:=iU.le sF.le
 replace sH:=sH.le sF.le;replace yh:=yh.le sF.le;replace uu:=uu.le sF.le;replace hM:=sF.lt hM;have:=S.size;replace S:=S.trans sF (fun k hk h=>by have h:_=_:=h;subst h;first|(exfalso;omega)|(show _≤_;omega)|exact⟨by first|omega|assumption,(S.mem _ hk).1 ((sF.mem _ (av eN)).1 ed)⟩|exact .inl rfl|exact .inr rfl|exact .inr (.inl rfl)|exact .inr (.inr rfl)|exact .inr (.inr (.inl rfl))|exact rfl);have pX:=gF;clear eN;have eN:=pX;clear pX;refine ae (aW ?_);have lc:=ly fZ S;exact pE (vs:=[v10,v11,v12,F7]) rfl rfl bR rfl y7 rfl eN ⟨Hm (iU.le lc) (sH.le lc) (yh.le lc) (uu.le lc),S.back⟩
theorem Fe {M:aU} {p:Pa} {v0:Value} (w0:World) (hM:Lt M w0) (hp:RT.pa.V M w0 p v0) (hR:Gd p):
  Spec Tryz.prog 46 #[v0] w0 (fun v w=>v= .bool (jJ p)∧Step M w0 M w aN):=by
 refine bE (args:=[_]) (fn:=Tryz.f46) Tryz.func46 rfl (n:=6) Tryz.ntmps46 ?_;have S:Step M w0 M w0 aN:=(ah _ _).cD (fun _ h=>h.elim) (fun _ h=>h.elim);refine au (ak ?_);refine eG (A:=RT.pa) (a:=p) rfl rfl hM hp rfl (fun u1 Pr eW oJ _=>?_);replace hp:=hp.le oJ.le;replace hM:=oJ.lt hM;have:=S.size;replace S:=S.aE oJ;refine al rfl rfl (ae (au (ak ?_)));refine cc (M:=M) (A:=RT.pa) bR rfl y7 (by decide) rfl rfl rfl eW (ar _ _) (fun v10 iU=>?_);refine aS rfl rfl Xn (uQ _ hM iU hR) (fun r1 w2 hc=>?_);obtain⟨s2,hok,jU⟩:=hc
 obtain⟨o1,OU⟩:∃o,r1= .pointer o:=by
  cases h:jJ p with
  |true=>obtain⟨b,o,_,h1,_⟩:=hok h;exact⟨_,h1⟩
  |false=>exact⟨none,jU h⟩
 subst OU;replace eW:=eW.le (by decide) s2.le;replace hM:=s2.lt hM;have:=S.size;replace S:=S.aE s2;refine Rg.Ov ux rfl rfl rfl ?_
 refine bO (v':= .bool (jJ p)) (by
  cases h:jJ p with
  |true=>obtain⟨b,o,_,h1,_⟩:=hok h;cases h1;rfl
  |false=>have h1:=jU h;cases h1;rfl) ?_
 refine al rfl rfl (ae (aW ?_));exact a8 rfl rfl ⟨rfl,S⟩
end Go.K
namespace Go.K
open Go.Proofs
namespace TKMksD
theorem my:TI Tryz.prog 56 (.slice none 0 0) 1 24:=by unfold TI;kernel_rfl
theorem qP:TI Tryz.prog 62 (.agg #[(.slice none 0 0),(.slice none 0 0),(.slice none 0 0),(.slice none 0 0)]) 4 96:=by unfold TI;kernel_rfl
theorem fX:TI Tryz.prog 107 (.slice none 0 0) 1 24:=by unfold TI;kernel_rfl
end TKMksD
open TKMksD
set_option maxRecDepth 10000
def vI (p:Pa):Pa:=(p.1.take 10,p.2.1.take 10,(p.2.2.1.take 10).map (·.take 10),(p.2.2.2.take 10).map (·.take 10))
theorem oK {α:Type} (l:List α):l.take (min (l.length:Int) 10).toNat=l.take 10:=by rw[hU];omega
theorem Ff {M:aU} {p:Pa} {v0:Value} (w0:World) (hM:Lt M w0) (hp:RT.pa.V M w0 p v0):
  Spec Tryz.prog 43 #[v0] w0 (fun v w=>RT.pa.V M w (vI p) v∧Step M w0 M w aN):=by
 have fZ:=hM;refine bE (args:=[_]) (fn:=Tryz.f43) Tryz.func43 rfl (n:=81) Tryz.ntmps43 ?_;have S:Step M w0 M w0 aN:=(ah _ _).cD (fun _ h=>h.elim) (fun _ h=>h.elim);refine au (ak ?_);refine eG (A:=RT.pa) (a:=p) rfl rfl hM hp rfl (fun u1 Pr eW oJ _=>?_);replace hp:=hp.le oJ.le;replace hM:=oJ.lt hM;have:=S.size;replace S:=S.aE oJ;refine eu M qP rfl (fun iS nd G8 G9 eN ja=>?_);obtain⟨MA,YE⟩:∃M',M'=ins M iS:=⟨_,rfl⟩;rw[←YE]at ja;have ed:MA iS:=by rw[YE];exact .inl rfl
 replace eW:=eW.le (by decide) ja.le;have Ps:=ja.lt hM;have hbz:=S.size;have SA:=S.aE ja;clear hM S;have hM:=Ps;have S:Step MA nd MA nd aN:=ah _ _;refine ae (au (ak ?_));refine eu MA qP rfl (fun fv vz G1 I6 fU jQ=>?_);obtain⟨eY,ji⟩:∃M',M'=ins MA fv:=⟨_,rfl⟩;rw[←ji]at jQ;have eL:eY fv:=by rw[ji];exact .inl rfl
 change vz.heap[fv]? =some (.cells #[.slice none 0 0,.slice none 0 0,.slice none 0 0,.slice none 0 0] _ _)at fU;replace eW:=eW.le (by decide) jQ.le;replace hM:=jQ.lt hM;have:=S.size;replace S:=S.aE jQ;refine ae (au (ak ?_));refine aA (M:=eY) (A:=RT.pa) (B:=((RT.int .i64).sl)) aO rfl rfl gT (by decide) DL rfl rfl (by decide) eW (ar _ _) (fun u20 LA=>?_);refine aY (M:=eY) ay rfl rfl rfl rfl rfl LA (ar _ _) (fun v21 uv=>?_);refine aA (M:=eY) (A:=RT.pa) (B:=((RT.int .i64).sl)) aO rfl rfl gT (by decide) DL rfl rfl (by decide) eW (ar _ _) (fun u22 SN=>?_);refine aY (M:=eY) ay rfl rfl rfl rfl rfl SN (ar _ _) (fun v23 Lq=>?_);refine bF ay rfl Lq rfl (Rg.min2 rfl rfl rfl ?_);refine Rg.mJ (M:=eY) ay I3 rfl rfl rfl uv (by omega) (fun LH j3=>?_);rw[oK]at j3;refine bI (o':=0) aO rfl rfl gT (by decide) rfl rfl ?_;refine cw (M:=eY) gT rfl rfl fU rfl (iV j3 rfl rfl) eL (fun agv NR HI=>?_);change agv.heap[_]? =some (Obj.cells #[LH,.slice none 0 0,.slice none 0 0,.slice none 0 0] _ _)at NR;have:=av fU;replace eL:=(HI.mem _ this).2 eL;replace eW:=eW.le (by decide) HI.le;replace j3:=j3.le HI.le;replace hM:=HI.lt hM;have:=S.size;replace S:=S.trans HI (fun k hk h=>by have h:_=_:=h;subst h;first|(exfalso;omega)|(show _≤_;omega)|exact⟨by first|omega|assumption,(S.mem _ hk).1 ((HI.mem _ (av fU)).1 eL)⟩|exact .inl rfl|exact .inr rfl|exact .inr (.inl rfl)|exact .inr (.inr rfl)|exact .inr (.inr (.inl rfl))|exact rfl);have pR:=NR;clear fU;have fU:=pR;clear pR;refine ae (au (ak ?_));refine aA (M:=eY) (A:=RT.pa) (B:=((RT.int .i64).sl)) aO rfl rfl gT (by decide) Ey rfl rfl (by decide) eW (ar _ _) (fun u30 LB=>?_)
 refine aY (M:=eY) ay rfl rfl rfl rfl rfl LB (ar _ _) (fun v31 LC=>?_);refine aA (M:=eY) (A:=RT.pa) (B:=((RT.int .i64).sl)) aO rfl rfl gT (by decide) Ey rfl rfl (by decide) eW (ar _ _) (fun u32 SO=>?_);refine aY (M:=eY) ay rfl rfl rfl rfl rfl SO (ar _ _) (fun v33 SP=>?_);refine bF ay rfl SP rfl (Rg.min2 rfl rfl rfl ?_);refine Rg.mJ (M:=eY) ay I3 rfl rfl rfl LC (by omega) (fun Me ky=>?_);rw[oK]at ky;refine bI (o':=1) aO rfl rfl gT (by decide) rfl rfl ?_;refine cw (M:=eY) gT rfl rfl fU rfl (iV ky rfl rfl) eL (fun agw YQ Fg=>?_);change agw.heap[_]? =some (Obj.cells #[LH,Me,.slice none 0 0,.slice none 0 0] _ _)at YQ;have:=av fU;replace eL:=(Fg.mem _ this).2 eL;replace eW:=eW.le (by decide) Fg.le;replace j3:=j3.le Fg.le;replace ky:=ky.le Fg.le;replace hM:=Fg.lt hM;have:=S.size;replace S:=S.trans Fg (fun k hk h=>by have h:_=_:=h;subst h;first|(exfalso;omega)|(show _≤_;omega)|exact⟨by first|omega|assumption,(S.mem _ hk).1 ((Fg.mem _ (av fU)).1 eL)⟩|exact .inl rfl|exact .inr rfl|exact .inr (.inl rfl)|exact .inr (.inr rfl)|exact .inr (.inr (.inl rfl))|exact rfl);have pR:=YQ;clear fU;have fU:=pR;clear pR;refine ae (au (au (ak (al rfl rfl (ae (bu ?_))))));refine de (σ:=Nat×Value) (fun q=>[(1,u1),(2,.pointer (some ⟨iS,0,none⟩)),(3,.pointer (some ⟨fv,0,none⟩)),(4,.int .i64 (q.1:Int))]) (fun q w=>∃M',Lt M' w∧Step MA nd M' w aN∧w.heap[fv]? =some (.cells #[LH,Me,q.2,.slice none 0 0] 62 (0,0))∧M' fv∧Own RT.str 9 M' w nd.heap.size q.2 ((p.2.2.1.take q.1).map (·.take 10))∧bL RT.pa M' w u1 p∧((RT.int .i64).sl).V M' w (p.1.take 10) LH∧((RT.int .i64).sl).V M' w (p.2.1.take 10) Me∧q.1≤p.2.2.1.length∧q.1≤10) (fun q=>10-q.1) (0,.slice none 0 0) (.cons rfl (.cons rfl (.cons rfl (.cons rfl .nil)))) ?_ ?_
 ·exact⟨_,hM,S,fU,eL,dO _ _ _ _ _,eW,j3,ky,bM _,bM _⟩
 ·clear hM S eW j3 ky;rintro⟨i,vk⟩ w ⟨M2,hM,S,g2,cB,hok,eW,j3,ky,hi,agx⟩;dsimp only at g2 hok hi agx ⊢;refine au ?_;refine T.qe [(1,u1),(2,.pointer (some ⟨iS,0,none⟩)),(3,.pointer (some ⟨fv,0,none⟩)),(4,.int .i64 (i:Int)),(30,.bool (decide ((i:Int)<(p.2.2.1.length:Int)∧(i:Int)<10)))] ?_ ?_
  ·refine ak (aj rfl rfl ?_);refine aA (M:=M2) (A:=RT.pa) (B:=(RT.str.sl)) aO rfl rfl ph (by decide) Ez rfl rfl (by decide) eW (ar _ _) (fun u51 Sz=>?_);refine aY (M:=M2) aJ rfl rfl rfl rfl rfl Sz (ar _ _) (fun v52 NW=>?_);have ZY:=dr NW;refine bF aJ rfl NW rfl (cu rfl rfl rfl (aj rfl rfl ?_));refine aZ (g:=27) rfl (fun agy=>?_) (fun agy=>?_)
   ·refine aq rfl rfl (aj rfl rfl (aq rfl rfl (cu rfl rfl rfl (aR rfl rfl rfl (ae ?_)))));exact⟨rfl,rfl,rfl,.cons rfl (.cons rfl (.cons rfl (.cons rfl (.cons (by first|rfl|exact congrArg (fun b=>some (Value.bool b)) (bY (decide_eq_false (by omega)))|exact congrArg (fun b=>some (Value.bool b)) (bY (decide_eq_true (by omega)))|exact congrArg (fun b=>some (Value.bool b)) (decide_eq_decide.2 (by omega))) (.nil)))))⟩
   ·refine aw rfl rfl rfl rfl (aw rfl rfl rfl rfl (aL rfl rfl rfl (ae ?_)));exact⟨rfl,rfl,rfl,.cons rfl (.cons rfl (.cons rfl (.cons rfl (.cons (by first|rfl|exact congrArg (fun b=>some (Value.bool b)) (bY (decide_eq_false (by omega)))|exact congrArg (fun b=>some (Value.bool b)) (bY (decide_eq_true (by omega)))|exact congrArg (fun b=>some (Value.bool b)) (decide_eq_decide.2 (by omega))) (.nil)))))⟩
  ·refine bW rfl (fun c5=>?_) (fun c5=>?_)
   ·refine bg (au (bu ?_));apply nr 15 [0,1] 1 aN mixed rfl rfl rfl rfl;intro T4 sA7;have zQ:=sA7 M2;have:=av g2;replace cB:=(zQ.mem _ this).2 cB;replace g2:=zQ.aX g2;replace eW:=eW.le (by decide) zQ.le;replace j3:=j3.le zQ.le;replace ky:=ky.le zQ.le;replace hok:=hok.bC zQ;replace hM:=zQ.lt hM;have:=S.size;replace S:=S.aE zQ;refine bI (o':=2) aO rfl rfl ph (by decide) rfl rfl ?_;refine ae ⟨rfl,rfl,rfl,?_⟩;refine br aJ rfl rfl rfl (by first|assumption|exact cI zQ (by assumption)) rfl ?_;refine ae ⟨rfl,rfl,rfl,?_⟩;obtain⟨x,ow⟩:∃x,p.2.2.1[i]? =some x:=⟨_,aI (by omega)⟩;refine aA (M:=M2) (A:=RT.pa) (B:=(RT.str.sl)) aO rfl rfl ph (by decide) Ez rfl rfl (by decide) eW (ar _ _) (fun u72 agz=>?_);refine ae ⟨rfl,rfl,rfl,?_⟩;refine aY (M:=M2) aJ rfl rfl rfl rfl rfl agz (ar _ _) (fun v73 agA=>?_);refine ae ⟨rfl,rfl,rfl,?_⟩;refine aj rfl rfl ?_;refine ae ⟨rfl,rfl,rfl,?_⟩;refine bS (M:=M2) aJ I9 rfl rfl rfl agA (ar _ _) (by omega) (fun u75 x_ fy agB=>?_);rw[aK]at fy;obtain rfl:=aG (ow.symm.trans fy);refine ae ⟨rfl,rfl,rfl,?_⟩;refine aY (M:=M2) aM rfl rfl rfl rfl rfl agB (ar _ _) (fun v76 YR=>?_);have wk:=(jM.1 YR).2;obtain rfl:=dQ YR;refine ae ⟨rfl,rfl,rfl,?_⟩;refine aA (M:=M2) (A:=RT.pa) (B:=(RT.str.sl)) aO rfl rfl ph (by decide) Ez rfl rfl (by decide) eW (ar _ _) (fun u77 agC=>?_);refine ae ⟨rfl,rfl,rfl,?_⟩;refine aY (M:=M2) aJ rfl rfl rfl rfl rfl agC (ar _ _) (fun v78 agD=>?_);refine ae ⟨rfl,rfl,rfl,?_⟩;refine aj rfl rfl ?_;refine ae ⟨rfl,rfl,rfl,?_⟩;refine bS (M:=M2) aJ I9 rfl rfl rfl agD (ar _ _) (by omega) (fun aoK x_ fy YS=>?_);rw[aK]at fy
    obtain rfl:=aG (ow.symm.trans fy);refine ae ⟨rfl,rfl,rfl,?_⟩;refine aY (M:=M2) aM rfl rfl rfl rfl rfl YS (ar _ _) (fun aoL YT=>?_);obtain rfl:=dQ YT;refine ae ⟨rfl,rfl,rfl,?_⟩;refine vJ aM rfl rfl (bO (v':= .int .i64 (x.length:Int)) (by simp[ByteArray.size]) ?_);refine ae ⟨rfl,rfl,rfl,?_⟩;refine Rg.min2 rfl rfl rfl ?_;refine ae ⟨rfl,rfl,rfl,?_⟩;refine Rg.IK aM rfl rfl rfl (by omega) (bO (v':= .string ⟨(x.take 10).toArray⟩) (by rw[oK]) ?_);refine ae ⟨rfl,rfl,rfl,?_⟩;refine dv ?_;refine⟨eA ⟨eM aO rfl ph (by decide),⟨dx rfl g2 (fun h=>h),trivial⟩⟩,?_⟩;have kp:=eX aN T4;refine ez (A:=RT.str) (hn:=by decide) (M:=M2) aJ I9 (by decide) rfl rfl hM (jM.2 ⟨rfl,by rw[bU];omega⟩) (.inr ⟨rfl,rfl⟩) (fun ajX ajY yk uZ=>?_);have:=av g2;replace cB:=(uZ.mem _ this).2 cB;replace g2:=uZ.aX g2;replace eW:=eW.le (by decide) uZ.le;replace j3:=j3.le uZ.le;replace ky:=ky.le uZ.le;replace hok:=hok.bC uZ;replace hM:=uZ.lt hM;have:=S.size;replace S:=S.aE uZ;refine(fun(kp:eg _ _ _)=>ae ⟨rfl,rfl,fun _=>kp,?_⟩) (by first|exact kp|exact kp.mY (by assumption)|exact kp.goN (by assumption)|exact kp.go (by assumption) (fun _ _ h=>by first|exact h|exact h.elim));refine cz (M:=M2) (base:=nd.heap.size) aJ I9 rfl rfl rfl rfl hok yk (ar _ _) (by simp;omega) (by simp;omega) (S.size) (fun Pv YU ajZ Ta ve=>?_);have:=av g2;replace cB:=(ve.mem _ this).2 cB;replace g2:=ve.b9 g2 (fun h=>by first|exact hok.dZ g2 h|exact hok.fc g2 (by decide) h|(have:=(hok.base _ h).1;omega));replace eW:=eW.le (by decide) ve.le;replace j3:=j3.le ve.le;replace ky:=ky.le ve.le;replace yk:=yk.le ve.le;replace hM:=ve.lt hM;have:=S.size;replace S:=S.cJ ve hok (bw _)
    replace hok:=Ta;refine ae ⟨rfl,rfl,fun h=>absurd rfl h,?_⟩;refine bI (o':=2) aO rfl rfl ph (by decide) rfl rfl ?_;refine ae ⟨rfl,rfl,fun h=>absurd rfl h,?_⟩;refine cw (M:=YU) ph rfl rfl g2 rfl (by obtain⟨_,_,he,_⟩:=hok.isSlice;rw[he];rfl) cB (fun YV Pw sY=>?_);change YV.heap[_]? =some (Obj.cells #[LH,Me,Pv,.slice none 0 0] _ _)at Pw;have:=av g2;replace cB:=(sY.mem _ this).2 cB;replace eW:=eW.le (by decide) sY.le;replace j3:=j3.le sY.le;replace ky:=ky.le sY.le;replace yk:=yk.le sY.le;replace hok:=hok.step sY (fun c hc (h:c=fv)=>hok.fc g2 (by decide) (h▸hc));replace hM:=sY.lt hM;have:=S.size;replace S:=S.trans sY (fun k hk h=>by have h:_=_:=h;subst h;first|(exfalso;omega)|(show _≤_;omega)|exact⟨by first|omega|assumption,(S.mem _ hk).1 ((sY.mem _ (av g2)).1 cB)⟩|exact .inl rfl|exact .inr rfl|exact .inr (.inl rfl)|exact .inr (.inr rfl)|exact .inr (.inr (.inl rfl))|exact rfl);have so:=Pw;clear g2;have g2:=so;clear so;refine ae ⟨rfl,rfl,fun h=>absurd rfl h,?_⟩;refine gX (ak (aj rfl rfl (bQ rfl rfl rfl (by omega) (al rfl rfl (ae ?_)))));refine⟨rfl,(i+1,Pv),(.cons rfl (.cons rfl (.cons rfl (.cons rfl .nil)))),?_,?_⟩
    ·exact⟨_,hM,S,g2,cB,by rw[bX,ow,cq,dF];exact hok,eW,j3,ky,by dsimp only;omega,by dsimp only;omega⟩
    ·dsimp only;omega
   ·refine cP (au (au (ak (al rfl rfl (ae (bu ?_))))));refine de (σ:=Nat×Value) (fun q=>[(1,u1),(2,.pointer (some ⟨iS,0,none⟩)),(3,.pointer (some ⟨fv,0,none⟩)),(5,.int .i64 (q.1:Int))]) (fun q w=>∃M',Lt M' w∧Step MA nd M' w aN∧w.heap[fv]? =some (.cells #[LH,Me,vk,q.2] 62 (0,0))∧M' fv∧Own RT.str 9 M' w nd.heap.size vk ((p.2.2.1.take i).map (·.take 10))∧Own ((RT.po).sl) 107 M' w nd.heap.size q.2 ((p.2.2.2.take q.1).map (·.take 10))∧bL RT.pa M' w u1 p∧((RT.int .i64).sl).V M' w (p.1.take 10) LH∧((RT.int .i64).sl).V M' w (p.2.1.take 10) Me∧q.1≤p.2.2.2.length∧q.1≤10) (fun q=>10-q.1) (0,.slice none 0 0) (.cons rfl (.cons rfl (.cons rfl (.cons rfl .nil)))) ?_ ?_
    ·exact⟨_,hM,S,g2,cB,hok,dO _ _ _ _ _,eW,j3,ky,bM _,bM _⟩
    ·clear hM S eW j3 ky hok g2 cB;rintro⟨j,vl⟩ w ⟨M3,hM,S,g2,cB,hok,ix,eW,j3,ky,hj,agE⟩;dsimp only at g2 ix hj agE ⊢;refine au ?_;refine T.qe [(1,u1),(2,.pointer (some ⟨iS,0,none⟩)),(3,.pointer (some ⟨fv,0,none⟩)),(5,.int .i64 (j:Int)),(59,.bool (decide ((j:Int)<(p.2.2.2.length:Int)∧(j:Int)<10)))] ?_ ?_
     ·refine ak (aj rfl rfl ?_);refine aA (M:=M3) (A:=RT.pa) (B:=(((RT.po).sl).sl)) aO rfl rfl my (by decide) A5 rfl rfl (by decide) eW (ar _ _) (fun u91 SC=>?_);refine aY (M:=M3) bH rfl rfl rfl rfl rfl SC (ar _ _) (fun v92 NX=>?_);have Gz:=dr NX;refine bF bH rfl NX rfl (cu rfl rfl rfl (aj rfl rfl ?_));refine aZ (g:=56) rfl (fun Nf=>?_) (fun Nf=>?_)
      ·refine aq rfl rfl (aj rfl rfl (aq rfl rfl (cu rfl rfl rfl (aR rfl rfl rfl (ae ?_)))));exact⟨rfl,rfl,rfl,.cons rfl (.cons rfl (.cons rfl (.cons rfl (.cons (by first|rfl|exact congrArg (fun b=>some (Value.bool b)) (bY (decide_eq_false (by omega)))|exact congrArg (fun b=>some (Value.bool b)) (bY (decide_eq_true (by omega)))|exact congrArg (fun b=>some (Value.bool b)) (decide_eq_decide.2 (by omega))) (.nil)))))⟩
      ·refine aw rfl rfl rfl rfl (aw rfl rfl rfl rfl (aL rfl rfl rfl (ae ?_)));exact⟨rfl,rfl,rfl,.cons rfl (.cons rfl (.cons rfl (.cons rfl (.cons (by first|rfl|exact congrArg (fun b=>some (Value.bool b)) (bY (decide_eq_false (by omega)))|exact congrArg (fun b=>some (Value.bool b)) (bY (decide_eq_true (by omega)))|exact congrArg (fun b=>some (Value.bool b)) (decide_eq_decide.2 (by omega))) (.nil)))))⟩
     ·refine bW rfl (fun c9=>?_) (fun c9=>?_)
      ·refine bg (au (bu ?_));apply nr 15 [0,1] 1 aN mixed rfl rfl rfl rfl;intro y4 A9;have fF:=A9 M3;have:=av g2;replace cB:=(fF.mem _ this).2 cB;replace g2:=fF.aX g2;replace eW:=eW.le (by decide) fF.le;replace j3:=j3.le fF.le;replace ky:=ky.le fF.le;replace hok:=hok.bC fF;replace ix:=ix.bC fF;replace hM:=fF.lt hM;have:=S.size;replace S:=S.aE fF;refine bI (o':=3) aO rfl rfl my (by decide) rfl rfl ?_;refine ae ⟨rfl,rfl,rfl,?_⟩;refine br bH rfl rfl rfl (by first|assumption|exact cI fF (by assumption)) rfl ?_;refine ae ⟨rfl,rfl,rfl,?_⟩;obtain⟨x,ow⟩:∃x,p.2.2.2[j]? =some x:=⟨_,aI (by omega)⟩;refine aA (M:=M3) (A:=RT.pa) (B:=(((RT.po).sl).sl)) aO rfl rfl my (by decide) A5 rfl rfl (by decide) eW (ar _ _) (fun aoM YW=>?_);refine ae ⟨rfl,rfl,rfl,?_⟩;refine aY (M:=M3) bH rfl rfl rfl rfl rfl YW (ar _ _) (fun aoN YX=>?_);refine ae ⟨rfl,rfl,rfl,?_⟩;refine aj rfl rfl ?_;refine ae ⟨rfl,rfl,rfl,?_⟩;refine bS (M:=M3) bH fX rfl rfl rfl YX (ar _ _) (by omega) (fun aoO x_ fy YY=>?_);rw[aK]at fy;obtain rfl:=aG (ow.symm.trans fy);refine ae ⟨rfl,rfl,rfl,?_⟩;refine aY (M:=M3) aC rfl rfl rfl rfl rfl YY (ar _ _) (fun aoP YZ=>?_);refine ae ⟨rfl,rfl,rfl,?_⟩;refine aA (M:=M3) (A:=RT.pa) (B:=(((RT.po).sl).sl)) aO rfl rfl my (by decide) A5 rfl rfl (by decide) eW (ar _ _) (fun aoQ Y0=>?_);refine ae ⟨rfl,rfl,rfl,?_⟩;refine aY (M:=M3) bH rfl rfl rfl rfl rfl Y0 (ar _ _) (fun aoR Y1=>?_);refine ae ⟨rfl,rfl,rfl,?_⟩;refine aj rfl rfl ?_;refine ae ⟨rfl,rfl,rfl,?_⟩;refine bS (M:=M3) bH fX rfl rfl rfl Y1 (ar _ _) (by omega) (fun aj0 x_ fy Tb=>?_)
       rw[aK]at fy;obtain rfl:=aG (ow.symm.trans fy);refine ae ⟨rfl,rfl,rfl,?_⟩;refine aY (M:=M3) aC rfl rfl rfl rfl rfl Tb (ar _ _) (fun aj1 Tc=>?_);refine ae ⟨rfl,rfl,rfl,?_⟩;refine bF aC rfl Tc rfl ?_;refine ae ⟨rfl,rfl,rfl,?_⟩;refine Rg.min2 rfl rfl rfl ?_;refine ae ⟨rfl,rfl,rfl,?_⟩;refine Rg.mJ (M:=M3) aC dW rfl rfl rfl YZ (by omega) (fun aoS vf=>?_);rw[oK]at vf;refine ae ⟨rfl,rfl,rfl,?_⟩;refine dv ?_;refine⟨eA ⟨eM aO rfl my (by decide),⟨dx rfl g2 (fun h=>h),trivial⟩⟩,?_⟩;have kp:=eX aN y4;refine ez (A:=((RT.po).sl)) (hn:=by decide) (M:=M3) bH fX (by decide) rfl rfl hM (vf) (.inr ⟨rfl,rfl⟩) (fun agF agG ta nj=>?_);have:=av g2;replace cB:=(nj.mem _ this).2 cB;replace g2:=nj.aX g2;replace eW:=eW.le (by decide) nj.le;replace j3:=j3.le nj.le;replace ky:=ky.le nj.le;replace vf:=vf.le nj.le;replace hok:=hok.bC nj;replace ix:=ix.bC nj;replace hM:=nj.lt hM;have:=S.size;replace S:=S.aE nj;refine(fun(kp:eg _ _ _)=>ae ⟨rfl,rfl,fun _=>kp,?_⟩) (by first|exact kp|exact kp.mY (by assumption)|exact kp.goN (by assumption)|exact kp.go (by assumption) (fun _ _ h=>by first|exact h|exact h.elim));refine cz (M:=M3) (base:=nd.heap.size) bH fX rfl rfl rfl rfl ix ta (ar _ _) (by simp;omega) (by simp;omega) (S.size) (fun LI Td agH N6 nk=>?_);have:=av g2;replace cB:=(nk.mem _ this).2 cB;replace g2:=nk.b9 g2 (fun h=>by first|exact ix.dZ g2 h|exact ix.fc g2 (by decide) h|(have:=(ix.base _ h).1;omega));replace eW:=eW.le (by decide) nk.le;replace j3:=j3.le nk.le;replace ky:=ky.le nk.le;replace vf:=vf.le nk.le;replace ta:=ta.le nk.le
       replace hok:=hok.step nk (fun b h1 h2=>hok.jg ix (by decide) h1 h2);replace hM:=nk.lt hM;have:=S.size;replace S:=S.cJ nk ix (bw _);replace ix:=N6;refine ae ⟨rfl,rfl,fun h=>absurd rfl h,?_⟩;refine bI (o':=3) aO rfl rfl my (by decide) rfl rfl ?_;refine ae ⟨rfl,rfl,fun h=>absurd rfl h,?_⟩;refine cw (M:=Td) my rfl rfl g2 rfl (by obtain⟨_,_,he,_⟩:=ix.isSlice;rw[he];rfl) cB (fun Te LJ mB=>?_);change Te.heap[_]? =some (Obj.cells #[LH,Me,vk,LI] _ _)at LJ;have:=av g2;replace cB:=(mB.mem _ this).2 cB;replace eW:=eW.le (by decide) mB.le;replace j3:=j3.le mB.le;replace ky:=ky.le mB.le;replace vf:=vf.le mB.le;replace ta:=ta.le mB.le;replace hok:=hok.step mB (fun c hc (h:c=fv)=>hok.fc g2 (by decide) (h▸hc));replace ix:=ix.step mB (fun c hc (h:c=fv)=>ix.fc g2 (by decide) (h▸hc));replace hM:=mB.lt hM;have:=S.size;replace S:=S.trans mB (fun k hk h=>by have h:_=_:=h;subst h;first|(exfalso;omega)|(show _≤_;omega)|exact⟨by first|omega|assumption,(S.mem _ hk).1 ((mB.mem _ (av g2)).1 cB)⟩|exact .inl rfl|exact .inr rfl|exact .inr (.inl rfl)|exact .inr (.inr rfl)|exact .inr (.inr (.inl rfl))|exact rfl);have so:=LJ;clear g2;have g2:=so;clear so;refine ae ⟨rfl,rfl,fun h=>absurd rfl h,?_⟩;refine gX (ak (aj rfl rfl (bQ rfl rfl rfl (by omega) (al rfl rfl (ae ?_)))));refine⟨rfl,(j+1,LI),(.cons rfl (.cons rfl (.cons rfl (.cons rfl .nil)))),?_,?_⟩
       ·exact⟨_,hM,S,g2,cB,hok,by rw[bX,ow,cq,dF];exact ix,eW,j3,ky,by dsimp only;omega,by dsimp only;omega⟩
       ·dsimp only;omega
      ·refine cP (au (ak (gQ (vs:=[LH,Me,vk,vl]) aO rfl qP rfl rfl rfl g2 ?_)));obtain⟨_,_,heb,_⟩:=hok.isSlice;obtain⟨_,_,hec,_⟩:=ix.isSlice;have gR:=S.aX eN;have mR:=(S.mem _ (av eN)).2 ed;refine eB (M:=M3) (vs:=[LH,Me,vk,vl]) qP rfl rfl (by intro u hu;simp at hu;rcases hu with rfl|rfl|rfl|rfl<;>first|exact iV (by assumption) rfl rfl|(rw[heb];rfl)|(rw[hec];rfl)) rfl rfl gR mR (fun wF gF sF=>?_);refine ae (aW ?_);have ei:p.2.2.1.take i=p.2.2.1.take 10:=by rw[hU];omega
       have ej:p.2.2.2.take j=p.2.2.2.take 10:=by rw[hU];omega
       rw[ei]at hok;rw[ej]at ix;have Fb:=SA.size;have SS:=(SA.aE S).db sF (fun k (hk:k=iS)=>by omega);have agI:=hok.step sF (fun b hb (hn:b=iS)=>hok.fc gR (by decide) (hn▸hb));have SY:=ix.step sF (fun b hb (hn:b=iS)=>ix.fc gR (by decide) (hn▸hb));have lc:=sF.le.trans (ly fZ SS);exact pE (vs:=[LH,Me,vk,vl]) rfl rfl aO rfl qP rfl gF ⟨Hm (x:=vI p) (j3.le lc) (ky.le lc) (fQ (hn:=by decide) fZ SS (agI.lB Fb) (by show(List.map _ _).length≤_;rw[cr,bU];omega)) (fQ (hn:=by decide) fZ SS (SY.lB Fb) (by show(List.map _ _).length≤_;rw[cr,bU];omega)),SS.back⟩
end Go.K
namespace Go.K
open Go.Proofs
namespace TKMksA
theorem E98:Enters Tryz.prog 98:=enters Tryz.func98 rfl (by decide)
end TKMksA
open TKMksA
set_option maxRecDepth 10000
theorem Ag:∀(l:List Int) (last:Int),ec last l=true→∀y,l.getLast?=some y→∀x∈l,x≤y
 |[],_,_,_,h,_,_=>by simp at h
 |[a],_,_,y,h,x,hx=>by simp at h hx;omega
 |a::b::l,last,h,y,hy,x,hx=>by
  simp only[ec,bZ,decide_eq_true_eq]at h;have h2:ec a (b::l)=true:=by simp only[ec,bZ,decide_eq_true_eq];exact h.2
  have hy2:(b::l).getLast?=some y:=by simpa[List.getLast?_cons_cons]using hy
  have ih:=Ag (b::l) a h2 y hy2;rcases ew.1 hx with rfl|hx
  ·have:=ih b (cn ..);omega
  ·exact ih x hx
theorem vg {ps:List Int} {y:Int} (h:ec (-1) ps=true) (hy:ps[ps.length-1]? =some y):dL ps=decide (y<2147483648):=by
 rw[←List.getLast?_eq_getElem?]at hy;unfold dL;rw[h,eP];by_cases ek:y<2147483648
 ·rw[decide_eq_true ek];simp only[eh,decide_eq_true_eq];intro x hx;have:=Ag ps _ h y hy x hx;omega
 ·rw[decide_eq_false ek];rw[qX];exact⟨y,List.mem_of_getLast? hy,by simpa using ek⟩
set_option maxHeartbeats 4000000 in
theorem Fh {M:aU} {w0:World} {v:Value} {l:List Po} (hM:Lt M w0) (hv:((RT.po).sl).V M w0 l v):
  Spec Tryz.prog 100 #[v] w0 (fun v' w'=>v'= .bool (dH (-1) l)∧Step M w0 M w' aN):=by
 have hlen:=dr hv;refine bE (args:=[_]) (fn:=Tryz.f100) Tryz.func100 rfl (n:=79) Tryz.ntmps100 (au (ak (al rfl rfl (ae (au (au (ak (al rfl rfl (ae (bu ?_))))))))));refine de (σ:=Nat×Int×List Int) (fun s=>[(0,v),(3,.int .i64 s.1)]) (fun s w=>Step M w0 M w aN∧s.1≤l.length∧dH (-1) l=dH s.2.1 (l.drop s.1)∧ -1≤s.2.1∧(s.1=0→s.2.1= -1)∧(0<s.1→l[s.1-1]? =some s.2)) (fun s=>l.length-s.1) (0,-1,[]) (.cons rfl (.cons rfl .nil)) ?_ ?_
 ·exact⟨ah _ _,bM _,rfl,by decide,fun _=>rfl,fun h=>absurd h (jr 0)⟩
 ·rintro⟨k,last,pl⟩ w1 ⟨S,hk,hr,NH,h0,h1⟩;dsimp only at hk hr NH h0 h1 ⊢;refine au (au (ak (aj rfl rfl (aj rfl rfl (bF aC rfl hv rfl (cu rfl rfl rfl (ae ?_)))))));refine bW rfl (fun c2=>?_) (fun c2=>?_)
  ·refine bg (au (bu (au (ak (aj rfl rfl (aj rfl rfl ?_))))));obtain⟨⟨d,ps⟩,hx⟩:∃x,(l)[k]? =some x:=⟨_,aI (by omega)⟩;refine bS (M:=M) aC dW rfl rfl rfl (hv.le S.le) (ar _ _) (by first|omega|decide) (fun D4 EJ xJ jO=>?_);obtain rfl:(d,ps)=EJ:=bY (aG (xJ.symm.trans (by simpa using hx)));refine aA (M:=M) (A:=RT.po) (B:=(RT.int .i64).sl) aP rfl rfl gT (by decide) (zr) rfl rfl (by decide) (by assumption) (by repeat (first|exact ar _ _|refine aT (bh (by assumption)) ?_)) (fun Qg XK=>?_);refine aY (M:=M) ay rfl rfl rfl rfl rfl (by assumption) (by repeat (first|exact ar _ _|refine aT (bh (by assumption)) ?_)) (fun XL Dk=>?_);replace Dk:((RT.int .i64).sl).V M _ ps XL:=Dk;refine aS rfl rfl E98 (xI (M:=M) (S.lt hM) Dk) (fun r4 w4 h4=>?_);obtain⟨rfl,s4⟩:=h4;have S4:=S.aE s4;have pf:=hv.le S4.le;have zk:=P5 pf hx;have hd:=P4 pf hx;refine al rfl rfl (ae (au ?_));by_cases Bq:d<0
   ·apply kA (M:=M) mixed [aV.eq _,aV.eq _,aV.ptr (RT.po) (d,ps),aV.ptr (RT.int .i64) d,aV.eq (.int .i64 d),aV.eq _,aV.eq (.bool true),aV.eq undef,aV.eq undef,aV.eq undef,aV.eq undef,aV.eq undef,aV.eq undef,aV.eq _,aV.eq _,aV.eq undef,aV.eq undef,aV.eq undef,aV.eq undef,aV.eq undef,aV.eq undef,aV.eq undef,aV.eq undef,aV.eq undef,aV.eq undef,aV.eq undef,aV.eq undef,aV.eq undef,aV.eq undef,aV.eq undef,aV.eq undef,aV.eq _,aV.eq _,aV.eq undef,aV.eq undef,aV.eq undef,aV.eq undef,aV.eq undef,aV.eq undef,aV.eq undef,aV.eq _,aV.eq _,aV.eq undef,aV.eq undef,aV.eq _,aV.eq _,aV.eq undef,aV.eq undef,aV.eq undef,aV.eq undef,aV.eq undef,aV.eq undef,aV.eq undef,aV.eq undef,aV.eq undef,aV.eq undef,aV.eq undef,aV.eq undef,aV.eq undef,aV.eq undef,aV.eq undef,aV.eq _]
    ·rfl
    ·refine an ?_ ?_
     ·intro wD E sD;refine aj rfl rfl ?_;exact ae ⟨rfl,rfl,_,rfl,rfl,ah _ _⟩
     refine an ?_ ?_
     ·intro wD E sD;refine aj rfl rfl ?_;exact ae ⟨rfl,rfl,_,rfl,rfl,ah _ _⟩
     refine an ?_ ?_
     ·intro wD E sD;refine ao (ao ?_);refine bS (M:=M) aC dW rfl rfl rfl (pf.le sD.le) (ar _ _) (by omega) (fun ui ai gN ib=>?_);obtain rfl:(d,ps)=ai:=bY (aG (gN.symm.trans (by simpa using hx)));exact ae ⟨rfl,rfl,_,rfl,ib,ah _ _⟩
     refine an ?_ ?_
     ·intro wD E sD;intro v2 kB;refine aA (M:=M) (A:=RT.po) (B:=RT.int .i64) aP rfl rfl I3 (by decide) (na) rfl rfl (by decide) (show bL (RT.po) M wD v2 (d,ps)from kB) (ar _ _) (fun uf fB=>?_);exact ae ⟨rfl,rfl,_,rfl,fB,ah _ _⟩
     refine an ?_ ?_
     ·intro wD E sD;intro v3 lv;refine bK (M:=M) aB rfl rfl (show bL (RT.int .i64) M wD v3 d from lv) (ar _ _) (fun jN=>?_);exact ae ⟨rfl,rfl,_,rfl,rfl,ah _ _⟩
     refine an ?_ ?_
     ·intro wD E sD;refine ao (cu rfl rfl rfl ?_);exact ae ⟨rfl,rfl,_,rfl,rfl,ah _ _⟩
     refine an ?_ ?_
     ·intro wD E sD;refine ao (aj rfl rfl ?_);refine ae ⟨rfl,rfl,_,rfl,?_,ah _ _⟩;exact congrArg Value.bool (decide_eq_true Bq)
     refine an ?_ ?_
     ·intro wD E sD;refine ao ?_;exact aw rfl rfl rfl rfl (ae ⟨rfl,rfl,_,rfl,rfl,ah _ _⟩)
     refine an ?_ ?_
     ·intro wD E sD;refine ao ?_;exact aw rfl rfl rfl rfl (ae ⟨rfl,rfl,_,rfl,rfl,ah _ _⟩)
     refine an ?_ ?_
     ·intro wD E sD;refine ao (ao (ao ?_));exact aw rfl rfl rfl rfl (ae ⟨rfl,rfl,_,rfl,rfl,ah _ _⟩)
     refine an ?_ ?_
     ·intro wD E sD;refine ao (ao ?_);exact aw rfl rfl rfl rfl (ae ⟨rfl,rfl,_,rfl,rfl,ah _ _⟩)
     refine an ?_ ?_
     ·intro wD E sD;refine ao (ao ?_);exact aw rfl rfl rfl rfl (ae ⟨rfl,rfl,_,rfl,rfl,ah _ _⟩)
     refine an ?_ ?_
     ·intro wD E sD;refine ao (ao ?_);exact aw rfl rfl rfl rfl (ae ⟨rfl,rfl,_,rfl,rfl,ah _ _⟩)
     refine an ?_ ?_
     ·intro wD E sD;refine ao (ao (aR rfl rfl rfl ?_));exact ae ⟨rfl,rfl,_,rfl,rfl,ah _ _⟩
     refine an ?_ ?_
     ·intro wD E sD;refine ao (ao (aj rfl rfl ?_));exact ae ⟨rfl,rfl,_,rfl,rfl,ah _ _⟩
     refine an ?_ ?_
     ·intro wD E sD;refine ao ?_;exact aw rfl rfl rfl rfl (ae ⟨rfl,rfl,_,rfl,rfl,ah _ _⟩)
     refine an ?_ ?_
     ·intro wD E sD;refine ao (ao ?_);exact aw rfl rfl rfl rfl (ae ⟨rfl,rfl,_,rfl,rfl,ah _ _⟩)
     refine an ?_ ?_
     ·intro wD E sD;refine ao (ao (ao ?_));exact aw rfl rfl rfl rfl (ae ⟨rfl,rfl,_,rfl,rfl,ah _ _⟩)
     refine an ?_ ?_
     ·intro wD E sD;refine ao ?_;exact ca rfl rfl rfl (ae ⟨rfl,rfl,_,rfl,rfl,ah _ _⟩)
     refine an ?_ ?_
     ·intro wD E sD;refine ao ?_;exact ca rfl rfl rfl (ae ⟨rfl,rfl,_,rfl,rfl,ah _ _⟩)
     refine an ?_ ?_
     ·intro wD E sD;refine ao (ao (ao ?_));exact ca rfl rfl rfl (ae ⟨rfl,rfl,_,rfl,rfl,ah _ _⟩)
     refine an ?_ ?_
     ·intro wD E sD;refine ao (ao ?_);exact ca rfl rfl rfl (ae ⟨rfl,rfl,_,rfl,rfl,ah _ _⟩)
     refine an ?_ ?_
     ·intro wD E sD;refine ao (ao ?_);exact ca rfl rfl rfl (ae ⟨rfl,rfl,_,rfl,rfl,ah _ _⟩)
     refine an ?_ ?_
     ·intro wD E sD;refine ao ?_;exact ca rfl rfl rfl (ae ⟨rfl,rfl,_,rfl,rfl,ah _ _⟩)
     refine an ?_ ?_
     ·intro wD E sD;refine ao ?_;exact ca rfl rfl rfl (ae ⟨rfl,rfl,_,rfl,rfl,ah _ _⟩)
     refine an ?_ ?_
     ·intro wD E sD;refine ao (ao ?_);exact ca rfl rfl rfl (ae ⟨rfl,rfl,_,rfl,rfl,ah _ _⟩)
     refine an ?_ ?_
     ·intro wD E sD;refine ao (ao (ao ?_));exact ca rfl rfl rfl (ae ⟨rfl,rfl,_,rfl,rfl,ah _ _⟩)
     refine an ?_ ?_
     ·intro wD E sD;refine ao (ao ?_);exact ca rfl rfl rfl (ae ⟨rfl,rfl,_,rfl,rfl,ah _ _⟩)
     refine an ?_ ?_
     ·intro wD E sD;refine ao (ao ?_);exact ca rfl rfl rfl (ae ⟨rfl,rfl,_,rfl,rfl,ah _ _⟩)
     refine an ?_ ?_
     ·intro wD E sD;refine ao (ao (ao ?_));exact ca rfl rfl rfl (ae ⟨rfl,rfl,_,rfl,rfl,ah _ _⟩)
     refine an ?_ ?_
     ·intro wD E sD;refine ao (ao (ao ?_));exact aw rfl rfl rfl rfl (ae ⟨rfl,rfl,_,rfl,rfl,ah _ _⟩)
     refine an ?_ ?_
     ·intro wD E sD;refine ao (ao (aR rfl rfl rfl ?_));exact ae ⟨rfl,rfl,_,rfl,rfl,ah _ _⟩
     refine an ?_ ?_
     ·intro wD E sD;refine ao (ao (aj rfl rfl ?_));exact ae ⟨rfl,rfl,_,rfl,rfl,ah _ _⟩
     refine an ?_ ?_
     ·intro wD E sD;refine ao ?_;exact aw rfl rfl rfl rfl (ae ⟨rfl,rfl,_,rfl,rfl,ah _ _⟩)
     refine an ?_ ?_
     ·intro wD E sD;refine ao ?_;exact aw rfl rfl rfl rfl (ae ⟨rfl,rfl,_,rfl,rfl,ah _ _⟩)
     refine an ?_ ?_
     ·intro wD E sD;refine ao (ao (ao ?_));exact aw rfl rfl rfl rfl (ae ⟨rfl,rfl,_,rfl,rfl,ah _ _⟩)
     refine an ?_ ?_
     ·intro wD E sD;refine ao (ao ?_);exact aw rfl rfl rfl rfl (ae ⟨rfl,rfl,_,rfl,rfl,ah _ _⟩)
     refine an ?_ ?_
     ·intro wD E sD;refine ao (ao ?_);exact aw rfl rfl rfl rfl (ae ⟨rfl,rfl,_,rfl,rfl,ah _ _⟩)
     refine an ?_ ?_
     ·intro wD E sD;refine ao (ao ?_);exact aw rfl rfl rfl rfl (ae ⟨rfl,rfl,_,rfl,rfl,ah _ _⟩)
     refine an ?_ ?_
     ·intro wD E sD;refine ao (ao ?_);exact aw rfl rfl rfl rfl (ae ⟨rfl,rfl,_,rfl,rfl,ah _ _⟩)
     refine an ?_ ?_
     ·intro wD E sD;refine ao (ao (aR rfl rfl rfl ?_));exact ae ⟨rfl,rfl,_,rfl,rfl,ah _ _⟩
     refine an ?_ ?_
     ·intro wD E sD;refine ao (ao (aj rfl rfl ?_));exact ae ⟨rfl,rfl,_,rfl,rfl,ah _ _⟩
     refine an ?_ ?_
     ·intro wD E sD;refine ao ?_;exact aw rfl rfl rfl rfl (ae ⟨rfl,rfl,_,rfl,rfl,ah _ _⟩)
     refine an ?_ ?_
     ·intro wD E sD;refine ao (ao ?_);exact aw rfl rfl rfl rfl (ae ⟨rfl,rfl,_,rfl,rfl,ah _ _⟩)
     refine an ?_ ?_
     ·intro wD E sD;refine ao (ao (aR rfl rfl rfl ?_));exact ae ⟨rfl,rfl,_,rfl,rfl,ah _ _⟩
     refine an ?_ ?_
     ·intro wD E sD;refine ao (ao (aj rfl rfl ?_));exact ae ⟨rfl,rfl,_,rfl,rfl,ah _ _⟩
     refine an ?_ ?_
     ·intro wD E sD;refine ao ?_;exact aw rfl rfl rfl rfl (ae ⟨rfl,rfl,_,rfl,rfl,ah _ _⟩)
     refine an ?_ ?_
     ·intro wD E sD;refine ao ?_;exact aw rfl rfl rfl rfl (ae ⟨rfl,rfl,_,rfl,rfl,ah _ _⟩)
     refine an ?_ ?_
     ·intro wD E sD;refine ao (ao (ao ?_));exact aw rfl rfl rfl rfl (ae ⟨rfl,rfl,_,rfl,rfl,ah _ _⟩)
     refine an ?_ ?_
     ·intro wD E sD;refine ao (ao ?_);exact aw rfl rfl rfl rfl (ae ⟨rfl,rfl,_,rfl,rfl,ah _ _⟩)
     refine an ?_ ?_
     ·intro wD E sD;refine ao (ao ?_);exact aw rfl rfl rfl rfl (ae ⟨rfl,rfl,_,rfl,rfl,ah _ _⟩)
     refine an ?_ ?_
     ·intro wD E sD;refine ao ?_;exact aw rfl rfl rfl rfl (ae ⟨rfl,rfl,_,rfl,rfl,ah _ _⟩)
     refine an ?_ ?_
     ·intro wD E sD;refine ao ?_;exact aw rfl rfl rfl rfl (ae ⟨rfl,rfl,_,rfl,rfl,ah _ _⟩)
     refine an ?_ ?_
     ·intro wD E sD;refine ao (ao (ao ?_));exact aw rfl rfl rfl rfl (ae ⟨rfl,rfl,_,rfl,rfl,ah _ _⟩)
     refine an ?_ ?_
     ·intro wD E sD;refine ao (ao ?_);exact aw rfl rfl rfl rfl (ae ⟨rfl,rfl,_,rfl,rfl,ah _ _⟩)
     refine an ?_ ?_
     ·intro wD E sD;refine ao (ao ?_);exact aw rfl rfl rfl rfl (ae ⟨rfl,rfl,_,rfl,rfl,ah _ _⟩)
     refine an ?_ ?_
     ·intro wD E sD;refine ao (ao ?_);exact aw rfl rfl rfl rfl (ae ⟨rfl,rfl,_,rfl,rfl,ah _ _⟩)
     refine an ?_ ?_
     ·intro wD E sD;refine ao (ao ?_);exact aw rfl rfl rfl rfl (ae ⟨rfl,rfl,_,rfl,rfl,ah _ _⟩)
     refine an ?_ ?_
     ·intro wD E sD;refine ao (ao (ao ?_));exact aw rfl rfl rfl rfl (ae ⟨rfl,rfl,_,rfl,rfl,ah _ _⟩)
     refine an ?_ ?_
     ·intro wD E sD;refine ao (ao ?_);exact aw rfl rfl rfl rfl (ae ⟨rfl,rfl,_,rfl,rfl,ah _ _⟩)
     refine an ?_ ?_
     ·intro wD E sD;refine ao (ao ?_);exact aw rfl rfl rfl rfl (ae ⟨rfl,rfl,_,rfl,rfl,ah _ _⟩)
     refine an ?_ ?_
     ·intro wD E sD;refine ao (ao (aR rfl rfl rfl ?_));exact ae ⟨rfl,rfl,_,rfl,rfl,ah _ _⟩
     exact fC
    ·intro EH mw;refine ao (ao ?_);intro yS pM;intro DD vh;refine ao (ao (ao (ao (ao (ao (ao (ao (ao (ao (ao (ao ?_)))))))))));refine ao (ao (ao (ao (ao (ao (ao (ao (ao (ao (ao (ao ?_)))))))))));refine ao (ao (ao (ao (ao (ao (ao (ao (ao (ao (ao (ao ?_)))))))))));refine ao (ao (ao (ao (ao (ao (ao (ao (ao (ao (ao (ao ?_)))))))))));refine ao (ao (ao (ao (ao (ao (ao (ao (ao (ao (gz rfl (au ?_)))))))))));refine ak (al rfl rfl (ae (aW ?_)));refine a8 rfl rfl ⟨congrArg Value.bool (bY ?_),S4.aE mw⟩;rw[hr,eR hx]
     first
     |(rw[decide_eq_false (show¬last<d by omega)];simp;done)
     |(rw[decide_eq_false (show¬d<2147483648 by omega)];simp;done)
     |(rw[show ps=[]from cE.1 (by omega)];simp;done)
     |(rw[show dL ps=false from by unfold dL;simp only[fN,eK]];simp;done)
     |(rw[show dL ps=false from by unfold dL;rw[gj]at fN;rw[fN];rfl];simp;done)
     |(rw[DB,decide_eq_false (show¬y<2147483648 by omega)];simp;done)
   ·by_cases vq:d≥2147483648
    ·apply kA (M:=M) mixed [aV.eq _,aV.eq _,aV.ptr (RT.po) (d,ps),aV.ptr (RT.int .i64) d,aV.eq (.int .i64 d),aV.eq _,aV.eq (.bool false),aV.eq _,aV.eq _,aV.ptr (RT.po) (d,ps),aV.ptr (RT.int .i64) d,aV.eq (.int .i64 d),aV.eq _,aV.eq _,aV.eq (.bool true),aV.eq undef,aV.eq undef,aV.eq undef,aV.eq undef,aV.eq undef,aV.eq undef,aV.eq undef,aV.eq undef,aV.eq undef,aV.eq undef,aV.eq undef,aV.eq undef,aV.eq undef,aV.eq undef,aV.eq undef,aV.eq undef,aV.eq _,aV.eq _,aV.eq undef,aV.eq undef,aV.eq undef,aV.eq undef,aV.eq undef,aV.eq undef,aV.eq undef,aV.eq _,aV.eq _,aV.eq undef,aV.eq undef,aV.eq _,aV.eq _,aV.eq undef,aV.eq undef,aV.eq undef,aV.eq undef,aV.eq undef,aV.eq undef,aV.eq undef,aV.eq undef,aV.eq undef,aV.eq undef,aV.eq undef,aV.eq undef,aV.eq undef,aV.eq undef,aV.eq undef,aV.eq _]
     ·rfl
     ·refine an ?_ ?_
      ·intro wD E sD;refine aj rfl rfl ?_;exact ae ⟨rfl,rfl,_,rfl,rfl,ah _ _⟩
      refine an ?_ ?_
      ·intro wD E sD;refine aj rfl rfl ?_;exact ae ⟨rfl,rfl,_,rfl,rfl,ah _ _⟩
      refine an ?_ ?_
      ·intro wD E sD;refine ao (ao ?_);refine bS (M:=M) aC dW rfl rfl rfl (pf.le sD.le) (ar _ _) (by omega) (fun ui ai gN ib=>?_);obtain rfl:(d,ps)=ai:=bY (aG (gN.symm.trans (by simpa using hx)));exact ae ⟨rfl,rfl,_,rfl,ib,ah _ _⟩
      refine an ?_ ?_
      ·intro wD E sD;intro v2 kB;refine aA (M:=M) (A:=RT.po) (B:=RT.int .i64) aP rfl rfl I3 (by decide) (na) rfl rfl (by decide) (show bL (RT.po) M wD v2 (d,ps)from kB) (ar _ _) (fun uf fB=>?_);exact ae ⟨rfl,rfl,_,rfl,fB,ah _ _⟩
      refine an ?_ ?_
      ·intro wD E sD;intro v3 lv;refine bK (M:=M) aB rfl rfl (show bL (RT.int .i64) M wD v3 d from lv) (ar _ _) (fun jN=>?_);exact ae ⟨rfl,rfl,_,rfl,rfl,ah _ _⟩
      refine an ?_ ?_
      ·intro wD E sD;refine ao (cu rfl rfl rfl ?_);exact ae ⟨rfl,rfl,_,rfl,rfl,ah _ _⟩
      refine an ?_ ?_
      ·intro wD E sD;refine ao (aj rfl rfl ?_);refine ae ⟨rfl,rfl,_,rfl,?_,ah _ _⟩;exact congrArg Value.bool (decide_eq_false Bq)
      refine an ?_ ?_
      ·intro wD E sD;refine ao (aq rfl rfl (aj rfl rfl ?_));exact ae ⟨rfl,rfl,_,rfl,rfl,ah _ _⟩
      refine an ?_ ?_
      ·intro wD E sD;refine ao (aq rfl rfl (aj rfl rfl ?_));exact ae ⟨rfl,rfl,_,rfl,rfl,ah _ _⟩
      refine an ?_ ?_
      ·intro wD E sD;refine ao (ao (ao (aq rfl rfl ?_)));refine bS (M:=M) aC dW rfl rfl rfl (pf.le sD.le) (ar _ _) (by omega) (fun ui ai gN ib=>?_);obtain rfl:(d,ps)=ai:=bY (aG (gN.symm.trans (by simpa using hx)));exact ae ⟨rfl,rfl,_,rfl,ib,ah _ _⟩
      refine an ?_ ?_
      ·intro wD E sD;intro v9 qi;refine ao (aq rfl rfl ?_);refine aA (M:=M) (A:=RT.po) (B:=RT.int .i64) aP rfl rfl I3 (by decide) (na) rfl rfl (by decide) (show bL (RT.po) M wD v9 (d,ps)from qi) (ar _ _) (fun uf fB=>?_);exact ae ⟨rfl,rfl,_,rfl,fB,ah _ _⟩
      refine an ?_ ?_
      ·intro wD E sD;intro v10 iU;refine ao (aq rfl rfl ?_);refine bK (M:=M) aB rfl rfl (show bL (RT.int .i64) M wD v10 d from iU) (ar _ _) (fun jN=>?_);exact ae ⟨rfl,rfl,_,rfl,rfl,ah _ _⟩
      refine an ?_ ?_
      ·intro wD E sD;refine ao (ao (aq rfl rfl (dI rfl rfl rfl ?_)));exact ae ⟨rfl,rfl,_,rfl,rfl,ah _ _⟩
      refine an ?_ ?_
      ·intro wD E sD;refine ao (ao (aL rfl rfl rfl ?_));exact ae ⟨rfl,rfl,_,rfl,rfl,ah _ _⟩
      refine an ?_ ?_
      ·intro wD E sD;refine ao (ao (aj rfl rfl ?_));refine ae ⟨rfl,rfl,_,rfl,?_,ah _ _⟩;exact congrArg Value.bool (decide_eq_true vq)
      refine an ?_ ?_
      ·intro wD E sD;refine ao ?_;exact aw rfl rfl rfl rfl (ae ⟨rfl,rfl,_,rfl,rfl,ah _ _⟩)
      refine an ?_ ?_
      ·intro wD E sD;refine ao (ao ?_);exact aw rfl rfl rfl rfl (ae ⟨rfl,rfl,_,rfl,rfl,ah _ _⟩)
      refine an ?_ ?_
      ·intro wD E sD;refine ao (ao (ao ?_));exact aw rfl rfl rfl rfl (ae ⟨rfl,rfl,_,rfl,rfl,ah _ _⟩)
      refine an ?_ ?_
      ·intro wD E sD;refine ao ?_;exact ca rfl rfl rfl (ae ⟨rfl,rfl,_,rfl,rfl,ah _ _⟩)
      refine an ?_ ?_
      ·intro wD E sD;refine ao ?_;exact ca rfl rfl rfl (ae ⟨rfl,rfl,_,rfl,rfl,ah _ _⟩)
      refine an ?_ ?_
      ·intro wD E sD;refine ao (ao (ao ?_));exact ca rfl rfl rfl (ae ⟨rfl,rfl,_,rfl,rfl,ah _ _⟩)
      refine an ?_ ?_
      ·intro wD E sD;refine ao (ao ?_);exact ca rfl rfl rfl (ae ⟨rfl,rfl,_,rfl,rfl,ah _ _⟩)
      refine an ?_ ?_
      ·intro wD E sD;refine ao (ao ?_);exact ca rfl rfl rfl (ae ⟨rfl,rfl,_,rfl,rfl,ah _ _⟩)
      refine an ?_ ?_
      ·intro wD E sD;refine ao ?_;exact ca rfl rfl rfl (ae ⟨rfl,rfl,_,rfl,rfl,ah _ _⟩)
      refine an ?_ ?_
      ·intro wD E sD;refine ao ?_;exact ca rfl rfl rfl (ae ⟨rfl,rfl,_,rfl,rfl,ah _ _⟩)
      refine an ?_ ?_
      ·intro wD E sD;refine ao (ao ?_);exact ca rfl rfl rfl (ae ⟨rfl,rfl,_,rfl,rfl,ah _ _⟩)
      refine an ?_ ?_
      ·intro wD E sD;refine ao (ao (ao ?_));exact ca rfl rfl rfl (ae ⟨rfl,rfl,_,rfl,rfl,ah _ _⟩)
      refine an ?_ ?_
      ·intro wD E sD;refine ao (ao ?_);exact ca rfl rfl rfl (ae ⟨rfl,rfl,_,rfl,rfl,ah _ _⟩)
      refine an ?_ ?_
      ·intro wD E sD;refine ao (ao ?_);exact ca rfl rfl rfl (ae ⟨rfl,rfl,_,rfl,rfl,ah _ _⟩)
      refine an ?_ ?_
      ·intro wD E sD;refine ao (ao (ao ?_));exact ca rfl rfl rfl (ae ⟨rfl,rfl,_,rfl,rfl,ah _ _⟩)
      refine an ?_ ?_
      ·intro wD E sD;refine ao (ao (ao ?_));exact aw rfl rfl rfl rfl (ae ⟨rfl,rfl,_,rfl,rfl,ah _ _⟩)
      refine an ?_ ?_
      ·intro wD E sD;refine ao (ao (aR rfl rfl rfl ?_));exact ae ⟨rfl,rfl,_,rfl,rfl,ah _ _⟩
      refine an ?_ ?_
      ·intro wD E sD;refine ao (ao (aj rfl rfl ?_));exact ae ⟨rfl,rfl,_,rfl,rfl,ah _ _⟩
      refine an ?_ ?_
      ·intro wD E sD;refine ao ?_;exact aw rfl rfl rfl rfl (ae ⟨rfl,rfl,_,rfl,rfl,ah _ _⟩)
      refine an ?_ ?_
      ·intro wD E sD;refine ao ?_;exact aw rfl rfl rfl rfl (ae ⟨rfl,rfl,_,rfl,rfl,ah _ _⟩)
      refine an ?_ ?_
      ·intro wD E sD;refine ao (ao (ao ?_));exact aw rfl rfl rfl rfl (ae ⟨rfl,rfl,_,rfl,rfl,ah _ _⟩)
      refine an ?_ ?_
      ·intro wD E sD;refine ao (ao ?_);exact aw rfl rfl rfl rfl (ae ⟨rfl,rfl,_,rfl,rfl,ah _ _⟩)
      refine an ?_ ?_
      ·intro wD E sD;refine ao (ao ?_);exact aw rfl rfl rfl rfl (ae ⟨rfl,rfl,_,rfl,rfl,ah _ _⟩)
      refine an ?_ ?_
      ·intro wD E sD;refine ao (ao ?_);exact aw rfl rfl rfl rfl (ae ⟨rfl,rfl,_,rfl,rfl,ah _ _⟩)
      refine an ?_ ?_
      ·intro wD E sD;refine ao (ao ?_);exact aw rfl rfl rfl rfl (ae ⟨rfl,rfl,_,rfl,rfl,ah _ _⟩)
      refine an ?_ ?_
      ·intro wD E sD;refine ao (ao (aR rfl rfl rfl ?_));exact ae ⟨rfl,rfl,_,rfl,rfl,ah _ _⟩
      refine an ?_ ?_
      ·intro wD E sD;refine ao (ao (aj rfl rfl ?_));exact ae ⟨rfl,rfl,_,rfl,rfl,ah _ _⟩
      refine an ?_ ?_
      ·intro wD E sD;refine ao ?_;exact aw rfl rfl rfl rfl (ae ⟨rfl,rfl,_,rfl,rfl,ah _ _⟩)
      refine an ?_ ?_
      ·intro wD E sD;refine ao (ao ?_);exact aw rfl rfl rfl rfl (ae ⟨rfl,rfl,_,rfl,rfl,ah _ _⟩)
      refine an ?_ ?_
      ·intro wD E sD;refine ao (ao (aR rfl rfl rfl ?_));exact ae ⟨rfl,rfl,_,rfl,rfl,ah _ _⟩
      refine an ?_ ?_
      ·intro wD E sD;refine ao (ao (aj rfl rfl ?_));exact ae ⟨rfl,rfl,_,rfl,rfl,ah _ _⟩
      refine an ?_ ?_
      ·intro wD E sD;refine ao ?_;exact aw rfl rfl rfl rfl (ae ⟨rfl,rfl,_,rfl,rfl,ah _ _⟩)
      refine an ?_ ?_
      ·intro wD E sD;refine ao ?_;exact aw rfl rfl rfl rfl (ae ⟨rfl,rfl,_,rfl,rfl,ah _ _⟩)
      refine an ?_ ?_
      ·intro wD E sD;refine ao (ao (ao ?_));exact aw rfl rfl rfl rfl (ae ⟨rfl,rfl,_,rfl,rfl,ah _ _⟩)
      refine an ?_ ?_
      ·intro wD E sD;refine ao (ao ?_);exact aw rfl rfl rfl rfl (ae ⟨rfl,rfl,_,rfl,rfl,ah _ _⟩)
      refine an ?_ ?_
      ·intro wD E sD;refine ao (ao ?_);exact aw rfl rfl rfl rfl (ae ⟨rfl,rfl,_,rfl,rfl,ah _ _⟩)
      refine an ?_ ?_
      ·intro wD E sD;refine ao ?_;exact aw rfl rfl rfl rfl (ae ⟨rfl,rfl,_,rfl,rfl,ah _ _⟩)
      refine an ?_ ?_
      ·intro wD E sD;refine ao ?_;exact aw rfl rfl rfl rfl (ae ⟨rfl,rfl,_,rfl,rfl,ah _ _⟩)
      refine an ?_ ?_
      ·intro wD E sD;refine ao (ao (ao ?_));exact aw rfl rfl rfl rfl (ae ⟨rfl,rfl,_,rfl,rfl,ah _ _⟩)
      refine an ?_ ?_
      ·intro wD E sD;refine ao (ao ?_);exact aw rfl rfl rfl rfl (ae ⟨rfl,rfl,_,rfl,rfl,ah _ _⟩)
      refine an ?_ ?_
      ·intro wD E sD;refine ao (ao ?_);exact aw rfl rfl rfl rfl (ae ⟨rfl,rfl,_,rfl,rfl,ah _ _⟩)
      refine an ?_ ?_
      ·intro wD E sD;refine ao (ao ?_);exact aw rfl rfl rfl rfl (ae ⟨rfl,rfl,_,rfl,rfl,ah _ _⟩)
      refine an ?_ ?_
      ·intro wD E sD;refine ao (ao ?_);exact aw rfl rfl rfl rfl (ae ⟨rfl,rfl,_,rfl,rfl,ah _ _⟩)
      refine an ?_ ?_
      ·intro wD E sD;refine ao (ao (ao ?_));exact aw rfl rfl rfl rfl (ae ⟨rfl,rfl,_,rfl,rfl,ah _ _⟩)
      refine an ?_ ?_
      ·intro wD E sD;refine ao (ao ?_);exact aw rfl rfl rfl rfl (ae ⟨rfl,rfl,_,rfl,rfl,ah _ _⟩)
      refine an ?_ ?_
      ·intro wD E sD;refine ao (ao ?_);exact aw rfl rfl rfl rfl (ae ⟨rfl,rfl,_,rfl,rfl,ah _ _⟩)
      refine an ?_ ?_
      ·intro wD E sD;refine ao (ao (aR rfl rfl rfl ?_));exact ae ⟨rfl,rfl,_,rfl,rfl,ah _ _⟩
      exact fC
     ·intro EH mw;refine ao (ao ?_);intro yS pM;intro DD vh;refine ao (ao (ao (ao (ao ?_))));intro Fi ym;intro yn rH;refine ao (ao (ao (ao (ao (ao (ao (ao (ao (ao (ao (ao ?_)))))))))));refine ao (ao (ao (ao (ao (ao (ao (ao (ao (ao (ao (ao ?_)))))))))));refine ao (ao (ao (ao (ao (ao (ao (ao (ao (ao (ao (ao ?_)))))))))));refine ao (ao (ao (ao (ao (ao (ao (ao (ao (ao (ao (ao ?_)))))))))));refine ao (ao (ao (gz rfl (au (ak (al rfl rfl (ae (aW ?_))))))));refine a8 rfl rfl ⟨congrArg Value.bool (bY ?_),S4.aE mw⟩;rw[hr,eR hx]
      first
      |(rw[decide_eq_false (show¬last<d by omega)];simp;done)
      |(rw[decide_eq_false (show¬d<2147483648 by omega)];simp;done)
      |(rw[show ps=[]from cE.1 (by omega)];simp;done)
      |(rw[show dL ps=false from by unfold dL;simp only[fN,eK]];simp;done)
      |(rw[show dL ps=false from by unfold dL;rw[gj]at fN;rw[fN];rfl];simp;done)
      |(rw[DB,decide_eq_false (show¬y<2147483648 by omega)];simp;done)
    ·by_cases yo:(k:Int)>0
     ·by_cases Gl:d≤last
      ·apply kA (M:=M) mixed [aV.eq _,aV.eq _,aV.ptr (RT.po) (d,ps),aV.ptr (RT.int .i64) d,aV.eq (.int .i64 d),aV.eq _,aV.eq (.bool false),aV.eq _,aV.eq _,aV.ptr (RT.po) (d,ps),aV.ptr (RT.int .i64) d,aV.eq (.int .i64 d),aV.eq _,aV.eq _,aV.eq (.bool false),aV.eq _,aV.eq _,aV.eq (.bool true),aV.eq _,aV.eq _,aV.ptr (RT.po) (d,ps),aV.ptr (RT.int .i64) d,aV.eq (.int .i64 d),aV.eq _,aV.eq _,aV.eq _,aV.ptr (RT.po) (last,pl),aV.ptr (RT.int .i64) last,aV.eq (.int .i64 last),aV.eq _,aV.eq _,aV.eq _,aV.eq (.bool true),aV.eq undef,aV.eq undef,aV.eq undef,aV.eq undef,aV.eq undef,aV.eq undef,aV.eq undef,aV.eq _,aV.eq _,aV.eq undef,aV.eq undef,aV.eq _,aV.eq _,aV.eq undef,aV.eq undef,aV.eq undef,aV.eq undef,aV.eq undef,aV.eq undef,aV.eq undef,aV.eq undef,aV.eq undef,aV.eq undef,aV.eq undef,aV.eq undef,aV.eq undef,aV.eq undef,aV.eq undef,aV.eq _]
       ·rfl
       ·refine an ?_ ?_
        ·intro wD E sD;refine aj rfl rfl ?_;exact ae ⟨rfl,rfl,_,rfl,rfl,ah _ _⟩
        refine an ?_ ?_
        ·intro wD E sD;refine aj rfl rfl ?_;exact ae ⟨rfl,rfl,_,rfl,rfl,ah _ _⟩
        refine an ?_ ?_
        ·intro wD E sD;refine ao (ao ?_);refine bS (M:=M) aC dW rfl rfl rfl (pf.le sD.le) (ar _ _) (by omega) (fun ui ai gN ib=>?_);obtain rfl:(d,ps)=ai:=bY (aG (gN.symm.trans (by simpa using hx)));exact ae ⟨rfl,rfl,_,rfl,ib,ah _ _⟩
        refine an ?_ ?_
        ·intro wD E sD;intro v2 kB;refine aA (M:=M) (A:=RT.po) (B:=RT.int .i64) aP rfl rfl I3 (by decide) (na) rfl rfl (by decide) (show bL (RT.po) M wD v2 (d,ps)from kB) (ar _ _) (fun uf fB=>?_);exact ae ⟨rfl,rfl,_,rfl,fB,ah _ _⟩
        refine an ?_ ?_
        ·intro wD E sD;intro v3 lv;refine bK (M:=M) aB rfl rfl (show bL (RT.int .i64) M wD v3 d from lv) (ar _ _) (fun jN=>?_);exact ae ⟨rfl,rfl,_,rfl,rfl,ah _ _⟩
        refine an ?_ ?_
        ·intro wD E sD;refine ao (cu rfl rfl rfl ?_);exact ae ⟨rfl,rfl,_,rfl,rfl,ah _ _⟩
        refine an ?_ ?_
        ·intro wD E sD;refine ao (aj rfl rfl ?_);refine ae ⟨rfl,rfl,_,rfl,?_,ah _ _⟩;exact congrArg Value.bool (decide_eq_false Bq)
        refine an ?_ ?_
        ·intro wD E sD;refine ao (aq rfl rfl (aj rfl rfl ?_));exact ae ⟨rfl,rfl,_,rfl,rfl,ah _ _⟩
        refine an ?_ ?_
        ·intro wD E sD;refine ao (aq rfl rfl (aj rfl rfl ?_));exact ae ⟨rfl,rfl,_,rfl,rfl,ah _ _⟩
        refine an ?_ ?_
        ·intro wD E sD;refine ao (ao (ao (aq rfl rfl ?_)));refine bS (M:=M) aC dW rfl rfl rfl (pf.le sD.le) (ar _ _) (by omega) (fun ui ai gN ib=>?_);obtain rfl:(d,ps)=ai:=bY (aG (gN.symm.trans (by simpa using hx)));exact ae ⟨rfl,rfl,_,rfl,ib,ah _ _⟩
        refine an ?_ ?_
        ·intro wD E sD;intro v9 qi;refine ao (aq rfl rfl ?_);refine aA (M:=M) (A:=RT.po) (B:=RT.int .i64) aP rfl rfl I3 (by decide) (na) rfl rfl (by decide) (show bL (RT.po) M wD v9 (d,ps)from qi) (ar _ _) (fun uf fB=>?_);exact ae ⟨rfl,rfl,_,rfl,fB,ah _ _⟩
        refine an ?_ ?_
        ·intro wD E sD;intro v10 iU;refine ao (aq rfl rfl ?_);refine bK (M:=M) aB rfl rfl (show bL (RT.int .i64) M wD v10 d from iU) (ar _ _) (fun jN=>?_);exact ae ⟨rfl,rfl,_,rfl,rfl,ah _ _⟩
        refine an ?_ ?_
        ·intro wD E sD;refine ao (ao (aq rfl rfl (dI rfl rfl rfl ?_)));exact ae ⟨rfl,rfl,_,rfl,rfl,ah _ _⟩
        refine an ?_ ?_
        ·intro wD E sD;refine ao (ao (aL rfl rfl rfl ?_));exact ae ⟨rfl,rfl,_,rfl,rfl,ah _ _⟩
        refine an ?_ ?_
        ·intro wD E sD;refine ao (ao (aj rfl rfl ?_));refine ae ⟨rfl,rfl,_,rfl,?_,ah _ _⟩;exact congrArg Value.bool (decide_eq_false vq)
        refine an ?_ ?_
        ·intro wD E sD;refine ao (aq rfl rfl (aj rfl rfl ?_));exact ae ⟨rfl,rfl,_,rfl,rfl,ah _ _⟩
        refine an ?_ ?_
        ·intro wD E sD;refine ao (ao (aq rfl rfl (hY rfl rfl rfl ?_)));exact ae ⟨rfl,rfl,_,rfl,rfl,ah _ _⟩
        refine an ?_ ?_
        ·intro wD E sD;refine ao (ao (ao (aq rfl rfl (aj rfl rfl ?_))));refine ae ⟨rfl,rfl,_,rfl,?_,ah _ _⟩;exact congrArg Value.bool (decide_eq_true yo)
        refine an ?_ ?_
        ·intro wD E sD;refine ao (aq rfl rfl (aj rfl rfl ?_));exact ae ⟨rfl,rfl,_,rfl,rfl,ah _ _⟩
        refine an ?_ ?_
        ·intro wD E sD;refine ao (aq rfl rfl (aj rfl rfl ?_));exact ae ⟨rfl,rfl,_,rfl,rfl,ah _ _⟩
        refine an ?_ ?_
        ·intro wD E sD;refine ao (ao (ao (aq rfl rfl ?_)));refine bS (M:=M) aC dW rfl rfl rfl (pf.le sD.le) (ar _ _) (by omega) (fun ui ai gN ib=>?_);obtain rfl:(d,ps)=ai:=bY (aG (gN.symm.trans (by simpa using hx)));exact ae ⟨rfl,rfl,_,rfl,ib,ah _ _⟩
        refine an ?_ ?_
        ·intro wD E sD;intro v20 yc;refine ao (aq rfl rfl ?_);refine aA (M:=M) (A:=RT.po) (B:=RT.int .i64) aP rfl rfl I3 (by decide) (na) rfl rfl (by decide) (show bL (RT.po) M wD v20 (d,ps)from yc) (ar _ _) (fun uf fB=>?_);exact ae ⟨rfl,rfl,_,rfl,fB,ah _ _⟩
        refine an ?_ ?_
        ·intro wD E sD;intro v21 uv;refine ao (aq rfl rfl ?_);refine bK (M:=M) aB rfl rfl (show bL (RT.int .i64) M wD v21 d from uv) (ar _ _) (fun jN=>?_);exact ae ⟨rfl,rfl,_,rfl,rfl,ah _ _⟩
        refine an ?_ ?_
        ·intro wD E sD;refine ao (aq rfl rfl (aj rfl rfl ?_));exact ae ⟨rfl,rfl,_,rfl,rfl,ah _ _⟩
        refine an ?_ ?_
        ·intro wD E sD;refine ao (aq rfl rfl (aj rfl rfl ?_));exact ae ⟨rfl,rfl,_,rfl,rfl,ah _ _⟩
        refine an ?_ ?_
        ·intro wD E sD;refine ao (ao (aq rfl rfl (eJ rfl rfl rfl (by omega) ?_)));exact ae ⟨rfl,rfl,_,rfl,rfl,ah _ _⟩
        refine an ?_ ?_
        ·intro wD E sD;refine ao (ao (ao (aq rfl rfl ?_)));refine bS (M:=M) aC dW rfl rfl rfl (pf.le sD.le) (ar _ _) (by omega) (fun ui ai gN ib=>?_);obtain rfl:(last,pl)=ai:=bY (aG (gN.symm.trans (by rw[show((k:Int)-1).toNat=k-1 from by omega];exact h1 (by omega))));exact ae ⟨rfl,rfl,_,rfl,ib,ah _ _⟩
        refine an ?_ ?_
        ·intro wD E sD;intro v26 Fj;refine ao (aq rfl rfl ?_);refine aA (M:=M) (A:=RT.po) (B:=RT.int .i64) aP rfl rfl I3 (by decide) (na) rfl rfl (by decide) (show bL (RT.po) M wD v26 (last,pl)from Fj) (ar _ _) (fun uf fB=>?_);exact ae ⟨rfl,rfl,_,rfl,fB,ah _ _⟩
        refine an ?_ ?_
        ·intro wD E sD;intro v27 Fk;refine ao (aq rfl rfl ?_);refine bK (M:=M) aB rfl rfl (show bL (RT.int .i64) M wD v27 last from Fk) (ar _ _) (fun jN=>?_);exact ae ⟨rfl,rfl,_,rfl,rfl,ah _ _⟩
        refine an ?_ ?_
        ·intro wD E sD;refine ao (ao (ao (aq rfl rfl (fo rfl rfl rfl ?_))));exact ae ⟨rfl,rfl,_,rfl,rfl,ah _ _⟩
        refine an ?_ ?_
        ·intro wD E sD;refine ao (ao (ao (aq rfl rfl (aR rfl rfl rfl ?_))));exact ae ⟨rfl,rfl,_,rfl,rfl,ah _ _⟩
        refine an ?_ ?_
        ·intro wD E sD;refine ao (ao (aL rfl rfl rfl ?_));exact ae ⟨rfl,rfl,_,rfl,rfl,ah _ _⟩
        refine an ?_ ?_
        ·intro wD E sD;refine ao (ao (aj rfl rfl ?_));refine ae ⟨rfl,rfl,_,rfl,?_,ah _ _⟩;exact congrArg Value.bool (decide_eq_true Gl)
        refine an ?_ ?_
        ·intro wD E sD;refine ao ?_;exact aw rfl rfl rfl rfl (ae ⟨rfl,rfl,_,rfl,rfl,ah _ _⟩)
        refine an ?_ ?_
        ·intro wD E sD;refine ao ?_;exact aw rfl rfl rfl rfl (ae ⟨rfl,rfl,_,rfl,rfl,ah _ _⟩)
        refine an ?_ ?_
        ·intro wD E sD;refine ao (ao (ao ?_));exact aw rfl rfl rfl rfl (ae ⟨rfl,rfl,_,rfl,rfl,ah _ _⟩)
        refine an ?_ ?_
        ·intro wD E sD;refine ao (ao ?_);exact aw rfl rfl rfl rfl (ae ⟨rfl,rfl,_,rfl,rfl,ah _ _⟩)
        refine an ?_ ?_
        ·intro wD E sD;refine ao (ao ?_);exact aw rfl rfl rfl rfl (ae ⟨rfl,rfl,_,rfl,rfl,ah _ _⟩)
        refine an ?_ ?_
        ·intro wD E sD;refine ao (ao ?_);exact aw rfl rfl rfl rfl (ae ⟨rfl,rfl,_,rfl,rfl,ah _ _⟩)
        refine an ?_ ?_
        ·intro wD E sD;refine ao (ao ?_);exact aw rfl rfl rfl rfl (ae ⟨rfl,rfl,_,rfl,rfl,ah _ _⟩)
        refine an ?_ ?_
        ·intro wD E sD;refine ao (ao (aR rfl rfl rfl ?_));exact ae ⟨rfl,rfl,_,rfl,rfl,ah _ _⟩
        refine an ?_ ?_
        ·intro wD E sD;refine ao (ao (aj rfl rfl ?_));exact ae ⟨rfl,rfl,_,rfl,rfl,ah _ _⟩
        refine an ?_ ?_
        ·intro wD E sD;refine ao ?_;exact aw rfl rfl rfl rfl (ae ⟨rfl,rfl,_,rfl,rfl,ah _ _⟩)
        refine an ?_ ?_
        ·intro wD E sD;refine ao (ao ?_);exact aw rfl rfl rfl rfl (ae ⟨rfl,rfl,_,rfl,rfl,ah _ _⟩)
        refine an ?_ ?_
        ·intro wD E sD;refine ao (ao (aR rfl rfl rfl ?_));exact ae ⟨rfl,rfl,_,rfl,rfl,ah _ _⟩
        refine an ?_ ?_
        ·intro wD E sD;refine ao (ao (aj rfl rfl ?_));exact ae ⟨rfl,rfl,_,rfl,rfl,ah _ _⟩
        refine an ?_ ?_
        ·intro wD E sD;refine ao ?_;exact aw rfl rfl rfl rfl (ae ⟨rfl,rfl,_,rfl,rfl,ah _ _⟩)
        refine an ?_ ?_
        ·intro wD E sD;refine ao ?_;exact aw rfl rfl rfl rfl (ae ⟨rfl,rfl,_,rfl,rfl,ah _ _⟩)
        refine an ?_ ?_
        ·intro wD E sD;refine ao (ao (ao ?_));exact aw rfl rfl rfl rfl (ae ⟨rfl,rfl,_,rfl,rfl,ah _ _⟩)
        refine an ?_ ?_
        ·intro wD E sD;refine ao (ao ?_);exact aw rfl rfl rfl rfl (ae ⟨rfl,rfl,_,rfl,rfl,ah _ _⟩)
        refine an ?_ ?_
        ·intro wD E sD;refine ao (ao ?_);exact aw rfl rfl rfl rfl (ae ⟨rfl,rfl,_,rfl,rfl,ah _ _⟩)
        refine an ?_ ?_
        ·intro wD E sD;refine ao ?_;exact aw rfl rfl rfl rfl (ae ⟨rfl,rfl,_,rfl,rfl,ah _ _⟩)
        refine an ?_ ?_
        ·intro wD E sD;refine ao ?_;exact aw rfl rfl rfl rfl (ae ⟨rfl,rfl,_,rfl,rfl,ah _ _⟩)
        refine an ?_ ?_
        ·intro wD E sD;refine ao (ao (ao ?_));exact aw rfl rfl rfl rfl (ae ⟨rfl,rfl,_,rfl,rfl,ah _ _⟩)
        refine an ?_ ?_
        ·intro wD E sD;refine ao (ao ?_);exact aw rfl rfl rfl rfl (ae ⟨rfl,rfl,_,rfl,rfl,ah _ _⟩)
        refine an ?_ ?_
        ·intro wD E sD;refine ao (ao ?_);exact aw rfl rfl rfl rfl (ae ⟨rfl,rfl,_,rfl,rfl,ah _ _⟩)
        refine an ?_ ?_
        ·intro wD E sD;refine ao (ao ?_);exact aw rfl rfl rfl rfl (ae ⟨rfl,rfl,_,rfl,rfl,ah _ _⟩)
        refine an ?_ ?_
        ·intro wD E sD;refine ao (ao ?_);exact aw rfl rfl rfl rfl (ae ⟨rfl,rfl,_,rfl,rfl,ah _ _⟩)
        refine an ?_ ?_
        ·intro wD E sD;refine ao (ao (ao ?_));exact aw rfl rfl rfl rfl (ae ⟨rfl,rfl,_,rfl,rfl,ah _ _⟩)
        refine an ?_ ?_
        ·intro wD E sD;refine ao (ao ?_);exact aw rfl rfl rfl rfl (ae ⟨rfl,rfl,_,rfl,rfl,ah _ _⟩)
        refine an ?_ ?_
        ·intro wD E sD;refine ao (ao ?_);exact aw rfl rfl rfl rfl (ae ⟨rfl,rfl,_,rfl,rfl,ah _ _⟩)
        refine an ?_ ?_
        ·intro wD E sD;refine ao (ao (aR rfl rfl rfl ?_));exact ae ⟨rfl,rfl,_,rfl,rfl,ah _ _⟩
        exact fC
       ·intro EH mw;refine ao (ao ?_);intro yS pM;intro DD vh;refine ao (ao (ao (ao (ao ?_))));intro Fi ym;intro yn rH;refine ao (ao (ao (ao (ao (ao (ao (ao (ao ?_))))))));intro LK Fl;intro LL Fm;refine ao (ao (ao (ao ?_)));intro LM Fo;intro LN Fp;refine ao (ao (ao (ao (ao (ao (ao (ao (ao (ao (ao (ao ?_)))))))))));refine ao (ao (ao (ao (ao (ao (ao (ao (ao (ao (ao (ao ?_)))))))))));refine ao (ao (ao (ao (ao (ao (ao (ao (ao (ao (gz rfl (au ?_)))))))))));refine ak (al rfl rfl (ae (aW ?_)));refine a8 rfl rfl ⟨congrArg Value.bool (bY ?_),S4.aE mw⟩;rw[hr,eR hx]
        first
        |(rw[decide_eq_false (show¬last<d by omega)];simp;done)
        |(rw[decide_eq_false (show¬d<2147483648 by omega)];simp;done)
        |(rw[show ps=[]from cE.1 (by omega)];simp;done)
        |(rw[show dL ps=false from by unfold dL;simp only[fN,eK]];simp;done)
        |(rw[show dL ps=false from by unfold dL;rw[gj]at fN;rw[fN];rfl];simp;done)
        |(rw[DB,decide_eq_false (show¬y<2147483648 by omega)];simp;done)
      ·by_cases tb:(ps.length:Int)=0
       ·apply kA (M:=M) mixed [aV.eq _,aV.eq _,aV.ptr (RT.po) (d,ps),aV.ptr (RT.int .i64) d,aV.eq (.int .i64 d),aV.eq _,aV.eq (.bool false),aV.eq _,aV.eq _,aV.ptr (RT.po) (d,ps),aV.ptr (RT.int .i64) d,aV.eq (.int .i64 d),aV.eq _,aV.eq _,aV.eq (.bool false),aV.eq _,aV.eq _,aV.eq (.bool true),aV.eq _,aV.eq _,aV.ptr (RT.po) (d,ps),aV.ptr (RT.int .i64) d,aV.eq (.int .i64 d),aV.eq _,aV.eq _,aV.eq _,aV.ptr (RT.po) (last,pl),aV.ptr (RT.int .i64) last,aV.eq (.int .i64 last),aV.eq _,aV.eq _,aV.eq _,aV.eq (.bool false),aV.eq _,aV.eq _,aV.ptr (RT.po) (d,ps),aV.ptr ((RT.int .i64).sl) ps,aV.V ((RT.int .i64).sl) ps,aV.eq _,aV.eq _,aV.eq _,aV.eq (.bool true),aV.eq undef,aV.eq undef,aV.eq _,aV.eq _,aV.eq undef,aV.eq undef,aV.eq undef,aV.eq undef,aV.eq undef,aV.eq undef,aV.eq undef,aV.eq undef,aV.eq undef,aV.eq undef,aV.eq undef,aV.eq undef,aV.eq undef,aV.eq undef,aV.eq undef,aV.eq _]
        ·rfl
        ·refine an ?_ ?_
         ·intro wD E sD;refine aj rfl rfl ?_;exact ae ⟨rfl,rfl,_,rfl,rfl,ah _ _⟩
         refine an ?_ ?_
         ·intro wD E sD;refine aj rfl rfl ?_;exact ae ⟨rfl,rfl,_,rfl,rfl,ah _ _⟩
         refine an ?_ ?_
         ·intro wD E sD;refine ao (ao ?_);refine bS (M:=M) aC dW rfl rfl rfl (pf.le sD.le) (ar _ _) (by omega) (fun ui ai gN ib=>?_);obtain rfl:(d,ps)=ai:=bY (aG (gN.symm.trans (by simpa using hx)));exact ae ⟨rfl,rfl,_,rfl,ib,ah _ _⟩
         refine an ?_ ?_
         ·intro wD E sD;intro v2 kB;refine aA (M:=M) (A:=RT.po) (B:=RT.int .i64) aP rfl rfl I3 (by decide) (na) rfl rfl (by decide) (show bL (RT.po) M wD v2 (d,ps)from kB) (ar _ _) (fun uf fB=>?_);exact ae ⟨rfl,rfl,_,rfl,fB,ah _ _⟩
         refine an ?_ ?_
         ·intro wD E sD;intro v3 lv;refine bK (M:=M) aB rfl rfl (show bL (RT.int .i64) M wD v3 d from lv) (ar _ _) (fun jN=>?_);exact ae ⟨rfl,rfl,_,rfl,rfl,ah _ _⟩
         refine an ?_ ?_
         ·intro wD E sD;refine ao (cu rfl rfl rfl ?_);exact ae ⟨rfl,rfl,_,rfl,rfl,ah _ _⟩
         refine an ?_ ?_
         ·intro wD E sD;refine ao (aj rfl rfl ?_);refine ae ⟨rfl,rfl,_,rfl,?_,ah _ _⟩;exact congrArg Value.bool (decide_eq_false Bq)
         refine an ?_ ?_
         ·intro wD E sD;refine ao (aq rfl rfl (aj rfl rfl ?_));exact ae ⟨rfl,rfl,_,rfl,rfl,ah _ _⟩
         refine an ?_ ?_
         ·intro wD E sD;refine ao (aq rfl rfl (aj rfl rfl ?_));exact ae ⟨rfl,rfl,_,rfl,rfl,ah _ _⟩
         refine an ?_ ?_
         ·intro wD E sD;refine ao (ao (ao (aq rfl rfl ?_)));refine bS (M:=M) aC dW rfl rfl rfl (pf.le sD.le) (ar _ _) (by omega) (fun ui ai gN ib=>?_);obtain rfl:(d,ps)=ai:=bY (aG (gN.symm.trans (by simpa using hx)));exact ae ⟨rfl,rfl,_,rfl,ib,ah _ _⟩
         refine an ?_ ?_
         ·intro wD E sD;intro v9 qi;refine ao (aq rfl rfl ?_);refine aA (M:=M) (A:=RT.po) (B:=RT.int .i64) aP rfl rfl I3 (by decide) (na) rfl rfl (by decide) (show bL (RT.po) M wD v9 (d,ps)from qi) (ar _ _) (fun uf fB=>?_);exact ae ⟨rfl,rfl,_,rfl,fB,ah _ _⟩
         refine an ?_ ?_
         ·intro wD E sD;intro v10 iU;refine ao (aq rfl rfl ?_);refine bK (M:=M) aB rfl rfl (show bL (RT.int .i64) M wD v10 d from iU) (ar _ _) (fun jN=>?_);exact ae ⟨rfl,rfl,_,rfl,rfl,ah _ _⟩
         refine an ?_ ?_
         ·intro wD E sD;refine ao (ao (aq rfl rfl (dI rfl rfl rfl ?_)));exact ae ⟨rfl,rfl,_,rfl,rfl,ah _ _⟩
         refine an ?_ ?_
         ·intro wD E sD;refine ao (ao (aL rfl rfl rfl ?_));exact ae ⟨rfl,rfl,_,rfl,rfl,ah _ _⟩
         refine an ?_ ?_
         ·intro wD E sD;refine ao (ao (aj rfl rfl ?_));refine ae ⟨rfl,rfl,_,rfl,?_,ah _ _⟩;exact congrArg Value.bool (decide_eq_false vq)
         refine an ?_ ?_
         ·intro wD E sD;refine ao (aq rfl rfl (aj rfl rfl ?_));exact ae ⟨rfl,rfl,_,rfl,rfl,ah _ _⟩
         refine an ?_ ?_
         ·intro wD E sD;refine ao (ao (aq rfl rfl (hY rfl rfl rfl ?_)));exact ae ⟨rfl,rfl,_,rfl,rfl,ah _ _⟩
         refine an ?_ ?_
         ·intro wD E sD;refine ao (ao (ao (aq rfl rfl (aj rfl rfl ?_))));refine ae ⟨rfl,rfl,_,rfl,?_,ah _ _⟩;exact congrArg Value.bool (decide_eq_true yo)
         refine an ?_ ?_
         ·intro wD E sD;refine ao (aq rfl rfl (aj rfl rfl ?_));exact ae ⟨rfl,rfl,_,rfl,rfl,ah _ _⟩
         refine an ?_ ?_
         ·intro wD E sD;refine ao (aq rfl rfl (aj rfl rfl ?_));exact ae ⟨rfl,rfl,_,rfl,rfl,ah _ _⟩
         refine an ?_ ?_
         ·intro wD E sD;refine ao (ao (ao (aq rfl rfl ?_)));refine bS (M:=M) aC dW rfl rfl rfl (pf.le sD.le) (ar _ _) (by omega) (fun ui ai gN ib=>?_);obtain rfl:(d,ps)=ai:=bY (aG (gN.symm.trans (by simpa using hx)));exact ae ⟨rfl,rfl,_,rfl,ib,ah _ _⟩
         refine an ?_ ?_
         ·intro wD E sD;intro v20 yc;refine ao (aq rfl rfl ?_);refine aA (M:=M) (A:=RT.po) (B:=RT.int .i64) aP rfl rfl I3 (by decide) (na) rfl rfl (by decide) (show bL (RT.po) M wD v20 (d,ps)from yc) (ar _ _) (fun uf fB=>?_);exact ae ⟨rfl,rfl,_,rfl,fB,ah _ _⟩
         refine an ?_ ?_
         ·intro wD E sD;intro v21 uv;refine ao (aq rfl rfl ?_);refine bK (M:=M) aB rfl rfl (show bL (RT.int .i64) M wD v21 d from uv) (ar _ _) (fun jN=>?_);exact ae ⟨rfl,rfl,_,rfl,rfl,ah _ _⟩
         refine an ?_ ?_
         ·intro wD E sD;refine ao (aq rfl rfl (aj rfl rfl ?_));exact ae ⟨rfl,rfl,_,rfl,rfl,ah _ _⟩
         refine an ?_ ?_
         ·intro wD E sD;refine ao (aq rfl rfl (aj rfl rfl ?_));exact ae ⟨rfl,rfl,_,rfl,rfl,ah _ _⟩
         refine an ?_ ?_
         ·intro wD E sD;refine ao (ao (aq rfl rfl (eJ rfl rfl rfl (by omega) ?_)));exact ae ⟨rfl,rfl,_,rfl,rfl,ah _ _⟩
         refine an ?_ ?_
         ·intro wD E sD;refine ao (ao (ao (aq rfl rfl ?_)));refine bS (M:=M) aC dW rfl rfl rfl (pf.le sD.le) (ar _ _) (by omega) (fun ui ai gN ib=>?_);obtain rfl:(last,pl)=ai:=bY (aG (gN.symm.trans (by rw[show((k:Int)-1).toNat=k-1 from by omega];exact h1 (by omega))));exact ae ⟨rfl,rfl,_,rfl,ib,ah _ _⟩
         refine an ?_ ?_
         ·intro wD E sD;intro v26 Fj;refine ao (aq rfl rfl ?_);refine aA (M:=M) (A:=RT.po) (B:=RT.int .i64) aP rfl rfl I3 (by decide) (na) rfl rfl (by decide) (show bL (RT.po) M wD v26 (last,pl)from Fj) (ar _ _) (fun uf fB=>?_);exact ae ⟨rfl,rfl,_,rfl,fB,ah _ _⟩
         refine an ?_ ?_
         ·intro wD E sD;intro v27 Fk;refine ao (aq rfl rfl ?_);refine bK (M:=M) aB rfl rfl (show bL (RT.int .i64) M wD v27 last from Fk) (ar _ _) (fun jN=>?_);exact ae ⟨rfl,rfl,_,rfl,rfl,ah _ _⟩
         refine an ?_ ?_
         ·intro wD E sD;refine ao (ao (ao (aq rfl rfl (fo rfl rfl rfl ?_))));exact ae ⟨rfl,rfl,_,rfl,rfl,ah _ _⟩
         refine an ?_ ?_
         ·intro wD E sD;refine ao (ao (ao (aq rfl rfl (aR rfl rfl rfl ?_))));exact ae ⟨rfl,rfl,_,rfl,rfl,ah _ _⟩
         refine an ?_ ?_
         ·intro wD E sD;refine ao (ao (aL rfl rfl rfl ?_));exact ae ⟨rfl,rfl,_,rfl,rfl,ah _ _⟩
         refine an ?_ ?_
         ·intro wD E sD;refine ao (ao (aj rfl rfl ?_));refine ae ⟨rfl,rfl,_,rfl,?_,ah _ _⟩;exact congrArg Value.bool (decide_eq_false Gl)
         refine an ?_ ?_
         ·intro wD E sD;refine ao (aq rfl rfl (aj rfl rfl ?_));exact ae ⟨rfl,rfl,_,rfl,rfl,ah _ _⟩
         refine an ?_ ?_
         ·intro wD E sD;refine ao (aq rfl rfl (aj rfl rfl ?_));exact ae ⟨rfl,rfl,_,rfl,rfl,ah _ _⟩
         refine an ?_ ?_
         ·intro wD E sD;refine ao (ao (ao (aq rfl rfl ?_)));refine bS (M:=M) aC dW rfl rfl rfl (pf.le sD.le) (ar _ _) (by omega) (fun ui ai gN ib=>?_);obtain rfl:(d,ps)=ai:=bY (aG (gN.symm.trans (by simpa using hx)));exact ae ⟨rfl,rfl,_,rfl,ib,ah _ _⟩
         refine an ?_ ?_
         ·intro wD E sD;intro v35 yp;refine ao (aq rfl rfl ?_);refine aA (M:=M) (A:=RT.po) (B:=(RT.int .i64).sl) aP rfl rfl gT (by decide) (zr) rfl rfl (by decide) (show bL (RT.po) M wD v35 (d,ps)from yp) (ar _ _) (fun uf fB=>?_);exact ae ⟨rfl,rfl,_,rfl,fB,ah _ _⟩
         refine an ?_ ?_
         ·intro wD E sD;intro v36 yq;refine ao (aq rfl rfl ?_);refine aY (M:=M) ay rfl rfl rfl rfl rfl (show bL ((RT.int .i64).sl) M wD v36 ps from yq) (ar _ _) (fun va ke=>?_);exact ae ⟨rfl,rfl,_,rfl,ke,ah _ _⟩
         refine an ?_ ?_
         ·intro wD E sD;intro v37 yr;refine ao (aq rfl rfl (bF ay rfl (show((RT.int .i64).sl).V M wD ps v37 from yr) rfl ?_));exact ae ⟨rfl,rfl,_,rfl,rfl,ah _ _⟩
         refine an ?_ ?_
         ·intro wD E sD;refine ao (ao (aq rfl rfl (iE rfl rfl rfl ?_)));exact ae ⟨rfl,rfl,_,rfl,rfl,ah _ _⟩
         refine an ?_ ?_
         ·intro wD E sD;refine ao (ao (aL rfl rfl rfl ?_));exact ae ⟨rfl,rfl,_,rfl,rfl,ah _ _⟩
         refine an ?_ ?_
         ·intro wD E sD;refine ao (ao (aj rfl rfl ?_));refine ae ⟨rfl,rfl,_,rfl,?_,ah _ _⟩;exact congrArg Value.bool (decide_eq_true tb)
         refine an ?_ ?_
         ·intro wD E sD;refine ao ?_;exact aw rfl rfl rfl rfl (ae ⟨rfl,rfl,_,rfl,rfl,ah _ _⟩)
         refine an ?_ ?_
         ·intro wD E sD;refine ao (ao ?_);exact aw rfl rfl rfl rfl (ae ⟨rfl,rfl,_,rfl,rfl,ah _ _⟩)
         refine an ?_ ?_
         ·intro wD E sD;refine ao (ao (aR rfl rfl rfl ?_));exact ae ⟨rfl,rfl,_,rfl,rfl,ah _ _⟩
         refine an ?_ ?_
         ·intro wD E sD;refine ao (ao (aj rfl rfl ?_));exact ae ⟨rfl,rfl,_,rfl,rfl,ah _ _⟩
         refine an ?_ ?_
         ·intro wD E sD;refine ao ?_;exact aw rfl rfl rfl rfl (ae ⟨rfl,rfl,_,rfl,rfl,ah _ _⟩)
         refine an ?_ ?_
         ·intro wD E sD;refine ao ?_;exact aw rfl rfl rfl rfl (ae ⟨rfl,rfl,_,rfl,rfl,ah _ _⟩)
         refine an ?_ ?_
         ·intro wD E sD;refine ao (ao (ao ?_));exact aw rfl rfl rfl rfl (ae ⟨rfl,rfl,_,rfl,rfl,ah _ _⟩)
         refine an ?_ ?_
         ·intro wD E sD;refine ao (ao ?_);exact aw rfl rfl rfl rfl (ae ⟨rfl,rfl,_,rfl,rfl,ah _ _⟩)
         refine an ?_ ?_
         ·intro wD E sD;refine ao (ao ?_);exact aw rfl rfl rfl rfl (ae ⟨rfl,rfl,_,rfl,rfl,ah _ _⟩)
         refine an ?_ ?_
         ·intro wD E sD;refine ao ?_;exact aw rfl rfl rfl rfl (ae ⟨rfl,rfl,_,rfl,rfl,ah _ _⟩)
         refine an ?_ ?_
         ·intro wD E sD;refine ao ?_;exact aw rfl rfl rfl rfl (ae ⟨rfl,rfl,_,rfl,rfl,ah _ _⟩)
         refine an ?_ ?_
         ·intro wD E sD;refine ao (ao (ao ?_));exact aw rfl rfl rfl rfl (ae ⟨rfl,rfl,_,rfl,rfl,ah _ _⟩)
         refine an ?_ ?_
         ·intro wD E sD;refine ao (ao ?_);exact aw rfl rfl rfl rfl (ae ⟨rfl,rfl,_,rfl,rfl,ah _ _⟩)
         refine an ?_ ?_
         ·intro wD E sD;refine ao (ao ?_);exact aw rfl rfl rfl rfl (ae ⟨rfl,rfl,_,rfl,rfl,ah _ _⟩)
         refine an ?_ ?_
         ·intro wD E sD;refine ao (ao ?_);exact aw rfl rfl rfl rfl (ae ⟨rfl,rfl,_,rfl,rfl,ah _ _⟩)
         refine an ?_ ?_
         ·intro wD E sD;refine ao (ao ?_);exact aw rfl rfl rfl rfl (ae ⟨rfl,rfl,_,rfl,rfl,ah _ _⟩)
         refine an ?_ ?_
         ·intro wD E sD;refine ao (ao (ao ?_));exact aw rfl rfl rfl rfl (ae ⟨rfl,rfl,_,rfl,rfl,ah _ _⟩)
         refine an ?_ ?_
         ·intro wD E sD;refine ao (ao ?_);exact aw rfl rfl rfl rfl (ae ⟨rfl,rfl,_,rfl,rfl,ah _ _⟩)
         refine an ?_ ?_
         ·intro wD E sD;refine ao (ao ?_);exact aw rfl rfl rfl rfl (ae ⟨rfl,rfl,_,rfl,rfl,ah _ _⟩)
         refine an ?_ ?_
         ·intro wD E sD;refine ao (ao (aR rfl rfl rfl ?_));exact ae ⟨rfl,rfl,_,rfl,rfl,ah _ _⟩
         exact fC
        ·intro EH mw;refine ao (ao ?_);intro yS pM;intro DD vh;refine ao (ao (ao (ao (ao ?_))));intro Fi ym;intro yn rH;refine ao (ao (ao (ao (ao (ao (ao (ao (ao ?_))))))));intro LK Fl;intro LL Fm;refine ao (ao (ao (ao ?_)));intro LM Fo;intro LN Fp;refine ao (ao (ao (ao (ao (ao (ao ?_))))));intro DE yt;intro DF yu;intro DG yv;refine ao (ao (ao (ao (ao (ao (ao (ao (ao (ao (ao (ao ?_)))))))))));refine ao (ao (ao (ao (ao (ao (ao (ao (ao (ao (ao (ao ?_)))))))))));refine gz rfl (au (ak (al rfl rfl (ae (aW ?_)))));refine a8 rfl rfl ⟨congrArg Value.bool (bY ?_),S4.aE mw⟩;rw[hr,eR hx]
         first
         |(rw[decide_eq_false (show¬last<d by omega)];simp;done)
         |(rw[decide_eq_false (show¬d<2147483648 by omega)];simp;done)
         |(rw[show ps=[]from cE.1 (by omega)];simp;done)
         |(rw[show dL ps=false from by unfold dL;simp only[fN,eK]];simp;done)
         |(rw[show dL ps=false from by unfold dL;rw[gj]at fN;rw[fN];rfl];simp;done)
         |(rw[DB,decide_eq_false (show¬y<2147483648 by omega)];simp;done)
       ·by_cases fN: ¬ec (-1) ps=true
        ·apply kA (M:=M) mixed [aV.eq _,aV.eq _,aV.ptr (RT.po) (d,ps),aV.ptr (RT.int .i64) d,aV.eq (.int .i64 d),aV.eq _,aV.eq (.bool false),aV.eq _,aV.eq _,aV.ptr (RT.po) (d,ps),aV.ptr (RT.int .i64) d,aV.eq (.int .i64 d),aV.eq _,aV.eq _,aV.eq (.bool false),aV.eq _,aV.eq _,aV.eq (.bool true),aV.eq _,aV.eq _,aV.ptr (RT.po) (d,ps),aV.ptr (RT.int .i64) d,aV.eq (.int .i64 d),aV.eq _,aV.eq _,aV.eq _,aV.ptr (RT.po) (last,pl),aV.ptr (RT.int .i64) last,aV.eq (.int .i64 last),aV.eq _,aV.eq _,aV.eq _,aV.eq (.bool false),aV.eq _,aV.eq _,aV.ptr (RT.po) (d,ps),aV.ptr ((RT.int .i64).sl) ps,aV.V ((RT.int .i64).sl) ps,aV.eq _,aV.eq _,aV.eq _,aV.eq (.bool false),aV.eq _,aV.eq _,aV.eq _,aV.eq (.bool true),aV.eq undef,aV.eq undef,aV.eq undef,aV.eq undef,aV.eq undef,aV.eq undef,aV.eq undef,aV.eq undef,aV.eq undef,aV.eq undef,aV.eq undef,aV.eq undef,aV.eq undef,aV.eq undef,aV.eq undef,aV.eq _]
         ·rfl
         ·refine an ?_ ?_
          ·intro wD E sD;refine aj rfl rfl ?_;exact ae ⟨rfl,rfl,_,rfl,rfl,ah _ _⟩
          refine an ?_ ?_
          ·intro wD E sD;refine aj rfl rfl ?_;exact ae ⟨rfl,rfl,_,rfl,rfl,ah _ _⟩
          refine an ?_ ?_
          ·intro wD E sD;refine ao (ao ?_);refine bS (M:=M) aC dW rfl rfl rfl (pf.le sD.le) (ar _ _) (by omega) (fun ui ai gN ib=>?_);obtain rfl:(d,ps)=ai:=bY (aG (gN.symm.trans (by simpa using hx)));exact ae ⟨rfl,rfl,_,rfl,ib,ah _ _⟩
          refine an ?_ ?_
          ·intro wD E sD;intro v2 kB;refine aA (M:=M) (A:=RT.po) (B:=RT.int .i64) aP rfl rfl I3 (by decide) (na) rfl rfl (by decide) (show bL (RT.po) M wD v2 (d,ps)from kB) (ar _ _) (fun uf fB=>?_);exact ae ⟨rfl,rfl,_,rfl,fB,ah _ _⟩
          refine an ?_ ?_
          ·intro wD E sD;intro v3 lv;refine bK (M:=M) aB rfl rfl (show bL (RT.int .i64) M wD v3 d from lv) (ar _ _) (fun jN=>?_);exact ae ⟨rfl,rfl,_,rfl,rfl,ah _ _⟩
          refine an ?_ ?_
          ·intro wD E sD;refine ao (cu rfl rfl rfl ?_);exact ae ⟨rfl,rfl,_,rfl,rfl,ah _ _⟩
          refine an ?_ ?_
          ·intro wD E sD;refine ao (aj rfl rfl ?_);refine ae ⟨rfl,rfl,_,rfl,?_,ah _ _⟩;exact congrArg Value.bool (decide_eq_false Bq)
          refine an ?_ ?_
          ·intro wD E sD;refine ao (aq rfl rfl (aj rfl rfl ?_));exact ae ⟨rfl,rfl,_,rfl,rfl,ah _ _⟩
          refine an ?_ ?_
          ·intro wD E sD;refine ao (aq rfl rfl (aj rfl rfl ?_));exact ae ⟨rfl,rfl,_,rfl,rfl,ah _ _⟩
          refine an ?_ ?_
          ·intro wD E sD;refine ao (ao (ao (aq rfl rfl ?_)));refine bS (M:=M) aC dW rfl rfl rfl (pf.le sD.le) (ar _ _) (by omega) (fun ui ai gN ib=>?_);obtain rfl:(d,ps)=ai:=bY (aG (gN.symm.trans (by simpa using hx)));exact ae ⟨rfl,rfl,_,rfl,ib,ah _ _⟩
          refine an ?_ ?_
          ·intro wD E sD;intro v9 qi;refine ao (aq rfl rfl ?_);refine aA (M:=M) (A:=RT.po) (B:=RT.int .i64) aP rfl rfl I3 (by decide) (na) rfl rfl (by decide) (show bL (RT.po) M wD v9 (d,ps)from qi) (ar _ _) (fun uf fB=>?_);exact ae ⟨rfl,rfl,_,rfl,fB,ah _ _⟩
          refine an ?_ ?_
          ·intro wD E sD;intro v10 iU;refine ao (aq rfl rfl ?_);refine bK (M:=M) aB rfl rfl (show bL (RT.int .i64) M wD v10 d from iU) (ar _ _) (fun jN=>?_);exact ae ⟨rfl,rfl,_,rfl,rfl,ah _ _⟩
          refine an ?_ ?_
          ·intro wD E sD;refine ao (ao (aq rfl rfl (dI rfl rfl rfl ?_)));exact ae ⟨rfl,rfl,_,rfl,rfl,ah _ _⟩
          refine an ?_ ?_
          ·intro wD E sD;refine ao (ao (aL rfl rfl rfl ?_));exact ae ⟨rfl,rfl,_,rfl,rfl,ah _ _⟩
          refine an ?_ ?_
          ·intro wD E sD;refine ao (ao (aj rfl rfl ?_));refine ae ⟨rfl,rfl,_,rfl,?_,ah _ _⟩;exact congrArg Value.bool (decide_eq_false vq)
          refine an ?_ ?_
          ·intro wD E sD;refine ao (aq rfl rfl (aj rfl rfl ?_));exact ae ⟨rfl,rfl,_,rfl,rfl,ah _ _⟩
          refine an ?_ ?_
          ·intro wD E sD;refine ao (ao (aq rfl rfl (hY rfl rfl rfl ?_)));exact ae ⟨rfl,rfl,_,rfl,rfl,ah _ _⟩
          refine an ?_ ?_
          ·intro wD E sD;refine ao (ao (ao (aq rfl rfl (aj rfl rfl ?_))));refine ae ⟨rfl,rfl,_,rfl,?_,ah _ _⟩;exact congrArg Value.bool (decide_eq_true yo)
          refine an ?_ ?_
          ·intro wD E sD;refine ao (aq rfl rfl (aj rfl rfl ?_));exact ae ⟨rfl,rfl,_,rfl,rfl,ah _ _⟩
          refine an ?_ ?_
          ·intro wD E sD;refine ao (aq rfl rfl (aj rfl rfl ?_));exact ae ⟨rfl,rfl,_,rfl,rfl,ah _ _⟩
          refine an ?_ ?_
          ·intro wD E sD;refine ao (ao (ao (aq rfl rfl ?_)));refine bS (M:=M) aC dW rfl rfl rfl (pf.le sD.le) (ar _ _) (by omega) (fun ui ai gN ib=>?_);obtain rfl:(d,ps)=ai:=bY (aG (gN.symm.trans (by simpa using hx)));exact ae ⟨rfl,rfl,_,rfl,ib,ah _ _⟩
          refine an ?_ ?_
          ·intro wD E sD;intro v20 yc;refine ao (aq rfl rfl ?_);refine aA (M:=M) (A:=RT.po) (B:=RT.int .i64) aP rfl rfl I3 (by decide) (na) rfl rfl (by decide) (show bL (RT.po) M wD v20 (d,ps)from yc) (ar _ _) (fun uf fB=>?_);exact ae ⟨rfl,rfl,_,rfl,fB,ah _ _⟩
          refine an ?_ ?_
          ·intro wD E sD;intro v21 uv;refine ao (aq rfl rfl ?_);refine bK (M:=M) aB rfl rfl (show bL (RT.int .i64) M wD v21 d from uv) (ar _ _) (fun jN=>?_);exact ae ⟨rfl,rfl,_,rfl,rfl,ah _ _⟩
          refine an ?_ ?_
          ·intro wD E sD;refine ao (aq rfl rfl (aj rfl rfl ?_));exact ae ⟨rfl,rfl,_,rfl,rfl,ah _ _⟩
          refine an ?_ ?_
          ·intro wD E sD;refine ao (aq rfl rfl (aj rfl rfl ?_));exact ae ⟨rfl,rfl,_,rfl,rfl,ah _ _⟩
          refine an ?_ ?_
          ·intro wD E sD;refine ao (ao (aq rfl rfl (eJ rfl rfl rfl (by omega) ?_)));exact ae ⟨rfl,rfl,_,rfl,rfl,ah _ _⟩
          refine an ?_ ?_
          ·intro wD E sD;refine ao (ao (ao (aq rfl rfl ?_)));refine bS (M:=M) aC dW rfl rfl rfl (pf.le sD.le) (ar _ _) (by omega) (fun ui ai gN ib=>?_);obtain rfl:(last,pl)=ai:=bY (aG (gN.symm.trans (by rw[show((k:Int)-1).toNat=k-1 from by omega];exact h1 (by omega))));exact ae ⟨rfl,rfl,_,rfl,ib,ah _ _⟩
          refine an ?_ ?_
          ·intro wD E sD;intro v26 Fj;refine ao (aq rfl rfl ?_);refine aA (M:=M) (A:=RT.po) (B:=RT.int .i64) aP rfl rfl I3 (by decide) (na) rfl rfl (by decide) (show bL (RT.po) M wD v26 (last,pl)from Fj) (ar _ _) (fun uf fB=>?_);exact ae ⟨rfl,rfl,_,rfl,fB,ah _ _⟩
          refine an ?_ ?_
          ·intro wD E sD;intro v27 Fk;refine ao (aq rfl rfl ?_);refine bK (M:=M) aB rfl rfl (show bL (RT.int .i64) M wD v27 last from Fk) (ar _ _) (fun jN=>?_);exact ae ⟨rfl,rfl,_,rfl,rfl,ah _ _⟩
          refine an ?_ ?_
          ·intro wD E sD;refine ao (ao (ao (aq rfl rfl (fo rfl rfl rfl ?_))));exact ae ⟨rfl,rfl,_,rfl,rfl,ah _ _⟩
          refine an ?_ ?_
          ·intro wD E sD;refine ao (ao (ao (aq rfl rfl (aR rfl rfl rfl ?_))));exact ae ⟨rfl,rfl,_,rfl,rfl,ah _ _⟩
          refine an ?_ ?_
          ·intro wD E sD;refine ao (ao (aL rfl rfl rfl ?_));exact ae ⟨rfl,rfl,_,rfl,rfl,ah _ _⟩
          refine an ?_ ?_
          ·intro wD E sD;refine ao (ao (aj rfl rfl ?_));refine ae ⟨rfl,rfl,_,rfl,?_,ah _ _⟩;exact congrArg Value.bool (decide_eq_false Gl)
          refine an ?_ ?_
          ·intro wD E sD;refine ao (aq rfl rfl (aj rfl rfl ?_));exact ae ⟨rfl,rfl,_,rfl,rfl,ah _ _⟩
          refine an ?_ ?_
          ·intro wD E sD;refine ao (aq rfl rfl (aj rfl rfl ?_));exact ae ⟨rfl,rfl,_,rfl,rfl,ah _ _⟩
          refine an ?_ ?_
          ·intro wD E sD;refine ao (ao (ao (aq rfl rfl ?_)));refine bS (M:=M) aC dW rfl rfl rfl (pf.le sD.le) (ar _ _) (by omega) (fun ui ai gN ib=>?_);obtain rfl:(d,ps)=ai:=bY (aG (gN.symm.trans (by simpa using hx)));exact ae ⟨rfl,rfl,_,rfl,ib,ah _ _⟩
          refine an ?_ ?_
          ·intro wD E sD;intro v35 yp;refine ao (aq rfl rfl ?_);refine aA (M:=M) (A:=RT.po) (B:=(RT.int .i64).sl) aP rfl rfl gT (by decide) (zr) rfl rfl (by decide) (show bL (RT.po) M wD v35 (d,ps)from yp) (ar _ _) (fun uf fB=>?_);exact ae ⟨rfl,rfl,_,rfl,fB,ah _ _⟩
          refine an ?_ ?_
          ·intro wD E sD;intro v36 yq;refine ao (aq rfl rfl ?_);refine aY (M:=M) ay rfl rfl rfl rfl rfl (show bL ((RT.int .i64).sl) M wD v36 ps from yq) (ar _ _) (fun va ke=>?_);exact ae ⟨rfl,rfl,_,rfl,ke,ah _ _⟩
          refine an ?_ ?_
          ·intro wD E sD;intro v37 yr;refine ao (aq rfl rfl (bF ay rfl (show((RT.int .i64).sl).V M wD ps v37 from yr) rfl ?_));exact ae ⟨rfl,rfl,_,rfl,rfl,ah _ _⟩
          refine an ?_ ?_
          ·intro wD E sD;refine ao (ao (aq rfl rfl (iE rfl rfl rfl ?_)));exact ae ⟨rfl,rfl,_,rfl,rfl,ah _ _⟩
          refine an ?_ ?_
          ·intro wD E sD;refine ao (ao (aL rfl rfl rfl ?_));exact ae ⟨rfl,rfl,_,rfl,rfl,ah _ _⟩
          refine an ?_ ?_
          ·intro wD E sD;refine ao (ao (aj rfl rfl ?_));refine ae ⟨rfl,rfl,_,rfl,?_,ah _ _⟩;exact congrArg Value.bool (decide_eq_false tb)
          refine an ?_ ?_
          ·intro wD E sD;refine ao (aq rfl rfl (aj rfl rfl ?_));exact ae ⟨rfl,rfl,_,rfl,rfl,ah _ _⟩
          refine an ?_ ?_
          ·intro wD E sD;refine ao (ao (aq rfl rfl (fP rfl rfl (bO (v':= .bool (decide (¬ec (-1) ps=true))) (by simp) ?_))));exact ae ⟨rfl,rfl,_,rfl,rfl,ah _ _⟩
          refine an ?_ ?_
          ·intro wD E sD;refine ao (ao (aL rfl rfl rfl ?_));exact ae ⟨rfl,rfl,_,rfl,rfl,ah _ _⟩
          refine an ?_ ?_
          ·intro wD E sD;refine ao (ao (aj rfl rfl ?_));refine ae ⟨rfl,rfl,_,rfl,?_,ah _ _⟩;exact congrArg Value.bool (decide_eq_true fN)
          refine an ?_ ?_
          ·intro wD E sD;refine ao ?_;exact aw rfl rfl rfl rfl (ae ⟨rfl,rfl,_,rfl,rfl,ah _ _⟩)
          refine an ?_ ?_
          ·intro wD E sD;refine ao ?_;exact aw rfl rfl rfl rfl (ae ⟨rfl,rfl,_,rfl,rfl,ah _ _⟩)
          refine an ?_ ?_
          ·intro wD E sD;refine ao (ao (ao ?_));exact aw rfl rfl rfl rfl (ae ⟨rfl,rfl,_,rfl,rfl,ah _ _⟩)
          refine an ?_ ?_
          ·intro wD E sD;refine ao (ao ?_);exact aw rfl rfl rfl rfl (ae ⟨rfl,rfl,_,rfl,rfl,ah _ _⟩)
          refine an ?_ ?_
          ·intro wD E sD;refine ao (ao ?_);exact aw rfl rfl rfl rfl (ae ⟨rfl,rfl,_,rfl,rfl,ah _ _⟩)
          refine an ?_ ?_
          ·intro wD E sD;refine ao ?_;exact aw rfl rfl rfl rfl (ae ⟨rfl,rfl,_,rfl,rfl,ah _ _⟩)
          refine an ?_ ?_
          ·intro wD E sD;refine ao ?_;exact aw rfl rfl rfl rfl (ae ⟨rfl,rfl,_,rfl,rfl,ah _ _⟩)
          refine an ?_ ?_
          ·intro wD E sD;refine ao (ao (ao ?_));exact aw rfl rfl rfl rfl (ae ⟨rfl,rfl,_,rfl,rfl,ah _ _⟩)
          refine an ?_ ?_
          ·intro wD E sD;refine ao (ao ?_);exact aw rfl rfl rfl rfl (ae ⟨rfl,rfl,_,rfl,rfl,ah _ _⟩)
          refine an ?_ ?_
          ·intro wD E sD;refine ao (ao ?_);exact aw rfl rfl rfl rfl (ae ⟨rfl,rfl,_,rfl,rfl,ah _ _⟩)
          refine an ?_ ?_
          ·intro wD E sD;refine ao (ao ?_);exact aw rfl rfl rfl rfl (ae ⟨rfl,rfl,_,rfl,rfl,ah _ _⟩)
          refine an ?_ ?_
          ·intro wD E sD;refine ao (ao ?_);exact aw rfl rfl rfl rfl (ae ⟨rfl,rfl,_,rfl,rfl,ah _ _⟩)
          refine an ?_ ?_
          ·intro wD E sD;refine ao (ao (ao ?_));exact aw rfl rfl rfl rfl (ae ⟨rfl,rfl,_,rfl,rfl,ah _ _⟩)
          refine an ?_ ?_
          ·intro wD E sD;refine ao (ao ?_);exact aw rfl rfl rfl rfl (ae ⟨rfl,rfl,_,rfl,rfl,ah _ _⟩)
          refine an ?_ ?_
          ·intro wD E sD;refine ao (ao ?_);exact aw rfl rfl rfl rfl (ae ⟨rfl,rfl,_,rfl,rfl,ah _ _⟩)
          refine an ?_ ?_
          ·intro wD E sD;refine ao (ao (aR rfl rfl rfl ?_));exact ae ⟨rfl,rfl,_,rfl,rfl,ah _ _⟩
          exact fC
         ·intro EH mw;refine ao (ao ?_);intro yS pM;intro DD vh;refine ao (ao (ao (ao (ao ?_))));intro Fi ym;intro yn rH;refine ao (ao (ao (ao (ao (ao (ao (ao (ao ?_))))))));intro LK Fl;intro LL Fm;refine ao (ao (ao (ao ?_)));intro LM Fo;intro LN Fp;refine ao (ao (ao (ao (ao (ao (ao ?_))))));intro DE yt;intro DF yu;intro DG yv;refine ao (ao (ao (ao (ao (ao (ao (ao (ao (ao (ao (ao ?_)))))))))));refine ao (ao (ao (ao (ao (ao (ao (ao (ao (ao (ao (ao ?_)))))))))));refine gz rfl (au (ak (al rfl rfl (ae (aW ?_)))));refine a8 rfl rfl ⟨congrArg Value.bool (bY ?_),S4.aE mw⟩;rw[hr,eR hx]
          first
          |(rw[decide_eq_false (show¬last<d by omega)];simp;done)
          |(rw[decide_eq_false (show¬d<2147483648 by omega)];simp;done)
          |(rw[show ps=[]from cE.1 (by omega)];simp;done)
          |(rw[show dL ps=false from by unfold dL;simp only[fN,eK]];simp;done)
          |(rw[show dL ps=false from by unfold dL;rw[gj]at fN;rw[fN];rfl];simp;done)
          |(rw[DB,decide_eq_false (show¬y<2147483648 by omega)];simp;done)
        ·obtain⟨y,hy⟩:∃y,ps[ps.length-1]? =some y:=⟨_,aI (by omega)⟩;have DB:=vg (cy.1 fN) hy;apply kA (M:=M) mixed [aV.eq _,aV.eq _,aV.ptr (RT.po) (d,ps),aV.ptr (RT.int .i64) d,aV.eq (.int .i64 d),aV.eq _,aV.eq (.bool false),aV.eq _,aV.eq _,aV.ptr (RT.po) (d,ps),aV.ptr (RT.int .i64) d,aV.eq (.int .i64 d),aV.eq _,aV.eq _,aV.eq (.bool false),aV.eq _,aV.eq _,aV.eq (.bool true),aV.eq _,aV.eq _,aV.ptr (RT.po) (d,ps),aV.ptr (RT.int .i64) d,aV.eq (.int .i64 d),aV.eq _,aV.eq _,aV.eq _,aV.ptr (RT.po) (last,pl),aV.ptr (RT.int .i64) last,aV.eq (.int .i64 last),aV.eq _,aV.eq _,aV.eq _,aV.eq (.bool false),aV.eq _,aV.eq _,aV.ptr (RT.po) (d,ps),aV.ptr ((RT.int .i64).sl) ps,aV.V ((RT.int .i64).sl) ps,aV.eq _,aV.eq _,aV.eq _,aV.eq (.bool false),aV.eq _,aV.eq _,aV.eq _,aV.eq (.bool false),aV.eq _,aV.eq _,aV.ptr (RT.po) (d,ps),aV.ptr ((RT.int .i64).sl) ps,aV.V ((RT.int .i64).sl) ps,aV.eq _,aV.eq _,aV.ptr (RT.po) (d,ps),aV.ptr ((RT.int .i64).sl) ps,aV.V ((RT.int .i64).sl) ps,aV.eq _,aV.eq _,aV.ptr (RT.int .i64) y,aV.eq (.int .i64 y),aV.eq _,aV.eq _]
         ·rfl
         ·refine an ?_ ?_
          ·intro wD E sD;refine aj rfl rfl ?_;exact ae ⟨rfl,rfl,_,rfl,rfl,ah _ _⟩
          refine an ?_ ?_
          ·intro wD E sD;refine aj rfl rfl ?_;exact ae ⟨rfl,rfl,_,rfl,rfl,ah _ _⟩
          refine an ?_ ?_
          ·intro wD E sD;refine ao (ao ?_);refine bS (M:=M) aC dW rfl rfl rfl (pf.le sD.le) (ar _ _) (by omega) (fun ui ai gN ib=>?_);obtain rfl:(d,ps)=ai:=bY (aG (gN.symm.trans (by simpa using hx)));exact ae ⟨rfl,rfl,_,rfl,ib,ah _ _⟩
          refine an ?_ ?_
          ·intro wD E sD;intro v2 kB;refine aA (M:=M) (A:=RT.po) (B:=RT.int .i64) aP rfl rfl I3 (by decide) (na) rfl rfl (by decide) (show bL (RT.po) M wD v2 (d,ps)from kB) (ar _ _) (fun uf fB=>?_);exact ae ⟨rfl,rfl,_,rfl,fB,ah _ _⟩
          refine an ?_ ?_
          ·intro wD E sD;intro v3 lv;refine bK (M:=M) aB rfl rfl (show bL (RT.int .i64) M wD v3 d from lv) (ar _ _) (fun jN=>?_);exact ae ⟨rfl,rfl,_,rfl,rfl,ah _ _⟩
          refine an ?_ ?_
          ·intro wD E sD;refine ao (cu rfl rfl rfl ?_);exact ae ⟨rfl,rfl,_,rfl,rfl,ah _ _⟩
          refine an ?_ ?_
          ·intro wD E sD;refine ao (aj rfl rfl ?_);refine ae ⟨rfl,rfl,_,rfl,?_,ah _ _⟩;exact congrArg Value.bool (decide_eq_false Bq)
          refine an ?_ ?_
          ·intro wD E sD;refine ao (aq rfl rfl (aj rfl rfl ?_));exact ae ⟨rfl,rfl,_,rfl,rfl,ah _ _⟩
          refine an ?_ ?_
          ·intro wD E sD;refine ao (aq rfl rfl (aj rfl rfl ?_));exact ae ⟨rfl,rfl,_,rfl,rfl,ah _ _⟩
          refine an ?_ ?_
          ·intro wD E sD;refine ao (ao (ao (aq rfl rfl ?_)));refine bS (M:=M) aC dW rfl rfl rfl (pf.le sD.le) (ar _ _) (by omega) (fun ui ai gN ib=>?_);obtain rfl:(d,ps)=ai:=bY (aG (gN.symm.trans (by simpa using hx)));exact ae ⟨rfl,rfl,_,rfl,ib,ah _ _⟩
          refine an ?_ ?_
          ·intro wD E sD;intro v9 qi;refine ao (aq rfl rfl ?_);refine aA (M:=M) (A:=RT.po) (B:=RT.int .i64) aP rfl rfl I3 (by decide) (na) rfl rfl (by decide) (show bL (RT.po) M wD v9 (d,ps)from qi) (ar _ _) (fun uf fB=>?_);exact ae ⟨rfl,rfl,_,rfl,fB,ah _ _⟩
          refine an ?_ ?_
          ·intro wD E sD;intro v10 iU;refine ao (aq rfl rfl ?_);refine bK (M:=M) aB rfl rfl (show bL (RT.int .i64) M wD v10 d from iU) (ar _ _) (fun jN=>?_);exact ae ⟨rfl,rfl,_,rfl,rfl,ah _ _⟩
          refine an ?_ ?_
          ·intro wD E sD;refine ao (ao (aq rfl rfl (dI rfl rfl rfl ?_)));exact ae ⟨rfl,rfl,_,rfl,rfl,ah _ _⟩
          refine an ?_ ?_
          ·intro wD E sD;refine ao (ao (aL rfl rfl rfl ?_));exact ae ⟨rfl,rfl,_,rfl,rfl,ah _ _⟩
          refine an ?_ ?_
          ·intro wD E sD;refine ao (ao (aj rfl rfl ?_));refine ae ⟨rfl,rfl,_,rfl,?_,ah _ _⟩;exact congrArg Value.bool (decide_eq_false vq)
          refine an ?_ ?_
          ·intro wD E sD;refine ao (aq rfl rfl (aj rfl rfl ?_));exact ae ⟨rfl,rfl,_,rfl,rfl,ah _ _⟩
          refine an ?_ ?_
          ·intro wD E sD;refine ao (ao (aq rfl rfl (hY rfl rfl rfl ?_)));exact ae ⟨rfl,rfl,_,rfl,rfl,ah _ _⟩
          refine an ?_ ?_
          ·intro wD E sD;refine ao (ao (ao (aq rfl rfl (aj rfl rfl ?_))));refine ae ⟨rfl,rfl,_,rfl,?_,ah _ _⟩;exact congrArg Value.bool (decide_eq_true yo)
          refine an ?_ ?_
          ·intro wD E sD;refine ao (aq rfl rfl (aj rfl rfl ?_));exact ae ⟨rfl,rfl,_,rfl,rfl,ah _ _⟩
          refine an ?_ ?_
          ·intro wD E sD;refine ao (aq rfl rfl (aj rfl rfl ?_));exact ae ⟨rfl,rfl,_,rfl,rfl,ah _ _⟩
          refine an ?_ ?_
          ·intro wD E sD;refine ao (ao (ao (aq rfl rfl ?_)));refine bS (M:=M) aC dW rfl rfl rfl (pf.le sD.le) (ar _ _) (by omega) (fun ui ai gN ib=>?_);obtain rfl:(d,ps)=ai:=bY (aG (gN.symm.trans (by simpa using hx)));exact ae ⟨rfl,rfl,_,rfl,ib,ah _ _⟩
          refine an ?_ ?_
          ·intro wD E sD;intro v20 yc;refine ao (aq rfl rfl ?_);refine aA (M:=M) (A:=RT.po) (B:=RT.int .i64) aP rfl rfl I3 (by decide) (na) rfl rfl (by decide) (show bL (RT.po) M wD v20 (d,ps)from yc) (ar _ _) (fun uf fB=>?_);exact ae ⟨rfl,rfl,_,rfl,fB,ah _ _⟩
          refine an ?_ ?_
          ·intro wD E sD;intro v21 uv;refine ao (aq rfl rfl ?_);refine bK (M:=M) aB rfl rfl (show bL (RT.int .i64) M wD v21 d from uv) (ar _ _) (fun jN=>?_);exact ae ⟨rfl,rfl,_,rfl,rfl,ah _ _⟩
          refine an ?_ ?_
          ·intro wD E sD;refine ao (aq rfl rfl (aj rfl rfl ?_));exact ae ⟨rfl,rfl,_,rfl,rfl,ah _ _⟩
          refine an ?_ ?_
          ·intro wD E sD;refine ao (aq rfl rfl (aj rfl rfl ?_));exact ae ⟨rfl,rfl,_,rfl,rfl,ah _ _⟩
          refine an ?_ ?_
          ·intro wD E sD;refine ao (ao (aq rfl rfl (eJ rfl rfl rfl (by omega) ?_)));exact ae ⟨rfl,rfl,_,rfl,rfl,ah _ _⟩
          refine an ?_ ?_
          ·intro wD E sD;refine ao (ao (ao (aq rfl rfl ?_)));refine bS (M:=M) aC dW rfl rfl rfl (pf.le sD.le) (ar _ _) (by omega) (fun ui ai gN ib=>?_);obtain rfl:(last,pl)=ai:=bY (aG (gN.symm.trans (by rw[show((k:Int)-1).toNat=k-1 from by omega];exact h1 (by omega))));exact ae ⟨rfl,rfl,_,rfl,ib,ah _ _⟩
          refine an ?_ ?_
          ·intro wD E sD;intro v26 Fj;refine ao (aq rfl rfl ?_);refine aA (M:=M) (A:=RT.po) (B:=RT.int .i64) aP rfl rfl I3 (by decide) (na) rfl rfl (by decide) (show bL (RT.po) M wD v26 (last,pl)from Fj) (ar _ _) (fun uf fB=>?_);exact ae ⟨rfl,rfl,_,rfl,fB,ah _ _⟩
          refine an ?_ ?_
          ·intro wD E sD;intro v27 Fk;refine ao (aq rfl rfl ?_);refine bK (M:=M) aB rfl rfl (show bL (RT.int .i64) M wD v27 last from Fk) (ar _ _) (fun jN=>?_);exact ae ⟨rfl,rfl,_,rfl,rfl,ah _ _⟩
          refine an ?_ ?_
          ·intro wD E sD;refine ao (ao (ao (aq rfl rfl (fo rfl rfl rfl ?_))));exact ae ⟨rfl,rfl,_,rfl,rfl,ah _ _⟩
          refine an ?_ ?_
          ·intro wD E sD;refine ao (ao (ao (aq rfl rfl (aR rfl rfl rfl ?_))));exact ae ⟨rfl,rfl,_,rfl,rfl,ah _ _⟩
          refine an ?_ ?_
          ·intro wD E sD;refine ao (ao (aL rfl rfl rfl ?_));exact ae ⟨rfl,rfl,_,rfl,rfl,ah _ _⟩
          refine an ?_ ?_
          ·intro wD E sD;refine ao (ao (aj rfl rfl ?_));refine ae ⟨rfl,rfl,_,rfl,?_,ah _ _⟩;exact congrArg Value.bool (decide_eq_false Gl)
          refine an ?_ ?_
          ·intro wD E sD;refine ao (aq rfl rfl (aj rfl rfl ?_));exact ae ⟨rfl,rfl,_,rfl,rfl,ah _ _⟩
          refine an ?_ ?_
          ·intro wD E sD;refine ao (aq rfl rfl (aj rfl rfl ?_));exact ae ⟨rfl,rfl,_,rfl,rfl,ah _ _⟩
          refine an ?_ ?_
          ·intro wD E sD;refine ao (ao (ao (aq rfl rfl ?_)));refine bS (M:=M) aC dW rfl rfl rfl (pf.le sD.le) (ar _ _) (by omega) (fun ui ai gN ib=>?_);obtain rfl:(d,ps)=ai:=bY (aG (gN.symm.trans (by simpa using hx)));exact ae ⟨rfl,rfl,_,rfl,ib,ah _ _⟩
          refine an ?_ ?_
          ·intro wD E sD;intro v35 yp;refine ao (aq rfl rfl ?_);refine aA (M:=M) (A:=RT.po) (B:=(RT.int .i64).sl) aP rfl rfl gT (by decide) (zr) rfl rfl (by decide) (show bL (RT.po) M wD v35 (d,ps)from yp) (ar _ _) (fun uf fB=>?_);exact ae ⟨rfl,rfl,_,rfl,fB,ah _ _⟩
          refine an ?_ ?_
          ·intro wD E sD;intro v36 yq;refine ao (aq rfl rfl ?_);refine aY (M:=M) ay rfl rfl rfl rfl rfl (show bL ((RT.int .i64).sl) M wD v36 ps from yq) (ar _ _) (fun va ke=>?_);exact ae ⟨rfl,rfl,_,rfl,ke,ah _ _⟩
          refine an ?_ ?_
          ·intro wD E sD;intro v37 yr;refine ao (aq rfl rfl (bF ay rfl (show((RT.int .i64).sl).V M wD ps v37 from yr) rfl ?_));exact ae ⟨rfl,rfl,_,rfl,rfl,ah _ _⟩
          refine an ?_ ?_
          ·intro wD E sD;refine ao (ao (aq rfl rfl (iE rfl rfl rfl ?_)));exact ae ⟨rfl,rfl,_,rfl,rfl,ah _ _⟩
          refine an ?_ ?_
          ·intro wD E sD;refine ao (ao (aL rfl rfl rfl ?_));exact ae ⟨rfl,rfl,_,rfl,rfl,ah _ _⟩
          refine an ?_ ?_
          ·intro wD E sD;refine ao (ao (aj rfl rfl ?_));refine ae ⟨rfl,rfl,_,rfl,?_,ah _ _⟩;exact congrArg Value.bool (decide_eq_false tb)
          refine an ?_ ?_
          ·intro wD E sD;refine ao (aq rfl rfl (aj rfl rfl ?_));exact ae ⟨rfl,rfl,_,rfl,rfl,ah _ _⟩
          refine an ?_ ?_
          ·intro wD E sD;refine ao (ao (aq rfl rfl (fP rfl rfl (bO (v':= .bool (decide (¬ec (-1) ps=true))) (by simp) ?_))));exact ae ⟨rfl,rfl,_,rfl,rfl,ah _ _⟩
          refine an ?_ ?_
          ·intro wD E sD;refine ao (ao (aL rfl rfl rfl ?_));exact ae ⟨rfl,rfl,_,rfl,rfl,ah _ _⟩
          refine an ?_ ?_
          ·intro wD E sD;refine ao (ao (aj rfl rfl ?_));refine ae ⟨rfl,rfl,_,rfl,?_,ah _ _⟩;exact congrArg Value.bool (decide_eq_false fN)
          refine an ?_ ?_
          ·intro wD E sD;refine ao (aq rfl rfl (aj rfl rfl ?_));exact ae ⟨rfl,rfl,_,rfl,rfl,ah _ _⟩
          refine an ?_ ?_
          ·intro wD E sD;refine ao (aq rfl rfl (aj rfl rfl ?_));exact ae ⟨rfl,rfl,_,rfl,rfl,ah _ _⟩
          refine an ?_ ?_
          ·intro wD E sD;refine ao (ao (ao (aq rfl rfl ?_)));refine bS (M:=M) aC dW rfl rfl rfl (pf.le sD.le) (ar _ _) (by omega) (fun ui ai gN ib=>?_);obtain rfl:(d,ps)=ai:=bY (aG (gN.symm.trans (by simpa using hx)));exact ae ⟨rfl,rfl,_,rfl,ib,ah _ _⟩
          refine an ?_ ?_
          ·intro wD E sD;intro Ui E3;refine ao (aq rfl rfl ?_);refine aA (M:=M) (A:=RT.po) (B:=(RT.int .i64).sl) aP rfl rfl gT (by decide) (zr) rfl rfl (by decide) (show bL (RT.po) M wD Ui (d,ps)from E3) (ar _ _) (fun uf fB=>?_);exact ae ⟨rfl,rfl,_,rfl,fB,ah _ _⟩
          refine an ?_ ?_
          ·intro wD E sD;intro v49 Tf;refine ao (aq rfl rfl ?_);refine aY (M:=M) ay rfl rfl rfl rfl rfl (show bL ((RT.int .i64).sl) M wD v49 ps from Tf) (ar _ _) (fun va ke=>?_);exact ae ⟨rfl,rfl,_,rfl,ke,ah _ _⟩
          refine an ?_ ?_
          ·intro wD E sD;refine ao (aq rfl rfl (aj rfl rfl ?_));exact ae ⟨rfl,rfl,_,rfl,rfl,ah _ _⟩
          refine an ?_ ?_
          ·intro wD E sD;refine ao (aq rfl rfl (aj rfl rfl ?_));exact ae ⟨rfl,rfl,_,rfl,rfl,ah _ _⟩
          refine an ?_ ?_
          ·intro wD E sD;refine ao (ao (ao (aq rfl rfl ?_)));refine bS (M:=M) aC dW rfl rfl rfl (pf.le sD.le) (ar _ _) (by omega) (fun ui ai gN ib=>?_);obtain rfl:(d,ps)=ai:=bY (aG (gN.symm.trans (by simpa using hx)));exact ae ⟨rfl,rfl,_,rfl,ib,ah _ _⟩
          refine an ?_ ?_
          ·intro wD E sD;intro v53 Tg;refine ao (aq rfl rfl ?_);refine aA (M:=M) (A:=RT.po) (B:=(RT.int .i64).sl) aP rfl rfl gT (by decide) (zr) rfl rfl (by decide) (show bL (RT.po) M wD v53 (d,ps)from Tg) (ar _ _) (fun uf fB=>?_);exact ae ⟨rfl,rfl,_,rfl,fB,ah _ _⟩
          refine an ?_ ?_
          ·intro wD E sD;intro v54 yf;refine ao (aq rfl rfl ?_);refine aY (M:=M) ay rfl rfl rfl rfl rfl (show bL ((RT.int .i64).sl) M wD v54 ps from yf) (ar _ _) (fun va ke=>?_);exact ae ⟨rfl,rfl,_,rfl,ke,ah _ _⟩
          refine an ?_ ?_
          ·intro wD E sD;intro v55 Lk;refine ao (aq rfl rfl (bF ay rfl (show((RT.int .i64).sl).V M wD ps v55 from Lk) rfl ?_));exact ae ⟨rfl,rfl,_,rfl,rfl,ah _ _⟩
          refine an ?_ ?_
          ·intro wD E sD;refine ao (ao (aq rfl rfl (eJ rfl rfl rfl (by omega) ?_)));exact ae ⟨rfl,rfl,_,rfl,rfl,ah _ _⟩
          refine an ?_ ?_
          ·intro wD E sD;intro v50 Lr;refine ao (ao (aq rfl rfl ?_));refine bS (M:=M) ay I3 rfl rfl rfl (show((RT.int .i64).sl).V M wD ps v50 from Lr) (ar _ _) (by omega) (fun ui ai gN ib=>?_);obtain rfl:y=ai:=bY (aG (gN.symm.trans (by rw[show((ps.length:Int)-1).toNat=ps.length-1 from by omega];exact hy)));exact ae ⟨rfl,rfl,_,rfl,ib,ah _ _⟩
          refine an ?_ ?_
          ·intro wD E sD;intro v58 Th;refine ao (aq rfl rfl ?_);refine bK (M:=M) aB rfl rfl (show bL (RT.int .i64) M wD v58 y from Th) (ar _ _) (fun jN=>?_);exact ae ⟨rfl,rfl,_,rfl,rfl,ah _ _⟩
          refine an ?_ ?_
          ·intro wD E sD;refine ao (ao (aq rfl rfl (dI rfl rfl rfl ?_)));exact ae ⟨rfl,rfl,_,rfl,rfl,ah _ _⟩
          refine an ?_ ?_
          ·intro wD E sD;refine ao (ao (aL rfl rfl rfl ?_));exact ae ⟨rfl,rfl,_,rfl,rfl,ah _ _⟩
          exact fC
         ·intro EH mw;refine ao (ao ?_);intro yS pM;intro DD vh;refine ao (ao (ao (ao (ao ?_))));intro Fi ym;intro yn rH;refine ao (ao (ao (ao (ao (ao (ao (ao (ao ?_))))))));intro LK Fl;intro LL Fm;refine ao (ao (ao (ao ?_)));intro LM Fo;intro LN Fp;refine ao (ao (ao (ao (ao (ao (ao ?_))))));intro DE yt;intro DF yu;intro DG yv;refine ao (ao (ao (ao (ao (ao (ao (ao (ao (ao ?_)))))))));intro Y2 Ti;intro Y3 Tj;intro Y4 Tk;refine ao (ao ?_);intro Y5 Tl;intro Y6 Tn;intro Y7 To;refine ao (ao ?_);intro Y8 Tp;refine ao (ao (ao ?_));refine bW rfl (fun c5=>?_) (fun c5=>?_)
          ·refine au (ak (al rfl rfl (ae (aW ?_))));refine a8 rfl rfl ⟨congrArg Value.bool (bY ?_),S4.aE mw⟩;rw[hr,eR hx]
           first
           |(rw[decide_eq_false (show¬last<d by omega)];simp;done)
           |(rw[decide_eq_false (show¬d<2147483648 by omega)];simp;done)
           |(rw[show ps=[]from cE.1 (by omega)];simp;done)
           |(rw[show dL ps=false from by unfold dL;simp only[fN,eK]];simp;done)
           |(rw[show dL ps=false from by unfold dL;rw[gj]at fN;rw[fN];rfl];simp;done)
           |(rw[DB,decide_eq_false (show¬y<2147483648 by omega)];simp;done)
          ·refine bg (ak (aj rfl rfl (bQ rfl rfl rfl (by omega) (al rfl rfl (ae ?_)))));refine⟨rfl,(k+1,d,ps),(.cons rfl (.cons rfl .nil)),?_,?_⟩
           ·refine⟨S4.aE mw,by simp only;omega,?_,by simp only;omega,fun h=>by simp at h,fun _=>by simpa using hx⟩
            have fE:ps.isEmpty=false:=by cases ps with
             |nil=>simp at tb
             |cons a t=>rfl
            have ek:last<d:=by
             by_cases MG:k=0
             ·have:=h0 MG;omega
             ·omega
            rw[hr,eR hx,decide_eq_true ek,decide_eq_true (show d<2147483648 by omega),fE,DB,decide_eq_true (show y<2147483648 by omega)];rfl
           ·simp only;omega
     ·by_cases tb:(ps.length:Int)=0
      ·apply kA (M:=M) mixed [aV.eq _,aV.eq _,aV.ptr (RT.po) (d,ps),aV.ptr (RT.int .i64) d,aV.eq (.int .i64 d),aV.eq _,aV.eq (.bool false),aV.eq _,aV.eq _,aV.ptr (RT.po) (d,ps),aV.ptr (RT.int .i64) d,aV.eq (.int .i64 d),aV.eq _,aV.eq _,aV.eq (.bool false),aV.eq _,aV.eq _,aV.eq (.bool false),aV.eq undef,aV.eq undef,aV.eq undef,aV.eq undef,aV.eq undef,aV.eq undef,aV.eq undef,aV.eq undef,aV.eq undef,aV.eq undef,aV.eq undef,aV.eq undef,aV.eq _,aV.eq _,aV.eq _,aV.eq _,aV.eq _,aV.ptr (RT.po) (d,ps),aV.ptr ((RT.int .i64).sl) ps,aV.V ((RT.int .i64).sl) ps,aV.eq _,aV.eq _,aV.eq _,aV.eq (.bool true),aV.eq undef,aV.eq undef,aV.eq _,aV.eq _,aV.eq undef,aV.eq undef,aV.eq undef,aV.eq undef,aV.eq undef,aV.eq undef,aV.eq undef,aV.eq undef,aV.eq undef,aV.eq undef,aV.eq undef,aV.eq undef,aV.eq undef,aV.eq undef,aV.eq undef,aV.eq _]
       ·rfl
       ·refine an ?_ ?_
        ·intro wD E sD;refine aj rfl rfl ?_;exact ae ⟨rfl,rfl,_,rfl,rfl,ah _ _⟩
        refine an ?_ ?_
        ·intro wD E sD;refine aj rfl rfl ?_;exact ae ⟨rfl,rfl,_,rfl,rfl,ah _ _⟩
        refine an ?_ ?_
        ·intro wD E sD;refine ao (ao ?_);refine bS (M:=M) aC dW rfl rfl rfl (pf.le sD.le) (ar _ _) (by omega) (fun ui ai gN ib=>?_);obtain rfl:(d,ps)=ai:=bY (aG (gN.symm.trans (by simpa using hx)));exact ae ⟨rfl,rfl,_,rfl,ib,ah _ _⟩
        refine an ?_ ?_
        ·intro wD E sD;intro v2 kB;refine aA (M:=M) (A:=RT.po) (B:=RT.int .i64) aP rfl rfl I3 (by decide) (na) rfl rfl (by decide) (show bL (RT.po) M wD v2 (d,ps)from kB) (ar _ _) (fun uf fB=>?_);exact ae ⟨rfl,rfl,_,rfl,fB,ah _ _⟩
        refine an ?_ ?_
        ·intro wD E sD;intro v3 lv;refine bK (M:=M) aB rfl rfl (show bL (RT.int .i64) M wD v3 d from lv) (ar _ _) (fun jN=>?_);exact ae ⟨rfl,rfl,_,rfl,rfl,ah _ _⟩
        refine an ?_ ?_
        ·intro wD E sD;refine ao (cu rfl rfl rfl ?_);exact ae ⟨rfl,rfl,_,rfl,rfl,ah _ _⟩
        refine an ?_ ?_
        ·intro wD E sD;refine ao (aj rfl rfl ?_);refine ae ⟨rfl,rfl,_,rfl,?_,ah _ _⟩;exact congrArg Value.bool (decide_eq_false Bq)
        refine an ?_ ?_
        ·intro wD E sD;refine ao (aq rfl rfl (aj rfl rfl ?_));exact ae ⟨rfl,rfl,_,rfl,rfl,ah _ _⟩
        refine an ?_ ?_
        ·intro wD E sD;refine ao (aq rfl rfl (aj rfl rfl ?_));exact ae ⟨rfl,rfl,_,rfl,rfl,ah _ _⟩
        refine an ?_ ?_
        ·intro wD E sD;refine ao (ao (ao (aq rfl rfl ?_)));refine bS (M:=M) aC dW rfl rfl rfl (pf.le sD.le) (ar _ _) (by omega) (fun ui ai gN ib=>?_);obtain rfl:(d,ps)=ai:=bY (aG (gN.symm.trans (by simpa using hx)));exact ae ⟨rfl,rfl,_,rfl,ib,ah _ _⟩
        refine an ?_ ?_
        ·intro wD E sD;intro v9 qi;refine ao (aq rfl rfl ?_);refine aA (M:=M) (A:=RT.po) (B:=RT.int .i64) aP rfl rfl I3 (by decide) (na) rfl rfl (by decide) (show bL (RT.po) M wD v9 (d,ps)from qi) (ar _ _) (fun uf fB=>?_);exact ae ⟨rfl,rfl,_,rfl,fB,ah _ _⟩
        refine an ?_ ?_
        ·intro wD E sD;intro v10 iU;refine ao (aq rfl rfl ?_);refine bK (M:=M) aB rfl rfl (show bL (RT.int .i64) M wD v10 d from iU) (ar _ _) (fun jN=>?_);exact ae ⟨rfl,rfl,_,rfl,rfl,ah _ _⟩
        refine an ?_ ?_
        ·intro wD E sD;refine ao (ao (aq rfl rfl (dI rfl rfl rfl ?_)));exact ae ⟨rfl,rfl,_,rfl,rfl,ah _ _⟩
        refine an ?_ ?_
        ·intro wD E sD;refine ao (ao (aL rfl rfl rfl ?_));exact ae ⟨rfl,rfl,_,rfl,rfl,ah _ _⟩
        refine an ?_ ?_
        ·intro wD E sD;refine ao (ao (aj rfl rfl ?_));refine ae ⟨rfl,rfl,_,rfl,?_,ah _ _⟩;exact congrArg Value.bool (decide_eq_false vq)
        refine an ?_ ?_
        ·intro wD E sD;refine ao (aq rfl rfl (aj rfl rfl ?_));exact ae ⟨rfl,rfl,_,rfl,rfl,ah _ _⟩
        refine an ?_ ?_
        ·intro wD E sD;refine ao (ao (aq rfl rfl (hY rfl rfl rfl ?_)));exact ae ⟨rfl,rfl,_,rfl,rfl,ah _ _⟩
        refine an ?_ ?_
        ·intro wD E sD;refine ao (ao (ao (aq rfl rfl (aj rfl rfl ?_))));refine ae ⟨rfl,rfl,_,rfl,?_,ah _ _⟩;exact congrArg Value.bool (decide_eq_false yo)
        refine an ?_ ?_
        ·intro wD E sD;refine ao ?_;exact aw rfl rfl rfl rfl (ae ⟨rfl,rfl,_,rfl,rfl,ah _ _⟩)
        refine an ?_ ?_
        ·intro wD E sD;refine ao ?_;exact aw rfl rfl rfl rfl (ae ⟨rfl,rfl,_,rfl,rfl,ah _ _⟩)
        refine an ?_ ?_
        ·intro wD E sD;refine ao (ao (ao ?_));exact aw rfl rfl rfl rfl (ae ⟨rfl,rfl,_,rfl,rfl,ah _ _⟩)
        refine an ?_ ?_
        ·intro wD E sD;refine ao (ao ?_);exact aw rfl rfl rfl rfl (ae ⟨rfl,rfl,_,rfl,rfl,ah _ _⟩)
        refine an ?_ ?_
        ·intro wD E sD;refine ao (ao ?_);exact aw rfl rfl rfl rfl (ae ⟨rfl,rfl,_,rfl,rfl,ah _ _⟩)
        refine an ?_ ?_
        ·intro wD E sD;refine ao ?_;exact aw rfl rfl rfl rfl (ae ⟨rfl,rfl,_,rfl,rfl,ah _ _⟩)
        refine an ?_ ?_
        ·intro wD E sD;refine ao ?_;exact aw rfl rfl rfl rfl (ae ⟨rfl,rfl,_,rfl,rfl,ah _ _⟩)
        refine an ?_ ?_
        ·intro wD E sD;refine ao (ao ?_);exact aw rfl rfl rfl rfl (ae ⟨rfl,rfl,_,rfl,rfl,ah _ _⟩)
        refine an ?_ ?_
        ·intro wD E sD;refine ao (ao (ao ?_));exact aw rfl rfl rfl rfl (ae ⟨rfl,rfl,_,rfl,rfl,ah _ _⟩)
        refine an ?_ ?_
        ·intro wD E sD;refine ao (ao ?_);exact aw rfl rfl rfl rfl (ae ⟨rfl,rfl,_,rfl,rfl,ah _ _⟩)
        refine an ?_ ?_
        ·intro wD E sD;refine ao (ao ?_);exact aw rfl rfl rfl rfl (ae ⟨rfl,rfl,_,rfl,rfl,ah _ _⟩)
        refine an ?_ ?_
        ·intro wD E sD;refine ao (ao (ao ?_));exact aw rfl rfl rfl rfl (ae ⟨rfl,rfl,_,rfl,rfl,ah _ _⟩)
        refine an ?_ ?_
        ·intro wD E sD;refine ao (ao (ao (aq rfl rfl (aL rfl rfl rfl ?_))));exact ae ⟨rfl,rfl,_,rfl,rfl,ah _ _⟩
        refine an ?_ ?_
        ·intro wD E sD;refine ao (ao (aL rfl rfl rfl ?_));exact ae ⟨rfl,rfl,_,rfl,rfl,ah _ _⟩
        refine an ?_ ?_
        ·intro wD E sD;refine ao (ao (aj rfl rfl ?_));exact ae ⟨rfl,rfl,_,rfl,rfl,ah _ _⟩
        refine an ?_ ?_
        ·intro wD E sD;refine ao (aq rfl rfl (aj rfl rfl ?_));exact ae ⟨rfl,rfl,_,rfl,rfl,ah _ _⟩
        refine an ?_ ?_
        ·intro wD E sD;refine ao (aq rfl rfl (aj rfl rfl ?_));exact ae ⟨rfl,rfl,_,rfl,rfl,ah _ _⟩
        refine an ?_ ?_
        ·intro wD E sD;refine ao (ao (ao (aq rfl rfl ?_)));refine bS (M:=M) aC dW rfl rfl rfl (pf.le sD.le) (ar _ _) (by omega) (fun ui ai gN ib=>?_);obtain rfl:(d,ps)=ai:=bY (aG (gN.symm.trans (by simpa using hx)));exact ae ⟨rfl,rfl,_,rfl,ib,ah _ _⟩
        refine an ?_ ?_
        ·intro wD E sD;intro v35 yp;refine ao (aq rfl rfl ?_);refine aA (M:=M) (A:=RT.po) (B:=(RT.int .i64).sl) aP rfl rfl gT (by decide) (zr) rfl rfl (by decide) (show bL (RT.po) M wD v35 (d,ps)from yp) (ar _ _) (fun uf fB=>?_);exact ae ⟨rfl,rfl,_,rfl,fB,ah _ _⟩
        refine an ?_ ?_
        ·intro wD E sD;intro v36 yq;refine ao (aq rfl rfl ?_);refine aY (M:=M) ay rfl rfl rfl rfl rfl (show bL ((RT.int .i64).sl) M wD v36 ps from yq) (ar _ _) (fun va ke=>?_);exact ae ⟨rfl,rfl,_,rfl,ke,ah _ _⟩
        refine an ?_ ?_
        ·intro wD E sD;intro v37 yr;refine ao (aq rfl rfl (bF ay rfl (show((RT.int .i64).sl).V M wD ps v37 from yr) rfl ?_));exact ae ⟨rfl,rfl,_,rfl,rfl,ah _ _⟩
        refine an ?_ ?_
        ·intro wD E sD;refine ao (ao (aq rfl rfl (iE rfl rfl rfl ?_)));exact ae ⟨rfl,rfl,_,rfl,rfl,ah _ _⟩
        refine an ?_ ?_
        ·intro wD E sD;refine ao (ao (aL rfl rfl rfl ?_));exact ae ⟨rfl,rfl,_,rfl,rfl,ah _ _⟩
        refine an ?_ ?_
        ·intro wD E sD;refine ao (ao (aj rfl rfl ?_));refine ae ⟨rfl,rfl,_,rfl,?_,ah _ _⟩;exact congrArg Value.bool (decide_eq_true tb)
        refine an ?_ ?_
        ·intro wD E sD;refine ao ?_;exact aw rfl rfl rfl rfl (ae ⟨rfl,rfl,_,rfl,rfl,ah _ _⟩)
        refine an ?_ ?_
        ·intro wD E sD;refine ao (ao ?_);exact aw rfl rfl rfl rfl (ae ⟨rfl,rfl,_,rfl,rfl,ah _ _⟩)
        refine an ?_ ?_
        ·intro wD E sD;refine ao (ao (aR rfl rfl rfl ?_));exact ae ⟨rfl,rfl,_,rfl,rfl,ah _ _⟩
        refine an ?_ ?_
        ·intro wD E sD;refine ao (ao (aj rfl rfl ?_));exact ae ⟨rfl,rfl,_,rfl,rfl,ah _ _⟩
        refine an ?_ ?_
        ·intro wD E sD;refine ao ?_;exact aw rfl rfl rfl rfl (ae ⟨rfl,rfl,_,rfl,rfl,ah _ _⟩)
        refine an ?_ ?_
        ·intro wD E sD;refine ao ?_;exact aw rfl rfl rfl rfl (ae ⟨rfl,rfl,_,rfl,rfl,ah _ _⟩)
        refine an ?_ ?_
        ·intro wD E sD;refine ao (ao (ao ?_));exact aw rfl rfl rfl rfl (ae ⟨rfl,rfl,_,rfl,rfl,ah _ _⟩)
        refine an ?_ ?_
        ·intro wD E sD;refine ao (ao ?_);exact aw rfl rfl rfl rfl (ae ⟨rfl,rfl,_,rfl,rfl,ah _ _⟩)
        refine an ?_ ?_
        ·intro wD E sD;refine ao (ao ?_);exact aw rfl rfl rfl rfl (ae ⟨rfl,rfl,_,rfl,rfl,ah _ _⟩)
        refine an ?_ ?_
        ·intro wD E sD;refine ao ?_;exact aw rfl rfl rfl rfl (ae ⟨rfl,rfl,_,rfl,rfl,ah _ _⟩)
        refine an ?_ ?_
        ·intro wD E sD;refine ao ?_;exact aw rfl rfl rfl rfl (ae ⟨rfl,rfl,_,rfl,rfl,ah _ _⟩)
        refine an ?_ ?_
        ·intro wD E sD;refine ao (ao (ao ?_));exact aw rfl rfl rfl rfl (ae ⟨rfl,rfl,_,rfl,rfl,ah _ _⟩)
        refine an ?_ ?_
        ·intro wD E sD;refine ao (ao ?_);exact aw rfl rfl rfl rfl (ae ⟨rfl,rfl,_,rfl,rfl,ah _ _⟩)
        refine an ?_ ?_
        ·intro wD E sD;refine ao (ao ?_);exact aw rfl rfl rfl rfl (ae ⟨rfl,rfl,_,rfl,rfl,ah _ _⟩)
        refine an ?_ ?_
        ·intro wD E sD;refine ao (ao ?_);exact aw rfl rfl rfl rfl (ae ⟨rfl,rfl,_,rfl,rfl,ah _ _⟩)
        refine an ?_ ?_
        ·intro wD E sD;refine ao (ao ?_);exact aw rfl rfl rfl rfl (ae ⟨rfl,rfl,_,rfl,rfl,ah _ _⟩)
        refine an ?_ ?_
        ·intro wD E sD;refine ao (ao (ao ?_));exact aw rfl rfl rfl rfl (ae ⟨rfl,rfl,_,rfl,rfl,ah _ _⟩)
        refine an ?_ ?_
        ·intro wD E sD;refine ao (ao ?_);exact aw rfl rfl rfl rfl (ae ⟨rfl,rfl,_,rfl,rfl,ah _ _⟩)
        refine an ?_ ?_
        ·intro wD E sD;refine ao (ao ?_);exact aw rfl rfl rfl rfl (ae ⟨rfl,rfl,_,rfl,rfl,ah _ _⟩)
        refine an ?_ ?_
        ·intro wD E sD;refine ao (ao (aR rfl rfl rfl ?_));exact ae ⟨rfl,rfl,_,rfl,rfl,ah _ _⟩
        exact fC
       ·intro EH mw;refine ao (ao ?_);intro yS pM;intro DD vh;refine ao (ao (ao (ao (ao ?_))));intro Fi ym;intro yn rH;refine ao (ao (ao (ao (ao (ao (ao (ao (ao (ao (ao (ao ?_)))))))))));refine ao (ao (ao (ao (ao (ao (ao (ao (ao (ao (ao (ao ?_)))))))))));intro DE yt;intro DF yu;intro DG yv;refine ao (ao (ao (ao (ao (ao (ao (ao (ao (ao (ao (ao ?_)))))))))));refine ao (ao (ao (ao (ao (ao (ao (ao (ao (ao (ao (ao ?_)))))))))));refine gz rfl (au (ak (al rfl rfl (ae (aW ?_)))));refine a8 rfl rfl ⟨congrArg Value.bool (bY ?_),S4.aE mw⟩;rw[hr,eR hx]
        first
        |(rw[decide_eq_false (show¬last<d by omega)];simp;done)
        |(rw[decide_eq_false (show¬d<2147483648 by omega)];simp;done)
        |(rw[show ps=[]from cE.1 (by omega)];simp;done)
        |(rw[show dL ps=false from by unfold dL;simp only[fN,eK]];simp;done)
        |(rw[show dL ps=false from by unfold dL;rw[gj]at fN;rw[fN];rfl];simp;done)
        |(rw[DB,decide_eq_false (show¬y<2147483648 by omega)];simp;done)
      ·by_cases fN: ¬ec (-1) ps=true
       ·apply kA (M:=M) mixed [aV.eq _,aV.eq _,aV.ptr (RT.po) (d,ps),aV.ptr (RT.int .i64) d,aV.eq (.int .i64 d),aV.eq _,aV.eq (.bool false),aV.eq _,aV.eq _,aV.ptr (RT.po) (d,ps),aV.ptr (RT.int .i64) d,aV.eq (.int .i64 d),aV.eq _,aV.eq _,aV.eq (.bool false),aV.eq _,aV.eq _,aV.eq (.bool false),aV.eq undef,aV.eq undef,aV.eq undef,aV.eq undef,aV.eq undef,aV.eq undef,aV.eq undef,aV.eq undef,aV.eq undef,aV.eq undef,aV.eq undef,aV.eq undef,aV.eq _,aV.eq _,aV.eq _,aV.eq _,aV.eq _,aV.ptr (RT.po) (d,ps),aV.ptr ((RT.int .i64).sl) ps,aV.V ((RT.int .i64).sl) ps,aV.eq _,aV.eq _,aV.eq _,aV.eq (.bool false),aV.eq _,aV.eq _,aV.eq _,aV.eq (.bool true),aV.eq undef,aV.eq undef,aV.eq undef,aV.eq undef,aV.eq undef,aV.eq undef,aV.eq undef,aV.eq undef,aV.eq undef,aV.eq undef,aV.eq undef,aV.eq undef,aV.eq undef,aV.eq undef,aV.eq undef,aV.eq _]
        ·rfl
        ·refine an ?_ ?_
         ·intro wD E sD;refine aj rfl rfl ?_;exact ae ⟨rfl,rfl,_,rfl,rfl,ah _ _⟩
         refine an ?_ ?_
         ·intro wD E sD;refine aj rfl rfl ?_;exact ae ⟨rfl,rfl,_,rfl,rfl,ah _ _⟩
         refine an ?_ ?_
         ·intro wD E sD;refine ao (ao ?_);refine bS (M:=M) aC dW rfl rfl rfl (pf.le sD.le) (ar _ _) (by omega) (fun ui ai gN ib=>?_);obtain rfl:(d,ps)=ai:=bY (aG (gN.symm.trans (by simpa using hx)));exact ae ⟨rfl,rfl,_,rfl,ib,ah _ _⟩
         refine an ?_ ?_
         ·intro wD E sD;intro v2 kB;refine aA (M:=M) (A:=RT.po) (B:=RT.int .i64) aP rfl rfl I3 (by decide) (na) rfl rfl (by decide) (show bL (RT.po) M wD v2 (d,ps)from kB) (ar _ _) (fun uf fB=>?_);exact ae ⟨rfl,rfl,_,rfl,fB,ah _ _⟩
         refine an ?_ ?_
         ·intro wD E sD;intro v3 lv;refine bK (M:=M) aB rfl rfl (show bL (RT.int .i64) M wD v3 d from lv) (ar _ _) (fun jN=>?_);exact ae ⟨rfl,rfl,_,rfl,rfl,ah _ _⟩
         refine an ?_ ?_
         ·intro wD E sD;refine ao (cu rfl rfl rfl ?_);exact ae ⟨rfl,rfl,_,rfl,rfl,ah _ _⟩
         refine an ?_ ?_
         ·intro wD E sD;refine ao (aj rfl rfl ?_);refine ae ⟨rfl,rfl,_,rfl,?_,ah _ _⟩;exact congrArg Value.bool (decide_eq_false Bq)
         refine an ?_ ?_
         ·intro wD E sD;refine ao (aq rfl rfl (aj rfl rfl ?_));exact ae ⟨rfl,rfl,_,rfl,rfl,ah _ _⟩
         refine an ?_ ?_
         ·intro wD E sD;refine ao (aq rfl rfl (aj rfl rfl ?_));exact ae ⟨rfl,rfl,_,rfl,rfl,ah _ _⟩
         refine an ?_ ?_
         ·intro wD E sD;refine ao (ao (ao (aq rfl rfl ?_)));refine bS (M:=M) aC dW rfl rfl rfl (pf.le sD.le) (ar _ _) (by omega) (fun ui ai gN ib=>?_);obtain rfl:(d,ps)=ai:=bY (aG (gN.symm.trans (by simpa using hx)));exact ae ⟨rfl,rfl,_,rfl,ib,ah _ _⟩
         refine an ?_ ?_
         ·intro wD E sD;intro v9 qi;refine ao (aq rfl rfl ?_);refine aA (M:=M) (A:=RT.po) (B:=RT.int .i64) aP rfl rfl I3 (by decide) (na) rfl rfl (by decide) (show bL (RT.po) M wD v9 (d,ps)from qi) (ar _ _) (fun uf fB=>?_);exact ae ⟨rfl,rfl,_,rfl,fB,ah _ _⟩
         refine an ?_ ?_
         ·intro wD E sD;intro v10 iU;refine ao (aq rfl rfl ?_);refine bK (M:=M) aB rfl rfl (show bL (RT.int .i64) M wD v10 d from iU) (ar _ _) (fun jN=>?_);exact ae ⟨rfl,rfl,_,rfl,rfl,ah _ _⟩
         refine an ?_ ?_
         ·intro wD E sD;refine ao (ao (aq rfl rfl (dI rfl rfl rfl ?_)));exact ae ⟨rfl,rfl,_,rfl,rfl,ah _ _⟩
         refine an ?_ ?_
         ·intro wD E sD;refine ao (ao (aL rfl rfl rfl ?_));exact ae ⟨rfl,rfl,_,rfl,rfl,ah _ _⟩
         refine an ?_ ?_
         ·intro wD E sD;refine ao (ao (aj rfl rfl ?_));refine ae ⟨rfl,rfl,_,rfl,?_,ah _ _⟩;exact congrArg Value.bool (decide_eq_false vq)
         refine an ?_ ?_
         ·intro wD E sD;refine ao (aq rfl rfl (aj rfl rfl ?_));exact ae ⟨rfl,rfl,_,rfl,rfl,ah _ _⟩
         refine an ?_ ?_
         ·intro wD E sD;refine ao (ao (aq rfl rfl (hY rfl rfl rfl ?_)));exact ae ⟨rfl,rfl,_,rfl,rfl,ah _ _⟩
         refine an ?_ ?_
         ·intro wD E sD;refine ao (ao (ao (aq rfl rfl (aj rfl rfl ?_))));refine ae ⟨rfl,rfl,_,rfl,?_,ah _ _⟩;exact congrArg Value.bool (decide_eq_false yo)
         refine an ?_ ?_
         ·intro wD E sD;refine ao ?_;exact aw rfl rfl rfl rfl (ae ⟨rfl,rfl,_,rfl,rfl,ah _ _⟩)
         refine an ?_ ?_
         ·intro wD E sD;refine ao ?_;exact aw rfl rfl rfl rfl (ae ⟨rfl,rfl,_,rfl,rfl,ah _ _⟩)
         refine an ?_ ?_
         ·intro wD E sD;refine ao (ao (ao ?_));exact aw rfl rfl rfl rfl (ae ⟨rfl,rfl,_,rfl,rfl,ah _ _⟩)
         refine an ?_ ?_
         ·intro wD E sD;refine ao (ao ?_);exact aw rfl rfl rfl rfl (ae ⟨rfl,rfl,_,rfl,rfl,ah _ _⟩)
         refine an ?_ ?_
         ·intro wD E sD;refine ao (ao ?_);exact aw rfl rfl rfl rfl (ae ⟨rfl,rfl,_,rfl,rfl,ah _ _⟩)
         refine an ?_ ?_
         ·intro wD E sD;refine ao ?_;exact aw rfl rfl rfl rfl (ae ⟨rfl,rfl,_,rfl,rfl,ah _ _⟩)
         refine an ?_ ?_
         ·intro wD E sD;refine ao ?_;exact aw rfl rfl rfl rfl (ae ⟨rfl,rfl,_,rfl,rfl,ah _ _⟩)
         refine an ?_ ?_
         ·intro wD E sD;refine ao (ao ?_);exact aw rfl rfl rfl rfl (ae ⟨rfl,rfl,_,rfl,rfl,ah _ _⟩)
         refine an ?_ ?_
         ·intro wD E sD;refine ao (ao (ao ?_));exact aw rfl rfl rfl rfl (ae ⟨rfl,rfl,_,rfl,rfl,ah _ _⟩)
         refine an ?_ ?_
         ·intro wD E sD;refine ao (ao ?_);exact aw rfl rfl rfl rfl (ae ⟨rfl,rfl,_,rfl,rfl,ah _ _⟩)
         refine an ?_ ?_
         ·intro wD E sD;refine ao (ao ?_);exact aw rfl rfl rfl rfl (ae ⟨rfl,rfl,_,rfl,rfl,ah _ _⟩)
         refine an ?_ ?_
         ·intro wD E sD;refine ao (ao (ao ?_));exact aw rfl rfl rfl rfl (ae ⟨rfl,rfl,_,rfl,rfl,ah _ _⟩)
         refine an ?_ ?_
         ·intro wD E sD;refine ao (ao (ao (aq rfl rfl (aL rfl rfl rfl ?_))));exact ae ⟨rfl,rfl,_,rfl,rfl,ah _ _⟩
         refine an ?_ ?_
         ·intro wD E sD;refine ao (ao (aL rfl rfl rfl ?_));exact ae ⟨rfl,rfl,_,rfl,rfl,ah _ _⟩
         refine an ?_ ?_
         ·intro wD E sD;refine ao (ao (aj rfl rfl ?_));exact ae ⟨rfl,rfl,_,rfl,rfl,ah _ _⟩
         refine an ?_ ?_
         ·intro wD E sD;refine ao (aq rfl rfl (aj rfl rfl ?_));exact ae ⟨rfl,rfl,_,rfl,rfl,ah _ _⟩
         refine an ?_ ?_
         ·intro wD E sD;refine ao (aq rfl rfl (aj rfl rfl ?_));exact ae ⟨rfl,rfl,_,rfl,rfl,ah _ _⟩
         refine an ?_ ?_
         ·intro wD E sD;refine ao (ao (ao (aq rfl rfl ?_)));refine bS (M:=M) aC dW rfl rfl rfl (pf.le sD.le) (ar _ _) (by omega) (fun ui ai gN ib=>?_);obtain rfl:(d,ps)=ai:=bY (aG (gN.symm.trans (by simpa using hx)));exact ae ⟨rfl,rfl,_,rfl,ib,ah _ _⟩
         refine an ?_ ?_
         ·intro wD E sD;intro v35 yp;refine ao (aq rfl rfl ?_);refine aA (M:=M) (A:=RT.po) (B:=(RT.int .i64).sl) aP rfl rfl gT (by decide) (zr) rfl rfl (by decide) (show bL (RT.po) M wD v35 (d,ps)from yp) (ar _ _) (fun uf fB=>?_);exact ae ⟨rfl,rfl,_,rfl,fB,ah _ _⟩
         refine an ?_ ?_
         ·intro wD E sD;intro v36 yq;refine ao (aq rfl rfl ?_);refine aY (M:=M) ay rfl rfl rfl rfl rfl (show bL ((RT.int .i64).sl) M wD v36 ps from yq) (ar _ _) (fun va ke=>?_);exact ae ⟨rfl,rfl,_,rfl,ke,ah _ _⟩
         refine an ?_ ?_
         ·intro wD E sD;intro v37 yr;refine ao (aq rfl rfl (bF ay rfl (show((RT.int .i64).sl).V M wD ps v37 from yr) rfl ?_));exact ae ⟨rfl,rfl,_,rfl,rfl,ah _ _⟩
         refine an ?_ ?_
         ·intro wD E sD;refine ao (ao (aq rfl rfl (iE rfl rfl rfl ?_)));exact ae ⟨rfl,rfl,_,rfl,rfl,ah _ _⟩
         refine an ?_ ?_
         ·intro wD E sD;refine ao (ao (aL rfl rfl rfl ?_));exact ae ⟨rfl,rfl,_,rfl,rfl,ah _ _⟩
         refine an ?_ ?_
         ·intro wD E sD;refine ao (ao (aj rfl rfl ?_));refine ae ⟨rfl,rfl,_,rfl,?_,ah _ _⟩;exact congrArg Value.bool (decide_eq_false tb)
         refine an ?_ ?_
         ·intro wD E sD;refine ao (aq rfl rfl (aj rfl rfl ?_));exact ae ⟨rfl,rfl,_,rfl,rfl,ah _ _⟩
         refine an ?_ ?_
         ·intro wD E sD;refine ao (ao (aq rfl rfl (fP rfl rfl (bO (v':= .bool (decide (¬ec (-1) ps=true))) (by simp) ?_))));exact ae ⟨rfl,rfl,_,rfl,rfl,ah _ _⟩
         refine an ?_ ?_
         ·intro wD E sD;refine ao (ao (aL rfl rfl rfl ?_));exact ae ⟨rfl,rfl,_,rfl,rfl,ah _ _⟩
         refine an ?_ ?_
         ·intro wD E sD;refine ao (ao (aj rfl rfl ?_));refine ae ⟨rfl,rfl,_,rfl,?_,ah _ _⟩;exact congrArg Value.bool (decide_eq_true fN)
         refine an ?_ ?_
         ·intro wD E sD;refine ao ?_;exact aw rfl rfl rfl rfl (ae ⟨rfl,rfl,_,rfl,rfl,ah _ _⟩)
         refine an ?_ ?_
         ·intro wD E sD;refine ao ?_;exact aw rfl rfl rfl rfl (ae ⟨rfl,rfl,_,rfl,rfl,ah _ _⟩)
         refine an ?_ ?_
         ·intro wD E sD;refine ao (ao (ao ?_));exact aw rfl rfl rfl rfl (ae ⟨rfl,rfl,_,rfl,rfl,ah _ _⟩)
         refine an ?_ ?_
         ·intro wD E sD;refine ao (ao ?_);exact aw rfl rfl rfl rfl (ae ⟨rfl,rfl,_,rfl,rfl,ah _ _⟩)
         refine an ?_ ?_
         ·intro wD E sD;refine ao (ao ?_);exact aw rfl rfl rfl rfl (ae ⟨rfl,rfl,_,rfl,rfl,ah _ _⟩)
         refine an ?_ ?_
         ·intro wD E sD;refine ao ?_;exact aw rfl rfl rfl rfl (ae ⟨rfl,rfl,_,rfl,rfl,ah _ _⟩)
         refine an ?_ ?_
         ·intro wD E sD;refine ao ?_;exact aw rfl rfl rfl rfl (ae ⟨rfl,rfl,_,rfl,rfl,ah _ _⟩)
         refine an ?_ ?_
         ·intro wD E sD;refine ao (ao (ao ?_));exact aw rfl rfl rfl rfl (ae ⟨rfl,rfl,_,rfl,rfl,ah _ _⟩)
         refine an ?_ ?_
         ·intro wD E sD;refine ao (ao ?_);exact aw rfl rfl rfl rfl (ae ⟨rfl,rfl,_,rfl,rfl,ah _ _⟩)
         refine an ?_ ?_
         ·intro wD E sD;refine ao (ao ?_);exact aw rfl rfl rfl rfl (ae ⟨rfl,rfl,_,rfl,rfl,ah _ _⟩)
         refine an ?_ ?_
         ·intro wD E sD;refine ao (ao ?_);exact aw rfl rfl rfl rfl (ae ⟨rfl,rfl,_,rfl,rfl,ah _ _⟩)
         refine an ?_ ?_
         ·intro wD E sD;refine ao (ao ?_);exact aw rfl rfl rfl rfl (ae ⟨rfl,rfl,_,rfl,rfl,ah _ _⟩)
         refine an ?_ ?_
         ·intro wD E sD;refine ao (ao (ao ?_));exact aw rfl rfl rfl rfl (ae ⟨rfl,rfl,_,rfl,rfl,ah _ _⟩)
         refine an ?_ ?_
         ·intro wD E sD;refine ao (ao ?_);exact aw rfl rfl rfl rfl (ae ⟨rfl,rfl,_,rfl,rfl,ah _ _⟩)
         refine an ?_ ?_
         ·intro wD E sD;refine ao (ao ?_);exact aw rfl rfl rfl rfl (ae ⟨rfl,rfl,_,rfl,rfl,ah _ _⟩)
         refine an ?_ ?_
         ·intro wD E sD;refine ao (ao (aR rfl rfl rfl ?_));exact ae ⟨rfl,rfl,_,rfl,rfl,ah _ _⟩
         exact fC
        ·intro EH mw;refine ao (ao ?_);intro yS pM;intro DD vh;refine ao (ao (ao (ao (ao ?_))));intro Fi ym;intro yn rH;refine ao (ao (ao (ao (ao (ao (ao (ao (ao (ao (ao (ao ?_)))))))))));refine ao (ao (ao (ao (ao (ao (ao (ao (ao (ao (ao (ao ?_)))))))))));intro DE yt;intro DF yu;intro DG yv;refine ao (ao (ao (ao (ao (ao (ao (ao (ao (ao (ao (ao ?_)))))))))));refine ao (ao (ao (ao (ao (ao (ao (ao (ao (ao (ao (ao ?_)))))))))));refine gz rfl (au (ak (al rfl rfl (ae (aW ?_)))));refine a8 rfl rfl ⟨congrArg Value.bool (bY ?_),S4.aE mw⟩;rw[hr,eR hx]
         first
         |(rw[decide_eq_false (show¬last<d by omega)];simp;done)
         |(rw[decide_eq_false (show¬d<2147483648 by omega)];simp;done)
         |(rw[show ps=[]from cE.1 (by omega)];simp;done)
         |(rw[show dL ps=false from by unfold dL;simp only[fN,eK]];simp;done)
         |(rw[show dL ps=false from by unfold dL;rw[gj]at fN;rw[fN];rfl];simp;done)
         |(rw[DB,decide_eq_false (show¬y<2147483648 by omega)];simp;done)
       ·obtain⟨y,hy⟩:∃y,ps[ps.length-1]? =some y:=⟨_,aI (by omega)⟩;have DB:=vg (cy.1 fN) hy;apply kA (M:=M) mixed [aV.eq _,aV.eq _,aV.ptr (RT.po) (d,ps),aV.ptr (RT.int .i64) d,aV.eq (.int .i64 d),aV.eq _,aV.eq (.bool false),aV.eq _,aV.eq _,aV.ptr (RT.po) (d,ps),aV.ptr (RT.int .i64) d,aV.eq (.int .i64 d),aV.eq _,aV.eq _,aV.eq (.bool false),aV.eq _,aV.eq _,aV.eq (.bool false),aV.eq undef,aV.eq undef,aV.eq undef,aV.eq undef,aV.eq undef,aV.eq undef,aV.eq undef,aV.eq undef,aV.eq undef,aV.eq undef,aV.eq undef,aV.eq undef,aV.eq _,aV.eq _,aV.eq _,aV.eq _,aV.eq _,aV.ptr (RT.po) (d,ps),aV.ptr ((RT.int .i64).sl) ps,aV.V ((RT.int .i64).sl) ps,aV.eq _,aV.eq _,aV.eq _,aV.eq (.bool false),aV.eq _,aV.eq _,aV.eq _,aV.eq (.bool false),aV.eq _,aV.eq _,aV.ptr (RT.po) (d,ps),aV.ptr ((RT.int .i64).sl) ps,aV.V ((RT.int .i64).sl) ps,aV.eq _,aV.eq _,aV.ptr (RT.po) (d,ps),aV.ptr ((RT.int .i64).sl) ps,aV.V ((RT.int .i64).sl) ps,aV.eq _,aV.eq _,aV.ptr (RT.int .i64) y,aV.eq (.int .i64 y),aV.eq _,aV.eq _]
        ·rfl
        ·refine an ?_ ?_
         ·intro wD E sD;refine aj rfl rfl ?_;exact ae ⟨rfl,rfl,_,rfl,rfl,ah _ _⟩
         refine an ?_ ?_
         ·intro wD E sD;refine aj rfl rfl ?_;exact ae ⟨rfl,rfl,_,rfl,rfl,ah _ _⟩
         refine an ?_ ?_
         ·intro wD E sD;refine ao (ao ?_);refine bS (M:=M) aC dW rfl rfl rfl (pf.le sD.le) (ar _ _) (by omega) (fun ui ai gN ib=>?_);obtain rfl:(d,ps)=ai:=bY (aG (gN.symm.trans (by simpa using hx)));exact ae ⟨rfl,rfl,_,rfl,ib,ah _ _⟩
         refine an ?_ ?_
         ·intro wD E sD;intro v2 kB;refine aA (M:=M) (A:=RT.po) (B:=RT.int .i64) aP rfl rfl I3 (by decide) (na) rfl rfl (by decide) (show bL (RT.po) M wD v2 (d,ps)from kB) (ar _ _) (fun uf fB=>?_);exact ae ⟨rfl,rfl,_,rfl,fB,ah _ _⟩
         refine an ?_ ?_
         ·intro wD E sD;intro v3 lv;refine bK (M:=M) aB rfl rfl (show bL (RT.int .i64) M wD v3 d from lv) (ar _ _) (fun jN=>?_);exact ae ⟨rfl,rfl,_,rfl,rfl,ah _ _⟩
         refine an ?_ ?_
         ·intro wD E sD;refine ao (cu rfl rfl rfl ?_);exact ae ⟨rfl,rfl,_,rfl,rfl,ah _ _⟩
         refine an ?_ ?_
         ·intro wD E sD;refine ao (aj rfl rfl ?_);refine ae ⟨rfl,rfl,_,rfl,?_,ah _ _⟩;exact congrArg Value.bool (decide_eq_false Bq)
         refine an ?_ ?_
         ·intro wD E sD;refine ao (aq rfl rfl (aj rfl rfl ?_));exact ae ⟨rfl,rfl,_,rfl,rfl,ah _ _⟩
         refine an ?_ ?_
         ·intro wD E sD;refine ao (aq rfl rfl (aj rfl rfl ?_));exact ae ⟨rfl,rfl,_,rfl,rfl,ah _ _⟩
         refine an ?_ ?_
         ·intro wD E sD;refine ao (ao (ao (aq rfl rfl ?_)));refine bS (M:=M) aC dW rfl rfl rfl (pf.le sD.le) (ar _ _) (by omega) (fun ui ai gN ib=>?_);obtain rfl:(d,ps)=ai:=bY (aG (gN.symm.trans (by simpa using hx)));exact ae ⟨rfl,rfl,_,rfl,ib,ah _ _⟩
         refine an ?_ ?_
         ·intro wD E sD;intro v9 qi;refine ao (aq rfl rfl ?_);refine aA (M:=M) (A:=RT.po) (B:=RT.int .i64) aP rfl rfl I3 (by decide) (na) rfl rfl (by decide) (show bL (RT.po) M wD v9 (d,ps)from qi) (ar _ _) (fun uf fB=>?_);exact ae ⟨rfl,rfl,_,rfl,fB,ah _ _⟩
         refine an ?_ ?_
         ·intro wD E sD;intro v10 iU;refine ao (aq rfl rfl ?_);refine bK (M:=M) aB rfl rfl (show bL (RT.int .i64) M wD v10 d from iU) (ar _ _) (fun jN=>?_);exact ae ⟨rfl,rfl,_,rfl,rfl,ah _ _⟩
         refine an ?_ ?_
         ·intro wD E sD;refine ao (ao (aq rfl rfl (dI rfl rfl rfl ?_)));exact ae ⟨rfl,rfl,_,rfl,rfl,ah _ _⟩
         refine an ?_ ?_
         ·intro wD E sD;refine ao (ao (aL rfl rfl rfl ?_));exact ae ⟨rfl,rfl,_,rfl,rfl,ah _ _⟩
         refine an ?_ ?_
         ·intro wD E sD;refine ao (ao (aj rfl rfl ?_));refine ae ⟨rfl,rfl,_,rfl,?_,ah _ _⟩;exact congrArg Value.bool (decide_eq_false vq)
         refine an ?_ ?_
         ·intro wD E sD;refine ao (aq rfl rfl (aj rfl rfl ?_));exact ae ⟨rfl,rfl,_,rfl,rfl,ah _ _⟩
         refine an ?_ ?_
         ·intro wD E sD;refine ao (ao (aq rfl rfl (hY rfl rfl rfl ?_)));exact ae ⟨rfl,rfl,_,rfl,rfl,ah _ _⟩
         refine an ?_ ?_
         ·intro wD E sD;refine ao (ao (ao (aq rfl rfl (aj rfl rfl ?_))));refine ae ⟨rfl,rfl,_,rfl,?_,ah _ _⟩;exact congrArg Value.bool (decide_eq_false yo)
         refine an ?_ ?_
         ·intro wD E sD;refine ao ?_;exact aw rfl rfl rfl rfl (ae ⟨rfl,rfl,_,rfl,rfl,ah _ _⟩)
         refine an ?_ ?_
         ·intro wD E sD;refine ao ?_;exact aw rfl rfl rfl rfl (ae ⟨rfl,rfl,_,rfl,rfl,ah _ _⟩)
         refine an ?_ ?_
         ·intro wD E sD;refine ao (ao (ao ?_));exact aw rfl rfl rfl rfl (ae ⟨rfl,rfl,_,rfl,rfl,ah _ _⟩)
         refine an ?_ ?_
         ·intro wD E sD;refine ao (ao ?_);exact aw rfl rfl rfl rfl (ae ⟨rfl,rfl,_,rfl,rfl,ah _ _⟩)
         refine an ?_ ?_
         ·intro wD E sD;refine ao (ao ?_);exact aw rfl rfl rfl rfl (ae ⟨rfl,rfl,_,rfl,rfl,ah _ _⟩)
         refine an ?_ ?_
         ·intro wD E sD;refine ao ?_;exact aw rfl rfl rfl rfl (ae ⟨rfl,rfl,_,rfl,rfl,ah _ _⟩)
         refine an ?_ ?_
         ·intro wD E sD;refine ao ?_;exact aw rfl rfl rfl rfl (ae ⟨rfl,rfl,_,rfl,rfl,ah _ _⟩)
         refine an ?_ ?_
         ·intro wD E sD;refine ao (ao ?_);exact aw rfl rfl rfl rfl (ae ⟨rfl,rfl,_,rfl,rfl,ah _ _⟩)
         refine an ?_ ?_
         ·intro wD E sD;refine ao (ao (ao ?_));exact aw rfl rfl rfl rfl (ae ⟨rfl,rfl,_,rfl,rfl,ah _ _⟩)
         refine an ?_ ?_
         ·intro wD E sD;refine ao (ao ?_);exact aw rfl rfl rfl rfl (ae ⟨rfl,rfl,_,rfl,rfl,ah _ _⟩)
         refine an ?_ ?_
         ·intro wD E sD;refine ao (ao ?_);exact aw rfl rfl rfl rfl (ae ⟨rfl,rfl,_,rfl,rfl,ah _ _⟩)
         refine an ?_ ?_
         ·intro wD E sD;refine ao (ao (ao ?_));exact aw rfl rfl rfl rfl (ae ⟨rfl,rfl,_,rfl,rfl,ah _ _⟩)
         refine an ?_ ?_
         ·intro wD E sD;refine ao (ao (ao (aq rfl rfl (aL rfl rfl rfl ?_))));exact ae ⟨rfl,rfl,_,rfl,rfl,ah _ _⟩
         refine an ?_ ?_
         ·intro wD E sD;refine ao (ao (aL rfl rfl rfl ?_));exact ae ⟨rfl,rfl,_,rfl,rfl,ah _ _⟩
         refine an ?_ ?_
         ·intro wD E sD;refine ao (ao (aj rfl rfl ?_));exact ae ⟨rfl,rfl,_,rfl,rfl,ah _ _⟩
         refine an ?_ ?_
         ·intro wD E sD;refine ao (aq rfl rfl (aj rfl rfl ?_));exact ae ⟨rfl,rfl,_,rfl,rfl,ah _ _⟩
         refine an ?_ ?_
         ·intro wD E sD;refine ao (aq rfl rfl (aj rfl rfl ?_));exact ae ⟨rfl,rfl,_,rfl,rfl,ah _ _⟩
         refine an ?_ ?_
         ·intro wD E sD;refine ao (ao (ao (aq rfl rfl ?_)));refine bS (M:=M) aC dW rfl rfl rfl (pf.le sD.le) (ar _ _) (by omega) (fun ui ai gN ib=>?_);obtain rfl:(d,ps)=ai:=bY (aG (gN.symm.trans (by simpa using hx)));exact ae ⟨rfl,rfl,_,rfl,ib,ah _ _⟩
         refine an ?_ ?_
         ·intro wD E sD;intro v35 yp;refine ao (aq rfl rfl ?_);refine aA (M:=M) (A:=RT.po) (B:=(RT.int .i64).sl) aP rfl rfl gT (by decide) (zr) rfl rfl (by decide) (show bL (RT.po) M wD v35 (d,ps)from yp) (ar _ _) (fun uf fB=>?_);exact ae ⟨rfl,rfl,_,rfl,fB,ah _ _⟩
         refine an ?_ ?_
         ·intro wD E sD;intro v36 yq;refine ao (aq rfl rfl ?_);refine aY (M:=M) ay rfl rfl rfl rfl rfl (show bL ((RT.int .i64).sl) M wD v36 ps from yq) (ar _ _) (fun va ke=>?_);exact ae ⟨rfl,rfl,_,rfl,ke,ah _ _⟩
         refine an ?_ ?_
         ·intro wD E sD;intro v37 yr;refine ao (aq rfl rfl (bF ay rfl (show((RT.int .i64).sl).V M wD ps v37 from yr) rfl ?_));exact ae ⟨rfl,rfl,_,rfl,rfl,ah _ _⟩
         refine an ?_ ?_
         ·intro wD E sD;refine ao (ao (aq rfl rfl (iE rfl rfl rfl ?_)));exact ae ⟨rfl,rfl,_,rfl,rfl,ah _ _⟩
         refine an ?_ ?_
         ·intro wD E sD;refine ao (ao (aL rfl rfl rfl ?_));exact ae ⟨rfl,rfl,_,rfl,rfl,ah _ _⟩
         refine an ?_ ?_
         ·intro wD E sD;refine ao (ao (aj rfl rfl ?_));refine ae ⟨rfl,rfl,_,rfl,?_,ah _ _⟩;exact congrArg Value.bool (decide_eq_false tb)
         refine an ?_ ?_
         ·intro wD E sD;refine ao (aq rfl rfl (aj rfl rfl ?_));exact ae ⟨rfl,rfl,_,rfl,rfl,ah _ _⟩
         refine an ?_ ?_
         ·intro wD E sD;refine ao (ao (aq rfl rfl (fP rfl rfl (bO (v':= .bool (decide (¬ec (-1) ps=true))) (by simp) ?_))));exact ae ⟨rfl,rfl,_,rfl,rfl,ah _ _⟩
         refine an ?_ ?_
         ·intro wD E sD;refine ao (ao (aL rfl rfl rfl ?_));exact ae ⟨rfl,rfl,_,rfl,rfl,ah _ _⟩
         refine an ?_ ?_
         ·intro wD E sD;refine ao (ao (aj rfl rfl ?_));refine ae ⟨rfl,rfl,_,rfl,?_,ah _ _⟩;exact congrArg Value.bool (decide_eq_false fN)
         refine an ?_ ?_
         ·intro wD E sD;refine ao (aq rfl rfl (aj rfl rfl ?_));exact ae ⟨rfl,rfl,_,rfl,rfl,ah _ _⟩
         refine an ?_ ?_
         ·intro wD E sD;refine ao (aq rfl rfl (aj rfl rfl ?_));exact ae ⟨rfl,rfl,_,rfl,rfl,ah _ _⟩
         refine an ?_ ?_
         ·intro wD E sD;refine ao (ao (ao (aq rfl rfl ?_)));refine bS (M:=M) aC dW rfl rfl rfl (pf.le sD.le) (ar _ _) (by omega) (fun ui ai gN ib=>?_);obtain rfl:(d,ps)=ai:=bY (aG (gN.symm.trans (by simpa using hx)));exact ae ⟨rfl,rfl,_,rfl,ib,ah _ _⟩
         refine an ?_ ?_
         ·intro wD E sD;intro Ui E3;refine ao (aq rfl rfl ?_);refine aA (M:=M) (A:=RT.po) (B:=(RT.int .i64).sl) aP rfl rfl gT (by decide) (zr) rfl rfl (by decide) (show bL (RT.po) M wD Ui (d,ps)from E3) (ar _ _) (fun uf fB=>?_);exact ae ⟨rfl,rfl,_,rfl,fB,ah _ _⟩
         refine an ?_ ?_
         ·intro wD E sD;intro v49 Tf;refine ao (aq rfl rfl ?_);refine aY (M:=M) ay rfl rfl rfl rfl rfl (show bL ((RT.int .i64).sl) M wD v49 ps from Tf) (ar _ _) (fun va ke=>?_);exact ae ⟨rfl,rfl,_,rfl,ke,ah _ _⟩
         refine an ?_ ?_
         ·intro wD E sD;refine ao (aq rfl rfl (aj rfl rfl ?_));exact ae ⟨rfl,rfl,_,rfl,rfl,ah _ _⟩
         refine an ?_ ?_
         ·intro wD E sD;refine ao (aq rfl rfl (aj rfl rfl ?_));exact ae ⟨rfl,rfl,_,rfl,rfl,ah _ _⟩
         refine an ?_ ?_
         ·intro wD E sD;refine ao (ao (ao (aq rfl rfl ?_)));refine bS (M:=M) aC dW rfl rfl rfl (pf.le sD.le) (ar _ _) (by omega) (fun ui ai gN ib=>?_);obtain rfl:(d,ps)=ai:=bY (aG (gN.symm.trans (by simpa using hx)));exact ae ⟨rfl,rfl,_,rfl,ib,ah _ _⟩
         refine an ?_ ?_
         ·intro wD E sD;intro v53 Tg;refine ao (aq rfl rfl ?_);refine aA (M:=M) (A:=RT.po) (B:=(RT.int .i64).sl) aP rfl rfl gT (by decide) (zr) rfl rfl (by decide) (show bL (RT.po) M wD v53 (d,ps)from Tg) (ar _ _) (fun uf fB=>?_);exact ae ⟨rfl,rfl,_,rfl,fB,ah _ _⟩
         refine an ?_ ?_
         ·intro wD E sD;intro v54 yf;refine ao (aq rfl rfl ?_);refine aY (M:=M) ay rfl rfl rfl rfl rfl (show bL ((RT.int .i64).sl) M wD v54 ps from yf) (ar _ _) (fun va ke=>?_);exact ae ⟨rfl,rfl,_,rfl,ke,ah _ _⟩
         refine an ?_ ?_
         ·intro wD E sD;intro v55 Lk;refine ao (aq rfl rfl (bF ay rfl (show((RT.int .i64).sl).V M wD ps v55 from Lk) rfl ?_));exact ae ⟨rfl,rfl,_,rfl,rfl,ah _ _⟩
         refine an ?_ ?_
         ·intro wD E sD;refine ao (ao (aq rfl rfl (eJ rfl rfl rfl (by omega) ?_)));exact ae ⟨rfl,rfl,_,rfl,rfl,ah _ _⟩
         refine an ?_ ?_
         ·intro wD E sD;intro v50 Lr;refine ao (ao (aq rfl rfl ?_));refine bS (M:=M) ay I3 rfl rfl rfl (show((RT.int .i64).sl).V M wD ps v50 from Lr) (ar _ _) (by omega) (fun ui ai gN ib=>?_);obtain rfl:y=ai:=bY (aG (gN.symm.trans (by rw[show((ps.length:Int)-1).toNat=ps.length-1 from by omega];exact hy)));exact ae ⟨rfl,rfl,_,rfl,ib,ah _ _⟩
         refine an ?_ ?_
         ·intro wD E sD;intro v58 Th;refine ao (aq rfl rfl ?_);refine bK (M:=M) aB rfl rfl (show bL (RT.int .i64) M wD v58 y from Th) (ar _ _) (fun jN=>?_);exact ae ⟨rfl,rfl,_,rfl,rfl,ah _ _⟩
         refine an ?_ ?_
         ·intro wD E sD;refine ao (ao (aq rfl rfl (dI rfl rfl rfl ?_)));exact ae ⟨rfl,rfl,_,rfl,rfl,ah _ _⟩
         refine an ?_ ?_
         ·intro wD E sD;refine ao (ao (aL rfl rfl rfl ?_));exact ae ⟨rfl,rfl,_,rfl,rfl,ah _ _⟩
         exact fC
        ·intro EH mw;refine ao (ao ?_);intro yS pM;intro DD vh;refine ao (ao (ao (ao (ao ?_))));intro Fi ym;intro yn rH;refine ao (ao (ao (ao (ao (ao (ao (ao (ao (ao (ao (ao ?_)))))))))));refine ao (ao (ao (ao (ao (ao (ao (ao (ao (ao (ao (ao ?_)))))))))));intro DE yt;intro DF yu;intro DG yv;refine ao (ao (ao (ao (ao (ao (ao (ao (ao (ao ?_)))))))));intro Y2 Ti;intro Y3 Tj;intro Y4 Tk;refine ao (ao ?_);intro Y5 Tl;intro Y6 Tn;intro Y7 To;refine ao (ao ?_);intro Y8 Tp;refine ao (ao (ao ?_));refine bW rfl (fun c5=>?_) (fun c5=>?_)
         ·refine au (ak (al rfl rfl (ae (aW ?_))));refine a8 rfl rfl ⟨congrArg Value.bool (bY ?_),S4.aE mw⟩;rw[hr,eR hx]
          first
          |(rw[decide_eq_false (show¬last<d by omega)];simp;done)
          |(rw[decide_eq_false (show¬d<2147483648 by omega)];simp;done)
          |(rw[show ps=[]from cE.1 (by omega)];simp;done)
          |(rw[show dL ps=false from by unfold dL;simp only[fN,eK]];simp;done)
          |(rw[show dL ps=false from by unfold dL;rw[gj]at fN;rw[fN];rfl];simp;done)
          |(rw[DB,decide_eq_false (show¬y<2147483648 by omega)];simp;done)
         ·refine bg (ak (aj rfl rfl (bQ rfl rfl rfl (by omega) (al rfl rfl (ae ?_)))));refine⟨rfl,(k+1,d,ps),(.cons rfl (.cons rfl .nil)),?_,?_⟩
          ·refine⟨S4.aE mw,by simp only;omega,?_,by simp only;omega,fun h=>by simp at h,fun _=>by simpa using hx⟩
           have fE:ps.isEmpty=false:=by cases ps with
            |nil=>simp at tb
            |cons a t=>rfl
           have ek:last<d:=by
            by_cases MG:k=0
            ·have:=h0 MG;omega
            ·omega
           rw[hr,eR hx,decide_eq_true ek,decide_eq_true (show d<2147483648 by omega),fE,DB,decide_eq_true (show y<2147483648 by omega)];rfl
          ·simp only;omega
  ·refine cP (au (ak (al rfl rfl (ae (aW ?_)))));refine a8 rfl rfl ⟨congrArg Value.bool (bY ?_),S⟩;rw[hr,dy (by omega)];rfl
end Go.K
namespace Go.K
open Go.Proofs
namespace TKMksE
theorem my:TI Tryz.prog 56 (.slice none 0 0) 1 24:=by unfold TI;kernel_rfl
theorem fX:TI Tryz.prog 107 (.slice none 0 0) 1 24:=by unfold TI;kernel_rfl
theorem E98:Enters Tryz.prog 98:=enters Tryz.func98 rfl (by decide)
theorem E99:Enters Tryz.prog 99:=enters Tryz.func99 rfl (by decide)
theorem agK:Enters Tryz.prog 100:=enters Tryz.func100 rfl (by decide)
end TKMksE
open TKMksE
set_option maxRecDepth 10000
theorem Fq {M:aU} {p:Pa} {v0:Value} (w0:World) (hM:Lt M w0) (hp:RT.pa.V M w0 p v0):
  Spec Tryz.prog 44 #[v0] w0 (fun v w=>v= .bool (jJ p)∧Step M w0 M w aN):=by
 have fZ:=hM;refine bE (args:=[_]) (fn:=Tryz.f44) Tryz.func44 rfl (n:=72) Tryz.ntmps44 ?_;have S:Step M w0 M w0 aN:=(ah _ _).cD (fun _ h=>h.elim) (fun _ h=>h.elim);refine au (ak ?_);refine eG (A:=RT.pa) (a:=p) rfl rfl hM hp rfl (fun u1 Pr eW oJ _=>?_);replace hp:=hp.le oJ.le;replace hM:=oJ.lt hM;have:=S.size;replace S:=S.aE oJ;refine al rfl rfl (ae (au (ak ?_)));refine aA (M:=M) (A:=RT.pa) (B:=((RT.int .i64).sl)) aO rfl rfl gT (by decide) Ey rfl rfl (by decide) eW (ar _ _) (fun OC yR=>?_);refine aY (M:=M) ay rfl rfl rfl rfl rfl yR (ar _ _) (fun v11 sH=>?_);refine aS rfl rfl E98 (xI hM sH) (fun r1 w1 hc=>?_);obtain⟨rfl,s1⟩:=hc;replace eW:=eW.le (by decide) s1.le;replace hM:=s1.lt hM;have:=S.size;replace S:=S.aE s1;refine al rfl rfl (ae (au (ak ?_)));refine aA (M:=M) (A:=RT.pa) (B:=(RT.str.sl)) aO rfl rfl ph (by decide) Ez rfl rfl (by decide) eW (ar _ _) (fun u20 LA=>?_);refine aY (M:=M) aJ rfl rfl rfl rfl rfl LA (ar _ _) (fun v21 uv=>?_);refine aS rfl rfl E99 (DC _ hM uv) (fun r2 w2 hc=>?_);obtain⟨rfl,s2⟩:=hc;replace eW:=eW.le (by decide) s2.le;replace hM:=s2.lt hM;have:=S.size;replace S:=S.aE s2;refine al rfl rfl (ae (au (au (ak ?_))));refine aA (M:=M) (A:=RT.pa) (B:=((RT.int .i64).sl)) aO rfl rfl gT (by decide) DL rfl rfl (by decide) eW (ar _ _) (fun u30 LB=>?_);refine aY (M:=M) ay rfl rfl rfl rfl rfl LB (ar _ _) (fun v31 LC=>?_);refine bF ay rfl LC rfl ?_;refine aA (M:=M) (A:=RT.pa) (B:=((RT.int .i64).sl)) aO rfl rfl gT (by decide) Ey rfl rfl (by decide) eW (ar _ _) (fun u33 agL=>?_);refine aY (M:=M) ay rfl rfl rfl rfl rfl agL (ar _ _) (fun v34 agM=>?_)
 refine bF ay rfl agM rfl (eC rfl rfl rfl (aj rfl rfl ?_));refine aZ (g:=21) rfl (fun KL=>?_) (fun KL=>?_)
 ·refine aw rfl rfl rfl rfl (aw rfl rfl rfl rfl (aw rfl rfl rfl rfl (aw rfl rfl rfl rfl (aw rfl rfl rfl rfl (aw rfl rfl rfl rfl (aw rfl rfl rfl rfl (aR rfl rfl rfl (aj rfl rfl (aw rfl rfl rfl rfl (aw rfl rfl rfl rfl (aR rfl rfl rfl ?_)))))))))));refine aj rfl rfl (aw rfl rfl rfl rfl (aw rfl rfl rfl rfl (aR rfl rfl rfl (ae (gz rfl (au (ak (al rfl rfl (ae (aW ?_))))))))));refine a8 rfl rfl ⟨congrArg Value.bool (bY ?_),S⟩;unfold jJ
  first
  |(rw[decide_eq_false (show¬p.1.length=p.2.1.length by omega)];simp;done)
  |(rw[decide_eq_false (show¬p.2.2.1.length=p.2.2.2.length by omega)];simp;done)
  |(simp[c3];done)
  |(simp[Ah];done)
 ·refine aq rfl rfl ?_;refine aA (M:=M) (A:=RT.pa) (B:=(RT.str.sl)) aO rfl rfl ph (by decide) Ez rfl rfl (by decide) eW (ar _ _) (fun u38 agN=>?_);refine aq rfl rfl ?_;refine aY (M:=M) aJ rfl rfl rfl rfl rfl agN (ar _ _) (fun v39 agO=>?_);refine aq rfl rfl (bF aJ rfl agO rfl (aq rfl rfl ?_));refine aA (M:=M) (A:=RT.pa) (B:=(((RT.po).sl).sl)) aO rfl rfl my (by decide) A5 rfl rfl (by decide) eW (ar _ _) (fun aoV Y9=>?_);refine aq rfl rfl ?_;refine aY (M:=M) bH rfl rfl rfl rfl rfl Y9 (ar _ _) (fun aoW Za=>?_);refine aq rfl rfl (bF bH rfl Za rfl (aq rfl rfl (eC rfl rfl rfl (aL rfl rfl rfl (aj rfl rfl ?_)))));refine aZ (g:=30) rfl (fun Zb=>?_) (fun Zb=>?_)
  ·refine aw rfl rfl rfl rfl (aw rfl rfl rfl rfl (aR rfl rfl rfl (aj rfl rfl (aw rfl rfl rfl rfl (aw rfl rfl rfl rfl (aR rfl rfl rfl (ae (gz rfl (au (ak (al rfl rfl ?_)))))))))));refine ae (aW ?_);refine a8 rfl rfl ⟨congrArg Value.bool (bY ?_),S⟩;unfold jJ
   first
   |(rw[decide_eq_false (show¬p.1.length=p.2.1.length by omega)];simp;done)
   |(rw[decide_eq_false (show¬p.2.2.1.length=p.2.2.2.length by omega)];simp;done)
   |(simp[c3];done)
   |(simp[Ah];done)
  ·refine aq rfl rfl (aj rfl rfl (aq rfl rfl (fP rfl rfl (bO (v':= .bool (decide (¬ec (-1) p.2.1=true))) (by simp) (aL rfl rfl rfl (aj rfl rfl ?_))))));refine aZ (g:=34) rfl (fun Ah=>?_) (fun Ah=>?_)
   ·refine aw rfl rfl rfl rfl (aw rfl rfl rfl rfl (aR rfl rfl rfl (ae (gz rfl (au (ak (al rfl rfl (ae (aW ?_)))))))));refine a8 rfl rfl ⟨congrArg Value.bool (bY ?_),S⟩;unfold jJ
    first
    |(rw[decide_eq_false (show¬p.1.length=p.2.1.length by omega)];simp;done)
    |(rw[decide_eq_false (show¬p.2.2.1.length=p.2.2.2.length by omega)];simp;done)
    |(simp[c3];done)
    |(simp[Ah];done)
   ·refine aq rfl rfl (aj rfl rfl (aq rfl rfl (fP rfl rfl (bO (v':= .bool (decide (¬tp none p.2.2.1=true))) (by simp) (aL rfl rfl rfl (ae ?_))))));refine bW rfl (fun c3=>?_) (fun c3=>?_)
    ·refine au (ak (al rfl rfl (ae (aW ?_))));refine a8 rfl rfl ⟨congrArg Value.bool (bY ?_),S⟩;unfold jJ
     first
     |(rw[decide_eq_false (show¬p.1.length=p.2.1.length by omega)];simp;done)
     |(rw[decide_eq_false (show¬p.2.2.1.length=p.2.2.2.length by omega)];simp;done)
     |(simp[c3];done)
     |(simp[Ah];done)
    ·refine bg (au (au (ak (al rfl rfl (ae (bu ?_))))));refine de (σ:=Nat) (fun i=>[(1,u1),(5,.int .i64 (i:Int))]) (fun i w=>Step M w0 M w aN∧bL RT.pa M w u1 p∧i≤p.2.2.2.length∧∀y∈p.2.2.2.take i,iq (p.1.length:Int) y=false) (fun i=>p.2.2.2.length-i) 0 (.cons rfl (.cons rfl .nil)) ?_ ?_
     ·exact⟨S,eW,bM _,fun y h=>by simp at h⟩
     ·clear S eW hM;rintro i w ⟨S,eW,hi,LO⟩;have hM:=S.lt fZ;refine au (au (ak (aj rfl rfl ?_)));refine aA (M:=M) (A:=RT.pa) (B:=(((RT.po).sl).sl)) aO rfl rfl my (by decide) A5 rfl rfl (by decide) eW (ar _ _) (fun u61 Tq=>?_);refine aY (M:=M) bH rfl rfl rfl rfl rfl Tq (ar _ _) (fun v62 N7=>?_);have Gz:=dr N7;refine bF bH rfl N7 rfl (cu rfl rfl rfl (ae ?_));refine bW rfl (fun c6=>?_) (fun c6=>?_)
      ·refine bg (au (bu (au (ak ?_))));obtain⟨x,ow⟩:∃x,p.2.2.2[i]? =some x:=⟨_,aI (by omega)⟩;refine aA (M:=M) (A:=RT.pa) (B:=(((RT.po).sl).sl)) aO rfl rfl my (by decide) A5 rfl rfl (by decide) eW (ar _ _) (fun u80 agP=>?_);refine aY (M:=M) bH rfl rfl rfl rfl rfl agP (ar _ _) (fun v81 E4=>?_);refine aj rfl rfl ?_;refine bS (M:=M) bH fX rfl rfl rfl E4 (ar _ _) (by omega) (fun u83 x_ fy agQ=>?_);rw[aK]at fy;obtain rfl:=aG (ow.symm.trans fy);refine aY (M:=M) aC rfl rfl rfl rfl rfl agQ (ar _ _) (fun v84 Br=>?_);have wk:=dr Br;refine al rfl rfl (ae (au (ak (aj rfl rfl ?_))));refine aS rfl rfl agK (Fh hM Br) (fun r9 w9 hc=>?_);obtain⟨rfl,s9⟩:=hc;replace eW:=eW.le (by decide) s9.le;replace Br:=Br.le s9.le;replace hM:=s9.lt hM;have:=S.size;replace S:=S.aE s9;refine al rfl rfl (ae (au ?_));apply kz mixed rfl rfl;intro Yp SK;have zb:=SK M;replace eW:=eW.le (by decide) zb.le;replace Br:=Br.le zb.le;replace hM:=zb.lt hM;have:=S.size;replace S:=S.aE zb;refine aj rfl rfl ?_;refine ae ⟨rfl,rfl,rfl,?_⟩;refine fP rfl rfl (bO (v':= .bool (decide (¬dH (-1) x=true))) (by simp) ?_);refine ae ⟨rfl,rfl,rfl,?_⟩;refine aj rfl rfl ?_;refine ae ⟨rfl,rfl,rfl,?_⟩;refine aZ (g:=54) rfl (fun yw=>?_) (fun yw=>?_)
       ·refine aw rfl rfl rfl rfl ?_;refine ae ⟨rfl,rfl,rfl,?_⟩;refine aw rfl rfl rfl rfl ?_;refine ae ⟨rfl,rfl,rfl,?_⟩;refine aw rfl rfl rfl rfl ?_;refine ae ⟨rfl,rfl,rfl,?_⟩;refine aR rfl rfl rfl ?_;refine ae ⟨rfl,rfl,rfl,?_⟩;refine aj rfl rfl ?_;refine ae ⟨rfl,rfl,rfl,?_⟩;refine aw rfl rfl rfl rfl ?_;refine ae ⟨rfl,rfl,rfl,?_⟩;refine aw rfl rfl rfl rfl ?_;refine ae ⟨rfl,rfl,rfl,?_⟩;refine aw rfl rfl rfl rfl ?_;refine ae ⟨rfl,rfl,rfl,?_⟩;refine aw rfl rfl rfl rfl ?_;refine ae ⟨rfl,rfl,rfl,?_⟩;refine aw rfl rfl rfl rfl ?_;refine ae ⟨rfl,rfl,rfl,?_⟩;refine aw rfl rfl rfl rfl ?_;refine ae ⟨rfl,rfl,rfl,?_⟩;refine aw rfl rfl rfl rfl ?_;refine ae ⟨rfl,rfl,rfl,?_⟩;refine aw rfl rfl rfl rfl ?_;refine ae ⟨rfl,rfl,rfl,?_⟩;refine aw rfl rfl rfl rfl ?_;refine ae ⟨rfl,rfl,rfl,?_⟩;refine aw rfl rfl rfl rfl ?_;refine ae ⟨rfl,rfl,rfl,?_⟩;refine aw rfl rfl rfl rfl ?_;refine ae ⟨rfl,rfl,rfl,?_⟩;refine aR rfl rfl rfl ?_;refine ae ⟨rfl,rfl,rfl,?_⟩;refine dv (gz rfl (au (ak (al rfl rfl (ae (aW ?_))))));refine a8 rfl rfl ⟨congrArg Value.bool (bY ?_),S⟩
        have hb:iq (p.1.length:Int) x=true:=by
         unfold iq
         first
         |(simp[yw];done)
         |(rw[cE.1 (show x.length=0 by omega)];simp;done)
         |(rw[nN qG,decide_eq_true (show(p.1.length:Int)≤y.1 by omega)];simp;done)
        have:p.2.2.2.all (fun x=> !iq (p.1.length:Int) x)=false:=qX.2 ⟨x,aQ ow,by simp[hb]⟩;unfold jJ;simp[this]
       ·refine aq rfl rfl (aj rfl rfl ?_);refine ae ⟨rfl,rfl,rfl,?_⟩;refine aq rfl rfl (bF aC rfl Br rfl ?_);refine ae ⟨rfl,rfl,rfl,?_⟩;refine aq rfl rfl (iE rfl rfl rfl ?_);refine ae ⟨rfl,rfl,rfl,?_⟩;refine aL rfl rfl rfl ?_;refine ae ⟨rfl,rfl,rfl,?_⟩;refine aj rfl rfl ?_;refine ae ⟨rfl,rfl,rfl,?_⟩;refine aZ (g:=59) rfl (fun Px=>?_) (fun Px=>?_)
        ·refine aw rfl rfl rfl rfl ?_;refine ae ⟨rfl,rfl,rfl,?_⟩;refine aw rfl rfl rfl rfl ?_;refine ae ⟨rfl,rfl,rfl,?_⟩;refine aw rfl rfl rfl rfl ?_;refine ae ⟨rfl,rfl,rfl,?_⟩;refine aw rfl rfl rfl rfl ?_;refine ae ⟨rfl,rfl,rfl,?_⟩;refine aw rfl rfl rfl rfl ?_;refine ae ⟨rfl,rfl,rfl,?_⟩;refine aw rfl rfl rfl rfl ?_;refine ae ⟨rfl,rfl,rfl,?_⟩;refine aw rfl rfl rfl rfl ?_;refine ae ⟨rfl,rfl,rfl,?_⟩;refine aw rfl rfl rfl rfl ?_;refine ae ⟨rfl,rfl,rfl,?_⟩;refine aw rfl rfl rfl rfl ?_;refine ae ⟨rfl,rfl,rfl,?_⟩;refine aw rfl rfl rfl rfl ?_;refine ae ⟨rfl,rfl,rfl,?_⟩;refine aw rfl rfl rfl rfl ?_;refine ae ⟨rfl,rfl,rfl,?_⟩;refine aR rfl rfl rfl ?_;refine ae ⟨rfl,rfl,rfl,?_⟩;refine dv (gz rfl (au (ak (al rfl rfl (ae (aW ?_))))));refine a8 rfl rfl ⟨congrArg Value.bool (bY ?_),S⟩
         have hb:iq (p.1.length:Int) x=true:=by
          unfold iq
          first
          |(simp[yw];done)
          |(rw[cE.1 (show x.length=0 by omega)];simp;done)
          |(rw[nN qG,decide_eq_true (show(p.1.length:Int)≤y.1 by omega)];simp;done)
         have:p.2.2.2.all (fun x=> !iq (p.1.length:Int) x)=false:=qX.2 ⟨x,aQ ow,by simp[hb]⟩;unfold jJ;simp[this]
        ·refine aq rfl rfl (aj rfl rfl ?_);refine ae ⟨rfl,rfl,rfl,?_⟩;refine aq rfl rfl (aj rfl rfl ?_);refine ae ⟨rfl,rfl,rfl,?_⟩;refine aq rfl rfl (bF aC rfl Br rfl ?_);refine ae ⟨rfl,rfl,rfl,?_⟩;refine aq rfl rfl (eJ rfl rfl rfl (by omega) ?_);refine ae ⟨rfl,rfl,rfl,?_⟩;refine aq rfl rfl ?_;obtain⟨y,qG⟩:∃y,x[x.length-1]? =some y:=⟨_,aI (by omega)⟩;refine bS (M:=M) aC dW rfl rfl rfl Br (ar _ _) (by omega) (fun aj2 x_ fy Tr=>?_);rw[show((x.length:Int)-1).toNat=x.length-1 from by omega]at fy;obtain rfl:=aG (qG.symm.trans fy);refine ae ⟨rfl,rfl,rfl,?_⟩;refine aq rfl rfl ?_;refine aA (M:=M) (A:=RT.po) (B:=RT.int .i64) aP rfl rfl I3 (by decide) na rfl rfl (by decide) Tr (ar _ _) (fun aj3 Ts=>?_);refine ae ⟨rfl,rfl,rfl,?_⟩;refine aq rfl rfl ?_;refine bK (M:=M) aB rfl rfl Ts (ar _ _) (fun aay=>?_);refine bO (v':= .int .i64 y.1) rfl ?_;refine ae ⟨rfl,rfl,rfl,?_⟩;refine aq rfl rfl ?_;refine aA (M:=M) (A:=RT.pa) (B:=((RT.int .i64).sl)) aO rfl rfl gT (by decide) DL rfl rfl (by decide) eW (ar _ _) (fun aj4 Tt=>?_);refine ae ⟨rfl,rfl,rfl,?_⟩;refine aq rfl rfl ?_;refine aY (M:=M) ay rfl rfl rfl rfl rfl Tt (ar _ _) (fun aj5 Tu=>?_);refine ae ⟨rfl,rfl,rfl,?_⟩;refine aq rfl rfl (bF ay rfl Tu rfl ?_);refine ae ⟨rfl,rfl,rfl,?_⟩;refine aq rfl rfl (dI rfl rfl rfl ?_);refine ae ⟨rfl,rfl,rfl,?_⟩;refine aL rfl rfl rfl ?_;refine ae ⟨rfl,rfl,rfl,?_⟩;refine dv ?_;refine bW rfl (fun HS=>?_) (fun HS=>?_)
         ·refine au (ak (al rfl rfl (ae (aW ?_))));refine a8 rfl rfl ⟨congrArg Value.bool (bY ?_),S⟩
          have hb:iq (p.1.length:Int) x=true:=by
           unfold iq
           first
           |(simp[yw];done)
           |(rw[cE.1 (show x.length=0 by omega)];simp;done)
           |(rw[nN qG,decide_eq_true (show(p.1.length:Int)≤y.1 by omega)];simp;done)
          have:p.2.2.2.all (fun x=> !iq (p.1.length:Int) x)=false:=qX.2 ⟨x,aQ ow,by simp[hb]⟩;unfold jJ;simp[this]
         ·refine bg (ak (aj rfl rfl (bQ rfl rfl rfl (by omega) (al rfl rfl (ae ?_)))));refine⟨rfl,i+1,(.cons rfl (.cons rfl .nil)),?_,?_⟩
          ·exact⟨S,eW,by omega,fun z hz=>by
            rw[bX,ow,cq]at hz;rcases dE.1 hz with hz|hz
            ·exact LO z hz
            ·rw[cT.1 hz];unfold iq;rw[cy.1 yw,nN qG,decide_eq_false HS]
             cases x with
             |nil=>simp at Px
             |cons a t=>rfl⟩
          ·omega
      ·refine cP (au (ak (al rfl rfl (ae (aW ?_)))));rw[bm (by omega)]at LO;refine a8 rfl rfl ⟨congrArg Value.bool (bY ?_),S⟩;unfold jJ;rw[decide_eq_true (show p.1.length=p.2.1.length by omega),decide_eq_true (show p.2.2.1.length=p.2.2.2.length by omega),cy.1 Ah,cy.1 c3,eh.2 (fun x hx=>by simp[LO x hx])];rfl
end Go.K
namespace Go.K
open Go.Proofs
namespace TKSegO
theorem Zc:Enters Tryz.prog 139:=enters Tryz.func139 rfl (by decide)
end TKSegO
open TKSegO
set_option maxRecDepth 10000
theorem Bs {M:aU} {w0:World} {v:Value} {l:List Po} (hM:Lt M w0) (hv:((RT.po).sl).V M w0 l v) (jb:dH (-1) l=true) (nY:∀p∈l,p.2.length≤1099511627776) (yZ:(dw (-1) l).length≤35184372088832):
  Spec Tryz.prog 91 #[v] w0 (fun v' w'=>Step M w0 M w' aN∧(RT.u8.sl).V M w' (dw (-1) l) v'):=by
 have hlen:=dr hv;refine bE (args:=[_]) (fn:=Tryz.f91) Tryz.func91 rfl (n:=41) Tryz.ntmps91 (au (ak (al rfl rfl (ae (au (ak (al rfl rfl (ae (au (au (ak ?_)))))))))));refine al rfl rfl (ae (bu ?_));refine de (σ:=Nat×Value) (fun s=>[(0,v),(3,s.2),(4,.int .i64 s.1)]) (fun s w=>s.1≤l.length∧∃M1,Lt M1 w∧Step M w0 M1 w aN∧Own RT.u8 5 M1 w w0.heap.size s.2 (dw (-1) (l.take s.1))) (fun s=>l.length-s.1) (0,_) (.cons rfl (.cons rfl (.cons rfl .nil))) ?_ ?_
 ·exact⟨bM _,M,hM,ah _ _,dO _ _ _ _ _⟩
 ·rintro⟨k,u0⟩ w1 ⟨hk,M1,nL,S,ho⟩;dsimp only at hk ho ⊢;refine au (au (ak (aj rfl rfl (aj rfl rfl (bF aC rfl hv rfl (cu rfl rfl rfl (ae ?_)))))));refine bW rfl (fun c3=>?_) (fun c3=>?_)
  ·refine bg (au (bu (au (ak (aj rfl rfl (aj rfl rfl ?_))))));obtain⟨⟨d,ps⟩,hx⟩:∃x,(l)[k]? =some x:=⟨_,aI (by omega)⟩;refine bS (M:=M1) aC dW rfl rfl rfl (hv.le S.le) (ar _ _) (by first|omega|decide) (fun Ry rA Kx pZ=>?_);obtain rfl:(d,ps)=rA:=bY (aG (Kx.symm.trans (by simpa using hx)));obtain⟨f1,f2,f3,f4,f5,f6⟩:=l9 jb hx;have e2:=congrArg List.length (ma (-1) hx);simp only[bP]at e2;have e3:=k8 l (k+1);have b7:=(j0 l (-1) jb (by decide) k).1;refine aA (M:=M1) (A:=RT.po) (B:=RT.int .i64) aP rfl rfl I3 (by decide) (na) rfl rfl (by decide) (by assumption) (by repeat (first|exact ar _ _|refine aT (bh (by assumption)) ?_)) (fun Vo Cb=>?_);refine bK (M:=M1) aB rfl rfl (by assumption) (by repeat (first|exact ar _ _|refine aT (bh (by assumption)) ?_)) (fun Py=>?_);refine bO (v':= .int .i64 (d)) rfl ?_;replace Py: -9223372036854775808≤(d:Int)∧d≤9223372036854775807:=Py;refine al rfl rfl (ae (au (au (ak (aj rfl rfl (hY rfl rfl rfl (ae ?_)))))));refine bW rfl (fun c6=>?_) (fun c6=>?_)
   ·obtain⟨⟨e,qs⟩,hy⟩:∃x,l[k-1]? =some x:=⟨_,aI (by omega)⟩;obtain⟨_,b2,_,_,Ou,b6⟩:=l9 jb hy;rw[show k-1+1=k from by omega]at Ou;refine ak (aj rfl rfl (aj rfl rfl (aj rfl rfl (eJ rfl rfl rfl (by omega) ?_))));refine bS (M:=M1) aC dW rfl rfl rfl (hv.le S.le) (ar _ _) (by first|omega|decide) (fun VO agR Zd OE=>?_);obtain rfl:(e,qs)=agR:=bY (aG (Zd.symm.trans (by rw[show((k:Int)-1).toNat=k-1 from by omega];exact hy)));refine aA (M:=M1) (A:=RT.po) (B:=RT.int .i64) aP rfl rfl I3 (by decide) (na) rfl rfl (by decide) (by assumption) (by repeat (first|exact ar _ _|refine aT (bh (by assumption)) ?_)) (fun aoZ aj6=>?_);refine bK (M:=M1) aB rfl rfl (by assumption) (by repeat (first|exact ar _ _|refine aT (bh (by assumption)) ?_)) (fun Pz=>?_);refine bO (v':= .int .i64 (e)) rfl ?_;replace Pz: -9223372036854775808≤(e:Int)∧e≤9223372036854775807:=Pz;refine eJ rfl rfl rfl (by omega) (eJ rfl rfl rfl (by omega) (al rfl rfl (ae (au (ak (aj rfl rfl (aj rfl rfl (bO (v':= .int .i64 (((d-cH (-1) (l.take k)-1).toNat:Nat):Int)) (by congr 1;rw[Ou]at f1 ⊢;omega) ?_))))))));refine aS rfl rfl IM (qo (M:=M1) nL (by omega)) (fun u w2 h=>?_);obtain⟨s2,hu⟩:=h;refine cz (M:=M1) (base:=w0.heap.size) bz I5 rfl rfl rfl rfl (ho.bC s2) hu (ar _ _) (by omega) (by omega) (dJ S.size s2.size) (fun v3 M3 w3 ud s3=>?_);have S3:=(S.aE s2).cJ s3 (ho.bC s2) (bw _);have RH:=s3.lt (s2.lt nL);refine al rfl rfl (ae (ak (aj rfl rfl (aj rfl rfl (aj rfl rfl ?_)))));refine bS (M:=M3) aC dW rfl rfl rfl (hv.le S3.le) (ar _ _) (by first|omega|decide) (fun Vj Tv LP Ca=>?_);obtain rfl:(d,ps)=Tv:=bY (aG (LP.symm.trans (by simpa using hx)))
    refine aA (M:=M3) (A:=RT.po) (B:=(RT.int .i64).sl) aP rfl rfl gT (by decide) (zr) rfl rfl (by decide) (by assumption) (by repeat (first|exact ar _ _|refine aT (bh (by assumption)) ?_)) (fun D5 Ch=>?_);refine aY (M:=M3) ay rfl rfl rfl rfl rfl (by assumption) (by repeat (first|exact ar _ _|refine aT (bh (by assumption)) ?_)) (fun NU uV=>?_);replace uV:((RT.int .i64).sl).V M3 _ ps NU:=uV;refine aS rfl rfl Zc (oX (M:=M3) RH uV (je.1 f4).1 (nY _ (aQ hx))) (fun u4 w4 h=>?_);obtain⟨s4,iM⟩:=h;refine cz (M:=M3) (base:=w0.heap.size) bz I5 rfl rfl rfl rfl (ud.bC s4) iM (ar _ _) (by simp only[bP];omega) (by simp only[bP];omega) (dJ S3.size s4.size) (fun v5 M5 w5 Uk s5=>?_);have S5:=(S3.aE s4).cJ s5 (ud.bC s4) (bw _);have hM5:=s5.lt (s4.lt RH);refine al rfl rfl (ae (ak (aj rfl rfl (bQ rfl rfl rfl (by omega) (al rfl rfl (ae ?_))))));refine⟨rfl,(k+1,v5),(.cons rfl (.cons rfl (.cons rfl .nil))),?_,?_⟩
    ·refine⟨by simp only;omega,M5,hM5,S5,?_⟩;simp only;rw[ma (-1) hx];exact Uk
    ·simp only;omega
   ·have Ou:cH (-1) (l.take k)= -1:=by rw[show k=0 from by omega];rfl
    refine bg (au (ak (aj rfl rfl (aj rfl rfl (bO (v':= .int .i64 (((d-cH (-1) (l.take k)-1).toNat:Nat):Int)) (by congr 1;rw[Ou]at f1 ⊢;omega) ?_)))));refine aS rfl rfl IM (qo (M:=M1) nL (by omega)) (fun u w2 h=>?_);obtain⟨s2,hu⟩:=h;refine cz (M:=M1) (base:=w0.heap.size) bz I5 rfl rfl rfl rfl (ho.bC s2) hu (ar _ _) (by omega) (by omega) (dJ S.size s2.size) (fun v3 M3 w3 ud s3=>?_);have S3:=(S.aE s2).cJ s3 (ho.bC s2) (bw _);have RH:=s3.lt (s2.lt nL);refine al rfl rfl (ae (ak (aj rfl rfl (aj rfl rfl (aj rfl rfl ?_)))));refine bS (M:=M3) aC dW rfl rfl rfl (hv.le S3.le) (ar _ _) (by first|omega|decide) (fun Vj Tv LP Ca=>?_);obtain rfl:(d,ps)=Tv:=bY (aG (LP.symm.trans (by simpa using hx)));refine aA (M:=M3) (A:=RT.po) (B:=(RT.int .i64).sl) aP rfl rfl gT (by decide) (zr) rfl rfl (by decide) (by assumption) (by repeat (first|exact ar _ _|refine aT (bh (by assumption)) ?_)) (fun D5 Ch=>?_);refine aY (M:=M3) ay rfl rfl rfl rfl rfl (by assumption) (by repeat (first|exact ar _ _|refine aT (bh (by assumption)) ?_)) (fun NU uV=>?_);replace uV:((RT.int .i64).sl).V M3 _ ps NU:=uV;refine aS rfl rfl Zc (oX (M:=M3) RH uV (je.1 f4).1 (nY _ (aQ hx))) (fun u4 w4 h=>?_);obtain⟨s4,iM⟩:=h;refine cz (M:=M3) (base:=w0.heap.size) bz I5 rfl rfl rfl rfl (ud.bC s4) iM (ar _ _) (by simp only[bP];omega) (by simp only[bP];omega) (dJ S3.size s4.size) (fun v5 M5 w5 Uk s5=>?_);have S5:=(S3.aE s4).cJ s5 (ud.bC s4) (bw _);have hM5:=s5.lt (s4.lt RH);refine al rfl rfl (ae (ak (aj rfl rfl (bQ rfl rfl rfl (by omega) (al rfl rfl (ae ?_))))))
    refine⟨rfl,(k+1,v5),(.cons rfl (.cons rfl (.cons rfl .nil))),?_,?_⟩
    ·refine⟨by simp only;omega,M5,hM5,S5,?_⟩;simp only;rw[ma (-1) hx];exact Uk
    ·simp only;omega
  ·refine cP (au (ak (aj rfl rfl (al rfl rfl (ae (aW ?_))))));refine a8 rfl rfl ⟨S.back,?_⟩;rw[bm (by omega)]at ho;exact fQ hM S ho (by omega)
end Go.K
namespace Go.K
open Go.Proofs
namespace TKSegP
theorem vF:TI Tryz.prog 123 (.pointer none) 1 8:=by unfold TI;kernel_rfl
theorem XE:Enters Tryz.prog 78:=enters Tryz.func78 rfl (by decide)
theorem KZ:Enters Tryz.prog 129:=enters Tryz.func129 rfl (by decide)
theorem agT:Enters Tryz.prog 142:=enters Tryz.func142 rfl (by decide)
end TKSegP
open TKSegP
set_option maxRecDepth 10000
structure LQ (T:TypeId) (M:aU) (w0:World) (bo bi bd D:Nat) (vd:Value) (MQ:aU) (wQ:World) (st:Loop) (n:Int) (M':aU) (w:World):Prop where
 lt:Lt M' w
 S:Step M w0 M' w aN
 o:w.heap[bo]? =some (.cells #[.int .i64 n] T (0,0))
 mo:M' bo
 r:w.heap[D+1]? =some (.loop st)
 mr:M' (D+1)
 d:w.heap[D]? =some (.deferred (some []))
 md:M' D
 gi:w.heap[bi]? =some (.cells #[.int .i64 0] 3 (0,0))
 gd:w.heap[bd]? =some (.cells #[vd] 123 (0,0))
 fi: ¬M' bi
 fd: ¬M' bd
 z:w0.heap.size≤bo∧w0.heap.size≤D
 k:Le MQ wQ M' w
section
variable {T:TypeId} {M M1 M2 MQ:aU} {w0 w w' wQ:World} {bo bi bd D:Nat} {vd:Value} {st:Loop} {n:Int}
theorem LQ.bC (h:LQ T M w0 bo bi bd D vd MQ wQ st n M1 w) (s:Step M1 w M2 w' aN):LQ T M w0 bo bi bd D vd MQ wQ st n M2 w':=
 ⟨s.lt h.lt,h.S.aE s,s.aX h.o,(s.mem _ (av h.o)).2 h.mo,s.aX h.r,(s.mem _ (av h.r)).2 h.mr,s.aX h.d,(s.mem _ (av h.d)).2 h.md,s.aX h.gi,s.aX h.gd,fun hn=>h.fi ((s.mem _ (av h.gi)).1 hn),fun hn=>h.fd ((s.mem _ (av h.gd)).1 hn),h.z,h.k.trans s.le⟩
theorem LQ.mn {st':Loop} (h:LQ T M w0 bo bi bd D vd MQ wQ st n M1 w):LQ T M w0 bo bi bd D vd MQ wQ st' n M1 (w.putObj (D+1) (.loop st')):=by
 have s:Step M1 w M1 (w.putObj (D+1) (.loop st')) (fun k=>k=D+1):=ef h.mr;obtain⟨z1,z2⟩:=h.z;exact⟨s.lt h.lt,h.S.db s (fun k (hk:k=D+1)=>by omega),s.b9 h.o (fun(hn:bo=D+1)=>by have h1:=h.o;rw[hn,h.r]at h1;cases h1),h.mo,vu (av h.r),h.mr,s.b9 h.d (fun(hn:D=D+1)=>by omega),h.md,s.b9 h.gi (fun(hn:bi=D+1)=>by have h1:=h.gi;rw[hn,h.r]at h1;cases h1),s.b9 h.gd (fun(hn:bd=D+1)=>by have h1:=h.gd;rw[hn,h.r]at h1;cases h1),h.fi,h.fd,h.z,h.k.trans s.le⟩
theorem LQ.put {n':Int} (h:LQ T M w0 bo bi bd D vd MQ wQ st n M1 w) (s:Step M1 w M1 w' (fun k=>k=bo)) (hx:w'.heap[bo]? =some (.cells #[.int .i64 n'] T (0,0))):LQ T M w0 bo bi bd D vd MQ wQ st n' M1 w':=by
 obtain⟨z1,z2⟩:=h.z;exact⟨s.lt h.lt,h.S.db s (fun k (hk:k=bo)=>by omega),hx,h.mo,s.b9 h.r (fun(hn:D+1=bo)=>by have h1:=h.o;rw[←hn,h.r]at h1;cases h1),h.mr,s.b9 h.d (fun(hn:D=bo)=>by have h1:=h.o;rw[←hn,h.d]at h1;cases h1),h.md,s.b9 h.gi (fun(hn:bi=bo)=>h.fi (hn▸h.mo)),s.b9 h.gd (fun(hn:bd=bo)=>h.fd (hn▸h.mo)),h.fi,h.fd,h.z,h.k.trans s.le⟩
end
theorem agU {T:TypeId} {M M1:aU} {w0 w:World} {bo bi bd:Nat} {vd:Value} {st:Loop} (hM:Lt M1 w) (S:Step M w0 M1 w aN) (go:w.heap[bo]? =some (.cells #[.int .i64 0] T (0,0))) (mo:M1 bo) (gi:w.heap[bi]? =some (.cells #[.int .i64 0] 3 (0,0))) (gd:w.heap[bd]? =some (.cells #[vd] 123 (0,0))) (fi: ¬M1 bi) (fd: ¬M1 bd) (Hu:w0.heap.size≤bo):
  ∃M',LQ T M w0 bo bi bd w.heap.size vd M1 w st 0 M' ((w.alloc (.deferred (some []))).alloc (.loop st)):=by
 have sA:Step M1 w (ins M1 w.heap.size) (w.alloc (.deferred (some []))) aN:=(dA M1 w _).own (bw _) (by simp);have sB:Step (ins M1 w.heap.size) (w.alloc (.deferred (some []))) (ins (ins M1 w.heap.size) (w.heap.size+1)) ((w.alloc (.deferred (some []))).alloc (.loop st)) aN:=(dA _ _ _).own (by simp) (by simp);have hD:(w.alloc (.deferred (some []))).heap[w.heap.size]? =some (.deferred (some [])):=cO w _;have hR:((w.alloc (.deferred (some []))).alloc (.loop st)).heap[w.heap.size+1]? =some (.loop st):=by have:=cO (w.alloc (.deferred (some []))) (.loop st);rwa [yH]at this
 have SS:=(S.aE sA).aE sB;have hi:=av gi;have hd:=av gd;refine⟨_,sB.lt (sA.lt hM),SS,sB.aX (sA.aX go),.inr (.inr mo),hR,.inl rfl,sB.aX hD,.inr (.inl rfl),sB.aX (sA.aX gi),sB.aX (sA.aX gd),?_,?_,⟨Hu,S.size⟩,sA.le.trans sB.le⟩
 ·rintro(h|h|h)
  ·omega
  ·omega
  ·exact fi h
 ·rintro(h|h|h)
  ·omega
  ·omega
  ·exact fd h
def lF (ls:List (List Po)):Int:=(ls.map fun l=>((dw (-1) l).length:Int)).sum
theorem Ai {ls:List (List Po)} {i:Nat} {l:List Po} (h:ls[i]? =some l):lF (ls.take (i+1))=lF (ls.take i)+((dw (-1) l).length:Int):=by
 unfold lF;rw[bX,h,cq,dF,List.sum_append];simp
theorem vS:∀ls:List (List Po),0≤lF ls
 |[]=>by simp[lF]
 |l::ls=>by have:=vS ls;unfold lF at this ⊢;rw[eO,List.sum_cons];omega
theorem Aj (ls:List (List Po)) (i:Nat):lF (ls.take i)≤lF ls:=by
 have e:lF ls=lF (ls.take i)+lF (ls.drop i):=by unfold lF;rw[←List.sum_append,←dF,td]
 have:=vS (ls.drop i);omega
theorem DH {M:aU} {s:Se} {ls:List (List Po)} {v0:Value} (w0:World) (hM:Lt M w0) (hs:bL RT.se M w0 v0 s) (ok:N5 s ls) (Ze:lF ls≤4611686018427387904):
  Spec Tryz.prog 97 #[v0] w0 (fun v w=>v= .int .i64 (lF ls)∧Step M w0 M w aN):=by
 have fZ:=hM;refine nz (args:=[_]) (fn:=Tryz.f97) Tryz.func97 rfl (n:=19) Tryz.ntmps97 ?_;have S:Step M w0 M w0 aN:=(ah _ _).cD (fun _ h=>h.elim) (fun _ h=>h.elim);refine au (ak (al rfl rfl (ae (au (ak ?_)))));refine eu M I3 rfl (fun fv vz G1 I6 fU jQ=>?_);obtain⟨eY,ji⟩:∃M',M'=ins M fv:=⟨_,rfl⟩;rw[←ji]at jQ;have eL:eY fv:=by rw[ji];exact .inl rfl
 change vz.heap[fv]? =some (.cells #[.int .i64 0] _ _)at fU;replace hM:=jQ.lt hM;have:=S.size;replace S:=S.aE jQ;refine cw (M:=eY) I3 rfl rfl fU rfl (rfl) eL (fun Ha tX o6=>?_);change Ha.heap[_]? =some (Obj.cells #[.int .i64 0] _ _)at tX;have:=av fU;replace eL:=(o6.mem _ this).2 eL;replace hM:=o6.lt hM;have:=S.size;replace S:=S.trans o6 (fun k hk h=>by have h:_=_:=h;subst h;first|(exfalso;omega)|(show _≤_;omega)|exact⟨by first|omega|assumption,(S.mem _ hk).1 ((o6.mem _ (av fU)).1 eL)⟩|exact .inl rfl|exact .inr rfl|exact .inr (.inl rfl)|exact .inr (.inr rfl)|exact rfl);have pR:=tX;clear fU;have fU:=pR;clear pR;refine ae (au (au (ak ?_)));have YB:bL RT.se eY Ha v0 s:=(hs.le (by decide) jQ.le).le (by decide) o6.le;have gq:=fU;have Uj:=eL;have Hu:=G1;clear fU eL;refine aj rfl rfl (bJ rfl YB.fA rfl ?_);refine aA (M:=eY) (A:=RT.se) (B:=(RT.di).ptr) eH rfl rfl vF (by decide) Q1 rfl rfl (by decide) YB (ar _ _) (fun KC hG=>?_);refine aY (M:=eY) eI rfl rfl rfl rfl rfl hG (ar _ _) (fun vd K3=>?_);have YC:=pW.1 K3;refine aS rfl rfl XE (uh (M:=eY) _ hM YC) (fun r2 w2 hc=>?_);obtain⟨bi,bd,rfl,gi,gd,hbi,hbd,s2⟩:=hc;have fi: ¬eY bi:=fun h=>by have:=hM _ h;omega
 have fd: ¬eY bd:=fun h=>by have:=hM _ h;omega
 replace gq:=s2.aX gq;replace hM:=s2.lt hM;have:=S.size;replace S:=S.aE s2;refine ae (bu ?_);refine T.range (gf:=129) (lb:=[.pointer (some ⟨bi,0,none⟩),.pointer (some ⟨bd,0,none⟩)].toArray) rfl KZ (fun rec mZ=>?_);obtain⟨D,hD⟩:∃D,D=w2.heap.size:=⟨_,rfl⟩;obtain⟨Mr,h0⟩:=agU (st:=rec .ready none) hM S gq Uj gi gd fi fd Hu;rw[←hD]at mZ h0 ⊢;have Gr:bL RT.di (fun b=>eY b∨w2.heap.size≤b) w2 vd s.2.2:=(YC.le (by decide) s2.le).le (by decide) (Le.wide eY w2);refine Spec.mono (rF (wv:=w2) (M:=fun b=>eY b∨w2.heap.size≤b) (J:=fun i w=>∃M',LQ 3 M w0 fv bi bd D vd eY w2 (rec .ready none) (lF (ls.take i)) M' w) (Jx:=fun _=>False) _ Gr (by rw[ok.hls,cr];exact ok.hdl) (fun i w w' ⟨M',h⟩ s=>⟨M',h.bC (s.any M')⟩) (fun i w ⟨M',h⟩=>⟨h.gi,h.gd,h.k.fixed⟩) (fun i wr x t vt hJ hx ht hp=>?_) ⟨Mr,h0⟩) (fun _ w3 h3=>?_)
 ·obtain⟨M',h⟩:=hJ;obtain⟨l,Fa,rfl⟩:∃l,ls[i]? =some l∧iA l=t:=by rw[ok.hls,gG]at ht;exact lz.1 ht
  refine lT (ps:=[11,12]) (vs:=[sv x,vt]) mZ h.r rfl (by decide) (ak (al rfl rfl (ae ?_)));refine⟨rfl,h.r,?_⟩;have h4:=h.mn (st':=rec .busy none);have s4:Step M' wr M' (wr.putObj (D+1) (.loop (rec .busy none))) (fun k=>k=D+1):=ef h.mr;have BH:=(hp.le (by decide) h.k.out).le (by decide) s4.le;generalize wr.putObj (D+1) _=w4 at h4 s4 BH ⊢;have hM:=h4.lt;have S:=h4.S;have Ic:=Ai Fa;have DO:=Aj ls (i+1);have XQ:=vS (ls.take i);refine bu ?_;apply nr 2 [0] 2 aN mixed rfl rfl rfl rfl;intro HX Ke;have lE:=Ke (M');replace hM:=lE.lt hM;have:=S.size;replace S:=S.aE lE;replace h4:=h4.bC lE;refine br aB rfl rfl rfl h4.o rfl (bO (v':= .int .i64 (lF (ls.take i))) rfl ?_);refine ae ⟨rfl,rfl,rfl,?_⟩;refine aj rfl rfl ?_;refine ae ⟨rfl,rfl,rfl,?_⟩;refine dv ?_;refine⟨eA ⟨dx rfl h4.o (fun h=>h),trivial⟩,?_⟩;have kp:=eX aN HX;refine aS rfl rfl agT (EK (M:=M') (BH.le (by decide) lE.le) h4.lt) (fun r5 w5 hc=>?_);obtain⟨mI,s5⟩:=hc;replace h4:=h4.bC s5;refine(fun(kp:eg _ _ _)=>ae ⟨rfl,rfl,fun _=>kp,?_⟩) (by first|exact kp|exact kp.mY (by assumption)|exact kp.goN (by assumption)|exact kp.go (by assumption) (fun _ _ h=>by first|exact h|exact h.elim));refine bF bz rfl mI rfl (bO (v':= .int .i64 ((dw (-1) l).length:Int)) rfl ?_);refine(fun(kp:eg _ _ _)=>ae ⟨rfl,rfl,fun _=>kp,?_⟩) (by first|exact kp|exact kp.mY (by assumption)|exact kp.goN (by assumption)|exact kp.go (by assumption) (fun _ _ h=>by first|exact h|exact h.elim));refine bQ rfl rfl rfl (by omega) ?_;refine ae ⟨rfl,rfl,fun h=>absurd rfl h,?_⟩;refine cw (M:=M') I3 rfl rfl h4.o rfl rfl h4.mo (fun w8 g8 s8=>?_);replace g8:w8.heap[fv]? =some (.cells #[.int .i64 (lF (ls.take i)+((dw (-1) l).length:Int))] 3 (0,0)):=g8;refine ae ⟨rfl,rfl,fun h=>absurd rfl h,?_⟩;refine gX ?_;have h8:=(h4.put s8 g8).mn (st':=rec .ready none)
  exact⟨(h4.put s8 g8).r,true,rfl,fun _=>⟨M',by rw[Ic];exact h8⟩,fun h=>by cases h⟩
 ·obtain⟨M',h⟩:=h3.resolve_right id;left;refine⟨h.r,?_⟩;have h5:=h.mn (st':=rec .exhausted none);generalize w3.putObj (D+1) _=wE at h5 ⊢;refine au (ak ?_);rw[bm (Nat.le_of_eq ok.hdl.symm)]at h5;refine br aB rfl rfl rfl h5.o rfl (bO (v':= .int .i64 (lF ls)) rfl (al rfl rfl (ae (aW ?_))));have sZ:Step M' wE M' (wE.putObj D (.deferred none)) (fun k=>k=D):=ef h5.md;have hz:=h5.z;have hS:=h5.S.db sZ (fun k (hk:k=D)=>by omega);exact AA rfl rfl h5.d ⟨rfl,hS.back⟩
end Go.K
namespace Go.K
open Go.Proofs
namespace TKSegQ
theorem my:TI Tryz.prog 56 (.slice none 0 0) 1 24:=by unfold TI;kernel_rfl
theorem qP:TI Tryz.prog 62 (.agg #[(.slice none 0 0),(.slice none 0 0),(.slice none 0 0),(.slice none 0 0)]) 4 96:=by unfold TI;kernel_rfl
theorem fX:TI Tryz.prog 107 (.slice none 0 0) 1 24:=by unfold TI;kernel_rfl
theorem vF:TI Tryz.prog 123 (.pointer none) 1 8:=by unfold TI;kernel_rfl
theorem B62:placesOf Tryz.prog 62=[(0,1),(1,1),(2,1),(3,1)].map some:=by kernel_rfl
theorem XG:Enters Tryz.prog 73:=enters Tryz.func73 rfl (by decide)
theorem E79:Enters Tryz.prog 79:=enters Tryz.func79 rfl (by decide)
end TKSegQ
open TKSegQ
set_option maxRecDepth 10000
theorem yx {M:aU} {t:Fd} (w0:World) (hM:Lt M w0) (h1:t.1.length≤140737488355328) (h2:t.2.length≤140737488355328):
  Spec Tryz.prog 94 #[kv t] w0 (fun v w=>v= .string ⟨(dm t).toArray⟩∧Step M w0 M w aN):=by
 refine bE (args:=[_]) (fn:=Tryz.f94) Tryz.func94 rfl (n:=9) Tryz.ntmps94 ?_;have S:Step M w0 M w0 aN:=(ah _ _).cD (fun _ h=>h.elim) (fun _ h=>h.elim);refine au (ak ?_);refine eG (A:=RT.fd) rfl rfl hM (ru (by omega) (by omega)) rfl (fun u0 w1 cQ s0 _=>?_);replace hM:=s0.lt hM;have:=S.size;replace S:=S.aE s0;refine al rfl rfl (ae (au (ak ?_)));refine aA (M:=M) (A:=RT.fd) (B:=RT.str) bG rfl rfl I9 (by decide) (G3) rfl rfl (by decide) (by assumption) (by repeat (first|exact ar _ _|refine aT (bh (by assumption)) ?_)) (fun tU jR=>?_);refine aY (M:=M) aM rfl rfl rfl rfl rfl jR (ar _ _) (fun v1 ti=>?_);obtain rfl:=dQ ti;refine Rg.cat (p:=t.1) (q:=[0]) rfl rfl rfl (by simp;omega) ?_;refine aA (M:=M) (A:=RT.fd) (B:=RT.str) bG rfl rfl I9 (by decide) (Oz) rfl rfl (by decide) (by assumption) (by repeat (first|exact ar _ _|refine aT (bh (by assumption)) ?_)) (fun G0 jh=>?_);refine aY (M:=M) aM rfl rfl rfl rfl rfl jh (ar _ _) (fun v4 oQ=>?_);obtain rfl:=dQ oQ;refine Rg.cat (p:=t.1++[0]) (q:=t.2) rfl rfl rfl (by simp;omega) (al rfl rfl (ae (aW ?_)));exact a8 rfl rfl ⟨rfl,S⟩
theorem yy {M:aU} {s:Se} {ls:List (List Po)} {k:List UInt8} {v0:Value} (w0:World) (hM:Lt M w0) (hs:bL RT.se M w0 v0 s) (nP:vR s.2.2.1) (ok:N5 s ls):
  Spec Tryz.prog 92 #[v0,sv k] w0 (fun v w=>(RT.po.sl).V M w (sL s.2.2.1 ls k) v∧Step M w0 M w aN):=by
 refine bE (args:=[_,_]) (fn:=Tryz.f92) Tryz.func92 rfl (n:=20) Tryz.ntmps92 ?_;have S:Step M w0 M w0 aN:=(ah _ _).cD (fun _ h=>h.elim) (fun _ h=>h.elim);refine au (ak (al rfl rfl (ae (au (ak (aj rfl rfl (bJ rfl hs.fA rfl ?_)))))));refine aA (M:=M) (A:=RT.se) (B:=(RT.di).ptr) eH rfl rfl vF (by decide) Q1 rfl rfl (by decide) hs (ar _ _) (fun CP mQ=>?_);refine aY (M:=M) eI rfl rfl rfl rfl rfl mQ (ar _ _) (fun vd K3=>?_);refine aj rfl rfl ?_;refine aS rfl rfl XG (find_spec (k:=k) _ hM (pW.1 K3) nP (by rw[ok.hls,cr];exact ok.hdl)) (fun r6 w6 hc=>?_);obtain⟨s6,hr⟩:=hc
 obtain⟨p,rfl,hF⟩:∃p,r6= .tuple #[p,.bool (decide (k∈s.2.2.1))]∧mV s.2.2 k M p w6:=by
  rcases hr with⟨j,p,tl,rfl,h3,h4,h5⟩|⟨rfl,h3⟩
  ·exact⟨p,by rw[decide_eq_true (aQ h3)],.inl ⟨j,tl,h3,h4,h5⟩⟩
  ·exact⟨_,by rw[decide_eq_false h3],.inr ⟨rfl,h3⟩⟩
 replace hM:=s6.lt hM;have:=S.size;replace S:=S.aE s6;refine aj rfl rfl (b5 rfl rfl rfl (b5 rfl rfl rfl (al rfl rfl (al rfl rfl (ae (au (au (ak (aj rfl rfl (fP rfl rfl (bO (v':= .bool (decide (k∉s.2.2.1))) (by simp) ?_)))))))))));refine ae ?_;refine bW rfl (fun c2=>?_) (fun c2=>?_)
 ·refine au (ak (al rfl rfl (ae (aW ?_))));exact a8 rfl rfl ⟨by rw[p6 c2];exact jD,S⟩
 ·refine bg (au (ak (aj rfl rfl ?_)));obtain⟨j,tl,L3,uB,FF⟩:=hF.resolve_right (fun h=>h.2 (cy.1 c2));rw[ok.hls,gG]at uB;obtain⟨l,MB,rfl⟩:=lz.1 uB;obtain⟨jb,YD,hrb,DB⟩:=ok.hok l (aQ MB);refine aS rfl rfl E79 (Df hM FF jb YD hrb DB) (fun r4 w4 hc=>?_);obtain⟨hr4,s4⟩:=hc;replace hM:=s4.lt hM;have:=S.size;replace S:=S.aE s4;refine al rfl rfl (ae (aW ?_));exact a8 rfl rfl ⟨by rw[uj nP.nodup L3 MB];exact hr4,S⟩
theorem DI {M:aU} {p:Pa} {k:List UInt8} {v0:Value} (w0:World) (hM:Lt M w0) (hp:RT.pa.V M w0 p v0) (nP:vR p.2.2.1) (hl:p.2.2.1.length=p.2.2.2.length):
  Spec Tryz.prog 93 #[v0,sv k] w0 (fun v w=>(RT.po.sl).V M w (sL p.2.2.1 p.2.2.2 k) v∧Step M w0 M w aN):=by
 have fZ:=hM;refine bE (args:=[_,_]) (fn:=Tryz.f93) Tryz.func93 rfl (n:=25) Tryz.ntmps93 ?_;have S:Step M w0 M w0 aN:=(ah _ _).cD (fun _ h=>h.elim) (fun _ h=>h.elim);refine au (ak ?_);refine eG (A:=RT.pa) (a:=p) rfl rfl hM hp rfl (fun u2 Pr kg oJ _=>?_);replace hp:=hp.le oJ.le;replace hM:=oJ.lt hM;have:=S.size;replace S:=S.aE oJ;refine al rfl rfl (ae (au (au (ak (al rfl rfl (ae (bu ?_)))))));refine de (σ:=Nat) (fun i=>[(1,sv k),(2,u2),(5,.int .i64 (i:Int))]) (fun i w=>Step M w0 M w aN∧bL RT.pa M w u2 p∧i≤p.2.2.1.length∧∀(j:Nat) x,j<i→p.2.2.1[j]? =some x→x≠k) (fun i=>p.2.2.1.length-i) 0 (.cons rfl (.cons rfl (.cons rfl .nil))) ?_ ?_
 ·exact⟨S,kg,bM _,fun j x h=>absurd h (j5 _)⟩
 ·clear S kg hM;rintro i w ⟨S,kg,hi,jU⟩;have hM:=S.lt fZ;refine au (au (ak (aj rfl rfl ?_)));refine aA (M:=M) (A:=RT.pa) (B:=(RT.str.sl)) aO rfl rfl ph (by decide) Ez rfl rfl (by decide) kg (ar _ _) (fun u21 Lh=>?_);refine aY (M:=M) aJ rfl rfl rfl rfl rfl Lh (ar _ _) (fun v22 HD=>?_);have ZZ:=dr HD;refine bF aJ rfl HD rfl (cu rfl rfl rfl (ae ?_));refine bW rfl (fun c2=>?_) (fun c2=>?_)
  ·refine bg (au (bu (au (ak ?_))));obtain⟨x,jt⟩:∃x,p.2.2.1[i]? =some x:=⟨_,aI (by omega)⟩;refine aA (M:=M) (A:=RT.pa) (B:=(RT.str.sl)) aO rfl rfl ph (by decide) Ez rfl rfl (by decide) kg (ar _ _) (fun u40 Sr=>?_);refine aY (M:=M) aJ rfl rfl rfl rfl rfl Sr (ar _ _) (fun v41 Ss=>?_);refine aj rfl rfl ?_;refine bS (M:=M) aJ I9 rfl rfl rfl Ss (ar _ _) (by omega) (fun u43 x_ fy St=>?_);rw[aK]at fy;obtain rfl:=aG (jt.symm.trans fy);refine aY (M:=M) aM rfl rfl rfl rfl rfl St (ar _ _) (fun v44 agV=>?_);obtain rfl:=dQ agV;refine aj rfl rfl (Rg.rL rfl rfl rfl (ae ?_));refine bW rfl (fun c4=>?_) (fun c4=>?_)
   ·subst c4;refine au (ak ?_);refine aA (M:=M) (A:=RT.pa) (B:=(((RT.po).sl).sl)) aO rfl rfl my (by decide) A5 rfl rfl (by decide) kg (ar _ _) (fun u50 Su=>?_);refine aY (M:=M) bH rfl rfl rfl rfl rfl Su (ar _ _) (fun v51 Sv=>?_);refine aj rfl rfl ?_;obtain⟨l,Fa⟩:∃x,p.2.2.2[i]? =some x:=⟨_,aI (by omega)⟩;refine bS (M:=M) bH fX rfl rfl rfl Sv (ar _ _) (by omega) (fun X8 x_ fy vG=>?_);rw[aK]at fy;obtain rfl:=aG (Fa.symm.trans fy);refine aY (M:=M) aC rfl rfl rfl rfl rfl vG (ar _ _) (fun v54 yf=>?_);refine al rfl rfl (ae (aW ?_));exact a8 rfl rfl ⟨by rw[uj nP.nodup jt Fa];exact yf,S⟩
   ·refine bg (ak (aj rfl rfl (bQ rfl rfl rfl (by omega) (al rfl rfl (ae ?_)))));refine⟨rfl,i+1,(.cons rfl (.cons rfl (.cons rfl .nil))),?_,?_⟩
    ·exact⟨S,kg,by omega,fun j y hj hy=>by
      rcases eT j i with h|h
      ·exact jU j y h hy
      ·rw[show j=i by omega,jt]at hy;cases hy;exact c4⟩
    ·omega
  ·refine cP (au (ak (al rfl rfl (ae (aW ?_)))));exact a8 rfl rfl ⟨by rw[p6 (fun hm=>by obtain⟨j,hj⟩:=cg.1 hm;exact jU j k (by have:=(aF.1 hj).1;omega) hj rfl)];exact jD,S⟩
theorem HJ {M:aU} {p:Pa} {v0:Value} (w0:World) (hM:Lt M w0) (hp:RT.pa.V M w0 p v0):
  Spec Tryz.prog 90 #[v0] w0 (fun v w=>RT.pa.V M w p v∧Step M w0 M w aN):=by
 have fZ:=hM;refine bE (args:=[_]) (fn:=Tryz.f90) Tryz.func90 rfl (n:=12) Tryz.ntmps90 ?_;have S:Step M w0 M w0 aN:=(ah _ _).cD (fun _ h=>h.elim) (fun _ h=>h.elim);refine au (ak ?_);refine eG (A:=RT.pa) (a:=p) rfl rfl hM hp rfl (fun u1 Pr eW oJ _=>?_);replace hp:=hp.le oJ.le;replace hM:=oJ.lt hM;have:=S.size;replace S:=S.aE oJ;refine eu M qP rfl (fun iS nd G8 G9 eN ja=>?_);obtain⟨dR,jj⟩:∃M',M'=ins M iS:=⟨_,rfl⟩;rw[←jj]at ja;have ed:dR iS:=by rw[jj];exact .inl rfl
 change nd.heap[iS]? =some (.cells #[.slice none 0 0,.slice none 0 0,.slice none 0 0,.slice none 0 0] _ _)at eN;replace eW:=eW.le (by decide) ja.le;replace hM:=ja.lt hM;have:=S.size;replace S:=S.aE ja;refine ae (au (ak ?_));refine aA (M:=dR) (A:=RT.pa) (B:=((RT.int .i64).sl)) bR rfl rfl gT (by decide) DL rfl rfl (by decide) eW (ar _ _) (fun OC yR=>?_);refine aY (M:=dR) ay rfl rfl rfl rfl rfl yR (ar _ _) (fun v10 iU=>?_);refine aA (M:=dR) (A:=RT.pa) (B:=((RT.int .i64).sl)) bR rfl rfl gT (by decide) Ey rfl rfl (by decide) eW (ar _ _) (fun u11 S0=>?_);refine aY (M:=dR) ay rfl rfl rfl rfl rfl S0 (ar _ _) (fun v11 sH=>?_);refine aA (M:=dR) (A:=RT.pa) (B:=(RT.str.sl)) bR rfl rfl ph (by decide) Ez rfl rfl (by decide) eW (ar _ _) (fun u12 Lz=>?_);refine aY (M:=dR) aJ rfl rfl rfl rfl rfl Lz (ar _ _) (fun v12 yh=>?_);refine aA (M:=dR) (A:=RT.pa) (B:=(((RT.po).sl).sl)) bR rfl rfl my (by decide) A5 rfl rfl (by decide) eW (ar _ _) (fun u13 S8=>?_);refine aY (M:=dR) bH rfl rfl rfl rfl rfl S8 (ar _ _) (fun F7 uu=>?_);refine eF (places:=[(0,1),(1,1),(2,1),(3,1)]) aO qP B62 rfl ⟨_,_,rfl,rfl,_,_,rfl,rfl,_,_,rfl,rfl,_,_,rfl,rfl,rfl⟩ (out:=[v10,v11,v12,F7]) ⟨0,[_],rfl,fg iU,by simp[Value.cells],1,[_],rfl,fg sH,by simp[Value.cells],2,[_],rfl,fg yh,by simp[Value.cells],3,[_],rfl,fg uu,by simp[Value.cells],rfl⟩ ?_;refine eB (M:=dR) (vs:=[v10,v11,v12,F7]) qP rfl rfl (by intro u hu;simp at hu;rcases hu with rfl|rfl|rfl|rfl<;>exact iV (by assumption) rfl rfl) rfl rfl eN ed (fun wF gF sF=>?_);have:=av eN;replace ed:=(sF.mem _ this).2 ed;replace eW:=eW.le (by decide) sF.le;replace iU:=iU.le sF.le
 replace sH:=sH.le sF.le;replace yh:=yh.le sF.le;replace uu:=uu.le sF.le;replace hM:=sF.lt hM;have:=S.size;replace S:=S.trans sF (fun k hk h=>by have h:_=_:=h;subst h;first|(exfalso;omega)|(show _≤_;omega)|exact⟨by first|omega|assumption,(S.mem _ hk).1 ((sF.mem _ (av eN)).1 ed)⟩|exact .inl rfl|exact .inr rfl|exact .inr (.inl rfl)|exact .inr (.inr rfl)|exact rfl);have pX:=gF;clear eN;have eN:=pX;clear pX;refine ae (aW ?_);have lc:=ly fZ S;exact pE (vs:=[v10,v11,v12,F7]) rfl rfl aO rfl qP rfl eN ⟨Hm (iU.le lc) (sH.le lc) (yh.le lc) (uu.le lc),S.back⟩
end Go.K
namespace Go.K
open Go.Proofs
namespace TKLike
theorem my:TI Tryz.prog 56 (.slice none 0 0) 1 24:=by unfold TI;kernel_rfl
theorem qP:TI Tryz.prog 62 (.agg #[(.slice none 0 0),(.slice none 0 0),(.slice none 0 0),(.slice none 0 0)]) 4 96:=by unfold TI;kernel_rfl
theorem fX:TI Tryz.prog 107 (.slice none 0 0) 1 24:=by unfold TI;kernel_rfl
theorem E25:Enters Tryz.prog 25:=enters Tryz.func25 rfl (by decide)
theorem E28:Enters Tryz.prog 28:=enters Tryz.func28 rfl (by decide)
theorem E30:Enters Tryz.prog 30:=enters Tryz.func30 rfl (by decide)
theorem E67:Enters Tryz.prog 67:=enters Tryz.func67 rfl (by decide)
theorem E68:Enters Tryz.prog 68:=enters Tryz.func68 rfl (by decide)
theorem E69:Enters Tryz.prog 69:=enters Tryz.func69 rfl (by decide)
theorem E70:Enters Tryz.prog 70:=enters Tryz.func70 rfl (by decide)
theorem E84:Enters Tryz.prog 84:=enters Tryz.func84 rfl (by decide)
theorem E85:Enters Tryz.prog 85:=enters Tryz.func85 rfl (by decide)
theorem E90:Enters Tryz.prog 90:=enters Tryz.func90 rfl (by decide)
theorem E91:Enters Tryz.prog 91:=enters Tryz.func91 rfl (by decide)
theorem E92:Enters Tryz.prog 92:=enters Tryz.func92 rfl (by decide)
theorem E93:Enters Tryz.prog 93:=enters Tryz.func93 rfl (by decide)
theorem Pq:Enters Tryz.prog 94:=enters Tryz.func94 rfl (by decide)
theorem E95:Enters Tryz.prog 95:=enters Tryz.func95 rfl (by decide)
theorem E96:Enters Tryz.prog 96:=enters Tryz.func96 rfl (by decide)
theorem E97:Enters Tryz.prog 97:=enters Tryz.func97 rfl (by decide)
end TKLike
open TKLike
set_option maxRecDepth 10000
theorem vT {xs:List Int} {i:Int} {j:Nat} {x:Int} (h:xs[j]? =some x) (hi:i=j):EW xs i=x:=by
 subst hi;have hj:=(aF.1 h).1;unfold EW;rw[if_pos ⟨by omega,by omega⟩,aK,dN,h];rfl
theorem vU {xs:List Int} {i:Int} (h: ¬(0≤i∧i<xs.length)):EW xs i= -1:=by unfold EW;rw[if_neg h]
set_option maxHeartbeats 4000000 in
theorem Ak {M:aU} {s:Se} {ls:List (List Po)} {p:Pa} {t:Fd} {a:Addr} {v0 v1 v2:Value} (w0:World) (hM:Lt M w0) (LZ:v0= .pointer (some a)) (hs:bL RT.se M w0 v0 s) (ok:N5 s ls) (nP:vR s.2.2.1) (h12:s.1.length=s.2.1.length) (Ze:lF ls≤4611686018427387904) (Mn:∀l∈ls,(dw (-1) l).length≤35184372088832) (Gm:Ud (sL s.2.2.1 ls (dm t))) (Ix:p=partsOf s ls) (hp:RT.pa.V M w0 p v1) (ht:RT.fd.V M w0 t v2) (h1:t.1.length≤140737488355328) (h2:t.2.length≤140737488355328):
  Spec Tryz.prog 42 #[v0,v1,v2] w0 (fun v w=>v= .bool true∧Step M w0 M w aN):=by
 have fZ:=hM;have e0:p.1=s.1:=by rw[Ix];rfl
 have e1:p.2.1=s.2.1:=by rw[Ix];rfl
 have e2:p.2.2.1=s.2.2.1:=by rw[Ix];rfl
 have e3:p.2.2.2=ls:=by rw[Ix];rfl
 have el0:p.1.length=s.1.length:=by rw[e0]
 have el1:p.2.1.length=s.1.length:=by rw[e1,h12]
 have el2:p.2.2.1.length=ls.length:=by rw[e2];exact ok.hdl
 have el3:p.2.2.2.length=ls.length:=by rw[e3]
 have hn1:=ok.hn1;have hd6:=ok.hd6;have hdl:=ok.hdl;refine bE (args:=[_,_,_]) (fn:=Tryz.f42) Tryz.func42 rfl (n:=155) Tryz.ntmps42 ?_;have S:Step M w0 M w0 aN:=(ah _ _).cD (fun _ h=>h.elim) (fun _ h=>h.elim);refine au (ak ?_);refine eG (A:=RT.pa) (a:=p) rfl rfl hM hp rfl (fun u4 Pr iM oJ _=>?_);replace hs:=hs.le (by decide) oJ.le;replace hp:=hp.le oJ.le;replace ht:=ht.le oJ.le;replace hM:=oJ.lt hM;have:=S.size;replace S:=S.aE oJ;refine eG (A:=RT.fd) (a:=t) rfl rfl hM ht rfl (fun u5 wb1 gV Md _=>?_);replace hs:=hs.le (by decide) Md.le;replace ht:=ht.le Md.le;replace iM:=iM.le (by decide) Md.le;replace hM:=Md.lt hM;have:=S.size;replace S:=S.aE Md;refine al rfl rfl (ae (au (au (ak (aj rfl rfl (bO (v':= .pointer (some a)) (by rw[LZ]) (Rg.wL ux rfl rfl rfl (ae (T.BI rfl ((by simp)) (bg (au ?_)))))))))));refine au ?_;have Zf:=hM;by_cases yP: ¬((s.1.length:Int)=(p.1.length:Int))
 ·exact absurd (by rw[el0]) yP
 ·by_cases PA: ¬(s.2.2.1=p.2.2.1)
  ·exact absurd e2.symm PA
  ·apply kA (M:=M) mixed [aV.eq _,aV.eq (.int .i64 (s.1.length:Int)),aV.ptr ((RT.int .i64).sl) p.1,aV.V ((RT.int .i64).sl) p.1,aV.eq (.int .i64 (p.1.length:Int)),aV.eq (.bool (decide (¬((s.1.length:Int)=(p.1.length:Int))))),aV.eq (.bool false),aV.eq _,aV.V (RT.str.sl) s.2.2.1,aV.ptr (RT.str.sl) p.2.2.1,aV.V (RT.str.sl) p.2.2.1,aV.eq (.bool (decide (s.2.2.1=p.2.2.1))),aV.eq (.bool (decide (¬(s.2.2.1=p.2.2.1)))),aV.eq (.bool (decide (¬(s.2.2.1=p.2.2.1)))),aV.eq (.bool false),aV.eq _,aV.V RT.pa (partsOf s ls),aV.V RT.pa (partsOf s ls),aV.V RT.pa p,aV.eq (.bool (Ly (partsOf s ls) p)),aV.eq (.bool false),aV.eq (.bool false)]
   ·rfl
   ·refine an ?_ ?_
    ·intro wD E sD;refine aj rfl rfl ?_;exact ae ⟨rfl,rfl,_,rfl,rfl,ah _ _⟩
    refine an ?_ ?_
    ·intro wD E sD;refine ao ?_;refine aS rfl rfl E67 (zW _ (hs.le (by decide) sD.le)) (fun r1 w1 h1=>?_);obtain⟨rfl,rfl⟩:=h1;exact ae ⟨rfl,rfl,_,rfl,rfl,ah _ _⟩
    refine an ?_ ?_
    ·intro wD E sD;refine aA (M:=M) (A:=RT.pa) (B:=((RT.int .i64).sl)) aO rfl rfl gT (by decide) DL rfl rfl (by decide) iM sD.le (fun uf fB=>?_);exact ae ⟨rfl,rfl,_,rfl,fB,ah _ _⟩
    refine an ?_ ?_
    ·intro wD E sD;intro v2 kB;refine aY (M:=M) ay rfl rfl rfl rfl rfl (show bL ((RT.int .i64).sl) M wD v2 p.1 from kB) (ar _ _) (fun va ke=>?_);exact ae ⟨rfl,rfl,_,rfl,ke,ah _ _⟩
    refine an ?_ ?_
    ·intro wD E sD;intro v3 lv;refine bF ay rfl (show((RT.int .i64).sl).V M wD p.1 v3 from lv) rfl ?_;exact ae ⟨rfl,rfl,_,rfl,rfl,ah _ _⟩
    refine an ?_ ?_
    ·intro wD E sD;refine ao (ao (eC rfl rfl rfl ?_));exact ae ⟨rfl,rfl,_,rfl,rfl,ah _ _⟩
    refine an ?_ ?_
    ·intro wD E sD;refine ao (ao (aj rfl rfl ?_));refine ae ⟨rfl,rfl,_,rfl,?_,ah _ _⟩;exact congrArg Value.bool (decide_eq_false yP)
    refine an ?_ ?_
    ·intro wD E sD;refine ao (aq rfl rfl (aj rfl rfl ?_));exact ae ⟨rfl,rfl,_,rfl,rfl,ah _ _⟩
    refine an ?_ ?_
    ·intro wD E sD;refine ao (ao (ao (aq rfl rfl ?_)));refine aS rfl rfl E68 (xY (M:=M) _ (sD.lt Zf) (by rw[ok.hls,cr];exact ok.hdl) ok.hd6 (hs.le (by decide) sD.le)) (fun r1 w1 h1=>?_);exact ae ⟨rfl,rfl,_,rfl,h1.1,h1.2⟩
    refine an ?_ ?_
    ·intro wD E sD;refine ao (aq rfl rfl ?_);refine aA (M:=M) (A:=RT.pa) (B:=(RT.str.sl)) aO rfl rfl ph (by decide) Ez rfl rfl (by decide) iM sD.le (fun uf fB=>?_);exact ae ⟨rfl,rfl,_,rfl,fB,ah _ _⟩
    refine an ?_ ?_
    ·intro wD E sD;intro v9 qi;refine ao (aq rfl rfl ?_);refine aY (M:=M) aJ rfl rfl rfl rfl rfl (show bL (RT.str.sl) M wD v9 p.2.2.1 from qi) (ar _ _) (fun va ke=>?_);exact ae ⟨rfl,rfl,_,rfl,ke,ah _ _⟩
    refine an ?_ ?_
    ·intro wD E sD;intro v8 tn;intro v10 iU;intro v8 tn;refine ao (aq rfl rfl ?_);refine aS rfl rfl E84 (yd (M:=M) _ (sD.lt Zf) (show(RT.str.sl).V M wD s.2.2.1 v8 from tn) (show(RT.str.sl).V M wD p.2.2.1 v10 from iU)) (fun r1 w1 h1=>?_);obtain⟨rfl,s1⟩:=h1;exact ae ⟨rfl,rfl,_,rfl,rfl,s1⟩
    refine an ?_ ?_
    ·intro wD E sD;refine ao (ao (aq rfl rfl (fP rfl rfl (bO (v':= .bool (decide (¬(s.2.2.1=p.2.2.1)))) (by simp) ?_))));exact ae ⟨rfl,rfl,_,rfl,rfl,ah _ _⟩
    refine an ?_ ?_
    ·intro wD E sD;refine ao (ao (aL rfl rfl rfl ?_));exact ae ⟨rfl,rfl,_,rfl,rfl,ah _ _⟩
    refine an ?_ ?_
    ·intro wD E sD;refine ao (ao (aj rfl rfl ?_));refine ae ⟨rfl,rfl,_,rfl,?_,ah _ _⟩;exact congrArg Value.bool (decide_eq_false PA)
    refine an ?_ ?_
    ·intro wD E sD;refine ao (aq rfl rfl (aj rfl rfl ?_));exact ae ⟨rfl,rfl,_,rfl,rfl,ah _ _⟩
    refine an ?_ ?_
    ·intro wD E sD;refine ao (ao (ao (aq rfl rfl ?_)));refine aS rfl rfl E28 (DA (M:=M) _ (sD.lt Zf) (hs.le (by decide) sD.le) ok.hls ok.hdl ok.hn1 ok.hn2 ok.hd6 ok.hok) (fun r1 w1 h1=>?_);exact ae ⟨rfl,rfl,_,rfl,h1.1,h1.2⟩
    refine an ?_ ?_
    ·intro wD E sD;intro v16 Rx;intro v16 Rx;refine ao (aq rfl rfl ?_);refine aS rfl rfl E90 (HJ (M:=M) (p:=partsOf s ls) _ (sD.lt Zf) (show RT.pa.V M wD (partsOf s ls) v16 from Rx)) (fun r1 w1 h1=>?_);exact ae ⟨rfl,rfl,_,rfl,h1.1,h1.2⟩
    refine an ?_ ?_
    ·intro wD E sD;refine ao (aq rfl rfl ?_);refine cc (M:=M) (A:=RT.pa) aO rfl qP (by decide) rfl rfl rfl iM sD.le (fun va ke=>?_);exact ae ⟨rfl,rfl,_,rfl,ke,ah _ _⟩
    refine an ?_ ?_
    ·intro wD E sD;intro v17 Zg;intro v18 agW;intro v17 Zg;refine ao (aq rfl rfl ?_);refine aS rfl rfl E30 (Dz (M:=M) (p:=partsOf s ls) (q:=p) _ (sD.lt Zf) (show RT.pa.V M wD (partsOf s ls) v17 from Zg) (show RT.pa.V M wD p v18 from agW)) (fun r1 w1 h1=>?_);obtain⟨rfl,s1⟩:=h1;exact ae ⟨rfl,rfl,_,rfl,rfl,s1⟩
    refine an ?_ ?_
    ·intro wD E sD;refine ao (ao (aq rfl rfl (fP rfl rfl (bO (v':= .bool false) (by rw[Ix,yg.2 rfl];rfl) ?_))));exact ae ⟨rfl,rfl,_,rfl,rfl,ah _ _⟩
    refine an ?_ ?_
    ·intro wD E sD;refine ao (ao (aL rfl rfl rfl ?_));exact ae ⟨rfl,rfl,_,rfl,rfl,ah _ _⟩
    exact fC
   ·intro Qr lI;refine ao (ao ?_);intro apb aj9;intro RB Kz;refine ao (ao (ao (ao ?_)));intro apc aka;intro apd akb;intro akc agX;refine ao (ao (ao (ao (ao ?_))));intro akd agY;intro ake agZ;intro akf ag0;refine ao (ao (ao ?_));have S:=S.aE lI;have hM:=lI.lt hM;replace hs:=hs.le (by decide) lI.le;replace iM:=iM.le (by decide) lI.le;replace gV:=gV.le (by decide) lI.le;refine ir rfl (bg (au (au (ak (al rfl rfl (ae (bu ?_)))))));refine de (σ:=Nat) (fun k=>[(0,v0),(4,u4),(5,u5),(7,.int .i64 ((k:Int)-1))]) (fun k w=>Step M w0 M w aN∧bL RT.se M w v0 s∧bL RT.pa M w u4 p∧bL RT.fd M w u5 t∧k≤s.1.length+2) (fun k=>s.1.length+2-k) 0 (.cons rfl (.cons rfl (.cons rfl (.cons rfl .nil)))) ?_ ?_
    ·exact⟨S,hs,iM,gV,bM _⟩
    ·clear S hs iM gV hM;rintro k w ⟨S,hs,iM,gV,hk⟩;have hM:=S.lt fZ;refine au (au (ak (aj rfl rfl ?_)));refine aA (M:=M) (A:=RT.pa) (B:=((RT.int .i64).sl)) aO rfl rfl gT (by decide) DL rfl rfl (by decide) iM (ar _ _) (fun u61 Tq=>?_);refine aY (M:=M) ay rfl rfl rfl rfl rfl Tq (ar _ _) (fun v62 N7=>?_);refine bF ay rfl N7 rfl (fo rfl rfl rfl (ae ?_));refine bW rfl (fun c6=>?_) (fun c6=>?_)
     ·refine bg (au (bu (au (ak (al rfl rfl (ae (au (ak (al rfl rfl (ae ?_))))))))));refine T.qe [(0,v0),(4,u4),(5,u5),(7,.int .i64 ((k:Int)-1)),(8,.int .i64 (EW s.1 ((k:Int)-1))),(9,.int .i64 (EW s.2.1 ((k:Int)-1)))] ?_ ?_
      ·refine T.qe [(0,v0),(4,u4),(5,u5),(7,.int .i64 ((k:Int)-1)),(8,.int .i64 (-1)),(9,.int .i64 (-1)),(54,.bool (decide (0≤(k:Int)-1∧(k:Int)-1<(p.1.length:Int))))] ?_ ?_
       ·refine ak (aj rfl rfl (dI rfl rfl rfl (aj rfl rfl ?_)));refine aZ (g:=48) rfl (fun yw=>?_) (fun yw=>?_)
        ·refine aq rfl rfl (aj rfl rfl (aq rfl rfl ?_));refine aA (M:=M) (A:=RT.pa) (B:=((RT.int .i64).sl)) aO rfl rfl gT (by decide) DL rfl rfl (by decide) iM (ar _ _) (fun af3 Lx=>?_);refine aq rfl rfl ?_;refine aY (M:=M) ay rfl rfl rfl rfl rfl Lx (ar _ _) (fun v105 Zh=>?_);refine aq rfl rfl (bF ay rfl Zh rfl (aq rfl rfl (cu rfl rfl rfl (aR rfl rfl rfl (ae ?_)))));exact⟨rfl,rfl,rfl,.cons rfl (.cons rfl (.cons rfl (.cons rfl (.cons rfl (.cons rfl (.cons (by first|rfl|exact congrArg (fun b=>some (Value.bool b)) (bY (decide_eq_false (by omega)))|exact congrArg (fun b=>some (Value.bool b)) (bY (decide_eq_true (by omega)))|exact congrArg (fun b=>some (Value.bool b)) (decide_eq_decide.2 (by omega))) (.nil)))))))⟩
        ·refine aw rfl rfl rfl rfl (aw rfl rfl rfl rfl (aw rfl rfl rfl rfl (aw rfl rfl rfl rfl (aw rfl rfl rfl rfl (aL rfl rfl rfl (ae ?_))))));exact⟨rfl,rfl,rfl,.cons rfl (.cons rfl (.cons rfl (.cons rfl (.cons rfl (.cons rfl (.cons (by first|rfl|exact congrArg (fun b=>some (Value.bool b)) (bY (decide_eq_false (by omega)))|exact congrArg (fun b=>some (Value.bool b)) (bY (decide_eq_true (by omega)))|exact congrArg (fun b=>some (Value.bool b)) (decide_eq_decide.2 (by omega))) (.nil)))))))⟩
       ·refine bW rfl (fun HS=>?_) (fun HS=>?_)
        ·refine au (ak ?_);obtain⟨x,ow⟩:∃x,p.1[k-1]? =some x:=⟨_,aI (by omega)⟩;obtain⟨y,qG⟩:∃y,p.2.1[k-1]? =some y:=⟨_,aI (by omega)⟩;refine aA (M:=M) (A:=RT.pa) (B:=((RT.int .i64).sl)) aO rfl rfl gT (by decide) DL rfl rfl (by decide) iM (ar _ _) (fun ape Zi=>?_);refine aY (M:=M) ay rfl rfl rfl rfl rfl Zi (ar _ _) (fun apf Zj=>?_);refine aj rfl rfl ?_;refine bS (M:=M) ay I3 rfl rfl rfl Zj (ar _ _) (by omega) (fun apg x_ fy Zk=>?_);rw[show((k:Int)-1).toNat=k-1 from by omega]at fy;obtain rfl:=aG (ow.symm.trans fy);refine bK (M:=M) aB rfl rfl Zk (ar _ _) (fun Zl=>?_);refine bO (v':= .int .i64 x) rfl (al rfl rfl (ae (ak ?_)));refine aA (M:=M) (A:=RT.pa) (B:=((RT.int .i64).sl)) aO rfl rfl gT (by decide) Ey rfl rfl (by decide) iM (ar _ _) (fun aph Zm=>?_);refine aY (M:=M) ay rfl rfl rfl rfl rfl Zm (ar _ _) (fun api Zn=>?_);refine aj rfl rfl ?_;refine bS (M:=M) ay I3 rfl rfl rfl Zn (ar _ _) (by omega) (fun apj x_ fy Zo=>?_);rw[show((k:Int)-1).toNat=k-1 from by omega]at fy;obtain rfl:=aG (qG.symm.trans fy);refine bK (M:=M) aB rfl rfl Zo (ar _ _) (fun Zp=>?_);refine bO (v':= .int .i64 y) rfl (al rfl rfl (ae ?_));exact⟨rfl,rfl,rfl,.cons rfl (.cons rfl (.cons rfl (.cons rfl (.cons (congrArg (fun z=>some (Value.int .i64 z)) (by first|(rw[←e0];exact(vT ow (by omega)).symm)|exact(vU (by omega)).symm)) (.cons (congrArg (fun z=>some (Value.int .i64 z)) (by first|(rw[←e1];exact(vT qG (by omega)).symm)|exact(vU (by omega)).symm)) (.nil))))))⟩
        ·refine bg ?_;exact⟨rfl,rfl,rfl,.cons rfl (.cons rfl (.cons rfl (.cons rfl (.cons (congrArg (fun z=>some (Value.int .i64 z)) (by first|(rw[←e0];exact(vT ow (by omega)).symm)|exact(vU (by omega)).symm)) (.cons (congrArg (fun z=>some (Value.int .i64 z)) (by first|(rw[←e1];exact(vT qG (by omega)).symm)|exact(vU (by omega)).symm)) (.nil))))))⟩
      ·refine au (ak (aj rfl rfl (aj rfl rfl ?_)));refine aS rfl rfl E69 (Dh _ hs) (fun r wc hc=>?_);obtain⟨rfl,rfl⟩:=hc;refine aj rfl rfl (eC rfl rfl rfl (aj rfl rfl (Rg.DM (g:=70) rfl ((fun h=>h rfl)) (aq rfl rfl (aj rfl rfl (aq rfl rfl (aj rfl rfl (aq rfl rfl ?_))))))));refine aS rfl rfl E70 (zX _ hs) (fun r wc hc=>?_);obtain⟨rfl,rfl⟩:=hc;refine aq rfl rfl (aj rfl rfl (aq rfl rfl (eC rfl rfl rfl (aL rfl rfl rfl (ae (T.BI rfl ((fun h=>h rfl)) (bg (ak (aj rfl rfl (bQ rfl rfl rfl (by omega) (al rfl rfl ?_)))))))))));refine ae ?_;refine⟨rfl,k+1,(.cons rfl (.cons rfl (.cons rfl (.cons (congrArg (fun z=>some (Value.int .i64 z)) (by omega)) .nil)))),?_,?_⟩
       ·exact⟨S,hs,iM,gV,by omega⟩
       ·omega
     ·refine cP (au (ak (al rfl rfl (ae (au (au (ak (al rfl rfl (ae (bu ?_))))))))));refine de (σ:=Nat) (fun j=>[(0,v0),(4,u4),(5,u5),(10,.int .i64 (lF (ls.take j))),(11,.int .i64 (j:Int))]) (fun j w=>Step M w0 M w aN∧bL RT.se M w v0 s∧bL RT.pa M w u4 p∧bL RT.fd M w u5 t∧j≤ls.length) (fun j=>ls.length-j) 0 (.cons rfl (.cons rfl (.cons rfl (.cons rfl (.cons rfl .nil))))) ?_ ?_
      ·exact⟨S,hs,iM,gV,bM _⟩
      ·clear S hs iM gV hM;rintro j w ⟨S,hs,iM,gV,hj⟩;have hM:=S.lt fZ;refine au (au (ak (aj rfl rfl ?_)));refine aA (M:=M) (A:=RT.pa) (B:=(((RT.po).sl).sl)) aO rfl rfl my (by decide) A5 rfl rfl (by decide) iM (ar _ _) (fun apk Zq=>?_);refine aY (M:=M) bH rfl rfl rfl rfl rfl Zq (ar _ _) (fun apl Zr=>?_);refine bF bH rfl Zr rfl (cu rfl rfl rfl (ae ?_));refine bW rfl (fun c17=>?_) (fun c17=>?_)
       ·refine bg (au (bu (au (ak ?_))));obtain⟨l,Fa⟩:∃x,ls[j]? =some x:=⟨_,aI (by omega)⟩;have Zs:p.2.2.2[j]? =some l:=by rw[e3];exact Fa
        obtain⟨kn,YN⟩:∃x,p.2.2.1[j]? =some x:=⟨_,aI (by omega)⟩;obtain⟨jb,YD,hrb,DB⟩:=ok.hok l (aQ Fa);have Ic:=Ai Fa;have DO:=Aj ls (j+1);have XQ:=vS (ls.take j);refine aj rfl rfl ?_;refine aA (M:=M) (A:=RT.pa) (B:=(((RT.po).sl).sl)) aO rfl rfl my (by decide) A5 rfl rfl (by decide) iM (ar _ _) (fun apn Zt=>?_);refine aY (M:=M) bH rfl rfl rfl rfl rfl Zt (ar _ _) (fun apo Zu=>?_);refine aj rfl rfl ?_;refine bS (M:=M) bH fX rfl rfl rfl Zu (ar _ _) (by omega) (fun apq x_ fy Zv=>?_);rw[aK]at fy;obtain rfl:=aG (Zs.symm.trans fy);refine aY (M:=M) aC rfl rfl rfl rfl rfl Zv (ar _ _) (fun apr Zw=>?_);refine aS rfl rfl E91 (Bs hM Zw jb YD (Mn l (aQ Fa))) (fun r19 w19 hc=>?_);obtain⟨Zx,ag1⟩:=hc;replace hs:=hs.le (by decide) Zx.le;replace iM:=iM.le (by decide) Zx.le;replace gV:=gV.le (by decide) Zx.le;replace hM:=Zx.lt hM;have:=S.size;replace S:=S.aE Zx;refine bF bz rfl ag1 rfl (bQ rfl rfl rfl (by omega) (al rfl rfl (ae (au ?_))));apply T.zn [0,1,2,3,4,5,7,8,9,10,11,6,12,13] 11 [6,7,8,9,10] 1 aN mixed
        ·simp+decide only[wC,qv,eO,qW,iX,iY,kK,eZ,iO,lJ,cond_true,cond_false,Nat.reduceBEq,Nat.reduceAdd,beq_self_eq_true];rfl
        ·rfl
        ·rfl
        ·rfl
        ·rfl
        ·rfl
        ·rfl
        intro ag2 ag3;have LR:=ag3 M;replace hs:=hs.le (by decide) LR.le;replace iM:=iM.le (by decide) LR.le;replace gV:=gV.le (by decide) LR.le;replace hM:=LR.lt hM;have:=S.size;replace S:=S.aE LR;refine aj rfl rfl ?_;refine ae ⟨rfl,rfl,rfl,?_⟩;refine aA (M:=M) (A:=RT.pa) (B:=(RT.str.sl)) aO rfl rfl ph (by decide) Ez rfl rfl (by decide) iM (ar _ _) (fun aps Zy=>?_);refine ae ⟨rfl,rfl,rfl,?_⟩;refine aY (M:=M) aJ rfl rfl rfl rfl rfl Zy (ar _ _) (fun apt Zz=>?_);refine ae ⟨rfl,rfl,rfl,?_⟩;refine aj rfl rfl ?_;refine ae ⟨rfl,rfl,rfl,?_⟩;refine bS (M:=M) aJ I9 rfl rfl rfl Zz (ar _ _) (by omega) (fun apu x_ fy ZA=>?_);rw[aK]at fy;obtain rfl:=aG (YN.symm.trans fy);refine ae ⟨rfl,rfl,rfl,?_⟩;refine aY (M:=M) aM rfl rfl rfl rfl rfl ZA (ar _ _) (fun apv ZB=>?_);obtain rfl:=dQ ZB;refine ae ⟨rfl,rfl,rfl,?_⟩;refine aA (M:=M) (A:=RT.pa) (B:=(((RT.po).sl).sl)) aO rfl rfl my (by decide) A5 rfl rfl (by decide) iM (ar _ _) (fun apw PB=>?_);refine ae ⟨rfl,rfl,rfl,?_⟩;refine aY (M:=M) bH rfl rfl rfl rfl rfl PB (ar _ _) (fun apx ZC=>?_);refine ae ⟨rfl,rfl,rfl,?_⟩;refine aj rfl rfl ?_;refine ae ⟨rfl,rfl,rfl,?_⟩;refine bS (M:=M) bH fX rfl rfl rfl ZC (ar _ _) (by omega) (fun apy x_ fy PC=>?_);rw[aK]at fy;obtain rfl:=aG (Zs.symm.trans fy);refine ae ⟨rfl,rfl,rfl,?_⟩;refine aY (M:=M) aC rfl rfl rfl rfl rfl PC (ar _ _) (fun akg yz=>?_);refine ae ⟨rfl,rfl,rfl,?_⟩;refine dv ?_;obtain⟨b7,o7,cs7,e7,f7,rfl,Tw,_⟩:=PB.float;obtain⟨b8,o8,cs8,e8,f8,rfl,Tx,_⟩:=PC.float;refine⟨eA ⟨eM aO rfl my (by decide),⟨dx rfl Tw (fun h=>h),⟨eU,⟨bT.idx,⟨dx rfl Tx (fun h=>h),trivial⟩⟩⟩⟩⟩,?_⟩
        have kp:=eX aN ag2;refine aS rfl rfl E92 (yy (k:=kn) _ hM hs nP ok) (fun r20 w20 hc=>?_);obtain⟨N8,Ul⟩:=hc;rw[uj nP.nodup (by rw[←e2];exact YN) Fa]at N8;replace hs:=hs.le (by decide) Ul.le;replace iM:=iM.le (by decide) Ul.le;replace gV:=gV.le (by decide) Ul.le;replace yz:=yz.le Ul.le;replace hM:=Ul.lt hM;have:=S.size;replace S:=S.aE Ul;refine(fun(kp:eg _ _ _)=>ae ⟨rfl,rfl,fun _=>kp,?_⟩) (by first|exact kp|exact kp.mY (by assumption)|exact kp.goN (by assumption)|exact kp.go (by assumption) (fun _ _ h=>by first|exact h|exact h.elim));refine aS rfl rfl E85 (rE hM N8 yz) (fun apz apA hc=>?_);obtain⟨rfl,Fs⟩:=hc;refine bO (v':= .bool true) (by simp) ?_;replace hs:=hs.le (by decide) Fs.le;replace iM:=iM.le (by decide) Fs.le;replace gV:=gV.le (by decide) Fs.le;replace yz:=yz.le Fs.le;replace N8:=N8.le Fs.le;replace hM:=Fs.lt hM;have:=S.size;replace S:=S.aE Fs;refine ae ⟨rfl,rfl,fun h=>absurd rfl h,?_⟩;refine fP rfl rfl (bO (v':= .bool false) rfl ?_);refine ae ⟨rfl,rfl,fun h=>absurd rfl h,?_⟩;refine gX (ir rfl (bg (ak (aj rfl rfl (bQ rfl rfl rfl (by omega) (al rfl rfl (ae ?_)))))));refine⟨rfl,j+1,(.cons rfl (.cons rfl (.cons rfl (.cons (congrArg (fun z=>some (Value.int .i64 z)) Ic.symm) (.cons rfl .nil))))),?_,?_⟩
        ·exact⟨S,hs,iM,gV,by omega⟩
        ·omega
       ·refine cP (au ?_);have rI:ls.take j=ls:=bm (by omega);rw[rI];apply nr 2 [0] 1 aN mixed rfl rfl rfl rfl;intro ag4 ag5;have LS:=ag5 M;replace hs:=hs.le (by decide) LS.le;replace iM:=iM.le (by decide) LS.le;replace gV:=gV.le (by decide) LS.le;replace hM:=LS.lt hM;have:=S.size;replace S:=S.aE LS;refine cc (M:=M) (A:=RT.pa) aO rfl qP (by decide) rfl rfl rfl iM (ar _ _) (fun apB yA=>?_);refine ae ⟨rfl,rfl,rfl,?_⟩;refine cc (M:=M) (A:=RT.fd) bG rfl jW (by decide) rfl rfl rfl gV (ar _ _) (fun ag6 ZD=>?_);obtain rfl:ag6=kv t:=iB ZD;refine ae ⟨rfl,rfl,rfl,?_⟩;refine dv ?_;obtain⟨b4,o4,cs4,e4,f4,hq4,Ty,_⟩:=iM.float;refine⟨eA ⟨dx (congrArg some hq4) Ty (fun h=>h),trivial⟩,?_⟩;have kp:=eX aN ag4;refine aS rfl rfl Pq (yx (t:=t) _ hM h1 h2) (fun apD apE hc=>?_);obtain⟨rfl,HK⟩:=hc;replace hs:=hs.le (by decide) HK.le;replace iM:=iM.le (by decide) HK.le;replace gV:=gV.le (by decide) HK.le;replace yA:=yA.le HK.le;replace hM:=HK.lt hM;have:=S.size;replace S:=S.aE HK;refine(fun(kp:eg _ _ _)=>ae ⟨rfl,rfl,fun _=>kp,?_⟩) (by first|exact kp|exact kp.mY (by assumption)|exact kp.goN (by assumption)|exact kp.go (by assumption) (fun _ _ h=>by first|exact h|exact h.elim));refine aS rfl rfl E93 (DI (p:=p) (k:=dm t) _ hM yA (by rw[e2];exact nP) (by rw[el2,el3])) (fun Vy w22 hc=>?_);obtain⟨kW,BF⟩:=hc;replace kW:(RT.po.sl).V M w22 (sL s.2.2.1 ls (dm t)) Vy:=by rw[←e2,←e3];exact kW
        replace hs:=hs.le (by decide) BF.le;replace iM:=iM.le (by decide) BF.le;replace gV:=gV.le (by decide) BF.le;replace yA:=yA.le BF.le;replace hM:=BF.lt hM;have:=S.size;replace S:=S.aE BF;refine ae ⟨rfl,rfl,fun h=>absurd rfl h,?_⟩;refine al rfl rfl ?_;refine ae ⟨rfl,rfl,fun h=>absurd rfl h,?_⟩;refine gX (au (ak (aj rfl rfl ?_)));refine cc (M:=M) (A:=RT.fd) bG rfl jW (by decide) rfl rfl rfl gV (ar _ _) (fun ag7 ZE=>?_);obtain rfl:ag7=kv t:=iB ZE;refine aS rfl rfl E95 (Bk (t:=t) _ hM hs nP ok.hls ok.hdl (by omega) (by omega)) (fun r13 w23 hc=>?_);obtain⟨bc,rfl,hz,Ba,hC⟩:=hc;have hz0:=S.size;generalize ins M bc=Mc at Ba hC;replace hs:=hs.le (by decide) Ba.le;replace iM:=iM.le (by decide) Ba.le;replace gV:=gV.le (by decide) Ba.le;replace yA:=yA.le Ba.le;replace kW:=kW.le Ba.le;replace hM:=Ba.lt hM;have:=S.size;replace S:=S.aE Ba;refine al rfl rfl (ae (au (au (ak (aj rfl rfl (Rg.wL Tryz.underlying150 rfl rfl rfl (ae (T.BI rfl ((by simp)) (bg (au (au ?_)))))))))));refine ak (al rfl rfl (ae (bu ?_)));refine de (σ:=Nat) (fun i=>[(0,v0),(4,u4),(5,u5),(10,.int .i64 (lF ls)),(12,Vy),(13,.pointer (some ⟨bc,0,none⟩)),(14,.int .i64 (i:Int))]) (fun i w=>Lt Mc w∧Step M w0 Mc w aN∧bL RT.se Mc w v0 s∧bL RT.pa Mc w u4 p∧bL RT.fd Mc w u5 t∧(RT.po.sl).V Mc w (sL s.2.2.1 ls (dm t)) Vy∧Cu 216 (sL s.2.2.1 ls (dm t)) ((i:Int)-1) Mc w bc∧i≤(sL s.2.2.1 ls (dm t)).length) (fun i=>(sL s.2.2.1 ls (dm t)).length-i) 0 (.cons rfl (.cons rfl (.cons rfl (.cons rfl (.cons rfl (.cons rfl (.cons rfl .nil))))))) ?_ ?_
        ·exact⟨hM,S,hs,iM,gV,kW,hC,bM _⟩
        ·clear S hs iM gV hM kW hC;rintro i w ⟨hM,S,hs,iM,gV,kW,hC,hi⟩;have hAl:=dr kW;refine au (au (ak (aj rfl rfl (aj rfl rfl (bF aC rfl kW rfl (cu rfl rfl rfl (ae ?_)))))));refine bW rfl (fun c27=>?_) (fun c27=>?_)
         ·refine bg (au (bu (au ?_)));apply T.zn [0,2,3,4,5,6,1,7] 6 [1,2,3,4,5] 1 ((fun b=>b=bc)) mixed
          ·simp+decide only[wC,qv,eO,qW,iX,iY,kK,eZ,iO,lJ,cond_true,cond_false,Nat.reduceBEq,Nat.reduceAdd,beq_self_eq_true];rfl
          ·rfl
          ·rfl
          ·rfl
          ·rfl
          ·rfl
          ·rfl
          intro ag8 ag9;have Ft:=ag9 Mc;replace hs:=hs.le (by decide) Ft.le;replace iM:=iM.le (by decide) Ft.le;replace gV:=gV.le (by decide) Ft.le;replace kW:=kW.le Ft.le;replace hM:=Ft.lt hM;have:=S.size;replace S:=S.aE Ft;refine aj rfl rfl ?_;refine ae ⟨rfl,rfl,rfl,?_⟩;refine aj rfl rfl ?_;refine ae ⟨rfl,rfl,rfl,?_⟩;refine aj rfl rfl ?_;refine ae ⟨rfl,rfl,rfl,?_⟩;obtain⟨x,ow⟩:∃x,(sL s.2.2.1 ls (dm t))[i]? =some x:=⟨_,aI (by omega)⟩;refine bS (M:=Mc) aC dW rfl rfl rfl kW (ar _ _) (by omega) (fun apG x_ fy ZF=>?_);rw[aK]at fy;obtain rfl:=aG (ow.symm.trans fy);refine ae ⟨rfl,rfl,rfl,?_⟩;refine aA (M:=Mc) (A:=RT.po) (B:=RT.int .i64) aP rfl rfl I3 (by decide) na rfl rfl (by decide) ZF (ar _ _) (fun apH PD=>?_);refine ae ⟨rfl,rfl,rfl,?_⟩;refine bK (M:=Mc) aB rfl rfl PD (ar _ _) (fun ZG=>?_);refine bO (v':= .int .i64 x.1) rfl ?_;refine ae ⟨rfl,rfl,rfl,?_⟩;refine dv ?_;obtain⟨bb,oo,cs,ee,fr,rfl,kr,LY⟩:=PD.float;refine⟨eA ⟨eU,⟨eU,⟨bT.idx,⟨eM aP rfl I3 (by decide),⟨dx rfl kr (fun(h:bb=bc)=>LY (h▸hC.mem)),trivial⟩⟩⟩⟩⟩,?_⟩;have kp:=eX ((fun b=>b=bc)) ag8;replace hC:=hC.step Ft (fun h=>h);refine aS rfl rfl E96 (zZ hC hM Gm.may Gm.ps Gm.by_ Gm.ln) (fun r29 w29 hc=>?_);obtain⟨rfl,Um,hC⟩:=hc;have Qx:sM (sL s.2.2.1 ls (dm t)) ((i:Int)-1)=(i:Int):=by unfold sM;rw[if_pos (by omega)];omega
          rw[Qx]at hC ⊢;replace hs:=hs.le (by decide) Um.le;replace iM:=iM.le (by decide) Um.le;replace gV:=gV.le (by decide) Um.le;replace kW:=kW.le Um.le;replace S:=S.db Um (fun b (hb:b=bc)=>by omega);replace hM:=Um.lt hM;refine(fun(kp:eg _ _ _)=>ae ⟨rfl,rfl,fun _=>kp,?_⟩) (by first|exact kp|exact kp.mY (by assumption)|exact kp.goN (by assumption)|exact kp.go (by assumption) (fun _ _ h=>by first|exact h|exact h.elim));refine eC rfl rfl rfl ?_;refine ae ⟨rfl,rfl,fun h=>absurd rfl h,?_⟩;refine gX (T.BI rfl ((fun h=>h (kP (d:=x.1) (ps:=x.2) ow))) (bg (ak (aj rfl rfl (bQ rfl rfl rfl (by omega) (al rfl rfl (ae ?_)))))));refine⟨rfl,i+1,(.cons rfl (.cons rfl (.cons rfl (.cons rfl (.cons rfl (.cons rfl (.cons rfl .nil))))))),?_,?_⟩
          ·exact⟨hM,S,hs,iM,gV,kW,by rw[show((i+1:Nat):Int)-1=(i:Int)from by omega];exact hC,by omega⟩
          ·omega
         ·refine cP (au (ak (aj rfl rfl ?_)));refine aS rfl rfl E97 (DH _ hM hs ok Ze) (fun r31 w31 hc=>?_);obtain⟨rfl,Tz⟩:=hc;replace hC:=hC.step Tz (fun h=>h);replace hs:=hs.le (by decide) Tz.le;replace iM:=iM.le (by decide) Tz.le;replace gV:=gV.le (by decide) Tz.le;replace kW:=kW.le Tz.le;replace hM:=Tz.lt hM;have:=S.size;replace S:=S.aE Tz;refine aj rfl rfl (iE rfl rfl rfl (aj rfl rfl (Rg.pw (g:=134) rfl (rfl) (aq rfl rfl (aj rfl rfl (aq rfl rfl ?_))))));refine cc (M:=Mc) (A:=RT.fd) bG rfl jW (by decide) rfl rfl rfl gV (ar _ _) (fun aha ZH=>?_);obtain rfl:aha=kv t:=iB ZH;refine aq rfl rfl ?_;refine aS rfl rfl E25 (uT (ls:=ls) (t:=t) _ hM hs nP ok.hls ok.hdl (by omega) (by omega)) (fun apI apJ hc=>?_);obtain⟨rfl,Fu⟩:=hc;replace hC:=hC.step Fu (fun h=>h);replace hs:=hs.le (by decide) Fu.le;replace iM:=iM.le (by decide) Fu.le;replace gV:=gV.le (by decide) Fu.le;replace kW:=kW.le Fu.le;replace hM:=Fu.lt hM;have:=S.size;replace S:=S.aE Fu;refine aq rfl rfl (aj rfl rfl (aq rfl rfl (bF aC rfl kW rfl (aq rfl rfl (iE rfl rfl rfl (aR rfl rfl rfl (aj rfl rfl (Rg.pw (g:=142) rfl (rfl) (aq rfl rfl (aj rfl rfl (aq rfl rfl ?_)))))))))));refine cc (M:=Mc) (A:=RT.fd) bG rfl jW (by decide) rfl rfl rfl gV (ar _ _) (fun ZI TA=>?_);obtain rfl:ZI=kv t:=iB TA;refine aq rfl rfl ?_;refine aS rfl rfl Pq (yx (t:=t) _ hM h1 h2) (fun apK apL hc=>?_);obtain⟨rfl,Fv⟩:=hc;replace hC:=hC.step Fv (fun h=>h);replace hs:=hs.le (by decide) Fv.le;replace iM:=iM.le (by decide) Fv.le;replace gV:=gV.le (by decide) Fv.le;replace kW:=kW.le Fv.le;replace hM:=Fv.lt hM;have:=S.size;replace S:=S.aE Fv;refine aq rfl rfl ?_;refine aS rfl rfl E92 (yy (k:=dm t) _ hM hs nP ok) (fun akh aki hc=>?_)
          obtain⟨Fw,yB⟩:=hc;replace hC:=hC.step yB (fun h=>h);replace hs:=hs.le (by decide) yB.le;replace iM:=iM.le (by decide) yB.le;replace gV:=gV.le (by decide) yB.le;replace kW:=kW.le yB.le;replace hM:=yB.lt hM;have:=S.size;replace S:=S.aE yB;refine aq rfl rfl (aj rfl rfl (aq rfl rfl ?_));refine aS rfl rfl E85 (rE hM Fw kW) (fun apM apN hc=>?_);obtain⟨rfl,DJ⟩:=hc;replace hC:=hC.step DJ (fun h=>h);replace hs:=hs.le (by decide) DJ.le;replace iM:=iM.le (by decide) DJ.le;replace gV:=gV.le (by decide) DJ.le;replace kW:=kW.le DJ.le;replace Fw:=Fw.le DJ.le;replace hM:=DJ.lt hM;have:=S.size;replace S:=S.aE DJ;refine aR rfl rfl rfl (aj rfl rfl (Rg.pw (g:=150) rfl (rfl) (aq rfl rfl (aj rfl rfl (aq rfl rfl ?_)))));refine aS rfl rfl E96 (zZ hC hM Gm.may Gm.ps Gm.by_ Gm.ln) (fun akj akk hc=>?_);obtain⟨rfl,ZJ,hC⟩:=hc;have Qx:gY (sL s.2.2.1 ls (dm t)) (sM (sL s.2.2.1 ls (dm t)) ((i:Int)-1))=2147483648:=qf (by unfold sM;rw[if_pos (by omega)];omega);rw[Qx];replace S:=S.db ZJ (fun b (hb:b=bc)=>by omega);refine aq rfl rfl (iE rfl rfl rfl (aR rfl rfl rfl (al rfl rfl (ae (aW ?_)))));exact a8 rfl rfl ⟨rfl,S.back⟩
end Go.K
namespace Go.K
open Go.Proofs
namespace TKLater
theorem Ug:Enters Tryz.prog 15:=enters Tryz.func15 rfl (by decide)
theorem ZK:Enters Tryz.prog 21:=enters Tryz.func21 rfl (by decide)
theorem E25:Enters Tryz.prog 25:=enters Tryz.func25 rfl (by decide)
end TKLater
open TKLater
set_option maxRecDepth 10000
theorem TB (L:List En):(BG (jo L)).2.2.1.length=((keysOf L).map (pk L)).length:=by rw[cr];rfl
theorem HL {L:List En} (h:zT (-1) L=true) (hn:L.length≤1000000) (k:List UInt8):Ud (sL (BG (jo L)).2.2.1 ((keysOf L).map (pk L)) k):=by
 show Ud (sL (keysOf L) _ _);rw[K4];exact Si (jT h) hn _
end Go.K
namespace Go.K
open Go.Proofs
namespace TKSame10
theorem Ug:Enters Tryz.prog 15:=enters Tryz.func15 rfl (by decide)
theorem ZK:Enters Tryz.prog 21:=enters Tryz.func21 rfl (by decide)
theorem E23:Enters Tryz.prog 23:=enters Tryz.func23 rfl (by decide)
theorem Ue:Enters Tryz.prog 27:=enters Tryz.func27 rfl (by decide)
theorem E28:Enters Tryz.prog 28:=enters Tryz.func28 rfl (by decide)
theorem E30:Enters Tryz.prog 30:=enters Tryz.func30 rfl (by decide)
theorem E31:Enters Tryz.prog 31:=enters Tryz.func31 rfl (by decide)
end TKSame10
open TKSame10
set_option maxRecDepth 10000
theorem N9 {L:List En} (h:zT (-1) L=true) (hn:L.length≤100000):N5 (BG (jo L)) ((keysOf L).map (pk L)):=by
 have hF:=jT h
 have hk:(keysOf L).length≤50000000:=by
  have h1:=(k9 L).nodup.length_le_of_subset (l₂:=gZ L) (fun x hx=>jS.1 hx);have:=kT hF;omega
 refine⟨rfl,TB L,by show(L.map _).length≤_;rw[cr];omega,by show(L.map _).length≤_;rw[cr];omega,by show(keysOf L).length≤_;omega,fun l hl=>?_⟩;obtain⟨k,_,rfl⟩:=cL.1 hl;have h1:=nf k L 0 hF;have jb:dH (-1) (pk L k)=true:=qm k L 0 (-1) hF (by omega) (by omega);have nY:∀p∈pk L k,p.2.length≤500:=fun p hp=>(h1.2 p hp).2.2
 obtain⟨h2,h3⟩:=nJ (pk L k) (-1) 500 (by omega) jb nY (by omega);have hl:(pk L k).length≤L.length:=h1.1;exact⟨jb,fun p hp=>by have:=nY p hp;omega,by omega,by omega⟩
end Go.K
namespace Go.K
open Go.Proofs
namespace TKBuilds10
theorem Ug:Enters Tryz.prog 15:=enters Tryz.func15 rfl (by decide)
theorem ZK:Enters Tryz.prog 21:=enters Tryz.func21 rfl (by decide)
theorem E23:Enters Tryz.prog 23:=enters Tryz.func23 rfl (by decide)
theorem E31:Enters Tryz.prog 31:=enters Tryz.func31 rfl (by decide)
theorem E42:Enters Tryz.prog 42:=enters Tryz.func42 rfl (by decide)
end TKBuilds10
open TKBuilds10
set_option maxRecDepth 10000
theorem Bt {B:Nat}:∀{ls:List (List Po)},(∀l∈ls,(dw (-1) l).length≤B)→lF ls≤(B:Int)*ls.length
 |[],_=>by simp[lF]
 |l::ls,h=>by
  have h1:=Bt (B:=B) (ls:=ls) fun x hx=>h x (cF _ hx)
  have h2:=h l (cn ..);unfold lF at h1 ⊢;rw[eO,List.sum_cons,cK,Int.natCast_succ,Int.mul_add,Int.mul_one];omega
theorem Gn {L:List En} (h:zT (-1) L=true) (hn:L.length≤1000):lF ((keysOf L).map (pk L))≤4611686018427387904∧∀l∈(keysOf L).map (pk L),(dw (-1) l).length≤4518000:=by
 have hF:=jT h
 have hk:(keysOf L).length≤500000:=by
  have h1:=(k9 L).nodup.length_le_of_subset (l₂:=gZ L) (fun x hx=>jS.1 hx);have:=kT hF;omega
 have hB:∀l∈(keysOf L).map (pk L),(dw (-1) l).length≤4518000:=fun l hl=>by
  obtain⟨k,_,rfl⟩:=cL.1 hl;have h1:=nf k L 0 hF;have jb:dH (-1) (pk L k)=true:=qm k L 0 (-1) hF (by omega) (by omega);have nY:∀p∈pk L k,p.2.length≤500:=fun p hp=>(h1.2 p hp).2.2
  obtain⟨h2,h3⟩:=nJ (pk L k) (-1) 500 (by omega) jb nY (by omega);have hl:(pk L k).length≤L.length:=h1.1;omega
 refine⟨?_,hB⟩;have:=Bt hB;rw[cr]at this;omega
theorem Gp {M:aU} {L:List En} {t:Fd} {a:Addr} {v1 v2:Value} (w0:World) (hM:Lt M w0) (hok:zT (-1) L=true) (hn:L.length≤1000) (hs:bL RT.se M w0 (.pointer (some a)) (BG (jo L))) (hp:RT.pa.V M w0 (jo L) v1) (ht:RT.fd.V M w0 t v2):
  Spec Tryz.prog 42 #[.pointer (some a),v1,v2] w0 (fun v w=>v= .bool true∧Step M w0 M w aN):=
 Ak (s:=BG (jo L)) (ls:=(keysOf L).map (pk L)) (p:=jo L) w0 hM rfl hs (N9 hok (by omega)) (k9 L) (by show(L.map _).length=(L.map _).length;rw[cr,cr]) (Gn hok hn).1 (fun l hl=>dJ ((Gn hok hn).2 l hl) (by decide)) (HL hok (by omega) _) rfl hp ht (tT ht).1 (tT ht).2
end Go.K

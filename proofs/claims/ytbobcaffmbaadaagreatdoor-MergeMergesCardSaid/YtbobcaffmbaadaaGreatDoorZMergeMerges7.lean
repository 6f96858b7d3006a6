/- What the law 'MergeMerges' needs of walks and plain Lean, part 7: nothing is assumed beyond the texts that it imports. -/
import Derived.KernelRfl
import Derived.Test.YtbobcaffmbaadaaGreatDoorProg
import Derived.Test.YtbobcaffmbaadaaGreatDoorZMergeMerges1
import Derived.Test.YtbobcaffmbaadaaGreatDoorZMergeMerges2
import Derived.Test.YtbobcaffmbaadaaGreatDoorZMergeMerges3
import Derived.Test.YtbobcaffmbaadaaGreatDoorZMergeMerges4
import Derived.Test.YtbobcaffmbaadaaGreatDoorZMergeMerges5
import Derived.Test.YtbobcaffmbaadaaGreatDoorZMergeMerges6
set_option linter.unusedVariables false
set_option linter.unusedSimpArgs false
namespace Go.K
open Go.Proofs
namespace TKRMrg11
theorem I4:TI Tryz.prog 4 (.bool false) 1 1:=by unfold TI;kernel_rfl
theorem I50:TI Tryz.prog 50 (.slice none 0 0) 1 24:=by unfold TI;kernel_rfl
theorem tU:TI Tryz.prog 58 (.slice none 0 0) 1 24:=by unfold TI;kernel_rfl
theorem xW:TI Tryz.prog 60 (.agg #[(.slice none 0 0),(.slice none 0 0),(.slice none 0 0),(.slice none 0 0)]) 4 96:=by unfold TI;kernel_rfl
theorem wK:TI Tryz.prog 80 (.slice none 0 0) 1 24:=by unfold TI;kernel_rfl
theorem j6:TI Tryz.prog 124 (.agg #[(.int .i64 0),(.int .i64 0)]) 2 16:=by unfold TI;kernel_rfl
theorem E71:Enters Tryz.prog 71:=enters Tryz.func71 rfl q0
theorem E72:Enters Tryz.prog 72:=enters Tryz.func72 rfl q0
theorem E73:Enters Tryz.prog 73:=enters Tryz.func73 rfl q0
end TKRMrg11
open TKRMrg11
set_option maxRecDepth 10000
set_option maxHeartbeats 4000000 in
theorem Iy {M:aJ} {g:Gs} {v0 v1:Value} {w0:World} (hM:Lt M w0) (hp:(RT.pa.sl).V M w0 (g.map λp=>fa p.1) v0) (hb:((RT.bool.sl).sl).V M w0 (g.map (·.2)) v1) (hg:Kw g) (Ow:g.length<=100) (OI:∀p∈g,p.1.length<=10000) (FR:∀p∈g,(keysOf p.1).length<=100000) (OQ: ¬B5 g):
  Spec Tryz.prog 29 #[v0,v1] w0 (λv w=>Step M w0 M w aA/\∃os E vp,Mg g os E/\v= .tuple #[vp,.int .i64 0]/\RT.pa.V M w (fa E) vp):=by
 have ir:=hM;have axy:(g.map λp=>fa p.1).length=g.length:=ay ..;refine bF (args:=[_,_]) (fn:=Tryz.f29) Tryz.func29 G (n:=214) Tryz.ntmps29 ?_;have S:Step M w0 M w0 aA:=bz;refine T.aQ ?_;refine eA M xW G (λj5 fw V2 V3 jV nz=>?_);obtain⟨MA,eMA⟩:∃M',M'=ins M j5:=⟨_,rfl⟩;rw[<-eMA]at nz;have jF:MA j5:=by rw[eMA];exact .inl G
 replace hp:=hp.le nz.le;replace hb:=hb.le nz.le;have YH:=nz.lt hM;have SA:=S.aw nz;clear hM S;have hM:=YH;have S:Step MA fw MA fw aA:=bz;refine Rg.bA G G (T.aQ ?_);refine eA MA xW G (λeW zZ Qk Ql kn lz=>?_);obtain⟨lR,kJ⟩:∃M',M'=ins MA eW:=⟨_,rfl⟩;rw[<-kJ]at lz;have iP:lR eW:=by rw[kJ];exact .inl G
 change zZ.heap[eW]? =some (.cells #[.slice none 0 0,.slice none 0 0,.slice none 0 0,.slice none 0 0] _ _)at kn;replace hp:=hp.le lz.le;replace hb:=hb.le lz.le;replace hM:=lz.lt hM;have:=S.size;replace S:=S.aw lz;refine ad (T.aQ (Rg.bA G G (T.aQ (Rg.bA G G (T.aQ (aB G G ?_))))));refine ad (aI (T.aQ (Rg.bA G G (aS ?_))));refine dg (σ:=Nat×Value×Value×Value) (λq=>[(0,v0),(1,v1),(4,.pointer (some ⟨j5,0,none⟩)),(6,.pointer (some ⟨eW,0,none⟩)),(7,q.2.1),(8,q.2.2.1),(9,q.2.2.2),(10,.int .i64 (q.1:Int))]) (λq w=>q.1<=g.length/\∃M',Lt M' w/\Step MA fw M' w aA/\(RT.pa.sl).V M' w (g.map λp=>fa p.1) v0/\((RT.bool.sl).sl).V M' w (g.map (·.2)) v1/\w.heap[eW]? =some (.cells #[.slice none 0 0,.slice none 0 0,.slice none 0 0,.slice none 0 0] 60 (0,0))/\M' eW/\Own ((RT.int .i64).sl) 37 M' w fw.heap.size q.2.1 ((jc g).take q.1)/\Own ((RT.int .i64).sl) 37 M' w fw.heap.size q.2.2.1 ((im g).take q.1)/\Own (RT.str.sl) 57 M' w fw.heap.size q.2.2.2 ((g.map λp=>keysOf p.1).take q.1)/\fL q.2.1 q.2.2.1) (λq=>g.length-q.1) (0,.slice none 0 0,.slice none 0 0,.slice none 0 0) ap1 ?_ ?_
 ·exact⟨bC _,_,hM,S,hp,hb,kn,iP,dh _ _ _ _ _,dh _ _ _ _ _,dh _ _ _ _ _,fL.nil _⟩
 ·clear hM S hp hb;rintro⟨i,vs,vl,vk⟩ w ⟨hi,M1,hM,S,hp,hb,gp,cV,eC,dR,hok,qt⟩;dsimp only at hi eC dR hok qt ⊢;refine aI (T.aQ (ab G G (ab G G (bK mq G hp G (bc (v':= .int .i64 (g.length:Int)) (by rw[ay]) (ch G G G (ad ?_)))))));refine bM G (λc6=>?_) (λc6=>?_)
  ·refine aR (aI (aS (T.aQ (Rg.bA G G (T.aQ (Rg.bA G G (aI ?_)))))));refine T.aQ ?_;obtain⟨p,ke⟩:∃p,g[i]? =some p:=⟨_,al k3⟩;have FP:=au ke;have Um:(g.map λp=>fa p.1)[i]? =some (fa p.1):=by rw[bj,ke];rfl
   have P0:(g.map (·.2))[i]? =some p.2:=by rw[bj,ke];rfl
   obtain⟨TA,uQ⟩:=hg p FP;have Oc:=OI p FP;have Ga:=od p.2;refine Rg.bA G G (aS ?_);refine dg (σ:=Nat×Value×Value) (λq=>[(0,v0),(1,v1),(4,.pointer (some ⟨j5,0,none⟩)),(6,.pointer (some ⟨eW,0,none⟩)),(7,vs),(8,vl),(9,vk),(10,.int .i64 (i:Int)),(11,q.2.1),(12,q.2.2),(13,.int .i64 (q.1:Int))]) (λq w=>q.1<=p.1.length/\∃M',Lt M' w/\Step MA fw M' w aA/\(RT.pa.sl).V M' w (g.map λp=>fa p.1) v0/\((RT.bool.sl).sl).V M' w (g.map (·.2)) v1/\w.heap[eW]? =some (.cells #[.slice none 0 0,.slice none 0 0,.slice none 0 0,.slice none 0 0] 60 (0,0))/\M' eW/\Own ((RT.int .i64).sl) 37 M' w fw.heap.size vs ((jc g).take i)/\Own ((RT.int .i64).sl) 37 M' w fw.heap.size vl ((im g).take i)/\Own (RT.str.sl) 57 M' w fw.heap.size vk ((g.map λp=>keysOf p.1).take i)/\Own (RT.int .i64) 3 M' w fw.heap.size q.2.1 ((gx (p.2.take q.1)).map (rM p.1))/\Own (RT.int .i64) 3 M' w fw.heap.size q.2.2 (gx (p.2.take q.1))/\fL q.2.1 q.2.2) (λq=>p.1.length-q.1) (0,.slice none 0 0,.slice none 0 0) (.cons G a16) ?_ ?_
   ·exact⟨bC _,_,hM,S,hp,hb,gp,cV,eC,dR,hok,dh _ _ _ _ _,dh _ _ _ _ _,fL.nil _⟩
   ·clear hM S hp hb gp cV eC dR hok;rintro⟨k,vn,vo⟩ w ⟨hk,M2,hM,S,hp,hb,gp,cV,eC,dR,hok,nG,iA,T2⟩;dsimp only at hk nG iA T2 ⊢;refine aI (T.aQ (ab G G (ab G G (ab G G ?_))));refine bX mq xW G G G hp bY k3 (λaD6 x_ eo aiS=>?_);rw[an]at eo;obtain rfl:=ar (Um.symm.trans eo);refine aD (A:=RT.pa) (B:=((RT.int .i64).sl)) bJ G G iJ q0 Vv G G q0 aiS bY (λaD7 aiT=>?_);refine bE ah G G G G G aiT bY (λaD8 aiU=>?_);refine bK ah G aiU G (bc (v':= .int .i64 (p.1.length:Int)) (by show Value.int .i64 (((p.1.map _).length:Nat):Int)=_;rw[ay]) (ch rfl rfl rfl (ad ?_)));refine bM G (λGt=>?_) (λGt=>?_)
    ·refine aR (aI (aS (T.aQ (ab G G (ab G G ?_)))));refine bX Tryz.underlying54 I50 rfl rfl rfl hb bY a86 (λaD9 x_ eo aiV=>?_);rw[an]at eo;obtain rfl:=ar (P0.symm.trans eo);refine bE jH G G G G G aiV bY (λaEa aiW=>?_);refine ab G G ?_;obtain⟨b,Yt⟩:∃b,p.2[k]? =some b:=⟨_,al k3⟩;have NM:=Kp Yt;have as8:=od (p.2.take k);rw[aU]at as8;refine bX jH I4 G G G aiW bY k3 (λaEb x_ eo aiX=>?_);rw[an]at eo;obtain rfl:=ar (Yt.symm.trans eo);refine bE fm G G G G G aiX bY (λaEc aiY=>?_);obtain rfl:=Pf.1 aiY;refine bc (v':= .bool (decide (b=true))) (by simp) (ad ?_);refine bM G (λJz=>?_) (λJz=>?_)
     ·refine T.aQ (ab G G (ab G G (ab G G ?_)));refine bX mq xW G G G hp bY k3 (λaEd x_ eo aiZ=>?_);rw[an]at eo;obtain rfl:=ar (Um.symm.trans eo);refine aD (A:=RT.pa) (B:=((RT.int .i64).sl)) bJ G G iJ q0 Vv G G q0 aiZ bY (λaEe ai0=>?_);refine bE ah G G G G G ai0 bY (λv145 ai1=>?_);refine ab G G ?_;obtain⟨n,hnk⟩:∃n,(p.1.map (·.2))[k]? =some n:=⟨_,al a86⟩;have hsd:n=rM p.1 (k:Int):=by unfold rM;rw[an,ax,hnk];rfl
      refine bX ah I3 rfl rfl rfl (show((RT.int .i64).sl).V _ _ (p.1.map (·.2)) v145 from ai1) bY a86 (λaEg x_ eo ai2=>?_);rw[an]at eo;obtain rfl:=ar (hnk.symm.trans eo);refine bV aq G G ai2 bY (λWQ=>?_);refine dP (A:=RT.int .i64) (hn:=by decide) (M:=M2) ah I3 q0 G G hM (gw WQ) (.inr ⟨G,G⟩) (λaxA axB acS uu=>?_);have:=ae gp;replace cV:=(uu.mem _ this).2 cV;replace gp:=uu.aP gp;replace hp:=hp.le uu.le;replace hb:=hb.le uu.le;replace eC:=eC.aE uu;replace dR:=dR.aE uu;replace hok:=hok.aE uu;replace nG:=nG.aE uu;replace iA:=iA.aE uu;replace hM:=uu.lt hM;have:=S.size;replace S:=S.aw uu;refine fI (M:=M2) (base:=fw.heap.size) ah I3 rfl rfl rfl rfl nG acS bY (by rw[ay,cb];omega) (by rw[ay,cb];omega) S.size (λMT axC La uv acT=>?_);generalize ji (M2) MT=T3 at La uv;have MU:fL MT vo:=T2.grown acT (λb hb=>(iA.base b hb).2);replace iA:=iA.step uv (λb hb h=>T2 b h hb);replace eC:=eC.step uv (λb h1 h2=>eC.cr nG q0 h1 h2);replace dR:=dR.step uv (λb h1 h2=>dR.cr nG q0 h1 h2);replace hok:=hok.step uv (λb h1 h2=>hok.cr nG q0 h1 h2);replace cV:=(uv.mem _ (ae gp)).2 cV;replace gp:=uv.keep gp (λh=>nG.eu gp q0 h);replace hp:=hp.le uv.le;replace hb:=hb.le uv.le;replace S:=S.cC uv nG (aN _);replace hM:=uv.lt hM;replace nG:=La;clear La;refine Rg.bA G G (aH (ab G G (ab G G ?_)));refine dP (A:=RT.int .i64) (hn:=by decide) (M:=T3) ah I3 q0 G G hM (gw k3) (.inr ⟨G,G⟩) (λYK YL kO gK=>?_)
      have:=ae gp;replace cV:=(gK.mem _ this).2 cV;replace gp:=gK.aP gp;replace hp:=hp.le gK.le;replace hb:=hb.le gK.le;replace eC:=eC.aE gK;replace dR:=dR.aE gK;replace hok:=hok.aE gK;replace nG:=nG.aE gK;replace iA:=iA.aE gK;replace hM:=gK.lt hM;have:=S.size;replace S:=S.aw gK;refine fI (M:=T3) (base:=fw.heap.size) ah I3 rfl rfl rfl rfl iA kO bY aj5 aj5 S.size (λacU aEh T4 Cl ai3=>?_);generalize ji (T3) acU=aEi at T4 Cl;have acV:fL acU MT:=MU.symm.grown ai3 (λb hb=>(nG.base b hb).2);replace nG:=nG.step Cl (λb hb h=>MU.symm b h hb);replace eC:=eC.step Cl (λb h1 h2=>eC.cr iA q0 h1 h2);replace dR:=dR.step Cl (λb h1 h2=>dR.cr iA q0 h1 h2);replace hok:=hok.step Cl (λb h1 h2=>hok.cr iA q0 h1 h2);replace cV:=(Cl.mem _ (ae gp)).2 cV;replace gp:=Cl.keep gp (λh=>iA.eu gp q0 h);replace hp:=hp.le Cl.le;replace hb:=hb.le Cl.le;replace S:=S.cC Cl iA (aN _);replace hM:=Cl.lt hM;replace iA:=T4;clear T4;refine Rg.bA G G (aH (ab G G (bG G G G k3 (Rg.bA G G ?_))));refine⟨G,(k+1,MT,acU),(.cons G a16),?_,?_⟩
      ·refine⟨by dsimp only;omega,_,hM,S,hp,hb,gp,cV,eC,dR,hok,?_,?_,acV.symm⟩
       ·dsimp only;rw[NM,if_pos Jz,cG,List.map_singleton,<-hsd];exact nG
       ·dsimp only;rw[NM,if_pos Jz];exact iA
      ·dsimp only;omega
     ·refine aR (aH (ab G G (bG G G G k3 (Rg.bA G G ?_))));refine⟨G,(k+1,vn,vo),(.cons G a16),?_,?_⟩
      ·refine⟨by dsimp only;omega,_,hM,S,hp,hb,gp,cV,eC,dR,hok,?_,?_,T2⟩
       ·dsimp only;rw[NM,if_neg Jz];exact nG
       ·dsimp only;rw[NM,if_neg Jz];exact iA
      ·dsimp only;omega
    ·refine cO (T.aQ ?_);have ek:k=p.1.length:=by omega
     rw[aL k3]at nG iA;have Lb:=T2.symm;refine ab G G ?_;have qN:=nG.view (hn:=by decide) a86;replace cV:rm M2 vn _:=⟨cV,by first|exact nG.eu gp q0|(intro h;have:=(nG.base _ h).1;omega)⟩;replace hp:=hp.le (ed _ vn _);replace hb:=hb.le (ed _ vn _);replace eC:=eC.uY (v:=vn) (λb hb=>by first|exact eC.cr nG q0 hb|exact Ip b hb);replace dR:=dR.uY (v:=vn) (λb hb=>by first|exact dR.cr nG q0 hb|exact KW b hb);replace hok:=hok.uY (v:=vn) (λb hb=>by first|exact hok.cr nG q0 hb|exact KX b hb);replace iA:=iA.uY (v:=vn) (λb hb=>by first|exact iA.cr nG q0 hb|exact Lb b hb);replace hM:Lt (rm M2 vn) _:=λb hb=>hM b hb.1
     replace S:=S.freeze (v:=vn) (λb hb=>by have:=(nG.base b hb).1;omega);clear nG;have FF:=iA.view (hn:=by decide) k3;replace cV:rm (rm M2 vn) vo _:=⟨cV,by first|exact iA.eu gp q0|(intro h;have:=(iA.base _ h).1;omega)⟩;replace hp:=hp.le (ed _ vo _);replace hb:=hb.le (ed _ vo _);replace qN:=qN.le (ed _ vo _);replace eC:=eC.uY (v:=vo) (λb hb=>by first|exact eC.cr iA q0 hb|exact YQ b hb);replace dR:=dR.uY (v:=vo) (λb hb=>by first|exact dR.cr iA q0 hb|exact Lc b hb);replace hok:=hok.uY (v:=vo) (λb hb=>by first|exact hok.cr iA q0 hb|exact Ld b hb);replace hM:Lt (rm (rm M2 vn) vo) _:=λb hb=>hM b hb.1
     replace S:=S.freeze (v:=vo) (λb hb=>by have:=(iA.base b hb).1;omega);clear iA;refine ab G G ?_;refine dP (A:=((RT.int .i64).sl)) (hn:=by decide) (M:=rm (rm M2 vn) vo) cn iJ q0 G G hM (qN) (.inr ⟨G,G⟩) (λaxD axE acW uw=>?_);have:=ae gp;replace cV:=(uw.mem _ this).2 cV;replace gp:=uw.aP gp;replace hp:=hp.le uw.le;replace hb:=hb.le uw.le;replace qN:=qN.le uw.le;replace FF:=FF.le uw.le;replace eC:=eC.aE uw;replace dR:=dR.aE uw;replace hok:=hok.aE uw;replace hM:=uw.lt hM;have:=S.size;replace S:=S.aw uw;refine fI (M:=rm (rm M2 vn) vo) (base:=fw.heap.size) cn iJ rfl rfl rfl rfl eC acW bY a03 a03 S.size (λWR aEj T5 Cm ai4=>?_);generalize ji (rm (rm M2 vn) vo) WR=acX at T5 Cm;have T6:fL WR vl:=qt.grown ai4 (λb hb=>(dR.base b hb).2);replace dR:=dR.step Cm (λb hb h=>qt b h hb);replace hok:=hok.step Cm (λb h1 h2=>hok.cr eC q0 h1 h2);replace cV:=(Cm.mem _ (ae gp)).2 cV;replace gp:=Cm.keep gp (λh=>eC.eu gp q0 h);replace hp:=hp.le Cm.le;replace hb:=hb.le Cm.le;replace qN:=qN.le Cm.le;replace FF:=FF.le Cm.le;replace S:=S.cC Cm eC (aN _);replace hM:=Cm.lt hM;replace eC:=T5;clear T5;refine Rg.bA G G (T.aQ (ab G G (ab G G ?_)));refine dP (A:=((RT.int .i64).sl)) (hn:=by decide) (M:=acX) cn iJ q0 G G hM (FF) (.inr ⟨G,G⟩) (λai5 ai6 Cn jR=>?_);have:=ae gp;replace cV:=(jR.mem _ this).2 cV;replace gp:=jR.aP gp;replace hp:=hp.le jR.le;replace hb:=hb.le jR.le;replace FF:=FF.le jR.le;replace eC:=eC.aE jR;replace dR:=dR.aE jR;replace hok:=hok.aE jR;replace hM:=jR.lt hM;have:=S.size;replace S:=S.aw jR;refine fI (M:=acX) (base:=fw.heap.size) cn iJ rfl rfl rfl rfl dR Cn bY a03 a03 S.size (λv173 aEk T7 Dh ai7=>?_)
     generalize ji (acX) v173=acY at T7 Dh;have acZ:fL v173 WR:=T6.symm.grown ai7 (λb hb=>(eC.base b hb).2);replace eC:=eC.step Dh (λb hb h=>T6.symm b h hb);replace hok:=hok.step Dh (λb h1 h2=>hok.cr dR q0 h1 h2);replace cV:=(Dh.mem _ (ae gp)).2 cV;replace gp:=Dh.keep gp (λh=>dR.eu gp q0 h);replace hp:=hp.le Dh.le;replace hb:=hb.le Dh.le;replace FF:=FF.le Dh.le;replace S:=S.cC Dh dR (aN _);replace hM:=Dh.lt hM;replace dR:=T7;clear T7;refine Rg.bA G G (aH (ab G G (ab G G (ab G G ?_))));refine bX mq xW G G G hp bY k3 (λaEl x_ eo ai8=>?_);rw[an]at eo;obtain rfl:=ar (Um.symm.trans eo);refine aD (A:=RT.pa) (B:=(RT.str.sl)) bJ G G qM q0 pa2 G G q0 ai8 bY (λaEm ai9=>?_);refine bE az G G G G G ai9 bY (λaEn T8=>?_);refine dP (A:=(RT.str.sl)) (hn:=by decide) (M:=acY) iM qM q0 G G hM (T8) (.inr ⟨G,G⟩) (λaxF axG ac0 vM=>?_);have:=ae gp;replace cV:=(vM.mem _ this).2 cV;replace gp:=vM.aP gp;replace hp:=hp.le vM.le;replace hb:=hb.le vM.le;replace T8:=T8.le vM.le;replace eC:=eC.aE vM;replace dR:=dR.aE vM;replace hok:=hok.aE vM;replace hM:=vM.lt hM;have:=S.size;replace S:=S.aw vM;refine fI (M:=acY) (base:=fw.heap.size) iM qM rfl rfl rfl rfl hok ac0 bY a03 a03 S.size (λaja aEo T9 FG axH=>?_);generalize ji (acY) aja=aEp at T9 FG;replace eC:=eC.step FG (λb h1 h2=>eC.cr hok q0 h1 h2);replace dR:=dR.step FG (λb h1 h2=>dR.cr hok q0 h1 h2);replace cV:=(FG.mem _ (ae gp)).2 cV;replace gp:=FG.keep gp (λh=>hok.eu gp q0 h)
     replace hp:=hp.le FG.le;replace hb:=hb.le FG.le;replace S:=S.cC FG hok (aN _);replace hM:=FG.lt hM;replace hok:=T9;clear T9;refine Rg.bA G G (aH (ab G G (bG G G G k3 (Rg.bA G G ?_))));refine⟨G,(i+1,WR,v173,aja),ap1,?_,?_⟩
     ·refine⟨by dsimp only;omega,_,hM,S,hp,hb,gp,cV,?_,?_,?_,acZ.symm⟩
      ·dsimp only;rw[bB,show(jc g)[i]? =some ((gx p.2).map (rM p.1))from by unfold jc;rw[bj,ke];rfl];exact eC
      ·dsimp only;rw[bB,show(im g)[i]? =some (gx p.2)from by unfold im;rw[bj,ke];rfl];exact dR
      ·dsimp only;rw[bB,bj,ke];exact hok
     ·dsimp only;omega
  ·refine cO (T.aQ ?_);rw[aL (by unfold im;rw[ay];omega)]at dR;rw[aL (by unfold jc;rw[ay];omega)]at eC;rw[aL a86]at hok;have um:=qt;refine ab G G ?_;have iN:=dR.view (hn:=by decide) (by unfold im;rw[ay];omega);replace cV:rm M1 vl _:=⟨cV,by first|exact dR.eu gp q0|(intro h;have:=(dR.base _ h).1;omega)⟩;replace hp:=hp.le (ed _ vl _);replace hb:=hb.le (ed _ vl _);replace eC:=eC.uY (v:=vl) (λb hb=>by first|exact eC.cr dR q0 hb|exact um b hb);replace hok:=hok.uY (v:=vl) (λb hb=>by first|exact hok.cr dR q0 hb|exact KZ b hb);replace hM:Lt (rm M1 vl) _:=λb hb=>hM b hb.1
   replace S:=S.freeze (v:=vl) (λb hb=>by have:=(dR.base b hb).1;omega);clear dR;have kh:=eC.view (hn:=by decide) (by unfold jc;rw[ay];omega);replace cV:rm (rm M1 vl) vs _:=⟨cV,by first|exact eC.eu gp q0|(intro h;have:=(eC.base _ h).1;omega)⟩;replace hp:=hp.le (ed _ vs _);replace hb:=hb.le (ed _ vs _);replace iN:=iN.le (ed _ vs _);replace hok:=hok.uY (v:=vs) (λb hb=>by first|exact hok.cr eC q0 hb|exact Iq b hb);replace hM:Lt (rm (rm M1 vl) vs) _:=λb hb=>hM b hb.1
   replace S:=S.freeze (v:=vs) (λb hb=>by have:=(eC.base b hb).1;omega);clear eC;have iE:=hok.view (hn:=by decide) a86;replace cV:rm (rm (rm M1 vl) vs) vk _:=⟨cV,by first|exact hok.eu gp q0|(intro h;have:=(hok.base _ h).1;omega)⟩;replace hp:=hp.le (ed _ vk _);replace hb:=hb.le (ed _ vk _);replace iN:=iN.le (ed _ vk _);replace kh:=kh.le (ed _ vk _);replace hM:Lt (rm (rm (rm M1 vl) vs) vk) _:=λb hb=>hM b hb.1
   replace S:=S.freeze (v:=vk) (λb hb=>by have:=(hok.base b hb).1;omega);clear hok
   have TC:∀l∈jc g,l.length<=10000:=λl hl=>by
    obtain⟨p,hp,rfl⟩:=ck.1 hl;rw[ay];have:=od p.2;have:=OI p hp;have:=(hg p hp).2;omega
   have asb:(jc g).length=g.length:=by unfold jc;rw[ay]
   refine a8 G G E71 (K7 hM kh k3 (λl hl=>by have:=TC l hl;omega) (by have:=MF TC;have:10000*(jc g).length<=10000*1000:=Cs _ k3;omega)) (λr19 w19 hc=>?_);obtain⟨M19,aEs,Lg,vo,e19,rfl,Ir⟩:=hc;have hwb:=S.size;have:=ae gp;replace cV:=(Lg.mem _ this).2 cV;replace gp:=Lg.aP gp;replace hp:=hp.le Lg.le;replace hb:=hb.le Lg.le;replace iN:=iN.le Lg.le;replace kh:=kh.le Lg.le;replace iE:=iE.le Lg.le;replace hM:=Lg.lt hM;have:=S.size;replace S:=S.aw Lg;refine ab G G (cq G G G (cq G G G (aB G G (Rg.bA G G (aI (T.aQ (ab G G (fH G G G (ad ?_)))))))));refine bM G (λc20=>?_) (λc20=>?_)
   ·rcases Ir with⟨h1,_,_⟩|⟨_,r,hr,h|⟨out,_,rfl,_⟩⟩
    ·exact absurd (xX hg) h1
    ·exact absurd (Io hg (h.1▸hr)) OQ
    ·exact absurd G c20
   ·obtain⟨out,TD,rfl,aio,ho⟩:∃out,ta (jc g) (some out)/\e19=0/\(du out).length<=1099511627776/\Own RT.fo 124 M19 w19 w.heap.size vo (du out):=by
     rcases Ir with⟨h1,_,_⟩|⟨_,r,hr,h|⟨out,h1,h2,h3,h4⟩⟩
     ·exact absurd (xX hg) h1
     ·exact absurd (by rw[h.2.1];decide) c20
     ·exact⟨out,h1▸hr,h2,h3,h4⟩
    clear Ir;have zq:=Yp hg TD;have OJ:(ia g (du out)).length=(du out).length:=by unfold ia;rw[ay]
    have hwz:=S.size
    have hEl:((ia g (du out)).map (fy g)).length<=1000000:=by
     have h1:=zq.KU OI;rw[ay];have:g.length*10000<=100*10000:=fM _ Ow;omega
    refine aR (aI (T.aQ (Rg.bA G G (aS ?_))));refine dg (σ:=Nat×Value×Value) (λq=>[(0,v0),(4,.pointer (some ⟨j5,0,none⟩)),(6,.pointer (some ⟨eW,0,none⟩)),(8,vl),(9,vk),(14,vo),(16,.int .i64 (q.1:Int))]) (λq w=>q.1<=(du out).length/\∃M',Lt M' w/\Step MA fw M' w aA/\(RT.pa.sl).V M' w (g.map λp=>fa p.1) v0/\((RT.int .i64).sl).sl.V M' w (im g) vl/\(RT.str.sl.sl).V M' w (g.map λp=>keysOf p.1) vk/\w.heap[eW]? =some (.cells #[q.2.1,q.2.2,.slice none 0 0,.slice none 0 0] 60 (0,0))/\M' eW/\Own RT.fo 124 M' w fw.heap.size vo ((ia g (du out)).take q.1++(du out).drop q.1)/\Own (RT.int .i64) 3 M' w fw.heap.size q.2.1 ((((ia g (du out)).map (fy g)).take q.1).map (·.1.1))/\Own (RT.int .i64) 3 M' w fw.heap.size q.2.2 ((((ia g (du out)).map (fy g)).take q.1).map (·.2))/\fL q.2.1 q.2.2) (λq=>(du out).length-q.1) (0,.slice none 0 0,.slice none 0 0) a89 ?_ ?_
    ·exact⟨bC _,_,hM,S,hp,iN,iE,gp,cV,by rw[vQ,ew,List.drop_zero];exact ho.kj k3,dh _ _ _ _ _,dh _ _ _ _ _,fL.nil _⟩
    ·clear hM S hp hb iN iE gp cV ho;rintro⟨k,vi,vq⟩ w ⟨hk,M3,hM,S,hp,iN,iE,gp,cV,ho,dB,eN,qt⟩;dsimp only at hk gp ho dB eN qt ⊢;refine aI (T.aQ (ab G G (ab G G ?_)));have qb:((ia g (du out)).take k++(du out).drop k).length=(du out).length:=by rw[aY,aU,dS,OJ];omega
     refine fW dz G ho G (bc (v':= .int .i64 ((du out).length:Int)) (by rw[qb]) (ch G G G (ad ?_)));refine bM G (λc23=>?_) (λc23=>?_)
     ·refine aR (aI (aS (T.aQ (ab G G (ab G G ?_)))));obtain⟨x,O8⟩:∃x,(du out)[k]? =some x:=⟨_,al k3⟩;obtain⟨i,q,d,t,rfl,CH,htq,Wz⟩:=Tz hg TD O8;obtain⟨i',d',e,heq,hek,L,a,ke,Uz,had⟩:=zq.at_ k _ Wz;simp only[fc]at heq;obtain rfl:i=i':=by omega
      obtain rfl:d=d':=by omega
      have pX:=(aj.1 ke).1;have hdl:=(aj.1 Uz).1;have Um:(g.map λp=>fa p.1)[i]? =some (fa L):=by rw[bj,ke];rfl
      have ata:(g.map λp=>fa p.1).length=g.length:=ay ..;have hxx:((ia g (du out)).take k++(du out).drop k)[k]? =some ((i:Int),(q:Int)):=by rw[jd ak5,aU,jB k3,CA,ti];exact O8
      obtain⟨go,gc,aiq,gz,hgb,hgM,Xv⟩:=ho.tC (ho.yQ k3);rw[qb]at gz;subst gz;obtain⟨cur,ue,hc0,PW⟩:=ho.TW hxx;refine jG (size:=2) dz j6 G G G k3 (q:=k*2) k3 (Rg.uK (o:=k*2) (len:=2) cB I3 G G G k3 (aV aq G G G ue (v:= .int .i64 (i:Int)) (by simpa using hc0) (Rg.bA G G (aI ?_))));apply jU mixed rfl rfl;intro aEv atb;have Co:=atb M3;have:=ae gp;replace cV:=(Co.mem _ this).2 cV;replace gp:=Co.aP gp;replace hp:=hp.le Co.le;replace iN:=iN.le Co.le;replace iE:=iE.le Co.le;replace ho:=ho.aE Co;replace dB:=dB.aE Co;replace eN:=eN.aE Co;replace hM:=Co.lt hM;have:=S.size;replace S:=S.aw Co;refine ab G G (Rg.bL (ab G G (Rg.bL ?_)));have F3:(im g).length=g.length:=by unfold im;rw[ay]
      refine bX cn iJ G G G iN bY k3 (λaEw x_ eo ajb=>?_);rw[an]at eo;obtain rfl:=ar (CH.symm.trans eo);refine Rg.bL ?_;refine bE ah G G G G G ajb bY (λaEx ajc=>?_);refine Rg.bL (ab G G (Rg.bL (ab G G (Rg.bL (jG (size:=2) dz j6 G G G k3 (q:=k*2) k3 (Rg.bL (Rg.uK (o:=k*2) (len:=2) cB I3 G G G k3 (Rg.bL (aV aq G G G (Co.aP ue) (v:= .int .i64 (q:Int)) (by simpa using PW) (Rg.bL ?_))))))))));have hql:=(aj.1 htq).1;refine bX ah I3 G G G ajc bY k3 (λaEy x_ eo ajd=>?_);rw[an]at eo;obtain rfl:=ar (htq.symm.trans eo);refine Rg.bL ?_;refine bE aq G G G G G ajd bY (λaxJ ac1=>?_);obtain⟨rfl,hrd⟩:=ze.1 ac1;refine Rg.bL (aB G G (Rg.bL (dD (T.aQ (ab G G (ab G G (ab G G (jG (size:=2) dz j6 G G G k3 (q:=k*2) k3 (Rg.uK (o:=k*2) (len:=2) cB I3 G G G k3 ?_)))))))));obtain⟨aEz,Iz,O2,Zo,W8,⟨u0,dT,o5⟩,TF⟩:=ho.Ys hxx;refine cF (M:=M3) I3 G G Iz dT G O2 (λaEA aje Dj=>?_);have ig:=TF _ _ _ hrd aje ((Dj.mem _ (ae Iz)).2 O2);rw[MG OJ hxx Wz]at ig;replace dB:=dB.step Dj (λc hc (h:c=go)=>dB.eu Iz q0 (h▸hc));replace eN:=eN.step Dj (λc hc (h:c=go)=>eN.eu Iz q0 (h▸hc));replace cV:=(Dj.mem _ (ae gp)).2 cV;replace gp:=Dj.keep gp (fun(h:eW=go)=>ho.eu gp q0 (by rw[h];rfl));replace hp:=hp.le Dj.le;replace iN:=iN.le Dj.le;replace iE:=iE.le Dj.le;replace S:=S.cL Dj (λb hb=>by have hb:b=go:=hb;omega);replace hM:=Dj.lt hM;replace ho:=ig;clear ig ue Iz aje Xv
      refine ad (aI ?_);apply nq 10 [0,1] 1 (λb=>gy vi b) mixed rfl rfl rfl rfl;intro atc atd;have Dk:=atd M3;have:=ae gp;replace cV:=(Dk.mem _ this).2 cV;replace gp:=Dk.aP gp;replace hp:=hp.le Dk.le;replace iN:=iN.le Dk.le;replace iE:=iE.le Dk.le;replace ho:=ho.aE Dk;replace dB:=dB.aE Dk;replace eN:=eN.aE Dk;replace hM:=Dk.lt hM;have:=S.size;replace S:=S.aw Dk;refine bR (o':=0) bJ G G iJ q0 G G (Rg.bL (aV ah G G G gp G (bc (v':=vi) G (Rg.bL (ab G G (Rg.bL (ab G G (Rg.bL ?_))))))));refine bX mq xW G G G hp bY k3 (λaEB x_ eo ajf=>?_);rw[an]at eo;obtain rfl:=ar (Um.symm.trans eo);refine Rg.bL ?_;refine aD (A:=RT.pa) (B:=((RT.int .i64).sl)) bJ G G iJ q0 pa0 G G q0 ajf bY (λaEC ajg=>?_);refine Rg.bL ?_;refine bE ah G G G G G ajg bY (λate ajh=>?_);refine Rg.bL (ab G G (Rg.bL ?_));refine bX ah I3 rfl rfl rfl (show((RT.int .i64).sl).V _ _ (L.map (·.1.1)) ate from ajh) bY a86 (λaED x_ eo aji=>?_);rw[an,bj,Uz]at eo;obtain rfl:e.1.1=x_:=ar eo;refine Rg.bL ?_;refine bV aq G G aji bY (λWS=>?_);refine Rg.bL (dD (⟨eQ ⟨fk bJ G iJ q0,⟨dQ G gp (λh=>dB.eu gp q0 h),trivial⟩⟩,?_⟩));have kp:=fq (λb=>gy vi b) atc;refine dP (A:=RT.int .i64) (hn:=by decide) (M:=M3) ah I3 q0 G G hM (gw WS) (.inr ⟨G,G⟩) (λatf atg WT pR=>?_);have:=ae gp;replace cV:=(pR.mem _ this).2 cV;replace gp:=pR.aP gp;replace hp:=hp.le pR.le;replace iN:=iN.le pR.le
      replace iE:=iE.le pR.le;replace ho:=ho.aE pR;replace dB:=dB.aE pR;replace eN:=eN.aE pR;replace hM:=pR.lt hM;have:=S.size;replace S:=S.aw pR;refine(fun(kp:eB _ _ _)=>ad ⟨G,G,λ_=>kp,?_⟩) a00;refine fI (M:=M3) (base:=fw.heap.size) ah I3 rfl rfl rfl rfl dB WT bY a03 a03 S.size (λEf axK Lh vN ac2=>?_);generalize ji (M3) Ef=IA at Lh vN;have MV:fL Ef vq:=qt.grown ac2 (λb hb=>(eN.base b hb).2);replace eN:=eN.step vN (λb hb h=>qt b h hb);replace ho:=ho.step vN (λb h1 h2=>ho.cr dB q0 h1 h2);replace cV:=(vN.mem _ (ae gp)).2 cV;replace gp:=vN.keep gp (λh=>dB.eu gp q0 h);replace hp:=hp.le vN.le;replace iN:=iN.le vN.le;replace iE:=iE.le vN.le;replace S:=S.cC vN dB (aN _);replace hM:=vN.lt hM;replace dB:=Lh;clear Lh;refine ad ⟨G,G,λh=>absurd G h,bR (o':=0) bJ G G iJ q0 G G (ad ⟨G,G,λh=>absurd G h,?_⟩)⟩;refine cF (M:=IA) iJ rfl rfl gp rfl ad5 cV (λac3 Ua pS=>?_);change ac3.heap[_]? =some (Obj.cells #[Ef,vq,.slice none 0 0,.slice none 0 0] _ _)at Ua;have:=ae gp;replace cV:=(pS.mem _ this).2 cV;replace hp:=hp.le pS.le;replace iN:=iN.le pS.le;replace iE:=iE.le pS.le;replace ho:=ho.step pS (λc hc h=>ho.eu gp q0 ((show c=eW from h)▸hc));replace dB:=dB.step pS (λc hc h=>dB.eu gp q0 ((show c=eW from h)▸hc));replace eN:=eN.step pS (λc hc h=>eN.eu gp q0 ((show c=eW from h)▸hc));replace hM:=pS.lt hM;have:=S.size;replace S:=S.trans pS (λk hk h=>by have h:_=_:=h;subst h;first|(exfalso;omega)|(show _<=_;omega)|exact⟨by first|omega|assumption,(S.mem _ hk).1 ((pS.mem _ (ae gp)).1 cV)⟩|exact .inl rfl|exact .inr rfl|exact .inr (.inl rfl)|exact .inr (.inr rfl)|exact .inr (.inr (.inl rfl))|exact rfl)
      have Iu:=Ua;clear gp;have gp:=Iu;clear Iu;refine ad ⟨G,G,λh=>absurd G h,iu ?_⟩;apply nq 10 [0,1] 1 (λb=>gy vq b) mixed rfl rfl rfl rfl;intro acn aco;have nT:=aco IA;have:=ae gp;replace cV:=(nT.mem _ this).2 cV;replace gp:=nT.aP gp;replace hp:=hp.le nT.le;replace iN:=iN.le nT.le;replace iE:=iE.le nT.le;replace ho:=ho.aE nT;replace dB:=dB.aE nT;replace eN:=eN.aE nT;replace hM:=nT.lt hM;have:=S.size;replace S:=S.aw nT;refine bR (o':=1) bJ G G iJ q0 G G (Rg.bL (aV ah G G G gp G (bc (v':=vq) G (Rg.bL (ab G G (Rg.bL (ab G G (Rg.bL ?_))))))));refine bX mq xW G G G hp bY k3 (λaEE x_ eo ajj=>?_);rw[an]at eo;obtain rfl:=ar (Um.symm.trans eo);refine Rg.bL ?_;refine aD (A:=RT.pa) (B:=((RT.int .i64).sl)) bJ G G iJ q0 Vv G G q0 ajj bY (λasg TL=>?_);refine Rg.bL ?_;refine bE ah G G G G G TL bY (λath ajk=>?_);refine Rg.bL (ab G G (Rg.bL ?_));refine bX ah I3 rfl rfl rfl (show((RT.int .i64).sl).V _ _ (L.map (·.2)) ath from ajk) bY a86 (λaEF x_ eo ajl=>?_);rw[an,bj,Uz]at eo;obtain rfl:e.2=x_:=ar eo;refine Rg.bL ?_;refine bV aq G G ajl bY (λWU=>?_);refine Rg.bL (dD (⟨eQ ⟨fk bJ G iJ q0,⟨dQ G gp (λh=>eN.eu gp q0 h),trivial⟩⟩,?_⟩));have kp:=fq (λb=>gy vq b) acn;refine dP (A:=RT.int .i64) (hn:=by decide) (M:=IA) ah I3 q0 G G hM (gw WU) (.inr ⟨G,G⟩) (λati atj WV pT=>?_);have:=ae gp;replace cV:=(pT.mem _ this).2 cV
      replace gp:=pT.aP gp;replace hp:=hp.le pT.le;replace iN:=iN.le pT.le;replace iE:=iE.le pT.le;replace ho:=ho.aE pT;replace dB:=dB.aE pT;replace eN:=eN.aE pT;replace hM:=pT.lt hM;have:=S.size;replace S:=S.aw pT;refine(fun(kp:eB _ _ _)=>ad ⟨G,G,λ_=>kp,?_⟩) a00;refine fI (M:=IA) (base:=fw.heap.size) ah I3 rfl rfl rfl rfl eN WV bY a03 a03 S.size (λur aix wT jY K1=>?_);generalize ji (IA) ur=It at wT jY;have AB:fL ur Ef:=MV.symm.grown K1 (λb hb=>(dB.base b hb).2);replace dB:=dB.step jY (λb hb h=>MV.symm b h hb);replace ho:=ho.step jY (λb h1 h2=>ho.cr eN q0 h1 h2);replace cV:=(jY.mem _ (ae gp)).2 cV;replace gp:=jY.keep gp (λh=>eN.eu gp q0 h);replace hp:=hp.le jY.le;replace iN:=iN.le jY.le;replace iE:=iE.le jY.le;replace S:=S.cC jY eN (aN _);replace hM:=jY.lt hM;replace eN:=wT;clear wT;refine ad ⟨G,G,λh=>absurd G h,bR (o':=1) bJ G G iJ q0 G G (ad ⟨G,G,λh=>absurd G h,?_⟩)⟩;refine cF (M:=It) iJ rfl rfl gp rfl (by obtain⟨_,_,he,_⟩:=eN.isSlice;rw[he];rfl) cV (λac4 Ub pU=>?_);change ac4.heap[_]? =some (Obj.cells #[Ef,ur,.slice none 0 0,.slice none 0 0] _ _)at Ub;have:=ae gp;replace cV:=(pU.mem _ this).2 cV;replace hp:=hp.le pU.le;replace iN:=iN.le pU.le;replace iE:=iE.le pU.le;replace ho:=ho.step pU (λc hc h=>ho.eu gp q0 ((show c=eW from h)▸hc));replace dB:=dB.step pU (λc hc h=>dB.eu gp q0 ((show c=eW from h)▸hc));replace eN:=eN.step pU (λc hc h=>eN.eu gp q0 ((show c=eW from h)▸hc))
      replace hM:=pU.lt hM;have:=S.size;replace S:=S.trans pU (λk hk h=>by have h:_=_:=h;subst h;first|(exfalso;omega)|(show _<=_;omega)|exact⟨by first|omega|assumption,(S.mem _ hk).1 ((pU.mem _ (ae gp)).1 cV)⟩|exact .inl rfl|exact .inr rfl|exact .inr (.inl rfl)|exact .inr (.inr rfl)|exact .inr (.inr (.inl rfl))|exact rfl);have Iu:=Ub;clear gp;have gp:=Iu;clear Iu;refine ad ⟨G,G,λh=>absurd G h,iu (aH (ab G G (bG G G G k3 (Rg.bA G G ?_))))⟩;refine⟨G,(k+1,Ef,ur),a89,?_,?_⟩
      ·refine⟨by dsimp only;omega,_,hM,S,hp,iN,iE,gp,cV,ho,?_,?_,AB.symm⟩
       ·dsimp only;rw[bB,hek,bU,cG];exact dB
       ·dsimp only;rw[bB,hek,bU,cG];exact eN
      ·dsimp only;omega
     ·refine cO (T.aQ ?_);have ek:k=(du out).length:=by omega
      have ack:(ia g (du out)).take k++(du out).drop k=(ia g (du out)):=by rw[aL k3,gL k3,eJ]
      rw[ack]at ho;have FM:((ia g (du out)).map (fy g)).length=(ia g (du out)).length:=by rw[ay]
      rw[aL k3]at dB eN;refine ab G G ?_;have Dq:=Fu (ks:=g.map λp=>keysOf p.1) (a:=100000) (λl hl=>by obtain⟨p,hp,rfl⟩:=ck.1 hl;exact FR p hp);rw[ay]at Dq;have asv:100000*g.length<=100000*1000:=Cs _ (show g.length<=1000 by omega);have zi:=D8 (g.map λp=>keysOf p.1);obtain⟨hJu,hJm⟩:=qz (g.map λp=>keysOf p.1);refine a8 G G E72 (K9 _ hM iE k3) (λrJ w30 hc=>?_);obtain⟨ko,UB⟩:=hc;have:=ae gp;replace cV:=(UB.mem _ this).2 cV;replace gp:=UB.aP gp;replace hp:=hp.le UB.le;replace iN:=iN.le UB.le;replace iE:=iE.le UB.le;replace ho:=ho.aE UB;replace dB:=dB.aE UB;replace eN:=eN.aE UB;replace hM:=UB.lt hM;have:=S.size;replace S:=S.aw UB;refine Rg.bA G G (aI (T.aQ (Rg.bA G G (aS ?_))));refine dg (σ:=Nat×Value×Value) (λq=>[(0,v0),(4,.pointer (some ⟨j5,0,none⟩)),(6,.pointer (some ⟨eW,0,none⟩)),(14,vo),(19,rJ),(20,.int .i64 (q.1:Int))]) (λq w=>q.1<=(gC (g.map λp=>keysOf p.1)).length/\∃M',Lt M' w/\Step MA fw M' w aA/\(RT.pa.sl).V M' w (g.map λp=>fa p.1) v0/\(RT.str.sl).V M' w (gC (g.map λp=>keysOf p.1)) rJ/\w.heap[eW]? =some (.cells #[vi,vq,q.2.1,q.2.2] 60 (0,0))/\M' eW/\Own RT.fo 124 M' w fw.heap.size vo (ia g (du out))/\Own (RT.int .i64) 3 M' w fw.heap.size vi (((ia g (du out)).map (fy g)).map (·.1.1))/\Own (RT.int .i64) 3 M' w fw.heap.size vq (((ia g (du out)).map (fy g)).map (·.2))/\Own RT.str 9 M' w fw.heap.size q.2.1 (((gC (g.map λp=>keysOf p.1)).take q.1).filter (λk=> !(pk ((ia g (du out)).map (fy g)) k).isEmpty))/\Own (RT.po.sl) 80 M' w fw.heap.size q.2.2 ((((gC (g.map λp=>keysOf p.1)).take q.1).filter (λk=> !(pk ((ia g (du out)).map (fy g)) k).isEmpty)).map (pk ((ia g (du out)).map (fy g))))) (λq=>(gC (g.map λp=>keysOf p.1)).length-q.1) (0,.slice none 0 0,.slice none 0 0) a10 ?_ ?_
      ·exact⟨bC _,_,hM,S,hp,ko,gp,cV,ho,dB,eN,dh _ _ _ _ _,dh _ _ _ _ _⟩
      ·clear hM S hp iN iE ko gp cV ho dB eN;rintro⟨qk,wX,FU⟩ w ⟨hqk,M5,hM,S,hp,ko,gp,cV,ho,dB,eN,hok,dR⟩;dsimp only at hqk gp hok dR ⊢;refine aI (T.aQ (ab G G (ab G G (bK az G ko G (ch G G G (ad ?_))))));refine bM G (λc32=>?_) (λc32=>?_)
       ·refine aR (aI (aS (T.aQ (Rg.bA G G (aI (T.aQ ?_))))));obtain⟨key,Pb⟩:∃x,(gC (g.map λp=>keysOf p.1))[qk]? =some x:=⟨_,al k3⟩;have asH:(((gC (g.map λp=>keysOf p.1)).take qk).filter (λk=> !(pk ((ia g (du out)).map (fy g)) k).isEmpty)).length<=(gC (g.map λp=>keysOf p.1)).length:=eG (fz _ _) ak5;refine Rg.bA G G (aS ?_);refine dg (σ:=Nat×Value) (λq=>[(0,v0),(4,.pointer (some ⟨j5,0,none⟩)),(6,.pointer (some ⟨eW,0,none⟩)),(14,vo),(19,rJ),(20,.int .i64 (qk:Int)),(21,q.2),(22,.int .i64 (q.1:Int))]) (λq w=>q.1<=(ia g (du out)).length/\∃M',Lt M' w/\Step MA fw M' w aA/\(RT.pa.sl).V M' w (g.map λp=>fa p.1) v0/\(RT.str.sl).V M' w (gC (g.map λp=>keysOf p.1)) rJ/\w.heap[eW]? =some (.cells #[vi,vq,wX,FU] 60 (0,0))/\M' eW/\Own RT.fo 124 M' w fw.heap.size vo (ia g (du out))/\Own (RT.int .i64) 3 M' w fw.heap.size vi (((ia g (du out)).map (fy g)).map (·.1.1))/\Own (RT.int .i64) 3 M' w fw.heap.size vq (((ia g (du out)).map (fy g)).map (·.2))/\Own RT.str 9 M' w fw.heap.size wX (((gC (g.map λp=>keysOf p.1)).take qk).filter (λk=> !(pk ((ia g (du out)).map (fy g)) k).isEmpty))/\Own (RT.po.sl) 80 M' w fw.heap.size FU ((((gC (g.map λp=>keysOf p.1)).take qk).filter (λk=> !(pk ((ia g (du out)).map (fy g)) k).isEmpty)).map (pk ((ia g (du out)).map (fy g))))/\Own RT.po 83 M' w fw.heap.size q.2 (xE key 0 (((ia g (du out)).map (fy g)).take q.1))) (λq=>(ia g (du out)).length-q.1) (0,.slice none 0 0) ap1 ?_ ?_
        ·exact⟨bC _,_,hM,S,hp,ko,gp,cV,ho,dB,eN,hok,dR,dh _ _ _ _ _⟩
        ·clear hM S hp ko gp cV ho dB eN hok dR;rintro⟨j,zJ⟩ w ⟨hj,M6,hM,S,hp,ko,gp,cV,ho,dB,eN,hok,dR,iA⟩;dsimp only at hj iA ⊢;have Zj:=(mJ key (((ia g (du out)).map (fy g)).take j) 0 (λe he=>jQ (zq.ok hg) e (lV he))).1;rw[aU]at Zj;refine aI (T.aQ (ab G G (ab G G (fW dz G ho G (ch G G G (ad ?_))))));refine bM G (λc36=>?_) (λc36=>?_)
         ·refine aR (aI (aS (aI ?_)));apply T.AO 12 mixed rfl rfl rfl rfl rfl;intro aEJ atk;have Ah:=atk M6;have:=ae gp;replace cV:=(Ah.mem _ this).2 cV;replace gp:=Ah.aP gp;replace hp:=hp.le Ah.le;replace ko:=ko.le Ah.le;replace ho:=ho.aE Ah;replace dB:=dB.aE Ah;replace eN:=eN.aE Ah;replace hok:=hok.aE Ah;replace dR:=dR.aE Ah;replace iA:=iA.aE Ah;replace hM:=Ah.lt hM;have:=S.size;replace S:=S.aw Ah;refine ab G G (Rg.bL (ab G G (Rg.bL (ab G G (Rg.bL ?_)))));obtain⟨x,O8⟩:∃x,(ia g (du out))[j]? =some x:=⟨_,al k3⟩;obtain⟨i,d,e,rfl,hek,L,a,ke,Uz,had⟩:=zq.at_ j x O8;have pX:=(aj.1 ke).1;have Um:(g.map λp=>fa p.1)[i]? =some (fa L):=by rw[bj,ke];rfl
          have ata:(g.map λp=>fa p.1).length=g.length:=ay ..;have hLn:=OI _ (au ke);have asE:(pk L key).length<=L.length:=(mJ key L 0 (jQ (hg _ (au ke)).1)).1;dsimp only at hLn;obtain⟨go,gc,aiq,gz,hgb,hgM,Xv⟩:=ho.tC (ho.yQ k3);subst gz;obtain⟨cur,ue,hc0,PW⟩:=ho.TW O8;refine jG (size:=2) dz j6 G G G k3 (q:=j*2) k3 (Rg.bL (Rg.uK (o:=j*2) (len:=2) cB I3 G G G k3 (Rg.bL (aV aq G G G ue (v:= .int .i64 (i:Int)) (by simpa using hc0) (Rg.bL ?_)))));refine bX mq xW G G G hp bY k3 (λaEK x_ eo YR=>?_);rw[an]at eo;obtain rfl:=ar (Um.symm.trans eo);refine Rg.bL ?_;refine cW (A:=RT.pa) bJ G xW q0 G G G YR bY (λaEL YS=>?_);refine Rg.bL (ab G G (Rg.bL (ab G G (Rg.bL ?_))));refine bX az I9 G G G ko bY k3 (λaxL x_ eo ac5=>?_);rw[an]at eo;obtain rfl:=ar (Pb.symm.trans eo);refine Rg.bL ?_;refine bE aG G G G G G ac5 bY (λasz TR=>?_);obtain⟨rfl,AN⟩:=j8.1 TR;refine Rg.bL (dD ?_);refine a8 G G E73 (Il (p:=fa L) (k:=key) _ hM YS (lD L) (by show(keysOf L).length=((keysOf L).map _).length;rw[ay])) (λYT axM hc=>?_);obtain⟨pZ,sx⟩:=hc;have ajm:V5 (fa L).2.2.1 (fa L).2.2.2 key=pk L key:=Sk key;rw[ajm]at pZ;clear YS YR ue;have:=ae gp;replace cV:=(sx.mem _ this).2 cV;replace gp:=sx.aP gp;replace hp:=hp.le sx.le;replace ko:=ko.le sx.le;replace ho:=ho.aE sx;replace dB:=dB.aE sx;replace eN:=eN.aE sx;replace hok:=hok.aE sx;replace dR:=dR.aE sx;replace iA:=iA.aE sx;replace hM:=sx.lt hM
          have:=S.size;replace S:=S.aw sx;refine Rg.bA G G (T.aQ (Rg.bA G G (aS ?_)));refine dg (σ:=Nat×Value) (λq=>[(0,v0),(4,.pointer (some ⟨j5,0,none⟩)),(6,.pointer (some ⟨eW,0,none⟩)),(14,(.slice (some ⟨go,0,none⟩) (ia g (du out)).length gc)),(19,rJ),(20,.int .i64 (qk:Int)),(21,q.2),(22,.int .i64 (j:Int)),(23,YT),(24,.int .i64 (q.1:Int))]) (λq w=>q.1<=(pk L key).length/\∃M',Lt M' w/\Step MA fw M' w aA/\(RT.pa.sl).V M' w (g.map λp=>fa p.1) v0/\(RT.str.sl).V M' w (gC (g.map λp=>keysOf p.1)) rJ/\w.heap[eW]? =some (.cells #[vi,vq,wX,FU] 60 (0,0))/\M' eW/\Own RT.fo 124 M' w fw.heap.size (.slice (some ⟨go,0,none⟩) (ia g (du out)).length gc) (ia g (du out))/\Own (RT.int .i64) 3 M' w fw.heap.size vi (((ia g (du out)).map (fy g)).map (·.1.1))/\Own (RT.int .i64) 3 M' w fw.heap.size vq (((ia g (du out)).map (fy g)).map (·.2))/\Own RT.str 9 M' w fw.heap.size wX (((gC (g.map λp=>keysOf p.1)).take qk).filter (λk=> !(pk ((ia g (du out)).map (fy g)) k).isEmpty))/\Own (RT.po.sl) 80 M' w fw.heap.size FU ((((gC (g.map λp=>keysOf p.1)).take qk).filter (λk=> !(pk ((ia g (du out)).map (fy g)) k).isEmpty)).map (pk ((ia g (du out)).map (fy g))))/\(RT.po.sl).V M' w (pk L key) YT/\Own RT.po 83 M' w fw.heap.size q.2 (xE key 0 (((ia g (du out)).map (fy g)).take j)++FB (pk L key) d j q.1)) (λq=>(pk L key).length-q.1) (0,zJ) a16 ?_ ?_
          ·exact⟨bC _,_,hM,S,hp,ko,gp,cV,ho,dB,eN,hok,dR,pZ,by show Own _ _ _ _ _ _ (_++[]);rw[eJ];exact iA⟩
          ·clear hM S hp ko gp cV ho dB eN hok dR pZ iA;rintro⟨b,v7⟩ w ⟨hb7,M7,hM,S,hp,ko,gp,cV,ho,dB,eN,hok,dR,pZ,iA⟩;dsimp only at hb7 iA ⊢;refine aI (T.aQ (ab G G (ab G G (bK bu G pZ G (ch G G G (ad ?_))))));refine bM G (λc40=>?_) (λc40=>?_)
           ·refine aR (aI (aS (aI ?_)));apply jU mixed rfl rfl;intro aEN atl;have y8:=atl M7;have:=ae gp;replace cV:=(y8.mem _ this).2 cV;replace gp:=y8.aP gp;replace hp:=hp.le y8.le;replace ko:=ko.le y8.le;replace pZ:=pZ.le y8.le;replace ho:=ho.aE y8;replace dB:=dB.aE y8;replace eN:=eN.aE y8;replace hok:=hok.aE y8;replace dR:=dR.aE y8;replace iA:=iA.aE y8;replace hM:=y8.lt hM;have:=S.size;replace S:=S.aw y8;refine ab G G (Rg.bL (ab G G (Rg.bL ?_)));obtain⟨x,hxb⟩:∃x,(pk L key)[b]? =some x:=⟨_,al k3⟩;have Lz:=OL (d:=d) (n:=j) hxb;have hdl:=TX (pk L key) d j b;obtain⟨cur,ue,hc0,PW⟩:=ho.TW O8;refine bX bu ng G G G pZ bY k3 (λaEO x_ eo ajn=>?_);rw[an]at eo;obtain rfl:=ar (hxb.symm.trans eo);refine Rg.bL ?_;refine aD (A:=RT.po) (B:=RT.int .i64) bW G G I3 q0 Nv G G q0 ajn bY (λaEP ajo=>?_);refine Rg.bL ?_;refine bV aq G G ajo bY (λakQ=>?_);refine bc (v':= .int .i64 x.1) G (Rg.bL (ab G G (Rg.bL (ab G G (Rg.bL (jG (size:=2) dz j6 G G G k3 (q:=j*2) k3 (Rg.bL (Rg.uK (o:=j*2) (len:=2) cB I3 G G G k3 (Rg.bL (aV aq G G G ue (v:= .int .i64 (d:Int)) (by simpa using PW) (Rg.bL ?_)))))))))));refine sJ G G G (Rg.bL (dD ?_));refine bM G (λc42=>?_) (λc42=>?_)
            ·refine aH (ab G G (ab G G (ab G G (ab G G ?_))));refine bX bu ng G G G pZ bY k3 (λaEQ x_ eo ajp=>?_);rw[an]at eo;obtain rfl:=ar (hxb.symm.trans eo);refine aD (A:=RT.po) (B:=((RT.int .i64).sl)) bW G G iJ q0 Xm G G q0 ajp bY (λaER ajq=>?_);refine bE ah G G G G G ajq bY (λaES YU=>?_);obtain⟨ua,uc,rfl,_,_,_⟩:=jg.1 YU;refine ie (places:=[(0,1),(1,1)]) bW ng ZE rfl ⟨_,_,rfl,rfl,_,_,rfl,rfl,rfl⟩ (out:=[_,_]) ⟨0,[_],rfl,rfl,by simp[Value.cells],1,[_],rfl,rfl,by simp[Value.cells],rfl⟩ ?_;refine dP (A:=RT.po) (hn:=by decide) (M:=M7) bu ng q0 G G hM (Yu (ps:=x.2) k3 YU) (.inl G) (λaxN axO Lj qG=>?_);have:=ae gp;replace cV:=(qG.mem _ this).2 cV;replace gp:=qG.aP gp;replace hp:=hp.le qG.le;replace ko:=ko.le qG.le;replace pZ:=pZ.le qG.le;replace ho:=ho.aE qG;replace dB:=dB.aE qG;replace eN:=eN.aE qG;replace hok:=hok.aE qG;replace dR:=dR.aE qG;replace iA:=iA.aE qG;replace hM:=qG.lt hM;have:=S.size;replace S:=S.aw qG;refine cN (M:=M7) (base:=fw.heap.size) bu ng rfl rfl rfl rfl iA Lj bY (by rw[aY,cb];omega) (by rw[aY,cb];omega) (S.size) (λajr axP axQ ac6 qH=>?_);have:=ae gp;replace cV:=(qH.mem _ this).2 cV;replace gp:=qH.keep gp (λh=>by first|exact iA.eU gp h|exact iA.eu gp q0 h|(have:=(iA.base _ h).1;omega));replace hp:=hp.le qH.le;replace ko:=ko.le qH.le;replace pZ:=pZ.le qH.le;replace Lj:=Lj.le qH.le;replace ho:=ho.step qH (λb h1 h2=>ho.cr iA q0 h1 h2);replace dB:=dB.step qH (λb h1 h2=>dB.cr iA q0 h1 h2)
             replace eN:=eN.step qH (λb h1 h2=>eN.cr iA q0 h1 h2);replace hok:=hok.step qH (λb h1 h2=>hok.cr iA q0 h1 h2);replace dR:=dR.step qH (λb h1 h2=>dR.cr iA q0 h1 h2);replace hM:=qH.lt hM;have:=S.size;replace S:=S.cC qH iA (aN _);replace iA:=ac6;refine Rg.bA G G (aH (ab G G (bG G G G k3 (Rg.bA G G ?_))));refine⟨G,(b+1,ajr),a16,?_,?_⟩
             ·refine ⟨by dsimp only;omega,_,hM,S,hp,ko,gp,cV,ho,dB,eN,hok,dR,pZ,?_⟩;dsimp only;rw[Lz,if_pos c42,<-eR];exact iA
             ·dsimp only;omega
            ·refine aR (aH (ab G G (bG G G G k3 (Rg.bA G G ?_))));refine⟨G,(b+1,v7),a16,?_,?_⟩
             ·refine ⟨by dsimp only;omega,_,hM,S,hp,ko,gp,cV,ho,dB,eN,hok,dR,pZ,?_⟩;dsimp only;rw[Lz,if_neg c42];exact iA
             ·dsimp only;omega
           ·refine cO (aH (ab G G (bG G G G k3 (Rg.bA G G ?_))));refine⟨G,(j+1,v7),ap1,?_,?_⟩
            ·refine ⟨by dsimp only;omega,_,hM,S,hp,ko,gp,cV,ho,dB,eN,hok,dR,?_⟩;dsimp only;rw[bB,hek,bU,xF,aU,jB k3,fh,<-acH (n:=j) Uz];have hdf:FB (pk L key) d j b=((pk L key).filter (λq=>decide (q.1=(d:Int)))).map (λq=>(((j:Nat):Int),q.2)):=by unfold FB;rw[aL k3]
             rw[hdf]at iA;exact iA
            ·dsimp only;omega
         ·refine cO (T.aQ ?_);rw[aL k3]at iA;have acw:=mJ key ((ia g (du out)).map (fy g)) 0 (jQ (zq.ok hg));refine ab G G ?_;have Pc:=iA.view (hn:=by decide) (by have:=acw.1;omega);replace cV:rm M6 zJ _:=⟨cV,by first|exact iA.eu gp q0|(intro h;have:=(iA.base _ h).1;omega)⟩;replace hp:=hp.le (ed _ zJ _);replace ko:=ko.le (ed _ zJ _);replace ho:=ho.uY (v:=zJ) (λb hb=>by first|exact ho.cr iA q0 hb|exact ad0 b hb);replace dB:=dB.uY (v:=zJ) (λb hb=>by first|exact dB.cr iA q0 hb|exact ac7 b hb);replace eN:=eN.uY (v:=zJ) (λb hb=>by first|exact eN.cr iA q0 hb|exact ac8 b hb);replace hok:=hok.uY (v:=zJ) (λb hb=>by first|exact hok.cr iA q0 hb|exact Ld b hb);replace dR:=dR.uY (v:=zJ) (λb hb=>by first|exact dR.cr iA q0 hb|exact Lc b hb);replace hM:Lt (rm M6 zJ) _:=λb hb=>hM b hb.1
          replace S:=S.freeze (v:=zJ) (λb hb=>by have:=(iA.base b hb).1;omega);clear iA;refine bK bu G Pc G (iX G G G (ad ?_));refine bM G (λc44=>?_) (λc44=>?_)
          ·refine aI ?_;apply nq 6 [0,1] 1 (λb=>gy wX b) mixed rfl rfl rfl rfl;intro atm atn;have Ai:=atn (rm M6 zJ);have:=ae gp;replace cV:=(Ai.mem _ this).2 cV;replace gp:=Ai.aP gp;replace hp:=hp.le Ai.le;replace ko:=ko.le Ai.le;replace Pc:=Pc.le Ai.le;replace ho:=ho.aE Ai;replace dB:=dB.aE Ai;replace eN:=eN.aE Ai;replace hok:=hok.aE Ai;replace dR:=dR.aE Ai;replace hM:=Ai.lt hM;have:=S.size;replace S:=S.aw Ai;refine bR (o':=2) bJ G G qM q0 G G (Rg.bL (aV az G G G gp G (bc (v':=wX) G (Rg.bL (ab G G (Rg.bL (ab G G (Rg.bL ?_))))))));refine bX az I9 G G G ko bY k3 (λaEU x_ eo ajs=>?_);rw[an]at eo;obtain rfl:=ar (Pb.symm.trans eo);refine Rg.bL ?_;refine bE aG G G G G G ajs bY (λaEV ajt=>?_);obtain⟨rfl,AN⟩:=j8.1 ajt;refine Rg.bL (dD (⟨eQ ⟨fk bJ G qM q0,⟨dQ G gp (λh=>hok.eu gp q0 h),trivial⟩⟩,?_⟩));have kp:=fq (λb=>gy wX b) atm;refine dP (A:=RT.str) (hn:=by decide) (M:=rm M6 zJ) az I9 q0 G G hM (j8.2 ⟨G,AN⟩) (.inr ⟨G,G⟩) (λaxR axS ac9 sy=>?_);have:=ae gp;replace cV:=(sy.mem _ this).2 cV;replace gp:=sy.aP gp;replace hp:=hp.le sy.le;replace ko:=ko.le sy.le;replace Pc:=Pc.le sy.le;replace ho:=ho.aE sy;replace dB:=dB.aE sy;replace eN:=eN.aE sy;replace hok:=hok.aE sy;replace dR:=dR.aE sy;replace hM:=sy.lt hM;have:=S.size;replace S:=S.aw sy;refine(fun(kp:eB _ _ _)=>ad ⟨G,G,λ_=>kp,?_⟩) a00;refine fI (M:=rm M6 zJ) (base:=fw.heap.size) az I9 rfl rfl rfl rfl hok ac9 bY a03 a03 S.size (λWW aEW Uc Aj axT=>?_)
           generalize ji (rm M6 zJ) WW=WX at Uc Aj;replace ho:=ho.step Aj (λb h1 h2=>ho.cr hok q0 h1 h2);replace dB:=dB.step Aj (λb h1 h2=>dB.cr hok q0 h1 h2);replace eN:=eN.step Aj (λb h1 h2=>eN.cr hok q0 h1 h2);replace dR:=dR.step Aj (λb h1 h2=>dR.cr hok q0 h1 h2);replace cV:=(Aj.mem _ (ae gp)).2 cV;replace gp:=Aj.keep gp (λh=>hok.eu gp q0 h);replace hp:=hp.le Aj.le;replace ko:=ko.le Aj.le;replace Pc:=Pc.le Aj.le;replace S:=S.cC Aj hok (aN _);replace hM:=Aj.lt hM;replace hok:=Uc;clear Uc;refine ad ⟨G,G,λh=>absurd G h,bR (o':=2) bJ G G qM q0 G G (ad ⟨G,G,λh=>absurd G h,?_⟩)⟩;refine cF (M:=WX) qM rfl rfl gp rfl (by obtain⟨_,_,he,_⟩:=hok.isSlice;rw[he];rfl) cV (λaju YV sC=>?_);change aju.heap[_]? =some (Obj.cells #[vi,vq,WW,FU] _ _)at YV;have:=ae gp;replace cV:=(sC.mem _ this).2 cV;replace hp:=hp.le sC.le;replace ko:=ko.le sC.le;replace Pc:=Pc.le sC.le;replace ho:=ho.step sC (λc hc h=>ho.eu gp q0 ((show c=eW from h)▸hc));replace dB:=dB.step sC (λc hc h=>dB.eu gp q0 ((show c=eW from h)▸hc));replace eN:=eN.step sC (λc hc h=>eN.eu gp q0 ((show c=eW from h)▸hc));replace hok:=hok.step sC (λc hc h=>hok.eu gp q0 ((show c=eW from h)▸hc));replace dR:=dR.step sC (λc hc h=>dR.eu gp q0 ((show c=eW from h)▸hc));replace hM:=sC.lt hM;have:=S.size;replace S:=S.trans sC (λk hk h=>by have h:_=_:=h;subst h;first|(exfalso;omega)|(show _<=_;omega)|exact⟨by first|omega|assumption,(S.mem _ hk).1 ((sC.mem _ (ae gp)).1 cV)⟩|exact .inl rfl|exact .inr rfl|exact .inr (.inl rfl)|exact .inr (.inr rfl)|exact .inr (.inr (.inl rfl))|exact rfl);have Iu:=YV;clear gp;have gp:=Iu;clear Iu;refine ad ⟨G,G,λh=>absurd G h,iu (aH (bR (o':=3) bJ G G tU q0 G G (aV cH G G G gp G (bc (v':=FU) G (ab G G ?_)))))⟩
           refine dP (A:=(RT.po.sl)) (hn:=by decide) (M:=WX) cH wK q0 G G hM (Pc) (.inr ⟨G,G⟩) (λaxU axV ada sG=>?_);have:=ae gp;replace cV:=(sG.mem _ this).2 cV;replace gp:=sG.aP gp;replace hp:=hp.le sG.le;replace ko:=ko.le sG.le;replace Pc:=Pc.le sG.le;replace ho:=ho.aE sG;replace dB:=dB.aE sG;replace eN:=eN.aE sG;replace hok:=hok.aE sG;replace dR:=dR.aE sG;replace hM:=sG.lt hM;have:=S.size;replace S:=S.aw sG;refine fI (M:=WX) (base:=fw.heap.size) cH wK rfl rfl rfl rfl dR ada bY a03 a03 S.size (λadb aEX Ud Cp axW=>?_);generalize ji (WX) adb=ato at Ud Cp;replace ho:=ho.step Cp (λb h1 h2=>ho.cr dR q0 h1 h2);replace dB:=dB.step Cp (λb h1 h2=>dB.cr dR q0 h1 h2);replace eN:=eN.step Cp (λb h1 h2=>eN.cr dR q0 h1 h2);replace hok:=hok.step Cp (λb h1 h2=>hok.cr dR q0 h1 h2);replace cV:=(Cp.mem _ (ae gp)).2 cV;replace gp:=Cp.keep gp (λh=>dR.eu gp q0 h);replace hp:=hp.le Cp.le;replace ko:=ko.le Cp.le;replace S:=S.cC Cp dR (aN _);replace hM:=Cp.lt hM;replace dR:=Ud;clear Ud;refine bR (o':=3) bJ G G tU q0 G G ?_;refine cF (M:=ato) tU rfl rfl gp rfl ak3 cV (λajv YW uy=>?_);change ajv.heap[_]? =some (Obj.cells #[vi,vq,WW,adb] _ _)at YW;have:=ae gp;replace cV:=(uy.mem _ this).2 cV;replace hp:=hp.le uy.le;replace ko:=ko.le uy.le;replace ho:=ho.step uy (λc hc h=>ho.eu gp q0 ((show c=eW from h)▸hc));replace dB:=dB.step uy (λc hc h=>dB.eu gp q0 ((show c=eW from h)▸hc));replace eN:=eN.step uy (λc hc h=>eN.eu gp q0 ((show c=eW from h)▸hc));replace hok:=hok.step uy (λc hc h=>hok.eu gp q0 ((show c=eW from h)▸hc))
           replace dR:=dR.step uy (λc hc h=>dR.eu gp q0 ((show c=eW from h)▸hc));replace hM:=uy.lt hM;have:=S.size;replace S:=S.trans uy (λk hk h=>by have h:_=_:=h;subst h;first|(exfalso;omega)|(show _<=_;omega)|exact⟨by first|omega|assumption,(S.mem _ hk).1 ((uy.mem _ (ae gp)).1 cV)⟩|exact .inl rfl|exact .inr rfl|exact .inr (.inl rfl)|exact .inr (.inr rfl)|exact .inr (.inr (.inl rfl))|exact rfl);have Iu:=YW;clear gp;have gp:=Iu;clear Iu;refine ad (aH (ab G G (bG G G G k3 (Rg.bA G G ?_))));refine⟨G,(qk+1,WW,adb),a10,?_,?_⟩
           ·have TT:(λk=> !(pk ((ia g (du out)).map (fy g)) k).isEmpty) key=true:=by
             cases hx:pk ((ia g (du out)).map (fy g)) key with
             |nil=>have h9:(xE key 0 ((ia g (du out)).map (fy g))).length=0:=congrArg List.length hx;omega
             |cons a b=>show(!(pk ((ia g (du out)).map (fy g)) key).isEmpty)=true;rw[hx];rfl
            refine⟨by dsimp only;omega,_,hM,S,hp,ko,gp,cV,ho,dB,eN,?_,?_⟩
            ·dsimp only;rw[jA Pb,if_pos TT];exact hok
            ·dsimp only;rw[jA Pb,if_pos TT,cG];exact dR
           ·dsimp only;omega
          ·refine aR (aH (ab G G (bG G G G k3 (Rg.bA G G ?_))));refine⟨G,(qk+1,wX,FU),a10,?_,?_⟩
           ·have qU:pk ((ia g (du out)).map (fy g)) key=[]:=List.eq_nil_of_length_eq_zero (by show(xE key 0 ((ia g (du out)).map (fy g))).length=0;omega);refine⟨by dsimp only;omega,_,hM,S,hp,ko,gp,cV,ho,dB,eN,?_,?_⟩
            ·dsimp only;rw[jA Pb,if_neg (by rw[qU];simp)];exact hok
            ·dsimp only;rw[jA Pb,if_neg (by rw[qU];simp)];exact dR
           ·dsimp only;omega
       ·refine cO (T.aQ (gJ (vs:=[vi,vq,wX,FU]) bJ G xW G G G gp ?_));have TV:=D5 zq hJu (λx=>(hJm x).trans ⟨fun⟨l,hl,hx⟩=>(ck.1 hl).elim λp hp=>⟨p,hp.1,hp.2▸hx⟩,fun⟨p,hp,hx⟩=>⟨_,ck.2 ⟨p,hp,rfl⟩,hx⟩⟩);rw[aL k3,TV]at hok dR
        have hkE:(keysOf ((ia g (du out)).map (fy g))).length<=1000000000:=by
         rw[<-TV];exact eG (fz _ _) k3
        obtain⟨_,_,hea,_⟩:=dB.isSlice;obtain⟨_,_,heb,_⟩:=eN.isSlice;obtain⟨_,_,hec,_⟩:=hok.isSlice;obtain⟨_,_,hed,_⟩:=dR.isSlice;have gR:=S.aP jV;have mR:=(S.mem _ (ae jV)).2 jF;refine ej (M:=M5) (vs:=[vi,vq,wX,FU]) xW G G (by intro u hu;simp at hu;rcases hu with rfl|rfl|rfl|rfl<;>first|(rw[hea];rfl)|(rw[heb];rfl)|(rw[hec];rfl)|(rw[hed];rfl)) rfl rfl gR mR (λwF gF sF=>?_);refine Rg.bA G G (aT ?_);have Fq:=SA.size;have SS:=(SA.aw S).cL sF (λk (hk:k=j5)=>by omega);have ab6:=dB.step sF (λb hb (hn:b=j5)=>dB.eu gR q0 (hn▸hb));have atp:=eN.step sF (λb hb (hn:b=j5)=>eN.eu gR q0 (hn▸hb));have atq:=hok.step sF (λb hb (hn:b=j5)=>hok.eu gR q0 (hn▸hb));have ab7:=dR.step sF (λb hb (hn:b=j5)=>dR.eu gR q0 (hn▸hb));exact acG (vs:=[vi,vq,wX,FU]) G G G bJ G xW G gF ⟨SS.back,_,_,_,zq,G,NX (x:=fa ((ia g (du out)).map (fy g))) (gT (hn:=by decide) ir SS (ab6.kj Fq) af1) (gT (hn:=by decide) ir SS (atp.kj Fq) af1) (gT (hn:=by decide) ir SS (atq.kj Fq) (by show(keysOf _).length<=_;omega)) (gT (hn:=by decide) ir SS (ab7.kj Fq) (by show((keysOf _).map _).length<=_;rw[ay];omega))⟩
end Go.K
namespace Go.K
open Go.Proofs
namespace TKAs11
theorem tU:TI Tryz.prog 58 (.slice none 0 0) 1 24:=by unfold TI;kernel_rfl
theorem xW:TI Tryz.prog 60 (.agg #[(.slice none 0 0),(.slice none 0 0),(.slice none 0 0),(.slice none 0 0)]) 4 96:=by unfold TI;kernel_rfl
theorem E4:TI Tryz.prog 72 (.agg #[(.slice none 0 0),(.slice none 0 0),(.slice none 0 0),(.slice none 0 0)]) 4 96:=by unfold TI;kernel_rfl
theorem B60:placesOf Tryz.prog 60=[(0,1),(1,1),(2,1),(3,1)].map some:=by kernel_rfl
theorem E32:Enters Tryz.prog 32:=enters Tryz.func32 rfl q0
end TKAs11
open TKAs11
set_option maxRecDepth 10000
theorem OM {M:aJ} {s:Se} {ls:List (List Po)} {o:Addr} (w0:World) (hM:Lt M w0) (hs:dv RT.se M w0 (.pointer (some o)) s) (ok:ab4 s ls):
  Spec Tryz.prog 31 #[.pointer (some o)] w0 (λv w=>RT.pa.V M w (partsOf s ls) v/\Step M w0 M w aA):=by
 have ir:=hM;refine bF (args:=[_]) (fn:=Tryz.f31) Tryz.func31 G (n:=18) Tryz.ntmps31 ?_;have S:Step M w0 M w0 aA:=bz;refine T.aQ ?_;refine eA M xW G (λj5 fw V2 V3 jV nz=>?_);obtain⟨hY,tV⟩:∃M',M'=ins M j5:=⟨_,rfl⟩;rw[<-tV]at nz;have jF:hY j5:=by rw[tV];exact .inl G
 change fw.heap[j5]? =some (.cells #[.slice none 0 0,.slice none 0 0,.slice none 0 0,.slice none 0 0] _ _)at jV;replace hs:=hs.le q0 nz.le;replace hM:=nz.lt hM;have:=S.size;replace S:=S.aw nz;refine ad (aI (T.aQ (ab G G (Rg.Xn kC G G G (ad (T.zQ G ((by simp)) (aR (T.aQ (ab G G ?_)))))))));refine a8 G G E32 (Ij _ hM hs ok.hls ok.hdl ok.hn1 ok.hn2 ok.hd6 ok.hok) (λr3 w3 hc=>?_);obtain⟨OY,s3⟩:=hc;have:=ae jV;replace jF:=(s3.mem _ this).2 jF;replace jV:=s3.aP jV;replace hs:=hs.le q0 s3.le;replace hM:=s3.lt hM;have:=S.size;replace S:=S.aw s3;refine vS (A:=RT.pa) (M:=hY) E4 G G G G G W4 bY hM (λVm ana xx Bw anb=>?_);have:=ae jV;replace jF:=(Bw.mem _ this).2 jF;replace jV:=Bw.aP jV;replace hs:=hs.le q0 Bw.le;replace OY:=OY.le Bw.le;replace hM:=Bw.lt hM;have:=S.size;replace S:=S.aw Bw;refine ad (T.aQ ?_);refine aD (M:=hY) (A:=RT.pa) (B:=(RT.int .i64).sl) bT G G iJ q0 (pa0) G G q0 W4 (by repeat (first|exact bH _ _|refine aZ (bI W4) ?_)) (λVg DC=>?_);refine bE ah G G G G G DC bY (λv40 WY=>?_);refine aD (M:=hY) (A:=RT.pa) (B:=(RT.int .i64).sl) bT G G iJ q0 (Vv) G G q0 W4 (by repeat (first|exact bH _ _|refine aZ (bI W4) ?_)) (λJo k5=>?_);refine bE ah G G G G G k5 bY (λv41 pO=>?_);refine aD (M:=hY) (A:=RT.pa) (B:=RT.str.sl) bT G G qM q0 (pa2) G G q0 W4 (by repeat (first|exact bH _ _|refine aZ (bI W4) ?_)) (λaE0 ajw=>?_);refine bE az G G G G G ajw bY (λv42 WZ=>?_)
 refine aD (M:=hY) (A:=RT.pa) (B:=((RT.po).sl).sl) bT G G tU q0 (XS) G G q0 W4 (by repeat (first|exact bH _ _|refine aZ (bI W4) ?_)) (λaE1 ajx=>?_);refine bE cH G G G G G ajx bY (λv43 Ig=>?_);refine ie (places:=[(0,1),(1,1),(2,1),(3,1)]) bJ xW B60 rfl ⟨_,_,rfl,rfl,_,_,rfl,rfl,_,_,rfl,rfl,_,_,rfl,rfl,rfl⟩ (out:=[v40,v41,v42,v43]) ⟨0,[_],rfl,jo WY,by simp[Value.cells],1,[_],rfl,jo pO,by simp[Value.cells],2,[_],rfl,jo WZ,by simp[Value.cells],3,[_],rfl,jo Ig,by simp[Value.cells],rfl⟩ ?_;refine ej (M:=hY) (vs:=[v40,v41,v42,v43]) xW G G ar0 rfl rfl jV jF (λwF gF sF=>?_);have:=ae jV;replace jF:=(sF.mem _ this).2 jF;replace hs:=hs.le q0 sF.le;replace OY:=OY.le sF.le;replace xx:=xx.le q0 sF.le;replace WY:=WY.le sF.le;replace pO:=pO.le sF.le;replace WZ:=WZ.le sF.le;replace Ig:=Ig.le sF.le;replace hM:=sF.lt hM;have:=S.size;replace S:=S.trans sF (λk hk h=>by have h:_=_:=h;subst h;first|(exfalso;omega)|(show _<=_;omega)|exact⟨by first|omega|assumption,(S.mem _ hk).1 ((sF.mem _ (ae jV)).1 jF)⟩|exact .inl rfl|exact .inr rfl|exact .inr (.inl rfl)|exact .inr (.inr rfl)|exact .inr (.inr (.inl rfl))|exact rfl);have YX:=gF;clear jV;have jV:=YX;clear YX;refine ad (aT ?_);have lc:=CC ir S;exact yv (vs:=[v40,v41,v42,v43]) G G bJ G xW G jV ⟨NX (WY.le lc) (pO.le lc) (WZ.le lc) (Ig.le lc),S.back⟩
end Go.K
namespace Go.K
open Go.Proofs
namespace TKBPut
theorem Oj:TI Tryz.prog 131 (.slice none 0 0) 1 24:=by unfold TI;kernel_rfl
theorem Fb:TI Tryz.prog 190 (.int .u64 0) 1 8:=by unfold TI;kernel_rfl
theorem ag6:Enters Tryz.prog 117:=enters Tryz.func117 rfl q0
theorem abF:Enters Tryz.prog 174:=enters Tryz.func174 rfl q0
theorem ag7:Enters Tryz.prog 175:=enters Tryz.func175 rfl q0
end TKBPut
open TKBPut
set_option maxRecDepth 10000
theorem Ue {M:aJ} {w0:World} {n:Nat} {ws:List Nat} {bs bw:Nat} (h:kH 133 190 n ws M w0 bs bw) {i:Int} (hi:0<=i/\i<n) (hf:bit ws i.toNat=false):
  Spec Tryz.prog 117 #[.pointer (some ⟨bs,0,none⟩),.int .i64 i,.bool false] w0 (λv' w'=>∃IG,kH 133 190 n IG M w' bs bw/\(∀j:Nat,bit IG j=(bit ws j||decide ((j:Int)=i)))/\Step M w0 M w' (λb=>b=bw)):=by
 have hS:=h.s;have hW:=h.w;have hlen:=h.len;have hok:=h.ok;have Zd:=h.nn;have hmw:∀b:Nat,b=bw->M b:=λb hb=>by rw[hb];exact h.mw
 refine bF (args:=[_,_,_]) (fn:=Tryz.f117) Tryz.func117 G (n:=31) Tryz.ntmps117 (T.aQ (Rg.bA G G (aI (T.aQ (ab G G (ab G G ?_))))));refine a8 G G abF (Mv h) (λr wc h=>?_);obtain⟨rfl,rfl⟩:=h;refine kU G G (bc (v':= .bool (decide (¬(0<=i/\i<n)))) (by rw[decide_not]) (ab G G ?_));refine aW (g:=11) G (λVY=>?_) (λVY=>?_)
 ·refine ao G G G G (ao G G G G (ao G G G G (ao G G G G (ao G G G G (bm G G G (ad (kT G (T.aQ (Rg.bA G G ?_)))))))));refine aT ?_;exfalso
  first
  |omega
  |(apply c1;unfold UX;rw[hf,Bool.and_false])
  |(unfold UX at c1;rw[hf,Bool.and_false]at c1;simp at c1)
 ·refine ak G G (ab G G (ak G G (ab G G (ak G G ?_))));refine a8 G G ag7 (SG h) (λr wc h=>?_);obtain⟨rfl,rfl⟩:=h;refine ak G G (ab G G (ak G G (Rg.bne fm G G G (aM G G G (ad ?_)))));refine bM G (λc1=>?_) (λc1=>?_)
  ·refine T.aQ (Rg.bA G G (aT ?_));exfalso
   first
   |omega
   |(apply c1;unfold UX;rw[hf,Bool.and_false])
   |(unfold UX at c1;rw[hf,Bool.and_false]at c1;simp at c1)
  ·refine aR (aI ?_);obtain⟨j,rfl⟩:∃j:Nat,i=j:=⟨i.toNat,by omega⟩;rw[an]at hf;apply T.Dt (M:=M) mixed [] [cM.eq _,cM.eq _,cM.eq _,cM.eq (.slice (some ⟨bw,0,none⟩) ws.length ws.length),cM.eq _,cM.eq _,cM.eq (.pointer (some ⟨bw,((j:Int)/64).toNat,none⟩)),cM.eq (.int .u64 ((ws.getD (j/64) 0:Nat):Int)),cM.eq _,cM.eq _,cM.eq (.int .u64 ((2^(j%64):Nat):Int)),cM.eq (.int .u64 (((ws.getD (j/64) 0^^^2^(j%64)):Nat):Int)),cM.eq (.pointer (some ⟨bw,((j:Int)/64).toNat,none⟩))] 13
   ·rfl
   ·rfl
   ·rfl
   ·rfl
   ·rfl
   ·exact aj3
   ·exact yn.none
   ·refine aO ?_ ?_
    ·intro wD E sD;refine ab G G ?_;exact a01
    refine aO ?_ ?_
    ·intro wD E sD;refine aC (cu G ⟨_,G⟩ G ?_);exact a01
    refine aO ?_ ?_
    ·intro wD E sD;refine aC (bR vW G G Oj q0 G G ?_);exact a01
    refine aO ?_ ?_
    ·intro wD E sD;refine aC (aV oh G G G (dE sD W4) G ?_);exact a01
    refine aO ?_ ?_
    ·intro wD E sD;refine ab G G ?_;exact a01
    refine aO ?_ ?_
    ·intro wD E sD;refine aC (Rg.zT G G G k3 ?_);exact a01
    refine aO ?_ ?_
    ·intro wD E sD;refine aC (aC (Rg.CM oh Fb G G G k3 ?_));exact a01
    refine aO ?_ ?_
    ·intro wD E sD;refine aC (aV vT rfl rfl rfl (sD.aP hW) (v:= .int .u64 ((ws.getD (j/64) 0:Nat):Int)) (by rw[show(((j:Int)/64)).toNat=j/64 from by omega];exact rj k3) ?_);exact a01
    refine aO ?_ ?_
    ·intro wD E sD;refine ab G G ?_;exact a01
    refine aO ?_ ?_
    ·intro wD E sD;refine aC (Rg.zU G G G k3 ?_);exact a01
    refine aO ?_ ?_
    ·intro wD E sD;refine aC (Rg.shl G G G k3 (bc (v':= .int .u64 ((2^(j%64):Nat):Int)) (congrArg _ (by rw[show((j:Int)%64)=((j%64:Nat):Int)from by omega];exact aly _ k3)) ?_));exact a01
    refine aO ?_ ?_
    ·intro wD E sD;refine aC (aC (Rg.xor G G G (bc (v':= .int .u64 (((ws.getD (j/64) 0^^^2^(j%64)):Nat):Int)) (congrArg _ (aev _ _ (hok.get _) (Nat.pow_lt_pow_right q0 k3))) ?_)));exact a01
    refine aO ?_ ?_
    ·intro wD E sD;refine aC (aC (aC (aC (aC (aC (aC (aC (aC (aC (aC (aC ?_)))))))))));refine aC (aC (Rg.CM oh Fb G G G k3 ?_));exact a01
    exact vV
   ·intro wD3 rX;refine aC (aC (aC (aC (aC (aC (aC (aC (aC (aC (aC (aC ?_)))))))))));refine aC ?_;refine cF (M:=M) (u:= .int .u64 ((ws.getD (j/64) 0:Nat):Int)) Fb rfl rfl (rX.aP hW) (by rw[show((j:Int)/64).toNat=j/64 from by omega];exact rj k3) G h.mw (λw5 hW5 s5=>?_);rw[show((j:Int)/64).toNat=j/64 from by omega,Jf]at hW5;refine ad (T.aQ (Rg.bA G G (aT ?_)));have hX:(ws.getD (j/64) 0^^^2^(j%64))<2^64:=Nat.xor_lt_two_pow (hok.get _) (Nat.pow_lt_pow_right q0 k3);refine aX G G ⟨ws.set (j/64) (ws.getD (j/64) 0^^^2^(j%64)),(h.step rX (λh=>h) (λh=>h)).put s5 (by simp) hW5 (hok.set hX),λt=>?_,(rX.eL a42 hmw).trans s5 (λ_ _ h=>h)⟩;rw[PM hok k3];by_cases ht:t=j
    ·subst ht;rw[hf];simp
    ·rw[decide_eq_false ht,Bool.xor_false,decide_eq_false k3,Bool.or_false]
theorem Eg {M:aJ} {w0:World} {n:Nat} {ws:List Nat} {bs bw:Nat} (h:kH 133 190 n ws M w0 bs bw) {i:Int} (hi:0<=i/\i<n) (hf:bit ws i.toNat=false):
  Spec Tryz.prog 68 #[.pointer (some ⟨bs,0,none⟩),.int .i64 i] w0 (λv' w'=>∃IG,kH 133 190 n IG M w' bs bw/\(∀j:Nat,bit IG j=(bit ws j||decide ((j:Int)=i)))/\Step M w0 M w' (λb=>b=bw)):=by
 refine bF (args:=[_,_]) (fn:=Tryz.f68) Tryz.func68 G (n:=8) Tryz.ntmps68 (T.aQ (Rg.bA G G (T.aQ (ab G G (ab G G ?_)))));refine a8 G G ag6 (Ue h hi hf) (λr1 w1 h=>?_);obtain⟨IG,h1,h2,h3⟩:=h;refine Rg.bA G G (aT ?_);exact aX G G ⟨IG,h1,h2,h3⟩
theorem kH.att {M M' N:aJ} {w0 w:World} {n:Nat} {ws:List Nat} {bs bw:Nat} {a:List Bool} (hM:Lt M w0) (h:kH 133 190 n ws M' w bs bw) (z1:w0.heap.size<=bs) (z2:w0.heap.size<=bw) (ha:a.length=n) (hb:∀j,bit ws j=true↔a[j]? =some true):C8 M w a bs:=
 ⟨ws,⟨bw,⟨trivial,trivial,h.ne,by rw[ha];exact h.s,h.w,by rw[ha];exact h.len,h.ok,by rw[ha];exact h.nn⟩,λhb=>by have:=hM _ hb;omega,λhb=>by have:=hM _ hb;omega⟩,hb⟩
end Go.K
namespace Go.K
open Go.Proofs
namespace TKLives11
theorem j6:TI Tryz.prog 124 (.agg #[(.int .i64 0),(.int .i64 0)]) 2 16:=by unfold TI;kernel_rfl
theorem E59:Enters Tryz.prog 59:=enters Tryz.func59 rfl q0
end TKLives11
open TKLives11
set_option maxRecDepth 10000
theorem FH {M:aJ} {w0:World} (hM:Lt M w0):
  Spec Tryz.prog 25 #[] w0 (λv' w'=>v'= .bool true/\Step M w0 M w' aA):=by
 refine bF (args:=[]) (fn:=Tryz.f25) Tryz.func25 G (n:=36) Tryz.ntmps25 (T.aQ (Rg.bA G G (T.aQ ?_)));refine Rg.sln (A:=RT.int .i64) (hn:=by decide) (M:=M) (xs:=[1,4]) ah I3 G q0 G ⟨1,[4],_,G,G,G,gw k3,4,[],_,G,G,G,gw k3,G⟩ G hM (.inr ⟨G,G⟩) q0 (λu1 w1 o5 s1=>?_);refine dP (A:=RT.int .i64) (hn:=by decide) (M:=M) ah I3 q0 G G (s1.lt hM) (gw (x:=2) q0) (.inr ⟨G,G⟩) (λu2 w2 mu s2=>?_);refine Rg.sln (A:=((RT.int .i64).sl)) (hn:=by decide) (M:=M) (xs:=[[1,4],[2]]) cn iJ G q0 G ⟨_,_,_,G,G,G,o5.le s2.le,_,_,_,G,G,G,mu,G⟩ G (s2.lt (s1.lt hM)) (.inr ⟨G,G⟩) q0 (λu3 w3 kA s3=>?_);have S3:=(s1.aw s2).aw s3;refine a8 G G E59 (H7 (S3.lt hM) kA q0 q0 q0) (λr4 w4 h=>?_);obtain⟨⟨vo,e,rfl,ho⟩,s4⟩:=h;have S4:=S3.aw s4
 obtain⟨rfl,gz⟩:e=0/\((RT.fo).sl).V M w4 (du [((1:Int),(0:Int),(0:Int)),(2,1,0),(4,0,1)]) vo:=by
  rcases ho with⟨h,_⟩|⟨_,r,h2,h3⟩
  ·exact absurd SB h
  ·obtain rfl:=h2.un Oi;rcases h3 with⟨h,_⟩|⟨out,h4,h5,h6⟩
   ·cases h
   ·cases h4;exact⟨h5,h6⟩
 replace gz:((RT.fo).sl).V M w4 [((0:Int),(0:Int)),(1,0),(0,1)] vo:=gz;refine ab G G (cq G G G (cq G G G (aB G G (Rg.bA G G (aI (T.aQ (ab G G (bK dz G gz G (fH G G G ?_)))))))));refine ad (T.zQ G ((λh=>h rfl)) (aR (T.aQ (ab G G ?_))));refine bX dz j6 G G G (gz) bY a48 (λae5 atu ajy afi=>?_);obtain rfl:(0,0)=atu:=dw (ar (ajy.symm.trans rfl));refine cW (A:=RT.fo) cB G j6 q0 G G G W4 bY (λva ny=>?_);obtain⟨rfl,_,_⟩:=uI ny;refine Rg.PR cB j6 I3 G G G (Rg.Jg cB aq I3 a92 a92 G G G (ab G G (Rg.Lr (g:=18) G (G) (ak G G (ab G G (ak G G ?_))))));refine bX dz j6 G G G (gz) bY a48 (λaE3 atv ajz axY=>?_);obtain rfl:(1,0)=atv:=dw (ar (ajz.symm.trans rfl));refine ak G G ?_;refine cW (A:=RT.fo) cB G j6 q0 G G G W4 bY (λva ny=>?_);obtain⟨rfl,_,_⟩:=uI ny;refine ak G G (Rg.PR cB j6 I3 G G G (ak G G (Rg.Jg cB aq I3 a92 a92 G G G (bm G G G (ab G G (Rg.Lr (g:=25) G (G) (ak G G (ab G G (ak G G ?_)))))))));refine bX dz j6 G G G (gz) bY a48 (λagp RP J9 aa1=>?_);obtain rfl:(0,1)=RP:=dw (ar (J9.symm.trans rfl));refine ak G G ?_;refine cW (A:=RT.fo) cB G j6 q0 G G G W4 bY (λva ny=>?_);obtain⟨rfl,_,_⟩:=uI ny;refine ak G G (Rg.PR cB j6 I3 G G G (ak G G (Rg.Jg cB aq I3 a92 a92 G G G (bm G G G (ab G G (Rg.Lr (g:=32) G (G) (ak G G (ab G G (ak G G (sJ G G G (bm G G G ?_)))))))))))
 refine Rg.bA G G (aT ?_);exact aX G G ⟨G,S4⟩
end Go.K
namespace Go.K
open Go.Proofs
namespace TKNone11
theorem O4:TI Tryz.prog 25 (.pointer none) 1 8:=by unfold TI;kernel_rfl
theorem Wi:TI Tryz.prog 47 (.pointer none) 1 8:=by unfold TI;kernel_rfl
theorem E11:Enters Tryz.prog 11:=enters Tryz.func11 rfl q0
theorem E12:Enters Tryz.prog 12:=enters Tryz.func12 rfl q0
theorem E22:Enters Tryz.prog 22:=enters Tryz.func22 rfl q0
theorem E24:Enters Tryz.prog 24:=enters Tryz.func24 rfl q0
theorem E25:Enters Tryz.prog 25:=enters Tryz.func25 rfl q0
theorem E34:Enters Tryz.prog 34:=enters Tryz.func34 rfl q0
theorem E38:Enters Tryz.prog 38:=enters Tryz.func38 rfl q0
end TKNone11
open TKNone11
set_option maxRecDepth 10000
theorem ON {L:List En} (h:wW (-1) L=true):(keysOf L).length<=500*L.length:=by
 have h1:=(lD L).nodup.length_le_of_subset (l₂:=jb L) (λx hx=>ka.1 hx);have:=mK (jQ h);omega
end Go.K
namespace Go.K
open Go.Proofs
namespace TKSet11
theorem I4:TI Tryz.prog 4 (.bool false) 1 1:=by unfold TI;kernel_rfl
theorem E24:Enters Tryz.prog 24:=enters Tryz.func24 rfl q0
theorem E68:Enters Tryz.prog 68:=enters Tryz.func68 rfl q0
end TKSet11
open TKSet11
set_option maxRecDepth 10000
def qI (l:List Bool) (n:Nat):List Bool:=(List.range n).map λi=>(l[i]?).getD true
theorem me (l:List Bool) (n:Nat):(qI l n).length=n:=by unfold qI;simp
theorem FI {l:List Bool} {n i:Nat} (h:i<n):(qI l n)[i]? =some ((l[i]?).getD true):=by unfold qI;rw[bj,Cu h];rfl
def y9 (l:List Bool) (n i:Nat):List Bool:=qI l i++List.replicate (n-i) false
theorem IB {l:List Bool} {n i:Nat} (h:i<=n):(y9 l n i).length=n:=by unfold y9;rw[aY,me,db];omega
theorem IC {l:List Bool} {n i:Nat} {b:Bool} (h:i<n) (hb:b=(l[i]?).getD true):(y9 l n i).set i b=y9 l n (i+1):=by
 unfold y9;rw[List.set_append_right _ _ (by rw[me];omega),me,CA,show n-i=(n-(i+1))+1 from by omega,List.replicate_succ,List.set_cons_zero,hb];unfold qI;rw[List.range_succ,cG,eR];rfl
theorem MW {l:List Bool} {n i:Nat}:(y9 l n (i+1))[i]? =some ((l[i]?).getD true):=by
 unfold y9;rw[fP (by rw[me];omega),FI k3]
theorem Lk {M:aJ} {w0:World} {l:List Bool} {v0:Value} {n:Nat} (hM:Lt M w0) (hv:(RT.bool.sl).V M w0 l v0) (hn:n<=1000000):
  Spec Tryz.prog 27 #[v0,.int .i64 (n:Int)] w0 (λv w=>∃r bs,v= .tuple #[r,.pointer (some ⟨bs,0,none⟩)]/\(RT.bool.sl).V M w (qI l n) r/\C8 M w (qI l n) bs/\Step M w0 M w aA):=by
 have ir:=hM;refine bF (args:=[_,_]) (fn:=Tryz.f27) Tryz.func27 G (n:=44) Tryz.ntmps27 ?_;have S:Step M w0 M w0 aA:=bz;refine T.aQ (aB G G (Rg.bA G G (T.aQ (ab G G ?_))));refine Rg.mk0 M jH I4 G G G G k3 k3 (λbr w1 z1 z1' Pd s1=>?_);generalize hMq:ins M br=Mq at s1;have Uf:Mq br:=by rw[<-hMq];exact .inl G
 replace hv:=hv.le s1.le;replace hM:=s1.lt hM;have:=S.size;replace S:=S.aw s1;refine Rg.bA G G (T.aQ (ab G G ?_));refine a8 G G E24 (Om (M:=Mq) (n:=n) k3) (λr2 w2 hc=>?_);obtain⟨bs,bw,rfl,z2,z3,s2,hs⟩:=hc;generalize hMn:ins (ins Mq bw) bs=Mn at s2 hs;have ajA:=s2.aP Pd;have YY:Mn br:=(s2.mem br (ae Pd)).2 Uf;clear Pd Uf;have Pd:=ajA;have Uf:=YY;clear ajA YY;have nbs:bs≠br:=by have:=z2;omega
 have Ym:bw≠br:=by have:=z3;omega
 replace hv:=hv.le s2.le;replace hM:=s2.lt hM;have:=S.size;replace S:=S.aw s2;refine Rg.bA G G (aI (T.aQ (Rg.bA G G (aS ?_))));refine dg (σ:=Nat×List Nat) (λq=>[(0,v0),(1,.int .i64 (n:Int)),(6,.slice (some ⟨br,0,none⟩) n n),(7,.pointer (some ⟨bs,0,none⟩)),(8,.int .i64 (q.1:Int))]) (λq w=>q.1<=n/\Lt Mn w/\Step M w0 Mn w aA/\(RT.bool.sl).V Mn w l v0/\w.heap[br]? =some (.cells (nA (y9 l n q.1)) 4 (0,0))/\kH 133 190 n q.2 Mn w bs bw/\∀j,bit q.2 j=true↔j<q.1/\(l[j]?).getD true=true) (λq=>n-q.1) (0,List.replicate ((n+63)/64) 0) a19 ?_ ?_
 ·exact⟨bC _,hM,S,hv,by rw[Pd];unfold y9 qI nA;simp,hs,λj=>by rw[PQ];constructor<;>intro h<;>(try cases h);omega⟩
 ·clear S hv hM Pd hs;rintro⟨i,ws⟩ w ⟨hi,hM,S,hv,Pd,hs,hb⟩;dsimp only at hi Pd hs hb ⊢;refine aI (T.aQ (ab G G (ab G G (ch G G G (ad ?_)))));refine bM G (λc4=>?_) (λc4=>?_)
  ·refine aR (aI (aS (T.aQ (ab G G (ab G G (ab G G (ab G G (bK jH G hv G (eP G G G (ab G G ?_))))))))));refine aW (g:=24) G (λZM=>?_) (λZM=>?_)
   ·refine ao G G G G (ao G G G G (ao G G G G (ao G G G G (bm G G G (Rg.CM jH I4 G G G k3 ?_)))));obtain⟨bo,Kb⟩:=Cj (l:=y9 l n i) (i:=i) (by rw[IB k3];omega);refine cF (M:=Mn) (u:= .bool bo) I4 rfl rfl Pd (by rw[an];exact Kb) G Uf (λw6 g6 s6=>?_);rw[an,Ck,IC k3 (by first|(rw[cE k3];rfl)|(rw[IP];rfl))]at g6;replace hv:=hv.le s6.le;replace S:=S.cL s6 (λb (hb:b=br)=>by omega);replace hM:=s6.lt hM;replace hs:=hs.step s6 nbs Ym;refine ad (T.aQ (ab G G (ab G G (Rg.CM jH I4 G G G k3 ?_))));refine aV fm rfl rfl rfl g6 (v:= .bool ((l[i]?).getD true)) (by rw[an];unfold nA;rw[ec,bj,MW];rfl) ?_;generalize hx:(l[i]?).getD true=x;refine bc (v':= .bool (decide (x=true))) (by simp) (ab G G ?_);refine aW (g:=35) G (λLl=>?_) (λLl=>?_)
    ·refine ak G G (ab G G (ak G G (Rg.PG qa G G G (bc (v':= .bool true) (by simp) (bm G G G (ad (kT G (aH (ab G G (ab G G ?_))))))))))
     have V4:bit ws i=false:=by
      cases h:bit ws i with
      |false=>rfl
      |true=>have:=((hb i).1 h).1;omega
     refine a8 G G E68 (Eg (i:=(i:Int)) hs k3 (by rw[an];exact V4)) (λr8 w8 hc=>?_);obtain⟨IG,sr,Lv,s8⟩:=hc;have g8:=s8.keep g6 (λh=>Ym h.symm);replace hv:=hv.le s8.le;replace S:=S.cL s8 (λb (hb:b=bw)=>by omega);replace hM:=s8.lt hM;refine ad (aH (ab G G (bG G G G k3 (Rg.bA G G ?_))));refine⟨G,(i+1,IG),a19,?_,?_⟩
     ·refine ⟨by dsimp only;omega,hM,S,hv,g8,sr,λj=> ?_⟩;dsimp only;rw[Lv j,lL,hb j,decide_eq_true_eq];constructor
      ·rintro(⟨h1,h2⟩|h)
       ·exact⟨by omega,h2⟩
       ·obtain rfl:j=i:=by omega
        exact⟨by omega,hx.trans Ll⟩
      ·rintro⟨h1,h2⟩;rcases cQ j i with h|h
       ·exact .inl ⟨h,h2⟩
       ·exact .inr k3
     ·dsimp only;omega
    ·refine ao G G G G (ao G G G G (aM G G G (ad (jD G (aR (aH (ab G G (bG G G G k3 (Rg.bA G G ?_)))))))));refine⟨G,(i+1,ws),a19,?_,?_⟩
     ·refine ⟨by dsimp only;omega,hM,S,hv,g6,hs,λj=> ?_⟩;dsimp only;rw[hb j];constructor
      ·rintro⟨h1,h2⟩;exact⟨by omega,h2⟩
      ·rintro⟨h1,h2⟩;rcases cQ j i with h|h
       ·exact⟨h,h2⟩
       ·obtain rfl:j=i:=by omega
        exact absurd (hx.symm.trans h2) Ll
     ·dsimp only;omega
   ·refine ak G G (ab G G (ak G G (ab G G (ak G G ?_))));obtain⟨lb,IP⟩:∃b,l[i]? =some b:=⟨_,al k3⟩;refine bX jH I4 G G G hv bY k3 (λu69 y' eo atC=>?_);rw[an]at eo;obtain rfl:=ar (IP.symm.trans eo);refine ak G G ?_;refine bE fm G G G G G atC bY (λaE4 ajB=>?_);obtain rfl:=Pf.1 ajB;refine aM G G G (Rg.CM jH I4 G G G k3 ?_);obtain⟨bo,Kb⟩:=Cj (l:=y9 l n i) (i:=i) (by rw[IB k3];omega);refine cF (M:=Mn) (u:= .bool bo) I4 rfl rfl Pd (by rw[an];exact Kb) G Uf (λw6 g6 s6=>?_);rw[an,Ck,IC k3 (by first|(rw[cE k3];rfl)|(rw[IP];rfl))]at g6;replace hv:=hv.le s6.le;replace S:=S.cL s6 (λb (hb:b=br)=>by omega);replace hM:=s6.lt hM;replace hs:=hs.step s6 nbs Ym;refine ad (T.aQ (ab G G (ab G G (Rg.CM jH I4 G G G k3 ?_))));refine aV fm rfl rfl rfl g6 (v:= .bool ((l[i]?).getD true)) (by rw[an];unfold nA;rw[ec,bj,MW];rfl) ?_;generalize hx:(l[i]?).getD true=x;refine bc (v':= .bool (decide (x=true))) (by simp) (ab G G ?_);refine aW (g:=35) G (λLl=>?_) (λLl=>?_)
    ·refine ak G G (ab G G (ak G G (Rg.PG qa G G G (bc (v':= .bool true) (by simp) (bm G G G (ad (kT G (aH (ab G G (ab G G ?_))))))))))
     have V4:bit ws i=false:=by
      cases h:bit ws i with
      |false=>rfl
      |true=>have:=((hb i).1 h).1;omega
     refine a8 G G E68 (Eg (i:=(i:Int)) hs k3 (by rw[an];exact V4)) (λr8 w8 hc=>?_);obtain⟨IG,sr,Lv,s8⟩:=hc;have g8:=s8.keep g6 (λh=>Ym h.symm);replace hv:=hv.le s8.le;replace S:=S.cL s8 (λb (hb:b=bw)=>by omega);replace hM:=s8.lt hM;refine ad (aH (ab G G (bG G G G k3 (Rg.bA G G ?_))));refine⟨G,(i+1,IG),a19,?_,?_⟩
     ·refine ⟨by dsimp only;omega,hM,S,hv,g8,sr,λj=> ?_⟩;dsimp only;rw[Lv j,lL,hb j,decide_eq_true_eq];constructor
      ·rintro(⟨h1,h2⟩|h)
       ·exact⟨by omega,h2⟩
       ·obtain rfl:j=i:=by omega
        exact⟨by omega,hx.trans Ll⟩
      ·rintro⟨h1,h2⟩;rcases cQ j i with h|h
       ·exact .inl ⟨h,h2⟩
       ·exact .inr k3
     ·dsimp only;omega
    ·refine ao G G G G (ao G G G G (aM G G G (ad (jD G (aR (aH (ab G G (bG G G G k3 (Rg.bA G G ?_)))))))));refine⟨G,(i+1,ws),a19,?_,?_⟩
     ·refine ⟨by dsimp only;omega,hM,S,hv,g6,hs,λj=> ?_⟩;dsimp only;rw[hb j];constructor
      ·rintro⟨h1,h2⟩;exact⟨by omega,h2⟩
      ·rintro⟨h1,h2⟩;rcases cQ j i with h|h
       ·exact⟨h,h2⟩
       ·obtain rfl:j=i:=by omega
        exact absurd (hx.symm.trans h2) Ll
     ·dsimp only;omega
  ·refine cO (T.aQ (ab G G (ab G G (aB G G (Rg.bA G G (aT ?_))))));have e:i=n:=by omega
   subst e;have e2:y9 l i i=qI l i:=by unfold y9;rw[CA];simp
   rw[e2]at Pd;have hV:=WO (M:=M) Pd (λh=>by have:=ir _ h;omega) (by rw[me];omega);rw[me]at hV
   have hB:=hs.att (N:=aA) (a:=qI l i) ir k3 k3 (me _ _) (λj=>by
    rw[hb j];constructor
    ·rintro⟨h1,h2⟩;rw[FI h1,h2]
    ·intro h;have h1:j<i:=by have:=(aj.1 h).1;rw[me]at this;exact this
     rw[FI h1]at h;exact⟨h1,ar h⟩)
   exact fA G G G ⟨_,bs,G,hV,hB,S.back⟩
end Go.K
namespace Go.K
open Go.Proofs
namespace TKKeeps11
theorem I4:TI Tryz.prog 4 (.bool false) 1 1:=by unfold TI;kernel_rfl
theorem O4:TI Tryz.prog 25 (.pointer none) 1 8:=by unfold TI;kernel_rfl
theorem Wi:TI Tryz.prog 47 (.pointer none) 1 8:=by unfold TI;kernel_rfl
theorem E4:TI Tryz.prog 72 (.agg #[(.slice none 0 0),(.slice none 0 0),(.slice none 0 0),(.slice none 0 0)]) 4 96:=by unfold TI;kernel_rfl
theorem E11:Enters Tryz.prog 11:=enters Tryz.func11 rfl q0
theorem E12:Enters Tryz.prog 12:=enters Tryz.func12 rfl q0
theorem E22:Enters Tryz.prog 22:=enters Tryz.func22 rfl q0
theorem E25:Enters Tryz.prog 25:=enters Tryz.func25 rfl q0
theorem E27:Enters Tryz.prog 27:=enters Tryz.func27 rfl q0
theorem E32:Enters Tryz.prog 32:=enters Tryz.func32 rfl q0
theorem E33:Enters Tryz.prog 33:=enters Tryz.func33 rfl q0
theorem E34:Enters Tryz.prog 34:=enters Tryz.func34 rfl q0
end TKKeeps11
open TKKeeps11
set_option maxRecDepth 10000
end Go.K
namespace Go.K
open Go.Proofs
namespace TKDeal11
theorem L6:TI Tryz.prog 29 (.slice none 0 0) 1 24:=by unfold TI;kernel_rfl
end TKDeal11
open TKDeal11
set_option maxRecDepth 10000
theorem FJ {M:aJ} {w:World} {xs:List Int} {v:Value} (h:((RT.int .i64).sl).V M w xs v) (i:Nat): -9223372036854775808<=xs.getD i 0/\xs.getD i 0<=9223372036854775807:=by
 obtain⟨a,cap,_,_,_,hs⟩:=jg.1 h;rw[ax];rcases hs with rfl|⟨b,o,_,_,h3⟩
 ·simp
 ·cases hi:xs[i]? with
  |none=>exact⟨by decide,by decide⟩
  |some x=>obtain⟨vs,hr,_⟩:=h3 i x hi;exact hr.2
theorem ade {α:Type} {A:RT α} {hn:0<A.n} {M:aJ} {w:World} {b:Nat} {e:TypeId} {vs:List Value} {ls:List (List α)} (h:w.heap[b]? =some (.cells vs.toArray e (0,0))) (hb: ¬M b) (hl:vs.length=ls.length) (hx:∀(j:Nat) (v:Value) (l:List α),vs[j]? =some v->ls[j]? =some l->(A.sl hn).V M w l v) (hm:ls.length<=140737488355328):((A.sl hn).sl (hn:=Nat.one_pos)).V M w ls (.slice (some ⟨b,0,none⟩) ls.length ls.length):=
 jg.2 ⟨_,_,rfl,aN _,hm,.inr ⟨b,0,rfl,hb,λi l hi=>by
  obtain⟨v,hv⟩:∃v,vs[i]? =some v:=⟨_,al (by rw[hl];exact(aj.1 hi).1)⟩;obtain⟨us,⟨a,cap,rfl,h3⟩,h2⟩:=hx i v l hv hi;refine ⟨_,⟨a,cap,G,h3⟩,λj u hj=> ?_⟩
  cases j with
  |zero=>
   simp at hj;subst hj;refine gA h ?_;show vs.toArray[0+i*1+0]? =_;rw[ec,show 0+i*1+0=i by omega,hv];exact congrArg some h2
  |succ j=>simp at hj⟩⟩
structure pV (M:aJ) (w:World) (base:Nat) (vs:List Value) (f:Nat->List En):Prop where
 own:∀(j:Nat) (v:Value),vs[j]? =some v->Own RT.en 71 M w base v (f j)
 apart:∀(j j':Nat) (v v':Value),vs[j]? =some v->vs[j']? =some v'→j≠j'→fL v v'
theorem pV.step {M M' N:aJ} {w w':World} {base:Nat} {vs:List Value} {f:Nat->List En} (h:pV M w base vs f) (s:Step M w M' w' N) (hn:∀(j:Nat) (v:Value) (c:Nat),vs[j]? =some v->v.ownBlock=some c->¬N c):pV M' w' base vs f:=
 ⟨λj v hv=>(h.own j v hv).step s (λc hc=>hn j v c hv hc),h.apart⟩
theorem pV.aE {M M':aJ} {w w':World} {base:Nat} {vs:List Value} {f:Nat->List En} (h:pV M w base vs f) (s:Step M w M' w' aA):pV M' w' base vs f:=h.step s λ_ _ _ _ _ h=>h
theorem pV.grow {M M':aJ} {w w':World} {base k:Nat} {vs:List Value} {f f':Nat->List En} {v v':Value} (h:pV M w base vs f) (hk:vs[k]? =some v) (s:Step M w M' w' (gy v)) (ho:Own RT.en 71 M' w' base v' (f' k)) (hF:∀b,v'.ownBlock=some b->w.heap.size<=b\/v.ownBlock=some b) (hf:∀j,j≠k->f' j=f j):pV M' w' base (vs.set k v') f':=by
 have AN:=(aj.1 hk).1
 have hg:∀j u,(vs.set k v')[j]? =some u->(j=k/\u=v')\/(j≠k/\vs[j]? =some u):=λj u hj=>by
  rw[dN]at hj;by_cases e:k=j
  ·rw[if_pos e,if_pos k3]at hj;exact .inl ⟨e.symm,(ar hj).symm⟩
  ·rw[if_neg e]at hj;exact .inr ⟨λh=>e h.symm,hj⟩
 refine⟨λj u hj=>?_,λj j' u u' hj Xk fG=>?_⟩
 ·rcases hg j u hj with⟨rfl,rfl⟩|⟨h1,h2⟩
  ·exact ho
  ·rw[hf j h1];exact(h.own j u h2).step s (λc hc hb=>h.apart j k u v h2 hk h1 c hc hb)
 ·rcases hg j u hj with⟨rfl,rfl⟩|⟨h1,h2⟩<;>rcases hg j' u' Xk with⟨rfl,rfl⟩|⟨h3,h4⟩
  ·exact absurd G fG
  ·exact(h.apart j j' v u' hk h4 fG).grown hF (λb hb=>((h.own j' u' h4).base b hb).2)
  ·exact((h.apart j' j v u hk h2 (λe=>fG e.symm)).grown hF (λb hb=>((h.own j u h2).base b hb).2)).symm
  ·exact h.apart j j' u u' h2 h4 fG
theorem ID {M:aJ} {w0:World} {g:List En} {to:List Int} {m:Nat} {v0 v1:Value} (hM:Lt M w0) (hv:(RT.en.sl).V M w0 g v0) (ht:((RT.int .i64).sl).V M w0 to v1) (hm:0<m/\m<=1000) (Ow:g.length<=100000):
  Spec Tryz.prog 26 #[v0,v1,.int .i64 (m:Int)] w0 (λv w=>((RT.en.sl).sl).V M w (Az g (ma to m) m) v/\Step M w0 M w aA):=by
 have ir:=hM;have Ga:=dZ ht;refine bF (args:=[_,_,_]) (fn:=Tryz.f26) Tryz.func26 G (n:=48) Tryz.ntmps26 ?_;have S:Step M w0 M w0 aA:=bz;refine T.aQ (Rg.bA G G (T.aQ (ab G G ?_)));refine Rg.mk0 M Tryz.underlying51 L6 G G G G k3 k3 (λbo w1 z1 z1' pW s1=>?_);generalize hMq:ins M bo=Mq at s1;have mf:Mq bo:=by rw[<-hMq];exact .inl G
 replace hv:=hv.le s1.le;replace ht:=ht.le s1.le;replace hM:=s1.lt hM;have:=S.size;replace S:=S.aw s1;refine Rg.bA G G (aI (T.aQ (Rg.bA G G (aS ?_))));refine dg (σ:=Nat×List Value) (λq=>[(0,v0),(1,v1),(2,.int .i64 (m:Int)),(7,.slice (some ⟨bo,0,none⟩) m m),(8,.int .i64 (q.1:Int))]) (λq w=>q.1<=g.length/\q.2.length=m/\∃M1,Lt M1 w/\Step M w0 M1 w aA/\(RT.en.sl).V M1 w g v0/\((RT.int .i64).sl).V M1 w to v1/\M1 bo/\w.heap[bo]? =some (.cells q.2.toArray 29 (0,0))/\pV M1 w w0.heap.size q.2 (λj=>IN g (ma to m) j q.1)) (λq=>g.length-q.1) (0,List.replicate m (.slice none 0 0)) a19 ?_ ?_
 ·refine⟨bC _,db ..,_,hM,S,hv,ht,mf,pW,λj v hj=>?_,λj j' v v' hj Xk _=>?_⟩
  ·obtain rfl:=jT (au hj);exact dh _ _ _ _ _
  ·obtain rfl:=jT (au Xk);exact fL.nil _
 ·clear S hv ht hM pW mf;rintro⟨i,vs⟩ w ⟨hi,iN,M1,hM,S,hv,ht,mf,pW,jr⟩;dsimp only at hi iN pW jr ⊢;refine aI (T.aQ (ab G G (ab G G (bK dp G hv G (ch G G G (ad ?_))))));refine bM G (λc3=>?_) (λc3=>?_)
  ·refine aR (aI (aS (T.aQ (Rg.bA G G ?_))));refine T.xi [(0,v0),(1,v1),(2,.int .i64 (m:Int)),(7,.slice (some ⟨bo,0,none⟩) m m),(8,.int .i64 (i:Int)),(9,.int .i64 (to.getD i 0))] ?_ ?_
   ·refine T.aQ (ab G G (ab G G ?_));have hrx:=FJ ht i;refine bK ah G ht G (ch G G G (ad ?_));refine bM G (λc6=>?_) (λc6=>?_)
    ·refine aH (ab G G (ab G G ?_));obtain⟨x,CH⟩:∃x,to[i]? =some x:=⟨_,al k3⟩;refine bX ah I3 G G G ht bY k3 (λu72 y' eo atD=>?_);rw[an]at eo;obtain rfl:=ar (CH.symm.trans eo);refine bV aq G G atD bY (λatE=>?_);refine bc (v':= .int .i64 (to.getD i 0)) (by rw[ax,CH];rfl) ?_;refine Rg.bA G G ?_;exact⟨rfl,rfl,rfl,.cons rfl (.cons rfl (.cons rfl (.cons rfl (.cons rfl (.cons aq1 (.nil))))))⟩
    ·refine aR ?_;exact⟨rfl,rfl,rfl,.cons rfl (.cons rfl (.cons rfl (.cons rfl (.cons rfl (.cons aq1 (.nil))))))⟩
   ·refine T.xi [(0,v0),(1,v1),(2,.int .i64 (m:Int)),(7,.slice (some ⟨bo,0,none⟩) m m),(8,.int .i64 (i:Int)),(9,.int .i64 (if to.getD i 0<0 then-(to.getD i 0+1)else to.getD i 0))] ?_ ?_
    ·refine T.aQ ?_;have hrx:=FJ ht i;refine ab G G (ch G G G (ad ?_));refine bM G (λc8=>?_) (λc8=>?_)
     ·refine aH (ab G G (bG G G G k3 (Rg.neg G G k3 (Rg.bA G G ?_))));exact⟨G,G,G,.cons G (.cons G (.cons G (.cons G (.cons G (.cons ad6 (.nil))))))⟩
     ·refine aR ?_;exact⟨G,G,G,.cons G (.cons G (.cons G (.cons G (.cons G (.cons ad6 (.nil))))))⟩
    ·refine T.aQ ?_;have hrx:=FJ ht i;refine ab G G (ab G G (Rg.zU G G G (by split<;>omega) ?_));have AN:=Mt (to:=to) hm.1 i;obtain⟨k,hk⟩:∃k:Nat,ma to m i=k:=⟨_,rfl⟩;rw[hk]at AN;refine bc (v':= .int .i64 (k:Int)) (congrArg (Value.int .i64) (by rw[<-hk];unfold ma;exact(qQ (Int.emod_nonneg _ k3)).symm)) ?_;obtain⟨vk,iE⟩:∃v,vs[k]? =some v:=⟨_,al k3⟩;refine Rg.bA G G ?_;apply nq 10 [0,1,2,3,4,5] 2 (λb=>gy vk b) mixed rfl rfl rfl rfl;intro EX EY;have gO:=EY M1;have:=ae pW;replace mf:=(gO.mem _ this).2 mf;replace pW:=gO.aP pW;replace hv:=hv.le gO.le;replace ht:=ht.le gO.le;replace jr:=jr.aE gO;replace hM:=gO.lt hM;have:=S.size;replace S:=S.aw gO;refine ab G G (Rg.bL (ab G G (Rg.bL (ab G G (Rg.bL (ab G G (Rg.bL (Rg.CM Tryz.underlying51 L6 G G G k3 (Rg.bL ?_)))))))));refine aV dp rfl rfl rfl pW (v:=vk) (by rw[an,ec];exact iE) ?_;refine Rg.bL (ab G G (Rg.bL (ab G G (Rg.bL ?_))));obtain⟨x,ke⟩:∃x,g[i]? =some x:=⟨_,al k3⟩;refine bX dp A3 G G G hv bY k3 (λaE5 y' eo YZ=>?_);rw[an]at eo;obtain rfl:=ar (ke.symm.trans eo);refine Rg.bL ?_;refine cW (A:=RT.en) dH G A3 q0 G G G YZ bY (λaE6 Y0=>?_);refine Rg.bL (dD (⟨eQ ⟨ey,⟨ey,⟨ey,⟨ey,⟨bO.idx,⟨dQ G pW (λh=>(jr.own k vk iE).eu pW q0 h),trivial⟩⟩⟩⟩⟩⟩,?_⟩));have kp:=fq (λb=>gy vk b) EX;refine dP (A:=RT.en) (hn:=by decide) (M:=M1) dp A3 q0 G G hM (Y0) (.inl G) (λBc P3 MX iO=>?_);have:=ae pW;replace mf:=(iO.mem _ this).2 mf
     replace pW:=iO.aP pW;replace hv:=hv.le iO.le;replace ht:=ht.le iO.le;replace jr:=jr.aE iO;replace hM:=iO.lt hM;have:=S.size;replace S:=S.aw iO;refine(fun(kp:eB _ _ _)=>ad ⟨G,G,λ_=>kp,?_⟩) a00;have hdl:=Ay (g:=g) (kof:=ma to m) (j:=k) i;refine fI (M:=M1) (base:=w0.heap.size) dp A3 rfl rfl rfl rfl (jr.own k vk iE) MX bY aj5 aj5 S.size (λva wa Df sa hFa=>?_);have Ug:=jr.grow (f':=λj=>IN g (ma to m) j (i+1)) iE sa (by show Own _ _ _ _ _ _ (IN g (ma to m) k i++_);rw[if_pos hk,ke];exact Df) hFa (λj hj=>by show IN g (ma to m) j i++_=_;rw[if_neg k3,eJ]);have ngo:=λc (hc:vk.ownBlock=some c)=>((jr.own k vk iE).base c hc).1
     replace mf:=(sa.mem _ (ae pW)).2 mf;replace pW:=sa.keep pW (λh=>(jr.own k vk iE).eu pW q0 h);replace hv:=hv.le sa.le;replace ht:=ht.le sa.le;replace S:=S.cC sa (jr.own k vk iE) (aN _);replace hM:=sa.lt hM;generalize ji (M1) va=Ma at Ug mf hv ht S hM Df sa;clear jr YZ Y0 MX;have jr:=Ug;clear Ug;refine(fun(kp:eB _ _ _)=>ad ⟨G,G,λ_=>kp,?_⟩) (kp.go sa (λb hb h=>h));refine Rg.CM Tryz.underlying51 L6 G G G k3 (ad ⟨G,G,λh=>absurd G h,?_⟩);obtain⟨_,_,ajC,_⟩:=Df.isSlice;refine cF (M:=Ma) (u:=vk) L6 rfl rfl pW (by rw[an,ec];exact iE) (by rw[ajC];rfl) mf (λwb gb sb=>?_);rw[an,List.setIfInBounds_toArray]at gb;replace jr:=jr.step sb (λj v c hj hc (hb:c=bo)=>(jr.own j v hj).eu pW q0 (hb▸hc));replace hv:=hv.le sb.le;replace ht:=ht.le sb.le;replace mf:=(sb.mem _ (ae pW)).2 mf;replace S:=S.cL sb (λb (hb:b=bo)=>by omega);replace hM:=sb.lt hM;refine ad ⟨G,G,λh=>absurd G h,iu (aH (ab G G (bG G G G k3 (Rg.bA G G ?_))))⟩;refine⟨G,(i+1,vs.set k va),a19,?_,?_⟩
     ·exact⟨by dsimp only;omega,by dsimp only;rw[fX];exact iN,_,hM,S,hv,ht,mf,gb,jr⟩
     ·dsimp only;omega
  ·refine cO (T.aQ (ab G G (Rg.bA G G (aT ?_))));have e:i=g.length:=by omega
   subst e;have hlen:(Az g (ma to m) m).length=m:=by unfold Az;rw[ay,List.length_range]
   have hV:=ade (A:=RT.en) (hn:=by decide) (M:=M) pW (λh=>by have:=ir _ h;omega) (by rw[hlen];exact iN) (λj v l hj hl=>by
    have Ds:j<m:=by rw[<-hlen];exact(aj.1 hl).1
    rw[Wg Ds]at hl;obtain rfl:=ar hl;exact(jr.own j v hj).close ir S (by have:=Ay (g:=g) (kof:=ma to m) (j:=j) g.length;omega)) (by rw[hlen];omega)
   rw[hlen]at hV;exact aX G G ⟨hV,S.back⟩
end Go.K
namespace Go.K
open Go.Proofs
set_option maxRecDepth 10000
theorem nF.snoc {M:aJ} {w:World} {g:Gs} {bs:List Nat} {L:List En} {a:List Bool} {b:Nat} (h:nF M w g bs) (hb:C8 M w a b):nF M w (g++[(L,a)]) (bs++[b]):=⟨by rw[aY,aY,h.1];rfl,λi b' p h1 h2=>by
 have hl:=h.1;rcases cQ i g.length with hi|hi
 ·rw[fP k3]at h1;rw[fP hi]at h2;exact h.2 i b' p h1 h2
 ·rw[jd k3]at h1;rw[jd hi]at h2
  have h0:i-g.length=0:=by
   rcases Nat.eq_zero_or_pos (i-g.length)with h|h
   ·exact h
   ·rw[cE (by rw[cb];exact h)]at h2;cases h2
  rw[hl,h0]at h1;rw[h0]at h2;simp only[List.getElem?_cons_zero,eE]at h1 h2;subst h1;subst h2;exact hb⟩
theorem nF.nil {M:aJ} {w:World}:nF M w [] []:=⟨rfl,λi b p h1 _=>by simp at h1⟩
theorem adf {g:List En} {kof:Nat->Nat} {m:Nat} (h:wW (-1) g=true):∀L∈Az g kof m,wW (-1) L=true/\L.length<=g.length/\∀e∈L,e∈g:=λL hL=>by
 unfold Az at hL;obtain⟨j,_,rfl⟩:=ck.1 hL;exact⟨abD h _,Ay _,λe he=>by obtain⟨i,_,_,h3⟩:=uJ.1 he;exact au h3⟩
theorem W0 (g:List En) (kof:Nat->Nat) (m:Nat):(Az g kof m).length=m:=by unfold Az;rw[ay,List.length_range]
def ajD (M:aJ) (a:List Bool):cM M:=cM.mk' (λv w=>∃b,v= .pointer (some ⟨b,0,none⟩)/\C8 M w a b) (fun⟨b,h1,h2⟩ st=>⟨b,h1,h2.le st.le⟩)
namespace TKMerges11
theorem I4:TI Tryz.prog 4 (.bool false) 1 1:=by unfold TI;kernel_rfl
theorem O4:TI Tryz.prog 25 (.pointer none) 1 8:=by unfold TI;kernel_rfl
theorem L6:TI Tryz.prog 29 (.slice none 0 0) 1 24:=by unfold TI;kernel_rfl
theorem Wi:TI Tryz.prog 47 (.pointer none) 1 8:=by unfold TI;kernel_rfl
theorem I50:TI Tryz.prog 50 (.slice none 0 0) 1 24:=by unfold TI;kernel_rfl
theorem xW:TI Tryz.prog 60 (.agg #[(.slice none 0 0),(.slice none 0 0),(.slice none 0 0),(.slice none 0 0)]) 4 96:=by unfold TI;kernel_rfl
theorem E11:Enters Tryz.prog 11:=enters Tryz.func11 rfl q0
theorem E12:Enters Tryz.prog 12:=enters Tryz.func12 rfl q0
theorem E22:Enters Tryz.prog 22:=enters Tryz.func22 rfl q0
theorem E25:Enters Tryz.prog 25:=enters Tryz.func25 rfl q0
theorem E26:Enters Tryz.prog 26:=enters Tryz.func26 rfl q0
theorem E27:Enters Tryz.prog 27:=enters Tryz.func27 rfl q0
theorem E28:Enters Tryz.prog 28:=enters Tryz.func28 rfl q0
theorem E29:Enters Tryz.prog 29:=enters Tryz.func29 rfl q0
theorem E30:Enters Tryz.prog 30:=enters Tryz.func30 rfl q0
theorem E31:Enters Tryz.prog 31:=enters Tryz.func31 rfl q0
end TKMerges11
open TKMerges11
set_option maxRecDepth 10000
def uz (Ls:List (List En)) (lv:List Bool):Gs:=(List.range Ls.length).map λj=>(Ls.getD j [],qI (lv.drop (min lv.length (4*j))) (Ls.getD j []).length)
theorem Cq (Ls:List (List En)) (lv:List Bool):(uz Ls lv).length=Ls.length:=by unfold uz;rw[ay,List.length_range]
theorem FK {Ls:List (List En)} {lv:List Bool} {i:Nat} {L:List En} (h:Ls[i]? =some L):(uz Ls lv)[i]? =some (L,qI (lv.drop (min lv.length (4*i))) L.length):=by
 unfold uz;rw[bj,Cu (aj.1 h).1,dA,ax,h];rfl
theorem Uh (Ls:List (List En)) (lv:List Bool):(uz Ls lv).map (·.1)=Ls:=by
 refine eS λi=>?_
 rw[bj]
 cases h:Ls[i]? with
 |none=>rw[cE (by rw[Cq];exact qK.1 h)];rfl
 |some L=>rw[FK h];rfl
theorem x9 {Ls:List (List En)} {lv:List Bool} {p:List En×List Bool} (h:p∈uz Ls lv):p.1∈Ls/\p.2.length=p.1.length:=by
 obtain⟨i,hi⟩:=bQ.1 h;obtain⟨L,hL⟩:∃L,Ls[i]? =some L:=⟨_,al (by have:=(aj.1 hi).1;rw[Cq]at this;exact this)⟩;rw[FK hL]at hi;obtain rfl:=ar hi;exact⟨au hL,me _ _⟩
theorem Mg.one {g:Gs} {os os':List Fo} {E E':List En} (h:Mg g os E) (h':Mg g os' E'):E'=E:=Wf h'.up h.up λe=>h'.mem.trans h.mem.symm
def ajE (M:aJ) (a:List Bool):cM M:=cM.mk' (λv w=>∃r b,v= .tuple #[r,.pointer (some ⟨b,0,none⟩)]/\(RT.bool.sl).V M w a r/\C8 M w a b) (fun⟨r,b,h1,h2,h3⟩ st=>⟨r,b,h1,h2.le st.le,h3.le st.le⟩)
theorem Ln (E:List En):OE (fa E) (fa E)=true:=by simp[OE]
set_option maxHeartbeats 4000000 in
theorem zc {M:aJ} {l:List Dc} {to:List Int} {a:Int} {lv:List Bool} {v0 v1 v3:Value} {w0:World} (hM:Lt M w0) (hv:(RT.dc.sl).V M w0 l v0) (ht:((RT.int .i64).sl).V M w0 to v1) (ha: -9223372036854775808<=a/\a<=9223372036854775807) (pE:(RT.bool.sl).V M w0 lv v3) (h0: ¬M 1) (Ol:∃e fr,w0.heap[1]? =some (.cells (OS.map fun(k:Nat)=>Value.int .u8 (k:Int)).toArray e fr)):
  Spec Tryz.prog 5 #[v0,v1,.int .i64 a,v3] w0 (λv w=>v= .bool true/\Step M w0 M w aA):=by
 have ir:=hM;obtain⟨etb,ftb,htb⟩:=Ol;have Ow:=oa l 1 2 12;obtain⟨hok,_⟩:=HD l (show(0:Int)<=1 by decide) (show(1:Int)<=2 by decide) 12;have aFd:=dZ pE;refine bF (args:=[_,_,_,_]) (fn:=Tryz.f5) Tryz.func5 G (n:=113) Tryz.ntmps5 ?_;have S:Step M w0 M w0 aA:=bz;refine T.aQ (Rg.bA G G ?_);refine T.xi [(0,v0),(1,v1),(2,.int .i64 (if a<0 then-(a+1)else a)),(3,v3)] ?_ ?_
 ·refine T.aQ (ab G G (ch G G G (ad ?_)));refine bM G (λc1=>?_) (λc1=>?_)
  ·refine aH (ab G G (bG G G G k3 (Rg.neg G G k3 (Rg.bA G G ?_))));exact⟨G,G,G,.cons G (.cons G (.cons af0 (.cons G (.nil))))⟩
  ·refine aR ?_;exact⟨G,G,G,.cons G (.cons G (.cons af0 (.cons G (.nil))))⟩
 ·refine T.aQ (ab G G ?_);obtain⟨n2,hn2,aFe⟩:∃n2:Nat,(if a<0 then-(a+1)else a)=(n2:Int)/\n2<=9223372036854775807:=⟨(if a<0 then-(a+1)else a).toNat,by split<;>omega,by split<;>omega⟩;rw[hn2];refine Rg.zU G G G k3 ?_;obtain⟨n,hnm,XQ⟩:∃n:Nat,(n2:Int)%3=(n:Int)/\n<3:=⟨n2%3,by omega,by omega⟩;rw[hnm];refine bG G G G k3 ?_;obtain⟨m,W9,hm2⟩:∃m:Nat,1+(n:Int)=(m:Int)/\0<m/\m<=3:=⟨1+n,by omega,by omega,by omega⟩;rw[W9];have hku:=λi=>Mt (to:=to) hm2.1 i
  have hLs:=adf (kof:=ma to m) (m:=m) hok;have hLl:=W0 (gP l 1 2 12) (ma to m) m;have hGl:=Cq (Az (gP l 1 2 12) (ma to m) m) lv;have qt:(Az (gP l 1 2 12) (ma to m) m).flatten.Pairwise λx y=>x.2≠y.2:=SF (E9 hok) (List.range m) List.nodup_range
  have adg:Kw (uz (Az (gP l 1 2 12) (ma to m) m) lv):=λp hp=>⟨(hLs _ (x9 hp).1).1,(x9 hp).2⟩
  have hGn:∀p∈(uz (Az (gP l 1 2 12) (ma to m) m) lv),p.1.length<=12:=λp hp=>by have:=(hLs _ (x9 hp).1).2.1;omega
  have hGk:∀p∈(uz (Az (gP l 1 2 12) (ma to m) m) lv),(keysOf p.1).length<=100000:=λp hp=>by have h1:=ON (hLs _ (x9 hp).1).1;have h2:=hGn p hp;omega
  have OQ: ¬B5 (uz (Az (gP l 1 2 12) (ma to m) m) lv):=D6 (by rw[Uh];exact qt);refine Rg.bA G G (T.aQ (ab G G ?_));refine a8 G G E12 (JE (most:=12) (a:=1) (s:=2) _ hM hv q0 q0 q0) (λr1 w1 hc=>?_);obtain⟨hg,s1⟩:=hc;replace hv:=hv.le s1.le;replace ht:=ht.le s1.le;replace pE:=pE.le s1.le;replace hM:=s1.lt hM;have:=S.size;replace S:=S.aw s1;refine ab G G (ab G G ?_);refine a8 G G E26 (ID hM hg ht (m:=m) k3 k3) (λr2 w2 hc=>?_);obtain⟨lr,s2⟩:=hc;replace ht:=ht.le s2.le;replace pE:=pE.le s2.le;replace hg:=hg.le s2.le;replace hM:=s2.lt hM;have:=S.size;replace S:=S.aw s2;refine Rg.bA G G (T.aQ (Rg.bA G G (T.aQ (Rg.bA G G (T.aQ ?_)))));refine Rg.bA G G (T.aQ (Rg.bA G G (aI (T.aQ (Rg.bA G G (aS ?_))))));refine dg (σ:=Nat×Value×Value×Value×Value×List Nat) (λq=>[(2,.int .i64 (m:Int)),(3,v3),(9,r2),(10,q.2.1),(11,q.2.2.1),(12,q.2.2.2.1),(13,q.2.2.2.2.1),(14,.int .i64 (q.1:Int))]) (λq w=>q.1<=m/\∃M1,Lt M1 w/\Step M w0 M1 w aA/\(RT.bool.sl).V M1 w lv v3/\((RT.en.sl).sl).V M1 w (Az (gP l 1 2 12) (ma to m) m) r2/\nF M1 w ((uz (Az (gP l 1 2 12) (ma to m) m) lv).take q.1) q.2.2.2.2.2/\Own ((RT.se).ptr) 25 M1 w w0.heap.size q.2.1 (((uz (Az (gP l 1 2 12) (ma to m) m) lv).take q.1).map λp=>wV (fa p.1))/\Own RT.Ur 47 M1 w w0.heap.size q.2.2.1 q.2.2.2.2.2/\Own RT.pa 60 M1 w w0.heap.size q.2.2.2.1 (((uz (Az (gP l 1 2 12) (ma to m) m) lv).take q.1).map λp=>fa p.1)/\Own (RT.bool.sl) 50 M1 w w0.heap.size q.2.2.2.2.1 (((uz (Az (gP l 1 2 12) (ma to m) m) lv).take q.1).map (·.2))) (λq=>m-q.1) (0,.slice none 0 0,.slice none 0 0,.slice none 0 0,.slice none 0 0,[]) ap1 ?_ ?_
  ·exact⟨bC _,_,hM,S,pE,lr,nF.nil,dh _ _ _ _ _,dh _ _ _ _ _,dh _ _ _ _ _,dh _ _ _ _ _⟩
  ·clear hM S pE lr;rintro⟨i,vs,vb,vp,vt,bs⟩ w ⟨hi,M1,hM,S,pE,lr,dy,fV,kD,jI,lB⟩;dsimp only at hi dy fV kD jI lB ⊢;have mn:=dy.1;refine aI (T.aQ (ab G G (ab G G (ch G G G (ad ?_)))));refine bM G (λU9=>?_) (λU9=>?_)
   ·refine aR (aI (aS (T.aQ (ab G G (ab G G ?_)))));obtain⟨L,V8⟩:∃L,(Az (gP l 1 2 12) (ma to m) m)[i]? =some L:=⟨_,al k3⟩;obtain⟨hL1,hL2,hL3⟩:=hLs L (au V8);have hGi:=FK (lv:=lv) V8;refine bX Tryz.underlying51 L6 G G G lr bY k3 (λu82 x_ eo ajF=>?_);rw[an]at eo;obtain rfl:=ar (V8.symm.trans eo);refine bE dp G G G G G ajF bY (λv83 ajG=>?_);refine a8 G G E11 (Km _ hM ajG (λe he f hf=>BY e (hL3 e he) f hf) k3 hL1) (λaFg aFh hc=>?_);obtain⟨aFi,rfl,ph,FL⟩:=hc;obtain⟨aFj,rfl⟩:=ph.iZ;clear ajF ajG;replace pE:=pE.le FL.le;replace lr:=lr.le FL.le;replace dy:=dy.le FL.le;replace fV:=fV.aE FL;replace kD:=kD.aE FL;replace jI:=jI.aE FL;replace lB:=lB.aE FL;replace hM:=FL.lt hM;have:=S.size;replace S:=S.aw FL;refine ab G G (cq G G G (cq G G G (aB G G (Rg.bA G G (aI ?_)))));apply T.draw (M:=M1) mixed [cM.eq _,cM.eq _,cM.eq _,cM.eq _,cM.eq _,cM.eq (.int .i64 ((min lv.length (4*i):Nat):Int)),cM.V (RT.bool.sl) (lv.drop (min lv.length (4*i))),cM.eq _,cM.eq _,cM.ptr (RT.en.sl) L,cM.V (RT.en.sl) L,cM.eq (.int .i64 (L.length:Int)),ajE M1 (qI (lv.drop (min lv.length (4*i))) L.length),ajE M1 (qI (lv.drop (min lv.length (4*i))) L.length),cM.V (RT.bool.sl) (qI (lv.drop (min lv.length (4*i))) L.length),ajD M1 (qI (lv.drop (min lv.length (4*i))) L.length),cM.V (RT.bool.sl) (qI (lv.drop (min lv.length (4*i))) L.length),ajD M1 (qI (lv.drop (min lv.length (4*i))) L.length)]
    ·rfl
    ·refine aF ?_ ?_
     ·intro wD E sD;refine ab G G ?_;exact a01
     refine aF ?_ ?_
     ·intro wD E sD;refine ab G G ?_;exact a01
     refine aF ?_ ?_
     ·intro wD E sD;refine aC (bK jH G (pE.le sD.le) G ?_);exact a01
     refine aF ?_ ?_
     ·intro wD E sD;refine ab G G ?_;exact a01
     refine aF ?_ ?_
     ·intro wD E sD;refine aC (Rg.Pg G G G k3 ?_);exact a01
     refine aF ?_ ?_
     ·intro wD E sD;refine aC (aC (Rg.min2 G G G (bc (v':= .int .i64 ((min lv.length (4*i):Nat):Int)) (congrArg (Value.int .i64) k3) ?_)));exact a01
     refine aF ?_ ?_
     ·intro wD E sD;refine aC (aC ?_);refine Rg.uC (M:=M1) jH I4 G G G (pE.le sD.le) k3 (λu hu=>?_);rw[an]at hu;exact ad ⟨G,G,_,G,hu,bz⟩
     refine aF ?_ ?_
     ·intro wD E sD;refine ab G G ?_;exact a01
     refine aF ?_ ?_
     ·intro wD E sD;refine ab G G ?_;exact a01
     refine aF ?_ ?_
     ·intro wD E sD;refine aC (aC ?_);refine bX Tryz.underlying51 L6 G G G (lr.le sD.le) bY k3 (λu x_ eo hu=>?_);rw[an]at eo;obtain rfl:=ar (V8.symm.trans eo);exact ad ⟨G,G,_,G,hu,bz⟩
     refine aF ?_ ?_
     ·intro wD E sD;intro v9 Au;refine bE dp G G G G G (show dv (RT.en.sl) M1 wD v9 L from Au) bY (λva ny=>?_);exact ad ⟨G,G,_,G,ny,bz⟩
     refine aF ?_ ?_
     ·intro wD E sD;intro v10 RR;refine bK dp G (show(RT.en.sl).V M1 wD L v10 from RR) G ?_;exact a01
     refine aF ?_ ?_
     ·intro wD E sD;intro v6 wz;refine aC ?_;refine a8 G G E27 (Lk (sD.lt hM) (show(RT.bool.sl).V M1 wD (lv.drop (min lv.length (4*i))) v6 from wz) (n:=L.length) k3) (λr w hc=>?_);obtain⟨r_,b_,rfl,h1,h2,h3⟩:=hc;exact ad ⟨G,G,_,G,⟨r_,b_,G,h1,h2⟩,h3⟩
     refine aF ?_ ?_
     ·intro wD E sD;intro v12 Ik;refine ab G G ?_;exact ad ⟨G,G,_,G,Ik,bz⟩
     refine aF ?_ ?_
     ·intro wD E sD;intro N2 yW;obtain⟨r_,b_,rfl,h1,h2⟩:=yW;refine cq G G G ?_;exact ad ⟨G,G,_,G,h1,bz⟩
     refine aF ?_ ?_
     ·intro wD E sD;intro N2 yW;obtain⟨r_,b_,rfl,h1,h2⟩:=yW;refine cq G G G ?_;exact ad ⟨G,G,_,G,⟨b_,G,h2⟩,bz⟩
     refine aF ?_ ?_
     ·intro wD E sD;intro v14 OF;intro v12 Ik;refine aC (aC (aC (aC (aC (aC ?_)))));intro v6 wz;refine aC (aC ?_);intro v9 Au;intro v10 RR;refine aC ?_;intro v12 Ik;intro N2 yW;intro v14 OF;refine aB G G ?_;exact ad ⟨G,G,_,G,OF,bz⟩
     refine aF ?_ ?_
     ·intro wD E sD;intro v15 ajH;intro v16 agh;refine aC (aC (aC (aC (aC (aC ?_)))));intro v6 wz;refine aC (aC ?_);intro v9 Au;intro v10 RR;refine aC ?_;intro v12 Ik;intro N2 yW;intro v14 OF;intro v15 ajH;intro v16 agh;refine aB G G ?_;exact ad ⟨G,G,_,G,ajH,bz⟩
     exact yh
    ·intro Qz l1;refine aC (aC (aC (aC (aC (aC ?_)))));intro afS EZ;refine aC (aC ?_);intro ax6 atF;intro atG akU;refine aC ?_;intro atH akV;intro atI akW;intro atJ akX;intro atL akY;intro adh gQ;intro atM W2;have S:=S.aw l1;have hM:=l1.lt hM;replace pE:=pE.le l1.le;replace lr:=lr.le l1.le;replace dy:=dy.le l1.le;replace ph:=ph.le q0 l1.le;replace fV:=fV.aE l1;replace kD:=kD.aE l1;replace jI:=jI.aE l1;replace lB:=lB.aE l1;replace gQ:(RT.bool.sl).V M1 Qz (qI (lv.drop (min lv.length (4*i))) L.length) adh:=gQ;obtain⟨b13,rfl,rQ⟩:=W2;refine T.aQ (ab G G (ab G G ?_));refine dP (A:=((RT.se).ptr)) (hn:=by decide) (M:=M1) fS O4 q0 G G hM (oQ.2 ph) (.inr ⟨G,G⟩) (λax7 ax8 kP sH=>?_);replace pE:=pE.le sH.le;replace lr:=lr.le sH.le;replace dy:=dy.le sH.le;replace ph:=ph.le q0 sH.le;replace gQ:=gQ.le sH.le;replace rQ:=rQ.le sH.le;replace fV:=fV.aE sH;replace kD:=kD.aE sH;replace jI:=jI.aE sH;replace lB:=lB.aE sH;replace hM:=sH.lt hM;have:=S.size;replace S:=S.aw sH;refine cN (M:=M1) (base:=w0.heap.size) fS O4 rfl rfl rfl rfl fV kP bY ad2 ad2 (S.size) (λajI Y1 ax9 adi sI=>?_);replace pE:=pE.le sI.le;replace lr:=lr.le sI.le;replace dy:=dy.le sI.le;replace ph:=ph.le q0 sI.le;replace gQ:=gQ.le sI.le;replace rQ:=rQ.le sI.le;replace kP:=kP.le sI.le;replace kD:=kD.step sI (λb h1 h2=>kD.cr fV q0 h1 h2);replace jI:=jI.step sI (λb h1 h2=>jI.cr fV q0 h1 h2);replace lB:=lB.step sI (λb h1 h2=>lB.cr fV q0 h1 h2)
     replace hM:=sI.lt hM;have:=S.size;replace S:=S.cC sI fV (aN _);replace fV:=adi;refine Rg.bA G G (T.aQ (ab G G (ab G G ?_)));refine dP (A:=RT.Ur) (hn:=by decide) (M:=Y1) Tryz.underlying49 Wi q0 G G hM (LF.2 G) (.inr ⟨G,G⟩) (λYK YL kO gK=>?_);replace pE:=pE.le gK.le;replace lr:=lr.le gK.le;replace dy:=dy.le gK.le;replace ph:=ph.le q0 gK.le;replace gQ:=gQ.le gK.le;replace rQ:=rQ.le gK.le;replace kP:=kP.le gK.le;replace fV:=fV.aE gK;replace kD:=kD.aE gK;replace jI:=jI.aE gK;replace lB:=lB.aE gK;replace hM:=gK.lt hM;have:=S.size;replace S:=S.aw gK;refine cN (M:=Y1) (base:=w0.heap.size) Tryz.underlying49 Wi rfl rfl rfl rfl kD kO bY (by rw[mn,aU,cb];omega) (by rw[mn,aU,cb];omega) (S.size) (λXH Y2 aya adj qJ=>?_);replace pE:=pE.le qJ.le;replace lr:=lr.le qJ.le;replace dy:=dy.le qJ.le;replace ph:=ph.le q0 qJ.le;replace gQ:=gQ.le qJ.le;replace rQ:=rQ.le qJ.le;replace kP:=kP.le qJ.le;replace kO:=kO.le qJ.le;replace fV:=fV.step qJ (λb h1 h2=>fV.cr kD q0 h1 h2);replace jI:=jI.step qJ (λb h1 h2=>jI.cr kD q0 h1 h2);replace lB:=lB.step qJ (λb h1 h2=>lB.cr kD q0 h1 h2);replace hM:=qJ.lt hM;have:=S.size;replace S:=S.cC qJ kD (aN _);replace kD:=adj;refine Rg.bA G G (T.aQ (ab G G (ab G G (ab G G ?_))));refine bX Tryz.underlying51 L6 G G G lr bY k3 (λaFl x_ eo ajJ=>?_);rw[an]at eo;obtain rfl:=ar (V8.symm.trans eo);refine bE dp G G G G G ajJ bY (λv164 ajK=>?_);refine a8 G G E28 (Fs _ hM ajK (jQ hL1) (λe he f hf=>BY e (hL3 e he) f hf) k3) (λaFm aFn hc=>?_)
     obtain⟨ya,yb⟩:=hc;replace pE:=pE.le yb.le;replace lr:=lr.le yb.le;replace dy:=dy.le yb.le;replace ph:=ph.le q0 yb.le;replace gQ:=gQ.le yb.le;replace rQ:=rQ.le yb.le;replace kP:=kP.le yb.le;replace kO:=kO.le yb.le;replace fV:=fV.aE yb;replace kD:=kD.aE yb;replace jI:=jI.aE yb;replace lB:=lB.aE yb;replace hM:=yb.lt hM;have:=S.size;replace S:=S.aw yb;refine dP (A:=RT.pa) (hn:=by decide) (M:=Y2) mq xW q0 G G hM (ya) (.inl G) (λayb ayc wU oX=>?_);replace pE:=pE.le oX.le;replace lr:=lr.le oX.le;replace dy:=dy.le oX.le;replace ph:=ph.le q0 oX.le;replace gQ:=gQ.le oX.le;replace rQ:=rQ.le oX.le;replace kP:=kP.le oX.le;replace kO:=kO.le oX.le;replace ya:=ya.le oX.le;replace fV:=fV.aE oX;replace kD:=kD.aE oX;replace jI:=jI.aE oX;replace lB:=lB.aE oX;replace hM:=oX.lt hM;have:=S.size;replace S:=S.aw oX;refine cN (M:=Y2) (base:=w0.heap.size) mq xW rfl rfl rfl rfl jI wU bY ad2 ad2 (S.size) (λajL Y3 ayd adk oY=>?_);replace pE:=pE.le oY.le;replace lr:=lr.le oY.le;replace dy:=dy.le oY.le;replace ph:=ph.le q0 oY.le;replace gQ:=gQ.le oY.le;replace rQ:=rQ.le oY.le;replace kP:=kP.le oY.le;replace kO:=kO.le oY.le;replace ya:=ya.le oY.le;replace wU:=wU.le oY.le;replace fV:=fV.step oY (λb h1 h2=>fV.cr jI q0 h1 h2);replace kD:=kD.step oY (λb h1 h2=>kD.cr jI q0 h1 h2);replace lB:=lB.step oY (λb h1 h2=>lB.cr jI q0 h1 h2);replace hM:=oY.lt hM;have:=S.size;replace S:=S.cC oY jI (aN _)
     replace jI:=adk;refine Rg.bA G G (aH (ab G G (ab G G ?_)));refine dP (A:=(RT.bool.sl)) (hn:=by decide) (M:=Y3) Tryz.underlying54 I50 q0 G G hM (gQ) (.inr ⟨G,G⟩) (λai5 ai6 Cn jR=>?_);replace pE:=pE.le jR.le;replace lr:=lr.le jR.le;replace dy:=dy.le jR.le;replace ph:=ph.le q0 jR.le;replace gQ:=gQ.le jR.le;replace rQ:=rQ.le jR.le;replace kP:=kP.le jR.le;replace kO:=kO.le jR.le;replace ya:=ya.le jR.le;replace wU:=wU.le jR.le;replace fV:=fV.aE jR;replace kD:=kD.aE jR;replace jI:=jI.aE jR;replace lB:=lB.aE jR;replace hM:=jR.lt hM;have:=S.size;replace S:=S.aw jR;refine cN (M:=Y3) (base:=w0.heap.size) Tryz.underlying54 I50 rfl rfl rfl rfl lB Cn bY ad2 ad2 (S.size) (λajM aye ayf adl nH=>?_);replace pE:=pE.le nH.le;replace lr:=lr.le nH.le;replace dy:=dy.le nH.le;replace ph:=ph.le q0 nH.le;replace gQ:=gQ.le nH.le;replace rQ:=rQ.le nH.le;replace kP:=kP.le nH.le;replace kO:=kO.le nH.le;replace ya:=ya.le nH.le;replace wU:=wU.le nH.le;replace Cn:=Cn.le nH.le;replace fV:=fV.step nH (λb h1 h2=>fV.cr lB q0 h1 h2);replace kD:=kD.step nH (λb h1 h2=>kD.cr lB q0 h1 h2);replace jI:=jI.step nH (λb h1 h2=>jI.cr lB q0 h1 h2);replace hM:=nH.lt hM;have:=S.size;replace S:=S.cC nH lB (aN _);replace lB:=adl;refine Rg.bA G G (aH (ab G G (bG G G G k3 (Rg.bA G G ?_))));refine⟨G,(i+1,ajI,XH,ajL,ajM,bs++[b13]),ap1,?_,?_⟩
     ·refine⟨by dsimp only;omega,_,hM,S,pE,lr,?_,?_,kD,?_,?_⟩
      ·dsimp only;rw[bB,hGi,bU];exact dy.snoc rQ
      ·dsimp only;rw[bB,hGi,bU,cG];exact fV
      ·dsimp only;rw[bB,hGi,bU,cG];exact jI
      ·dsimp only;rw[bB,hGi,bU,cG];exact lB
     ·dsimp only;omega
   ·refine cO (T.aQ ?_);have e3:m=i:=by omega
    subst e3;rw[aL k3]at dy fV jI lB;refine ab G G ?_;have kh:=fV.view (hn:=by decide) a86;replace pE:=pE.le (ed _ vs _);replace lr:=lr.le (ed _ vs _);replace dy:=dy.le (ed _ vs _);replace kD:=kD.uY (v:=vs) (λb hb=>by first|exact kD.cr fV q0 hb|exact adm b hb);replace jI:=jI.uY (v:=vs) (λb hb=>by first|exact jI.cr fV q0 hb|exact Y4 b hb);replace lB:=lB.uY (v:=vs) (λb hb=>by first|exact lB.cr fV q0 hb|exact adn b hb);replace hM:Lt (rm M1 vs) _:=λb hb=>hM b hb.1
    replace S:=S.freeze (v:=vs) (λb hb=>by have:=(fV.base b hb).1;omega);clear fV;have DR:=kD.view (hn:=by decide) (by rw[dy.1];omega);replace pE:=pE.le (ed _ vb _);replace lr:=lr.le (ed _ vb _);replace dy:=dy.le (ed _ vb _);replace kh:=kh.le (ed _ vb _);replace jI:=jI.uY (v:=vb) (λb hb=>by first|exact jI.cr kD q0 hb|exact Y5 b hb);replace lB:=lB.uY (v:=vb) (λb hb=>by first|exact lB.cr kD q0 hb|exact ado b hb);replace hM:Lt (rm (rm M1 vs) vb) _:=λb hb=>hM b hb.1
    replace S:=S.freeze (v:=vb) (λb hb=>by have:=(kD.base b hb).1;omega);clear kD;have Mj:=jI.view (hn:=by decide) a86;replace pE:=pE.le (ed _ vp _);replace lr:=lr.le (ed _ vp _);replace dy:=dy.le (ed _ vp _);replace kh:=kh.le (ed _ vp _);replace DR:=DR.le (ed _ vp _);replace lB:=lB.uY (v:=vp) (λb hb=>by first|exact lB.cr jI q0 hb|exact Y6 b hb);replace hM:Lt (rm (rm (rm M1 vs) vb) vp) _:=λb hb=>hM b hb.1
    replace S:=S.freeze (v:=vp) (λb hb=>by have:=(jI.base b hb).1;omega);clear jI;have oT:=lB.view (hn:=by decide) a86;replace pE:=pE.le (ed _ vt _);replace lr:=lr.le (ed _ vt _);replace dy:=dy.le (ed _ vt _);replace kh:=kh.le (ed _ vt _);replace DR:=DR.le (ed _ vt _);replace Mj:=Mj.le (ed _ vt _);replace hM:Lt (rm (rm (rm (rm M1 vs) vb) vp) vt) _:=λb hb=>hM b hb.1
    replace S:=S.freeze (v:=vt) (λb hb=>by have:=(lB.base b hb).1;omega);clear lB;generalize rm (rm (rm (rm M1 vs) vb) vp) vt=Mx at hM S pE lr dy kh DR Mj oT;refine ab G G ?_;refine a8 G G E22 (KV (g:=(uz (Az (gP l 1 2 12) (ma to m) m) lv)) hM kh DR dy adg k3 (λp hp=>by have:=hGn p hp;omega) hGk (λhn=>h0 ((S.mem 1 (ae htb)).1 hn)) ⟨etb,ftb,S.aP htb⟩) (λr18 w18 hc=>?_);obtain⟨W3,h18⟩:=hc;obtain⟨os,E,zq,aFo,rfl,uZ⟩:=h18.resolve_right (λh=>OQ h.1);obtain⟨aFp,rfl⟩:=uZ.iZ;replace pE:=pE.le W3.le;replace lr:=lr.le W3.le;replace dy:=dy.le W3.le;replace kh:=kh.le W3.le;replace DR:=DR.le W3.le;replace Mj:=Mj.le W3.le;replace oT:=oT.le W3.le;replace hM:=W3.lt hM;have:=S.size;replace S:=S.aw W3;refine ab G G (cq G G G (cq G G G (aB G G (Rg.bA G G (T.aQ (ab G G (ab G G ?_)))))));refine a8 G G E29 (Iy (g:=(uz (Az (gP l 1 2 12) (ma to m) m) lv)) hM Mj oT adg k3 (λp hp=>by have:=hGn p hp;omega) hGk OQ) (λr19 w19 hc=>?_);obtain⟨Lg,os',E',aFq,atN,rfl,yc⟩:=hc;obtain rfl:E'=E:=zq.one atN;have atO:=zq.ok adg;have hEl:E'.length<=100000:=by have h1:=zq.KU (λp hp=>by have:=hGn p hp;omega);have h2:=zq.len;have:(uz (Az (gP l 1 2 12) (ma to m) m) lv).length*10000<=3*10000:=fM _ k3;omega
    replace Mj:=Mj.le Lg.le;replace oT:=oT.le Lg.le;replace uZ:=uZ.le q0 Lg.le;replace hM:=Lg.lt hM;have:=S.size;replace S:=S.aw Lg;refine ab G G (cq G G G (cq G G G ?_));refine eA Mx xW G (λUi ajN ayg ayh mg IE=>?_);obtain⟨Lo,MY⟩:∃M',M'=ins Mx Ui:=⟨_,rfl⟩;rw[<-MY]at IE;have lE:Lo Ui:=by rw[MY];exact .inl G
    change ajN.heap[Ui]? =some (.cells #[.slice none 0 0,.slice none 0 0,.slice none 0 0,.slice none 0 0] _ _)at mg;replace uZ:=uZ.le q0 IE.le;replace yc:=yc.le IE.le;replace hM:=IE.lt hM;have:=S.size;replace S:=S.aw IE;obtain⟨pa,pb,pc,pd,rfl,aFr,aFs,aFt,aFu⟩:=aaw yc;refine ej (M:=Lo) (vs:=[pa,pb,pc,pd]) xW G G ar0 rfl rfl mg lE (λwF gF sF=>?_);have:=ae mg;replace lE:=(sF.mem _ this).2 lE;replace uZ:=uZ.le q0 sF.le;replace yc:=yc.le sF.le;replace hM:=sF.lt hM;have:=S.size;replace S:=S.trans sF (λk hk h=>by have h:_=_:=h;subst h;first|(exfalso;omega)|(show _<=_;omega)|exact⟨by first|omega|assumption,(S.mem _ hk).1 ((sF.mem _ (ae mg)).1 lE)⟩|exact .inl rfl|exact .inr rfl|exact .inr (.inl rfl)|exact .inr (.inr rfl)|exact .inr (.inr (.inl rfl))|exact rfl);have Uj:=gF;clear mg;have mg:=Uj;clear Uj;refine Rg.bA G G (aI ?_);apply T.Gc [0,1,2,3,4,5,6,7,8,10,9,11,12,13,14,15,16] 10 [9] 1 aA mixed
    ·simp+decide only[zY,tx,fe,je,gV,gX,fg,dA,gI,lN,cond_true,cond_false,Nat.reduceBEq,Nat.reduceAdd,beq_self_eq_true];rfl
    ·rfl
    ·rfl
    ·rfl
    ·rfl
    ·rfl
    ·rfl
    intro atP atQ;have OO:=atQ Lo;have:=ae mg;replace lE:=(OO.mem _ this).2 lE;replace mg:=OO.aP mg;replace uZ:=uZ.le q0 OO.le;replace yc:=yc.le OO.le;replace hM:=OO.lt hM;have:=S.size;replace S:=S.aw OO;refine ab G G (Rg.bL (ab G G (Rg.bL (sJ G G G (bc (v':= .bool true) (by simp) (Rg.bL (ab G G (Rg.bL (ak G G (ab G G (Rg.bL ?_)))))))))));refine ak G G (Rg.PG kC G G G (bc (v':= .bool true) (by simp) (Rg.bL (bm G G G (Rg.bL (ab G G (Rg.bL (ak G G (ab G G (Rg.bL (ak G G ?_)))))))))));refine gJ (vs:=[pa,pb,pc,pd]) bJ G xW G G G mg (Rg.bL (dD (⟨eQ ⟨dQ G W4 a73,trivial⟩,?_⟩)));have kp:=fq aA atP;refine ak G G ?_;refine a8 G G E31 (OM _ hM uZ (MH atO hEl)) (λr20 w20 hc=>?_);obtain⟨Lq,s20⟩:=hc;replace Lq:RT.pa.V _ w20 (fa E') r20:=Lq;have:=ae mg;replace lE:=(s20.mem _ this).2 lE;replace mg:=s20.aP mg;replace uZ:=uZ.le q0 s20.le;replace yc:=yc.le s20.le;replace hM:=s20.lt hM;have:=S.size;replace S:=S.aw s20;refine(fun(kp:eB _ _ _)=>ad ⟨G,G,λ_=>kp,?_⟩) a00;refine ak G G ?_;refine a8 G G E30 (Ii _ hM Lq yc) (λayi ayj hc=>?_);obtain⟨rfl,Cr⟩:=hc;refine bc (v':= .bool true) (congrArg Value.bool (Ln _)) ?_;have:=ae mg;replace lE:=(Cr.mem _ this).2 lE;replace mg:=Cr.aP mg;replace uZ:=uZ.le q0 Cr.le;replace yc:=yc.le Cr.le;replace Lq:=Lq.le Cr.le;replace hM:=Cr.lt hM
    have:=S.size;replace S:=S.aw Cr;refine ad ⟨G,G,λh=>absurd G h,bm G G G (ad ⟨G,G,λh=>absurd G h,ab G G (ad ⟨G,G,λh=>absurd G h,ak G G ?_⟩)⟩)⟩;refine a8 G G E25 (FH hM) (λrl wl hc=>?_);obtain⟨rfl,sl⟩:=hc;have:=ae mg;replace lE:=(sl.mem _ this).2 lE;replace mg:=sl.aP mg;replace uZ:=uZ.le q0 sl.le;replace yc:=yc.le sl.le;replace Lq:=Lq.le sl.le;replace hM:=sl.lt hM;have:=S.size;replace S:=S.aw sl;refine ad ⟨G,G,λh=>absurd G h,bm G G G (ad ⟨G,G,λh=>absurd G h,aB G G (ad ⟨G,G,λh=>absurd G h,iu (aT ?_)⟩)⟩)⟩;exact aX G G ⟨G,S.back⟩
end Go.K

/- What the law 'SnapParts' needs of walks and plain Lean, part 4: nothing is assumed beyond the texts that it imports. -/
import Derived.KernelRfl
import Derived.Test.YtaobajlebdchhaaGreatDoorProg
import Derived.Test.YtaobajlebdchhaaGreatDoorZSnapParts1
import Derived.Test.YtaobajlebdchhaaGreatDoorZSnapParts2
import Derived.Test.YtaobajlebdchhaaGreatDoorZSnapParts3
set_option linter.unusedVariables false
set_option linter.unusedSimpArgs false
theorem gR:type_of% @Go.K.Rg.iI:=@Go.K.Rg.iI
namespace Go.K
open Go.Proofs
namespace TKBldD
theorem I29:TI Tryz.prog 29 (.slice none 0 0) 1 24:=by unfold TI;kernel_rfl
theorem k4:TI Tryz.prog 117 (.slice none 0 0) 1 24:=by unfold TI;kernel_rfl
theorem DQ:TI Tryz.prog 180 (.map none) 1 8:=by unfold TI;kernel_rfl
theorem E93:Enters Tryz.prog 93:=enters Tryz.func93 rfl XT
theorem E94:Enters Tryz.prog 94:=enters Tryz.func94 rfl XT
theorem E96:Enters Tryz.prog 96:=enters Tryz.func96 rfl XT
theorem E97:Enters Tryz.prog 97:=enters Tryz.func97 rfl XT
end TKBldD
open TKBldD
set_option maxRecDepth 10000
set_option maxHeartbeats 4000000 in
theorem QV {Z M:aE} {B b:Nat} {L:List En} {words last:Int} {e:En} {v0:Value} (w0:World) (hM:Lt M w0) (hZ:∀k,w0.heap.size<=k->Z k) (hb:oZ Z M w0 B b L words last) (hBw:B<=w0.heap.size) (hv:RT.en.V M w0 e v0) (hl:∀f∈e.1.2,f.1.length<=900000/\f.2.length<=900000) (hLF:∀x∈L,iQ x.1) (hLn:L.length<=1000000) (hw:0<=words/\words<=1000000000):
  Spec Tryz.prog 49 #[.pointer (some ⟨b,0,none⟩),v0] w0 (λv w=>∃M',Lt M' w/\Step M w0 M' w (QP M Z)/\v= .int .i64 (nV last e)/\(nV last e≠0->oZ Z M' w B b L words last)/\(nV last e=0->oZ Z M' w B b (L++[e]) (words+((uL e).length:Int)) e.2)):=by
 obtain⟨mb,vl,es,clock,gb,eI,fL,hB,K4,ho,hW,hR,zl⟩:=hb;have W7:b≠mb:=λh=>by have:=hW.at_;rw[<-h,gb]at this;cases this
 refine aS (args:=[_,_]) (fn:=Tryz.f49) Tryz.func49 G (n:=89) Tryz.ntmps49 ?_;have S:Step M w0 M w0 (QP M Z):=(aV).dF a15 (λ_ h=>h.2);refine T.aO ?_;refine gR (A:=RT.en) G G hM hv G (λu0 w1 dB s0 _=>?_);have:=ae gb;replace eI:=(s0.mem _ this).2 eI;replace gb:=s0.ay gb;replace ho:=ho.bD s0;replace fL:=(s0.mem _ (ae hW.at_)).2 fL;replace hW:=hW.bD s0;replace hR:=hR.bD s0;replace hM:=s0.lt hM;have:=S.size;replace S:=S.av s0;refine Rg.aZ G G (aI (T.aO ?_));refine au (A:=RT.en) (B:=RT.dc) de G G nr XT WO G G XT dB b4 (λB5 lQ=>?_);refine bZ (A:=RT.dc) bh G nr XT G G G lQ b4 (λAA mP=>?_);refine aJ G G E93 (PQ _ hM mP hl) (λr2 w2 hc=>?_);obtain⟨rfl,s2⟩:=hc;have:=ae gb;replace eI:=(s2.mem _ this).2 eI;replace gb:=s2.ay gb;replace dB:=dB.le XT s2.le;replace ho:=ho.bD s2;replace fL:=(s2.mem _ (ae hW.at_)).2 fL;replace hW:=hW.bD s2;replace hR:=hR.bD s2;replace hM:=s2.lt hM;have:=S.size;replace S:=S.av s2;refine Rg.aZ G G (T.aO (ab G G (eR G G G (ad ?_))));refine bI G (λc2=>?_) (λc2=>?_)
 ·refine T.aO (ab G G (Rg.aZ G G (aM ?_)));have ea:nV last e=nt e.1:=if_pos c2;exact aP rfl rfl ⟨_,hM,S,by rw[ea],λ_=>⟨mb,vl,es,clock,gb,eI,fL,hB,K4,ho,hW,hR,zl⟩,λh=>absurd (ea▸h) c2⟩
 ·have hF:iQ e.1:=K6 (by simpa using c2);refine aR (aI (aI ?_));apply wW mixed rfl rfl;intro wD4 sA4;have rW:=sA4 M;have:=ae gb;replace eI:=(rW.mem _ this).2 eI;replace gb:=rW.ay gb;replace dB:=dB.le XT rW.le;replace ho:=ho.bD rW;replace fL:=(rW.mem _ (ae hW.at_)).2 fL;replace hW:=hW.bD rW;replace hR:=hR.bD rW;replace hM:=rW.lt hM;have:=S.size;replace S:=S.av rW;refine au (A:=RT.en) (B:=RT.int .i64) de G G I3 XT Zl G G XT dB b4 (λMP td=>?_);refine Rg.cI ?_;refine bV (M:=M) aj G G a00 (by repeat (first|exact bN _ _|refine bp (bO a00) ?_)) (λXa=>?_);refine aY (v':= .int .i64 (e.2)) G ?_;replace Xa: -9223372036854775808<=(e.2:Int)/\e.2<=9223372036854775807:=Xa;refine Rg.cI (ab G G (Rg.cI (aL G ⟨_,G⟩ G (Rg.cI (aK (o':=3) dS G G I3 XT G G (Rg.cI (aA aj G G G (by first|assumption|exact cg rW a00) G (Rg.cI (gF G G G (Rg.cI (fB ?_)))))))))));refine bI G (λc4=>?_) (λc4=>?_)
  ·refine T.aO (Rg.aZ G G (aM ?_));have ea:nV last e=12:=by unfold nV;rw[if_neg (λh=>h (by simpa using c2)),if_pos c4]
   exact aP rfl rfl ⟨_,hM,S,by rw[ea],λ_=>⟨mb,vl,es,clock,gb,eI,fL,hB,K4,ho,hW,hR,zl⟩,λh=>absurd (ea▸h) XT⟩
  ·refine aR (T.aO ?_);refine au (A:=RT.en) (B:=RT.dc) de G G nr XT WO G G XT dB b4 (λZx Gf=>?_);refine bZ (A:=RT.dc) bh G nr XT G G G Gf b4 (λZy AE=>?_);refine aJ G G E94 (GF _ hM AE hF hl) (λr6 w6 hc=>?_);obtain⟨a6,b6,rfl,ha,rB,s6⟩:=hc;have:=ae gb;replace eI:=(s6.mem _ this).2 eI;replace gb:=s6.ay gb;replace dB:=dB.le XT s6.le;replace ho:=ho.bD s6;replace fL:=(s6.mem _ (ae hW.at_)).2 fL;replace hW:=hW.bD s6;replace hR:=hR.bD s6;replace hM:=s6.lt hM;have:=S.size;replace S:=S.av s6;refine ab G G (b9 G G G (b9 G G G (aB G G (Rg.aZ G G (aI (T.aO (ab G G (bB j1 G ha G (ab G G ?_)))))))));refine ad (aT ?_);refine cR (σ:=Nat) (λq=>[(0,.pointer (some ⟨b,0,none⟩)),(3,u0),(7,b6),(30,a6),(31,.int .i64 ((dQ (uL e)).length:Int)),(32,.int .i64 (q:Int))]) (λq w=>∃M' es clock,Lt M' w/\Step M w0 M' w (QP M Z)/\cG RT.en M' w u0 e/\(RT.fd.sl).V M' w (dQ (uL e)) a6/\(((RT.int .i64).sl).sl).V M' w ((dQ (uL e)).map (posOf (uL e))) b6/\Buf Z M' w B b mb vl L words last (QQ L (uL e) q) (λx=>x∈jN L\/x∈((dQ (uL e)).take q).map cN) es clock/\q<=(dQ (uL e)).length) (λq=>(dQ (uL e)).length-q) 0 a14 ?_ ?_
   ·exact⟨_,es,clock,hM,S,dB,ha,rB,⟨gb,eI,fL,hB,K4,ho,hW,hR.congr (λk=>QR _ _ _) (λk=>by simp),zl⟩,bm _⟩
   ·clear hM S dB ha rB gb eI fL ho hW hR;rintro i w ⟨M1,es,clock,hM,S,dB,ha,rB,⟨gb,eI,fL,_,_,ho,hW,hR,_⟩,hi⟩;refine T.aO (ck G G G (ad (aI ?_)));refine bI G (λc8=>?_) (λc8=>?_)
    ·refine aR (aI (aT (T.aO (ab G G ?_))));refine cx j1 nE G G G ha b4 q0 (λama t TS QW=>?_);rw[aq]at TS;have Ui:=ax TS;have OT:=hF.term Ui;refine bZ (A:=RT.fd) bR G nE XT G G G QW b4 (λamb QX=>?_);obtain rfl:=j9 QX;refine ek M1 nE G (λAQ adZ avY avZ pM rh=>?_);obtain⟨C6,QY⟩:∃M',M'=ins M1 AQ:=⟨_,rfl⟩;rw[<-QY]at rh;have Ek:C6 AQ:=by rw[QY];exact .inl G
     change adZ.heap[AQ]? =some (.cells #[.string ⟨#[]⟩,.string ⟨#[]⟩] _ _)at pM;have:=ae gb;replace eI:=(rh.mem _ this).2 eI;replace gb:=rh.ay gb;replace dB:=dB.le XT rh.le;replace ha:=ha.le rh.le;replace rB:=rB.le rh.le;replace ho:=ho.bD rh;replace fL:=(rh.mem _ (ae hW.at_)).2 fL;replace hW:=hW.bD rh;replace hR:=hR.bD rh;replace hM:=rh.lt hM;have:=S.size;replace S:=S.av rh;refine aB G G ?_;refine dX (M:=C6) (vs:=[.string ⟨t.1.toArray⟩,.string ⟨t.2.toArray⟩]) nE G G (Jq G QX) G G pM Ek (λw9 g9 s9=>?_);have:=ae gb;replace eI:=(s9.mem _ this).2 eI;replace gb:=s9.bL gb a05;have:=ae pM;replace Ek:=(s9.mem _ this).2 Ek;replace dB:=dB.le XT s9.le;replace ha:=ha.le s9.le;replace rB:=rB.le s9.le;replace ho:=ho.step s9 (λc hc (h:_=_)=>by first|exact ho.fk gb XT (h▸hc)|exact ho.fk pM XT (h▸hc));replace fL:=(s9.mem _ (ae hW.at_)).2 fL;replace hW:=hW.step s9 a38;replace hR:=hR.step s9 a18;replace hM:=s9.lt hM;have:=S.size;replace S:=S.trans s9 (λk hk h=>by have h:_=_:=h;subst h;first|(exfalso;omega)|(show _<=_;omega)|exact⟨by first|omega|assumption,(S.mem _ hk).1 ((s9.mem _ (ae pM)).1 Ek)⟩|exact .inl rfl|exact .inr rfl|exact .inr (.inl rfl)|exact .inr (.inr rfl)|exact .inr (.inr (.inl rfl))|exact rfl);have Xb:=g9;clear pM;have pM:=Xb;clear Xb;refine ad (T.aO (eQ (vs:=[.string ⟨t.1.toArray⟩,.string ⟨t.2.toArray⟩]) bR G nE G G G pM ?_))
     refine aJ G G E95 (Qq (t:=t) _ hM q0 q0) (λr10 w10 hc=>?_);obtain⟨rfl,oT⟩:=hc;have:=ae gb;replace eI:=(oT.mem _ this).2 eI;replace gb:=oT.ay gb;replace dB:=dB.le XT oT.le;replace ha:=ha.le oT.le;replace rB:=rB.le oT.le;replace ho:=ho.bD oT;replace fL:=(oT.mem _ (ae hW.at_)).2 fL;replace hW:=hW.bD oT;replace hR:=hR.bD oT;replace hM:=oT.lt hM;have:=S.size;replace S:=S.av oT;refine Rg.aZ G G ?_;obtain⟨v10,o7⟩:=eU.ex kY es (sv (cN t));apply T.qa 21 [0,1,2,3,4,5,6,7,8,9,10] 2 (lW v10) mixed rfl rfl rfl rfl;intro B1 Pk;have dZ:=Pk C6;have:=ae gb;replace eI:=(dZ.mem _ this).2 eI;replace gb:=dZ.ay gb;replace dB:=dB.le XT dZ.le;replace ha:=ha.le dZ.le;replace rB:=rB.le dZ.le;replace ho:=ho.bD dZ;replace fL:=(dZ.mem _ (ae hW.at_)).2 fL;replace hW:=hW.bD dZ;replace hR:=hR.bD dZ;replace hM:=dZ.lt hM;have:=S.size;replace S:=S.av dZ;refine ab G G (Rg.cI (aL G ⟨_,G⟩ G (Rg.cI (aK (o':=1) dS G G DQ XT G G (Rg.cI (aA fW G G G af5 G (Rg.cI (ab G G (Rg.cI (ab G G (Rg.cI ?_)))))))))));refine aL G ⟨_,G⟩ G (Rg.cI (aK (o':=1) dS G G DQ XT G G (Rg.cI (aA fW G G G af5 G (Rg.cI (ab G G (Rg.cI ?_)))))));obtain⟨kl,Im⟩:=QO (cN t) (by unfold cN;simp;omega);refine Rg.vG fW vQ k4 G G G Im hW (λamc amd=>?_);obtain rfl:v10=amc:=hW.val_one o7 amd;have yo:=Vf hLF (uL e) i (cN t);have yn:(dQ (uL e)).length<=500:=C5 hF;refine Rg.cI (ab G G (Rg.cI (aL G ⟨_,G⟩ G (Rg.cI (aK (o':=0) dS G G I29 XT G G (Rg.cI (aA ef G G G af5 G (Rg.cI (jQ ef G ho G (Rg.cI (ab G G ?_)))))))))))
     refine Rg.cI (ab G G (Rg.cI ?_));refine cx iV l4 rfl rfl rfl rB b4 a13 (λu18 ps ae0 QZ=>?_);rw[aq,cD,TS]at ae0;obtain rfl:=aF ae0;refine Rg.cI ?_;refine bM ao G G G G G QZ b4 (λv19 Nh=>?_);refine Rg.cI (dp (places:=[(0,1),(1,1)]) cv jl Ux rfl ⟨_,_,rfl,rfl,_,_,rfl,rfl,rfl⟩ (out:=[_,_]) ⟨0,[_],rfl,rfl,by simp[Value.cells],1,[_],rfl,iF Nh,by simp[Value.cells],rfl⟩ ?_);have Ib:RT.po.V C6 _ ((L.length:Int),posOf (uL e) t) _:=fR (iG q0) Nh rfl rfl rfl rfl;refine Rg.cI (fB ?_);have th:=hR.o _ _ o7;refine ⟨ik ⟨eP,⟨nf G,⟨fC dS G DQ XT,⟨eO G gb (λh=>th.fk gb XT h),⟨eP,⟨eP,⟨nf G,⟨fC dS G DQ XT,⟨eO G gb (λh=>th.fk gb XT h),⟨eP,⟨cf.vG fW vQ k4 G G Im hW (λh=>th.kZ hW.at_ h),trivial⟩⟩⟩⟩⟩⟩⟩⟩⟩⟩⟩,?_⟩;have kp:=iR (lW v10) B1;refine fm (A:=RT.po) (hn:=by decide) (M:=C6) bC jl XT G G hM (Ib) (.inl G) (λame amf Vg mT=>?_);have:=ae gb;replace eI:=(mT.mem _ this).2 eI;replace gb:=mT.ay gb;replace dB:=dB.le XT mT.le;replace ha:=ha.le mT.le;replace rB:=rB.le mT.le;replace ho:=ho.bD mT;replace fL:=(mT.mem _ (ae hW.at_)).2 fL;replace hW:=hW.bD mT;replace hR:=hR.bD mT;replace hM:=mT.lt hM;have:=S.size;replace S:=S.av mT;refine(fun(kp:fa _ _ _)=>ad ⟨G,G,λ_=>kp,?_⟩) a03;refine Rg.nw (M:=C6) (base:=B) bC jl rfl rfl rfl rfl (hR.o _ _ o7) Vg b4 a13 a13 ai2 (λv22 w22 amh zm ami=>?_)
     have th:=hR.o _ _ o7;have arn:=hW.at_;have ae1:v10.ownBlock≠some mb:=th.kZ hW.at_;have Xc:=ho.step zm (λc hc h=>ho.jE th XT hc h);have Jr:=(zm.mem _ (ae hW.at_)).2 fL;have Vh:=hW.step zm ae1;have ae2:=zm.bL gb (λh=>th.fk gb XT h);have ZS:=(zm.mem _ (ae gb)).2 eI;have S22:=S.trans zm (λk hk h=>⟨hR.z _ _ k o7 h,(S.mem k hk).1 (th.mut_ k h)⟩);have amj:=zm.lt hM;replace dB:=dB.le XT zm.le;replace ha:=ha.le zm.le;replace rB:=rB.le zm.le;refine(fun(kp:fa _ _ _)=>ad ⟨G,G,λ_=>kp,?_⟩) a03;refine Rg.U9 fW vQ G G G Im Vh Jr (λw23 amk aml amm ZT ZU TU=>?_);have amn:=hR.put (λc hc=>hZ c ai2) o7 amh zm ami Vh.at_ TU ZU ZT;replace dB:=dB.le XT TU.le;replace ha:=ha.le TU.le;replace rB:=rB.le TU.le;have amo:=Xc.step TU (λc hc (h:c=mb)=>Xc.kZ Vh.at_ (h▸hc));have amp:=TU.bL ae2 W7;have ZV:=(TU.mem _ (ae ae2)).2 ZS;have ZW:=(TU.mem _ (ae Vh.at_)).2 Jr;have amq:=TU.lt amj;have S23:=S22.trans TU (λk hk (h:k=mb)=>⟨by rw[h];exact K4,(S22.mem k hk).1 (by rw[h];exact Jr)⟩);refine ad ⟨G,G,λh=>absurd G h,lH (aN (br G G G q0 (ab G G (ad ?_))))⟩;refine⟨G,i+1,a14,?_,?_⟩
     ·exact⟨_,amk,aml,amq,S23,dB,ha,rB,⟨amp,ZV,ZW,hB,K4,amo,amm,amn.congr (λk=>QS TS k) (λk=>by rw[bQ,TS,cH,ed,dN,or_assoc];simp),zl⟩,by omega⟩
     ·omega
    ·refine cE (aI ?_);apply T.qa 6 [0,1,2,3,4] 3 (lW vl) mixed rfl rfl rfl rfl;intro PV Zo;have jm:=Zo M1;have:=ae gb;replace eI:=(jm.mem _ this).2 eI;replace gb:=jm.ay gb;replace dB:=dB.le XT jm.le;replace ha:=ha.le jm.le;replace rB:=rB.le jm.le;replace ho:=ho.bD jm;replace fL:=(jm.mem _ (ae hW.at_)).2 fL;replace hW:=hW.bD jm;replace hR:=hR.bD jm;replace hM:=jm.lt hM;have:=S.size;replace S:=S.av jm;refine ab G G (Rg.cI (ab G G (Rg.cI (aL G ⟨_,G⟩ G (Rg.cI (aK (o':=0) dS G G I29 XT G G (Rg.cI (aA ef G G G gb G (aY (v':=vl) G (Rg.cI ?_))))))))));refine bZ (A:=RT.en) de G CM XT G G G dB b4 (λKX xD=>?_);refine Rg.cI (fB (⟨ik ⟨eP,⟨eP,⟨nf G,⟨fC dS G I29 XT,⟨eO G gb (λh=>ho.fk gb XT h),trivial⟩⟩⟩⟩⟩,?_⟩));have kp:=iR (lW vl) PV;refine aJ G G E96 (QF _ hM xD (by have:=hF.few;omega)) (λXd Vi hc=>?_);obtain⟨AR,oh⟩:=hc;have:=ae gb;replace eI:=(oh.mem _ this).2 eI;replace gb:=oh.ay gb;replace dB:=dB.le XT oh.le;replace ha:=ha.le oh.le;replace rB:=rB.le oh.le;replace ho:=ho.bD oh;replace fL:=(oh.mem _ (ae hW.at_)).2 fL;replace hW:=hW.bD oh;replace hR:=hR.bD oh;replace hM:=oh.lt hM;have:=S.size;replace S:=S.av oh;refine(fun(kp:fa _ _ _)=>ad ⟨G,G,λ_=>kp,?_⟩) a03;refine fm (A:=RT.en) (hn:=by decide) (M:=M1) ef CM XT G G hM (AR) (.inl G) (λarp arq ZX qh=>?_);have:=ae gb;replace eI:=(qh.mem _ this).2 eI
     replace gb:=qh.ay gb;replace dB:=dB.le XT qh.le;replace ha:=ha.le qh.le;replace rB:=rB.le qh.le;replace AR:=AR.le qh.le;replace ho:=ho.bD qh;replace fL:=(qh.mem _ (ae hW.at_)).2 fL;replace hW:=hW.bD qh;replace hR:=hR.bD qh;replace hM:=qh.lt hM;have:=S.size;replace S:=S.av qh;refine(fun(kp:fa _ _ _)=>ad ⟨G,G,λ_=>kp,?_⟩) a03;refine Rg.nw (M:=M1) (base:=B) ef CM rfl rfl rfl rfl ho ZX b4 a13 a13 ai2 (λGK ars ZY yC amr=>?_);replace eI:=(yC.mem _ (ae gb)).2 eI
     have zl':∀c,GK.ownBlock=some c->Z c:=λc hc=>by
      rcases amr c hc with h|h
      ·exact hZ c ai2
      ·exact zl c h
     replace hR:=hR.step yC (λk v c hv hc h=>(hR.o k v hv).jE ho XT hc h);replace fL:=(yC.mem _ (ae hW.at_)).2 fL;replace hW:=hW.step yC (λh=>ho.kZ hW.at_ h);replace gb:=yC.bL gb (λh=>ho.fk gb XT h);replace dB:=dB.le XT yC.le;replace S:=S.trans yC (λk hk h=>⟨zl k h,(S.mem k hk).1 (ho.mut_ k h)⟩);replace hM:=yC.lt hM;replace ho:=ZY;obtain⟨M13,ams⟩:∃M',M'=mu M1 GK:=⟨_,rfl⟩;rw[<-ams]at hR fL dB S hM ho eI;refine(fun(kp:fa _ _ _)=>ad ⟨G,G,λ_=>kp,?_⟩) a03;refine aL G ⟨_,G⟩ G (ad ⟨G,G,λh=>absurd G h,aK (o':=0) dS G G I29 XT G G (ad ⟨G,G,λh=>absurd G h,?_⟩)⟩);refine ch (M:=M13) I29 rfl rfl gb rfl a84 eI (λZZ Q0 pN=>?_);change ZZ.heap[_]? =some (Obj.cells #[GK,.map (some mb),.int .i64 words,.int .i64 last] _ _)at Q0;have:=ae gb;replace eI:=(pN.mem _ this).2 eI;replace dB:=dB.le XT pN.le;replace ho:=ho.step pN (λc hc (h:_=_)=>by first|exact ho.fk gb XT (h▸hc)|exact ho.fk pM XT (h▸hc));replace fL:=(pN.mem _ (ae hW.at_)).2 fL;replace hW:=hW.step pN a38;replace hR:=hR.step pN a18;replace hM:=pN.lt hM;have:=S.size;replace S:=S.trans pN (λk hk h=>by have h:_=_:=h;subst h;first|(exfalso;omega)|(show _<=_;omega)|exact⟨by first|omega|assumption,(S.mem _ hk).1 ((pN.mem _ (ae gb)).1 eI)⟩|exact .inl rfl|exact .inr rfl|exact .inr (.inl rfl)|exact .inr (.inr rfl)|exact .inr (.inr (.inl rfl))|exact rfl)
     have Qn:=Q0;clear gb;have gb:=Qn;clear Qn;refine ad ⟨G,G,λh=>absurd G h,lH (aI ?_)⟩;apply T.qa 6 [0,1,2,3] 1 ar mixed rfl rfl rfl rfl;intro Z0 Q1;have sG:=Q1 M13;have:=ae gb;replace eI:=(sG.mem _ this).2 eI;replace gb:=sG.ay gb;replace dB:=dB.le XT sG.le;replace ho:=ho.bD sG;replace fL:=(sG.mem _ (ae hW.at_)).2 fL;replace hW:=hW.bD sG;replace hR:=hR.bD sG;replace hM:=sG.lt hM;have:=S.size;replace S:=S.av sG;refine ab G G (Rg.cI (aL G ⟨_,G⟩ G (Rg.cI (aK (o':=2) dS G G I3 XT G G (Rg.cI (aA aj G G G (by first|assumption|exact cg sG a00) G (Rg.cI ?_)))))));refine au (A:=RT.en) (B:=RT.dc) de G G nr XT WO G G XT dB b4 (λart Z1=>?_);refine Rg.cI ?_;refine bZ (A:=RT.dc) bh G nr XT G G G Z1 b4 (λaru Z2=>?_);refine Rg.cI (fB (⟨ik ⟨eP,⟨nf G,⟨fC dS G I3 XT,⟨eO G gb (λh=>h),trivial⟩⟩⟩⟩,?_⟩));have kp:=iR ar Z0;refine aJ G G E97 (Gm _ hM Z2 hl hF.few) (λr14 Oi hc=>?_);obtain⟨rfl,iO⟩:=hc;have:=ae gb;replace eI:=(iO.mem _ this).2 eI;replace gb:=iO.ay gb;replace dB:=dB.le XT iO.le;replace ho:=ho.bD iO;replace fL:=(iO.mem _ (ae hW.at_)).2 fL;replace hW:=hW.bD iO;replace hR:=hR.bD iO;replace hM:=iO.lt hM;have:=S.size;replace S:=S.av iO;refine(fun(kp:fa _ _ _)=>ad ⟨G,G,λ_=>kp,?_⟩) a03;have:=hF.many;refine br G G G q0 (ad ⟨G,G,λh=>absurd G h,aL G ⟨_,G⟩ G (ad ⟨G,G,λh=>absurd G h,aK (o':=2) dS G G I3 XT G G (ad ⟨G,G,λh=>absurd G h,?_⟩)⟩)⟩)
     refine ch (M:=M13) I3 G G gb G (G) eI (λZ3 Q2 pO=>?_);change Z3.heap[_]? =some (Obj.cells #[GK,.map (some mb),.int .i64 (words+((uL e).length:Int)),.int .i64 last] _ _)at Q2;have:=ae gb;replace eI:=(pO.mem _ this).2 eI;replace dB:=dB.le XT pO.le;replace ho:=ho.step pO (λc hc (h:_=_)=>by first|exact ho.fk gb XT (h▸hc)|exact ho.fk pM XT (h▸hc));replace fL:=(pO.mem _ (ae hW.at_)).2 fL;replace hW:=hW.step pO a38;replace hR:=hR.step pO a18;replace hM:=pO.lt hM;have:=S.size;replace S:=S.trans pO (λk hk h=>by have h:_=_:=h;subst h;first|(exfalso;omega)|(show _<=_;omega)|exact⟨by first|omega|assumption,(S.mem _ hk).1 ((pO.mem _ (ae gb)).1 eI)⟩|exact .inl rfl|exact .inr rfl|exact .inr (.inl rfl)|exact .inr (.inr rfl)|exact .inr (.inr (.inl rfl))|exact rfl);have Qn:=Q2;clear gb;have gb:=Qn;clear Qn;refine ad ⟨G,G,λh=>absurd G h,lH (T.aO (ab G G ?_))⟩;refine au (A:=RT.en) (B:=RT.int .i64) de G G I3 XT Zl G G XT dB b4 (λarv amt=>?_);refine bV (M:=M13) aj G G a00 (by repeat (first|exact bN _ _|refine bp (bO a00) ?_)) (λQ3=>?_);refine aY (v':= .int .i64 (e.2)) G ?_;replace Q3: -9223372036854775808<=(e.2:Int)/\e.2<=9223372036854775807:=Q3;refine aL G ⟨_,G⟩ G (aK (o':=3) dS G G I3 XT G G ?_);refine ch (M:=M13) I3 G G gb G (G) eI (λXe Xf kh=>?_)
     change Xe.heap[_]? =some (Obj.cells #[GK,.map (some mb),.int .i64 (words+((uL e).length:Int)),.int .i64 e.2] _ _)at Xf;have:=ae gb;replace eI:=(kh.mem _ this).2 eI;replace dB:=dB.le XT kh.le;replace ho:=ho.step kh (λc hc (h:_=_)=>by first|exact ho.fk gb XT (h▸hc)|exact ho.fk pM XT (h▸hc));replace fL:=(kh.mem _ (ae hW.at_)).2 fL;replace hW:=hW.step kh a38;replace hR:=hR.step kh a18;replace hM:=kh.lt hM;have:=S.size;replace S:=S.trans kh (λk hk h=>by have h:_=_:=h;subst h;first|(exfalso;omega)|(show _<=_;omega)|exact⟨by first|omega|assumption,(S.mem _ hk).1 ((kh.mem _ (ae gb)).1 eI)⟩|exact .inl rfl|exact .inr rfl|exact .inr (.inl rfl)|exact .inr (.inr rfl)|exact .inr (.inr (.inl rfl))|exact rfl);have Qn:=Xf;clear gb;have gb:=Qn;clear Qn;refine ad (T.aO (Rg.aZ G G (aM ?_)));have ea:nV last e=0:=by unfold nV;rw[if_neg (λh=>h (by simpa using c2)),if_neg c4]
     exact aP rfl rfl ⟨_,hM,S,by rw[ea],λh=>absurd ea h,λ_=>⟨mb,_,es,clock,gb,eI,fL,hB,K4,ho,hW,hR.congr (λk=>(Ve q0 k).symm) (λk=>by rw[Jp,dN,bg q0]),zl'⟩⟩
end Go.K
namespace Go.K
open Go.Proofs
namespace TKBldE
theorem k4:TI Tryz.prog 117 (.slice none 0 0) 1 24:=by unfold TI;kernel_rfl
theorem DQ:TI Tryz.prog 180 (.map none) 1 8:=by unfold TI;kernel_rfl
theorem E98:Enters Tryz.prog 98:=enters Tryz.func98 rfl XT
theorem E99:Enters Tryz.prog 99:=enters Tryz.func99 rfl XT
theorem Ac:Enters Tryz.prog 100:=enters BO rfl XT
end TKBldE
open TKBldE
set_option maxRecDepth 10000
theorem gx.KG {P:Program} {kt:TypeId} {w:World} {b clock:Nat} {es:List MapEntry} (hk:P.underlying kt=some .string) (h:gx P kt w b es clock):∃ks:List (List UInt8),es.map (·.key)=ks.map sv/\ks.Nodup:=by
 have key:∀es:List MapEntry,(∀e∈es,∃l,keyOf P kt e.key=some l)->∃ks:List (List UInt8),es.map (·.key)=ks.map sv:=by
  intro es
  induction es with
  |nil=>exact λ_=>⟨[],rfl⟩
  |cons e es ih=>
   intro h;obtain⟨ks,h1⟩:=ih λx hx=>h x (cz _ hx)
   obtain⟨l,hl⟩:=h e (bK ..);obtain⟨x,h3,_,h4⟩:=Maps.keyOf_str hk hl;exact⟨x::ks,by simp only[dC,h1,h3]⟩
 obtain⟨ks,h1⟩:=key es h.ok;refine ⟨ks,h1,?_⟩;have h3:=eu.2 h.keys;rw[h1]at h3;exact(eu.1 h3).imp λh e=>h (by rw[e])
theorem GL {M:aE} {w:World}:∀{l:List (List UInt8)},(∀x∈l,x.length<=140737488355328)->fY RT.str M w l (l.map Go.Proofs.encStr)
 |[],_=>rfl
 |x::l,h=>⟨[.string ⟨x.toArray⟩],_,rfl,⟨rfl,h x (bK ..)⟩,GL λy hy=>h y (cz _ hy)⟩
theorem Q4 (M:aE) (w:World) (M':aE) (w':World) (x:List UInt8) (vs:List Value) (h:RT.str.R M w x vs):RT.str.R M' w' x vs:=h
theorem yD {L:List En} (hF:∀x∈L,iQ x.1):∀k∈jN L,k.length<=43:=λk hk=>by
 obtain⟨e,he,h1⟩:=List.mem_flatMap.1 hk;obtain⟨t,ht,rfl⟩:=cu.1 h1;have:=(hF e he).term ht;unfold cN;simp;omega
theorem xN {L:List En} (hF:∀x∈L,iQ x.1):(jN L).length<=500*L.length:=by
 induction L with
 |nil=>simp[jN]
 |cons e L ih=>
  have h1:=ih λx hx=>hF x (cz _ hx)
  have h2:=C5 (hF e (bK ..));show((dQ (uL e)).map cN++jN L).length<=_;rw[bU,bT,cy];have h2:(dQ (uL e)).length<=500:=h2;omega
theorem Js {Z M:aE} {B b:Nat} {L:List En} {words last:Int} (w0:World) (hM:Lt M w0) (hb:oZ Z M w0 B b L words last) (hF:∀x∈L,iQ x.1) (hLn:L.length<=1000000):
  Spec Tryz.prog 50 #[.pointer (some ⟨b,0,none⟩)] w0 (λv w=>(RT.str.sl).V M w (keysOf L) v/\Step M w0 M w ar):=by
 obtain⟨mb,vl,es,clock,gb,eI,fL,hB,K4,ho,hW,hR,zl⟩:=hb;obtain⟨ks,U7,lU⟩:=hW.KG aG
 have ir:∀x,x∈ks↔x∈jN L:=λx=>by
  rw[<-hR.k x];constructor
  ·intro hx;have:sv x∈es.map (·.key):=by rw[U7];exact gw hx
   obtain⟨e,he,h⟩:=cu.1 this;exact⟨e,he,h⟩
  ·rintro⟨e,he,h⟩;have:sv x∈ks.map sv:=by rw[<-U7,<-h];exact gw he
   obtain⟨y,hy,h1⟩:=cu.1 this;rw[<-Eg h1];exact hy
 have hkn:ks.length<=500000000:=by
  have h1:=lU.length_le_of_subset (l₂:=jN L) (λx hx=>(ir x).1 hx);have h2:=xN hF;omega
 have hen:es.length=ks.length:=by have:=congrArg List.length U7;simpa using this
 refine aS (args:=[_]) (fn:=Tryz.f50) Tryz.func50 G (n:=9) Tryz.ntmps50 ?_;have S:Step M w0 M w0 ar:=aV;refine T.aO (Rg.aZ G G (T.aO (ab G G (aL G ⟨_,G⟩ G (aK (o':=1) dS G G DQ XT G G (aA fW G G G gb G (aY (v':= .map (some mb)) G ?_)))))));refine aJ G G E99 (zZ _ _) (λr w1 hc=>?_);obtain⟨rfl,hw1⟩:=hc;have s1:Step M w0 M w1 ar:=by rw[hw1];exact dL _ w0 _
 have H4:=ta hw1;have:=ae gb;replace eI:=(s1.mem _ this).2 eI;replace gb:=s1.ay gb;replace fL:=(s1.mem _ (ae hW.at_)).2 fL;replace hW:=hW.bD s1;replace hM:=s1.lt hM;have:=S.size;replace S:=S.av s1;obtain⟨m,hO,ae3,yM⟩:=hW.alW aG fL (by unfold maxLen;omega) ks U7;refine aJ G G E98 (vq hO H4 q0) (λr2 w2 hc=>?_);obtain⟨⟨ss,hss,qv,_⟩,s2⟩:=hc;have hsp:ss.Perm ks:=hss.trans ae3;have hmp:=List.mergeSort_perm ss λx y=>decide (x<=y)
 have qf:(ss.mergeSort λx y=>decide (x<=y))=keysOf L:=ZL (Na (hsp.nodup_iff.2 lU)) (nH L) λx=>by rw[hmp.mem_iff,hsp.mem_iff,ir,mS]
 have hlen:ss.length=(keysOf L).length:=by rw[<-qf,List.length_mergeSort]
 rw[qf,hlen]at qv;have amw:∀x∈keysOf L,x.length<=140737488355328:=λx hx=>by have:=yD hF x (mS.1 hx);omega
 have tJ:Own RT.str 9 (mI r2) w2 w1.heap.size r2 (keysOf L):=⟨⟨_,qv,GL amw⟩,λb hb=>hb⟩;have E5:(RT.str.sl).V M w2 (keysOf L) r2:=tJ.tell Q4 (λb hb h=>by have:=(tJ.base b hb).1;have:=hM b h;omega) (by have:=hsp.length_eq;omega);have:=ae gb;replace eI:=(s2.mem _ this).2 eI;replace gb:=s2.ay gb;replace fL:=(s2.mem _ (ae hW.at_)).2 fL;replace hW:=hW.bD s2;replace hM:=s2.lt hM;have:=S.size;replace S:=S.av s2;refine Rg.aZ G G (aM ?_);exact aP G G ⟨E5,S⟩
theorem Jt {Z M:aE} {B b:Nat} {L:List En} {words last:Int} {k:List UInt8} (w0:World) (hM:Lt M w0) (hb:oZ Z M w0 B b L words last) (hF:∀x∈L,iQ x.1) (hLn:L.length<=1000000) (Im:k.length<=140737488355328):
  Spec Tryz.prog 51 #[.pointer (some ⟨b,0,none⟩),sv k] w0 (λv w=>(RT.po.sl).V M w (pk L k) v/\Step M w0 M w ar):=by
 have iz:=hM;obtain⟨mb,vl,es,clock,gb,eI,fL,hB,K4,ho,hW,hR,zl⟩:=hb;obtain⟨kl,Fj⟩:=QO k Im;obtain⟨yo,hpa⟩:=xK k L 0 hF;replace yo:(pk L k).length<=L.length:=yo;replace hpa:∀p∈pk L k,_:=hpa;refine aS (args:=[_,_]) (fn:=Tryz.f51) Tryz.func51 G (n:=30) Tryz.ntmps51 ?_;have S:Step M w0 M w0 ar:=aV;refine T.aO (Rg.aZ G G (T.aO (Rg.aZ G G (aI (T.aO (ab G G ?_))))));refine aL G ⟨_,G⟩ G (aK (o':=1) dS G G DQ XT G G (aA fW G G G gb G (aY (v':= .map (some mb)) G (ab G G ?_))));refine Rg.vG fW vQ k4 G G G Fj hW (λZ4 o7=>?_);have th:=hR.o _ _ o7;have On:∀c,Z4.ownBlock=some c->c<w0.heap.size:=λc hc=>(th.base c hc).2
 clear hR hW ho;refine jQ bC G th G (ab G G (ad (aT ?_)));refine cR (σ:=Nat×Value) (λq=>[(5,q.2),(13,Z4),(14,.int .i64 ((pk L k).length:Int)),(15,.int .i64 (q.1:Int))]) (λq w=>∃M',Lt M' w/\Step M w0 M' w ar/\Own RT.po 188 M' w w0.heap.size q.2 ((pk L k).take q.1)/\Own RT.po 188 M' w B Z4 (pk L k)/\q.1<=(pk L k).length) (λq=>(pk L k).length-q.1) (0,.slice none 0 0) a01 ?_ ?_
 ·exact⟨M,hM,S,eE _ _ _ _ _,th,bm _⟩
 ·clear hM S th;rintro⟨i,u⟩ w ⟨M1,hM,S,hu,th,hi⟩;dsimp only at hu hi ⊢;refine T.aO (ck G G G (ad (aI ?_)));refine bI G (λc3=>?_) (λc3=>?_)
  ·refine aR (aI (aT (T.aO ?_)));refine Rg.akU bC jl XT G G G th q0 (λu4 p E4 KL=>?_);rw[aq]at E4;have hp:=hpa p (ax E4);refine Rg.Pq (A:=RT.po) cv G jl G G G KL (λv4 qb=>?_);refine jR (A:=RT.po) (M:=M1) jl G G G G G a00 b4 hM (λY2 Y3 nF pF ae5=>?_);replace hu:=hu.bD pF;replace th:=th.bD pF;replace hM:=pF.lt hM;have:=S.size;replace S:=S.av pF;refine ad ?_;apply T.qa 5 [0,1,2] 3 ar mixed rfl rfl rfl rfl;intro wD5 sA5;have Lb:=sA5 M1;replace nF:=nF.le XT Lb.le;replace hu:=hu.bD Lb;replace th:=th.bD Lb;replace hM:=Lb.lt hM;have:=S.size;replace S:=S.av Lb;refine ab G G (Rg.cI ?_);refine au (M:=M1) (A:=RT.po) (B:=RT.int .i64) cv G G I3 XT (TP) G G XT a00 (by repeat (first|exact bN _ _|refine bp (bO a00) ?_)) (λaeo KU=>?_);refine Rg.cI ?_;refine bV (M:=M1) aj G G a00 (by repeat (first|exact bN _ _|refine bp (bO a00) ?_)) (λae6=>?_);refine Rg.cI ?_;refine au (M:=M1) (A:=RT.po) (B:=(RT.int .i64).sl) cv G G l4 XT (Yp) G G XT a00 (by repeat (first|exact bN _ _|refine bp (bO a00) ?_)) (λalh KP=>?_);refine Rg.cI ?_;refine bM (M:=M1) ao G G G G G a00 (by repeat (first|exact bN _ _|refine bp (bO a00) ?_)) (λav3 ae7=>?_);refine Rg.cI (fB ?_);obtain⟨bb,oo,cs,ee,fr,rfl,oF,_⟩:=KU.float;refine ⟨ik ⟨eP,⟨fC cv G I3 XT,⟨eO G oF (λh=>h),trivial⟩⟩⟩,?_⟩;have kp:=iR ar wD5;refine aJ G G Ac (AO hM ae7 q0) (λv5 w5 hc=>?_)
   obtain⟨qK,s5⟩:=hc;replace nF:=nF.le XT s5.le;replace hu:=hu.bD s5;replace th:=th.bD s5;replace hM:=s5.lt hM;have:=S.size;replace S:=S.av s5;refine(fun(kp:fa _ _ _)=>ad ⟨G,G,λ_=>kp,?_⟩) a03;refine dp (places:=[(0,1),(1,1)]) cv jl Ux rfl ⟨_,_,rfl,rfl,_,_,rfl,rfl,rfl⟩ (out:=[_,_]) ⟨0,[_],rfl,rfl,by simp[Value.cells],1,[_],rfl,iF qK,by simp[Value.cells],rfl⟩ ?_;have Ib:RT.po.V M1 _ p _:=fR (iG ae6) qK rfl rfl rfl rfl;refine(fun(kp:fa _ _ _)=>ad ⟨G,G,λ_=>kp,?_⟩) a03;refine fm (A:=RT.po) (hn:=by decide) (M:=M1) bC jl XT G G hM (Ib) (.inl G) (λae8 amy Q5 vR=>?_);replace nF:=nF.le XT vR.le;replace qK:=qK.le vR.le;replace hu:=hu.bD vR;replace th:=th.bD vR;replace hM:=vR.lt hM;have:=S.size;replace S:=S.av vR;refine(fun(kp:fa _ _ _)=>ad ⟨G,G,λ_=>kp,?_⟩) a03;refine dA (M:=M1) (base:=w0.heap.size) bC jl rfl rfl rfl rfl hu Q5 b4 a13 a13 (S.size) (λamz amA av4 ae9 Ni=>?_);replace nF:=nF.le XT Ni.le;replace qK:=qK.le Ni.le;replace Q5:=Q5.le Ni.le;replace th:=th.step Ni (λc hc h=>by have:=On c hc;have:=(hu.base c h).1;omega);replace hM:=Ni.lt hM;have:=S.size;replace S:=S.eg Ni hu (aX _);replace hu:=ae9;refine ad ⟨G,G,λh=>absurd G h,aB G G (ad ⟨G,G,λh=>absurd G h,lH (aN (br G G G q0 (ab G G (ad ?_))))⟩)⟩
   refine⟨G,(i+1,amz),a01,?_,?_⟩
   ·exact⟨amA,hM,S,by rw[bQ,E4,cH];exact hu,th,by dsimp only;omega⟩
   ·dsimp only;omega
  ·refine cE (T.aO (ab G G (Rg.aZ G G (aM ?_))));rw[bg q0]at hu;exact aP G G ⟨hu.close iz S q0,S.back⟩
end Go.K
namespace Go.K
open Go.Proofs
namespace TKBldF
theorem YD:TI Tryz.prog 310 (.agg #[(.slice none 0 0),(.slice none 0 0)]) 2 48:=by unfold TI;kernel_rfl
theorem YF:placesOf Tryz.prog 310=[(0,1),(1,1)].map some:=by kernel_rfl
theorem YH:Enters Tryz.prog 197:=enters Tryz.func197 rfl XT
theorem YI:Enters Tryz.prog 198:=enters Tryz.func198 rfl XT
theorem YJ:Enters Tryz.prog 199:=enters Tryz.func199 rfl XT
end TKBldF
open TKBldF
set_option maxRecDepth 10000
def GM:Option (List UInt8)->List (List UInt8)->Bool
 |_,[]=>true
 |o,x::l=>(match o with|none=>true|some a=>decide (a<x))&&GM (some x) l
theorem AS {l:List (List UInt8)} {k:Nat} {x:List UInt8} (h:l[k]? =some x) (o:Option (List UInt8)):GM o (l.drop k)=((match o with|none=>true|some a=>decide (a<x))&&GM (some x) (l.drop (k+1))):=by
 obtain⟨eZ,he⟩:=al.1 h;rw[j0 eZ,he];rfl
theorem GN {a:List UInt8}:∀{l:List (List UInt8)},Ef (a::l)->GM (some a) l=true
 |[],_=>rfl
 |x::l,h=>by
  have h':=eV.1 h;simp only[GM,cp,decide_eq_true_eq];exact⟨h'.1 x (bK ..),GN h'.2⟩
theorem Z5:∀{l:List (List UInt8)},Ef l->GM none l=true
 |[],_=>rfl
 |x::l,h=>by simp only[GM,cT];exact GN h
theorem Nj {M:aE} {v:Value} {l:List Int} (w0:World) (hv:((RT.int .i64).sl).V M w0 l v):
  Spec Tryz.prog 153 #[v] w0 (λv' w'=>v'= .bool (gg (-1) l)/\w'=w0):=by
 have hlen:=dW hv;refine aS (args:=[_]) (fn:=Tryz.f153) Tryz.func153 G (n:=28) Tryz.ntmps153 (T.aO (Rg.aZ G G (aI (T.aO (ab G G (bB ao G hv G (ab G G (ad ?_))))))));refine aT ?_;refine cR (σ:=Nat×Int) (λs=>[(0,v),(5,v),(6,.int .i64 l.length),(7,.int .i64 s.1)]) (λs w=>w=w0/\s.1<=l.length/\gg (-1) l=gg s.2 (l.drop s.1)/\ -1<=s.2/\(s.1=0->s.2= -1)/\(0<s.1->l[s.1-1]? =some s.2)) (λs=>l.length-s.1) (0,-1) a01 ?_ ?_
 ·exact⟨rfl,bm _,rfl,by decide,λ_=>rfl,λh=>absurd h (ky 0)⟩
 ·rintro⟨k,last⟩ w1 ⟨rfl,hk,hr,Vj,h0,h1⟩;dsimp only at hk hr Vj h0 h1 ⊢;refine T.aO (ck G G G (ad (aI ?_)));refine bI G (λc2=>?_) (λc2=>?_)
  ·refine aR (aI (aT (T.aO (ab G G ?_))));obtain⟨x,hx⟩:∃x,l[k]? =some x:=⟨_,an q0⟩;refine cx ao I3 G G G hv b4 q0 (λu a hg hu=>?_);obtain rfl:x=a:=dV (aF (hg.symm.trans af1));refine bV aj G G hu b4 (λinx=>?_);refine aB G G (Rg.aZ G G (T.aO (ab G G (ck G G G (ab G G ?_)))));refine aW (g:=14) G (λxO=>?_) (λxO=>?_)
   ·refine ak G G G G (ak G G G G (ak G G G G (cM G G G (cM G G G (cM G G G (cM G G G (cM G G G (cM G G G (cM G G G (ak G G G G (a8 G G G ?_)))))))))));refine ad (lh G (T.aO (Rg.aZ G G (aM ?_))));refine aP G G ⟨congrArg Value.bool (dV ?_),G⟩;rw[hr,gS hx,decide_eq_false (show¬last<x by omega),ei]
   ·refine ah G G (ab G G (ah G G (il G G G (ah G G (ab G G ?_)))));refine aW (g:=17) G (λZw=>?_) (λZw=>?_)
    ·refine ah G G (ab G G (ah G G (ab G G (ah G G (ab G G (ah G G (jy G G G q0 (ah G G ?_))))))));refine cx ao I3 G G G hv b4 q0 (λu2 a hg j3=>?_);obtain rfl:last=a:=dV (aF (hg.symm.trans (by rw[show((k:Int)-1).toNat=k-1 from by omega];exact h1 q0)));refine ah G G ?_;refine bV aj G G j3 b4 (λinl=>?_);refine ah G G (gF G G G (ah G G (a8 G G G (aD G G G (ad ?_)))));refine bI G (λc4=>?_) (λc4=>?_)
     ·refine T.aO (Rg.aZ G G (aM ?_));refine aP G G ⟨congrArg Value.bool (dV ?_),G⟩;rw[hr,gS hx,decide_eq_false (show¬last<x by omega),ei]
     ·refine aR (aN (br G G G q0 (ab G G (ad ?_))));refine⟨G,(k+1,x),a01,?_,?_⟩
      ·refine⟨rfl,by simp only;omega,?_,by simp only;omega,λh=>by simp at h,λ_=>by simpa using hx⟩;rw[hr,gS hx,decide_eq_true (show last<x by omega),cT]
      ·simp only;omega
    ·refine ak G G G G (ak G G G G (ak G G G G (ak G G G G (ak G G G G (ak G G G G (ak G G G G (ah G G (aD G G G (aD G G G (ad (gy G ?_)))))))))));refine aR (aN (br G G G q0 (ab G G (ad ?_))));refine⟨G,(k+1,x),a01,?_,?_⟩
     ·refine⟨rfl,by simp only;omega,?_,by simp only;omega,λh=>by simp at h,λ_=>by simpa using hx⟩;rw[hr,gS hx,decide_eq_true (show last<x by omega),cT]
     ·simp only;omega
  ·refine cE (T.aO (Rg.aZ G G (aM ?_)));refine aP G G ⟨congrArg Value.bool (dV ?_),G⟩;rw[hr,fq q0];rfl
theorem GO {M:aE} {v:Value} {l:List (List UInt8)} (w0:World) (hv:(RT.str.sl).V M w0 l v):
  Spec Tryz.prog 197 #[v] w0 (λv' w'=>v'= .bool (GM none l)/\w'=w0):=by
 have hlen:=dW hv;refine aS (args:=[_]) (fn:=Tryz.f197) Tryz.func197 G (n:=24) Tryz.ntmps197 (T.aO (Rg.aZ G G (aI (T.aO (ab G G (bB aQ G hv G (ab G G (ad ?_))))))));refine aT ?_;refine cR (σ:=Nat×Option (List UInt8)) (λs=>[(0,v),(5,v),(6,.int .i64 l.length),(7,.int .i64 s.1)]) (λs w=>w=w0/\s.1<=l.length/\GM none l=GM s.2 (l.drop s.1)/\(s.1=0->s.2=none)/\(0<s.1->∃a,s.2=some a/\l[s.1-1]? =some a)) (λs=>l.length-s.1) (0,none) a01 ?_ ?_
 ·exact⟨G,bm _,G,λ_=>G,λh=>absurd h (ky 0)⟩
 ·rintro⟨k,o⟩ w1 ⟨rfl,hk,hr,h0,h1⟩;dsimp only at hk hr h0 h1 ⊢;refine T.aO (ck G G G (ad (aI ?_)));refine bI G (λc2=>?_) (λc2=>?_)
  ·refine aR (aI (aT (T.aO (ab G G ?_))));obtain⟨x,hx⟩:∃x,l[k]? =some x:=⟨_,an q0⟩;refine cx aQ I9 G G G hv b4 q0 (λu a hg hu=>?_);obtain rfl:x=a:=dV (aF (hg.symm.trans af1));refine bM aG G G G G G hu b4 (λvx Ax=>?_);obtain rfl:=eJ Ax;refine aB G G (Rg.aZ G G (T.aO (ab G G (il G G G (ab G G ?_)))));refine aW (g:=14) G (λxO=>?_) (λxO=>?_)
   ·refine ah G G (ab G G (ah G G (ab G G (ah G G (ab G G (ah G G (jy G G G q0 (ah G G ?_))))))));obtain⟨last,rfl,jT⟩:=h1 q0;refine cx aQ I9 G G G hv b4 q0 (λu2 a hg j3=>?_);obtain rfl:last=a:=dV (aF (hg.symm.trans (by rw[show((k:Int)-1).toNat=k-1 from by omega];exact jT)));refine ah G G ?_;refine bM aG G G G G G j3 b4 (λvl lJ=>?_);obtain rfl:=eJ lJ;refine ah G G (Rg.ZK G G G (a8 G G G (ad ?_)));refine bI G (λc4=>?_) (λc4=>?_)
    ·refine T.aO (Rg.aZ G G (aM ?_));refine aP G G ⟨congrArg Value.bool (dV ?_),G⟩;rw[hr,AS hx];simp[c4]
    ·refine aR (aN (br G G G q0 (ab G G (ad ?_))));refine⟨G,(k+1,some x),a01,?_,?_⟩
     ·refine⟨rfl,by simp only;omega,?_,λh=>by simp at h,λ_=>⟨x,rfl,by simpa using hx⟩⟩;rw[hr,AS hx]
      first
      |(rw[h0 q0];simp;done)
      |(have c4':=db.1 c4;simp[c4'];done)
     ·simp only;omega
   ·refine ak G G G G (ak G G G G (ak G G G G (ak G G G G (ak G G G G (ak G G G G (ak G G G G (aD G G G (ad (gy G (aR (aN ?_)))))))))));refine br G G G q0 (ab G G (ad ?_));refine⟨G,(k+1,some x),a01,?_,?_⟩
    ·refine⟨rfl,by simp only;omega,?_,λh=>by simp at h,λ_=>⟨x,rfl,by simpa using hx⟩⟩;rw[hr,AS hx]
     first
     |(rw[h0 q0];simp;done)
     |(have c4':=db.1 c4;simp[c4'];done)
    ·simp only;omega
  ·refine cE (T.aO (Rg.aZ G G (aM ?_)));refine aP G G ⟨congrArg Value.bool (dV ?_),G⟩;rw[hr,fq q0];rfl
theorem xQ {α:Type} {A:RT α} {M:aE} {w:World} {v:Value} {x:α} (h:cG A M w v x):v.cells= #[v]:=by
 obtain⟨b,o,vs,rfl,_⟩:=h;rfl
theorem Ju {M:aE} {v0 v1:Value} {ns:List (List UInt8)} {ts:List Li} (w0:World) (hM:Lt M w0) (hn:(RT.str.sl).V M w0 ns v0) (ht:(((RT.li).ptr).sl).V M w0 ts v1) (hl:ns.length<=1099511627776) (Oe:ts.length<=1099511627776):
  Spec Tryz.prog 157 #[v0,v1] w0 (λv w=>∃p,v= .tuple #[p,.int .i64 (if ns.length=ts.length/\GM none ns=true then 0 else 1)]/\(ns.length=ts.length->GM none ns=true->cG RT.di M w p (ns,ts))/\Step M w0 M w ar):=by
 refine aS (args:=[_,_]) (fn:=Tryz.f157) Tryz.func157 G (n:=22) Tryz.ntmps157 ?_;have S:Step M w0 M w0 ar:=aV;refine T.aO (aB G G (Rg.aZ G G (aI (T.aO (ab G G (bB aQ G hn G (ab G G (bB ey G ht G ?_))))))));refine eR G G G (ab G G ?_);refine aW (g:=11) G (λj8=>?_) (λj8=>?_)
 ·refine ak G G G G (ak G G G G (ak G G G G (a8 G G G (ad (lh G (T.aO (aB G G (Rg.aZ G G (aM ?_)))))))))
  first
  |exact eS rfl rfl rfl ⟨_,by rw[if_neg (λh=>j8 q0)],λh=>absurd q0 j8,S⟩
  |exact eS rfl rfl rfl ⟨_,by rw[if_neg (λh=>c1 h.2)],λ_ h=>absurd h c1,S⟩
 ·refine ah G G (ab G G (ah G G ?_));refine aJ G G YH (GO _ hn) (λr wc hc=>?_);obtain⟨rfl,rfl⟩:=hc;refine ah G G (gM G G (aY (v':= .bool (decide (¬GM none ns=true))) (by simp) (aD G G G (ad ?_))));refine bI G (λc1=>?_) (λc1=>?_)
  ·refine T.aO (aB G G (Rg.aZ G G (aM ?_)))
   first
   |exact eS rfl rfl rfl ⟨_,by rw[if_neg (λh=>j8 q0)],λh=>absurd q0 j8,S⟩
   |exact eS rfl rfl rfl ⟨_,by rw[if_neg (λh=>c1 h.2)],λ_ h=>absurd h c1,S⟩
  ·refine aR (T.aO (ab G G ?_));refine aJ G G YI (QD hM hn hl) (λv3 w3 hc=>?_);obtain⟨xH,s3⟩:=hc;replace hn:=hn.le s3.le;replace ht:=ht.le s3.le;replace hM:=s3.lt hM;have:=S.size;replace S:=S.av s3;refine ab G G ?_;refine aJ G G YJ (Vb hM ht Oe) (λv4 w4 hc=>?_);obtain⟨qb,s4⟩:=hc;replace hn:=hn.le s4.le;replace ht:=ht.le s4.le;replace xH:=xH.le s4.le;replace hM:=s4.lt hM;have:=S.size;replace S:=S.av s4;refine dp (places:=[(0,1),(1,1)]) tv YD YF rfl ⟨_,_,rfl,rfl,_,_,rfl,rfl,rfl⟩ (out:=[_,_]) ⟨0,[_],rfl,iF xH,by simp[Value.cells],1,[_],rfl,iF qb,by simp[Value.cells],rfl⟩ ?_;refine gR (A:=RT.di) (a:=(ns,ts)) G G hM (fR xH qb G G G G) G (λu5 w5 rS s5 _=>?_);replace hn:=hn.le s5.le;replace ht:=ht.le s5.le;replace xH:=xH.le s5.le;replace qb:=qb.le s5.le;replace hM:=s5.lt hM;have:=S.size;replace S:=S.av s5;refine aB G G (Rg.aZ G G (aM ?_));exact eS rfl rfl rfl ⟨_,by rw[if_pos ⟨by omega,db.1 c1⟩],λ_ _=>rS,S⟩
end Go.K
namespace Go.K
theorem Jv (n:Nat):IntKind.u8.wrap (n:Int)=((UInt8.ofNat n).toNat:Int):=by
 rw[IntKind.wrap_u8];simp[UInt8.toNat_ofNat]
theorem afa:∀m:Nat,m<256->(BitVec.ofInt 8 (m:Int)|||BitVec.ofInt 8 128).toNat=128+m%128:=by decide+kernel
theorem Vk (n:Nat):IntKind.u8.wrap ((BitVec.ofInt IntKind.u8.bits (IntKind.u8.wrap (n:Int))|||BitVec.ofInt IntKind.u8.bits 128).toNat:Int)=((UInt8.ofNat (128+n%128)).toNat:Int):=by
 have h1:IntKind.u8.wrap (n:Int)=((n%256:Nat):Int):=by rw[IntKind.wrap_u8];omega
 rw[h1];show IntKind.u8.wrap ((BitVec.ofInt 8 ((n%256:Nat):Int)|||BitVec.ofInt 8 128).toNat:Int)=_;rw[afa (n%256) q0,IntKind.wrap_u8,show n%256%128=n%128 from by omega];simp[UInt8.toNat_ofNat]
theorem amC (n:Nat):((n:Int)).fdiv (2^min (Int.toNat 7) IntKind.i64.bits)=((n/128:Nat):Int):=by
 show((n:Int)).fdiv 128=_;rw[Int.fdiv_eq_ediv_of_nonneg _ XT];rfl
theorem Jw:∀m:Nat,m<256->(BitVec.ofInt 8 (m:Int)&&& ~~~ BitVec.ofInt 8 128).toNat=m%128:=by decide+kernel
theorem GP (c:UInt8):IntKind.u8.wrap ((BitVec.ofInt IntKind.u8.bits (c.toNat:Int)&&& ~~~ BitVec.ofInt IntKind.u8.bits 128).toNat:Int)=((c.toNat%128:Nat):Int):=by
 show IntKind.u8.wrap ((BitVec.ofInt 8 (c.toNat:Int)&&& ~~~ BitVec.ofInt 8 128).toNat:Int)=_;rw[Jw c.toNat (by have:=c.toNat_lt;omega),IntKind.wrap_u8];omega
theorem Q6 (k n x:Nat) (hk:k<=8) (hn:n<128^k) (hx:x<128):
  IntKind.i64.wrap ((BitVec.ofInt IntKind.i64.bits (n:Int)|||BitVec.ofInt IntKind.i64.bits (IntKind.i64.wrap ((x:Int)*2^min (Int.toNat (7*(k:Int))) IntKind.i64.bits))).toNat:Int)=((n+x*128^k:Nat):Int):=by
 have e7:Int.toNat (7*(k:Int))=7*k:=by omega
 have e1:min (7*k) 64=7*k:=by omega
 have e2:(128:Nat)^k=2^(7*k):=by rw[Nat.pow_mul]
 have hp:2^(7*k)<=2^56:=nQ XT q0;have hb:x*2^(7*k)<=127*2^(7*k):=Nat.mul_le_mul_right _ q0;rw[e2]at hn ⊢;show IntKind.i64.wrap ((BitVec.ofInt 64 (n:Int)|||BitVec.ofInt 64 (IntKind.i64.wrap ((x:Int)*2^min (Int.toNat (7*(k:Int))) 64))).toNat:Int)=_;rw[e7,e1];have e3:((x:Int)*2^(7*k))=((x*2^(7*k):Nat):Int):=by simp
 have e5:n|||x*2^(7*k)=n+x*2^(7*k):=by
  rw[Nat.or_comm,Nat.mul_comm x,<-Nat.two_pow_add_eq_or_of_lt hn x,Nat.add_comm]
 rw[e3];generalize x*2^(7*k)=y at*
 generalize 2^(7*k)=z at*
 have e4:∀m:Nat,m<2^64->(BitVec.ofInt 64 (m:Int))=BitVec.ofNat 64 m:=λm _=>by simp
 rw[qj (y:Int) q0,e4 n q0,e4 y q0,BitVec.toNat_or,BitVec.toNat_ofNat,BitVec.toNat_ofNat,Nat.mod_eq_of_lt q0,Nat.mod_eq_of_lt q0,e5,qj _ q0]
theorem uv (x:Int): -9223372036854775808<=IntKind.i64.wrap x/\IntKind.i64.wrap x<=9223372036854775807:=by rw[IntKind.wrap_i64];omega
open Go.Proofs
set_option maxRecDepth 10000
theorem El {M:aE} {w0:World} {v:Value} {b:List UInt8} {n:Nat} (hM:Lt M w0) (hv:(RT.u8.sl).V M w0 b v) (hb:b.length<=70368744177664) (hn:n<=9223372036854775807):
  Spec Tryz.prog 194 #[v,.int .i64 n] w0 (λv' w'=>∃M',Step M w0 M' w' ar/\Own RT.u8 5 M' w' w0.heap.size v' (b++put n)):=by
 have h9:=ly hn;refine aS (args:=[_,_]) (fn:=Tryz.f194) Tryz.func194 G (n:=26) Tryz.ntmps194 (T.aO (Rg.aZ G G (T.aO (ab G G (ab G G ?_)))))
 first|refine bB bW rfl a00 rfl ?_|refine jQ bW rfl a00 rfl ?_
 refine ab G G ?_
 first|refine bB bW rfl a00 rfl ?_|refine jQ bW rfl a00 rfl ?_
 refine Rg.Ii bW I5 G G G G hv ⟨G,G⟩ (λa o7 p8=>?_);refine Rg.aZ G G (aI (aT ?_));refine cR (σ:=Nat×Value×List UInt8) (λs=>[(0,s.2.1),(1,.int .i64 s.1)]) (λs w=>s.2.2++put s.1=b++put n/\∃M1,Lt M1 w/\Step M w0 M1 w ar/\Grow RT.u8 XT 5 M1 w w0.heap.size s.2.1 s.2.2) (λs=>s.1) (n,_,b) ac2 ?_ ?_
 ·exact⟨G,M,hM,aV,.inr ⟨a,G,p8,o7⟩⟩
 ·rintro⟨k,u0,acc⟩ w1 ⟨BS,M1,tn,s1,hg⟩;dsimp only at BS hg ⊢;have hlen:=congrArg List.length BS;have Dx:=Ul k;simp only[bU]at hlen;refine aI (T.aO (ab G G (eh G G G (ad ?_))));refine bI G (λc2=>?_) (λc2=>?_)
  ·refine aR (aT (T.aO (ab G G (ab G G (yh aj cZ G G (Rg.or G G G (aY (congrArg _ (Vk _)) ?_)))))));refine fm (A:=RT.u8) (hn:=by decide) (M:=M1) bW I5 XT G G tn (XY.2 G) (.inr ⟨G,G⟩) (λu w2 hu s2=>?_);refine Rg.KA (M:=M1) (base:=w0.heap.size) bW I5 G G G G (hg.le s2) hu b4 (by simp) a13 a13 (ep s1.size s2.size) (λv3 M3 w3 TV s3=>?_);refine Rg.aZ G G (aN (ab G G (Rg.shr G G G q0 (aY (congrArg _ (amC _)) (Rg.aZ G G ?_)))));refine⟨G,(k/128,v3,acc++[UInt8.ofNat (128+k%128)]),ac2,?_,?_⟩
   ·exact⟨by rw[<-BS,It (n:=k) q0];simp,M3,s3.lt (s2.lt tn),(s1.av s2).mv s3 (aX _),.inl TV⟩
   ·show k/128<k;omega
  ·refine cE (T.aO (ab G G (ab G G (yh aj cZ G G (aY (congrArg _ (Jv _)) ?_)))));refine fm (A:=RT.u8) (hn:=by decide) (M:=M1) bW I5 XT G G tn (XY.2 G) (.inr ⟨G,G⟩) (λu w2 hu s2=>?_);refine Rg.KA (M:=M1) (base:=w0.heap.size) bW I5 G G G G (hg.le s2) hu b4 (by simp) a13 a13 (ep s1.size s2.size) (λv3 M3 w3 TV s3=>?_);refine Rg.aZ G G (aM (aP G G ⟨M3,(s1.av s2).mv s3 (aX _),?_⟩));rw[<-BS,zO (n:=k) q0];exact TV
theorem Q7 {M:aE} {w0:World} {v:Value} {b:List UInt8} {n:Nat} (hM:Lt M w0) (hv:(RT.u8.sl).V M w0 b v) (hb:b.length<=70368744177664) (hn:n<=9223372036854775807):
  Spec Tryz.prog 194 #[v,.int .i64 n] w0 (λv' w'=>Step M w0 M w' ar/\(RT.u8.sl).V M w' (b++put n) v'):=
 (El hM hv hb hn).mono λ_ _ ⟨_,s,ho⟩=>⟨s.back,Own.close hM s ho (by have:=ly hn;simp;omega)⟩
theorem GQ {M:aE} {w0:World} {v:Value} {b:List UInt8} {at_:Int} (hv:(RT.u8.sl).V M w0 b v) (C7: -9223372036854775808<=at_/\at_<=9223372036854775807):
  Spec Tryz.prog 303 #[v,.int .i64 at_] w0 (λv' w'=>v'= .tuple #[.int .i64 (get b at_).1,.int .i64 (get b at_).2.1,.int .i64 (get b at_).2.2]/\w0=w'):=by
 have hlen:=dW hv;refine aS (args:=[_,_]) (fn:=Tryz.f303) Tryz.func303 G (n:=54) Tryz.ntmps303 (T.aO (aB G G (aB G G (Rg.aZ G G (aI (T.aO (ab G G (ck G G G ?_))))))));refine ab G G ?_;refine aW (g:=12) G (λgT=>?_) (λgT=>?_)
 ·obtain Z6:at_<0\/(b.length:Int)<at_:= .inl gT;refine ak G G G G (ak G G G G (ak G G G G (ak G G G G (a8 G G G (ad (lh G (T.aO (aB G G (aB G G (aB G G ?_))))))))));refine ad (aM ?_);have jb:get b at_=(0,0,1):=by unfold get;rw[if_pos Z6]
  exact sL rfl rfl rfl rfl ⟨by rw[jb],rfl⟩
 ·refine ah G G (ab G G (ah G G (ab G G (ah G G ?_))))
  first|refine bB bW rfl a00 rfl ?_|refine jQ bW rfl a00 rfl ?_
  refine ah G G (il G G G (aD G G G (ad ?_)));refine bI G (λc1=>?_) (λc1=>?_)
  ·obtain Z6:at_<0\/(b.length:Int)<at_:= .inr c1;refine T.aO (aB G G (aB G G (Rg.aZ G G (aM ?_))));have jb:get b at_=(0,0,1):=by unfold get;rw[if_pos Z6]
   exact sL rfl rfl rfl rfl ⟨by rw[jb],rfl⟩
  ·refine aR (T.aO (Rg.aZ G G (aI (T.aO (ab G G (ab G G (ab G G ?_)))))))
   first|refine bB bW rfl a00 rfl ?_|refine jQ bW rfl a00 rfl ?_
   refine ab G G (br G G G q0 (Rg.min2 G G G ?_));refine Rg.OF bW I5 G G G G hv q0 (λu hu=>?_);rw[show(min (b.length:Int) (at_+9)).toNat=min b.length (at_.toNat+9)from by omega,Yo]at hu;have jb:get b at_=match oI ((b.drop at_.toNat).take 9) 0 0 with|some (n,k)=>((n:Int),at_+k,0)|none=>(0,0,2):=by unfold get;rw[if_neg q0];rfl
   have Cb:((b.drop at_.toNat).take 9).length<=9:=by rw[bF];omega
   generalize (b.drop at_.toNat).take 9=bs at hu jb Cb
   first|refine bB bW rfl a00 rfl ?_|refine jQ bW rfl a00 rfl ?_
   refine ab G G (ad (aT ?_));refine cR (σ:=Nat×Nat) (λs=>[(1,.int .i64 at_),(25,u),(26,.int .i64 bs.length),(27,.int .i64 s.1),(7,.int .i64 s.2)]) (λs w=>w0=w/\s.1<=bs.length/\s.2<128^s.1/\oI (bs.drop s.1) s.1 s.2=oI bs 0 0) (λs=>bs.length-s.1) (0,0) a34 ?_ ?_
   ·exact⟨rfl,bm _,by decide,rfl⟩
   ·rintro⟨k,m⟩ w1 ⟨rfl,hk,hm,hg⟩;dsimp only at hk hm hg ⊢;refine T.aO (ck G G G (ad (aI ?_)));refine bI G (λc5=>?_) (λc5=>?_)
    ·refine aR (aI (aT (T.aO (ab G G ?_))));refine cx (M:=M) bW I5 G G G a00 (by repeat (first|exact bN _ _|refine bp (bO a00) ?_)) q0 (λav5 Vl GR arw=>?_);refine Rg.X2 (M:=M) cZ G G a00 (by repeat (first|exact bN _ _|refine bp (bO a00) ?_)) ?_;refine aB G G (Rg.aZ G G (T.aO (ab G G (ab G G (Rg.andNot G G G (aY (congrArg _ (GP _)) (Rg.tF cZ aj G G q0 (ab G G (Rg.X0 G G G q0 ?_)))))))));refine Rg.shl G G G q0 (Rg.or G G G (aY (congrArg _ (Q6 k m _ q0 hm q0)) (Rg.aZ G G (T.aO (ab G G (ck G G G (ad ?_)))))));refine bI G (λc8=>?_) (λc8=>?_)
     ·refine aI (T.aO (ab G G (gN G G G (ab G G ?_))));refine aW (g:=44) G (λEm=>?_) (λEm=>?_)
      ·refine ah G G (ab G G (ah G G (il G G G (a8 G G G (ad ?_)))));refine bI G (λc9=>?_) (λc9=>?_)
       ·refine cE (T.aO (aB G G (aB G G (Rg.aZ G G (aM ?_)))))
        have hr:oI bs 0 0=none:=by
         rw[<-hg]
         first
         |(rw[oJ (by simpa using GR),if_pos q0,if_pos q0])
         |(rw[fq q0];rfl)
        exact sL rfl rfl rfl rfl ⟨by rw[jb,hr],rfl⟩
       ·refine aR (T.aO (ab G G (ab G G (ab G G (br G G G q0 (br G G G q0 (aB G G (aB G G (Rg.aZ G G ?_)))))))));refine aM ?_;have hr:oI bs 0 0=some (m+Vl.toNat%128*128^k,k+1):=by rw[<-hg,oJ (by simpa using GR),if_pos q0,if_neg q0]
        exact sL rfl rfl rfl rfl ⟨by rw[jb,hr];simp;omega,rfl⟩
      ·refine ak G G G G (ak G G G G (aD G G G (ad (gy G (aR (T.aO (ab G G (ab G G (ab G G (br G G G q0 ?_))))))))));refine br G G G q0 (aB G G (aB G G (Rg.aZ G G (aM ?_))));have hr:oI bs 0 0=some (m+Vl.toNat%128*128^k,k+1):=by rw[<-hg,oJ (by simpa using GR),if_pos q0,if_neg q0]
       exact sL rfl rfl rfl rfl ⟨by rw[jb,hr];simp;omega,rfl⟩
     ·refine aR (aN (br G G G q0 (ab G G (ad ?_))));refine⟨G,(k+1,m+Vl.toNat%128*128^k),a34,?_,?_⟩
      ·refine⟨rfl,by simp only;omega,?_,?_⟩
       ·have:=Nat.mul_le_mul_right (128^k) (show Vl.toNat%128<=127 from by omega);simp only[Nat.pow_succ];omega
       ·rw[oJ (by simpa using GR),if_neg q0]at hg;exact hg
      ·simp only;omega
    ·refine cE (T.aO (aB G G (aB G G (Rg.aZ G G (aM ?_)))))
     have hr:oI bs 0 0=none:=by
      rw[<-hg]
      first
      |(rw[oJ (by simpa using GR),if_pos q0,if_pos q0])
      |(rw[fq q0];rfl)
     exact sL rfl rfl rfl rfl ⟨by rw[jb,hr],rfl⟩
theorem Cc {M:aE} {w0:World} {v u:Value} {b:List UInt8} {l:List Int} (hM:Lt M w0) (hv:(RT.u8.sl).V M w0 b v) (hu:((RT.int .i64).sl).V M w0 l u) (hb:b.length+9*(l.length+1)<=70368744177664):
  Spec Tryz.prog 195 #[v,u] w0 (λv' w'=>∃M' x,Step M w0 M' w' ar/\v'= .tuple #[x,.int .i64 (if gg (-1) l then 0 else 1)]/\Own RT.u8 5 M' w' w0.heap.size x (if gg (-1) l then b++ff l else[])):=by
 have yo:=ly (n:=l.length) q0;refine aS (args:=[_,_]) (fn:=Tryz.f195) Tryz.func195 G (n:=31) Tryz.ntmps195 (T.aO (aB G G (Rg.aZ G G (T.aO (ab G G (ab G G (bB ao G hu G ?_)))))));refine aJ G G YB (El (M:=M) hM hv q0 q0) (λub wb Ih=>?_);obtain⟨Mb,sb,iq⟩:=Ih;refine Rg.aZ G G (T.aO (Rg.aZ G G (aI (T.aO (ab G G (bB ao G hu G (ab G G ?_)))))));refine ad (aT ?_);refine cR (σ:=Nat×Int×Value×List UInt8) (λs=>[(0,s.2.2.1),(6,.int .i64 s.2.1),(13,u),(14,.int .i64 l.length),(15,.int .i64 s.1)]) (λs w=>gg (-1) l=gg s.2.1 (l.drop s.1)/\(gg (-1) l=true->s.2.2.2++lZ s.2.1 (l.drop s.1)=b++ff l)/\s.1<=l.length/\ -1<=s.2.1/\s.2.2.2.length<=b.length+9*(s.1+1)/\∃M1,Lt M1 w/\Step M w0 M1 w ar/\Own RT.u8 5 M1 w w0.heap.size s.2.2.1 s.2.2.2) (λs=>l.length-s.1) (0,-1,_,b++put l.length) a34 ?_ ?_
 ·exact⟨rfl,λ_=>by simp[ff],bm _,by simp only;omega,by simp;omega,Mb,sb.lt hM,sb,iq⟩
 ·rintro⟨k,last,u0,acc⟩ w1 ⟨hr,BS,hk,Vj,TW,M1,tn,s1,ho⟩;dsimp only at hr BS hk Vj TW ho ⊢;refine T.aO (ck G G G (ad (aI ?_)));refine bI G (λc4=>?_) (λc4=>?_)
  ·refine aR (aI (aT (T.aO ?_)));obtain⟨x,hx⟩:∃x,l[k]? =some x:=⟨_,an q0⟩;have hxr:=OE hu hx;refine cx ao I3 G G G (hu.le (s1.back).le) b4 q0 (λafb Q8 afc Lc=>?_);obtain rfl:Q8=x:=aF (afc.symm.trans af1);refine bV aj G G Lc b4 (λ_=>?_);refine Rg.aZ G G (aI (T.aO (ab G G (ab G G (gF G G G (ad ?_))))));refine bI G (λc6=>?_) (λc6=>?_)
   ·refine T.aO (aB G G (Rg.aZ G G (aM ?_)));have hrf:gg (-1) l=false:=by rw[hr,gS hx,decide_eq_false q0,ei]
    exact eS rfl rfl rfl ⟨M1,_,s1,by rw[hrf];rfl,by rw[hrf];exact eE _ _ _ _ _⟩
   ·refine aR (T.aO (ab G G (ab G G (ab G G (Rg.X1 G G G (Rg.X1 G G G ?_))))));have hpx:=ly (n:=(Q8-last-1).toNat) q0;refine aY (v':= .int .i64 (((Q8-last-1).toNat:Nat):Int)) (by rw[IntKind.wrap_i64,IntKind.wrap_i64];congr 1;omega) ?_;have hfz:=s1.freeze (v:=u0) (λb hb=>(ho.base b hb).1);refine aJ G G YB (El (M:=rm M1 u0) (tn.rm u0) (ho.view q0) q0 q0) (λub wb Ih=>?_);obtain⟨Mb2,sb2,amD⟩:=Ih;refine Rg.aZ G G (aN (ab G G (Rg.aZ G G (aN (br G G G q0 (ab G G (ad ?_)))))));refine⟨G,(k+1,Q8,ub,acc++put (Q8-last-1).toNat),a34,?_,?_⟩
    ·refine⟨?_,λh=>?_,by simp only;omega,by simp only;omega,by simp only[bU];omega,Mb2,sb2.lt (tn.rm u0),hfz.av sb2,amD.kD s1.size⟩
     ·rw[hr,gS hx,decide_eq_true q0,cT]
     ·rw[<-BS h,Md hx];simp
    ·simp only;omega
  ·refine cE (T.aO (ab G G (aB G G (Rg.aZ G G (aM ?_)))));have hrt:gg (-1) l=true:=by rw[hr,fq q0];rfl
   have ha:=BS hrt;rw[fq q0,lZ,fS]at ha;exact eS rfl rfl rfl ⟨M1,_,s1,by rw[hrt];rfl,by rw[hrt,<-ha];exact ho⟩
theorem AT {M:aE} {w0:World} {v u:Value} {b:List UInt8} {l:List Int} (hM:Lt M w0) (hv:(RT.u8.sl).V M w0 b v) (hu:((RT.int .i64).sl).V M w0 l u) (hb:b.length+9*(l.length+1)<=70368744177664):
  Spec Tryz.prog 195 #[v,u] w0 (λv' w'=>∃x,Step M w0 M w' ar/\v'= .tuple #[x,.int .i64 (if gg (-1) l then 0 else 1)]/\(RT.u8.sl).V M w' (if gg (-1) l then b++ff l else[]) x):=
 (Cc hM hv hu hb).mono λ_ _ ⟨_,x,s,h,ho⟩=>⟨x,s.back,h,Own.close hM s ho (by
  split
  next hr=>
   have yo:=ly (n:=l.length) q0;have jA:∀x∈l,x<=9223372036854775807:=λx hx=>by obtain⟨i,hi⟩:=bG.1 hx;exact(OE hu hi).2
   have:=zP l (-1) XT jA hr;simp only[ff,bU];omega
  next=>simp)⟩
theorem C8 {M:aE} {w0:World} {be bb ba:Nat} {v:Value} {b:List UInt8} {at_:Int} (he:w0.heap[be]? =some (.cells #[.int .i64 0] 32 (0,0))) (hb:w0.heap[bb]? =some (.cells #[v] 293 (0,0))) (ha:w0.heap[ba]? =some (.cells #[.int .i64 at_] 3 (0,0))) (fw:be≠ba) (Z7:M be) (Oo:M ba) (hv:(RT.u8.sl).V M w0 b v) (C7: -9223372036854775808<=at_/\at_<=9223372036854775807):
  Spec Tryz.prog 316 #[.pointer (some ⟨be,0,none⟩),.pointer (some ⟨bb,0,none⟩),.pointer (some ⟨ba,0,none⟩)] w0 (λv' w'=>v'= .int .i64 (get b at_).1/\w'.heap[be]? =some (.cells #[.int .i64 (get b at_).2.2] 32 (0,0))/\w'.heap[ba]? =some (.cells #[.int .i64 (get b at_).2.1] 3 (0,0))/\Step M w0 M w' (λk=>k=be\/k=ba)):=by
 refine aS (args:=[_,_,_]) (fn:=Tryz.f316) Tryz.func316 G (n:=15) Tryz.ntmps316 (T.aO (Rg.aZ G G (aI (T.aO (aA yi G G G a00 G (eR G G G (ad ?_)))))));refine bI G (λc1=>?_) (λc1=>?_)
 ·exact absurd G c1
 ·refine aR (T.aO (Rg.aZ G G (T.aO (aA bW G G G a00 G (aA aj G G G a00 G ?_)))));refine aJ G G adC (GQ hv C7) (λr w1 h1=>?_);obtain⟨rfl,rfl⟩:=h1;refine ab G G (b9 G G G (b9 G G G (b9 G G G (aB G G ?_))));refine ch (M:=M) I3 G G ha G G Oo (λw1 h1 s1=>?_);refine ch (M:=M) I32 G G (s1.bL he fw) G G Z7 (λw2 h2 s2=>?_);refine ad (T.aO (ab G G (Rg.aZ G G (aM (aP G G ⟨G,h2,s2.bL h1 (Ne.symm fw),?_⟩)))));exact(s1.dF (λb hb=> .inr hb) (λb hb=>by rcases hb with rfl|rfl<;>assumption)).trans s2 (λb _ hb=> .inl hb)
theorem AU {M:aE} {w0:World} {v:Value} {b:List UInt8} {at_:Int} (hM:Lt M w0) (hv:(RT.u8.sl).V M w0 b v) (C7: -9223372036854775808<=at_/\at_<=9223372036854775807) (Cb:b.length<=1099511627776):
  Spec Tryz.prog 304 #[v,.int .i64 at_] w0 (λv' w'=>∃x,v'= .tuple #[x,.int .i64 (ie b at_).2.2,.int .i64 (ie b at_).1]/\((RT.int .i64).sl).V M w' (ie b at_).2.1 x/\Step M w0 M w' ar):=by
 refine aS (args:=[_,_]) (fn:=Tryz.f304) Tryz.func304 G (n:=48) Tryz.ntmps304 (T.aO ?_);refine iP M G G (λbb w1 H4 av7 hB s1=>?_);rw[iF hv]at hB;refine iP (ins M bb) G G (λba w2 hba av8 hA s2=>?_);refine aB G G (aB G G (Rg.aZ G G (T.aO ?_)));refine ek (ins (ins M bb) ba) I32 G (λbe w3 hbe av9 hE s3=>?_);refine ch (M:=ins (ins (ins M bb) ba) be) I32 G G hE G G (.inl G) (λw4 hE4 s4=>?_);have z1:=s1.size;have z2:=s2.size;have z3:=s3.size;have z4:=s4.size;have S4:Step M w0 (ins (ins (ins M bb) ba) be) w4 ar:=((s1.av s2).av s3).cq s4 (λk hk=>by subst hk;omega);have hB4:=s4.bL (s3.ay (s2.ay hB)) (show bb≠be by omega);have hA4:=s4.bL (s3.ay hA) (show ba≠be by omega);refine ad (T.aO (gz (xs:=[]) G G G (Rg.aZ G G (T.aO (Rg.aZ G G (T.aO ?_))))));refine Rg.aZ G G (aI (T.aO (ab G G ?_)));refine ng (first:=[]) (xs:=[]) G G G adD (C8 (M:=ins (ins (ins M bb) ba) be) hE4 hB4 hA4 q0 (.inl G) (.inr (.inl G)) (hv.le S4.le) C7) (λr w5 h5=>?_);obtain⟨rfl,hE5,hA5,s5⟩:=h5;have z5:=s5.size;have S5:=S4.cq s5 (λk hk=>by omega);have hB5:=s5.bL hB4 q0;obtain⟨hn0,hn1,hn2,hn3⟩:=pq b at_;refine aY (v':= .int .i64 (((get b at_).1.toNat:Nat):Int)) (by rw[BF hn0]) (Rg.aZ G G (aT ?_));refine cR (σ:=Nat×Int×Value×List Int×Int×Int) (λs=>[(7,.pointer (some ⟨be,0,none⟩)),(3,.pointer (some ⟨ba,0,none⟩)),(8,.func (.func 316) [].toArray [.pointer (some ⟨be,0,none⟩),.pointer (some ⟨bb,0,none⟩),.pointer (some ⟨ba,0,none⟩)].toArray),(9,s.2.2.1),(10,.int .i64 s.2.1),(11,.int .i64 s.1)]) (λs w=>(s.1:Int)<=9223372036854775807/\(s.2.2.2.2.1=0->ie b at_=andThen s.2.2.2.1 (iT b s.1 s.2.2.2.2.2 s.2.1))/\(s.2.2.2.2.1≠0->ie b at_=(s.2.2.2.2.1,[],0))/\(s.2.2.2.2.1=0-> -1<=s.2.1/\s.2.1<=4611686018427387904/\(s.2.2.2.1.length:Int)<=s.2.2.2.2.2/\s.2.2.2.2.2<=b.length)/\s.2.2.2.1.length<=b.length+1/\∃M1,Lt M1 w/\Step M w0 M1 w ar/\w4.heap.size<=w.heap.size/\M1 be/\M1 ba/\Own (RT.int .i64) 3 M1 w w4.heap.size s.2.2.1 s.2.2.2.1/\w.heap[be]? =some (.cells #[.int .i64 s.2.2.2.2.1] 32 (0,0))/\w.heap[ba]? =some (.cells #[.int .i64 s.2.2.2.2.2] 3 (0,0))/\w.heap[bb]? =some (.cells #[v] 293 (0,0))) (λs=>s.1) ((get b at_).1.toNat,-1,_,[],(get b at_).2.2,(get b at_).2.1) a14 ?_ ?_
 ·refine⟨by have:=CD b at_;simp only;omega,λh=>?_,λh=>?_,λh=>?_,by simp,_,S5.lt hM,S5,z5,.inl rfl,.inr (.inl rfl),eE _ _ _ _ _,hE5,hA5,hB5⟩
  ·unfold ie;rw[if_neg a68];exact(Fp _ (Me b _ _ _)).symm
  ·unfold ie;rw[if_pos h]
  ·have:=xf h;simp only[kc];omega
 ·rintro⟨many,last,u0,acc,e,a1⟩ wl ⟨hmb,TX,WA,fN,TW,M1,tn,S,zl,Z7,Oo,ho,hE,hA,hB⟩;dsimp only at hmb TX WA fN TW ho hE hA hB ⊢;refine aI (T.aO (ab G G (il G G G (ab G G ?_))));refine aW (g:=18) G (λY5=>?_) (λY5=>?_)
  ·refine ah G G (aA yi G G G a00 G (ah G G (gN G G G (a8 G G G (ad ?_)))));refine bI G (λc6=>?_) (λc6=>?_)
   ·refine aR (aI (aT (T.aO (ab G G ?_))));refine ng (first:=[]) (xs:=[]) rfl rfl rfl adD (C8 (M:=M1) (by rw[c6]at hE;exact hE) hB hA q0 Z7 Oo (hv.le S.le) (by have:=fN c6;omega)) (λr w6 h6=>?_);obtain⟨rfl,hE6,Ld,s6⟩:=h6;have z6:=s6.size;have S6:=S.cq s6 (λk hk=>by omega);have Lg:=s6.bL hB q0;have C0:=ho.step s6 (λk hk h=>by have:=(ho.base k hk).1;omega);have Q9:=s6.lt tn;obtain⟨hn0,hn1,hn2,hn3⟩:=pq b a1;obtain⟨qJ,DB,hk3,hk4⟩:=fN c6;refine Rg.aZ G G (aI (T.aO (aA yi G G G a00 G (gN G G G (ab G G ?_)))));refine aW (g:=28) G (λEm=>?_) (λEm=>?_)
    ·refine ah G G (ab G G (ah G G (ab G G (ah G G (jy G G G q0 (ah G G (jy G G G q0 (ah G G (il G G G (a8 G G G (ad ?_)))))))))));refine bI G (λc9=>?_) (λc9=>?_)
     ·refine aN ?_;refine ch (M:=M1) I32 G G hE6 G G Z7 (λw7 hE7 s7=>?_);have z7:=s7.size;replace S6:=S6.cq s7 (λk hk=>by subst hk;omega);replace Lg:=s7.bL Lg (show bb≠be by omega);replace Ld:=s7.bL Ld (show ba≠be by omega);replace C0:=C0.step s7 (λk hk h=>by have:=(ho.base k hk).1;omega);replace Q9:=s7.lt Q9;replace hE6:=hE7;refine ad (T.aO (ab G G (ab G G (qH G G G (qH G G G (Rg.aZ G G (aN (ab G G (ab G G ?_)))))))));refine fm (A:=RT.int .i64) (hn:=by decide) (M:=M1) ao I3 XT G G Q9 (iG (uv _)) (.inr ⟨G,G⟩) (λu w8 hu s8=>?_);refine dA (M:=M1) (base:=w4.heap.size) ao I3 rfl rfl rfl rfl (C0.bD s8) hu b4 a13 a13 (by have:=s8.size;omega) (λv9 M9 w9 ho9 s9=>?_);have z8:=s8.size;have z9:=s9.size;have jj:∀k,k<w4.heap.size->¬lW u0 k:=λk hk h=>by have:=(ho.base k h).1;omega
      have Ra:=s9.bL (s8.ay hE6) (jj be q0);have hA9:=s9.bL (s8.ay Ld) (jj ba q0);have hB9:=s9.bL (s8.ay Lg) (jj bb q0);have S9:=(S6.av s8).eg s9 (C0.bD s8) q0;have hM9:=s9.lt (s8.lt Q9);have Rb:M9 be:=(s9.mem be q0).2 Z7;have Rc:M9 ba:=(s9.mem ba q0).2 Oo;refine Rg.aZ G G (aN (ab G G (jy G G G q0 (Rg.aZ G G ?_))));refine⟨G,(many-1,(IntKind.i64.wrap (last+IntKind.i64.wrap ((get b a1).1+1))),v9,acc++[(IntKind.i64.wrap (last+IntKind.i64.wrap ((get b a1).1+1)))],(if(get b a1).2.2=0/\4611686018427387904-last-1<(get b a1).1 then 2 else(get b a1).2.2),(get b a1).2.1),a48,?_,?_⟩
      ·have hx:(get b a1).2.2=0->¬4611686018427387904-last-1<(get b a1).1->(IntKind.i64.wrap (last+IntKind.i64.wrap ((get b a1).1+1)))=last+1+(get b a1).1:=λh1 h2=>by rw[qj ((get b a1).1+1) q0,qj _ q0];omega
       have hm1:many=(many-1)+1:=by omega
       have AV:=TX c6;rw[hm1]at AV;refine⟨by simp only;omega,λh=>?_,λh=>?_,λh=>?_,by have:=fN c6;simp only[bU,cy,kc];omega,M9,hM9,S9,by omega,Rb,Rc,ho9,?_,hA9,hB9⟩
       ·dsimp only at h ⊢;have h3:(get b a1).2.2=0/\¬4611686018427387904-last-1<(get b a1).1:=by split at h<;>omega
        rw[AV,ph acc h3.1 h3.2,hx h3.1 h3.2]
       ·dsimp only at h ⊢;rw[AV]
        split
        ·rename_i h4;rw[xg h4.1 h4.2];rfl
        ·rename_i h4
         have h5:(get b a1).2.2≠0:=by intro h6;rw[if_neg h4]at h;exact h h6
         rw[tR h5];unfold andThen;rw[if_pos h5]
       ·dsimp only at h ⊢;have h3:(get b a1).2.2=0/\¬4611686018427387904-last-1<(get b a1).1:=by split at h<;>omega
        have:=xf h3.1;rw[hx h3.1 h3.2];simp only[bU,cy,kc];omega
       ·dsimp only
        first
        |(rw[if_pos ⟨Em,c9⟩];exact Ra)
        |(rw[if_neg (λh=>c9 h.2)];exact Ra)
        |(rw[if_neg (λh=>Em h.1)];exact Ra)
      ·simp only;omega
     ·refine aR (T.aO (ab G G (ab G G (qH G G G (qH G G G (Rg.aZ G G (aN (ab G G (ab G G ?_)))))))));refine fm (A:=RT.int .i64) (hn:=by decide) (M:=M1) ao I3 XT G G Q9 (iG (uv _)) (.inr ⟨G,G⟩) (λu w8 hu s8=>?_);refine dA (M:=M1) (base:=w4.heap.size) ao I3 rfl rfl rfl rfl (C0.bD s8) hu b4 a13 a13 (by have:=s8.size;omega) (λv9 M9 w9 ho9 s9=>?_);have z8:=s8.size;have z9:=s9.size;have jj:∀k,k<w4.heap.size->¬lW u0 k:=λk hk h=>by have:=(ho.base k h).1;omega
      have Ra:=s9.bL (s8.ay hE6) (jj be q0);have hA9:=s9.bL (s8.ay Ld) (jj ba q0);have hB9:=s9.bL (s8.ay Lg) (jj bb q0);have S9:=(S6.av s8).eg s9 (C0.bD s8) q0;have hM9:=s9.lt (s8.lt Q9);have Rb:M9 be:=(s9.mem be q0).2 Z7;have Rc:M9 ba:=(s9.mem ba q0).2 Oo;refine Rg.aZ G G (aN (ab G G (jy G G G q0 (Rg.aZ G G ?_))));refine⟨G,(many-1,(IntKind.i64.wrap (last+IntKind.i64.wrap ((get b a1).1+1))),v9,acc++[(IntKind.i64.wrap (last+IntKind.i64.wrap ((get b a1).1+1)))],(if(get b a1).2.2=0/\4611686018427387904-last-1<(get b a1).1 then 2 else(get b a1).2.2),(get b a1).2.1),a48,?_,?_⟩
      ·have hx:(get b a1).2.2=0->¬4611686018427387904-last-1<(get b a1).1->(IntKind.i64.wrap (last+IntKind.i64.wrap ((get b a1).1+1)))=last+1+(get b a1).1:=λh1 h2=>by rw[qj ((get b a1).1+1) q0,qj _ q0];omega
       have hm1:many=(many-1)+1:=by omega
       have AV:=TX c6;rw[hm1]at AV;refine⟨by simp only;omega,λh=>?_,λh=>?_,λh=>?_,by have:=fN c6;simp only[bU,cy,kc];omega,M9,hM9,S9,by omega,Rb,Rc,ho9,?_,hA9,hB9⟩
       ·dsimp only at h ⊢;have h3:(get b a1).2.2=0/\¬4611686018427387904-last-1<(get b a1).1:=by split at h<;>omega
        rw[AV,ph acc h3.1 h3.2,hx h3.1 h3.2]
       ·dsimp only at h ⊢;rw[AV]
        split
        ·rename_i h4;rw[xg h4.1 h4.2];rfl
        ·rename_i h4
         have h5:(get b a1).2.2≠0:=by intro h6;rw[if_neg h4]at h;exact h h6
         rw[tR h5];unfold andThen;rw[if_pos h5]
       ·dsimp only at h ⊢;have h3:(get b a1).2.2=0/\¬4611686018427387904-last-1<(get b a1).1:=by split at h<;>omega
        have:=xf h3.1;rw[hx h3.1 h3.2];simp only[bU,cy,kc];omega
       ·dsimp only
        first
        |(rw[if_pos ⟨Em,c9⟩];exact Ra)
        |(rw[if_neg (λh=>c9 h.2)];exact Ra)
        |(rw[if_neg (λh=>Em h.1)];exact Ra)
      ·simp only;omega
    ·refine ak G G G G (ak G G G G (ak G G G G (ak G G G G (ak G G G G (aD G G G (ad (gy G (aR (T.aO (ab G G ?_))))))))));refine ab G G (qH G G G (qH G G G (Rg.aZ G G (aN (ab G G (ab G G ?_))))));refine fm (A:=RT.int .i64) (hn:=by decide) (M:=M1) ao I3 XT G G Q9 (iG (uv _)) (.inr ⟨G,G⟩) (λu w8 hu s8=>?_);refine dA (M:=M1) (base:=w4.heap.size) ao I3 rfl rfl rfl rfl (C0.bD s8) hu b4 a13 a13 (by have:=s8.size;omega) (λv9 M9 w9 ho9 s9=>?_);have z8:=s8.size;have z9:=s9.size;have jj:∀k,k<w4.heap.size->¬lW u0 k:=λk hk h=>by have:=(ho.base k h).1;omega
     have Ra:=s9.bL (s8.ay hE6) (jj be q0);have hA9:=s9.bL (s8.ay Ld) (jj ba q0);have hB9:=s9.bL (s8.ay Lg) (jj bb q0);have S9:=(S6.av s8).eg s9 (C0.bD s8) q0;have hM9:=s9.lt (s8.lt Q9);have Rb:M9 be:=(s9.mem be q0).2 Z7;have Rc:M9 ba:=(s9.mem ba q0).2 Oo;refine Rg.aZ G G (aN (ab G G (jy G G G q0 (Rg.aZ G G ?_))));refine⟨G,(many-1,(IntKind.i64.wrap (last+IntKind.i64.wrap ((get b a1).1+1))),v9,acc++[(IntKind.i64.wrap (last+IntKind.i64.wrap ((get b a1).1+1)))],(if(get b a1).2.2=0/\4611686018427387904-last-1<(get b a1).1 then 2 else(get b a1).2.2),(get b a1).2.1),a48,?_,?_⟩
     ·have hx:(get b a1).2.2=0->¬4611686018427387904-last-1<(get b a1).1->(IntKind.i64.wrap (last+IntKind.i64.wrap ((get b a1).1+1)))=last+1+(get b a1).1:=λh1 h2=>by rw[qj ((get b a1).1+1) q0,qj _ q0];omega
      have hm1:many=(many-1)+1:=by omega
      have AV:=TX c6;rw[hm1]at AV;refine⟨by simp only;omega,λh=>?_,λh=>?_,λh=>?_,by have:=fN c6;simp only[bU,cy,kc];omega,M9,hM9,S9,by omega,Rb,Rc,ho9,?_,hA9,hB9⟩
      ·dsimp only at h ⊢;have h3:(get b a1).2.2=0/\¬4611686018427387904-last-1<(get b a1).1:=by split at h<;>omega
       rw[AV,ph acc h3.1 h3.2,hx h3.1 h3.2]
      ·dsimp only at h ⊢;rw[AV]
       split
       ·rename_i h4;rw[xg h4.1 h4.2];rfl
       ·rename_i h4
        have h5:(get b a1).2.2≠0:=by intro h6;rw[if_neg h4]at h;exact h h6
        rw[tR h5];unfold andThen;rw[if_pos h5]
      ·dsimp only at h ⊢;have h3:(get b a1).2.2=0/\¬4611686018427387904-last-1<(get b a1).1:=by split at h<;>omega
       have:=xf h3.1;rw[hx h3.1 h3.2];simp only[bU,cy,kc];omega
      ·dsimp only
       first
       |(rw[if_pos ⟨Em,c9⟩];exact Ra)
       |(rw[if_neg (λh=>c9 h.2)];exact Ra)
       |(rw[if_neg (λh=>Em h.1)];exact Ra)
     ·simp only;omega
   ·refine cE (aI (T.aO (aA yi G G G a00 G (eR G G G (ad ?_)))));refine bI G (λJa=>?_) (λJa=>?_)
    ·refine aI ?_;apply wW mixed rfl rfl;intro Z0 Q1;have sG:=Q1 M1;refine aA yi G G G (by first|assumption|exact cg sG a00) G (Rg.cI (aB G G (Rg.cI (aB G G (Rg.cI (aB G G (Rg.cI (fB (aM ?_)))))))));have hr:=WA Ja;exact sL rfl rfl rfl rfl ⟨_,by rw[hr]<;>rfl,by rw[hr];exact gC,(S.av sG).back⟩
    ·refine aR (aI ?_);apply wW mixed rfl rfl;intro Z8 Re;have qw:=Re M1;refine ab G G (Rg.cI (aA aj G G G (by first|assumption|exact cg qw a00) G (Rg.cI (aB G G (Rg.cI (aB G G (Rg.cI (aB G G (Rg.cI (fB (aM ?_)))))))))));have hz:many=0:=by omega
     have hr:=TX q0;rw[hz,zQ]at hr;simp only[andThen,ne_eq,not_true_eq_false,if_false,fS]at hr;have S15:=S.av qw;refine sL rfl rfl rfl rfl ⟨_,by rw[hr]<;>rfl,?_,S15.back⟩;rw[hr];exact Own.close hM S15 ((ho.bD qw).kD q0) aq5
  ·refine ak G G G G (ak G G G G (aD G G G (ad (gy G (cE (aI (T.aO (aA yi G G G a00 G (eR G G G (ad ?_))))))))));refine bI G (λJa=>?_) (λJa=>?_)
   ·refine aI ?_;apply wW mixed rfl rfl;intro Z0 Q1;have sG:=Q1 M1;refine aA yi G G G (by first|assumption|exact cg sG a00) G (Rg.cI (aB G G (Rg.cI (aB G G (Rg.cI (aB G G (Rg.cI (fB (aM ?_)))))))));have hr:=WA Ja;exact sL rfl rfl rfl rfl ⟨_,by rw[hr]<;>rfl,by rw[hr];exact gC,(S.av sG).back⟩
   ·refine aR (aI ?_);apply wW mixed rfl rfl;intro Z8 Re;have qw:=Re M1;refine ab G G (Rg.cI (aA aj G G G (by first|assumption|exact cg qw a00) G (Rg.cI (aB G G (Rg.cI (aB G G (Rg.cI (aB G G (Rg.cI (fB (aM ?_)))))))))));have hz:many=0:=by omega
    have hr:=TX q0;rw[hz,zQ]at hr;simp only[andThen,ne_eq,not_true_eq_false,if_false,fS]at hr;have S15:=S.av qw;refine sL rfl rfl rfl rfl ⟨_,by rw[hr]<;>rfl,?_,S15.back⟩;rw[hr];exact Own.close hM S15 ((ho.bD qw).kD q0) aq5
theorem Lh {M:aE} {w0:World} {v:Value} {x:Li} (hv:cG RT.li M w0 v x) {k:Int}:
  Spec Tryz.prog 272 #[v,.int .i64 k] w0 (λv' w'=>v'= .bool (O0 x.2.1.length k)/\w0=w'):=by
 refine aS (args:=[_,_]) (fn:=Tryz.f272) Tryz.func272 G (n:=16) Tryz.ntmps272 (T.aO (Rg.aZ G G (T.aO (ab G G (eh G G G (ab G G ?_))))));refine aW (g:=7) G (λgT=>?_) (λgT=>?_)
 ·refine ah G G (ab G G (ah G G (ab G G (ah G G (aL G (cG.lx a00) G (ah G G ?_))))));refine au (M:=M) (A:=RT.li) (B:=(RT.bl).sl) eG G G Iz XT (li1) G G XT a00 (by repeat (first|exact bN _ _|refine bp (bO a00) ?_)) (λawg arB=>?_);refine ah G G ?_;refine bM (M:=M) fz G G G G G a00 (by repeat (first|exact bN _ _|refine bp (bO a00) ?_)) (λafj Rf=>?_);refine ah G G ?_
  first|refine bB fz rfl a00 rfl ?_|refine jQ fz rfl a00 rfl ?_
  refine ah G G (ck G G G (a8 G G G (Rg.aZ G G (aM ?_))))
  first
  |exact a74
  |exact a71
 ·refine ak G G G G (ak G G G G (ak G G G G (ak G G G G (ak G G G G (ak G G G G (ak G G G G (aD G G G (Rg.aZ G G (aM ?_)))))))))
  first
  |exact a74
  |exact a71
theorem nJ {M:aE} {w0:World} {v:Value} {x:Li} (hv:cG RT.li M w0 v x):
  Spec Tryz.prog 221 #[v] w0 (λv' w'=>v'= .int .i64 x.2.1.length/\w0=w'):=by
 refine aS (args:=[_]) (fn:=Tryz.f221) Tryz.func221 G (n:=8) Tryz.ntmps221 (T.aO (Rg.aZ G G (T.aO (ab G G (aL G (cG.lx a00) G ?_)))));refine au (M:=M) (A:=RT.li) (B:=(RT.bl).sl) eG G G Iz XT (li1) G G XT a00 (by repeat (first|exact bN _ _|refine bp (bO a00) ?_)) (λQE vP=>?_);refine bM (M:=M) fz G G G G G a00 (by repeat (first|exact bN _ _|refine bp (bO a00) ?_)) (λZN La=>?_)
 first|refine bB fz rfl a00 rfl ?_|refine jQ fz rfl a00 rfl ?_
 refine Rg.aZ G G (aM ?_);exact a69
theorem Nk {M:aE} {w0:World} {v:Value} {x:Li} (hv:cG RT.li M w0 v x) {k:Int}:
  Spec Tryz.prog 222 #[v,.int .i64 k] w0 (λv' w'=>v'= .int .i64 (Fq x.2.1 k)/\w0=w'):=by
 refine aS (args:=[_,_]) (fn:=Tryz.f222) Tryz.func222 G (n:=17) Tryz.ntmps222 (T.aO (Rg.aZ G G (aI (T.aO (ab G G (ab G G ?_))))));refine aJ G G adB (Lh hv (k:=k)) (λr w1 h1=>?_);obtain⟨rfl,rfl⟩:=h1;refine gM G G (aY (v':= .bool (decide (¬(0<=k/\k<x.2.1.length)))) (by unfold O0;rw[decide_not]) (ad ?_));refine bI G (λc1=>?_) (λc1=>?_)
 ·refine T.aO (Rg.aZ G G (aM ?_));exact aP G G ⟨by unfold Fq O0;rw[if_neg (by simpa using c1)],rfl⟩
 ·refine aR (T.aO (ab G G (aL G (cG.lx a00) G ?_)));refine au (M:=M) (A:=RT.li) (B:=(RT.bl).sl) eG G G Iz XT (li1) G G XT a00 (by repeat (first|exact bN _ _|refine bp (bO a00) ?_)) (λUY AJ=>?_);refine bM (M:=M) fz G G G G G a00 (by repeat (first|exact bN _ _|refine bp (bO a00) ?_)) (λafk Xg=>?_);refine ab G G ?_;obtain⟨b,hb⟩:∃b,x.2.1[k.toNat]? =some b:=⟨_,an q0⟩;refine cx fz BX G G G a00 b4 q0 (λZ9 aaa Rh Ri=>?_);obtain rfl:aaa=b:=aF (Rh.symm.trans hb);refine au (M:=M) (A:=RT.bl) (B:=RT.int .i64) mg G G I3 XT (bl2) G G XT a00 (by repeat (first|exact bN _ _|refine bp (bO a00) ?_)) (λawh arC=>?_);refine bV (M:=M) aj G G a00 (by repeat (first|exact bN _ _|refine bp (bO a00) ?_)) (λarD=>?_);refine Rg.aZ G G (aM ?_);exact aP G G ⟨by unfold Fq O0;rw[if_pos (by simpa using c1),bY,hb];rfl,rfl⟩
theorem Jy {M:aE} {w0:World} {v:Value} {b:List UInt8} {at_ ahead:Int} (hM:Lt M w0) (hv:(RT.u8.sl).V M w0 b v) (C7: -9223372036854775808<=at_/\at_<=9223372036854775807) (hah: -9223372036854775808<=ahead/\ahead<=9223372036854775807) (Cb:b.length<=1099511627776):
  Spec Tryz.prog 273 #[v,.int .i64 at_,.int .i64 ahead] w0 (λv' w'=>∃p,v'= .tuple #[p,.int .i64 (sT b at_ ahead).2.1,.int .i64 (sT b at_ ahead).2.2]/\RT.po.V M w' (sT b at_ ahead).1 p/\Step M w0 M w' ar):=by
 refine aS (args:=[_,_,_]) (fn:=Tryz.f273) Tryz.func273 G (n:=38) Tryz.ntmps273 (T.aO ?_);refine ek M jl G (λb0 w1 Al awi hB s1=>?_);have tn:=s1.lt hM;have nu:=hv.le s1.le;refine aB G G (Rg.aZ G G (T.aO (ab G G (ab G G ?_))));refine aJ G G adC (GQ nu C7) (λr w2 h2=>?_);obtain⟨rfl,rfl⟩:=h2;have zG:=CD b at_;obtain⟨hn0,hn1,hn2,hn3⟩:=pq b at_;refine ab G G (b9 G G G (b9 G G G (b9 G G G (aB G G (aB G G (Rg.aZ G G (aI (T.aO (ab G G ?_)))))))));refine eR G G G (ad ?_);refine bI G (λc2=>?_) (λc2=>?_)
 ·refine T.aO (dp (places:=[(0,1),(1,1)]) cv jl Ux G G (out:=[.int .i64 0,.slice none 0 0]) G (ab G G ?_));refine dX (M:=ins M b0) jl G G al5 rfl rfl hB (.inl rfl) (λw3 hB3 s3=>?_);refine aB G G (Rg.aZ G G (aM ?_));have lP:=s1.size;have S:Step M w0 M w3 ar:=(s1.cq s3 (λk hk=>by subst hk;omega)).back;refine OY G G cv G jl G hB3 G G ⟨_,by unfold sT;rw[if_pos c2]<;>rfl,?_,S⟩;unfold sT;rw[if_pos c2];exact fR (iG (x:=0) q0) gC G G G G
 ·refine aR (T.aO (ab G G (ab G G ?_)));have fN:=xf (b:=b) (at_:=at_) q0;refine aJ G G aky (AU (M:=ins M b0) tn nu q0 Cb) (λr w3 h3=>?_);obtain⟨x3,rfl,hx3,s3⟩:=h3;refine ab G G (b9 G G G (b9 G G G (b9 G G G (aB G G (aB G G (Rg.aZ G G (T.aO (ab G G (qH G G G ?_)))))))));refine ab rfl rfl (qH rfl rfl rfl (ab rfl rfl (dp (places:=[(0,1),(1,1)]) cv jl Ux rfl ⟨_,_,rfl,rfl,_,_,rfl,rfl,rfl⟩ (out:=[_,_]) ⟨0,[_],rfl,rfl,by simp[Value.cells],1,[_],rfl,iF hx3,by simp[Value.cells],rfl⟩ (ab rfl rfl (ab rfl rfl ?_)))));obtain⟨vx,Ax⟩:∃vx,vx=x3:=⟨_,rfl⟩;have tG:=jL hx3 rfl rfl;refine dX (M:=ins M b0) jl G G (by intro u hu;simp at hu;rcases hu with rfl|rfl;rfl;exact tG) G G (s3.ay hB) (.inl G) (λw4 hB4 s4=>?_);refine aB G G (Rg.aZ G G (aM ?_));have lP:=s1.size;have awj:=s3.size;have S3:=s1.av s3;have S:Step M w0 M w4 ar:=(S3.cq s4 (λk hk=>by subst hk;omega)).back;refine OY G G cv G jl G hB4 G G ⟨_,by unfold sT;rw[if_neg c2]<;>rfl,?_,S⟩;unfold sT;rw[if_neg c2];have hx4:=(hx3.le s4.le).le (ni hM (S3.cq s4 (λk hk=>by subst hk;omega)));exact fR (iG Fm) hx4 G G G G
theorem Jz {M:aE} {w0:World} {v:Value} {l:List Po} {k:Int} (hM:Lt M w0) (hv:cG RT.li M w0 v (j5 l)) (vS:eN (-1) l=true) (qm:∀p∈l,p.2.length<=1099511627776) (Cb:(eH (-1) l).length<=1099511627776):
  Spec Tryz.prog 223 #[v,.int .i64 k] w0 (λv' w'=>Step M w0 M w' ar/\((RT.po).sl).V M w' (if O0 ((l.length+7)/8) k then(l.drop (8*k.toNat)).take 8 else[]) v'):=by
 have Vm:(j5 l).2.1.length=(l.length+7)/8:=by simp[j5,qq]
 refine aS (args:=[_,_]) (fn:=Tryz.f223) Tryz.func223 G (n:=51) Tryz.ntmps223 (T.aO (Rg.aZ G G (aI (T.aO (ab G G (ab G G ?_))))));refine aJ G G adB (Lh hv (k:=k)) (λr w1 h1=>?_);obtain⟨rfl,rfl⟩:=h1;refine gM G G (aY (v':= .bool (decide (¬(0<=k/\k<(j5 l).2.1.length)))) (by unfold O0;rw[decide_not]) (ad ?_));refine bI G (λc1=>?_) (λc1=>?_)
 ·refine T.aO (Rg.aZ G G (aM (aP G G ⟨aV,?_⟩)));rw[if_neg (by unfold O0;rw[Vm]at c1;simpa using c1)];exact gC
 ·refine aR (T.aO (ab G G (aL G (cG.lx a00) G ?_)));refine au (M:=M) (A:=RT.li) (B:=(RT.bl).sl) eG G G Iz XT (li1) G G XT a00 (by repeat (first|exact bN _ _|refine bp (bO a00) ?_)) (λUY AJ=>?_);refine bM (M:=M) fz G G G G G a00 (by repeat (first|exact bN _ _|refine bp (bO a00) ?_)) (λafk Xg=>?_);refine ab G G ?_;obtain⟨j,rfl⟩:∃j:Nat,k=j:=⟨k.toNat,by omega⟩;have hb:(j5 l).2.1[j]? =some (vg l j):=by simp only[j5,qq,cD];rw[List.getElem?_range q0];rfl
  refine cx fz BX G G G a00 b4 q0 (λZ9 aaa Rh Ri=>?_);obtain rfl:aaa=vg l j:=aF (Rh.symm.trans (by simpa using hb));have W8:(vg l j).2.2.2=(((l.drop (8*j)).take 8).length:Int):=rfl;have arE:((l.drop (8*j)).take 8).length<=8:=by rw[bF];omega
  refine bZ (M:=M) (A:=RT.bl) mg G BX XT G G G a00 (by repeat (first|exact bN _ _|refine bp (bO a00) ?_)) (λVn yE=>?_);refine jR (A:=RT.bl) (M:=M) BX G G G G G a00 (by repeat (first|exact bN _ _|refine bp (bO a00) ?_)) a56 (λamH aab arF aac awl=>?_);refine ad (T.aO (Rg.aZ G G (aI (aI ?_))));apply T.draw (M:=M) mixed [cw.ptr (RT.int .i64) (vg l j).1,cw.eq _,cw.ptr (RT.int .i64) (vg l j).2.1,cw.eq _,cw.eq _,cw.eq _]
  ·rfl
  ·refine aH ?_ ?_
   ·intro wD E sD;refine au (M:=M) (A:=RT.bl) (B:=RT.int .i64) mg G G I3 XT (bl0) G G XT a00 (by repeat (first|exact bN _ _|refine bp (bO a00) ?_)) (λafb Lc=>?_);exact ad ⟨G,G,_,G,by assumption,aV⟩
   refine aH ?_ ?_
   ·intro wD E sD;intro v0 wO;refine bV (M:=M) aj G G a00 (by repeat (first|exact bN _ _|refine bp (bO a00) ?_)) (λXh=>?_);exact a02
   refine aH ?_ ?_
   ·intro wD E sD;refine au (M:=M) (A:=RT.bl) (B:=RT.int .i64) mg G G I3 XT (bl1) G G XT a00 (by repeat (first|exact bN _ _|refine bp (bO a00) ?_)) (λafm vT=>?_);exact ad ⟨G,G,_,G,by assumption,aV⟩
   refine aH ?_ ?_
   ·intro wD E sD;intro v2 E5;refine bV (M:=M) aj G G a00 (by repeat (first|exact bN _ _|refine bp (bO a00) ?_)) (λRj=>?_);exact a02
   refine aH ?_ ?_
   ·intro wD E sD;refine aw ?_;intro v0 wO;refine aw (aB G G ?_);exact a02
   refine aH ?_ ?_
   ·intro wD E sD;refine aw (aw ?_);intro v0 wO;refine aw ?_;intro v2 E5;refine aw (aw (aB G G ?_));exact a02
   exact sd
  ·intro wD5 Lb;intro awm arG;refine aw ?_;intro aly WU;refine aw (aw (aw (aT ?_)));have hz5:=aac.size;refine cR (σ:=Nat×Value) (λs=>[(0,v),(5,amH),(6,s.2),(7,.int .i64 (eH (-1) (l.take (8*j+s.1))).length),(8,.int .i64 (cQ (-1) (l.take (8*j+s.1))))]) (λs w=>s.1<=((l.drop (8*j)).take 8).length/\∃M1,Lt M1 w/\Step M w0 M1 w ar/\Step M aab M1 w ar/\Own RT.po 188 M1 w aab.heap.size s.2 (((l.drop (8*j)).take 8).take s.1)) (λs=>((l.drop (8*j)).take 8).length-s.1) (0,_) a34 ?_ ?_
   ·exact⟨bm _,M,Lb.lt (aac.lt hM),aac.av Lb,Lb,eE _ _ _ _ _⟩
   ·rintro⟨i,u0⟩ w1 ⟨hi,M1,tn,S,S5,ho⟩;dsimp only at hi ho ⊢;refine aI (T.aO (ab G G (jQ bC G ho G (aY (v':= .int .i64 i) (by rw[bF,zt hi]) ?_))));refine au (M:=M1) (A:=RT.bl) (B:=RT.int .i64) mg G G I3 XT (bl3) G G XT a00 (by repeat (first|exact bN _ _|refine bp (bO a00) ?_)) (λaeb afn=>?_);refine bV aj G G afn b4 (λarI=>?_);refine aY (v':= .int .i64 ((l.drop (8*j)).take 8).length) G (ck G G G (ad ?_));refine bI G (λc6=>?_) (λc6=>?_)
    ·refine aR (aT (T.aO (ab G G (aL G (cG.lx a00) G ?_))));refine au (M:=M1) (A:=RT.li) (B:=RT.u8.sl) eG G G FJ XT (li0) G G XT a00 (by repeat (first|exact bN _ _|refine bp (bO a00) ?_)) (λaeV tj=>?_);refine bM (M:=M1) bW G G G G G a00 (by repeat (first|exact bN _ _|refine bp (bO a00) ?_)) (λawn afo=>?_);refine ab G G (ab G G ?_);obtain⟨⟨d,ps⟩,hx⟩:∃x,l[8*j+i]? =some x:=⟨_,an (by rw[bF,dR]at c6;omega)⟩;obtain⟨f1,f2,f3,f4,f5,f6⟩:=qU vS hx;have htk:sT (j5 l).1 _ _=_:=O1 vS hx (qm _ (ax hx));have L0:(eH (-1) (l.take (8*j+i))).length<=(eH (-1) l).length:=by rw[qV (l:=l) (i:=8*j+i) (-1)];simp
     refine aJ G G aku (Jy (M:=M1) tn afo q0 q0 Cb) (λr7 w7 h7=>?_);obtain⟨p7,h7e,hp7,s7⟩:=h7;rw[htk]at h7e hp7;subst h7e;change RT.po.V M1 w7 (d,ps) p7 at hp7;replace S:=S.av s7;replace S5:=S5.av s7;replace ho:=ho.bD s7;replace tn:=s7.lt tn;have hci:((l.drop (8*j)).take 8)[i]? =some (d,ps):=by rw[dE,if_pos q0,lF];exact hx
     refine ab G G (b9 G G G (b9 G G G (b9 G G G ?_)));refine jR (A:=RT.po) (M:=M1) jl G G G G G a00 (by repeat (first|exact bN _ _|refine bp (bO a00) ?_)) a56 (λarK arL Rk Lj arM=>?_);refine aB G G (Rg.aZ G G (T.aO (ab G G ?_)));replace S:=S.av Lj;replace S5:=S5.av Lj;replace ho:=ho.bD Lj;replace tn:=Lj.lt tn;clear hp7;refine bZ (A:=RT.po) cv G jl XT G G G Rk b4 (λv8 E6=>?_);refine fm (A:=RT.po) (hn:=by decide) (M:=M1) bC jl XT G G tn E6 (.inl G) (λu2 w2 j3 s2=>?_);refine dA (M:=M1) (base:=aab.heap.size) bC jl rfl rfl rfl rfl (ho.bD s2) j3 b4 a13 a13 (ep S5.size s2.size) (λv3 M3 w3 TV s3=>?_);replace S:=(S.av s2).eg s3 (ho.bD s2) hz5;have hu9:=(Rk.le XT s2.le).le XT s3.le;have Xi:=s3.lt (s2.lt tn);replace S5:=(S5.av s2).eg s3 (ho.bD s2) (aX _);refine Rg.aZ G G ?_;apply T.draw (M:=M3) mixed [cw.eq _,cw.ptr (RT.int .i64) d,cw.eq _,cw.eq _,cw.eq _]
     ·rfl
     ·refine aH ?_ ?_
      ·intro wD E sD;refine ab G G ?_;exact a02
      refine aH ?_ ?_
      ·intro wD E sD;refine au (M:=M3) (A:=RT.po) (B:=RT.int .i64) cv G G I3 XT (TP) G G XT hu9 sD.le (λama QW=>?_);exact ad ⟨G,G,_,G,QW,aV⟩
      refine aH ?_ ?_
      ·intro wD E sD;intro v1 nu;refine bV (M:=M3) aj G G a00 (by repeat (first|exact bN _ _|refine bp (bO a00) ?_)) (λarN=>?_);exact a02
      refine aH ?_ ?_
      ·intro wD E sD;refine aw (aw (aB G G ?_));exact a02
      refine aH ?_ ?_
      ·intro wD E sD;refine aw (aw (aw ?_));intro v1 nu;refine aw (aw (aB G G ?_));exact a02
      exact sd
     ·intro Vo wU;refine aw ?_;intro awp arO;refine aw (aw (aw ?_));refine⟨rfl,(i+1,v3),(.cons rfl (.cons rfl (.cons rfl (.cons rfl (.cons (by rw[<-f5];rfl) .nil))))),?_,?_⟩
      ·refine ⟨by simp only;omega,M3,wU.lt Xi,S.av wU,S5.av wU,?_⟩;simp only;obtain⟨KJ,Of⟩:=al.1 hci;rw[tq KJ,Of];exact TV.bD wU
      ·simp only;omega
    ·refine cE (T.aO (ab G G (Rg.aZ G G (aM (aP G G ⟨S.back,?_⟩)))));rw[if_pos (by unfold O0;rw[Vm]at c1;simpa using c1),aq];rw[bg q0]at ho;exact Own.close hM S (ho.kD hz5) q0
theorem GS {M:aE} {w0:World} {v:Value} {l:List Int} (hv:((RT.int .i64).sl).V M w0 l v):
  Spec Tryz.prog 264 #[v] w0 (λv' w'=>v'= .bool (pw l)/\w0=w'):=by
 have hlen:=dW hv;refine aS (args:=[_]) (fn:=Tryz.f264) Tryz.func264 G (n:=32) Tryz.ntmps264 (T.aO (Rg.aZ G G (aI (T.aO (ab G G ?_)))))
 first|refine bB ao rfl a00 rfl ?_|refine jQ ao rfl a00 rfl ?_
 refine ab G G (ad (aT ?_));refine cR (σ:=Nat×Int) (λs=>[(0,v),(5,v),(6,.int .i64 l.length),(7,.int .i64 s.1)]) (λs w=>w0=w/\s.1<=l.length/\pw l=(gg s.2 (l.drop s.1)&&(l.drop s.1).all (λn=>decide (n<2147483648)))/\ -1<=s.2/\(s.1=0->s.2= -1)/\(0<s.1->l[s.1-1]? =some s.2)) (λs=>l.length-s.1) (0,-1) a01 ?_ ?_
 ·exact⟨rfl,bm _,rfl,by decide,λ_=>rfl,λh=>absurd h (ky 0)⟩
 ·rintro⟨k,last⟩ w1 ⟨rfl,hk,hr,Vj,h0,h1⟩;dsimp only at hk hr Vj h0 h1 ⊢;refine T.aO (ck G G G (ad (aI ?_)));refine bI G (λc2=>?_) (λc2=>?_)
  ·refine aR (aI (aT (T.aO (ab G G ?_))));obtain⟨x,hx⟩:∃x,l[k]? =some x:=⟨_,an q0⟩;refine cx ao I3 G G G hv b4 q0 (λawq amI afp arP=>?_);obtain rfl:x=amI:=dV (aF (afp.symm.trans af1));refine bV (M:=M) aj G G a00 (by repeat (first|exact bN _ _|refine bp (bO a00) ?_)) (λarQ=>?_);refine aB G G (Rg.aZ G G (T.aO (ab G G (ck G G G (ab G G ?_)))));refine aW (g:=14) G (λxO=>?_) (λxO=>?_)
   ·refine ak G G G G (ak G G G G (a8 G G G (ab G G (ak G G G G (ak G G G G (ak G G G G (cM G G G (cM G G G (cM G G G (cM G G G (cM G G G ?_)))))))))));refine cM G G G (cM G G G (ak G G G G (a8 G G G (ad (lh G (T.aO (Rg.aZ G G (aM ?_))))))));refine aP G G ⟨congrArg Value.bool (dV ?_),G⟩;rw[hr,gS hx,qW _ hx];by_cases h7:last<x
    ·have h2: ¬x<2147483648:=by omega
     simp[h2]
    ·simp[h7]
   ·refine ah G G (ab G G (ah G G (eh G G G (aD G G G (ab G G ?_)))));refine aW (g:=18) G (λamJ=>?_) (λamJ=>?_)
    ·refine ak G G G G (ak G G G G (ak G G G G (cM G G G (cM G G G (cM G G G (cM G G G (cM G G G (cM G G G (cM G G G (ak G G G G (a8 G G G ?_)))))))))));refine ad (lh G (T.aO (Rg.aZ G G (aM ?_))));refine aP G G ⟨congrArg Value.bool (dV ?_),G⟩;rw[hr,gS hx,qW _ hx];by_cases h7:last<x
     ·have h2: ¬x<2147483648:=by omega
      simp[h2]
     ·simp[h7]
    ·refine ah G G (ab G G (ah G G (il G G G (ah G G (ab G G ?_)))));refine aW (g:=21) G (λamK=>?_) (λamK=>?_)
     ·refine ah G G (ab G G (ah G G (ab G G (ah G G (ab G G (ah G G (jy G G G q0 (ah G G ?_))))))));refine cx ao I3 G G G hv b4 q0 (λarR afq aad amL=>?_);obtain rfl:last=afq:=dV (aF (aad.symm.trans (by rw[show((k:Int)-1).toNat=k-1 from by omega];exact h1 q0)));refine ah G G ?_;refine bV (M:=M) aj G G a00 (by repeat (first|exact bN _ _|refine bp (bO a00) ?_)) (λamM=>?_);refine ah G G (gF G G G (ah G G (a8 G G G (aD G G G (ad ?_)))));refine bI G (λc4=>?_) (λc4=>?_)
      ·refine T.aO (Rg.aZ G G (aM ?_));refine aP G G ⟨congrArg Value.bool (dV ?_),G⟩;rw[hr,gS hx,qW _ hx];by_cases h7:last<x
       ·have h2: ¬x<2147483648:=by omega
        simp[h2]
       ·simp[h7]
      ·refine aR (aN (br G G G q0 (ab G G (ad ?_))));refine⟨G,(k+1,x),a01,?_,?_⟩
       ·refine⟨rfl,by simp only;omega,?_,by simp only;omega,λh=>by simp at h,λ_=>by simpa using hx⟩;rw[hr,gS hx,qW _ hx,decide_eq_true (show last<x by omega),decide_eq_true (show x<2147483648 by omega),cT,cT]
       ·simp only;omega
     ·refine ak G G G G (ak G G G G (ak G G G G (ak G G G G (ak G G G G (ak G G G G (ak G G G G (ah G G (aD G G G (aD G G G (ad (gy G ?_)))))))))));refine aR (aN (br G G G q0 (ab G G (ad ?_))));refine⟨G,(k+1,x),a01,?_,?_⟩
      ·refine⟨rfl,by simp only;omega,?_,by simp only;omega,λh=>by simp at h,λ_=>by simpa using hx⟩;rw[hr,gS hx,qW _ hx,decide_eq_true (show last<x by omega),decide_eq_true (show x<2147483648 by omega),cT,cT]
      ·simp only;omega
  ·refine cE (T.aO (Rg.aZ G G (aM ?_)));refine aP G G ⟨congrArg Value.bool (dV ?_),G⟩;rw[hr,fq q0];rfl
theorem Nl {M:aE} {w0:World} {v:Value} {l:List Po} (hM:Lt M w0) (hv:((RT.po).sl).V M w0 l v):
  Spec Tryz.prog 192 #[v] w0 (λv' w'=>v'= .bool (eN (-1) l)/\Step M w0 M w' ar):=by
 have hlen:=dW hv;refine aS (args:=[_]) (fn:=Tryz.f192) Tryz.func192 G (n:=36) Tryz.ntmps192 (T.aO (Rg.aZ G G (T.aO (Rg.aZ G G (aI (T.aO ?_))))));refine ab G G ?_
 first|refine bB bC rfl a00 rfl ?_|refine jQ bC rfl a00 rfl ?_
 refine ab G G (ad (aT ?_));refine cR (σ:=Nat×Int) (λs=>[(6,v),(7,.int .i64 l.length),(8,.int .i64 s.1),(3,.int .i64 s.2)]) (λs w=>Step M w0 M w ar/\s.1<=l.length/\eN (-1) l=eN s.2 (l.drop s.1)) (λs=>l.length-s.1) (0,-1) a01 ?_ ?_
 ·exact⟨aV,bm _,G⟩
 ·rintro⟨k,last⟩ w1 ⟨S,hk,hr⟩;dsimp only at hk hr ⊢;have hMw:=S.lt hM;refine T.aO (ck G G G (ad (aI ?_)));refine bI G (λc3=>?_) (λc3=>?_)
  ·refine aR (aI (aT (T.aO ?_)));obtain⟨⟨d,ps⟩,hx⟩:∃x,l[k]? =some x:=⟨_,an q0⟩;refine cx bC jl G G G (hv.le S.le) b4 q0 (λMP JA AW td=>?_);obtain rfl:JA=(d,ps):=aF (AW.symm.trans af1);refine bZ (M:=M) (A:=RT.po) cv G jl XT G G G a00 (by repeat (first|exact bN _ _|refine bp (bO a00) ?_)) (λI7 oQ=>?_);refine jR (A:=RT.po) (M:=M) jl G G G G G a00 (by repeat (first|exact bN _ _|refine bp (bO a00) ?_)) a56 (λY2 Y3 nF pF ae5=>?_);refine ad (aI (T.aO ?_));refine au (M:=M) (A:=RT.po) (B:=RT.int .i64) cv G G I3 XT (TP) G G XT a00 (by repeat (first|exact bN _ _|refine bp (bO a00) ?_)) (λafb Lc=>?_);refine bV aj G G Lc b4 (λXh=>?_);refine aY (v':= .int .i64 d) G ?_;simp only at Xh;refine ab G G (gF G G G (ab G G ?_));refine aW (g:=16) G (λamN=>?_) (λamN=>?_)
   ·refine ak G G G G (ak G G G G (ak G G G G (a8 G G G (ab G G (ak G G G G (ak G G G G (ak G G G G (ak G G G G (a8 G G G (ab G G (ak G G G G ?_)))))))))));refine ak G G G G (ak G G G G (ak G G G G (a8 G G G (ad (lh G (T.aO (Rg.aZ G G (aM ?_))))))));refine aP G G ⟨congrArg Value.bool (dV ?_),S.av pF⟩;rw[hr,mG hx]
    first
    |(rw[decide_eq_false (show¬last<d by omega)];simp;done)
    |(rw[decide_eq_false (show¬d<2147483648 by omega)];simp;done)
    |(rw[show ps=[]from dI.1 q0];simp;done)
    |(simp[c5];done)
   ·refine ah G G ?_;refine au (M:=M) (A:=RT.po) (B:=RT.int .i64) cv G G I3 XT (TP) G G XT a00 (by repeat (first|exact bN _ _|refine bp (bO a00) ?_)) (λawr afr=>?_);refine ah G G ?_;refine bV aj G G afr b4 (λarS=>?_);refine aY (v':= .int .i64 d) G (ah G G (eh G G G (aD G G G (ab G G ?_))));refine aW (g:=21) G (λamO=>?_) (λamO=>?_)
    ·refine ak G G G G (ak G G G G (ak G G G G (ak G G G G (a8 G G G (ab G G (ak G G G G (ak G G G G (ak G G G G (ak G G G G (a8 G G G (ad ?_)))))))))));refine lh G (T.aO (Rg.aZ G G (aM ?_)));refine aP G G ⟨congrArg Value.bool (dV ?_),S.av pF⟩;rw[hr,mG hx]
     first
     |(rw[decide_eq_false (show¬last<d by omega)];simp;done)
     |(rw[decide_eq_false (show¬d<2147483648 by omega)];simp;done)
     |(rw[show ps=[]from dI.1 q0];simp;done)
     |(simp[c5];done)
    ·refine ah G G ?_;refine au (M:=M) (A:=RT.po) (B:=(RT.int .i64).sl) cv G G l4 XT (Yp) G G XT a00 (by repeat (first|exact bN _ _|refine bp (bO a00) ?_)) (λarT amP=>?_);refine ah G G ?_;refine bM (M:=M) ao G G G G G a00 (by repeat (first|exact bN _ _|refine bp (bO a00) ?_)) (λarU aae=>?_);refine ah G G (bB ao G aae G (aY (v':= .int .i64 ps.length) G (ah G G (gN G G G (aD G G G (ab G G ?_))))));refine aW (g:=27) G (λXj=>?_) (λXj=>?_)
     ·refine ak G G G G (ak G G G G (ak G G G G (ak G G G G (a8 G G G (ad (lh G (T.aO (Rg.aZ G G (aM ?_)))))))));refine aP G G ⟨congrArg Value.bool (dV ?_),S.av pF⟩;rw[hr,mG hx]
      first
      |(rw[decide_eq_false (show¬last<d by omega)];simp;done)
      |(rw[decide_eq_false (show¬d<2147483648 by omega)];simp;done)
      |(rw[show ps=[]from dI.1 q0];simp;done)
      |(simp[c5];done)
     ·refine ah G G ?_;refine au (M:=M) (A:=RT.po) (B:=(RT.int .i64).sl) cv G G l4 XT (Yp) G G XT a00 (by repeat (first|exact bN _ _|refine bp (bO a00) ?_)) (λarV amQ=>?_);refine ah G G ?_;refine bM (M:=M) ao G G G G G a00 (by repeat (first|exact bN _ _|refine bp (bO a00) ?_)) (λarW aaf=>?_);refine ah G G ?_;refine aJ G G aks (GS aaf) (λr5 w5 h5=>?_);obtain⟨rfl,rfl⟩:=h5;refine ah G G (gM G G (aY (v':= .bool (decide (¬pw ps=true))) (by simp) (aD G G G (ad ?_))));refine bI G (λc5=>?_) (λc5=>?_)
      ·refine T.aO (Rg.aZ G G (aM ?_));refine aP G G ⟨congrArg Value.bool (dV ?_),S.av pF⟩;rw[hr,mG hx]
       first
       |(rw[decide_eq_false (show¬last<d by omega)];simp;done)
       |(rw[decide_eq_false (show¬d<2147483648 by omega)];simp;done)
       |(rw[show ps=[]from dI.1 q0];simp;done)
       |(simp[c5];done)
      ·refine aR (aN ?_);refine au (M:=M) (A:=RT.po) (B:=RT.int .i64) cv G G I3 XT (TP) G G XT a00 (by repeat (first|exact bN _ _|refine bp (bO a00) ?_)) (λaep KW=>?_);refine bV aj G G KW b4 (λarX=>?_);refine aY (v':= .int .i64 d) G (Rg.aZ G G (aN (br G G G q0 (ab G G (ad ?_)))));refine⟨G,(k+1,d),a01,?_,?_⟩
       ·refine ⟨S.av pF,by simp only;omega,?_⟩
        have fw:ps.isEmpty=false:=by cases ps with
         |nil=>simp at Xj
         |cons a t=>rfl
        rw[hr,mG hx,decide_eq_true (show last<d by omega),decide_eq_true (show d<2147483648 by omega),fw,db.1 c5];rfl
       ·simp only;omega
  ·refine cE (T.aO (Rg.aZ G G (aM ?_)));refine aP G G ⟨congrArg Value.bool (dV ?_),S⟩;rw[hr,fq q0];rfl
theorem JB {M:aE} {w0:World} {v:Value} {l:List Po} (hM:Lt M w0) (hv:((RT.po).sl).V M w0 l v):
  Spec Tryz.prog 193 #[v,.int .i64 8] w0 (λv' w'=>∃bs bn,v'= .func (.func 265) [].toArray [.pointer (some ⟨bs,0,none⟩),.pointer (some ⟨bn,0,none⟩)].toArray/\w'.heap[bs]? =some (.cells #[v] 117 (0,0))/\w'.heap[bn]? =some (.cells #[.int .i64 8] 3 (0,0))/\w0.heap.size<=bs/\w0.heap.size<=bn/\Step M w0 M w' ar):=by
 refine aS (args:=[_,_]) (fn:=Tryz.f193) Tryz.func193 G (n:=9) Tryz.ntmps193 (T.aO ?_);refine iP M G G (λbs w1 h1 Uk hS s1=>?_);rw[iF hv]at hS;refine iP (ins M bs) G G (λbn w2 h2 H0 hN s2=>?_);have hS2:=s2.ay hS;have hz1:=s1.size;refine Rg.aZ G G (aI (T.aO (aA aj G G G hN G (ck G G G (ad (yK G (XT) (aR (T.aO ?_))))))));refine gz (xs:=[]) (ys:=[.tmp 2,.tmp 3]) G G G (Rg.aZ G G (aM ?_));exact aP G G ⟨bs,bn,G,hS2,hN,h1,by omega,(s1.av s2).back⟩
theorem GU {w0:World} {bs bn yl:Nat} {v:Value} {l:List Po} {M:aE} {wv:World} {J:Nat->World->Prop} {Jx:World->Prop} (hv:((RT.po).sl).V M wv l v) (jV:∀i w w',J i w->Step ar w ar w' ar->J i w') (Lk:∀i w,J i w->w.heap[bs]? =some (.cells #[v] 117 (0,0))/\w.heap[bn]? =some (.cells #[.int .i64 8] 3 (0,0))) (hy:∀(i:Nat) (w:World) (u:Value),J i w->i<l.length->((RT.po).sl).V M wv ((l.drop i).take 8) u->uV Tryz.prog yl [u].toArray w (λr w'=>∃b,r= .bool b/\(b=true->J (min (i+8) l.length) w')/\(b=false->Jx w'))) (h0:J 0 w0):
  Spec Tryz.prog 265 #[.func (.yield yl) #[] #[],.pointer (some ⟨bs,0,none⟩),.pointer (some ⟨bn,0,none⟩)] w0 (λ_ w'=>J l.length w'∨Jx w'):=by
 have hlen:=dW hv;refine aS (args:=[_,_,_]) (fn:=Tryz.f265) Tryz.func265 G (n:=31) Tryz.ntmps265 (T.aO (Rg.aZ G G (aT ?_)));refine cR (σ:=Nat) (λs=>[(0,.func (.yield yl) #[] #[]),(1,.pointer (some ⟨bs,0,none⟩)),(2,.pointer (some ⟨bn,0,none⟩)),(4,.int .i64 s)]) (λs w=>J (min s l.length) w/\s<=l.length+8) (λs=>l.length+8-s) 0 a01 ?_ ?_
 ·exact⟨by rw[Nat.zero_min];exact h0,bm _⟩
 ·rintro k w1 ⟨hJ,hk⟩;obtain⟨ua,Ih⟩:=Lk _ _ hJ;refine aI (T.aO (ab G G (aA bC G G G ua G ?_)))
  first|refine bB bC rfl a00 rfl ?_|refine jQ bC rfl a00 rfl ?_
  refine ck G G G (ad ?_);refine bI G (λc1=>?_) (λc1=>?_)
  ·refine aR (aI (aT (aI ?_)));apply T.draw (M:=ar) mixed [cw.eq _,cw.eq _,cw.eq _,cw.pure (λv=>((RT.po).sl).V M wv (l.drop k) v),cw.eq _,cw.eq _,cw.eq _]
   ·rfl
   ·refine aH ?_ ?_
    ·intro wD E sD;refine aA aj G G G (cg sD Ih) G ?_;exact a02
    refine aH ?_ ?_
    ·intro wD E sD;refine aA bC G G G (cg sD ua) G ?_;exact a02
    refine aH ?_ ?_
    ·intro wD E sD;refine ab G G ?_;exact a02
    refine aH ?_ ?_
    ·intro wD E sD;refine aw (aw ?_);refine Rg.pb (A:=RT.po) (hn:=by decide) bC jl G G G hv q0 (λu hu=>?_);rw[aq]at hu;exact ad ⟨G,G,_,G,hu,aV⟩
    refine aH ?_ ?_
    ·intro wD E sD;intro v3 xH;have amR:((RT.po).sl).V M wv (l.drop k) v3:=xH;refine bB bC G amR G ?_;exact a02
    refine aH ?_ ?_
    ·intro wD E sD;refine aw (aw (Rg.min2 G G G ?_));exact a02
    refine aH ?_ ?_
    ·intro wD E sD;refine aw (aw (aw (aw ?_)));intro v3 xH;refine aw (aw (aB G G ?_));exact a02
    exact sd
   ·intro wD3 qt;refine aw (aw (aw ?_));intro afk Xg;refine aw (aw (aw ?_));rw[show min k l.length=k from by omega]at hJ;have TT:=jV _ _ _ hJ qt;obtain⟨hb3,Vp⟩:=Lk _ _ TT;refine T.aO (ab G G (aA bC G G G hb3 G (ab G G (ab G G (ab G G (br G G G q0 (ab G G (ab G G (br G G G q0 ?_)))))))));refine Rg.Ma (A:=RT.po) (hn:=by decide) bC jl rfl rfl rfl rfl rfl hv (by rw[dR];omega) (λu hu=>?_)
    have he:(l.take ((k:Int)+min 8 ((l.drop k).length:Int)).toNat).drop (k:Int).toNat=(l.drop k).take 8:=by
     rw[aq,List.drop_take,dR,show((k:Int)+min 8 ((l.length-k:Nat):Int)).toNat-k=min 8 (l.length-k)from by omega,List.take_eq_take_iff,dR];omega
    rw[he]at hu;refine Rg.yield G (vs:=[u]) G G (hy k _ u TT q0 hu) (λr4 w4 h4=>?_);obtain⟨b,rfl,hb5,rB⟩:=h4;refine gM G G (aY (v':= .bool (decide (¬b=true))) (by simp) (ad ?_));refine bI G (λc4=>?_) (λc4=>?_)
    ·refine aM ?_;exact Cs G (.inr (rB (by simpa using c4)))
    ·refine aR (aN (ab G G ?_));have hJ5:=hb5 (db.1 c4);refine aA aj G G G (Lk _ _ hJ5).2 G (br G G G q0 (Rg.aZ G G ?_));refine⟨G,k+8,a01,?_,?_⟩
     ·exact⟨hJ5,by omega⟩
     ·show l.length+8-(k+8)<l.length+8-k;omega
  ·refine cE ?_;rw[show min k l.length=l.length from by omega]at hJ;change yL Tryz.prog Tryz.f265 (λ_ w'=>J l.length w'∨Jx w') .normal _ [] _;exact jB G (.inl hJ)
structure nW (M:aE) (w0:World) (v:Value) (bo bx bl D bs bn:Nat) (st:Obj) (vb vk:Value) (xh last:Int) (b:List UInt8) (ks:List Bl) (M1:aE) (w:World):Prop where
 lt:Lt M1 w
 S:Step M w0 M1 w ar
 mo:M1 bo
 mx:M1 bx
 ml:M1 bl
 md:M1 D
 mr:M1 (D+1)
 o:w.heap[bo]? =some (.cells #[.pointer (some ⟨bx,0,none⟩)] 250 (0,0))
 x:w.heap[bx]? =some (.cells #[vb,vk,.int .i64 xh] 296 (0,0))
 l:w.heap[bl]? =some (.cells #[.int .i64 last] 3 (0,0))
 d:w.heap[D]? =some (.deferred (some []))
 r:w.heap[D+1]? =some st
 s:w.heap[bs]? =some (.cells #[v] 117 (0,0))
 n:w.heap[bn]? =some (.cells #[.int .i64 8] 3 (0,0))
 ne:bo≠bx/\bo≠bl/\bx≠bl/\bo<D/\bx<D/\bl<D/\bs<D/\bn<D/\bs≠bo/\bs≠bx/\bs≠bl/\bn≠bo/\bn≠bx/\bn≠bl/\w0.heap.size<=bo/\w0.heap.size<=bx/\w0.heap.size<=bl/\w0.heap.size<=D
 hb:(RT.u8.sl).V M1 w b vb
 hk:Own RT.bl 301 M1 w (D+2) vk ks
section
variable {M M1 M2:aE} {w0 w w':World} {v vb vk:Value} {bo bx bl D bs bn:Nat} {st:Obj} {xh last:Int} {b:List UInt8} {ks:List Bl}
theorem nW.step (h:nW M w0 v bo bx bl D bs bn st vb vk xh last b ks M1 w) (s:Step M1 w M2 w' ar):nW M w0 v bo bx bl D bs bn st vb vk xh last b ks M2 w':=
 ⟨s.lt h.lt,h.S.av s,(s.mem _ (h.lt _ h.mo)).2 h.mo,(s.mem _ (h.lt _ h.mx)).2 h.mx,(s.mem _ (h.lt _ h.ml)).2 h.ml,(s.mem _ (h.lt _ h.md)).2 h.md,(s.mem _ (h.lt _ h.mr)).2 h.mr,
  s.ay h.o,s.ay h.x,s.ay h.l,s.ay h.d,s.ay h.r,s.ay h.s,s.ay h.n,h.ne,h.hb.le s.le,h.hk.bD s⟩
theorem nW.Vq {n:Int} (h:nW M w0 v bo bx bl D bs bn st vb vk xh last b ks M1 w) (s:Step M1 w M1 w' (λk=>k=bl)) (hl:w'.heap[bl]? =some (.cells #[.int .i64 n] 3 (0,0))):nW M w0 v bo bx bl D bs bn st vb vk xh n b ks M1 w':=by
 obtain⟨e1,e2,e3,e4,e5,e6,e7,e8,e9,JC,Nn,Ll,Rl,e14,e15,e16,e17,e18⟩:=h.ne
 exact⟨s.lt h.lt,h.S.cq s (λk hk=>by subst hk;exact e17),h.mo,h.mx,h.ml,h.md,h.mr,s.bL h.o e2,s.bL h.x e3,hl,s.bL h.d q0,s.bL h.r q0,s.bL h.s Nn,s.bL h.n e14,h.ne,h.hb.le s.le,
  h.hk.step s (λk hk hh=>by have:=(h.hk.base k hk).1;omega)⟩
theorem nW.aag {vb' vk':Value} {afu:Int} {b':List UInt8} {ks':List Bl} (h:nW M w0 v bo bx bl D bs bn st vb vk xh last b ks M1 w) (s:Step M1 w M1 w' (λk=>k=bx)) (hx:w'.heap[bx]? =some (.cells #[vb',vk',.int .i64 afu] 296 (0,0)))
  (hb:(RT.u8.sl).V M1 w' b' vb') (hk:Own RT.bl 301 M1 w (D+2) vk' ks'):nW M w0 v bo bx bl D bs bn st vb' vk' afu last b' ks' M1 w':=by
 obtain⟨e1,e2,e3,e4,e5,e6,e7,e8,e9,JC,Nn,Ll,Rl,e14,e15,e16,e17,e18⟩:=h.ne
 exact⟨s.lt h.lt,h.S.cq s (λk hk=>by subst hk;exact e16),h.mo,h.mx,h.ml,h.md,h.mr,s.bL h.o e1,hx,s.bL h.l (Ne.symm e3),s.bL h.d q0,s.bL h.r q0,s.bL h.s JC,s.bL h.n Rl,h.ne,hb,
  hk.step s (λk qo hh=>by have:=(hk.base k qo).1;omega)⟩
theorem nW.nv {st':Obj} (h:nW M w0 v bo bx bl D bs bn st vb vk xh last b ks M1 w) (jV:w.heap[D+1]? =some st):nW M w0 v bo bx bl D bs bn st' vb vk xh last b ks M1 (w.putObj (D+1) st'):=by
 have s:Step M1 w M1 (w.putObj (D+1) st') (λk=>k=D+1):=fD h.mr;obtain⟨e1,e2,e3,e4,e5,e6,e7,e8,e9,JC,Nn,Ll,Rl,e14,e15,e16,e17,e18⟩:=h.ne
 exact⟨s.lt h.lt,h.S.cq s (λk hk=>by subst hk;omega),h.mo,h.mx,h.ml,h.md,h.mr,s.bL h.o q0,s.bL h.x q0,s.bL h.l q0,s.bL h.d q0,World.putObj_heap_same (ae jV),s.bL h.s q0,s.bL h.n q0,h.ne,h.hb.le s.le,
  h.hk.step s (λk qo hh=>by have:=(h.hk.base k qo).1;omega)⟩
theorem nW.other {q:Nat} (h:nW M w0 v bo bx bl D bs bn st vb vk xh last b ks M1 w) (s:Step M1 w M1 w' (λk=>k=q)) (hq:D+1<q) (hqv:∀k,vk.ownBlock=some k->k≠q):nW M w0 v bo bx bl D bs bn st vb vk xh last b ks M1 w':=by
 obtain⟨e1,e2,e3,e4,e5,e6,e7,e8,e9,JC,Nn,Ll,Rl,e14,e15,e16,e17,e18⟩:=h.ne
 exact⟨s.lt h.lt,h.S.cq s (λk hk=>by subst hk;omega),h.mo,h.mx,h.ml,h.md,h.mr,s.bL h.o q0,s.bL h.x q0,s.bL h.l q0,s.bL h.d q0,s.bL h.r q0,s.bL h.s q0,s.bL h.n q0,h.ne,h.hb.le s.le,
  h.hk.step s (λk qo hh=>hqv k qo hh)⟩
theorem nW.grow {vk':Value} {ks':List Bl} (h:nW M w0 v bo bx bl D bs bn st vb vk xh last b ks M1 w) (s:Step M1 w M2 w' (λk=>vk.ownBlock=some k)) (hk:Own RT.bl 301 M2 w' (D+2) vk' ks'):
  (w'.heap[bx]? =some (.cells #[vb,vk,.int .i64 xh] 296 (0,0))/\M2 bx/\Lt M2 w')/\∀{w2:World},Step M2 w' M2 w2 (λk=>k=bx)->w2.heap[bx]? =some (.cells #[vb,vk',.int .i64 xh] 296 (0,0))->nW M w0 v bo bx bl D bs bn st vb vk' xh last b ks' M2 w2:=by
 obtain⟨e1,e2,e3,e4,e5,e6,e7,e8,e9,JC,Nn,Ll,Rl,e14,e15,e16,e17,e18⟩:=h.ne;have hn:∀k,vk.ownBlock=some k->D+2<=k:=λk hk=>(h.hk.base k hk).1
 have ir:=λ{k:Nat} (hm:M1 k)=>(s.mem k (h.lt k hm)).2 hm
 refine ⟨⟨s.bL h.x (λhh=>by have:=hn _ hh;omega),ir h.mx,s.lt h.lt⟩,λ{w2} s2 hx=> ?_⟩;have S':=h.S.cq s (λk hk=>by have:=hn k hk;omega)
 exact⟨s2.lt (s.lt h.lt),S'.cq s2 (λk hk=>by subst hk;exact e16),ir h.mo,ir h.mx,ir h.ml,ir h.md,ir h.mr,s2.bL (s.bL h.o (λhh=>by have:=hn _ hh;omega)) e1,hx,s2.bL (s.bL h.l (λhh=>by have:=hn _ hh;omega)) (Ne.symm e3),
  s2.bL (s.bL h.d (λhh=>by have:=hn _ hh;omega)) q0,s2.bL (s.bL h.r (λhh=>by have:=hn _ hh;omega)) q0,s2.bL (s.bL h.s (λhh=>by have:=hn _ hh;omega)) JC,s2.bL (s.bL h.n (λhh=>by have:=hn _ hh;omega)) Rl,h.ne,(h.hb.le s.le).le s2.le,
  hk.step s2 (λk qo hh=>by have:=(hk.base k qo).1;omega)⟩
end
def Rm (M:aE) (w0:World) (l:List Po) (v:Value) (bo bx bl D bs bn:Nat) (st:Obj) (i:Nat) (w:World):Prop:=
 ∃(M1:aE) (vb vk:Value),nW M w0 v bo bx bl D bs bn st vb vk (jD (l.take i)) (cQ (-1) (l.take i)) (eH (-1) (l.take i)) (qq l ((i+7)/8)) M1 w/\(i%8=0\/i=l.length)/\i<=l.length
theorem aaj {M:aE} {w0 w2 w3 w5 w6 w7:World} {v:Value} {l:List Po} {bo bx bl bs bn:Nat} {st:Obj} (S6:Step M w0 (ins (ins (ins M bx) bo) bl) w6 ar) (s7:Step (ins (ins (ins M bx) bo) bl) w6 (ins (ins (ins M bx) bo) bl) w7 ar) (hM:Lt M w0)
  (e1:bo<w6.heap.size) (e2:bx<w6.heap.size) (e3:bl<w6.heap.size) (n1:bo≠bx) (n2:bo≠bl) (n3:bx≠bl)
  (hO:w6.heap[bo]? =some (.cells #[.pointer (some ⟨bx,0,none⟩)] 250 (0,0))) (hX:w6.heap[bx]? =some (.cells #[.slice none 0 0,.slice none 0 0,.int .i64 0] 296 (0,0))) (hL:w6.heap[bl]? =some (.cells #[.int .i64 (-1)] 3 (0,0)))
  (hS:w7.heap[bs]? =some (.cells #[v] 117 (0,0))) (hN:w7.heap[bn]? =some (.cells #[.int .i64 8] 3 (0,0))) (hbs:w6.heap.size<=bs) (hbn:w6.heap.size<=bn)
  (g1:w0.heap.size<=bo) (g2:w0.heap.size<=bx) (g3:w0.heap.size<=bl):
  Rm M w0 l v bo bx bl w7.heap.size bs bn st 0 ((w7.alloc (.deferred (some []))).alloc st):=by
 have sA:Step (ins (ins (ins M bx) bo) bl) w7 (ins (ins (ins (ins M bx) bo) bl) w7.heap.size) (w7.alloc (.deferred (some []))) ar:=(dL _ w7 _).own (aX _) (by simp);have sB:Step (ins (ins (ins (ins M bx) bo) bl) w7.heap.size) (w7.alloc (.deferred (some []))) (ins (ins (ins (ins (ins M bx) bo) bl) w7.heap.size) (w7.heap.size+1)) ((w7.alloc (.deferred (some []))).alloc st) ar:=(dL _ _ _).own (by simp) (by simp);have z7:=s7.size;have hs7:=ae hS;have hn7:=ae hN;have S:=((S6.av s7).av sA).av sB;have hD:(w7.alloc (.deferred (some []))).heap[w7.heap.size]? =some (.deferred (some [])):=cY w7 _;have hR:((w7.alloc (.deferred (some []))).alloc st).heap[w7.heap.size+1]? =some st:=by have:=cY (w7.alloc (.deferred (some []))) st;rwa [World.size_alloc]at this
 have z0:=S6.size;refine⟨_,.slice none 0 0,.slice none 0 0,⟨S.lt hM,S,?_,?_,?_,?_,.inl rfl,sB.ay (sA.ay (s7.ay hO)),sB.ay (sA.ay (s7.ay hX)),sB.ay (sA.ay (s7.ay hL)),sB.ay hD,hR,sB.ay (sA.ay hS),sB.ay (sA.ay hN),by omega,gC,eE _ _ _ _ _⟩,.inl rfl,bm _⟩
 ·exact .inr (.inr (.inr (.inl G)))
 ·exact .inr (.inr (.inr (.inr (.inl G))))
 ·exact .inr (.inr (.inl G))
 ·exact .inr (.inl G)
set_option maxHeartbeats 4000000 in
theorem xR {M:aE} {w0:World} {v:Value} {l:List Po} (hM:Lt M w0) (hv:((RT.po).sl).V M w0 l v) (qm:∀p∈l,p.2.length<=1099511627776) (Cb:(eH (-1) l).length<=35184372088832) (TN:l.length<=1099511627776) (awt:jD l<=4611686018427387904):
  Spec Tryz.prog 155 #[v] w0 (λv' w'=>Step M w0 M w' ar/\(eN (-1) l=true->∃p,v'= .tuple #[p,.int .i64 0]/\cG RT.li M w' p (j5 l))/\(eN (-1) l=false->v'= .tuple #[.pointer none,.int .i64 1])):=by
 have hlen:=dW hv;refine qT (args:=[_]) (fn:=Tryz.f155) Tryz.func155 G (n:=85) Tryz.ntmps155 (T.aO (aB G G (Rg.aZ G G (aI (T.aO (ab G G ?_))))));refine aJ G G akk (Nl hM hv) (λr w1 h1=>?_);obtain⟨rfl,s1⟩:=h1;refine gM G G (aY (v':= .bool (decide (¬eN (-1) l=true))) (by simp) (ad ?_));refine bI G (λc1=>?_) (λc1=>?_)
 ·refine T.aO (aB G G (Rg.aZ G G (aM ?_)));exact Uj G G G ⟨s1,λh=>absurd h c1,λ_=>G⟩
 ·have vS:=db.1 c1;refine aR (T.aO (dp (places:=[(0,1),(1,1),(2,1)]) eG ajY aj0 G G (out:=[.slice none 0 0,.slice none 0 0,.int .i64 0]) G ?_));refine iP M G G (λbx w2 Lk awu hX s2=>?_);change w2.heap[bx]? =some (.cells #[.slice none 0 0,.slice none 0 0,.int .i64 0] 296 (0,0))at hX;refine ek (ins M bx) tY G (λbo w3 hbo awv hO s3=>?_);refine ch (M:=ins (ins M bx) bo) tY G G hO G G (.inl G) (λw4 hO4 s4=>?_);refine ad (T.aO ?_);refine ek (ins (ins M bx) bo) I3 G (λbl w5 awx ar0 hL s5=>?_);refine ch (M:=ins (ins (ins M bx) bo) bl) I3 G G hL G G (.inl G) (λw6 hL6 s6=>?_);have z1:=s1.size;have z2:=s2.size;have z3:=s3.size;have z4:=s4.size;have z5:=s5.size;have z6:=s6.size;have S6:Step M w0 (ins (ins (ins M bx) bo) bl) w6 ar:=((((s1.av s2).av s3).cq s4 (λk hk=>by subst hk;omega)).av s5).cq s6 (λk hk=>by subst hk;omega);have hO6:=s6.bL (s5.ay hO4) (show bo≠bl by omega);have JD:=s6.bL (s5.ay (s4.bL (s3.ay hX) (show bx≠bo by omega))) (show bx≠bl by omega);refine ad (aI (T.aO (ab G G ?_)));refine aJ G G akl (JB (M:=ins (ins (ins M bx) bo) bl) (S6.lt hM) (hv.le S6.le)) (λr w7 h7=>?_);obtain⟨bs,bn,rfl,hS7,hN7,hbs,hbn,s7⟩:=h7;have z7:=s7.size;have awA:=ae hS7;have awB:=ae hN7;refine ad (aT ?_);refine T.range (gf:=265) (lb:=[.pointer (some ⟨bs,0,none⟩),.pointer (some ⟨bn,0,none⟩)].toArray) G akt (λrec qS=>?_);obtain⟨D,hD⟩:∃D,D=w7.heap.size:=⟨_,rfl⟩;rw[<-hD]at qS ⊢
  have h0:Rm M w0 l v bo bx bl D bs bn (.loop (rec .ready none)) 0 ((w7.alloc (.deferred (some []))).alloc (.loop (rec .ready none))):=by
   rw[hD]at qS ⊢;exact aaj (w2:=w7) (w3:=w7) (w5:=w7) S6 s7 hM q0 q0 q0 q0 q0 q0 hO6 JD hL6 hS7 hN7 hbs hbn q0 q0 q0
  refine Spec.mono (GU (M:=M) (wv:=w0) (J:=Rm M w0 l v bo bx bl D bs bn (.loop (rec .ready none))) (Jx:=λ_=>False) hv (λi w w' ⟨M1,vb,vk,h,h2⟩ s=>⟨M1,vb,vk,h.step (s.any M1),h2⟩) (λi w ⟨M1,vb,vk,h,h2⟩=>⟨h.s,h.n⟩) (λi wr u hJ hi hu=>?_) h0) (λ_ w3 h3=>?_)
  ·obtain⟨M1,vb,vk,h,hi8,sk⟩:=hJ;refine oG (ps:=[17]) (vs:=[u]) qS h.r G XT (aN (Rg.aZ G G (⟨G,h.r,?_⟩)));have h1:=h.nv (st':= .loop (rec .busy none)) h.r;generalize wr.putObj (D+1) _=wB at h1 ⊢;have hO:=h1.o;have hX:=h1.x;have hL:=h1.l;have hB:=h1.hb;have eZ:=h1.lt;have tJ:((l.drop i).take 8).length<=8:=by rw[bF];omega
   have awC:((l.drop i).take 8).length=min 8 (l.length-i):=by rw[bF,dR]
   obtain⟨q1,q2,q3,q4,q5,q6,q7,q8,q9,q10,q11,q12,q13,q14,q15,q16,q17,q18⟩:=h1.ne;refine aT (aI ?_);apply T.KC (M:=M1) (n:=85) _ mixed [] [cw.eq _,cw.eq _,cw.eq _,cw.eq _,cw.eq _,cw.eq _,cw.eq _,cw.eq _,cw.eq _,cw.mk' (λp w'=>∃bq,p= .pointer (some ⟨bq,0,none⟩)/\wB.heap.size<=bq/\w'.heap[bq]? =some (.cells #[.int .i64 0,.int .i64 0,.int .i64 0,.int .i64 0] 301 (0,0))) (fun⟨bq,h1,h2,h3⟩ s=>⟨bq,h1,h2,s.ay h3⟩)]
   ·rfl
   ·rfl
   ·rfl
   ·rfl
   ·exact a90
   ·exact sf
   ·refine az ?_ ?_
    ·intro wD E sD;refine aA dT G G G (cg sD a00) G ?_;exact a02
    refine az ?_ ?_
    ·intro wD E sD;refine aw (aL G ⟨_,G⟩ G ?_);exact a02
    refine az ?_ ?_
    ·intro wD E sD;refine aw (aK eG G G FJ XT G G ?_);exact a02
    refine az ?_ ?_
    ·intro wD E sD;refine aw (aA bW G G G (cg sD a00) G ?_);exact a02
    refine az ?_ ?_
    ·intro wD E sD;refine aw ?_
     first|refine bB bW rfl a00 rfl ?_|refine jQ bW rfl a00 rfl ?_
     exact a02
    refine az ?_ ?_
    ·intro wD E sD;refine aA aj G G G (cg sD a00) G ?_;exact a02
    refine az ?_ ?_
    ·intro wD E sD;refine ab G G ?_;exact a02
    refine az ?_ ?_
    ·intro wD E sD;refine aw ?_
     first|refine bB bC rfl a00 rfl ?_|refine jQ bC rfl a00 rfl ?_
     exact a02
    refine az ?_ ?_
    ·intro wD E sD;refine aw (aw (aw (dp (places:=[(0,1),(1,1),(2,1),(3,1)]) mg BX aj1 rfl ⟨_,_,rfl,rfl,_,_,rfl,rfl,_,_,rfl,rfl,rfl⟩ (out:=[.int .i64 (eH (-1) (l.take i)).length,.int .i64 (cQ (-1) (l.take i)),.int .i64 0,.int .i64 ((l.drop i).take 8).length]) ⟨0,[_],rfl,rfl,by simp[Value.cells],1,[_],rfl,rfl,by simp[Value.cells],3,[_],rfl,rfl,by simp[Value.cells],rfl⟩ ?_)));exact a02
    refine az ?_ ?_
    ·intro wD E sD;refine ek M1 BX G (λbq wq e1 e2 e3 s=>?_);exact ad ⟨G,G,_,G,⟨bq,G,ep sD.size e1,e3⟩,s.back⟩
    exact kA
   ·intro wD7 sD7;refine aw (aw (aw (aw (aw (aw (aw (aw (aw ?_))))))));intro awO afw;obtain⟨bq,rfl,Yg,hq2⟩:=afw;have Wy:=ae hq2;have sQ:Step M1 wB (ins M1 bq) wD7 ar:=sD7.own Yg Wy;refine dX (M:=ins M1 bq) (vs:=[.int .i64 (eH (-1) (l.take i)).length,.int .i64 (cQ (-1) (l.take i)),.int .i64 0,.int .i64 ((l.drop i).take 8).length]) BX G G (by intro x hx;simp at hx;rcases hx with rfl|rfl|rfl|rfl<;>rfl) rfl rfl hq2 (.inl rfl) (λwQ hQ sQ2=>?_);refine ad ⟨G,?_⟩;have h2:=h1.step (sQ.cq sQ2 (λk hk=>by subst hk;exact Yg));have hqv:∀k,vk.ownBlock=some k->k≠bq:=λk hk=>by have:=(h1.hk.base k hk).2;omega
    have hDq:D+1<bq:=by have:=ae h1.r;omega
    have h3:nW M w0 v bo bx bl D bs bn (.loop (rec .busy none)) vb vk (jD (l.take (i+0))) (cQ (-1) (l.take (i+0))) (eH (-1) (l.take (i+0))) (qq l ((i+7)/8)) (ins M1 bq) wQ:=h2;obtain⟨M2,Og⟩:∃M2,M2=ins M1 bq:=⟨_,rfl⟩;rw[<-Og]at h3;refine aI (T.aO (ab G G ?_))
    first|refine bB bC rfl a00 rfl ?_|refine jQ bC rfl a00 rfl ?_
    refine ab G G (ad (aT ?_));refine cR (σ:=Nat×Value) (λs=>[(4,.pointer (some ⟨bo,0,none⟩)),(5,.pointer (some ⟨bl,0,none⟩)),(6,u),(7,.pointer (some ⟨bq,0,none⟩)),(27,u),(28,.int .i64 ((l.drop i).take 8).length),(29,.int .i64 s.1)]) (λs w=>s.1<=((l.drop i).take 8).length/\w.heap[bq]? =some (.cells #[.int .i64 (eH (-1) (l.take i)).length,.int .i64 (cQ (-1) (l.take i)),.int .i64 0,.int .i64 ((l.drop i).take 8).length] 301 (0,0))/\nW M w0 v bo bx bl D bs bn (.loop (rec .busy none)) s.2 vk (jD (l.take (i+s.1))) (cQ (-1) (l.take (i+s.1))) (eH (-1) (l.take (i+s.1))) (qq l ((i+7)/8)) M2 w) (λs=>((l.drop i).take 8).length-s.1) (0,vb) a81 ?_ ?_
    ·exact⟨bm _,hQ,h3⟩
    ·rintro⟨j,vb⟩ wj ⟨hj,hQ,h4⟩;dsimp only at hj hQ h4 ⊢;have eZ:=h4.lt;refine T.aO (ck G G G (ad (aI ?_)));refine bI G (λc9=>?_) (λc9=>?_)
     ·refine aR (aI (aT (T.aO ?_)));obtain⟨⟨d,ps⟩,hx⟩:∃x,l[i+j]? =some x:=⟨_,an q0⟩;obtain⟨f1,f2,f3,f4,f5,f6⟩:=qU vS hx;obtain⟨f7,f8⟩:=px.1 f4;have fps:=qm _ (ax hx);have fb:=nT l (i+j);have ft:=Fs l (i+j);have ft2:=Fs l (i+j+1);rw[zT hx]at ft2;have ftk:=zS (-1) hx;have ftl:=nT l (i+j+1);simp only at fps;refine cx bC jl G G G (hu.le h4.S.le) b4 q0 (λPT GV AX AB=>?_);obtain rfl:(d,ps)=GV:=dV (aF (AX.symm.trans (by rw[aq,dE,if_pos q0,lF];exact hx)));refine bZ (M:=M2) (A:=RT.po) cv G jl XT G G G a00 (by repeat (first|exact bN _ _|refine bp (bO a00) ?_)) (λaem PU=>?_);refine jR (A:=RT.po) (M:=M2) jl G G G G G a00 (by repeat (first|exact bN _ _|refine bp (bO a00) ?_)) a56 (λafx afy xS vU afz=>?_);refine ad (aI ?_);have h5:=h4.step vU;have hO:=h5.o;have hX:=h5.x;have hL:=h5.l;have hB:=h5.hb;have eZ:=h5.lt;have hp0:=xS;apply T.KC (M:=M2) (n:=85) _ mixed [] [cw.eq _,cw.eq _,cw.eq _,cw.eq _,cw.eq _,cw.ptr (RT.int .i64) d,cw.eq (.int .i64 d),cw.eq _,cw.eq _,cw.eq (.int .i64 (((d-cQ (-1) (l.take (i+j))-1).toNat:Nat):Int)),cw.V (RT.u8.sl) (eH (-1) (l.take (i+j))++put (d-cQ (-1) (l.take (i+j))-1).toNat),cw.eq _,cw.eq _]
      ·rfl
      ·rfl
      ·rfl
      ·rfl
      ·exact a90
      ·exact sf
      ·refine az ?_ ?_
       ·intro wD E sD;refine aA dT G G G (cg sD a00) G ?_;exact a02
       refine az ?_ ?_
       ·intro wD E sD;refine aA dT G G G (cg sD a00) G ?_;exact a02
       refine az ?_ ?_
       ·intro wD E sD;refine aw (aL G ⟨_,G⟩ G ?_);exact a02
       refine az ?_ ?_
       ·intro wD E sD;refine aw (aK eG G G FJ XT G G ?_);exact a02
       refine az ?_ ?_
       ·intro wD E sD;refine aw (aA bW G G G (cg sD a00) G ?_);exact a02
       refine az ?_ ?_
       ·intro wD E sD;refine au (M:=M2) (A:=RT.po) (B:=RT.int .i64) cv G G I3 XT (TP) G G XT a00 (by repeat (first|exact bN _ _|refine bp (bO a00) ?_)) (λar5 amV=>?_);exact ad ⟨G,G,_,G,by assumption,aV⟩
       refine az ?_ ?_
       ·intro wD E sD;intro v5 qK;refine bV (M:=M2) aj G G a00 (by repeat (first|exact bN _ _|refine bp (bO a00) ?_)) (λamW=>?_);exact a02
       refine az ?_ ?_
       ·intro wD E sD;refine aA aj G G G (cg sD a00) G ?_;exact a02
       refine az ?_ ?_
       ·intro wD E sD;refine aw (aw (jy G G G q0 ?_));exact a02
       refine az ?_ ?_
       ·intro wD E sD;refine aw (jy G G G q0 (aY (v':= .int .i64 (((d-cQ (-1) (l.take (i+j))-1).toNat:Nat):Int)) (by congr 1;omega) ?_));exact a02
       refine az ?_ ?_
       ·intro wD E sD;refine aw (aw ?_);refine aJ G G YB (Q7 (M:=M2) (sD.lt eZ) (hB.le sD.le) q0 q0) (λrP wP hP=>?_);exact ad ⟨G,G,_,G,hP.2,hP.1⟩
       refine az ?_ ?_
       ·intro wD E sD;refine aw (aw (aw (aw (aw (aw ?_)))));intro v5 qK;refine aw (aw (aw (aw ?_)));intro v10 uw;refine aL G ⟨_,G⟩ G ?_;exact a02
       refine az ?_ ?_
       ·intro wD E sD;refine aw (aw (aw (aw (aw (aw ?_)))));intro v5 qK;refine aw (aw (aw (aw ?_)));intro v10 uw;refine aK eG G G FJ XT G G ?_;exact a02
       exact kA
      ·intro B1 dZ;refine aw (aw (aw (aw (aw ?_))));intro ar6 amX;refine aw (aw (aw (aw ?_)));intro Rn zn;refine aw (aw ?_);have h6:=h5.step dZ;have hp6:=hp0.le XT dZ.le;refine ch (M:=M2) FJ G G h6.x G (jL zn G G) h6.mx (λUB Eo pC=>?_);refine ad ⟨G,?_⟩;have h7:=h6.aag pC Eo (RT.V.le pC.le zn) h6.hk;have hp7:=hp6.le XT pC.le;refine aI ?_;have hO:=h7.o;have hX:=h7.x;have hB:=h7.hb;have eZ:=h7.lt;have fbl:(eH (-1) (l.take (i+j))++put (d-cQ (-1) (l.take (i+j))-1).toNat).length<=35184372088832:=by rw[ftk]at ftl;simp only[bU]at ftl ⊢;omega
       apply T.Wv (M:=M2) mixed [(13,λk=>k=bx)] [cw.eq _,cw.eq _,cw.eq _,cw.eq _,cw.eq _,cw.ptr ((RT.int .i64).sl) ps,cw.V ((RT.int .i64).sl) ps,⟨λt w=>∃x,t= .tuple #[x,.int .i64 0]/\(RT.u8.sl).V M2 w (eH (-1) (l.take (i+j))++put (d-cQ (-1) (l.take (i+j))-1).toNat++ff ps) x,LX,fun⟨x,h1,h2⟩ s _=>⟨x,h1,h2.le s.le⟩⟩,⟨λt w=>∃x,t= .tuple #[x,.int .i64 0]/\(RT.u8.sl).V M2 w (eH (-1) (l.take (i+j))++put (d-cQ (-1) (l.take (i+j))-1).toNat++ff ps) x,LX,fun⟨x,h1,h2⟩ s _=>⟨x,h1,h2.le s.le⟩⟩,cw.V (RT.u8.sl) (eH (-1) (l.take (i+j))++put (d-cQ (-1) (l.take (i+j))-1).toNat++ff ps),cw.eq (.int .i64 0),cw.eq _,cw.eq _,⟨λ_ w=>∃x,w.heap[bx]? =some (.cells #[x,vk,.int .i64 (jD (l.take (i+j)))] 296 (0,0))/\(RT.u8.sl).V M2 w (eH (-1) (l.take (i+j))++put (d-cQ (-1) (l.take (i+j))-1).toNat++ff ps) x,λk=>k≠bx,fun⟨x,h1,h2⟩ s hN=>⟨x,s.bL h1 (λhb=>hN _ hb rfl),h2.le s.le⟩⟩]
       ·rfl
       ·intro p hp b hb;simp only[cO]at hp;subst hp
        cases hb;exact h7.mx
       ·exact⟨λ_ _ _ _=>trivial,⟨λ_ _ _ _=>trivial,⟨λ_ _ _ _=>trivial,⟨λ_ _ _ _=>trivial,⟨λ_ _ _ _=>trivial,⟨λ_ _ _ _=>trivial,⟨λ_ _ _ _=>trivial,⟨λ_ _ _ _=>trivial,⟨λ_ _ _ _=>trivial,⟨λ_ _ _ _=>trivial,⟨λ_ _ _ _=>trivial,⟨λ_ _ _ _=>trivial,⟨λ_ _ _ _=>trivial,⟨λp hp=>by simp at hp,trivial⟩⟩⟩⟩⟩⟩⟩⟩⟩⟩⟩⟩⟩⟩
       ·refine aH ?_ ?_
        ·intro wD E sD;replace sD:Step M2 _ M2 wD ar:=sD;refine aA dT G G G (cg sD a00) G ?_;exact a02
        refine aH ?_ ?_
        ·intro wD E sD;replace sD:Step M2 _ M2 wD ar:=sD;refine aA dT G G G (cg sD a00) G ?_;exact a02
        refine aH ?_ ?_
        ·intro wD E sD;replace sD:Step M2 _ M2 wD ar:=sD;refine aw (aL G ⟨_,G⟩ G ?_);exact a02
        refine aH ?_ ?_
        ·intro wD E sD;replace sD:Step M2 _ M2 wD ar:=sD;refine aw (aK eG G G FJ XT G G ?_);exact a02
        refine aH ?_ ?_
        ·intro wD E sD;replace sD:Step M2 _ M2 wD ar:=sD;refine aw (aA bW G G G (cg sD a00) G ?_);exact a02
        refine aH ?_ ?_
        ·intro wD E sD;replace sD:Step M2 _ M2 wD ar:=sD;refine au (M:=M2) (A:=RT.po) (B:=(RT.int .i64).sl) cv G G l4 XT Yp G G XT hp7 sD.le (λuf sH=>?_);exact a73
        refine aH ?_ ?_
        ·intro wD E sD;replace sD:Step M2 _ M2 wD ar:=sD;intro v5 qK;refine bM ao G G G G G (show cG ((RT.int .i64).sl) M2 wD v5 ps from qK) b4 (λuf sH=>?_);exact a73
        refine aH ?_ ?_
        ·intro wD E sD;replace sD:Step M2 _ M2 wD ar:=sD;refine aw ?_;intro v6 oR;refine aJ G G akm (AT (M:=M2) (sD.lt eZ) (hB.le sD.le) (show((RT.int .i64).sl).V M2 wD ps v6 from oR) q0) (λrP wP hP=>?_);obtain⟨xP,sP,hP1,hP2⟩:=hP;rw[if_pos f7]at hP1 hP2;exact ad ⟨G,G,_,G,⟨xP,hP1,hP2⟩,sP⟩
        refine aH ?_ ?_
        ·intro wD E sD;replace sD:Step M2 _ M2 wD ar:=sD;intro v7 Jf;refine ab G G ?_;exact ad ⟨G,G,_,G,Jf,aV⟩
        refine aH ?_ ?_
        ·intro wD E sD;replace sD:Step M2 _ M2 wD ar:=sD;intro v8 E6;obtain⟨xP,rfl,hP2⟩:=E6;refine b9 G G G ?_;exact ad ⟨G,G,_,G,hP2,aV⟩
        refine aH ?_ ?_
        ·intro wD E sD;replace sD:Step M2 _ M2 wD (λk=>k=bx):=sD;intro v8 E6;obtain⟨xP,rfl,hP2⟩:=E6;refine b9 G G G ?_;exact a02
        refine aH ?_ ?_
        ·intro wD E sD;replace sD:Step M2 _ M2 wD (λk=>k=bx):=sD;refine aw (aw (aw (aw (aw (aw ?_)))));intro v5 qK;intro v6 oR;intro v7 Jf;intro v8 E6;intro v9 MU;refine aL G ⟨_,G⟩ G ?_;exact a02
        refine aH ?_ ?_
        ·intro wD E sD;replace sD:Step M2 _ M2 wD ar:=sD;refine aw (aw (aw (aw (aw (aw ?_)))));intro v5 qK;intro v6 oR;intro v7 Jf;intro v8 E6;intro v9 MU;refine aK eG G G FJ XT G G ?_;exact a02
        refine aH ?_ ?_
        ·intro wD E sD;replace sD:Step M2 _ M2 wD ar:=sD;refine aw ?_;intro v9 MU;intro v7 Jf;refine aw (aw (aw (aw (aw ?_))));intro v5 qK;intro v6 oR;intro v7 Jf;intro v8 E6;intro v9 MU;refine ch (M:=M2) FJ G G (cg sD hX) G (jL (A:=RT.u8.sl) MU G G) h7.mx (λwS hXS sS=>?_);exact ad ⟨G,G,undef,G,⟨_,hXS,RT.V.le (A:=RT.u8.sl) sS.le MU⟩,sS⟩
        exact sd
       ·intro JE o0;replace o0:Step M2 _ M2 JE (λk=>k=bx):=o0;refine aw (aw (aw (aw (aw ?_))));intro ar8 amY;intro ar9 amZ;intro asa am0;intro asb am1;intro asc am2;refine aw (aw (aw ?_));intro am3 Vr;obtain⟨v12,JF,am4⟩:=Vr;have h8:=h7.aag o0 JF am4 h7.hk;have hp8:=hp7.le XT o0.le;refine aI ?_;have hO:=h8.o;have hX:=h8.x;apply T.KC (M:=M2) (n:=85) _ mixed [] [cw.eq _,cw.eq _,cw.eq _,cw.eq _,cw.ptr ((RT.int .i64).sl) ps,cw.V ((RT.int .i64).sl) ps,cw.eq (.int .i64 ps.length),cw.eq _,cw.eq _,cw.eq _]
        ·rfl
        ·rfl
        ·rfl
        ·rfl
        ·exact a90
        ·exact sf
        ·refine az ?_ ?_
         ·intro wD E sD;refine aA dT G G G (cg sD a00) G ?_;exact a02
         refine az ?_ ?_
         ·intro wD E sD;refine aw (aL G ⟨_,G⟩ G ?_);exact a02
         refine az ?_ ?_
         ·intro wD E sD;refine aw (aK eG G G I3 XT G G ?_);exact a02
         refine az ?_ ?_
         ·intro wD E sD;refine aw (aA aj G G G (cg sD a00) G ?_);exact a02
         refine az ?_ ?_
         ·intro wD E sD;refine au (M:=M2) (A:=RT.po) (B:=(RT.int .i64).sl) cv G G l4 XT Yp G G XT hp8 sD.le (λuf sH=>?_);exact a73
         refine az ?_ ?_
         ·intro wD E sD;intro v4 qb;refine bM ao G G G G G (show cG ((RT.int .i64).sl) M2 wD v4 ps from qb) b4 (λuf sH=>?_);exact a73
         refine az ?_ ?_
         ·intro wD E sD;intro v5 qK;refine bB ao G (show((RT.int .i64).sl).V M2 wD ps v5 from qK) G ?_;exact a02
         refine az ?_ ?_
         ·intro wD E sD;refine aw (aw (br G G G q0 ?_));exact a02
         refine az ?_ ?_
         ·intro wD E sD;refine aw (aw (aw (aw (aw ?_))));intro v4 qb;intro v5 qK;refine aw (aw (aL G ⟨_,G⟩ G ?_));exact a02
         refine az ?_ ?_
         ·intro wD E sD;refine aw (aw (aw (aw (aw ?_))));intro v4 qb;intro v5 qK;refine aw (aw (aK eG G G I3 XT G G ?_));exact a02
         exact kA
        ·intro PV jm;refine aw (aw (aw (aw ?_)));intro ase am5;intro KX xD;refine aw (aw (aw (aw ?_)));have h9:=h8.step jm;refine ch (M:=M2) I3 G G h9.x G G h9.mx (λVi Ro oh=>?_);refine ad ⟨G,?_⟩;have Ng:=h9.aag oh Ro (h9.hb.le oh.le) h9.hk;have am6:=(hp8.le XT jm.le).le XT oh.le;refine aN ?_;refine au (A:=RT.po) (B:=RT.int .i64) cv G G I3 XT TP G G XT am6 b4 (λasf aal=>?_);refine bV aj G G aal b4 (λ_=>?_);refine aY (v':= .int .i64 d) G ?_;refine ch (M:=M2) I3 G G Ng.l G G Ng.ml (λOi am7 iO=>?_);have h11:=Ng.Vq iO am7;refine ad (aN (br G G G q0 (ab G G (ad ?_))));refine⟨G,(j+1,v12),a81,?_,?_⟩
         ·refine⟨by simp only;omega,?_,?_⟩
          ·exact iO.bL (oh.bL (jm.ay (o0.bL (pC.bL (dZ.ay (vU.ay hQ)) q0) q0)) q0) q0
          ·simp only;rw[show i+(j+1)=i+j+1 from by omega,zT hx,f5,ftk];exact h11
         ·simp only;omega
     ·refine cE (T.aO ?_);obtain rfl:j=((l.drop i).take 8).length:=by omega
      have hbq:M2 bq:=by rw[Og];exact .inl G
      refine aA aj G G G h4.l G (aK (o':=2) mg G G I3 XT G G ?_);refine ch (M:=M2) I3 G G hQ G G hbq (λXk afB JG=>?_);have h16:=h4.other JG hDq hqv;change Xk.heap[bq]? =some (.cells [.int .i64 (eH (-1) (l.take i)).length,.int .i64 (cQ (-1) (l.take i)),.int .i64 (cQ (-1) (l.take (i+((l.drop i).take 8).length))),.int .i64 ((l.drop i).take 8).length].toArray 301 (0,0))at afB;refine ad ?_;have hO:=h16.o;have hX:=h16.x;have Vs:=h16.hk;have iZ:∀k,vk.ownBlock=some k->k≠bo:=λk hk=>by have:=(Vs.base k hk).1;omega
      have awV:=ae h16.r;have g1:=kV l (-1) vS q0 i;have g2:=kV l (-1) vS q0 (i+((l.drop i).take 8).length);have g3:=nT l i;apply T.KC (M:=M2) (n:=85) _ mixed [(7,λk=>vk.ownBlock=some k)] [cw.eq _,cw.eq _,cw.eq _,cw.eq _,cw.eq _,cw.eq (.agg [.int .i64 (eH (-1) (l.take i)).length,.int .i64 (cQ (-1) (l.take i)),.int .i64 (cQ (-1) (l.take (i+((l.drop i).take 8).length))),.int .i64 ((l.drop i).take 8).length].toArray),cw.V ((RT.bl).sl) [(((eH (-1) (l.take i)).length:Int),cQ (-1) (l.take i),cQ (-1) (l.take (i+((l.drop i).take 8).length)),(((l.drop i).take 8).length:Int))],⟨λt w=>∃M3,Own RT.bl 301 M3 w (D+2) t (qq l ((i+7)/8)++[(((eH (-1) (l.take i)).length:Int),cQ (-1) (l.take i),cQ (-1) (l.take (i+((l.drop i).take 8).length)),(((l.drop i).take 8).length:Int))])/\Step M2 Xk M3 w (λk=>vk.ownBlock=some k),ar,fun⟨M3,h1,h2⟩ s hN=>⟨M3,h1.bD ((s.dF hN a15).any M3),h2.av ((s.dF hN a15).any M3)⟩⟩,cw.eq _,cw.eq _]
      ·rfl
      ·rfl
      ·rfl
      ·rfl
      ·intro p hp b hb;simp only[cO]at hp;subst hp;exact Vs.mut_ b hb
      ·exact⟨λ_ _ _ _=>trivial,⟨λ_ _ _ _=>trivial,⟨λ_ _ _ _=>trivial,⟨λ_ _ _ _=>trivial,⟨λ_ _ _ _=>trivial,⟨λ_ _ _ _=>trivial,⟨λ_ _ _ _=>trivial,⟨λp hp=>by simp at hp,⟨λ_ _ _ _=>trivial,⟨λ_ _ _ _=>trivial,trivial⟩⟩⟩⟩⟩⟩⟩⟩⟩⟩
      ·refine az ?_ ?_
       ·intro wD E sD;replace sD:Step M2 _ M2 wD (λk=>vk.ownBlock=some k):=sD;refine aA dT G G G (sD.bL hO (λhb=>iZ _ hb rfl)) G ?_;exact a02
       refine az ?_ ?_
       ·intro wD E sD;replace sD:Step M2 _ M2 wD (λk=>vk.ownBlock=some k):=sD;refine aA dT G G G (sD.bL hO (λhb=>iZ _ hb rfl)) G ?_;exact a02
       refine az ?_ ?_
       ·intro wD E sD;replace sD:Step M2 _ M2 wD (λk=>vk.ownBlock=some k):=sD;refine aw (aL G ⟨_,G⟩ G ?_);exact a02
       refine az ?_ ?_
       ·intro wD E sD;replace sD:Step M2 _ M2 wD (λk=>vk.ownBlock=some k):=sD;refine aw (aK eG G G Iz XT G G ?_);exact a02
       refine az ?_ ?_
       ·intro wD E sD;replace sD:Step M2 _ M2 wD ar:=sD;refine aw (aA fz G G G (cg sD a00) G ?_);exact a02
       refine az ?_ ?_
       ·intro wD E sD;replace sD:Step M2 _ M2 wD (λk=>vk.ownBlock=some k):=sD;refine eQ (vs:=[.int .i64 (eH (-1) (l.take i)).length,.int .i64 (cQ (-1) (l.take i)),.int .i64 (cQ (-1) (l.take (i+((l.drop i).take 8).length))),.int .i64 ((l.drop i).take 8).length]) mg G BX G G G (sD.bL afB (λhb=>hqv _ hb rfl)) ?_;exact a02
       refine az ?_ ?_
       ·intro wD E sD;replace sD:Step M2 _ M2 wD ar:=sD;refine aw ?_;refine fm (A:=RT.bl) (hn:=by decide) (M:=M2) fz BX XT G G (sD.lt h16.lt) (ajR q0 q0 q0 q0) (.inl G) (λuS wS hS sS=>?_);exact ad ⟨G,G,_,G,hS,sS⟩
       refine az ?_ ?_
       ·intro wD E sD;replace sD:Step M2 _ M2 wD ar:=sD;refine aw ?_;intro v6 oR;refine dA (M:=M2) (base:=D+2) fz BX rfl rfl rfl rfl (Vs.bD sD) (show((RT.bl).sl).V M2 wD [(((eH (-1) (l.take i)).length:Int),cQ (-1) (l.take i),cQ (-1) (l.take (i+((l.drop i).take 8).length)),(((l.drop i).take 8).length:Int))] v6 from oR) b4 (by simp[qq];omega) (by simp[qq];omega) (by have:=sD.size;omega) (λv3 M3 w3 TV s3=>?_);exact ad ⟨G,G,_,G,⟨M3,TV,(sD.dF a15 Vs.mut_).trans s3 (λb _ hb=>hb)⟩,s3.back⟩
       refine az ?_ ?_
       ·intro wD E sD;replace sD:Step M2 _ M2 wD (λk=>vk.ownBlock=some k):=sD;refine aw (aw (aw (aw (aw (aw (aw ?_))))));intro v6 oR;intro v7 Jf;refine aL G ⟨_,G⟩ G ?_;exact a02
       refine az ?_ ?_
       ·intro wD E sD;replace sD:Step M2 _ M2 wD (λk=>vk.ownBlock=some k):=sD;refine aw (aw (aw (aw (aw (aw (aw ?_))))));intro v6 oR;intro v7 Jf;refine aK eG G G Iz XT G G ?_;exact a02
       exact kA
      ·intro am8 afC;replace afC:Step M2 _ M2 am8 (λk=>vk.ownBlock=some k):=afC;refine aw (aw (aw (aw (aw (aw ?_)))));intro asg am9;intro ash aam;refine aw (aw ?_);obtain⟨M3,TV,sR⟩:=aam;obtain⟨⟨hx3,hm3,awX⟩,X8⟩:=h16.grow sR TV;refine ch (M:=M3) Iz rfl rfl hx3 rfl (by obtain⟨_,_,he,_⟩:=TV.isSlice;rw[he];rfl) hm3 (λw17 ana s17=>?_);refine ad ⟨G,?_⟩;have Z6:=X8 s17 ana;have h18:=Z6.nv (st':= .loop (rec .ready none)) Z6.r;have hE:i+((l.drop i).take 8).length=min (i+8) l.length:=by omega
       rw[hE,O2 q0 hi]at h18;exact⟨Z6.r,true,rfl,λ_=>⟨M3,_,_,h18,by omega,by omega⟩,λh=>by cases h⟩
  ·obtain⟨Mz,vb,vk,h,_,_⟩:=h3.resolve_right (λh=>h);left;rw[List.take_length]at h;have h5:=h.nv (st':= .loop (rec .exhausted none)) h.r;refine ⟨h.r,?_⟩;generalize w3.putObj (D+1) _=wE at h5 ⊢;refine T.aO (aA dT G G G h5.o G (aB G G (Rg.aZ G G (aM ?_))));obtain⟨q1,q2,q3,q4,q5,q6,q7,q8,q9,q10,q11,q12,q13,q14,q15,q16,q17,q18⟩:=h5.ne;have sZ:Step Mz wE Mz (wE.putObj D (.deferred none)) (λk=>k=D):=fD h5.md;have SZ:=h5.S.cq sZ (λk hk=>by subst hk;omega);have ht:=py l;refine Yl rfl rfl rfl h5.d ⟨SZ.back,λ_=>⟨_,rfl,?_⟩,λhf=>by rw[vS]at hf;cases hf⟩;exact adn (sZ.bL h5.x q0) (λhh=>by have:=hM _ hh;omega) ((h5.hb.le sZ.le).le (ni hM SZ)) (Own.close hM SZ ((h5.hk.step sZ (λk hk hh=>by have:=(h5.hk.base k hk).1;omega)).kD q0) (by simp[qq];omega)) q0
namespace TKBldG
theorem k4:TI Tryz.prog 117 (.slice none 0 0) 1 24:=by unfold TI;kernel_rfl
theorem FO:TI Tryz.prog 249 (.slice none 0 0) 1 24:=by unfold TI;kernel_rfl
theorem Vt:Enters Tryz.prog 155:=enters Tryz.func155 rfl XT
theorem YG:Enters Tryz.prog 196:=enters Tryz.func196 rfl XT
end TKBldG
open TKBldG
set_option maxRecDepth 10000
theorem index_spec {M:aE} {l:List (List Po)} {v0:Value} {g:FuncId} {cap:List Value} {B:Nat} {J:Nat->aE->World->Prop} {bad:List Po->Bool} (w0:World) (hM:Lt M w0) (hv:(((RT.po).sl).sl).V M w0 l v0) (hg:Enters Tryz.prog g) (hJ:J 0 M w0) (jV:∀i M w M' w',J i M w->Step M w M' w' ar->J i M' w') (ht:∀i M w x vx,J i M w->Lt M w->l[i]? =some x->((RT.po).sl).V M w x vx->Spec Tryz.prog g ([vx]++cap).toArray w (λv w'=>∃M',Lt M' w'∧v= .bool (bad x)/\(bad x=false->J (i+1) M' w')/\Step M w M' w' (lX M B))):
  Spec Tryz.prog 196 #[v0,.func (.func g) #[] cap.toArray] w0 (λv w=>∃M' k,v= .int .i64 k/\ -1<=k/\Lt M' w/\Step M w0 M' w (lX M B)/\(k= -1->(∀x∈l,bad x=false)/\J l.length M' w)/\(0<=k->∃x∈l,bad x=true)):=by
 have hlen:=dW hv;refine aS (args:=[_,_]) (fn:=Tryz.f196) Tryz.func196 G (n:=19) Tryz.ntmps196 ?_;have S:Step M w0 M w0 (lX M B):=(aV).dF a15 (λ_ h=>h.2);refine T.aO (Rg.aZ G G (aI (T.aO (ab G G (bB mc G hv G (ab G G (ad (aT ?_))))))));refine cR (σ:=Nat) (λq=>[(0,v0),(1,.func (.func g) #[] cap.toArray),(6,v0),(7,.int .i64 (l.length:Int)),(8,.int .i64 (q:Int))]) (λq w=>∃M',Lt M' w/\Step M w0 M' w (lX M B)/\(((RT.po).sl).sl).V M' w l v0/\J q M' w/\q<=l.length/\∀x∈l.take q,bad x=false) (λq=>l.length-q) 0 a34 ?_ ?_
 ·exact⟨M,hM,S,hv,hJ,bm _,λx h=>by simp at h⟩
 ·clear hM S hv hJ;rintro i w ⟨M1,hM,S,hv,hJ,hi,jj⟩;refine T.aO (ck G G G (ad (aI ?_)));refine bI G (λc2=>?_) (λc2=>?_)
  ·refine aR (aI (aT (T.aO (ab G G (Rg.aZ G G (T.aO (ab G G (ab G G ?_))))))));refine ab G G ?_;refine cx mc k4 G G G hv b4 q0 (λu x E4 hu=>?_);rw[aq]at E4;refine bM bC G G G G G hu b4 (λvx Ax=>?_);refine ng (first:=[]) (captured:=cap) (xs:=[.tmp 15]) G G G hg (ht i _ _ x vx hJ hM E4 Ax) (λr4 w4 hc=>?_);obtain⟨M4,hM4,rfl,hJ4,s4⟩:=hc;refine aY (v':= .bool (decide (bad x=true))) (by simp) ?_;have S4:=S.trans s4 (λk hk h=>⟨h.1,(S.mem k hk).1 h.2⟩);refine ad ?_;refine bI G (λc4=>?_) (λc4=>?_)
   ·refine T.aO (ab G G (Rg.aZ G G (aM ?_)));exact aP G G ⟨M4,_,G,by omega,hM4,S4,λh=>absurd h q0,λ_=>⟨x,ax E4,c4⟩⟩
   ·refine aR (aN (br G G G q0 (ab G G (ad ?_))));refine⟨G,i+1,a34,?_,?_⟩
    ·have hb:bad x=false:=by simpa using c4
     exact⟨M4,hM4,S4,hv.le s4.le,hJ4 hb,by omega,λy hy=>by
      rw[bQ,E4,cH,dN,cO]at hy;rcases hy with hy|rfl
      ·exact jj y hy
      ·exact hb⟩
    ·omega
  ·refine cE (T.aO (Rg.aZ G G (aM ?_)));rw[bg q0]at jj;have e:i=l.length:=by omega
   subst e;exact aP G G ⟨_,_,G,by omega,hM,S,λ_=>⟨jj,hJ⟩,λh=>absurd h q0⟩
theorem Cd {M:aE} {l:List (List Po)} {v0:Value} {g:FuncId} {cap:List Value} {B:Nat} {J:Nat->aE->World->Prop} {bad:List Po->Bool} (w0:World) (hM:Lt M w0) (hv:(((RT.po).sl).sl).V M w0 l v0) (hg:Enters Tryz.prog g) (hJ:J 0 M w0) (jV:∀i M w M' w',J i M w->Step M w M' w' ar->J i M' w') (ht:∀i M w x vx,J i M w->Lt M w->l[i]? =some x->((RT.po).sl).V M w x vx->Spec Tryz.prog g ([vx]++cap).toArray w (λv w'=>∃M',Lt M' w'∧v= .bool (bad x)/\(bad x=false->J (i+1) M' w')/\Step M w M' w' (lX M B))):
  Spec Tryz.prog 156 #[v0,.func (.func g) #[] cap.toArray] w0 (λv w=>∃M' k,v= .bool (decide (0<=k))/\ -1<=k/\Lt M' w/\Step M w0 M' w (lX M B)/\(k= -1->(∀x∈l,bad x=false)/\J l.length M' w)/\(0<=k->∃x∈l,bad x=true)):=by
 refine aS (args:=[_,_]) (fn:=Tryz.f156) Tryz.func156 G (n:=9) Tryz.ntmps156 (T.aO (Rg.aZ G G (T.aO (ab G G (ab G G ?_)))));refine aJ G G YG (index_spec w0 hM hv hg hJ jV ht) (λr w1 hc=>?_);obtain⟨M1,k,rfl,hk,h2⟩:=hc;refine eh G G G (Rg.aZ G G (aM ?_));exact aP G G ⟨M1,k,G,hk,h2⟩
def GW (x:List Po):Int:=match x.getLast? with|some p=>p.1|none=> -1
def nX (n:Int) (x:List Po):Bool:= !eN (-1) x||x.isEmpty||decide (n<=GW x)
theorem GX {x:List Po} {p:Po} (h:x[x.length-1]? =some p):GW x=p.1:=by
 unfold GW;rw[List.getLast?_eq_getElem?,h]
structure Room (x:List Po):Prop where
 ps:∀p∈x,p.2.length<=1099511627776
 by_:(eH (-1) x).length<=35184372088832
 ln:x.length<=1099511627776
 xh:jD x<=4611686018427387904
def RT.cell:RT Value where
 n:=1
 agg:=false
 R:=λ_ _ x vs=>vs=[x]/\x.oneCell'=true
 len:=by rintro _ _ x vs ⟨rfl,_⟩;rfl
 one:=by rintro _ _ x vs ⟨rfl,h⟩ v hv;simp at hv;subst hv;exact h
 le:=λ_ h=>h
theorem Vu {M:aE} {w:World} {v:Value} (h:v.oneCell'=true):RT.cell.V M w v v:=⟨[v],⟨rfl,h⟩,rfl⟩
theorem fY.cells {α:Type} {A:RT α} (hA:A.n=1) {M:aE} {w:World}:∀{xs:List α} {C:List Value},fY A M w xs C->∃ys:List Value,fY RT.cell M w ys C/\ys.length=xs.length
 |[],C,h=>⟨[],h,rfl⟩
 |x::xs,C,h=>by
  obtain⟨vs,r,h1,h2,h3⟩:=h;obtain⟨ys,h4,h5⟩:=fY.cells hA h3;have hl:=A.len h2
  match vs,hl,h1,h2 with
  |[v],_,h1,h2=>exact⟨v::ys,⟨[v],r,h1,⟨rfl,A.one h2 v (by simp)⟩,h4⟩,by simp[h5]⟩
  |[],hl,_,_=>simp at hl;omega
  |_::_::_,hl,_,_=>simp at hl;omega
theorem Own.cells {α:Type} {A:RT α} (hA:A.n=1) {e:TypeId} {M:aE} {w:World} {base:Nat} {v:Value} {xs:List α} (h:Own A e M w base v xs):∃ys:List Value,Own RT.cell e M w base v ys/\ys.length=xs.length:=by
 obtain⟨⟨C,hr,ha⟩,hm⟩:=h;obtain⟨ys,h1,h2⟩:=ha.cells hA;exact⟨ys,⟨⟨C,by rw[h2,show RT.cell.n=A.n from hA.symm];exact hr,h1⟩,hm⟩,h2⟩
def Ce (bl bn:Nat) (n:Int) (ls:List (List Po)) (B:Nat) (i:Nat) (M:aE) (w:World):Prop:=∃vl,w.heap[bl]? =some (.cells #[vl] 249 (0,0))/\M bl/\B<=bl/\w.heap[bn]? =some (.cells #[.int .i64 n] 3 (0,0))/\M bn/\Own ((RT.li).ptr) 250 M w B vl ((ls.take i).map j5)
theorem Ce.bD {bl bn:Nat} {n:Int} {ls:List (List Po)} {B i:Nat} {M M':aE} {w w':World} (h:Ce bl bn n ls B i M w) (s:Step M w M' w' ar):Ce bl bn n ls B i M' w':=by
 obtain⟨vl,h1,h2,h3,h4,h5,h6⟩:=h;exact⟨vl,s.ay h1,(s.mem _ (ae h1)).2 h2,h3,s.ay h4,(s.mem _ (ae h4)).2 h5,h6.bD s⟩
theorem aao {M:aE} {bl bn B i:Nat} {n:Int} {ls:List (List Po)} {x:List Po} {v0:Value} (w0:World) (hM:Lt M w0) (hB:B<=w0.heap.size) (hJ:Ce bl bn n ls B i M w0) (hx:ls[i]? =some x) (hv:((RT.po).sl).V M w0 x v0) (hr:Room x) (sk:i<=1000000000) (hm:eN (-1) x=true):
  Spec Tryz.prog 154 #[v0,.pointer (some ⟨bl,0,none⟩),.pointer (some ⟨bn,0,none⟩)] w0 (λv w=>∃M',Lt M' w/\v= .bool (nX n x)/\(nX n x=false->Ce bl bn n ls B (i+1) M' w)/\Step M w0 M' w (lX M B)):=by
 have hlen:=dW hv;obtain⟨vl,gl,k5,hBl,gn,mU,ho⟩:=hJ;have nln:bl≠bn:=λh=>by rw[h,gn]at gl;simp at gl
 refine aS (args:=[_,_,_]) (fn:=Tryz.f154) Tryz.func154 G (n:=34) Tryz.ntmps154 ?_;have S:Step M w0 M w0 (lX M B):=(aV).dF a15 (λ_ h=>h.2);refine T.aO (Rg.aZ G G (T.aO (ab G G ?_)));refine aJ G G Vt (xR hM hv hr.ps hr.by_ hr.ln hr.xh) (λr1 w1 hc=>?_);obtain⟨s1,fN,jj⟩:=hc;obtain⟨p,rfl,hp⟩:=fN hm;have:=ae gl;replace k5:=(s1.mem _ this).2 k5;replace gl:=s1.ay gl;have:=ae gn;replace mU:=(s1.mem _ this).2 mU;replace gn:=s1.ay gn;replace hv:=hv.le s1.le;replace ho:=ho.bD s1;replace hM:=s1.lt hM;have:=S.size;replace S:=S.av s1;refine ab G G (b9 G G G (b9 G G G (aB G G (Rg.aZ G G (T.aO (aA ey G G G gl G (aY (v':=vl) G (ab G G ?_))))))));refine fm (A:=((RT.li).ptr)) (hn:=by decide) (M:=M) ey tY XT G G hM (K9.2 hp) (.inr ⟨G,G⟩) (λanc ane mV qx=>?_);have:=ae gl;replace k5:=(qx.mem _ this).2 k5;replace gl:=qx.ay gl;have:=ae gn;replace mU:=(qx.mem _ this).2 mU;replace gn:=qx.ay gn;replace hv:=hv.le qx.le;replace hp:=hp.le XT qx.le;replace ho:=ho.bD qx;replace hM:=qx.lt hM;have:=S.size;replace S:=S.av qx;refine dA (M:=M) (base:=B) ey tY rfl rfl rfl rfl ho mV b4 a13 a13 ai2 (λaap JH anf Rp qz=>?_);have:=ae gl;replace k5:=(qz.mem _ this).2 k5;replace gl:=qz.bL gl (λh=>by first|exact ho.eT gl h|exact ho.fk gl XT h|(have:=(ho.base _ h).1;omega));have:=ae gn;replace mU:=(qz.mem _ this).2 mU;replace gn:=qz.bL gn (λh=>by first|exact ho.eT gn h|exact ho.fk gn XT h|(have:=(ho.base _ h).1;omega));replace hv:=hv.le qz.le;replace hp:=hp.le XT qz.le;replace mV:=mV.le qz.le;replace hM:=qz.lt hM;have:=S.size
 replace S:=S.trans qz (λk hk h=>⟨(ho.base k h).1,(S.mem k hk).1 (ho.mut_ k h)⟩);replace ho:=Rp;refine ch (M:=JH) FO rfl rfl gl rfl a84 k5 (λaaq Rq o2=>?_);change aaq.heap[_]? =some (Obj.cells #[aap] _ _)at Rq;have:=ae gl;replace k5:=(o2.mem _ this).2 k5;have:=ae gn;replace mU:=(o2.mem _ this).2 mU;replace gn:=o2.bL gn a05;replace hv:=hv.le o2.le;replace hp:=hp.le XT o2.le;replace mV:=mV.le o2.le;replace ho:=ho.step o2 (λc hc (h:c=bl)=>ho.fk gl XT (h▸hc));replace hM:=o2.lt hM;have:=S.size;replace S:=S.trans o2 (λk hk h=>by have h:_=_:=h;subst h;first|(exfalso;omega)|(show _<=_;omega)|exact⟨by first|omega|assumption,(S.mem _ hk).1 ((o2.mem _ (ae gl)).1 k5)⟩|exact .inl rfl|exact .inr rfl|exact .inr (.inl rfl)|exact .inr (.inr rfl)|exact .inr (.inr (.inl rfl))|exact rfl);have gl_:=Rq;clear gl;have gl:=gl_;clear gl_;refine ad (aI ?_);apply wW mixed rfl rfl;intro wD3 sA3;have qt:=sA3 JH;have:=ae gl;replace k5:=(qt.mem _ this).2 k5;replace gl:=qt.ay gl;have:=ae gn;replace mU:=(qt.mem _ this).2 mU;replace gn:=qt.ay gn;replace hv:=hv.le qt.le;replace hp:=hp.le XT qt.le;replace mV:=mV.le qt.le;replace ho:=ho.bD qt;replace hM:=qt.lt hM;have:=S.size;replace S:=S.av qt;refine ab G G (Rg.cI (eR G G G (Rg.cI (ab G G (Rg.cI (Rg.qO (g:=18) G (XT) (ah G G (ab G G (Rg.cI (ah G G (bB bC G hv G ?_)))))))))));refine Rg.cI (ah G G (gN G G G (Rg.cI (aD G G G (Rg.cI (ab G G (Rg.cI ?_)))))));refine aW (g:=23) G (λaar=>?_) (λaar=>?_)
 ·refine ak G G G G (Rg.cI (ak G G G G (Rg.cI (ak G G G G (Rg.cI (ak G G G G (Rg.cI (ak G G G G (Rg.cI (ak G G G G (Rg.cI ?_)))))))))));refine ak G G G G (Rg.cI (ak G G G G (Rg.cI (ak G G G G (Rg.cI (a8 G G G (Rg.cI (aB G G (Rg.cI (fB (aM ?_)))))))))))
  first
  |(have Rr:nX n x=true:=by
     have:x=[]:=dI.1 q0;simp[nX,this]
    rw[Rr];exact aP G G ⟨_,hM,G,(λh=>by cases h),S⟩)
  |(have fw:x.isEmpty=false:=by cases x with
     |nil=>simp at aar
     |cons a t=>rfl
    have hbv:nX n x=decide (n<=q.1):=by unfold nX;rw[hm,fw,GX hq];rfl
    rw[hbv];exact aP rfl rfl ⟨_,hM,rfl,λ_=>⟨_,gl,k5,hBl,gn,mU,by rw[bQ,hx,cH,ed];exact ho⟩,S⟩)
 ·refine ah G G (ab G G (Rg.cI (ah G G (ab G G (Rg.cI (ah G G (bB bC G hv G (Rg.cI (ah G G (jy G G G q0 (Rg.cI ?_)))))))))));refine ah G G ?_;obtain⟨q,hq⟩:∃q,x[x.length-1]? =some q:=⟨_,an q0⟩;refine cx bC jl G G G hv b4 q0 (λu3 a ZC lE=>?_);obtain rfl:q=a:=aF (hq.symm.trans (by rw[show((x.length:Int)-1).toNat=x.length-1 from by omega]at ZC;exact ZC));refine Rg.cI (ah G G ?_);refine au (M:=JH) (A:=RT.po) (B:=RT.int .i64) cv G G I3 XT (TP) G G XT a00 (by repeat (first|exact bN _ _|refine bp (bO a00) ?_)) (λasj anh=>?_);refine Rg.cI (ah G G ?_);refine bV (M:=JH) aj G G a00 (by repeat (first|exact bN _ _|refine bp (bO a00) ?_)) (λRs=>?_);refine aY (v':= .int .i64 (q.1)) G ?_;replace Rs: -9223372036854775808<=(q.1:Int)/\q.1<=9223372036854775807:=Rs;refine Rg.cI (ah G G (aA aj G G G gn G (aY (v':= .int .i64 n) G (Rg.cI (ah G G (eh G G G (Rg.cI (aD G G G (Rg.cI (aB G G (Rg.cI ?_)))))))))));refine fB (aM ?_)
  first
  |(have Rr:nX n x=true:=by
     have:x=[]:=dI.1 q0;simp[nX,this]
    rw[Rr];exact aP G G ⟨_,hM,G,(λh=>by cases h),S⟩)
  |(have fw:x.isEmpty=false:=by cases x with
     |nil=>simp at aar
     |cons a t=>rfl
    have hbv:nX n x=decide (n<=q.1):=by unfold nX;rw[hm,fw,GX hq];rfl
    rw[hbv];exact aP rfl rfl ⟨_,hM,rfl,λ_=>⟨_,gl,k5,hBl,gn,mU,by rw[bQ,hx,cH,ed];exact ho⟩,S⟩)
theorem Vv {M:aE} {bl bn B i:Nat} {n:Int} {ls:List (List Po)} {x:List Po} {v0:Value} (w0:World) (hM:Lt M w0) (hB:B<=w0.heap.size) (hJ:Ce bl bn n ls B i M w0) (hx:ls[i]? =some x) (hv:((RT.po).sl).V M w0 x v0) (hr:Room x) (sk:i<=1000000000) (hm:eN (-1) x=false):
  Spec Tryz.prog 154 #[v0,.pointer (some ⟨bl,0,none⟩),.pointer (some ⟨bn,0,none⟩)] w0 (λv w=>∃M',Lt M' w/\v= .bool (nX n x)/\(nX n x=false->Ce bl bn n ls B (i+1) M' w)/\Step M w0 M' w (lX M B)):=by
 have hlen:=dW hv;obtain⟨vl,gl,k5,hBl,gn,mU,ho0⟩:=hJ;have nln:bl≠bn:=λh=>by rw[h,gn]at gl;simp at gl
 obtain⟨ys,ho,hyl⟩:=ho0.cells rfl;rw[bT,bF]at hyl;clear ho0;refine aS (args:=[_,_,_]) (fn:=Tryz.f154) Tryz.func154 G (n:=34) Tryz.ntmps154 ?_;have S:Step M w0 M w0 (lX M B):=(aV).dF a15 (λ_ h=>h.2);refine T.aO (Rg.aZ G G (T.aO (ab G G ?_)));refine aJ G G Vt (xR hM hv hr.ps hr.by_ hr.ln hr.xh) (λr1 w1 hc=>?_);obtain⟨s1,fN,jj⟩:=hc;obtain rfl:=jj hm;have:=ae gl;replace k5:=(s1.mem _ this).2 k5;replace gl:=s1.ay gl;have:=ae gn;replace mU:=(s1.mem _ this).2 mU;replace gn:=s1.ay gn;replace hv:=hv.le s1.le;replace ho:=ho.bD s1;replace hM:=s1.lt hM;have:=S.size;replace S:=S.av s1;refine ab G G (b9 G G G (b9 G G G (aB G G (Rg.aZ G G (T.aO (aA ey G G G gl G (aY (v':=vl) G (ab G G ?_))))))));refine fm (A:=RT.cell) (hn:=by decide) (M:=M) ey tY XT G G hM (Vu (v:= .pointer none) G) (.inr ⟨G,G⟩) (λanc ane mV qx=>?_);have:=ae gl;replace k5:=(qx.mem _ this).2 k5;replace gl:=qx.ay gl;have:=ae gn;replace mU:=(qx.mem _ this).2 mU;replace gn:=qx.ay gn;replace hv:=hv.le qx.le;replace ho:=ho.bD qx;replace hM:=qx.lt hM;have:=S.size;replace S:=S.av qx;refine dA (M:=M) (base:=B) ey tY rfl rfl rfl rfl ho mV b4 a13 a13 ai2 (λaap JH anf Rp qz=>?_);have:=ae gl;replace k5:=(qz.mem _ this).2 k5;replace gl:=qz.bL gl (λh=>by first|exact ho.eT gl h|exact ho.fk gl XT h|(have:=(ho.base _ h).1;omega));have:=ae gn;replace mU:=(qz.mem _ this).2 mU;replace gn:=qz.bL gn (λh=>by first|exact ho.eT gn h|exact ho.fk gn XT h|(have:=(ho.base _ h).1;omega));replace hv:=hv.le qz.le;replace mV:=mV.le qz.le;replace hM:=qz.lt hM
 have:=S.size;replace S:=S.trans qz (λk hk h=>⟨(ho.base k h).1,(S.mem k hk).1 (ho.mut_ k h)⟩);replace ho:=Rp;refine ch (M:=JH) FO rfl rfl gl rfl a84 k5 (λaaq Rq o2=>?_);change aaq.heap[_]? =some (Obj.cells #[aap] _ _)at Rq;have:=ae gl;replace k5:=(o2.mem _ this).2 k5;have:=ae gn;replace mU:=(o2.mem _ this).2 mU;replace gn:=o2.bL gn a05;replace hv:=hv.le o2.le;replace mV:=mV.le o2.le;replace ho:=ho.step o2 (λc hc (h:c=bl)=>ho.fk gl XT (h▸hc));replace hM:=o2.lt hM;have:=S.size;replace S:=S.trans o2 (λk hk h=>by have h:_=_:=h;subst h;first|(exfalso;omega)|(show _<=_;omega)|exact⟨by first|omega|assumption,(S.mem _ hk).1 ((o2.mem _ (ae gl)).1 k5)⟩|exact .inl rfl|exact .inr rfl|exact .inr (.inl rfl)|exact .inr (.inr rfl)|exact .inr (.inr (.inl rfl))|exact rfl);have gl_:=Rq;clear gl;have gl:=gl_;clear gl_;refine ad (aI ?_);apply wW mixed rfl rfl;intro wD3 sA3;have qt:=sA3 JH;have:=ae gl;replace k5:=(qt.mem _ this).2 k5;replace gl:=qt.ay gl;have:=ae gn;replace mU:=(qt.mem _ this).2 mU;replace gn:=qt.ay gn;replace hv:=hv.le qt.le;replace mV:=mV.le qt.le;replace ho:=ho.bD qt;replace hM:=qt.lt hM;have:=S.size;replace S:=S.av qt;refine ab G G (Rg.cI (eR G G G (Rg.cI (ab G G (Rg.cI (Rg.E8 (g:=18) G (XT) (ak G G G G (Rg.cI (ak G G G G (Rg.cI (ak G G G G ?_)))))))))));refine Rg.cI (a8 G G G (Rg.cI (ab G G (Rg.cI (ak G G G G (Rg.cI (ak G G G G (Rg.cI (ak G G G G (Rg.cI (ak G G G G ?_)))))))))));refine Rg.cI (ak G G G G (Rg.cI (ak G G G G (Rg.cI (ak G G G G (Rg.cI (ak G G G G (Rg.cI (ak G G G G (Rg.cI (a8 G G G ?_)))))))))))
 refine Rg.cI (aB G G (Rg.cI (fB (aM ?_))));have Rr:nX n x=true:=by simp[nX,hm]
 rw[Rr];exact aP G G ⟨_,hM,G,(λh=>by cases h),S⟩
theorem Rt {M:aE} {bl bn B i:Nat} {n:Int} {ls:List (List Po)} {x:List Po} {v0:Value} (w0:World) (hM:Lt M w0) (hB:B<=w0.heap.size) (hJ:Ce bl bn n ls B i M w0) (hx:ls[i]? =some x) (hv:((RT.po).sl).V M w0 x v0) (hr:Room x) (sk:i<=1000000000):
  Spec Tryz.prog 154 #[v0,.pointer (some ⟨bl,0,none⟩),.pointer (some ⟨bn,0,none⟩)] w0 (λv w=>∃M',Lt M' w/\v= .bool (nX n x)/\(nX n x=false->Ce bl bn n ls B (i+1) M' w)/\Step M w0 M' w (lX M B)):=by
 cases hm:eN (-1) x with
 |true=>exact aao w0 hM hB hJ hx hv hr sk hm
 |false=>exact Vv w0 hM hB hJ hx hv hr sk hm
end Go.K
namespace Go.K
open Go.Proofs
namespace TKBldH
theorem FM:TI Tryz.prog 112 (.slice none 0 0) 1 24:=by unfold TI;kernel_rfl
theorem FN:TI Tryz.prog 114 (.agg #[(.slice none 0 0),(.slice none 0 0),(.slice none 0 0),(.slice none 0 0)]) 4 96:=by unfold TI;kernel_rfl
theorem YL:TI Tryz.prog 215 (.agg #[(.slice none 0 0),(.slice none 0 0),(.pointer none)]) 3 56:=by unfold TI;kernel_rfl
theorem FO:TI Tryz.prog 249 (.slice none 0 0) 1 24:=by unfold TI;kernel_rfl
theorem YM:placesOf Tryz.prog 215=[(0,1),(1,1),(2,1)].map some:=by kernel_rfl
theorem Ac:Enters Tryz.prog 100:=enters BO rfl XT
theorem YN:Enters Tryz.prog 101:=enters Tryz.func101 rfl XT
theorem YO:Enters Tryz.prog 153:=enters Tryz.func153 rfl XT
theorem ani:Enters Tryz.prog 154:=enters Tryz.func154 rfl XT
theorem YP:Enters Tryz.prog 156:=enters Tryz.func156 rfl XT
theorem YQ:Enters Tryz.prog 157:=enters Tryz.func157 rfl XT
end TKBldH
open TKBldH
set_option maxRecDepth 10000
def BK (p:Pa):Bool:=decide (p.1.length=p.2.1.length)&&gg (-1) p.2.1&&p.2.2.2.all (λx=> !nX (p.1.length:Int) x)&&decide (p.2.2.1.length=p.2.2.2.length)&&GM none p.2.2.1
def uM (p:Pa):Se:=(p.1,p.2.1,p.2.2.1,p.2.2.2.map j5)
structure Ru (p:Pa):Prop where
 a:p.1.length<=1000000000
 b:p.2.1.length<=1000000000
 c:p.2.2.1.length<=1000000000
 d:p.2.2.2.length<=1000000000
 e:∀x∈p.2.2.2,Room x
theorem JI {M:aE} {p:Pa} {v0:Value} (w0:World) (hM:Lt M w0) (hv:RT.pa.V M w0 p v0) (hR:Ru p):
  Spec Tryz.prog 101 #[v0] w0 (λv w=>Step M w0 M w ar/\(BK p=true->cG RT.se M w v (uM p))/\(BK p=false->v= .pointer none)):=by
 have iz:=hM;obtain⟨hRa,hRb,hRc,hRd,hRe⟩:=hR;refine aS (args:=[_]) (fn:=Tryz.f101) Tryz.func101 G (n:=45) Tryz.ntmps101 ?_;have S:Step M w0 M w0 ar:=aV;refine T.aO ?_;refine gR (A:=RT.pa) G G hM hv G (λu0 w1 dB s0 _=>?_);replace hM:=s0.lt hM;have:=S.size;replace S:=S.av s0;refine Rg.aZ G G (T.aO ?_);refine au (M:=M) (A:=RT.pa) (B:=(RT.int .i64).sl) cj G G l4 XT (pa0) G G XT a00 (by repeat (first|exact bN _ _|refine bp (bO a00) ?_)) (λB5 lQ=>?_);refine bM (M:=M) ao G G G G G a00 (by repeat (first|exact bN _ _|refine bp (bO a00) ?_)) (λAA mP=>?_);replace mP:((RT.int .i64).sl).V M _ p.1 AA:=mP;refine bB ao G mP G ?_;refine ek M I3 G (λlA BY YR YS gr s1_3=>?_);obtain⟨lB,rq⟩:∃M',M'=ins M lA:=⟨_,rfl⟩;rw[<-rq]at s1_3;have ic:lB lA:=by rw[rq];exact .inl G
 change BY.heap[lA]? =some (.cells #[.int .i64 0] _ _)at gr;replace dB:=dB.le XT s1_3.le;replace hM:=s1_3.lt hM;have:=S.size;replace S:=S.av s1_3;refine ch (M:=lB) I3 G G gr G (G) ic (λPj BZ jJ=>?_);change Pj.heap[_]? =some (Obj.cells #[.int .i64 (p.1.length:Int)] _ _)at BZ;have:=ae gr;replace ic:=(jJ.mem _ this).2 ic;replace dB:=dB.le XT jJ.le;replace hM:=jJ.lt hM;have:=S.size;replace S:=S.trans jJ (λk hk h=>by have h:_=_:=h;subst h;first|(exfalso;omega)|(show _<=_;omega)|exact⟨by first|omega|assumption,(S.mem _ hk).1 ((jJ.mem _ (ae gr)).1 ic)⟩|exact .inl rfl|exact .inr rfl|exact .inr (.inl rfl)|exact .inr (.inr rfl)|exact .inr (.inr (.inl rfl))|exact rfl);have qZ:=BZ;clear gr;have gr:=qZ;clear qZ;refine ad (aI (T.aO ?_));refine au (M:=lB) (A:=RT.pa) (B:=(RT.int .i64).sl) cj G G l4 XT (pa1) G G XT a00 (by repeat (first|exact bN _ _|refine bp (bO a00) ?_)) (λaw0 asm=>?_);refine bM (M:=lB) ao G G G G G a00 (by repeat (first|exact bN _ _|refine bp (bO a00) ?_)) (λanj Rv=>?_);replace Rv:((RT.int .i64).sl).V lB _ p.2.1 anj:=Rv;refine bB ao G Rv G (aA aj G G G gr G (aY (v':= .int .i64 (p.1.length:Int)) G (eR G G G (ab G G ?_))));refine aW (g:=16) G (λank=>?_) (λank=>?_)
 ·refine ak G G G G (ak G G G G (ak G G G G (ak G G G G (a8 G G G (ad (lh G (T.aO (Rg.aZ G G (aM ?_)))))))))
  have eb:BK p=false:=by
   unfold BK
   first
   |(rw[decide_eq_false (show¬p.1.length=p.2.1.length by omega)];simp;done)
   |(simp[c2];done)
  exact aP rfl rfl ⟨S.back,λh=>by(rw[eb]at h;cases h),λ_=>rfl⟩
 ·have Ll:p.1.length=p.2.1.length:=by omega
  refine ah G G ?_;refine au (M:=lB) (A:=RT.pa) (B:=(RT.int .i64).sl) cj G G l4 XT (pa1) G G XT a00 (by repeat (first|exact bN _ _|refine bp (bO a00) ?_)) (λaw1 aso=>?_);refine ah G G ?_;refine bM (M:=lB) ao G G G G G a00 (by repeat (first|exact bN _ _|refine bp (bO a00) ?_)) (λanl Rw=>?_);replace Rw:((RT.int .i64).sl).V lB _ p.2.1 anl:=Rw;refine ah G G ?_;refine aJ G G YO (Nj _ Rw) (λr wc hc=>?_);obtain⟨rfl,rfl⟩:=hc;refine ah G G (gM G G (aY (v':= .bool (decide (¬gg (-1) p.2.1=true))) (by simp) (aD G G G (ad ?_))));refine bI G (λc2=>?_) (λc2=>?_)
  ·refine T.aO (Rg.aZ G G (aM ?_))
   have eb:BK p=false:=by
    unfold BK
    first
    |(rw[decide_eq_false (show¬p.1.length=p.2.1.length by omega)];simp;done)
    |(simp[c2];done)
   exact aP rfl rfl ⟨S.back,λh=>by(rw[eb]at h;cases h),λ_=>rfl⟩
  ·have er:gg (-1) p.2.1=true:=db.1 c2;refine aR (T.aO ?_);refine ek lB FO G (λID IE akH akI pB j7=>?_);obtain⟨Ln,Rx⟩:∃M',M'=ins lB ID:=⟨_,rfl⟩;rw[<-Rx]at j7;have aas:Ln ID:=by rw[Rx];exact .inl G
   change IE.heap[ID]? =some (.cells #[.slice none 0 0] _ _)at pB;have:=ae gr;replace ic:=(j7.mem _ this).2 ic;replace gr:=j7.ay gr;replace dB:=dB.le XT j7.le;replace hM:=j7.lt hM;have:=S.size;replace S:=S.av j7;refine ad (T.aO (gz (xs:=[]) (ys:=[.tmp 4,.tmp 3]) G G G (Rg.aZ G G (aI (T.aO ?_)))));refine au (M:=Ln) (A:=RT.pa) (B:=((RT.po).sl).sl) cj G G FM XT (pa3) G G XT a00 (by repeat (first|exact bN _ _|refine bp (bO a00) ?_)) (λZx Gf=>?_);refine bM (M:=Ln) mc G G G G G a00 (by repeat (first|exact bN _ _|refine bp (bO a00) ?_)) (λZy AE=>?_);replace AE:(((RT.po).sl).sl).V Ln _ p.2.2.2 Zy:=AE;refine ab G G ?_;refine aJ G G YP (Cd (cap:=[.pointer (some ⟨ID,0,none⟩),.pointer (some ⟨lA,0,none⟩)]) (B:=w0.heap.size) (J:=Ce ID lA (p.1.length:Int) p.2.2.2 w0.heap.size) (bad:=nX (p.1.length:Int)) _ hM AE ani ⟨_,pB,aas,by omega,gr,ic,eE _ _ _ _ _⟩ (λi M w M' w' h s=>h.bD s) (λi M w x vx hJ hM hx Ax=>Rt w hM (by obtain⟨_,h1,_,h2,_⟩:=hJ;have:=ae h1;omega) hJ hx Ax (hRe x (ax hx)) (by have:=(al.1 hx).1;omega))) (λr6 w6 hc=>?_);obtain⟨M6,k6,rfl,hk6,Q9,s6,hk7,hk8⟩:=hc;replace dB:=dB.le XT s6.le;replace S:=S.mv s6 (aX _);refine ad ?_;refine bI G (λc6=>?_) (λc6=>?_)
   ·obtain⟨x6,hx6,rB⟩:=hk8 c6
    have eb:BK p=false:=by
     unfold BK;have:p.2.2.2.all (λx=> !nX (p.1.length:Int) x)=false:=List.all_eq_false.2 ⟨x6,hx6,by simp[rB]⟩;simp[this]
    refine T.aO (Rg.aZ G G (aM ?_));exact aP rfl rfl ⟨S.back,λh=>by(rw[eb]at h;cases h),λ_=>rfl⟩
   ·refine aR (T.aO ?_);obtain⟨rB,⟨vl,gl,_,_,_,_,te⟩⟩:=hk7 q0;rw[bg (aX _)]at te;have lJ:(((RT.li).ptr).sl).V M w6 (p.2.2.2.map j5) vl:=te.close iz S a13;replace dB:cG RT.pa M w6 u0 p:=dB.le XT (ni iz S);replace S:=S.back;replace hM:=S.lt iz;refine au (A:=RT.pa) (B:=RT.str.sl) cj G G BW XT pa2 G G XT dB b4 (λaw3 asq=>?_);refine bM (M:=M) aQ G G G G G a00 (by repeat (first|exact bN _ _|refine bp (bO a00) ?_)) (λanm Ry=>?_);replace Ry:(RT.str.sl).V M _ p.2.2.1 anm:=Ry;refine aA ey G G G gl G (aY (v':=vl) G ?_);refine aJ G G YQ (Ju _ hM Ry lJ q0 a13) (λr8 w8 hc=>?_);obtain⟨pd,rfl,TY,s8⟩:=hc;replace dB:=dB.le XT s8.le;replace lJ:=lJ.le s8.le;replace gl:=s8.ay gl;replace hM:=s8.lt hM;have:=S.size;replace S:=S.av s8;refine ab G G (b9 G G G (b9 G G G (aB G G (Rg.aZ G G (aI (T.aO (ab G G (eR G G G (ad ?_)))))))));refine bI G (λc9=>?_) (λc9=>?_)
    ·have eb:BK p=false:=by
      by_cases h:BK p=true
      ·unfold BK at h;simp only[cp,decide_eq_true_eq]at h;exact absurd (by rw[if_pos ⟨by simp[h.1.2],h.2⟩]) c9
      ·simpa using h
     refine T.aO (Rg.aZ G G (aM ?_));exact aP rfl rfl ⟨S.back,λh=>by(rw[eb]at h;cases h),λ_=>rfl⟩
    ·have e9:(p.2.2.1.length=(p.2.2.2.map j5).length/\GM none p.2.2.1=true):=by
      by_cases h:(p.2.2.1.length=(p.2.2.2.map j5).length/\GM none p.2.2.1=true)
      ·exact h
      ·exact absurd (by rw[if_neg h];decide) c9
     replace TY:=TY e9.1 e9.2;refine aR (aI ?_);apply T.FI [0,1,3,4,6,2,5,7,8,9] 5 [2,3,4] 2 ar mixed
     ·simp+decide only[Aa,sw,dC,jw,jq,jr,gL,dq,gE,lT,cond_true,cond_false,Nat.reduceBEq,Nat.reduceAdd,beq_self_eq_true];rfl
     ·rfl
     ·rfl
     ·rfl
     ·rfl
     ·rfl
     ·rfl
     intro B1 Pk;have dZ:=Pk M;replace dB:=dB.le XT dZ.le;replace lJ:=lJ.le dZ.le;replace gl:=dZ.ay gl;replace hM:=dZ.lt hM;have:=S.size;replace S:=S.av dZ;refine au (M:=M) (A:=RT.pa) (B:=(RT.int .i64).sl) cj G G l4 XT (pa0) G G XT a00 (by repeat (first|exact bN _ _|refine bp (bO a00) ?_)) (λW2 P4=>?_);refine Rg.cI ?_;refine bM (M:=M) ao G G G G G a00 (by repeat (first|exact bN _ _|refine bp (bO a00) ?_)) (λafE JJ=>?_);replace JJ:((RT.int .i64).sl).V M _ p.1 afE:=JJ;refine Rg.cI ?_;refine au (M:=M) (A:=RT.pa) (B:=(RT.int .i64).sl) cj G G l4 XT (pa1) G G XT a00 (by repeat (first|exact bN _ _|refine bp (bO a00) ?_)) (λafF mW=>?_);refine Rg.cI ?_;refine bM (M:=M) ao G G G G G a00 (by repeat (first|exact bN _ _|refine bp (bO a00) ?_)) (λafG pP=>?_);replace pP:((RT.int .i64).sl).V M _ p.2.1 afG:=pP;refine Rg.cI (ab G G (Rg.cI (fB ?_)));obtain⟨bb,oo,cs,ee,fr,rfl,oF,_⟩:=mW.float;refine ⟨ik ⟨fC cj G l4 XT,⟨eO G oF (λh=>h),⟨eP,trivial⟩⟩⟩,?_⟩;have kp:=iR ar B1;refine aJ G G Ac (AO hM JJ q0) (λv5 w5 hc=>?_);obtain⟨qK,s5⟩:=hc;replace pP:=pP.le s5.le;replace TY:=(TY.le XT dZ.le).le XT s5.le;replace dB:=dB.le XT s5.le;replace lJ:=lJ.le s5.le;replace gl:=s5.ay gl;replace hM:=s5.lt hM;have:=S.size;replace S:=S.av s5;refine(fun(kp:fa _ _ _)=>ad ⟨G,G,λ_=>kp,?_⟩) a03
     refine aJ G G Ac (AO hM pP q0) (λv6 w6' hc=>?_);obtain⟨oR,Xl⟩:=hc;replace dB:=dB.le XT Xl.le;replace lJ:=lJ.le Xl.le;replace qK:=qK.le Xl.le;replace pP:=pP.le Xl.le;replace TY:=TY.le XT Xl.le;replace gl:=Xl.ay gl;replace hM:=Xl.lt hM;have:=S.size;replace S:=S.av Xl;refine(fun(kp:fa _ _ _)=>ad ⟨G,G,λ_=>kp,?_⟩) a03;refine dp (places:=[(0,1),(1,1),(2,1)]) Tryz.underlying215 YL YM rfl ⟨_,_,rfl,rfl,_,_,rfl,rfl,_,_,rfl,rfl,rfl⟩ (out:=[_,_,_]) ⟨0,[_],rfl,iF qK,by simp[Value.cells],1,[_],rfl,iF oR,by simp[Value.cells],2,[_],rfl,xQ TY,by simp[Value.cells],rfl⟩ (ad ⟨rfl,rfl,λh=>absurd rfl h,?_⟩);refine gR (A:=RT.se) (a:=uM p) G G hM (al0 (x:=uM p) qK oR TY) G (λu8 w8' hu8 Vw _=>?_);replace dB:=dB.le XT Vw.le;replace lJ:=lJ.le Vw.le;replace qK:=qK.le Vw.le;replace pP:=pP.le Vw.le;replace TY:=TY.le XT Vw.le;replace oR:=oR.le Vw.le;replace gl:=Vw.ay gl;replace hM:=Vw.lt hM;have:=S.size;replace S:=S.av Vw;refine ad ⟨G,G,λh=>absurd G h,aB G G (ad ⟨G,G,λh=>absurd G h,lH (aM ?_)⟩)⟩
     have eb:BK p=true:=by
      unfold BK;rw[decide_eq_true Ll,er,e9.2,decide_eq_true (by simpa using e9.1),eA.2 (λx hx=>by simp[rB x hx])];rfl
     exact aP rfl rfl ⟨S.back,λ_=>hu8,λh=>by(rw[eb]at h;cases h)⟩
theorem JK {M:aE} {p:Pa} {v0:Value} (w0:World) (hM:Lt M w0) (hv:RT.pa.V M w0 p v0) (hR:Ru p):
  Spec Tryz.prog 52 #[v0] w0 (λv w=>Step M w0 M w ar/\(BK p=true->∃s,v= .tuple #[s,.int .i64 0]/\cG RT.se M w s (uM p))/\(BK p=false->v= .tuple #[.pointer none,.int .i64 1])):=by
 refine aS (args:=[_]) (fn:=Tryz.f52) Tryz.func52 G (n:=10) Tryz.ntmps52 ?_;have S:Step M w0 M w0 ar:=aV;refine T.aO ?_;refine gR (A:=RT.pa) G G hM hv G (λu0 w1 dB s0 _=>?_);replace hM:=s0.lt hM;have:=S.size;replace S:=S.av s0;refine aB G G (Rg.aZ G G (T.aO ?_));refine bZ (A:=RT.pa) cj G FN XT G G G dB b4 (λv1 nu=>?_);refine aJ G G YN (JI _ hM nu hR) (λr1 w2 hc=>?_);obtain⟨s2,fN,jj⟩:=hc
 obtain⟨o1,ho1⟩:∃o,r1= .pointer o:=by
  cases h:BK p with
  |true=>obtain⟨b,o,_,h1,_⟩:=fN h;exact⟨_,h1⟩
  |false=>exact⟨none,jj h⟩
 subst ho1;replace dB:=dB.le XT s2.le;replace hM:=s2.lt hM;have:=S.size;replace S:=S.av s2;refine Rg.aZ G G (aI (T.aO (ab G G (Rg.sU jx G G G (ad ?_)))));refine bI G (λc2=>?_) (λc2=>?_)
 ·refine T.aO (aB G G (Rg.aZ G G (aM ?_)))
  have eb:BK p=false:=by
   by_cases h:BK p=true
   ·obtain⟨b,o,_,h1,_⟩:=fN h;rw[c2]at h1;cases h1
   ·simpa using h
  exact eS rfl rfl rfl ⟨S.back,λh=>by(rw[eb]at h;cases h),λ_=>rfl⟩
 ·refine aR (T.aO (ab G G (aB G G (Rg.aZ G G (aM ?_)))))
  have eb:BK p=true:=by
   by_cases h:BK p=true
   ·exact h
   ·have:=jj a68;simp at this;exact absurd this c2
  exact eS rfl rfl rfl ⟨S.back,λ_=>⟨_,rfl,fN eb⟩,λh=>by(rw[eb]at h;cases h)⟩
end Go.K
namespace Go.K
section
variable {P:Program} {r:Option Nat} {n:Nat} {L:Sl} {ds:List Deferred} {w:World} {K:Kt} {M:aE} {F:List (Nat×aE)}
def vV (l:List Oper) (m q d:Nat):Bool:=
 Nat.blt q m&&nA l [q] m ((l[m]?.map dm).getD [])&&kT l (m+1)&&
 ((List.range' m (l.length-m)).all λj=>match l[j]? with
  |some o=>tO o.op&&(!(asks l o).contains d||(dm o).contains q)
  |none=>true)
theorem yF {l:List Oper} {m q d:Nat} (h:vV l m q d=true):q<m/\nA l [q] m ((l[m]?.map dm).getD [])=true/\kT l (m+1)=true/\∀j o,m<=j->l[j]? =some o->tO o.op=true/\(d∈asks l o->q∈dm o):=by
 simp only[vV,cp,Nat.blt_eq]at h;obtain⟨⟨⟨h1,h2⟩,h3⟩,h4⟩:=h;refine ⟨h1,h2,h3,λj o hj ho=> ?_⟩;have eZ:=(al.1 ho).1;have:=eA.1 h4 j (List.mem_range'_1.2 ⟨hj,by omega⟩);rw[ho]at this;simp only[cp,Bool.or_eq_true,tA,fJ]at this;refine ⟨this.1,λhd=> ?_⟩;rcases this.2 with h|h
 ·rw[<-Bool.not_eq_true,fJ]at h;exact absurd hd h
 ·exact h
structure TJ (P:Program) (r:Option Nat) (n:Nat) (l:List Oper) (m q d:Nat) (c:Value) (Gs:List (Nat×Nat×(Value->Prop))) (L:Sl) (K:Kt) (ds:List Deferred) (D:Nat->Prop) (a:Act) (w:World) (p:Nat) (ac:Act) (Lp:Sl) (wq:World):Prop where
 p0:m<=p
 p1:p<=l.length
 dt:∀i,i<l.length->i≠q->(D i↔i<p)
 ag:iS n ac Lp ds
 tr:tP P r n l.toArray ar wq K 0 (l.drop p) Lp ds w
 yes:D q->a=ac
 no: ¬D q->ac=a.put (some d) c/\∀t u,(lk (kE l q L) t=some u->a.tmps[t]? =some u)
 fl: ¬D q->∀g∈Gs,∃v,a.tmps[g.2.1]? =some v/\g.2.2 v
theorem put_comm (a:Act) {d:Nat} {e:Option Nat} (h:e≠some d) (c v:Value):(a.put (some d) c).put e v=(a.put e v).put (some d) c:=by
 cases e with
 |none=>rfl
 |some e=>
  have fw:e≠d:=λh'=>h (by rw[h'])
  simp only[Act.put];congr 1;apply Array.ext_getElem?;intro i;simp only[dD,Array.size_setIfInBounds];by_cases h1:e=i<;>by_cases h2:d=i<;>simp_all
theorem C9 (a:Act) {d t:Nat} (c:Value) (h:t≠d):(a.put (some d) c).tmps[t]? =a.tmps[t]? :=by rw[iu,if_neg (λe=>h (by injection e with e;exact e.symm))]
theorem TJ.next {l:List Oper} {m q d:Nat} {c:Value} {Gs:List (Nat×Nat×(Value->Prop))} (hG:∀g∈Gs,∃o,l[g.1]? =some o/\o.dst=some g.2.1/\g.1<m) (dO:fu l 0=true) (fN:vV l m q d=true) {oq:Oper} (hq:l[q]? =some oq) (JL:oq.dst=some d) (hqq:jW oq.op=true) (Vx:oq.guard=none)
  (gO:∀(ρ:Operand->Value) w,(∀x u,ev (kE l q L) x=some u->ρ x=u)->(∀g∈Gs,g.2.2 (ρ (.tmp g.2.1)))->(execOp ρ oq).run P w= .ok (.value c) w)
  {Q:Exit->Act->World->Prop} {D:Nat->Prop} {a:Act} {w:World} {j:Nat} {o:Oper} {rest:List Nat} (ho:l[j]? =some o) (oB: ¬D j) (hp:∀k∈dm o,D k) {p:Nat} {ac:Act} {Lp:Sl} {wq:World} (hi:TJ P r n l m q d c Gs L K ds D a w p ac Lp wq)
  (hk:∀a' w',(∃p ac Lp wq,TJ P r n l m q d c Gs L K ds (λi=>i=j\/D i) a' w' p ac Lp wq)->wpOpsIn (FW r) 0 P l.toArray Q rest a' w'):wpOpsIn (FW r) 0 P l.toArray Q (j::rest) a w:=by
 obtain⟨hqm,_,BT,yn⟩:=yF fN;have qn:=(al.1 ho).1;by_cases hjq:j=q
 ·subst hjq;rw[hq]at ho;cases ho;obtain⟨Lo,lr⟩:=hi.no oB;refine One.run (by simpa using hq) hqq (v:=c) ?_ (hk _ _ ⟨p,ac,Lp,wq,hi.p0,hi.p1,λi h1 h2=>⟨λh=>(hi.dt i h1 h2).1 (h.resolve_left h2),λh=> .inr ((hi.dt i h1 h2).2 h)⟩,hi.ag,hi.tr,λ_=>by rw[Lo,JL],λh=>absurd (.inl rfl) h,λh=>absurd (.inl rfl) h⟩);unfold One;rw[if_pos (by simp[Region.wanted,Vx])];refine gO a.eval w (λx u hx=>?_) (λg hg=>by obtain⟨v,h1,h2⟩:=hi.fl oB g hg;simpa[Act.eval,h1]using h2)
  cases x with
  |tmp t=>simp only[ev]at hx;simp[Act.eval,lr t u hx]
  |const v=>simp only[ev]at hx;cases hx;rfl
  |global g=>simp only[ev]at hx;cases hx;rfl
  |func f=>simp only[ev]at hx;cases hx;rfl
 ·have hjp:j=p:=by
   have h1:p<=j:=by
    rcases cL j p with h|h
    ·exact absurd ((hi.dt j qn hjq).2 h) oB
    ·exact h
   have:=hi.p0;rcases cL m j with h|h
   ·have h2:=hp _ (mz BT (j:=j) q0 ho);have:=(hi.dt (j-1) q0 q0).1 h2;omega
   ·omega
  subst hjp;obtain⟨hto,hta⟩:=yn j o hi.p0 ho;have DA:o.dst≠some d:=λh=>hjq (ga dO ho hq h JL)
  have EY:∀t∈asks l o,a.tmps[t]? =ac.tmps[t]? :=λt ht=>by
   by_cases hD:D q
   ·rw[hi.yes hD]
   ·rw[(hi.no hD).1,C9];rintro rfl;exact hD (hp q (hta ht))
  obtain⟨Od,Fb⟩:=oE EY
  have hdf:a.defers=ac.defers:=by
   by_cases hD:D q
   ·rw[hi.yes hD]
   ·rw[(hi.no hD).1,put_defers]
  have Cz:=hi.tr;rw[j0 qn,(al.1 ho).2]at Cz;have h1:=Rg.run Cz ac hi.ag;refine Fi (by simpa using ho) hto Od Fb hdf h1 (λe a w ⟨_,_,_,he,_⟩=>he) (λv w' ⟨L',nj,hA,_,OR,_,Yh⟩=>?_) (λd' w' ⟨L',nj,hA,_,OR,_⟩=>?_)
  ·rw[OR]at hA;refine hk _ _ ⟨j+1,ac.put o.dst v,L',wq,by have:=hi.p0;omega,by omega,λi h3 h4=>?_,hA,Yh,λh=>?_,λh=>?_,λh g hg=>?_⟩
   ·constructor
    ·rintro(h|h)
     ·omega
     ·have:=(hi.dt i h3 h4).1 h;omega
    ·intro h;rcases qN (show i<=j by omega)with h5|h5
     ·exact .inl h5
     ·exact .inr ((hi.dt i h3 h4).2 h5)
   ·rw[hi.yes (h.resolve_left (λe=>hjq e.symm))]
   ·have hD: ¬D q:=λh'=>h (.inr h')
    obtain⟨Lo,lr⟩:=hi.no hD;refine ⟨by rw[Lo,put_comm a DA],λt u ht=> ?_⟩;obtain⟨h3,h4⟩:=ke (f:=lu l q) ht;rw[iu,if_neg,lr t u ht];intro e;simp only[lu,eA]at h3;have:=h3 o (ax ho);simp only[e,beq_self_eq_true,Bool.not_true,Bool.false_or,fJ]at this;exact hD (hp q this)
   ·obtain⟨v',h1,h2⟩:=hi.fl (λh'=>h (.inr h')) g hg;obtain⟨og,g1,g2,g3⟩:=hG g hg;refine⟨v',?_,h2⟩;rw[iu,if_neg,h1];intro e;have:=ga dO ho g1 e g2;have:=hi.p0;omega
  ·have h3:=hA.defers;rw[put_defers,OR]at h3;have h4:=congrArg List.length h3;rw[hi.ag.defers]at h4;simp at h4
theorem jI.aav {l:List Oper} {wd:World} (m q d:Nat) (c:Value) {oq:Oper} (F:List (Nat×aE)) (S:List (cw M)) (Gs:List (Nat×Nat×(Value->Prop))) (Ye:S.length=m) (yM:Nat.blt m l.length=true) (dO:fu l 0=true) (fN:vV l m q d=true)
  (hq:l[q]? =some oq) (JL:oq.dst=some d) (hqq:jW oq.op=true) (Vx:oq.guard=none) (hS:S[q]? =some (cw.eq c)) (gO:∀(ρ:Operand->Value) w,(∀x u,ev (kE l q L) x=some u->ρ x=u)->(∀g∈Gs,g.2.2 (ρ (.tmp g.2.1)))->(execOp ρ oq).run P w= .ok (.value c) w)
  (hG:∀g∈Gs,∃o s,l[g.1]? =some o/\o.dst=some g.2.1/\g.1<m/\g.1≠q/\S[g.1]? =some s/\∀v w,s.p v w->g.2.2 v) (qR:∀p∈F,∀b,p.2 b->M b) (hFq:∀p∈F,p.1≠q) (ym:Fe F l S) (iq:bH P r n F wd l S ds L l S 0)
  (j4:∀w',Step M wd M w' (jO (F.map (·.2)))->iA w' (λacc=>tP P r n l.toArray ar w' K 0 (l.drop m) (acc++kE l l.length L) ds w') l S []):jI P r n l L ds wd K:=by
 intro a0 ha;obtain⟨hqm,OS,BT,yn⟩:=yF fN;have afH:m<l.length:=by simpa[Nat.blt_eq]using yM
 have start:∀(D:Nat->Prop) a w,(∀i,i<m->i≠q->D i)->(∀i,m<=i->i<l.length->¬D i)->(∀i o,l[i]? =some o->D i->∀k∈dm o,D k)->Inv F S l wd L ds n (λi=>D i/\i<l.length) a w->∃p ac Lp wq,TJ P r n l m q d c Gs L K ds D a w p ac Lp wq:=by
  intro D a w jA jj ku hi
  obtain⟨ac,Lo⟩:∃ac,(D q->a=ac)/\(¬D q->ac=a.put (some d) c):=by
   by_cases hD:D q
   ·exact⟨a,λ_=>G,λh=>absurd hD h⟩
   ·exact⟨_,λh=>absurd h hD,λ_=>G⟩
  have hqn:d<n\/n<=d:=cL d n
  have lP:n<=ac.tmps.size:=by
   by_cases hD:D q
   ·rw[<-Lo.1 hD];exact hi.size
   ·rw[Lo.2 hD,oC];exact hi.size
  have hdf:ac.defers=ds:=by
   by_cases hD:D q
   ·rw[<-Lo.1 hD];exact hi.defers
   ·rw[Lo.2 hD,put_defers];exact hi.defers
  have Rz:∀t,t≠d->ac.tmps[t]? =a.tmps[t]? :=λt ht=>by
   by_cases hD:D q
   ·rw[<-Lo.1 hD]
   ·rw[Lo.2 hD,C9 a c ht]
  have ano:d<a.tmps.size:=by
   have hg:=iq.take.get q oq (by rw[dE,Ye,if_pos hqm];exact hq);by_cases hD:D q
   ·obtain⟨v,h1,_⟩:=hi.done q oq (cw.eq c) d hq hS ⟨hD,by omega⟩ JL;exact(Array.getElem?_eq_some_iff.1 h1).1
   ·refine Classical.byContradiction λnk=> ?_
    obtain⟨s,hs,afI⟩:=hg;rw[Nat.zero_add]at afI;rw[hS]at hs;cases hs
    have hpq:∀k∈dm oq,D k:=λk hk=>by
     have:=dH dO q oq hq k hk;exact jA k q0 q0
    have:=Inv.next (r:=r) (P:=P) hi dO ym qR (rest:=[]) (Q:=λ_ a' _=>n<=a'.tmps.size/\∃v,a'.tmps[d]? =some v) ⟨cw.eq c,hS,afI⟩ hq (λh=>hD h.1) (λk hk=>⟨hpq k hk,by have:=dH dO q oq hq k hk;omega⟩) (λa' w' kQ=>by
     obtain⟨v,h1,_⟩:=kQ.done q oq (cw.eq c) d hq hS (.inl rfl) JL;exact⟨kQ.size,v,h1⟩)
    have tG:One P r l.toArray w oq a c:=by
     unfold One;rw[if_pos (by simp[Region.wanted,Vx])]
     refine gO a.eval w (λx u hx=>?_) (λg hg=>by
      obtain⟨o,s,g1,g2,g3,g4,g5,g6⟩:=hG g hg;obtain⟨v,h1,h2⟩:=hi.done _ o s _ g1 g5 ⟨jA _ g3 g4,by omega⟩ g2;simpa[Act.eval,h1]using g6 _ _ h2)
     have lr:∀t u,lk (kE l q L) t=some u->a.tmps[t]? =some u:=λt u ht=>by
      obtain⟨h3,h4⟩:=ke (f:=lu l q) ht;refine hi.base t u h4 λi o jk E0 he=> ?_
      simp only[lu,eA]at h3;have:=h3 o (ax jk);simp only[he,beq_self_eq_true,Bool.not_true,Bool.false_or,fJ]at this;exact hD (ku i o jk E0.1 q this)
     cases x with
     |tmp t=>simp only[ev]at hx;simp[Act.eval,lr t u hx]
     |const v=>simp only[ev]at hx;cases hx;rfl
     |global g=>simp only[ev]at hx;cases hx;rfl
     |func f=>simp only[ev]at hx;cases hx;rfl
    simp only[wpOpsIn,fK,hq]at this;rw[if_pos (by simp[Region.wanted,Vx])]at this;obtain⟨_,h2⟩:=this;unfold One at tG;rw[if_pos (by simp[Region.wanted,Vx])]at tG;rw[Oper.semAt_eq _ _ _ (mC hqq),tG]at h2;rw[Oper.uponIn_value]at h2;obtain⟨_,v,h3⟩:=h2;rw[JL]at h3;have:=(Array.getElem?_eq_some_iff.1 h3).1;simp[Act.put]at this;exact nk this
  have anp:∃v,ac.tmps[d]? =some v/\v=c:=by
   by_cases hD:D q
   ·rw[<-Lo.1 hD];obtain⟨v,h1,h2⟩:=hi.done q oq (cw.eq c) d hq hS ⟨hD,by omega⟩ JL;exact⟨v,h1,h2⟩
   ·refine⟨c,?_,G⟩;rw[Lo.2 hD,iu,if_pos rfl];simp[dD,ano]
  have jb:∀{i:Nat} {o:Oper},(l.take m)[i]? =some o->l[i]? =some o/\i<m:=λ{i o} h=>by
   rw[dE]at h
   split at h
   ·exact⟨h,by assumption⟩
   ·cases h
  have jV:Step M wd M w (jO (F.map (·.2))):=hi.step.dF (λb ⟨p,hp,hD,hb⟩=>fZ.2 ⟨p.2,cu.2 ⟨p,hp,rfl⟩,hb⟩) (λb hb=>by
   obtain⟨N,hN,EZ⟩:=fZ.1 hb;obtain⟨p,hp,rfl⟩:=cu.1 hN;exact qR p hp b EZ)
  have hE:=(j4 w jV).take;rw[Ye]at hE
  obtain⟨acc,h1,h2⟩:=iA.use (a:=ac) (l.take m) S [] (λi o s h1 h2 h3=>by
    obtain⟨h4,h5⟩:=jb h1;by_cases Xm:i=q
    ·subst Xm;rw[hq]at h4;cases h4;rw[JL]at h3;cases h3
    ·exact hi.fin i o s h4 h2 ⟨jA i h5 Xm,by omega⟩ h3)
   (λi o s e h1 h2 h3=>by
    obtain⟨h4,h5⟩:=jb h1;by_cases Xm:i=q
    ·subst Xm;rw[hq]at h4;cases h4;rw[JL]at h3;cases h3;rw[hS]at h2;cases h2;exact anp
    ·obtain⟨v,h6,h7⟩:=hi.done i o s e h4 h2 ⟨jA i h5 Xm,by omega⟩ h3;exact⟨v,by rw[Rz e (λhe=>Xm (ga dO h4 hq h3 (by rw[JL,he])))];exact h6,h7⟩)
   (λt v h=>by simp[lk]at h) hE
  refine⟨m,ac,_,w,aX _,by omega,λi h3 h4=>⟨λh=>?_,λh=>jA i h h4⟩,⟨lP,hdf,λt v h=>?_⟩,h1,Lo.1,λhD=>⟨Lo.2 hD,λt u ht=>?_⟩,λhD g hg=>by
   obtain⟨o,s,g1,g2,g3,g4,g5,g6⟩:=hG g hg;obtain⟨v,h1,h2⟩:=hi.done _ o s _ g1 g5 ⟨jA _ g3 g4,by omega⟩ g2;exact⟨v,h1,g6 _ _ h2⟩⟩
  ·rcases cL i m with h5|h5
   ·exact h5
   ·exact absurd h (jj i h5 h3)
  ·rcases l3 h with h|h
   ·exact h2 t v h
   ·obtain⟨h3,h4⟩:=ke (f:=lu l l.length) h
    have fw:∀(i:Nat) (o:Oper),l[i]? =some o->o.dst≠some t:=λi o jk he=>by
     simp only[lu,eA]at h3;have:=h3 o (ax jk);simp only[he,beq_self_eq_true,Bool.not_true,Bool.false_or,fJ]at this;have h7:=dH dO i o jk _ this;have h8:=(al.1 jk).1;omega
    rw[Rz t (λe=>fw q oq hq (by rw[JL,e]))];exact hi.base t v h4 λi o jk _=>fw i o jk
  ·obtain⟨h3,h4⟩:=ke (f:=lu l q) ht;refine hi.base t u h4 λi o jk E0 he=> ?_
   simp only[lu,eA]at h3;have:=h3 o (ax jk);simp only[he,beq_self_eq_true,Bool.not_true,Bool.false_or,fJ]at this;exact hD (ku i o jk E0.1 q this)
 refine⟨λD a w=>((∀i,m<=i->i<l.length->¬D i)/\Inv F S l wd L ds n (λi=>D i/\i<l.length) a w)\/∃p ac Lp wq,TJ P r n l m q d c Gs L K ds D a w p ac Lp wq,λD D' a w hJ hD=>?_,λQ D a w j o rest hj ho oB hp ku hJ hk=>?_,λa w hJ=>?_,.inl ⟨λi _ _ h=>h,?_⟩⟩
 ·rcases hJ with⟨h1,h2⟩|⟨p,ac,Lp,wq,h⟩
  ·refine .inl ⟨λi h3 h4 h5=>h1 i h3 h4 ((hD i h4).1 h5),?_⟩;have:(λi=>D' i/\i<l.length)=λi=>D i/\i<l.length:=funext λi=>propext ⟨fun⟨h3,h4⟩=>⟨(hD i h4).1 h3,h4⟩,fun⟨h3,h4⟩=>⟨(hD i h4).2 h3,h4⟩⟩
   rw[this];exact h2
  ·exact .inr ⟨p,ac,Lp,wq,h.p0,h.p1,λi h3 h4=>(hD i h3).trans (h.dt i h3 h4),h.ag,h.tr,λh3=>h.yes ((hD q q0).1 h3),λh3=>h.no λh4=>h3 ((hD q q0).2 h4),λh3=>h.fl λh4=>h3 ((hD q q0).2 h4)⟩
 ·rcases hJ with⟨h1,h2⟩|⟨p,ac,Lp,wq,h⟩
  ·rcases cL j m with H2|H2
   ·have hg:=iq.take.get j o (by rw[dE,Ye,if_pos H2];exact ho);rw[Nat.zero_add]at hg;refine h2.next dO ym qR hg ho (λh=>oB h.1) (λk qo=>⟨hp k qo,by have:=dH dO j o ho k qo;omega⟩) λa' w' kQ=>hk a' w' (.inl ⟨λi h3 h4 h5=>?_,?_⟩)
    ·rcases h5 with h5|h5
     ·omega
     ·exact h1 i h3 h4 h5
    ·have:(λi=>(i=j\/D i)/\i<l.length)=λi=>i=j\/D i/\i<l.length:=funext λi=>propext ⟨fun⟨h3,h4⟩=>h3.elim .inl λh=> .inr ⟨h,h4⟩,λh=>h.elim (λh=>⟨.inl h,by omega⟩) λh=>⟨.inr h.1,h.2⟩⟩
     rw[this];exact kQ
   ·have anq:j=m:=by
     rcases cL m j with h|h
     ·have:=hp _ (mz BT (j:=j) q0 ho);exact absurd this (h1 (j-1) q0 q0)
     ·omega
    subst anq;rw[ho]at OS;obtain⟨p,ac,Lp,wq,h⟩:=start D a w (λi hi Xm=>nB (D:=D) ku j (dm o) OS hp i hi (by simpa using Xm)) h1 ku h2;exact h.next (λg hg=>by obtain⟨o,s,g1,g2,g3,_⟩:=hG g hg;exact⟨o,g1,g2,g3⟩) dO fN hq JL hqq Vx gO ho oB hp λa' w' h'=>hk a' w' (.inr h')
  ·exact h.next (λg hg=>by obtain⟨o,s,g1,g2,g3,_⟩:=hG g hg;exact⟨o,g1,g2,g3⟩) dO fN hq JL hqq Vx gO ho oB hp λa' w' h'=>hk a' w' (.inr h')
 ·rcases hJ with⟨h1,_⟩|⟨p,ac,Lp,wq,h⟩
  ·exact absurd afH (h1 m (aX _) afH)
  ·have yo:p=l.length:=by
    rcases cL p l.length with h3|h3
    ·have h4:=(h.dt p h3 (by have:=h.p0;omega)).1 h3;omega
    ·have:=h.p1;omega
   have Cz:=h.tr;rw[yo,List.drop_length]at Cz;exact⟨Lp,ds,by rw[h.yes (by show q<l.length;omega)];exact h.ag,Cz⟩
 ·refine⟨(Step.refl M wd).dF a15 (λb ⟨p,hp,_,hb⟩=>qR p hp b hb),λi o s _ _ h=>h.1.elim,ha.size,ha.defers,λi o s e _ _ h=>h.1.elim,λt v h _=>ha.at_ t v h,λi o _ h=>h.1.elim⟩
theorem T.Xn {id:Nat} {l l':List Oper} (π:List Nat) (m q d:Nat) (c:Value) {oq:Oper} (F:List (Nat×aE)) (S:List (cw M)) (Gs:List (Nat×Nat×(Value->Prop))) (hm:P.follows .mixedOrders=true) (Pe:Aa π l=l') (yu:fu l 0=true) (hπ:mH π l.length=true) (Ye:S.length=m) (yM:Nat.blt m l'.length=true) (dO:fu l' 0=true) (fN:vV l' m q d=true)
  (hq:l'[q]? =some oq) (JL:oq.dst=some d) (hqq:jW oq.op=true) (Vx:oq.guard=none) (hS:S[q]? =some (cw.eq c)) (gO:∀(ρ:Operand->Value) w,(∀x u,ev (kE l' q L) x=some u->ρ x=u)->(∀g∈Gs,g.2.2 (ρ (.tmp g.2.1)))->(execOp ρ oq).run P w= .ok (.value c) w)
  (hG:∀g∈Gs,∃o s,l'[g.1]? =some o/\o.dst=some g.2.1/\g.1<m/\g.1≠q/\S[g.1]? =some s/\∀v w,s.p v w->g.2.2 v) (qR:∀p∈F,∀b,p.2 b->M b) (hFq:∀p∈F,p.1≠q) (ym:Fe F l' S)
  (h:∀wD,(∀M,Step M w M wD ar)->bH P r n F wD l' S ds L l' S 0/\∀w',Step M wD M w' (jO (F.map (·.2)))->iA w' (λacc=>tP P r n l'.toArray ar w' K 0 (l'.drop m) (acc++kE l' l'.length L) ds w') l' S []):T P r n (.region id l.toArray true) L ds w K:=by
 subst Pe;exact jI.t hm yu λwD hD=> .perm π hπ yu (.aav m q d c F S Gs Ye yM dO fN hq JL hqq Vx hS gO hG qR hFq ym (h wD hD).1 (h wD hD).2)
theorem JM {s:TypeId} {fs:Array Field} {fd:Field} {j size o o' b:Nat} {zv:Value} {bytes:Nat} {x:Operand} {dst:Option Tmp} {ty:TypeId} {pos:String} {af:Array Edge} {gd:Option (Nat×Bool)} (hu:P.underlying s=some (.struct fs)) (hfd:fs[j]? =some fd) (ho:o+fd.offset=o') (hi:TI P fd.type zv size bytes) (hs:size≠0)
  {ρ:Operand->Value} (hx:ρ x= .pointer (some ⟨b,o,none⟩)) (w:World):(execOp ρ {dst,op:= .fieldAddr s x j,type:=ty,pos,after:=af,guard:=gd}).run P w= .ok (.value (.pointer (some ⟨b,o',none⟩))) w:=by
 simp only[execOp,hx];simp[Instr.fieldAt,run_underlying hu,hfd,Instr.sureAddr,fieldPlace,hi.sizeOf,hs,<-ho,Addr.add_mid]
end
open Go.Proofs
set_option maxRecDepth 10000
def nK:Int->List En->Int
 |last,[]=>last
 |_,e::L=>nK e.2 L
def vW:Int->List En->Bool
 |_,[]=>true
 |last,e::L=>decide (nV last e=0)&&vW e.2 L
theorem RA:∀{L:List En} {last:Int} {i:Nat} {e:En},vW last L=true->L[i]? =some e->nV (nK last (L.take i)) e=0/\nK last (L.take (i+1))=e.2
 |[],_,_,_,_,h=>by simp at h
 |x::L,last,0,e,h,hi=>by
  simp only[vW,cp,decide_eq_true_eq]at h;simp at hi;subst hi;exact⟨by simpa[nK]using h.1,by simp[nK]⟩
 |x::L,last,i+1,e,h,hi=>by
  simp only[vW,cp,decide_eq_true_eq]at h;have:=RA h.2 ai7;simpa[nK]using this
theorem xT {last:Int} {e:En} (h:nV last e=0):iQ e.1/\last<e.2:=by
 unfold nV at h
 split at h
 ·rename_i h1;exact absurd h h1
 ·rename_i h1
  split at h
  ·cases h
  ·exact⟨K6 (by simpa using h1),by omega⟩
theorem kK:∀{L:List En} {last:Int},vW last L=true->∀e∈L,iQ e.1
 |[],_,_,e,h=>by cases h
 |x::L,last,h,e,he=>by
  simp only[vW,cp,decide_eq_true_eq]at h;rcases cU.1 he with rfl|he
  ·exact(xT h.1).1
  ·exact kK h.2 e he
theorem xU:∀{L:List En} {last:Int},vW last L=true->gg last (L.map (·.2))=true
 |[],_,_=>rfl
 |x::L,last,h=>by
  simp only[vW,cp,decide_eq_true_eq]at h;simp only[dC,gg,cp,decide_eq_true_eq];exact⟨(xT h.1).2,xU h.2⟩
def gQ (L:List En):Pa:=(L.map (·.1.1),L.map (·.2),keysOf L,(keysOf L).map (pk L))
theorem No {x:List Po} (h:x≠[]):∃p∈x,GW x=p.1:=by
 unfold GW
 cases hl:x.getLast? with
 |none=>exact absurd (List.getLast?_eq_none_iff.1 hl) h
 |some p=>exact⟨p,List.mem_of_getLast? hl,rfl⟩
theorem aaw {L:List En} (h:vW (-1) L=true) (hn:L.length<=1000000):BK (gQ L)=true:=by
 have hF:=kK h;have h1:(keysOf L).map (pk L)=(gQ L).2.2.2:=rfl;unfold BK;have e1:decide ((gQ L).1.length=(gQ L).2.1.length)=true:=by simp[gQ]
 have e2:gg (-1) (gQ L).2.1=true:=xU h;have e3:decide ((gQ L).2.2.1.length=(gQ L).2.2.2.length)=true:=by simp[gQ]
 have e4:GM none (gQ L).2.2.1=true:=Z5 (nH L)
 have e5:(gQ L).2.2.2.all (λx=> !nX ((gQ L).1.length:Int) x)=true:=by
  refine eA.2 λx hx=> ?_
  rw[<-h1]at hx;obtain⟨k,hk,rfl⟩:=cu.1 hx;have fw:pk L k≠[]:=QC 0 (mS.1 hk)
  have anr:(pk L k).isEmpty=false:=by
   cases h:pk L k with
   |nil=>exact absurd h fw
   |cons a b=>rfl
  have vS:eN (-1) (pk L k)=true:=zk k L 0 (-1) hF q0 q0;obtain⟨p,hp,hl⟩:=No fw;have:=(xK k L 0 hF).2 p hp;have hlen:((gQ L).1.length:Int)=L.length:=by simp[gQ]
  simp only[nX,vS,anr,hlen,hl];rw[decide_eq_false q0];rfl
 rw[e1,e2,e3,e4,e5];rfl
theorem Vy {L:List En} (hF:∀e∈L,iQ e.1) (hn:L.length<=1000000) (k:List UInt8):Room (pk L k):=by
 have h1:=xK k L 0 hF;have vS:eN (-1) (pk L k)=true:=zk k L 0 (-1) hF q0 q0;have qm:∀p∈pk L k,p.2.length<=500:=λp hp=>(h1.2 p hp).2.2
 obtain⟨h2,h3⟩:=xL (pk L k) (-1) 500 q0 vS qm q0;have hl:(pk L k).length<=L.length:=h1.1;exact⟨λp hp=>by have:=qm p hp;omega,by omega,by omega,by omega⟩
theorem Vz {L:List En} (hF:∀e∈L,iQ e.1) (hn:L.length<=1000000):Ru (gQ L):=by
 have hk:(keysOf L).length<=500000000:=by
  have h1:=(nH L).nodup.length_le_of_subset (l₂:=jN L) (λx hx=>mS.1 hx);have:=xN hF;omega
 refine ⟨by simp[gQ];omega,by simp[gQ];omega,by simp only[gQ];omega,by simp[gQ];omega,λx hx=> ?_⟩;obtain⟨k,_,rfl⟩:=cu.1 hx;exact Vy hF hn k
theorem aax {M:aE} {w:World} {e:En} {v:Value} (h:RT.en.V M w e v):(-9223372036854775808<=e.1.1/\e.1.1<=9223372036854775807)/\ -9223372036854775808<=e.2/\e.2<=9223372036854775807:=by
 obtain⟨vs,⟨va,vb,_,⟨vc,vd,_,⟨_,h1⟩,_⟩,⟨_,h2⟩⟩,_⟩:=h;exact⟨h1,h2⟩
def ZP (B b:Nat) (vi vs:Value):aE:=λk=>B<=k/\k≠b/\vi.ownBlock≠some k/\vs.ownBlock≠some k
theorem Own.Xo {κ:IntKind} {e:TypeId} {M M' N:aE} {w w':World} {base:Nat} {v:Value} {xs:List Int} (h:Own (RT.int κ) e (mI v) w base v xs) (s:Step M w M' w' N) (hn:∀c,v.ownBlock=some c->¬N c):Own (RT.int κ) e (mI v) w' base v xs:=
 ((h.Pf (M':=allM) (λ_ _=>trivial)).CL s.all hn).lone
theorem Step.ans {M M' N:aE} {w w':World} (s:Step M w M' w' N) {v:Value} (hv:∀b,v.ownBlock=some b->b<w'.heap.size/\(w.heap.size<=b\/M' b)):Step M w (mu M' v) w' N:=
 ⟨λh k hk=>hk.elim (λh1=>(hv k h1).1) (λh1=>s.lt h k h1),s.os,s.tape,s.output,s.size,λk hk=>⟨λh=>by
  rcases h with h|h
  ·rcases(hv k h).2 with h1|h1
   ·omega
   ·exact(s.mem k hk).1 h1
  ·exact(s.mem k hk).1 h,λh=> .inr ((s.mem k hk).2 h)⟩,s.same,s.sub⟩
namespace TKSegA
theorem afJ:Enters Tryz.prog 121:=enters Tryz.func121 rfl XT
theorem afK:Enters Tryz.prog 159:=enters Tryz.func159 rfl XT
theorem afL:Enters Tryz.prog 160:=enters Tryz.func160 rfl XT
theorem afM:Enters Tryz.prog 201:=enters Tryz.func201 rfl XT
end TKSegA
open TKSegA
set_option maxRecDepth 10000
def rX (xs:List Int) (i:Int):Int:=if 0<=i/\i<xs.length then xs.getD i.toNat 0 else-1
theorem Ep {xs:List Int} {i:Nat} {x:Int} (h:xs[i]? =some x):rX xs i=x:=by
 have:=(al.1 h).1;unfold rX;rw[if_pos q0,aq,bY,h];rfl
theorem Lq {M:aE} {xs:List Int} {v0:Value} {i:Int} (w0:World) (hv:((RT.int .i64).sl).V M w0 xs v0):
  Spec Tryz.prog 121 #[v0,.int .i64 i] w0 (λv w=>v= .int .i64 (rX xs i)/\w=w0):=by
 have hlen:=dW hv;refine aS (args:=[_,_]) (fn:=Tryz.f121) Tryz.func121 G (n:=17) Tryz.ntmps121 (T.aO (Rg.aZ G G (aI (T.aO (ab G G (ck G G G (ab G G ?_)))))));refine aW (g:=7) G (λgT=>?_) (λgT=>?_)
 ·refine ak G G G G (ak G G G G (ak G G G G (ak G G G G (a8 G G G (ad (lh G (T.aO (Rg.aZ G G (aM ?_)))))))));have e:rX xs i= -1:=by unfold rX;rw[if_neg q0]
  exact aP rfl rfl ⟨by rw[e],rfl⟩
 ·refine ah G G (ab G G (ah G G (ab G G (ah G G (bB ao G hv G (ah G G (eh G G G (aD G G G (ad ?_)))))))));refine bI G (λc1=>?_) (λc1=>?_)
  ·refine T.aO (Rg.aZ G G (aM ?_));have e:rX xs i= -1:=by unfold rX;rw[if_neg q0]
   exact aP rfl rfl ⟨by rw[e],rfl⟩
  ·refine aR (T.aO (ab G G (ab G G ?_)));refine cx ao I3 G G G hv b4 q0 (λu x hg hu=>?_);refine bV aj G G hu b4 (λmL=>?_);refine Rg.aZ G G (aM ?_);have e:rX xs i=x:=by unfold rX;rw[if_pos q0,bY,hg];rfl
   exact aP rfl rfl ⟨by rw[e],rfl⟩
theorem xV {M:aE} {s:Se} {v0:Value} (w0:World) (hs:cG RT.se M w0 v0 s):
  Spec Tryz.prog 108 #[v0] w0 (λv w=>v= .int .i64 (s.1.length:Int)/\w=w0):=by
 refine aS (args:=[_]) (fn:=Tryz.f108) Tryz.func108 G (n:=8) Tryz.ntmps108 (T.aO (Rg.aZ G G (T.aO (ab G G (aL G hs.lx G ?_)))));refine au (A:=RT.se) (B:=(RT.int .i64).sl) Tryz.underlying215 G G l4 XT se0 G G XT hs b4 (λQE vP=>?_);refine bM ao G G G G G vP b4 (λNp qi=>?_);replace qi:((RT.int .i64).sl).V M _ s.1 Np:=qi;refine bB ao G qi G (Rg.aZ G G (aM ?_));exact a69
theorem RB {M:aE} {s:Se} {i:Int} {v0:Value} (w0:World) (hs:cG RT.se M w0 v0 s):
  Spec Tryz.prog 72 #[v0,.int .i64 i] w0 (λv w=>v= .int .i64 (rX s.1 i)/\w=w0):=by
 refine aS (args:=[_,_]) (fn:=Tryz.f72) Tryz.func72 G (n:=11) Tryz.ntmps72 (T.aO (Rg.aZ G G (T.aO (ab G G (aL G hs.lx G ?_)))));refine au (A:=RT.se) (B:=(RT.int .i64).sl) Tryz.underlying215 G G l4 XT se0 G G XT hs b4 (λQE vP=>?_);refine bM ao G G G G G vP b4 (λNp qi=>?_);replace qi:((RT.int .i64).sl).V M _ s.1 Np:=qi;refine ab G G ?_;refine aJ G G afJ (Lq _ qi) (λr wc hc=>?_);obtain⟨rfl,rfl⟩:=hc;refine Rg.aZ G G (aM ?_);exact a69
theorem xW {M:aE} {s:Se} {i:Int} {v0:Value} (w0:World) (hs:cG RT.se M w0 v0 s):
  Spec Tryz.prog 73 #[v0,.int .i64 i] w0 (λv w=>v= .int .i64 (rX s.2.1 i)/\w=w0):=by
 refine aS (args:=[_,_]) (fn:=Tryz.f73) Tryz.func73 G (n:=11) Tryz.ntmps73 (T.aO (Rg.aZ G G (T.aO (ab G G (aL G hs.lx G ?_)))));refine au (A:=RT.se) (B:=(RT.int .i64).sl) Tryz.underlying215 G G l4 XT se1 G G XT hs b4 (λQE vP=>?_);refine bM ao G G G G G vP b4 (λNp qi=>?_);replace qi:((RT.int .i64).sl).V M _ s.2.1 Np:=qi;refine ab G G ?_;refine aJ G G afJ (Lq _ qi) (λr wc hc=>?_);obtain⟨rfl,rfl⟩:=hc;refine Rg.aZ G G (aM ?_);exact a69
theorem AY {α:Type} {p:α->Bool}:∀{xs:List α} {i:Nat},i<=xs.length->(∀(k:Nat) x,k<i->xs[k]? =some x->p x=true)->(∀(k:Nat) x,i<=k->xs[k]? =some x->p x=false)->xs.countP p=i
 |[],i,hi,_,_=>by simp at hi;simp[hi]
 |x::xs,0,_,_,h2=>by
  rw[List.countP_eq_zero.2];intro a ha;obtain⟨k,hk⟩:=bG.1 ha;simp[h2 k a (bm _) hk]
 |x::xs,i+1,hi,h1,h2=>by
  rw[List.countP_cons_of_pos (h1 0 x q0 rfl),AY ai7 (λk y hk hy=>h1 (k+1) y q0 an7) (λk y hk hy=>h2 (k+1) y q0 an7)]
theorem GY:∀{xs:List Int} {last:Int},gg last xs=true->(∀x∈xs,last<x)/\xs.Pairwise (· < ·)
 |[],_,_=>⟨(λx h=>by cases h),List.Pairwise.nil⟩
 |x::xs,last,h=>by
  simp only[gg,cp,decide_eq_true_eq]at h;obtain⟨h1,h2⟩:=GY h.2;refine⟨λy hy=>?_,eV.2 ⟨h1,h2⟩⟩;rcases cU.1 hy with rfl|hy
  ·exact h.1
  ·exact Int.lt_trans h.1 (h1 y hy)
end Go.K
namespace Go.K
open Go.Proofs
namespace TKSegB
theorem FO:TI Tryz.prog 249 (.slice none 0 0) 1 24:=by unfold TI;kernel_rfl
theorem ant:Enters Tryz.prog 271:=enters Tryz.func271 rfl XT
theorem anu:Enters Tryz.prog 301:=enters Tryz.func301 rfl XT
theorem anv:Enters Tryz.prog 302:=enters Tryz.func302 rfl XT
end TKSegB
open TKSegB
set_option maxRecDepth 10000
def Oq (ns:List (List UInt8)) (k:List UInt8):Nat:=ns.countP λx=>decide (x<k)
theorem afN {ns:List (List UInt8)} (h:Ef ns) {i j:Nat} {x y:List UInt8} (jt:i<=j) (hx:ns[i]? =some x) (hy:ns[j]? =some y): ¬y<x:=by
 rcases qN jt with rfl|h1
 ·rw[hx]at hy;cases hy;exact kI x
 ·exact kJ (iL h hx hy h1)
theorem Es {ns:List (List UInt8)} (h:Ef ns) {k:List UInt8}:(k∈ns->ns[Oq ns k]? =some k)/\∀x,ns[Oq ns k]? =some x->¬x<k:=by
 have key:∀{ns:List (List UInt8)},Ef ns->(k∈ns->ns[Oq ns k]? =some k)/\∀x,ns[Oq ns k]? =some x->¬x<k:=by
  intro ns
  induction ns with
  |nil=>exact λ_=>⟨(λh=>by cases h),λx h=>by simp at h⟩
  |cons y ns ih=>
   intro h;have h':=eV.1 h;by_cases hy:y<k
   ·have e:Oq (y::ns) k=Oq ns k+1:=by unfold Oq;rw[List.countP_cons_of_pos an7]
    rw[e];simp only[List.getElem?_cons_succ];refine⟨λhk=>(ih h'.2).1 ?_,(ih h'.2).2⟩;rcases cU.1 hk with rfl|hk
    ·exact absurd hy (kI _)
    ·exact hk
   ·have jA:∀x∈ns,¬x<k:=λx hx eZ=>hy (oY (h'.1 x hx) eZ)
    have e:Oq (y::ns) k=0:=by
     unfold Oq;rw[List.countP_eq_zero];intro a ha;rcases cU.1 ha with rfl|ha
     ·simpa using hy
     ·simpa using jA a ha
    rw[e];refine⟨λhk=>?_,λx hx=>by simp at hx;subst hx;exact hy⟩;rcases cU.1 hk with rfl|hk
    ·rfl
    ·exact absurd (h'.1 k hk) hy
 exact key h
def geN (ns:List (List UInt8)) (k:List UInt8) (i:Nat):Bool:=match ns[i]? with|some x=> !decide (x<k)|none=>true
theorem AZ {ns:List (List UInt8)} {k x:List UInt8} {i:Nat} (h:ns[i]? =some x):geN ns k i= !decide (x<k):=by unfold geN;rw[h]
theorem RC {ns:List (List UInt8)} (h:Ef ns) {k:List UInt8}:ns[Oq ns k]? =some k↔k∈ns:=⟨λh=>ax h,(Es h).1⟩
theorem JN {M:aE} {n:Nat} {g:FuncId} {cap:List Value} {good:Nat->Bool} (w0:World) (hg:Enters Tryz.prog g) (Xp:∀i j,i<=j->j<n->good i=true->good j=true) (hn:n<=4611686018427387904) (ht:∀(i:Nat) w,i<n->Step M w0 M w ar->Spec Tryz.prog g ([.int .i64 (i:Int)]++cap:List Value).toArray w (λv w'=>v= .bool (good i)/\Step M w M w' ar)):
  Spec Tryz.prog 301 #[.int .i64 (n:Int),.func (.func g) #[] cap.toArray] w0 (λv w=>∃m:Nat,v= .int .i64 (m:Int)/\m<=n/\(∀i,i<m->good i=false)/\(∀i,m<=i->i<n->good i=true)/\Step M w0 M w ar):=by
 refine aS (args:=[_,_]) (fn:=Tryz.f301) Tryz.func301 G (n:=23) Tryz.ntmps301 (T.aO (Rg.aZ G G (T.aO (Rg.aZ G G (aI (aT ?_))))));refine cR (σ:=Nat×Nat) (λq=>[(0,.int .i64 (q.2:Int)),(1,.func (.func g) #[] cap.toArray),(5,.int .i64 (q.1:Int))]) (λq w=>Step M w0 M w ar/\q.1<=q.2/\q.2<=n/\(∀i,i<q.1->good i=false)/\(∀i,q.2<=i->i<n->good i=true)) (λq=>q.2-q.1) (0,n) a07 ?_ ?_
 ·exact⟨aV,bm _,aX _,λi h=>absurd h (eL _),λi h h'=>by omega⟩
 ·rintro⟨i,j⟩ w ⟨S,jt,hj,h1,h2⟩;dsimp only at jt hj h1 h2 ⊢;refine aI (T.aO (ab G G (ab G G (ck G G G (ad ?_)))));refine bI G (λc2=>?_) (λc2=>?_)
  ·refine aR (aT (T.aO (ab G G (ab G G (ab G G (jy G G G q0 (Rg.zA G G G q0 (br G G G q0 (aY (v':= .int .i64 ((i+(j-i)/2:Nat):Int)) (congrArg _ q0) (aB G G ?_))))))))));refine ad (T.aO (ab G G (ab G G ?_)));refine ng (first:=[]) (captured:=cap) (xs:=[.tmp 17]) G G G hg (vs:=[.int .i64 ((i+(j-i)/2:Nat):Int)]) (ht (i+(j-i)/2) _ q0 S) (λr4 w4 hc=>?_);obtain⟨rfl,s4⟩:=hc;refine aY (v':= .bool (decide (good (i+(j-i)/2)=true))) (by simp) ?_;replace S:=S.av s4;refine ad ?_;refine bI G (λc4=>?_) (λc4=>?_)
   ·refine aN (ab G G (Rg.aZ G G ?_));refine⟨G,(i,i+(j-i)/2),a07,?_,?_⟩
    ·exact⟨S,by dsimp only;omega,by dsimp only;omega,h1,λk hk hkn=>Xp _ _ hk hkn c4⟩
    ·dsimp only;omega
   ·refine aN (ab G G (br G G G q0 (Rg.aZ G G ?_)));refine⟨G,(i+(j-i)/2+1,j),a07,?_,?_⟩
    ·exact⟨S,by dsimp only;omega,hj,λk hk=>by
      cases h:good k with
      |false=>rfl
      |true=>exact absurd (Xp k (i+(j-i)/2) (by dsimp only at hk;omega) q0 h) c4,h2⟩
    ·dsimp only;omega
  ·refine cE (T.aO (ab G G (Rg.aZ G G (aM ?_))));have e:i=j:=by omega
   subst e;exact aP G G ⟨i,G,hj,h1,h2,S⟩
theorem GZ {M:aE} {d:Di} {v0:Value} {i bd bk:Nat} {k x:List UInt8} (w0:World) (hd:cG RT.di M w0 v0 d) (gd:w0.heap[bd]? =some (.cells #[v0] 213 (0,0))) (gk:w0.heap[bk]? =some (.cells #[sv k] 9 (0,0))) (hx:d.1[i]? =some x):
  Spec Tryz.prog 302 #[.int .i64 (i:Int),.pointer (some ⟨bd,0,none⟩),.pointer (some ⟨bk,0,none⟩)] w0 (λv w=>v= .bool (!decide (x<k))/\Step M w0 M w ar):=by
 have hM:True:=trivial;refine aS (args:=[_,_,_]) (fn:=Tryz.f302) Tryz.func302 G (n:=14) Tryz.ntmps302 (T.aO (Rg.aZ G G (aI ?_)));apply wW mixed rfl rfl;intro MI PD;have mM:=PD M;replace gd:=mM.ay gd;replace gk:=mM.ay gk;replace hd:=hd.le XT mM.le;refine aA Tryz.underlying213 G G G gd G (aY (v':=v0) G (Rg.cI (aL G hd.lx G (Rg.cI ?_))));refine au (A:=RT.di) (B:=RT.str.sl) tv G G BW XT di0 G G XT hd b4 (λpn VA=>?_);refine Rg.cI ?_;refine bM aQ G G G G G VA b4 (λvn zj=>?_);replace zj:(RT.str.sl).V M _ d.1 vn:=zj;refine Rg.cI (ab G G (Rg.cI ?_));have sk:=(al.1 hx).1;refine cx aQ I9 G G G zj b4 q0 (λu a hg hu=>?_);obtain rfl:x=a:=aF (hx.symm.trans (by simpa using hg));refine Rg.cI ?_;refine bM aG G G G G G hu b4 (λvx Ax=>?_);obtain rfl:=eJ Ax;refine Rg.cI (aA aG G G G gk G (aY (v':=sv k) G (Rg.cI (Rg.ZJ G G G (Rg.cI (aB G G (Rg.cI (fB (aM ?_)))))))));exact aP rfl rfl ⟨by rw[decide_not],mM⟩
theorem JO {M:aE} {d:Di} {v0:Value} {k:List UInt8} (w0:World) (hM:Lt M w0) (hd:cG RT.di M w0 v0 d) (Et:Ef d.1):
  Spec Tryz.prog 271 #[v0,sv k] w0 (λv w=>v= .tuple #[.int .i64 (Oq d.1 k:Int),.bool (decide (k∈d.1))]/\Step M w0 M w ar):=by
 refine aS (args:=[_,_]) (fn:=Tryz.f271) Tryz.func271 G (n:=33) Tryz.ntmps271 ?_;have S:Step M w0 M w0 ar:=aV;refine T.aO ?_;refine iP M G G (λvu Mt Uz UA eC kG=>?_);replace eC:Mt.heap[vu]? =some (.cells #[v0] 213 (0,0)):=by rw[xQ hd]at eC;exact eC
 obtain⟨G0,A0⟩:∃M',M'=ins M vu:=⟨_,rfl⟩;rw[<-A0]at kG;have pQ:G0 vu:=by rw[A0];exact .inl G
 replace hd:=hd.le XT kG.le;replace hM:=kG.lt hM;have:=S.size;replace S:=S.av kG;refine iP G0 G G (λka xE MS MT fc ju=>?_);obtain⟨gq,iK⟩:∃M',M'=ins G0 ka:=⟨_,rfl⟩;rw[<-iK]at ju;have eo:gq ka:=by rw[iK];exact .inl G
 change xE.heap[ka]? =some (.cells #[sv k] _ _)at fc;have:=ae eC;replace pQ:=(ju.mem _ this).2 pQ;replace eC:=ju.ay eC;replace hd:=hd.le XT ju.le;replace hM:=ju.lt hM;have:=S.size;replace S:=S.av ju;refine aB G G (Rg.aZ G G (T.aO (aA Tryz.underlying213 G G G eC G (aY (v':=v0) G (aL G hd.lx G ?_)))));refine au (A:=RT.di) (B:=RT.str.sl) tv G G BW XT di0 G G XT hd b4 (λpn VA=>?_);refine bM aQ G G G G G VA b4 (λvn zj=>?_);replace zj:(RT.str.sl).V gq _ d.1 vn:=zj;have hnl:=dW zj;refine bB aQ G zj G (gz (xs:=[]) (ys:=[.tmp 2,.tmp 3]) G G G ?_)
 refine aJ G G anu (JN (M:=gq) (n:=d.1.length) (cap:=[.pointer (some ⟨vu,0,none⟩),.pointer (some ⟨ka,0,none⟩)]) (good:=geN d.1 k) _ anv (λi j jt hj h=>by
  have hi:=an (show i<d.1.length by omega);have wR:=an hj;rw[AZ hi]at h;rw[AZ wR];simp only[tA,decide_eq_false_iff_not]at h ⊢;intro eZ;rcases nG d.1[i] d.1[j]with h1|h1|h1
  ·exact h (oY h1 eZ)
  ·rw[h1]at h;exact h eZ
  ·exact afN Et jt hi wR h1) q0 (λi w hi s=>by
  have hx:=an hi;rw[AZ hx];exact GZ w (hd.le XT s.le) (s.ay eC) (s.ay fc) hx)) (λr1 w1 hc=>?_)
 obtain⟨m,rfl,hm,O4,hhi,s1⟩:=hc;have em:Oq d.1 k=m:=AY hm (λi x hi hx=>by have:=O4 i hi;rw[AZ hx]at this;simpa using this) (λi x hi hx=>by have:=hhi i hi (al.1 hx).1;rw[AZ hx]at this;simpa using this);have:=ae eC;replace pQ:=(s1.mem _ this).2 pQ;replace eC:=s1.ay eC;have:=ae fc;replace eo:=(s1.mem _ this).2 eo;replace fc:=s1.ay fc;replace hd:=hd.le XT s1.le;replace hM:=s1.lt hM;have:=S.size;replace S:=S.av s1;refine Rg.aZ G G (aI ?_);apply wW mixed rfl rfl;intro wD2 sA2;have CP:=sA2 gq;have:=ae eC;replace pQ:=(CP.mem _ this).2 pQ;replace eC:=CP.ay eC;have:=ae fc;replace eo:=(CP.mem _ this).2 eo;replace fc:=CP.ay fc;replace hd:=hd.le XT CP.le;replace hM:=CP.lt hM;have:=S.size;replace S:=S.av CP;refine ab G G (Rg.cI (ab G G (Rg.cI (aA Tryz.underlying213 G G G eC G (aY (v':=v0) G (Rg.cI (aL G hd.lx G (Rg.cI ?_))))))));refine au (A:=RT.di) (B:=RT.str.sl) tv G G BW XT di0 G G XT hd b4 (λpn2 anx=>?_);refine Rg.cI ?_;refine bM aQ G G G G G anx b4 (λvn2 aay=>?_);replace aay:(RT.str.sl).V gq _ d.1 vn2:=aay;refine Rg.cI (bB aQ G aay G (Rg.cI (ck G G G (Rg.cI (ab G G (Rg.cI ?_))))));refine aW (g:=22) G (λanz=>?_) (λanz=>?_)
 ·refine ah G G (aA Tryz.underlying213 G G G eC G (aY (v':=v0) G (Rg.cI (ah G G (aL G hd.lx G (Rg.cI (ah G G ?_)))))));refine au (A:=RT.di) (B:=RT.str.sl) tv G G BW XT di0 G G XT hd b4 (λpn3 anA=>?_);refine Rg.cI (ah G G ?_);refine bM aQ G G G G G anA b4 (λvn3 aaz=>?_);replace aaz:(RT.str.sl).V gq _ d.1 vn3:=aaz;refine Rg.cI (ah G G (ab G G (Rg.cI (ah G G ?_))));refine cx aQ I9 G G G aaz b4 q0 (λu2 x hg2 j3=>?_);rw[aq]at hg2;refine Rg.cI (ah G G ?_);refine bM aG G G G G G j3 b4 (λvx Ax=>?_);obtain rfl:=eJ Ax;refine Rg.cI (ah G G (aA aG G G G fc G (aY (v':=sv k) G (Rg.cI (ah G G (Rg.zC G G G (Rg.cI (a8 G G G (Rg.cI (aB G G (Rg.cI ?_)))))))))));refine aB G G (Rg.cI (fB (aM ?_)));rw[<-em]at*
  first
  |(have e:decide (x=k)=decide (k∈d.1):=decide_eq_decide.2 (by rw[<-RC Et,hg2];simp)
    exact eS rfl rfl rfl ⟨by rw[e],S.back⟩)
  |(have e:k∉d.1:=λh=>by have:=(Es Et).1 h;have:=(al.1 this).1;omega
    exact eS rfl rfl rfl ⟨by rw[decide_eq_false e],S.back⟩)
 ·refine ak G G G G (Rg.cI (ak G G G G (Rg.cI (ak G G G G (Rg.cI (ak G G G G (Rg.cI (ak G G G G (Rg.cI (ak G G G G (Rg.cI ?_)))))))))));refine ak G G G G (Rg.cI (ak G G G G (Rg.cI (ak G G G G (Rg.cI (aD G G G (Rg.cI (aB G G (Rg.cI (aB G G (Rg.cI ?_)))))))))));refine fB (aM ?_);rw[<-em]at*
  first
  |(have e:decide (x=k)=decide (k∈d.1):=decide_eq_decide.2 (by rw[<-RC Et,hg2];simp)
    exact eS rfl rfl rfl ⟨by rw[e],S.back⟩)
  |(have e:k∉d.1:=λh=>by have:=(Es Et).1 h;have:=(al.1 this).1;omega
    exact eS rfl rfl rfl ⟨by rw[decide_eq_false e],S.back⟩)
theorem find_spec {M:aE} {d:Di} {v0:Value} {k:List UInt8} (w0:World) (hM:Lt M w0) (hd:cG RT.di M w0 v0 d) (Et:Ef d.1) (hl:d.1.length=d.2.length):
  Spec Tryz.prog 218 #[v0,sv k] w0 (λv w=>Step M w0 M w ar/\((∃(j:Nat) (p:Value) (t:Li),v= .tuple #[p,.bool true]/\d.1[j]? =some k/\d.2[j]? =some t/\cG RT.li M w p t)\/(v= .tuple #[.pointer none,.bool false]/\k∉d.1))):=by
 refine aS (args:=[_,_]) (fn:=Tryz.f218) Tryz.func218 G (n:=25) Tryz.ntmps218 ?_;have S:Step M w0 M w0 ar:=aV;refine T.aO (aB G G (Rg.aZ G G (T.aO (ab G G (ab G G ?_)))));refine aJ G G ant (JO _ hM hd Et) (λr1 w1 hc=>?_);obtain⟨rfl,s1⟩:=hc;replace hd:=hd.le XT s1.le;replace hM:=s1.lt hM;have:=S.size;replace S:=S.av s1;refine ab G G (b9 G G G (b9 G G G (aB G G (Rg.aZ G G (aI (T.aO (ab G G (gM G G (aY (v':= .bool (decide (k∉d.1))) (by simp) ?_)))))))));refine ad ?_;refine bI G (λc2=>?_) (λc2=>?_)
 ·refine T.aO (Rg.aZ G G (T.aO (ab G G (aB G G (Rg.aZ G G (aM ?_))))));exact eS G G G ⟨S,.inr ⟨G,c2⟩⟩
 ·refine aR (T.aO (ab G G (aL G hd.lx G ?_)));refine au (A:=RT.di) (B:=((RT.li).ptr).sl) tv G G FO XT di1 G G XT hd b4 (λpt hpt=>?_);refine bM ey G G G G G hpt b4 (λvt TZ=>?_);replace TZ:(((RT.li).ptr).sl).V M _ d.2 vt:=TZ;refine ab G G ?_;have hk:=(Es Et).1 (db.1 c2);have Im:=(al.1 hk).1;refine cx ey tY G G G TZ b4 q0 (λu5 t MG rS=>?_);rw[aq]at MG;refine bM dT G G G G G rS b4 (λvp hvp=>?_);have anC:=K9.1 hvp;refine aB G G (Rg.aZ G G (aM ?_));exact eS G G G ⟨S,.inl ⟨_,_,t,G,hk,MG,anC⟩⟩
end Go.K
namespace Go.K
open Go.Proofs
set_option maxRecDepth 10000
def qA (ns:List (List UInt8)) (ls:List (List Po)) (k:List UInt8):List Po:=match (ns.zip ls).find? (λp=>decide (p.1=k))with|some p=>p.2|none=>[]
theorem RD {ns:List (List UInt8)} (hn:ns.Nodup) {ls:List (List Po)} {k:List UInt8} {j:Nat} {l:List Po} (h:ns[j]? =some k) (hl:ls[j]? =some l):qA ns ls k=l:=by
 have:∀{ns:List (List UInt8)} {ls:List (List Po)} {j:Nat},ns.Nodup->ns[j]? =some k->ls[j]? =some l->(ns.zip ls).find? (λp=>decide (p.1=k))=some (k,l):=by
  intro ns
  induction ns with
  |nil=>intro ls j _ h;simp at h
  |cons x ns ih=>
   intro ls j hn h hl
   cases ls with
   |nil=>simp at hl
   |cons y ls=>
    cases j with
    |zero=>simp at h hl;subst h;subst hl;simp
    |succ j=>
     have W3:=qG.1 hn;have hk:k∈ns:=ax a68;have hx:x≠k:=λe=>W3.1 (by rw[e];exact hk)
     rw[List.zip_cons_cons,List.find?_cons_of_neg af1];exact ih W3.2 a68 (by simpa using hl)
 unfold qA;rw[this hn h hl]
theorem G1 {ns:List (List UInt8)} {ls:List (List Po)} {k:List UInt8} (h:k∉ns):qA ns ls k=[]:=by
 unfold qA;rw[List.find?_eq_none.2 λp hp=>by have:=List.of_mem_zip hp;simp;intro e;exact h (e▸this.1)]
theorem Eu {L:List En} (k:List UInt8):qA (keysOf L) ((keysOf L).map (pk L)) k=pk L k:=by
 by_cases h:k∈keysOf L
 ·obtain⟨j,hj⟩:=bG.1 h;exact RD (nH L).nodup hj (by rw[cD,hj];rfl)
 ·rw[G1 h];exact(K8 0 (λh'=>h (mS.2 h'))).symm
def yG (d:Di) (k:List UInt8) (M:aE) (v:Value) (w:World):Prop:=(∃(j:Nat) (t:Li),d.1[j]? =some k/\d.2[j]? =some t/\cG RT.li M w v t)\/(v= .pointer none/\k∉d.1)
theorem yG.step {d:Di} {k:List UInt8} {M M':aE} {v:Value} {w w':World} (h:yG d k M v w) (s:Step M w M' w' ar):yG d k M' v w':=h.imp (fun⟨j,t,h1,h2,h3⟩=>⟨j,t,h1,h2,h3.le XT s.le⟩) id
theorem Nq {M:aE} {t:Fd} (w0:World) (hM:Lt M w0) (h1:t.1.length<=140737488355328) (h2:t.2.length<=140737488355328):
  Spec Tryz.prog 95 #[kv t] w0 (λv w=>v= .string ⟨(cN t).toArray⟩/\Step M w0 M w ar):=by
 refine aS (args:=[_]) (fn:=Tryz.f95) Tryz.func95 G (n:=9) Tryz.ntmps95 ?_;have S:Step M w0 M w0 ar:=aV;refine T.aO ?_;refine gR (A:=RT.fd) G G hM (D9 q0 q0) G (λu0 w1 dB s0 _=>?_);replace hM:=s0.lt hM;have:=S.size;replace S:=S.av s0;refine Rg.aZ G G (T.aO ?_);refine au (M:=M) (A:=RT.fd) (B:=RT.str) bR G G I9 XT (MM) G G XT a00 (by repeat (first|exact bN _ _|refine bp (bO a00) ?_)) (λB5 lQ=>?_);refine bM aG G G G G G lQ b4 (λv1 nu=>?_);obtain rfl:=eJ nu;refine Rg.cat (p:=t.1) (q:=[0]) rfl rfl rfl a13 ?_;refine au (M:=M) (A:=RT.fd) (B:=RT.str) bR G G I9 XT (Zk) G G XT a00 (by repeat (first|exact bN _ _|refine bp (bO a00) ?_)) (λUP kH=>?_);refine bM aG G G G G G kH b4 (λv4 qb=>?_);obtain rfl:=eJ qb;refine Rg.cat (p:=t.1++[0]) (q:=t.2) rfl rfl rfl a13 (Rg.aZ rfl rfl (aM ?_));exact aP G G ⟨G,S⟩
namespace TKCursor
theorem k4:TI Tryz.prog 117 (.slice none 0 0) 1 24:=by unfold TI;kernel_rfl
theorem aaA:TI Tryz.prog 323 (.agg #[(.pointer none),(.int .i64 0),(.slice none 0 0),(.int .i64 0),(.int .i64 0)]) 5 56:=by unfold TI;kernel_rfl
theorem aaB:placesOf Tryz.prog 323=[(0,1),(1,1),(2,1),(3,1),(4,1)].map some:=by kernel_rfl
theorem Ac:Enters Tryz.prog 100:=enters BO rfl XT
theorem afP:Enters Tryz.prog 220:=enters Tryz.func220 rfl XT
end TKCursor
open TKCursor
set_option maxRecDepth 10000
theorem nL {l:List Po} {j:Nat} {p:Po} (h:l[j]? =some p):(lL l (j:Int))[0]? =some p:=by
 unfold lL;rw[if_neg q0,aq,dE,if_pos q0,lF];simpa using h
theorem JP {l:List Po} {i:Int} (h:(l.length:Int)<=i):lL l i=[]:=by
 unfold lL;rw[if_neg q0,fq q0,List.take_nil]
theorem Nr {M:aE} {w0:World} {q:Addr} {l:List Po} (hv:cG RT.li M w0 (.pointer (some q)) (j5 l)):
  Spec Tryz.prog 219 #[.pointer (some q)] w0 (λv' w'=>∃bc,v'= .pointer (some ⟨bc,0,none⟩)/\w0.heap.size<=bc/\Step M w0 (ins M bc) w' ar/\Cu 323 l (-1) (ins M bc) w' bc):=by
 refine aS (args:=[_]) (fn:=Tryz.f219) Tryz.func219 G (n:=12) Tryz.ntmps219 (T.aO (Rg.aZ G G (aI (T.aO (ab G G (Rg.zN (v:= .pointer (some q)) dT G ⟨_,G⟩ G G (aY (v':= .bool (decide False)) G (ad ?_))))))));refine yK G ((λh=>h)) (aR (T.aO (ab rfl rfl (dp (places:=[(0,1),(1,1),(2,1),(3,1),(4,1)]) bX aaA aaB rfl ⟨_,_,rfl,rfl,_,_,rfl,rfl,_,_,rfl,rfl,rfl⟩ (out:=[_,_,.slice none 0 0,_,.int .i64 0]) ⟨0,[_],rfl,rfl,by simp[Value.cells],1,[_],rfl,rfl,by simp[Value.cells],3,[_],rfl,rfl,by simp[Value.cells],rfl⟩ ?_))));refine iP M G G (λbc w1 h1 Uk hS s1=>?_);refine Rg.aZ G G (aM ?_);exact aP G G ⟨bc,G,h1,s1,.pointer (some q),.slice none 0 0,-1,0,.inl G,hS,hv.le XT s1.le,gC,by omega,by omega,λ_=>rfl,λh=>by omega⟩
theorem G2 {M:aE} {w0:World} {bc:Nat} {l:List Po} {i:Int} (h:Cu 323 l i M w0 bc) (hm:eN (-1) l=true):
  Spec Tryz.prog 220 #[.pointer (some ⟨bc,0,none⟩)] w0 (λv' w'=>v'= .bool (decide (0<=i/\i<l.length))/\w0=w'):=by
 obtain⟨p,u,k,Fv,yW,hb,hp,hu,hi,hk,O5,qJ⟩:=id h;have mL:=Fu hm (i:=i);refine aS (args:=[_]) (fn:=Tryz.f220) Tryz.func220 G (n:=15) Tryz.ntmps220 (T.aO (Rg.aZ G G (T.aO (ab G G (aL G ⟨_,G⟩ G (aK bX G G I3 XT G G (aA aj G G G a00 G (eh G G G ?_))))))));refine ab G G ?_;refine aW (g:=8) G (λj8=>?_) (λj8=>?_)
 ·refine ah G G (ab G G (ah G G (aL G ⟨_,G⟩ G (ah G G (aK bX G G I3 XT G G (ah G G (aA aj G G G a00 G (ah G G (ck G G G (a8 G G G (aB G G ?_)))))))))));refine ad (aM ?_)
  first
  |exact a74
  |exact a71
 ·refine ak G G G G (ak G G G G (ak G G G G (ak G G G G (ak G G G G (aD G G G (Rg.aZ G G (aM ?_)))))))
  first
  |exact a74
  |exact a71
theorem G3 {M:aE} {w0:World} {v:Value} {b:List Int} (hM:Lt M w0) (hv:((RT.int .i64).sl).V M w0 b v) (Cb:b.length<=1099511627776):
  Spec Tryz.prog 100 #[v] w0 (λv' w'=>((RT.int .i64).sl).V M w' b v'∧Step M w0 M w' ar):=by
 obtain⟨a,cap,o7,hc,hl,hs⟩:=iX.1 hv;refine aS (args:=[_]) (fn:=Tryz.f100) BO G (n:=8) Tryz.ntmps100 (T.aO (Rg.aZ G G (aI (T.aO (ab G G (aY (v':= .slice a b.length cap) o7 (Rg.lY ao G G G (ad ?_))))))));refine bI G (λc1=>?_) (λc1=>?_)
 ·refine T.aO (Rg.aZ G G (aM ?_))
  have hb:b=[]:=by
   rcases hs with h|⟨_,_,h,_⟩
   ·exact h
   ·rw[c1]at h;cases h
  exact aP rfl rfl ⟨by rw[hb];exact gC,aV⟩
 ·refine aR (T.aO ?_);refine Rg.sl0 ao I3 M G (λa0 w1 s1=>?_);refine ab G G ?_;refine Rg.oH (A:=RT.int .i64) (hn:=by decide) (M:=M) ao I3 G G G G hv s1.le (s1.lt hM) q0 (λu2 w2 j3 s2=>?_);refine Rg.aZ G G (aM ?_);exact aP G G ⟨j3,s1.av s2⟩
theorem Ev {M:aE} {w0:World} {bc:Nat} {l:List Po} {i:Int} (h:Cu 323 l i M w0 bc) (hm:eN (-1) l=true) (qm:∀p∈l,p.2.length<=1099511627776) (hM:Lt M w0):
  Spec Tryz.prog 167 #[.pointer (some ⟨bc,0,none⟩)] w0 (λv' w'=>((RT.int .i64).sl).V M w' (gG l i) v'∧Step M w0 M w' ar):=by
 obtain⟨p,u,k,Fv,yW,hb,hp,hu,hi,hk,O5,qJ⟩:=id h;refine aS (args:=[_]) (fn:=Tryz.f167) Tryz.func167 G (n:=14) Tryz.ntmps167 (T.aO (Rg.aZ G G (aI (T.aO (ab G G ?_)))));refine aJ G G afP (G2 h hm) (λr wc h=>?_);obtain⟨rfl,rfl⟩:=h;refine gM G G (aY (v':= .bool (decide (¬(0<=i/\i<l.length)))) (by rw[decide_not]) (ad ?_));refine bI G (λc1=>?_) (λc1=>?_)
 ·have jj:gG l i=[]:=by
   rcases eX l i with⟨_,_,h0⟩|⟨j,d,ps,rfl,hx,_⟩|⟨_,_,h0⟩
   ·exact h0
   ·have:=(al.1 hx).1;omega
   ·exact h0
  refine T.aO (Rg.aZ G G (aM ?_));exact aP rfl rfl ⟨by rw[jj];exact gC,aV⟩
 ·obtain⟨j,d,ps,rfl,hx,hd,yo⟩:∃j:Nat,∃d ps,i=j/\l[j]? =some (d,ps)/\eB l i=d/\gG l i=ps:=by
   rcases eX l i with⟨h0,_⟩|h0|⟨h0,_⟩
   ·omega
   ·exact h0
   ·omega
  have hh:=nL hx;have hhl:=(al.1 hh).1;refine aR (T.aO (ab G G (aL G ⟨_,G⟩ G (aK bX G G k4 XT G G (aA bC G G G a00 G ?_)))));refine cx bC jl G G G (hu) b4 a62 (λZg aaC RE afQ=>?_);obtain rfl:(d,ps)=aaC:=dV (aF (RE.symm.trans (by simpa using hh)));refine au (M:=M) (A:=RT.po) (B:=(RT.int .i64).sl) cv G G l4 XT (Yp) G G XT a00 (by repeat (first|exact bN _ _|refine bp (bO a00) ?_)) (λZ9 Ri=>?_);refine bM (M:=M) ao G G G G G a00 (by repeat (first|exact bN _ _|refine bp (bO a00) ?_)) (λVn yE=>?_);replace yE:((RT.int .i64).sl).V M _ ps Vn:=yE;refine aJ G G Ac (G3 (M:=M) hM yE (qm _ (ax hx))) (λr wr h=>?_);obtain⟨hr,sr⟩:=h;refine Rg.aZ G G (aM ?_);exact aP rfl rfl ⟨by rw[yo];exact hr,sr⟩
theorem G4 {M:aE} {w0:World} {bc:Nat} {l:List Po} {i:Int} (h:Cu 323 l i M w0 bc) (hm:eN (-1) l=true):
  Spec Tryz.prog 165 #[.pointer (some ⟨bc,0,none⟩)] w0 (λv' w'=>v'= .int .i64 (gG l i).length/\w0=w'):=by
 obtain⟨p,u,k,Fv,yW,hb,hp,hu,hi,hk,O5,qJ⟩:=id h;refine aS (args:=[_]) (fn:=Tryz.f165) Tryz.func165 G (n:=14) Tryz.ntmps165 (T.aO (Rg.aZ G G (aI (T.aO (ab G G ?_)))));refine aJ G G afP (G2 h hm) (λr wc h=>?_);obtain⟨rfl,rfl⟩:=h;refine gM G G (aY (v':= .bool (decide (¬(0<=i/\i<l.length)))) (by rw[decide_not]) (ad ?_));refine bI G (λc1=>?_) (λc1=>?_)
 ·have jj:gG l i=[]:=by
   rcases eX l i with⟨_,_,h0⟩|⟨j,d,ps,rfl,hx,_⟩|⟨_,_,h0⟩
   ·exact h0
   ·have:=(al.1 hx).1;omega
   ·exact h0
  refine T.aO (Rg.aZ G G (aM ?_));exact aP rfl rfl ⟨by rw[jj];rfl,rfl⟩
 ·obtain⟨j,d,ps,rfl,hx,hd,yo⟩:∃j:Nat,∃d ps,i=j/\l[j]? =some (d,ps)/\eB l i=d/\gG l i=ps:=by
   rcases eX l i with⟨h0,_⟩|h0|⟨h0,_⟩
   ·omega
   ·exact h0
   ·omega
  have hh:=nL hx;have hhl:=(al.1 hh).1;refine aR (T.aO (ab G G (aL G ⟨_,G⟩ G (aK bX G G k4 XT G G (aA bC G G G a00 G ?_)))));refine cx bC jl G G G (hu) b4 a62 (λZg aaC RE afQ=>?_);obtain rfl:(d,ps)=aaC:=dV (aF (RE.symm.trans (by simpa using hh)));refine au (M:=M) (A:=RT.po) (B:=(RT.int .i64).sl) cv G G l4 XT (Yp) G G XT a00 (by repeat (first|exact bN _ _|refine bp (bO a00) ?_)) (λZ9 Ri=>?_);refine bM (M:=M) ao G G G G G a00 (by repeat (first|exact bN _ _|refine bp (bO a00) ?_)) (λVn yE=>?_);replace yE:((RT.int .i64).sl).V M _ ps Vn:=yE;refine bB ao G yE G (Rg.aZ G G (aM ?_));exact aP rfl rfl ⟨by rw[yo],rfl⟩
def kL (l:List Po) (i:Int):Int:=if i<l.length then i+1 else i
theorem RF {l:List Po} (hm:eN (-1) l=true) {i:Int} (hi: -1<=i/\i<=l.length):tS l i (min (eB l i+1) 2147483648)=kL l i:=by
 unfold tS kL;rcases eX l i with⟨h0,h,_⟩|⟨j,d,ps,rfl,hx,h,_⟩|⟨h0,h,_⟩
 ·rw[h,if_neg q0,if_pos q0];rw[idx_eq (i:=0) (λj hj=>absurd hj (eL _)) (λp hp=>by have:=kF hm (i:=0) (d:=p.1) (ps:=p.2) hp;omega) (bm _)];omega
 ·have hr:=kF hm hx;have hj:=(al.1 hx).1;rw[h,if_neg q0,if_pos q0];rw[idx_eq (i:=j+1) (λt ht p hp=>?_) (λp hp=>?_) q0]
  ·omega
  ·rcases cL t j with h1|h1
   ·have:=nD hm hp hx h1;simp only at this;omega
   ·rw[show t=j from by omega,hx]at hp;cases hp;simp only;omega
  ·have h1:=nD hm hx hp q0;have h2:=kF hm (i:=j+1) (d:=p.1) (ps:=p.2) hp;simp only at h1;omega
 ·rw[h,if_pos q0,if_neg q0]
end Go.K
namespace Go.K
open Go.Proofs
namespace TKIdx
theorem anE:Enters Tryz.prog 225:=enters Tryz.func225 rfl XT
end TKIdx
open TKIdx
set_option maxRecDepth 10000
theorem Nt {M:aE} {w0:World} {x:Value} {d to:Int} {bt:Nat} (hM:Lt M w0) (hb:w0.heap[bt]? =some (.cells #[.int .i64 to] 3 (0,0))):
  Spec Tryz.prog 225 #[.agg #[.int .i64 d,x],.pointer (some ⟨bt,0,none⟩)] w0 (λv' w'=>v'= .bool (decide (to<=d))/\Step M w0 M w' ar):=by
 refine aS (args:=[_,_]) (fn:=Tryz.f225) Tryz.func225 G (n:=8) Tryz.ntmps225 (T.aO ?_);refine iP M G G (λbx w1 h1 Uk hS s1=>?_);change w1.heap[bx]? =some (.cells #[.int .i64 d,x] _ _)at hS;have ua:=s1.ay hb;refine Rg.aZ G G (T.aO (aK cv G G I3 XT G G (aA aj G G G a00 G (aA aj G G G a00 G (eh G G G (Rg.aZ G G (aM ?_)))))));exact aP G G ⟨G,s1.back⟩
set_option maxHeartbeats 2000000 in
theorem vX {M:aE} {w0:World} {v:Value} {lf:List Po} {to:Int} {bt:Nat} (hM:Lt M w0) (hv:((RT.po).sl).V M w0 lf v) (hb:w0.heap[bt]? =some (.cells #[.int .i64 to] 3 (0,0))):
  Spec Tryz.prog 224 #[v,.func (.func 225) #[] #[.pointer (some ⟨bt,0,none⟩)]] w0 (λv' w'=>v'= .int .i64 (if idx lf to<lf.length then(idx lf to:Int)else-1)/\Step M w0 M w' ar):=by
 have hlen:=dW hv;refine aS (args:=[_,_]) (fn:=Tryz.f224) Tryz.func224 G (n:=19) Tryz.ntmps224 (T.aO (Rg.aZ G G (aI (T.aO (ab G G (bB bC G hv G (ab G G (ad ?_))))))));refine aT ?_;refine cR (σ:=Nat) (λs=>[(0,v),(1,.func (.func 225) #[] #[.pointer (some ⟨bt,0,none⟩)]),(7,.int .i64 lf.length),(8,.int .i64 s)]) (λs w=>s<=lf.length/\Step M w0 M w ar/\∀j,j<s->∀p,lf[j]? =some p->p.1<to) (λs=>lf.length-s) 0 a01 ?_ ?_
 ·exact⟨bm _,aV,λj hj=>absurd hj (eL _)⟩
 ·rintro k w1 ⟨hk,S,eZ⟩;refine T.aO (ck G G G (ad (aI ?_)));refine bI G (λc2=>?_) (λc2=>?_)
  ·refine aR (aI (aT (T.aO (ab G G (Rg.aZ G G (T.aO (ab G G (ab G G ?_))))))));refine ab G G ?_;obtain⟨⟨d,ps⟩,hx⟩:∃x,(lf)[k]? =some x:=⟨_,an q0⟩;refine cx bC jl G G G (hv.le S.le) b4 a62 (λadX anF afR ast=>?_);obtain rfl:(d,ps)=anF:=dV (aF (afR.symm.trans af1));refine bZ (M:=M) (A:=RT.po) cv G jl XT G G G a00 (by repeat (first|exact bN _ _|refine bp (bO a00) ?_)) (λaw8 afS=>?_);obtain⟨x4,rfl,_,_⟩:=Ys afS;refine ng (first:=[]) (captured:=[.pointer (some ⟨bt,0,none⟩)]) (xs:=[.tmp 15]) G G G anE (Nt (M:=M) (d:=d) (x:=x4) (S.lt hM) (S.ay hb)) (λr w2 h2=>?_);obtain⟨rfl,s2⟩:=h2;refine ad ?_;refine bI G (λc4=>?_) (λc4=>?_)
   ·refine T.aO (ab G G (Rg.aZ G G (aM ?_)));have he:idx lf to=k:=idx_eq eZ (λp hp=>by rw[hx]at hp;cases hp;exact c4) hk;exact aP rfl rfl ⟨by rw[he,if_pos q0],S.av s2⟩
   ·refine aR (aN (br G G G q0 (ab G G (ad ?_))));refine⟨G,k+1,a01,?_,?_⟩
    ·refine ⟨by omega,S.av s2,λj hj p hp=> ?_⟩;rcases cL j k with hjk|hjk
     ·exact eZ j hjk p hp
     ·rw[show j=k from by omega,hx]at hp;cases hp;simp only;omega
    ·show _-(k+1)<_-k;omega
  ·refine cE (T.aO (Rg.aZ G G (aM ?_)))
   have he:idx lf to=lf.length:=by
    obtain rfl:k=lf.length:=by omega
    exact idx_eq eZ (λp hp=>by simp at hp) (aX _)
   exact aP rfl rfl ⟨by rw[he,if_neg q0],S⟩
end Go.K

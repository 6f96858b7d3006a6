/- What the law 'MatchMatches' needs of walks and plain Lean, part 7: nothing is assumed beyond the texts that it imports. -/
import Derived.KernelRfl
import Derived.Test.YtaobajlebdchhaaGreatDoorProg
import Derived.Test.YtaobajlebdchhaaGreatDoorZMatchMatches1
import Derived.Test.YtaobajlebdchhaaGreatDoorZMatchMatches2
import Derived.Test.YtaobajlebdchhaaGreatDoorZMatchMatches3
import Derived.Test.YtaobajlebdchhaaGreatDoorZMatchMatches4
import Derived.Test.YtaobajlebdchhaaGreatDoorZMatchMatches5
import Derived.Test.YtaobajlebdchhaaGreatDoorZMatchMatches6
set_option linter.unusedVariables false
set_option linter.unusedSimpArgs false
namespace Go.K
open Go.Proofs
namespace TKMatches13
theorem I4:TI Tryz.prog 4 (.bool false) 1 1:=by unfold TI;kernel_rfl
theorem gg:TI Tryz.prog 28 (.agg #[(.int .i64 0),(.string ⟨#[]⟩),(.string ⟨#[]⟩),(.slice none 0 0),(.slice none 0 0)]) 5 88:=by unfold TI;kernel_rfl
theorem E10:Enters Tryz.prog 10:=enters Tryz.func10 rfl Tg
theorem E11:Enters Tryz.prog 11:=enters Tryz.func11 rfl Tg
theorem E12:Enters Tryz.prog 12:=enters Tryz.func12 rfl Tg
theorem E13:Enters Tryz.prog 13:=enters Tryz.func13 rfl Tg
theorem E14:Enters Tryz.prog 14:=enters Tryz.func14 rfl Tg
theorem E15:Enters Tryz.prog 15:=enters Tryz.func15 rfl Tg
theorem E16:Enters Tryz.prog 16:=enters Tryz.func16 rfl Tg
theorem E17:Enters Tryz.prog 17:=enters Tryz.func17 rfl Tg
theorem E20:Enters Tryz.prog 20:=enters Tryz.func20 rfl Tg
theorem E21:Enters Tryz.prog 21:=enters Tryz.func21 rfl Tg
theorem E22:Enters Tryz.prog 22:=enters Tryz.func22 rfl Tg
end TKMatches13
open TKMatches13
set_option maxRecDepth 10000
theorem VD {L:List En} {q:Qy} {a:List Bool} (hl:a.length=L.length):(if fP q 1=0 then iq (λe=>eF e.1.2 q) 0 L else[]).filter (λp=> !lA a p)=if fP q 1=0 then jk L a q L.length else[]:=by
 split
 ·unfold jk;rw[vU];refine List.filter_congr λp hp=> ?_
  have:=nC hp;unfold lA;rw[decide_eq_true (show(0:Int)<=p.1 by omega),dr,Bool.not_not]
 ·rfl
theorem vR {M:aM} {l:List Dc} {n:Nat} {q:Qy} {lv:List Bool} {v0 v1 v2:Value} {w0:World} (hM:Lt M w0) (hv:(RT.dc.sl).V M w0 l v0) (hq:(RT.qy (n+1)).V M w0 q v1) (lC:CW q) (JT:(RT.bool.sl).V M w0 lv v2) (h0: ¬M 1) (tab:∃e fr,w0.heap[1]? =some (.cells (Hv.map fun(k:Nat)=>Value.int .u8 (k:Int)).toArray e fr)):
  Spec Tryz.prog 6 #[v0,v1,v2] w0 (λv w=>v= .bool true/\Step M w0 M w aC):=by
 have gv:=hM;obtain⟨NJ,NK,EI⟩:=tab;have hgl:=l5 l 0 1 12;obtain⟨fa,_⟩:=GI l (show(0:Int)<=0 by decide) (show(1:Int)<=1 by decide) 12;have ahD:∀e∈(eO l 0 1 12),(∀f∈e.1.2,f.1.length<=900000/\f.2.length<=900000)/\e.1.2.length<=1000000:=λe he=>⟨λf hf=>AG e he f hf,(by have:=(kB fa e he).few;omega)⟩
 have VK:=CS q 1 Tg;have VE:=K3 _ _ VK;refine bh (args:=[_,_,_]) (fn:=Tryz.f6) Tryz.func6 G (n:=75) Tryz.ntmps6 ?_;have S:Step M w0 M w0 aC:=aV;refine T.aQ ?_;refine ef (A:=RT.qy (n+1)) (a:=q) G G hM hq (dK _) (λu4 Eg xM iA _=>?_);replace hv:=hv.le iA.le;replace hq:=hq.le iA.le;replace JT:=JT.le iA.le;replace hM:=iA.lt hM;have:=S.size;replace S:=S.aw iA;refine Rg.aZ G G (T.aQ (ab G G ?_));refine aP G G E10 (Ib (most:=12) (a:=0) (s:=1) _ hM hv Tg Tg Tg) (λr1 w1 hc=>?_);obtain⟨hg,s1⟩:=hc;replace hv:=hv.le s1.le;replace JT:=JT.le s1.le;replace xM:=xM.le (aG _) s1.le;replace hM:=s1.lt hM;have:=S.size;replace S:=S.aw s1;refine Rg.aZ G G (T.aQ ?_);refine bN (A:=RT.qy (n+1)) ak G (IQ gg _) (aG _) (dK _) G G xM bS (λv20 Q8=>?_);refine aP G G E17 (Bn 3 (n+1) (deep:=1) _ hM Q8 lC G) (λr21 w21 hc=>?_);obtain⟨Eu,SB⟩:=hc;replace JT:=JT.le SB.le;replace xM:=xM.le (aG _) SB.le;replace hg:=hg.le SB.le;replace hM:=SB.lt hM;have:=S.size;replace S:=S.aw SB;refine pT (A:=RT.qy 3) (M:=M) (IQ gg _) (by rw[Dy];rfl) (dK _) rfl rfl rfl Eu bS hM (λu8 wn2 Ax sn2 _=>?_);replace JT:=JT.le sn2.le;replace xM:=xM.le (aG _) sn2.le;replace hg:=hg.le sn2.le;replace Eu:=Eu.le sn2.le;replace hM:=sn2.lt hM;have:=S.size;replace S:=S.aw sn2
 skip
 refine ad (T.aQ (ab G G ?_));refine aP G G E11 (I0 _ hM hg AG q0 fa) (λrb3 wb3 hc=>?_);obtain⟨sa3,rfl,Bx,sb3⟩:=hc;obtain⟨aa3,rfl⟩:=Bx.mC;replace JT:=JT.le sb3.le;replace xM:=xM.le (aG _) sb3.le;replace hg:=hg.le sb3.le;replace Eu:=Eu.le sb3.le;replace Ax:=Ax.le (aG _) sb3.le;replace hM:=sb3.lt hM;have:=S.size;replace S:=S.aw sb3;refine ab G G (cI G G G (cI G G G (aN G G (Rg.aZ G G (T.aQ (ab G G (bC eG G hg G ?_)))))));refine aP G G E20 (xj (M:=M) (n:=(eO l 0 1 12).length) q0) (λr42 w42 hc=>?_);obtain⟨bs,bw,rfl,z1,z2,VF,jT⟩:=hc;have hz0:=S.size;generalize ins (ins M bw) bs=Mb at VF jT;replace JT:=JT.le VF.le;replace xM:=xM.le (aG _) VF.le;replace hg:=hg.le VF.le;replace Eu:=Eu.le VF.le;replace Ax:=Ax.le (aG _) VF.le;replace Bx:=Bx.le Tg VF.le;replace hM:=VF.lt hM;have:=S.size;replace S:=S.aw VF;refine Rg.aZ G G (aL (T.aQ (ab G G (Rg.JZ Tryz.underlying31 G G G (ab G G (Rg.Dd (g:=29) G ((by simp)) (ah G G (ab G G (ah G G ?_)))))))));refine Rg.JZ Tryz.underlying49 G G G (aB G G G (ad (T.NR G ((by simp)) (aS (T.aQ (ab G G (ab G G (bC eG G hg G ?_))))))));refine aP G G E16 (yg (l:=lv) (n:=(eO l 0 1 12).length) _ hM JT q0) (λr73 w73 hc=>?_);obtain⟨xC,VG⟩:=hc;replace jT:=jT.step VG (λh=>h) (λh=>h);replace JT:=JT.le VG.le;replace xM:=xM.le (aG _) VG.le;replace hg:=hg.le VG.le;replace Eu:=Eu.le VG.le;replace Ax:=Ax.le (aG _) VG.le;replace Bx:=Bx.le Tg VG.le;replace hM:=VG.lt hM;have:=S.size;replace S:=S.aw VG;refine Rg.aZ G G (aL (T.aQ (Rg.aZ G G (aX ?_))));refine dd (σ:=Nat) (λi=>[(7,r1),(8,u8),(9,.pointer (some aa3)),(11,.pointer (some ⟨bs,0,none⟩)),(12,r73),(13,.int .i64 (i:Int))]) (λi w=>i<=(eO l 0 1 12).length/\∃M2 ws,Lt M2 w/\Step M w0 M2 w aC/\(RT.en.sl).V M2 w (eO l 0 1 12) r1/\cO (RT.qy 3) M2 w u8 (fk q 1)/\cO RT.se M2 w (.pointer (some aa3)) (Gu (jB (eO l 0 1 12)))/\(RT.bool.sl).V M2 w (ka lv (eO l 0 1 12).length) r73/\gH 128 205 (eO l 0 1 12).length ws M2 w bs bw/\∀j,bit ws j=true↔(j<i/\(ka lv (eO l 0 1 12).length)[j]? =some true)) (λi=>(eO l 0 1 12).length-i) 0 a14 ?_ ?_
 ·exact⟨a8 _,_,_,hM,S,hg,Ax,Bx,xC,jT,λj=>by rw[zu];exact⟨λh=>(by cases h),λh=>absurd h.1 (ec _)⟩⟩
 ·clear hM S hg Ax Bx xC jT;rintro i w ⟨hi,M2,ws,hM,S,hg,Ax,Bx,xC,jT,Nl⟩;refine aL (T.aQ (ab G G (ab G G (bC eG G hg G (cx G G G (ad ?_))))));refine bE G (λc9=>?_) (λc9=>?_)
  ·refine aS (aL (aX (T.aQ (ab G G (ab G G ?_)))));obtain⟨b,NM⟩:∃x,(ka lv (eO l 0 1 12).length)[i]? =some x:=⟨_,aq (by rw[jW];omega)⟩;refine cC nU I4 rfl rfl rfl xC bS (by rw[jW];omega) (λaoZ y' gp Hc=>?_);rw[ar]at gp;obtain rfl:=aI (NM.symm.trans gp);refine bB gQ G G G G G Hc bS (λaz7 ahE=>?_);obtain rfl:=HB.1 ahE;refine bg (v':= .bool (decide (b=true))) (by simp) (ad ?_);refine bE G (λux=>?_) (λux=>?_)
   ·refine aH (ab G G (ab G G ?_))
    have hf:bit ws ((i:Int)).toNat=false:=by
     rw[ar]
     cases hb:bit ws i with
     |false=>rfl
     |true=>have:=((Nl i).1 hb).1;omega
    refine aP G G E21 (Nk jT (i:=(i:Int)) q0 hf) (λaz8 az9 hc=>?_);obtain⟨ws2,ap8,ahF,Np⟩:=hc;replace hg:=hg.le Np.le;replace Ax:=Ax.le (aG _) Np.le;replace Bx:=Bx.le Tg Np.le;replace xC:=xC.le Np.le;replace S:=S.cr Np (λc (h:c=bw)=>by omega);replace hM:=Np.lt hM;refine ad (aH (ab G G (bu G G G q0 (Rg.aZ G G ?_))));refine⟨G,i+1,a14,?_,?_⟩
    ·refine ⟨by omega,_,_,hM,S,hg,Ax,Bx,xC,ap8,λj=> ?_⟩;rw[ahF j,yU,Nl j,decide_eq_true_iff];constructor
     ·rintro(h|h)
      ·exact⟨by omega,h.2⟩
      ·obtain rfl:j=i:=by omega
       exact⟨by omega,by rw[NM,ux]⟩
     ·rintro⟨h1,h2⟩;rcases cH j i with h|h
      ·exact .inl ⟨h,h2⟩
      ·exact .inr q0
    ·omega
   ·refine aS (aH (ab G G (bu G G G q0 (Rg.aZ G G ?_))));refine⟨G,i+1,a14,?_,?_⟩
    ·refine ⟨by omega,_,_,hM,S,hg,Ax,Bx,xC,jT,λj=> ?_⟩;rw[Nl j];constructor
     ·exact λh=>⟨by omega,h.2⟩
     ·rintro⟨h1,h2⟩;rcases cH j i with h|h
      ·exact⟨h,h2⟩
      ·obtain rfl:j=i:=by omega
       rw[NM]at h2;cases h2;exact absurd G ux
    ·omega
  ·refine cN (T.aQ ?_);have lc:=lE gv S
   have ik:=jT.ap0 (N:=aC) gv q0 q0 (jW lv _) (λj=>by
    rw[Nl j];exact⟨λh=>h.2,λh=>⟨by have:=(an.1 h).1;rw[jW]at this;omega,h⟩⟩)
   replace hg:=hg.le lc;replace Ax:=Ax.le (aG _) lc;replace Bx:=Bx.le Tg lc;replace xC:=xC.le lc;replace S:=S.back;replace hM:=S.lt gv;refine ab G G (bC eG G hg G ?_);refine aP G G E16 (yg (l:=[]) (n:=(eO l 0 1 12).length) _ hM gZ q0) (λaAa aAb hc=>?_);obtain⟨ahG,JU⟩:=hc;replace hg:=hg.le JU.le;replace Ax:=Ax.le (aG _) JU.le;replace Bx:=Bx.le Tg JU.le;replace xC:=xC.le JU.le;replace ik:=ik.le JU.le;replace hM:=JU.lt hM;have:=S.size;replace S:=S.aw JU;refine Rg.aZ G G (aL ?_);apply T.draw (M:=M) mixed [cj.eq _,cj.V (RT.qy 3) (fk q 1),cj.V ((RT.fo).sl) (if fP (fk q 1) 1=0 then iq (λe=>eF e.1.2 (fk q 1)) 0 (eO l 0 1 12)else[]),cj.eq _,cj.eq _,cj.V (RT.qy 3) (fk q 1),cj.V ((RT.fo).sl) (if fP (fk q 1) 1=0 then jk (eO l 0 1 12) (ka [] (eO l 0 1 12).length) (fk q 1) (eO l 0 1 12).length else[]),cj.eq (.bool true),cj.eq (.bool true),cj.eq _,cj.eq _,cj.V (RT.qy 3) (fk q 1),cj.V ((RT.fo).sl) ((if fP (fk q 1) 1=0 then iq (λe=>eF e.1.2 (fk q 1)) 0 (eO l 0 1 12)else[]).filter λp=> !lA (ka lv (eO l 0 1 12).length) p),cj.eq _,cj.eq _,cj.V (RT.qy 3) (fk q 1),cj.V ((RT.fo).sl) (if fP (fk q 1) 1=0 then jk (eO l 0 1 12) (ka lv (eO l 0 1 12).length) (fk q 1) (eO l 0 1 12).length else[]),cj.eq (.bool true),cj.eq (.bool true),cj.eq (.bool true),cj.eq (.bool true),cj.eq (.bool true),cj.eq (.bool true)]
   ·rfl
   ·refine aE ?_ ?_
    ·intro wD E sD;refine ab G G ?_;exact a01
    refine aE ?_ ?_
    ·intro wD E sD;refine bN (A:=RT.qy 3) ak G (IQ gg _) (aG _) (dK _) G G (Ax.le (aG _) sD.le) bS (λva k8=>?_);exact ah0
    refine aE ?_ ?_
    ·intro wD E sD;refine au ?_;intro v1 kg;refine aP G G E13 (yc (n:=2) (q:=(fk q 1)) _ (sD.lt hM) h0 ⟨NJ,NK,(S.aw sD).aF EI⟩ (Bx.le Tg sD.le) fa q0 (show(RT.qy 3).V M wD (fk q 1) v1 from kg) VE) (λr w hc=>?_);obtain⟨Mr,hl,hs_,ho⟩:=hc;exact ad ⟨G,G,_,G,ho.close (hn:=by decide) (sD.lt hM) hs_ (JO q0),hs_.back⟩
    refine aE ?_ ?_
    ·intro wD E sD;refine ab G G ?_;exact a01
    refine aE ?_ ?_
    ·intro wD E sD;refine ab G G ?_;exact a01
    refine aE ?_ ?_
    ·intro wD E sD;refine bN (A:=RT.qy 3) ak G (IQ gg _) (aG _) (dK _) G G (Ax.le (aG _) sD.le) bS (λva k8=>?_);exact ah0
    refine aE ?_ ?_
    ·intro wD E sD;refine au (au ?_);intro v5 pA;intro v2 yL;refine aP G G E15 (yf (n:=2) (q:=(fk q 1)) _ (sD.lt hM) (hg.le sD.le) (ahG.le sD.le) (show(RT.qy 3).V M wD (fk q 1) v5 from pA) VE (kB fa) ahD q0) (λr w hc=>?_);obtain⟨h1,h2⟩:=hc;exact ad ⟨G,G,_,G,h1,h2⟩
    refine aE ?_ ?_
    ·intro wD E sD;intro v2 yL;intro v6 oC;intro v6 oC;refine aP G G E14 (yh (sD.lt hM) (show((RT.fo).sl).V M wD (if fP (fk q 1) 1=0 then iq (λe=>eF e.1.2 (fk q 1)) 0 (eO l 0 1 12)else[]) v2 from yL) (show((RT.fo).sl).V M wD (if fP (fk q 1) 1=0 then jk (eO l 0 1 12) (ka [] (eO l 0 1 12).length) (fk q 1) (eO l 0 1 12).length else[]) v6 from oC)) (λr w hc=>?_);obtain⟨rfl,h2⟩:=hc;refine bg (v':= .bool true) (congrArg Value.bool (decide_eq_true Ni.symm)) ?_;exact ad ⟨G,G,_,G,G,h2⟩
    refine aE ?_ ?_
    ·intro wD E sD;refine au (au (ab G G ?_));exact a01
    refine aE ?_ ?_
    ·intro wD E sD;refine au (ah G G (ab G G ?_));exact a01
    refine aE ?_ ?_
    ·intro wD E sD;refine au (ah G G (ab G G ?_));exact a01
    refine aE ?_ ?_
    ·intro wD E sD;refine au (ah G G ?_);refine bN (A:=RT.qy 3) ak G (IQ gg _) (aG _) (dK _) G G (Ax.le (aG _) sD.le) bS (λva k8=>?_);exact ah0
    refine aE ?_ ?_
    ·intro wD E sD;refine au (au ?_);intro v11 Ek;refine au (au (ah G G ?_));refine aP G G E22 (JS (n:=2) (q:=(fk q 1)) (a:=(ka lv (eO l 0 1 12).length)) _ (sD.lt hM) h0 ⟨NJ,NK,(S.aw sD).aF EI⟩ (Bx.le Tg sD.le) fa q0 (ik.le sD.le) (show(RT.qy 3).V M wD (fk q 1) v11 from Ek) VE) (λr w hc=>?_);obtain⟨h1,h2⟩:=hc;exact ad ⟨G,G,_,G,h1,h2⟩
    refine aE ?_ ?_
    ·intro wD E sD;refine au (ah G G (ab G G ?_));exact a01
    refine aE ?_ ?_
    ·intro wD E sD;refine au (ah G G (ab G G ?_));exact a01
    refine aE ?_ ?_
    ·intro wD E sD;refine au (ah G G ?_);refine bN (A:=RT.qy 3) ak G (IQ gg _) (aG _) (dK _) G G (Ax.le (aG _) sD.le) bS (λva k8=>?_);exact ah0
    refine aE ?_ ?_
    ·intro wD E sD;refine au (au ?_);intro v15 Vp;intro v12 Ei;refine au (ah G G ?_);refine aP G G E15 (yf (n:=2) (q:=(fk q 1)) _ (sD.lt hM) (hg.le sD.le) (xC.le sD.le) (show(RT.qy 3).V M wD (fk q 1) v15 from Vp) VE (kB fa) ahD q0) (λr w hc=>?_);obtain⟨h1,h2⟩:=hc;exact ad ⟨G,G,_,G,h1,h2⟩
    refine aE ?_ ?_
    ·intro wD E sD;intro v12 Ei;intro v16 G1;intro v16 G1;refine au (ah G G ?_);refine aP G G E14 (yh (sD.lt hM) (show((RT.fo).sl).V M wD ((if fP (fk q 1) 1=0 then iq (λe=>eF e.1.2 (fk q 1)) 0 (eO l 0 1 12)else[]).filter λp=> !lA (ka lv (eO l 0 1 12).length) p) v12 from Ei) (show((RT.fo).sl).V M wD (if fP (fk q 1) 1=0 then jk (eO l 0 1 12) (ka lv (eO l 0 1 12).length) (fk q 1) (eO l 0 1 12).length else[]) v16 from G1)) (λr w hc=>?_);obtain⟨rfl,h2⟩:=hc;refine bg (v':= .bool true) (congrArg Value.bool (decide_eq_true (VD (jW _ _)))) ?_;exact ad ⟨G,G,_,G,G,h2⟩
    refine aE ?_ ?_
    ·intro wD E sD;refine au (au (aU G G G ?_));exact a01
    refine aE ?_ ?_
    ·intro wD E sD;refine au (au (ab G G ?_));exact a01
    refine aE ?_ ?_
    ·intro wD E sD;refine au (au (ah G G ?_));refine aP G G E12 (Es (sD.lt hM)) (λr w hc=>?_);obtain⟨rfl,h2⟩:=hc;exact ad ⟨G,G,_,G,G,h2⟩
    refine aE ?_ ?_
    ·intro wD E sD;refine au (au (aU G G G ?_));exact a01
    refine aE ?_ ?_
    ·intro wD E sD;refine au (au (au ?_));intro v1 kg;intro v2 yL;refine au (au ?_);intro v5 pA;intro v6 oC;refine au (au (au (au ?_)));intro v11 Ek;intro v12 Ei;refine au (au ?_);intro v15 Vp;intro v16 G1;refine au (au (au (au (au (aN G G ?_)))));exact a01
    exact rI
   ·intro Uw qh;refine au ?_;intro atS ap9;intro atT aqa;refine au (au ?_);intro ad6 Qg;intro atU aqb;refine au (au (au (au ?_)));intro aqc aiP;intro aqd aiQ;refine au (au ?_);intro aqe aiR;intro aqf aiS;refine au (au (au (au (au (au ?_)))));have S:=S.aw qh;refine aJ ?_;exact aK G G ⟨G,S.back⟩
end Go.K

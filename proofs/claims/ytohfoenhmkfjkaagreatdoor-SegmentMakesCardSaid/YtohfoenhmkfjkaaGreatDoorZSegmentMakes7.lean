/- What the law 'SegmentMakes' needs of walks and plain Lean, part 7: nothing is assumed beyond the texts that it imports. -/
import Derived.KernelRfl
import Derived.Test.YtohfoenhmkfjkaaGreatDoorProg
import Derived.Test.YtohfoenhmkfjkaaGreatDoorZSegmentMakes1
import Derived.Test.YtohfoenhmkfjkaaGreatDoorZSegmentMakes2
import Derived.Test.YtohfoenhmkfjkaaGreatDoorZSegmentMakes3
import Derived.Test.YtohfoenhmkfjkaaGreatDoorZSegmentMakes4
import Derived.Test.YtohfoenhmkfjkaaGreatDoorZSegmentMakes5
import Derived.Test.YtohfoenhmkfjkaaGreatDoorZSegmentMakes6
set_option linter.unusedVariables false
set_option linter.unusedSimpArgs false
namespace Go.K
open Go.Proofs
namespace TKMakes10
theorem qP:TI Tryz.prog 62 (.agg #[(.slice none 0 0),(.slice none 0 0),(.slice none 0 0),(.slice none 0 0)]) 4 96:=by unfold TI;kernel_rfl
theorem ZK:Enters Tryz.prog 21:=enters Tryz.func21 rfl (by decide)
theorem E23:Enters Tryz.prog 23:=enters Tryz.func23 rfl (by decide)
theorem Ue:Enters Tryz.prog 27:=enters Tryz.func27 rfl (by decide)
theorem E31:Enters Tryz.prog 31:=enters Tryz.func31 rfl (by decide)
theorem E42:Enters Tryz.prog 42:=enters Tryz.func42 rfl (by decide)
theorem E43:Enters Tryz.prog 43:=enters Tryz.func43 rfl (by decide)
theorem E44:Enters Tryz.prog 44:=enters Tryz.func44 rfl (by decide)
theorem E45:Enters Tryz.prog 45:=enters Tryz.func45 rfl (by decide)
theorem E46:Enters Tryz.prog 46:=enters Tryz.func46 rfl (by decide)
end TKMakes10
open TKMakes10
set_option maxRecDepth 10000
theorem Al:∀{l:List Int} {last N:Int},ec last l=true→(∀n∈l,n<N)→last<N→(l.length:Int)≤N-last-1
 |[],_,_,_,_,h=>by simp;omega
 |x::l,last,N,h,hN,hl=>by
  simp only[ec,bZ,decide_eq_true_eq]at h;have:=Al h.2 (fun n hn=>hN n (cF _ hn)) (hN x (cn ..));rw[cK];omega
theorem HM {l:List Po} (h:dH (-1) l=true):∀p∈l,p.2.length≤2147483648:=fun p hp=>by
 obtain⟨i,hi⟩:=cg.1 hp;obtain⟨_,_,_,h4,_⟩:=l9 (d:=p.1) (ps:=p.2) h hi;obtain⟨h5,h6⟩:=je.1 h4;have:=Al h5 (fun n hn=>(h6 n hn)) (by decide);omega
theorem yC:∀(l:List Po) (last:Int) (m:Nat),-1≤last→dH last l=true→(∀p∈l,p.2.length≤m)→m≤4294967296→(dw last l).length≤(18+9*m)*l.length∧iw l≤m*l.length
 |[],_,_,_,_,_,_=>⟨by simp[dw],by simp[iw]⟩
 |(d,ps)::l,last,m,h0,hm,hs,hmm=>by
  simp only[dH,bZ,decide_eq_true_eq]at hm;obtain⟨⟨⟨⟨h1,h2⟩,h3⟩,h4⟩,h5⟩:=hm;obtain⟨h6,h7⟩:=je.1 h4;have nY:=hs _ (cn ..);simp only at nY;obtain⟨i1,i2⟩:=yC l d m (by omega) h5 (fun p hp=>hs p (cF _ hp)) hmm;have a1:=pz ps (-1) (by omega) (fun x hx=>by have:=h7 x hx;omega) h6;have a3:=gp (n:=(d-last-1).toNat) (by omega);have a4:=gp (n:=ps.length) (by omega);have e1:9*ps.length≤9*m:=by omega
  constructor
  ·simp only[dw,dY,bP,cK,Nat.mul_add,Nat.mul_one];omega
  ·simp only[iw,eO,List.sum_cons,cK]at i2 ⊢;rw[Int.natCast_add,Int.mul_add];omega
theorem DK {l:List Po} (h:dH (-1) l=true) (hl:l.length≤10):Room l∧(dw (-1) l).length≤200000000000:=by
 have hc:=HM h;obtain⟨h2,h3⟩:=yC l (-1) 2147483648 (by omega) h hc (by omega);exact⟨⟨fun p hp=>by have:=hc p hp;omega,by omega,by omega,by omega⟩,by omega⟩
theorem Oa (p:Pa):(vI p).1.length≤10∧(vI p).2.1.length≤10∧(vI p).2.2.1.length≤10∧(vI p).2.2.2.length≤10∧∀x∈(vI p).2.2.2,x.length≤10:=by
 refine⟨by simp[vI];omega,by simp[vI];omega,by simp[vI];omega,by simp[vI];omega,fun x hx=>?_⟩;obtain⟨y,_,rfl⟩:=cL.1 hx;rw[bU];omega
theorem HN {q:Pa} (h:q.1.length≤10∧q.2.1.length≤10∧q.2.2.1.length≤10∧q.2.2.2.length≤10∧∀x∈q.2.2.2,x.length≤10):Gd q:=
 ⟨by omega,by omega,by omega,by omega,fun x hx hm=>(DK hm (h.2.2.2.2 x hx)).1⟩
theorem TC {l:List (List UInt8)} (h:tp none l=true):vR l:=by
 cases l with
 |nil=>exact List.Pairwise.nil
 |cons x l=>exact O2 (by simpa[tp]using h)
theorem Ob (ns:List (List UInt8)) (ls:List (List Po)) (k:List UInt8):sL ns ls k=[]∨sL ns ls k∈ls:=by
 unfold sL
 split
 ·rename_i p hp;exact .inr (List.of_mem_zip (List.mem_of_find?_eq_some hp)).2
 ·exact .inl rfl
theorem LU {M:aU} {q:Pa} {t:Fd} {a:Addr} {v1 v2:Value} (w0:World) (hM:Lt M w0) (hk:jJ q=true) (h:q.1.length≤10∧q.2.1.length≤10∧q.2.2.1.length≤10∧q.2.2.2.length≤10∧∀x∈q.2.2.2,x.length≤10) (hs:bL RT.se M w0 (.pointer (some a)) (BG q)) (hp:RT.pa.V M w0 q v1) (ht:RT.fd.V M w0 t v2):
  Spec Tryz.prog 42 #[.pointer (some a),v1,v2] w0 (fun v w=>v= .bool true∧Step M w0 M w aN):=by
 unfold jJ at hk;simp only[bZ,decide_eq_true_eq]at hk;obtain⟨⟨⟨⟨k1,k2⟩,k3⟩,k4⟩,k5⟩:=hk
 have jb:∀x∈q.2.2.2,dH (-1) x=true:=fun x hx=>by
  have:=eh.1 k3 x hx;unfold iq at this
  cases hm:dH (-1) x with
  |true=>rfl
  |false=>simp[hm]at this
 have hr:=fun x hx=>DK (jb x hx) (h.2.2.2.2 x hx)
 have Gm:∀x∈q.2.2.2,Ud x:=fun x hx=>⟨jb x hx,(hr x hx).1.ps,by have:=(hr x hx).2;omega,by have:=h.2.2.2.2 x hx;omega⟩
 have hb:=Bt (ls:=q.2.2.2) (B:=200000000000) (fun x hx=>(hr x hx).2)
 exact Ak (s:=BG q) (ls:=q.2.2.2) (p:=q) w0 hM rfl hs ⟨rfl,k4,by show q.1.length≤_;omega,by show q.2.1.length≤_;omega,by show q.2.2.1.length≤_;omega,fun x hx=>⟨(Gm x hx).may,(Gm x hx).ps,(Gm x hx).by_,(Gm x hx).ln⟩⟩ (TC k5) k1 (by have:=h.2.2.2.1;omega) (fun x hx=>by have:=(hr x hx).2;omega)
  (by rcases Ob q.2.2.1 q.2.2.2 (dm t)with e|e
      ·show Ud (sL q.2.2.1 q.2.2.2 (dm t));rw[e];exact⟨rfl,(fun p hp=>by cases hp),by decide,by decide⟩
      ·exact Gm _ e) rfl hp ht (tT ht).1 (tT ht).2
theorem tc {M:aU} {p:Pa} {l:List Dc} {v0 v1:Value} {w0:World} (hM:Lt M w0) (hp:RT.pa.V M w0 p v0) (hv:(RT.dc.sl).V M w0 l v1):
  Spec Tryz.prog 9 #[v0,v1] w0 (fun v w=>v= .bool true∧Step M w0 M w aN):=by
 have fZ:=hM;have zg:=Oa p;obtain⟨q,hq⟩:∃q,q=vI p:=⟨_,rfl⟩;rw[←hq]at zg;have hRM:=HN zg;have Fa:=lW l 2 3 6;obtain⟨hok,_⟩:=Dr l (show(0:Int)≤2 by decide) (show(1:Int)≤3 by decide) 6;refine bE (args:=[_,_]) (fn:=Tryz.f9) Tryz.func9 rfl (n:=75) Tryz.ntmps9 ?_;have S:Step M w0 M w0 aN:=(ah _ _).cD (fun _ h=>h.elim) (fun _ h=>h.elim);refine au (ak ?_);refine eG (A:=RT.pa) (a:=p) rfl rfl hM hp rfl (fun u2 Pr kg oJ _=>?_);replace hp:=hp.le oJ.le;replace hv:=hv.le oJ.le;replace hM:=oJ.lt hM;have:=S.size;replace S:=S.aE oJ;refine al rfl rfl (ae (au (ak ?_)));refine cc (M:=M) (A:=RT.pa) aO rfl qP (by decide) rfl rfl rfl kg (ar _ _) (fun v10 iU=>?_);refine aS rfl rfl E43 (Ff _ hM iU) (fun r1 w1 hc=>?_);obtain⟨Uf,s1⟩:=hc;rw[←hq]at Uf;replace hv:=hv.le s1.le;replace kg:=kg.le (by decide) s1.le;replace hM:=s1.lt hM;have:=S.size;replace S:=S.aE s1;refine mG (A:=RT.pa) (M:=M) qP rfl rfl rfl rfl rfl Uf (ar _ _) hM (fun u5 w5 gV s5 z5=>?_);replace hv:=hv.le s5.le;replace Uf:=Uf.le s5.le;replace hM:=s5.lt hM;have:=S.size;replace S:=S.aE s5
 skip
 refine ae (au (ak ?_));refine cc (M:=M) (A:=RT.pa) aO rfl qP (by decide) rfl rfl rfl gV (ar _ _) (fun v20 yc=>?_);refine aS rfl rfl E44 (Fq _ hM yc) (fun r2 w2 hc=>?_);obtain⟨rfl,s2⟩:=hc;replace hv:=hv.le s2.le;replace gV:=gV.le (by decide) s2.le;replace hM:=s2.lt hM;have:=S.size;replace S:=S.aE s2;refine al rfl rfl (ae (au (ak ?_)));refine cc (M:=M) (A:=RT.pa) aO rfl qP (by decide) rfl rfl rfl gV (ar _ _) (fun v30 ahb=>?_);refine aS rfl rfl E45 (lR _ hM ahb) (fun r3 w3 hc=>?_);obtain⟨hr3,s3⟩:=hc;replace hv:=hv.le s3.le;replace gV:=gV.le (by decide) s3.le;replace hM:=s3.lt hM;have:=S.size;replace S:=S.aE s3;refine aS rfl rfl Ue (Db (p:=q) _ hM hr3 hRM) (fun r32 w32 hc=>?_);obtain⟨s32,ZL,ZM⟩:=hc
 obtain⟨o,rfl,ho,vE⟩:∃o:Option Addr,r32= .tuple #[.pointer o,.int .i64 (if jJ q=true then 0 else 1)]∧decide (o≠none)=jJ q∧(jJ q=true→bL RT.se M w32 (.pointer o) (BG q)):=by
  cases hk:jJ q with
  |true=>obtain⟨sg,rfl,yG⟩:=ZL hk;obtain⟨a,rfl⟩:=yG.fA;exact⟨some a,rfl,rfl,fun _=>yG⟩
  |false=>exact⟨none,ZM hk,rfl,fun h=>by cases h⟩
 replace hv:=hv.le s32.le;replace gV:=gV.le (by decide) s32.le;replace hM:=s32.lt hM;have:=S.size;replace S:=S.aE s32;refine aj rfl rfl (b5 rfl rfl rfl (b5 rfl rfl rfl (al rfl rfl (al rfl rfl (ae (au (au (ak ?_))))))));refine cc (M:=M) (A:=RT.pa) aO rfl qP (by decide) rfl rfl rfl gV (ar _ _) (fun v40 ahc=>?_);refine aS rfl rfl E45 (lR _ hM ahc) (fun r41 w41 hc=>?_);obtain⟨ahd,ZN⟩:=hc;replace vE:=fun h=>(vE h).le (by decide) ZN.le
 replace hv:=hv.le ZN.le;replace gV:=gV.le (by decide) ZN.le;replace hM:=ZN.lt hM;have:=S.size;replace S:=S.aE ZN;refine aS rfl rfl E46 (Fe _ hM ahd hRM) (fun r42 w42 hc=>?_);obtain⟨rfl,ZO⟩:=hc;replace vE:=fun h=>(vE h).le (by decide) ZO.le
 replace hv:=hv.le ZO.le;replace gV:=gV.le (by decide) ZO.le;replace hM:=ZO.lt hM;have:=S.size;replace S:=S.aE ZO;refine aj rfl rfl (Rg.bne iD rfl rfl rfl (bO (v':= .bool false) (by simp) (aj rfl rfl (aq rfl rfl (aj rfl rfl (aq rfl rfl (iE rfl rfl rfl (bO (v':= .bool (jJ q)) (by cases jJ q<;>rfl) (aq rfl rfl (aj rfl rfl (aq rfl rfl ?_)))))))))));refine Rg.bne iD rfl rfl rfl (bO (v':= .bool false) (by simp) (aL rfl rfl rfl (aj rfl rfl (aq rfl rfl (aj rfl rfl (aq rfl rfl (Rg.Ov ux rfl rfl rfl (bO (v':= .bool (jJ q)) (congrArg Value.bool ho) (aq rfl rfl (aj rfl rfl (aq rfl rfl ?_)))))))))));refine Rg.bne iD rfl rfl rfl (bO (v':= .bool false) (by simp) (aL rfl rfl rfl (aj rfl rfl (aq rfl rfl (aj rfl rfl (aq rfl rfl (fP rfl rfl (bO (v':= .bool (decide (jJ q=false))) (by cases jJ q<;>rfl) (aq rfl rfl (aj rfl rfl ?_))))))))));refine aZ (g:=42) rfl (fun Gq=>?_) (fun Gq=>?_)
 ·refine aq rfl rfl (aj rfl rfl (aq rfl rfl (eC rfl rfl rfl (bO (v':= .bool false) (by rw[Gq];rfl) (aq rfl rfl (aR rfl rfl rfl (aL rfl rfl rfl (ae (ir rfl (bg (au ?_)))))))))));refine au (ak (aj rfl rfl (bO (v':= .bool (decide (jJ q=true))) (by simp) (aj rfl rfl ?_))));refine aZ (g:=48) rfl (fun Fx=>?_) (fun Fx=>?_)
  ·exact absurd (Gq.symm.trans Fx) (by decide)
  ·refine aw rfl rfl rfl rfl (aw rfl rfl rfl rfl (aw rfl rfl rfl rfl (aw rfl rfl rfl rfl (aw rfl rfl rfl rfl (aL rfl rfl rfl (ae (ir rfl (bg (au (ak (aj rfl rfl ?_)))))))))));refine aS rfl rfl ZK (xq (most:=6) (a:=2) (s:=3) _ hM hv (by decide) (by decide) (by decide)) (fun r81 w81 hc=>?_);obtain⟨hg,Oc⟩:=hc;replace hv:=hv.le Oc.le;replace gV:=gV.le (by decide) Oc.le;replace hM:=Oc.lt hM;have:=S.size;replace S:=S.aE Oc;refine aS rfl rfl E31 (sV _ hM hg (jT hok) x9 (by omega)) (fun r82 w82 hc=>?_);obtain⟨Fy,Od⟩:=hc;replace gV:=gV.le (by decide) Od.le;replace hg:=hg.le Od.le;replace hM:=Od.lt hM;have:=S.size;replace S:=S.aE Od;refine mG (A:=RT.pa) (M:=M) qP rfl rfl rfl rfl rfl Fy (ar _ _) hM (fun u9 w9 vC s9 z9=>?_);replace Fy:=Fy.le s9.le;replace hM:=s9.lt hM;have:=S.size;replace S:=S.aE s9
   skip
   refine ae (au (ak ?_));refine cc (M:=M) (A:=RT.pa) aO rfl qP (by decide) rfl rfl rfl vC (ar _ _) (fun v90 TD=>?_);refine aS rfl rfl E45 (lR _ hM TD) (fun r91 w91 hc=>?_);obtain⟨TE,TF⟩:=hc;replace vC:=vC.le (by decide) TF.le;replace hM:=TF.lt hM;have:=S.size;replace S:=S.aE TF;refine aS rfl rfl Ue (rD (p:=jo (jG l 2 3 6)) _ hM TE (Bg (jT hok) (by omega))) (fun r92 w92 hc=>?_);obtain⟨TG,LV,_⟩:=hc;obtain⟨sz,rfl,jF⟩:=LV (EU hok (by omega));obtain⟨az,rfl⟩:=jF.fA;replace vC:=vC.le (by decide) TG.le;replace hM:=TG.lt hM;have:=S.size;replace S:=S.aE TG;refine aj rfl rfl (b5 rfl rfl rfl (b5 rfl rfl rfl (al rfl rfl (al rfl rfl (ae (au (ak (aj rfl rfl (iE rfl rfl rfl (bO (v':= .bool true) (by simp) (aj rfl rfl ?_)))))))))));refine aq rfl rfl (aj rfl rfl (aq rfl rfl ?_));refine cc (M:=M) (A:=RT.pa) aO rfl qP (by decide) rfl rfl rfl vC (ar _ _) (fun ahe LW=>?_);refine aq rfl rfl (eF (places:=[(0,1),(1,1)]) bG jW TQ rfl ⟨_,_,rfl,rfl,_,_,rfl,rfl,rfl⟩ (out:=[_,_]) ⟨0,[_],rfl,rfl,by simp[Value.cells],1,[_],rfl,rfl,by simp[Value.cells],rfl⟩ (aq rfl rfl ?_));refine aS rfl rfl E42 (Gp (t:=([116],[98])) _ hM hok (by omega) jF LW (ru (t:=([116],[98])) (by decide) (by decide))) (fun ahf ahg hc=>?_);obtain⟨rfl,Bu⟩:=hc;replace vC:=vC.le (by decide) Bu.le;replace jF:=jF.le (by decide) Bu.le;replace hM:=Bu.lt hM;have:=S.size;replace S:=S.aE Bu;refine aR rfl rfl rfl (aj rfl rfl (aq rfl rfl ?_));refine aS rfl rfl E23 (sO _ hM) (fun ahh ahi hc=>?_);obtain⟨rfl,Bv⟩:=hc;replace vC:=vC.le (by decide) Bv.le;replace jF:=jF.le (by decide) Bv.le;replace hM:=Bv.lt hM;have:=S.size;replace S:=S.aE Bv;refine aR rfl rfl rfl (al rfl rfl (ae (aW ?_)))
   exact a8 rfl rfl ⟨rfl,S⟩
 ·refine aw rfl rfl rfl rfl (aw rfl rfl rfl rfl (aq rfl rfl (aL rfl rfl rfl (aL rfl rfl rfl (ae (ir rfl (bg (au (au (ak (aj rfl rfl ?_)))))))))));refine bO (v':= .bool (decide (jJ q=true))) (by simp) (aj rfl rfl ?_);refine aZ (g:=48) rfl (fun Fx=>?_) (fun Fx=>?_)
  ·refine aq rfl rfl (aj rfl rfl (aq rfl rfl ?_));have hsx:=vE Fx;obtain⟨ax,hax⟩:=hsx.fA
   cases hax;refine cc (M:=M) (A:=RT.pa) aO rfl qP (by decide) rfl rfl rfl gV (ar _ _) (fun v63 Ll=>?_);refine aq rfl rfl (eF (places:=[(0,1),(1,1)]) bG jW TQ rfl ⟨_,_,rfl,rfl,_,_,rfl,rfl,rfl⟩ (out:=[_,_]) ⟨0,[_],rfl,rfl,by simp[Value.cells],1,[_],rfl,rfl,by simp[Value.cells],rfl⟩ (aq rfl rfl ?_));refine aS rfl rfl E42 (LU (t:=([116],[97])) _ hM Fx zg hsx Ll (ru (t:=([116],[97])) (by decide) (by decide))) (fun r65 w65 hc=>?_);obtain⟨rfl,s65⟩:=hc;replace hv:=hv.le s65.le;replace gV:=gV.le (by decide) s65.le;replace hM:=s65.lt hM;have:=S.size;replace S:=S.aE s65;refine aq rfl rfl (fP rfl rfl (bO (v':= .bool false) rfl (aR rfl rfl rfl (ae (ir rfl (bg (au (ak (aj rfl rfl ?_)))))))));refine aS rfl rfl ZK (xq (most:=6) (a:=2) (s:=3) _ hM hv (by decide) (by decide) (by decide)) (fun r81 w81 hc=>?_);obtain⟨hg,Oc⟩:=hc;replace hv:=hv.le Oc.le;replace gV:=gV.le (by decide) Oc.le;replace hM:=Oc.lt hM;have:=S.size;replace S:=S.aE Oc;refine aS rfl rfl E31 (sV _ hM hg (jT hok) x9 (by omega)) (fun r82 w82 hc=>?_);obtain⟨Fy,Od⟩:=hc;replace gV:=gV.le (by decide) Od.le;replace hg:=hg.le Od.le;replace hM:=Od.lt hM;have:=S.size;replace S:=S.aE Od;refine mG (A:=RT.pa) (M:=M) qP rfl rfl rfl rfl rfl Fy (ar _ _) hM (fun u9 w9 vC s9 z9=>?_);replace Fy:=Fy.le s9.le;replace hM:=s9.lt hM;have:=S.size;replace S:=S.aE s9
   skip
   refine ae (au (ak ?_));refine cc (M:=M) (A:=RT.pa) aO rfl qP (by decide) rfl rfl rfl vC (ar _ _) (fun v90 TD=>?_);refine aS rfl rfl E45 (lR _ hM TD) (fun r91 w91 hc=>?_);obtain⟨TE,TF⟩:=hc;replace vC:=vC.le (by decide) TF.le;replace hM:=TF.lt hM;have:=S.size;replace S:=S.aE TF;refine aS rfl rfl Ue (rD (p:=jo (jG l 2 3 6)) _ hM TE (Bg (jT hok) (by omega))) (fun r92 w92 hc=>?_);obtain⟨TG,LV,_⟩:=hc;obtain⟨sz,rfl,jF⟩:=LV (EU hok (by omega));obtain⟨az,rfl⟩:=jF.fA;replace vC:=vC.le (by decide) TG.le;replace hM:=TG.lt hM;have:=S.size;replace S:=S.aE TG;refine aj rfl rfl (b5 rfl rfl rfl (b5 rfl rfl rfl (al rfl rfl (al rfl rfl (ae (au (ak (aj rfl rfl (iE rfl rfl rfl (bO (v':= .bool true) (by simp) (aj rfl rfl ?_)))))))))));refine aq rfl rfl (aj rfl rfl (aq rfl rfl ?_));refine cc (M:=M) (A:=RT.pa) aO rfl qP (by decide) rfl rfl rfl vC (ar _ _) (fun ahe LW=>?_);refine aq rfl rfl (eF (places:=[(0,1),(1,1)]) bG jW TQ rfl ⟨_,_,rfl,rfl,_,_,rfl,rfl,rfl⟩ (out:=[_,_]) ⟨0,[_],rfl,rfl,by simp[Value.cells],1,[_],rfl,rfl,by simp[Value.cells],rfl⟩ (aq rfl rfl ?_));refine aS rfl rfl E42 (Gp (t:=([116],[98])) _ hM hok (by omega) jF LW (ru (t:=([116],[98])) (by decide) (by decide))) (fun ahf ahg hc=>?_);obtain⟨rfl,Bu⟩:=hc;replace vC:=vC.le (by decide) Bu.le;replace jF:=jF.le (by decide) Bu.le;replace hM:=Bu.lt hM;have:=S.size;replace S:=S.aE Bu;refine aR rfl rfl rfl (aj rfl rfl (aq rfl rfl ?_));refine aS rfl rfl E23 (sO _ hM) (fun ahh ahi hc=>?_);obtain⟨rfl,Bv⟩:=hc;replace vC:=vC.le (by decide) Bv.le;replace jF:=jF.le (by decide) Bv.le;replace hM:=Bv.lt hM;have:=S.size;replace S:=S.aE Bv;refine aR rfl rfl rfl (al rfl rfl (ae (aW ?_)))
   exact a8 rfl rfl ⟨rfl,S⟩
  ·exact absurd (by simpa using Gq) Fx
end Go.K

/- What the law 'EraseLives' needs of walks and plain Lean, part 4: nothing is assumed beyond the texts that it imports. -/
import Derived.KernelRfl
import Derived.Test.YtohfoenhmkfjkaaGreatDoorProg
import Derived.Test.YtohfoenhmkfjkaaGreatDoorZEraseLives1
import Derived.Test.YtohfoenhmkfjkaaGreatDoorZEraseLives2
import Derived.Test.YtohfoenhmkfjkaaGreatDoorZEraseLives3
set_option linter.unusedVariables false
set_option linter.unusedSimpArgs false
namespace Go.K
open Go.Proofs
namespace TKBldE
theorem jQ:TI Tryz.prog 107 (.slice none 0 0) 1 24:=by unfold TI;kernel_rfl
theorem BM:TI Tryz.prog 167 (.map none) 1 8:=by unfold TI;kernel_rfl
theorem Ud:Enters Tryz.prog 63:=enters Tryz.func63 rfl (by decide)
theorem XG:Enters Tryz.prog 111:=enters Tryz.func111 rfl (by decide)
theorem XH:Enters Tryz.prog 112:=enters Tryz.func112 rfl (by decide)
end TKBldE
open TKBldE
set_option maxRecDepth 10000
theorem eF.C0 {P:Program} {kt:TypeId} {w:World} {b clock:Nat} {es:List MapEntry} (hk:P.underlying kt=some .string) (h:eF P kt w b es clock):∃ks:List (List UInt8),es.map (·.key)=ks.map sv∧ks.Nodup:=by
 have key:∀es:List MapEntry,(∀e∈es,∃l,keyOf P kt e.key=some l)→∃ks:List (List UInt8),es.map (·.key)=ks.map sv:=by
  intro es
  induction es with
  |nil=>exact fun _=>⟨[],rfl⟩
  |cons e es ih=>
   intro h;obtain⟨ks,h1⟩:=ih fun x hx=>h x (cq _ hx)
   obtain⟨l,hl⟩:=h e (bW ..);obtain⟨x,h3,_,h4⟩:=Maps.keyOf_str hk hl;exact⟨x::ks,by simp only[fj,h1,h3]⟩
 obtain⟨ks,h1⟩:=key es h.ok;refine⟨ks,h1,?_⟩;have h3:=dv.2 h.keys;rw[h1]at h3;exact(dv.1 h3).imp fun h e=>h (by rw[e])
theorem Ae {M:aB} {w:World}:∀{l:List (List UInt8)},(∀x∈l,x.length≤140737488355328)→eA RT.str M w l (l.map Go.Proofs.encStr)
 |[],_=>rfl
 |x::l,h=>⟨[.string ⟨x.toArray⟩],_,rfl,⟨rfl,h x (bW ..)⟩,Ae fun y hy=>h y (cq _ hy)⟩
theorem G2 (M:aB) (w:World) (M':aB) (w':World) (x:List UInt8) (vs:List Value) (h:RT.str.R M w x vs):RT.str.R M' w' x vs:=h
theorem re {L:List En} (hF:∀x∈L,gR x.1):∀k∈gK L,k.length≤43:=fun k hk=>by
 obtain⟨e,he,h1⟩:=List.mem_flatMap.1 hk;obtain⟨t,ht,rfl⟩:=bZ.1 h1;have:=(hF e he).term ht;unfold cL;simp;omega
theorem qz {L:List En} (hF:∀x∈L,gR x.1):(gK L).length≤500*L.length:=by
 induction L with
 |nil=>simp[gK]
 |cons e L ih=>
  have h1:=ih fun x hx=>hF x (cq _ hx)
  have h2:=wH (hF e (bW ..));show((cJ (o6 e)).map cL++gK L).length≤_;rw[bP,ch,cA];have h2:(cJ (o6 e)).length≤500:=h2;omega
theorem BP {Z M:aB} {B b:Nat} {L:List En} {words last:Int} (w0:World) (hM:Lt M w0) (hb:lM Z M w0 B b L words last) (hF:∀x∈L,gR x.1) (hLn:L.length≤1000000):
  Spec Tryz.prog 58 #[.pointer (some ⟨b,0,none⟩)] w0 (fun v w=>(RT.str.sl).V M w (keysOf L) v∧Step M w0 M w aA):=by
 obtain⟨mb,vl,es,clock,gb,dA,dW,hB,CW,ho,hW,hR,zl⟩:=hb;obtain⟨ks,Ju,mZ⟩:=hW.C0 aC
 have ej:∀x,x∈ks↔x∈gK L:=fun x=>by
  rw[←hR.k x];constructor
  ·intro hx;have:sv x∈es.map (·.key):=by rw[Ju];exact fu hx
   obtain⟨e,he,h⟩:=bZ.1 this;exact⟨e,he,h⟩
  ·rintro⟨e,he,h⟩;have:sv x∈ks.map sv:=by rw[←Ju,←h];exact fu he
   obtain⟨y,hy,h1⟩:=bZ.1 this;rw[←ya h1];exact hy
 have XI:ks.length≤500000000:=by
  have h1:=mZ.length_le_of_subset (l₂:=gK L) (fun x hx=>(ej x).1 hx);have h2:=qz hF;omega
 have hen:es.length=ks.length:=by have:=congrArg List.length Ju;simpa using this
 refine aZ (args:=[_]) (fn:=Tryz.f58) Tryz.func58 rfl (n:=9) Tryz.ntmps58 ?_;have S:Step M w0 M w0 aA:=(an _ _).ca (fun _ h=>h.elim) (fun _ h=>h.elim);refine aj (ah (ai rfl rfl (ad (aj (ah (ae rfl rfl (aU rfl ⟨_,rfl⟩ rfl (aV (o':=1) dq rfl rfl BM (by decide) rfl rfl (aH fZ rfl rfl rfl gb rfl (bz (v':= .map (some mb)) rfl ?_))))))))));refine aQ rfl rfl XH (BL _ _) (fun r w1 hc=>?_);obtain⟨rfl,XJ⟩:=hc;have s1:Step M w0 M w1 aA:=by rw[XJ];exact dg _ w0 _
 have K4:=vg XJ;have:=ak gb;replace dA:=(s1.mem _ this).2 dA;replace gb:=s1.aM gb;replace dW:=(s1.mem _ (ak hW.at_)).2 dW;replace hW:=hW.bh s1;replace hM:=s1.lt hM;have:=S.size;replace S:=S.ax s1;obtain⟨m,hO,RC,qd⟩:=hW.W2 aC dW (by unfold maxLen;omega) ks Ju;refine aQ rfl rfl XG (yd hO K4 (by omega)) (fun r2 w2 hc=>?_);obtain⟨⟨ss,hss,mU,_⟩,s2⟩:=hc;have PA:ss.Perm ks:=hss.trans RC;have UH:=List.mergeSort_perm ss fun x y=>decide (x≤y)
 have mI:(ss.mergeSort fun x y=>decide (x≤y))=keysOf L:=Nk (DV (PA.nodup_iff.2 mZ)) (kS L) fun x=>by rw[UH.mem_iff,PA.mem_iff,ej,ku]
 have hlen:ss.length=(keysOf L).length:=by rw[←mI,List.length_mergeSort]
 rw[mI,hlen]at mU;have XK:∀x∈keysOf L,x.length≤140737488355328:=fun x hx=>by have:=re hF x (ku.1 hx);omega
 have qg:Own RT.str 9 (nX r2) w2 w1.heap.size r2 (keysOf L):=⟨⟨_,mU,Ae XK⟩,fun b hb=>hb⟩;have xF:(RT.str.sl).V M w2 (keysOf L) r2:=qg.tell G2 (fun b hb h=>by have:=(qg.base b hb).1;have:=hM b h;omega) (by have:=PA.length_eq;omega);have:=ak gb;replace dA:=(s2.mem _ this).2 dA;replace gb:=s2.aM gb;replace dW:=(s2.mem _ (ak hW.at_)).2 dW;replace hW:=hW.bh s2;replace hM:=s2.lt hM;have:=S.size;replace S:=S.ax s2;refine ai rfl rfl (ad (aL ?_));exact aO rfl rfl ⟨xF,S⟩
theorem BQ {Z M:aB} {B b:Nat} {L:List En} {words last:Int} {k:List UInt8} (w0:World) (hM:Lt M w0) (hb:lM Z M w0 B b L words last) (hF:∀x∈L,gR x.1) (hLn:L.length≤1000000) (Dq:k.length≤140737488355328):
  Spec Tryz.prog 59 #[.pointer (some ⟨b,0,none⟩),sv k] w0 (fun v w=>(RT.po.sl).V M w (pk L k) v∧Step M w0 M w aA):=by
 have iL:=hM;obtain⟨mb,vl,es,clock,gb,dA,dW,hB,CW,ho,hW,hR,zl⟩:=hb;obtain⟨kl,yS⟩:=GK k Dq;obtain⟨yT,RD⟩:=qw k L 0 hF;replace yT:(pk L k).length≤L.length:=yT;replace RD:∀p∈pk L k,_:=RD;refine aZ (args:=[_,_]) (fn:=Tryz.f59) Tryz.func59 rfl (n:=30) Tryz.ntmps59 ?_;have S:Step M w0 M w0 aA:=(an _ _).ca (fun _ h=>h.elim) (fun _ h=>h.elim);refine aj (ah (ai rfl rfl (ad (aj (ah (ai rfl rfl (ad (aj (aj (ah (ae rfl rfl ?_)))))))))));refine aU rfl ⟨_,rfl⟩ rfl (aV (o':=1) dq rfl rfl BM (by decide) rfl rfl (aH fZ rfl rfl rfl gb rfl (bz (v':= .map (some mb)) rfl (ae rfl rfl ?_))));refine Rg.pH fZ pP jQ rfl rfl rfl yS hW (fun XL vh=>?_);have ov:=hR.o _ _ vh;have hvb:∀c,XL.ownBlock=some c→c<w0.heap.size:=fun c hc=>(ov.base c hc).2
 clear hR hW ho;refine gO aX rfl ov rfl (ae rfl rfl (ad (aY ?_)));refine dr (σ:=Nat×Value) (fun q=>[(5,q.2),(13,XL),(14,.int .i64 ((pk L k).length:Int)),(15,.int .i64 (q.1:Int))]) (fun q w=>∃M',Lt M' w∧Step M w0 M' w aA∧Own RT.po 153 M' w w0.heap.size q.2 ((pk L k).take q.1)∧Own RT.po 153 M' w B XL (pk L k)∧q.1≤(pk L k).length) (fun q=>(pk L k).length-q.1) (0,.slice none 0 0) (.cons rfl (.cons rfl (.cons rfl (.cons rfl .nil)))) ?_ ?_
 ·exact⟨M,hM,S,dK _ _ _ _ _,ov,bB _⟩
 ·clear hM S ov;rintro⟨i,u⟩ w ⟨M1,hM,S,hu,ov,hi⟩;dsimp only at hu hi ⊢;refine aj (ah (b4 rfl rfl rfl (ad (aj ?_))));refine bH rfl (fun c3=>?_) (fun c3=>?_)
  ·refine aS (aj (aY (aj (ah ?_))));refine Rg.Xe aX gD (by decide) rfl rfl rfl ov (by omega) (fun u4 p Bg vY=>?_);rw[aw]at Bg;have hp:=RD p (aI Bg);refine Rg.GI (A:=RT.po) bL rfl gD rfl rfl rfl vY (fun v4 qq=>?_);refine mz (A:=RT.po) (M:=M1) gD rfl rfl rfl rfl rfl (by assumption) (ao _ _) hM (fun Ql Qm lF pB XM=>?_);replace hu:=hu.bh pB;replace ov:=ov.bh pB;replace hM:=pB.lt hM;have:=S.size;replace S:=S.ax pB;refine ad ?_;apply T.ni 5 [0,1,2] 3 aA mixed rfl rfl rfl rfl;intro O6 RE;have yg:=RE M1;replace lF:=lF.le (by decide) yg.le;replace hu:=hu.bh yg;replace ov:=ov.bh yg;replace hM:=yg.lt hM;have:=S.size;replace S:=S.ax yg;refine ae rfl rfl ?_;refine ad ⟨rfl,rfl,rfl,?_⟩;refine aF (M:=M1) (A:=RT.po) (B:=RT.int .i64) bL rfl rfl I3 (by decide) (Ic) rfl rfl (by decide) (by assumption) (by repeat (first|exact ao _ _|refine aT (bj (by assumption)) ?_)) (fun Ww KL=>?_);refine ad ⟨rfl,rfl,rfl,?_⟩;refine bV (M:=M1) ar rfl rfl (by assumption) (by repeat (first|exact ao _ _|refine aT (bj (by assumption)) ?_)) (fun RF=>?_);refine ad ⟨rfl,rfl,rfl,?_⟩;refine aF (M:=M1) (A:=RT.po) (B:=(RT.int .i64).sl) bL rfl rfl nY (by decide) (PR) rfl rfl (by decide) (by assumption) (by repeat (first|exact ao _ _|refine aT (bj (by assumption)) ?_)) (fun Wb CJ=>?_);refine ad ⟨rfl,rfl,rfl,?_⟩;refine bY (M:=M1) au rfl rfl rfl rfl rfl (by assumption) (by repeat (first|exact ao _ _|refine aT (bj (by assumption)) ?_)) (fun afa RG=>?_);refine ad ⟨rfl,rfl,rfl,?_⟩;refine fa ?_;obtain⟨bb,oo,cs,ee,fr,rfl,lz,_⟩:=KL.float;refine⟨iM ⟨jy,⟨mA bL rfl I3 (by decide),⟨gw rfl lz (fun h=>h),trivial⟩⟩⟩,?_⟩
   have kp:=kG aA O6;refine aQ rfl rfl Ud (tM hM RG (by omega)) (fun v5 w5 hc=>?_);obtain⟨ou,s5⟩:=hc;replace lF:=lF.le (by decide) s5.le;replace hu:=hu.bh s5;replace ov:=ov.bh s5;replace hM:=s5.lt hM;have:=S.size;replace S:=S.ax s5;refine(fun(kp:eB _ _ _)=>ad ⟨rfl,rfl,fun _=>kp,?_⟩) (by first|exact kp|exact kp.rA (by assumption)|exact kp.goN (by assumption)|exact kp.go (by assumption) (fun _ _ h=>by first|exact h|exact h.elim));refine dU (places:=[(0,1),(1,1)]) bL gD IS rfl ⟨_,_,rfl,rfl,_,_,rfl,rfl,rfl⟩ (out:=[_,_]) ⟨0,[_],rfl,rfl,by simp[Value.cells],1,[_],rfl,iB ou,by simp[Value.cells],rfl⟩ ?_;have GW:RT.po.V M1 _ p _:=ef (fW RF) ou rfl rfl rfl rfl;refine(fun(kp:eB _ _ _)=>ad ⟨rfl,rfl,fun _=>kp,?_⟩) (by first|exact kp|exact kp.rA (by assumption)|exact kp.goN (by assumption)|exact kp.go (by assumption) (fun _ _ h=>by first|exact h|exact h.elim));refine eh (A:=RT.po) (hn:=by decide) (M:=M1) aX gD (by decide) rfl rfl hM (GW) (.inl rfl) (fun afb afc G3 D3=>?_);replace lF:=lF.le (by decide) D3.le;replace ou:=ou.le D3.le;replace hu:=hu.bh D3;replace ov:=ov.bh D3;replace hM:=D3.lt hM;have:=S.size;replace S:=S.ax D3;refine(fun(kp:eB _ _ _)=>ad ⟨rfl,rfl,fun _=>kp,?_⟩) (by first|exact kp|exact kp.rA (by assumption)|exact kp.goN (by assumption)|exact kp.go (by assumption) (fun _ _ h=>by first|exact h|exact h.elim));refine cR (M:=M1) (base:=w0.heap.size) aX gD rfl rfl rfl rfl hu G3 (ao _ _) (by simp;omega) (by simp;omega) (S.size) (fun XN XO afd RH D4=>?_);replace lF:=lF.le (by decide) D4.le;replace ou:=ou.le D4.le;replace G3:=G3.le D4.le;replace ov:=ov.step D4 (fun c hc h=>by have:=hvb c hc;have:=(hu.base c h).1;omega);replace hM:=D4.lt hM;have:=S.size;replace S:=S.dd D4 hu (a7 _);replace hu:=RH;refine ad ⟨rfl,rfl,fun h=>absurd rfl h,?_⟩
   refine ai rfl rfl ?_;refine ad ⟨rfl,rfl,fun h=>absurd rfl h,?_⟩;refine qG (ah (bu rfl rfl rfl (by omega) (ae rfl rfl (ad ?_))));refine⟨rfl,(i+1,XN),(.cons rfl (.cons rfl (.cons rfl (.cons rfl .nil)))),?_,?_⟩
   ·exact⟨XO,hM,S,by rw[bN,Bg,ck];exact hu,ov,by dsimp only;omega⟩
   ·dsimp only;omega
  ·refine cG (aj (ah (ae rfl rfl (ai rfl rfl (ad (aL ?_))))));rw[aW (by omega)]at hu;exact aO rfl rfl ⟨hu.close iL S (by omega),S.back⟩
end Go.K
namespace Go.K
open Go.Proofs
namespace TKBldF
theorem XP:TI Tryz.prog 190 (.agg #[(.slice none 0 0),(.slice none 0 0)]) 2 48:=by unfold TI;kernel_rfl
theorem XQ:placesOf Tryz.prog 190=[(0,1),(1,1)].map some:=by kernel_rfl
theorem XR:Enters Tryz.prog 176:=enters Tryz.func176 rfl (by decide)
theorem XS:Enters Tryz.prog 177:=enters Tryz.func177 rfl (by decide)
theorem XT:Enters Tryz.prog 178:=enters Tryz.func178 rfl (by decide)
end TKBldF
open TKBldF
set_option maxRecDepth 10000
def Af:Option (List UInt8)→List (List UInt8)→Bool
 |_,[]=>true
 |o,x::l=>(match o with|none=>true|some a=>decide (a<x))&&Af (some x) l
theorem tQ {l:List (List UInt8)} {k:Nat} {x:List UInt8} (h:l[k]? =some x) (o:Option (List UInt8)):Af o (l.drop k)=((match o with|none=>true|some a=>decide (a<x))&&Af (some x) (l.drop (k+1))):=by
 obtain⟨dC,he⟩:=av.1 h;rw[dB dC,he];rfl
theorem Ag {a:List UInt8}:∀{l:List (List UInt8)},x9 (a::l)→Af (some a) l=true
 |[],_=>rfl
 |x::l,h=>by
  have h':=fN.1 h;simp only[Af,bD,decide_eq_true_eq];exact⟨h'.1 x (bW ..),Ag h'.2⟩
theorem NJ:∀{l:List (List UInt8)},x9 l→Af none l=true
 |[],_=>rfl
 |x::l,h=>by simp only[Af,cZ];exact Ag h
theorem D5 {M:aB} {v:Value} {l:List Int} (w0:World) (hv:((RT.int .i64).sl).V M w0 l v):
  Spec Tryz.prog 124 #[v] w0 (fun v' w'=>v'= .bool (ey (-1) l)∧w'=w0):=by
 have hlen:=ei hv;refine aZ (args:=[_]) (fn:=Tryz.f124) Tryz.func124 rfl (n:=28) Tryz.ntmps124 (aj (ah (ai rfl rfl (ad (aj (aj (ah (ae rfl rfl (bM au rfl hv rfl (ae rfl rfl (ad ?_)))))))))));refine aY ?_;refine dr (σ:=Nat×Int) (fun s=>[(0,v),(5,v),(6,.int .i64 l.length),(7,.int .i64 s.1)]) (fun s w=>w=w0∧s.1≤l.length∧ey (-1) l=ey s.2 (l.drop s.1)∧ -1≤s.2∧(s.1=0→s.2= -1)∧(0<s.1→l[s.1-1]? =some s.2)) (fun s=>l.length-s.1) (0,-1) (.cons rfl (.cons rfl (.cons rfl (.cons rfl .nil)))) ?_ ?_
 ·exact⟨rfl,bB _,rfl,by decide,fun _=>rfl,fun h=>absurd h (iy 0)⟩
 ·rintro⟨k,last⟩ w1 ⟨rfl,hk,hr,O7,h0,h1⟩;dsimp only at hk hr O7 h0 h1 ⊢;refine aj (ah (b4 rfl rfl rfl (ad (aj ?_))));refine bH rfl (fun c2=>?_) (fun c2=>?_)
  ·refine aS (aj (aY (aj (ah (ae rfl rfl ?_)))));obtain⟨x,hx⟩:∃x,l[k]? =some x:=⟨_,aD (by omega)⟩;refine cK (M:=M) au I3 rfl rfl rfl hv (ao _ _) (by omega) (fun u a hg hu=>?_);obtain rfl:x=a:=eM (bp (hg.symm.trans (by simpa using hx)));refine bV (M:=M) ar rfl rfl hu (ao _ _) (fun inx=>?_);refine ai rfl rfl (ai rfl rfl (ad (aj (ah (ae rfl rfl (b4 rfl rfl rfl (ae rfl rfl ?_)))))));refine aJ (g:=14) rfl (fun G4=>?_) (fun G4=>?_)
   ·refine aq rfl rfl rfl rfl (aq rfl rfl rfl rfl (aq rfl rfl rfl rfl (cj rfl rfl rfl (cj rfl rfl rfl (cj rfl rfl rfl (cj rfl rfl rfl (cj rfl rfl rfl (cj rfl rfl rfl (cj rfl rfl rfl (aq rfl rfl rfl rfl (aR rfl rfl rfl ?_)))))))))));refine ad (lT rfl (aj (ah (ai rfl rfl (ad (aL ?_))))));refine aO rfl rfl ⟨congrArg Value.bool (eM ?_),rfl⟩;rw[hr,fc hx,decide_eq_false (show¬last<x by omega),eH]
   ·refine al rfl rfl (ae rfl rfl (al rfl rfl (mL rfl rfl rfl (al rfl rfl (ae rfl rfl ?_)))));refine aJ (g:=17) rfl (fun MV=>?_) (fun MV=>?_)
    ·refine al rfl rfl (ae rfl rfl (al rfl rfl (ae rfl rfl (al rfl rfl (ae rfl rfl (al rfl rfl (gN rfl rfl rfl (by omega) (al rfl rfl ?_))))))));refine cK (M:=M) au I3 rfl rfl rfl hv (ao _ _) (by omega) (fun u2 a hg rv=>?_);obtain rfl:last=a:=eM (bp (hg.symm.trans (by rw[show((k:Int)-1).toNat=k-1 from by omega];exact h1 (by omega))));refine al rfl rfl ?_;refine bV (M:=M) ar rfl rfl rv (ao _ _) (fun inl=>?_);refine al rfl rfl (eV rfl rfl rfl (al rfl rfl (aR rfl rfl rfl (az rfl rfl rfl (ad ?_)))));refine bH rfl (fun c4=>?_) (fun c4=>?_)
     ·refine aj (ah (ai rfl rfl (ad (aL ?_))));refine aO rfl rfl ⟨congrArg Value.bool (eM ?_),rfl⟩;rw[hr,fc hx,decide_eq_false (show¬last<x by omega),eH]
     ·refine aS (ah (bu rfl rfl rfl (by omega) (ae rfl rfl (ad ?_))));refine⟨rfl,(k+1,x),(.cons rfl (.cons rfl (.cons rfl (.cons rfl .nil)))),?_,?_⟩
      ·refine⟨rfl,by simp only;omega,?_,by simp only;omega,fun h=>by simp at h,fun _=>by simpa using hx⟩;rw[hr,fc hx,decide_eq_true (show last<x by omega),cZ]
      ·simp only;omega
    ·refine aq rfl rfl rfl rfl (aq rfl rfl rfl rfl (aq rfl rfl rfl rfl (aq rfl rfl rfl rfl (aq rfl rfl rfl rfl (aq rfl rfl rfl rfl (aq rfl rfl rfl rfl (al rfl rfl (az rfl rfl rfl (az rfl rfl rfl (ad (gG rfl ?_)))))))))));refine aS (ah (bu rfl rfl rfl (by omega) (ae rfl rfl (ad ?_))));refine⟨rfl,(k+1,x),(.cons rfl (.cons rfl (.cons rfl (.cons rfl .nil)))),?_,?_⟩
     ·refine⟨rfl,by simp only;omega,?_,by simp only;omega,fun h=>by simp at h,fun _=>by simpa using hx⟩;rw[hr,fc hx,decide_eq_true (show last<x by omega),cZ]
     ·simp only;omega
  ·refine cG (aj (ah (ai rfl rfl (ad (aL ?_)))));refine aO rfl rfl ⟨congrArg Value.bool (eM ?_),rfl⟩;rw[hr,eu (by omega)];rfl
theorem Ah {M:aB} {v:Value} {l:List (List UInt8)} (w0:World) (hv:(RT.str.sl).V M w0 l v):
  Spec Tryz.prog 176 #[v] w0 (fun v' w'=>v'= .bool (Af none l)∧w'=w0):=by
 have hlen:=ei hv;refine aZ (args:=[_]) (fn:=Tryz.f176) Tryz.func176 rfl (n:=24) Tryz.ntmps176 (aj (ah (ai rfl rfl (ad (aj (aj (ah (ae rfl rfl (bM a8 rfl hv rfl (ae rfl rfl (ad ?_)))))))))));refine aY ?_;refine dr (σ:=Nat×Option (List UInt8)) (fun s=>[(0,v),(5,v),(6,.int .i64 l.length),(7,.int .i64 s.1)]) (fun s w=>w=w0∧s.1≤l.length∧Af none l=Af s.2 (l.drop s.1)∧(s.1=0→s.2=none)∧(0<s.1→∃a,s.2=some a∧l[s.1-1]? =some a)) (fun s=>l.length-s.1) (0,none) (.cons rfl (.cons rfl (.cons rfl (.cons rfl .nil)))) ?_ ?_
 ·exact⟨rfl,bB _,rfl,fun _=>rfl,fun h=>absurd h (iy 0)⟩
 ·rintro⟨k,o⟩ w1 ⟨rfl,hk,hr,h0,h1⟩;dsimp only at hk hr h0 h1 ⊢;refine aj (ah (b4 rfl rfl rfl (ad (aj ?_))));refine bH rfl (fun c2=>?_) (fun c2=>?_)
  ·refine aS (aj (aY (aj (ah (ae rfl rfl ?_)))));obtain⟨x,hx⟩:∃x,l[k]? =some x:=⟨_,aD (by omega)⟩;refine cK (M:=M) a8 I9 rfl rfl rfl hv (ao _ _) (by omega) (fun u a hg hu=>?_);obtain rfl:x=a:=eM (bp (hg.symm.trans (by simpa using hx)));refine bY (M:=M) aC rfl rfl rfl rfl rfl hu (ao _ _) (fun vx tu=>?_);obtain rfl:=eD tu;refine ai rfl rfl (ai rfl rfl (ad (aj (ah (ae rfl rfl (mL rfl rfl rfl (ae rfl rfl ?_)))))));refine aJ (g:=14) rfl (fun G4=>?_) (fun G4=>?_)
   ·refine al rfl rfl (ae rfl rfl (al rfl rfl (ae rfl rfl (al rfl rfl (ae rfl rfl (al rfl rfl (gN rfl rfl rfl (by omega) (al rfl rfl ?_))))))));obtain⟨last,rfl,iE⟩:=h1 (by omega);refine cK (M:=M) a8 I9 rfl rfl rfl hv (ao _ _) (by omega) (fun u2 a hg rv=>?_);obtain rfl:last=a:=eM (bp (hg.symm.trans (by rw[show((k:Int)-1).toNat=k-1 from by omega];exact iE)));refine al rfl rfl ?_;refine bY (M:=M) aC rfl rfl rfl rfl rfl rv (ao _ _) (fun vl jH=>?_);obtain rfl:=eD jH;refine al rfl rfl (Rg.Nj rfl rfl rfl (aR rfl rfl rfl (ad ?_)));refine bH rfl (fun c4=>?_) (fun c4=>?_)
    ·refine aj (ah (ai rfl rfl (ad (aL ?_))));refine aO rfl rfl ⟨congrArg Value.bool (eM ?_),rfl⟩;rw[hr,tQ hx];simp[c4]
    ·refine aS (ah (bu rfl rfl rfl (by omega) (ae rfl rfl (ad ?_))));refine⟨rfl,(k+1,some x),(.cons rfl (.cons rfl (.cons rfl (.cons rfl .nil)))),?_,?_⟩
     ·refine⟨rfl,by simp only;omega,?_,fun h=>by simp at h,fun _=>⟨x,rfl,by simpa using hx⟩⟩;rw[hr,tQ hx]
      first
      |(rw[h0 (by omega)];simp;done)
      |(have XU:=dY.1 c4;simp[XU];done)
     ·simp only;omega
   ·refine aq rfl rfl rfl rfl (aq rfl rfl rfl rfl (aq rfl rfl rfl rfl (aq rfl rfl rfl rfl (aq rfl rfl rfl rfl (aq rfl rfl rfl rfl (aq rfl rfl rfl rfl (az rfl rfl rfl (ad (gG rfl (aS (ah ?_)))))))))));refine bu rfl rfl rfl (by omega) (ae rfl rfl (ad ?_));refine⟨rfl,(k+1,some x),(.cons rfl (.cons rfl (.cons rfl (.cons rfl .nil)))),?_,?_⟩
    ·refine⟨rfl,by simp only;omega,?_,fun h=>by simp at h,fun _=>⟨x,rfl,by simpa using hx⟩⟩;rw[hr,tQ hx]
     first
     |(rw[h0 (by omega)];simp;done)
     |(have XU:=dY.1 c4;simp[XU];done)
    ·simp only;omega
  ·refine cG (aj (ah (ai rfl rfl (ad (aL ?_)))));refine aO rfl rfl ⟨congrArg Value.bool (eM ?_),rfl⟩;rw[hr,eu (by omega)];rfl
theorem qA {α:Type} {A:RT α} {M:aB} {w:World} {v:Value} {x:α} (h:cp A M w v x):v.cells= #[v]:=by
 obtain⟨b,o,vs,rfl,_⟩:=h;rfl
theorem BR {M:aB} {v0 v1:Value} {ns:List (List UInt8)} {ts:List Li} (w0:World) (hM:Lt M w0) (hn:(RT.str.sl).V M w0 ns v0) (ht:(((RT.li).ptr).sl).V M w0 ts v1) (hl:ns.length≤1099511627776) (Ex:ts.length≤1099511627776):
  Spec Tryz.prog 128 #[v0,v1] w0 (fun v w=>∃p,v= .tuple #[p,.int .i64 (if ns.length=ts.length∧Af none ns=true then 0 else 1)]∧(ns.length=ts.length→Af none ns=true→cp RT.di M w p (ns,ts))∧Step M w0 M w aA):=by
 refine aZ (args:=[_,_]) (fn:=Tryz.f128) Tryz.func128 rfl (n:=22) Tryz.ntmps128 ?_;have S:Step M w0 M w0 aA:=(an _ _).ca (fun _ h=>h.elim) (fun _ h=>h.elim);refine aj (ah (ai rfl rfl (ai rfl rfl (ad (aj (aj (ah (ae rfl rfl (bM a8 rfl hn rfl (ae rfl rfl (bM dO rfl ht rfl ?_)))))))))));refine eW rfl rfl rfl (ae rfl rfl ?_);refine aJ (g:=11) rfl (fun l9=>?_) (fun l9=>?_)
 ·refine aq rfl rfl rfl rfl (aq rfl rfl rfl rfl (aq rfl rfl rfl rfl (aR rfl rfl rfl (ad (lT rfl (aj (ah (ai rfl rfl (ai rfl rfl (ad (aL ?_)))))))))))
  first
  |exact eN rfl rfl rfl ⟨_,by rw[if_neg (fun h=>l9 (by omega))],fun h=>absurd (by omega) l9,S⟩
  |exact eN rfl rfl rfl ⟨_,by rw[if_neg (fun h=>c1 h.2)],fun _ h=>absurd h c1,S⟩
 ·refine al rfl rfl (ae rfl rfl (al rfl rfl ?_));refine aQ rfl rfl XR (Ah _ hn) (fun r wc hc=>?_);obtain⟨rfl,rfl⟩:=hc;refine al rfl rfl (rq rfl rfl (bz (v':= .bool (decide (¬Af none ns=true))) (by simp) (az rfl rfl rfl (ad ?_))));refine bH rfl (fun c1=>?_) (fun c1=>?_)
  ·refine aj (ah (ai rfl rfl (ai rfl rfl (ad (aL ?_)))))
   first
   |exact eN rfl rfl rfl ⟨_,by rw[if_neg (fun h=>l9 (by omega))],fun h=>absurd (by omega) l9,S⟩
   |exact eN rfl rfl rfl ⟨_,by rw[if_neg (fun h=>c1 h.2)],fun _ h=>absurd h c1,S⟩
  ·refine aS (aj (ah (ae rfl rfl ?_)));refine aQ rfl rfl XS (Gx hM hn hl) (fun v3 w3 hc=>?_);obtain⟨uU,s3⟩:=hc;replace hn:=hn.le s3.le;replace ht:=ht.le s3.le;replace hM:=s3.lt hM;have:=S.size;replace S:=S.ax s3;refine ae rfl rfl ?_;refine aQ rfl rfl XT (JC hM ht Ex) (fun v4 w4 hc=>?_);obtain⟨qq,s4⟩:=hc;replace hn:=hn.le s4.le;replace ht:=ht.le s4.le;replace uU:=uU.le s4.le;replace hM:=s4.lt hM;have:=S.size;replace S:=S.ax s4;refine dU (places:=[(0,1),(1,1)]) Tryz.underlying190 XP XQ rfl ⟨_,_,rfl,rfl,_,_,rfl,rfl,rfl⟩ (out:=[_,_]) ⟨0,[_],rfl,iB uU,by simp[Value.cells],1,[_],rfl,iB qq,by simp[Value.cells],rfl⟩ ?_;refine gx (A:=RT.di) (a:=(ns,ts)) rfl rfl hM (ef uU qq rfl rfl rfl rfl) rfl (fun u5 w5 Bk s5 _=>?_);replace hn:=hn.le s5.le;replace ht:=ht.le s5.le;replace uU:=uU.le s5.le;replace qq:=qq.le s5.le;replace hM:=s5.lt hM;have:=S.size;replace S:=S.ax s5;refine ai rfl rfl (ai rfl rfl (ad (aL ?_)));exact eN rfl rfl rfl ⟨_,by rw[if_pos ⟨by omega,dY.1 c1⟩],fun _ _=>Bk,S⟩
end Go.K
namespace Go.K
theorem BS (n:Nat):IntKind.u8.wrap (n:Int)=((UInt8.ofNat n).toNat:Int):=by
 rw[IntKind.wrap_u8];simp[UInt8.toNat_ofNat]
theorem RI:∀m:Nat,m<256→(BitVec.ofInt 8 (m:Int)|||BitVec.ofInt 8 128).toNat=128+m%128:=by decide+kernel
theorem JM (n:Nat):IntKind.u8.wrap ((BitVec.ofInt IntKind.u8.bits (IntKind.u8.wrap (n:Int))|||BitVec.ofInt IntKind.u8.bits 128).toNat:Int)=((UInt8.ofNat (128+n%128)).toNat:Int):=by
 have h1:IntKind.u8.wrap (n:Int)=((n%256:Nat):Int):=by rw[IntKind.wrap_u8];omega
 rw[h1];show IntKind.u8.wrap ((BitVec.ofInt 8 ((n%256:Nat):Int)|||BitVec.ofInt 8 128).toNat:Int)=_;rw[RI (n%256) (by omega),IntKind.wrap_u8,show n%256%128=n%128 from by omega];simp[UInt8.toNat_ofNat]
theorem XV (n:Nat):((n:Int)).fdiv (2^min (Int.toNat 7) IntKind.i64.bits)=((n/128:Nat):Int):=by
 show((n:Int)).fdiv 128=_;rw[Int.fdiv_eq_ediv_of_nonneg _ (by decide)];rfl
theorem BT:∀m:Nat,m<256→(BitVec.ofInt 8 (m:Int)&&& ~~~ BitVec.ofInt 8 128).toNat=m%128:=by decide+kernel
theorem Ai (c:UInt8):IntKind.u8.wrap ((BitVec.ofInt IntKind.u8.bits (c.toNat:Int)&&& ~~~ BitVec.ofInt IntKind.u8.bits 128).toNat:Int)=((c.toNat%128:Nat):Int):=by
 show IntKind.u8.wrap ((BitVec.ofInt 8 (c.toNat:Int)&&& ~~~ BitVec.ofInt 8 128).toNat:Int)=_;rw[BT c.toNat (by have:=c.toNat_lt;omega),IntKind.wrap_u8];omega
theorem G5 (k n x:Nat) (hk:k≤8) (hn:n<128^k) (hx:x<128):
  IntKind.i64.wrap ((BitVec.ofInt IntKind.i64.bits (n:Int)|||BitVec.ofInt IntKind.i64.bits (IntKind.i64.wrap ((x:Int)*2^min (Int.toNat (7*(k:Int))) IntKind.i64.bits))).toNat:Int)=((n+x*128^k:Nat):Int):=by
 have e7:Int.toNat (7*(k:Int))=7*k:=by omega
 have e1:min (7*k) 64=7*k:=by omega
 have e2:(128:Nat)^k=2^(7*k):=by rw[Nat.pow_mul]
 have hp:2^(7*k)≤2^56:=kV (by decide) (by omega);have hb:x*2^(7*k)≤127*2^(7*k):=Nat.mul_le_mul_right _ (by omega);rw[e2]at hn ⊢;show IntKind.i64.wrap ((BitVec.ofInt 64 (n:Int)|||BitVec.ofInt 64 (IntKind.i64.wrap ((x:Int)*2^min (Int.toNat (7*(k:Int))) 64))).toNat:Int)=_;rw[e7,e1];have e3:((x:Int)*2^(7*k))=((x*2^(7*k):Nat):Int):=by simp
 have e5:n|||x*2^(7*k)=n+x*2^(7*k):=by
  rw[Nat.or_comm,Nat.mul_comm x,←Nat.two_pow_add_eq_or_of_lt hn x,Nat.add_comm]
 rw[e3];generalize x*2^(7*k)=y at*
 generalize 2^(7*k)=z at*
 have e4:∀m:Nat,m<2^64→(BitVec.ofInt 64 (m:Int))=BitVec.ofNat 64 m:=fun m _=>by simp
 rw[iq (y:Int) (by omega),e4 n (by omega),e4 y (by omega),BitVec.toNat_or,BitVec.toNat_ofNat,BitVec.toNat_ofNat,lp (by omega),lp (by omega),e5,iq _ (by omega)]
theorem oW (x:Int): -9223372036854775808≤IntKind.i64.wrap x∧IntKind.i64.wrap x≤9223372036854775807:=by rw[IntKind.wrap_i64];omega
end Go.K
namespace Go.K
open Go.Proofs
set_option maxRecDepth 10000
theorem yh {M:aB} {w0:World} {v:Value} {b:List UInt8} {n:Nat} (hM:Lt M w0) (hv:(RT.u8.sl).V M w0 b v) (hb:b.length≤70368744177664) (hn:n≤9223372036854775807):
  Spec Tryz.prog 173 #[v,.int .i64 n] w0 (fun v' w'=>∃M',Step M w0 M' w' aA∧Own RT.u8 5 M' w' w0.heap.size v' (b++put n)):=by
 have h9:=jo hn;refine aZ (args:=[_,_]) (fn:=Tryz.f173) Tryz.func173 rfl (n:=26) Tryz.ntmps173 (aj (ah (ai rfl rfl (ad (aj (ah (ae rfl rfl (ae rfl rfl ?_))))))))
 first|refine bM br rfl (by assumption) rfl ?_|refine gO br rfl (by assumption) rfl ?_
 refine ae rfl rfl ?_
 first|refine bM br rfl (by assumption) rfl ?_|refine gO br rfl (by assumption) rfl ?_
 refine Rg.A0 br I5 rfl rfl rfl rfl hv ⟨rfl,rfl⟩ (fun a vh kL=>?_);refine ai rfl rfl (ad (aj (aY ?_)));refine dr (σ:=Nat×Value×List UInt8) (fun s=>[(0,s.2.1),(1,.int .i64 s.1)]) (fun s w=>s.2.2++put s.1=b++put n∧∃M1,Lt M1 w∧Step M w0 M1 w aA∧Grow RT.u8 (by decide) 5 M1 w w0.heap.size s.2.1 s.2.2) (fun s=>s.1) (n,_,b) (.cons rfl (.cons rfl .nil)) ?_ ?_
 ·exact⟨rfl,M,hM,an _ _,.inr ⟨a,rfl,kL,vh⟩⟩
 ·rintro⟨k,u0,acc⟩ w1 ⟨uJ,M1,rE,s1,hg⟩;dsimp only at uJ hg ⊢;have hlen:=congrArg List.length uJ;have xi:=IG k;simp only[bP]at hlen;refine aj (aj (ah (ae rfl rfl (dz rfl rfl rfl (ad ?_)))));refine bH rfl (fun c2=>?_) (fun c2=>?_)
  ·refine aS (aY (aj (ah (ae rfl rfl (ae rfl rfl (uF ar cf rfl rfl (Rg.or rfl rfl rfl (bz (congrArg _ (JM _)) ?_))))))));refine eh (A:=RT.u8) (hn:=by decide) (M:=M1) br I5 (by decide) rfl rfl rE (LH.2 rfl) (.inr ⟨rfl,rfl⟩) (fun u w2 hu s2=>?_);refine Rg.Cv (M:=M1) (base:=w0.heap.size) br I5 rfl rfl rfl rfl (hg.le s2) hu (ao _ _) (by simp) (by simp;omega) (by simp;omega) (eK s1.size s2.size) (fun v3 M3 w3 Ik s3=>?_);refine ai rfl rfl (ad (ah (ae rfl rfl (Rg.shr rfl rfl rfl (by omega) (bz (congrArg _ (XV _)) (ai rfl rfl (ad ?_)))))));refine⟨rfl,(k/128,v3,acc++[UInt8.ofNat (128+k%128)]),(.cons rfl (.cons rfl .nil)),?_,?_⟩
   ·exact⟨by rw[←uJ,A9 (n:=k) (by omega)];simp,M3,s3.lt (s2.lt rE),(s1.ax s2).j0 s3 (a7 _),.inl Ik⟩
   ·show k/128<k;omega
  ·refine cG (aj (ah (ae rfl rfl (ae rfl rfl (uF ar cf rfl rfl (bz (congrArg _ (BS _)) ?_))))));refine eh (A:=RT.u8) (hn:=by decide) (M:=M1) br I5 (by decide) rfl rfl rE (LH.2 rfl) (.inr ⟨rfl,rfl⟩) (fun u w2 hu s2=>?_);refine Rg.Cv (M:=M1) (base:=w0.heap.size) br I5 rfl rfl rfl rfl (hg.le s2) hu (ao _ _) (by simp) (by simp;omega) (by simp;omega) (eK s1.size s2.size) (fun v3 M3 w3 Ik s3=>?_);refine ai rfl rfl (ad (aL ?_));refine aO rfl rfl ⟨M3,(s1.ax s2).j0 s3 (a7 _),?_⟩;rw[←uJ,sJ (n:=k) (by omega)];exact Ik
theorem G6 {M:aB} {w0:World} {v:Value} {b:List UInt8} {n:Nat} (hM:Lt M w0) (hv:(RT.u8.sl).V M w0 b v) (hb:b.length≤70368744177664) (hn:n≤9223372036854775807):
  Spec Tryz.prog 173 #[v,.int .i64 n] w0 (fun v' w'=>Step M w0 M w' aA∧(RT.u8.sl).V M w' (b++put n) v'):=
 (yh hM hv hb hn).mono fun _ _ ⟨_,s,ho⟩=>⟨s.back,Own.close hM s ho (by have:=jo hn;simp;omega)⟩
theorem Aj {M:aB} {w0:World} {v:Value} {b:List UInt8} {at_:Int} (hv:(RT.u8.sl).V M w0 b v) (O8: -9223372036854775808≤at_∧at_≤9223372036854775807):
  Spec Tryz.prog 250 #[v,.int .i64 at_] w0 (fun v' w'=>v'= .tuple #[.int .i64 (get b at_).1,.int .i64 (get b at_).2.1,.int .i64 (get b at_).2.2]∧w0=w'):=by
 have hlen:=ei hv;refine aZ (args:=[_,_]) (fn:=Tryz.f250) Tryz.func250 rfl (n:=54) Tryz.ntmps250 (aj (ah (ai rfl rfl (ai rfl rfl (ai rfl rfl (ad (aj (aj (ah (ae rfl rfl (b4 rfl rfl rfl ?_)))))))))));refine ae rfl rfl ?_;refine aJ (g:=12) rfl (fun fR=>?_) (fun fR=>?_)
 ·obtain NK:at_<0∨(b.length:Int)<at_:= .inl fR;refine aq rfl rfl rfl rfl (aq rfl rfl rfl rfl (aq rfl rfl rfl rfl (aq rfl rfl rfl rfl (aR rfl rfl rfl (ad (lT rfl (aj (ah (ai rfl rfl (ai rfl rfl (ai rfl rfl ?_)))))))))));refine ad (aL ?_);have gh:get b at_=(0,0,1):=by unfold get;rw[if_pos NK]
  exact oc rfl rfl rfl rfl ⟨by rw[gh],rfl⟩
 ·refine al rfl rfl (ae rfl rfl (al rfl rfl (ae rfl rfl (al rfl rfl ?_))))
  first|refine bM br rfl (by assumption) rfl ?_|refine gO br rfl (by assumption) rfl ?_
  refine al rfl rfl (mL rfl rfl rfl (az rfl rfl rfl (ad ?_)));refine bH rfl (fun c1=>?_) (fun c1=>?_)
  ·obtain NK:at_<0∨(b.length:Int)<at_:= .inr c1;refine aj (ah (ai rfl rfl (ai rfl rfl (ai rfl rfl (ad (aL ?_))))));have gh:get b at_=(0,0,1):=by unfold get;rw[if_pos NK]
   exact oc rfl rfl rfl rfl ⟨by rw[gh],rfl⟩
  ·refine aS (aj (ah (ai rfl rfl (ad (aj (aj (ah (ae rfl rfl (ae rfl rfl (ae rfl rfl ?_))))))))))
   first|refine bM br rfl (by assumption) rfl ?_|refine gO br rfl (by assumption) rfl ?_
   refine ae rfl rfl (bu rfl rfl rfl (by omega) (Rg.min2 rfl rfl rfl ?_));refine Rg.ER br I5 rfl rfl rfl rfl hv (by omega) (fun u hu=>?_);rw[show(min (b.length:Int) (at_+9)).toNat=min b.length (at_.toNat+9)from by omega,L6]at hu;have gh:get b at_=match lB ((b.drop at_.toNat).take 9) 0 0 with|some (n,k)=>((n:Int),at_+k,0)|none=>(0,0,2):=by unfold get;rw[if_neg (by omega)];rfl
   have AX:((b.drop at_.toNat).take 9).length≤9:=by rw[bG];omega
   generalize (b.drop at_.toNat).take 9=bs at hu gh AX
   first|refine bM br rfl (by assumption) rfl ?_|refine gO br rfl (by assumption) rfl ?_
   refine ae rfl rfl (ad (aY ?_));refine dr (σ:=Nat×Nat) (fun s=>[(1,.int .i64 at_),(25,u),(26,.int .i64 bs.length),(27,.int .i64 s.1),(7,.int .i64 s.2)]) (fun s w=>w0=w∧s.1≤bs.length∧s.2<128^s.1∧lB (bs.drop s.1) s.1 s.2=lB bs 0 0) (fun s=>bs.length-s.1) (0,0) (.cons rfl (.cons rfl (.cons rfl (.cons rfl (.cons rfl .nil))))) ?_ ?_
   ·exact⟨rfl,bB _,by decide,rfl⟩
   ·rintro⟨k,m⟩ w1 ⟨rfl,hk,hm,hg⟩;dsimp only at hk hm hg ⊢;refine aj (ah (b4 rfl rfl rfl (ad (aj ?_))));refine bH rfl (fun c5=>?_) (fun c5=>?_)
    ·refine aS (aj (aY (aj (ah (ae rfl rfl ?_)))));refine cK (M:=M) br I5 rfl rfl rfl (by assumption) (by repeat (first|exact ao _ _|refine aT (bj (by assumption)) ?_)) (by omega) (fun afe JN Ak aby=>?_);refine Rg.LL (M:=M) cf rfl rfl (by assumption) (by repeat (first|exact ao _ _|refine aT (bj (by assumption)) ?_)) ?_;refine ai rfl rfl (ai rfl rfl (ad (aj (ah (ae rfl rfl (ae rfl rfl (Rg.andNot rfl rfl rfl (bz (congrArg _ (Ai _)) (Rg.sm cf ar rfl rfl (by omega) (ae rfl rfl (Rg.LI rfl rfl rfl (by omega) ?_)))))))))));refine Rg.shl rfl rfl rfl (by omega) (Rg.or rfl rfl rfl (bz (congrArg _ (G5 k m _ (by omega) hm (by omega))) (ai rfl rfl (ad (aj (ah (ae rfl rfl (b4 rfl rfl rfl (ad ?_)))))))));refine bH rfl (fun c8=>?_) (fun c8=>?_)
     ·refine aj (aj (ah (ae rfl rfl (Rg.AZ rfl rfl rfl (ae rfl rfl ?_)))));refine aJ (g:=44) rfl (fun yi=>?_) (fun yi=>?_)
      ·refine al rfl rfl (ae rfl rfl (al rfl rfl (mL rfl rfl rfl (aR rfl rfl rfl (ad ?_)))));refine bH rfl (fun c9=>?_) (fun c9=>?_)
       ·refine cG (aj (ah (ai rfl rfl (ai rfl rfl (ai rfl rfl (ad (aL ?_)))))))
        have hr:lB bs 0 0=none:=by
         rw[←hg]
         first
         |(rw[lC (by simpa using Ak),if_pos (by omega),if_pos (by omega)])
         |(rw[eu (by omega)];rfl)
        exact oc rfl rfl rfl rfl ⟨by rw[gh,hr],rfl⟩
       ·refine aS (aj (ah (ae rfl rfl (ae rfl rfl (ae rfl rfl (bu rfl rfl rfl (by omega) (bu rfl rfl rfl (by omega) (ai rfl rfl (ai rfl rfl (ai rfl rfl (ad ?_)))))))))));refine aL ?_;have hr:lB bs 0 0=some (m+JN.toNat%128*128^k,k+1):=by rw[←hg,lC (by simpa using Ak),if_pos (by omega),if_neg (by omega)]
        exact oc rfl rfl rfl rfl ⟨by rw[gh,hr];simp;omega,rfl⟩
      ·refine aq rfl rfl rfl rfl (aq rfl rfl rfl rfl (az rfl rfl rfl (ad (gG rfl (aS (aj (ah (ae rfl rfl (ae rfl rfl (ae rfl rfl (bu rfl rfl rfl (by omega) ?_)))))))))));refine bu rfl rfl rfl (by omega) (ai rfl rfl (ai rfl rfl (ai rfl rfl (ad (aL ?_)))));have hr:lB bs 0 0=some (m+JN.toNat%128*128^k,k+1):=by rw[←hg,lC (by simpa using Ak),if_pos (by omega),if_neg (by omega)]
       exact oc rfl rfl rfl rfl ⟨by rw[gh,hr];simp;omega,rfl⟩
     ·refine aS (ah (bu rfl rfl rfl (by omega) (ae rfl rfl (ad ?_))));refine⟨rfl,(k+1,m+JN.toNat%128*128^k),(.cons rfl (.cons rfl (.cons rfl (.cons rfl (.cons rfl .nil))))),?_,?_⟩
      ·refine⟨rfl,by simp only;omega,?_,?_⟩
       ·have:=Nat.mul_le_mul_right (128^k) (show JN.toNat%128≤127 from by omega);simp only[Nat.pow_succ];omega
       ·rw[lC (by simpa using Ak),if_neg (by omega)]at hg;exact hg
      ·simp only;omega
    ·refine cG (aj (ah (ai rfl rfl (ai rfl rfl (ai rfl rfl (ad (aL ?_)))))))
     have hr:lB bs 0 0=none:=by
      rw[←hg]
      first
      |(rw[lC (by simpa using Ak),if_pos (by omega),if_pos (by omega)])
      |(rw[eu (by omega)];rfl)
     exact oc rfl rfl rfl rfl ⟨by rw[gh,hr],rfl⟩
theorem vq {M:aB} {w0:World} {v u:Value} {b:List UInt8} {l:List Int} (hM:Lt M w0) (hv:(RT.u8.sl).V M w0 b v) (hu:((RT.int .i64).sl).V M w0 l u) (hb:b.length+9*(l.length+1)≤70368744177664):
  Spec Tryz.prog 174 #[v,u] w0 (fun v' w'=>∃M' x,Step M w0 M' w' aA∧v'= .tuple #[x,.int .i64 (if ey (-1) l then 0 else 1)]∧Own RT.u8 5 M' w' w0.heap.size x (if ey (-1) l then b++dI l else[])):=by
 have yT:=jo (n:=l.length) (by omega);refine aZ (args:=[_,_]) (fn:=Tryz.f174) Tryz.func174 rfl (n:=31) Tryz.ntmps174 (aj (ah (ai rfl rfl (ai rfl rfl (ad (aj (ah (ae rfl rfl (ae rfl rfl (bM au rfl hu rfl ?_))))))))));refine aQ rfl rfl Mf (yh (M:=M) hM hv (by omega) (by omega)) (fun ub wb yy=>?_);obtain⟨Mb,sb,qK⟩:=yy;refine ai rfl rfl (ad (aj (ah (ai rfl rfl (ad (aj (aj (ah (ae rfl rfl (bM au rfl hu rfl (ae rfl rfl ?_)))))))))));refine ad (aY ?_);refine dr (σ:=Nat×Int×Value×List UInt8) (fun s=>[(0,s.2.2.1),(6,.int .i64 s.2.1),(13,u),(14,.int .i64 l.length),(15,.int .i64 s.1)]) (fun s w=>ey (-1) l=ey s.2.1 (l.drop s.1)∧(ey (-1) l=true→s.2.2.2++jM s.2.1 (l.drop s.1)=b++dI l)∧s.1≤l.length∧ -1≤s.2.1∧s.2.2.2.length≤b.length+9*(s.1+1)∧∃M1,Lt M1 w∧Step M w0 M1 w aA∧Own RT.u8 5 M1 w w0.heap.size s.2.2.1 s.2.2.2) (fun s=>l.length-s.1) (0,-1,_,b++put l.length) (.cons rfl (.cons rfl (.cons rfl (.cons rfl (.cons rfl .nil))))) ?_ ?_
 ·exact⟨rfl,fun _=>by simp[dI],bB _,by simp only;omega,by simp;omega,Mb,sb.lt hM,sb,qK⟩
 ·rintro⟨k,last,u0,acc⟩ w1 ⟨hr,uJ,hk,O7,XW,M1,rE,s1,ho⟩;dsimp only at hr uJ hk O7 XW ho ⊢;refine aj (ah (b4 rfl rfl rfl (ad (aj ?_))));refine bH rfl (fun c4=>?_) (fun c4=>?_)
  ·refine aS (aj (aY (aj (ah ?_))));obtain⟨x,hx⟩:∃x,l[k]? =some x:=⟨_,aD (by omega)⟩;have hxr:=EP hu hx;refine cK (M:=M) au I3 rfl rfl rfl (hu.le (s1.back).le) (ao _ _) (by omega) (fun RJ G7 RL C3=>?_);obtain rfl:G7=x:=bp (RL.symm.trans (by simpa using hx));refine bV (M:=M) ar rfl rfl C3 (ao _ _) (fun _=>?_);refine ai rfl rfl (ad (aj (aj (ah (ae rfl rfl (ae rfl rfl (eV rfl rfl rfl (ad ?_))))))));refine bH rfl (fun c6=>?_) (fun c6=>?_)
   ·refine aj (ah (ai rfl rfl (ai rfl rfl (ad (aL ?_)))));have hrf:ey (-1) l=false:=by rw[hr,fc hx,decide_eq_false (by omega),eH]
    exact eN rfl rfl rfl ⟨M1,_,s1,by rw[hrf];rfl,by rw[hrf];exact dK _ _ _ _ _⟩
   ·refine aS (aj (ah (ae rfl rfl (ae rfl rfl (ae rfl rfl (Rg.LJ rfl rfl rfl (Rg.LJ rfl rfl rfl ?_)))))));have hpx:=jo (n:=(G7-last-1).toNat) (by omega);refine bz (v':= .int .i64 (((G7-last-1).toNat:Nat):Int)) (by rw[IntKind.wrap_i64,IntKind.wrap_i64];congr 1;omega) ?_;have hfz:=s1.freeze (v:=u0) (fun b hb=>(ho.base b hb).1);refine aQ rfl rfl Mf (yh (M:=rm M1 u0) (rE.rm u0) (ho.view (by omega)) (by omega) (by omega)) (fun ub wb yy=>?_);obtain⟨Mb2,sb2,XX⟩:=yy;refine ai rfl rfl (ad (ah (ae rfl rfl (ai rfl rfl (ad (ah (bu rfl rfl rfl (by omega) (ae rfl rfl (ad ?_)))))))));refine⟨rfl,(k+1,G7,ub,acc++put (G7-last-1).toNat),(.cons rfl (.cons rfl (.cons rfl (.cons rfl (.cons rfl .nil))))),?_,?_⟩
    ·refine⟨?_,fun h=>?_,by simp only;omega,by simp only;omega,by simp only[bP];omega,Mb2,sb2.lt (rE.rm u0),hfz.ax sb2,XX.sy s1.size⟩
     ·rw[hr,fc hx,decide_eq_true (by omega),cZ]
     ·rw[←uJ h,Dy hx];simp
    ·simp only;omega
  ·refine cG (aj (ah (ae rfl rfl (ai rfl rfl (ai rfl rfl (ad (aL ?_)))))));have XY:ey (-1) l=true:=by rw[hr,eu (by omega)];rfl
   have ha:=uJ XY;rw[eu (by omega),jM,rY]at ha;exact eN rfl rfl rfl ⟨M1,_,s1,by rw[XY];rfl,by rw[XY,←ha];exact ho⟩
theorem tR {M:aB} {w0:World} {v u:Value} {b:List UInt8} {l:List Int} (hM:Lt M w0) (hv:(RT.u8.sl).V M w0 b v) (hu:((RT.int .i64).sl).V M w0 l u) (hb:b.length+9*(l.length+1)≤70368744177664):
  Spec Tryz.prog 174 #[v,u] w0 (fun v' w'=>∃x,Step M w0 M w' aA∧v'= .tuple #[x,.int .i64 (if ey (-1) l then 0 else 1)]∧(RT.u8.sl).V M w' (if ey (-1) l then b++dI l else[]) x):=
 (vq hM hv hu hb).mono fun _ _ ⟨_,x,s,h,ho⟩=>⟨x,s.back,h,Own.close hM s ho (by
  split
  next hr=>
   have yT:=jo (n:=l.length) (by omega);have lu:∀x∈l,x≤9223372036854775807:=fun x hx=>by obtain⟨i,hi⟩:=bF.1 hx;exact(EP hu hi).2
   have:=sK l (-1) (by decide) lu hr;simp only[dI,bP];omega
  next=>simp)⟩
theorem wJ {M:aB} {w0:World} {be bb ba:Nat} {v:Value} {b:List UInt8} {at_:Int} (he:w0.heap[be]? =some (.cells #[.int .i64 0] 26 (0,0))) (hb:w0.heap[bb]? =some (.cells #[v] 147 (0,0))) (ha:w0.heap[ba]? =some (.cells #[.int .i64 at_] 3 (0,0))) (eI:be≠ba) (NL:M be) (O9:M ba) (hv:(RT.u8.sl).V M w0 b v) (O8: -9223372036854775808≤at_∧at_≤9223372036854775807):
  Spec Tryz.prog 274 #[.pointer (some ⟨be,0,none⟩),.pointer (some ⟨bb,0,none⟩),.pointer (some ⟨ba,0,none⟩)] w0 (fun v' w'=>v'= .int .i64 (get b at_).1∧w'.heap[be]? =some (.cells #[.int .i64 (get b at_).2.2] 26 (0,0))∧w'.heap[ba]? =some (.cells #[.int .i64 (get b at_).2.1] 3 (0,0))∧Step M w0 M w' (fun k=>k=be∨k=ba)):=by
 refine aZ (args:=[_,_,_]) (fn:=Tryz.f274) Tryz.func274 rfl (n:=15) Tryz.ntmps274 (aj (ah (ai rfl rfl (ad (aj (aj (ah (aH qH rfl rfl rfl (by assumption) rfl (eW rfl rfl rfl (ad ?_))))))))));refine bH rfl (fun c1=>?_) (fun c1=>?_)
 ·exact absurd rfl c1
 ·refine aS (aj (ah (ai rfl rfl (ad (aj (ah (aH br rfl rfl rfl (by assumption) rfl (aH ar rfl rfl rfl (by assumption) rfl ?_))))))));refine aQ rfl rfl Qd (Aj hv O8) (fun r w1 h1=>?_);obtain⟨rfl,rfl⟩:=h1;refine ae rfl rfl (bU rfl rfl rfl (bU rfl rfl rfl (bU rfl rfl rfl (ai rfl rfl ?_))));refine bS (M:=M) I3 rfl rfl ha rfl rfl O9 (fun w1 h1 s1=>?_);refine bS (M:=M) TZ rfl rfl (s1.bJ he eI) rfl rfl NL (fun w2 h2 s2=>?_);refine ad (aj (ah (ae rfl rfl (ai rfl rfl (ad (aL ?_))))));refine aO rfl rfl ⟨rfl,h2,s2.bJ h1 (Ne.symm eI),?_⟩;exact(s1.ca (fun b hb=> .inr hb) (fun b hb=>by rcases hb with rfl|rfl<;>assumption)).trans s2 (fun b _ hb=> .inl hb)
theorem tS {M:aB} {w0:World} {v:Value} {b:List UInt8} {at_:Int} (hM:Lt M w0) (hv:(RT.u8.sl).V M w0 b v) (O8: -9223372036854775808≤at_∧at_≤9223372036854775807) (AX:b.length≤1099511627776):
  Spec Tryz.prog 251 #[v,.int .i64 at_] w0 (fun v' w'=>∃x,v'= .tuple #[x,.int .i64 (fv b at_).2.2,.int .i64 (fv b at_).1]∧((RT.int .i64).sl).V M w' (fv b at_).2.1 x∧Step M w0 M w' aA):=by
 refine aZ (args:=[_,_]) (fn:=Tryz.f251) Tryz.func251 rfl (n:=48) Tryz.ntmps251 (aj (ah ?_));refine o8 M rfl rfl (fun bb w1 K4 afg hB s1=>?_);rw[iB hv]at hB;refine o8 (ins M bb) rfl rfl (fun ba w2 hba afh hA s2=>?_);refine ai rfl rfl (ai rfl rfl (ai rfl rfl (ad (aj (ah ?_)))));refine fh (ins (ins M bb) ba) TZ rfl (fun be w3 hbe afi hE s3=>?_);refine bS (M:=ins (ins (ins M bb) ba) be) TZ rfl rfl hE rfl rfl (.inl rfl) (fun w4 hE4 s4=>?_);have z1:=s1.size;have z2:=s2.size;have z3:=s3.size;have z4:=s4.size;have S4:Step M w0 (ins (ins (ins M bb) ba) be) w4 aA:=((s1.ax s2).ax s3).cC s4 (fun k hk=>by subst hk;omega);have Ue:=s4.bJ (s3.aM (s2.aM hB)) (show bb≠be by omega);have hA4:=s4.bJ (s3.aM hA) (show ba≠be by omega);refine ad (aj (ah (iw (xs:=[]) rfl rfl rfl (ai rfl rfl (ad (aj (ah (ai rfl rfl (ad (aj (ah ?_)))))))))));refine ai rfl rfl (ad (aj (aj (ah (ae rfl rfl ?_)))));refine Rg.o9 (first:=[]) (xs:=[]) rfl rfl rfl Qe (wJ (M:=ins (ins (ins M bb) ba) be) hE4 Ue hA4 (by omega) (.inl rfl) (.inr (.inl rfl)) (hv.le S4.le) O8) (fun r w5 h5=>?_);obtain⟨rfl,hE5,hA5,s5⟩:=h5;have z5:=s5.size;have S5:=S4.cC s5 (fun k hk=>by omega);have hB5:=s5.bJ Ue (by omega);obtain⟨XZ,hn1,hn2,hn3⟩:=l1 b at_;refine bz (v':= .int .i64 (((get b at_).1.toNat:Nat):Int)) (by rw[uB XZ]) (ai rfl rfl (ad (aY ?_)));refine dr (σ:=Nat×Int×Value×List Int×Int×Int) (fun s=>[(7,.pointer (some ⟨be,0,none⟩)),(3,.pointer (some ⟨ba,0,none⟩)),(8,.func (.func 274) [].toArray [.pointer (some ⟨be,0,none⟩),.pointer (some ⟨bb,0,none⟩),.pointer (some ⟨ba,0,none⟩)].toArray),(9,s.2.2.1),(10,.int .i64 s.2.1),(11,.int .i64 s.1)]) (fun s w=>(s.1:Int)≤9223372036854775807∧(s.2.2.2.2.1=0→fv b at_=andThen s.2.2.2.1 (fX b s.1 s.2.2.2.2.2 s.2.1))∧(s.2.2.2.2.1≠0→fv b at_=(s.2.2.2.2.1,[],0))∧(s.2.2.2.2.1=0→ -1≤s.2.1∧s.2.1≤4611686018427387904∧(s.2.2.2.1.length:Int)≤s.2.2.2.2.2∧s.2.2.2.2.2≤b.length)∧s.2.2.2.1.length≤b.length+1∧∃M1,Lt M1 w∧Step M w0 M1 w aA∧w4.heap.size≤w.heap.size∧M1 be∧M1 ba∧Own (RT.int .i64) 3 M1 w w4.heap.size s.2.2.1 s.2.2.2.1∧w.heap[be]? =some (.cells #[.int .i64 s.2.2.2.2.1] 26 (0,0))∧w.heap[ba]? =some (.cells #[.int .i64 s.2.2.2.2.2] 3 (0,0))∧w.heap[bb]? =some (.cells #[v] 147 (0,0))) (fun s=>s.1) ((get b at_).1.toNat,-1,_,[],(get b at_).2.2,(get b at_).2.1) (.cons rfl (.cons rfl (.cons rfl (.cons rfl (.cons rfl (.cons rfl .nil)))))) ?_ ?_
 ·refine⟨by have:=vS b at_;simp only;omega,fun h=>?_,fun h=>?_,fun h=>?_,by simp,_,S5.lt hM,S5,z5,.inl rfl,.inr (.inl rfl),dK _ _ _ _ _,hE5,hA5,hB5⟩
  ·unfold fv;rw[if_neg (by simpa using h)];exact(yY _ (Dz b _ _ _)).symm
  ·unfold fv;rw[if_pos h]
  ·have:=qj h;simp only[ic];omega
 ·rintro⟨many,last,u0,acc,e,a1⟩ wl ⟨hmb,Lg,OQ,eO,XW,M1,rE,S,zl,NL,O9,ho,hE,hA,hB⟩;dsimp only at hmb Lg OQ eO XW ho hE hA hB ⊢;refine aj (aj (ah (ae rfl rfl (mL rfl rfl rfl (ae rfl rfl ?_)))));refine aJ (g:=18) rfl (fun Ml=>?_) (fun Ml=>?_)
  ·refine al rfl rfl (aH qH rfl rfl rfl (by assumption) rfl (al rfl rfl (Rg.AZ rfl rfl rfl (aR rfl rfl rfl (ad ?_)))));refine bH rfl (fun c6=>?_) (fun c6=>?_)
   ·refine aS (aj (aY (aj (ah (ae rfl rfl ?_)))));refine Rg.o9 (first:=[]) (xs:=[]) rfl rfl rfl Qe (wJ (M:=M1) (by rw[c6]at hE;exact hE) hB hA (by omega) NL O9 (hv.le S.le) (by have:=eO c6;omega)) (fun r w6 h6=>?_);obtain⟨rfl,RM,RN,s6⟩:=h6;have z6:=s6.size;have S6:=S.cC s6 (fun k hk=>by omega);have RO:=s6.bJ hB (by omega);have qW:=ho.step s6 (fun k hk h=>by have:=(ho.base k hk).1;omega);have G8:=s6.lt rE;obtain⟨XZ,hn1,hn2,hn3⟩:=l1 b a1;obtain⟨p6,Dp,hk3,hk4⟩:=eO c6;refine ai rfl rfl (ad (aj (aj (ah (aH qH rfl rfl rfl (by assumption) rfl (Rg.AZ rfl rfl rfl (ae rfl rfl ?_)))))));refine aJ (g:=28) rfl (fun yi=>?_) (fun yi=>?_)
    ·refine al rfl rfl (ae rfl rfl (al rfl rfl (ae rfl rfl (al rfl rfl (gN rfl rfl rfl (by omega) (al rfl rfl (gN rfl rfl rfl (by omega) (al rfl rfl (mL rfl rfl rfl (aR rfl rfl rfl (ad ?_)))))))))));refine bH rfl (fun c9=>?_) (fun c9=>?_)
     ·refine ah ?_;refine bS (M:=M1) TZ rfl rfl RM rfl rfl NL (fun w7 hE7 s7=>?_);have z7:=s7.size;replace S6:=S6.cC s7 (fun k hk=>by subst hk;omega);replace RO:=s7.bJ RO (show bb≠be by omega);replace RN:=s7.bJ RN (show ba≠be by omega);replace qW:=qW.step s7 (fun k hk h=>by have:=(ho.base k hk).1;omega);replace G8:=s7.lt G8;replace RM:=hE7;refine ad (aj (ah (ae rfl rfl (ae rfl rfl (Rg.xj rfl rfl rfl (Rg.xj rfl rfl rfl (ai rfl rfl (ad (ah (ae rfl rfl (ae rfl rfl ?_)))))))))));refine eh (A:=RT.int .i64) (hn:=by decide) (M:=M1) au I3 (by decide) rfl rfl G8 (fW (oW _)) (.inr ⟨rfl,rfl⟩) (fun u w8 hu s8=>?_);refine cR (M:=M1) (base:=w4.heap.size) au I3 rfl rfl rfl rfl (qW.bh s8) hu (ao _ _) (by simp;omega) (by simp;omega) (by have:=s8.size;omega) (fun v9 M9 w9 RP s9=>?_);have z8:=s8.size;have z9:=s9.size;have gS:∀k,k<w4.heap.size→¬jj u0 k:=fun k hk h=>by have:=(ho.base k h).1;omega
      have G9:=s9.bJ (s8.aM RM) (gS be (by omega));have RQ:=s9.bJ (s8.aM RN) (gS ba (by omega));have RR:=s9.bJ (s8.aM RO) (gS bb (by omega));have S9:=(S6.ax s8).dd s9 (qW.bh s8) (by omega);have RS:=s9.lt (s8.lt G8);have Ha:M9 be:=(s9.mem be (by omega)).2 NL;have Hb:M9 ba:=(s9.mem ba (by omega)).2 O9;refine ai rfl rfl (ad (ah (ae rfl rfl (gN rfl rfl rfl (by omega) (ai rfl rfl (ad ?_))))));refine⟨rfl,(many-1,(IntKind.i64.wrap (last+IntKind.i64.wrap ((get b a1).1+1))),v9,acc++[(IntKind.i64.wrap (last+IntKind.i64.wrap ((get b a1).1+1)))],(if(get b a1).2.2=0∧4611686018427387904-last-1<(get b a1).1 then 2 else(get b a1).2.2),(get b a1).2.1),(.cons rfl (.cons rfl (.cons rfl (.cons rfl (.cons rfl (.cons (show some (Value.int .i64 ((many:Int)-1))=some (Value.int .i64 ((many-1:Nat):Int))from by congr 2;omega) .nil)))))),?_,?_⟩
      ·have hx:(get b a1).2.2=0→¬4611686018427387904-last-1<(get b a1).1→(IntKind.i64.wrap (last+IntKind.i64.wrap ((get b a1).1+1)))=last+1+(get b a1).1:=fun h1 h2=>by rw[iq ((get b a1).1+1) (by omega),iq _ (by omega)];omega
       have OM:many=(many-1)+1:=by omega
       have tT:=Lg c6;rw[OM]at tT;refine⟨by simp only;omega,fun h=>?_,fun h=>?_,fun h=>?_,by have:=eO c6;simp only[bP,cA,ic];omega,M9,RS,S9,by omega,Ha,Hb,RP,?_,RQ,RR⟩
       ·dsimp only at h ⊢;have h3:(get b a1).2.2=0∧¬4611686018427387904-last-1<(get b a1).1:=by split at h<;>omega
        rw[tT,l0 acc h3.1 h3.2,hx h3.1 h3.2]
       ·dsimp only at h ⊢;rw[tT]
        split
        ·rename_i h4;rw[qk h4.1 h4.2];rfl
        ·rename_i h4
         have h5:(get b a1).2.2≠0:=by intro h6;rw[if_neg h4]at h;exact h h6
         rw[oL h5];unfold andThen;rw[if_pos h5]
       ·dsimp only at h ⊢;have h3:(get b a1).2.2=0∧¬4611686018427387904-last-1<(get b a1).1:=by split at h<;>omega
        have:=qj h3.1;rw[hx h3.1 h3.2];simp only[bP,cA,ic];omega
       ·dsimp only
        first
        |(rw[if_pos ⟨yi,c9⟩];exact G9)
        |(rw[if_neg (fun h=>c9 h.2)];exact G9)
        |(rw[if_neg (fun h=>yi h.1)];exact G9)
      ·simp only;omega
     ·refine aS (aj (ah (ae rfl rfl (ae rfl rfl (Rg.xj rfl rfl rfl (Rg.xj rfl rfl rfl (ai rfl rfl (ad (ah (ae rfl rfl (ae rfl rfl ?_)))))))))));refine eh (A:=RT.int .i64) (hn:=by decide) (M:=M1) au I3 (by decide) rfl rfl G8 (fW (oW _)) (.inr ⟨rfl,rfl⟩) (fun u w8 hu s8=>?_);refine cR (M:=M1) (base:=w4.heap.size) au I3 rfl rfl rfl rfl (qW.bh s8) hu (ao _ _) (by simp;omega) (by simp;omega) (by have:=s8.size;omega) (fun v9 M9 w9 RP s9=>?_);have z8:=s8.size;have z9:=s9.size;have gS:∀k,k<w4.heap.size→¬jj u0 k:=fun k hk h=>by have:=(ho.base k h).1;omega
      have G9:=s9.bJ (s8.aM RM) (gS be (by omega));have RQ:=s9.bJ (s8.aM RN) (gS ba (by omega));have RR:=s9.bJ (s8.aM RO) (gS bb (by omega));have S9:=(S6.ax s8).dd s9 (qW.bh s8) (by omega);have RS:=s9.lt (s8.lt G8);have Ha:M9 be:=(s9.mem be (by omega)).2 NL;have Hb:M9 ba:=(s9.mem ba (by omega)).2 O9;refine ai rfl rfl (ad (ah (ae rfl rfl (gN rfl rfl rfl (by omega) (ai rfl rfl (ad ?_))))));refine⟨rfl,(many-1,(IntKind.i64.wrap (last+IntKind.i64.wrap ((get b a1).1+1))),v9,acc++[(IntKind.i64.wrap (last+IntKind.i64.wrap ((get b a1).1+1)))],(if(get b a1).2.2=0∧4611686018427387904-last-1<(get b a1).1 then 2 else(get b a1).2.2),(get b a1).2.1),(.cons rfl (.cons rfl (.cons rfl (.cons rfl (.cons rfl (.cons (show some (Value.int .i64 ((many:Int)-1))=some (Value.int .i64 ((many-1:Nat):Int))from by congr 2;omega) .nil)))))),?_,?_⟩
      ·have hx:(get b a1).2.2=0→¬4611686018427387904-last-1<(get b a1).1→(IntKind.i64.wrap (last+IntKind.i64.wrap ((get b a1).1+1)))=last+1+(get b a1).1:=fun h1 h2=>by rw[iq ((get b a1).1+1) (by omega),iq _ (by omega)];omega
       have OM:many=(many-1)+1:=by omega
       have tT:=Lg c6;rw[OM]at tT;refine⟨by simp only;omega,fun h=>?_,fun h=>?_,fun h=>?_,by have:=eO c6;simp only[bP,cA,ic];omega,M9,RS,S9,by omega,Ha,Hb,RP,?_,RQ,RR⟩
       ·dsimp only at h ⊢;have h3:(get b a1).2.2=0∧¬4611686018427387904-last-1<(get b a1).1:=by split at h<;>omega
        rw[tT,l0 acc h3.1 h3.2,hx h3.1 h3.2]
       ·dsimp only at h ⊢;rw[tT]
        split
        ·rename_i h4;rw[qk h4.1 h4.2];rfl
        ·rename_i h4
         have h5:(get b a1).2.2≠0:=by intro h6;rw[if_neg h4]at h;exact h h6
         rw[oL h5];unfold andThen;rw[if_pos h5]
       ·dsimp only at h ⊢;have h3:(get b a1).2.2=0∧¬4611686018427387904-last-1<(get b a1).1:=by split at h<;>omega
        have:=qj h3.1;rw[hx h3.1 h3.2];simp only[bP,cA,ic];omega
       ·dsimp only
        first
        |(rw[if_pos ⟨yi,c9⟩];exact G9)
        |(rw[if_neg (fun h=>c9 h.2)];exact G9)
        |(rw[if_neg (fun h=>yi h.1)];exact G9)
      ·simp only;omega
    ·refine aq rfl rfl rfl rfl (aq rfl rfl rfl rfl (aq rfl rfl rfl rfl (aq rfl rfl rfl rfl (aq rfl rfl rfl rfl (az rfl rfl rfl (ad (gG rfl (aS (aj (ah (ae rfl rfl ?_)))))))))));refine ae rfl rfl (Rg.xj rfl rfl rfl (Rg.xj rfl rfl rfl (ai rfl rfl (ad (ah (ae rfl rfl (ae rfl rfl ?_)))))));refine eh (A:=RT.int .i64) (hn:=by decide) (M:=M1) au I3 (by decide) rfl rfl G8 (fW (oW _)) (.inr ⟨rfl,rfl⟩) (fun u w8 hu s8=>?_);refine cR (M:=M1) (base:=w4.heap.size) au I3 rfl rfl rfl rfl (qW.bh s8) hu (ao _ _) (by simp;omega) (by simp;omega) (by have:=s8.size;omega) (fun v9 M9 w9 RP s9=>?_);have z8:=s8.size;have z9:=s9.size;have gS:∀k,k<w4.heap.size→¬jj u0 k:=fun k hk h=>by have:=(ho.base k h).1;omega
     have G9:=s9.bJ (s8.aM RM) (gS be (by omega));have RQ:=s9.bJ (s8.aM RN) (gS ba (by omega));have RR:=s9.bJ (s8.aM RO) (gS bb (by omega));have S9:=(S6.ax s8).dd s9 (qW.bh s8) (by omega);have RS:=s9.lt (s8.lt G8);have Ha:M9 be:=(s9.mem be (by omega)).2 NL;have Hb:M9 ba:=(s9.mem ba (by omega)).2 O9;refine ai rfl rfl (ad (ah (ae rfl rfl (gN rfl rfl rfl (by omega) (ai rfl rfl (ad ?_))))));refine⟨rfl,(many-1,(IntKind.i64.wrap (last+IntKind.i64.wrap ((get b a1).1+1))),v9,acc++[(IntKind.i64.wrap (last+IntKind.i64.wrap ((get b a1).1+1)))],(if(get b a1).2.2=0∧4611686018427387904-last-1<(get b a1).1 then 2 else(get b a1).2.2),(get b a1).2.1),(.cons rfl (.cons rfl (.cons rfl (.cons rfl (.cons rfl (.cons (show some (Value.int .i64 ((many:Int)-1))=some (Value.int .i64 ((many-1:Nat):Int))from by congr 2;omega) .nil)))))),?_,?_⟩
     ·have hx:(get b a1).2.2=0→¬4611686018427387904-last-1<(get b a1).1→(IntKind.i64.wrap (last+IntKind.i64.wrap ((get b a1).1+1)))=last+1+(get b a1).1:=fun h1 h2=>by rw[iq ((get b a1).1+1) (by omega),iq _ (by omega)];omega
      have OM:many=(many-1)+1:=by omega
      have tT:=Lg c6;rw[OM]at tT;refine⟨by simp only;omega,fun h=>?_,fun h=>?_,fun h=>?_,by have:=eO c6;simp only[bP,cA,ic];omega,M9,RS,S9,by omega,Ha,Hb,RP,?_,RQ,RR⟩
      ·dsimp only at h ⊢;have h3:(get b a1).2.2=0∧¬4611686018427387904-last-1<(get b a1).1:=by split at h<;>omega
       rw[tT,l0 acc h3.1 h3.2,hx h3.1 h3.2]
      ·dsimp only at h ⊢;rw[tT]
       split
       ·rename_i h4;rw[qk h4.1 h4.2];rfl
       ·rename_i h4
        have h5:(get b a1).2.2≠0:=by intro h6;rw[if_neg h4]at h;exact h h6
        rw[oL h5];unfold andThen;rw[if_pos h5]
      ·dsimp only at h ⊢;have h3:(get b a1).2.2=0∧¬4611686018427387904-last-1<(get b a1).1:=by split at h<;>omega
       have:=qj h3.1;rw[hx h3.1 h3.2];simp only[bP,cA,ic];omega
      ·dsimp only
       first
       |(rw[if_pos ⟨yi,c9⟩];exact G9)
       |(rw[if_neg (fun h=>c9 h.2)];exact G9)
       |(rw[if_neg (fun h=>yi h.1)];exact G9)
     ·simp only;omega
   ·refine cG (aj (aj (ah (aH qH rfl rfl rfl (by assumption) rfl (eW rfl rfl rfl (ad ?_))))));refine bH rfl (fun FU=>?_) (fun FU=>?_)
    ·refine aj ?_;apply T.j7 mixed rfl rfl;intro NF GZ;have oa:=GZ M1;refine aH qH rfl rfl rfl (by first|assumption|exact cc oa (by assumption)) rfl ?_;refine ad ⟨rfl,rfl,rfl,?_⟩;refine ai rfl rfl ?_;refine ad ⟨rfl,rfl,rfl,?_⟩;refine ai rfl rfl ?_;refine ad ⟨rfl,rfl,rfl,?_⟩;refine ai rfl rfl ?_;refine ad ⟨rfl,rfl,rfl,?_⟩;refine fa (aL ?_);have hr:=OQ FU;exact oc rfl rfl rfl rfl ⟨_,by rw[hr]<;>rfl,by rw[hr];exact jG,(S.ax oa).back⟩
    ·refine aS (aj ?_);apply T.j7 mixed rfl rfl;intro NM Hc;have mV:=Hc M1;refine ae rfl rfl ?_;refine ad ⟨rfl,rfl,rfl,?_⟩;refine aH ar rfl rfl rfl (by first|assumption|exact cc mV (by assumption)) rfl ?_;refine ad ⟨rfl,rfl,rfl,?_⟩;refine ai rfl rfl ?_;refine ad ⟨rfl,rfl,rfl,?_⟩;refine ai rfl rfl ?_;refine ad ⟨rfl,rfl,rfl,?_⟩;refine ai rfl rfl ?_;refine ad ⟨rfl,rfl,rfl,?_⟩;refine fa (aL ?_);have hz:many=0:=by omega
     have hr:=Lg (by omega);rw[hz,sL]at hr;simp only[andThen,ne_eq,not_true_eq_false,if_false,rY]at hr;have RU:=S.ax mV;refine oc rfl rfl rfl rfl ⟨_,by rw[hr]<;>rfl,?_,RU.back⟩;rw[hr];exact Own.close hM RU ((ho.bh mV).sy (by omega)) (by simp only;omega)
  ·refine aq rfl rfl rfl rfl (aq rfl rfl rfl rfl (az rfl rfl rfl (ad (gG rfl (cG (aj (aj (ah (aH qH rfl rfl rfl (by assumption) rfl (eW rfl rfl rfl (ad ?_)))))))))));refine bH rfl (fun FU=>?_) (fun FU=>?_)
   ·refine aj ?_;apply T.j7 mixed rfl rfl;intro NF GZ;have oa:=GZ M1;refine aH qH rfl rfl rfl (by first|assumption|exact cc oa (by assumption)) rfl ?_;refine ad ⟨rfl,rfl,rfl,?_⟩;refine ai rfl rfl ?_;refine ad ⟨rfl,rfl,rfl,?_⟩;refine ai rfl rfl ?_;refine ad ⟨rfl,rfl,rfl,?_⟩;refine ai rfl rfl ?_;refine ad ⟨rfl,rfl,rfl,?_⟩;refine fa (aL ?_);have hr:=OQ FU;exact oc rfl rfl rfl rfl ⟨_,by rw[hr]<;>rfl,by rw[hr];exact jG,(S.ax oa).back⟩
   ·refine aS (aj ?_);apply T.j7 mixed rfl rfl;intro NM Hc;have mV:=Hc M1;refine ae rfl rfl ?_;refine ad ⟨rfl,rfl,rfl,?_⟩;refine aH ar rfl rfl rfl (by first|assumption|exact cc mV (by assumption)) rfl ?_;refine ad ⟨rfl,rfl,rfl,?_⟩;refine ai rfl rfl ?_;refine ad ⟨rfl,rfl,rfl,?_⟩;refine ai rfl rfl ?_;refine ad ⟨rfl,rfl,rfl,?_⟩;refine ai rfl rfl ?_;refine ad ⟨rfl,rfl,rfl,?_⟩;refine fa (aL ?_);have hz:many=0:=by omega
    have hr:=Lg (by omega);rw[hz,sL]at hr;simp only[andThen,ne_eq,not_true_eq_false,if_false,rY]at hr;have RU:=S.ax mV;refine oc rfl rfl rfl rfl ⟨_,by rw[hr]<;>rfl,?_,RU.back⟩;rw[hr];exact Own.close hM RU ((ho.bh mV).sy (by omega)) (by simp only;omega)
end Go.K
namespace Go.K
open Go.Proofs
set_option maxRecDepth 10000
theorem wK {M:aB} {w0:World} {v u:Value} {a b:List Int} (hM:Lt M w0) (hv:((RT.int .i64).sl).V M w0 a v) (hu:((RT.int .i64).sl).V M w0 b u):
  Spec Tryz.prog 51 #[v,u] w0 (fun v' w'=>v'= .bool (decide (a=b))∧Step M w0 M w' aA):=by
 have hla:=ei hv;have hlb:=ei hu;refine aZ (args:=[_,_]) (fn:=Tryz.f51) Tryz.func51 rfl (n:=26) Tryz.ntmps51 (aj (ah (ai rfl rfl (ad (aj (aj (ah (ae rfl rfl (bM au rfl hv rfl (ae rfl rfl (bM au rfl hu rfl ?_)))))))))));refine eW rfl rfl rfl (ad ?_);refine bH rfl (fun c1=>?_) (fun c1=>?_)
 ·refine aj (ah (ai rfl rfl (ad (aL ?_))));refine aO rfl rfl ⟨?_,an _ _⟩;rw[decide_eq_false];rintro rfl;exact c1 rfl
 ·obtain hlen:a.length=b.length:=by omega
  refine aS (aj (aj (ah (ai rfl rfl (ad (aY ?_))))));refine dr (σ:=Nat) (fun s=>[(0,v),(1,u),(5,.int .i64 s)]) (fun s w=>s≤a.length∧a.take s=b.take s∧Step M w0 M w aA) (fun s=>a.length-s) 0 (.cons rfl (.cons rfl (.cons rfl .nil))) ?_ ?_
  ·exact⟨bB _,by simp,an _ _⟩
  ·rintro k w1 ⟨hk,heq,s1⟩;refine aj (aj (ah (ae rfl rfl (ae rfl rfl (bM au rfl hv rfl (b4 rfl rfl rfl (ad ?_)))))));refine bH rfl (fun c4=>?_) (fun c4=>?_)
   ·refine aS (aj (aY (aj ?_)));obtain⟨x,hx⟩:∃x,a[k]? =some x:=⟨_,aD (by omega)⟩;obtain⟨y,hy⟩:∃y,b[k]? =some y:=⟨_,aD (by omega)⟩;apply T.draw (M:=M) mixed [cg.eq _,cg.eq _,cg.ptr (RT.int .i64) x,cg.eq _,cg.eq _,cg.eq _,cg.ptr (RT.int .i64) y,cg.eq _,cg.eq _]
    ·rfl
    ·refine aN ?_ ?_
     ·intro wD E sD;refine ae rfl rfl ?_;exact ad ⟨rfl,rfl,_,rfl,rfl,an _ _⟩
     refine aN ?_ ?_
     ·intro wD E sD;refine ae rfl rfl ?_;exact ad ⟨rfl,rfl,_,rfl,rfl,an _ _⟩
     refine aN ?_ ?_
     ·intro wD E sD;refine ay (ay ?_);refine cK (M:=M) au I3 rfl rfl rfl hv (by repeat (first|exact ao _ _|refine aT (bj (by assumption)) ?_)) (by omega) (fun I8 X0 RV tU=>?_);obtain rfl:X0=x:=bp (RV.symm.trans (by simpa using hx));exact ad ⟨rfl,rfl,_,rfl,tU,an _ _⟩
     refine aN ?_ ?_
     ·intro wD E sD;intro v2 xF;refine bV (M:=M) ar rfl rfl (by assumption) (by repeat (first|exact ao _ _|refine aT (bj (by assumption)) ?_)) (fun RW=>?_);exact ad ⟨rfl,rfl,_,rfl,rfl,an _ _⟩
     refine aN ?_ ?_
     ·intro wD E sD;refine ae rfl rfl ?_;exact ad ⟨rfl,rfl,_,rfl,rfl,an _ _⟩
     refine aN ?_ ?_
     ·intro wD E sD;refine ae rfl rfl ?_;exact ad ⟨rfl,rfl,_,rfl,rfl,an _ _⟩
     refine aN ?_ ?_
     ·intro wD E sD;refine ay (ay ?_);refine cK (M:=M) au I3 rfl rfl rfl hu (by repeat (first|exact ao _ _|refine aT (bj (by assumption)) ?_)) (by omega) (fun afp X1 RX RY=>?_);obtain rfl:X1=y:=bp (RX.symm.trans (by simpa using hy));exact ad ⟨rfl,rfl,_,rfl,RY,an _ _⟩
     refine aN ?_ ?_
     ·intro wD E sD;intro v6 ot;refine bV (M:=M) ar rfl rfl (by assumption) (by repeat (first|exact ao _ _|refine aT (bj (by assumption)) ?_)) (fun abG=>?_);exact ad ⟨rfl,rfl,_,rfl,rfl,an _ _⟩
     refine aN ?_ ?_
     ·intro wD E sD;refine ay (ay (eW rfl rfl rfl ?_));exact ad ⟨rfl,rfl,_,rfl,rfl,an _ _⟩
     exact b9.nil
    ·intro wD6 Lh;refine ay (ay ?_);intro afr abH;refine ay (ay (ay ?_));intro afs abI;refine ay (ay ?_);refine bH rfl (fun c6=>?_) (fun c6=>?_)
     ·refine aj (ah (ai rfl rfl (ad (aL ?_))));refine aO rfl rfl ⟨?_,s1.ax Lh⟩;rw[decide_eq_false];rintro rfl;rw[hx]at hy;cases hy;exact c6 rfl
     ·refine aS (ah (ae rfl rfl (bu rfl rfl rfl (by omega) (ai rfl rfl (ad ?_)))));refine⟨rfl,k+1,(.cons rfl (.cons rfl (.cons rfl .nil))),?_,?_⟩
      ·exact⟨by omega,by rw[fm (by omega),fm (by omega),heq];obtain⟨_,h1⟩:=av.1 hx;obtain⟨_,h2⟩:=av.1 hy;rw[h1,h2,dY.1 c6],s1.ax Lh⟩
      ·show a.length-(k+1)<a.length-k;omega
   ·refine cG (aj (ah (ai rfl rfl (ad (aL ?_)))));refine aO rfl rfl ⟨?_,s1⟩;rw[decide_eq_true]
    rwa [aW (by omega),aW (by omega)]at heq
end Go.K
namespace Go.K
open Go.Proofs
set_option maxRecDepth 10000
theorem C4 {M:aB} {w0:World} {v:Value} {x:Li} (hv:cp RT.li M w0 v x) {k:Int}:
  Spec Tryz.prog 214 #[v,.int .i64 k] w0 (fun v' w'=>v'= .bool (Fb x.2.1.length k)∧w0=w'):=by
 refine aZ (args:=[_,_]) (fn:=Tryz.f214) Tryz.func214 rfl (n:=16) Tryz.ntmps214 (aj (ah (ai rfl rfl (ad (aj (ah (ae rfl rfl (dz rfl rfl rfl (ae rfl rfl ?_)))))))));refine aJ (g:=7) rfl (fun fR=>?_) (fun fR=>?_)
 ·refine al rfl rfl (ae rfl rfl (al rfl rfl (ae rfl rfl (al rfl rfl (aU rfl (cp.jn (by assumption)) rfl (al rfl rfl ?_))))));refine aF (M:=M) (A:=RT.li) (B:=(RT.bl).sl) dx rfl rfl Bd (by decide) (TY) rfl rfl (by decide) (by assumption) (by repeat (first|exact ao _ _|refine aT (bj (by assumption)) ?_)) (fun aft abJ=>?_);refine al rfl rfl ?_;refine bY (M:=M) dP rfl rfl rfl rfl rfl (by assumption) (by repeat (first|exact ao _ _|refine aT (bj (by assumption)) ?_)) (fun X2 RZ=>?_);refine al rfl rfl ?_
  first|refine bM dP rfl (by assumption) rfl ?_|refine gO dP rfl (by assumption) rfl ?_
  refine al rfl rfl (b4 rfl rfl rfl (aR rfl rfl rfl (ai rfl rfl (ad (aL ?_)))))
  first
  |exact aO rfl rfl ⟨congrArg Value.bool (decide_eq_decide.2 (by omega)),rfl⟩
  |exact aO rfl rfl ⟨congrArg Value.bool (eM (decide_eq_false (by omega))),rfl⟩
 ·refine aq rfl rfl rfl rfl (aq rfl rfl rfl rfl (aq rfl rfl rfl rfl (aq rfl rfl rfl rfl (aq rfl rfl rfl rfl (aq rfl rfl rfl rfl (aq rfl rfl rfl rfl (az rfl rfl rfl (ai rfl rfl (ad (aL ?_))))))))))
  first
  |exact aO rfl rfl ⟨congrArg Value.bool (decide_eq_decide.2 (by omega)),rfl⟩
  |exact aO rfl rfl ⟨congrArg Value.bool (eM (decide_eq_false (by omega))),rfl⟩
theorem kT {M:aB} {w0:World} {v:Value} {x:Li} (hv:cp RT.li M w0 v x):
  Spec Tryz.prog 183 #[v] w0 (fun v' w'=>v'= .int .i64 x.2.1.length∧w0=w'):=by
 refine aZ (args:=[_]) (fn:=Tryz.f183) Tryz.func183 rfl (n:=8) Tryz.ntmps183 (aj (ah (ai rfl rfl (ad (aj (ah (ae rfl rfl (aU rfl (cp.jn (by assumption)) rfl ?_))))))));refine aF (M:=M) (A:=RT.li) (B:=(RT.bl).sl) dx rfl rfl Bd (by decide) (TY) rfl rfl (by decide) (by assumption) (by repeat (first|exact ao _ _|refine aT (bj (by assumption)) ?_)) (fun JD tN=>?_);refine bY (M:=M) dP rfl rfl rfl rfl rfl (by assumption) (by repeat (first|exact ao _ _|refine aT (bj (by assumption)) ?_)) (fun Rq Gy=>?_)
 first|refine bM dP rfl (by assumption) rfl ?_|refine gO dP rfl (by assumption) rfl ?_
 refine ai rfl rfl (ad (aL ?_));exact aO rfl rfl ⟨rfl,rfl⟩
theorem D6 {M:aB} {w0:World} {v:Value} {x:Li} (hv:cp RT.li M w0 v x) {k:Int}:
  Spec Tryz.prog 184 #[v,.int .i64 k] w0 (fun v' w'=>v'= .int .i64 (yZ x.2.1 k)∧w0=w'):=by
 refine aZ (args:=[_,_]) (fn:=Tryz.f184) Tryz.func184 rfl (n:=17) Tryz.ntmps184 (aj (ah (ai rfl rfl (ad (aj (aj (ah (ae rfl rfl (ae rfl rfl ?_)))))))));refine aQ rfl rfl P7 (C4 hv (k:=k)) (fun r w1 h1=>?_);obtain⟨rfl,rfl⟩:=h1;refine rq rfl rfl (bz (v':= .bool (decide (¬(0≤k∧k<x.2.1.length)))) (by unfold Fb;rw[decide_not]) (ad ?_));refine bH rfl (fun c1=>?_) (fun c1=>?_)
 ·refine aj (ah (ai rfl rfl (ad (aL ?_))));exact aO rfl rfl ⟨by unfold yZ Fb;rw[if_neg (by simpa using c1)],rfl⟩
 ·refine aS (aj (ah (ae rfl rfl (aU rfl (cp.jn (by assumption)) rfl ?_))));refine aF (M:=M) (A:=RT.li) (B:=(RT.bl).sl) dx rfl rfl Bd (by decide) (TY) rfl rfl (by decide) (by assumption) (by repeat (first|exact ao _ _|refine aT (bj (by assumption)) ?_)) (fun Jk tG=>?_);refine bY (M:=M) dP rfl rfl rfl rfl rfl (by assumption) (by repeat (first|exact ao _ _|refine aT (bj (by assumption)) ?_)) (fun R0 Lj=>?_);refine ae rfl rfl ?_;obtain⟨b,hb⟩:∃b,x.2.1[k.toNat]? =some b:=⟨_,aD (by omega)⟩;refine cK (M:=M) dP uN rfl rfl rfl (by assumption) (ao _ _) (by omega) (fun X3 NN Hd R1=>?_);obtain rfl:NN=b:=bp (Hd.symm.trans hb);refine aF (M:=M) (A:=RT.bl) (B:=RT.int .i64) jX rfl rfl I3 (by decide) (bl2) rfl rfl (by decide) (by assumption) (by repeat (first|exact ao _ _|refine aT (bj (by assumption)) ?_)) (fun afu abK=>?_);refine bV (M:=M) ar rfl rfl (by assumption) (by repeat (first|exact ao _ _|refine aT (bj (by assumption)) ?_)) (fun abL=>?_);refine ai rfl rfl (ad (aL ?_));exact aO rfl rfl ⟨by unfold yZ Fb;rw[if_pos (by simpa using c1),bT,hb];rfl,rfl⟩
theorem BU {M:aB} {w0:World} {v:Value} {b:List UInt8} {at_ ahead:Int} (hM:Lt M w0) (hv:(RT.u8.sl).V M w0 b v) (O8: -9223372036854775808≤at_∧at_≤9223372036854775807) (hah: -9223372036854775808≤ahead∧ahead≤9223372036854775807) (AX:b.length≤1099511627776):
  Spec Tryz.prog 215 #[v,.int .i64 at_,.int .i64 ahead] w0 (fun v' w'=>∃p,v'= .tuple #[p,.int .i64 (og b at_ ahead).2.1,.int .i64 (og b at_ ahead).2.2]∧RT.po.V M w' (og b at_ ahead).1 p∧Step M w0 M w' aA):=by
 refine aZ (args:=[_,_,_]) (fn:=Tryz.f215) Tryz.func215 rfl (n:=38) Tryz.ntmps215 (aj (ah ?_));refine fh M gD rfl (fun b0 w1 hb0 afv hB s1=>?_);have rE:=s1.lt hM;have k7:=hv.le s1.le;refine ai rfl rfl (ai rfl rfl (ad (aj (ah (ae rfl rfl (ae rfl rfl ?_))))));refine aQ rfl rfl Qd (Aj k7 O8) (fun r w2 h2=>?_);obtain⟨rfl,rfl⟩:=h2;have sw:=vS b at_;obtain⟨XZ,hn1,hn2,hn3⟩:=l1 b at_;refine ae rfl rfl (bU rfl rfl rfl (bU rfl rfl rfl (bU rfl rfl rfl (ai rfl rfl (ai rfl rfl (ai rfl rfl (ad (aj (aj (ah (ae rfl rfl ?_)))))))))));refine eW rfl rfl rfl (ad ?_);refine bH rfl (fun c2=>?_) (fun c2=>?_)
 ·refine aj (ah (dU (places:=[(0,1),(1,1)]) bL gD IS rfl rfl (out:=[.int .i64 0,.slice none 0 0]) rfl (ae rfl rfl ?_)));refine fo (M:=ins M b0) gD rfl rfl (by intro u hu;simp at hu;rcases hu with rfl|rfl<;>rfl) rfl rfl hB (.inl rfl) (fun w3 hB3 s3=>?_);refine ai rfl rfl (ai rfl rfl (ad (aL ?_)));have jg:=s1.size;have S:Step M w0 M w3 aA:=(s1.cC s3 (fun k hk=>by subst hk;omega)).back;refine E8 rfl rfl bL rfl gD rfl hB3 rfl rfl ⟨_,by unfold og;rw[if_pos c2]<;>rfl,?_,S⟩;unfold og;rw[if_pos c2];exact ef (fW (x:=0) (by omega)) jG rfl rfl rfl rfl
 ·refine aS (aj (ah (ae rfl rfl (ae rfl rfl ?_))));have eO:=qj (b:=b) (at_:=at_) (by omega);refine aQ rfl rfl VI (tS (M:=ins M b0) rE k7 (by omega) AX) (fun r w3 h3=>?_);obtain⟨x3,rfl,R2,s3⟩:=h3;refine ae rfl rfl (bU rfl rfl rfl (bU rfl rfl rfl (bU rfl rfl rfl (ai rfl rfl (ai rfl rfl (ai rfl rfl (ad (aj (ah (ae rfl rfl (Rg.xj rfl rfl rfl ?_)))))))))));refine ae rfl rfl (Rg.xj rfl rfl rfl (ae rfl rfl (dU (places:=[(0,1),(1,1)]) bL gD IS rfl ⟨_,_,rfl,rfl,_,_,rfl,rfl,rfl⟩ (out:=[_,_]) ⟨0,[_],rfl,rfl,by simp[Value.cells],1,[_],rfl,iB R2,by simp[Value.cells],rfl⟩ (ae rfl rfl (ae rfl rfl ?_)))));obtain⟨vx,tu⟩:∃vx,vx=x3:=⟨_,rfl⟩;have qe:=kb R2 rfl rfl;refine fo (M:=ins M b0) gD rfl rfl (by intro u hu;simp at hu;rcases hu with rfl|rfl;rfl;exact qe) rfl rfl (s3.aM hB) (.inl rfl) (fun w4 Ue s4=>?_);refine ai rfl rfl (ai rfl rfl (ad (aL ?_)));have jg:=s1.size;have afx:=s3.size;have S3:=s1.ax s3;have S:Step M w0 M w4 aA:=(S3.cC s4 (fun k hk=>by subst hk;omega)).back;refine E8 rfl rfl bL rfl gD rfl Ue rfl rfl ⟨_,by unfold og;rw[if_neg c2]<;>rfl,?_,S⟩;unfold og;rw[if_neg c2];have hx4:=(R2.le s4.le).le (Le.close hM (S3.cC s4 (fun k hk=>by subst hk;omega)));exact ef (fW E9) hx4 rfl rfl rfl rfl
theorem BV {M:aB} {w0:World} {v:Value} {l:List Po} {k:Int} (hM:Lt M w0) (hv:cp RT.li M w0 v (hU l)) (pQ:dR (-1) l=true) (rr:∀p∈l,p.2.length≤1099511627776) (AX:(dy (-1) l).length≤1099511627776):
  Spec Tryz.prog 180 #[v,.int .i64 k] w0 (fun v' w'=>Step M w0 M w' aA∧((RT.po).sl).V M w' (if Fb ((l.length+7)/8) k then(l.drop (8*k.toNat)).take 8 else[]) v'):=by
 have R3:(hU l).2.1.length=(l.length+7)/8:=by simp[hU,mO]
 refine aZ (args:=[_,_]) (fn:=Tryz.f180) Tryz.func180 rfl (n:=51) Tryz.ntmps180 (aj (ah (ai rfl rfl (ad (aj (aj (ah (ae rfl rfl (ae rfl rfl ?_)))))))));refine aQ rfl rfl P7 (C4 hv (k:=k)) (fun r w1 h1=>?_);obtain⟨rfl,rfl⟩:=h1;refine rq rfl rfl (bz (v':= .bool (decide (¬(0≤k∧k<(hU l).2.1.length)))) (by unfold Fb;rw[decide_not]) (ad ?_));refine bH rfl (fun c1=>?_) (fun c1=>?_)
 ·refine aj (ah (ai rfl rfl (ad (aL ?_))));refine aO rfl rfl ⟨an _ _,?_⟩;rw[if_neg (by unfold Fb;rw[R3]at c1;simpa using c1)];exact jG
 ·refine aS (aj (ah (ae rfl rfl (aU rfl (cp.jn (by assumption)) rfl ?_))));refine aF (M:=M) (A:=RT.li) (B:=(RT.bl).sl) dx rfl rfl Bd (by decide) (TY) rfl rfl (by decide) (by assumption) (by repeat (first|exact ao _ _|refine aT (bj (by assumption)) ?_)) (fun Jk tG=>?_);refine bY (M:=M) dP rfl rfl rfl rfl rfl (by assumption) (by repeat (first|exact ao _ _|refine aT (bj (by assumption)) ?_)) (fun R0 Lj=>?_);refine ae rfl rfl ?_;obtain⟨j,rfl⟩:∃j:Nat,k=j:=⟨k.toNat,by omega⟩;have hb:(hU l).2.1[j]? =some (py l j):=by simp only[hU,mO,cy];rw[List.getElem?_range (by omega)];rfl
  refine cK (M:=M) dP uN rfl rfl rfl (by assumption) (ao _ _) (by omega) (fun X3 NN Hd R1=>?_);obtain rfl:NN=py l j:=bp (Hd.symm.trans (by simpa using hb));have K5:(py l j).2.2.2=(((l.drop (8*j)).take 8).length:Int):=rfl;have abM:((l.drop (8*j)).take 8).length≤8:=by rw[bG];omega
  refine b5 (M:=M) (A:=RT.bl) jX rfl uN (by decide) rfl rfl rfl (by assumption) (by repeat (first|exact ao _ _|refine aT (bj (by assumption)) ?_)) (fun afz abN=>?_);refine mz (A:=RT.bl) (M:=M) uN rfl rfl rfl rfl rfl (by assumption) (by repeat (first|exact ao _ _|refine aT (bj (by assumption)) ?_)) (by first|assumption|exact Step.lt (by assumption) (by assumption)|exact Step.lt (by assumption) (Step.lt (by assumption) (by assumption))) (fun X4 NO abO NP afA=>?_);refine ad (aj (ah (ai rfl rfl (ad (aj (aj ?_))))));apply T.draw (M:=M) mixed [cg.ptr (RT.int .i64) (py l j).1,cg.eq _,cg.ptr (RT.int .i64) (py l j).2.1,cg.eq _,cg.eq _,cg.eq _]
  ·rfl
  ·refine aN ?_ ?_
   ·intro wD E sD;refine aF (M:=M) (A:=RT.bl) (B:=RT.int .i64) jX rfl rfl I3 (by decide) (bl0) rfl rfl (by decide) (by assumption) (by repeat (first|exact ao _ _|refine aT (bj (by assumption)) ?_)) (fun RJ C3=>?_);exact ad ⟨rfl,rfl,_,rfl,by assumption,an _ _⟩
   refine aN ?_ ?_
   ·intro wD E sD;intro v0 H8;refine bV (M:=M) ar rfl rfl (by assumption) (by repeat (first|exact ao _ _|refine aT (bj (by assumption)) ?_)) (fun Lk=>?_);exact ad ⟨rfl,rfl,_,rfl,rfl,an _ _⟩
   refine aN ?_ ?_
   ·intro wD E sD;refine aF (M:=M) (A:=RT.bl) (B:=RT.int .i64) jX rfl rfl I3 (by decide) (bl1) rfl rfl (by decide) (by assumption) (by repeat (first|exact ao _ _|refine aT (bj (by assumption)) ?_)) (fun X5 rf=>?_);exact ad ⟨rfl,rfl,_,rfl,by assumption,an _ _⟩
   refine aN ?_ ?_
   ·intro wD E sD;intro v2 xF;refine bV (M:=M) ar rfl rfl (by assumption) (by repeat (first|exact ao _ _|refine aT (bj (by assumption)) ?_)) (fun abP=>?_);exact ad ⟨rfl,rfl,_,rfl,rfl,an _ _⟩
   refine aN ?_ ?_
   ·intro wD E sD;refine ay ?_;intro v0 H8;refine ay (ai rfl rfl ?_);exact ad ⟨rfl,rfl,_,rfl,rfl,an _ _⟩
   refine aN ?_ ?_
   ·intro wD E sD;refine ay (ay ?_);intro v0 H8;refine ay ?_;intro v2 xF;refine ay (ay (ai rfl rfl ?_));exact ad ⟨rfl,rfl,_,rfl,rfl,an _ _⟩
   exact b9.nil
  ·intro O6 yg;intro afB abQ;refine ay ?_;intro Wx KM;refine ay (ay (ay (aY ?_)));have hz5:=NP.size;refine dr (σ:=Nat×Value) (fun s=>[(0,v),(5,X4),(6,s.2),(7,.int .i64 (dy (-1) (l.take (8*j+s.1))).length),(8,.int .i64 (b8 (-1) (l.take (8*j+s.1))))]) (fun s w=>s.1≤((l.drop (8*j)).take 8).length∧∃M1,Lt M1 w∧Step M w0 M1 w aA∧Step M NO M1 w aA∧Own RT.po 153 M1 w NO.heap.size s.2 (((l.drop (8*j)).take 8).take s.1)) (fun s=>((l.drop (8*j)).take 8).length-s.1) (0,_) (.cons rfl (.cons rfl (.cons rfl (.cons rfl (.cons rfl .nil))))) ?_ ?_
   ·exact⟨bB _,M,yg.lt (NP.lt hM),NP.ax yg,yg,dK _ _ _ _ _⟩
   ·rintro⟨i,u0⟩ w1 ⟨hi,M1,rE,S,S5,ho⟩;dsimp only at hi ho ⊢;refine aj (aj (ah (ae rfl rfl (gO aX rfl ho rfl (bz (v':= .int .i64 i) (by rw[bG,rT hi]) ?_)))));refine aF (M:=M1) (A:=RT.bl) (B:=RT.int .i64) jX rfl rfl I3 (by decide) (bl3) rfl rfl (by decide) (by assumption) (by repeat (first|exact ao _ _|refine aT (bj (by assumption)) ?_)) (fun I8 tU=>?_);refine bV (M:=M1) ar rfl rfl tU (ao _ _) (fun RW=>?_);refine bz (v':= .int .i64 ((l.drop (8*j)).take 8).length) rfl (b4 rfl rfl rfl (ad ?_));refine bH rfl (fun c6=>?_) (fun c6=>?_)
    ·refine aS (aY (aj (ah (ae rfl rfl (aU rfl (cp.jn (by assumption)) rfl ?_)))));refine aF (M:=M1) (A:=RT.li) (B:=RT.u8.sl) dx rfl rfl za (by decide) (li0) rfl rfl (by decide) (by assumption) (by repeat (first|exact ao _ _|refine aT (bj (by assumption)) ?_)) (fun Rt oy=>?_);refine bY (M:=M1) br rfl rfl rfl rfl rfl (by assumption) (by repeat (first|exact ao _ _|refine aT (bj (by assumption)) ?_)) (fun afC R4=>?_);refine ae rfl rfl (ae rfl rfl ?_);obtain⟨⟨d,ps⟩,hx⟩:∃x,l[8*j+i]? =some x:=⟨_,aD (by rw[bG,cW]at c6;omega)⟩;obtain⟨f1,f2,f3,f4,f5,f6⟩:=np pQ hx;have QS:og (hU l).1 _ _=_:=Fc pQ hx (rr _ (aI hx));have Dm:(dy (-1) (l.take (8*j+i))).length≤(dy (-1) l).length:=by rw[nq (l:=l) (i:=8*j+i) (-1)];simp
     refine aQ rfl rfl VA (BU (M:=M1) rE R4 (by omega) (by omega) AX) (fun r7 w7 h7=>?_);obtain⟨p7,h7e,Pb,s7⟩:=h7;rw[QS]at h7e Pb;subst h7e;change RT.po.V M1 w7 (d,ps) p7 at Pb;replace S:=S.ax s7;replace S5:=S5.ax s7;replace ho:=ho.bh s7;replace rE:=s7.lt rE;have hci:((l.drop (8*j)).take 8)[i]? =some (d,ps):=by rw[dG,if_pos (by omega),List.getElem?_drop];exact hx
     refine ae rfl rfl (bU rfl rfl rfl (bU rfl rfl rfl (bU rfl rfl rfl ?_)));refine mz (A:=RT.po) (M:=M1) gD rfl rfl rfl rfl rfl (by assumption) (by repeat (first|exact ao _ _|refine aT (bj (by assumption)) ?_)) (by first|assumption|exact Step.lt (by assumption) (by assumption)|exact Step.lt (by assumption) (Step.lt (by assumption) (by assumption))) (fun abT abU He C5 abV=>?_);refine ai rfl rfl (ai rfl rfl (ad (aj (ah (ae rfl rfl ?_)))));replace S:=S.ax C5;replace S5:=S5.ax C5;replace ho:=ho.bh C5;replace rE:=C5.lt rE;clear Pb;refine b5 (M:=M1) (A:=RT.po) bL rfl gD (by decide) rfl rfl rfl He (ao _ _) (fun v8 C2=>?_);refine eh (A:=RT.po) (hn:=by decide) (M:=M1) aX gD (by decide) rfl rfl rE C2 (.inl rfl) (fun u2 w2 rv s2=>?_);refine cR (M:=M1) (base:=NO.heap.size) aX gD rfl rfl rfl rfl (ho.bh s2) rv (ao _ _) (by simp;omega) (by simp;omega) (eK S5.size s2.size) (fun v3 M3 w3 Ik s3=>?_);replace S:=(S.ax s2).dd s3 (ho.bh s2) hz5;have Jg:=(He.le (by decide) s2.le).le (by decide) s3.le;have hM3:=s3.lt (s2.lt rE);replace S5:=(S5.ax s2).dd s3 (ho.bh s2) (a7 _);refine ai rfl rfl (ad ?_);apply T.draw (M:=M3) mixed [cg.eq _,cg.ptr (RT.int .i64) d,cg.eq _,cg.eq _,cg.eq _]
     ·rfl
     ·refine aN ?_ ?_
      ·intro wD E sD;refine ae rfl rfl ?_;exact ad ⟨rfl,rfl,_,rfl,rfl,an _ _⟩
      refine aN ?_ ?_
      ·intro wD E sD;refine aF (M:=M3) (A:=RT.po) (B:=RT.int .i64) bL rfl rfl I3 (by decide) (Ic) rfl rfl (by decide) Jg sD.le (fun Xm GS=>?_);exact ad ⟨rfl,rfl,_,rfl,GS,an _ _⟩
      refine aN ?_ ?_
      ·intro wD E sD;intro v1 k7;refine bV (M:=M3) ar rfl rfl (by assumption) (by repeat (first|exact ao _ _|refine aT (bj (by assumption)) ?_)) (fun abW=>?_);exact ad ⟨rfl,rfl,_,rfl,rfl,an _ _⟩
      refine aN ?_ ?_
      ·intro wD E sD;refine ay (ay (ai rfl rfl ?_));exact ad ⟨rfl,rfl,_,rfl,rfl,an _ _⟩
      refine aN ?_ ?_
      ·intro wD E sD;refine ay (ay (ay ?_));intro v1 k7;refine ay (ay (ai rfl rfl ?_));exact ad ⟨rfl,rfl,_,rfl,rfl,an _ _⟩
      exact b9.nil
     ·intro NQ wL;refine ay ?_;intro afF abX;refine ay (ay (ay ?_));refine⟨rfl,(i+1,v3),(.cons rfl (.cons rfl (.cons rfl (.cons rfl (.cons (by rw[←f5];rfl) .nil))))),?_,?_⟩
      ·refine⟨by simp only;omega,M3,wL.lt hM3,S.ax wL,S5.ax wL,?_⟩;simp only;obtain⟨T2,Ig⟩:=av.1 hci;rw[fm T2,Ig];exact Ik.bh wL
      ·simp only;omega
    ·refine cG (aj (ah (ae rfl rfl (ai rfl rfl (ad (aL ?_))))));refine aO rfl rfl ⟨S.back,?_⟩;rw[if_pos (by unfold Fb;rw[R3]at c1;simpa using c1),aw];rw[aW (by omega)]at ho;exact Own.close hM S (ho.sy hz5) (by omega)
end Go.K
namespace Go.K
open Go.Proofs
set_option maxRecDepth 10000
theorem Al {M:aB} {w0:World} {v:Value} {l:List Int} (hv:((RT.int .i64).sl).V M w0 l v):
  Spec Tryz.prog 212 #[v] w0 (fun v' w'=>v'= .bool (l2 l)∧w0=w'):=by
 have hlen:=ei hv;refine aZ (args:=[_]) (fn:=Tryz.f212) Tryz.func212 rfl (n:=32) Tryz.ntmps212 (aj (ah (ai rfl rfl (ad (aj (aj (ah (ae rfl rfl ?_))))))))
 first|refine bM au rfl (by assumption) rfl ?_|refine gO au rfl (by assumption) rfl ?_
 refine ae rfl rfl (ad (aY ?_));refine dr (σ:=Nat×Int) (fun s=>[(0,v),(5,v),(6,.int .i64 l.length),(7,.int .i64 s.1)]) (fun s w=>w0=w∧s.1≤l.length∧l2 l=(ey s.2 (l.drop s.1)&&(l.drop s.1).all (fun n=>decide (n<2147483648)))∧ -1≤s.2∧(s.1=0→s.2= -1)∧(0<s.1→l[s.1-1]? =some s.2)) (fun s=>l.length-s.1) (0,-1) (.cons rfl (.cons rfl (.cons rfl (.cons rfl .nil)))) ?_ ?_
 ·exact⟨rfl,bB _,rfl,by decide,fun _=>rfl,fun h=>absurd h (iy 0)⟩
 ·rintro⟨k,last⟩ w1 ⟨rfl,hk,hr,O7,h0,h1⟩;dsimp only at hk hr O7 h0 h1 ⊢;refine aj (ah (b4 rfl rfl rfl (ad (aj ?_))));refine bH rfl (fun c2=>?_) (fun c2=>?_)
  ·refine aS (aj (aY (aj (ah (ae rfl rfl ?_)))));obtain⟨x,hx⟩:∃x,l[k]? =some x:=⟨_,aD (by omega)⟩;refine cK (M:=M) au I3 rfl rfl rfl hv (ao _ _) (by omega) (fun afG X6 R5 abY=>?_);obtain rfl:x=X6:=eM (bp (R5.symm.trans (by simpa using hx)));refine bV (M:=M) ar rfl rfl (by assumption) (by repeat (first|exact ao _ _|refine aT (bj (by assumption)) ?_)) (fun abZ=>?_);refine ai rfl rfl (ai rfl rfl (ad (aj (ah (ae rfl rfl (b4 rfl rfl rfl (ae rfl rfl ?_)))))));refine aJ (g:=14) rfl (fun G4=>?_) (fun G4=>?_)
   ·refine aq rfl rfl rfl rfl (aq rfl rfl rfl rfl (aR rfl rfl rfl (ae rfl rfl (aq rfl rfl rfl rfl (aq rfl rfl rfl rfl (aq rfl rfl rfl rfl (cj rfl rfl rfl (cj rfl rfl rfl (cj rfl rfl rfl (cj rfl rfl rfl (cj rfl rfl rfl ?_)))))))))));refine cj rfl rfl rfl (cj rfl rfl rfl (aq rfl rfl rfl rfl (aR rfl rfl rfl (ad (lT rfl (aj (ah (ai rfl rfl (ad (aL ?_))))))))));refine aO rfl rfl ⟨congrArg Value.bool (eM ?_),rfl⟩;rw[hr,fc hx,nr _ hx];by_cases h7:last<x
    ·have h2: ¬x<2147483648:=by omega
     simp[h2]
    ·simp[h7]
   ·refine al rfl rfl (ae rfl rfl (al rfl rfl (dz rfl rfl rfl (az rfl rfl rfl (ae rfl rfl ?_)))));refine aJ (g:=18) rfl (fun X7=>?_) (fun X7=>?_)
    ·refine aq rfl rfl rfl rfl (aq rfl rfl rfl rfl (aq rfl rfl rfl rfl (cj rfl rfl rfl (cj rfl rfl rfl (cj rfl rfl rfl (cj rfl rfl rfl (cj rfl rfl rfl (cj rfl rfl rfl (cj rfl rfl rfl (aq rfl rfl rfl rfl (aR rfl rfl rfl ?_)))))))))));refine ad (lT rfl (aj (ah (ai rfl rfl (ad (aL ?_))))));refine aO rfl rfl ⟨congrArg Value.bool (eM ?_),rfl⟩;rw[hr,fc hx,nr _ hx];by_cases h7:last<x
     ·have h2: ¬x<2147483648:=by omega
      simp[h2]
     ·simp[h7]
    ·refine al rfl rfl (ae rfl rfl (al rfl rfl (mL rfl rfl rfl (al rfl rfl (ae rfl rfl ?_)))));refine aJ (g:=21) rfl (fun X8=>?_) (fun X8=>?_)
     ·refine al rfl rfl (ae rfl rfl (al rfl rfl (ae rfl rfl (al rfl rfl (ae rfl rfl (al rfl rfl (gN rfl rfl rfl (by omega) (al rfl rfl ?_))))))));refine cK (M:=M) au I3 rfl rfl rfl hv (ao _ _) (by omega) (fun ab0 R6 NR X9=>?_);obtain rfl:last=R6:=eM (bp (NR.symm.trans (by rw[show((k:Int)-1).toNat=k-1 from by omega];exact h1 (by omega))));refine al rfl rfl ?_;refine bV (M:=M) ar rfl rfl (by assumption) (by repeat (first|exact ao _ _|refine aT (bj (by assumption)) ?_)) (fun Ya=>?_);refine al rfl rfl (eV rfl rfl rfl (al rfl rfl (aR rfl rfl rfl (az rfl rfl rfl (ad ?_)))));refine bH rfl (fun c4=>?_) (fun c4=>?_)
      ·refine aj (ah (ai rfl rfl (ad (aL ?_))));refine aO rfl rfl ⟨congrArg Value.bool (eM ?_),rfl⟩;rw[hr,fc hx,nr _ hx];by_cases h7:last<x
       ·have h2: ¬x<2147483648:=by omega
        simp[h2]
       ·simp[h7]
      ·refine aS (ah (bu rfl rfl rfl (by omega) (ae rfl rfl (ad ?_))));refine⟨rfl,(k+1,x),(.cons rfl (.cons rfl (.cons rfl (.cons rfl .nil)))),?_,?_⟩
       ·refine⟨rfl,by simp only;omega,?_,by simp only;omega,fun h=>by simp at h,fun _=>by simpa using hx⟩;rw[hr,fc hx,nr _ hx,decide_eq_true (show last<x by omega),decide_eq_true (show x<2147483648 by omega),cZ,cZ]
       ·simp only;omega
     ·refine aq rfl rfl rfl rfl (aq rfl rfl rfl rfl (aq rfl rfl rfl rfl (aq rfl rfl rfl rfl (aq rfl rfl rfl rfl (aq rfl rfl rfl rfl (aq rfl rfl rfl rfl (al rfl rfl (az rfl rfl rfl (az rfl rfl rfl (ad (gG rfl ?_)))))))))));refine aS (ah (bu rfl rfl rfl (by omega) (ae rfl rfl (ad ?_))));refine⟨rfl,(k+1,x),(.cons rfl (.cons rfl (.cons rfl (.cons rfl .nil)))),?_,?_⟩
      ·refine⟨rfl,by simp only;omega,?_,by simp only;omega,fun h=>by simp at h,fun _=>by simpa using hx⟩;rw[hr,fc hx,nr _ hx,decide_eq_true (show last<x by omega),decide_eq_true (show x<2147483648 by omega),cZ,cZ]
      ·simp only;omega
  ·refine cG (aj (ah (ai rfl rfl (ad (aL ?_)))));refine aO rfl rfl ⟨congrArg Value.bool (eM ?_),rfl⟩;rw[hr,eu (by omega)];rfl
theorem D7 {M:aB} {w0:World} {v:Value} {l:List Po} (hM:Lt M w0) (hv:((RT.po).sl).V M w0 l v):
  Spec Tryz.prog 171 #[v] w0 (fun v' w'=>v'= .bool (dR (-1) l)∧Step M w0 M w' aA):=by
 have hlen:=ei hv;refine aZ (args:=[_]) (fn:=Tryz.f171) Tryz.func171 rfl (n:=36) Tryz.ntmps171 (aj (ah (ai rfl rfl (ad (aj (ah (ai rfl rfl (ad (aj (aj (ah ?_)))))))))));refine ae rfl rfl ?_
 first|refine bM aX rfl (by assumption) rfl ?_|refine gO aX rfl (by assumption) rfl ?_
 refine ae rfl rfl (ad (aY ?_));refine dr (σ:=Nat×Int) (fun s=>[(6,v),(7,.int .i64 l.length),(8,.int .i64 s.1),(3,.int .i64 s.2)]) (fun s w=>Step M w0 M w aA∧s.1≤l.length∧dR (-1) l=dR s.2 (l.drop s.1)) (fun s=>l.length-s.1) (0,-1) (.cons rfl (.cons rfl (.cons rfl (.cons rfl .nil)))) ?_ ?_
 ·exact⟨an _ _,bB _,rfl⟩
 ·rintro⟨k,last⟩ w1 ⟨S,hk,hr⟩;dsimp only at hk hr ⊢;have hMw:=S.lt hM;refine aj (ah (b4 rfl rfl rfl (ad (aj ?_))));refine bH rfl (fun c3=>?_) (fun c3=>?_)
  ·refine aS (aj (aY (aj (ah ?_))));obtain⟨⟨d,ps⟩,hx⟩:∃x,l[k]? =some x:=⟨_,aD (by omega)⟩;refine cK (M:=M) aX gD rfl rfl rfl (hv.le S.le) (ao _ _) (by omega) (fun MG Yb R7 CO=>?_);obtain rfl:Yb=(d,ps):=bp (R7.symm.trans (by simpa using hx));refine b5 (M:=M) (A:=RT.po) bL rfl gD (by decide) rfl rfl rfl (by assumption) (by repeat (first|exact ao _ _|refine aT (bj (by assumption)) ?_)) (fun MH FO=>?_);refine mz (A:=RT.po) (M:=M) gD rfl rfl rfl rfl rfl (by assumption) (by repeat (first|exact ao _ _|refine aT (bj (by assumption)) ?_)) (by first|assumption|exact Step.lt (by assumption) (by assumption)|exact Step.lt (by assumption) (Step.lt (by assumption) (by assumption))) (fun Ql Qm lF pB XM=>?_);refine ad (aj (aj (ah ?_)));refine aF (M:=M) (A:=RT.po) (B:=RT.int .i64) bL rfl rfl I3 (by decide) (Ic) rfl rfl (by decide) (by assumption) (by repeat (first|exact ao _ _|refine aT (bj (by assumption)) ?_)) (fun RJ C3=>?_);refine bV (M:=M) ar rfl rfl C3 (ao _ _) (fun Lk=>?_);refine bz (v':= .int .i64 d) rfl ?_;simp only at Lk;refine ae rfl rfl (eV rfl rfl rfl (ae rfl rfl ?_));refine aJ (g:=16) rfl (fun Yc=>?_) (fun Yc=>?_)
   ·refine aq rfl rfl rfl rfl (aq rfl rfl rfl rfl (aq rfl rfl rfl rfl (aR rfl rfl rfl (ae rfl rfl (aq rfl rfl rfl rfl (aq rfl rfl rfl rfl (aq rfl rfl rfl rfl (aq rfl rfl rfl rfl (aR rfl rfl rfl (ae rfl rfl (aq rfl rfl rfl rfl ?_)))))))))));refine aq rfl rfl rfl rfl (aq rfl rfl rfl rfl (aq rfl rfl rfl rfl (aR rfl rfl rfl (ad (lT rfl (aj (ah (ai rfl rfl (ad (aL ?_))))))))));refine aO rfl rfl ⟨congrArg Value.bool (eM ?_),S.ax pB⟩;rw[hr,kd hx]
    first
    |(rw[decide_eq_false (show¬last<d by omega)];simp;done)
    |(rw[decide_eq_false (show¬d<2147483648 by omega)];simp;done)
    |(rw[show ps=[]from gm.1 (by omega)];simp;done)
    |(simp[c5];done)
   ·refine al rfl rfl ?_;refine aF (M:=M) (A:=RT.po) (B:=RT.int .i64) bL rfl rfl I3 (by decide) (Ic) rfl rfl (by decide) (by assumption) (by repeat (first|exact ao _ _|refine aT (bj (by assumption)) ?_)) (fun afH R8=>?_);refine al rfl rfl ?_;refine bV (M:=M) ar rfl rfl R8 (ao _ _) (fun ab1=>?_);refine bz (v':= .int .i64 d) rfl (al rfl rfl (dz rfl rfl rfl (az rfl rfl rfl (ae rfl rfl ?_))));refine aJ (g:=21) rfl (fun Yd=>?_) (fun Yd=>?_)
    ·refine aq rfl rfl rfl rfl (aq rfl rfl rfl rfl (aq rfl rfl rfl rfl (aq rfl rfl rfl rfl (aR rfl rfl rfl (ae rfl rfl (aq rfl rfl rfl rfl (aq rfl rfl rfl rfl (aq rfl rfl rfl rfl (aq rfl rfl rfl rfl (aR rfl rfl rfl (ad ?_)))))))))));refine lT rfl (aj (ah (ai rfl rfl (ad (aL ?_)))));refine aO rfl rfl ⟨congrArg Value.bool (eM ?_),S.ax pB⟩;rw[hr,kd hx]
     first
     |(rw[decide_eq_false (show¬last<d by omega)];simp;done)
     |(rw[decide_eq_false (show¬d<2147483648 by omega)];simp;done)
     |(rw[show ps=[]from gm.1 (by omega)];simp;done)
     |(simp[c5];done)
    ·refine al rfl rfl ?_;refine aF (M:=M) (A:=RT.po) (B:=(RT.int .i64).sl) bL rfl rfl nY (by decide) (PR) rfl rfl (by decide) (by assumption) (by repeat (first|exact ao _ _|refine aT (bj (by assumption)) ?_)) (fun ab2 Ye=>?_);refine al rfl rfl ?_;refine bY (M:=M) au rfl rfl rfl rfl rfl (by assumption) (by repeat (first|exact ao _ _|refine aT (bj (by assumption)) ?_)) (fun ab3 NS=>?_);refine al rfl rfl (bM au rfl NS rfl (bz (v':= .int .i64 ps.length) rfl (al rfl rfl (Rg.AZ rfl rfl rfl (az rfl rfl rfl (ae rfl rfl ?_))))));refine aJ (g:=27) rfl (fun Ll=>?_) (fun Ll=>?_)
     ·refine aq rfl rfl rfl rfl (aq rfl rfl rfl rfl (aq rfl rfl rfl rfl (aq rfl rfl rfl rfl (aR rfl rfl rfl (ad (lT rfl (aj (ah (ai rfl rfl (ad (aL ?_)))))))))));refine aO rfl rfl ⟨congrArg Value.bool (eM ?_),S.ax pB⟩;rw[hr,kd hx]
      first
      |(rw[decide_eq_false (show¬last<d by omega)];simp;done)
      |(rw[decide_eq_false (show¬d<2147483648 by omega)];simp;done)
      |(rw[show ps=[]from gm.1 (by omega)];simp;done)
      |(simp[c5];done)
     ·refine al rfl rfl ?_;refine aF (M:=M) (A:=RT.po) (B:=(RT.int .i64).sl) bL rfl rfl nY (by decide) (PR) rfl rfl (by decide) (by assumption) (by repeat (first|exact ao _ _|refine aT (bj (by assumption)) ?_)) (fun ab4 Yf=>?_);refine al rfl rfl ?_;refine bY (M:=M) au rfl rfl rfl rfl rfl (by assumption) (by repeat (first|exact ao _ _|refine aT (bj (by assumption)) ?_)) (fun ab5 NT=>?_);refine al rfl rfl ?_;refine aQ rfl rfl Vy (Al NT) (fun r5 w5 h5=>?_);obtain⟨rfl,rfl⟩:=h5;refine al rfl rfl (rq rfl rfl (bz (v':= .bool (decide (¬l2 ps=true))) (by simp) (az rfl rfl rfl (ad ?_))));refine bH rfl (fun c5=>?_) (fun c5=>?_)
      ·refine aj (ah (ai rfl rfl (ad (aL ?_))));refine aO rfl rfl ⟨congrArg Value.bool (eM ?_),S.ax pB⟩;rw[hr,kd hx]
       first
       |(rw[decide_eq_false (show¬last<d by omega)];simp;done)
       |(rw[decide_eq_false (show¬d<2147483648 by omega)];simp;done)
       |(rw[show ps=[]from gm.1 (by omega)];simp;done)
       |(simp[c5];done)
      ·refine aS (ah ?_);refine aF (M:=M) (A:=RT.po) (B:=RT.int .i64) bL rfl rfl I3 (by decide) (Ic) rfl rfl (by decide) (by assumption) (by repeat (first|exact ao _ _|refine aT (bj (by assumption)) ?_)) (fun QT CP=>?_);refine bV (M:=M) ar rfl rfl CP (ao _ _) (fun ab6=>?_);refine bz (v':= .int .i64 d) rfl (ai rfl rfl (ad (ah (bu rfl rfl rfl (by omega) (ae rfl rfl (ad ?_))))));refine⟨rfl,(k+1,d),(.cons rfl (.cons rfl (.cons rfl (.cons rfl .nil)))),?_,?_⟩
       ·refine⟨S.ax pB,by simp only;omega,?_⟩
        have eI:ps.isEmpty=false:=by cases ps with
         |nil=>simp at Ll
         |cons a t=>rfl
        rw[hr,kd hx,decide_eq_true (show last<d by omega),decide_eq_true (show d<2147483648 by omega),eI,dY.1 c5];rfl
       ·simp only;omega
  ·refine cG (aj (ah (ai rfl rfl (ad (aL ?_)))));refine aO rfl rfl ⟨congrArg Value.bool (eM ?_),S⟩;rw[hr,eu (by omega)];rfl
theorem BW {M:aB} {w0:World} {v:Value} {l:List Po} (hM:Lt M w0) (hv:((RT.po).sl).V M w0 l v):
  Spec Tryz.prog 172 #[v,.int .i64 8] w0 (fun v' w'=>∃bs bn,v'= .func (.func 213) [].toArray [.pointer (some ⟨bs,0,none⟩),.pointer (some ⟨bn,0,none⟩)].toArray∧w'.heap[bs]? =some (.cells #[v] 107 (0,0))∧w'.heap[bn]? =some (.cells #[.int .i64 8] 3 (0,0))∧w0.heap.size≤bs∧w0.heap.size≤bn∧Step M w0 M w' aA):=by
 refine aZ (args:=[_,_]) (fn:=Tryz.f172) Tryz.func172 rfl (n:=9) Tryz.ntmps172 (aj (ah ?_));refine o8 M rfl rfl (fun bs w1 h1 KB hS s1=>?_);rw[iB hv]at hS;refine o8 (ins M bs) rfl rfl (fun bn w2 h2 xm hN s2=>?_);have hS2:=s2.aM hS;have hz1:=s1.size;refine ai rfl rfl (ad (aj (aj (ah (aH ar rfl rfl rfl hN rfl (b4 rfl rfl rfl (ad (T.AY rfl ((by decide)) (aS (aj (ah ?_)))))))))));refine iw (xs:=[]) (ys:=[.tmp 2,.tmp 3]) rfl rfl rfl (ai rfl rfl (ad (aL ?_)));exact aO rfl rfl ⟨bs,bn,rfl,hS2,hN,h1,by omega,(s1.ax s2).back⟩
theorem Am {w0:World} {bs bn yl:Nat} {v:Value} {l:List Po} {M:aB} {wv:World} {J:Nat→World→Prop} {Jx:World→Prop} (hv:((RT.po).sl).V M wv l v) (iK:∀i w w',J i w→Step aA w aA w' aA→J i w') (EG:∀i w,J i w→w.heap[bs]? =some (.cells #[v] 107 (0,0))∧w.heap[bn]? =some (.cells #[.int .i64 8] 3 (0,0))) (hy:∀(i:Nat) (w:World) (u:Value),J i w→i<l.length→((RT.po).sl).V M wv ((l.drop i).take 8) u→qO Tryz.prog yl [u].toArray w (fun r w'=>∃b,r= .bool b∧(b=true→J (min (i+8) l.length) w')∧(b=false→Jx w'))) (h0:J 0 w0):
  Spec Tryz.prog 213 #[.func (.yield yl) #[] #[],.pointer (some ⟨bs,0,none⟩),.pointer (some ⟨bn,0,none⟩)] w0 (fun _ w'=>J l.length w'∨Jx w'):=by
 have hlen:=ei hv;refine aZ (args:=[_,_,_]) (fn:=Tryz.f213) Tryz.func213 rfl (n:=31) Tryz.ntmps213 (aj (ah (ai rfl rfl (ad (aY ?_)))));refine dr (σ:=Nat) (fun s=>[(0,.func (.yield yl) #[] #[]),(1,.pointer (some ⟨bs,0,none⟩)),(2,.pointer (some ⟨bn,0,none⟩)),(4,.int .i64 s)]) (fun s w=>J (min s l.length) w∧s≤l.length+8) (fun s=>l.length+8-s) 0 (.cons rfl (.cons rfl (.cons rfl (.cons rfl .nil)))) ?_ ?_
 ·exact⟨by rw[Nat.zero_min];exact h0,bB _⟩
 ·rintro k w1 ⟨hJ,hk⟩;obtain⟨rC,yy⟩:=EG _ _ hJ;refine aj (aj (ah (ae rfl rfl (aH aX rfl rfl rfl rC rfl ?_))))
  first|refine bM aX rfl (by assumption) rfl ?_|refine gO aX rfl (by assumption) rfl ?_
  refine b4 rfl rfl rfl (ad ?_);refine bH rfl (fun c1=>?_) (fun c1=>?_)
  ·refine aS (aj (aY (aj ?_)));apply T.draw (M:=aA) mixed [cg.eq _,cg.eq _,cg.eq _,cg.pure (fun v=>((RT.po).sl).V M wv (l.drop k) v),cg.eq _,cg.eq _,cg.eq _]
   ·rfl
   ·refine aN ?_ ?_
    ·intro wD E sD;refine aH ar rfl rfl rfl (cc sD yy) rfl ?_;exact ad ⟨rfl,rfl,_,rfl,rfl,an _ _⟩
    refine aN ?_ ?_
    ·intro wD E sD;refine aH aX rfl rfl rfl (cc sD rC) rfl ?_;exact ad ⟨rfl,rfl,_,rfl,rfl,an _ _⟩
    refine aN ?_ ?_
    ·intro wD E sD;refine ae rfl rfl ?_;exact ad ⟨rfl,rfl,_,rfl,rfl,an _ _⟩
    refine aN ?_ ?_
    ·intro wD E sD;refine ay (ay ?_);refine Rg.xk (A:=RT.po) (hn:=by decide) aX gD rfl rfl rfl hv (by omega) (fun u hu=>?_);rw[aw]at hu;exact ad ⟨rfl,rfl,_,rfl,hu,an _ _⟩
    refine aN ?_ ?_
    ·intro wD E sD;intro v3 uU;have Yg:((RT.po).sl).V M wv (l.drop k) v3:=uU;refine bM aX rfl Yg rfl ?_;exact ad ⟨rfl,rfl,_,rfl,rfl,an _ _⟩
    refine aN ?_ ?_
    ·intro wD E sD;refine ay (ay (Rg.min2 rfl rfl rfl ?_));exact ad ⟨rfl,rfl,_,rfl,rfl,an _ _⟩
    refine aN ?_ ?_
    ·intro wD E sD;refine ay (ay (ay (ay ?_)));intro v3 uU;refine ay (ay (ai rfl rfl ?_));exact ad ⟨rfl,rfl,_,rfl,rfl,an _ _⟩
    exact b9.nil
   ·intro Qu mP;refine ay (ay (ay ?_));intro R0 Lj;refine ay (ay (ay ?_));rw[show min k l.length=k from by omega]at hJ;have Ii:=iK _ _ _ hJ mP;obtain⟨hb3,JO⟩:=EG _ _ Ii;refine aj (ah (ae rfl rfl (aH aX rfl rfl rfl hb3 rfl (ae rfl rfl (ae rfl rfl (ae rfl rfl (bu rfl rfl rfl (by omega) (ae rfl rfl (ae rfl rfl (bu rfl rfl rfl (by omega) ?_))))))))));refine Rg.Dx (A:=RT.po) (hn:=by decide) aX gD rfl rfl rfl rfl rfl hv (by rw[cW];omega) (fun u hu=>?_)
    have he:(l.take ((k:Int)+min 8 ((l.drop k).length:Int)).toNat).drop (k:Int).toNat=(l.drop k).take 8:=by
     rw[aw,List.drop_take,cW,show((k:Int)+min 8 ((l.length-k:Nat):Int)).toNat-k=min 8 (l.length-k)from by omega,pX,cW];omega
    rw[he]at hu;refine Rg.yield rfl (vs:=[u]) rfl rfl (hy k _ u Ii (by omega) hu) (fun r4 w4 h4=>?_);obtain⟨b,rfl,OT,n4⟩:=h4;refine rq rfl rfl (bz (v':= .bool (decide (¬b=true))) (by simp) (ad ?_));refine bH rfl (fun c4=>?_) (fun c4=>?_)
    ·refine aL ?_;exact Cs rfl (.inr (n4 (by simpa using c4)))
    ·refine aS (ah (ae rfl rfl ?_));have hJ5:=OT (dY.1 c4);refine aH ar rfl rfl rfl (EG _ _ hJ5).2 rfl (bu rfl rfl rfl (by omega) (ai rfl rfl (ad ?_)));refine⟨rfl,k+8,(.cons rfl (.cons rfl (.cons rfl (.cons rfl .nil)))),?_,?_⟩
     ·exact⟨hJ5,by omega⟩
     ·show l.length+8-(k+8)<l.length+8-k;omega
  ·refine cG ?_;rw[show min k l.length=l.length from by omega]at hJ;change sh Tryz.prog Tryz.f213 (fun _ w'=>J l.length w'∨Jx w') .normal _ [] _;exact gZ rfl (.inl hJ)
end Go.K
namespace Go.K
open Go.Proofs
set_option maxRecDepth 10000
structure k9 (M:aB) (w0:World) (v:Value) (bo bx bl D bs bn:Nat) (st:Obj) (vb vk:Value) (tot last:Int) (b:List UInt8) (ks:List Bl) (M1:aB) (w:World):Prop where
 lt:Lt M1 w
 S:Step M w0 M1 w aA
 mo:M1 bo
 mx:M1 bx
 ml:M1 bl
 md:M1 D
 mr:M1 (D+1)
 o:w.heap[bo]? =some (.cells #[.pointer (some ⟨bx,0,none⟩)] 129 (0,0))
 x:w.heap[bx]? =some (.cells #[vb,vk,.int .i64 tot] 193 (0,0))
 l:w.heap[bl]? =some (.cells #[.int .i64 last] 3 (0,0))
 d:w.heap[D]? =some (.deferred (some []))
 r:w.heap[D+1]? =some st
 s:w.heap[bs]? =some (.cells #[v] 107 (0,0))
 n:w.heap[bn]? =some (.cells #[.int .i64 8] 3 (0,0))
 ne:bo≠bx∧bo≠bl∧bx≠bl∧bo<D∧bx<D∧bl<D∧bs<D∧bn<D∧bs≠bo∧bs≠bx∧bs≠bl∧bn≠bo∧bn≠bx∧bn≠bl∧w0.heap.size≤bo∧w0.heap.size≤bx∧w0.heap.size≤bl∧w0.heap.size≤D
 hb:(RT.u8.sl).V M1 w b vb
 hk:Own RT.bl 195 M1 w (D+2) vk ks
section
variable {M M1 M2:aB} {w0 w w':World} {v vb vk:Value} {bo bx bl D bs bn:Nat} {st:Obj} {tot last:Int} {b:List UInt8} {ks:List Bl}
theorem k9.step (h:k9 M w0 v bo bx bl D bs bn st vb vk tot last b ks M1 w) (s:Step M1 w M2 w' aA):k9 M w0 v bo bx bl D bs bn st vb vk tot last b ks M2 w':=
 ⟨s.lt h.lt,h.S.ax s,(s.mem _ (h.lt _ h.mo)).2 h.mo,(s.mem _ (h.lt _ h.mx)).2 h.mx,(s.mem _ (h.lt _ h.ml)).2 h.ml,(s.mem _ (h.lt _ h.md)).2 h.md,(s.mem _ (h.lt _ h.mr)).2 h.mr,
  s.aM h.o,s.aM h.x,s.aM h.l,s.aM h.d,s.aM h.r,s.aM h.s,s.aM h.n,h.ne,h.hb.le s.le,h.hk.bh s⟩
theorem k9.JP {n:Int} (h:k9 M w0 v bo bx bl D bs bn st vb vk tot last b ks M1 w) (s:Step M1 w M1 w' (fun k=>k=bl)) (hl:w'.heap[bl]? =some (.cells #[.int .i64 n] 3 (0,0))):k9 M w0 v bo bx bl D bs bn st vb vk tot n b ks M1 w':=by
 obtain⟨e1,e2,e3,e4,e5,e6,e7,e8,e9,Pc,R9,Pd,Pe,Sa,Uf,Pf,Sb,Ug⟩:=h.ne
 exact⟨s.lt h.lt,h.S.cC s (fun k hk=>by subst hk;exact Sb),h.mo,h.mx,h.ml,h.md,h.mr,s.bJ h.o e2,s.bJ h.x e3,hl,s.bJ h.d (by omega),s.bJ h.r (by omega),s.bJ h.s R9,s.bJ h.n Sa,h.ne,h.hb.le s.le,
  h.hk.step s (fun k hk hh=>by have:=(h.hk.base k hk).1;omega)⟩
theorem k9.NU {Yh NV:Value} {Sc:Int} {b':List UInt8} {Sd:List Bl} (h:k9 M w0 v bo bx bl D bs bn st vb vk tot last b ks M1 w) (s:Step M1 w M1 w' (fun k=>k=bx)) (hx:w'.heap[bx]? =some (.cells #[Yh,NV,.int .i64 Sc] 193 (0,0)))
  (hb:(RT.u8.sl).V M1 w' b' Yh) (hk:Own RT.bl 195 M1 w (D+2) NV Sd):k9 M w0 v bo bx bl D bs bn st Yh NV Sc last b' Sd M1 w':=by
 obtain⟨e1,e2,e3,e4,e5,e6,e7,e8,e9,Pc,R9,Pd,Pe,Sa,Uf,Pf,Sb,Ug⟩:=h.ne
 exact⟨s.lt h.lt,h.S.cC s (fun k hk=>by subst hk;exact Pf),h.mo,h.mx,h.ml,h.md,h.mr,s.bJ h.o e1,hx,s.bJ h.l (Ne.symm e3),s.bJ h.d (by omega),s.bJ h.r (by omega),s.bJ h.s Pc,s.bJ h.n Pe,h.ne,hb,
  hk.step s (fun k sF hh=>by have:=(hk.base k sF).1;omega)⟩
theorem k9.mT {st':Obj} (h:k9 M w0 v bo bx bl D bs bn st vb vk tot last b ks M1 w) (iK:w.heap[D+1]? =some st):k9 M w0 v bo bx bl D bs bn st' vb vk tot last b ks M1 (w.putObj (D+1) st'):=by
 have s:Step M1 w M1 (w.putObj (D+1) st') (fun k=>k=D+1):=dH h.mr;obtain⟨e1,e2,e3,e4,e5,e6,e7,e8,e9,Pc,R9,Pd,Pe,Sa,Uf,Pf,Sb,Ug⟩:=h.ne
 exact⟨s.lt h.lt,h.S.cC s (fun k hk=>by subst hk;omega),h.mo,h.mx,h.ml,h.md,h.mr,s.bJ h.o (by omega),s.bJ h.x (by omega),s.bJ h.l (by omega),s.bJ h.d (by omega),World.putObj_heap_same (ak iK),s.bJ h.s (by omega),s.bJ h.n (by omega),h.ne,h.hb.le s.le,
  h.hk.step s (fun k sF hh=>by have:=(h.hk.base k sF).1;omega)⟩
theorem k9.other {q:Nat} (h:k9 M w0 v bo bx bl D bs bn st vb vk tot last b ks M1 w) (s:Step M1 w M1 w' (fun k=>k=q)) (hq:D+1<q) (Uh:∀k,vk.ownBlock=some k→k≠q):k9 M w0 v bo bx bl D bs bn st vb vk tot last b ks M1 w':=by
 obtain⟨e1,e2,e3,e4,e5,e6,e7,e8,e9,Pc,R9,Pd,Pe,Sa,Uf,Pf,Sb,Ug⟩:=h.ne
 exact⟨s.lt h.lt,h.S.cC s (fun k hk=>by subst hk;omega),h.mo,h.mx,h.ml,h.md,h.mr,s.bJ h.o (by omega),s.bJ h.x (by omega),s.bJ h.l (by omega),s.bJ h.d (by omega),s.bJ h.r (by omega),s.bJ h.s (by omega),s.bJ h.n (by omega),h.ne,h.hb.le s.le,
  h.hk.step s (fun k sF hh=>Uh k sF hh)⟩
theorem k9.grow {NV:Value} {Sd:List Bl} (h:k9 M w0 v bo bx bl D bs bn st vb vk tot last b ks M1 w) (s:Step M1 w M2 w' (fun k=>vk.ownBlock=some k)) (hk:Own RT.bl 195 M2 w' (D+2) NV Sd):
  (w'.heap[bx]? =some (.cells #[vb,vk,.int .i64 tot] 193 (0,0))∧M2 bx∧Lt M2 w')∧∀{w2:World},Step M2 w' M2 w2 (fun k=>k=bx)→w2.heap[bx]? =some (.cells #[vb,NV,.int .i64 tot] 193 (0,0))→k9 M w0 v bo bx bl D bs bn st vb NV tot last b Sd M2 w2:=by
 obtain⟨e1,e2,e3,e4,e5,e6,e7,e8,e9,Pc,R9,Pd,Pe,Sa,Uf,Pf,Sb,Ug⟩:=h.ne;have hn:∀k,vk.ownBlock=some k→D+2≤k:=fun k hk=>(h.hk.base k hk).1
 have ej:=fun {k:Nat} (hm:M1 k)=>(s.mem k (h.lt k hm)).2 hm
 refine⟨⟨s.bJ h.x (fun hh=>by have:=hn _ hh;omega),ej h.mx,s.lt h.lt⟩,fun {w2} s2 hx=>?_⟩;have S':=h.S.cC s (fun k hk=>by have:=hn k hk;omega)
 exact⟨s2.lt (s.lt h.lt),S'.cC s2 (fun k hk=>by subst hk;exact Pf),ej h.mo,ej h.mx,ej h.ml,ej h.md,ej h.mr,s2.bJ (s.bJ h.o (fun hh=>by have:=hn _ hh;omega)) e1,hx,s2.bJ (s.bJ h.l (fun hh=>by have:=hn _ hh;omega)) (Ne.symm e3),
  s2.bJ (s.bJ h.d (fun hh=>by have:=hn _ hh;omega)) (by omega),s2.bJ (s.bJ h.r (fun hh=>by have:=hn _ hh;omega)) (by omega),s2.bJ (s.bJ h.s (fun hh=>by have:=hn _ hh;omega)) Pc,s2.bJ (s.bJ h.n (fun hh=>by have:=hn _ hh;omega)) Pe,h.ne,(h.hb.le s.le).le s2.le,
  hk.step s2 (fun k sF hh=>by have:=(hk.base k sF).1;omega)⟩
end
def Hf (M:aB) (w0:World) (l:List Po) (v:Value) (bo bx bl D bs bn:Nat) (st:Obj) (i:Nat) (w:World):Prop:=
 ∃(M1:aB) (vb vk:Value),k9 M w0 v bo bx bl D bs bn st vb vk (gA (l.take i)) (b8 (-1) (l.take i)) (dy (-1) (l.take i)) (mO l ((i+7)/8)) M1 w∧(i%8=0∨i=l.length)∧i≤l.length
theorem NW {M:aB} {w0 w2 w3 w5 w6 w7:World} {v:Value} {l:List Po} {bo bx bl bs bn:Nat} {st:Obj} (S6:Step M w0 (ins (ins (ins M bx) bo) bl) w6 aA) (s7:Step (ins (ins (ins M bx) bo) bl) w6 (ins (ins (ins M bx) bo) bl) w7 aA) (hM:Lt M w0)
  (e1:bo<w6.heap.size) (e2:bx<w6.heap.size) (e3:bl<w6.heap.size) (n1:bo≠bx) (n2:bo≠bl) (n3:bx≠bl)
  (hO:w6.heap[bo]? =some (.cells #[.pointer (some ⟨bx,0,none⟩)] 129 (0,0))) (hX:w6.heap[bx]? =some (.cells #[.slice none 0 0,.slice none 0 0,.int .i64 0] 193 (0,0))) (hL:w6.heap[bl]? =some (.cells #[.int .i64 (-1)] 3 (0,0)))
  (hS:w7.heap[bs]? =some (.cells #[v] 107 (0,0))) (hN:w7.heap[bn]? =some (.cells #[.int .i64 8] 3 (0,0))) (Ui:w6.heap.size≤bs) (TO:w6.heap.size≤bn)
  (g1:w0.heap.size≤bo) (g2:w0.heap.size≤bx) (g3:w0.heap.size≤bl):
  Hf M w0 l v bo bx bl w7.heap.size bs bn st 0 ((w7.alloc (.deferred (some []))).alloc st):=by
 have sA:Step (ins (ins (ins M bx) bo) bl) w7 (ins (ins (ins (ins M bx) bo) bl) w7.heap.size) (w7.alloc (.deferred (some []))) aA:=(dg _ w7 _).own (a7 _) (by simp);have sB:Step (ins (ins (ins (ins M bx) bo) bl) w7.heap.size) (w7.alloc (.deferred (some []))) (ins (ins (ins (ins (ins M bx) bo) bl) w7.heap.size) (w7.heap.size+1)) ((w7.alloc (.deferred (some []))).alloc st) aA:=(dg _ _ _).own (by simp) (by simp);have z7:=s7.size;have hs7:=ak hS;have hn7:=ak hN;have S:=((S6.ax s7).ax sA).ax sB;have hD:(w7.alloc (.deferred (some []))).heap[w7.heap.size]? =some (.deferred (some [])):=cz w7 _;have hR:((w7.alloc (.deferred (some []))).alloc st).heap[w7.heap.size+1]? =some st:=by have:=cz (w7.alloc (.deferred (some []))) st;rwa [World.size_alloc]at this
 have z0:=S6.size;refine⟨_,.slice none 0 0,.slice none 0 0,⟨S.lt hM,S,?_,?_,?_,?_,.inl rfl,sB.aM (sA.aM (s7.aM hO)),sB.aM (sA.aM (s7.aM hX)),sB.aM (sA.aM (s7.aM hL)),sB.aM hD,hR,sB.aM (sA.aM hS),sB.aM (sA.aM hN),by omega,jG,dK _ _ _ _ _⟩,.inl rfl,bB _⟩
 ·exact .inr (.inr (.inr (.inl rfl)))
 ·exact .inr (.inr (.inr (.inr (.inl rfl))))
 ·exact .inr (.inr (.inl rfl))
 ·exact .inr (.inl rfl)
set_option maxHeartbeats 4000000 in
theorem qB {M:aB} {w0:World} {v:Value} {l:List Po} (hM:Lt M w0) (hv:((RT.po).sl).V M w0 l v) (rr:∀p∈l,p.2.length≤1099511627776) (AX:(dy (-1) l).length≤35184372088832) (Iw:l.length≤1099511627776) (afJ:gA l≤4611686018427387904):
  Spec Tryz.prog 126 #[v] w0 (fun v' w'=>Step M w0 M w' aA∧(dR (-1) l=true→∃p,v'= .tuple #[p,.int .i64 0]∧cp RT.li M w' p (hU l))∧(dR (-1) l=false→v'= .tuple #[.pointer none,.int .i64 1])):=by
 have hlen:=ei hv;refine nk (args:=[_]) (fn:=Tryz.f126) Tryz.func126 rfl (n:=85) Tryz.ntmps126 (aj (ah (ai rfl rfl (ai rfl rfl (ad (aj (aj (ah (ae rfl rfl ?_)))))))));refine aQ rfl rfl Vp (D7 hM hv) (fun r w1 h1=>?_);obtain⟨rfl,s1⟩:=h1;refine rq rfl rfl (bz (v':= .bool (decide (¬dR (-1) l=true))) (by simp) (ad ?_));refine bH rfl (fun c1=>?_) (fun c1=>?_)
 ·refine aj (ah (ai rfl rfl (ai rfl rfl (ad (aL ?_)))));exact IF rfl rfl rfl ⟨s1,fun h=>absurd h c1,fun _=>rfl⟩
 ·have pQ:=dY.1 c1;refine aS (aj (ah (dU (places:=[(0,1),(1,1),(2,1)]) dx Vc Ve rfl rfl (out:=[.slice none 0 0,.slice none 0 0,.int .i64 0]) rfl ?_)));refine o8 M rfl rfl (fun bx w2 EG afK hX s2=>?_);change w2.heap[bx]? =some (.cells #[.slice none 0 0,.slice none 0 0,.int .i64 0] 193 (0,0))at hX;refine fh (ins M bx) oN rfl (fun bo w3 NX afL hO s3=>?_);refine bS (M:=ins (ins M bx) bo) oN rfl rfl hO rfl rfl (.inl rfl) (fun w4 hO4 s4=>?_);refine ad (aj (ah ?_));refine fh (ins (ins M bx) bo) I3 rfl (fun bl w5 afN ab9 hL s5=>?_);refine bS (M:=ins (ins (ins M bx) bo) bl) I3 rfl rfl hL rfl rfl (.inl rfl) (fun w6 hL6 s6=>?_);have z1:=s1.size;have z2:=s2.size;have z3:=s3.size;have z4:=s4.size;have z5:=s5.size;have z6:=s6.size;have S6:Step M w0 (ins (ins (ins M bx) bo) bl) w6 aA:=((((s1.ax s2).ax s3).cC s4 (fun k hk=>by subst hk;omega)).ax s5).cC s6 (fun k hk=>by subst hk;omega);have hO6:=s6.bJ (s5.aM hO4) (show bo≠bl by omega);have hX6:=s6.bJ (s5.aM (s4.bJ (s3.aM hX) (show bx≠bo by omega))) (show bx≠bl by omega);refine ad (aj (aj (ah (ae rfl rfl ?_))));refine aQ rfl rfl Vq (BW (M:=ins (ins (ins M bx) bo) bl) (S6.lt hM) (hv.le S6.le)) (fun r w7 h7=>?_);obtain⟨bs,bn,rfl,hS7,hN7,Ui,TO,s7⟩:=h7;have z7:=s7.size;have afR:=ak hS7;have afS:=ak hN7;refine ad (aY ?_);refine T.range (gf:=213) (lb:=[.pointer (some ⟨bs,0,none⟩),.pointer (some ⟨bn,0,none⟩)].toArray) rfl Vz (fun rec nj=>?_);obtain⟨D,hD⟩:∃D,D=w7.heap.size:=⟨_,rfl⟩;rw[←hD]at nj ⊢
  have h0:Hf M w0 l v bo bx bl D bs bn (.loop (rec .ready none)) 0 ((w7.alloc (.deferred (some []))).alloc (.loop (rec .ready none))):=by
   rw[hD]at nj ⊢;exact NW (w2:=w7) (w3:=w7) (w5:=w7) S6 s7 hM (by omega) (by omega) (by omega) (by omega) (by omega) (by omega) hO6 hX6 hL6 hS7 hN7 Ui TO (by omega) (by omega) (by omega)
  refine Spec.mono (Am (M:=M) (wv:=w0) (J:=Hf M w0 l v bo bx bl D bs bn (.loop (rec .ready none))) (Jx:=fun _=>False) hv (fun i w w' ⟨M1,vb,vk,h,h2⟩ s=>⟨M1,vb,vk,h.step (s.any M1),h2⟩) (fun i w ⟨M1,vb,vk,h,h2⟩=>⟨h.s,h.n⟩) (fun i wr u hJ hi hu=>?_) h0) (fun _ w3 h3=>?_)
  ·obtain⟨M1,vb,vk,h,hi8,mN⟩:=hJ;refine lA (ps:=[17]) (vs:=[u]) nj h.r rfl (by decide) (ah (ai rfl rfl (ad ?_)));refine⟨rfl,h.r,?_⟩;have h1:=h.mT (st':= .loop (rec .busy none)) h.r;generalize wr.putObj (D+1) _=wB at h1 ⊢;have hO:=h1.o;have hX:=h1.x;have hL:=h1.l;have hB:=h1.hb;have dC:=h1.lt;have qg:((l.drop i).take 8).length≤8:=by rw[bG];omega
   have afT:((l.drop i).take 8).length=min 8 (l.length-i):=by rw[bG,cW]
   obtain⟨q1,q2,q3,q4,q5,q6,q7,q8,q9,q10,q11,q12,q13,q14,q15,q16,q17,q18⟩:=h1.ne;refine aY (aj ?_);apply T.Cz (M:=M1) (n:=85) _ mixed [] [cg.eq _,cg.eq _,cg.eq _,cg.eq _,cg.eq _,cg.eq _,cg.eq _,cg.eq _,cg.eq _,cg.mk' (fun p w'=>∃bq,p= .pointer (some ⟨bq,0,none⟩)∧wB.heap.size≤bq∧w'.heap[bq]? =some (.cells #[.int .i64 0,.int .i64 0,.int .i64 0,.int .i64 0] 195 (0,0))) (fun⟨bq,h1,h2,h3⟩ s=>⟨bq,h1,h2,s.aM h3⟩)]
   ·rfl
   ·rfl
   ·rfl
   ·rfl
   ·exact fun p hp=>by cases hp
   ·exact ru.none
   ·refine aG ?_ ?_
    ·intro wD E sD;refine aH cO rfl rfl rfl (cc sD (by assumption)) rfl ?_;exact ad ⟨rfl,rfl,_,rfl,rfl,an _ _⟩
    refine aG ?_ ?_
    ·intro wD E sD;refine ay (aU rfl ⟨_,rfl⟩ rfl ?_);exact ad ⟨rfl,rfl,_,rfl,rfl,an _ _⟩
    refine aG ?_ ?_
    ·intro wD E sD;refine ay (aV dx rfl rfl za (by decide) rfl rfl ?_);exact ad ⟨rfl,rfl,_,rfl,rfl,an _ _⟩
    refine aG ?_ ?_
    ·intro wD E sD;refine ay (aH br rfl rfl rfl (cc sD (by assumption)) rfl ?_);exact ad ⟨rfl,rfl,_,rfl,rfl,an _ _⟩
    refine aG ?_ ?_
    ·intro wD E sD;refine ay ?_
     first|refine bM br rfl (by assumption) rfl ?_|refine gO br rfl (by assumption) rfl ?_
     exact ad ⟨rfl,rfl,_,rfl,rfl,an _ _⟩
    refine aG ?_ ?_
    ·intro wD E sD;refine aH ar rfl rfl rfl (cc sD (by assumption)) rfl ?_;exact ad ⟨rfl,rfl,_,rfl,rfl,an _ _⟩
    refine aG ?_ ?_
    ·intro wD E sD;refine ae rfl rfl ?_;exact ad ⟨rfl,rfl,_,rfl,rfl,an _ _⟩
    refine aG ?_ ?_
    ·intro wD E sD;refine ay ?_
     first|refine bM aX rfl (by assumption) rfl ?_|refine gO aX rfl (by assumption) rfl ?_
     exact ad ⟨rfl,rfl,_,rfl,rfl,an _ _⟩
    refine aG ?_ ?_
    ·intro wD E sD;refine ay (ay (ay (dU (places:=[(0,1),(1,1),(2,1),(3,1)]) jX uN Vf rfl ⟨_,_,rfl,rfl,_,_,rfl,rfl,_,_,rfl,rfl,rfl⟩ (out:=[.int .i64 (dy (-1) (l.take i)).length,.int .i64 (b8 (-1) (l.take i)),.int .i64 0,.int .i64 ((l.drop i).take 8).length]) ⟨0,[_],rfl,rfl,by simp[Value.cells],1,[_],rfl,rfl,by simp[Value.cells],3,[_],rfl,rfl,by simp[Value.cells],rfl⟩ ?_)));exact ad ⟨rfl,rfl,_,rfl,rfl,an _ _⟩
    refine aG ?_ ?_
    ·intro wD E sD;refine fh M1 uN rfl (fun bq wq e1 e2 e3 s=>?_);exact ad ⟨rfl,rfl,_,rfl,⟨bq,rfl,eK sD.size e1,e3⟩,s.back⟩
    exact bI.nil
   ·intro wD7 sD7;refine ay (ay (ay (ay (ay (ay (ay (ay (ay ?_))))))));intro af6 Sf;obtain⟨bq,rfl,LW,U2⟩:=Sf;have Ky:=ak U2;have sQ:Step M1 wB (ins M1 bq) wD7 aA:=sD7.own LW Ky;refine fo (M:=ins M1 bq) (vs:=[.int .i64 (dy (-1) (l.take i)).length,.int .i64 (b8 (-1) (l.take i)),.int .i64 0,.int .i64 ((l.drop i).take 8).length]) uN rfl rfl (by intro x hx;simp at hx;rcases hx with rfl|rfl|rfl|rfl<;>rfl) rfl rfl U2 (.inl rfl) (fun wQ hQ sQ2=>?_);refine ad ⟨rfl,?_⟩;have h2:=h1.step (sQ.cC sQ2 (fun k hk=>by subst hk;exact LW));have Uh:∀k,vk.ownBlock=some k→k≠bq:=fun k hk=>by have:=(h1.hk.base k hk).2;omega
    have U3:D+1<bq:=by have:=ak h1.r;omega
    have h3:k9 M w0 v bo bx bl D bs bn (.loop (rec .busy none)) vb vk (gA (l.take (i+0))) (b8 (-1) (l.take (i+0))) (dy (-1) (l.take (i+0))) (mO l ((i+7)/8)) (ins M1 bq) wQ:=h2;obtain⟨M2,KH⟩:∃M2,M2=ins M1 bq:=⟨_,rfl⟩;rw[←KH]at h3;refine aj (aj (ah (ae rfl rfl ?_)))
    first|refine bM aX rfl (by assumption) rfl ?_|refine gO aX rfl (by assumption) rfl ?_
    refine ae rfl rfl (ad (aY ?_));refine dr (σ:=Nat×Value) (fun s=>[(4,.pointer (some ⟨bo,0,none⟩)),(5,.pointer (some ⟨bl,0,none⟩)),(6,u),(7,.pointer (some ⟨bq,0,none⟩)),(27,u),(28,.int .i64 ((l.drop i).take 8).length),(29,.int .i64 s.1)]) (fun s w=>s.1≤((l.drop i).take 8).length∧w.heap[bq]? =some (.cells #[.int .i64 (dy (-1) (l.take i)).length,.int .i64 (b8 (-1) (l.take i)),.int .i64 0,.int .i64 ((l.drop i).take 8).length] 195 (0,0))∧k9 M w0 v bo bx bl D bs bn (.loop (rec .busy none)) s.2 vk (gA (l.take (i+s.1))) (b8 (-1) (l.take (i+s.1))) (dy (-1) (l.take (i+s.1))) (mO l ((i+7)/8)) M2 w) (fun s=>((l.drop i).take 8).length-s.1) (0,vb) (.cons rfl (.cons rfl (.cons rfl (.cons rfl (.cons rfl (.cons rfl (.cons rfl .nil))))))) ?_ ?_
    ·exact⟨bB _,hQ,h3⟩
    ·rintro⟨j,vb⟩ wj ⟨hj,hQ,h4⟩;dsimp only at hj hQ h4 ⊢;have dC:=h4.lt;refine aj (ah (b4 rfl rfl rfl (ad (aj ?_))));refine bH rfl (fun c9=>?_) (fun c9=>?_)
     ·refine aS (aj (aY (aj (ah ?_))));obtain⟨⟨d,ps⟩,hx⟩:∃x,l[i+j]? =some x:=⟨_,aD (by omega)⟩;obtain⟨f1,f2,f3,f4,f5,f6⟩:=np pQ hx;obtain⟨f7,f8⟩:=l3.1 f4;have fps:=rr _ (aI hx);have fb:=k4 l (i+j);have ft:=y2 l (i+j);have ft2:=y2 l (i+j+1);rw[sO hx]at ft2;have ftk:=sN (-1) hx;have ftl:=k4 l (i+j+1);simp only at fps;refine cK (M:=M2) aX gD rfl rfl rfl (hu.le h4.S.le) (ao _ _) (by omega) (fun QP Sg NY MJ=>?_);obtain rfl:(d,ps)=Sg:=eM (bp (NY.symm.trans (by rw[aw,dG,if_pos (by omega),List.getElem?_drop];exact hx)));refine b5 (M:=M2) (A:=RT.po) bL rfl gD (by decide) rfl rfl rfl (by assumption) (by repeat (first|exact ao _ _|refine aT (bj (by assumption)) ?_)) (fun QQ FQ=>?_);refine mz (A:=RT.po) (M:=M2) gD rfl rfl rfl rfl rfl (by assumption) (by repeat (first|exact ao _ _|refine aT (bj (by assumption)) ?_)) (by first|assumption|exact Step.lt (by assumption) (by assumption)|exact Step.lt (by assumption) (Step.lt (by assumption) (by assumption))) (fun Sh Si qC pR Sj=>?_);refine ad (aj ?_);have h5:=h4.step pR;have hO:=h5.o;have hX:=h5.x;have hL:=h5.l;have hB:=h5.hb;have dC:=h5.lt;have hp0:=qC;apply T.Cz (M:=M2) (n:=85) _ mixed [] [cg.eq _,cg.eq _,cg.eq _,cg.eq _,cg.eq _,cg.ptr (RT.int .i64) d,cg.eq (.int .i64 d),cg.eq _,cg.eq _,cg.eq (.int .i64 (((d-b8 (-1) (l.take (i+j))-1).toNat:Nat):Int)),cg.V (RT.u8.sl) (dy (-1) (l.take (i+j))++put (d-b8 (-1) (l.take (i+j))-1).toNat),cg.eq _,cg.eq _]
      ·rfl
      ·rfl
      ·rfl
      ·rfl
      ·exact fun p hp=>by cases hp
      ·exact ru.none
      ·refine aG ?_ ?_
       ·intro wD E sD;refine aH cO rfl rfl rfl (cc sD (by assumption)) rfl ?_;exact ad ⟨rfl,rfl,_,rfl,rfl,an _ _⟩
       refine aG ?_ ?_
       ·intro wD E sD;refine aH cO rfl rfl rfl (cc sD (by assumption)) rfl ?_;exact ad ⟨rfl,rfl,_,rfl,rfl,an _ _⟩
       refine aG ?_ ?_
       ·intro wD E sD;refine ay (aU rfl ⟨_,rfl⟩ rfl ?_);exact ad ⟨rfl,rfl,_,rfl,rfl,an _ _⟩
       refine aG ?_ ?_
       ·intro wD E sD;refine ay (aV dx rfl rfl za (by decide) rfl rfl ?_);exact ad ⟨rfl,rfl,_,rfl,rfl,an _ _⟩
       refine aG ?_ ?_
       ·intro wD E sD;refine ay (aH br rfl rfl rfl (cc sD (by assumption)) rfl ?_);exact ad ⟨rfl,rfl,_,rfl,rfl,an _ _⟩
       refine aG ?_ ?_
       ·intro wD E sD;refine aF (M:=M2) (A:=RT.po) (B:=RT.int .i64) bL rfl rfl I3 (by decide) (Ic) rfl rfl (by decide) (by assumption) (by repeat (first|exact ao _ _|refine aT (bj (by assumption)) ?_)) (fun acf Yi=>?_);exact ad ⟨rfl,rfl,_,rfl,by assumption,an _ _⟩
       refine aG ?_ ?_
       ·intro wD E sD;intro v5 ou;refine bV (M:=M2) ar rfl rfl (by assumption) (by repeat (first|exact ao _ _|refine aT (bj (by assumption)) ?_)) (fun Yj=>?_);exact ad ⟨rfl,rfl,_,rfl,rfl,an _ _⟩
       refine aG ?_ ?_
       ·intro wD E sD;refine aH ar rfl rfl rfl (cc sD (by assumption)) rfl ?_;exact ad ⟨rfl,rfl,_,rfl,rfl,an _ _⟩
       refine aG ?_ ?_
       ·intro wD E sD;refine ay (ay (gN rfl rfl rfl (by omega) ?_));exact ad ⟨rfl,rfl,_,rfl,rfl,an _ _⟩
       refine aG ?_ ?_
       ·intro wD E sD;refine ay (gN rfl rfl rfl (by omega) (bz (v':= .int .i64 (((d-b8 (-1) (l.take (i+j))-1).toNat:Nat):Int)) (by congr 1;omega) ?_));exact ad ⟨rfl,rfl,_,rfl,rfl,an _ _⟩
       refine aG ?_ ?_
       ·intro wD E sD;refine ay (ay ?_);refine aQ rfl rfl Mf (G6 (M:=M2) (sD.lt dC) (hB.le sD.le) (by omega) (by omega)) (fun rP wP hP=>?_);exact ad ⟨rfl,rfl,_,rfl,hP.2,hP.1⟩
       refine aG ?_ ?_
       ·intro wD E sD;refine ay (ay (ay (ay (ay (ay ?_)))));intro v5 ou;refine ay (ay (ay (ay ?_)));intro v10 NZ;refine aU rfl ⟨_,rfl⟩ rfl ?_;exact ad ⟨rfl,rfl,_,rfl,rfl,an _ _⟩
       refine aG ?_ ?_
       ·intro wD E sD;refine ay (ay (ay (ay (ay (ay ?_)))));intro v5 ou;refine ay (ay (ay (ay ?_)));intro v10 NZ;refine aV dx rfl rfl za (by decide) rfl rfl ?_;exact ad ⟨rfl,rfl,_,rfl,rfl,an _ _⟩
       exact bI.nil
      ·intro JI jF;refine ay (ay (ay (ay (ay ?_))));intro acg Yk;refine ay (ay (ay (ay ?_)));intro Yl C6;refine ay (ay ?_);have h6:=h5.step jF;have hp6:=hp0.le (by decide) jF.le;refine bS (M:=M2) za rfl rfl h6.x rfl (kb C6 rfl rfl) h6.mx (fun Uj Ym yG=>?_);refine ad ⟨rfl,?_⟩;have h7:=h6.NU yG Ym (RT.V.le yG.le C6) h6.hk;have Pb:=hp6.le (by decide) yG.le;refine aj ?_;have hO:=h7.o;have hX:=h7.x;have hB:=h7.hb;have dC:=h7.lt;have fbl:(dy (-1) (l.take (i+j))++put (d-b8 (-1) (l.take (i+j))-1).toNat).length≤35184372088832:=by rw[ftk]at ftl;simp only[bP]at ftl ⊢;omega
       apply T.Ku (M:=M2) mixed [(13,fun k=>k=bx)] [cg.eq _,cg.eq _,cg.eq _,cg.eq _,cg.eq _,cg.ptr ((RT.int .i64).sl) ps,cg.V ((RT.int .i64).sl) ps,⟨fun t w=>∃x,t= .tuple #[x,.int .i64 0]∧(RT.u8.sl).V M2 w (dy (-1) (l.take (i+j))++put (d-b8 (-1) (l.take (i+j))-1).toNat++dI ps) x,Dj,fun⟨x,h1,h2⟩ s _=>⟨x,h1,h2.le s.le⟩⟩,⟨fun t w=>∃x,t= .tuple #[x,.int .i64 0]∧(RT.u8.sl).V M2 w (dy (-1) (l.take (i+j))++put (d-b8 (-1) (l.take (i+j))-1).toNat++dI ps) x,Dj,fun⟨x,h1,h2⟩ s _=>⟨x,h1,h2.le s.le⟩⟩,cg.V (RT.u8.sl) (dy (-1) (l.take (i+j))++put (d-b8 (-1) (l.take (i+j))-1).toNat++dI ps),cg.eq (.int .i64 0),cg.eq _,cg.eq _,⟨fun _ w=>∃x,w.heap[bx]? =some (.cells #[x,vk,.int .i64 (gA (l.take (i+j)))] 193 (0,0))∧(RT.u8.sl).V M2 w (dy (-1) (l.take (i+j))++put (d-b8 (-1) (l.take (i+j))-1).toNat++dI ps) x,fun k=>k≠bx,fun⟨x,h1,h2⟩ s hN=>⟨x,s.bJ h1 (fun hb=>hN _ hb rfl),h2.le s.le⟩⟩]
       ·rfl
       ·intro p hp b hb;simp only[cw]at hp;subst hp
        cases hb;exact h7.mx
       ·exact⟨fun _ _ _ _=>trivial,⟨fun _ _ _ _=>trivial,⟨fun _ _ _ _=>trivial,⟨fun _ _ _ _=>trivial,⟨fun _ _ _ _=>trivial,⟨fun _ _ _ _=>trivial,⟨fun _ _ _ _=>trivial,⟨fun _ _ _ _=>trivial,⟨fun _ _ _ _=>trivial,⟨fun _ _ _ _=>trivial,⟨fun _ _ _ _=>trivial,⟨fun _ _ _ _=>trivial,⟨fun _ _ _ _=>trivial,⟨fun p hp=>by simp at hp,trivial⟩⟩⟩⟩⟩⟩⟩⟩⟩⟩⟩⟩⟩⟩
       ·refine aN ?_ ?_
        ·intro wD E sD;replace sD:Step M2 _ M2 wD aA:=sD;refine aH cO rfl rfl rfl (cc sD (by assumption)) rfl ?_;exact ad ⟨rfl,rfl,_,rfl,rfl,an _ _⟩
        refine aN ?_ ?_
        ·intro wD E sD;replace sD:Step M2 _ M2 wD aA:=sD;refine aH cO rfl rfl rfl (cc sD (by assumption)) rfl ?_;exact ad ⟨rfl,rfl,_,rfl,rfl,an _ _⟩
        refine aN ?_ ?_
        ·intro wD E sD;replace sD:Step M2 _ M2 wD aA:=sD;refine ay (aU rfl ⟨_,rfl⟩ rfl ?_);exact ad ⟨rfl,rfl,_,rfl,rfl,an _ _⟩
        refine aN ?_ ?_
        ·intro wD E sD;replace sD:Step M2 _ M2 wD aA:=sD;refine ay (aV dx rfl rfl za (by decide) rfl rfl ?_);exact ad ⟨rfl,rfl,_,rfl,rfl,an _ _⟩
        refine aN ?_ ?_
        ·intro wD E sD;replace sD:Step M2 _ M2 wD aA:=sD;refine ay (aH br rfl rfl rfl (cc sD (by assumption)) rfl ?_);exact ad ⟨rfl,rfl,_,rfl,rfl,an _ _⟩
        refine aN ?_ ?_
        ·intro wD E sD;replace sD:Step M2 _ M2 wD aA:=sD;refine aF (M:=M2) (A:=RT.po) (B:=(RT.int .i64).sl) bL rfl rfl nY (by decide) PR rfl rfl (by decide) Pb sD.le (fun uf yj=>?_);exact ad ⟨rfl,rfl,_,rfl,yj,an _ _⟩
        refine aN ?_ ?_
        ·intro wD E sD;replace sD:Step M2 _ M2 wD aA:=sD;intro v5 ou;refine bY (M:=M2) au rfl rfl rfl rfl rfl (show cp ((RT.int .i64).sl) M2 wD v5 ps from ou) (ao _ _) (fun uf yj=>?_);exact ad ⟨rfl,rfl,_,rfl,yj,an _ _⟩
        refine aN ?_ ?_
        ·intro wD E sD;replace sD:Step M2 _ M2 wD aA:=sD;refine ay ?_;intro v6 ot;refine aQ rfl rfl Vr (tR (M:=M2) (sD.lt dC) (hB.le sD.le) (show((RT.int .i64).sl).V M2 wD ps v6 from ot) (by omega)) (fun rP wP hP=>?_);obtain⟨xP,sP,hP1,Sk⟩:=hP;rw[if_pos f7]at hP1 Sk;exact ad ⟨rfl,rfl,_,rfl,⟨xP,hP1,Sk⟩,sP⟩
        refine aN ?_ ?_
        ·intro wD E sD;replace sD:Step M2 _ M2 wD aA:=sD;intro v7 Bz;refine ae rfl rfl ?_;exact ad ⟨rfl,rfl,_,rfl,Bz,an _ _⟩
        refine aN ?_ ?_
        ·intro wD E sD;replace sD:Step M2 _ M2 wD aA:=sD;intro v8 C2;obtain⟨xP,rfl,Sk⟩:=C2;refine bU rfl rfl rfl ?_;exact ad ⟨rfl,rfl,_,rfl,Sk,an _ _⟩
        refine aN ?_ ?_
        ·intro wD E sD;replace sD:Step M2 _ M2 wD (fun k=>k=bx):=sD;intro v8 C2;obtain⟨xP,rfl,Sk⟩:=C2;refine bU rfl rfl rfl ?_;exact ad ⟨rfl,rfl,_,rfl,rfl,an _ _⟩
        refine aN ?_ ?_
        ·intro wD E sD;replace sD:Step M2 _ M2 wD (fun k=>k=bx):=sD;refine ay (ay (ay (ay (ay (ay ?_)))));intro v5 ou;intro v6 ot;intro v7 Bz;intro v8 C2;intro v9 Jh;refine aU rfl ⟨_,rfl⟩ rfl ?_;exact ad ⟨rfl,rfl,_,rfl,rfl,an _ _⟩
        refine aN ?_ ?_
        ·intro wD E sD;replace sD:Step M2 _ M2 wD aA:=sD;refine ay (ay (ay (ay (ay (ay ?_)))));intro v5 ou;intro v6 ot;intro v7 Bz;intro v8 C2;intro v9 Jh;refine aV dx rfl rfl za (by decide) rfl rfl ?_;exact ad ⟨rfl,rfl,_,rfl,rfl,an _ _⟩
        refine aN ?_ ?_
        ·intro wD E sD;replace sD:Step M2 _ M2 wD aA:=sD;refine ay ?_;intro v9 Jh;intro v7 Bz;refine ay (ay (ay (ay (ay ?_))));intro v5 ou;intro v6 ot;intro v7 Bz;intro v8 C2;intro v9 Jh;refine bS (M:=M2) za rfl rfl (cc sD hX) rfl (kb (A:=RT.u8.sl) Jh rfl rfl) h7.mx (fun wS hXS sS=>?_);exact ad ⟨rfl,rfl,undef,rfl,⟨_,hXS,RT.V.le (A:=RT.u8.sl) sS.le Jh⟩,sS⟩
        exact b9.nil
       ·intro Hg tV;replace tV:Step M2 _ M2 Hg (fun k=>k=bx):=tV;refine ay (ay (ay (ay (ay ?_))));intro aci Yn;intro acj Yo;intro ack Yp;intro acm Yq;intro acn Yr;refine ay (ay (ay ?_));intro Ys JQ;obtain⟨v12,Yt,Yu⟩:=JQ;have h8:=h7.NU tV Yt Yu h7.hk;have hp8:=Pb.le (by decide) tV.le;refine aj ?_;have hO:=h8.o;have hX:=h8.x;apply T.Cz (M:=M2) (n:=85) _ mixed [] [cg.eq _,cg.eq _,cg.eq _,cg.eq _,cg.ptr ((RT.int .i64).sl) ps,cg.V ((RT.int .i64).sl) ps,cg.eq (.int .i64 ps.length),cg.eq _,cg.eq _,cg.eq _]
        ·rfl
        ·rfl
        ·rfl
        ·rfl
        ·exact fun p hp=>by cases hp
        ·exact ru.none
        ·refine aG ?_ ?_
         ·intro wD E sD;refine aH cO rfl rfl rfl (cc sD (by assumption)) rfl ?_;exact ad ⟨rfl,rfl,_,rfl,rfl,an _ _⟩
         refine aG ?_ ?_
         ·intro wD E sD;refine ay (aU rfl ⟨_,rfl⟩ rfl ?_);exact ad ⟨rfl,rfl,_,rfl,rfl,an _ _⟩
         refine aG ?_ ?_
         ·intro wD E sD;refine ay (aV dx rfl rfl I3 (by decide) rfl rfl ?_);exact ad ⟨rfl,rfl,_,rfl,rfl,an _ _⟩
         refine aG ?_ ?_
         ·intro wD E sD;refine ay (aH ar rfl rfl rfl (cc sD (by assumption)) rfl ?_);exact ad ⟨rfl,rfl,_,rfl,rfl,an _ _⟩
         refine aG ?_ ?_
         ·intro wD E sD;refine aF (M:=M2) (A:=RT.po) (B:=(RT.int .i64).sl) bL rfl rfl nY (by decide) PR rfl rfl (by decide) hp8 sD.le (fun uf yj=>?_);exact ad ⟨rfl,rfl,_,rfl,yj,an _ _⟩
         refine aG ?_ ?_
         ·intro wD E sD;intro v4 qq;refine bY (M:=M2) au rfl rfl rfl rfl rfl (show cp ((RT.int .i64).sl) M2 wD v4 ps from qq) (ao _ _) (fun uf yj=>?_);exact ad ⟨rfl,rfl,_,rfl,yj,an _ _⟩
         refine aG ?_ ?_
         ·intro wD E sD;intro v5 ou;refine bM au rfl (show((RT.int .i64).sl).V M2 wD ps v5 from ou) rfl ?_;exact ad ⟨rfl,rfl,_,rfl,rfl,an _ _⟩
         refine aG ?_ ?_
         ·intro wD E sD;refine ay (ay (bu rfl rfl rfl (by omega) ?_));exact ad ⟨rfl,rfl,_,rfl,rfl,an _ _⟩
         refine aG ?_ ?_
         ·intro wD E sD;refine ay (ay (ay (ay (ay ?_))));intro v4 qq;intro v5 ou;refine ay (ay (aU rfl ⟨_,rfl⟩ rfl ?_));exact ad ⟨rfl,rfl,_,rfl,rfl,an _ _⟩
         refine aG ?_ ?_
         ·intro wD E sD;refine ay (ay (ay (ay (ay ?_))));intro v4 qq;intro v5 ou;refine ay (ay (aV dx rfl rfl I3 (by decide) rfl rfl ?_));exact ad ⟨rfl,rfl,_,rfl,rfl,an _ _⟩
         exact bI.nil
        ·intro MK mc;refine ay (ay (ay (ay ?_)));intro acp Yv;intro KP xU;refine ay (ay (ay (ay ?_)));have h9:=h8.step mc;refine bS (M:=M2) I3 rfl rfl h9.x rfl rfl h9.mx (fun RB Yw vm=>?_);refine ad ⟨rfl,?_⟩;have D2:=h9.NU vm Yw (h9.hb.le vm.le) h9.hk;have Yx:=(hp8.le (by decide) mc.le).le (by decide) vm.le;refine ah ?_;refine aF (M:=M2) (A:=RT.po) (B:=RT.int .i64) bL rfl rfl I3 (by decide) Ic rfl rfl (by decide) Yx (ao _ _) (fun acq N0=>?_);refine bV (M:=M2) ar rfl rfl N0 (ao _ _) (fun _=>?_);refine bz (v':= .int .i64 d) rfl ?_;refine bS (M:=M2) I3 rfl rfl D2.l rfl rfl D2.ml (fun Q7 Yy jv=>?_);have h11:=D2.JP jv Yy;refine ad (ah (bu rfl rfl rfl (by omega) (ae rfl rfl (ad ?_))));refine⟨rfl,(j+1,v12),(.cons rfl (.cons rfl (.cons rfl (.cons rfl (.cons rfl (.cons rfl (.cons rfl .nil))))))),?_,?_⟩
         ·refine⟨by simp only;omega,?_,?_⟩
          ·exact jv.bJ (vm.bJ (mc.aM (tV.bJ (yG.bJ (jF.aM (pR.aM hQ)) (by omega)) (by omega))) (by omega)) (by omega)
          ·simp only;rw[show i+(j+1)=i+j+1 from by omega,sO hx,f5,ftk];exact h11
         ·simp only;omega
     ·refine cG (aj (ah ?_));obtain rfl:j=((l.drop i).take 8).length:=by omega
      have Pq:M2 bq:=by rw[KH];exact .inl rfl
      refine aH ar rfl rfl rfl h4.l rfl (aV (o':=2) jX rfl rfl I3 (by decide) rfl rfl ?_);refine bS (M:=M2) I3 rfl rfl hQ rfl rfl Pq (fun JR Sm vr=>?_);have Pg:=h4.other vr U3 Uh;change JR.heap[bq]? =some (.cells [.int .i64 (dy (-1) (l.take i)).length,.int .i64 (b8 (-1) (l.take i)),.int .i64 (b8 (-1) (l.take (i+((l.drop i).take 8).length))),.int .i64 ((l.drop i).take 8).length].toArray 195 (0,0))at Sm;refine ad ?_;have hO:=Pg.o;have hX:=Pg.x;have JS:=Pg.hk;have gU:∀k,vk.ownBlock=some k→k≠bo:=fun k hk=>by have:=(JS.base k hk).1;omega
      have age:=ak Pg.r;have g1:=ja l (-1) pQ (by omega) i;have g2:=ja l (-1) pQ (by omega) (i+((l.drop i).take 8).length);have g3:=k4 l i;apply T.Cz (M:=M2) (n:=85) _ mixed [(7,fun k=>vk.ownBlock=some k)] [cg.eq _,cg.eq _,cg.eq _,cg.eq _,cg.eq _,cg.eq (.agg [.int .i64 (dy (-1) (l.take i)).length,.int .i64 (b8 (-1) (l.take i)),.int .i64 (b8 (-1) (l.take (i+((l.drop i).take 8).length))),.int .i64 ((l.drop i).take 8).length].toArray),cg.V ((RT.bl).sl) [(((dy (-1) (l.take i)).length:Int),b8 (-1) (l.take i),b8 (-1) (l.take (i+((l.drop i).take 8).length)),(((l.drop i).take 8).length:Int))],⟨fun t w=>∃M3,Own RT.bl 195 M3 w (D+2) t (mO l ((i+7)/8)++[(((dy (-1) (l.take i)).length:Int),b8 (-1) (l.take i),b8 (-1) (l.take (i+((l.drop i).take 8).length)),(((l.drop i).take 8).length:Int))])∧Step M2 JR M3 w (fun k=>vk.ownBlock=some k),aA,fun⟨M3,h1,h2⟩ s hN=>⟨M3,h1.bh ((s.ca hN (fun _ h=>h.elim)).any M3),h2.ax ((s.ca hN (fun _ h=>h.elim)).any M3)⟩⟩,cg.eq _,cg.eq _]
      ·rfl
      ·rfl
      ·rfl
      ·rfl
      ·intro p hp b hb;simp only[cw]at hp;subst hp;exact JS.mut_ b hb
      ·exact⟨fun _ _ _ _=>trivial,⟨fun _ _ _ _=>trivial,⟨fun _ _ _ _=>trivial,⟨fun _ _ _ _=>trivial,⟨fun _ _ _ _=>trivial,⟨fun _ _ _ _=>trivial,⟨fun _ _ _ _=>trivial,⟨fun p hp=>by simp at hp,⟨fun _ _ _ _=>trivial,⟨fun _ _ _ _=>trivial,trivial⟩⟩⟩⟩⟩⟩⟩⟩⟩⟩
      ·refine aG ?_ ?_
       ·intro wD E sD;replace sD:Step M2 _ M2 wD (fun k=>vk.ownBlock=some k):=sD;refine aH cO rfl rfl rfl (sD.bJ hO (fun hb=>gU _ hb rfl)) rfl ?_;exact ad ⟨rfl,rfl,_,rfl,rfl,an _ _⟩
       refine aG ?_ ?_
       ·intro wD E sD;replace sD:Step M2 _ M2 wD (fun k=>vk.ownBlock=some k):=sD;refine aH cO rfl rfl rfl (sD.bJ hO (fun hb=>gU _ hb rfl)) rfl ?_;exact ad ⟨rfl,rfl,_,rfl,rfl,an _ _⟩
       refine aG ?_ ?_
       ·intro wD E sD;replace sD:Step M2 _ M2 wD (fun k=>vk.ownBlock=some k):=sD;refine ay (aU rfl ⟨_,rfl⟩ rfl ?_);exact ad ⟨rfl,rfl,_,rfl,rfl,an _ _⟩
       refine aG ?_ ?_
       ·intro wD E sD;replace sD:Step M2 _ M2 wD (fun k=>vk.ownBlock=some k):=sD;refine ay (aV dx rfl rfl Bd (by decide) rfl rfl ?_);exact ad ⟨rfl,rfl,_,rfl,rfl,an _ _⟩
       refine aG ?_ ?_
       ·intro wD E sD;replace sD:Step M2 _ M2 wD aA:=sD;refine ay (aH dP rfl rfl rfl (cc sD (by assumption)) rfl ?_);exact ad ⟨rfl,rfl,_,rfl,rfl,an _ _⟩
       refine aG ?_ ?_
       ·intro wD E sD;replace sD:Step M2 _ M2 wD (fun k=>vk.ownBlock=some k):=sD;refine ix (vs:=[.int .i64 (dy (-1) (l.take i)).length,.int .i64 (b8 (-1) (l.take i)),.int .i64 (b8 (-1) (l.take (i+((l.drop i).take 8).length))),.int .i64 ((l.drop i).take 8).length]) jX rfl uN rfl rfl rfl (sD.bJ Sm (fun hb=>Uh _ hb rfl)) ?_;exact ad ⟨rfl,rfl,_,rfl,rfl,an _ _⟩
       refine aG ?_ ?_
       ·intro wD E sD;replace sD:Step M2 _ M2 wD aA:=sD;refine ay ?_;refine eh (A:=RT.bl) (hn:=by decide) (M:=M2) dP uN (by decide) rfl rfl (sD.lt Pg.lt) (U9 (by omega) (by omega) (by omega) (by omega)) (.inl rfl) (fun uS wS hS sS=>?_);exact ad ⟨rfl,rfl,_,rfl,hS,sS⟩
       refine aG ?_ ?_
       ·intro wD E sD;replace sD:Step M2 _ M2 wD aA:=sD;refine ay ?_;intro v6 ot;refine cR (M:=M2) (base:=D+2) dP uN rfl rfl rfl rfl (JS.bh sD) (show((RT.bl).sl).V M2 wD [(((dy (-1) (l.take i)).length:Int),b8 (-1) (l.take i),b8 (-1) (l.take (i+((l.drop i).take 8).length)),(((l.drop i).take 8).length:Int))] v6 from ot) (ao _ _) (by simp[mO];omega) (by simp[mO];omega) (by have:=sD.size;omega) (fun v3 M3 w3 Ik s3=>?_);exact ad ⟨rfl,rfl,_,rfl,⟨M3,Ik,(sD.ca (fun _ h=>h.elim) JS.mut_).trans s3 (fun b _ hb=>hb)⟩,s3.back⟩
       refine aG ?_ ?_
       ·intro wD E sD;replace sD:Step M2 _ M2 wD (fun k=>vk.ownBlock=some k):=sD;refine ay (ay (ay (ay (ay (ay (ay ?_))))));intro v6 ot;intro v7 Bz;refine aU rfl ⟨_,rfl⟩ rfl ?_;exact ad ⟨rfl,rfl,_,rfl,rfl,an _ _⟩
       refine aG ?_ ?_
       ·intro wD E sD;replace sD:Step M2 _ M2 wD (fun k=>vk.ownBlock=some k):=sD;refine ay (ay (ay (ay (ay (ay (ay ?_))))));intro v6 ot;intro v7 Bz;refine aV dx rfl rfl Bd (by decide) rfl rfl ?_;exact ad ⟨rfl,rfl,_,rfl,rfl,an _ _⟩
       exact bI.nil
      ·intro Yz Sn;replace Sn:Step M2 _ M2 Yz (fun k=>vk.ownBlock=some k):=Sn;refine ay (ay (ay (ay (ay (ay ?_)))));intro acr YA;intro acs N1;refine ay (ay ?_);obtain⟨M3,Ik,sR⟩:=N1;obtain⟨⟨R2,hm3,agh⟩,H9⟩:=Pg.grow sR Ik;refine bS (M:=M3) Bd rfl rfl R2 rfl (by obtain⟨_,_,he,_⟩:=Ik.isSlice;rw[he];rfl) hm3 (fun w17 YB YC=>?_);refine ad ⟨rfl,?_⟩;have NK:=H9 YC YB;have h18:=NK.mT (st':= .loop (rec .ready none)) NK.r;have hE:i+((l.drop i).take 8).length=min (i+8) l.length:=by omega
       rw[hE,Fe (by omega) hi]at h18;exact⟨NK.r,true,rfl,fun _=>⟨M3,_,_,h18,by omega,by omega⟩,fun h=>by cases h⟩
  ·obtain⟨Mz,vb,vk,h,_,_⟩:=h3.resolve_right (fun h=>h);left;rw[List.take_length]at h;have h5:=h.mT (st':= .loop (rec .exhausted none)) h.r;refine⟨h.r,?_⟩;generalize w3.putObj (D+1) _=wE at h5 ⊢;refine aj (ah (aH cO rfl rfl rfl h5.o rfl (ai rfl rfl (ai rfl rfl (ad (aL ?_))))));obtain⟨q1,q2,q3,q4,q5,q6,q7,q8,q9,q10,q11,q12,q13,q14,q15,q16,q17,q18⟩:=h5.ne;have sZ:Step Mz wE Mz (wE.putObj D (.deferred none)) (fun k=>k=D):=dH h5.md;have SZ:=h5.S.cC sZ (fun k hk=>by subst hk;omega);have ht:=l4 l;refine L3 rfl rfl rfl h5.d ⟨SZ.back,fun _=>⟨_,rfl,?_⟩,fun hf=>by rw[pQ]at hf;cases hf⟩;exact PS (sZ.bJ h5.x (by omega)) (fun hh=>by have:=hM _ hh;omega) ((h5.hb.le sZ.le).le (Le.close hM SZ)) (Own.close hM SZ ((h5.hk.step sZ (fun k hk hh=>by have:=(h5.hk.base k hk).1;omega)).sy (by omega)) (by simp[mO];omega)) (by omega)
end Go.K
namespace Go.K
open Go.Proofs
namespace TKBldG
theorem jQ:TI Tryz.prog 107 (.slice none 0 0) 1 24:=by unfold TI;kernel_rfl
theorem BX:TI Tryz.prog 188 (.slice none 0 0) 1 24:=by unfold TI;kernel_rfl
theorem JT:Enters Tryz.prog 126:=enters Tryz.func126 rfl (by decide)
theorem YD:Enters Tryz.prog 175:=enters Tryz.func175 rfl (by decide)
end TKBldG
open TKBldG
set_option maxRecDepth 10000
theorem index_spec {M:aB} {l:List (List Po)} {v0:Value} {g:FuncId} {cap:List Value} {B:Nat} {J:Nat→aB→World→Prop} {bad:List Po→Bool} (w0:World) (hM:Lt M w0) (hv:(((RT.po).sl).sl).V M w0 l v0) (hg:Enters Tryz.prog g) (hJ:J 0 M w0) (iK:∀i M w M' w',J i M w→Step M w M' w' aA→J i M' w') (ht:∀i M w x vx,J i M w→Lt M w→l[i]? =some x→((RT.po).sl).V M w x vx→Spec Tryz.prog g ([vx]++cap).toArray w (fun v w'=>∃M',Lt M' w'∧v= .bool (bad x)∧(bad x=false→J (i+1) M' w')∧Step M w M' w' (jL M B))):
  Spec Tryz.prog 175 #[v0,.func (.func g) #[] cap.toArray] w0 (fun v w=>∃M' k,v= .int .i64 k∧ -1≤k∧Lt M' w∧Step M w0 M' w (jL M B)∧(k= -1→(∀x∈l,bad x=false)∧J l.length M' w)∧(0≤k→∃x∈l,bad x=true)):=by
 have hlen:=ei hv;refine aZ (args:=[_,_]) (fn:=Tryz.f175) Tryz.func175 rfl (n:=19) Tryz.ntmps175 ?_;have S:Step M w0 M w0 (jL M B):=(an _ _).ca (fun _ h=>h.elim) (fun _ h=>h.2);refine aj (ah (ai rfl rfl (ad (aj (aj (ah (ae rfl rfl (bM Tryz.underlying56 rfl hv rfl (ae rfl rfl (ad (aY ?_)))))))))));refine dr (σ:=Nat) (fun q=>[(0,v0),(1,.func (.func g) #[] cap.toArray),(6,v0),(7,.int .i64 (l.length:Int)),(8,.int .i64 (q:Int))]) (fun q w=>∃M',Lt M' w∧Step M w0 M' w (jL M B)∧(((RT.po).sl).sl).V M' w l v0∧J q M' w∧q≤l.length∧∀x∈l.take q,bad x=false) (fun q=>l.length-q) 0 (.cons rfl (.cons rfl (.cons rfl (.cons rfl (.cons rfl .nil))))) ?_ ?_
 ·exact⟨M,hM,S,hv,hJ,bB _,fun x h=>by simp at h⟩
 ·clear hM S hv hJ;rintro i w ⟨M1,hM,S,hv,hJ,hi,gS⟩;refine aj (ah (b4 rfl rfl rfl (ad (aj ?_))));refine bH rfl (fun c2=>?_) (fun c2=>?_)
  ·refine aS (aj (aY (aj (ah (ae rfl rfl (ai rfl rfl (ad (aj (ah (ae rfl rfl (ae rfl rfl ?_)))))))))));refine ae rfl rfl ?_;refine cK (M:=M1) Tryz.underlying56 jQ rfl rfl rfl hv (ao _ _) (by omega) (fun u x Bg hu=>?_);rw[aw]at Bg;refine bY (M:=M1) aX rfl rfl rfl rfl rfl hu (ao _ _) (fun vx tu=>?_);refine Rg.o9 (first:=[]) (captured:=cap) (xs:=[.tmp 15]) rfl rfl rfl hg (ht i _ _ x vx hJ hM Bg tu) (fun r4 w4 hc=>?_);obtain⟨M4,N4,rfl,Uk,s4⟩:=hc;refine bz (v':= .bool (decide (bad x=true))) (by simp) ?_;have S4:=S.trans s4 (fun k hk h=>⟨h.1,(S.mem k hk).1 h.2⟩);refine ad ?_;refine bH rfl (fun c4=>?_) (fun c4=>?_)
   ·refine aj (ah (ae rfl rfl (ai rfl rfl (ad (aL ?_)))));exact aO rfl rfl ⟨M4,_,rfl,by omega,N4,S4,fun h=>absurd h (by omega),fun _=>⟨x,aI Bg,c4⟩⟩
   ·refine aS (ah (bu rfl rfl rfl (by omega) (ae rfl rfl (ad ?_))));refine⟨rfl,i+1,(.cons rfl (.cons rfl (.cons rfl (.cons rfl (.cons rfl .nil))))),?_,?_⟩
    ·have hb:bad x=false:=by simpa using c4
     exact⟨M4,N4,S4,hv.le s4.le,Uk hb,by omega,fun y hy=>by
      rw[bN,Bg,ck,cY,cw]at hy;rcases hy with hy|rfl
      ·exact gS y hy
      ·exact hb⟩
    ·omega
  ·refine cG (aj (ah (ai rfl rfl (ad (aL ?_)))));rw[aW (by omega)]at gS;have e:i=l.length:=by omega
   subst e;exact aO rfl rfl ⟨_,_,rfl,by omega,hM,S,fun _=>⟨gS,hJ⟩,fun h=>absurd h (by omega)⟩
theorem vu {M:aB} {l:List (List Po)} {v0:Value} {g:FuncId} {cap:List Value} {B:Nat} {J:Nat→aB→World→Prop} {bad:List Po→Bool} (w0:World) (hM:Lt M w0) (hv:(((RT.po).sl).sl).V M w0 l v0) (hg:Enters Tryz.prog g) (hJ:J 0 M w0) (iK:∀i M w M' w',J i M w→Step M w M' w' aA→J i M' w') (ht:∀i M w x vx,J i M w→Lt M w→l[i]? =some x→((RT.po).sl).V M w x vx→Spec Tryz.prog g ([vx]++cap).toArray w (fun v w'=>∃M',Lt M' w'∧v= .bool (bad x)∧(bad x=false→J (i+1) M' w')∧Step M w M' w' (jL M B))):
  Spec Tryz.prog 127 #[v0,.func (.func g) #[] cap.toArray] w0 (fun v w=>∃M' k,v= .bool (decide (0≤k))∧ -1≤k∧Lt M' w∧Step M w0 M' w (jL M B)∧(k= -1→(∀x∈l,bad x=false)∧J l.length M' w)∧(0≤k→∃x∈l,bad x=true)):=by
 refine aZ (args:=[_,_]) (fn:=Tryz.f127) Tryz.func127 rfl (n:=9) Tryz.ntmps127 (aj (ah (ai rfl rfl (ad (aj (ah (ae rfl rfl (ae rfl rfl ?_))))))));refine aQ rfl rfl YD (index_spec w0 hM hv hg hJ iK ht) (fun r w1 hc=>?_);obtain⟨M1,k,rfl,hk,h2⟩:=hc;refine dz rfl rfl rfl (ai rfl rfl (ad (aL ?_)));exact aO rfl rfl ⟨M1,k,rfl,hk,h2⟩
def An (x:List Po):Int:=match x.getLast? with|some p=>p.1|none=> -1
def la (n:Int) (x:List Po):Bool:= !dR (-1) x||x.isEmpty||decide (n≤An x)
theorem Ao {x:List Po} {p:Po} (h:x[x.length-1]? =some p):An x=p.1:=by
 unfold An;rw[List.getLast?_eq_getElem?,h]
structure Room (x:List Po):Prop where
 ps:∀p∈x,p.2.length≤1099511627776
 by_:(dy (-1) x).length≤35184372088832
 ln:x.length≤1099511627776
 tot:gA x≤4611686018427387904
def RT.cell:RT Value where
 n:=1
 agg:=false
 R:=fun _ _ x vs=>vs=[x]∧x.oneCell'=true
 len:=by rintro _ _ x vs ⟨rfl,_⟩;rfl
 one:=by rintro _ _ x vs ⟨rfl,h⟩ v hv;simp at hv;subst hv;exact h
 le:=fun _ h=>h
theorem JU {M:aB} {w:World} {v:Value} (h:v.oneCell'=true):RT.cell.V M w v v:=⟨[v],⟨rfl,h⟩,rfl⟩
theorem eA.cells {α:Type} {A:RT α} (hA:A.n=1) {M:aB} {w:World}:∀{xs:List α} {C:List Value},eA A M w xs C→∃ys:List Value,eA RT.cell M w ys C∧ys.length=xs.length
 |[],C,h=>⟨[],h,rfl⟩
 |x::xs,C,h=>by
  obtain⟨vs,r,h1,h2,h3⟩:=h;obtain⟨ys,h4,h5⟩:=eA.cells hA h3;have hl:=A.len h2
  match vs,hl,h1,h2 with
  |[v],_,h1,h2=>exact⟨v::ys,⟨[v],r,h1,⟨rfl,A.one h2 v (by simp)⟩,h4⟩,by simp[h5]⟩
  |[],hl,_,_=>simp at hl;omega
  |_::_::_,hl,_,_=>simp at hl;omega
theorem Own.cells {α:Type} {A:RT α} (hA:A.n=1) {e:TypeId} {M:aB} {w:World} {base:Nat} {v:Value} {xs:List α} (h:Own A e M w base v xs):∃ys:List Value,Own RT.cell e M w base v ys∧ys.length=xs.length:=by
 obtain⟨⟨C,hr,ha⟩,hm⟩:=h;obtain⟨ys,h1,h2⟩:=ha.cells hA;exact⟨ys,⟨⟨C,by rw[h2,show RT.cell.n=A.n from hA.symm];exact hr,h1⟩,hm⟩,h2⟩
def vv (bl bn:Nat) (n:Int) (ls:List (List Po)) (B:Nat) (i:Nat) (M:aB) (w:World):Prop:=∃vl,w.heap[bl]? =some (.cells #[vl] 188 (0,0))∧M bl∧B≤bl∧w.heap[bn]? =some (.cells #[.int .i64 n] 3 (0,0))∧M bn∧Own ((RT.li).ptr) 129 M w B vl ((ls.take i).map hU)
theorem vv.bh {bl bn:Nat} {n:Int} {ls:List (List Po)} {B i:Nat} {M M':aB} {w w':World} (h:vv bl bn n ls B i M w) (s:Step M w M' w' aA):vv bl bn n ls B i M' w':=by
 obtain⟨vl,h1,h2,h3,h4,h5,h6⟩:=h;exact⟨vl,s.aM h1,(s.mem _ (ak h1)).2 h2,h3,s.aM h4,(s.mem _ (ak h4)).2 h5,h6.bh s⟩
theorem N5 {M:aB} {bl bn B i:Nat} {n:Int} {ls:List (List Po)} {x:List Po} {v0:Value} (w0:World) (hM:Lt M w0) (hB:B≤w0.heap.size) (hJ:vv bl bn n ls B i M w0) (hx:ls[i]? =some x) (hv:((RT.po).sl).V M w0 x v0) (hr:Room x) (mN:i≤1000000000) (hm:dR (-1) x=true):
  Spec Tryz.prog 125 #[v0,.pointer (some ⟨bl,0,none⟩),.pointer (some ⟨bn,0,none⟩)] w0 (fun v w=>∃M',Lt M' w∧v= .bool (la n x)∧(la n x=false→vv bl bn n ls B (i+1) M' w)∧Step M w0 M' w (jL M B)):=by
 have hlen:=ei hv;obtain⟨vl,gl,je,YE,gn,ky,ho⟩:=hJ;have nln:bl≠bn:=fun h=>by rw[h,gn]at gl;simp at gl
 refine aZ (args:=[_,_,_]) (fn:=Tryz.f125) Tryz.func125 rfl (n:=34) Tryz.ntmps125 ?_;have S:Step M w0 M w0 (jL M B):=(an _ _).ca (fun _ h=>h.elim) (fun _ h=>h.2);refine aj (ah (ai rfl rfl (ad (aj (ah (ae rfl rfl ?_))))));refine aQ rfl rfl JT (qB hM hv hr.ps hr.by_ hr.ln hr.tot) (fun r1 w1 hc=>?_);obtain⟨s1,eO,gS⟩:=hc;obtain⟨p,rfl,hp⟩:=eO hm;have:=ak gl;replace je:=(s1.mem _ this).2 je;replace gl:=s1.aM gl;have:=ak gn;replace ky:=(s1.mem _ this).2 ky;replace gn:=s1.aM gn;replace hv:=hv.le s1.le;replace ho:=ho.bh s1;replace hM:=s1.lt hM;have:=S.size;replace S:=S.ax s1;refine ae rfl rfl (bU rfl rfl rfl (bU rfl rfl rfl (ai rfl rfl (ai rfl rfl (ad (aj (ah (aH dO rfl rfl rfl gl rfl (bz (v':=vl) rfl (ae rfl rfl ?_))))))))));refine eh (A:=((RT.li).ptr)) (hn:=by decide) (M:=M) dO oN (by decide) rfl rfl hM (CZ.2 hp) (.inr ⟨rfl,rfl⟩) (fun YF Sq kz mW=>?_);have:=ak gl;replace je:=(mW.mem _ this).2 je;replace gl:=mW.aM gl;have:=ak gn;replace ky:=(mW.mem _ this).2 ky;replace gn:=mW.aM gn;replace hv:=hv.le mW.le;replace hp:=hp.le (by decide) mW.le;replace ho:=ho.bh mW;replace hM:=mW.lt hM;have:=S.size;replace S:=S.ax mW;refine cR (M:=M) (base:=B) dO oN rfl rfl rfl rfl ho kz (ao _ _) (by simp;omega) (by simp;omega) (by have:=S.size;omega) (fun N6 Ap YG Hh mX=>?_);have:=ak gl;replace je:=(mX.mem _ this).2 je;replace gl:=mX.bJ gl (fun h=>by first|exact ho.dE gl h|exact ho.eR gl (by decide) h|(have:=(ho.base _ h).1;omega));have:=ak gn;replace ky:=(mX.mem _ this).2 ky;replace gn:=mX.bJ gn (fun h=>by first|exact ho.dE gn h|exact ho.eR gn (by decide) h|(have:=(ho.base _ h).1;omega));replace hv:=hv.le mX.le;replace hp:=hp.le (by decide) mX.le
 replace kz:=kz.le mX.le;replace hM:=mX.lt hM;have:=S.size;replace S:=S.trans mX (fun k hk h=>⟨(ho.base k h).1,(S.mem k hk).1 (ho.mut_ k h)⟩);replace ho:=Hh;refine bS (M:=Ap) BX rfl rfl gl rfl (by obtain⟨_,_,he,_⟩:=ho.isSlice;rw[he];rfl) je (fun N7 Hi lN=>?_);change N7.heap[_]? =some (Obj.cells #[N6] _ _)at Hi;have:=ak gl;replace je:=(lN.mem _ this).2 je;have:=ak gn;replace ky:=(lN.mem _ this).2 ky;replace gn:=lN.bJ gn (fun hk=>by have hk:_=_:=hk;omega);replace hv:=hv.le lN.le;replace hp:=hp.le (by decide) lN.le;replace kz:=kz.le lN.le;replace ho:=ho.step lN (fun c hc (h:c=bl)=>ho.eR gl (by decide) (h▸hc));replace hM:=lN.lt hM;have:=S.size;replace S:=S.trans lN (fun k hk h=>by have h:_=_:=h;subst h;first|(exfalso;omega)|(show _≤_;omega)|exact⟨by first|omega|assumption,(S.mem _ hk).1 ((lN.mem _ (ak gl)).1 je)⟩|exact .inl rfl|exact .inr rfl|exact .inr (.inl rfl)|exact .inr (.inr rfl)|exact rfl);have Sr:=Hi;clear gl;have gl:=Sr;clear Sr;refine ad (aj ?_);apply T.j7 mixed rfl rfl;intro Qu Qv;have mP:=Qv Ap;have:=ak gl;replace je:=(mP.mem _ this).2 je;replace gl:=mP.aM gl;have:=ak gn;replace ky:=(mP.mem _ this).2 ky;replace gn:=mP.aM gn;replace hv:=hv.le mP.le;replace hp:=hp.le (by decide) mP.le;replace kz:=kz.le mP.le;replace ho:=ho.bh mP;replace hM:=mP.lt hM;have:=S.size;replace S:=S.ax mP;refine ae rfl rfl ?_;refine ad ⟨rfl,rfl,rfl,?_⟩;refine eW rfl rfl rfl ?_;refine ad ⟨rfl,rfl,rfl,?_⟩;refine ae rfl rfl ?_;refine ad ⟨rfl,rfl,rfl,?_⟩;refine Rg.EN (g:=18) rfl ((by decide)) (al rfl rfl (ae rfl rfl ?_));refine ad ⟨rfl,rfl,rfl,?_⟩;refine al rfl rfl (bM aX rfl hv rfl ?_);refine ad ⟨rfl,rfl,rfl,?_⟩;refine al rfl rfl (Rg.AZ rfl rfl rfl ?_);refine ad ⟨rfl,rfl,rfl,?_⟩;refine az rfl rfl rfl ?_;refine ad ⟨rfl,rfl,rfl,?_⟩
 refine ae rfl rfl ?_;refine ad ⟨rfl,rfl,rfl,?_⟩;refine aJ (g:=23) rfl (fun N8=>?_) (fun N8=>?_)
 ·refine aq rfl rfl rfl rfl ?_;refine ad ⟨rfl,rfl,rfl,?_⟩;refine aq rfl rfl rfl rfl ?_;refine ad ⟨rfl,rfl,rfl,?_⟩;refine aq rfl rfl rfl rfl ?_;refine ad ⟨rfl,rfl,rfl,?_⟩;refine aq rfl rfl rfl rfl ?_;refine ad ⟨rfl,rfl,rfl,?_⟩;refine aq rfl rfl rfl rfl ?_;refine ad ⟨rfl,rfl,rfl,?_⟩;refine aq rfl rfl rfl rfl ?_;refine ad ⟨rfl,rfl,rfl,?_⟩;refine aq rfl rfl rfl rfl ?_;refine ad ⟨rfl,rfl,rfl,?_⟩;refine aq rfl rfl rfl rfl ?_;refine ad ⟨rfl,rfl,rfl,?_⟩;refine aq rfl rfl rfl rfl ?_;refine ad ⟨rfl,rfl,rfl,?_⟩;refine aR rfl rfl rfl ?_;refine ad ⟨rfl,rfl,rfl,?_⟩;refine ai rfl rfl ?_;refine ad ⟨rfl,rfl,rfl,?_⟩;refine fa (aL ?_)
  first
  |(have D8:la n x=true:=by
     have:x=[]:=gm.1 (by omega);simp[la,this]
    rw[D8];exact aO rfl rfl ⟨_,hM,rfl,(fun h=>by cases h),S⟩)
  |(have eI:x.isEmpty=false:=by cases x with
     |nil=>simp at N8
     |cons a t=>rfl
    have YH:la n x=decide (n≤q.1):=by unfold la;rw[hm,eI,Ao hq];rfl
    rw[YH];exact aO rfl rfl ⟨_,hM,rfl,fun _=>⟨_,gl,je,YE,gn,ky,by rw[bN,hx,ck,eL];exact ho⟩,S⟩)
 ·refine al rfl rfl (ae rfl rfl ?_);refine ad ⟨rfl,rfl,rfl,?_⟩;refine al rfl rfl (ae rfl rfl ?_);refine ad ⟨rfl,rfl,rfl,?_⟩;refine al rfl rfl (bM aX rfl hv rfl ?_);refine ad ⟨rfl,rfl,rfl,?_⟩;refine al rfl rfl (gN rfl rfl rfl (by omega) ?_);refine ad ⟨rfl,rfl,rfl,?_⟩;refine al rfl rfl ?_;obtain⟨q,hq⟩:∃q,x[x.length-1]? =some q:=⟨_,aD (by omega)⟩;refine cK (M:=Ap) aX gD rfl rfl rfl hv (ao _ _) (by omega) (fun u3 a Nb O4=>?_);obtain rfl:q=a:=bp (hq.symm.trans (by rw[show((x.length:Int)-1).toNat=x.length-1 from by omega]at Nb;exact Nb));refine ad ⟨rfl,rfl,rfl,?_⟩;refine al rfl rfl ?_;refine aF (M:=Ap) (A:=RT.po) (B:=RT.int .i64) bL rfl rfl I3 (by decide) (Ic) rfl rfl (by decide) (by assumption) (by repeat (first|exact ao _ _|refine aT (bj (by assumption)) ?_)) (fun acv YI=>?_);refine ad ⟨rfl,rfl,rfl,?_⟩;refine al rfl rfl ?_;refine bV (M:=Ap) ar rfl rfl (by assumption) (by repeat (first|exact ao _ _|refine aT (bj (by assumption)) ?_)) (fun Hj=>?_);refine bz (v':= .int .i64 (q.1)) rfl ?_;replace Hj: -9223372036854775808≤(q.1:Int)∧q.1≤9223372036854775807:=Hj;refine ad ⟨rfl,rfl,rfl,?_⟩;refine al rfl rfl (aH ar rfl rfl rfl gn rfl (bz (v':= .int .i64 n) rfl ?_));refine ad ⟨rfl,rfl,rfl,?_⟩;refine al rfl rfl (dz rfl rfl rfl ?_);refine ad ⟨rfl,rfl,rfl,?_⟩;refine az rfl rfl rfl ?_;refine ad ⟨rfl,rfl,rfl,?_⟩;refine ai rfl rfl ?_;refine ad ⟨rfl,rfl,rfl,?_⟩;refine fa (aL ?_)
  first
  |(have D8:la n x=true:=by
     have:x=[]:=gm.1 (by omega);simp[la,this]
    rw[D8];exact aO rfl rfl ⟨_,hM,rfl,(fun h=>by cases h),S⟩)
  |(have eI:x.isEmpty=false:=by cases x with
     |nil=>simp at N8
     |cons a t=>rfl
    have YH:la n x=decide (n≤q.1):=by unfold la;rw[hm,eI,Ao hq];rfl
    rw[YH];exact aO rfl rfl ⟨_,hM,rfl,fun _=>⟨_,gl,je,YE,gn,ky,by rw[bN,hx,ck,eL];exact ho⟩,S⟩)
theorem JV {M:aB} {bl bn B i:Nat} {n:Int} {ls:List (List Po)} {x:List Po} {v0:Value} (w0:World) (hM:Lt M w0) (hB:B≤w0.heap.size) (hJ:vv bl bn n ls B i M w0) (hx:ls[i]? =some x) (hv:((RT.po).sl).V M w0 x v0) (hr:Room x) (mN:i≤1000000000) (hm:dR (-1) x=false):
  Spec Tryz.prog 125 #[v0,.pointer (some ⟨bl,0,none⟩),.pointer (some ⟨bn,0,none⟩)] w0 (fun v w=>∃M',Lt M' w∧v= .bool (la n x)∧(la n x=false→vv bl bn n ls B (i+1) M' w)∧Step M w0 M' w (jL M B)):=by
 have hlen:=ei hv;obtain⟨vl,gl,je,YE,gn,ky,ho0⟩:=hJ;have nln:bl≠bn:=fun h=>by rw[h,gn]at gl;simp at gl
 obtain⟨ys,ho,OR⟩:=ho0.cells rfl;rw[ch,bG]at OR;clear ho0;refine aZ (args:=[_,_,_]) (fn:=Tryz.f125) Tryz.func125 rfl (n:=34) Tryz.ntmps125 ?_;have S:Step M w0 M w0 (jL M B):=(an _ _).ca (fun _ h=>h.elim) (fun _ h=>h.2);refine aj (ah (ai rfl rfl (ad (aj (ah (ae rfl rfl ?_))))));refine aQ rfl rfl JT (qB hM hv hr.ps hr.by_ hr.ln hr.tot) (fun r1 w1 hc=>?_);obtain⟨s1,eO,gS⟩:=hc;obtain rfl:=gS hm;have:=ak gl;replace je:=(s1.mem _ this).2 je;replace gl:=s1.aM gl;have:=ak gn;replace ky:=(s1.mem _ this).2 ky;replace gn:=s1.aM gn;replace hv:=hv.le s1.le;replace ho:=ho.bh s1;replace hM:=s1.lt hM;have:=S.size;replace S:=S.ax s1;refine ae rfl rfl (bU rfl rfl rfl (bU rfl rfl rfl (ai rfl rfl (ai rfl rfl (ad (aj (ah (aH dO rfl rfl rfl gl rfl (bz (v':=vl) rfl (ae rfl rfl ?_))))))))));refine eh (A:=RT.cell) (hn:=by decide) (M:=M) dO oN (by decide) rfl rfl hM (JU (v:= .pointer none) rfl) (.inr ⟨rfl,rfl⟩) (fun YF Sq kz mW=>?_);have:=ak gl;replace je:=(mW.mem _ this).2 je;replace gl:=mW.aM gl;have:=ak gn;replace ky:=(mW.mem _ this).2 ky;replace gn:=mW.aM gn;replace hv:=hv.le mW.le;replace ho:=ho.bh mW;replace hM:=mW.lt hM;have:=S.size;replace S:=S.ax mW;refine cR (M:=M) (base:=B) dO oN rfl rfl rfl rfl ho kz (ao _ _) (by simp;omega) (by simp;omega) (by have:=S.size;omega) (fun N6 Ap YG Hh mX=>?_);have:=ak gl;replace je:=(mX.mem _ this).2 je;replace gl:=mX.bJ gl (fun h=>by first|exact ho.dE gl h|exact ho.eR gl (by decide) h|(have:=(ho.base _ h).1;omega));have:=ak gn;replace ky:=(mX.mem _ this).2 ky;replace gn:=mX.bJ gn (fun h=>by first|exact ho.dE gn h|exact ho.eR gn (by decide) h|(have:=(ho.base _ h).1;omega))
 replace hv:=hv.le mX.le;replace kz:=kz.le mX.le;replace hM:=mX.lt hM;have:=S.size;replace S:=S.trans mX (fun k hk h=>⟨(ho.base k h).1,(S.mem k hk).1 (ho.mut_ k h)⟩);replace ho:=Hh;refine bS (M:=Ap) BX rfl rfl gl rfl (by obtain⟨_,_,he,_⟩:=ho.isSlice;rw[he];rfl) je (fun N7 Hi lN=>?_);change N7.heap[_]? =some (Obj.cells #[N6] _ _)at Hi;have:=ak gl;replace je:=(lN.mem _ this).2 je;have:=ak gn;replace ky:=(lN.mem _ this).2 ky;replace gn:=lN.bJ gn (fun hk=>by have hk:_=_:=hk;omega);replace hv:=hv.le lN.le;replace kz:=kz.le lN.le;replace ho:=ho.step lN (fun c hc (h:c=bl)=>ho.eR gl (by decide) (h▸hc));replace hM:=lN.lt hM;have:=S.size;replace S:=S.trans lN (fun k hk h=>by have h:_=_:=h;subst h;first|(exfalso;omega)|(show _≤_;omega)|exact⟨by first|omega|assumption,(S.mem _ hk).1 ((lN.mem _ (ak gl)).1 je)⟩|exact .inl rfl|exact .inr rfl|exact .inr (.inl rfl)|exact .inr (.inr rfl)|exact rfl);have Sr:=Hi;clear gl;have gl:=Sr;clear Sr;refine ad (aj ?_);apply T.j7 mixed rfl rfl;intro Qu Qv;have mP:=Qv Ap;have:=ak gl;replace je:=(mP.mem _ this).2 je;replace gl:=mP.aM gl;have:=ak gn;replace ky:=(mP.mem _ this).2 ky;replace gn:=mP.aM gn;replace hv:=hv.le mP.le;replace kz:=kz.le mP.le;replace ho:=ho.bh mP;replace hM:=mP.lt hM;have:=S.size;replace S:=S.ax mP;refine ae rfl rfl ?_;refine ad ⟨rfl,rfl,rfl,?_⟩;refine eW rfl rfl rfl ?_;refine ad ⟨rfl,rfl,rfl,?_⟩;refine ae rfl rfl ?_;refine ad ⟨rfl,rfl,rfl,?_⟩;refine Rg.Km (g:=18) rfl ((by decide)) (aq rfl rfl rfl rfl ?_);refine ad ⟨rfl,rfl,rfl,?_⟩;refine aq rfl rfl rfl rfl ?_;refine ad ⟨rfl,rfl,rfl,?_⟩;refine aq rfl rfl rfl rfl ?_;refine ad ⟨rfl,rfl,rfl,?_⟩;refine aR rfl rfl rfl ?_;refine ad ⟨rfl,rfl,rfl,?_⟩;refine ae rfl rfl ?_;refine ad ⟨rfl,rfl,rfl,?_⟩;refine aq rfl rfl rfl rfl ?_;refine ad ⟨rfl,rfl,rfl,?_⟩
 refine aq rfl rfl rfl rfl ?_;refine ad ⟨rfl,rfl,rfl,?_⟩;refine aq rfl rfl rfl rfl ?_;refine ad ⟨rfl,rfl,rfl,?_⟩;refine aq rfl rfl rfl rfl ?_;refine ad ⟨rfl,rfl,rfl,?_⟩;refine aq rfl rfl rfl rfl ?_;refine ad ⟨rfl,rfl,rfl,?_⟩;refine aq rfl rfl rfl rfl ?_;refine ad ⟨rfl,rfl,rfl,?_⟩;refine aq rfl rfl rfl rfl ?_;refine ad ⟨rfl,rfl,rfl,?_⟩;refine aq rfl rfl rfl rfl ?_;refine ad ⟨rfl,rfl,rfl,?_⟩;refine aq rfl rfl rfl rfl ?_;refine ad ⟨rfl,rfl,rfl,?_⟩;refine aR rfl rfl rfl ?_;refine ad ⟨rfl,rfl,rfl,?_⟩;refine ai rfl rfl ?_;refine ad ⟨rfl,rfl,rfl,?_⟩;refine fa (aL ?_);have D8:la n x=true:=by simp[la,hm]
 rw[D8];exact aO rfl rfl ⟨_,hM,rfl,(fun h=>by cases h),S⟩
theorem Hk {M:aB} {bl bn B i:Nat} {n:Int} {ls:List (List Po)} {x:List Po} {v0:Value} (w0:World) (hM:Lt M w0) (hB:B≤w0.heap.size) (hJ:vv bl bn n ls B i M w0) (hx:ls[i]? =some x) (hv:((RT.po).sl).V M w0 x v0) (hr:Room x) (mN:i≤1000000000):
  Spec Tryz.prog 125 #[v0,.pointer (some ⟨bl,0,none⟩),.pointer (some ⟨bn,0,none⟩)] w0 (fun v w=>∃M',Lt M' w∧v= .bool (la n x)∧(la n x=false→vv bl bn n ls B (i+1) M' w)∧Step M w0 M' w (jL M B)):=by
 cases hm:dR (-1) x with
 |true=>exact N5 w0 hM hB hJ hx hv hr mN hm
 |false=>exact JV w0 hM hB hJ hx hv hr mN hm
end Go.K
namespace Go.K
open Go.Proofs
namespace TKBldH
theorem Ph:TI Tryz.prog 56 (.slice none 0 0) 1 24:=by unfold TI;kernel_rfl
theorem Ul:TI Tryz.prog 58 (.agg #[(.slice none 0 0),(.slice none 0 0),(.slice none 0 0),(.slice none 0 0)]) 4 96:=by unfold TI;kernel_rfl
theorem YJ:TI Tryz.prog 125 (.agg #[(.slice none 0 0),(.slice none 0 0),(.pointer none)]) 3 56:=by unfold TI;kernel_rfl
theorem BX:TI Tryz.prog 188 (.slice none 0 0) 1 24:=by unfold TI;kernel_rfl
theorem YK:placesOf Tryz.prog 125=[(0,1),(1,1),(2,1)].map some:=by kernel_rfl
theorem Ud:Enters Tryz.prog 63:=enters Tryz.func63 rfl (by decide)
theorem E76:Enters Tryz.prog 76:=enters Tryz.func76 rfl (by decide)
theorem YL:Enters Tryz.prog 124:=enters Tryz.func124 rfl (by decide)
theorem YM:Enters Tryz.prog 125:=enters Tryz.func125 rfl (by decide)
theorem YN:Enters Tryz.prog 127:=enters Tryz.func127 rfl (by decide)
theorem YO:Enters Tryz.prog 128:=enters Tryz.func128 rfl (by decide)
end TKBldH
open TKBldH
set_option maxRecDepth 10000
def uE (p:Pa):Bool:=decide (p.1.length=p.2.1.length)&&ey (-1) p.2.1&&p.2.2.2.all (fun x=> !la (p.1.length:Int) x)&&decide (p.2.2.1.length=p.2.2.2.length)&&Af none p.2.2.1
def rS (p:Pa):Se:=(p.1,p.2.1,p.2.2.1,p.2.2.2.map hU)
structure Hl (p:Pa):Prop where
 a:p.1.length≤1000000000
 b:p.2.1.length≤1000000000
 c:p.2.2.1.length≤1000000000
 d:p.2.2.2.length≤1000000000
 e:∀x∈p.2.2.2,Room x
theorem BY {M:aB} {p:Pa} {v0:Value} (w0:World) (hM:Lt M w0) (hv:RT.pa.V M w0 p v0) (hR:Hl p):
  Spec Tryz.prog 76 #[v0] w0 (fun v w=>Step M w0 M w aA∧(uE p=true→cp RT.se M w v (rS p))∧(uE p=false→v= .pointer none)):=by
 have iL:=hM;obtain⟨hRa,hRb,hRc,hRd,hRe⟩:=hR;refine aZ (args:=[_]) (fn:=Tryz.f76) Tryz.func76 rfl (n:=45) Tryz.ntmps76 ?_;have S:Step M w0 M w0 aA:=(an _ _).ca (fun _ h=>h.elim) (fun _ h=>h.elim);refine aj (ah ?_);refine gx (A:=RT.pa) rfl rfl hM hv rfl (fun u0 w1 cv s0 _=>?_);replace hM:=s0.lt hM;have:=S.size;replace S:=S.ax s0;refine ai rfl rfl (ad (aj (ah ?_)));refine aF (M:=M) (A:=RT.pa) (B:=(RT.int .i64).sl) cH rfl rfl nY (by decide) (pa0) rfl rfl (by decide) (by assumption) (by repeat (first|exact ao _ _|refine aT (bj (by assumption)) ?_)) (fun uP jI=>?_);refine bY (M:=M) au rfl rfl rfl rfl rfl (by assumption) (by repeat (first|exact ao _ _|refine aT (bj (by assumption)) ?_)) (fun uQ kQ=>?_);replace kQ:((RT.int .i64).sl).V M _ p.1 uQ:=kQ;refine bM au rfl kQ rfl ?_;refine fh M I3 rfl (fun jO xQ QY QZ gu s1_3=>?_);obtain⟨jt,nE⟩:∃M',M'=ins M jO:=⟨_,rfl⟩;rw[←nE]at s1_3;have fq:jt jO:=by rw[nE];exact .inl rfl
 change xQ.heap[jO]? =some (.cells #[.int .i64 0] _ _)at gu;replace cv:=cv.le (by decide) s1_3.le;replace hM:=s1_3.lt hM;have:=S.size;replace S:=S.ax s1_3;refine bS (M:=jt) I3 rfl rfl gu rfl (rfl) fq (fun I2 BZ hY=>?_);change I2.heap[_]? =some (Obj.cells #[.int .i64 (p.1.length:Int)] _ _)at BZ;have:=ak gu;replace fq:=(hY.mem _ this).2 fq;replace cv:=cv.le (by decide) hY.le;replace hM:=hY.lt hM;have:=S.size;replace S:=S.trans hY (fun k hk h=>by have h:_=_:=h;subst h;first|(exfalso;omega)|(show _≤_;omega)|exact⟨by first|omega|assumption,(S.mem _ hk).1 ((hY.mem _ (ak gu)).1 fq)⟩|exact .inl rfl|exact .inr rfl|exact .inr (.inl rfl)|exact .inr (.inr rfl)|exact rfl);have qV:=BZ;clear gu;have gu:=qV;clear qV;refine ad (aj (aj (ah ?_)));refine aF (M:=jt) (A:=RT.pa) (B:=(RT.int .i64).sl) cH rfl rfl nY (by decide) (W4) rfl rfl (by decide) (by assumption) (by repeat (first|exact ao _ _|refine aT (bj (by assumption)) ?_)) (fun agm acx=>?_);refine bY (M:=jt) au rfl rfl rfl rfl rfl (by assumption) (by repeat (first|exact ao _ _|refine aT (bj (by assumption)) ?_)) (fun YP Hm=>?_);replace Hm:((RT.int .i64).sl).V jt _ p.2.1 YP:=Hm;refine bM au rfl Hm rfl (aH ar rfl rfl rfl gu rfl (bz (v':= .int .i64 (p.1.length:Int)) rfl (eW rfl rfl rfl (ae rfl rfl ?_))));refine aJ (g:=16) rfl (fun YQ=>?_) (fun YQ=>?_)
 ·refine aq rfl rfl rfl rfl (aq rfl rfl rfl rfl (aq rfl rfl rfl rfl (aq rfl rfl rfl rfl (aR rfl rfl rfl (ad (lT rfl (aj (ah (ai rfl rfl (ad (aL ?_)))))))))))
  have eb:uE p=false:=by
   unfold uE
   first
   |(rw[decide_eq_false (show¬p.1.length=p.2.1.length by omega)];simp;done)
   |(simp[c2];done)
  exact aO rfl rfl ⟨S.back,fun h=>by(rw[eb]at h;cases h),fun _=>rfl⟩
 ·have Pd:p.1.length=p.2.1.length:=by omega
  refine al rfl rfl ?_;refine aF (M:=jt) (A:=RT.pa) (B:=(RT.int .i64).sl) cH rfl rfl nY (by decide) (W4) rfl rfl (by decide) (by assumption) (by repeat (first|exact ao _ _|refine aT (bj (by assumption)) ?_)) (fun agn acy=>?_);refine al rfl rfl ?_;refine bY (M:=jt) au rfl rfl rfl rfl rfl (by assumption) (by repeat (first|exact ao _ _|refine aT (bj (by assumption)) ?_)) (fun YR Hn=>?_);replace Hn:((RT.int .i64).sl).V jt _ p.2.1 YR:=Hn;refine al rfl rfl ?_;refine aQ rfl rfl YL (D5 _ Hn) (fun r wc hc=>?_);obtain⟨rfl,rfl⟩:=hc;refine al rfl rfl (rq rfl rfl (bz (v':= .bool (decide (¬ey (-1) p.2.1=true))) (by simp) (az rfl rfl rfl (ad ?_))));refine bH rfl (fun c2=>?_) (fun c2=>?_)
  ·refine aj (ah (ai rfl rfl (ad (aL ?_))))
   have eb:uE p=false:=by
    unfold uE
    first
    |(rw[decide_eq_false (show¬p.1.length=p.2.1.length by omega)];simp;done)
    |(simp[c2];done)
   exact aO rfl rfl ⟨S.back,fun h=>by(rw[eb]at h;cases h),fun _=>rfl⟩
  ·have er:ey (-1) p.2.1=true:=dY.1 c2;refine aS (aj (ah ?_));refine fh jt BX rfl (fun Ho FG ago agp zj jC=>?_);obtain⟨C7,Hp⟩:∃M',M'=ins jt Ho:=⟨_,rfl⟩;rw[←Hp]at jC;have N9:C7 Ho:=by rw[Hp];exact .inl rfl
   change FG.heap[Ho]? =some (.cells #[.slice none 0 0] _ _)at zj;have:=ak gu;replace fq:=(jC.mem _ this).2 fq;replace gu:=jC.aM gu;replace cv:=cv.le (by decide) jC.le;replace hM:=jC.lt hM;have:=S.size;replace S:=S.ax jC;refine ad (aj (ah (iw (xs:=[]) (ys:=[.tmp 4,.tmp 3]) rfl rfl rfl (ai rfl rfl (ad (aj (aj (ah ?_))))))));refine aF (M:=C7) (A:=RT.pa) (B:=((RT.po).sl).sl) cH rfl rfl Ph (by decide) (pa3) rfl rfl (by decide) (by assumption) (by repeat (first|exact ao _ _|refine aT (bj (by assumption)) ?_)) (fun Q1 FZ=>?_);refine bY (M:=C7) Tryz.underlying56 rfl rfl rfl rfl rfl (by assumption) (by repeat (first|exact ao _ _|refine aT (bj (by assumption)) ?_)) (fun MW tA=>?_);replace tA:(((RT.po).sl).sl).V C7 _ p.2.2.2 MW:=tA;refine ae rfl rfl ?_;refine aQ rfl rfl YN (vu (cap:=[.pointer (some ⟨Ho,0,none⟩),.pointer (some ⟨jO,0,none⟩)]) (B:=w0.heap.size) (J:=vv Ho jO (p.1.length:Int) p.2.2.2 w0.heap.size) (bad:=la (p.1.length:Int)) _ hM tA YM ⟨_,zj,N9,by omega,gu,fq,dK _ _ _ _ _⟩ (fun i M w M' w' h s=>h.bh s) (fun i M w x vx hJ hM hx tu=>Hk w hM (by obtain⟨_,h1,_,h2,_⟩:=hJ;have:=ak h1;omega) hJ hx tu (hRe x (aI hx)) (by have:=(av.1 hx).1;omega))) (fun r6 w6 hc=>?_);obtain⟨M6,k6,rfl,hk6,G8,s6,hk7,hk8⟩:=hc;replace cv:=cv.le (by decide) s6.le;replace S:=S.j0 s6 (a7 _);refine ad ?_;refine bH rfl (fun c6=>?_) (fun c6=>?_)
   ·obtain⟨x6,hx6,n4⟩:=hk8 c6
    have eb:uE p=false:=by
     unfold uE;have:p.2.2.2.all (fun x=> !la (p.1.length:Int) x)=false:=List.all_eq_false.2 ⟨x6,hx6,by simp[n4]⟩;simp[this]
    refine aj (ah (ai rfl rfl (ad (aL ?_))));exact aO rfl rfl ⟨S.back,fun h=>by(rw[eb]at h;cases h),fun _=>rfl⟩
   ·refine aS (aj (ah ?_));obtain⟨n4,⟨vl,gl,_,_,_,_,o5⟩⟩:=hk7 (by omega);rw[aW (a7 _)]at o5;have jH:(((RT.li).ptr).sl).V M w6 (p.2.2.2.map hU) vl:=o5.close iL S (by simp;omega);replace cv:cp RT.pa M w6 u0 p:=cv.le (by decide) (Le.close iL S);replace S:=S.back;replace hM:=S.lt iL;refine aF (M:=M) (A:=RT.pa) (B:=RT.str.sl) cH rfl rfl Ie (by decide) pa2 rfl rfl (by decide) cv (ao _ _) (fun agt acz=>?_);refine bY (M:=M) a8 rfl rfl rfl rfl rfl (by assumption) (by repeat (first|exact ao _ _|refine aT (bj (by assumption)) ?_)) (fun YS Hq=>?_);replace Hq:(RT.str.sl).V M _ p.2.2.1 YS:=Hq;refine aH dO rfl rfl rfl gl rfl (bz (v':=vl) rfl ?_);refine aQ rfl rfl YO (BR _ hM Hq jH (by omega) (by simp;omega)) (fun r8 w8 hc=>?_);obtain⟨pd,rfl,Il,s8⟩:=hc;replace cv:=cv.le (by decide) s8.le;replace jH:=jH.le s8.le;replace gl:=s8.aM gl;replace hM:=s8.lt hM;have:=S.size;replace S:=S.ax s8;refine ae rfl rfl (bU rfl rfl rfl (bU rfl rfl rfl (ai rfl rfl (ai rfl rfl (ad (aj (aj (ah (ae rfl rfl (eW rfl rfl rfl (ad ?_)))))))))));refine bH rfl (fun c9=>?_) (fun c9=>?_)
    ·have eb:uE p=false:=by
      by_cases h:uE p=true
      ·unfold uE at h;simp only[bD,decide_eq_true_eq]at h;exact absurd (by rw[if_pos ⟨by simp[h.1.2],h.2⟩]) c9
      ·simpa using h
     refine aj (ah (ai rfl rfl (ad (aL ?_))));exact aO rfl rfl ⟨S.back,fun h=>by(rw[eb]at h;cases h),fun _=>rfl⟩
    ·have e9:(p.2.2.1.length=(p.2.2.2.map hU).length∧Af none p.2.2.1=true):=by
      by_cases h:(p.2.2.1.length=(p.2.2.2.map hU).length∧Af none p.2.2.1=true)
      ·exact h
      ·exact absurd (by rw[if_neg h];decide) c9
     replace Il:=Il e9.1 e9.2;refine aS (aj ?_);apply T.Kz [0,1,3,4,6,2,5,7,8,9] 5 [2,3,4] 2 aA mixed
     ·simp+decide only[xu,rB,fj,List.map_nil,List.getD_cons_zero,List.getD_cons_succ,List.map_toArray,dN,rU,List.idxOf_cons,cond_true,cond_false,Nat.reduceBEq,Nat.reduceAdd,beq_self_eq_true];rfl
     ·rfl
     ·rfl
     ·rfl
     ·rfl
     ·rfl
     ·rfl
     intro JI Nv;have jF:=Nv M;replace cv:=cv.le (by decide) jF.le;replace jH:=jH.le jF.le;replace gl:=jF.aM gl;replace hM:=jF.lt hM;have:=S.size;replace S:=S.ax jF;refine aF (M:=M) (A:=RT.pa) (B:=(RT.int .i64).sl) cH rfl rfl nY (by decide) (pa0) rfl rfl (by decide) (by assumption) (by repeat (first|exact ao _ _|refine aT (bj (by assumption)) ?_)) (fun KT F2=>?_);refine ad ⟨rfl,rfl,rfl,?_⟩;refine bY (M:=M) au rfl rfl rfl rfl rfl (by assumption) (by repeat (first|exact ao _ _|refine aT (bj (by assumption)) ?_)) (fun Ss B0=>?_);replace B0:((RT.int .i64).sl).V M _ p.1 Ss:=B0;refine ad ⟨rfl,rfl,rfl,?_⟩;refine aF (M:=M) (A:=RT.pa) (B:=(RT.int .i64).sl) cH rfl rfl nY (by decide) (W4) rfl rfl (by decide) (by assumption) (by repeat (first|exact ao _ _|refine aT (bj (by assumption)) ?_)) (fun acA Oa=>?_);refine ad ⟨rfl,rfl,rfl,?_⟩;refine bY (M:=M) au rfl rfl rfl rfl rfl (by assumption) (by repeat (first|exact ao _ _|refine aT (bj (by assumption)) ?_)) (fun St mn=>?_);replace mn:((RT.int .i64).sl).V M _ p.2.1 St:=mn;refine ad ⟨rfl,rfl,rfl,?_⟩;refine ae rfl rfl ?_;refine ad ⟨rfl,rfl,rfl,?_⟩;refine fa ?_;obtain⟨bb,oo,cs,ee,fr,rfl,lz,_⟩:=Oa.float;refine⟨iM ⟨mA cH rfl nY (by decide),⟨gw rfl lz (fun h=>h),⟨jy,trivial⟩⟩⟩,?_⟩;have kp:=kG aA JI;refine aQ rfl rfl Ud (tM hM B0 (by omega)) (fun v5 w5 hc=>?_);obtain⟨ou,s5⟩:=hc;replace mn:=mn.le s5.le;replace Il:=(Il.le (by decide) jF.le).le (by decide) s5.le;replace cv:=cv.le (by decide) s5.le;replace jH:=jH.le s5.le;replace gl:=s5.aM gl;replace hM:=s5.lt hM;have:=S.size;replace S:=S.ax s5;refine(fun(kp:eB _ _ _)=>ad ⟨rfl,rfl,fun _=>kp,?_⟩) (by first|exact kp|exact kp.rA (by assumption)|exact kp.goN (by assumption)|exact kp.go (by assumption) (fun _ _ h=>by first|exact h|exact h.elim))
     refine aQ rfl rfl Ud (tM hM mn (by omega)) (fun v6 w6' hc=>?_);obtain⟨ot,Ln⟩:=hc;replace cv:=cv.le (by decide) Ln.le;replace jH:=jH.le Ln.le;replace ou:=ou.le Ln.le;replace mn:=mn.le Ln.le;replace Il:=Il.le (by decide) Ln.le;replace gl:=Ln.aM gl;replace hM:=Ln.lt hM;have:=S.size;replace S:=S.ax Ln;refine(fun(kp:eB _ _ _)=>ad ⟨rfl,rfl,fun _=>kp,?_⟩) (by first|exact kp|exact kp.rA (by assumption)|exact kp.goN (by assumption)|exact kp.go (by assumption) (fun _ _ h=>by first|exact h|exact h.elim));refine dU (places:=[(0,1),(1,1),(2,1)]) Tryz.underlying125 YJ YK rfl ⟨_,_,rfl,rfl,_,_,rfl,rfl,_,_,rfl,rfl,rfl⟩ (out:=[_,_,_]) ⟨0,[_],rfl,iB ou,by simp[Value.cells],1,[_],rfl,iB ot,by simp[Value.cells],2,[_],rfl,qA Il,by simp[Value.cells],rfl⟩ ?_;refine ad ⟨rfl,rfl,fun h=>absurd rfl h,?_⟩;refine gx (A:=RT.se) (a:=rS p) rfl rfl hM (W5 (x:=rS p) ou ot Il) rfl (fun u8 w8' Su JW _=>?_);replace cv:=cv.le (by decide) JW.le;replace jH:=jH.le JW.le;replace ou:=ou.le JW.le;replace mn:=mn.le JW.le;replace Il:=Il.le (by decide) JW.le;replace ot:=ot.le JW.le;replace gl:=JW.aM gl;replace hM:=JW.lt hM;have:=S.size;replace S:=S.ax JW;refine ad ⟨rfl,rfl,fun h=>absurd rfl h,?_⟩;refine ai rfl rfl ?_;refine ad ⟨rfl,rfl,fun h=>absurd rfl h,?_⟩;refine qG (aL ?_)
     have eb:uE p=true:=by
      unfold uE;rw[decide_eq_true Pd,er,e9.2,decide_eq_true (by simpa using e9.1),ep.2 (fun x hx=>by simp[n4 x hx])];rfl
     exact aO rfl rfl ⟨S.back,fun _=>Su,fun h=>by(rw[eb]at h;cases h)⟩
theorem B1 {M:aB} {p:Pa} {v0:Value} (w0:World) (hM:Lt M w0) (hv:RT.pa.V M w0 p v0) (hR:Hl p):
  Spec Tryz.prog 27 #[v0] w0 (fun v w=>Step M w0 M w aA∧(uE p=true→∃s,v= .tuple #[s,.int .i64 0]∧cp RT.se M w s (rS p))∧(uE p=false→v= .tuple #[.pointer none,.int .i64 1])):=by
 refine aZ (args:=[_]) (fn:=Tryz.f27) Tryz.func27 rfl (n:=10) Tryz.ntmps27 ?_;have S:Step M w0 M w0 aA:=(an _ _).ca (fun _ h=>h.elim) (fun _ h=>h.elim);refine aj (ah ?_);refine gx (A:=RT.pa) rfl rfl hM hv rfl (fun u0 w1 cv s0 _=>?_);replace hM:=s0.lt hM;have:=S.size;replace S:=S.ax s0;refine ai rfl rfl (ai rfl rfl (ad (aj (ah ?_))));refine b5 (M:=M) (A:=RT.pa) cH rfl Ul (by decide) rfl rfl rfl cv (ao _ _) (fun v1 k7=>?_);refine aQ rfl rfl E76 (BY _ hM k7 hR) (fun r1 w2 hc=>?_);obtain⟨s2,eO,gS⟩:=hc
 obtain⟨o1,Uc⟩:∃o,r1= .pointer o:=by
  cases h:uE p with
  |true=>obtain⟨b,o,_,h1,_⟩:=eO h;exact⟨_,h1⟩
  |false=>exact⟨none,gS h⟩
 subst Uc;replace cv:=cv.le (by decide) s2.le;replace hM:=s2.lt hM;have:=S.size;replace S:=S.ax s2;refine ai rfl rfl (ad (aj (aj (ah (ae rfl rfl (Rg.y4 Tryz.underlying25 rfl rfl rfl (ad ?_)))))));refine bH rfl (fun c2=>?_) (fun c2=>?_)
 ·refine aj (ah (ai rfl rfl (ai rfl rfl (ad (aL ?_)))))
  have eb:uE p=false:=by
   by_cases h:uE p=true
   ·obtain⟨b,o,_,h1,_⟩:=eO h;rw[c2]at h1;cases h1
   ·simpa using h
  exact eN rfl rfl rfl ⟨S.back,fun h=>by(rw[eb]at h;cases h),fun _=>rfl⟩
 ·refine aS (aj (ah (ae rfl rfl (ai rfl rfl (ai rfl rfl (ad (aL ?_)))))))
  have eb:uE p=true:=by
   by_cases h:uE p=true
   ·exact h
   ·have:=gS (by simpa using h);simp at this;exact absurd this c2
  exact eN rfl rfl rfl ⟨S.back,fun _=>⟨_,rfl,eO eb⟩,fun h=>by(rw[eb]at h;cases h)⟩
end Go.K
namespace Go.K
section
variable {P:Program} {r:Option Nat} {n:Nat} {L:Sl} {ds:List Deferred} {w:World} {K:Kt} {M:aB} {F:List (Nat×aB)}
def pS (l:List Oper) (m q d:Nat):Bool:=
 Nat.blt q m&&kO l [q] m ((l[m]?.map cb).getD [])&&iF l (m+1)&&
 ((List.range' m (l.length-m)).all fun j=>match l[j]? with
  |some o=>oJ o.op&&(!(asks l o).contains d||(cb o).contains q)
  |none=>true)
theorem rh {l:List Oper} {m q d:Nat} (h:pS l m q d=true):q<m∧kO l [q] m ((l[m]?.map cb).getD [])=true∧iF l (m+1)=true∧∀j o,m≤j→l[j]? =some o→oJ o.op=true∧(d∈asks l o→q∈cb o):=by
 simp only[pS,bD,Nat.blt_eq]at h;obtain⟨⟨⟨h1,h2⟩,h3⟩,h4⟩:=h;refine⟨h1,h2,h3,fun j o hj ho=>?_⟩;have dC:=(av.1 ho).1;have:=ep.1 h4 j (List.mem_range'_1.2 ⟨hj,by omega⟩);rw[ho]at this;simp only[bD,Bool.or_eq_true,oF,gP]at this;refine⟨this.1,fun hd=>?_⟩;rcases this.2 with h|h
 ·rw[←Bool.not_eq_true,gP]at h;exact absurd hd h
 ·exact h
structure TJ (P:Program) (r:Option Nat) (n:Nat) (l:List Oper) (m q d:Nat) (c:Value) (L:Sl) (K:Kt) (ds:List Deferred) (D:Nat→Prop) (a:Act) (w:World) (p:Nat) (ac:Act) (Lp:Sl) (wq:World):Prop where
 p0:m≤p
 p1:p≤l.length
 dt:∀i,i<l.length→i≠q→(D i↔i<p)
 ag:fV n ac Lp ds
 tr:qM P r n l.toArray aA wq K 0 (l.drop p) Lp ds w
 yes:D q→a=ac
 no: ¬D q→ac=a.put (some d) c∧∀t u,lk (iC l q L) t=some u→a.tmps[t]? =some u
theorem put_comm (a:Act) {d:Nat} {e:Option Nat} (h:e≠some d) (c v:Value):(a.put (some d) c).put e v=(a.put e v).put (some d) c:=by
 cases e with
 |none=>rfl
 |some e=>
  have eI:e≠d:=fun h'=>h (by rw[h'])
  simp only[Act.put];congr 1;apply Array.ext_getElem?;intro i;simp only[cT,Array.size_setIfInBounds];by_cases h1:e=i<;>by_cases h2:d=i<;>simp_all
theorem wM (a:Act) {d t:Nat} (c:Value) (h:t≠d):(a.put (some d) c).tmps[t]? =a.tmps[t]? :=by rw[fO,if_neg (fun e=>h (by injection e with e;exact e.symm))]
theorem TJ.next {l:List Oper} {m q d:Nat} {c:Value} (cI:dM l 0=true) (eO:pS l m q d=true) {oq:Oper} (hq:l[q]? =some oq) (B2:oq.dst=some d) (Ob:gT oq.op=true) (JX:oq.guard=none)
  (gg:∀(ρ:Operand→Value) w,(∀x u,ev (iC l q L) x=some u→ρ x=u)→(execOp ρ oq).run P w= .ok (.value c) w)
  {Q:Exit→Act→World→Prop} {D:Nat→Prop} {a:Act} {w:World} {j:Nat} {o:Oper} {rest:List Nat} (ho:l[j]? =some o) (nc: ¬D j) (hp:∀k∈cb o,D k) {p:Nat} {ac:Act} {Lp:Sl} {wq:World} (hi:TJ P r n l m q d c L K ds D a w p ac Lp wq)
  (hk:∀a' w',(∃p ac Lp wq,TJ P r n l m q d c L K ds (fun i=>i=j∨D i) a' w' p ac Lp wq)→wpOpsIn (FW r) 0 P l.toArray Q rest a' w'):wpOpsIn (FW r) 0 P l.toArray Q (j::rest) a w:=by
 obtain⟨hqm,_,sH,IB⟩:=rh eO;have o2:=(av.1 ho).1;by_cases Um:j=q
 ·subst Um;rw[hq]at ho;cases ho;obtain⟨C8,jk⟩:=hi.no nc;refine One.run (by simpa using hq) Ob (v:=c) ?_ (hk _ _ ⟨p,ac,Lp,wq,hi.p0,hi.p1,fun i h1 h2=>⟨fun h=>(hi.dt i h1 h2).1 (h.resolve_left h2),fun h=> .inr ((hi.dt i h1 h2).2 h)⟩,hi.ag,hi.tr,fun _=>by rw[C8,B2],fun h=>absurd (.inl rfl) h⟩);unfold One;rw[if_pos (by simp[Region.wanted,JX])];refine gg a.eval w fun x u hx=> ?_
  cases x with
  |tmp t=>simp only[ev]at hx;simp[Act.eval,jk t u hx]
  |const v=>simp only[ev]at hx;cases hx;rfl
  |global g=>simp only[ev]at hx;cases hx;rfl
  |func f=>simp only[ev]at hx;cases hx;rfl
 ·have U1:j=p:=by
   have h1:p≤j:=by
    rcases cU j p with h|h
    ·exact absurd ((hi.dt j o2 Um).2 h) nc
    ·exact h
   have:=hi.p0;rcases cU m j with h|h
   ·have h2:=hp _ (iY sH (j:=j) (by omega) ho);have:=(hi.dt (j-1) (by omega) (by omega)).1 h2;omega
   ·omega
  subst U1;obtain⟨PM,hta⟩:=IB j o hi.p0 ho;have xn:o.dst≠some d:=fun h=>Um (eJ cI ho hq h B2)
  have yB:∀t∈asks l o,a.tmps[t]? =ac.tmps[t]? :=fun t ht=>by
   by_cases hD:D q
   ·rw[hi.yes hD]
   ·rw[(hi.no hD).1,wM];rintro rfl;exact hD (hp q (hta ht))
  obtain⟨Ew,yK⟩:=ly yB
  have TU:a.defers=ac.defers:=by
   by_cases hD:D q
   ·rw[hi.yes hD]
   ·rw[(hi.no hD).1,put_defers]
  have vP:=hi.tr;rw[dB o2,(av.1 ho).2]at vP;have h1:=Rg.run vP ac hi.ag;refine yR (by simpa using ho) PM Ew yK TU h1 (fun e a w ⟨_,_,_,he,_⟩=>he) (fun v w' ⟨L',kY,hA,_,E2,_,LX⟩=>?_) (fun d' w' ⟨L',kY,hA,_,E2,_⟩=>?_)
  ·rw[E2]at hA;refine hk _ _ ⟨j+1,ac.put o.dst v,L',wq,by have:=hi.p0;omega,by omega,fun i h3 h4=>?_,hA,LX,fun h=>?_,fun h=>?_⟩
   ·constructor
    ·rintro(h|h)
     ·omega
     ·have:=(hi.dt i h3 h4).1 h;omega
    ·intro h;rcases jx (show i≤j by omega)with h5|h5
     ·exact .inl h5
     ·exact .inr ((hi.dt i h3 h4).2 h5)
   ·rw[hi.yes (h.resolve_left (fun e=>Um e.symm))]
   ·have hD: ¬D q:=fun h'=>h (.inr h')
    obtain⟨C8,jk⟩:=hi.no hD;refine⟨by rw[C8,put_comm a xn],fun t u ht=>?_⟩;obtain⟨h3,h4⟩:=ie (f:=jl l q) ht;rw[fO,if_neg,jk t u ht];intro e;simp only[jl,ep]at h3;have:=h3 o (aI ho);simp only[e,beq_self_eq_true,Bool.not_true,Bool.false_or,gP]at this;exact hD (hp q this)
  ·have h3:=hA.defers;rw[put_defers,E2]at h3;have h4:=congrArg List.length h3;rw[hi.ag.defers]at h4;simp at h4
theorem gI.Oc {l:List Oper} {wd:World} (m q d:Nat) (c:Value) {oq:Oper} (F:List (Nat×aB)) (S:List (cg M)) (LV:S.length=m) (qd:Nat.blt m l.length=true) (cI:dM l 0=true) (eO:pS l m q d=true)
  (hq:l[q]? =some oq) (B2:oq.dst=some d) (Ob:gT oq.op=true) (JX:oq.guard=none) (hS:S[q]? =some (cg.eq c)) (gg:∀(ρ:Operand→Value) w,(∀x u,ev (iC l q L) x=some u→ρ x=u)→(execOp ρ oq).run P w= .ok (.value c) w)
  (lV:∀p∈F,∀b,p.2 b→M b) (hFq:∀p∈F,p.1≠q) (qJ:yM F l S) (qK:bI P r n F wd l S ds L l S 0)
  (iD:∀w',Step M wd M w' (gM (F.map (·.2)))→fL w' (fun acc=>qM P r n l.toArray aA w' K 0 (l.drop m) (acc++iC l l.length L) ds w') l S []):gI P r n l L ds wd K:=by
 intro a0 ha;obtain⟨hqm,E3,sH,IB⟩:=rh eO;have Sv:m<l.length:=by simpa[Nat.blt_eq]using qd
 have start:∀(D:Nat→Prop) a w,(∀i,i<m→i≠q→D i)→(∀i,m≤i→i<l.length→¬D i)→(∀i o,l[i]? =some o→D i→∀k∈cb o,D k)→Inv F S l wd L ds n (fun i=>D i∧i<l.length) a w→∃p ac Lp wq,TJ P r n l m q d c L K ds D a w p ac Lp wq:=by
  intro D a w lu gS kN hi
  obtain⟨ac,C8⟩:∃ac,(D q→a=ac)∧(¬D q→ac=a.put (some d) c):=by
   by_cases hD:D q
   ·exact⟨a,fun _=>rfl,fun h=>absurd hD h⟩
   ·exact⟨_,fun h=>absurd h hD,fun _=>rfl⟩
  have hqn:d<n∨n≤d:=cU d n
  have jg:n≤ac.tmps.size:=by
   by_cases hD:D q
   ·rw[←C8.1 hD];exact hi.size
   ·rw[C8.2 hD,lv];exact hi.size
  have TU:ac.defers=ds:=by
   by_cases hD:D q
   ·rw[←C8.1 hD];exact hi.defers
   ·rw[C8.2 hD,put_defers];exact hi.defers
  have Hr:∀t,t≠d→ac.tmps[t]? =a.tmps[t]? :=fun t ht=>by
   by_cases hD:D q
   ·rw[←C8.1 hD]
   ·rw[C8.2 hD,wM a c ht]
  have YT:d<a.tmps.size:=by
   have hg:=qK.take.get q oq (by rw[dG,LV,if_pos hqm];exact hq);by_cases hD:D q
   ·obtain⟨v,h1,_⟩:=hi.done q oq (cg.eq c) d hq hS ⟨hD,by omega⟩ B2;exact(Array.getElem?_eq_some_iff.1 h1).1
   ·refine Classical.byContradiction fun kZ=> ?_
    obtain⟨s,hs,Sw⟩:=hg;rw[Nat.zero_add]at Sw;rw[hS]at hs;cases hs
    have hpq:∀k∈cb oq,D k:=fun k hk=>by
     have:=cr cI q oq hq k hk;exact lu k (by omega) (by omega)
    have:=Inv.next (r:=r) (P:=P) hi cI qJ lV (rest:=[]) (Q:=fun _ a' _=>n≤a'.tmps.size∧∃v,a'.tmps[d]? =some v) ⟨cg.eq c,hS,Sw⟩ hq (fun h=>hD h.1) (fun k hk=>⟨hpq k hk,by have:=cr cI q oq hq k hk;omega⟩) (fun a' w' fK=>by
     obtain⟨v,h1,_⟩:=fK.done q oq (cg.eq c) d hq hS (.inl rfl) B2;exact⟨fK.size,v,h1⟩)
    have qe:One P r l.toArray w oq a c:=by
     unfold One;rw[if_pos (by simp[Region.wanted,JX])];refine gg a.eval w fun x u hx=> ?_
     have jk:∀t u,lk (iC l q L) t=some u→a.tmps[t]? =some u:=fun t u ht=>by
      obtain⟨h3,h4⟩:=ie (f:=jl l q) ht;refine hi.base t u h4 fun i o ga yD he=> ?_
      simp only[jl,ep]at h3;have:=h3 o (aI ga);simp only[he,beq_self_eq_true,Bool.not_true,Bool.false_or,gP]at this;exact hD (kN i o ga yD.1 q this)
     cases x with
     |tmp t=>simp only[ev]at hx;simp[Act.eval,jk t u hx]
     |const v=>simp only[ev]at hx;cases hx;rfl
     |global g=>simp only[ev]at hx;cases hx;rfl
     |func f=>simp only[ev]at hx;cases hx;rfl
    simp only[wpOpsIn,fJ,hq]at this;rw[if_pos (by simp[Region.wanted,JX])]at this;obtain⟨_,h2⟩:=this;unfold One at qe;rw[if_pos (by simp[Region.wanted,JX])]at qe;rw[Oper.semAt_eq _ _ _ (j6 Ob),qe]at h2;rw[Oper.uponIn_value]at h2;obtain⟨_,v,h3⟩:=h2;rw[B2]at h3;have:=(Array.getElem?_eq_some_iff.1 h3).1;simp[Act.put]at this;exact kZ this
  have YU:∃v,ac.tmps[d]? =some v∧v=c:=by
   by_cases hD:D q
   ·rw[←C8.1 hD];obtain⟨v,h1,h2⟩:=hi.done q oq (cg.eq c) d hq hS ⟨hD,by omega⟩ B2;exact⟨v,h1,h2⟩
   ·refine⟨c,?_,rfl⟩;rw[C8.2 hD,fO,if_pos rfl];simp[cT,YT]
  have gh:∀{i:Nat} {o:Oper},(l.take m)[i]? =some o→l[i]? =some o∧i<m:=fun {i o} h=>by
   rw[dG]at h
   split at h
   ·exact⟨h,by assumption⟩
   ·cases h
  have iK:Step M wd M w (gM (F.map (·.2))):=hi.step.ca (fun b ⟨p,hp,hD,hb⟩=>ew.2 ⟨p.2,bZ.2 ⟨p,hp,rfl⟩,hb⟩) (fun b hb=>by
   obtain⟨N,hN,yC⟩:=ew.1 hb;obtain⟨p,hp,rfl⟩:=bZ.1 hN;exact lV p hp b yC)
  have hE:=(iD w iK).take;rw[LV]at hE
  obtain⟨acc,h1,h2⟩:=fL.use (a:=ac) (l.take m) S [] (fun i o s h1 h2 h3=>by
    obtain⟨h4,h5⟩:=gh h1;by_cases Lo:i=q
    ·subst Lo;rw[hq]at h4;cases h4;rw[B2]at h3;cases h3
    ·exact hi.fin i o s h4 h2 ⟨lu i h5 Lo,by omega⟩ h3)
   (fun i o s e h1 h2 h3=>by
    obtain⟨h4,h5⟩:=gh h1;by_cases Lo:i=q
    ·subst Lo;rw[hq]at h4;cases h4;rw[B2]at h3;cases h3;rw[hS]at h2;cases h2;exact YU
    ·obtain⟨v,h6,h7⟩:=hi.done i o s e h4 h2 ⟨lu i h5 Lo,by omega⟩ h3;exact⟨v,by rw[Hr e (fun he=>Lo (eJ cI h4 hq h3 (by rw[B2,he])))];exact h6,h7⟩)
   (fun t v h=>by simp[lk]at h) hE
  refine⟨m,ac,_,w,a7 _,by omega,fun i h3 h4=>⟨fun h=>?_,fun h=>lu i h h4⟩,⟨jg,TU,fun t v h=>?_⟩,h1,C8.1,fun hD=>⟨C8.2 hD,fun t u ht=>?_⟩⟩
  ·rcases cU i m with h5|h5
   ·exact h5
   ·exact absurd h (gS i h5 h3)
  ·rcases jR h with h|h
   ·exact h2 t v h
   ·obtain⟨h3,h4⟩:=ie (f:=jl l l.length) h
    have eI:∀(i:Nat) (o:Oper),l[i]? =some o→o.dst≠some t:=fun i o ga he=>by
     simp only[jl,ep]at h3;have:=h3 o (aI ga);simp only[he,beq_self_eq_true,Bool.not_true,Bool.false_or,gP]at this;have h7:=cr cI i o ga _ this;have h8:=(av.1 ga).1;omega
    rw[Hr t (fun e=>eI q oq hq (by rw[B2,e]))];exact hi.base t v h4 fun i o ga _=>eI i o ga
  ·obtain⟨h3,h4⟩:=ie (f:=jl l q) ht;refine hi.base t u h4 fun i o ga yD he=> ?_
   simp only[jl,ep]at h3;have:=h3 o (aI ga);simp only[he,beq_self_eq_true,Bool.not_true,Bool.false_or,gP]at this;exact hD (kN i o ga yD.1 q this)
 refine⟨fun D a w=>((∀i,m≤i→i<l.length→¬D i)∧Inv F S l wd L ds n (fun i=>D i∧i<l.length) a w)∨∃p ac Lp wq,TJ P r n l m q d c L K ds D a w p ac Lp wq,fun D D' a w hJ hD=>?_,fun Q D a w j o rest hj ho nc hp kN hJ hk=>?_,fun a w hJ=>?_,.inl ⟨fun i _ _ h=>h,?_⟩⟩
 ·rcases hJ with⟨h1,h2⟩|⟨p,ac,Lp,wq,h⟩
  ·refine .inl ⟨fun i h3 h4 h5=>h1 i h3 h4 ((hD i h4).1 h5),?_⟩;have:(fun i=>D' i∧i<l.length)=fun i=>D i∧i<l.length:=funext fun i=>propext ⟨fun⟨h3,h4⟩=>⟨(hD i h4).1 h3,h4⟩,fun⟨h3,h4⟩=>⟨(hD i h4).2 h3,h4⟩⟩
   rw[this];exact h2
  ·exact .inr ⟨p,ac,Lp,wq,h.p0,h.p1,fun i h3 h4=>(hD i h3).trans (h.dt i h3 h4),h.ag,h.tr,fun h3=>h.yes ((hD q (by omega)).1 h3),fun h3=>h.no fun h4=>h3 ((hD q (by omega)).2 h4)⟩
 ·rcases hJ with⟨h1,h2⟩|⟨p,ac,Lp,wq,h⟩
  ·rcases cU j m with yE|yE
   ·have hg:=qK.take.get j o (by rw[dG,LV,if_pos yE];exact ho);rw[Nat.zero_add]at hg;refine h2.next cI qJ lV hg ho (fun h=>nc h.1) (fun k sF=>⟨hp k sF,by have:=cr cI j o ho k sF;omega⟩) fun a' w' fK=>hk a' w' (.inl ⟨fun i h3 h4 h5=>?_,?_⟩)
    ·rcases h5 with h5|h5
     ·omega
     ·exact h1 i h3 h4 h5
    ·have:(fun i=>(i=j∨D i)∧i<l.length)=fun i=>i=j∨D i∧i<l.length:=funext fun i=>propext ⟨fun⟨h3,h4⟩=>h3.elim .inl fun h=> .inr ⟨h,h4⟩,fun h=>h.elim (fun h=>⟨.inl h,by omega⟩) fun h=>⟨.inr h.1,h.2⟩⟩
     rw[this];exact fK
   ·have YV:j=m:=by
     rcases cU m j with h|h
     ·have:=hp _ (iY sH (j:=j) (by omega) ho);exact absurd this (h1 (j-1) (by omega) (by omega))
     ·omega
    subst YV;rw[ho]at E3;obtain⟨p,ac,Lp,wq,h⟩:=start D a w (fun i hi Lo=>kP (D:=D) kN j (cb o) E3 hp i hi (by simpa using Lo)) h1 kN h2;exact h.next cI eO hq B2 Ob JX gg ho nc hp fun a' w' h'=>hk a' w' (.inr h')
  ·exact h.next cI eO hq B2 Ob JX gg ho nc hp fun a' w' h'=>hk a' w' (.inr h')
 ·rcases hJ with⟨h1,_⟩|⟨p,ac,Lp,wq,h⟩
  ·exact absurd Sv (h1 m (a7 _) Sv)
  ·have yT:p=l.length:=by
    rcases cU p l.length with h3|h3
    ·have h4:=(h.dt p h3 (by have:=h.p0;omega)).1 h3;omega
    ·have:=h.p1;omega
   have vP:=h.tr;rw[yT,List.drop_length]at vP;exact⟨Lp,ds,by rw[h.yes (by show q<l.length;omega)];exact h.ag,vP⟩
 ·refine⟨(an M wd).ca (fun _ h=>h.elim) (fun b ⟨p,hp,_,hb⟩=>lV p hp b hb),fun i o s _ _ h=>h.1.elim,ha.size,ha.defers,fun i o s e _ _ h=>h.1.elim,fun t v h _=>ha.at_ t v h,fun i o _ h=>h.1.elim⟩
theorem T.Sx {id:Nat} {l l':List Oper} (π:List Nat) (m q d:Nat) (c:Value) {oq:Oper} (F:List (Nat×aB)) (S:List (cg M)) (hm:P.follows .mixedOrders=true) (E5:xu π l=l') (qN:dM l 0=true) (hπ:ka π l.length=true) (LV:S.length=m) (qd:Nat.blt m l'.length=true) (cI:dM l' 0=true) (eO:pS l' m q d=true)
  (hq:l'[q]? =some oq) (B2:oq.dst=some d) (Ob:gT oq.op=true) (JX:oq.guard=none) (hS:S[q]? =some (cg.eq c)) (gg:∀(ρ:Operand→Value) w,(∀x u,ev (iC l' q L) x=some u→ρ x=u)→(execOp ρ oq).run P w= .ok (.value c) w)
  (lV:∀p∈F,∀b,p.2 b→M b) (hFq:∀p∈F,p.1≠q) (qJ:yM F l' S)
  (h:∀wD,(∀M,Step M w M wD aA)→bI P r n F wD l' S ds L l' S 0∧∀w',Step M wD M w' (gM (F.map (·.2)))→fL w' (fun acc=>qM P r n l'.toArray aA w' K 0 (l'.drop m) (acc++iC l' l'.length L) ds w') l' S []):T P r n (.region id l.toArray true) L ds w K:=by
 subst E5;exact gI.t hm qN fun wD hD=> .perm π hπ qN (.Oc m q d c F S LV qd cI eO hq B2 Ob JX hS gg lV hFq qJ (h wD hD).1 (h wD hD).2)
theorem B3 {s:TypeId} {fs:Array Field} {fd:Field} {j size o o' b:Nat} {zv:Value} {bytes:Nat} {x:Operand} {dst:Option Tmp} {ty:TypeId} {pos:String} {af:Array Edge} {gd:Option (Nat×Bool)} (hu:P.underlying s=some (.struct fs)) (Ps:fs[j]? =some fd) (ho:o+fd.offset=o') (hi:TI P fd.type zv size bytes) (hs:size≠0)
  {ρ:Operand→Value} (hx:ρ x= .pointer (some ⟨b,o,none⟩)) (w:World):(execOp ρ {dst,op:= .fieldAddr s x j,type:=ty,pos,after:=af,guard:=gd}).run P w= .ok (.value (.pointer (some ⟨b,o',none⟩))) w:=by
 simp only[execOp,hx];simp[Instr.fieldAt,run_underlying hu,Ps,Instr.sureAddr,fieldPlace,hi.sizeOf,hs,←ho,Addr.add_mid]
end
end Go.K
namespace Go.K
open Go.Proofs
set_option maxRecDepth 10000
def kU:Int→List En→Int
 |last,[]=>last
 |_,e::L=>kU e.2 L
def tW:Int→List En→Bool
 |_,[]=>true
 |last,e::L=>decide (jP last e=0)&&tW e.2 L
theorem Hs:∀{L:List En} {last:Int} {i:Nat} {e:En},tW last L=true→L[i]? =some e→jP (kU last (L.take i)) e=0∧kU last (L.take (i+1))=e.2
 |[],_,_,_,_,h=>by simp at h
 |x::L,last,0,e,h,hi=>by
  simp only[tW,bD,decide_eq_true_eq]at h;simp at hi;subst hi;exact⟨by simpa[kU]using h.1,by simp[kU]⟩
 |x::L,last,i+1,e,h,hi=>by
  simp only[tW,bD,decide_eq_true_eq]at h;have:=Hs h.2 (by simpa using hi);simpa[kU]using this
theorem wN {last:Int} {e:En} (h:jP last e=0):gR e.1∧last<e.2:=by
 unfold jP at h
 split at h
 ·rename_i h1;exact absurd h h1
 ·rename_i h1
  split at h
  ·cases h
  ·exact⟨yc (by simpa using h1),by omega⟩
theorem lO:∀{L:List En} {last:Int},tW last L=true→∀e∈L,gR e.1
 |[],_,_,e,h=>by cases h
 |x::L,last,h,e,he=>by
  simp only[tW,bD,decide_eq_true_eq]at h;rcases du.1 he with rfl|he
  ·exact(wN h.1).1
  ·exact lO h.2 e he
theorem qD:∀{L:List En} {last:Int},tW last L=true→ey last (L.map (·.2))=true
 |[],_,_=>rfl
 |x::L,last,h=>by
  simp only[tW,bD,decide_eq_true_eq]at h;simp only[fj,ey,bD,decide_eq_true_eq];exact⟨(wN h.1).2,qD h.2⟩
def fM (L:List En):Pa:=(L.map (·.1.1),L.map (·.2),keysOf L,(keysOf L).map (pk L))
theorem D9 {x:List Po} (h:x≠[]):∃p∈x,An x=p.1:=by
 unfold An
 cases hl:x.getLast? with
 |none=>exact absurd (List.getLast?_eq_none_iff.1 hl) h
 |some p=>exact⟨p,List.mem_of_getLast? hl,rfl⟩
theorem Od {L:List En} (h:tW (-1) L=true) (hn:L.length≤1000000):uE (fM L)=true:=by
 have hF:=lO h;have h1:(keysOf L).map (pk L)=(fM L).2.2.2:=rfl;unfold uE;have e1:decide ((fM L).1.length=(fM L).2.1.length)=true:=by simp[fM]
 have e2:ey (-1) (fM L).2.1=true:=qD h;have e3:decide ((fM L).2.2.1.length=(fM L).2.2.2.length)=true:=by simp[fM]
 have e4:Af none (fM L).2.2.1=true:=NJ (kS L)
 have e5:(fM L).2.2.2.all (fun x=> !la ((fM L).1.length:Int) x)=true:=by
  refine ep.2 fun x hx=> ?_
  rw[←h1]at hx;obtain⟨k,hk,rfl⟩:=bZ.1 hx;have eI:pk L k≠[]:=Gw 0 (ku.1 hk)
  have YW:(pk L k).isEmpty=false:=by
   cases h:pk L k with
   |nil=>exact absurd h eI
   |cons a b=>rfl
  have pQ:dR (-1) (pk L k)=true:=rR k L 0 (-1) hF (by omega) (by omega);obtain⟨p,hp,hl⟩:=D9 eI;have:=(qw k L 0 hF).2 p hp;have hlen:((fM L).1.length:Int)=L.length:=by simp[fM]
  simp only[la,pQ,YW,hlen,hl];rw[decide_eq_false (by omega)];rfl
 rw[e1,e2,e3,e4,e5];rfl
theorem JY {L:List En} (hF:∀e∈L,gR e.1) (hn:L.length≤1000000) (k:List UInt8):Room (pk L k):=by
 have h1:=qw k L 0 hF;have pQ:dR (-1) (pk L k)=true:=rR k L 0 (-1) hF (by omega) (by omega);have rr:∀p∈pk L k,p.2.length≤500:=fun p hp=>(h1.2 p hp).2.2
 obtain⟨h2,h3⟩:=qx (pk L k) (-1) 500 (by omega) pQ rr (by omega);have hl:(pk L k).length≤L.length:=h1.1;exact⟨fun p hp=>by have:=rr p hp;omega,by omega,by omega,by omega⟩
theorem JZ {L:List En} (hF:∀e∈L,gR e.1) (hn:L.length≤1000000):Hl (fM L):=by
 have hk:(keysOf L).length≤500000000:=by
  have h1:=(kS L).nodup.length_le_of_subset (l₂:=gK L) (fun x hx=>ku.1 hx);have:=qz hF;omega
 refine⟨by simp[fM];omega,by simp[fM];omega,by simp only[fM];omega,by simp[fM];omega,fun x hx=>?_⟩;obtain⟨k,_,rfl⟩:=bZ.1 hx;exact JY hF hn k
theorem Oe {M:aB} {w:World} {e:En} {v:Value} (h:RT.en.V M w e v):(-9223372036854775808≤e.1.1∧e.1.1≤9223372036854775807)∧ -9223372036854775808≤e.2∧e.2≤9223372036854775807:=by
 obtain⟨vs,⟨va,vb,_,⟨vc,vd,_,⟨_,h1⟩,_⟩,⟨_,h2⟩⟩,_⟩:=h;exact⟨h1,h2⟩
def ZP (B b:Nat) (vi vs:Value):aB:=fun k=>B≤k∧k≠b∧vi.ownBlock≠some k∧vs.ownBlock≠some k
theorem Own.Lq {κ:IntKind} {e:TypeId} {M M' N:aB} {w w':World} {base:Nat} {v:Value} {xs:List Int} (h:Own (RT.int κ) e (nX v) w base v xs) (s:Step M w M' w' N) (hn:∀c,v.ownBlock=some c→¬N c):Own (RT.int κ) e (nX v) w' base v xs:=
 ((h.IN (M':=allM) (fun _ _=>trivial)).PY s.all hn).lone
theorem Step.YX {M M' N:aB} {w w':World} (s:Step M w M' w' N) {v:Value} (hv:∀b,v.ownBlock=some b→b<w'.heap.size∧(w.heap.size≤b∨M' b)):Step M w (jA M' v) w' N:=
 ⟨fun h k hk=>hk.elim (fun h1=>(hv k h1).1) (fun h1=>s.lt h k h1),s.os,s.tape,s.output,s.size,fun k hk=>⟨fun h=>by
  rcases h with h|h
  ·rcases(hv k h).2 with h1|h1
   ·omega
   ·exact(s.mem k hk).1 h1
  ·exact(s.mem k hk).1 h,fun h=> .inr ((s.mem k hk).2 h)⟩,s.same,s.sub⟩
end Go.K
namespace Go.K
open Go.Proofs
namespace TKSegA
theorem YY:Enters Tryz.prog 120:=enters Tryz.func120 rfl (by decide)
end TKSegA
open TKSegA
set_option maxRecDepth 10000
def rF (xs:List Int) (i:Int):Int:=if 0≤i∧i<xs.length then xs.getD i.toNat 0 else-1
theorem Ht {xs:List Int} {i:Nat} {x:Int} (h:xs[i]? =some x):rF xs i=x:=by
 have:=(av.1 h).1;unfold rF;rw[if_pos (by omega),aw,bT,h];rfl
theorem J0 {M:aB} {xs:List Int} {v0:Value} {i:Int} (w0:World) (hv:((RT.int .i64).sl).V M w0 xs v0):
  Spec Tryz.prog 120 #[v0,.int .i64 i] w0 (fun v w=>v= .int .i64 (rF xs i)∧w=w0):=by
 have hlen:=ei hv;refine aZ (args:=[_,_]) (fn:=Tryz.f120) Tryz.func120 rfl (n:=17) Tryz.ntmps120 (aj (ah (ai rfl rfl (ad (aj (aj (ah (ae rfl rfl (b4 rfl rfl rfl (ae rfl rfl ?_))))))))));refine aJ (g:=7) rfl (fun fR=>?_) (fun fR=>?_)
 ·refine aq rfl rfl rfl rfl (aq rfl rfl rfl rfl (aq rfl rfl rfl rfl (aq rfl rfl rfl rfl (aR rfl rfl rfl (ad (lT rfl (aj (ah (ai rfl rfl (ad (aL ?_)))))))))));have e:rF xs i= -1:=by unfold rF;rw[if_neg (by omega)]
  exact aO rfl rfl ⟨by rw[e],rfl⟩
 ·refine al rfl rfl (ae rfl rfl (al rfl rfl (ae rfl rfl (al rfl rfl (bM au rfl hv rfl (al rfl rfl (dz rfl rfl rfl (az rfl rfl rfl (ad ?_)))))))));refine bH rfl (fun c1=>?_) (fun c1=>?_)
  ·refine aj (ah (ai rfl rfl (ad (aL ?_))));have e:rF xs i= -1:=by unfold rF;rw[if_neg (by omega)]
   exact aO rfl rfl ⟨by rw[e],rfl⟩
  ·refine aS (aj (ah (ae rfl rfl (ae rfl rfl ?_))));refine cK (M:=M) au I3 rfl rfl rfl hv (ao _ _) (by omega) (fun u x hg hu=>?_);refine bV (M:=M) ar rfl rfl hu (ao _ _) (fun lQ=>?_);refine ai rfl rfl (ad (aL ?_));have e:rF xs i=x:=by unfold rF;rw[if_pos (by omega),bT,hg];rfl
   exact aO rfl rfl ⟨by rw[e],rfl⟩
theorem wO {M:aB} {s:Se} {v0:Value} (w0:World) (hs:cp RT.se M w0 v0 s):
  Spec Tryz.prog 67 #[v0] w0 (fun v w=>v= .int .i64 (s.1.length:Int)∧w=w0):=by
 refine aZ (args:=[_]) (fn:=Tryz.f67) Tryz.func67 rfl (n:=8) Tryz.ntmps67 (aj (ah (ai rfl rfl (ad (aj (ah (ae rfl rfl (aU rfl hs.jn rfl ?_))))))));refine aF (M:=M) (A:=RT.se) (B:=(RT.int .i64).sl) Tryz.underlying125 rfl rfl nY (by decide) se0 rfl rfl (by decide) hs (ao _ _) (fun JD tN=>?_);refine bY (M:=M) au rfl rfl rfl rfl rfl tN (ao _ _) (fun J1 ri=>?_);replace ri:((RT.int .i64).sl).V M _ s.1 J1:=ri;refine bM au rfl ri rfl (ai rfl rfl (ad (aL ?_)));exact aO rfl rfl ⟨rfl,rfl⟩
theorem wR {M:aB} {s:Se} {i:Int} {v0:Value} (w0:World) (hs:cp RT.se M w0 v0 s):
  Spec Tryz.prog 70 #[v0,.int .i64 i] w0 (fun v w=>v= .int .i64 (rF s.2.1 i)∧w=w0):=by
 refine aZ (args:=[_,_]) (fn:=Tryz.f70) Tryz.func70 rfl (n:=11) Tryz.ntmps70 (aj (ah (ai rfl rfl (ad (aj (ah (ae rfl rfl (aU rfl hs.jn rfl ?_))))))));refine aF (M:=M) (A:=RT.se) (B:=(RT.int .i64).sl) Tryz.underlying125 rfl rfl nY (by decide) se1 rfl rfl (by decide) hs (ao _ _) (fun JD tN=>?_);refine bY (M:=M) au rfl rfl rfl rfl rfl tN (ao _ _) (fun J1 ri=>?_);replace ri:((RT.int .i64).sl).V M _ s.2.1 J1:=ri;refine ae rfl rfl ?_;refine aQ rfl rfl YY (J0 _ ri) (fun r wc hc=>?_);obtain⟨rfl,rfl⟩:=hc;refine ai rfl rfl (ad (aL ?_));exact aO rfl rfl ⟨rfl,rfl⟩
theorem tX {α:Type} {p:α→Bool}:∀{xs:List α} {i:Nat},i≤xs.length→(∀(k:Nat) x,k<i→xs[k]? =some x→p x=true)→(∀(k:Nat) x,i≤k→xs[k]? =some x→p x=false)→xs.countP p=i
 |[],i,hi,_,_=>by simp at hi;simp[hi]
 |x::xs,0,_,_,h2=>by
  rw[List.countP_eq_zero.2];intro a ha;obtain⟨k,hk⟩:=bF.1 ha;simp[h2 k a (bB _) hk]
 |x::xs,i+1,hi,h1,h2=>by
  rw[List.countP_cons_of_pos (h1 0 x (by omega) rfl),tX (by simpa using hi) (fun k y hk hy=>h1 (k+1) y (by omega) (by simpa using hy)) (fun k y hk hy=>h2 (k+1) y (by omega) (by simpa using hy))]
theorem Ar:∀{xs:List Int} {last:Int},ey last xs=true→(∀x∈xs,last<x)∧xs.Pairwise (· < ·)
 |[],_,_=>⟨(fun x h=>by cases h),List.Pairwise.nil⟩
 |x::xs,last,h=>by
  simp only[ey,bD,decide_eq_true_eq]at h;obtain⟨h1,h2⟩:=Ar h.2;refine⟨fun y hy=>?_,fN.2 ⟨h1,h2⟩⟩;rcases du.1 hy with rfl|hy
  ·exact h.1
  ·exact Int.lt_trans h.1 (h1 y hy)
end Go.K
namespace Go.K
open Go.Proofs
namespace TKSegB
theorem BX:TI Tryz.prog 188 (.slice none 0 0) 1 24:=by unfold TI;kernel_rfl
theorem YZ:Enters Tryz.prog 123:=enters Tryz.func123 rfl (by decide)
theorem Y0:Enters Tryz.prog 169:=enters Tryz.func169 rfl (by decide)
theorem Y1:Enters Tryz.prog 170:=enters Tryz.func170 rfl (by decide)
end TKSegB
open TKSegB
set_option maxRecDepth 10000
def EH (ns:List (List UInt8)) (k:List UInt8):Nat:=ns.countP fun x=>decide (x<k)
theorem Sy {ns:List (List UInt8)} (h:x9 ns) {i j:Nat} {x y:List UInt8} (gv:i≤j) (hx:ns[i]? =some x) (hy:ns[j]? =some y): ¬y<x:=by
 rcases jx gv with rfl|h1
 ·rw[hx]at hy;cases hy;exact iH x
 ·exact iI (fT h hx hy h1)
theorem yk {ns:List (List UInt8)} (h:x9 ns) {k:List UInt8}:(k∈ns→ns[EH ns k]? =some k)∧∀x,ns[EH ns k]? =some x→¬x<k:=by
 have key:∀{ns:List (List UInt8)},x9 ns→(k∈ns→ns[EH ns k]? =some k)∧∀x,ns[EH ns k]? =some x→¬x<k:=by
  intro ns
  induction ns with
  |nil=>exact fun _=>⟨(fun h=>by cases h),fun x h=>by simp at h⟩
  |cons y ns ih=>
   intro h;have h':=fN.1 h;by_cases hy:y<k
   ·have e:EH (y::ns) k=EH ns k+1:=by unfold EH;rw[List.countP_cons_of_pos (by simpa using hy)]
    rw[e];simp only[List.getElem?_cons_succ];refine⟨fun hk=>(ih h'.2).1 ?_,(ih h'.2).2⟩;rcases du.1 hk with rfl|hk
    ·exact absurd hy (iH _)
    ·exact hk
   ·have lu:∀x∈ns,¬x<k:=fun x hx dC=>hy (lL (h'.1 x hx) dC)
    have e:EH (y::ns) k=0:=by
     unfold EH;rw[List.countP_eq_zero];intro a ha;rcases du.1 ha with rfl|ha
     ·simpa using hy
     ·simpa using lu a ha
    rw[e];refine⟨fun hk=>?_,fun x hx=>by simp at hx;subst hx;exact hy⟩;rcases du.1 hk with rfl|hk
    ·rfl
    ·exact absurd (h'.1 k hk) hy
 exact key h
def Y2 (ns:List (List UInt8)) (k:List UInt8) (i:Nat):Bool:=match ns[i]? with|some x=> !decide (x<k)|none=>true
theorem tY {ns:List (List UInt8)} {k x:List UInt8} {i:Nat} (h:ns[i]? =some x):Y2 ns k i= !decide (x<k):=by unfold Y2;rw[h]
theorem Hu {ns:List (List UInt8)} (h:x9 ns) {k:List UInt8}:ns[EH ns k]? =some k↔k∈ns:=⟨fun h=>aI h,(yk h).1⟩
theorem B4 {M:aB} {n:Nat} {g:FuncId} {cap:List Value} {good:Nat→Bool} (w0:World) (hg:Enters Tryz.prog g) (Lr:∀i j,i≤j→j<n→good i=true→good j=true) (hn:n≤4611686018427387904) (ht:∀(i:Nat) w,i<n→Step M w0 M w aA→Spec Tryz.prog g ([.int .i64 (i:Int)]++cap:List Value).toArray w (fun v w'=>v= .bool (good i)∧Step M w M w' aA)):
  Spec Tryz.prog 169 #[.int .i64 (n:Int),.func (.func g) #[] cap.toArray] w0 (fun v w=>∃m:Nat,v= .int .i64 (m:Int)∧m≤n∧(∀i,i<m→good i=false)∧(∀i,m≤i→i<n→good i=true)∧Step M w0 M w aA):=by
 refine aZ (args:=[_,_]) (fn:=Tryz.f169) Tryz.func169 rfl (n:=23) Tryz.ntmps169 (aj (ah (ai rfl rfl (ad (aj (ah (ai rfl rfl (ad (aj (aY ?_))))))))));refine dr (σ:=Nat×Nat) (fun q=>[(0,.int .i64 (q.2:Int)),(1,.func (.func g) #[] cap.toArray),(5,.int .i64 (q.1:Int))]) (fun q w=>Step M w0 M w aA∧q.1≤q.2∧q.2≤n∧(∀i,i<q.1→good i=false)∧(∀i,q.2≤i→i<n→good i=true)) (fun q=>q.2-q.1) (0,n) (.cons rfl (.cons rfl (.cons rfl .nil))) ?_ ?_
 ·exact⟨an _ _,bB _,a7 _,fun i h=>absurd h (jK _),fun i h h'=>by omega⟩
 ·rintro⟨i,j⟩ w ⟨S,gv,hj,h1,h2⟩;dsimp only at gv hj h1 h2 ⊢;refine aj (aj (ah (ae rfl rfl (ae rfl rfl (b4 rfl rfl rfl (ad ?_))))));refine bH rfl (fun c2=>?_) (fun c2=>?_)
  ·refine aS (aY (aj (ah (ae rfl rfl (ae rfl rfl (ae rfl rfl (gN rfl rfl rfl (by omega) (Rg.si rfl rfl rfl (by omega) (bu rfl rfl rfl (by omega) (bz (v':= .int .i64 ((i+(j-i)/2:Nat):Int)) (congrArg _ (by omega)) (ai rfl rfl ?_)))))))))));refine ad (aj (ah (ae rfl rfl (ae rfl rfl ?_))));refine Rg.o9 (first:=[]) (captured:=cap) (xs:=[.tmp 17]) rfl rfl rfl hg (vs:=[.int .i64 ((i+(j-i)/2:Nat):Int)]) (ht (i+(j-i)/2) _ (by omega) S) (fun r4 w4 hc=>?_);obtain⟨rfl,s4⟩:=hc;refine bz (v':= .bool (decide (good (i+(j-i)/2)=true))) (by simp) ?_;replace S:=S.ax s4;refine ad ?_;refine bH rfl (fun c4=>?_) (fun c4=>?_)
   ·refine ah (ae rfl rfl (ai rfl rfl (ad ?_)));refine⟨rfl,(i,i+(j-i)/2),(.cons rfl (.cons rfl (.cons rfl .nil))),?_,?_⟩
    ·exact⟨S,by dsimp only;omega,by dsimp only;omega,h1,fun k hk XI=>Lr _ _ hk XI c4⟩
    ·dsimp only;omega
   ·refine ah (ae rfl rfl (bu rfl rfl rfl (by omega) (ai rfl rfl (ad ?_))));refine⟨rfl,(i+(j-i)/2+1,j),(.cons rfl (.cons rfl (.cons rfl .nil))),?_,?_⟩
    ·exact⟨S,by dsimp only;omega,hj,fun k hk=>by
      cases h:good k with
      |false=>rfl
      |true=>exact absurd (Lr k (i+(j-i)/2) (by dsimp only at hk;omega) (by omega) h) c4,h2⟩
    ·dsimp only;omega
  ·refine cG (aj (ah (ae rfl rfl (ai rfl rfl (ad (aL ?_))))));have e:i=j:=by omega
   subst e;exact aO rfl rfl ⟨i,rfl,hj,h1,h2,S⟩
theorem As {M:aB} {d:Di} {v0:Value} {i bd bk:Nat} {k x:List UInt8} (w0:World) (hd:cp RT.di M w0 v0 d) (gd:w0.heap[bd]? =some (.cells #[v0] 123 (0,0))) (gk:w0.heap[bk]? =some (.cells #[sv k] 9 (0,0))) (hx:d.1[i]? =some x):
  Spec Tryz.prog 170 #[.int .i64 (i:Int),.pointer (some ⟨bd,0,none⟩),.pointer (some ⟨bk,0,none⟩)] w0 (fun v w=>v= .bool (!decide (x<k))∧Step M w0 M w aA):=by
 have hM:True:=trivial;refine aZ (args:=[_,_,_]) (fn:=Tryz.f170) Tryz.func170 rfl (n:=14) Tryz.ntmps170 (aj (ah (ai rfl rfl (ad (aj ?_)))));apply T.j7 mixed rfl rfl;intro FB I1;have kH:=I1 M;replace gd:=kH.aM gd;replace gk:=kH.aM gk;replace hd:=hd.le (by decide) kH.le;refine aH Tryz.underlying123 rfl rfl rfl gd rfl (bz (v':=v0) rfl ?_);refine ad ⟨rfl,rfl,rfl,?_⟩;refine aU rfl hd.jn rfl ?_;refine ad ⟨rfl,rfl,rfl,?_⟩;refine aF (M:=M) (A:=RT.di) (B:=RT.str.sl) Tryz.underlying190 rfl rfl Ie (by decide) Ub rfl rfl (by decide) hd (ao _ _) (fun pn Sz=>?_);refine ad ⟨rfl,rfl,rfl,?_⟩;refine bY (M:=M) a8 rfl rfl rfl rfl rfl Sz (ao _ _) (fun vn rO=>?_);replace rO:(RT.str.sl).V M _ d.1 vn:=rO;refine ad ⟨rfl,rfl,rfl,?_⟩;refine ae rfl rfl ?_;refine ad ⟨rfl,rfl,rfl,?_⟩;have mN:=(av.1 hx).1;refine cK (M:=M) a8 I9 rfl rfl rfl rO (ao _ _) (by omega) (fun u a hg hu=>?_);obtain rfl:x=a:=bp (hx.symm.trans (by simpa using hg));refine ad ⟨rfl,rfl,rfl,?_⟩;refine bY (M:=M) aC rfl rfl rfl rfl rfl hu (ao _ _) (fun vx tu=>?_);obtain rfl:=eD tu;refine ad ⟨rfl,rfl,rfl,?_⟩;refine aH aC rfl rfl rfl gk rfl (bz (v':=sv k) rfl ?_);refine ad ⟨rfl,rfl,rfl,?_⟩;refine Rg.Ni rfl rfl rfl ?_;refine ad ⟨rfl,rfl,rfl,?_⟩;refine ai rfl rfl ?_;refine ad ⟨rfl,rfl,rfl,?_⟩;refine fa (aL ?_);exact aO rfl rfl ⟨by rw[decide_not],kH⟩
theorem B5 {M:aB} {d:Di} {v0:Value} {k:List UInt8} (w0:World) (hM:Lt M w0) (hd:cp RT.di M w0 v0 d) (ym:x9 d.1):
  Spec Tryz.prog 123 #[v0,sv k] w0 (fun v w=>v= .tuple #[.int .i64 (EH d.1 k:Int),.bool (decide (k∈d.1))]∧Step M w0 M w aA):=by
 refine aZ (args:=[_,_]) (fn:=Tryz.f123) Tryz.func123 rfl (n:=33) Tryz.ntmps123 ?_;have S:Step M w0 M w0 aA:=(an _ _).ca (fun _ h=>h.elim) (fun _ h=>h.elim);refine aj (ah ?_);refine o8 M rfl rfl (fun yn J2 Y3 Y4 mq Au=>?_);replace mq:J2.heap[yn]? =some (.cells #[v0] 123 (0,0)):=by rw[qA hd]at mq;exact mq
 obtain⟨Av,tZ⟩:∃M',M'=ins M yn:=⟨_,rfl⟩;rw[←tZ]at Au;have nL:Av yn:=by rw[tZ];exact .inl rfl
 replace hd:=hd.le (by decide) Au.le;replace hM:=Au.lt hM;have:=S.size;replace S:=S.ax Au;refine o8 Av rfl rfl (fun me Bv MS MT eQ k8=>?_);obtain⟨eg,kj⟩:∃M',M'=ins Av me:=⟨_,rfl⟩;rw[←kj]at k8;have dV:eg me:=by rw[kj];exact .inl rfl
 change Bv.heap[me]? =some (.cells #[sv k] _ _)at eQ;have:=ak mq;replace nL:=(k8.mem _ this).2 nL;replace mq:=k8.aM mq;replace hd:=hd.le (by decide) k8.le;replace hM:=k8.lt hM;have:=S.size;replace S:=S.ax k8;refine ai rfl rfl (ai rfl rfl (ad (aj (ah (aH Tryz.underlying123 rfl rfl rfl mq rfl (bz (v':=v0) rfl (aU rfl hd.jn rfl ?_)))))));refine aF (M:=eg) (A:=RT.di) (B:=RT.str.sl) Tryz.underlying190 rfl rfl Ie (by decide) Ub rfl rfl (by decide) hd (ao _ _) (fun pn Sz=>?_);refine bY (M:=eg) a8 rfl rfl rfl rfl rfl Sz (ao _ _) (fun vn rO=>?_);replace rO:(RT.str.sl).V eg _ d.1 vn:=rO;have OX:=ei rO;refine bM a8 rfl rO rfl (iw (xs:=[]) (ys:=[.tmp 2,.tmp 3]) rfl rfl rfl ?_)
 refine aQ rfl rfl Y0 (B4 (M:=eg) (n:=d.1.length) (cap:=[.pointer (some ⟨yn,0,none⟩),.pointer (some ⟨me,0,none⟩)]) (good:=Y2 d.1 k) _ Y1 (fun i j gv hj h=>by
  have hi:=aD (show i<d.1.length by omega);have qi:=aD hj;rw[tY hi]at h;rw[tY qi];simp only[oF,decide_eq_false_iff_not]at h ⊢;intro dC;rcases kR d.1[i] d.1[j]with h1|h1|h1
  ·exact h (lL h1 dC)
  ·rw[h1]at h;exact h dC
  ·exact Sy ym gv hi qi h1) (by omega) (fun i w hi s=>by
  have hx:=aD hi;rw[tY hx];exact As w (hd.le (by decide) s.le) (s.aM mq) (s.aM eQ) hx)) (fun r1 w1 hc=>?_)
 obtain⟨m,rfl,hm,Fg,PT,s1⟩:=hc;have em:EH d.1 k=m:=tX hm (fun i x hi hx=>by have:=Fg i hi;rw[tY hx]at this;simpa using this) (fun i x hi hx=>by have:=PT i hi (av.1 hx).1;rw[tY hx]at this;simpa using this);have:=ak mq;replace nL:=(s1.mem _ this).2 nL;replace mq:=s1.aM mq;have:=ak eQ;replace dV:=(s1.mem _ this).2 dV;replace eQ:=s1.aM eQ;replace hd:=hd.le (by decide) s1.le;replace hM:=s1.lt hM;have:=S.size;replace S:=S.ax s1;refine ai rfl rfl (ad (aj ?_));apply T.j7 mixed rfl rfl;intro wD2 sA2;have Ea:=sA2 eg;have:=ak mq;replace nL:=(Ea.mem _ this).2 nL;replace mq:=Ea.aM mq;have:=ak eQ;replace dV:=(Ea.mem _ this).2 dV;replace eQ:=Ea.aM eQ;replace hd:=hd.le (by decide) Ea.le;replace hM:=Ea.lt hM;have:=S.size;replace S:=S.ax Ea;refine ae rfl rfl ?_;refine ad ⟨rfl,rfl,rfl,?_⟩;refine ae rfl rfl ?_;refine ad ⟨rfl,rfl,rfl,?_⟩;refine aH Tryz.underlying123 rfl rfl rfl mq rfl (bz (v':=v0) rfl ?_);refine ad ⟨rfl,rfl,rfl,?_⟩;refine aU rfl hd.jn rfl ?_;refine ad ⟨rfl,rfl,rfl,?_⟩;refine aF (M:=eg) (A:=RT.di) (B:=RT.str.sl) Tryz.underlying190 rfl rfl Ie (by decide) Ub rfl rfl (by decide) hd (ao _ _) (fun pn2 Y5=>?_);refine ad ⟨rfl,rfl,rfl,?_⟩;refine bY (M:=eg) a8 rfl rfl rfl rfl rfl Y5 (ao _ _) (fun vn2 Of=>?_);replace Of:(RT.str.sl).V eg _ d.1 vn2:=Of;refine ad ⟨rfl,rfl,rfl,?_⟩;refine bM a8 rfl Of rfl ?_;refine ad ⟨rfl,rfl,rfl,?_⟩;refine b4 rfl rfl rfl ?_;refine ad ⟨rfl,rfl,rfl,?_⟩;refine ae rfl rfl ?_;refine ad ⟨rfl,rfl,rfl,?_⟩;refine aJ (g:=22) rfl (fun Y6=>?_) (fun Y6=>?_)
 ·refine al rfl rfl (aH Tryz.underlying123 rfl rfl rfl mq rfl (bz (v':=v0) rfl ?_));refine ad ⟨rfl,rfl,rfl,?_⟩;refine al rfl rfl (aU rfl hd.jn rfl ?_);refine ad ⟨rfl,rfl,rfl,?_⟩;refine al rfl rfl ?_;refine aF (M:=eg) (A:=RT.di) (B:=RT.str.sl) Tryz.underlying190 rfl rfl Ie (by decide) Ub rfl rfl (by decide) hd (ao _ _) (fun pn3 Y7=>?_);refine ad ⟨rfl,rfl,rfl,?_⟩;refine al rfl rfl ?_;refine bY (M:=eg) a8 rfl rfl rfl rfl rfl Y7 (ao _ _) (fun vn3 Og=>?_);replace Og:(RT.str.sl).V eg _ d.1 vn3:=Og;refine ad ⟨rfl,rfl,rfl,?_⟩;refine al rfl rfl (ae rfl rfl ?_);refine ad ⟨rfl,rfl,rfl,?_⟩;refine al rfl rfl ?_;refine cK (M:=eg) a8 I9 rfl rfl rfl Og (ao _ _) (by omega) (fun u2 x SA rv=>?_);rw[aw]at SA;refine ad ⟨rfl,rfl,rfl,?_⟩;refine al rfl rfl ?_;refine bY (M:=eg) aC rfl rfl rfl rfl rfl rv (ao _ _) (fun vx tu=>?_);obtain rfl:=eD tu;refine ad ⟨rfl,rfl,rfl,?_⟩;refine al rfl rfl (aH aC rfl rfl rfl eQ rfl (bz (v':=sv k) rfl ?_));refine ad ⟨rfl,rfl,rfl,?_⟩;refine al rfl rfl (Rg.vG rfl rfl rfl ?_);refine ad ⟨rfl,rfl,rfl,?_⟩;refine aR rfl rfl rfl ?_;refine ad ⟨rfl,rfl,rfl,?_⟩;refine ai rfl rfl ?_;refine ad ⟨rfl,rfl,rfl,?_⟩;refine ai rfl rfl ?_;refine ad ⟨rfl,rfl,rfl,?_⟩;refine fa (aL ?_);rw[←em]at*
  first
  |(have e:decide (x=k)=decide (k∈d.1):=decide_eq_decide.2 (by rw[←Hu ym,SA];simp)
    exact eN rfl rfl rfl ⟨by rw[e],S.back⟩)
  |(have e:k∉d.1:=fun h=>by have:=(yk ym).1 h;have:=(av.1 this).1;omega
    exact eN rfl rfl rfl ⟨by rw[decide_eq_false e],S.back⟩)
 ·refine aq rfl rfl rfl rfl ?_;refine ad ⟨rfl,rfl,rfl,?_⟩;refine aq rfl rfl rfl rfl ?_;refine ad ⟨rfl,rfl,rfl,?_⟩;refine aq rfl rfl rfl rfl ?_;refine ad ⟨rfl,rfl,rfl,?_⟩;refine aq rfl rfl rfl rfl ?_;refine ad ⟨rfl,rfl,rfl,?_⟩;refine aq rfl rfl rfl rfl ?_;refine ad ⟨rfl,rfl,rfl,?_⟩;refine aq rfl rfl rfl rfl ?_;refine ad ⟨rfl,rfl,rfl,?_⟩;refine aq rfl rfl rfl rfl ?_;refine ad ⟨rfl,rfl,rfl,?_⟩;refine aq rfl rfl rfl rfl ?_;refine ad ⟨rfl,rfl,rfl,?_⟩;refine aq rfl rfl rfl rfl ?_;refine ad ⟨rfl,rfl,rfl,?_⟩;refine az rfl rfl rfl ?_;refine ad ⟨rfl,rfl,rfl,?_⟩;refine ai rfl rfl ?_;refine ad ⟨rfl,rfl,rfl,?_⟩;refine ai rfl rfl ?_;refine ad ⟨rfl,rfl,rfl,?_⟩;refine fa (aL ?_);rw[←em]at*
  first
  |(have e:decide (x=k)=decide (k∈d.1):=decide_eq_decide.2 (by rw[←Hu ym,SA];simp)
    exact eN rfl rfl rfl ⟨by rw[e],S.back⟩)
  |(have e:k∉d.1:=fun h=>by have:=(yk ym).1 h;have:=(av.1 this).1;omega
    exact eN rfl rfl rfl ⟨by rw[decide_eq_false e],S.back⟩)
theorem find_spec {M:aB} {d:Di} {v0:Value} {k:List UInt8} (w0:World) (hM:Lt M w0) (hd:cp RT.di M w0 v0 d) (ym:x9 d.1) (hl:d.1.length=d.2.length):
  Spec Tryz.prog 73 #[v0,sv k] w0 (fun v w=>Step M w0 M w aA∧((∃(j:Nat) (p:Value) (t:Li),v= .tuple #[p,.bool true]∧d.1[j]? =some k∧d.2[j]? =some t∧cp RT.li M w p t)∨(v= .tuple #[.pointer none,.bool false]∧k∉d.1))):=by
 refine aZ (args:=[_,_]) (fn:=Tryz.f73) Tryz.func73 rfl (n:=25) Tryz.ntmps73 ?_;have S:Step M w0 M w0 aA:=(an _ _).ca (fun _ h=>h.elim) (fun _ h=>h.elim);refine aj (ah (ai rfl rfl (ai rfl rfl (ad (aj (ah (ae rfl rfl (ae rfl rfl ?_))))))));refine aQ rfl rfl YZ (B5 _ hM hd ym) (fun r1 w1 hc=>?_);obtain⟨rfl,s1⟩:=hc;replace hd:=hd.le (by decide) s1.le;replace hM:=s1.lt hM;have:=S.size;replace S:=S.ax s1;refine ae rfl rfl (bU rfl rfl rfl (bU rfl rfl rfl (ai rfl rfl (ai rfl rfl (ad (aj (aj (ah (ae rfl rfl (rq rfl rfl (bz (v':= .bool (decide (k∉d.1))) (by simp) ?_)))))))))));refine ad ?_;refine bH rfl (fun c2=>?_) (fun c2=>?_)
 ·refine aj (ah (ai rfl rfl (ad (aj (ah (ae rfl rfl (ai rfl rfl (ai rfl rfl (ad (aL ?_))))))))));exact eN rfl rfl rfl ⟨S,.inr ⟨rfl,c2⟩⟩
 ·refine aS (aj (ah (ae rfl rfl (aU rfl hd.jn rfl ?_))));refine aF (M:=M) (A:=RT.di) (B:=((RT.li).ptr).sl) Tryz.underlying190 rfl rfl BX (by decide) di1 rfl rfl (by decide) hd (ao _ _) (fun pt UE=>?_);refine bY (M:=M) dO rfl rfl rfl rfl rfl UE (ao _ _) (fun vt B6=>?_);replace B6:(((RT.li).ptr).sl).V M _ d.2 vt:=B6;refine ae rfl rfl ?_;have hk:=(yk ym).1 (dY.1 c2);have Dq:=(av.1 hk).1;refine cK (M:=M) dO oN rfl rfl rfl B6 (ao _ _) (by omega) (fun u5 t DJ Bk=>?_);rw[aw]at DJ;refine bY (M:=M) cO rfl rfl rfl rfl rfl Bk (ao _ _) (fun vp Y8=>?_);have Y9:=CZ.1 Y8;refine ai rfl rfl (ai rfl rfl (ad (aL ?_)));exact eN rfl rfl rfl ⟨S,.inl ⟨_,_,t,rfl,hk,DJ,Y9⟩⟩
end Go.K
namespace Go.K
open Go.Proofs
namespace TKSegC
theorem BX:TI Tryz.prog 188 (.slice none 0 0) 1 24:=by unfold TI;kernel_rfl
end TKSegC
open TKSegC
set_option maxRecDepth 10000
end Go.K
namespace Go.K
open Go.Proofs
namespace TKSegD
theorem Oh:TI Tryz.prog 123 (.pointer none) 1 8:=by unfold TI;kernel_rfl
end TKSegD
open TKSegD
set_option maxRecDepth 10000
end Go.K
namespace Go.K
open Go.Proofs
namespace TKSegE
theorem Oh:TI Tryz.prog 123 (.pointer none) 1 8:=by unfold TI;kernel_rfl
theorem E73:Enters Tryz.prog 73:=enters Tryz.func73 rfl (by decide)
end TKSegE
open TKSegE
set_option maxRecDepth 10000
def lg (ns:List (List UInt8)) (ls:List (List Po)) (k:List UInt8):List Po:=match (ns.zip ls).find? (fun p=>decide (p.1=k))with|some p=>p.2|none=>[]
theorem Hv {ns:List (List UInt8)} (hn:ns.Nodup) {ls:List (List Po)} {k:List UInt8} {j:Nat} {l:List Po} (h:ns[j]? =some k) (hl:ls[j]? =some l):lg ns ls k=l:=by
 have:∀{ns:List (List UInt8)} {ls:List (List Po)} {j:Nat},ns.Nodup→ns[j]? =some k→ls[j]? =some l→(ns.zip ls).find? (fun p=>decide (p.1=k))=some (k,l):=by
  intro ns
  induction ns with
  |nil=>intro ls j _ h;simp at h
  |cons x ns ih=>
   intro ls j hn h hl
   cases ls with
   |nil=>simp at hl
   |cons y ls=>
    cases j with
    |zero=>simp at h hl;subst h;subst hl;simp
    |succ j=>
     have KX:=rZ.1 hn;have hk:k∈ns:=aI (by simpa using h);have hx:x≠k:=fun e=>KX.1 (by rw[e];exact hk)
     rw[List.zip_cons_cons,List.find?_cons_of_neg (by simpa using hx)];exact ih KX.2 (by simpa using h) (by simpa using hl)
 unfold lg;rw[this hn h hl]
theorem Aw {ns:List (List UInt8)} {ls:List (List Po)} {k:List UInt8} (h:k∉ns):lg ns ls k=[]:=by
 unfold lg;rw[List.find?_eq_none.2 fun p hp=>by have:=List.of_mem_zip hp;simp;intro e;exact h (e▸this.1)]
theorem ua {L:List En} (k:List UInt8):lg (keysOf L) ((keysOf L).map (pk L)) k=pk L k:=by
 by_cases h:k∈keysOf L
 ·obtain⟨j,hj⟩:=bF.1 h;exact Hv (kS L).nodup hj (by rw[cy,hj];rfl)
 ·rw[Aw h];exact(CY 0 (fun h'=>h (ku.2 h'))).symm
def rj (d:Di) (k:List UInt8) (M:aB) (v:Value) (w:World):Prop:=(∃(j:Nat) (t:Li),d.1[j]? =some k∧d.2[j]? =some t∧cp RT.li M w v t)∨(v= .pointer none∧k∉d.1)
theorem rj.step {d:Di} {k:List UInt8} {M M':aB} {v:Value} {w w':World} (h:rj d k M v w) (s:Step M w M' w' aA):rj d k M' v w':=h.imp (fun⟨j,t,h1,h2,h3⟩=>⟨j,t,h1,h2,h3.le (by decide) s.le⟩) id
theorem Eb {M:aB} {t:Fd} (w0:World) (hM:Lt M w0) (h1:t.1.length≤140737488355328) (h2:t.2.length≤140737488355328):
  Spec Tryz.prog 74 #[kv t] w0 (fun v w=>v= .string ⟨(cL t).toArray⟩∧Step M w0 M w aA):=by
 refine aZ (args:=[_]) (fn:=Tryz.f74) Tryz.func74 rfl (n:=9) Tryz.ntmps74 ?_;have S:Step M w0 M w0 aA:=(an _ _).ca (fun _ h=>h.elim) (fun _ h=>h.elim);refine aj (ah ?_);refine gx (A:=RT.fd) rfl rfl hM (xX (by omega) (by omega)) rfl (fun u0 w1 cv s0 _=>?_);replace hM:=s0.lt hM;have:=S.size;replace S:=S.ax s0;refine ai rfl rfl (ad (aj (ah ?_)));refine aF (M:=M) (A:=RT.fd) (B:=RT.str) bR rfl rfl I9 (by decide) (Jb) rfl rfl (by decide) (by assumption) (by repeat (first|exact ao _ _|refine aT (bj (by assumption)) ?_)) (fun uP jI=>?_);refine bY (M:=M) aC rfl rfl rfl rfl rfl jI (ao _ _) (fun v1 k7=>?_);obtain rfl:=eD k7;refine Rg.cat (p:=t.1) (q:=[0]) rfl rfl rfl (by simp;omega) ?_;refine aF (M:=M) (A:=RT.fd) (B:=RT.str) bR rfl rfl I9 (by decide) (O0) rfl rfl (by decide) (by assumption) (by repeat (first|exact ao _ _|refine aT (bj (by assumption)) ?_)) (fun FC fH=>?_);refine bY (M:=M) aC rfl rfl rfl rfl rfl fH (ao _ _) (fun v4 qq=>?_);obtain rfl:=eD qq;refine Rg.cat (p:=t.1++[0]) (q:=t.2) rfl rfl rfl (by simp;omega) (ai rfl rfl (ad (aL ?_)));exact aO rfl rfl ⟨rfl,S⟩
end Go.K
namespace Go.K
open Go.Proofs
namespace TKCursor
theorem Oi:TI Tryz.prog 216 (.agg #[(.pointer none),(.int .i64 0),(.slice none 0 0),(.int .i64 0),(.int .i64 0)]) 5 56:=by unfold TI;kernel_rfl
theorem Oj:placesOf Tryz.prog 216=[(0,1),(1,1),(2,1),(3,1),(4,1)].map some:=by kernel_rfl
end TKCursor
open TKCursor
set_option maxRecDepth 10000
theorem rl {l:List Po} {j:Nat} {p:Po} (h:l[j]? =some p):(jB l (j:Int))[0]? =some p:=by
 unfold jB;rw[if_neg (by omega),aw,dG,if_pos (by omega),List.getElem?_drop];simpa using h
theorem B7 {l:List Po} {i:Int} (h:(l.length:Int)≤i):jB l i=[]:=by
 unfold jB;rw[if_neg (by omega),eu (by omega),List.take_nil]
theorem Ec {M:aB} {w0:World} {q:Addr} {l:List Po} (hv:cp RT.li M w0 (.pointer (some q)) (hU l)):
  Spec Tryz.prog 140 #[.pointer (some q)] w0 (fun v' w'=>∃bc,v'= .pointer (some ⟨bc,0,none⟩)∧w0.heap.size≤bc∧Step M w0 (ins M bc) w' aA∧Cu 216 l (-1) (ins M bc) w' bc):=by
 refine aZ (args:=[_]) (fn:=Tryz.f140) Tryz.func140 rfl (n:=12) Tryz.ntmps140 (aj (ah (ai rfl rfl (ad (aj (aj (ah (ae rfl rfl (Rg.E7 (v:= .pointer (some q)) cO rfl ⟨_,rfl⟩ rfl rfl (bz (v':= .bool (decide False)) rfl (ad ?_)))))))))));refine T.AY rfl ((fun h=>h)) (aS (aj (ah (ae rfl rfl (dU (places:=[(0,1),(1,1),(2,1),(3,1),(4,1)]) bE Oi Oj rfl ⟨_,_,rfl,rfl,_,_,rfl,rfl,_,_,rfl,rfl,rfl⟩ (out:=[_,_,.slice none 0 0,_,.int .i64 0]) ⟨0,[_],rfl,rfl,by simp[Value.cells],1,[_],rfl,rfl,by simp[Value.cells],3,[_],rfl,rfl,by simp[Value.cells],rfl⟩ ?_)))));refine o8 M rfl rfl (fun bc w1 h1 KB hS s1=>?_);refine ai rfl rfl (ad (aL ?_));exact aO rfl rfl ⟨bc,rfl,h1,s1,.pointer (some q),.slice none 0 0,-1,0,.inl rfl,hS,hv.le (by decide) s1.le,jG,by omega,by omega,fun _=>rfl,fun h=>by omega⟩
def pT (l:List Po) (i:Int):Int:=if i<l.length then i+1 else i
theorem Hw {l:List Po} (hm:dR (-1) l=true) {i:Int} (hi: -1≤i∧i≤l.length):ql l i (min (eG l i+1) 2147483648)=pT l i:=by
 unfold ql pT;rcases jq l i with⟨h0,h,_⟩|⟨j,d,ps,rfl,hx,h,_⟩|⟨h0,h,_⟩
 ·rw[h,if_neg (by omega),if_pos (by omega)];rw[idx_eq (i:=0) (fun j hj=>absurd hj (jK _)) (fun p hp=>by have:=l5 hm (i:=0) (d:=p.1) (ps:=p.2) hp;omega) (bB _)];omega
 ·have hr:=l5 hm hx;have hj:=(av.1 hx).1;rw[h,if_neg (by omega),if_pos (by omega)];rw[idx_eq (i:=j+1) (fun t ht p hp=>?_) (fun p hp=>?_) (by omega)]
  ·omega
  ·rcases cU t j with h1|h1
   ·have:=CE hm hp hx h1;simp only at this;omega
   ·rw[show t=j from by omega,hx]at hp;cases hp;simp only;omega
  ·have h1:=CE hm hx hp (by omega);have h2:=l5 hm (i:=j+1) (d:=p.1) (ps:=p.2) hp;simp only at h1;omega
 ·rw[h,if_pos (by omega),if_neg (by omega)]
end Go.K
namespace Go.K
open Go.Proofs
namespace TKIdx
theorem Za:Enters Tryz.prog 186:=enters Tryz.func186 rfl (by decide)
end TKIdx
open TKIdx
set_option maxRecDepth 10000
theorem Ed {M:aB} {w0:World} {x:Value} {d to:Int} {bt:Nat} (hM:Lt M w0) (hb:w0.heap[bt]? =some (.cells #[.int .i64 to] 3 (0,0))):
  Spec Tryz.prog 186 #[.agg #[.int .i64 d,x],.pointer (some ⟨bt,0,none⟩)] w0 (fun v' w'=>v'= .bool (decide (to≤d))∧Step M w0 M w' aA):=by
 refine aZ (args:=[_,_]) (fn:=Tryz.f186) Tryz.func186 rfl (n:=8) Tryz.ntmps186 (aj (ah ?_));refine o8 M rfl rfl (fun bx w1 h1 KB hS s1=>?_);change w1.heap[bx]? =some (.cells #[.int .i64 d,x] _ _)at hS;have rC:=s1.aM hb;refine ai rfl rfl (ad (aj (ah (aV bL rfl rfl I3 (by decide) rfl rfl (aH ar rfl rfl rfl (by assumption) rfl (aH ar rfl rfl rfl (by assumption) rfl (dz rfl rfl rfl (ai rfl rfl (ad (aL ?_))))))))));exact aO rfl rfl ⟨rfl,s1.back⟩
set_option maxHeartbeats 2000000 in
theorem pU {M:aB} {w0:World} {v:Value} {lf:List Po} {to:Int} {bt:Nat} (hM:Lt M w0) (hv:((RT.po).sl).V M w0 lf v) (hb:w0.heap[bt]? =some (.cells #[.int .i64 to] 3 (0,0))):
  Spec Tryz.prog 185 #[v,.func (.func 186) #[] #[.pointer (some ⟨bt,0,none⟩)]] w0 (fun v' w'=>v'= .int .i64 (if idx lf to<lf.length then(idx lf to:Int)else-1)∧Step M w0 M w' aA):=by
 have hlen:=ei hv;refine aZ (args:=[_,_]) (fn:=Tryz.f185) Tryz.func185 rfl (n:=19) Tryz.ntmps185 (aj (ah (ai rfl rfl (ad (aj (aj (ah (ae rfl rfl (bM aX rfl hv rfl (ae rfl rfl (ad ?_)))))))))));refine aY ?_;refine dr (σ:=Nat) (fun s=>[(0,v),(1,.func (.func 186) #[] #[.pointer (some ⟨bt,0,none⟩)]),(7,.int .i64 lf.length),(8,.int .i64 s)]) (fun s w=>s≤lf.length∧Step M w0 M w aA∧∀j,j<s→∀p,lf[j]? =some p→p.1<to) (fun s=>lf.length-s) 0 (.cons rfl (.cons rfl (.cons rfl (.cons rfl .nil)))) ?_ ?_
 ·exact⟨bB _,an _ _,fun j hj=>absurd hj (jK _)⟩
 ·rintro k w1 ⟨hk,S,dC⟩;refine aj (ah (b4 rfl rfl rfl (ad (aj ?_))));refine bH rfl (fun c2=>?_) (fun c2=>?_)
  ·refine aS (aj (aY (aj (ah (ae rfl rfl (ai rfl rfl (ad (aj (ah (ae rfl rfl (ae rfl rfl ?_)))))))))));refine ae rfl rfl ?_;obtain⟨⟨d,ps⟩,hx⟩:∃x,(lf)[k]? =some x:=⟨_,aD (by omega)⟩;refine cK (M:=M) aX gD rfl rfl rfl (hv.le S.le) (ao _ _) (by first|omega|decide) (fun Qn Zb SB acF=>?_);obtain rfl:(d,ps)=Zb:=eM (bp (SB.symm.trans (by simpa using hx)));refine b5 (M:=M) (A:=RT.po) bL rfl gD (by decide) rfl rfl rfl (by assumption) (by repeat (first|exact ao _ _|refine aT (bj (by assumption)) ?_)) (fun agz SC=>?_);obtain⟨x4,rfl,_,_⟩:=L8 SC;refine Rg.o9 (first:=[]) (captured:=[.pointer (some ⟨bt,0,none⟩)]) (xs:=[.tmp 15]) rfl rfl rfl Za (Ed (M:=M) (d:=d) (x:=x4) (S.lt hM) (S.aM hb)) (fun r w2 h2=>?_);obtain⟨rfl,s2⟩:=h2;refine ad ?_;refine bH rfl (fun c4=>?_) (fun c4=>?_)
   ·refine aj (ah (ae rfl rfl (ai rfl rfl (ad (aL ?_)))));have he:idx lf to=k:=idx_eq dC (fun p hp=>by rw[hx]at hp;cases hp;exact c4) hk;exact aO rfl rfl ⟨by rw[he,if_pos (by omega)],S.ax s2⟩
   ·refine aS (ah (bu rfl rfl rfl (by omega) (ae rfl rfl (ad ?_))));refine⟨rfl,k+1,(.cons rfl (.cons rfl (.cons rfl (.cons rfl .nil)))),?_,?_⟩
    ·refine⟨by omega,S.ax s2,fun j hj p hp=>?_⟩;rcases cU j k with Pj|Pj
     ·exact dC j Pj p hp
     ·rw[show j=k from by omega,hx]at hp;cases hp;simp only;omega
    ·show _-(k+1)<_-k;omega
  ·refine cG (aj (ah (ai rfl rfl (ad (aL ?_)))))
   have he:idx lf to=lf.length:=by
    obtain rfl:k=lf.length:=by omega
    exact idx_eq dC (fun p hp=>by simp at hp) (a7 _)
   exact aO rfl rfl ⟨by rw[he,if_neg (by omega)],S⟩
end Go.K
namespace Go.K
open Go.Proofs
namespace TKAdv
theorem jQ:TI Tryz.prog 107 (.slice none 0 0) 1 24:=by unfold TI;kernel_rfl
theorem Zc:Enters Tryz.prog 141:=enters Tryz.func141 rfl (by decide)
theorem Zd:Enters Tryz.prog 180:=enters Tryz.func180 rfl (by decide)
theorem J3:Enters Tryz.prog 183:=enters Tryz.func183 rfl (by decide)
theorem Ze:Enters Tryz.prog 184:=enters Tryz.func184 rfl (by decide)
theorem SD:Enters Tryz.prog 185:=enters Tryz.func185 rfl (by decide)
end TKAdv
open TKAdv
set_option maxRecDepth 10000
set_option maxHeartbeats 2000000 in
theorem yo {M:aB} {w0:World} {bc:Nat} {l:List Po} {i to:Int} (h:Cu 216 l i M w0 bc) (hM:Lt M w0) (hm:dR (-1) l=true) (rr:∀p∈l,p.2.length≤1099511627776) (AX:(dy (-1) l).length≤1099511627776) (Iw:l.length≤1099511627776) (PM: -9223372036854775808≤to∧to≤9223372036854775807):
  Spec Tryz.prog 141 #[.pointer (some ⟨bc,0,none⟩),.int .i64 to] w0 (fun v' w'=>v'= .int .i64 (eG l (ql l i to))∧Step M w0 M w' (fun b=>b=bc)∧Cu 216 l (ql l i to) M w' bc):=by
 obtain⟨p,u,k,Ez,Pk,hb,hp,hu,hi,hk,PU,p6⟩:=id h;have H7:(hU l).2.1.length=(l.length+7)/8:=by simp[hU,mO]
 have yC:∀b:Nat,b=bc→M b:=fun b hb=>by rw[hb];exact Pk
 have hdr:=vU hm i;refine aZ (args:=[_,_]) (fn:=Tryz.f141) Tryz.func141 rfl (n:=107) Tryz.ntmps141 (aj (ah ?_));refine o8 M rfl rfl (fun bt w1 ht ht' hT s1=>?_);change w1.heap[bt]? =some (.cells #[.int .i64 to] _ _)at hT;have D8:bt≠bc:=by have:=ak hb;omega
 have rC:=s1.aM hb;generalize vw:ins M bt=M1 at s1;have rE:=s1.lt hM;have Lg:=hp.le (by decide) s1.le;have ry:=hu.le s1.le;have vz:=(s1.mem bc (ak hb)).2 Pk;have hcM:∀b:Nat,b=bc→M1 b:=fun b h=>by rw[h];exact vz
 refine ai rfl rfl (ad (aj (aj ?_)));apply T.draw (M:=M1) mixed [cg.eq _,cg.eq _,cg.eq _,cg.eq _,cg.eq _,cg.eq _]
 ·rfl
 ·refine aN ?_ ?_
  ·intro wD E sD;refine aH ar rfl rfl rfl (cc sD (by assumption)) rfl ?_;exact ad ⟨rfl,rfl,_,rfl,rfl,an _ _⟩
  refine aN ?_ ?_
  ·intro wD E sD;refine ae rfl rfl ?_;exact ad ⟨rfl,rfl,_,rfl,rfl,an _ _⟩
  refine aN ?_ ?_
  ·intro wD E sD;refine ay (aU rfl ⟨_,rfl⟩ rfl ?_);exact ad ⟨rfl,rfl,_,rfl,rfl,an _ _⟩
  refine aN ?_ ?_
  ·intro wD E sD;refine ay (aV bE rfl rfl I3 (by decide) rfl rfl ?_);exact ad ⟨rfl,rfl,_,rfl,rfl,an _ _⟩
  refine aN ?_ ?_
  ·intro wD E sD;refine ay (aH ar rfl rfl rfl (cc sD (by assumption)) rfl ?_);exact ad ⟨rfl,rfl,_,rfl,rfl,an _ _⟩
  refine aN ?_ ?_
  ·intro wD E sD;refine ay (ay (eV rfl rfl rfl ?_));exact ad ⟨rfl,rfl,_,rfl,rfl,an _ _⟩
  exact b9.nil
 ·intro FB kH;refine ay (ay (ay (ay (ay (ay ?_)))));have yy:=kH.aM rC;refine bH rfl (fun c1=>?_) (fun c1=>?_)
  ·refine aj (ah (ae rfl rfl (aU rfl ⟨_,rfl⟩ rfl (aV bE rfl rfl I3 (by decide) rfl rfl (aH ar rfl rfl rfl (by assumption) rfl (ai rfl rfl (ad (aL ?_))))))));have he:ql l i to=i:=by unfold ql;rw[if_pos c1]
   rw[he];have S:=s1.ax kH;exact aO rfl rfl ⟨rfl,S.back.ca (fun _ h=>h.elim) yC,h.step S.back (fun h=>h)⟩
  ·refine aS (aj (ah (ae rfl rfl (aU rfl ⟨_,rfl⟩ rfl (aV bE rfl rfl I3 (by decide) rfl rfl (aH ar rfl rfl rfl (by assumption) rfl (Rg.max2 rfl rfl rfl (ai rfl rfl (ad (aj (aY ?_)))))))))));refine dr (σ:=Nat) (fun s=>[(0,.pointer (some ⟨bc,0,none⟩)),(3,.pointer (some ⟨bt,0,none⟩)),(5,.int .i64 s)]) (fun s w=>s≤(l.length+7)/8∧b8 (-1) (l.take (8*s))<to∧Step M1 w1 M1 w aA) (fun s=>(l.length+7)/8-s) (max k 0).toNat (.cons rfl (.cons rfl (.cons (by rw[show(((max k 0).toNat:Nat):Int)=max k 0 from by omega];rfl) .nil))) ?_ ?_
   ·exact⟨by omega,DC hm hi hk PU p6 (by omega),kH⟩
   ·rintro n w4 ⟨hn,Fg,S4⟩;have JO:=S4.aM rC;have Pl:=S4.aM hT;have EI:=Lg.le (by decide) S4.le;refine aj (aj ?_);by_cases SE:(n:Int)<(((l.length+7)/8:Nat):Int)
    ·apply T.draw (M:=M1) mixed [cg.eq _,cg.eq _,cg.eq _,cg.eq _,cg.eq _,cg.eq _,cg.eq _,cg.eq (.bool true),cg.eq _,cg.eq _,cg.eq _,cg.eq _,cg.eq _,cg.eq _,cg.eq _,cg.eq _,cg.eq _]
     ·rfl
     ·refine aN ?_ ?_
      ·intro wD E sD;refine ae rfl rfl ?_;exact ad ⟨rfl,rfl,_,rfl,rfl,an _ _⟩
      refine aN ?_ ?_
      ·intro wD E sD;refine ae rfl rfl ?_;exact ad ⟨rfl,rfl,_,rfl,rfl,an _ _⟩
      refine aN ?_ ?_
      ·intro wD E sD;refine ay (aU rfl ⟨_,rfl⟩ rfl ?_);exact ad ⟨rfl,rfl,_,rfl,rfl,an _ _⟩
      refine aN ?_ ?_
      ·intro wD E sD;refine ay (aV bE rfl rfl oN (by decide) rfl rfl ?_);exact ad ⟨rfl,rfl,_,rfl,rfl,an _ _⟩
      refine aN ?_ ?_
      ·intro wD E sD;refine ay (aH cO rfl rfl rfl (cc sD (by assumption)) rfl ?_);exact ad ⟨rfl,rfl,_,rfl,rfl,an _ _⟩
      refine aN ?_ ?_
      ·intro wD E sD;refine ay ?_;refine aQ rfl rfl J3 (kT (M:=M1) (EI.le (by decide) sD.le)) (fun r wc h=>?_);obtain⟨rfl,rfl⟩:=h;exact ad ⟨rfl,rfl,_,rfl,congrArg (fun n:Nat=>Value.int .i64 n) H7,an _ _⟩
      refine aN ?_ ?_
      ·intro wD E sD;refine ay (ay (b4 rfl rfl rfl ?_));exact ad ⟨rfl,rfl,_,rfl,rfl,an _ _⟩
      refine aN ?_ ?_
      ·intro wD E sD;refine ay (ay (ae rfl rfl ?_));refine ad ⟨rfl,rfl,_,rfl,?_,an _ _⟩;exact congrArg Value.bool (decide_eq_true SE)
      refine aN ?_ ?_
      ·intro wD E sD;refine ay (al rfl rfl (ae rfl rfl ?_));exact ad ⟨rfl,rfl,_,rfl,rfl,an _ _⟩
      refine aN ?_ ?_
      ·intro wD E sD;refine ay (ay (al rfl rfl (aU rfl ⟨_,rfl⟩ rfl ?_)));exact ad ⟨rfl,rfl,_,rfl,rfl,an _ _⟩
      refine aN ?_ ?_
      ·intro wD E sD;refine ay (ay (al rfl rfl (aV bE rfl rfl oN (by decide) rfl rfl ?_)));exact ad ⟨rfl,rfl,_,rfl,rfl,an _ _⟩
      refine aN ?_ ?_
      ·intro wD E sD;refine ay (ay (al rfl rfl (aH cO rfl rfl rfl (cc sD (by assumption)) rfl ?_)));exact ad ⟨rfl,rfl,_,rfl,rfl,an _ _⟩
      refine aN ?_ ?_
      ·intro wD E sD;refine ay (al rfl rfl (ae rfl rfl ?_));exact ad ⟨rfl,rfl,_,rfl,rfl,an _ _⟩
      refine aN ?_ ?_
      ·intro wD E sD;refine ay (ay (ay (ay (al rfl rfl ?_))));refine aQ rfl rfl Ze (D6 (k:=n) (EI.le (by decide) sD.le)) (fun r wc h=>?_);obtain⟨rfl,rfl⟩:=h;exact ad ⟨rfl,rfl,_,rfl,rfl,an _ _⟩
      refine aN ?_ ?_
      ·intro wD E sD;refine ay (al rfl rfl (aH ar rfl rfl rfl (cc sD (by assumption)) rfl ?_));exact ad ⟨rfl,rfl,_,rfl,rfl,an _ _⟩
      refine aN ?_ ?_
      ·intro wD E sD;refine ay (ay (ay (al rfl rfl (b4 rfl rfl rfl ?_))));exact ad ⟨rfl,rfl,_,rfl,rfl,an _ _⟩
      refine aN ?_ ?_
      ·intro wD E sD;refine ay (ay (aR rfl rfl rfl ?_));exact ad ⟨rfl,rfl,_,rfl,rfl,an _ _⟩
      exact b9.nil
     ·intro wD4 wI;refine ay (ay (ay (ay (ay (ay (ay (ay (ay (ay (ay (ay ?_)))))))))));refine ay (ay (ay (ay (ay ?_))));replace S4:=S4.ax wI;replace JO:=wI.aM JO;replace Pl:=wI.aM Pl;replace EI:=EI.le (by decide) wI.le;have N4:=S4.lt rE;refine bH rfl (fun c4=>?_) (fun c4=>?_)
      ·refine aS (aY (ah (ae rfl rfl (bu rfl rfl rfl (by omega) (ai rfl rfl (ad ?_))))));refine⟨rfl,n+1,(.cons rfl (.cons rfl (.cons rfl .nil))),?_,?_⟩
       ·have qL:=y3 (g:=l) (k:=n) (by omega);refine⟨by omega,?_,S4⟩;rw[show 8*(n+1)=8*n+8 from by omega,←qL];exact c4
       ·show _-(n+1)<_-n;omega
      ·refine cG (aj (aj (ah (ae rfl rfl (ae rfl rfl (aU rfl ⟨_,rfl⟩ rfl (aV bE rfl rfl oN (by decide) rfl rfl (aH cO rfl rfl rfl (by assumption) rfl ?_))))))));refine aQ rfl rfl J3 (kT (M:=M1) EI) (fun r wc h=>?_);obtain⟨rfl,rfl⟩:=h;refine bz (v':= .int .i64 (((l.length+7)/8:Nat):Int)) (congrArg (fun n:Nat=>Value.int .i64 n) H7) (Rg.AZ rfl rfl rfl (ad ?_));refine bH rfl (fun c6=>?_) (fun c6=>?_)
       ·exfalso;omega
       ·have hnk:n<(l.length+7)/8:=by omega
        have PT:to≤b8 (-1) (l.take (8*n+8)):=by
         first
         |(exfalso;omega)
         |(have:=y3 (g:=l) (k:=n) (by omega);omega)
        refine aS (aj (aj (ah (ae rfl rfl (ae rfl rfl (aU rfl ⟨_,rfl⟩ rfl (aV bE rfl rfl I3 (by decide) rfl rfl (aH ar rfl rfl rfl (by assumption) rfl (eW rfl rfl rfl (ad ?_))))))))));refine bH rfl (fun c9=>?_) (fun c9=>?_)
        ·refine aj (ah (ae rfl rfl (ae rfl rfl (ae rfl rfl (ae rfl rfl (aU rfl ⟨_,rfl⟩ rfl (aV bE rfl rfl oN (by decide) rfl rfl (aH cO rfl rfl rfl (by assumption) rfl (ae rfl rfl ?_)))))))));refine aQ rfl rfl Zd (BV (M:=M1) (k:=n) N4 EI hm rr AX) (fun QR Wu h=>?_);obtain⟨p8,D2⟩:=h;rw[if_pos (by unfold Fb;simp;omega),aw]at D2;have Zf:=p8.aM JO;refine aU rfl ⟨_,rfl⟩ rfl (aV bE rfl rfl I3 (by decide) rfl rfl ?_);refine bS (M:=M1) I3 rfl rfl Zf rfl rfl vz (fun Uj SF yG=>?_);change Uj.heap[bc]? =some (.cells #[p,.int .i64 n,u,.int .i64 (eG l i),.int .i64 Ez] 216 (0,0))at SF;refine aU rfl ⟨_,rfl⟩ rfl (aV bE rfl rfl jQ (by decide) rfl rfl ?_);refine bS (M:=M1) jQ rfl rfl SF rfl (kb D2 rfl rfl) vz (fun Ja J4 n0=>?_);change Ja.heap[bc]? =some (.cells #[p,.int .i64 n,QR,.int .i64 (eG l i),.int .i64 Ez] 216 (0,0))at J4;refine ad (ah (ae rfl rfl (aU rfl ⟨_,rfl⟩ rfl (aV bE rfl rfl I3 (by decide) rfl rfl (aH ar rfl rfl rfl (by assumption) rfl (Rg.xj rfl rfl rfl (aU rfl ⟨_,rfl⟩ rfl (aV bE rfl rfl I3 (by decide) rfl rfl ?_))))))));refine bS (M:=M1) I3 rfl rfl J4 rfl rfl vz (fun RB Ol vm=>?_);change RB.heap[bc]? =some (.cells #[p,.int .i64 n,QR,.int .i64 (eG l i),.int .i64 (IntKind.i64.wrap (Ez+1))] 216 (0,0))at Ol;obtain⟨lf,uX,cX,s,wX,Zg,Zh,SG,L7,LO,yA,Zi,Zj,hpX,Zk,SX⟩:∃lf uX cX s wX,wX=RB∧wX.heap[bc]? =some (.cells #[p,.int .i64 n,uX,.int .i64 (eG l i),.int .i64 cX] 216 (0,0))∧((RT.po).sl).V M1 wX lf uX∧lf=(l.drop s).take (8*n+8-s)∧8*n≤s∧s<8*n+8∧s<l.length∧b8 (-1) (l.take s)<to∧cp RT.li M1 wX p (hU l)∧wX.heap[bt]? =some (.cells #[.int .i64 to] 3 (0,0))∧Step M1 w1 M1 wX (fun b=>b=bc):=⟨_,QR,_,8*n,RB,rfl,Ol,((D2.le yG.le).le n0.le).le vm.le,by rw[show 8*n+8-8*n=8 from by omega],by omega,by omega,by omega,Fg,(((EI.le (by decide) p8.le).le (by decide) yG.le).le (by decide) n0.le).le (by decide) vm.le,vm.bJ (n0.bJ (yG.bJ (p8.aM Pl) D8) D8) D8,((((S4.ca (fun _ h=>h.elim) hcM).ax p8).trans yG (fun _ _ h=>h)).trans n0 (fun _ _ h=>h)).trans vm (fun _ _ h=>h)⟩
         subst Zg;clear Ol;refine ad (aj ?_);obtain⟨U5,Kr,Zl,ha4,Zm⟩:=vW hm LO yA Zi Zj PT L7;have Zn:=SX.lt rE;obtain⟨⟨d,ps⟩,hx⟩:∃x,l[idx l to]? =some x:=⟨_,aD Zl⟩;have hh:=rl hx;have hhl:=(av.1 hh).1;apply T.CA (M:=M1) mixed [] [cg.eq _,cg.eq _,cg.eq _,cg.eq _,cg.eq uX,cg.eq _,cg.eq _,cg.eq _,cg.eq uX,cg.eq _,cg.eq _,cg.V ((RT.po).sl) (jB l (idx l to:Nat))] 12
         ·rfl
         ·rfl
         ·rfl
         ·rfl
         ·rfl
         ·exact fun p hp=>by cases hp
         ·exact ru.none
         ·refine aG ?_ ?_
          ·intro wD E sD;refine ae rfl rfl ?_;exact ad ⟨rfl,rfl,_,rfl,rfl,an _ _⟩
          refine aG ?_ ?_
          ·intro wD E sD;refine ae rfl rfl ?_;exact ad ⟨rfl,rfl,_,rfl,rfl,an _ _⟩
          refine aG ?_ ?_
          ·intro wD E sD;refine ay (aU rfl ⟨_,rfl⟩ rfl ?_);exact ad ⟨rfl,rfl,_,rfl,rfl,an _ _⟩
          refine aG ?_ ?_
          ·intro wD E sD;refine ay (aV bE rfl rfl jQ (by decide) rfl rfl ?_);exact ad ⟨rfl,rfl,_,rfl,rfl,an _ _⟩
          refine aG ?_ ?_
          ·intro wD E sD;refine ay (aH aX rfl rfl rfl (cc sD (by assumption)) rfl ?_);exact ad ⟨rfl,rfl,_,rfl,rfl,an _ _⟩
          refine aG ?_ ?_
          ·intro wD E sD;refine ae rfl rfl ?_;exact ad ⟨rfl,rfl,_,rfl,rfl,an _ _⟩
          refine aG ?_ ?_
          ·intro wD E sD;refine ay (aU rfl ⟨_,rfl⟩ rfl ?_);exact ad ⟨rfl,rfl,_,rfl,rfl,an _ _⟩
          refine aG ?_ ?_
          ·intro wD E sD;refine ay (aV bE rfl rfl jQ (by decide) rfl rfl ?_);exact ad ⟨rfl,rfl,_,rfl,rfl,an _ _⟩
          refine aG ?_ ?_
          ·intro wD E sD;refine ay (aH aX rfl rfl rfl (cc sD (by assumption)) rfl ?_);exact ad ⟨rfl,rfl,_,rfl,rfl,an _ _⟩
          refine aG ?_ ?_
          ·intro wD E sD;refine iw (xs:=[]) (ys:=[.tmp 3]) rfl rfl rfl ?_;exact ad ⟨rfl,rfl,_,rfl,rfl,an _ _⟩
          refine aG ?_ ?_
          ·intro wD E sD;refine ay (ay ?_);refine aQ rfl rfl SD (pU (M:=M1) (sD.lt Zn) (SG.le sD.le) (sD.aM Zk)) (fun r wi h=>?_);obtain⟨rfl,s⟩:=h;refine bz (v':= .int .i64 ((idx lf to:Nat):Int)) (by rw[if_pos Kr]) ?_;exact ad ⟨rfl,rfl,_,rfl,rfl,s⟩
          refine aG ?_ ?_
          ·intro wD E sD;refine ay (ay ?_);refine Rg.xk (A:=RT.po) (hn:=by decide) aX gD rfl rfl rfl (SG.le sD.le) (by omega) (fun u hu=>?_);rw[aw,Zm]at hu;exact ad ⟨rfl,rfl,_,rfl,hu,an _ _⟩
          exact bI.nil
         ·intro Hg tV;refine ay (ay (ay (ay (ay (ay (ay (ay (ay (ay (ay ?_))))))))));intro mu yp;have Om:=tV.aM Zh;have jH:((RT.po).sl).V M1 Hg (jB l (idx l to:Nat)) mu:=yp;have Zo:=SX.ax tV;refine aU rfl ⟨_,rfl⟩ rfl (aV bE rfl rfl jQ (by decide) rfl rfl ?_);refine bS (M:=M1) jQ rfl rfl Om rfl (kb jH rfl rfl) vz (fun QX Hx xV=>?_);change QX.heap[bc]? =some (.cells #[p,.int .i64 n,mu,.int .i64 (eG l i),.int .i64 cX] 216 (0,0))at Hx;replace jH:=jH.le xV.le;refine ad (aj (ah (ae rfl rfl (ae rfl rfl (aU rfl ⟨_,rfl⟩ rfl (aV bE rfl rfl jQ (by decide) rfl rfl (aH aX rfl rfl rfl (by assumption) rfl ?_)))))));refine cK (M:=M1) aX gD rfl rfl rfl (jH) (ao _ _) (by first|omega|decide) (fun SH Hy B8 On=>?_);obtain rfl:(d,ps)=Hy:=eM (bp (B8.symm.trans (by simpa using hh)));refine aF (M:=M1) (A:=RT.po) (B:=RT.int .i64) bL rfl rfl I3 (by decide) (Ic) rfl rfl (by decide) (by assumption) (by repeat (first|exact ao _ _|refine aT (bj (by assumption)) ?_)) (fun KQ FR=>?_);refine bV (M:=M1) ar rfl rfl (by assumption) (by repeat (first|exact ao _ _|refine aT (bj (by assumption)) ?_)) (fun uc=>?_);refine bz (v':= .int .i64 (d)) rfl ?_;replace uc: -9223372036854775808≤(d:Int)∧d≤9223372036854775807:=uc;refine aU rfl ⟨_,rfl⟩ rfl (aV bE rfl rfl I3 (by decide) rfl rfl ?_);refine bS (M:=M1) I3 rfl rfl Hx rfl rfl vz (fun JR Hz vr=>?_);change JR.heap[bc]? =some (.cells #[p,.int .i64 n,mu,.int .i64 d,.int .i64 cX] 216 (0,0))at Hz;replace jH:=jH.le vr.le;refine ad (aj (ah (ae rfl rfl (aU rfl ⟨_,rfl⟩ rfl (aV bE rfl rfl I3 (by decide) rfl rfl (aH ar rfl rfl rfl (by assumption) rfl (ai rfl rfl (ad (aL ?_)))))))))
          have he:ql l i to=(idx l to:Int):=by unfold ql;rw[if_neg c1]
          rw[he];have S7:=((s1.ca (fun _ h=>h.elim) yC).trans ((Zo.trans xV (fun _ _ h=>h)).trans vr (fun _ _ h=>h)) (fun _ _ h=>h));exact aO rfl rfl ⟨by rw[ig hx];rfl,S7.back,p,mu,n,cX,Pk,by rw[ig hx];exact Hz,(hp.le (by decide) S7.back.le),jH.le (Le.close hM S7),by omega,by omega,fun h=>by omega,fun _ h=>by omega⟩
        ·have agE:=(ja l (-1) hm (by decide) (8*n+8)).2
         obtain⟨TP,vH⟩:0≤i∧i<l.length:=by
          rcases jq l i with⟨h0,_⟩|⟨j,d,ps,rfl,hx,_⟩|⟨h0,h1,_⟩
          ·have:=PU h0;omega
          ·have:=(av.1 hx).1;omega
          ·omega
         have yS:=p6 TP vH;obtain⟨j,gv⟩:∃j:Nat,i=j:=⟨i.toNat,by omega⟩;obtain⟨⟨dj,pj⟩,Oo⟩:∃x,l[j]? =some x:=⟨_,aD (by omega)⟩;have hdj:=ig Oo;rw[←gv]at hdj;have OO:=(np hm Oo).1;obtain rfl:(n:Int)=k:=by omega
         have vY:=ry.le S4.le;obtain⟨lf,uX,cX,s,wX,Zg,Zh,SG,L7,LO,yA,Zi,Zj,hpX,Zk,SX⟩:∃lf uX cX s wX,wX=_∧wX.heap[bc]? =some (.cells #[p,.int .i64 n,uX,.int .i64 (eG l i),.int .i64 cX] 216 (0,0))∧((RT.po).sl).V M1 wX lf uX∧lf=(l.drop s).take (8*n+8-s)∧8*n≤s∧s<8*n+8∧s<l.length∧b8 (-1) (l.take s)<to∧cp RT.li M1 wX p (hU l)∧wX.heap[bt]? =some (.cells #[.int .i64 to] 3 (0,0))∧Step M1 w1 M1 wX (fun b=>b=bc):=⟨_,u,Ez,j,_,rfl,JO,vY,by rw[gv];unfold jB;rw[if_neg (by omega),aw,show 8*n+8-j=8-j%8 from by omega],by omega,by omega,by omega,by omega,EI,Pl,S4.ca (fun _ h=>h.elim) hcM⟩;subst Zg;clear JO;refine aS (aj ?_);obtain⟨U5,Kr,Zl,ha4,Zm⟩:=vW hm LO yA Zi Zj PT L7;have Zn:=SX.lt rE;obtain⟨⟨d,ps⟩,hx⟩:∃x,l[idx l to]? =some x:=⟨_,aD Zl⟩;have hh:=rl hx;have hhl:=(av.1 hh).1;apply T.CA (M:=M1) mixed [] [cg.eq _,cg.eq _,cg.eq _,cg.eq _,cg.eq uX,cg.eq _,cg.eq _,cg.eq _,cg.eq uX,cg.eq _,cg.eq _,cg.V ((RT.po).sl) (jB l (idx l to:Nat))] 12
         ·rfl
         ·rfl
         ·rfl
         ·rfl
         ·rfl
         ·exact fun p hp=>by cases hp
         ·exact ru.none
         ·refine aG ?_ ?_
          ·intro wD E sD;refine ae rfl rfl ?_;exact ad ⟨rfl,rfl,_,rfl,rfl,an _ _⟩
          refine aG ?_ ?_
          ·intro wD E sD;refine ae rfl rfl ?_;exact ad ⟨rfl,rfl,_,rfl,rfl,an _ _⟩
          refine aG ?_ ?_
          ·intro wD E sD;refine ay (aU rfl ⟨_,rfl⟩ rfl ?_);exact ad ⟨rfl,rfl,_,rfl,rfl,an _ _⟩
          refine aG ?_ ?_
          ·intro wD E sD;refine ay (aV bE rfl rfl jQ (by decide) rfl rfl ?_);exact ad ⟨rfl,rfl,_,rfl,rfl,an _ _⟩
          refine aG ?_ ?_
          ·intro wD E sD;refine ay (aH aX rfl rfl rfl (cc sD (by assumption)) rfl ?_);exact ad ⟨rfl,rfl,_,rfl,rfl,an _ _⟩
          refine aG ?_ ?_
          ·intro wD E sD;refine ae rfl rfl ?_;exact ad ⟨rfl,rfl,_,rfl,rfl,an _ _⟩
          refine aG ?_ ?_
          ·intro wD E sD;refine ay (aU rfl ⟨_,rfl⟩ rfl ?_);exact ad ⟨rfl,rfl,_,rfl,rfl,an _ _⟩
          refine aG ?_ ?_
          ·intro wD E sD;refine ay (aV bE rfl rfl jQ (by decide) rfl rfl ?_);exact ad ⟨rfl,rfl,_,rfl,rfl,an _ _⟩
          refine aG ?_ ?_
          ·intro wD E sD;refine ay (aH aX rfl rfl rfl (cc sD (by assumption)) rfl ?_);exact ad ⟨rfl,rfl,_,rfl,rfl,an _ _⟩
          refine aG ?_ ?_
          ·intro wD E sD;refine iw (xs:=[]) (ys:=[.tmp 3]) rfl rfl rfl ?_;exact ad ⟨rfl,rfl,_,rfl,rfl,an _ _⟩
          refine aG ?_ ?_
          ·intro wD E sD;refine ay (ay ?_);refine aQ rfl rfl SD (pU (M:=M1) (sD.lt Zn) (SG.le sD.le) (sD.aM Zk)) (fun r wi h=>?_);obtain⟨rfl,s⟩:=h;refine bz (v':= .int .i64 ((idx lf to:Nat):Int)) (by rw[if_pos Kr]) ?_;exact ad ⟨rfl,rfl,_,rfl,rfl,s⟩
          refine aG ?_ ?_
          ·intro wD E sD;refine ay (ay ?_);refine Rg.xk (A:=RT.po) (hn:=by decide) aX gD rfl rfl rfl (SG.le sD.le) (by omega) (fun u hu=>?_);rw[aw,Zm]at hu;exact ad ⟨rfl,rfl,_,rfl,hu,an _ _⟩
          exact bI.nil
         ·intro Hg tV;refine ay (ay (ay (ay (ay (ay (ay (ay (ay (ay (ay ?_))))))))));intro mu yp;have Om:=tV.aM Zh;have jH:((RT.po).sl).V M1 Hg (jB l (idx l to:Nat)) mu:=yp;have Zo:=SX.ax tV;refine aU rfl ⟨_,rfl⟩ rfl (aV bE rfl rfl jQ (by decide) rfl rfl ?_);refine bS (M:=M1) jQ rfl rfl Om rfl (kb jH rfl rfl) vz (fun QX Hx xV=>?_);change QX.heap[bc]? =some (.cells #[p,.int .i64 n,mu,.int .i64 (eG l i),.int .i64 cX] 216 (0,0))at Hx;replace jH:=jH.le xV.le;refine ad (aj (ah (ae rfl rfl (ae rfl rfl (aU rfl ⟨_,rfl⟩ rfl (aV bE rfl rfl jQ (by decide) rfl rfl (aH aX rfl rfl rfl (by assumption) rfl ?_)))))));refine cK (M:=M1) aX gD rfl rfl rfl (jH) (ao _ _) (by first|omega|decide) (fun SH Hy B8 On=>?_);obtain rfl:(d,ps)=Hy:=eM (bp (B8.symm.trans (by simpa using hh)));refine aF (M:=M1) (A:=RT.po) (B:=RT.int .i64) bL rfl rfl I3 (by decide) (Ic) rfl rfl (by decide) (by assumption) (by repeat (first|exact ao _ _|refine aT (bj (by assumption)) ?_)) (fun KQ FR=>?_);refine bV (M:=M1) ar rfl rfl (by assumption) (by repeat (first|exact ao _ _|refine aT (bj (by assumption)) ?_)) (fun uc=>?_);refine bz (v':= .int .i64 (d)) rfl ?_;replace uc: -9223372036854775808≤(d:Int)∧d≤9223372036854775807:=uc;refine aU rfl ⟨_,rfl⟩ rfl (aV bE rfl rfl I3 (by decide) rfl rfl ?_);refine bS (M:=M1) I3 rfl rfl Hx rfl rfl vz (fun JR Hz vr=>?_);change JR.heap[bc]? =some (.cells #[p,.int .i64 n,mu,.int .i64 d,.int .i64 cX] 216 (0,0))at Hz;replace jH:=jH.le vr.le;refine ad (aj (ah (ae rfl rfl (aU rfl ⟨_,rfl⟩ rfl (aV bE rfl rfl I3 (by decide) rfl rfl (aH ar rfl rfl rfl (by assumption) rfl (ai rfl rfl (ad (aL ?_)))))))))
          have he:ql l i to=(idx l to:Int):=by unfold ql;rw[if_neg c1]
          rw[he];have S7:=((s1.ca (fun _ h=>h.elim) yC).trans ((Zo.trans xV (fun _ _ h=>h)).trans vr (fun _ _ h=>h)) (fun _ _ h=>h));exact aO rfl rfl ⟨by rw[ig hx];rfl,S7.back,p,mu,n,cX,Pk,by rw[ig hx];exact Hz,(hp.le (by decide) S7.back.le),jH.le (Le.close hM S7),by omega,by omega,fun h=>by omega,fun _ h=>by omega⟩
    ·apply T.draw (M:=M1) mixed [cg.eq _,cg.eq _,cg.eq _,cg.eq _,cg.eq _,cg.eq _,cg.eq _,cg.eq (.bool false),cg.eq undef,cg.eq undef,cg.eq undef,cg.eq undef,cg.eq undef,cg.eq undef,cg.eq undef,cg.eq undef,cg.eq _]
     ·rfl
     ·refine aN ?_ ?_
      ·intro wD E sD;refine ae rfl rfl ?_;exact ad ⟨rfl,rfl,_,rfl,rfl,an _ _⟩
      refine aN ?_ ?_
      ·intro wD E sD;refine ae rfl rfl ?_;exact ad ⟨rfl,rfl,_,rfl,rfl,an _ _⟩
      refine aN ?_ ?_
      ·intro wD E sD;refine ay (aU rfl ⟨_,rfl⟩ rfl ?_);exact ad ⟨rfl,rfl,_,rfl,rfl,an _ _⟩
      refine aN ?_ ?_
      ·intro wD E sD;refine ay (aV bE rfl rfl oN (by decide) rfl rfl ?_);exact ad ⟨rfl,rfl,_,rfl,rfl,an _ _⟩
      refine aN ?_ ?_
      ·intro wD E sD;refine ay (aH cO rfl rfl rfl (cc sD (by assumption)) rfl ?_);exact ad ⟨rfl,rfl,_,rfl,rfl,an _ _⟩
      refine aN ?_ ?_
      ·intro wD E sD;refine ay ?_;refine aQ rfl rfl J3 (kT (M:=M1) (EI.le (by decide) sD.le)) (fun r wc h=>?_);obtain⟨rfl,rfl⟩:=h;exact ad ⟨rfl,rfl,_,rfl,congrArg (fun n:Nat=>Value.int .i64 n) H7,an _ _⟩
      refine aN ?_ ?_
      ·intro wD E sD;refine ay (ay (b4 rfl rfl rfl ?_));exact ad ⟨rfl,rfl,_,rfl,rfl,an _ _⟩
      refine aN ?_ ?_
      ·intro wD E sD;refine ay (ay (ae rfl rfl ?_));refine ad ⟨rfl,rfl,_,rfl,?_,an _ _⟩;exact congrArg Value.bool (decide_eq_false SE)
      refine aN ?_ ?_
      ·intro wD E sD;refine ay ?_;exact aq rfl rfl rfl rfl (ad ⟨rfl,rfl,_,rfl,rfl,an _ _⟩)
      refine aN ?_ ?_
      ·intro wD E sD;refine ay (ay ?_);exact aq rfl rfl rfl rfl (ad ⟨rfl,rfl,_,rfl,rfl,an _ _⟩)
      refine aN ?_ ?_
      ·intro wD E sD;refine ay (ay ?_);exact aq rfl rfl rfl rfl (ad ⟨rfl,rfl,_,rfl,rfl,an _ _⟩)
      refine aN ?_ ?_
      ·intro wD E sD;refine ay (ay ?_);exact aq rfl rfl rfl rfl (ad ⟨rfl,rfl,_,rfl,rfl,an _ _⟩)
      refine aN ?_ ?_
      ·intro wD E sD;refine ay ?_;exact aq rfl rfl rfl rfl (ad ⟨rfl,rfl,_,rfl,rfl,an _ _⟩)
      refine aN ?_ ?_
      ·intro wD E sD;refine ay (ay (ay (ay ?_)));exact aq rfl rfl rfl rfl (ad ⟨rfl,rfl,_,rfl,rfl,an _ _⟩)
      refine aN ?_ ?_
      ·intro wD E sD;refine ay ?_;exact aq rfl rfl rfl rfl (ad ⟨rfl,rfl,_,rfl,rfl,an _ _⟩)
      refine aN ?_ ?_
      ·intro wD E sD;refine ay (ay (ay ?_));exact aq rfl rfl rfl rfl (ad ⟨rfl,rfl,_,rfl,rfl,an _ _⟩)
      refine aN ?_ ?_
      ·intro wD E sD;refine ay (ay (az rfl rfl rfl ?_));exact ad ⟨rfl,rfl,_,rfl,rfl,an _ _⟩
      exact b9.nil
     ·intro wD4 wI;refine ay (ay (ay (ay (ay (ay (ay (ay (ay (ay (ay (ay ?_)))))))))));refine ay (ay (ay (ay (ay ?_))));replace S4:=S4.ax wI;replace JO:=wI.aM JO;replace Pl:=wI.aM Pl;replace EI:=EI.le (by decide) wI.le;have N4:=S4.lt rE;refine gG rfl (cG (aj (aj (ah (ae rfl rfl (ae rfl rfl (aU rfl ⟨_,rfl⟩ rfl (aV bE rfl rfl oN (by decide) rfl rfl (aH cO rfl rfl rfl (by assumption) rfl ?_)))))))));refine aQ rfl rfl J3 (kT (M:=M1) EI) (fun r wc h=>?_);obtain⟨rfl,rfl⟩:=h;refine bz (v':= .int .i64 (((l.length+7)/8:Nat):Int)) (congrArg (fun n:Nat=>Value.int .i64 n) H7) (Rg.AZ rfl rfl rfl (ad ?_));refine bH rfl (fun c6=>?_) (fun c6=>?_)
      ·refine aj (ah (ae rfl rfl (ae rfl rfl (aU rfl ⟨_,rfl⟩ rfl (aV bE rfl rfl jQ (by decide) rfl rfl ?_)))));refine bS (M:=M1) jQ rfl rfl JO rfl rfl vz (fun w7 hb7 s7=>?_);change w7.heap[bc]? =some (.cells #[p,.int .i64 k,.slice none 0 0,.int .i64 (eG l i),.int .i64 Ez] 216 (0,0))at hb7;refine aU rfl ⟨_,rfl⟩ rfl (aV bE rfl rfl I3 (by decide) rfl rfl ?_);refine bS (M:=M1) I3 rfl rfl hb7 rfl rfl vz (fun w8 hb8 s8=>?_);change w8.heap[bc]? =some (.cells #[p,.int .i64 k,.slice none 0 0,.int .i64 2147483648,.int .i64 Ez] 216 (0,0))at hb8;refine ad (aj (ah (ai rfl rfl (ad (aL ?_)))));have he:ql l i to=(l.length:Int):=by unfold ql;rw[if_neg c1,II hm (n:=8*n) (by omega) Fg]
       rw[he];have S7:=((s1.ax S4).ca (fun _ h=>h.elim) yC).trans ((s7.trans s8 (fun _ _ h=>h))) (fun _ _ h=>h);exact aO rfl rfl ⟨by rw[qm (Int.le_refl _)],S7.back,p,.slice none 0 0,k,Ez,Pk,by rw[qm (Int.le_refl _)];exact hb8,(hp.le (by decide) S7.back.le),by rw[B7 (Int.le_refl _)];exact jG,by omega,hk,fun h=>by omega,fun _ h=>by omega⟩
      ·exfalso;omega
theorem wT {M:aB} {w0:World} {bc:Nat} {l:List Po} {i:Int} (h:Cu 216 l i M w0 bc) (hM:Lt M w0) (hm:dR (-1) l=true) (rr:∀p∈l,p.2.length≤1099511627776) (AX:(dy (-1) l).length≤1099511627776) (Iw:l.length≤1099511627776):
  Spec Tryz.prog 96 #[.pointer (some ⟨bc,0,none⟩)] w0 (fun v' w'=>v'= .int .i64 (eG l (pT l i))∧Step M w0 M w' (fun b=>b=bc)∧Cu 216 l (pT l i) M w' bc):=by
 obtain⟨p,u,k,Ez,Pk,hb,hp,hu,hi,hk,PU,p6⟩:=id h;have hdr:=vU hm i;refine aZ (args:=[_]) (fn:=Tryz.f96) Tryz.func96 rfl (n:=11) Tryz.ntmps96 (aj (ah (ai rfl rfl (ad (aj (ah (ae rfl rfl (ae rfl rfl (aU rfl ⟨_,rfl⟩ rfl (aV bE rfl rfl I3 (by decide) rfl rfl (aH ar rfl rfl rfl (by assumption) rfl ?_)))))))))));refine bu rfl rfl rfl (by omega) (Rg.min2 rfl rfl rfl ?_);have hn:ql l i (min (eG l i+1) 2147483648)=pT l i:=Hw hm hi;refine aQ rfl rfl Zc (yo (to:=min (eG l i+1) 2147483648) h hM hm rr AX Iw (by omega)) (fun r w1 h1=>?_);rw[hn]at h1;obtain⟨rfl,s1,h1⟩:=h1;refine ai rfl rfl (ad (aL ?_));exact aO rfl rfl ⟨rfl,s1,h1⟩
end Go.K
namespace Go.K
open Go.Proofs
namespace TKErsA
theorem Oh:TI Tryz.prog 123 (.pointer none) 1 8:=by unfold TI;kernel_rfl
theorem Oi:TI Tryz.prog 216 (.agg #[(.pointer none),(.int .i64 0),(.slice none 0 0),(.int .i64 0),(.int .i64 0)]) 5 56:=by unfold TI;kernel_rfl
theorem Oj:placesOf Tryz.prog 216=[(0,1),(1,1),(2,1),(3,1),(4,1)].map some:=by kernel_rfl
theorem E73:Enters Tryz.prog 73:=enters Tryz.func73 rfl (by decide)
theorem JT:Enters Tryz.prog 126:=enters Tryz.func126 rfl (by decide)
theorem Zp:Enters Tryz.prog 140:=enters Tryz.func140 rfl (by decide)
end TKErsA
open TKErsA
set_option maxRecDepth 10000
abbrev Er:=Fd×Int
abbrev RT.er:RT Er:=RT.pair RT.fd (RT.int .i64)
theorem Un:Part RT.er RT.fd (fun p=>p.1) 0:=kF _ _
theorem Pm:Part RT.er (RT.int .i64) (fun p=>p.2) 2:=fU _ _
theorem B9 {M:aB} {w:World} {p:Er} {v:Value} (h:RT.er.V M w p v):v= .agg #[.string ⟨p.1.1.toArray⟩,.string ⟨p.1.2.toArray⟩,.int .i64 p.2]∧(p.1.1.length≤140737488355328∧p.1.2.length≤140737488355328)∧ -9223372036854775808≤p.2∧p.2≤9223372036854775807:=by
 obtain⟨vs,⟨va,vb,rfl,⟨vc,vd,rfl,⟨rfl,h1⟩,⟨rfl,h2⟩⟩,⟨rfl,h3⟩⟩,rfl⟩:=h;exact⟨rfl,⟨h1,h2⟩,h3⟩
theorem HA {M:aB} {w:World} {p:Er} (h1:p.1.1.length≤140737488355328∧p.1.2.length≤140737488355328) (h2: -9223372036854775808≤p.2∧p.2≤9223372036854775807):RT.er.V M w p (.agg #[.string ⟨p.1.1.toArray⟩,.string ⟨p.1.2.toArray⟩,.int .i64 p.2]):=
 ⟨[.string ⟨p.1.1.toArray⟩,.string ⟨p.1.2.toArray⟩,.int .i64 p.2],⟨[.string ⟨p.1.1.toArray⟩,.string ⟨p.1.2.toArray⟩],[.int .i64 p.2],rfl,⟨_,_,rfl,⟨rfl,h1.1⟩,⟨rfl,h1.2⟩⟩,rfl,h2⟩,rfl⟩
theorem Ax {M:aB} (w0:World) (hM:Lt M w0):
  Spec Tryz.prog 140 #[.pointer none] w0 (fun v' w'=>∃bc,v'= .pointer (some ⟨bc,0,none⟩)∧w0.heap.size≤bc∧Step M w0 (ins M bc) w' aA∧Cu 216 [] (-1) (ins M bc) w' bc):=by
 refine aZ (args:=[_]) (fn:=Tryz.f140) Tryz.func140 rfl (n:=12) Tryz.ntmps140 (aj (ah (ai rfl rfl (ad (aj (aj (ah (ae rfl rfl (Rg.y4 cO rfl rfl rfl (ad (T.UB rfl (rfl) ?_)))))))))));refine ah ?_;refine aQ rfl rfl JT (qB (l:=[]) hM jG (fun p h=>by cases h) (by decide) (by decide) (by decide)) (fun r2 w2 hc=>?_);obtain⟨s2,eO,_⟩:=hc;obtain⟨p,rfl,hp⟩:=eO rfl;obtain⟨q,rfl⟩:=hp.jn;refine ae rfl rfl (bU rfl rfl rfl (bU rfl rfl rfl (ai rfl rfl (ad (aj (ah (ae rfl rfl (dU (places:=[(0,1),(1,1),(2,1),(3,1),(4,1)]) bE Oi Oj rfl ⟨_,_,rfl,rfl,_,_,rfl,rfl,_,_,rfl,rfl,rfl⟩ (out:=[_,_,.slice none 0 0,_,.int .i64 0]) ⟨0,[_],rfl,rfl,by simp[Value.cells],1,[_],rfl,rfl,by simp[Value.cells],3,[_],rfl,rfl,by simp[Value.cells],rfl⟩ ?_))))))));refine o8 M rfl rfl (fun bc w3 h1 KB hS s3=>?_);refine ai rfl rfl (ad (aL ?_));exact aO rfl rfl ⟨bc,rfl,by have:=s2.size;omega,s2.ax s3,.pointer (some q),.slice none 0 0,-1,0,.inl rfl,hS,hp.le (by decide) s3.le,jG,by decide,by decide,fun _=>rfl,fun h=>by omega⟩
theorem Ay {M:aB} {v:Value} {l:List Po} (w0:World) (hM:Lt M w0) (h:cp RT.li M w0 v (hU l)∨(v= .pointer none∧l=[])):Spec Tryz.prog 140 #[v] w0 (fun v' w'=>∃bc,v'= .pointer (some ⟨bc,0,none⟩)∧w0.heap.size≤bc∧Step M w0 (ins M bc) w' aA∧Cu 216 l (-1) (ins M bc) w' bc):=by
 rcases h with h|⟨rfl,rfl⟩
 ·obtain⟨q,rfl⟩:=h.jn;exact Ec h
 ·exact Ax w0 hM
theorem yq {M:aB} {s:Se} {ls:List (List Po)} {t:Fd} {v0:Value} (w0:World) (hM:Lt M w0) (hs:cp RT.se M w0 v0 s) (ym:x9 s.2.2.1) (EC:s.2.2.2=ls.map hU) (C9:s.2.2.1.length=ls.length) (h1:t.1.length≤140737488355328) (h2:t.2.length≤140737488355328):
  Spec Tryz.prog 95 #[v0,kv t] w0 (fun v' w'=>∃bc,v'= .pointer (some ⟨bc,0,none⟩)∧w0.heap.size≤bc∧Step M w0 (ins M bc) w' aA∧Cu 216 (lg s.2.2.1 ls (cL t)) (-1) (ins M bc) w' bc):=by
 refine aZ (args:=[_,_]) (fn:=Tryz.f95) Tryz.func95 rfl (n:=19) Tryz.ntmps95 ?_;have S:Step M w0 M w0 aA:=(an _ _).ca (fun _ h=>h.elim) (fun _ h=>h.elim);refine aj (ah ?_);refine gx (A:=RT.fd) rfl rfl hM (xX h1 h2) rfl (fun u0 w1 cv s0 _=>?_);replace hs:=hs.le (by decide) s0.le;replace hM:=s0.lt hM;have:=S.size;replace S:=S.ax s0;refine ai rfl rfl (ad (aj ?_));apply T.draw (M:=M) mixed [cg.eq v0,cg.eq v0,cg.ptr ((RT.di).ptr) s.2.2,cg.ptr RT.di s.2.2,cg.eq (kv t),cg.eq (sv (cL t)),(cg.mk' (fun v w=>∃p,v= .tuple #[p,.bool (decide (cL t∈s.2.2.1))]∧rj s.2.2 (cL t) M p w) (fun⟨p,h1,h2⟩ s=>⟨p,h1,h2.step s⟩)),(cg.mk' (fun v w=>∃p,v= .tuple #[p,.bool (decide (cL t∈s.2.2.1))]∧rj s.2.2 (cL t) M p w) (fun⟨p,h1,h2⟩ s=>⟨p,h1,h2.step s⟩)),(cg.mk' (fun v w=>rj s.2.2 (cL t) M v w) (fun h s=>h.step s)),cg.eq (.bool (decide (cL t∈s.2.2.1))),(cg.mk' (fun v w=>rj s.2.2 (cL t) M v w) (fun h s=>h.step s)),cg.eq (.bool (decide (cL t∈s.2.2.1)))]
 ·rfl
 ·refine aN ?_ ?_
  ·intro wD E sD;refine ae rfl rfl ?_;exact ad ⟨rfl,rfl,_,rfl,rfl,an _ _⟩
  refine aN ?_ ?_
  ·intro wD E sD;refine ay (aU rfl hs.jn rfl ?_);exact ad ⟨rfl,rfl,_,rfl,rfl,an _ _⟩
  refine aN ?_ ?_
  ·intro wD E sD;refine ay ?_;refine aF (M:=M) (A:=RT.se) (B:=(RT.di).ptr) Tryz.underlying125 rfl rfl Oh (by decide) se2 rfl rfl (by decide) hs sD.le (fun uf yj=>?_);exact ad ⟨rfl,rfl,_,rfl,yj,an _ _⟩
  refine aN ?_ ?_
  ·intro wD E sD;intro v2 xF;refine bY (M:=M) Tryz.underlying123 rfl rfl rfl rfl rfl (show cp ((RT.di).ptr) M wD v2 s.2.2 from xF) (ao _ _) (fun vd hvd=>?_);exact ad ⟨rfl,rfl,_,rfl,CZ.1 hvd,an _ _⟩
  refine aN ?_ ?_
  ·intro wD E sD;refine b5 (M:=M) (A:=RT.fd) bR rfl o4 (by decide) rfl rfl rfl cv sD.le (fun vt B6=>?_);obtain rfl:=kh B6;exact ad ⟨rfl,rfl,_,rfl,rfl,an _ _⟩
  refine aN ?_ ?_
  ·intro wD E sD;refine ay ?_;refine aQ rfl rfl T1 (Eb (t:=t) _ (sD.lt hM) h1 h2) (fun r5 w5 hc=>?_);obtain⟨rfl,s5⟩:=hc;exact ad ⟨rfl,rfl,_,rfl,rfl,s5⟩
  refine aN ?_ ?_
  ·intro wD E sD;intro v3 uU;refine ay (ay ?_);refine aQ rfl rfl E73 (find_spec (k:=cL t) _ (sD.lt hM) (show cp RT.di M wD v3 s.2.2 from uU) ym (by rw[EC,ch];exact C9)) (fun r6 w6 hc=>?_);obtain⟨s6,hr⟩:=hc;refine ad ⟨rfl,rfl,_,rfl,?_,s6⟩;rcases hr with⟨j,p,tl,rfl,h3,h4,h5⟩|⟨rfl,h3⟩
   ·exact⟨p,by rw[decide_eq_true (aI h3)],.inl ⟨j,tl,h3,h4,h5⟩⟩
   ·exact⟨_,by rw[decide_eq_false h3],.inr ⟨rfl,h3⟩⟩
  refine aN ?_ ?_
  ·intro wD E sD;intro v6 ot;refine ae rfl rfl ?_;exact ad ⟨rfl,rfl,_,rfl,ot,an _ _⟩
  refine aN ?_ ?_
  ·intro wD E sD;intro v7 Bz;obtain⟨p,rfl,hp⟩:=Bz;refine bU rfl rfl rfl ?_;exact ad ⟨rfl,rfl,_,rfl,hp,an _ _⟩
  refine aN ?_ ?_
  ·intro wD E sD;intro v7 Bz;obtain⟨p,rfl,hp⟩:=Bz;refine bU rfl rfl rfl ?_;exact ad ⟨rfl,rfl,_,rfl,rfl,an _ _⟩
  refine aN ?_ ?_
  ·intro wD E sD;intro v8 C2;intro v6 ot;refine ay (ay ?_);intro v2 xF;intro v3 uU;refine ay (ay ?_);intro v6 ot;intro v7 Bz;intro v8 C2;refine ai rfl rfl ?_;exact ad ⟨rfl,rfl,_,rfl,C2,an _ _⟩
  refine aN ?_ ?_
  ·intro wD E sD;refine ay ?_;intro v10 NZ;refine ay (ay ?_);intro v2 xF;intro v3 uU;refine ay (ay ?_);intro v6 ot;intro v7 Bz;intro v8 C2;refine ay ?_;intro v10 NZ;refine ai rfl rfl ?_;exact ad ⟨rfl,rfl,_,rfl,rfl,an _ _⟩
  exact b9.nil
 ·intro FB kH;refine ay (ay ?_);intro J1 ri;intro Rq Gy;refine ay (ay ?_);intro agH acJ;intro X2 RZ;intro agI acK;refine ay ?_;intro SI Ca;refine ay ?_;replace Ca:rj s.2.2 (cL t) M SI FB:=Ca;have hF:=Ca;replace hM:=kH.lt hM;replace S:=S.ax kH;replace hs:=hs.le (by decide) kH.le;replace cv:=cv.le (by decide) kH.le;refine aj (ah (ae rfl rfl ?_))
  refine aQ rfl rfl Zp (Ay (l:=lg s.2.2.1 ls (cL t)) _ hM (by
   rcases hF with⟨j,tl,OS,qi,IB⟩|⟨h,gS⟩
   ·rw[EC,cy]at qi;obtain⟨l,PQ,rfl⟩:=Option.map_eq_some_iff.1 qi;exact .inl (by rw[Hv ym.nodup OS PQ];exact IB)
   ·exact .inr ⟨h,Aw gS⟩)) (fun r2 w2 hc=>?_)
  obtain⟨bc,rfl,hbc,s2,hcu⟩:=hc;refine ai rfl rfl (ad (aL ?_));exact aO rfl rfl ⟨bc,rfl,by have:=S.size;omega,S.ax s2,hcu⟩
end Go.K

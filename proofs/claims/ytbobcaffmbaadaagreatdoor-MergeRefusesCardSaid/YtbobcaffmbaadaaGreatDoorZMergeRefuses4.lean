/- What the law 'MergeRefuses' needs of walks and plain Lean, part 4: nothing is assumed beyond the texts that it imports. -/
import Derived.KernelRfl
import Derived.Laws.StructEq
import Derived.Test.YtbobcaffmbaadaaGreatDoorProg
import Derived.Test.YtbobcaffmbaadaaGreatDoorZMergeRefuses1
import Derived.Test.YtbobcaffmbaadaaGreatDoorZMergeRefuses2
import Derived.Test.YtbobcaffmbaadaaGreatDoorZMergeRefuses3
set_option linter.unusedVariables false
set_option linter.unusedSimpArgs false
namespace Go.K
open Go.Proofs
namespace TKBldE
theorem zV:TI Tryz.prog 80 (.slice none 0 0) 1 24:=by unfold TI;kernel_rfl
theorem F2:TI Tryz.prog 151 (.map none) 1 8:=by unfold TI;kernel_rfl
theorem Un:Enters Tryz.prog 51:=enters Tryz.func51 rfl (by decide)
theorem E90:Enters Tryz.prog 90:=enters Tryz.func90 rfl (by decide)
theorem E91:Enters Tryz.prog 91:=enters Tryz.func91 rfl (by decide)
end TKBldE
open TKBldE
set_option maxRecDepth 10000
theorem fH.Hs {P:Program} {kt:TypeId} {w:World} {b clock:Nat} {es:List MapEntry} (hk:P.underlying kt=some .string) (h:fH P kt w b es clock):∃ks:List (List UInt8),es.map (·.key)=ks.map sv∧ks.Nodup:=by
 have key:∀es:List MapEntry,(∀e∈es,∃l,keyOf P kt e.key=some l)→∃ks:List (List UInt8),es.map (·.key)=ks.map sv:=by
  intro es
  induction es with
  |nil=>exact fun _=>⟨[],rfl⟩
  |cons e es ih=>
   intro h;obtain⟨ks,h1⟩:=ih fun x hx=>h x (b9 _ hx)
   obtain⟨l,hl⟩:=h e (bH ..);obtain⟨x,h3,_,h4⟩:=Maps.keyOf_str hk hl;exact⟨x::ks,by simp only[eS,h1,h3]⟩
 obtain⟨ks,h1⟩:=key es h.ok;refine⟨ks,h1,?_⟩;have h3:=cy.2 h.keys;rw[h1]at h3;exact(cy.1 h3).imp fun h e=>h (by rw[e])
theorem DO {M:aC} {w:World}:∀{l:List (List UInt8)},(∀x∈l,x.length≤140737488355328)→dV RT.str M w l (l.map Go.Proofs.encStr)
 |[],_=>rfl
 |x::l,h=>⟨[.string ⟨x.toArray⟩],_,rfl,⟨rfl,h x (bH ..)⟩,DO fun y hy=>h y (b9 _ hy)⟩
theorem L8 (M:aC) (w:World) (M':aC) (w':World) (x:List UInt8) (vs:List Value) (h:RT.str.R M w x vs):RT.str.R M' w' x vs:=h
theorem wK {L:List En} (hF:∀x∈L,kT x.1):∀k∈iE L,k.length≤43:=fun k hk=>by
 obtain⟨e,he,h1⟩:=uQ.1 hk;obtain⟨t,ht,rfl⟩:=ca.1 h1;have:=(hF e he).term ht;unfold gH;simp;omega
theorem ot {L:List En} (hF:∀x∈L,kT x.1):(iE L).length≤500*L.length:=by
 induction L with
 |nil=>simp[iE]
 |cons e L ih=>
  have h1:=ih fun x hx=>hF x (b9 _ hx)
  have h2:=AP (hF e (bH ..));show((cU (pM e)).map gH++iE L).length≤_;rw[bg,aI,cD];have h2:(cU (pM e)).length≤500:=h2;omega
theorem F6 {Z M:aC} {B b:Nat} {L:List En} {words last:Int} (w0:World) (hM:Lt M w0) (hb:om Z M w0 B b L words last) (hF:∀x∈L,kT x.1) (hLn:L.length≤1000000):
  Spec Tryz.prog 41 #[.pointer (some ⟨b,0,none⟩)] w0 (fun v w=>(RT.str.sl).V M w (keysOf L) v∧Step M w0 M w aD):=by
 obtain⟨mb,vl,es,clock,gb,dZ,fc,hB,Ho,ho,hW,hR,zl⟩:=hb;obtain⟨ks,O9,oE⟩:=hW.Hs aH
 have eH:∀x,x∈ks↔x∈iE L:=fun x=>by
  rw[←hR.k x];constructor
  ·intro hx;have:sv x∈es.map (·.key):=by rw[O9];exact gY hx
   obtain⟨e,he,h⟩:=ca.1 this;exact⟨e,he,h⟩
  ·rintro⟨e,he,h⟩;have:sv x∈ks.map sv:=by rw[←O9,←h];exact gY he
   obtain⟨y,hy,h1⟩:=ca.1 this;rw[←BI h1];exact hy
 have F7:ks.length≤500000000:=by
  have h1:=oE.length_le_of_subset (l₂:=iE L) (fun x hx=>(eH x).1 hx);have h2:=ot hF;omega
 have hen:es.length=ks.length:=by have:=congrArg List.length O9;simpa using this
 refine bc (args:=[_]) (fn:=Tryz.f41) Tryz.func41 rfl (n:=9) Tryz.ntmps41 ?_;have S:Step M w0 M w0 aD:=(ax _ _).cG (fun _ h=>h.elim) (fun _ h=>h.elim);refine aj (ae (ah rfl rfl (ab (aj (ae (ad rfl rfl (bS rfl ⟨_,rfl⟩ rfl (bN (o':=1) dN rfl rfl F2 (by decide) rfl rfl (aL iF rfl rfl rfl gb rfl (aV (v':= .map (some mb)) rfl ?_))))))))));refine aX rfl rfl E91 (FZ _ _) (fun r w1 hc=>?_);obtain⟨rfl,hw1⟩:=hc;have s1:Step M w0 M w1 aD:=by rw[hw1];exact cW _ w0 _
 have LB:=zU hw1;have:=ak gb;replace dZ:=(s1.mem _ this).2 dZ;replace gb:=s1.aK gb;replace fc:=(s1.mem _ (ak hW.at_)).2 fc;replace hW:=hW.aM s1;replace hM:=s1.lt hM;have:=S.size;replace S:=S.aB s1;obtain⟨m,hO,DP,qh⟩:=hW.ad2 aH fc (by unfold maxLen;omega) ks O9;refine aX rfl rfl E90 (BM hO LB (by omega)) (fun r2 w2 hc=>?_);obtain⟨⟨ss,hss,pX,_⟩,s2⟩:=hc;have Sj:ss.Perm ks:=hss.trans DP;have hmp:=jg ss fun x y=>decide (x≤y)
 have pJ:(ss.mergeSort fun x y=>decide (x≤y))=keysOf L:=T1 (ID (Sj.nodup_iff.2 oE)) (k4 L) fun x=>by rw[hmp.mem_iff,Sj.mem_iff,eH,jt]
 have hlen:ss.length=(keysOf L).length:=by rw[←pJ,List.length_mergeSort]
 rw[pJ,hlen]at pX;have aeD:∀x∈keysOf L,x.length≤140737488355328:=fun x hx=>by have:=wK hF x (jt.1 hx);omega
 have uW:Own RT.str 9 (mU r2) w2 w1.heap.size r2 (keysOf L):=⟨⟨_,pX,DO aeD⟩,fun b hb=>hb⟩;have G9:(RT.str.sl).V M w2 (keysOf L) r2:=uW.tell L8 (fun b hb h=>by have:=(uW.base b hb).1;have:=hM b h;omega) (by have:=Sj.length_eq;omega);have:=ak gb;replace dZ:=(s2.mem _ this).2 dZ;replace gb:=s2.aK gb;replace fc:=(s2.mem _ (ak hW.at_)).2 fc;replace hW:=hW.aM s2;replace hM:=s2.lt hM;have:=S.size;replace S:=S.aB s2;refine ah rfl rfl (ab (aN ?_));exact aU rfl rfl ⟨G9,S⟩
theorem F8 {Z M:aC} {B b:Nat} {L:List En} {words last:Int} {k:List UInt8} (w0:World) (hM:Lt M w0) (hb:om Z M w0 B b L words last) (hF:∀x∈L,kT x.1) (hLn:L.length≤1000000) (E5:k.length≤140737488355328):
  Spec Tryz.prog 42 #[.pointer (some ⟨b,0,none⟩),sv k] w0 (fun v w=>(RT.po.sl).V M w (pk L k) v∧Step M w0 M w aD):=by
 have lC:=hM;obtain⟨mb,vl,es,clock,gb,dZ,fc,hB,Ho,ho,hW,hR,zl⟩:=hb;obtain⟨kl,E9⟩:=LN k E5;obtain⟨tu,Uo⟩:=qF k L 0 hF;replace tu:(pk L k).length≤L.length:=tu;replace Uo:∀p∈pk L k,_:=Uo;refine bc (args:=[_,_]) (fn:=Tryz.f42) Tryz.func42 rfl (n:=30) Tryz.ntmps42 ?_;have S:Step M w0 M w0 aD:=(ax _ _).cG (fun _ h=>h.elim) (fun _ h=>h.elim);refine aj (ae (ah rfl rfl (ab (aj (ae (ah rfl rfl (ab (aj (aj (ae (ad rfl rfl ?_)))))))))));refine bS rfl ⟨_,rfl⟩ rfl (bN (o':=1) dN rfl rfl F2 (by decide) rfl rfl (aL iF rfl rfl rfl gb rfl (aV (v':= .map (some mb)) rfl (ad rfl rfl ?_))));refine Rg.tU iF uk zV rfl rfl rfl E9 hW (fun V9 pW=>?_);have rY:=hR.o _ _ pW;have Yp:∀c,V9.ownBlock=some c→c<w0.heap.size:=fun c hc=>(rY.base c hc).2
 clear hR hW ho;refine fS bF rfl rY rfl (ad rfl rfl (ab (aZ ?_)));refine dn (σ:=Nat×Value) (fun q=>[(5,q.2),(13,V9),(14,.int .i64 ((pk L k).length:Int)),(15,.int .i64 (q.1:Int))]) (fun q w=>∃M',Lt M' w∧Step M w0 M' w aD∧Own RT.po 83 M' w w0.heap.size q.2 ((pk L k).take q.1)∧Own RT.po 83 M' w B V9 (pk L k)∧q.1≤(pk L k).length) (fun q=>(pk L k).length-q.1) (0,.slice none 0 0) (.cons rfl (.cons rfl (.cons rfl (.cons rfl .nil)))) ?_ ?_
 ·exact⟨M,hM,S,dE _ _ _ _ _,rY,bG _⟩
 ·clear hM S rY;rintro⟨i,u⟩ w ⟨M1,hM,S,hu,rY,hi⟩;dsimp only at hu hi ⊢;refine aj (ae (cf rfl rfl rfl (ab (aj ?_))));refine bP rfl (fun c3=>?_) (fun c3=>?_)
  ·refine aT (aj (aZ (aj (ae ?_))));refine Rg.aed bF o0 (by decide) rfl rfl rfl rY (by omega) (fun u4 p wC ET=>?_);rw[ay]at wC;have hp:=Uo p (aA wC);refine Rg.LM (A:=RT.po) bW rfl o0 rfl rfl rfl ET (fun v4 rU=>?_);refine xn (A:=RT.po) (M:=M1) o0 rfl rfl rfl rfl rfl (by assumption) (aq _ _) hM (fun Xh OR nZ mz aeE=>?_);replace hu:=hu.aM mz;replace rY:=rY.aM mz;replace hM:=mz.lt hM;have:=S.size;replace S:=S.aB mz;refine ab ?_;apply T.ql 5 [0,1,2] 3 aD mixed rfl rfl rfl rfl;intro wD5 sA5;have Ps:=sA5 M1;replace nZ:=nZ.le (by decide) Ps.le;replace hu:=hu.aM Ps;replace rY:=rY.aM Ps;replace hM:=Ps.lt hM;have:=S.size;replace S:=S.aB Ps;refine ad rfl rfl ?_;refine ab ⟨rfl,rfl,rfl,?_⟩;refine aS (M:=M1) (A:=RT.po) (B:=RT.int .i64) bW rfl rfl I3 (by decide) (QE) rfl rfl (by decide) (by assumption) (by repeat (first|exact aq _ _|refine aY (bu (by assumption)) ?_)) (fun adv QU=>?_);refine ab ⟨rfl,rfl,rfl,?_⟩;refine cd (M:=M1) aw rfl rfl (by assumption) (by repeat (first|exact aq _ _|refine aY (bu (by assumption)) ?_)) (fun Yq=>?_);refine ab ⟨rfl,rfl,rfl,?_⟩;refine aS (M:=M1) (A:=RT.po) (B:=(RT.int .i64).sl) bW rfl rfl kG (by decide) (WT) rfl rfl (by decide) (by assumption) (by repeat (first|exact aq _ _|refine aY (bu (by assumption)) ?_)) (fun ada Hb=>?_);refine ab ⟨rfl,rfl,rfl,?_⟩;refine bV (M:=M1) ao rfl rfl rfl rfl rfl (by assumption) (by repeat (first|exact aq _ _|refine aY (bu (by assumption)) ?_)) (fun an8 Yr=>?_);refine ab ⟨rfl,rfl,rfl,?_⟩;refine ff ?_;obtain⟨bb,oo,cs,ee,fr,rfl,lj,_⟩:=QU.float;refine⟨jd ⟨gR,⟨jj bW rfl I3 (by decide),⟨eI rfl lj (fun h=>h),trivial⟩⟩⟩,?_⟩
   have kp:=kd aD wD5;refine aX rfl rfl Un (yJ hM Yr (by omega)) (fun v5 w5 hc=>?_);obtain⟨oF,s5⟩:=hc;replace nZ:=nZ.le (by decide) s5.le;replace hu:=hu.aM s5;replace rY:=rY.aM s5;replace hM:=s5.lt hM;have:=S.size;replace S:=S.aB s5;refine(fun(kp:eO _ _ _)=>ab ⟨rfl,rfl,fun _=>kp,?_⟩) (by first|exact kp|exact kp.sG (by assumption)|exact kp.goN (by assumption)|exact kp.go (by assumption) (fun _ _ h=>by first|exact h|exact h.elim));refine iW (places:=[(0,1),(1,1)]) bW o0 W0 rfl ⟨_,_,rfl,rfl,_,_,rfl,rfl,rfl⟩ (out:=[_,_]) ⟨0,[_],rfl,rfl,by simp[Value.cells],1,[_],rfl,kZ oF,by simp[Value.cells],rfl⟩ ?_;have Co:RT.po.V M1 _ p _:=eV (gm Yq) oF rfl rfl rfl rfl;refine(fun(kp:eO _ _ _)=>ab ⟨rfl,rfl,fun _=>kp,?_⟩) (by first|exact kp|exact kp.sG (by assumption)|exact kp.goN (by assumption)|exact kp.go (by assumption) (fun _ _ h=>by first|exact h|exact h.elim));refine dQ (A:=RT.po) (hn:=by decide) (M:=M1) bF o0 (by decide) rfl rfl hM (Co) (.inl rfl) (fun an9 aoa L9 IL=>?_);replace nZ:=nZ.le (by decide) IL.le;replace oF:=oF.le IL.le;replace hu:=hu.aM IL;replace rY:=rY.aM IL;replace hM:=IL.lt hM;have:=S.size;replace S:=S.aB IL;refine(fun(kp:eO _ _ _)=>ab ⟨rfl,rfl,fun _=>kp,?_⟩) (by first|exact kp|exact kp.sG (by assumption)|exact kp.goN (by assumption)|exact kp.go (by assumption) (fun _ _ h=>by first|exact h|exact h.elim));refine cX (M:=M1) (base:=w0.heap.size) bF o0 rfl rfl rfl rfl hu L9 (aq _ _) (by simp;omega) (by simp;omega) (S.size) (fun aeF aeG aob Ys IM=>?_);replace nZ:=nZ.le (by decide) IM.le;replace oF:=oF.le IM.le;replace L9:=L9.le IM.le;replace rY:=rY.step IM (fun c hc h=>by have:=Yp c hc;have:=(hu.base c h).1;omega);replace hM:=IM.lt hM;have:=S.size;replace S:=S.dm IM hu (aR _);replace hu:=Ys;refine ab ⟨rfl,rfl,fun h=>absurd rfl h,?_⟩
   refine ah rfl rfl ?_;refine ab ⟨rfl,rfl,fun h=>absurd rfl h,?_⟩;refine nN (ae (bD rfl rfl rfl (by omega) (ad rfl rfl (ab ?_))));refine⟨rfl,(i+1,aeF),(.cons rfl (.cons rfl (.cons rfl (.cons rfl .nil)))),?_,?_⟩
   ·exact⟨aeG,hM,S,by rw[cb,wC,cY];exact hu,rY,by dsimp only;omega⟩
   ·dsimp only;omega
  ·refine cL (aj (ae (ad rfl rfl (ah rfl rfl (ab (aN ?_))))));rw[br (by omega)]at hu;exact aU rfl rfl ⟨hu.close lC S (by omega),S.back⟩
end Go.K
namespace Go.K
open Go.Proofs
namespace TKBldF
theorem aeH:TI Tryz.prog 198 (.agg #[(.slice none 0 0),(.slice none 0 0)]) 2 48:=by unfold TI;kernel_rfl
theorem aeI:placesOf Tryz.prog 198=[(0,1),(1,1)].map some:=by kernel_rfl
theorem aeJ:Enters Tryz.prog 198:=enters Tryz.func198 rfl (by decide)
theorem aeK:Enters Tryz.prog 199:=enters Tryz.func199 rfl (by decide)
theorem aeL:Enters Tryz.prog 200:=enters Tryz.func200 rfl (by decide)
end TKBldF
open TKBldF
set_option maxRecDepth 10000
def DQ:Option (List UInt8)→List (List UInt8)→Bool
 |_,[]=>true
 |o,x::l=>(match o with|none=>true|some a=>decide (a<x))&&DQ (some x) l
theorem yM {l:List (List UInt8)} {k:Nat} {x:List UInt8} (h:l[k]? =some x) (o:Option (List UInt8)):DQ o (l.drop k)=((match o with|none=>true|some a=>decide (a<x))&&DQ (some x) (l.drop (k+1))):=by
 obtain⟨dO,he⟩:=an.1 h;rw[dB dO,he];rfl
theorem DR {a:List UInt8}:∀{l:List (List UInt8)},Dz (a::l)→DQ (some a) l=true
 |[],_=>rfl
 |x::l,h=>by
  have h':=ei.1 h;simp only[DQ,bT,decide_eq_true_eq];exact⟨h'.1 x (bH ..),DR h'.2⟩
theorem Uq:∀{l:List (List UInt8)},Dz l→DQ none l=true
 |[],_=>rfl
 |x::l,h=>by simp only[DQ,eT];exact DR h
theorem IN {M:aC} {v:Value} {l:List Int} (w0:World) (hv:((RT.int .i64).sl).V M w0 l v):
  Spec Tryz.prog 143 #[v] w0 (fun v' w'=>v'= .bool (ek (-1) l)∧w'=w0):=by
 have hlen:=ep hv;refine bc (args:=[_]) (fn:=Tryz.f143) Tryz.func143 rfl (n:=28) Tryz.ntmps143 (aj (ae (ah rfl rfl (ab (aj (aj (ae (ad rfl rfl (bJ ao rfl hv rfl (ad rfl rfl (ab ?_)))))))))));refine aZ ?_;refine dn (σ:=Nat×Int) (fun s=>[(0,v),(5,v),(6,.int .i64 l.length),(7,.int .i64 s.1)]) (fun s w=>w=w0∧s.1≤l.length∧ek (-1) l=ek s.2 (l.drop s.1)∧ -1≤s.2∧(s.1=0→s.2= -1)∧(0<s.1→l[s.1-1]? =some s.2)) (fun s=>l.length-s.1) (0,-1) (.cons rfl (.cons rfl (.cons rfl (.cons rfl .nil)))) ?_ ?_
 ·exact⟨rfl,bG _,rfl,by decide,fun _=>rfl,fun h=>absurd h (jv 0)⟩
 ·rintro⟨k,last⟩ w1 ⟨rfl,hk,hr,Wa,h0,h1⟩;dsimp only at hk hr Wa h0 h1 ⊢;refine aj (ae (cf rfl rfl rfl (ab (aj ?_))));refine bP rfl (fun c2=>?_) (fun c2=>?_)
  ·refine aT (aj (aZ (aj (ae (ad rfl rfl ?_)))));obtain⟨x,hx⟩:∃x,l[k]? =some x:=⟨_,au (by omega)⟩;refine cF (M:=M) ao I3 rfl rfl rfl hv (aq _ _) (by omega) (fun u a hg hu=>?_);obtain rfl:x=a:=dC (aJ (hg.symm.trans (by simpa using hx)));refine cd (M:=M) aw rfl rfl hu (aq _ _) (fun inx=>?_);refine ah rfl rfl (ah rfl rfl (ab (aj (ae (ad rfl rfl (cf rfl rfl rfl (ad rfl rfl ?_)))))));refine aO (g:=14) rfl (fun lS=>?_) (fun lS=>?_)
   ·refine ar rfl rfl rfl rfl (ar rfl rfl rfl rfl (ar rfl rfl rfl rfl (cn rfl rfl rfl (cn rfl rfl rfl (cn rfl rfl rfl (cn rfl rfl rfl (cn rfl rfl rfl (cn rfl rfl rfl (cn rfl rfl rfl (ar rfl rfl rfl rfl (aW rfl rfl rfl ?_)))))))))));refine ab (lD rfl (aj (ae (ah rfl rfl (ab (aN ?_))))));refine aU rfl rfl ⟨congrArg Value.bool (dC ?_),rfl⟩;rw[hr,gD hx,decide_eq_false (show¬last<x by omega),kK]
   ·refine al rfl rfl (ad rfl rfl (al rfl rfl (jc rfl rfl rfl (al rfl rfl (ad rfl rfl ?_)))));refine aO (g:=17) rfl (fun TL=>?_) (fun TL=>?_)
    ·refine al rfl rfl (ad rfl rfl (al rfl rfl (ad rfl rfl (al rfl rfl (ad rfl rfl (al rfl rfl (fq rfl rfl rfl (by omega) (al rfl rfl ?_))))))));refine cF (M:=M) ao I3 rfl rfl rfl hv (aq _ _) (by omega) (fun u2 a hg xe=>?_);obtain rfl:last=a:=dC (aJ (hg.symm.trans (by rw[show((k:Int)-1).toNat=k-1 from by omega];exact h1 (by omega))));refine al rfl rfl ?_;refine cd (M:=M) aw rfl rfl xe (aq _ _) (fun inl=>?_);refine al rfl rfl (gN rfl rfl rfl (al rfl rfl (aW rfl rfl rfl (aE rfl rfl rfl (ab ?_)))));refine bP rfl (fun c4=>?_) (fun c4=>?_)
     ·refine aj (ae (ah rfl rfl (ab (aN ?_))));refine aU rfl rfl ⟨congrArg Value.bool (dC ?_),rfl⟩;rw[hr,gD hx,decide_eq_false (show¬last<x by omega),kK]
     ·refine aT (ae (bD rfl rfl rfl (by omega) (ad rfl rfl (ab ?_))));refine⟨rfl,(k+1,x),(.cons rfl (.cons rfl (.cons rfl (.cons rfl .nil)))),?_,?_⟩
      ·refine⟨rfl,by simp only;omega,?_,by simp only;omega,fun h=>by simp at h,fun _=>by simpa using hx⟩;rw[hr,gD hx,decide_eq_true (show last<x by omega),eT]
      ·simp only;omega
    ·refine ar rfl rfl rfl rfl (ar rfl rfl rfl rfl (ar rfl rfl rfl rfl (ar rfl rfl rfl rfl (ar rfl rfl rfl rfl (ar rfl rfl rfl rfl (ar rfl rfl rfl rfl (al rfl rfl (aE rfl rfl rfl (aE rfl rfl rfl (ab (jD rfl ?_)))))))))));refine aT (ae (bD rfl rfl rfl (by omega) (ad rfl rfl (ab ?_))));refine⟨rfl,(k+1,x),(.cons rfl (.cons rfl (.cons rfl (.cons rfl .nil)))),?_,?_⟩
     ·refine⟨rfl,by simp only;omega,?_,by simp only;omega,fun h=>by simp at h,fun _=>by simpa using hx⟩;rw[hr,gD hx,decide_eq_true (show last<x by omega),eT]
     ·simp only;omega
  ·refine cL (aj (ae (ah rfl rfl (ab (aN ?_)))));refine aU rfl rfl ⟨congrArg Value.bool (dC ?_),rfl⟩;rw[hr,fD (by omega)];rfl
theorem DS {M:aC} {v:Value} {l:List (List UInt8)} (w0:World) (hv:(RT.str.sl).V M w0 l v):
  Spec Tryz.prog 198 #[v] w0 (fun v' w'=>v'= .bool (DQ none l)∧w'=w0):=by
 have hlen:=ep hv;refine bc (args:=[_]) (fn:=Tryz.f198) Tryz.func198 rfl (n:=24) Tryz.ntmps198 (aj (ae (ah rfl rfl (ab (aj (aj (ae (ad rfl rfl (bJ aQ rfl hv rfl (ad rfl rfl (ab ?_)))))))))));refine aZ ?_;refine dn (σ:=Nat×Option (List UInt8)) (fun s=>[(0,v),(5,v),(6,.int .i64 l.length),(7,.int .i64 s.1)]) (fun s w=>w=w0∧s.1≤l.length∧DQ none l=DQ s.2 (l.drop s.1)∧(s.1=0→s.2=none)∧(0<s.1→∃a,s.2=some a∧l[s.1-1]? =some a)) (fun s=>l.length-s.1) (0,none) (.cons rfl (.cons rfl (.cons rfl (.cons rfl .nil)))) ?_ ?_
 ·exact⟨rfl,bG _,rfl,fun _=>rfl,fun h=>absurd h (jv 0)⟩
 ·rintro⟨k,o⟩ w1 ⟨rfl,hk,hr,h0,h1⟩;dsimp only at hk hr h0 h1 ⊢;refine aj (ae (cf rfl rfl rfl (ab (aj ?_))));refine bP rfl (fun c2=>?_) (fun c2=>?_)
  ·refine aT (aj (aZ (aj (ae (ad rfl rfl ?_)))));obtain⟨x,hx⟩:∃x,l[k]? =some x:=⟨_,au (by omega)⟩;refine cF (M:=M) aQ I9 rfl rfl rfl hv (aq _ _) (by omega) (fun u a hg hu=>?_);obtain rfl:x=a:=dC (aJ (hg.symm.trans (by simpa using hx)));refine bV (M:=M) aH rfl rfl rfl rfl rfl hu (aq _ _) (fun vx rB=>?_);obtain rfl:=ix rB;refine ah rfl rfl (ah rfl rfl (ab (aj (ae (ad rfl rfl (jc rfl rfl rfl (ad rfl rfl ?_)))))));refine aO (g:=14) rfl (fun lS=>?_) (fun lS=>?_)
   ·refine al rfl rfl (ad rfl rfl (al rfl rfl (ad rfl rfl (al rfl rfl (ad rfl rfl (al rfl rfl (fq rfl rfl rfl (by omega) (al rfl rfl ?_))))))));obtain⟨last,rfl,jl⟩:=h1 (by omega);refine cF (M:=M) aQ I9 rfl rfl rfl hv (aq _ _) (by omega) (fun u2 a hg xe=>?_);obtain rfl:last=a:=dC (aJ (hg.symm.trans (by rw[show((k:Int)-1).toNat=k-1 from by omega];exact jl)));refine al rfl rfl ?_;refine bV (M:=M) aH rfl rfl rfl rfl rfl xe (aq _ _) (fun vl kn=>?_);obtain rfl:=ix kn;refine al rfl rfl (Rg.T0 rfl rfl rfl (aW rfl rfl rfl (ab ?_)));refine bP rfl (fun c4=>?_) (fun c4=>?_)
    ·refine aj (ae (ah rfl rfl (ab (aN ?_))));refine aU rfl rfl ⟨congrArg Value.bool (dC ?_),rfl⟩;rw[hr,yM hx];simp[c4]
    ·refine aT (ae (bD rfl rfl rfl (by omega) (ad rfl rfl (ab ?_))));refine⟨rfl,(k+1,some x),(.cons rfl (.cons rfl (.cons rfl (.cons rfl .nil)))),?_,?_⟩
     ·refine⟨rfl,by simp only;omega,?_,fun h=>by simp at h,fun _=>⟨x,rfl,by simpa using hx⟩⟩;rw[hr,yM hx]
      first
      |(rw[h0 (by omega)];simp;done)
      |(have c4':=dI.1 c4;simp[c4'];done)
     ·simp only;omega
   ·refine ar rfl rfl rfl rfl (ar rfl rfl rfl rfl (ar rfl rfl rfl rfl (ar rfl rfl rfl rfl (ar rfl rfl rfl rfl (ar rfl rfl rfl rfl (ar rfl rfl rfl rfl (aE rfl rfl rfl (ab (jD rfl (aT (ae ?_)))))))))));refine bD rfl rfl rfl (by omega) (ad rfl rfl (ab ?_));refine⟨rfl,(k+1,some x),(.cons rfl (.cons rfl (.cons rfl (.cons rfl .nil)))),?_,?_⟩
    ·refine⟨rfl,by simp only;omega,?_,fun h=>by simp at h,fun _=>⟨x,rfl,by simpa using hx⟩⟩;rw[hr,yM hx]
     first
     |(rw[h0 (by omega)];simp;done)
     |(have c4':=dI.1 c4;simp[c4'];done)
    ·simp only;omega
  ·refine cL (aj (ae (ah rfl rfl (ab (aN ?_)))));refine aU rfl rfl ⟨congrArg Value.bool (dC ?_),rfl⟩;rw[hr,fD (by omega)];rfl
theorem vD {α:Type} {A:RT α} {M:aC} {w:World} {v:Value} {x:α} (h:dg A M w v x):v.cells= #[v]:=by
 obtain⟨b,o,vs,rfl,_⟩:=h;rfl
theorem F9 {M:aC} {v0 v1:Value} {ns:List (List UInt8)} {ts:List Li} (w0:World) (hM:Lt M w0) (hn:(RT.str.sl).V M w0 ns v0) (ht:(((RT.li).ptr).sl).V M w0 ts v1) (hl:ns.length≤1099511627776) (N0:ts.length≤1099511627776):
  Spec Tryz.prog 147 #[v0,v1] w0 (fun v w=>∃p,v= .tuple #[p,.int .i64 (if ns.length=ts.length∧DQ none ns=true then 0 else 1)]∧(ns.length=ts.length→DQ none ns=true→dg RT.di M w p (ns,ts))∧Step M w0 M w aD):=by
 refine bc (args:=[_,_]) (fn:=Tryz.f147) Tryz.func147 rfl (n:=22) Tryz.ntmps147 ?_;have S:Step M w0 M w0 aD:=(ax _ _).cG (fun _ h=>h.elim) (fun _ h=>h.elim);refine aj (ae (ah rfl rfl (ah rfl rfl (ab (aj (aj (ae (ad rfl rfl (bJ aQ rfl hn rfl (ad rfl rfl (bJ dX rfl ht rfl ?_)))))))))));refine fp rfl rfl rfl (ad rfl rfl ?_);refine aO (g:=11) rfl (fun vu=>?_) (fun vu=>?_)
 ·refine ar rfl rfl rfl rfl (ar rfl rfl rfl rfl (ar rfl rfl rfl rfl (aW rfl rfl rfl (ab (lD rfl (aj (ae (ah rfl rfl (ah rfl rfl (ab (aN ?_)))))))))))
  first
  |exact eU rfl rfl rfl ⟨_,by rw[if_neg (fun h=>vu (by omega))],fun h=>absurd (by omega) vu,S⟩
  |exact eU rfl rfl rfl ⟨_,by rw[if_neg (fun h=>c1 h.2)],fun _ h=>absurd h c1,S⟩
 ·refine al rfl rfl (ad rfl rfl (al rfl rfl ?_));refine aX rfl rfl aeJ (DS _ hn) (fun r wc hc=>?_);obtain⟨rfl,rfl⟩:=hc;refine al rfl rfl (mS rfl rfl (aV (v':= .bool (decide (¬DQ none ns=true))) (by simp) (aE rfl rfl rfl (ab ?_))));refine bP rfl (fun c1=>?_) (fun c1=>?_)
  ·refine aj (ae (ah rfl rfl (ah rfl rfl (ab (aN ?_)))))
   first
   |exact eU rfl rfl rfl ⟨_,by rw[if_neg (fun h=>vu (by omega))],fun h=>absurd (by omega) vu,S⟩
   |exact eU rfl rfl rfl ⟨_,by rw[if_neg (fun h=>c1 h.2)],fun _ h=>absurd h c1,S⟩
  ·refine aT (aj (ae (ad rfl rfl ?_)));refine aX rfl rfl aeK (LC hM hn hl) (fun v3 w3 hc=>?_);obtain⟨AE,s3⟩:=hc;replace hn:=hn.le s3.le;replace ht:=ht.le s3.le;replace hM:=s3.lt hM;have:=S.size;replace S:=S.aB s3;refine ad rfl rfl ?_;refine aX rfl rfl aeL (Pj hM ht N0) (fun v4 w4 hc=>?_);obtain⟨rU,s4⟩:=hc;replace hn:=hn.le s4.le;replace ht:=ht.le s4.le;replace AE:=AE.le s4.le;replace hM:=s4.lt hM;have:=S.size;replace S:=S.aB s4;refine iW (places:=[(0,1),(1,1)]) jQ aeH aeI rfl ⟨_,_,rfl,rfl,_,_,rfl,rfl,rfl⟩ (out:=[_,_]) ⟨0,[_],rfl,kZ AE,by simp[Value.cells],1,[_],rfl,kZ rU,by simp[Value.cells],rfl⟩ ?_;refine vU (A:=RT.di) (a:=(ns,ts)) rfl rfl hM (eV AE rU rfl rfl rfl rfl) rfl (fun u5 w5 zL s5 _=>?_);replace hn:=hn.le s5.le;replace ht:=ht.le s5.le;replace AE:=AE.le s5.le;replace rU:=rU.le s5.le;replace hM:=s5.lt hM;have:=S.size;replace S:=S.aB s5;refine ah rfl rfl (ah rfl rfl (ab (aN ?_)));exact eU rfl rfl rfl ⟨_,by rw[if_pos ⟨by omega,dI.1 c1⟩],fun _ _=>zL,S⟩
end Go.K
namespace Go.K
theorem Ga (n:Nat):IntKind.u8.wrap (n:Int)=((UInt8.ofNat n).toNat:Int):=by
 rw[IntKind.wrap_u8];simp[UInt8.toNat_ofNat]
theorem Yt:∀m:Nat,m<256→(BitVec.ofInt 8 (m:Int)|||BitVec.ofInt 8 128).toNat=128+m%128:=by decide+kernel
theorem Pt (n:Nat):IntKind.u8.wrap ((BitVec.ofInt IntKind.u8.bits (IntKind.u8.wrap (n:Int))|||BitVec.ofInt IntKind.u8.bits 128).toNat:Int)=((UInt8.ofNat (128+n%128)).toNat:Int):=by
 have h1:IntKind.u8.wrap (n:Int)=((n%256:Nat):Int):=by rw[IntKind.wrap_u8];omega
 rw[h1];show IntKind.u8.wrap ((BitVec.ofInt 8 ((n%256:Nat):Int)|||BitVec.ofInt 8 128).toNat:Int)=_;rw[Yt (n%256) (by omega),IntKind.wrap_u8,show n%256%128=n%128 from by omega];simp[UInt8.toNat_ofNat]
theorem aeN (n:Nat):((n:Int)).fdiv (2^min (Int.toNat 7) IntKind.i64.bits)=((n/128:Nat):Int):=by
 show((n:Int)).fdiv 128=_;rw[Int.fdiv_eq_ediv_of_nonneg _ (by decide)];rfl
theorem Gb:∀m:Nat,m<256→(BitVec.ofInt 8 (m:Int)&&& ~~~ BitVec.ofInt 8 128).toNat=m%128:=by decide+kernel
theorem DT (c:UInt8):IntKind.u8.wrap ((BitVec.ofInt IntKind.u8.bits (c.toNat:Int)&&& ~~~ BitVec.ofInt IntKind.u8.bits 128).toNat:Int)=((c.toNat%128:Nat):Int):=by
 show IntKind.u8.wrap ((BitVec.ofInt 8 (c.toNat:Int)&&& ~~~ BitVec.ofInt 8 128).toNat:Int)=_;rw[Gb c.toNat (by have:=c.toNat_lt;omega),IntKind.wrap_u8];omega
theorem Mc (k n x:Nat) (hk:k≤8) (hn:n<128^k) (hx:x<128):
  IntKind.i64.wrap ((BitVec.ofInt IntKind.i64.bits (n:Int)|||BitVec.ofInt IntKind.i64.bits (IntKind.i64.wrap ((x:Int)*2^min (Int.toNat (7*(k:Int))) IntKind.i64.bits))).toNat:Int)=((n+x*128^k:Nat):Int):=by
 have e7:Int.toNat (7*(k:Int))=7*k:=by omega
 have e1:min (7*k) 64=7*k:=by omega
 have e2:(128:Nat)^k=2^(7*k):=by rw[Nat.pow_mul]
 have hp:2^(7*k)≤2^56:=nr (by decide) (by omega);have hb:x*2^(7*k)≤127*2^(7*k):=gw _ (by omega);rw[e2]at hn ⊢;show IntKind.i64.wrap ((BitVec.ofInt 64 (n:Int)|||BitVec.ofInt 64 (IntKind.i64.wrap ((x:Int)*2^min (Int.toNat (7*(k:Int))) 64))).toNat:Int)=_;rw[e7,e1];have e3:((x:Int)*2^(7*k))=((x*2^(7*k):Nat):Int):=by simp
 have e5:n|||x*2^(7*k)=n+x*2^(7*k):=by
  rw[Nat.or_comm,Nat.mul_comm x,←Nat.two_pow_add_eq_or_of_lt hn x,Nat.add_comm]
 rw[e3];generalize x*2^(7*k)=y at*
 generalize 2^(7*k)=z at*
 have e4:∀m:Nat,m<2^64→(BitVec.ofInt 64 (m:Int))=BitVec.ofNat 64 m:=fun m _=>by simp
 rw[j4 (y:Int) (by omega),e4 n (by omega),e4 y (by omega),BitVec.toNat_or,BitVec.toNat_ofNat,BitVec.toNat_ofNat,nK (by omega),nK (by omega),e5,j4 _ (by omega)]
theorem tc (x:Int): -9223372036854775808≤IntKind.i64.wrap x∧IntKind.i64.wrap x≤9223372036854775807:=by rw[IntKind.wrap_i64];omega
end Go.K
namespace Go.K
open Go.Proofs
set_option maxRecDepth 10000
theorem BP {M:aC} {w0:World} {v:Value} {b:List UInt8} {n:Nat} (hM:Lt M w0) (hv:(RT.u8.sl).V M w0 b v) (hb:b.length≤70368744177664) (hn:n≤9223372036854775807):
  Spec Tryz.prog 195 #[v,.int .i64 n] w0 (fun v' w'=>∃M',Step M w0 M' w' aD∧Own RT.u8 5 M' w' w0.heap.size v' (b++put n)):=by
 have h9:=ll hn;refine bc (args:=[_,_]) (fn:=Tryz.f195) Tryz.func195 rfl (n:=26) Tryz.ntmps195 (aj (ae (ah rfl rfl (ab (aj (ae (ad rfl rfl (ad rfl rfl ?_))))))))
 first|refine bJ bI rfl (by assumption) rfl ?_|refine fS bI rfl (by assumption) rfl ?_
 refine ad rfl rfl ?_
 first|refine bJ bI rfl (by assumption) rfl ?_|refine fS bI rfl (by assumption) rfl ?_
 refine Rg.E2 bI I5 rfl rfl rfl rfl hv ⟨rfl,rfl⟩ (fun a pW qi=>?_);refine ah rfl rfl (ab (aj (aZ ?_)));refine dn (σ:=Nat×Value×List UInt8) (fun s=>[(0,s.2.1),(1,.int .i64 s.1)]) (fun s w=>s.2.2++put s.1=b++put n∧∃M1,Lt M1 w∧Step M w0 M1 w aD∧Grow RT.u8 (by decide) 5 M1 w w0.heap.size s.2.1 s.2.2) (fun s=>s.1) (n,_,b) (.cons rfl (.cons rfl .nil)) ?_ ?_
 ·exact⟨rfl,M,hM,ax _ _,.inr ⟨a,rfl,qi,pW⟩⟩
 ·rintro⟨k,u0,acc⟩ w1 ⟨zH,M1,nH,s1,hg⟩;dsimp only at zH hg ⊢;have hlen:=congrArg List.length zH;have tz:=OC k;simp only[bg]at hlen;refine aj (aj (ae (ad rfl rfl (dT rfl rfl rfl (ab ?_)))));refine bP rfl (fun c2=>?_) (fun c2=>?_)
  ·refine aT (aZ (aj (ae (ad rfl rfl (ad rfl rfl (so aw cx rfl rfl (Rg.or rfl rfl rfl (aV (congrArg _ (Pt _)) ?_))))))));refine dQ (A:=RT.u8) (hn:=by decide) (M:=M1) bI I5 (by decide) rfl rfl nH (R6.2 rfl) (.inr ⟨rfl,rfl⟩) (fun u w2 hu s2=>?_);refine Rg.GX (M:=M1) (base:=w0.heap.size) bI I5 rfl rfl rfl rfl (hg.le s2) hu (aq _ _) (by simp) (by simp;omega) (by simp;omega) (eJ s1.size s2.size) (fun v3 M3 w3 yN s3=>?_);refine ah rfl rfl (ab (ae (ad rfl rfl (Rg.shr rfl rfl rfl (by omega) (aV (congrArg _ (aeN _)) (ah rfl rfl (ab ?_)))))));refine⟨rfl,(k/128,v3,acc++[UInt8.ofNat (128+k%128)]),(.cons rfl (.cons rfl .nil)),?_,?_⟩
   ·exact⟨by rw[←zH,Fg (n:=k) (by omega)];simp,M3,s3.lt (s2.lt nH),(s1.aB s2).l6 s3 (aR _),.inl yN⟩
   ·show k/128<k;omega
  ·refine cL (aj (ae (ad rfl rfl (ad rfl rfl (so aw cx rfl rfl (aV (congrArg _ (Ga _)) ?_))))));refine dQ (A:=RT.u8) (hn:=by decide) (M:=M1) bI I5 (by decide) rfl rfl nH (R6.2 rfl) (.inr ⟨rfl,rfl⟩) (fun u w2 hu s2=>?_);refine Rg.GX (M:=M1) (base:=w0.heap.size) bI I5 rfl rfl rfl rfl (hg.le s2) hu (aq _ _) (by simp) (by simp;omega) (by simp;omega) (eJ s1.size s2.size) (fun v3 M3 w3 yN s3=>?_);refine ah rfl rfl (ab (aN ?_));refine aU rfl rfl ⟨M3,(s1.aB s2).l6 s3 (aR _),?_⟩;rw[←zH,xV (n:=k) (by omega)];exact yN
theorem Md {M:aC} {w0:World} {v:Value} {b:List UInt8} {n:Nat} (hM:Lt M w0) (hv:(RT.u8.sl).V M w0 b v) (hb:b.length≤70368744177664) (hn:n≤9223372036854775807):
  Spec Tryz.prog 195 #[v,.int .i64 n] w0 (fun v' w'=>Step M w0 M w' aD∧(RT.u8.sl).V M w' (b++put n) v'):=
 (BP hM hv hb hn).mono fun _ _ ⟨_,s,ho⟩=>⟨s.back,Own.close hM s ho (by have:=ll hn;simp;omega)⟩
theorem DV {M:aC} {w0:World} {v:Value} {b:List UInt8} {at_:Int} (hv:(RT.u8.sl).V M w0 b v) (Me: -9223372036854775808≤at_∧at_≤9223372036854775807):
  Spec Tryz.prog 263 #[v,.int .i64 at_] w0 (fun v' w'=>v'= .tuple #[.int .i64 (get b at_).1,.int .i64 (get b at_).2.1,.int .i64 (get b at_).2.2]∧w0=w'):=by
 have hlen:=ep hv;refine bc (args:=[_,_]) (fn:=Tryz.f263) Tryz.func263 rfl (n:=54) Tryz.ntmps263 (aj (ae (ah rfl rfl (ah rfl rfl (ah rfl rfl (ab (aj (aj (ae (ad rfl rfl (cf rfl rfl rfl ?_)))))))))));refine ad rfl rfl ?_;refine aO (g:=12) rfl (fun iJ=>?_) (fun iJ=>?_)
 ·obtain Ur:at_<0∨(b.length:Int)<at_:= .inl iJ;refine ar rfl rfl rfl rfl (ar rfl rfl rfl rfl (ar rfl rfl rfl rfl (ar rfl rfl rfl rfl (aW rfl rfl rfl (ab (lD rfl (aj (ae (ah rfl rfl (ah rfl rfl (ah rfl rfl ?_)))))))))));refine ab (aN ?_);have iY:get b at_=(0,0,1):=by unfold get;rw[if_pos Ur]
  exact rL rfl rfl rfl rfl ⟨by rw[iY],rfl⟩
 ·refine al rfl rfl (ad rfl rfl (al rfl rfl (ad rfl rfl (al rfl rfl ?_))))
  first|refine bJ bI rfl (by assumption) rfl ?_|refine fS bI rfl (by assumption) rfl ?_
  refine al rfl rfl (jc rfl rfl rfl (aE rfl rfl rfl (ab ?_)));refine bP rfl (fun c1=>?_) (fun c1=>?_)
  ·obtain Ur:at_<0∨(b.length:Int)<at_:= .inr c1;refine aj (ae (ah rfl rfl (ah rfl rfl (ah rfl rfl (ab (aN ?_))))));have iY:get b at_=(0,0,1):=by unfold get;rw[if_pos Ur]
   exact rL rfl rfl rfl rfl ⟨by rw[iY],rfl⟩
  ·refine aT (aj (ae (ah rfl rfl (ab (aj (aj (ae (ad rfl rfl (ad rfl rfl (ad rfl rfl ?_))))))))))
   first|refine bJ bI rfl (by assumption) rfl ?_|refine fS bI rfl (by assumption) rfl ?_
   refine ad rfl rfl (bD rfl rfl rfl (by omega) (Rg.min2 rfl rfl rfl ?_));refine Rg.JP bI I5 rfl rfl rfl rfl hv (by omega) (fun u hu=>?_);rw[show(min (b.length:Int) (at_+9)).toNat=min b.length (at_.toNat+9)from by omega,SB]at hu;have iY:get b at_=match nW ((b.drop at_.toNat).take 9) 0 0 with|some (n,k)=>((n:Int),at_+k,0)|none=>(0,0,2):=by unfold get;rw[if_neg (by omega)];rfl
   have k5:((b.drop at_.toNat).take 9).length≤9:=by rw[bC];omega
   generalize (b.drop at_.toNat).take 9=bs at hu iY k5
   first|refine bJ bI rfl (by assumption) rfl ?_|refine fS bI rfl (by assumption) rfl ?_
   refine ad rfl rfl (ab (aZ ?_));refine dn (σ:=Nat×Nat) (fun s=>[(1,.int .i64 at_),(25,u),(26,.int .i64 bs.length),(27,.int .i64 s.1),(7,.int .i64 s.2)]) (fun s w=>w0=w∧s.1≤bs.length∧s.2<128^s.1∧nW (bs.drop s.1) s.1 s.2=nW bs 0 0) (fun s=>bs.length-s.1) (0,0) (.cons rfl (.cons rfl (.cons rfl (.cons rfl (.cons rfl .nil))))) ?_ ?_
   ·exact⟨rfl,bG _,by decide,rfl⟩
   ·rintro⟨k,m⟩ w1 ⟨rfl,hk,hm,hg⟩;dsimp only at hk hm hg ⊢;refine aj (ae (cf rfl rfl rfl (ab (aj ?_))));refine bP rfl (fun c5=>?_) (fun c5=>?_)
    ·refine aT (aj (aZ (aj (ae (ad rfl rfl ?_)))));refine cF (M:=M) bI I5 rfl rfl rfl (by assumption) (by repeat (first|exact aq _ _|refine aY (bu (by assumption)) ?_)) (by omega) (fun aoc Pu DW ajC=>?_);refine Rg.R8 (M:=M) cx rfl rfl (by assumption) (by repeat (first|exact aq _ _|refine aY (bu (by assumption)) ?_)) ?_;refine ah rfl rfl (ah rfl rfl (ab (aj (ae (ad rfl rfl (ad rfl rfl (Rg.andNot rfl rfl rfl (aV (congrArg _ (DT _)) (Rg.uU cx aw rfl rfl (by omega) (ad rfl rfl (Rg.Ol rfl rfl rfl (by omega) ?_)))))))))));refine Rg.shl rfl rfl rfl (by omega) (Rg.or rfl rfl rfl (aV (congrArg _ (Mc k m _ (by omega) hm (by omega))) (ah rfl rfl (ab (aj (ae (ad rfl rfl (cf rfl rfl rfl (ab ?_)))))))));refine bP rfl (fun c8=>?_) (fun c8=>?_)
     ·refine aj (aj (ae (ad rfl rfl (k7 rfl rfl rfl (ad rfl rfl ?_)))));refine aO (g:=44) rfl (fun BQ=>?_) (fun BQ=>?_)
      ·refine al rfl rfl (ad rfl rfl (al rfl rfl (jc rfl rfl rfl (aW rfl rfl rfl (ab ?_)))));refine bP rfl (fun c9=>?_) (fun c9=>?_)
       ·refine cL (aj (ae (ah rfl rfl (ah rfl rfl (ah rfl rfl (ab (aN ?_)))))))
        have hr:nW bs 0 0=none:=by
         rw[←hg]
         first
         |(rw[nX (by simpa using DW),if_pos (by omega),if_pos (by omega)])
         |(rw[fD (by omega)];rfl)
        exact rL rfl rfl rfl rfl ⟨by rw[iY,hr],rfl⟩
       ·refine aT (aj (ae (ad rfl rfl (ad rfl rfl (ad rfl rfl (bD rfl rfl rfl (by omega) (bD rfl rfl rfl (by omega) (ah rfl rfl (ah rfl rfl (ah rfl rfl (ab ?_)))))))))));refine aN ?_;have hr:nW bs 0 0=some (m+Pu.toNat%128*128^k,k+1):=by rw[←hg,nX (by simpa using DW),if_pos (by omega),if_neg (by omega)]
        exact rL rfl rfl rfl rfl ⟨by rw[iY,hr];simp;omega,rfl⟩
      ·refine ar rfl rfl rfl rfl (ar rfl rfl rfl rfl (aE rfl rfl rfl (ab (jD rfl (aT (aj (ae (ad rfl rfl (ad rfl rfl (ad rfl rfl (bD rfl rfl rfl (by omega) ?_)))))))))));refine bD rfl rfl rfl (by omega) (ah rfl rfl (ah rfl rfl (ah rfl rfl (ab (aN ?_)))));have hr:nW bs 0 0=some (m+Pu.toNat%128*128^k,k+1):=by rw[←hg,nX (by simpa using DW),if_pos (by omega),if_neg (by omega)]
       exact rL rfl rfl rfl rfl ⟨by rw[iY,hr];simp;omega,rfl⟩
     ·refine aT (ae (bD rfl rfl rfl (by omega) (ad rfl rfl (ab ?_))));refine⟨rfl,(k+1,m+Pu.toNat%128*128^k),(.cons rfl (.cons rfl (.cons rfl (.cons rfl (.cons rfl .nil))))),?_,?_⟩
      ·refine⟨rfl,by simp only;omega,?_,?_⟩
       ·have:=gw (128^k) (show Pu.toNat%128≤127 from by omega);simp only[Nat.pow_succ];omega
       ·rw[nX (by simpa using DW),if_neg (by omega)]at hg;exact hg
      ·simp only;omega
    ·refine cL (aj (ae (ah rfl rfl (ah rfl rfl (ah rfl rfl (ab (aN ?_)))))))
     have hr:nW bs 0 0=none:=by
      rw[←hg]
      first
      |(rw[nX (by simpa using DW),if_pos (by omega),if_pos (by omega)])
      |(rw[fD (by omega)];rfl)
     exact rL rfl rfl rfl rfl ⟨by rw[iY,hr],rfl⟩
theorem zW {M:aC} {w0:World} {v u:Value} {b:List UInt8} {l:List Int} (hM:Lt M w0) (hv:(RT.u8.sl).V M w0 b v) (hu:((RT.int .i64).sl).V M w0 l u) (hb:b.length+9*(l.length+1)≤70368744177664):
  Spec Tryz.prog 196 #[v,u] w0 (fun v' w'=>∃M' x,Step M w0 M' w' aD∧v'= .tuple #[x,.int .i64 (if ek (-1) l then 0 else 1)]∧Own RT.u8 5 M' w' w0.heap.size x (if ek (-1) l then b++eC l else[])):=by
 have tu:=ll (n:=l.length) (by omega);refine bc (args:=[_,_]) (fn:=Tryz.f196) Tryz.func196 rfl (n:=31) Tryz.ntmps196 (aj (ae (ah rfl rfl (ah rfl rfl (ab (aj (ae (ad rfl rfl (ad rfl rfl (bJ ao rfl hu rfl ?_))))))))));refine aX rfl rfl SH (BP (M:=M) hM hv (by omega) (by omega)) (fun ub wb A7=>?_);obtain⟨Mb,sb,sC⟩:=A7;refine ah rfl rfl (ab (aj (ae (ah rfl rfl (ab (aj (aj (ae (ad rfl rfl (bJ ao rfl hu rfl (ad rfl rfl ?_)))))))))));refine ab (aZ ?_);refine dn (σ:=Nat×Int×Value×List UInt8) (fun s=>[(0,s.2.2.1),(6,.int .i64 s.2.1),(13,u),(14,.int .i64 l.length),(15,.int .i64 s.1)]) (fun s w=>ek (-1) l=ek s.2.1 (l.drop s.1)∧(ek (-1) l=true→s.2.2.2++lO s.2.1 (l.drop s.1)=b++eC l)∧s.1≤l.length∧ -1≤s.2.1∧s.2.2.2.length≤b.length+9*(s.1+1)∧∃M1,Lt M1 w∧Step M w0 M1 w aD∧Own RT.u8 5 M1 w w0.heap.size s.2.2.1 s.2.2.2) (fun s=>l.length-s.1) (0,-1,_,b++put l.length) (.cons rfl (.cons rfl (.cons rfl (.cons rfl (.cons rfl .nil))))) ?_ ?_
 ·exact⟨rfl,fun _=>by simp[eC],bG _,by simp only;omega,by simp;omega,Mb,sb.lt hM,sb,sC⟩
 ·rintro⟨k,last,u0,acc⟩ w1 ⟨hr,zH,hk,Wa,hal,M1,nH,s1,ho⟩;dsimp only at hr zH hk Wa hal ho ⊢;refine aj (ae (cf rfl rfl rfl (ab (aj ?_))));refine bP rfl (fun c4=>?_) (fun c4=>?_)
  ·refine aT (aj (aZ (aj (ae ?_))));obtain⟨x,hx⟩:∃x,l[k]? =some x:=⟨_,au (by omega)⟩;have hxr:=A8 hu hx;refine cF (M:=M) ao I3 rfl rfl rfl (hu.le (s1.back).le) (aq _ _) (by omega) (fun Yu Mf Yv Hv=>?_);obtain rfl:Mf=x:=aJ (Yv.symm.trans (by simpa using hx));refine cd (M:=M) aw rfl rfl Hv (aq _ _) (fun _=>?_);refine ah rfl rfl (ab (aj (aj (ae (ad rfl rfl (ad rfl rfl (gN rfl rfl rfl (ab ?_))))))));refine bP rfl (fun c6=>?_) (fun c6=>?_)
   ·refine aj (ae (ah rfl rfl (ah rfl rfl (ab (aN ?_)))));have hrf:ek (-1) l=false:=by rw[hr,gD hx,decide_eq_false (by omega),kK]
    exact eU rfl rfl rfl ⟨M1,_,s1,by rw[hrf];rfl,by rw[hrf];exact dE _ _ _ _ _⟩
   ·refine aT (aj (ae (ad rfl rfl (ad rfl rfl (ad rfl rfl (Rg.R7 rfl rfl rfl (Rg.R7 rfl rfl rfl ?_)))))));have hpx:=ll (n:=(Mf-last-1).toNat) (by omega);refine aV (v':= .int .i64 (((Mf-last-1).toNat:Nat):Int)) (by rw[IntKind.wrap_i64,IntKind.wrap_i64];congr 1;omega) ?_;have hfz:=s1.freeze (v:=u0) (fun b hb=>(ho.base b hb).1);refine aX rfl rfl SH (BP (M:=rm M1 u0) (nH.rm u0) (ho.view (by omega)) (by omega) (by omega)) (fun ub wb A7=>?_);obtain⟨Mb2,Wb,aeP⟩:=A7;refine ah rfl rfl (ab (ae (ad rfl rfl (ah rfl rfl (ab (ae (bD rfl rfl rfl (by omega) (ad rfl rfl (ab ?_)))))))));refine⟨rfl,(k+1,Mf,ub,acc++put (Mf-last-1).toNat),(.cons rfl (.cons rfl (.cons rfl (.cons rfl (.cons rfl .nil))))),?_,?_⟩
    ·refine⟨?_,fun h=>?_,by simp only;omega,by simp only;omega,by simp only[bg];omega,Mb2,Wb.lt (nH.rm u0),hfz.aB Wb,aeP.oL s1.size⟩
     ·rw[hr,gD hx,decide_eq_true (by omega),eT]
     ·rw[←zH h,H9 hx];simp
    ·simp only;omega
  ·refine cL (aj (ae (ad rfl rfl (ah rfl rfl (ah rfl rfl (ab (aN ?_)))))));have hrt:ek (-1) l=true:=by rw[hr,fD (by omega)];rfl
   have ha:=zH hrt;rw[fD (by omega),lO,iX]at ha;exact eU rfl rfl rfl ⟨M1,_,s1,by rw[hrt];rfl,by rw[hrt,←ha];exact ho⟩
theorem yO {M:aC} {w0:World} {v u:Value} {b:List UInt8} {l:List Int} (hM:Lt M w0) (hv:(RT.u8.sl).V M w0 b v) (hu:((RT.int .i64).sl).V M w0 l u) (hb:b.length+9*(l.length+1)≤70368744177664):
  Spec Tryz.prog 196 #[v,u] w0 (fun v' w'=>∃x,Step M w0 M w' aD∧v'= .tuple #[x,.int .i64 (if ek (-1) l then 0 else 1)]∧(RT.u8.sl).V M w' (if ek (-1) l then b++eC l else[]) x):=
 (zW hM hv hu hb).mono fun _ _ ⟨_,x,s,h,ho⟩=>⟨x,s.back,h,Own.close hM s ho (by
  split
  next hr=>
   have tu:=ll (n:=l.length) (by omega);have l7:∀x∈l,x≤9223372036854775807:=fun x hx=>by obtain⟨i,hi⟩:=bm.1 hx;exact(A8 hu hi).2
   have:=xW l (-1) (by decide) l7 hr;simp only[eC,bg];omega
  next=>simp)⟩
theorem AQ {M:aC} {w0:World} {be bb ba:Nat} {v:Value} {b:List UInt8} {at_:Int} (he:w0.heap[be]? =some (.cells #[.int .i64 0] 26 (0,0))) (hb:w0.heap[bb]? =some (.cells #[v] 204 (0,0))) (ha:w0.heap[ba]? =some (.cells #[.int .i64 at_] 3 (0,0))) (eN:be≠ba) (Us:M be) (Wc:M ba) (hv:(RT.u8.sl).V M w0 b v) (Me: -9223372036854775808≤at_∧at_≤9223372036854775807):
  Spec Tryz.prog 287 #[.pointer (some ⟨be,0,none⟩),.pointer (some ⟨bb,0,none⟩),.pointer (some ⟨ba,0,none⟩)] w0 (fun v' w'=>v'= .int .i64 (get b at_).1∧w'.heap[be]? =some (.cells #[.int .i64 (get b at_).2.2] 26 (0,0))∧w'.heap[ba]? =some (.cells #[.int .i64 (get b at_).2.1] 3 (0,0))∧Step M w0 M w' (fun k=>k=be∨k=ba)):=by
 refine bc (args:=[_,_,_]) (fn:=Tryz.f287) Tryz.func287 rfl (n:=15) Tryz.ntmps287 (aj (ae (ah rfl rfl (ab (aj (aj (ae (aL vV rfl rfl rfl (by assumption) rfl (fp rfl rfl rfl (ab ?_))))))))));refine bP rfl (fun c1=>?_) (fun c1=>?_)
 ·exact absurd rfl c1
 ·refine aT (aj (ae (ah rfl rfl (ab (aj (ae (aL bI rfl rfl rfl (by assumption) rfl (aL aw rfl rfl rfl (by assumption) rfl ?_))))))));refine aX rfl rfl W9 (DV hv Me) (fun r w1 h1=>?_);obtain⟨rfl,rfl⟩:=h1;refine ad rfl rfl (bK rfl rfl rfl (bK rfl rfl rfl (bK rfl rfl rfl (ah rfl rfl ?_))));refine cu (M:=M) I3 rfl rfl ha rfl rfl Wc (fun w1 h1 s1=>?_);refine cu (M:=M) I26 rfl rfl (s1.keep he eN) rfl rfl Us (fun w2 h2 s2=>?_);refine ab (aj (ae (ad rfl rfl (ah rfl rfl (ab (aN ?_))))));refine aU rfl rfl ⟨rfl,h2,s2.keep h1 (Ne.symm eN),?_⟩;exact(s1.cG (fun b hb=> .inr hb) (fun b hb=>by rcases hb with rfl|rfl<;>assumption)).trans s2 (fun b _ hb=> .inl hb)
theorem yP {M:aC} {w0:World} {v:Value} {b:List UInt8} {at_:Int} (hM:Lt M w0) (hv:(RT.u8.sl).V M w0 b v) (Me: -9223372036854775808≤at_∧at_≤9223372036854775807) (k5:b.length≤1099511627776):
  Spec Tryz.prog 264 #[v,.int .i64 at_] w0 (fun v' w'=>∃x,v'= .tuple #[x,.int .i64 (gZ b at_).2.2,.int .i64 (gZ b at_).1]∧((RT.int .i64).sl).V M w' (gZ b at_).2.1 x∧Step M w0 M w' aD):=by
 refine bc (args:=[_,_]) (fn:=Tryz.f264) Tryz.func264 rfl (n:=48) Tryz.ntmps264 (aj (ae ?_));refine wX M rfl rfl (fun bb w1 LB aoe hB s1=>?_);rw[kZ hv]at hB;refine wX (ins M bb) rfl rfl (fun ba w2 hba aof hA s2=>?_);refine ah rfl rfl (ah rfl rfl (ah rfl rfl (ab (aj (ae ?_)))));refine ey (ins (ins M bb) ba) I26 rfl (fun be w3 hbe aog hE s3=>?_);refine cu (M:=ins (ins (ins M bb) ba) be) I26 rfl rfl hE rfl rfl (.inl rfl) (fun w4 hE4 s4=>?_);have z1:=s1.size;have z2:=s2.size;have z3:=s3.size;have z4:=s4.size;have S4:Step M w0 (ins (ins (ins M bb) ba) be) w4 aD:=((s1.aB s2).aB s3).cg s4 (fun k hk=>by subst hk;omega);have hB4:=s4.keep (s3.aK (s2.aK hB)) (show bb≠be by omega);have hA4:=s4.keep (s3.aK hA) (show ba≠be by omega);refine ab (aj (ae (ka (xs:=[]) rfl rfl rfl (ah rfl rfl (ab (aj (ae (ah rfl rfl (ab (aj (ae ?_)))))))))));refine ah rfl rfl (ab (aj (aj (ae (ad rfl rfl ?_)))));refine zC (first:=[]) (xs:=[]) rfl rfl rfl Xa (AQ (M:=ins (ins (ins M bb) ba) be) hE4 hB4 hA4 (by omega) (.inl rfl) (.inr (.inl rfl)) (hv.le S4.le) Me) (fun r w5 h5=>?_);obtain⟨rfl,hE5,hA5,s5⟩:=h5;have z5:=s5.size;have S5:=S4.cg s5 (fun k hk=>by omega);have hB5:=s5.keep hB4 (by omega);obtain⟨hn0,hn1,hn2,hn3⟩:=oT b at_;refine aV (v':= .int .i64 (((get b at_).1.toNat:Nat):Int)) (by rw[zt hn0]) (ah rfl rfl (ab (aZ ?_)));refine dn (σ:=Nat×Int×Value×List Int×Int×Int) (fun s=>[(7,.pointer (some ⟨be,0,none⟩)),(3,.pointer (some ⟨ba,0,none⟩)),(8,.func (.func 287) [].toArray [.pointer (some ⟨be,0,none⟩),.pointer (some ⟨bb,0,none⟩),.pointer (some ⟨ba,0,none⟩)].toArray),(9,s.2.2.1),(10,.int .i64 s.2.1),(11,.int .i64 s.1)]) (fun s w=>(s.1:Int)≤9223372036854775807∧(s.2.2.2.2.1=0→gZ b at_=andThen s.2.2.2.1 (iD b s.1 s.2.2.2.2.2 s.2.1))∧(s.2.2.2.2.1≠0→gZ b at_=(s.2.2.2.2.1,[],0))∧(s.2.2.2.2.1=0→ -1≤s.2.1∧s.2.1≤4611686018427387904∧(s.2.2.2.1.length:Int)≤s.2.2.2.2.2∧s.2.2.2.2.2≤b.length)∧s.2.2.2.1.length≤b.length+1∧∃M1,Lt M1 w∧Step M w0 M1 w aD∧w4.heap.size≤w.heap.size∧M1 be∧M1 ba∧Own (RT.int .i64) 3 M1 w w4.heap.size s.2.2.1 s.2.2.2.1∧w.heap[be]? =some (.cells #[.int .i64 s.2.2.2.2.1] 26 (0,0))∧w.heap[ba]? =some (.cells #[.int .i64 s.2.2.2.2.2] 3 (0,0))∧w.heap[bb]? =some (.cells #[v] 204 (0,0))) (fun s=>s.1) ((get b at_).1.toNat,-1,_,[],(get b at_).2.2,(get b at_).2.1) (.cons rfl (.cons rfl (.cons rfl (.cons rfl (.cons rfl (.cons rfl .nil)))))) ?_ ?_
 ·refine⟨by have:=Ar b at_;simp only;omega,fun h=>?_,fun h=>?_,fun h=>?_,by simp,_,S5.lt hM,S5,z5,.inl rfl,.inr (.inl rfl),dE _ _ _ _ _,hE5,hA5,hB5⟩
  ·unfold gZ;rw[if_neg (by simpa using h)];exact(CL _ (Ia b _ _ _)).symm
  ·unfold gZ;rw[if_pos h]
  ·have:=uY h;simp only[jY];omega
 ·rintro⟨many,last,u0,acc,e,a1⟩ wl ⟨hmb,N8,G2,hok,hal,M1,nH,S,zl,Us,Wc,ho,hE,hA,hB⟩;dsimp only at hmb N8 G2 hok hal ho hE hA hB ⊢;refine aj (aj (ae (ad rfl rfl (jc rfl rfl rfl (ad rfl rfl ?_)))));refine aO (g:=18) rfl (fun SM=>?_) (fun SM=>?_)
  ·refine al rfl rfl (aL vV rfl rfl rfl (by assumption) rfl (al rfl rfl (k7 rfl rfl rfl (aW rfl rfl rfl (ab ?_)))));refine bP rfl (fun c6=>?_) (fun c6=>?_)
   ·refine aT (aj (aZ (aj (ae (ad rfl rfl ?_)))));refine zC (first:=[]) (xs:=[]) rfl rfl rfl Xa (AQ (M:=M1) (by rw[c6]at hE;exact hE) hB hA (by omega) Us Wc (hv.le S.le) (by have:=hok c6;omega)) (fun r w6 h6=>?_);obtain⟨rfl,Yw,Yx,s6⟩:=h6;have z6:=s6.size;have S6:=S.cg s6 (fun k hk=>by omega);have Yy:=s6.keep hB (by omega);have tW:=ho.step s6 (fun k hk h=>by have:=(ho.base k hk).1;omega);have IP:=s6.lt nH;obtain⟨hn0,hn1,hn2,hn3⟩:=oT b a1;obtain⟨tD,Bc,hk3,hk4⟩:=hok c6;refine ah rfl rfl (ab (aj (aj (ae (aL vV rfl rfl rfl (by assumption) rfl (k7 rfl rfl rfl (ad rfl rfl ?_)))))));refine aO (g:=28) rfl (fun BQ=>?_) (fun BQ=>?_)
    ·refine al rfl rfl (ad rfl rfl (al rfl rfl (ad rfl rfl (al rfl rfl (fq rfl rfl rfl (by omega) (al rfl rfl (fq rfl rfl rfl (by omega) (al rfl rfl (jc rfl rfl rfl (aW rfl rfl rfl (ab ?_)))))))))));refine bP rfl (fun c9=>?_) (fun c9=>?_)
     ·refine ae ?_;refine cu (M:=M1) I26 rfl rfl Yw rfl rfl Us (fun w7 hE7 s7=>?_);have z7:=s7.size;replace S6:=S6.cg s7 (fun k hk=>by subst hk;omega);replace Yy:=s7.keep Yy (show bb≠be by omega);replace Yx:=s7.keep Yx (show ba≠be by omega);replace tW:=tW.step s7 (fun k hk h=>by have:=(ho.base k hk).1;omega);replace IP:=s7.lt IP;replace Yw:=hE7;refine ab (aj (ae (ad rfl rfl (ad rfl rfl (Rg.xa rfl rfl rfl (Rg.xa rfl rfl rfl (ah rfl rfl (ab (ae (ad rfl rfl (ad rfl rfl ?_)))))))))));refine dQ (A:=RT.int .i64) (hn:=by decide) (M:=M1) ao I3 (by decide) rfl rfl IP (gm (tc _)) (.inr ⟨rfl,rfl⟩) (fun u w8 hu s8=>?_);refine cX (M:=M1) (base:=w4.heap.size) ao I3 rfl rfl rfl rfl (tW.aM s8) hu (aq _ _) (by simp;omega) (by simp;omega) (by have:=s8.size;omega) (fun v9 M9 w9 Pv s9=>?_);have z8:=s8.size;have z9:=s9.size;have j9:∀k,k<w4.heap.size→¬fP u0 k:=fun k hk h=>by have:=(ho.base k h).1;omega
      have Mh:=s9.keep (s8.aK Yw) (j9 be (by omega));have Yz:=s9.keep (s8.aK Yx) (j9 ba (by omega));have YA:=s9.keep (s8.aK Yy) (j9 bb (by omega));have S9:=(S6.aB s8).dm s9 (tW.aM s8) (by omega);have Rm:=s9.lt (s8.lt IP);have Mi:M9 be:=(s9.mem be (by omega)).2 Us;have Mj:M9 ba:=(s9.mem ba (by omega)).2 Wc;refine ah rfl rfl (ab (ae (ad rfl rfl (fq rfl rfl rfl (by omega) (ah rfl rfl (ab ?_))))));refine⟨rfl,(many-1,(IntKind.i64.wrap (last+IntKind.i64.wrap ((get b a1).1+1))),v9,acc++[(IntKind.i64.wrap (last+IntKind.i64.wrap ((get b a1).1+1)))],(if(get b a1).2.2=0∧4611686018427387904-last-1<(get b a1).1 then 2 else(get b a1).2.2),(get b a1).2.1),(.cons rfl (.cons rfl (.cons rfl (.cons rfl (.cons rfl (.cons (show some (Value.int .i64 ((many:Int)-1))=some (Value.int .i64 ((many-1:Nat):Int))from by congr 2;omega) .nil)))))),?_,?_⟩
      ·have hx:(get b a1).2.2=0→¬4611686018427387904-last-1<(get b a1).1→(IntKind.i64.wrap (last+IntKind.i64.wrap ((get b a1).1+1)))=last+1+(get b a1).1:=fun h1 h2=>by rw[j4 ((get b a1).1+1) (by omega),j4 _ (by omega)];omega
       have VU:many=(many-1)+1:=by omega
       have yQ:=N8 c6;rw[VU]at yQ;refine⟨by simp only;omega,fun h=>?_,fun h=>?_,fun h=>?_,by have:=hok c6;simp only[bg,cD,jY];omega,M9,Rm,S9,by omega,Mi,Mj,Pv,?_,Yz,YA⟩
       ·dsimp only at h ⊢;have h3:(get b a1).2.2=0∧¬4611686018427387904-last-1<(get b a1).1:=by split at h<;>omega
        rw[yQ,oS acc h3.1 h3.2,hx h3.1 h3.2]
       ·dsimp only at h ⊢;rw[yQ]
        split
        ·rename_i h4;rw[uZ h4.1 h4.2];rfl
        ·rename_i h4
         have h5:(get b a1).2.2≠0:=by intro h6;rw[if_neg h4]at h;exact h h6
         rw[sJ h5];unfold andThen;rw[if_pos h5]
       ·dsimp only at h ⊢;have h3:(get b a1).2.2=0∧¬4611686018427387904-last-1<(get b a1).1:=by split at h<;>omega
        have:=uY h3.1;rw[hx h3.1 h3.2];simp only[bg,cD,jY];omega
       ·dsimp only
        first
        |(rw[if_pos ⟨BQ,c9⟩];exact Mh)
        |(rw[if_neg (fun h=>c9 h.2)];exact Mh)
        |(rw[if_neg (fun h=>BQ h.1)];exact Mh)
      ·simp only;omega
     ·refine aT (aj (ae (ad rfl rfl (ad rfl rfl (Rg.xa rfl rfl rfl (Rg.xa rfl rfl rfl (ah rfl rfl (ab (ae (ad rfl rfl (ad rfl rfl ?_)))))))))));refine dQ (A:=RT.int .i64) (hn:=by decide) (M:=M1) ao I3 (by decide) rfl rfl IP (gm (tc _)) (.inr ⟨rfl,rfl⟩) (fun u w8 hu s8=>?_);refine cX (M:=M1) (base:=w4.heap.size) ao I3 rfl rfl rfl rfl (tW.aM s8) hu (aq _ _) (by simp;omega) (by simp;omega) (by have:=s8.size;omega) (fun v9 M9 w9 Pv s9=>?_);have z8:=s8.size;have z9:=s9.size;have j9:∀k,k<w4.heap.size→¬fP u0 k:=fun k hk h=>by have:=(ho.base k h).1;omega
      have Mh:=s9.keep (s8.aK Yw) (j9 be (by omega));have Yz:=s9.keep (s8.aK Yx) (j9 ba (by omega));have YA:=s9.keep (s8.aK Yy) (j9 bb (by omega));have S9:=(S6.aB s8).dm s9 (tW.aM s8) (by omega);have Rm:=s9.lt (s8.lt IP);have Mi:M9 be:=(s9.mem be (by omega)).2 Us;have Mj:M9 ba:=(s9.mem ba (by omega)).2 Wc;refine ah rfl rfl (ab (ae (ad rfl rfl (fq rfl rfl rfl (by omega) (ah rfl rfl (ab ?_))))));refine⟨rfl,(many-1,(IntKind.i64.wrap (last+IntKind.i64.wrap ((get b a1).1+1))),v9,acc++[(IntKind.i64.wrap (last+IntKind.i64.wrap ((get b a1).1+1)))],(if(get b a1).2.2=0∧4611686018427387904-last-1<(get b a1).1 then 2 else(get b a1).2.2),(get b a1).2.1),(.cons rfl (.cons rfl (.cons rfl (.cons rfl (.cons rfl (.cons (show some (Value.int .i64 ((many:Int)-1))=some (Value.int .i64 ((many-1:Nat):Int))from by congr 2;omega) .nil)))))),?_,?_⟩
      ·have hx:(get b a1).2.2=0→¬4611686018427387904-last-1<(get b a1).1→(IntKind.i64.wrap (last+IntKind.i64.wrap ((get b a1).1+1)))=last+1+(get b a1).1:=fun h1 h2=>by rw[j4 ((get b a1).1+1) (by omega),j4 _ (by omega)];omega
       have VU:many=(many-1)+1:=by omega
       have yQ:=N8 c6;rw[VU]at yQ;refine⟨by simp only;omega,fun h=>?_,fun h=>?_,fun h=>?_,by have:=hok c6;simp only[bg,cD,jY];omega,M9,Rm,S9,by omega,Mi,Mj,Pv,?_,Yz,YA⟩
       ·dsimp only at h ⊢;have h3:(get b a1).2.2=0∧¬4611686018427387904-last-1<(get b a1).1:=by split at h<;>omega
        rw[yQ,oS acc h3.1 h3.2,hx h3.1 h3.2]
       ·dsimp only at h ⊢;rw[yQ]
        split
        ·rename_i h4;rw[uZ h4.1 h4.2];rfl
        ·rename_i h4
         have h5:(get b a1).2.2≠0:=by intro h6;rw[if_neg h4]at h;exact h h6
         rw[sJ h5];unfold andThen;rw[if_pos h5]
       ·dsimp only at h ⊢;have h3:(get b a1).2.2=0∧¬4611686018427387904-last-1<(get b a1).1:=by split at h<;>omega
        have:=uY h3.1;rw[hx h3.1 h3.2];simp only[bg,cD,jY];omega
       ·dsimp only
        first
        |(rw[if_pos ⟨BQ,c9⟩];exact Mh)
        |(rw[if_neg (fun h=>c9 h.2)];exact Mh)
        |(rw[if_neg (fun h=>BQ h.1)];exact Mh)
      ·simp only;omega
    ·refine ar rfl rfl rfl rfl (ar rfl rfl rfl rfl (ar rfl rfl rfl rfl (ar rfl rfl rfl rfl (ar rfl rfl rfl rfl (aE rfl rfl rfl (ab (jD rfl (aT (aj (ae (ad rfl rfl ?_)))))))))));refine ad rfl rfl (Rg.xa rfl rfl rfl (Rg.xa rfl rfl rfl (ah rfl rfl (ab (ae (ad rfl rfl (ad rfl rfl ?_)))))));refine dQ (A:=RT.int .i64) (hn:=by decide) (M:=M1) ao I3 (by decide) rfl rfl IP (gm (tc _)) (.inr ⟨rfl,rfl⟩) (fun u w8 hu s8=>?_);refine cX (M:=M1) (base:=w4.heap.size) ao I3 rfl rfl rfl rfl (tW.aM s8) hu (aq _ _) (by simp;omega) (by simp;omega) (by have:=s8.size;omega) (fun v9 M9 w9 Pv s9=>?_);have z8:=s8.size;have z9:=s9.size;have j9:∀k,k<w4.heap.size→¬fP u0 k:=fun k hk h=>by have:=(ho.base k h).1;omega
     have Mh:=s9.keep (s8.aK Yw) (j9 be (by omega));have Yz:=s9.keep (s8.aK Yx) (j9 ba (by omega));have YA:=s9.keep (s8.aK Yy) (j9 bb (by omega));have S9:=(S6.aB s8).dm s9 (tW.aM s8) (by omega);have Rm:=s9.lt (s8.lt IP);have Mi:M9 be:=(s9.mem be (by omega)).2 Us;have Mj:M9 ba:=(s9.mem ba (by omega)).2 Wc;refine ah rfl rfl (ab (ae (ad rfl rfl (fq rfl rfl rfl (by omega) (ah rfl rfl (ab ?_))))));refine⟨rfl,(many-1,(IntKind.i64.wrap (last+IntKind.i64.wrap ((get b a1).1+1))),v9,acc++[(IntKind.i64.wrap (last+IntKind.i64.wrap ((get b a1).1+1)))],(if(get b a1).2.2=0∧4611686018427387904-last-1<(get b a1).1 then 2 else(get b a1).2.2),(get b a1).2.1),(.cons rfl (.cons rfl (.cons rfl (.cons rfl (.cons rfl (.cons (show some (Value.int .i64 ((many:Int)-1))=some (Value.int .i64 ((many-1:Nat):Int))from by congr 2;omega) .nil)))))),?_,?_⟩
     ·have hx:(get b a1).2.2=0→¬4611686018427387904-last-1<(get b a1).1→(IntKind.i64.wrap (last+IntKind.i64.wrap ((get b a1).1+1)))=last+1+(get b a1).1:=fun h1 h2=>by rw[j4 ((get b a1).1+1) (by omega),j4 _ (by omega)];omega
      have VU:many=(many-1)+1:=by omega
      have yQ:=N8 c6;rw[VU]at yQ;refine⟨by simp only;omega,fun h=>?_,fun h=>?_,fun h=>?_,by have:=hok c6;simp only[bg,cD,jY];omega,M9,Rm,S9,by omega,Mi,Mj,Pv,?_,Yz,YA⟩
      ·dsimp only at h ⊢;have h3:(get b a1).2.2=0∧¬4611686018427387904-last-1<(get b a1).1:=by split at h<;>omega
       rw[yQ,oS acc h3.1 h3.2,hx h3.1 h3.2]
      ·dsimp only at h ⊢;rw[yQ]
       split
       ·rename_i h4;rw[uZ h4.1 h4.2];rfl
       ·rename_i h4
        have h5:(get b a1).2.2≠0:=by intro h6;rw[if_neg h4]at h;exact h h6
        rw[sJ h5];unfold andThen;rw[if_pos h5]
      ·dsimp only at h ⊢;have h3:(get b a1).2.2=0∧¬4611686018427387904-last-1<(get b a1).1:=by split at h<;>omega
       have:=uY h3.1;rw[hx h3.1 h3.2];simp only[bg,cD,jY];omega
      ·dsimp only
       first
       |(rw[if_pos ⟨BQ,c9⟩];exact Mh)
       |(rw[if_neg (fun h=>c9 h.2)];exact Mh)
       |(rw[if_neg (fun h=>BQ h.1)];exact Mh)
     ·simp only;omega
   ·refine cL (aj (aj (ae (aL vV rfl rfl rfl (by assumption) rfl (fp rfl rfl rfl (ab ?_))))));refine bP rfl (fun OZ=>?_) (fun OZ=>?_)
    ·refine aj ?_;apply uO mixed rfl rfl;intro Uj L5;have rC:=L5 M1;refine aL vV rfl rfl rfl (by first|assumption|exact cR rC (by assumption)) rfl ?_;refine ab ⟨rfl,rfl,rfl,?_⟩;refine ah rfl rfl ?_;refine ab ⟨rfl,rfl,rfl,?_⟩;refine ah rfl rfl ?_;refine ab ⟨rfl,rfl,rfl,?_⟩;refine ah rfl rfl ?_;refine ab ⟨rfl,rfl,rfl,?_⟩;refine ff (aN ?_);have hr:=G2 OZ;exact rL rfl rfl rfl rfl ⟨_,by rw[hr]<;>rfl,by rw[hr];exact nR,(S.aB rC).back⟩
    ·refine aT (aj ?_);apply uO mixed rfl rfl;intro Ut Mk;have pY:=Mk M1;refine ad rfl rfl ?_;refine ab ⟨rfl,rfl,rfl,?_⟩;refine aL aw rfl rfl rfl (by first|assumption|exact cR pY (by assumption)) rfl ?_;refine ab ⟨rfl,rfl,rfl,?_⟩;refine ah rfl rfl ?_;refine ab ⟨rfl,rfl,rfl,?_⟩;refine ah rfl rfl ?_;refine ab ⟨rfl,rfl,rfl,?_⟩;refine ah rfl rfl ?_;refine ab ⟨rfl,rfl,rfl,?_⟩;refine ff (aN ?_);have hz:many=0:=by omega
     have hr:=N8 (by omega);rw[hz,xX]at hr;simp only[andThen,ne_eq,not_true_eq_false,if_false,iX]at hr;have YB:=S.aB pY;refine rL rfl rfl rfl rfl ⟨_,by rw[hr]<;>rfl,?_,YB.back⟩;rw[hr];exact Own.close hM YB ((ho.aM pY).oL (by omega)) (by simp only;omega)
  ·refine ar rfl rfl rfl rfl (ar rfl rfl rfl rfl (aE rfl rfl rfl (ab (jD rfl (cL (aj (aj (ae (aL vV rfl rfl rfl (by assumption) rfl (fp rfl rfl rfl (ab ?_)))))))))));refine bP rfl (fun OZ=>?_) (fun OZ=>?_)
   ·refine aj ?_;apply uO mixed rfl rfl;intro Uj L5;have rC:=L5 M1;refine aL vV rfl rfl rfl (by first|assumption|exact cR rC (by assumption)) rfl ?_;refine ab ⟨rfl,rfl,rfl,?_⟩;refine ah rfl rfl ?_;refine ab ⟨rfl,rfl,rfl,?_⟩;refine ah rfl rfl ?_;refine ab ⟨rfl,rfl,rfl,?_⟩;refine ah rfl rfl ?_;refine ab ⟨rfl,rfl,rfl,?_⟩;refine ff (aN ?_);have hr:=G2 OZ;exact rL rfl rfl rfl rfl ⟨_,by rw[hr]<;>rfl,by rw[hr];exact nR,(S.aB rC).back⟩
   ·refine aT (aj ?_);apply uO mixed rfl rfl;intro Ut Mk;have pY:=Mk M1;refine ad rfl rfl ?_;refine ab ⟨rfl,rfl,rfl,?_⟩;refine aL aw rfl rfl rfl (by first|assumption|exact cR pY (by assumption)) rfl ?_;refine ab ⟨rfl,rfl,rfl,?_⟩;refine ah rfl rfl ?_;refine ab ⟨rfl,rfl,rfl,?_⟩;refine ah rfl rfl ?_;refine ab ⟨rfl,rfl,rfl,?_⟩;refine ah rfl rfl ?_;refine ab ⟨rfl,rfl,rfl,?_⟩;refine ff (aN ?_);have hz:many=0:=by omega
    have hr:=N8 (by omega);rw[hz,xX]at hr;simp only[andThen,ne_eq,not_true_eq_false,if_false,iX]at hr;have YB:=S.aB pY;refine rL rfl rfl rfl rfl ⟨_,by rw[hr]<;>rfl,?_,YB.back⟩;rw[hr];exact Own.close hM YB ((ho.aM pY).oL (by omega)) (by simp only;omega)
end Go.K
namespace Go.K
open Go.Proofs
set_option maxRecDepth 10000
theorem Pw {M:aC} {w0:World} {v:Value} {x:Li} (hv:dg RT.li M w0 v x) {k:Int}:
  Spec Tryz.prog 222 #[v,.int .i64 k] w0 (fun v' w'=>v'= .bool (VY x.2.1.length k)∧w0=w'):=by
 refine bc (args:=[_,_]) (fn:=Tryz.f222) Tryz.func222 rfl (n:=16) Tryz.ntmps222 (aj (ae (ah rfl rfl (ab (aj (ae (ad rfl rfl (dT rfl rfl rfl (ad rfl rfl ?_)))))))));refine aO (g:=7) rfl (fun iJ=>?_) (fun iJ=>?_)
 ·refine al rfl rfl (ad rfl rfl (al rfl rfl (ad rfl rfl (al rfl rfl (bS rfl (dg.iC (by assumption)) rfl (al rfl rfl ?_))))));refine aS (M:=M) (A:=RT.li) (B:=(RT.bl).sl) eo rfl rfl Ig (by decide) (li1) rfl rfl (by decide) (by assumption) (by repeat (first|exact aq _ _|refine aY (bu (by assumption)) ?_)) (fun aon ajH=>?_);refine al rfl rfl ?_;refine bV (M:=M) iG rfl rfl rfl rfl rfl (by assumption) (by repeat (first|exact aq _ _|refine aY (bu (by assumption)) ?_)) (fun aeR YC=>?_);refine al rfl rfl ?_
  first|refine bJ iG rfl (by assumption) rfl ?_|refine fS iG rfl (by assumption) rfl ?_
  refine al rfl rfl (cf rfl rfl rfl (aW rfl rfl rfl (ah rfl rfl (ab (aN ?_)))))
  first
  |exact aU rfl rfl ⟨congrArg Value.bool (decide_eq_decide.2 (by omega)),rfl⟩
  |exact aU rfl rfl ⟨congrArg Value.bool (dC (decide_eq_false (by omega))),rfl⟩
 ·refine ar rfl rfl rfl rfl (ar rfl rfl rfl rfl (ar rfl rfl rfl rfl (ar rfl rfl rfl rfl (ar rfl rfl rfl rfl (ar rfl rfl rfl rfl (ar rfl rfl rfl rfl (aE rfl rfl rfl (ah rfl rfl (ab (aN ?_))))))))))
  first
  |exact aU rfl rfl ⟨congrArg Value.bool (decide_eq_decide.2 (by omega)),rfl⟩
  |exact aU rfl rfl ⟨congrArg Value.bool (dC (decide_eq_false (by omega))),rfl⟩
theorem Gc {M:aC} {w0:World} {v:Value} {b:List UInt8} {at_ ahead:Int} (hM:Lt M w0) (hv:(RT.u8.sl).V M w0 b v) (Me: -9223372036854775808≤at_∧at_≤9223372036854775807) (hah: -9223372036854775808≤ahead∧ahead≤9223372036854775807) (k5:b.length≤1099511627776):
  Spec Tryz.prog 223 #[v,.int .i64 at_,.int .i64 ahead] w0 (fun v' w'=>∃p,v'= .tuple #[p,.int .i64 (rQ b at_ ahead).2.1,.int .i64 (rQ b at_ ahead).2.2]∧RT.po.V M w' (rQ b at_ ahead).1 p∧Step M w0 M w' aD):=by
 refine bc (args:=[_,_,_]) (fn:=Tryz.f223) Tryz.func223 rfl (n:=38) Tryz.ntmps223 (aj (ae ?_));refine ey M o0 rfl (fun b0 w1 hb0 aoo hB s1=>?_);have nH:=s1.lt hM;have Ay:=hv.le s1.le;refine ah rfl rfl (ah rfl rfl (ab (aj (ae (ad rfl rfl (ad rfl rfl ?_))))));refine aX rfl rfl W9 (DV Ay Me) (fun r w2 h2=>?_);obtain⟨rfl,rfl⟩:=h2;have xJ:=Ar b at_;obtain⟨hn0,hn1,hn2,hn3⟩:=oT b at_;refine ad rfl rfl (bK rfl rfl rfl (bK rfl rfl rfl (bK rfl rfl rfl (ah rfl rfl (ah rfl rfl (ah rfl rfl (ab (aj (aj (ae (ad rfl rfl ?_)))))))))));refine fp rfl rfl rfl (ab ?_);refine bP rfl (fun c2=>?_) (fun c2=>?_)
 ·refine aj (ae (iW (places:=[(0,1),(1,1)]) bW o0 W0 rfl rfl (out:=[.int .i64 0,.slice none 0 0]) rfl (ad rfl rfl ?_)));refine ez (M:=ins M b0) o0 rfl rfl (by intro u hu;simp at hu;rcases hu with rfl|rfl<;>rfl) rfl rfl hB (.inl rfl) (fun w3 hB3 s3=>?_);refine ah rfl rfl (ah rfl rfl (ab (aN ?_)));have jS:=s1.size;have S:Step M w0 M w3 aD:=(s1.cg s3 (fun k hk=>by subst hk;omega)).back;refine Ka rfl rfl bW rfl o0 rfl hB3 rfl rfl ⟨_,by unfold rQ;rw[if_pos c2]<;>rfl,?_,S⟩;unfold rQ;rw[if_pos c2];exact eV (gm (x:=0) (by omega)) nR rfl rfl rfl rfl
 ·refine aT (aj (ae (ad rfl rfl (ad rfl rfl ?_))));have hok:=uY (b:=b) (at_:=at_) (by omega);refine aX rfl rfl acG (yP (M:=ins M b0) nH Ay (by omega) k5) (fun r w3 h3=>?_);obtain⟨x3,rfl,IQ,s3⟩:=h3;refine ad rfl rfl (bK rfl rfl rfl (bK rfl rfl rfl (bK rfl rfl rfl (ah rfl rfl (ah rfl rfl (ah rfl rfl (ab (aj (ae (ad rfl rfl (Rg.xa rfl rfl rfl ?_)))))))))));refine ad rfl rfl (Rg.xa rfl rfl rfl (ad rfl rfl (iW (places:=[(0,1),(1,1)]) bW o0 W0 rfl ⟨_,_,rfl,rfl,_,_,rfl,rfl,rfl⟩ (out:=[_,_]) ⟨0,[_],rfl,rfl,by simp[Value.cells],1,[_],rfl,kZ IQ,by simp[Value.cells],rfl⟩ (ad rfl rfl (ad rfl rfl ?_)))));obtain⟨vx,rB⟩:∃vx,vx=x3:=⟨_,rfl⟩;have sy:=pF IQ rfl rfl;refine ez (M:=ins M b0) o0 rfl rfl (by intro u hu;simp at hu;rcases hu with rfl|rfl;rfl;exact sy) rfl rfl (s3.aK hB) (.inl rfl) (fun w4 hB4 s4=>?_);refine ah rfl rfl (ah rfl rfl (ab (aN ?_)));have jS:=s1.size;have aoq:=s3.size;have S3:=s1.aB s3;have S:Step M w0 M w4 aD:=(S3.cg s4 (fun k hk=>by subst hk;omega)).back;refine Ka rfl rfl bW rfl o0 rfl hB4 rfl rfl ⟨_,by unfold rQ;rw[if_neg c2]<;>rfl,?_,S⟩;unfold rQ;rw[if_neg c2];have hx4:=(IQ.le s4.le).le (Le.close hM (S3.cg s4 (fun k hk=>by subst hk;omega)));exact eV (gm Kb) hx4 rfl rfl rfl rfl
theorem Gd {M:aC} {w0:World} {v:Value} {l:List Po} {k:Int} (hM:Lt M w0) (hv:dg RT.li M w0 v (oU l)) (mW:fU (-1) l=true) (kf:∀p∈l,p.2.length≤1099511627776) (k5:(dY (-1) l).length≤1099511627776):
  Spec Tryz.prog 180 #[v,.int .i64 k] w0 (fun v' w'=>Step M w0 M w' aD∧((RT.po).sl).V M w' (if VY ((l.length+7)/8) k then(l.drop (8*k.toNat)).take 8 else[]) v'):=by
 have YD:(oU l).2.1.length=(l.length+7)/8:=by simp[oU,rA]
 refine bc (args:=[_,_]) (fn:=Tryz.f180) Tryz.func180 rfl (n:=51) Tryz.ntmps180 (aj (ae (ah rfl rfl (ab (aj (aj (ae (ad rfl rfl (ad rfl rfl ?_)))))))));refine aX rfl rfl acv (Pw hv (k:=k)) (fun r w1 h1=>?_);obtain⟨rfl,rfl⟩:=h1;refine mS rfl rfl (aV (v':= .bool (decide (¬(0≤k∧k<(oU l).2.1.length)))) (by unfold VY;rw[decide_not]) (ab ?_));refine bP rfl (fun c1=>?_) (fun c1=>?_)
 ·refine aj (ae (ah rfl rfl (ab (aN ?_))));refine aU rfl rfl ⟨ax _ _,?_⟩;rw[if_neg (by unfold VY;rw[YD]at c1;simpa using c1)];exact nR
 ·refine aT (aj (ae (ad rfl rfl (bS rfl (dg.iC (by assumption)) rfl ?_))));refine aS (M:=M) (A:=RT.li) (B:=(RT.bl).sl) eo rfl rfl Ig (by decide) (li1) rfl rfl (by decide) (by assumption) (by repeat (first|exact aq _ _|refine aY (bu (by assumption)) ?_)) (fun TT AF=>?_);refine bV (M:=M) iG rfl rfl rfl rfl rfl (by assumption) (by repeat (first|exact aq _ _|refine aY (bu (by assumption)) ?_)) (fun aeS YE=>?_);refine ad rfl rfl ?_;obtain⟨j,rfl⟩:∃j:Nat,k=j:=⟨k.toNat,by omega⟩;have hb:(oU l).2.1[j]? =some (wu l j):=by simp only[oU,rA,bB];rw[List.getElem?_range (by omega)];rfl
  refine cF (M:=M) iG Bq rfl rfl rfl (by assumption) (aq _ _) (by omega) (fun aos aeT YF ajI=>?_);obtain rfl:aeT=wu l j:=aJ (YF.symm.trans (by simpa using hb));have Rc:(wu l j).2.2.2=(((l.drop (8*j)).take 8).length:Int):=rfl;have ajJ:((l.drop (8*j)).take 8).length≤8:=by rw[bC];omega
  refine de (M:=M) (A:=RT.bl) sw rfl Bq (by decide) rfl rfl rfl (by assumption) (by repeat (first|exact aq _ _|refine aY (bu (by assumption)) ?_)) (fun aot ajK=>?_);refine xn (A:=RT.bl) (M:=M) Bq rfl rfl rfl rfl rfl (by assumption) (by repeat (first|exact aq _ _|refine aY (bu (by assumption)) ?_)) (by first|assumption|exact Step.lt (by assumption) (by assumption)|exact Step.lt (by assumption) (Step.lt (by assumption) (by assumption))) (fun aeU Uu ajL Uv aou=>?_);refine ab (aj (ae (ah rfl rfl (ab (aj (aj ?_))))));apply T.draw (M:=M) mixed [cT.ptr (RT.int .i64) (wu l j).1,cT.eq _,cT.ptr (RT.int .i64) (wu l j).2.1,cT.eq _,cT.eq _,cT.eq _]
  ·rfl
  ·refine cC ?_ ?_
   ·intro wD E sD;refine aS (M:=M) (A:=RT.bl) (B:=RT.int .i64) sw rfl rfl I3 (by decide) (bl0) rfl rfl (by decide) (by assumption) (by repeat (first|exact aq _ _|refine aY (bu (by assumption)) ?_)) (fun Yu Hv=>?_);exact ab ⟨rfl,rfl,_,rfl,by assumption,ax _ _⟩
   refine cC ?_ ?_
   ·intro wD E sD;intro v0 NZ;refine cd (M:=M) aw rfl rfl (by assumption) (by repeat (first|exact aq _ _|refine aY (bu (by assumption)) ?_)) (fun Rn=>?_);exact ab ⟨rfl,rfl,_,rfl,rfl,ax _ _⟩
   refine cC ?_ ?_
   ·intro wD E sD;refine aS (M:=M) (A:=RT.bl) (B:=RT.int .i64) sw rfl rfl I3 (by decide) (bl1) rfl rfl (by decide) (by assumption) (by repeat (first|exact aq _ _|refine aY (bu (by assumption)) ?_)) (fun aeV wL=>?_);exact ab ⟨rfl,rfl,_,rfl,by assumption,ax _ _⟩
   refine cC ?_ ?_
   ·intro wD E sD;intro v2 G9;refine cd (M:=M) aw rfl rfl (by assumption) (by repeat (first|exact aq _ _|refine aY (bu (by assumption)) ?_)) (fun ajM=>?_);exact ab ⟨rfl,rfl,_,rfl,rfl,ax _ _⟩
   refine cC ?_ ?_
   ·intro wD E sD;refine aP ?_;intro v0 NZ;refine aP (ah rfl rfl ?_);exact ab ⟨rfl,rfl,_,rfl,rfl,ax _ _⟩
   refine cC ?_ ?_
   ·intro wD E sD;refine aP (aP ?_);intro v0 NZ;refine aP ?_;intro v2 G9;refine aP (aP (ah rfl rfl ?_));exact ab ⟨rfl,rfl,_,rfl,rfl,ax _ _⟩
   exact ef.nil
  ·intro wD5 Ps;intro aov ajN;refine aP ?_;intro adw QV;refine aP (aP (aP (aZ ?_)));have hz5:=Uv.size;refine dn (σ:=Nat×Value) (fun s=>[(0,v),(5,aeU),(6,s.2),(7,.int .i64 (dY (-1) (l.take (8*j+s.1))).length),(8,.int .i64 (dv (-1) (l.take (8*j+s.1))))]) (fun s w=>s.1≤((l.drop (8*j)).take 8).length∧∃M1,Lt M1 w∧Step M w0 M1 w aD∧Step M Uu M1 w aD∧Own RT.po 83 M1 w Uu.heap.size s.2 (((l.drop (8*j)).take 8).take s.1)) (fun s=>((l.drop (8*j)).take 8).length-s.1) (0,_) (.cons rfl (.cons rfl (.cons rfl (.cons rfl (.cons rfl .nil))))) ?_ ?_
   ·exact⟨bG _,M,Ps.lt (Uv.lt hM),Uv.aB Ps,Ps,dE _ _ _ _ _⟩
   ·rintro⟨i,u0⟩ w1 ⟨hi,M1,nH,S,S5,ho⟩;dsimp only at hi ho ⊢;refine aj (aj (ae (ad rfl rfl (fS bF rfl ho rfl (aV (v':= .int .i64 i) (by rw[bC,xD hi]) ?_)))));refine aS (M:=M1) (A:=RT.bl) (B:=RT.int .i64) sw rfl rfl I3 (by decide) (bl3) rfl rfl (by decide) (by assumption) (by repeat (first|exact aq _ _|refine aY (bu (by assumption)) ?_)) (fun Xt YG=>?_);refine cd (M:=M1) aw rfl rfl YG (aq _ _) (fun ajO=>?_);refine aV (v':= .int .i64 ((l.drop (8*j)).take 8).length) rfl (cf rfl rfl rfl (ab ?_));refine bP rfl (fun c6=>?_) (fun c6=>?_)
    ·refine aT (aZ (aj (ae (ad rfl rfl (bS rfl (dg.iC (by assumption)) rfl ?_)))));refine aS (M:=M1) (A:=RT.li) (B:=RT.u8.sl) eo rfl rfl CT (by decide) (li0) rfl rfl (by decide) (by assumption) (by repeat (first|exact aq _ _|refine aY (bu (by assumption)) ?_)) (fun aea AO=>?_);refine bV (M:=M1) bI rfl rfl rfl rfl rfl (by assumption) (by repeat (first|exact aq _ _|refine aY (bu (by assumption)) ?_)) (fun aow YH=>?_);refine ad rfl rfl (ad rfl rfl ?_);obtain⟨⟨d,ps⟩,hx⟩:∃x,l[8*j+i]? =some x:=⟨_,au (by rw[bC,dw]at c6;omega)⟩;obtain⟨f1,f2,f3,f4,f5,f6⟩:=Bj mW hx;have QT:rQ (oU l).1 _ _=_:=Kd mW hx (kf _ (aA hx));have ru:(dY (-1) (l.take (8*j+i))).length≤(dY (-1) l).length:=by rw[qn (l:=l) (i:=8*j+i) (-1)];simp
     refine aX rfl rfl acw (Gc (M:=M1) nH YH (by omega) (by omega) k5) (fun r7 w7 h7=>?_);obtain⟨p7,h7e,Wd,s7⟩:=h7;rw[QT]at h7e Wd;subst h7e;change RT.po.V M1 w7 (d,ps) p7 at Wd;replace S:=S.aB s7;replace S5:=S5.aB s7;replace ho:=ho.aM s7;replace nH:=s7.lt nH;have hci:((l.drop (8*j)).take 8)[i]? =some (d,ps):=by rw[cj,if_pos (by omega),List.getElem?_drop];exact hx
     refine ad rfl rfl (bK rfl rfl rfl (bK rfl rfl rfl (bK rfl rfl rfl ?_)));refine xn (A:=RT.po) (M:=M1) o0 rfl rfl rfl rfl rfl (by assumption) (by repeat (first|exact aq _ _|refine aY (bu (by assumption)) ?_)) (by first|assumption|exact Step.lt (by assumption) (by assumption)|exact Step.lt (by assumption) (Step.lt (by assumption) (by assumption))) (fun ajQ ajR Ml Hw ajS=>?_);refine ah rfl rfl (ah rfl rfl (ab (aj (ae (ad rfl rfl ?_)))));replace S:=S.aB Hw;replace S5:=S5.aB Hw;replace ho:=ho.aM Hw;replace nH:=Hw.lt nH;clear Wd;refine de (M:=M1) (A:=RT.po) bW rfl o0 (by decide) rfl rfl rfl Ml (aq _ _) (fun v8 N6=>?_);refine dQ (A:=RT.po) (hn:=by decide) (M:=M1) bF o0 (by decide) rfl rfl nH N6 (.inl rfl) (fun u2 w2 xe s2=>?_);refine cX (M:=M1) (base:=Uu.heap.size) bF o0 rfl rfl rfl rfl (ho.aM s2) xe (aq _ _) (by simp;omega) (by simp;omega) (eJ S5.size s2.size) (fun v3 M3 w3 yN s3=>?_);replace S:=(S.aB s2).dm s3 (ho.aM s2) hz5;have XQ:=(Ml.le (by decide) s2.le).le (by decide) s3.le;have YI:=s3.lt (s2.lt nH);replace S5:=(S5.aB s2).dm s3 (ho.aM s2) (aR _);refine ah rfl rfl (ab ?_);apply T.draw (M:=M3) mixed [cT.eq _,cT.ptr (RT.int .i64) d,cT.eq _,cT.eq _,cT.eq _]
     ·rfl
     ·refine cC ?_ ?_
      ·intro wD E sD;refine ad rfl rfl ?_;exact ab ⟨rfl,rfl,_,rfl,rfl,ax _ _⟩
      refine cC ?_ ?_
      ·intro wD E sD;refine aS (M:=M3) (A:=RT.po) (B:=RT.int .i64) bW rfl rfl I3 (by decide) (QE) rfl rfl (by decide) XQ sD.le (fun Yk eL=>?_);exact ab ⟨rfl,rfl,_,rfl,eL,ax _ _⟩
      refine cC ?_ ?_
      ·intro wD E sD;intro v1 Ay;refine cd (M:=M3) aw rfl rfl (by assumption) (by repeat (first|exact aq _ _|refine aY (bu (by assumption)) ?_)) (fun ajT=>?_);exact ab ⟨rfl,rfl,_,rfl,rfl,ax _ _⟩
      refine cC ?_ ?_
      ·intro wD E sD;refine aP (aP (ah rfl rfl ?_));exact ab ⟨rfl,rfl,_,rfl,rfl,ax _ _⟩
      refine cC ?_ ?_
      ·intro wD E sD;refine aP (aP (aP ?_));intro v1 Ay;refine aP (aP (ah rfl rfl ?_));exact ab ⟨rfl,rfl,_,rfl,rfl,ax _ _⟩
      exact ef.nil
     ·intro Ro DX;refine aP ?_;intro aoy ajU;refine aP (aP (aP ?_));refine⟨rfl,(i+1,v3),(.cons rfl (.cons rfl (.cons rfl (.cons rfl (.cons (by rw[←f5];rfl) .nil))))),?_,?_⟩
      ·refine⟨by simp only;omega,M3,DX.lt YI,S.aB DX,S5.aB DX,?_⟩;simp only;obtain⟨VZ,Kw⟩:=an.1 hci;rw[sk VZ,Kw];exact yN.aM DX
      ·simp only;omega
    ·refine cL (aj (ae (ad rfl rfl (ah rfl rfl (ab (aN ?_))))));refine aU rfl rfl ⟨S.back,?_⟩;rw[if_pos (by unfold VY;rw[YD]at c1;simpa using c1),ay];rw[br (by omega)]at ho;exact Own.close hM S (ho.oL hz5) (by omega)
end Go.K
namespace Go.K
open Go.Proofs
set_option maxRecDepth 10000
theorem DY {M:aC} {w0:World} {v:Value} {l:List Int} (hv:((RT.int .i64).sl).V M w0 l v):
  Spec Tryz.prog 249 #[v] w0 (fun v' w'=>v'= .bool (oV l)∧w0=w'):=by
 have hlen:=ep hv;refine bc (args:=[_]) (fn:=Tryz.f249) Tryz.func249 rfl (n:=32) Tryz.ntmps249 (aj (ae (ah rfl rfl (ab (aj (aj (ae (ad rfl rfl ?_))))))))
 first|refine bJ ao rfl (by assumption) rfl ?_|refine fS ao rfl (by assumption) rfl ?_
 refine ad rfl rfl (ab (aZ ?_));refine dn (σ:=Nat×Int) (fun s=>[(0,v),(5,v),(6,.int .i64 l.length),(7,.int .i64 s.1)]) (fun s w=>w0=w∧s.1≤l.length∧oV l=(ek s.2 (l.drop s.1)&&(l.drop s.1).all (fun n=>decide (n<2147483648)))∧ -1≤s.2∧(s.1=0→s.2= -1)∧(0<s.1→l[s.1-1]? =some s.2)) (fun s=>l.length-s.1) (0,-1) (.cons rfl (.cons rfl (.cons rfl (.cons rfl .nil)))) ?_ ?_
 ·exact⟨rfl,bG _,rfl,by decide,fun _=>rfl,fun h=>absurd h (jv 0)⟩
 ·rintro⟨k,last⟩ w1 ⟨rfl,hk,hr,Wa,h0,h1⟩;dsimp only at hk hr Wa h0 h1 ⊢;refine aj (ae (cf rfl rfl rfl (ab (aj ?_))));refine bP rfl (fun c2=>?_) (fun c2=>?_)
  ·refine aT (aj (aZ (aj (ae (ad rfl rfl ?_)))));obtain⟨x,hx⟩:∃x,l[k]? =some x:=⟨_,au (by omega)⟩;refine cF (M:=M) ao I3 rfl rfl rfl hv (aq _ _) (by omega) (fun aoz aeX YJ ajV=>?_);obtain rfl:x=aeX:=dC (aJ (YJ.symm.trans (by simpa using hx)));refine cd (M:=M) aw rfl rfl (by assumption) (by repeat (first|exact aq _ _|refine aY (bu (by assumption)) ?_)) (fun ajW=>?_);refine ah rfl rfl (ah rfl rfl (ab (aj (ae (ad rfl rfl (cf rfl rfl rfl (ad rfl rfl ?_)))))));refine aO (g:=14) rfl (fun lS=>?_) (fun lS=>?_)
   ·refine ar rfl rfl rfl rfl (ar rfl rfl rfl rfl (aW rfl rfl rfl (ad rfl rfl (ar rfl rfl rfl rfl (ar rfl rfl rfl rfl (ar rfl rfl rfl rfl (cn rfl rfl rfl (cn rfl rfl rfl (cn rfl rfl rfl (cn rfl rfl rfl (cn rfl rfl rfl ?_)))))))))));refine cn rfl rfl rfl (cn rfl rfl rfl (ar rfl rfl rfl rfl (aW rfl rfl rfl (ab (lD rfl (aj (ae (ah rfl rfl (ab (aN ?_))))))))));refine aU rfl rfl ⟨congrArg Value.bool (dC ?_),rfl⟩;rw[hr,gD hx,qo _ hx];by_cases h7:last<x
    ·have h2: ¬x<2147483648:=by omega
     simp[h2]
    ·simp[h7]
   ·refine al rfl rfl (ad rfl rfl (al rfl rfl (dT rfl rfl rfl (aE rfl rfl rfl (ad rfl rfl ?_)))));refine aO (g:=18) rfl (fun aeY=>?_) (fun aeY=>?_)
    ·refine ar rfl rfl rfl rfl (ar rfl rfl rfl rfl (ar rfl rfl rfl rfl (cn rfl rfl rfl (cn rfl rfl rfl (cn rfl rfl rfl (cn rfl rfl rfl (cn rfl rfl rfl (cn rfl rfl rfl (cn rfl rfl rfl (ar rfl rfl rfl rfl (aW rfl rfl rfl ?_)))))))))));refine ab (lD rfl (aj (ae (ah rfl rfl (ab (aN ?_))))));refine aU rfl rfl ⟨congrArg Value.bool (dC ?_),rfl⟩;rw[hr,gD hx,qo _ hx];by_cases h7:last<x
     ·have h2: ¬x<2147483648:=by omega
      simp[h2]
     ·simp[h7]
    ·refine al rfl rfl (ad rfl rfl (al rfl rfl (jc rfl rfl rfl (al rfl rfl (ad rfl rfl ?_)))));refine aO (g:=21) rfl (fun aeZ=>?_) (fun aeZ=>?_)
     ·refine al rfl rfl (ad rfl rfl (al rfl rfl (ad rfl rfl (al rfl rfl (ad rfl rfl (al rfl rfl (fq rfl rfl rfl (by omega) (al rfl rfl ?_))))))));refine cF (M:=M) ao I3 rfl rfl rfl hv (aq _ _) (by omega) (fun YK Mm Ge Uw=>?_);obtain rfl:last=Mm:=dC (aJ (Ge.symm.trans (by rw[show((k:Int)-1).toNat=k-1 from by omega];exact h1 (by omega))));refine al rfl rfl ?_;refine cd (M:=M) aw rfl rfl (by assumption) (by repeat (first|exact aq _ _|refine aY (bu (by assumption)) ?_)) (fun ae0=>?_);refine al rfl rfl (gN rfl rfl rfl (al rfl rfl (aW rfl rfl rfl (aE rfl rfl rfl (ab ?_)))));refine bP rfl (fun c4=>?_) (fun c4=>?_)
      ·refine aj (ae (ah rfl rfl (ab (aN ?_))));refine aU rfl rfl ⟨congrArg Value.bool (dC ?_),rfl⟩;rw[hr,gD hx,qo _ hx];by_cases h7:last<x
       ·have h2: ¬x<2147483648:=by omega
        simp[h2]
       ·simp[h7]
      ·refine aT (ae (bD rfl rfl rfl (by omega) (ad rfl rfl (ab ?_))));refine⟨rfl,(k+1,x),(.cons rfl (.cons rfl (.cons rfl (.cons rfl .nil)))),?_,?_⟩
       ·refine⟨rfl,by simp only;omega,?_,by simp only;omega,fun h=>by simp at h,fun _=>by simpa using hx⟩;rw[hr,gD hx,qo _ hx,decide_eq_true (show last<x by omega),decide_eq_true (show x<2147483648 by omega),eT,eT]
       ·simp only;omega
     ·refine ar rfl rfl rfl rfl (ar rfl rfl rfl rfl (ar rfl rfl rfl rfl (ar rfl rfl rfl rfl (ar rfl rfl rfl rfl (ar rfl rfl rfl rfl (ar rfl rfl rfl rfl (al rfl rfl (aE rfl rfl rfl (aE rfl rfl rfl (ab (jD rfl ?_)))))))))));refine aT (ae (bD rfl rfl rfl (by omega) (ad rfl rfl (ab ?_))));refine⟨rfl,(k+1,x),(.cons rfl (.cons rfl (.cons rfl (.cons rfl .nil)))),?_,?_⟩
      ·refine⟨rfl,by simp only;omega,?_,by simp only;omega,fun h=>by simp at h,fun _=>by simpa using hx⟩;rw[hr,gD hx,qo _ hx,decide_eq_true (show last<x by omega),decide_eq_true (show x<2147483648 by omega),eT,eT]
      ·simp only;omega
  ·refine cL (aj (ae (ah rfl rfl (ab (aN ?_)))));refine aU rfl rfl ⟨congrArg Value.bool (dC ?_),rfl⟩;rw[hr,fD (by omega)];rfl
theorem IS {M:aC} {w0:World} {v:Value} {l:List Po} (hM:Lt M w0) (hv:((RT.po).sl).V M w0 l v):
  Spec Tryz.prog 193 #[v] w0 (fun v' w'=>v'= .bool (fU (-1) l)∧Step M w0 M w' aD):=by
 have hlen:=ep hv;refine bc (args:=[_]) (fn:=Tryz.f193) Tryz.func193 rfl (n:=36) Tryz.ntmps193 (aj (ae (ah rfl rfl (ab (aj (ae (ah rfl rfl (ab (aj (aj (ae ?_)))))))))));refine ad rfl rfl ?_
 first|refine bJ bF rfl (by assumption) rfl ?_|refine fS bF rfl (by assumption) rfl ?_
 refine ad rfl rfl (ab (aZ ?_));refine dn (σ:=Nat×Int) (fun s=>[(6,v),(7,.int .i64 l.length),(8,.int .i64 s.1),(3,.int .i64 s.2)]) (fun s w=>Step M w0 M w aD∧s.1≤l.length∧fU (-1) l=fU s.2 (l.drop s.1)) (fun s=>l.length-s.1) (0,-1) (.cons rfl (.cons rfl (.cons rfl (.cons rfl .nil)))) ?_ ?_
 ·exact⟨ax _ _,bG _,rfl⟩
 ·rintro⟨k,last⟩ w1 ⟨S,hk,hr⟩;dsimp only at hk hr ⊢;have hMw:=S.lt hM;refine aj (ae (cf rfl rfl rfl (ab (aj ?_))));refine bP rfl (fun c3=>?_) (fun c3=>?_)
  ·refine aT (aj (aZ (aj (ae ?_))));obtain⟨⟨d,ps⟩,hx⟩:∃x,l[k]? =some x:=⟨_,au (by omega)⟩;refine cF (M:=M) bF o0 rfl rfl rfl (hv.le S.le) (aq _ _) (by omega) (fun Tu ae1 YL Hg=>?_);obtain rfl:ae1=(d,ps):=aJ (YL.symm.trans (by simpa using hx));refine de (M:=M) (A:=RT.po) bW rfl o0 (by decide) rfl rfl rfl (by assumption) (by repeat (first|exact aq _ _|refine aY (bu (by assumption)) ?_)) (fun Tv KT=>?_);refine xn (A:=RT.po) (M:=M) o0 rfl rfl rfl rfl rfl (by assumption) (by repeat (first|exact aq _ _|refine aY (bu (by assumption)) ?_)) (by first|assumption|exact Step.lt (by assumption) (by assumption)|exact Step.lt (by assumption) (Step.lt (by assumption) (by assumption))) (fun Xh OR nZ mz aeE=>?_);refine ab (aj (aj (ae ?_)));refine aS (M:=M) (A:=RT.po) (B:=RT.int .i64) bW rfl rfl I3 (by decide) (QE) rfl rfl (by decide) (by assumption) (by repeat (first|exact aq _ _|refine aY (bu (by assumption)) ?_)) (fun Yu Hv=>?_);refine cd (M:=M) aw rfl rfl Hv (aq _ _) (fun Rn=>?_);refine aV (v':= .int .i64 d) rfl ?_;simp only at Rn;refine ad rfl rfl (gN rfl rfl rfl (ad rfl rfl ?_));refine aO (g:=16) rfl (fun Ux=>?_) (fun Ux=>?_)
   ·refine ar rfl rfl rfl rfl (ar rfl rfl rfl rfl (ar rfl rfl rfl rfl (aW rfl rfl rfl (ad rfl rfl (ar rfl rfl rfl rfl (ar rfl rfl rfl rfl (ar rfl rfl rfl rfl (ar rfl rfl rfl rfl (aW rfl rfl rfl (ad rfl rfl (ar rfl rfl rfl rfl ?_)))))))))));refine ar rfl rfl rfl rfl (ar rfl rfl rfl rfl (ar rfl rfl rfl rfl (aW rfl rfl rfl (ab (lD rfl (aj (ae (ah rfl rfl (ab (aN ?_))))))))));refine aU rfl rfl ⟨congrArg Value.bool (dC ?_),S.aB mz⟩;rw[hr,mj hx]
    first
    |(rw[decide_eq_false (show¬last<d by omega)];simp;done)
    |(rw[decide_eq_false (show¬d<2147483648 by omega)];simp;done)
    |(rw[show ps=[]from cP.1 (by omega)];simp;done)
    |(simp[c5];done)
   ·refine al rfl rfl ?_;refine aS (M:=M) (A:=RT.po) (B:=RT.int .i64) bW rfl rfl I3 (by decide) (QE) rfl rfl (by decide) (by assumption) (by repeat (first|exact aq _ _|refine aY (bu (by assumption)) ?_)) (fun aoA YM=>?_);refine al rfl rfl ?_;refine cd (M:=M) aw rfl rfl YM (aq _ _) (fun ajX=>?_);refine aV (v':= .int .i64 d) rfl (al rfl rfl (dT rfl rfl rfl (aE rfl rfl rfl (ad rfl rfl ?_))));refine aO (g:=21) rfl (fun Uy=>?_) (fun Uy=>?_)
    ·refine ar rfl rfl rfl rfl (ar rfl rfl rfl rfl (ar rfl rfl rfl rfl (ar rfl rfl rfl rfl (aW rfl rfl rfl (ad rfl rfl (ar rfl rfl rfl rfl (ar rfl rfl rfl rfl (ar rfl rfl rfl rfl (ar rfl rfl rfl rfl (aW rfl rfl rfl (ab ?_)))))))))));refine lD rfl (aj (ae (ah rfl rfl (ab (aN ?_)))));refine aU rfl rfl ⟨congrArg Value.bool (dC ?_),S.aB mz⟩;rw[hr,mj hx]
     first
     |(rw[decide_eq_false (show¬last<d by omega)];simp;done)
     |(rw[decide_eq_false (show¬d<2147483648 by omega)];simp;done)
     |(rw[show ps=[]from cP.1 (by omega)];simp;done)
     |(simp[c5];done)
    ·refine al rfl rfl ?_;refine aS (M:=M) (A:=RT.po) (B:=(RT.int .i64).sl) bW rfl rfl kG (by decide) (WT) rfl rfl (by decide) (by assumption) (by repeat (first|exact aq _ _|refine aY (bu (by assumption)) ?_)) (fun ajY ae2=>?_);refine al rfl rfl ?_;refine bV (M:=M) ao rfl rfl rfl rfl rfl (by assumption) (by repeat (first|exact aq _ _|refine aY (bu (by assumption)) ?_)) (fun ajZ Uz=>?_);refine al rfl rfl (bJ ao rfl Uz rfl (aV (v':= .int .i64 ps.length) rfl (al rfl rfl (k7 rfl rfl rfl (aE rfl rfl rfl (ad rfl rfl ?_))))));refine aO (g:=27) rfl (fun Rp=>?_) (fun Rp=>?_)
     ·refine ar rfl rfl rfl rfl (ar rfl rfl rfl rfl (ar rfl rfl rfl rfl (ar rfl rfl rfl rfl (aW rfl rfl rfl (ab (lD rfl (aj (ae (ah rfl rfl (ab (aN ?_)))))))))));refine aU rfl rfl ⟨congrArg Value.bool (dC ?_),S.aB mz⟩;rw[hr,mj hx]
      first
      |(rw[decide_eq_false (show¬last<d by omega)];simp;done)
      |(rw[decide_eq_false (show¬d<2147483648 by omega)];simp;done)
      |(rw[show ps=[]from cP.1 (by omega)];simp;done)
      |(simp[c5];done)
     ·refine al rfl rfl ?_;refine aS (M:=M) (A:=RT.po) (B:=(RT.int .i64).sl) bW rfl rfl kG (by decide) (WT) rfl rfl (by decide) (by assumption) (by repeat (first|exact aq _ _|refine aY (bu (by assumption)) ?_)) (fun aj0 ae3=>?_);refine al rfl rfl ?_;refine bV (M:=M) ao rfl rfl rfl rfl rfl (by assumption) (by repeat (first|exact aq _ _|refine aY (bu (by assumption)) ?_)) (fun aj1 UA=>?_);refine al rfl rfl ?_;refine aX rfl rfl acC (DY UA) (fun r5 w5 h5=>?_);obtain⟨rfl,rfl⟩:=h5;refine al rfl rfl (mS rfl rfl (aV (v':= .bool (decide (¬oV ps=true))) (by simp) (aE rfl rfl rfl (ab ?_))));refine bP rfl (fun c5=>?_) (fun c5=>?_)
      ·refine aj (ae (ah rfl rfl (ab (aN ?_))));refine aU rfl rfl ⟨congrArg Value.bool (dC ?_),S.aB mz⟩;rw[hr,mj hx]
       first
       |(rw[decide_eq_false (show¬last<d by omega)];simp;done)
       |(rw[decide_eq_false (show¬d<2147483648 by omega)];simp;done)
       |(rw[show ps=[]from cP.1 (by omega)];simp;done)
       |(simp[c5];done)
      ·refine aT (ae ?_);refine aS (M:=M) (A:=RT.po) (B:=RT.int .i64) bW rfl rfl I3 (by decide) (QE) rfl rfl (by decide) (by assumption) (by repeat (first|exact aq _ _|refine aY (bu (by assumption)) ?_)) (fun XK Hh=>?_);refine cd (M:=M) aw rfl rfl Hh (aq _ _) (fun aj2=>?_);refine aV (v':= .int .i64 d) rfl (ah rfl rfl (ab (ae (bD rfl rfl rfl (by omega) (ad rfl rfl (ab ?_))))));refine⟨rfl,(k+1,d),(.cons rfl (.cons rfl (.cons rfl (.cons rfl .nil)))),?_,?_⟩
       ·refine⟨S.aB mz,by simp only;omega,?_⟩
        have eN:ps.isEmpty=false:=by cases ps with
         |nil=>simp at Rp
         |cons a t=>rfl
        rw[hr,mj hx,decide_eq_true (show last<d by omega),decide_eq_true (show d<2147483648 by omega),eN,dI.1 c5];rfl
       ·simp only;omega
  ·refine cL (aj (ae (ah rfl rfl (ab (aN ?_)))));refine aU rfl rfl ⟨congrArg Value.bool (dC ?_),S⟩;rw[hr,fD (by omega)];rfl
theorem Gf {M:aC} {w0:World} {v:Value} {l:List Po} (hM:Lt M w0) (hv:((RT.po).sl).V M w0 l v):
  Spec Tryz.prog 194 #[v,.int .i64 8] w0 (fun v' w'=>∃bs bn,v'= .func (.func 250) [].toArray [.pointer (some ⟨bs,0,none⟩),.pointer (some ⟨bn,0,none⟩)].toArray∧w'.heap[bs]? =some (.cells #[v] 80 (0,0))∧w'.heap[bn]? =some (.cells #[.int .i64 8] 3 (0,0))∧w0.heap.size≤bs∧w0.heap.size≤bn∧Step M w0 M w' aD):=by
 refine bc (args:=[_,_]) (fn:=Tryz.f194) Tryz.func194 rfl (n:=9) Tryz.ntmps194 (aj (ae ?_));refine wX M rfl rfl (fun bs w1 h1 VX hS s1=>?_);rw[kZ hv]at hS;refine wX (ins M bs) rfl rfl (fun bn w2 h2 xM hN s2=>?_);have hS2:=s2.aK hS;have hz1:=s1.size;refine ah rfl rfl (ab (aj (aj (ae (aL aw rfl rfl rfl hN rfl (cf rfl rfl rfl (ab (T.tx rfl ((by decide)) (aT (aj (ae ?_)))))))))));refine ka (xs:=[]) (ys:=[.tmp 2,.tmp 3]) rfl rfl rfl (ah rfl rfl (ab (aN ?_)));exact aU rfl rfl ⟨bs,bn,rfl,hS2,hN,h1,by omega,(s1.aB s2).back⟩
theorem DZ {w0:World} {bs bn yl:Nat} {v:Value} {l:List Po} {M:aC} {wv:World} {J:Nat→World→Prop} {Jx:World→Prop} (hv:((RT.po).sl).V M wv l v) (kC:∀i w w',J i w→Step aD w aD w' aD→J i w') (Hx:∀i w,J i w→w.heap[bs]? =some (.cells #[v] 80 (0,0))∧w.heap[bn]? =some (.cells #[.int .i64 8] 3 (0,0))) (hy:∀(i:Nat) (w:World) (u:Value),J i w→i<l.length→((RT.po).sl).V M wv ((l.drop i).take 8) u→wk Tryz.prog yl [u].toArray w (fun r w'=>∃b,r= .bool b∧(b=true→J (min (i+8) l.length) w')∧(b=false→Jx w'))) (h0:J 0 w0):
  Spec Tryz.prog 250 #[.func (.yield yl) #[] #[],.pointer (some ⟨bs,0,none⟩),.pointer (some ⟨bn,0,none⟩)] w0 (fun _ w'=>J l.length w'∨Jx w'):=by
 have hlen:=ep hv;refine bc (args:=[_,_,_]) (fn:=Tryz.f250) Tryz.func250 rfl (n:=31) Tryz.ntmps250 (aj (ae (ah rfl rfl (ab (aZ ?_)))));refine dn (σ:=Nat) (fun s=>[(0,.func (.yield yl) #[] #[]),(1,.pointer (some ⟨bs,0,none⟩)),(2,.pointer (some ⟨bn,0,none⟩)),(4,.int .i64 s)]) (fun s w=>J (min s l.length) w∧s≤l.length+8) (fun s=>l.length+8-s) 0 (.cons rfl (.cons rfl (.cons rfl (.cons rfl .nil)))) ?_ ?_
 ·exact⟨by rw[Nat.zero_min];exact h0,bG _⟩
 ·rintro k w1 ⟨hJ,hk⟩;obtain⟨wz,A7⟩:=Hx _ _ hJ;refine aj (aj (ae (ad rfl rfl (aL bF rfl rfl rfl wz rfl ?_))))
  first|refine bJ bF rfl (by assumption) rfl ?_|refine fS bF rfl (by assumption) rfl ?_
  refine cf rfl rfl rfl (ab ?_);refine bP rfl (fun c1=>?_) (fun c1=>?_)
  ·refine aT (aj (aZ (aj ?_)));apply T.draw (M:=aD) mixed [cT.eq _,cT.eq _,cT.eq _,cT.pure (fun v=>((RT.po).sl).V M wv (l.drop k) v),cT.eq _,cT.eq _,cT.eq _]
   ·rfl
   ·refine cC ?_ ?_
    ·intro wD E sD;refine aL aw rfl rfl rfl (cR sD A7) rfl ?_;exact ab ⟨rfl,rfl,_,rfl,rfl,ax _ _⟩
    refine cC ?_ ?_
    ·intro wD E sD;refine aL bF rfl rfl rfl (cR sD wz) rfl ?_;exact ab ⟨rfl,rfl,_,rfl,rfl,ax _ _⟩
    refine cC ?_ ?_
    ·intro wD E sD;refine ad rfl rfl ?_;exact ab ⟨rfl,rfl,_,rfl,rfl,ax _ _⟩
    refine cC ?_ ?_
    ·intro wD E sD;refine aP (aP ?_);refine Rg.Oo (A:=RT.po) (hn:=by decide) bF o0 rfl rfl rfl hv (by omega) (fun u hu=>?_);rw[ay]at hu;exact ab ⟨rfl,rfl,_,rfl,hu,ax _ _⟩
    refine cC ?_ ?_
    ·intro wD E sD;intro v3 AE;have ae4:((RT.po).sl).V M wv (l.drop k) v3:=AE;refine bJ bF rfl ae4 rfl ?_;exact ab ⟨rfl,rfl,_,rfl,rfl,ax _ _⟩
    refine cC ?_ ?_
    ·intro wD E sD;refine aP (aP (Rg.min2 rfl rfl rfl ?_));exact ab ⟨rfl,rfl,_,rfl,rfl,ax _ _⟩
    refine cC ?_ ?_
    ·intro wD E sD;refine aP (aP (aP (aP ?_)));intro v3 AE;refine aP (aP (ah rfl rfl ?_));exact ab ⟨rfl,rfl,_,rfl,rfl,ax _ _⟩
    exact ef.nil
   ·intro Xn qW;refine aP (aP (aP ?_));intro aeS YE;refine aP (aP (aP ?_));rw[show min k l.length=k from by omega]at hJ;have X1:=kC _ _ _ hJ qW;obtain⟨hb3,rD⟩:=Hx _ _ X1;refine aj (ae (ad rfl rfl (aL bF rfl rfl rfl hb3 rfl (ad rfl rfl (ad rfl rfl (ad rfl rfl (bD rfl rfl rfl (by omega) (ad rfl rfl (ad rfl rfl (bD rfl rfl rfl (by omega) ?_))))))))));refine Rg.H8 (A:=RT.po) (hn:=by decide) bF o0 rfl rfl rfl rfl rfl hv (by rw[dw];omega) (fun u hu=>?_)
    have he:(l.take ((k:Int)+min 8 ((l.drop k).length:Int)).toNat).drop (k:Int).toNat=(l.drop k).take 8:=by
     rw[ay,List.drop_take,dw,show((k:Int)+min 8 ((l.length-k:Nat):Int)).toNat-k=min 8 (l.length-k)from by omega,List.take_eq_take_iff,dw];omega
    rw[he]at hu;refine Rg.yield rfl (vs:=[u]) rfl rfl (hy k _ u X1 (by omega) hu) (fun r4 w4 h4=>?_);obtain⟨b,rfl,QI,qG⟩:=h4;refine mS rfl rfl (aV (v':= .bool (decide (¬b=true))) (by simp) (ab ?_));refine bP rfl (fun c4=>?_) (fun c4=>?_)
    ·refine aN ?_;exact Cu rfl (.inr (qG (by simpa using c4)))
    ·refine aT (ae (ad rfl rfl ?_));have hJ5:=QI (dI.1 c4);refine aL aw rfl rfl rfl (Hx _ _ hJ5).2 rfl (bD rfl rfl rfl (by omega) (ah rfl rfl (ab ?_)));refine⟨rfl,k+8,(.cons rfl (.cons rfl (.cons rfl (.cons rfl .nil)))),?_,?_⟩
     ·exact⟨hJ5,by omega⟩
     ·show l.length+8-(k+8)<l.length+8-k;omega
  ·refine cL ?_;rw[show min k l.length=l.length from by omega]at hJ;change wZ Tryz.prog Tryz.f250 (fun _ w'=>J l.length w'∨Jx w') .normal _ [] _;exact fY rfl (.inl hJ)
end Go.K
namespace Go.K
open Go.Proofs
set_option maxRecDepth 10000
structure nB (M:aC) (w0:World) (v:Value) (bo bx bl D bs bn:Nat) (st:Obj) (vb vk:Value) (rR last:Int) (b:List UInt8) (ks:List Bl) (M1:aC) (w:World):Prop where
 lt:Lt M1 w
 S:Step M w0 M1 w aD
 mo:M1 bo
 mx:M1 bx
 ml:M1 bl
 md:M1 D
 mr:M1 (D+1)
 o:w.heap[bo]? =some (.cells #[.pointer (some ⟨bx,0,none⟩)] 142 (0,0))
 x:w.heap[bx]? =some (.cells #[vb,vk,.int .i64 rR] 207 (0,0))
 l:w.heap[bl]? =some (.cells #[.int .i64 last] 3 (0,0))
 d:w.heap[D]? =some (.deferred (some []))
 r:w.heap[D+1]? =some st
 s:w.heap[bs]? =some (.cells #[v] 80 (0,0))
 n:w.heap[bn]? =some (.cells #[.int .i64 8] 3 (0,0))
 ne:bo≠bx∧bo≠bl∧bx≠bl∧bo<D∧bx<D∧bl<D∧bs<D∧bn<D∧bs≠bo∧bs≠bx∧bs≠bl∧bn≠bo∧bn≠bx∧bn≠bl∧w0.heap.size≤bo∧w0.heap.size≤bx∧w0.heap.size≤bl∧w0.heap.size≤D
 hb:(RT.u8.sl).V M1 w b vb
 hk:Own RT.bl 209 M1 w (D+2) vk ks
section
variable {M M1 M2:aC} {w0 w w':World} {v vb vk:Value} {bo bx bl D bs bn:Nat} {st:Obj} {rR last:Int} {b:List UInt8} {ks:List Bl}
theorem nB.step (h:nB M w0 v bo bx bl D bs bn st vb vk rR last b ks M1 w) (s:Step M1 w M2 w' aD):nB M w0 v bo bx bl D bs bn st vb vk rR last b ks M2 w':=
 ⟨s.lt h.lt,h.S.aB s,(s.mem _ (h.lt _ h.mo)).2 h.mo,(s.mem _ (h.lt _ h.mx)).2 h.mx,(s.mem _ (h.lt _ h.ml)).2 h.ml,(s.mem _ (h.lt _ h.md)).2 h.md,(s.mem _ (h.lt _ h.mr)).2 h.mr,
  s.aK h.o,s.aK h.x,s.aK h.l,s.aK h.d,s.aK h.r,s.aK h.s,s.aK h.n,h.ne,h.hb.le s.le,h.hk.aM s⟩
theorem nB.Px {n:Int} (h:nB M w0 v bo bx bl D bs bn st vb vk rR last b ks M1 w) (s:Step M1 w M1 w' (fun k=>k=bl)) (hl:w'.heap[bl]? =some (.cells #[.int .i64 n] 3 (0,0))):nB M w0 v bo bx bl D bs bn st vb vk rR n b ks M1 w':=by
 obtain⟨e1,e2,e3,e4,e5,e6,e7,e8,e9,We,YN,Wf,Wg,YO,e15,Wh,Rq,e18⟩:=h.ne
 exact⟨s.lt h.lt,h.S.cg s (fun k hk=>by subst hk;exact Rq),h.mo,h.mx,h.ml,h.md,h.mr,s.keep h.o e2,s.keep h.x e3,hl,s.keep h.d (by omega),s.keep h.r (by omega),s.keep h.s YN,s.keep h.n YO,h.ne,h.hb.le s.le,
  h.hk.step s (fun k hk hh=>by have:=(h.hk.base k hk).1;omega)⟩
theorem nB.UB {vb' UC:Value} {YP:Int} {b':List UInt8} {YQ:List Bl} (h:nB M w0 v bo bx bl D bs bn st vb vk rR last b ks M1 w) (s:Step M1 w M1 w' (fun k=>k=bx)) (hx:w'.heap[bx]? =some (.cells #[vb',UC,.int .i64 YP] 207 (0,0)))
  (hb:(RT.u8.sl).V M1 w' b' vb') (hk:Own RT.bl 209 M1 w (D+2) UC YQ):nB M w0 v bo bx bl D bs bn st vb' UC YP last b' YQ M1 w':=by
 obtain⟨e1,e2,e3,e4,e5,e6,e7,e8,e9,We,YN,Wf,Wg,YO,e15,Wh,Rq,e18⟩:=h.ne
 exact⟨s.lt h.lt,h.S.cg s (fun k hk=>by subst hk;exact Wh),h.mo,h.mx,h.ml,h.md,h.mr,s.keep h.o e1,hx,s.keep h.l (Ne.symm e3),s.keep h.d (by omega),s.keep h.r (by omega),s.keep h.s We,s.keep h.n Wg,h.ne,hb,
  hk.step s (fun k ry hh=>by have:=(hk.base k ry).1;omega)⟩
theorem nB.pb {st':Obj} (h:nB M w0 v bo bx bl D bs bn st vb vk rR last b ks M1 w) (kC:w.heap[D+1]? =some st):nB M w0 v bo bx bl D bs bn st' vb vk rR last b ks M1 (w.putObj (D+1) st'):=by
 have s:Step M1 w M1 (w.putObj (D+1) st') (fun k=>k=D+1):=eu h.mr;obtain⟨e1,e2,e3,e4,e5,e6,e7,e8,e9,We,YN,Wf,Wg,YO,e15,Wh,Rq,e18⟩:=h.ne
 exact⟨s.lt h.lt,h.S.cg s (fun k hk=>by subst hk;omega),h.mo,h.mx,h.ml,h.md,h.mr,s.keep h.o (by omega),s.keep h.x (by omega),s.keep h.l (by omega),s.keep h.d (by omega),World.putObj_heap_same (ak kC),s.keep h.s (by omega),s.keep h.n (by omega),h.ne,h.hb.le s.le,
  h.hk.step s (fun k ry hh=>by have:=(h.hk.base k ry).1;omega)⟩
theorem nB.other {q:Nat} (h:nB M w0 v bo bx bl D bs bn st vb vk rR last b ks M1 w) (s:Step M1 w M1 w' (fun k=>k=q)) (hq:D+1<q) (hqv:∀k,vk.ownBlock=some k→k≠q):nB M w0 v bo bx bl D bs bn st vb vk rR last b ks M1 w':=by
 obtain⟨e1,e2,e3,e4,e5,e6,e7,e8,e9,We,YN,Wf,Wg,YO,e15,Wh,Rq,e18⟩:=h.ne
 exact⟨s.lt h.lt,h.S.cg s (fun k hk=>by subst hk;omega),h.mo,h.mx,h.ml,h.md,h.mr,s.keep h.o (by omega),s.keep h.x (by omega),s.keep h.l (by omega),s.keep h.d (by omega),s.keep h.r (by omega),s.keep h.s (by omega),s.keep h.n (by omega),h.ne,h.hb.le s.le,
  h.hk.step s (fun k ry hh=>hqv k ry hh)⟩
theorem nB.grow {UC:Value} {YQ:List Bl} (h:nB M w0 v bo bx bl D bs bn st vb vk rR last b ks M1 w) (s:Step M1 w M2 w' (fun k=>vk.ownBlock=some k)) (hk:Own RT.bl 209 M2 w' (D+2) UC YQ):
  (w'.heap[bx]? =some (.cells #[vb,vk,.int .i64 rR] 207 (0,0))∧M2 bx∧Lt M2 w')∧∀{w2:World},Step M2 w' M2 w2 (fun k=>k=bx)→w2.heap[bx]? =some (.cells #[vb,UC,.int .i64 rR] 207 (0,0))→nB M w0 v bo bx bl D bs bn st vb UC rR last b YQ M2 w2:=by
 obtain⟨e1,e2,e3,e4,e5,e6,e7,e8,e9,We,YN,Wf,Wg,YO,e15,Wh,Rq,e18⟩:=h.ne;have hn:∀k,vk.ownBlock=some k→D+2≤k:=fun k hk=>(h.hk.base k hk).1
 have eH:=fun {k:Nat} (hm:M1 k)=>(s.mem k (h.lt k hm)).2 hm
 refine⟨⟨s.keep h.x (fun hh=>by have:=hn _ hh;omega),eH h.mx,s.lt h.lt⟩,fun {w2} s2 hx=>?_⟩;have S':=h.S.cg s (fun k hk=>by have:=hn k hk;omega)
 exact⟨s2.lt (s.lt h.lt),S'.cg s2 (fun k hk=>by subst hk;exact Wh),eH h.mo,eH h.mx,eH h.ml,eH h.md,eH h.mr,s2.keep (s.keep h.o (fun hh=>by have:=hn _ hh;omega)) e1,hx,s2.keep (s.keep h.l (fun hh=>by have:=hn _ hh;omega)) (Ne.symm e3),
  s2.keep (s.keep h.d (fun hh=>by have:=hn _ hh;omega)) (by omega),s2.keep (s.keep h.r (fun hh=>by have:=hn _ hh;omega)) (by omega),s2.keep (s.keep h.s (fun hh=>by have:=hn _ hh;omega)) We,s2.keep (s.keep h.n (fun hh=>by have:=hn _ hh;omega)) Wg,h.ne,(h.hb.le s.le).le s2.le,
  hk.step s2 (fun k ry hh=>by have:=(hk.base k ry).1;omega)⟩
end
def Mn (M:aC) (w0:World) (l:List Po) (v:Value) (bo bx bl D bs bn:Nat) (st:Obj) (i:Nat) (w:World):Prop:=
 ∃(M1:aC) (vb vk:Value),nB M w0 v bo bx bl D bs bn st vb vk (jm (l.take i)) (dv (-1) (l.take i)) (dY (-1) (l.take i)) (rA l ((i+7)/8)) M1 w∧(i%8=0∨i=l.length)∧i≤l.length
theorem UD {M:aC} {w0 w2 w3 w5 w6 w7:World} {v:Value} {l:List Po} {bo bx bl bs bn:Nat} {st:Obj} (S6:Step M w0 (ins (ins (ins M bx) bo) bl) w6 aD) (s7:Step (ins (ins (ins M bx) bo) bl) w6 (ins (ins (ins M bx) bo) bl) w7 aD) (hM:Lt M w0)
  (e1:bo<w6.heap.size) (e2:bx<w6.heap.size) (e3:bl<w6.heap.size) (n1:bo≠bx) (n2:bo≠bl) (n3:bx≠bl)
  (hO:w6.heap[bo]? =some (.cells #[.pointer (some ⟨bx,0,none⟩)] 142 (0,0))) (hX:w6.heap[bx]? =some (.cells #[.slice none 0 0,.slice none 0 0,.int .i64 0] 207 (0,0))) (hL:w6.heap[bl]? =some (.cells #[.int .i64 (-1)] 3 (0,0)))
  (hS:w7.heap[bs]? =some (.cells #[v] 80 (0,0))) (hN:w7.heap[bn]? =some (.cells #[.int .i64 8] 3 (0,0))) (hbs:w6.heap.size≤bs) (hbn:w6.heap.size≤bn)
  (g1:w0.heap.size≤bo) (g2:w0.heap.size≤bx) (g3:w0.heap.size≤bl):
  Mn M w0 l v bo bx bl w7.heap.size bs bn st 0 ((w7.alloc (.deferred (some []))).alloc st):=by
 have sA:Step (ins (ins (ins M bx) bo) bl) w7 (ins (ins (ins (ins M bx) bo) bl) w7.heap.size) (w7.alloc (.deferred (some []))) aD:=(cW _ w7 _).own (aR _) (by simp);have sB:Step (ins (ins (ins (ins M bx) bo) bl) w7.heap.size) (w7.alloc (.deferred (some []))) (ins (ins (ins (ins (ins M bx) bo) bl) w7.heap.size) (w7.heap.size+1)) ((w7.alloc (.deferred (some []))).alloc st) aD:=(cW _ _ _).own (by simp) (by simp);have z7:=s7.size;have hs7:=ak hS;have hn7:=ak hN;have S:=((S6.aB s7).aB sA).aB sB;have hD:(w7.alloc (.deferred (some []))).heap[w7.heap.size]? =some (.deferred (some [])):=cp w7 _;have hR:((w7.alloc (.deferred (some []))).alloc st).heap[w7.heap.size+1]? =some st:=by have:=cp (w7.alloc (.deferred (some []))) st;rwa [World.size_alloc]at this
 have z0:=S6.size;refine⟨_,.slice none 0 0,.slice none 0 0,⟨S.lt hM,S,?_,?_,?_,?_,.inl rfl,sB.aK (sA.aK (s7.aK hO)),sB.aK (sA.aK (s7.aK hX)),sB.aK (sA.aK (s7.aK hL)),sB.aK hD,hR,sB.aK (sA.aK hS),sB.aK (sA.aK hN),by omega,nR,dE _ _ _ _ _⟩,.inl rfl,bG _⟩
 ·exact .inr (.inr (.inr (.inl rfl)))
 ·exact .inr (.inr (.inr (.inr (.inl rfl))))
 ·exact .inr (.inr (.inl rfl))
 ·exact .inr (.inl rfl)
set_option maxHeartbeats 4000000 in
theorem AR {M:aC} {w0:World} {v:Value} {l:List Po} (hM:Lt M w0) (hv:((RT.po).sl).V M w0 l v) (kf:∀p∈l,p.2.length≤1099511627776) (k5:(dY (-1) l).length≤35184372088832) (HU:l.length≤1099511627776) (UE:jm l≤4611686018427387904):
  Spec Tryz.prog 145 #[v] w0 (fun v' w'=>Step M w0 M w' aD∧(fU (-1) l=true→∃p,v'= .tuple #[p,.int .i64 0]∧dg RT.li M w' p (oU l))∧(fU (-1) l=false→v'= .tuple #[.pointer none,.int .i64 1])):=by
 have hlen:=ep hv;refine qm (args:=[_]) (fn:=Tryz.f145) Tryz.func145 rfl (n:=85) Tryz.ntmps145 (aj (ae (ah rfl rfl (ah rfl rfl (ab (aj (aj (ae (ad rfl rfl ?_)))))))));refine aX rfl rfl acq (IS hM hv) (fun r w1 h1=>?_);obtain⟨rfl,s1⟩:=h1;refine mS rfl rfl (aV (v':= .bool (decide (¬fU (-1) l=true))) (by simp) (ab ?_));refine bP rfl (fun c1=>?_) (fun c1=>?_)
 ·refine aj (ae (ah rfl rfl (ah rfl rfl (ab (aN ?_)))));exact OB rfl rfl rfl ⟨s1,fun h=>absurd h c1,fun _=>rfl⟩
 ·have mW:=dI.1 c1;refine aT (aj (ae (iW (places:=[(0,1),(1,1),(2,1)]) eo ab4 ab6 rfl rfl (out:=[.slice none 0 0,.slice none 0 0,.int .i64 0]) rfl ?_)));refine wX M rfl rfl (fun bx w2 Hx aoC hX s2=>?_);change w2.heap[bx]? =some (.cells #[.slice none 0 0,.slice none 0 0,.int .i64 0] 207 (0,0))at hX;refine ey (ins M bx) zK rfl (fun bo w3 Wi YR hO s3=>?_);refine cu (M:=ins (ins M bx) bo) zK rfl rfl hO rfl rfl (.inl rfl) (fun w4 hO4 s4=>?_);refine ab (aj (ae ?_));refine ey (ins (ins M bx) bo) I3 rfl (fun bl w5 aoE aj6 hL s5=>?_);refine cu (M:=ins (ins (ins M bx) bo) bl) I3 rfl rfl hL rfl rfl (.inl rfl) (fun w6 hL6 s6=>?_);have z1:=s1.size;have z2:=s2.size;have z3:=s3.size;have z4:=s4.size;have z5:=s5.size;have z6:=s6.size;have S6:Step M w0 (ins (ins (ins M bx) bo) bl) w6 aD:=((((s1.aB s2).aB s3).cg s4 (fun k hk=>by subst hk;omega)).aB s5).cg s6 (fun k hk=>by subst hk;omega);have hO6:=s6.keep (s5.aK hO4) (show bo≠bl by omega);have hX6:=s6.keep (s5.aK (s4.keep (s3.aK hX) (show bx≠bo by omega))) (show bx≠bl by omega);refine ab (aj (aj (ae (ad rfl rfl ?_))));refine aX rfl rfl acr (Gf (M:=ins (ins (ins M bx) bo) bl) (S6.lt hM) (hv.le S6.le)) (fun r w7 h7=>?_);obtain⟨bs,bn,rfl,hS7,hN7,hbs,hbn,s7⟩:=h7;have z7:=s7.size;have aoI:=ak hS7;have aoJ:=ak hN7;refine ab (aZ ?_);refine T.range (gf:=250) (lb:=[.pointer (some ⟨bs,0,none⟩),.pointer (some ⟨bn,0,none⟩)].toArray) rfl acD (fun rec pS=>?_);obtain⟨D,hD⟩:∃D,D=w7.heap.size:=⟨_,rfl⟩;rw[←hD]at pS ⊢
  have h0:Mn M w0 l v bo bx bl D bs bn (.loop (rec .ready none)) 0 ((w7.alloc (.deferred (some []))).alloc (.loop (rec .ready none))):=by
   rw[hD]at pS ⊢;exact UD (w2:=w7) (w3:=w7) (w5:=w7) S6 s7 hM (by omega) (by omega) (by omega) (by omega) (by omega) (by omega) hO6 hX6 hL6 hS7 hN7 hbs hbn (by omega) (by omega) (by omega)
  refine Spec.mono (DZ (M:=M) (wv:=w0) (J:=Mn M w0 l v bo bx bl D bs bn (.loop (rec .ready none))) (Jx:=fun _=>False) hv (fun i w w' ⟨M1,vb,vk,h,h2⟩ s=>⟨M1,vb,vk,h.step (s.any M1),h2⟩) (fun i w ⟨M1,vb,vk,h,h2⟩=>⟨h.s,h.n⟩) (fun i wr u hJ hi hu=>?_) h0) (fun _ w3 h3=>?_)
  ·obtain⟨M1,vb,vk,h,hi8,oN⟩:=hJ;refine nV (ps:=[17]) (vs:=[u]) pS h.r rfl (by decide) (ae (ah rfl rfl (ab ?_)));refine⟨rfl,h.r,?_⟩;have h1:=h.pb (st':= .loop (rec .busy none)) h.r;generalize wr.putObj (D+1) _=wB at h1 ⊢;have hO:=h1.o;have hX:=h1.x;have hL:=h1.l;have hB:=h1.hb;have dO:=h1.lt;have uW:((l.drop i).take 8).length≤8:=by rw[bC];omega
   have aoK:((l.drop i).take 8).length=min 8 (l.length-i):=by rw[bC,dw]
   obtain⟨q1,q2,q3,q4,q5,q6,q7,q8,q9,q10,q11,q12,q13,q14,q15,q16,q17,q18⟩:=h1.ne;refine aZ (aj ?_);apply T.GZ (M:=M1) (n:=85) _ mixed [] [cT.eq _,cT.eq _,cT.eq _,cT.eq _,cT.eq _,cT.eq _,cT.eq _,cT.eq _,cT.eq _,cT.mk' (fun p w'=>∃bq,p= .pointer (some ⟨bq,0,none⟩)∧wB.heap.size≤bq∧w'.heap[bq]? =some (.cells #[.int .i64 0,.int .i64 0,.int .i64 0,.int .i64 0] 209 (0,0))) (fun⟨bq,h1,h2,h3⟩ s=>⟨bq,h1,h2,s.aK h3⟩)]
   ·rfl
   ·rfl
   ·rfl
   ·rfl
   ·exact fun p hp=>by cases hp
   ·exact vX.none
   ·refine aG ?_ ?_
    ·intro wD E sD;refine aL eP rfl rfl rfl (cR sD (by assumption)) rfl ?_;exact ab ⟨rfl,rfl,_,rfl,rfl,ax _ _⟩
    refine aG ?_ ?_
    ·intro wD E sD;refine aP (bS rfl ⟨_,rfl⟩ rfl ?_);exact ab ⟨rfl,rfl,_,rfl,rfl,ax _ _⟩
    refine aG ?_ ?_
    ·intro wD E sD;refine aP (bN eo rfl rfl CT (by decide) rfl rfl ?_);exact ab ⟨rfl,rfl,_,rfl,rfl,ax _ _⟩
    refine aG ?_ ?_
    ·intro wD E sD;refine aP (aL bI rfl rfl rfl (cR sD (by assumption)) rfl ?_);exact ab ⟨rfl,rfl,_,rfl,rfl,ax _ _⟩
    refine aG ?_ ?_
    ·intro wD E sD;refine aP ?_
     first|refine bJ bI rfl (by assumption) rfl ?_|refine fS bI rfl (by assumption) rfl ?_
     exact ab ⟨rfl,rfl,_,rfl,rfl,ax _ _⟩
    refine aG ?_ ?_
    ·intro wD E sD;refine aL aw rfl rfl rfl (cR sD (by assumption)) rfl ?_;exact ab ⟨rfl,rfl,_,rfl,rfl,ax _ _⟩
    refine aG ?_ ?_
    ·intro wD E sD;refine ad rfl rfl ?_;exact ab ⟨rfl,rfl,_,rfl,rfl,ax _ _⟩
    refine aG ?_ ?_
    ·intro wD E sD;refine aP ?_
     first|refine bJ bF rfl (by assumption) rfl ?_|refine fS bF rfl (by assumption) rfl ?_
     exact ab ⟨rfl,rfl,_,rfl,rfl,ax _ _⟩
    refine aG ?_ ?_
    ·intro wD E sD;refine aP (aP (aP (iW (places:=[(0,1),(1,1),(2,1),(3,1)]) sw Bq ab7 rfl ⟨_,_,rfl,rfl,_,_,rfl,rfl,_,_,rfl,rfl,rfl⟩ (out:=[.int .i64 (dY (-1) (l.take i)).length,.int .i64 (dv (-1) (l.take i)),.int .i64 0,.int .i64 ((l.drop i).take 8).length]) ⟨0,[_],rfl,rfl,by simp[Value.cells],1,[_],rfl,rfl,by simp[Value.cells],3,[_],rfl,rfl,by simp[Value.cells],rfl⟩ ?_)));exact ab ⟨rfl,rfl,_,rfl,rfl,ax _ _⟩
    refine aG ?_ ?_
    ·intro wD E sD;refine ey M1 Bq rfl (fun bq wq e1 e2 e3 s=>?_);exact ab ⟨rfl,rfl,_,rfl,⟨bq,rfl,eJ sD.size e1,e3⟩,s.back⟩
    exact xo
   ·intro wD7 sD7;refine aP (aP (aP (aP (aP (aP (aP (aP (aP ?_))))))));intro aoW YS;obtain⟨bq,rfl,Ss,hq2⟩:=YS;have QB:=ak hq2;have sQ:Step M1 wB (ins M1 bq) wD7 aD:=sD7.own Ss QB;refine ez (M:=ins M1 bq) (vs:=[.int .i64 (dY (-1) (l.take i)).length,.int .i64 (dv (-1) (l.take i)),.int .i64 0,.int .i64 ((l.drop i).take 8).length]) Bq rfl rfl (by intro x hx;simp at hx;rcases hx with rfl|rfl|rfl|rfl<;>rfl) rfl rfl hq2 (.inl rfl) (fun wQ hQ sQ2=>?_);refine ab ⟨rfl,?_⟩;have h2:=h1.step (sQ.cg sQ2 (fun k hk=>by subst hk;exact Ss));have hqv:∀k,vk.ownBlock=some k→k≠bq:=fun k hk=>by have:=(h1.hk.base k hk).2;omega
    have hDq:D+1<bq:=by have:=ak h1.r;omega
    have h3:nB M w0 v bo bx bl D bs bn (.loop (rec .busy none)) vb vk (jm (l.take (i+0))) (dv (-1) (l.take (i+0))) (dY (-1) (l.take (i+0))) (rA l ((i+7)/8)) (ins M1 bq) wQ:=h2;obtain⟨M2,EU⟩:∃M2,M2=ins M1 bq:=⟨_,rfl⟩;rw[←EU]at h3;refine aj (aj (ae (ad rfl rfl ?_)))
    first|refine bJ bF rfl (by assumption) rfl ?_|refine fS bF rfl (by assumption) rfl ?_
    refine ad rfl rfl (ab (aZ ?_));refine dn (σ:=Nat×Value) (fun s=>[(4,.pointer (some ⟨bo,0,none⟩)),(5,.pointer (some ⟨bl,0,none⟩)),(6,u),(7,.pointer (some ⟨bq,0,none⟩)),(27,u),(28,.int .i64 ((l.drop i).take 8).length),(29,.int .i64 s.1)]) (fun s w=>s.1≤((l.drop i).take 8).length∧w.heap[bq]? =some (.cells #[.int .i64 (dY (-1) (l.take i)).length,.int .i64 (dv (-1) (l.take i)),.int .i64 0,.int .i64 ((l.drop i).take 8).length] 209 (0,0))∧nB M w0 v bo bx bl D bs bn (.loop (rec .busy none)) s.2 vk (jm (l.take (i+s.1))) (dv (-1) (l.take (i+s.1))) (dY (-1) (l.take (i+s.1))) (rA l ((i+7)/8)) M2 w) (fun s=>((l.drop i).take 8).length-s.1) (0,vb) (.cons rfl (.cons rfl (.cons rfl (.cons rfl (.cons rfl (.cons rfl (.cons rfl .nil))))))) ?_ ?_
    ·exact⟨bG _,hQ,h3⟩
    ·rintro⟨j,vb⟩ wj ⟨hj,hQ,h4⟩;dsimp only at hj hQ h4 ⊢;have dO:=h4.lt;refine aj (ae (cf rfl rfl rfl (ab (aj ?_))));refine bP rfl (fun c9=>?_) (fun c9=>?_)
     ·refine aT (aj (aZ (aj (ae ?_))));obtain⟨⟨d,ps⟩,hx⟩:∃x,l[i+j]? =some x:=⟨_,au (by omega)⟩;obtain⟨f1,f2,f3,f4,f5,f6⟩:=Bj mW hx;obtain⟨f7,f8⟩:=oW.1 f4;have fps:=kf _ (aA hx);have fb:=ny l (i+j);have ft:=CM l (i+j);have ft2:=CM l (i+j+1);rw[x4 hx]at ft2;have ftk:=xZ (-1) hx;have ftl:=ny l (i+j+1);simp only at fps;refine cF (M:=M2) bF o0 rfl rfl rfl (hu.le h4.S.le) (aq _ _) (by omega) (fun QS YT UF eF=>?_);obtain rfl:(d,ps)=YT:=dC (aJ (UF.symm.trans (by rw[ay,cj,if_pos (by omega),List.getElem?_drop];exact hx)));refine de (M:=M2) (A:=RT.po) bW rfl o0 (by decide) rfl rfl rfl (by assumption) (by repeat (first|exact aq _ _|refine aY (bu (by assumption)) ?_)) (fun XI KW=>?_);refine xn (A:=RT.po) (M:=M2) o0 rfl rfl rfl rfl rfl (by assumption) (by repeat (first|exact aq _ _|refine aY (bu (by assumption)) ?_)) (by first|assumption|exact Step.lt (by assumption) (by assumption)|exact Step.lt (by assumption) (Step.lt (by assumption) (by assumption))) (fun YU YV fk ou akb=>?_);refine ab (aj ?_);have h5:=h4.step ou;have hO:=h5.o;have hX:=h5.x;have hL:=h5.l;have hB:=h5.hb;have dO:=h5.lt;have hp0:=fk;apply T.GZ (M:=M2) (n:=85) _ mixed [] [cT.eq _,cT.eq _,cT.eq _,cT.eq _,cT.eq _,cT.ptr (RT.int .i64) d,cT.eq (.int .i64 d),cT.eq _,cT.eq _,cT.eq (.int .i64 (((d-dv (-1) (l.take (i+j))-1).toNat:Nat):Int)),cT.V (RT.u8.sl) (dY (-1) (l.take (i+j))++put (d-dv (-1) (l.take (i+j))-1).toNat),cT.eq _,cT.eq _]
      ·rfl
      ·rfl
      ·rfl
      ·rfl
      ·exact fun p hp=>by cases hp
      ·exact vX.none
      ·refine aG ?_ ?_
       ·intro wD E sD;refine aL eP rfl rfl rfl (cR sD (by assumption)) rfl ?_;exact ab ⟨rfl,rfl,_,rfl,rfl,ax _ _⟩
       refine aG ?_ ?_
       ·intro wD E sD;refine aL eP rfl rfl rfl (cR sD (by assumption)) rfl ?_;exact ab ⟨rfl,rfl,_,rfl,rfl,ax _ _⟩
       refine aG ?_ ?_
       ·intro wD E sD;refine aP (bS rfl ⟨_,rfl⟩ rfl ?_);exact ab ⟨rfl,rfl,_,rfl,rfl,ax _ _⟩
       refine aG ?_ ?_
       ·intro wD E sD;refine aP (bN eo rfl rfl CT (by decide) rfl rfl ?_);exact ab ⟨rfl,rfl,_,rfl,rfl,ax _ _⟩
       refine aG ?_ ?_
       ·intro wD E sD;refine aP (aL bI rfl rfl rfl (cR sD (by assumption)) rfl ?_);exact ab ⟨rfl,rfl,_,rfl,rfl,ax _ _⟩
       refine aG ?_ ?_
       ·intro wD E sD;refine aS (M:=M2) (A:=RT.po) (B:=RT.int .i64) bW rfl rfl I3 (by decide) (QE) rfl rfl (by decide) (by assumption) (by repeat (first|exact aq _ _|refine aY (bu (by assumption)) ?_)) (fun akd ae6=>?_);exact ab ⟨rfl,rfl,_,rfl,by assumption,ax _ _⟩
       refine aG ?_ ?_
       ·intro wD E sD;intro v5 oF;refine cd (M:=M2) aw rfl rfl (by assumption) (by repeat (first|exact aq _ _|refine aY (bu (by assumption)) ?_)) (fun ae7=>?_);exact ab ⟨rfl,rfl,_,rfl,rfl,ax _ _⟩
       refine aG ?_ ?_
       ·intro wD E sD;refine aL aw rfl rfl rfl (cR sD (by assumption)) rfl ?_;exact ab ⟨rfl,rfl,_,rfl,rfl,ax _ _⟩
       refine aG ?_ ?_
       ·intro wD E sD;refine aP (aP (fq rfl rfl rfl (by omega) ?_));exact ab ⟨rfl,rfl,_,rfl,rfl,ax _ _⟩
       refine aG ?_ ?_
       ·intro wD E sD;refine aP (fq rfl rfl rfl (by omega) (aV (v':= .int .i64 (((d-dv (-1) (l.take (i+j))-1).toNat:Nat):Int)) (by congr 1;omega) ?_));exact ab ⟨rfl,rfl,_,rfl,rfl,ax _ _⟩
       refine aG ?_ ?_
       ·intro wD E sD;refine aP (aP ?_);refine aX rfl rfl SH (Md (M:=M2) (sD.lt dO) (hB.le sD.le) (by omega) (by omega)) (fun rP wP hP=>?_);exact ab ⟨rfl,rfl,_,rfl,hP.2,hP.1⟩
       refine aG ?_ ?_
       ·intro wD E sD;refine aP (aP (aP (aP (aP (aP ?_)))));intro v5 oF;refine aP (aP (aP (aP ?_)));intro v10 ae8;refine bS rfl ⟨_,rfl⟩ rfl ?_;exact ab ⟨rfl,rfl,_,rfl,rfl,ax _ _⟩
       refine aG ?_ ?_
       ·intro wD E sD;refine aP (aP (aP (aP (aP (aP ?_)))));intro v5 oF;refine aP (aP (aP (aP ?_)));intro v10 ae8;refine bN eo rfl rfl CT (by decide) rfl rfl ?_;exact ab ⟨rfl,rfl,_,rfl,rfl,ax _ _⟩
       exact xo
      ·intro LY jh;refine aP (aP (aP (aP (aP ?_))));intro ake ae9;refine aP (aP (aP (aP ?_)));intro afa Hy;refine aP (aP ?_);have h6:=h5.step jh;have hp6:=hp0.le (by decide) jh.le;refine cu (M:=M2) CT rfl rfl h6.x rfl (pF Hy rfl rfl) h6.mx (fun w11 afb IT=>?_);refine ab ⟨rfl,?_⟩;have h7:=h6.UB IT afb (RT.V.le IT.le Hy) h6.hk;have Wd:=hp6.le (by decide) IT.le;refine aj ?_;have hO:=h7.o;have hX:=h7.x;have hB:=h7.hb;have dO:=h7.lt;have fbl:(dY (-1) (l.take (i+j))++put (d-dv (-1) (l.take (i+j))-1).toNat).length≤35184372088832:=by rw[ftk]at ftl;simp only[bg]at ftl ⊢;omega
       apply T.Qz (M:=M2) mixed [(13,fun k=>k=bx)] [cT.eq _,cT.eq _,cT.eq _,cT.eq _,cT.eq _,cT.ptr ((RT.int .i64).sl) ps,cT.V ((RT.int .i64).sl) ps,⟨fun t w=>∃x,t= .tuple #[x,.int .i64 0]∧(RT.u8.sl).V M2 w (dY (-1) (l.take (i+j))++put (d-dv (-1) (l.take (i+j))-1).toNat++eC ps) x,HV,fun⟨x,h1,h2⟩ s _=>⟨x,h1,h2.le s.le⟩⟩,⟨fun t w=>∃x,t= .tuple #[x,.int .i64 0]∧(RT.u8.sl).V M2 w (dY (-1) (l.take (i+j))++put (d-dv (-1) (l.take (i+j))-1).toNat++eC ps) x,HV,fun⟨x,h1,h2⟩ s _=>⟨x,h1,h2.le s.le⟩⟩,cT.V (RT.u8.sl) (dY (-1) (l.take (i+j))++put (d-dv (-1) (l.take (i+j))-1).toNat++eC ps),cT.eq (.int .i64 0),cT.eq _,cT.eq _,⟨fun _ w=>∃x,w.heap[bx]? =some (.cells #[x,vk,.int .i64 (jm (l.take (i+j)))] 207 (0,0))∧(RT.u8.sl).V M2 w (dY (-1) (l.take (i+j))++put (d-dv (-1) (l.take (i+j))-1).toNat++eC ps) x,fun k=>k≠bx,fun⟨x,h1,h2⟩ s hN=>⟨x,s.keep h1 (fun hb=>hN _ hb rfl),h2.le s.le⟩⟩]
       ·rfl
       ·intro p hp b hb;simp only[bE]at hp;subst hp
        cases hb;exact h7.mx
       ·exact⟨fun _ _ _ _=>trivial,⟨fun _ _ _ _=>trivial,⟨fun _ _ _ _=>trivial,⟨fun _ _ _ _=>trivial,⟨fun _ _ _ _=>trivial,⟨fun _ _ _ _=>trivial,⟨fun _ _ _ _=>trivial,⟨fun _ _ _ _=>trivial,⟨fun _ _ _ _=>trivial,⟨fun _ _ _ _=>trivial,⟨fun _ _ _ _=>trivial,⟨fun _ _ _ _=>trivial,⟨fun _ _ _ _=>trivial,⟨fun p hp=>by simp at hp,trivial⟩⟩⟩⟩⟩⟩⟩⟩⟩⟩⟩⟩⟩⟩
       ·refine cC ?_ ?_
        ·intro wD E sD;replace sD:Step M2 _ M2 wD aD:=sD;refine aL eP rfl rfl rfl (cR sD (by assumption)) rfl ?_;exact ab ⟨rfl,rfl,_,rfl,rfl,ax _ _⟩
        refine cC ?_ ?_
        ·intro wD E sD;replace sD:Step M2 _ M2 wD aD:=sD;refine aL eP rfl rfl rfl (cR sD (by assumption)) rfl ?_;exact ab ⟨rfl,rfl,_,rfl,rfl,ax _ _⟩
        refine cC ?_ ?_
        ·intro wD E sD;replace sD:Step M2 _ M2 wD aD:=sD;refine aP (bS rfl ⟨_,rfl⟩ rfl ?_);exact ab ⟨rfl,rfl,_,rfl,rfl,ax _ _⟩
        refine cC ?_ ?_
        ·intro wD E sD;replace sD:Step M2 _ M2 wD aD:=sD;refine aP (bN eo rfl rfl CT (by decide) rfl rfl ?_);exact ab ⟨rfl,rfl,_,rfl,rfl,ax _ _⟩
        refine cC ?_ ?_
        ·intro wD E sD;replace sD:Step M2 _ M2 wD aD:=sD;refine aP (aL bI rfl rfl rfl (cR sD (by assumption)) rfl ?_);exact ab ⟨rfl,rfl,_,rfl,rfl,ax _ _⟩
        refine cC ?_ ?_
        ·intro wD E sD;replace sD:Step M2 _ M2 wD aD:=sD;refine aS (M:=M2) (A:=RT.po) (B:=(RT.int .i64).sl) bW rfl rfl kG (by decide) WT rfl rfl (by decide) Wd sD.le (fun uf IU=>?_);exact ab ⟨rfl,rfl,_,rfl,IU,ax _ _⟩
        refine cC ?_ ?_
        ·intro wD E sD;replace sD:Step M2 _ M2 wD aD:=sD;intro v5 oF;refine bV (M:=M2) ao rfl rfl rfl rfl rfl (show dg ((RT.int .i64).sl) M2 wD v5 ps from oF) (aq _ _) (fun uf IU=>?_);exact ab ⟨rfl,rfl,_,rfl,IU,ax _ _⟩
        refine cC ?_ ?_
        ·intro wD E sD;replace sD:Step M2 _ M2 wD aD:=sD;refine aP ?_;intro v6 uM;refine aX rfl rfl acs (yO (M:=M2) (sD.lt dO) (hB.le sD.le) (show((RT.int .i64).sl).V M2 wD ps v6 from uM) (by omega)) (fun rP wP hP=>?_);obtain⟨xP,sP,hP1,YW⟩:=hP;rw[if_pos f7]at hP1 YW;exact ab ⟨rfl,rfl,_,rfl,⟨xP,hP1,YW⟩,sP⟩
        refine cC ?_ ?_
        ·intro wD E sD;replace sD:Step M2 _ M2 wD aD:=sD;intro v7 Iy;refine ad rfl rfl ?_;exact ab ⟨rfl,rfl,_,rfl,Iy,ax _ _⟩
        refine cC ?_ ?_
        ·intro wD E sD;replace sD:Step M2 _ M2 wD aD:=sD;intro v8 N6;obtain⟨xP,rfl,YW⟩:=N6;refine bK rfl rfl rfl ?_;exact ab ⟨rfl,rfl,_,rfl,YW,ax _ _⟩
        refine cC ?_ ?_
        ·intro wD E sD;replace sD:Step M2 _ M2 wD (fun k=>k=bx):=sD;intro v8 N6;obtain⟨xP,rfl,YW⟩:=N6;refine bK rfl rfl rfl ?_;exact ab ⟨rfl,rfl,_,rfl,rfl,ax _ _⟩
        refine cC ?_ ?_
        ·intro wD E sD;replace sD:Step M2 _ M2 wD (fun k=>k=bx):=sD;refine aP (aP (aP (aP (aP (aP ?_)))));intro v5 oF;intro v6 uM;intro v7 Iy;intro v8 N6;intro v9 Iv;refine bS rfl ⟨_,rfl⟩ rfl ?_;exact ab ⟨rfl,rfl,_,rfl,rfl,ax _ _⟩
        refine cC ?_ ?_
        ·intro wD E sD;replace sD:Step M2 _ M2 wD aD:=sD;refine aP (aP (aP (aP (aP (aP ?_)))));intro v5 oF;intro v6 uM;intro v7 Iy;intro v8 N6;intro v9 Iv;refine bN eo rfl rfl CT (by decide) rfl rfl ?_;exact ab ⟨rfl,rfl,_,rfl,rfl,ax _ _⟩
        refine cC ?_ ?_
        ·intro wD E sD;replace sD:Step M2 _ M2 wD aD:=sD;refine aP ?_;intro v9 Iv;intro v7 Iy;refine aP (aP (aP (aP (aP ?_))));intro v5 oF;intro v6 uM;intro v7 Iy;intro v8 N6;intro v9 Iv;refine cu (M:=M2) CT rfl rfl (cR sD hX) rfl (pF (A:=RT.u8.sl) Iv rfl rfl) h7.mx (fun wS hXS sS=>?_);exact ab ⟨rfl,rfl,undef,rfl,⟨_,hXS,RT.V.le (A:=RT.u8.sl) sS.le Iv⟩,sS⟩
        exact ef.nil
       ·intro afc Mo;replace Mo:Step M2 _ M2 afc (fun k=>k=bx):=Mo;refine aP (aP (aP (aP (aP ?_))));intro akg afd;intro akh afe;intro aki aff;intro akj afg;intro akk afh;refine aP (aP (aP ?_));intro afi Py;obtain⟨v12,afj,afk⟩:=Py;have h8:=h7.UB Mo afj afk h7.hk;have hp8:=Wd.le (by decide) Mo.le;refine aj ?_;have hO:=h8.o;have hX:=h8.x;apply T.GZ (M:=M2) (n:=85) _ mixed [] [cT.eq _,cT.eq _,cT.eq _,cT.eq _,cT.ptr ((RT.int .i64).sl) ps,cT.V ((RT.int .i64).sl) ps,cT.eq (.int .i64 ps.length),cT.eq _,cT.eq _,cT.eq _]
        ·rfl
        ·rfl
        ·rfl
        ·rfl
        ·exact fun p hp=>by cases hp
        ·exact vX.none
        ·refine aG ?_ ?_
         ·intro wD E sD;refine aL eP rfl rfl rfl (cR sD (by assumption)) rfl ?_;exact ab ⟨rfl,rfl,_,rfl,rfl,ax _ _⟩
         refine aG ?_ ?_
         ·intro wD E sD;refine aP (bS rfl ⟨_,rfl⟩ rfl ?_);exact ab ⟨rfl,rfl,_,rfl,rfl,ax _ _⟩
         refine aG ?_ ?_
         ·intro wD E sD;refine aP (bN eo rfl rfl I3 (by decide) rfl rfl ?_);exact ab ⟨rfl,rfl,_,rfl,rfl,ax _ _⟩
         refine aG ?_ ?_
         ·intro wD E sD;refine aP (aL aw rfl rfl rfl (cR sD (by assumption)) rfl ?_);exact ab ⟨rfl,rfl,_,rfl,rfl,ax _ _⟩
         refine aG ?_ ?_
         ·intro wD E sD;refine aS (M:=M2) (A:=RT.po) (B:=(RT.int .i64).sl) bW rfl rfl kG (by decide) WT rfl rfl (by decide) hp8 sD.le (fun uf IU=>?_);exact ab ⟨rfl,rfl,_,rfl,IU,ax _ _⟩
         refine aG ?_ ?_
         ·intro wD E sD;intro v4 rU;refine bV (M:=M2) ao rfl rfl rfl rfl rfl (show dg ((RT.int .i64).sl) M2 wD v4 ps from rU) (aq _ _) (fun uf IU=>?_);exact ab ⟨rfl,rfl,_,rfl,IU,ax _ _⟩
         refine aG ?_ ?_
         ·intro wD E sD;intro v5 oF;refine bJ ao rfl (show((RT.int .i64).sl).V M2 wD ps v5 from oF) rfl ?_;exact ab ⟨rfl,rfl,_,rfl,rfl,ax _ _⟩
         refine aG ?_ ?_
         ·intro wD E sD;refine aP (aP (bD rfl rfl rfl (by omega) ?_));exact ab ⟨rfl,rfl,_,rfl,rfl,ax _ _⟩
         refine aG ?_ ?_
         ·intro wD E sD;refine aP (aP (aP (aP (aP ?_))));intro v4 rU;intro v5 oF;refine aP (aP (bS rfl ⟨_,rfl⟩ rfl ?_));exact ab ⟨rfl,rfl,_,rfl,rfl,ax _ _⟩
         refine aG ?_ ?_
         ·intro wD E sD;refine aP (aP (aP (aP (aP ?_))));intro v4 rU;intro v5 oF;refine aP (aP (bN eo rfl rfl I3 (by decide) rfl rfl ?_));exact ab ⟨rfl,rfl,_,rfl,rfl,ax _ _⟩
         exact xo
        ·intro Ty o7;refine aP (aP (aP (aP ?_)));intro akl afl;intro QY BC;refine aP (aP (aP (aP ?_)));have h9:=h8.step o7;refine cu (M:=M2) I3 rfl rfl h9.x rfl rfl h9.mx (fun w13 afm Cp=>?_);refine ab ⟨rfl,?_⟩;have Pm:=h9.UB Cp afm (h9.hb.le Cp.le) h9.hk;have afn:=(hp8.le (by decide) o7.le).le (by decide) Cp.le;refine ae ?_;refine aS (M:=M2) (A:=RT.po) (B:=RT.int .i64) bW rfl rfl I3 (by decide) QE rfl rfl (by decide) afn (aq _ _) (fun YX Mp=>?_);refine cd (M:=M2) aw rfl rfl Mp (aq _ _) (fun _=>?_);refine aV (v':= .int .i64 d) rfl ?_;refine cu (M:=M2) I3 rfl rfl Pm.l rfl rfl Pm.ml (fun TQ afo jV=>?_);have h11:=Pm.Px jV afo;refine ab (ae (bD rfl rfl rfl (by omega) (ad rfl rfl (ab ?_))));refine⟨rfl,(j+1,v12),(.cons rfl (.cons rfl (.cons rfl (.cons rfl (.cons rfl (.cons rfl (.cons rfl .nil))))))),?_,?_⟩
         ·refine⟨by simp only;omega,?_,?_⟩
          ·exact jV.keep (Cp.keep (o7.aK (Mo.keep (IT.keep (jh.aK (ou.aK hQ)) (by omega)) (by omega))) (by omega)) (by omega)
          ·simp only;rw[show i+(j+1)=i+j+1 from by omega,x4 hx,f5,ftk];exact h11
         ·simp only;omega
     ·refine cL (aj (ae ?_));obtain rfl:j=((l.drop i).take 8).length:=by omega
      have Wq:M2 bq:=by rw[EU];exact .inl rfl
      refine aL aw rfl rfl rfl h4.l rfl (bN (o':=2) sw rfl rfl I3 (by decide) rfl rfl ?_);refine cu (M:=M2) I3 rfl rfl hQ rfl rfl Wq (fun Wj YY AS=>?_);have Wk:=h4.other AS hDq hqv;change Wj.heap[bq]? =some (.cells [.int .i64 (dY (-1) (l.take i)).length,.int .i64 (dv (-1) (l.take i)),.int .i64 (dv (-1) (l.take (i+((l.drop i).take 8).length))),.int .i64 ((l.drop i).take 8).length].toArray 209 (0,0))at YY;refine ab ?_;have hO:=Wk.o;have hX:=Wk.x;have Pz:=Wk.hk;have fz:∀k,vk.ownBlock=some k→k≠bo:=fun k hk=>by have:=(Pz.base k hk).1;omega
      have ao4:=ak Wk.r;have g1:=sK l (-1) mW (by omega) i;have g2:=sK l (-1) mW (by omega) (i+((l.drop i).take 8).length);have g3:=ny l i;apply T.GZ (M:=M2) (n:=85) _ mixed [(7,fun k=>vk.ownBlock=some k)] [cT.eq _,cT.eq _,cT.eq _,cT.eq _,cT.eq _,cT.eq (.agg [.int .i64 (dY (-1) (l.take i)).length,.int .i64 (dv (-1) (l.take i)),.int .i64 (dv (-1) (l.take (i+((l.drop i).take 8).length))),.int .i64 ((l.drop i).take 8).length].toArray),cT.V ((RT.bl).sl) [(((dY (-1) (l.take i)).length:Int),dv (-1) (l.take i),dv (-1) (l.take (i+((l.drop i).take 8).length)),(((l.drop i).take 8).length:Int))],⟨fun t w=>∃M3,Own RT.bl 209 M3 w (D+2) t (rA l ((i+7)/8)++[(((dY (-1) (l.take i)).length:Int),dv (-1) (l.take i),dv (-1) (l.take (i+((l.drop i).take 8).length)),(((l.drop i).take 8).length:Int))])∧Step M2 Wj M3 w (fun k=>vk.ownBlock=some k),aD,fun⟨M3,h1,h2⟩ s hN=>⟨M3,h1.aM ((s.cG hN (fun _ h=>h.elim)).any M3),h2.aB ((s.cG hN (fun _ h=>h.elim)).any M3)⟩⟩,cT.eq _,cT.eq _]
      ·rfl
      ·rfl
      ·rfl
      ·rfl
      ·intro p hp b hb;simp only[bE]at hp;subst hp;exact Pz.mut_ b hb
      ·exact⟨fun _ _ _ _=>trivial,⟨fun _ _ _ _=>trivial,⟨fun _ _ _ _=>trivial,⟨fun _ _ _ _=>trivial,⟨fun _ _ _ _=>trivial,⟨fun _ _ _ _=>trivial,⟨fun _ _ _ _=>trivial,⟨fun p hp=>by simp at hp,⟨fun _ _ _ _=>trivial,⟨fun _ _ _ _=>trivial,trivial⟩⟩⟩⟩⟩⟩⟩⟩⟩⟩
      ·refine aG ?_ ?_
       ·intro wD E sD;replace sD:Step M2 _ M2 wD (fun k=>vk.ownBlock=some k):=sD;refine aL eP rfl rfl rfl (sD.keep hO (fun hb=>fz _ hb rfl)) rfl ?_;exact ab ⟨rfl,rfl,_,rfl,rfl,ax _ _⟩
       refine aG ?_ ?_
       ·intro wD E sD;replace sD:Step M2 _ M2 wD (fun k=>vk.ownBlock=some k):=sD;refine aL eP rfl rfl rfl (sD.keep hO (fun hb=>fz _ hb rfl)) rfl ?_;exact ab ⟨rfl,rfl,_,rfl,rfl,ax _ _⟩
       refine aG ?_ ?_
       ·intro wD E sD;replace sD:Step M2 _ M2 wD (fun k=>vk.ownBlock=some k):=sD;refine aP (bS rfl ⟨_,rfl⟩ rfl ?_);exact ab ⟨rfl,rfl,_,rfl,rfl,ax _ _⟩
       refine aG ?_ ?_
       ·intro wD E sD;replace sD:Step M2 _ M2 wD (fun k=>vk.ownBlock=some k):=sD;refine aP (bN eo rfl rfl Ig (by decide) rfl rfl ?_);exact ab ⟨rfl,rfl,_,rfl,rfl,ax _ _⟩
       refine aG ?_ ?_
       ·intro wD E sD;replace sD:Step M2 _ M2 wD aD:=sD;refine aP (aL iG rfl rfl rfl (cR sD (by assumption)) rfl ?_);exact ab ⟨rfl,rfl,_,rfl,rfl,ax _ _⟩
       refine aG ?_ ?_
       ·intro wD E sD;replace sD:Step M2 _ M2 wD (fun k=>vk.ownBlock=some k):=sD;refine iM (vs:=[.int .i64 (dY (-1) (l.take i)).length,.int .i64 (dv (-1) (l.take i)),.int .i64 (dv (-1) (l.take (i+((l.drop i).take 8).length))),.int .i64 ((l.drop i).take 8).length]) sw rfl Bq rfl rfl rfl (sD.keep YY (fun hb=>hqv _ hb rfl)) ?_;exact ab ⟨rfl,rfl,_,rfl,rfl,ax _ _⟩
       refine aG ?_ ?_
       ·intro wD E sD;replace sD:Step M2 _ M2 wD aD:=sD;refine aP ?_;refine dQ (A:=RT.bl) (hn:=by decide) (M:=M2) iG Bq (by decide) rfl rfl (sD.lt Wk.lt) (abW (by omega) (by omega) (by omega) (by omega)) (.inl rfl) (fun uS wS hS sS=>?_);exact ab ⟨rfl,rfl,_,rfl,hS,sS⟩
       refine aG ?_ ?_
       ·intro wD E sD;replace sD:Step M2 _ M2 wD aD:=sD;refine aP ?_;intro v6 uM;refine cX (M:=M2) (base:=D+2) iG Bq rfl rfl rfl rfl (Pz.aM sD) (show((RT.bl).sl).V M2 wD [(((dY (-1) (l.take i)).length:Int),dv (-1) (l.take i),dv (-1) (l.take (i+((l.drop i).take 8).length)),(((l.drop i).take 8).length:Int))] v6 from uM) (aq _ _) (by simp[rA];omega) (by simp[rA];omega) (by have:=sD.size;omega) (fun v3 M3 w3 yN s3=>?_);exact ab ⟨rfl,rfl,_,rfl,⟨M3,yN,(sD.cG (fun _ h=>h.elim) Pz.mut_).trans s3 (fun b _ hb=>hb)⟩,s3.back⟩
       refine aG ?_ ?_
       ·intro wD E sD;replace sD:Step M2 _ M2 wD (fun k=>vk.ownBlock=some k):=sD;refine aP (aP (aP (aP (aP (aP (aP ?_))))));intro v6 uM;intro v7 Iy;refine bS rfl ⟨_,rfl⟩ rfl ?_;exact ab ⟨rfl,rfl,_,rfl,rfl,ax _ _⟩
       refine aG ?_ ?_
       ·intro wD E sD;replace sD:Step M2 _ M2 wD (fun k=>vk.ownBlock=some k):=sD;refine aP (aP (aP (aP (aP (aP (aP ?_))))));intro v6 uM;intro v7 Iy;refine bN eo rfl rfl Ig (by decide) rfl rfl ?_;exact ab ⟨rfl,rfl,_,rfl,rfl,ax _ _⟩
       exact xo
      ·intro afp YZ;replace YZ:Step M2 _ M2 afp (fun k=>vk.ownBlock=some k):=YZ;refine aP (aP (aP (aP (aP (aP ?_)))));intro akm afq;intro akn UG;refine aP (aP ?_);obtain⟨M3,yN,sR⟩:=UG;obtain⟨⟨IQ,hm3,ao5⟩,Jv⟩:=Wk.grow sR yN;refine cu (M:=M3) Ig rfl rfl IQ rfl (by obtain⟨_,_,he,_⟩:=yN.isSlice;rw[he];rfl) hm3 (fun w17 aft JF=>?_);refine ab ⟨rfl,?_⟩;have Ur:=Jv JF aft;have h18:=Ur.pb (st':= .loop (rec .ready none)) Ur.r;have hE:i+((l.drop i).take 8).length=min (i+8) l.length:=by omega
       rw[hE,Ke (by omega) hi]at h18;exact⟨Ur.r,true,rfl,fun _=>⟨M3,_,_,h18,by omega,by omega⟩,fun h=>by cases h⟩
  ·obtain⟨Mz,vb,vk,h,_,_⟩:=h3.resolve_right (fun h=>h);left;rw[List.take_length]at h;have h5:=h.pb (st':= .loop (rec .exhausted none)) h.r;refine⟨h.r,?_⟩;generalize w3.putObj (D+1) _=wE at h5 ⊢;refine aj (ae (aL eP rfl rfl rfl h5.o rfl (ah rfl rfl (ah rfl rfl (ab (aN ?_))))));obtain⟨q1,q2,q3,q4,q5,q6,q7,q8,q9,q10,q11,q12,q13,q14,q15,q16,q17,q18⟩:=h5.ne;have sZ:Step Mz wE Mz (wE.putObj D (.deferred none)) (fun k=>k=D):=eu h5.md;have SZ:=h5.S.cg sZ (fun k hk=>by subst hk;omega);have ht:=oX l;refine Sy rfl rfl rfl h5.d ⟨SZ.back,fun _=>⟨_,rfl,?_⟩,fun hf=>by rw[mW]at hf;cases hf⟩;exact WU (sZ.keep h5.x (by omega)) (fun hh=>by have:=hM _ hh;omega) ((h5.hb.le sZ.le).le (Le.close hM SZ)) (Own.close hM SZ ((h5.hk.step sZ (fun k hk hh=>by have:=(h5.hk.base k hk).1;omega)).oL (by omega)) (by simp[rA];omega)) (by omega)
end Go.K
namespace Go.K
open Go.Proofs
namespace TKBldG
theorem zV:TI Tryz.prog 80 (.slice none 0 0) 1 24:=by unfold TI;kernel_rfl
theorem D0:TI Tryz.prog 196 (.slice none 0 0) 1 24:=by unfold TI;kernel_rfl
theorem UH:Enters Tryz.prog 145:=enters Tryz.func145 rfl (by decide)
theorem afu:Enters Tryz.prog 197:=enters Tryz.func197 rfl (by decide)
end TKBldG
open TKBldG
set_option maxRecDepth 10000
theorem index_spec {M:aC} {l:List (List Po)} {v0:Value} {g:FuncId} {cap:List Value} {B:Nat} {J:Nat→aC→World→Prop} {bad:List Po→Bool} (w0:World) (hM:Lt M w0) (hv:(((RT.po).sl).sl).V M w0 l v0) (hg:Enters Tryz.prog g) (hJ:J 0 M w0) (kC:∀i M w M' w',J i M w→Step M w M' w' aD→J i M' w') (ht:∀i M w x vx,J i M w→Lt M w→l[i]? =some x→((RT.po).sl).V M w x vx→Spec Tryz.prog g ([vx]++cap).toArray w (fun v w'=>∃M',Lt M' w'∧v= .bool (bad x)∧(bad x=false→J (i+1) M' w')∧Step M w M' w' (lN M B))):
  Spec Tryz.prog 197 #[v0,.func (.func g) #[] cap.toArray] w0 (fun v w=>∃M' k,v= .int .i64 k∧ -1≤k∧Lt M' w∧Step M w0 M' w (lN M B)∧(k= -1→(∀x∈l,bad x=false)∧J l.length M' w)∧(0≤k→∃x∈l,bad x=true)):=by
 have hlen:=ep hv;refine bc (args:=[_,_]) (fn:=Tryz.f197) Tryz.func197 rfl (n:=19) Tryz.ntmps197 ?_;have S:Step M w0 M w0 (lN M B):=(ax _ _).cG (fun _ h=>h.elim) (fun _ h=>h.2);refine aj (ae (ah rfl rfl (ab (aj (aj (ae (ad rfl rfl (bJ kE rfl hv rfl (ad rfl rfl (ab (aZ ?_)))))))))));refine dn (σ:=Nat) (fun q=>[(0,v0),(1,.func (.func g) #[] cap.toArray),(6,v0),(7,.int .i64 (l.length:Int)),(8,.int .i64 (q:Int))]) (fun q w=>∃M',Lt M' w∧Step M w0 M' w (lN M B)∧(((RT.po).sl).sl).V M' w l v0∧J q M' w∧q≤l.length∧∀x∈l.take q,bad x=false) (fun q=>l.length-q) 0 (.cons rfl (.cons rfl (.cons rfl (.cons rfl (.cons rfl .nil))))) ?_ ?_
 ·exact⟨M,hM,S,hv,hJ,bG _,fun x h=>by simp at h⟩
 ·clear hM S hv hJ;rintro i w ⟨M1,hM,S,hv,hJ,hi,j9⟩;refine aj (ae (cf rfl rfl rfl (ab (aj ?_))));refine bP rfl (fun c2=>?_) (fun c2=>?_)
  ·refine aT (aj (aZ (aj (ae (ad rfl rfl (ah rfl rfl (ab (aj (ae (ad rfl rfl (ad rfl rfl ?_)))))))))));refine ad rfl rfl ?_;refine cF (M:=M1) kE zV rfl rfl rfl hv (aq _ _) (by omega) (fun u x wC hu=>?_);rw[ay]at wC;refine bV (M:=M1) bF rfl rfl rfl rfl rfl hu (aq _ _) (fun vx rB=>?_);refine zC (first:=[]) (captured:=cap) (xs:=[.tmp 15]) rfl rfl rfl hg (ht i _ _ x vx hJ hM wC rB) (fun r4 w4 hc=>?_);obtain⟨M4,hM4,rfl,hJ4,s4⟩:=hc;refine aV (v':= .bool (decide (bad x=true))) (by simp) ?_;have S4:=S.trans s4 (fun k hk h=>⟨h.1,(S.mem k hk).1 h.2⟩);refine ab ?_;refine bP rfl (fun c4=>?_) (fun c4=>?_)
   ·refine aj (ae (ad rfl rfl (ah rfl rfl (ab (aN ?_)))));exact aU rfl rfl ⟨M4,_,rfl,by omega,hM4,S4,fun h=>absurd h (by omega),fun _=>⟨x,aA wC,c4⟩⟩
   ·refine aT (ae (bD rfl rfl rfl (by omega) (ad rfl rfl (ab ?_))));refine⟨rfl,i+1,(.cons rfl (.cons rfl (.cons rfl (.cons rfl (.cons rfl .nil))))),?_,?_⟩
    ·have hb:bad x=false:=by simpa using c4
     exact⟨M4,hM4,S4,hv.le s4.le,hJ4 hb,by omega,fun y hy=>by
      rw[cb,wC,cY,ck,bE]at hy;rcases hy with hy|rfl
      ·exact j9 y hy
      ·exact hb⟩
    ·omega
  ·refine cL (aj (ae (ah rfl rfl (ab (aN ?_)))));rw[br (by omega)]at j9;have e:i=l.length:=by omega
   subst e;exact aU rfl rfl ⟨_,_,rfl,by omega,hM,S,fun _=>⟨j9,hJ⟩,fun h=>absurd h (by omega)⟩
theorem zX {M:aC} {l:List (List Po)} {v0:Value} {g:FuncId} {cap:List Value} {B:Nat} {J:Nat→aC→World→Prop} {bad:List Po→Bool} (w0:World) (hM:Lt M w0) (hv:(((RT.po).sl).sl).V M w0 l v0) (hg:Enters Tryz.prog g) (hJ:J 0 M w0) (kC:∀i M w M' w',J i M w→Step M w M' w' aD→J i M' w') (ht:∀i M w x vx,J i M w→Lt M w→l[i]? =some x→((RT.po).sl).V M w x vx→Spec Tryz.prog g ([vx]++cap).toArray w (fun v w'=>∃M',Lt M' w'∧v= .bool (bad x)∧(bad x=false→J (i+1) M' w')∧Step M w M' w' (lN M B))):
  Spec Tryz.prog 146 #[v0,.func (.func g) #[] cap.toArray] w0 (fun v w=>∃M' k,v= .bool (decide (0≤k))∧ -1≤k∧Lt M' w∧Step M w0 M' w (lN M B)∧(k= -1→(∀x∈l,bad x=false)∧J l.length M' w)∧(0≤k→∃x∈l,bad x=true)):=by
 refine bc (args:=[_,_]) (fn:=Tryz.f146) Tryz.func146 rfl (n:=9) Tryz.ntmps146 (aj (ae (ah rfl rfl (ab (aj (ae (ad rfl rfl (ad rfl rfl ?_))))))));refine aX rfl rfl afu (index_spec w0 hM hv hg hJ kC ht) (fun r w1 hc=>?_);obtain⟨M1,k,rfl,hk,h2⟩:=hc;refine dT rfl rfl rfl (ah rfl rfl (ab (aN ?_)));exact aU rfl rfl ⟨M1,k,rfl,hk,h2⟩
def D1 (x:List Po):Int:=match x.getLast? with|some p=>p.1|none=> -1
def nC (n:Int) (x:List Po):Bool:= !fU (-1) x||x.isEmpty||decide (n≤D1 x)
theorem D2 {x:List Po} {p:Po} (h:x[x.length-1]? =some p):D1 x=p.1:=by
 unfold D1;rw[List.getLast?_eq_getElem?,h]
structure Room (x:List Po):Prop where
 ps:∀p∈x,p.2.length≤1099511627776
 by_:(dY (-1) x).length≤35184372088832
 ln:x.length≤1099511627776
 rR:jm x≤4611686018427387904
def RT.cell:RT Value where
 n:=1
 agg:=false
 R:=fun _ _ x vs=>vs=[x]∧x.oneCell'=true
 len:=by rintro _ _ x vs ⟨rfl,_⟩;rfl
 one:=by rintro _ _ x vs ⟨rfl,h⟩ v hv;simp at hv;subst hv;exact h
 le:=fun _ h=>h
theorem PA {M:aC} {w:World} {v:Value} (h:v.oneCell'=true):RT.cell.V M w v v:=⟨[v],⟨rfl,h⟩,rfl⟩
theorem dV.cells {α:Type} {A:RT α} (hA:A.n=1) {M:aC} {w:World}:∀{xs:List α} {C:List Value},dV A M w xs C→∃ys:List Value,dV RT.cell M w ys C∧ys.length=xs.length
 |[],C,h=>⟨[],h,rfl⟩
 |x::xs,C,h=>by
  obtain⟨vs,r,h1,h2,h3⟩:=h;obtain⟨ys,h4,h5⟩:=dV.cells hA h3;have hl:=A.len h2
  match vs,hl,h1,h2 with
  |[v],_,h1,h2=>exact⟨v::ys,⟨[v],r,h1,⟨rfl,A.one h2 v (by simp)⟩,h4⟩,by simp[h5]⟩
  |[],hl,_,_=>simp at hl;omega
  |_::_::_,hl,_,_=>simp at hl;omega
theorem Own.cells {α:Type} {A:RT α} (hA:A.n=1) {e:TypeId} {M:aC} {w:World} {base:Nat} {v:Value} {xs:List α} (h:Own A e M w base v xs):∃ys:List Value,Own RT.cell e M w base v ys∧ys.length=xs.length:=by
 obtain⟨⟨C,hr,ha⟩,hm⟩:=h;obtain⟨ys,h1,h2⟩:=ha.cells hA;exact⟨ys,⟨⟨C,by rw[h2,show RT.cell.n=A.n from hA.symm];exact hr,h1⟩,hm⟩,h2⟩
def zY (bl bn:Nat) (n:Int) (ls:List (List Po)) (B:Nat) (i:Nat) (M:aC) (w:World):Prop:=∃vl,w.heap[bl]? =some (.cells #[vl] 196 (0,0))∧M bl∧B≤bl∧w.heap[bn]? =some (.cells #[.int .i64 n] 3 (0,0))∧M bn∧Own ((RT.li).ptr) 142 M w B vl ((ls.take i).map oU)
theorem zY.aM {bl bn:Nat} {n:Int} {ls:List (List Po)} {B i:Nat} {M M':aC} {w w':World} (h:zY bl bn n ls B i M w) (s:Step M w M' w' aD):zY bl bn n ls B i M' w':=by
 obtain⟨vl,h1,h2,h3,h4,h5,h6⟩:=h;exact⟨vl,s.aK h1,(s.mem _ (ak h1)).2 h2,h3,s.aK h4,(s.mem _ (ak h4)).2 h5,h6.aM s⟩
theorem UI {M:aC} {bl bn B i:Nat} {n:Int} {ls:List (List Po)} {x:List Po} {v0:Value} (w0:World) (hM:Lt M w0) (hB:B≤w0.heap.size) (hJ:zY bl bn n ls B i M w0) (hx:ls[i]? =some x) (hv:((RT.po).sl).V M w0 x v0) (hr:Room x) (oN:i≤1000000000) (hm:fU (-1) x=true):
  Spec Tryz.prog 144 #[v0,.pointer (some ⟨bl,0,none⟩),.pointer (some ⟨bn,0,none⟩)] w0 (fun v w=>∃M',Lt M' w∧v= .bool (nC n x)∧(nC n x=false→zY bl bn n ls B (i+1) M' w)∧Step M w0 M' w (lN M B)):=by
 have hlen:=ep hv;obtain⟨vl,gl,kU,hBl,gn,mJ,ho⟩:=hJ;have nln:bl≠bn:=fun h=>by rw[h,gn]at gl;simp at gl
 refine bc (args:=[_,_,_]) (fn:=Tryz.f144) Tryz.func144 rfl (n:=34) Tryz.ntmps144 ?_;have S:Step M w0 M w0 (lN M B):=(ax _ _).cG (fun _ h=>h.elim) (fun _ h=>h.2);refine aj (ae (ah rfl rfl (ab (aj (ae (ad rfl rfl ?_))))));refine aX rfl rfl UH (AR hM hv hr.ps hr.by_ hr.ln hr.rR) (fun r1 w1 hc=>?_);obtain⟨s1,hok,j9⟩:=hc;obtain⟨p,rfl,hp⟩:=hok hm;have:=ak gl;replace kU:=(s1.mem _ this).2 kU;replace gl:=s1.aK gl;have:=ak gn;replace mJ:=(s1.mem _ this).2 mJ;replace gn:=s1.aK gn;replace hv:=hv.le s1.le;replace ho:=ho.aM s1;replace hM:=s1.lt hM;have:=S.size;replace S:=S.aB s1;refine ad rfl rfl (bK rfl rfl rfl (bK rfl rfl rfl (ah rfl rfl (ah rfl rfl (ab (aj (ae (aL dX rfl rfl rfl gl rfl (aV (v':=vl) rfl (ad rfl rfl ?_))))))))));refine dQ (A:=((RT.li).ptr)) (hn:=by decide) (M:=M) dX zK (by decide) rfl rfl hM (j0.2 hp) (.inr ⟨rfl,rfl⟩) (fun afw afx mK pZ=>?_);have:=ak gl;replace kU:=(pZ.mem _ this).2 kU;replace gl:=pZ.aK gl;have:=ak gn;replace mJ:=(pZ.mem _ this).2 mJ;replace gn:=pZ.aK gn;replace hv:=hv.le pZ.le;replace hp:=hp.le (by decide) pZ.le;replace ho:=ho.aM pZ;replace hM:=pZ.lt hM;have:=S.size;replace S:=S.aB pZ;refine cX (M:=M) (base:=B) dX zK rfl rfl rfl rfl ho mK (aq _ _) (by simp;omega) (by simp;omega) (by have:=S.size;omega) (fun UJ D3 afy Mq p6=>?_);have:=ak gl;replace kU:=(p6.mem _ this).2 kU;replace gl:=p6.keep gl (fun h=>by first|exact ho.ec gl h|exact ho.eK gl (by decide) h|(have:=(ho.base _ h).1;omega));have:=ak gn;replace mJ:=(p6.mem _ this).2 mJ;replace gn:=p6.keep gn (fun h=>by first|exact ho.ec gn h|exact ho.eK gn (by decide) h|(have:=(ho.base _ h).1;omega));replace hv:=hv.le p6.le;replace hp:=hp.le (by decide) p6.le
 replace mK:=mK.le p6.le;replace hM:=p6.lt hM;have:=S.size;replace S:=S.trans p6 (fun k hk h=>⟨(ho.base k h).1,(S.mem k hk).1 (ho.mut_ k h)⟩);replace ho:=Mq;refine cu (M:=D3) D0 rfl rfl gl rfl (by obtain⟨_,_,he,_⟩:=ho.isSlice;rw[he];rfl) kU (fun UK Mt ox=>?_);change UK.heap[_]? =some (Obj.cells #[UJ] _ _)at Mt;have:=ak gl;replace kU:=(ox.mem _ this).2 kU;have:=ak gn;replace mJ:=(ox.mem _ this).2 mJ;replace gn:=ox.keep gn (fun hk=>by have hk:_=_:=hk;omega);replace hv:=hv.le ox.le;replace hp:=hp.le (by decide) ox.le;replace mK:=mK.le ox.le;replace ho:=ho.step ox (fun c hc (h:c=bl)=>ho.eK gl (by decide) (h▸hc));replace hM:=ox.lt hM;have:=S.size;replace S:=S.trans ox (fun k hk h=>by have h:_=_:=h;subst h;first|(exfalso;omega)|(show _≤_;omega)|exact⟨by first|omega|assumption,(S.mem _ hk).1 ((ox.mem _ (ak gl)).1 kU)⟩|exact .inl rfl|exact .inr rfl|exact .inr (.inl rfl)|exact .inr (.inr rfl)|exact .inr (.inr (.inl rfl))|exact rfl);have Y0:=Mt;clear gl;have gl:=Y0;clear Y0;refine ab (aj ?_);apply uO mixed rfl rfl;intro Xn QM;have qW:=QM D3;have:=ak gl;replace kU:=(qW.mem _ this).2 kU;replace gl:=qW.aK gl;have:=ak gn;replace mJ:=(qW.mem _ this).2 mJ;replace gn:=qW.aK gn;replace hv:=hv.le qW.le;replace hp:=hp.le (by decide) qW.le;replace mK:=mK.le qW.le;replace ho:=ho.aM qW;replace hM:=qW.lt hM;have:=S.size;replace S:=S.aB qW;refine ad rfl rfl ?_;refine ab ⟨rfl,rfl,rfl,?_⟩;refine fp rfl rfl rfl ?_;refine ab ⟨rfl,rfl,rfl,?_⟩;refine ad rfl rfl ?_;refine ab ⟨rfl,rfl,rfl,?_⟩;refine Rg.EZ (g:=18) rfl ((by decide)) (al rfl rfl (ad rfl rfl ?_));refine ab ⟨rfl,rfl,rfl,?_⟩;refine al rfl rfl (bJ bF rfl hv rfl ?_);refine ab ⟨rfl,rfl,rfl,?_⟩;refine al rfl rfl (k7 rfl rfl rfl ?_);refine ab ⟨rfl,rfl,rfl,?_⟩;refine aE rfl rfl rfl ?_
 refine ab ⟨rfl,rfl,rfl,?_⟩;refine ad rfl rfl ?_;refine ab ⟨rfl,rfl,rfl,?_⟩;refine aO (g:=23) rfl (fun UL=>?_) (fun UL=>?_)
 ·refine ar rfl rfl rfl rfl ?_;refine ab ⟨rfl,rfl,rfl,?_⟩;refine ar rfl rfl rfl rfl ?_;refine ab ⟨rfl,rfl,rfl,?_⟩;refine ar rfl rfl rfl rfl ?_;refine ab ⟨rfl,rfl,rfl,?_⟩;refine ar rfl rfl rfl rfl ?_;refine ab ⟨rfl,rfl,rfl,?_⟩;refine ar rfl rfl rfl rfl ?_;refine ab ⟨rfl,rfl,rfl,?_⟩;refine ar rfl rfl rfl rfl ?_;refine ab ⟨rfl,rfl,rfl,?_⟩;refine ar rfl rfl rfl rfl ?_;refine ab ⟨rfl,rfl,rfl,?_⟩;refine ar rfl rfl rfl rfl ?_;refine ab ⟨rfl,rfl,rfl,?_⟩;refine ar rfl rfl rfl rfl ?_;refine ab ⟨rfl,rfl,rfl,?_⟩;refine aW rfl rfl rfl ?_;refine ab ⟨rfl,rfl,rfl,?_⟩;refine ah rfl rfl ?_;refine ab ⟨rfl,rfl,rfl,?_⟩;refine ff (aN ?_)
  first
  |(have PB:nC n x=true:=by
     have:x=[]:=cP.1 (by omega);simp[nC,this]
    rw[PB];exact aU rfl rfl ⟨_,hM,rfl,(fun h=>by cases h),S⟩)
  |(have eN:x.isEmpty=false:=by cases x with
     |nil=>simp at UL
     |cons a t=>rfl
    have hbv:nC n x=decide (n≤q.1):=by unfold nC;rw[hm,eN,D2 hq];rfl
    rw[hbv];exact aU rfl rfl ⟨_,hM,rfl,fun _=>⟨_,gl,kU,hBl,gn,mJ,by rw[cb,hx,cY,eA];exact ho⟩,S⟩)
 ·refine al rfl rfl (ad rfl rfl ?_);refine ab ⟨rfl,rfl,rfl,?_⟩;refine al rfl rfl (ad rfl rfl ?_);refine ab ⟨rfl,rfl,rfl,?_⟩;refine al rfl rfl (bJ bF rfl hv rfl ?_);refine ab ⟨rfl,rfl,rfl,?_⟩;refine al rfl rfl (fq rfl rfl rfl (by omega) ?_);refine ab ⟨rfl,rfl,rfl,?_⟩;refine al rfl rfl ?_;obtain⟨q,hq⟩:∃q,x[x.length-1]? =some q:=⟨_,au (by omega)⟩;refine cF (M:=D3) bF o0 rfl rfl rfl hv (aq _ _) (by omega) (fun u3 a N2 Q5=>?_);obtain rfl:q=a:=aJ (hq.symm.trans (by rw[show((x.length:Int)-1).toNat=x.length-1 from by omega]at N2;exact N2));refine ab ⟨rfl,rfl,rfl,?_⟩;refine al rfl rfl ?_;refine aS (M:=D3) (A:=RT.po) (B:=RT.int .i64) bW rfl rfl I3 (by decide) (QE) rfl rfl (by decide) (by assumption) (by repeat (first|exact aq _ _|refine aY (bu (by assumption)) ?_)) (fun akp afz=>?_);refine ab ⟨rfl,rfl,rfl,?_⟩;refine al rfl rfl ?_;refine cd (M:=D3) aw rfl rfl (by assumption) (by repeat (first|exact aq _ _|refine aY (bu (by assumption)) ?_)) (fun Mu=>?_);refine aV (v':= .int .i64 (q.1)) rfl ?_;replace Mu: -9223372036854775808≤(q.1:Int)∧q.1≤9223372036854775807:=Mu;refine ab ⟨rfl,rfl,rfl,?_⟩;refine al rfl rfl (aL aw rfl rfl rfl gn rfl (aV (v':= .int .i64 n) rfl ?_));refine ab ⟨rfl,rfl,rfl,?_⟩;refine al rfl rfl (dT rfl rfl rfl ?_);refine ab ⟨rfl,rfl,rfl,?_⟩;refine aE rfl rfl rfl ?_;refine ab ⟨rfl,rfl,rfl,?_⟩;refine ah rfl rfl ?_;refine ab ⟨rfl,rfl,rfl,?_⟩;refine ff (aN ?_)
  first
  |(have PB:nC n x=true:=by
     have:x=[]:=cP.1 (by omega);simp[nC,this]
    rw[PB];exact aU rfl rfl ⟨_,hM,rfl,(fun h=>by cases h),S⟩)
  |(have eN:x.isEmpty=false:=by cases x with
     |nil=>simp at UL
     |cons a t=>rfl
    have hbv:nC n x=decide (n≤q.1):=by unfold nC;rw[hm,eN,D2 hq];rfl
    rw[hbv];exact aU rfl rfl ⟨_,hM,rfl,fun _=>⟨_,gl,kU,hBl,gn,mJ,by rw[cb,hx,cY,eA];exact ho⟩,S⟩)
theorem PC {M:aC} {bl bn B i:Nat} {n:Int} {ls:List (List Po)} {x:List Po} {v0:Value} (w0:World) (hM:Lt M w0) (hB:B≤w0.heap.size) (hJ:zY bl bn n ls B i M w0) (hx:ls[i]? =some x) (hv:((RT.po).sl).V M w0 x v0) (hr:Room x) (oN:i≤1000000000) (hm:fU (-1) x=false):
  Spec Tryz.prog 144 #[v0,.pointer (some ⟨bl,0,none⟩),.pointer (some ⟨bn,0,none⟩)] w0 (fun v w=>∃M',Lt M' w∧v= .bool (nC n x)∧(nC n x=false→zY bl bn n ls B (i+1) M' w)∧Step M w0 M' w (lN M B)):=by
 have hlen:=ep hv;obtain⟨vl,gl,kU,hBl,gn,mJ,ho0⟩:=hJ;have nln:bl≠bn:=fun h=>by rw[h,gn]at gl;simp at gl
 obtain⟨ys,ho,Ff⟩:=ho0.cells rfl;rw[aI,bC]at Ff;clear ho0;refine bc (args:=[_,_,_]) (fn:=Tryz.f144) Tryz.func144 rfl (n:=34) Tryz.ntmps144 ?_;have S:Step M w0 M w0 (lN M B):=(ax _ _).cG (fun _ h=>h.elim) (fun _ h=>h.2);refine aj (ae (ah rfl rfl (ab (aj (ae (ad rfl rfl ?_))))));refine aX rfl rfl UH (AR hM hv hr.ps hr.by_ hr.ln hr.rR) (fun r1 w1 hc=>?_);obtain⟨s1,hok,j9⟩:=hc;obtain rfl:=j9 hm;have:=ak gl;replace kU:=(s1.mem _ this).2 kU;replace gl:=s1.aK gl;have:=ak gn;replace mJ:=(s1.mem _ this).2 mJ;replace gn:=s1.aK gn;replace hv:=hv.le s1.le;replace ho:=ho.aM s1;replace hM:=s1.lt hM;have:=S.size;replace S:=S.aB s1;refine ad rfl rfl (bK rfl rfl rfl (bK rfl rfl rfl (ah rfl rfl (ah rfl rfl (ab (aj (ae (aL dX rfl rfl rfl gl rfl (aV (v':=vl) rfl (ad rfl rfl ?_))))))))));refine dQ (A:=RT.cell) (hn:=by decide) (M:=M) dX zK (by decide) rfl rfl hM (PA (v:= .pointer none) rfl) (.inr ⟨rfl,rfl⟩) (fun afw afx mK pZ=>?_);have:=ak gl;replace kU:=(pZ.mem _ this).2 kU;replace gl:=pZ.aK gl;have:=ak gn;replace mJ:=(pZ.mem _ this).2 mJ;replace gn:=pZ.aK gn;replace hv:=hv.le pZ.le;replace ho:=ho.aM pZ;replace hM:=pZ.lt hM;have:=S.size;replace S:=S.aB pZ;refine cX (M:=M) (base:=B) dX zK rfl rfl rfl rfl ho mK (aq _ _) (by simp;omega) (by simp;omega) (by have:=S.size;omega) (fun UJ D3 afy Mq p6=>?_);have:=ak gl;replace kU:=(p6.mem _ this).2 kU;replace gl:=p6.keep gl (fun h=>by first|exact ho.ec gl h|exact ho.eK gl (by decide) h|(have:=(ho.base _ h).1;omega));have:=ak gn;replace mJ:=(p6.mem _ this).2 mJ;replace gn:=p6.keep gn (fun h=>by first|exact ho.ec gn h|exact ho.eK gn (by decide) h|(have:=(ho.base _ h).1;omega))
 replace hv:=hv.le p6.le;replace mK:=mK.le p6.le;replace hM:=p6.lt hM;have:=S.size;replace S:=S.trans p6 (fun k hk h=>⟨(ho.base k h).1,(S.mem k hk).1 (ho.mut_ k h)⟩);replace ho:=Mq;refine cu (M:=D3) D0 rfl rfl gl rfl (by obtain⟨_,_,he,_⟩:=ho.isSlice;rw[he];rfl) kU (fun UK Mt ox=>?_);change UK.heap[_]? =some (Obj.cells #[UJ] _ _)at Mt;have:=ak gl;replace kU:=(ox.mem _ this).2 kU;have:=ak gn;replace mJ:=(ox.mem _ this).2 mJ;replace gn:=ox.keep gn (fun hk=>by have hk:_=_:=hk;omega);replace hv:=hv.le ox.le;replace mK:=mK.le ox.le;replace ho:=ho.step ox (fun c hc (h:c=bl)=>ho.eK gl (by decide) (h▸hc));replace hM:=ox.lt hM;have:=S.size;replace S:=S.trans ox (fun k hk h=>by have h:_=_:=h;subst h;first|(exfalso;omega)|(show _≤_;omega)|exact⟨by first|omega|assumption,(S.mem _ hk).1 ((ox.mem _ (ak gl)).1 kU)⟩|exact .inl rfl|exact .inr rfl|exact .inr (.inl rfl)|exact .inr (.inr rfl)|exact .inr (.inr (.inl rfl))|exact rfl);have Y0:=Mt;clear gl;have gl:=Y0;clear Y0;refine ab (aj ?_);apply uO mixed rfl rfl;intro Xn QM;have qW:=QM D3;have:=ak gl;replace kU:=(qW.mem _ this).2 kU;replace gl:=qW.aK gl;have:=ak gn;replace mJ:=(qW.mem _ this).2 mJ;replace gn:=qW.aK gn;replace hv:=hv.le qW.le;replace mK:=mK.le qW.le;replace ho:=ho.aM qW;replace hM:=qW.lt hM;have:=S.size;replace S:=S.aB qW;refine ad rfl rfl ?_;refine ab ⟨rfl,rfl,rfl,?_⟩;refine fp rfl rfl rfl ?_;refine ab ⟨rfl,rfl,rfl,?_⟩;refine ad rfl rfl ?_;refine ab ⟨rfl,rfl,rfl,?_⟩;refine Rg.Af (g:=18) rfl ((by decide)) (ar rfl rfl rfl rfl ?_);refine ab ⟨rfl,rfl,rfl,?_⟩;refine ar rfl rfl rfl rfl ?_;refine ab ⟨rfl,rfl,rfl,?_⟩;refine ar rfl rfl rfl rfl ?_;refine ab ⟨rfl,rfl,rfl,?_⟩;refine aW rfl rfl rfl ?_;refine ab ⟨rfl,rfl,rfl,?_⟩;refine ad rfl rfl ?_;refine ab ⟨rfl,rfl,rfl,?_⟩;refine ar rfl rfl rfl rfl ?_
 refine ab ⟨rfl,rfl,rfl,?_⟩;refine ar rfl rfl rfl rfl ?_;refine ab ⟨rfl,rfl,rfl,?_⟩;refine ar rfl rfl rfl rfl ?_;refine ab ⟨rfl,rfl,rfl,?_⟩;refine ar rfl rfl rfl rfl ?_;refine ab ⟨rfl,rfl,rfl,?_⟩;refine ar rfl rfl rfl rfl ?_;refine ab ⟨rfl,rfl,rfl,?_⟩;refine ar rfl rfl rfl rfl ?_;refine ab ⟨rfl,rfl,rfl,?_⟩;refine ar rfl rfl rfl rfl ?_;refine ab ⟨rfl,rfl,rfl,?_⟩;refine ar rfl rfl rfl rfl ?_;refine ab ⟨rfl,rfl,rfl,?_⟩;refine ar rfl rfl rfl rfl ?_;refine ab ⟨rfl,rfl,rfl,?_⟩;refine aW rfl rfl rfl ?_;refine ab ⟨rfl,rfl,rfl,?_⟩;refine ah rfl rfl ?_;refine ab ⟨rfl,rfl,rfl,?_⟩;refine ff (aN ?_);have PB:nC n x=true:=by simp[nC,hm]
 rw[PB];exact aU rfl rfl ⟨_,hM,rfl,(fun h=>by cases h),S⟩
theorem Mv {M:aC} {bl bn B i:Nat} {n:Int} {ls:List (List Po)} {x:List Po} {v0:Value} (w0:World) (hM:Lt M w0) (hB:B≤w0.heap.size) (hJ:zY bl bn n ls B i M w0) (hx:ls[i]? =some x) (hv:((RT.po).sl).V M w0 x v0) (hr:Room x) (oN:i≤1000000000):
  Spec Tryz.prog 144 #[v0,.pointer (some ⟨bl,0,none⟩),.pointer (some ⟨bn,0,none⟩)] w0 (fun v w=>∃M',Lt M' w∧v= .bool (nC n x)∧(nC n x=false→zY bl bn n ls B (i+1) M' w)∧Step M w0 M' w (lN M B)):=by
 cases hm:fU (-1) x with
 |true=>exact UI w0 hM hB hJ hx hv hr oN hm
 |false=>exact PC w0 hM hB hJ hx hv hr oN hm
end Go.K
namespace Go.K
open Go.Proofs
namespace TKBldH
theorem Gg:TI Tryz.prog 58 (.slice none 0 0) 1 24:=by unfold TI;kernel_rfl
theorem PD:TI Tryz.prog 72 (.agg #[(.slice none 0 0),(.slice none 0 0),(.slice none 0 0),(.slice none 0 0)]) 4 96:=by unfold TI;kernel_rfl
theorem afA:TI Tryz.prog 141 (.agg #[(.slice none 0 0),(.slice none 0 0),(.pointer none)]) 3 56:=by unfold TI;kernel_rfl
theorem D0:TI Tryz.prog 196 (.slice none 0 0) 1 24:=by unfold TI;kernel_rfl
theorem afB:placesOf Tryz.prog 141=[(0,1),(1,1),(2,1)].map some:=by kernel_rfl
theorem Un:Enters Tryz.prog 51:=enters Tryz.func51 rfl (by decide)
theorem E92:Enters Tryz.prog 92:=enters Tryz.func92 rfl (by decide)
theorem afC:Enters Tryz.prog 143:=enters Tryz.func143 rfl (by decide)
theorem afD:Enters Tryz.prog 144:=enters Tryz.func144 rfl (by decide)
theorem afE:Enters Tryz.prog 146:=enters Tryz.func146 rfl (by decide)
theorem afF:Enters Tryz.prog 147:=enters Tryz.func147 rfl (by decide)
end TKBldH
open TKBldH
set_option maxRecDepth 10000
def zA (p:Pa):Bool:=decide (p.1.length=p.2.1.length)&&ek (-1) p.2.1&&p.2.2.2.all (fun x=> !nC (p.1.length:Int) x)&&decide (p.2.2.1.length=p.2.2.2.length)&&DQ none p.2.2.1
def pO (p:Pa):Se:=(p.1,p.2.1,p.2.2.1,p.2.2.2.map oU)
structure Mw (p:Pa):Prop where
 a:p.1.length≤1000000000
 b:p.2.1.length≤1000000000
 c:p.2.2.1.length≤1000000000
 d:p.2.2.2.length≤1000000000
 e:∀x∈p.2.2.2,Room x
theorem Gh {M:aC} {p:Pa} {v0:Value} (w0:World) (hM:Lt M w0) (hv:RT.pa.V M w0 p v0) (hR:Mw p):
  Spec Tryz.prog 92 #[v0] w0 (fun v w=>Step M w0 M w aD∧(zA p=true→dg RT.se M w v (pO p))∧(zA p=false→v= .pointer none)):=by
 have lC:=hM;obtain⟨hRa,hRb,hRc,hRd,hRe⟩:=hR;refine bc (args:=[_]) (fn:=Tryz.f92) Tryz.func92 rfl (n:=45) Tryz.ntmps92 ?_;have S:Step M w0 M w0 aD:=(ax _ _).cG (fun _ h=>h.elim) (fun _ h=>h.elim);refine aj (ae ?_);refine vU (A:=RT.pa) rfl rfl hM hv rfl (fun u0 w1 dp s0 _=>?_);replace hM:=s0.lt hM;have:=S.size;replace S:=S.aB s0;refine ah rfl rfl (ab (aj (ae ?_)));refine aS (M:=M) (A:=RT.pa) (B:=(RT.int .i64).sl) bU rfl rfl kG (by decide) (pa0) rfl rfl (by decide) (by assumption) (by repeat (first|exact aq _ _|refine aY (bu (by assumption)) ?_)) (fun BB nc=>?_);refine bV (M:=M) ao rfl rfl rfl rfl rfl (by assumption) (by repeat (first|exact aq _ _|refine aY (bu (by assumption)) ?_)) (fun zO nf=>?_);replace nf:((RT.int .i64).sl).V M _ p.1 zO:=nf;refine bJ ao rfl nf rfl ?_;refine ey M I3 rfl (fun xh Im adG adH lr s1_3=>?_);obtain⟨ng,yw⟩:∃M',M'=ins M xh:=⟨_,rfl⟩;rw[←yw]at s1_3;have jU:ng xh:=by rw[yw];exact .inl rfl
 change Im.heap[xh]? =some (.cells #[.int .i64 0] _ _)at lr;replace dp:=dp.le (by decide) s1_3.le;replace hM:=s1_3.lt hM;have:=S.size;replace S:=S.aB s1_3;refine cu (M:=ng) I3 rfl rfl lr rfl (rfl) jU (fun Td Y1 mA=>?_);change Td.heap[_]? =some (Obj.cells #[.int .i64 (p.1.length:Int)] _ _)at Y1;have:=ak lr;replace jU:=(mA.mem _ this).2 jU;replace dp:=dp.le (by decide) mA.le;replace hM:=mA.lt hM;have:=S.size;replace S:=S.trans mA (fun k hk h=>by have h:_=_:=h;subst h;first|(exfalso;omega)|(show _≤_;omega)|exact⟨by first|omega|assumption,(S.mem _ hk).1 ((mA.mem _ (ak lr)).1 jU)⟩|exact .inl rfl|exact .inr rfl|exact .inr (.inl rfl)|exact .inr (.inr rfl)|exact .inr (.inr (.inl rfl))|exact rfl);have Dg:=Y1;clear lr;have lr:=Dg;clear Dg;refine ab (aj (aj (ae ?_)));refine aS (M:=ng) (A:=RT.pa) (B:=(RT.int .i64).sl) bU rfl rfl kG (by decide) (pa1) rfl rfl (by decide) (by assumption) (by repeat (first|exact aq _ _|refine aY (bu (by assumption)) ?_)) (fun apa akr=>?_);refine bV (M:=ng) ao rfl rfl rfl rfl rfl (by assumption) (by repeat (first|exact aq _ _|refine aY (bu (by assumption)) ?_)) (fun afG Mx=>?_);replace Mx:((RT.int .i64).sl).V ng _ p.2.1 afG:=Mx;refine bJ ao rfl Mx rfl (aL aw rfl rfl rfl lr rfl (aV (v':= .int .i64 (p.1.length:Int)) rfl (fp rfl rfl rfl (ad rfl rfl ?_))));refine aO (g:=16) rfl (fun afH=>?_) (fun afH=>?_)
 ·refine ar rfl rfl rfl rfl (ar rfl rfl rfl rfl (ar rfl rfl rfl rfl (ar rfl rfl rfl rfl (aW rfl rfl rfl (ab (lD rfl (aj (ae (ah rfl rfl (ab (aN ?_)))))))))))
  have eb:zA p=false:=by
   unfold zA
   first
   |(rw[decide_eq_false (show¬p.1.length=p.2.1.length by omega)];simp;done)
   |(simp[c2];done)
  exact aU rfl rfl ⟨S.back,fun h=>by(rw[eb]at h;cases h),fun _=>rfl⟩
 ·have Wf:p.1.length=p.2.1.length:=by omega
  refine al rfl rfl ?_;refine aS (M:=ng) (A:=RT.pa) (B:=(RT.int .i64).sl) bU rfl rfl kG (by decide) (pa1) rfl rfl (by decide) (by assumption) (by repeat (first|exact aq _ _|refine aY (bu (by assumption)) ?_)) (fun apb aks=>?_);refine al rfl rfl ?_;refine bV (M:=ng) ao rfl rfl rfl rfl rfl (by assumption) (by repeat (first|exact aq _ _|refine aY (bu (by assumption)) ?_)) (fun afI My=>?_);replace My:((RT.int .i64).sl).V ng _ p.2.1 afI:=My;refine al rfl rfl ?_;refine aX rfl rfl afC (IN _ My) (fun r wc hc=>?_);obtain⟨rfl,rfl⟩:=hc;refine al rfl rfl (mS rfl rfl (aV (v':= .bool (decide (¬ek (-1) p.2.1=true))) (by simp) (aE rfl rfl rfl (ab ?_))));refine bP rfl (fun c2=>?_) (fun c2=>?_)
  ·refine aj (ae (ah rfl rfl (ab (aN ?_))))
   have eb:zA p=false:=by
    unfold zA
    first
    |(rw[decide_eq_false (show¬p.1.length=p.2.1.length by omega)];simp;done)
    |(simp[c2];done)
   exact aU rfl rfl ⟨S.back,fun h=>by(rw[eb]at h;cases h),fun _=>rfl⟩
  ·have er:ek (-1) p.2.1=true:=dI.1 c2;refine aT (aj (ae ?_));refine ey ng D0 rfl (fun MA KL apc apd C2 lH=>?_);obtain⟨Hz,MB⟩:∃M',M'=ins ng MA:=⟨_,rfl⟩;rw[←MB]at lH;have UM:Hz MA:=by rw[MB];exact .inl rfl
   change KL.heap[MA]? =some (.cells #[.slice none 0 0] _ _)at C2;have:=ak lr;replace jU:=(lH.mem _ this).2 jU;replace lr:=lH.aK lr;replace dp:=dp.le (by decide) lH.le;replace hM:=lH.lt hM;have:=S.size;replace S:=S.aB lH;refine ab (aj (ae (ka (xs:=[]) (ys:=[.tmp 4,.tmp 3]) rfl rfl rfl (ah rfl rfl (ab (aj (aj (ae ?_))))))));refine aS (M:=Hz) (A:=RT.pa) (B:=((RT.po).sl).sl) bU rfl rfl Gg (by decide) (pa3) rfl rfl (by decide) (by assumption) (by repeat (first|exact aq _ _|refine aY (bu (by assumption)) ?_)) (fun XP K1=>?_);refine bV (M:=Hz) kE rfl rfl rfl rfl rfl (by assumption) (by repeat (first|exact aq _ _|refine aY (bu (by assumption)) ?_)) (fun TM yx=>?_);replace yx:(((RT.po).sl).sl).V Hz _ p.2.2.2 TM:=yx;refine ad rfl rfl ?_;refine aX rfl rfl afE (zX (cap:=[.pointer (some ⟨MA,0,none⟩),.pointer (some ⟨xh,0,none⟩)]) (B:=w0.heap.size) (J:=zY MA xh (p.1.length:Int) p.2.2.2 w0.heap.size) (bad:=nC (p.1.length:Int)) _ hM yx afD ⟨_,C2,UM,by omega,lr,jU,dE _ _ _ _ _⟩ (fun i M w M' w' h s=>h.aM s) (fun i M w x vx hJ hM hx rB=>Mv w hM (by obtain⟨_,h1,_,h2,_⟩:=hJ;have:=ak h1;omega) hJ hx rB (hRe x (aA hx)) (by have:=(an.1 hx).1;omega))) (fun r6 w6 hc=>?_);obtain⟨M6,k6,rfl,hk6,IP,s6,hk7,hk8⟩:=hc;replace dp:=dp.le (by decide) s6.le;replace S:=S.l6 s6 (aR _);refine ab ?_;refine bP rfl (fun c6=>?_) (fun c6=>?_)
   ·obtain⟨x6,hx6,qG⟩:=hk8 c6
    have eb:zA p=false:=by
     unfold zA;have:p.2.2.2.all (fun x=> !nC (p.1.length:Int) x)=false:=List.all_eq_false.2 ⟨x6,hx6,by simp[qG]⟩;simp[this]
    refine aj (ae (ah rfl rfl (ab (aN ?_))));exact aU rfl rfl ⟨S.back,fun h=>by(rw[eb]at h;cases h),fun _=>rfl⟩
   ·refine aT (aj (ae ?_));obtain⟨qG,⟨vl,gl,_,_,_,_,fF⟩⟩:=hk7 (by omega);rw[br (aR _)]at fF;have kn:(((RT.li).ptr).sl).V M w6 (p.2.2.2.map oU) vl:=fF.close lC S (by simp;omega);replace dp:dg RT.pa M w6 u0 p:=dp.le (by decide) (Le.close lC S);replace S:=S.back;replace hM:=S.lt lC;refine aS (M:=M) (A:=RT.pa) (B:=RT.str.sl) bU rfl rfl zz (by decide) pa2 rfl rfl (by decide) dp (aq _ _) (fun aph akt=>?_);refine bV (M:=M) aQ rfl rfl rfl rfl rfl (by assumption) (by repeat (first|exact aq _ _|refine aY (bu (by assumption)) ?_)) (fun afJ MC=>?_);replace MC:(RT.str.sl).V M _ p.2.2.1 afJ:=MC;refine aL dX rfl rfl rfl gl rfl (aV (v':=vl) rfl ?_);refine aX rfl rfl afF (F9 _ hM MC kn (by omega) (by simp;omega)) (fun r8 w8 hc=>?_);obtain⟨pd,rfl,N9,s8⟩:=hc;replace dp:=dp.le (by decide) s8.le;replace kn:=kn.le s8.le;replace gl:=s8.aK gl;replace hM:=s8.lt hM;have:=S.size;replace S:=S.aB s8;refine ad rfl rfl (bK rfl rfl rfl (bK rfl rfl rfl (ah rfl rfl (ah rfl rfl (ab (aj (aj (ae (ad rfl rfl (fp rfl rfl rfl (ab ?_)))))))))));refine bP rfl (fun c9=>?_) (fun c9=>?_)
    ·have eb:zA p=false:=by
      by_cases h:zA p=true
      ·unfold zA at h;simp only[bT,decide_eq_true_eq]at h;exact absurd (by rw[if_pos ⟨by simp[h.1.2],h.2⟩]) c9
      ·simpa using h
     refine aj (ae (ah rfl rfl (ab (aN ?_))));exact aU rfl rfl ⟨S.back,fun h=>by(rw[eb]at h;cases h),fun _=>rfl⟩
    ·have e9:(p.2.2.1.length=(p.2.2.2.map oU).length∧DQ none p.2.2.1=true):=by
      by_cases h:(p.2.2.1.length=(p.2.2.2.map oU).length∧DQ none p.2.2.1=true)
      ·exact h
      ·exact absurd (by rw[if_neg h];decide) c9
     replace N9:=N9 e9.1 e9.2;refine aT (aj ?_);apply T.J8 [0,1,3,4,6,2,5,7,8,9] 5 [2,3,4] 2 aD mixed
     ·simp+decide only[xT,sH,eS,j5,je,jf,fB,cV,ig,qc,cond_true,cond_false,Nat.reduceBEq,Nat.reduceAdd,beq_self_eq_true];rfl
     ·rfl
     ·rfl
     ·rfl
     ·rfl
     ·rfl
     ·rfl
     intro LY LZ;have jh:=LZ M;replace dp:=dp.le (by decide) jh.le;replace kn:=kn.le jh.le;replace gl:=jh.aK gl;replace hM:=jh.lt hM;have:=S.size;replace S:=S.aB jh;refine aS (M:=M) (A:=RT.pa) (B:=(RT.int .i64).sl) bU rfl rfl kG (by decide) (pa0) rfl rfl (by decide) (by assumption) (by repeat (first|exact aq _ _|refine aY (bu (by assumption)) ?_)) (fun Q2 K4=>?_);refine ab ⟨rfl,rfl,rfl,?_⟩;refine bV (M:=M) ao rfl rfl rfl rfl rfl (by assumption) (by repeat (first|exact aq _ _|refine aY (bu (by assumption)) ?_)) (fun Y2 Gi=>?_);replace Gi:((RT.int .i64).sl).V M _ p.1 Y2:=Gi;refine ab ⟨rfl,rfl,rfl,?_⟩;refine aS (M:=M) (A:=RT.pa) (B:=(RT.int .i64).sl) bU rfl rfl kG (by decide) (pa1) rfl rfl (by decide) (by assumption) (by repeat (first|exact aq _ _|refine aY (bu (by assumption)) ?_)) (fun Y3 fN=>?_);refine ab ⟨rfl,rfl,rfl,?_⟩;refine bV (M:=M) ao rfl rfl rfl rfl rfl (by assumption) (by repeat (first|exact aq _ _|refine aY (bu (by assumption)) ?_)) (fun Y4 pq=>?_);replace pq:((RT.int .i64).sl).V M _ p.2.1 Y4:=pq;refine ab ⟨rfl,rfl,rfl,?_⟩;refine ad rfl rfl ?_;refine ab ⟨rfl,rfl,rfl,?_⟩;refine ff ?_;obtain⟨bb,oo,cs,ee,fr,rfl,lj,_⟩:=fN.float;refine⟨jd ⟨jj bU rfl kG (by decide),⟨eI rfl lj (fun h=>h),⟨gR,trivial⟩⟩⟩,?_⟩;have kp:=kd aD LY;refine aX rfl rfl Un (yJ hM Gi (by omega)) (fun v5 w5 hc=>?_);obtain⟨oF,s5⟩:=hc;replace pq:=pq.le s5.le;replace N9:=(N9.le (by decide) jh.le).le (by decide) s5.le;replace dp:=dp.le (by decide) s5.le;replace kn:=kn.le s5.le;replace gl:=s5.aK gl;replace hM:=s5.lt hM;have:=S.size;replace S:=S.aB s5;refine(fun(kp:eO _ _ _)=>ab ⟨rfl,rfl,fun _=>kp,?_⟩) (by first|exact kp|exact kp.sG (by assumption)|exact kp.goN (by assumption)|exact kp.go (by assumption) (fun _ _ h=>by first|exact h|exact h.elim))
     refine aX rfl rfl Un (yJ hM pq (by omega)) (fun v6 w6' hc=>?_);obtain⟨uM,Rr⟩:=hc;replace dp:=dp.le (by decide) Rr.le;replace kn:=kn.le Rr.le;replace oF:=oF.le Rr.le;replace pq:=pq.le Rr.le;replace N9:=N9.le (by decide) Rr.le;replace gl:=Rr.aK gl;replace hM:=Rr.lt hM;have:=S.size;replace S:=S.aB Rr;refine(fun(kp:eO _ _ _)=>ab ⟨rfl,rfl,fun _=>kp,?_⟩) (by first|exact kp|exact kp.sG (by assumption)|exact kp.goN (by assumption)|exact kp.go (by assumption) (fun _ _ h=>by first|exact h|exact h.elim));refine iW (places:=[(0,1),(1,1),(2,1)]) Tryz.underlying141 afA afB rfl ⟨_,_,rfl,rfl,_,_,rfl,rfl,_,_,rfl,rfl,rfl⟩ (out:=[_,_,_]) ⟨0,[_],rfl,kZ oF,by simp[Value.cells],1,[_],rfl,kZ uM,by simp[Value.cells],2,[_],rfl,vD N9,by simp[Value.cells],rfl⟩ ?_;refine ab ⟨rfl,rfl,fun h=>absurd rfl h,?_⟩;refine vU (A:=RT.se) (a:=pO p) rfl rfl hM (ad5 (x:=pO p) oF uM N9) rfl (fun u8 w8' hu8 PE _=>?_);replace dp:=dp.le (by decide) PE.le;replace kn:=kn.le PE.le;replace oF:=oF.le PE.le;replace pq:=pq.le PE.le;replace N9:=N9.le (by decide) PE.le;replace uM:=uM.le PE.le;replace gl:=PE.aK gl;replace hM:=PE.lt hM;have:=S.size;replace S:=S.aB PE;refine ab ⟨rfl,rfl,fun h=>absurd rfl h,?_⟩;refine ah rfl rfl ?_;refine ab ⟨rfl,rfl,fun h=>absurd rfl h,?_⟩;refine nN (aN ?_)
     have eb:zA p=true:=by
      unfold zA;rw[decide_eq_true Wf,er,e9.2,decide_eq_true (by simpa using e9.1),fC.2 (fun x hx=>by simp[qG x hx])];rfl
     exact aU rfl rfl ⟨S.back,fun _=>hu8,fun h=>by(rw[eb]at h;cases h)⟩
theorem yR {M:aC} {p:Pa} {v0:Value} (w0:World) (hM:Lt M w0) (hv:RT.pa.V M w0 p v0) (hR:Mw p):
  Spec Tryz.prog 43 #[v0] w0 (fun v w=>Step M w0 M w aD∧(zA p=true→∃s,v= .tuple #[s,.int .i64 0]∧dg RT.se M w s (pO p))∧(zA p=false→v= .tuple #[.pointer none,.int .i64 1])):=by
 refine bc (args:=[_]) (fn:=Tryz.f43) Tryz.func43 rfl (n:=10) Tryz.ntmps43 ?_;have S:Step M w0 M w0 aD:=(ax _ _).cG (fun _ h=>h.elim) (fun _ h=>h.elim);refine aj (ae ?_);refine vU (A:=RT.pa) rfl rfl hM hv rfl (fun u0 w1 dp s0 _=>?_);replace hM:=s0.lt hM;have:=S.size;replace S:=S.aB s0;refine ah rfl rfl (ah rfl rfl (ab (aj (ae ?_))));refine de (M:=M) (A:=RT.pa) bU rfl PD (by decide) rfl rfl rfl dp (aq _ _) (fun v1 Ay=>?_);refine aX rfl rfl E92 (Gh _ hM Ay hR) (fun r1 w2 hc=>?_);obtain⟨s2,hok,j9⟩:=hc
 obtain⟨o1,T9⟩:∃o,r1= .pointer o:=by
  cases h:zA p with
  |true=>obtain⟨b,o,_,h1,_⟩:=hok h;exact⟨_,h1⟩
  |false=>exact⟨none,j9 h⟩
 subst T9;replace dp:=dp.le (by decide) s2.le;replace hM:=s2.lt hM;have:=S.size;replace S:=S.aB s2;refine ah rfl rfl (ab (aj (aj (ae (ad rfl rfl (Rg.CN fu rfl rfl rfl (ab ?_)))))));refine bP rfl (fun c2=>?_) (fun c2=>?_)
 ·refine aj (ae (ah rfl rfl (ah rfl rfl (ab (aN ?_)))))
  have eb:zA p=false:=by
   by_cases h:zA p=true
   ·obtain⟨b,o,_,h1,_⟩:=hok h;rw[c2]at h1;cases h1
   ·simpa using h
  exact eU rfl rfl rfl ⟨S.back,fun h=>by(rw[eb]at h;cases h),fun _=>rfl⟩
 ·refine aT (aj (ae (ad rfl rfl (ah rfl rfl (ah rfl rfl (ab (aN ?_)))))))
  have eb:zA p=true:=by
   by_cases h:zA p=true
   ·exact h
   ·have:=j9 (by simpa using h);simp at this;exact absurd this c2
  exact eU rfl rfl rfl ⟨S.back,fun _=>⟨_,rfl,hok eb⟩,fun h=>by(rw[eb]at h;cases h)⟩
end Go.K
namespace Go.K
section
variable {P:Program} {r:Option Nat} {n:Nat} {L:Sl} {ds:List Deferred} {w:World} {K:Kt} {M:aC} {F:List (Nat×aC)}
def um (l:List Oper) (m q d:Nat):Bool:=
 Nat.blt q m&&mY l [q] m ((l[m]?.map cr).getD [])&&kj l (m+1)&&
 ((List.range' m (l.length-m)).all fun j=>match l[j]? with
  |some o=>sF o.op&&(!(asks l o).contains d||(cr o).contains q)
  |none=>true)
theorem wM {l:List Oper} {m q d:Nat} (h:um l m q d=true):q<m∧mY l [q] m ((l[m]?.map cr).getD [])=true∧kj l (m+1)=true∧∀j o,m≤j→l[j]? =some o→sF o.op=true∧(d∈asks l o→q∈cr o):=by
 simp only[um,bT,Nat.blt_eq]at h;obtain⟨⟨⟨h1,h2⟩,h3⟩,h4⟩:=h;refine⟨h1,h2,h3,fun j o hj ho=>?_⟩;have dO:=(an.1 ho).1;have:=fC.1 h4 j (List.mem_range'_1.2 ⟨hj,by omega⟩);rw[ho]at this;simp only[bT,qb,iU,jE]at this;refine⟨this.1,fun hd=>?_⟩;rcases this.2 with h|h
 ·rw[←Bool.not_eq_true,jE]at h;exact absurd hd h
 ·exact h
structure TJ (P:Program) (r:Option Nat) (n:Nat) (l:List Oper) (m q d:Nat) (c:Value) (L:Sl) (K:Kt) (ds:List Deferred) (D:Nat→Prop) (a:Act) (w:World) (p:Nat) (ac:Act) (Lp:Sl) (wq:World):Prop where
 p0:m≤p
 p1:p≤l.length
 dt:∀i,i<l.length→i≠q→(D i↔i<p)
 ag:iO n ac Lp ds
 tr:tq P r n l.toArray aD wq K 0 (l.drop p) Lp ds w
 yes:D q→a=ac
 no: ¬D q→ac=a.put (some d) c∧∀t u,lk (kg l q L) t=some u→a.tmps[t]? =some u
theorem put_comm (a:Act) {d:Nat} {e:Option Nat} (h:e≠some d) (c v:Value):(a.put (some d) c).put e v=(a.put e v).put (some d) c:=by
 cases e with
 |none=>rfl
 |some e=>
  have eN:e≠d:=fun h'=>h (by rw[h'])
  simp only[Act.put];congr 1;apply Array.ext_getElem?;intro i;simp only[dz,Array.size_setIfInBounds];by_cases h1:e=i<;>by_cases h2:d=i<;>simp_all
theorem AT (a:Act) {d t:Nat} (c:Value) (h:t≠d):(a.put (some d) c).tmps[t]? =a.tmps[t]? :=by rw[iv,if_neg (fun e=>h (by injection e with e;exact e.symm))]
theorem TJ.next {l:List Oper} {m q d:Nat} {c:Value} (dj:eB l 0=true) (hok:um l m q d=true) {oq:Oper} (hq:l[q]? =some oq) (Gj:oq.dst=some d) (UN:jL oq.op=true) (PF:oq.guard=none)
  (gT:∀(ρ:Operand→Value) w,(∀x u,ev (kg l q L) x=some u→ρ x=u)→(execOp ρ oq).run P w= .ok (.value c) w)
  {Q:Exit→Act→World→Prop} {D:Nat→Prop} {a:Act} {w:World} {j:Nat} {o:Oper} {rest:List Nat} (ho:l[j]? =some o) (pC: ¬D j) (hp:∀k∈cr o,D k) {p:Nat} {ac:Act} {Lp:Sl} {wq:World} (hi:TJ P r n l m q d c L K ds D a w p ac Lp wq)
  (hk:∀a' w',(∃p ac Lp wq,TJ P r n l m q d c L K ds (fun i=>i=j∨D i) a' w' p ac Lp wq)→wpOpsIn (FW r) 0 P l.toArray Q rest a' w'):wpOpsIn (FW r) 0 P l.toArray Q (j::rest) a w:=by
 obtain⟨hqm,_,xQ,H3⟩:=wM hok;have xc:=(an.1 ho).1;by_cases hjq:j=q
 ·subst hjq;rw[hq]at ho;cases ho;obtain⟨HA,k9⟩:=hi.no pC;refine One.run (by simpa using hq) UN (v:=c) ?_ (hk _ _ ⟨p,ac,Lp,wq,hi.p0,hi.p1,fun i h1 h2=>⟨fun h=>(hi.dt i h1 h2).1 (h.resolve_left h2),fun h=> .inr ((hi.dt i h1 h2).2 h)⟩,hi.ag,hi.tr,fun _=>by rw[HA,Gj],fun h=>absurd (.inl rfl) h⟩);unfold One;rw[if_pos (by simp[Region.wanted,PF])];refine gT a.eval w fun x u hx=> ?_
  cases x with
  |tmp t=>simp only[ev]at hx;simp[Act.eval,k9 t u hx]
  |const v=>simp only[ev]at hx;cases hx;rfl
  |global g=>simp only[ev]at hx;cases hx;rfl
  |func f=>simp only[ev]at hx;cases hx;rfl
 ·have hjp:j=p:=by
   have h1:p≤j:=by
    rcases cJ j p with h|h
    ·exact absurd ((hi.dt j xc hjq).2 h) pC
    ·exact h
   have:=hi.p0;rcases cJ m j with h|h
   ·have h2:=hp _ (kN xQ (j:=j) (by omega) ho);have:=(hi.dt (j-1) (by omega) (by omega)).1 h2;omega
   ·omega
  subst hjp;obtain⟨hto,hta⟩:=H3 j o hi.p0 ho;have Ba:o.dst≠some d:=fun h=>hjq (fM dj ho hq h Gj)
  have Cj:∀t∈asks l o,a.tmps[t]? =ac.tmps[t]? :=fun t ht=>by
   by_cases hD:D q
   ·rw[hi.yes hD]
   ·rw[(hi.no hD).1,AT];rintro rfl;exact hD (hp q (hta ht))
  obtain⟨Ju,Cz⟩:=nU Cj
  have hdf:a.defers=ac.defers:=by
   by_cases hD:D q
   ·rw[hi.yes hD]
   ·rw[(hi.no hD).1,put_defers]
  have we:=hi.tr;rw[dB xc,(an.1 ho).2]at we;have h1:=Rg.run we ac hi.ag;refine CH (by simpa using ho) hto Ju Cz hdf h1 (fun e a w ⟨_,_,_,he,_⟩=>he) (fun v w' ⟨L',qf,hA,_,J1,_,St⟩=>?_) (fun d' w' ⟨L',qf,hA,_,J1,_⟩=>?_)
  ·rw[J1]at hA;refine hk _ _ ⟨j+1,ac.put o.dst v,L',wq,by have:=hi.p0;omega,by omega,fun i h3 h4=>?_,hA,St,fun h=>?_,fun h=>?_⟩
   ·constructor
    ·rintro(h|h)
     ·omega
     ·have:=(hi.dt i h3 h4).1 h;omega
    ·intro h;rcases lE (show i≤j by omega)with h5|h5
     ·exact .inl h5
     ·exact .inr ((hi.dt i h3 h4).2 h5)
   ·rw[hi.yes (h.resolve_left (fun e=>hjq e.symm))]
   ·have hD: ¬D q:=fun h'=>h (.inr h')
    obtain⟨HA,k9⟩:=hi.no hD;refine⟨by rw[HA,put_comm a Ba],fun t u ht=>?_⟩;obtain⟨h3,h4⟩:=jZ (f:=lf l q) ht;rw[iv,if_neg,k9 t u ht];intro e;simp only[lf,fC]at h3;have:=h3 o (aA ho);simp only[e,beq_self_eq_true,Bool.not_true,Bool.false_or,jE]at this;exact hD (hp q this)
  ·have h3:=hA.defers;rw[put_defers,J1]at h3;have h4:=congrArg List.length h3;rw[hi.ag.defers]at h4;simp at h4
theorem ib.UO {l:List Oper} {wd:World} (m q d:Nat) (c:Value) {oq:Oper} (F:List (Nat×aC)) (S:List (cT M)) (Sr:S.length=m) (qh:Nat.blt m l.length=true) (dj:eB l 0=true) (hok:um l m q d=true)
  (hq:l[q]? =some oq) (Gj:oq.dst=some d) (UN:jL oq.op=true) (PF:oq.guard=none) (hS:S[q]? =some (cT.eq c)) (gT:∀(ρ:Operand→Value) w,(∀x u,ev (kg l q L) x=some u→ρ x=u)→(execOp ρ oq).run P w= .ok (.value c) w)
  (oM:∀p∈F,∀b,p.2 b→M b) (hFq:∀p∈F,p.1≠q) (vZ:xN F l S) (sC:bO P r n F wd l S ds L l S 0)
  (kh:∀w',Step M wd M w' (jB (F.map (·.2)))→gz w' (fun acc=>tq P r n l.toArray aD w' K 0 (l.drop m) (acc++kg l l.length L) ds w') l S []):ib P r n l L ds wd K:=by
 intro a0 ha;obtain⟨hqm,J3,xQ,H3⟩:=wM hok;have Y5:m<l.length:=by simpa[Nat.blt_eq]using qh
 have start:∀(D:Nat→Prop) a w,(∀i,i<m→i≠q→D i)→(∀i,m≤i→i<l.length→¬D i)→(∀i o,l[i]? =some o→D i→∀k∈cr o,D k)→Inv F S l wd L ds n (fun i=>D i∧i<l.length) a w→∃p ac Lp wq,TJ P r n l m q d c L K ds D a w p ac Lp wq:=by
  intro D a w l7 j9 lF hi
  obtain⟨ac,HA⟩:∃ac,(D q→a=ac)∧(¬D q→ac=a.put (some d) c):=by
   by_cases hD:D q
   ·exact⟨a,fun _=>rfl,fun h=>absurd hD h⟩
   ·exact⟨_,fun h=>absurd h hD,fun _=>rfl⟩
  have hqn:d<n∨n≤d:=cJ d n
  have jS:n≤ac.tmps.size:=by
   by_cases hD:D q
   ·rw[←HA.1 hD];exact hi.size
   ·rw[HA.2 hD,nS];exact hi.size
  have hdf:ac.defers=ds:=by
   by_cases hD:D q
   ·rw[←HA.1 hD];exact hi.defers
   ·rw[HA.2 hD,put_defers];exact hi.defers
  have MD:∀t,t≠d→ac.tmps[t]? =a.tmps[t]? :=fun t ht=>by
   by_cases hD:D q
   ·rw[←HA.1 hD]
   ·rw[HA.2 hD,AT a c ht]
  have afL:d<a.tmps.size:=by
   have hg:=sC.take.get q oq (by rw[cj,Sr,if_pos hqm];exact hq);by_cases hD:D q
   ·obtain⟨v,h1,_⟩:=hi.done q oq (cT.eq c) d hq hS ⟨hD,by omega⟩ Gj;exact(Array.getElem?_eq_some_iff.1 h1).1
   ·refine Classical.byContradiction fun JO=> ?_
    obtain⟨s,hs,Y6⟩:=hg;rw[fR]at Y6;rw[hS]at hs;cases hs
    have hpq:∀k∈cr oq,D k:=fun k hk=>by
     have:=cM dj q oq hq k hk;exact l7 k (by omega) (by omega)
    have:=Inv.next (r:=r) (P:=P) hi dj vZ oM (rest:=[]) (Q:=fun _ a' _=>n≤a'.tmps.size∧∃v,a'.tmps[d]? =some v) ⟨cT.eq c,hS,Y6⟩ hq (fun h=>hD h.1) (fun k hk=>⟨hpq k hk,by have:=cM dj q oq hq k hk;omega⟩) (fun a' w' im=>by
     obtain⟨v,h1,_⟩:=im.done q oq (cT.eq c) d hq hS (.inl rfl) Gj;exact⟨im.size,v,h1⟩)
    have sy:One P r l.toArray w oq a c:=by
     unfold One;rw[if_pos (by simp[Region.wanted,PF])];refine gT a.eval w fun x u hx=> ?_
     have k9:∀t u,lk (kg l q L) t=some u→a.tmps[t]? =some u:=fun t u ht=>by
      obtain⟨h3,h4⟩:=jZ (f:=lf l q) ht;refine hi.base t u h4 fun i o gB Ck he=> ?_
      simp only[lf,fC]at h3;have:=h3 o (aA gB);simp only[he,beq_self_eq_true,Bool.not_true,Bool.false_or,jE]at this;exact hD (lF i o gB Ck.1 q this)
     cases x with
     |tmp t=>simp only[ev]at hx;simp[Act.eval,k9 t u hx]
     |const v=>simp only[ev]at hx;cases hx;rfl
     |global g=>simp only[ev]at hx;cases hx;rfl
     |func f=>simp only[ev]at hx;cases hx;rfl
    simp only[wpOpsIn,il,hq]at this;rw[if_pos (by simp[Region.wanted,PF])]at this;obtain⟨_,h2⟩:=this;unfold One at sy;rw[if_pos (by simp[Region.wanted,PF])]at sy;rw[Oper.semAt_eq _ _ _ (me UN),sy]at h2;rw[Oper.uponIn_value]at h2;obtain⟨_,v,h3⟩:=h2;rw[Gj]at h3;have:=(Array.getElem?_eq_some_iff.1 h3).1;simp[Act.put]at this;exact JO this
  have afM:∃v,ac.tmps[d]? =some v∧v=c:=by
   by_cases hD:D q
   ·rw[←HA.1 hD];obtain⟨v,h1,h2⟩:=hi.done q oq (cT.eq c) d hq hS ⟨hD,by omega⟩ Gj;exact⟨v,h1,h2⟩
   ·refine⟨c,?_,rfl⟩;rw[HA.2 hD,iv,if_pos rfl];simp[dz,afL]
  have iY:∀{i:Nat} {o:Oper},(l.take m)[i]? =some o→l[i]? =some o∧i<m:=fun {i o} h=>by
   rw[cj]at h
   split at h
   ·exact⟨h,by assumption⟩
   ·cases h
  have kC:Step M wd M w (jB (F.map (·.2))):=hi.step.cG (fun b ⟨p,hp,hD,hb⟩=>fE.2 ⟨p.2,ca.2 ⟨p,hp,rfl⟩,hb⟩) (fun b hb=>by
   obtain⟨N,hN,HX⟩:=fE.1 hb;obtain⟨p,hp,rfl⟩:=ca.1 hN;exact oM p hp b HX)
  have hE:=(kh w kC).take;rw[Sr]at hE
  obtain⟨acc,h1,h2⟩:=gz.use (a:=ac) (l.take m) S [] (fun i o s h1 h2 h3=>by
    obtain⟨h4,h5⟩:=iY h1;by_cases Rs:i=q
    ·subst Rs;rw[hq]at h4;cases h4;rw[Gj]at h3;cases h3
    ·exact hi.fin i o s h4 h2 ⟨l7 i h5 Rs,by omega⟩ h3)
   (fun i o s e h1 h2 h3=>by
    obtain⟨h4,h5⟩:=iY h1;by_cases Rs:i=q
    ·subst Rs;rw[hq]at h4;cases h4;rw[Gj]at h3;cases h3;rw[hS]at h2;cases h2;exact afM
    ·obtain⟨v,h6,h7⟩:=hi.done i o s e h4 h2 ⟨l7 i h5 Rs,by omega⟩ h3;exact⟨v,by rw[MD e (fun he=>Rs (fM dj h4 hq h3 (by rw[Gj,he])))];exact h6,h7⟩)
   (fun t v h=>by simp[lk]at h) hE
  refine⟨m,ac,_,w,aR _,by omega,fun i h3 h4=>⟨fun h=>?_,fun h=>l7 i h h4⟩,⟨jS,hdf,fun t v h=>?_⟩,h1,HA.1,fun hD=>⟨HA.2 hD,fun t u ht=>?_⟩⟩
  ·rcases cJ i m with h5|h5
   ·exact h5
   ·exact absurd h (j9 i h5 h3)
  ·rcases lY h with h|h
   ·exact h2 t v h
   ·obtain⟨h3,h4⟩:=jZ (f:=lf l l.length) h
    have eN:∀(i:Nat) (o:Oper),l[i]? =some o→o.dst≠some t:=fun i o gB he=>by
     simp only[lf,fC]at h3;have:=h3 o (aA gB);simp only[he,beq_self_eq_true,Bool.not_true,Bool.false_or,jE]at this;have h7:=cM dj i o gB _ this;have h8:=(an.1 gB).1;omega
    rw[MD t (fun e=>eN q oq hq (by rw[Gj,e]))];exact hi.base t v h4 fun i o gB _=>eN i o gB
  ·obtain⟨h3,h4⟩:=jZ (f:=lf l q) ht;refine hi.base t u h4 fun i o gB Ck he=> ?_
   simp only[lf,fC]at h3;have:=h3 o (aA gB);simp only[he,beq_self_eq_true,Bool.not_true,Bool.false_or,jE]at this;exact hD (lF i o gB Ck.1 q this)
 refine⟨fun D a w=>((∀i,m≤i→i<l.length→¬D i)∧Inv F S l wd L ds n (fun i=>D i∧i<l.length) a w)∨∃p ac Lp wq,TJ P r n l m q d c L K ds D a w p ac Lp wq,fun D D' a w hJ hD=>?_,fun Q D a w j o rest hj ho pC hp lF hJ hk=>?_,fun a w hJ=>?_,.inl ⟨fun i _ _ h=>h,?_⟩⟩
 ·rcases hJ with⟨h1,h2⟩|⟨p,ac,Lp,wq,h⟩
  ·refine .inl ⟨fun i h3 h4 h5=>h1 i h3 h4 ((hD i h4).1 h5),?_⟩;have:(fun i=>D' i∧i<l.length)=fun i=>D i∧i<l.length:=funext fun i=>propext ⟨fun⟨h3,h4⟩=>⟨(hD i h4).1 h3,h4⟩,fun⟨h3,h4⟩=>⟨(hD i h4).2 h3,h4⟩⟩
   rw[this];exact h2
  ·exact .inr ⟨p,ac,Lp,wq,h.p0,h.p1,fun i h3 h4=>(hD i h3).trans (h.dt i h3 h4),h.ag,h.tr,fun h3=>h.yes ((hD q (by omega)).1 h3),fun h3=>h.no fun h4=>h3 ((hD q (by omega)).2 h4)⟩
 ·rcases hJ with⟨h1,h2⟩|⟨p,ac,Lp,wq,h⟩
  ·rcases cJ j m with Cl|Cl
   ·have hg:=sC.take.get j o (by rw[cj,Sr,if_pos Cl];exact ho);rw[fR]at hg;refine h2.next dj vZ oM hg ho (fun h=>pC h.1) (fun k ry=>⟨hp k ry,by have:=cM dj j o ho k ry;omega⟩) fun a' w' im=>hk a' w' (.inl ⟨fun i h3 h4 h5=>?_,?_⟩)
    ·rcases h5 with h5|h5
     ·omega
     ·exact h1 i h3 h4 h5
    ·have:(fun i=>(i=j∨D i)∧i<l.length)=fun i=>i=j∨D i∧i<l.length:=funext fun i=>propext ⟨fun⟨h3,h4⟩=>h3.elim .inl fun h=> .inr ⟨h,h4⟩,fun h=>h.elim (fun h=>⟨.inl h,by omega⟩) fun h=>⟨.inr h.1,h.2⟩⟩
     rw[this];exact im
   ·have afN:j=m:=by
     rcases cJ m j with h|h
     ·have:=hp _ (kN xQ (j:=j) (by omega) ho);exact absurd this (h1 (j-1) (by omega) (by omega))
     ·omega
    subst afN;rw[ho]at J3;obtain⟨p,ac,Lp,wq,h⟩:=start D a w (fun i hi Rs=>mZ (D:=D) lF j (cr o) J3 hp i hi (by simpa using Rs)) h1 lF h2;exact h.next dj hok hq Gj UN PF gT ho pC hp fun a' w' h'=>hk a' w' (.inr h')
  ·exact h.next dj hok hq Gj UN PF gT ho pC hp fun a' w' h'=>hk a' w' (.inr h')
 ·rcases hJ with⟨h1,_⟩|⟨p,ac,Lp,wq,h⟩
  ·exact absurd Y5 (h1 m (aR _) Y5)
  ·have tu:p=l.length:=by
    rcases cJ p l.length with h3|h3
    ·have h4:=(h.dt p h3 (by have:=h.p0;omega)).1 h3;omega
    ·have:=h.p1;omega
   have we:=h.tr;rw[tu,List.drop_length]at we;exact⟨Lp,ds,by rw[h.yes (by show q<l.length;omega)];exact h.ag,we⟩
 ·refine⟨(ax M wd).cG (fun _ h=>h.elim) (fun b ⟨p,hp,_,hb⟩=>oM p hp b hb),fun i o s _ _ h=>h.1.elim,ha.size,ha.defers,fun i o s e _ _ h=>h.1.elim,fun t v h _=>ha.at_ t v h,fun i o _ h=>h.1.elim⟩
theorem T.Rt {id:Nat} {l l':List Oper} (π:List Nat) (m q d:Nat) (c:Value) {oq:Oper} (F:List (Nat×aC)) (S:List (cT M)) (hm:P.follows .mixedOrders=true) (Fc:xT π l=l') (rO:eB l 0=true) (hπ:lG π l.length=true) (Sr:S.length=m) (qh:Nat.blt m l'.length=true) (dj:eB l' 0=true) (hok:um l' m q d=true)
  (hq:l'[q]? =some oq) (Gj:oq.dst=some d) (UN:jL oq.op=true) (PF:oq.guard=none) (hS:S[q]? =some (cT.eq c)) (gT:∀(ρ:Operand→Value) w,(∀x u,ev (kg l' q L) x=some u→ρ x=u)→(execOp ρ oq).run P w= .ok (.value c) w)
  (oM:∀p∈F,∀b,p.2 b→M b) (hFq:∀p∈F,p.1≠q) (vZ:xN F l' S)
  (h:∀wD,(∀M,Step M w M wD aD)→bO P r n F wD l' S ds L l' S 0∧∀w',Step M wD M w' (jB (F.map (·.2)))→gz w' (fun acc=>tq P r n l'.toArray aD w' K 0 (l'.drop m) (acc++kg l' l'.length L) ds w') l' S []):T P r n (.region id l.toArray true) L ds w K:=by
 subst Fc;exact ib.t hm rO fun wD hD=> .perm π hπ rO (.UO m q d c F S Sr qh dj hok hq Gj UN PF hS gT oM hFq vZ (h wD hD).1 (h wD hD).2)
theorem yS {s:TypeId} {fs:Array Field} {fd:Field} {j size o o' b:Nat} {zv:Value} {bytes:Nat} {x:Operand} {dst:Option Tmp} {ty:TypeId} {pos:String} {af:Array Edge} {gd:Option (Nat×Bool)} (hu:P.underlying s=some (.struct fs)) (Qr:fs[j]? =some fd) (ho:o+fd.offset=o') (hi:TI P fd.type zv size bytes) (hs:size≠0)
  {ρ:Operand→Value} (hx:ρ x= .pointer (some ⟨b,o,none⟩)) (w:World):(execOp ρ {dst,op:= .fieldAddr s x j,type:=ty,pos,after:=af,guard:=gd}).run P w= .ok (.value (.pointer (some ⟨b,o',none⟩))) w:=by
 simp only[execOp,hx];simp[Instr.fieldAt,run_underlying hu,Qr,Instr.sureAddr,fieldPlace,hi.sizeOf,hs,←ho,wW]
end
end Go.K
namespace Go.K
open Go.Proofs
set_option maxRecDepth 10000
def ni:Int→List En→Int
 |last,[]=>last
 |_,e::L=>ni e.2 L
def tv:Int→List En→Bool
 |_,[]=>true
 |last,e::L=>decide (mV last e=0)&&tv e.2 L
theorem ME:∀{L:List En} {last:Int} {i:Nat} {e:En},tv last L=true→L[i]? =some e→mV (ni last (L.take i)) e=0∧ni last (L.take (i+1))=e.2
 |[],_,_,_,_,h=>by simp at h
 |x::L,last,0,e,h,hi=>by
  simp only[tv,bT,decide_eq_true_eq]at h;simp at hi;subst hi;exact⟨by simpa[ni]using h.1,by simp[ni]⟩
 |x::L,last,i+1,e,h,hi=>by
  simp only[tv,bT,decide_eq_true_eq]at h;have:=ME h.2 (by simpa using hi);simpa[ni]using this
theorem vE {last:Int} {e:En} (h:mV last e=0):kT e.1∧last<e.2:=by
 unfold mV at h
 split at h
 ·rename_i h1;exact absurd h h1
 ·rename_i h1
  split at h
  ·cases h
  ·exact⟨Hq (by simpa using h1),by omega⟩
theorem kr:∀{L:List En} {last:Int},tv last L=true→∀e∈L,kT e.1
 |[],_,_,e,h=>by cases h
 |x::L,last,h,e,he=>by
  simp only[tv,bT,decide_eq_true_eq]at h;rcases bX.1 he with rfl|he
  ·exact(vE h.1).1
  ·exact kr h.2 e he
theorem AU:∀{L:List En} {last:Int},tv last L=true→ek last (L.map (·.2))=true
 |[],_,_=>rfl
 |x::L,last,h=>by
  simp only[tv,bT,decide_eq_true_eq]at h;simp only[eS,ek,bT,decide_eq_true_eq];exact⟨(vE h.1).2,AU h.2⟩
def fg (L:List En):Pa:=(L.map (·.1.1),L.map (·.2),keysOf L,(keysOf L).map (pk L))
theorem IV {x:List Po} (h:x≠[]):∃p∈x,D1 x=p.1:=by
 unfold D1
 cases hl:x.getLast? with
 |none=>exact absurd (List.getLast?_eq_none_iff.1 hl) h
 |some p=>exact⟨p,List.mem_of_getLast? hl,rfl⟩
theorem MF {L:List En} (h:tv (-1) L=true) (hn:L.length≤1000000):zA (fg L)=true:=by
 have hF:=kr h;have h1:(keysOf L).map (pk L)=(fg L).2.2.2:=rfl;unfold zA;have e1:decide ((fg L).1.length=(fg L).2.1.length)=true:=by simp[fg]
 have e2:ek (-1) (fg L).2.1=true:=AU h;have e3:decide ((fg L).2.2.1.length=(fg L).2.2.2.length)=true:=by simp[fg]
 have e4:DQ none (fg L).2.2.1=true:=Uq (k4 L)
 have e5:(fg L).2.2.2.all (fun x=> !nC ((fg L).1.length:Int) x)=true:=by
  refine fC.2 fun x hx=> ?_
  rw[←h1]at hx;obtain⟨k,hk,rfl⟩:=ca.1 hx;have eN:pk L k≠[]:=FY 0 (jt.1 hk)
  have afO:(pk L k).isEmpty=false:=by
   cases h:pk L k with
   |nil=>exact absurd h eN
   |cons a b=>rfl
  have mW:fU (-1) (pk L k)=true:=uj k L 0 (-1) hF (by omega) (by omega);obtain⟨p,hp,hl⟩:=IV eN;have:=(qF k L 0 hF).2 p hp;have hlen:((fg L).1.length:Int)=L.length:=by simp[fg]
  simp only[nC,mW,afO,hlen,hl];rw[decide_eq_false (by omega)];rfl
 rw[e1,e2,e3,e4,e5];rfl
theorem PG {L:List En} (hF:∀e∈L,kT e.1) (hn:L.length≤1000000) (k:List UInt8):Room (pk L k):=by
 have h1:=qF k L 0 hF;have mW:fU (-1) (pk L k)=true:=uj k L 0 (-1) hF (by omega) (by omega);have kf:∀p∈pk L k,p.2.length≤500:=fun p hp=>(h1.2 p hp).2.2
 obtain⟨h2,h3⟩:=vC (pk L k) (-1) 500 (by omega) mW kf (by omega);have hl:(pk L k).length≤L.length:=h1.1;exact⟨fun p hp=>by have:=kf p hp;omega,by omega,by omega,by omega⟩
theorem HB {L:List En} (hF:∀e∈L,kT e.1) (hn:L.length≤1000000):Mw (fg L):=by
 have hk:(keysOf L).length≤500000000:=by
  have h1:=(k4 L).nodup.length_le_of_subset (l₂:=iE L) (fun x hx=>jt.1 hx);have:=ot hF;omega
 refine⟨by simp[fg];omega,by simp[fg];omega,by simp only[fg];omega,by simp[fg];omega,fun x hx=>?_⟩;obtain⟨k,_,rfl⟩:=ca.1 hx;exact PG hF hn k
theorem UP {M:aC} {w:World} {e:En} {v:Value} (h:RT.en.V M w e v):(-9223372036854775808≤e.1.1∧e.1.1≤9223372036854775807)∧ -9223372036854775808≤e.2∧e.2≤9223372036854775807:=by
 obtain⟨vs,⟨va,vb,_,⟨vc,vd,_,⟨_,h1⟩,_⟩,⟨_,h2⟩⟩,_⟩:=h;exact⟨h1,h2⟩
def ZP (B b:Nat) (vi vs:Value):aC:=fun k=>B≤k∧k≠b∧vi.ownBlock≠some k∧vs.ownBlock≠some k
theorem Own.Ru {κ:IntKind} {e:TypeId} {M M' N:aC} {w w':World} {base:Nat} {v:Value} {xs:List Int} (h:Own (RT.int κ) e (mU v) w base v xs) (s:Step M w M' w' N) (hn:∀c,v.ownBlock=some c→¬N c):Own (RT.int κ) e (mU v) w' base v xs:=
 ((h.OI (M':=allM) (fun _ _=>trivial)).WZ s.all hn).lone
theorem Step.Y7 {M M' N:aC} {w w':World} (s:Step M w M' w' N) {v:Value} (hv:∀b,v.ownBlock=some b→b<w'.heap.size∧(w.heap.size≤b∨M' b)):Step M w (jA M' v) w' N:=
 ⟨fun h k hk=>hk.elim (fun h1=>(hv k h1).1) (fun h1=>s.lt h k h1),s.os,s.tape,s.output,s.size,fun k hk=>⟨fun h=>by
  rcases h with h|h
  ·rcases(hv k h).2 with h1|h1
   ·omega
   ·exact(s.mem k hk).1 h1
  ·exact(s.mem k hk).1 h,fun h=> .inr ((s.mem k hk).2 h)⟩,s.same,s.sub⟩
end Go.K
namespace Go.K
open Go.Proofs
namespace TKSegA
theorem Y8:Enters Tryz.prog 104:=enters Tryz.func104 rfl (by decide)
theorem UQ:Enters Tryz.prog 116:=enters Tryz.func116 rfl (by decide)
end TKSegA
open TKSegA
set_option maxRecDepth 10000
def IW (xs:List Int) (i:Int):Int:=if 0≤i∧i<xs.length then xs.getD i.toNat 0 else-1
theorem MG {xs:List Int} {i:Nat} {x:Int} (h:xs[i]? =some x):IW xs i=x:=by
 have:=(an.1 h).1;unfold IW;rw[if_pos (by omega),ay,az,h];rfl
theorem HC {M:aC} {xs:List Int} {v0:Value} {i:Int} (w0:World) (hv:((RT.int .i64).sl).V M w0 xs v0):
  Spec Tryz.prog 104 #[v0,.int .i64 i] w0 (fun v w=>v= .int .i64 (IW xs i)∧w=w0):=by
 have hlen:=ep hv;refine bc (args:=[_,_]) (fn:=Tryz.f104) Tryz.func104 rfl (n:=17) Tryz.ntmps104 (aj (ae (ah rfl rfl (ab (aj (aj (ae (ad rfl rfl (cf rfl rfl rfl (ad rfl rfl ?_))))))))));refine aO (g:=7) rfl (fun iJ=>?_) (fun iJ=>?_)
 ·refine ar rfl rfl rfl rfl (ar rfl rfl rfl rfl (ar rfl rfl rfl rfl (ar rfl rfl rfl rfl (aW rfl rfl rfl (ab (lD rfl (aj (ae (ah rfl rfl (ab (aN ?_)))))))))));have e:IW xs i= -1:=by unfold IW;rw[if_neg (by omega)]
  exact aU rfl rfl ⟨by rw[e],rfl⟩
 ·refine al rfl rfl (ad rfl rfl (al rfl rfl (ad rfl rfl (al rfl rfl (bJ ao rfl hv rfl (al rfl rfl (dT rfl rfl rfl (aE rfl rfl rfl (ab ?_)))))))));refine bP rfl (fun c1=>?_) (fun c1=>?_)
  ·refine aj (ae (ah rfl rfl (ab (aN ?_))));have e:IW xs i= -1:=by unfold IW;rw[if_neg (by omega)]
   exact aU rfl rfl ⟨by rw[e],rfl⟩
  ·refine aT (aj (ae (ad rfl rfl (ad rfl rfl ?_))));refine cF (M:=M) ao I3 rfl rfl rfl hv (aq _ _) (by omega) (fun u x hg hu=>?_);refine cd (M:=M) aw rfl rfl hu (aq _ _) (fun kq=>?_);refine ah rfl rfl (ab (aN ?_));have e:IW xs i=x:=by unfold IW;rw[if_pos (by omega),az,hg];rfl
   exact aU rfl rfl ⟨by rw[e],rfl⟩
theorem AV {M:aC} {s:Se} {v0:Value} (w0:World) (hs:dg RT.se M w0 v0 s):
  Spec Tryz.prog 34 #[v0] w0 (fun v w=>v= .int .i64 (s.1.length:Int)∧w=w0):=by
 refine bc (args:=[_]) (fn:=Tryz.f34) Tryz.func34 rfl (n:=8) Tryz.ntmps34 (aj (ae (ah rfl rfl (ab (aj (ae (ad rfl rfl (bS rfl hs.iC rfl ?_))))))));refine aS (M:=M) (A:=RT.se) (B:=(RT.int .i64).sl) Tryz.underlying141 rfl rfl kG (by decide) se0 rfl rfl (by decide) hs (aq _ _) (fun F0 oh=>?_);refine bV (M:=M) ao rfl rfl rfl rfl rfl oh (aq _ _) (fun MH qH=>?_);replace qH:((RT.int .i64).sl).V M _ s.1 MH:=qH;refine bJ ao rfl qH rfl (ah rfl rfl (ab (aN ?_)));exact aU rfl rfl ⟨rfl,rfl⟩
theorem MI {M:aC} {s:Se} {i:Int} {v0:Value} (w0:World) (hs:dg RT.se M w0 v0 s):
  Spec Tryz.prog 60 #[v0,.int .i64 i] w0 (fun v w=>v= .int .i64 (IW s.1 i)∧w=w0):=by
 refine bc (args:=[_,_]) (fn:=Tryz.f60) Tryz.func60 rfl (n:=11) Tryz.ntmps60 (aj (ae (ah rfl rfl (ab (aj (ae (ad rfl rfl (bS rfl hs.iC rfl ?_))))))));refine aS (M:=M) (A:=RT.se) (B:=(RT.int .i64).sl) Tryz.underlying141 rfl rfl kG (by decide) se0 rfl rfl (by decide) hs (aq _ _) (fun F0 oh=>?_);refine bV (M:=M) ao rfl rfl rfl rfl rfl oh (aq _ _) (fun MH qH=>?_);replace qH:((RT.int .i64).sl).V M _ s.1 MH:=qH;refine ad rfl rfl ?_;refine aX rfl rfl Y8 (HC _ qH) (fun r wc hc=>?_);obtain⟨rfl,rfl⟩:=hc;refine ah rfl rfl (ab (aN ?_));exact aU rfl rfl ⟨rfl,rfl⟩
theorem AW {M:aC} {s:Se} {i:Int} {v0:Value} (w0:World) (hs:dg RT.se M w0 v0 s):
  Spec Tryz.prog 58 #[v0,.int .i64 i] w0 (fun v w=>v= .int .i64 (IW s.2.1 i)∧w=w0):=by
 refine bc (args:=[_,_]) (fn:=Tryz.f58) Tryz.func58 rfl (n:=11) Tryz.ntmps58 (aj (ae (ah rfl rfl (ab (aj (ae (ad rfl rfl (bS rfl hs.iC rfl ?_))))))));refine aS (M:=M) (A:=RT.se) (B:=(RT.int .i64).sl) Tryz.underlying141 rfl rfl kG (by decide) se1 rfl rfl (by decide) hs (aq _ _) (fun F0 oh=>?_);refine bV (M:=M) ao rfl rfl rfl rfl rfl oh (aq _ _) (fun MH qH=>?_);replace qH:((RT.int .i64).sl).V M _ s.2.1 MH:=qH;refine ad rfl rfl ?_;refine aX rfl rfl Y8 (HC _ qH) (fun r wc hc=>?_);obtain⟨rfl,rfl⟩:=hc;refine ah rfl rfl (ab (aN ?_));exact aU rfl rfl ⟨rfl,rfl⟩
theorem yT {α:Type} {p:α→Bool}:∀{xs:List α} {i:Nat},i≤xs.length→(∀(k:Nat) x,k<i→xs[k]? =some x→p x=true)→(∀(k:Nat) x,i≤k→xs[k]? =some x→p x=false)→xs.countP p=i
 |[],i,hi,_,_=>by simp at hi;simp[hi]
 |x::xs,0,_,_,h2=>by
  rw[List.countP_eq_zero.2];intro a ha;obtain⟨k,hk⟩:=bm.1 ha;simp[h2 k a (bG _) hk]
 |x::xs,i+1,hi,h1,h2=>by
  rw[List.countP_cons_of_pos (h1 0 x (by omega) rfl),yT (by simpa using hi) (fun k y hk hy=>h1 (k+1) y (by omega) (by simpa using hy)) (fun k y hk hy=>h2 (k+1) y (by omega) (by simpa using hy))]
end Go.K
namespace Go.K
open Go.Proofs
namespace TKSegB
theorem D0:TI Tryz.prog 196 (.slice none 0 0) 1 24:=by unfold TI;kernel_rfl
theorem afP:Enters Tryz.prog 125:=enters Tryz.func125 rfl (by decide)
theorem afQ:Enters Tryz.prog 181:=enters Tryz.func181 rfl (by decide)
theorem afR:Enters Tryz.prog 182:=enters Tryz.func182 rfl (by decide)
end TKSegB
open TKSegB
set_option maxRecDepth 10000
def JG (ns:List (List UInt8)) (k:List UInt8):Nat:=ns.countP fun x=>decide (x<k)
theorem Y9 {ns:List (List UInt8)} (h:Dz ns) {i j:Nat} {x y:List UInt8} (ji:i≤j) (hx:ns[i]? =some x) (hy:ns[j]? =some y): ¬y<x:=by
 rcases lE ji with rfl|h1
 ·rw[hx]at hy;cases hy;exact jb x
 ·exact iR (iz h hx hy h1)
theorem BR {ns:List (List UInt8)} (h:Dz ns) {k:List UInt8}:(k∈ns→ns[JG ns k]? =some k)∧∀x,ns[JG ns k]? =some x→¬x<k:=by
 have key:∀{ns:List (List UInt8)},Dz ns→(k∈ns→ns[JG ns k]? =some k)∧∀x,ns[JG ns k]? =some x→¬x<k:=by
  intro ns
  induction ns with
  |nil=>exact fun _=>⟨(fun h=>by cases h),fun x h=>by simp at h⟩
  |cons y ns ih=>
   intro h;have h':=ei.1 h;by_cases hy:y<k
   ·have e:JG (y::ns) k=JG ns k+1:=by unfold JG;rw[List.countP_cons_of_pos (by simpa using hy)]
    rw[e];simp only[kL];refine⟨fun hk=>(ih h'.2).1 ?_,(ih h'.2).2⟩;rcases bX.1 hk with rfl|hk
    ·exact absurd hy (jb _)
    ·exact hk
   ·have l7:∀x∈ns,¬x<k:=fun x hx dO=>hy (l1 (h'.1 x hx) dO)
    have e:JG (y::ns) k=0:=by
     unfold JG;rw[List.countP_eq_zero];intro a ha;rcases bX.1 ha with rfl|ha
     ·simpa using hy
     ·simpa using l7 a ha
    rw[e];refine⟨fun hk=>?_,fun x hx=>by simp at hx;subst hx;exact hy⟩;rcases bX.1 hk with rfl|hk
    ·rfl
    ·exact absurd (h'.1 k hk) hy
 exact key h
def geN (ns:List (List UInt8)) (k:List UInt8) (i:Nat):Bool:=match ns[i]? with|some x=> !decide (x<k)|none=>true
theorem yU {ns:List (List UInt8)} {k x:List UInt8} {i:Nat} (h:ns[i]? =some x):geN ns k i= !decide (x<k):=by unfold geN;rw[h]
theorem MJ {ns:List (List UInt8)} (h:Dz ns) {k:List UInt8}:ns[JG ns k]? =some k↔k∈ns:=⟨fun h=>aA h,(BR h).1⟩
theorem Gk {M:aC} {n:Nat} {g:FuncId} {cap:List Value} {good:Nat→Bool} (w0:World) (hg:Enters Tryz.prog g) (Rv:∀i j,i≤j→j<n→good i=true→good j=true) (hn:n≤4611686018427387904) (ht:∀(i:Nat) w,i<n→Step M w0 M w aD→Spec Tryz.prog g ([.int .i64 (i:Int)]++cap:List Value).toArray w (fun v w'=>v= .bool (good i)∧Step M w M w' aD)):
  Spec Tryz.prog 181 #[.int .i64 (n:Int),.func (.func g) #[] cap.toArray] w0 (fun v w=>∃m:Nat,v= .int .i64 (m:Int)∧m≤n∧(∀i,i<m→good i=false)∧(∀i,m≤i→i<n→good i=true)∧Step M w0 M w aD):=by
 refine bc (args:=[_,_]) (fn:=Tryz.f181) Tryz.func181 rfl (n:=23) Tryz.ntmps181 (aj (ae (ah rfl rfl (ab (aj (ae (ah rfl rfl (ab (aj (aZ ?_))))))))));refine dn (σ:=Nat×Nat) (fun q=>[(0,.int .i64 (q.2:Int)),(1,.func (.func g) #[] cap.toArray),(5,.int .i64 (q.1:Int))]) (fun q w=>Step M w0 M w aD∧q.1≤q.2∧q.2≤n∧(∀i,i<q.1→good i=false)∧(∀i,q.2≤i→i<n→good i=true)) (fun q=>q.2-q.1) (0,n) (.cons rfl (.cons rfl (.cons rfl .nil))) ?_ ?_
 ·exact⟨ax _ _,bG _,aR _,fun i h=>absurd h (Nat.not_lt_zero _),fun i h h'=>by omega⟩
 ·rintro⟨i,j⟩ w ⟨S,ji,hj,h1,h2⟩;dsimp only at ji hj h1 h2 ⊢;refine aj (aj (ae (ad rfl rfl (ad rfl rfl (cf rfl rfl rfl (ab ?_))))));refine bP rfl (fun c2=>?_) (fun c2=>?_)
  ·refine aT (aZ (aj (ae (ad rfl rfl (ad rfl rfl (ad rfl rfl (fq rfl rfl rfl (by omega) (Rg.zE rfl rfl rfl (by omega) (bD rfl rfl rfl (by omega) (aV (v':= .int .i64 ((i+(j-i)/2:Nat):Int)) (congrArg _ (by omega)) (ah rfl rfl ?_)))))))))));refine ab (aj (ae (ad rfl rfl (ad rfl rfl ?_))));refine zC (first:=[]) (captured:=cap) (xs:=[.tmp 17]) rfl rfl rfl hg (vs:=[.int .i64 ((i+(j-i)/2:Nat):Int)]) (ht (i+(j-i)/2) _ (by omega) S) (fun r4 w4 hc=>?_);obtain⟨rfl,s4⟩:=hc;refine aV (v':= .bool (decide (good (i+(j-i)/2)=true))) (by simp) ?_;replace S:=S.aB s4;refine ab ?_;refine bP rfl (fun c4=>?_) (fun c4=>?_)
   ·refine ae (ad rfl rfl (ah rfl rfl (ab ?_)));refine⟨rfl,(i,i+(j-i)/2),(.cons rfl (.cons rfl (.cons rfl .nil))),?_,?_⟩
    ·exact⟨S,by dsimp only;omega,by dsimp only;omega,h1,fun k hk F7=>Rv _ _ hk F7 c4⟩
    ·dsimp only;omega
   ·refine ae (ad rfl rfl (bD rfl rfl rfl (by omega) (ah rfl rfl (ab ?_))));refine⟨rfl,(i+(j-i)/2+1,j),(.cons rfl (.cons rfl (.cons rfl .nil))),?_,?_⟩
    ·exact⟨S,by dsimp only;omega,hj,fun k hk=>by
      cases h:good k with
      |false=>rfl
      |true=>exact absurd (Rv k (i+(j-i)/2) (by dsimp only at hk;omega) (by omega) h) c4,h2⟩
    ·dsimp only;omega
  ·refine cL (aj (ae (ad rfl rfl (ah rfl rfl (ab (aN ?_))))));have e:i=j:=by omega
   subst e;exact aU rfl rfl ⟨i,rfl,hj,h1,h2,S⟩
theorem D4 {M:aC} {d:Di} {v0:Value} {i bd bk:Nat} {k x:List UInt8} (w0:World) (hd:dg RT.di M w0 v0 d) (gd:w0.heap[bd]? =some (.cells #[v0] 139 (0,0))) (gk:w0.heap[bk]? =some (.cells #[sv k] 9 (0,0))) (hx:d.1[i]? =some x):
  Spec Tryz.prog 182 #[.int .i64 (i:Int),.pointer (some ⟨bd,0,none⟩),.pointer (some ⟨bk,0,none⟩)] w0 (fun v w=>v= .bool (!decide (x<k))∧Step M w0 M w aD):=by
 have hM:True:=trivial;refine bc (args:=[_,_,_]) (fn:=Tryz.f182) Tryz.func182 rfl (n:=14) Tryz.ntmps182 (aj (ae (ah rfl rfl (ab (aj ?_)))));apply uO mixed rfl rfl;intro KG KH;have mQ:=KH M;replace gd:=mQ.aK gd;replace gk:=mQ.aK gk;replace hd:=hd.le (by decide) mQ.le;refine aL jR rfl rfl rfl gd rfl (aV (v':=v0) rfl ?_);refine ab ⟨rfl,rfl,rfl,?_⟩;refine bS rfl hd.iC rfl ?_;refine ab ⟨rfl,rfl,rfl,?_⟩;refine aS (M:=M) (A:=RT.di) (B:=RT.str.sl) jQ rfl rfl zz (by decide) V8 rfl rfl (by decide) hd (aq _ _) (fun pn Oa=>?_);refine ab ⟨rfl,rfl,rfl,?_⟩;refine bV (M:=M) aQ rfl rfl rfl rfl rfl Oa (aq _ _) (fun vn rV=>?_);replace rV:(RT.str.sl).V M _ d.1 vn:=rV;refine ab ⟨rfl,rfl,rfl,?_⟩;refine ad rfl rfl ?_;refine ab ⟨rfl,rfl,rfl,?_⟩;have oN:=(an.1 hx).1;refine cF (M:=M) aQ I9 rfl rfl rfl rV (aq _ _) (by omega) (fun u a hg hu=>?_);obtain rfl:x=a:=aJ (hx.symm.trans (by simpa using hg));refine ab ⟨rfl,rfl,rfl,?_⟩;refine bV (M:=M) aH rfl rfl rfl rfl rfl hu (aq _ _) (fun vx rB=>?_);obtain rfl:=ix rB;refine ab ⟨rfl,rfl,rfl,?_⟩;refine aL aH rfl rfl rfl gk rfl (aV (v':=sv k) rfl ?_);refine ab ⟨rfl,rfl,rfl,?_⟩;refine Rg.TZ rfl rfl rfl ?_;refine ab ⟨rfl,rfl,rfl,?_⟩;refine ah rfl rfl ?_;refine ab ⟨rfl,rfl,rfl,?_⟩;refine ff (aN ?_);exact aU rfl rfl ⟨by rw[decide_not],mQ⟩
theorem Gl {M:aC} {d:Di} {v0:Value} {k:List UInt8} (w0:World) (hM:Lt M w0) (hd:dg RT.di M w0 v0 d) (Cq:Dz d.1):
  Spec Tryz.prog 125 #[v0,sv k] w0 (fun v w=>v= .tuple #[.int .i64 (JG d.1 k:Int),.bool (decide (k∈d.1))]∧Step M w0 M w aD):=by
 refine bc (args:=[_,_]) (fn:=Tryz.f125) Tryz.func125 rfl (n:=33) Tryz.ntmps125 ?_;have S:Step M w0 M w0 aD:=(ax _ _).cG (fun _ h=>h.elim) (fun _ h=>h.elim);refine aj (ae ?_);refine wX M rfl rfl (fun PH afT apk apl rE PI=>?_);replace rE:afT.heap[PH]? =some (.cells #[v0] 139 (0,0)):=by rw[vD hd]at rE;exact rE
 obtain⟨MK,ML⟩:∃M',M'=ins M PH:=⟨_,rfl⟩;rw[←ML]at PI;have vF:MK PH:=by rw[ML];exact .inl rfl
 replace hd:=hd.le (by decide) PI.le;replace hM:=PI.lt hM;have:=S.size;replace S:=S.aB PI;refine wX MK rfl rfl (fun o8 FG TF TG gj nA=>?_);obtain⟨fy,mF⟩:∃M',M'=ins MK o8:=⟨_,rfl⟩;rw[←mF]at nA;have fa:fy o8:=by rw[mF];exact .inl rfl
 change FG.heap[o8]? =some (.cells #[sv k] _ _)at gj;have:=ak rE;replace vF:=(nA.mem _ this).2 vF;replace rE:=nA.aK rE;replace hd:=hd.le (by decide) nA.le;replace hM:=nA.lt hM;have:=S.size;replace S:=S.aB nA;refine ah rfl rfl (ah rfl rfl (ab (aj (ae (aL jR rfl rfl rfl rE rfl (aV (v':=v0) rfl (bS rfl hd.iC rfl ?_)))))));refine aS (M:=fy) (A:=RT.di) (B:=RT.str.sl) jQ rfl rfl zz (by decide) V8 rfl rfl (by decide) hd (aq _ _) (fun pn Oa=>?_);refine bV (M:=fy) aQ rfl rfl rfl rfl rfl Oa (aq _ _) (fun vn rV=>?_);replace rV:(RT.str.sl).V fy _ d.1 vn:=rV;have V2:=ep rV;refine bJ aQ rfl rV rfl (ka (xs:=[]) (ys:=[.tmp 2,.tmp 3]) rfl rfl rfl ?_)
 refine aX rfl rfl afQ (Gk (M:=fy) (n:=d.1.length) (cap:=[.pointer (some ⟨PH,0,none⟩),.pointer (some ⟨o8,0,none⟩)]) (good:=geN d.1 k) _ afR (fun i j ji hj h=>by
  have hi:=au (show i<d.1.length by omega);have tH:=au hj;rw[yU hi]at h;rw[yU tH];simp only[iU,decide_eq_false_iff_not]at h ⊢;intro dO;rcases jM d.1[i] d.1[j]with h1|h1|h1
  ·exact h (l1 h1 dO)
  ·rw[h1]at h;exact h dO
  ·exact Y9 Cq ji hi tH h1) (by omega) (fun i w hi s=>by
  have hx:=au hi;rw[yU hx];exact D4 w (hd.le (by decide) s.le) (s.aK rE) (s.aK gj) hx)) (fun r1 w1 hc=>?_)
 obtain⟨m,rfl,hm,hlo,hhi,s1⟩:=hc;have em:JG d.1 k=m:=yT hm (fun i x hi hx=>by have:=hlo i hi;rw[yU hx]at this;simpa using this) (fun i x hi hx=>by have:=hhi i hi (an.1 hx).1;rw[yU hx]at this;simpa using this);have:=ak rE;replace vF:=(s1.mem _ this).2 vF;replace rE:=s1.aK rE;have:=ak gj;replace fa:=(s1.mem _ this).2 fa;replace gj:=s1.aK gj;replace hd:=hd.le (by decide) s1.le;replace hM:=s1.lt hM;have:=S.size;replace S:=S.aB s1;refine ah rfl rfl (ab (aj ?_));apply uO mixed rfl rfl;intro wD2 sA2;have IX:=sA2 fy;have:=ak rE;replace vF:=(IX.mem _ this).2 vF;replace rE:=IX.aK rE;have:=ak gj;replace fa:=(IX.mem _ this).2 fa;replace gj:=IX.aK gj;replace hd:=hd.le (by decide) IX.le;replace hM:=IX.lt hM;have:=S.size;replace S:=S.aB IX;refine ad rfl rfl ?_;refine ab ⟨rfl,rfl,rfl,?_⟩;refine ad rfl rfl ?_;refine ab ⟨rfl,rfl,rfl,?_⟩;refine aL jR rfl rfl rfl rE rfl (aV (v':=v0) rfl ?_);refine ab ⟨rfl,rfl,rfl,?_⟩;refine bS rfl hd.iC rfl ?_;refine ab ⟨rfl,rfl,rfl,?_⟩;refine aS (M:=fy) (A:=RT.di) (B:=RT.str.sl) jQ rfl rfl zz (by decide) V8 rfl rfl (by decide) hd (aq _ _) (fun pn2 afU=>?_);refine ab ⟨rfl,rfl,rfl,?_⟩;refine bV (M:=fy) aQ rfl rfl rfl rfl rfl afU (aq _ _) (fun vn2 UR=>?_);replace UR:(RT.str.sl).V fy _ d.1 vn2:=UR;refine ab ⟨rfl,rfl,rfl,?_⟩;refine bJ aQ rfl UR rfl ?_;refine ab ⟨rfl,rfl,rfl,?_⟩;refine cf rfl rfl rfl ?_;refine ab ⟨rfl,rfl,rfl,?_⟩;refine ad rfl rfl ?_;refine ab ⟨rfl,rfl,rfl,?_⟩;refine aO (g:=22) rfl (fun afV=>?_) (fun afV=>?_)
 ·refine al rfl rfl (aL jR rfl rfl rfl rE rfl (aV (v':=v0) rfl ?_));refine ab ⟨rfl,rfl,rfl,?_⟩;refine al rfl rfl (bS rfl hd.iC rfl ?_);refine ab ⟨rfl,rfl,rfl,?_⟩;refine al rfl rfl ?_;refine aS (M:=fy) (A:=RT.di) (B:=RT.str.sl) jQ rfl rfl zz (by decide) V8 rfl rfl (by decide) hd (aq _ _) (fun pn3 afW=>?_);refine ab ⟨rfl,rfl,rfl,?_⟩;refine al rfl rfl ?_;refine bV (M:=fy) aQ rfl rfl rfl rfl rfl afW (aq _ _) (fun vn3 US=>?_);replace US:(RT.str.sl).V fy _ d.1 vn3:=US;refine ab ⟨rfl,rfl,rfl,?_⟩;refine al rfl rfl (ad rfl rfl ?_);refine ab ⟨rfl,rfl,rfl,?_⟩;refine al rfl rfl ?_;refine cF (M:=fy) aQ I9 rfl rfl rfl US (aq _ _) (by omega) (fun u2 x hg2 xe=>?_);rw[ay]at hg2;refine ab ⟨rfl,rfl,rfl,?_⟩;refine al rfl rfl ?_;refine bV (M:=fy) aH rfl rfl rfl rfl rfl xe (aq _ _) (fun vx rB=>?_);obtain rfl:=ix rB;refine ab ⟨rfl,rfl,rfl,?_⟩;refine al rfl rfl (aL aH rfl rfl rfl gj rfl (aV (v':=sv k) rfl ?_));refine ab ⟨rfl,rfl,rfl,?_⟩;refine al rfl rfl (Rg.GW rfl rfl rfl ?_);refine ab ⟨rfl,rfl,rfl,?_⟩;refine aW rfl rfl rfl ?_;refine ab ⟨rfl,rfl,rfl,?_⟩;refine ah rfl rfl ?_;refine ab ⟨rfl,rfl,rfl,?_⟩;refine ah rfl rfl ?_;refine ab ⟨rfl,rfl,rfl,?_⟩;refine ff (aN ?_);rw[←em]at*
  first
  |(have e:decide (x=k)=decide (k∈d.1):=decide_eq_decide.2 (by rw[←MJ Cq,hg2];simp)
    exact eU rfl rfl rfl ⟨by rw[e],S.back⟩)
  |(have e:k∉d.1:=fun h=>by have:=(BR Cq).1 h;have:=(an.1 this).1;omega
    exact eU rfl rfl rfl ⟨by rw[decide_eq_false e],S.back⟩)
 ·refine ar rfl rfl rfl rfl ?_;refine ab ⟨rfl,rfl,rfl,?_⟩;refine ar rfl rfl rfl rfl ?_;refine ab ⟨rfl,rfl,rfl,?_⟩;refine ar rfl rfl rfl rfl ?_;refine ab ⟨rfl,rfl,rfl,?_⟩;refine ar rfl rfl rfl rfl ?_;refine ab ⟨rfl,rfl,rfl,?_⟩;refine ar rfl rfl rfl rfl ?_;refine ab ⟨rfl,rfl,rfl,?_⟩;refine ar rfl rfl rfl rfl ?_;refine ab ⟨rfl,rfl,rfl,?_⟩;refine ar rfl rfl rfl rfl ?_;refine ab ⟨rfl,rfl,rfl,?_⟩;refine ar rfl rfl rfl rfl ?_;refine ab ⟨rfl,rfl,rfl,?_⟩;refine ar rfl rfl rfl rfl ?_;refine ab ⟨rfl,rfl,rfl,?_⟩;refine aE rfl rfl rfl ?_;refine ab ⟨rfl,rfl,rfl,?_⟩;refine ah rfl rfl ?_;refine ab ⟨rfl,rfl,rfl,?_⟩;refine ah rfl rfl ?_;refine ab ⟨rfl,rfl,rfl,?_⟩;refine ff (aN ?_);rw[←em]at*
  first
  |(have e:decide (x=k)=decide (k∈d.1):=decide_eq_decide.2 (by rw[←MJ Cq,hg2];simp)
    exact eU rfl rfl rfl ⟨by rw[e],S.back⟩)
  |(have e:k∉d.1:=fun h=>by have:=(BR Cq).1 h;have:=(an.1 this).1;omega
    exact eU rfl rfl rfl ⟨by rw[decide_eq_false e],S.back⟩)
theorem find_spec {M:aC} {d:Di} {v0:Value} {k:List UInt8} (w0:World) (hM:Lt M w0) (hd:dg RT.di M w0 v0 d) (Cq:Dz d.1) (hl:d.1.length=d.2.length):
  Spec Tryz.prog 79 #[v0,sv k] w0 (fun v w=>Step M w0 M w aD∧((∃(j:Nat) (p:Value) (t:Li),v= .tuple #[p,.bool true]∧d.1[j]? =some k∧d.2[j]? =some t∧dg RT.li M w p t)∨(v= .tuple #[.pointer none,.bool false]∧k∉d.1))):=by
 refine bc (args:=[_,_]) (fn:=Tryz.f79) Tryz.func79 rfl (n:=25) Tryz.ntmps79 ?_;have S:Step M w0 M w0 aD:=(ax _ _).cG (fun _ h=>h.elim) (fun _ h=>h.elim);refine aj (ae (ah rfl rfl (ah rfl rfl (ab (aj (ae (ad rfl rfl (ad rfl rfl ?_))))))));refine aX rfl rfl afP (Gl _ hM hd Cq) (fun r1 w1 hc=>?_);obtain⟨rfl,s1⟩:=hc;replace hd:=hd.le (by decide) s1.le;replace hM:=s1.lt hM;have:=S.size;replace S:=S.aB s1;refine ad rfl rfl (bK rfl rfl rfl (bK rfl rfl rfl (ah rfl rfl (ah rfl rfl (ab (aj (aj (ae (ad rfl rfl (mS rfl rfl (aV (v':= .bool (decide (k∉d.1))) (by simp) ?_)))))))))));refine ab ?_;refine bP rfl (fun c2=>?_) (fun c2=>?_)
 ·refine aj (ae (ah rfl rfl (ab (aj (ae (ad rfl rfl (ah rfl rfl (ah rfl rfl (ab (aN ?_))))))))));exact eU rfl rfl rfl ⟨S,.inr ⟨rfl,c2⟩⟩
 ·refine aT (aj (ae (ad rfl rfl (bS rfl hd.iC rfl ?_))));refine aS (M:=M) (A:=RT.di) (B:=((RT.li).ptr).sl) jQ rfl rfl D0 (by decide) di1 rfl rfl (by decide) hd (aq _ _) (fun pt Ws=>?_);refine bV (M:=M) dX rfl rfl rfl rfl rfl Ws (aq _ _) (fun vt oG=>?_);replace oG:(((RT.li).ptr).sl).V M _ d.2 vt:=oG;refine ad rfl rfl ?_;have hk:=(BR Cq).1 (dI.1 c2);have E5:=(an.1 hk).1;refine cF (M:=M) dX zK rfl rfl rfl oG (aq _ _) (by omega) (fun u5 t Il zL=>?_);rw[ay]at Il;refine bV (M:=M) eP rfl rfl rfl rfl rfl zL (aq _ _) (fun vp Za=>?_);have afY:=j0.1 Za;refine ah rfl rfl (ah rfl rfl (ab (aN ?_)));exact eU rfl rfl rfl ⟨S,.inl ⟨_,_,t,rfl,hk,Il,afY⟩⟩
end Go.K
namespace Go.K
open Go.Proofs
namespace TKSegC
theorem D0:TI Tryz.prog 196 (.slice none 0 0) 1 24:=by unfold TI;kernel_rfl
end TKSegC
open TKSegC
set_option maxRecDepth 10000
theorem Gm {M:aC} {d:Di} {vd:Value} {bi bd yl:Nat} {wv:World} {J:Nat→World→Prop} {Jx:World→Prop} (w0:World) (hd:dg RT.di M wv vd d) (hl:d.1.length=d.2.length) (kC:∀i w w',J i w→Step aD w aD w' aD→J i w') (Hx:∀i w,J i w→w.heap[bi]? =some (.cells #[.int .i64 0] 3 (0,0))∧w.heap[bd]? =some (.cells #[vd] 139 (0,0))∧Le M wv M w) (hy:∀(i:Nat) (w:World) x t vt,J i w→d.1[i]? =some x→d.2[i]? =some t→dg RT.li M w vt t→wk Tryz.prog yl [sv x,vt].toArray w (fun r w'=>∃b,r= .bool b∧(b=true→J (i+1) w')∧(b=false→Jx w'))) (h0:J 0 w0):
  Spec Tryz.prog 123 #[.func (.yield yl) #[] #[],.pointer (some ⟨bi,0,none⟩),.pointer (some ⟨bd,0,none⟩)] w0 (fun _ w=>J d.1.length w∨Jx w):=by
 refine bc (args:=[_,_,_]) (fn:=Tryz.f123) Tryz.func123 rfl (n:=33) Tryz.ntmps123 (aj (ae (aL aw rfl rfl rfl (Hx _ _ h0).1 rfl (aV (v':= .int .i64 0) rfl (Rg.max2 rfl rfl rfl (ah rfl rfl (ab (aZ ?_))))))));refine dn (σ:=Nat) (fun s=>[(0,.func (.yield yl) #[] #[]),(1,.pointer (some ⟨bi,0,none⟩)),(2,.pointer (some ⟨bd,0,none⟩)),(4,.int .i64 (s:Int))]) (fun s w=>J s w∧s≤d.1.length) (fun s=>d.1.length-s) 0 (.cons rfl (.cons rfl (.cons rfl (.cons rfl .nil)))) ?_ ?_
 ·exact⟨h0,bG _⟩
 ·rintro k w ⟨hJ,hk⟩;obtain⟨gi,gd,hle⟩:=Hx _ _ hJ;have hdl:d.1.length≤140737488355328:=by obtain⟨b,o,vs,_,_,⟨va,vb,_,⟨a,cap,_,_,h,_⟩,_⟩,_⟩:=hd;exact h
  refine aj (aj (ae (ad rfl rfl (aL jR rfl rfl rfl gd rfl (aV (v':=vd) rfl (bS rfl hd.iC rfl ?_))))));refine aS (M:=M) (A:=RT.di) (B:=RT.str.sl) jQ rfl rfl zz (by decide) V8 rfl rfl (by decide) hd hle (fun pn Oa=>?_);refine bV (M:=M) aQ rfl rfl rfl rfl rfl Oa (aq _ _) (fun vn rV=>?_);replace rV:(RT.str.sl).V M _ d.1 vn:=rV;refine bJ aQ rfl rV rfl (cf rfl rfl rfl (ab ?_));refine bP rfl (fun c1=>?_) (fun c1=>?_)
  ·refine aT (aj (aZ (aj ?_)));apply T.J2 15 mixed rfl rfl rfl rfl rfl;intro Xn QM;have qW:=QM M;refine ad rfl rfl ?_;refine ab ⟨rfl,rfl,rfl,?_⟩;replace hJ:=kC _ _ _ hJ (QM aD);clear gi gd hle;obtain⟨gi,gd,hle⟩:=Hx _ _ hJ;refine aL jR rfl rfl rfl gd rfl (aV (v':=vd) rfl ?_);refine ab ⟨rfl,rfl,rfl,?_⟩;refine bS rfl hd.iC rfl ?_;refine ab ⟨rfl,rfl,rfl,?_⟩;refine aS (M:=M) (A:=RT.di) (B:=RT.str.sl) jQ rfl rfl zz (by decide) V8 rfl rfl (by decide) hd hle (fun pm Fa=>?_);refine ab ⟨rfl,rfl,rfl,?_⟩;refine bV (M:=M) aQ rfl rfl rfl rfl rfl Fa (aq _ _) (fun vm hvm=>?_);replace hvm:(RT.str.sl).V M _ d.1 vm:=hvm;refine ab ⟨rfl,rfl,rfl,?_⟩;refine ad rfl rfl ?_;refine ab ⟨rfl,rfl,rfl,?_⟩;refine cF (M:=M) aQ I9 rfl rfl rfl hvm (aq _ _) (by omega) (fun u3 x N2 Q5=>?_);rw[ay]at N2;refine ab ⟨rfl,rfl,rfl,?_⟩;refine bV (M:=M) aH rfl rfl rfl rfl rfl Q5 (aq _ _) (fun vx rB=>?_);obtain rfl:=ix rB;refine ab ⟨rfl,rfl,rfl,?_⟩;refine aL jR rfl rfl rfl gd rfl (aV (v':=vd) rfl ?_);refine ab ⟨rfl,rfl,rfl,?_⟩;refine bS rfl hd.iC rfl ?_;refine ab ⟨rfl,rfl,rfl,?_⟩;refine aS (M:=M) (A:=RT.di) (B:=((RT.li).ptr).sl) jQ rfl rfl D0 (by decide) di1 rfl rfl (by decide) hd hle (fun pt Ws=>?_);refine ab ⟨rfl,rfl,rfl,?_⟩;refine bV (M:=M) dX rfl rfl rfl rfl rfl Ws (aq _ _) (fun vt oG=>?_);replace oG:(((RT.li).ptr).sl).V M _ d.2 vt:=oG;refine ab ⟨rfl,rfl,rfl,?_⟩;refine ad rfl rfl ?_;refine ab ⟨rfl,rfl,rfl,?_⟩;refine cF (M:=M) dX zK rfl rfl rfl oG (aq _ _) (by omega) (fun u4 t wC ET=>?_);rw[ay]at wC;refine ab ⟨rfl,rfl,rfl,?_⟩;refine bV (M:=M) eP rfl rfl rfl rfl rfl ET (aq _ _) (fun vp Za=>?_)
   refine ab ⟨rfl,rfl,rfl,?_⟩;refine ff ?_;refine Rg.yield rfl (vs:=[sv x,vp]) rfl rfl (hy k _ x t vp hJ N2 wC (j0.1 Za)) (fun r5 w5 h5=>?_);obtain⟨b,rfl,QI,qG⟩:=h5;refine mS rfl rfl (aV (v':= .bool (decide (¬b=true))) (by simp) (ab ?_));refine bP rfl (fun c3=>?_) (fun c3=>?_)
   ·refine aN ?_;exact Cu rfl (.inr (qG (by simpa using c3)))
   ·refine aT (ae (ad rfl rfl (bD rfl rfl rfl (by omega) (ah rfl rfl (ab ?_)))));refine⟨rfl,k+1,(.cons rfl (.cons rfl (.cons rfl (.cons rfl .nil)))),?_,?_⟩
    ·exact⟨QI (dI.1 c3),by omega⟩
    ·omega
  ·refine cL ?_
   first|refine rj ?_|simp+decide only[rq,jy,if_true,if_false]|skip
   have e:k=d.1.length:=by omega
   subst e;exact fY rfl (.inl hJ)
theorem IY {M:aC} {d:Di} {vd:Value} (w0:World) (hM:Lt M w0) (hd:dg RT.di M w0 vd d):
  Spec Tryz.prog 77 #[vd,.int .i64 0] w0 (fun v w=>∃bi bd,v= .func (.func 123) #[] [.pointer (some ⟨bi,0,none⟩),.pointer (some ⟨bd,0,none⟩)].toArray∧w.heap[bi]? =some (.cells #[.int .i64 0] 3 (0,0))∧w.heap[bd]? =some (.cells #[vd] 139 (0,0))∧w0.heap.size≤bi∧w0.heap.size≤bd∧Step M w0 M w aD):=by
 refine bc (args:=[_,_]) (fn:=Tryz.f77) Tryz.func77 rfl (n:=6) Tryz.ntmps77 (aj (ae ?_));refine wX M rfl rfl (fun bd w1 p1 q1 g1 s1=>?_);rw[vD hd]at g1;replace s1:=s1.back;refine wX M rfl rfl (fun bi w2 p2 q2 g2 s2=>?_);replace s2:=s2.back;replace g2:w2.heap[bi]? =some (.cells #[.int .i64 0] 3 (0,0)):=g2;refine ah rfl rfl (ab (aj (ae (ka (xs:=[]) (ys:=[.tmp 3,.tmp 2]) rfl rfl rfl (ah rfl rfl (ab (aN ?_)))))));exact aU rfl rfl ⟨bi,bd,rfl,g2,s2.aK g1,by have:=s1.size;omega,p1,s1.aB s2⟩
end Go.K
namespace Go.K
open Go.Proofs
namespace TKSegD
theorem IZ:TI Tryz.prog 139 (.pointer none) 1 8:=by unfold TI;kernel_rfl
theorem E76:Enters Tryz.prog 76:=enters Tryz.func76 rfl (by decide)
theorem E77:Enters Tryz.prog 77:=enters Tryz.func77 rfl (by decide)
theorem Zb:Enters Tryz.prog 123:=enters Tryz.func123 rfl (by decide)
end TKSegD
open TKSegD
set_option maxRecDepth 10000
theorem MM {M:aC} {w:World} {xs:List (List UInt8)} {v:Value} (h:(RT.str.sl).V M w xs v):∀x∈xs,x.length≤140737488355328:=fun x hx=>by
 obtain⟨a,cap,_,_,_,hs⟩:=iP.1 h;rcases hs with rfl|⟨b,o,_,_,he⟩
 ·cases hx
 ·obtain⟨i,hi⟩:=bm.1 hx;obtain⟨vs,⟨_,h1⟩,_⟩:=he i x hi;exact h1
theorem MN {M:aC} {w:World} {v:Value} {d:Di} (h:dg RT.di M w v d):(∀x∈d.1,x.length≤140737488355328)∧d.1.length≤140737488355328:=by
 obtain⟨b,o,vs,_,_,⟨va,vb,_,h1,_⟩,_⟩:=h;have hv:(RT.str.sl).V M w d.1 ((RT.str.sl).val va):=⟨va,h1,rfl⟩;exact⟨MM hv,ep hv⟩
structure MO {α:Type} (A:RT α) (e T:TypeId) (M:aC) (w0:World) (bo bi bd D:Nat) (vd:Value) (st:Loop) (vo:Value) (xs:List α) (M':aC) (w:World):Prop where
 lt:Lt M' w
 S:Step M w0 M' w aD
 o:w.heap[bo]? =some (.cells #[vo] T (0,0))
 mo:M' bo
 r:w.heap[D+1]? =some (.loop st)
 mr:M' (D+1)
 d:w.heap[D]? =some (.deferred (some []))
 md:M' D
 own:Own A e M' w w0.heap.size vo xs
 gi:w.heap[bi]? =some (.cells #[.int .i64 0] 3 (0,0))
 gd:w.heap[bd]? =some (.cells #[vd] 139 (0,0))
 fi: ¬M' bi
 fd: ¬M' bd
 z:w0.heap.size≤bo∧w0.heap.size≤D
section
variable {α:Type} {A:RT α} {e T:TypeId} {M M1 M2 N:aC} {w0 w w':World} {bo bi bd D:Nat} {vd:Value} {st:Loop} {vo:Value} {xs:List α}
theorem MO.aM (h:MO A e T M w0 bo bi bd D vd st vo xs M1 w) (s:Step M1 w M2 w' aD):MO A e T M w0 bo bi bd D vd st vo xs M2 w':=
 ⟨s.lt h.lt,h.S.aB s,s.aK h.o,(s.mem _ (ak h.o)).2 h.mo,s.aK h.r,(s.mem _ (ak h.r)).2 h.mr,s.aK h.d,(s.mem _ (ak h.d)).2 h.md,h.own.aM s,s.aK h.gi,s.aK h.gd,fun hn=>h.fi ((s.mem _ (ak h.gi)).1 hn),fun hn=>h.fd ((s.mem _ (ak h.gd)).1 hn),h.z⟩
theorem MO.pb {st':Loop} (h:MO A e T M w0 bo bi bd D vd st vo xs M1 w):MO A e T M w0 bo bi bd D vd st' vo xs M1 (w.putObj (D+1) (.loop st')):=by
 have s:Step M1 w M1 (w.putObj (D+1) (.loop st')) (fun k=>k=D+1):=eu h.mr;obtain⟨z1,z2⟩:=h.z;refine⟨s.lt h.lt,h.S.cg s (fun k (hk:k=D+1)=>by omega),s.keep h.o (fun(hn:bo=D+1)=>by have h1:=h.o;rw[hn,h.r]at h1;cases h1),h.mo,World.putObj_heap_same (ak h.r),h.mr,s.keep h.d (fun(hn:D=D+1)=>by omega),h.md,h.own.step s (fun b hb (hn:b=D+1)=>?_),s.keep h.gi (fun(hn:bi=D+1)=>by have h1:=h.gi;rw[hn,h.r]at h1;cases h1),s.keep h.gd (fun(hn:bd=D+1)=>by have h1:=h.gd;rw[hn,h.r]at h1;cases h1),h.fi,h.fd,h.z⟩;obtain⟨cs,hc⟩:=h.own.isCells hb;rw[hn,h.r]at hc;cases hc
theorem MO.grow {MP:Value} {Rw:List α} (hT:T≠e) (h:MO A e T M w0 bo bi bd D vd st vo xs M1 w) (s:Step M1 w M2 w' (fP vo)) (ho:Own A e M2 w' w0.heap.size MP Rw):
  (w'.heap[bo]? =some (.cells #[vo] T (0,0))∧M2 bo)∧∀{w2:World},Step M2 w' M2 w2 (fun k=>k=bo)→w2.heap[bo]? =some (.cells #[MP] T (0,0))→MO A e T M w0 bo bi bd D vd st MP Rw M2 w2:=by
 obtain⟨z1,z2⟩:=h.z
 have Gn:∀{b:Nat} {o:Obj},w.heap[b]? =some o→(∀cs fr,o≠ .cells cs e fr)→¬fP vo b:=fun {b o} hb eN hn=>by
  obtain⟨⟨C,h1,_⟩,_⟩:=h.own;rcases h1.2 with h3|⟨g,cap,cur,h3,h4,h5,_⟩
  ·unfold fP at hn;rw[h3.1]at hn;cases hn
  ·unfold fP at hn;rw[h3]at hn;cases hn;rw[hb]at h5;exact eN _ _ (aJ h5)
 have nM:∀{b:Nat},¬M1 b→¬fP vo b:=fun hb hn=>hb (h.own.mut_ _ hn)
 have gB:=s.keep h.o (Gn h.o (fun cs fr hc=>by injection hc with _ h1 _;exact hT h1));have hr:=s.keep h.r (Gn h.r (fun cs fr hc=>by cases hc));have hd:=s.keep h.d (Gn h.d (fun cs fr hc=>by cases hc));have nj:=s.keep h.gi (nM h.fi);have pU:=s.keep h.gd (nM h.fd);have hfi: ¬M2 bi:=fun hn=>h.fi ((s.mem _ (ak h.gi)).1 hn)
 have Qr: ¬M2 bd:=fun hn=>h.fd ((s.mem _ (ak h.gd)).1 hn)
 have N4:=(s.mem _ (ak h.o)).2 h.mo;refine⟨⟨gB,N4⟩,fun {w2} s2 hx=>⟨s2.lt (s.lt h.lt),(h.S.dm s h.own (aR _)).cg s2 (fun k (hk:k=bo)=>by omega),hx,N4,s2.keep hr (fun(hn:D+1=bo)=>by rw[hn,gB]at hr;cases hr),(s.mem _ (ak h.r)).2 h.mr,s2.keep hd (fun(hn:D=bo)=>by rw[hn,gB]at hd;cases hd),(s.mem _ (ak h.d)).2 h.md,ho.step s2 (fun b hb (hn:b=bo)=>ho.eK gB hT (by rw[←hn];exact hb)),s2.keep nj (fun(hn:bi=bo)=>hfi (by rw[hn];exact N4)),s2.keep pU (fun(hn:bd=bo)=>Qr (by rw[hn];exact N4)),hfi,Qr,h.z⟩⟩
end
theorem af0 {α:Type} {A:RT α} {e T:TypeId} {M M1:aC} {w0 w:World} {bo bi bd:Nat} {vd:Value} {st:Loop} (hM:Lt M1 w) (S:Step M w0 M1 w aD) (go:w.heap[bo]? =some (.cells #[.slice none 0 0] T (0,0))) (mo:M1 bo) (gi:w.heap[bi]? =some (.cells #[.int .i64 0] 3 (0,0))) (gd:w.heap[bd]? =some (.cells #[vd] 139 (0,0))) (fi: ¬M1 bi) (fd: ¬M1 bd) (Wi:w0.heap.size≤bo):
  ∃M',MO A e T M w0 bo bi bd w.heap.size vd st (.slice none 0 0) [] M' ((w.alloc (.deferred (some []))).alloc (.loop st)):=by
 have sA:Step M1 w (ins M1 w.heap.size) (w.alloc (.deferred (some []))) aD:=(cW M1 w _).own (aR _) (by simp);have sB:Step (ins M1 w.heap.size) (w.alloc (.deferred (some []))) (ins (ins M1 w.heap.size) (w.heap.size+1)) ((w.alloc (.deferred (some []))).alloc (.loop st)) aD:=(cW _ _ _).own (by simp) (by simp);have hD:(w.alloc (.deferred (some []))).heap[w.heap.size]? =some (.deferred (some [])):=cp w _;have hR:((w.alloc (.deferred (some []))).alloc (.loop st)).heap[w.heap.size+1]? =some (.loop st):=by have:=cp (w.alloc (.deferred (some []))) (.loop st);rwa [World.size_alloc]at this
 have SS:=(S.aB sA).aB sB;have hi:=ak gi;have hd:=ak gd;refine⟨_,sB.lt (sA.lt hM),SS,sB.aK (sA.aK go),.inr (.inr mo),hR,.inl rfl,sB.aK hD,.inr (.inl rfl),dE _ _ _ _ _,sB.aK (sA.aK gi),sB.aK (sA.aK gd),?_,?_,Wi,S.size⟩
 ·rintro(h|h|h)
  ·omega
  ·omega
  ·exact fi h
 ·rintro(h|h|h)
  ·omega
  ·omega
  ·exact fd h
theorem Gp {M:aC} {d:Di} {v0:Value} (w0:World) (hM:Lt M w0) (hd:dg RT.di M w0 v0 d) (hdl:d.1.length=d.2.length) (hd6:d.1.length≤1000000000):
  Spec Tryz.prog 76 #[v0] w0 (fun v w=>(RT.str.sl).V M w d.1 v∧Step M w0 M w aD):=by
 have lC:=hM;obtain⟨JN,_⟩:=MN hd;refine qm (args:=[_]) (fn:=Tryz.f76) Tryz.func76 rfl (n:=14) Tryz.ntmps76 ?_;have S:Step M w0 M w0 aD:=(ax _ _).cG (fun _ h=>h.elim) (fun _ h=>h.elim);refine aj (ae (ah rfl rfl (ab (aj (ae ?_)))));refine ey M zz rfl (fun mB C3 Tg Ti jT nz=>?_);obtain⟨lp,mC⟩:∃M',M'=ins M mB:=⟨_,rfl⟩;rw[←mC]at nz;have iK:lp mB:=by rw[mC];exact .inl rfl
 change C3.heap[mB]? =some (.cells #[.slice none 0 0] _ _)at jT;replace hM:=nz.lt hM;have:=S.size;replace S:=S.aB nz;refine ab (aj (aj (ae (ad rfl rfl ?_))));refine aX rfl rfl E77 (IY (M:=lp) _ hM (hd.le (by decide) nz.le)) (fun r2 w2 hc=>?_);obtain⟨bi,bd,rfl,gi,gd,QK,hbd,s2⟩:=hc;have fi: ¬lp bi:=fun h=>by have:=hM _ h;omega
 have fd: ¬lp bd:=fun h=>by have:=hM _ h;omega
 replace fi: ¬lp bi:=fi;have:=ak jT;replace iK:=(s2.mem _ this).2 iK;replace jT:=s2.aK jT;replace hM:=s2.lt hM;have:=S.size;replace S:=S.aB s2;refine ab (aZ ?_);refine T.range (gf:=123) (lb:=[.pointer (some ⟨bi,0,none⟩),.pointer (some ⟨bd,0,none⟩)].toArray) rfl Zb (fun rec pS=>?_);obtain⟨D,hD⟩:∃D,D=w2.heap.size:=⟨_,rfl⟩;obtain⟨Mr,h0⟩:=af0 (A:=RT.str) (e:=9) (st:=rec .ready none) hM S jT iK gi gd fi fd (by omega);rw[←hD]at pS h0 ⊢;refine Spec.mono (Gm (wv:=w0) (M:=M) (J:=fun i w=>∃M' vo,MO (RT.str) 9 57 M w0 mB bi bd D v0 (rec .ready none) vo (d.1.take i) M' w) (Jx:=fun _=>False) _ hd hdl (fun i w w' ⟨M',vo,h⟩ s=>⟨M',vo,h.aM (s.any M')⟩) (fun i w ⟨M',vo,h⟩=>⟨h.gi,h.gd,h.S.back.le⟩) (fun i wr x t vt hJ hx ht hp=>?_) ⟨Mr,_,h0⟩) (fun _ w3 h3=>?_)
 ·obtain⟨M',vo,h⟩:=hJ;refine nV (ps:=[7,8]) (vs:=[sv x,vt]) pS h.r rfl (by decide) (ae (ah rfl rfl (ab ?_)));refine⟨rfl,h.r,?_⟩;have h4:=h.pb (st':=rec .busy none);have s4:Step M' wr M' (wr.putObj (D+1) (.loop (rec .busy none))) (fun k=>k=D+1):=eu h.mr;generalize wr.putObj (D+1) _=w4 at h4 s4 ⊢;refine aZ (ae (aL aQ rfl rfl rfl h4.o rfl (aV (v':=vo) rfl (ad rfl rfl ?_))));refine dQ (A:=RT.str) (hn:=by decide) (M:=M') aQ I9 (by decide) rfl rfl h4.lt (kF.2 ⟨rfl,JN x (aA hx)⟩) (.inr ⟨rfl,rfl⟩) (fun u5 w5 zL s5=>?_);have h6:=h4.aM s5;have oN:=(an.1 hx).1;refine cX (M:=M') (base:=w0.heap.size) aQ I9 rfl rfl rfl rfl h6.own zL (aq _ _) (by simp;omega) (by simp;omega) h6.S.size (fun v6 M6 w6 tW s6=>?_);obtain⟨⟨go6,mo6⟩,Jv⟩:=h6.grow (by decide) s6 tW;refine cu (M:=M6) zz rfl rfl go6 rfl (by obtain⟨_,_,he,_⟩:=tW.isSlice;rw[he];rfl) mo6 (fun w7 g7 s7=>?_);refine ab ?_;have h8:=(Jv s7 g7).pb (st':=rec .ready none);exact⟨(Jv s7 g7).r,true,rfl,fun _=>⟨M6,v6,by rw[cb,hx,cY];exact h8⟩,fun h=>by cases h⟩
 ·obtain⟨M',vo,h⟩:=h3.resolve_right id;left;refine⟨h.r,?_⟩;have h5:=h.pb (st':=rec .exhausted none);generalize w3.putObj (D+1) _=wE at h5 ⊢;refine aj (ae (aL aQ rfl rfl rfl h5.o rfl (aV (v':=vo) rfl (ah rfl rfl (ab (aN ?_))))));have sE:Step M' wE M' (wE.putObj D (.deferred none)) (fun k=>k=D):=eu h5.md;have hz:=h5.z;have hS:=h5.S.cg sE (fun k (hk:k=D)=>by omega)
  have ho:=h5.own.step sE (fun b hb (hn:b=D)=>by
   obtain⟨cs,hc⟩:=h5.own.isCells hb;rw[hn,h5.d]at hc;cases hc)
  rw[br (aR _)]at ho;exact Bh rfl rfl h5.d ⟨ho.close lC hS (by omega),hS.back⟩
theorem Gq {M:aC} {s:Se} {v0:Value} (w0:World) (hM:Lt M w0) (hdl:s.2.2.1.length=s.2.2.2.length) (hd6:s.2.2.1.length≤1000000000) (hs:dg RT.se M w0 v0 s):
  Spec Tryz.prog 38 #[v0] w0 (fun v w=>(RT.str.sl).V M w s.2.2.1 v∧Step M w0 M w aD):=by
 refine bc (args:=[_]) (fn:=Tryz.f38) Tryz.func38 rfl (n:=8) Tryz.ntmps38 (aj (ae (ah rfl rfl (ab (aj (ae (ad rfl rfl (bS rfl hs.iC rfl ?_))))))));refine aS (M:=M) (A:=RT.se) (B:=(RT.di).ptr) Tryz.underlying141 rfl rfl IZ (by decide) se2 rfl rfl (by decide) hs (aq _ _) (fun F0 oh=>?_);refine bV (M:=M) jR rfl rfl rfl rfl rfl oh (aq _ _) (fun vd hvd=>?_);refine aX rfl rfl E76 (Gp _ hM (j0.1 hvd) hdl hd6) (fun r wc hc=>?_);obtain hc:=hc;refine ah rfl rfl (ab (aN ?_));exact aU rfl rfl hc
end Go.K
namespace Go.K
open Go.Proofs
namespace TKSegE
theorem IZ:TI Tryz.prog 139 (.pointer none) 1 8:=by unfold TI;kernel_rfl
theorem E79:Enters Tryz.prog 79:=enters Tryz.func79 rfl (by decide)
end TKSegE
open TKSegE
set_option maxRecDepth 10000
def UT (ns:List (List UInt8)) (ls:List (List Po)) (k:List UInt8):List Po:=match (ns.zip ls).find? (fun p=>decide (p.1=k))with|some p=>p.2|none=>[]
theorem MQ {ns:List (List UInt8)} (hn:ns.Nodup) {ls:List (List Po)} {k:List UInt8} {j:Nat} {l:List Po} (h:ns[j]? =some k) (hl:ls[j]? =some l):UT ns ls k=l:=by
 have:∀{ns:List (List UInt8)} {ls:List (List Po)} {j:Nat},ns.Nodup→ns[j]? =some k→ls[j]? =some l→(ns.zip ls).find? (fun p=>decide (p.1=k))=some (k,l):=by
  intro ns
  induction ns with
  |nil=>intro ls j _ h;simp at h
  |cons x ns ih=>
   intro ls j hn h hl
   cases ls with
   |nil=>simp at hl
   |cons y ls=>
    cases j with
    |zero=>simp at h hl;subst h;subst hl;simp
    |succ j=>
     have Ix:=List.nodup_cons.1 hn;have hk:k∈ns:=aA (by simpa using h);have hx:x≠k:=fun e=>Ix.1 (by rw[e];exact hk)
     rw[List.zip_cons_cons,List.find?_cons_of_neg (by simpa using hx)];exact ih Ix.2 (by simpa using h) (by simpa using hl)
 unfold UT;rw[this hn h hl]
theorem D5 {ns:List (List UInt8)} {ls:List (List Po)} {k:List UInt8} (h:k∉ns):UT ns ls k=[]:=by
 unfold UT;rw[List.find?_eq_none.2 fun p hp=>by have:=List.of_mem_zip hp;simp;intro e;exact h (e▸this.1)]
theorem UU {L:List En} (k:List UInt8):UT (keysOf L) ((keysOf L).map (pk L)) k=pk L k:=by
 by_cases h:k∈keysOf L
 ·obtain⟨j,hj⟩:=bm.1 h;exact MQ (k4 L).nodup hj (by rw[bB,hj];rfl)
 ·rw[D5 h];exact(BK 0 (fun h'=>h (jt.2 h'))).symm
def Zc (d:Di) (k:List UInt8) (M:aC) (v:Value) (w:World):Prop:=(∃(j:Nat) (t:Li),d.1[j]? =some k∧d.2[j]? =some t∧dg RT.li M w v t)∨(v= .pointer none∧k∉d.1)
end Go.K
namespace Go.K
open Go.Proofs
namespace TKAdv
theorem zV:TI Tryz.prog 80 (.slice none 0 0) 1 24:=by unfold TI;kernel_rfl
theorem Zd:Enters Tryz.prog 180:=enters Tryz.func180 rfl (by decide)
end TKAdv
open TKAdv
set_option maxRecDepth 10000
end Go.K
namespace Go.K
open Go.Proofs
namespace TKErsA
theorem IZ:TI Tryz.prog 139 (.pointer none) 1 8:=by unfold TI;kernel_rfl
theorem E79:Enters Tryz.prog 79:=enters Tryz.func79 rfl (by decide)
theorem UH:Enters Tryz.prog 145:=enters Tryz.func145 rfl (by decide)
end TKErsA
open TKErsA
set_option maxRecDepth 10000
end Go.K
namespace Go.K
open Go.Proofs
namespace TKErsB
theorem E58:Enters Tryz.prog 58:=enters Tryz.func58 rfl (by decide)
end TKErsB
open TKErsB
set_option maxRecDepth 10000
end Go.K
namespace Go.K
open Go.Proofs
set_option maxRecDepth 10000
structure MR {α:Type} (A:RT α) (e T C:TypeId) (K:aC→World→Prop) (M:aC) (w0:World) (bo D:Nat) (st:Loop) (vo:Value) (xs:List α) (M':aC) (w:World):Prop where
 lt:Lt M' w
 S:Step M w0 M' w aD
 o:w.heap[bo]? =some (.cells #[vo] T (0,0))
 mo:M' bo
 r:w.heap[D+1]? =some (.loop st)
 mr:M' (D+1)
 d:w.heap[D]? =some (.deferred (some []))
 md:M' D
 own:Own A e M' w w0.heap.size vo xs
 k:K M' w
 z:w0.heap.size≤bo∧w0.heap.size≤D
section
variable {α:Type} {A:RT α} {e T C:TypeId} {K:aC→World→Prop} {M M1 M2 N:aC} {w0 w w':World} {bo D:Nat} {st:Loop} {vo:Value} {xs:List α}
theorem MR.aM (hK:∀{M w M' w'},K M w→Le M w M' w'→K M' w') (h:MR A e T C K M w0 bo D st vo xs M1 w) (s:Step M1 w M2 w' aD):MR A e T C K M w0 bo D st vo xs M2 w':=
 ⟨s.lt h.lt,h.S.aB s,s.aK h.o,(s.mem _ (ak h.o)).2 h.mo,s.aK h.r,(s.mem _ (ak h.r)).2 h.mr,s.aK h.d,(s.mem _ (ak h.d)).2 h.md,h.own.aM s,hK h.k s.le,h.z⟩
theorem MR.pb (hK:∀{M w M' w'},K M w→Le M w M' w'→K M' w') {st':Loop} (h:MR A e T C K M w0 bo D st vo xs M1 w):MR A e T C K M w0 bo D st' vo xs M1 (w.putObj (D+1) (.loop st')):=by
 have s:Step M1 w M1 (w.putObj (D+1) (.loop st')) (fun k=>k=D+1):=eu h.mr;obtain⟨z1,z2⟩:=h.z;refine⟨s.lt h.lt,h.S.cg s (fun k (hk:k=D+1)=>by omega),s.keep h.o (fun(hn:bo=D+1)=>by have h1:=h.o;rw[hn,h.r]at h1;cases h1),h.mo,World.putObj_heap_same (ak h.r),h.mr,s.keep h.d (fun(hn:D=D+1)=>by omega),h.md,h.own.step s (fun b hb (hn:b=D+1)=>?_),hK h.k s.le,h.z⟩;obtain⟨cs,hc⟩:=h.own.isCells hb;rw[hn,h.r]at hc;cases hc
theorem MR.grow (hK:∀{M w M' w'},K M w→Le M w M' w'→K M' w') {MP:Value} {Rw:List α} (hT:T≠e) (h:MR A e T C K M w0 bo D st vo xs M1 w) (s:Step M1 w M2 w' (fP vo)) (ho:Own A e M2 w' w0.heap.size MP Rw):
  (w'.heap[bo]? =some (.cells #[vo] T (0,0))∧M2 bo)∧∀{w2:World},Step M2 w' M2 w2 (fun k=>k=bo)→w2.heap[bo]? =some (.cells #[MP] T (0,0))→MR A e T C K M w0 bo D st MP Rw M2 w2:=by
 obtain⟨z1,z2⟩:=h.z
 have Gn:∀{b:Nat} {o:Obj},w.heap[b]? =some o→(∀cs fr,o≠ .cells cs e fr)→¬fP vo b:=fun {b o} hb eN hn=>by
  obtain⟨⟨C,h1,_⟩,_⟩:=h.own;rcases h1.2 with h3|⟨g,cap,cur,h3,h4,h5,_⟩
  ·unfold fP at hn;rw[h3.1]at hn;cases hn
  ·unfold fP at hn;rw[h3]at hn;cases hn;rw[hb]at h5;exact eN _ _ (aJ h5)
 have gB:=s.keep h.o (Gn h.o (fun cs fr hc=>by injection hc with _ h1 _;exact hT h1));have hr:=s.keep h.r (Gn h.r (fun cs fr hc=>by cases hc));have hd:=s.keep h.d (Gn h.d (fun cs fr hc=>by cases hc));have N4:=(s.mem _ (ak h.o)).2 h.mo;refine⟨⟨gB,N4⟩,fun {w2} s2 hx=>⟨s2.lt (s.lt h.lt),(h.S.dm s h.own (aR _)).cg s2 (fun k (hk:k=bo)=>by omega),hx,N4,s2.keep hr (fun(hn:D+1=bo)=>by rw[hn,gB]at hr;cases hr),(s.mem _ (ak h.r)).2 h.mr,s2.keep hd (fun(hn:D=bo)=>by rw[hn,gB]at hd;cases hd),(s.mem _ (ak h.d)).2 h.md,ho.step s2 (fun b hb (hn:b=bo)=>ho.eK gB hT (by rw[←hn];exact hb)),hK (hK h.k s.le) s2.le,h.z⟩⟩
end
theorem af7 {α:Type} {A:RT α} {e T C:TypeId} {K:aC→World→Prop} {M M1:aC} {w0 w:World} {bo:Nat} {st:Loop} (hK:∀{M w M' w'},K M w→Le M w M' w'→K M' w') (hM:Lt M1 w) (S:Step M w0 M1 w aD) (go:w.heap[bo]? =some (.cells #[.slice none 0 0] T (0,0))) (mo:M1 bo) (hk:K M1 w) (Wi:w0.heap.size≤bo):
  ∃M',MR A e T C K M w0 bo w.heap.size st (.slice none 0 0) [] M' ((w.alloc (.deferred (some []))).alloc (.loop st)):=by
 have sA:Step M1 w (ins M1 w.heap.size) (w.alloc (.deferred (some []))) aD:=(cW M1 w _).own (aR _) (by simp);have sB:Step (ins M1 w.heap.size) (w.alloc (.deferred (some []))) (ins (ins M1 w.heap.size) (w.heap.size+1)) ((w.alloc (.deferred (some []))).alloc (.loop st)) aD:=(cW _ _ _).own (by simp) (by simp);have hD:(w.alloc (.deferred (some []))).heap[w.heap.size]? =some (.deferred (some [])):=cp w _;have hR:((w.alloc (.deferred (some []))).alloc (.loop st)).heap[w.heap.size+1]? =some (.loop st):=by have:=cp (w.alloc (.deferred (some []))) (.loop st);rwa [World.size_alloc]at this
 exact⟨_,sB.lt (sA.lt hM),(S.aB sA).aB sB,sB.aK (sA.aK go),.inr (.inr mo),hR,.inl rfl,sB.aK hD,.inr (.inl rfl),dE _ _ _ _ _,hK (hK hk sA.le) sB.le,Wi,S.size⟩
end Go.K
namespace Go.K
open Go.Proofs
namespace TKBldJ
theorem Gg:TI Tryz.prog 58 (.slice none 0 0) 1 24:=by unfold TI;kernel_rfl
theorem PD:TI Tryz.prog 72 (.agg #[(.slice none 0 0),(.slice none 0 0),(.slice none 0 0),(.slice none 0 0)]) 4 96:=by unfold TI;kernel_rfl
theorem zV:TI Tryz.prog 80 (.slice none 0 0) 1 24:=by unfold TI;kernel_rfl
theorem E39:Enters Tryz.prog 39:=enters Tryz.func39 rfl (by decide)
theorem E40:Enters Tryz.prog 40:=enters Tryz.func40 rfl (by decide)
theorem E41:Enters Tryz.prog 41:=enters Tryz.func41 rfl (by decide)
theorem E42:Enters Tryz.prog 42:=enters Tryz.func42 rfl (by decide)
theorem E43:Enters Tryz.prog 43:=enters Tryz.func43 rfl (by decide)
end TKBldJ
open TKBldJ
set_option maxRecDepth 10000
set_option maxHeartbeats 4000000 in
theorem Gr {M:aC} {L:List En} {v0:Value} (w0:World) (hM:Lt M w0) (hv:(RT.en.sl).V M w0 L v0) (hl:∀e∈L,∀f∈e.1.2,f.1.length≤900000∧f.2.length≤900000) (hn:L.length≤100000) (hok:tv (-1) L=true):
  Spec Tryz.prog 11 #[v0] w0 (fun v w=>∃s,v= .tuple #[s,.int .i64 0]∧dg RT.se M w s (pO (fg L))∧Step M w0 M w aD):=by
 have lC:=hM;have hF:=kr hok
 have F7:(keysOf L).length≤500000000:=by
  have h1:=(k4 L).nodup.length_le_of_subset (l₂:=iE L) (fun x hx=>jt.1 hx);have:=ot hF;omega
 have O9:∀k∈keysOf L,k.length≤43:=fun k hk=>wK hF k (jt.1 hk)
 refine bc (args:=[_]) (fn:=Tryz.f11) Tryz.func11 rfl (n:=63) Tryz.ntmps11 ?_;have S:Step M w0 M w0 aD:=(ax _ _).cG (fun _ h=>h.elim) (fun _ h=>h.elim);refine aj (ae (ah rfl rfl (ah rfl rfl (ab (aj (ae ?_))))));refine aX rfl rfl E39 (LS (Z:=fun k=>w0.heap.size≤k) (B:=w0.heap.size) _ hM (aR _) (fun k hk=>hk)) (fun r1 w1 hc=>?_);obtain⟨M1,b1,rfl,_,ie,s1⟩:=hc;replace ie:=ie.IK (Z':=fun k=>w0.heap.size≤k∧k<w1.heap.size) (fun c hc dO=>⟨hc,dO⟩);replace hv:=hv.le s1.le;replace hM:=s1.lt hM;have:=S.size;replace S:=S.aB s1;refine ah rfl rfl (ab (aj (ae ?_)));refine ey M1 PD rfl (fun gO Tj adi adj C4 yn=>?_);obtain⟨KM,yo⟩:∃M',M'=ins M1 gO:=⟨_,rfl⟩;rw[←yo]at yn;have yp:KM gO:=by rw[yo];exact .inl rfl
 change Tj.heap[gO]? =some (.cells #[.slice none 0 0,.slice none 0 0,.slice none 0 0,.slice none 0 0] _ _)at C4;replace hv:=hv.le yn.le;replace ie:=ie.aM yn;replace hM:=yn.lt hM;have:=S.size;replace S:=S.aB yn;refine ab (aj (aj (ae (ad rfl rfl (bJ ej rfl hv rfl (ad rfl rfl (ab (aZ ?_))))))));refine dn (σ:=Nat×Value×Value) (fun q=>[(4,.pointer (some ⟨b1,0,none⟩)),(5,.pointer (some ⟨gO,0,none⟩)),(12,v0),(13,.int .i64 (L.length:Int)),(14,.int .i64 (q.1:Int))]) (fun q w=>∃M' words,Lt M' w∧Step M w0 M' w aD∧(RT.en.sl).V M' w L v0∧om (ZP w0.heap.size gO q.2.1 q.2.2) M' w w0.heap.size b1 (L.take q.1) words (ni (-1) (L.take q.1))∧w.heap[gO]? =some (.cells #[q.2.1,q.2.2,.slice none 0 0,.slice none 0 0] 72 (0,0))∧M' gO∧Own (RT.int .i64) 3 M' w w0.heap.size q.2.1 ((L.take q.1).map (·.1.1))∧Own (RT.int .i64) 3 M' w w0.heap.size q.2.2 ((L.take q.1).map (·.2))∧iB q.2.1 q.2.2∧0≤words∧words≤500*(q.1:Int)∧q.1≤L.length) (fun q=>L.length-q.1) (0,.slice none 0 0,.slice none 0 0) (.cons rfl (.cons rfl (.cons rfl (.cons rfl (.cons rfl .nil))))) ?_ ?_
 ·exact⟨_,0,hM,S,hv,ie.IK (Z':=ZP w0.heap.size gO (.slice none 0 0) (.slice none 0 0)) (fun c hc dO=>⟨hc.1,(fun h=>by have:=hc.2;omega),(fun h=>by cases h),(fun h=>by cases h)⟩),C4,yp,dE _ _ _ _ _,dE _ _ _ _ _,iB.nil _,by omega,by omega,bG _⟩
 ·clear hM S hv ie;rintro⟨i,vi,vs⟩ w ⟨M2,words,hM,S,hv,ie,g2,dD,eM,nI,xw,hw1,hw2,hi⟩;dsimp only at ie g2 eM nI xw hw2 hi ⊢;refine aj (ae (cf rfl rfl rfl (ab (aj ?_))));refine bP rfl (fun c4=>?_) (fun c4=>?_)
  ·refine aT (aj (aZ (aj (ae ?_))));refine cF (M:=M2) ej G6 rfl rfl rfl hv (aq _ _) (by omega) (fun u5 e Il zL=>?_);rw[ay]at Il;obtain⟨Rx,UW⟩:=ME hok Il;have hem:=aA Il;refine de (M:=M2) (A:=RT.en) dU rfl G6 (by decide) rfl rfl rfl zL (aq _ _) (fun v5 oF=>?_);obtain⟨Wl,NY⟩:=UP oF;refine xn (A:=RT.en) (M:=M2) G6 rfl rfl rfl rfl rfl (by assumption) (aq _ _) hM (fun aeV apx wL D6 apy=>?_);have:=ak g2;replace dD:=(D6.mem _ this).2 dD;replace g2:=D6.aK g2;replace hv:=hv.le D6.le;replace eM:=eM.aM D6;replace nI:=nI.aM D6;replace ie:=ie.aM D6;replace hM:=D6.lt hM;have:=S.size;replace S:=S.aB D6;refine ab (aj (aj (ae (ad rfl rfl ?_))));refine de (M:=M2) (A:=RT.en) dU rfl G6 (by decide) rfl rfl rfl wL (aq _ _) (fun v6 uM=>?_);refine aX rfl rfl E40 (LV (Z:=ZP w0.heap.size gO vi vs) _ hM (fun k hk=>⟨by have:=S.size;omega,fun h=>by have:=ak g2;omega,fun h=>by have:=(eM.base k h).2;omega,fun h=>by have:=(nI.base k h).2;omega⟩) ie (by have:=S.size;omega) uM (hl e hem) (fun x hx=>hF x (List.mem_of_mem_take hx)) (by simp;omega) (by omega)) (fun r6 w6 hc=>?_);obtain⟨M6,IP,s6,rfl,_,Su⟩:=hc;replace ie:=Su Rx;have Rc:(pM e).length≤500:=(hF e hem).many;refine aV (v':= .int .i64 0) (by rw[Rx]) ?_;replace eM:=eM.step s6 (fun c hc h=>h.1.2.2.1 hc);replace nI:=nI.step s6 (fun c hc h=>h.1.2.2.2 hc);replace dD:=(s6.mem _ (ak g2)).2 dD;replace g2:=s6.keep g2 (fun h=>h.1.2.1 rfl);replace hv:=hv.le s6.le;replace wL:=wL.le (by decide) s6.le;replace S:=S.cg s6 (fun k hk=>hk.1.1);replace hM:=IP;rw[UW.symm]at ie;refine ah rfl rfl (ab (aj (ae (ad rfl rfl (fp rfl rfl rfl (ab (T.tx rfl ((fun h=>h rfl)) (aT ?_))))))));have g2p:=g2;have Ze:=dD
   have Za:=hv;have Zf:=ie;have BS:=eM;have MS:=nI;have hMp:=hM;have Sp:=S;obtain⟨P6,hP6⟩:∃P6:Value→World→Prop,P6=fun v w'=>Own (RT.int .i64) 3 (mU v) w' w0.heap.size v ((L.take i).map (·.1.1)++[e.1.1])∧(∀c,v.ownBlock=some c→w6.heap.size≤c∨vi.ownBlock=some c):=⟨_,rfl⟩
   have h6:∀{v:Value} {w w':World},P6 v w→Step M6 w M6 w' aD→P6 v w':=fun {v w w'} h s=>by rw[hP6]at h ⊢;exact⟨h.1.Ru s (fun _ _ h=>h),h.2⟩
   apply T.Rt (M:=M6) [0,1,2,3,4,5,6,7,8,9,10,11,13,12,14,15,16] 13 12 37 (.pointer (some ⟨gO,0,none⟩)) [(6,fP vi)] [cT.eq (.pointer (some ⟨gO,0,none⟩)),cT.eq vi,cT.ptr RT.dc e.1,cT.ptr (RT.int .i64) e.1.1,cT.eq (.int .i64 e.1.1),cT.V ((RT.int .i64).sl) [e.1.1],(cT.mk' (fun v w=>P6 v w) (fun h s=>h6 h s)),cT.eq (.pointer (some ⟨gO,1,none⟩)),cT.eq vs,cT.ptr (RT.int .i64) e.2,cT.eq (.int .i64 e.2),cT.V ((RT.int .i64).sl) [e.2],cT.eq (.pointer (some ⟨gO,0,none⟩))] mixed
   ·simp+decide only[xT,sH,eS,j5,je,jf,fB,cV,ig,qc,cond_true,cond_false,Nat.reduceBEq,Nat.reduceAdd,beq_self_eq_true];rfl
   ·rfl
   ·rfl
   ·rfl
   ·rfl
   ·rfl
   ·rfl
   ·rfl
   ·rfl
   ·rfl
   ·rfl
   ·rfl
   ·exact fun ρ w h=>yS (size:=1) (o:=0) (o':=0) bU rfl rfl kG (by decide) (h (.tmp 5) _ rfl) w
   ·intro p hp b hb;simp only[bX,dJ,or_false]at hp;subst hp;exact eM.mut_ b hb
   ·exact fun p hp=>by
     simp only[bX,dJ,or_false]at hp;subst hp;show(6:Nat)≠12;decide
   ·exact vX.st (by exact⟨fun _ _ _ _=>trivial,⟨fun _ _ _ _=>trivial,⟨fun _ _ _ _=>trivial,⟨fun _ _ _ _=>trivial,⟨fun _ _ _ _=>trivial,⟨fun _ _ _ _=>trivial,⟨fun p hp b hb=>(by simp at hp),⟨fun _ _ _ _=>trivial,⟨fun _ _ _ _=>trivial,⟨fun _ _ _ _=>trivial,⟨fun _ _ _ _=>trivial,⟨fun _ _ _ _=>trivial,⟨fun _ _ _ _=>trivial,trivial⟩⟩⟩⟩⟩⟩⟩⟩⟩⟩⟩⟩⟩)
   intro wR9 sA9;have MT:=sA9 M6;have:=ak g2;replace dD:=(MT.mem _ this).2 dD;replace g2:=MT.aK g2;replace hv:=hv.le MT.le;replace wL:=wL.le (by decide) MT.le;replace eM:=eM.aM MT;replace nI:=nI.aM MT;replace ie:=ie.aM MT;replace hM:=MT.lt hM;have:=S.size;replace S:=S.aB MT;have g2R:=g2;have Zg:=eM;have apA:=nI;have hz6:=MT.size;refine⟨?_,?_⟩
   ·refine aG ?_ ?_
    ·intro wD E sD;replace sD:Step M6 _ M6 wD (fP vi):=sD;refine bN (o':=0) bU rfl rfl kG (by decide) rfl rfl ?_;exact ab ⟨rfl,rfl,_,rfl,rfl,ax _ _⟩
    refine aG ?_ ?_
    ·intro wD E sD;replace sD:Step M6 _ M6 wD aD:=sD;refine aP (aL ao rfl rfl rfl (sD.aK g2R) rfl ?_);exact ab ⟨rfl,rfl,_,rfl,rfl,ax _ _⟩
    refine aG ?_ ?_
    ·intro wD E sD;replace sD:Step M6 _ M6 wD (fP vi):=sD;refine aS (M:=M6) (A:=RT.en) (B:=RT.dc) dU rfl rfl oZ (by decide) XH rfl rfl (by decide) wL sD.le (fun uf IU=>?_);exact ab ⟨rfl,rfl,_,rfl,IU,ax _ _⟩
    refine aG ?_ ?_
    ·intro wD E sD;replace sD:Step M6 _ M6 wD (fP vi):=sD;intro v2 G9;refine aS (M:=M6) (A:=RT.dc) (B:=RT.int .i64) a8 rfl rfl I3 (by decide) XG rfl rfl (by decide) (show dg RT.dc M6 wD v2 e.1 from G9) (aq _ _) (fun uf IU=>?_);exact ab ⟨rfl,rfl,_,rfl,IU,ax _ _⟩
    refine aG ?_ ?_
    ·intro wD E sD;replace sD:Step M6 _ M6 wD (fP vi):=sD;intro v3 AE;refine cd (M:=M6) aw rfl rfl (show dg (RT.int .i64) M6 wD v3 e.1.1 from AE) (aq _ _) (fun kq=>?_);exact ab ⟨rfl,rfl,_,rfl,rfl,ax _ _⟩
    refine aG ?_ ?_
    ·intro wD E sD;replace sD:Step M6 _ M6 wD aD:=sD;refine aP ?_;refine dQ (A:=RT.int .i64) (hn:=by decide) (M:=M6) ao I3 (by decide) rfl rfl (sD.lt hM) (gm Wl) (.inr ⟨rfl,rfl⟩) (fun uS wS hS sS=>?_);exact ab ⟨rfl,rfl,_,rfl,hS,sS⟩
    refine aG ?_ ?_
    ·intro wD E sD;replace sD:Step M6 _ M6 wD aD:=sD;refine aP ?_;intro v5 oF;replace sD:Step M6 wR9 M6 wD aD:=sD;refine nP (M:=M6) (base:=w0.heap.size) ao I3 rfl rfl rfl rfl (Zg.aM sD) (show((RT.int .i64).sl).V M6 wD [e.1.1] v5 from oF) (aq _ _) (by simp;omega) (by simp;omega) (by have:=sD.size;have:=S.size;omega) (fun vA wA hoA sA hFA=>?_);exact ab ⟨rfl,rfl,_,rfl,by show P6 vA wA;rw[hP6];exact⟨hoA.lone,fun c hc=>(hFA c hc).elim (fun h=> .inl (by have:=sD.size;omega)) .inr⟩,sA.back⟩
    refine aG ?_ ?_
    ·intro wD E sD;replace sD:Step M6 _ M6 wD (fP vi):=sD;refine bN (o':=1) bU rfl rfl kG (by decide) rfl rfl ?_;exact ab ⟨rfl,rfl,_,rfl,rfl,ax _ _⟩
    refine aG ?_ ?_
    ·intro wD E sD;replace sD:Step M6 _ M6 wD (fP vi):=sD;refine aP (aL ao rfl rfl rfl (sD.keep g2R (fun h=>Zg.eK g2R (by decide) h)) rfl ?_);exact ab ⟨rfl,rfl,_,rfl,rfl,ax _ _⟩
    refine aG ?_ ?_
    ·intro wD E sD;replace sD:Step M6 _ M6 wD (fP vi):=sD;refine aS (M:=M6) (A:=RT.en) (B:=RT.int .i64) dU rfl rfl I3 (by decide) en1 rfl rfl (by decide) wL sD.le (fun uf IU=>?_);exact ab ⟨rfl,rfl,_,rfl,IU,ax _ _⟩
    refine aG ?_ ?_
    ·intro wD E sD;replace sD:Step M6 _ M6 wD (fP vi):=sD;intro v9 Iv;refine cd (M:=M6) aw rfl rfl (show dg (RT.int .i64) M6 wD v9 e.2 from Iv) (aq _ _) (fun kq=>?_);exact ab ⟨rfl,rfl,_,rfl,rfl,ax _ _⟩
    refine aG ?_ ?_
    ·intro wD E sD;replace sD:Step M6 _ M6 wD (fP vi):=sD;refine aP ?_;refine dQ (A:=RT.int .i64) (hn:=by decide) (M:=M6) ao I3 (by decide) rfl rfl (sD.lt hM) (gm NY) (.inr ⟨rfl,rfl⟩) (fun uS wS hS sS=>?_);exact ab ⟨rfl,rfl,_,rfl,hS,sS⟩
    refine aG ?_ ?_
    ·intro wD E sD;replace sD:Step M6 _ M6 wD (fP vi):=sD;refine aP (aP ?_);intro v2 G9;intro v3 AE;refine aP ?_;intro v5 oF;intro v6 uM;refine aP (aP (bN (o':=0) bU rfl rfl kG (by decide) rfl rfl ?_));exact ab ⟨rfl,rfl,_,rfl,rfl,ax _ _⟩
    exact xo
   ·intro Ro DX;replace DX:Step M6 _ M6 Ro (fP vi):=DX;refine aP (aP ?_);intro aei LW;intro apC akA;refine aP ?_;intro apD akB;intro BU HD;refine aP (aP ?_);intro apE akC;refine aP ?_;intro Zh Gt;refine aP ?_;replace HD:P6 BU Ro:=HD;rw[hP6]at HD;obtain⟨tW,Zi⟩:=HD;replace Gt:((RT.int .i64).sl).V M6 Ro [e.2] Zh:=Gt;have sX:Step M6 w6 M6 Ro (fP vi):=(MT.cG (fun _ h=>h.elim) (fun b h=>BS.mut_ b h)).trans DX (fun b _ h=>h);have agd:=MS.step sX (fun c hc h=>xw c h hc);refine nP (M:=M6) (base:=w0.heap.size) ao I3 rfl rfl rfl rfl agd Gt (aq _ _) (by simp;omega) (by simp;omega) (by have:=Sp.size;have:=sX.size;omega) (fun v12 V3 PJ zM UX=>?_)
    have Lx:∀c,BU.ownBlock=some c→vs.ownBlock≠some c:=fun c hc hv=>by
     rcases Zi c hc with h|h
     ·have:=(MS.base c hv).2;omega
     ·exact xw c h hv
    have Zj:=tW.Ru zM (fun c hc h=>Lx c hc h)
    have Zk:iB v12 BU:=fun c hc Zl=>by
     rcases UX c hc with h|h
     ·have:=(tW.base c Zl).2;omega
     ·exact Lx c Zl h
    have age:∀c,v12.ownBlock=some c→w6.heap.size≤c∨vs.ownBlock=some c:=fun c hc=>(UX c hc).elim (fun h=> .inl (by have:=sX.size;omega)) .inr
    have sZ:Step M6 w6 (jA M6 v12) V3 (fun k=>fP vi k∨fP vs k):=(sX.cG (fun _ h=> .inl h) (fun b h=>h.elim (BS.mut_ b) (MS.mut_ b))).trans zM (fun b _ h=> .inr h);obtain⟨PK,I0⟩:∃M',M'=jA (jA M6 v12) BU:=⟨_,rfl⟩;have sW:Step M6 w6 PK V3 (fun k=>fP vi k∨fP vs k):=by rw[I0];exact sZ.Y7 (fun c hc=>⟨(Zj.base c hc).2,(Zi c hc).elim .inl (fun h=> .inr (.inr (BS.mut_ c h)))⟩)
    have eM:=Zj.OI (M':=PK) (by rw[I0];exact fun b hb=> .inl hb);have nI:=PJ.OI (M':=PK) (by rw[I0];exact fun b hb=> .inr (.inl hb));have dD:=(sW.mem _ (ak g2p)).2 Ze;have g2:=sW.keep g2p (fun h=>h.elim (BS.eK g2p (by decide)) (MS.eK g2p (by decide)));have ie:=((Zf.IK (Z':=fun k=>ZP w0.heap.size gO vi vs k∧ZP w0.heap.size gO BU v12 k) (fun c hc dO=>⟨hc,hc.1,hc.2.1,fun h=>(Zi c h).elim (fun h=>by omega) hc.2.2.1,fun h=>(age c h).elim (fun h=>by omega) hc.2.2.2⟩)).step sW (fun k hk hz=>hk.elim hz.1.2.2.1 hz.1.2.2.2)).IK (Z':=ZP w0.heap.size gO BU v12) (fun c hc _=>hc.2);have hv:=Za.le sW.le;have S:=Sp.cg sW (fun k hk=>hk.elim (fun h=>(BS.base k h).1) (fun h=>(MS.base k h).1));have hM:=sW.lt hMp;refine ab ⟨rfl,rfl,fun h=>absurd rfl h,?_⟩;refine cu (M:=PK) kG rfl rfl g2 rfl (by obtain⟨_,_,he,_⟩:=eM.isSlice;rw[he];rfl) dD (fun TQ g14 jV=>?_);replace g14:TQ.heap[gO]? =some (.cells #[BU,vs,.slice none 0 0,.slice none 0 0] 72 (0,0)):=g14;replace eM:=eM.step jV (fun c hc (h:c=gO)=>eM.eK g2 (by decide) (h▸hc));replace nI:=nI.step jV (fun c hc (h:c=gO)=>nI.eK g2 (by decide) (h▸hc));replace dD:=(jV.mem _ (ak g2)).2 dD;replace ie:=ie.step jV (fun k (hk:k=gO) hz=>hz.2.1 hk);replace hv:=hv.le jV.le;replace S:=S.cg jV (fun k (hk:k=gO)=>by rw[hk];omega);replace hM:=jV.lt hM;clear g2;have g2:=g14;refine ab ⟨rfl,rfl,fun h=>absurd rfl h,?_⟩;refine bN (o':=1) bU rfl rfl kG (by decide) rfl rfl ?_;refine ab ⟨rfl,rfl,fun h=>absurd rfl h,?_⟩;refine cu (M:=PK) kG rfl rfl g2 rfl (by obtain⟨_,_,he,_⟩:=nI.isSlice;rw[he];rfl) dD (fun Wj g16 AS=>?_);replace g16:Wj.heap[gO]? =some (.cells #[BU,v12,.slice none 0 0,.slice none 0 0] 72 (0,0)):=g16;replace eM:=eM.step AS (fun c hc (h:c=gO)=>eM.eK g2 (by decide) (h▸hc));replace nI:=nI.step AS (fun c hc (h:c=gO)=>nI.eK g2 (by decide) (h▸hc));replace dD:=(AS.mem _ (ak g2)).2 dD
    replace ie:=ie.step AS (fun k (hk:k=gO) hz=>hz.2.1 hk);replace hv:=hv.le AS.le;replace S:=S.cg AS (fun k (hk:k=gO)=>by rw[hk];omega);replace hM:=AS.lt hM;clear g2;have g2:=g16;refine ab ⟨rfl,rfl,fun h=>absurd rfl h,?_⟩;refine nN (ae (bD rfl rfl rfl (by omega) (ad rfl rfl (ab ?_))));have et:L.take (i+1)=L.take i++[e]:=by rw[cb,Il,cY]
    rw[et]at ie;refine⟨rfl,(i+1,BU,v12),(.cons rfl (.cons rfl (.cons rfl (.cons rfl (.cons rfl .nil))))),?_,?_⟩
    ·exact⟨_,_,hM,S,hv,by rw[et];exact ie,g2,dD,by rw[et,eA];exact eM,by rw[et,eA];exact nI,Zk.symm,by omega,by dsimp only;omega,by dsimp only;omega⟩
    ·dsimp only;omega
  ·refine cL (aj (ae ?_));have hLi:L.take i=L:=br (by omega);rw[hLi]at ie eM nI;refine ad rfl rfl ?_;refine aX rfl rfl E41 (F6 _ hM ie hF (by omega)) (fun rk w11 hc=>?_);obtain⟨AX,IT⟩:=hc;have:=ak g2;replace dD:=(IT.mem _ this).2 dD;replace g2:=IT.aK g2;replace hv:=hv.le IT.le;replace eM:=eM.aM IT;replace nI:=nI.aM IT;replace ie:=ie.aM IT;replace hM:=IT.lt hM;have:=S.size;replace S:=S.aB IT;refine bN (o':=2) bU rfl rfl zz (by decide) rfl rfl ?_;refine cu (M:=M2) zz rfl rfl g2 rfl (pF AX rfl rfl) dD (fun Dj cQ fG=>?_);change Dj.heap[_]? =some (Obj.cells #[vi,vs,rk,.slice none 0 0] _ _)at cQ;have:=ak g2;replace dD:=(fG.mem _ this).2 dD;replace hv:=hv.le fG.le;replace AX:=AX.le fG.le;replace eM:=eM.step fG (fun c hc (h:c=gO)=>eM.eK g2 (by decide) (h▸hc));replace nI:=nI.step fG (fun c hc (h:c=gO)=>nI.eK g2 (by decide) (h▸hc));replace ie:=ie.stepT fG (by first|exact fun k hk=>by(obtain⟨cs,hc⟩:=fF.isCells hk;exact⟨cs,_,hc,by decide,by decide,by decide⟩)|exact fun k (hk:k=gO)=>⟨_,_,hk▸g2,by decide,by decide,by decide⟩);replace hM:=fG.lt hM;have:=S.size;replace S:=S.trans fG (fun k hk h=>by have h:_=_:=h;subst h;first|(exfalso;omega)|(show _≤_;omega)|exact⟨by first|omega|assumption,(S.mem _ hk).1 ((fG.mem _ (ak g2)).1 dD)⟩|exact .inl rfl|exact .inr rfl|exact .inr (.inl rfl)|exact .inr (.inr rfl)|exact .inr (.inr (.inl rfl))|exact rfl);have Lb:=cQ;clear g2;have g2:=Lb;clear Lb;refine ab (aj (aj (ae (bN (o':=2) bU rfl rfl zz (by decide) rfl rfl (aL aQ rfl rfl rfl g2 rfl (aV (v':=rk) rfl (bJ aQ rfl AX rfl (ad rfl rfl (ab (aZ ?_))))))))));refine dn (σ:=Nat×Value) (fun q=>[(4,.pointer (some ⟨b1,0,none⟩)),(5,.pointer (some ⟨gO,0,none⟩)),(44,rk),(45,.int .i64 ((keysOf L).length:Int)),(46,.int .i64 (q.1:Int))]) (fun q w=>∃M',Lt M' w∧Step M w0 M' w aD∧om (ZP w0.heap.size gO vi vs) M' w w0.heap.size b1 L words (ni (-1) L)∧w.heap[gO]? =some (.cells #[vi,vs,rk,q.2] 72 (0,0))∧M' gO∧Own (RT.int .i64) 3 M' w w0.heap.size vi (L.map (·.1.1))∧Own (RT.int .i64) 3 M' w w0.heap.size vs (L.map (·.2))∧Own ((RT.po).sl) 80 M' w w0.heap.size q.2 (((keysOf L).take q.1).map (pk L))∧(RT.str.sl).V M' w (keysOf L) rk∧q.1≤(keysOf L).length) (fun q=>(keysOf L).length-q.1) (0,.slice none 0 0) (.cons rfl (.cons rfl (.cons rfl (.cons rfl (.cons rfl .nil))))) ?_ ?_
   ·exact⟨_,hM,S,ie,g2,dD,eM,nI,dE _ _ _ _ _,AX,bG _⟩
   ·clear hM S ie g2 dD eM nI AX hv;rintro⟨i3,vl⟩ w ⟨M3,hM,S,ie,g2,dD,eM,nI,fF,AX,hi3⟩;dsimp only at g2 fF hi3 ⊢;refine aj (ae (cf rfl rfl rfl (ab (aj ?_))));refine bP rfl (fun OZ=>?_) (fun OZ=>?_)
    ·refine aT (aj (aZ (aj (ae ?_))));refine cF (M:=M3) aQ I9 rfl rfl rfl AX (aq _ _) (by omega) (fun u14 k UY agf=>?_);rw[ay]at UY;refine bV (M:=M3) aH rfl rfl rfl rfl rfl agf (aq _ _) (fun vk kB=>?_);obtain rfl:=ix kB;refine ah rfl rfl (ab ?_);apply T.ql 4 [0,1] 2 aD mixed rfl rfl rfl rfl;intro Ut Mk;have pY:=Mk M3;have:=ak g2;replace dD:=(pY.mem _ this).2 dD;replace g2:=pY.aK g2;replace AX:=AX.le pY.le;replace eM:=eM.aM pY;replace nI:=nI.aM pY;replace fF:=fF.aM pY;replace ie:=ie.aM pY;replace hM:=pY.lt hM;have:=S.size;replace S:=S.aB pY;refine bN (o':=3) bU rfl rfl Gg (by decide) rfl rfl ?_;refine ab ⟨rfl,rfl,rfl,?_⟩;refine aL kE rfl rfl rfl (by first|assumption|exact cR pY (by assumption)) rfl ?_;refine ab ⟨rfl,rfl,rfl,?_⟩;refine ad rfl rfl ?_;refine ab ⟨rfl,rfl,rfl,?_⟩;refine ad rfl rfl ?_;refine ab ⟨rfl,rfl,rfl,?_⟩;refine ff ?_;refine⟨jd ⟨jj bU rfl Gg (by decide),⟨eI rfl g2 (fun h=>h),trivial⟩⟩,?_⟩;have kp:=kd aD Ut;refine aX rfl rfl E42 (F8 (k:=k) _ hM ie hF (by omega) (by have:=O9 k (aA UY);omega)) (fun r15 w15 hc=>?_);obtain⟨Co,xg⟩:=hc;have:=ak g2;replace dD:=(xg.mem _ this).2 dD;replace g2:=xg.aK g2;replace AX:=AX.le xg.le;replace eM:=eM.aM xg;replace nI:=nI.aM xg;replace fF:=fF.aM xg;replace ie:=ie.aM xg;replace hM:=xg.lt hM;have:=S.size;replace S:=S.aB xg;refine(fun(kp:eO _ _ _)=>ab ⟨rfl,rfl,fun _=>kp,?_⟩) (by first|exact kp|exact kp.sG (by assumption)|exact kp.goN (by assumption)|exact kp.go (by assumption) (fun _ _ h=>by first|exact h|exact h.elim));refine dQ (A:=((RT.po).sl)) (hn:=by decide) (M:=M3) kE zV (by decide) rfl rfl hM (Co) (.inr ⟨rfl,rfl⟩) (fun akD Rk yV j3=>?_)
     have:=ak g2;replace dD:=(j3.mem _ this).2 dD;replace g2:=j3.aK g2;replace AX:=AX.le j3.le;replace Co:=Co.le j3.le;replace eM:=eM.aM j3;replace nI:=nI.aM j3;replace fF:=fF.aM j3;replace ie:=ie.aM j3;replace hM:=j3.lt hM;have:=S.size;replace S:=S.aB j3;refine(fun(kp:eO _ _ _)=>ab ⟨rfl,rfl,fun _=>kp,?_⟩) (by first|exact kp|exact kp.sG (by assumption)|exact kp.goN (by assumption)|exact kp.go (by assumption) (fun _ _ h=>by first|exact h|exact h.elim));refine cX (M:=M3) (base:=w0.heap.size) kE zV rfl rfl rfl rfl fF yV (aq _ _) (by simp;omega) (by simp;omega) (S.size) (fun MU Zm Zn UZ jx=>?_);have:=ak g2;replace dD:=(jx.mem _ this).2 dD;replace g2:=jx.keep g2 (fun h=>by first|exact fF.ec g2 h|exact fF.eK g2 (by decide) h|(have:=(fF.base _ h).1;omega));replace AX:=AX.le jx.le;replace Co:=Co.le jx.le;replace yV:=yV.le jx.le;replace eM:=eM.step jx (fun b h1 h2=>eM.dA fF (by decide) h1 h2);replace nI:=nI.step jx (fun b h1 h2=>nI.dA fF (by decide) h1 h2);replace ie:=ie.stepT jx (by first|exact fun k hk=>by(obtain⟨cs,hc⟩:=fF.isCells hk;exact⟨cs,_,hc,by decide,by decide,by decide⟩)|exact fun k (hk:k=gO)=>⟨_,_,hk▸g2,by decide,by decide,by decide⟩);replace hM:=jx.lt hM;have:=S.size;replace S:=S.dm jx fF (aR _);replace fF:=UZ;refine ab ⟨rfl,rfl,fun h=>absurd rfl h,?_⟩;refine bN (o':=3) bU rfl rfl Gg (by decide) rfl rfl ?_;refine ab ⟨rfl,rfl,fun h=>absurd rfl h,?_⟩;refine cu (M:=Zm) Gg rfl rfl g2 rfl (by obtain⟨_,_,he,_⟩:=fF.isSlice;rw[he];rfl) dD (fun Zo Ry qI=>?_);change Zo.heap[_]? =some (Obj.cells #[vi,vs,rk,MU] _ _)at Ry;have:=ak g2;replace dD:=(qI.mem _ this).2 dD;replace AX:=AX.le qI.le;replace Co:=Co.le qI.le;replace yV:=yV.le qI.le;replace eM:=eM.step qI (fun c hc (h:c=gO)=>eM.eK g2 (by decide) (h▸hc))
     replace nI:=nI.step qI (fun c hc (h:c=gO)=>nI.eK g2 (by decide) (h▸hc));replace fF:=fF.step qI (fun c hc (h:c=gO)=>fF.eK g2 (by decide) (h▸hc));replace ie:=ie.stepT qI (by first|exact fun k hk=>by(obtain⟨cs,hc⟩:=fF.isCells hk;exact⟨cs,_,hc,by decide,by decide,by decide⟩)|exact fun k (hk:k=gO)=>⟨_,_,hk▸g2,by decide,by decide,by decide⟩);replace hM:=qI.lt hM;have:=S.size;replace S:=S.trans qI (fun k hk h=>by have h:_=_:=h;subst h;first|(exfalso;omega)|(show _≤_;omega)|exact⟨by first|omega|assumption,(S.mem _ hk).1 ((qI.mem _ (ak g2)).1 dD)⟩|exact .inl rfl|exact .inr rfl|exact .inr (.inl rfl)|exact .inr (.inr rfl)|exact .inr (.inr (.inl rfl))|exact rfl);have Lb:=Ry;clear g2;have g2:=Lb;clear Lb;refine ab ⟨rfl,rfl,fun h=>absurd rfl h,?_⟩;refine nN (ae (bD rfl rfl rfl (by omega) (ad rfl rfl (ab ?_))));refine⟨rfl,(i3+1,MU),(.cons rfl (.cons rfl (.cons rfl (.cons rfl (.cons rfl .nil))))),?_,?_⟩
     ·exact⟨_,hM,S,ie,g2,dD,eM,nI,by rw[cb,UY,cY,eA];exact fF,AX,by dsimp only;omega⟩
     ·dsimp only;omega
    ·refine cL (aj (ae (iM (vs:=[vi,vs,rk,vl]) bU rfl PD rfl rfl rfl g2 ?_)));rw[br (by omega)]at fF;have Uo:RT.pa.V M _ (fg L) _:=Ya (x:=fg L) (eM.close lC S (by show(L.map _).length≤_;rw[aI];omega)) (nI.close lC S (by show(L.map _).length≤_;rw[aI];omega)) (AX.le (Le.close lC S)) (fF.close lC S (by show((keysOf L).map _).length≤_;rw[aI];omega));replace S:=S.back;replace hM:=S.lt lC;refine aX rfl rfl E43 (yR (p:=fg L) _ hM Uo (HB hF (by omega))) (fun r17 w17 hc=>?_);obtain⟨JF,MV,_⟩:=hc;obtain⟨sg,rfl,yh⟩:=MV (MF hok (by omega));replace S:=S.aB JF;refine bK rfl rfl rfl (bK rfl rfl rfl (ah rfl rfl (ah rfl rfl (ab (aN ?_)))));exact eU rfl rfl rfl ⟨sg,rfl,yh,S⟩
end Go.K
namespace Go.K
open Go.Proofs
set_option maxRecDepth 10000
theorem vG {id:Int}:∀(fs:List Fd) (i:Nat) (out:List Fd),lR (id,out)=0→lR (id,od id i out fs)=0
 |[],_,_,h=>h
 |x::fs,i,out,h=>by
  unfold od
  split
  ·split
   ·rename_i h1;exact vG fs _ _ h1
   ·exact vG fs _ _ h
  ·exact h
theorem pv {id:Int}:∀(fs:List Fd) (i:Nat) (out:List Fd),sV out→sV (od id i out fs)
 |[],_,_,h=>h
 |x::fs,i,out,h=>by
  unfold od
  split
  ·rename_i hi
   split
   ·exact pv fs _ _ (h.snoc (yv x hi))
   ·exact pv fs _ _ h
  ·exact h
theorem I1 (d:Dc):lR (pH d)=0:=vG d.2 0 [] rfl
theorem D7 (d:Dc):sV (pH d).2:=pv d.2 0 [] (fun x h=>by cases h)
theorem D8 {e:En}:∀{L:List En} {last:Int},tv last (L++[e])=(tv last L&&decide (mV (ni last L) e=0))
 |[],last=>by show(decide (mV last e=0)&&true)=(true&&decide (mV last e=0));rw[Bool.and_true,eT]
 |x::L,last=>by rw[kJ];show(decide (mV last x=0)&&tv x.2 (L++[e]))=(decide (mV last x=0)&&tv x.2 L&&decide (mV (ni x.2 L) e=0));rw[D8 (L:=L),Bool.and_assoc]
theorem yW {e:En}:∀{L:List En} {last:Int},ni last (L++[e])=e.2
 |[],_=>rfl
 |x::L,last=>by simp only[kJ,ni];exact yW
theorem D9 (l:List Dc) {a s:Int} (ha:0≤a) (hs:1≤s):∀k,tv (-1) (fj l a s k)=true∧ni (-1) (fj l a s k)<a+s*(k:Int)
 |0=>⟨rfl,by show(-1:Int)<_;simp;omega⟩
 |k+1=>by
  obtain⟨h1,h2⟩:=D9 l ha hs k;have e1:a+s*((k+1:Nat):Int)=a+s*(k:Int)+s:=by rw[Int.natCast_add,Int.mul_add];simp;omega
  cases h:l[k]? with
  |none=>rw[yA (List.getElem?_eq_none_iff.1 h),e1];exact⟨h1,by omega⟩
  |some d=>
   rw[yz h,D8,yW,h1,e1]
   have:mV (ni (-1) (fj l a s k)) (pH d,a+s*(k:Int))=0:=by
    unfold mV;rw[if_neg (fun h=>h (I1 d)),if_neg (by show¬(a+s*(k:Int)≤_);omega)]
   exact⟨by rw[this];rfl,by show a+s*(k:Int)<_;omega⟩
theorem AY {l:List Dc} {a s:Int}:∀{k:Nat} {e:En},e∈fj l a s k→∃d,e.1=pH d
 |0,e,h=>by cases h
 |k+1,e,h=>by
  rw[fj]at h;rcases ck.1 h with h|h
  ·exact AY h
  ·split at h
   ·rename_i d _;rw[bE.1 h];exact⟨d,rfl⟩
   ·cases h
theorem Gu {l:List Dc} {a s:Int} {k:Nat}:∀e∈fj l a s k,∀f∈e.1.2,f.1.length≤900000∧f.2.length≤900000:=fun e he f hf=>by
 obtain⟨d,hd⟩:=AY he;rw[hd]at hf;have:=D7 d f hf;omega
end Go.K
namespace Go.K
variable {P:Program} {r:Option Nat} {n:Nat} {L:Sl} {ds:List Deferred} {w:World} {K:Kt} {ops:Array Oper} {rest:List Oper} {d:Nat} {x y:Operand} {ty:TypeId} {pos:String} {af:Array Edge} {α:Type} {A:RT α}
def BV {α:Type} (A:RT α):Prop:=∀(M M':aC) (w w':World) (x:α) (vs:List Value),A.R M w x vs→A.R M' w' x vs
theorem dV.PL {M M':aC} {w w':World} (hA:BV A):∀{xs:List α} {C:List Value},dV A M w xs C→dV A M' w' xs C
 |[],_,h=>h
 |_::_,_,⟨vs,rest,h1,h2,h3⟩=>⟨vs,rest,h1,hA _ _ _ _ _ _ h2,dV.PL hA h3⟩
theorem Own.MW {e:TypeId} {M M2:aC} {w':World} {base:Nat} {v:Value} {xs:List α} (hA:BV A) (h:Own A e M2 w' base v xs) (s:Step M w M2 w' aD) (hb:w.heap.size≤base) (M1:aC):Own A e (jA M1 v) w' base v xs∧Step M1 w (jA M1 v) w' aD:=by
 have NV:=h.base;obtain⟨⟨C,hr,ha⟩,hm⟩:=h;refine⟨⟨⟨C,hr,ha.PL hA⟩,fun b hb=> .inl hb⟩,fun hl b A7=>?_,s.os,s.tape,s.output,s.size,fun b A7=>⟨fun h=>h.resolve_left fun e=>by have:=(NV b e).1;omega,.inr⟩,s.same,fun b h=>h.elim⟩;rcases A7 with h|h
 ·exact(NV b h).2
 ·exact iu (hl b h) s.size
theorem Own.Gv {hn:0<A.n} {e:TypeId} {M M1 M2:aC} {w':World} {base:Nat} {v:Value} {xs:List α} (hA:BV A) (h:Own A e M2 w' base v xs) (s:Step M w M2 w' aD) (hb:w.heap.size≤base) (hM:Lt M1 w) (hlen:xs.length≤140737488355328):(A.sl hn).V M1 w' xs v∧Step M1 w M1 w' aD:=by
 have NV:=h.base;obtain⟨h1,h2⟩:=h.MW hA s hb M1;exact⟨h1.sl (fun b _ Ix=>⟨fun h=>Ix (.inr h),rfl⟩) (fun b wz hM'=>by have h3:=(NV b wz).1;have h4:=hM b hM';omega) hlen,s.any M1⟩
end Go.K
namespace Go.K
open Go.Proofs
set_option maxRecDepth 10000
def gv (l:List Bool):List Int:=(l.zipIdx.filter fun p=>p.1).map fun p=>(p.2:Int)
theorem vH (l:List Bool):(gv l).length≤l.length:=by
 unfold gv;rw[aI];exact eJ (l5 _ _) (by simp)
end Go.K

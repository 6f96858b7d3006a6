/- What the law 'MergeCounts' needs of walks and plain Lean, part 4: nothing is assumed beyond the texts that it imports. -/
import Derived.KernelRfl
import Derived.Test.YtbobcaffmbaadaaGreatDoorProg
import Derived.Test.YtbobcaffmbaadaaGreatDoorZMergeCounts1
import Derived.Test.YtbobcaffmbaadaaGreatDoorZMergeCounts2
import Derived.Test.YtbobcaffmbaadaaGreatDoorZMergeCounts3
set_option linter.unusedVariables false
set_option linter.unusedSimpArgs false
namespace Go.K
open Go.Proofs
namespace TKBldE
theorem zM:TI Tryz.prog 80 (.slice none 0 0) 1 24:=by unfold TI;kernel_rfl
theorem F4:TI Tryz.prog 151 (.map none) 1 8:=by unfold TI;kernel_rfl
theorem UW:Enters Tryz.prog 51:=enters Tryz.func51 rfl (by decide)
theorem E90:Enters Tryz.prog 90:=enters Tryz.func90 rfl (by decide)
theorem E91:Enters Tryz.prog 91:=enters Tryz.func91 rfl (by decide)
end TKBldE
open TKBldE
set_option maxRecDepth 10000
theorem fH.HK {P:Program} {kt:TypeId} {w:World} {b clock:Nat} {es:List MapEntry} (hk:P.underlying kt=some .string) (h:fH P kt w b es clock):∃ks:List (List UInt8),es.map (·.key)=ks.map sv∧ks.Nodup:=by
 have key:∀es:List MapEntry,(∀e∈es,∃l,keyOf P kt e.key=some l)→∃ks:List (List UInt8),es.map (·.key)=ks.map sv:=by
  intro es
  induction es with
  |nil=>exact fun _=>⟨[],rfl⟩
  |cons e es ih=>
   intro h;obtain⟨ks,h1⟩:=ih fun x hx=>h x (bU _ hx)
   obtain⟨l,hl⟩:=h e (bG ..);obtain⟨x,h3,_,h4⟩:=Maps.keyOf_str hk hl;exact⟨x::ks,by simp only[dQ,h1,h3]⟩
 obtain⟨ks,h1⟩:=key es h.ok;refine⟨ks,h1,?_⟩;have h3:=cA.2 h.keys;rw[h1]at h3;exact(cA.1 h3).imp fun h e=>h (by rw[e])
theorem DP {M:aD} {w:World}:∀{l:List (List UInt8)},(∀x∈l,x.length≤140737488355328)→dZ RT.str M w l (l.map Go.Proofs.encStr)
 |[],_=>rfl
 |x::l,h=>⟨[.string ⟨x.toArray⟩],_,rfl,⟨rfl,h x (bG ..)⟩,DP fun y hy=>h y (bU _ hy)⟩
theorem MH (M:aD) (w:World) (M':aD) (w':World) (x:List UInt8) (vs:List Value) (h:RT.str.R M w x vs):RT.str.R M' w' x vs:=h
theorem wy {L:List En} (hF:∀x∈L,kX x.1):∀k∈iD L,k.length≤43:=fun k hk=>by
 obtain⟨e,he,h1⟩:=uI.1 hk;obtain⟨t,ht,rfl⟩:=bP.1 h1;have:=(hF e he).term ht;unfold dy;simp;omega
theorem om {L:List En} (hF:∀x∈L,kX x.1):(iD L).length≤500*L.length:=by
 induction L with
 |nil=>simp[iD]
 |cons e L ih=>
  have h1:=ih fun x hx=>hF x (bU _ hx)
  have h2:=AM (hF e (bG ..));show((dj (pb e)).map dy++iD L).length≤_;rw[bc,aG,cD];have h2:(dj (pb e)).length≤500:=h2;omega
theorem Gb {Z M:aD} {B b:Nat} {L:List En} {words last:Int} (w0:World) (hM:Lt M w0) (hb:oh Z M w0 B b L words last) (hF:∀x∈L,kX x.1) (hLn:L.length≤1000000):
  Spec Tryz.prog 41 #[.pointer (some ⟨b,0,none⟩)] w0 (fun v w=>(RT.str.sl).V M w (keysOf L) v∧Step M w0 M w aC):=by
 obtain⟨mb,vl,es,clock,gb,ei,fj,hB,HG,ho,hW,hR,zl⟩:=hb;obtain⟨ks,PE,oD⟩:=hW.HK aF
 have eR:∀x,x∈ks↔x∈iD L:=fun x=>by
  rw[←hR.k x];constructor
  ·intro hx;have:sv x∈es.map (·.key):=by rw[PE];exact gQ hx
   obtain⟨e,he,h⟩:=bP.1 this;exact⟨e,he,h⟩
  ·rintro⟨e,he,h⟩;have:sv x∈ks.map sv:=by rw[←PE,←h];exact gQ he
   obtain⟨y,hy,h1⟩:=bP.1 this;rw[←BE h1];exact hy
 have Gc:ks.length≤500000000:=by
  have h1:=oD.length_le_of_subset (l₂:=iD L) (fun x hx=>(eR x).1 hx);have h2:=om hF;omega
 have hen:es.length=ks.length:=by have:=congrArg List.length PE;simpa using this
 refine bm (args:=[_]) (fn:=Tryz.f41) Tryz.func41 rfl (n:=9) Tryz.ntmps41 ?_;have S:Step M w0 M w0 aC:=(ax _ _).cH (fun _ h=>h.elim) (fun _ h=>h.elim);refine aj (ae (ah rfl rfl (ab (aj (ae (ad rfl rfl (bN rfl ⟨_,rfl⟩ rfl (bK (o':=1) dT rfl rfl F4 (by decide) rfl rfl (aP iE rfl rfl rfl gb rfl (aU (v':= .map (some mb)) rfl ?_))))))))));refine aY rfl rfl E91 (F1 _ _) (fun r w1 hc=>?_);obtain⟨rfl,hw1⟩:=hc;have s1:Step M w0 M w1 aC:=by rw[hw1];exact dm _ w0 _
 have L8:=zL hw1;have:=ak gb;replace ei:=(s1.mem _ this).2 ei;replace gb:=s1.aM gb;replace fj:=(s1.mem _ (ak hW.at_)).2 fj;replace hW:=hW.aL s1;replace hM:=s1.lt hM;have:=S.size;replace S:=S.aB s1;obtain⟨m,hO,DQ,qj⟩:=hW.aeM aF fj (by unfold maxLen;omega) ks PE;refine aY rfl rfl E90 (BI hO L8 (by omega)) (fun r2 w2 hc=>?_);obtain⟨⟨ss,hss,pX,_⟩,s2⟩:=hc;have SU:ss.Perm ks:=hss.trans DQ;have hmp:=jb ss fun x y=>decide (x≤y)
 have pM:(ss.mergeSort fun x y=>decide (x≤y))=keysOf L:=Uz (I4 (SU.nodup_iff.2 oD)) (iX L) fun x=>by rw[hmp.mem_iff,SU.mem_iff,eR,jn]
 have hlen:ss.length=(keysOf L).length:=by rw[←pM,List.length_mergeSort]
 rw[pM,hlen]at pX;have afq:∀x∈keysOf L,x.length≤140737488355328:=fun x hx=>by have:=wy hF x (jn.1 hx);omega
 have uN:Own RT.str 9 (mS r2) w2 w1.heap.size r2 (keysOf L):=⟨⟨_,pX,DP afq⟩,fun b hb=>hb⟩;have Cn:(RT.str.sl).V M w2 (keysOf L) r2:=uN.tell MH (fun b hb h=>by have:=(uN.base b hb).1;have:=hM b h;omega) (by have:=SU.length_eq;omega);have:=ak gb;replace ei:=(s2.mem _ this).2 ei;replace gb:=s2.aM gb;replace fj:=(s2.mem _ (ak hW.at_)).2 fj;replace hW:=hW.aL s2;replace hM:=s2.lt hM;have:=S.size;replace S:=S.aB s2;refine ah rfl rfl (ab (aQ ?_));exact aV rfl rfl ⟨Cn,S⟩
theorem Gd {Z M:aD} {B b:Nat} {L:List En} {words last:Int} {k:List UInt8} (w0:World) (hM:Lt M w0) (hb:oh Z M w0 B b L words last) (hF:∀x∈L,kX x.1) (hLn:L.length≤1000000) (Cl:k.length≤140737488355328):
  Spec Tryz.prog 42 #[.pointer (some ⟨b,0,none⟩),sv k] w0 (fun v w=>(RT.po.sl).V M w (pk L k) v∧Step M w0 M w aC):=by
 have kR:=hM;obtain⟨mb,vl,es,clock,gb,ei,fj,hB,HG,ho,hW,hR,zl⟩:=hb;obtain⟨kl,Fb⟩:=Mm k Cl;obtain⟨rH,UX⟩:=pf k L 0 hF;replace rH:(pk L k).length≤L.length:=rH;replace UX:∀p∈pk L k,_:=UX;refine bm (args:=[_,_]) (fn:=Tryz.f42) Tryz.func42 rfl (n:=30) Tryz.ntmps42 ?_;have S:Step M w0 M w0 aC:=(ax _ _).cH (fun _ h=>h.elim) (fun _ h=>h.elim);refine aj (ae (ah rfl rfl (ab (aj (ae (ah rfl rfl (ab (aj (aj (ae (ad rfl rfl ?_)))))))))));refine bN rfl ⟨_,rfl⟩ rfl (bK (o':=1) dT rfl rfl F4 (by decide) rfl rfl (aP iE rfl rfl rfl gb rfl (aU (v':= .map (some mb)) rfl (ad rfl rfl ?_))));refine Rg.tM iE tX zM rfl rfl rfl Fb hW (fun WI pW=>?_);have rT:=hR.o _ _ pW;have J2:∀c,WI.ownBlock=some c→c<w0.heap.size:=fun c hc=>(rT.base c hc).2
 clear hR hW ho;refine fE bA rfl rT rfl (ad rfl rfl (ab (aZ ?_)));refine dn (σ:=Nat×Value) (fun q=>[(5,q.2),(13,WI),(14,.int .i64 ((pk L k).length:Int)),(15,.int .i64 (q.1:Int))]) (fun q w=>∃M',Lt M' w∧Step M w0 M' w aC∧Own RT.po 83 M' w w0.heap.size q.2 ((pk L k).take q.1)∧Own RT.po 83 M' w B WI (pk L k)∧q.1≤(pk L k).length) (fun q=>(pk L k).length-q.1) (0,.slice none 0 0) (.cons rfl (.cons rfl (.cons rfl (.cons rfl .nil)))) ?_ ?_
 ·exact⟨M,hM,S,dD _ _ _ _ _,rT,bD _⟩
 ·clear hM S rT;rintro⟨i,u⟩ w ⟨M1,hM,S,hu,rT,hi⟩;dsimp only at hu hi ⊢;refine aj (ae (cg rfl rfl rfl (ab (aj ?_))));refine bI rfl (fun c3=>?_) (fun c3=>?_)
  ·refine aT (aj (aZ (aj (ae ?_))));refine Rg.aeZ bA nW (by decide) rfl rfl rfl rT (by omega) (fun u4 p we EW=>?_);rw[ay]at we;have hp:=UX p (az we);refine Rg.Ml (A:=RT.po) bS rfl nW rfl rfl rfl EW (fun v4 qR=>?_);refine sf (A:=RT.po) (M:=M1) nW rfl rfl rfl rfl rfl (by assumption) (ao _ _) hM (fun TC KW mY lC YN=>?_);replace hu:=hu.aL lC;replace rT:=rT.aL lC;replace hM:=lC.lt hM;have:=S.size;replace S:=S.aB lC;refine ab ?_;apply T.pH 5 [0,1,2] 3 aC mixed rfl rfl rfl rfl;intro wD5 sA5;have PV:=sA5 M1;replace mY:=mY.le (by decide) PV.le;replace hu:=hu.aL PV;replace rT:=rT.aL PV;replace hM:=PV.lt hM;have:=S.size;replace S:=S.aB PV;refine ad rfl rfl ?_;refine ab ⟨rfl,rfl,rfl,?_⟩;refine aK (M:=M1) (A:=RT.po) (B:=RT.int .i64) bS rfl rfl I3 (by decide) (Q9) rfl rfl (by decide) (by assumption) (by repeat (first|exact ao _ _|refine aX (bu (by assumption)) ?_)) (fun Ya Lu=>?_);refine ab ⟨rfl,rfl,rfl,?_⟩;refine cd (M:=M1) aw rfl rfl (by assumption) (by repeat (first|exact ao _ _|refine aX (bu (by assumption)) ?_)) (fun RP=>?_);refine ab ⟨rfl,rfl,rfl,?_⟩;refine aK (M:=M1) (A:=RT.po) (B:=(RT.int .i64).sl) bS rfl rfl kD (by decide) (Tp) rfl rfl (by decide) (by assumption) (by repeat (first|exact ao _ _|refine aX (bu (by assumption)) ?_)) (fun adZ Ht=>?_);refine ab ⟨rfl,rfl,rfl,?_⟩;refine bR (M:=M1) aq rfl rfl rfl rfl rfl (by assumption) (by repeat (first|exact ao _ _|refine aX (bu (by assumption)) ?_)) (fun aoU YO=>?_);refine ab ⟨rfl,rfl,rfl,?_⟩;refine eZ ?_;obtain⟨bb,oo,cs,ee,fr,rfl,lp,_⟩:=Lu.float;refine⟨iA ⟨eS,⟨je bS rfl I3 (by decide),⟨eF rfl lp (fun h=>h),trivial⟩⟩⟩,?_⟩
   have kp:=jG aC wD5;refine aY rfl rfl UW (yA hM YO (by omega)) (fun v5 w5 hc=>?_);obtain⟨qf,s5⟩:=hc;replace mY:=mY.le (by decide) s5.le;replace hu:=hu.aL s5;replace rT:=rT.aL s5;replace hM:=s5.lt hM;have:=S.size;replace S:=S.aB s5;refine(fun(kp:eN _ _ _)=>ab ⟨rfl,rfl,fun _=>kp,?_⟩) (by first|exact kp|exact kp.rF (by assumption)|exact kp.goN (by assumption)|exact kp.go (by assumption) (fun _ _ h=>by first|exact h|exact h.elim));refine iS (places:=[(0,1),(1,1)]) bS nW Xu rfl ⟨_,_,rfl,rfl,_,_,rfl,rfl,rfl⟩ (out:=[_,_]) ⟨0,[_],rfl,rfl,by simp[Value.cells],1,[_],rfl,k8 qf,by simp[Value.cells],rfl⟩ ?_;have Cr:RT.po.V M1 _ p _:=fe (fY RP) qf rfl rfl rfl rfl;refine(fun(kp:eN _ _ _)=>ab ⟨rfl,rfl,fun _=>kp,?_⟩) (by first|exact kp|exact kp.rF (by assumption)|exact kp.goN (by assumption)|exact kp.go (by assumption) (fun _ _ h=>by first|exact h|exact h.elim));refine ep (A:=RT.po) (hn:=by decide) (M:=M1) bA nW (by decide) rfl rfl hM (Cr) (.inl rfl) (fun aoV aoW MI Jd=>?_);replace mY:=mY.le (by decide) Jd.le;replace qf:=qf.le Jd.le;replace hu:=hu.aL Jd;replace rT:=rT.aL Jd;replace hM:=Jd.lt hM;have:=S.size;replace S:=S.aB Jd;refine(fun(kp:eN _ _ _)=>ab ⟨rfl,rfl,fun _=>kp,?_⟩) (by first|exact kp|exact kp.rF (by assumption)|exact kp.goN (by assumption)|exact kp.go (by assumption) (fun _ _ h=>by first|exact h|exact h.elim));refine dd (M:=M1) (base:=w0.heap.size) bA nW rfl rfl rfl rfl hu MI (ao _ _) (by simp;omega) (by simp;omega) (S.size) (fun afr afs aoX YP Je=>?_);replace mY:=mY.le (by decide) Je.le;replace qf:=qf.le Je.le;replace MI:=MI.le Je.le;replace rT:=rT.step Je (fun c hc h=>by have:=J2 c hc;have:=(hu.base c h).1;omega);replace hM:=Je.lt hM;have:=S.size;replace S:=S.dg Je hu (aN _);replace hu:=YP;refine ab ⟨rfl,rfl,fun h=>absurd rfl h,?_⟩
   refine ah rfl rfl ?_;refine ab ⟨rfl,rfl,fun h=>absurd rfl h,?_⟩;refine mM (ae (bC rfl rfl rfl (by omega) (ad rfl rfl (ab ?_))));refine⟨rfl,(i+1,afr),(.cons rfl (.cons rfl (.cons rfl (.cons rfl .nil)))),?_,?_⟩
   ·exact⟨afs,hM,S,by rw[bV,we,cE];exact hu,rT,by dsimp only;omega⟩
   ·dsimp only;omega
  ·refine cK (aj (ae (ad rfl rfl (ah rfl rfl (ab (aQ ?_))))));rw[aW (by omega)]at hu;exact aV rfl rfl ⟨hu.close kR S (by omega),S.back⟩
end Go.K
namespace Go.K
open Go.Proofs
namespace TKBldF
theorem aft:TI Tryz.prog 198 (.agg #[(.slice none 0 0),(.slice none 0 0)]) 2 48:=by unfold TI;kernel_rfl
theorem afu:placesOf Tryz.prog 198=[(0,1),(1,1)].map some:=by kernel_rfl
theorem afv:Enters Tryz.prog 198:=enters Tryz.func198 rfl (by decide)
theorem afw:Enters Tryz.prog 199:=enters Tryz.func199 rfl (by decide)
theorem afx:Enters Tryz.prog 200:=enters Tryz.func200 rfl (by decide)
end TKBldF
open TKBldF
set_option maxRecDepth 10000
def DR:Option (List UInt8)→List (List UInt8)→Bool
 |_,[]=>true
 |o,x::l=>(match o with|none=>true|some a=>decide (a<x))&&DR (some x) l
theorem yD {l:List (List UInt8)} {k:Nat} {x:List UInt8} (h:l[k]? =some x) (o:Option (List UInt8)):DR o (l.drop k)=((match o with|none=>true|some a=>decide (a<x))&&DR (some x) (l.drop (k+1))):=by
 obtain⟨dV,he⟩:=an.1 h;rw[dG dV,he];rfl
theorem DS {a:List UInt8}:∀{l:List (List UInt8)},Cp (a::l)→DR (some a) l=true
 |[],_=>rfl
 |x::l,h=>by
  have h':=ey.1 h;simp only[DR,bW,decide_eq_true_eq];exact⟨h'.1 x (bG ..),DS h'.2⟩
theorem UY:∀{l:List (List UInt8)},Cp l→DR none l=true
 |[],_=>rfl
 |x::l,h=>by simp only[DR,fc];exact DS h
theorem Jf {M:aD} {v:Value} {l:List Int} (w0:World) (hv:((RT.int .i64).sl).V M w0 l v):
  Spec Tryz.prog 143 #[v] w0 (fun v' w'=>v'= .bool (eA (-1) l)∧w'=w0):=by
 have hlen:=ej hv;refine bm (args:=[_]) (fn:=Tryz.f143) Tryz.func143 rfl (n:=28) Tryz.ntmps143 (aj (ae (ah rfl rfl (ab (aj (aj (ae (ad rfl rfl (bQ aq rfl hv rfl (ad rfl rfl (ab ?_)))))))))));refine aZ ?_;refine dn (σ:=Nat×Int) (fun s=>[(0,v),(5,v),(6,.int .i64 l.length),(7,.int .i64 s.1)]) (fun s w=>w=w0∧s.1≤l.length∧eA (-1) l=eA s.2 (l.drop s.1)∧ -1≤s.2∧(s.1=0→s.2= -1)∧(0<s.1→l[s.1-1]? =some s.2)) (fun s=>l.length-s.1) (0,-1) (.cons rfl (.cons rfl (.cons rfl (.cons rfl .nil)))) ?_ ?_
 ·exact⟨rfl,bD _,rfl,by decide,fun _=>rfl,fun h=>absurd h (jq 0)⟩
 ·rintro⟨k,last⟩ w1 ⟨rfl,hk,hr,WK,h0,h1⟩;dsimp only at hk hr WK h0 h1 ⊢;refine aj (ae (cg rfl rfl rfl (ab (aj ?_))));refine bI rfl (fun c2=>?_) (fun c2=>?_)
  ·refine aT (aj (aZ (aj (ae (ad rfl rfl ?_)))));obtain⟨x,hx⟩:∃x,l[k]? =some x:=⟨_,ar (by omega)⟩;refine cF (M:=M) aq I3 rfl rfl rfl hv (ao _ _) (by omega) (fun u a hg hu=>?_);obtain rfl:x=a:=dH (aH (hg.symm.trans (by simpa using hx)));refine cd (M:=M) aw rfl rfl hu (ao _ _) (fun inx=>?_);refine ah rfl rfl (ah rfl rfl (ab (aj (ae (ad rfl rfl (cg rfl rfl rfl (ad rfl rfl ?_)))))));refine aR (g:=14) rfl (fun lU=>?_) (fun lU=>?_)
   ·refine au rfl rfl rfl rfl (au rfl rfl rfl rfl (au rfl rfl rfl rfl (cq rfl rfl rfl (cq rfl rfl rfl (cq rfl rfl rfl (cq rfl rfl rfl (cq rfl rfl rfl (cq rfl rfl rfl (cq rfl rfl rfl (au rfl rfl rfl rfl (a8 rfl rfl rfl ?_)))))))))));refine ab (nG rfl (aj (ae (ah rfl rfl (ab (aQ ?_))))));refine aV rfl rfl ⟨congrArg Value.bool (dH ?_),rfl⟩;rw[hr,gB hx,decide_eq_false (show¬last<x by omega),kM]
   ·refine al rfl rfl (ad rfl rfl (al rfl rfl (iY rfl rfl rfl (al rfl rfl (ad rfl rfl ?_)))));refine aR (g:=17) rfl (fun Ui=>?_) (fun Ui=>?_)
    ·refine al rfl rfl (ad rfl rfl (al rfl rfl (ad rfl rfl (al rfl rfl (ad rfl rfl (al rfl rfl (fq rfl rfl rfl (by omega) (al rfl rfl ?_))))))));refine cF (M:=M) aq I3 rfl rfl rfl hv (ao _ _) (by omega) (fun u2 a hg wW=>?_);obtain rfl:last=a:=dH (aH (hg.symm.trans (by rw[show((k:Int)-1).toNat=k-1 from by omega];exact h1 (by omega))));refine al rfl rfl ?_;refine cd (M:=M) aw rfl rfl wW (ao _ _) (fun inl=>?_);refine al rfl rfl (gJ rfl rfl rfl (al rfl rfl (a8 rfl rfl rfl (aE rfl rfl rfl (ab ?_)))));refine bI rfl (fun c4=>?_) (fun c4=>?_)
     ·refine aj (ae (ah rfl rfl (ab (aQ ?_))));refine aV rfl rfl ⟨congrArg Value.bool (dH ?_),rfl⟩;rw[hr,gB hx,decide_eq_false (show¬last<x by omega),kM]
     ·refine aT (ae (bC rfl rfl rfl (by omega) (ad rfl rfl (ab ?_))));refine⟨rfl,(k+1,x),(.cons rfl (.cons rfl (.cons rfl (.cons rfl .nil)))),?_,?_⟩
      ·refine⟨rfl,by simp only;omega,?_,by simp only;omega,fun h=>by simp at h,fun _=>by simpa using hx⟩;rw[hr,gB hx,decide_eq_true (show last<x by omega),fc]
      ·simp only;omega
    ·refine au rfl rfl rfl rfl (au rfl rfl rfl rfl (au rfl rfl rfl rfl (au rfl rfl rfl rfl (au rfl rfl rfl rfl (au rfl rfl rfl rfl (au rfl rfl rfl rfl (al rfl rfl (aE rfl rfl rfl (aE rfl rfl rfl (ab (jt rfl ?_)))))))))));refine aT (ae (bC rfl rfl rfl (by omega) (ad rfl rfl (ab ?_))));refine⟨rfl,(k+1,x),(.cons rfl (.cons rfl (.cons rfl (.cons rfl .nil)))),?_,?_⟩
     ·refine⟨rfl,by simp only;omega,?_,by simp only;omega,fun h=>by simp at h,fun _=>by simpa using hx⟩;rw[hr,gB hx,decide_eq_true (show last<x by omega),fc]
     ·simp only;omega
  ·refine cK (aj (ae (ah rfl rfl (ab (aQ ?_)))));refine aV rfl rfl ⟨congrArg Value.bool (dH ?_),rfl⟩;rw[hr,fz (by omega)];rfl
theorem DT {M:aD} {v:Value} {l:List (List UInt8)} (w0:World) (hv:(RT.str.sl).V M w0 l v):
  Spec Tryz.prog 198 #[v] w0 (fun v' w'=>v'= .bool (DR none l)∧w'=w0):=by
 have hlen:=ej hv;refine bm (args:=[_]) (fn:=Tryz.f198) Tryz.func198 rfl (n:=24) Tryz.ntmps198 (aj (ae (ah rfl rfl (ab (aj (aj (ae (ad rfl rfl (bQ aS rfl hv rfl (ad rfl rfl (ab ?_)))))))))));refine aZ ?_;refine dn (σ:=Nat×Option (List UInt8)) (fun s=>[(0,v),(5,v),(6,.int .i64 l.length),(7,.int .i64 s.1)]) (fun s w=>w=w0∧s.1≤l.length∧DR none l=DR s.2 (l.drop s.1)∧(s.1=0→s.2=none)∧(0<s.1→∃a,s.2=some a∧l[s.1-1]? =some a)) (fun s=>l.length-s.1) (0,none) (.cons rfl (.cons rfl (.cons rfl (.cons rfl .nil)))) ?_ ?_
 ·exact⟨rfl,bD _,rfl,fun _=>rfl,fun h=>absurd h (jq 0)⟩
 ·rintro⟨k,o⟩ w1 ⟨rfl,hk,hr,h0,h1⟩;dsimp only at hk hr h0 h1 ⊢;refine aj (ae (cg rfl rfl rfl (ab (aj ?_))));refine bI rfl (fun c2=>?_) (fun c2=>?_)
  ·refine aT (aj (aZ (aj (ae (ad rfl rfl ?_)))));obtain⟨x,hx⟩:∃x,l[k]? =some x:=⟨_,ar (by omega)⟩;refine cF (M:=M) aS I9 rfl rfl rfl hv (ao _ _) (by omega) (fun u a hg hu=>?_);obtain rfl:x=a:=dH (aH (hg.symm.trans (by simpa using hx)));refine bR (M:=M) aF rfl rfl rfl rfl rfl hu (ao _ _) (fun vx rq=>?_);obtain rfl:=fF rq;refine ah rfl rfl (ah rfl rfl (ab (aj (ae (ad rfl rfl (iY rfl rfl rfl (ad rfl rfl ?_)))))));refine aR (g:=14) rfl (fun lU=>?_) (fun lU=>?_)
   ·refine al rfl rfl (ad rfl rfl (al rfl rfl (ad rfl rfl (al rfl rfl (ad rfl rfl (al rfl rfl (fq rfl rfl rfl (by omega) (al rfl rfl ?_))))))));obtain⟨last,rfl,jh⟩:=h1 (by omega);refine cF (M:=M) aS I9 rfl rfl rfl hv (ao _ _) (by omega) (fun u2 a hg wW=>?_);obtain rfl:last=a:=dH (aH (hg.symm.trans (by rw[show((k:Int)-1).toNat=k-1 from by omega];exact jh)));refine al rfl rfl ?_;refine bR (M:=M) aF rfl rfl rfl rfl rfl wW (ao _ _) (fun vl jV=>?_);obtain rfl:=fF jV;refine al rfl rfl (Rg.Uy rfl rfl rfl (a8 rfl rfl rfl (ab ?_)));refine bI rfl (fun c4=>?_) (fun c4=>?_)
    ·refine aj (ae (ah rfl rfl (ab (aQ ?_))));refine aV rfl rfl ⟨congrArg Value.bool (dH ?_),rfl⟩;rw[hr,yD hx];simp[c4]
    ·refine aT (ae (bC rfl rfl rfl (by omega) (ad rfl rfl (ab ?_))));refine⟨rfl,(k+1,some x),(.cons rfl (.cons rfl (.cons rfl (.cons rfl .nil)))),?_,?_⟩
     ·refine⟨rfl,by simp only;omega,?_,fun h=>by simp at h,fun _=>⟨x,rfl,by simpa using hx⟩⟩;rw[hr,yD hx]
      first
      |(rw[h0 (by omega)];simp;done)
      |(have c4':=dJ.1 c4;simp[c4'];done)
     ·simp only;omega
   ·refine au rfl rfl rfl rfl (au rfl rfl rfl rfl (au rfl rfl rfl rfl (au rfl rfl rfl rfl (au rfl rfl rfl rfl (au rfl rfl rfl rfl (au rfl rfl rfl rfl (aE rfl rfl rfl (ab (jt rfl (aT (ae ?_)))))))))));refine bC rfl rfl rfl (by omega) (ad rfl rfl (ab ?_));refine⟨rfl,(k+1,some x),(.cons rfl (.cons rfl (.cons rfl (.cons rfl .nil)))),?_,?_⟩
    ·refine⟨rfl,by simp only;omega,?_,fun h=>by simp at h,fun _=>⟨x,rfl,by simpa using hx⟩⟩;rw[hr,yD hx]
     first
     |(rw[h0 (by omega)];simp;done)
     |(have c4':=dJ.1 c4;simp[c4'];done)
    ·simp only;omega
  ·refine cK (aj (ae (ah rfl rfl (ab (aQ ?_)))));refine aV rfl rfl ⟨congrArg Value.bool (dH ?_),rfl⟩;rw[hr,fz (by omega)];rfl
theorem vr {α:Type} {A:RT α} {M:aD} {w:World} {v:Value} {x:α} (h:cQ A M w v x):v.cells= #[v]:=by
 obtain⟨b,o,vs,rfl,_⟩:=h;rfl
theorem Ge {M:aD} {v0 v1:Value} {ns:List (List UInt8)} {ts:List Li} (w0:World) (hM:Lt M w0) (hn:(RT.str.sl).V M w0 ns v0) (ht:(((RT.li).ptr).sl).V M w0 ts v1) (hl:ns.length≤1099511627776) (Ox:ts.length≤1099511627776):
  Spec Tryz.prog 147 #[v0,v1] w0 (fun v w=>∃p,v= .tuple #[p,.int .i64 (if ns.length=ts.length∧DR none ns=true then 0 else 1)]∧(ns.length=ts.length→DR none ns=true→cQ RT.di M w p (ns,ts))∧Step M w0 M w aC):=by
 refine bm (args:=[_,_]) (fn:=Tryz.f147) Tryz.func147 rfl (n:=22) Tryz.ntmps147 ?_;have S:Step M w0 M w0 aC:=(ax _ _).cH (fun _ h=>h.elim) (fun _ h=>h.elim);refine aj (ae (ah rfl rfl (ah rfl rfl (ab (aj (aj (ae (ad rfl rfl (bQ aS rfl hn rfl (ad rfl rfl (bQ ec rfl ht rfl ?_)))))))))));refine fD rfl rfl rfl (ad rfl rfl ?_);refine aR (g:=11) rfl (fun uY=>?_) (fun uY=>?_)
 ·refine au rfl rfl rfl rfl (au rfl rfl rfl rfl (au rfl rfl rfl rfl (a8 rfl rfl rfl (ab (nG rfl (aj (ae (ah rfl rfl (ah rfl rfl (ab (aQ ?_)))))))))))
  first
  |exact fm rfl rfl rfl ⟨_,by rw[if_neg (fun h=>uY (by omega))],fun h=>absurd (by omega) uY,S⟩
  |exact fm rfl rfl rfl ⟨_,by rw[if_neg (fun h=>c1 h.2)],fun _ h=>absurd h c1,S⟩
 ·refine al rfl rfl (ad rfl rfl (al rfl rfl ?_));refine aY rfl rfl afv (DT _ hn) (fun r wc hc=>?_);obtain⟨rfl,rfl⟩:=hc;refine al rfl rfl (mO rfl rfl (aU (v':= .bool (decide (¬DR none ns=true))) (by simp) (aE rfl rfl rfl (ab ?_))));refine bI rfl (fun c1=>?_) (fun c1=>?_)
  ·refine aj (ae (ah rfl rfl (ah rfl rfl (ab (aQ ?_)))))
   first
   |exact fm rfl rfl rfl ⟨_,by rw[if_neg (fun h=>uY (by omega))],fun h=>absurd (by omega) uY,S⟩
   |exact fm rfl rfl rfl ⟨_,by rw[if_neg (fun h=>c1 h.2)],fun _ h=>absurd h c1,S⟩
  ·refine aT (aj (ae (ad rfl rfl ?_)));refine aY rfl rfl afw (L9 hM hn hl) (fun v3 w3 hc=>?_);obtain⟨xo,s3⟩:=hc;replace hn:=hn.le s3.le;replace ht:=ht.le s3.le;replace hM:=s3.lt hM;have:=S.size;replace S:=S.aB s3;refine ad rfl rfl ?_;refine aY rfl rfl afx (PM hM ht Ox) (fun v4 w4 hc=>?_);obtain⟨qR,s4⟩:=hc;replace hn:=hn.le s4.le;replace ht:=ht.le s4.le;replace xo:=xo.le s4.le;replace hM:=s4.lt hM;have:=S.size;replace S:=S.aB s4;refine iS (places:=[(0,1),(1,1)]) jQ aft afu rfl ⟨_,_,rfl,rfl,_,_,rfl,rfl,rfl⟩ (out:=[_,_]) ⟨0,[_],rfl,k8 xo,by simp[Value.cells],1,[_],rfl,k8 qR,by simp[Value.cells],rfl⟩ ?_;refine nP (A:=RT.di) (a:=(ns,ts)) rfl rfl hM (fe xo qR rfl rfl rfl rfl) rfl (fun u5 w5 jy s5 _=>?_);replace hn:=hn.le s5.le;replace ht:=ht.le s5.le;replace xo:=xo.le s5.le;replace qR:=qR.le s5.le;replace hM:=s5.lt hM;have:=S.size;replace S:=S.aB s5;refine ah rfl rfl (ah rfl rfl (ab (aQ ?_)));exact fm rfl rfl rfl ⟨_,by rw[if_pos ⟨by omega,dJ.1 c1⟩],fun _ _=>jy,S⟩
end Go.K
namespace Go.K
theorem Gf (n:Nat):IntKind.u8.wrap (n:Int)=((UInt8.ofNat n).toNat:Int):=by
 rw[IntKind.wrap_u8];simp[UInt8.toNat_ofNat]
theorem YQ:∀m:Nat,m<256→(BitVec.ofInt 8 (m:Int)|||BitVec.ofInt 8 128).toNat=128+m%128:=by decide+kernel
theorem PW (n:Nat):IntKind.u8.wrap ((BitVec.ofInt IntKind.u8.bits (IntKind.u8.wrap (n:Int))|||BitVec.ofInt IntKind.u8.bits 128).toNat:Int)=((UInt8.ofNat (128+n%128)).toNat:Int):=by
 have h1:IntKind.u8.wrap (n:Int)=((n%256:Nat):Int):=by rw[IntKind.wrap_u8];omega
 rw[h1];show IntKind.u8.wrap ((BitVec.ofInt 8 ((n%256:Nat):Int)|||BitVec.ofInt 8 128).toNat:Int)=_;rw[YQ (n%256) (by omega),IntKind.wrap_u8,show n%256%128=n%128 from by omega];simp[UInt8.toNat_ofNat]
theorem afz (n:Nat):((n:Int)).fdiv (2^min (Int.toNat 7) IntKind.i64.bits)=((n/128:Nat):Int):=by
 show((n:Int)).fdiv 128=_;rw[Int.fdiv_eq_ediv_of_nonneg _ (by decide)];rfl
theorem Gg:∀m:Nat,m<256→(BitVec.ofInt 8 (m:Int)&&& ~~~ BitVec.ofInt 8 128).toNat=m%128:=by decide+kernel
theorem DV (c:UInt8):IntKind.u8.wrap ((BitVec.ofInt IntKind.u8.bits (c.toNat:Int)&&& ~~~ BitVec.ofInt IntKind.u8.bits 128).toNat:Int)=((c.toNat%128:Nat):Int):=by
 show IntKind.u8.wrap ((BitVec.ofInt 8 (c.toNat:Int)&&& ~~~ BitVec.ofInt 8 128).toNat:Int)=_;rw[Gg c.toNat (by have:=c.toNat_lt;omega),IntKind.wrap_u8];omega
theorem MJ (k n x:Nat) (hk:k≤8) (hn:n<128^k) (hx:x<128):
  IntKind.i64.wrap ((BitVec.ofInt IntKind.i64.bits (n:Int)|||BitVec.ofInt IntKind.i64.bits (IntKind.i64.wrap ((x:Int)*2^min (Int.toNat (7*(k:Int))) IntKind.i64.bits))).toNat:Int)=((n+x*128^k:Nat):Int):=by
 have e7:Int.toNat (7*(k:Int))=7*k:=by omega
 have e1:min (7*k) 64=7*k:=by omega
 have e2:(128:Nat)^k=2^(7*k):=by rw[Nat.pow_mul]
 have hp:2^(7*k)≤2^56:=np (by decide) (by omega);have hb:x*2^(7*k)≤127*2^(7*k):=gr _ (by omega);rw[e2]at hn ⊢;show IntKind.i64.wrap ((BitVec.ofInt 64 (n:Int)|||BitVec.ofInt 64 (IntKind.i64.wrap ((x:Int)*2^min (Int.toNat (7*(k:Int))) 64))).toNat:Int)=_;rw[e7,e1];have e3:((x:Int)*2^(7*k))=((x*2^(7*k):Nat):Int):=by simp
 have e5:n|||x*2^(7*k)=n+x*2^(7*k):=by
  rw[Nat.or_comm,Nat.mul_comm x,←Nat.two_pow_add_eq_or_of_lt hn x,Nat.add_comm]
 rw[e3];generalize x*2^(7*k)=y at*
 generalize 2^(7*k)=z at*
 have e4:∀m:Nat,m<2^64→(BitVec.ofInt 64 (m:Int))=BitVec.ofNat 64 m:=fun m _=>by simp
 rw[j9 (y:Int) (by omega),e4 n (by omega),e4 y (by omega),BitVec.toNat_or,BitVec.toNat_ofNat,BitVec.toNat_ofNat,nL (by omega),nL (by omega),e5,j9 _ (by omega)]
theorem sV (x:Int): -9223372036854775808≤IntKind.i64.wrap x∧IntKind.i64.wrap x≤9223372036854775807:=by rw[IntKind.wrap_i64];omega
end Go.K
namespace Go.K
open Go.Proofs
set_option maxRecDepth 10000
theorem BL {M:aD} {w0:World} {v:Value} {b:List UInt8} {n:Nat} (hM:Lt M w0) (hv:(RT.u8.sl).V M w0 b v) (hb:b.length≤70368744177664) (hn:n≤9223372036854775807):
  Spec Tryz.prog 195 #[v,.int .i64 n] w0 (fun v' w'=>∃M',Step M w0 M' w' aC∧Own RT.u8 5 M' w' w0.heap.size v' (b++put n)):=by
 have h9:=lr hn;refine bm (args:=[_,_]) (fn:=Tryz.f195) Tryz.func195 rfl (n:=26) Tryz.ntmps195 (aj (ae (ah rfl rfl (ab (aj (ae (ad rfl rfl (ad rfl rfl ?_))))))))
 first|refine bQ bH rfl (by assumption) rfl ?_|refine fE bH rfl (by assumption) rfl ?_
 refine ad rfl rfl ?_
 first|refine bQ bH rfl (by assumption) rfl ?_|refine fE bH rfl (by assumption) rfl ?_
 refine Rg.E5 bH I5 rfl rfl rfl rfl hv ⟨rfl,rfl⟩ (fun a pW ql=>?_);refine ah rfl rfl (ab (aj (aZ ?_)));refine dn (σ:=Nat×Value×List UInt8) (fun s=>[(0,s.2.1),(1,.int .i64 s.1)]) (fun s w=>s.2.2++put s.1=b++put n∧∃M1,Lt M1 w∧Step M w0 M1 w aC∧Grow RT.u8 (by decide) 5 M1 w w0.heap.size s.2.1 s.2.2) (fun s=>s.1) (n,_,b) (.cons rfl (.cons rfl .nil)) ?_ ?_
 ·exact⟨rfl,M,hM,ax _ _,.inr ⟨a,rfl,ql,pW⟩⟩
 ·rintro⟨k,u0,acc⟩ w1 ⟨zy,M1,nI,s1,hg⟩;dsimp only at zy hg ⊢;have hlen:=congrArg List.length zy;have tp:=O2 k;simp only[bc]at hlen;refine aj (aj (ae (ad rfl rfl (dY rfl rfl rfl (ab ?_)))));refine bI rfl (fun c2=>?_) (fun c2=>?_)
  ·refine aT (aZ (aj (ae (ad rfl rfl (ad rfl rfl (rZ aw cz rfl rfl (Rg.or rfl rfl rfl (aU (congrArg _ (PW _)) ?_))))))));refine ep (A:=RT.u8) (hn:=by decide) (M:=M1) bH I5 (by decide) rfl rfl nI (SI.2 rfl) (.inr ⟨rfl,rfl⟩) (fun u w2 hu s2=>?_);refine Rg.He (M:=M1) (base:=w0.heap.size) bH I5 rfl rfl rfl rfl (hg.le s2) hu (ao _ _) (by simp) (by simp;omega) (by simp;omega) (dW s1.size s2.size) (fun v3 M3 w3 yE s3=>?_);refine ah rfl rfl (ab (ae (ad rfl rfl (Rg.shr rfl rfl rfl (by omega) (aU (congrArg _ (afz _)) (ah rfl rfl (ab ?_)))))));refine⟨rfl,(k/128,v3,acc++[UInt8.ofNat (128+k%128)]),(.cons rfl (.cons rfl .nil)),?_,?_⟩
   ·exact⟨by rw[←zy,Fi (n:=k) (by omega)];simp,M3,s3.lt (s2.lt nI),(s1.aB s2).l7 s3 (aN _),.inl yE⟩
   ·show k/128<k;omega
  ·refine cK (aj (ae (ad rfl rfl (ad rfl rfl (rZ aw cz rfl rfl (aU (congrArg _ (Gf _)) ?_))))));refine ep (A:=RT.u8) (hn:=by decide) (M:=M1) bH I5 (by decide) rfl rfl nI (SI.2 rfl) (.inr ⟨rfl,rfl⟩) (fun u w2 hu s2=>?_);refine Rg.He (M:=M1) (base:=w0.heap.size) bH I5 rfl rfl rfl rfl (hg.le s2) hu (ao _ _) (by simp) (by simp;omega) (by simp;omega) (dW s1.size s2.size) (fun v3 M3 w3 yE s3=>?_);refine ah rfl rfl (ab (aQ ?_));refine aV rfl rfl ⟨M3,(s1.aB s2).l7 s3 (aN _),?_⟩;rw[←zy,xM (n:=k) (by omega)];exact yE
theorem MK {M:aD} {w0:World} {v:Value} {b:List UInt8} {n:Nat} (hM:Lt M w0) (hv:(RT.u8.sl).V M w0 b v) (hb:b.length≤70368744177664) (hn:n≤9223372036854775807):
  Spec Tryz.prog 195 #[v,.int .i64 n] w0 (fun v' w'=>Step M w0 M w' aC∧(RT.u8.sl).V M w' (b++put n) v'):=
 (BL hM hv hb hn).mono fun _ _ ⟨_,s,ho⟩=>⟨s.back,Own.close hM s ho (by have:=lr hn;simp;omega)⟩
theorem DW {M:aD} {w0:World} {v:Value} {b:List UInt8} {at_:Int} (hv:(RT.u8.sl).V M w0 b v) (ML: -9223372036854775808≤at_∧at_≤9223372036854775807):
  Spec Tryz.prog 263 #[v,.int .i64 at_] w0 (fun v' w'=>v'= .tuple #[.int .i64 (get b at_).1,.int .i64 (get b at_).2.1,.int .i64 (get b at_).2.2]∧w0=w'):=by
 have hlen:=ej hv;refine bm (args:=[_,_]) (fn:=Tryz.f263) Tryz.func263 rfl (n:=54) Tryz.ntmps263 (aj (ae (ah rfl rfl (ah rfl rfl (ah rfl rfl (ab (aj (aj (ae (ad rfl rfl (cg rfl rfl rfl ?_)))))))))));refine ad rfl rfl ?_;refine aR (g:=12) rfl (fun iH=>?_) (fun iH=>?_)
 ·obtain UZ:at_<0∨(b.length:Int)<at_:= .inl iH;refine au rfl rfl rfl rfl (au rfl rfl rfl rfl (au rfl rfl rfl rfl (au rfl rfl rfl rfl (a8 rfl rfl rfl (ab (nG rfl (aj (ae (ah rfl rfl (ah rfl rfl (ah rfl rfl ?_)))))))))));refine ab (aQ ?_);have iU:get b at_=(0,0,1):=by unfold get;rw[if_pos UZ]
  exact rC rfl rfl rfl rfl ⟨by rw[iU],rfl⟩
 ·refine al rfl rfl (ad rfl rfl (al rfl rfl (ad rfl rfl (al rfl rfl ?_))))
  first|refine bQ bH rfl (by assumption) rfl ?_|refine fE bH rfl (by assumption) rfl ?_
  refine al rfl rfl (iY rfl rfl rfl (aE rfl rfl rfl (ab ?_)));refine bI rfl (fun c1=>?_) (fun c1=>?_)
  ·obtain UZ:at_<0∨(b.length:Int)<at_:= .inr c1;refine aj (ae (ah rfl rfl (ah rfl rfl (ah rfl rfl (ab (aQ ?_))))));have iU:get b at_=(0,0,1):=by unfold get;rw[if_pos UZ]
   exact rC rfl rfl rfl rfl ⟨by rw[iU],rfl⟩
  ·refine aT (aj (ae (ah rfl rfl (ab (aj (aj (ae (ad rfl rfl (ad rfl rfl (ad rfl rfl ?_))))))))))
   first|refine bQ bH rfl (by assumption) rfl ?_|refine fE bH rfl (by assumption) rfl ?_
   refine ad rfl rfl (bC rfl rfl rfl (by omega) (Rg.min2 rfl rfl rfl ?_));refine Rg.Kd bH I5 rfl rfl rfl rfl hv (by omega) (fun u hu=>?_);rw[show(min (b.length:Int) (at_+9)).toNat=min b.length (at_.toNat+9)from by omega,To]at hu;have iU:get b at_=match nU ((b.drop at_.toNat).take 9) 0 0 with|some (n,k)=>((n:Int),at_+k,0)|none=>(0,0,2):=by unfold get;rw[if_neg (by omega)];rfl
   have kE:((b.drop at_.toNat).take 9).length≤9:=by rw[bg];omega
   generalize (b.drop at_.toNat).take 9=bs at hu iU kE
   first|refine bQ bH rfl (by assumption) rfl ?_|refine fE bH rfl (by assumption) rfl ?_
   refine ad rfl rfl (ab (aZ ?_));refine dn (σ:=Nat×Nat) (fun s=>[(1,.int .i64 at_),(25,u),(26,.int .i64 bs.length),(27,.int .i64 s.1),(7,.int .i64 s.2)]) (fun s w=>w0=w∧s.1≤bs.length∧s.2<128^s.1∧nU (bs.drop s.1) s.1 s.2=nU bs 0 0) (fun s=>bs.length-s.1) (0,0) (.cons rfl (.cons rfl (.cons rfl (.cons rfl (.cons rfl .nil))))) ?_ ?_
   ·exact⟨rfl,bD _,by decide,rfl⟩
   ·rintro⟨k,m⟩ w1 ⟨rfl,hk,hm,hg⟩;dsimp only at hk hm hg ⊢;refine aj (ae (cg rfl rfl rfl (ab (aj ?_))));refine bI rfl (fun c5=>?_) (fun c5=>?_)
    ·refine aT (aj (aZ (aj (ae (ad rfl rfl ?_)))));refine cF (M:=M) bH I5 rfl rfl rfl (by assumption) (by repeat (first|exact ao _ _|refine aX (bu (by assumption)) ?_)) (by omega) (fun aoY PX DX akw=>?_);refine Rg.SK (M:=M) cz rfl rfl (by assumption) (by repeat (first|exact ao _ _|refine aX (bu (by assumption)) ?_)) ?_;refine ah rfl rfl (ah rfl rfl (ab (aj (ae (ad rfl rfl (ad rfl rfl (Rg.andNot rfl rfl rfl (aU (congrArg _ (DV _)) (Rg.uL cz aw rfl rfl (by omega) (ad rfl rfl (Rg.OO rfl rfl rfl (by omega) ?_)))))))))));refine Rg.shl rfl rfl rfl (by omega) (Rg.or rfl rfl rfl (aU (congrArg _ (MJ k m _ (by omega) hm (by omega))) (ah rfl rfl (ab (aj (ae (ad rfl rfl (cg rfl rfl rfl (ab ?_)))))))));refine bI rfl (fun c8=>?_) (fun c8=>?_)
     ·refine aj (aj (ae (ad rfl rfl (qZ rfl rfl rfl (ad rfl rfl ?_)))));refine aR (g:=44) rfl (fun BM=>?_) (fun BM=>?_)
      ·refine al rfl rfl (ad rfl rfl (al rfl rfl (iY rfl rfl rfl (a8 rfl rfl rfl (ab ?_)))));refine bI rfl (fun c9=>?_) (fun c9=>?_)
       ·refine cK (aj (ae (ah rfl rfl (ah rfl rfl (ah rfl rfl (ab (aQ ?_)))))))
        have hr:nU bs 0 0=none:=by
         rw[←hg]
         first
         |(rw[nV (by simpa using DX),if_pos (by omega),if_pos (by omega)])
         |(rw[fz (by omega)];rfl)
        exact rC rfl rfl rfl rfl ⟨by rw[iU,hr],rfl⟩
       ·refine aT (aj (ae (ad rfl rfl (ad rfl rfl (ad rfl rfl (bC rfl rfl rfl (by omega) (bC rfl rfl rfl (by omega) (ah rfl rfl (ah rfl rfl (ah rfl rfl (ab ?_)))))))))));refine aQ ?_;have hr:nU bs 0 0=some (m+PX.toNat%128*128^k,k+1):=by rw[←hg,nV (by simpa using DX),if_pos (by omega),if_neg (by omega)]
        exact rC rfl rfl rfl rfl ⟨by rw[iU,hr];simp;omega,rfl⟩
      ·refine au rfl rfl rfl rfl (au rfl rfl rfl rfl (aE rfl rfl rfl (ab (jt rfl (aT (aj (ae (ad rfl rfl (ad rfl rfl (ad rfl rfl (bC rfl rfl rfl (by omega) ?_)))))))))));refine bC rfl rfl rfl (by omega) (ah rfl rfl (ah rfl rfl (ah rfl rfl (ab (aQ ?_)))));have hr:nU bs 0 0=some (m+PX.toNat%128*128^k,k+1):=by rw[←hg,nV (by simpa using DX),if_pos (by omega),if_neg (by omega)]
       exact rC rfl rfl rfl rfl ⟨by rw[iU,hr];simp;omega,rfl⟩
     ·refine aT (ae (bC rfl rfl rfl (by omega) (ad rfl rfl (ab ?_))));refine⟨rfl,(k+1,m+PX.toNat%128*128^k),(.cons rfl (.cons rfl (.cons rfl (.cons rfl (.cons rfl .nil))))),?_,?_⟩
      ·refine⟨rfl,by simp only;omega,?_,?_⟩
       ·have:=gr (128^k) (show PX.toNat%128≤127 from by omega);simp only[Nat.pow_succ];omega
       ·rw[nV (by simpa using DX),if_neg (by omega)]at hg;exact hg
      ·simp only;omega
    ·refine cK (aj (ae (ah rfl rfl (ah rfl rfl (ah rfl rfl (ab (aQ ?_)))))))
     have hr:nU bs 0 0=none:=by
      rw[←hg]
      first
      |(rw[nV (by simpa using DX),if_pos (by omega),if_pos (by omega)])
      |(rw[fz (by omega)];rfl)
     exact rC rfl rfl rfl rfl ⟨by rw[iU,hr],rfl⟩
theorem zN {M:aD} {w0:World} {v u:Value} {b:List UInt8} {l:List Int} (hM:Lt M w0) (hv:(RT.u8.sl).V M w0 b v) (hu:((RT.int .i64).sl).V M w0 l u) (hb:b.length+9*(l.length+1)≤70368744177664):
  Spec Tryz.prog 196 #[v,u] w0 (fun v' w'=>∃M' x,Step M w0 M' w' aC∧v'= .tuple #[x,.int .i64 (if eA (-1) l then 0 else 1)]∧Own RT.u8 5 M' w' w0.heap.size x (if eA (-1) l then b++eJ l else[])):=by
 have rH:=lr (n:=l.length) (by omega);refine bm (args:=[_,_]) (fn:=Tryz.f196) Tryz.func196 rfl (n:=31) Tryz.ntmps196 (aj (ae (ah rfl rfl (ah rfl rfl (ab (aj (ae (ad rfl rfl (ad rfl rfl (bQ aq rfl hu rfl ?_))))))))));refine aY rfl rfl Ty (BL (M:=M) hM hv (by omega) (by omega)) (fun ub wb Aa=>?_);obtain⟨Mb,sb,jU⟩:=Aa;refine ah rfl rfl (ab (aj (ae (ah rfl rfl (ab (aj (aj (ae (ad rfl rfl (bQ aq rfl hu rfl (ad rfl rfl ?_)))))))))));refine ab (aZ ?_);refine dn (σ:=Nat×Int×Value×List UInt8) (fun s=>[(0,s.2.2.1),(6,.int .i64 s.2.1),(13,u),(14,.int .i64 l.length),(15,.int .i64 s.1)]) (fun s w=>eA (-1) l=eA s.2.1 (l.drop s.1)∧(eA (-1) l=true→s.2.2.2++lQ s.2.1 (l.drop s.1)=b++eJ l)∧s.1≤l.length∧ -1≤s.2.1∧s.2.2.2.length≤b.length+9*(s.1+1)∧∃M1,Lt M1 w∧Step M w0 M1 w aC∧Own RT.u8 5 M1 w w0.heap.size s.2.2.1 s.2.2.2) (fun s=>l.length-s.1) (0,-1,_,b++put l.length) (.cons rfl (.cons rfl (.cons rfl (.cons rfl (.cons rfl .nil))))) ?_ ?_
 ·exact⟨rfl,fun _=>by simp[eJ],bD _,by simp only;omega,by simp;omega,Mb,sb.lt hM,sb,jU⟩
 ·rintro⟨k,last,u0,acc⟩ w1 ⟨hr,zy,hk,WK,hal,M1,nI,s1,ho⟩;dsimp only at hr zy hk WK hal ho ⊢;refine aj (ae (cg rfl rfl rfl (ab (aj ?_))));refine bI rfl (fun c4=>?_) (fun c4=>?_)
  ·refine aT (aj (aZ (aj (ae ?_))));obtain⟨x,hx⟩:∃x,l[k]? =some x:=⟨_,ar (by omega)⟩;have hxr:=A5 hu hx;refine cF (M:=M) aq I3 rfl rfl rfl (hu.le (s1.back).le) (ao _ _) (by omega) (fun YR MM YS HO=>?_);obtain rfl:MM=x:=aH (YS.symm.trans (by simpa using hx));refine cd (M:=M) aw rfl rfl HO (ao _ _) (fun _=>?_);refine ah rfl rfl (ab (aj (aj (ae (ad rfl rfl (ad rfl rfl (gJ rfl rfl rfl (ab ?_))))))));refine bI rfl (fun c6=>?_) (fun c6=>?_)
   ·refine aj (ae (ah rfl rfl (ah rfl rfl (ab (aQ ?_)))));have hrf:eA (-1) l=false:=by rw[hr,gB hx,decide_eq_false (by omega),kM]
    exact fm rfl rfl rfl ⟨M1,_,s1,by rw[hrf];rfl,by rw[hrf];exact dD _ _ _ _ _⟩
   ·refine aT (aj (ae (ad rfl rfl (ad rfl rfl (ad rfl rfl (Rg.SJ rfl rfl rfl (Rg.SJ rfl rfl rfl ?_)))))));have hpx:=lr (n:=(MM-last-1).toNat) (by omega);refine aU (v':= .int .i64 (((MM-last-1).toNat:Nat):Int)) (by rw[IntKind.wrap_i64,IntKind.wrap_i64];congr 1;omega) ?_;have hfz:=s1.freeze (v:=u0) (fun b hb=>(ho.base b hb).1);refine aY rfl rfl Ty (BL (M:=rm M1 u0) (nI.rm u0) (ho.view (by omega)) (by omega) (by omega)) (fun ub wb Aa=>?_);obtain⟨Mb2,sb2,afB⟩:=Aa;refine ah rfl rfl (ab (ae (ad rfl rfl (ah rfl rfl (ab (ae (bC rfl rfl rfl (by omega) (ad rfl rfl (ab ?_)))))))));refine⟨rfl,(k+1,MM,ub,acc++put (MM-last-1).toNat),(.cons rfl (.cons rfl (.cons rfl (.cons rfl (.cons rfl .nil))))),?_,?_⟩
    ·refine⟨?_,fun h=>?_,by simp only;omega,by simp only;omega,by simp only[bc];omega,Mb2,sb2.lt (nI.rm u0),hfz.aB sb2,afB.oL s1.size⟩
     ·rw[hr,gB hx,decide_eq_true (by omega),fc]
     ·rw[←zy h,Iy hx];simp
    ·simp only;omega
  ·refine cK (aj (ae (ad rfl rfl (ah rfl rfl (ah rfl rfl (ab (aQ ?_)))))));have hrt:eA (-1) l=true:=by rw[hr,fz (by omega)];rfl
   have ha:=zy hrt;rw[fz (by omega),lQ,ia]at ha;exact fm rfl rfl rfl ⟨M1,_,s1,by rw[hrt];rfl,by rw[hrt,←ha];exact ho⟩
theorem yF {M:aD} {w0:World} {v u:Value} {b:List UInt8} {l:List Int} (hM:Lt M w0) (hv:(RT.u8.sl).V M w0 b v) (hu:((RT.int .i64).sl).V M w0 l u) (hb:b.length+9*(l.length+1)≤70368744177664):
  Spec Tryz.prog 196 #[v,u] w0 (fun v' w'=>∃x,Step M w0 M w' aC∧v'= .tuple #[x,.int .i64 (if eA (-1) l then 0 else 1)]∧(RT.u8.sl).V M w' (if eA (-1) l then b++eJ l else[]) x):=
 (zN hM hv hu hb).mono fun _ _ ⟨_,x,s,h,ho⟩=>⟨x,s.back,h,Own.close hM s ho (by
  split
  next hr=>
   have rH:=lr (n:=l.length) (by omega);have il:∀x∈l,x≤9223372036854775807:=fun x hx=>by obtain⟨i,hi⟩:=bB.1 hx;exact(A5 hu hi).2
   have:=xN l (-1) (by decide) il hr;simp only[eJ,bc];omega
  next=>simp)⟩
theorem AN {M:aD} {w0:World} {be bb ba:Nat} {v:Value} {b:List UInt8} {at_:Int} (he:w0.heap[be]? =some (.cells #[.int .i64 0] 26 (0,0))) (hb:w0.heap[bb]? =some (.cells #[v] 204 (0,0))) (ha:w0.heap[ba]? =some (.cells #[.int .i64 at_] 3 (0,0))) (eQ:be≠ba) (U0:M be) (WL:M ba) (hv:(RT.u8.sl).V M w0 b v) (ML: -9223372036854775808≤at_∧at_≤9223372036854775807):
  Spec Tryz.prog 287 #[.pointer (some ⟨be,0,none⟩),.pointer (some ⟨bb,0,none⟩),.pointer (some ⟨ba,0,none⟩)] w0 (fun v' w'=>v'= .int .i64 (get b at_).1∧w'.heap[be]? =some (.cells #[.int .i64 (get b at_).2.2] 26 (0,0))∧w'.heap[ba]? =some (.cells #[.int .i64 (get b at_).2.1] 3 (0,0))∧Step M w0 M w' (fun k=>k=be∨k=ba)):=by
 refine bm (args:=[_,_,_]) (fn:=Tryz.f287) Tryz.func287 rfl (n:=15) Tryz.ntmps287 (aj (ae (ah rfl rfl (ab (aj (aj (ae (aP vP rfl rfl rfl (by assumption) rfl (fD rfl rfl rfl (ab ?_))))))))));refine bI rfl (fun c1=>?_) (fun c1=>?_)
 ·exact absurd rfl c1
 ·refine aT (aj (ae (ah rfl rfl (ab (aj (ae (aP bH rfl rfl rfl (by assumption) rfl (aP aw rfl rfl rfl (by assumption) rfl ?_))))))));refine aY rfl rfl XC (DW hv ML) (fun r w1 h1=>?_);obtain⟨rfl,rfl⟩:=h1;refine ad rfl rfl (bZ rfl rfl rfl (bZ rfl rfl rfl (bZ rfl rfl rfl (ah rfl rfl ?_))));refine cw (M:=M) I3 rfl rfl ha rfl rfl WL (fun w1 h1 s1=>?_);refine cw (M:=M) I26 rfl rfl (s1.keep he eQ) rfl rfl U0 (fun w2 h2 s2=>?_);refine ab (aj (ae (ad rfl rfl (ah rfl rfl (ab (aQ ?_))))));refine aV rfl rfl ⟨rfl,h2,s2.keep h1 (Ne.symm eQ),?_⟩;exact(s1.cH (fun b hb=> .inr hb) (fun b hb=>by rcases hb with rfl|rfl<;>assumption)).trans s2 (fun b _ hb=> .inl hb)
theorem yG {M:aD} {w0:World} {v:Value} {b:List UInt8} {at_:Int} (hM:Lt M w0) (hv:(RT.u8.sl).V M w0 b v) (ML: -9223372036854775808≤at_∧at_≤9223372036854775807) (kE:b.length≤1099511627776):
  Spec Tryz.prog 264 #[v,.int .i64 at_] w0 (fun v' w'=>∃x,v'= .tuple #[x,.int .i64 (gR b at_).2.2,.int .i64 (gR b at_).1]∧((RT.int .i64).sl).V M w' (gR b at_).2.1 x∧Step M w0 M w' aC):=by
 refine bm (args:=[_,_]) (fn:=Tryz.f264) Tryz.func264 rfl (n:=48) Tryz.ntmps264 (aj (ae ?_));refine wM M rfl rfl (fun bb w1 L8 ao0 hB s1=>?_);rw[k8 hv]at hB;refine wM (ins M bb) rfl rfl (fun ba w2 hba ao1 hA s2=>?_);refine ah rfl rfl (ah rfl rfl (ah rfl rfl (ab (aj (ae ?_)))));refine eE (ins (ins M bb) ba) I26 rfl (fun be w3 hbe ao2 hE s3=>?_);refine cw (M:=ins (ins (ins M bb) ba) be) I26 rfl rfl hE rfl rfl (.inl rfl) (fun w4 hE4 s4=>?_);have z1:=s1.size;have z2:=s2.size;have z3:=s3.size;have z4:=s4.size;have S4:Step M w0 (ins (ins (ins M bb) ba) be) w4 aC:=((s1.aB s2).aB s3).cj s4 (fun k hk=>by subst hk;omega);have hB4:=s4.keep (s3.aM (s2.aM hB)) (show bb≠be by omega);have hA4:=s4.keep (s3.aM hA) (show ba≠be by omega);refine ab (aj (ae (kg (xs:=[]) rfl rfl rfl (ah rfl rfl (ab (aj (ae (ah rfl rfl (ab (aj (ae ?_)))))))))));refine ah rfl rfl (ab (aj (aj (ae (ad rfl rfl ?_)))));refine zr (first:=[]) (xs:=[]) rfl rfl rfl XD (AN (M:=ins (ins (ins M bb) ba) be) hE4 hB4 hA4 (by omega) (.inl rfl) (.inr (.inl rfl)) (hv.le S4.le) ML) (fun r w5 h5=>?_);obtain⟨rfl,hE5,hA5,s5⟩:=h5;have z5:=s5.size;have S5:=S4.cj s5 (fun k hk=>by omega);have hB5:=s5.keep hB4 (by omega);obtain⟨hn0,hn1,hn2,hn3⟩:=oT b at_;refine aU (v':= .int .i64 (((get b at_).1.toNat:Nat):Int)) (by rw[oH hn0]) (ah rfl rfl (ab (aZ ?_)));refine dn (σ:=Nat×Int×Value×List Int×Int×Int) (fun s=>[(7,.pointer (some ⟨be,0,none⟩)),(3,.pointer (some ⟨ba,0,none⟩)),(8,.func (.func 287) [].toArray [.pointer (some ⟨be,0,none⟩),.pointer (some ⟨bb,0,none⟩),.pointer (some ⟨ba,0,none⟩)].toArray),(9,s.2.2.1),(10,.int .i64 s.2.1),(11,.int .i64 s.1)]) (fun s w=>(s.1:Int)≤9223372036854775807∧(s.2.2.2.2.1=0→gR b at_=andThen s.2.2.2.1 (iC b s.1 s.2.2.2.2.2 s.2.1))∧(s.2.2.2.2.1≠0→gR b at_=(s.2.2.2.2.1,[],0))∧(s.2.2.2.2.1=0→ -1≤s.2.1∧s.2.1≤4611686018427387904∧(s.2.2.2.1.length:Int)≤s.2.2.2.2.2∧s.2.2.2.2.2≤b.length)∧s.2.2.2.1.length≤b.length+1∧∃M1,Lt M1 w∧Step M w0 M1 w aC∧w4.heap.size≤w.heap.size∧M1 be∧M1 ba∧Own (RT.int .i64) 3 M1 w w4.heap.size s.2.2.1 s.2.2.2.1∧w.heap[be]? =some (.cells #[.int .i64 s.2.2.2.2.1] 26 (0,0))∧w.heap[ba]? =some (.cells #[.int .i64 s.2.2.2.2.2] 3 (0,0))∧w.heap[bb]? =some (.cells #[v] 204 (0,0))) (fun s=>s.1) ((get b at_).1.toNat,-1,_,[],(get b at_).2.2,(get b at_).2.1) (.cons rfl (.cons rfl (.cons rfl (.cons rfl (.cons rfl (.cons rfl .nil)))))) ?_ ?_
 ·refine⟨by have:=Am b at_;simp only;omega,fun h=>?_,fun h=>?_,fun h=>?_,by simp,_,S5.lt hM,S5,z5,.inl rfl,.inr (.inl rfl),dD _ _ _ _ _,hE5,hA5,hB5⟩
  ·unfold gR;rw[if_neg (by simpa using h)];exact(CM _ (Iz b _ _ _)).symm
  ·unfold gR;rw[if_pos h]
  ·have:=uP h;simp only[j3];omega
 ·rintro⟨many,last,u0,acc,e,a1⟩ wl ⟨hmb,OC,Hk,hok,hal,M1,nI,S,zl,U0,WL,ho,hE,hA,hB⟩;dsimp only at hmb OC Hk hok hal ho hE hA hB ⊢;refine aj (aj (ae (ad rfl rfl (iY rfl rfl rfl (ad rfl rfl ?_)))));refine aR (g:=18) rfl (fun TF=>?_) (fun TF=>?_)
  ·refine al rfl rfl (aP vP rfl rfl rfl (by assumption) rfl (al rfl rfl (qZ rfl rfl rfl (a8 rfl rfl rfl (ab ?_)))));refine bI rfl (fun c6=>?_) (fun c6=>?_)
   ·refine aT (aj (aZ (aj (ae (ad rfl rfl ?_)))));refine zr (first:=[]) (xs:=[]) rfl rfl rfl XD (AN (M:=M1) (by rw[c6]at hE;exact hE) hB hA (by omega) U0 WL (hv.le S.le) (by have:=hok c6;omega)) (fun r w6 h6=>?_);obtain⟨rfl,YT,YU,s6⟩:=h6;have z6:=s6.size;have S6:=S.cj s6 (fun k hk=>by omega);have YV:=s6.keep hB (by omega);have tO:=ho.step s6 (fun k hk h=>by have:=(ho.base k hk).1;omega);have Jg:=s6.lt nI;obtain⟨hn0,hn1,hn2,hn3⟩:=oT b a1;obtain⟨tx,Ba,hk3,hk4⟩:=hok c6;refine ah rfl rfl (ab (aj (aj (ae (aP vP rfl rfl rfl (by assumption) rfl (qZ rfl rfl rfl (ad rfl rfl ?_)))))));refine aR (g:=28) rfl (fun BM=>?_) (fun BM=>?_)
    ·refine al rfl rfl (ad rfl rfl (al rfl rfl (ad rfl rfl (al rfl rfl (fq rfl rfl rfl (by omega) (al rfl rfl (fq rfl rfl rfl (by omega) (al rfl rfl (iY rfl rfl rfl (a8 rfl rfl rfl (ab ?_)))))))))));refine bI rfl (fun c9=>?_) (fun c9=>?_)
     ·refine ae ?_;refine cw (M:=M1) I26 rfl rfl YT rfl rfl U0 (fun w7 hE7 s7=>?_);have z7:=s7.size;replace S6:=S6.cj s7 (fun k hk=>by subst hk;omega);replace YV:=s7.keep YV (show bb≠be by omega);replace YU:=s7.keep YU (show ba≠be by omega);replace tO:=tO.step s7 (fun k hk h=>by have:=(ho.base k hk).1;omega);replace Jg:=s7.lt Jg;replace YT:=hE7;refine ab (aj (ae (ad rfl rfl (ad rfl rfl (Rg.wT rfl rfl rfl (Rg.wT rfl rfl rfl (ah rfl rfl (ab (ae (ad rfl rfl (ad rfl rfl ?_)))))))))));refine ep (A:=RT.int .i64) (hn:=by decide) (M:=M1) aq I3 (by decide) rfl rfl Jg (fY (sV _)) (.inr ⟨rfl,rfl⟩) (fun u w8 hu s8=>?_);refine dd (M:=M1) (base:=w4.heap.size) aq I3 rfl rfl rfl rfl (tO.aL s8) hu (ao _ _) (by simp;omega) (by simp;omega) (by have:=s8.size;omega) (fun v9 M9 w9 PY s9=>?_);have z8:=s8.size;have z9:=s9.size;have kf:∀k,k<w4.heap.size→¬fK u0 k:=fun k hk h=>by have:=(ho.base k h).1;omega
      have MN:=s9.keep (s8.aM YT) (kf be (by omega));have YW:=s9.keep (s8.aM YU) (kf ba (by omega));have YX:=s9.keep (s8.aM YV) (kf bb (by omega));have S9:=(S6.aB s8).dg s9 (tO.aL s8) (by omega);have RQ:=s9.lt (s8.lt Jg);have MO:M9 be:=(s9.mem be (by omega)).2 U0;have MP:M9 ba:=(s9.mem ba (by omega)).2 WL;refine ah rfl rfl (ab (ae (ad rfl rfl (fq rfl rfl rfl (by omega) (ah rfl rfl (ab ?_))))));refine⟨rfl,(many-1,(IntKind.i64.wrap (last+IntKind.i64.wrap ((get b a1).1+1))),v9,acc++[(IntKind.i64.wrap (last+IntKind.i64.wrap ((get b a1).1+1)))],(if(get b a1).2.2=0∧4611686018427387904-last-1<(get b a1).1 then 2 else(get b a1).2.2),(get b a1).2.1),(.cons rfl (.cons rfl (.cons rfl (.cons rfl (.cons rfl (.cons (show some (Value.int .i64 ((many:Int)-1))=some (Value.int .i64 ((many-1:Nat):Int))from by congr 2;omega) .nil)))))),?_,?_⟩
      ·have hx:(get b a1).2.2=0→¬4611686018427387904-last-1<(get b a1).1→(IntKind.i64.wrap (last+IntKind.i64.wrap ((get b a1).1+1)))=last+1+(get b a1).1:=fun h1 h2=>by rw[j9 ((get b a1).1+1) (by omega),j9 _ (by omega)];omega
       have Wt:many=(many-1)+1:=by omega
       have yH:=OC c6;rw[Wt]at yH;refine⟨by simp only;omega,fun h=>?_,fun h=>?_,fun h=>?_,by have:=hok c6;simp only[bc,cD,j3];omega,M9,RQ,S9,by omega,MO,MP,PY,?_,YW,YX⟩
       ·dsimp only at h ⊢;have h3:(get b a1).2.2=0∧¬4611686018427387904-last-1<(get b a1).1:=by split at h<;>omega
        rw[yH,oS acc h3.1 h3.2,hx h3.1 h3.2]
       ·dsimp only at h ⊢;rw[yH]
        split
        ·rename_i h4;rw[uQ h4.1 h4.2];rfl
        ·rename_i h4
         have h5:(get b a1).2.2≠0:=by intro h6;rw[if_neg h4]at h;exact h h6
         rw[sF h5];unfold andThen;rw[if_pos h5]
       ·dsimp only at h ⊢;have h3:(get b a1).2.2=0∧¬4611686018427387904-last-1<(get b a1).1:=by split at h<;>omega
        have:=uP h3.1;rw[hx h3.1 h3.2];simp only[bc,cD,j3];omega
       ·dsimp only
        first
        |(rw[if_pos ⟨BM,c9⟩];exact MN)
        |(rw[if_neg (fun h=>c9 h.2)];exact MN)
        |(rw[if_neg (fun h=>BM h.1)];exact MN)
      ·simp only;omega
     ·refine aT (aj (ae (ad rfl rfl (ad rfl rfl (Rg.wT rfl rfl rfl (Rg.wT rfl rfl rfl (ah rfl rfl (ab (ae (ad rfl rfl (ad rfl rfl ?_)))))))))));refine ep (A:=RT.int .i64) (hn:=by decide) (M:=M1) aq I3 (by decide) rfl rfl Jg (fY (sV _)) (.inr ⟨rfl,rfl⟩) (fun u w8 hu s8=>?_);refine dd (M:=M1) (base:=w4.heap.size) aq I3 rfl rfl rfl rfl (tO.aL s8) hu (ao _ _) (by simp;omega) (by simp;omega) (by have:=s8.size;omega) (fun v9 M9 w9 PY s9=>?_);have z8:=s8.size;have z9:=s9.size;have kf:∀k,k<w4.heap.size→¬fK u0 k:=fun k hk h=>by have:=(ho.base k h).1;omega
      have MN:=s9.keep (s8.aM YT) (kf be (by omega));have YW:=s9.keep (s8.aM YU) (kf ba (by omega));have YX:=s9.keep (s8.aM YV) (kf bb (by omega));have S9:=(S6.aB s8).dg s9 (tO.aL s8) (by omega);have RQ:=s9.lt (s8.lt Jg);have MO:M9 be:=(s9.mem be (by omega)).2 U0;have MP:M9 ba:=(s9.mem ba (by omega)).2 WL;refine ah rfl rfl (ab (ae (ad rfl rfl (fq rfl rfl rfl (by omega) (ah rfl rfl (ab ?_))))));refine⟨rfl,(many-1,(IntKind.i64.wrap (last+IntKind.i64.wrap ((get b a1).1+1))),v9,acc++[(IntKind.i64.wrap (last+IntKind.i64.wrap ((get b a1).1+1)))],(if(get b a1).2.2=0∧4611686018427387904-last-1<(get b a1).1 then 2 else(get b a1).2.2),(get b a1).2.1),(.cons rfl (.cons rfl (.cons rfl (.cons rfl (.cons rfl (.cons (show some (Value.int .i64 ((many:Int)-1))=some (Value.int .i64 ((many-1:Nat):Int))from by congr 2;omega) .nil)))))),?_,?_⟩
      ·have hx:(get b a1).2.2=0→¬4611686018427387904-last-1<(get b a1).1→(IntKind.i64.wrap (last+IntKind.i64.wrap ((get b a1).1+1)))=last+1+(get b a1).1:=fun h1 h2=>by rw[j9 ((get b a1).1+1) (by omega),j9 _ (by omega)];omega
       have Wt:many=(many-1)+1:=by omega
       have yH:=OC c6;rw[Wt]at yH;refine⟨by simp only;omega,fun h=>?_,fun h=>?_,fun h=>?_,by have:=hok c6;simp only[bc,cD,j3];omega,M9,RQ,S9,by omega,MO,MP,PY,?_,YW,YX⟩
       ·dsimp only at h ⊢;have h3:(get b a1).2.2=0∧¬4611686018427387904-last-1<(get b a1).1:=by split at h<;>omega
        rw[yH,oS acc h3.1 h3.2,hx h3.1 h3.2]
       ·dsimp only at h ⊢;rw[yH]
        split
        ·rename_i h4;rw[uQ h4.1 h4.2];rfl
        ·rename_i h4
         have h5:(get b a1).2.2≠0:=by intro h6;rw[if_neg h4]at h;exact h h6
         rw[sF h5];unfold andThen;rw[if_pos h5]
       ·dsimp only at h ⊢;have h3:(get b a1).2.2=0∧¬4611686018427387904-last-1<(get b a1).1:=by split at h<;>omega
        have:=uP h3.1;rw[hx h3.1 h3.2];simp only[bc,cD,j3];omega
       ·dsimp only
        first
        |(rw[if_pos ⟨BM,c9⟩];exact MN)
        |(rw[if_neg (fun h=>c9 h.2)];exact MN)
        |(rw[if_neg (fun h=>BM h.1)];exact MN)
      ·simp only;omega
    ·refine au rfl rfl rfl rfl (au rfl rfl rfl rfl (au rfl rfl rfl rfl (au rfl rfl rfl rfl (au rfl rfl rfl rfl (aE rfl rfl rfl (ab (jt rfl (aT (aj (ae (ad rfl rfl ?_)))))))))));refine ad rfl rfl (Rg.wT rfl rfl rfl (Rg.wT rfl rfl rfl (ah rfl rfl (ab (ae (ad rfl rfl (ad rfl rfl ?_)))))));refine ep (A:=RT.int .i64) (hn:=by decide) (M:=M1) aq I3 (by decide) rfl rfl Jg (fY (sV _)) (.inr ⟨rfl,rfl⟩) (fun u w8 hu s8=>?_);refine dd (M:=M1) (base:=w4.heap.size) aq I3 rfl rfl rfl rfl (tO.aL s8) hu (ao _ _) (by simp;omega) (by simp;omega) (by have:=s8.size;omega) (fun v9 M9 w9 PY s9=>?_);have z8:=s8.size;have z9:=s9.size;have kf:∀k,k<w4.heap.size→¬fK u0 k:=fun k hk h=>by have:=(ho.base k h).1;omega
     have MN:=s9.keep (s8.aM YT) (kf be (by omega));have YW:=s9.keep (s8.aM YU) (kf ba (by omega));have YX:=s9.keep (s8.aM YV) (kf bb (by omega));have S9:=(S6.aB s8).dg s9 (tO.aL s8) (by omega);have RQ:=s9.lt (s8.lt Jg);have MO:M9 be:=(s9.mem be (by omega)).2 U0;have MP:M9 ba:=(s9.mem ba (by omega)).2 WL;refine ah rfl rfl (ab (ae (ad rfl rfl (fq rfl rfl rfl (by omega) (ah rfl rfl (ab ?_))))));refine⟨rfl,(many-1,(IntKind.i64.wrap (last+IntKind.i64.wrap ((get b a1).1+1))),v9,acc++[(IntKind.i64.wrap (last+IntKind.i64.wrap ((get b a1).1+1)))],(if(get b a1).2.2=0∧4611686018427387904-last-1<(get b a1).1 then 2 else(get b a1).2.2),(get b a1).2.1),(.cons rfl (.cons rfl (.cons rfl (.cons rfl (.cons rfl (.cons (show some (Value.int .i64 ((many:Int)-1))=some (Value.int .i64 ((many-1:Nat):Int))from by congr 2;omega) .nil)))))),?_,?_⟩
     ·have hx:(get b a1).2.2=0→¬4611686018427387904-last-1<(get b a1).1→(IntKind.i64.wrap (last+IntKind.i64.wrap ((get b a1).1+1)))=last+1+(get b a1).1:=fun h1 h2=>by rw[j9 ((get b a1).1+1) (by omega),j9 _ (by omega)];omega
      have Wt:many=(many-1)+1:=by omega
      have yH:=OC c6;rw[Wt]at yH;refine⟨by simp only;omega,fun h=>?_,fun h=>?_,fun h=>?_,by have:=hok c6;simp only[bc,cD,j3];omega,M9,RQ,S9,by omega,MO,MP,PY,?_,YW,YX⟩
      ·dsimp only at h ⊢;have h3:(get b a1).2.2=0∧¬4611686018427387904-last-1<(get b a1).1:=by split at h<;>omega
       rw[yH,oS acc h3.1 h3.2,hx h3.1 h3.2]
      ·dsimp only at h ⊢;rw[yH]
       split
       ·rename_i h4;rw[uQ h4.1 h4.2];rfl
       ·rename_i h4
        have h5:(get b a1).2.2≠0:=by intro h6;rw[if_neg h4]at h;exact h h6
        rw[sF h5];unfold andThen;rw[if_pos h5]
      ·dsimp only at h ⊢;have h3:(get b a1).2.2=0∧¬4611686018427387904-last-1<(get b a1).1:=by split at h<;>omega
       have:=uP h3.1;rw[hx h3.1 h3.2];simp only[bc,cD,j3];omega
      ·dsimp only
       first
       |(rw[if_pos ⟨BM,c9⟩];exact MN)
       |(rw[if_neg (fun h=>c9 h.2)];exact MN)
       |(rw[if_neg (fun h=>BM h.1)];exact MN)
     ·simp only;omega
   ·refine cK (aj (aj (ae (aP vP rfl rfl rfl (by assumption) rfl (fD rfl rfl rfl (ab ?_))))));refine bI rfl (fun Pu=>?_) (fun Pu=>?_)
    ·refine aj ?_;apply uG mixed rfl rfl;intro UR ME;have rr:=ME M1;refine aP vP rfl rfl rfl (by first|assumption|exact de rr (by assumption)) rfl ?_;refine ab ⟨rfl,rfl,rfl,?_⟩;refine ah rfl rfl ?_;refine ab ⟨rfl,rfl,rfl,?_⟩;refine ah rfl rfl ?_;refine ab ⟨rfl,rfl,rfl,?_⟩;refine ah rfl rfl ?_;refine ab ⟨rfl,rfl,rfl,?_⟩;refine eZ (aQ ?_);have hr:=Hk Pu;exact rC rfl rfl rfl rfl ⟨_,by rw[hr]<;>rfl,by rw[hr];exact pB,(S.aB rr).back⟩
    ·refine aT (aj ?_);apply uG mixed rfl rfl;intro U1 MQ;have pY:=MQ M1;refine ad rfl rfl ?_;refine ab ⟨rfl,rfl,rfl,?_⟩;refine aP aw rfl rfl rfl (by first|assumption|exact de pY (by assumption)) rfl ?_;refine ab ⟨rfl,rfl,rfl,?_⟩;refine ah rfl rfl ?_;refine ab ⟨rfl,rfl,rfl,?_⟩;refine ah rfl rfl ?_;refine ab ⟨rfl,rfl,rfl,?_⟩;refine ah rfl rfl ?_;refine ab ⟨rfl,rfl,rfl,?_⟩;refine eZ (aQ ?_);have hz:many=0:=by omega
     have hr:=OC (by omega);rw[hz,xO]at hr;simp only[andThen,ne_eq,not_true_eq_false,if_false,ia]at hr;have YY:=S.aB pY;refine rC rfl rfl rfl rfl ⟨_,by rw[hr]<;>rfl,?_,YY.back⟩;rw[hr];exact Own.close hM YY ((ho.aL pY).oL (by omega)) (by simp only;omega)
  ·refine au rfl rfl rfl rfl (au rfl rfl rfl rfl (aE rfl rfl rfl (ab (jt rfl (cK (aj (aj (ae (aP vP rfl rfl rfl (by assumption) rfl (fD rfl rfl rfl (ab ?_)))))))))));refine bI rfl (fun Pu=>?_) (fun Pu=>?_)
   ·refine aj ?_;apply uG mixed rfl rfl;intro UR ME;have rr:=ME M1;refine aP vP rfl rfl rfl (by first|assumption|exact de rr (by assumption)) rfl ?_;refine ab ⟨rfl,rfl,rfl,?_⟩;refine ah rfl rfl ?_;refine ab ⟨rfl,rfl,rfl,?_⟩;refine ah rfl rfl ?_;refine ab ⟨rfl,rfl,rfl,?_⟩;refine ah rfl rfl ?_;refine ab ⟨rfl,rfl,rfl,?_⟩;refine eZ (aQ ?_);have hr:=Hk Pu;exact rC rfl rfl rfl rfl ⟨_,by rw[hr]<;>rfl,by rw[hr];exact pB,(S.aB rr).back⟩
   ·refine aT (aj ?_);apply uG mixed rfl rfl;intro U1 MQ;have pY:=MQ M1;refine ad rfl rfl ?_;refine ab ⟨rfl,rfl,rfl,?_⟩;refine aP aw rfl rfl rfl (by first|assumption|exact de pY (by assumption)) rfl ?_;refine ab ⟨rfl,rfl,rfl,?_⟩;refine ah rfl rfl ?_;refine ab ⟨rfl,rfl,rfl,?_⟩;refine ah rfl rfl ?_;refine ab ⟨rfl,rfl,rfl,?_⟩;refine ah rfl rfl ?_;refine ab ⟨rfl,rfl,rfl,?_⟩;refine eZ (aQ ?_);have hz:many=0:=by omega
    have hr:=OC (by omega);rw[hz,xO]at hr;simp only[andThen,ne_eq,not_true_eq_false,if_false,ia]at hr;have YY:=S.aB pY;refine rC rfl rfl rfl rfl ⟨_,by rw[hr]<;>rfl,?_,YY.back⟩;rw[hr];exact Own.close hM YY ((ho.aL pY).oL (by omega)) (by simp only;omega)
end Go.K
namespace Go.K
open Go.Proofs
set_option maxRecDepth 10000
theorem PZ {M:aD} {w0:World} {v:Value} {x:Li} (hv:cQ RT.li M w0 v x) {k:Int}:
  Spec Tryz.prog 222 #[v,.int .i64 k] w0 (fun v' w'=>v'= .bool (Wx x.2.1.length k)∧w0=w'):=by
 refine bm (args:=[_,_]) (fn:=Tryz.f222) Tryz.func222 rfl (n:=16) Tryz.ntmps222 (aj (ae (ah rfl rfl (ab (aj (ae (ad rfl rfl (dY rfl rfl rfl (ad rfl rfl ?_)))))))));refine aR (g:=7) rfl (fun iH=>?_) (fun iH=>?_)
 ·refine al rfl rfl (ad rfl rfl (al rfl rfl (ad rfl rfl (al rfl rfl (bN rfl (cQ.ij (by assumption)) rfl (al rfl rfl ?_))))));refine aK (M:=M) (A:=RT.li) (B:=(RT.bl).sl) ed rfl rfl Fs (by decide) (li1) rfl rfl (by decide) (by assumption) (by repeat (first|exact ao _ _|refine aX (bu (by assumption)) ?_)) (fun ao9 akC=>?_);refine al rfl rfl ?_;refine bR (M:=M) eB rfl rfl rfl rfl rfl (by assumption) (by repeat (first|exact ao _ _|refine aX (bu (by assumption)) ?_)) (fun YZ RR=>?_);refine al rfl rfl ?_
  first|refine bQ eB rfl (by assumption) rfl ?_|refine fE eB rfl (by assumption) rfl ?_
  refine al rfl rfl (cg rfl rfl rfl (a8 rfl rfl rfl (ah rfl rfl (ab (aQ ?_)))))
  first
  |exact aV rfl rfl ⟨congrArg Value.bool (decide_eq_decide.2 (by omega)),rfl⟩
  |exact aV rfl rfl ⟨congrArg Value.bool (dH (decide_eq_false (by omega))),rfl⟩
 ·refine au rfl rfl rfl rfl (au rfl rfl rfl rfl (au rfl rfl rfl rfl (au rfl rfl rfl rfl (au rfl rfl rfl rfl (au rfl rfl rfl rfl (au rfl rfl rfl rfl (aE rfl rfl rfl (ah rfl rfl (ab (aQ ?_))))))))))
  first
  |exact aV rfl rfl ⟨congrArg Value.bool (decide_eq_decide.2 (by omega)),rfl⟩
  |exact aV rfl rfl ⟨congrArg Value.bool (dH (decide_eq_false (by omega))),rfl⟩
theorem MR {M:aD} {w0:World} {v:Value} {x:Li} (hv:cQ RT.li M w0 v x) (hM:Lt M w0) (hm:∀b∈x.2.1,0≤b.2.2.2∧b.2.2.2≤8):
  Spec Tryz.prog 81 #[v] w0 (fun v' w'=>v'= .int .i64 (sG x.2.1)∧Step M w0 M w' aC):=by
 refine bm (args:=[_]) (fn:=Tryz.f81) Tryz.func81 rfl (n:=21) Tryz.ntmps81 (aj (ae (ah rfl rfl (ab (aj (ae (ah rfl rfl (ab (aj (aj (ae ?_)))))))))));refine ad rfl rfl (bN rfl (cQ.ij (by assumption)) rfl ?_);refine aK (M:=M) (A:=RT.li) (B:=(RT.bl).sl) ed rfl rfl Fs (by decide) (li1) rfl rfl (by decide) (by assumption) (by repeat (first|exact ao _ _|refine aX (bu (by assumption)) ?_)) (fun Y0 lL=>?_);refine bR (M:=M) eB rfl rfl rfl rfl rfl (by assumption) (ao _ _) (fun vb J2=>?_);have kE:=ej J2
 first|refine bQ eB rfl (by assumption) rfl ?_|refine fE eB rfl (by assumption) rfl ?_
 refine ad rfl rfl (ab (aZ ?_));refine dn (σ:=Nat) (fun s=>[(3,.int .i64 (sG (x.2.1.take s))),(9,vb),(10,.int .i64 x.2.1.length),(11,.int .i64 s)]) (fun s w=>s≤x.2.1.length∧Step M w0 M w aC) (fun s=>x.2.1.length-s) 0 (.cons rfl (.cons rfl (.cons rfl (.cons rfl .nil)))) ?_ ?_
 ·exact⟨bD _,ax _ _⟩
 ·rintro k w1 ⟨hk,S⟩;have hMw:=S.lt hM;refine aj (ae (cg rfl rfl rfl (ab (aj ?_))));refine bI rfl (fun c3=>?_) (fun c3=>?_)
  ·refine aT (aj (aZ (aj (ae ?_))));obtain⟨b,hb⟩:∃b,x.2.1[k]? =some b:=⟨_,ar (by omega)⟩;have hbm:=hm b (az hb);have mQ:=O4 (x.2.1.take k) fun c hc=>hm c (wL hc)
   rw[bg,qa hk]at mQ;refine cF (M:=M) eB wY rfl rfl rfl (J2.le S.le) (ao _ _) (by omega) (fun Pq U2 MS Da=>?_);obtain rfl:U2=b:=aH (MS.symm.trans (by simpa using hb));refine cN (M:=M) (A:=RT.bl) jR rfl wY (by decide) rfl rfl rfl (by assumption) (by repeat (first|exact ao _ _|refine aX (bu (by assumption)) ?_)) (fun Pr Hy=>?_);refine sf (A:=RT.bl) (M:=M) wY rfl rfl rfl rfl rfl (by assumption) (by repeat (first|exact ao _ _|refine aX (bu (by assumption)) ?_)) (by first|assumption|exact Step.lt (by assumption) (by assumption)|exact Step.lt (by assumption) (Step.lt (by assumption) (by assumption))) (fun TC KW mY lC YN=>?_);refine ab (ae (ad rfl rfl ?_));refine aK (M:=M) (A:=RT.bl) (B:=RT.int .i64) jR rfl rfl I3 (by decide) (bl3) rfl rfl (by decide) (by assumption) (by repeat (first|exact ao _ _|refine aX (bu (by assumption)) ?_)) (fun Ya Lu=>?_);refine cd (M:=M) aw rfl rfl (by assumption) (by repeat (first|exact ao _ _|refine aX (bu (by assumption)) ?_)) (fun RP=>?_);refine bC rfl rfl rfl (by omega) (ah rfl rfl (ab (ae (bC rfl rfl rfl (by omega) (ad rfl rfl (ab ?_))))));refine⟨rfl,k+1,(.cons (by rw[IA hb];rfl) (.cons rfl (.cons rfl (.cons rfl .nil)))),?_,?_⟩
   ·exact⟨by omega,S.aB lC⟩
   ·show _-(k+1)<_-k;omega
  ·refine cK (aj (ae (ad rfl rfl (ah rfl rfl (ab (aQ ?_))))));refine aV rfl rfl ⟨?_,S⟩;rw[aW (by omega)]
theorem Gh {M:aD} {w0:World} {v:Value} {b:List UInt8} {at_ ahead:Int} (hM:Lt M w0) (hv:(RT.u8.sl).V M w0 b v) (ML: -9223372036854775808≤at_∧at_≤9223372036854775807) (hah: -9223372036854775808≤ahead∧ahead≤9223372036854775807) (kE:b.length≤1099511627776):
  Spec Tryz.prog 223 #[v,.int .i64 at_,.int .i64 ahead] w0 (fun v' w'=>∃p,v'= .tuple #[p,.int .i64 (rL b at_ ahead).2.1,.int .i64 (rL b at_ ahead).2.2]∧RT.po.V M w' (rL b at_ ahead).1 p∧Step M w0 M w' aC):=by
 refine bm (args:=[_,_,_]) (fn:=Tryz.f223) Tryz.func223 rfl (n:=38) Tryz.ntmps223 (aj (ae ?_));refine eE M nW rfl (fun b0 w1 hb0 apb hB s1=>?_);have nI:=s1.lt hM;have zo:=hv.le s1.le;refine ah rfl rfl (ah rfl rfl (ab (aj (ae (ad rfl rfl (ad rfl rfl ?_))))));refine aY rfl rfl XC (DW zo ML) (fun r w2 h2=>?_);obtain⟨rfl,rfl⟩:=h2;have xC:=Am b at_;obtain⟨hn0,hn1,hn2,hn3⟩:=oT b at_;refine ad rfl rfl (bZ rfl rfl rfl (bZ rfl rfl rfl (bZ rfl rfl rfl (ah rfl rfl (ah rfl rfl (ah rfl rfl (ab (aj (aj (ae (ad rfl rfl ?_)))))))))));refine fD rfl rfl rfl (ab ?_);refine bI rfl (fun c2=>?_) (fun c2=>?_)
 ·refine aj (ae (iS (places:=[(0,1),(1,1)]) bS nW Xu rfl rfl (out:=[.int .i64 0,.slice none 0 0]) rfl (ad rfl rfl ?_)));refine eG (M:=ins M b0) nW rfl rfl (by intro u hu;simp at hu;rcases hu with rfl|rfl<;>rfl) rfl rfl hB (.inl rfl) (fun w3 hB3 s3=>?_);refine ah rfl rfl (ah rfl rfl (ab (aQ ?_)));have jJ:=s1.size;have S:Step M w0 M w3 aC:=(s1.cj s3 (fun k hk=>by subst hk;omega)).back;refine KA rfl rfl bS rfl nW rfl hB3 rfl rfl ⟨_,by unfold rL;rw[if_pos c2]<;>rfl,?_,S⟩;unfold rL;rw[if_pos c2];exact fe (fY (x:=0) (by omega)) pB rfl rfl rfl rfl
 ·refine aT (aj (ae (ad rfl rfl (ad rfl rfl ?_))));have hok:=uP (b:=b) (at_:=at_) (by omega);refine aY rfl rfl adu (yG (M:=ins M b0) nI zo (by omega) kE) (fun r w3 h3=>?_);obtain⟨x3,rfl,Jh,s3⟩:=h3;refine ad rfl rfl (bZ rfl rfl rfl (bZ rfl rfl rfl (bZ rfl rfl rfl (ah rfl rfl (ah rfl rfl (ah rfl rfl (ab (aj (ae (ad rfl rfl (Rg.wT rfl rfl rfl ?_)))))))))));refine ad rfl rfl (Rg.wT rfl rfl rfl (ad rfl rfl (iS (places:=[(0,1),(1,1)]) bS nW Xu rfl ⟨_,_,rfl,rfl,_,_,rfl,rfl,rfl⟩ (out:=[_,_]) ⟨0,[_],rfl,rfl,by simp[Value.cells],1,[_],rfl,k8 Jh,by simp[Value.cells],rfl⟩ (ad rfl rfl (ad rfl rfl ?_)))));obtain⟨vx,rq⟩:∃vx,vx=x3:=⟨_,rfl⟩;have su:=pI Jh rfl rfl;refine eG (M:=ins M b0) nW rfl rfl (by intro u hu;simp at hu;rcases hu with rfl|rfl;rfl;exact su) rfl rfl (s3.aM hB) (.inl rfl) (fun w4 hB4 s4=>?_);refine ah rfl rfl (ah rfl rfl (ab (aQ ?_)));have jJ:=s1.size;have apd:=s3.size;have S3:=s1.aB s3;have S:Step M w0 M w4 aC:=(S3.cj s4 (fun k hk=>by subst hk;omega)).back;refine KA rfl rfl bS rfl nW rfl hB4 rfl rfl ⟨_,by unfold rL;rw[if_neg c2]<;>rfl,?_,S⟩;unfold rL;rw[if_neg c2];have hx4:=(Jh.le s4.le).le (Le.close hM (S3.cj s4 (fun k hk=>by subst hk;omega)));exact fe (fY KB) hx4 rfl rfl rfl rfl
theorem Gi {M:aD} {w0:World} {v:Value} {l:List Po} {k:Int} (hM:Lt M w0) (hv:cQ RT.li M w0 v (mR l)) (ot:fS (-1) l=true) (jT:∀p∈l,p.2.length≤1099511627776) (kE:(eg (-1) l).length≤1099511627776):
  Spec Tryz.prog 180 #[v,.int .i64 k] w0 (fun v' w'=>Step M w0 M w' aC∧((RT.po).sl).V M w' (if Wx ((l.length+7)/8) k then(l.drop (8*k.toNat)).take 8 else[]) v'):=by
 have Y1:(mR l).2.1.length=(l.length+7)/8:=by simp[mR,nt]
 refine bm (args:=[_,_]) (fn:=Tryz.f180) Tryz.func180 rfl (n:=51) Tryz.ntmps180 (aj (ae (ah rfl rfl (ab (aj (aj (ae (ad rfl rfl (ad rfl rfl ?_)))))))));refine aY rfl rfl adi (PZ hv (k:=k)) (fun r w1 h1=>?_);obtain⟨rfl,rfl⟩:=h1;refine mO rfl rfl (aU (v':= .bool (decide (¬(0≤k∧k<(mR l).2.1.length)))) (by unfold Wx;rw[decide_not]) (ab ?_));refine bI rfl (fun c1=>?_) (fun c1=>?_)
 ·refine aj (ae (ah rfl rfl (ab (aQ ?_))));refine aV rfl rfl ⟨ax _ _,?_⟩;rw[if_neg (by unfold Wx;rw[Y1]at c1;simpa using c1)];exact pB
 ·refine aT (aj (ae (ad rfl rfl (bN rfl (cQ.ij (by assumption)) rfl ?_))));refine aK (M:=M) (A:=RT.li) (B:=(RT.bl).sl) ed rfl rfl Fs (by decide) (li1) rfl rfl (by decide) (by assumption) (by repeat (first|exact ao _ _|refine aX (bu (by assumption)) ?_)) (fun Uq AA=>?_);refine bR (M:=M) eB rfl rfl rfl rfl rfl (by assumption) (by repeat (first|exact ao _ _|refine aX (bu (by assumption)) ?_)) (fun afD Y2=>?_);refine ad rfl rfl ?_;obtain⟨j,rfl⟩:∃j:Nat,k=j:=⟨k.toNat,by omega⟩;have hb:(mR l).2.1[j]? =some (rK l j):=by simp only[mR,nt,br];rw[List.getElem?_range (by omega)];rfl
  refine cF (M:=M) eB wY rfl rfl rfl (by assumption) (ao _ _) (by omega) (fun apf afE Y3 akD=>?_);obtain rfl:afE=rK l j:=aH (Y3.symm.trans (by simpa using hb));have RG:(rK l j).2.2.2=(((l.drop (8*j)).take 8).length:Int):=rfl;have akE:((l.drop (8*j)).take 8).length≤8:=by rw[bg];omega
  refine cN (M:=M) (A:=RT.bl) jR rfl wY (by decide) rfl rfl rfl (by assumption) (by repeat (first|exact ao _ _|refine aX (bu (by assumption)) ?_)) (fun apg akF=>?_);refine sf (A:=RT.bl) (M:=M) wY rfl rfl rfl rfl rfl (by assumption) (by repeat (first|exact ao _ _|refine aX (bu (by assumption)) ?_)) (by first|assumption|exact Step.lt (by assumption) (by assumption)|exact Step.lt (by assumption) (Step.lt (by assumption) (by assumption))) (fun afF U3 akG U4 aph=>?_);refine ab (aj (ae (ah rfl rfl (ab (aj (aj ?_))))));apply T.draw (M:=M) mixed [cT.ptr (RT.int .i64) (rK l j).1,cT.eq _,cT.ptr (RT.int .i64) (rK l j).2.1,cT.eq _,cT.eq _,cT.eq _]
  ·rfl
  ·refine ca ?_ ?_
   ·intro wD E sD;refine aK (M:=M) (A:=RT.bl) (B:=RT.int .i64) jR rfl rfl I3 (by decide) (bl0) rfl rfl (by decide) (by assumption) (by repeat (first|exact ao _ _|refine aX (bu (by assumption)) ?_)) (fun YR HO=>?_);exact ab ⟨rfl,rfl,_,rfl,by assumption,ax _ _⟩
   refine ca ?_ ?_
   ·intro wD E sD;intro v0 Ow;refine cd (M:=M) aw rfl rfl (by assumption) (by repeat (first|exact ao _ _|refine aX (bu (by assumption)) ?_)) (fun RS=>?_);exact ab ⟨rfl,rfl,_,rfl,rfl,ax _ _⟩
   refine ca ?_ ?_
   ·intro wD E sD;refine aK (M:=M) (A:=RT.bl) (B:=RT.int .i64) jR rfl rfl I3 (by decide) (bl1) rfl rfl (by decide) (by assumption) (by repeat (first|exact ao _ _|refine aX (bu (by assumption)) ?_)) (fun afG wz=>?_);exact ab ⟨rfl,rfl,_,rfl,by assumption,ax _ _⟩
   refine ca ?_ ?_
   ·intro wD E sD;intro v2 Cn;refine cd (M:=M) aw rfl rfl (by assumption) (by repeat (first|exact ao _ _|refine aX (bu (by assumption)) ?_)) (fun akH=>?_);exact ab ⟨rfl,rfl,_,rfl,rfl,ax _ _⟩
   refine ca ?_ ?_
   ·intro wD E sD;refine aO ?_;intro v0 Ow;refine aO (ah rfl rfl ?_);exact ab ⟨rfl,rfl,_,rfl,rfl,ax _ _⟩
   refine ca ?_ ?_
   ·intro wD E sD;refine aO (aO ?_);intro v0 Ow;refine aO ?_;intro v2 Cn;refine aO (aO (ah rfl rfl ?_));exact ab ⟨rfl,rfl,_,rfl,rfl,ax _ _⟩
   exact dR.nil
  ·intro wD5 PV;intro api akI;refine aO ?_;intro aeg Rq;refine aO (aO (aO (aZ ?_)));have hz5:=U4.size;refine dn (σ:=Nat×Value) (fun s=>[(0,v),(5,afF),(6,s.2),(7,.int .i64 (eg (-1) (l.take (8*j+s.1))).length),(8,.int .i64 (dB (-1) (l.take (8*j+s.1))))]) (fun s w=>s.1≤((l.drop (8*j)).take 8).length∧∃M1,Lt M1 w∧Step M w0 M1 w aC∧Step M U3 M1 w aC∧Own RT.po 83 M1 w U3.heap.size s.2 (((l.drop (8*j)).take 8).take s.1)) (fun s=>((l.drop (8*j)).take 8).length-s.1) (0,_) (.cons rfl (.cons rfl (.cons rfl (.cons rfl (.cons rfl .nil))))) ?_ ?_
   ·exact⟨bD _,M,PV.lt (U4.lt hM),U4.aB PV,PV,dD _ _ _ _ _⟩
   ·rintro⟨i,u0⟩ w1 ⟨hi,M1,nI,S,S5,ho⟩;dsimp only at hi ho ⊢;refine aj (aj (ae (ad rfl rfl (fE bA rfl ho rfl (aU (v':= .int .i64 i) (by rw[bg,qa hi]) ?_)))));refine aK (M:=M1) (A:=RT.bl) (B:=RT.int .i64) jR rfl rfl I3 (by decide) (bl3) rfl rfl (by decide) (by assumption) (by repeat (first|exact ao _ _|refine aX (bu (by assumption)) ?_)) (fun XV Y4=>?_);refine cd (M:=M1) aw rfl rfl Y4 (ao _ _) (fun akJ=>?_);refine aU (v':= .int .i64 ((l.drop (8*j)).take 8).length) rfl (cg rfl rfl rfl (ab ?_));refine bI rfl (fun c6=>?_) (fun c6=>?_)
    ·refine aT (aZ (aj (ae (ad rfl rfl (bN rfl (cQ.ij (by assumption)) rfl ?_)))));refine aK (M:=M1) (A:=RT.li) (B:=RT.u8.sl) ed rfl rfl CS (by decide) (li0) rfl rfl (by decide) (by assumption) (by repeat (first|exact ao _ _|refine aX (bu (by assumption)) ?_)) (fun aeW AL=>?_);refine bR (M:=M1) bH rfl rfl rfl rfl rfl (by assumption) (by repeat (first|exact ao _ _|refine aX (bu (by assumption)) ?_)) (fun apj Y5=>?_);refine ad rfl rfl (ad rfl rfl ?_);obtain⟨⟨d,ps⟩,hx⟩:∃x,l[8*j+i]? =some x:=⟨_,ar (by rw[bg,dh]at c6;omega)⟩;obtain⟨f1,f2,f3,f4,f5,f6⟩:=Bh ot hx;have Rp:rL (mR l).1 _ _=_:=KD ot hx (jT _ (az hx));have ri:(eg (-1) (l.take (8*j+i))).length≤(eg (-1) l).length:=by rw[qo (l:=l) (i:=8*j+i) (-1)];simp
     refine aY rfl rfl adj (Gh (M:=M1) nI Y5 (by omega) (by omega) kE) (fun r7 w7 h7=>?_);obtain⟨p7,h7e,WM,s7⟩:=h7;rw[Rp]at h7e WM;subst h7e;change RT.po.V M1 w7 (d,ps) p7 at WM;replace S:=S.aB s7;replace S5:=S5.aB s7;replace ho:=ho.aL s7;replace nI:=s7.lt nI;have hci:((l.drop (8*j)).take 8)[i]? =some (d,ps):=by rw[cp,if_pos (by omega),List.getElem?_drop];exact hx
     refine ad rfl rfl (bZ rfl rfl rfl (bZ rfl rfl rfl (bZ rfl rfl rfl ?_)));refine sf (A:=RT.po) (M:=M1) nW rfl rfl rfl rfl rfl (by assumption) (by repeat (first|exact ao _ _|refine aX (bu (by assumption)) ?_)) (by first|assumption|exact Step.lt (by assumption) (by assumption)|exact Step.lt (by assumption) (Step.lt (by assumption) (by assumption))) (fun akL akM MT HP akN=>?_);refine ah rfl rfl (ah rfl rfl (ab (aj (ae (ad rfl rfl ?_)))));replace S:=S.aB HP;replace S5:=S5.aB HP;replace ho:=ho.aL HP;replace nI:=HP.lt nI;clear WM;refine cN (M:=M1) (A:=RT.po) bS rfl nW (by decide) rfl rfl rfl MT (ao _ _) (fun v8 HM=>?_);refine ep (A:=RT.po) (hn:=by decide) (M:=M1) bA nW (by decide) rfl rfl nI HM (.inl rfl) (fun u2 w2 wW s2=>?_);refine dd (M:=M1) (base:=U3.heap.size) bA nW rfl rfl rfl rfl (ho.aL s2) wW (ao _ _) (by simp;omega) (by simp;omega) (dW S5.size s2.size) (fun v3 M3 w3 yE s3=>?_);replace S:=(S.aB s2).dg s3 (ho.aL s2) hz5;have Yh:=(MT.le (by decide) s2.le).le (by decide) s3.le;have Y6:=s3.lt (s2.lt nI);replace S5:=(S5.aB s2).dg s3 (ho.aL s2) (aN _);refine ah rfl rfl (ab ?_);apply T.draw (M:=M3) mixed [cT.eq _,cT.ptr (RT.int .i64) d,cT.eq _,cT.eq _,cT.eq _]
     ·rfl
     ·refine ca ?_ ?_
      ·intro wD E sD;refine ad rfl rfl ?_;exact ab ⟨rfl,rfl,_,rfl,rfl,ax _ _⟩
      refine ca ?_ ?_
      ·intro wD E sD;refine aK (M:=M3) (A:=RT.po) (B:=RT.int .i64) bS rfl rfl I3 (by decide) (Q9) rfl rfl (by decide) Yh sD.le (fun ae4 Mx=>?_);exact ab ⟨rfl,rfl,_,rfl,Mx,ax _ _⟩
      refine ca ?_ ?_
      ·intro wD E sD;intro v1 zo;refine cd (M:=M3) aw rfl rfl (by assumption) (by repeat (first|exact ao _ _|refine aX (bu (by assumption)) ?_)) (fun akO=>?_);exact ab ⟨rfl,rfl,_,rfl,rfl,ax _ _⟩
      refine ca ?_ ?_
      ·intro wD E sD;refine aO (aO (ah rfl rfl ?_));exact ab ⟨rfl,rfl,_,rfl,rfl,ax _ _⟩
      refine ca ?_ ?_
      ·intro wD E sD;refine aO (aO (aO ?_));intro v1 zo;refine aO (aO (ah rfl rfl ?_));exact ab ⟨rfl,rfl,_,rfl,rfl,ax _ _⟩
      exact dR.nil
     ·intro RU DY;refine aO ?_;intro apl akP;refine aO (aO (aO ?_));refine⟨rfl,(i+1,v3),(.cons rfl (.cons rfl (.cons rfl (.cons rfl (.cons (by rw[←f5];rfl) .nil))))),?_,?_⟩
      ·refine⟨by simp only;omega,M3,DY.lt Y6,S.aB DY,S5.aB DY,?_⟩;simp only;obtain⟨Pj,Hr⟩:=an.1 hci;rw[j8 Pj,Hr];exact yE.aL DY
      ·simp only;omega
    ·refine cK (aj (ae (ad rfl rfl (ah rfl rfl (ab (aQ ?_))))));refine aV rfl rfl ⟨S.back,?_⟩;rw[if_pos (by unfold Wx;rw[Y1]at c1;simpa using c1),ay];rw[aW (by omega)]at ho;exact Own.close hM S (ho.oL hz5) (by omega)
end Go.K
namespace Go.K
open Go.Proofs
set_option maxRecDepth 10000
theorem DZ {M:aD} {w0:World} {v:Value} {l:List Int} (hv:((RT.int .i64).sl).V M w0 l v):
  Spec Tryz.prog 249 #[v] w0 (fun v' w'=>v'= .bool (oU l)∧w0=w'):=by
 have hlen:=ej hv;refine bm (args:=[_]) (fn:=Tryz.f249) Tryz.func249 rfl (n:=32) Tryz.ntmps249 (aj (ae (ah rfl rfl (ab (aj (aj (ae (ad rfl rfl ?_))))))))
 first|refine bQ aq rfl (by assumption) rfl ?_|refine fE aq rfl (by assumption) rfl ?_
 refine ad rfl rfl (ab (aZ ?_));refine dn (σ:=Nat×Int) (fun s=>[(0,v),(5,v),(6,.int .i64 l.length),(7,.int .i64 s.1)]) (fun s w=>w0=w∧s.1≤l.length∧oU l=(eA s.2 (l.drop s.1)&&(l.drop s.1).all (fun n=>decide (n<2147483648)))∧ -1≤s.2∧(s.1=0→s.2= -1)∧(0<s.1→l[s.1-1]? =some s.2)) (fun s=>l.length-s.1) (0,-1) (.cons rfl (.cons rfl (.cons rfl (.cons rfl .nil)))) ?_ ?_
 ·exact⟨rfl,bD _,rfl,by decide,fun _=>rfl,fun h=>absurd h (jq 0)⟩
 ·rintro⟨k,last⟩ w1 ⟨rfl,hk,hr,WK,h0,h1⟩;dsimp only at hk hr WK h0 h1 ⊢;refine aj (ae (cg rfl rfl rfl (ab (aj ?_))));refine bI rfl (fun c2=>?_) (fun c2=>?_)
  ·refine aT (aj (aZ (aj (ae (ad rfl rfl ?_)))));obtain⟨x,hx⟩:∃x,l[k]? =some x:=⟨_,ar (by omega)⟩;refine cF (M:=M) aq I3 rfl rfl rfl hv (ao _ _) (by omega) (fun apm afI Y7 akQ=>?_);obtain rfl:x=afI:=dH (aH (Y7.symm.trans (by simpa using hx)));refine cd (M:=M) aw rfl rfl (by assumption) (by repeat (first|exact ao _ _|refine aX (bu (by assumption)) ?_)) (fun akR=>?_);refine ah rfl rfl (ah rfl rfl (ab (aj (ae (ad rfl rfl (cg rfl rfl rfl (ad rfl rfl ?_)))))));refine aR (g:=14) rfl (fun lU=>?_) (fun lU=>?_)
   ·refine au rfl rfl rfl rfl (au rfl rfl rfl rfl (a8 rfl rfl rfl (ad rfl rfl (au rfl rfl rfl rfl (au rfl rfl rfl rfl (au rfl rfl rfl rfl (cq rfl rfl rfl (cq rfl rfl rfl (cq rfl rfl rfl (cq rfl rfl rfl (cq rfl rfl rfl ?_)))))))))));refine cq rfl rfl rfl (cq rfl rfl rfl (au rfl rfl rfl rfl (a8 rfl rfl rfl (ab (nG rfl (aj (ae (ah rfl rfl (ab (aQ ?_))))))))));refine aV rfl rfl ⟨congrArg Value.bool (dH ?_),rfl⟩;rw[hr,gB hx,qp _ hx];by_cases h7:last<x
    ·have h2: ¬x<2147483648:=by omega
     simp[h2]
    ·simp[h7]
   ·refine al rfl rfl (ad rfl rfl (al rfl rfl (dY rfl rfl rfl (aE rfl rfl rfl (ad rfl rfl ?_)))));refine aR (g:=18) rfl (fun afJ=>?_) (fun afJ=>?_)
    ·refine au rfl rfl rfl rfl (au rfl rfl rfl rfl (au rfl rfl rfl rfl (cq rfl rfl rfl (cq rfl rfl rfl (cq rfl rfl rfl (cq rfl rfl rfl (cq rfl rfl rfl (cq rfl rfl rfl (cq rfl rfl rfl (au rfl rfl rfl rfl (a8 rfl rfl rfl ?_)))))))))));refine ab (nG rfl (aj (ae (ah rfl rfl (ab (aQ ?_))))));refine aV rfl rfl ⟨congrArg Value.bool (dH ?_),rfl⟩;rw[hr,gB hx,qp _ hx];by_cases h7:last<x
     ·have h2: ¬x<2147483648:=by omega
      simp[h2]
     ·simp[h7]
    ·refine al rfl rfl (ad rfl rfl (al rfl rfl (iY rfl rfl rfl (al rfl rfl (ad rfl rfl ?_)))));refine aR (g:=21) rfl (fun afK=>?_) (fun afK=>?_)
     ·refine al rfl rfl (ad rfl rfl (al rfl rfl (ad rfl rfl (al rfl rfl (ad rfl rfl (al rfl rfl (fq rfl rfl rfl (by omega) (al rfl rfl ?_))))))));refine cF (M:=M) aq I3 rfl rfl rfl hv (ao _ _) (by omega) (fun Y8 MU Gj U5=>?_);obtain rfl:last=MU:=dH (aH (Gj.symm.trans (by rw[show((k:Int)-1).toNat=k-1 from by omega];exact h1 (by omega))));refine al rfl rfl ?_;refine cd (M:=M) aw rfl rfl (by assumption) (by repeat (first|exact ao _ _|refine aX (bu (by assumption)) ?_)) (fun afL=>?_);refine al rfl rfl (gJ rfl rfl rfl (al rfl rfl (a8 rfl rfl rfl (aE rfl rfl rfl (ab ?_)))));refine bI rfl (fun c4=>?_) (fun c4=>?_)
      ·refine aj (ae (ah rfl rfl (ab (aQ ?_))));refine aV rfl rfl ⟨congrArg Value.bool (dH ?_),rfl⟩;rw[hr,gB hx,qp _ hx];by_cases h7:last<x
       ·have h2: ¬x<2147483648:=by omega
        simp[h2]
       ·simp[h7]
      ·refine aT (ae (bC rfl rfl rfl (by omega) (ad rfl rfl (ab ?_))));refine⟨rfl,(k+1,x),(.cons rfl (.cons rfl (.cons rfl (.cons rfl .nil)))),?_,?_⟩
       ·refine⟨rfl,by simp only;omega,?_,by simp only;omega,fun h=>by simp at h,fun _=>by simpa using hx⟩;rw[hr,gB hx,qp _ hx,decide_eq_true (show last<x by omega),decide_eq_true (show x<2147483648 by omega),fc,fc]
       ·simp only;omega
     ·refine au rfl rfl rfl rfl (au rfl rfl rfl rfl (au rfl rfl rfl rfl (au rfl rfl rfl rfl (au rfl rfl rfl rfl (au rfl rfl rfl rfl (au rfl rfl rfl rfl (al rfl rfl (aE rfl rfl rfl (aE rfl rfl rfl (ab (jt rfl ?_)))))))))));refine aT (ae (bC rfl rfl rfl (by omega) (ad rfl rfl (ab ?_))));refine⟨rfl,(k+1,x),(.cons rfl (.cons rfl (.cons rfl (.cons rfl .nil)))),?_,?_⟩
      ·refine⟨rfl,by simp only;omega,?_,by simp only;omega,fun h=>by simp at h,fun _=>by simpa using hx⟩;rw[hr,gB hx,qp _ hx,decide_eq_true (show last<x by omega),decide_eq_true (show x<2147483648 by omega),fc,fc]
      ·simp only;omega
  ·refine cK (aj (ae (ah rfl rfl (ab (aQ ?_)))));refine aV rfl rfl ⟨congrArg Value.bool (dH ?_),rfl⟩;rw[hr,fz (by omega)];rfl
theorem Ji {M:aD} {w0:World} {v:Value} {l:List Po} (hM:Lt M w0) (hv:((RT.po).sl).V M w0 l v):
  Spec Tryz.prog 193 #[v] w0 (fun v' w'=>v'= .bool (fS (-1) l)∧Step M w0 M w' aC):=by
 have hlen:=ej hv;refine bm (args:=[_]) (fn:=Tryz.f193) Tryz.func193 rfl (n:=36) Tryz.ntmps193 (aj (ae (ah rfl rfl (ab (aj (ae (ah rfl rfl (ab (aj (aj (ae ?_)))))))))));refine ad rfl rfl ?_
 first|refine bQ bA rfl (by assumption) rfl ?_|refine fE bA rfl (by assumption) rfl ?_
 refine ad rfl rfl (ab (aZ ?_));refine dn (σ:=Nat×Int) (fun s=>[(6,v),(7,.int .i64 l.length),(8,.int .i64 s.1),(3,.int .i64 s.2)]) (fun s w=>Step M w0 M w aC∧s.1≤l.length∧fS (-1) l=fS s.2 (l.drop s.1)) (fun s=>l.length-s.1) (0,-1) (.cons rfl (.cons rfl (.cons rfl (.cons rfl .nil)))) ?_ ?_
 ·exact⟨ax _ _,bD _,rfl⟩
 ·rintro⟨k,last⟩ w1 ⟨S,hk,hr⟩;dsimp only at hk hr ⊢;have hMw:=S.lt hM;refine aj (ae (cg rfl rfl rfl (ab (aj ?_))));refine bI rfl (fun c3=>?_) (fun c3=>?_)
  ·refine aT (aj (aZ (aj (ae ?_))));obtain⟨⟨d,ps⟩,hx⟩:∃x,l[k]? =some x:=⟨_,ar (by omega)⟩;refine cF (M:=M) bA nW rfl rfl rfl (hv.le S.le) (ao _ _) (by omega) (fun Pq U2 MS Da=>?_);obtain rfl:U2=(d,ps):=aH (MS.symm.trans (by simpa using hx));refine cN (M:=M) (A:=RT.po) bS rfl nW (by decide) rfl rfl rfl (by assumption) (by repeat (first|exact ao _ _|refine aX (bu (by assumption)) ?_)) (fun Pr Hy=>?_);refine sf (A:=RT.po) (M:=M) nW rfl rfl rfl rfl rfl (by assumption) (by repeat (first|exact ao _ _|refine aX (bu (by assumption)) ?_)) (by first|assumption|exact Step.lt (by assumption) (by assumption)|exact Step.lt (by assumption) (Step.lt (by assumption) (by assumption))) (fun TC KW mY lC YN=>?_);refine ab (aj (aj (ae ?_)));refine aK (M:=M) (A:=RT.po) (B:=RT.int .i64) bS rfl rfl I3 (by decide) (Q9) rfl rfl (by decide) (by assumption) (by repeat (first|exact ao _ _|refine aX (bu (by assumption)) ?_)) (fun YR HO=>?_);refine cd (M:=M) aw rfl rfl HO (ao _ _) (fun RS=>?_);refine aU (v':= .int .i64 d) rfl ?_;simp only at RS;refine ad rfl rfl (gJ rfl rfl rfl (ad rfl rfl ?_));refine aR (g:=16) rfl (fun U6=>?_) (fun U6=>?_)
   ·refine au rfl rfl rfl rfl (au rfl rfl rfl rfl (au rfl rfl rfl rfl (a8 rfl rfl rfl (ad rfl rfl (au rfl rfl rfl rfl (au rfl rfl rfl rfl (au rfl rfl rfl rfl (au rfl rfl rfl rfl (a8 rfl rfl rfl (ad rfl rfl (au rfl rfl rfl rfl ?_)))))))))));refine au rfl rfl rfl rfl (au rfl rfl rfl rfl (au rfl rfl rfl rfl (a8 rfl rfl rfl (ab (nG rfl (aj (ae (ah rfl rfl (ab (aQ ?_))))))))));refine aV rfl rfl ⟨congrArg Value.bool (dH ?_),S.aB lC⟩;rw[hr,mi hx]
    first
    |(rw[decide_eq_false (show¬last<d by omega)];simp;done)
    |(rw[decide_eq_false (show¬d<2147483648 by omega)];simp;done)
    |(rw[show ps=[]from cY.1 (by omega)];simp;done)
    |(simp[c5];done)
   ·refine al rfl rfl ?_;refine aK (M:=M) (A:=RT.po) (B:=RT.int .i64) bS rfl rfl I3 (by decide) (Q9) rfl rfl (by decide) (by assumption) (by repeat (first|exact ao _ _|refine aX (bu (by assumption)) ?_)) (fun apn Y9=>?_);refine al rfl rfl ?_;refine cd (M:=M) aw rfl rfl Y9 (ao _ _) (fun akS=>?_);refine aU (v':= .int .i64 d) rfl (al rfl rfl (dY rfl rfl rfl (aE rfl rfl rfl (ad rfl rfl ?_))));refine aR (g:=21) rfl (fun U7=>?_) (fun U7=>?_)
    ·refine au rfl rfl rfl rfl (au rfl rfl rfl rfl (au rfl rfl rfl rfl (au rfl rfl rfl rfl (a8 rfl rfl rfl (ad rfl rfl (au rfl rfl rfl rfl (au rfl rfl rfl rfl (au rfl rfl rfl rfl (au rfl rfl rfl rfl (a8 rfl rfl rfl (ab ?_)))))))))));refine nG rfl (aj (ae (ah rfl rfl (ab (aQ ?_)))));refine aV rfl rfl ⟨congrArg Value.bool (dH ?_),S.aB lC⟩;rw[hr,mi hx]
     first
     |(rw[decide_eq_false (show¬last<d by omega)];simp;done)
     |(rw[decide_eq_false (show¬d<2147483648 by omega)];simp;done)
     |(rw[show ps=[]from cY.1 (by omega)];simp;done)
     |(simp[c5];done)
    ·refine al rfl rfl ?_;refine aK (M:=M) (A:=RT.po) (B:=(RT.int .i64).sl) bS rfl rfl kD (by decide) (Tp) rfl rfl (by decide) (by assumption) (by repeat (first|exact ao _ _|refine aX (bu (by assumption)) ?_)) (fun akT afM=>?_);refine al rfl rfl ?_;refine bR (M:=M) aq rfl rfl rfl rfl rfl (by assumption) (by repeat (first|exact ao _ _|refine aX (bu (by assumption)) ?_)) (fun akU U8=>?_);refine al rfl rfl (bQ aq rfl U8 rfl (aU (v':= .int .i64 ps.length) rfl (al rfl rfl (qZ rfl rfl rfl (aE rfl rfl rfl (ad rfl rfl ?_))))));refine aR (g:=27) rfl (fun RV=>?_) (fun RV=>?_)
     ·refine au rfl rfl rfl rfl (au rfl rfl rfl rfl (au rfl rfl rfl rfl (au rfl rfl rfl rfl (a8 rfl rfl rfl (ab (nG rfl (aj (ae (ah rfl rfl (ab (aQ ?_)))))))))));refine aV rfl rfl ⟨congrArg Value.bool (dH ?_),S.aB lC⟩;rw[hr,mi hx]
      first
      |(rw[decide_eq_false (show¬last<d by omega)];simp;done)
      |(rw[decide_eq_false (show¬d<2147483648 by omega)];simp;done)
      |(rw[show ps=[]from cY.1 (by omega)];simp;done)
      |(simp[c5];done)
     ·refine al rfl rfl ?_;refine aK (M:=M) (A:=RT.po) (B:=(RT.int .i64).sl) bS rfl rfl kD (by decide) (Tp) rfl rfl (by decide) (by assumption) (by repeat (first|exact ao _ _|refine aX (bu (by assumption)) ?_)) (fun akV afN=>?_);refine al rfl rfl ?_;refine bR (M:=M) aq rfl rfl rfl rfl rfl (by assumption) (by repeat (first|exact ao _ _|refine aX (bu (by assumption)) ?_)) (fun akW U9=>?_);refine al rfl rfl ?_;refine aY rfl rfl adp (DZ U9) (fun r5 w5 h5=>?_);obtain⟨rfl,rfl⟩:=h5;refine al rfl rfl (mO rfl rfl (aU (v':= .bool (decide (¬oU ps=true))) (by simp) (aE rfl rfl rfl (ab ?_))));refine bI rfl (fun c5=>?_) (fun c5=>?_)
      ·refine aj (ae (ah rfl rfl (ab (aQ ?_))));refine aV rfl rfl ⟨congrArg Value.bool (dH ?_),S.aB lC⟩;rw[hr,mi hx]
       first
       |(rw[decide_eq_false (show¬last<d by omega)];simp;done)
       |(rw[decide_eq_false (show¬d<2147483648 by omega)];simp;done)
       |(rw[show ps=[]from cY.1 (by omega)];simp;done)
       |(simp[c5];done)
      ·refine aT (ae ?_);refine aK (M:=M) (A:=RT.po) (B:=RT.int .i64) bS rfl rfl I3 (by decide) (Q9) rfl rfl (by decide) (by assumption) (by repeat (first|exact ao _ _|refine aX (bu (by assumption)) ?_)) (fun Yb Hz=>?_);refine cd (M:=M) aw rfl rfl Hz (ao _ _) (fun akX=>?_);refine aU (v':= .int .i64 d) rfl (ah rfl rfl (ab (ae (bC rfl rfl rfl (by omega) (ad rfl rfl (ab ?_))))));refine⟨rfl,(k+1,d),(.cons rfl (.cons rfl (.cons rfl (.cons rfl .nil)))),?_,?_⟩
       ·refine⟨S.aB lC,by simp only;omega,?_⟩
        have eQ:ps.isEmpty=false:=by cases ps with
         |nil=>simp at RV
         |cons a t=>rfl
        rw[hr,mi hx,decide_eq_true (show last<d by omega),decide_eq_true (show d<2147483648 by omega),eQ,dJ.1 c5];rfl
       ·simp only;omega
  ·refine cK (aj (ae (ah rfl rfl (ab (aQ ?_)))));refine aV rfl rfl ⟨congrArg Value.bool (dH ?_),S⟩;rw[hr,fz (by omega)];rfl
theorem Gk {M:aD} {w0:World} {v:Value} {l:List Po} (hM:Lt M w0) (hv:((RT.po).sl).V M w0 l v):
  Spec Tryz.prog 194 #[v,.int .i64 8] w0 (fun v' w'=>∃bs bn,v'= .func (.func 250) [].toArray [.pointer (some ⟨bs,0,none⟩),.pointer (some ⟨bn,0,none⟩)].toArray∧w'.heap[bs]? =some (.cells #[v] 80 (0,0))∧w'.heap[bn]? =some (.cells #[.int .i64 8] 3 (0,0))∧w0.heap.size≤bs∧w0.heap.size≤bn∧Step M w0 M w' aC):=by
 refine bm (args:=[_,_]) (fn:=Tryz.f194) Tryz.func194 rfl (n:=9) Tryz.ntmps194 (aj (ae ?_));refine wM M rfl rfl (fun bs w1 h1 Ww hS s1=>?_);rw[k8 hv]at hS;refine wM (ins M bs) rfl rfl (fun bn w2 h2 xj hN s2=>?_);have hS2:=s2.aM hS;have hz1:=s1.size;refine ah rfl rfl (ab (aj (aj (ae (aP aw rfl rfl rfl hN rfl (cg rfl rfl rfl (ab (T.wO rfl ((by decide)) (aT (aj (ae ?_)))))))))));refine kg (xs:=[]) (ys:=[.tmp 2,.tmp 3]) rfl rfl rfl (ah rfl rfl (ab (aQ ?_)));exact aV rfl rfl ⟨bs,bn,rfl,hS2,hN,h1,by omega,(s1.aB s2).back⟩
theorem D0 {w0:World} {bs bn yl:Nat} {v:Value} {l:List Po} {M:aD} {wv:World} {J:Nat→World→Prop} {Jx:World→Prop} (hv:((RT.po).sl).V M wv l v) (kF:∀i w w',J i w→Step aC w aC w' aC→J i w') (HQ:∀i w,J i w→w.heap[bs]? =some (.cells #[v] 80 (0,0))∧w.heap[bn]? =some (.cells #[.int .i64 8] 3 (0,0))) (hy:∀(i:Nat) (w:World) (u:Value),J i w→i<l.length→((RT.po).sl).V M wv ((l.drop i).take 8) u→vW Tryz.prog yl [u].toArray w (fun r w'=>∃b,r= .bool b∧(b=true→J (min (i+8) l.length) w')∧(b=false→Jx w'))) (h0:J 0 w0):
  Spec Tryz.prog 250 #[.func (.yield yl) #[] #[],.pointer (some ⟨bs,0,none⟩),.pointer (some ⟨bn,0,none⟩)] w0 (fun _ w'=>J l.length w'∨Jx w'):=by
 have hlen:=ej hv;refine bm (args:=[_,_,_]) (fn:=Tryz.f250) Tryz.func250 rfl (n:=31) Tryz.ntmps250 (aj (ae (ah rfl rfl (ab (aZ ?_)))));refine dn (σ:=Nat) (fun s=>[(0,.func (.yield yl) #[] #[]),(1,.pointer (some ⟨bs,0,none⟩)),(2,.pointer (some ⟨bn,0,none⟩)),(4,.int .i64 s)]) (fun s w=>J (min s l.length) w∧s≤l.length+8) (fun s=>l.length+8-s) 0 (.cons rfl (.cons rfl (.cons rfl (.cons rfl .nil)))) ?_ ?_
 ·exact⟨by rw[Nat.zero_min];exact h0,bD _⟩
 ·rintro k w1 ⟨hJ,hk⟩;obtain⟨uW,Aa⟩:=HQ _ _ hJ;refine aj (aj (ae (ad rfl rfl (aP bA rfl rfl rfl uW rfl ?_))))
  first|refine bQ bA rfl (by assumption) rfl ?_|refine fE bA rfl (by assumption) rfl ?_
  refine cg rfl rfl rfl (ab ?_);refine bI rfl (fun c1=>?_) (fun c1=>?_)
  ·refine aT (aj (aZ (aj ?_)));apply T.draw (M:=aC) mixed [cT.eq _,cT.eq _,cT.eq _,cT.pure (fun v=>((RT.po).sl).V M wv (l.drop k) v),cT.eq _,cT.eq _,cT.eq _]
   ·rfl
   ·refine ca ?_ ?_
    ·intro wD E sD;refine aP aw rfl rfl rfl (de sD Aa) rfl ?_;exact ab ⟨rfl,rfl,_,rfl,rfl,ax _ _⟩
    refine ca ?_ ?_
    ·intro wD E sD;refine aP bA rfl rfl rfl (de sD uW) rfl ?_;exact ab ⟨rfl,rfl,_,rfl,rfl,ax _ _⟩
    refine ca ?_ ?_
    ·intro wD E sD;refine ad rfl rfl ?_;exact ab ⟨rfl,rfl,_,rfl,rfl,ax _ _⟩
    refine ca ?_ ?_
    ·intro wD E sD;refine aO (aO ?_);refine Rg.OR (A:=RT.po) (hn:=by decide) bA nW rfl rfl rfl hv (by omega) (fun u hu=>?_);rw[ay]at hu;exact ab ⟨rfl,rfl,_,rfl,hu,ax _ _⟩
    refine ca ?_ ?_
    ·intro wD E sD;intro v3 xo;have afO:((RT.po).sl).V M wv (l.drop k) v3:=xo;refine bQ bA rfl afO rfl ?_;exact ab ⟨rfl,rfl,_,rfl,rfl,ax _ _⟩
    refine ca ?_ ?_
    ·intro wD E sD;refine aO (aO (Rg.min2 rfl rfl rfl ?_));exact ab ⟨rfl,rfl,_,rfl,rfl,ax _ _⟩
    refine ca ?_ ?_
    ·intro wD E sD;refine aO (aO (aO (aO ?_)));intro v3 xo;refine aO (aO (ah rfl rfl ?_));exact ab ⟨rfl,rfl,_,rfl,rfl,ax _ _⟩
    exact dR.nil
   ·intro XP qO;refine aO (aO (aO ?_));intro afD Y2;refine aO (aO (aO ?_));rw[show min k l.length=k from by omega]at hJ;have Ys:=kF _ _ _ hJ qO;obtain⟨hb3,ru⟩:=HQ _ _ Ys;refine aj (ae (ad rfl rfl (aP bA rfl rfl rfl hb3 rfl (ad rfl rfl (ad rfl rfl (ad rfl rfl (bC rfl rfl rfl (by omega) (ad rfl rfl (ad rfl rfl (bC rfl rfl rfl (by omega) ?_))))))))));refine Rg.Ix (A:=RT.po) (hn:=by decide) bA nW rfl rfl rfl rfl rfl hv (by rw[dh];omega) (fun u hu=>?_)
    have he:(l.take ((k:Int)+min 8 ((l.drop k).length:Int)).toNat).drop (k:Int).toNat=(l.drop k).take 8:=by
     rw[ay,List.drop_take,dh,show((k:Int)+min 8 ((l.length-k:Nat):Int)).toNat-k=min 8 (l.length-k)from by omega,List.take_eq_take_iff,dh];omega
    rw[he]at hu;refine Rg.yield rfl (vs:=[u]) rfl rfl (hy k _ u Ys (by omega) hu) (fun r4 w4 h4=>?_);obtain⟨b,rfl,Re,qE⟩:=h4;refine mO rfl rfl (aU (v':= .bool (decide (¬b=true))) (by simp) (ab ?_));refine bI rfl (fun c4=>?_) (fun c4=>?_)
    ·refine aQ ?_;exact Cv rfl (.inr (qE (by simpa using c4)))
    ·refine aT (ae (ad rfl rfl ?_));have hJ5:=Re (dJ.1 c4);refine aP aw rfl rfl rfl (HQ _ _ hJ5).2 rfl (bC rfl rfl rfl (by omega) (ah rfl rfl (ab ?_)));refine⟨rfl,k+8,(.cons rfl (.cons rfl (.cons rfl (.cons rfl .nil)))),?_,?_⟩
     ·exact⟨hJ5,by omega⟩
     ·show l.length+8-(k+8)<l.length+8-k;omega
  ·refine cK ?_;rw[show min k l.length=l.length from by omega]at hJ;change wR Tryz.prog Tryz.f250 (fun _ w'=>J l.length w'∨Jx w') .normal _ [] _;exact fU rfl (.inl hJ)
end Go.K
namespace Go.K
open Go.Proofs
set_option maxRecDepth 10000
structure nz (M:aD) (w0:World) (v:Value) (bo bx bl D bs bn:Nat) (st:Obj) (vb vk:Value) (rM last:Int) (b:List UInt8) (ks:List Bl) (M1:aD) (w:World):Prop where
 lt:Lt M1 w
 S:Step M w0 M1 w aC
 mo:M1 bo
 mx:M1 bx
 ml:M1 bl
 md:M1 D
 mr:M1 (D+1)
 o:w.heap[bo]? =some (.cells #[.pointer (some ⟨bx,0,none⟩)] 142 (0,0))
 x:w.heap[bx]? =some (.cells #[vb,vk,.int .i64 rM] 207 (0,0))
 l:w.heap[bl]? =some (.cells #[.int .i64 last] 3 (0,0))
 d:w.heap[D]? =some (.deferred (some []))
 r:w.heap[D+1]? =some st
 s:w.heap[bs]? =some (.cells #[v] 80 (0,0))
 n:w.heap[bn]? =some (.cells #[.int .i64 8] 3 (0,0))
 ne:bo≠bx∧bo≠bl∧bx≠bl∧bo<D∧bx<D∧bl<D∧bs<D∧bn<D∧bs≠bo∧bs≠bx∧bs≠bl∧bn≠bo∧bn≠bx∧bn≠bl∧w0.heap.size≤bo∧w0.heap.size≤bx∧w0.heap.size≤bl∧w0.heap.size≤D
 hb:(RT.u8.sl).V M1 w b vb
 hk:Own RT.bl 209 M1 w (D+2) vk ks
section
variable {M M1 M2:aD} {w0 w w':World} {v vb vk:Value} {bo bx bl D bs bn:Nat} {st:Obj} {rM last:Int} {b:List UInt8} {ks:List Bl}
theorem nz.step (h:nz M w0 v bo bx bl D bs bn st vb vk rM last b ks M1 w) (s:Step M1 w M2 w' aC):nz M w0 v bo bx bl D bs bn st vb vk rM last b ks M2 w':=
 ⟨s.lt h.lt,h.S.aB s,(s.mem _ (h.lt _ h.mo)).2 h.mo,(s.mem _ (h.lt _ h.mx)).2 h.mx,(s.mem _ (h.lt _ h.ml)).2 h.ml,(s.mem _ (h.lt _ h.md)).2 h.md,(s.mem _ (h.lt _ h.mr)).2 h.mr,
  s.aM h.o,s.aM h.x,s.aM h.l,s.aM h.d,s.aM h.r,s.aM h.s,s.aM h.n,h.ne,h.hb.le s.le,h.hk.aL s⟩
theorem nz.P0 {n:Int} (h:nz M w0 v bo bx bl D bs bn st vb vk rM last b ks M1 w) (s:Step M1 w M1 w' (fun k=>k=bl)) (hl:w'.heap[bl]? =some (.cells #[.int .i64 n] 3 (0,0))):nz M w0 v bo bx bl D bs bn st vb vk rM n b ks M1 w':=by
 obtain⟨e1,e2,e3,e4,e5,e6,e7,e8,e9,WN,Za,WO,WQ,Zb,WR,WS,RW,e18⟩:=h.ne
 exact⟨s.lt h.lt,h.S.cj s (fun k hk=>by subst hk;exact RW),h.mo,h.mx,h.ml,h.md,h.mr,s.keep h.o e2,s.keep h.x e3,hl,s.keep h.d (by omega),s.keep h.r (by omega),s.keep h.s Za,s.keep h.n Zb,h.ne,h.hb.le s.le,
  h.hk.step s (fun k hk hh=>by have:=(h.hk.base k hk).1;omega)⟩
theorem nz.Va {vb' Vb:Value} {Zc:Int} {b':List UInt8} {Zd:List Bl} (h:nz M w0 v bo bx bl D bs bn st vb vk rM last b ks M1 w) (s:Step M1 w M1 w' (fun k=>k=bx)) (hx:w'.heap[bx]? =some (.cells #[vb',Vb,.int .i64 Zc] 207 (0,0)))
  (hb:(RT.u8.sl).V M1 w' b' vb') (hk:Own RT.bl 209 M1 w (D+2) Vb Zd):nz M w0 v bo bx bl D bs bn st vb' Vb Zc last b' Zd M1 w':=by
 obtain⟨e1,e2,e3,e4,e5,e6,e7,e8,e9,WN,Za,WO,WQ,Zb,WR,WS,RW,e18⟩:=h.ne
 exact⟨s.lt h.lt,h.S.cj s (fun k hk=>by subst hk;exact WS),h.mo,h.mx,h.ml,h.md,h.mr,s.keep h.o e1,hx,s.keep h.l (Ne.symm e3),s.keep h.d (by omega),s.keep h.r (by omega),s.keep h.s WN,s.keep h.n WQ,h.ne,hb,
  hk.step s (fun k tw hh=>by have:=(hk.base k tw).1;omega)⟩
theorem nz.o8 {st':Obj} (h:nz M w0 v bo bx bl D bs bn st vb vk rM last b ks M1 w) (kF:w.heap[D+1]? =some st):nz M w0 v bo bx bl D bs bn st' vb vk rM last b ks M1 (w.putObj (D+1) st'):=by
 have s:Step M1 w M1 (w.putObj (D+1) st') (fun k=>k=D+1):=eC h.mr;obtain⟨e1,e2,e3,e4,e5,e6,e7,e8,e9,WN,Za,WO,WQ,Zb,WR,WS,RW,e18⟩:=h.ne
 exact⟨s.lt h.lt,h.S.cj s (fun k hk=>by subst hk;omega),h.mo,h.mx,h.ml,h.md,h.mr,s.keep h.o (by omega),s.keep h.x (by omega),s.keep h.l (by omega),s.keep h.d (by omega),World.putObj_heap_same (ak kF),s.keep h.s (by omega),s.keep h.n (by omega),h.ne,h.hb.le s.le,
  h.hk.step s (fun k tw hh=>by have:=(h.hk.base k tw).1;omega)⟩
theorem nz.other {q:Nat} (h:nz M w0 v bo bx bl D bs bn st vb vk rM last b ks M1 w) (s:Step M1 w M1 w' (fun k=>k=q)) (hq:D+1<q) (hqv:∀k,vk.ownBlock=some k→k≠q):nz M w0 v bo bx bl D bs bn st vb vk rM last b ks M1 w':=by
 obtain⟨e1,e2,e3,e4,e5,e6,e7,e8,e9,WN,Za,WO,WQ,Zb,WR,WS,RW,e18⟩:=h.ne
 exact⟨s.lt h.lt,h.S.cj s (fun k hk=>by subst hk;omega),h.mo,h.mx,h.ml,h.md,h.mr,s.keep h.o (by omega),s.keep h.x (by omega),s.keep h.l (by omega),s.keep h.d (by omega),s.keep h.r (by omega),s.keep h.s (by omega),s.keep h.n (by omega),h.ne,h.hb.le s.le,
  h.hk.step s (fun k tw hh=>hqv k tw hh)⟩
theorem nz.grow {Vb:Value} {Zd:List Bl} (h:nz M w0 v bo bx bl D bs bn st vb vk rM last b ks M1 w) (s:Step M1 w M2 w' (fun k=>vk.ownBlock=some k)) (hk:Own RT.bl 209 M2 w' (D+2) Vb Zd):
  (w'.heap[bx]? =some (.cells #[vb,vk,.int .i64 rM] 207 (0,0))∧M2 bx∧Lt M2 w')∧∀{w2:World},Step M2 w' M2 w2 (fun k=>k=bx)→w2.heap[bx]? =some (.cells #[vb,Vb,.int .i64 rM] 207 (0,0))→nz M w0 v bo bx bl D bs bn st vb Vb rM last b Zd M2 w2:=by
 obtain⟨e1,e2,e3,e4,e5,e6,e7,e8,e9,WN,Za,WO,WQ,Zb,WR,WS,RW,e18⟩:=h.ne;have hn:∀k,vk.ownBlock=some k→D+2≤k:=fun k hk=>(h.hk.base k hk).1
 have eR:=fun {k:Nat} (hm:M1 k)=>(s.mem k (h.lt k hm)).2 hm
 refine⟨⟨s.keep h.x (fun hh=>by have:=hn _ hh;omega),eR h.mx,s.lt h.lt⟩,fun {w2} s2 hx=>?_⟩;have S':=h.S.cj s (fun k hk=>by have:=hn k hk;omega)
 exact⟨s2.lt (s.lt h.lt),S'.cj s2 (fun k hk=>by subst hk;exact WS),eR h.mo,eR h.mx,eR h.ml,eR h.md,eR h.mr,s2.keep (s.keep h.o (fun hh=>by have:=hn _ hh;omega)) e1,hx,s2.keep (s.keep h.l (fun hh=>by have:=hn _ hh;omega)) (Ne.symm e3),
  s2.keep (s.keep h.d (fun hh=>by have:=hn _ hh;omega)) (by omega),s2.keep (s.keep h.r (fun hh=>by have:=hn _ hh;omega)) (by omega),s2.keep (s.keep h.s (fun hh=>by have:=hn _ hh;omega)) WN,s2.keep (s.keep h.n (fun hh=>by have:=hn _ hh;omega)) WQ,h.ne,(h.hb.le s.le).le s2.le,
  hk.step s2 (fun k tw hh=>by have:=(hk.base k tw).1;omega)⟩
end
def MV (M:aD) (w0:World) (l:List Po) (v:Value) (bo bx bl D bs bn:Nat) (st:Obj) (i:Nat) (w:World):Prop:=
 ∃(M1:aD) (vb vk:Value),nz M w0 v bo bx bl D bs bn st vb vk (ji (l.take i)) (dB (-1) (l.take i)) (eg (-1) (l.take i)) (nt l ((i+7)/8)) M1 w∧(i%8=0∨i=l.length)∧i≤l.length
theorem Vc {M:aD} {w0 w2 w3 w5 w6 w7:World} {v:Value} {l:List Po} {bo bx bl bs bn:Nat} {st:Obj} (S6:Step M w0 (ins (ins (ins M bx) bo) bl) w6 aC) (s7:Step (ins (ins (ins M bx) bo) bl) w6 (ins (ins (ins M bx) bo) bl) w7 aC) (hM:Lt M w0)
  (e1:bo<w6.heap.size) (e2:bx<w6.heap.size) (e3:bl<w6.heap.size) (n1:bo≠bx) (n2:bo≠bl) (n3:bx≠bl)
  (hO:w6.heap[bo]? =some (.cells #[.pointer (some ⟨bx,0,none⟩)] 142 (0,0))) (hX:w6.heap[bx]? =some (.cells #[.slice none 0 0,.slice none 0 0,.int .i64 0] 207 (0,0))) (hL:w6.heap[bl]? =some (.cells #[.int .i64 (-1)] 3 (0,0)))
  (hS:w7.heap[bs]? =some (.cells #[v] 80 (0,0))) (hN:w7.heap[bn]? =some (.cells #[.int .i64 8] 3 (0,0))) (hbs:w6.heap.size≤bs) (hbn:w6.heap.size≤bn)
  (g1:w0.heap.size≤bo) (g2:w0.heap.size≤bx) (g3:w0.heap.size≤bl):
  MV M w0 l v bo bx bl w7.heap.size bs bn st 0 ((w7.alloc (.deferred (some []))).alloc st):=by
 have sA:Step (ins (ins (ins M bx) bo) bl) w7 (ins (ins (ins (ins M bx) bo) bl) w7.heap.size) (w7.alloc (.deferred (some []))) aC:=(dm _ w7 _).own (aN _) (by simp);have sB:Step (ins (ins (ins (ins M bx) bo) bl) w7.heap.size) (w7.alloc (.deferred (some []))) (ins (ins (ins (ins (ins M bx) bo) bl) w7.heap.size) (w7.heap.size+1)) ((w7.alloc (.deferred (some []))).alloc st) aC:=(dm _ _ _).own (by simp) (by simp);have z7:=s7.size;have hs7:=ak hS;have hn7:=ak hN;have S:=((S6.aB s7).aB sA).aB sB;have hD:(w7.alloc (.deferred (some []))).heap[w7.heap.size]? =some (.deferred (some [])):=cr w7 _;have hR:((w7.alloc (.deferred (some []))).alloc st).heap[w7.heap.size+1]? =some st:=by have:=cr (w7.alloc (.deferred (some []))) st;rwa [World.size_alloc]at this
 have z0:=S6.size;refine⟨_,.slice none 0 0,.slice none 0 0,⟨S.lt hM,S,?_,?_,?_,?_,.inl rfl,sB.aM (sA.aM (s7.aM hO)),sB.aM (sA.aM (s7.aM hX)),sB.aM (sA.aM (s7.aM hL)),sB.aM hD,hR,sB.aM (sA.aM hS),sB.aM (sA.aM hN),by omega,pB,dD _ _ _ _ _⟩,.inl rfl,bD _⟩
 ·exact .inr (.inr (.inr (.inl rfl)))
 ·exact .inr (.inr (.inr (.inr (.inl rfl))))
 ·exact .inr (.inr (.inl rfl))
 ·exact .inr (.inl rfl)
set_option maxHeartbeats 4000000 in
theorem AO {M:aD} {w0:World} {v:Value} {l:List Po} (hM:Lt M w0) (hv:((RT.po).sl).V M w0 l v) (jT:∀p∈l,p.2.length≤1099511627776) (kE:(eg (-1) l).length≤35184372088832) (Ik:l.length≤1099511627776) (Vd:ji l≤4611686018427387904):
  Spec Tryz.prog 145 #[v] w0 (fun v' w'=>Step M w0 M w' aC∧(fS (-1) l=true→∃p,v'= .tuple #[p,.int .i64 0]∧cQ RT.li M w' p (mR l))∧(fS (-1) l=false→v'= .tuple #[.pointer none,.int .i64 1])):=by
 have hlen:=ej hv;refine qn (args:=[_]) (fn:=Tryz.f145) Tryz.func145 rfl (n:=85) Tryz.ntmps145 (aj (ae (ah rfl rfl (ah rfl rfl (ab (aj (aj (ae (ad rfl rfl ?_)))))))));refine aY rfl rfl ade (Ji hM hv) (fun r w1 h1=>?_);obtain⟨rfl,s1⟩:=h1;refine mO rfl rfl (aU (v':= .bool (decide (¬fS (-1) l=true))) (by simp) (ab ?_));refine bI rfl (fun c1=>?_) (fun c1=>?_)
 ·refine aj (ae (ah rfl rfl (ah rfl rfl (ab (aQ ?_)))));exact O1 rfl rfl rfl ⟨s1,fun h=>absurd h c1,fun _=>rfl⟩
 ·have ot:=dJ.1 c1;refine aT (aj (ae (iS (places:=[(0,1),(1,1),(2,1)]) ed acT acV rfl rfl (out:=[.slice none 0 0,.slice none 0 0,.int .i64 0]) rfl ?_)));refine wM M rfl rfl (fun bx w2 HQ apq hX s2=>?_);change w2.heap[bx]? =some (.cells #[.slice none 0 0,.slice none 0 0,.int .i64 0] 207 (0,0))at hX;refine eE (ins M bx) zB rfl (fun bo w3 WT Ze hO s3=>?_);refine cw (M:=ins (ins M bx) bo) zB rfl rfl hO rfl rfl (.inl rfl) (fun w4 hO4 s4=>?_);refine ab (aj (ae ?_));refine eE (ins (ins M bx) bo) I3 rfl (fun bl w5 aps ak1 hL s5=>?_);refine cw (M:=ins (ins (ins M bx) bo) bl) I3 rfl rfl hL rfl rfl (.inl rfl) (fun w6 hL6 s6=>?_);have z1:=s1.size;have z2:=s2.size;have z3:=s3.size;have z4:=s4.size;have z5:=s5.size;have z6:=s6.size;have S6:Step M w0 (ins (ins (ins M bx) bo) bl) w6 aC:=((((s1.aB s2).aB s3).cj s4 (fun k hk=>by subst hk;omega)).aB s5).cj s6 (fun k hk=>by subst hk;omega);have hO6:=s6.keep (s5.aM hO4) (show bo≠bl by omega);have hX6:=s6.keep (s5.aM (s4.keep (s3.aM hX) (show bx≠bo by omega))) (show bx≠bl by omega);refine ab (aj (aj (ae (ad rfl rfl ?_))));refine aY rfl rfl adf (Gk (M:=ins (ins (ins M bx) bo) bl) (S6.lt hM) (hv.le S6.le)) (fun r w7 h7=>?_);obtain⟨bs,bn,rfl,hS7,hN7,hbs,hbn,s7⟩:=h7;have z7:=s7.size;have apw:=ak hS7;have apx:=ak hN7;refine ab (aZ ?_);refine T.range (gf:=250) (lb:=[.pointer (some ⟨bs,0,none⟩),.pointer (some ⟨bn,0,none⟩)].toArray) rfl adq (fun rec pS=>?_);obtain⟨D,hD⟩:∃D,D=w7.heap.size:=⟨_,rfl⟩;rw[←hD]at pS ⊢
  have h0:MV M w0 l v bo bx bl D bs bn (.loop (rec .ready none)) 0 ((w7.alloc (.deferred (some []))).alloc (.loop (rec .ready none))):=by
   rw[hD]at pS ⊢;exact Vc (w2:=w7) (w3:=w7) (w5:=w7) S6 s7 hM (by omega) (by omega) (by omega) (by omega) (by omega) (by omega) hO6 hX6 hL6 hS7 hN7 hbs hbn (by omega) (by omega) (by omega)
  refine Spec.mono (D0 (M:=M) (wv:=w0) (J:=MV M w0 l v bo bx bl D bs bn (.loop (rec .ready none))) (Jx:=fun _=>False) hv (fun i w w' ⟨M1,vb,vk,h,h2⟩ s=>⟨M1,vb,vk,h.step (s.any M1),h2⟩) (fun i w ⟨M1,vb,vk,h,h2⟩=>⟨h.s,h.n⟩) (fun i wr u hJ hi hu=>?_) h0) (fun _ w3 h3=>?_)
  ·obtain⟨M1,vb,vk,h,hi8,oN⟩:=hJ;refine nT (ps:=[17]) (vs:=[u]) pS h.r rfl (by decide) (ae (ah rfl rfl (ab ?_)));refine⟨rfl,h.r,?_⟩;have h1:=h.o8 (st':= .loop (rec .busy none)) h.r;generalize wr.putObj (D+1) _=wB at h1 ⊢;have hO:=h1.o;have hX:=h1.x;have hL:=h1.l;have hB:=h1.hb;have dV:=h1.lt;have uN:((l.drop i).take 8).length≤8:=by rw[bg];omega
   have apy:((l.drop i).take 8).length=min 8 (l.length-i):=by rw[bg,dh]
   obtain⟨q1,q2,q3,q4,q5,q6,q7,q8,q9,q10,q11,q12,q13,q14,q15,q16,q17,q18⟩:=h1.ne;refine aZ (aj ?_);apply T.Hg (M:=M1) (n:=85) _ mixed [] [cT.eq _,cT.eq _,cT.eq _,cT.eq _,cT.eq _,cT.eq _,cT.eq _,cT.eq _,cT.eq _,cT.mk' (fun p w'=>∃bq,p= .pointer (some ⟨bq,0,none⟩)∧wB.heap.size≤bq∧w'.heap[bq]? =some (.cells #[.int .i64 0,.int .i64 0,.int .i64 0,.int .i64 0] 209 (0,0))) (fun⟨bq,h1,h2,h3⟩ s=>⟨bq,h1,h2,s.aM h3⟩)]
   ·rfl
   ·rfl
   ·rfl
   ·rfl
   ·exact fun p hp=>by cases hp
   ·exact vR.none
   ·refine aJ ?_ ?_
    ·intro wD E sD;refine aP eW rfl rfl rfl (de sD (by assumption)) rfl ?_;exact ab ⟨rfl,rfl,_,rfl,rfl,ax _ _⟩
    refine aJ ?_ ?_
    ·intro wD E sD;refine aO (bN rfl ⟨_,rfl⟩ rfl ?_);exact ab ⟨rfl,rfl,_,rfl,rfl,ax _ _⟩
    refine aJ ?_ ?_
    ·intro wD E sD;refine aO (bK ed rfl rfl CS (by decide) rfl rfl ?_);exact ab ⟨rfl,rfl,_,rfl,rfl,ax _ _⟩
    refine aJ ?_ ?_
    ·intro wD E sD;refine aO (aP bH rfl rfl rfl (de sD (by assumption)) rfl ?_);exact ab ⟨rfl,rfl,_,rfl,rfl,ax _ _⟩
    refine aJ ?_ ?_
    ·intro wD E sD;refine aO ?_
     first|refine bQ bH rfl (by assumption) rfl ?_|refine fE bH rfl (by assumption) rfl ?_
     exact ab ⟨rfl,rfl,_,rfl,rfl,ax _ _⟩
    refine aJ ?_ ?_
    ·intro wD E sD;refine aP aw rfl rfl rfl (de sD (by assumption)) rfl ?_;exact ab ⟨rfl,rfl,_,rfl,rfl,ax _ _⟩
    refine aJ ?_ ?_
    ·intro wD E sD;refine ad rfl rfl ?_;exact ab ⟨rfl,rfl,_,rfl,rfl,ax _ _⟩
    refine aJ ?_ ?_
    ·intro wD E sD;refine aO ?_
     first|refine bQ bA rfl (by assumption) rfl ?_|refine fE bA rfl (by assumption) rfl ?_
     exact ab ⟨rfl,rfl,_,rfl,rfl,ax _ _⟩
    refine aJ ?_ ?_
    ·intro wD E sD;refine aO (aO (aO (iS (places:=[(0,1),(1,1),(2,1),(3,1)]) jR wY acW rfl ⟨_,_,rfl,rfl,_,_,rfl,rfl,_,_,rfl,rfl,rfl⟩ (out:=[.int .i64 (eg (-1) (l.take i)).length,.int .i64 (dB (-1) (l.take i)),.int .i64 0,.int .i64 ((l.drop i).take 8).length]) ⟨0,[_],rfl,rfl,by simp[Value.cells],1,[_],rfl,rfl,by simp[Value.cells],3,[_],rfl,rfl,by simp[Value.cells],rfl⟩ ?_)));exact ab ⟨rfl,rfl,_,rfl,rfl,ax _ _⟩
    refine aJ ?_ ?_
    ·intro wD E sD;refine eE M1 wY rfl (fun bq wq e1 e2 e3 s=>?_);exact ab ⟨rfl,rfl,_,rfl,⟨bq,rfl,dW sD.size e1,e3⟩,s.back⟩
    exact xg
   ·intro wD7 sD7;refine aO (aO (aO (aO (aO (aO (aO (aO (aO ?_))))))));intro apK Zf;obtain⟨bq,rfl,Td,hq2⟩:=Zf;have Q5:=ak hq2;have sQ:Step M1 wB (ins M1 bq) wD7 aC:=sD7.own Td Q5;refine eG (M:=ins M1 bq) (vs:=[.int .i64 (eg (-1) (l.take i)).length,.int .i64 (dB (-1) (l.take i)),.int .i64 0,.int .i64 ((l.drop i).take 8).length]) wY rfl rfl (by intro x hx;simp at hx;rcases hx with rfl|rfl|rfl|rfl<;>rfl) rfl rfl hq2 (.inl rfl) (fun wQ hQ sQ2=>?_);refine ab ⟨rfl,?_⟩;have h2:=h1.step (sQ.cj sQ2 (fun k hk=>by subst hk;exact Td));have hqv:∀k,vk.ownBlock=some k→k≠bq:=fun k hk=>by have:=(h1.hk.base k hk).2;omega
    have hDq:D+1<bq:=by have:=ak h1.r;omega
    have h3:nz M w0 v bo bx bl D bs bn (.loop (rec .busy none)) vb vk (ji (l.take (i+0))) (dB (-1) (l.take (i+0))) (eg (-1) (l.take (i+0))) (nt l ((i+7)/8)) (ins M1 bq) wQ:=h2;obtain⟨M2,EX⟩:∃M2,M2=ins M1 bq:=⟨_,rfl⟩;rw[←EX]at h3;refine aj (aj (ae (ad rfl rfl ?_)))
    first|refine bQ bA rfl (by assumption) rfl ?_|refine fE bA rfl (by assumption) rfl ?_
    refine ad rfl rfl (ab (aZ ?_));refine dn (σ:=Nat×Value) (fun s=>[(4,.pointer (some ⟨bo,0,none⟩)),(5,.pointer (some ⟨bl,0,none⟩)),(6,u),(7,.pointer (some ⟨bq,0,none⟩)),(27,u),(28,.int .i64 ((l.drop i).take 8).length),(29,.int .i64 s.1)]) (fun s w=>s.1≤((l.drop i).take 8).length∧w.heap[bq]? =some (.cells #[.int .i64 (eg (-1) (l.take i)).length,.int .i64 (dB (-1) (l.take i)),.int .i64 0,.int .i64 ((l.drop i).take 8).length] 209 (0,0))∧nz M w0 v bo bx bl D bs bn (.loop (rec .busy none)) s.2 vk (ji (l.take (i+s.1))) (dB (-1) (l.take (i+s.1))) (eg (-1) (l.take (i+s.1))) (nt l ((i+7)/8)) M2 w) (fun s=>((l.drop i).take 8).length-s.1) (0,vb) (.cons rfl (.cons rfl (.cons rfl (.cons rfl (.cons rfl (.cons rfl (.cons rfl .nil))))))) ?_ ?_
    ·exact⟨bD _,hQ,h3⟩
    ·rintro⟨j,vb⟩ wj ⟨hj,hQ,h4⟩;dsimp only at hj hQ h4 ⊢;have dV:=h4.lt;refine aj (ae (cg rfl rfl rfl (ab (aj ?_))));refine bI rfl (fun c9=>?_) (fun c9=>?_)
     ·refine aT (aj (aZ (aj (ae ?_))));obtain⟨⟨d,ps⟩,hx⟩:∃x,l[i+j]? =some x:=⟨_,ar (by omega)⟩;obtain⟨f1,f2,f3,f4,f5,f6⟩:=Bh ot hx;obtain⟨f7,f8⟩:=oV.1 f4;have fps:=jT _ (az hx);have fb:=nu l (i+j);have ft:=CN l (i+j);have ft2:=CN l (i+j+1);rw[xS hx]at ft2;have ftk:=xR (-1) hx;have ftl:=nu l (i+j+1);simp only at fps;refine cF (M:=M2) bA nW rfl rfl rfl (hu.le h4.S.le) (ao _ _) (by omega) (fun X7 Zg Ve T7=>?_);obtain rfl:(d,ps)=Zg:=dH (aH (Ve.symm.trans (by rw[ay,cp,if_pos (by omega),List.getElem?_drop];exact hx)));refine cN (M:=M2) (A:=RT.po) bS rfl nW (by decide) rfl rfl rfl (by assumption) (by repeat (first|exact ao _ _|refine aX (bu (by assumption)) ?_)) (fun X8 Lr=>?_);refine sf (A:=RT.po) (M:=M2) nW rfl rfl rfl rfl rfl (by assumption) (by repeat (first|exact ao _ _|refine aX (bu (by assumption)) ?_)) (by first|assumption|exact Step.lt (by assumption) (by assumption)|exact Step.lt (by assumption) (Step.lt (by assumption) (by assumption))) (fun ak6 ak7 Vf RX ak8=>?_);refine ab (aj ?_);have h5:=h4.step RX;have hO:=h5.o;have hX:=h5.x;have hL:=h5.l;have hB:=h5.hb;have dV:=h5.lt;have hp0:=Vf;apply T.Hg (M:=M2) (n:=85) _ mixed [] [cT.eq _,cT.eq _,cT.eq _,cT.eq _,cT.eq _,cT.ptr (RT.int .i64) d,cT.eq (.int .i64 d),cT.eq _,cT.eq _,cT.eq (.int .i64 (((d-dB (-1) (l.take (i+j))-1).toNat:Nat):Int)),cT.V (RT.u8.sl) (eg (-1) (l.take (i+j))++put (d-dB (-1) (l.take (i+j))-1).toNat),cT.eq _,cT.eq _]
      ·rfl
      ·rfl
      ·rfl
      ·rfl
      ·exact fun p hp=>by cases hp
      ·exact vR.none
      ·refine aJ ?_ ?_
       ·intro wD E sD;refine aP eW rfl rfl rfl (de sD (by assumption)) rfl ?_;exact ab ⟨rfl,rfl,_,rfl,rfl,ax _ _⟩
       refine aJ ?_ ?_
       ·intro wD E sD;refine aP eW rfl rfl rfl (de sD (by assumption)) rfl ?_;exact ab ⟨rfl,rfl,_,rfl,rfl,ax _ _⟩
       refine aJ ?_ ?_
       ·intro wD E sD;refine aO (bN rfl ⟨_,rfl⟩ rfl ?_);exact ab ⟨rfl,rfl,_,rfl,rfl,ax _ _⟩
       refine aJ ?_ ?_
       ·intro wD E sD;refine aO (bK ed rfl rfl CS (by decide) rfl rfl ?_);exact ab ⟨rfl,rfl,_,rfl,rfl,ax _ _⟩
       refine aJ ?_ ?_
       ·intro wD E sD;refine aO (aP bH rfl rfl rfl (de sD (by assumption)) rfl ?_);exact ab ⟨rfl,rfl,_,rfl,rfl,ax _ _⟩
       refine aJ ?_ ?_
       ·intro wD E sD;refine aK (M:=M2) (A:=RT.po) (B:=RT.int .i64) bS rfl rfl I3 (by decide) (Q9) rfl rfl (by decide) (by assumption) (by repeat (first|exact ao _ _|refine aX (bu (by assumption)) ?_)) (fun ala afQ=>?_);exact ab ⟨rfl,rfl,_,rfl,by assumption,ax _ _⟩
       refine aJ ?_ ?_
       ·intro wD E sD;intro v5 qf;refine cd (M:=M2) aw rfl rfl (by assumption) (by repeat (first|exact ao _ _|refine aX (bu (by assumption)) ?_)) (fun afR=>?_);exact ab ⟨rfl,rfl,_,rfl,rfl,ax _ _⟩
       refine aJ ?_ ?_
       ·intro wD E sD;refine aP aw rfl rfl rfl (de sD (by assumption)) rfl ?_;exact ab ⟨rfl,rfl,_,rfl,rfl,ax _ _⟩
       refine aJ ?_ ?_
       ·intro wD E sD;refine aO (aO (fq rfl rfl rfl (by omega) ?_));exact ab ⟨rfl,rfl,_,rfl,rfl,ax _ _⟩
       refine aJ ?_ ?_
       ·intro wD E sD;refine aO (fq rfl rfl rfl (by omega) (aU (v':= .int .i64 (((d-dB (-1) (l.take (i+j))-1).toNat:Nat):Int)) (by congr 1;omega) ?_));exact ab ⟨rfl,rfl,_,rfl,rfl,ax _ _⟩
       refine aJ ?_ ?_
       ·intro wD E sD;refine aO (aO ?_);refine aY rfl rfl Ty (MK (M:=M2) (sD.lt dV) (hB.le sD.le) (by omega) (by omega)) (fun rP wP hP=>?_);exact ab ⟨rfl,rfl,_,rfl,hP.2,hP.1⟩
       refine aJ ?_ ?_
       ·intro wD E sD;refine aO (aO (aO (aO (aO (aO ?_)))));intro v5 qf;refine aO (aO (aO (aO ?_)));intro v10 Vg;refine bN rfl ⟨_,rfl⟩ rfl ?_;exact ab ⟨rfl,rfl,_,rfl,rfl,ax _ _⟩
       refine aJ ?_ ?_
       ·intro wD E sD;refine aO (aO (aO (aO (aO (aO ?_)))));intro v5 qf;refine aO (aO (aO (aO ?_)));intro v10 Vg;refine bK ed rfl rfl CS (by decide) rfl rfl ?_;exact ab ⟨rfl,rfl,_,rfl,rfl,ax _ _⟩
       exact xg
      ·intro F6 gZ;refine aO (aO (aO (aO (aO ?_))));intro alb afS;refine aO (aO (aO (aO ?_)));intro afT HR;refine aO (aO ?_);have h6:=h5.step gZ;have hp6:=hp0.le (by decide) gZ.le;refine cw (M:=M2) CS rfl rfl h6.x rfl (pI HR rfl rfl) h6.mx (fun w11 afU Jj=>?_);refine ab ⟨rfl,?_⟩;have h7:=h6.Va Jj afU (RT.V.le Jj.le HR) h6.hk;have WM:=hp6.le (by decide) Jj.le;refine aj ?_;have hO:=h7.o;have hX:=h7.x;have hB:=h7.hb;have dV:=h7.lt;have fbl:(eg (-1) (l.take (i+j))++put (d-dB (-1) (l.take (i+j))-1).toNat).length≤35184372088832:=by rw[ftk]at ftl;simp only[bc]at ftl ⊢;omega
       apply T.Q3 (M:=M2) mixed [(13,fun k=>k=bx)] [cT.eq _,cT.eq _,cT.eq _,cT.eq _,cT.eq _,cT.ptr ((RT.int .i64).sl) ps,cT.V ((RT.int .i64).sl) ps,⟨fun t w=>∃x,t= .tuple #[x,.int .i64 0]∧(RT.u8.sl).V M2 w (eg (-1) (l.take (i+j))++put (d-dB (-1) (l.take (i+j))-1).toNat++eJ ps) x,Il,fun⟨x,h1,h2⟩ s _=>⟨x,h1,h2.le s.le⟩⟩,⟨fun t w=>∃x,t= .tuple #[x,.int .i64 0]∧(RT.u8.sl).V M2 w (eg (-1) (l.take (i+j))++put (d-dB (-1) (l.take (i+j))-1).toNat++eJ ps) x,Il,fun⟨x,h1,h2⟩ s _=>⟨x,h1,h2.le s.le⟩⟩,cT.V (RT.u8.sl) (eg (-1) (l.take (i+j))++put (d-dB (-1) (l.take (i+j))-1).toNat++eJ ps),cT.eq (.int .i64 0),cT.eq _,cT.eq _,⟨fun _ w=>∃x,w.heap[bx]? =some (.cells #[x,vk,.int .i64 (ji (l.take (i+j)))] 207 (0,0))∧(RT.u8.sl).V M2 w (eg (-1) (l.take (i+j))++put (d-dB (-1) (l.take (i+j))-1).toNat++eJ ps) x,fun k=>k≠bx,fun⟨x,h1,h2⟩ s hN=>⟨x,s.keep h1 (fun hb=>hN _ hb rfl),h2.le s.le⟩⟩]
       ·rfl
       ·intro p hp b hb;simp only[bJ]at hp;subst hp
        cases hb;exact h7.mx
       ·exact⟨fun _ _ _ _=>trivial,⟨fun _ _ _ _=>trivial,⟨fun _ _ _ _=>trivial,⟨fun _ _ _ _=>trivial,⟨fun _ _ _ _=>trivial,⟨fun _ _ _ _=>trivial,⟨fun _ _ _ _=>trivial,⟨fun _ _ _ _=>trivial,⟨fun _ _ _ _=>trivial,⟨fun _ _ _ _=>trivial,⟨fun _ _ _ _=>trivial,⟨fun _ _ _ _=>trivial,⟨fun _ _ _ _=>trivial,⟨fun p hp=>by simp at hp,trivial⟩⟩⟩⟩⟩⟩⟩⟩⟩⟩⟩⟩⟩⟩
       ·refine ca ?_ ?_
        ·intro wD E sD;replace sD:Step M2 _ M2 wD aC:=sD;refine aP eW rfl rfl rfl (de sD (by assumption)) rfl ?_;exact ab ⟨rfl,rfl,_,rfl,rfl,ax _ _⟩
        refine ca ?_ ?_
        ·intro wD E sD;replace sD:Step M2 _ M2 wD aC:=sD;refine aP eW rfl rfl rfl (de sD (by assumption)) rfl ?_;exact ab ⟨rfl,rfl,_,rfl,rfl,ax _ _⟩
        refine ca ?_ ?_
        ·intro wD E sD;replace sD:Step M2 _ M2 wD aC:=sD;refine aO (bN rfl ⟨_,rfl⟩ rfl ?_);exact ab ⟨rfl,rfl,_,rfl,rfl,ax _ _⟩
        refine ca ?_ ?_
        ·intro wD E sD;replace sD:Step M2 _ M2 wD aC:=sD;refine aO (bK ed rfl rfl CS (by decide) rfl rfl ?_);exact ab ⟨rfl,rfl,_,rfl,rfl,ax _ _⟩
        refine ca ?_ ?_
        ·intro wD E sD;replace sD:Step M2 _ M2 wD aC:=sD;refine aO (aP bH rfl rfl rfl (de sD (by assumption)) rfl ?_);exact ab ⟨rfl,rfl,_,rfl,rfl,ax _ _⟩
        refine ca ?_ ?_
        ·intro wD E sD;replace sD:Step M2 _ M2 wD aC:=sD;refine aK (M:=M2) (A:=RT.po) (B:=(RT.int .i64).sl) bS rfl rfl kD (by decide) Tp rfl rfl (by decide) WM sD.le (fun uf Gl=>?_);exact ab ⟨rfl,rfl,_,rfl,Gl,ax _ _⟩
        refine ca ?_ ?_
        ·intro wD E sD;replace sD:Step M2 _ M2 wD aC:=sD;intro v5 qf;refine bR (M:=M2) aq rfl rfl rfl rfl rfl (show cQ ((RT.int .i64).sl) M2 wD v5 ps from qf) (ao _ _) (fun uf Gl=>?_);exact ab ⟨rfl,rfl,_,rfl,Gl,ax _ _⟩
        refine ca ?_ ?_
        ·intro wD E sD;replace sD:Step M2 _ M2 wD aC:=sD;refine aO ?_;intro v6 sN;refine aY rfl rfl adg (yF (M:=M2) (sD.lt dV) (hB.le sD.le) (show((RT.int .i64).sl).V M2 wD ps v6 from sN) (by omega)) (fun rP wP hP=>?_);obtain⟨xP,sP,hP1,Zh⟩:=hP;rw[if_pos f7]at hP1 Zh;exact ab ⟨rfl,rfl,_,rfl,⟨xP,hP1,Zh⟩,sP⟩
        refine ca ?_ ?_
        ·intro wD E sD;replace sD:Step M2 _ M2 wD aC:=sD;intro v7 Bz;refine ad rfl rfl ?_;exact ab ⟨rfl,rfl,_,rfl,Bz,ax _ _⟩
        refine ca ?_ ?_
        ·intro wD E sD;replace sD:Step M2 _ M2 wD aC:=sD;intro v8 HM;obtain⟨xP,rfl,Zh⟩:=HM;refine bZ rfl rfl rfl ?_;exact ab ⟨rfl,rfl,_,rfl,Zh,ax _ _⟩
        refine ca ?_ ?_
        ·intro wD E sD;replace sD:Step M2 _ M2 wD (fun k=>k=bx):=sD;intro v8 HM;obtain⟨xP,rfl,Zh⟩:=HM;refine bZ rfl rfl rfl ?_;exact ab ⟨rfl,rfl,_,rfl,rfl,ax _ _⟩
        refine ca ?_ ?_
        ·intro wD E sD;replace sD:Step M2 _ M2 wD (fun k=>k=bx):=sD;refine aO (aO (aO (aO (aO (aO ?_)))));intro v5 qf;intro v6 sN;intro v7 Bz;intro v8 HM;intro v9 IX;refine bN rfl ⟨_,rfl⟩ rfl ?_;exact ab ⟨rfl,rfl,_,rfl,rfl,ax _ _⟩
        refine ca ?_ ?_
        ·intro wD E sD;replace sD:Step M2 _ M2 wD aC:=sD;refine aO (aO (aO (aO (aO (aO ?_)))));intro v5 qf;intro v6 sN;intro v7 Bz;intro v8 HM;intro v9 IX;refine bK ed rfl rfl CS (by decide) rfl rfl ?_;exact ab ⟨rfl,rfl,_,rfl,rfl,ax _ _⟩
        refine ca ?_ ?_
        ·intro wD E sD;replace sD:Step M2 _ M2 wD aC:=sD;refine aO ?_;intro v9 IX;intro v7 Bz;refine aO (aO (aO (aO (aO ?_))));intro v5 qf;intro v6 sN;intro v7 Bz;intro v8 HM;intro v9 IX;refine cw (M:=M2) CS rfl rfl (de sD hX) rfl (pI (A:=RT.u8.sl) IX rfl rfl) h7.mx (fun wS hXS sS=>?_);exact ab ⟨rfl,rfl,undef,rfl,⟨_,hXS,RT.V.le (A:=RT.u8.sl) sS.le IX⟩,sS⟩
        exact dR.nil
       ·intro afV MW;replace MW:Step M2 _ M2 afV (fun k=>k=bx):=MW;refine aO (aO (aO (aO (aO ?_))));intro ald afW;intro ale afX;intro alf afY;intro alg afZ;intro alh af0;refine aO (aO (aO ?_));intro af1 P1;obtain⟨v12,af3,af4⟩:=P1;have h8:=h7.Va MW af3 af4 h7.hk;have hp8:=WM.le (by decide) MW.le;refine aj ?_;have hO:=h8.o;have hX:=h8.x;apply T.Hg (M:=M2) (n:=85) _ mixed [] [cT.eq _,cT.eq _,cT.eq _,cT.eq _,cT.ptr ((RT.int .i64).sl) ps,cT.V ((RT.int .i64).sl) ps,cT.eq (.int .i64 ps.length),cT.eq _,cT.eq _,cT.eq _]
        ·rfl
        ·rfl
        ·rfl
        ·rfl
        ·exact fun p hp=>by cases hp
        ·exact vR.none
        ·refine aJ ?_ ?_
         ·intro wD E sD;refine aP eW rfl rfl rfl (de sD (by assumption)) rfl ?_;exact ab ⟨rfl,rfl,_,rfl,rfl,ax _ _⟩
         refine aJ ?_ ?_
         ·intro wD E sD;refine aO (bN rfl ⟨_,rfl⟩ rfl ?_);exact ab ⟨rfl,rfl,_,rfl,rfl,ax _ _⟩
         refine aJ ?_ ?_
         ·intro wD E sD;refine aO (bK ed rfl rfl I3 (by decide) rfl rfl ?_);exact ab ⟨rfl,rfl,_,rfl,rfl,ax _ _⟩
         refine aJ ?_ ?_
         ·intro wD E sD;refine aO (aP aw rfl rfl rfl (de sD (by assumption)) rfl ?_);exact ab ⟨rfl,rfl,_,rfl,rfl,ax _ _⟩
         refine aJ ?_ ?_
         ·intro wD E sD;refine aK (M:=M2) (A:=RT.po) (B:=(RT.int .i64).sl) bS rfl rfl kD (by decide) Tp rfl rfl (by decide) hp8 sD.le (fun uf Gl=>?_);exact ab ⟨rfl,rfl,_,rfl,Gl,ax _ _⟩
         refine aJ ?_ ?_
         ·intro wD E sD;intro v4 qR;refine bR (M:=M2) aq rfl rfl rfl rfl rfl (show cQ ((RT.int .i64).sl) M2 wD v4 ps from qR) (ao _ _) (fun uf Gl=>?_);exact ab ⟨rfl,rfl,_,rfl,Gl,ax _ _⟩
         refine aJ ?_ ?_
         ·intro wD E sD;intro v5 qf;refine bQ aq rfl (show((RT.int .i64).sl).V M2 wD ps v5 from qf) rfl ?_;exact ab ⟨rfl,rfl,_,rfl,rfl,ax _ _⟩
         refine aJ ?_ ?_
         ·intro wD E sD;refine aO (aO (bC rfl rfl rfl (by omega) ?_));exact ab ⟨rfl,rfl,_,rfl,rfl,ax _ _⟩
         refine aJ ?_ ?_
         ·intro wD E sD;refine aO (aO (aO (aO (aO ?_))));intro v4 qR;intro v5 qf;refine aO (aO (bN rfl ⟨_,rfl⟩ rfl ?_));exact ab ⟨rfl,rfl,_,rfl,rfl,ax _ _⟩
         refine aJ ?_ ?_
         ·intro wD E sD;refine aO (aO (aO (aO (aO ?_))));intro v4 qR;intro v5 qf;refine aO (aO (bK ed rfl rfl I3 (by decide) rfl rfl ?_));exact ab ⟨rfl,rfl,_,rfl,rfl,ax _ _⟩
         exact xg
        ·intro T8 o5;refine aO (aO (aO (aO ?_)));intro ali af5;intro Rt Bx;refine aO (aO (aO (aO ?_)));have h9:=h8.step o5;refine cw (M:=M2) I3 rfl rfl h9.x rfl rfl h9.mx (fun w13 af6 Cs=>?_);refine ab ⟨rfl,?_⟩;have PQ:=h9.Va Cs af6 (h9.hb.le Cs.le) h9.hk;have af7:=(hp8.le (by decide) o5.le).le (by decide) Cs.le;refine ae ?_;refine aK (M:=M2) (A:=RT.po) (B:=RT.int .i64) bS rfl rfl I3 (by decide) Q9 rfl rfl (by decide) af7 (ao _ _) (fun Zi MX=>?_);refine cd (M:=M2) aw rfl rfl MX (ao _ _) (fun _=>?_);refine aU (v':= .int .i64 d) rfl ?_;refine cw (M:=M2) I3 rfl rfl PQ.l rfl rfl PQ.ml (fun Um af8 jY=>?_);have h11:=PQ.P0 jY af8;refine ab (ae (bC rfl rfl rfl (by omega) (ad rfl rfl (ab ?_))));refine⟨rfl,(j+1,v12),(.cons rfl (.cons rfl (.cons rfl (.cons rfl (.cons rfl (.cons rfl (.cons rfl .nil))))))),?_,?_⟩
         ·refine⟨by simp only;omega,?_,?_⟩
          ·exact jY.keep (Cs.keep (o5.aM (MW.keep (Jj.keep (gZ.aM (RX.aM hQ)) (by omega)) (by omega))) (by omega)) (by omega)
          ·simp only;rw[show i+(j+1)=i+j+1 from by omega,xS hx,f5,ftk];exact h11
         ·simp only;omega
     ·refine cK (aj (ae ?_));obtain rfl:j=((l.drop i).take 8).length:=by omega
      have WY:M2 bq:=by rw[EX];exact .inl rfl
      refine aP aw rfl rfl rfl h4.l rfl (bK (o':=2) jR rfl rfl I3 (by decide) rfl rfl ?_);refine cw (M:=M2) I3 rfl rfl hQ rfl rfl WY (fun WU Zj AP=>?_);have WV:=h4.other AP hDq hqv;change WU.heap[bq]? =some (.cells [.int .i64 (eg (-1) (l.take i)).length,.int .i64 (dB (-1) (l.take i)),.int .i64 (dB (-1) (l.take (i+((l.drop i).take 8).length))),.int .i64 ((l.drop i).take 8).length].toArray 209 (0,0))at Zj;refine ab ?_;have hO:=WV.o;have hX:=WV.x;have P2:=WV.hk;have fx:∀k,vk.ownBlock=some k→k≠bo:=fun k hk=>by have:=(P2.base k hk).1;omega
      have apS:=ak WV.r;have g1:=sH l (-1) ot (by omega) i;have g2:=sH l (-1) ot (by omega) (i+((l.drop i).take 8).length);have g3:=nu l i;apply T.Hg (M:=M2) (n:=85) _ mixed [(7,fun k=>vk.ownBlock=some k)] [cT.eq _,cT.eq _,cT.eq _,cT.eq _,cT.eq _,cT.eq (.agg [.int .i64 (eg (-1) (l.take i)).length,.int .i64 (dB (-1) (l.take i)),.int .i64 (dB (-1) (l.take (i+((l.drop i).take 8).length))),.int .i64 ((l.drop i).take 8).length].toArray),cT.V ((RT.bl).sl) [(((eg (-1) (l.take i)).length:Int),dB (-1) (l.take i),dB (-1) (l.take (i+((l.drop i).take 8).length)),(((l.drop i).take 8).length:Int))],⟨fun t w=>∃M3,Own RT.bl 209 M3 w (D+2) t (nt l ((i+7)/8)++[(((eg (-1) (l.take i)).length:Int),dB (-1) (l.take i),dB (-1) (l.take (i+((l.drop i).take 8).length)),(((l.drop i).take 8).length:Int))])∧Step M2 WU M3 w (fun k=>vk.ownBlock=some k),aC,fun⟨M3,h1,h2⟩ s hN=>⟨M3,h1.aL ((s.cH hN (fun _ h=>h.elim)).any M3),h2.aB ((s.cH hN (fun _ h=>h.elim)).any M3)⟩⟩,cT.eq _,cT.eq _]
      ·rfl
      ·rfl
      ·rfl
      ·rfl
      ·intro p hp b hb;simp only[bJ]at hp;subst hp;exact P2.mut_ b hb
      ·exact⟨fun _ _ _ _=>trivial,⟨fun _ _ _ _=>trivial,⟨fun _ _ _ _=>trivial,⟨fun _ _ _ _=>trivial,⟨fun _ _ _ _=>trivial,⟨fun _ _ _ _=>trivial,⟨fun _ _ _ _=>trivial,⟨fun p hp=>by simp at hp,⟨fun _ _ _ _=>trivial,⟨fun _ _ _ _=>trivial,trivial⟩⟩⟩⟩⟩⟩⟩⟩⟩⟩
      ·refine aJ ?_ ?_
       ·intro wD E sD;replace sD:Step M2 _ M2 wD (fun k=>vk.ownBlock=some k):=sD;refine aP eW rfl rfl rfl (sD.keep hO (fun hb=>fx _ hb rfl)) rfl ?_;exact ab ⟨rfl,rfl,_,rfl,rfl,ax _ _⟩
       refine aJ ?_ ?_
       ·intro wD E sD;replace sD:Step M2 _ M2 wD (fun k=>vk.ownBlock=some k):=sD;refine aP eW rfl rfl rfl (sD.keep hO (fun hb=>fx _ hb rfl)) rfl ?_;exact ab ⟨rfl,rfl,_,rfl,rfl,ax _ _⟩
       refine aJ ?_ ?_
       ·intro wD E sD;replace sD:Step M2 _ M2 wD (fun k=>vk.ownBlock=some k):=sD;refine aO (bN rfl ⟨_,rfl⟩ rfl ?_);exact ab ⟨rfl,rfl,_,rfl,rfl,ax _ _⟩
       refine aJ ?_ ?_
       ·intro wD E sD;replace sD:Step M2 _ M2 wD (fun k=>vk.ownBlock=some k):=sD;refine aO (bK ed rfl rfl Fs (by decide) rfl rfl ?_);exact ab ⟨rfl,rfl,_,rfl,rfl,ax _ _⟩
       refine aJ ?_ ?_
       ·intro wD E sD;replace sD:Step M2 _ M2 wD aC:=sD;refine aO (aP eB rfl rfl rfl (de sD (by assumption)) rfl ?_);exact ab ⟨rfl,rfl,_,rfl,rfl,ax _ _⟩
       refine aJ ?_ ?_
       ·intro wD E sD;replace sD:Step M2 _ M2 wD (fun k=>vk.ownBlock=some k):=sD;refine iK (vs:=[.int .i64 (eg (-1) (l.take i)).length,.int .i64 (dB (-1) (l.take i)),.int .i64 (dB (-1) (l.take (i+((l.drop i).take 8).length))),.int .i64 ((l.drop i).take 8).length]) jR rfl wY rfl rfl rfl (sD.keep Zj (fun hb=>hqv _ hb rfl)) ?_;exact ab ⟨rfl,rfl,_,rfl,rfl,ax _ _⟩
       refine aJ ?_ ?_
       ·intro wD E sD;replace sD:Step M2 _ M2 wD aC:=sD;refine aO ?_;refine ep (A:=RT.bl) (hn:=by decide) (M:=M2) eB wY (by decide) rfl rfl (sD.lt WV.lt) (acM (by omega) (by omega) (by omega) (by omega)) (.inl rfl) (fun uS wS hS sS=>?_);exact ab ⟨rfl,rfl,_,rfl,hS,sS⟩
       refine aJ ?_ ?_
       ·intro wD E sD;replace sD:Step M2 _ M2 wD aC:=sD;refine aO ?_;intro v6 sN;refine dd (M:=M2) (base:=D+2) eB wY rfl rfl rfl rfl (P2.aL sD) (show((RT.bl).sl).V M2 wD [(((eg (-1) (l.take i)).length:Int),dB (-1) (l.take i),dB (-1) (l.take (i+((l.drop i).take 8).length)),(((l.drop i).take 8).length:Int))] v6 from sN) (ao _ _) (by simp[nt];omega) (by simp[nt];omega) (by have:=sD.size;omega) (fun v3 M3 w3 yE s3=>?_);exact ab ⟨rfl,rfl,_,rfl,⟨M3,yE,(sD.cH (fun _ h=>h.elim) P2.mut_).trans s3 (fun b _ hb=>hb)⟩,s3.back⟩
       refine aJ ?_ ?_
       ·intro wD E sD;replace sD:Step M2 _ M2 wD (fun k=>vk.ownBlock=some k):=sD;refine aO (aO (aO (aO (aO (aO (aO ?_))))));intro v6 sN;intro v7 Bz;refine bN rfl ⟨_,rfl⟩ rfl ?_;exact ab ⟨rfl,rfl,_,rfl,rfl,ax _ _⟩
       refine aJ ?_ ?_
       ·intro wD E sD;replace sD:Step M2 _ M2 wD (fun k=>vk.ownBlock=some k):=sD;refine aO (aO (aO (aO (aO (aO (aO ?_))))));intro v6 sN;intro v7 Bz;refine bK ed rfl rfl Fs (by decide) rfl rfl ?_;exact ab ⟨rfl,rfl,_,rfl,rfl,ax _ _⟩
       exact xg
      ·intro af9 Zk;replace Zk:Step M2 _ M2 af9 (fun k=>vk.ownBlock=some k):=Zk;refine aO (aO (aO (aO (aO (aO ?_)))));intro alj aga;intro alk Vh;refine aO (aO ?_);obtain⟨M3,yE,sR⟩:=Vh;obtain⟨⟨Jh,hm3,apT⟩,JR⟩:=WV.grow sR yE;refine cw (M:=M3) Fs rfl rfl Jh rfl (by obtain⟨_,_,he,_⟩:=yE.isSlice;rw[he];rfl) hm3 (fun w17 agd J3=>?_);refine ab ⟨rfl,?_⟩;have UZ:=JR J3 agd;have h18:=UZ.o8 (st':= .loop (rec .ready none)) UZ.r;have hE:i+((l.drop i).take 8).length=min (i+8) l.length:=by omega
       rw[hE,KE (by omega) hi]at h18;exact⟨UZ.r,true,rfl,fun _=>⟨M3,_,_,h18,by omega,by omega⟩,fun h=>by cases h⟩
  ·obtain⟨Mz,vb,vk,h,_,_⟩:=h3.resolve_right (fun h=>h);left;rw[List.take_length]at h;have h5:=h.o8 (st':= .loop (rec .exhausted none)) h.r;refine⟨h.r,?_⟩;generalize w3.putObj (D+1) _=wE at h5 ⊢;refine aj (ae (aP eW rfl rfl rfl h5.o rfl (ah rfl rfl (ah rfl rfl (ab (aQ ?_))))));obtain⟨q1,q2,q3,q4,q5,q6,q7,q8,q9,q10,q11,q12,q13,q14,q15,q16,q17,q18⟩:=h5.ne;have sZ:Step Mz wE Mz (wE.putObj D (.deferred none)) (fun k=>k=D):=eC h5.md;have SZ:=h5.S.cj sZ (fun k hk=>by subst hk;omega);have ht:=oW l;refine Tk rfl rfl rfl h5.d ⟨SZ.back,fun _=>⟨_,rfl,?_⟩,fun hf=>by rw[ot]at hf;cases hf⟩;exact Xo (sZ.keep h5.x (by omega)) (fun hh=>by have:=hM _ hh;omega) ((h5.hb.le sZ.le).le (Le.close hM SZ)) (Own.close hM SZ ((h5.hk.step sZ (fun k hk hh=>by have:=(h5.hk.base k hk).1;omega)).oL (by omega)) (by simp[nt];omega)) (by omega)
end Go.K
namespace Go.K
open Go.Proofs
namespace TKBldG
theorem zM:TI Tryz.prog 80 (.slice none 0 0) 1 24:=by unfold TI;kernel_rfl
theorem D1:TI Tryz.prog 196 (.slice none 0 0) 1 24:=by unfold TI;kernel_rfl
theorem Vi:Enters Tryz.prog 145:=enters Tryz.func145 rfl (by decide)
theorem age:Enters Tryz.prog 197:=enters Tryz.func197 rfl (by decide)
end TKBldG
open TKBldG
set_option maxRecDepth 10000
theorem index_spec {M:aD} {l:List (List Po)} {v0:Value} {g:FuncId} {cap:List Value} {B:Nat} {J:Nat→aD→World→Prop} {bad:List Po→Bool} (w0:World) (hM:Lt M w0) (hv:(((RT.po).sl).sl).V M w0 l v0) (hg:Enters Tryz.prog g) (hJ:J 0 M w0) (kF:∀i M w M' w',J i M w→Step M w M' w' aC→J i M' w') (ht:∀i M w x vx,J i M w→Lt M w→l[i]? =some x→((RT.po).sl).V M w x vx→Spec Tryz.prog g ([vx]++cap).toArray w (fun v w'=>∃M',Lt M' w'∧v= .bool (bad x)∧(bad x=false→J (i+1) M' w')∧Step M w M' w' (lP M B))):
  Spec Tryz.prog 197 #[v0,.func (.func g) #[] cap.toArray] w0 (fun v w=>∃M' k,v= .int .i64 k∧ -1≤k∧Lt M' w∧Step M w0 M' w (lP M B)∧(k= -1→(∀x∈l,bad x=false)∧J l.length M' w)∧(0≤k→∃x∈l,bad x=true)):=by
 have hlen:=ej hv;refine bm (args:=[_,_]) (fn:=Tryz.f197) Tryz.func197 rfl (n:=19) Tryz.ntmps197 ?_;have S:Step M w0 M w0 (lP M B):=(ax _ _).cH (fun _ h=>h.elim) (fun _ h=>h.2);refine aj (ae (ah rfl rfl (ab (aj (aj (ae (ad rfl rfl (bQ kH rfl hv rfl (ad rfl rfl (ab (aZ ?_)))))))))));refine dn (σ:=Nat) (fun q=>[(0,v0),(1,.func (.func g) #[] cap.toArray),(6,v0),(7,.int .i64 (l.length:Int)),(8,.int .i64 (q:Int))]) (fun q w=>∃M',Lt M' w∧Step M w0 M' w (lP M B)∧(((RT.po).sl).sl).V M' w l v0∧J q M' w∧q≤l.length∧∀x∈l.take q,bad x=false) (fun q=>l.length-q) 0 (.cons rfl (.cons rfl (.cons rfl (.cons rfl (.cons rfl .nil))))) ?_ ?_
 ·exact⟨M,hM,S,hv,hJ,bD _,fun x h=>by simp at h⟩
 ·clear hM S hv hJ;rintro i w ⟨M1,hM,S,hv,hJ,hi,kf⟩;refine aj (ae (cg rfl rfl rfl (ab (aj ?_))));refine bI rfl (fun c2=>?_) (fun c2=>?_)
  ·refine aT (aj (aZ (aj (ae (ad rfl rfl (ah rfl rfl (ab (aj (ae (ad rfl rfl (ad rfl rfl ?_)))))))))));refine ad rfl rfl ?_;refine cF (M:=M1) kH zM rfl rfl rfl hv (ao _ _) (by omega) (fun u x we hu=>?_);rw[ay]at we;refine bR (M:=M1) bA rfl rfl rfl rfl rfl hu (ao _ _) (fun vx rq=>?_);refine zr (first:=[]) (captured:=cap) (xs:=[.tmp 15]) rfl rfl rfl hg (ht i _ _ x vx hJ hM we rq) (fun r4 w4 hc=>?_);obtain⟨M4,hM4,rfl,hJ4,s4⟩:=hc;refine aU (v':= .bool (decide (bad x=true))) (by simp) ?_;have S4:=S.trans s4 (fun k hk h=>⟨h.1,(S.mem k hk).1 h.2⟩);refine ab ?_;refine bI rfl (fun c4=>?_) (fun c4=>?_)
   ·refine aj (ae (ad rfl rfl (ah rfl rfl (ab (aQ ?_)))));exact aV rfl rfl ⟨M4,_,rfl,by omega,hM4,S4,fun h=>absurd h (by omega),fun _=>⟨x,az we,c4⟩⟩
   ·refine aT (ae (bC rfl rfl rfl (by omega) (ad rfl rfl (ab ?_))));refine⟨rfl,i+1,(.cons rfl (.cons rfl (.cons rfl (.cons rfl (.cons rfl .nil))))),?_,?_⟩
    ·have hb:bad x=false:=by simpa using c4
     exact⟨M4,hM4,S4,hv.le s4.le,hJ4 hb,by omega,fun y hy=>by
      rw[bV,we,cE,ch,bJ]at hy;rcases hy with hy|rfl
      ·exact kf y hy
      ·exact hb⟩
    ·omega
  ·refine cK (aj (ae (ah rfl rfl (ab (aQ ?_)))));rw[aW (by omega)]at kf;have e:i=l.length:=by omega
   subst e;exact aV rfl rfl ⟨_,_,rfl,by omega,hM,S,fun _=>⟨kf,hJ⟩,fun h=>absurd h (by omega)⟩
theorem zO {M:aD} {l:List (List Po)} {v0:Value} {g:FuncId} {cap:List Value} {B:Nat} {J:Nat→aD→World→Prop} {bad:List Po→Bool} (w0:World) (hM:Lt M w0) (hv:(((RT.po).sl).sl).V M w0 l v0) (hg:Enters Tryz.prog g) (hJ:J 0 M w0) (kF:∀i M w M' w',J i M w→Step M w M' w' aC→J i M' w') (ht:∀i M w x vx,J i M w→Lt M w→l[i]? =some x→((RT.po).sl).V M w x vx→Spec Tryz.prog g ([vx]++cap).toArray w (fun v w'=>∃M',Lt M' w'∧v= .bool (bad x)∧(bad x=false→J (i+1) M' w')∧Step M w M' w' (lP M B))):
  Spec Tryz.prog 146 #[v0,.func (.func g) #[] cap.toArray] w0 (fun v w=>∃M' k,v= .bool (decide (0≤k))∧ -1≤k∧Lt M' w∧Step M w0 M' w (lP M B)∧(k= -1→(∀x∈l,bad x=false)∧J l.length M' w)∧(0≤k→∃x∈l,bad x=true)):=by
 refine bm (args:=[_,_]) (fn:=Tryz.f146) Tryz.func146 rfl (n:=9) Tryz.ntmps146 (aj (ae (ah rfl rfl (ab (aj (ae (ad rfl rfl (ad rfl rfl ?_))))))));refine aY rfl rfl age (index_spec w0 hM hv hg hJ kF ht) (fun r w1 hc=>?_);obtain⟨M1,k,rfl,hk,h2⟩:=hc;refine dY rfl rfl rfl (ah rfl rfl (ab (aQ ?_)));exact aV rfl rfl ⟨M1,k,rfl,hk,h2⟩
def D2 (x:List Po):Int:=match x.getLast? with|some p=>p.1|none=> -1
def nA (n:Int) (x:List Po):Bool:= !fS (-1) x||x.isEmpty||decide (n≤D2 x)
theorem D3 {x:List Po} {p:Po} (h:x[x.length-1]? =some p):D2 x=p.1:=by
 unfold D2;rw[List.getLast?_eq_getElem?,h]
structure Room (x:List Po):Prop where
 ps:∀p∈x,p.2.length≤1099511627776
 by_:(eg (-1) x).length≤35184372088832
 ln:x.length≤1099511627776
 rM:ji x≤4611686018427387904
def RT.cell:RT Value where
 n:=1
 agg:=false
 R:=fun _ _ x vs=>vs=[x]∧x.oneCell'=true
 len:=by rintro _ _ x vs ⟨rfl,_⟩;rfl
 one:=by rintro _ _ x vs ⟨rfl,h⟩ v hv;simp at hv;subst hv;exact h
 le:=fun _ h=>h
theorem P3 {M:aD} {w:World} {v:Value} (h:v.oneCell'=true):RT.cell.V M w v v:=⟨[v],⟨rfl,h⟩,rfl⟩
theorem dZ.cells {α:Type} {A:RT α} (hA:A.n=1) {M:aD} {w:World}:∀{xs:List α} {C:List Value},dZ A M w xs C→∃ys:List Value,dZ RT.cell M w ys C∧ys.length=xs.length
 |[],C,h=>⟨[],h,rfl⟩
 |x::xs,C,h=>by
  obtain⟨vs,r,h1,h2,h3⟩:=h;obtain⟨ys,h4,h5⟩:=dZ.cells hA h3;have hl:=A.len h2
  match vs,hl,h1,h2 with
  |[v],_,h1,h2=>exact⟨v::ys,⟨[v],r,h1,⟨rfl,A.one h2 v (by simp)⟩,h4⟩,by simp[h5]⟩
  |[],hl,_,_=>simp at hl;omega
  |_::_::_,hl,_,_=>simp at hl;omega
theorem Own.cells {α:Type} {A:RT α} (hA:A.n=1) {e:TypeId} {M:aD} {w:World} {base:Nat} {v:Value} {xs:List α} (h:Own A e M w base v xs):∃ys:List Value,Own RT.cell e M w base v ys∧ys.length=xs.length:=by
 obtain⟨⟨C,hr,ha⟩,hm⟩:=h;obtain⟨ys,h1,h2⟩:=ha.cells hA;exact⟨ys,⟨⟨C,by rw[h2,show RT.cell.n=A.n from hA.symm];exact hr,h1⟩,hm⟩,h2⟩
def zP (bl bn:Nat) (n:Int) (ls:List (List Po)) (B:Nat) (i:Nat) (M:aD) (w:World):Prop:=∃vl,w.heap[bl]? =some (.cells #[vl] 196 (0,0))∧M bl∧B≤bl∧w.heap[bn]? =some (.cells #[.int .i64 n] 3 (0,0))∧M bn∧Own ((RT.li).ptr) 142 M w B vl ((ls.take i).map mR)
theorem zP.aL {bl bn:Nat} {n:Int} {ls:List (List Po)} {B i:Nat} {M M':aD} {w w':World} (h:zP bl bn n ls B i M w) (s:Step M w M' w' aC):zP bl bn n ls B i M' w':=by
 obtain⟨vl,h1,h2,h3,h4,h5,h6⟩:=h;exact⟨vl,s.aM h1,(s.mem _ (ak h1)).2 h2,h3,s.aM h4,(s.mem _ (ak h4)).2 h5,h6.aL s⟩
theorem Vj {M:aD} {bl bn B i:Nat} {n:Int} {ls:List (List Po)} {x:List Po} {v0:Value} (w0:World) (hM:Lt M w0) (hB:B≤w0.heap.size) (hJ:zP bl bn n ls B i M w0) (hx:ls[i]? =some x) (hv:((RT.po).sl).V M w0 x v0) (hr:Room x) (oN:i≤1000000000) (hm:fS (-1) x=true):
  Spec Tryz.prog 144 #[v0,.pointer (some ⟨bl,0,none⟩),.pointer (some ⟨bn,0,none⟩)] w0 (fun v w=>∃M',Lt M' w∧v= .bool (nA n x)∧(nA n x=false→zP bl bn n ls B (i+1) M' w)∧Step M w0 M' w (lP M B)):=by
 have hlen:=ej hv;obtain⟨vl,gl,kY,hBl,gn,mH,ho⟩:=hJ;have nln:bl≠bn:=fun h=>by rw[h,gn]at gl;simp at gl
 refine bm (args:=[_,_,_]) (fn:=Tryz.f144) Tryz.func144 rfl (n:=34) Tryz.ntmps144 ?_;have S:Step M w0 M w0 (lP M B):=(ax _ _).cH (fun _ h=>h.elim) (fun _ h=>h.2);refine aj (ae (ah rfl rfl (ab (aj (ae (ad rfl rfl ?_))))));refine aY rfl rfl Vi (AO hM hv hr.ps hr.by_ hr.ln hr.rM) (fun r1 w1 hc=>?_);obtain⟨s1,hok,kf⟩:=hc;obtain⟨p,rfl,hp⟩:=hok hm;have:=ak gl;replace kY:=(s1.mem _ this).2 kY;replace gl:=s1.aM gl;have:=ak gn;replace mH:=(s1.mem _ this).2 mH;replace gn:=s1.aM gn;replace hv:=hv.le s1.le;replace ho:=ho.aL s1;replace hM:=s1.lt hM;have:=S.size;replace S:=S.aB s1;refine ad rfl rfl (bZ rfl rfl rfl (bZ rfl rfl rfl (ah rfl rfl (ah rfl rfl (ab (aj (ae (aP ec rfl rfl rfl gl rfl (aU (v':=vl) rfl (ad rfl rfl ?_))))))))));refine ep (A:=((RT.li).ptr)) (hn:=by decide) (M:=M) ec zB (by decide) rfl rfl hM (nf.2 hp) (.inr ⟨rfl,rfl⟩) (fun Y0 agh lL pZ=>?_);have:=ak gl;replace kY:=(pZ.mem _ this).2 kY;replace gl:=pZ.aM gl;have:=ak gn;replace mH:=(pZ.mem _ this).2 mH;replace gn:=pZ.aM gn;replace hv:=hv.le pZ.le;replace hp:=hp.le (by decide) pZ.le;replace ho:=ho.aL pZ;replace hM:=pZ.lt hM;have:=S.size;replace S:=S.aB pZ;refine dd (M:=M) (base:=B) ec zB rfl rfl rfl rfl ho lL (ao _ _) (by simp;omega) (by simp;omega) (by have:=S.size;omega) (fun Vk D4 agi MY p6=>?_);have:=ak gl;replace kY:=(p6.mem _ this).2 kY;replace gl:=p6.keep gl (fun h=>by first|exact ho.ek gl h|exact ho.eO gl (by decide) h|(have:=(ho.base _ h).1;omega));have:=ak gn;replace mH:=(p6.mem _ this).2 mH;replace gn:=p6.keep gn (fun h=>by first|exact ho.ek gn h|exact ho.eO gn (by decide) h|(have:=(ho.base _ h).1;omega));replace hv:=hv.le p6.le;replace hp:=hp.le (by decide) p6.le
 replace lL:=lL.le p6.le;replace hM:=p6.lt hM;have:=S.size;replace S:=S.trans p6 (fun k hk h=>⟨(ho.base k h).1,(S.mem k hk).1 (ho.mut_ k h)⟩);replace ho:=MY;refine cw (M:=D4) D1 rfl rfl gl rfl (by obtain⟨_,_,he,_⟩:=ho.isSlice;rw[he];rfl) kY (fun Vl MZ ou=>?_);change Vl.heap[_]? =some (Obj.cells #[Vk] _ _)at MZ;have:=ak gl;replace kY:=(ou.mem _ this).2 kY;have:=ak gn;replace mH:=(ou.mem _ this).2 mH;replace gn:=ou.keep gn (fun hk=>by have hk:_=_:=hk;omega);replace hv:=hv.le ou.le;replace hp:=hp.le (by decide) ou.le;replace lL:=lL.le ou.le;replace ho:=ho.step ou (fun c hc (h:c=bl)=>ho.eO gl (by decide) (h▸hc));replace hM:=ou.lt hM;have:=S.size;replace S:=S.trans ou (fun k hk h=>by have h:_=_:=h;subst h;first|(exfalso;omega)|(show _≤_;omega)|exact⟨by first|omega|assumption,(S.mem _ hk).1 ((ou.mem _ (ak gl)).1 kY)⟩|exact .inl rfl|exact .inr rfl|exact .inr (.inl rfl)|exact .inr (.inr rfl)|exact .inr (.inr (.inl rfl))|exact rfl);have Zl:=MZ;clear gl;have gl:=Zl;clear Zl;refine ab (aj ?_);apply uG mixed rfl rfl;intro XP Ri;have qO:=Ri D4;have:=ak gl;replace kY:=(qO.mem _ this).2 kY;replace gl:=qO.aM gl;have:=ak gn;replace mH:=(qO.mem _ this).2 mH;replace gn:=qO.aM gn;replace hv:=hv.le qO.le;replace hp:=hp.le (by decide) qO.le;replace lL:=lL.le qO.le;replace ho:=ho.aL qO;replace hM:=qO.lt hM;have:=S.size;replace S:=S.aB qO;refine ad rfl rfl ?_;refine ab ⟨rfl,rfl,rfl,?_⟩;refine fD rfl rfl rfl ?_;refine ab ⟨rfl,rfl,rfl,?_⟩;refine ad rfl rfl ?_;refine ab ⟨rfl,rfl,rfl,?_⟩;refine Rg.E1 (g:=18) rfl ((by decide)) (al rfl rfl (ad rfl rfl ?_));refine ab ⟨rfl,rfl,rfl,?_⟩;refine al rfl rfl (bQ bA rfl hv rfl ?_);refine ab ⟨rfl,rfl,rfl,?_⟩;refine al rfl rfl (qZ rfl rfl rfl ?_);refine ab ⟨rfl,rfl,rfl,?_⟩;refine aE rfl rfl rfl ?_
 refine ab ⟨rfl,rfl,rfl,?_⟩;refine ad rfl rfl ?_;refine ab ⟨rfl,rfl,rfl,?_⟩;refine aR (g:=23) rfl (fun Vm=>?_) (fun Vm=>?_)
 ·refine au rfl rfl rfl rfl ?_;refine ab ⟨rfl,rfl,rfl,?_⟩;refine au rfl rfl rfl rfl ?_;refine ab ⟨rfl,rfl,rfl,?_⟩;refine au rfl rfl rfl rfl ?_;refine ab ⟨rfl,rfl,rfl,?_⟩;refine au rfl rfl rfl rfl ?_;refine ab ⟨rfl,rfl,rfl,?_⟩;refine au rfl rfl rfl rfl ?_;refine ab ⟨rfl,rfl,rfl,?_⟩;refine au rfl rfl rfl rfl ?_;refine ab ⟨rfl,rfl,rfl,?_⟩;refine au rfl rfl rfl rfl ?_;refine ab ⟨rfl,rfl,rfl,?_⟩;refine au rfl rfl rfl rfl ?_;refine ab ⟨rfl,rfl,rfl,?_⟩;refine au rfl rfl rfl rfl ?_;refine ab ⟨rfl,rfl,rfl,?_⟩;refine a8 rfl rfl rfl ?_;refine ab ⟨rfl,rfl,rfl,?_⟩;refine ah rfl rfl ?_;refine ab ⟨rfl,rfl,rfl,?_⟩;refine eZ (aQ ?_)
  first
  |(have P5:nA n x=true:=by
     have:x=[]:=cY.1 (by omega);simp[nA,this]
    rw[P5];exact aV rfl rfl ⟨_,hM,rfl,(fun h=>by cases h),S⟩)
  |(have eQ:x.isEmpty=false:=by cases x with
     |nil=>simp at Vm
     |cons a t=>rfl
    have hbv:nA n x=decide (n≤q.1):=by unfold nA;rw[hm,eQ,D3 hq];rfl
    rw[hbv];exact aV rfl rfl ⟨_,hM,rfl,fun _=>⟨_,gl,kY,hBl,gn,mH,by rw[bV,hx,cE,cX];exact ho⟩,S⟩)
 ·refine al rfl rfl (ad rfl rfl ?_);refine ab ⟨rfl,rfl,rfl,?_⟩;refine al rfl rfl (ad rfl rfl ?_);refine ab ⟨rfl,rfl,rfl,?_⟩;refine al rfl rfl (bQ bA rfl hv rfl ?_);refine ab ⟨rfl,rfl,rfl,?_⟩;refine al rfl rfl (fq rfl rfl rfl (by omega) ?_);refine ab ⟨rfl,rfl,rfl,?_⟩;refine al rfl rfl ?_;obtain⟨q,hq⟩:∃q,x[x.length-1]? =some q:=⟨_,ar (by omega)⟩;refine cF (M:=D4) bA nW rfl rfl rfl hv (ao _ _) (by omega) (fun u3 a Oz Rz=>?_);obtain rfl:q=a:=aH (hq.symm.trans (by rw[show((x.length:Int)-1).toNat=x.length-1 from by omega]at Oz;exact Oz));refine ab ⟨rfl,rfl,rfl,?_⟩;refine al rfl rfl ?_;refine aK (M:=D4) (A:=RT.po) (B:=RT.int .i64) bS rfl rfl I3 (by decide) (Q9) rfl rfl (by decide) (by assumption) (by repeat (first|exact ao _ _|refine aX (bu (by assumption)) ?_)) (fun aln agj=>?_);refine ab ⟨rfl,rfl,rfl,?_⟩;refine al rfl rfl ?_;refine cd (M:=D4) aw rfl rfl (by assumption) (by repeat (first|exact ao _ _|refine aX (bu (by assumption)) ?_)) (fun Na=>?_);refine aU (v':= .int .i64 (q.1)) rfl ?_;replace Na: -9223372036854775808≤(q.1:Int)∧q.1≤9223372036854775807:=Na;refine ab ⟨rfl,rfl,rfl,?_⟩;refine al rfl rfl (aP aw rfl rfl rfl gn rfl (aU (v':= .int .i64 n) rfl ?_));refine ab ⟨rfl,rfl,rfl,?_⟩;refine al rfl rfl (dY rfl rfl rfl ?_);refine ab ⟨rfl,rfl,rfl,?_⟩;refine aE rfl rfl rfl ?_;refine ab ⟨rfl,rfl,rfl,?_⟩;refine ah rfl rfl ?_;refine ab ⟨rfl,rfl,rfl,?_⟩;refine eZ (aQ ?_)
  first
  |(have P5:nA n x=true:=by
     have:x=[]:=cY.1 (by omega);simp[nA,this]
    rw[P5];exact aV rfl rfl ⟨_,hM,rfl,(fun h=>by cases h),S⟩)
  |(have eQ:x.isEmpty=false:=by cases x with
     |nil=>simp at Vm
     |cons a t=>rfl
    have hbv:nA n x=decide (n≤q.1):=by unfold nA;rw[hm,eQ,D3 hq];rfl
    rw[hbv];exact aV rfl rfl ⟨_,hM,rfl,fun _=>⟨_,gl,kY,hBl,gn,mH,by rw[bV,hx,cE,cX];exact ho⟩,S⟩)
theorem P7 {M:aD} {bl bn B i:Nat} {n:Int} {ls:List (List Po)} {x:List Po} {v0:Value} (w0:World) (hM:Lt M w0) (hB:B≤w0.heap.size) (hJ:zP bl bn n ls B i M w0) (hx:ls[i]? =some x) (hv:((RT.po).sl).V M w0 x v0) (hr:Room x) (oN:i≤1000000000) (hm:fS (-1) x=false):
  Spec Tryz.prog 144 #[v0,.pointer (some ⟨bl,0,none⟩),.pointer (some ⟨bn,0,none⟩)] w0 (fun v w=>∃M',Lt M' w∧v= .bool (nA n x)∧(nA n x=false→zP bl bn n ls B (i+1) M' w)∧Step M w0 M' w (lP M B)):=by
 have hlen:=ej hv;obtain⟨vl,gl,kY,hBl,gn,mH,ho0⟩:=hJ;have nln:bl≠bn:=fun h=>by rw[h,gn]at gl;simp at gl
 obtain⟨ys,ho,Fh⟩:=ho0.cells rfl;rw[aG,bg]at Fh;clear ho0;refine bm (args:=[_,_,_]) (fn:=Tryz.f144) Tryz.func144 rfl (n:=34) Tryz.ntmps144 ?_;have S:Step M w0 M w0 (lP M B):=(ax _ _).cH (fun _ h=>h.elim) (fun _ h=>h.2);refine aj (ae (ah rfl rfl (ab (aj (ae (ad rfl rfl ?_))))));refine aY rfl rfl Vi (AO hM hv hr.ps hr.by_ hr.ln hr.rM) (fun r1 w1 hc=>?_);obtain⟨s1,hok,kf⟩:=hc;obtain rfl:=kf hm;have:=ak gl;replace kY:=(s1.mem _ this).2 kY;replace gl:=s1.aM gl;have:=ak gn;replace mH:=(s1.mem _ this).2 mH;replace gn:=s1.aM gn;replace hv:=hv.le s1.le;replace ho:=ho.aL s1;replace hM:=s1.lt hM;have:=S.size;replace S:=S.aB s1;refine ad rfl rfl (bZ rfl rfl rfl (bZ rfl rfl rfl (ah rfl rfl (ah rfl rfl (ab (aj (ae (aP ec rfl rfl rfl gl rfl (aU (v':=vl) rfl (ad rfl rfl ?_))))))))));refine ep (A:=RT.cell) (hn:=by decide) (M:=M) ec zB (by decide) rfl rfl hM (P3 (v:= .pointer none) rfl) (.inr ⟨rfl,rfl⟩) (fun Y0 agh lL pZ=>?_);have:=ak gl;replace kY:=(pZ.mem _ this).2 kY;replace gl:=pZ.aM gl;have:=ak gn;replace mH:=(pZ.mem _ this).2 mH;replace gn:=pZ.aM gn;replace hv:=hv.le pZ.le;replace ho:=ho.aL pZ;replace hM:=pZ.lt hM;have:=S.size;replace S:=S.aB pZ;refine dd (M:=M) (base:=B) ec zB rfl rfl rfl rfl ho lL (ao _ _) (by simp;omega) (by simp;omega) (by have:=S.size;omega) (fun Vk D4 agi MY p6=>?_);have:=ak gl;replace kY:=(p6.mem _ this).2 kY;replace gl:=p6.keep gl (fun h=>by first|exact ho.ek gl h|exact ho.eO gl (by decide) h|(have:=(ho.base _ h).1;omega));have:=ak gn;replace mH:=(p6.mem _ this).2 mH;replace gn:=p6.keep gn (fun h=>by first|exact ho.ek gn h|exact ho.eO gn (by decide) h|(have:=(ho.base _ h).1;omega))
 replace hv:=hv.le p6.le;replace lL:=lL.le p6.le;replace hM:=p6.lt hM;have:=S.size;replace S:=S.trans p6 (fun k hk h=>⟨(ho.base k h).1,(S.mem k hk).1 (ho.mut_ k h)⟩);replace ho:=MY;refine cw (M:=D4) D1 rfl rfl gl rfl (by obtain⟨_,_,he,_⟩:=ho.isSlice;rw[he];rfl) kY (fun Vl MZ ou=>?_);change Vl.heap[_]? =some (Obj.cells #[Vk] _ _)at MZ;have:=ak gl;replace kY:=(ou.mem _ this).2 kY;have:=ak gn;replace mH:=(ou.mem _ this).2 mH;replace gn:=ou.keep gn (fun hk=>by have hk:_=_:=hk;omega);replace hv:=hv.le ou.le;replace lL:=lL.le ou.le;replace ho:=ho.step ou (fun c hc (h:c=bl)=>ho.eO gl (by decide) (h▸hc));replace hM:=ou.lt hM;have:=S.size;replace S:=S.trans ou (fun k hk h=>by have h:_=_:=h;subst h;first|(exfalso;omega)|(show _≤_;omega)|exact⟨by first|omega|assumption,(S.mem _ hk).1 ((ou.mem _ (ak gl)).1 kY)⟩|exact .inl rfl|exact .inr rfl|exact .inr (.inl rfl)|exact .inr (.inr rfl)|exact .inr (.inr (.inl rfl))|exact rfl);have Zl:=MZ;clear gl;have gl:=Zl;clear Zl;refine ab (aj ?_);apply uG mixed rfl rfl;intro XP Ri;have qO:=Ri D4;have:=ak gl;replace kY:=(qO.mem _ this).2 kY;replace gl:=qO.aM gl;have:=ak gn;replace mH:=(qO.mem _ this).2 mH;replace gn:=qO.aM gn;replace hv:=hv.le qO.le;replace lL:=lL.le qO.le;replace ho:=ho.aL qO;replace hM:=qO.lt hM;have:=S.size;replace S:=S.aB qO;refine ad rfl rfl ?_;refine ab ⟨rfl,rfl,rfl,?_⟩;refine fD rfl rfl rfl ?_;refine ab ⟨rfl,rfl,rfl,?_⟩;refine ad rfl rfl ?_;refine ab ⟨rfl,rfl,rfl,?_⟩;refine Rg.Hb (g:=18) rfl ((by decide)) (au rfl rfl rfl rfl ?_);refine ab ⟨rfl,rfl,rfl,?_⟩;refine au rfl rfl rfl rfl ?_;refine ab ⟨rfl,rfl,rfl,?_⟩;refine au rfl rfl rfl rfl ?_;refine ab ⟨rfl,rfl,rfl,?_⟩;refine a8 rfl rfl rfl ?_;refine ab ⟨rfl,rfl,rfl,?_⟩;refine ad rfl rfl ?_;refine ab ⟨rfl,rfl,rfl,?_⟩;refine au rfl rfl rfl rfl ?_
 refine ab ⟨rfl,rfl,rfl,?_⟩;refine au rfl rfl rfl rfl ?_;refine ab ⟨rfl,rfl,rfl,?_⟩;refine au rfl rfl rfl rfl ?_;refine ab ⟨rfl,rfl,rfl,?_⟩;refine au rfl rfl rfl rfl ?_;refine ab ⟨rfl,rfl,rfl,?_⟩;refine au rfl rfl rfl rfl ?_;refine ab ⟨rfl,rfl,rfl,?_⟩;refine au rfl rfl rfl rfl ?_;refine ab ⟨rfl,rfl,rfl,?_⟩;refine au rfl rfl rfl rfl ?_;refine ab ⟨rfl,rfl,rfl,?_⟩;refine au rfl rfl rfl rfl ?_;refine ab ⟨rfl,rfl,rfl,?_⟩;refine au rfl rfl rfl rfl ?_;refine ab ⟨rfl,rfl,rfl,?_⟩;refine a8 rfl rfl rfl ?_;refine ab ⟨rfl,rfl,rfl,?_⟩;refine ah rfl rfl ?_;refine ab ⟨rfl,rfl,rfl,?_⟩;refine eZ (aQ ?_);have P5:nA n x=true:=by simp[nA,hm]
 rw[P5];exact aV rfl rfl ⟨_,hM,rfl,(fun h=>by cases h),S⟩
theorem Nb {M:aD} {bl bn B i:Nat} {n:Int} {ls:List (List Po)} {x:List Po} {v0:Value} (w0:World) (hM:Lt M w0) (hB:B≤w0.heap.size) (hJ:zP bl bn n ls B i M w0) (hx:ls[i]? =some x) (hv:((RT.po).sl).V M w0 x v0) (hr:Room x) (oN:i≤1000000000):
  Spec Tryz.prog 144 #[v0,.pointer (some ⟨bl,0,none⟩),.pointer (some ⟨bn,0,none⟩)] w0 (fun v w=>∃M',Lt M' w∧v= .bool (nA n x)∧(nA n x=false→zP bl bn n ls B (i+1) M' w)∧Step M w0 M' w (lP M B)):=by
 cases hm:fS (-1) x with
 |true=>exact Vj w0 hM hB hJ hx hv hr oN hm
 |false=>exact P7 w0 hM hB hJ hx hv hr oN hm
end Go.K
namespace Go.K
open Go.Proofs
namespace TKBldH
theorem Gm:TI Tryz.prog 58 (.slice none 0 0) 1 24:=by unfold TI;kernel_rfl
theorem OD:TI Tryz.prog 72 (.agg #[(.slice none 0 0),(.slice none 0 0),(.slice none 0 0),(.slice none 0 0)]) 4 96:=by unfold TI;kernel_rfl
theorem agk:TI Tryz.prog 141 (.agg #[(.slice none 0 0),(.slice none 0 0),(.pointer none)]) 3 56:=by unfold TI;kernel_rfl
theorem D1:TI Tryz.prog 196 (.slice none 0 0) 1 24:=by unfold TI;kernel_rfl
theorem agl:placesOf Tryz.prog 141=[(0,1),(1,1),(2,1)].map some:=by kernel_rfl
theorem UW:Enters Tryz.prog 51:=enters Tryz.func51 rfl (by decide)
theorem E92:Enters Tryz.prog 92:=enters Tryz.func92 rfl (by decide)
theorem agm:Enters Tryz.prog 143:=enters Tryz.func143 rfl (by decide)
theorem agn:Enters Tryz.prog 144:=enters Tryz.func144 rfl (by decide)
theorem ago:Enters Tryz.prog 146:=enters Tryz.func146 rfl (by decide)
theorem agp:Enters Tryz.prog 147:=enters Tryz.func147 rfl (by decide)
end TKBldH
open TKBldH
set_option maxRecDepth 10000
def zp (p:Pa):Bool:=decide (p.1.length=p.2.1.length)&&eA (-1) p.2.1&&p.2.2.2.all (fun x=> !nA (p.1.length:Int) x)&&decide (p.2.2.1.length=p.2.2.2.length)&&DR none p.2.2.1
def pq (p:Pa):Se:=(p.1,p.2.1,p.2.2.1,p.2.2.2.map mR)
structure Nc (p:Pa):Prop where
 a:p.1.length≤1000000000
 b:p.2.1.length≤1000000000
 c:p.2.2.1.length≤1000000000
 d:p.2.2.2.length≤1000000000
 e:∀x∈p.2.2.2,Room x
theorem Gn {M:aD} {p:Pa} {v0:Value} (w0:World) (hM:Lt M w0) (hv:RT.pa.V M w0 p v0) (hR:Nc p):
  Spec Tryz.prog 92 #[v0] w0 (fun v w=>Step M w0 M w aC∧(zp p=true→cQ RT.se M w v (pq p))∧(zp p=false→v= .pointer none)):=by
 have kR:=hM;obtain⟨hRa,hRb,hRc,hRd,hRe⟩:=hR;refine bm (args:=[_]) (fn:=Tryz.f92) Tryz.func92 rfl (n:=45) Tryz.ntmps92 ?_;have S:Step M w0 M w0 aC:=(ax _ _).cH (fun _ h=>h.elim) (fun _ h=>h.elim);refine aj (ae ?_);refine nP (A:=RT.pa) rfl rfl hM hv rfl (fun u0 w1 dw s0 _=>?_);replace hM:=s0.lt hM;have:=S.size;replace S:=S.aB s0;refine ah rfl rfl (ab (aj (ae ?_)));refine aK (M:=M) (A:=RT.pa) (B:=(RT.int .i64).sl) bY rfl rfl kD (by decide) (pa0) rfl rfl (by decide) (by assumption) (by repeat (first|exact ao _ _|refine aX (bu (by assumption)) ?_)) (fun zF lK=>?_);refine bR (M:=M) aq rfl rfl rfl rfl rfl (by assumption) (by repeat (first|exact ao _ _|refine aX (bu (by assumption)) ?_)) (fun zG mZ=>?_);replace mZ:((RT.int .i64).sl).V M _ p.1 zG:=mZ;refine bQ aq rfl mZ rfl ?_;refine eE M I3 rfl (fun wZ IM aeq aer lv s1_3=>?_);obtain⟨na,ym⟩:∃M',M'=ins M wZ:=⟨_,rfl⟩;rw[←ym]at s1_3;have jX:na wZ:=by rw[ym];exact .inl rfl
 change IM.heap[wZ]? =some (.cells #[.int .i64 0] _ _)at lv;replace dw:=dw.le (by decide) s1_3.le;replace hM:=s1_3.lt hM;have:=S.size;replace S:=S.aB s1_3;refine cw (M:=na) I3 rfl rfl lv rfl (rfl) jX (fun TU Zm my=>?_);change TU.heap[_]? =some (Obj.cells #[.int .i64 (p.1.length:Int)] _ _)at Zm;have:=ak lv;replace jX:=(my.mem _ this).2 jX;replace dw:=dw.le (by decide) my.le;replace hM:=my.lt hM;have:=S.size;replace S:=S.trans my (fun k hk h=>by have h:_=_:=h;subst h;first|(exfalso;omega)|(show _≤_;omega)|exact⟨by first|omega|assumption,(S.mem _ hk).1 ((my.mem _ (ak lv)).1 jX)⟩|exact .inl rfl|exact .inr rfl|exact .inr (.inl rfl)|exact .inr (.inr rfl)|exact .inr (.inr (.inl rfl))|exact rfl);have Dh:=Zm;clear lv;have lv:=Dh;clear Dh;refine ab (aj (aj (ae ?_)));refine aK (M:=na) (A:=RT.pa) (B:=(RT.int .i64).sl) bY rfl rfl kD (by decide) (pa1) rfl rfl (by decide) (by assumption) (by repeat (first|exact ao _ _|refine aX (bu (by assumption)) ?_)) (fun apY alp=>?_);refine bR (M:=na) aq rfl rfl rfl rfl rfl (by assumption) (by repeat (first|exact ao _ _|refine aX (bu (by assumption)) ?_)) (fun agq Nd=>?_);replace Nd:((RT.int .i64).sl).V na _ p.2.1 agq:=Nd;refine bQ aq rfl Nd rfl (aP aw rfl rfl rfl lv rfl (aU (v':= .int .i64 (p.1.length:Int)) rfl (fD rfl rfl rfl (ad rfl rfl ?_))));refine aR (g:=16) rfl (fun agr=>?_) (fun agr=>?_)
 ·refine au rfl rfl rfl rfl (au rfl rfl rfl rfl (au rfl rfl rfl rfl (au rfl rfl rfl rfl (a8 rfl rfl rfl (ab (nG rfl (aj (ae (ah rfl rfl (ab (aQ ?_)))))))))))
  have eb:zp p=false:=by
   unfold zp
   first
   |(rw[decide_eq_false (show¬p.1.length=p.2.1.length by omega)];simp;done)
   |(simp[c2];done)
  exact aV rfl rfl ⟨S.back,fun h=>by(rw[eb]at h;cases h),fun _=>rfl⟩
 ·have WO:p.1.length=p.2.1.length:=by omega
  refine al rfl rfl ?_;refine aK (M:=na) (A:=RT.pa) (B:=(RT.int .i64).sl) bY rfl rfl kD (by decide) (pa1) rfl rfl (by decide) (by assumption) (by repeat (first|exact ao _ _|refine aX (bu (by assumption)) ?_)) (fun apZ alq=>?_);refine al rfl rfl ?_;refine bR (M:=na) aq rfl rfl rfl rfl rfl (by assumption) (by repeat (first|exact ao _ _|refine aX (bu (by assumption)) ?_)) (fun ags Nf=>?_);replace Nf:((RT.int .i64).sl).V na _ p.2.1 ags:=Nf;refine al rfl rfl ?_;refine aY rfl rfl agm (Jf _ Nf) (fun r wc hc=>?_);obtain⟨rfl,rfl⟩:=hc;refine al rfl rfl (mO rfl rfl (aU (v':= .bool (decide (¬eA (-1) p.2.1=true))) (by simp) (aE rfl rfl rfl (ab ?_))));refine bI rfl (fun c2=>?_) (fun c2=>?_)
  ·refine aj (ae (ah rfl rfl (ab (aQ ?_))))
   have eb:zp p=false:=by
    unfold zp
    first
    |(rw[decide_eq_false (show¬p.1.length=p.2.1.length by omega)];simp;done)
    |(simp[c2];done)
   exact aV rfl rfl ⟨S.back,fun h=>by(rw[eb]at h;cases h),fun _=>rfl⟩
  ·have er:eA (-1) p.2.1=true:=dJ.1 c2;refine aT (aj (ae ?_));refine eE na D1 rfl (fun Ng La ap0 ap1 C1 lF=>?_);obtain⟨HS,Nh⟩:∃M',M'=ins na Ng:=⟨_,rfl⟩;rw[←Nh]at lF;have Vn:HS Ng:=by rw[Nh];exact .inl rfl
   change La.heap[Ng]? =some (.cells #[.slice none 0 0] _ _)at C1;have:=ak lv;replace jX:=(lF.mem _ this).2 jX;replace lv:=lF.aM lv;replace dw:=dw.le (by decide) lF.le;replace hM:=lF.lt hM;have:=S.size;replace S:=S.aB lF;refine ab (aj (ae (kg (xs:=[]) (ys:=[.tmp 4,.tmp 3]) rfl rfl rfl (ah rfl rfl (ab (aj (aj (ae ?_))))))));refine aK (M:=HS) (A:=RT.pa) (B:=((RT.po).sl).sl) bY rfl rfl Gm (by decide) (pa3) rfl rfl (by decide) (by assumption) (by repeat (first|exact ao _ _|refine aX (bu (by assumption)) ?_)) (fun Yg Lz=>?_);refine bR (M:=HS) kH rfl rfl rfl rfl rfl (by assumption) (by repeat (first|exact ao _ _|refine aX (bu (by assumption)) ?_)) (fun Uj yn=>?_);replace yn:(((RT.po).sl).sl).V HS _ p.2.2.2 Uj:=yn;refine ad rfl rfl ?_;refine aY rfl rfl ago (zO (cap:=[.pointer (some ⟨Ng,0,none⟩),.pointer (some ⟨wZ,0,none⟩)]) (B:=w0.heap.size) (J:=zP Ng wZ (p.1.length:Int) p.2.2.2 w0.heap.size) (bad:=nA (p.1.length:Int)) _ hM yn agn ⟨_,C1,Vn,by omega,lv,jX,dD _ _ _ _ _⟩ (fun i M w M' w' h s=>h.aL s) (fun i M w x vx hJ hM hx rq=>Nb w hM (by obtain⟨_,h1,_,h2,_⟩:=hJ;have:=ak h1;omega) hJ hx rq (hRe x (az hx)) (by have:=(an.1 hx).1;omega))) (fun r6 w6 hc=>?_);obtain⟨M6,k6,rfl,hk6,Jg,s6,hk7,hk8⟩:=hc;replace dw:=dw.le (by decide) s6.le;replace S:=S.l7 s6 (aN _);refine ab ?_;refine bI rfl (fun c6=>?_) (fun c6=>?_)
   ·obtain⟨x6,hx6,qE⟩:=hk8 c6
    have eb:zp p=false:=by
     unfold zp;have:p.2.2.2.all (fun x=> !nA (p.1.length:Int) x)=false:=List.all_eq_false.2 ⟨x6,hx6,by simp[qE]⟩;simp[this]
    refine aj (ae (ah rfl rfl (ab (aQ ?_))));exact aV rfl rfl ⟨S.back,fun h=>by(rw[eb]at h;cases h),fun _=>rfl⟩
   ·refine aT (aj (ae ?_));obtain⟨qE,⟨vl,gl,_,_,_,_,fB⟩⟩:=hk7 (by omega);rw[aW (aN _)]at fB;have jV:(((RT.li).ptr).sl).V M w6 (p.2.2.2.map mR) vl:=fB.close kR S (by simp;omega);replace dw:cQ RT.pa M w6 u0 p:=dw.le (by decide) (Le.close kR S);replace S:=S.back;replace hM:=S.lt kR;refine aK (M:=M) (A:=RT.pa) (B:=RT.str.sl) bY rfl rfl zn (by decide) pa2 rfl rfl (by decide) dw (ao _ _) (fun ap5 alr=>?_);refine bR (M:=M) aS rfl rfl rfl rfl rfl (by assumption) (by repeat (first|exact ao _ _|refine aX (bu (by assumption)) ?_)) (fun agt Ni=>?_);replace Ni:(RT.str.sl).V M _ p.2.2.1 agt:=Ni;refine aP ec rfl rfl rfl gl rfl (aU (v':=vl) rfl ?_);refine aY rfl rfl agp (Ge _ hM Ni jV (by omega) (by simp;omega)) (fun r8 w8 hc=>?_);obtain⟨pd,rfl,OE,s8⟩:=hc;replace dw:=dw.le (by decide) s8.le;replace jV:=jV.le s8.le;replace gl:=s8.aM gl;replace hM:=s8.lt hM;have:=S.size;replace S:=S.aB s8;refine ad rfl rfl (bZ rfl rfl rfl (bZ rfl rfl rfl (ah rfl rfl (ah rfl rfl (ab (aj (aj (ae (ad rfl rfl (fD rfl rfl rfl (ab ?_)))))))))));refine bI rfl (fun c9=>?_) (fun c9=>?_)
    ·have eb:zp p=false:=by
      by_cases h:zp p=true
      ·unfold zp at h;simp only[bW,decide_eq_true_eq]at h;exact absurd (by rw[if_pos ⟨by simp[h.1.2],h.2⟩]) c9
      ·simpa using h
     refine aj (ae (ah rfl rfl (ab (aQ ?_))));exact aV rfl rfl ⟨S.back,fun h=>by(rw[eb]at h;cases h),fun _=>rfl⟩
    ·have e9:(p.2.2.1.length=(p.2.2.2.map mR).length∧DR none p.2.2.1=true):=by
      by_cases h:(p.2.2.1.length=(p.2.2.2.map mR).length∧DR none p.2.2.1=true)
      ·exact h
      ·exact absurd (by rw[if_neg h];decide) c9
     replace OE:=OE e9.1 e9.2;refine aT (aj ?_);apply T.Ky [0,1,3,4,6,2,5,7,8,9] 5 [2,3,4] 2 aC mixed
     ·simp+decide only[xK,sy,dQ,jd,iZ,ja,fa,cW,hY,qc,cond_true,cond_false,Nat.reduceBEq,Nat.reduceAdd,beq_self_eq_true];rfl
     ·rfl
     ·rfl
     ·rfl
     ·rfl
     ·rfl
     ·rfl
     intro F6 F7;have gZ:=F7 M;replace dw:=dw.le (by decide) gZ.le;replace jV:=jV.le gZ.le;replace gl:=gZ.aM gl;replace hM:=gZ.lt hM;have:=S.size;replace S:=S.aB gZ;refine aK (M:=M) (A:=RT.pa) (B:=(RT.int .i64).sl) bY rfl rfl kD (by decide) (pa0) rfl rfl (by decide) (by assumption) (by repeat (first|exact ao _ _|refine aX (bu (by assumption)) ?_)) (fun Rx LC=>?_);refine ab ⟨rfl,rfl,rfl,?_⟩;refine bR (M:=M) aq rfl rfl rfl rfl rfl (by assumption) (by repeat (first|exact ao _ _|refine aX (bu (by assumption)) ?_)) (fun Zn Gp=>?_);replace Gp:((RT.int .i64).sl).V M _ p.1 Zn:=Gp;refine ab ⟨rfl,rfl,rfl,?_⟩;refine aK (M:=M) (A:=RT.pa) (B:=(RT.int .i64).sl) bY rfl rfl kD (by decide) (pa1) rfl rfl (by decide) (by assumption) (by repeat (first|exact ao _ _|refine aX (bu (by assumption)) ?_)) (fun als Vo=>?_);refine ab ⟨rfl,rfl,rfl,?_⟩;refine bR (M:=M) aq rfl rfl rfl rfl rfl (by assumption) (by repeat (first|exact ao _ _|refine aX (bu (by assumption)) ?_)) (fun Zo pv=>?_);replace pv:((RT.int .i64).sl).V M _ p.2.1 Zo:=pv;refine ab ⟨rfl,rfl,rfl,?_⟩;refine ad rfl rfl ?_;refine ab ⟨rfl,rfl,rfl,?_⟩;refine eZ ?_;obtain⟨bb,oo,cs,ee,fr,rfl,lp,_⟩:=Vo.float;refine⟨iA ⟨je bY rfl kD (by decide),⟨eF rfl lp (fun h=>h),⟨eS,trivial⟩⟩⟩,?_⟩;have kp:=jG aC F6;refine aY rfl rfl UW (yA hM Gp (by omega)) (fun v5 w5 hc=>?_);obtain⟨qf,s5⟩:=hc;replace pv:=pv.le s5.le;replace OE:=(OE.le (by decide) gZ.le).le (by decide) s5.le;replace dw:=dw.le (by decide) s5.le;replace jV:=jV.le s5.le;replace gl:=s5.aM gl;replace hM:=s5.lt hM;have:=S.size;replace S:=S.aB s5;refine(fun(kp:eN _ _ _)=>ab ⟨rfl,rfl,fun _=>kp,?_⟩) (by first|exact kp|exact kp.rF (by assumption)|exact kp.goN (by assumption)|exact kp.go (by assumption) (fun _ _ h=>by first|exact h|exact h.elim))
     refine aY rfl rfl UW (yA hM pv (by omega)) (fun v6 w6' hc=>?_);obtain⟨sN,RY⟩:=hc;replace dw:=dw.le (by decide) RY.le;replace jV:=jV.le RY.le;replace qf:=qf.le RY.le;replace pv:=pv.le RY.le;replace OE:=OE.le (by decide) RY.le;replace gl:=RY.aM gl;replace hM:=RY.lt hM;have:=S.size;replace S:=S.aB RY;refine(fun(kp:eN _ _ _)=>ab ⟨rfl,rfl,fun _=>kp,?_⟩) (by first|exact kp|exact kp.rF (by assumption)|exact kp.goN (by assumption)|exact kp.go (by assumption) (fun _ _ h=>by first|exact h|exact h.elim));refine iS (places:=[(0,1),(1,1),(2,1)]) sm agk agl rfl ⟨_,_,rfl,rfl,_,_,rfl,rfl,_,_,rfl,rfl,rfl⟩ (out:=[_,_,_]) ⟨0,[_],rfl,k8 qf,by simp[Value.cells],1,[_],rfl,k8 sN,by simp[Value.cells],2,[_],rfl,vr OE,by simp[Value.cells],rfl⟩ ?_;refine ab ⟨rfl,rfl,fun h=>absurd rfl h,?_⟩;refine nP (A:=RT.se) (a:=pq p) rfl rfl hM (aeQ (x:=pq p) qf sN OE) rfl (fun u8 w8' hu8 P9 _=>?_);replace dw:=dw.le (by decide) P9.le;replace jV:=jV.le P9.le;replace qf:=qf.le P9.le;replace pv:=pv.le P9.le;replace OE:=OE.le (by decide) P9.le;replace sN:=sN.le P9.le;replace gl:=P9.aM gl;replace hM:=P9.lt hM;have:=S.size;replace S:=S.aB P9;refine ab ⟨rfl,rfl,fun h=>absurd rfl h,?_⟩;refine ah rfl rfl ?_;refine ab ⟨rfl,rfl,fun h=>absurd rfl h,?_⟩;refine mM (aQ ?_)
     have eb:zp p=true:=by
      unfold zp;rw[decide_eq_true WO,er,e9.2,decide_eq_true (by simpa using e9.1),fy.2 (fun x hx=>by simp[qE x hx])];rfl
     exact aV rfl rfl ⟨S.back,fun _=>hu8,fun h=>by(rw[eb]at h;cases h)⟩
theorem yI {M:aD} {p:Pa} {v0:Value} (w0:World) (hM:Lt M w0) (hv:RT.pa.V M w0 p v0) (hR:Nc p):
  Spec Tryz.prog 43 #[v0] w0 (fun v w=>Step M w0 M w aC∧(zp p=true→∃s,v= .tuple #[s,.int .i64 0]∧cQ RT.se M w s (pq p))∧(zp p=false→v= .tuple #[.pointer none,.int .i64 1])):=by
 refine bm (args:=[_]) (fn:=Tryz.f43) Tryz.func43 rfl (n:=10) Tryz.ntmps43 ?_;have S:Step M w0 M w0 aC:=(ax _ _).cH (fun _ h=>h.elim) (fun _ h=>h.elim);refine aj (ae ?_);refine nP (A:=RT.pa) rfl rfl hM hv rfl (fun u0 w1 dw s0 _=>?_);replace hM:=s0.lt hM;have:=S.size;replace S:=S.aB s0;refine ah rfl rfl (ah rfl rfl (ab (aj (ae ?_))));refine cN (M:=M) (A:=RT.pa) bY rfl OD (by decide) rfl rfl rfl dw (ao _ _) (fun v1 zo=>?_);refine aY rfl rfl E92 (Gn _ hM zo hR) (fun r1 w2 hc=>?_);obtain⟨s2,hok,kf⟩:=hc
 obtain⟨o1,UH⟩:∃o,r1= .pointer o:=by
  cases h:zp p with
  |true=>obtain⟨b,o,_,h1,_⟩:=hok h;exact⟨_,h1⟩
  |false=>exact⟨none,kf h⟩
 subst UH;replace dw:=dw.le (by decide) s2.le;replace hM:=s2.lt hM;have:=S.size;replace S:=S.aB s2;refine ah rfl rfl (ab (aj (aj (ae (ad rfl rfl (Rg.KF jf rfl rfl rfl (ab ?_)))))));refine bI rfl (fun c2=>?_) (fun c2=>?_)
 ·refine aj (ae (ah rfl rfl (ah rfl rfl (ab (aQ ?_)))))
  have eb:zp p=false:=by
   by_cases h:zp p=true
   ·obtain⟨b,o,_,h1,_⟩:=hok h;rw[c2]at h1;cases h1
   ·simpa using h
  exact fm rfl rfl rfl ⟨S.back,fun h=>by(rw[eb]at h;cases h),fun _=>rfl⟩
 ·refine aT (aj (ae (ad rfl rfl (ah rfl rfl (ah rfl rfl (ab (aQ ?_)))))))
  have eb:zp p=true:=by
   by_cases h:zp p=true
   ·exact h
   ·have:=kf (by simpa using h);simp at this;exact absurd this c2
  exact fm rfl rfl rfl ⟨S.back,fun _=>⟨_,rfl,hok eb⟩,fun h=>by(rw[eb]at h;cases h)⟩
end Go.K
namespace Go.K
section
variable {P:Program} {r:Option Nat} {n:Nat} {L:Sl} {ds:List Deferred} {w:World} {K:Kt} {M:aD} {F:List (Nat×aD)}
def tY (l:List Oper) (m q d:Nat):Bool:=
 Nat.blt q m&&mV l [q] m ((l[m]?.map cv).getD [])&&ko l (m+1)&&
 ((List.range' m (l.length-m)).all fun j=>match l[j]? with
  |some o=>sw o.op&&(!(asks l o).contains d||(cv o).contains q)
  |none=>true)
theorem wC {l:List Oper} {m q d:Nat} (h:tY l m q d=true):q<m∧mV l [q] m ((l[m]?.map cv).getD [])=true∧ko l (m+1)=true∧∀j o,m≤j→l[j]? =some o→sw o.op=true∧(d∈asks l o→q∈cv o):=by
 simp only[tY,bW,Nat.blt_eq]at h;obtain⟨⟨⟨h1,h2⟩,h3⟩,h4⟩:=h;refine⟨h1,h2,h3,fun j o hj ho=>?_⟩;have dV:=(an.1 ho).1;have:=fy.1 h4 j (List.mem_range'_1.2 ⟨hj,by omega⟩);rw[ho]at this;simp only[bW,qb,iQ,jH]at this;refine⟨this.1,fun hd=>?_⟩;rcases this.2 with h|h
 ·rw[←Bool.not_eq_true,jH]at h;exact absurd hd h
 ·exact h
structure TJ (P:Program) (r:Option Nat) (n:Nat) (l:List Oper) (m q d:Nat) (c:Value) (L:Sl) (K:Kt) (ds:List Deferred) (D:Nat→Prop) (a:Act) (w:World) (p:Nat) (ac:Act) (Lp:Sl) (wq:World):Prop where
 p0:m≤p
 p1:p≤l.length
 dt:∀i,i<l.length→i≠q→(D i↔i<p)
 ag:iM n ac Lp ds
 tr:sx P r n l.toArray aC wq K 0 (l.drop p) Lp ds w
 yes:D q→a=ac
 no: ¬D q→ac=a.put (some d) c∧∀t u,lk (km l q L) t=some u→a.tmps[t]? =some u
theorem put_comm (a:Act) {d:Nat} {e:Option Nat} (h:e≠some d) (c v:Value):(a.put (some d) c).put e v=(a.put e v).put (some d) c:=by
 cases e with
 |none=>rfl
 |some e=>
  have eQ:e≠d:=fun h'=>h (by rw[h'])
  simp only[Act.put];congr 1;apply Array.ext_getElem?;intro i;simp only[dE,Array.size_setIfInBounds];by_cases h1:e=i<;>by_cases h2:d=i<;>simp_all
theorem AQ (a:Act) {d t:Nat} (c:Value) (h:t≠d):(a.put (some d) c).tmps[t]? =a.tmps[t]? :=by rw[iv,if_neg (fun e=>h (by injection e with e;exact e.symm))]
theorem TJ.next {l:List Oper} {m q d:Nat} {c:Value} (dv:eH l 0=true) (hok:tY l m q d=true) {oq:Oper} (hq:l[q]? =some oq) (Gq:oq.dst=some d) (Vp:jM oq.op=true) (Qa:oq.guard=none)
  (gN:∀(ρ:Operand→Value) w,(∀x u,ev (km l q L) x=some u→ρ x=u)→(execOp ρ oq).run P w= .ok (.value c) w)
  {Q:Exit→Act→World→Prop} {D:Nat→Prop} {a:Act} {w:World} {j:Nat} {o:Oper} {rest:List Nat} (ho:l[j]? =some o) (pE: ¬D j) (hp:∀k∈cv o,D k) {p:Nat} {ac:Act} {Lp:Sl} {wq:World} (hi:TJ P r n l m q d c L K ds D a w p ac Lp wq)
  (hk:∀a' w',(∃p ac Lp wq,TJ P r n l m q d c L K ds (fun i=>i=j∨D i) a' w' p ac Lp wq)→wpOpsIn (FW r) 0 P l.toArray Q rest a' w'):wpOpsIn (FW r) 0 P l.toArray Q (j::rest) a w:=by
 obtain⟨hqm,_,xH,ET⟩:=wC hok;have wU:=(an.1 ho).1;by_cases hjq:j=q
 ·subst hjq;rw[hq]at ho;cases ho;obtain⟨HT,lf⟩:=hi.no pE;refine One.run (by simpa using hq) Vp (v:=c) ?_ (hk _ _ ⟨p,ac,Lp,wq,hi.p0,hi.p1,fun i h1 h2=>⟨fun h=>(hi.dt i h1 h2).1 (h.resolve_left h2),fun h=> .inr ((hi.dt i h1 h2).2 h)⟩,hi.ag,hi.tr,fun _=>by rw[HT,Gq],fun h=>absurd (.inl rfl) h⟩);unfold One;rw[if_pos (by simp[Region.wanted,Qa])];refine gN a.eval w fun x u hx=> ?_
  cases x with
  |tmp t=>simp only[ev]at hx;simp[Act.eval,lf t u hx]
  |const v=>simp only[ev]at hx;cases hx;rfl
  |global g=>simp only[ev]at hx;cases hx;rfl
  |func f=>simp only[ev]at hx;cases hx;rfl
 ·have hjp:j=p:=by
   have h1:p≤j:=by
    rcases cG j p with h|h
    ·exact absurd ((hi.dt j wU hjq).2 h) pE
    ·exact h
   have:=hi.p0;rcases cG m j with h|h
   ·have h2:=hp _ (kP xH (j:=j) (by omega) ho);have:=(hi.dt (j-1) (by omega) (by omega)).1 h2;omega
   ·omega
  subst hjp;obtain⟨hto,hta⟩:=ET j o hi.p0 ho;have A8:o.dst≠some d:=fun h=>hjq (fP dv ho hq h Gq)
  have Cj:∀t∈asks l o,a.tmps[t]? =ac.tmps[t]? :=fun t ht=>by
   by_cases hD:D q
   ·rw[hi.yes hD]
   ·rw[(hi.no hD).1,AQ];rintro rfl;exact hD (hp q (hta ht))
  obtain⟨JQ,CA⟩:=nS Cj
  have hdf:a.defers=ac.defers:=by
   by_cases hD:D q
   ·rw[hi.yes hD]
   ·rw[(hi.no hD).1,put_defers]
  have vU:=hi.tr;rw[dG wU,(an.1 ho).2]at vU;have h1:=Rg.run vU ac hi.ag;refine CI (by simpa using ho) hto JQ CA hdf h1 (fun e a w ⟨_,_,_,he,_⟩=>he) (fun v w' ⟨L',qh,hA,_,Kq,_,Tf⟩=>?_) (fun d' w' ⟨L',qh,hA,_,Kq,_⟩=>?_)
  ·rw[Kq]at hA;refine hk _ _ ⟨j+1,ac.put o.dst v,L',wq,by have:=hi.p0;omega,by omega,fun i h3 h4=>?_,hA,Tf,fun h=>?_,fun h=>?_⟩
   ·constructor
    ·rintro(h|h)
     ·omega
     ·have:=(hi.dt i h3 h4).1 h;omega
    ·intro h;rcases ly (show i≤j by omega)with h5|h5
     ·exact .inl h5
     ·exact .inr ((hi.dt i h3 h4).2 h5)
   ·rw[hi.yes (h.resolve_left (fun e=>hjq e.symm))]
   ·have hD: ¬D q:=fun h'=>h (.inr h')
    obtain⟨HT,lf⟩:=hi.no hD;refine⟨by rw[HT,put_comm a A8],fun t u ht=>?_⟩;obtain⟨h3,h4⟩:=j4 (f:=lg l q) ht;rw[iv,if_neg,lf t u ht];intro e;simp only[lg,fy]at h3;have:=h3 o (az ho);simp only[e,beq_self_eq_true,Bool.not_true,Bool.false_or,jH]at this;exact hD (hp q this)
  ·have h3:=hA.defers;rw[put_defers,Kq]at h3;have h4:=congrArg List.length h3;rw[hi.ag.defers]at h4;simp at h4
theorem gX.Vq {l:List Oper} {wd:World} (m q d:Nat) (c:Value) {oq:Oper} (F:List (Nat×aD)) (S:List (cT M)) (Tc:S.length=m) (qj:Nat.blt m l.length=true) (dv:eH l 0=true) (hok:tY l m q d=true)
  (hq:l[q]? =some oq) (Gq:oq.dst=some d) (Vp:jM oq.op=true) (Qa:oq.guard=none) (hS:S[q]? =some (cT.eq c)) (gN:∀(ρ:Operand→Value) w,(∀x u,ev (km l q L) x=some u→ρ x=u)→(execOp ρ oq).run P w= .ok (.value c) w)
  (oM:∀p∈F,∀b,p.2 b→M b) (hFq:∀p∈F,p.1≠q) (vT:xF F l S) (jU:bL P r n F wd l S ds L l S 0)
  (kn:∀w',Step M wd M w' (jD (F.map (·.2)))→gw w' (fun acc=>sx P r n l.toArray aC w' K 0 (l.drop m) (acc++km l l.length L) ds w') l S []):gX P r n l L ds wd K:=by
 intro a0 ha;obtain⟨hqm,Ks,xH,ET⟩:=wC hok;have Zp:m<l.length:=by simpa[Nat.blt_eq]using qj
 have start:∀(D:Nat→Prop) a w,(∀i,i<m→i≠q→D i)→(∀i,m≤i→i<l.length→¬D i)→(∀i o,l[i]? =some o→D i→∀k∈cv o,D k)→Inv F S l wd L ds n (fun i=>D i∧i<l.length) a w→∃p ac Lp wq,TJ P r n l m q d c L K ds D a w p ac Lp wq:=by
  intro D a w il kf lz hi
  obtain⟨ac,HT⟩:∃ac,(D q→a=ac)∧(¬D q→ac=a.put (some d) c):=by
   by_cases hD:D q
   ·exact⟨a,fun _=>rfl,fun h=>absurd hD h⟩
   ·exact⟨_,fun h=>absurd h hD,fun _=>rfl⟩
  have hqn:d<n∨n≤d:=cG d n
  have jJ:n≤ac.tmps.size:=by
   by_cases hD:D q
   ·rw[←HT.1 hD];exact hi.size
   ·rw[HT.2 hD,nQ];exact hi.size
  have hdf:ac.defers=ds:=by
   by_cases hD:D q
   ·rw[←HT.1 hD];exact hi.defers
   ·rw[HT.2 hD,put_defers];exact hi.defers
  have Nj:∀t,t≠d→ac.tmps[t]? =a.tmps[t]? :=fun t ht=>by
   by_cases hD:D q
   ·rw[←HT.1 hD]
   ·rw[HT.2 hD,AQ a c ht]
  have agv:d<a.tmps.size:=by
   have hg:=jU.take.get q oq (by rw[cp,Tc,if_pos hqm];exact hq);by_cases hD:D q
   ·obtain⟨v,h1,_⟩:=hi.done q oq (cT.eq c) d hq hS ⟨hD,by omega⟩ Gq;exact(Array.getElem?_eq_some_iff.1 h1).1
   ·refine Classical.byContradiction fun Kc=> ?_
    obtain⟨s,hs,Zq⟩:=hg;rw[fR]at Zq;rw[hS]at hs;cases hs
    have hpq:∀k∈cv oq,D k:=fun k hk=>by
     have:=cR dv q oq hq k hk;exact il k (by omega) (by omega)
    have:=Inv.next (r:=r) (P:=P) hi dv vT oM (rest:=[]) (Q:=fun _ a' _=>n≤a'.tmps.size∧∃v,a'.tmps[d]? =some v) ⟨cT.eq c,hS,Zq⟩ hq (fun h=>hD h.1) (fun k hk=>⟨hpq k hk,by have:=cR dv q oq hq k hk;omega⟩) (fun a' w' ik=>by
     obtain⟨v,h1,_⟩:=ik.done q oq (cT.eq c) d hq hS (.inl rfl) Gq;exact⟨ik.size,v,h1⟩)
    have su:One P r l.toArray w oq a c:=by
     unfold One;rw[if_pos (by simp[Region.wanted,Qa])];refine gN a.eval w fun x u hx=> ?_
     have lf:∀t u,lk (km l q L) t=some u→a.tmps[t]? =some u:=fun t u ht=>by
      obtain⟨h3,h4⟩:=j4 (f:=lg l q) ht;refine hi.base t u h4 fun i o gy Ck he=> ?_
      simp only[lg,fy]at h3;have:=h3 o (az gy);simp only[he,beq_self_eq_true,Bool.not_true,Bool.false_or,jH]at this;exact hD (lz i o gy Ck.1 q this)
     cases x with
     |tmp t=>simp only[ev]at hx;simp[Act.eval,lf t u hx]
     |const v=>simp only[ev]at hx;cases hx;rfl
     |global g=>simp only[ev]at hx;cases hx;rfl
     |func f=>simp only[ev]at hx;cases hx;rfl
    simp only[wpOpsIn,eD,hq]at this;rw[if_pos (by simp[Region.wanted,Qa])]at this;obtain⟨_,h2⟩:=this;unfold One at su;rw[if_pos (by simp[Region.wanted,Qa])]at su;rw[Oper.semAt_eq _ _ _ (me Vp),su]at h2;rw[Oper.uponIn_value]at h2;obtain⟨_,v,h3⟩:=h2;rw[Gq]at h3;have:=(Array.getElem?_eq_some_iff.1 h3).1;simp[Act.put]at this;exact Kc this
  have agw:∃v,ac.tmps[d]? =some v∧v=c:=by
   by_cases hD:D q
   ·rw[←HT.1 hD];obtain⟨v,h1,h2⟩:=hi.done q oq (cT.eq c) d hq hS ⟨hD,by omega⟩ Gq;exact⟨v,h1,h2⟩
   ·refine⟨c,?_,rfl⟩;rw[HT.2 hD,iv,if_pos rfl];simp[dE,agv]
  have iU:∀{i:Nat} {o:Oper},(l.take m)[i]? =some o→l[i]? =some o∧i<m:=fun {i o} h=>by
   rw[cp]at h
   split at h
   ·exact⟨h,by assumption⟩
   ·cases h
  have kF:Step M wd M w (jD (F.map (·.2))):=hi.step.cH (fun b ⟨p,hp,hD,hb⟩=>fA.2 ⟨p.2,bP.2 ⟨p,hp,rfl⟩,hb⟩) (fun b hb=>by
   obtain⟨N,hN,Io⟩:=fA.1 hb;obtain⟨p,hp,rfl⟩:=bP.1 hN;exact oM p hp b Io)
  have hE:=(kn w kF).take;rw[Tc]at hE
  obtain⟨acc,h1,h2⟩:=gw.use (a:=ac) (l.take m) S [] (fun i o s h1 h2 h3=>by
    obtain⟨h4,h5⟩:=iU h1;by_cases RZ:i=q
    ·subst RZ;rw[hq]at h4;cases h4;rw[Gq]at h3;cases h3
    ·exact hi.fin i o s h4 h2 ⟨il i h5 RZ,by omega⟩ h3)
   (fun i o s e h1 h2 h3=>by
    obtain⟨h4,h5⟩:=iU h1;by_cases RZ:i=q
    ·subst RZ;rw[hq]at h4;cases h4;rw[Gq]at h3;cases h3;rw[hS]at h2;cases h2;exact agw
    ·obtain⟨v,h6,h7⟩:=hi.done i o s e h4 h2 ⟨il i h5 RZ,by omega⟩ h3;exact⟨v,by rw[Nj e (fun he=>RZ (fP dv h4 hq h3 (by rw[Gq,he])))];exact h6,h7⟩)
   (fun t v h=>by simp[lk]at h) hE
  refine⟨m,ac,_,w,aN _,by omega,fun i h3 h4=>⟨fun h=>?_,fun h=>il i h h4⟩,⟨jJ,hdf,fun t v h=>?_⟩,h1,HT.1,fun hD=>⟨HT.2 hD,fun t u ht=>?_⟩⟩
  ·rcases cG i m with h5|h5
   ·exact h5
   ·exact absurd h (kf i h5 h3)
  ·rcases lZ h with h|h
   ·exact h2 t v h
   ·obtain⟨h3,h4⟩:=j4 (f:=lg l l.length) h
    have eQ:∀(i:Nat) (o:Oper),l[i]? =some o→o.dst≠some t:=fun i o gy he=>by
     simp only[lg,fy]at h3;have:=h3 o (az gy);simp only[he,beq_self_eq_true,Bool.not_true,Bool.false_or,jH]at this;have h7:=cR dv i o gy _ this;have h8:=(an.1 gy).1;omega
    rw[Nj t (fun e=>eQ q oq hq (by rw[Gq,e]))];exact hi.base t v h4 fun i o gy _=>eQ i o gy
  ·obtain⟨h3,h4⟩:=j4 (f:=lg l q) ht;refine hi.base t u h4 fun i o gy Ck he=> ?_
   simp only[lg,fy]at h3;have:=h3 o (az gy);simp only[he,beq_self_eq_true,Bool.not_true,Bool.false_or,jH]at this;exact hD (lz i o gy Ck.1 q this)
 refine⟨fun D a w=>((∀i,m≤i→i<l.length→¬D i)∧Inv F S l wd L ds n (fun i=>D i∧i<l.length) a w)∨∃p ac Lp wq,TJ P r n l m q d c L K ds D a w p ac Lp wq,fun D D' a w hJ hD=>?_,fun Q D a w j o rest hj ho pE hp lz hJ hk=>?_,fun a w hJ=>?_,.inl ⟨fun i _ _ h=>h,?_⟩⟩
 ·rcases hJ with⟨h1,h2⟩|⟨p,ac,Lp,wq,h⟩
  ·refine .inl ⟨fun i h3 h4 h5=>h1 i h3 h4 ((hD i h4).1 h5),?_⟩;have:(fun i=>D' i∧i<l.length)=fun i=>D i∧i<l.length:=funext fun i=>propext ⟨fun⟨h3,h4⟩=>⟨(hD i h4).1 h3,h4⟩,fun⟨h3,h4⟩=>⟨(hD i h4).2 h3,h4⟩⟩
   rw[this];exact h2
  ·exact .inr ⟨p,ac,Lp,wq,h.p0,h.p1,fun i h3 h4=>(hD i h3).trans (h.dt i h3 h4),h.ag,h.tr,fun h3=>h.yes ((hD q (by omega)).1 h3),fun h3=>h.no fun h4=>h3 ((hD q (by omega)).2 h4)⟩
 ·rcases hJ with⟨h1,h2⟩|⟨p,ac,Lp,wq,h⟩
  ·rcases cG j m with Ah|Ah
   ·have hg:=jU.take.get j o (by rw[cp,Tc,if_pos Ah];exact ho);rw[fR]at hg;refine h2.next dv vT oM hg ho (fun h=>pE h.1) (fun k tw=>⟨hp k tw,by have:=cR dv j o ho k tw;omega⟩) fun a' w' ik=>hk a' w' (.inl ⟨fun i h3 h4 h5=>?_,?_⟩)
    ·rcases h5 with h5|h5
     ·omega
     ·exact h1 i h3 h4 h5
    ·have:(fun i=>(i=j∨D i)∧i<l.length)=fun i=>i=j∨D i∧i<l.length:=funext fun i=>propext ⟨fun⟨h3,h4⟩=>h3.elim .inl fun h=> .inr ⟨h,h4⟩,fun h=>h.elim (fun h=>⟨.inl h,by omega⟩) fun h=>⟨.inr h.1,h.2⟩⟩
     rw[this];exact ik
   ·have agx:j=m:=by
     rcases cG m j with h|h
     ·have:=hp _ (kP xH (j:=j) (by omega) ho);exact absurd this (h1 (j-1) (by omega) (by omega))
     ·omega
    subst agx;rw[ho]at Ks;obtain⟨p,ac,Lp,wq,h⟩:=start D a w (fun i hi RZ=>mW (D:=D) lz j (cv o) Ks hp i hi (by simpa using RZ)) h1 lz h2;exact h.next dv hok hq Gq Vp Qa gN ho pE hp fun a' w' h'=>hk a' w' (.inr h')
  ·exact h.next dv hok hq Gq Vp Qa gN ho pE hp fun a' w' h'=>hk a' w' (.inr h')
 ·rcases hJ with⟨h1,_⟩|⟨p,ac,Lp,wq,h⟩
  ·exact absurd Zp (h1 m (aN _) Zp)
  ·have rH:p=l.length:=by
    rcases cG p l.length with h3|h3
    ·have h4:=(h.dt p h3 (by have:=h.p0;omega)).1 h3;omega
    ·have:=h.p1;omega
   have vU:=h.tr;rw[rH,List.drop_length]at vU;exact⟨Lp,ds,by rw[h.yes (by show q<l.length;omega)];exact h.ag,vU⟩
 ·refine⟨(ax M wd).cH (fun _ h=>h.elim) (fun b ⟨p,hp,_,hb⟩=>oM p hp b hb),fun i o s _ _ h=>h.1.elim,ha.size,ha.defers,fun i o s e _ _ h=>h.1.elim,fun t v h _=>ha.at_ t v h,fun i o _ h=>h.1.elim⟩
theorem T.R0 {id:Nat} {l l':List Oper} (π:List Nat) (m q d:Nat) (c:Value) {oq:Oper} (F:List (Nat×aD)) (S:List (cT M)) (hm:P.follows .mixedOrders=true) (Ff:xK π l=l') (rI:eH l 0=true) (hπ:lA π l.length=true) (Tc:S.length=m) (qj:Nat.blt m l'.length=true) (dv:eH l' 0=true) (hok:tY l' m q d=true)
  (hq:l'[q]? =some oq) (Gq:oq.dst=some d) (Vp:jM oq.op=true) (Qa:oq.guard=none) (hS:S[q]? =some (cT.eq c)) (gN:∀(ρ:Operand→Value) w,(∀x u,ev (km l' q L) x=some u→ρ x=u)→(execOp ρ oq).run P w= .ok (.value c) w)
  (oM:∀p∈F,∀b,p.2 b→M b) (hFq:∀p∈F,p.1≠q) (vT:xF F l' S)
  (h:∀wD,(∀M,Step M w M wD aC)→bL P r n F wD l' S ds L l' S 0∧∀w',Step M wD M w' (jD (F.map (·.2)))→gw w' (fun acc=>sx P r n l'.toArray aC w' K 0 (l'.drop m) (acc++km l' l'.length L) ds w') l' S []):T P r n (.region id l.toArray true) L ds w K:=by
 subst Ff;exact gX.t hm rI fun wD hD=> .perm π hπ rI (.Vq m q d c F S Tc qj dv hok hq Gq Vp Qa hS gN oM hFq vT (h wD hD).1 (h wD hD).2)
theorem yJ {s:TypeId} {fs:Array Field} {fd:Field} {j size o o' b:Nat} {zv:Value} {bytes:Nat} {x:Operand} {dst:Option Tmp} {ty:TypeId} {pos:String} {af:Array Edge} {gd:Option (Nat×Bool)} (hu:P.underlying s=some (.struct fs)) (QV:fs[j]? =some fd) (ho:o+fd.offset=o') (hi:TI P fd.type zv size bytes) (hs:size≠0)
  {ρ:Operand→Value} (hx:ρ x= .pointer (some ⟨b,o,none⟩)) (w:World):(execOp ρ {dst,op:= .fieldAddr s x j,type:=ty,pos,after:=af,guard:=gd}).run P w= .ok (.value (.pointer (some ⟨b,o',none⟩))) w:=by
 simp only[execOp,hx];simp[Instr.fieldAt,run_underlying hu,QV,Instr.sureAddr,fieldPlace,hi.sizeOf,hs,←ho,wK]
end
end Go.K
namespace Go.K
open Go.Proofs
set_option maxRecDepth 10000
def ng:Int→List En→Int
 |last,[]=>last
 |_,e::L=>ng e.2 L
def qU:Int→List En→Bool
 |_,[]=>true
 |last,e::L=>decide (mT last e=0)&&qU e.2 L
theorem Nk:∀{L:List En} {last:Int} {i:Nat} {e:En},qU last L=true→L[i]? =some e→mT (ng last (L.take i)) e=0∧ng last (L.take (i+1))=e.2
 |[],_,_,_,_,h=>by simp at h
 |x::L,last,0,e,h,hi=>by
  simp only[qU,bW,decide_eq_true_eq]at h;simp at hi;subst hi;exact⟨by simpa[ng]using h.1,by simp[ng]⟩
 |x::L,last,i+1,e,h,hi=>by
  simp only[qU,bW,decide_eq_true_eq]at h;have:=Nk h.2 (by simpa using hi);simpa[ng]using this
theorem vu {last:Int} {e:En} (h:mT last e=0):kX e.1∧last<e.2:=by
 unfold mT at h
 split at h
 ·rename_i h1;exact absurd h h1
 ·rename_i h1
  split at h
  ·cases h
  ·exact⟨HI (by simpa using h1),by omega⟩
theorem jL:∀{L:List En} {last:Int},qU last L=true→∀e∈L,kX e.1
 |[],_,_,e,h=>by cases h
 |x::L,last,h,e,he=>by
  simp only[qU,bW,decide_eq_true_eq]at h;rcases cb.1 he with rfl|he
  ·exact(vu h.1).1
  ·exact jL h.2 e he
theorem AR:∀{L:List En} {last:Int},qU last L=true→eA last (L.map (·.2))=true
 |[],_,_=>rfl
 |x::L,last,h=>by
  simp only[qU,bW,decide_eq_true_eq]at h;simp only[dQ,eA,bW,decide_eq_true_eq];exact⟨(vu h.1).2,AR h.2⟩
def fk (L:List En):Pa:=(L.map (·.1.1),L.map (·.2),keysOf L,(keysOf L).map (pk L))
theorem Jk {x:List Po} (h:x≠[]):∃p∈x,D2 x=p.1:=by
 unfold D2
 cases hl:x.getLast? with
 |none=>exact absurd (List.getLast?_eq_none_iff.1 hl) h
 |some p=>exact⟨p,List.mem_of_getLast? hl,rfl⟩
theorem Nl {L:List En} (h:qU (-1) L=true) (hn:L.length≤1000000):zp (fk L)=true:=by
 have hF:=jL h;have h1:(keysOf L).map (pk L)=(fk L).2.2.2:=rfl;unfold zp;have e1:decide ((fk L).1.length=(fk L).2.1.length)=true:=by simp[fk]
 have e2:eA (-1) (fk L).2.1=true:=AR h;have e3:decide ((fk L).2.2.1.length=(fk L).2.2.2.length)=true:=by simp[fk]
 have e4:DR none (fk L).2.2.1=true:=UY (iX L)
 have e5:(fk L).2.2.2.all (fun x=> !nA ((fk L).1.length:Int) x)=true:=by
  refine fy.2 fun x hx=> ?_
  rw[←h1]at hx;obtain⟨k,hk,rfl⟩:=bP.1 hx;have eQ:pk L k≠[]:=F0 0 (jn.1 hk)
  have agy:(pk L k).isEmpty=false:=by
   cases h:pk L k with
   |nil=>exact absurd h eQ
   |cons a b=>rfl
  have ot:fS (-1) (pk L k)=true:=tW k L 0 (-1) hF (by omega) (by omega);obtain⟨p,hp,hl⟩:=Jk eQ;have:=(pf k L 0 hF).2 p hp;have hlen:((fk L).1.length:Int)=L.length:=by simp[fk]
  simp only[nA,ot,agy,hlen,hl];rw[decide_eq_false (by omega)];rfl
 rw[e1,e2,e3,e4,e5];rfl
theorem Qb {L:List En} (hF:∀e∈L,kX e.1) (hn:L.length≤1000000) (k:List UInt8):Room (pk L k):=by
 have h1:=pf k L 0 hF;have ot:fS (-1) (pk L k)=true:=tW k L 0 (-1) hF (by omega) (by omega);have jT:∀p∈pk L k,p.2.length≤500:=fun p hp=>(h1.2 p hp).2.2
 obtain⟨h2,h3⟩:=vh (pk L k) (-1) 500 (by omega) ot jT (by omega);have hl:(pk L k).length≤L.length:=h1.1;exact⟨fun p hp=>by have:=jT p hp;omega,by omega,by omega,by omega⟩
theorem HU {L:List En} (hF:∀e∈L,kX e.1) (hn:L.length≤1000000):Nc (fk L):=by
 have hk:(keysOf L).length≤500000000:=by
  have h1:=(iX L).nodup.length_le_of_subset (l₂:=iD L) (fun x hx=>jn.1 hx);have:=om hF;omega
 refine⟨by simp[fk];omega,by simp[fk];omega,by simp only[fk];omega,by simp[fk];omega,fun x hx=>?_⟩;obtain⟨k,_,rfl⟩:=bP.1 hx;exact Qb hF hn k
theorem Vr {M:aD} {w:World} {e:En} {v:Value} (h:RT.en.V M w e v):(-9223372036854775808≤e.1.1∧e.1.1≤9223372036854775807)∧ -9223372036854775808≤e.2∧e.2≤9223372036854775807:=by
 obtain⟨vs,⟨va,vb,_,⟨vc,vd,_,⟨_,h1⟩,_⟩,⟨_,h2⟩⟩,_⟩:=h;exact⟨h1,h2⟩
def ZP (B b:Nat) (vi vs:Value):aD:=fun k=>B≤k∧k≠b∧vi.ownBlock≠some k∧vs.ownBlock≠some k
theorem Own.R1 {κ:IntKind} {e:TypeId} {M M' N:aD} {w w':World} {base:Nat} {v:Value} {xs:List Int} (h:Own (RT.int κ) e (mS v) w base v xs) (s:Step M w M' w' N) (hn:∀c,v.ownBlock=some c→¬N c):Own (RT.int κ) e (mS v) w' base v xs:=
 ((h.O9 (M':=allM) (fun _ _=>trivial)).Xt s.all hn).lone
theorem Step.Zr {M M' N:aD} {w w':World} (s:Step M w M' w' N) {v:Value} (hv:∀b,v.ownBlock=some b→b<w'.heap.size∧(w.heap.size≤b∨M' b)):Step M w (jv M' v) w' N:=
 ⟨fun h k hk=>hk.elim (fun h1=>(hv k h1).1) (fun h1=>s.lt h k h1),s.os,s.tape,s.output,s.size,fun k hk=>⟨fun h=>by
  rcases h with h|h
  ·rcases(hv k h).2 with h1|h1
   ·omega
   ·exact(s.mem k hk).1 h1
  ·exact(s.mem k hk).1 h,fun h=> .inr ((s.mem k hk).2 h)⟩,s.same,s.sub⟩
end Go.K
namespace Go.K
open Go.Proofs
namespace TKSegA
theorem Zs:Enters Tryz.prog 104:=enters Tryz.func104 rfl (by decide)
theorem Vs:Enters Tryz.prog 116:=enters Tryz.func116 rfl (by decide)
end TKSegA
open TKSegA
set_option maxRecDepth 10000
def Jl (xs:List Int) (i:Int):Int:=if 0≤i∧i<xs.length then xs.getD i.toNat 0 else-1
theorem Nn {xs:List Int} {i:Nat} {x:Int} (h:xs[i]? =some x):Jl xs i=x:=by
 have:=(an.1 h).1;unfold Jl;rw[if_pos (by omega),ay,aA,h];rfl
theorem HV {M:aD} {xs:List Int} {v0:Value} {i:Int} (w0:World) (hv:((RT.int .i64).sl).V M w0 xs v0):
  Spec Tryz.prog 104 #[v0,.int .i64 i] w0 (fun v w=>v= .int .i64 (Jl xs i)∧w=w0):=by
 have hlen:=ej hv;refine bm (args:=[_,_]) (fn:=Tryz.f104) Tryz.func104 rfl (n:=17) Tryz.ntmps104 (aj (ae (ah rfl rfl (ab (aj (aj (ae (ad rfl rfl (cg rfl rfl rfl (ad rfl rfl ?_))))))))));refine aR (g:=7) rfl (fun iH=>?_) (fun iH=>?_)
 ·refine au rfl rfl rfl rfl (au rfl rfl rfl rfl (au rfl rfl rfl rfl (au rfl rfl rfl rfl (a8 rfl rfl rfl (ab (nG rfl (aj (ae (ah rfl rfl (ab (aQ ?_)))))))))));have e:Jl xs i= -1:=by unfold Jl;rw[if_neg (by omega)]
  exact aV rfl rfl ⟨by rw[e],rfl⟩
 ·refine al rfl rfl (ad rfl rfl (al rfl rfl (ad rfl rfl (al rfl rfl (bQ aq rfl hv rfl (al rfl rfl (dY rfl rfl rfl (aE rfl rfl rfl (ab ?_)))))))));refine bI rfl (fun c1=>?_) (fun c1=>?_)
  ·refine aj (ae (ah rfl rfl (ab (aQ ?_))));have e:Jl xs i= -1:=by unfold Jl;rw[if_neg (by omega)]
   exact aV rfl rfl ⟨by rw[e],rfl⟩
  ·refine aT (aj (ae (ad rfl rfl (ad rfl rfl ?_))));refine cF (M:=M) aq I3 rfl rfl rfl hv (ao _ _) (by omega) (fun u x hg hu=>?_);refine cd (M:=M) aw rfl rfl hu (ao _ _) (fun ku=>?_);refine ah rfl rfl (ab (aQ ?_));have e:Jl xs i=x:=by unfold Jl;rw[if_pos (by omega),aA,hg];rfl
   exact aV rfl rfl ⟨by rw[e],rfl⟩
theorem vv {M:aD} {s:Se} {v0:Value} (w0:World) (hs:cQ RT.se M w0 v0 s):
  Spec Tryz.prog 34 #[v0] w0 (fun v w=>v= .int .i64 (s.1.length:Int)∧w=w0):=by
 refine bm (args:=[_]) (fn:=Tryz.f34) Tryz.func34 rfl (n:=8) Tryz.ntmps34 (aj (ae (ah rfl rfl (ab (aj (ae (ad rfl rfl (bN rfl hs.ij rfl ?_))))))));refine aK (M:=M) (A:=RT.se) (B:=(RT.int .i64).sl) sm rfl rfl kD (by decide) se0 rfl rfl (by decide) hs (ao _ _) (fun F2 og=>?_);refine bR (M:=M) aq rfl rfl rfl rfl rfl og (ao _ _) (fun Jm pQ=>?_);replace pQ:((RT.int .i64).sl).V M _ s.1 Jm:=pQ;refine bQ aq rfl pQ rfl (ah rfl rfl (ab (aQ ?_)));exact aV rfl rfl ⟨rfl,rfl⟩
theorem No {M:aD} {s:Se} {i:Int} {v0:Value} (w0:World) (hs:cQ RT.se M w0 v0 s):
  Spec Tryz.prog 60 #[v0,.int .i64 i] w0 (fun v w=>v= .int .i64 (Jl s.1 i)∧w=w0):=by
 refine bm (args:=[_,_]) (fn:=Tryz.f60) Tryz.func60 rfl (n:=11) Tryz.ntmps60 (aj (ae (ah rfl rfl (ab (aj (ae (ad rfl rfl (bN rfl hs.ij rfl ?_))))))));refine aK (M:=M) (A:=RT.se) (B:=(RT.int .i64).sl) sm rfl rfl kD (by decide) se0 rfl rfl (by decide) hs (ao _ _) (fun F2 og=>?_);refine bR (M:=M) aq rfl rfl rfl rfl rfl og (ao _ _) (fun Jm pQ=>?_);replace pQ:((RT.int .i64).sl).V M _ s.1 Jm:=pQ;refine ad rfl rfl ?_;refine aY rfl rfl Zs (HV _ pQ) (fun r wc hc=>?_);obtain⟨rfl,rfl⟩:=hc;refine ah rfl rfl (ab (aQ ?_));exact aV rfl rfl ⟨rfl,rfl⟩
theorem AS {M:aD} {s:Se} {i:Int} {v0:Value} (w0:World) (hs:cQ RT.se M w0 v0 s):
  Spec Tryz.prog 58 #[v0,.int .i64 i] w0 (fun v w=>v= .int .i64 (Jl s.2.1 i)∧w=w0):=by
 refine bm (args:=[_,_]) (fn:=Tryz.f58) Tryz.func58 rfl (n:=11) Tryz.ntmps58 (aj (ae (ah rfl rfl (ab (aj (ae (ad rfl rfl (bN rfl hs.ij rfl ?_))))))));refine aK (M:=M) (A:=RT.se) (B:=(RT.int .i64).sl) sm rfl rfl kD (by decide) se1 rfl rfl (by decide) hs (ao _ _) (fun F2 og=>?_);refine bR (M:=M) aq rfl rfl rfl rfl rfl og (ao _ _) (fun Jm pQ=>?_);replace pQ:((RT.int .i64).sl).V M _ s.2.1 Jm:=pQ;refine ad rfl rfl ?_;refine aY rfl rfl Zs (HV _ pQ) (fun r wc hc=>?_);obtain⟨rfl,rfl⟩:=hc;refine ah rfl rfl (ab (aQ ?_));exact aV rfl rfl ⟨rfl,rfl⟩
theorem yK {α:Type} {p:α→Bool}:∀{xs:List α} {i:Nat},i≤xs.length→(∀(k:Nat) x,k<i→xs[k]? =some x→p x=true)→(∀(k:Nat) x,i≤k→xs[k]? =some x→p x=false)→xs.countP p=i
 |[],i,hi,_,_=>by simp at hi;simp[hi]
 |x::xs,0,_,_,h2=>by
  rw[List.countP_eq_zero.2];intro a ha;obtain⟨k,hk⟩:=bB.1 ha;simp[h2 k a (bD _) hk]
 |x::xs,i+1,hi,h1,h2=>by
  rw[List.countP_cons_of_pos (h1 0 x (by omega) rfl),yK (by simpa using hi) (fun k y hk hy=>h1 (k+1) y (by omega) (by simpa using hy)) (fun k y hk hy=>h2 (k+1) y (by omega) (by simpa using hy))]
end Go.K
namespace Go.K
open Go.Proofs
namespace TKSegB
theorem D1:TI Tryz.prog 196 (.slice none 0 0) 1 24:=by unfold TI;kernel_rfl
theorem agz:Enters Tryz.prog 125:=enters Tryz.func125 rfl (by decide)
theorem agA:Enters Tryz.prog 181:=enters Tryz.func181 rfl (by decide)
theorem agB:Enters Tryz.prog 182:=enters Tryz.func182 rfl (by decide)
end TKSegB
open TKSegB
set_option maxRecDepth 10000
def J4 (ns:List (List UInt8)) (k:List UInt8):Nat:=ns.countP fun x=>decide (x<k)
theorem Zt {ns:List (List UInt8)} (h:Cp ns) {i j:Nat} {x y:List UInt8} (jr:i≤j) (hx:ns[i]? =some x) (hy:ns[j]? =some y): ¬y<x:=by
 rcases ly jr with rfl|h1
 ·rw[hx]at hy;cases hy;exact iW x
 ·exact iO (ix h hx hy h1)
theorem BN {ns:List (List UInt8)} (h:Cp ns) {k:List UInt8}:(k∈ns→ns[J4 ns k]? =some k)∧∀x,ns[J4 ns k]? =some x→¬x<k:=by
 have key:∀{ns:List (List UInt8)},Cp ns→(k∈ns→ns[J4 ns k]? =some k)∧∀x,ns[J4 ns k]? =some x→¬x<k:=by
  intro ns
  induction ns with
  |nil=>exact fun _=>⟨(fun h=>by cases h),fun x h=>by simp at h⟩
  |cons y ns ih=>
   intro h;have h':=ey.1 h;by_cases hy:y<k
   ·have e:J4 (y::ns) k=J4 ns k+1:=by unfold J4;rw[List.countP_cons_of_pos (by simpa using hy)]
    rw[e];simp only[List.getElem?_cons_succ];refine⟨fun hk=>(ih h'.2).1 ?_,(ih h'.2).2⟩;rcases cb.1 hk with rfl|hk
    ·exact absurd hy (iW _)
    ·exact hk
   ·have il:∀x∈ns,¬x<k:=fun x hx dV=>hy (l2 (h'.1 x hx) dV)
    have e:J4 (y::ns) k=0:=by
     unfold J4;rw[List.countP_eq_zero];intro a ha;rcases cb.1 ha with rfl|ha
     ·simpa using hy
     ·simpa using il a ha
    rw[e];refine⟨fun hk=>?_,fun x hx=>by simp at hx;subst hx;exact hy⟩;rcases cb.1 hk with rfl|hk
    ·rfl
    ·exact absurd (h'.1 k hk) hy
 exact key h
def geN (ns:List (List UInt8)) (k:List UInt8) (i:Nat):Bool:=match ns[i]? with|some x=> !decide (x<k)|none=>true
theorem yL {ns:List (List UInt8)} {k x:List UInt8} {i:Nat} (h:ns[i]? =some x):geN ns k i= !decide (x<k):=by unfold geN;rw[h]
theorem Np {ns:List (List UInt8)} (h:Cp ns) {k:List UInt8}:ns[J4 ns k]? =some k↔k∈ns:=⟨fun h=>az h,(BN h).1⟩
theorem Gr {M:aD} {n:Nat} {g:FuncId} {cap:List Value} {good:Nat→Bool} (w0:World) (hg:Enters Tryz.prog g) (R2:∀i j,i≤j→j<n→good i=true→good j=true) (hn:n≤4611686018427387904) (ht:∀(i:Nat) w,i<n→Step M w0 M w aC→Spec Tryz.prog g ([.int .i64 (i:Int)]++cap:List Value).toArray w (fun v w'=>v= .bool (good i)∧Step M w M w' aC)):
  Spec Tryz.prog 181 #[.int .i64 (n:Int),.func (.func g) #[] cap.toArray] w0 (fun v w=>∃m:Nat,v= .int .i64 (m:Int)∧m≤n∧(∀i,i<m→good i=false)∧(∀i,m≤i→i<n→good i=true)∧Step M w0 M w aC):=by
 refine bm (args:=[_,_]) (fn:=Tryz.f181) Tryz.func181 rfl (n:=23) Tryz.ntmps181 (aj (ae (ah rfl rfl (ab (aj (ae (ah rfl rfl (ab (aj (aZ ?_))))))))));refine dn (σ:=Nat×Nat) (fun q=>[(0,.int .i64 (q.2:Int)),(1,.func (.func g) #[] cap.toArray),(5,.int .i64 (q.1:Int))]) (fun q w=>Step M w0 M w aC∧q.1≤q.2∧q.2≤n∧(∀i,i<q.1→good i=false)∧(∀i,q.2≤i→i<n→good i=true)) (fun q=>q.2-q.1) (0,n) (.cons rfl (.cons rfl (.cons rfl .nil))) ?_ ?_
 ·exact⟨ax _ _,bD _,aN _,fun i h=>absurd h (Nat.not_lt_zero _),fun i h h'=>by omega⟩
 ·rintro⟨i,j⟩ w ⟨S,jr,hj,h1,h2⟩;dsimp only at jr hj h1 h2 ⊢;refine aj (aj (ae (ad rfl rfl (ad rfl rfl (cg rfl rfl rfl (ab ?_))))));refine bI rfl (fun c2=>?_) (fun c2=>?_)
  ·refine aT (aZ (aj (ae (ad rfl rfl (ad rfl rfl (ad rfl rfl (fq rfl rfl rfl (by omega) (Rg.zu rfl rfl rfl (by omega) (bC rfl rfl rfl (by omega) (aU (v':= .int .i64 ((i+(j-i)/2:Nat):Int)) (congrArg _ (by omega)) (ah rfl rfl ?_)))))))))));refine ab (aj (ae (ad rfl rfl (ad rfl rfl ?_))));refine zr (first:=[]) (captured:=cap) (xs:=[.tmp 17]) rfl rfl rfl hg (vs:=[.int .i64 ((i+(j-i)/2:Nat):Int)]) (ht (i+(j-i)/2) _ (by omega) S) (fun r4 w4 hc=>?_);obtain⟨rfl,s4⟩:=hc;refine aU (v':= .bool (decide (good (i+(j-i)/2)=true))) (by simp) ?_;replace S:=S.aB s4;refine ab ?_;refine bI rfl (fun c4=>?_) (fun c4=>?_)
   ·refine ae (ad rfl rfl (ah rfl rfl (ab ?_)));refine⟨rfl,(i,i+(j-i)/2),(.cons rfl (.cons rfl (.cons rfl .nil))),?_,?_⟩
    ·exact⟨S,by dsimp only;omega,by dsimp only;omega,h1,fun k hk Gc=>R2 _ _ hk Gc c4⟩
    ·dsimp only;omega
   ·refine ae (ad rfl rfl (bC rfl rfl rfl (by omega) (ah rfl rfl (ab ?_))));refine⟨rfl,(i+(j-i)/2+1,j),(.cons rfl (.cons rfl (.cons rfl .nil))),?_,?_⟩
    ·exact⟨S,by dsimp only;omega,hj,fun k hk=>by
      cases h:good k with
      |false=>rfl
      |true=>exact absurd (R2 k (i+(j-i)/2) (by dsimp only at hk;omega) (by omega) h) c4,h2⟩
    ·dsimp only;omega
  ·refine cK (aj (ae (ad rfl rfl (ah rfl rfl (ab (aQ ?_))))));have e:i=j:=by omega
   subst e;exact aV rfl rfl ⟨i,rfl,hj,h1,h2,S⟩
theorem D5 {M:aD} {d:Di} {v0:Value} {i bd bk:Nat} {k x:List UInt8} (w0:World) (hd:cQ RT.di M w0 v0 d) (gd:w0.heap[bd]? =some (.cells #[v0] 139 (0,0))) (gk:w0.heap[bk]? =some (.cells #[sv k] 9 (0,0))) (hx:d.1[i]? =some x):
  Spec Tryz.prog 182 #[.int .i64 (i:Int),.pointer (some ⟨bd,0,none⟩),.pointer (some ⟨bk,0,none⟩)] w0 (fun v w=>v= .bool (!decide (x<k))∧Step M w0 M w aC):=by
 have hM:True:=trivial;refine bm (args:=[_,_,_]) (fn:=Tryz.f182) Tryz.func182 rfl (n:=14) Tryz.ntmps182 (aj (ae (ah rfl rfl (ab (aj ?_)))));apply uG mixed rfl rfl;intro IL K5;have lE:=K5 M;replace gd:=lE.aM gd;replace gk:=lE.aM gk;replace hd:=hd.le (by decide) lE.le;refine aP iF rfl rfl rfl gd rfl (aU (v':=v0) rfl ?_);refine ab ⟨rfl,rfl,rfl,?_⟩;refine bN rfl hd.ij rfl ?_;refine ab ⟨rfl,rfl,rfl,?_⟩;refine aK (M:=M) (A:=RT.di) (B:=RT.str.sl) jQ rfl rfl zn (by decide) WH rfl rfl (by decide) hd (ao _ _) (fun pn OF=>?_);refine ab ⟨rfl,rfl,rfl,?_⟩;refine bR (M:=M) aS rfl rfl rfl rfl rfl OF (ao _ _) (fun vn rQ=>?_);replace rQ:(RT.str.sl).V M _ d.1 vn:=rQ;refine ab ⟨rfl,rfl,rfl,?_⟩;refine ad rfl rfl ?_;refine ab ⟨rfl,rfl,rfl,?_⟩;have oN:=(an.1 hx).1;refine cF (M:=M) aS I9 rfl rfl rfl rQ (ao _ _) (by omega) (fun u a hg hu=>?_);obtain rfl:x=a:=aH (hx.symm.trans (by simpa using hg));refine ab ⟨rfl,rfl,rfl,?_⟩;refine bR (M:=M) aF rfl rfl rfl rfl rfl hu (ao _ _) (fun vx rq=>?_);obtain rfl:=fF rq;refine ab ⟨rfl,rfl,rfl,?_⟩;refine aP aF rfl rfl rfl gk rfl (aU (v':=sv k) rfl ?_);refine ab ⟨rfl,rfl,rfl,?_⟩;refine Rg.Ux rfl rfl rfl ?_;refine ab ⟨rfl,rfl,rfl,?_⟩;refine ah rfl rfl ?_;refine ab ⟨rfl,rfl,rfl,?_⟩;refine eZ (aQ ?_);exact aV rfl rfl ⟨by rw[decide_not],lE⟩
theorem Gt {M:aD} {d:Di} {v0:Value} {k:List UInt8} (w0:World) (hM:Lt M w0) (hd:cQ RT.di M w0 v0 d) (zQ:Cp d.1):
  Spec Tryz.prog 125 #[v0,sv k] w0 (fun v w=>v= .tuple #[.int .i64 (J4 d.1 k:Int),.bool (decide (k∈d.1))]∧Step M w0 M w aC):=by
 refine bm (args:=[_,_]) (fn:=Tryz.f125) Tryz.func125 rfl (n:=33) Tryz.ntmps125 ?_;have S:Step M w0 M w0 aC:=(ax _ _).cH (fun _ h=>h.elim) (fun _ h=>h.elim);refine aj (ae ?_);refine wM M rfl rfl (fun Qd agD ap8 ap9 ry Qe=>?_);replace ry:agD.heap[Qd]? =some (.cells #[v0] 139 (0,0)):=by rw[vr hd]at ry;exact ry
 obtain⟨Nq,Nr⟩:∃M',M'=ins M Qd:=⟨_,rfl⟩;rw[←Nr]at Qe;have vw:Nq Qd:=by rw[Nr];exact .inl rfl
 replace hd:=hd.le (by decide) Qe.le;replace hM:=Qe.lt hM;have:=S.size;replace S:=S.aB Qe;refine wM Nq rfl rfl (fun o6 FI Uf Ug fW ny=>?_);obtain⟨fw,mD⟩:∃M',M'=ins Nq o6:=⟨_,rfl⟩;rw[←mD]at ny;have fh:fw o6:=by rw[mD];exact .inl rfl
 change FI.heap[o6]? =some (.cells #[sv k] _ _)at fW;have:=ak ry;replace vw:=(ny.mem _ this).2 vw;replace ry:=ny.aM ry;replace hd:=hd.le (by decide) ny.le;replace hM:=ny.lt hM;have:=S.size;replace S:=S.aB ny;refine ah rfl rfl (ah rfl rfl (ab (aj (ae (aP iF rfl rfl rfl ry rfl (aU (v':=v0) rfl (bN rfl hd.ij rfl ?_)))))));refine aK (M:=fw) (A:=RT.di) (B:=RT.str.sl) jQ rfl rfl zn (by decide) WH rfl rfl (by decide) hd (ao _ _) (fun pn OF=>?_);refine bR (M:=fw) aS rfl rfl rfl rfl rfl OF (ao _ _) (fun vn rQ=>?_);replace rQ:(RT.str.sl).V fw _ d.1 vn:=rQ;have WA:=ej rQ;refine bQ aS rfl rQ rfl (kg (xs:=[]) (ys:=[.tmp 2,.tmp 3]) rfl rfl rfl ?_)
 refine aY rfl rfl agA (Gr (M:=fw) (n:=d.1.length) (cap:=[.pointer (some ⟨Qd,0,none⟩),.pointer (some ⟨o6,0,none⟩)]) (good:=geN d.1 k) _ agB (fun i j jr hj h=>by
  have hi:=ar (show i<d.1.length by omega);have rG:=ar hj;rw[yL hi]at h;rw[yL rG];simp only[iQ,decide_eq_false_iff_not]at h ⊢;intro dV;rcases jN d.1[i] d.1[j]with h1|h1|h1
  ·exact h (l2 h1 dV)
  ·rw[h1]at h;exact h dV
  ·exact Zt zQ jr hi rG h1) (by omega) (fun i w hi s=>by
  have hx:=ar hi;rw[yL hx];exact D5 w (hd.le (by decide) s.le) (s.aM ry) (s.aM fW) hx)) (fun r1 w1 hc=>?_)
 obtain⟨m,rfl,hm,hlo,hhi,s1⟩:=hc;have em:J4 d.1 k=m:=yK hm (fun i x hi hx=>by have:=hlo i hi;rw[yL hx]at this;simpa using this) (fun i x hi hx=>by have:=hhi i hi (an.1 hx).1;rw[yL hx]at this;simpa using this);have:=ak ry;replace vw:=(s1.mem _ this).2 vw;replace ry:=s1.aM ry;have:=ak fW;replace fh:=(s1.mem _ this).2 fh;replace fW:=s1.aM fW;replace hd:=hd.le (by decide) s1.le;replace hM:=s1.lt hM;have:=S.size;replace S:=S.aB s1;refine ah rfl rfl (ab (aj ?_));apply uG mixed rfl rfl;intro wD2 sA2;have Jn:=sA2 fw;have:=ak ry;replace vw:=(Jn.mem _ this).2 vw;replace ry:=Jn.aM ry;have:=ak fW;replace fh:=(Jn.mem _ this).2 fh;replace fW:=Jn.aM fW;replace hd:=hd.le (by decide) Jn.le;replace hM:=Jn.lt hM;have:=S.size;replace S:=S.aB Jn;refine ad rfl rfl ?_;refine ab ⟨rfl,rfl,rfl,?_⟩;refine ad rfl rfl ?_;refine ab ⟨rfl,rfl,rfl,?_⟩;refine aP iF rfl rfl rfl ry rfl (aU (v':=v0) rfl ?_);refine ab ⟨rfl,rfl,rfl,?_⟩;refine bN rfl hd.ij rfl ?_;refine ab ⟨rfl,rfl,rfl,?_⟩;refine aK (M:=fw) (A:=RT.di) (B:=RT.str.sl) jQ rfl rfl zn (by decide) WH rfl rfl (by decide) hd (ao _ _) (fun pn2 agE=>?_);refine ab ⟨rfl,rfl,rfl,?_⟩;refine bR (M:=fw) aS rfl rfl rfl rfl rfl agE (ao _ _) (fun vn2 Vt=>?_);replace Vt:(RT.str.sl).V fw _ d.1 vn2:=Vt;refine ab ⟨rfl,rfl,rfl,?_⟩;refine bQ aS rfl Vt rfl ?_;refine ab ⟨rfl,rfl,rfl,?_⟩;refine cg rfl rfl rfl ?_;refine ab ⟨rfl,rfl,rfl,?_⟩;refine ad rfl rfl ?_;refine ab ⟨rfl,rfl,rfl,?_⟩;refine aR (g:=22) rfl (fun agF=>?_) (fun agF=>?_)
 ·refine al rfl rfl (aP iF rfl rfl rfl ry rfl (aU (v':=v0) rfl ?_));refine ab ⟨rfl,rfl,rfl,?_⟩;refine al rfl rfl (bN rfl hd.ij rfl ?_);refine ab ⟨rfl,rfl,rfl,?_⟩;refine al rfl rfl ?_;refine aK (M:=fw) (A:=RT.di) (B:=RT.str.sl) jQ rfl rfl zn (by decide) WH rfl rfl (by decide) hd (ao _ _) (fun pn3 agG=>?_);refine ab ⟨rfl,rfl,rfl,?_⟩;refine al rfl rfl ?_;refine bR (M:=fw) aS rfl rfl rfl rfl rfl agG (ao _ _) (fun vn3 Vu=>?_);replace Vu:(RT.str.sl).V fw _ d.1 vn3:=Vu;refine ab ⟨rfl,rfl,rfl,?_⟩;refine al rfl rfl (ad rfl rfl ?_);refine ab ⟨rfl,rfl,rfl,?_⟩;refine al rfl rfl ?_;refine cF (M:=fw) aS I9 rfl rfl rfl Vu (ao _ _) (by omega) (fun u2 x hg2 wW=>?_);rw[ay]at hg2;refine ab ⟨rfl,rfl,rfl,?_⟩;refine al rfl rfl ?_;refine bR (M:=fw) aF rfl rfl rfl rfl rfl wW (ao _ _) (fun vx rq=>?_);obtain rfl:=fF rq;refine ab ⟨rfl,rfl,rfl,?_⟩;refine al rfl rfl (aP aF rfl rfl rfl fW rfl (aU (v':=sv k) rfl ?_));refine ab ⟨rfl,rfl,rfl,?_⟩;refine al rfl rfl (Rg.Hc rfl rfl rfl ?_);refine ab ⟨rfl,rfl,rfl,?_⟩;refine a8 rfl rfl rfl ?_;refine ab ⟨rfl,rfl,rfl,?_⟩;refine ah rfl rfl ?_;refine ab ⟨rfl,rfl,rfl,?_⟩;refine ah rfl rfl ?_;refine ab ⟨rfl,rfl,rfl,?_⟩;refine eZ (aQ ?_);rw[←em]at*
  first
  |(have e:decide (x=k)=decide (k∈d.1):=decide_eq_decide.2 (by rw[←Np zQ,hg2];simp)
    exact fm rfl rfl rfl ⟨by rw[e],S.back⟩)
  |(have e:k∉d.1:=fun h=>by have:=(BN zQ).1 h;have:=(an.1 this).1;omega
    exact fm rfl rfl rfl ⟨by rw[decide_eq_false e],S.back⟩)
 ·refine au rfl rfl rfl rfl ?_;refine ab ⟨rfl,rfl,rfl,?_⟩;refine au rfl rfl rfl rfl ?_;refine ab ⟨rfl,rfl,rfl,?_⟩;refine au rfl rfl rfl rfl ?_;refine ab ⟨rfl,rfl,rfl,?_⟩;refine au rfl rfl rfl rfl ?_;refine ab ⟨rfl,rfl,rfl,?_⟩;refine au rfl rfl rfl rfl ?_;refine ab ⟨rfl,rfl,rfl,?_⟩;refine au rfl rfl rfl rfl ?_;refine ab ⟨rfl,rfl,rfl,?_⟩;refine au rfl rfl rfl rfl ?_;refine ab ⟨rfl,rfl,rfl,?_⟩;refine au rfl rfl rfl rfl ?_;refine ab ⟨rfl,rfl,rfl,?_⟩;refine au rfl rfl rfl rfl ?_;refine ab ⟨rfl,rfl,rfl,?_⟩;refine aE rfl rfl rfl ?_;refine ab ⟨rfl,rfl,rfl,?_⟩;refine ah rfl rfl ?_;refine ab ⟨rfl,rfl,rfl,?_⟩;refine ah rfl rfl ?_;refine ab ⟨rfl,rfl,rfl,?_⟩;refine eZ (aQ ?_);rw[←em]at*
  first
  |(have e:decide (x=k)=decide (k∈d.1):=decide_eq_decide.2 (by rw[←Np zQ,hg2];simp)
    exact fm rfl rfl rfl ⟨by rw[e],S.back⟩)
  |(have e:k∉d.1:=fun h=>by have:=(BN zQ).1 h;have:=(an.1 this).1;omega
    exact fm rfl rfl rfl ⟨by rw[decide_eq_false e],S.back⟩)
theorem find_spec {M:aD} {d:Di} {v0:Value} {k:List UInt8} (w0:World) (hM:Lt M w0) (hd:cQ RT.di M w0 v0 d) (zQ:Cp d.1) (hl:d.1.length=d.2.length):
  Spec Tryz.prog 79 #[v0,sv k] w0 (fun v w=>Step M w0 M w aC∧((∃(j:Nat) (p:Value) (t:Li),v= .tuple #[p,.bool true]∧d.1[j]? =some k∧d.2[j]? =some t∧cQ RT.li M w p t)∨(v= .tuple #[.pointer none,.bool false]∧k∉d.1))):=by
 refine bm (args:=[_,_]) (fn:=Tryz.f79) Tryz.func79 rfl (n:=25) Tryz.ntmps79 ?_;have S:Step M w0 M w0 aC:=(ax _ _).cH (fun _ h=>h.elim) (fun _ h=>h.elim);refine aj (ae (ah rfl rfl (ah rfl rfl (ab (aj (ae (ad rfl rfl (ad rfl rfl ?_))))))));refine aY rfl rfl agz (Gt _ hM hd zQ) (fun r1 w1 hc=>?_);obtain⟨rfl,s1⟩:=hc;replace hd:=hd.le (by decide) s1.le;replace hM:=s1.lt hM;have:=S.size;replace S:=S.aB s1;refine ad rfl rfl (bZ rfl rfl rfl (bZ rfl rfl rfl (ah rfl rfl (ah rfl rfl (ab (aj (aj (ae (ad rfl rfl (mO rfl rfl (aU (v':= .bool (decide (k∉d.1))) (by simp) ?_)))))))))));refine ab ?_;refine bI rfl (fun c2=>?_) (fun c2=>?_)
 ·refine aj (ae (ah rfl rfl (ab (aj (ae (ad rfl rfl (ah rfl rfl (ah rfl rfl (ab (aQ ?_))))))))));exact fm rfl rfl rfl ⟨S,.inr ⟨rfl,c2⟩⟩
 ·refine aT (aj (ae (ad rfl rfl (bN rfl hd.ij rfl ?_))));refine aK (M:=M) (A:=RT.di) (B:=((RT.li).ptr).sl) jQ rfl rfl D1 (by decide) di1 rfl rfl (by decide) hd (ao _ _) (fun pt SL=>?_);refine bR (M:=M) ec rfl rfl rfl rfl rfl SL (ao _ _) (fun vt nJ=>?_);replace nJ:(((RT.li).ptr).sl).V M _ d.2 vt:=nJ;refine ad rfl rfl ?_;have hk:=(BN zQ).1 (dJ.1 c2);have Cl:=(an.1 hk).1;refine cF (M:=M) ec zB rfl rfl rfl nJ (ao _ _) (by omega) (fun u5 t IK jy=>?_);rw[ay]at IK;refine bR (M:=M) eW rfl rfl rfl rfl rfl jy (ao _ _) (fun vp Zu=>?_);have agI:=nf.1 Zu;refine ah rfl rfl (ah rfl rfl (ab (aQ ?_)));exact fm rfl rfl rfl ⟨S,.inl ⟨_,_,t,rfl,hk,IK,agI⟩⟩
end Go.K
namespace Go.K
open Go.Proofs
namespace TKSegC
theorem D1:TI Tryz.prog 196 (.slice none 0 0) 1 24:=by unfold TI;kernel_rfl
end TKSegC
open TKSegC
set_option maxRecDepth 10000
theorem Gu {M:aD} {d:Di} {vd:Value} {bi bd yl:Nat} {wv:World} {J:Nat→World→Prop} {Jx:World→Prop} (w0:World) (hd:cQ RT.di M wv vd d) (hl:d.1.length=d.2.length) (kF:∀i w w',J i w→Step aC w aC w' aC→J i w') (HQ:∀i w,J i w→w.heap[bi]? =some (.cells #[.int .i64 0] 3 (0,0))∧w.heap[bd]? =some (.cells #[vd] 139 (0,0))∧Le M wv M w) (hy:∀(i:Nat) (w:World) x t vt,J i w→d.1[i]? =some x→d.2[i]? =some t→cQ RT.li M w vt t→vW Tryz.prog yl [sv x,vt].toArray w (fun r w'=>∃b,r= .bool b∧(b=true→J (i+1) w')∧(b=false→Jx w'))) (h0:J 0 w0):
  Spec Tryz.prog 123 #[.func (.yield yl) #[] #[],.pointer (some ⟨bi,0,none⟩),.pointer (some ⟨bd,0,none⟩)] w0 (fun _ w=>J d.1.length w∨Jx w):=by
 refine bm (args:=[_,_,_]) (fn:=Tryz.f123) Tryz.func123 rfl (n:=33) Tryz.ntmps123 (aj (ae (aP aw rfl rfl rfl (HQ _ _ h0).1 rfl (aU (v':= .int .i64 0) rfl (Rg.max2 rfl rfl rfl (ah rfl rfl (ab (aZ ?_))))))));refine dn (σ:=Nat) (fun s=>[(0,.func (.yield yl) #[] #[]),(1,.pointer (some ⟨bi,0,none⟩)),(2,.pointer (some ⟨bd,0,none⟩)),(4,.int .i64 (s:Int))]) (fun s w=>J s w∧s≤d.1.length) (fun s=>d.1.length-s) 0 (.cons rfl (.cons rfl (.cons rfl (.cons rfl .nil)))) ?_ ?_
 ·exact⟨h0,bD _⟩
 ·rintro k w ⟨hJ,hk⟩;obtain⟨gi,gd,hle⟩:=HQ _ _ hJ;have hdl:d.1.length≤140737488355328:=by obtain⟨b,o,vs,_,_,⟨va,vb,_,⟨a,cap,_,_,h,_⟩,_⟩,_⟩:=hd;exact h
  refine aj (aj (ae (ad rfl rfl (aP iF rfl rfl rfl gd rfl (aU (v':=vd) rfl (bN rfl hd.ij rfl ?_))))));refine aK (M:=M) (A:=RT.di) (B:=RT.str.sl) jQ rfl rfl zn (by decide) WH rfl rfl (by decide) hd hle (fun pn OF=>?_);refine bR (M:=M) aS rfl rfl rfl rfl rfl OF (ao _ _) (fun vn rQ=>?_);replace rQ:(RT.str.sl).V M _ d.1 vn:=rQ;refine bQ aS rfl rQ rfl (cg rfl rfl rfl (ab ?_));refine bI rfl (fun c1=>?_) (fun c1=>?_)
  ·refine aT (aj (aZ (aj ?_)));apply T.Kr 15 mixed rfl rfl rfl rfl rfl;intro XP Ri;have qO:=Ri M;refine ad rfl rfl ?_;refine ab ⟨rfl,rfl,rfl,?_⟩;replace hJ:=kF _ _ _ hJ (Ri aC);clear gi gd hle;obtain⟨gi,gd,hle⟩:=HQ _ _ hJ;refine aP iF rfl rfl rfl gd rfl (aU (v':=vd) rfl ?_);refine ab ⟨rfl,rfl,rfl,?_⟩;refine bN rfl hd.ij rfl ?_;refine ab ⟨rfl,rfl,rfl,?_⟩;refine aK (M:=M) (A:=RT.di) (B:=RT.str.sl) jQ rfl rfl zn (by decide) WH rfl rfl (by decide) hd hle (fun pm Fc=>?_);refine ab ⟨rfl,rfl,rfl,?_⟩;refine bR (M:=M) aS rfl rfl rfl rfl rfl Fc (ao _ _) (fun vm hvm=>?_);replace hvm:(RT.str.sl).V M _ d.1 vm:=hvm;refine ab ⟨rfl,rfl,rfl,?_⟩;refine ad rfl rfl ?_;refine ab ⟨rfl,rfl,rfl,?_⟩;refine cF (M:=M) aS I9 rfl rfl rfl hvm (ao _ _) (by omega) (fun u3 x Oz Rz=>?_);rw[ay]at Oz;refine ab ⟨rfl,rfl,rfl,?_⟩;refine bR (M:=M) aF rfl rfl rfl rfl rfl Rz (ao _ _) (fun vx rq=>?_);obtain rfl:=fF rq;refine ab ⟨rfl,rfl,rfl,?_⟩;refine aP iF rfl rfl rfl gd rfl (aU (v':=vd) rfl ?_);refine ab ⟨rfl,rfl,rfl,?_⟩;refine bN rfl hd.ij rfl ?_;refine ab ⟨rfl,rfl,rfl,?_⟩;refine aK (M:=M) (A:=RT.di) (B:=((RT.li).ptr).sl) jQ rfl rfl D1 (by decide) di1 rfl rfl (by decide) hd hle (fun pt SL=>?_);refine ab ⟨rfl,rfl,rfl,?_⟩;refine bR (M:=M) ec rfl rfl rfl rfl rfl SL (ao _ _) (fun vt nJ=>?_);replace nJ:(((RT.li).ptr).sl).V M _ d.2 vt:=nJ;refine ab ⟨rfl,rfl,rfl,?_⟩;refine ad rfl rfl ?_;refine ab ⟨rfl,rfl,rfl,?_⟩;refine cF (M:=M) ec zB rfl rfl rfl nJ (ao _ _) (by omega) (fun u4 t we EW=>?_);rw[ay]at we;refine ab ⟨rfl,rfl,rfl,?_⟩;refine bR (M:=M) eW rfl rfl rfl rfl rfl EW (ao _ _) (fun vp Zu=>?_)
   refine ab ⟨rfl,rfl,rfl,?_⟩;refine eZ ?_;refine Rg.yield rfl (vs:=[sv x,vp]) rfl rfl (hy k _ x t vp hJ Oz we (nf.1 Zu)) (fun r5 w5 h5=>?_);obtain⟨b,rfl,Re,qE⟩:=h5;refine mO rfl rfl (aU (v':= .bool (decide (¬b=true))) (by simp) (ab ?_));refine bI rfl (fun c3=>?_) (fun c3=>?_)
   ·refine aQ ?_;exact Cv rfl (.inr (qE (by simpa using c3)))
   ·refine aT (ae (ad rfl rfl (bC rfl rfl rfl (by omega) (ah rfl rfl (ab ?_)))));refine⟨rfl,k+1,(.cons rfl (.cons rfl (.cons rfl (.cons rfl .nil)))),?_,?_⟩
    ·exact⟨Re (dJ.1 c3),by omega⟩
    ·omega
  ·refine cK ?_
   first|refine re ?_|simp+decide only[rf,jC,if_true,if_false]|skip
   have e:k=d.1.length:=by omega
   subst e;exact fU rfl (.inl hJ)
theorem Jo {M:aD} {d:Di} {vd:Value} (w0:World) (hM:Lt M w0) (hd:cQ RT.di M w0 vd d):
  Spec Tryz.prog 77 #[vd,.int .i64 0] w0 (fun v w=>∃bi bd,v= .func (.func 123) #[] [.pointer (some ⟨bi,0,none⟩),.pointer (some ⟨bd,0,none⟩)].toArray∧w.heap[bi]? =some (.cells #[.int .i64 0] 3 (0,0))∧w.heap[bd]? =some (.cells #[vd] 139 (0,0))∧w0.heap.size≤bi∧w0.heap.size≤bd∧Step M w0 M w aC):=by
 refine bm (args:=[_,_]) (fn:=Tryz.f77) Tryz.func77 rfl (n:=6) Tryz.ntmps77 (aj (ae ?_));refine wM M rfl rfl (fun bd w1 p1 q1 g1 s1=>?_);rw[vr hd]at g1;replace s1:=s1.back;refine wM M rfl rfl (fun bi w2 p2 q2 g2 s2=>?_);replace s2:=s2.back;replace g2:w2.heap[bi]? =some (.cells #[.int .i64 0] 3 (0,0)):=g2;refine ah rfl rfl (ab (aj (ae (kg (xs:=[]) (ys:=[.tmp 3,.tmp 2]) rfl rfl rfl (ah rfl rfl (ab (aQ ?_)))))));exact aV rfl rfl ⟨bi,bd,rfl,g2,s2.aM g1,by have:=s1.size;omega,p1,s1.aB s2⟩
end Go.K
namespace Go.K
open Go.Proofs
namespace TKSegD
theorem Gv:TI Tryz.prog 139 (.pointer none) 1 8:=by unfold TI;kernel_rfl
theorem E76:Enters Tryz.prog 76:=enters Tryz.func76 rfl (by decide)
theorem E77:Enters Tryz.prog 77:=enters Tryz.func77 rfl (by decide)
theorem Zv:Enters Tryz.prog 123:=enters Tryz.func123 rfl (by decide)
end TKSegD
open TKSegD
set_option maxRecDepth 10000
theorem Nt {M:aD} {w:World} {xs:List (List UInt8)} {v:Value} (h:(RT.str.sl).V M w xs v):∀x∈xs,x.length≤140737488355328:=fun x hx=>by
 obtain⟨a,cap,_,_,_,hs⟩:=iB.1 h;rcases hs with rfl|⟨b,o,_,_,he⟩
 ·cases hx
 ·obtain⟨i,hi⟩:=bB.1 hx;obtain⟨vs,⟨_,h1⟩,_⟩:=he i x hi;exact h1
theorem Nu {M:aD} {w:World} {v:Value} {d:Di} (h:cQ RT.di M w v d):(∀x∈d.1,x.length≤140737488355328)∧d.1.length≤140737488355328:=by
 obtain⟨b,o,vs,_,_,⟨va,vb,_,h1,_⟩,_⟩:=h;have hv:(RT.str.sl).V M w d.1 ((RT.str.sl).val va):=⟨va,h1,rfl⟩;exact⟨Nt hv,ej hv⟩
structure Nv {α:Type} (A:RT α) (e T:TypeId) (M:aD) (w0:World) (bo bi bd D:Nat) (vd:Value) (st:Loop) (vo:Value) (xs:List α) (M':aD) (w:World):Prop where
 lt:Lt M' w
 S:Step M w0 M' w aC
 o:w.heap[bo]? =some (.cells #[vo] T (0,0))
 mo:M' bo
 r:w.heap[D+1]? =some (.loop st)
 mr:M' (D+1)
 d:w.heap[D]? =some (.deferred (some []))
 md:M' D
 own:Own A e M' w w0.heap.size vo xs
 gi:w.heap[bi]? =some (.cells #[.int .i64 0] 3 (0,0))
 gd:w.heap[bd]? =some (.cells #[vd] 139 (0,0))
 fi: ¬M' bi
 fd: ¬M' bd
 z:w0.heap.size≤bo∧w0.heap.size≤D
section
variable {α:Type} {A:RT α} {e T:TypeId} {M M1 M2 N:aD} {w0 w w':World} {bo bi bd D:Nat} {vd:Value} {st:Loop} {vo:Value} {xs:List α}
theorem Nv.aL (h:Nv A e T M w0 bo bi bd D vd st vo xs M1 w) (s:Step M1 w M2 w' aC):Nv A e T M w0 bo bi bd D vd st vo xs M2 w':=
 ⟨s.lt h.lt,h.S.aB s,s.aM h.o,(s.mem _ (ak h.o)).2 h.mo,s.aM h.r,(s.mem _ (ak h.r)).2 h.mr,s.aM h.d,(s.mem _ (ak h.d)).2 h.md,h.own.aL s,s.aM h.gi,s.aM h.gd,fun hn=>h.fi ((s.mem _ (ak h.gi)).1 hn),fun hn=>h.fd ((s.mem _ (ak h.gd)).1 hn),h.z⟩
theorem Nv.o8 {st':Loop} (h:Nv A e T M w0 bo bi bd D vd st vo xs M1 w):Nv A e T M w0 bo bi bd D vd st' vo xs M1 (w.putObj (D+1) (.loop st')):=by
 have s:Step M1 w M1 (w.putObj (D+1) (.loop st')) (fun k=>k=D+1):=eC h.mr;obtain⟨z1,z2⟩:=h.z;refine⟨s.lt h.lt,h.S.cj s (fun k (hk:k=D+1)=>by omega),s.keep h.o (fun(hn:bo=D+1)=>by have h1:=h.o;rw[hn,h.r]at h1;cases h1),h.mo,World.putObj_heap_same (ak h.r),h.mr,s.keep h.d (fun(hn:D=D+1)=>by omega),h.md,h.own.step s (fun b hb (hn:b=D+1)=>?_),s.keep h.gi (fun(hn:bi=D+1)=>by have h1:=h.gi;rw[hn,h.r]at h1;cases h1),s.keep h.gd (fun(hn:bd=D+1)=>by have h1:=h.gd;rw[hn,h.r]at h1;cases h1),h.fi,h.fd,h.z⟩;obtain⟨cs,hc⟩:=h.own.isCells hb;rw[hn,h.r]at hc;cases hc
theorem Nv.grow {Nw:Value} {R3:List α} (hT:T≠e) (h:Nv A e T M w0 bo bi bd D vd st vo xs M1 w) (s:Step M1 w M2 w' (fK vo)) (ho:Own A e M2 w' w0.heap.size Nw R3):
  (w'.heap[bo]? =some (.cells #[vo] T (0,0))∧M2 bo)∧∀{w2:World},Step M2 w' M2 w2 (fun k=>k=bo)→w2.heap[bo]? =some (.cells #[Nw] T (0,0))→Nv A e T M w0 bo bi bd D vd st Nw R3 M2 w2:=by
 obtain⟨z1,z2⟩:=h.z
 have Gw:∀{b:Nat} {o:Obj},w.heap[b]? =some o→(∀cs fr,o≠ .cells cs e fr)→¬fK vo b:=fun {b o} hb eQ hn=>by
  obtain⟨⟨C,h1,_⟩,_⟩:=h.own;rcases h1.2 with h3|⟨g,cap,cur,h3,h4,h5,_⟩
  ·unfold fK at hn;rw[h3.1]at hn;cases hn
  ·unfold fK at hn;rw[h3]at hn;cases hn;rw[hb]at h5;exact eQ _ _ (aH h5)
 have nM:∀{b:Nat},¬M1 b→¬fK vo b:=fun hb hn=>hb (h.own.mut_ _ hn)
 have gy:=s.keep h.o (Gw h.o (fun cs fr hc=>by injection hc with _ h1 _;exact hT h1));have hr:=s.keep h.r (Gw h.r (fun cs fr hc=>by cases hc));have hd:=s.keep h.d (Gw h.d (fun cs fr hc=>by cases hc));have mI:=s.keep h.gi (nM h.fi);have pT:=s.keep h.gd (nM h.fd);have hfi: ¬M2 bi:=fun hn=>h.fi ((s.mem _ (ak h.gi)).1 hn)
 have QV: ¬M2 bd:=fun hn=>h.fd ((s.mem _ (ak h.gd)).1 hn)
 have OA:=(s.mem _ (ak h.o)).2 h.mo;refine⟨⟨gy,OA⟩,fun {w2} s2 hx=>⟨s2.lt (s.lt h.lt),(h.S.dg s h.own (aN _)).cj s2 (fun k (hk:k=bo)=>by omega),hx,OA,s2.keep hr (fun(hn:D+1=bo)=>by rw[hn,gy]at hr;cases hr),(s.mem _ (ak h.r)).2 h.mr,s2.keep hd (fun(hn:D=bo)=>by rw[hn,gy]at hd;cases hd),(s.mem _ (ak h.d)).2 h.md,ho.step s2 (fun b hb (hn:b=bo)=>ho.eO gy hT (by rw[←hn];exact hb)),s2.keep mI (fun(hn:bi=bo)=>hfi (by rw[hn];exact OA)),s2.keep pT (fun(hn:bd=bo)=>QV (by rw[hn];exact OA)),hfi,QV,h.z⟩⟩
end
theorem agK {α:Type} {A:RT α} {e T:TypeId} {M M1:aD} {w0 w:World} {bo bi bd:Nat} {vd:Value} {st:Loop} (hM:Lt M1 w) (S:Step M w0 M1 w aC) (go:w.heap[bo]? =some (.cells #[.slice none 0 0] T (0,0))) (mo:M1 bo) (gi:w.heap[bi]? =some (.cells #[.int .i64 0] 3 (0,0))) (gd:w.heap[bd]? =some (.cells #[vd] 139 (0,0))) (fi: ¬M1 bi) (fd: ¬M1 bd) (WT:w0.heap.size≤bo):
  ∃M',Nv A e T M w0 bo bi bd w.heap.size vd st (.slice none 0 0) [] M' ((w.alloc (.deferred (some []))).alloc (.loop st)):=by
 have sA:Step M1 w (ins M1 w.heap.size) (w.alloc (.deferred (some []))) aC:=(dm M1 w _).own (aN _) (by simp);have sB:Step (ins M1 w.heap.size) (w.alloc (.deferred (some []))) (ins (ins M1 w.heap.size) (w.heap.size+1)) ((w.alloc (.deferred (some []))).alloc (.loop st)) aC:=(dm _ _ _).own (by simp) (by simp);have hD:(w.alloc (.deferred (some []))).heap[w.heap.size]? =some (.deferred (some [])):=cr w _;have hR:((w.alloc (.deferred (some []))).alloc (.loop st)).heap[w.heap.size+1]? =some (.loop st):=by have:=cr (w.alloc (.deferred (some []))) (.loop st);rwa [World.size_alloc]at this
 have SS:=(S.aB sA).aB sB;have hi:=ak gi;have hd:=ak gd;refine⟨_,sB.lt (sA.lt hM),SS,sB.aM (sA.aM go),.inr (.inr mo),hR,.inl rfl,sB.aM hD,.inr (.inl rfl),dD _ _ _ _ _,sB.aM (sA.aM gi),sB.aM (sA.aM gd),?_,?_,WT,S.size⟩
 ·rintro(h|h|h)
  ·omega
  ·omega
  ·exact fi h
 ·rintro(h|h|h)
  ·omega
  ·omega
  ·exact fd h
theorem Gx {M:aD} {d:Di} {v0:Value} (w0:World) (hM:Lt M w0) (hd:cQ RT.di M w0 v0 d) (hdl:d.1.length=d.2.length) (hd6:d.1.length≤1000000000):
  Spec Tryz.prog 76 #[v0] w0 (fun v w=>(RT.str.sl).V M w d.1 v∧Step M w0 M w aC):=by
 have kR:=hM;obtain⟨Kb,_⟩:=Nu hd;refine qn (args:=[_]) (fn:=Tryz.f76) Tryz.func76 rfl (n:=14) Tryz.ntmps76 ?_;have S:Step M w0 M w0 aC:=(ax _ _).cH (fun _ h=>h.elim) (fun _ h=>h.elim);refine aj (ae (ah rfl rfl (ab (aj (ae ?_)))));refine eE M zn rfl (fun mz C2 TW TX jW nv=>?_);obtain⟨lu,mA⟩:∃M',M'=ins M mz:=⟨_,rfl⟩;rw[←mA]at nv;have iI:lu mz:=by rw[mA];exact .inl rfl
 change C2.heap[mz]? =some (.cells #[.slice none 0 0] _ _)at jW;replace hM:=nv.lt hM;have:=S.size;replace S:=S.aB nv;refine ab (aj (aj (ae (ad rfl rfl ?_))));refine aY rfl rfl E77 (Jo (M:=lu) _ hM (hd.le (by decide) nv.le)) (fun r2 w2 hc=>?_);obtain⟨bi,bd,rfl,gi,gd,Rf,hbd,s2⟩:=hc;have fi: ¬lu bi:=fun h=>by have:=hM _ h;omega
 have fd: ¬lu bd:=fun h=>by have:=hM _ h;omega
 replace fi: ¬lu bi:=fi;have:=ak jW;replace iI:=(s2.mem _ this).2 iI;replace jW:=s2.aM jW;replace hM:=s2.lt hM;have:=S.size;replace S:=S.aB s2;refine ab (aZ ?_);refine T.range (gf:=123) (lb:=[.pointer (some ⟨bi,0,none⟩),.pointer (some ⟨bd,0,none⟩)].toArray) rfl Zv (fun rec pS=>?_);obtain⟨D,hD⟩:∃D,D=w2.heap.size:=⟨_,rfl⟩;obtain⟨Mr,h0⟩:=agK (A:=RT.str) (e:=9) (st:=rec .ready none) hM S jW iI gi gd fi fd (by omega);rw[←hD]at pS h0 ⊢;refine Spec.mono (Gu (wv:=w0) (M:=M) (J:=fun i w=>∃M' vo,Nv (RT.str) 9 57 M w0 mz bi bd D v0 (rec .ready none) vo (d.1.take i) M' w) (Jx:=fun _=>False) _ hd hdl (fun i w w' ⟨M',vo,h⟩ s=>⟨M',vo,h.aL (s.any M')⟩) (fun i w ⟨M',vo,h⟩=>⟨h.gi,h.gd,h.S.back.le⟩) (fun i wr x t vt hJ hx ht hp=>?_) ⟨Mr,_,h0⟩) (fun _ w3 h3=>?_)
 ·obtain⟨M',vo,h⟩:=hJ;refine nT (ps:=[7,8]) (vs:=[sv x,vt]) pS h.r rfl (by decide) (ae (ah rfl rfl (ab ?_)));refine⟨rfl,h.r,?_⟩;have h4:=h.o8 (st':=rec .busy none);have s4:Step M' wr M' (wr.putObj (D+1) (.loop (rec .busy none))) (fun k=>k=D+1):=eC h.mr;generalize wr.putObj (D+1) _=w4 at h4 s4 ⊢;refine aZ (ae (aP aS rfl rfl rfl h4.o rfl (aU (v':=vo) rfl (ad rfl rfl ?_))));refine ep (A:=RT.str) (hn:=by decide) (M:=M') aS I9 (by decide) rfl rfl h4.lt (kI.2 ⟨rfl,Kb x (az hx)⟩) (.inr ⟨rfl,rfl⟩) (fun u5 w5 jy s5=>?_);have h6:=h4.aL s5;have oN:=(an.1 hx).1;refine dd (M:=M') (base:=w0.heap.size) aS I9 rfl rfl rfl rfl h6.own jy (ao _ _) (by simp;omega) (by simp;omega) h6.S.size (fun v6 M6 w6 tO s6=>?_);obtain⟨⟨go6,mo6⟩,JR⟩:=h6.grow (by decide) s6 tO;refine cw (M:=M6) zn rfl rfl go6 rfl (by obtain⟨_,_,he,_⟩:=tO.isSlice;rw[he];rfl) mo6 (fun w7 g7 s7=>?_);refine ab ?_;have h8:=(JR s7 g7).o8 (st':=rec .ready none);exact⟨(JR s7 g7).r,true,rfl,fun _=>⟨M6,v6,by rw[bV,hx,cE];exact h8⟩,fun h=>by cases h⟩
 ·obtain⟨M',vo,h⟩:=h3.resolve_right id;left;refine⟨h.r,?_⟩;have h5:=h.o8 (st':=rec .exhausted none);generalize w3.putObj (D+1) _=wE at h5 ⊢;refine aj (ae (aP aS rfl rfl rfl h5.o rfl (aU (v':=vo) rfl (ah rfl rfl (ab (aQ ?_))))));have sE:Step M' wE M' (wE.putObj D (.deferred none)) (fun k=>k=D):=eC h5.md;have hz:=h5.z;have hS:=h5.S.cj sE (fun k (hk:k=D)=>by omega)
  have ho:=h5.own.step sE (fun b hb (hn:b=D)=>by
   obtain⟨cs,hc⟩:=h5.own.isCells hb;rw[hn,h5.d]at hc;cases hc)
  rw[aW (aN _)]at ho;exact Bf rfl rfl h5.d ⟨ho.close kR hS (by omega),hS.back⟩
theorem Gy {M:aD} {s:Se} {v0:Value} (w0:World) (hM:Lt M w0) (hdl:s.2.2.1.length=s.2.2.2.length) (hd6:s.2.2.1.length≤1000000000) (hs:cQ RT.se M w0 v0 s):
  Spec Tryz.prog 38 #[v0] w0 (fun v w=>(RT.str.sl).V M w s.2.2.1 v∧Step M w0 M w aC):=by
 refine bm (args:=[_]) (fn:=Tryz.f38) Tryz.func38 rfl (n:=8) Tryz.ntmps38 (aj (ae (ah rfl rfl (ab (aj (ae (ad rfl rfl (bN rfl hs.ij rfl ?_))))))));refine aK (M:=M) (A:=RT.se) (B:=(RT.di).ptr) sm rfl rfl Gv (by decide) se2 rfl rfl (by decide) hs (ao _ _) (fun F2 og=>?_);refine bR (M:=M) iF rfl rfl rfl rfl rfl og (ao _ _) (fun vd Zw=>?_);refine aY rfl rfl E76 (Gx _ hM (nf.1 Zw) hdl hd6) (fun r wc hc=>?_);obtain hc:=hc;refine ah rfl rfl (ab (aQ ?_));exact aV rfl rfl hc
end Go.K
namespace Go.K
open Go.Proofs
namespace TKSegE
theorem Gv:TI Tryz.prog 139 (.pointer none) 1 8:=by unfold TI;kernel_rfl
theorem E79:Enters Tryz.prog 79:=enters Tryz.func79 rfl (by decide)
theorem E81:Enters Tryz.prog 81:=enters Tryz.func81 rfl (by decide)
end TKSegE
open TKSegE
set_option maxRecDepth 10000
def HW (ns:List (List UInt8)) (ls:List (List Po)) (k:List UInt8):List Po:=match (ns.zip ls).find? (fun p=>decide (p.1=k))with|some p=>p.2|none=>[]
theorem Gz {ns:List (List UInt8)} (hn:ns.Nodup) {ls:List (List Po)} {k:List UInt8} {j:Nat} {l:List Po} (h:ns[j]? =some k) (hl:ls[j]? =some l):HW ns ls k=l:=by
 have:∀{ns:List (List UInt8)} {ls:List (List Po)} {j:Nat},ns.Nodup→ns[j]? =some k→ls[j]? =some l→(ns.zip ls).find? (fun p=>decide (p.1=k))=some (k,l):=by
  intro ns
  induction ns with
  |nil=>intro ls j _ h;simp at h
  |cons x ns ih=>
   intro ls j hn h hl
   cases ls with
   |nil=>simp at hl
   |cons y ls=>
    cases j with
    |zero=>simp at h hl;subst h;subst hl;simp
    |succ j=>
     have IZ:=List.nodup_cons.1 hn;have hk:k∈ns:=az (by simpa using h);have hx:x≠k:=fun e=>IZ.1 (by rw[e];exact hk)
     rw[List.zip_cons_cons,List.find?_cons_of_neg (by simpa using hx)];exact ih IZ.2 (by simpa using h) (by simpa using hl)
 unfold HW;rw[this hn h hl]
theorem yM {ns:List (List UInt8)} {ls:List (List Po)} {k:List UInt8} (h:k∉ns):HW ns ls k=[]:=by
 unfold HW;rw[List.find?_eq_none.2 fun p hp=>by have:=List.of_mem_zip hp;simp;intro e;exact h (e▸this.1)]
theorem yN {L:List En} (k:List UInt8):HW (keysOf L) ((keysOf L).map (pk L)) k=pk L k:=by
 by_cases h:k∈keysOf L
 ·obtain⟨j,hj⟩:=bB.1 h;exact Gz (iX L).nodup hj (by rw[br,hj];rfl)
 ·rw[yM h];exact(BG 0 (fun h'=>h (jn.2 h'))).symm
theorem Vv (l:List Po):sG (mR l).2.1=(l.length:Int):=by
 show sG (nt l ((l.length+7)/8))=_;rw[Ar];congr 1;omega
def tZ (d:Di) (k:List UInt8) (M:aD) (v:Value) (w:World):Prop:=(∃(j:Nat) (t:Li),d.1[j]? =some k∧d.2[j]? =some t∧cQ RT.li M w v t)∨(v= .pointer none∧k∉d.1)
theorem tZ.step {d:Di} {k:List UInt8} {M M':aD} {v:Value} {w w':World} (h:tZ d k M v w) (s:Step M w M' w' aC):tZ d k M' v w':=h.imp (fun⟨j,t,h1,h2,h3⟩=>⟨j,t,h1,h2,h3.le (by decide) s.le⟩) id
theorem Jp {M:aD} {t:Fd} (w0:World) (hM:Lt M w0) (h1:t.1.length≤140737488355328) (h2:t.2.length≤140737488355328):
  Spec Tryz.prog 80 #[kv t] w0 (fun v w=>v= .string ⟨(dy t).toArray⟩∧Step M w0 M w aC):=by
 refine bm (args:=[_]) (fn:=Tryz.f80) Tryz.func80 rfl (n:=9) Tryz.ntmps80 ?_;have S:Step M w0 M w0 aC:=(ax _ _).cH (fun _ h=>h.elim) (fun _ h=>h.elim);refine aj (ae ?_);refine nP (A:=RT.fd) rfl rfl hM (Dt (by omega) (by omega)) rfl (fun u0 w1 dw s0 _=>?_);replace hM:=s0.lt hM;have:=S.size;replace S:=S.aB s0;refine ah rfl rfl (ab (aj (ae ?_)));refine aK (M:=M) (A:=RT.fd) (B:=RT.str) ck rfl rfl I9 (by decide) (Pn) rfl rfl (by decide) (by assumption) (by repeat (first|exact ao _ _|refine aX (bu (by assumption)) ?_)) (fun zF lK=>?_);refine bR (M:=M) aF rfl rfl rfl rfl rfl lK (ao _ _) (fun v1 zo=>?_);obtain rfl:=fF zo;refine Rg.cat (p:=t.1) (q:=[0]) rfl rfl rfl (by simp;omega) ?_;refine aK (M:=M) (A:=RT.fd) (B:=RT.str) ck rfl rfl I9 (by decide) (WC) rfl rfl (by decide) (by assumption) (by repeat (first|exact ao _ _|refine aX (bu (by assumption)) ?_)) (fun K6 j5=>?_);refine bR (M:=M) aF rfl rfl rfl rfl rfl j5 (ao _ _) (fun v4 qR=>?_);obtain rfl:=fF qR;refine Rg.cat (p:=t.1++[0]) (q:=t.2) rfl rfl rfl (by simp;omega) (ah rfl rfl (ab (aQ ?_)));exact aV rfl rfl ⟨rfl,S⟩
theorem wF {M:aD} {s:Se} {ls:List (List Po)} {t:Fd} {v0:Value} (w0:World) (hM:Lt M w0) (hs:cQ RT.se M w0 v0 s) (zQ:Cp s.2.2.1) (hls:s.2.2.2=ls.map mR) (hdl:s.2.2.1.length=ls.length) (h1:t.1.length≤140737488355328) (h2:t.2.length≤140737488355328):
  Spec Tryz.prog 35 #[v0,kv t] w0 (fun v w=>v= .int .i64 ((HW s.2.2.1 ls (dy t)).length:Int)∧Step M w0 M w aC):=by
 refine bm (args:=[_,_]) (fn:=Tryz.f35) Tryz.func35 rfl (n:=21) Tryz.ntmps35 ?_;have S:Step M w0 M w0 aC:=(ax _ _).cH (fun _ h=>h.elim) (fun _ h=>h.elim);refine aj (ae ?_);refine nP (A:=RT.fd) rfl rfl hM (Dt (by omega) (by omega)) rfl (fun u0 w1 dw s0 _=>?_);replace hs:=hs.le (by decide) s0.le;replace hM:=s0.lt hM;have:=S.size;replace S:=S.aB s0;refine ah rfl rfl (ab (aj ?_));apply T.draw (M:=M) mixed [cT.eq v0,cT.eq v0,cT.ptr ((RT.di).ptr) s.2.2,cT.ptr RT.di s.2.2,cT.eq (kv t),cT.eq (sv (dy t)),(cT.mk' (fun v w=>∃p,v= .tuple #[p,.bool (decide (dy t∈s.2.2.1))]∧tZ s.2.2 (dy t) M p w) (fun⟨p,h1,h2⟩ s=>⟨p,h1,h2.step s⟩)),(cT.mk' (fun v w=>∃p,v= .tuple #[p,.bool (decide (dy t∈s.2.2.1))]∧tZ s.2.2 (dy t) M p w) (fun⟨p,h1,h2⟩ s=>⟨p,h1,h2.step s⟩)),(cT.mk' (fun v w=>tZ s.2.2 (dy t) M v w) (fun h s=>h.step s)),cT.eq (.bool (decide (dy t∈s.2.2.1))),(cT.mk' (fun v w=>tZ s.2.2 (dy t) M v w) (fun h s=>h.step s)),cT.eq (.bool (decide (dy t∈s.2.2.1)))]
 ·rfl
 ·refine ca ?_ ?_
  ·intro wD E sD;refine ad rfl rfl ?_;exact ab ⟨rfl,rfl,_,rfl,rfl,ax _ _⟩
  refine ca ?_ ?_
  ·intro wD E sD;refine aO (bN rfl hs.ij rfl ?_);exact ab ⟨rfl,rfl,_,rfl,rfl,ax _ _⟩
  refine ca ?_ ?_
  ·intro wD E sD;refine aO ?_;refine aK (M:=M) (A:=RT.se) (B:=(RT.di).ptr) sm rfl rfl Gv (by decide) se2 rfl rfl (by decide) hs sD.le (fun uf Gl=>?_);exact ab ⟨rfl,rfl,_,rfl,Gl,ax _ _⟩
  refine ca ?_ ?_
  ·intro wD E sD;intro v2 Cn;refine bR (M:=M) iF rfl rfl rfl rfl rfl (show cQ ((RT.di).ptr) M wD v2 s.2.2 from Cn) (ao _ _) (fun vd Zw=>?_);exact ab ⟨rfl,rfl,_,rfl,nf.1 Zw,ax _ _⟩
  refine ca ?_ ?_
  ·intro wD E sD;refine cN (M:=M) (A:=RT.fd) ck rfl xX (by decide) rfl rfl rfl dw sD.le (fun vt nJ=>?_);obtain rfl:=nw nJ;exact ab ⟨rfl,rfl,_,rfl,rfl,ax _ _⟩
  refine ca ?_ ?_
  ·intro wD E sD;refine aO ?_;refine aY rfl rfl E80 (Jp (t:=t) _ (sD.lt hM) h1 h2) (fun r5 w5 hc=>?_);obtain⟨rfl,s5⟩:=hc;exact ab ⟨rfl,rfl,_,rfl,rfl,s5⟩
  refine ca ?_ ?_
  ·intro wD E sD;intro v3 xo;refine aO (aO ?_);refine aY rfl rfl E79 (find_spec (k:=dy t) _ (sD.lt hM) (show cQ RT.di M wD v3 s.2.2 from xo) zQ (by rw[hls,aG];exact hdl)) (fun r6 w6 hc=>?_);obtain⟨s6,hr⟩:=hc;refine ab ⟨rfl,rfl,_,rfl,?_,s6⟩;rcases hr with⟨j,p,tl,rfl,h3,h4,h5⟩|⟨rfl,h3⟩
   ·exact⟨p,by rw[decide_eq_true (az h3)],.inl ⟨j,tl,h3,h4,h5⟩⟩
   ·exact⟨_,by rw[decide_eq_false h3],.inr ⟨rfl,h3⟩⟩
  refine ca ?_ ?_
  ·intro wD E sD;intro v6 sN;refine ad rfl rfl ?_;exact ab ⟨rfl,rfl,_,rfl,sN,ax _ _⟩
  refine ca ?_ ?_
  ·intro wD E sD;intro v7 Bz;obtain⟨p,rfl,hp⟩:=Bz;refine bZ rfl rfl rfl ?_;exact ab ⟨rfl,rfl,_,rfl,hp,ax _ _⟩
  refine ca ?_ ?_
  ·intro wD E sD;intro v7 Bz;obtain⟨p,rfl,hp⟩:=Bz;refine bZ rfl rfl rfl ?_;exact ab ⟨rfl,rfl,_,rfl,rfl,ax _ _⟩
  refine ca ?_ ?_
  ·intro wD E sD;intro v8 HM;intro v6 sN;refine aO (aO ?_);intro v2 Cn;intro v3 xo;refine aO (aO ?_);intro v6 sN;intro v7 Bz;intro v8 HM;refine ah rfl rfl ?_;exact ab ⟨rfl,rfl,_,rfl,HM,ax _ _⟩
  refine ca ?_ ?_
  ·intro wD E sD;refine aO ?_;intro v10 Vg;refine aO (aO ?_);intro v2 Cn;intro v3 xo;refine aO (aO ?_);intro v6 sN;intro v7 Bz;intro v8 HM;refine aO ?_;intro v10 Vg;refine ah rfl rfl ?_;exact ab ⟨rfl,rfl,_,rfl,rfl,ax _ _⟩
  exact dR.nil
 ·intro IL lE;refine aO (aO ?_);intro Jm pQ;intro aeR RF;refine aO (aO ?_);intro aqg alz;intro YZ RR;intro aqh alA;refine aO ?_;intro R4 yO;refine aO ?_;replace yO:tZ s.2.2 (dy t) M R4 IL:=yO;have hF:=yO;replace hM:=lE.lt hM;replace S:=S.aB lE;replace hs:=hs.le (by decide) lE.le;replace dw:=dw.le (by decide) lE.le;refine aj (aj (ae (ad rfl rfl (mO rfl rfl (aU (v':= .bool (decide (dy t∉s.2.2.1))) (by simp) (ab ?_))))));refine bI rfl (fun c2=>?_) (fun c2=>?_)
  ·refine aj (ae (ah rfl rfl (ab (aQ ?_))));have e:HW s.2.2.1 ls (dy t)=[]:=yM c2;exact aV rfl rfl ⟨by rw[e];rfl,S⟩
  ·refine aT (aj (ae (ad rfl rfl ?_)));obtain⟨j,tl,TZ,rG,ET⟩:=hF.resolve_right (fun h=>h.2 (dJ.1 c2));rw[hls,br]at rG;obtain⟨l,O0,rfl⟩:=Option.map_eq_some_iff.1 rG;refine aY rfl rfl E81 (MR ET hM (IB _ _)) (fun r4 w4 hc=>?_);obtain⟨rfl,s4⟩:=hc;replace hs:=hs.le (by decide) s4.le;replace dw:=dw.le (by decide) s4.le;replace hM:=s4.lt hM;have:=S.size;replace S:=S.aB s4;refine ah rfl rfl (ab (aQ ?_));have e:HW s.2.2.1 ls (dy t)=l:=Gz zQ.nodup TZ O0;exact aV rfl rfl ⟨by rw[e,Vv],S⟩
end Go.K
namespace Go.K
open Go.Proofs
namespace TKAdv
theorem zM:TI Tryz.prog 80 (.slice none 0 0) 1 24:=by unfold TI;kernel_rfl
theorem Zx:Enters Tryz.prog 180:=enters Tryz.func180 rfl (by decide)
end TKAdv
open TKAdv
set_option maxRecDepth 10000
end Go.K
namespace Go.K
open Go.Proofs
namespace TKErsA
theorem Gv:TI Tryz.prog 139 (.pointer none) 1 8:=by unfold TI;kernel_rfl
theorem E79:Enters Tryz.prog 79:=enters Tryz.func79 rfl (by decide)
theorem Vi:Enters Tryz.prog 145:=enters Tryz.func145 rfl (by decide)
end TKErsA
open TKErsA
set_option maxRecDepth 10000
end Go.K
namespace Go.K
open Go.Proofs
namespace TKErsB
theorem E58:Enters Tryz.prog 58:=enters Tryz.func58 rfl (by decide)
end TKErsB
open TKErsB
set_option maxRecDepth 10000
end Go.K
namespace Go.K
open Go.Proofs
set_option maxRecDepth 10000
structure Nx {α:Type} (A:RT α) (e T C:TypeId) (K:aD→World→Prop) (M:aD) (w0:World) (bo D:Nat) (st:Loop) (vo:Value) (xs:List α) (M':aD) (w:World):Prop where
 lt:Lt M' w
 S:Step M w0 M' w aC
 o:w.heap[bo]? =some (.cells #[vo] T (0,0))
 mo:M' bo
 r:w.heap[D+1]? =some (.loop st)
 mr:M' (D+1)
 d:w.heap[D]? =some (.deferred (some []))
 md:M' D
 own:Own A e M' w w0.heap.size vo xs
 k:K M' w
 z:w0.heap.size≤bo∧w0.heap.size≤D
section
variable {α:Type} {A:RT α} {e T C:TypeId} {K:aD→World→Prop} {M M1 M2 N:aD} {w0 w w':World} {bo D:Nat} {st:Loop} {vo:Value} {xs:List α}
theorem Nx.aL (hK:∀{M w M' w'},K M w→Le M w M' w'→K M' w') (h:Nx A e T C K M w0 bo D st vo xs M1 w) (s:Step M1 w M2 w' aC):Nx A e T C K M w0 bo D st vo xs M2 w':=
 ⟨s.lt h.lt,h.S.aB s,s.aM h.o,(s.mem _ (ak h.o)).2 h.mo,s.aM h.r,(s.mem _ (ak h.r)).2 h.mr,s.aM h.d,(s.mem _ (ak h.d)).2 h.md,h.own.aL s,hK h.k s.le,h.z⟩
theorem Nx.o8 (hK:∀{M w M' w'},K M w→Le M w M' w'→K M' w') {st':Loop} (h:Nx A e T C K M w0 bo D st vo xs M1 w):Nx A e T C K M w0 bo D st' vo xs M1 (w.putObj (D+1) (.loop st')):=by
 have s:Step M1 w M1 (w.putObj (D+1) (.loop st')) (fun k=>k=D+1):=eC h.mr;obtain⟨z1,z2⟩:=h.z;refine⟨s.lt h.lt,h.S.cj s (fun k (hk:k=D+1)=>by omega),s.keep h.o (fun(hn:bo=D+1)=>by have h1:=h.o;rw[hn,h.r]at h1;cases h1),h.mo,World.putObj_heap_same (ak h.r),h.mr,s.keep h.d (fun(hn:D=D+1)=>by omega),h.md,h.own.step s (fun b hb (hn:b=D+1)=>?_),hK h.k s.le,h.z⟩;obtain⟨cs,hc⟩:=h.own.isCells hb;rw[hn,h.r]at hc;cases hc
theorem Nx.grow (hK:∀{M w M' w'},K M w→Le M w M' w'→K M' w') {Nw:Value} {R3:List α} (hT:T≠e) (h:Nx A e T C K M w0 bo D st vo xs M1 w) (s:Step M1 w M2 w' (fK vo)) (ho:Own A e M2 w' w0.heap.size Nw R3):
  (w'.heap[bo]? =some (.cells #[vo] T (0,0))∧M2 bo)∧∀{w2:World},Step M2 w' M2 w2 (fun k=>k=bo)→w2.heap[bo]? =some (.cells #[Nw] T (0,0))→Nx A e T C K M w0 bo D st Nw R3 M2 w2:=by
 obtain⟨z1,z2⟩:=h.z
 have Gw:∀{b:Nat} {o:Obj},w.heap[b]? =some o→(∀cs fr,o≠ .cells cs e fr)→¬fK vo b:=fun {b o} hb eQ hn=>by
  obtain⟨⟨C,h1,_⟩,_⟩:=h.own;rcases h1.2 with h3|⟨g,cap,cur,h3,h4,h5,_⟩
  ·unfold fK at hn;rw[h3.1]at hn;cases hn
  ·unfold fK at hn;rw[h3]at hn;cases hn;rw[hb]at h5;exact eQ _ _ (aH h5)
 have gy:=s.keep h.o (Gw h.o (fun cs fr hc=>by injection hc with _ h1 _;exact hT h1));have hr:=s.keep h.r (Gw h.r (fun cs fr hc=>by cases hc));have hd:=s.keep h.d (Gw h.d (fun cs fr hc=>by cases hc));have OA:=(s.mem _ (ak h.o)).2 h.mo;refine⟨⟨gy,OA⟩,fun {w2} s2 hx=>⟨s2.lt (s.lt h.lt),(h.S.dg s h.own (aN _)).cj s2 (fun k (hk:k=bo)=>by omega),hx,OA,s2.keep hr (fun(hn:D+1=bo)=>by rw[hn,gy]at hr;cases hr),(s.mem _ (ak h.r)).2 h.mr,s2.keep hd (fun(hn:D=bo)=>by rw[hn,gy]at hd;cases hd),(s.mem _ (ak h.d)).2 h.md,ho.step s2 (fun b hb (hn:b=bo)=>ho.eO gy hT (by rw[←hn];exact hb)),hK (hK h.k s.le) s2.le,h.z⟩⟩
end
theorem agO {α:Type} {A:RT α} {e T C:TypeId} {K:aD→World→Prop} {M M1:aD} {w0 w:World} {bo:Nat} {st:Loop} (hK:∀{M w M' w'},K M w→Le M w M' w'→K M' w') (hM:Lt M1 w) (S:Step M w0 M1 w aC) (go:w.heap[bo]? =some (.cells #[.slice none 0 0] T (0,0))) (mo:M1 bo) (hk:K M1 w) (WT:w0.heap.size≤bo):
  ∃M',Nx A e T C K M w0 bo w.heap.size st (.slice none 0 0) [] M' ((w.alloc (.deferred (some []))).alloc (.loop st)):=by
 have sA:Step M1 w (ins M1 w.heap.size) (w.alloc (.deferred (some []))) aC:=(dm M1 w _).own (aN _) (by simp);have sB:Step (ins M1 w.heap.size) (w.alloc (.deferred (some []))) (ins (ins M1 w.heap.size) (w.heap.size+1)) ((w.alloc (.deferred (some []))).alloc (.loop st)) aC:=(dm _ _ _).own (by simp) (by simp);have hD:(w.alloc (.deferred (some []))).heap[w.heap.size]? =some (.deferred (some [])):=cr w _;have hR:((w.alloc (.deferred (some []))).alloc (.loop st)).heap[w.heap.size+1]? =some (.loop st):=by have:=cr (w.alloc (.deferred (some []))) (.loop st);rwa [World.size_alloc]at this
 exact⟨_,sB.lt (sA.lt hM),(S.aB sA).aB sB,sB.aM (sA.aM go),.inr (.inr mo),hR,.inl rfl,sB.aM hD,.inr (.inl rfl),dD _ _ _ _ _,hK (hK hk sA.le) sB.le,WT,S.size⟩
end Go.K

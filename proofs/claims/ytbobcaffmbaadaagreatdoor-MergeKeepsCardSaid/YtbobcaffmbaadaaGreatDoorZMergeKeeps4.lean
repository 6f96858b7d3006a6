/- What the law 'MergeKeeps' needs of walks and plain Lean, part 4: nothing is assumed beyond the texts that it imports. -/
import Derived.KernelRfl
import Derived.Test.YtbobcaffmbaadaaGreatDoorProg
import Derived.Test.YtbobcaffmbaadaaGreatDoorZMergeKeeps1
import Derived.Test.YtbobcaffmbaadaaGreatDoorZMergeKeeps2
import Derived.Test.YtbobcaffmbaadaaGreatDoorZMergeKeeps3
set_option linter.unusedVariables false
set_option linter.unusedSimpArgs false
namespace Go.K
open Go.Proofs
namespace TKBldE
theorem yB:TI Tryz.prog 80 (.slice none 0 0) 1 24:=by unfold TI;kernel_rfl
theorem Ga:TI Tryz.prog 151 (.map none) 1 8:=by unfold TI;kernel_rfl
theorem PX:Enters Tryz.prog 51:=enters Tryz.func51 rfl (by decide)
theorem E90:Enters Tryz.prog 90:=enters Tryz.func90 rfl (by decide)
theorem E91:Enters Tryz.prog 91:=enters Tryz.func91 rfl (by decide)
end TKBldE
open TKBldE
set_option maxRecDepth 10000
theorem fE.HI {P:Program} {kt:TypeId} {w:World} {b clock:Nat} {es:List MapEntry} (hk:P.underlying kt=some .string) (h:fE P kt w b es clock):∃ks:List (List UInt8),es.map (·.key)=ks.map sv∧ks.Nodup:=by
 have key:∀es:List MapEntry,(∀e∈es,∃l,keyOf P kt e.key=some l)→∃ks:List (List UInt8),es.map (·.key)=ks.map sv:=by
  intro es
  induction es with
  |nil=>exact fun _=>⟨[],rfl⟩
  |cons e es ih=>
   intro h;obtain⟨ks,h1⟩:=ih fun x hx=>h x (bZ _ hx)
   obtain⟨l,hl⟩:=h e (bK ..);obtain⟨x,h3,_,h4⟩:=Maps.keyOf_str hk hl;exact⟨x::ks,by simp only[eR,h1,h3]⟩
 obtain⟨ks,h1⟩:=key es h.ok;refine⟨ks,h1,?_⟩;have h3:=cA.2 h.keys;rw[h1]at h3;exact(cA.1 h3).imp fun h e=>h (by rw[e])
theorem DQ {M:aC} {w:World}:∀{l:List (List UInt8)},(∀x∈l,x.length≤140737488355328)→dZ RT.str M w l (l.map Go.Proofs.encStr)
 |[],_=>rfl
 |x::l,h=>⟨[.string ⟨x.toArray⟩],_,rfl,⟨rfl,h x (bK ..)⟩,DQ fun y hy=>h y (bZ _ hy)⟩
theorem ME (M:aC) (w:World) (M':aC) (w':World) (x:List UInt8) (vs:List Value) (h:RT.str.R M w x vs):RT.str.R M' w' x vs:=h
theorem wu {L:List En} (hF:∀x∈L,kP x.1):∀k∈iL L,k.length≤43:=fun k hk=>by
 obtain⟨e,he,h1⟩:=uB.1 hk;obtain⟨t,ht,rfl⟩:=ca.1 h1;have:=(hF e he).term ht;unfold gE;simp;omega
theorem nZ {L:List En} (hF:∀x∈L,kP x.1):(iL L).length≤500*L.length:=by
 induction L with
 |nil=>simp[iL]
 |cons e L ih=>
  have h1:=ih fun x hx=>hF x (bZ _ hx)
  have h2:=AI (hF e (bK ..));show((cY (pC e)).map gE++iL L).length≤_;rw[bj,aH,cM];have h2:(cY (pC e)).length≤500:=h2;omega
theorem Gd {Z M:aC} {B b:Nat} {L:List En} {words last:Int} (w0:World) (hM:Lt M w0) (hb:nY Z M w0 B b L words last) (hF:∀x∈L,kP x.1) (hLn:L.length≤1000000):
  Spec Tryz.prog 41 #[.pointer (some ⟨b,0,none⟩)] w0 (fun v w=>(RT.str.sl).V M w (keysOf L) v∧Step M w0 M w aD):=by
 obtain⟨mb,vl,es,clock,gb,eh,eY,hB,HE,ho,hW,hR,zl⟩:=hb;obtain⟨ks,PG,om⟩:=hW.HI aJ
 have eL:∀x,x∈ks↔x∈iL L:=fun x=>by
  rw[←hR.k x];constructor
  ·intro hx;have:sv x∈es.map (·.key):=by rw[PG];exact hY hx
   obtain⟨e,he,h⟩:=ca.1 this;exact⟨e,he,h⟩
  ·rintro⟨e,he,h⟩;have:sv x∈ks.map sv:=by rw[←PG,←h];exact hY he
   obtain⟨y,hy,h1⟩:=ca.1 this;rw[←BC h1];exact hy
 have Ge:ks.length≤500000000:=by
  have h1:=om.length_le_of_subset (l₂:=iL L) (fun x hx=>(eL x).1 hx);have h2:=nZ hF;omega
 have hen:es.length=ks.length:=by have:=congrArg List.length PG;simpa using this
 refine bg (args:=[_]) (fn:=Tryz.f41) Tryz.func41 rfl (n:=9) Tryz.ntmps41 ?_;have S:Step M w0 M w0 aD:=(aw _ _).cF (fun _ h=>h.elim) (fun _ h=>h.elim);refine aj (ae (ah rfl rfl (ab (aj (ae (ad rfl rfl (bQ rfl ⟨_,rfl⟩ rfl (bO (o':=1) dP rfl rfl Ga (by decide) rfl rfl (aP iM rfl rfl rfl gb rfl (aU (v':= .map (some mb)) rfl ?_))))))))));refine aW rfl rfl E91 (F7 _ _) (fun r w1 hc=>?_);obtain⟨rfl,hw1⟩:=hc;have s1:Step M w0 M w1 aD:=by rw[hw1];exact cQ _ w0 _
 have L0:=zP hw1;have:=ak gb;replace eh:=(s1.mem _ this).2 eh;replace gb:=s1.aK gb;replace eY:=(s1.mem _ (ak hW.at_)).2 eY;replace hW:=hW.aM s1;replace hM:=s1.lt hM;have:=S.size;replace S:=S.aB s1;obtain⟨m,hO,DR,pZ⟩:=hW.aeM aJ eY (by unfold maxLen;omega) ks PG;refine aW rfl rfl E90 (BG hO L0 (by omega)) (fun r2 w2 hc=>?_);obtain⟨⟨ss,hss,pK,_⟩,s2⟩:=hc;have SO:ss.Perm ks:=hss.trans DR;have hmp:=jd ss fun x y=>decide (x≤y)
 have pz:(ss.mergeSort fun x y=>decide (x≤y))=keysOf L:=Ux (I7 (SO.nodup_iff.2 om)) (kX L) fun x=>by rw[hmp.mem_iff,SO.mem_iff,eL,jr]
 have hlen:ss.length=(keysOf L).length:=by rw[←pz,List.length_mergeSort]
 rw[pz,hlen]at pK;have afq:∀x∈keysOf L,x.length≤140737488355328:=fun x hx=>by have:=wu hF x (jr.1 hx);omega
 have uH:Own RT.str 9 (mL r2) w2 w1.heap.size r2 (keysOf L):=⟨⟨_,pK,DQ afq⟩,fun b hb=>hb⟩;have CX:(RT.str.sl).V M w2 (keysOf L) r2:=uH.tell ME (fun b hb h=>by have:=(uH.base b hb).1;have:=hM b h;omega) (by have:=SO.length_eq;omega);have:=ak gb;replace eh:=(s2.mem _ this).2 eh;replace gb:=s2.aK gb;replace eY:=(s2.mem _ (ak hW.at_)).2 eY;replace hW:=hW.aM s2;replace hM:=s2.lt hM;have:=S.size;replace S:=S.aB s2;refine ah rfl rfl (ab (aQ ?_));exact aV rfl rfl ⟨CX,S⟩
theorem Gf {Z M:aC} {B b:Nat} {L:List En} {words last:Int} {k:List UInt8} (w0:World) (hM:Lt M w0) (hb:nY Z M w0 B b L words last) (hF:∀x∈L,kP x.1) (hLn:L.length≤1000000) (Fb:k.length≤140737488355328):
  Spec Tryz.prog 42 #[.pointer (some ⟨b,0,none⟩),sv k] w0 (fun v w=>(RT.po.sl).V M w (pk L k) v∧Step M w0 M w aD):=by
 have kr:=hM;obtain⟨mb,vl,es,clock,gb,eh,eY,hB,HE,ho,hW,hR,zl⟩:=hb;obtain⟨kl,SX⟩:=Mf k Fb;obtain⟨sV,PY⟩:=qs k L 0 hF;replace sV:(pk L k).length≤L.length:=sV;replace PY:∀p∈pk L k,_:=PY;refine bg (args:=[_,_]) (fn:=Tryz.f42) Tryz.func42 rfl (n:=30) Tryz.ntmps42 ?_;have S:Step M w0 M w0 aD:=(aw _ _).cF (fun _ h=>h.elim) (fun _ h=>h.elim);refine aj (ae (ah rfl rfl (ab (aj (ae (ah rfl rfl (ab (aj (aj (ae (ad rfl rfl ?_)))))))))));refine bQ rfl ⟨_,rfl⟩ rfl (bO (o':=1) dP rfl rfl Ga (by decide) rfl rfl (aP iM rfl rfl rfl gb rfl (aU (v':= .map (some mb)) rfl (ad rfl rfl ?_))));refine Rg.tH iM tS yB rfl rfl rfl SX hW (fun RQ lL=>?_);have rF:=hR.o _ _ lL;have MF:∀c,RQ.ownBlock=some c→c<w0.heap.size:=fun c hc=>(rF.base c hc).2
 clear hR hW ho;refine fO bI rfl rF rfl (ad rfl rfl (ab (aZ ?_)));refine dn (σ:=Nat×Value) (fun q=>[(5,q.2),(13,RQ),(14,.int .i64 ((pk L k).length:Int)),(15,.int .i64 (q.1:Int))]) (fun q w=>∃M',Lt M' w∧Step M w0 M' w aD∧Own RT.po 83 M' w w0.heap.size q.2 ((pk L k).take q.1)∧Own RT.po 83 M' w B RQ (pk L k)∧q.1≤(pk L k).length) (fun q=>(pk L k).length-q.1) (0,.slice none 0 0) (.cons rfl (.cons rfl (.cons rfl (.cons rfl .nil)))) ?_ ?_
 ·exact⟨M,hM,S,dz _ _ _ _ _,rF,bG _⟩
 ·clear hM S rF;rintro⟨i,u⟩ w ⟨M1,hM,S,hu,rF,hi⟩;dsimp only at hu hi ⊢;refine aj (ae (cn rfl rfl rfl (ab (aj ?_))));refine bN rfl (fun c3=>?_) (fun c3=>?_)
  ·refine aT (aj (aZ (aj (ae ?_))));refine Rg.aeZ bI oO (by decide) rfl rfl rfl rF (by omega) (fun u4 p vY EX=>?_);rw[ay]at vY;have hp:=PY p (az vY);refine Rg.Me (A:=RT.po) bW rfl oO rfl rfl rfl EX (fun v4 pT=>?_);refine rR (A:=RT.po) (M:=M1) oO rfl rfl rfl rfl rfl (by assumption) (aq _ _) hM (fun XT Pm nR mf afr=>?_);replace hu:=hu.aM mf;replace rF:=rF.aM mf;replace hM:=mf.lt hM;have:=S.size;replace S:=S.aB mf;refine ab ?_;apply T.pq 5 [0,1,2] 3 aD mixed rfl rfl rfl rfl;intro wD5 sA5;have PZ:=sA5 M1;replace nR:=nR.le (by decide) PZ.le;replace hu:=hu.aM PZ;replace rF:=rF.aM PZ;replace hM:=PZ.lt hM;have:=S.size;replace S:=S.aB PZ;refine ad rfl rfl ?_;refine ab ⟨rfl,rfl,rfl,?_⟩;refine aL (M:=M1) (A:=RT.po) (B:=RT.int .i64) bW rfl rfl I3 (by decide) (Q9) rfl rfl (by decide) (by assumption) (by repeat (first|exact aq _ _|refine aY (bu (by assumption)) ?_)) (fun aef Rp=>?_);refine ab ⟨rfl,rfl,rfl,?_⟩;refine cb (M:=M1) ax rfl rfl (by assumption) (by repeat (first|exact aq _ _|refine aY (bu (by assumption)) ?_)) (fun YY=>?_);refine ab ⟨rfl,rfl,rfl,?_⟩;refine aL (M:=M1) (A:=RT.po) (B:=(RT.int .i64).sl) bW rfl rfl j7 (by decide) (Xx) rfl rfl (by decide) (by assumption) (by repeat (first|exact aq _ _|refine aY (bu (by assumption)) ?_)) (fun adY Hs=>?_);refine ab ⟨rfl,rfl,rfl,?_⟩;refine bT (M:=M1) an rfl rfl rfl rfl rfl (by assumption) (by repeat (first|exact aq _ _|refine aY (bu (by assumption)) ?_)) (fun ape YZ=>?_);refine ab ⟨rfl,rfl,rfl,?_⟩;refine eQ ?_;obtain⟨bb,oo,cs,ee,fr,rfl,k8,_⟩:=Rp.float;refine⟨iH ⟨gX,⟨iF bW rfl I3 (by decide),⟨eC rfl k8 (fun h=>h),trivial⟩⟩⟩,?_⟩
   have kp:=jC aD wD5;refine aW rfl rfl PX (qt hM YZ (by omega)) (fun v5 w5 hc=>?_);obtain⟨pU,s5⟩:=hc;replace nR:=nR.le (by decide) s5.le;replace hu:=hu.aM s5;replace rF:=rF.aM s5;replace hM:=s5.lt hM;have:=S.size;replace S:=S.aB s5;refine(fun(kp:eJ _ _ _)=>ab ⟨rfl,rfl,fun _=>kp,?_⟩) (by first|exact kp|exact kp.qV (by assumption)|exact kp.goN (by assumption)|exact kp.go (by assumption) (fun _ _ h=>by first|exact h|exact h.elim));refine iI (places:=[(0,1),(1,1)]) bW oO XD rfl ⟨_,_,rfl,rfl,_,_,rfl,rfl,rfl⟩ (out:=[_,_]) ⟨0,[_],rfl,rfl,by simp[Value.cells],1,[_],rfl,jw pU,by simp[Value.cells],rfl⟩ ?_;have Co:RT.po.V M1 _ p _:=eT (fI YY) pU rfl rfl rfl rfl;refine(fun(kp:eJ _ _ _)=>ab ⟨rfl,rfl,fun _=>kp,?_⟩) (by first|exact kp|exact kp.qV (by assumption)|exact kp.goN (by assumption)|exact kp.go (by assumption) (fun _ _ h=>by first|exact h|exact h.elim));refine eg (A:=RT.po) (hn:=by decide) (M:=M1) bI oO (by decide) rfl rfl hM (Co) (.inl rfl) (fun apf apg MG Jf=>?_);replace nR:=nR.le (by decide) Jf.le;replace pU:=pU.le Jf.le;replace hu:=hu.aM Jf;replace rF:=rF.aM Jf;replace hM:=Jf.lt hM;have:=S.size;replace S:=S.aB Jf;refine(fun(kp:eJ _ _ _)=>ab ⟨rfl,rfl,fun _=>kp,?_⟩) (by first|exact kp|exact kp.qV (by assumption)|exact kp.goN (by assumption)|exact kp.go (by assumption) (fun _ _ h=>by first|exact h|exact h.elim));refine cX (M:=M1) (base:=w0.heap.size) bI oO rfl rfl rfl rfl hu MG (aq _ _) (by simp;omega) (by simp;omega) (S.size) (fun afs aft aph Y0 Jg=>?_);replace nR:=nR.le (by decide) Jg.le;replace pU:=pU.le Jg.le;replace MG:=MG.le Jg.le;replace rF:=rF.step Jg (fun c hc h=>by have:=MF c hc;have:=(hu.base c h).1;omega);replace hM:=Jg.lt hM;have:=S.size;replace S:=S.cV Jg hu (aO _);replace hu:=Y0;refine ab ⟨rfl,rfl,fun h=>absurd rfl h,?_⟩
   refine ah rfl rfl ?_;refine ab ⟨rfl,rfl,fun h=>absurd rfl h,?_⟩;refine mH (ae (bD rfl rfl rfl (by omega) (ad rfl rfl (ab ?_))));refine⟨rfl,(i+1,afs),(.cons rfl (.cons rfl (.cons rfl (.cons rfl .nil)))),?_,?_⟩
   ·exact⟨aft,hM,S,by rw[b9,vY,cK];exact hu,rF,by dsimp only;omega⟩
   ·dsimp only;omega
  ·refine cI (aj (ae (ad rfl rfl (ah rfl rfl (ab (aQ ?_))))));rw[bc (by omega)]at hu;exact aV rfl rfl ⟨hu.close kr S (by omega),S.back⟩
end Go.K
namespace Go.K
open Go.Proofs
namespace TKBldF
theorem afu:TI Tryz.prog 198 (.agg #[(.slice none 0 0),(.slice none 0 0)]) 2 48:=by unfold TI;kernel_rfl
theorem afv:placesOf Tryz.prog 198=[(0,1),(1,1)].map some:=by kernel_rfl
theorem afw:Enters Tryz.prog 198:=enters Tryz.func198 rfl (by decide)
theorem afx:Enters Tryz.prog 199:=enters Tryz.func199 rfl (by decide)
theorem afy:Enters Tryz.prog 200:=enters Tryz.func200 rfl (by decide)
end TKBldF
open TKBldF
set_option maxRecDepth 10000
def DS:Option (List UInt8)→List (List UInt8)→Bool
 |_,[]=>true
 |o,x::l=>(match o with|none=>true|some a=>decide (a<x))&&DS (some x) l
theorem yD {l:List (List UInt8)} {k:Nat} {x:List UInt8} (h:l[k]? =some x) (o:Option (List UInt8)):DS o (l.drop k)=((match o with|none=>true|some a=>decide (a<x))&&DS (some x) (l.drop (k+1))):=by
 obtain⟨dQ,he⟩:=ao.1 h;rw[dC dQ,he];rfl
theorem DT {a:List UInt8}:∀{l:List (List UInt8)},DB (a::l)→DS (some a) l=true
 |[],_=>rfl
 |x::l,h=>by
  have h':=ez.1 h;simp only[DS,bU,decide_eq_true_eq];exact⟨h'.1 x (bK ..),DT h'.2⟩
theorem UW:∀{l:List (List UInt8)},DB l→DS none l=true
 |[],_=>rfl
 |x::l,h=>by simp only[DS,fp];exact DT h
theorem Jh {M:aC} {v:Value} {l:List Int} (w0:World) (hv:((RT.int .i64).sl).V M w0 l v):
  Spec Tryz.prog 143 #[v] w0 (fun v' w'=>v'= .bool (eA (-1) l)∧w'=w0):=by
 have hlen:=ei hv;refine bg (args:=[_]) (fn:=Tryz.f143) Tryz.func143 rfl (n:=28) Tryz.ntmps143 (aj (ae (ah rfl rfl (ab (aj (aj (ae (ad rfl rfl (bR an rfl hv rfl (ad rfl rfl (ab ?_)))))))))));refine aZ ?_;refine dn (σ:=Nat×Int) (fun s=>[(0,v),(5,v),(6,.int .i64 l.length),(7,.int .i64 s.1)]) (fun s w=>w=w0∧s.1≤l.length∧eA (-1) l=eA s.2 (l.drop s.1)∧ -1≤s.2∧(s.1=0→s.2= -1)∧(0<s.1→l[s.1-1]? =some s.2)) (fun s=>l.length-s.1) (0,-1) (.cons rfl (.cons rfl (.cons rfl (.cons rfl .nil)))) ?_ ?_
 ·exact⟨rfl,bG _,rfl,by decide,fun _=>rfl,fun h=>absurd h (ju 0)⟩
 ·rintro⟨k,last⟩ w1 ⟨rfl,hk,hr,WS,h0,h1⟩;dsimp only at hk hr WS h0 h1 ⊢;refine aj (ae (cn rfl rfl rfl (ab (aj ?_))));refine bN rfl (fun c2=>?_) (fun c2=>?_)
  ·refine aT (aj (aZ (aj (ae (ad rfl rfl ?_)))));obtain⟨x,hx⟩:∃x,l[k]? =some x:=⟨_,au (by omega)⟩;refine cE (M:=M) an I3 rfl rfl rfl hv (aq _ _) (by omega) (fun u a hg hu=>?_);obtain rfl:x=a:=du (aI (hg.symm.trans (by simpa using hx)));refine cb (M:=M) ax rfl rfl hu (aq _ _) (fun inx=>?_);refine ah rfl rfl (ah rfl rfl (ab (aj (ae (ad rfl rfl (cn rfl rfl rfl (ad rfl rfl ?_)))))));refine aN (g:=14) rfl (fun lM=>?_) (fun lM=>?_)
   ·refine ar rfl rfl rfl rfl (ar rfl rfl rfl rfl (ar rfl rfl rfl rfl (cr rfl rfl rfl (cr rfl rfl rfl (cr rfl rfl rfl (cr rfl rfl rfl (cr rfl rfl rfl (cr rfl rfl rfl (cr rfl rfl rfl (ar rfl rfl rfl rfl (aX rfl rfl rfl ?_)))))))))));refine ab (lh rfl (aj (ae (ah rfl rfl (ab (aQ ?_))))));refine aV rfl rfl ⟨congrArg Value.bool (du ?_),rfl⟩;rw[hr,gA hx,decide_eq_false (show¬last<x by omega),kG]
   ·refine al rfl rfl (ad rfl rfl (al rfl rfl (jv rfl rfl rfl (al rfl rfl (ad rfl rfl ?_)))));refine aN (g:=17) rfl (fun Ug=>?_) (fun Ug=>?_)
    ·refine al rfl rfl (ad rfl rfl (al rfl rfl (ad rfl rfl (al rfl rfl (ad rfl rfl (al rfl rfl (fu rfl rfl rfl (by omega) (al rfl rfl ?_))))))));refine cE (M:=M) an I3 rfl rfl rfl hv (aq _ _) (by omega) (fun u2 a hg wV=>?_);obtain rfl:last=a:=du (aI (hg.symm.trans (by rw[show((k:Int)-1).toNat=k-1 from by omega];exact h1 (by omega))));refine al rfl rfl ?_;refine cb (M:=M) ax rfl rfl wV (aq _ _) (fun inl=>?_);refine al rfl rfl (gL rfl rfl rfl (al rfl rfl (aX rfl rfl rfl (aE rfl rfl rfl (ab ?_)))));refine bN rfl (fun c4=>?_) (fun c4=>?_)
     ·refine aj (ae (ah rfl rfl (ab (aQ ?_))));refine aV rfl rfl ⟨congrArg Value.bool (du ?_),rfl⟩;rw[hr,gA hx,decide_eq_false (show¬last<x by omega),kG]
     ·refine aT (ae (bD rfl rfl rfl (by omega) (ad rfl rfl (ab ?_))));refine⟨rfl,(k+1,x),(.cons rfl (.cons rfl (.cons rfl (.cons rfl .nil)))),?_,?_⟩
      ·refine⟨rfl,by simp only;omega,?_,by simp only;omega,fun h=>by simp at h,fun _=>by simpa using hx⟩;rw[hr,gA hx,decide_eq_true (show last<x by omega),fp]
      ·simp only;omega
    ·refine ar rfl rfl rfl rfl (ar rfl rfl rfl rfl (ar rfl rfl rfl rfl (ar rfl rfl rfl rfl (ar rfl rfl rfl rfl (ar rfl rfl rfl rfl (ar rfl rfl rfl rfl (al rfl rfl (aE rfl rfl rfl (aE rfl rfl rfl (ab (iX rfl ?_)))))))))));refine aT (ae (bD rfl rfl rfl (by omega) (ad rfl rfl (ab ?_))));refine⟨rfl,(k+1,x),(.cons rfl (.cons rfl (.cons rfl (.cons rfl .nil)))),?_,?_⟩
     ·refine⟨rfl,by simp only;omega,?_,by simp only;omega,fun h=>by simp at h,fun _=>by simpa using hx⟩;rw[hr,gA hx,decide_eq_true (show last<x by omega),fp]
     ·simp only;omega
  ·refine cI (aj (ae (ah rfl rfl (ab (aQ ?_)))));refine aV rfl rfl ⟨congrArg Value.bool (du ?_),rfl⟩;rw[hr,fw (by omega)];rfl
theorem DV {M:aC} {v:Value} {l:List (List UInt8)} (w0:World) (hv:(RT.str.sl).V M w0 l v):
  Spec Tryz.prog 198 #[v] w0 (fun v' w'=>v'= .bool (DS none l)∧w'=w0):=by
 have hlen:=ei hv;refine bg (args:=[_]) (fn:=Tryz.f198) Tryz.func198 rfl (n:=24) Tryz.ntmps198 (aj (ae (ah rfl rfl (ab (aj (aj (ae (ad rfl rfl (bR aS rfl hv rfl (ad rfl rfl (ab ?_)))))))))));refine aZ ?_;refine dn (σ:=Nat×Option (List UInt8)) (fun s=>[(0,v),(5,v),(6,.int .i64 l.length),(7,.int .i64 s.1)]) (fun s w=>w=w0∧s.1≤l.length∧DS none l=DS s.2 (l.drop s.1)∧(s.1=0→s.2=none)∧(0<s.1→∃a,s.2=some a∧l[s.1-1]? =some a)) (fun s=>l.length-s.1) (0,none) (.cons rfl (.cons rfl (.cons rfl (.cons rfl .nil)))) ?_ ?_
 ·exact⟨rfl,bG _,rfl,fun _=>rfl,fun h=>absurd h (ju 0)⟩
 ·rintro⟨k,o⟩ w1 ⟨rfl,hk,hr,h0,h1⟩;dsimp only at hk hr h0 h1 ⊢;refine aj (ae (cn rfl rfl rfl (ab (aj ?_))));refine bN rfl (fun c2=>?_) (fun c2=>?_)
  ·refine aT (aj (aZ (aj (ae (ad rfl rfl ?_)))));obtain⟨x,hx⟩:∃x,l[k]? =some x:=⟨_,au (by omega)⟩;refine cE (M:=M) aS I9 rfl rfl rfl hv (aq _ _) (by omega) (fun u a hg hu=>?_);obtain rfl:x=a:=du (aI (hg.symm.trans (by simpa using hx)));refine bT (M:=M) aJ rfl rfl rfl rfl rfl hu (aq _ _) (fun vx qX=>?_);obtain rfl:=iC qX;refine ah rfl rfl (ah rfl rfl (ab (aj (ae (ad rfl rfl (jv rfl rfl rfl (ad rfl rfl ?_)))))));refine aN (g:=14) rfl (fun lM=>?_) (fun lM=>?_)
   ·refine al rfl rfl (ad rfl rfl (al rfl rfl (ad rfl rfl (al rfl rfl (ad rfl rfl (al rfl rfl (fu rfl rfl rfl (by omega) (al rfl rfl ?_))))))));obtain⟨last,rfl,jj⟩:=h1 (by omega);refine cE (M:=M) aS I9 rfl rfl rfl hv (aq _ _) (by omega) (fun u2 a hg wV=>?_);obtain rfl:last=a:=du (aI (hg.symm.trans (by rw[show((k:Int)-1).toNat=k-1 from by omega];exact jj)));refine al rfl rfl ?_;refine bT (M:=M) aJ rfl rfl rfl rfl rfl wV (aq _ _) (fun vl kB=>?_);obtain rfl:=iC kB;refine al rfl rfl (Rg.Uw rfl rfl rfl (aX rfl rfl rfl (ab ?_)));refine bN rfl (fun c4=>?_) (fun c4=>?_)
    ·refine aj (ae (ah rfl rfl (ab (aQ ?_))));refine aV rfl rfl ⟨congrArg Value.bool (du ?_),rfl⟩;rw[hr,yD hx];simp[c4]
    ·refine aT (ae (bD rfl rfl rfl (by omega) (ad rfl rfl (ab ?_))));refine⟨rfl,(k+1,some x),(.cons rfl (.cons rfl (.cons rfl (.cons rfl .nil)))),?_,?_⟩
     ·refine⟨rfl,by simp only;omega,?_,fun h=>by simp at h,fun _=>⟨x,rfl,by simpa using hx⟩⟩;rw[hr,yD hx]
      first
      |(rw[h0 (by omega)];simp;done)
      |(have c4':=dE.1 c4;simp[c4'];done)
     ·simp only;omega
   ·refine ar rfl rfl rfl rfl (ar rfl rfl rfl rfl (ar rfl rfl rfl rfl (ar rfl rfl rfl rfl (ar rfl rfl rfl rfl (ar rfl rfl rfl rfl (ar rfl rfl rfl rfl (aE rfl rfl rfl (ab (iX rfl (aT (ae ?_)))))))))));refine bD rfl rfl rfl (by omega) (ad rfl rfl (ab ?_));refine⟨rfl,(k+1,some x),(.cons rfl (.cons rfl (.cons rfl (.cons rfl .nil)))),?_,?_⟩
    ·refine⟨rfl,by simp only;omega,?_,fun h=>by simp at h,fun _=>⟨x,rfl,by simpa using hx⟩⟩;rw[hr,yD hx]
     first
     |(rw[h0 (by omega)];simp;done)
     |(have c4':=dE.1 c4;simp[c4'];done)
    ·simp only;omega
  ·refine cI (aj (ae (ah rfl rfl (ab (aQ ?_)))));refine aV rfl rfl ⟨congrArg Value.bool (du ?_),rfl⟩;rw[hr,fw (by omega)];rfl
theorem uZ {α:Type} {A:RT α} {M:aC} {w:World} {v:Value} {x:α} (h:cP A M w v x):v.cells= #[v]:=by
 obtain⟨b,o,vs,rfl,_⟩:=h;rfl
theorem Gg {M:aC} {v0 v1:Value} {ns:List (List UInt8)} {ts:List Li} (w0:World) (hM:Lt M w0) (hn:(RT.str.sl).V M w0 ns v0) (ht:(((RT.li).ptr).sl).V M w0 ts v1) (hl:ns.length≤1099511627776) (Oz:ts.length≤1099511627776):
  Spec Tryz.prog 147 #[v0,v1] w0 (fun v w=>∃p,v= .tuple #[p,.int .i64 (if ns.length=ts.length∧DS none ns=true then 0 else 1)]∧(ns.length=ts.length→DS none ns=true→cP RT.di M w p (ns,ts))∧Step M w0 M w aD):=by
 refine bg (args:=[_,_]) (fn:=Tryz.f147) Tryz.func147 rfl (n:=22) Tryz.ntmps147 ?_;have S:Step M w0 M w0 aD:=(aw _ _).cF (fun _ h=>h.elim) (fun _ h=>h.elim);refine aj (ae (ah rfl rfl (ah rfl rfl (ab (aj (aj (ae (ad rfl rfl (bR aS rfl hn rfl (ad rfl rfl (bR ed rfl ht rfl ?_)))))))))));refine fe rfl rfl rfl (ad rfl rfl ?_);refine aN (g:=11) rfl (fun uR=>?_) (fun uR=>?_)
 ·refine ar rfl rfl rfl rfl (ar rfl rfl rfl rfl (ar rfl rfl rfl rfl (aX rfl rfl rfl (ab (lh rfl (aj (ae (ah rfl rfl (ah rfl rfl (ab (aQ ?_)))))))))))
  first
  |exact eS rfl rfl rfl ⟨_,by rw[if_neg (fun h=>uR (by omega))],fun h=>absurd (by omega) uR,S⟩
  |exact eS rfl rfl rfl ⟨_,by rw[if_neg (fun h=>c1 h.2)],fun _ h=>absurd h c1,S⟩
 ·refine al rfl rfl (ad rfl rfl (al rfl rfl ?_));refine aW rfl rfl afw (DV _ hn) (fun r wc hc=>?_);obtain⟨rfl,rfl⟩:=hc;refine al rfl rfl (mJ rfl rfl (aU (v':= .bool (decide (¬DS none ns=true))) (by simp) (aE rfl rfl rfl (ab ?_))));refine bN rfl (fun c1=>?_) (fun c1=>?_)
  ·refine aj (ae (ah rfl rfl (ah rfl rfl (ab (aQ ?_)))))
   first
   |exact eS rfl rfl rfl ⟨_,by rw[if_neg (fun h=>uR (by omega))],fun h=>absurd (by omega) uR,S⟩
   |exact eS rfl rfl rfl ⟨_,by rw[if_neg (fun h=>c1 h.2)],fun _ h=>absurd h c1,S⟩
  ·refine aT (aj (ae (ad rfl rfl ?_)));refine aW rfl rfl afx (L3 hM hn hl) (fun v3 w3 hc=>?_);obtain⟨zu,s3⟩:=hc;replace hn:=hn.le s3.le;replace ht:=ht.le s3.le;replace hM:=s3.lt hM;have:=S.size;replace S:=S.aB s3;refine ad rfl rfl ?_;refine aW rfl rfl afy (PO hM ht Oz) (fun v4 w4 hc=>?_);obtain⟨pT,s4⟩:=hc;replace hn:=hn.le s4.le;replace ht:=ht.le s4.le;replace zu:=zu.le s4.le;replace hM:=s4.lt hM;have:=S.size;replace S:=S.aB s4;refine iI (places:=[(0,1),(1,1)]) jN afu afv rfl ⟨_,_,rfl,rfl,_,_,rfl,rfl,rfl⟩ (out:=[_,_]) ⟨0,[_],rfl,jw zu,by simp[Value.cells],1,[_],rfl,jw pT,by simp[Value.cells],rfl⟩ ?_;refine vK (A:=RT.di) (a:=(ns,ts)) rfl rfl hM (eT zu pT rfl rfl rfl rfl) rfl (fun u5 w5 C0 s5 _=>?_);replace hn:=hn.le s5.le;replace ht:=ht.le s5.le;replace zu:=zu.le s5.le;replace pT:=pT.le s5.le;replace hM:=s5.lt hM;have:=S.size;replace S:=S.aB s5;refine ah rfl rfl (ah rfl rfl (ab (aQ ?_)));exact eS rfl rfl rfl ⟨_,by rw[if_pos ⟨by omega,dE.1 c1⟩],fun _ _=>C0,S⟩
end Go.K
namespace Go.K
theorem Gh (n:Nat):IntKind.u8.wrap (n:Int)=((UInt8.ofNat n).toNat:Int):=by
 rw[IntKind.wrap_u8];simp[UInt8.toNat_ofNat]
theorem Y1:∀m:Nat,m<256→(BitVec.ofInt 8 (m:Int)|||BitVec.ofInt 8 128).toNat=128+m%128:=by decide+kernel
theorem P0 (n:Nat):IntKind.u8.wrap ((BitVec.ofInt IntKind.u8.bits (IntKind.u8.wrap (n:Int))|||BitVec.ofInt IntKind.u8.bits 128).toNat:Int)=((UInt8.ofNat (128+n%128)).toNat:Int):=by
 have h1:IntKind.u8.wrap (n:Int)=((n%256:Nat):Int):=by rw[IntKind.wrap_u8];omega
 rw[h1];show IntKind.u8.wrap ((BitVec.ofInt 8 ((n%256:Nat):Int)|||BitVec.ofInt 8 128).toNat:Int)=_;rw[Y1 (n%256) (by omega),IntKind.wrap_u8,show n%256%128=n%128 from by omega];simp[UInt8.toNat_ofNat]
theorem afA (n:Nat):((n:Int)).fdiv (2^min (Int.toNat 7) IntKind.i64.bits)=((n/128:Nat):Int):=by
 show((n:Int)).fdiv 128=_;rw[Int.fdiv_eq_ediv_of_nonneg _ (by decide)];rfl
theorem Gi:∀m:Nat,m<256→(BitVec.ofInt 8 (m:Int)&&& ~~~ BitVec.ofInt 8 128).toNat=m%128:=by decide+kernel
theorem DW (c:UInt8):IntKind.u8.wrap ((BitVec.ofInt IntKind.u8.bits (c.toNat:Int)&&& ~~~ BitVec.ofInt IntKind.u8.bits 128).toNat:Int)=((c.toNat%128:Nat):Int):=by
 show IntKind.u8.wrap ((BitVec.ofInt 8 (c.toNat:Int)&&& ~~~ BitVec.ofInt 8 128).toNat:Int)=_;rw[Gi c.toNat (by have:=c.toNat_lt;omega),IntKind.wrap_u8];omega
theorem MH (k n x:Nat) (hk:k≤8) (hn:n<128^k) (hx:x<128):
  IntKind.i64.wrap ((BitVec.ofInt IntKind.i64.bits (n:Int)|||BitVec.ofInt IntKind.i64.bits (IntKind.i64.wrap ((x:Int)*2^min (Int.toNat (7*(k:Int))) IntKind.i64.bits))).toNat:Int)=((n+x*128^k:Nat):Int):=by
 have e7:Int.toNat (7*(k:Int))=7*k:=by omega
 have e1:min (7*k) 64=7*k:=by omega
 have e2:(128:Nat)^k=2^(7*k):=by rw[Nat.pow_mul]
 have hp:2^(7*k)≤2^56:=wH (by decide) (by omega);have hb:x*2^(7*k)≤127*2^(7*k):=gu _ (by omega);rw[e2]at hn ⊢;show IntKind.i64.wrap ((BitVec.ofInt 64 (n:Int)|||BitVec.ofInt 64 (IntKind.i64.wrap ((x:Int)*2^min (Int.toNat (7*(k:Int))) 64))).toNat:Int)=_;rw[e7,e1];have e3:((x:Int)*2^(7*k))=((x*2^(7*k):Nat):Int):=by simp
 have e5:n|||x*2^(7*k)=n+x*2^(7*k):=by
  rw[Nat.or_comm,Nat.mul_comm x,←Nat.two_pow_add_eq_or_of_lt hn x,Nat.add_comm]
 rw[e3];generalize x*2^(7*k)=y at*
 generalize 2^(7*k)=z at*
 have e4:∀m:Nat,m<2^64→(BitVec.ofInt 64 (m:Int))=BitVec.ofNat 64 m:=fun m _=>by simp
 rw[jX (y:Int) (by omega),e4 n (by omega),e4 y (by omega),BitVec.toNat_or,BitVec.toNat_ofNat,BitVec.toNat_ofNat,uw (by omega),uw (by omega),e5,jX _ (by omega)]
theorem sI (x:Int): -9223372036854775808≤IntKind.i64.wrap x∧IntKind.i64.wrap x≤9223372036854775807:=by rw[IntKind.wrap_i64];omega
end Go.K
namespace Go.K
open Go.Proofs
set_option maxRecDepth 10000
theorem BJ {M:aC} {w0:World} {v:Value} {b:List UInt8} {n:Nat} (hM:Lt M w0) (hv:(RT.u8.sl).V M w0 b v) (hb:b.length≤70368744177664) (hn:n≤9223372036854775807):
  Spec Tryz.prog 195 #[v,.int .i64 n] w0 (fun v' w'=>∃M',Step M w0 M' w' aD∧Own RT.u8 5 M' w' w0.heap.size v' (b++put n)):=by
 have h9:=k9 hn;refine bg (args:=[_,_]) (fn:=Tryz.f195) Tryz.func195 rfl (n:=26) Tryz.ntmps195 (aj (ae (ah rfl rfl (ab (aj (ae (ad rfl rfl (ad rfl rfl ?_))))))))
 first|refine bR bM rfl (by assumption) rfl ?_|refine fO bM rfl (by assumption) rfl ?_
 refine ad rfl rfl ?_
 first|refine bR bM rfl (by assumption) rfl ?_|refine fO bM rfl (by assumption) rfl ?_
 refine Rg.E7 bM I5 rfl rfl rfl rfl hv ⟨rfl,rfl⟩ (fun a lL p6=>?_);refine ah rfl rfl (ab (aj (aZ ?_)));refine dn (σ:=Nat×Value×List UInt8) (fun s=>[(0,s.2.1),(1,.int .i64 s.1)]) (fun s w=>s.2.2++put s.1=b++put n∧∃M1,Lt M1 w∧Step M w0 M1 w aD∧Grow RT.u8 (by decide) 5 M1 w w0.heap.size s.2.1 s.2.2) (fun s=>s.1) (n,_,b) (.cons rfl (.cons rfl .nil)) ?_ ?_
 ·exact⟨rfl,M,hM,aw _ _,.inr ⟨a,rfl,p6,lL⟩⟩
 ·rintro⟨k,u0,acc⟩ w1 ⟨zD,M1,nC,s1,hg⟩;dsimp only at zD hg ⊢;have hlen:=congrArg List.length zD;have td:=O6 k;simp only[bj]at hlen;refine aj (aj (ae (ad rfl rfl (dT rfl rfl rfl (ab ?_)))));refine bN rfl (fun c2=>?_) (fun c2=>?_)
  ·refine aT (aZ (aj (ae (ad rfl rfl (ad rfl rfl (rO ax cz rfl rfl (Rg.or rfl rfl rfl (aU (congrArg _ (P0 _)) ?_))))))));refine eg (A:=RT.u8) (hn:=by decide) (M:=M1) bM I5 (by decide) rfl rfl nC (SF.2 rfl) (.inr ⟨rfl,rfl⟩) (fun u w2 hu s2=>?_);refine Rg.Hf (M:=M1) (base:=w0.heap.size) bM I5 rfl rfl rfl rfl (hg.le s2) hu (aq _ _) (by simp) (by simp;omega) (by simp;omega) (eD s1.size s2.size) (fun v3 M3 w3 yE s3=>?_);refine ah rfl rfl (ab (ae (ad rfl rfl (Rg.shr rfl rfl rfl (by omega) (aU (congrArg _ (afA _)) (ah rfl rfl (ab ?_)))))));refine⟨rfl,(k/128,v3,acc++[UInt8.ofNat (128+k%128)]),(.cons rfl (.cons rfl .nil)),?_,?_⟩
   ·exact⟨by rw[←zD,Fl (n:=k) (by omega)];simp,M3,s3.lt (s2.lt nC),(s1.aB s2).l0 s3 (aO _),.inl yE⟩
   ·show k/128<k;omega
  ·refine cI (aj (ae (ad rfl rfl (ad rfl rfl (rO ax cz rfl rfl (aU (congrArg _ (Gh _)) ?_))))));refine eg (A:=RT.u8) (hn:=by decide) (M:=M1) bM I5 (by decide) rfl rfl nC (SF.2 rfl) (.inr ⟨rfl,rfl⟩) (fun u w2 hu s2=>?_);refine Rg.Hf (M:=M1) (base:=w0.heap.size) bM I5 rfl rfl rfl rfl (hg.le s2) hu (aq _ _) (by simp) (by simp;omega) (by simp;omega) (eD s1.size s2.size) (fun v3 M3 w3 yE s3=>?_);refine ah rfl rfl (ab (aQ ?_));refine aV rfl rfl ⟨M3,(s1.aB s2).l0 s3 (aO _),?_⟩;rw[←zD,xN (n:=k) (by omega)];exact yE
theorem MI {M:aC} {w0:World} {v:Value} {b:List UInt8} {n:Nat} (hM:Lt M w0) (hv:(RT.u8.sl).V M w0 b v) (hb:b.length≤70368744177664) (hn:n≤9223372036854775807):
  Spec Tryz.prog 195 #[v,.int .i64 n] w0 (fun v' w'=>Step M w0 M w' aD∧(RT.u8.sl).V M w' (b++put n) v'):=
 (BJ hM hv hb hn).mono fun _ _ ⟨_,s,ho⟩=>⟨s.back,xg hM s ho (by have:=k9 hn;simp;omega)⟩
theorem DX {M:aC} {w0:World} {v:Value} {b:List UInt8} {at_:Int} (hv:(RT.u8.sl).V M w0 b v) (MJ: -9223372036854775808≤at_∧at_≤9223372036854775807):
  Spec Tryz.prog 263 #[v,.int .i64 at_] w0 (fun v' w'=>v'= .tuple #[.int .i64 (get b at_).1,.int .i64 (get b at_).2.1,.int .i64 (get b at_).2.2]∧w0=w'):=by
 have hlen:=ei hv;refine bg (args:=[_,_]) (fn:=Tryz.f263) Tryz.func263 rfl (n:=54) Tryz.ntmps263 (aj (ae (ah rfl rfl (ah rfl rfl (ah rfl rfl (ab (aj (aj (ae (ad rfl rfl (cn rfl rfl rfl ?_)))))))))));refine ad rfl rfl ?_;refine aN (g:=12) rfl (fun iB=>?_) (fun iB=>?_)
 ·obtain UX:at_<0∨(b.length:Int)<at_:= .inl iB;refine ar rfl rfl rfl rfl (ar rfl rfl rfl rfl (ar rfl rfl rfl rfl (ar rfl rfl rfl rfl (aX rfl rfl rfl (ab (lh rfl (aj (ae (ah rfl rfl (ah rfl rfl (ah rfl rfl ?_)))))))))));refine ab (aQ ?_);have iY:get b at_=(0,0,1):=by unfold get;rw[if_pos UX]
  exact rj rfl rfl rfl rfl ⟨by rw[iY],rfl⟩
 ·refine al rfl rfl (ad rfl rfl (al rfl rfl (ad rfl rfl (al rfl rfl ?_))))
  first|refine bR bM rfl (by assumption) rfl ?_|refine fO bM rfl (by assumption) rfl ?_
  refine al rfl rfl (jv rfl rfl rfl (aE rfl rfl rfl (ab ?_)));refine bN rfl (fun c1=>?_) (fun c1=>?_)
  ·obtain UX:at_<0∨(b.length:Int)<at_:= .inr c1;refine aj (ae (ah rfl rfl (ah rfl rfl (ah rfl rfl (ab (aQ ?_))))));have iY:get b at_=(0,0,1):=by unfold get;rw[if_pos UX]
   exact rj rfl rfl rfl rfl ⟨by rw[iY],rfl⟩
  ·refine aT (aj (ae (ah rfl rfl (ab (aj (aj (ae (ad rfl rfl (ad rfl rfl (ad rfl rfl ?_))))))))))
   first|refine bR bM rfl (by assumption) rfl ?_|refine fO bM rfl (by assumption) rfl ?_
   refine ad rfl rfl (bD rfl rfl rfl (by omega) (Rg.min2 rfl rfl rfl ?_));refine Rg.Kb bM I5 rfl rfl rfl rfl hv (by omega) (fun u hu=>?_);rw[show(min (b.length:Int) (at_+9)).toNat=min b.length (at_.toNat+9)from by omega,Tj]at hu;have iY:get b at_=match nN ((b.drop at_.toNat).take 9) 0 0 with|some (n,k)=>((n:Int),at_+k,0)|none=>(0,0,2):=by unfold get;rw[if_neg (by omega)];rfl
   have kY:((b.drop at_.toNat).take 9).length≤9:=by rw[bC];omega
   generalize (b.drop at_.toNat).take 9=bs at hu iY kY
   first|refine bR bM rfl (by assumption) rfl ?_|refine fO bM rfl (by assumption) rfl ?_
   refine ad rfl rfl (ab (aZ ?_));refine dn (σ:=Nat×Nat) (fun s=>[(1,.int .i64 at_),(25,u),(26,.int .i64 bs.length),(27,.int .i64 s.1),(7,.int .i64 s.2)]) (fun s w=>w0=w∧s.1≤bs.length∧s.2<128^s.1∧nN (bs.drop s.1) s.1 s.2=nN bs 0 0) (fun s=>bs.length-s.1) (0,0) (.cons rfl (.cons rfl (.cons rfl (.cons rfl (.cons rfl .nil))))) ?_ ?_
   ·exact⟨rfl,bG _,by decide,rfl⟩
   ·rintro⟨k,m⟩ w1 ⟨rfl,hk,hm,hg⟩;dsimp only at hk hm hg ⊢;refine aj (ae (cn rfl rfl rfl (ab (aj ?_))));refine bN rfl (fun c5=>?_) (fun c5=>?_)
    ·refine aT (aj (aZ (aj (ae (ad rfl rfl ?_)))));refine cE (M:=M) bM I5 rfl rfl rfl (by assumption) (by repeat (first|exact aq _ _|refine aY (bu (by assumption)) ?_)) (by omega) (fun afB P1 DY AK=>?_);refine Rg.SG (M:=M) cz rfl rfl (by assumption) (by repeat (first|exact aq _ _|refine aY (bu (by assumption)) ?_)) ?_;refine ah rfl rfl (ah rfl rfl (ab (aj (ae (ad rfl rfl (ad rfl rfl (Rg.andNot rfl rfl rfl (aU (congrArg _ (DW _)) (Rg.uE cz ax rfl rfl (by omega) (ad rfl rfl (Rg.OS rfl rfl rfl (by omega) ?_)))))))))));refine Rg.shl rfl rfl rfl (by omega) (Rg.or rfl rfl rfl (aU (congrArg _ (MH k m _ (by omega) hm (by omega))) (ah rfl rfl (ab (aj (ae (ad rfl rfl (cn rfl rfl rfl (ab ?_)))))))));refine bN rfl (fun c8=>?_) (fun c8=>?_)
     ·refine aj (aj (ae (ad rfl rfl (tc rfl rfl rfl (ad rfl rfl ?_)))));refine aN (g:=44) rfl (fun BK=>?_) (fun BK=>?_)
      ·refine al rfl rfl (ad rfl rfl (al rfl rfl (jv rfl rfl rfl (aX rfl rfl rfl (ab ?_)))));refine bN rfl (fun c9=>?_) (fun c9=>?_)
       ·refine cI (aj (ae (ah rfl rfl (ah rfl rfl (ah rfl rfl (ab (aQ ?_)))))))
        have hr:nN bs 0 0=none:=by
         rw[←hg]
         first
         |(rw[nP (by simpa using DY),if_pos (by omega),if_pos (by omega)])
         |(rw[fw (by omega)];rfl)
        exact rj rfl rfl rfl rfl ⟨by rw[iY,hr],rfl⟩
       ·refine aT (aj (ae (ad rfl rfl (ad rfl rfl (ad rfl rfl (bD rfl rfl rfl (by omega) (bD rfl rfl rfl (by omega) (ah rfl rfl (ah rfl rfl (ah rfl rfl (ab ?_)))))))))));refine aQ ?_;have hr:nN bs 0 0=some (m+P1.toNat%128*128^k,k+1):=by rw[←hg,nP (by simpa using DY),if_pos (by omega),if_neg (by omega)]
        exact rj rfl rfl rfl rfl ⟨by rw[iY,hr];simp;omega,rfl⟩
      ·refine ar rfl rfl rfl rfl (ar rfl rfl rfl rfl (aE rfl rfl rfl (ab (iX rfl (aT (aj (ae (ad rfl rfl (ad rfl rfl (ad rfl rfl (bD rfl rfl rfl (by omega) ?_)))))))))));refine bD rfl rfl rfl (by omega) (ah rfl rfl (ah rfl rfl (ah rfl rfl (ab (aQ ?_)))));have hr:nN bs 0 0=some (m+P1.toNat%128*128^k,k+1):=by rw[←hg,nP (by simpa using DY),if_pos (by omega),if_neg (by omega)]
       exact rj rfl rfl rfl rfl ⟨by rw[iY,hr];simp;omega,rfl⟩
     ·refine aT (ae (bD rfl rfl rfl (by omega) (ad rfl rfl (ab ?_))));refine⟨rfl,(k+1,m+P1.toNat%128*128^k),(.cons rfl (.cons rfl (.cons rfl (.cons rfl (.cons rfl .nil))))),?_,?_⟩
      ·refine⟨rfl,by simp only;omega,?_,?_⟩
       ·have:=gu (128^k) (show P1.toNat%128≤127 from by omega);simp only[Nat.pow_succ];omega
       ·rw[nP (by simpa using DY),if_neg (by omega)]at hg;exact hg
      ·simp only;omega
    ·refine cI (aj (ae (ah rfl rfl (ah rfl rfl (ah rfl rfl (ab (aQ ?_)))))))
     have hr:nN bs 0 0=none:=by
      rw[←hg]
      first
      |(rw[nP (by simpa using DY),if_pos (by omega),if_pos (by omega)])
      |(rw[fw (by omega)];rfl)
     exact rj rfl rfl rfl rfl ⟨by rw[iY,hr],rfl⟩
theorem zQ {M:aC} {w0:World} {v u:Value} {b:List UInt8} {l:List Int} (hM:Lt M w0) (hv:(RT.u8.sl).V M w0 b v) (hu:((RT.int .i64).sl).V M w0 l u) (hb:b.length+9*(l.length+1)≤70368744177664):
  Spec Tryz.prog 196 #[v,u] w0 (fun v' w'=>∃M' x,Step M w0 M' w' aD∧v'= .tuple #[x,.int .i64 (if eA (-1) l then 0 else 1)]∧Own RT.u8 5 M' w' w0.heap.size x (if eA (-1) l then b++eG l else[])):=by
 have sV:=k9 (n:=l.length) (by omega);refine bg (args:=[_,_]) (fn:=Tryz.f196) Tryz.func196 rfl (n:=31) Tryz.ntmps196 (aj (ae (ah rfl rfl (ah rfl rfl (ab (aj (ae (ad rfl rfl (ad rfl rfl (bR an rfl hu rfl ?_))))))))));refine aW rfl rfl Tt (BJ (M:=M) hM hv (by omega) (by omega)) (fun ub wb Hb=>?_);obtain⟨Mb,sb,rY⟩:=Hb;refine ah rfl rfl (ab (aj (ae (ah rfl rfl (ab (aj (aj (ae (ad rfl rfl (bR an rfl hu rfl (ad rfl rfl ?_)))))))))));refine ab (aZ ?_);refine dn (σ:=Nat×Int×Value×List UInt8) (fun s=>[(0,s.2.2.1),(6,.int .i64 s.2.1),(13,u),(14,.int .i64 l.length),(15,.int .i64 s.1)]) (fun s w=>eA (-1) l=eA s.2.1 (l.drop s.1)∧(eA (-1) l=true→s.2.2.2++lH s.2.1 (l.drop s.1)=b++eG l)∧s.1≤l.length∧ -1≤s.2.1∧s.2.2.2.length≤b.length+9*(s.1+1)∧∃M1,Lt M1 w∧Step M w0 M1 w aD∧Own RT.u8 5 M1 w w0.heap.size s.2.2.1 s.2.2.2) (fun s=>l.length-s.1) (0,-1,_,b++put l.length) (.cons rfl (.cons rfl (.cons rfl (.cons rfl (.cons rfl .nil))))) ?_ ?_
 ·exact⟨rfl,fun _=>by simp[eG],bG _,by simp only;omega,by simp;omega,Mb,sb.lt hM,sb,rY⟩
 ·rintro⟨k,last,u0,acc⟩ w1 ⟨hr,zD,hk,WS,UY,M1,nC,s1,ho⟩;dsimp only at hr zD hk WS UY ho ⊢;refine aj (ae (cn rfl rfl rfl (ab (aj ?_))));refine bN rfl (fun c4=>?_) (fun c4=>?_)
  ·refine aT (aj (aZ (aj (ae ?_))));obtain⟨x,hx⟩:∃x,l[k]? =some x:=⟨_,au (by omega)⟩;have hxr:=A3 hu hx;refine cE (M:=M) an I3 rfl rfl rfl (hu.le (s1.back).le) (aq _ _) (by omega) (fun Y2 MK Y3 HL=>?_);obtain rfl:MK=x:=aI (Y3.symm.trans (by simpa using hx));refine cb (M:=M) ax rfl rfl HL (aq _ _) (fun _=>?_);refine ah rfl rfl (ab (aj (aj (ae (ad rfl rfl (ad rfl rfl (gL rfl rfl rfl (ab ?_))))))));refine bN rfl (fun c6=>?_) (fun c6=>?_)
   ·refine aj (ae (ah rfl rfl (ah rfl rfl (ab (aQ ?_)))));have hrf:eA (-1) l=false:=by rw[hr,gA hx,decide_eq_false (by omega),kG]
    exact eS rfl rfl rfl ⟨M1,_,s1,by rw[hrf];rfl,by rw[hrf];exact dz _ _ _ _ _⟩
   ·refine aT (aj (ae (ad rfl rfl (ad rfl rfl (ad rfl rfl (Rg.W6 rfl rfl rfl (Rg.W6 rfl rfl rfl ?_)))))));have hpx:=k9 (n:=(MK-last-1).toNat) (by omega);refine aU (v':= .int .i64 (((MK-last-1).toNat:Nat):Int)) (by rw[IntKind.wrap_i64,IntKind.wrap_i64];congr 1;omega) ?_;have hfz:=s1.freeze (v:=u0) (fun b hb=>(ho.base b hb).1);refine aW rfl rfl Tt (BJ (M:=rm M1 u0) (nC.rm u0) (ho.view (by omega)) (by omega) (by omega)) (fun ub wb Hb=>?_);obtain⟨Mb2,UZ,afD⟩:=Hb;refine ah rfl rfl (ab (ae (ad rfl rfl (ah rfl rfl (ab (ae (bD rfl rfl rfl (by omega) (ad rfl rfl (ab ?_)))))))));refine⟨rfl,(k+1,MK,ub,acc++put (MK-last-1).toNat),(.cons rfl (.cons rfl (.cons rfl (.cons rfl (.cons rfl .nil))))),?_,?_⟩
    ·refine⟨?_,fun h=>?_,by simp only;omega,by simp only;omega,by simp only[bj];omega,Mb2,UZ.lt (nC.rm u0),hfz.aB UZ,afD.nj s1.size⟩
     ·rw[hr,gA hx,decide_eq_true (by omega),fp]
     ·rw[←zD h,IB hx];simp
    ·simp only;omega
  ·refine cI (aj (ae (ad rfl rfl (ah rfl rfl (ah rfl rfl (ab (aQ ?_)))))));have hrt:eA (-1) l=true:=by rw[hr,fw (by omega)];rfl
   have ha:=zD hrt;rw[fw (by omega),lH,fP]at ha;exact eS rfl rfl rfl ⟨M1,_,s1,by rw[hrt];rfl,by rw[hrt,←ha];exact ho⟩
theorem yF {M:aC} {w0:World} {v u:Value} {b:List UInt8} {l:List Int} (hM:Lt M w0) (hv:(RT.u8.sl).V M w0 b v) (hu:((RT.int .i64).sl).V M w0 l u) (hb:b.length+9*(l.length+1)≤70368744177664):
  Spec Tryz.prog 196 #[v,u] w0 (fun v' w'=>∃x,Step M w0 M w' aD∧v'= .tuple #[x,.int .i64 (if eA (-1) l then 0 else 1)]∧(RT.u8.sl).V M w' (if eA (-1) l then b++eG l else[]) x):=
 (zQ hM hv hu hb).mono fun _ _ ⟨_,x,s,h,ho⟩=>⟨x,s.back,h,xg hM s ho (by
  split
  next hr=>
   have sV:=k9 (n:=l.length) (by omega);have l1:∀x∈l,x≤9223372036854775807:=fun x hx=>by obtain⟨i,hi⟩:=bE.1 hx;exact(A3 hu hi).2
   have:=xO l (-1) (by decide) l1 hr;simp only[eG,bj];omega
  next=>simp)⟩
theorem AL {M:aC} {w0:World} {be bb ba:Nat} {v:Value} {b:List UInt8} {at_:Int} (he:w0.heap[be]? =some (.cells #[.int .i64 0] 26 (0,0))) (hb:w0.heap[bb]? =some (.cells #[v] 204 (0,0))) (ha:w0.heap[ba]? =some (.cells #[.int .i64 at_] 3 (0,0))) (eN:be≠ba) (U0:M be) (WT:M ba) (hv:(RT.u8.sl).V M w0 b v) (MJ: -9223372036854775808≤at_∧at_≤9223372036854775807):
  Spec Tryz.prog 287 #[.pointer (some ⟨be,0,none⟩),.pointer (some ⟨bb,0,none⟩),.pointer (some ⟨ba,0,none⟩)] w0 (fun v' w'=>v'= .int .i64 (get b at_).1∧w'.heap[be]? =some (.cells #[.int .i64 (get b at_).2.2] 26 (0,0))∧w'.heap[ba]? =some (.cells #[.int .i64 (get b at_).2.1] 3 (0,0))∧Step M w0 M w' (fun k=>k=be∨k=ba)):=by
 refine bg (args:=[_,_,_]) (fn:=Tryz.f287) Tryz.func287 rfl (n:=15) Tryz.ntmps287 (aj (ae (ah rfl rfl (ab (aj (aj (ae (aP vL rfl rfl rfl (by assumption) rfl (fe rfl rfl rfl (ab ?_))))))))));refine bN rfl (fun c1=>?_) (fun c1=>?_)
 ·exact absurd rfl c1
 ·refine aT (aj (ae (ah rfl rfl (ab (aj (ae (aP bM rfl rfl rfl (by assumption) rfl (aP ax rfl rfl rfl (by assumption) rfl ?_))))))));refine aW rfl rfl XL (DX hv MJ) (fun r w1 h1=>?_);obtain⟨rfl,rfl⟩:=h1;refine ad rfl rfl (bV rfl rfl rfl (bV rfl rfl rfl (bV rfl rfl rfl (ah rfl rfl ?_))));refine cu (M:=M) I3 rfl rfl ha rfl rfl WT (fun w1 h1 s1=>?_);refine cu (M:=M) I26 rfl rfl (s1.keep he eN) rfl rfl U0 (fun w2 h2 s2=>?_);refine ab (aj (ae (ad rfl rfl (ah rfl rfl (ab (aQ ?_))))));refine aV rfl rfl ⟨rfl,h2,s2.keep h1 (Ne.symm eN),?_⟩;exact(s1.cF (fun b hb=> .inr hb) (fun b hb=>by rcases hb with rfl|rfl<;>assumption)).trans s2 (fun b _ hb=> .inl hb)
theorem yG {M:aC} {w0:World} {v:Value} {b:List UInt8} {at_:Int} (hM:Lt M w0) (hv:(RT.u8.sl).V M w0 b v) (MJ: -9223372036854775808≤at_∧at_≤9223372036854775807) (kY:b.length≤1099511627776):
  Spec Tryz.prog 264 #[v,.int .i64 at_] w0 (fun v' w'=>∃x,v'= .tuple #[x,.int .i64 (ia b at_).2.2,.int .i64 (ia b at_).1]∧((RT.int .i64).sl).V M w' (ia b at_).2.1 x∧Step M w0 M w' aD):=by
 refine bg (args:=[_,_]) (fn:=Tryz.f264) Tryz.func264 rfl (n:=48) Tryz.ntmps264 (aj (ae ?_));refine wJ M rfl rfl (fun bb w1 L0 apj hB s1=>?_);rw[jw hv]at hB;refine wJ (ins M bb) rfl rfl (fun ba w2 hba apk hA s2=>?_);refine ah rfl rfl (ah rfl rfl (ah rfl rfl (ab (aj (ae ?_)))));refine ek (ins (ins M bb) ba) I26 rfl (fun be w3 hbe apl hE s3=>?_);refine cu (M:=ins (ins (ins M bb) ba) be) I26 rfl rfl hE rfl rfl (.inl rfl) (fun w4 hE4 s4=>?_);have z1:=s1.size;have z2:=s2.size;have z3:=s3.size;have z4:=s4.size;have S4:Step M w0 (ins (ins (ins M bb) ba) be) w4 aD:=((s1.aB s2).aB s3).cf s4 (fun k hk=>by subst hk;omega);have hB4:=s4.keep (s3.aK (s2.aK hB)) (show bb≠be by omega);have hA4:=s4.keep (s3.aK hA) (show ba≠be by omega);refine ab (aj (ae (j5 (xs:=[]) rfl rfl rfl (ah rfl rfl (ab (aj (ae (ah rfl rfl (ab (aj (ae ?_)))))))))));refine ah rfl rfl (ab (aj (aj (ae (ad rfl rfl ?_)))));refine zy (first:=[]) (xs:=[]) rfl rfl rfl XM (AL (M:=ins (ins (ins M bb) ba) be) hE4 hB4 hA4 (by omega) (.inl rfl) (.inr (.inl rfl)) (hv.le S4.le) MJ) (fun r w5 h5=>?_);obtain⟨rfl,hE5,hA5,s5⟩:=h5;have z5:=s5.size;have S5:=S4.cf s5 (fun k hk=>by omega);have P2:=s5.keep hB4 (by omega);obtain⟨hn0,hn1,hn2,hn3⟩:=oH b at_;refine aU (v':= .int .i64 (((get b at_).1.toNat:Nat):Int)) (by rw[zo hn0]) (ah rfl rfl (ab (aZ ?_)));refine dn (σ:=Nat×Int×Value×List Int×Int×Int) (fun s=>[(7,.pointer (some ⟨be,0,none⟩)),(3,.pointer (some ⟨ba,0,none⟩)),(8,.func (.func 287) [].toArray [.pointer (some ⟨be,0,none⟩),.pointer (some ⟨bb,0,none⟩),.pointer (some ⟨ba,0,none⟩)].toArray),(9,s.2.2.1),(10,.int .i64 s.2.1),(11,.int .i64 s.1)]) (fun s w=>(s.1:Int)≤9223372036854775807∧(s.2.2.2.2.1=0→ia b at_=andThen s.2.2.2.1 (iK b s.1 s.2.2.2.2.2 s.2.1))∧(s.2.2.2.2.1≠0→ia b at_=(s.2.2.2.2.1,[],0))∧(s.2.2.2.2.1=0→ -1≤s.2.1∧s.2.1≤4611686018427387904∧(s.2.2.2.1.length:Int)≤s.2.2.2.2.2∧s.2.2.2.2.2≤b.length)∧s.2.2.2.1.length≤b.length+1∧∃M1,Lt M1 w∧Step M w0 M1 w aD∧w4.heap.size≤w.heap.size∧M1 be∧M1 ba∧Own (RT.int .i64) 3 M1 w w4.heap.size s.2.2.1 s.2.2.2.1∧w.heap[be]? =some (.cells #[.int .i64 s.2.2.2.2.1] 26 (0,0))∧w.heap[ba]? =some (.cells #[.int .i64 s.2.2.2.2.2] 3 (0,0))∧w.heap[bb]? =some (.cells #[v] 204 (0,0))) (fun s=>s.1) ((get b at_).1.toNat,-1,_,[],(get b at_).2.2,(get b at_).2.1) (.cons rfl (.cons rfl (.cons rfl (.cons rfl (.cons rfl (.cons rfl .nil)))))) ?_ ?_
 ·refine⟨by have:=Al b at_;simp only;omega,fun h=>?_,fun h=>?_,fun h=>?_,by simp,_,S5.lt hM,S5,z5,.inl rfl,.inr (.inl rfl),dz _ _ _ _ _,hE5,hA5,P2⟩
  ·unfold ia;rw[if_neg (by simpa using h)];exact(CM _ (IC b _ _ _)).symm
  ·unfold ia;rw[if_pos h]
  ·have:=uK h;simp only[jU];omega
 ·rintro⟨many,last,u0,acc,e,a1⟩ wl ⟨hmb,OF,Iz,hok,UY,M1,nC,S,zl,U0,WT,ho,hE,hA,hB⟩;dsimp only at hmb OF Iz hok UY ho hE hA hB ⊢;refine aj (aj (ae (ad rfl rfl (jv rfl rfl rfl (ad rfl rfl ?_)))));refine aN (g:=18) rfl (fun TA=>?_) (fun TA=>?_)
  ·refine al rfl rfl (aP vL rfl rfl rfl (by assumption) rfl (al rfl rfl (tc rfl rfl rfl (aX rfl rfl rfl (ab ?_)))));refine bN rfl (fun c6=>?_) (fun c6=>?_)
   ·refine aT (aj (aZ (aj (ae (ad rfl rfl ?_)))));refine zy (first:=[]) (xs:=[]) rfl rfl rfl XM (AL (M:=M1) (by rw[c6]at hE;exact hE) hB hA (by omega) U0 WT (hv.le S.le) (by have:=hok c6;omega)) (fun r w6 h6=>?_);obtain⟨rfl,Y4,Y5,s6⟩:=h6;have z6:=s6.size;have S6:=S.cf s6 (fun k hk=>by omega);have Y6:=s6.keep hB (by omega);have tJ:=ho.step s6 (fun k hk h=>by have:=(ho.base k hk).1;omega);have Ji:=s6.lt nC;obtain⟨hn0,hn1,hn2,hn3⟩:=oH b a1;obtain⟨tn,A7,hk3,hk4⟩:=hok c6;refine ah rfl rfl (ab (aj (aj (ae (aP vL rfl rfl rfl (by assumption) rfl (tc rfl rfl rfl (ad rfl rfl ?_)))))));refine aN (g:=28) rfl (fun BK=>?_) (fun BK=>?_)
    ·refine al rfl rfl (ad rfl rfl (al rfl rfl (ad rfl rfl (al rfl rfl (fu rfl rfl rfl (by omega) (al rfl rfl (fu rfl rfl rfl (by omega) (al rfl rfl (jv rfl rfl rfl (aX rfl rfl rfl (ab ?_)))))))))));refine bN rfl (fun c9=>?_) (fun c9=>?_)
     ·refine ae ?_;refine cu (M:=M1) I26 rfl rfl Y4 rfl rfl U0 (fun w7 hE7 s7=>?_);have z7:=s7.size;replace S6:=S6.cf s7 (fun k hk=>by subst hk;omega);replace Y6:=s7.keep Y6 (show bb≠be by omega);replace Y5:=s7.keep Y5 (show ba≠be by omega);replace tJ:=tJ.step s7 (fun k hk h=>by have:=(ho.base k hk).1;omega);replace Ji:=s7.lt Ji;replace Y4:=hE7;refine ab (aj (ae (ad rfl rfl (ad rfl rfl (Rg.wO rfl rfl rfl (Rg.wO rfl rfl rfl (ah rfl rfl (ab (ae (ad rfl rfl (ad rfl rfl ?_)))))))))));refine eg (A:=RT.int .i64) (hn:=by decide) (M:=M1) an I3 (by decide) rfl rfl Ji (fI (sI _)) (.inr ⟨rfl,rfl⟩) (fun u w8 hu s8=>?_);refine cX (M:=M1) (base:=w4.heap.size) an I3 rfl rfl rfl rfl (tJ.aM s8) hu (aq _ _) (by simp;omega) (by simp;omega) (by have:=s8.size;omega) (fun v9 M9 w9 P3 s9=>?_);have z8:=s8.size;have z9:=s9.size;have j4:∀k,k<w4.heap.size→¬fC u0 k:=fun k hk h=>by have:=(ho.base k h).1;omega
      have ML:=s9.keep (s8.aK Y4) (j4 be (by omega));have Y7:=s9.keep (s8.aK Y5) (j4 ba (by omega));have Y8:=s9.keep (s8.aK Y6) (j4 bb (by omega));have S9:=(S6.aB s8).cV s9 (tJ.aM s8) (by omega);have RR:=s9.lt (s8.lt Ji);have MM:M9 be:=(s9.mem be (by omega)).2 U0;have MN:M9 ba:=(s9.mem ba (by omega)).2 WT;refine ah rfl rfl (ab (ae (ad rfl rfl (fu rfl rfl rfl (by omega) (ah rfl rfl (ab ?_))))));refine⟨rfl,(many-1,(IntKind.i64.wrap (last+IntKind.i64.wrap ((get b a1).1+1))),v9,acc++[(IntKind.i64.wrap (last+IntKind.i64.wrap ((get b a1).1+1)))],(if(get b a1).2.2=0∧4611686018427387904-last-1<(get b a1).1 then 2 else(get b a1).2.2),(get b a1).2.1),(.cons rfl (.cons rfl (.cons rfl (.cons rfl (.cons rfl (.cons (show some (Value.int .i64 ((many:Int)-1))=some (Value.int .i64 ((many-1:Nat):Int))from by congr 2;omega) .nil)))))),?_,?_⟩
      ·have hx:(get b a1).2.2=0→¬4611686018427387904-last-1<(get b a1).1→(IntKind.i64.wrap (last+IntKind.i64.wrap ((get b a1).1+1)))=last+1+(get b a1).1:=fun h1 h2=>by rw[jX ((get b a1).1+1) (by omega),jX _ (by omega)];omega
       have Wx:many=(many-1)+1:=by omega
       have yH:=OF c6;rw[Wx]at yH;refine⟨by simp only;omega,fun h=>?_,fun h=>?_,fun h=>?_,by have:=hok c6;simp only[bj,cM,jU];omega,M9,RR,S9,by omega,MM,MN,P3,?_,Y7,Y8⟩
       ·dsimp only at h ⊢;have h3:(get b a1).2.2=0∧¬4611686018427387904-last-1<(get b a1).1:=by split at h<;>omega
        rw[yH,oG acc h3.1 h3.2,hx h3.1 h3.2]
       ·dsimp only at h ⊢;rw[yH]
        split
        ·rename_i h4;rw[uL h4.1 h4.2];rfl
        ·rename_i h4
         have h5:(get b a1).2.2≠0:=by intro h6;rw[if_neg h4]at h;exact h h6
         rw[sk h5];unfold andThen;rw[if_pos h5]
       ·dsimp only at h ⊢;have h3:(get b a1).2.2=0∧¬4611686018427387904-last-1<(get b a1).1:=by split at h<;>omega
        have:=uK h3.1;rw[hx h3.1 h3.2];simp only[bj,cM,jU];omega
       ·dsimp only
        first
        |(rw[if_pos ⟨BK,c9⟩];exact ML)
        |(rw[if_neg (fun h=>c9 h.2)];exact ML)
        |(rw[if_neg (fun h=>BK h.1)];exact ML)
      ·simp only;omega
     ·refine aT (aj (ae (ad rfl rfl (ad rfl rfl (Rg.wO rfl rfl rfl (Rg.wO rfl rfl rfl (ah rfl rfl (ab (ae (ad rfl rfl (ad rfl rfl ?_)))))))))));refine eg (A:=RT.int .i64) (hn:=by decide) (M:=M1) an I3 (by decide) rfl rfl Ji (fI (sI _)) (.inr ⟨rfl,rfl⟩) (fun u w8 hu s8=>?_);refine cX (M:=M1) (base:=w4.heap.size) an I3 rfl rfl rfl rfl (tJ.aM s8) hu (aq _ _) (by simp;omega) (by simp;omega) (by have:=s8.size;omega) (fun v9 M9 w9 P3 s9=>?_);have z8:=s8.size;have z9:=s9.size;have j4:∀k,k<w4.heap.size→¬fC u0 k:=fun k hk h=>by have:=(ho.base k h).1;omega
      have ML:=s9.keep (s8.aK Y4) (j4 be (by omega));have Y7:=s9.keep (s8.aK Y5) (j4 ba (by omega));have Y8:=s9.keep (s8.aK Y6) (j4 bb (by omega));have S9:=(S6.aB s8).cV s9 (tJ.aM s8) (by omega);have RR:=s9.lt (s8.lt Ji);have MM:M9 be:=(s9.mem be (by omega)).2 U0;have MN:M9 ba:=(s9.mem ba (by omega)).2 WT;refine ah rfl rfl (ab (ae (ad rfl rfl (fu rfl rfl rfl (by omega) (ah rfl rfl (ab ?_))))));refine⟨rfl,(many-1,(IntKind.i64.wrap (last+IntKind.i64.wrap ((get b a1).1+1))),v9,acc++[(IntKind.i64.wrap (last+IntKind.i64.wrap ((get b a1).1+1)))],(if(get b a1).2.2=0∧4611686018427387904-last-1<(get b a1).1 then 2 else(get b a1).2.2),(get b a1).2.1),(.cons rfl (.cons rfl (.cons rfl (.cons rfl (.cons rfl (.cons (show some (Value.int .i64 ((many:Int)-1))=some (Value.int .i64 ((many-1:Nat):Int))from by congr 2;omega) .nil)))))),?_,?_⟩
      ·have hx:(get b a1).2.2=0→¬4611686018427387904-last-1<(get b a1).1→(IntKind.i64.wrap (last+IntKind.i64.wrap ((get b a1).1+1)))=last+1+(get b a1).1:=fun h1 h2=>by rw[jX ((get b a1).1+1) (by omega),jX _ (by omega)];omega
       have Wx:many=(many-1)+1:=by omega
       have yH:=OF c6;rw[Wx]at yH;refine⟨by simp only;omega,fun h=>?_,fun h=>?_,fun h=>?_,by have:=hok c6;simp only[bj,cM,jU];omega,M9,RR,S9,by omega,MM,MN,P3,?_,Y7,Y8⟩
       ·dsimp only at h ⊢;have h3:(get b a1).2.2=0∧¬4611686018427387904-last-1<(get b a1).1:=by split at h<;>omega
        rw[yH,oG acc h3.1 h3.2,hx h3.1 h3.2]
       ·dsimp only at h ⊢;rw[yH]
        split
        ·rename_i h4;rw[uL h4.1 h4.2];rfl
        ·rename_i h4
         have h5:(get b a1).2.2≠0:=by intro h6;rw[if_neg h4]at h;exact h h6
         rw[sk h5];unfold andThen;rw[if_pos h5]
       ·dsimp only at h ⊢;have h3:(get b a1).2.2=0∧¬4611686018427387904-last-1<(get b a1).1:=by split at h<;>omega
        have:=uK h3.1;rw[hx h3.1 h3.2];simp only[bj,cM,jU];omega
       ·dsimp only
        first
        |(rw[if_pos ⟨BK,c9⟩];exact ML)
        |(rw[if_neg (fun h=>c9 h.2)];exact ML)
        |(rw[if_neg (fun h=>BK h.1)];exact ML)
      ·simp only;omega
    ·refine ar rfl rfl rfl rfl (ar rfl rfl rfl rfl (ar rfl rfl rfl rfl (ar rfl rfl rfl rfl (ar rfl rfl rfl rfl (aE rfl rfl rfl (ab (iX rfl (aT (aj (ae (ad rfl rfl ?_)))))))))));refine ad rfl rfl (Rg.wO rfl rfl rfl (Rg.wO rfl rfl rfl (ah rfl rfl (ab (ae (ad rfl rfl (ad rfl rfl ?_)))))));refine eg (A:=RT.int .i64) (hn:=by decide) (M:=M1) an I3 (by decide) rfl rfl Ji (fI (sI _)) (.inr ⟨rfl,rfl⟩) (fun u w8 hu s8=>?_);refine cX (M:=M1) (base:=w4.heap.size) an I3 rfl rfl rfl rfl (tJ.aM s8) hu (aq _ _) (by simp;omega) (by simp;omega) (by have:=s8.size;omega) (fun v9 M9 w9 P3 s9=>?_);have z8:=s8.size;have z9:=s9.size;have j4:∀k,k<w4.heap.size→¬fC u0 k:=fun k hk h=>by have:=(ho.base k h).1;omega
     have ML:=s9.keep (s8.aK Y4) (j4 be (by omega));have Y7:=s9.keep (s8.aK Y5) (j4 ba (by omega));have Y8:=s9.keep (s8.aK Y6) (j4 bb (by omega));have S9:=(S6.aB s8).cV s9 (tJ.aM s8) (by omega);have RR:=s9.lt (s8.lt Ji);have MM:M9 be:=(s9.mem be (by omega)).2 U0;have MN:M9 ba:=(s9.mem ba (by omega)).2 WT;refine ah rfl rfl (ab (ae (ad rfl rfl (fu rfl rfl rfl (by omega) (ah rfl rfl (ab ?_))))));refine⟨rfl,(many-1,(IntKind.i64.wrap (last+IntKind.i64.wrap ((get b a1).1+1))),v9,acc++[(IntKind.i64.wrap (last+IntKind.i64.wrap ((get b a1).1+1)))],(if(get b a1).2.2=0∧4611686018427387904-last-1<(get b a1).1 then 2 else(get b a1).2.2),(get b a1).2.1),(.cons rfl (.cons rfl (.cons rfl (.cons rfl (.cons rfl (.cons (show some (Value.int .i64 ((many:Int)-1))=some (Value.int .i64 ((many-1:Nat):Int))from by congr 2;omega) .nil)))))),?_,?_⟩
     ·have hx:(get b a1).2.2=0→¬4611686018427387904-last-1<(get b a1).1→(IntKind.i64.wrap (last+IntKind.i64.wrap ((get b a1).1+1)))=last+1+(get b a1).1:=fun h1 h2=>by rw[jX ((get b a1).1+1) (by omega),jX _ (by omega)];omega
      have Wx:many=(many-1)+1:=by omega
      have yH:=OF c6;rw[Wx]at yH;refine⟨by simp only;omega,fun h=>?_,fun h=>?_,fun h=>?_,by have:=hok c6;simp only[bj,cM,jU];omega,M9,RR,S9,by omega,MM,MN,P3,?_,Y7,Y8⟩
      ·dsimp only at h ⊢;have h3:(get b a1).2.2=0∧¬4611686018427387904-last-1<(get b a1).1:=by split at h<;>omega
       rw[yH,oG acc h3.1 h3.2,hx h3.1 h3.2]
      ·dsimp only at h ⊢;rw[yH]
       split
       ·rename_i h4;rw[uL h4.1 h4.2];rfl
       ·rename_i h4
        have h5:(get b a1).2.2≠0:=by intro h6;rw[if_neg h4]at h;exact h h6
        rw[sk h5];unfold andThen;rw[if_pos h5]
      ·dsimp only at h ⊢;have h3:(get b a1).2.2=0∧¬4611686018427387904-last-1<(get b a1).1:=by split at h<;>omega
       have:=uK h3.1;rw[hx h3.1 h3.2];simp only[bj,cM,jU];omega
      ·dsimp only
       first
       |(rw[if_pos ⟨BK,c9⟩];exact ML)
       |(rw[if_neg (fun h=>c9 h.2)];exact ML)
       |(rw[if_neg (fun h=>BK h.1)];exact ML)
     ·simp only;omega
   ·refine cI (aj (aj (ae (aP vL rfl rfl rfl (by assumption) rfl (fe rfl rfl rfl (ab ?_))))));refine bN rfl (fun Pw=>?_) (fun Pw=>?_)
    ·refine aj ?_;apply uz mixed rfl rfl;intro UR MB;have qY:=MB M1;refine aP vL rfl rfl rfl (by first|assumption|exact cZ qY (by assumption)) rfl ?_;refine ab ⟨rfl,rfl,rfl,?_⟩;refine ah rfl rfl ?_;refine ab ⟨rfl,rfl,rfl,?_⟩;refine ah rfl rfl ?_;refine ab ⟨rfl,rfl,rfl,?_⟩;refine ah rfl rfl ?_;refine ab ⟨rfl,rfl,rfl,?_⟩;refine eQ (aQ ?_);have hr:=Iz Pw;exact rj rfl rfl rfl rfl ⟨_,by rw[hr]<;>rfl,by rw[hr];exact o8,(S.aB qY).back⟩
    ·refine aT (aj ?_);apply uz mixed rfl rfl;intro U1 MO;have pL:=MO M1;refine ad rfl rfl ?_;refine ab ⟨rfl,rfl,rfl,?_⟩;refine aP ax rfl rfl rfl (by first|assumption|exact cZ pL (by assumption)) rfl ?_;refine ab ⟨rfl,rfl,rfl,?_⟩;refine ah rfl rfl ?_;refine ab ⟨rfl,rfl,rfl,?_⟩;refine ah rfl rfl ?_;refine ab ⟨rfl,rfl,rfl,?_⟩;refine ah rfl rfl ?_;refine ab ⟨rfl,rfl,rfl,?_⟩;refine eQ (aQ ?_);have hz:many=0:=by omega
     have hr:=OF (by omega);rw[hz,xQ]at hr;simp only[andThen,ne_eq,not_true_eq_false,if_false,fP]at hr;have Y9:=S.aB pL;refine rj rfl rfl rfl rfl ⟨_,by rw[hr]<;>rfl,?_,Y9.back⟩;rw[hr];exact xg hM Y9 ((ho.aM pL).nj (by omega)) (by simp only;omega)
  ·refine ar rfl rfl rfl rfl (ar rfl rfl rfl rfl (aE rfl rfl rfl (ab (iX rfl (cI (aj (aj (ae (aP vL rfl rfl rfl (by assumption) rfl (fe rfl rfl rfl (ab ?_)))))))))));refine bN rfl (fun Pw=>?_) (fun Pw=>?_)
   ·refine aj ?_;apply uz mixed rfl rfl;intro UR MB;have qY:=MB M1;refine aP vL rfl rfl rfl (by first|assumption|exact cZ qY (by assumption)) rfl ?_;refine ab ⟨rfl,rfl,rfl,?_⟩;refine ah rfl rfl ?_;refine ab ⟨rfl,rfl,rfl,?_⟩;refine ah rfl rfl ?_;refine ab ⟨rfl,rfl,rfl,?_⟩;refine ah rfl rfl ?_;refine ab ⟨rfl,rfl,rfl,?_⟩;refine eQ (aQ ?_);have hr:=Iz Pw;exact rj rfl rfl rfl rfl ⟨_,by rw[hr]<;>rfl,by rw[hr];exact o8,(S.aB qY).back⟩
   ·refine aT (aj ?_);apply uz mixed rfl rfl;intro U1 MO;have pL:=MO M1;refine ad rfl rfl ?_;refine ab ⟨rfl,rfl,rfl,?_⟩;refine aP ax rfl rfl rfl (by first|assumption|exact cZ pL (by assumption)) rfl ?_;refine ab ⟨rfl,rfl,rfl,?_⟩;refine ah rfl rfl ?_;refine ab ⟨rfl,rfl,rfl,?_⟩;refine ah rfl rfl ?_;refine ab ⟨rfl,rfl,rfl,?_⟩;refine ah rfl rfl ?_;refine ab ⟨rfl,rfl,rfl,?_⟩;refine eQ (aQ ?_);have hz:many=0:=by omega
    have hr:=OF (by omega);rw[hz,xQ]at hr;simp only[andThen,ne_eq,not_true_eq_false,if_false,fP]at hr;have Y9:=S.aB pL;refine rj rfl rfl rfl rfl ⟨_,by rw[hr]<;>rfl,?_,Y9.back⟩;rw[hr];exact xg hM Y9 ((ho.aM pL).nj (by omega)) (by simp only;omega)
end Go.K
namespace Go.K
open Go.Proofs
set_option maxRecDepth 10000
theorem AM {M:aC} {w0:World} {v u:Value} {a b:List Int} (hM:Lt M w0) (hv:((RT.int .i64).sl).V M w0 a v) (hu:((RT.int .i64).sl).V M w0 b u):
  Spec Tryz.prog 33 #[v,u] w0 (fun v' w'=>v'= .bool (decide (a=b))∧Step M w0 M w' aD):=by
 have hla:=ei hv;have hlb:=ei hu;refine bg (args:=[_,_]) (fn:=Tryz.f33) Tryz.func33 rfl (n:=26) Tryz.ntmps33 (aj (ae (ah rfl rfl (ab (aj (aj (ae (ad rfl rfl (bR an rfl hv rfl (ad rfl rfl (bR an rfl hu rfl ?_)))))))))));refine fe rfl rfl rfl (ab ?_);refine bN rfl (fun c1=>?_) (fun c1=>?_)
 ·refine aj (ae (ah rfl rfl (ab (aQ ?_))));refine aV rfl rfl ⟨?_,aw _ _⟩;rw[decide_eq_false];rintro rfl;exact c1 rfl
 ·obtain hlen:a.length=b.length:=by omega
  refine aT (aj (aj (ae (ah rfl rfl (ab (aZ ?_))))));refine dn (σ:=Nat) (fun s=>[(0,v),(1,u),(5,.int .i64 s)]) (fun s w=>s≤a.length∧a.take s=b.take s∧Step M w0 M w aD) (fun s=>a.length-s) 0 (.cons rfl (.cons rfl (.cons rfl .nil))) ?_ ?_
  ·exact⟨bG _,by simp,aw _ _⟩
  ·rintro k w1 ⟨hk,heq,s1⟩;refine aj (aj (ae (ad rfl rfl (ad rfl rfl (bR an rfl hv rfl (cn rfl rfl rfl (ab ?_)))))));refine bN rfl (fun c4=>?_) (fun c4=>?_)
   ·refine aT (aj (aZ (aj ?_)));obtain⟨x,hx⟩:∃x,a[k]? =some x:=⟨_,au (by omega)⟩;obtain⟨y,hy⟩:∃y,b[k]? =some y:=⟨_,au (by omega)⟩;apply T.draw (M:=M) mixed [cJ.eq _,cJ.eq _,cJ.ptr (RT.int .i64) x,cJ.eq _,cJ.eq _,cJ.eq _,cJ.ptr (RT.int .i64) y,cJ.eq _,cJ.eq _]
    ·rfl
    ·refine cg ?_ ?_
     ·intro wD E sD;refine ad rfl rfl ?_;exact ab ⟨rfl,rfl,_,rfl,rfl,aw _ _⟩
     refine cg ?_ ?_
     ·intro wD E sD;refine ad rfl rfl ?_;exact ab ⟨rfl,rfl,_,rfl,rfl,aw _ _⟩
     refine cg ?_ ?_
     ·intro wD E sD;refine aR (aR ?_);refine cE (M:=M) an I3 rfl rfl rfl hv (by repeat (first|exact aq _ _|refine aY (bu (by assumption)) ?_)) (by omega) (fun TU afF Za MR=>?_);obtain rfl:afF=x:=aI (Za.symm.trans (by simpa using hx));exact ab ⟨rfl,rfl,_,rfl,MR,aw _ _⟩
     refine cg ?_ ?_
     ·intro wD E sD;intro v2 CX;refine cb (M:=M) ax rfl rfl (by assumption) (by repeat (first|exact aq _ _|refine aY (bu (by assumption)) ?_)) (fun Zb=>?_);exact ab ⟨rfl,rfl,_,rfl,rfl,aw _ _⟩
     refine cg ?_ ?_
     ·intro wD E sD;refine ad rfl rfl ?_;exact ab ⟨rfl,rfl,_,rfl,rfl,aw _ _⟩
     refine cg ?_ ?_
     ·intro wD E sD;refine ad rfl rfl ?_;exact ab ⟨rfl,rfl,_,rfl,rfl,aw _ _⟩
     refine cg ?_ ?_
     ·intro wD E sD;refine aR (aR ?_);refine cE (M:=M) an I3 rfl rfl rfl hu (by repeat (first|exact aq _ _|refine aY (bu (by assumption)) ?_)) (by omega) (fun aps afG Zc Zd=>?_);obtain rfl:afG=y:=aI (Zc.symm.trans (by simpa using hy));exact ab ⟨rfl,rfl,_,rfl,Zd,aw _ _⟩
     refine cg ?_ ?_
     ·intro wD E sD;intro v6 uU;refine cb (M:=M) ax rfl rfl (by assumption) (by repeat (first|exact aq _ _|refine aY (bu (by assumption)) ?_)) (fun akz=>?_);exact ab ⟨rfl,rfl,_,rfl,rfl,aw _ _⟩
     refine cg ?_ ?_
     ·intro wD E sD;refine aR (aR (fe rfl rfl rfl ?_));exact ab ⟨rfl,rfl,_,rfl,rfl,aw _ _⟩
     exact dR.nil
    ·intro wD6 Cq;refine aR (aR ?_);intro apt akA;refine aR (aR (aR ?_));intro apu akB;refine aR (aR ?_);refine bN rfl (fun c6=>?_) (fun c6=>?_)
     ·refine aj (ae (ah rfl rfl (ab (aQ ?_))));refine aV rfl rfl ⟨?_,s1.aB Cq⟩;rw[decide_eq_false];rintro rfl;rw[hx]at hy;cases hy;exact c6 rfl
     ·refine aT (ae (ad rfl rfl (bD rfl rfl rfl (by omega) (ah rfl rfl (ab ?_)))));refine⟨rfl,k+1,(.cons rfl (.cons rfl (.cons rfl .nil))),?_,?_⟩
      ·exact⟨by omega,by rw[gU (by omega),gU (by omega),heq];obtain⟨_,h1⟩:=ao.1 hx;obtain⟨_,h2⟩:=ao.1 hy;rw[h1,h2,dE.1 c6],s1.aB Cq⟩
      ·show a.length-(k+1)<a.length-k;omega
   ·refine cI (aj (ae (ah rfl rfl (ab (aQ ?_)))));refine aV rfl rfl ⟨?_,s1⟩;rw[decide_eq_true]
    rwa [bc (by omega),bc (by omega)]at heq
end Go.K
namespace Go.K
open Go.Proofs
set_option maxRecDepth 10000
theorem P5 {M:aC} {w0:World} {v:Value} {x:Li} (hv:cP RT.li M w0 v x) {k:Int}:
  Spec Tryz.prog 222 #[v,.int .i64 k] w0 (fun v' w'=>v'= .bool (WB x.2.1.length k)∧w0=w'):=by
 refine bg (args:=[_,_]) (fn:=Tryz.f222) Tryz.func222 rfl (n:=16) Tryz.ntmps222 (aj (ae (ah rfl rfl (ab (aj (ae (ad rfl rfl (dT rfl rfl rfl (ad rfl rfl ?_)))))))));refine aN (g:=7) rfl (fun iB=>?_) (fun iB=>?_)
 ·refine al rfl rfl (ad rfl rfl (al rfl rfl (ad rfl rfl (al rfl rfl (bQ rfl (cP.gO (by assumption)) rfl (al rfl rfl ?_))))));refine aL (M:=M) (A:=RT.li) (B:=(RT.bl).sl) eB rfl rfl IH (by decide) (li1) rfl rfl (by decide) (by assumption) (by repeat (first|exact aq _ _|refine aY (bu (by assumption)) ?_)) (fun apv akC=>?_);refine al rfl rfl ?_;refine bT (M:=M) iN rfl rfl rfl rfl rfl (by assumption) (by repeat (first|exact aq _ _|refine aY (bu (by assumption)) ?_)) (fun Ze RS=>?_);refine al rfl rfl ?_
  first|refine bR iN rfl (by assumption) rfl ?_|refine fO iN rfl (by assumption) rfl ?_
  refine al rfl rfl (cn rfl rfl rfl (aX rfl rfl rfl (ah rfl rfl (ab (aQ ?_)))))
  first
  |exact aV rfl rfl ⟨congrArg Value.bool (decide_eq_decide.2 (by omega)),rfl⟩
  |exact aV rfl rfl ⟨congrArg Value.bool (du (decide_eq_false (by omega))),rfl⟩
 ·refine ar rfl rfl rfl rfl (ar rfl rfl rfl rfl (ar rfl rfl rfl rfl (ar rfl rfl rfl rfl (ar rfl rfl rfl rfl (ar rfl rfl rfl rfl (ar rfl rfl rfl rfl (aE rfl rfl rfl (ah rfl rfl (ab (aQ ?_))))))))))
  first
  |exact aV rfl rfl ⟨congrArg Value.bool (decide_eq_decide.2 (by omega)),rfl⟩
  |exact aV rfl rfl ⟨congrArg Value.bool (du (decide_eq_false (by omega))),rfl⟩
theorem Gj {M:aC} {w0:World} {v:Value} {b:List UInt8} {at_ ahead:Int} (hM:Lt M w0) (hv:(RT.u8.sl).V M w0 b v) (MJ: -9223372036854775808≤at_∧at_≤9223372036854775807) (hah: -9223372036854775808≤ahead∧ahead≤9223372036854775807) (kY:b.length≤1099511627776):
  Spec Tryz.prog 223 #[v,.int .i64 at_,.int .i64 ahead] w0 (fun v' w'=>∃p,v'= .tuple #[p,.int .i64 (ry b at_ ahead).2.1,.int .i64 (ry b at_ ahead).2.2]∧RT.po.V M w' (ry b at_ ahead).1 p∧Step M w0 M w' aD):=by
 refine bg (args:=[_,_,_]) (fn:=Tryz.f223) Tryz.func223 rfl (n:=38) Tryz.ntmps223 (aj (ae ?_));refine ek M oO rfl (fun b0 w1 hb0 apw hB s1=>?_);have nC:=s1.lt hM;have qL:=hv.le s1.le;refine ah rfl rfl (ah rfl rfl (ab (aj (ae (ad rfl rfl (ad rfl rfl ?_))))));refine aW rfl rfl XL (DX qL MJ) (fun r w2 h2=>?_);obtain⟨rfl,rfl⟩:=h2;have xB:=Al b at_;obtain⟨hn0,hn1,hn2,hn3⟩:=oH b at_;refine ad rfl rfl (bV rfl rfl rfl (bV rfl rfl rfl (bV rfl rfl rfl (ah rfl rfl (ah rfl rfl (ah rfl rfl (ab (aj (aj (ae (ad rfl rfl ?_)))))))))));refine fe rfl rfl rfl (ab ?_);refine bN rfl (fun c2=>?_) (fun c2=>?_)
 ·refine aj (ae (iI (places:=[(0,1),(1,1)]) bW oO XD rfl rfl (out:=[.int .i64 0,.slice none 0 0]) rfl (ad rfl rfl ?_)));refine dY (M:=ins M b0) oO rfl rfl (by intro u hu;simp at hu;rcases hu with rfl|rfl<;>rfl) rfl rfl hB (.inl rfl) (fun w3 hB3 s3=>?_);refine ah rfl rfl (ah rfl rfl (ab (aQ ?_)));have jI:=s1.size;have S:Step M w0 M w3 aD:=(s1.cf s3 (fun k hk=>by subst hk;omega)).back;refine Ky rfl rfl bW rfl oO rfl hB3 rfl rfl ⟨_,by unfold ry;rw[if_pos c2]<;>rfl,?_,S⟩;unfold ry;rw[if_pos c2];exact eT (fI (x:=0) (by omega)) o8 rfl rfl rfl rfl
 ·refine aT (aj (ae (ad rfl rfl (ad rfl rfl ?_))));have hok:=uK (b:=b) (at_:=at_) (by omega);refine aW rfl rfl adu (yG (M:=ins M b0) nC qL (by omega) kY) (fun r w3 h3=>?_);obtain⟨x3,rfl,Jj,s3⟩:=h3;refine ad rfl rfl (bV rfl rfl rfl (bV rfl rfl rfl (bV rfl rfl rfl (ah rfl rfl (ah rfl rfl (ah rfl rfl (ab (aj (ae (ad rfl rfl (Rg.wO rfl rfl rfl ?_)))))))))));refine ad rfl rfl (Rg.wO rfl rfl rfl (ad rfl rfl (iI (places:=[(0,1),(1,1)]) bW oO XD rfl ⟨_,_,rfl,rfl,_,_,rfl,rfl,rfl⟩ (out:=[_,_]) ⟨0,[_],rfl,rfl,by simp[Value.cells],1,[_],rfl,jw Jj,by simp[Value.cells],rfl⟩ (ad rfl rfl (ad rfl rfl ?_)))));obtain⟨vx,qX⟩:∃vx,vx=x3:=⟨_,rfl⟩;have rX:=mT Jj rfl rfl;refine dY (M:=ins M b0) oO rfl rfl (by intro u hu;simp at hu;rcases hu with rfl|rfl;rfl;exact rX) rfl rfl (s3.aK hB) (.inl rfl) (fun w4 hB4 s4=>?_);refine ah rfl rfl (ah rfl rfl (ab (aQ ?_)));have jI:=s1.size;have apy:=s3.size;have S3:=s1.aB s3;have S:Step M w0 M w4 aD:=(S3.cf s4 (fun k hk=>by subst hk;omega)).back;refine Ky rfl rfl bW rfl oO rfl hB4 rfl rfl ⟨_,by unfold ry;rw[if_neg c2]<;>rfl,?_,S⟩;unfold ry;rw[if_neg c2];have hx4:=(Jj.le s4.le).le (Le.close hM (S3.cf s4 (fun k hk=>by subst hk;omega)));exact eT (fI KA) hx4 rfl rfl rfl rfl
theorem Gk {M:aC} {w0:World} {v:Value} {l:List Po} {k:Int} (hM:Lt M w0) (hv:cP RT.li M w0 v (nq l)) (mN:fJ (-1) l=true) (j9:∀p∈l,p.2.length≤1099511627776) (kY:(ec (-1) l).length≤1099511627776):
  Spec Tryz.prog 180 #[v,.int .i64 k] w0 (fun v' w'=>Step M w0 M w' aD∧((RT.po).sl).V M w' (if WB ((l.length+7)/8) k then(l.drop (8*k.toNat)).take 8 else[]) v'):=by
 have Zf:(nq l).2.1.length=(l.length+7)/8:=by simp[nq,qW]
 refine bg (args:=[_,_]) (fn:=Tryz.f180) Tryz.func180 rfl (n:=51) Tryz.ntmps180 (aj (ae (ah rfl rfl (ab (aj (aj (ae (ad rfl rfl (ad rfl rfl ?_)))))))));refine aW rfl rfl adi (P5 hv (k:=k)) (fun r w1 h1=>?_);obtain⟨rfl,rfl⟩:=h1;refine mJ rfl rfl (aU (v':= .bool (decide (¬(0≤k∧k<(nq l).2.1.length)))) (by unfold WB;rw[decide_not]) (ab ?_));refine bN rfl (fun c1=>?_) (fun c1=>?_)
 ·refine aj (ae (ah rfl rfl (ab (aQ ?_))));refine aV rfl rfl ⟨aw _ _,?_⟩;rw[if_neg (by unfold WB;rw[Zf]at c1;simpa using c1)];exact o8
 ·refine aT (aj (ae (ad rfl rfl (bQ rfl (cP.gO (by assumption)) rfl ?_))));refine aL (M:=M) (A:=RT.li) (B:=(RT.bl).sl) eB rfl rfl IH (by decide) (li1) rfl rfl (by decide) (by assumption) (by repeat (first|exact aq _ _|refine aY (bu (by assumption)) ?_)) (fun Un Ax=>?_);refine bT (M:=M) iN rfl rfl rfl rfl rfl (by assumption) (by repeat (first|exact aq _ _|refine aY (bu (by assumption)) ?_)) (fun afI Zg=>?_);refine ad rfl rfl ?_;obtain⟨j,rfl⟩:∃j:Nat,k=j:=⟨k.toNat,by omega⟩;have hb:(nq l).2.1[j]? =some (vV l j):=by simp only[nq,qW,bm];rw[List.getElem?_range (by omega)];rfl
  refine cE (M:=M) iN Bi rfl rfl rfl (by assumption) (aq _ _) (by omega) (fun apA afJ Zh akD=>?_);obtain rfl:afJ=vV l j:=aI (Zh.symm.trans (by simpa using hb));have RH:(vV l j).2.2.2=(((l.drop (8*j)).take 8).length:Int):=rfl;have akE:((l.drop (8*j)).take 8).length≤8:=by rw[bC];omega
  refine dg (M:=M) (A:=RT.bl) rT rfl Bi (by decide) rfl rfl rfl (by assumption) (by repeat (first|exact aq _ _|refine aY (bu (by assumption)) ?_)) (fun apB akF=>?_);refine rR (A:=RT.bl) (M:=M) Bi rfl rfl rfl rfl rfl (by assumption) (by repeat (first|exact aq _ _|refine aY (bu (by assumption)) ?_)) (by first|assumption|exact Step.lt (by assumption) (by assumption)|exact Step.lt (by assumption) (Step.lt (by assumption) (by assumption))) (fun afK U2 akG U3 apC=>?_);refine ab (aj (ae (ah rfl rfl (ab (aj (aj ?_))))));apply T.draw (M:=M) mixed [cJ.ptr (RT.int .i64) (vV l j).1,cJ.eq _,cJ.ptr (RT.int .i64) (vV l j).2.1,cJ.eq _,cJ.eq _,cJ.eq _]
  ·rfl
  ·refine cg ?_ ?_
   ·intro wD E sD;refine aL (M:=M) (A:=RT.bl) (B:=RT.int .i64) rT rfl rfl I3 (by decide) (bl0) rfl rfl (by decide) (by assumption) (by repeat (first|exact aq _ _|refine aY (bu (by assumption)) ?_)) (fun Y2 HL=>?_);exact ab ⟨rfl,rfl,_,rfl,by assumption,aw _ _⟩
   refine cg ?_ ?_
   ·intro wD E sD;intro v0 Oy;refine cb (M:=M) ax rfl rfl (by assumption) (by repeat (first|exact aq _ _|refine aY (bu (by assumption)) ?_)) (fun RU=>?_);exact ab ⟨rfl,rfl,_,rfl,rfl,aw _ _⟩
   refine cg ?_ ?_
   ·intro wD E sD;refine aL (M:=M) (A:=RT.bl) (B:=RT.int .i64) rT rfl rfl I3 (by decide) (bl1) rfl rfl (by decide) (by assumption) (by repeat (first|exact aq _ _|refine aY (bu (by assumption)) ?_)) (fun afL wx=>?_);exact ab ⟨rfl,rfl,_,rfl,by assumption,aw _ _⟩
   refine cg ?_ ?_
   ·intro wD E sD;intro v2 CX;refine cb (M:=M) ax rfl rfl (by assumption) (by repeat (first|exact aq _ _|refine aY (bu (by assumption)) ?_)) (fun akH=>?_);exact ab ⟨rfl,rfl,_,rfl,rfl,aw _ _⟩
   refine cg ?_ ?_
   ·intro wD E sD;refine aR ?_;intro v0 Oy;refine aR (ah rfl rfl ?_);exact ab ⟨rfl,rfl,_,rfl,rfl,aw _ _⟩
   refine cg ?_ ?_
   ·intro wD E sD;refine aR (aR ?_);intro v0 Oy;refine aR ?_;intro v2 CX;refine aR (aR (ah rfl rfl ?_));exact ab ⟨rfl,rfl,_,rfl,rfl,aw _ _⟩
   exact dR.nil
  ·intro wD5 PZ;intro apD akI;refine aR ?_;intro aeg Rq;refine aR (aR (aR (aZ ?_)));have hz5:=U3.size;refine dn (σ:=Nat×Value) (fun s=>[(0,v),(5,afK),(6,s.2),(7,.int .i64 (ec (-1) (l.take (8*j+s.1))).length),(8,.int .i64 (dv (-1) (l.take (8*j+s.1))))]) (fun s w=>s.1≤((l.drop (8*j)).take 8).length∧∃M1,Lt M1 w∧Step M w0 M1 w aD∧Step M U2 M1 w aD∧Own RT.po 83 M1 w U2.heap.size s.2 (((l.drop (8*j)).take 8).take s.1)) (fun s=>((l.drop (8*j)).take 8).length-s.1) (0,_) (.cons rfl (.cons rfl (.cons rfl (.cons rfl (.cons rfl .nil))))) ?_ ?_
   ·exact⟨bG _,M,PZ.lt (U3.lt hM),U3.aB PZ,PZ,dz _ _ _ _ _⟩
   ·rintro⟨i,u0⟩ w1 ⟨hi,M1,nC,S,S5,ho⟩;dsimp only at hi ho ⊢;refine aj (aj (ae (ad rfl rfl (fO bI rfl ho rfl (aU (v':= .int .i64 i) (by rw[bC,xv hi]) ?_)))));refine aL (M:=M1) (A:=RT.bl) (B:=RT.int .i64) rT rfl rfl I3 (by decide) (bl3) rfl rfl (by decide) (by assumption) (by repeat (first|exact aq _ _|refine aY (bu (by assumption)) ?_)) (fun TU MR=>?_);refine cb (M:=M1) ax rfl rfl MR (aq _ _) (fun Zb=>?_);refine aU (v':= .int .i64 ((l.drop (8*j)).take 8).length) rfl (cn rfl rfl rfl (ab ?_));refine bN rfl (fun c6=>?_) (fun c6=>?_)
    ·refine aT (aZ (aj (ae (ad rfl rfl (bQ rfl (cP.gO (by assumption)) rfl ?_)))));refine aL (M:=M1) (A:=RT.li) (B:=RT.u8.sl) eB rfl rfl CS (by decide) (li0) rfl rfl (by decide) (by assumption) (by repeat (first|exact aq _ _|refine aY (bu (by assumption)) ?_)) (fun aeW AH=>?_);refine bT (M:=M1) bM rfl rfl rfl rfl rfl (by assumption) (by repeat (first|exact aq _ _|refine aY (bu (by assumption)) ?_)) (fun apE Zi=>?_);refine ad rfl rfl (ad rfl rfl ?_);obtain⟨⟨d,ps⟩,hx⟩:∃x,l[8*j+i]? =some x:=⟨_,au (by rw[bC,dw]at c6;omega)⟩;obtain⟨f1,f2,f3,f4,f5,f6⟩:=Be mN hx;have Ro:ry (nq l).1 _ _=_:=KC mN hx (j9 _ (az hx));have qT:(ec (-1) (l.take (8*j+i))).length≤(ec (-1) l).length:=by rw[p9 (l:=l) (i:=8*j+i) (-1)];simp
     refine aW rfl rfl adj (Gj (M:=M1) nC Zi (by omega) (by omega) kY) (fun r7 w7 h7=>?_);obtain⟨p7,h7e,WU,s7⟩:=h7;rw[Ro]at h7e WU;subst h7e;change RT.po.V M1 w7 (d,ps) p7 at WU;replace S:=S.aB s7;replace S5:=S5.aB s7;replace ho:=ho.aM s7;replace nC:=s7.lt nC;have hci:((l.drop (8*j)).take 8)[i]? =some (d,ps):=by rw[cp,if_pos (by omega),List.getElem?_drop];exact hx
     refine ad rfl rfl (bV rfl rfl rfl (bV rfl rfl rfl (bV rfl rfl rfl ?_)));refine rR (A:=RT.po) (M:=M1) oO rfl rfl rfl rfl rfl (by assumption) (by repeat (first|exact aq _ _|refine aY (bu (by assumption)) ?_)) (by first|assumption|exact Step.lt (by assumption) (by assumption)|exact Step.lt (by assumption) (Step.lt (by assumption) (by assumption))) (fun akK akL MS HM akM=>?_);refine ah rfl rfl (ah rfl rfl (ab (aj (ae (ad rfl rfl ?_)))));replace S:=S.aB HM;replace S5:=S5.aB HM;replace ho:=ho.aM HM;replace nC:=HM.lt nC;clear WU;refine dg (M:=M1) (A:=RT.po) bW rfl oO (by decide) rfl rfl rfl MS (aq _ _) (fun v8 J0=>?_);refine eg (A:=RT.po) (hn:=by decide) (M:=M1) bI oO (by decide) rfl rfl nC J0 (.inl rfl) (fun u2 w2 wV s2=>?_);refine cX (M:=M1) (base:=U2.heap.size) bI oO rfl rfl rfl rfl (ho.aM s2) wV (aq _ _) (by simp;omega) (by simp;omega) (eD S5.size s2.size) (fun v3 M3 w3 yE s3=>?_);replace S:=(S.aB s2).cV s3 (ho.aM s2) hz5;have Yr:=(MS.le (by decide) s2.le).le (by decide) s3.le;have Zj:=s3.lt (s2.lt nC);replace S5:=(S5.aB s2).cV s3 (ho.aM s2) (aO _);refine ah rfl rfl (ab ?_);apply T.draw (M:=M3) mixed [cJ.eq _,cJ.ptr (RT.int .i64) d,cJ.eq _,cJ.eq _,cJ.eq _]
     ·rfl
     ·refine cg ?_ ?_
      ·intro wD E sD;refine ad rfl rfl ?_;exact ab ⟨rfl,rfl,_,rfl,rfl,aw _ _⟩
      refine cg ?_ ?_
      ·intro wD E sD;refine aL (M:=M3) (A:=RT.po) (B:=RT.int .i64) bW rfl rfl I3 (by decide) (Q9) rfl rfl (by decide) Yr sD.le (fun ae4 Mp=>?_);exact ab ⟨rfl,rfl,_,rfl,Mp,aw _ _⟩
      refine cg ?_ ?_
      ·intro wD E sD;intro v1 qL;refine cb (M:=M3) ax rfl rfl (by assumption) (by repeat (first|exact aq _ _|refine aY (bu (by assumption)) ?_)) (fun akN=>?_);exact ab ⟨rfl,rfl,_,rfl,rfl,aw _ _⟩
      refine cg ?_ ?_
      ·intro wD E sD;refine aR (aR (ah rfl rfl ?_));exact ab ⟨rfl,rfl,_,rfl,rfl,aw _ _⟩
      refine cg ?_ ?_
      ·intro wD E sD;refine aR (aR (aR ?_));intro v1 qL;refine aR (aR (ah rfl rfl ?_));exact ab ⟨rfl,rfl,_,rfl,rfl,aw _ _⟩
      exact dR.nil
     ·intro U4 MT;refine aR ?_;intro apG akO;refine aR (aR (aR ?_));refine⟨rfl,(i+1,v3),(.cons rfl (.cons rfl (.cons rfl (.cons rfl (.cons (by rw[←f5];rfl) .nil))))),?_,?_⟩
      ·refine⟨by simp only;omega,M3,MT.lt Zj,S.aB MT,S5.aB MT,?_⟩;simp only;obtain⟨WC,KU⟩:=ao.1 hci;rw[gU WC,KU];exact yE.aM MT
      ·simp only;omega
    ·refine cI (aj (ae (ad rfl rfl (ah rfl rfl (ab (aQ ?_))))));refine aV rfl rfl ⟨S.back,?_⟩;rw[if_pos (by unfold WB;rw[Zf]at c1;simpa using c1),ay];rw[bc (by omega)]at ho;exact xg hM S (ho.nj hz5) (by omega)
end Go.K
namespace Go.K
open Go.Proofs
set_option maxRecDepth 10000
theorem DZ {M:aC} {w0:World} {v:Value} {l:List Int} (hv:((RT.int .i64).sl).V M w0 l v):
  Spec Tryz.prog 249 #[v] w0 (fun v' w'=>v'= .bool (oI l)∧w0=w'):=by
 have hlen:=ei hv;refine bg (args:=[_]) (fn:=Tryz.f249) Tryz.func249 rfl (n:=32) Tryz.ntmps249 (aj (ae (ah rfl rfl (ab (aj (aj (ae (ad rfl rfl ?_))))))))
 first|refine bR an rfl (by assumption) rfl ?_|refine fO an rfl (by assumption) rfl ?_
 refine ad rfl rfl (ab (aZ ?_));refine dn (σ:=Nat×Int) (fun s=>[(0,v),(5,v),(6,.int .i64 l.length),(7,.int .i64 s.1)]) (fun s w=>w0=w∧s.1≤l.length∧oI l=(eA s.2 (l.drop s.1)&&(l.drop s.1).all (fun n=>decide (n<2147483648)))∧ -1≤s.2∧(s.1=0→s.2= -1)∧(0<s.1→l[s.1-1]? =some s.2)) (fun s=>l.length-s.1) (0,-1) (.cons rfl (.cons rfl (.cons rfl (.cons rfl .nil)))) ?_ ?_
 ·exact⟨rfl,bG _,rfl,by decide,fun _=>rfl,fun h=>absurd h (ju 0)⟩
 ·rintro⟨k,last⟩ w1 ⟨rfl,hk,hr,WS,h0,h1⟩;dsimp only at hk hr WS h0 h1 ⊢;refine aj (ae (cn rfl rfl rfl (ab (aj ?_))));refine bN rfl (fun c2=>?_) (fun c2=>?_)
  ·refine aT (aj (aZ (aj (ae (ad rfl rfl ?_)))));obtain⟨x,hx⟩:∃x,l[k]? =some x:=⟨_,au (by omega)⟩;refine cE (M:=M) an I3 rfl rfl rfl hv (aq _ _) (by omega) (fun apH afN Zk akP=>?_);obtain rfl:x=afN:=du (aI (Zk.symm.trans (by simpa using hx)));refine cb (M:=M) ax rfl rfl (by assumption) (by repeat (first|exact aq _ _|refine aY (bu (by assumption)) ?_)) (fun akQ=>?_);refine ah rfl rfl (ah rfl rfl (ab (aj (ae (ad rfl rfl (cn rfl rfl rfl (ad rfl rfl ?_)))))));refine aN (g:=14) rfl (fun lM=>?_) (fun lM=>?_)
   ·refine ar rfl rfl rfl rfl (ar rfl rfl rfl rfl (aX rfl rfl rfl (ad rfl rfl (ar rfl rfl rfl rfl (ar rfl rfl rfl rfl (ar rfl rfl rfl rfl (cr rfl rfl rfl (cr rfl rfl rfl (cr rfl rfl rfl (cr rfl rfl rfl (cr rfl rfl rfl ?_)))))))))));refine cr rfl rfl rfl (cr rfl rfl rfl (ar rfl rfl rfl rfl (aX rfl rfl rfl (ab (lh rfl (aj (ae (ah rfl rfl (ab (aQ ?_))))))))));refine aV rfl rfl ⟨congrArg Value.bool (du ?_),rfl⟩;rw[hr,gA hx,qa _ hx];by_cases h7:last<x
    ·have h2: ¬x<2147483648:=by omega
     simp[h2]
    ·simp[h7]
   ·refine al rfl rfl (ad rfl rfl (al rfl rfl (dT rfl rfl rfl (aE rfl rfl rfl (ad rfl rfl ?_)))));refine aN (g:=18) rfl (fun afO=>?_) (fun afO=>?_)
    ·refine ar rfl rfl rfl rfl (ar rfl rfl rfl rfl (ar rfl rfl rfl rfl (cr rfl rfl rfl (cr rfl rfl rfl (cr rfl rfl rfl (cr rfl rfl rfl (cr rfl rfl rfl (cr rfl rfl rfl (cr rfl rfl rfl (ar rfl rfl rfl rfl (aX rfl rfl rfl ?_)))))))))));refine ab (lh rfl (aj (ae (ah rfl rfl (ab (aQ ?_))))));refine aV rfl rfl ⟨congrArg Value.bool (du ?_),rfl⟩;rw[hr,gA hx,qa _ hx];by_cases h7:last<x
     ·have h2: ¬x<2147483648:=by omega
      simp[h2]
     ·simp[h7]
    ·refine al rfl rfl (ad rfl rfl (al rfl rfl (jv rfl rfl rfl (al rfl rfl (ad rfl rfl ?_)))));refine aN (g:=21) rfl (fun afP=>?_) (fun afP=>?_)
     ·refine al rfl rfl (ad rfl rfl (al rfl rfl (ad rfl rfl (al rfl rfl (ad rfl rfl (al rfl rfl (fu rfl rfl rfl (by omega) (al rfl rfl ?_))))))));refine cE (M:=M) an I3 rfl rfl rfl hv (aq _ _) (by omega) (fun Zl MU Gl U5=>?_);obtain rfl:last=MU:=du (aI (Gl.symm.trans (by rw[show((k:Int)-1).toNat=k-1 from by omega];exact h1 (by omega))));refine al rfl rfl ?_;refine cb (M:=M) ax rfl rfl (by assumption) (by repeat (first|exact aq _ _|refine aY (bu (by assumption)) ?_)) (fun afQ=>?_);refine al rfl rfl (gL rfl rfl rfl (al rfl rfl (aX rfl rfl rfl (aE rfl rfl rfl (ab ?_)))));refine bN rfl (fun c4=>?_) (fun c4=>?_)
      ·refine aj (ae (ah rfl rfl (ab (aQ ?_))));refine aV rfl rfl ⟨congrArg Value.bool (du ?_),rfl⟩;rw[hr,gA hx,qa _ hx];by_cases h7:last<x
       ·have h2: ¬x<2147483648:=by omega
        simp[h2]
       ·simp[h7]
      ·refine aT (ae (bD rfl rfl rfl (by omega) (ad rfl rfl (ab ?_))));refine⟨rfl,(k+1,x),(.cons rfl (.cons rfl (.cons rfl (.cons rfl .nil)))),?_,?_⟩
       ·refine⟨rfl,by simp only;omega,?_,by simp only;omega,fun h=>by simp at h,fun _=>by simpa using hx⟩;rw[hr,gA hx,qa _ hx,decide_eq_true (show last<x by omega),decide_eq_true (show x<2147483648 by omega),fp,fp]
       ·simp only;omega
     ·refine ar rfl rfl rfl rfl (ar rfl rfl rfl rfl (ar rfl rfl rfl rfl (ar rfl rfl rfl rfl (ar rfl rfl rfl rfl (ar rfl rfl rfl rfl (ar rfl rfl rfl rfl (al rfl rfl (aE rfl rfl rfl (aE rfl rfl rfl (ab (iX rfl ?_)))))))))));refine aT (ae (bD rfl rfl rfl (by omega) (ad rfl rfl (ab ?_))));refine⟨rfl,(k+1,x),(.cons rfl (.cons rfl (.cons rfl (.cons rfl .nil)))),?_,?_⟩
      ·refine⟨rfl,by simp only;omega,?_,by simp only;omega,fun h=>by simp at h,fun _=>by simpa using hx⟩;rw[hr,gA hx,qa _ hx,decide_eq_true (show last<x by omega),decide_eq_true (show x<2147483648 by omega),fp,fp]
      ·simp only;omega
  ·refine cI (aj (ae (ah rfl rfl (ab (aQ ?_)))));refine aV rfl rfl ⟨congrArg Value.bool (du ?_),rfl⟩;rw[hr,fw (by omega)];rfl
theorem Jk {M:aC} {w0:World} {v:Value} {l:List Po} (hM:Lt M w0) (hv:((RT.po).sl).V M w0 l v):
  Spec Tryz.prog 193 #[v] w0 (fun v' w'=>v'= .bool (fJ (-1) l)∧Step M w0 M w' aD):=by
 have hlen:=ei hv;refine bg (args:=[_]) (fn:=Tryz.f193) Tryz.func193 rfl (n:=36) Tryz.ntmps193 (aj (ae (ah rfl rfl (ab (aj (ae (ah rfl rfl (ab (aj (aj (ae ?_)))))))))));refine ad rfl rfl ?_
 first|refine bR bI rfl (by assumption) rfl ?_|refine fO bI rfl (by assumption) rfl ?_
 refine ad rfl rfl (ab (aZ ?_));refine dn (σ:=Nat×Int) (fun s=>[(6,v),(7,.int .i64 l.length),(8,.int .i64 s.1),(3,.int .i64 s.2)]) (fun s w=>Step M w0 M w aD∧s.1≤l.length∧fJ (-1) l=fJ s.2 (l.drop s.1)) (fun s=>l.length-s.1) (0,-1) (.cons rfl (.cons rfl (.cons rfl (.cons rfl .nil)))) ?_ ?_
 ·exact⟨aw _ _,bG _,rfl⟩
 ·rintro⟨k,last⟩ w1 ⟨S,hk,hr⟩;dsimp only at hk hr ⊢;have hMw:=S.lt hM;refine aj (ae (cn rfl rfl rfl (ab (aj ?_))));refine bN rfl (fun c3=>?_) (fun c3=>?_)
  ·refine aT (aj (aZ (aj (ae ?_))));obtain⟨⟨d,ps⟩,hx⟩:∃x,l[k]? =some x:=⟨_,au (by omega)⟩;refine cE (M:=M) bI oO rfl rfl rfl (hv.le S.le) (aq _ _) (by omega) (fun T2 afR Zm Hw=>?_);obtain rfl:afR=(d,ps):=aI (Zm.symm.trans (by simpa using hx));refine dg (M:=M) (A:=RT.po) bW rfl oO (by decide) rfl rfl rfl (by assumption) (by repeat (first|exact aq _ _|refine aY (bu (by assumption)) ?_)) (fun T3 Lk=>?_);refine rR (A:=RT.po) (M:=M) oO rfl rfl rfl rfl rfl (by assumption) (by repeat (first|exact aq _ _|refine aY (bu (by assumption)) ?_)) (by first|assumption|exact Step.lt (by assumption) (by assumption)|exact Step.lt (by assumption) (Step.lt (by assumption) (by assumption))) (fun XT Pm nR mf afr=>?_);refine ab (aj (aj (ae ?_)));refine aL (M:=M) (A:=RT.po) (B:=RT.int .i64) bW rfl rfl I3 (by decide) (Q9) rfl rfl (by decide) (by assumption) (by repeat (first|exact aq _ _|refine aY (bu (by assumption)) ?_)) (fun Y2 HL=>?_);refine cb (M:=M) ax rfl rfl HL (aq _ _) (fun RU=>?_);refine aU (v':= .int .i64 d) rfl ?_;simp only at RU;refine ad rfl rfl (gL rfl rfl rfl (ad rfl rfl ?_));refine aN (g:=16) rfl (fun U6=>?_) (fun U6=>?_)
   ·refine ar rfl rfl rfl rfl (ar rfl rfl rfl rfl (ar rfl rfl rfl rfl (aX rfl rfl rfl (ad rfl rfl (ar rfl rfl rfl rfl (ar rfl rfl rfl rfl (ar rfl rfl rfl rfl (ar rfl rfl rfl rfl (aX rfl rfl rfl (ad rfl rfl (ar rfl rfl rfl rfl ?_)))))))))));refine ar rfl rfl rfl rfl (ar rfl rfl rfl rfl (ar rfl rfl rfl rfl (aX rfl rfl rfl (ab (lh rfl (aj (ae (ah rfl rfl (ab (aQ ?_))))))))));refine aV rfl rfl ⟨congrArg Value.bool (du ?_),S.aB mf⟩;rw[hr,l9 hx]
    first
    |(rw[decide_eq_false (show¬last<d by omega)];simp;done)
    |(rw[decide_eq_false (show¬d<2147483648 by omega)];simp;done)
    |(rw[show ps=[]from cT.1 (by omega)];simp;done)
    |(simp[c5];done)
   ·refine al rfl rfl ?_;refine aL (M:=M) (A:=RT.po) (B:=RT.int .i64) bW rfl rfl I3 (by decide) (Q9) rfl rfl (by decide) (by assumption) (by repeat (first|exact aq _ _|refine aY (bu (by assumption)) ?_)) (fun apI Zn=>?_);refine al rfl rfl ?_;refine cb (M:=M) ax rfl rfl Zn (aq _ _) (fun akR=>?_);refine aU (v':= .int .i64 d) rfl (al rfl rfl (dT rfl rfl rfl (aE rfl rfl rfl (ad rfl rfl ?_))));refine aN (g:=21) rfl (fun U7=>?_) (fun U7=>?_)
    ·refine ar rfl rfl rfl rfl (ar rfl rfl rfl rfl (ar rfl rfl rfl rfl (ar rfl rfl rfl rfl (aX rfl rfl rfl (ad rfl rfl (ar rfl rfl rfl rfl (ar rfl rfl rfl rfl (ar rfl rfl rfl rfl (ar rfl rfl rfl rfl (aX rfl rfl rfl (ab ?_)))))))))));refine lh rfl (aj (ae (ah rfl rfl (ab (aQ ?_)))));refine aV rfl rfl ⟨congrArg Value.bool (du ?_),S.aB mf⟩;rw[hr,l9 hx]
     first
     |(rw[decide_eq_false (show¬last<d by omega)];simp;done)
     |(rw[decide_eq_false (show¬d<2147483648 by omega)];simp;done)
     |(rw[show ps=[]from cT.1 (by omega)];simp;done)
     |(simp[c5];done)
    ·refine al rfl rfl ?_;refine aL (M:=M) (A:=RT.po) (B:=(RT.int .i64).sl) bW rfl rfl j7 (by decide) (Xx) rfl rfl (by decide) (by assumption) (by repeat (first|exact aq _ _|refine aY (bu (by assumption)) ?_)) (fun akS afS=>?_);refine al rfl rfl ?_;refine bT (M:=M) an rfl rfl rfl rfl rfl (by assumption) (by repeat (first|exact aq _ _|refine aY (bu (by assumption)) ?_)) (fun akT U8=>?_);refine al rfl rfl (bR an rfl U8 rfl (aU (v':= .int .i64 ps.length) rfl (al rfl rfl (tc rfl rfl rfl (aE rfl rfl rfl (ad rfl rfl ?_))))));refine aN (g:=27) rfl (fun RV=>?_) (fun RV=>?_)
     ·refine ar rfl rfl rfl rfl (ar rfl rfl rfl rfl (ar rfl rfl rfl rfl (ar rfl rfl rfl rfl (aX rfl rfl rfl (ab (lh rfl (aj (ae (ah rfl rfl (ab (aQ ?_)))))))))));refine aV rfl rfl ⟨congrArg Value.bool (du ?_),S.aB mf⟩;rw[hr,l9 hx]
      first
      |(rw[decide_eq_false (show¬last<d by omega)];simp;done)
      |(rw[decide_eq_false (show¬d<2147483648 by omega)];simp;done)
      |(rw[show ps=[]from cT.1 (by omega)];simp;done)
      |(simp[c5];done)
     ·refine al rfl rfl ?_;refine aL (M:=M) (A:=RT.po) (B:=(RT.int .i64).sl) bW rfl rfl j7 (by decide) (Xx) rfl rfl (by decide) (by assumption) (by repeat (first|exact aq _ _|refine aY (bu (by assumption)) ?_)) (fun akU afT=>?_);refine al rfl rfl ?_;refine bT (M:=M) an rfl rfl rfl rfl rfl (by assumption) (by repeat (first|exact aq _ _|refine aY (bu (by assumption)) ?_)) (fun akV U9=>?_);refine al rfl rfl ?_;refine aW rfl rfl adp (DZ U9) (fun r5 w5 h5=>?_);obtain⟨rfl,rfl⟩:=h5;refine al rfl rfl (mJ rfl rfl (aU (v':= .bool (decide (¬oI ps=true))) (by simp) (aE rfl rfl rfl (ab ?_))));refine bN rfl (fun c5=>?_) (fun c5=>?_)
      ·refine aj (ae (ah rfl rfl (ab (aQ ?_))));refine aV rfl rfl ⟨congrArg Value.bool (du ?_),S.aB mf⟩;rw[hr,l9 hx]
       first
       |(rw[decide_eq_false (show¬last<d by omega)];simp;done)
       |(rw[decide_eq_false (show¬d<2147483648 by omega)];simp;done)
       |(rw[show ps=[]from cT.1 (by omega)];simp;done)
       |(simp[c5];done)
      ·refine aT (ae ?_);refine aL (M:=M) (A:=RT.po) (B:=RT.int .i64) bW rfl rfl I3 (by decide) (Q9) rfl rfl (by decide) (by assumption) (by repeat (first|exact aq _ _|refine aY (bu (by assumption)) ?_)) (fun Yl Hx=>?_);refine cb (M:=M) ax rfl rfl Hx (aq _ _) (fun akW=>?_);refine aU (v':= .int .i64 d) rfl (ah rfl rfl (ab (ae (bD rfl rfl rfl (by omega) (ad rfl rfl (ab ?_))))));refine⟨rfl,(k+1,d),(.cons rfl (.cons rfl (.cons rfl (.cons rfl .nil)))),?_,?_⟩
       ·refine⟨S.aB mf,by simp only;omega,?_⟩
        have eN:ps.isEmpty=false:=by cases ps with
         |nil=>simp at RV
         |cons a t=>rfl
        rw[hr,l9 hx,decide_eq_true (show last<d by omega),decide_eq_true (show d<2147483648 by omega),eN,dE.1 c5];rfl
       ·simp only;omega
  ·refine cI (aj (ae (ah rfl rfl (ab (aQ ?_)))));refine aV rfl rfl ⟨congrArg Value.bool (du ?_),S⟩;rw[hr,fw (by omega)];rfl
theorem Gm {M:aC} {w0:World} {v:Value} {l:List Po} (hM:Lt M w0) (hv:((RT.po).sl).V M w0 l v):
  Spec Tryz.prog 194 #[v,.int .i64 8] w0 (fun v' w'=>∃bs bn,v'= .func (.func 250) [].toArray [.pointer (some ⟨bs,0,none⟩),.pointer (some ⟨bn,0,none⟩)].toArray∧w'.heap[bs]? =some (.cells #[v] 80 (0,0))∧w'.heap[bn]? =some (.cells #[.int .i64 8] 3 (0,0))∧w0.heap.size≤bs∧w0.heap.size≤bn∧Step M w0 M w' aD):=by
 refine bg (args:=[_,_]) (fn:=Tryz.f194) Tryz.func194 rfl (n:=9) Tryz.ntmps194 (aj (ae ?_));refine wJ M rfl rfl (fun bs w1 h1 WA hS s1=>?_);rw[jw hv]at hS;refine wJ (ins M bs) rfl rfl (fun bn w2 h2 xE hN s2=>?_);have hS2:=s2.aK hS;have hz1:=s1.size;refine ah rfl rfl (ab (aj (aj (ae (aP ax rfl rfl rfl hN rfl (cn rfl rfl rfl (ab (T.wM rfl ((by decide)) (aT (aj (ae ?_)))))))))));refine j5 (xs:=[]) (ys:=[.tmp 2,.tmp 3]) rfl rfl rfl (ah rfl rfl (ab (aQ ?_)));exact aV rfl rfl ⟨bs,bn,rfl,hS2,hN,h1,by omega,(s1.aB s2).back⟩
theorem D0 {w0:World} {bs bn yl:Nat} {v:Value} {l:List Po} {M:aC} {wv:World} {J:Nat→World→Prop} {Jx:World→Prop} (hv:((RT.po).sl).V M wv l v) (ky:∀i w w',J i w→Step aD w aD w' aD→J i w') (HN:∀i w,J i w→w.heap[bs]? =some (.cells #[v] 80 (0,0))∧w.heap[bn]? =some (.cells #[.int .i64 8] 3 (0,0))) (hy:∀(i:Nat) (w:World) (u:Value),J i w→i<l.length→((RT.po).sl).V M wv ((l.drop i).take 8) u→vT Tryz.prog yl [u].toArray w (fun r w'=>∃b,r= .bool b∧(b=true→J (min (i+8) l.length) w')∧(b=false→Jx w'))) (h0:J 0 w0):
  Spec Tryz.prog 250 #[.func (.yield yl) #[] #[],.pointer (some ⟨bs,0,none⟩),.pointer (some ⟨bn,0,none⟩)] w0 (fun _ w'=>J l.length w'∨Jx w'):=by
 have hlen:=ei hv;refine bg (args:=[_,_,_]) (fn:=Tryz.f250) Tryz.func250 rfl (n:=31) Tryz.ntmps250 (aj (ae (ah rfl rfl (ab (aZ ?_)))));refine dn (σ:=Nat) (fun s=>[(0,.func (.yield yl) #[] #[]),(1,.pointer (some ⟨bs,0,none⟩)),(2,.pointer (some ⟨bn,0,none⟩)),(4,.int .i64 s)]) (fun s w=>J (min s l.length) w∧s≤l.length+8) (fun s=>l.length+8-s) 0 (.cons rfl (.cons rfl (.cons rfl (.cons rfl .nil)))) ?_ ?_
 ·exact⟨by rw[Nat.zero_min];exact h0,bG _⟩
 ·rintro k w1 ⟨hJ,hk⟩;obtain⟨Bk,Hb⟩:=HN _ _ hJ;refine aj (aj (ae (ad rfl rfl (aP bI rfl rfl rfl Bk rfl ?_))))
  first|refine bR bI rfl (by assumption) rfl ?_|refine fO bI rfl (by assumption) rfl ?_
  refine cn rfl rfl rfl (ab ?_);refine bN rfl (fun c1=>?_) (fun c1=>?_)
  ·refine aT (aj (aZ (aj ?_)));apply T.draw (M:=aD) mixed [cJ.eq _,cJ.eq _,cJ.eq _,cJ.pure (fun v=>((RT.po).sl).V M wv (l.drop k) v),cJ.eq _,cJ.eq _,cJ.eq _]
   ·rfl
   ·refine cg ?_ ?_
    ·intro wD E sD;refine aP ax rfl rfl rfl (cZ sD Hb) rfl ?_;exact ab ⟨rfl,rfl,_,rfl,rfl,aw _ _⟩
    refine cg ?_ ?_
    ·intro wD E sD;refine aP bI rfl rfl rfl (cZ sD Bk) rfl ?_;exact ab ⟨rfl,rfl,_,rfl,rfl,aw _ _⟩
    refine cg ?_ ?_
    ·intro wD E sD;refine ad rfl rfl ?_;exact ab ⟨rfl,rfl,_,rfl,rfl,aw _ _⟩
    refine cg ?_ ?_
    ·intro wD E sD;refine aR (aR ?_);refine Rg.OV (A:=RT.po) (hn:=by decide) bI oO rfl rfl rfl hv (by omega) (fun u hu=>?_);rw[ay]at hu;exact ab ⟨rfl,rfl,_,rfl,hu,aw _ _⟩
    refine cg ?_ ?_
    ·intro wD E sD;intro v3 zu;have afU:((RT.po).sl).V M wv (l.drop k) v3:=zu;refine bR bI rfl afU rfl ?_;exact ab ⟨rfl,rfl,_,rfl,rfl,aw _ _⟩
    refine cg ?_ ?_
    ·intro wD E sD;refine aR (aR (Rg.min2 rfl rfl rfl ?_));exact ab ⟨rfl,rfl,_,rfl,rfl,aw _ _⟩
    refine cg ?_ ?_
    ·intro wD E sD;refine aR (aR (aR (aR ?_)));intro v3 zu;refine aR (aR (ah rfl rfl ?_));exact ab ⟨rfl,rfl,_,rfl,rfl,aw _ _⟩
    exact dR.nil
   ·intro WG pv;refine aR (aR (aR ?_));intro afI Zg;refine aR (aR (aR ?_));rw[show min k l.length=k from by omega]at hJ;have YC:=ky _ _ _ hJ pv;obtain⟨hb3,qZ⟩:=HN _ _ YC;refine aj (ae (ad rfl rfl (aP bI rfl rfl rfl hb3 rfl (ad rfl rfl (ad rfl rfl (ad rfl rfl (bD rfl rfl rfl (by omega) (ad rfl rfl (ad rfl rfl (bD rfl rfl rfl (by omega) ?_))))))))));refine Rg.IA (A:=RT.po) (hn:=by decide) bI oO rfl rfl rfl rfl rfl hv (by rw[dw];omega) (fun u hu=>?_)
    have he:(l.take ((k:Int)+min 8 ((l.drop k).length:Int)).toNat).drop (k:Int).toNat=(l.drop k).take 8:=by
     rw[ay,List.drop_take,dw,show((k:Int)+min 8 ((l.length-k:Nat):Int)).toNat-k=min 8 (l.length-k)from by omega,List.take_eq_take_iff,dw];omega
    rw[he]at hu;refine Rg.yield rfl (vs:=[u]) rfl rfl (hy k _ u YC (by omega) hu) (fun r4 w4 h4=>?_);obtain⟨b,rfl,Rf,qu⟩:=h4;refine mJ rfl rfl (aU (v':= .bool (decide (¬b=true))) (by simp) (ab ?_));refine bN rfl (fun c4=>?_) (fun c4=>?_)
    ·refine aQ ?_;exact Cv rfl (.inr (qu (by simpa using c4)))
    ·refine aT (ae (ad rfl rfl ?_));have hJ5:=Rf (dE.1 c4);refine aP ax rfl rfl rfl (HN _ _ hJ5).2 rfl (bD rfl rfl rfl (by omega) (ah rfl rfl (ab ?_)));refine⟨rfl,k+8,(.cons rfl (.cons rfl (.cons rfl (.cons rfl .nil)))),?_,?_⟩
     ·exact⟨hJ5,by omega⟩
     ·show l.length+8-(k+8)<l.length+8-k;omega
  ·refine cI ?_;rw[show min k l.length=l.length from by omega]at hJ;change wN Tryz.prog Tryz.f250 (fun _ w'=>J l.length w'∨Jx w') .normal _ [] _;exact fW rfl (.inl hJ)
end Go.K
namespace Go.K
open Go.Proofs
set_option maxRecDepth 10000
structure nv (M:aC) (w0:World) (v:Value) (bo bx bl D bs bn:Nat) (st:Obj) (vb vk:Value) (rz last:Int) (b:List UInt8) (ks:List Bl) (M1:aC) (w:World):Prop where
 lt:Lt M1 w
 S:Step M w0 M1 w aD
 mo:M1 bo
 mx:M1 bx
 ml:M1 bl
 md:M1 D
 mr:M1 (D+1)
 o:w.heap[bo]? =some (.cells #[.pointer (some ⟨bx,0,none⟩)] 142 (0,0))
 x:w.heap[bx]? =some (.cells #[vb,vk,.int .i64 rz] 207 (0,0))
 l:w.heap[bl]? =some (.cells #[.int .i64 last] 3 (0,0))
 d:w.heap[D]? =some (.deferred (some []))
 r:w.heap[D+1]? =some st
 s:w.heap[bs]? =some (.cells #[v] 80 (0,0))
 n:w.heap[bn]? =some (.cells #[.int .i64 8] 3 (0,0))
 ne:bo≠bx∧bo≠bl∧bx≠bl∧bo<D∧bx<D∧bl<D∧bs<D∧bn<D∧bs≠bo∧bs≠bx∧bs≠bl∧bn≠bo∧bn≠bx∧bn≠bl∧w0.heap.size≤bo∧w0.heap.size≤bx∧w0.heap.size≤bl∧w0.heap.size≤D
 hb:(RT.u8.sl).V M1 w b vb
 hk:Own RT.bl 209 M1 w (D+2) vk ks
section
variable {M M1 M2:aC} {w0 w w':World} {v vb vk:Value} {bo bx bl D bs bn:Nat} {st:Obj} {rz last:Int} {b:List UInt8} {ks:List Bl}
theorem nv.step (h:nv M w0 v bo bx bl D bs bn st vb vk rz last b ks M1 w) (s:Step M1 w M2 w' aD):nv M w0 v bo bx bl D bs bn st vb vk rz last b ks M2 w':=
 ⟨s.lt h.lt,h.S.aB s,(s.mem _ (h.lt _ h.mo)).2 h.mo,(s.mem _ (h.lt _ h.mx)).2 h.mx,(s.mem _ (h.lt _ h.ml)).2 h.ml,(s.mem _ (h.lt _ h.md)).2 h.md,(s.mem _ (h.lt _ h.mr)).2 h.mr,
  s.aK h.o,s.aK h.x,s.aK h.l,s.aK h.d,s.aK h.r,s.aK h.s,s.aK h.n,h.ne,h.hb.le s.le,h.hk.aM s⟩
theorem nv.P7 {n:Int} (h:nv M w0 v bo bx bl D bs bn st vb vk rz last b ks M1 w) (s:Step M1 w M1 w' (fun k=>k=bl)) (hl:w'.heap[bl]? =some (.cells #[.int .i64 n] 3 (0,0))):nv M w0 v bo bx bl D bs bn st vb vk rz n b ks M1 w':=by
 obtain⟨e1,e2,e3,e4,e5,e6,e7,e8,e9,WV,Zo,WW,WX,Zp,e15,WY,RW,e18⟩:=h.ne
 exact⟨s.lt h.lt,h.S.cf s (fun k hk=>by subst hk;exact RW),h.mo,h.mx,h.ml,h.md,h.mr,s.keep h.o e2,s.keep h.x e3,hl,s.keep h.d (by omega),s.keep h.r (by omega),s.keep h.s Zo,s.keep h.n Zp,h.ne,h.hb.le s.le,
  h.hk.step s (fun k hk hh=>by have:=(h.hk.base k hk).1;omega)⟩
theorem nv.Va {vb' Vb:Value} {Zq:Int} {b':List UInt8} {Zr:List Bl} (h:nv M w0 v bo bx bl D bs bn st vb vk rz last b ks M1 w) (s:Step M1 w M1 w' (fun k=>k=bx)) (hx:w'.heap[bx]? =some (.cells #[vb',Vb,.int .i64 Zq] 207 (0,0)))
  (hb:(RT.u8.sl).V M1 w' b' vb') (hk:Own RT.bl 209 M1 w (D+2) Vb Zr):nv M w0 v bo bx bl D bs bn st vb' Vb Zq last b' Zr M1 w':=by
 obtain⟨e1,e2,e3,e4,e5,e6,e7,e8,e9,WV,Zo,WW,WX,Zp,e15,WY,RW,e18⟩:=h.ne
 exact⟨s.lt h.lt,h.S.cf s (fun k hk=>by subst hk;exact WY),h.mo,h.mx,h.ml,h.md,h.mr,s.keep h.o e1,hx,s.keep h.l (Ne.symm e3),s.keep h.d (by omega),s.keep h.r (by omega),s.keep h.s WV,s.keep h.n WX,h.ne,hb,
  hk.step s (fun k tj hh=>by have:=(hk.base k tj).1;omega)⟩
theorem nv.mz {st':Obj} (h:nv M w0 v bo bx bl D bs bn st vb vk rz last b ks M1 w) (ky:w.heap[D+1]? =some st):nv M w0 v bo bx bl D bs bn st' vb vk rz last b ks M1 (w.putObj (D+1) st'):=by
 have s:Step M1 w M1 (w.putObj (D+1) st') (fun k=>k=D+1):=dS h.mr;obtain⟨e1,e2,e3,e4,e5,e6,e7,e8,e9,WV,Zo,WW,WX,Zp,e15,WY,RW,e18⟩:=h.ne
 exact⟨s.lt h.lt,h.S.cf s (fun k hk=>by subst hk;omega),h.mo,h.mx,h.ml,h.md,h.mr,s.keep h.o (by omega),s.keep h.x (by omega),s.keep h.l (by omega),s.keep h.d (by omega),wK (ak ky),s.keep h.s (by omega),s.keep h.n (by omega),h.ne,h.hb.le s.le,
  h.hk.step s (fun k tj hh=>by have:=(h.hk.base k tj).1;omega)⟩
theorem nv.other {q:Nat} (h:nv M w0 v bo bx bl D bs bn st vb vk rz last b ks M1 w) (s:Step M1 w M1 w' (fun k=>k=q)) (hq:D+1<q) (hqv:∀k,vk.ownBlock=some k→k≠q):nv M w0 v bo bx bl D bs bn st vb vk rz last b ks M1 w':=by
 obtain⟨e1,e2,e3,e4,e5,e6,e7,e8,e9,WV,Zo,WW,WX,Zp,e15,WY,RW,e18⟩:=h.ne
 exact⟨s.lt h.lt,h.S.cf s (fun k hk=>by subst hk;omega),h.mo,h.mx,h.ml,h.md,h.mr,s.keep h.o (by omega),s.keep h.x (by omega),s.keep h.l (by omega),s.keep h.d (by omega),s.keep h.r (by omega),s.keep h.s (by omega),s.keep h.n (by omega),h.ne,h.hb.le s.le,
  h.hk.step s (fun k tj hh=>hqv k tj hh)⟩
theorem nv.grow {Vb:Value} {Zr:List Bl} (h:nv M w0 v bo bx bl D bs bn st vb vk rz last b ks M1 w) (s:Step M1 w M2 w' (fun k=>vk.ownBlock=some k)) (hk:Own RT.bl 209 M2 w' (D+2) Vb Zr):
  (w'.heap[bx]? =some (.cells #[vb,vk,.int .i64 rz] 207 (0,0))∧M2 bx∧Lt M2 w')∧∀{w2:World},Step M2 w' M2 w2 (fun k=>k=bx)→w2.heap[bx]? =some (.cells #[vb,Vb,.int .i64 rz] 207 (0,0))→nv M w0 v bo bx bl D bs bn st vb Vb rz last b Zr M2 w2:=by
 obtain⟨e1,e2,e3,e4,e5,e6,e7,e8,e9,WV,Zo,WW,WX,Zp,e15,WY,RW,e18⟩:=h.ne;have hn:∀k,vk.ownBlock=some k→D+2≤k:=fun k hk=>(h.hk.base k hk).1
 have eL:=fun {k:Nat} (hm:M1 k)=>(s.mem k (h.lt k hm)).2 hm
 refine⟨⟨s.keep h.x (fun hh=>by have:=hn _ hh;omega),eL h.mx,s.lt h.lt⟩,fun {w2} s2 hx=>?_⟩;have S':=h.S.cf s (fun k hk=>by have:=hn k hk;omega)
 exact⟨s2.lt (s.lt h.lt),S'.cf s2 (fun k hk=>by subst hk;exact WY),eL h.mo,eL h.mx,eL h.ml,eL h.md,eL h.mr,s2.keep (s.keep h.o (fun hh=>by have:=hn _ hh;omega)) e1,hx,s2.keep (s.keep h.l (fun hh=>by have:=hn _ hh;omega)) (Ne.symm e3),
  s2.keep (s.keep h.d (fun hh=>by have:=hn _ hh;omega)) (by omega),s2.keep (s.keep h.r (fun hh=>by have:=hn _ hh;omega)) (by omega),s2.keep (s.keep h.s (fun hh=>by have:=hn _ hh;omega)) WV,s2.keep (s.keep h.n (fun hh=>by have:=hn _ hh;omega)) WX,h.ne,(h.hb.le s.le).le s2.le,
  hk.step s2 (fun k tj hh=>by have:=(hk.base k tj).1;omega)⟩
end
def MV (M:aC) (w0:World) (l:List Po) (v:Value) (bo bx bl D bs bn:Nat) (st:Obj) (i:Nat) (w:World):Prop:=
 ∃(M1:aC) (vb vk:Value),nv M w0 v bo bx bl D bs bn st vb vk (jk (l.take i)) (dv (-1) (l.take i)) (ec (-1) (l.take i)) (qW l ((i+7)/8)) M1 w∧(i%8=0∨i=l.length)∧i≤l.length
theorem Vc {M:aC} {w0 w2 w3 w5 w6 w7:World} {v:Value} {l:List Po} {bo bx bl bs bn:Nat} {st:Obj} (S6:Step M w0 (ins (ins (ins M bx) bo) bl) w6 aD) (s7:Step (ins (ins (ins M bx) bo) bl) w6 (ins (ins (ins M bx) bo) bl) w7 aD) (hM:Lt M w0)
  (e1:bo<w6.heap.size) (e2:bx<w6.heap.size) (e3:bl<w6.heap.size) (n1:bo≠bx) (n2:bo≠bl) (n3:bx≠bl)
  (hO:w6.heap[bo]? =some (.cells #[.pointer (some ⟨bx,0,none⟩)] 142 (0,0))) (hX:w6.heap[bx]? =some (.cells #[.slice none 0 0,.slice none 0 0,.int .i64 0] 207 (0,0))) (hL:w6.heap[bl]? =some (.cells #[.int .i64 (-1)] 3 (0,0)))
  (hS:w7.heap[bs]? =some (.cells #[v] 80 (0,0))) (hN:w7.heap[bn]? =some (.cells #[.int .i64 8] 3 (0,0))) (hbs:w6.heap.size≤bs) (hbn:w6.heap.size≤bn)
  (g1:w0.heap.size≤bo) (g2:w0.heap.size≤bx) (g3:w0.heap.size≤bl):
  MV M w0 l v bo bx bl w7.heap.size bs bn st 0 ((w7.alloc (.deferred (some []))).alloc st):=by
 have sA:Step (ins (ins (ins M bx) bo) bl) w7 (ins (ins (ins (ins M bx) bo) bl) w7.heap.size) (w7.alloc (.deferred (some []))) aD:=(cQ _ w7 _).own (aO _) (by simp);have sB:Step (ins (ins (ins (ins M bx) bo) bl) w7.heap.size) (w7.alloc (.deferred (some []))) (ins (ins (ins (ins (ins M bx) bo) bl) w7.heap.size) (w7.heap.size+1)) ((w7.alloc (.deferred (some []))).alloc st) aD:=(cQ _ _ _).own (by simp) (by simp);have z7:=s7.size;have hs7:=ak hS;have hn7:=ak hN;have S:=((S6.aB s7).aB sA).aB sB;have hD:(w7.alloc (.deferred (some []))).heap[w7.heap.size]? =some (.deferred (some [])):=ch w7 _;have hR:((w7.alloc (.deferred (some []))).alloc st).heap[w7.heap.size+1]? =some st:=by have:=ch (w7.alloc (.deferred (some []))) st;rwa [zz]at this
 have z0:=S6.size;refine⟨_,.slice none 0 0,.slice none 0 0,⟨S.lt hM,S,?_,?_,?_,?_,.inl rfl,sB.aK (sA.aK (s7.aK hO)),sB.aK (sA.aK (s7.aK hX)),sB.aK (sA.aK (s7.aK hL)),sB.aK hD,hR,sB.aK (sA.aK hS),sB.aK (sA.aK hN),by omega,o8,dz _ _ _ _ _⟩,.inl rfl,bG _⟩
 ·exact .inr (.inr (.inr (.inl rfl)))
 ·exact .inr (.inr (.inr (.inr (.inl rfl))))
 ·exact .inr (.inr (.inl rfl))
 ·exact .inr (.inl rfl)
set_option maxHeartbeats 4000000 in
theorem AN {M:aC} {w0:World} {v:Value} {l:List Po} (hM:Lt M w0) (hv:((RT.po).sl).V M w0 l v) (j9:∀p∈l,p.2.length≤1099511627776) (kY:(ec (-1) l).length≤35184372088832) (Il:l.length≤1099511627776) (Vd:jk l≤4611686018427387904):
  Spec Tryz.prog 145 #[v] w0 (fun v' w'=>Step M w0 M w' aD∧(fJ (-1) l=true→∃p,v'= .tuple #[p,.int .i64 0]∧cP RT.li M w' p (nq l))∧(fJ (-1) l=false→v'= .tuple #[.pointer none,.int .i64 1])):=by
 have hlen:=ei hv;refine nL (args:=[_]) (fn:=Tryz.f145) Tryz.func145 rfl (n:=85) Tryz.ntmps145 (aj (ae (ah rfl rfl (ah rfl rfl (ab (aj (aj (ae (ad rfl rfl ?_)))))))));refine aW rfl rfl ade (Jk hM hv) (fun r w1 h1=>?_);obtain⟨rfl,s1⟩:=h1;refine mJ rfl rfl (aU (v':= .bool (decide (¬fJ (-1) l=true))) (by simp) (ab ?_));refine bN rfl (fun c1=>?_) (fun c1=>?_)
 ·refine aj (ae (ah rfl rfl (ah rfl rfl (ab (aQ ?_)))));exact O5 rfl rfl rfl ⟨s1,fun h=>absurd h c1,fun _=>rfl⟩
 ·have mN:=dE.1 c1;refine aT (aj (ae (iI (places:=[(0,1),(1,1),(2,1)]) eB acS acU rfl rfl (out:=[.slice none 0 0,.slice none 0 0,.int .i64 0]) rfl ?_)));refine wJ M rfl rfl (fun bx w2 HN apL hX s2=>?_);change w2.heap[bx]? =some (.cells #[.slice none 0 0,.slice none 0 0,.int .i64 0] 207 (0,0))at hX;refine ek (ins M bx) zG rfl (fun bo w3 Gn Zs hO s3=>?_);refine cu (M:=ins (ins M bx) bo) zG rfl rfl hO rfl rfl (.inl rfl) (fun w4 hO4 s4=>?_);refine ab (aj (ae ?_));refine ek (ins (ins M bx) bo) I3 rfl (fun bl w5 apN akZ hL s5=>?_);refine cu (M:=ins (ins (ins M bx) bo) bl) I3 rfl rfl hL rfl rfl (.inl rfl) (fun w6 hL6 s6=>?_);have z1:=s1.size;have z2:=s2.size;have z3:=s3.size;have z4:=s4.size;have z5:=s5.size;have z6:=s6.size;have S6:Step M w0 (ins (ins (ins M bx) bo) bl) w6 aD:=((((s1.aB s2).aB s3).cf s4 (fun k hk=>by subst hk;omega)).aB s5).cf s6 (fun k hk=>by subst hk;omega);have hO6:=s6.keep (s5.aK hO4) (show bo≠bl by omega);have hX6:=s6.keep (s5.aK (s4.keep (s3.aK hX) (show bx≠bo by omega))) (show bx≠bl by omega);refine ab (aj (aj (ae (ad rfl rfl ?_))));refine aW rfl rfl adf (Gm (M:=ins (ins (ins M bx) bo) bl) (S6.lt hM) (hv.le S6.le)) (fun r w7 h7=>?_);obtain⟨bs,bn,rfl,hS7,hN7,hbs,hbn,s7⟩:=h7;have z7:=s7.size;have apR:=ak hS7;have apS:=ak hN7;refine ab (aZ ?_);refine T.range (gf:=250) (lb:=[.pointer (some ⟨bs,0,none⟩),.pointer (some ⟨bn,0,none⟩)].toArray) rfl adq (fun rec np=>?_);obtain⟨D,hD⟩:∃D,D=w7.heap.size:=⟨_,rfl⟩;rw[←hD]at np ⊢
  have h0:MV M w0 l v bo bx bl D bs bn (.loop (rec .ready none)) 0 ((w7.alloc (.deferred (some []))).alloc (.loop (rec .ready none))):=by
   rw[hD]at np ⊢;exact Vc (w2:=w7) (w3:=w7) (w5:=w7) S6 s7 hM (by omega) (by omega) (by omega) (by omega) (by omega) (by omega) hO6 hX6 hL6 hS7 hN7 hbs hbn (by omega) (by omega) (by omega)
  refine Spec.mono (D0 (M:=M) (wv:=w0) (J:=MV M w0 l v bo bx bl D bs bn (.loop (rec .ready none))) (Jx:=fun _=>False) hv (fun i w w' ⟨M1,vb,vk,h,h2⟩ s=>⟨M1,vb,vk,h.step (s.any M1),h2⟩) (fun i w ⟨M1,vb,vk,h,h2⟩=>⟨h.s,h.n⟩) (fun i wr u hJ hi hu=>?_) h0) (fun _ w3 h3=>?_)
  ·obtain⟨M1,vb,vk,h,hi8,ot⟩:=hJ;refine lS (ps:=[17]) (vs:=[u]) np h.r rfl (by decide) (ae (ah rfl rfl (ab ?_)));refine⟨rfl,h.r,?_⟩;have h1:=h.mz (st':= .loop (rec .busy none)) h.r;generalize wr.putObj (D+1) _=wB at h1 ⊢;have hO:=h1.o;have hX:=h1.x;have hL:=h1.l;have hB:=h1.hb;have dQ:=h1.lt;have uH:((l.drop i).take 8).length≤8:=by rw[bC];omega
   have apT:((l.drop i).take 8).length=min 8 (l.length-i):=by rw[bC,dw]
   obtain⟨q1,q2,q3,q4,q5,q6,q7,q8,q9,q10,q11,q12,q13,q14,q15,q16,q17,q18⟩:=h1.ne;refine aZ (aj ?_);apply T.Hh (M:=M1) (n:=85) _ mixed [] [cJ.eq _,cJ.eq _,cJ.eq _,cJ.eq _,cJ.eq _,cJ.eq _,cJ.eq _,cJ.eq _,cJ.eq _,cJ.mk' (fun p w'=>∃bq,p= .pointer (some ⟨bq,0,none⟩)∧wB.heap.size≤bq∧w'.heap[bq]? =some (.cells #[.int .i64 0,.int .i64 0,.int .i64 0,.int .i64 0] 209 (0,0))) (fun⟨bq,h1,h2,h3⟩ s=>⟨bq,h1,h2,s.aK h3⟩)]
   ·rfl
   ·rfl
   ·rfl
   ·rfl
   ·exact fun p hp=>by cases hp
   ·exact uF.none
   ·refine aF ?_ ?_
    ·intro wD E sD;refine aP eO rfl rfl rfl (cZ sD (by assumption)) rfl ?_;exact ab ⟨rfl,rfl,_,rfl,rfl,aw _ _⟩
    refine aF ?_ ?_
    ·intro wD E sD;refine aR (bQ rfl ⟨_,rfl⟩ rfl ?_);exact ab ⟨rfl,rfl,_,rfl,rfl,aw _ _⟩
    refine aF ?_ ?_
    ·intro wD E sD;refine aR (bO eB rfl rfl CS (by decide) rfl rfl ?_);exact ab ⟨rfl,rfl,_,rfl,rfl,aw _ _⟩
    refine aF ?_ ?_
    ·intro wD E sD;refine aR (aP bM rfl rfl rfl (cZ sD (by assumption)) rfl ?_);exact ab ⟨rfl,rfl,_,rfl,rfl,aw _ _⟩
    refine aF ?_ ?_
    ·intro wD E sD;refine aR ?_
     first|refine bR bM rfl (by assumption) rfl ?_|refine fO bM rfl (by assumption) rfl ?_
     exact ab ⟨rfl,rfl,_,rfl,rfl,aw _ _⟩
    refine aF ?_ ?_
    ·intro wD E sD;refine aP ax rfl rfl rfl (cZ sD (by assumption)) rfl ?_;exact ab ⟨rfl,rfl,_,rfl,rfl,aw _ _⟩
    refine aF ?_ ?_
    ·intro wD E sD;refine ad rfl rfl ?_;exact ab ⟨rfl,rfl,_,rfl,rfl,aw _ _⟩
    refine aF ?_ ?_
    ·intro wD E sD;refine aR ?_
     first|refine bR bI rfl (by assumption) rfl ?_|refine fO bI rfl (by assumption) rfl ?_
     exact ab ⟨rfl,rfl,_,rfl,rfl,aw _ _⟩
    refine aF ?_ ?_
    ·intro wD E sD;refine aR (aR (aR (iI (places:=[(0,1),(1,1),(2,1),(3,1)]) rT Bi acV rfl ⟨_,_,rfl,rfl,_,_,rfl,rfl,_,_,rfl,rfl,rfl⟩ (out:=[.int .i64 (ec (-1) (l.take i)).length,.int .i64 (dv (-1) (l.take i)),.int .i64 0,.int .i64 ((l.drop i).take 8).length]) ⟨0,[_],rfl,rfl,by simp[Value.cells],1,[_],rfl,rfl,by simp[Value.cells],3,[_],rfl,rfl,by simp[Value.cells],rfl⟩ ?_)));exact ab ⟨rfl,rfl,_,rfl,rfl,aw _ _⟩
    refine aF ?_ ?_
    ·intro wD E sD;refine ek M1 Bi rfl (fun bq wq e1 e2 e3 s=>?_);exact ab ⟨rfl,rfl,_,rfl,⟨bq,rfl,eD sD.size e1,e3⟩,s.back⟩
    exact rU
   ·intro wD7 sD7;refine aR (aR (aR (aR (aR (aR (aR (aR (aR ?_))))))));intro ap5 Zt;obtain⟨bq,rfl,SY,hq2⟩:=Zt;have Q5:=ak hq2;have sQ:Step M1 wB (ins M1 bq) wD7 aD:=sD7.own SY Q5;refine dY (M:=ins M1 bq) (vs:=[.int .i64 (ec (-1) (l.take i)).length,.int .i64 (dv (-1) (l.take i)),.int .i64 0,.int .i64 ((l.drop i).take 8).length]) Bi rfl rfl (by intro x hx;simp at hx;rcases hx with rfl|rfl|rfl|rfl<;>rfl) rfl rfl hq2 (.inl rfl) (fun wQ hQ sQ2=>?_);refine ab ⟨rfl,?_⟩;have h2:=h1.step (sQ.cf sQ2 (fun k hk=>by subst hk;exact SY));have hqv:∀k,vk.ownBlock=some k→k≠bq:=fun k hk=>by have:=(h1.hk.base k hk).2;omega
    have hDq:D+1<bq:=by have:=ak h1.r;omega
    have h3:nv M w0 v bo bx bl D bs bn (.loop (rec .busy none)) vb vk (jk (l.take (i+0))) (dv (-1) (l.take (i+0))) (ec (-1) (l.take (i+0))) (qW l ((i+7)/8)) (ins M1 bq) wQ:=h2;obtain⟨M2,EZ⟩:∃M2,M2=ins M1 bq:=⟨_,rfl⟩;rw[←EZ]at h3;refine aj (aj (ae (ad rfl rfl ?_)))
    first|refine bR bI rfl (by assumption) rfl ?_|refine fO bI rfl (by assumption) rfl ?_
    refine ad rfl rfl (ab (aZ ?_));refine dn (σ:=Nat×Value) (fun s=>[(4,.pointer (some ⟨bo,0,none⟩)),(5,.pointer (some ⟨bl,0,none⟩)),(6,u),(7,.pointer (some ⟨bq,0,none⟩)),(27,u),(28,.int .i64 ((l.drop i).take 8).length),(29,.int .i64 s.1)]) (fun s w=>s.1≤((l.drop i).take 8).length∧w.heap[bq]? =some (.cells #[.int .i64 (ec (-1) (l.take i)).length,.int .i64 (dv (-1) (l.take i)),.int .i64 0,.int .i64 ((l.drop i).take 8).length] 209 (0,0))∧nv M w0 v bo bx bl D bs bn (.loop (rec .busy none)) s.2 vk (jk (l.take (i+s.1))) (dv (-1) (l.take (i+s.1))) (ec (-1) (l.take (i+s.1))) (qW l ((i+7)/8)) M2 w) (fun s=>((l.drop i).take 8).length-s.1) (0,vb) (.cons rfl (.cons rfl (.cons rfl (.cons rfl (.cons rfl (.cons rfl (.cons rfl .nil))))))) ?_ ?_
    ·exact⟨bG _,hQ,h3⟩
    ·rintro⟨j,vb⟩ wj ⟨hj,hQ,h4⟩;dsimp only at hj hQ h4 ⊢;have dQ:=h4.lt;refine aj (ae (cn rfl rfl rfl (ab (aj ?_))));refine bN rfl (fun c9=>?_) (fun c9=>?_)
     ·refine aT (aj (aZ (aj (ae ?_))));obtain⟨⟨d,ps⟩,hx⟩:∃x,l[i+j]? =some x:=⟨_,au (by omega)⟩;obtain⟨f1,f2,f3,f4,f5,f6⟩:=Be mN hx;obtain⟨f7,f8⟩:=oJ.1 f4;have fps:=j9 _ (az hx);have fb:=nr l (i+j);have ft:=CN l (i+j);have ft2:=CN l (i+j+1);rw[xT hx]at ft2;have ftk:=xS (-1) hx;have ftl:=nr l (i+j+1);simp only at fps;refine cE (M:=M2) bI oO rfl rfl rfl (hu.le h4.S.le) (aq _ _) (by omega) (fun Yi Zu Ve T5=>?_);obtain rfl:(d,ps)=Zu:=du (aI (Ve.symm.trans (by rw[ay,cp,if_pos (by omega),List.getElem?_drop];exact hx)));refine dg (M:=M2) (A:=RT.po) bW rfl oO (by decide) rfl rfl rfl (by assumption) (by repeat (first|exact aq _ _|refine aY (bu (by assumption)) ?_)) (fun Yj Ln=>?_);refine rR (A:=RT.po) (M:=M2) oO rfl rfl rfl rfl rfl (by assumption) (by repeat (first|exact aq _ _|refine aY (bu (by assumption)) ?_)) (by first|assumption|exact Step.lt (by assumption) (by assumption)|exact Step.lt (by assumption) (Step.lt (by assumption) (by assumption))) (fun ak4 ak5 Vf RX ak6=>?_);refine ab (aj ?_);have h5:=h4.step RX;have hO:=h5.o;have hX:=h5.x;have hL:=h5.l;have hB:=h5.hb;have dQ:=h5.lt;have hp0:=Vf;apply T.Hh (M:=M2) (n:=85) _ mixed [] [cJ.eq _,cJ.eq _,cJ.eq _,cJ.eq _,cJ.eq _,cJ.ptr (RT.int .i64) d,cJ.eq (.int .i64 d),cJ.eq _,cJ.eq _,cJ.eq (.int .i64 (((d-dv (-1) (l.take (i+j))-1).toNat:Nat):Int)),cJ.V (RT.u8.sl) (ec (-1) (l.take (i+j))++put (d-dv (-1) (l.take (i+j))-1).toNat),cJ.eq _,cJ.eq _]
      ·rfl
      ·rfl
      ·rfl
      ·rfl
      ·exact fun p hp=>by cases hp
      ·exact uF.none
      ·refine aF ?_ ?_
       ·intro wD E sD;refine aP eO rfl rfl rfl (cZ sD (by assumption)) rfl ?_;exact ab ⟨rfl,rfl,_,rfl,rfl,aw _ _⟩
       refine aF ?_ ?_
       ·intro wD E sD;refine aP eO rfl rfl rfl (cZ sD (by assumption)) rfl ?_;exact ab ⟨rfl,rfl,_,rfl,rfl,aw _ _⟩
       refine aF ?_ ?_
       ·intro wD E sD;refine aR (bQ rfl ⟨_,rfl⟩ rfl ?_);exact ab ⟨rfl,rfl,_,rfl,rfl,aw _ _⟩
       refine aF ?_ ?_
       ·intro wD E sD;refine aR (bO eB rfl rfl CS (by decide) rfl rfl ?_);exact ab ⟨rfl,rfl,_,rfl,rfl,aw _ _⟩
       refine aF ?_ ?_
       ·intro wD E sD;refine aR (aP bM rfl rfl rfl (cZ sD (by assumption)) rfl ?_);exact ab ⟨rfl,rfl,_,rfl,rfl,aw _ _⟩
       refine aF ?_ ?_
       ·intro wD E sD;refine aL (M:=M2) (A:=RT.po) (B:=RT.int .i64) bW rfl rfl I3 (by decide) (Q9) rfl rfl (by decide) (by assumption) (by repeat (first|exact aq _ _|refine aY (bu (by assumption)) ?_)) (fun ak8 afW=>?_);exact ab ⟨rfl,rfl,_,rfl,by assumption,aw _ _⟩
       refine aF ?_ ?_
       ·intro wD E sD;intro v5 pU;refine cb (M:=M2) ax rfl rfl (by assumption) (by repeat (first|exact aq _ _|refine aY (bu (by assumption)) ?_)) (fun afX=>?_);exact ab ⟨rfl,rfl,_,rfl,rfl,aw _ _⟩
       refine aF ?_ ?_
       ·intro wD E sD;refine aP ax rfl rfl rfl (cZ sD (by assumption)) rfl ?_;exact ab ⟨rfl,rfl,_,rfl,rfl,aw _ _⟩
       refine aF ?_ ?_
       ·intro wD E sD;refine aR (aR (fu rfl rfl rfl (by omega) ?_));exact ab ⟨rfl,rfl,_,rfl,rfl,aw _ _⟩
       refine aF ?_ ?_
       ·intro wD E sD;refine aR (fu rfl rfl rfl (by omega) (aU (v':= .int .i64 (((d-dv (-1) (l.take (i+j))-1).toNat:Nat):Int)) (by congr 1;omega) ?_));exact ab ⟨rfl,rfl,_,rfl,rfl,aw _ _⟩
       refine aF ?_ ?_
       ·intro wD E sD;refine aR (aR ?_);refine aW rfl rfl Tt (MI (M:=M2) (sD.lt dQ) (hB.le sD.le) (by omega) (by omega)) (fun rP wP hP=>?_);exact ab ⟨rfl,rfl,_,rfl,hP.2,hP.1⟩
       refine aF ?_ ?_
       ·intro wD E sD;refine aR (aR (aR (aR (aR (aR ?_)))));intro v5 pU;refine aR (aR (aR (aR ?_)));intro v10 afY;refine bQ rfl ⟨_,rfl⟩ rfl ?_;exact ab ⟨rfl,rfl,_,rfl,rfl,aw _ _⟩
       refine aF ?_ ?_
       ·intro wD E sD;refine aR (aR (aR (aR (aR (aR ?_)))));intro v5 pU;refine aR (aR (aR (aR ?_)));intro v10 afY;refine bO eB rfl rfl CS (by decide) rfl rfl ?_;exact ab ⟨rfl,rfl,_,rfl,rfl,aw _ _⟩
       exact rU
      ·intro Mv je;refine aR (aR (aR (aR (aR ?_))));intro ak9 afZ;refine aR (aR (aR (aR ?_)));intro af0 HO;refine aR (aR ?_);have h6:=h5.step je;have hp6:=hp0.le (by decide) je.le;refine cu (M:=M2) CS rfl rfl h6.x rfl (mT HO rfl rfl) h6.mx (fun w11 af1 Jl=>?_);refine ab ⟨rfl,?_⟩;have h7:=h6.Va Jl af1 (RT.V.le Jl.le HO) h6.hk;have WU:=hp6.le (by decide) Jl.le;refine aj ?_;have hO:=h7.o;have hX:=h7.x;have hB:=h7.hb;have dQ:=h7.lt;have fbl:(ec (-1) (l.take (i+j))++put (d-dv (-1) (l.take (i+j))-1).toNat).length≤35184372088832:=by rw[ftk]at ftl;simp only[bj]at ftl ⊢;omega
       apply T.Q3 (M:=M2) mixed [(13,fun k=>k=bx)] [cJ.eq _,cJ.eq _,cJ.eq _,cJ.eq _,cJ.eq _,cJ.ptr ((RT.int .i64).sl) ps,cJ.V ((RT.int .i64).sl) ps,⟨fun t w=>∃x,t= .tuple #[x,.int .i64 0]∧(RT.u8.sl).V M2 w (ec (-1) (l.take (i+j))++put (d-dv (-1) (l.take (i+j))-1).toNat++eG ps) x,Im,fun⟨x,h1,h2⟩ s _=>⟨x,h1,h2.le s.le⟩⟩,⟨fun t w=>∃x,t= .tuple #[x,.int .i64 0]∧(RT.u8.sl).V M2 w (ec (-1) (l.take (i+j))++put (d-dv (-1) (l.take (i+j))-1).toNat++eG ps) x,Im,fun⟨x,h1,h2⟩ s _=>⟨x,h1,h2.le s.le⟩⟩,cJ.V (RT.u8.sl) (ec (-1) (l.take (i+j))++put (d-dv (-1) (l.take (i+j))-1).toNat++eG ps),cJ.eq (.int .i64 0),cJ.eq _,cJ.eq _,⟨fun _ w=>∃x,w.heap[bx]? =some (.cells #[x,vk,.int .i64 (jk (l.take (i+j)))] 207 (0,0))∧(RT.u8.sl).V M2 w (ec (-1) (l.take (i+j))++put (d-dv (-1) (l.take (i+j))-1).toNat++eG ps) x,fun k=>k≠bx,fun⟨x,h1,h2⟩ s hN=>⟨x,s.keep h1 (fun hb=>hN _ hb rfl),h2.le s.le⟩⟩]
       ·rfl
       ·intro p hp b hb;simp only[bH]at hp;subst hp
        cases hb;exact h7.mx
       ·exact⟨fun _ _ _ _=>trivial,⟨fun _ _ _ _=>trivial,⟨fun _ _ _ _=>trivial,⟨fun _ _ _ _=>trivial,⟨fun _ _ _ _=>trivial,⟨fun _ _ _ _=>trivial,⟨fun _ _ _ _=>trivial,⟨fun _ _ _ _=>trivial,⟨fun _ _ _ _=>trivial,⟨fun _ _ _ _=>trivial,⟨fun _ _ _ _=>trivial,⟨fun _ _ _ _=>trivial,⟨fun _ _ _ _=>trivial,⟨fun p hp=>by simp at hp,trivial⟩⟩⟩⟩⟩⟩⟩⟩⟩⟩⟩⟩⟩⟩
       ·refine cg ?_ ?_
        ·intro wD E sD;replace sD:Step M2 _ M2 wD aD:=sD;refine aP eO rfl rfl rfl (cZ sD (by assumption)) rfl ?_;exact ab ⟨rfl,rfl,_,rfl,rfl,aw _ _⟩
        refine cg ?_ ?_
        ·intro wD E sD;replace sD:Step M2 _ M2 wD aD:=sD;refine aP eO rfl rfl rfl (cZ sD (by assumption)) rfl ?_;exact ab ⟨rfl,rfl,_,rfl,rfl,aw _ _⟩
        refine cg ?_ ?_
        ·intro wD E sD;replace sD:Step M2 _ M2 wD aD:=sD;refine aR (bQ rfl ⟨_,rfl⟩ rfl ?_);exact ab ⟨rfl,rfl,_,rfl,rfl,aw _ _⟩
        refine cg ?_ ?_
        ·intro wD E sD;replace sD:Step M2 _ M2 wD aD:=sD;refine aR (bO eB rfl rfl CS (by decide) rfl rfl ?_);exact ab ⟨rfl,rfl,_,rfl,rfl,aw _ _⟩
        refine cg ?_ ?_
        ·intro wD E sD;replace sD:Step M2 _ M2 wD aD:=sD;refine aR (aP bM rfl rfl rfl (cZ sD (by assumption)) rfl ?_);exact ab ⟨rfl,rfl,_,rfl,rfl,aw _ _⟩
        refine cg ?_ ?_
        ·intro wD E sD;replace sD:Step M2 _ M2 wD aD:=sD;refine aL (M:=M2) (A:=RT.po) (B:=(RT.int .i64).sl) bW rfl rfl j7 (by decide) Xx rfl rfl (by decide) WU sD.le (fun uf BL=>?_);exact ab ⟨rfl,rfl,_,rfl,BL,aw _ _⟩
        refine cg ?_ ?_
        ·intro wD E sD;replace sD:Step M2 _ M2 wD aD:=sD;intro v5 pU;refine bT (M:=M2) an rfl rfl rfl rfl rfl (show cP ((RT.int .i64).sl) M2 wD v5 ps from pU) (aq _ _) (fun uf BL=>?_);exact ab ⟨rfl,rfl,_,rfl,BL,aw _ _⟩
        refine cg ?_ ?_
        ·intro wD E sD;replace sD:Step M2 _ M2 wD aD:=sD;refine aR ?_;intro v6 uU;refine aW rfl rfl adg (yF (M:=M2) (sD.lt dQ) (hB.le sD.le) (show((RT.int .i64).sl).V M2 wD ps v6 from uU) (by omega)) (fun rP wP hP=>?_);obtain⟨xP,sP,hP1,Zv⟩:=hP;rw[if_pos f7]at hP1 Zv;exact ab ⟨rfl,rfl,_,rfl,⟨xP,hP1,Zv⟩,sP⟩
        refine cg ?_ ?_
        ·intro wD E sD;replace sD:Step M2 _ M2 wD aD:=sD;intro v7 FR;refine ad rfl rfl ?_;exact ab ⟨rfl,rfl,_,rfl,FR,aw _ _⟩
        refine cg ?_ ?_
        ·intro wD E sD;replace sD:Step M2 _ M2 wD aD:=sD;intro v8 J0;obtain⟨xP,rfl,Zv⟩:=J0;refine bV rfl rfl rfl ?_;exact ab ⟨rfl,rfl,_,rfl,Zv,aw _ _⟩
        refine cg ?_ ?_
        ·intro wD E sD;replace sD:Step M2 _ M2 wD (fun k=>k=bx):=sD;intro v8 J0;obtain⟨xP,rfl,Zv⟩:=J0;refine bV rfl rfl rfl ?_;exact ab ⟨rfl,rfl,_,rfl,rfl,aw _ _⟩
        refine cg ?_ ?_
        ·intro wD E sD;replace sD:Step M2 _ M2 wD (fun k=>k=bx):=sD;refine aR (aR (aR (aR (aR (aR ?_)))));intro v5 pU;intro v6 uU;intro v7 FR;intro v8 J0;intro v9 Dj;refine bQ rfl ⟨_,rfl⟩ rfl ?_;exact ab ⟨rfl,rfl,_,rfl,rfl,aw _ _⟩
        refine cg ?_ ?_
        ·intro wD E sD;replace sD:Step M2 _ M2 wD aD:=sD;refine aR (aR (aR (aR (aR (aR ?_)))));intro v5 pU;intro v6 uU;intro v7 FR;intro v8 J0;intro v9 Dj;refine bO eB rfl rfl CS (by decide) rfl rfl ?_;exact ab ⟨rfl,rfl,_,rfl,rfl,aw _ _⟩
        refine cg ?_ ?_
        ·intro wD E sD;replace sD:Step M2 _ M2 wD aD:=sD;refine aR ?_;intro v9 Dj;intro v7 FR;refine aR (aR (aR (aR (aR ?_))));intro v5 pU;intro v6 uU;intro v7 FR;intro v8 J0;intro v9 Dj;refine cu (M:=M2) CS rfl rfl (cZ sD hX) rfl (mT (A:=RT.u8.sl) Dj rfl rfl) h7.mx (fun wS hXS sS=>?_);exact ab ⟨rfl,rfl,undef,rfl,⟨_,hXS,RT.V.le (A:=RT.u8.sl) sS.le Dj⟩,sS⟩
        exact dR.nil
       ·intro af3 MW;replace MW:Step M2 _ M2 af3 (fun k=>k=bx):=MW;refine aR (aR (aR (aR (aR ?_))));intro alb af4;intro alc af5;intro ald af6;intro ale af7;intro alf af8;refine aR (aR (aR ?_));intro af9 P9;obtain⟨v12,aga,agb⟩:=P9;have h8:=h7.Va MW aga agb h7.hk;have hp8:=WU.le (by decide) MW.le;refine aj ?_;have hO:=h8.o;have hX:=h8.x;apply T.Hh (M:=M2) (n:=85) _ mixed [] [cJ.eq _,cJ.eq _,cJ.eq _,cJ.eq _,cJ.ptr ((RT.int .i64).sl) ps,cJ.V ((RT.int .i64).sl) ps,cJ.eq (.int .i64 ps.length),cJ.eq _,cJ.eq _,cJ.eq _]
        ·rfl
        ·rfl
        ·rfl
        ·rfl
        ·exact fun p hp=>by cases hp
        ·exact uF.none
        ·refine aF ?_ ?_
         ·intro wD E sD;refine aP eO rfl rfl rfl (cZ sD (by assumption)) rfl ?_;exact ab ⟨rfl,rfl,_,rfl,rfl,aw _ _⟩
         refine aF ?_ ?_
         ·intro wD E sD;refine aR (bQ rfl ⟨_,rfl⟩ rfl ?_);exact ab ⟨rfl,rfl,_,rfl,rfl,aw _ _⟩
         refine aF ?_ ?_
         ·intro wD E sD;refine aR (bO eB rfl rfl I3 (by decide) rfl rfl ?_);exact ab ⟨rfl,rfl,_,rfl,rfl,aw _ _⟩
         refine aF ?_ ?_
         ·intro wD E sD;refine aR (aP ax rfl rfl rfl (cZ sD (by assumption)) rfl ?_);exact ab ⟨rfl,rfl,_,rfl,rfl,aw _ _⟩
         refine aF ?_ ?_
         ·intro wD E sD;refine aL (M:=M2) (A:=RT.po) (B:=(RT.int .i64).sl) bW rfl rfl j7 (by decide) Xx rfl rfl (by decide) hp8 sD.le (fun uf BL=>?_);exact ab ⟨rfl,rfl,_,rfl,BL,aw _ _⟩
         refine aF ?_ ?_
         ·intro wD E sD;intro v4 pT;refine bT (M:=M2) an rfl rfl rfl rfl rfl (show cP ((RT.int .i64).sl) M2 wD v4 ps from pT) (aq _ _) (fun uf BL=>?_);exact ab ⟨rfl,rfl,_,rfl,BL,aw _ _⟩
         refine aF ?_ ?_
         ·intro wD E sD;intro v5 pU;refine bR an rfl (show((RT.int .i64).sl).V M2 wD ps v5 from pU) rfl ?_;exact ab ⟨rfl,rfl,_,rfl,rfl,aw _ _⟩
         refine aF ?_ ?_
         ·intro wD E sD;refine aR (aR (bD rfl rfl rfl (by omega) ?_));exact ab ⟨rfl,rfl,_,rfl,rfl,aw _ _⟩
         refine aF ?_ ?_
         ·intro wD E sD;refine aR (aR (aR (aR (aR ?_))));intro v4 pT;intro v5 pU;refine aR (aR (bQ rfl ⟨_,rfl⟩ rfl ?_));exact ab ⟨rfl,rfl,_,rfl,rfl,aw _ _⟩
         refine aF ?_ ?_
         ·intro wD E sD;refine aR (aR (aR (aR (aR ?_))));intro v4 pT;intro v5 pU;refine aR (aR (bO eB rfl rfl I3 (by decide) rfl rfl ?_));exact ab ⟨rfl,rfl,_,rfl,rfl,aw _ _⟩
         exact rU
        ·intro T6 oS;refine aR (aR (aR (aR ?_)));intro alg agc;intro Rt Bw;refine aR (aR (aR (aR ?_)));have h9:=h8.step oS;refine cu (M:=M2) I3 rfl rfl h9.x rfl rfl h9.mx (fun w13 agd Cp=>?_);refine ab ⟨rfl,?_⟩;have PS:=h9.Va Cp agd (h9.hb.le Cp.le) h9.hk;have age:=(hp8.le (by decide) oS.le).le (by decide) Cp.le;refine ae ?_;refine aL (M:=M2) (A:=RT.po) (B:=RT.int .i64) bW rfl rfl I3 (by decide) Q9 rfl rfl (by decide) age (aq _ _) (fun Zw MX=>?_);refine cb (M:=M2) ax rfl rfl MX (aq _ _) (fun _=>?_);refine aU (v':= .int .i64 d) rfl ?_;refine cu (M:=M2) I3 rfl rfl PS.l rfl rfl PS.ml (fun Uk agf jQ=>?_);have h11:=PS.P7 jQ agf;refine ab (ae (bD rfl rfl rfl (by omega) (ad rfl rfl (ab ?_))));refine⟨rfl,(j+1,v12),(.cons rfl (.cons rfl (.cons rfl (.cons rfl (.cons rfl (.cons rfl (.cons rfl .nil))))))),?_,?_⟩
         ·refine⟨by simp only;omega,?_,?_⟩
          ·exact jQ.keep (Cp.keep (oS.aK (MW.keep (Jl.keep (je.aK (RX.aK hQ)) (by omega)) (by omega))) (by omega)) (by omega)
          ·simp only;rw[show i+(j+1)=i+j+1 from by omega,xT hx,f5,ftk];exact h11
         ·simp only;omega
     ·refine cI (aj (ae ?_));obtain rfl:j=((l.drop i).take 8).length:=by omega
      have W5:M2 bq:=by rw[EZ];exact .inl rfl
      refine aP ax rfl rfl rfl h4.l rfl (bO (o':=2) rT rfl rfl I3 (by decide) rfl rfl ?_);refine cu (M:=M2) I3 rfl rfl hQ rfl rfl W5 (fun WZ Zx AO=>?_);have W0:=h4.other AO hDq hqv;change WZ.heap[bq]? =some (.cells [.int .i64 (ec (-1) (l.take i)).length,.int .i64 (dv (-1) (l.take i)),.int .i64 (dv (-1) (l.take (i+((l.drop i).take 8).length))),.int .i64 ((l.drop i).take 8).length].toArray 209 (0,0))at Zx;refine ab ?_;have hO:=W0.o;have hX:=W0.x;have Qa:=W0.hk;have fk:∀k,vk.ownBlock=some k→k≠bo:=fun k hk=>by have:=(Qa.base k hk).1;omega
      have aqd:=ak W0.r;have g1:=sm l (-1) mN (by omega) i;have g2:=sm l (-1) mN (by omega) (i+((l.drop i).take 8).length);have g3:=nr l i;apply T.Hh (M:=M2) (n:=85) _ mixed [(7,fun k=>vk.ownBlock=some k)] [cJ.eq _,cJ.eq _,cJ.eq _,cJ.eq _,cJ.eq _,cJ.eq (.agg [.int .i64 (ec (-1) (l.take i)).length,.int .i64 (dv (-1) (l.take i)),.int .i64 (dv (-1) (l.take (i+((l.drop i).take 8).length))),.int .i64 ((l.drop i).take 8).length].toArray),cJ.V ((RT.bl).sl) [(((ec (-1) (l.take i)).length:Int),dv (-1) (l.take i),dv (-1) (l.take (i+((l.drop i).take 8).length)),(((l.drop i).take 8).length:Int))],⟨fun t w=>∃M3,Own RT.bl 209 M3 w (D+2) t (qW l ((i+7)/8)++[(((ec (-1) (l.take i)).length:Int),dv (-1) (l.take i),dv (-1) (l.take (i+((l.drop i).take 8).length)),(((l.drop i).take 8).length:Int))])∧Step M2 WZ M3 w (fun k=>vk.ownBlock=some k),aD,fun⟨M3,h1,h2⟩ s hN=>⟨M3,h1.aM ((s.cF hN (fun _ h=>h.elim)).any M3),h2.aB ((s.cF hN (fun _ h=>h.elim)).any M3)⟩⟩,cJ.eq _,cJ.eq _]
      ·rfl
      ·rfl
      ·rfl
      ·rfl
      ·intro p hp b hb;simp only[bH]at hp;subst hp;exact Qa.mut_ b hb
      ·exact⟨fun _ _ _ _=>trivial,⟨fun _ _ _ _=>trivial,⟨fun _ _ _ _=>trivial,⟨fun _ _ _ _=>trivial,⟨fun _ _ _ _=>trivial,⟨fun _ _ _ _=>trivial,⟨fun _ _ _ _=>trivial,⟨fun p hp=>by simp at hp,⟨fun _ _ _ _=>trivial,⟨fun _ _ _ _=>trivial,trivial⟩⟩⟩⟩⟩⟩⟩⟩⟩⟩
      ·refine aF ?_ ?_
       ·intro wD E sD;replace sD:Step M2 _ M2 wD (fun k=>vk.ownBlock=some k):=sD;refine aP eO rfl rfl rfl (sD.keep hO (fun hb=>fk _ hb rfl)) rfl ?_;exact ab ⟨rfl,rfl,_,rfl,rfl,aw _ _⟩
       refine aF ?_ ?_
       ·intro wD E sD;replace sD:Step M2 _ M2 wD (fun k=>vk.ownBlock=some k):=sD;refine aP eO rfl rfl rfl (sD.keep hO (fun hb=>fk _ hb rfl)) rfl ?_;exact ab ⟨rfl,rfl,_,rfl,rfl,aw _ _⟩
       refine aF ?_ ?_
       ·intro wD E sD;replace sD:Step M2 _ M2 wD (fun k=>vk.ownBlock=some k):=sD;refine aR (bQ rfl ⟨_,rfl⟩ rfl ?_);exact ab ⟨rfl,rfl,_,rfl,rfl,aw _ _⟩
       refine aF ?_ ?_
       ·intro wD E sD;replace sD:Step M2 _ M2 wD (fun k=>vk.ownBlock=some k):=sD;refine aR (bO eB rfl rfl IH (by decide) rfl rfl ?_);exact ab ⟨rfl,rfl,_,rfl,rfl,aw _ _⟩
       refine aF ?_ ?_
       ·intro wD E sD;replace sD:Step M2 _ M2 wD aD:=sD;refine aR (aP iN rfl rfl rfl (cZ sD (by assumption)) rfl ?_);exact ab ⟨rfl,rfl,_,rfl,rfl,aw _ _⟩
       refine aF ?_ ?_
       ·intro wD E sD;replace sD:Step M2 _ M2 wD (fun k=>vk.ownBlock=some k):=sD;refine iq (vs:=[.int .i64 (ec (-1) (l.take i)).length,.int .i64 (dv (-1) (l.take i)),.int .i64 (dv (-1) (l.take (i+((l.drop i).take 8).length))),.int .i64 ((l.drop i).take 8).length]) rT rfl Bi rfl rfl rfl (sD.keep Zx (fun hb=>hqv _ hb rfl)) ?_;exact ab ⟨rfl,rfl,_,rfl,rfl,aw _ _⟩
       refine aF ?_ ?_
       ·intro wD E sD;replace sD:Step M2 _ M2 wD aD:=sD;refine aR ?_;refine eg (A:=RT.bl) (hn:=by decide) (M:=M2) iN Bi (by decide) rfl rfl (sD.lt W0.lt) (acL (by omega) (by omega) (by omega) (by omega)) (.inl rfl) (fun uS wS hS sS=>?_);exact ab ⟨rfl,rfl,_,rfl,hS,sS⟩
       refine aF ?_ ?_
       ·intro wD E sD;replace sD:Step M2 _ M2 wD aD:=sD;refine aR ?_;intro v6 uU;refine cX (M:=M2) (base:=D+2) iN Bi rfl rfl rfl rfl (Qa.aM sD) (show((RT.bl).sl).V M2 wD [(((ec (-1) (l.take i)).length:Int),dv (-1) (l.take i),dv (-1) (l.take (i+((l.drop i).take 8).length)),(((l.drop i).take 8).length:Int))] v6 from uU) (aq _ _) (by simp[qW];omega) (by simp[qW];omega) (by have:=sD.size;omega) (fun v3 M3 w3 yE s3=>?_);exact ab ⟨rfl,rfl,_,rfl,⟨M3,yE,(sD.cF (fun _ h=>h.elim) Qa.mut_).trans s3 (fun b _ hb=>hb)⟩,s3.back⟩
       refine aF ?_ ?_
       ·intro wD E sD;replace sD:Step M2 _ M2 wD (fun k=>vk.ownBlock=some k):=sD;refine aR (aR (aR (aR (aR (aR (aR ?_))))));intro v6 uU;intro v7 FR;refine bQ rfl ⟨_,rfl⟩ rfl ?_;exact ab ⟨rfl,rfl,_,rfl,rfl,aw _ _⟩
       refine aF ?_ ?_
       ·intro wD E sD;replace sD:Step M2 _ M2 wD (fun k=>vk.ownBlock=some k):=sD;refine aR (aR (aR (aR (aR (aR (aR ?_))))));intro v6 uU;intro v7 FR;refine bO eB rfl rfl IH (by decide) rfl rfl ?_;exact ab ⟨rfl,rfl,_,rfl,rfl,aw _ _⟩
       exact rU
      ·intro agh Zy;replace Zy:Step M2 _ M2 agh (fun k=>vk.ownBlock=some k):=Zy;refine aR (aR (aR (aR (aR (aR ?_)))));intro alh agi;intro ali Vg;refine aR (aR ?_);obtain⟨M3,yE,sR⟩:=Vg;obtain⟨⟨Jj,hm3,aqe⟩,Fa⟩:=W0.grow sR yE;refine cu (M:=M3) IH rfl rfl Jj rfl (by obtain⟨_,_,he,_⟩:=yE.isSlice;rw[he];rfl) hm3 (fun Vh agk vg=>?_);refine ab ⟨rfl,?_⟩;have UX:=Fa vg agk;have h18:=UX.mz (st':= .loop (rec .ready none)) UX.r;have hE:i+((l.drop i).take 8).length=min (i+8) l.length:=by omega
       rw[hE,KD (by omega) hi]at h18;exact⟨UX.r,true,rfl,fun _=>⟨M3,_,_,h18,by omega,by omega⟩,fun h=>by cases h⟩
  ·obtain⟨Mz,vb,vk,h,_,_⟩:=h3.resolve_right (fun h=>h);left;rw[List.take_length]at h;have h5:=h.mz (st':= .loop (rec .exhausted none)) h.r;refine⟨h.r,?_⟩;generalize w3.putObj (D+1) _=wE at h5 ⊢;refine aj (ae (aP eO rfl rfl rfl h5.o rfl (ah rfl rfl (ah rfl rfl (ab (aQ ?_))))));obtain⟨q1,q2,q3,q4,q5,q6,q7,q8,q9,q10,q11,q12,q13,q14,q15,q16,q17,q18⟩:=h5.ne;have sZ:Step Mz wE Mz (wE.putObj D (.deferred none)) (fun k=>k=D):=dS h5.md;have SZ:=h5.S.cf sZ (fun k hk=>by subst hk;omega);have ht:=oK l;refine Tg rfl rfl rfl h5.d ⟨SZ.back,fun _=>⟨_,rfl,?_⟩,fun hf=>by rw[mN]at hf;cases hf⟩;exact Xy (sZ.keep h5.x (by omega)) (fun hh=>by have:=hM _ hh;omega) ((h5.hb.le sZ.le).le (Le.close hM SZ)) (xg hM SZ ((h5.hk.step sZ (fun k hk hh=>by have:=(h5.hk.base k hk).1;omega)).nj (by omega)) (by simp[qW];omega)) (by omega)
end Go.K
namespace Go.K
open Go.Proofs
namespace TKBldG
theorem yB:TI Tryz.prog 80 (.slice none 0 0) 1 24:=by unfold TI;kernel_rfl
theorem D1:TI Tryz.prog 196 (.slice none 0 0) 1 24:=by unfold TI;kernel_rfl
theorem Vi:Enters Tryz.prog 145:=enters Tryz.func145 rfl (by decide)
theorem agl:Enters Tryz.prog 197:=enters Tryz.func197 rfl (by decide)
end TKBldG
open TKBldG
set_option maxRecDepth 10000
theorem index_spec {M:aC} {l:List (List Po)} {v0:Value} {g:FuncId} {cap:List Value} {B:Nat} {J:Nat→aC→World→Prop} {bad:List Po→Bool} (w0:World) (hM:Lt M w0) (hv:(((RT.po).sl).sl).V M w0 l v0) (hg:Enters Tryz.prog g) (hJ:J 0 M w0) (ky:∀i M w M' w',J i M w→Step M w M' w' aD→J i M' w') (ht:∀i M w x vx,J i M w→Lt M w→l[i]? =some x→((RT.po).sl).V M w x vx→Spec Tryz.prog g ([vx]++cap).toArray w (fun v w'=>∃M',Lt M' w'∧v= .bool (bad x)∧(bad x=false→J (i+1) M' w')∧Step M w M' w' (lG M B))):
  Spec Tryz.prog 197 #[v0,.func (.func g) #[] cap.toArray] w0 (fun v w=>∃M' k,v= .int .i64 k∧ -1≤k∧Lt M' w∧Step M w0 M' w (lG M B)∧(k= -1→(∀x∈l,bad x=false)∧J l.length M' w)∧(0≤k→∃x∈l,bad x=true)):=by
 have hlen:=ei hv;refine bg (args:=[_,_]) (fn:=Tryz.f197) Tryz.func197 rfl (n:=19) Tryz.ntmps197 ?_;have S:Step M w0 M w0 (lG M B):=(aw _ _).cF (fun _ h=>h.elim) (fun _ h=>h.2);refine aj (ae (ah rfl rfl (ab (aj (aj (ae (ad rfl rfl (bR fR rfl hv rfl (ad rfl rfl (ab (aZ ?_)))))))))));refine dn (σ:=Nat) (fun q=>[(0,v0),(1,.func (.func g) #[] cap.toArray),(6,v0),(7,.int .i64 (l.length:Int)),(8,.int .i64 (q:Int))]) (fun q w=>∃M',Lt M' w∧Step M w0 M' w (lG M B)∧(((RT.po).sl).sl).V M' w l v0∧J q M' w∧q≤l.length∧∀x∈l.take q,bad x=false) (fun q=>l.length-q) 0 (.cons rfl (.cons rfl (.cons rfl (.cons rfl (.cons rfl .nil))))) ?_ ?_
 ·exact⟨M,hM,S,hv,hJ,bG _,fun x h=>by simp at h⟩
 ·clear hM S hv hJ;rintro i w ⟨M1,hM,S,hv,hJ,hi,j4⟩;refine aj (ae (cn rfl rfl rfl (ab (aj ?_))));refine bN rfl (fun c2=>?_) (fun c2=>?_)
  ·refine aT (aj (aZ (aj (ae (ad rfl rfl (ah rfl rfl (ab (aj (ae (ad rfl rfl (ad rfl rfl ?_)))))))))));refine ad rfl rfl ?_;refine cE (M:=M1) fR yB rfl rfl rfl hv (aq _ _) (by omega) (fun u x vY hu=>?_);rw[ay]at vY;refine bT (M:=M1) bI rfl rfl rfl rfl rfl hu (aq _ _) (fun vx qX=>?_);refine zy (first:=[]) (captured:=cap) (xs:=[.tmp 15]) rfl rfl rfl hg (ht i _ _ x vx hJ hM vY qX) (fun r4 w4 hc=>?_);obtain⟨M4,hM4,rfl,hJ4,s4⟩:=hc;refine aU (v':= .bool (decide (bad x=true))) (by simp) ?_;have S4:=S.trans s4 (fun k hk h=>⟨h.1,(S.mem k hk).1 h.2⟩);refine ab ?_;refine bN rfl (fun c4=>?_) (fun c4=>?_)
   ·refine aj (ae (ad rfl rfl (ah rfl rfl (ab (aQ ?_)))));exact aV rfl rfl ⟨M4,_,rfl,by omega,hM4,S4,fun h=>absurd h (by omega),fun _=>⟨x,az vY,c4⟩⟩
   ·refine aT (ae (bD rfl rfl rfl (by omega) (ad rfl rfl (ab ?_))));refine⟨rfl,i+1,(.cons rfl (.cons rfl (.cons rfl (.cons rfl (.cons rfl .nil))))),?_,?_⟩
    ·have hb:bad x=false:=by simpa using c4
     exact⟨M4,hM4,S4,hv.le s4.le,hJ4 hb,by omega,fun y hy=>by
      rw[b9,vY,cK,cq,bH]at hy;rcases hy with hy|rfl
      ·exact j4 y hy
      ·exact hb⟩
    ·omega
  ·refine cI (aj (ae (ah rfl rfl (ab (aQ ?_)))));rw[bc (by omega)]at j4;have e:i=l.length:=by omega
   subst e;exact aV rfl rfl ⟨_,_,rfl,by omega,hM,S,fun _=>⟨j4,hJ⟩,fun h=>absurd h (by omega)⟩
theorem zR {M:aC} {l:List (List Po)} {v0:Value} {g:FuncId} {cap:List Value} {B:Nat} {J:Nat→aC→World→Prop} {bad:List Po→Bool} (w0:World) (hM:Lt M w0) (hv:(((RT.po).sl).sl).V M w0 l v0) (hg:Enters Tryz.prog g) (hJ:J 0 M w0) (ky:∀i M w M' w',J i M w→Step M w M' w' aD→J i M' w') (ht:∀i M w x vx,J i M w→Lt M w→l[i]? =some x→((RT.po).sl).V M w x vx→Spec Tryz.prog g ([vx]++cap).toArray w (fun v w'=>∃M',Lt M' w'∧v= .bool (bad x)∧(bad x=false→J (i+1) M' w')∧Step M w M' w' (lG M B))):
  Spec Tryz.prog 146 #[v0,.func (.func g) #[] cap.toArray] w0 (fun v w=>∃M' k,v= .bool (decide (0≤k))∧ -1≤k∧Lt M' w∧Step M w0 M' w (lG M B)∧(k= -1→(∀x∈l,bad x=false)∧J l.length M' w)∧(0≤k→∃x∈l,bad x=true)):=by
 refine bg (args:=[_,_]) (fn:=Tryz.f146) Tryz.func146 rfl (n:=9) Tryz.ntmps146 (aj (ae (ah rfl rfl (ab (aj (ae (ad rfl rfl (ad rfl rfl ?_))))))));refine aW rfl rfl agl (index_spec w0 hM hv hg hJ ky ht) (fun r w1 hc=>?_);obtain⟨M1,k,rfl,hk,h2⟩:=hc;refine dT rfl rfl rfl (ah rfl rfl (ab (aQ ?_)));exact aV rfl rfl ⟨M1,k,rfl,hk,h2⟩
def D2 (x:List Po):Int:=match x.getLast? with|some p=>p.1|none=> -1
def nw (n:Int) (x:List Po):Bool:= !fJ (-1) x||x.isEmpty||decide (n≤D2 x)
theorem D3 {x:List Po} {p:Po} (h:x[x.length-1]? =some p):D2 x=p.1:=by
 unfold D2;rw[List.getLast?_eq_getElem?,h]
structure Room (x:List Po):Prop where
 ps:∀p∈x,p.2.length≤1099511627776
 by_:(ec (-1) x).length≤35184372088832
 ln:x.length≤1099511627776
 rz:jk x≤4611686018427387904
def RT.cell:RT Value where
 n:=1
 agg:=false
 R:=fun _ _ x vs=>vs=[x]∧x.oneCell'=true
 len:=by rintro _ _ x vs ⟨rfl,_⟩;rfl
 one:=by rintro _ _ x vs ⟨rfl,h⟩ v hv;simp at hv;subst hv;exact h
 le:=fun _ h=>h
theorem Qb {M:aC} {w:World} {v:Value} (h:v.oneCell'=true):RT.cell.V M w v v:=⟨[v],⟨rfl,h⟩,rfl⟩
theorem dZ.cells {α:Type} {A:RT α} (hA:A.n=1) {M:aC} {w:World}:∀{xs:List α} {C:List Value},dZ A M w xs C→∃ys:List Value,dZ RT.cell M w ys C∧ys.length=xs.length
 |[],C,h=>⟨[],h,rfl⟩
 |x::xs,C,h=>by
  obtain⟨vs,r,h1,h2,h3⟩:=h;obtain⟨ys,h4,h5⟩:=dZ.cells hA h3;have hl:=A.len h2
  match vs,hl,h1,h2 with
  |[v],_,h1,h2=>exact⟨v::ys,⟨[v],r,h1,⟨rfl,A.one h2 v (by simp)⟩,h4⟩,by simp[h5]⟩
  |[],hl,_,_=>simp at hl;omega
  |_::_::_,hl,_,_=>simp at hl;omega
theorem Own.cells {α:Type} {A:RT α} (hA:A.n=1) {e:TypeId} {M:aC} {w:World} {base:Nat} {v:Value} {xs:List α} (h:Own A e M w base v xs):∃ys:List Value,Own RT.cell e M w base v ys∧ys.length=xs.length:=by
 obtain⟨⟨C,hr,ha⟩,hm⟩:=h;obtain⟨ys,h1,h2⟩:=ha.cells hA;exact⟨ys,⟨⟨C,by rw[h2,show RT.cell.n=A.n from hA.symm];exact hr,h1⟩,hm⟩,h2⟩
def zT (bl bn:Nat) (n:Int) (ls:List (List Po)) (B:Nat) (i:Nat) (M:aC) (w:World):Prop:=∃vl,w.heap[bl]? =some (.cells #[vl] 196 (0,0))∧M bl∧B≤bl∧w.heap[bn]? =some (.cells #[.int .i64 n] 3 (0,0))∧M bn∧Own ((RT.li).ptr) 142 M w B vl ((ls.take i).map nq)
theorem zT.aM {bl bn:Nat} {n:Int} {ls:List (List Po)} {B i:Nat} {M M':aC} {w w':World} (h:zT bl bn n ls B i M w) (s:Step M w M' w' aD):zT bl bn n ls B i M' w':=by
 obtain⟨vl,h1,h2,h3,h4,h5,h6⟩:=h;exact⟨vl,s.aK h1,(s.mem _ (ak h1)).2 h2,h3,s.aK h4,(s.mem _ (ak h4)).2 h5,h6.aM s⟩
theorem Vj {M:aC} {bl bn B i:Nat} {n:Int} {ls:List (List Po)} {x:List Po} {v0:Value} (w0:World) (hM:Lt M w0) (hB:B≤w0.heap.size) (hJ:zT bl bn n ls B i M w0) (hx:ls[i]? =some x) (hv:((RT.po).sl).V M w0 x v0) (hr:Room x) (ot:i≤1000000000) (hm:fJ (-1) x=true):
  Spec Tryz.prog 144 #[v0,.pointer (some ⟨bl,0,none⟩),.pointer (some ⟨bn,0,none⟩)] w0 (fun v w=>∃M',Lt M' w∧v= .bool (nw n x)∧(nw n x=false→zT bl bn n ls B (i+1) M' w)∧Step M w0 M' w (lG M B)):=by
 have hlen:=ei hv;obtain⟨vl,gl,kQ,hBl,gn,mC,ho⟩:=hJ;have nln:bl≠bn:=fun h=>by rw[h,gn]at gl;simp at gl
 refine bg (args:=[_,_,_]) (fn:=Tryz.f144) Tryz.func144 rfl (n:=34) Tryz.ntmps144 ?_;have S:Step M w0 M w0 (lG M B):=(aw _ _).cF (fun _ h=>h.elim) (fun _ h=>h.2);refine aj (ae (ah rfl rfl (ab (aj (ae (ad rfl rfl ?_))))));refine aW rfl rfl Vi (AN hM hv hr.ps hr.by_ hr.ln hr.rz) (fun r1 w1 hc=>?_);obtain⟨s1,hok,j4⟩:=hc;obtain⟨p,rfl,hp⟩:=hok hm;have:=ak gl;replace kQ:=(s1.mem _ this).2 kQ;replace gl:=s1.aK gl;have:=ak gn;replace mC:=(s1.mem _ this).2 mC;replace gn:=s1.aK gn;replace hv:=hv.le s1.le;replace ho:=ho.aM s1;replace hM:=s1.lt hM;have:=S.size;replace S:=S.aB s1;refine ad rfl rfl (bV rfl rfl rfl (bV rfl rfl rfl (ah rfl rfl (ah rfl rfl (ab (aj (ae (aP ed rfl rfl rfl gl rfl (aU (v':=vl) rfl (ad rfl rfl ?_))))))))));refine eg (A:=((RT.li).ptr)) (hn:=by decide) (M:=M) ed zG (by decide) rfl rfl hM (mA.2 hp) (.inr ⟨rfl,rfl⟩) (fun Zz agn lg pM=>?_);have:=ak gl;replace kQ:=(pM.mem _ this).2 kQ;replace gl:=pM.aK gl;have:=ak gn;replace mC:=(pM.mem _ this).2 mC;replace gn:=pM.aK gn;replace hv:=hv.le pM.le;replace hp:=hp.le (by decide) pM.le;replace ho:=ho.aM pM;replace hM:=pM.lt hM;have:=S.size;replace S:=S.aB pM;refine cX (M:=M) (base:=B) ed zG rfl rfl rfl rfl ho lg (aq _ _) (by simp;omega) (by simp;omega) (by have:=S.size;omega) (fun Vk D4 ago MY pN=>?_);have:=ak gl;replace kQ:=(pN.mem _ this).2 kQ;replace gl:=pN.keep gl (fun h=>by first|exact ho.ej gl h|exact ho.eM gl (by decide) h|(have:=(ho.base _ h).1;omega));have:=ak gn;replace mC:=(pN.mem _ this).2 mC;replace gn:=pN.keep gn (fun h=>by first|exact ho.ej gn h|exact ho.eM gn (by decide) h|(have:=(ho.base _ h).1;omega));replace hv:=hv.le pN.le;replace hp:=hp.le (by decide) pN.le
 replace lg:=lg.le pN.le;replace hM:=pN.lt hM;have:=S.size;replace S:=S.trans pN (fun k hk h=>⟨(ho.base k h).1,(S.mem k hk).1 (ho.mut_ k h)⟩);replace ho:=MY;refine cu (M:=D4) D1 rfl rfl gl rfl (by obtain⟨_,_,he,_⟩:=ho.isSlice;rw[he];rfl) kQ (fun Vl MZ n0=>?_);change Vl.heap[_]? =some (Obj.cells #[Vk] _ _)at MZ;have:=ak gl;replace kQ:=(n0.mem _ this).2 kQ;have:=ak gn;replace mC:=(n0.mem _ this).2 mC;replace gn:=n0.keep gn (fun hk=>by have hk:_=_:=hk;omega);replace hv:=hv.le n0.le;replace hp:=hp.le (by decide) n0.le;replace lg:=lg.le n0.le;replace ho:=ho.step n0 (fun c hc (h:c=bl)=>ho.eM gl (by decide) (h▸hc));replace hM:=n0.lt hM;have:=S.size;replace S:=S.trans n0 (fun k hk h=>by have h:_=_:=h;subst h;first|(exfalso;omega)|(show _≤_;omega)|exact⟨by first|omega|assumption,(S.mem _ hk).1 ((n0.mem _ (ak gl)).1 kQ)⟩|exact .inl rfl|exact .inr rfl|exact .inr (.inl rfl)|exact .inr (.inr rfl)|exact .inr (.inr (.inl rfl))|exact rfl);have ZA:=MZ;clear gl;have gl:=ZA;clear ZA;refine ab (aj ?_);apply uz mixed rfl rfl;intro WG Ri;have pv:=Ri D4;have:=ak gl;replace kQ:=(pv.mem _ this).2 kQ;replace gl:=pv.aK gl;have:=ak gn;replace mC:=(pv.mem _ this).2 mC;replace gn:=pv.aK gn;replace hv:=hv.le pv.le;replace hp:=hp.le (by decide) pv.le;replace lg:=lg.le pv.le;replace ho:=ho.aM pv;replace hM:=pv.lt hM;have:=S.size;replace S:=S.aB pv;refine ad rfl rfl ?_;refine ab ⟨rfl,rfl,rfl,?_⟩;refine fe rfl rfl rfl ?_;refine ab ⟨rfl,rfl,rfl,?_⟩;refine ad rfl rfl ?_;refine ab ⟨rfl,rfl,rfl,?_⟩;refine Rg.E4 (g:=18) rfl ((by decide)) (al rfl rfl (ad rfl rfl ?_));refine ab ⟨rfl,rfl,rfl,?_⟩;refine al rfl rfl (bR bI rfl hv rfl ?_);refine ab ⟨rfl,rfl,rfl,?_⟩;refine al rfl rfl (tc rfl rfl rfl ?_);refine ab ⟨rfl,rfl,rfl,?_⟩;refine aE rfl rfl rfl ?_
 refine ab ⟨rfl,rfl,rfl,?_⟩;refine ad rfl rfl ?_;refine ab ⟨rfl,rfl,rfl,?_⟩;refine aN (g:=23) rfl (fun Vm=>?_) (fun Vm=>?_)
 ·refine ar rfl rfl rfl rfl ?_;refine ab ⟨rfl,rfl,rfl,?_⟩;refine ar rfl rfl rfl rfl ?_;refine ab ⟨rfl,rfl,rfl,?_⟩;refine ar rfl rfl rfl rfl ?_;refine ab ⟨rfl,rfl,rfl,?_⟩;refine ar rfl rfl rfl rfl ?_;refine ab ⟨rfl,rfl,rfl,?_⟩;refine ar rfl rfl rfl rfl ?_;refine ab ⟨rfl,rfl,rfl,?_⟩;refine ar rfl rfl rfl rfl ?_;refine ab ⟨rfl,rfl,rfl,?_⟩;refine ar rfl rfl rfl rfl ?_;refine ab ⟨rfl,rfl,rfl,?_⟩;refine ar rfl rfl rfl rfl ?_;refine ab ⟨rfl,rfl,rfl,?_⟩;refine ar rfl rfl rfl rfl ?_;refine ab ⟨rfl,rfl,rfl,?_⟩;refine aX rfl rfl rfl ?_;refine ab ⟨rfl,rfl,rfl,?_⟩;refine ah rfl rfl ?_;refine ab ⟨rfl,rfl,rfl,?_⟩;refine eQ (aQ ?_)
  first
  |(have Qd:nw n x=true:=by
     have:x=[]:=cT.1 (by omega);simp[nw,this]
    rw[Qd];exact aV rfl rfl ⟨_,hM,rfl,(fun h=>by cases h),S⟩)
  |(have eN:x.isEmpty=false:=by cases x with
     |nil=>simp at Vm
     |cons a t=>rfl
    have hbv:nw n x=decide (n≤q.1):=by unfold nw;rw[hm,eN,D3 hq];rfl
    rw[hbv];exact aV rfl rfl ⟨_,hM,rfl,fun _=>⟨_,gl,kQ,hBl,gn,mC,by rw[b9,hx,cK,dF];exact ho⟩,S⟩)
 ·refine al rfl rfl (ad rfl rfl ?_);refine ab ⟨rfl,rfl,rfl,?_⟩;refine al rfl rfl (ad rfl rfl ?_);refine ab ⟨rfl,rfl,rfl,?_⟩;refine al rfl rfl (bR bI rfl hv rfl ?_);refine ab ⟨rfl,rfl,rfl,?_⟩;refine al rfl rfl (fu rfl rfl rfl (by omega) ?_);refine ab ⟨rfl,rfl,rfl,?_⟩;refine al rfl rfl ?_;obtain⟨q,hq⟩:∃q,x[x.length-1]? =some q:=⟨_,au (by omega)⟩;refine cE (M:=D4) bI oO rfl rfl rfl hv (aq _ _) (by omega) (fun u3 a OC RA=>?_);obtain rfl:q=a:=aI (hq.symm.trans (by rw[show((x.length:Int)-1).toNat=x.length-1 from by omega]at OC;exact OC));refine ab ⟨rfl,rfl,rfl,?_⟩;refine al rfl rfl ?_;refine aL (M:=D4) (A:=RT.po) (B:=RT.int .i64) bW rfl rfl I3 (by decide) (Q9) rfl rfl (by decide) (by assumption) (by repeat (first|exact aq _ _|refine aY (bu (by assumption)) ?_)) (fun alk agp=>?_);refine ab ⟨rfl,rfl,rfl,?_⟩;refine al rfl rfl ?_;refine cb (M:=D4) ax rfl rfl (by assumption) (by repeat (first|exact aq _ _|refine aY (bu (by assumption)) ?_)) (fun Na=>?_);refine aU (v':= .int .i64 (q.1)) rfl ?_;replace Na: -9223372036854775808≤(q.1:Int)∧q.1≤9223372036854775807:=Na;refine ab ⟨rfl,rfl,rfl,?_⟩;refine al rfl rfl (aP ax rfl rfl rfl gn rfl (aU (v':= .int .i64 n) rfl ?_));refine ab ⟨rfl,rfl,rfl,?_⟩;refine al rfl rfl (dT rfl rfl rfl ?_);refine ab ⟨rfl,rfl,rfl,?_⟩;refine aE rfl rfl rfl ?_;refine ab ⟨rfl,rfl,rfl,?_⟩;refine ah rfl rfl ?_;refine ab ⟨rfl,rfl,rfl,?_⟩;refine eQ (aQ ?_)
  first
  |(have Qd:nw n x=true:=by
     have:x=[]:=cT.1 (by omega);simp[nw,this]
    rw[Qd];exact aV rfl rfl ⟨_,hM,rfl,(fun h=>by cases h),S⟩)
  |(have eN:x.isEmpty=false:=by cases x with
     |nil=>simp at Vm
     |cons a t=>rfl
    have hbv:nw n x=decide (n≤q.1):=by unfold nw;rw[hm,eN,D3 hq];rfl
    rw[hbv];exact aV rfl rfl ⟨_,hM,rfl,fun _=>⟨_,gl,kQ,hBl,gn,mC,by rw[b9,hx,cK,dF];exact ho⟩,S⟩)
theorem Qe {M:aC} {bl bn B i:Nat} {n:Int} {ls:List (List Po)} {x:List Po} {v0:Value} (w0:World) (hM:Lt M w0) (hB:B≤w0.heap.size) (hJ:zT bl bn n ls B i M w0) (hx:ls[i]? =some x) (hv:((RT.po).sl).V M w0 x v0) (hr:Room x) (ot:i≤1000000000) (hm:fJ (-1) x=false):
  Spec Tryz.prog 144 #[v0,.pointer (some ⟨bl,0,none⟩),.pointer (some ⟨bn,0,none⟩)] w0 (fun v w=>∃M',Lt M' w∧v= .bool (nw n x)∧(nw n x=false→zT bl bn n ls B (i+1) M' w)∧Step M w0 M' w (lG M B)):=by
 have hlen:=ei hv;obtain⟨vl,gl,kQ,hBl,gn,mC,ho0⟩:=hJ;have nln:bl≠bn:=fun h=>by rw[h,gn]at gl;simp at gl
 obtain⟨ys,ho,Fk⟩:=ho0.cells rfl;rw[aH,bC]at Fk;clear ho0;refine bg (args:=[_,_,_]) (fn:=Tryz.f144) Tryz.func144 rfl (n:=34) Tryz.ntmps144 ?_;have S:Step M w0 M w0 (lG M B):=(aw _ _).cF (fun _ h=>h.elim) (fun _ h=>h.2);refine aj (ae (ah rfl rfl (ab (aj (ae (ad rfl rfl ?_))))));refine aW rfl rfl Vi (AN hM hv hr.ps hr.by_ hr.ln hr.rz) (fun r1 w1 hc=>?_);obtain⟨s1,hok,j4⟩:=hc;obtain rfl:=j4 hm;have:=ak gl;replace kQ:=(s1.mem _ this).2 kQ;replace gl:=s1.aK gl;have:=ak gn;replace mC:=(s1.mem _ this).2 mC;replace gn:=s1.aK gn;replace hv:=hv.le s1.le;replace ho:=ho.aM s1;replace hM:=s1.lt hM;have:=S.size;replace S:=S.aB s1;refine ad rfl rfl (bV rfl rfl rfl (bV rfl rfl rfl (ah rfl rfl (ah rfl rfl (ab (aj (ae (aP ed rfl rfl rfl gl rfl (aU (v':=vl) rfl (ad rfl rfl ?_))))))))));refine eg (A:=RT.cell) (hn:=by decide) (M:=M) ed zG (by decide) rfl rfl hM (Qb (v:= .pointer none) rfl) (.inr ⟨rfl,rfl⟩) (fun Zz agn lg pM=>?_);have:=ak gl;replace kQ:=(pM.mem _ this).2 kQ;replace gl:=pM.aK gl;have:=ak gn;replace mC:=(pM.mem _ this).2 mC;replace gn:=pM.aK gn;replace hv:=hv.le pM.le;replace ho:=ho.aM pM;replace hM:=pM.lt hM;have:=S.size;replace S:=S.aB pM;refine cX (M:=M) (base:=B) ed zG rfl rfl rfl rfl ho lg (aq _ _) (by simp;omega) (by simp;omega) (by have:=S.size;omega) (fun Vk D4 ago MY pN=>?_);have:=ak gl;replace kQ:=(pN.mem _ this).2 kQ;replace gl:=pN.keep gl (fun h=>by first|exact ho.ej gl h|exact ho.eM gl (by decide) h|(have:=(ho.base _ h).1;omega));have:=ak gn;replace mC:=(pN.mem _ this).2 mC;replace gn:=pN.keep gn (fun h=>by first|exact ho.ej gn h|exact ho.eM gn (by decide) h|(have:=(ho.base _ h).1;omega))
 replace hv:=hv.le pN.le;replace lg:=lg.le pN.le;replace hM:=pN.lt hM;have:=S.size;replace S:=S.trans pN (fun k hk h=>⟨(ho.base k h).1,(S.mem k hk).1 (ho.mut_ k h)⟩);replace ho:=MY;refine cu (M:=D4) D1 rfl rfl gl rfl (by obtain⟨_,_,he,_⟩:=ho.isSlice;rw[he];rfl) kQ (fun Vl MZ n0=>?_);change Vl.heap[_]? =some (Obj.cells #[Vk] _ _)at MZ;have:=ak gl;replace kQ:=(n0.mem _ this).2 kQ;have:=ak gn;replace mC:=(n0.mem _ this).2 mC;replace gn:=n0.keep gn (fun hk=>by have hk:_=_:=hk;omega);replace hv:=hv.le n0.le;replace lg:=lg.le n0.le;replace ho:=ho.step n0 (fun c hc (h:c=bl)=>ho.eM gl (by decide) (h▸hc));replace hM:=n0.lt hM;have:=S.size;replace S:=S.trans n0 (fun k hk h=>by have h:_=_:=h;subst h;first|(exfalso;omega)|(show _≤_;omega)|exact⟨by first|omega|assumption,(S.mem _ hk).1 ((n0.mem _ (ak gl)).1 kQ)⟩|exact .inl rfl|exact .inr rfl|exact .inr (.inl rfl)|exact .inr (.inr rfl)|exact .inr (.inr (.inl rfl))|exact rfl);have ZA:=MZ;clear gl;have gl:=ZA;clear ZA;refine ab (aj ?_);apply uz mixed rfl rfl;intro WG Ri;have pv:=Ri D4;have:=ak gl;replace kQ:=(pv.mem _ this).2 kQ;replace gl:=pv.aK gl;have:=ak gn;replace mC:=(pv.mem _ this).2 mC;replace gn:=pv.aK gn;replace hv:=hv.le pv.le;replace lg:=lg.le pv.le;replace ho:=ho.aM pv;replace hM:=pv.lt hM;have:=S.size;replace S:=S.aB pv;refine ad rfl rfl ?_;refine ab ⟨rfl,rfl,rfl,?_⟩;refine fe rfl rfl rfl ?_;refine ab ⟨rfl,rfl,rfl,?_⟩;refine ad rfl rfl ?_;refine ab ⟨rfl,rfl,rfl,?_⟩;refine Rg.Ha (g:=18) rfl ((by decide)) (ar rfl rfl rfl rfl ?_);refine ab ⟨rfl,rfl,rfl,?_⟩;refine ar rfl rfl rfl rfl ?_;refine ab ⟨rfl,rfl,rfl,?_⟩;refine ar rfl rfl rfl rfl ?_;refine ab ⟨rfl,rfl,rfl,?_⟩;refine aX rfl rfl rfl ?_;refine ab ⟨rfl,rfl,rfl,?_⟩;refine ad rfl rfl ?_;refine ab ⟨rfl,rfl,rfl,?_⟩;refine ar rfl rfl rfl rfl ?_
 refine ab ⟨rfl,rfl,rfl,?_⟩;refine ar rfl rfl rfl rfl ?_;refine ab ⟨rfl,rfl,rfl,?_⟩;refine ar rfl rfl rfl rfl ?_;refine ab ⟨rfl,rfl,rfl,?_⟩;refine ar rfl rfl rfl rfl ?_;refine ab ⟨rfl,rfl,rfl,?_⟩;refine ar rfl rfl rfl rfl ?_;refine ab ⟨rfl,rfl,rfl,?_⟩;refine ar rfl rfl rfl rfl ?_;refine ab ⟨rfl,rfl,rfl,?_⟩;refine ar rfl rfl rfl rfl ?_;refine ab ⟨rfl,rfl,rfl,?_⟩;refine ar rfl rfl rfl rfl ?_;refine ab ⟨rfl,rfl,rfl,?_⟩;refine ar rfl rfl rfl rfl ?_;refine ab ⟨rfl,rfl,rfl,?_⟩;refine aX rfl rfl rfl ?_;refine ab ⟨rfl,rfl,rfl,?_⟩;refine ah rfl rfl ?_;refine ab ⟨rfl,rfl,rfl,?_⟩;refine eQ (aQ ?_);have Qd:nw n x=true:=by simp[nw,hm]
 rw[Qd];exact aV rfl rfl ⟨_,hM,rfl,(fun h=>by cases h),S⟩
theorem Nb {M:aC} {bl bn B i:Nat} {n:Int} {ls:List (List Po)} {x:List Po} {v0:Value} (w0:World) (hM:Lt M w0) (hB:B≤w0.heap.size) (hJ:zT bl bn n ls B i M w0) (hx:ls[i]? =some x) (hv:((RT.po).sl).V M w0 x v0) (hr:Room x) (ot:i≤1000000000):
  Spec Tryz.prog 144 #[v0,.pointer (some ⟨bl,0,none⟩),.pointer (some ⟨bn,0,none⟩)] w0 (fun v w=>∃M',Lt M' w∧v= .bool (nw n x)∧(nw n x=false→zT bl bn n ls B (i+1) M' w)∧Step M w0 M' w (lG M B)):=by
 cases hm:fJ (-1) x with
 |true=>exact Vj w0 hM hB hJ hx hv hr ot hm
 |false=>exact Qe w0 hM hB hJ hx hv hr ot hm
end Go.K
namespace Go.K
open Go.Proofs
namespace TKBldH
theorem BM:TI Tryz.prog 58 (.slice none 0 0) 1 24:=by unfold TI;kernel_rfl
theorem Cr:TI Tryz.prog 72 (.agg #[(.slice none 0 0),(.slice none 0 0),(.slice none 0 0),(.slice none 0 0)]) 4 96:=by unfold TI;kernel_rfl
theorem agq:TI Tryz.prog 141 (.agg #[(.slice none 0 0),(.slice none 0 0),(.pointer none)]) 3 56:=by unfold TI;kernel_rfl
theorem D1:TI Tryz.prog 196 (.slice none 0 0) 1 24:=by unfold TI;kernel_rfl
theorem agr:placesOf Tryz.prog 141=[(0,1),(1,1),(2,1)].map some:=by kernel_rfl
theorem PX:Enters Tryz.prog 51:=enters Tryz.func51 rfl (by decide)
theorem E92:Enters Tryz.prog 92:=enters Tryz.func92 rfl (by decide)
theorem ags:Enters Tryz.prog 143:=enters Tryz.func143 rfl (by decide)
theorem agt:Enters Tryz.prog 144:=enters Tryz.func144 rfl (by decide)
theorem agu:Enters Tryz.prog 146:=enters Tryz.func146 rfl (by decide)
theorem agv:Enters Tryz.prog 147:=enters Tryz.func147 rfl (by decide)
end TKBldH
open TKBldH
set_option maxRecDepth 10000
def zw (p:Pa):Bool:=decide (p.1.length=p.2.1.length)&&eA (-1) p.2.1&&p.2.2.2.all (fun x=> !nw (p.1.length:Int) x)&&decide (p.2.2.1.length=p.2.2.2.length)&&DS none p.2.2.1
def rH (p:Pa):Se:=(p.1,p.2.1,p.2.2.1,p.2.2.2.map nq)
structure Nc (p:Pa):Prop where
 a:p.1.length≤1000000000
 b:p.2.1.length≤1000000000
 c:p.2.2.1.length≤1000000000
 d:p.2.2.2.length≤1000000000
 e:∀x∈p.2.2.2,Room x
theorem Gp {M:aC} {p:Pa} {v0:Value} (w0:World) (hM:Lt M w0) (hv:RT.pa.V M w0 p v0) (hR:Nc p):
  Spec Tryz.prog 92 #[v0] w0 (fun v w=>Step M w0 M w aD∧(zw p=true→cP RT.se M w v (rH p))∧(zw p=false→v= .pointer none)):=by
 have kr:=hM;obtain⟨hRa,hRb,hRc,hRd,hRe⟩:=hR;refine bg (args:=[_]) (fn:=Tryz.f92) Tryz.func92 rfl (n:=45) Tryz.ntmps92 ?_;have S:Step M w0 M w0 aD:=(aw _ _).cF (fun _ h=>h.elim) (fun _ h=>h.elim);refine aj (ae ?_);refine vK (A:=RT.pa) rfl rfl hM hv rfl (fun u0 w1 dq s0 _=>?_);replace hM:=s0.lt hM;have:=S.size;replace S:=S.aB s0;refine ah rfl rfl (ab (aj (ae ?_)));refine aL (M:=M) (A:=RT.pa) (B:=(RT.int .i64).sl) bF rfl rfl j7 (by decide) (pa0) rfl rfl (by decide) (by assumption) (by repeat (first|exact aq _ _|refine aY (bu (by assumption)) ?_)) (fun Bv mV=>?_);refine bT (M:=M) an rfl rfl rfl rfl rfl (by assumption) (by repeat (first|exact aq _ _|refine aY (bu (by assumption)) ?_)) (fun zK mW=>?_);replace mW:((RT.int .i64).sl).V M _ p.1 zK:=mW;refine bR an rfl mW rfl ?_;refine ek M I3 rfl (fun wY IP aeq aer jH s1_3=>?_);obtain⟨mX,ym⟩:∃M',M'=ins M wY:=⟨_,rfl⟩;rw[←ym]at s1_3;have jP:mX wY:=by rw[ym];exact .inl rfl
 change IP.heap[wY]? =some (.cells #[.int .i64 0] _ _)at jH;replace dq:=dq.le (by decide) s1_3.le;replace hM:=s1_3.lt hM;have:=S.size;replace S:=S.aB s1_3;refine cu (M:=mX) I3 rfl rfl jH rfl (rfl) jP (fun TO Qf mg=>?_);change TO.heap[_]? =some (Obj.cells #[.int .i64 (p.1.length:Int)] _ _)at Qf;have:=ak jH;replace jP:=(mg.mem _ this).2 jP;replace dq:=dq.le (by decide) mg.le;replace hM:=mg.lt hM;have:=S.size;replace S:=S.trans mg (fun k hk h=>by have h:_=_:=h;subst h;first|(exfalso;omega)|(show _≤_;omega)|exact⟨by first|omega|assumption,(S.mem _ hk).1 ((mg.mem _ (ak jH)).1 jP)⟩|exact .inl rfl|exact .inr rfl|exact .inr (.inl rfl)|exact .inr (.inr rfl)|exact .inr (.inr (.inl rfl))|exact rfl);have Dh:=Qf;clear jH;have jH:=Dh;clear Dh;refine ab (aj (aj (ae ?_)));refine aL (M:=mX) (A:=RT.pa) (B:=(RT.int .i64).sl) bF rfl rfl j7 (by decide) (pa1) rfl rfl (by decide) (by assumption) (by repeat (first|exact aq _ _|refine aY (bu (by assumption)) ?_)) (fun aqj aln=>?_);refine bT (M:=mX) an rfl rfl rfl rfl rfl (by assumption) (by repeat (first|exact aq _ _|refine aY (bu (by assumption)) ?_)) (fun agw Nd=>?_);replace Nd:((RT.int .i64).sl).V mX _ p.2.1 agw:=Nd;refine bR an rfl Nd rfl (aP ax rfl rfl rfl jH rfl (aU (v':= .int .i64 (p.1.length:Int)) rfl (fe rfl rfl rfl (ad rfl rfl ?_))));refine aN (g:=16) rfl (fun agx=>?_) (fun agx=>?_)
 ·refine ar rfl rfl rfl rfl (ar rfl rfl rfl rfl (ar rfl rfl rfl rfl (ar rfl rfl rfl rfl (aX rfl rfl rfl (ab (lh rfl (aj (ae (ah rfl rfl (ab (aQ ?_)))))))))))
  have eb:zw p=false:=by
   unfold zw
   first
   |(rw[decide_eq_false (show¬p.1.length=p.2.1.length by omega)];simp;done)
   |(simp[c2];done)
  exact aV rfl rfl ⟨S.back,fun h=>by(rw[eb]at h;cases h),fun _=>rfl⟩
 ·have WW:p.1.length=p.2.1.length:=by omega
  refine al rfl rfl ?_;refine aL (M:=mX) (A:=RT.pa) (B:=(RT.int .i64).sl) bF rfl rfl j7 (by decide) (pa1) rfl rfl (by decide) (by assumption) (by repeat (first|exact aq _ _|refine aY (bu (by assumption)) ?_)) (fun aqk alo=>?_);refine al rfl rfl ?_;refine bT (M:=mX) an rfl rfl rfl rfl rfl (by assumption) (by repeat (first|exact aq _ _|refine aY (bu (by assumption)) ?_)) (fun agy Nf=>?_);replace Nf:((RT.int .i64).sl).V mX _ p.2.1 agy:=Nf;refine al rfl rfl ?_;refine aW rfl rfl ags (Jh _ Nf) (fun r wc hc=>?_);obtain⟨rfl,rfl⟩:=hc;refine al rfl rfl (mJ rfl rfl (aU (v':= .bool (decide (¬eA (-1) p.2.1=true))) (by simp) (aE rfl rfl rfl (ab ?_))));refine bN rfl (fun c2=>?_) (fun c2=>?_)
  ·refine aj (ae (ah rfl rfl (ab (aQ ?_))))
   have eb:zw p=false:=by
    unfold zw
    first
    |(rw[decide_eq_false (show¬p.1.length=p.2.1.length by omega)];simp;done)
    |(simp[c2];done)
   exact aV rfl rfl ⟨S.back,fun h=>by(rw[eb]at h;cases h),fun _=>rfl⟩
  ·have er:eA (-1) p.2.1=true:=dE.1 c2;refine aT (aj (ae ?_));refine ek mX D1 rfl (fun Ng K8 aql aqm C3 lx=>?_);obtain⟨HP,Nh⟩:∃M',M'=ins mX Ng:=⟨_,rfl⟩;rw[←Nh]at lx;have Vn:HP Ng:=by rw[Nh];exact .inl rfl
   change K8.heap[Ng]? =some (.cells #[.slice none 0 0] _ _)at C3;have:=ak jH;replace jP:=(lx.mem _ this).2 jP;replace jH:=lx.aK jH;replace dq:=dq.le (by decide) lx.le;replace hM:=lx.lt hM;have:=S.size;replace S:=S.aB lx;refine ab (aj (ae (j5 (xs:=[]) (ys:=[.tmp 4,.tmp 3]) rfl rfl rfl (ah rfl rfl (ab (aj (aj (ae ?_))))))));refine aL (M:=HP) (A:=RT.pa) (B:=((RT.po).sl).sl) bF rfl rfl BM (by decide) (pa3) rfl rfl (by decide) (by assumption) (by repeat (first|exact aq _ _|refine aY (bu (by assumption)) ?_)) (fun Yq Lu=>?_);refine bT (M:=HP) fR rfl rfl rfl rfl rfl (by assumption) (by repeat (first|exact aq _ _|refine aY (bu (by assumption)) ?_)) (fun Uh yn=>?_);replace yn:(((RT.po).sl).sl).V HP _ p.2.2.2 Uh:=yn;refine ad rfl rfl ?_;refine aW rfl rfl agu (zR (cap:=[.pointer (some ⟨Ng,0,none⟩),.pointer (some ⟨wY,0,none⟩)]) (B:=w0.heap.size) (J:=zT Ng wY (p.1.length:Int) p.2.2.2 w0.heap.size) (bad:=nw (p.1.length:Int)) _ hM yn agt ⟨_,C3,Vn,by omega,jH,jP,dz _ _ _ _ _⟩ (fun i M w M' w' h s=>h.aM s) (fun i M w x vx hJ hM hx qX=>Nb w hM (by obtain⟨_,h1,_,h2,_⟩:=hJ;have:=ak h1;omega) hJ hx qX (hRe x (az hx)) (by have:=(ao.1 hx).1;omega))) (fun r6 w6 hc=>?_);obtain⟨M6,k6,rfl,hk6,Ji,s6,hk7,hk8⟩:=hc;replace dq:=dq.le (by decide) s6.le;replace S:=S.l0 s6 (aO _);refine ab ?_;refine bN rfl (fun c6=>?_) (fun c6=>?_)
   ·obtain⟨x6,hx6,qu⟩:=hk8 c6
    have eb:zw p=false:=by
     unfold zw;have:p.2.2.2.all (fun x=> !nw (p.1.length:Int) x)=false:=List.all_eq_false.2 ⟨x6,hx6,by simp[qu]⟩;simp[this]
    refine aj (ae (ah rfl rfl (ab (aQ ?_))));exact aV rfl rfl ⟨S.back,fun h=>by(rw[eb]at h;cases h),fun _=>rfl⟩
   ·refine aT (aj (ae ?_));obtain⟨qu,⟨vl,gl,_,_,_,_,fz⟩⟩:=hk7 (by omega);rw[bc (aO _)]at fz;have kB:(((RT.li).ptr).sl).V M w6 (p.2.2.2.map nq) vl:=fz.close kr S (by simp;omega);replace dq:cP RT.pa M w6 u0 p:=dq.le (by decide) (Le.close kr S);replace S:=S.back;replace hM:=S.lt kr;refine aL (M:=M) (A:=RT.pa) (B:=RT.str.sl) bF rfl rfl zt (by decide) pa2 rfl rfl (by decide) dq (aq _ _) (fun aqq alp=>?_);refine bT (M:=M) aS rfl rfl rfl rfl rfl (by assumption) (by repeat (first|exact aq _ _|refine aY (bu (by assumption)) ?_)) (fun agz Ni=>?_);replace Ni:(RT.str.sl).V M _ p.2.2.1 agz:=Ni;refine aP ed rfl rfl rfl gl rfl (aU (v':=vl) rfl ?_);refine aW rfl rfl agv (Gg _ hM Ni kB (by omega) (by simp;omega)) (fun r8 w8 hc=>?_);obtain⟨pd,rfl,OG,s8⟩:=hc;replace dq:=dq.le (by decide) s8.le;replace kB:=kB.le s8.le;replace gl:=s8.aK gl;replace hM:=s8.lt hM;have:=S.size;replace S:=S.aB s8;refine ad rfl rfl (bV rfl rfl rfl (bV rfl rfl rfl (ah rfl rfl (ah rfl rfl (ab (aj (aj (ae (ad rfl rfl (fe rfl rfl rfl (ab ?_)))))))))));refine bN rfl (fun c9=>?_) (fun c9=>?_)
    ·have eb:zw p=false:=by
      by_cases h:zw p=true
      ·unfold zw at h;simp only[bU,decide_eq_true_eq]at h;exact absurd (by rw[if_pos ⟨by simp[h.1.2],h.2⟩]) c9
      ·simpa using h
     refine aj (ae (ah rfl rfl (ab (aQ ?_))));exact aV rfl rfl ⟨S.back,fun h=>by(rw[eb]at h;cases h),fun _=>rfl⟩
    ·have e9:(p.2.2.1.length=(p.2.2.2.map nq).length∧DS none p.2.2.1=true):=by
      by_cases h:(p.2.2.1.length=(p.2.2.2.map nq).length∧DS none p.2.2.1=true)
      ·exact h
      ·exact absurd (by rw[if_neg h];decide) c9
     replace OG:=OG e9.1 e9.2;refine aT (aj ?_);apply T.Kw [0,1,3,4,6,2,5,7,8,9] 5 [2,3,4] 2 aD mixed
     ·simp+decide only[xL,sf,eR,jY,jb,jc,fq,db,im,pR,cond_true,cond_false,Nat.reduceBEq,Nat.reduceAdd,beq_self_eq_true];rfl
     ·rfl
     ·rfl
     ·rfl
     ·rfl
     ·rfl
     ·rfl
     intro Mv Mw;have je:=Mw M;replace dq:=dq.le (by decide) je.le;replace kB:=kB.le je.le;replace gl:=je.aK gl;replace hM:=je.lt hM;have:=S.size;replace S:=S.aB je;refine aL (M:=M) (A:=RT.pa) (B:=(RT.int .i64).sl) bF rfl rfl j7 (by decide) (pa0) rfl rfl (by decide) (by assumption) (by repeat (first|exact aq _ _|refine aY (bu (by assumption)) ?_)) (fun Rx Lx=>?_);refine ab ⟨rfl,rfl,rfl,?_⟩;refine bT (M:=M) an rfl rfl rfl rfl rfl (by assumption) (by repeat (first|exact aq _ _|refine aY (bu (by assumption)) ?_)) (fun ZB Gq=>?_);replace Gq:((RT.int .i64).sl).V M _ p.1 ZB:=Gq;refine ab ⟨rfl,rfl,rfl,?_⟩;refine aL (M:=M) (A:=RT.pa) (B:=(RT.int .i64).sl) bF rfl rfl j7 (by decide) (pa1) rfl rfl (by decide) (by assumption) (by repeat (first|exact aq _ _|refine aY (bu (by assumption)) ?_)) (fun alq Vo=>?_);refine ab ⟨rfl,rfl,rfl,?_⟩;refine bT (M:=M) an rfl rfl rfl rfl rfl (by assumption) (by repeat (first|exact aq _ _|refine aY (bu (by assumption)) ?_)) (fun ZC oZ=>?_);replace oZ:((RT.int .i64).sl).V M _ p.2.1 ZC:=oZ;refine ab ⟨rfl,rfl,rfl,?_⟩;refine ad rfl rfl ?_;refine ab ⟨rfl,rfl,rfl,?_⟩;refine eQ ?_;obtain⟨bb,oo,cs,ee,fr,rfl,k8,_⟩:=Vo.float;refine⟨iH ⟨iF bF rfl j7 (by decide),⟨eC rfl k8 (fun h=>h),⟨gX,trivial⟩⟩⟩,?_⟩;have kp:=jC aD Mv;refine aW rfl rfl PX (qt hM Gq (by omega)) (fun v5 w5 hc=>?_);obtain⟨pU,s5⟩:=hc;replace oZ:=oZ.le s5.le;replace OG:=(OG.le (by decide) je.le).le (by decide) s5.le;replace dq:=dq.le (by decide) s5.le;replace kB:=kB.le s5.le;replace gl:=s5.aK gl;replace hM:=s5.lt hM;have:=S.size;replace S:=S.aB s5;refine(fun(kp:eJ _ _ _)=>ab ⟨rfl,rfl,fun _=>kp,?_⟩) (by first|exact kp|exact kp.qV (by assumption)|exact kp.goN (by assumption)|exact kp.go (by assumption) (fun _ _ h=>by first|exact h|exact h.elim))
     refine aW rfl rfl PX (qt hM oZ (by omega)) (fun v6 w6' hc=>?_);obtain⟨uU,RY⟩:=hc;replace dq:=dq.le (by decide) RY.le;replace kB:=kB.le RY.le;replace pU:=pU.le RY.le;replace oZ:=oZ.le RY.le;replace OG:=OG.le (by decide) RY.le;replace gl:=RY.aK gl;replace hM:=RY.lt hM;have:=S.size;replace S:=S.aB RY;refine(fun(kp:eJ _ _ _)=>ab ⟨rfl,rfl,fun _=>kp,?_⟩) (by first|exact kp|exact kp.qV (by assumption)|exact kp.goN (by assumption)|exact kp.go (by assumption) (fun _ _ h=>by first|exact h|exact h.elim));refine iI (places:=[(0,1),(1,1),(2,1)]) iO agq agr rfl ⟨_,_,rfl,rfl,_,_,rfl,rfl,_,_,rfl,rfl,rfl⟩ (out:=[_,_,_]) ⟨0,[_],rfl,jw pU,by simp[Value.cells],1,[_],rfl,jw uU,by simp[Value.cells],2,[_],rfl,uZ OG,by simp[Value.cells],rfl⟩ ?_;refine ab ⟨rfl,rfl,fun h=>absurd rfl h,?_⟩;refine vK (A:=RT.se) (a:=rH p) rfl rfl hM (aeQ (x:=rH p) pU uU OG) rfl (fun u8 w8' hu8 Qg _=>?_);replace dq:=dq.le (by decide) Qg.le;replace kB:=kB.le Qg.le;replace pU:=pU.le Qg.le;replace oZ:=oZ.le Qg.le;replace OG:=OG.le (by decide) Qg.le;replace uU:=uU.le Qg.le;replace gl:=Qg.aK gl;replace hM:=Qg.lt hM;have:=S.size;replace S:=S.aB Qg;refine ab ⟨rfl,rfl,fun h=>absurd rfl h,?_⟩;refine ah rfl rfl ?_;refine ab ⟨rfl,rfl,fun h=>absurd rfl h,?_⟩;refine mH (aQ ?_)
     have eb:zw p=true:=by
      unfold zw;rw[decide_eq_true WW,er,e9.2,decide_eq_true (by simpa using e9.1),fv.2 (fun x hx=>by simp[qu x hx])];rfl
     exact aV rfl rfl ⟨S.back,fun _=>hu8,fun h=>by(rw[eb]at h;cases h)⟩
theorem yI {M:aC} {p:Pa} {v0:Value} (w0:World) (hM:Lt M w0) (hv:RT.pa.V M w0 p v0) (hR:Nc p):
  Spec Tryz.prog 43 #[v0] w0 (fun v w=>Step M w0 M w aD∧(zw p=true→∃s,v= .tuple #[s,.int .i64 0]∧cP RT.se M w s (rH p))∧(zw p=false→v= .tuple #[.pointer none,.int .i64 1])):=by
 refine bg (args:=[_]) (fn:=Tryz.f43) Tryz.func43 rfl (n:=10) Tryz.ntmps43 ?_;have S:Step M w0 M w0 aD:=(aw _ _).cF (fun _ h=>h.elim) (fun _ h=>h.elim);refine aj (ae ?_);refine vK (A:=RT.pa) rfl rfl hM hv rfl (fun u0 w1 dq s0 _=>?_);replace hM:=s0.lt hM;have:=S.size;replace S:=S.aB s0;refine ah rfl rfl (ah rfl rfl (ab (aj (ae ?_))));refine dg (M:=M) (A:=RT.pa) bF rfl Cr (by decide) rfl rfl rfl dq (aq _ _) (fun v1 qL=>?_);refine aW rfl rfl E92 (Gp _ hM qL hR) (fun r1 w2 hc=>?_);obtain⟨s2,hok,j4⟩:=hc
 obtain⟨o1,UH⟩:∃o,r1= .pointer o:=by
  cases h:zw p with
  |true=>obtain⟨b,o,_,h1,_⟩:=hok h;exact⟨_,h1⟩
  |false=>exact⟨none,j4 h⟩
 subst UH;replace dq:=dq.le (by decide) s2.le;replace hM:=s2.lt hM;have:=S.size;replace S:=S.aB s2;refine ah rfl rfl (ab (aj (aj (ae (ad rfl rfl (Rg.KE jg rfl rfl rfl (ab ?_)))))));refine bN rfl (fun c2=>?_) (fun c2=>?_)
 ·refine aj (ae (ah rfl rfl (ah rfl rfl (ab (aQ ?_)))))
  have eb:zw p=false:=by
   by_cases h:zw p=true
   ·obtain⟨b,o,_,h1,_⟩:=hok h;rw[c2]at h1;cases h1
   ·simpa using h
  exact eS rfl rfl rfl ⟨S.back,fun h=>by(rw[eb]at h;cases h),fun _=>rfl⟩
 ·refine aT (aj (ae (ad rfl rfl (ah rfl rfl (ah rfl rfl (ab (aQ ?_)))))))
  have eb:zw p=true:=by
   by_cases h:zw p=true
   ·exact h
   ·have:=j4 (by simpa using h);simp at this;exact absurd this c2
  exact eS rfl rfl rfl ⟨S.back,fun _=>⟨_,rfl,hok eb⟩,fun h=>by(rw[eb]at h;cases h)⟩
end Go.K
namespace Go.K
section
variable {P:Program} {r:Option Nat} {n:Nat} {L:Sl} {ds:List Deferred} {w:World} {K:Kt} {M:aC} {F:List (Nat×aC)}
def tT (l:List Oper) (m q d:Nat):Bool:=
 Nat.blt q m&&mP l [q] m ((l[m]?.map cv).getD [])&&kd l (m+1)&&
 ((List.range' m (l.length-m)).all fun j=>match l[j]? with
  |some o=>rZ o.op&&(!(asks l o).contains d||(cv o).contains q)
  |none=>true)
theorem wy {l:List Oper} {m q d:Nat} (h:tT l m q d=true):q<m∧mP l [q] m ((l[m]?.map cv).getD [])=true∧kd l (m+1)=true∧∀j o,m≤j→l[j]? =some o→rZ o.op=true∧(d∈asks l o→q∈cv o):=by
 simp only[tT,bU,Nat.blt_eq]at h;obtain⟨⟨⟨h1,h2⟩,h3⟩,h4⟩:=h;refine⟨h1,h2,h3,fun j o hj ho=>?_⟩;have dQ:=(ao.1 ho).1;have:=fv.1 h4 j (List.mem_range'_1.2 ⟨hj,by omega⟩);rw[ho]at this;simp only[bU,jT,iV,jD]at this;refine⟨this.1,fun hd=>?_⟩;rcases this.2 with h|h
 ·rw[←Bool.not_eq_true,jD]at h;exact absurd hd h
 ·exact h
structure TJ (P:Program) (r:Option Nat) (n:Nat) (l:List Oper) (m q d:Nat) (c:Value) (L:Sl) (K:Kt) (ds:List Deferred) (D:Nat→Prop) (a:Act) (w:World) (p:Nat) (ac:Act) (Lp:Sl) (wq:World):Prop where
 p0:m≤p
 p1:p≤l.length
 dt:∀i,i<l.length→i≠q→(D i↔i<p)
 ag:iR n ac Lp ds
 tr:sd P r n l.toArray aD wq K 0 (l.drop p) Lp ds w
 yes:D q→a=ac
 no: ¬D q→ac=a.put (some d) c∧∀t u,lk (ka l q L) t=some u→a.tmps[t]? =some u
theorem put_comm (a:Act) {d:Nat} {e:Option Nat} (h:e≠some d) (c v:Value):(a.put (some d) c).put e v=(a.put e v).put (some d) c:=by
 cases e with
 |none=>rfl
 |some e=>
  have eN:e≠d:=fun h'=>h (by rw[h'])
  simp only[Act.put];congr 1;apply Array.ext_getElem?;intro i;simp only[dA,Array.size_setIfInBounds];by_cases h1:e=i<;>by_cases h2:d=i<;>simp_all
theorem AP (a:Act) {d t:Nat} (c:Value) (h:t≠d):(a.put (some d) c).tmps[t]? =a.tmps[t]? :=by rw[iA,if_neg (fun e=>h (by injection e with e;exact e.symm))]
theorem TJ.next {l:List Oper} {m q d:Nat} {c:Value} (dj:eE l 0=true) (hok:tT l m q d=true) {oq:Oper} (hq:l[q]? =some oq) (Gr:oq.dst=some d) (Vp:jJ oq.op=true) (Qh:oq.guard=none)
  (gY:∀(ρ:Operand→Value) w,(∀x u,ev (ka l q L) x=some u→ρ x=u)→(execOp ρ oq).run P w= .ok (.value c) w)
  {Q:Exit→Act→World→Prop} {D:Nat→Prop} {a:Act} {w:World} {j:Nat} {o:Oper} {rest:List Nat} (ho:l[j]? =some o) (pg: ¬D j) (hp:∀k∈cv o,D k) {p:Nat} {ac:Act} {Lp:Sl} {wq:World} (hi:TJ P r n l m q d c L K ds D a w p ac Lp wq)
  (hk:∀a' w',(∃p ac Lp wq,TJ P r n l m q d c L K ds (fun i=>i=j∨D i) a' w' p ac Lp wq)→wpOpsIn (FW r) 0 P l.toArray Q rest a' w'):wpOpsIn (FW r) 0 P l.toArray Q (j::rest) a w:=by
 obtain⟨hqm,_,xH,Iu⟩:=wy hok;have wT:=(ao.1 ho).1;by_cases hjq:j=q
 ·subst hjq;rw[hq]at ho;cases ho;obtain⟨HQ,kZ⟩:=hi.no pg;refine One.run (by simpa using hq) Vp (v:=c) ?_ (hk _ _ ⟨p,ac,Lp,wq,hi.p0,hi.p1,fun i h1 h2=>⟨fun h=>(hi.dt i h1 h2).1 (h.resolve_left h2),fun h=> .inr ((hi.dt i h1 h2).2 h)⟩,hi.ag,hi.tr,fun _=>by rw[HQ,Gr],fun h=>absurd (.inl rfl) h⟩);unfold One;rw[if_pos (by simp[Region.wanted,Qh])];refine gY a.eval w fun x u hx=> ?_
  cases x with
  |tmp t=>simp only[ev]at hx;simp[Act.eval,kZ t u hx]
  |const v=>simp only[ev]at hx;cases hx;rfl
  |global g=>simp only[ev]at hx;cases hx;rfl
  |func f=>simp only[ev]at hx;cases hx;rfl
 ·have hjp:j=p:=by
   have h1:p≤j:=by
    rcases cy j p with h|h
    ·exact absurd ((hi.dt j wT hjq).2 h) pg
    ·exact h
   have:=hi.p0;rcases cy m j with h|h
   ·have h2:=hp _ (kJ xH (j:=j) (by omega) ho);have:=(hi.dt (j-1) (by omega) (by omega)).1 h2;omega
   ·omega
  subst hjp;obtain⟨hto,hta⟩:=Iu j o hi.p0 ho;have A5:o.dst≠some d:=fun h=>hjq (fL dj ho hq h Gr)
  have Ch:∀t∈asks l o,a.tmps[t]? =ac.tmps[t]? :=fun t ht=>by
   by_cases hD:D q
   ·rw[hi.yes hD]
   ·rw[(hi.no hD).1,AP];rintro rfl;exact hD (hp q (hta ht))
  obtain⟨JS,CA⟩:=nK Ch
  have hdf:a.defers=ac.defers:=by
   by_cases hD:D q
   ·rw[hi.yes hD]
   ·rw[(hi.no hD).1,put_defers]
  have vR:=hi.tr;rw[dC wT,(ao.1 ho).2]at vR;have h1:=Rg.run vR ac hi.ag;refine CH (by simpa using ho) hto JS CA hdf h1 (fun e a w ⟨_,_,_,he,_⟩=>he) (fun v w' ⟨L',pX,hA,_,Ko,_,S0⟩=>?_) (fun d' w' ⟨L',pX,hA,_,Ko,_⟩=>?_)
  ·rw[Ko]at hA;refine hk _ _ ⟨j+1,ac.put o.dst v,L',wq,by have:=hi.p0;omega,by omega,fun i h3 h4=>?_,hA,S0,fun h=>?_,fun h=>?_⟩
   ·constructor
    ·rintro(h|h)
     ·omega
     ·have:=(hi.dt i h3 h4).1 h;omega
    ·intro h;rcases lj (show i≤j by omega)with h5|h5
     ·exact .inl h5
     ·exact .inr ((hi.dt i h3 h4).2 h5)
   ·rw[hi.yes (h.resolve_left (fun e=>hjq e.symm))]
   ·have hD: ¬D q:=fun h'=>h (.inr h')
    obtain⟨HQ,kZ⟩:=hi.no hD;refine⟨by rw[HQ,put_comm a A5],fun t u ht=>?_⟩;obtain⟨h3,h4⟩:=jV (f:=k3 l q) ht;rw[iA,if_neg,kZ t u ht];intro e;simp only[k3,fv]at h3;have:=h3 o (az ho);simp only[e,beq_self_eq_true,Bool.not_true,Bool.false_or,jD]at this;exact hD (hp q this)
  ·have h3:=hA.defers;rw[put_defers,Ko]at h3;have h4:=congrArg List.length h3;rw[hi.ag.defers]at h4;simp at h4
theorem ij.Vq {l:List Oper} {wd:World} (m q d:Nat) (c:Value) {oq:Oper} (F:List (Nat×aC)) (S:List (cJ M)) (SV:S.length=m) (pZ:Nat.blt m l.length=true) (dj:eE l 0=true) (hok:tT l m q d=true)
  (hq:l[q]? =some oq) (Gr:oq.dst=some d) (Vp:jJ oq.op=true) (Qh:oq.guard=none) (hS:S[q]? =some (cJ.eq c)) (gY:∀(ρ:Operand→Value) w,(∀x u,ev (ka l q L) x=some u→ρ x=u)→(execOp ρ oq).run P w= .ok (.value c) w)
  (oB:∀p∈F,∀b,p.2 b→M b) (hFq:∀p∈F,p.1≠q) (vQ:xF F l S) (rY:bJ P r n F wd l S ds L l S 0)
  (kb:∀w',Step M wd M w' (jA (F.map (·.2)))→gx w' (fun acc=>sd P r n l.toArray aD w' K 0 (l.drop m) (acc++ka l l.length L) ds w') l S []):ij P r n l L ds wd K:=by
 intro a0 ha;obtain⟨hqm,Kq,xH,Iu⟩:=wy hok;have ZD:m<l.length:=by simpa[Nat.blt_eq]using pZ
 have start:∀(D:Nat→Prop) a w,(∀i,i<m→i≠q→D i)→(∀i,m≤i→i<l.length→¬D i)→(∀i o,l[i]? =some o→D i→∀k∈cv o,D k)→Inv F S l wd L ds n (fun i=>D i∧i<l.length) a w→∃p ac Lp wq,TJ P r n l m q d c L K ds D a w p ac Lp wq:=by
  intro D a w l1 j4 lp hi
  obtain⟨ac,HQ⟩:∃ac,(D q→a=ac)∧(¬D q→ac=a.put (some d) c):=by
   by_cases hD:D q
   ·exact⟨a,fun _=>rfl,fun h=>absurd hD h⟩
   ·exact⟨_,fun h=>absurd h hD,fun _=>rfl⟩
  have hqn:d<n∨n≤d:=cy d n
  have jI:n≤ac.tmps.size:=by
   by_cases hD:D q
   ·rw[←HQ.1 hD];exact hi.size
   ·rw[HQ.2 hD,nI];exact hi.size
  have hdf:ac.defers=ds:=by
   by_cases hD:D q
   ·rw[←HQ.1 hD];exact hi.defers
   ·rw[HQ.2 hD,put_defers];exact hi.defers
  have Nj:∀t,t≠d→ac.tmps[t]? =a.tmps[t]? :=fun t ht=>by
   by_cases hD:D q
   ·rw[←HQ.1 hD]
   ·rw[HQ.2 hD,AP a c ht]
  have agB:d<a.tmps.size:=by
   have hg:=rY.take.get q oq (by rw[cp,SV,if_pos hqm];exact hq);by_cases hD:D q
   ·obtain⟨v,h1,_⟩:=hi.done q oq (cJ.eq c) d hq hS ⟨hD,by omega⟩ Gr;exact(Array.getElem?_eq_some_iff.1 h1).1
   ·refine Classical.byContradiction fun J9=> ?_
    obtain⟨s,hs,ZE⟩:=hg;rw[fN]at ZE;rw[hS]at hs;cases hs
    have hpq:∀k∈cv oq,D k:=fun k hk=>by
     have:=cN dj q oq hq k hk;exact l1 k (by omega) (by omega)
    have:=Inv.next (r:=r) (P:=P) hi dj vQ oB (rest:=[]) (Q:=fun _ a' _=>n≤a'.tmps.size∧∃v,a'.tmps[d]? =some v) ⟨cJ.eq c,hS,ZE⟩ hq (fun h=>hD h.1) (fun k hk=>⟨hpq k hk,by have:=cN dj q oq hq k hk;omega⟩) (fun a' w' iw=>by
     obtain⟨v,h1,_⟩:=iw.done q oq (cJ.eq c) d hq hS (.inl rfl) Gr;exact⟨iw.size,v,h1⟩)
    have rX:One P r l.toArray w oq a c:=by
     unfold One;rw[if_pos (by simp[Region.wanted,Qh])];refine gY a.eval w fun x u hx=> ?_
     have kZ:∀t u,lk (ka l q L) t=some u→a.tmps[t]? =some u:=fun t u ht=>by
      obtain⟨h3,h4⟩:=jV (f:=k3 l q) ht;refine hi.base t u h4 fun i o fS Cj he=> ?_
      simp only[k3,fv]at h3;have:=h3 o (az fS);simp only[he,beq_self_eq_true,Bool.not_true,Bool.false_or,jD]at this;exact hD (lp i o fS Cj.1 q this)
     cases x with
     |tmp t=>simp only[ev]at hx;simp[Act.eval,kZ t u hx]
     |const v=>simp only[ev]at hx;cases hx;rfl
     |global g=>simp only[ev]at hx;cases hx;rfl
     |func f=>simp only[ev]at hx;cases hx;rfl
    simp only[wpOpsIn,dX,hq]at this;rw[if_pos (by simp[Region.wanted,Qh])]at this;obtain⟨_,h2⟩:=this;unfold One at rX;rw[if_pos (by simp[Region.wanted,Qh])]at rX;rw[Oper.semAt_eq _ _ _ (l6 Vp),rX]at h2;rw[Oper.uponIn_value]at h2;obtain⟨_,v,h3⟩:=h2;rw[Gr]at h3;have:=(Array.getElem?_eq_some_iff.1 h3).1;simp[Act.put]at this;exact J9 this
  have agC:∃v,ac.tmps[d]? =some v∧v=c:=by
   by_cases hD:D q
   ·rw[←HQ.1 hD];obtain⟨v,h1,h2⟩:=hi.done q oq (cJ.eq c) d hq hS ⟨hD,by omega⟩ Gr;exact⟨v,h1,h2⟩
   ·refine⟨c,?_,rfl⟩;rw[HQ.2 hD,iA,if_pos rfl];simp[dA,agB]
  have iY:∀{i:Nat} {o:Oper},(l.take m)[i]? =some o→l[i]? =some o∧i<m:=fun {i o} h=>by
   rw[cp]at h
   split at h
   ·exact⟨h,by assumption⟩
   ·cases h
  have ky:Step M wd M w (jA (F.map (·.2))):=hi.step.cF (fun b ⟨p,hp,hD,hb⟩=>fx.2 ⟨p.2,ca.2 ⟨p,hp,rfl⟩,hb⟩) (fun b hb=>by
   obtain⟨N,hN,Ip⟩:=fx.1 hb;obtain⟨p,hp,rfl⟩:=ca.1 hN;exact oB p hp b Ip)
  have hE:=(kb w ky).take;rw[SV]at hE
  obtain⟨acc,h1,h2⟩:=gx.use (a:=ac) (l.take m) S [] (fun i o s h1 h2 h3=>by
    obtain⟨h4,h5⟩:=iY h1;by_cases RZ:i=q
    ·subst RZ;rw[hq]at h4;cases h4;rw[Gr]at h3;cases h3
    ·exact hi.fin i o s h4 h2 ⟨l1 i h5 RZ,by omega⟩ h3)
   (fun i o s e h1 h2 h3=>by
    obtain⟨h4,h5⟩:=iY h1;by_cases RZ:i=q
    ·subst RZ;rw[hq]at h4;cases h4;rw[Gr]at h3;cases h3;rw[hS]at h2;cases h2;exact agC
    ·obtain⟨v,h6,h7⟩:=hi.done i o s e h4 h2 ⟨l1 i h5 RZ,by omega⟩ h3;exact⟨v,by rw[Nj e (fun he=>RZ (fL dj h4 hq h3 (by rw[Gr,he])))];exact h6,h7⟩)
   (fun t v h=>by simp[lk]at h) hE
  refine⟨m,ac,_,w,aO _,by omega,fun i h3 h4=>⟨fun h=>?_,fun h=>l1 i h h4⟩,⟨jI,hdf,fun t v h=>?_⟩,h1,HQ.1,fun hD=>⟨HQ.2 hD,fun t u ht=>?_⟩⟩
  ·rcases cy i m with h5|h5
   ·exact h5
   ·exact absurd h (j4 i h5 h3)
  ·rcases lR h with h|h
   ·exact h2 t v h
   ·obtain⟨h3,h4⟩:=jV (f:=k3 l l.length) h
    have eN:∀(i:Nat) (o:Oper),l[i]? =some o→o.dst≠some t:=fun i o fS he=>by
     simp only[k3,fv]at h3;have:=h3 o (az fS);simp only[he,beq_self_eq_true,Bool.not_true,Bool.false_or,jD]at this;have h7:=cN dj i o fS _ this;have h8:=(ao.1 fS).1;omega
    rw[Nj t (fun e=>eN q oq hq (by rw[Gr,e]))];exact hi.base t v h4 fun i o fS _=>eN i o fS
  ·obtain⟨h3,h4⟩:=jV (f:=k3 l q) ht;refine hi.base t u h4 fun i o fS Cj he=> ?_
   simp only[k3,fv]at h3;have:=h3 o (az fS);simp only[he,beq_self_eq_true,Bool.not_true,Bool.false_or,jD]at this;exact hD (lp i o fS Cj.1 q this)
 refine⟨fun D a w=>((∀i,m≤i→i<l.length→¬D i)∧Inv F S l wd L ds n (fun i=>D i∧i<l.length) a w)∨∃p ac Lp wq,TJ P r n l m q d c L K ds D a w p ac Lp wq,fun D D' a w hJ hD=>?_,fun Q D a w j o rest hj ho pg hp lp hJ hk=>?_,fun a w hJ=>?_,.inl ⟨fun i _ _ h=>h,?_⟩⟩
 ·rcases hJ with⟨h1,h2⟩|⟨p,ac,Lp,wq,h⟩
  ·refine .inl ⟨fun i h3 h4 h5=>h1 i h3 h4 ((hD i h4).1 h5),?_⟩;have:(fun i=>D' i∧i<l.length)=fun i=>D i∧i<l.length:=funext fun i=>propext ⟨fun⟨h3,h4⟩=>⟨(hD i h4).1 h3,h4⟩,fun⟨h3,h4⟩=>⟨(hD i h4).2 h3,h4⟩⟩
   rw[this];exact h2
  ·exact .inr ⟨p,ac,Lp,wq,h.p0,h.p1,fun i h3 h4=>(hD i h3).trans (h.dt i h3 h4),h.ag,h.tr,fun h3=>h.yes ((hD q (by omega)).1 h3),fun h3=>h.no fun h4=>h3 ((hD q (by omega)).2 h4)⟩
 ·rcases hJ with⟨h1,h2⟩|⟨p,ac,Lp,wq,h⟩
  ·rcases cy j m with Ck|Ck
   ·have hg:=rY.take.get j o (by rw[cp,SV,if_pos Ck];exact ho);rw[fN]at hg;refine h2.next dj vQ oB hg ho (fun h=>pg h.1) (fun k tj=>⟨hp k tj,by have:=cN dj j o ho k tj;omega⟩) fun a' w' iw=>hk a' w' (.inl ⟨fun i h3 h4 h5=>?_,?_⟩)
    ·rcases h5 with h5|h5
     ·omega
     ·exact h1 i h3 h4 h5
    ·have:(fun i=>(i=j∨D i)∧i<l.length)=fun i=>i=j∨D i∧i<l.length:=funext fun i=>propext ⟨fun⟨h3,h4⟩=>h3.elim .inl fun h=> .inr ⟨h,h4⟩,fun h=>h.elim (fun h=>⟨.inl h,by omega⟩) fun h=>⟨.inr h.1,h.2⟩⟩
     rw[this];exact iw
   ·have agD:j=m:=by
     rcases cy m j with h|h
     ·have:=hp _ (kJ xH (j:=j) (by omega) ho);exact absurd this (h1 (j-1) (by omega) (by omega))
     ·omega
    subst agD;rw[ho]at Kq;obtain⟨p,ac,Lp,wq,h⟩:=start D a w (fun i hi RZ=>mQ (D:=D) lp j (cv o) Kq hp i hi (by simpa using RZ)) h1 lp h2;exact h.next dj hok hq Gr Vp Qh gY ho pg hp fun a' w' h'=>hk a' w' (.inr h')
  ·exact h.next dj hok hq Gr Vp Qh gY ho pg hp fun a' w' h'=>hk a' w' (.inr h')
 ·rcases hJ with⟨h1,_⟩|⟨p,ac,Lp,wq,h⟩
  ·exact absurd ZD (h1 m (aO _) ZD)
  ·have sV:p=l.length:=by
    rcases cy p l.length with h3|h3
    ·have h4:=(h.dt p h3 (by have:=h.p0;omega)).1 h3;omega
    ·have:=h.p1;omega
   have vR:=h.tr;rw[sV,List.drop_length]at vR;exact⟨Lp,ds,by rw[h.yes (by show q<l.length;omega)];exact h.ag,vR⟩
 ·refine⟨(aw M wd).cF (fun _ h=>h.elim) (fun b ⟨p,hp,_,hb⟩=>oB p hp b hb),fun i o s _ _ h=>h.1.elim,ha.size,ha.defers,fun i o s e _ _ h=>h.1.elim,fun t v h _=>ha.at_ t v h,fun i o _ h=>h.1.elim⟩
theorem T.R0 {id:Nat} {l l':List Oper} (π:List Nat) (m q d:Nat) (c:Value) {oq:Oper} (F:List (Nat×aC)) (S:List (cJ M)) (hm:P.follows .mixedOrders=true) (Fi:xL π l=l') (ru:eE l 0=true) (hπ:lr π l.length=true) (SV:S.length=m) (pZ:Nat.blt m l'.length=true) (dj:eE l' 0=true) (hok:tT l' m q d=true)
  (hq:l'[q]? =some oq) (Gr:oq.dst=some d) (Vp:jJ oq.op=true) (Qh:oq.guard=none) (hS:S[q]? =some (cJ.eq c)) (gY:∀(ρ:Operand→Value) w,(∀x u,ev (ka l' q L) x=some u→ρ x=u)→(execOp ρ oq).run P w= .ok (.value c) w)
  (oB:∀p∈F,∀b,p.2 b→M b) (hFq:∀p∈F,p.1≠q) (vQ:xF F l' S)
  (h:∀wD,(∀M,Step M w M wD aD)→bJ P r n F wD l' S ds L l' S 0∧∀w',Step M wD M w' (jA (F.map (·.2)))→gx w' (fun acc=>sd P r n l'.toArray aD w' K 0 (l'.drop m) (acc++ka l' l'.length L) ds w') l' S []):T P r n (.region id l.toArray true) L ds w K:=by
 subst Fi;exact ij.t hm ru fun wD hD=> .perm π hπ ru (.Vq m q d c F S SV pZ dj hok hq Gr Vp Qh hS gY oB hFq vQ (h wD hD).1 (h wD hD).2)
theorem yJ {s:TypeId} {fs:Array Field} {fd:Field} {j size o o' b:Nat} {zv:Value} {bytes:Nat} {x:Operand} {dst:Option Tmp} {ty:TypeId} {pos:String} {af:Array Edge} {gd:Option (Nat×Bool)} (hu:P.underlying s=some (.struct fs)) (Ka:fs[j]? =some fd) (ho:o+fd.offset=o') (hi:TI P fd.type zv size bytes) (hs:size≠0)
  {ρ:Operand→Value} (hx:ρ x= .pointer (some ⟨b,o,none⟩)) (w:World):(execOp ρ {dst,op:= .fieldAddr s x j,type:=ty,pos,after:=af,guard:=gd}).run P w= .ok (.value (.pointer (some ⟨b,o',none⟩))) w:=by
 simp only[execOp,hx];simp[Instr.fieldAt,run_underlying hu,Ka,Instr.sureAddr,fieldPlace,hi.sizeOf,hs,←ho,wI]
end
end Go.K
namespace Go.K
open Go.Proofs
set_option maxRecDepth 10000
def mZ:Int→List En→Int
 |last,[]=>last
 |_,e::L=>mZ e.2 L
def sJ:Int→List En→Bool
 |_,[]=>true
 |last,e::L=>decide (mM last e=0)&&sJ e.2 L
theorem Nk:∀{L:List En} {last:Int} {i:Nat} {e:En},sJ last L=true→L[i]? =some e→mM (mZ last (L.take i)) e=0∧mZ last (L.take (i+1))=e.2
 |[],_,_,_,_,h=>by simp at h
 |x::L,last,0,e,h,hi=>by
  simp only[sJ,bU,decide_eq_true_eq]at h;simp at hi;subst hi;exact⟨by simpa[mZ]using h.1,by simp[mZ]⟩
 |x::L,last,i+1,e,h,hi=>by
  simp only[sJ,bU,decide_eq_true_eq]at h;have:=Nk h.2 (by simpa using hi);simpa[mZ]using this
theorem vh {last:Int} {e:En} (h:mM last e=0):kP e.1∧last<e.2:=by
 unfold mM at h
 split at h
 ·rename_i h1;exact absurd h h1
 ·rename_i h1
  split at h
  ·cases h
  ·exact⟨HG (by simpa using h1),by omega⟩
theorem kh:∀{L:List En} {last:Int},sJ last L=true→∀e∈L,kP e.1
 |[],_,_,e,h=>by cases h
 |x::L,last,h,e,he=>by
  simp only[sJ,bU,decide_eq_true_eq]at h;rcases cd.1 he with rfl|he
  ·exact(vh h.1).1
  ·exact kh h.2 e he
theorem AQ:∀{L:List En} {last:Int},sJ last L=true→eA last (L.map (·.2))=true
 |[],_,_=>rfl
 |x::L,last,h=>by
  simp only[sJ,bU,decide_eq_true_eq]at h;simp only[eR,eA,bU,decide_eq_true_eq];exact⟨(vh h.1).2,AQ h.2⟩
def fB (L:List En):Pa:=(L.map (·.1.1),L.map (·.2),keysOf L,(keysOf L).map (pk L))
theorem Jm {x:List Po} (h:x≠[]):∃p∈x,D2 x=p.1:=by
 unfold D2
 cases hl:x.getLast? with
 |none=>exact absurd (List.getLast?_eq_none_iff.1 hl) h
 |some p=>exact⟨p,List.mem_of_getLast? hl,rfl⟩
theorem Nl {L:List En} (h:sJ (-1) L=true) (hn:L.length≤1000000):zw (fB L)=true:=by
 have hF:=kh h;have h1:(keysOf L).map (pk L)=(fB L).2.2.2:=rfl;unfold zw;have e1:decide ((fB L).1.length=(fB L).2.1.length)=true:=by simp[fB]
 have e2:eA (-1) (fB L).2.1=true:=AQ h;have e3:decide ((fB L).2.2.1.length=(fB L).2.2.2.length)=true:=by simp[fB]
 have e4:DS none (fB L).2.2.1=true:=UW (kX L)
 have e5:(fB L).2.2.2.all (fun x=> !nw ((fB L).1.length:Int) x)=true:=by
  refine fv.2 fun x hx=> ?_
  rw[←h1]at hx;obtain⟨k,hk,rfl⟩:=ca.1 hx;have eN:pk L k≠[]:=F6 0 (jr.1 hk)
  have agE:(pk L k).isEmpty=false:=by
   cases h:pk L k with
   |nil=>exact absurd h eN
   |cons a b=>rfl
  have mN:fJ (-1) (pk L k)=true:=tR k L 0 (-1) hF (by omega) (by omega);obtain⟨p,hp,hl⟩:=Jm eN;have:=(qs k L 0 hF).2 p hp;have hlen:((fB L).1.length:Int)=L.length:=by simp[fB]
  simp only[nw,mN,agE,hlen,hl];rw[decide_eq_false (by omega)];rfl
 rw[e1,e2,e3,e4,e5];rfl
theorem Qi {L:List En} (hF:∀e∈L,kP e.1) (hn:L.length≤1000000) (k:List UInt8):Room (pk L k):=by
 have h1:=qs k L 0 hF;have mN:fJ (-1) (pk L k)=true:=tR k L 0 (-1) hF (by omega) (by omega);have j9:∀p∈pk L k,p.2.length≤500:=fun p hp=>(h1.2 p hp).2.2
 obtain⟨h2,h3⟩:=uY (pk L k) (-1) 500 (by omega) mN j9 (by omega);have hl:(pk L k).length≤L.length:=h1.1;exact⟨fun p hp=>by have:=j9 p hp;omega,by omega,by omega,by omega⟩
theorem HR {L:List En} (hF:∀e∈L,kP e.1) (hn:L.length≤1000000):Nc (fB L):=by
 have hk:(keysOf L).length≤500000000:=by
  have h1:=(kX L).nodup.length_le_of_subset (l₂:=iL L) (fun x hx=>jr.1 hx);have:=nZ hF;omega
 refine⟨by simp[fB];omega,by simp[fB];omega,by simp only[fB];omega,by simp[fB];omega,fun x hx=>?_⟩;obtain⟨k,_,rfl⟩:=ca.1 hx;exact Qi hF hn k
theorem Vr {M:aC} {w:World} {e:En} {v:Value} (h:RT.en.V M w e v):(-9223372036854775808≤e.1.1∧e.1.1≤9223372036854775807)∧ -9223372036854775808≤e.2∧e.2≤9223372036854775807:=by
 obtain⟨vs,⟨va,vb,_,⟨vc,vd,_,⟨_,h1⟩,_⟩,⟨_,h2⟩⟩,_⟩:=h;exact⟨h1,h2⟩
def ZP (B b:Nat) (vi vs:Value):aC:=fun k=>B≤k∧k≠b∧vi.ownBlock≠some k∧vs.ownBlock≠some k
theorem Own.R1 {κ:IntKind} {e:TypeId} {M M' N:aC} {w w':World} {base:Nat} {v:Value} {xs:List Int} (h:Own (RT.int κ) e (mL v) w base v xs) (s:Step M w M' w' N) (hn:∀c,v.ownBlock=some c→¬N c):Own (RT.int κ) e (mL v) w' base v xs:=
 ((h.Pd (M':=allM) (fun _ _=>trivial)).XC s.all hn).lone
theorem Step.ZF {M M' N:aC} {w w':World} (s:Step M w M' w' N) {v:Value} (hv:∀b,v.ownBlock=some b→b<w'.heap.size∧(w.heap.size≤b∨M' b)):Step M w (jh M' v) w' N:=
 ⟨fun h k hk=>hk.elim (fun h1=>(hv k h1).1) (fun h1=>s.lt h k h1),s.os,s.tape,s.output,s.size,fun k hk=>⟨fun h=>by
  rcases h with h|h
  ·rcases(hv k h).2 with h1|h1
   ·omega
   ·exact(s.mem k hk).1 h1
  ·exact(s.mem k hk).1 h,fun h=> .inr ((s.mem k hk).2 h)⟩,s.same,s.sub⟩
end Go.K
namespace Go.K
open Go.Proofs
namespace TKSegA
theorem ZG:Enters Tryz.prog 104:=enters Tryz.func104 rfl (by decide)
theorem Vs:Enters Tryz.prog 116:=enters Tryz.func116 rfl (by decide)
end TKSegA
open TKSegA
set_option maxRecDepth 10000
def Jn (xs:List Int) (i:Int):Int:=if 0≤i∧i<xs.length then xs.getD i.toNat 0 else-1
theorem Nn {xs:List Int} {i:Nat} {x:Int} (h:xs[i]? =some x):Jn xs i=x:=by
 have:=(ao.1 h).1;unfold Jn;rw[if_pos (by omega),ay,aA,h];rfl
theorem HS {M:aC} {xs:List Int} {v0:Value} {i:Int} (w0:World) (hv:((RT.int .i64).sl).V M w0 xs v0):
  Spec Tryz.prog 104 #[v0,.int .i64 i] w0 (fun v w=>v= .int .i64 (Jn xs i)∧w=w0):=by
 have hlen:=ei hv;refine bg (args:=[_,_]) (fn:=Tryz.f104) Tryz.func104 rfl (n:=17) Tryz.ntmps104 (aj (ae (ah rfl rfl (ab (aj (aj (ae (ad rfl rfl (cn rfl rfl rfl (ad rfl rfl ?_))))))))));refine aN (g:=7) rfl (fun iB=>?_) (fun iB=>?_)
 ·refine ar rfl rfl rfl rfl (ar rfl rfl rfl rfl (ar rfl rfl rfl rfl (ar rfl rfl rfl rfl (aX rfl rfl rfl (ab (lh rfl (aj (ae (ah rfl rfl (ab (aQ ?_)))))))))));have e:Jn xs i= -1:=by unfold Jn;rw[if_neg (by omega)]
  exact aV rfl rfl ⟨by rw[e],rfl⟩
 ·refine al rfl rfl (ad rfl rfl (al rfl rfl (ad rfl rfl (al rfl rfl (bR an rfl hv rfl (al rfl rfl (dT rfl rfl rfl (aE rfl rfl rfl (ab ?_)))))))));refine bN rfl (fun c1=>?_) (fun c1=>?_)
  ·refine aj (ae (ah rfl rfl (ab (aQ ?_))));have e:Jn xs i= -1:=by unfold Jn;rw[if_neg (by omega)]
   exact aV rfl rfl ⟨by rw[e],rfl⟩
  ·refine aT (aj (ae (ad rfl rfl (ad rfl rfl ?_))));refine cE (M:=M) an I3 rfl rfl rfl hv (aq _ _) (by omega) (fun u x hg hu=>?_);refine cb (M:=M) ax rfl rfl hu (aq _ _) (fun kg=>?_);refine ah rfl rfl (ab (aQ ?_));have e:Jn xs i=x:=by unfold Jn;rw[if_pos (by omega),aA,hg];rfl
   exact aV rfl rfl ⟨by rw[e],rfl⟩
theorem vr {M:aC} {s:Se} {v0:Value} (w0:World) (hs:cP RT.se M w0 v0 s):
  Spec Tryz.prog 34 #[v0] w0 (fun v w=>v= .int .i64 (s.1.length:Int)∧w=w0):=by
 refine bg (args:=[_]) (fn:=Tryz.f34) Tryz.func34 rfl (n:=8) Tryz.ntmps34 (aj (ae (ah rfl rfl (ab (aj (ae (ad rfl rfl (bQ rfl hs.gO rfl ?_))))))));refine aL (M:=M) (A:=RT.se) (B:=(RT.int .i64).sl) iO rfl rfl j7 (by decide) se0 rfl rfl (by decide) hs (aq _ _) (fun F8 nX=>?_);refine bT (M:=M) an rfl rfl rfl rfl rfl nX (aq _ _) (fun Jo pE=>?_);replace pE:((RT.int .i64).sl).V M _ s.1 Jo:=pE;refine bR an rfl pE rfl (ah rfl rfl (ab (aQ ?_)));exact aV rfl rfl ⟨rfl,rfl⟩
theorem No {M:aC} {s:Se} {i:Int} {v0:Value} (w0:World) (hs:cP RT.se M w0 v0 s):
  Spec Tryz.prog 60 #[v0,.int .i64 i] w0 (fun v w=>v= .int .i64 (Jn s.1 i)∧w=w0):=by
 refine bg (args:=[_,_]) (fn:=Tryz.f60) Tryz.func60 rfl (n:=11) Tryz.ntmps60 (aj (ae (ah rfl rfl (ab (aj (ae (ad rfl rfl (bQ rfl hs.gO rfl ?_))))))));refine aL (M:=M) (A:=RT.se) (B:=(RT.int .i64).sl) iO rfl rfl j7 (by decide) se0 rfl rfl (by decide) hs (aq _ _) (fun F8 nX=>?_);refine bT (M:=M) an rfl rfl rfl rfl rfl nX (aq _ _) (fun Jo pE=>?_);replace pE:((RT.int .i64).sl).V M _ s.1 Jo:=pE;refine ad rfl rfl ?_;refine aW rfl rfl ZG (HS _ pE) (fun r wc hc=>?_);obtain⟨rfl,rfl⟩:=hc;refine ah rfl rfl (ab (aQ ?_));exact aV rfl rfl ⟨rfl,rfl⟩
theorem AR {M:aC} {s:Se} {i:Int} {v0:Value} (w0:World) (hs:cP RT.se M w0 v0 s):
  Spec Tryz.prog 58 #[v0,.int .i64 i] w0 (fun v w=>v= .int .i64 (Jn s.2.1 i)∧w=w0):=by
 refine bg (args:=[_,_]) (fn:=Tryz.f58) Tryz.func58 rfl (n:=11) Tryz.ntmps58 (aj (ae (ah rfl rfl (ab (aj (ae (ad rfl rfl (bQ rfl hs.gO rfl ?_))))))));refine aL (M:=M) (A:=RT.se) (B:=(RT.int .i64).sl) iO rfl rfl j7 (by decide) se1 rfl rfl (by decide) hs (aq _ _) (fun F8 nX=>?_);refine bT (M:=M) an rfl rfl rfl rfl rfl nX (aq _ _) (fun Jo pE=>?_);replace pE:((RT.int .i64).sl).V M _ s.2.1 Jo:=pE;refine ad rfl rfl ?_;refine aW rfl rfl ZG (HS _ pE) (fun r wc hc=>?_);obtain⟨rfl,rfl⟩:=hc;refine ah rfl rfl (ab (aQ ?_));exact aV rfl rfl ⟨rfl,rfl⟩
theorem yK {α:Type} {p:α→Bool}:∀{xs:List α} {i:Nat},i≤xs.length→(∀(k:Nat) x,k<i→xs[k]? =some x→p x=true)→(∀(k:Nat) x,i≤k→xs[k]? =some x→p x=false)→xs.countP p=i
 |[],i,hi,_,_=>by simp at hi;simp[hi]
 |x::xs,0,_,_,h2=>by
  rw[List.countP_eq_zero.2];intro a ha;obtain⟨k,hk⟩:=bE.1 ha;simp[h2 k a (bG _) hk]
 |x::xs,i+1,hi,h1,h2=>by
  rw[List.countP_cons_of_pos (h1 0 x (by omega) rfl),yK (by simpa using hi) (fun k y hk hy=>h1 (k+1) y (by omega) (by simpa using hy)) (fun k y hk hy=>h2 (k+1) y (by omega) (by simpa using hy))]
end Go.K
namespace Go.K
open Go.Proofs
namespace TKSegB
theorem D1:TI Tryz.prog 196 (.slice none 0 0) 1 24:=by unfold TI;kernel_rfl
theorem agF:Enters Tryz.prog 125:=enters Tryz.func125 rfl (by decide)
theorem agG:Enters Tryz.prog 181:=enters Tryz.func181 rfl (by decide)
theorem agH:Enters Tryz.prog 182:=enters Tryz.func182 rfl (by decide)
end TKSegB
open TKSegB
set_option maxRecDepth 10000
def J1 (ns:List (List UInt8)) (k:List UInt8):Nat:=ns.countP fun x=>decide (x<k)
theorem ZH {ns:List (List UInt8)} (h:DB ns) {i j:Nat} {x y:List UInt8} (jf:i≤j) (hx:ns[i]? =some x) (hy:ns[j]? =some y): ¬y<x:=by
 rcases lj jf with rfl|h1
 ·rw[hx]at hy;cases hy;exact ja x
 ·exact iT (iE h hx hy h1)
theorem BN {ns:List (List UInt8)} (h:DB ns) {k:List UInt8}:(k∈ns→ns[J1 ns k]? =some k)∧∀x,ns[J1 ns k]? =some x→¬x<k:=by
 have key:∀{ns:List (List UInt8)},DB ns→(k∈ns→ns[J1 ns k]? =some k)∧∀x,ns[J1 ns k]? =some x→¬x<k:=by
  intro ns
  induction ns with
  |nil=>exact fun _=>⟨(fun h=>by cases h),fun x h=>by simp at h⟩
  |cons y ns ih=>
   intro h;have h':=ez.1 h;by_cases hy:y<k
   ·have e:J1 (y::ns) k=J1 ns k+1:=by unfold J1;rw[List.countP_cons_of_pos (by simpa using hy)]
    rw[e];simp only[List.getElem?_cons_succ];refine⟨fun hk=>(ih h'.2).1 ?_,(ih h'.2).2⟩;rcases cd.1 hk with rfl|hk
    ·exact absurd hy (ja _)
    ·exact hk
   ·have l1:∀x∈ns,¬x<k:=fun x hx dQ=>hy (lW (h'.1 x hx) dQ)
    have e:J1 (y::ns) k=0:=by
     unfold J1;rw[List.countP_eq_zero];intro a ha;rcases cd.1 ha with rfl|ha
     ·simpa using hy
     ·simpa using l1 a ha
    rw[e];refine⟨fun hk=>?_,fun x hx=>by simp at hx;subst hx;exact hy⟩;rcases cd.1 hk with rfl|hk
    ·rfl
    ·exact absurd (h'.1 k hk) hy
 exact key h
def geN (ns:List (List UInt8)) (k:List UInt8) (i:Nat):Bool:=match ns[i]? with|some x=> !decide (x<k)|none=>true
theorem yL {ns:List (List UInt8)} {k x:List UInt8} {i:Nat} (h:ns[i]? =some x):geN ns k i= !decide (x<k):=by unfold geN;rw[h]
theorem Np {ns:List (List UInt8)} (h:DB ns) {k:List UInt8}:ns[J1 ns k]? =some k↔k∈ns:=⟨fun h=>az h,(BN h).1⟩
theorem Gt {M:aC} {n:Nat} {g:FuncId} {cap:List Value} {good:Nat→Bool} (w0:World) (hg:Enters Tryz.prog g) (R2:∀i j,i≤j→j<n→good i=true→good j=true) (hn:n≤4611686018427387904) (ht:∀(i:Nat) w,i<n→Step M w0 M w aD→Spec Tryz.prog g ([.int .i64 (i:Int)]++cap:List Value).toArray w (fun v w'=>v= .bool (good i)∧Step M w M w' aD)):
  Spec Tryz.prog 181 #[.int .i64 (n:Int),.func (.func g) #[] cap.toArray] w0 (fun v w=>∃m:Nat,v= .int .i64 (m:Int)∧m≤n∧(∀i,i<m→good i=false)∧(∀i,m≤i→i<n→good i=true)∧Step M w0 M w aD):=by
 refine bg (args:=[_,_]) (fn:=Tryz.f181) Tryz.func181 rfl (n:=23) Tryz.ntmps181 (aj (ae (ah rfl rfl (ab (aj (ae (ah rfl rfl (ab (aj (aZ ?_))))))))));refine dn (σ:=Nat×Nat) (fun q=>[(0,.int .i64 (q.2:Int)),(1,.func (.func g) #[] cap.toArray),(5,.int .i64 (q.1:Int))]) (fun q w=>Step M w0 M w aD∧q.1≤q.2∧q.2≤n∧(∀i,i<q.1→good i=false)∧(∀i,q.2≤i→i<n→good i=true)) (fun q=>q.2-q.1) (0,n) (.cons rfl (.cons rfl (.cons rfl .nil))) ?_ ?_
 ·exact⟨aw _ _,bG _,aO _,fun i h=>absurd h (Nat.not_lt_zero _),fun i h h'=>by omega⟩
 ·rintro⟨i,j⟩ w ⟨S,jf,hj,h1,h2⟩;dsimp only at jf hj h1 h2 ⊢;refine aj (aj (ae (ad rfl rfl (ad rfl rfl (cn rfl rfl rfl (ab ?_))))));refine bN rfl (fun c2=>?_) (fun c2=>?_)
  ·refine aT (aZ (aj (ae (ad rfl rfl (ad rfl rfl (ad rfl rfl (fu rfl rfl rfl (by omega) (Rg.wR rfl rfl rfl (by omega) (bD rfl rfl rfl (by omega) (aU (v':= .int .i64 ((i+(j-i)/2:Nat):Int)) (congrArg _ (by omega)) (ah rfl rfl ?_)))))))))));refine ab (aj (ae (ad rfl rfl (ad rfl rfl ?_))));refine zy (first:=[]) (captured:=cap) (xs:=[.tmp 17]) rfl rfl rfl hg (vs:=[.int .i64 ((i+(j-i)/2:Nat):Int)]) (ht (i+(j-i)/2) _ (by omega) S) (fun r4 w4 hc=>?_);obtain⟨rfl,s4⟩:=hc;refine aU (v':= .bool (decide (good (i+(j-i)/2)=true))) (by simp) ?_;replace S:=S.aB s4;refine ab ?_;refine bN rfl (fun c4=>?_) (fun c4=>?_)
   ·refine ae (ad rfl rfl (ah rfl rfl (ab ?_)));refine⟨rfl,(i,i+(j-i)/2),(.cons rfl (.cons rfl (.cons rfl .nil))),?_,?_⟩
    ·exact⟨S,by dsimp only;omega,by dsimp only;omega,h1,fun k hk Ge=>R2 _ _ hk Ge c4⟩
    ·dsimp only;omega
   ·refine ae (ad rfl rfl (bD rfl rfl rfl (by omega) (ah rfl rfl (ab ?_))));refine⟨rfl,(i+(j-i)/2+1,j),(.cons rfl (.cons rfl (.cons rfl .nil))),?_,?_⟩
    ·exact⟨S,by dsimp only;omega,hj,fun k hk=>by
      cases h:good k with
      |false=>rfl
      |true=>exact absurd (R2 k (i+(j-i)/2) (by dsimp only at hk;omega) (by omega) h) c4,h2⟩
    ·dsimp only;omega
  ·refine cI (aj (ae (ad rfl rfl (ah rfl rfl (ab (aQ ?_))))));have e:i=j:=by omega
   subst e;exact aV rfl rfl ⟨i,rfl,hj,h1,h2,S⟩
theorem D5 {M:aC} {d:Di} {v0:Value} {i bd bk:Nat} {k x:List UInt8} (w0:World) (hd:cP RT.di M w0 v0 d) (gd:w0.heap[bd]? =some (.cells #[v0] 139 (0,0))) (gk:w0.heap[bk]? =some (.cells #[sv k] 9 (0,0))) (hx:d.1[i]? =some x):
  Spec Tryz.prog 182 #[.int .i64 (i:Int),.pointer (some ⟨bd,0,none⟩),.pointer (some ⟨bk,0,none⟩)] w0 (fun v w=>v= .bool (!decide (x<k))∧Step M w0 M w aD):=by
 have hM:True:=trivial;refine bg (args:=[_,_,_]) (fn:=Tryz.f182) Tryz.func182 rfl (n:=14) Tryz.ntmps182 (aj (ae (ah rfl rfl (ab (aj ?_)))));apply uz mixed rfl rfl;intro EY K4;have lU:=K4 M;replace gd:=lU.aK gd;replace gk:=lU.aK gk;replace hd:=hd.le (by decide) lU.le;refine aP gz rfl rfl rfl gd rfl (aU (v':=v0) rfl ?_);refine ab ⟨rfl,rfl,rfl,?_⟩;refine bQ rfl hd.gO rfl ?_;refine ab ⟨rfl,rfl,rfl,?_⟩;refine aL (M:=M) (A:=RT.di) (B:=RT.str.sl) jN rfl rfl zt (by decide) WR rfl rfl (by decide) hd (aq _ _) (fun pn OH=>?_);refine ab ⟨rfl,rfl,rfl,?_⟩;refine bT (M:=M) aS rfl rfl rfl rfl rfl OH (aq _ _) (fun vn rC=>?_);replace rC:(RT.str.sl).V M _ d.1 vn:=rC;refine ab ⟨rfl,rfl,rfl,?_⟩;refine ad rfl rfl ?_;refine ab ⟨rfl,rfl,rfl,?_⟩;have ot:=(ao.1 hx).1;refine cE (M:=M) aS I9 rfl rfl rfl rC (aq _ _) (by omega) (fun u a hg hu=>?_);obtain rfl:x=a:=aI (hx.symm.trans (by simpa using hg));refine ab ⟨rfl,rfl,rfl,?_⟩;refine bT (M:=M) aJ rfl rfl rfl rfl rfl hu (aq _ _) (fun vx qX=>?_);obtain rfl:=iC qX;refine ab ⟨rfl,rfl,rfl,?_⟩;refine aP aJ rfl rfl rfl gk rfl (aU (v':=sv k) rfl ?_);refine ab ⟨rfl,rfl,rfl,?_⟩;refine Rg.Uv rfl rfl rfl ?_;refine ab ⟨rfl,rfl,rfl,?_⟩;refine ah rfl rfl ?_;refine ab ⟨rfl,rfl,rfl,?_⟩;refine eQ (aQ ?_);exact aV rfl rfl ⟨by rw[decide_not],lU⟩
theorem Gu {M:aC} {d:Di} {v0:Value} {k:List UInt8} (w0:World) (hM:Lt M w0) (hd:cP RT.di M w0 v0 d) (Cs:DB d.1):
  Spec Tryz.prog 125 #[v0,sv k] w0 (fun v w=>v= .tuple #[.int .i64 (J1 d.1 k:Int),.bool (decide (k∈d.1))]∧Step M w0 M w aD):=by
 refine bg (args:=[_,_]) (fn:=Tryz.f125) Tryz.func125 rfl (n:=33) Tryz.ntmps125 ?_;have S:Step M w0 M w0 aD:=(aw _ _).cF (fun _ h=>h.elim) (fun _ h=>h.elim);refine aj (ae ?_);refine wJ M rfl rfl (fun xa BO agJ agK oa BP=>?_);replace oa:BO.heap[xa]? =some (.cells #[v0] 139 (0,0)):=by rw[uZ hd]at oa;exact oa
 obtain⟨gQ,yM⟩:∃M',M'=ins M xa:=⟨_,rfl⟩;rw[←yM]at BP;have qv:gQ xa:=by rw[yM];exact .inl rfl
 replace hd:=hd.le (by decide) BP.le;replace hM:=BP.lt hM;have:=S.size;replace S:=S.aB BP;refine wJ gQ rfl rfl (fun oT FM Ud Ue fY nu=>?_);obtain⟨fj,mu⟩:∃M',M'=ins gQ oT:=⟨_,rfl⟩;rw[←mu]at nu;have eX:fj oT:=by rw[mu];exact .inl rfl
 change FM.heap[oT]? =some (.cells #[sv k] _ _)at fY;have:=ak oa;replace qv:=(nu.mem _ this).2 qv;replace oa:=nu.aK oa;replace hd:=hd.le (by decide) nu.le;replace hM:=nu.lt hM;have:=S.size;replace S:=S.aB nu;refine ah rfl rfl (ah rfl rfl (ab (aj (ae (aP gz rfl rfl rfl oa rfl (aU (v':=v0) rfl (bQ rfl hd.gO rfl ?_)))))));refine aL (M:=fj) (A:=RT.di) (B:=RT.str.sl) jN rfl rfl zt (by decide) WR rfl rfl (by decide) hd (aq _ _) (fun pn OH=>?_);refine bT (M:=fj) aS rfl rfl rfl rfl rfl OH (aq _ _) (fun vn rC=>?_);replace rC:(RT.str.sl).V fj _ d.1 vn:=rC;have WH:=ei rC;refine bR aS rfl rC rfl (j5 (xs:=[]) (ys:=[.tmp 2,.tmp 3]) rfl rfl rfl ?_)
 refine aW rfl rfl agG (Gt (M:=fj) (n:=d.1.length) (cap:=[.pointer (some ⟨xa,0,none⟩),.pointer (some ⟨oT,0,none⟩)]) (good:=geN d.1 k) _ agH (fun i j jf hj h=>by
  have hi:=au (show i<d.1.length by omega);have xI:=au hj;rw[yL hi]at h;rw[yL xI];simp only[iV,decide_eq_false_iff_not]at h ⊢;intro dQ;rcases jK d.1[i] d.1[j]with h1|h1|h1
  ·exact h (lW h1 dQ)
  ·rw[h1]at h;exact h dQ
  ·exact ZH Cs jf hi xI h1) (by omega) (fun i w hi s=>by
  have hx:=au hi;rw[yL hx];exact D5 w (hd.le (by decide) s.le) (s.aK oa) (s.aK fY) hx)) (fun r1 w1 hc=>?_)
 obtain⟨m,rfl,hm,hlo,hhi,s1⟩:=hc;have em:J1 d.1 k=m:=yK hm (fun i x hi hx=>by have:=hlo i hi;rw[yL hx]at this;simpa using this) (fun i x hi hx=>by have:=hhi i hi (ao.1 hx).1;rw[yL hx]at this;simpa using this);have:=ak oa;replace qv:=(s1.mem _ this).2 qv;replace oa:=s1.aK oa;have:=ak fY;replace eX:=(s1.mem _ this).2 eX;replace fY:=s1.aK fY;replace hd:=hd.le (by decide) s1.le;replace hM:=s1.lt hM;have:=S.size;replace S:=S.aB s1;refine ah rfl rfl (ab (aj ?_));apply uz mixed rfl rfl;intro wD2 sA2;have Jp:=sA2 fj;have:=ak oa;replace qv:=(Jp.mem _ this).2 qv;replace oa:=Jp.aK oa;have:=ak fY;replace eX:=(Jp.mem _ this).2 eX;replace fY:=Jp.aK fY;replace hd:=hd.le (by decide) Jp.le;replace hM:=Jp.lt hM;have:=S.size;replace S:=S.aB Jp;refine ad rfl rfl ?_;refine ab ⟨rfl,rfl,rfl,?_⟩;refine ad rfl rfl ?_;refine ab ⟨rfl,rfl,rfl,?_⟩;refine aP gz rfl rfl rfl oa rfl (aU (v':=v0) rfl ?_);refine ab ⟨rfl,rfl,rfl,?_⟩;refine bQ rfl hd.gO rfl ?_;refine ab ⟨rfl,rfl,rfl,?_⟩;refine aL (M:=fj) (A:=RT.di) (B:=RT.str.sl) jN rfl rfl zt (by decide) WR rfl rfl (by decide) hd (aq _ _) (fun pn2 agL=>?_);refine ab ⟨rfl,rfl,rfl,?_⟩;refine bT (M:=fj) aS rfl rfl rfl rfl rfl agL (aq _ _) (fun vn2 Vt=>?_);replace Vt:(RT.str.sl).V fj _ d.1 vn2:=Vt;refine ab ⟨rfl,rfl,rfl,?_⟩;refine bR aS rfl Vt rfl ?_;refine ab ⟨rfl,rfl,rfl,?_⟩;refine cn rfl rfl rfl ?_;refine ab ⟨rfl,rfl,rfl,?_⟩;refine ad rfl rfl ?_;refine ab ⟨rfl,rfl,rfl,?_⟩;refine aN (g:=22) rfl (fun agM=>?_) (fun agM=>?_)
 ·refine al rfl rfl (aP gz rfl rfl rfl oa rfl (aU (v':=v0) rfl ?_));refine ab ⟨rfl,rfl,rfl,?_⟩;refine al rfl rfl (bQ rfl hd.gO rfl ?_);refine ab ⟨rfl,rfl,rfl,?_⟩;refine al rfl rfl ?_;refine aL (M:=fj) (A:=RT.di) (B:=RT.str.sl) jN rfl rfl zt (by decide) WR rfl rfl (by decide) hd (aq _ _) (fun pn3 agN=>?_);refine ab ⟨rfl,rfl,rfl,?_⟩;refine al rfl rfl ?_;refine bT (M:=fj) aS rfl rfl rfl rfl rfl agN (aq _ _) (fun vn3 Vu=>?_);replace Vu:(RT.str.sl).V fj _ d.1 vn3:=Vu;refine ab ⟨rfl,rfl,rfl,?_⟩;refine al rfl rfl (ad rfl rfl ?_);refine ab ⟨rfl,rfl,rfl,?_⟩;refine al rfl rfl ?_;refine cE (M:=fj) aS I9 rfl rfl rfl Vu (aq _ _) (by omega) (fun u2 x hg2 wV=>?_);rw[ay]at hg2;refine ab ⟨rfl,rfl,rfl,?_⟩;refine al rfl rfl ?_;refine bT (M:=fj) aJ rfl rfl rfl rfl rfl wV (aq _ _) (fun vx qX=>?_);obtain rfl:=iC qX;refine ab ⟨rfl,rfl,rfl,?_⟩;refine al rfl rfl (aP aJ rfl rfl rfl fY rfl (aU (v':=sv k) rfl ?_));refine ab ⟨rfl,rfl,rfl,?_⟩;refine al rfl rfl (Rg.He rfl rfl rfl ?_);refine ab ⟨rfl,rfl,rfl,?_⟩;refine aX rfl rfl rfl ?_;refine ab ⟨rfl,rfl,rfl,?_⟩;refine ah rfl rfl ?_;refine ab ⟨rfl,rfl,rfl,?_⟩;refine ah rfl rfl ?_;refine ab ⟨rfl,rfl,rfl,?_⟩;refine eQ (aQ ?_);rw[←em]at*
  first
  |(have e:decide (x=k)=decide (k∈d.1):=decide_eq_decide.2 (by rw[←Np Cs,hg2];simp)
    exact eS rfl rfl rfl ⟨by rw[e],S.back⟩)
  |(have e:k∉d.1:=fun h=>by have:=(BN Cs).1 h;have:=(ao.1 this).1;omega
    exact eS rfl rfl rfl ⟨by rw[decide_eq_false e],S.back⟩)
 ·refine ar rfl rfl rfl rfl ?_;refine ab ⟨rfl,rfl,rfl,?_⟩;refine ar rfl rfl rfl rfl ?_;refine ab ⟨rfl,rfl,rfl,?_⟩;refine ar rfl rfl rfl rfl ?_;refine ab ⟨rfl,rfl,rfl,?_⟩;refine ar rfl rfl rfl rfl ?_;refine ab ⟨rfl,rfl,rfl,?_⟩;refine ar rfl rfl rfl rfl ?_;refine ab ⟨rfl,rfl,rfl,?_⟩;refine ar rfl rfl rfl rfl ?_;refine ab ⟨rfl,rfl,rfl,?_⟩;refine ar rfl rfl rfl rfl ?_;refine ab ⟨rfl,rfl,rfl,?_⟩;refine ar rfl rfl rfl rfl ?_;refine ab ⟨rfl,rfl,rfl,?_⟩;refine ar rfl rfl rfl rfl ?_;refine ab ⟨rfl,rfl,rfl,?_⟩;refine aE rfl rfl rfl ?_;refine ab ⟨rfl,rfl,rfl,?_⟩;refine ah rfl rfl ?_;refine ab ⟨rfl,rfl,rfl,?_⟩;refine ah rfl rfl ?_;refine ab ⟨rfl,rfl,rfl,?_⟩;refine eQ (aQ ?_);rw[←em]at*
  first
  |(have e:decide (x=k)=decide (k∈d.1):=decide_eq_decide.2 (by rw[←Np Cs,hg2];simp)
    exact eS rfl rfl rfl ⟨by rw[e],S.back⟩)
  |(have e:k∉d.1:=fun h=>by have:=(BN Cs).1 h;have:=(ao.1 this).1;omega
    exact eS rfl rfl rfl ⟨by rw[decide_eq_false e],S.back⟩)
theorem find_spec {M:aC} {d:Di} {v0:Value} {k:List UInt8} (w0:World) (hM:Lt M w0) (hd:cP RT.di M w0 v0 d) (Cs:DB d.1) (hl:d.1.length=d.2.length):
  Spec Tryz.prog 79 #[v0,sv k] w0 (fun v w=>Step M w0 M w aD∧((∃(j:Nat) (p:Value) (t:Li),v= .tuple #[p,.bool true]∧d.1[j]? =some k∧d.2[j]? =some t∧cP RT.li M w p t)∨(v= .tuple #[.pointer none,.bool false]∧k∉d.1))):=by
 refine bg (args:=[_,_]) (fn:=Tryz.f79) Tryz.func79 rfl (n:=25) Tryz.ntmps79 ?_;have S:Step M w0 M w0 aD:=(aw _ _).cF (fun _ h=>h.elim) (fun _ h=>h.elim);refine aj (ae (ah rfl rfl (ah rfl rfl (ab (aj (ae (ad rfl rfl (ad rfl rfl ?_))))))));refine aW rfl rfl agF (Gu _ hM hd Cs) (fun r1 w1 hc=>?_);obtain⟨rfl,s1⟩:=hc;replace hd:=hd.le (by decide) s1.le;replace hM:=s1.lt hM;have:=S.size;replace S:=S.aB s1;refine ad rfl rfl (bV rfl rfl rfl (bV rfl rfl rfl (ah rfl rfl (ah rfl rfl (ab (aj (aj (ae (ad rfl rfl (mJ rfl rfl (aU (v':= .bool (decide (k∉d.1))) (by simp) ?_)))))))))));refine ab ?_;refine bN rfl (fun c2=>?_) (fun c2=>?_)
 ·refine aj (ae (ah rfl rfl (ab (aj (ae (ad rfl rfl (ah rfl rfl (ah rfl rfl (ab (aQ ?_))))))))));exact eS rfl rfl rfl ⟨S,.inr ⟨rfl,c2⟩⟩
 ·refine aT (aj (ae (ad rfl rfl (bQ rfl hd.gO rfl ?_))));refine aL (M:=M) (A:=RT.di) (B:=((RT.li).ptr).sl) jN rfl rfl D1 (by decide) di1 rfl rfl (by decide) hd (aq _ _) (fun pt W8=>?_);refine bT (M:=M) ed rfl rfl rfl rfl rfl W8 (aq _ _) (fun vt ow=>?_);replace ow:(((RT.li).ptr).sl).V M _ d.2 vt:=ow;refine ad rfl rfl ?_;have hk:=(BN Cs).1 (dE.1 c2);have Fb:=(ao.1 hk).1;refine cE (M:=M) ed zG rfl rfl rfl ow (aq _ _) (by omega) (fun u5 t IN C0=>?_);rw[ay]at IN;refine bT (M:=M) eO rfl rfl rfl rfl rfl C0 (aq _ _) (fun vp ZI=>?_);have agP:=mA.1 ZI;refine ah rfl rfl (ah rfl rfl (ab (aQ ?_)));exact eS rfl rfl rfl ⟨S,.inl ⟨_,_,t,rfl,hk,IN,agP⟩⟩
end Go.K
namespace Go.K
open Go.Proofs
namespace TKSegC
theorem D1:TI Tryz.prog 196 (.slice none 0 0) 1 24:=by unfold TI;kernel_rfl
end TKSegC
open TKSegC
set_option maxRecDepth 10000
theorem yN {M:aC} {d:Di} {vd:Value} {bi bd yl:Nat} {wv:World} {J:Nat→World→Prop} {Jx:World→Prop} (w0:World) (hd:cP RT.di M wv vd d) (hl:d.1.length=d.2.length) (ky:∀i w w',J i w→Step aD w aD w' aD→J i w') (HN:∀i w,J i w→w.heap[bi]? =some (.cells #[.int .i64 0] 3 (0,0))∧w.heap[bd]? =some (.cells #[vd] 139 (0,0))∧Le M wv M w) (hy:∀(i:Nat) (w:World) x t vt,J i w→d.1[i]? =some x→d.2[i]? =some t→cP RT.li M w vt t→vT Tryz.prog yl [sv x,vt].toArray w (fun r w'=>∃b,r= .bool b∧(b=true→J (i+1) w')∧(b=false→Jx w'))) (h0:J 0 w0):
  Spec Tryz.prog 123 #[.func (.yield yl) #[] #[],.pointer (some ⟨bi,0,none⟩),.pointer (some ⟨bd,0,none⟩)] w0 (fun _ w=>J d.1.length w∨Jx w):=by
 refine bg (args:=[_,_,_]) (fn:=Tryz.f123) Tryz.func123 rfl (n:=33) Tryz.ntmps123 (aj (ae (aP ax rfl rfl rfl (HN _ _ h0).1 rfl (aU (v':= .int .i64 0) rfl (Rg.max2 rfl rfl rfl (ah rfl rfl (ab (aZ ?_))))))));refine dn (σ:=Nat) (fun s=>[(0,.func (.yield yl) #[] #[]),(1,.pointer (some ⟨bi,0,none⟩)),(2,.pointer (some ⟨bd,0,none⟩)),(4,.int .i64 (s:Int))]) (fun s w=>J s w∧s≤d.1.length) (fun s=>d.1.length-s) 0 (.cons rfl (.cons rfl (.cons rfl (.cons rfl .nil)))) ?_ ?_
 ·exact⟨h0,bG _⟩
 ·rintro k w ⟨hJ,hk⟩;obtain⟨gi,gd,hle⟩:=HN _ _ hJ;have hdl:d.1.length≤140737488355328:=by obtain⟨b,o,vs,_,_,⟨va,vb,_,⟨a,cap,_,_,h,_⟩,_⟩,_⟩:=hd;exact h
  refine aj (aj (ae (ad rfl rfl (aP gz rfl rfl rfl gd rfl (aU (v':=vd) rfl (bQ rfl hd.gO rfl ?_))))));refine aL (M:=M) (A:=RT.di) (B:=RT.str.sl) jN rfl rfl zt (by decide) WR rfl rfl (by decide) hd hle (fun pn OH=>?_);refine bT (M:=M) aS rfl rfl rfl rfl rfl OH (aq _ _) (fun vn rC=>?_);replace rC:(RT.str.sl).V M _ d.1 vn:=rC;refine bR aS rfl rC rfl (cn rfl rfl rfl (ab ?_));refine bN rfl (fun c1=>?_) (fun c1=>?_)
  ·refine aT (aj (aZ (aj ?_)));apply T.Kp 15 mixed rfl rfl rfl rfl rfl;intro WG Ri;have pv:=Ri M;refine ad rfl rfl ?_;refine ab ⟨rfl,rfl,rfl,?_⟩;replace hJ:=ky _ _ _ hJ (Ri aD);clear gi gd hle;obtain⟨gi,gd,hle⟩:=HN _ _ hJ;refine aP gz rfl rfl rfl gd rfl (aU (v':=vd) rfl ?_);refine ab ⟨rfl,rfl,rfl,?_⟩;refine bQ rfl hd.gO rfl ?_;refine ab ⟨rfl,rfl,rfl,?_⟩;refine aL (M:=M) (A:=RT.di) (B:=RT.str.sl) jN rfl rfl zt (by decide) WR rfl rfl (by decide) hd hle (fun pm Fg=>?_);refine ab ⟨rfl,rfl,rfl,?_⟩;refine bT (M:=M) aS rfl rfl rfl rfl rfl Fg (aq _ _) (fun vm hvm=>?_);replace hvm:(RT.str.sl).V M _ d.1 vm:=hvm;refine ab ⟨rfl,rfl,rfl,?_⟩;refine ad rfl rfl ?_;refine ab ⟨rfl,rfl,rfl,?_⟩;refine cE (M:=M) aS I9 rfl rfl rfl hvm (aq _ _) (by omega) (fun u3 x OC RA=>?_);rw[ay]at OC;refine ab ⟨rfl,rfl,rfl,?_⟩;refine bT (M:=M) aJ rfl rfl rfl rfl rfl RA (aq _ _) (fun vx qX=>?_);obtain rfl:=iC qX;refine ab ⟨rfl,rfl,rfl,?_⟩;refine aP gz rfl rfl rfl gd rfl (aU (v':=vd) rfl ?_);refine ab ⟨rfl,rfl,rfl,?_⟩;refine bQ rfl hd.gO rfl ?_;refine ab ⟨rfl,rfl,rfl,?_⟩;refine aL (M:=M) (A:=RT.di) (B:=((RT.li).ptr).sl) jN rfl rfl D1 (by decide) di1 rfl rfl (by decide) hd hle (fun pt W8=>?_);refine ab ⟨rfl,rfl,rfl,?_⟩;refine bT (M:=M) ed rfl rfl rfl rfl rfl W8 (aq _ _) (fun vt ow=>?_);replace ow:(((RT.li).ptr).sl).V M _ d.2 vt:=ow;refine ab ⟨rfl,rfl,rfl,?_⟩;refine ad rfl rfl ?_;refine ab ⟨rfl,rfl,rfl,?_⟩;refine cE (M:=M) ed zG rfl rfl rfl ow (aq _ _) (by omega) (fun u4 t vY EX=>?_);rw[ay]at vY;refine ab ⟨rfl,rfl,rfl,?_⟩;refine bT (M:=M) eO rfl rfl rfl rfl rfl EX (aq _ _) (fun vp ZI=>?_)
   refine ab ⟨rfl,rfl,rfl,?_⟩;refine eQ ?_;refine Rg.yield rfl (vs:=[sv x,vp]) rfl rfl (hy k _ x t vp hJ OC vY (mA.1 ZI)) (fun r5 w5 h5=>?_);obtain⟨b,rfl,Rf,qu⟩:=h5;refine mJ rfl rfl (aU (v':= .bool (decide (¬b=true))) (by simp) (ab ?_));refine bN rfl (fun c3=>?_) (fun c3=>?_)
   ·refine aQ ?_;exact Cv rfl (.inr (qu (by simpa using c3)))
   ·refine aT (ae (ad rfl rfl (bD rfl rfl rfl (by omega) (ah rfl rfl (ab ?_)))));refine⟨rfl,k+1,(.cons rfl (.cons rfl (.cons rfl (.cons rfl .nil)))),?_,?_⟩
    ·exact⟨Rf (dE.1 c3),by omega⟩
    ·omega
  ·refine cI ?_
   first|refine qQ ?_|simp+decide only[qR,jz,if_true,if_false]|skip
   have e:k=d.1.length:=by omega
   subst e;exact fW rfl (.inl hJ)
theorem AS {M:aC} {d:Di} {vd:Value} (w0:World) (hM:Lt M w0) (hd:cP RT.di M w0 vd d):
  Spec Tryz.prog 77 #[vd,.int .i64 0] w0 (fun v w=>∃bi bd,v= .func (.func 123) #[] [.pointer (some ⟨bi,0,none⟩),.pointer (some ⟨bd,0,none⟩)].toArray∧w.heap[bi]? =some (.cells #[.int .i64 0] 3 (0,0))∧w.heap[bd]? =some (.cells #[vd] 139 (0,0))∧w0.heap.size≤bi∧w0.heap.size≤bd∧Step M w0 M w aD):=by
 refine bg (args:=[_,_]) (fn:=Tryz.f77) Tryz.func77 rfl (n:=6) Tryz.ntmps77 (aj (ae ?_));refine wJ M rfl rfl (fun bd w1 p1 q1 g1 s1=>?_);rw[uZ hd]at g1;replace s1:=s1.back;refine wJ M rfl rfl (fun bi w2 p2 q2 g2 s2=>?_);replace s2:=s2.back;replace g2:w2.heap[bi]? =some (.cells #[.int .i64 0] 3 (0,0)):=g2;refine ah rfl rfl (ab (aj (ae (j5 (xs:=[]) (ys:=[.tmp 3,.tmp 2]) rfl rfl rfl (ah rfl rfl (ab (aQ ?_)))))));exact aV rfl rfl ⟨bi,bd,rfl,g2,s2.aK g1,by have:=s1.size;omega,p1,s1.aB s2⟩
end Go.K
namespace Go.K
open Go.Proofs
namespace TKSegD
theorem D6:TI Tryz.prog 139 (.pointer none) 1 8:=by unfold TI;kernel_rfl
theorem E76:Enters Tryz.prog 76:=enters Tryz.func76 rfl (by decide)
theorem E77:Enters Tryz.prog 77:=enters Tryz.func77 rfl (by decide)
theorem Vv:Enters Tryz.prog 123:=enters Tryz.func123 rfl (by decide)
end TKSegD
open TKSegD
set_option maxRecDepth 10000
theorem Nq {M:aC} {w:World} {xs:List (List UInt8)} {v:Value} (h:(RT.str.sl).V M w xs v):∀x∈xs,x.length≤140737488355328:=fun x hx=>by
 obtain⟨a,cap,_,_,_,hs⟩:=iz.1 h;rcases hs with rfl|⟨b,o,_,_,he⟩
 ·cases hx
 ·obtain⟨i,hi⟩:=bE.1 hx;obtain⟨vs,⟨_,h1⟩,_⟩:=he i x hi;exact h1
theorem Nr {M:aC} {w:World} {v:Value} {d:Di} (h:cP RT.di M w v d):(∀x∈d.1,x.length≤140737488355328)∧d.1.length≤140737488355328:=by
 obtain⟨b,o,vs,_,_,⟨va,vb,_,h1,_⟩,_⟩:=h;have hv:(RT.str.sl).V M w d.1 ((RT.str.sl).val va):=⟨va,h1,rfl⟩;exact⟨Nq hv,ei hv⟩
structure Nt {α:Type} (A:RT α) (e T:TypeId) (M:aC) (w0:World) (bo bi bd D:Nat) (vd:Value) (st:Loop) (vo:Value) (xs:List α) (M':aC) (w:World):Prop where
 lt:Lt M' w
 S:Step M w0 M' w aD
 o:w.heap[bo]? =some (.cells #[vo] T (0,0))
 mo:M' bo
 r:w.heap[D+1]? =some (.loop st)
 mr:M' (D+1)
 d:w.heap[D]? =some (.deferred (some []))
 md:M' D
 own:Own A e M' w w0.heap.size vo xs
 gi:w.heap[bi]? =some (.cells #[.int .i64 0] 3 (0,0))
 gd:w.heap[bd]? =some (.cells #[vd] 139 (0,0))
 fi: ¬M' bi
 fd: ¬M' bd
 z:w0.heap.size≤bo∧w0.heap.size≤D
section
variable {α:Type} {A:RT α} {e T:TypeId} {M M1 M2 N:aC} {w0 w w':World} {bo bi bd D:Nat} {vd:Value} {st:Loop} {vo:Value} {xs:List α}
theorem Nt.aM (h:Nt A e T M w0 bo bi bd D vd st vo xs M1 w) (s:Step M1 w M2 w' aD):Nt A e T M w0 bo bi bd D vd st vo xs M2 w':=
 ⟨s.lt h.lt,h.S.aB s,s.aK h.o,(s.mem _ (ak h.o)).2 h.mo,s.aK h.r,(s.mem _ (ak h.r)).2 h.mr,s.aK h.d,(s.mem _ (ak h.d)).2 h.md,h.own.aM s,s.aK h.gi,s.aK h.gd,fun hn=>h.fi ((s.mem _ (ak h.gi)).1 hn),fun hn=>h.fd ((s.mem _ (ak h.gd)).1 hn),h.z⟩
theorem Nt.mz {st':Loop} (h:Nt A e T M w0 bo bi bd D vd st vo xs M1 w):Nt A e T M w0 bo bi bd D vd st' vo xs M1 (w.putObj (D+1) (.loop st')):=by
 have s:Step M1 w M1 (w.putObj (D+1) (.loop st')) (fun k=>k=D+1):=dS h.mr;obtain⟨z1,z2⟩:=h.z;refine⟨s.lt h.lt,h.S.cf s (fun k (hk:k=D+1)=>by omega),s.keep h.o (fun(hn:bo=D+1)=>by have h1:=h.o;rw[hn,h.r]at h1;cases h1),h.mo,wK (ak h.r),h.mr,s.keep h.d (fun(hn:D=D+1)=>by omega),h.md,h.own.step s (fun b hb (hn:b=D+1)=>?_),s.keep h.gi (fun(hn:bi=D+1)=>by have h1:=h.gi;rw[hn,h.r]at h1;cases h1),s.keep h.gd (fun(hn:bd=D+1)=>by have h1:=h.gd;rw[hn,h.r]at h1;cases h1),h.fi,h.fd,h.z⟩;obtain⟨cs,hc⟩:=h.own.isCells hb;rw[hn,h.r]at hc;cases hc
theorem Nt.grow {Gv:Value} {Nu:List α} (hT:T≠e) (h:Nt A e T M w0 bo bi bd D vd st vo xs M1 w) (s:Step M1 w M2 w' (fC vo)) (ho:Own A e M2 w' w0.heap.size Gv Nu):
  (w'.heap[bo]? =some (.cells #[vo] T (0,0))∧M2 bo)∧∀{w2:World},Step M2 w' M2 w2 (fun k=>k=bo)→w2.heap[bo]? =some (.cells #[Gv] T (0,0))→Nt A e T M w0 bo bi bd D vd st Gv Nu M2 w2:=by
 obtain⟨z1,z2⟩:=h.z
 have yO:∀{b:Nat} {o:Obj},w.heap[b]? =some o→(∀cs fr,o≠ .cells cs e fr)→¬fC vo b:=fun {b o} hb eN hn=>by
  obtain⟨⟨C,h1,_⟩,_⟩:=h.own;rcases h1.2 with h3|⟨g,cap,cur,h3,h4,h5,_⟩
  ·unfold fC at hn;rw[h3.1]at hn;cases hn
  ·unfold fC at hn;rw[h3]at hn;cases hn;rw[hb]at h5;exact eN _ _ (aI h5)
 have nM:∀{b:Nat},¬M1 b→¬fC vo b:=fun hb hn=>hb (h.own.mut_ _ hn)
 have fS:=s.keep h.o (yO h.o (fun cs fr hc=>by injection hc with _ h1 _;exact hT h1));have hr:=s.keep h.r (yO h.r (fun cs fr hc=>by cases hc));have hd:=s.keep h.d (yO h.d (fun cs fr hc=>by cases hc));have lD:=s.keep h.gi (nM h.fi);have oR:=s.keep h.gd (nM h.fd);have Nv: ¬M2 bi:=fun hn=>h.fi ((s.mem _ (ak h.gi)).1 hn)
 have Ka: ¬M2 bd:=fun hn=>h.fd ((s.mem _ (ak h.gd)).1 hn)
 have F2:=(s.mem _ (ak h.o)).2 h.mo;refine⟨⟨fS,F2⟩,fun {w2} s2 hx=>⟨s2.lt (s.lt h.lt),(h.S.cV s h.own (aO _)).cf s2 (fun k (hk:k=bo)=>by omega),hx,F2,s2.keep hr (fun(hn:D+1=bo)=>by rw[hn,fS]at hr;cases hr),(s.mem _ (ak h.r)).2 h.mr,s2.keep hd (fun(hn:D=bo)=>by rw[hn,fS]at hd;cases hd),(s.mem _ (ak h.d)).2 h.md,ho.step s2 (fun b hb (hn:b=bo)=>ho.eM fS hT (by rw[←hn];exact hb)),s2.keep lD (fun(hn:bi=bo)=>Nv (by rw[hn];exact F2)),s2.keep oR (fun(hn:bd=bo)=>Ka (by rw[hn];exact F2)),Nv,Ka,h.z⟩⟩
end
theorem agT {α:Type} {A:RT α} {e T:TypeId} {M M1:aC} {w0 w:World} {bo bi bd:Nat} {vd:Value} {st:Loop} (hM:Lt M1 w) (S:Step M w0 M1 w aD) (go:w.heap[bo]? =some (.cells #[.slice none 0 0] T (0,0))) (mo:M1 bo) (gi:w.heap[bi]? =some (.cells #[.int .i64 0] 3 (0,0))) (gd:w.heap[bd]? =some (.cells #[vd] 139 (0,0))) (fi: ¬M1 bi) (fd: ¬M1 bd) (Gn:w0.heap.size≤bo):
  ∃M',Nt A e T M w0 bo bi bd w.heap.size vd st (.slice none 0 0) [] M' ((w.alloc (.deferred (some []))).alloc (.loop st)):=by
 have sA:Step M1 w (ins M1 w.heap.size) (w.alloc (.deferred (some []))) aD:=(cQ M1 w _).own (aO _) (by simp);have sB:Step (ins M1 w.heap.size) (w.alloc (.deferred (some []))) (ins (ins M1 w.heap.size) (w.heap.size+1)) ((w.alloc (.deferred (some []))).alloc (.loop st)) aD:=(cQ _ _ _).own (by simp) (by simp);have hD:(w.alloc (.deferred (some []))).heap[w.heap.size]? =some (.deferred (some [])):=ch w _;have hR:((w.alloc (.deferred (some []))).alloc (.loop st)).heap[w.heap.size+1]? =some (.loop st):=by have:=ch (w.alloc (.deferred (some []))) (.loop st);rwa [zz]at this
 have SS:=(S.aB sA).aB sB;have hi:=ak gi;have hd:=ak gd;refine⟨_,sB.lt (sA.lt hM),SS,sB.aK (sA.aK go),.inr (.inr mo),hR,.inl rfl,sB.aK hD,.inr (.inl rfl),dz _ _ _ _ _,sB.aK (sA.aK gi),sB.aK (sA.aK gd),?_,?_,Gn,S.size⟩
 ·rintro(h|h|h)
  ·omega
  ·omega
  ·exact fi h
 ·rintro(h|h|h)
  ·omega
  ·omega
  ·exact fd h
theorem yP {M:aC} {d:Di} {v0:Value} (w0:World) (hM:Lt M w0) (hd:cP RT.di M w0 v0 d) (hdl:d.1.length=d.2.length) (hd6:d.1.length≤1000000000):
  Spec Tryz.prog 76 #[v0] w0 (fun v w=>(RT.str.sl).V M w d.1 v∧Step M w0 M w aD):=by
 have kr:=hM;obtain⟨Ij,_⟩:=Nr hd;refine nL (args:=[_]) (fn:=Tryz.f76) Tryz.func76 rfl (n:=14) Tryz.ntmps76 ?_;have S:Step M w0 M w0 aD:=(aw _ _).cF (fun _ h=>h.elim) (fun _ h=>h.elim);refine aj (ae (ah rfl rfl (ab (aj (ae ?_)))));refine ek M zt rfl (fun mi C4 TR TS jO nt=>?_);obtain⟨lf,mj⟩:∃M',M'=ins M mi:=⟨_,rfl⟩;rw[←mj]at nt;have iP:lf mi:=by rw[mj];exact .inl rfl
 change C4.heap[mi]? =some (.cells #[.slice none 0 0] _ _)at jO;replace hM:=nt.lt hM;have:=S.size;replace S:=S.aB nt;refine ab (aj (aj (ae (ad rfl rfl ?_))));refine aW rfl rfl E77 (AS (M:=lf) _ hM (hd.le (by decide) nt.le)) (fun r2 w2 hc=>?_);obtain⟨bi,bd,rfl,gi,gd,JU,hbd,s2⟩:=hc;have fi: ¬lf bi:=fun h=>by have:=hM _ h;omega
 have fd: ¬lf bd:=fun h=>by have:=hM _ h;omega
 replace fi: ¬lf bi:=fi;have:=ak jO;replace iP:=(s2.mem _ this).2 iP;replace jO:=s2.aK jO;replace hM:=s2.lt hM;have:=S.size;replace S:=S.aB s2;refine ab (aZ ?_);refine T.range (gf:=123) (lb:=[.pointer (some ⟨bi,0,none⟩),.pointer (some ⟨bd,0,none⟩)].toArray) rfl Vv (fun rec np=>?_);obtain⟨D,hD⟩:∃D,D=w2.heap.size:=⟨_,rfl⟩;obtain⟨Mr,h0⟩:=agT (A:=RT.str) (e:=9) (st:=rec .ready none) hM S jO iP gi gd fi fd (by omega);rw[←hD]at np h0 ⊢;refine Spec.mono (yN (wv:=w0) (M:=M) (J:=fun i w=>∃M' vo,Nt (RT.str) 9 57 M w0 mi bi bd D v0 (rec .ready none) vo (d.1.take i) M' w) (Jx:=fun _=>False) _ hd hdl (fun i w w' ⟨M',vo,h⟩ s=>⟨M',vo,h.aM (s.any M')⟩) (fun i w ⟨M',vo,h⟩=>⟨h.gi,h.gd,h.S.back.le⟩) (fun i wr x t vt hJ hx ht hp=>?_) ⟨Mr,_,h0⟩) (fun _ w3 h3=>?_)
 ·obtain⟨M',vo,h⟩:=hJ;refine lS (ps:=[7,8]) (vs:=[sv x,vt]) np h.r rfl (by decide) (ae (ah rfl rfl (ab ?_)));refine⟨rfl,h.r,?_⟩;have h4:=h.mz (st':=rec .busy none);have s4:Step M' wr M' (wr.putObj (D+1) (.loop (rec .busy none))) (fun k=>k=D+1):=dS h.mr;generalize wr.putObj (D+1) _=w4 at h4 s4 ⊢;refine aZ (ae (aP aS rfl rfl rfl h4.o rfl (aU (v':=vo) rfl (ad rfl rfl ?_))));refine eg (A:=RT.str) (hn:=by decide) (M:=M') aS I9 (by decide) rfl rfl h4.lt (kA.2 ⟨rfl,Ij x (az hx)⟩) (.inr ⟨rfl,rfl⟩) (fun u5 w5 C0 s5=>?_);have h6:=h4.aM s5;have ot:=(ao.1 hx).1;refine cX (M:=M') (base:=w0.heap.size) aS I9 rfl rfl rfl rfl h6.own C0 (aq _ _) (by simp;omega) (by simp;omega) h6.S.size (fun v6 M6 w6 tJ s6=>?_);obtain⟨⟨go6,mo6⟩,Fa⟩:=h6.grow (by decide) s6 tJ;refine cu (M:=M6) zt rfl rfl go6 rfl (by obtain⟨_,_,he,_⟩:=tJ.isSlice;rw[he];rfl) mo6 (fun w7 g7 s7=>?_);refine ab ?_;have h8:=(Fa s7 g7).mz (st':=rec .ready none);exact⟨(Fa s7 g7).r,true,rfl,fun _=>⟨M6,v6,by rw[b9,hx,cK];exact h8⟩,fun h=>by cases h⟩
 ·obtain⟨M',vo,h⟩:=h3.resolve_right id;left;refine⟨h.r,?_⟩;have h5:=h.mz (st':=rec .exhausted none);generalize w3.putObj (D+1) _=wE at h5 ⊢;refine aj (ae (aP aS rfl rfl rfl h5.o rfl (aU (v':=vo) rfl (ah rfl rfl (ab (aQ ?_))))));have sE:Step M' wE M' (wE.putObj D (.deferred none)) (fun k=>k=D):=dS h5.md;have hz:=h5.z;have hS:=h5.S.cf sE (fun k (hk:k=D)=>by omega)
  have ho:=h5.own.step sE (fun b hb (hn:b=D)=>by
   obtain⟨cs,hc⟩:=h5.own.isCells hb;rw[hn,h5.d]at hc;cases hc)
  rw[bc (aO _)]at ho;exact Bc rfl rfl h5.d ⟨ho.close kr hS (by omega),hS.back⟩
theorem Gw {M:aC} {s:Se} {v0:Value} (w0:World) (hM:Lt M w0) (hdl:s.2.2.1.length=s.2.2.2.length) (hd6:s.2.2.1.length≤1000000000) (hs:cP RT.se M w0 v0 s):
  Spec Tryz.prog 38 #[v0] w0 (fun v w=>(RT.str.sl).V M w s.2.2.1 v∧Step M w0 M w aD):=by
 refine bg (args:=[_]) (fn:=Tryz.f38) Tryz.func38 rfl (n:=8) Tryz.ntmps38 (aj (ae (ah rfl rfl (ab (aj (ae (ad rfl rfl (bQ rfl hs.gO rfl ?_))))))));refine aL (M:=M) (A:=RT.se) (B:=(RT.di).ptr) iO rfl rfl D6 (by decide) se2 rfl rfl (by decide) hs (aq _ _) (fun F8 nX=>?_);refine bT (M:=M) gz rfl rfl rfl rfl rfl nX (aq _ _) (fun vd ZJ=>?_);refine aW rfl rfl E76 (yP _ hM (mA.1 ZJ) hdl hd6) (fun r wc hc=>?_);obtain hc:=hc;refine ah rfl rfl (ab (aQ ?_));exact aV rfl rfl hc
end Go.K
namespace Go.K
open Go.Proofs
namespace TKSegE
theorem D6:TI Tryz.prog 139 (.pointer none) 1 8:=by unfold TI;kernel_rfl
theorem E79:Enters Tryz.prog 79:=enters Tryz.func79 rfl (by decide)
end TKSegE
open TKSegE
set_option maxRecDepth 10000
def Vw (ns:List (List UInt8)) (ls:List (List Po)) (k:List UInt8):List Po:=match (ns.zip ls).find? (fun p=>decide (p.1=k))with|some p=>p.2|none=>[]
theorem Nw {ns:List (List UInt8)} (hn:ns.Nodup) {ls:List (List Po)} {k:List UInt8} {j:Nat} {l:List Po} (h:ns[j]? =some k) (hl:ls[j]? =some l):Vw ns ls k=l:=by
 have:∀{ns:List (List UInt8)} {ls:List (List Po)} {j:Nat},ns.Nodup→ns[j]? =some k→ls[j]? =some l→(ns.zip ls).find? (fun p=>decide (p.1=k))=some (k,l):=by
  intro ns
  induction ns with
  |nil=>intro ls j _ h;simp at h
  |cons x ns ih=>
   intro ls j hn h hl
   cases ls with
   |nil=>simp at hl
   |cons y ls=>
    cases j with
    |zero=>simp at h hl;subst h;subst hl;simp
    |succ j=>
     have IZ:=List.nodup_cons.1 hn;have hk:k∈ns:=az (by simpa using h);have hx:x≠k:=fun e=>IZ.1 (by rw[e];exact hk)
     rw[List.zip_cons_cons,List.find?_cons_of_neg (by simpa using hx)];exact ih IZ.2 (by simpa using h) (by simpa using hl)
 unfold Vw;rw[this hn h hl]
theorem D7 {ns:List (List UInt8)} {ls:List (List Po)} {k:List UInt8} (h:k∉ns):Vw ns ls k=[]:=by
 unfold Vw;rw[List.find?_eq_none.2 fun p hp=>by have:=List.of_mem_zip hp;simp;intro e;exact h (e▸this.1)]
theorem Vx {L:List En} (k:List UInt8):Vw (keysOf L) ((keysOf L).map (pk L)) k=pk L k:=by
 by_cases h:k∈keysOf L
 ·obtain⟨j,hj⟩:=bE.1 h;exact Nw (kX L).nodup hj (by rw[bm,hj];rfl)
 ·rw[D7 h];exact(BE 0 (fun h'=>h (jr.2 h'))).symm
def ZK (d:Di) (k:List UInt8) (M:aC) (v:Value) (w:World):Prop:=(∃(j:Nat) (t:Li),d.1[j]? =some k∧d.2[j]? =some t∧cP RT.li M w v t)∨(v= .pointer none∧k∉d.1)
end Go.K
namespace Go.K
open Go.Proofs
namespace TKAdv
theorem yB:TI Tryz.prog 80 (.slice none 0 0) 1 24:=by unfold TI;kernel_rfl
theorem ZL:Enters Tryz.prog 180:=enters Tryz.func180 rfl (by decide)
end TKAdv
open TKAdv
set_option maxRecDepth 10000
end Go.K
namespace Go.K
open Go.Proofs
namespace TKErsA
theorem D6:TI Tryz.prog 139 (.pointer none) 1 8:=by unfold TI;kernel_rfl
theorem E79:Enters Tryz.prog 79:=enters Tryz.func79 rfl (by decide)
theorem Vi:Enters Tryz.prog 145:=enters Tryz.func145 rfl (by decide)
end TKErsA
open TKErsA
set_option maxRecDepth 10000
end Go.K
namespace Go.K
open Go.Proofs
namespace TKErsB
theorem E58:Enters Tryz.prog 58:=enters Tryz.func58 rfl (by decide)
end TKErsB
open TKErsB
set_option maxRecDepth 10000
end Go.K
namespace Go.K
open Go.Proofs
set_option maxRecDepth 10000
structure Nx {α:Type} (A:RT α) (e T C:TypeId) (K:aC→World→Prop) (M:aC) (w0:World) (bo D:Nat) (st:Loop) (vo:Value) (xs:List α) (M':aC) (w:World):Prop where
 lt:Lt M' w
 S:Step M w0 M' w aD
 o:w.heap[bo]? =some (.cells #[vo] T (0,0))
 mo:M' bo
 r:w.heap[D+1]? =some (.loop st)
 mr:M' (D+1)
 d:w.heap[D]? =some (.deferred (some []))
 md:M' D
 own:Own A e M' w w0.heap.size vo xs
 k:K M' w
 z:w0.heap.size≤bo∧w0.heap.size≤D
section
variable {α:Type} {A:RT α} {e T C:TypeId} {K:aC→World→Prop} {M M1 M2 N:aC} {w0 w w':World} {bo D:Nat} {st:Loop} {vo:Value} {xs:List α}
theorem Nx.aM (hK:∀{M w M' w'},K M w→Le M w M' w'→K M' w') (h:Nx A e T C K M w0 bo D st vo xs M1 w) (s:Step M1 w M2 w' aD):Nx A e T C K M w0 bo D st vo xs M2 w':=
 ⟨s.lt h.lt,h.S.aB s,s.aK h.o,(s.mem _ (ak h.o)).2 h.mo,s.aK h.r,(s.mem _ (ak h.r)).2 h.mr,s.aK h.d,(s.mem _ (ak h.d)).2 h.md,h.own.aM s,hK h.k s.le,h.z⟩
theorem Nx.mz (hK:∀{M w M' w'},K M w→Le M w M' w'→K M' w') {st':Loop} (h:Nx A e T C K M w0 bo D st vo xs M1 w):Nx A e T C K M w0 bo D st' vo xs M1 (w.putObj (D+1) (.loop st')):=by
 have s:Step M1 w M1 (w.putObj (D+1) (.loop st')) (fun k=>k=D+1):=dS h.mr;obtain⟨z1,z2⟩:=h.z;refine⟨s.lt h.lt,h.S.cf s (fun k (hk:k=D+1)=>by omega),s.keep h.o (fun(hn:bo=D+1)=>by have h1:=h.o;rw[hn,h.r]at h1;cases h1),h.mo,wK (ak h.r),h.mr,s.keep h.d (fun(hn:D=D+1)=>by omega),h.md,h.own.step s (fun b hb (hn:b=D+1)=>?_),hK h.k s.le,h.z⟩;obtain⟨cs,hc⟩:=h.own.isCells hb;rw[hn,h.r]at hc;cases hc
theorem Nx.grow (hK:∀{M w M' w'},K M w→Le M w M' w'→K M' w') {Gv:Value} {Nu:List α} (hT:T≠e) (h:Nx A e T C K M w0 bo D st vo xs M1 w) (s:Step M1 w M2 w' (fC vo)) (ho:Own A e M2 w' w0.heap.size Gv Nu):
  (w'.heap[bo]? =some (.cells #[vo] T (0,0))∧M2 bo)∧∀{w2:World},Step M2 w' M2 w2 (fun k=>k=bo)→w2.heap[bo]? =some (.cells #[Gv] T (0,0))→Nx A e T C K M w0 bo D st Gv Nu M2 w2:=by
 obtain⟨z1,z2⟩:=h.z
 have yO:∀{b:Nat} {o:Obj},w.heap[b]? =some o→(∀cs fr,o≠ .cells cs e fr)→¬fC vo b:=fun {b o} hb eN hn=>by
  obtain⟨⟨C,h1,_⟩,_⟩:=h.own;rcases h1.2 with h3|⟨g,cap,cur,h3,h4,h5,_⟩
  ·unfold fC at hn;rw[h3.1]at hn;cases hn
  ·unfold fC at hn;rw[h3]at hn;cases hn;rw[hb]at h5;exact eN _ _ (aI h5)
 have fS:=s.keep h.o (yO h.o (fun cs fr hc=>by injection hc with _ h1 _;exact hT h1));have hr:=s.keep h.r (yO h.r (fun cs fr hc=>by cases hc));have hd:=s.keep h.d (yO h.d (fun cs fr hc=>by cases hc));have F2:=(s.mem _ (ak h.o)).2 h.mo;refine⟨⟨fS,F2⟩,fun {w2} s2 hx=>⟨s2.lt (s.lt h.lt),(h.S.cV s h.own (aO _)).cf s2 (fun k (hk:k=bo)=>by omega),hx,F2,s2.keep hr (fun(hn:D+1=bo)=>by rw[hn,fS]at hr;cases hr),(s.mem _ (ak h.r)).2 h.mr,s2.keep hd (fun(hn:D=bo)=>by rw[hn,fS]at hd;cases hd),(s.mem _ (ak h.d)).2 h.md,ho.step s2 (fun b hb (hn:b=bo)=>ho.eM fS hT (by rw[←hn];exact hb)),hK (hK h.k s.le) s2.le,h.z⟩⟩
end
theorem agY {α:Type} {A:RT α} {e T C:TypeId} {K:aC→World→Prop} {M M1:aC} {w0 w:World} {bo:Nat} {st:Loop} (hK:∀{M w M' w'},K M w→Le M w M' w'→K M' w') (hM:Lt M1 w) (S:Step M w0 M1 w aD) (go:w.heap[bo]? =some (.cells #[.slice none 0 0] T (0,0))) (mo:M1 bo) (hk:K M1 w) (Gn:w0.heap.size≤bo):
  ∃M',Nx A e T C K M w0 bo w.heap.size st (.slice none 0 0) [] M' ((w.alloc (.deferred (some []))).alloc (.loop st)):=by
 have sA:Step M1 w (ins M1 w.heap.size) (w.alloc (.deferred (some []))) aD:=(cQ M1 w _).own (aO _) (by simp);have sB:Step (ins M1 w.heap.size) (w.alloc (.deferred (some []))) (ins (ins M1 w.heap.size) (w.heap.size+1)) ((w.alloc (.deferred (some []))).alloc (.loop st)) aD:=(cQ _ _ _).own (by simp) (by simp);have hD:(w.alloc (.deferred (some []))).heap[w.heap.size]? =some (.deferred (some [])):=ch w _;have hR:((w.alloc (.deferred (some []))).alloc (.loop st)).heap[w.heap.size+1]? =some (.loop st):=by have:=ch (w.alloc (.deferred (some []))) (.loop st);rwa [zz]at this
 exact⟨_,sB.lt (sA.lt hM),(S.aB sA).aB sB,sB.aK (sA.aK go),.inr (.inr mo),hR,.inl rfl,sB.aK hD,.inr (.inl rfl),dz _ _ _ _ _,hK (hK hk sA.le) sB.le,Gn,S.size⟩
end Go.K
namespace Go.K
open Go.Proofs
namespace TKBldJ
theorem BM:TI Tryz.prog 58 (.slice none 0 0) 1 24:=by unfold TI;kernel_rfl
theorem Cr:TI Tryz.prog 72 (.agg #[(.slice none 0 0),(.slice none 0 0),(.slice none 0 0),(.slice none 0 0)]) 4 96:=by unfold TI;kernel_rfl
theorem yB:TI Tryz.prog 80 (.slice none 0 0) 1 24:=by unfold TI;kernel_rfl
theorem E39:Enters Tryz.prog 39:=enters Tryz.func39 rfl (by decide)
theorem E40:Enters Tryz.prog 40:=enters Tryz.func40 rfl (by decide)
theorem E41:Enters Tryz.prog 41:=enters Tryz.func41 rfl (by decide)
theorem E42:Enters Tryz.prog 42:=enters Tryz.func42 rfl (by decide)
theorem E43:Enters Tryz.prog 43:=enters Tryz.func43 rfl (by decide)
end TKBldJ
open TKBldJ
set_option maxRecDepth 10000
set_option maxHeartbeats 4000000 in
theorem Gx {M:aC} {L:List En} {v0:Value} (w0:World) (hM:Lt M w0) (hv:(RT.en.sl).V M w0 L v0) (hl:∀e∈L,∀f∈e.1.2,f.1.length≤900000∧f.2.length≤900000) (hn:L.length≤100000) (hok:sJ (-1) L=true):
  Spec Tryz.prog 11 #[v0] w0 (fun v w=>∃s,v= .tuple #[s,.int .i64 0]∧cP RT.se M w s (rH (fB L))∧Step M w0 M w aD):=by
 have kr:=hM;have hF:=kh hok
 have Ge:(keysOf L).length≤500000000:=by
  have h1:=(kX L).nodup.length_le_of_subset (l₂:=iL L) (fun x hx=>jr.1 hx);have:=nZ hF;omega
 have PG:∀k∈keysOf L,k.length≤43:=fun k hk=>wu hF k (jr.1 hk)
 refine bg (args:=[_]) (fn:=Tryz.f11) Tryz.func11 rfl (n:=63) Tryz.ntmps11 ?_;have S:Step M w0 M w0 aD:=(aw _ _).cF (fun _ h=>h.elim) (fun _ h=>h.elim);refine aj (ae (ah rfl rfl (ah rfl rfl (ab (aj (ae ?_))))));refine aW rfl rfl E39 (Ml (Z:=fun k=>w0.heap.size≤k) (B:=w0.heap.size) _ hM (aO _) (fun k hk=>hk)) (fun r1 w1 hc=>?_);obtain⟨M1,b1,rfl,_,il,s1⟩:=hc;replace il:=il.Je (Z':=fun k=>w0.heap.size≤k∧k<w1.heap.size) (fun c hc dQ=>⟨hc,dQ⟩);replace hv:=hv.le s1.le;replace hM:=s1.lt hM;have:=S.size;replace S:=S.aB s1;refine ah rfl rfl (ab (aj (ae ?_)));refine ek M1 Cr rfl (fun gM TT ad4 ad5 C5 yd=>?_);obtain⟨K9,ye⟩:∃M',M'=ins M1 gM:=⟨_,rfl⟩;rw[←ye]at yd;have yf:K9 gM:=by rw[ye];exact .inl rfl
 change TT.heap[gM]? =some (.cells #[.slice none 0 0,.slice none 0 0,.slice none 0 0,.slice none 0 0] _ _)at C5;replace hv:=hv.le yd.le;replace il:=il.aM yd;replace hM:=yd.lt hM;have:=S.size;replace S:=S.aB yd;refine ab (aj (aj (ae (ad rfl rfl (bR ff rfl hv rfl (ad rfl rfl (ab (aZ ?_))))))));refine dn (σ:=Nat×Value×Value) (fun q=>[(4,.pointer (some ⟨b1,0,none⟩)),(5,.pointer (some ⟨gM,0,none⟩)),(12,v0),(13,.int .i64 (L.length:Int)),(14,.int .i64 (q.1:Int))]) (fun q w=>∃M' words,Lt M' w∧Step M w0 M' w aD∧(RT.en.sl).V M' w L v0∧nY (ZP w0.heap.size gM q.2.1 q.2.2) M' w w0.heap.size b1 (L.take q.1) words (mZ (-1) (L.take q.1))∧w.heap[gM]? =some (.cells #[q.2.1,q.2.2,.slice none 0 0,.slice none 0 0] 72 (0,0))∧M' gM∧Own (RT.int .i64) 3 M' w w0.heap.size q.2.1 ((L.take q.1).map (·.1.1))∧Own (RT.int .i64) 3 M' w w0.heap.size q.2.2 ((L.take q.1).map (·.2))∧gN q.2.1 q.2.2∧0≤words∧words≤500*(q.1:Int)∧q.1≤L.length) (fun q=>L.length-q.1) (0,.slice none 0 0,.slice none 0 0) (.cons rfl (.cons rfl (.cons rfl (.cons rfl (.cons rfl .nil))))) ?_ ?_
 ·exact⟨_,0,hM,S,hv,il.Je (Z':=ZP w0.heap.size gM (.slice none 0 0) (.slice none 0 0)) (fun c hc dQ=>⟨hc.1,(fun h=>by have:=hc.2;omega),(fun h=>by cases h),(fun h=>by cases h)⟩),C5,yf,dz _ _ _ _ _,dz _ _ _ _ _,gN.nil _,by omega,by omega,bG _⟩
 ·clear hM S hv il;rintro⟨i,vi,vs⟩ w ⟨M2,words,hM,S,hv,il,g2,dD,eo,nD,ta,hw1,hw2,hi⟩;dsimp only at il g2 eo nD ta hw2 hi ⊢;refine aj (ae (cn rfl rfl rfl (ab (aj ?_))));refine bN rfl (fun c4=>?_) (fun c4=>?_)
  ·refine aT (aj (aZ (aj (ae ?_))));refine cE (M:=M2) ff EW rfl rfl rfl hv (aq _ _) (by omega) (fun u5 e IN C0=>?_);rw[ay]at IN;obtain⟨R3,Vy⟩:=Nk hok IN;have hem:=az IN;refine dg (M:=M2) (A:=RT.en) dG rfl EW (by decide) rfl rfl rfl C0 (aq _ _) (fun v5 pU=>?_);obtain⟨W2,Ox⟩:=Vr pU;refine rR (A:=RT.en) (M:=M2) EW rfl rfl rfl rfl rfl (by assumption) (aq _ _) hM (fun afL aqE wx D8 aqF=>?_);have:=ak g2;replace dD:=(D8.mem _ this).2 dD;replace g2:=D8.aK g2;replace hv:=hv.le D8.le;replace eo:=eo.aM D8;replace nD:=nD.aM D8;replace il:=il.aM D8;replace hM:=D8.lt hM;have:=S.size;replace S:=S.aB D8;refine ab (aj (aj (ae (ad rfl rfl ?_))));refine dg (M:=M2) (A:=RT.en) dG rfl EW (by decide) rfl rfl rfl wx (aq _ _) (fun v6 uU=>?_);refine aW rfl rfl E40 (Mo (Z:=ZP w0.heap.size gM vi vs) _ hM (fun k hk=>⟨by have:=S.size;omega,fun h=>by have:=ak g2;omega,fun h=>by have:=(eo.base k h).2;omega,fun h=>by have:=(nD.base k h).2;omega⟩) il (by have:=S.size;omega) uU (hl e hem) (fun x hx=>hF x (List.mem_of_mem_take hx)) (by simp;omega) (by omega)) (fun r6 w6 hc=>?_);obtain⟨M6,Ji,s6,rfl,_,Tc⟩:=hc;replace il:=Tc R3;have RH:(pC e).length≤500:=(hF e hem).many;refine aU (v':= .int .i64 0) (by rw[R3]) ?_;replace eo:=eo.step s6 (fun c hc h=>h.1.2.2.1 hc);replace nD:=nD.step s6 (fun c hc h=>h.1.2.2.2 hc);replace dD:=(s6.mem _ (ak g2)).2 dD;replace g2:=s6.keep g2 (fun h=>h.1.2.1 rfl);replace hv:=hv.le s6.le;replace wx:=wx.le (by decide) s6.le;replace S:=S.cf s6 (fun k hk=>hk.1.1);replace hM:=Ji;rw[Vy.symm]at il;refine ah rfl rfl (ab (aj (ae (ad rfl rfl (fe rfl rfl rfl (ab (T.wM rfl ((fun h=>h rfl)) (aT ?_))))))));have g2p:=g2;have ZM:=dD
   have ZI:=hv;have ZN:=il;have BQ:=eo;have Ny:=nD;have hMp:=hM;have Sp:=S;obtain⟨P6,hP6⟩:∃P6:Value→World→Prop,P6=fun v w'=>Own (RT.int .i64) 3 (mL v) w' w0.heap.size v ((L.take i).map (·.1.1)++[e.1.1])∧(∀c,v.ownBlock=some c→w6.heap.size≤c∨vi.ownBlock=some c):=⟨_,rfl⟩
   have h6:∀{v:Value} {w w':World},P6 v w→Step M6 w M6 w' aD→P6 v w':=fun {v w w'} h s=>by rw[hP6]at h ⊢;exact⟨h.1.R1 s (fun _ _ h=>h),h.2⟩
   apply T.R0 (M:=M6) [0,1,2,3,4,5,6,7,8,9,10,11,13,12,14,15,16] 13 12 37 (.pointer (some ⟨gM,0,none⟩)) [(6,fC vi)] [cJ.eq (.pointer (some ⟨gM,0,none⟩)),cJ.eq vi,cJ.ptr RT.dc e.1,cJ.ptr (RT.int .i64) e.1.1,cJ.eq (.int .i64 e.1.1),cJ.V ((RT.int .i64).sl) [e.1.1],(cJ.mk' (fun v w=>P6 v w) (fun h s=>h6 h s)),cJ.eq (.pointer (some ⟨gM,1,none⟩)),cJ.eq vs,cJ.ptr (RT.int .i64) e.2,cJ.eq (.int .i64 e.2),cJ.V ((RT.int .i64).sl) [e.2],cJ.eq (.pointer (some ⟨gM,0,none⟩))] mixed
   ·simp+decide only[xL,sf,eR,jY,jb,jc,fq,db,im,pR,cond_true,cond_false,Nat.reduceBEq,Nat.reduceAdd,beq_self_eq_true];rfl
   ·rfl
   ·rfl
   ·rfl
   ·rfl
   ·rfl
   ·rfl
   ·rfl
   ·rfl
   ·rfl
   ·rfl
   ·rfl
   ·exact fun ρ w h=>yJ (size:=1) (o:=0) (o':=0) bF rfl rfl j7 (by decide) (h (.tmp 5) _ rfl) w
   ·intro p hp b hb;simp only[cd,eF,or_false]at hp;subst hp;exact eo.mut_ b hb
   ·exact fun p hp=>by
     simp only[cd,eF,or_false]at hp;subst hp;show(6:Nat)≠12;decide
   ·exact uF.st (by exact⟨fun _ _ _ _=>trivial,⟨fun _ _ _ _=>trivial,⟨fun _ _ _ _=>trivial,⟨fun _ _ _ _=>trivial,⟨fun _ _ _ _=>trivial,⟨fun _ _ _ _=>trivial,⟨fun p hp b hb=>(by simp at hp),⟨fun _ _ _ _=>trivial,⟨fun _ _ _ _=>trivial,⟨fun _ _ _ _=>trivial,⟨fun _ _ _ _=>trivial,⟨fun _ _ _ _=>trivial,⟨fun _ _ _ _=>trivial,trivial⟩⟩⟩⟩⟩⟩⟩⟩⟩⟩⟩⟩⟩)
   intro wR9 sA9;have Nz:=sA9 M6;have:=ak g2;replace dD:=(Nz.mem _ this).2 dD;replace g2:=Nz.aK g2;replace hv:=hv.le Nz.le;replace wx:=wx.le (by decide) Nz.le;replace eo:=eo.aM Nz;replace nD:=nD.aM Nz;replace il:=il.aM Nz;replace hM:=Nz.lt hM;have:=S.size;replace S:=S.aB Nz;have g2R:=g2;have ZO:=eo;have aqH:=nD;have hz6:=Nz.size;refine⟨?_,?_⟩
   ·refine aF ?_ ?_
    ·intro wD E sD;replace sD:Step M6 _ M6 wD (fC vi):=sD;refine bO (o':=0) bF rfl rfl j7 (by decide) rfl rfl ?_;exact ab ⟨rfl,rfl,_,rfl,rfl,aw _ _⟩
    refine aF ?_ ?_
    ·intro wD E sD;replace sD:Step M6 _ M6 wD aD:=sD;refine aR (aP an rfl rfl rfl (sD.aK g2R) rfl ?_);exact ab ⟨rfl,rfl,_,rfl,rfl,aw _ _⟩
    refine aF ?_ ?_
    ·intro wD E sD;replace sD:Step M6 _ M6 wD (fC vi):=sD;refine aL (M:=M6) (A:=RT.en) (B:=RT.dc) dG rfl rfl ou (by decide) WN rfl rfl (by decide) wx sD.le (fun uf BL=>?_);exact ab ⟨rfl,rfl,_,rfl,BL,aw _ _⟩
    refine aF ?_ ?_
    ·intro wD E sD;replace sD:Step M6 _ M6 wD (fC vi):=sD;intro v2 CX;refine aL (M:=M6) (A:=RT.dc) (B:=RT.int .i64) a8 rfl rfl I3 (by decide) WM rfl rfl (by decide) (show cP RT.dc M6 wD v2 e.1 from CX) (aq _ _) (fun uf BL=>?_);exact ab ⟨rfl,rfl,_,rfl,BL,aw _ _⟩
    refine aF ?_ ?_
    ·intro wD E sD;replace sD:Step M6 _ M6 wD (fC vi):=sD;intro v3 zu;refine cb (M:=M6) ax rfl rfl (show cP (RT.int .i64) M6 wD v3 e.1.1 from zu) (aq _ _) (fun kg=>?_);exact ab ⟨rfl,rfl,_,rfl,rfl,aw _ _⟩
    refine aF ?_ ?_
    ·intro wD E sD;replace sD:Step M6 _ M6 wD aD:=sD;refine aR ?_;refine eg (A:=RT.int .i64) (hn:=by decide) (M:=M6) an I3 (by decide) rfl rfl (sD.lt hM) (fI W2) (.inr ⟨rfl,rfl⟩) (fun uS wS hS sS=>?_);exact ab ⟨rfl,rfl,_,rfl,hS,sS⟩
    refine aF ?_ ?_
    ·intro wD E sD;replace sD:Step M6 _ M6 wD aD:=sD;refine aR ?_;intro v5 pU;replace sD:Step M6 wR9 M6 wD aD:=sD;refine kx (M:=M6) (base:=w0.heap.size) an I3 rfl rfl rfl rfl (ZO.aM sD) (show((RT.int .i64).sl).V M6 wD [e.1.1] v5 from pU) (aq _ _) (by simp;omega) (by simp;omega) (by have:=sD.size;have:=S.size;omega) (fun vA wA hoA sA hFA=>?_);exact ab ⟨rfl,rfl,_,rfl,by show P6 vA wA;rw[hP6];exact⟨hoA.lone,fun c hc=>(hFA c hc).elim (fun h=> .inl (by have:=sD.size;omega)) .inr⟩,sA.back⟩
    refine aF ?_ ?_
    ·intro wD E sD;replace sD:Step M6 _ M6 wD (fC vi):=sD;refine bO (o':=1) bF rfl rfl j7 (by decide) rfl rfl ?_;exact ab ⟨rfl,rfl,_,rfl,rfl,aw _ _⟩
    refine aF ?_ ?_
    ·intro wD E sD;replace sD:Step M6 _ M6 wD (fC vi):=sD;refine aR (aP an rfl rfl rfl (sD.keep g2R (fun h=>ZO.eM g2R (by decide) h)) rfl ?_);exact ab ⟨rfl,rfl,_,rfl,rfl,aw _ _⟩
    refine aF ?_ ?_
    ·intro wD E sD;replace sD:Step M6 _ M6 wD (fC vi):=sD;refine aL (M:=M6) (A:=RT.en) (B:=RT.int .i64) dG rfl rfl I3 (by decide) Yg rfl rfl (by decide) wx sD.le (fun uf BL=>?_);exact ab ⟨rfl,rfl,_,rfl,BL,aw _ _⟩
    refine aF ?_ ?_
    ·intro wD E sD;replace sD:Step M6 _ M6 wD (fC vi):=sD;intro v9 Dj;refine cb (M:=M6) ax rfl rfl (show cP (RT.int .i64) M6 wD v9 e.2 from Dj) (aq _ _) (fun kg=>?_);exact ab ⟨rfl,rfl,_,rfl,rfl,aw _ _⟩
    refine aF ?_ ?_
    ·intro wD E sD;replace sD:Step M6 _ M6 wD (fC vi):=sD;refine aR ?_;refine eg (A:=RT.int .i64) (hn:=by decide) (M:=M6) an I3 (by decide) rfl rfl (sD.lt hM) (fI Ox) (.inr ⟨rfl,rfl⟩) (fun uS wS hS sS=>?_);exact ab ⟨rfl,rfl,_,rfl,hS,sS⟩
    refine aF ?_ ?_
    ·intro wD E sD;replace sD:Step M6 _ M6 wD (fC vi):=sD;refine aR (aR ?_);intro v2 CX;intro v3 zu;refine aR ?_;intro v5 pU;intro v6 uU;refine aR (aR (bO (o':=0) bF rfl rfl j7 (by decide) rfl rfl ?_));exact ab ⟨rfl,rfl,_,rfl,rfl,aw _ _⟩
    exact rU
   ·intro U4 MT;replace MT:Step M6 _ M6 U4 (fC vi):=MT;refine aR (aR ?_);intro ae5 Mt;intro aqJ alv;refine aR ?_;intro aqK alw;intro BR HT;refine aR (aR ?_);intro aqL alx;refine aR ?_;intro ZQ Gy;refine aR ?_;replace HT:P6 BR U4:=HT;rw[hP6]at HT;obtain⟨tJ,ZR⟩:=HT;replace Gy:((RT.int .i64).sl).V M6 U4 [e.2] ZQ:=Gy;have sX:Step M6 w6 M6 U4 (fC vi):=(Nz.cF (fun _ h=>h.elim) (fun b h=>BQ.mut_ b h)).trans MT (fun b _ h=>h);have ag4:=Ny.step sX (fun c hc h=>ta c h hc);refine kx (M:=M6) (base:=w0.heap.size) an I3 rfl rfl rfl rfl ag4 Gy (aq _ _) (by simp;omega) (by simp;omega) (by have:=Sp.size;have:=sX.size;omega) (fun v12 WI Qj zI Vz=>?_)
    have LW:∀c,BR.ownBlock=some c→vs.ownBlock≠some c:=fun c hc hv=>by
     rcases ZR c hc with h|h
     ·have:=(Ny.base c hv).2;omega
     ·exact ta c h hv
    have ZS:=tJ.R1 zI (fun c hc h=>LW c hc h)
    have ZT:gN v12 BR:=fun c hc ZU=>by
     rcases Vz c hc with h|h
     ·have:=(tJ.base c ZU).2;omega
     ·exact LW c ZU h
    have ag5:∀c,v12.ownBlock=some c→w6.heap.size≤c∨vs.ownBlock=some c:=fun c hc=>(Vz c hc).elim (fun h=> .inl (by have:=sX.size;omega)) .inr
    have sZ:Step M6 w6 (jh M6 v12) WI (fun k=>fC vi k∨fC vs k):=(sX.cF (fun _ h=> .inl h) (fun b h=>h.elim (BQ.mut_ b) (Ny.mut_ b))).trans zI (fun b _ h=> .inr h);obtain⟨Qk,Jq⟩:∃M',M'=jh (jh M6 v12) BR:=⟨_,rfl⟩;have sW:Step M6 w6 Qk WI (fun k=>fC vi k∨fC vs k):=by rw[Jq];exact sZ.ZF (fun c hc=>⟨(ZS.base c hc).2,(ZR c hc).elim .inl (fun h=> .inr (.inr (BQ.mut_ c h)))⟩)
    have eo:=ZS.Pd (M':=Qk) (by rw[Jq];exact fun b hb=> .inl hb);have nD:=Qj.Pd (M':=Qk) (by rw[Jq];exact fun b hb=> .inr (.inl hb));have dD:=(sW.mem _ (ak g2p)).2 ZM;have g2:=sW.keep g2p (fun h=>h.elim (BQ.eM g2p (by decide)) (Ny.eM g2p (by decide)));have il:=((ZN.Je (Z':=fun k=>ZP w0.heap.size gM vi vs k∧ZP w0.heap.size gM BR v12 k) (fun c hc dQ=>⟨hc,hc.1,hc.2.1,fun h=>(ZR c h).elim (fun h=>by omega) hc.2.2.1,fun h=>(ag5 c h).elim (fun h=>by omega) hc.2.2.2⟩)).step sW (fun k hk hz=>hk.elim hz.1.2.2.1 hz.1.2.2.2)).Je (Z':=ZP w0.heap.size gM BR v12) (fun c hc _=>hc.2);have hv:=ZI.le sW.le;have S:=Sp.cf sW (fun k hk=>hk.elim (fun h=>(BQ.base k h).1) (fun h=>(Ny.base k h).1));have hM:=sW.lt hMp;refine ab ⟨rfl,rfl,fun h=>absurd rfl h,?_⟩;refine cu (M:=Qk) j7 rfl rfl g2 rfl (by obtain⟨_,_,he,_⟩:=eo.isSlice;rw[he];rfl) dD (fun Uk g14 jQ=>?_);replace g14:Uk.heap[gM]? =some (.cells #[BR,vs,.slice none 0 0,.slice none 0 0] 72 (0,0)):=g14;replace eo:=eo.step jQ (fun c hc (h:c=gM)=>eo.eM g2 (by decide) (h▸hc));replace nD:=nD.step jQ (fun c hc (h:c=gM)=>nD.eM g2 (by decide) (h▸hc));replace dD:=(jQ.mem _ (ak g2)).2 dD;replace il:=il.step jQ (fun k (hk:k=gM) hz=>hz.2.1 hk);replace hv:=hv.le jQ.le;replace S:=S.cf jQ (fun k (hk:k=gM)=>by rw[hk];omega);replace hM:=jQ.lt hM;clear g2;have g2:=g14;refine ab ⟨rfl,rfl,fun h=>absurd rfl h,?_⟩;refine bO (o':=1) bF rfl rfl j7 (by decide) rfl rfl ?_;refine ab ⟨rfl,rfl,fun h=>absurd rfl h,?_⟩;refine cu (M:=Qk) j7 rfl rfl g2 rfl (by obtain⟨_,_,he,_⟩:=nD.isSlice;rw[he];rfl) dD (fun WZ g16 AO=>?_);replace g16:WZ.heap[gM]? =some (.cells #[BR,v12,.slice none 0 0,.slice none 0 0] 72 (0,0)):=g16;replace eo:=eo.step AO (fun c hc (h:c=gM)=>eo.eM g2 (by decide) (h▸hc));replace nD:=nD.step AO (fun c hc (h:c=gM)=>nD.eM g2 (by decide) (h▸hc));replace dD:=(AO.mem _ (ak g2)).2 dD
    replace il:=il.step AO (fun k (hk:k=gM) hz=>hz.2.1 hk);replace hv:=hv.le AO.le;replace S:=S.cf AO (fun k (hk:k=gM)=>by rw[hk];omega);replace hM:=AO.lt hM;clear g2;have g2:=g16;refine ab ⟨rfl,rfl,fun h=>absurd rfl h,?_⟩;refine mH (ae (bD rfl rfl rfl (by omega) (ad rfl rfl (ab ?_))));have et:L.take (i+1)=L.take i++[e]:=by rw[b9,IN,cK]
    rw[et]at il;refine⟨rfl,(i+1,BR,v12),(.cons rfl (.cons rfl (.cons rfl (.cons rfl (.cons rfl .nil))))),?_,?_⟩
    ·exact⟨_,_,hM,S,hv,by rw[et];exact il,g2,dD,by rw[et,dF];exact eo,by rw[et,dF];exact nD,ZT.symm,by omega,by dsimp only;omega,by dsimp only;omega⟩
    ·dsimp only;omega
  ·refine cI (aj (ae ?_));have hLi:L.take i=L:=bc (by omega);rw[hLi]at il eo nD;refine ad rfl rfl ?_;refine aW rfl rfl E41 (Gd _ hM il hF (by omega)) (fun rk w11 hc=>?_);obtain⟨AT,Jl⟩:=hc;have:=ak g2;replace dD:=(Jl.mem _ this).2 dD;replace g2:=Jl.aK g2;replace hv:=hv.le Jl.le;replace eo:=eo.aM Jl;replace nD:=nD.aM Jl;replace il:=il.aM Jl;replace hM:=Jl.lt hM;have:=S.size;replace S:=S.aB Jl;refine bO (o':=2) bF rfl rfl zt (by decide) rfl rfl ?_;refine cu (M:=M2) zt rfl rfl g2 rfl (mT AT rfl rfl) dD (fun Dl cU fD=>?_);change Dl.heap[_]? =some (Obj.cells #[vi,vs,rk,.slice none 0 0] _ _)at cU;have:=ak g2;replace dD:=(fD.mem _ this).2 dD;replace hv:=hv.le fD.le;replace AT:=AT.le fD.le;replace eo:=eo.step fD (fun c hc (h:c=gM)=>eo.eM g2 (by decide) (h▸hc));replace nD:=nD.step fD (fun c hc (h:c=gM)=>nD.eM g2 (by decide) (h▸hc));replace il:=il.stepT fD (by first|exact fun k hk=>by(obtain⟨cs,hc⟩:=fz.isCells hk;exact⟨cs,_,hc,by decide,by decide,by decide⟩)|exact fun k (hk:k=gM)=>⟨_,_,hk▸g2,by decide,by decide,by decide⟩);replace hM:=fD.lt hM;have:=S.size;replace S:=S.trans fD (fun k hk h=>by have h:_=_:=h;subst h;first|(exfalso;omega)|(show _≤_;omega)|exact⟨by first|omega|assumption,(S.mem _ hk).1 ((fD.mem _ (ak g2)).1 dD)⟩|exact .inl rfl|exact .inr rfl|exact .inr (.inl rfl)|exact .inr (.inr rfl)|exact .inr (.inr (.inl rfl))|exact rfl);have LF:=cU;clear g2;have g2:=LF;clear LF;refine ab (aj (aj (ae (bO (o':=2) bF rfl rfl zt (by decide) rfl rfl (aP aS rfl rfl rfl g2 rfl (aU (v':=rk) rfl (bR aS rfl AT rfl (ad rfl rfl (ab (aZ ?_))))))))));refine dn (σ:=Nat×Value) (fun q=>[(4,.pointer (some ⟨b1,0,none⟩)),(5,.pointer (some ⟨gM,0,none⟩)),(44,rk),(45,.int .i64 ((keysOf L).length:Int)),(46,.int .i64 (q.1:Int))]) (fun q w=>∃M',Lt M' w∧Step M w0 M' w aD∧nY (ZP w0.heap.size gM vi vs) M' w w0.heap.size b1 L words (mZ (-1) L)∧w.heap[gM]? =some (.cells #[vi,vs,rk,q.2] 72 (0,0))∧M' gM∧Own (RT.int .i64) 3 M' w w0.heap.size vi (L.map (·.1.1))∧Own (RT.int .i64) 3 M' w w0.heap.size vs (L.map (·.2))∧Own ((RT.po).sl) 80 M' w w0.heap.size q.2 (((keysOf L).take q.1).map (pk L))∧(RT.str.sl).V M' w (keysOf L) rk∧q.1≤(keysOf L).length) (fun q=>(keysOf L).length-q.1) (0,.slice none 0 0) (.cons rfl (.cons rfl (.cons rfl (.cons rfl (.cons rfl .nil))))) ?_ ?_
   ·exact⟨_,hM,S,il,g2,dD,eo,nD,dz _ _ _ _ _,AT,bG _⟩
   ·clear hM S il g2 dD eo nD AT hv;rintro⟨i3,vl⟩ w ⟨M3,hM,S,il,g2,dD,eo,nD,fz,AT,hi3⟩;dsimp only at g2 fz hi3 ⊢;refine aj (ae (cn rfl rfl rfl (ab (aj ?_))));refine bN rfl (fun Pw=>?_) (fun Pw=>?_)
    ·refine aT (aj (aZ (aj (ae ?_))));refine cE (M:=M3) aS I9 rfl rfl rfl AT (aq _ _) (by omega) (fun u14 k VA VB=>?_);rw[ay]at VA;refine bT (M:=M3) aJ rfl rfl rfl rfl rfl VB (aq _ _) (fun vk ku=>?_);obtain rfl:=iC ku;refine ah rfl rfl (ab ?_);apply T.pq 4 [0,1] 2 aD mixed rfl rfl rfl rfl;intro U1 MO;have pL:=MO M3;have:=ak g2;replace dD:=(pL.mem _ this).2 dD;replace g2:=pL.aK g2;replace AT:=AT.le pL.le;replace eo:=eo.aM pL;replace nD:=nD.aM pL;replace fz:=fz.aM pL;replace il:=il.aM pL;replace hM:=pL.lt hM;have:=S.size;replace S:=S.aB pL;refine bO (o':=3) bF rfl rfl BM (by decide) rfl rfl ?_;refine ab ⟨rfl,rfl,rfl,?_⟩;refine aP fR rfl rfl rfl (by first|assumption|exact cZ pL (by assumption)) rfl ?_;refine ab ⟨rfl,rfl,rfl,?_⟩;refine ad rfl rfl ?_;refine ab ⟨rfl,rfl,rfl,?_⟩;refine ad rfl rfl ?_;refine ab ⟨rfl,rfl,rfl,?_⟩;refine eQ ?_;refine⟨iH ⟨iF bF rfl BM (by decide),⟨eC rfl g2 (fun h=>h),trivial⟩⟩,?_⟩;have kp:=jC aD U1;refine aW rfl rfl E42 (Gf (k:=k) _ hM il hF (by omega) (by have:=PG k (az VA);omega)) (fun r15 w15 hc=>?_);obtain⟨Co,wX⟩:=hc;have:=ak g2;replace dD:=(wX.mem _ this).2 dD;replace g2:=wX.aK g2;replace AT:=AT.le wX.le;replace eo:=eo.aM wX;replace nD:=nD.aM wX;replace fz:=fz.aM wX;replace il:=il.aM wX;replace hM:=wX.lt hM;have:=S.size;replace S:=S.aB wX;refine(fun(kp:eJ _ _ _)=>ab ⟨rfl,rfl,fun _=>kp,?_⟩) (by first|exact kp|exact kp.qV (by assumption)|exact kp.goN (by assumption)|exact kp.go (by assumption) (fun _ _ h=>by first|exact h|exact h.elim));refine eg (A:=((RT.po).sl)) (hn:=by decide) (M:=M3) fR yB (by decide) rfl rfl hM (Co) (.inr ⟨rfl,rfl⟩) (fun aly RO yQ jW=>?_)
     have:=ak g2;replace dD:=(jW.mem _ this).2 dD;replace g2:=jW.aK g2;replace AT:=AT.le jW.le;replace Co:=Co.le jW.le;replace eo:=eo.aM jW;replace nD:=nD.aM jW;replace fz:=fz.aM jW;replace il:=il.aM jW;replace hM:=jW.lt hM;have:=S.size;replace S:=S.aB jW;refine(fun(kp:eJ _ _ _)=>ab ⟨rfl,rfl,fun _=>kp,?_⟩) (by first|exact kp|exact kp.qV (by assumption)|exact kp.goN (by assumption)|exact kp.go (by assumption) (fun _ _ h=>by first|exact h|exact h.elim));refine cX (M:=M3) (base:=w0.heap.size) fR yB rfl rfl rfl rfl fz yQ (aq _ _) (by simp;omega) (by simp;omega) (S.size) (fun HU ZV R4 VC gT=>?_);have:=ak g2;replace dD:=(gT.mem _ this).2 dD;replace g2:=gT.keep g2 (fun h=>by first|exact fz.ej g2 h|exact fz.eM g2 (by decide) h|(have:=(fz.base _ h).1;omega));replace AT:=AT.le gT.le;replace Co:=Co.le gT.le;replace yQ:=yQ.le gT.le;replace eo:=eo.step gT (fun b h1 h2=>eo.dx fz (by decide) h1 h2);replace nD:=nD.step gT (fun b h1 h2=>nD.dx fz (by decide) h1 h2);replace il:=il.stepT gT (by first|exact fun k hk=>by(obtain⟨cs,hc⟩:=fz.isCells hk;exact⟨cs,_,hc,by decide,by decide,by decide⟩)|exact fun k (hk:k=gM)=>⟨_,_,hk▸g2,by decide,by decide,by decide⟩);replace hM:=gT.lt hM;have:=S.size;replace S:=S.cV gT fz (aO _);replace fz:=VC;refine ab ⟨rfl,rfl,fun h=>absurd rfl h,?_⟩;refine bO (o':=3) bF rfl rfl BM (by decide) rfl rfl ?_;refine ab ⟨rfl,rfl,fun h=>absurd rfl h,?_⟩;refine cu (M:=ZV) BM rfl rfl g2 rfl (by obtain⟨_,_,he,_⟩:=fz.isSlice;rw[he];rfl) dD (fun ZW R5 qw=>?_);change ZW.heap[_]? =some (Obj.cells #[vi,vs,rk,HU] _ _)at R5;have:=ak g2;replace dD:=(qw.mem _ this).2 dD;replace AT:=AT.le qw.le;replace Co:=Co.le qw.le;replace yQ:=yQ.le qw.le;replace eo:=eo.step qw (fun c hc (h:c=gM)=>eo.eM g2 (by decide) (h▸hc))
     replace nD:=nD.step qw (fun c hc (h:c=gM)=>nD.eM g2 (by decide) (h▸hc));replace fz:=fz.step qw (fun c hc (h:c=gM)=>fz.eM g2 (by decide) (h▸hc));replace il:=il.stepT qw (by first|exact fun k hk=>by(obtain⟨cs,hc⟩:=fz.isCells hk;exact⟨cs,_,hc,by decide,by decide,by decide⟩)|exact fun k (hk:k=gM)=>⟨_,_,hk▸g2,by decide,by decide,by decide⟩);replace hM:=qw.lt hM;have:=S.size;replace S:=S.trans qw (fun k hk h=>by have h:_=_:=h;subst h;first|(exfalso;omega)|(show _≤_;omega)|exact⟨by first|omega|assumption,(S.mem _ hk).1 ((qw.mem _ (ak g2)).1 dD)⟩|exact .inl rfl|exact .inr rfl|exact .inr (.inl rfl)|exact .inr (.inr rfl)|exact .inr (.inr (.inl rfl))|exact rfl);have LF:=R5;clear g2;have g2:=LF;clear LF;refine ab ⟨rfl,rfl,fun h=>absurd rfl h,?_⟩;refine mH (ae (bD rfl rfl rfl (by omega) (ad rfl rfl (ab ?_))));refine⟨rfl,(i3+1,HU),(.cons rfl (.cons rfl (.cons rfl (.cons rfl (.cons rfl .nil))))),?_,?_⟩
     ·exact⟨_,hM,S,il,g2,dD,eo,nD,by rw[b9,VA,cK,dF];exact fz,AT,by dsimp only;omega⟩
     ·dsimp only;omega
    ·refine cI (aj (ae (iq (vs:=[vi,vs,rk,vl]) bF rfl Cr rfl rfl rfl g2 ?_)));rw[bc (by omega)]at fz;have PY:RT.pa.V M _ (fB L) _:=Uz (x:=fB L) (eo.close kr S (by show(L.map _).length≤_;rw[aH];omega)) (nD.close kr S (by show(L.map _).length≤_;rw[aH];omega)) (AT.le (Le.close kr S)) (fz.close kr S (by show((keysOf L).map _).length≤_;rw[aH];omega));replace S:=S.back;replace hM:=S.lt kr;refine aW rfl rfl E43 (yI (p:=fB L) _ hM PY (HR hF (by omega))) (fun r17 Vh hc=>?_);obtain⟨vg,NA,_⟩:=hc;obtain⟨sg,rfl,x8⟩:=NA (Nl hok (by omega));replace S:=S.aB vg;refine bV rfl rfl rfl (bV rfl rfl rfl (ah rfl rfl (ah rfl rfl (ab (aQ ?_)))));exact eS rfl rfl rfl ⟨sg,rfl,x8,S⟩
end Go.K
namespace Go.K
open Go.Proofs
set_option maxRecDepth 10000
theorem vu {id:Int}:∀(fs:List Fd) (i:Nat) (out:List Fd),lK (id,out)=0→lK (id,nU id i out fs)=0
 |[],_,_,h=>h
 |x::fs,i,out,h=>by
  unfold nU
  split
  ·split
   ·rename_i h1;exact vu fs _ _ h1
   ·exact vu fs _ _ h
  ·exact h
theorem o0 {id:Int}:∀(fs:List Fd) (i:Nat) (out:List Fd),sC out→sC (nU id i out fs)
 |[],_,_,h=>h
 |x::fs,i,out,h=>by
  unfold nU
  split
  ·rename_i hi
   split
   ·exact o0 fs _ _ (h.snoc (yk x hi))
   ·exact o0 fs _ _ h
  ·exact h
theorem Jr (d:Dc):lK (px d)=0:=vu d.2 0 [] rfl
theorem D9 (d:Dc):sC (px d).2:=o0 d.2 0 [] (fun x h=>by cases h)
theorem Ea {e:En}:∀{L:List En} {last:Int},sJ last (L++[e])=(sJ last L&&decide (mM (mZ last L) e=0))
 |[],last=>by show(decide (mM last e=0)&&true)=(true&&decide (mM last e=0));rw[Bool.and_true,fp]
 |x::L,last=>by rw[kF];show(decide (mM last x=0)&&sJ x.2 (L++[e]))=(decide (mM last x=0)&&sJ x.2 L&&decide (mM (mZ x.2 L) e=0));rw[Ea (L:=L),Bool.and_assoc]
theorem yR {e:En}:∀{L:List En} {last:Int},mZ last (L++[e])=e.2
 |[],_=>rfl
 |x::L,last=>by simp only[kF,mZ];exact yR
theorem Eb (l:List Dc) {a s:Int} (ha:0≤a) (hs:1≤s):∀k,sJ (-1) (ep l a s k)=true∧mZ (-1) (ep l a s k)<a+s*(k:Int)
 |0=>⟨rfl,by show(-1:Int)<_;simp;omega⟩
 |k+1=>by
  obtain⟨h1,h2⟩:=Eb l ha hs k;have e1:a+s*((k+1:Nat):Int)=a+s*(k:Int)+s:=by rw[Int.natCast_add,Int.mul_add];simp;omega
  cases h:l[k]? with
  |none=>rw[yq (List.getElem?_eq_none_iff.1 h),e1];exact⟨h1,by omega⟩
  |some d=>
   rw[yp h,Ea,yR,h1,e1]
   have:mM (mZ (-1) (ep l a s k)) (px d,a+s*(k:Int))=0:=by
    unfold mM;rw[if_neg (fun h=>h (Jr d)),if_neg (by show¬(a+s*(k:Int)≤_);omega)]
   exact⟨by rw[this];rfl,by show a+s*(k:Int)<_;omega⟩
theorem AU {l:List Dc} {a s:Int}:∀{k:Nat} {e:En},e∈ep l a s k→∃d,e.1=px d
 |0,e,h=>by cases h
 |k+1,e,h=>by
  rw[ep]at h;rcases cq.1 h with h|h
  ·exact AU h
  ·split at h
   ·rename_i d _;rw[bH.1 h];exact⟨d,rfl⟩
   ·cases h
theorem Gz {l:List Dc} {a s:Int} {k:Nat}:∀e∈ep l a s k,∀f∈e.1.2,f.1.length≤900000∧f.2.length≤900000:=fun e he f hf=>by
 obtain⟨d,hd⟩:=AU he;rw[hd]at hf;have:=D9 d f hf;omega
end Go.K

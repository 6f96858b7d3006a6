/- What the law 'MergeBuilds' needs of walks and plain Lean, part 4: nothing is assumed beyond the texts that it imports. -/
import Derived.KernelRfl
import Derived.Laws.StructEq
import Derived.Test.YtbobcaffmbaadaaGreatDoorProg
import Derived.Test.YtbobcaffmbaadaaGreatDoorZMergeBuilds1
import Derived.Test.YtbobcaffmbaadaaGreatDoorZMergeBuilds2
import Derived.Test.YtbobcaffmbaadaaGreatDoorZMergeBuilds3
set_option linter.unusedVariables false
set_option linter.unusedSimpArgs false
namespace Go.K
open Go.Proofs
namespace TKBldE
theorem x7:TI Tryz.prog 80 (.slice none 0 0) 1 24:=by unfold TI;kernel_rfl
theorem Ht:TI Tryz.prog 151 (.map none) 1 8:=by unfold TI;kernel_rfl
theorem Re:Enters Tryz.prog 51:=enters Tryz.func51 rfl (by decide)
theorem E90:Enters Tryz.prog 90:=enters Tryz.func90 rfl (by decide)
theorem E91:Enters Tryz.prog 91:=enters Tryz.func91 rfl (by decide)
end TKBldE
open TKBldE
set_option maxRecDepth 10000
theorem fI.IV {P:Program} {kt:TypeId} {w:World} {b clock:Nat} {es:List MapEntry} (hk:P.underlying kt=some .string) (h:fI P kt w b es clock):∃ks:List (List UInt8),es.map (·.key)=ks.map sv∧ks.Nodup:=by
 have key:∀es:List MapEntry,(∀e∈es,∃l,keyOf P kt e.key=some l)→∃ks:List (List UInt8),es.map (·.key)=ks.map sv:=by
  intro es
  induction es with
  |nil=>exact fun _=>⟨[],rfl⟩
  |cons e es ih=>
   intro h;obtain⟨ks,h1⟩:=ih fun x hx=>h x (b9 _ hx)
   obtain⟨l,hl⟩:=h e (bH ..);obtain⟨x,h3,_,h4⟩:=Maps.keyOf_str hk hl;exact⟨x::ks,by simp only[eQ,h1,h3]⟩
 obtain⟨ks,h1⟩:=key es h.ok;refine⟨ks,h1,?_⟩;have h3:=cx.2 h.keys;rw[h1]at h3;exact(cx.1 h3).imp fun h e=>h (by rw[e])
theorem EX {M:aD} {w:World}:∀{l:List (List UInt8)},(∀x∈l,x.length≤140737488355328)→eg RT.str M w l (l.map Go.Proofs.encStr)
 |[],_=>rfl
 |x::l,h=>⟨[.string ⟨x.toArray⟩],_,rfl,⟨rfl,h x (bH ..)⟩,EX fun y hy=>h y (b9 _ hy)⟩
theorem N1 (M:aD) (w:World) (M':aD) (w':World) (x:List UInt8) (vs:List Value) (h:RT.str.R M w x vs):RT.str.R M' w' x vs:=h
theorem xA {L:List En} (hF:∀x∈L,lf x.1):∀k∈iO L,k.length≤43:=fun k hk=>by
 obtain⟨e,he,h1⟩:=vN.1 hk;obtain⟨t,ht,rfl⟩:=bV.1 h1;have:=(hF e he).term ht;unfold gL;simp;omega
theorem oT {L:List En} (hF:∀x∈L,lf x.1):(iO L).length≤500*L.length:=by
 induction L with
 |nil=>simp[iO]
 |cons e L ih=>
  have h1:=ih fun x hx=>hF x (b9 _ hx)
  have h2:=BM (hF e (bH ..));show((dj (qe e)).map gL++iO L).length≤_;rw[a8,aH,cI];have h2:(dj (qe e)).length≤500:=h2;omega
theorem Hy {Z M:aD} {B b:Nat} {L:List En} {words last:Int} (w0:World) (hM:Lt M w0) (hb:oS Z M w0 B b L words last) (hF:∀x∈L,lf x.1) (hLn:L.length≤1000000):
  Spec Tryz.prog 41 #[.pointer (some ⟨b,0,none⟩)] w0 (fun v w=>(RT.str.sl).V M w (keysOf L) v∧Step M w0 M w aC):=by
 obtain⟨mb,vl,es,clock,gb,eo,fm,hB,IQ,ho,hW,hR,zl⟩:=hb;obtain⟨ks,QW,o6⟩:=hW.IV aK
 have eV:∀x,x∈ks↔x∈iO L:=fun x=>by
  rw[←hR.k x];constructor
  ·intro hx;have:sv x∈es.map (·.key):=by rw[QW];exact ib hx
   obtain⟨e,he,h⟩:=bV.1 this;exact⟨e,he,h⟩
  ·rintro⟨e,he,h⟩;have:sv x∈ks.map sv:=by rw[←QW,←h];exact ib he
   obtain⟨y,hy,h1⟩:=bV.1 this;rw[←CI h1];exact hy
 have Hz:ks.length≤500000000:=by
  have h1:=o6.length_le_of_subset (l₂:=iO L) (fun x hx=>(eV x).1 hx);have h2:=oT hF;omega
 have hen:es.length=ks.length:=by have:=congrArg List.length QW;simpa using this
 refine bg (args:=[_]) (fn:=Tryz.f41) Tryz.func41 rfl (n:=9) Tryz.ntmps41 ?_;have S:Step M w0 M w0 aC:=(au _ _).cB (fun _ h=>h.elim) (fun _ h=>h.elim);refine aj (ae (ah rfl rfl (ab (aj (ae (ad rfl rfl (bT rfl ⟨_,rfl⟩ rfl (bJ (o':=1) dX rfl rfl Ht (by decide) rfl rfl (aN iQ rfl rfl rfl gb rfl (aU (v':= .map (some mb)) rfl ?_))))))))));refine aX rfl rfl E91 (Hq _ _) (fun r w1 hc=>?_);obtain⟨rfl,hw1⟩:=hc;have s1:Step M w0 M w1 aC:=by rw[hw1];exact cW _ w0 _
 have Nv:=AZ hw1;have:=ak gb;replace eo:=(s1.mem _ this).2 eo;replace gb:=s1.aL gb;replace fm:=(s1.mem _ (ak hW.at_)).2 fm;replace hW:=hW.aO s1;replace hM:=s1.lt hM;have:=S.size;replace S:=S.aB s1;obtain⟨m,hO,EY,qy⟩:=hW.agz aK fm (by unfold maxLen;omega) ks QW;refine aX rfl rfl E90 (CL hO Nv (by omega)) (fun r2 w2 hc=>?_);obtain⟨⟨ss,hss,qj,_⟩,s2⟩:=hc;have UB:ss.Perm ks:=hss.trans EY;have hmp:=jo ss fun x y=>decide (x≤y)
 have qb:(ss.mergeSort fun x y=>decide (x≤y))=keysOf L:=VT (Kb (UB.nodup_iff.2 o6)) (lv L) fun x=>by rw[hmp.mem_iff,UB.mem_iff,eV,jA]
 have hlen:ss.length=(keysOf L).length:=by rw[←qb,List.length_mergeSort]
 rw[qb,hlen]at qj;have ahc:∀x∈keysOf L,x.length≤140737488355328:=fun x hx=>by have:=xA hF x (jA.1 hx);omega
 have vV:Own RT.str 9 (nt r2) w2 w1.heap.size r2 (keysOf L):=⟨⟨_,qj,EX ahc⟩,fun b hb=>hb⟩;have Bv:(RT.str.sl).V M w2 (keysOf L) r2:=vV.tell N1 (fun b hb h=>by have:=(vV.base b hb).1;have:=hM b h;omega) (by have:=UB.length_eq;omega);have:=ak gb;replace eo:=(s2.mem _ this).2 eo;replace gb:=s2.aL gb;replace fm:=(s2.mem _ (ak hW.at_)).2 fm;replace hW:=hW.aO s2;replace hM:=s2.lt hM;have:=S.size;replace S:=S.aB s2;refine ah rfl rfl (ab (aP ?_));exact aV rfl rfl ⟨Bv,S⟩
theorem HA {Z M:aD} {B b:Nat} {L:List En} {words last:Int} {k:List UInt8} (w0:World) (hM:Lt M w0) (hb:oS Z M w0 B b L words last) (hF:∀x∈L,lf x.1) (hLn:L.length≤1000000) (Dw:k.length≤140737488355328):
  Spec Tryz.prog 42 #[.pointer (some ⟨b,0,none⟩),sv k] w0 (fun v w=>(RT.po.sl).V M w (pk L k) v∧Step M w0 M w aC):=by
 have jO:=hM;obtain⟨mb,vl,es,clock,gb,eo,fm,hB,IQ,ho,hW,hR,zl⟩:=hb;obtain⟨kl,GA⟩:=NI k Dw;obtain⟨tS,Wg⟩:=qR k L 0 hF;replace tS:(pk L k).length≤L.length:=tS;replace Wg:∀p∈pk L k,_:=Wg;refine bg (args:=[_,_]) (fn:=Tryz.f42) Tryz.func42 rfl (n:=30) Tryz.ntmps42 ?_;have S:Step M w0 M w0 aC:=(au _ _).cB (fun _ h=>h.elim) (fun _ h=>h.elim);refine aj (ae (ah rfl rfl (ab (aj (ae (ah rfl rfl (ab (aj (aj (ae (ad rfl rfl ?_)))))))))));refine bT rfl ⟨_,rfl⟩ rfl (bJ (o':=1) dX rfl rfl Ht (by decide) rfl rfl (aN iQ rfl rfl rfl gb rfl (aU (v':= .map (some mb)) rfl (ad rfl rfl ?_))));refine Rg.uG iQ uR x7 rfl rfl rfl GA hW (fun K8 lG=>?_);have sM:=hR.o _ _ lG;have tV:∀c,K8.ownBlock=some c→c<w0.heap.size:=fun c hc=>(sM.base c hc).2
 clear hR hW ho;refine fS bA rfl sM rfl (ad rfl rfl (ab (aY ?_)));refine dh (σ:=Nat×Value) (fun q=>[(5,q.2),(13,K8),(14,.int .i64 ((pk L k).length:Int)),(15,.int .i64 (q.1:Int))]) (fun q w=>∃M',Lt M' w∧Step M w0 M' w aC∧Own RT.po 83 M' w w0.heap.size q.2 ((pk L k).take q.1)∧Own RT.po 83 M' w B K8 (pk L k)∧q.1≤(pk L k).length) (fun q=>(pk L k).length-q.1) (0,.slice none 0 0) (.cons rfl (.cons rfl (.cons rfl (.cons rfl .nil)))) ?_ ?_
 ·exact⟨M,hM,S,dz _ _ _ _ _,sM,bD _⟩
 ·clear hM S sM;rintro⟨i,u⟩ w ⟨M1,hM,S,hu,sM,hi⟩;dsimp only at hu hi ⊢;refine aj (ae (cg rfl rfl rfl (ab (aj ?_))));refine bM rfl (fun c3=>?_) (fun c3=>?_)
  ·refine aT (aj (aY (aj (ae ?_))));refine Rg.agM bA l4 (by decide) rfl rfl rfl sM (by omega) (fun u4 p xo Ge=>?_);rw[ay]at xo;have hp:=Wg p (az xo);refine Rg.NH (A:=RT.po) bK rfl l4 rfl rfl rfl Ge (fun v4 nv=>?_);refine yf (A:=RT.po) (M:=M1) l4 rfl rfl rfl rfl rfl (by assumption) (aq _ _) hM (fun Zm QC oL mQ ahd=>?_);replace hu:=hu.aO mQ;replace sM:=sM.aO mQ;replace hM:=mQ.lt hM;have:=S.size;replace S:=S.aB mQ;refine ab ?_;apply T.oG 5 [0,1,2] 3 aC mixed rfl rfl rfl rfl;intro wD5 sA5;have Rf:=sA5 M1;replace oL:=oL.le (by decide) Rf.le;replace hu:=hu.aO Rf;replace sM:=sM.aO Rf;replace hM:=Rf.lt hM;have:=S.size;replace S:=S.aB Rf;refine ad rfl rfl ?_;refine ab ⟨rfl,rfl,rfl,?_⟩;refine aQ (M:=M1) (A:=RT.po) (B:=RT.int .i64) bK rfl rfl I3 (by decide) (PO) rfl rfl (by decide) (by assumption) (by repeat (first|exact aq _ _|refine bc (bF (by assumption)) ?_)) (fun af1 SP=>?_);refine ab ⟨rfl,rfl,rfl,?_⟩;refine cd (M:=M1) ax rfl rfl (by assumption) (by repeat (first|exact aq _ _|refine bc (bF (by assumption)) ?_)) (fun aat=>?_);refine ab ⟨rfl,rfl,rfl,?_⟩;refine aQ (M:=M1) (A:=RT.po) (B:=(RT.int .i64).sl) bK rfl rfl jY (by decide) (UP) rfl rfl (by decide) (by assumption) (by repeat (first|exact aq _ _|refine bc (bF (by assumption)) ?_)) (fun afL IB=>?_);refine ab ⟨rfl,rfl,rfl,?_⟩;refine bU (M:=M1) ao rfl rfl rfl rfl rfl (by assumption) (by repeat (first|exact aq _ _|refine bc (bF (by assumption)) ?_)) (fun arf aau=>?_);refine ab ⟨rfl,rfl,rfl,?_⟩;refine eD ?_;obtain⟨bb,oo,cs,ee,fr,rfl,lC,_⟩:=SP.float;refine⟨ik ⟨eW,⟨iJ bK rfl I3 (by decide),⟨ey rfl lC (fun h=>h),trivial⟩⟩⟩,?_⟩
   have kp:=jl aC wD5;refine aX rfl rfl Re (qS hM aau (by omega)) (fun v5 w5 hc=>?_);obtain⟨ox,s5⟩:=hc;replace oL:=oL.le (by decide) s5.le;replace hu:=hu.aO s5;replace sM:=sM.aO s5;replace hM:=s5.lt hM;have:=S.size;replace S:=S.aB s5;refine(fun(kp:eJ _ _ _)=>ab ⟨rfl,rfl,fun _=>kp,?_⟩) (by first|exact kp|exact kp.ry (by assumption)|exact kp.goN (by assumption)|exact kp.go (by assumption) (fun _ _ h=>by first|exact h|exact h.elim));refine iM (places:=[(0,1),(1,1)]) bK l4 Y6 rfl ⟨_,_,rfl,rfl,_,_,rfl,rfl,rfl⟩ (out:=[_,_]) ⟨0,[_],rfl,rfl,by simp[Value.cells],1,[_],rfl,jE ox,by simp[Value.cells],rfl⟩ ?_;have Dz:RT.po.V M1 _ p _:=fg (gv aat) ox rfl rfl rfl rfl;refine(fun(kp:eJ _ _ _)=>ab ⟨rfl,rfl,fun _=>kp,?_⟩) (by first|exact kp|exact kp.ry (by assumption)|exact kp.goN (by assumption)|exact kp.go (by assumption) (fun _ _ h=>by first|exact h|exact h.elim));refine eu (A:=RT.po) (hn:=by decide) (M:=M1) bA l4 (by decide) rfl rfl hM (Dz) (.inl rfl) (fun arh ari N2 Ki=>?_);replace oL:=oL.le (by decide) Ki.le;replace ox:=ox.le Ki.le;replace hu:=hu.aO Ki;replace sM:=sM.aO Ki;replace hM:=Ki.lt hM;have:=S.size;replace S:=S.aB Ki;refine(fun(kp:eJ _ _ _)=>ab ⟨rfl,rfl,fun _=>kp,?_⟩) (by first|exact kp|exact kp.ry (by assumption)|exact kp.goN (by assumption)|exact kp.go (by assumption) (fun _ _ h=>by first|exact h|exact h.elim));refine cV (M:=M1) (base:=w0.heap.size) bA l4 rfl rfl rfl rfl hu N2 (aq _ _) (by simp;omega) (by simp;omega) (S.size) (fun ahe ahf arj aav Kj=>?_);replace oL:=oL.le (by decide) Kj.le;replace ox:=ox.le Kj.le;replace N2:=N2.le Kj.le;replace sM:=sM.step Kj (fun c hc h=>by have:=tV c hc;have:=(hu.base c h).1;omega);replace hM:=Kj.lt hM;have:=S.size;replace S:=S.cX Kj hu (aR _);replace hu:=aav;refine ab ⟨rfl,rfl,fun h=>absurd rfl h,?_⟩
   refine ah rfl rfl ?_;refine ab ⟨rfl,rfl,fun h=>absurd rfl h,?_⟩;refine lJ (ae (bG rfl rfl rfl (by omega) (ad rfl rfl (ab ?_))));refine⟨rfl,(i+1,ahe),(.cons rfl (.cons rfl (.cons rfl (.cons rfl .nil)))),?_,?_⟩
   ·exact⟨ahf,hM,S,by rw[bI,xo,cJ];exact hu,sM,by dsimp only;omega⟩
   ·dsimp only;omega
  ·refine cH (aj (ae (ad rfl rfl (ah rfl rfl (ab (aP ?_))))));rw[aW (by omega)]at hu;exact aV rfl rfl ⟨hu.close jO S (by omega),S.back⟩
end Go.K
namespace Go.K
open Go.Proofs
namespace TKBldF
theorem ahg:TI Tryz.prog 198 (.agg #[(.slice none 0 0),(.slice none 0 0)]) 2 48:=by unfold TI;kernel_rfl
theorem ahh:placesOf Tryz.prog 198=[(0,1),(1,1)].map some:=by kernel_rfl
theorem ahi:Enters Tryz.prog 198:=enters Tryz.func198 rfl (by decide)
theorem ahj:Enters Tryz.prog 199:=enters Tryz.func199 rfl (by decide)
theorem ahk:Enters Tryz.prog 200:=enters Tryz.func200 rfl (by decide)
end TKBldF
open TKBldF
set_option maxRecDepth 10000
def EZ:Option (List UInt8)→List (List UInt8)→Bool
 |_,[]=>true
 |o,x::l=>(match o with|none=>true|some a=>decide (a<x))&&EZ (some x) l
theorem zL {l:List (List UInt8)} {k:Nat} {x:List UInt8} (h:l[k]? =some x) (o:Option (List UInt8)):EZ o (l.drop k)=((match o with|none=>true|some a=>decide (a<x))&&EZ (some x) (l.drop (k+1))):=by
 obtain⟨dY,he⟩:=an.1 h;rw[dH dY,he];rfl
theorem E0 {a:List UInt8}:∀{l:List (List UInt8)},EH (a::l)→EZ (some a) l=true
 |[],_=>rfl
 |x::l,h=>by
  have h':=eC.1 h;simp only[EZ,bX,decide_eq_true_eq];exact⟨h'.1 x (bH ..),E0 h'.2⟩
theorem Wh:∀{l:List (List UInt8)},EH l→EZ none l=true
 |[],_=>rfl
 |x::l,h=>by simp only[EZ,ff];exact E0 h
theorem Kl {M:aD} {v:Value} {l:List Int} (w0:World) (hv:((RT.int .i64).sl).V M w0 l v):
  Spec Tryz.prog 143 #[v] w0 (fun v' w'=>v'= .bool (eG (-1) l)∧w'=w0):=by
 have hlen:=dD hv;refine bg (args:=[_]) (fn:=Tryz.f143) Tryz.func143 rfl (n:=28) Tryz.ntmps143 (aj (ae (ah rfl rfl (ab (aj (aj (ae (ad rfl rfl (bN ao rfl hv rfl (ad rfl rfl (ab ?_)))))))))));refine aY ?_;refine dh (σ:=Nat×Int) (fun s=>[(0,v),(5,v),(6,.int .i64 l.length),(7,.int .i64 s.1)]) (fun s w=>w=w0∧s.1≤l.length∧eG (-1) l=eG s.2 (l.drop s.1)∧ -1≤s.2∧(s.1=0→s.2= -1)∧(0<s.1→l[s.1-1]? =some s.2)) (fun s=>l.length-s.1) (0,-1) (.cons rfl (.cons rfl (.cons rfl (.cons rfl .nil)))) ?_ ?_
 ·exact⟨rfl,bD _,rfl,by decide,fun _=>rfl,fun h=>absurd h (jC 0)⟩
 ·rintro⟨k,last⟩ w1 ⟨rfl,hk,hr,Yi,h0,h1⟩;dsimp only at hk hr Yi h0 h1 ⊢;refine aj (ae (cg rfl rfl rfl (ab (aj ?_))));refine bM rfl (fun c2=>?_) (fun c2=>?_)
  ·refine aT (aj (aY (aj (ae (ad rfl rfl ?_)))));obtain⟨x,hx⟩:∃x,l[k]? =some x:=⟨_,ar (by omega)⟩;refine cv (M:=M) ao I3 rfl rfl rfl hv (aq _ _) (by omega) (fun u a hg hu=>?_);obtain rfl:x=a:=dJ (aF (hg.symm.trans (by simpa using hx)));refine cd (M:=M) ax rfl rfl hu (aq _ _) (fun inx=>?_);refine ah rfl rfl (ah rfl rfl (ab (aj (ae (ad rfl rfl (cg rfl rfl rfl (ad rfl rfl ?_)))))));refine aS (g:=14) rfl (fun l7=>?_) (fun l7=>?_)
   ·refine aw rfl rfl rfl rfl (aw rfl rfl rfl rfl (aw rfl rfl rfl rfl (cu rfl rfl rfl (cu rfl rfl rfl (cu rfl rfl rfl (cu rfl rfl rfl (cu rfl rfl rfl (cu rfl rfl rfl (cu rfl rfl rfl (aw rfl rfl rfl rfl (aZ rfl rfl rfl ?_)))))))))));refine ab (ot rfl (aj (ae (ah rfl rfl (ab (aP ?_))))));refine aV rfl rfl ⟨congrArg Value.bool (dJ ?_),rfl⟩;rw[hr,gH hx,decide_eq_false (show¬last<x by omega),kX]
   ·refine al rfl rfl (ad rfl rfl (al rfl rfl (jk rfl rfl rfl (al rfl rfl (ad rfl rfl ?_)))));refine aS (g:=17) rfl (fun wz=>?_) (fun wz=>?_)
    ·refine al rfl rfl (ad rfl rfl (al rfl rfl (ad rfl rfl (al rfl rfl (ad rfl rfl (al rfl rfl (fv rfl rfl rfl (by omega) (al rfl rfl ?_))))))));refine cv (M:=M) ao I3 rfl rfl rfl hv (aq _ _) (by omega) (fun u2 a hg sw=>?_);obtain rfl:last=a:=dJ (aF (hg.symm.trans (by rw[show((k:Int)-1).toNat=k-1 from by omega];exact h1 (by omega))));refine al rfl rfl ?_;refine cd (M:=M) ax rfl rfl sw (aq _ _) (fun inl=>?_);refine al rfl rfl (gQ rfl rfl rfl (al rfl rfl (aZ rfl rfl rfl (aE rfl rfl rfl (ab ?_)))));refine bM rfl (fun c4=>?_) (fun c4=>?_)
     ·refine aj (ae (ah rfl rfl (ab (aP ?_))));refine aV rfl rfl ⟨congrArg Value.bool (dJ ?_),rfl⟩;rw[hr,gH hx,decide_eq_false (show¬last<x by omega),kX]
     ·refine aT (ae (bG rfl rfl rfl (by omega) (ad rfl rfl (ab ?_))));refine⟨rfl,(k+1,x),(.cons rfl (.cons rfl (.cons rfl (.cons rfl .nil)))),?_,?_⟩
      ·refine⟨rfl,by simp only;omega,?_,by simp only;omega,fun h=>by simp at h,fun _=>by simpa using hx⟩;rw[hr,gH hx,decide_eq_true (show last<x by omega),ff]
      ·simp only;omega
    ·refine aw rfl rfl rfl rfl (aw rfl rfl rfl rfl (aw rfl rfl rfl rfl (aw rfl rfl rfl rfl (aw rfl rfl rfl rfl (aw rfl rfl rfl rfl (aw rfl rfl rfl rfl (al rfl rfl (aE rfl rfl rfl (aE rfl rfl rfl (ab (jD rfl ?_)))))))))));refine aT (ae (bG rfl rfl rfl (by omega) (ad rfl rfl (ab ?_))));refine⟨rfl,(k+1,x),(.cons rfl (.cons rfl (.cons rfl (.cons rfl .nil)))),?_,?_⟩
     ·refine⟨rfl,by simp only;omega,?_,by simp only;omega,fun h=>by simp at h,fun _=>by simpa using hx⟩;rw[hr,gH hx,decide_eq_true (show last<x by omega),ff]
     ·simp only;omega
  ·refine cH (aj (ae (ah rfl rfl (ab (aP ?_)))));refine aV rfl rfl ⟨congrArg Value.bool (dJ ?_),rfl⟩;rw[hr,fB (by omega)];rfl
theorem E1 {M:aD} {v:Value} {l:List (List UInt8)} (w0:World) (hv:(RT.str.sl).V M w0 l v):
  Spec Tryz.prog 198 #[v] w0 (fun v' w'=>v'= .bool (EZ none l)∧w'=w0):=by
 have hlen:=dD hv;refine bg (args:=[_]) (fn:=Tryz.f198) Tryz.func198 rfl (n:=24) Tryz.ntmps198 (aj (ae (ah rfl rfl (ab (aj (aj (ae (ad rfl rfl (bN aJ rfl hv rfl (ad rfl rfl (ab ?_)))))))))));refine aY ?_;refine dh (σ:=Nat×Option (List UInt8)) (fun s=>[(0,v),(5,v),(6,.int .i64 l.length),(7,.int .i64 s.1)]) (fun s w=>w=w0∧s.1≤l.length∧EZ none l=EZ s.2 (l.drop s.1)∧(s.1=0→s.2=none)∧(0<s.1→∃a,s.2=some a∧l[s.1-1]? =some a)) (fun s=>l.length-s.1) (0,none) (.cons rfl (.cons rfl (.cons rfl (.cons rfl .nil)))) ?_ ?_
 ·exact⟨rfl,bD _,rfl,fun _=>rfl,fun h=>absurd h (jC 0)⟩
 ·rintro⟨k,o⟩ w1 ⟨rfl,hk,hr,h0,h1⟩;dsimp only at hk hr h0 h1 ⊢;refine aj (ae (cg rfl rfl rfl (ab (aj ?_))));refine bM rfl (fun c2=>?_) (fun c2=>?_)
  ·refine aT (aj (aY (aj (ae (ad rfl rfl ?_)))));obtain⟨x,hx⟩:∃x,l[k]? =some x:=⟨_,ar (by omega)⟩;refine cv (M:=M) aJ I9 rfl rfl rfl hv (aq _ _) (by omega) (fun u a hg hu=>?_);obtain rfl:x=a:=dJ (aF (hg.symm.trans (by simpa using hx)));refine bU (M:=M) aK rfl rfl rfl rfl rfl hu (aq _ _) (fun vx rV=>?_);obtain rfl:=gm rV;refine ah rfl rfl (ah rfl rfl (ab (aj (ae (ad rfl rfl (jk rfl rfl rfl (ad rfl rfl ?_)))))));refine aS (g:=14) rfl (fun l7=>?_) (fun l7=>?_)
   ·refine al rfl rfl (ad rfl rfl (al rfl rfl (ad rfl rfl (al rfl rfl (ad rfl rfl (al rfl rfl (fv rfl rfl rfl (by omega) (al rfl rfl ?_))))))));obtain⟨last,rfl,ju⟩:=h1 (by omega);refine cv (M:=M) aJ I9 rfl rfl rfl hv (aq _ _) (by omega) (fun u2 a hg sw=>?_);obtain rfl:last=a:=dJ (aF (hg.symm.trans (by rw[show((k:Int)-1).toNat=k-1 from by omega];exact ju)));refine al rfl rfl ?_;refine bU (M:=M) aK rfl rfl rfl rfl rfl sw (aq _ _) (fun vl j7=>?_);obtain rfl:=gm j7;refine al rfl rfl (Rg.VS rfl rfl rfl (aZ rfl rfl rfl (ab ?_)));refine bM rfl (fun c4=>?_) (fun c4=>?_)
    ·refine aj (ae (ah rfl rfl (ab (aP ?_))));refine aV rfl rfl ⟨congrArg Value.bool (dJ ?_),rfl⟩;rw[hr,zL hx];simp[c4]
    ·refine aT (ae (bG rfl rfl rfl (by omega) (ad rfl rfl (ab ?_))));refine⟨rfl,(k+1,some x),(.cons rfl (.cons rfl (.cons rfl (.cons rfl .nil)))),?_,?_⟩
     ·refine⟨rfl,by simp only;omega,?_,fun h=>by simp at h,fun _=>⟨x,rfl,by simpa using hx⟩⟩;rw[hr,zL hx]
      first
      |(rw[h0 (by omega)];simp;done)
      |(have c4':=cP.1 c4;simp[c4'];done)
     ·simp only;omega
   ·refine aw rfl rfl rfl rfl (aw rfl rfl rfl rfl (aw rfl rfl rfl rfl (aw rfl rfl rfl rfl (aw rfl rfl rfl rfl (aw rfl rfl rfl rfl (aw rfl rfl rfl rfl (aE rfl rfl rfl (ab (jD rfl (aT (ae ?_)))))))))));refine bG rfl rfl rfl (by omega) (ad rfl rfl (ab ?_));refine⟨rfl,(k+1,some x),(.cons rfl (.cons rfl (.cons rfl (.cons rfl .nil)))),?_,?_⟩
    ·refine⟨rfl,by simp only;omega,?_,fun h=>by simp at h,fun _=>⟨x,rfl,by simpa using hx⟩⟩;rw[hr,zL hx]
     first
     |(rw[h0 (by omega)];simp;done)
     |(have c4':=cP.1 c4;simp[c4'];done)
    ·simp only;omega
  ·refine cH (aj (ae (ah rfl rfl (ab (aP ?_)))));refine aV rfl rfl ⟨congrArg Value.bool (dJ ?_),rfl⟩;rw[hr,fB (by omega)];rfl
theorem wK {α:Type} {A:RT α} {M:aD} {w:World} {v:Value} {x:α} (h:cO A M w v x):v.cells= #[v]:=by
 obtain⟨b,o,vs,rfl,_⟩:=h;rfl
theorem HB {M:aD} {v0 v1:Value} {ns:List (List UInt8)} {ts:List Li} (w0:World) (hM:Lt M w0) (hn:(RT.str.sl).V M w0 ns v0) (ht:(((RT.li).ptr).sl).V M w0 ts v1) (hl:ns.length≤1099511627776) (PM:ts.length≤1099511627776):
  Spec Tryz.prog 147 #[v0,v1] w0 (fun v w=>∃p,v= .tuple #[p,.int .i64 (if ns.length=ts.length∧EZ none ns=true then 0 else 1)]∧(ns.length=ts.length→EZ none ns=true→cO RT.di M w p (ns,ts))∧Step M w0 M w aC):=by
 refine bg (args:=[_,_]) (fn:=Tryz.f147) Tryz.func147 rfl (n:=22) Tryz.ntmps147 ?_;have S:Step M w0 M w0 aC:=(au _ _).cB (fun _ h=>h.elim) (fun _ h=>h.elim);refine aj (ae (ah rfl rfl (ah rfl rfl (ab (aj (aj (ae (ad rfl rfl (bN aJ rfl hn rfl (ad rfl rfl (bN ei rfl ht rfl ?_)))))))))));refine eM rfl rfl rfl (ad rfl rfl ?_);refine aS (g:=11) rfl (fun pF=>?_) (fun pF=>?_)
 ·refine aw rfl rfl rfl rfl (aw rfl rfl rfl rfl (aw rfl rfl rfl rfl (aZ rfl rfl rfl (ab (ot rfl (aj (ae (ah rfl rfl (ah rfl rfl (ab (aP ?_)))))))))))
  first
  |exact fp rfl rfl rfl ⟨_,by rw[if_neg (fun h=>pF (by omega))],fun h=>absurd (by omega) pF,S⟩
  |exact fp rfl rfl rfl ⟨_,by rw[if_neg (fun h=>c1 h.2)],fun _ h=>absurd h c1,S⟩
 ·refine al rfl rfl (ad rfl rfl (al rfl rfl ?_));refine aX rfl rfl ahi (E1 _ hn) (fun r wc hc=>?_);obtain⟨rfl,rfl⟩:=hc;refine al rfl rfl (lY rfl rfl (aU (v':= .bool (decide (¬EZ none ns=true))) (by simp) (aE rfl rfl rfl (ab ?_))));refine bM rfl (fun c1=>?_) (fun c1=>?_)
  ·refine aj (ae (ah rfl rfl (ah rfl rfl (ab (aP ?_)))))
   first
   |exact fp rfl rfl rfl ⟨_,by rw[if_neg (fun h=>pF (by omega))],fun h=>absurd (by omega) pF,S⟩
   |exact fp rfl rfl rfl ⟨_,by rw[if_neg (fun h=>c1 h.2)],fun _ h=>absurd h c1,S⟩
  ·refine aT (aj (ae (ad rfl rfl ?_)));refine aX rfl rfl ahj (Nw hM hn hl) (fun v3 w3 hc=>?_);obtain⟨xr,s3⟩:=hc;replace hn:=hn.le s3.le;replace ht:=ht.le s3.le;replace hM:=s3.lt hM;have:=S.size;replace S:=S.aB s3;refine ad rfl rfl ?_;refine aX rfl rfl ahk (Q4 hM ht PM) (fun v4 w4 hc=>?_);obtain⟨nv,s4⟩:=hc;replace hn:=hn.le s4.le;replace ht:=ht.le s4.le;replace xr:=xr.le s4.le;replace hM:=s4.lt hM;have:=S.size;replace S:=S.aB s4;refine iM (places:=[(0,1),(1,1)]) j6 ahg ahh rfl ⟨_,_,rfl,rfl,_,_,rfl,rfl,rfl⟩ (out:=[_,_]) ⟨0,[_],rfl,jE xr,by simp[Value.cells],1,[_],rfl,jE nv,by simp[Value.cells],rfl⟩ ?_;refine qs (A:=RT.di) (a:=(ns,ts)) rfl rfl hM (fg xr nv rfl rfl rfl rfl) rfl (fun u5 w5 D9 s5 _=>?_);replace hn:=hn.le s5.le;replace ht:=ht.le s5.le;replace xr:=xr.le s5.le;replace nv:=nv.le s5.le;replace hM:=s5.lt hM;have:=S.size;replace S:=S.aB s5;refine ah rfl rfl (ah rfl rfl (ab (aP ?_)));exact fp rfl rfl rfl ⟨_,by rw[if_pos ⟨by omega,cP.1 c1⟩],fun _ _=>D9,S⟩
end Go.K
namespace Go.K
theorem HC (n:Nat):IntKind.u8.wrap (n:Int)=((UInt8.ofNat n).toNat:Int):=by
 rw[IntKind.wrap_u8];simp[UInt8.toNat_ofNat]
theorem aaw:∀m:Nat,m<256→(BitVec.ofInt 8 (m:Int)|||BitVec.ofInt 8 128).toNat=128+m%128:=by decide+kernel
theorem Rh (n:Nat):IntKind.u8.wrap ((BitVec.ofInt IntKind.u8.bits (IntKind.u8.wrap (n:Int))|||BitVec.ofInt IntKind.u8.bits 128).toNat:Int)=((UInt8.ofNat (128+n%128)).toNat:Int):=by
 have h1:IntKind.u8.wrap (n:Int)=((n%256:Nat):Int):=by rw[IntKind.wrap_u8];omega
 rw[h1];show IntKind.u8.wrap ((BitVec.ofInt 8 ((n%256:Nat):Int)|||BitVec.ofInt 8 128).toNat:Int)=_;rw[aaw (n%256) (by omega),IntKind.wrap_u8,show n%256%128=n%128 from by omega];simp[UInt8.toNat_ofNat]
theorem ahm (n:Nat):((n:Int)).fdiv (2^min (Int.toNat 7) IntKind.i64.bits)=((n/128:Nat):Int):=by
 show((n:Int)).fdiv 128=_;rw[Int.fdiv_eq_ediv_of_nonneg _ (by decide)];rfl
theorem HD:∀m:Nat,m<256→(BitVec.ofInt 8 (m:Int)&&& ~~~ BitVec.ofInt 8 128).toNat=m%128:=by decide+kernel
theorem E2 (c:UInt8):IntKind.u8.wrap ((BitVec.ofInt IntKind.u8.bits (c.toNat:Int)&&& ~~~ BitVec.ofInt IntKind.u8.bits 128).toNat:Int)=((c.toNat%128:Nat):Int):=by
 show IntKind.u8.wrap ((BitVec.ofInt 8 (c.toNat:Int)&&& ~~~ BitVec.ofInt 8 128).toNat:Int)=_;rw[HD c.toNat (by have:=c.toNat_lt;omega),IntKind.wrap_u8];omega
theorem N4 (k n x:Nat) (hk:k≤8) (hn:n<128^k) (hx:x<128):
  IntKind.i64.wrap ((BitVec.ofInt IntKind.i64.bits (n:Int)|||BitVec.ofInt IntKind.i64.bits (IntKind.i64.wrap ((x:Int)*2^min (Int.toNat (7*(k:Int))) IntKind.i64.bits))).toNat:Int)=((n+x*128^k:Nat):Int):=by
 have e7:Int.toNat (7*(k:Int))=7*k:=by omega
 have e1:min (7*k) 64=7*k:=by omega
 have e2:(128:Nat)^k=2^(7*k):=by rw[Nat.pow_mul]
 have hp:2^(7*k)≤2^56:=nP (by decide) (by omega);have hb:x*2^(7*k)≤127*2^(7*k):=gA _ (by omega);rw[e2]at hn ⊢;show IntKind.i64.wrap ((BitVec.ofInt 64 (n:Int)|||BitVec.ofInt 64 (IntKind.i64.wrap ((x:Int)*2^min (Int.toNat (7*(k:Int))) 64))).toNat:Int)=_;rw[e7,e1];have e3:((x:Int)*2^(7*k))=((x*2^(7*k):Nat):Int):=by simp
 have e5:n|||x*2^(7*k)=n+x*2^(7*k):=by
  rw[Nat.or_comm,Nat.mul_comm x,←Nat.two_pow_add_eq_or_of_lt hn x,Nat.add_comm]
 rw[e3];generalize x*2^(7*k)=y at*
 generalize 2^(7*k)=z at*
 have e4:∀m:Nat,m<2^64→(BitVec.ofInt 64 (m:Int))=BitVec.ofNat 64 m:=fun m _=>by simp
 rw[kh (y:Int) (by omega),e4 n (by omega),e4 y (by omega),BitVec.toNat_or,BitVec.toNat_ofNat,BitVec.toNat_ofNat,oA (by omega),oA (by omega),e5,kh _ (by omega)]
theorem tJ (x:Int): -9223372036854775808≤IntKind.i64.wrap x∧IntKind.i64.wrap x≤9223372036854775807:=by rw[IntKind.wrap_i64];omega
end Go.K
namespace Go.K
open Go.Proofs
set_option maxRecDepth 10000
theorem CO {M:aD} {w0:World} {v:Value} {b:List UInt8} {n:Nat} (hM:Lt M w0) (hv:(RT.u8.sl).V M w0 b v) (hb:b.length≤70368744177664) (hn:n≤9223372036854775807):
  Spec Tryz.prog 195 #[v,.int .i64 n] w0 (fun v' w'=>∃M',Step M w0 M' w' aC∧Own RT.u8 5 M' w' w0.heap.size v' (b++put n)):=by
 have h9:=lD hn;refine bg (args:=[_,_]) (fn:=Tryz.f195) Tryz.func195 rfl (n:=26) Tryz.ntmps195 (aj (ae (ah rfl rfl (ab (aj (ae (ad rfl rfl (ad rfl rfl ?_))))))))
 first|refine bN bP rfl (by assumption) rfl ?_|refine fS bP rfl (by assumption) rfl ?_
 refine ad rfl rfl ?_
 first|refine bN bP rfl (by assumption) rfl ?_|refine fS bP rfl (by assumption) rfl ?_
 refine Rg.Gt bP I5 rfl rfl rfl rfl hv ⟨rfl,rfl⟩ (fun a lG qz=>?_);refine ah rfl rfl (ab (aj (aY ?_)));refine dh (σ:=Nat×Value×List UInt8) (fun s=>[(0,s.2.1),(1,.int .i64 s.1)]) (fun s w=>s.2.2++put s.1=b++put n∧∃M1,Lt M1 w∧Step M w0 M1 w aC∧Grow RT.u8 (by decide) 5 M1 w w0.heap.size s.2.1 s.2.2) (fun s=>s.1) (n,_,b) (.cons rfl (.cons rfl .nil)) ?_ ?_
 ·exact⟨rfl,M,hM,au _ _,.inr ⟨a,rfl,qz,lG⟩⟩
 ·rintro⟨k,u0,acc⟩ w1 ⟨AN,M1,oy,s1,hg⟩;dsimp only at AN hg ⊢;have hlen:=congrArg List.length AN;have ud:=Qn k;simp only[a8]at hlen;refine aj (aj (ae (ad rfl rfl (ef rfl rfl rfl (ab ?_)))));refine bM rfl (fun c2=>?_) (fun c2=>?_)
  ·refine aT (aY (aj (ae (ad rfl rfl (ad rfl rfl (td ax cC rfl rfl (Rg.or rfl rfl rfl (aU (congrArg _ (Rh _)) ?_))))))));refine eu (A:=RT.u8) (hn:=by decide) (M:=M1) bP I5 (by decide) rfl rfl oy (Us.2 rfl) (.inr ⟨rfl,rfl⟩) (fun u w2 hu s2=>?_);refine Rg.Io (M:=M1) (base:=w0.heap.size) bP I5 rfl rfl rfl rfl (hg.le s2) hu (aq _ _) (by simp) (by simp;omega) (by simp;omega) (ez s1.size s2.size) (fun v3 M3 w3 zM s3=>?_);refine ah rfl rfl (ab (ae (ad rfl rfl (Rg.shr rfl rfl rfl (by omega) (aU (congrArg _ (ahm _)) (ah rfl rfl (ab ?_)))))));refine⟨rfl,(k/128,v3,acc++[UInt8.ofNat (128+k%128)]),(.cons rfl (.cons rfl .nil)),?_,?_⟩
   ·exact⟨by rw[←AN,GH (n:=k) (by omega)];simp,M3,s3.lt (s2.lt oy),(s1.aB s2).mA s3 (aR _),.inl zM⟩
   ·show k/128<k;omega
  ·refine cH (aj (ae (ad rfl rfl (ad rfl rfl (td ax cC rfl rfl (aU (congrArg _ (HC _)) ?_))))));refine eu (A:=RT.u8) (hn:=by decide) (M:=M1) bP I5 (by decide) rfl rfl oy (Us.2 rfl) (.inr ⟨rfl,rfl⟩) (fun u w2 hu s2=>?_);refine Rg.Io (M:=M1) (base:=w0.heap.size) bP I5 rfl rfl rfl rfl (hg.le s2) hu (aq _ _) (by simp) (by simp;omega) (by simp;omega) (ez s1.size s2.size) (fun v3 M3 w3 zM s3=>?_);refine ah rfl rfl (ab (aP ?_));refine aV rfl rfl ⟨M3,(s1.aB s2).mA s3 (aR _),?_⟩;rw[←AN,yR (n:=k) (by omega)];exact zM
theorem N5 {M:aD} {w0:World} {v:Value} {b:List UInt8} {n:Nat} (hM:Lt M w0) (hv:(RT.u8.sl).V M w0 b v) (hb:b.length≤70368744177664) (hn:n≤9223372036854775807):
  Spec Tryz.prog 195 #[v,.int .i64 n] w0 (fun v' w'=>Step M w0 M w' aC∧(RT.u8.sl).V M w' (b++put n) v'):=
 (CO hM hv hb hn).mono fun _ _ ⟨_,s,ho⟩=>⟨s.back,ye hM s ho (by have:=lD hn;simp;omega)⟩
theorem E3 {M:aD} {w0:World} {v:Value} {b:List UInt8} {at_:Int} (hv:(RT.u8.sl).V M w0 b v) (N6: -9223372036854775808≤at_∧at_≤9223372036854775807):
  Spec Tryz.prog 263 #[v,.int .i64 at_] w0 (fun v' w'=>v'= .tuple #[.int .i64 (get b at_).1,.int .i64 (get b at_).2.1,.int .i64 (get b at_).2.2]∧w0=w'):=by
 have hlen:=dD hv;refine bg (args:=[_,_]) (fn:=Tryz.f263) Tryz.func263 rfl (n:=54) Tryz.ntmps263 (aj (ae (ah rfl rfl (ah rfl rfl (ah rfl rfl (ab (aj (aj (ae (ad rfl rfl (cg rfl rfl rfl ?_)))))))))));refine ad rfl rfl ?_;refine aS (g:=12) rfl (fun iU=>?_) (fun iU=>?_)
 ·obtain Wi:at_<0∨(b.length:Int)<at_:= .inl iU;refine aw rfl rfl rfl rfl (aw rfl rfl rfl rfl (aw rfl rfl rfl rfl (aw rfl rfl rfl rfl (aZ rfl rfl rfl (ab (ot rfl (aj (ae (ah rfl rfl (ah rfl rfl (ah rfl rfl ?_)))))))))));refine ab (aP ?_);have jf:get b at_=(0,0,1):=by unfold get;rw[if_pos Wi]
  exact so rfl rfl rfl rfl ⟨by rw[jf],rfl⟩
 ·refine al rfl rfl (ad rfl rfl (al rfl rfl (ad rfl rfl (al rfl rfl ?_))))
  first|refine bN bP rfl (by assumption) rfl ?_|refine fS bP rfl (by assumption) rfl ?_
  refine al rfl rfl (jk rfl rfl rfl (aE rfl rfl rfl (ab ?_)));refine bM rfl (fun c1=>?_) (fun c1=>?_)
  ·obtain Wi:at_<0∨(b.length:Int)<at_:= .inr c1;refine aj (ae (ah rfl rfl (ah rfl rfl (ah rfl rfl (ab (aP ?_))))));have jf:get b at_=(0,0,1):=by unfold get;rw[if_pos Wi]
   exact so rfl rfl rfl rfl ⟨by rw[jf],rfl⟩
  ·refine aT (aj (ae (ah rfl rfl (ab (aj (aj (ae (ad rfl rfl (ad rfl rfl (ad rfl rfl ?_))))))))))
   first|refine bN bP rfl (by assumption) rfl ?_|refine fS bP rfl (by assumption) rfl ?_
   refine ad rfl rfl (bG rfl rfl rfl (by omega) (Rg.min2 rfl rfl rfl ?_));refine Rg.Ln bP I5 rfl rfl rfl rfl hv (by omega) (fun u hu=>?_);rw[show(min (b.length:Int) (at_+9)).toNat=min b.length (at_.toNat+9)from by omega,UO]at hu;have jf:get b at_=match oI ((b.drop at_.toNat).take 9) 0 0 with|some (n,k)=>((n:Int),at_+k,0)|none=>(0,0,2):=by unfold get;rw[if_neg (by omega)];rfl
   have kQ:((b.drop at_.toNat).take 9).length≤9:=by rw[br];omega
   generalize (b.drop at_.toNat).take 9=bs at hu jf kQ
   first|refine bN bP rfl (by assumption) rfl ?_|refine fS bP rfl (by assumption) rfl ?_
   refine ad rfl rfl (ab (aY ?_));refine dh (σ:=Nat×Nat) (fun s=>[(1,.int .i64 at_),(25,u),(26,.int .i64 bs.length),(27,.int .i64 s.1),(7,.int .i64 s.2)]) (fun s w=>w0=w∧s.1≤bs.length∧s.2<128^s.1∧oI (bs.drop s.1) s.1 s.2=oI bs 0 0) (fun s=>bs.length-s.1) (0,0) (.cons rfl (.cons rfl (.cons rfl (.cons rfl (.cons rfl .nil))))) ?_ ?_
   ·exact⟨rfl,bD _,by decide,rfl⟩
   ·rintro⟨k,m⟩ w1 ⟨rfl,hk,hm,hg⟩;dsimp only at hk hm hg ⊢;refine aj (ae (cg rfl rfl rfl (ab (aj ?_))));refine bM rfl (fun c5=>?_) (fun c5=>?_)
    ·refine aT (aj (aY (aj (ae (ad rfl rfl ?_)))));refine cv (M:=M) bP I5 rfl rfl rfl (by assumption) (by repeat (first|exact aq _ _|refine bc (bF (by assumption)) ?_)) (by omega) (fun ark Ri E4 amF=>?_);refine Rg.Uu (M:=M) cC rfl rfl (by assumption) (by repeat (first|exact aq _ _|refine bc (bF (by assumption)) ?_)) ?_;refine ah rfl rfl (ah rfl rfl (ab (aj (ae (ad rfl rfl (ad rfl rfl (Rg.andNot rfl rfl rfl (aU (congrArg _ (E2 _)) (Rg.vS cC ax rfl rfl (by omega) (ad rfl rfl (Rg.P9 rfl rfl rfl (by omega) ?_)))))))))));refine Rg.shl rfl rfl rfl (by omega) (Rg.or rfl rfl rfl (aU (congrArg _ (N4 k m _ (by omega) hm (by omega))) (ah rfl rfl (ab (aj (ae (ad rfl rfl (cg rfl rfl rfl (ab ?_)))))))));refine bM rfl (fun c8=>?_) (fun c8=>?_)
     ·refine aj (aj (ae (ad rfl rfl (tY rfl rfl rfl (ad rfl rfl ?_)))));refine aS (g:=44) rfl (fun CP=>?_) (fun CP=>?_)
      ·refine al rfl rfl (ad rfl rfl (al rfl rfl (jk rfl rfl rfl (aZ rfl rfl rfl (ab ?_)))));refine bM rfl (fun c9=>?_) (fun c9=>?_)
       ·refine cH (aj (ae (ah rfl rfl (ah rfl rfl (ah rfl rfl (ab (aP ?_)))))))
        have hr:oI bs 0 0=none:=by
         rw[←hg]
         first
         |(rw[oJ (by simpa using E4),if_pos (by omega),if_pos (by omega)])
         |(rw[fB (by omega)];rfl)
        exact so rfl rfl rfl rfl ⟨by rw[jf,hr],rfl⟩
       ·refine aT (aj (ae (ad rfl rfl (ad rfl rfl (ad rfl rfl (bG rfl rfl rfl (by omega) (bG rfl rfl rfl (by omega) (ah rfl rfl (ah rfl rfl (ah rfl rfl (ab ?_)))))))))));refine aP ?_;have hr:oI bs 0 0=some (m+Ri.toNat%128*128^k,k+1):=by rw[←hg,oJ (by simpa using E4),if_pos (by omega),if_neg (by omega)]
        exact so rfl rfl rfl rfl ⟨by rw[jf,hr];simp;omega,rfl⟩
      ·refine aw rfl rfl rfl rfl (aw rfl rfl rfl rfl (aE rfl rfl rfl (ab (jD rfl (aT (aj (ae (ad rfl rfl (ad rfl rfl (ad rfl rfl (bG rfl rfl rfl (by omega) ?_)))))))))));refine bG rfl rfl rfl (by omega) (ah rfl rfl (ah rfl rfl (ah rfl rfl (ab (aP ?_)))));have hr:oI bs 0 0=some (m+Ri.toNat%128*128^k,k+1):=by rw[←hg,oJ (by simpa using E4),if_pos (by omega),if_neg (by omega)]
       exact so rfl rfl rfl rfl ⟨by rw[jf,hr];simp;omega,rfl⟩
     ·refine aT (ae (bG rfl rfl rfl (by omega) (ad rfl rfl (ab ?_))));refine⟨rfl,(k+1,m+Ri.toNat%128*128^k),(.cons rfl (.cons rfl (.cons rfl (.cons rfl (.cons rfl .nil))))),?_,?_⟩
      ·refine⟨rfl,by simp only;omega,?_,?_⟩
       ·have:=gA (128^k) (show Ri.toNat%128≤127 from by omega);simp only[Nat.pow_succ];omega
       ·rw[oJ (by simpa using E4),if_neg (by omega)]at hg;exact hg
      ·simp only;omega
    ·refine cH (aj (ae (ah rfl rfl (ah rfl rfl (ah rfl rfl (ab (aP ?_)))))))
     have hr:oI bs 0 0=none:=by
      rw[←hg]
      first
      |(rw[oJ (by simpa using E4),if_pos (by omega),if_pos (by omega)])
      |(rw[fB (by omega)];rfl)
     exact so rfl rfl rfl rfl ⟨by rw[jf,hr],rfl⟩
theorem A0 {M:aD} {w0:World} {v u:Value} {b:List UInt8} {l:List Int} (hM:Lt M w0) (hv:(RT.u8.sl).V M w0 b v) (hu:((RT.int .i64).sl).V M w0 l u) (hb:b.length+9*(l.length+1)≤70368744177664):
  Spec Tryz.prog 196 #[v,u] w0 (fun v' w'=>∃M' x,Step M w0 M' w' aC∧v'= .tuple #[x,.int .i64 (if eG (-1) l then 0 else 1)]∧Own RT.u8 5 M' w' w0.heap.size x (if eG (-1) l then b++eL l else[])):=by
 have tS:=lD (n:=l.length) (by omega);refine bg (args:=[_,_]) (fn:=Tryz.f196) Tryz.func196 rfl (n:=31) Tryz.ntmps196 (aj (ae (ah rfl rfl (ah rfl rfl (ab (aj (ae (ad rfl rfl (ad rfl rfl (bN ao rfl hu rfl ?_))))))))));refine aX rfl rfl UW (CO (M:=M) hM hv (by omega) (by omega)) (fun ub wb oC=>?_);obtain⟨Mb,sb,kZ⟩:=oC;refine ah rfl rfl (ab (aj (ae (ah rfl rfl (ab (aj (aj (ae (ad rfl rfl (bN ao rfl hu rfl (ad rfl rfl ?_)))))))))));refine ab (aY ?_);refine dh (σ:=Nat×Int×Value×List UInt8) (fun s=>[(0,s.2.2.1),(6,.int .i64 s.2.1),(13,u),(14,.int .i64 l.length),(15,.int .i64 s.1)]) (fun s w=>eG (-1) l=eG s.2.1 (l.drop s.1)∧(eG (-1) l=true→s.2.2.2++l2 s.2.1 (l.drop s.1)=b++eL l)∧s.1≤l.length∧ -1≤s.2.1∧s.2.2.2.length≤b.length+9*(s.1+1)∧∃M1,Lt M1 w∧Step M w0 M1 w aC∧Own RT.u8 5 M1 w w0.heap.size s.2.2.1 s.2.2.2) (fun s=>l.length-s.1) (0,-1,_,b++put l.length) (.cons rfl (.cons rfl (.cons rfl (.cons rfl (.cons rfl .nil))))) ?_ ?_
 ·exact⟨rfl,fun _=>by simp[eL],bD _,by simp only;omega,by simp;omega,Mb,sb.lt hM,sb,kZ⟩
 ·rintro⟨k,last,u0,acc⟩ w1 ⟨hr,AN,hk,Yi,hal,M1,oy,s1,ho⟩;dsimp only at hr AN hk Yi hal ho ⊢;refine aj (ae (cg rfl rfl rfl (ab (aj ?_))));refine bM rfl (fun c4=>?_) (fun c4=>?_)
  ·refine aT (aj (aY (aj (ae ?_))));obtain⟨x,hx⟩:∃x,l[k]? =some x:=⟨_,ar (by omega)⟩;have hxr:=B9 hu hx;refine cv (M:=M) ao I3 rfl rfl rfl (hu.le (s1.back).le) (aq _ _) (by omega) (fun aax N7 aay IZ=>?_);obtain rfl:N7=x:=aF (aay.symm.trans (by simpa using hx));refine cd (M:=M) ax rfl rfl IZ (aq _ _) (fun _=>?_);refine ah rfl rfl (ab (aj (aj (ae (ad rfl rfl (ad rfl rfl (gQ rfl rfl rfl (ab ?_))))))));refine bM rfl (fun c6=>?_) (fun c6=>?_)
   ·refine aj (ae (ah rfl rfl (ah rfl rfl (ab (aP ?_)))));have hrf:eG (-1) l=false:=by rw[hr,gH hx,decide_eq_false (by omega),kX]
    exact fp rfl rfl rfl ⟨M1,_,s1,by rw[hrf];rfl,by rw[hrf];exact dz _ _ _ _ _⟩
   ·refine aT (aj (ae (ad rfl rfl (ad rfl rfl (ad rfl rfl (Rg.Ut rfl rfl rfl (Rg.Ut rfl rfl rfl ?_)))))));have hpx:=lD (n:=(N7-last-1).toNat) (by omega);refine aU (v':= .int .i64 (((N7-last-1).toNat:Nat):Int)) (by rw[IntKind.wrap_i64,IntKind.wrap_i64];congr 1;omega) ?_;have hfz:=s1.freeze (v:=u0) (fun b hb=>(ho.base b hb).1);refine aX rfl rfl UW (CO (M:=rm M1 u0) (oy.rm u0) (ho.view (by omega)) (by omega) (by omega)) (fun ub wb oC=>?_);obtain⟨Mb2,sb2,aho⟩:=oC;refine ah rfl rfl (ab (ae (ad rfl rfl (ah rfl rfl (ab (ae (bG rfl rfl rfl (by omega) (ad rfl rfl (ab ?_)))))))));refine⟨rfl,(k+1,N7,ub,acc++put (N7-last-1).toNat),(.cons rfl (.cons rfl (.cons rfl (.cons rfl (.cons rfl .nil))))),?_,?_⟩
    ·refine⟨?_,fun h=>?_,by simp only;omega,by simp only;omega,by simp only[a8];omega,Mb2,sb2.lt (oy.rm u0),hfz.aB sb2,aho.nS s1.size⟩
     ·rw[hr,gH hx,decide_eq_true (by omega),ff]
     ·rw[←AN h,JL hx];simp
    ·simp only;omega
  ·refine cH (aj (ae (ad rfl rfl (ah rfl rfl (ah rfl rfl (ab (aP ?_)))))));have hrt:eG (-1) l=true:=by rw[hr,fB (by omega)];rfl
   have ha:=AN hrt;rw[fB (by omega),l2,fT]at ha;exact fp rfl rfl rfl ⟨M1,_,s1,by rw[hrt];rfl,by rw[hrt,←ha];exact ho⟩
theorem zN {M:aD} {w0:World} {v u:Value} {b:List UInt8} {l:List Int} (hM:Lt M w0) (hv:(RT.u8.sl).V M w0 b v) (hu:((RT.int .i64).sl).V M w0 l u) (hb:b.length+9*(l.length+1)≤70368744177664):
  Spec Tryz.prog 196 #[v,u] w0 (fun v' w'=>∃x,Step M w0 M w' aC∧v'= .tuple #[x,.int .i64 (if eG (-1) l then 0 else 1)]∧(RT.u8.sl).V M w' (if eG (-1) l then b++eL l else[]) x):=
 (A0 hM hv hu hb).mono fun _ _ ⟨_,x,s,h,ho⟩=>⟨x,s.back,h,ye hM s ho (by
  split
  next hr=>
   have tS:=lD (n:=l.length) (by omega);have iA:∀x∈l,x≤9223372036854775807:=fun x hx=>by obtain⟨i,hi⟩:=bz.1 hx;exact(B9 hu hi).2
   have:=yS l (-1) (by decide) iA hr;simp only[eL,a8];omega
  next=>simp)⟩
theorem BO {M:aD} {w0:World} {be bb ba:Nat} {v:Value} {b:List UInt8} {at_:Int} (he:w0.heap[be]? =some (.cells #[.int .i64 0] 26 (0,0))) (hb:w0.heap[bb]? =some (.cells #[v] 204 (0,0))) (ha:w0.heap[ba]? =some (.cells #[.int .i64 at_] 3 (0,0))) (eN:be≠ba) (Wj:M be) (Yj:M ba) (hv:(RT.u8.sl).V M w0 b v) (N6: -9223372036854775808≤at_∧at_≤9223372036854775807):
  Spec Tryz.prog 287 #[.pointer (some ⟨be,0,none⟩),.pointer (some ⟨bb,0,none⟩),.pointer (some ⟨ba,0,none⟩)] w0 (fun v' w'=>v'= .int .i64 (get b at_).1∧w'.heap[be]? =some (.cells #[.int .i64 (get b at_).2.2] 26 (0,0))∧w'.heap[ba]? =some (.cells #[.int .i64 (get b at_).2.1] 3 (0,0))∧Step M w0 M w' (fun k=>k=be∨k=ba)):=by
 refine bg (args:=[_,_,_]) (fn:=Tryz.f287) Tryz.func287 rfl (n:=15) Tryz.ntmps287 (aj (ae (ah rfl rfl (ab (aj (aj (ae (aN xc rfl rfl rfl (by assumption) rfl (eM rfl rfl rfl (ab ?_))))))))));refine bM rfl (fun c1=>?_) (fun c1=>?_)
 ·exact absurd rfl c1
 ·refine aT (aj (ae (ah rfl rfl (ab (aj (ae (aN bP rfl rfl rfl (by assumption) rfl (aN ax rfl rfl rfl (by assumption) rfl ?_))))))));refine aX rfl rfl Ze (E3 hv N6) (fun r w1 h1=>?_);obtain⟨rfl,rfl⟩:=h1;refine ad rfl rfl (bW rfl rfl rfl (bW rfl rfl rfl (bW rfl rfl rfl (ah rfl rfl ?_))));refine cw (M:=M) I3 rfl rfl ha rfl rfl Yj (fun w1 h1 s1=>?_);refine cw (M:=M) I26 rfl rfl (s1.keep he eN) rfl rfl Wj (fun w2 h2 s2=>?_);refine ab (aj (ae (ad rfl rfl (ah rfl rfl (ab (aP ?_))))));refine aV rfl rfl ⟨rfl,h2,s2.keep h1 (Ne.symm eN),?_⟩;exact(s1.cB (fun b hb=> .inr hb) (fun b hb=>by rcases hb with rfl|rfl<;>assumption)).trans s2 (fun b _ hb=> .inl hb)
theorem zO {M:aD} {w0:World} {v:Value} {b:List UInt8} {at_:Int} (hM:Lt M w0) (hv:(RT.u8.sl).V M w0 b v) (N6: -9223372036854775808≤at_∧at_≤9223372036854775807) (kQ:b.length≤1099511627776):
  Spec Tryz.prog 264 #[v,.int .i64 at_] w0 (fun v' w'=>∃x,v'= .tuple #[x,.int .i64 (ic b at_).2.2,.int .i64 (ic b at_).1]∧((RT.int .i64).sl).V M w' (ic b at_).2.1 x∧Step M w0 M w' aC):=by
 refine bg (args:=[_,_]) (fn:=Tryz.f264) Tryz.func264 rfl (n:=48) Tryz.ntmps264 (aj (ae ?_));refine xM M rfl rfl (fun bb w1 Nv arn hB s1=>?_);rw[jE hv]at hB;refine xM (ins M bb) rfl rfl (fun ba w2 hba aro hA s2=>?_);refine ah rfl rfl (ah rfl rfl (ah rfl rfl (ab (aj (ae ?_)))));refine dU (ins (ins M bb) ba) I26 rfl (fun be w3 hbe arp hE s3=>?_);refine cw (M:=ins (ins (ins M bb) ba) be) I26 rfl rfl hE rfl rfl (.inl rfl) (fun w4 hE4 s4=>?_);have z1:=s1.size;have z2:=s2.size;have z3:=s3.size;have z4:=s4.size;have S4:Step M w0 (ins (ins (ins M bb) ba) be) w4 aC:=((s1.aB s2).aB s3).cf s4 (fun k hk=>by subst hk;omega);have hB4:=s4.keep (s3.aL (s2.aL hB)) (show bb≠be by omega);have hA4:=s4.keep (s3.aL hA) (show ba≠be by omega);refine ab (aj (ae (kr (xs:=[]) rfl rfl rfl (ah rfl rfl (ab (aj (ae (ah rfl rfl (ab (aj (ae ?_)))))))))));refine ah rfl rfl (ab (aj (aj (ae (ad rfl rfl ?_)))));refine rO (first:=[]) (xs:=[]) rfl rfl rfl Zf (BO (M:=ins (ins (ins M bb) ba) be) hE4 hB4 hA4 (by omega) (.inl rfl) (.inr (.inl rfl)) (hv.le S4.le) N6) (fun r w5 h5=>?_);obtain⟨rfl,hE5,hA5,s5⟩:=h5;have z5:=s5.size;have S5:=S4.cf s5 (fun k hk=>by omega);have hB5:=s5.keep hB4 (by omega);obtain⟨hn0,hn1,hn2,hn3⟩:=py b at_;refine aU (v':= .int .i64 (((get b at_).1.toNat:Nat):Int)) (by rw[pb hn0]) (ah rfl rfl (ab (aY ?_)));refine dh (σ:=Nat×Int×Value×List Int×Int×Int) (fun s=>[(7,.pointer (some ⟨be,0,none⟩)),(3,.pointer (some ⟨ba,0,none⟩)),(8,.func (.func 287) [].toArray [.pointer (some ⟨be,0,none⟩),.pointer (some ⟨bb,0,none⟩),.pointer (some ⟨ba,0,none⟩)].toArray),(9,s.2.2.1),(10,.int .i64 s.2.1),(11,.int .i64 s.1)]) (fun s w=>(s.1:Int)≤9223372036854775807∧(s.2.2.2.2.1=0→ic b at_=andThen s.2.2.2.1 (iN b s.1 s.2.2.2.2.2 s.2.1))∧(s.2.2.2.2.1≠0→ic b at_=(s.2.2.2.2.1,[],0))∧(s.2.2.2.2.1=0→ -1≤s.2.1∧s.2.1≤4611686018427387904∧(s.2.2.2.1.length:Int)≤s.2.2.2.2.2∧s.2.2.2.2.2≤b.length)∧s.2.2.2.1.length≤b.length+1∧∃M1,Lt M1 w∧Step M w0 M1 w aC∧w4.heap.size≤w.heap.size∧M1 be∧M1 ba∧Own (RT.int .i64) 3 M1 w w4.heap.size s.2.2.1 s.2.2.2.1∧w.heap[be]? =some (.cells #[.int .i64 s.2.2.2.2.1] 26 (0,0))∧w.heap[ba]? =some (.cells #[.int .i64 s.2.2.2.2.2] 3 (0,0))∧w.heap[bb]? =some (.cells #[v] 204 (0,0))) (fun s=>s.1) ((get b at_).1.toNat,-1,_,[],(get b at_).2.2,(get b at_).2.1) (.cons rfl (.cons rfl (.cons rfl (.cons rfl (.cons rfl (.cons rfl .nil)))))) ?_ ?_
 ·refine⟨by have:=Bp b at_;simp only;omega,fun h=>?_,fun h=>?_,fun h=>?_,by simp,_,S5.lt hM,S5,z5,.inl rfl,.inr (.inl rfl),dz _ _ _ _ _,hE5,hA5,hB5⟩
  ·unfold ic;rw[if_neg (by simpa using h)];exact(DV _ (JM b _ _ _)).symm
  ·unfold ic;rw[if_pos h]
  ·have:=vY h;simp only[ke];omega
 ·rintro⟨many,last,u0,acc,e,a1⟩ wl ⟨hmb,PT,It,hok,hal,M1,oy,S,zl,Wj,Yj,ho,hE,hA,hB⟩;dsimp only at hmb PT It hok hal ho hE hA hB ⊢;refine aj (aj (ae (ad rfl rfl (jk rfl rfl rfl (ad rfl rfl ?_)))));refine aS (g:=18) rfl (fun U2=>?_) (fun U2=>?_)
  ·refine al rfl rfl (aN xc rfl rfl rfl (by assumption) rfl (al rfl rfl (tY rfl rfl rfl (aZ rfl rfl rfl (ab ?_)))));refine bM rfl (fun c6=>?_) (fun c6=>?_)
   ·refine aT (aj (aY (aj (ae (ad rfl rfl ?_)))));refine rO (first:=[]) (xs:=[]) rfl rfl rfl Zf (BO (M:=M1) (by rw[c6]at hE;exact hE) hB hA (by omega) Wj Yj (hv.le S.le) (by have:=hok c6;omega)) (fun r w6 h6=>?_);obtain⟨rfl,hE6,hA6,s6⟩:=h6;have z6:=s6.size;have S6:=S.cf s6 (fun k hk=>by omega);have hB6:=s6.keep hB (by omega);have uI:=ho.step s6 (fun k hk h=>by have:=(ho.base k hk).1;omega);have Km:=s6.lt oy;obtain⟨hn0,hn1,hn2,hn3⟩:=py b a1;obtain⟨uk,Cf,hk3,hk4⟩:=hok c6;refine ah rfl rfl (ab (aj (aj (ae (aN xc rfl rfl rfl (by assumption) rfl (tY rfl rfl rfl (ad rfl rfl ?_)))))));refine aS (g:=28) rfl (fun CP=>?_) (fun CP=>?_)
    ·refine al rfl rfl (ad rfl rfl (al rfl rfl (ad rfl rfl (al rfl rfl (fv rfl rfl rfl (by omega) (al rfl rfl (fv rfl rfl rfl (by omega) (al rfl rfl (jk rfl rfl rfl (aZ rfl rfl rfl (ab ?_)))))))))));refine bM rfl (fun c9=>?_) (fun c9=>?_)
     ·refine ae ?_;refine cw (M:=M1) I26 rfl rfl hE6 rfl rfl Wj (fun w7 hE7 s7=>?_);have z7:=s7.size;replace S6:=S6.cf s7 (fun k hk=>by subst hk;omega);replace hB6:=s7.keep hB6 (show bb≠be by omega);replace hA6:=s7.keep hA6 (show ba≠be by omega);replace uI:=uI.step s7 (fun k hk h=>by have:=(ho.base k hk).1;omega);replace Km:=s7.lt Km;replace hE6:=hE7;refine ab (aj (ae (ad rfl rfl (ad rfl rfl (Rg.xR rfl rfl rfl (Rg.xR rfl rfl rfl (ah rfl rfl (ab (ae (ad rfl rfl (ad rfl rfl ?_)))))))))));refine eu (A:=RT.int .i64) (hn:=by decide) (M:=M1) ao I3 (by decide) rfl rfl Km (gv (tJ _)) (.inr ⟨rfl,rfl⟩) (fun u w8 hu s8=>?_);refine cV (M:=M1) (base:=w4.heap.size) ao I3 rfl rfl rfl rfl (uI.aO s8) hu (aq _ _) (by simp;omega) (by simp;omega) (by have:=s8.size;omega) (fun v9 M9 w9 Rj s9=>?_);have z8:=s8.size;have z9:=s9.size;have ko:∀k,k<w4.heap.size→¬fD u0 k:=fun k hk h=>by have:=(ho.base k h).1;omega
      have N8:=s9.keep (s8.aL hE6) (ko be (by omega));have hA9:=s9.keep (s8.aL hA6) (ko ba (by omega));have hB9:=s9.keep (s8.aL hB6) (ko bb (by omega));have S9:=(S6.aB s8).cX s9 (uI.aO s8) (by omega);have Tz:=s9.lt (s8.lt Km);have N9:M9 be:=(s9.mem be (by omega)).2 Wj;have Oa:M9 ba:=(s9.mem ba (by omega)).2 Yj;refine ah rfl rfl (ab (ae (ad rfl rfl (fv rfl rfl rfl (by omega) (ah rfl rfl (ab ?_))))));refine⟨rfl,(many-1,(IntKind.i64.wrap (last+IntKind.i64.wrap ((get b a1).1+1))),v9,acc++[(IntKind.i64.wrap (last+IntKind.i64.wrap ((get b a1).1+1)))],(if(get b a1).2.2=0∧4611686018427387904-last-1<(get b a1).1 then 2 else(get b a1).2.2),(get b a1).2.1),(.cons rfl (.cons rfl (.cons rfl (.cons rfl (.cons rfl (.cons (show some (Value.int .i64 ((many:Int)-1))=some (Value.int .i64 ((many-1:Nat):Int))from by congr 2;omega) .nil)))))),?_,?_⟩
      ·have hx:(get b a1).2.2=0→¬4611686018427387904-last-1<(get b a1).1→(IntKind.i64.wrap (last+IntKind.i64.wrap ((get b a1).1+1)))=last+1+(get b a1).1:=fun h1 h2=>by rw[kh ((get b a1).1+1) (by omega),kh _ (by omega)];omega
       have X4:many=(many-1)+1:=by omega
       have zP:=PT c6;rw[X4]at zP;refine⟨by simp only;omega,fun h=>?_,fun h=>?_,fun h=>?_,by have:=hok c6;simp only[a8,cI,ke];omega,M9,Tz,S9,by omega,N9,Oa,Rj,?_,hA9,hB9⟩
       ·dsimp only at h ⊢;have h3:(get b a1).2.2=0∧¬4611686018427387904-last-1<(get b a1).1:=by split at h<;>omega
        rw[zP,px acc h3.1 h3.2,hx h3.1 h3.2]
       ·dsimp only at h ⊢;rw[zP]
        split
        ·rename_i h4;rw[vZ h4.1 h4.2];rfl
        ·rename_i h4
         have h5:(get b a1).2.2≠0:=by intro h6;rw[if_neg h4]at h;exact h h6
         rw[tw h5];unfold andThen;rw[if_pos h5]
       ·dsimp only at h ⊢;have h3:(get b a1).2.2=0∧¬4611686018427387904-last-1<(get b a1).1:=by split at h<;>omega
        have:=vY h3.1;rw[hx h3.1 h3.2];simp only[a8,cI,ke];omega
       ·dsimp only
        first
        |(rw[if_pos ⟨CP,c9⟩];exact N8)
        |(rw[if_neg (fun h=>c9 h.2)];exact N8)
        |(rw[if_neg (fun h=>CP h.1)];exact N8)
      ·simp only;omega
     ·refine aT (aj (ae (ad rfl rfl (ad rfl rfl (Rg.xR rfl rfl rfl (Rg.xR rfl rfl rfl (ah rfl rfl (ab (ae (ad rfl rfl (ad rfl rfl ?_)))))))))));refine eu (A:=RT.int .i64) (hn:=by decide) (M:=M1) ao I3 (by decide) rfl rfl Km (gv (tJ _)) (.inr ⟨rfl,rfl⟩) (fun u w8 hu s8=>?_);refine cV (M:=M1) (base:=w4.heap.size) ao I3 rfl rfl rfl rfl (uI.aO s8) hu (aq _ _) (by simp;omega) (by simp;omega) (by have:=s8.size;omega) (fun v9 M9 w9 Rj s9=>?_);have z8:=s8.size;have z9:=s9.size;have ko:∀k,k<w4.heap.size→¬fD u0 k:=fun k hk h=>by have:=(ho.base k h).1;omega
      have N8:=s9.keep (s8.aL hE6) (ko be (by omega));have hA9:=s9.keep (s8.aL hA6) (ko ba (by omega));have hB9:=s9.keep (s8.aL hB6) (ko bb (by omega));have S9:=(S6.aB s8).cX s9 (uI.aO s8) (by omega);have Tz:=s9.lt (s8.lt Km);have N9:M9 be:=(s9.mem be (by omega)).2 Wj;have Oa:M9 ba:=(s9.mem ba (by omega)).2 Yj;refine ah rfl rfl (ab (ae (ad rfl rfl (fv rfl rfl rfl (by omega) (ah rfl rfl (ab ?_))))));refine⟨rfl,(many-1,(IntKind.i64.wrap (last+IntKind.i64.wrap ((get b a1).1+1))),v9,acc++[(IntKind.i64.wrap (last+IntKind.i64.wrap ((get b a1).1+1)))],(if(get b a1).2.2=0∧4611686018427387904-last-1<(get b a1).1 then 2 else(get b a1).2.2),(get b a1).2.1),(.cons rfl (.cons rfl (.cons rfl (.cons rfl (.cons rfl (.cons (show some (Value.int .i64 ((many:Int)-1))=some (Value.int .i64 ((many-1:Nat):Int))from by congr 2;omega) .nil)))))),?_,?_⟩
      ·have hx:(get b a1).2.2=0→¬4611686018427387904-last-1<(get b a1).1→(IntKind.i64.wrap (last+IntKind.i64.wrap ((get b a1).1+1)))=last+1+(get b a1).1:=fun h1 h2=>by rw[kh ((get b a1).1+1) (by omega),kh _ (by omega)];omega
       have X4:many=(many-1)+1:=by omega
       have zP:=PT c6;rw[X4]at zP;refine⟨by simp only;omega,fun h=>?_,fun h=>?_,fun h=>?_,by have:=hok c6;simp only[a8,cI,ke];omega,M9,Tz,S9,by omega,N9,Oa,Rj,?_,hA9,hB9⟩
       ·dsimp only at h ⊢;have h3:(get b a1).2.2=0∧¬4611686018427387904-last-1<(get b a1).1:=by split at h<;>omega
        rw[zP,px acc h3.1 h3.2,hx h3.1 h3.2]
       ·dsimp only at h ⊢;rw[zP]
        split
        ·rename_i h4;rw[vZ h4.1 h4.2];rfl
        ·rename_i h4
         have h5:(get b a1).2.2≠0:=by intro h6;rw[if_neg h4]at h;exact h h6
         rw[tw h5];unfold andThen;rw[if_pos h5]
       ·dsimp only at h ⊢;have h3:(get b a1).2.2=0∧¬4611686018427387904-last-1<(get b a1).1:=by split at h<;>omega
        have:=vY h3.1;rw[hx h3.1 h3.2];simp only[a8,cI,ke];omega
       ·dsimp only
        first
        |(rw[if_pos ⟨CP,c9⟩];exact N8)
        |(rw[if_neg (fun h=>c9 h.2)];exact N8)
        |(rw[if_neg (fun h=>CP h.1)];exact N8)
      ·simp only;omega
    ·refine aw rfl rfl rfl rfl (aw rfl rfl rfl rfl (aw rfl rfl rfl rfl (aw rfl rfl rfl rfl (aw rfl rfl rfl rfl (aE rfl rfl rfl (ab (jD rfl (aT (aj (ae (ad rfl rfl ?_)))))))))));refine ad rfl rfl (Rg.xR rfl rfl rfl (Rg.xR rfl rfl rfl (ah rfl rfl (ab (ae (ad rfl rfl (ad rfl rfl ?_)))))));refine eu (A:=RT.int .i64) (hn:=by decide) (M:=M1) ao I3 (by decide) rfl rfl Km (gv (tJ _)) (.inr ⟨rfl,rfl⟩) (fun u w8 hu s8=>?_);refine cV (M:=M1) (base:=w4.heap.size) ao I3 rfl rfl rfl rfl (uI.aO s8) hu (aq _ _) (by simp;omega) (by simp;omega) (by have:=s8.size;omega) (fun v9 M9 w9 Rj s9=>?_);have z8:=s8.size;have z9:=s9.size;have ko:∀k,k<w4.heap.size→¬fD u0 k:=fun k hk h=>by have:=(ho.base k h).1;omega
     have N8:=s9.keep (s8.aL hE6) (ko be (by omega));have hA9:=s9.keep (s8.aL hA6) (ko ba (by omega));have hB9:=s9.keep (s8.aL hB6) (ko bb (by omega));have S9:=(S6.aB s8).cX s9 (uI.aO s8) (by omega);have Tz:=s9.lt (s8.lt Km);have N9:M9 be:=(s9.mem be (by omega)).2 Wj;have Oa:M9 ba:=(s9.mem ba (by omega)).2 Yj;refine ah rfl rfl (ab (ae (ad rfl rfl (fv rfl rfl rfl (by omega) (ah rfl rfl (ab ?_))))));refine⟨rfl,(many-1,(IntKind.i64.wrap (last+IntKind.i64.wrap ((get b a1).1+1))),v9,acc++[(IntKind.i64.wrap (last+IntKind.i64.wrap ((get b a1).1+1)))],(if(get b a1).2.2=0∧4611686018427387904-last-1<(get b a1).1 then 2 else(get b a1).2.2),(get b a1).2.1),(.cons rfl (.cons rfl (.cons rfl (.cons rfl (.cons rfl (.cons (show some (Value.int .i64 ((many:Int)-1))=some (Value.int .i64 ((many-1:Nat):Int))from by congr 2;omega) .nil)))))),?_,?_⟩
     ·have hx:(get b a1).2.2=0→¬4611686018427387904-last-1<(get b a1).1→(IntKind.i64.wrap (last+IntKind.i64.wrap ((get b a1).1+1)))=last+1+(get b a1).1:=fun h1 h2=>by rw[kh ((get b a1).1+1) (by omega),kh _ (by omega)];omega
      have X4:many=(many-1)+1:=by omega
      have zP:=PT c6;rw[X4]at zP;refine⟨by simp only;omega,fun h=>?_,fun h=>?_,fun h=>?_,by have:=hok c6;simp only[a8,cI,ke];omega,M9,Tz,S9,by omega,N9,Oa,Rj,?_,hA9,hB9⟩
      ·dsimp only at h ⊢;have h3:(get b a1).2.2=0∧¬4611686018427387904-last-1<(get b a1).1:=by split at h<;>omega
       rw[zP,px acc h3.1 h3.2,hx h3.1 h3.2]
      ·dsimp only at h ⊢;rw[zP]
       split
       ·rename_i h4;rw[vZ h4.1 h4.2];rfl
       ·rename_i h4
        have h5:(get b a1).2.2≠0:=by intro h6;rw[if_neg h4]at h;exact h h6
        rw[tw h5];unfold andThen;rw[if_pos h5]
      ·dsimp only at h ⊢;have h3:(get b a1).2.2=0∧¬4611686018427387904-last-1<(get b a1).1:=by split at h<;>omega
       have:=vY h3.1;rw[hx h3.1 h3.2];simp only[a8,cI,ke];omega
      ·dsimp only
       first
       |(rw[if_pos ⟨CP,c9⟩];exact N8)
       |(rw[if_neg (fun h=>c9 h.2)];exact N8)
       |(rw[if_neg (fun h=>CP h.1)];exact N8)
     ·simp only;omega
   ·refine cH (aj (aj (ae (aN xc rfl rfl rfl (by assumption) rfl (eM rfl rfl rfl (ab ?_))))));refine bM rfl (fun QM=>?_) (fun QM=>?_)
    ·refine aj ?_;apply nq mixed rfl rfl;intro NW NX;have lR:=NX M1;refine aN xc rfl rfl rfl (by first|assumption|exact de lR (by assumption)) rfl ?_;refine ab ⟨rfl,rfl,rfl,?_⟩;refine ah rfl rfl ?_;refine ab ⟨rfl,rfl,rfl,?_⟩;refine ah rfl rfl ?_;refine ab ⟨rfl,rfl,rfl,?_⟩;refine ah rfl rfl ?_;refine ab ⟨rfl,rfl,rfl,?_⟩;refine eD (aP ?_);have hr:=It QM;exact so rfl rfl rfl rfl ⟨_,by rw[hr]<;>rfl,by rw[hr];exact pW,(S.aB lR).back⟩
    ·refine aT (aj ?_);apply nq mixed rfl rfl;intro Wk Ob;have ql:=Ob M1;refine ad rfl rfl ?_;refine ab ⟨rfl,rfl,rfl,?_⟩;refine aN ax rfl rfl rfl (by first|assumption|exact de ql (by assumption)) rfl ?_;refine ab ⟨rfl,rfl,rfl,?_⟩;refine ah rfl rfl ?_;refine ab ⟨rfl,rfl,rfl,?_⟩;refine ah rfl rfl ?_;refine ab ⟨rfl,rfl,rfl,?_⟩;refine ah rfl rfl ?_;refine ab ⟨rfl,rfl,rfl,?_⟩;refine eD (aP ?_);have hz:many=0:=by omega
     have hr:=PT (by omega);rw[hz,yT]at hr;simp only[andThen,ne_eq,not_true_eq_false,if_false,fT]at hr;have S15:=S.aB ql;refine so rfl rfl rfl rfl ⟨_,by rw[hr]<;>rfl,?_,S15.back⟩;rw[hr];exact ye hM S15 ((ho.aO ql).nS (by omega)) (by simp only;omega)
  ·refine aw rfl rfl rfl rfl (aw rfl rfl rfl rfl (aE rfl rfl rfl (ab (jD rfl (cH (aj (aj (ae (aN xc rfl rfl rfl (by assumption) rfl (eM rfl rfl rfl (ab ?_)))))))))));refine bM rfl (fun QM=>?_) (fun QM=>?_)
   ·refine aj ?_;apply nq mixed rfl rfl;intro NW NX;have lR:=NX M1;refine aN xc rfl rfl rfl (by first|assumption|exact de lR (by assumption)) rfl ?_;refine ab ⟨rfl,rfl,rfl,?_⟩;refine ah rfl rfl ?_;refine ab ⟨rfl,rfl,rfl,?_⟩;refine ah rfl rfl ?_;refine ab ⟨rfl,rfl,rfl,?_⟩;refine ah rfl rfl ?_;refine ab ⟨rfl,rfl,rfl,?_⟩;refine eD (aP ?_);have hr:=It QM;exact so rfl rfl rfl rfl ⟨_,by rw[hr]<;>rfl,by rw[hr];exact pW,(S.aB lR).back⟩
   ·refine aT (aj ?_);apply nq mixed rfl rfl;intro Wk Ob;have ql:=Ob M1;refine ad rfl rfl ?_;refine ab ⟨rfl,rfl,rfl,?_⟩;refine aN ax rfl rfl rfl (by first|assumption|exact de ql (by assumption)) rfl ?_;refine ab ⟨rfl,rfl,rfl,?_⟩;refine ah rfl rfl ?_;refine ab ⟨rfl,rfl,rfl,?_⟩;refine ah rfl rfl ?_;refine ab ⟨rfl,rfl,rfl,?_⟩;refine ah rfl rfl ?_;refine ab ⟨rfl,rfl,rfl,?_⟩;refine eD (aP ?_);have hz:many=0:=by omega
    have hr:=PT (by omega);rw[hz,yT]at hr;simp only[andThen,ne_eq,not_true_eq_false,if_false,fT]at hr;have S15:=S.aB ql;refine so rfl rfl rfl rfl ⟨_,by rw[hr]<;>rfl,?_,S15.back⟩;rw[hr];exact ye hM S15 ((ho.aO ql).nS (by omega)) (by simp only;omega)
end Go.K
namespace Go.K
open Go.Proofs
set_option maxRecDepth 10000
theorem Rk {M:aD} {w0:World} {v:Value} {x:Li} (hv:cO RT.li M w0 v x) {k:Int}:
  Spec Tryz.prog 222 #[v,.int .i64 k] w0 (fun v' w'=>v'= .bool (X8 x.2.1.length k)∧w0=w'):=by
 refine bg (args:=[_,_]) (fn:=Tryz.f222) Tryz.func222 rfl (n:=16) Tryz.ntmps222 (aj (ae (ah rfl rfl (ab (aj (ae (ad rfl rfl (ef rfl rfl rfl (ad rfl rfl ?_)))))))));refine aS (g:=7) rfl (fun iU=>?_) (fun iU=>?_)
 ·refine al rfl rfl (ad rfl rfl (al rfl rfl (ad rfl rfl (al rfl rfl (bT rfl (cO.fH (by assumption)) rfl (al rfl rfl ?_))))));refine aQ (M:=M) (A:=RT.li) (B:=(RT.bl).sl) eH rfl rfl JQ (by decide) (li1) rfl rfl (by decide) (by assumption) (by repeat (first|exact aq _ _|refine bc (bF (by assumption)) ?_)) (fun arx amL=>?_);refine al rfl rfl ?_;refine bU (M:=M) iR rfl rfl rfl rfl rfl (by assumption) (by repeat (first|exact aq _ _|refine bc (bF (by assumption)) ?_)) (fun aaF TA=>?_);refine al rfl rfl ?_
  first|refine bN iR rfl (by assumption) rfl ?_|refine fS iR rfl (by assumption) rfl ?_
  refine al rfl rfl (cg rfl rfl rfl (aZ rfl rfl rfl (ah rfl rfl (ab (aP ?_)))))
  first
  |exact aV rfl rfl ⟨congrArg Value.bool (decide_eq_decide.2 (by omega)),rfl⟩
  |exact aV rfl rfl ⟨congrArg Value.bool (dJ (decide_eq_false (by omega))),rfl⟩
 ·refine aw rfl rfl rfl rfl (aw rfl rfl rfl rfl (aw rfl rfl rfl rfl (aw rfl rfl rfl rfl (aw rfl rfl rfl rfl (aw rfl rfl rfl rfl (aw rfl rfl rfl rfl (aE rfl rfl rfl (ah rfl rfl (ab (aP ?_))))))))))
  first
  |exact aV rfl rfl ⟨congrArg Value.bool (decide_eq_decide.2 (by omega)),rfl⟩
  |exact aV rfl rfl ⟨congrArg Value.bool (dJ (decide_eq_false (by omega))),rfl⟩
theorem HE {M:aD} {w0:World} {v:Value} {b:List UInt8} {at_ ahead:Int} (hM:Lt M w0) (hv:(RT.u8.sl).V M w0 b v) (N6: -9223372036854775808≤at_∧at_≤9223372036854775807) (hah: -9223372036854775808≤ahead∧ahead≤9223372036854775807) (kQ:b.length≤1099511627776):
  Spec Tryz.prog 223 #[v,.int .i64 at_,.int .i64 ahead] w0 (fun v' w'=>∃p,v'= .tuple #[p,.int .i64 (sC b at_ ahead).2.1,.int .i64 (sC b at_ ahead).2.2]∧RT.po.V M w' (sC b at_ ahead).1 p∧Step M w0 M w' aC):=by
 refine bg (args:=[_,_,_]) (fn:=Tryz.f223) Tryz.func223 rfl (n:=38) Tryz.ntmps223 (aj (ae ?_));refine dU M l4 rfl (fun b0 w1 hb0 ary hB s1=>?_);have oy:=s1.lt hM;have vK:=hv.le s1.le;refine ah rfl rfl (ah rfl rfl (ab (aj (ae (ad rfl rfl (ad rfl rfl ?_))))));refine aX rfl rfl Ze (E3 vK N6) (fun r w2 h2=>?_);obtain⟨rfl,rfl⟩:=h2;have yG:=Bp b at_;obtain⟨hn0,hn1,hn2,hn3⟩:=py b at_;refine ad rfl rfl (bW rfl rfl rfl (bW rfl rfl rfl (bW rfl rfl rfl (ah rfl rfl (ah rfl rfl (ah rfl rfl (ab (aj (aj (ae (ad rfl rfl ?_)))))))))));refine eM rfl rfl rfl (ab ?_);refine bM rfl (fun c2=>?_) (fun c2=>?_)
 ·refine aj (ae (iM (places:=[(0,1),(1,1)]) bK l4 Y6 rfl rfl (out:=[.int .i64 0,.slice none 0 0]) rfl (ad rfl rfl ?_)));refine dI (M:=ins M b0) l4 rfl rfl (by intro u hu;simp at hu;rcases hu with rfl|rfl<;>rfl) rfl rfl hB (.inl rfl) (fun w3 hB3 s3=>?_);refine ah rfl rfl (ah rfl rfl (ab (aP ?_)));have jW:=s1.size;have S:Step M w0 M w3 aC:=(s1.cf s3 (fun k hk=>by subst hk;omega)).back;refine LM rfl rfl bK rfl l4 rfl hB3 rfl rfl ⟨_,by unfold sC;rw[if_pos c2]<;>rfl,?_,S⟩;unfold sC;rw[if_pos c2];exact fg (gv (x:=0) (by omega)) pW rfl rfl rfl rfl
 ·refine aT (aj (ae (ad rfl rfl (ad rfl rfl ?_))));have hok:=vY (b:=b) (at_:=at_) (by omega);refine aX rfl rfl afh (zO (M:=ins M b0) oy vK (by omega) kQ) (fun r w3 h3=>?_);obtain⟨x3,rfl,Kn,s3⟩:=h3;refine ad rfl rfl (bW rfl rfl rfl (bW rfl rfl rfl (bW rfl rfl rfl (ah rfl rfl (ah rfl rfl (ah rfl rfl (ab (aj (ae (ad rfl rfl (Rg.xR rfl rfl rfl ?_)))))))))));refine ad rfl rfl (Rg.xR rfl rfl rfl (ad rfl rfl (iM (places:=[(0,1),(1,1)]) bK l4 Y6 rfl ⟨_,_,rfl,rfl,_,_,rfl,rfl,rfl⟩ (out:=[_,_]) ⟨0,[_],rfl,rfl,by simp[Value.cells],1,[_],rfl,jE Kn,by simp[Value.cells],rfl⟩ (ad rfl rfl (ad rfl rfl ?_)))));obtain⟨vx,rV⟩:∃vx,vx=x3:=⟨_,rfl⟩;have tp:=lW Kn rfl rfl;refine dI (M:=ins M b0) l4 rfl rfl (by intro u hu;simp at hu;rcases hu with rfl|rfl;rfl;exact tp) rfl rfl (s3.aL hB) (.inl rfl) (fun w4 hB4 s4=>?_);refine ah rfl rfl (ah rfl rfl (ab (aP ?_)));have jW:=s1.size;have arA:=s3.size;have S3:=s1.aB s3;have S:Step M w0 M w4 aC:=(S3.cf s4 (fun k hk=>by subst hk;omega)).back;refine LM rfl rfl bK rfl l4 rfl hB4 rfl rfl ⟨_,by unfold sC;rw[if_neg c2]<;>rfl,?_,S⟩;unfold sC;rw[if_neg c2];have hx4:=(Kn.le s4.le).le (Le.close hM (S3.cf s4 (fun k hk=>by subst hk;omega)));exact fg (gv LO) hx4 rfl rfl rfl rfl
theorem HF {M:aD} {w0:World} {v:Value} {l:List Po} {k:Int} (hM:Lt M w0) (hv:cO RT.li M w0 v (nV l)) (ny:fN (-1) l=true) (ky:∀p∈l,p.2.length≤1099511627776) (kQ:(eh (-1) l).length≤1099511627776):
  Spec Tryz.prog 180 #[v,.int .i64 k] w0 (fun v' w'=>Step M w0 M w' aC∧((RT.po).sl).V M w' (if X8 ((l.length+7)/8) k then(l.drop (8*k.toNat)).take 8 else[]) v'):=by
 have aaG:(nV l).2.1.length=(l.length+7)/8:=by simp[nV,rU]
 refine bg (args:=[_,_]) (fn:=Tryz.f180) Tryz.func180 rfl (n:=51) Tryz.ntmps180 (aj (ae (ah rfl rfl (ab (aj (aj (ae (ad rfl rfl (ad rfl rfl ?_)))))))));refine aX rfl rfl ae6 (Rk hv (k:=k)) (fun r w1 h1=>?_);obtain⟨rfl,rfl⟩:=h1;refine lY rfl rfl (aU (v':= .bool (decide (¬(0≤k∧k<(nV l).2.1.length)))) (by unfold X8;rw[decide_not]) (ab ?_));refine bM rfl (fun c1=>?_) (fun c1=>?_)
 ·refine aj (ae (ah rfl rfl (ab (aP ?_))));refine aV rfl rfl ⟨au _ _,?_⟩;rw[if_neg (by unfold X8;rw[aaG]at c1;simpa using c1)];exact pW
 ·refine aT (aj (ae (ad rfl rfl (bT rfl (cO.fH (by assumption)) rfl ?_))));refine aQ (M:=M) (A:=RT.li) (B:=(RT.bl).sl) eH rfl rfl JQ (by decide) (li1) rfl rfl (by decide) (by assumption) (by repeat (first|exact aq _ _|refine bc (bF (by assumption)) ?_)) (fun VK BC=>?_);refine bU (M:=M) iR rfl rfl rfl rfl rfl (by assumption) (by repeat (first|exact aq _ _|refine bc (bF (by assumption)) ?_)) (fun ahq aaH=>?_);refine ad rfl rfl ?_;obtain⟨j,rfl⟩:∃j:Nat,k=j:=⟨k.toNat,by omega⟩;have hb:(nV l).2.1[j]? =some (xl l j):=by simp only[nV,rU,bj];rw[List.getElem?_range (by omega)];rfl
  refine cv (M:=M) iR Cs rfl rfl rfl (by assumption) (aq _ _) (by omega) (fun arC ahr aaI amM=>?_);obtain rfl:ahr=xl l j:=aF (aaI.symm.trans (by simpa using hb));have To:(xl l j).2.2.2=(((l.drop (8*j)).take 8).length:Int):=rfl;have amN:((l.drop (8*j)).take 8).length≤8:=by rw[br];omega
  refine cT (M:=M) (A:=RT.bl) th rfl Cs (by decide) rfl rfl rfl (by assumption) (by repeat (first|exact aq _ _|refine bc (bF (by assumption)) ?_)) (fun arD amO=>?_);refine yf (A:=RT.bl) (M:=M) Cs rfl rfl rfl rfl rfl (by assumption) (by repeat (first|exact aq _ _|refine bc (bF (by assumption)) ?_)) (by first|assumption|exact Step.lt (by assumption) (by assumption)|exact Step.lt (by assumption) (Step.lt (by assumption) (by assumption))) (fun ahs Wl amP Wm arE=>?_);refine ab (aj (ae (ah rfl rfl (ab (aj (aj ?_))))));apply T.draw (M:=M) mixed [cG.ptr (RT.int .i64) (xl l j).1,cG.eq _,cG.ptr (RT.int .i64) (xl l j).2.1,cG.eq _,cG.eq _,cG.eq _]
  ·rfl
  ·refine bQ ?_ ?_
   ·intro wD E sD;refine aQ (M:=M) (A:=RT.bl) (B:=RT.int .i64) th rfl rfl I3 (by decide) (bl0) rfl rfl (by decide) (by assumption) (by repeat (first|exact aq _ _|refine bc (bF (by assumption)) ?_)) (fun aax IZ=>?_);exact ab ⟨rfl,rfl,_,rfl,by assumption,au _ _⟩
   refine bQ ?_ ?_
   ·intro wD E sD;intro v0 PL;refine cd (M:=M) ax rfl rfl (by assumption) (by repeat (first|exact aq _ _|refine bc (bF (by assumption)) ?_)) (fun TB=>?_);exact ab ⟨rfl,rfl,_,rfl,rfl,au _ _⟩
   refine bQ ?_ ?_
   ·intro wD E sD;refine aQ (M:=M) (A:=RT.bl) (B:=RT.int .i64) th rfl rfl I3 (by decide) (bl1) rfl rfl (by decide) (by assumption) (by repeat (first|exact aq _ _|refine bc (bF (by assumption)) ?_)) (fun aht xB=>?_);exact ab ⟨rfl,rfl,_,rfl,by assumption,au _ _⟩
   refine bQ ?_ ?_
   ·intro wD E sD;intro v2 Bv;refine cd (M:=M) ax rfl rfl (by assumption) (by repeat (first|exact aq _ _|refine bc (bF (by assumption)) ?_)) (fun amQ=>?_);exact ab ⟨rfl,rfl,_,rfl,rfl,au _ _⟩
   refine bQ ?_ ?_
   ·intro wD E sD;refine aM ?_;intro v0 PL;refine aM (ah rfl rfl ?_);exact ab ⟨rfl,rfl,_,rfl,rfl,au _ _⟩
   refine bQ ?_ ?_
   ·intro wD E sD;refine aM (aM ?_);intro v0 PL;refine aM ?_;intro v2 Bv;refine aM (aM (ah rfl rfl ?_));exact ab ⟨rfl,rfl,_,rfl,rfl,au _ _⟩
   exact dA.nil
  ·intro wD5 Rf;intro arF amR;refine aM ?_;intro af3 SQ;refine aM (aM (aM (aY ?_)));have hz5:=Wm.size;refine dh (σ:=Nat×Value) (fun s=>[(0,v),(5,ahs),(6,s.2),(7,.int .i64 (eh (-1) (l.take (8*j+s.1))).length),(8,.int .i64 (dB (-1) (l.take (8*j+s.1))))]) (fun s w=>s.1≤((l.drop (8*j)).take 8).length∧∃M1,Lt M1 w∧Step M w0 M1 w aC∧Step M Wl M1 w aC∧Own RT.po 83 M1 w Wl.heap.size s.2 (((l.drop (8*j)).take 8).take s.1)) (fun s=>((l.drop (8*j)).take 8).length-s.1) (0,_) (.cons rfl (.cons rfl (.cons rfl (.cons rfl (.cons rfl .nil))))) ?_ ?_
   ·exact⟨bD _,M,Rf.lt (Wm.lt hM),Wm.aB Rf,Rf,dz _ _ _ _ _⟩
   ·rintro⟨i,u0⟩ w1 ⟨hi,M1,oy,S,S5,ho⟩;dsimp only at hi ho ⊢;refine aj (aj (ae (ad rfl rfl (fS bA rfl ho rfl (aU (v':= .int .i64 i) (by rw[br,yz hi]) ?_)))));refine aQ (M:=M1) (A:=RT.bl) (B:=RT.int .i64) th rfl rfl I3 (by decide) (bl3) rfl rfl (by decide) (by assumption) (by repeat (first|exact aq _ _|refine bc (bF (by assumption)) ?_)) (fun Zz aaJ=>?_);refine cd (M:=M1) ax rfl rfl aaJ (aq _ _) (fun amS=>?_);refine aU (v':= .int .i64 ((l.drop (8*j)).take 8).length) rfl (cg rfl rfl rfl (ab ?_));refine bM rfl (fun c6=>?_) (fun c6=>?_)
    ·refine aT (aY (aj (ae (ad rfl rfl (bT rfl (cO.fH (by assumption)) rfl ?_)))));refine aQ (M:=M1) (A:=RT.li) (B:=RT.u8.sl) eH rfl rfl D2 (by decide) (li0) rfl rfl (by decide) (by assumption) (by repeat (first|exact aq _ _|refine bc (bF (by assumption)) ?_)) (fun agJ BL=>?_);refine bU (M:=M1) bP rfl rfl rfl rfl rfl (by assumption) (by repeat (first|exact aq _ _|refine bc (bF (by assumption)) ?_)) (fun arG aaK=>?_);refine ad rfl rfl (ad rfl rfl ?_);obtain⟨⟨d,ps⟩,hx⟩:∃x,l[8*j+i]? =some x:=⟨_,ar (by rw[br,dC]at c6;omega)⟩;obtain⟨f1,f2,f3,f4,f5,f6⟩:=Cm ny hx;have SO:sC (nV l).1 _ _=_:=LQ ny hx (ky _ (az hx));have rS:(eh (-1) (l.take (8*j+i))).length≤(eh (-1) l).length:=by rw[qB (l:=l) (i:=8*j+i) (-1)];simp
     refine aX rfl rfl ae7 (HE (M:=M1) oy aaK (by omega) (by omega) kQ) (fun r7 w7 h7=>?_);obtain⟨p7,h7e,Yk,s7⟩:=h7;rw[SO]at h7e Yk;subst h7e;change RT.po.V M1 w7 (d,ps) p7 at Yk;replace S:=S.aB s7;replace S5:=S5.aB s7;replace ho:=ho.aO s7;replace oy:=s7.lt oy;have hci:((l.drop (8*j)).take 8)[i]? =some (d,ps):=by rw[ck,if_pos (by omega),List.getElem?_drop];exact hx
     refine ad rfl rfl (bW rfl rfl rfl (bW rfl rfl rfl (bW rfl rfl rfl ?_)));refine yf (A:=RT.po) (M:=M1) l4 rfl rfl rfl rfl rfl (by assumption) (by repeat (first|exact aq _ _|refine bc (bF (by assumption)) ?_)) (by first|assumption|exact Step.lt (by assumption) (by assumption)|exact Step.lt (by assumption) (Step.lt (by assumption) (by assumption))) (fun amU amV Oc I0 amW=>?_);refine ah rfl rfl (ah rfl rfl (ab (aj (ae (ad rfl rfl ?_)))));replace S:=S.aB I0;replace S5:=S5.aB I0;replace ho:=ho.aO I0;replace oy:=I0.lt oy;clear Yk;refine cT (M:=M1) (A:=RT.po) bK rfl l4 (by decide) rfl rfl rfl Oc (aq _ _) (fun v8 IX=>?_);refine eu (A:=RT.po) (hn:=by decide) (M:=M1) bA l4 (by decide) rfl rfl oy IX (.inl rfl) (fun u2 w2 sw s2=>?_);refine cV (M:=M1) (base:=Wl.heap.size) bA l4 rfl rfl rfl rfl (ho.aO s2) sw (aq _ _) (by simp;omega) (by simp;omega) (ez S5.size s2.size) (fun v3 M3 w3 zM s3=>?_);replace S:=(S.aB s2).cX s3 (ho.aO s2) hz5;have ZX:=(Oc.le (by decide) s2.le).le (by decide) s3.le;have hM3:=s3.lt (s2.lt oy);replace S5:=(S5.aB s2).cX s3 (ho.aO s2) (aR _);refine ah rfl rfl (ab ?_);apply T.draw (M:=M3) mixed [cG.eq _,cG.ptr (RT.int .i64) d,cG.eq _,cG.eq _,cG.eq _]
     ·rfl
     ·refine bQ ?_ ?_
      ·intro wD E sD;refine ad rfl rfl ?_;exact ab ⟨rfl,rfl,_,rfl,rfl,au _ _⟩
      refine bQ ?_ ?_
      ·intro wD E sD;refine aQ (M:=M3) (A:=RT.po) (B:=RT.int .i64) bK rfl rfl I3 (by decide) (PO) rfl rfl (by decide) ZX sD.le (fun agR NQ=>?_);exact ab ⟨rfl,rfl,_,rfl,NQ,au _ _⟩
      refine bQ ?_ ?_
      ·intro wD E sD;intro v1 vK;refine cd (M:=M3) ax rfl rfl (by assumption) (by repeat (first|exact aq _ _|refine bc (bF (by assumption)) ?_)) (fun amX=>?_);exact ab ⟨rfl,rfl,_,rfl,rfl,au _ _⟩
      refine bQ ?_ ?_
      ·intro wD E sD;refine aM (aM (ah rfl rfl ?_));exact ab ⟨rfl,rfl,_,rfl,rfl,au _ _⟩
      refine bQ ?_ ?_
      ·intro wD E sD;refine aM (aM (aM ?_));intro v1 vK;refine aM (aM (ah rfl rfl ?_));exact ab ⟨rfl,rfl,_,rfl,rfl,au _ _⟩
      exact dA.nil
     ·intro TC E5;refine aM ?_;intro arI amY;refine aM (aM (aM ?_));refine⟨rfl,(i+1,v3),(.cons rfl (.cons rfl (.cons rfl (.cons rfl (.cons (by rw[←f5];rfl) .nil))))),?_,?_⟩
      ·refine⟨by simp only;omega,M3,E5.lt hM3,S.aB E5,S5.aB E5,?_⟩;simp only;obtain⟨wx,tT⟩:=an.1 hci;rw[tb wx,tT];exact zM.aO E5
      ·simp only;omega
    ·refine cH (aj (ae (ad rfl rfl (ah rfl rfl (ab (aP ?_))))));refine aV rfl rfl ⟨S.back,?_⟩;rw[if_pos (by unfold X8;rw[aaG]at c1;simpa using c1),ay];rw[aW (by omega)]at ho;exact ye hM S (ho.nS hz5) (by omega)
end Go.K
namespace Go.K
open Go.Proofs
set_option maxRecDepth 10000
theorem E6 {M:aD} {w0:World} {v:Value} {l:List Int} (hv:((RT.int .i64).sl).V M w0 l v):
  Spec Tryz.prog 249 #[v] w0 (fun v' w'=>v'= .bool (pz l)∧w0=w'):=by
 have hlen:=dD hv;refine bg (args:=[_]) (fn:=Tryz.f249) Tryz.func249 rfl (n:=32) Tryz.ntmps249 (aj (ae (ah rfl rfl (ab (aj (aj (ae (ad rfl rfl ?_))))))))
 first|refine bN ao rfl (by assumption) rfl ?_|refine fS ao rfl (by assumption) rfl ?_
 refine ad rfl rfl (ab (aY ?_));refine dh (σ:=Nat×Int) (fun s=>[(0,v),(5,v),(6,.int .i64 l.length),(7,.int .i64 s.1)]) (fun s w=>w0=w∧s.1≤l.length∧pz l=(eG s.2 (l.drop s.1)&&(l.drop s.1).all (fun n=>decide (n<2147483648)))∧ -1≤s.2∧(s.1=0→s.2= -1)∧(0<s.1→l[s.1-1]? =some s.2)) (fun s=>l.length-s.1) (0,-1) (.cons rfl (.cons rfl (.cons rfl (.cons rfl .nil)))) ?_ ?_
 ·exact⟨rfl,bD _,rfl,by decide,fun _=>rfl,fun h=>absurd h (jC 0)⟩
 ·rintro⟨k,last⟩ w1 ⟨rfl,hk,hr,Yi,h0,h1⟩;dsimp only at hk hr Yi h0 h1 ⊢;refine aj (ae (cg rfl rfl rfl (ab (aj ?_))));refine bM rfl (fun c2=>?_) (fun c2=>?_)
  ·refine aT (aj (aY (aj (ae (ad rfl rfl ?_)))));obtain⟨x,hx⟩:∃x,l[k]? =some x:=⟨_,ar (by omega)⟩;refine cv (M:=M) ao I3 rfl rfl rfl hv (aq _ _) (by omega) (fun arJ ahv aaM amZ=>?_);obtain rfl:x=ahv:=dJ (aF (aaM.symm.trans (by simpa using hx)));refine cd (M:=M) ax rfl rfl (by assumption) (by repeat (first|exact aq _ _|refine bc (bF (by assumption)) ?_)) (fun am0=>?_);refine ah rfl rfl (ah rfl rfl (ab (aj (ae (ad rfl rfl (cg rfl rfl rfl (ad rfl rfl ?_)))))));refine aS (g:=14) rfl (fun l7=>?_) (fun l7=>?_)
   ·refine aw rfl rfl rfl rfl (aw rfl rfl rfl rfl (aZ rfl rfl rfl (ad rfl rfl (aw rfl rfl rfl rfl (aw rfl rfl rfl rfl (aw rfl rfl rfl rfl (cu rfl rfl rfl (cu rfl rfl rfl (cu rfl rfl rfl (cu rfl rfl rfl (cu rfl rfl rfl ?_)))))))))));refine cu rfl rfl rfl (cu rfl rfl rfl (aw rfl rfl rfl rfl (aZ rfl rfl rfl (ab (ot rfl (aj (ae (ah rfl rfl (ab (aP ?_))))))))));refine aV rfl rfl ⟨congrArg Value.bool (dJ ?_),rfl⟩;rw[hr,gH hx,qC _ hx];by_cases h7:last<x
    ·have h2: ¬x<2147483648:=by omega
     simp[h2]
    ·simp[h7]
   ·refine al rfl rfl (ad rfl rfl (al rfl rfl (ef rfl rfl rfl (aE rfl rfl rfl (ad rfl rfl ?_)))));refine aS (g:=18) rfl (fun ahw=>?_) (fun ahw=>?_)
    ·refine aw rfl rfl rfl rfl (aw rfl rfl rfl rfl (aw rfl rfl rfl rfl (cu rfl rfl rfl (cu rfl rfl rfl (cu rfl rfl rfl (cu rfl rfl rfl (cu rfl rfl rfl (cu rfl rfl rfl (cu rfl rfl rfl (aw rfl rfl rfl rfl (aZ rfl rfl rfl ?_)))))))))));refine ab (ot rfl (aj (ae (ah rfl rfl (ab (aP ?_))))));refine aV rfl rfl ⟨congrArg Value.bool (dJ ?_),rfl⟩;rw[hr,gH hx,qC _ hx];by_cases h7:last<x
     ·have h2: ¬x<2147483648:=by omega
      simp[h2]
     ·simp[h7]
    ·refine al rfl rfl (ad rfl rfl (al rfl rfl (jk rfl rfl rfl (al rfl rfl (ad rfl rfl ?_)))));refine aS (g:=21) rfl (fun ahx=>?_) (fun ahx=>?_)
     ·refine al rfl rfl (ad rfl rfl (al rfl rfl (ad rfl rfl (al rfl rfl (ad rfl rfl (al rfl rfl (fv rfl rfl rfl (by omega) (al rfl rfl ?_))))))));refine cv (M:=M) ao I3 rfl rfl rfl hv (aq _ _) (by omega) (fun aaN Od HG Wn=>?_);obtain rfl:last=Od:=dJ (aF (HG.symm.trans (by rw[show((k:Int)-1).toNat=k-1 from by omega];exact h1 (by omega))));refine al rfl rfl ?_;refine cd (M:=M) ax rfl rfl (by assumption) (by repeat (first|exact aq _ _|refine bc (bF (by assumption)) ?_)) (fun ahy=>?_);refine al rfl rfl (gQ rfl rfl rfl (al rfl rfl (aZ rfl rfl rfl (aE rfl rfl rfl (ab ?_)))));refine bM rfl (fun c4=>?_) (fun c4=>?_)
      ·refine aj (ae (ah rfl rfl (ab (aP ?_))));refine aV rfl rfl ⟨congrArg Value.bool (dJ ?_),rfl⟩;rw[hr,gH hx,qC _ hx];by_cases h7:last<x
       ·have h2: ¬x<2147483648:=by omega
        simp[h2]
       ·simp[h7]
      ·refine aT (ae (bG rfl rfl rfl (by omega) (ad rfl rfl (ab ?_))));refine⟨rfl,(k+1,x),(.cons rfl (.cons rfl (.cons rfl (.cons rfl .nil)))),?_,?_⟩
       ·refine⟨rfl,by simp only;omega,?_,by simp only;omega,fun h=>by simp at h,fun _=>by simpa using hx⟩;rw[hr,gH hx,qC _ hx,decide_eq_true (show last<x by omega),decide_eq_true (show x<2147483648 by omega),ff,ff]
       ·simp only;omega
     ·refine aw rfl rfl rfl rfl (aw rfl rfl rfl rfl (aw rfl rfl rfl rfl (aw rfl rfl rfl rfl (aw rfl rfl rfl rfl (aw rfl rfl rfl rfl (aw rfl rfl rfl rfl (al rfl rfl (aE rfl rfl rfl (aE rfl rfl rfl (ab (jD rfl ?_)))))))))));refine aT (ae (bG rfl rfl rfl (by omega) (ad rfl rfl (ab ?_))));refine⟨rfl,(k+1,x),(.cons rfl (.cons rfl (.cons rfl (.cons rfl .nil)))),?_,?_⟩
      ·refine⟨rfl,by simp only;omega,?_,by simp only;omega,fun h=>by simp at h,fun _=>by simpa using hx⟩;rw[hr,gH hx,qC _ hx,decide_eq_true (show last<x by omega),decide_eq_true (show x<2147483648 by omega),ff,ff]
      ·simp only;omega
  ·refine cH (aj (ae (ah rfl rfl (ab (aP ?_)))));refine aV rfl rfl ⟨congrArg Value.bool (dJ ?_),rfl⟩;rw[hr,fB (by omega)];rfl
theorem Ko {M:aD} {w0:World} {v:Value} {l:List Po} (hM:Lt M w0) (hv:((RT.po).sl).V M w0 l v):
  Spec Tryz.prog 193 #[v] w0 (fun v' w'=>v'= .bool (fN (-1) l)∧Step M w0 M w' aC):=by
 have hlen:=dD hv;refine bg (args:=[_]) (fn:=Tryz.f193) Tryz.func193 rfl (n:=36) Tryz.ntmps193 (aj (ae (ah rfl rfl (ab (aj (ae (ah rfl rfl (ab (aj (aj (ae ?_)))))))))));refine ad rfl rfl ?_
 first|refine bN bA rfl (by assumption) rfl ?_|refine fS bA rfl (by assumption) rfl ?_
 refine ad rfl rfl (ab (aY ?_));refine dh (σ:=Nat×Int) (fun s=>[(6,v),(7,.int .i64 l.length),(8,.int .i64 s.1),(3,.int .i64 s.2)]) (fun s w=>Step M w0 M w aC∧s.1≤l.length∧fN (-1) l=fN s.2 (l.drop s.1)) (fun s=>l.length-s.1) (0,-1) (.cons rfl (.cons rfl (.cons rfl (.cons rfl .nil)))) ?_ ?_
 ·exact⟨au _ _,bD _,rfl⟩
 ·rintro⟨k,last⟩ w1 ⟨S,hk,hr⟩;dsimp only at hk hr ⊢;have hMw:=S.lt hM;refine aj (ae (cg rfl rfl rfl (ab (aj ?_))));refine bM rfl (fun c3=>?_) (fun c3=>?_)
  ·refine aT (aj (aY (aj (ae ?_))));obtain⟨⟨d,ps⟩,hx⟩:∃x,l[k]? =some x:=⟨_,ar (by omega)⟩;refine cv (M:=M) bA l4 rfl rfl rfl (hv.le S.le) (aq _ _) (by omega) (fun Vq ahz aaO IG=>?_);obtain rfl:ahz=(d,ps):=aF (aaO.symm.trans (by simpa using hx));refine cT (M:=M) (A:=RT.po) bK rfl l4 (by decide) rfl rfl rfl (by assumption) (by repeat (first|exact aq _ _|refine bc (bF (by assumption)) ?_)) (fun Vr MD=>?_);refine yf (A:=RT.po) (M:=M) l4 rfl rfl rfl rfl rfl (by assumption) (by repeat (first|exact aq _ _|refine bc (bF (by assumption)) ?_)) (by first|assumption|exact Step.lt (by assumption) (by assumption)|exact Step.lt (by assumption) (Step.lt (by assumption) (by assumption))) (fun Zm QC oL mQ ahd=>?_);refine ab (aj (aj (ae ?_)));refine aQ (M:=M) (A:=RT.po) (B:=RT.int .i64) bK rfl rfl I3 (by decide) (PO) rfl rfl (by decide) (by assumption) (by repeat (first|exact aq _ _|refine bc (bF (by assumption)) ?_)) (fun aax IZ=>?_);refine cd (M:=M) ax rfl rfl IZ (aq _ _) (fun TB=>?_);refine aU (v':= .int .i64 d) rfl ?_;simp only at TB;refine ad rfl rfl (gQ rfl rfl rfl (ad rfl rfl ?_));refine aS (g:=16) rfl (fun Wo=>?_) (fun Wo=>?_)
   ·refine aw rfl rfl rfl rfl (aw rfl rfl rfl rfl (aw rfl rfl rfl rfl (aZ rfl rfl rfl (ad rfl rfl (aw rfl rfl rfl rfl (aw rfl rfl rfl rfl (aw rfl rfl rfl rfl (aw rfl rfl rfl rfl (aZ rfl rfl rfl (ad rfl rfl (aw rfl rfl rfl rfl ?_)))))))))));refine aw rfl rfl rfl rfl (aw rfl rfl rfl rfl (aw rfl rfl rfl rfl (aZ rfl rfl rfl (ab (ot rfl (aj (ae (ah rfl rfl (ab (aP ?_))))))))));refine aV rfl rfl ⟨congrArg Value.bool (dJ ?_),S.aB mQ⟩;rw[hr,mJ hx]
    first
    |(rw[decide_eq_false (show¬last<d by omega)];simp;done)
    |(rw[decide_eq_false (show¬d<2147483648 by omega)];simp;done)
    |(rw[show ps=[]from cZ.1 (by omega)];simp;done)
    |(simp[c5];done)
   ·refine al rfl rfl ?_;refine aQ (M:=M) (A:=RT.po) (B:=RT.int .i64) bK rfl rfl I3 (by decide) (PO) rfl rfl (by decide) (by assumption) (by repeat (first|exact aq _ _|refine bc (bF (by assumption)) ?_)) (fun arK aaP=>?_);refine al rfl rfl ?_;refine cd (M:=M) ax rfl rfl aaP (aq _ _) (fun am1=>?_);refine aU (v':= .int .i64 d) rfl (al rfl rfl (ef rfl rfl rfl (aE rfl rfl rfl (ad rfl rfl ?_))));refine aS (g:=21) rfl (fun Wp=>?_) (fun Wp=>?_)
    ·refine aw rfl rfl rfl rfl (aw rfl rfl rfl rfl (aw rfl rfl rfl rfl (aw rfl rfl rfl rfl (aZ rfl rfl rfl (ad rfl rfl (aw rfl rfl rfl rfl (aw rfl rfl rfl rfl (aw rfl rfl rfl rfl (aw rfl rfl rfl rfl (aZ rfl rfl rfl (ab ?_)))))))))));refine ot rfl (aj (ae (ah rfl rfl (ab (aP ?_)))));refine aV rfl rfl ⟨congrArg Value.bool (dJ ?_),S.aB mQ⟩;rw[hr,mJ hx]
     first
     |(rw[decide_eq_false (show¬last<d by omega)];simp;done)
     |(rw[decide_eq_false (show¬d<2147483648 by omega)];simp;done)
     |(rw[show ps=[]from cZ.1 (by omega)];simp;done)
     |(simp[c5];done)
    ·refine al rfl rfl ?_;refine aQ (M:=M) (A:=RT.po) (B:=(RT.int .i64).sl) bK rfl rfl jY (by decide) (UP) rfl rfl (by decide) (by assumption) (by repeat (first|exact aq _ _|refine bc (bF (by assumption)) ?_)) (fun am2 ahA=>?_);refine al rfl rfl ?_;refine bU (M:=M) ao rfl rfl rfl rfl rfl (by assumption) (by repeat (first|exact aq _ _|refine bc (bF (by assumption)) ?_)) (fun am3 Wq=>?_);refine al rfl rfl (bN ao rfl Wq rfl (aU (v':= .int .i64 ps.length) rfl (al rfl rfl (tY rfl rfl rfl (aE rfl rfl rfl (ad rfl rfl ?_))))));refine aS (g:=27) rfl (fun TD=>?_) (fun TD=>?_)
     ·refine aw rfl rfl rfl rfl (aw rfl rfl rfl rfl (aw rfl rfl rfl rfl (aw rfl rfl rfl rfl (aZ rfl rfl rfl (ab (ot rfl (aj (ae (ah rfl rfl (ab (aP ?_)))))))))));refine aV rfl rfl ⟨congrArg Value.bool (dJ ?_),S.aB mQ⟩;rw[hr,mJ hx]
      first
      |(rw[decide_eq_false (show¬last<d by omega)];simp;done)
      |(rw[decide_eq_false (show¬d<2147483648 by omega)];simp;done)
      |(rw[show ps=[]from cZ.1 (by omega)];simp;done)
      |(simp[c5];done)
     ·refine al rfl rfl ?_;refine aQ (M:=M) (A:=RT.po) (B:=(RT.int .i64).sl) bK rfl rfl jY (by decide) (UP) rfl rfl (by decide) (by assumption) (by repeat (first|exact aq _ _|refine bc (bF (by assumption)) ?_)) (fun am4 ahB=>?_);refine al rfl rfl ?_;refine bU (M:=M) ao rfl rfl rfl rfl rfl (by assumption) (by repeat (first|exact aq _ _|refine bc (bF (by assumption)) ?_)) (fun am5 Wr=>?_);refine al rfl rfl ?_;refine aX rfl rfl afd (E6 Wr) (fun r5 w5 h5=>?_);obtain⟨rfl,rfl⟩:=h5;refine al rfl rfl (lY rfl rfl (aU (v':= .bool (decide (¬pz ps=true))) (by simp) (aE rfl rfl rfl (ab ?_))));refine bM rfl (fun c5=>?_) (fun c5=>?_)
      ·refine aj (ae (ah rfl rfl (ab (aP ?_))));refine aV rfl rfl ⟨congrArg Value.bool (dJ ?_),S.aB mQ⟩;rw[hr,mJ hx]
       first
       |(rw[decide_eq_false (show¬last<d by omega)];simp;done)
       |(rw[decide_eq_false (show¬d<2147483648 by omega)];simp;done)
       |(rw[show ps=[]from cZ.1 (by omega)];simp;done)
       |(simp[c5];done)
      ·refine aT (ae ?_);refine aQ (M:=M) (A:=RT.po) (B:=RT.int .i64) bK rfl rfl I3 (by decide) (PO) rfl rfl (by decide) (by assumption) (by repeat (first|exact aq _ _|refine bc (bF (by assumption)) ?_)) (fun ZR IH=>?_);refine cd (M:=M) ax rfl rfl IH (aq _ _) (fun am6=>?_);refine aU (v':= .int .i64 d) rfl (ah rfl rfl (ab (ae (bG rfl rfl rfl (by omega) (ad rfl rfl (ab ?_))))));refine⟨rfl,(k+1,d),(.cons rfl (.cons rfl (.cons rfl (.cons rfl .nil)))),?_,?_⟩
       ·refine⟨S.aB mQ,by simp only;omega,?_⟩
        have eN:ps.isEmpty=false:=by cases ps with
         |nil=>simp at TD
         |cons a t=>rfl
        rw[hr,mJ hx,decide_eq_true (show last<d by omega),decide_eq_true (show d<2147483648 by omega),eN,cP.1 c5];rfl
       ·simp only;omega
  ·refine cH (aj (ae (ah rfl rfl (ab (aP ?_)))));refine aV rfl rfl ⟨congrArg Value.bool (dJ ?_),S⟩;rw[hr,fB (by omega)];rfl
theorem HH {M:aD} {w0:World} {v:Value} {l:List Po} (hM:Lt M w0) (hv:((RT.po).sl).V M w0 l v):
  Spec Tryz.prog 194 #[v,.int .i64 8] w0 (fun v' w'=>∃bs bn,v'= .func (.func 250) [].toArray [.pointer (some ⟨bs,0,none⟩),.pointer (some ⟨bn,0,none⟩)].toArray∧w'.heap[bs]? =some (.cells #[v] 80 (0,0))∧w'.heap[bn]? =some (.cells #[.int .i64 8] 3 (0,0))∧w0.heap.size≤bs∧w0.heap.size≤bn∧Step M w0 M w' aC):=by
 refine bg (args:=[_,_]) (fn:=Tryz.f194) Tryz.func194 rfl (n:=9) Tryz.ntmps194 (aj (ae ?_));refine xM M rfl rfl (fun bs w1 h1 X7 hS s1=>?_);rw[jE hv]at hS;refine xM (ins M bs) rfl rfl (fun bn w2 h2 xT hN s2=>?_);have hS2:=s2.aL hS;have hz1:=s1.size;refine ah rfl rfl (ab (aj (aj (ae (aN ax rfl rfl rfl hN rfl (cg rfl rfl rfl (ab (T.vP rfl ((by decide)) (aT (aj (ae ?_)))))))))));refine kr (xs:=[]) (ys:=[.tmp 2,.tmp 3]) rfl rfl rfl (ah rfl rfl (ab (aP ?_)));exact aV rfl rfl ⟨bs,bn,rfl,hS2,hN,h1,by omega,(s1.aB s2).back⟩
theorem E7 {w0:World} {bs bn yl:Nat} {v:Value} {l:List Po} {M:aD} {wv:World} {J:Nat→World→Prop} {Jx:World→Prop} (hv:((RT.po).sl).V M wv l v) (kM:∀i w w',J i w→Step aC w aC w' aC→J i w') (I1:∀i w,J i w→w.heap[bs]? =some (.cells #[v] 80 (0,0))∧w.heap[bn]? =some (.cells #[.int .i64 8] 3 (0,0))) (hy:∀(i:Nat) (w:World) (u:Value),J i w→i<l.length→((RT.po).sl).V M wv ((l.drop i).take 8) u→xj Tryz.prog yl [u].toArray w (fun r w'=>∃b,r= .bool b∧(b=true→J (min (i+8) l.length) w')∧(b=false→Jx w'))) (h0:J 0 w0):
  Spec Tryz.prog 250 #[.func (.yield yl) #[] #[],.pointer (some ⟨bs,0,none⟩),.pointer (some ⟨bn,0,none⟩)] w0 (fun _ w'=>J l.length w'∨Jx w'):=by
 have hlen:=dD hv;refine bg (args:=[_,_,_]) (fn:=Tryz.f250) Tryz.func250 rfl (n:=31) Tryz.ntmps250 (aj (ae (ah rfl rfl (ab (aY ?_)))));refine dh (σ:=Nat) (fun s=>[(0,.func (.yield yl) #[] #[]),(1,.pointer (some ⟨bs,0,none⟩)),(2,.pointer (some ⟨bn,0,none⟩)),(4,.int .i64 s)]) (fun s w=>J (min s l.length) w∧s≤l.length+8) (fun s=>l.length+8-s) 0 (.cons rfl (.cons rfl (.cons rfl (.cons rfl .nil)))) ?_ ?_
 ·exact⟨by rw[Nat.zero_min];exact h0,bD _⟩
 ·rintro k w1 ⟨hJ,hk⟩;obtain⟨mP,oC⟩:=I1 _ _ hJ;refine aj (aj (ae (ad rfl rfl (aN bA rfl rfl rfl mP rfl ?_))))
  first|refine bN bA rfl (by assumption) rfl ?_|refine fS bA rfl (by assumption) rfl ?_
  refine cg rfl rfl rfl (ab ?_);refine bM rfl (fun c1=>?_) (fun c1=>?_)
  ·refine aT (aj (aY (aj ?_)));apply T.draw (M:=aC) mixed [cG.eq _,cG.eq _,cG.eq _,cG.pure (fun v=>((RT.po).sl).V M wv (l.drop k) v),cG.eq _,cG.eq _,cG.eq _]
   ·rfl
   ·refine bQ ?_ ?_
    ·intro wD E sD;refine aN ax rfl rfl rfl (de sD oC) rfl ?_;exact ab ⟨rfl,rfl,_,rfl,rfl,au _ _⟩
    refine bQ ?_ ?_
    ·intro wD E sD;refine aN bA rfl rfl rfl (de sD mP) rfl ?_;exact ab ⟨rfl,rfl,_,rfl,rfl,au _ _⟩
    refine bQ ?_ ?_
    ·intro wD E sD;refine ad rfl rfl ?_;exact ab ⟨rfl,rfl,_,rfl,rfl,au _ _⟩
    refine bQ ?_ ?_
    ·intro wD E sD;refine aM (aM ?_);refine Rg.Qb (A:=RT.po) (hn:=by decide) bA l4 rfl rfl rfl hv (by omega) (fun u hu=>?_);rw[ay]at hu;exact ab ⟨rfl,rfl,_,rfl,hu,au _ _⟩
    refine bQ ?_ ?_
    ·intro wD E sD;intro v3 xr;have ahC:((RT.po).sl).V M wv (l.drop k) v3:=xr;refine bN bA rfl ahC rfl ?_;exact ab ⟨rfl,rfl,_,rfl,rfl,au _ _⟩
    refine bQ ?_ ?_
    ·intro wD E sD;refine aM (aM (Rg.min2 rfl rfl rfl ?_));exact ab ⟨rfl,rfl,_,rfl,rfl,au _ _⟩
    refine bQ ?_ ?_
    ·intro wD E sD;refine aM (aM (aM (aM ?_)));intro v3 xr;refine aM (aM (ah rfl rfl ?_));exact ab ⟨rfl,rfl,_,rfl,rfl,au _ _⟩
    exact dA.nil
   ·intro Zt rA;refine aM (aM (aM ?_));intro ahq aaH;refine aM (aM (aM ?_));rw[show min k l.length=k from by omega]at hJ;have Z8:=kM _ _ _ hJ rA;obtain⟨hb3,rW⟩:=I1 _ _ Z8;refine aj (ae (ad rfl rfl (aN bA rfl rfl rfl hb3 rfl (ad rfl rfl (ad rfl rfl (ad rfl rfl (bG rfl rfl rfl (by omega) (ad rfl rfl (ad rfl rfl (bG rfl rfl rfl (by omega) ?_))))))))));refine Rg.JK (A:=RT.po) (hn:=by decide) bA l4 rfl rfl rfl rfl rfl hv (by rw[dC];omega) (fun u hu=>?_)
    have he:(l.take ((k:Int)+min 8 ((l.drop k).length:Int)).toNat).drop (k:Int).toNat=(l.drop k).take 8:=by
     rw[ay,List.drop_take,dC,show((k:Int)+min 8 ((l.length-k:Nat):Int)).toNat-k=min 8 (l.length-k)from by omega,List.take_eq_take_iff,dC];omega
    rw[he]at hu;refine Rg.yield rfl (vs:=[u]) rfl rfl (hy k _ u Z8 (by omega) hu) (fun r4 w4 h4=>?_);obtain⟨b,rfl,SG,qT⟩:=h4;refine lY rfl rfl (aU (v':= .bool (decide (¬b=true))) (by simp) (ab ?_));refine bM rfl (fun c4=>?_) (fun c4=>?_)
    ·refine aP ?_;exact DD rfl (.inr (qT (by simpa using c4)))
    ·refine aT (ae (ad rfl rfl ?_));have hJ5:=SG (cP.1 c4);refine aN ax rfl rfl rfl (I1 _ _ hJ5).2 rfl (bG rfl rfl rfl (by omega) (ah rfl rfl (ab ?_)));refine⟨rfl,k+8,(.cons rfl (.cons rfl (.cons rfl (.cons rfl .nil)))),?_,?_⟩
     ·exact⟨hJ5,by omega⟩
     ·show l.length+8-(k+8)<l.length+8-k;omega
  ·refine cH ?_;rw[show min k l.length=l.length from by omega]at hJ;change xQ Tryz.prog Tryz.f250 (fun _ w'=>J l.length w'∨Jx w') .normal _ [] _;exact gj rfl (.inl hJ)
end Go.K
namespace Go.K
open Go.Proofs
set_option maxRecDepth 10000
structure nZ (M:aD) (w0:World) (v:Value) (bo bx bl D bs bn:Nat) (st:Obj) (vb vk:Value) (sG last:Int) (b:List UInt8) (ks:List Bl) (M1:aD) (w:World):Prop where
 lt:Lt M1 w
 S:Step M w0 M1 w aC
 mo:M1 bo
 mx:M1 bx
 ml:M1 bl
 md:M1 D
 mr:M1 (D+1)
 o:w.heap[bo]? =some (.cells #[.pointer (some ⟨bx,0,none⟩)] 142 (0,0))
 x:w.heap[bx]? =some (.cells #[vb,vk,.int .i64 sG] 207 (0,0))
 l:w.heap[bl]? =some (.cells #[.int .i64 last] 3 (0,0))
 d:w.heap[D]? =some (.deferred (some []))
 r:w.heap[D+1]? =some st
 s:w.heap[bs]? =some (.cells #[v] 80 (0,0))
 n:w.heap[bn]? =some (.cells #[.int .i64 8] 3 (0,0))
 ne:bo≠bx∧bo≠bl∧bx≠bl∧bo<D∧bx<D∧bl<D∧bs<D∧bn<D∧bs≠bo∧bs≠bx∧bs≠bl∧bn≠bo∧bn≠bx∧bn≠bl∧w0.heap.size≤bo∧w0.heap.size≤bx∧w0.heap.size≤bl∧w0.heap.size≤D
 hb:(RT.u8.sl).V M1 w b vb
 hk:Own RT.bl 209 M1 w (D+2) vk ks
section
variable {M M1 M2:aD} {w0 w w':World} {v vb vk:Value} {bo bx bl D bs bn:Nat} {st:Obj} {sG last:Int} {b:List UInt8} {ks:List Bl}
theorem nZ.step (h:nZ M w0 v bo bx bl D bs bn st vb vk sG last b ks M1 w) (s:Step M1 w M2 w' aC):nZ M w0 v bo bx bl D bs bn st vb vk sG last b ks M2 w':=
 ⟨s.lt h.lt,h.S.aB s,(s.mem _ (h.lt _ h.mo)).2 h.mo,(s.mem _ (h.lt _ h.mx)).2 h.mx,(s.mem _ (h.lt _ h.ml)).2 h.ml,(s.mem _ (h.lt _ h.md)).2 h.md,(s.mem _ (h.lt _ h.mr)).2 h.mr,
  s.aL h.o,s.aL h.x,s.aL h.l,s.aL h.d,s.aL h.r,s.aL h.s,s.aL h.n,h.ne,h.hb.le s.le,h.hk.aO s⟩
theorem nZ.Rl {n:Int} (h:nZ M w0 v bo bx bl D bs bn st vb vk sG last b ks M1 w) (s:Step M1 w M1 w' (fun k=>k=bl)) (hl:w'.heap[bl]? =some (.cells #[.int .i64 n] 3 (0,0))):nZ M w0 v bo bx bl D bs bn st vb vk sG n b ks M1 w':=by
 obtain⟨e1,e2,e3,e4,e5,e6,e7,e8,e9,Yl,e11,Ym,Yn,e14,e15,Yo,TE,e18⟩:=h.ne
 exact⟨s.lt h.lt,h.S.cf s (fun k hk=>by subst hk;exact TE),h.mo,h.mx,h.ml,h.md,h.mr,s.keep h.o e2,s.keep h.x e3,hl,s.keep h.d (by omega),s.keep h.r (by omega),s.keep h.s e11,s.keep h.n e14,h.ne,h.hb.le s.le,
  h.hk.step s (fun k hk hh=>by have:=(h.hk.base k hk).1;omega)⟩
theorem nZ.Ws {vb' Wt:Value} {aaS:Int} {b':List UInt8} {ks':List Bl} (h:nZ M w0 v bo bx bl D bs bn st vb vk sG last b ks M1 w) (s:Step M1 w M1 w' (fun k=>k=bx)) (hx:w'.heap[bx]? =some (.cells #[vb',Wt,.int .i64 aaS] 207 (0,0)))
  (hb:(RT.u8.sl).V M1 w' b' vb') (hk:Own RT.bl 209 M1 w (D+2) Wt ks'):nZ M w0 v bo bx bl D bs bn st vb' Wt aaS last b' ks' M1 w':=by
 obtain⟨e1,e2,e3,e4,e5,e6,e7,e8,e9,Yl,e11,Ym,Yn,e14,e15,Yo,TE,e18⟩:=h.ne
 exact⟨s.lt h.lt,h.S.cf s (fun k hk=>by subst hk;exact Yo),h.mo,h.mx,h.ml,h.md,h.mr,s.keep h.o e1,hx,s.keep h.l (Ne.symm e3),s.keep h.d (by omega),s.keep h.r (by omega),s.keep h.s Yl,s.keep h.n Yn,h.ne,hb,
  hk.step s (fun k uj hh=>by have:=(hk.base k uj).1;omega)⟩
theorem nZ.na {st':Obj} (h:nZ M w0 v bo bx bl D bs bn st vb vk sG last b ks M1 w) (kM:w.heap[D+1]? =some st):nZ M w0 v bo bx bl D bs bn st' vb vk sG last b ks M1 (w.putObj (D+1) st'):=by
 have s:Step M1 w M1 (w.putObj (D+1) st') (fun k=>k=D+1):=dZ h.mr;obtain⟨e1,e2,e3,e4,e5,e6,e7,e8,e9,Yl,e11,Ym,Yn,e14,e15,Yo,TE,e18⟩:=h.ne
 exact⟨s.lt h.lt,h.S.cf s (fun k hk=>by subst hk;omega),h.mo,h.mx,h.ml,h.md,h.mr,s.keep h.o (by omega),s.keep h.x (by omega),s.keep h.l (by omega),s.keep h.d (by omega),xN (ak kM),s.keep h.s (by omega),s.keep h.n (by omega),h.ne,h.hb.le s.le,
  h.hk.step s (fun k uj hh=>by have:=(h.hk.base k uj).1;omega)⟩
theorem nZ.other {q:Nat} (h:nZ M w0 v bo bx bl D bs bn st vb vk sG last b ks M1 w) (s:Step M1 w M1 w' (fun k=>k=q)) (hq:D+1<q) (hqv:∀k,vk.ownBlock=some k→k≠q):nZ M w0 v bo bx bl D bs bn st vb vk sG last b ks M1 w':=by
 obtain⟨e1,e2,e3,e4,e5,e6,e7,e8,e9,Yl,e11,Ym,Yn,e14,e15,Yo,TE,e18⟩:=h.ne
 exact⟨s.lt h.lt,h.S.cf s (fun k hk=>by subst hk;omega),h.mo,h.mx,h.ml,h.md,h.mr,s.keep h.o (by omega),s.keep h.x (by omega),s.keep h.l (by omega),s.keep h.d (by omega),s.keep h.r (by omega),s.keep h.s (by omega),s.keep h.n (by omega),h.ne,h.hb.le s.le,
  h.hk.step s (fun k uj hh=>hqv k uj hh)⟩
theorem nZ.grow {Wt:Value} {ks':List Bl} (h:nZ M w0 v bo bx bl D bs bn st vb vk sG last b ks M1 w) (s:Step M1 w M2 w' (fun k=>vk.ownBlock=some k)) (hk:Own RT.bl 209 M2 w' (D+2) Wt ks'):
  (w'.heap[bx]? =some (.cells #[vb,vk,.int .i64 sG] 207 (0,0))∧M2 bx∧Lt M2 w')∧∀{w2:World},Step M2 w' M2 w2 (fun k=>k=bx)→w2.heap[bx]? =some (.cells #[vb,Wt,.int .i64 sG] 207 (0,0))→nZ M w0 v bo bx bl D bs bn st vb Wt sG last b ks' M2 w2:=by
 obtain⟨e1,e2,e3,e4,e5,e6,e7,e8,e9,Yl,e11,Ym,Yn,e14,e15,Yo,TE,e18⟩:=h.ne;have hn:∀k,vk.ownBlock=some k→D+2≤k:=fun k hk=>(h.hk.base k hk).1
 have eV:=fun {k:Nat} (hm:M1 k)=>(s.mem k (h.lt k hm)).2 hm
 refine⟨⟨s.keep h.x (fun hh=>by have:=hn _ hh;omega),eV h.mx,s.lt h.lt⟩,fun {w2} s2 hx=>?_⟩;have S':=h.S.cf s (fun k hk=>by have:=hn k hk;omega)
 exact⟨s2.lt (s.lt h.lt),S'.cf s2 (fun k hk=>by subst hk;exact Yo),eV h.mo,eV h.mx,eV h.ml,eV h.md,eV h.mr,s2.keep (s.keep h.o (fun hh=>by have:=hn _ hh;omega)) e1,hx,s2.keep (s.keep h.l (fun hh=>by have:=hn _ hh;omega)) (Ne.symm e3),
  s2.keep (s.keep h.d (fun hh=>by have:=hn _ hh;omega)) (by omega),s2.keep (s.keep h.r (fun hh=>by have:=hn _ hh;omega)) (by omega),s2.keep (s.keep h.s (fun hh=>by have:=hn _ hh;omega)) Yl,s2.keep (s.keep h.n (fun hh=>by have:=hn _ hh;omega)) Yn,h.ne,(h.hb.le s.le).le s2.le,
  hk.step s2 (fun k uj hh=>by have:=(hk.base k uj).1;omega)⟩
end
def Oe (M:aD) (w0:World) (l:List Po) (v:Value) (bo bx bl D bs bn:Nat) (st:Obj) (i:Nat) (w:World):Prop:=
 ∃(M1:aD) (vb vk:Value),nZ M w0 v bo bx bl D bs bn st vb vk (jv (l.take i)) (dB (-1) (l.take i)) (eh (-1) (l.take i)) (rU l ((i+7)/8)) M1 w∧(i%8=0∨i=l.length)∧i≤l.length
theorem Wu {M:aD} {w0 w2 w3 w5 w6 w7:World} {v:Value} {l:List Po} {bo bx bl bs bn:Nat} {st:Obj} (S6:Step M w0 (ins (ins (ins M bx) bo) bl) w6 aC) (s7:Step (ins (ins (ins M bx) bo) bl) w6 (ins (ins (ins M bx) bo) bl) w7 aC) (hM:Lt M w0)
  (e1:bo<w6.heap.size) (e2:bx<w6.heap.size) (e3:bl<w6.heap.size) (n1:bo≠bx) (n2:bo≠bl) (n3:bx≠bl)
  (hO:w6.heap[bo]? =some (.cells #[.pointer (some ⟨bx,0,none⟩)] 142 (0,0))) (hX:w6.heap[bx]? =some (.cells #[.slice none 0 0,.slice none 0 0,.int .i64 0] 207 (0,0))) (hL:w6.heap[bl]? =some (.cells #[.int .i64 (-1)] 3 (0,0)))
  (hS:w7.heap[bs]? =some (.cells #[v] 80 (0,0))) (hN:w7.heap[bn]? =some (.cells #[.int .i64 8] 3 (0,0))) (hbs:w6.heap.size≤bs) (hbn:w6.heap.size≤bn)
  (g1:w0.heap.size≤bo) (g2:w0.heap.size≤bx) (g3:w0.heap.size≤bl):
  Oe M w0 l v bo bx bl w7.heap.size bs bn st 0 ((w7.alloc (.deferred (some []))).alloc st):=by
 have sA:Step (ins (ins (ins M bx) bo) bl) w7 (ins (ins (ins (ins M bx) bo) bl) w7.heap.size) (w7.alloc (.deferred (some []))) aC:=(cW _ w7 _).own (aR _) (by simp);have sB:Step (ins (ins (ins (ins M bx) bo) bl) w7.heap.size) (w7.alloc (.deferred (some []))) (ins (ins (ins (ins (ins M bx) bo) bl) w7.heap.size) (w7.heap.size+1)) ((w7.alloc (.deferred (some []))).alloc st) aC:=(cW _ _ _).own (by simp) (by simp);have z7:=s7.size;have hs7:=ak hS;have hn7:=ak hN;have S:=((S6.aB s7).aB sA).aB sB;have hD:(w7.alloc (.deferred (some []))).heap[w7.heap.size]? =some (.deferred (some [])):=cj w7 _;have hR:((w7.alloc (.deferred (some []))).alloc st).heap[w7.heap.size+1]? =some st:=by have:=cj (w7.alloc (.deferred (some []))) st;rwa [AJ]at this
 have z0:=S6.size;refine⟨_,.slice none 0 0,.slice none 0 0,⟨S.lt hM,S,?_,?_,?_,?_,.inl rfl,sB.aL (sA.aL (s7.aL hO)),sB.aL (sA.aL (s7.aL hX)),sB.aL (sA.aL (s7.aL hL)),sB.aL hD,hR,sB.aL (sA.aL hS),sB.aL (sA.aL hN),by omega,pW,dz _ _ _ _ _⟩,.inl rfl,bD _⟩
 ·exact .inr (.inr (.inr (.inl rfl)))
 ·exact .inr (.inr (.inr (.inr (.inl rfl))))
 ·exact .inr (.inr (.inl rfl))
 ·exact .inr (.inl rfl)
set_option maxHeartbeats 4000000 in
theorem BP {M:aD} {w0:World} {v:Value} {l:List Po} (hM:Lt M w0) (hv:((RT.po).sl).V M w0 l v) (ky:∀p∈l,p.2.length≤1099511627776) (kQ:(eh (-1) l).length≤35184372088832) (Jy:l.length≤1099511627776) (Wv:jv l≤4611686018427387904):
  Spec Tryz.prog 145 #[v] w0 (fun v' w'=>Step M w0 M w' aC∧(fN (-1) l=true→∃p,v'= .tuple #[p,.int .i64 0]∧cO RT.li M w' p (nV l))∧(fN (-1) l=false→v'= .tuple #[.pointer none,.int .i64 1])):=by
 have hlen:=dD hv;refine oH (args:=[_]) (fn:=Tryz.f145) Tryz.func145 rfl (n:=85) Tryz.ntmps145 (aj (ae (ah rfl rfl (ah rfl rfl (ab (aj (aj (ae (ad rfl rfl ?_)))))))));refine aX rfl rfl ae2 (Ko hM hv) (fun r w1 h1=>?_);obtain⟨rfl,s1⟩:=h1;refine lY rfl rfl (aU (v':= .bool (decide (¬fN (-1) l=true))) (by simp) (ab ?_));refine bM rfl (fun c1=>?_) (fun c1=>?_)
 ·refine aj (ae (ah rfl rfl (ah rfl rfl (ab (aP ?_)))));exact Qm rfl rfl rfl ⟨s1,fun h=>absurd h c1,fun _=>rfl⟩
 ·have ny:=cP.1 c1;refine aT (aj (ae (iM (places:=[(0,1),(1,1),(2,1)]) eH aeI aeK rfl rfl (out:=[.slice none 0 0,.slice none 0 0,.int .i64 0]) rfl ?_)));refine xM M rfl rfl (fun bx w2 I1 arM hX s2=>?_);change w2.heap[bx]? =some (.cells #[.slice none 0 0,.slice none 0 0,.int .i64 0] 207 (0,0))at hX;refine dU (ins M bx) AQ rfl (fun bo w3 Of aaU hO s3=>?_);refine cw (M:=ins (ins M bx) bo) AQ rfl rfl hO rfl rfl (.inl rfl) (fun w4 hO4 s4=>?_);refine ab (aj (ae ?_));refine dU (ins (ins M bx) bo) I3 rfl (fun bl w5 arO ana hL s5=>?_);refine cw (M:=ins (ins (ins M bx) bo) bl) I3 rfl rfl hL rfl rfl (.inl rfl) (fun w6 hL6 s6=>?_);have z1:=s1.size;have z2:=s2.size;have z3:=s3.size;have z4:=s4.size;have z5:=s5.size;have z6:=s6.size;have S6:Step M w0 (ins (ins (ins M bx) bo) bl) w6 aC:=((((s1.aB s2).aB s3).cf s4 (fun k hk=>by subst hk;omega)).aB s5).cf s6 (fun k hk=>by subst hk;omega);have hO6:=s6.keep (s5.aL hO4) (show bo≠bl by omega);have hX6:=s6.keep (s5.aL (s4.keep (s3.aL hX) (show bx≠bo by omega))) (show bx≠bl by omega);refine ab (aj (aj (ae (ad rfl rfl ?_))));refine aX rfl rfl ae3 (HH (M:=ins (ins (ins M bx) bo) bl) (S6.lt hM) (hv.le S6.le)) (fun r w7 h7=>?_);obtain⟨bs,bn,rfl,hS7,hN7,hbs,hbn,s7⟩:=h7;have z7:=s7.size;have arS:=ak hS7;have arT:=ak hN7;refine ab (aY ?_);refine T.range (gf:=250) (lb:=[.pointer (some ⟨bs,0,none⟩),.pointer (some ⟨bn,0,none⟩)].toArray) rfl afe (fun rec nU=>?_);obtain⟨D,hD⟩:∃D,D=w7.heap.size:=⟨_,rfl⟩;rw[←hD]at nU ⊢
  have h0:Oe M w0 l v bo bx bl D bs bn (.loop (rec .ready none)) 0 ((w7.alloc (.deferred (some []))).alloc (.loop (rec .ready none))):=by
   rw[hD]at nU ⊢;exact Wu (w2:=w7) (w3:=w7) (w5:=w7) S6 s7 hM (by omega) (by omega) (by omega) (by omega) (by omega) (by omega) hO6 hX6 hL6 hS7 hN7 hbs hbn (by omega) (by omega) (by omega)
  refine Spec.mono (E7 (M:=M) (wv:=w0) (J:=Oe M w0 l v bo bx bl D bs bn (.loop (rec .ready none))) (Jx:=fun _=>False) hv (fun i w w' ⟨M1,vb,vk,h,h2⟩ s=>⟨M1,vb,vk,h.step (s.any M1),h2⟩) (fun i w ⟨M1,vb,vk,h,h2⟩=>⟨h.s,h.n⟩) (fun i wr u hJ hi hu=>?_) h0) (fun _ w3 h3=>?_)
  ·obtain⟨M1,vb,vk,h,hi8,ou⟩:=hJ;refine mg (ps:=[17]) (vs:=[u]) nU h.r rfl (by decide) (ae (ah rfl rfl (ab ?_)));refine⟨rfl,h.r,?_⟩;have h1:=h.na (st':= .loop (rec .busy none)) h.r;generalize wr.putObj (D+1) _=wB at h1 ⊢;have hO:=h1.o;have hX:=h1.x;have hL:=h1.l;have hB:=h1.hb;have dY:=h1.lt;have vV:((l.drop i).take 8).length≤8:=by rw[br];omega
   have arU:((l.drop i).take 8).length=min 8 (l.length-i):=by rw[br,dC]
   obtain⟨q1,q2,q3,q4,q5,q6,q7,q8,q9,q10,q11,q12,q13,q14,q15,q16,q17,q18⟩:=h1.ne;refine aY (aj ?_);apply T.Iq (M:=M1) (n:=85) _ mixed [] [cG.eq _,cG.eq _,cG.eq _,cG.eq _,cG.eq _,cG.eq _,cG.eq _,cG.eq _,cG.eq _,cG.mk' (fun p w'=>∃bq,p= .pointer (some ⟨bq,0,none⟩)∧wB.heap.size≤bq∧w'.heap[bq]? =some (.cells #[.int .i64 0,.int .i64 0,.int .i64 0,.int .i64 0] 209 (0,0))) (fun⟨bq,h1,h2,h3⟩ s=>⟨bq,h1,h2,s.aL h3⟩)]
   ·rfl
   ·rfl
   ·rfl
   ·rfl
   ·exact fun p hp=>by cases hp
   ·exact vT.none
   ·refine aG ?_ ?_
    ·intro wD E sD;refine aN eZ rfl rfl rfl (de sD (by assumption)) rfl ?_;exact ab ⟨rfl,rfl,_,rfl,rfl,au _ _⟩
    refine aG ?_ ?_
    ·intro wD E sD;refine aM (bT rfl ⟨_,rfl⟩ rfl ?_);exact ab ⟨rfl,rfl,_,rfl,rfl,au _ _⟩
    refine aG ?_ ?_
    ·intro wD E sD;refine aM (bJ eH rfl rfl D2 (by decide) rfl rfl ?_);exact ab ⟨rfl,rfl,_,rfl,rfl,au _ _⟩
    refine aG ?_ ?_
    ·intro wD E sD;refine aM (aN bP rfl rfl rfl (de sD (by assumption)) rfl ?_);exact ab ⟨rfl,rfl,_,rfl,rfl,au _ _⟩
    refine aG ?_ ?_
    ·intro wD E sD;refine aM ?_
     first|refine bN bP rfl (by assumption) rfl ?_|refine fS bP rfl (by assumption) rfl ?_
     exact ab ⟨rfl,rfl,_,rfl,rfl,au _ _⟩
    refine aG ?_ ?_
    ·intro wD E sD;refine aN ax rfl rfl rfl (de sD (by assumption)) rfl ?_;exact ab ⟨rfl,rfl,_,rfl,rfl,au _ _⟩
    refine aG ?_ ?_
    ·intro wD E sD;refine ad rfl rfl ?_;exact ab ⟨rfl,rfl,_,rfl,rfl,au _ _⟩
    refine aG ?_ ?_
    ·intro wD E sD;refine aM ?_
     first|refine bN bA rfl (by assumption) rfl ?_|refine fS bA rfl (by assumption) rfl ?_
     exact ab ⟨rfl,rfl,_,rfl,rfl,au _ _⟩
    refine aG ?_ ?_
    ·intro wD E sD;refine aM (aM (aM (iM (places:=[(0,1),(1,1),(2,1),(3,1)]) th Cs aeL rfl ⟨_,_,rfl,rfl,_,_,rfl,rfl,_,_,rfl,rfl,rfl⟩ (out:=[.int .i64 (eh (-1) (l.take i)).length,.int .i64 (dB (-1) (l.take i)),.int .i64 0,.int .i64 ((l.drop i).take 8).length]) ⟨0,[_],rfl,rfl,by simp[Value.cells],1,[_],rfl,rfl,by simp[Value.cells],3,[_],rfl,rfl,by simp[Value.cells],rfl⟩ ?_)));exact ab ⟨rfl,rfl,_,rfl,rfl,au _ _⟩
    refine aG ?_ ?_
    ·intro wD E sD;refine dU M1 Cs rfl (fun bq wq e1 e2 e3 s=>?_);exact ab ⟨rfl,rfl,_,rfl,⟨bq,rfl,ez sD.size e1,e3⟩,s.back⟩
    exact ti
   ·intro wD7 sD7;refine aM (aM (aM (aM (aM (aM (aM (aM (aM ?_))))))));intro ar6 aaV;obtain⟨bq,rfl,UH,hq2⟩:=aaV;have Sx:=ak hq2;have sQ:Step M1 wB (ins M1 bq) wD7 aC:=sD7.own UH Sx;refine dI (M:=ins M1 bq) (vs:=[.int .i64 (eh (-1) (l.take i)).length,.int .i64 (dB (-1) (l.take i)),.int .i64 0,.int .i64 ((l.drop i).take 8).length]) Cs rfl rfl (by intro x hx;simp at hx;rcases hx with rfl|rfl|rfl|rfl<;>rfl) rfl rfl hq2 (.inl rfl) (fun wQ hQ sQ2=>?_);refine ab ⟨rfl,?_⟩;have h2:=h1.step (sQ.cf sQ2 (fun k hk=>by subst hk;exact UH));have hqv:∀k,vk.ownBlock=some k→k≠bq:=fun k hk=>by have:=(h1.hk.base k hk).2;omega
    have hDq:D+1<bq:=by have:=ak h1.r;omega
    have h3:nZ M w0 v bo bx bl D bs bn (.loop (rec .busy none)) vb vk (jv (l.take (i+0))) (dB (-1) (l.take (i+0))) (eh (-1) (l.take (i+0))) (rU l ((i+7)/8)) (ins M1 bq) wQ:=h2;obtain⟨M2,Gg⟩:∃M2,M2=ins M1 bq:=⟨_,rfl⟩;rw[←Gg]at h3;refine aj (aj (ae (ad rfl rfl ?_)))
    first|refine bN bA rfl (by assumption) rfl ?_|refine fS bA rfl (by assumption) rfl ?_
    refine ad rfl rfl (ab (aY ?_));refine dh (σ:=Nat×Value) (fun s=>[(4,.pointer (some ⟨bo,0,none⟩)),(5,.pointer (some ⟨bl,0,none⟩)),(6,u),(7,.pointer (some ⟨bq,0,none⟩)),(27,u),(28,.int .i64 ((l.drop i).take 8).length),(29,.int .i64 s.1)]) (fun s w=>s.1≤((l.drop i).take 8).length∧w.heap[bq]? =some (.cells #[.int .i64 (eh (-1) (l.take i)).length,.int .i64 (dB (-1) (l.take i)),.int .i64 0,.int .i64 ((l.drop i).take 8).length] 209 (0,0))∧nZ M w0 v bo bx bl D bs bn (.loop (rec .busy none)) s.2 vk (jv (l.take (i+s.1))) (dB (-1) (l.take (i+s.1))) (eh (-1) (l.take (i+s.1))) (rU l ((i+7)/8)) M2 w) (fun s=>((l.drop i).take 8).length-s.1) (0,vb) (.cons rfl (.cons rfl (.cons rfl (.cons rfl (.cons rfl (.cons rfl (.cons rfl .nil))))))) ?_ ?_
    ·exact⟨bD _,hQ,h3⟩
    ·rintro⟨j,vb⟩ wj ⟨hj,hQ,h4⟩;dsimp only at hj hQ h4 ⊢;have dY:=h4.lt;refine aj (ae (cg rfl rfl rfl (ab (aj ?_))));refine bM rfl (fun c9=>?_) (fun c9=>?_)
     ·refine aT (aj (aY (aj (ae ?_))));obtain⟨⟨d,ps⟩,hx⟩:∃x,l[i+j]? =some x:=⟨_,ar (by omega)⟩;obtain⟨f1,f2,f3,f4,f5,f6⟩:=Cm ny hx;obtain⟨f7,f8⟩:=pA.1 f4;have fps:=ky _ (az hx);have fb:=nW l (i+j);have ft:=DW l (i+j);have ft2:=DW l (i+j+1);rw[yW hx]at ft2;have ftk:=yV (-1) hx;have ftl:=nW l (i+j+1);simp only at fps;refine cv (M:=M2) bA l4 rfl rfl rfl (hu.le h4.S.le) (aq _ _) (by omega) (fun ZO aaW Ww Vt=>?_);obtain rfl:(d,ps)=aaW:=dJ (aF (Ww.symm.trans (by rw[ay,ck,if_pos (by omega),List.getElem?_drop];exact hx)));refine cT (M:=M2) (A:=RT.po) bK rfl l4 (by decide) rfl rfl rfl (by assumption) (by repeat (first|exact aq _ _|refine bc (bF (by assumption)) ?_)) (fun ZQ MG=>?_);refine yf (A:=RT.po) (M:=M2) l4 rfl rfl rfl rfl rfl (by assumption) (by repeat (first|exact aq _ _|refine bc (bF (by assumption)) ?_)) (by first|assumption|exact Step.lt (by assumption) (by assumption)|exact Step.lt (by assumption) (Step.lt (by assumption) (by assumption))) (fun ang anh Wx TF ani=>?_);refine ab (aj ?_);have h5:=h4.step TF;have hO:=h5.o;have hX:=h5.x;have hL:=h5.l;have hB:=h5.hb;have dY:=h5.lt;have hp0:=Wx;apply T.Iq (M:=M2) (n:=85) _ mixed [] [cG.eq _,cG.eq _,cG.eq _,cG.eq _,cG.eq _,cG.ptr (RT.int .i64) d,cG.eq (.int .i64 d),cG.eq _,cG.eq _,cG.eq (.int .i64 (((d-dB (-1) (l.take (i+j))-1).toNat:Nat):Int)),cG.V (RT.u8.sl) (eh (-1) (l.take (i+j))++put (d-dB (-1) (l.take (i+j))-1).toNat),cG.eq _,cG.eq _]
      ·rfl
      ·rfl
      ·rfl
      ·rfl
      ·exact fun p hp=>by cases hp
      ·exact vT.none
      ·refine aG ?_ ?_
       ·intro wD E sD;refine aN eZ rfl rfl rfl (de sD (by assumption)) rfl ?_;exact ab ⟨rfl,rfl,_,rfl,rfl,au _ _⟩
       refine aG ?_ ?_
       ·intro wD E sD;refine aN eZ rfl rfl rfl (de sD (by assumption)) rfl ?_;exact ab ⟨rfl,rfl,_,rfl,rfl,au _ _⟩
       refine aG ?_ ?_
       ·intro wD E sD;refine aM (bT rfl ⟨_,rfl⟩ rfl ?_);exact ab ⟨rfl,rfl,_,rfl,rfl,au _ _⟩
       refine aG ?_ ?_
       ·intro wD E sD;refine aM (bJ eH rfl rfl D2 (by decide) rfl rfl ?_);exact ab ⟨rfl,rfl,_,rfl,rfl,au _ _⟩
       refine aG ?_ ?_
       ·intro wD E sD;refine aM (aN bP rfl rfl rfl (de sD (by assumption)) rfl ?_);exact ab ⟨rfl,rfl,_,rfl,rfl,au _ _⟩
       refine aG ?_ ?_
       ·intro wD E sD;refine aQ (M:=M2) (A:=RT.po) (B:=RT.int .i64) bK rfl rfl I3 (by decide) (PO) rfl rfl (by decide) (by assumption) (by repeat (first|exact aq _ _|refine bc (bF (by assumption)) ?_)) (fun ank ahE=>?_);exact ab ⟨rfl,rfl,_,rfl,by assumption,au _ _⟩
       refine aG ?_ ?_
       ·intro wD E sD;intro v5 ox;refine cd (M:=M2) ax rfl rfl (by assumption) (by repeat (first|exact aq _ _|refine bc (bF (by assumption)) ?_)) (fun ahF=>?_);exact ab ⟨rfl,rfl,_,rfl,rfl,au _ _⟩
       refine aG ?_ ?_
       ·intro wD E sD;refine aN ax rfl rfl rfl (de sD (by assumption)) rfl ?_;exact ab ⟨rfl,rfl,_,rfl,rfl,au _ _⟩
       refine aG ?_ ?_
       ·intro wD E sD;refine aM (aM (fv rfl rfl rfl (by omega) ?_));exact ab ⟨rfl,rfl,_,rfl,rfl,au _ _⟩
       refine aG ?_ ?_
       ·intro wD E sD;refine aM (fv rfl rfl rfl (by omega) (aU (v':= .int .i64 (((d-dB (-1) (l.take (i+j))-1).toNat:Nat):Int)) (by congr 1;omega) ?_));exact ab ⟨rfl,rfl,_,rfl,rfl,au _ _⟩
       refine aG ?_ ?_
       ·intro wD E sD;refine aM (aM ?_);refine aX rfl rfl UW (N5 (M:=M2) (sD.lt dY) (hB.le sD.le) (by omega) (by omega)) (fun rP wP hP=>?_);exact ab ⟨rfl,rfl,_,rfl,hP.2,hP.1⟩
       refine aG ?_ ?_
       ·intro wD E sD;refine aM (aM (aM (aM (aM (aM ?_)))));intro v5 ox;refine aM (aM (aM (aM ?_)));intro v10 Kp;refine bT rfl ⟨_,rfl⟩ rfl ?_;exact ab ⟨rfl,rfl,_,rfl,rfl,au _ _⟩
       refine aG ?_ ?_
       ·intro wD E sD;refine aM (aM (aM (aM (aM (aM ?_)))));intro v5 ox;refine aM (aM (aM (aM ?_)));intro v10 Kp;refine bJ eH rfl rfl D2 (by decide) rfl rfl ?_;exact ab ⟨rfl,rfl,_,rfl,rfl,au _ _⟩
       exact ti
      ·intro Hu iq;refine aM (aM (aM (aM (aM ?_))));intro anl ahG;refine aM (aM (aM (aM ?_)));intro ahH I2;refine aM (aM ?_);have h6:=h5.step iq;have hp6:=hp0.le (by decide) iq.le;refine cw (M:=M2) D2 rfl rfl h6.x rfl (lW I2 rfl rfl) h6.mx (fun w11 ahI Kq=>?_);refine ab ⟨rfl,?_⟩;have h7:=h6.Ws Kq ahI (RT.V.le Kq.le I2) h6.hk;have Yk:=hp6.le (by decide) Kq.le;refine aj ?_;have hO:=h7.o;have hX:=h7.x;have hB:=h7.hb;have dY:=h7.lt;have fbl:(eh (-1) (l.take (i+j))++put (d-dB (-1) (l.take (i+j))-1).toNat).length≤35184372088832:=by rw[ftk]at ftl;simp only[a8]at ftl ⊢;omega
       apply T.Sv (M:=M2) mixed [(13,fun k=>k=bx)] [cG.eq _,cG.eq _,cG.eq _,cG.eq _,cG.eq _,cG.ptr ((RT.int .i64).sl) ps,cG.V ((RT.int .i64).sl) ps,⟨fun t w=>∃x,t= .tuple #[x,.int .i64 0]∧(RT.u8.sl).V M2 w (eh (-1) (l.take (i+j))++put (d-dB (-1) (l.take (i+j))-1).toNat++eL ps) x,Jz,fun⟨x,h1,h2⟩ s _=>⟨x,h1,h2.le s.le⟩⟩,⟨fun t w=>∃x,t= .tuple #[x,.int .i64 0]∧(RT.u8.sl).V M2 w (eh (-1) (l.take (i+j))++put (d-dB (-1) (l.take (i+j))-1).toNat++eL ps) x,Jz,fun⟨x,h1,h2⟩ s _=>⟨x,h1,h2.le s.le⟩⟩,cG.V (RT.u8.sl) (eh (-1) (l.take (i+j))++put (d-dB (-1) (l.take (i+j))-1).toNat++eL ps),cG.eq (.int .i64 0),cG.eq _,cG.eq _,⟨fun _ w=>∃x,w.heap[bx]? =some (.cells #[x,vk,.int .i64 (jv (l.take (i+j)))] 207 (0,0))∧(RT.u8.sl).V M2 w (eh (-1) (l.take (i+j))++put (d-dB (-1) (l.take (i+j))-1).toNat++eL ps) x,fun k=>k≠bx,fun⟨x,h1,h2⟩ s hN=>⟨x,s.keep h1 (fun hb=>hN _ hb rfl),h2.le s.le⟩⟩]
       ·rfl
       ·intro p hp b hb;simp only[bS]at hp;subst hp
        cases hb;exact h7.mx
       ·exact⟨fun _ _ _ _=>trivial,⟨fun _ _ _ _=>trivial,⟨fun _ _ _ _=>trivial,⟨fun _ _ _ _=>trivial,⟨fun _ _ _ _=>trivial,⟨fun _ _ _ _=>trivial,⟨fun _ _ _ _=>trivial,⟨fun _ _ _ _=>trivial,⟨fun _ _ _ _=>trivial,⟨fun _ _ _ _=>trivial,⟨fun _ _ _ _=>trivial,⟨fun _ _ _ _=>trivial,⟨fun _ _ _ _=>trivial,⟨fun p hp=>by simp at hp,trivial⟩⟩⟩⟩⟩⟩⟩⟩⟩⟩⟩⟩⟩⟩
       ·refine bQ ?_ ?_
        ·intro wD E sD;replace sD:Step M2 _ M2 wD aC:=sD;refine aN eZ rfl rfl rfl (de sD (by assumption)) rfl ?_;exact ab ⟨rfl,rfl,_,rfl,rfl,au _ _⟩
        refine bQ ?_ ?_
        ·intro wD E sD;replace sD:Step M2 _ M2 wD aC:=sD;refine aN eZ rfl rfl rfl (de sD (by assumption)) rfl ?_;exact ab ⟨rfl,rfl,_,rfl,rfl,au _ _⟩
        refine bQ ?_ ?_
        ·intro wD E sD;replace sD:Step M2 _ M2 wD aC:=sD;refine aM (bT rfl ⟨_,rfl⟩ rfl ?_);exact ab ⟨rfl,rfl,_,rfl,rfl,au _ _⟩
        refine bQ ?_ ?_
        ·intro wD E sD;replace sD:Step M2 _ M2 wD aC:=sD;refine aM (bJ eH rfl rfl D2 (by decide) rfl rfl ?_);exact ab ⟨rfl,rfl,_,rfl,rfl,au _ _⟩
        refine bQ ?_ ?_
        ·intro wD E sD;replace sD:Step M2 _ M2 wD aC:=sD;refine aM (aN bP rfl rfl rfl (de sD (by assumption)) rfl ?_);exact ab ⟨rfl,rfl,_,rfl,rfl,au _ _⟩
        refine bQ ?_ ?_
        ·intro wD E sD;replace sD:Step M2 _ M2 wD aC:=sD;refine aQ (M:=M2) (A:=RT.po) (B:=(RT.int .i64).sl) bK rfl rfl jY (by decide) UP rfl rfl (by decide) Yk sD.le (fun uf zQ=>?_);exact ab ⟨rfl,rfl,_,rfl,zQ,au _ _⟩
        refine bQ ?_ ?_
        ·intro wD E sD;replace sD:Step M2 _ M2 wD aC:=sD;intro v5 ox;refine bU (M:=M2) ao rfl rfl rfl rfl rfl (show cO ((RT.int .i64).sl) M2 wD v5 ps from ox) (aq _ _) (fun uf zQ=>?_);exact ab ⟨rfl,rfl,_,rfl,zQ,au _ _⟩
        refine bQ ?_ ?_
        ·intro wD E sD;replace sD:Step M2 _ M2 wD aC:=sD;refine aM ?_;intro v6 rD;refine aX rfl rfl ae4 (zN (M:=M2) (sD.lt dY) (hB.le sD.le) (show((RT.int .i64).sl).V M2 wD ps v6 from rD) (by omega)) (fun rP wP hP=>?_);obtain⟨xP,sP,hP1,hP2⟩:=hP;rw[if_pos f7]at hP1 hP2;exact ab ⟨rfl,rfl,_,rfl,⟨xP,hP1,hP2⟩,sP⟩
        refine bQ ?_ ?_
        ·intro wD E sD;replace sD:Step M2 _ M2 wD aC:=sD;intro v7 Hb;refine ad rfl rfl ?_;exact ab ⟨rfl,rfl,_,rfl,Hb,au _ _⟩
        refine bQ ?_ ?_
        ·intro wD E sD;replace sD:Step M2 _ M2 wD aC:=sD;intro v8 IX;obtain⟨xP,rfl,hP2⟩:=IX;refine bW rfl rfl rfl ?_;exact ab ⟨rfl,rfl,_,rfl,hP2,au _ _⟩
        refine bQ ?_ ?_
        ·intro wD E sD;replace sD:Step M2 _ M2 wD (fun k=>k=bx):=sD;intro v8 IX;obtain⟨xP,rfl,hP2⟩:=IX;refine bW rfl rfl rfl ?_;exact ab ⟨rfl,rfl,_,rfl,rfl,au _ _⟩
        refine bQ ?_ ?_
        ·intro wD E sD;replace sD:Step M2 _ M2 wD (fun k=>k=bx):=sD;refine aM (aM (aM (aM (aM (aM ?_)))));intro v5 ox;intro v6 rD;intro v7 Hb;intro v8 IX;intro v9 Er;refine bT rfl ⟨_,rfl⟩ rfl ?_;exact ab ⟨rfl,rfl,_,rfl,rfl,au _ _⟩
        refine bQ ?_ ?_
        ·intro wD E sD;replace sD:Step M2 _ M2 wD aC:=sD;refine aM (aM (aM (aM (aM (aM ?_)))));intro v5 ox;intro v6 rD;intro v7 Hb;intro v8 IX;intro v9 Er;refine bJ eH rfl rfl D2 (by decide) rfl rfl ?_;exact ab ⟨rfl,rfl,_,rfl,rfl,au _ _⟩
        refine bQ ?_ ?_
        ·intro wD E sD;replace sD:Step M2 _ M2 wD aC:=sD;refine aM ?_;intro v9 Er;intro v7 Hb;refine aM (aM (aM (aM (aM ?_))));intro v5 ox;intro v6 rD;intro v7 Hb;intro v8 IX;intro v9 Er;refine cw (M:=M2) D2 rfl rfl (de sD hX) rfl (lW (A:=RT.u8.sl) Er rfl rfl) h7.mx (fun wS hXS sS=>?_);exact ab ⟨rfl,rfl,undef,rfl,⟨_,hXS,RT.V.le (A:=RT.u8.sl) sS.le Er⟩,sS⟩
        exact dA.nil
       ·intro ahJ Og;replace Og:Step M2 _ M2 ahJ (fun k=>k=bx):=Og;refine aM (aM (aM (aM (aM ?_))));intro ann ahK;intro ano ahL;intro anp ahM;intro anq ahN;intro anr ahO;refine aM (aM (aM ?_));intro ahP Rm;obtain⟨v12,ahQ,ahR⟩:=Rm;have h8:=h7.Ws Og ahQ ahR h7.hk;have hp8:=Yk.le (by decide) Og.le;refine aj ?_;have hO:=h8.o;have hX:=h8.x;apply T.Iq (M:=M2) (n:=85) _ mixed [] [cG.eq _,cG.eq _,cG.eq _,cG.eq _,cG.ptr ((RT.int .i64).sl) ps,cG.V ((RT.int .i64).sl) ps,cG.eq (.int .i64 ps.length),cG.eq _,cG.eq _,cG.eq _]
        ·rfl
        ·rfl
        ·rfl
        ·rfl
        ·exact fun p hp=>by cases hp
        ·exact vT.none
        ·refine aG ?_ ?_
         ·intro wD E sD;refine aN eZ rfl rfl rfl (de sD (by assumption)) rfl ?_;exact ab ⟨rfl,rfl,_,rfl,rfl,au _ _⟩
         refine aG ?_ ?_
         ·intro wD E sD;refine aM (bT rfl ⟨_,rfl⟩ rfl ?_);exact ab ⟨rfl,rfl,_,rfl,rfl,au _ _⟩
         refine aG ?_ ?_
         ·intro wD E sD;refine aM (bJ eH rfl rfl I3 (by decide) rfl rfl ?_);exact ab ⟨rfl,rfl,_,rfl,rfl,au _ _⟩
         refine aG ?_ ?_
         ·intro wD E sD;refine aM (aN ax rfl rfl rfl (de sD (by assumption)) rfl ?_);exact ab ⟨rfl,rfl,_,rfl,rfl,au _ _⟩
         refine aG ?_ ?_
         ·intro wD E sD;refine aQ (M:=M2) (A:=RT.po) (B:=(RT.int .i64).sl) bK rfl rfl jY (by decide) UP rfl rfl (by decide) hp8 sD.le (fun uf zQ=>?_);exact ab ⟨rfl,rfl,_,rfl,zQ,au _ _⟩
         refine aG ?_ ?_
         ·intro wD E sD;intro v4 nv;refine bU (M:=M2) ao rfl rfl rfl rfl rfl (show cO ((RT.int .i64).sl) M2 wD v4 ps from nv) (aq _ _) (fun uf zQ=>?_);exact ab ⟨rfl,rfl,_,rfl,zQ,au _ _⟩
         refine aG ?_ ?_
         ·intro wD E sD;intro v5 ox;refine bN ao rfl (show((RT.int .i64).sl).V M2 wD ps v5 from ox) rfl ?_;exact ab ⟨rfl,rfl,_,rfl,rfl,au _ _⟩
         refine aG ?_ ?_
         ·intro wD E sD;refine aM (aM (bG rfl rfl rfl (by omega) ?_));exact ab ⟨rfl,rfl,_,rfl,rfl,au _ _⟩
         refine aG ?_ ?_
         ·intro wD E sD;refine aM (aM (aM (aM (aM ?_))));intro v4 nv;intro v5 ox;refine aM (aM (bT rfl ⟨_,rfl⟩ rfl ?_));exact ab ⟨rfl,rfl,_,rfl,rfl,au _ _⟩
         refine aG ?_ ?_
         ·intro wD E sD;refine aM (aM (aM (aM (aM ?_))));intro v4 nv;intro v5 ox;refine aM (aM (bJ eH rfl rfl I3 (by decide) rfl rfl ?_));exact ab ⟨rfl,rfl,_,rfl,rfl,au _ _⟩
         exact ti
        ·intro Vu pJ;refine aM (aM (aM (aM ?_)));intro ans ahS;intro SV CC;refine aM (aM (aM (aM ?_)));have h9:=h8.step pJ;refine cw (M:=M2) I3 rfl rfl h9.x rfl rfl h9.mx (fun w13 ahT xy=>?_);refine ab ⟨rfl,?_⟩;have Q7:=h9.Ws xy ahT (h9.hb.le xy.le) h9.hk;have ahU:=(hp8.le (by decide) pJ.le).le (by decide) xy.le;refine ae ?_;refine aQ (M:=M2) (A:=RT.po) (B:=RT.int .i64) bK rfl rfl I3 (by decide) PO rfl rfl (by decide) ahU (aq _ _) (fun aaY Oh=>?_);refine cd (M:=M2) ax rfl rfl Oh (aq _ _) (fun _=>?_);refine aU (v':= .int .i64 d) rfl ?_;refine cw (M:=M2) I3 rfl rfl Q7.l rfl rfl Q7.ml (fun VH ahV ka=>?_);have h11:=Q7.Rl ka ahV;refine ab (ae (bG rfl rfl rfl (by omega) (ad rfl rfl (ab ?_))));refine⟨rfl,(j+1,v12),(.cons rfl (.cons rfl (.cons rfl (.cons rfl (.cons rfl (.cons rfl (.cons rfl .nil))))))),?_,?_⟩
         ·refine⟨by simp only;omega,?_,?_⟩
          ·exact ka.keep (xy.keep (pJ.aL (Og.keep (Kq.keep (iq.aL (TF.aL hQ)) (by omega)) (by omega))) (by omega)) (by omega)
          ·simp only;rw[show i+(j+1)=i+j+1 from by omega,yW hx,f5,ftk];exact h11
         ·simp only;omega
     ·refine cH (aj (ae ?_));obtain rfl:j=((l.drop i).take 8).length:=by omega
      have Yy:M2 bq:=by rw[Gg];exact .inl rfl
      refine aN ax rfl rfl rfl h4.l rfl (bJ (o':=2) th rfl rfl I3 (by decide) rfl rfl ?_);refine cw (M:=M2) I3 rfl rfl hQ rfl rfl Yy (fun Yp aaZ BQ=>?_);have Yq:=h4.other BQ hDq hqv;change Yp.heap[bq]? =some (.cells [.int .i64 (eh (-1) (l.take i)).length,.int .i64 (dB (-1) (l.take i)),.int .i64 (dB (-1) (l.take (i+((l.drop i).take 8).length))),.int .i64 ((l.drop i).take 8).length].toArray 209 (0,0))at aaZ;refine ab ?_;have hO:=Yq.o;have hX:=Yq.x;have Rn:=Yq.hk;have fy:∀k,vk.ownBlock=some k→k≠bo:=fun k hk=>by have:=(Rn.base k hk).1;omega
      have ase:=ak Yq.r;have g1:=tx l (-1) ny (by omega) i;have g2:=tx l (-1) ny (by omega) (i+((l.drop i).take 8).length);have g3:=nW l i;apply T.Iq (M:=M2) (n:=85) _ mixed [(7,fun k=>vk.ownBlock=some k)] [cG.eq _,cG.eq _,cG.eq _,cG.eq _,cG.eq _,cG.eq (.agg [.int .i64 (eh (-1) (l.take i)).length,.int .i64 (dB (-1) (l.take i)),.int .i64 (dB (-1) (l.take (i+((l.drop i).take 8).length))),.int .i64 ((l.drop i).take 8).length].toArray),cG.V ((RT.bl).sl) [(((eh (-1) (l.take i)).length:Int),dB (-1) (l.take i),dB (-1) (l.take (i+((l.drop i).take 8).length)),(((l.drop i).take 8).length:Int))],⟨fun t w=>∃M3,Own RT.bl 209 M3 w (D+2) t (rU l ((i+7)/8)++[(((eh (-1) (l.take i)).length:Int),dB (-1) (l.take i),dB (-1) (l.take (i+((l.drop i).take 8).length)),(((l.drop i).take 8).length:Int))])∧Step M2 Yp M3 w (fun k=>vk.ownBlock=some k),aC,fun⟨M3,h1,h2⟩ s hN=>⟨M3,h1.aO ((s.cB hN (fun _ h=>h.elim)).any M3),h2.aB ((s.cB hN (fun _ h=>h.elim)).any M3)⟩⟩,cG.eq _,cG.eq _]
      ·rfl
      ·rfl
      ·rfl
      ·rfl
      ·intro p hp b hb;simp only[bS]at hp;subst hp;exact Rn.mut_ b hb
      ·exact⟨fun _ _ _ _=>trivial,⟨fun _ _ _ _=>trivial,⟨fun _ _ _ _=>trivial,⟨fun _ _ _ _=>trivial,⟨fun _ _ _ _=>trivial,⟨fun _ _ _ _=>trivial,⟨fun _ _ _ _=>trivial,⟨fun p hp=>by simp at hp,⟨fun _ _ _ _=>trivial,⟨fun _ _ _ _=>trivial,trivial⟩⟩⟩⟩⟩⟩⟩⟩⟩⟩
      ·refine aG ?_ ?_
       ·intro wD E sD;replace sD:Step M2 _ M2 wD (fun k=>vk.ownBlock=some k):=sD;refine aN eZ rfl rfl rfl (sD.keep hO (fun hb=>fy _ hb rfl)) rfl ?_;exact ab ⟨rfl,rfl,_,rfl,rfl,au _ _⟩
       refine aG ?_ ?_
       ·intro wD E sD;replace sD:Step M2 _ M2 wD (fun k=>vk.ownBlock=some k):=sD;refine aN eZ rfl rfl rfl (sD.keep hO (fun hb=>fy _ hb rfl)) rfl ?_;exact ab ⟨rfl,rfl,_,rfl,rfl,au _ _⟩
       refine aG ?_ ?_
       ·intro wD E sD;replace sD:Step M2 _ M2 wD (fun k=>vk.ownBlock=some k):=sD;refine aM (bT rfl ⟨_,rfl⟩ rfl ?_);exact ab ⟨rfl,rfl,_,rfl,rfl,au _ _⟩
       refine aG ?_ ?_
       ·intro wD E sD;replace sD:Step M2 _ M2 wD (fun k=>vk.ownBlock=some k):=sD;refine aM (bJ eH rfl rfl JQ (by decide) rfl rfl ?_);exact ab ⟨rfl,rfl,_,rfl,rfl,au _ _⟩
       refine aG ?_ ?_
       ·intro wD E sD;replace sD:Step M2 _ M2 wD aC:=sD;refine aM (aN iR rfl rfl rfl (de sD (by assumption)) rfl ?_);exact ab ⟨rfl,rfl,_,rfl,rfl,au _ _⟩
       refine aG ?_ ?_
       ·intro wD E sD;replace sD:Step M2 _ M2 wD (fun k=>vk.ownBlock=some k):=sD;refine fL (vs:=[.int .i64 (eh (-1) (l.take i)).length,.int .i64 (dB (-1) (l.take i)),.int .i64 (dB (-1) (l.take (i+((l.drop i).take 8).length))),.int .i64 ((l.drop i).take 8).length]) th rfl Cs rfl rfl rfl (sD.keep aaZ (fun hb=>hqv _ hb rfl)) ?_;exact ab ⟨rfl,rfl,_,rfl,rfl,au _ _⟩
       refine aG ?_ ?_
       ·intro wD E sD;replace sD:Step M2 _ M2 wD aC:=sD;refine aM ?_;refine eu (A:=RT.bl) (hn:=by decide) (M:=M2) iR Cs (by decide) rfl rfl (sD.lt Yq.lt) (aeB (by omega) (by omega) (by omega) (by omega)) (.inl rfl) (fun uS wS hS sS=>?_);exact ab ⟨rfl,rfl,_,rfl,hS,sS⟩
       refine aG ?_ ?_
       ·intro wD E sD;replace sD:Step M2 _ M2 wD aC:=sD;refine aM ?_;intro v6 rD;refine cV (M:=M2) (base:=D+2) iR Cs rfl rfl rfl rfl (Rn.aO sD) (show((RT.bl).sl).V M2 wD [(((eh (-1) (l.take i)).length:Int),dB (-1) (l.take i),dB (-1) (l.take (i+((l.drop i).take 8).length)),(((l.drop i).take 8).length:Int))] v6 from rD) (aq _ _) (by simp[rU];omega) (by simp[rU];omega) (by have:=sD.size;omega) (fun v3 M3 w3 zM s3=>?_);exact ab ⟨rfl,rfl,_,rfl,⟨M3,zM,(sD.cB (fun _ h=>h.elim) Rn.mut_).trans s3 (fun b _ hb=>hb)⟩,s3.back⟩
       refine aG ?_ ?_
       ·intro wD E sD;replace sD:Step M2 _ M2 wD (fun k=>vk.ownBlock=some k):=sD;refine aM (aM (aM (aM (aM (aM (aM ?_))))));intro v6 rD;intro v7 Hb;refine bT rfl ⟨_,rfl⟩ rfl ?_;exact ab ⟨rfl,rfl,_,rfl,rfl,au _ _⟩
       refine aG ?_ ?_
       ·intro wD E sD;replace sD:Step M2 _ M2 wD (fun k=>vk.ownBlock=some k):=sD;refine aM (aM (aM (aM (aM (aM (aM ?_))))));intro v6 rD;intro v7 Hb;refine bJ eH rfl rfl JQ (by decide) rfl rfl ?_;exact ab ⟨rfl,rfl,_,rfl,rfl,au _ _⟩
       exact ti
      ·intro Wy x8;replace x8:Step M2 _ M2 Wy (fun k=>vk.ownBlock=some k):=x8;refine aM (aM (aM (aM (aM (aM ?_)))));intro aa0 Wz;intro ant WA;refine aM (aM ?_);obtain⟨M3,zM,sR⟩:=WA;obtain⟨⟨Kn,hm3,asf⟩,Gw⟩:=Yq.grow sR zM;refine cw (M:=M3) JQ rfl rfl Kn rfl (by obtain⟨_,_,he,_⟩:=zM.isSlice;rw[he];rfl) hm3 (fun Yr ahX CQ=>?_);refine ab ⟨rfl,?_⟩;have Wi:=Gw CQ ahX;have h18:=Wi.na (st':= .loop (rec .ready none)) Wi.r;have hE:i+((l.drop i).take 8).length=min (i+8) l.length:=by omega
       rw[hE,LR (by omega) hi]at h18;exact⟨Wi.r,true,rfl,fun _=>⟨M3,_,_,h18,by omega,by omega⟩,fun h=>by cases h⟩
  ·obtain⟨Mz,vb,vk,h,_,_⟩:=h3.resolve_right (fun h=>h);left;rw[List.take_length]at h;have h5:=h.na (st':= .loop (rec .exhausted none)) h.r;refine⟨h.r,?_⟩;generalize w3.putObj (D+1) _=wE at h5 ⊢;refine aj (ae (aN eZ rfl rfl rfl h5.o rfl (ah rfl rfl (ah rfl rfl (ab (aP ?_))))));obtain⟨q1,q2,q3,q4,q5,q6,q7,q8,q9,q10,q11,q12,q13,q14,q15,q16,q17,q18⟩:=h5.ne;have sZ:Step Mz wE Mz (wE.putObj D (.deferred none)) (fun k=>k=D):=dZ h5.md;have SZ:=h5.S.cf sZ (fun k hk=>by subst hk;omega);have ht:=pB l;refine UM rfl rfl rfl h5.d ⟨SZ.back,fun _=>⟨_,rfl,?_⟩,fun hf=>by rw[ny]at hf;cases hf⟩;exact YZ (sZ.keep h5.x (by omega)) (fun hh=>by have:=hM _ hh;omega) ((h5.hb.le sZ.le).le (Le.close hM SZ)) (ye hM SZ ((h5.hk.step sZ (fun k hk hh=>by have:=(h5.hk.base k hk).1;omega)).nS (by omega)) (by simp[rU];omega)) (by omega)
end Go.K
namespace Go.K
open Go.Proofs
namespace TKBldG
theorem x7:TI Tryz.prog 80 (.slice none 0 0) 1 24:=by unfold TI;kernel_rfl
theorem E8:TI Tryz.prog 196 (.slice none 0 0) 1 24:=by unfold TI;kernel_rfl
theorem WB:Enters Tryz.prog 145:=enters Tryz.func145 rfl (by decide)
theorem ahY:Enters Tryz.prog 197:=enters Tryz.func197 rfl (by decide)
end TKBldG
open TKBldG
set_option maxRecDepth 10000
theorem index_spec {M:aD} {l:List (List Po)} {v0:Value} {g:FuncId} {cap:List Value} {B:Nat} {J:Nat→aD→World→Prop} {bad:List Po→Bool} (w0:World) (hM:Lt M w0) (hv:(((RT.po).sl).sl).V M w0 l v0) (hg:Enters Tryz.prog g) (hJ:J 0 M w0) (kM:∀i M w M' w',J i M w→Step M w M' w' aC→J i M' w') (ht:∀i M w x vx,J i M w→Lt M w→l[i]? =some x→((RT.po).sl).V M w x vx→Spec Tryz.prog g ([vx]++cap).toArray w (fun v w'=>∃M',Lt M' w'∧v= .bool (bad x)∧(bad x=false→J (i+1) M' w')∧Step M w M' w' (l1 M B))):
  Spec Tryz.prog 197 #[v0,.func (.func g) #[] cap.toArray] w0 (fun v w=>∃M' k,v= .int .i64 k∧ -1≤k∧Lt M' w∧Step M w0 M' w (l1 M B)∧(k= -1→(∀x∈l,bad x=false)∧J l.length M' w)∧(0≤k→∃x∈l,bad x=true)):=by
 have hlen:=dD hv;refine bg (args:=[_,_]) (fn:=Tryz.f197) Tryz.func197 rfl (n:=19) Tryz.ntmps197 ?_;have S:Step M w0 M w0 (l1 M B):=(au _ _).cB (fun _ h=>h.elim) (fun _ h=>h.2);refine aj (ae (ah rfl rfl (ab (aj (aj (ae (ad rfl rfl (bN dF rfl hv rfl (ad rfl rfl (ab (aY ?_)))))))))));refine dh (σ:=Nat) (fun q=>[(0,v0),(1,.func (.func g) #[] cap.toArray),(6,v0),(7,.int .i64 (l.length:Int)),(8,.int .i64 (q:Int))]) (fun q w=>∃M',Lt M' w∧Step M w0 M' w (l1 M B)∧(((RT.po).sl).sl).V M' w l v0∧J q M' w∧q≤l.length∧∀x∈l.take q,bad x=false) (fun q=>l.length-q) 0 (.cons rfl (.cons rfl (.cons rfl (.cons rfl (.cons rfl .nil))))) ?_ ?_
 ·exact⟨M,hM,S,hv,hJ,bD _,fun x h=>by simp at h⟩
 ·clear hM S hv hJ;rintro i w ⟨M1,hM,S,hv,hJ,hi,ko⟩;refine aj (ae (cg rfl rfl rfl (ab (aj ?_))));refine bM rfl (fun c2=>?_) (fun c2=>?_)
  ·refine aT (aj (aY (aj (ae (ad rfl rfl (ah rfl rfl (ab (aj (ae (ad rfl rfl (ad rfl rfl ?_)))))))))));refine ad rfl rfl ?_;refine cv (M:=M1) dF x7 rfl rfl rfl hv (aq _ _) (by omega) (fun u x xo hu=>?_);rw[ay]at xo;refine bU (M:=M1) bA rfl rfl rfl rfl rfl hu (aq _ _) (fun vx rV=>?_);refine rO (first:=[]) (captured:=cap) (xs:=[.tmp 15]) rfl rfl rfl hg (ht i _ _ x vx hJ hM xo rV) (fun r4 w4 hc=>?_);obtain⟨M4,hM4,rfl,hJ4,s4⟩:=hc;refine aU (v':= .bool (decide (bad x=true))) (by simp) ?_;have S4:=S.trans s4 (fun k hk h=>⟨h.1,(S.mem k hk).1 h.2⟩);refine ab ?_;refine bM rfl (fun c4=>?_) (fun c4=>?_)
   ·refine aj (ae (ad rfl rfl (ah rfl rfl (ab (aP ?_)))));exact aV rfl rfl ⟨M4,_,rfl,by omega,hM4,S4,fun h=>absurd h (by omega),fun _=>⟨x,az xo,c4⟩⟩
   ·refine aT (ae (bG rfl rfl rfl (by omega) (ad rfl rfl (ab ?_))));refine⟨rfl,i+1,(.cons rfl (.cons rfl (.cons rfl (.cons rfl (.cons rfl .nil))))),?_,?_⟩
    ·have hb:bad x=false:=by simpa using c4
     exact⟨M4,hM4,S4,hv.le s4.le,hJ4 hb,by omega,fun y hy=>by
      rw[bI,xo,cJ,cr,bS]at hy;rcases hy with hy|rfl
      ·exact ko y hy
      ·exact hb⟩
    ·omega
  ·refine cH (aj (ae (ah rfl rfl (ab (aP ?_)))));rw[aW (by omega)]at ko;have e:i=l.length:=by omega
   subst e;exact aV rfl rfl ⟨_,_,rfl,by omega,hM,S,fun _=>⟨ko,hJ⟩,fun h=>absurd h (by omega)⟩
theorem A1 {M:aD} {l:List (List Po)} {v0:Value} {g:FuncId} {cap:List Value} {B:Nat} {J:Nat→aD→World→Prop} {bad:List Po→Bool} (w0:World) (hM:Lt M w0) (hv:(((RT.po).sl).sl).V M w0 l v0) (hg:Enters Tryz.prog g) (hJ:J 0 M w0) (kM:∀i M w M' w',J i M w→Step M w M' w' aC→J i M' w') (ht:∀i M w x vx,J i M w→Lt M w→l[i]? =some x→((RT.po).sl).V M w x vx→Spec Tryz.prog g ([vx]++cap).toArray w (fun v w'=>∃M',Lt M' w'∧v= .bool (bad x)∧(bad x=false→J (i+1) M' w')∧Step M w M' w' (l1 M B))):
  Spec Tryz.prog 146 #[v0,.func (.func g) #[] cap.toArray] w0 (fun v w=>∃M' k,v= .bool (decide (0≤k))∧ -1≤k∧Lt M' w∧Step M w0 M' w (l1 M B)∧(k= -1→(∀x∈l,bad x=false)∧J l.length M' w)∧(0≤k→∃x∈l,bad x=true)):=by
 refine bg (args:=[_,_]) (fn:=Tryz.f146) Tryz.func146 rfl (n:=9) Tryz.ntmps146 (aj (ae (ah rfl rfl (ab (aj (ae (ad rfl rfl (ad rfl rfl ?_))))))));refine aX rfl rfl ahY (index_spec w0 hM hv hg hJ kM ht) (fun r w1 hc=>?_);obtain⟨M1,k,rfl,hk,h2⟩:=hc;refine ef rfl rfl rfl (ah rfl rfl (ab (aP ?_)));exact aV rfl rfl ⟨M1,k,rfl,hk,h2⟩
def E9 (x:List Po):Int:=match x.getLast? with|some p=>p.1|none=> -1
def n0 (n:Int) (x:List Po):Bool:= !fN (-1) x||x.isEmpty||decide (n≤E9 x)
theorem Fa {x:List Po} {p:Po} (h:x[x.length-1]? =some p):E9 x=p.1:=by
 unfold E9;rw[List.getLast?_eq_getElem?,h]
structure Room (x:List Po):Prop where
 ps:∀p∈x,p.2.length≤1099511627776
 by_:(eh (-1) x).length≤35184372088832
 ln:x.length≤1099511627776
 sG:jv x≤4611686018427387904
def RT.cell:RT Value where
 n:=1
 agg:=false
 R:=fun _ _ x vs=>vs=[x]∧x.oneCell'=true
 len:=by rintro _ _ x vs ⟨rfl,_⟩;rfl
 one:=by rintro _ _ x vs ⟨rfl,h⟩ v hv;simp at hv;subst hv;exact h
 le:=fun _ h=>h
theorem Ro {M:aD} {w:World} {v:Value} (h:v.oneCell'=true):RT.cell.V M w v v:=⟨[v],⟨rfl,h⟩,rfl⟩
theorem eg.cells {α:Type} {A:RT α} (hA:A.n=1) {M:aD} {w:World}:∀{xs:List α} {C:List Value},eg A M w xs C→∃ys:List Value,eg RT.cell M w ys C∧ys.length=xs.length
 |[],C,h=>⟨[],h,rfl⟩
 |x::xs,C,h=>by
  obtain⟨vs,r,h1,h2,h3⟩:=h;obtain⟨ys,h4,h5⟩:=eg.cells hA h3;have hl:=A.len h2
  match vs,hl,h1,h2 with
  |[v],_,h1,h2=>exact⟨v::ys,⟨[v],r,h1,⟨rfl,A.one h2 v (by simp)⟩,h4⟩,by simp[h5]⟩
  |[],hl,_,_=>simp at hl;omega
  |_::_::_,hl,_,_=>simp at hl;omega
theorem Own.cells {α:Type} {A:RT α} (hA:A.n=1) {e:TypeId} {M:aD} {w:World} {base:Nat} {v:Value} {xs:List α} (h:Own A e M w base v xs):∃ys:List Value,Own RT.cell e M w base v ys∧ys.length=xs.length:=by
 obtain⟨⟨C,hr,ha⟩,hm⟩:=h;obtain⟨ys,h1,h2⟩:=ha.cells hA;exact⟨ys,⟨⟨C,by rw[h2,show RT.cell.n=A.n from hA.symm];exact hr,h1⟩,hm⟩,h2⟩
def A2 (bl bn:Nat) (n:Int) (ls:List (List Po)) (B:Nat) (i:Nat) (M:aD) (w:World):Prop:=∃vl,w.heap[bl]? =some (.cells #[vl] 196 (0,0))∧M bl∧B≤bl∧w.heap[bn]? =some (.cells #[.int .i64 n] 3 (0,0))∧M bn∧Own ((RT.li).ptr) 142 M w B vl ((ls.take i).map nV)
theorem A2.aO {bl bn:Nat} {n:Int} {ls:List (List Po)} {B i:Nat} {M M':aD} {w w':World} (h:A2 bl bn n ls B i M w) (s:Step M w M' w' aC):A2 bl bn n ls B i M' w':=by
 obtain⟨vl,h1,h2,h3,h4,h5,h6⟩:=h;exact⟨vl,s.aL h1,(s.mem _ (ak h1)).2 h2,h3,s.aL h4,(s.mem _ (ak h4)).2 h5,h6.aO s⟩
theorem WC {M:aD} {bl bn B i:Nat} {n:Int} {ls:List (List Po)} {x:List Po} {v0:Value} (w0:World) (hM:Lt M w0) (hB:B≤w0.heap.size) (hJ:A2 bl bn n ls B i M w0) (hx:ls[i]? =some x) (hv:((RT.po).sl).V M w0 x v0) (hr:Room x) (ou:i≤1000000000) (hm:fN (-1) x=true):
  Spec Tryz.prog 144 #[v0,.pointer (some ⟨bl,0,none⟩),.pointer (some ⟨bn,0,none⟩)] w0 (fun v w=>∃M',Lt M' w∧v= .bool (n0 n x)∧(n0 n x=false→A2 bl bn n ls B (i+1) M' w)∧Step M w0 M' w (l1 M B)):=by
 have hlen:=dD hv;obtain⟨vl,gl,lg,hBl,gn,nf,ho⟩:=hJ;have nln:bl≠bn:=fun h=>by rw[h,gn]at gl;simp at gl
 refine bg (args:=[_,_,_]) (fn:=Tryz.f144) Tryz.func144 rfl (n:=34) Tryz.ntmps144 ?_;have S:Step M w0 M w0 (l1 M B):=(au _ _).cB (fun _ h=>h.elim) (fun _ h=>h.2);refine aj (ae (ah rfl rfl (ab (aj (ae (ad rfl rfl ?_))))));refine aX rfl rfl WB (BP hM hv hr.ps hr.by_ hr.ln hr.sG) (fun r1 w1 hc=>?_);obtain⟨s1,hok,ko⟩:=hc;obtain⟨p,rfl,hp⟩:=hok hm;have:=ak gl;replace lg:=(s1.mem _ this).2 lg;replace gl:=s1.aL gl;have:=ak gn;replace nf:=(s1.mem _ this).2 nf;replace gn:=s1.aL gn;replace hv:=hv.le s1.le;replace ho:=ho.aO s1;replace hM:=s1.lt hM;have:=S.size;replace S:=S.aB s1;refine ad rfl rfl (bW rfl rfl rfl (bW rfl rfl rfl (ah rfl rfl (ah rfl rfl (ab (aj (ae (aN ei rfl rfl rfl gl rfl (aU (v':=vl) rfl (ad rfl rfl ?_))))))))));refine eu (A:=((RT.li).ptr)) (hn:=by decide) (M:=M) ei AQ (by decide) rfl rfl hM (lX.2 hp) (.inr ⟨rfl,rfl⟩) (fun aa1 ah0 lH qm=>?_);have:=ak gl;replace lg:=(qm.mem _ this).2 lg;replace gl:=qm.aL gl;have:=ak gn;replace nf:=(qm.mem _ this).2 nf;replace gn:=qm.aL gn;replace hv:=hv.le qm.le;replace hp:=hp.le (by decide) qm.le;replace ho:=ho.aO qm;replace hM:=qm.lt hM;have:=S.size;replace S:=S.aB qm;refine cV (M:=M) (base:=B) ei AQ rfl rfl rfl rfl ho lH (aq _ _) (by simp;omega) (by simp;omega) (by have:=S.size;omega) (fun WD Fb ah1 Oi qn=>?_);have:=ak gl;replace lg:=(qn.mem _ this).2 lg;replace gl:=qn.keep gl (fun h=>by first|exact ho.ep gl h|exact ho.eS gl (by decide) h|(have:=(ho.base _ h).1;omega));have:=ak gn;replace nf:=(qn.mem _ this).2 nf;replace gn:=qn.keep gn (fun h=>by first|exact ho.ep gn h|exact ho.eS gn (by decide) h|(have:=(ho.base _ h).1;omega));replace hv:=hv.le qn.le;replace hp:=hp.le (by decide) qn.le
 replace lH:=lH.le qn.le;replace hM:=qn.lt hM;have:=S.size;replace S:=S.trans qn (fun k hk h=>⟨(ho.base k h).1,(S.mem k hk).1 (ho.mut_ k h)⟩);replace ho:=Oi;refine cw (M:=Fb) E8 rfl rfl gl rfl (by obtain⟨_,_,he,_⟩:=ho.isSlice;rw[he];rfl) lg (fun WE Oj oU=>?_);change WE.heap[_]? =some (Obj.cells #[WD] _ _)at Oj;have:=ak gl;replace lg:=(oU.mem _ this).2 lg;have:=ak gn;replace nf:=(oU.mem _ this).2 nf;replace gn:=oU.keep gn (fun hk=>by have hk:_=_:=hk;omega);replace hv:=hv.le oU.le;replace hp:=hp.le (by decide) oU.le;replace lH:=lH.le oU.le;replace ho:=ho.step oU (fun c hc (h:c=bl)=>ho.eS gl (by decide) (h▸hc));replace hM:=oU.lt hM;have:=S.size;replace S:=S.trans oU (fun k hk h=>by have h:_=_:=h;subst h;first|(exfalso;omega)|(show _≤_;omega)|exact⟨by first|omega|assumption,(S.mem _ hk).1 ((oU.mem _ (ak gl)).1 lg)⟩|exact .inl rfl|exact .inr rfl|exact .inr (.inl rfl)|exact .inr (.inr rfl)|exact .inr (.inr (.inl rfl))|exact rfl);have gl_:=Oj;clear gl;have gl:=gl_;clear gl_;refine ab (aj ?_);apply nq mixed rfl rfl;intro Zt SI;have rA:=SI Fb;have:=ak gl;replace lg:=(rA.mem _ this).2 lg;replace gl:=rA.aL gl;have:=ak gn;replace nf:=(rA.mem _ this).2 nf;replace gn:=rA.aL gn;replace hv:=hv.le rA.le;replace hp:=hp.le (by decide) rA.le;replace lH:=lH.le rA.le;replace ho:=ho.aO rA;replace hM:=rA.lt hM;have:=S.size;replace S:=S.aB rA;refine ad rfl rfl ?_;refine ab ⟨rfl,rfl,rfl,?_⟩;refine eM rfl rfl rfl ?_;refine ab ⟨rfl,rfl,rfl,?_⟩;refine ad rfl rfl ?_;refine ab ⟨rfl,rfl,rfl,?_⟩;refine Rg.yC (g:=18) rfl ((by decide)) (al rfl rfl (ad rfl rfl ?_));refine ab ⟨rfl,rfl,rfl,?_⟩;refine al rfl rfl (bN bA rfl hv rfl ?_);refine ab ⟨rfl,rfl,rfl,?_⟩;refine al rfl rfl (tY rfl rfl rfl ?_);refine ab ⟨rfl,rfl,rfl,?_⟩;refine aE rfl rfl rfl ?_
 refine ab ⟨rfl,rfl,rfl,?_⟩;refine ad rfl rfl ?_;refine ab ⟨rfl,rfl,rfl,?_⟩;refine aS (g:=23) rfl (fun WG=>?_) (fun WG=>?_)
 ·refine aw rfl rfl rfl rfl ?_;refine ab ⟨rfl,rfl,rfl,?_⟩;refine aw rfl rfl rfl rfl ?_;refine ab ⟨rfl,rfl,rfl,?_⟩;refine aw rfl rfl rfl rfl ?_;refine ab ⟨rfl,rfl,rfl,?_⟩;refine aw rfl rfl rfl rfl ?_;refine ab ⟨rfl,rfl,rfl,?_⟩;refine aw rfl rfl rfl rfl ?_;refine ab ⟨rfl,rfl,rfl,?_⟩;refine aw rfl rfl rfl rfl ?_;refine ab ⟨rfl,rfl,rfl,?_⟩;refine aw rfl rfl rfl rfl ?_;refine ab ⟨rfl,rfl,rfl,?_⟩;refine aw rfl rfl rfl rfl ?_;refine ab ⟨rfl,rfl,rfl,?_⟩;refine aw rfl rfl rfl rfl ?_;refine ab ⟨rfl,rfl,rfl,?_⟩;refine aZ rfl rfl rfl ?_;refine ab ⟨rfl,rfl,rfl,?_⟩;refine ah rfl rfl ?_;refine ab ⟨rfl,rfl,rfl,?_⟩;refine eD (aP ?_)
  first
  |(have Rp:n0 n x=true:=by
     have:x=[]:=cZ.1 (by omega);simp[n0,this]
    rw[Rp];exact aV rfl rfl ⟨_,hM,rfl,(fun h=>by cases h),S⟩)
  |(have eN:x.isEmpty=false:=by cases x with
     |nil=>simp at WG
     |cons a t=>rfl
    have hbv:n0 n x=decide (n≤q.1):=by unfold n0;rw[hm,eN,Fa hq];rfl
    rw[hbv];exact aV rfl rfl ⟨_,hM,rfl,fun _=>⟨_,gl,lg,hBl,gn,nf,by rw[bI,hx,cJ,ec];exact ho⟩,S⟩)
 ·refine al rfl rfl (ad rfl rfl ?_);refine ab ⟨rfl,rfl,rfl,?_⟩;refine al rfl rfl (ad rfl rfl ?_);refine ab ⟨rfl,rfl,rfl,?_⟩;refine al rfl rfl (bN bA rfl hv rfl ?_);refine ab ⟨rfl,rfl,rfl,?_⟩;refine al rfl rfl (fv rfl rfl rfl (by omega) ?_);refine ab ⟨rfl,rfl,rfl,?_⟩;refine al rfl rfl ?_;obtain⟨q,hq⟩:∃q,x[x.length-1]? =some q:=⟨_,ar (by omega)⟩;refine cv (M:=Fb) bA l4 rfl rfl rfl hv (aq _ _) (by omega) (fun u3 a PQ J6=>?_);obtain rfl:q=a:=aF (hq.symm.trans (by rw[show((x.length:Int)-1).toNat=x.length-1 from by omega]at PQ;exact PQ));refine ab ⟨rfl,rfl,rfl,?_⟩;refine al rfl rfl ?_;refine aQ (M:=Fb) (A:=RT.po) (B:=RT.int .i64) bK rfl rfl I3 (by decide) (PO) rfl rfl (by decide) (by assumption) (by repeat (first|exact aq _ _|refine bc (bF (by assumption)) ?_)) (fun anv ah2=>?_);refine ab ⟨rfl,rfl,rfl,?_⟩;refine al rfl rfl ?_;refine cd (M:=Fb) ax rfl rfl (by assumption) (by repeat (first|exact aq _ _|refine bc (bF (by assumption)) ?_)) (fun Ol=>?_);refine aU (v':= .int .i64 (q.1)) rfl ?_;replace Ol: -9223372036854775808≤(q.1:Int)∧q.1≤9223372036854775807:=Ol;refine ab ⟨rfl,rfl,rfl,?_⟩;refine al rfl rfl (aN ax rfl rfl rfl gn rfl (aU (v':= .int .i64 n) rfl ?_));refine ab ⟨rfl,rfl,rfl,?_⟩;refine al rfl rfl (ef rfl rfl rfl ?_);refine ab ⟨rfl,rfl,rfl,?_⟩;refine aE rfl rfl rfl ?_;refine ab ⟨rfl,rfl,rfl,?_⟩;refine ah rfl rfl ?_;refine ab ⟨rfl,rfl,rfl,?_⟩;refine eD (aP ?_)
  first
  |(have Rp:n0 n x=true:=by
     have:x=[]:=cZ.1 (by omega);simp[n0,this]
    rw[Rp];exact aV rfl rfl ⟨_,hM,rfl,(fun h=>by cases h),S⟩)
  |(have eN:x.isEmpty=false:=by cases x with
     |nil=>simp at WG
     |cons a t=>rfl
    have hbv:n0 n x=decide (n≤q.1):=by unfold n0;rw[hm,eN,Fa hq];rfl
    rw[hbv];exact aV rfl rfl ⟨_,hM,rfl,fun _=>⟨_,gl,lg,hBl,gn,nf,by rw[bI,hx,cJ,ec];exact ho⟩,S⟩)
theorem Rq {M:aD} {bl bn B i:Nat} {n:Int} {ls:List (List Po)} {x:List Po} {v0:Value} (w0:World) (hM:Lt M w0) (hB:B≤w0.heap.size) (hJ:A2 bl bn n ls B i M w0) (hx:ls[i]? =some x) (hv:((RT.po).sl).V M w0 x v0) (hr:Room x) (ou:i≤1000000000) (hm:fN (-1) x=false):
  Spec Tryz.prog 144 #[v0,.pointer (some ⟨bl,0,none⟩),.pointer (some ⟨bn,0,none⟩)] w0 (fun v w=>∃M',Lt M' w∧v= .bool (n0 n x)∧(n0 n x=false→A2 bl bn n ls B (i+1) M' w)∧Step M w0 M' w (l1 M B)):=by
 have hlen:=dD hv;obtain⟨vl,gl,lg,hBl,gn,nf,ho0⟩:=hJ;have nln:bl≠bn:=fun h=>by rw[h,gn]at gl;simp at gl
 obtain⟨ys,ho,GG⟩:=ho0.cells rfl;rw[aH,br]at GG;clear ho0;refine bg (args:=[_,_,_]) (fn:=Tryz.f144) Tryz.func144 rfl (n:=34) Tryz.ntmps144 ?_;have S:Step M w0 M w0 (l1 M B):=(au _ _).cB (fun _ h=>h.elim) (fun _ h=>h.2);refine aj (ae (ah rfl rfl (ab (aj (ae (ad rfl rfl ?_))))));refine aX rfl rfl WB (BP hM hv hr.ps hr.by_ hr.ln hr.sG) (fun r1 w1 hc=>?_);obtain⟨s1,hok,ko⟩:=hc;obtain rfl:=ko hm;have:=ak gl;replace lg:=(s1.mem _ this).2 lg;replace gl:=s1.aL gl;have:=ak gn;replace nf:=(s1.mem _ this).2 nf;replace gn:=s1.aL gn;replace hv:=hv.le s1.le;replace ho:=ho.aO s1;replace hM:=s1.lt hM;have:=S.size;replace S:=S.aB s1;refine ad rfl rfl (bW rfl rfl rfl (bW rfl rfl rfl (ah rfl rfl (ah rfl rfl (ab (aj (ae (aN ei rfl rfl rfl gl rfl (aU (v':=vl) rfl (ad rfl rfl ?_))))))))));refine eu (A:=RT.cell) (hn:=by decide) (M:=M) ei AQ (by decide) rfl rfl hM (Ro (v:= .pointer none) rfl) (.inr ⟨rfl,rfl⟩) (fun aa1 ah0 lH qm=>?_);have:=ak gl;replace lg:=(qm.mem _ this).2 lg;replace gl:=qm.aL gl;have:=ak gn;replace nf:=(qm.mem _ this).2 nf;replace gn:=qm.aL gn;replace hv:=hv.le qm.le;replace ho:=ho.aO qm;replace hM:=qm.lt hM;have:=S.size;replace S:=S.aB qm;refine cV (M:=M) (base:=B) ei AQ rfl rfl rfl rfl ho lH (aq _ _) (by simp;omega) (by simp;omega) (by have:=S.size;omega) (fun WD Fb ah1 Oi qn=>?_);have:=ak gl;replace lg:=(qn.mem _ this).2 lg;replace gl:=qn.keep gl (fun h=>by first|exact ho.ep gl h|exact ho.eS gl (by decide) h|(have:=(ho.base _ h).1;omega));have:=ak gn;replace nf:=(qn.mem _ this).2 nf;replace gn:=qn.keep gn (fun h=>by first|exact ho.ep gn h|exact ho.eS gn (by decide) h|(have:=(ho.base _ h).1;omega))
 replace hv:=hv.le qn.le;replace lH:=lH.le qn.le;replace hM:=qn.lt hM;have:=S.size;replace S:=S.trans qn (fun k hk h=>⟨(ho.base k h).1,(S.mem k hk).1 (ho.mut_ k h)⟩);replace ho:=Oi;refine cw (M:=Fb) E8 rfl rfl gl rfl (by obtain⟨_,_,he,_⟩:=ho.isSlice;rw[he];rfl) lg (fun WE Oj oU=>?_);change WE.heap[_]? =some (Obj.cells #[WD] _ _)at Oj;have:=ak gl;replace lg:=(oU.mem _ this).2 lg;have:=ak gn;replace nf:=(oU.mem _ this).2 nf;replace gn:=oU.keep gn (fun hk=>by have hk:_=_:=hk;omega);replace hv:=hv.le oU.le;replace lH:=lH.le oU.le;replace ho:=ho.step oU (fun c hc (h:c=bl)=>ho.eS gl (by decide) (h▸hc));replace hM:=oU.lt hM;have:=S.size;replace S:=S.trans oU (fun k hk h=>by have h:_=_:=h;subst h;first|(exfalso;omega)|(show _≤_;omega)|exact⟨by first|omega|assumption,(S.mem _ hk).1 ((oU.mem _ (ak gl)).1 lg)⟩|exact .inl rfl|exact .inr rfl|exact .inr (.inl rfl)|exact .inr (.inr rfl)|exact .inr (.inr (.inl rfl))|exact rfl);have gl_:=Oj;clear gl;have gl:=gl_;clear gl_;refine ab (aj ?_);apply nq mixed rfl rfl;intro Zt SI;have rA:=SI Fb;have:=ak gl;replace lg:=(rA.mem _ this).2 lg;replace gl:=rA.aL gl;have:=ak gn;replace nf:=(rA.mem _ this).2 nf;replace gn:=rA.aL gn;replace hv:=hv.le rA.le;replace lH:=lH.le rA.le;replace ho:=ho.aO rA;replace hM:=rA.lt hM;have:=S.size;replace S:=S.aB rA;refine ad rfl rfl ?_;refine ab ⟨rfl,rfl,rfl,?_⟩;refine eM rfl rfl rfl ?_;refine ab ⟨rfl,rfl,rfl,?_⟩;refine ad rfl rfl ?_;refine ab ⟨rfl,rfl,rfl,?_⟩;refine Rg.Il (g:=18) rfl ((by decide)) (aw rfl rfl rfl rfl ?_);refine ab ⟨rfl,rfl,rfl,?_⟩;refine aw rfl rfl rfl rfl ?_;refine ab ⟨rfl,rfl,rfl,?_⟩;refine aw rfl rfl rfl rfl ?_;refine ab ⟨rfl,rfl,rfl,?_⟩;refine aZ rfl rfl rfl ?_;refine ab ⟨rfl,rfl,rfl,?_⟩;refine ad rfl rfl ?_;refine ab ⟨rfl,rfl,rfl,?_⟩;refine aw rfl rfl rfl rfl ?_
 refine ab ⟨rfl,rfl,rfl,?_⟩;refine aw rfl rfl rfl rfl ?_;refine ab ⟨rfl,rfl,rfl,?_⟩;refine aw rfl rfl rfl rfl ?_;refine ab ⟨rfl,rfl,rfl,?_⟩;refine aw rfl rfl rfl rfl ?_;refine ab ⟨rfl,rfl,rfl,?_⟩;refine aw rfl rfl rfl rfl ?_;refine ab ⟨rfl,rfl,rfl,?_⟩;refine aw rfl rfl rfl rfl ?_;refine ab ⟨rfl,rfl,rfl,?_⟩;refine aw rfl rfl rfl rfl ?_;refine ab ⟨rfl,rfl,rfl,?_⟩;refine aw rfl rfl rfl rfl ?_;refine ab ⟨rfl,rfl,rfl,?_⟩;refine aw rfl rfl rfl rfl ?_;refine ab ⟨rfl,rfl,rfl,?_⟩;refine aZ rfl rfl rfl ?_;refine ab ⟨rfl,rfl,rfl,?_⟩;refine ah rfl rfl ?_;refine ab ⟨rfl,rfl,rfl,?_⟩;refine eD (aP ?_);have Rp:n0 n x=true:=by simp[n0,hm]
 rw[Rp];exact aV rfl rfl ⟨_,hM,rfl,(fun h=>by cases h),S⟩
theorem Om {M:aD} {bl bn B i:Nat} {n:Int} {ls:List (List Po)} {x:List Po} {v0:Value} (w0:World) (hM:Lt M w0) (hB:B≤w0.heap.size) (hJ:A2 bl bn n ls B i M w0) (hx:ls[i]? =some x) (hv:((RT.po).sl).V M w0 x v0) (hr:Room x) (ou:i≤1000000000):
  Spec Tryz.prog 144 #[v0,.pointer (some ⟨bl,0,none⟩),.pointer (some ⟨bn,0,none⟩)] w0 (fun v w=>∃M',Lt M' w∧v= .bool (n0 n x)∧(n0 n x=false→A2 bl bn n ls B (i+1) M' w)∧Step M w0 M' w (l1 M B)):=by
 cases hm:fN (-1) x with
 |true=>exact WC w0 hM hB hJ hx hv hr ou hm
 |false=>exact Rq w0 hM hB hJ hx hv hr ou hm
end Go.K
namespace Go.K
open Go.Proofs
namespace TKBldH
theorem A3:TI Tryz.prog 58 (.slice none 0 0) 1 24:=by unfold TI;kernel_rfl
theorem A4:TI Tryz.prog 72 (.agg #[(.slice none 0 0),(.slice none 0 0),(.slice none 0 0),(.slice none 0 0)]) 4 96:=by unfold TI;kernel_rfl
theorem ah3:TI Tryz.prog 141 (.agg #[(.slice none 0 0),(.slice none 0 0),(.pointer none)]) 3 56:=by unfold TI;kernel_rfl
theorem E8:TI Tryz.prog 196 (.slice none 0 0) 1 24:=by unfold TI;kernel_rfl
theorem ah4:placesOf Tryz.prog 141=[(0,1),(1,1),(2,1)].map some:=by kernel_rfl
theorem Re:Enters Tryz.prog 51:=enters Tryz.func51 rfl (by decide)
theorem E92:Enters Tryz.prog 92:=enters Tryz.func92 rfl (by decide)
theorem ah5:Enters Tryz.prog 143:=enters Tryz.func143 rfl (by decide)
theorem ah6:Enters Tryz.prog 144:=enters Tryz.func144 rfl (by decide)
theorem ah7:Enters Tryz.prog 146:=enters Tryz.func146 rfl (by decide)
theorem ah8:Enters Tryz.prog 147:=enters Tryz.func147 rfl (by decide)
end TKBldH
open TKBldH
set_option maxRecDepth 10000
def AH (p:Pa):Bool:=decide (p.1.length=p.2.1.length)&&eG (-1) p.2.1&&p.2.2.2.all (fun x=> !n0 (p.1.length:Int) x)&&decide (p.2.2.1.length=p.2.2.2.length)&&EZ none p.2.2.1
def lx (p:Pa):Se:=(p.1,p.2.1,p.2.2.1,p.2.2.2.map nV)
structure On (p:Pa):Prop where
 a:p.1.length≤1000000000
 b:p.2.1.length≤1000000000
 c:p.2.2.1.length≤1000000000
 d:p.2.2.2.length≤1000000000
 e:∀x∈p.2.2.2,Room x
theorem HI {M:aD} {p:Pa} {v0:Value} (w0:World) (hM:Lt M w0) (hv:RT.pa.V M w0 p v0) (hR:On p):
  Spec Tryz.prog 92 #[v0] w0 (fun v w=>Step M w0 M w aC∧(AH p=true→cO RT.se M w v (lx p))∧(AH p=false→v= .pointer none)):=by
 have jO:=hM;obtain⟨hRa,hRb,hRc,hRd,hRe⟩:=hR;refine bg (args:=[_]) (fn:=Tryz.f92) Tryz.func92 rfl (n:=45) Tryz.ntmps92 ?_;have S:Step M w0 M w0 aC:=(au _ _).cB (fun _ h=>h.elim) (fun _ h=>h.elim);refine aj (ae ?_);refine qs (A:=RT.pa) rfl rfl hM hv rfl (fun u0 w1 dx s0 _=>?_);replace hM:=s0.lt hM;have:=S.size;replace S:=S.aB s0;refine ah rfl rfl (ab (aj (ae ?_)));refine aQ (M:=M) (A:=RT.pa) (B:=(RT.int .i64).sl) bu rfl rfl jY (by decide) (pa0) rfl rfl (by decide) (by assumption) (by repeat (first|exact aq _ _|refine bc (bF (by assumption)) ?_)) (fun CB nF=>?_);refine bU (M:=M) ao rfl rfl rfl rfl rfl (by assumption) (by repeat (first|exact aq _ _|refine bc (bF (by assumption)) ?_)) (fun AU nG=>?_);replace nG:((RT.int .i64).sl).V M _ p.1 AU:=nG;refine bN ao rfl nG rfl ?_;refine dU M I3 rfl (fun x4 JW agd age lF s1_3=>?_);obtain⟨nH,zw⟩:∃M',M'=ins M x4:=⟨_,rfl⟩;rw[←zw]at s1_3;have j9:nH x4:=by rw[zw];exact .inl rfl
 change JW.heap[x4]? =some (.cells #[.int .i64 0] _ _)at lF;replace dx:=dx.le (by decide) s1_3.le;replace hM:=s1_3.lt hM;have:=S.size;replace S:=S.aB s1_3;refine cw (M:=nH) I3 rfl rfl lF rfl (rfl) j9 (fun Vd aa3 mS=>?_);change Vd.heap[_]? =some (Obj.cells #[.int .i64 (p.1.length:Int)] _ _)at aa3;have:=ak lF;replace j9:=(mS.mem _ this).2 j9;replace dx:=dx.le (by decide) mS.le;replace hM:=mS.lt hM;have:=S.size;replace S:=S.trans mS (fun k hk h=>by have h:_=_:=h;subst h;first|(exfalso;omega)|(show _≤_;omega)|exact⟨by first|omega|assumption,(S.mem _ hk).1 ((mS.mem _ (ak lF)).1 j9)⟩|exact .inl rfl|exact .inr rfl|exact .inr (.inl rfl)|exact .inr (.inr rfl)|exact .inr (.inr (.inl rfl))|exact rfl);have Ep:=aa3;clear lF;have lF:=Ep;clear Ep;refine ab (aj (aj (ae ?_)));refine aQ (M:=nH) (A:=RT.pa) (B:=(RT.int .i64).sl) bu rfl rfl jY (by decide) (pa1) rfl rfl (by decide) (by assumption) (by repeat (first|exact aq _ _|refine bc (bF (by assumption)) ?_)) (fun asl anx=>?_);refine bU (M:=nH) ao rfl rfl rfl rfl rfl (by assumption) (by repeat (first|exact aq _ _|refine bc (bF (by assumption)) ?_)) (fun ah9 Oo=>?_);replace Oo:((RT.int .i64).sl).V nH _ p.2.1 ah9:=Oo;refine bN ao rfl Oo rfl (aN ax rfl rfl rfl lF rfl (aU (v':= .int .i64 (p.1.length:Int)) rfl (eM rfl rfl rfl (ad rfl rfl ?_))));refine aS (g:=16) rfl (fun aia=>?_) (fun aia=>?_)
 ·refine aw rfl rfl rfl rfl (aw rfl rfl rfl rfl (aw rfl rfl rfl rfl (aw rfl rfl rfl rfl (aZ rfl rfl rfl (ab (ot rfl (aj (ae (ah rfl rfl (ab (aP ?_)))))))))))
  have eb:AH p=false:=by
   unfold AH
   first
   |(rw[decide_eq_false (show¬p.1.length=p.2.1.length by omega)];simp;done)
   |(simp[c2];done)
  exact aV rfl rfl ⟨S.back,fun h=>by(rw[eb]at h;cases h),fun _=>rfl⟩
 ·have Ym:p.1.length=p.2.1.length:=by omega
  refine al rfl rfl ?_;refine aQ (M:=nH) (A:=RT.pa) (B:=(RT.int .i64).sl) bu rfl rfl jY (by decide) (pa1) rfl rfl (by decide) (by assumption) (by repeat (first|exact aq _ _|refine bc (bF (by assumption)) ?_)) (fun asm anz=>?_);refine al rfl rfl ?_;refine bU (M:=nH) ao rfl rfl rfl rfl rfl (by assumption) (by repeat (first|exact aq _ _|refine bc (bF (by assumption)) ?_)) (fun aib Oq=>?_);replace Oq:((RT.int .i64).sl).V nH _ p.2.1 aib:=Oq;refine al rfl rfl ?_;refine aX rfl rfl ah5 (Kl _ Oq) (fun r wc hc=>?_);obtain⟨rfl,rfl⟩:=hc;refine al rfl rfl (lY rfl rfl (aU (v':= .bool (decide (¬eG (-1) p.2.1=true))) (by simp) (aE rfl rfl rfl (ab ?_))));refine bM rfl (fun c2=>?_) (fun c2=>?_)
  ·refine aj (ae (ah rfl rfl (ab (aP ?_))))
   have eb:AH p=false:=by
    unfold AH
    first
    |(rw[decide_eq_false (show¬p.1.length=p.2.1.length by omega)];simp;done)
    |(simp[c2];done)
   exact aV rfl rfl ⟨S.back,fun h=>by(rw[eb]at h;cases h),fun _=>rfl⟩
  ·have er:eG (-1) p.2.1=true:=cP.1 c2;refine aT (aj (ae ?_));refine dU nH E8 rfl (fun Ot Mt aso asp Eb lP=>?_);obtain⟨I4,Ou⟩:∃M',M'=ins nH Ot:=⟨_,rfl⟩;rw[←Ou]at lP;have WH:I4 Ot:=by rw[Ou];exact .inl rfl
   change Mt.heap[Ot]? =some (.cells #[.slice none 0 0] _ _)at Eb;have:=ak lF;replace j9:=(lP.mem _ this).2 j9;replace lF:=lP.aL lF;replace dx:=dx.le (by decide) lP.le;replace hM:=lP.lt hM;have:=S.size;replace S:=S.aB lP;refine ab (aj (ae (kr (xs:=[]) (ys:=[.tmp 4,.tmp 3]) rfl rfl rfl (ah rfl rfl (ab (aj (aj (ae ?_))))))));refine aQ (M:=I4) (A:=RT.pa) (B:=((RT.po).sl).sl) bu rfl rfl A3 (by decide) (pa3) rfl rfl (by decide) (by assumption) (by repeat (first|exact aq _ _|refine bc (bF (by assumption)) ?_)) (fun ZW ML=>?_);refine bU (M:=I4) dF rfl rfl rfl rfl rfl (by assumption) (by repeat (first|exact aq _ _|refine bc (bF (by assumption)) ?_)) (fun VE zx=>?_);replace zx:(((RT.po).sl).sl).V I4 _ p.2.2.2 VE:=zx;refine ad rfl rfl ?_;refine aX rfl rfl ah7 (A1 (cap:=[.pointer (some ⟨Ot,0,none⟩),.pointer (some ⟨x4,0,none⟩)]) (B:=w0.heap.size) (J:=A2 Ot x4 (p.1.length:Int) p.2.2.2 w0.heap.size) (bad:=n0 (p.1.length:Int)) _ hM zx ah6 ⟨_,Eb,WH,by omega,lF,j9,dz _ _ _ _ _⟩ (fun i M w M' w' h s=>h.aO s) (fun i M w x vx hJ hM hx rV=>Om w hM (by obtain⟨_,h1,_,h2,_⟩:=hJ;have:=ak h1;omega) hJ hx rV (hRe x (az hx)) (by have:=(an.1 hx).1;omega))) (fun r6 w6 hc=>?_);obtain⟨M6,k6,rfl,hk6,Km,s6,hk7,hk8⟩:=hc;replace dx:=dx.le (by decide) s6.le;replace S:=S.mA s6 (aR _);refine ab ?_;refine bM rfl (fun c6=>?_) (fun c6=>?_)
   ·obtain⟨x6,hx6,qT⟩:=hk8 c6
    have eb:AH p=false:=by
     unfold AH;have:p.2.2.2.all (fun x=> !n0 (p.1.length:Int) x)=false:=List.all_eq_false.2 ⟨x6,hx6,by simp[qT]⟩;simp[this]
    refine aj (ae (ah rfl rfl (ab (aP ?_))));exact aV rfl rfl ⟨S.back,fun h=>by(rw[eb]at h;cases h),fun _=>rfl⟩
   ·refine aT (aj (ae ?_));obtain⟨qT,⟨vl,gl,_,_,_,_,fE⟩⟩:=hk7 (by omega);rw[aW (aR _)]at fE;have j7:(((RT.li).ptr).sl).V M w6 (p.2.2.2.map nV) vl:=fE.close jO S (by simp;omega);replace dx:cO RT.pa M w6 u0 p:=dx.le (by decide) (Le.close jO S);replace S:=S.back;replace hM:=S.lt jO;refine aQ (M:=M) (A:=RT.pa) (B:=RT.str.sl) bu rfl rfl yo (by decide) pa2 rfl rfl (by decide) dx (aq _ _) (fun ast anA=>?_);refine bU (M:=M) aJ rfl rfl rfl rfl rfl (by assumption) (by repeat (first|exact aq _ _|refine bc (bF (by assumption)) ?_)) (fun aic Ov=>?_);replace Ov:(RT.str.sl).V M _ p.2.2.1 aic:=Ov;refine aN ei rfl rfl rfl gl rfl (aU (v':=vl) rfl ?_);refine aX rfl rfl ah8 (HB _ hM Ov j7 (by omega) (by simp;omega)) (fun r8 w8 hc=>?_);obtain⟨pd,rfl,PU,s8⟩:=hc;replace dx:=dx.le (by decide) s8.le;replace j7:=j7.le s8.le;replace gl:=s8.aL gl;replace hM:=s8.lt hM;have:=S.size;replace S:=S.aB s8;refine ad rfl rfl (bW rfl rfl rfl (bW rfl rfl rfl (ah rfl rfl (ah rfl rfl (ab (aj (aj (ae (ad rfl rfl (eM rfl rfl rfl (ab ?_)))))))))));refine bM rfl (fun c9=>?_) (fun c9=>?_)
    ·have eb:AH p=false:=by
      by_cases h:AH p=true
      ·unfold AH at h;simp only[bX,decide_eq_true_eq]at h;exact absurd (by rw[if_pos ⟨by simp[h.1.2],h.2⟩]) c9
      ·simpa using h
     refine aj (ae (ah rfl rfl (ab (aP ?_))));exact aV rfl rfl ⟨S.back,fun h=>by(rw[eb]at h;cases h),fun _=>rfl⟩
    ·have e9:(p.2.2.1.length=(p.2.2.2.map nV).length∧EZ none p.2.2.1=true):=by
      by_cases h:(p.2.2.1.length=(p.2.2.2.map nV).length∧EZ none p.2.2.1=true)
      ·exact h
      ·exact absurd (by rw[if_neg h];decide) c9
     replace PU:=PU e9.1 e9.2;refine aT (aj ?_);apply T.LK [0,1,3,4,6,2,5,7,8,9] 5 [2,3,4] 2 aC mixed
     ·simp+decide only[yP,tu,eQ,jr,jm,jn,fe,cY,iu,qt,cond_true,cond_false,Nat.reduceBEq,Nat.reduceAdd,beq_self_eq_true];rfl
     ·rfl
     ·rfl
     ·rfl
     ·rfl
     ·rfl
     ·rfl
     intro Hu Hv;have iq:=Hv M;replace dx:=dx.le (by decide) iq.le;replace j7:=j7.le iq.le;replace gl:=iq.aL gl;replace hM:=iq.lt hM;have:=S.size;replace S:=S.aB iq;refine aQ (M:=M) (A:=RT.pa) (B:=(RT.int .i64).sl) bu rfl rfl jY (by decide) (pa0) rfl rfl (by decide) (by assumption) (by repeat (first|exact aq _ _|refine bc (bF (by assumption)) ?_)) (fun Tc MO=>?_);refine ab ⟨rfl,rfl,rfl,?_⟩;refine bU (M:=M) ao rfl rfl rfl rfl rfl (by assumption) (by repeat (first|exact aq _ _|refine bc (bF (by assumption)) ?_)) (fun aa4 HJ=>?_);replace HJ:((RT.int .i64).sl).V M _ p.1 aa4:=HJ;refine ab ⟨rfl,rfl,rfl,?_⟩;refine aQ (M:=M) (A:=RT.pa) (B:=(RT.int .i64).sl) bu rfl rfl jY (by decide) (pa1) rfl rfl (by decide) (by assumption) (by repeat (first|exact aq _ _|refine bc (bF (by assumption)) ?_)) (fun aa5 ng=>?_);refine ab ⟨rfl,rfl,rfl,?_⟩;refine bU (M:=M) ao rfl rfl rfl rfl rfl (by assumption) (by repeat (first|exact aq _ _|refine bc (bF (by assumption)) ?_)) (fun aa6 pQ=>?_);replace pQ:((RT.int .i64).sl).V M _ p.2.1 aa6:=pQ;refine ab ⟨rfl,rfl,rfl,?_⟩;refine ad rfl rfl ?_;refine ab ⟨rfl,rfl,rfl,?_⟩;refine eD ?_;obtain⟨bb,oo,cs,ee,fr,rfl,lC,_⟩:=ng.float;refine⟨ik ⟨iJ bu rfl jY (by decide),⟨ey rfl lC (fun h=>h),⟨eW,trivial⟩⟩⟩,?_⟩;have kp:=jl aC Hu;refine aX rfl rfl Re (qS hM HJ (by omega)) (fun v5 w5 hc=>?_);obtain⟨ox,s5⟩:=hc;replace pQ:=pQ.le s5.le;replace PU:=(PU.le (by decide) iq.le).le (by decide) s5.le;replace dx:=dx.le (by decide) s5.le;replace j7:=j7.le s5.le;replace gl:=s5.aL gl;replace hM:=s5.lt hM;have:=S.size;replace S:=S.aB s5;refine(fun(kp:eJ _ _ _)=>ab ⟨rfl,rfl,fun _=>kp,?_⟩) (by first|exact kp|exact kp.ry (by assumption)|exact kp.goN (by assumption)|exact kp.go (by assumption) (fun _ _ h=>by first|exact h|exact h.elim))
     refine aX rfl rfl Re (qS hM pQ (by omega)) (fun v6 w6' hc=>?_);obtain⟨rD,TG⟩:=hc;replace dx:=dx.le (by decide) TG.le;replace j7:=j7.le TG.le;replace ox:=ox.le TG.le;replace pQ:=pQ.le TG.le;replace PU:=PU.le (by decide) TG.le;replace gl:=TG.aL gl;replace hM:=TG.lt hM;have:=S.size;replace S:=S.aB TG;refine(fun(kp:eJ _ _ _)=>ab ⟨rfl,rfl,fun _=>kp,?_⟩) (by first|exact kp|exact kp.ry (by assumption)|exact kp.goN (by assumption)|exact kp.go (by assumption) (fun _ _ h=>by first|exact h|exact h.elim));refine iM (places:=[(0,1),(1,1),(2,1)]) iS ah3 ah4 rfl ⟨_,_,rfl,rfl,_,_,rfl,rfl,_,_,rfl,rfl,rfl⟩ (out:=[_,_,_]) ⟨0,[_],rfl,jE ox,by simp[Value.cells],1,[_],rfl,jE rD,by simp[Value.cells],2,[_],rfl,wK PU,by simp[Value.cells],rfl⟩ ?_;refine ab ⟨rfl,rfl,fun h=>absurd rfl h,?_⟩;refine qs (A:=RT.se) (a:=lx p) rfl rfl hM (agD (x:=lx p) ox rD PU) rfl (fun u8 w8' hu8 Rr _=>?_);replace dx:=dx.le (by decide) Rr.le;replace j7:=j7.le Rr.le;replace ox:=ox.le Rr.le;replace pQ:=pQ.le Rr.le;replace PU:=PU.le (by decide) Rr.le;replace rD:=rD.le Rr.le;replace gl:=Rr.aL gl;replace hM:=Rr.lt hM;have:=S.size;replace S:=S.aB Rr;refine ab ⟨rfl,rfl,fun h=>absurd rfl h,?_⟩;refine ah rfl rfl ?_;refine ab ⟨rfl,rfl,fun h=>absurd rfl h,?_⟩;refine lJ (aP ?_)
     have eb:AH p=true:=by
      unfold AH;rw[decide_eq_true Ym,er,e9.2,decide_eq_true (by simpa using e9.1),fA.2 (fun x hx=>by simp[qT x hx])];rfl
     exact aV rfl rfl ⟨S.back,fun _=>hu8,fun h=>by(rw[eb]at h;cases h)⟩
theorem zR {M:aD} {p:Pa} {v0:Value} (w0:World) (hM:Lt M w0) (hv:RT.pa.V M w0 p v0) (hR:On p):
  Spec Tryz.prog 43 #[v0] w0 (fun v w=>Step M w0 M w aC∧(AH p=true→∃s,v= .tuple #[s,.int .i64 0]∧cO RT.se M w s (lx p))∧(AH p=false→v= .tuple #[.pointer none,.int .i64 1])):=by
 refine bg (args:=[_]) (fn:=Tryz.f43) Tryz.func43 rfl (n:=10) Tryz.ntmps43 ?_;have S:Step M w0 M w0 aC:=(au _ _).cB (fun _ h=>h.elim) (fun _ h=>h.elim);refine aj (ae ?_);refine qs (A:=RT.pa) rfl rfl hM hv rfl (fun u0 w1 dx s0 _=>?_);replace hM:=s0.lt hM;have:=S.size;replace S:=S.aB s0;refine ah rfl rfl (ah rfl rfl (ab (aj (ae ?_))));refine cT (M:=M) (A:=RT.pa) bu rfl A4 (by decide) rfl rfl rfl dx (aq _ _) (fun v1 vK=>?_);refine aX rfl rfl E92 (HI _ hM vK hR) (fun r1 w2 hc=>?_);obtain⟨s2,hok,ko⟩:=hc
 obtain⟨o1,V2⟩:∃o,r1= .pointer o:=by
  cases h:AH p with
  |true=>obtain⟨b,o,_,h1,_⟩:=hok h;exact⟨_,h1⟩
  |false=>exact⟨none,ko h⟩
 subst V2;replace dx:=dx.le (by decide) s2.le;replace hM:=s2.lt hM;have:=S.size;replace S:=S.aB s2;refine ah rfl rfl (ab (aj (aj (ae (ad rfl rfl (Rg.Br eF rfl rfl rfl (ab ?_)))))));refine bM rfl (fun c2=>?_) (fun c2=>?_)
 ·refine aj (ae (ah rfl rfl (ah rfl rfl (ab (aP ?_)))))
  have eb:AH p=false:=by
   by_cases h:AH p=true
   ·obtain⟨b,o,_,h1,_⟩:=hok h;rw[c2]at h1;cases h1
   ·simpa using h
  exact fp rfl rfl rfl ⟨S.back,fun h=>by(rw[eb]at h;cases h),fun _=>rfl⟩
 ·refine aT (aj (ae (ad rfl rfl (ah rfl rfl (ah rfl rfl (ab (aP ?_)))))))
  have eb:AH p=true:=by
   by_cases h:AH p=true
   ·exact h
   ·have:=ko (by simpa using h);simp at this;exact absurd this c2
  exact fp rfl rfl rfl ⟨S.back,fun _=>⟨_,rfl,hok eb⟩,fun h=>by(rw[eb]at h;cases h)⟩
end Go.K
namespace Go.K
section
variable {P:Program} {r:Option Nat} {n:Nat} {L:Sl} {ds:List Deferred} {w:World} {K:Kt} {M:aD} {F:List (Nat×aD)}
def uT (l:List Oper) (m q d:Nat):Bool:=
 Nat.blt q m&&nB l [q] m ((l[m]?.map cy).getD [])&&kB l (m+1)&&
 ((List.range' m (l.length-m)).all fun j=>match l[j]? with
  |some o=>tq o.op&&(!(asks l o).contains d||(cy o).contains q)
  |none=>true)
theorem xC {l:List Oper} {m q d:Nat} (h:uT l m q d=true):q<m∧nB l [q] m ((l[m]?.map cy).getD [])=true∧kB l (m+1)=true∧∀j o,m≤j→l[j]? =some o→tq o.op=true∧(d∈asks l o→q∈cy o):=by
 simp only[uT,bX,Nat.blt_eq]at h;obtain⟨⟨⟨h1,h2⟩,h3⟩,h4⟩:=h;refine⟨h1,h2,h3,fun j o hj ho=>?_⟩;have dY:=(an.1 ho).1;have:=fA.1 h4 j (List.mem_range'_1.2 ⟨hj,by omega⟩);rw[ho]at this;simp only[bX,qq,jc,jR]at this;refine⟨this.1,fun hd=>?_⟩;rcases this.2 with h|h
 ·rw[←Bool.not_eq_true,jR]at h;exact absurd hd h
 ·exact h
structure TJ (P:Program) (r:Option Nat) (n:Nat) (l:List Oper) (m q d:Nat) (c:Value) (L:Sl) (K:Kt) (ds:List Deferred) (D:Nat→Prop) (a:Act) (w:World) (p:Nat) (ac:Act) (Lp:Sl) (wq:World):Prop where
 p0:m≤p
 p1:p≤l.length
 dt:∀i,i<l.length→i≠q→(D i↔i<p)
 ag:iY n ac Lp ds
 tr:sx P r n l.toArray aC wq K 0 (l.drop p) Lp ds w
 yes:D q→a=ac
 no: ¬D q→ac=a.put (some d) c∧∀t u,lk (kz l q L) t=some u→a.tmps[t]? =some u
theorem put_comm (a:Act) {d:Nat} {e:Option Nat} (h:e≠some d) (c v:Value):(a.put (some d) c).put e v=(a.put e v).put (some d) c:=by
 cases e with
 |none=>rfl
 |some e=>
  have eN:e≠d:=fun h'=>h (by rw[h'])
  simp only[Act.put];congr 1;apply Array.ext_getElem?;intro i;simp only[dG,Array.size_setIfInBounds];by_cases h1:e=i<;>by_cases h2:d=i<;>simp_all
theorem BR (a:Act) {d t:Nat} (c:Value) (h:t≠d):(a.put (some d) c).tmps[t]? =a.tmps[t]? :=by rw[iF,if_neg (fun e=>h (by injection e with e;exact e.symm))]
theorem TJ.next {l:List Oper} {m q d:Nat} {c:Value} (dr:eK l 0=true) (hok:uT l m q d=true) {oq:Oper} (hq:l[q]? =some oq) (HK:oq.dst=some d) (WI:jX oq.op=true) (Rs:oq.guard=none)
  (gY:∀(ρ:Operand→Value) w,(∀x u,ev (kz l q L) x=some u→ρ x=u)→(execOp ρ oq).run P w= .ok (.value c) w)
  {Q:Exit→Act→World→Prop} {D:Nat→Prop} {a:Act} {w:World} {j:Nat} {o:Oper} {rest:List Nat} (ho:l[j]? =some o) (pY: ¬D j) (hp:∀k∈cy o,D k) {p:Nat} {ac:Act} {Lp:Sl} {wq:World} (hi:TJ P r n l m q d c L K ds D a w p ac Lp wq)
  (hk:∀a' w',(∃p ac Lp wq,TJ P r n l m q d c L K ds (fun i=>i=j∨D i) a' w' p ac Lp wq)→wpOpsIn (FW r) 0 P l.toArray Q rest a' w'):wpOpsIn (FW r) 0 P l.toArray Q (j::rest) a w:=by
 obtain⟨hqm,_,yM,Is⟩:=xC hok;have xU:=(an.1 ho).1;by_cases hjq:j=q
 ·subst hjq;rw[hq]at ho;cases ho;obtain⟨I6,ly⟩:=hi.no pY;refine One.run (by simpa using hq) WI (v:=c) ?_ (hk _ _ ⟨p,ac,Lp,wq,hi.p0,hi.p1,fun i h1 h2=>⟨fun h=>(hi.dt i h1 h2).1 (h.resolve_left h2),fun h=> .inr ((hi.dt i h1 h2).2 h)⟩,hi.ag,hi.tr,fun _=>by rw[I6,HK],fun h=>absurd (.inl rfl) h⟩);unfold One;rw[if_pos (by simp[Region.wanted,Rs])];refine gY a.eval w fun x u hx=> ?_
  cases x with
  |tmp t=>simp only[ev]at hx;simp[Act.eval,ly t u hx]
  |const v=>simp only[ev]at hx;cases hx;rfl
  |global g=>simp only[ev]at hx;cases hx;rfl
  |func f=>simp only[ev]at hx;cases hx;rfl
 ·have hjp:j=p:=by
   have h1:p≤j:=by
    rcases cE j p with h|h
    ·exact absurd ((hi.dt j xU hjq).2 h) pY
    ·exact h
   have:=hi.p0;rcases cE m j with h|h
   ·have h2:=hp _ (k4 yM (j:=j) (by omega) ho);have:=(hi.dt (j-1) (by omega) (by omega)).1 h2;omega
   ·omega
  subst hjp;obtain⟨hto,hta⟩:=Is j o hi.p0 ho;have Cd:o.dst≠some d:=fun h=>hjq (fP dr ho hq h HK)
  have Du:∀t∈asks l o,a.tmps[t]? =ac.tmps[t]? :=fun t ht=>by
   by_cases hD:D q
   ·rw[hi.yes hD]
   ·rw[(hi.no hD).1,BR];rintro rfl;exact hD (hp q (hta ht))
  obtain⟨KY,DI⟩:=oF Du
  have hdf:a.defers=ac.defers:=by
   by_cases hD:D q
   ·rw[hi.yes hD]
   ·rw[(hi.no hD).1,put_defers]
  have xh:=hi.tr;rw[dH xU,(an.1 ho).2]at xh;have h1:=Rg.run xh ac hi.ag;refine DP (by simpa using ho) hto KY DI hdf h1 (fun e a w ⟨_,_,_,he,_⟩=>he) (fun v w' ⟨L',qw,hA,_,LC,_,UI⟩=>?_) (fun d' w' ⟨L',qw,hA,_,LC,_⟩=>?_)
  ·rw[LC]at hA;refine hk _ _ ⟨j+1,ac.put o.dst v,L',wq,by have:=hi.p0;omega,by omega,fun i h3 h4=>?_,hA,UI,fun h=>?_,fun h=>?_⟩
   ·constructor
    ·rintro(h|h)
     ·omega
     ·have:=(hi.dt i h3 h4).1 h;omega
    ·intro h;rcases lK (show i≤j by omega)with h5|h5
     ·exact .inl h5
     ·exact .inr ((hi.dt i h3 h4).2 h5)
   ·rw[hi.yes (h.resolve_left (fun e=>hjq e.symm))]
   ·have hD: ¬D q:=fun h'=>h (.inr h')
    obtain⟨I6,ly⟩:=hi.no hD;refine⟨by rw[I6,put_comm a Cd],fun t u ht=>?_⟩;obtain⟨h3,h4⟩:=kf (f:=lz l q) ht;rw[iF,if_neg,ly t u ht];intro e;simp only[lz,fA]at h3;have:=h3 o (az ho);simp only[e,beq_self_eq_true,Bool.not_true,Bool.false_or,jR]at this;exact hD (hp q this)
  ·have h3:=hA.defers;rw[put_defers,LC]at h3;have h4:=congrArg List.length h3;rw[hi.ag.defers]at h4;simp at h4
theorem il.WK {l:List Oper} {wd:World} (m q d:Nat) (c:Value) {oq:Oper} (F:List (Nat×aD)) (S:List (cG M)) (UG:S.length=m) (qy:Nat.blt m l.length=true) (dr:eK l 0=true) (hok:uT l m q d=true)
  (hq:l[q]? =some oq) (HK:oq.dst=some d) (WI:jX oq.op=true) (Rs:oq.guard=none) (hS:S[q]? =some (cG.eq c)) (gY:∀(ρ:Operand→Value) w,(∀x u,ev (kz l q L) x=some u→ρ x=u)→(execOp ρ oq).run P w= .ok (.value c) w)
  (ph:∀p∈F,∀b,p.2 b→M b) (hFq:∀p∈F,p.1≠q) (xg:yJ F l S) (kZ:bL P r n F wd l S ds L l S 0)
  (kA:∀w',Step M wd M w' (jL (F.map (·.2)))→gD w' (fun acc=>sx P r n l.toArray aC w' K 0 (l.drop m) (acc++kz l l.length L) ds w') l S []):il P r n l L ds wd K:=by
 intro a0 ha;obtain⟨hqm,LF,yM,Is⟩:=xC hok;have aa7:m<l.length:=by simpa[Nat.blt_eq]using qy
 have start:∀(D:Nat→Prop) a w,(∀i,i<m→i≠q→D i)→(∀i,m≤i→i<l.length→¬D i)→(∀i o,l[i]? =some o→D i→∀k∈cy o,D k)→Inv F S l wd L ds n (fun i=>D i∧i<l.length) a w→∃p ac Lp wq,TJ P r n l m q d c L K ds D a w p ac Lp wq:=by
  intro D a w iA ko lL hi
  obtain⟨ac,I6⟩:∃ac,(D q→a=ac)∧(¬D q→ac=a.put (some d) c):=by
   by_cases hD:D q
   ·exact⟨a,fun _=>rfl,fun h=>absurd hD h⟩
   ·exact⟨_,fun h=>absurd h hD,fun _=>rfl⟩
  have hqn:d<n∨n≤d:=cE d n
  have jW:n≤ac.tmps.size:=by
   by_cases hD:D q
   ·rw[←I6.1 hD];exact hi.size
   ·rw[I6.2 hD,oD];exact hi.size
  have hdf:ac.defers=ds:=by
   by_cases hD:D q
   ·rw[←I6.1 hD];exact hi.defers
   ·rw[I6.2 hD,put_defers];exact hi.defers
  have Ow:∀t,t≠d→ac.tmps[t]? =a.tmps[t]? :=fun t ht=>by
   by_cases hD:D q
   ·rw[←I6.1 hD]
   ·rw[I6.2 hD,BR a c ht]
  have aie:d<a.tmps.size:=by
   have hg:=kZ.take.get q oq (by rw[ck,UG,if_pos hqm];exact hq);by_cases hD:D q
   ·obtain⟨v,h1,_⟩:=hi.done q oq (cG.eq c) d hq hS ⟨hD,by omega⟩ HK;exact(Array.getElem?_eq_some_iff.1 h1).1
   ·refine Classical.byContradiction fun Lj=> ?_
    obtain⟨s,hs,aa9⟩:=hg;rw[fR]at aa9;rw[hS]at hs;cases hs
    have hpq:∀k∈cy oq,D k:=fun k hk=>by
     have:=cR dr q oq hq k hk;exact iA k (by omega) (by omega)
    have:=Inv.next (r:=r) (P:=P) hi dr xg ph (rest:=[]) (Q:=fun _ a' _=>n≤a'.tmps.size∧∃v,a'.tmps[d]? =some v) ⟨cG.eq c,hS,aa9⟩ hq (fun h=>hD h.1) (fun k hk=>⟨hpq k hk,by have:=cR dr q oq hq k hk;omega⟩) (fun a' w' iy=>by
     obtain⟨v,h1,_⟩:=iy.done q oq (cG.eq c) d hq hS (.inl rfl) HK;exact⟨iy.size,v,h1⟩)
    have tp:One P r l.toArray w oq a c:=by
     unfold One;rw[if_pos (by simp[Region.wanted,Rs])];refine gY a.eval w fun x u hx=> ?_
     have ly:∀t u,lk (kz l q L) t=some u→a.tmps[t]? =some u:=fun t u ht=>by
      obtain⟨h3,h4⟩:=kf (f:=lz l q) ht;refine hi.base t u h4 fun i o fV Dv he=> ?_
      simp only[lz,fA]at h3;have:=h3 o (az fV);simp only[he,beq_self_eq_true,Bool.not_true,Bool.false_or,jR]at this;exact hD (lL i o fV Dv.1 q this)
     cases x with
     |tmp t=>simp only[ev]at hx;simp[Act.eval,ly t u hx]
     |const v=>simp only[ev]at hx;cases hx;rfl
     |global g=>simp only[ev]at hx;cases hx;rfl
     |func f=>simp only[ev]at hx;cases hx;rfl
    simp only[wpOpsIn,eI,hq]at this;rw[if_pos (by simp[Region.wanted,Rs])]at this;obtain⟨_,h2⟩:=this;unfold One at tp;rw[if_pos (by simp[Region.wanted,Rs])]at tp;rw[Oper.semAt_eq _ _ _ (mF WI),tp]at h2;rw[Oper.uponIn_value]at h2;obtain⟨_,v,h3⟩:=h2;rw[HK]at h3;have:=(Array.getElem?_eq_some_iff.1 h3).1;simp[Act.put]at this;exact Lj this
  have aif:∃v,ac.tmps[d]? =some v∧v=c:=by
   by_cases hD:D q
   ·rw[←I6.1 hD];obtain⟨v,h1,h2⟩:=hi.done q oq (cG.eq c) d hq hS ⟨hD,by omega⟩ HK;exact⟨v,h1,h2⟩
   ·refine⟨c,?_,rfl⟩;rw[I6.2 hD,iF,if_pos rfl];simp[dG,aie]
  have jf:∀{i:Nat} {o:Oper},(l.take m)[i]? =some o→l[i]? =some o∧i<m:=fun {i o} h=>by
   rw[ck]at h
   split at h
   ·exact⟨h,by assumption⟩
   ·cases h
  have kM:Step M wd M w (jL (F.map (·.2))):=hi.step.cB (fun b ⟨p,hp,hD,hb⟩=>fC.2 ⟨p.2,bV.2 ⟨p,hp,rfl⟩,hb⟩) (fun b hb=>by
   obtain⟨N,hN,JB⟩:=fC.1 hb;obtain⟨p,hp,rfl⟩:=bV.1 hN;exact ph p hp b JB)
  have hE:=(kA w kM).take;rw[UG]at hE
  obtain⟨acc,h1,h2⟩:=gD.use (a:=ac) (l.take m) S [] (fun i o s h1 h2 h3=>by
    obtain⟨h4,h5⟩:=jf h1;by_cases TH:i=q
    ·subst TH;rw[hq]at h4;cases h4;rw[HK]at h3;cases h3
    ·exact hi.fin i o s h4 h2 ⟨iA i h5 TH,by omega⟩ h3)
   (fun i o s e h1 h2 h3=>by
    obtain⟨h4,h5⟩:=jf h1;by_cases TH:i=q
    ·subst TH;rw[hq]at h4;cases h4;rw[HK]at h3;cases h3;rw[hS]at h2;cases h2;exact aif
    ·obtain⟨v,h6,h7⟩:=hi.done i o s e h4 h2 ⟨iA i h5 TH,by omega⟩ h3;exact⟨v,by rw[Ow e (fun he=>TH (fP dr h4 hq h3 (by rw[HK,he])))];exact h6,h7⟩)
   (fun t v h=>by simp[lk]at h) hE
  refine⟨m,ac,_,w,aR _,by omega,fun i h3 h4=>⟨fun h=>?_,fun h=>iA i h h4⟩,⟨jW,hdf,fun t v h=>?_⟩,h1,I6.1,fun hD=>⟨I6.2 hD,fun t u ht=>?_⟩⟩
  ·rcases cE i m with h5|h5
   ·exact h5
   ·exact absurd h (ko i h5 h3)
  ·rcases mf h with h|h
   ·exact h2 t v h
   ·obtain⟨h3,h4⟩:=kf (f:=lz l l.length) h
    have eN:∀(i:Nat) (o:Oper),l[i]? =some o→o.dst≠some t:=fun i o fV he=>by
     simp only[lz,fA]at h3;have:=h3 o (az fV);simp only[he,beq_self_eq_true,Bool.not_true,Bool.false_or,jR]at this;have h7:=cR dr i o fV _ this;have h8:=(an.1 fV).1;omega
    rw[Ow t (fun e=>eN q oq hq (by rw[HK,e]))];exact hi.base t v h4 fun i o fV _=>eN i o fV
  ·obtain⟨h3,h4⟩:=kf (f:=lz l q) ht;refine hi.base t u h4 fun i o fV Dv he=> ?_
   simp only[lz,fA]at h3;have:=h3 o (az fV);simp only[he,beq_self_eq_true,Bool.not_true,Bool.false_or,jR]at this;exact hD (lL i o fV Dv.1 q this)
 refine⟨fun D a w=>((∀i,m≤i→i<l.length→¬D i)∧Inv F S l wd L ds n (fun i=>D i∧i<l.length) a w)∨∃p ac Lp wq,TJ P r n l m q d c L K ds D a w p ac Lp wq,fun D D' a w hJ hD=>?_,fun Q D a w j o rest hj ho pY hp lL hJ hk=>?_,fun a w hJ=>?_,.inl ⟨fun i _ _ h=>h,?_⟩⟩
 ·rcases hJ with⟨h1,h2⟩|⟨p,ac,Lp,wq,h⟩
  ·refine .inl ⟨fun i h3 h4 h5=>h1 i h3 h4 ((hD i h4).1 h5),?_⟩;have:(fun i=>D' i∧i<l.length)=fun i=>D i∧i<l.length:=funext fun i=>propext ⟨fun⟨h3,h4⟩=>⟨(hD i h4).1 h3,h4⟩,fun⟨h3,h4⟩=>⟨(hD i h4).2 h3,h4⟩⟩
   rw[this];exact h2
  ·exact .inr ⟨p,ac,Lp,wq,h.p0,h.p1,fun i h3 h4=>(hD i h3).trans (h.dt i h3 h4),h.ag,h.tr,fun h3=>h.yes ((hD q (by omega)).1 h3),fun h3=>h.no fun h4=>h3 ((hD q (by omega)).2 h4)⟩
 ·rcases hJ with⟨h1,h2⟩|⟨p,ac,Lp,wq,h⟩
  ·rcases cE j m with Bj|Bj
   ·have hg:=kZ.take.get j o (by rw[ck,UG,if_pos Bj];exact ho);rw[fR]at hg;refine h2.next dr xg ph hg ho (fun h=>pY h.1) (fun k uj=>⟨hp k uj,by have:=cR dr j o ho k uj;omega⟩) fun a' w' iy=>hk a' w' (.inl ⟨fun i h3 h4 h5=>?_,?_⟩)
    ·rcases h5 with h5|h5
     ·omega
     ·exact h1 i h3 h4 h5
    ·have:(fun i=>(i=j∨D i)∧i<l.length)=fun i=>i=j∨D i∧i<l.length:=funext fun i=>propext ⟨fun⟨h3,h4⟩=>h3.elim .inl fun h=> .inr ⟨h,h4⟩,fun h=>h.elim (fun h=>⟨.inl h,by omega⟩) fun h=>⟨.inr h.1,h.2⟩⟩
     rw[this];exact iy
   ·have aih:j=m:=by
     rcases cE m j with h|h
     ·have:=hp _ (k4 yM (j:=j) (by omega) ho);exact absurd this (h1 (j-1) (by omega) (by omega))
     ·omega
    subst aih;rw[ho]at LF;obtain⟨p,ac,Lp,wq,h⟩:=start D a w (fun i hi TH=>nC (D:=D) lL j (cy o) LF hp i hi (by simpa using TH)) h1 lL h2;exact h.next dr hok hq HK WI Rs gY ho pY hp fun a' w' h'=>hk a' w' (.inr h')
  ·exact h.next dr hok hq HK WI Rs gY ho pY hp fun a' w' h'=>hk a' w' (.inr h')
 ·rcases hJ with⟨h1,_⟩|⟨p,ac,Lp,wq,h⟩
  ·exact absurd aa7 (h1 m (aR _) aa7)
  ·have tS:p=l.length:=by
    rcases cE p l.length with h3|h3
    ·have h4:=(h.dt p h3 (by have:=h.p0;omega)).1 h3;omega
    ·have:=h.p1;omega
   have xh:=h.tr;rw[tS,List.drop_length]at xh;exact⟨Lp,ds,by rw[h.yes (by show q<l.length;omega)];exact h.ag,xh⟩
 ·refine⟨(au M wd).cB (fun _ h=>h.elim) (fun b ⟨p,hp,_,hb⟩=>ph p hp b hb),fun i o s _ _ h=>h.1.elim,ha.size,ha.defers,fun i o s e _ _ h=>h.1.elim,fun t v h _=>ha.at_ t v h,fun i o _ h=>h.1.elim⟩
theorem T.TL {id:Nat} {l l':List Oper} (π:List Nat) (m q d:Nat) (c:Value) {oq:Oper} (F:List (Nat×aD)) (S:List (cG M)) (hm:P.follows .mixedOrders=true) (GD:yP π l=l') (sy:eK l 0=true) (hπ:lM π l.length=true) (UG:S.length=m) (qy:Nat.blt m l'.length=true) (dr:eK l' 0=true) (hok:uT l' m q d=true)
  (hq:l'[q]? =some oq) (HK:oq.dst=some d) (WI:jX oq.op=true) (Rs:oq.guard=none) (hS:S[q]? =some (cG.eq c)) (gY:∀(ρ:Operand→Value) w,(∀x u,ev (kz l' q L) x=some u→ρ x=u)→(execOp ρ oq).run P w= .ok (.value c) w)
  (ph:∀p∈F,∀b,p.2 b→M b) (hFq:∀p∈F,p.1≠q) (xg:yJ F l' S)
  (h:∀wD,(∀M,Step M w M wD aC)→bL P r n F wD l' S ds L l' S 0∧∀w',Step M wD M w' (jL (F.map (·.2)))→gD w' (fun acc=>sx P r n l'.toArray aC w' K 0 (l'.drop m) (acc++kz l' l'.length L) ds w') l' S []):T P r n (.region id l.toArray true) L ds w K:=by
 subst GD;exact il.t hm sy fun wD hD=> .perm π hπ sy (.WK m q d c F S UG qy dr hok hq HK WI Rs hS gY ph hFq xg (h wD hD).1 (h wD hD).2)
theorem zT {s:TypeId} {fs:Array Field} {fd:Field} {j size o o' b:Nat} {zv:Value} {bytes:Nat} {x:Operand} {dst:Option Tmp} {ty:TypeId} {pos:String} {af:Array Edge} {gd:Option (Nat×Bool)} (hu:P.underlying s=some (.struct fs)) (Ll:fs[j]? =some fd) (ho:o+fd.offset=o') (hi:TI P fd.type zv size bytes) (hs:size≠0)
  {ρ:Operand→Value} (hx:ρ x= .pointer (some ⟨b,o,none⟩)) (w:World):(execOp ρ {dst,op:= .fieldAddr s x j,type:=ty,pos,after:=af,guard:=gd}).run P w= .ok (.value (.pointer (some ⟨b,o',none⟩))) w:=by
 simp only[execOp,hx];simp[Instr.fieldAt,run_underlying hu,Ll,Instr.sureAddr,fieldPlace,hi.sizeOf,hs,←ho,xL]
end
end Go.K
namespace Go.K
open Go.Proofs
set_option maxRecDepth 10000
def nJ:Int→List En→Int
 |last,[]=>last
 |_,e::L=>nJ e.2 L
def pR:Int→List En→Bool
 |_,[]=>true
 |last,e::L=>decide (nw last e=0)&&pR e.2 L
theorem Ox:∀{L:List En} {last:Int} {i:Nat} {e:En},pR last L=true→L[i]? =some e→nw (nJ last (L.take i)) e=0∧nJ last (L.take (i+1))=e.2
 |[],_,_,_,_,h=>by simp at h
 |x::L,last,0,e,h,hi=>by
  simp only[pR,bX,decide_eq_true_eq]at h;simp at hi;subst hi;exact⟨by simpa[nJ]using h.1,by simp[nJ]⟩
 |x::L,last,i+1,e,h,hi=>by
  simp only[pR,bX,decide_eq_true_eq]at h;have:=Ox h.2 (by simpa using hi);simpa[nJ]using this
theorem wL {last:Int} {e:En} (h:nw last e=0):lf e.1∧last<e.2:=by
 unfold nw at h
 split at h
 ·rename_i h1;exact absurd h h1
 ·rename_i h1
  split at h
  ·cases h
  ·exact⟨IT (by simpa using h1),by omega⟩
theorem kF:∀{L:List En} {last:Int},pR last L=true→∀e∈L,lf e.1
 |[],_,_,e,h=>by cases h
 |x::L,last,h,e,he=>by
  simp only[pR,bX,decide_eq_true_eq]at h;rcases ca.1 he with rfl|he
  ·exact(wL h.1).1
  ·exact kF h.2 e he
theorem BS:∀{L:List En} {last:Int},pR last L=true→eG last (L.map (·.2))=true
 |[],_,_=>rfl
 |x::L,last,h=>by
  simp only[pR,bX,decide_eq_true_eq]at h;simp only[eQ,eG,bX,decide_eq_true_eq];exact⟨(wL h.1).2,BS h.2⟩
def ew (L:List En):Pa:=(L.map (·.1.1),L.map (·.2),keysOf L,(keysOf L).map (pk L))
theorem Kr {x:List Po} (h:x≠[]):∃p∈x,E9 x=p.1:=by
 unfold E9
 cases hl:x.getLast? with
 |none=>exact absurd (List.getLast?_eq_none_iff.1 hl) h
 |some p=>exact⟨p,List.mem_of_getLast? hl,rfl⟩
theorem Oy {L:List En} (h:pR (-1) L=true) (hn:L.length≤1000000):AH (ew L)=true:=by
 have hF:=kF h;have h1:(keysOf L).map (pk L)=(ew L).2.2.2:=rfl;unfold AH;have e1:decide ((ew L).1.length=(ew L).2.1.length)=true:=by simp[ew]
 have e2:eG (-1) (ew L).2.1=true:=BS h;have e3:decide ((ew L).2.2.1.length=(ew L).2.2.2.length)=true:=by simp[ew]
 have e4:EZ none (ew L).2.2.1=true:=Wh (lv L)
 have e5:(ew L).2.2.2.all (fun x=> !n0 ((ew L).1.length:Int) x)=true:=by
  refine fA.2 fun x hx=> ?_
  rw[←h1]at hx;obtain⟨k,hk,rfl⟩:=bV.1 hx;have eN:pk L k≠[]:=Hp 0 (jA.1 hk)
  have aii:(pk L k).isEmpty=false:=by
   cases h:pk L k with
   |nil=>exact absurd h eN
   |cons a b=>rfl
  have ny:fN (-1) (pk L k)=true:=uQ k L 0 (-1) hF (by omega) (by omega);obtain⟨p,hp,hl⟩:=Kr eN;have:=(qR k L 0 hF).2 p hp;have hlen:((ew L).1.length:Int)=L.length:=by simp[ew]
  simp only[n0,ny,aii,hlen,hl];rw[decide_eq_false (by omega)];rfl
 rw[e1,e2,e3,e4,e5];rfl
theorem Rt {L:List En} (hF:∀e∈L,lf e.1) (hn:L.length≤1000000) (k:List UInt8):Room (pk L k):=by
 have h1:=qR k L 0 hF;have ny:fN (-1) (pk L k)=true:=uQ k L 0 (-1) hF (by omega) (by omega);have ky:∀p∈pk L k,p.2.length≤500:=fun p hp=>(h1.2 p hp).2.2
 obtain⟨h2,h3⟩:=wI (pk L k) (-1) 500 (by omega) ny ky (by omega);have hl:(pk L k).length≤L.length:=h1.1;exact⟨fun p hp=>by have:=ky p hp;omega,by omega,by omega,by omega⟩
theorem I7 {L:List En} (hF:∀e∈L,lf e.1) (hn:L.length≤1000000):On (ew L):=by
 have hk:(keysOf L).length≤500000000:=by
  have h1:=(lv L).nodup.length_le_of_subset (l₂:=iO L) (fun x hx=>jA.1 hx);have:=oT hF;omega
 refine⟨by simp[ew];omega,by simp[ew];omega,by simp only[ew];omega,by simp[ew];omega,fun x hx=>?_⟩;obtain⟨k,_,rfl⟩:=bV.1 hx;exact Rt hF hn k
theorem WL {M:aD} {w:World} {e:En} {v:Value} (h:RT.en.V M w e v):(-9223372036854775808≤e.1.1∧e.1.1≤9223372036854775807)∧ -9223372036854775808≤e.2∧e.2≤9223372036854775807:=by
 obtain⟨vs,⟨va,vb,_,⟨vc,vd,_,⟨_,h1⟩,_⟩,⟨_,h2⟩⟩,_⟩:=h;exact⟨h1,h2⟩
def ZP (B b:Nat) (vi vs:Value):aD:=fun k=>B≤k∧k≠b∧vi.ownBlock≠some k∧vs.ownBlock≠some k
theorem Own.TM {κ:IntKind} {e:TypeId} {M M' N:aD} {w w':World} {base:Nat} {v:Value} {xs:List Int} (h:Own (RT.int κ) e (nt v) w base v xs) (s:Step M w M' w' N) (hn:∀c,v.ownBlock=some c→¬N c):Own (RT.int κ) e (nt v) w' base v xs:=
 ((h.Qt (M':=allM) (fun _ _=>trivial)).Y5 s.all hn).lone
theorem Step.aba {M M' N:aD} {w w':World} (s:Step M w M' w' N) {v:Value} (hv:∀b,v.ownBlock=some b→b<w'.heap.size∧(w.heap.size≤b∨M' b)):Step M w (jF M' v) w' N:=
 ⟨fun h k hk=>hk.elim (fun h1=>(hv k h1).1) (fun h1=>s.lt h k h1),s.os,s.tape,s.output,s.size,fun k hk=>⟨fun h=>by
  rcases h with h|h
  ·rcases(hv k h).2 with h1|h1
   ·omega
   ·exact(s.mem k hk).1 h1
  ·exact(s.mem k hk).1 h,fun h=> .inr ((s.mem k hk).2 h)⟩,s.same,s.sub⟩
end Go.K
namespace Go.K
open Go.Proofs
namespace TKSegA
theorem abb:Enters Tryz.prog 104:=enters Tryz.func104 rfl (by decide)
theorem WM:Enters Tryz.prog 116:=enters Tryz.func116 rfl (by decide)
end TKSegA
open TKSegA
set_option maxRecDepth 10000
def Ks (xs:List Int) (i:Int):Int:=if 0≤i∧i<xs.length then xs.getD i.toNat 0 else-1
theorem Oz {xs:List Int} {i:Nat} {x:Int} (h:xs[i]? =some x):Ks xs i=x:=by
 have:=(an.1 h).1;unfold Ks;rw[if_pos (by omega),ay,aA,h];rfl
theorem I8 {M:aD} {xs:List Int} {v0:Value} {i:Int} (w0:World) (hv:((RT.int .i64).sl).V M w0 xs v0):
  Spec Tryz.prog 104 #[v0,.int .i64 i] w0 (fun v w=>v= .int .i64 (Ks xs i)∧w=w0):=by
 have hlen:=dD hv;refine bg (args:=[_,_]) (fn:=Tryz.f104) Tryz.func104 rfl (n:=17) Tryz.ntmps104 (aj (ae (ah rfl rfl (ab (aj (aj (ae (ad rfl rfl (cg rfl rfl rfl (ad rfl rfl ?_))))))))));refine aS (g:=7) rfl (fun iU=>?_) (fun iU=>?_)
 ·refine aw rfl rfl rfl rfl (aw rfl rfl rfl rfl (aw rfl rfl rfl rfl (aw rfl rfl rfl rfl (aZ rfl rfl rfl (ab (ot rfl (aj (ae (ah rfl rfl (ab (aP ?_)))))))))));have e:Ks xs i= -1:=by unfold Ks;rw[if_neg (by omega)]
  exact aV rfl rfl ⟨by rw[e],rfl⟩
 ·refine al rfl rfl (ad rfl rfl (al rfl rfl (ad rfl rfl (al rfl rfl (bN ao rfl hv rfl (al rfl rfl (ef rfl rfl rfl (aE rfl rfl rfl (ab ?_)))))))));refine bM rfl (fun c1=>?_) (fun c1=>?_)
  ·refine aj (ae (ah rfl rfl (ab (aP ?_))));have e:Ks xs i= -1:=by unfold Ks;rw[if_neg (by omega)]
   exact aV rfl rfl ⟨by rw[e],rfl⟩
  ·refine aT (aj (ae (ad rfl rfl (ad rfl rfl ?_))));refine cv (M:=M) ao I3 rfl rfl rfl hv (aq _ _) (by omega) (fun u x hg hu=>?_);refine cd (M:=M) ax rfl rfl hu (aq _ _) (fun kE=>?_);refine ah rfl rfl (ab (aP ?_));have e:Ks xs i=x:=by unfold Ks;rw[if_pos (by omega),aA,hg];rfl
   exact aV rfl rfl ⟨by rw[e],rfl⟩
theorem rG {M:aD} {s:Se} {v0:Value} (w0:World) (hs:cO RT.se M w0 v0 s):
  Spec Tryz.prog 34 #[v0] w0 (fun v w=>v= .int .i64 (s.1.length:Int)∧w=w0):=by
 refine bg (args:=[_]) (fn:=Tryz.f34) Tryz.func34 rfl (n:=8) Tryz.ntmps34 (aj (ae (ah rfl rfl (ab (aj (ae (ad rfl rfl (bT rfl hs.fH rfl ?_))))))));refine aQ (M:=M) (A:=RT.se) (B:=(RT.int .i64).sl) iS rfl rfl jY (by decide) se0 rfl rfl (by decide) hs (aq _ _) (fun Hr oR=>?_);refine bU (M:=M) ao rfl rfl rfl rfl rfl oR (aq _ _) (fun Ku qg=>?_);replace qg:((RT.int .i64).sl).V M _ s.1 Ku:=qg;refine bN ao rfl qg rfl (ah rfl rfl (ab (aP ?_)));exact aV rfl rfl ⟨rfl,rfl⟩
theorem OA {M:aD} {s:Se} {i:Int} {v0:Value} (w0:World) (hs:cO RT.se M w0 v0 s):
  Spec Tryz.prog 60 #[v0,.int .i64 i] w0 (fun v w=>v= .int .i64 (Ks s.1 i)∧w=w0):=by
 refine bg (args:=[_,_]) (fn:=Tryz.f60) Tryz.func60 rfl (n:=11) Tryz.ntmps60 (aj (ae (ah rfl rfl (ab (aj (ae (ad rfl rfl (bT rfl hs.fH rfl ?_))))))));refine aQ (M:=M) (A:=RT.se) (B:=(RT.int .i64).sl) iS rfl rfl jY (by decide) se0 rfl rfl (by decide) hs (aq _ _) (fun Hr oR=>?_);refine bU (M:=M) ao rfl rfl rfl rfl rfl oR (aq _ _) (fun Ku qg=>?_);replace qg:((RT.int .i64).sl).V M _ s.1 Ku:=qg;refine ad rfl rfl ?_;refine aX rfl rfl abb (I8 _ qg) (fun r wc hc=>?_);obtain⟨rfl,rfl⟩:=hc;refine ah rfl rfl (ab (aP ?_));exact aV rfl rfl ⟨rfl,rfl⟩
theorem BU {M:aD} {s:Se} {i:Int} {v0:Value} (w0:World) (hs:cO RT.se M w0 v0 s):
  Spec Tryz.prog 58 #[v0,.int .i64 i] w0 (fun v w=>v= .int .i64 (Ks s.2.1 i)∧w=w0):=by
 refine bg (args:=[_,_]) (fn:=Tryz.f58) Tryz.func58 rfl (n:=11) Tryz.ntmps58 (aj (ae (ah rfl rfl (ab (aj (ae (ad rfl rfl (bT rfl hs.fH rfl ?_))))))));refine aQ (M:=M) (A:=RT.se) (B:=(RT.int .i64).sl) iS rfl rfl jY (by decide) se1 rfl rfl (by decide) hs (aq _ _) (fun Hr oR=>?_);refine bU (M:=M) ao rfl rfl rfl rfl rfl oR (aq _ _) (fun Ku qg=>?_);replace qg:((RT.int .i64).sl).V M _ s.2.1 Ku:=qg;refine ad rfl rfl ?_;refine aX rfl rfl abb (I8 _ qg) (fun r wc hc=>?_);obtain⟨rfl,rfl⟩:=hc;refine ah rfl rfl (ab (aP ?_));exact aV rfl rfl ⟨rfl,rfl⟩
theorem zU {α:Type} {p:α→Bool}:∀{xs:List α} {i:Nat},i≤xs.length→(∀(k:Nat) x,k<i→xs[k]? =some x→p x=true)→(∀(k:Nat) x,i≤k→xs[k]? =some x→p x=false)→xs.countP p=i
 |[],i,hi,_,_=>by simp at hi;simp[hi]
 |x::xs,0,_,_,h2=>by
  rw[List.countP_eq_zero.2];intro a ha;obtain⟨k,hk⟩:=bz.1 ha;simp[h2 k a (bD _) hk]
 |x::xs,i+1,hi,h1,h2=>by
  rw[List.countP_cons_of_pos (h1 0 x (by omega) rfl),zU (by simpa using hi) (fun k y hk hy=>h1 (k+1) y (by omega) (by simpa using hy)) (fun k y hk hy=>h2 (k+1) y (by omega) (by simpa using hy))]
end Go.K
namespace Go.K
open Go.Proofs
namespace TKSegB
theorem E8:TI Tryz.prog 196 (.slice none 0 0) 1 24:=by unfold TI;kernel_rfl
theorem aij:Enters Tryz.prog 125:=enters Tryz.func125 rfl (by decide)
theorem aik:Enters Tryz.prog 181:=enters Tryz.func181 rfl (by decide)
theorem ail:Enters Tryz.prog 182:=enters Tryz.func182 rfl (by decide)
end TKSegB
open TKSegB
set_option maxRecDepth 10000
def K9 (ns:List (List UInt8)) (k:List UInt8):Nat:=ns.countP fun x=>decide (x<k)
theorem abc {ns:List (List UInt8)} (h:EH ns) {i j:Nat} {x y:List UInt8} (jq:i≤j) (hx:ns[i]? =some x) (hy:ns[j]? =some y): ¬y<x:=by
 rcases lK jq with rfl|h1
 ·rw[hx]at hy;cases hy;exact ji x
 ·exact ja (iH h hx hy h1)
theorem CR {ns:List (List UInt8)} (h:EH ns) {k:List UInt8}:(k∈ns→ns[K9 ns k]? =some k)∧∀x,ns[K9 ns k]? =some x→¬x<k:=by
 have key:∀{ns:List (List UInt8)},EH ns→(k∈ns→ns[K9 ns k]? =some k)∧∀x,ns[K9 ns k]? =some x→¬x<k:=by
  intro ns
  induction ns with
  |nil=>exact fun _=>⟨(fun h=>by cases h),fun x h=>by simp at h⟩
  |cons y ns ih=>
   intro h;have h':=eC.1 h;by_cases hy:y<k
   ·have e:K9 (y::ns) k=K9 ns k+1:=by unfold K9;rw[List.countP_cons_of_pos (by simpa using hy)]
    rw[e];simp only[List.getElem?_cons_succ];refine⟨fun hk=>(ih h'.2).1 ?_,(ih h'.2).2⟩;rcases ca.1 hk with rfl|hk
    ·exact absurd hy (ji _)
    ·exact hk
   ·have iA:∀x∈ns,¬x<k:=fun x hx dY=>hy (mq (h'.1 x hx) dY)
    have e:K9 (y::ns) k=0:=by
     unfold K9;rw[List.countP_eq_zero];intro a ha;rcases ca.1 ha with rfl|ha
     ·simpa using hy
     ·simpa using iA a ha
    rw[e];refine⟨fun hk=>?_,fun x hx=>by simp at hx;subst hx;exact hy⟩;rcases ca.1 hk with rfl|hk
    ·rfl
    ·exact absurd (h'.1 k hk) hy
 exact key h
def geN (ns:List (List UInt8)) (k:List UInt8) (i:Nat):Bool:=match ns[i]? with|some x=> !decide (x<k)|none=>true
theorem zV {ns:List (List UInt8)} {k x:List UInt8} {i:Nat} (h:ns[i]? =some x):geN ns k i= !decide (x<k):=by unfold geN;rw[h]
theorem OB {ns:List (List UInt8)} (h:EH ns) {k:List UInt8}:ns[K9 ns k]? =some k↔k∈ns:=⟨fun h=>az h,(CR h).1⟩
theorem HL {M:aD} {n:Nat} {g:FuncId} {cap:List Value} {good:Nat→Bool} (w0:World) (hg:Enters Tryz.prog g) (TN:∀i j,i≤j→j<n→good i=true→good j=true) (hn:n≤4611686018427387904) (ht:∀(i:Nat) w,i<n→Step M w0 M w aC→Spec Tryz.prog g ([.int .i64 (i:Int)]++cap:List Value).toArray w (fun v w'=>v= .bool (good i)∧Step M w M w' aC)):
  Spec Tryz.prog 181 #[.int .i64 (n:Int),.func (.func g) #[] cap.toArray] w0 (fun v w=>∃m:Nat,v= .int .i64 (m:Int)∧m≤n∧(∀i,i<m→good i=false)∧(∀i,m≤i→i<n→good i=true)∧Step M w0 M w aC):=by
 refine bg (args:=[_,_]) (fn:=Tryz.f181) Tryz.func181 rfl (n:=23) Tryz.ntmps181 (aj (ae (ah rfl rfl (ab (aj (ae (ah rfl rfl (ab (aj (aY ?_))))))))));refine dh (σ:=Nat×Nat) (fun q=>[(0,.int .i64 (q.2:Int)),(1,.func (.func g) #[] cap.toArray),(5,.int .i64 (q.1:Int))]) (fun q w=>Step M w0 M w aC∧q.1≤q.2∧q.2≤n∧(∀i,i<q.1→good i=false)∧(∀i,q.2≤i→i<n→good i=true)) (fun q=>q.2-q.1) (0,n) (.cons rfl (.cons rfl (.cons rfl .nil))) ?_ ?_
 ·exact⟨au _ _,bD _,aR _,fun i h=>absurd h (Nat.not_lt_zero _),fun i h h'=>by omega⟩
 ·rintro⟨i,j⟩ w ⟨S,jq,hj,h1,h2⟩;dsimp only at jq hj h1 h2 ⊢;refine aj (aj (ae (ad rfl rfl (ad rfl rfl (cg rfl rfl rfl (ab ?_))))));refine bM rfl (fun c2=>?_) (fun c2=>?_)
  ·refine aT (aY (aj (ae (ad rfl rfl (ad rfl rfl (ad rfl rfl (fv rfl rfl rfl (by omega) (Rg.AL rfl rfl rfl (by omega) (bG rfl rfl rfl (by omega) (aU (v':= .int .i64 ((i+(j-i)/2:Nat):Int)) (congrArg _ (by omega)) (ah rfl rfl ?_)))))))))));refine ab (aj (ae (ad rfl rfl (ad rfl rfl ?_))));refine rO (first:=[]) (captured:=cap) (xs:=[.tmp 17]) rfl rfl rfl hg (vs:=[.int .i64 ((i+(j-i)/2:Nat):Int)]) (ht (i+(j-i)/2) _ (by omega) S) (fun r4 w4 hc=>?_);obtain⟨rfl,s4⟩:=hc;refine aU (v':= .bool (decide (good (i+(j-i)/2)=true))) (by simp) ?_;replace S:=S.aB s4;refine ab ?_;refine bM rfl (fun c4=>?_) (fun c4=>?_)
   ·refine ae (ad rfl rfl (ah rfl rfl (ab ?_)));refine⟨rfl,(i,i+(j-i)/2),(.cons rfl (.cons rfl (.cons rfl .nil))),?_,?_⟩
    ·exact⟨S,by dsimp only;omega,by dsimp only;omega,h1,fun k hk Hz=>TN _ _ hk Hz c4⟩
    ·dsimp only;omega
   ·refine ae (ad rfl rfl (bG rfl rfl rfl (by omega) (ah rfl rfl (ab ?_))));refine⟨rfl,(i+(j-i)/2+1,j),(.cons rfl (.cons rfl (.cons rfl .nil))),?_,?_⟩
    ·exact⟨S,by dsimp only;omega,hj,fun k hk=>by
      cases h:good k with
      |false=>rfl
      |true=>exact absurd (TN k (i+(j-i)/2) (by dsimp only at hk;omega) (by omega) h) c4,h2⟩
    ·dsimp only;omega
  ·refine cH (aj (ae (ad rfl rfl (ah rfl rfl (ab (aP ?_))))));have e:i=j:=by omega
   subst e;exact aV rfl rfl ⟨i,rfl,hj,h1,h2,S⟩
theorem Fc {M:aD} {d:Di} {v0:Value} {i bd bk:Nat} {k x:List UInt8} (w0:World) (hd:cO RT.di M w0 v0 d) (gd:w0.heap[bd]? =some (.cells #[v0] 139 (0,0))) (gk:w0.heap[bk]? =some (.cells #[sv k] 9 (0,0))) (hx:d.1[i]? =some x):
  Spec Tryz.prog 182 #[.int .i64 (i:Int),.pointer (some ⟨bd,0,none⟩),.pointer (some ⟨bk,0,none⟩)] w0 (fun v w=>v= .bool (!decide (x<k))∧Step M w0 M w aC):=by
 have hM:True:=trivial;refine bg (args:=[_,_,_]) (fn:=Tryz.f182) Tryz.func182 rfl (n:=14) Tryz.ntmps182 (aj (ae (ah rfl rfl (ab (aj ?_)))));apply nq mixed rfl rfl;intro Gf Mm;have mj:=Mm M;replace gd:=mj.aL gd;replace gk:=mj.aL gk;replace hd:=hd.le (by decide) mj.le;refine aN gG rfl rfl rfl gd rfl (aU (v':=v0) rfl ?_);refine ab ⟨rfl,rfl,rfl,?_⟩;refine bT rfl hd.fH rfl ?_;refine ab ⟨rfl,rfl,rfl,?_⟩;refine aQ (M:=M) (A:=RT.di) (B:=RT.str.sl) j6 rfl rfl yo (by decide) Yh rfl rfl (by decide) hd (aq _ _) (fun pn PV=>?_);refine ab ⟨rfl,rfl,rfl,?_⟩;refine bU (M:=M) aJ rfl rfl rfl rfl rfl PV (aq _ _) (fun vn sJ=>?_);replace sJ:(RT.str.sl).V M _ d.1 vn:=sJ;refine ab ⟨rfl,rfl,rfl,?_⟩;refine ad rfl rfl ?_;refine ab ⟨rfl,rfl,rfl,?_⟩;have ou:=(an.1 hx).1;refine cv (M:=M) aJ I9 rfl rfl rfl sJ (aq _ _) (by omega) (fun u a hg hu=>?_);obtain rfl:x=a:=aF (hx.symm.trans (by simpa using hg));refine ab ⟨rfl,rfl,rfl,?_⟩;refine bU (M:=M) aK rfl rfl rfl rfl rfl hu (aq _ _) (fun vx rV=>?_);obtain rfl:=gm rV;refine ab ⟨rfl,rfl,rfl,?_⟩;refine aN aK rfl rfl rfl gk rfl (aU (v':=sv k) rfl ?_);refine ab ⟨rfl,rfl,rfl,?_⟩;refine Rg.VR rfl rfl rfl ?_;refine ab ⟨rfl,rfl,rfl,?_⟩;refine ah rfl rfl ?_;refine ab ⟨rfl,rfl,rfl,?_⟩;refine eD (aP ?_);exact aV rfl rfl ⟨by rw[decide_not],mj⟩
theorem HM {M:aD} {d:Di} {v0:Value} {k:List UInt8} (w0:World) (hM:Lt M w0) (hd:cO RT.di M w0 v0 d) (DA:EH d.1):
  Spec Tryz.prog 125 #[v0,sv k] w0 (fun v w=>v= .tuple #[.int .i64 (K9 d.1 k:Int),.bool (decide (k∈d.1))]∧Step M w0 M w aC):=by
 refine bg (args:=[_,_]) (fn:=Tryz.f125) Tryz.func125 rfl (n:=33) Tryz.ntmps125 ?_;have S:Step M w0 M w0 aC:=(au _ _).cB (fun _ h=>h.elim) (fun _ h=>h.elim);refine aj (ae ?_);refine xM M rfl rfl (fun x9 CS ain aio oV CT=>?_);replace oV:CS.heap[x9]? =some (.cells #[v0] 139 (0,0)):=by rw[wK hd]at oV;exact oV
 obtain⟨gV,zW⟩:∃M',M'=ins M x9:=⟨_,rfl⟩;rw[←zW]at CT;have qU:gV x9:=by rw[zW];exact .inl rfl
 replace hd:=hd.le (by decide) CT.le;replace hM:=CT.lt hM;have:=S.size;replace S:=S.aB CT;refine xM gV rfl rfl (fun pK G6 VB VC gu nY=>?_);obtain⟨fx,mX⟩:∃M',M'=ins gV pK:=⟨_,rfl⟩;rw[←mX]at nY;have fk:fx pK:=by rw[mX];exact .inl rfl
 change G6.heap[pK]? =some (.cells #[sv k] _ _)at gu;have:=ak oV;replace qU:=(nY.mem _ this).2 qU;replace oV:=nY.aL oV;replace hd:=hd.le (by decide) nY.le;replace hM:=nY.lt hM;have:=S.size;replace S:=S.aB nY;refine ah rfl rfl (ah rfl rfl (ab (aj (ae (aN gG rfl rfl rfl oV rfl (aU (v':=v0) rfl (bT rfl hd.fH rfl ?_)))))));refine aQ (M:=fx) (A:=RT.di) (B:=RT.str.sl) j6 rfl rfl yo (by decide) Yh rfl rfl (by decide) hd (aq _ _) (fun pn PV=>?_);refine bU (M:=fx) aJ rfl rfl rfl rfl rfl PV (aq _ _) (fun vn sJ=>?_);replace sJ:(RT.str.sl).V fx _ d.1 vn:=sJ;have Yc:=dD sJ;refine bN aJ rfl sJ rfl (kr (xs:=[]) (ys:=[.tmp 2,.tmp 3]) rfl rfl rfl ?_)
 refine aX rfl rfl aik (HL (M:=fx) (n:=d.1.length) (cap:=[.pointer (some ⟨x9,0,none⟩),.pointer (some ⟨pK,0,none⟩)]) (good:=geN d.1 k) _ ail (fun i j jq hj h=>by
  have hi:=ar (show i<d.1.length by omega);have uq:=ar hj;rw[zV hi]at h;rw[zV uq];simp only[jc,decide_eq_false_iff_not]at h ⊢;intro dY;rcases jZ d.1[i] d.1[j]with h1|h1|h1
  ·exact h (mq h1 dY)
  ·rw[h1]at h;exact h dY
  ·exact abc DA jq hi uq h1) (by omega) (fun i w hi s=>by
  have hx:=ar hi;rw[zV hx];exact Fc w (hd.le (by decide) s.le) (s.aL oV) (s.aL gu) hx)) (fun r1 w1 hc=>?_)
 obtain⟨m,rfl,hm,hlo,hhi,s1⟩:=hc;have em:K9 d.1 k=m:=zU hm (fun i x hi hx=>by have:=hlo i hi;rw[zV hx]at this;simpa using this) (fun i x hi hx=>by have:=hhi i hi (an.1 hx).1;rw[zV hx]at this;simpa using this);have:=ak oV;replace qU:=(s1.mem _ this).2 qU;replace oV:=s1.aL oV;have:=ak gu;replace fk:=(s1.mem _ this).2 fk;replace gu:=s1.aL gu;replace hd:=hd.le (by decide) s1.le;replace hM:=s1.lt hM;have:=S.size;replace S:=S.aB s1;refine ah rfl rfl (ab (aj ?_));apply nq mixed rfl rfl;intro wD2 sA2;have Kv:=sA2 fx;have:=ak oV;replace qU:=(Kv.mem _ this).2 qU;replace oV:=Kv.aL oV;have:=ak gu;replace fk:=(Kv.mem _ this).2 fk;replace gu:=Kv.aL gu;replace hd:=hd.le (by decide) Kv.le;replace hM:=Kv.lt hM;have:=S.size;replace S:=S.aB Kv;refine ad rfl rfl ?_;refine ab ⟨rfl,rfl,rfl,?_⟩;refine ad rfl rfl ?_;refine ab ⟨rfl,rfl,rfl,?_⟩;refine aN gG rfl rfl rfl oV rfl (aU (v':=v0) rfl ?_);refine ab ⟨rfl,rfl,rfl,?_⟩;refine bT rfl hd.fH rfl ?_;refine ab ⟨rfl,rfl,rfl,?_⟩;refine aQ (M:=fx) (A:=RT.di) (B:=RT.str.sl) j6 rfl rfl yo (by decide) Yh rfl rfl (by decide) hd (aq _ _) (fun pn2 aip=>?_);refine ab ⟨rfl,rfl,rfl,?_⟩;refine bU (M:=fx) aJ rfl rfl rfl rfl rfl aip (aq _ _) (fun vn2 WN=>?_);replace WN:(RT.str.sl).V fx _ d.1 vn2:=WN;refine ab ⟨rfl,rfl,rfl,?_⟩;refine bN aJ rfl WN rfl ?_;refine ab ⟨rfl,rfl,rfl,?_⟩;refine cg rfl rfl rfl ?_;refine ab ⟨rfl,rfl,rfl,?_⟩;refine ad rfl rfl ?_;refine ab ⟨rfl,rfl,rfl,?_⟩;refine aS (g:=22) rfl (fun aiq=>?_) (fun aiq=>?_)
 ·refine al rfl rfl (aN gG rfl rfl rfl oV rfl (aU (v':=v0) rfl ?_));refine ab ⟨rfl,rfl,rfl,?_⟩;refine al rfl rfl (bT rfl hd.fH rfl ?_);refine ab ⟨rfl,rfl,rfl,?_⟩;refine al rfl rfl ?_;refine aQ (M:=fx) (A:=RT.di) (B:=RT.str.sl) j6 rfl rfl yo (by decide) Yh rfl rfl (by decide) hd (aq _ _) (fun pn3 air=>?_);refine ab ⟨rfl,rfl,rfl,?_⟩;refine al rfl rfl ?_;refine bU (M:=fx) aJ rfl rfl rfl rfl rfl air (aq _ _) (fun vn3 WO=>?_);replace WO:(RT.str.sl).V fx _ d.1 vn3:=WO;refine ab ⟨rfl,rfl,rfl,?_⟩;refine al rfl rfl (ad rfl rfl ?_);refine ab ⟨rfl,rfl,rfl,?_⟩;refine al rfl rfl ?_;refine cv (M:=fx) aJ I9 rfl rfl rfl WO (aq _ _) (by omega) (fun u2 x hg2 sw=>?_);rw[ay]at hg2;refine ab ⟨rfl,rfl,rfl,?_⟩;refine al rfl rfl ?_;refine bU (M:=fx) aK rfl rfl rfl rfl rfl sw (aq _ _) (fun vx rV=>?_);obtain rfl:=gm rV;refine ab ⟨rfl,rfl,rfl,?_⟩;refine al rfl rfl (aN aK rfl rfl rfl gu rfl (aU (v':=sv k) rfl ?_));refine ab ⟨rfl,rfl,rfl,?_⟩;refine al rfl rfl (Rg.Im rfl rfl rfl ?_);refine ab ⟨rfl,rfl,rfl,?_⟩;refine aZ rfl rfl rfl ?_;refine ab ⟨rfl,rfl,rfl,?_⟩;refine ah rfl rfl ?_;refine ab ⟨rfl,rfl,rfl,?_⟩;refine ah rfl rfl ?_;refine ab ⟨rfl,rfl,rfl,?_⟩;refine eD (aP ?_);rw[←em]at*
  first
  |(have e:decide (x=k)=decide (k∈d.1):=decide_eq_decide.2 (by rw[←OB DA,hg2];simp)
    exact fp rfl rfl rfl ⟨by rw[e],S.back⟩)
  |(have e:k∉d.1:=fun h=>by have:=(CR DA).1 h;have:=(an.1 this).1;omega
    exact fp rfl rfl rfl ⟨by rw[decide_eq_false e],S.back⟩)
 ·refine aw rfl rfl rfl rfl ?_;refine ab ⟨rfl,rfl,rfl,?_⟩;refine aw rfl rfl rfl rfl ?_;refine ab ⟨rfl,rfl,rfl,?_⟩;refine aw rfl rfl rfl rfl ?_;refine ab ⟨rfl,rfl,rfl,?_⟩;refine aw rfl rfl rfl rfl ?_;refine ab ⟨rfl,rfl,rfl,?_⟩;refine aw rfl rfl rfl rfl ?_;refine ab ⟨rfl,rfl,rfl,?_⟩;refine aw rfl rfl rfl rfl ?_;refine ab ⟨rfl,rfl,rfl,?_⟩;refine aw rfl rfl rfl rfl ?_;refine ab ⟨rfl,rfl,rfl,?_⟩;refine aw rfl rfl rfl rfl ?_;refine ab ⟨rfl,rfl,rfl,?_⟩;refine aw rfl rfl rfl rfl ?_;refine ab ⟨rfl,rfl,rfl,?_⟩;refine aE rfl rfl rfl ?_;refine ab ⟨rfl,rfl,rfl,?_⟩;refine ah rfl rfl ?_;refine ab ⟨rfl,rfl,rfl,?_⟩;refine ah rfl rfl ?_;refine ab ⟨rfl,rfl,rfl,?_⟩;refine eD (aP ?_);rw[←em]at*
  first
  |(have e:decide (x=k)=decide (k∈d.1):=decide_eq_decide.2 (by rw[←OB DA,hg2];simp)
    exact fp rfl rfl rfl ⟨by rw[e],S.back⟩)
  |(have e:k∉d.1:=fun h=>by have:=(CR DA).1 h;have:=(an.1 this).1;omega
    exact fp rfl rfl rfl ⟨by rw[decide_eq_false e],S.back⟩)
theorem find_spec {M:aD} {d:Di} {v0:Value} {k:List UInt8} (w0:World) (hM:Lt M w0) (hd:cO RT.di M w0 v0 d) (DA:EH d.1) (hl:d.1.length=d.2.length):
  Spec Tryz.prog 79 #[v0,sv k] w0 (fun v w=>Step M w0 M w aC∧((∃(j:Nat) (p:Value) (t:Li),v= .tuple #[p,.bool true]∧d.1[j]? =some k∧d.2[j]? =some t∧cO RT.li M w p t)∨(v= .tuple #[.pointer none,.bool false]∧k∉d.1))):=by
 refine bg (args:=[_,_]) (fn:=Tryz.f79) Tryz.func79 rfl (n:=25) Tryz.ntmps79 ?_;have S:Step M w0 M w0 aC:=(au _ _).cB (fun _ h=>h.elim) (fun _ h=>h.elim);refine aj (ae (ah rfl rfl (ah rfl rfl (ab (aj (ae (ad rfl rfl (ad rfl rfl ?_))))))));refine aX rfl rfl aij (HM _ hM hd DA) (fun r1 w1 hc=>?_);obtain⟨rfl,s1⟩:=hc;replace hd:=hd.le (by decide) s1.le;replace hM:=s1.lt hM;have:=S.size;replace S:=S.aB s1;refine ad rfl rfl (bW rfl rfl rfl (bW rfl rfl rfl (ah rfl rfl (ah rfl rfl (ab (aj (aj (ae (ad rfl rfl (lY rfl rfl (aU (v':= .bool (decide (k∉d.1))) (by simp) ?_)))))))))));refine ab ?_;refine bM rfl (fun c2=>?_) (fun c2=>?_)
 ·refine aj (ae (ah rfl rfl (ab (aj (ae (ad rfl rfl (ah rfl rfl (ah rfl rfl (ab (aP ?_))))))))));exact fp rfl rfl rfl ⟨S,.inr ⟨rfl,c2⟩⟩
 ·refine aT (aj (ae (ad rfl rfl (bT rfl hd.fH rfl ?_))));refine aQ (M:=M) (A:=RT.di) (B:=((RT.li).ptr).sl) j6 rfl rfl E8 (by decide) di1 rfl rfl (by decide) hd (aq _ _) (fun pt Yz=>?_);refine bU (M:=M) ei rfl rfl rfl rfl rfl Yz (aq _ _) (fun vt o7=>?_);replace o7:(((RT.li).ptr).sl).V M _ d.2 vt:=o7;refine ad rfl rfl ?_;have hk:=(CR DA).1 (cP.1 c2);have Dw:=(an.1 hk).1;refine cv (M:=M) ei AQ rfl rfl rfl o7 (aq _ _) (by omega) (fun u5 t JV D9=>?_);rw[ay]at JV;refine bU (M:=M) eZ rfl rfl rfl rfl rfl D9 (aq _ _) (fun vp hvp=>?_);have ait:=lX.1 hvp;refine ah rfl rfl (ah rfl rfl (ab (aP ?_)));exact fp rfl rfl rfl ⟨S,.inl ⟨_,_,t,rfl,hk,JV,ait⟩⟩
end Go.K
namespace Go.K
open Go.Proofs
namespace TKSegC
theorem E8:TI Tryz.prog 196 (.slice none 0 0) 1 24:=by unfold TI;kernel_rfl
end TKSegC
open TKSegC
set_option maxRecDepth 10000
theorem zX {M:aD} {d:Di} {vd:Value} {bi bd yl:Nat} {wv:World} {J:Nat→World→Prop} {Jx:World→Prop} (w0:World) (hd:cO RT.di M wv vd d) (hl:d.1.length=d.2.length) (kM:∀i w w',J i w→Step aC w aC w' aC→J i w') (I1:∀i w,J i w→w.heap[bi]? =some (.cells #[.int .i64 0] 3 (0,0))∧w.heap[bd]? =some (.cells #[vd] 139 (0,0))∧Le M wv M w) (hy:∀(i:Nat) (w:World) x t vt,J i w→d.1[i]? =some x→d.2[i]? =some t→cO RT.li M w vt t→xj Tryz.prog yl [sv x,vt].toArray w (fun r w'=>∃b,r= .bool b∧(b=true→J (i+1) w')∧(b=false→Jx w'))) (h0:J 0 w0):
  Spec Tryz.prog 123 #[.func (.yield yl) #[] #[],.pointer (some ⟨bi,0,none⟩),.pointer (some ⟨bd,0,none⟩)] w0 (fun _ w=>J d.1.length w∨Jx w):=by
 refine bg (args:=[_,_,_]) (fn:=Tryz.f123) Tryz.func123 rfl (n:=33) Tryz.ntmps123 (aj (ae (aN ax rfl rfl rfl (I1 _ _ h0).1 rfl (aU (v':= .int .i64 0) rfl (Rg.max2 rfl rfl rfl (ah rfl rfl (ab (aY ?_))))))));refine dh (σ:=Nat) (fun s=>[(0,.func (.yield yl) #[] #[]),(1,.pointer (some ⟨bi,0,none⟩)),(2,.pointer (some ⟨bd,0,none⟩)),(4,.int .i64 (s:Int))]) (fun s w=>J s w∧s≤d.1.length) (fun s=>d.1.length-s) 0 (.cons rfl (.cons rfl (.cons rfl (.cons rfl .nil)))) ?_ ?_
 ·exact⟨h0,bD _⟩
 ·rintro k w ⟨hJ,hk⟩;obtain⟨gi,gd,hle⟩:=I1 _ _ hJ;have hdl:d.1.length≤140737488355328:=by obtain⟨b,o,vs,_,_,⟨va,vb,_,⟨a,cap,_,_,h,_⟩,_⟩,_⟩:=hd;exact h
  refine aj (aj (ae (ad rfl rfl (aN gG rfl rfl rfl gd rfl (aU (v':=vd) rfl (bT rfl hd.fH rfl ?_))))));refine aQ (M:=M) (A:=RT.di) (B:=RT.str.sl) j6 rfl rfl yo (by decide) Yh rfl rfl (by decide) hd hle (fun pn PV=>?_);refine bU (M:=M) aJ rfl rfl rfl rfl rfl PV (aq _ _) (fun vn sJ=>?_);replace sJ:(RT.str.sl).V M _ d.1 vn:=sJ;refine bN aJ rfl sJ rfl (cg rfl rfl rfl (ab ?_));refine bM rfl (fun c1=>?_) (fun c1=>?_)
  ·refine aT (aj (aY (aj ?_)));apply T.LD 15 mixed rfl rfl rfl rfl rfl;intro Zt SI;have rA:=SI M;refine ad rfl rfl ?_;refine ab ⟨rfl,rfl,rfl,?_⟩;replace hJ:=kM _ _ _ hJ (SI aC);clear gi gd hle;obtain⟨gi,gd,hle⟩:=I1 _ _ hJ;refine aN gG rfl rfl rfl gd rfl (aU (v':=vd) rfl ?_);refine ab ⟨rfl,rfl,rfl,?_⟩;refine bT rfl hd.fH rfl ?_;refine ab ⟨rfl,rfl,rfl,?_⟩;refine aQ (M:=M) (A:=RT.di) (B:=RT.str.sl) j6 rfl rfl yo (by decide) Yh rfl rfl (by decide) hd hle (fun pm GB=>?_);refine ab ⟨rfl,rfl,rfl,?_⟩;refine bU (M:=M) aJ rfl rfl rfl rfl rfl GB (aq _ _) (fun vm hvm=>?_);replace hvm:(RT.str.sl).V M _ d.1 vm:=hvm;refine ab ⟨rfl,rfl,rfl,?_⟩;refine ad rfl rfl ?_;refine ab ⟨rfl,rfl,rfl,?_⟩;refine cv (M:=M) aJ I9 rfl rfl rfl hvm (aq _ _) (by omega) (fun u3 x PQ J6=>?_);rw[ay]at PQ;refine ab ⟨rfl,rfl,rfl,?_⟩;refine bU (M:=M) aK rfl rfl rfl rfl rfl J6 (aq _ _) (fun vx rV=>?_);obtain rfl:=gm rV;refine ab ⟨rfl,rfl,rfl,?_⟩;refine aN gG rfl rfl rfl gd rfl (aU (v':=vd) rfl ?_);refine ab ⟨rfl,rfl,rfl,?_⟩;refine bT rfl hd.fH rfl ?_;refine ab ⟨rfl,rfl,rfl,?_⟩;refine aQ (M:=M) (A:=RT.di) (B:=((RT.li).ptr).sl) j6 rfl rfl E8 (by decide) di1 rfl rfl (by decide) hd hle (fun pt Yz=>?_);refine ab ⟨rfl,rfl,rfl,?_⟩;refine bU (M:=M) ei rfl rfl rfl rfl rfl Yz (aq _ _) (fun vt o7=>?_);replace o7:(((RT.li).ptr).sl).V M _ d.2 vt:=o7;refine ab ⟨rfl,rfl,rfl,?_⟩;refine ad rfl rfl ?_;refine ab ⟨rfl,rfl,rfl,?_⟩;refine cv (M:=M) ei AQ rfl rfl rfl o7 (aq _ _) (by omega) (fun u4 t xo Ge=>?_);rw[ay]at xo;refine ab ⟨rfl,rfl,rfl,?_⟩;refine bU (M:=M) eZ rfl rfl rfl rfl rfl Ge (aq _ _) (fun vp hvp=>?_)
   refine ab ⟨rfl,rfl,rfl,?_⟩;refine eD ?_;refine Rg.yield rfl (vs:=[sv x,vp]) rfl rfl (hy k _ x t vp hJ PQ xo (lX.1 hvp)) (fun r5 w5 h5=>?_);obtain⟨b,rfl,SG,qT⟩:=h5;refine lY rfl rfl (aU (v':= .bool (decide (¬b=true))) (by simp) (ab ?_));refine bM rfl (fun c3=>?_) (fun c3=>?_)
   ·refine aP ?_;exact DD rfl (.inr (qT (by simpa using c3)))
   ·refine aT (ae (ad rfl rfl (bG rfl rfl rfl (by omega) (ah rfl rfl (ab ?_)))));refine⟨rfl,k+1,(.cons rfl (.cons rfl (.cons rfl (.cons rfl .nil)))),?_,?_⟩
    ·exact⟨SG (cP.1 c3),by omega⟩
    ·omega
  ·refine cH ?_
   first|refine rN ?_|simp+decide only[rQ,jJ,if_true,if_false]|skip
   have e:k=d.1.length:=by omega
   subst e;exact gj rfl (.inl hJ)
theorem BV {M:aD} {d:Di} {vd:Value} (w0:World) (hM:Lt M w0) (hd:cO RT.di M w0 vd d):
  Spec Tryz.prog 77 #[vd,.int .i64 0] w0 (fun v w=>∃bi bd,v= .func (.func 123) #[] [.pointer (some ⟨bi,0,none⟩),.pointer (some ⟨bd,0,none⟩)].toArray∧w.heap[bi]? =some (.cells #[.int .i64 0] 3 (0,0))∧w.heap[bd]? =some (.cells #[vd] 139 (0,0))∧w0.heap.size≤bi∧w0.heap.size≤bd∧Step M w0 M w aC):=by
 refine bg (args:=[_,_]) (fn:=Tryz.f77) Tryz.func77 rfl (n:=6) Tryz.ntmps77 (aj (ae ?_));refine xM M rfl rfl (fun bd w1 p1 q1 g1 s1=>?_);rw[wK hd]at g1;replace s1:=s1.back;refine xM M rfl rfl (fun bi w2 p2 q2 g2 s2=>?_);replace s2:=s2.back;replace g2:w2.heap[bi]? =some (.cells #[.int .i64 0] 3 (0,0)):=g2;refine ah rfl rfl (ab (aj (ae (kr (xs:=[]) (ys:=[.tmp 3,.tmp 2]) rfl rfl rfl (ah rfl rfl (ab (aP ?_)))))));exact aV rfl rfl ⟨bi,bd,rfl,g2,s2.aL g1,by have:=s1.size;omega,p1,s1.aB s2⟩
end Go.K
namespace Go.K
open Go.Proofs
namespace TKSegD
theorem Fe:TI Tryz.prog 139 (.pointer none) 1 8:=by unfold TI;kernel_rfl
theorem E76:Enters Tryz.prog 76:=enters Tryz.func76 rfl (by decide)
theorem E77:Enters Tryz.prog 77:=enters Tryz.func77 rfl (by decide)
theorem WQ:Enters Tryz.prog 123:=enters Tryz.func123 rfl (by decide)
end TKSegD
open TKSegD
set_option maxRecDepth 10000
theorem OC {M:aD} {w:World} {xs:List (List UInt8)} {v:Value} (h:(RT.str.sl).V M w xs v):∀x∈xs,x.length≤140737488355328:=fun x hx=>by
 obtain⟨a,cap,_,_,_,hs⟩:=iz.1 h;rcases hs with rfl|⟨b,o,_,_,he⟩
 ·cases hx
 ·obtain⟨i,hi⟩:=bz.1 hx;obtain⟨vs,⟨_,h1⟩,_⟩:=he i x hi;exact h1
theorem OD {M:aD} {w:World} {v:Value} {d:Di} (h:cO RT.di M w v d):(∀x∈d.1,x.length≤140737488355328)∧d.1.length≤140737488355328:=by
 obtain⟨b,o,vs,_,_,⟨va,vb,_,h1,_⟩,_⟩:=h;have hv:(RT.str.sl).V M w d.1 ((RT.str.sl).val va):=⟨va,h1,rfl⟩;exact⟨OC hv,dD hv⟩
structure OE {α:Type} (A:RT α) (e T:TypeId) (M:aD) (w0:World) (bo bi bd D:Nat) (vd:Value) (st:Loop) (vo:Value) (xs:List α) (M':aD) (w:World):Prop where
 lt:Lt M' w
 S:Step M w0 M' w aC
 o:w.heap[bo]? =some (.cells #[vo] T (0,0))
 mo:M' bo
 r:w.heap[D+1]? =some (.loop st)
 mr:M' (D+1)
 d:w.heap[D]? =some (.deferred (some []))
 md:M' D
 own:Own A e M' w w0.heap.size vo xs
 gi:w.heap[bi]? =some (.cells #[.int .i64 0] 3 (0,0))
 gd:w.heap[bd]? =some (.cells #[vd] 139 (0,0))
 fi: ¬M' bi
 fd: ¬M' bd
 z:w0.heap.size≤bo∧w0.heap.size≤D
section
variable {α:Type} {A:RT α} {e T:TypeId} {M M1 M2 N:aD} {w0 w w':World} {bo bi bd D:Nat} {vd:Value} {st:Loop} {vo:Value} {xs:List α}
theorem OE.aO (h:OE A e T M w0 bo bi bd D vd st vo xs M1 w) (s:Step M1 w M2 w' aC):OE A e T M w0 bo bi bd D vd st vo xs M2 w':=
 ⟨s.lt h.lt,h.S.aB s,s.aL h.o,(s.mem _ (ak h.o)).2 h.mo,s.aL h.r,(s.mem _ (ak h.r)).2 h.mr,s.aL h.d,(s.mem _ (ak h.d)).2 h.md,h.own.aO s,s.aL h.gi,s.aL h.gd,fun hn=>h.fi ((s.mem _ (ak h.gi)).1 hn),fun hn=>h.fd ((s.mem _ (ak h.gd)).1 hn),h.z⟩
theorem OE.na {st':Loop} (h:OE A e T M w0 bo bi bd D vd st vo xs M1 w):OE A e T M w0 bo bi bd D vd st' vo xs M1 (w.putObj (D+1) (.loop st')):=by
 have s:Step M1 w M1 (w.putObj (D+1) (.loop st')) (fun k=>k=D+1):=dZ h.mr;obtain⟨z1,z2⟩:=h.z;refine⟨s.lt h.lt,h.S.cf s (fun k (hk:k=D+1)=>by omega),s.keep h.o (fun(hn:bo=D+1)=>by have h1:=h.o;rw[hn,h.r]at h1;cases h1),h.mo,xN (ak h.r),h.mr,s.keep h.d (fun(hn:D=D+1)=>by omega),h.md,h.own.step s (fun b hb (hn:b=D+1)=>?_),s.keep h.gi (fun(hn:bi=D+1)=>by have h1:=h.gi;rw[hn,h.r]at h1;cases h1),s.keep h.gd (fun(hn:bd=D+1)=>by have h1:=h.gd;rw[hn,h.r]at h1;cases h1),h.fi,h.fd,h.z⟩;obtain⟨cs,hc⟩:=h.own.isCells hb;rw[hn,h.r]at hc;cases hc
theorem OE.grow {HN:Value} {OF:List α} (hT:T≠e) (h:OE A e T M w0 bo bi bd D vd st vo xs M1 w) (s:Step M1 w M2 w' (fD vo)) (ho:Own A e M2 w' w0.heap.size HN OF):
  (w'.heap[bo]? =some (.cells #[vo] T (0,0))∧M2 bo)∧∀{w2:World},Step M2 w' M2 w2 (fun k=>k=bo)→w2.heap[bo]? =some (.cells #[HN] T (0,0))→OE A e T M w0 bo bi bd D vd st HN OF M2 w2:=by
 obtain⟨z1,z2⟩:=h.z
 have zY:∀{b:Nat} {o:Obj},w.heap[b]? =some o→(∀cs fr,o≠ .cells cs e fr)→¬fD vo b:=fun {b o} hb eN hn=>by
  obtain⟨⟨C,h1,_⟩,_⟩:=h.own;rcases h1.2 with h3|⟨g,cap,cur,h3,h4,h5,_⟩
  ·unfold fD at hn;rw[h3.1]at hn;cases hn
  ·unfold fD at hn;rw[h3]at hn;cases hn;rw[hb]at h5;exact eN _ _ (aF h5)
 have nM:∀{b:Nat},¬M1 b→¬fD vo b:=fun hb hn=>hb (h.own.mut_ _ hn)
 have fV:=s.keep h.o (zY h.o (fun cs fr hc=>by injection hc with _ h1 _;exact hT h1));have hr:=s.keep h.r (zY h.r (fun cs fr hc=>by cases hc));have hd:=s.keep h.d (zY h.d (fun cs fr hc=>by cases hc));have l8:=s.keep h.gi (nM h.fi);have pH:=s.keep h.gd (nM h.fd);have hfi: ¬M2 bi:=fun hn=>h.fi ((s.mem _ (ak h.gi)).1 hn)
 have Ll: ¬M2 bd:=fun hn=>h.fd ((s.mem _ (ak h.gd)).1 hn)
 have Hl:=(s.mem _ (ak h.o)).2 h.mo;refine⟨⟨fV,Hl⟩,fun {w2} s2 hx=>⟨s2.lt (s.lt h.lt),(h.S.cX s h.own (aR _)).cf s2 (fun k (hk:k=bo)=>by omega),hx,Hl,s2.keep hr (fun(hn:D+1=bo)=>by rw[hn,fV]at hr;cases hr),(s.mem _ (ak h.r)).2 h.mr,s2.keep hd (fun(hn:D=bo)=>by rw[hn,fV]at hd;cases hd),(s.mem _ (ak h.d)).2 h.md,ho.step s2 (fun b hb (hn:b=bo)=>ho.eS fV hT (by rw[←hn];exact hb)),s2.keep l8 (fun(hn:bi=bo)=>hfi (by rw[hn];exact Hl)),s2.keep pH (fun(hn:bd=bo)=>Ll (by rw[hn];exact Hl)),hfi,Ll,h.z⟩⟩
end
theorem aix {α:Type} {A:RT α} {e T:TypeId} {M M1:aD} {w0 w:World} {bo bi bd:Nat} {vd:Value} {st:Loop} (hM:Lt M1 w) (S:Step M w0 M1 w aC) (go:w.heap[bo]? =some (.cells #[.slice none 0 0] T (0,0))) (mo:M1 bo) (gi:w.heap[bi]? =some (.cells #[.int .i64 0] 3 (0,0))) (gd:w.heap[bd]? =some (.cells #[vd] 139 (0,0))) (fi: ¬M1 bi) (fd: ¬M1 bd) (Of:w0.heap.size≤bo):
  ∃M',OE A e T M w0 bo bi bd w.heap.size vd st (.slice none 0 0) [] M' ((w.alloc (.deferred (some []))).alloc (.loop st)):=by
 have sA:Step M1 w (ins M1 w.heap.size) (w.alloc (.deferred (some []))) aC:=(cW M1 w _).own (aR _) (by simp);have sB:Step (ins M1 w.heap.size) (w.alloc (.deferred (some []))) (ins (ins M1 w.heap.size) (w.heap.size+1)) ((w.alloc (.deferred (some []))).alloc (.loop st)) aC:=(cW _ _ _).own (by simp) (by simp);have hD:(w.alloc (.deferred (some []))).heap[w.heap.size]? =some (.deferred (some [])):=cj w _;have hR:((w.alloc (.deferred (some []))).alloc (.loop st)).heap[w.heap.size+1]? =some (.loop st):=by have:=cj (w.alloc (.deferred (some []))) (.loop st);rwa [AJ]at this
 have SS:=(S.aB sA).aB sB;have hi:=ak gi;have hd:=ak gd;refine⟨_,sB.lt (sA.lt hM),SS,sB.aL (sA.aL go),.inr (.inr mo),hR,.inl rfl,sB.aL hD,.inr (.inl rfl),dz _ _ _ _ _,sB.aL (sA.aL gi),sB.aL (sA.aL gd),?_,?_,Of,S.size⟩
 ·rintro(h|h|h)
  ·omega
  ·omega
  ·exact fi h
 ·rintro(h|h|h)
  ·omega
  ·omega
  ·exact fd h
theorem zZ {M:aD} {d:Di} {v0:Value} (w0:World) (hM:Lt M w0) (hd:cO RT.di M w0 v0 d) (hdl:d.1.length=d.2.length) (hd6:d.1.length≤1000000000):
  Spec Tryz.prog 76 #[v0] w0 (fun v w=>(RT.str.sl).V M w d.1 v∧Step M w0 M w aC):=by
 have jO:=hM;obtain⟨Jv,_⟩:=OD hd;refine oH (args:=[_]) (fn:=Tryz.f76) Tryz.func76 rfl (n:=14) Tryz.ntmps76 ?_;have S:Step M w0 M w0 aC:=(au _ _).cB (fun _ h=>h.elim) (fun _ h=>h.elim);refine aj (ae (ah rfl rfl (ab (aj (ae ?_)))));refine dU M yo rfl (fun mT Ec Vg Vh j8 nX=>?_);obtain⟨lE,mU⟩:∃M',M'=ins M mT:=⟨_,rfl⟩;rw[←mU]at nX;have iV:lE mT:=by rw[mU];exact .inl rfl
 change Ec.heap[mT]? =some (.cells #[.slice none 0 0] _ _)at j8;replace hM:=nX.lt hM;have:=S.size;replace S:=S.aB nX;refine ab (aj (aj (ae (ad rfl rfl ?_))));refine aX rfl rfl E77 (BV (M:=lE) _ hM (hd.le (by decide) nX.le)) (fun r2 w2 hc=>?_);obtain⟨bi,bd,rfl,gi,gd,QB,hbd,s2⟩:=hc;have fi: ¬lE bi:=fun h=>by have:=hM _ h;omega
 have fd: ¬lE bd:=fun h=>by have:=hM _ h;omega
 replace fi: ¬lE bi:=fi;have:=ak j8;replace iV:=(s2.mem _ this).2 iV;replace j8:=s2.aL j8;replace hM:=s2.lt hM;have:=S.size;replace S:=S.aB s2;refine ab (aY ?_);refine T.range (gf:=123) (lb:=[.pointer (some ⟨bi,0,none⟩),.pointer (some ⟨bd,0,none⟩)].toArray) rfl WQ (fun rec nU=>?_);obtain⟨D,hD⟩:∃D,D=w2.heap.size:=⟨_,rfl⟩;obtain⟨Mr,h0⟩:=aix (A:=RT.str) (e:=9) (st:=rec .ready none) hM S j8 iV gi gd fi fd (by omega);rw[←hD]at nU h0 ⊢;refine Spec.mono (zX (wv:=w0) (M:=M) (J:=fun i w=>∃M' vo,OE (RT.str) 9 57 M w0 mT bi bd D v0 (rec .ready none) vo (d.1.take i) M' w) (Jx:=fun _=>False) _ hd hdl (fun i w w' ⟨M',vo,h⟩ s=>⟨M',vo,h.aO (s.any M')⟩) (fun i w ⟨M',vo,h⟩=>⟨h.gi,h.gd,h.S.back.le⟩) (fun i wr x t vt hJ hx ht hp=>?_) ⟨Mr,_,h0⟩) (fun _ w3 h3=>?_)
 ·obtain⟨M',vo,h⟩:=hJ;refine mg (ps:=[7,8]) (vs:=[sv x,vt]) nU h.r rfl (by decide) (ae (ah rfl rfl (ab ?_)));refine⟨rfl,h.r,?_⟩;have h4:=h.na (st':=rec .busy none);have s4:Step M' wr M' (wr.putObj (D+1) (.loop (rec .busy none))) (fun k=>k=D+1):=dZ h.mr;generalize wr.putObj (D+1) _=w4 at h4 s4 ⊢;refine aY (ae (aN aJ rfl rfl rfl h4.o rfl (aU (v':=vo) rfl (ad rfl rfl ?_))));refine eu (A:=RT.str) (hn:=by decide) (M:=M') aJ I9 (by decide) rfl rfl h4.lt (kS.2 ⟨rfl,Jv x (az hx)⟩) (.inr ⟨rfl,rfl⟩) (fun u5 w5 D9 s5=>?_);have h6:=h4.aO s5;have ou:=(an.1 hx).1;refine cV (M:=M') (base:=w0.heap.size) aJ I9 rfl rfl rfl rfl h6.own D9 (aq _ _) (by simp;omega) (by simp;omega) h6.S.size (fun v6 M6 w6 uI s6=>?_);obtain⟨⟨go6,mo6⟩,Gw⟩:=h6.grow (by decide) s6 uI;refine cw (M:=M6) yo rfl rfl go6 rfl (by obtain⟨_,_,he,_⟩:=uI.isSlice;rw[he];rfl) mo6 (fun w7 g7 s7=>?_);refine ab ?_;have h8:=(Gw s7 g7).na (st':=rec .ready none);exact⟨(Gw s7 g7).r,true,rfl,fun _=>⟨M6,v6,by rw[bI,hx,cJ];exact h8⟩,fun h=>by cases h⟩
 ·obtain⟨M',vo,h⟩:=h3.resolve_right id;left;refine⟨h.r,?_⟩;have h5:=h.na (st':=rec .exhausted none);generalize w3.putObj (D+1) _=wE at h5 ⊢;refine aj (ae (aN aJ rfl rfl rfl h5.o rfl (aU (v':=vo) rfl (ah rfl rfl (ab (aP ?_))))));have sE:Step M' wE M' (wE.putObj D (.deferred none)) (fun k=>k=D):=dZ h5.md;have hz:=h5.z;have hS:=h5.S.cf sE (fun k (hk:k=D)=>by omega)
  have ho:=h5.own.step sE (fun b hb (hn:b=D)=>by
   obtain⟨cs,hc⟩:=h5.own.isCells hb;rw[hn,h5.d]at hc;cases hc)
  rw[aW (aR _)]at ho;exact Ck rfl rfl h5.d ⟨ho.close jO hS (by omega),hS.back⟩
theorem HO {M:aD} {s:Se} {v0:Value} (w0:World) (hM:Lt M w0) (hdl:s.2.2.1.length=s.2.2.2.length) (hd6:s.2.2.1.length≤1000000000) (hs:cO RT.se M w0 v0 s):
  Spec Tryz.prog 38 #[v0] w0 (fun v w=>(RT.str.sl).V M w s.2.2.1 v∧Step M w0 M w aC):=by
 refine bg (args:=[_]) (fn:=Tryz.f38) Tryz.func38 rfl (n:=8) Tryz.ntmps38 (aj (ae (ah rfl rfl (ab (aj (ae (ad rfl rfl (bT rfl hs.fH rfl ?_))))))));refine aQ (M:=M) (A:=RT.se) (B:=(RT.di).ptr) iS rfl rfl Fe (by decide) se2 rfl rfl (by decide) hs (aq _ _) (fun Hr oR=>?_);refine bU (M:=M) gG rfl rfl rfl rfl rfl oR (aq _ _) (fun vd hvd=>?_);refine aX rfl rfl E76 (zZ _ hM (lX.1 hvd) hdl hd6) (fun r wc hc=>?_);obtain hc:=hc;refine ah rfl rfl (ab (aP ?_));exact aV rfl rfl hc
end Go.K
namespace Go.K
open Go.Proofs
namespace TKSegE
theorem Fe:TI Tryz.prog 139 (.pointer none) 1 8:=by unfold TI;kernel_rfl
theorem E79:Enters Tryz.prog 79:=enters Tryz.func79 rfl (by decide)
end TKSegE
open TKSegE
set_option maxRecDepth 10000
def WR (ns:List (List UInt8)) (ls:List (List Po)) (k:List UInt8):List Po:=match (ns.zip ls).find? (fun p=>decide (p.1=k))with|some p=>p.2|none=>[]
theorem OG {ns:List (List UInt8)} (hn:ns.Nodup) {ls:List (List Po)} {k:List UInt8} {j:Nat} {l:List Po} (h:ns[j]? =some k) (hl:ls[j]? =some l):WR ns ls k=l:=by
 have:∀{ns:List (List UInt8)} {ls:List (List Po)} {j:Nat},ns.Nodup→ns[j]? =some k→ls[j]? =some l→(ns.zip ls).find? (fun p=>decide (p.1=k))=some (k,l):=by
  intro ns
  induction ns with
  |nil=>intro ls j _ h;simp at h
  |cons x ns ih=>
   intro ls j hn h hl
   cases ls with
   |nil=>simp at hl
   |cons y ls=>
    cases j with
    |zero=>simp at h hl;subst h;subst hl;simp
    |succ j=>
     have J5:=List.nodup_cons.1 hn;have hk:k∈ns:=az (by simpa using h);have hx:x≠k:=fun e=>J5.1 (by rw[e];exact hk)
     rw[List.zip_cons_cons,List.find?_cons_of_neg (by simpa using hx)];exact ih J5.2 (by simpa using h) (by simpa using hl)
 unfold WR;rw[this hn h hl]
theorem Ff {ns:List (List UInt8)} {ls:List (List Po)} {k:List UInt8} (h:k∉ns):WR ns ls k=[]:=by
 unfold WR;rw[List.find?_eq_none.2 fun p hp=>by have:=List.of_mem_zip hp;simp;intro e;exact h (e▸this.1)]
theorem WS {L:List En} (k:List UInt8):WR (keysOf L) ((keysOf L).map (pk L)) k=pk L k:=by
 by_cases h:k∈keysOf L
 ·obtain⟨j,hj⟩:=bz.1 h;exact OG (lv L).nodup hj (by rw[bj,hj];rfl)
 ·rw[Ff h];exact(CK 0 (fun h'=>h (jA.2 h'))).symm
def abg (d:Di) (k:List UInt8) (M:aD) (v:Value) (w:World):Prop:=(∃(j:Nat) (t:Li),d.1[j]? =some k∧d.2[j]? =some t∧cO RT.li M w v t)∨(v= .pointer none∧k∉d.1)
end Go.K
namespace Go.K
open Go.Proofs
namespace TKAdv
theorem x7:TI Tryz.prog 80 (.slice none 0 0) 1 24:=by unfold TI;kernel_rfl
theorem abh:Enters Tryz.prog 180:=enters Tryz.func180 rfl (by decide)
end TKAdv
open TKAdv
set_option maxRecDepth 10000
end Go.K
namespace Go.K
open Go.Proofs
namespace TKErsA
theorem Fe:TI Tryz.prog 139 (.pointer none) 1 8:=by unfold TI;kernel_rfl
theorem E79:Enters Tryz.prog 79:=enters Tryz.func79 rfl (by decide)
theorem WB:Enters Tryz.prog 145:=enters Tryz.func145 rfl (by decide)
end TKErsA
open TKErsA
set_option maxRecDepth 10000
end Go.K
namespace Go.K
open Go.Proofs
namespace TKErsB
theorem E58:Enters Tryz.prog 58:=enters Tryz.func58 rfl (by decide)
end TKErsB
open TKErsB
set_option maxRecDepth 10000
end Go.K
namespace Go.K
open Go.Proofs
set_option maxRecDepth 10000
structure OH {α:Type} (A:RT α) (e T C:TypeId) (K:aD→World→Prop) (M:aD) (w0:World) (bo D:Nat) (st:Loop) (vo:Value) (xs:List α) (M':aD) (w:World):Prop where
 lt:Lt M' w
 S:Step M w0 M' w aC
 o:w.heap[bo]? =some (.cells #[vo] T (0,0))
 mo:M' bo
 r:w.heap[D+1]? =some (.loop st)
 mr:M' (D+1)
 d:w.heap[D]? =some (.deferred (some []))
 md:M' D
 own:Own A e M' w w0.heap.size vo xs
 k:K M' w
 z:w0.heap.size≤bo∧w0.heap.size≤D
section
variable {α:Type} {A:RT α} {e T C:TypeId} {K:aD→World→Prop} {M M1 M2 N:aD} {w0 w w':World} {bo D:Nat} {st:Loop} {vo:Value} {xs:List α}
theorem OH.aO (hK:∀{M w M' w'},K M w→Le M w M' w'→K M' w') (h:OH A e T C K M w0 bo D st vo xs M1 w) (s:Step M1 w M2 w' aC):OH A e T C K M w0 bo D st vo xs M2 w':=
 ⟨s.lt h.lt,h.S.aB s,s.aL h.o,(s.mem _ (ak h.o)).2 h.mo,s.aL h.r,(s.mem _ (ak h.r)).2 h.mr,s.aL h.d,(s.mem _ (ak h.d)).2 h.md,h.own.aO s,hK h.k s.le,h.z⟩
theorem OH.na (hK:∀{M w M' w'},K M w→Le M w M' w'→K M' w') {st':Loop} (h:OH A e T C K M w0 bo D st vo xs M1 w):OH A e T C K M w0 bo D st' vo xs M1 (w.putObj (D+1) (.loop st')):=by
 have s:Step M1 w M1 (w.putObj (D+1) (.loop st')) (fun k=>k=D+1):=dZ h.mr;obtain⟨z1,z2⟩:=h.z;refine⟨s.lt h.lt,h.S.cf s (fun k (hk:k=D+1)=>by omega),s.keep h.o (fun(hn:bo=D+1)=>by have h1:=h.o;rw[hn,h.r]at h1;cases h1),h.mo,xN (ak h.r),h.mr,s.keep h.d (fun(hn:D=D+1)=>by omega),h.md,h.own.step s (fun b hb (hn:b=D+1)=>?_),hK h.k s.le,h.z⟩;obtain⟨cs,hc⟩:=h.own.isCells hb;rw[hn,h.r]at hc;cases hc
theorem OH.grow (hK:∀{M w M' w'},K M w→Le M w M' w'→K M' w') {HN:Value} {OF:List α} (hT:T≠e) (h:OH A e T C K M w0 bo D st vo xs M1 w) (s:Step M1 w M2 w' (fD vo)) (ho:Own A e M2 w' w0.heap.size HN OF):
  (w'.heap[bo]? =some (.cells #[vo] T (0,0))∧M2 bo)∧∀{w2:World},Step M2 w' M2 w2 (fun k=>k=bo)→w2.heap[bo]? =some (.cells #[HN] T (0,0))→OH A e T C K M w0 bo D st HN OF M2 w2:=by
 obtain⟨z1,z2⟩:=h.z
 have zY:∀{b:Nat} {o:Obj},w.heap[b]? =some o→(∀cs fr,o≠ .cells cs e fr)→¬fD vo b:=fun {b o} hb eN hn=>by
  obtain⟨⟨C,h1,_⟩,_⟩:=h.own;rcases h1.2 with h3|⟨g,cap,cur,h3,h4,h5,_⟩
  ·unfold fD at hn;rw[h3.1]at hn;cases hn
  ·unfold fD at hn;rw[h3]at hn;cases hn;rw[hb]at h5;exact eN _ _ (aF h5)
 have fV:=s.keep h.o (zY h.o (fun cs fr hc=>by injection hc with _ h1 _;exact hT h1));have hr:=s.keep h.r (zY h.r (fun cs fr hc=>by cases hc));have hd:=s.keep h.d (zY h.d (fun cs fr hc=>by cases hc));have Hl:=(s.mem _ (ak h.o)).2 h.mo;refine⟨⟨fV,Hl⟩,fun {w2} s2 hx=>⟨s2.lt (s.lt h.lt),(h.S.cX s h.own (aR _)).cf s2 (fun k (hk:k=bo)=>by omega),hx,Hl,s2.keep hr (fun(hn:D+1=bo)=>by rw[hn,fV]at hr;cases hr),(s.mem _ (ak h.r)).2 h.mr,s2.keep hd (fun(hn:D=bo)=>by rw[hn,fV]at hd;cases hd),(s.mem _ (ak h.d)).2 h.md,ho.step s2 (fun b hb (hn:b=bo)=>ho.eS fV hT (by rw[←hn];exact hb)),hK (hK h.k s.le) s2.le,h.z⟩⟩
end
theorem aiC {α:Type} {A:RT α} {e T C:TypeId} {K:aD→World→Prop} {M M1:aD} {w0 w:World} {bo:Nat} {st:Loop} (hK:∀{M w M' w'},K M w→Le M w M' w'→K M' w') (hM:Lt M1 w) (S:Step M w0 M1 w aC) (go:w.heap[bo]? =some (.cells #[.slice none 0 0] T (0,0))) (mo:M1 bo) (hk:K M1 w) (Of:w0.heap.size≤bo):
  ∃M',OH A e T C K M w0 bo w.heap.size st (.slice none 0 0) [] M' ((w.alloc (.deferred (some []))).alloc (.loop st)):=by
 have sA:Step M1 w (ins M1 w.heap.size) (w.alloc (.deferred (some []))) aC:=(cW M1 w _).own (aR _) (by simp);have sB:Step (ins M1 w.heap.size) (w.alloc (.deferred (some []))) (ins (ins M1 w.heap.size) (w.heap.size+1)) ((w.alloc (.deferred (some []))).alloc (.loop st)) aC:=(cW _ _ _).own (by simp) (by simp);have hD:(w.alloc (.deferred (some []))).heap[w.heap.size]? =some (.deferred (some [])):=cj w _;have hR:((w.alloc (.deferred (some []))).alloc (.loop st)).heap[w.heap.size+1]? =some (.loop st):=by have:=cj (w.alloc (.deferred (some []))) (.loop st);rwa [AJ]at this
 exact⟨_,sB.lt (sA.lt hM),(S.aB sA).aB sB,sB.aL (sA.aL go),.inr (.inr mo),hR,.inl rfl,sB.aL hD,.inr (.inl rfl),dz _ _ _ _ _,hK (hK hk sA.le) sB.le,Of,S.size⟩
end Go.K
namespace Go.K
open Go.Proofs
namespace TKBldJ
theorem A3:TI Tryz.prog 58 (.slice none 0 0) 1 24:=by unfold TI;kernel_rfl
theorem A4:TI Tryz.prog 72 (.agg #[(.slice none 0 0),(.slice none 0 0),(.slice none 0 0),(.slice none 0 0)]) 4 96:=by unfold TI;kernel_rfl
theorem x7:TI Tryz.prog 80 (.slice none 0 0) 1 24:=by unfold TI;kernel_rfl
theorem E39:Enters Tryz.prog 39:=enters Tryz.func39 rfl (by decide)
theorem E40:Enters Tryz.prog 40:=enters Tryz.func40 rfl (by decide)
theorem E41:Enters Tryz.prog 41:=enters Tryz.func41 rfl (by decide)
theorem E42:Enters Tryz.prog 42:=enters Tryz.func42 rfl (by decide)
theorem E43:Enters Tryz.prog 43:=enters Tryz.func43 rfl (by decide)
end TKBldJ
open TKBldJ
set_option maxRecDepth 10000
set_option maxHeartbeats 4000000 in
theorem Aa {M:aD} {L:List En} {v0:Value} (w0:World) (hM:Lt M w0) (hv:(RT.en.sl).V M w0 L v0) (hl:∀e∈L,∀f∈e.1.2,f.1.length≤900000∧f.2.length≤900000) (hn:L.length≤100000) (hok:pR (-1) L=true):
  Spec Tryz.prog 11 #[v0] w0 (fun v w=>∃s,v= .tuple #[s,.int .i64 0]∧cO RT.se M w s (lx (ew L))∧Step M w0 M w aC):=by
 have jO:=hM;have hF:=kF hok
 have Hz:(keysOf L).length≤500000000:=by
  have h1:=(lv L).nodup.length_le_of_subset (l₂:=iO L) (fun x hx=>jA.1 hx);have:=oT hF;omega
 have QW:∀k∈keysOf L,k.length≤43:=fun k hk=>xA hF k (jA.1 hk)
 refine bg (args:=[_]) (fn:=Tryz.f11) Tryz.func11 rfl (n:=63) Tryz.ntmps11 ?_;have S:Step M w0 M w0 aC:=(au _ _).cB (fun _ h=>h.elim) (fun _ h=>h.elim);refine aj (ae (ah rfl rfl (ah rfl rfl (ab (aj (ae ?_))))));refine aX rfl rfl E39 (NN (Z:=fun k=>w0.heap.size≤k) (B:=w0.heap.size) _ hM (aR _) (fun k hk=>hk)) (fun r1 w1 hc=>?_);obtain⟨M1,b1,rfl,_,ir,s1⟩:=hc;replace ir:=ir.Kh (Z':=fun k=>w0.heap.size≤k∧k<w1.heap.size) (fun c hc dY=>⟨hc,dY⟩);replace hv:=hv.le s1.le;replace hM:=s1.lt hM;have:=S.size;replace S:=S.aB s1;refine ah rfl rfl (ab (aj (ae ?_)));refine dU M1 A4 rfl (fun gT Vi afQ afR Ed zm=>?_);obtain⟨Mu,zn⟩:∃M',M'=ins M1 gT:=⟨_,rfl⟩;rw[←zn]at zm;have zo:Mu gT:=by rw[zn];exact .inl rfl
 change Vi.heap[gT]? =some (.cells #[.slice none 0 0,.slice none 0 0,.slice none 0 0,.slice none 0 0] _ _)at Ed;replace hv:=hv.le zm.le;replace ir:=ir.aO zm;replace hM:=zm.lt hM;have:=S.size;replace S:=S.aB zm;refine ab (aj (aj (ae (ad rfl rfl (bN eE rfl hv rfl (ad rfl rfl (ab (aY ?_))))))));refine dh (σ:=Nat×Value×Value) (fun q=>[(4,.pointer (some ⟨b1,0,none⟩)),(5,.pointer (some ⟨gT,0,none⟩)),(12,v0),(13,.int .i64 (L.length:Int)),(14,.int .i64 (q.1:Int))]) (fun q w=>∃M' words,Lt M' w∧Step M w0 M' w aC∧(RT.en.sl).V M' w L v0∧oS (ZP w0.heap.size gT q.2.1 q.2.2) M' w w0.heap.size b1 (L.take q.1) words (nJ (-1) (L.take q.1))∧w.heap[gT]? =some (.cells #[q.2.1,q.2.2,.slice none 0 0,.slice none 0 0] 72 (0,0))∧M' gT∧Own (RT.int .i64) 3 M' w w0.heap.size q.2.1 ((L.take q.1).map (·.1.1))∧Own (RT.int .i64) 3 M' w w0.heap.size q.2.2 ((L.take q.1).map (·.2))∧ix q.2.1 q.2.2∧0≤words∧words≤500*(q.1:Int)∧q.1≤L.length) (fun q=>L.length-q.1) (0,.slice none 0 0,.slice none 0 0) (.cons rfl (.cons rfl (.cons rfl (.cons rfl (.cons rfl .nil))))) ?_ ?_
 ·exact⟨_,0,hM,S,hv,ir.Kh (Z':=ZP w0.heap.size gT (.slice none 0 0) (.slice none 0 0)) (fun c hc dY=>⟨hc.1,(fun h=>by have:=hc.2;omega),(fun h=>by cases h),(fun h=>by cases h)⟩),Ed,zo,dz _ _ _ _ _,dz _ _ _ _ _,ix.nil _,by omega,by omega,bD _⟩
 ·clear hM S hv ir;rintro⟨i,vi,vs⟩ w ⟨M2,words,hM,S,hv,ir,g2,dK,eX,jV,tU,hw1,hw2,hi⟩;dsimp only at ir g2 eX jV tU hw2 hi ⊢;refine aj (ae (cg rfl rfl rfl (ab (aj ?_))));refine bM rfl (fun c4=>?_) (fun c4=>?_)
  ·refine aT (aj (aY (aj (ae ?_))));refine cv (M:=M2) eE Dx rfl rfl rfl hv (aq _ _) (by omega) (fun u5 e JV D9=>?_);rw[ay]at JV;obtain⟨TO,WT⟩:=Ox hok JV;have hem:=az JV;refine cT (M:=M2) (A:=RT.en) dV rfl Dx (by decide) rfl rfl rfl D9 (aq _ _) (fun v5 ox=>?_);obtain⟨Ys,mz⟩:=WL ox;refine yf (A:=RT.en) (M:=M2) Dx rfl rfl rfl rfl rfl (by assumption) (aq _ _) hM (fun aht asH xB Fg asI=>?_);have:=ak g2;replace dK:=(Fg.mem _ this).2 dK;replace g2:=Fg.aL g2;replace hv:=hv.le Fg.le;replace eX:=eX.aO Fg;replace jV:=jV.aO Fg;replace ir:=ir.aO Fg;replace hM:=Fg.lt hM;have:=S.size;replace S:=S.aB Fg;refine ab (aj (aj (ae (ad rfl rfl ?_))));refine cT (M:=M2) (A:=RT.en) dV rfl Dx (by decide) rfl rfl rfl xB (aq _ _) (fun v6 rD=>?_);refine aX rfl rfl E40 (NP (Z:=ZP w0.heap.size gT vi vs) _ hM (fun k hk=>⟨by have:=S.size;omega,fun h=>by have:=ak g2;omega,fun h=>by have:=(eX.base k h).2;omega,fun h=>by have:=(jV.base k h).2;omega⟩) ir (by have:=S.size;omega) rD (hl e hem) (fun x hx=>hF x (List.mem_of_mem_take hx)) (by simp;omega) (by omega)) (fun r6 w6 hc=>?_);obtain⟨M6,Km,s6,rfl,_,UJ⟩:=hc;replace ir:=UJ TO;have To:(qe e).length≤500:=(hF e hem).many;refine aU (v':= .int .i64 0) (by rw[TO]) ?_;replace eX:=eX.step s6 (fun c hc h=>h.1.2.2.1 hc);replace jV:=jV.step s6 (fun c hc h=>h.1.2.2.2 hc);replace dK:=(s6.mem _ (ak g2)).2 dK;replace g2:=s6.keep g2 (fun h=>h.1.2.1 rfl);replace hv:=hv.le s6.le;replace xB:=xB.le (by decide) s6.le;replace S:=S.cf s6 (fun k hk=>hk.1.1);replace hM:=Km;rw[WT.symm]at ir;refine ah rfl rfl (ab (aj (ae (ad rfl rfl (eM rfl rfl rfl (ab (T.vP rfl ((fun h=>h rfl)) (aT ?_))))))));have g2p:=g2;have abi:=dK
   have hvp:=hv;have abj:=ir;have CU:=eX;have OI:=jV;have hMp:=hM;have Sp:=S;obtain⟨P6,hP6⟩:∃P6:Value→World→Prop,P6=fun v w'=>Own (RT.int .i64) 3 (nt v) w' w0.heap.size v ((L.take i).map (·.1.1)++[e.1.1])∧(∀c,v.ownBlock=some c→w6.heap.size≤c∨vi.ownBlock=some c):=⟨_,rfl⟩
   have h6:∀{v:Value} {w w':World},P6 v w→Step M6 w M6 w' aC→P6 v w':=fun {v w w'} h s=>by rw[hP6]at h ⊢;exact⟨h.1.TM s (fun _ _ h=>h),h.2⟩
   apply T.TL (M:=M6) [0,1,2,3,4,5,6,7,8,9,10,11,13,12,14,15,16] 13 12 37 (.pointer (some ⟨gT,0,none⟩)) [(6,fD vi)] [cG.eq (.pointer (some ⟨gT,0,none⟩)),cG.eq vi,cG.ptr RT.dc e.1,cG.ptr (RT.int .i64) e.1.1,cG.eq (.int .i64 e.1.1),cG.V ((RT.int .i64).sl) [e.1.1],(cG.mk' (fun v w=>P6 v w) (fun h s=>h6 h s)),cG.eq (.pointer (some ⟨gT,1,none⟩)),cG.eq vs,cG.ptr (RT.int .i64) e.2,cG.eq (.int .i64 e.2),cG.V ((RT.int .i64).sl) [e.2],cG.eq (.pointer (some ⟨gT,0,none⟩))] mixed
   ·simp+decide only[yP,tu,eQ,jr,jm,jn,fe,cY,iu,qt,cond_true,cond_false,Nat.reduceBEq,Nat.reduceAdd,beq_self_eq_true];rfl
   ·rfl
   ·rfl
   ·rfl
   ·rfl
   ·rfl
   ·rfl
   ·rfl
   ·rfl
   ·rfl
   ·rfl
   ·rfl
   ·exact fun ρ w h=>zT (size:=1) (o:=0) (o':=0) bu rfl rfl jY (by decide) (h (.tmp 5) _ rfl) w
   ·intro p hp b hb;simp only[ca,dR,or_false]at hp;subst hp;exact eX.mut_ b hb
   ·exact fun p hp=>by
     simp only[ca,dR,or_false]at hp;subst hp;show(6:Nat)≠12;decide
   ·exact vT.st (by exact⟨fun _ _ _ _=>trivial,⟨fun _ _ _ _=>trivial,⟨fun _ _ _ _=>trivial,⟨fun _ _ _ _=>trivial,⟨fun _ _ _ _=>trivial,⟨fun _ _ _ _=>trivial,⟨fun p hp b hb=>(by simp at hp),⟨fun _ _ _ _=>trivial,⟨fun _ _ _ _=>trivial,⟨fun _ _ _ _=>trivial,⟨fun _ _ _ _=>trivial,⟨fun _ _ _ _=>trivial,⟨fun _ _ _ _=>trivial,trivial⟩⟩⟩⟩⟩⟩⟩⟩⟩⟩⟩⟩⟩)
   intro wR9 sA9;have OJ:=sA9 M6;have:=ak g2;replace dK:=(OJ.mem _ this).2 dK;replace g2:=OJ.aL g2;replace hv:=hv.le OJ.le;replace xB:=xB.le (by decide) OJ.le;replace eX:=eX.aO OJ;replace jV:=jV.aO OJ;replace ir:=ir.aO OJ;replace hM:=OJ.lt hM;have:=S.size;replace S:=S.aB OJ;have g2R:=g2;have abk:=eX;have asK:=jV;have hz6:=OJ.size;refine⟨?_,?_⟩
   ·refine aG ?_ ?_
    ·intro wD E sD;replace sD:Step M6 _ M6 wD (fD vi):=sD;refine bJ (o':=0) bu rfl rfl jY (by decide) rfl rfl ?_;exact ab ⟨rfl,rfl,_,rfl,rfl,au _ _⟩
    refine aG ?_ ?_
    ·intro wD E sD;replace sD:Step M6 _ M6 wD aC:=sD;refine aM (aN ao rfl rfl rfl (sD.aL g2R) rfl ?_);exact ab ⟨rfl,rfl,_,rfl,rfl,au _ _⟩
    refine aG ?_ ?_
    ·intro wD E sD;replace sD:Step M6 _ M6 wD (fD vi):=sD;refine aQ (M:=M6) (A:=RT.en) (B:=RT.dc) dV rfl rfl pD (by decide) ZN rfl rfl (by decide) xB sD.le (fun uf zQ=>?_);exact ab ⟨rfl,rfl,_,rfl,zQ,au _ _⟩
    refine aG ?_ ?_
    ·intro wD E sD;replace sD:Step M6 _ M6 wD (fD vi):=sD;intro v2 Bv;refine aQ (M:=M6) (A:=RT.dc) (B:=RT.int .i64) bm rfl rfl I3 (by decide) ZM rfl rfl (by decide) (show cO RT.dc M6 wD v2 e.1 from Bv) (aq _ _) (fun uf zQ=>?_);exact ab ⟨rfl,rfl,_,rfl,zQ,au _ _⟩
    refine aG ?_ ?_
    ·intro wD E sD;replace sD:Step M6 _ M6 wD (fD vi):=sD;intro v3 xr;refine cd (M:=M6) ax rfl rfl (show cO (RT.int .i64) M6 wD v3 e.1.1 from xr) (aq _ _) (fun kE=>?_);exact ab ⟨rfl,rfl,_,rfl,rfl,au _ _⟩
    refine aG ?_ ?_
    ·intro wD E sD;replace sD:Step M6 _ M6 wD aC:=sD;refine aM ?_;refine eu (A:=RT.int .i64) (hn:=by decide) (M:=M6) ao I3 (by decide) rfl rfl (sD.lt hM) (gv Ys) (.inr ⟨rfl,rfl⟩) (fun uS wS hS sS=>?_);exact ab ⟨rfl,rfl,_,rfl,hS,sS⟩
    refine aG ?_ ?_
    ·intro wD E sD;replace sD:Step M6 _ M6 wD aC:=sD;refine aM ?_;intro v5 ox;replace sD:Step M6 wR9 M6 wD aC:=sD;refine l0 (M:=M6) (base:=w0.heap.size) ao I3 rfl rfl rfl rfl (abk.aO sD) (show((RT.int .i64).sl).V M6 wD [e.1.1] v5 from ox) (aq _ _) (by simp;omega) (by simp;omega) (by have:=sD.size;have:=S.size;omega) (fun vA wA hoA sA hFA=>?_);exact ab ⟨rfl,rfl,_,rfl,by show P6 vA wA;rw[hP6];exact⟨hoA.lone,fun c hc=>(hFA c hc).elim (fun h=> .inl (by have:=sD.size;omega)) .inr⟩,sA.back⟩
    refine aG ?_ ?_
    ·intro wD E sD;replace sD:Step M6 _ M6 wD (fD vi):=sD;refine bJ (o':=1) bu rfl rfl jY (by decide) rfl rfl ?_;exact ab ⟨rfl,rfl,_,rfl,rfl,au _ _⟩
    refine aG ?_ ?_
    ·intro wD E sD;replace sD:Step M6 _ M6 wD (fD vi):=sD;refine aM (aN ao rfl rfl rfl (sD.keep g2R (fun h=>abk.eS g2R (by decide) h)) rfl ?_);exact ab ⟨rfl,rfl,_,rfl,rfl,au _ _⟩
    refine aG ?_ ?_
    ·intro wD E sD;replace sD:Step M6 _ M6 wD (fD vi):=sD;refine aQ (M:=M6) (A:=RT.en) (B:=RT.int .i64) dV rfl rfl I3 (by decide) en1 rfl rfl (by decide) xB sD.le (fun uf zQ=>?_);exact ab ⟨rfl,rfl,_,rfl,zQ,au _ _⟩
    refine aG ?_ ?_
    ·intro wD E sD;replace sD:Step M6 _ M6 wD (fD vi):=sD;intro v9 Er;refine cd (M:=M6) ax rfl rfl (show cO (RT.int .i64) M6 wD v9 e.2 from Er) (aq _ _) (fun kE=>?_);exact ab ⟨rfl,rfl,_,rfl,rfl,au _ _⟩
    refine aG ?_ ?_
    ·intro wD E sD;replace sD:Step M6 _ M6 wD (fD vi):=sD;refine aM ?_;refine eu (A:=RT.int .i64) (hn:=by decide) (M:=M6) ao I3 (by decide) rfl rfl (sD.lt hM) (gv mz) (.inr ⟨rfl,rfl⟩) (fun uS wS hS sS=>?_);exact ab ⟨rfl,rfl,_,rfl,hS,sS⟩
    refine aG ?_ ?_
    ·intro wD E sD;replace sD:Step M6 _ M6 wD (fD vi):=sD;refine aM (aM ?_);intro v2 Bv;intro v3 xr;refine aM ?_;intro v5 ox;intro v6 rD;refine aM (aM (bJ (o':=0) bu rfl rfl jY (by decide) rfl rfl ?_));exact ab ⟨rfl,rfl,_,rfl,rfl,au _ _⟩
    exact ti
   ·intro TC E5;replace E5:Step M6 _ M6 TC (fD vi):=E5;refine aM (aM ?_);intro agS NR;intro asM anE;refine aM ?_;intro asN anF;intro CV Ja;refine aM (aM ?_);intro asO anG;refine aM ?_;intro abl HP;refine aM ?_;replace Ja:P6 CV TC:=Ja;rw[hP6]at Ja;obtain⟨uI,hb9⟩:=Ja;replace HP:((RT.int .i64).sl).V M6 TC [e.2] abl:=HP;have sX:Step M6 w6 M6 TC (fD vi):=(OJ.cB (fun _ h=>h.elim) (fun b h=>CU.mut_ b h)).trans E5 (fun b _ h=>h);have aiI:=OI.step sX (fun c hc h=>tU c h hc);refine l0 (M:=M6) (base:=w0.heap.size) ao I3 rfl rfl rfl rfl aiI HP (aq _ _) (by simp;omega) (by simp;omega) (by have:=Sp.size;have:=sX.size;omega) (fun v12 Yd Ru AS WU=>?_)
    have Np:∀c,CV.ownBlock=some c→vs.ownBlock≠some c:=fun c hc hv=>by
     rcases hb9 c hc with h|h
     ·have:=(OI.base c hv).2;omega
     ·exact tU c h hv
    have abn:=uI.TM AS (fun c hc h=>Np c hc h)
    have abo:ix v12 CV:=fun c hc hc6=>by
     rcases WU c hc with h|h
     ·have:=(uI.base c hc6).2;omega
     ·exact Np c hc6 h
    have aiJ:∀c,v12.ownBlock=some c→w6.heap.size≤c∨vs.ownBlock=some c:=fun c hc=>(WU c hc).elim (fun h=> .inl (by have:=sX.size;omega)) .inr
    have sZ:Step M6 w6 (jF M6 v12) Yd (fun k=>fD vi k∨fD vs k):=(sX.cB (fun _ h=> .inl h) (fun b h=>h.elim (CU.mut_ b) (OI.mut_ b))).trans AS (fun b _ h=> .inr h);obtain⟨Rv,Kw⟩:∃M',M'=jF (jF M6 v12) CV:=⟨_,rfl⟩;have sW:Step M6 w6 Rv Yd (fun k=>fD vi k∨fD vs k):=by rw[Kw];exact sZ.aba (fun c hc=>⟨(abn.base c hc).2,(hb9 c hc).elim .inl (fun h=> .inr (.inr (CU.mut_ c h)))⟩)
    have eX:=abn.Qt (M':=Rv) (by rw[Kw];exact fun b hb=> .inl hb);have jV:=Ru.Qt (M':=Rv) (by rw[Kw];exact fun b hb=> .inr (.inl hb));have dK:=(sW.mem _ (ak g2p)).2 abi;have g2:=sW.keep g2p (fun h=>h.elim (CU.eS g2p (by decide)) (OI.eS g2p (by decide)));have ir:=((abj.Kh (Z':=fun k=>ZP w0.heap.size gT vi vs k∧ZP w0.heap.size gT CV v12 k) (fun c hc dY=>⟨hc,hc.1,hc.2.1,fun h=>(hb9 c h).elim (fun h=>by omega) hc.2.2.1,fun h=>(aiJ c h).elim (fun h=>by omega) hc.2.2.2⟩)).step sW (fun k hk hz=>hk.elim hz.1.2.2.1 hz.1.2.2.2)).Kh (Z':=ZP w0.heap.size gT CV v12) (fun c hc _=>hc.2);have hv:=hvp.le sW.le;have S:=Sp.cf sW (fun k hk=>hk.elim (fun h=>(CU.base k h).1) (fun h=>(OI.base k h).1));have hM:=sW.lt hMp;refine ab ⟨rfl,rfl,fun h=>absurd rfl h,?_⟩;refine cw (M:=Rv) jY rfl rfl g2 rfl (by obtain⟨_,_,he,_⟩:=eX.isSlice;rw[he];rfl) dK (fun VH g14 ka=>?_);replace g14:VH.heap[gT]? =some (.cells #[CV,vs,.slice none 0 0,.slice none 0 0] 72 (0,0)):=g14;replace eX:=eX.step ka (fun c hc (h:c=gT)=>eX.eS g2 (by decide) (h▸hc));replace jV:=jV.step ka (fun c hc (h:c=gT)=>jV.eS g2 (by decide) (h▸hc));replace dK:=(ka.mem _ (ak g2)).2 dK;replace ir:=ir.step ka (fun k (hk:k=gT) hz=>hz.2.1 hk);replace hv:=hv.le ka.le;replace S:=S.cf ka (fun k (hk:k=gT)=>by rw[hk];omega);replace hM:=ka.lt hM;clear g2;have g2:=g14;refine ab ⟨rfl,rfl,fun h=>absurd rfl h,?_⟩;refine bJ (o':=1) bu rfl rfl jY (by decide) rfl rfl ?_;refine ab ⟨rfl,rfl,fun h=>absurd rfl h,?_⟩;refine cw (M:=Rv) jY rfl rfl g2 rfl (by obtain⟨_,_,he,_⟩:=jV.isSlice;rw[he];rfl) dK (fun Yp g16 BQ=>?_);replace g16:Yp.heap[gT]? =some (.cells #[CV,v12,.slice none 0 0,.slice none 0 0] 72 (0,0)):=g16;replace eX:=eX.step BQ (fun c hc (h:c=gT)=>eX.eS g2 (by decide) (h▸hc));replace jV:=jV.step BQ (fun c hc (h:c=gT)=>jV.eS g2 (by decide) (h▸hc));replace dK:=(BQ.mem _ (ak g2)).2 dK
    replace ir:=ir.step BQ (fun k (hk:k=gT) hz=>hz.2.1 hk);replace hv:=hv.le BQ.le;replace S:=S.cf BQ (fun k (hk:k=gT)=>by rw[hk];omega);replace hM:=BQ.lt hM;clear g2;have g2:=g16;refine ab ⟨rfl,rfl,fun h=>absurd rfl h,?_⟩;refine lJ (ae (bG rfl rfl rfl (by omega) (ad rfl rfl (ab ?_))));have et:L.take (i+1)=L.take i++[e]:=by rw[bI,JV,cJ]
    rw[et]at ir;refine⟨rfl,(i+1,CV,v12),(.cons rfl (.cons rfl (.cons rfl (.cons rfl (.cons rfl .nil))))),?_,?_⟩
    ·exact⟨_,_,hM,S,hv,by rw[et];exact ir,g2,dK,by rw[et,ec];exact eX,by rw[et,ec];exact jV,abo.symm,by omega,by dsimp only;omega,by dsimp only;omega⟩
    ·dsimp only;omega
  ·refine cH (aj (ae ?_));have Yt:L.take i=L:=aW (by omega);rw[Yt]at ir eX jV;refine ad rfl rfl ?_;refine aX rfl rfl E41 (Hy _ hM ir hF (by omega)) (fun rk w11 hc=>?_);obtain⟨BW,Kq⟩:=hc;have:=ak g2;replace dK:=(Kq.mem _ this).2 dK;replace g2:=Kq.aL g2;replace hv:=hv.le Kq.le;replace eX:=eX.aO Kq;replace jV:=jV.aO Kq;replace ir:=ir.aO Kq;replace hM:=Kq.lt hM;have:=S.size;replace S:=S.aB Kq;refine bJ (o':=2) bu rfl rfl yo (by decide) rfl rfl ?_;refine cw (M:=M2) yo rfl rfl g2 rfl (lW BW rfl rfl) dK (fun Bz db eT=>?_);change Bz.heap[_]? =some (Obj.cells #[vi,vs,rk,.slice none 0 0] _ _)at db;have:=ak g2;replace dK:=(eT.mem _ this).2 dK;replace hv:=hv.le eT.le;replace BW:=BW.le eT.le;replace eX:=eX.step eT (fun c hc (h:c=gT)=>eX.eS g2 (by decide) (h▸hc));replace jV:=jV.step eT (fun c hc (h:c=gT)=>jV.eS g2 (by decide) (h▸hc));replace ir:=ir.stepT eT (by first|exact fun k hk=>by(obtain⟨cs,hc⟩:=fE.isCells hk;exact⟨cs,_,hc,by decide,by decide,by decide⟩)|exact fun k (hk:k=gT)=>⟨_,_,hk▸g2,by decide,by decide,by decide⟩);replace hM:=eT.lt hM;have:=S.size;replace S:=S.trans eT (fun k hk h=>by have h:_=_:=h;subst h;first|(exfalso;omega)|(show _≤_;omega)|exact⟨by first|omega|assumption,(S.mem _ hk).1 ((eT.mem _ (ak g2)).1 dK)⟩|exact .inl rfl|exact .inr rfl|exact .inr (.inl rfl)|exact .inr (.inr rfl)|exact .inr (.inr (.inl rfl))|exact rfl);have MX:=db;clear g2;have g2:=MX;clear MX;refine ab (aj (aj (ae (bJ (o':=2) bu rfl rfl yo (by decide) rfl rfl (aN aJ rfl rfl rfl g2 rfl (aU (v':=rk) rfl (bN aJ rfl BW rfl (ad rfl rfl (ab (aY ?_))))))))));refine dh (σ:=Nat×Value) (fun q=>[(4,.pointer (some ⟨b1,0,none⟩)),(5,.pointer (some ⟨gT,0,none⟩)),(44,rk),(45,.int .i64 ((keysOf L).length:Int)),(46,.int .i64 (q.1:Int))]) (fun q w=>∃M',Lt M' w∧Step M w0 M' w aC∧oS (ZP w0.heap.size gT vi vs) M' w w0.heap.size b1 L words (nJ (-1) L)∧w.heap[gT]? =some (.cells #[vi,vs,rk,q.2] 72 (0,0))∧M' gT∧Own (RT.int .i64) 3 M' w w0.heap.size vi (L.map (·.1.1))∧Own (RT.int .i64) 3 M' w w0.heap.size vs (L.map (·.2))∧Own ((RT.po).sl) 80 M' w w0.heap.size q.2 (((keysOf L).take q.1).map (pk L))∧(RT.str.sl).V M' w (keysOf L) rk∧q.1≤(keysOf L).length) (fun q=>(keysOf L).length-q.1) (0,.slice none 0 0) (.cons rfl (.cons rfl (.cons rfl (.cons rfl (.cons rfl .nil))))) ?_ ?_
   ·exact⟨_,hM,S,ir,g2,dK,eX,jV,dz _ _ _ _ _,BW,bD _⟩
   ·clear hM S ir g2 dK eX jV BW hv;rintro⟨i3,vl⟩ w ⟨M3,hM,S,ir,g2,dK,eX,jV,fE,BW,hi3⟩;dsimp only at g2 fE hi3 ⊢;refine aj (ae (cg rfl rfl rfl (ab (aj ?_))));refine bM rfl (fun QM=>?_) (fun QM=>?_)
    ·refine aT (aj (aY (aj (ae ?_))));refine cv (M:=M3) aJ I9 rfl rfl rfl BW (aq _ _) (by omega) (fun u14 k WV aiK=>?_);rw[ay]at WV;refine bU (M:=M3) aK rfl rfl rfl rfl rfl aiK (aq _ _) (fun vk jP=>?_);obtain rfl:=gm jP;refine ah rfl rfl (ab ?_);apply T.oG 4 [0,1] 2 aC mixed rfl rfl rfl rfl;intro Wk Ob;have ql:=Ob M3;have:=ak g2;replace dK:=(ql.mem _ this).2 dK;replace g2:=ql.aL g2;replace BW:=BW.le ql.le;replace eX:=eX.aO ql;replace jV:=jV.aO ql;replace fE:=fE.aO ql;replace ir:=ir.aO ql;replace hM:=ql.lt hM;have:=S.size;replace S:=S.aB ql;refine bJ (o':=3) bu rfl rfl A3 (by decide) rfl rfl ?_;refine ab ⟨rfl,rfl,rfl,?_⟩;refine aN dF rfl rfl rfl (by first|assumption|exact de ql (by assumption)) rfl ?_;refine ab ⟨rfl,rfl,rfl,?_⟩;refine ad rfl rfl ?_;refine ab ⟨rfl,rfl,rfl,?_⟩;refine ad rfl rfl ?_;refine ab ⟨rfl,rfl,rfl,?_⟩;refine eD ?_;refine⟨ik ⟨iJ bu rfl A3 (by decide),⟨ey rfl g2 (fun h=>h),trivial⟩⟩,?_⟩;have kp:=jl aC Wk;refine aX rfl rfl E42 (HA (k:=k) _ hM ir hF (by omega) (by have:=QW k (az WV);omega)) (fun r15 w15 hc=>?_);obtain⟨Dz,xZ⟩:=hc;have:=ak g2;replace dK:=(xZ.mem _ this).2 dK;replace g2:=xZ.aL g2;replace BW:=BW.le xZ.le;replace eX:=eX.aO xZ;replace jV:=jV.aO xZ;replace fE:=fE.aO xZ;replace ir:=ir.aO xZ;replace hM:=xZ.lt hM;have:=S.size;replace S:=S.aB xZ;refine(fun(kp:eJ _ _ _)=>ab ⟨rfl,rfl,fun _=>kp,?_⟩) (by first|exact kp|exact kp.ry (by assumption)|exact kp.goN (by assumption)|exact kp.go (by assumption) (fun _ _ h=>by first|exact h|exact h.elim));refine eu (A:=((RT.po).sl)) (hn:=by decide) (M:=M3) dF x7 (by decide) rfl rfl hM (Dz) (.inr ⟨rfl,rfl⟩) (fun anH Tx Ab kg=>?_)
     have:=ak g2;replace dK:=(kg.mem _ this).2 dK;replace g2:=kg.aL g2;replace BW:=BW.le kg.le;replace Dz:=Dz.le kg.le;replace eX:=eX.aO kg;replace jV:=jV.aO kg;replace fE:=fE.aO kg;replace ir:=ir.aO kg;replace hM:=kg.lt hM;have:=S.size;replace S:=S.aB kg;refine(fun(kp:eJ _ _ _)=>ab ⟨rfl,rfl,fun _=>kp,?_⟩) (by first|exact kp|exact kp.ry (by assumption)|exact kp.goN (by assumption)|exact kp.go (by assumption) (fun _ _ h=>by first|exact h|exact h.elim));refine cV (M:=M3) (base:=w0.heap.size) dF x7 rfl rfl rfl rfl fE Ab (aq _ _) (by simp;omega) (by simp;omega) (S.size) (fun OK abq abr WW jH=>?_);have:=ak g2;replace dK:=(jH.mem _ this).2 dK;replace g2:=jH.keep g2 (fun h=>by first|exact fE.ep g2 h|exact fE.eS g2 (by decide) h|(have:=(fE.base _ h).1;omega));replace BW:=BW.le jH.le;replace Dz:=Dz.le jH.le;replace Ab:=Ab.le jH.le;replace eX:=eX.step jH (fun b h1 h2=>eX.dw fE (by decide) h1 h2);replace jV:=jV.step jH (fun b h1 h2=>jV.dw fE (by decide) h1 h2);replace ir:=ir.stepT jH (by first|exact fun k hk=>by(obtain⟨cs,hc⟩:=fE.isCells hk;exact⟨cs,_,hc,by decide,by decide,by decide⟩)|exact fun k (hk:k=gT)=>⟨_,_,hk▸g2,by decide,by decide,by decide⟩);replace hM:=jH.lt hM;have:=S.size;replace S:=S.cX jH fE (aR _);replace fE:=WW;refine ab ⟨rfl,rfl,fun h=>absurd rfl h,?_⟩;refine bJ (o':=3) bu rfl rfl A3 (by decide) rfl rfl ?_;refine ab ⟨rfl,rfl,fun h=>absurd rfl h,?_⟩;refine cw (M:=abq) A3 rfl rfl g2 rfl (by obtain⟨_,_,he,_⟩:=fE.isSlice;rw[he];rfl) dK (fun abt TQ qV=>?_);change abt.heap[_]? =some (Obj.cells #[vi,vs,rk,OK] _ _)at TQ;have:=ak g2;replace dK:=(qV.mem _ this).2 dK;replace BW:=BW.le qV.le;replace Dz:=Dz.le qV.le;replace Ab:=Ab.le qV.le;replace eX:=eX.step qV (fun c hc (h:c=gT)=>eX.eS g2 (by decide) (h▸hc))
     replace jV:=jV.step qV (fun c hc (h:c=gT)=>jV.eS g2 (by decide) (h▸hc));replace fE:=fE.step qV (fun c hc (h:c=gT)=>fE.eS g2 (by decide) (h▸hc));replace ir:=ir.stepT qV (by first|exact fun k hk=>by(obtain⟨cs,hc⟩:=fE.isCells hk;exact⟨cs,_,hc,by decide,by decide,by decide⟩)|exact fun k (hk:k=gT)=>⟨_,_,hk▸g2,by decide,by decide,by decide⟩);replace hM:=qV.lt hM;have:=S.size;replace S:=S.trans qV (fun k hk h=>by have h:_=_:=h;subst h;first|(exfalso;omega)|(show _≤_;omega)|exact⟨by first|omega|assumption,(S.mem _ hk).1 ((qV.mem _ (ak g2)).1 dK)⟩|exact .inl rfl|exact .inr rfl|exact .inr (.inl rfl)|exact .inr (.inr rfl)|exact .inr (.inr (.inl rfl))|exact rfl);have MX:=TQ;clear g2;have g2:=MX;clear MX;refine ab ⟨rfl,rfl,fun h=>absurd rfl h,?_⟩;refine lJ (ae (bG rfl rfl rfl (by omega) (ad rfl rfl (ab ?_))));refine⟨rfl,(i3+1,OK),(.cons rfl (.cons rfl (.cons rfl (.cons rfl (.cons rfl .nil))))),?_,?_⟩
     ·exact⟨_,hM,S,ir,g2,dK,eX,jV,by rw[bI,WV,cJ,ec];exact fE,BW,by dsimp only;omega⟩
     ·dsimp only;omega
    ·refine cH (aj (ae (fL (vs:=[vi,vs,rk,vl]) bu rfl A4 rfl rfl rfl g2 ?_)));rw[aW (by omega)]at fE;have Wg:RT.pa.V M _ (ew L) _:=VV (x:=ew L) (eX.close jO S (by show(L.map _).length≤_;rw[aH];omega)) (jV.close jO S (by show(L.map _).length≤_;rw[aH];omega)) (BW.le (Le.close jO S)) (fE.close jO S (by show((keysOf L).map _).length≤_;rw[aH];omega));replace S:=S.back;replace hM:=S.lt jO;refine aX rfl rfl E43 (zR (p:=ew L) _ hM Wg (I7 hF (by omega))) (fun r17 Yr hc=>?_);obtain⟨CQ,OL,_⟩:=hc;obtain⟨sg,rfl,ze⟩:=OL (Oy hok (by omega));replace S:=S.aB CQ;refine bW rfl rfl rfl (bW rfl rfl rfl (ah rfl rfl (ah rfl rfl (ab (aP ?_)))));exact fp rfl rfl rfl ⟨sg,rfl,ze,S⟩
end Go.K
namespace Go.K
open Go.Proofs
set_option maxRecDepth 10000
theorem wM {id:Int}:∀(fs:List Fd) (i:Nat) (out:List Fd),l6 (id,out)=0→l6 (id,oO id i out fs)=0
 |[],_,_,h=>h
 |x::fs,i,out,h=>by
  unfold oO
  split
  ·split
   ·rename_i h1;exact wM fs _ _ h1
   ·exact wM fs _ _ h
  ·exact h
theorem pS {id:Int}:∀(fs:List Fd) (i:Nat) (out:List Fd),tG out→tG (oO id i out fs)
 |[],_,_,h=>h
 |x::fs,i,out,h=>by
  unfold oO
  split
  ·rename_i hi
   split
   ·exact pS fs _ _ (h.snoc (zu x hi))
   ·exact pS fs _ _ h
  ·exact h
theorem Kx (d:Dc):l6 (p9 d)=0:=wM d.2 0 [] rfl
theorem Fh (d:Dc):tG (p9 d).2:=pS d.2 0 [] (fun x h=>by cases h)
theorem Fi {e:En}:∀{L:List En} {last:Int},pR last (L++[e])=(pR last L&&decide (nw (nJ last L) e=0))
 |[],last=>by show(decide (nw last e=0)&&true)=(true&&decide (nw last e=0));rw[Bool.and_true,ff]
 |x::L,last=>by rw[kV];show(decide (nw last x=0)&&pR x.2 (L++[e]))=(decide (nw last x=0)&&pR x.2 L&&decide (nw (nJ x.2 L) e=0));rw[Fi (L:=L),Bool.and_assoc]
theorem Ac {e:En}:∀{L:List En} {last:Int},nJ last (L++[e])=e.2
 |[],_=>rfl
 |x::L,last=>by simp only[kV,nJ];exact Ac
theorem Fj (l:List Dc) {a s:Int} (ha:0≤a) (hs:1≤s):∀k,pR (-1) (dn l a s k)=true∧nJ (-1) (dn l a s k)<a+s*(k:Int)
 |0=>⟨rfl,by show(-1:Int)<_;simp;omega⟩
 |k+1=>by
  obtain⟨h1,h2⟩:=Fj l ha hs k;have e1:a+s*((k+1:Nat):Int)=a+s*(k:Int)+s:=by rw[Int.natCast_add,Int.mul_add];simp;omega
  cases h:l[k]? with
  |none=>rw[zA (List.getElem?_eq_none_iff.1 h),e1];exact⟨h1,by omega⟩
  |some d=>
   rw[zz h,Fi,Ac,h1,e1]
   have:nw (nJ (-1) (dn l a s k)) (p9 d,a+s*(k:Int))=0:=by
    unfold nw;rw[if_neg (fun h=>h (Kx d)),if_neg (by show¬(a+s*(k:Int)≤_);omega)]
   exact⟨by rw[this];rfl,by show a+s*(k:Int)<_;omega⟩
theorem BX {l:List Dc} {a s:Int}:∀{k:Nat} {e:En},e∈dn l a s k→∃d,e.1=p9 d
 |0,e,h=>by cases h
 |k+1,e,h=>by
  rw[dn]at h;rcases cr.1 h with h|h
  ·exact BX h
  ·split at h
   ·rename_i d _;rw[bS.1 h];exact⟨d,rfl⟩
   ·cases h
theorem Ad {l:List Dc} {a s:Int} {k:Nat}:∀e∈dn l a s k,∀f∈e.1.2,f.1.length≤900000∧f.2.length≤900000:=fun e he f hf=>by
 obtain⟨d,hd⟩:=BX he;rw[hd]at hf;have:=Fh d f hf;omega
end Go.K
namespace Go.K
variable {P:Program} {r:Option Nat} {n:Nat} {L:Sl} {ds:List Deferred} {w:World} {K:Kt} {ops:Array Oper} {rest:List Oper} {d:Nat} {x y:Operand} {ty:TypeId} {pos:String} {af:Array Edge} {α:Type} {A:RT α}
def A5 {α:Type} (A:RT α):Prop:=∀(M M':aD) (w w':World) (x:α) (vs:List Value),A.R M w x vs→A.R M' w' x vs
theorem eg.Rw {M M':aD} {w w':World} (hA:A5 A):∀{xs:List α} {C:List Value},eg A M w xs C→eg A M' w' xs C
 |[],_,h=>h
 |_::_,_,⟨vs,rest,h1,h2,h3⟩=>⟨vs,rest,h1,hA _ _ _ _ _ _ h2,eg.Rw hA h3⟩
theorem Own.OM {e:TypeId} {M M2:aD} {w':World} {base:Nat} {v:Value} {xs:List α} (hA:A5 A) (h:Own A e M2 w' base v xs) (s:Step M w M2 w' aC) (hb:w.heap.size≤base) (M1:aD):Own A e (jF M1 v) w' base v xs∧Step M1 w (jF M1 v) w' aC:=by
 have PJ:=h.base;obtain⟨⟨C,hr,ha⟩,hm⟩:=h;refine⟨⟨⟨C,hr,ha.Rw hA⟩,fun b hb=> .inl hb⟩,fun hl b oC=>?_,s.os,s.tape,s.output,s.size,fun b oC=>⟨fun h=>h.resolve_left fun e=>by have:=(PJ b e).1;omega,.inr⟩,s.same,fun b h=>h.elim⟩;rcases oC with h|h
 ·exact(PJ b h).2
 ·exact iE (hl b h) s.size
theorem Own.HQ {hn:0<A.n} {e:TypeId} {M M1 M2:aD} {w':World} {base:Nat} {v:Value} {xs:List α} (hA:A5 A) (h:Own A e M2 w' base v xs) (s:Step M w M2 w' aC) (hb:w.heap.size≤base) (hM:Lt M1 w) (hlen:xs.length≤140737488355328):(A.sl hn).V M1 w' xs v∧Step M1 w M1 w' aC:=by
 have PJ:=h.base;obtain⟨h1,h2⟩:=h.OM hA s hb M1;exact⟨h1.sl (fun b _ J5=>⟨fun h=>J5 (.inr h),rfl⟩) (fun b mP hM'=>by have h3:=(PJ b mP).1;have h4:=hM b hM';omega) hlen,s.any M1⟩
end Go.K
namespace Go.K
open Go.Proofs
set_option maxRecDepth 10000
def gz (l:List Bool):List Int:=(l.zipIdx.filter fun p=>p.1).map fun p=>(p.2:Int)
theorem wN (l:List Bool):(gz l).length≤l.length:=by
 unfold gz;rw[aH];exact ez (jT _ _) (by simp)
end Go.K

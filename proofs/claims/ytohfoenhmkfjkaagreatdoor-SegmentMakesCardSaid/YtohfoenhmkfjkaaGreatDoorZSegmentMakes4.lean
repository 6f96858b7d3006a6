/- What the law 'SegmentMakes' needs of walks and plain Lean, part 4: nothing is assumed beyond the texts that it imports. -/
import Derived.KernelRfl
import Derived.Test.YtohfoenhmkfjkaaGreatDoorProg
import Derived.Test.YtohfoenhmkfjkaaGreatDoorZSegmentMakes1
import Derived.Test.YtohfoenhmkfjkaaGreatDoorZSegmentMakes2
import Derived.Test.YtohfoenhmkfjkaaGreatDoorZSegmentMakes3
set_option linter.unusedVariables false
set_option linter.unusedSimpArgs false
namespace Go.K
open Go.Proofs
namespace TKBldE
theorem fX:TI Tryz.prog 107 (.slice none 0 0) 1 24:=by unfold TI;kernel_rfl
theorem EC:TI Tryz.prog 167 (.map none) 1 8:=by unfold TI;kernel_rfl
theorem L7:Enters Tryz.prog 63:=enters Tryz.func63 rfl (by decide)
theorem adF:Enters Tryz.prog 111:=enters Tryz.func111 rfl (by decide)
theorem adG:Enters Tryz.prog 112:=enters Tryz.func112 rfl (by decide)
end TKBldE
open TKBldE
set_option maxRecDepth 10000
theorem fJ.F6 {P:Program} {kt:TypeId} {w:World} {b clock:Nat} {es:List MapEntry} (hk:P.underlying kt=some .string) (h:fJ P kt w b es clock):∃ks:List (List UInt8),es.map (·.key)=ks.map sv∧ks.Nodup:=by
 have key:∀es:List MapEntry,(∀e∈es,∃l,keyOf P kt e.key=some l)→∃ks:List (List UInt8),es.map (·.key)=ks.map sv:=by
  intro es
  induction es with
  |nil=>exact fun _=>⟨[],rfl⟩
  |cons e es ih=>
   intro h;obtain⟨ks,h1⟩:=ih fun x hx=>h x (cF _ hx)
   obtain⟨l,hl⟩:=h e (cn ..);obtain⟨x,h3,_,h4⟩:=Maps.keyOf_str hk hl;exact⟨x::ks,by simp only[eO,h1,h3]⟩
 obtain⟨ks,h1⟩:=key es h.ok;refine⟨ks,h1,?_⟩;have h3:=eo.2 h.keys;rw[h1]at h3;exact(eo.1 h3).imp fun h e=>h (by rw[e])
theorem CW {M:aU} {w:World}:∀{l:List (List UInt8)},(∀x∈l,x.length≤140737488355328)→fR RT.str M w l (l.map Go.Proofs.encStr)
 |[],_=>rfl
 |x::l,h=>⟨[.string ⟨x.toArray⟩],_,rfl,⟨rfl,h x (cn ..)⟩,CW fun y hy=>h y (cF _ hy)⟩
theorem Kn (M:aU) (w:World) (M':aU) (w':World) (x:List UInt8) (vs:List Value) (h:RT.str.R M w x vs):RT.str.R M' w' x vs:=h
theorem uP {L:List En} (hF:∀x∈L,iT x.1):∀k∈gZ L,k.length≤43:=fun k hk=>by
 obtain⟨e,he,h1⟩:=List.mem_flatMap.1 hk;obtain⟨t,ht,rfl⟩:=cL.1 h1;have:=(hF e he).term ht;unfold dm;simp;omega
theorem kT {L:List En} (hF:∀x∈L,iT x.1):(gZ L).length≤500*L.length:=by
 induction L with
 |nil=>simp[gZ]
 |cons e L ih=>
  have h1:=ih fun x hx=>hF x (cF _ hx)
  have h2:=zN (hF e (cn ..));show((cC (mP e)).map dm++gZ L).length≤_;rw[bP,cr,cK];have h2:(cC (mP e)).length≤500:=h2;omega
theorem EF {Z M:aU} {B b:Nat} {L:List En} {words last:Int} (w0:World) (hM:Lt M w0) (hb:nK Z M w0 B b L words last) (hF:∀x∈L,iT x.1) (hLn:L.length≤1000000):
  Spec Tryz.prog 58 #[.pointer (some ⟨b,0,none⟩)] w0 (fun v w=>(RT.str.sl).V M w (keysOf L) v∧Step M w0 M w aN):=by
 obtain⟨mb,vl,es,clock,gb,ey,fk,hB,F0,ho,hW,hR,zl⟩:=hb;obtain⟨ks,Nr,qq⟩:=hW.F6 aM
 have fh:∀x,x∈ks↔x∈gZ L:=fun x=>by
  rw[←hR.k x];constructor
  ·intro hx;have:sv x∈es.map (·.key):=by rw[Nr];exact fH hx
   obtain⟨e,he,h⟩:=cL.1 this;exact⟨e,he,h⟩
  ·rintro⟨e,he,h⟩;have:sv x∈ks.map sv:=by rw[←Nr,←h];exact fH he
   obtain⟨y,hy,h1⟩:=cL.1 this;rw[←A3 h1];exact hy
 have T1:ks.length≤500000000:=by
  have h1:=qq.length_le_of_subset (l₂:=gZ L) (fun x hx=>(fh x).1 hx);have h2:=kT hF;omega
 have hen:es.length=ks.length:=by have:=congrArg List.length Nr;simpa using this
 refine bE (args:=[_]) (fn:=Tryz.f58) Tryz.func58 rfl (n:=9) Tryz.ntmps58 ?_;have S:Step M w0 M w0 aN:=(ah _ _).cD (fun _ h=>h.elim) (fun _ h=>h.elim);refine au (ak (al rfl rfl (ae (au (ak (aj rfl rfl (bJ rfl ⟨_,rfl⟩ rfl (bI (o':=1) dX rfl rfl EC (by decide) rfl rfl (br iy rfl rfl rfl gb rfl (bO (v':= .map (some mb)) rfl ?_))))))))));refine aS rfl rfl adG (EB _ _) (fun r w1 hc=>?_);obtain⟨rfl,hw1⟩:=hc;have s1:Step M w0 M w1 aN:=by rw[hw1];exact dA _ w0 _
 have OQ:=yY hw1;have:=av gb;replace ey:=(s1.mem _ this).2 ey;replace gb:=s1.aX gb;replace fk:=(s1.mem _ (av hW.at_)).2 fk;replace hW:=hW.bC s1;replace hM:=s1.lt hM;have:=S.size;replace S:=S.aE s1;obtain⟨m,hO,Wt,tx⟩:=hW.acZ aM fk (by unfold maxLen;omega) ks Nr;refine aS rfl rfl adF (A6 hO OQ (by omega)) (fun r2 w2 hc=>?_);obtain⟨⟨ss,hss,o9,_⟩,s2⟩:=hc;have Ux:ss.Perm ks:=hss.trans Wt;have hmp:=List.mergeSort_perm ss fun x y=>decide (x≤y)
 have oT:(ss.mergeSort fun x y=>decide (x≤y))=keysOf L:=QZ (Hh (Ux.nodup_iff.2 qq)) (k9 L) fun x=>by rw[hmp.mem_iff,Ux.mem_iff,fh,jS]
 have hlen:ss.length=(keysOf L).length:=by rw[←oT,List.length_mergeSort]
 rw[oT,hlen]at o9;have adI:∀x∈keysOf L,x.length≤140737488355328:=fun x hx=>by have:=uP hF x (jS.1 hx);omega
 have tB:Own RT.str 9 (qw r2) w2 w1.heap.size r2 (keysOf L):=⟨⟨_,o9,CW adI⟩,fun b hb=>hb⟩;have kB:(RT.str.sl).V M w2 (keysOf L) r2:=tB.tell Kn (fun b hb h=>by have:=(tB.base b hb).1;have:=hM b h;omega) (by have:=Ux.length_eq;omega);have:=av gb;replace ey:=(s2.mem _ this).2 ey;replace gb:=s2.aX gb;replace fk:=(s2.mem _ (av hW.at_)).2 fk;replace hW:=hW.bC s2;replace hM:=s2.lt hM;have:=S.size;replace S:=S.aE s2;refine al rfl rfl (ae (aW ?_));exact a8 rfl rfl ⟨kB,S⟩
theorem EG {Z M:aU} {B b:Nat} {L:List En} {words last:Int} {k:List UInt8} (w0:World) (hM:Lt M w0) (hb:nK Z M w0 B b L words last) (hF:∀x∈L,iT x.1) (hLn:L.length≤1000000) (HQ:k.length≤140737488355328):
  Spec Tryz.prog 59 #[.pointer (some ⟨b,0,none⟩),sv k] w0 (fun v w=>(RT.po.sl).V M w (pk L k) v∧Step M w0 M w aN):=by
 have fZ:=hM;obtain⟨mb,vl,es,clock,gb,ey,fk,hB,F0,ho,hW,hR,zl⟩:=hb;obtain⟨kl,Mu⟩:=J6 k HQ;obtain⟨zk,Wu⟩:=nf k L 0 hF;replace zk:(pk L k).length≤L.length:=zk;replace Wu:∀p∈pk L k,_:=Wu;refine bE (args:=[_,_]) (fn:=Tryz.f59) Tryz.func59 rfl (n:=30) Tryz.ntmps59 ?_;have S:Step M w0 M w0 aN:=(ah _ _).cD (fun _ h=>h.elim) (fun _ h=>h.elim);refine au (ak (al rfl rfl (ae (au (ak (al rfl rfl (ae (au (au (ak (aj rfl rfl ?_)))))))))));refine bJ rfl ⟨_,rfl⟩ rfl (bI (o':=1) dX rfl rfl EC (by decide) rfl rfl (br iy rfl rfl rfl gb rfl (bO (v':= .map (some mb)) rfl (aj rfl rfl ?_))));refine Rg.sq iy sy fX rfl rfl rfl Mu hW (fun F7 ke=>?_);have qI:=hR.o _ _ ke;have L8:∀c,F7.ownBlock=some c→c<w0.heap.size:=fun c hc=>(qI.base c hc).2
 clear hR hW ho;refine gy aC rfl qI rfl (aj rfl rfl (ae (bu ?_)));refine de (σ:=Nat×Value) (fun q=>[(5,q.2),(13,F7),(14,.int .i64 ((pk L k).length:Int)),(15,.int .i64 (q.1:Int))]) (fun q w=>∃M',Lt M' w∧Step M w0 M' w aN∧Own RT.po 153 M' w w0.heap.size q.2 ((pk L k).take q.1)∧Own RT.po 153 M' w B F7 (pk L k)∧q.1≤(pk L k).length) (fun q=>(pk L k).length-q.1) (0,.slice none 0 0) (.cons rfl (.cons rfl (.cons rfl (.cons rfl .nil)))) ?_ ?_
 ·exact⟨M,hM,S,dO _ _ _ _ _,qI,bM _⟩
 ·clear hM S qI;rintro⟨i,u⟩ w ⟨M1,hM,S,hu,qI,hi⟩;dsimp only at hu hi ⊢;refine au (ak (cu rfl rfl rfl (ae (au ?_))));refine bW rfl (fun c3=>?_) (fun c3=>?_)
  ·refine bg (au (bu (au (ak ?_))));refine Rg.ada aC dW (by decide) rfl rfl rfl qI (by omega) (fun u4 p BD iM=>?_);rw[aK]at BD;have hp:=Wu p (aQ BD);refine Rg.J5 (A:=RT.po) aP rfl dW rfl rfl rfl iM (fun v4 oQ=>?_);refine mG (A:=RT.po) (M:=M1) dW rfl rfl rfl rfl rfl (by assumption) (ar _ _) hM (fun D4 Qf jO qy Wv=>?_);replace hu:=hu.bC qy;replace qI:=qI.bC qy;replace hM:=qy.lt hM;have:=S.size;replace S:=S.aE qy;refine ae ?_;apply nr 5 [0,1,2] 3 aN mixed rfl rfl rfl rfl;intro EH Ro;have mw:=Ro M1;replace jO:=jO.le (by decide) mw.le;replace hu:=hu.bC mw;replace qI:=qI.bC mw;replace hM:=mw.lt hM;have:=S.size;replace S:=S.aE mw;refine aj rfl rfl ?_;refine ae ⟨rfl,rfl,rfl,?_⟩;refine aA (M:=M1) (A:=RT.po) (B:=RT.int .i64) aP rfl rfl I3 (by decide) (na) rfl rfl (by decide) (by assumption) (by repeat (first|exact ar _ _|refine aT (bh (by assumption)) ?_)) (fun VL Jj=>?_);refine ae ⟨rfl,rfl,rfl,?_⟩;refine bK (M:=M1) aB rfl rfl (by assumption) (by repeat (first|exact ar _ _|refine aT (bh (by assumption)) ?_)) (fun O1=>?_);refine ae ⟨rfl,rfl,rfl,?_⟩;refine aA (M:=M1) (A:=RT.po) (B:=(RT.int .i64).sl) aP rfl rfl gT (by decide) (zr) rfl rfl (by decide) (by assumption) (by repeat (first|exact ar _ _|refine aT (bh (by assumption)) ?_)) (fun Vo Cb=>?_);refine ae ⟨rfl,rfl,rfl,?_⟩;refine aY (M:=M1) ay rfl rfl rfl rfl rfl (by assumption) (by repeat (first|exact ar _ _|refine aT (bh (by assumption)) ?_)) (fun al2 Ww=>?_);refine ae ⟨rfl,rfl,rfl,?_⟩;refine dv ?_;obtain⟨bb,oo,cs,ee,fr,rfl,kr,_⟩:=Jj.float;refine⟨eA ⟨eU,⟨eM aP rfl I3 (by decide),⟨dx rfl kr (fun h=>h),trivial⟩⟩⟩,?_⟩
   have kp:=eX aN EH;refine aS rfl rfl L7 (mq hM Ww (by omega)) (fun v5 w5 hc=>?_);obtain⟨oz,s5⟩:=hc;replace jO:=jO.le (by decide) s5.le;replace hu:=hu.bC s5;replace qI:=qI.bC s5;replace hM:=s5.lt hM;have:=S.size;replace S:=S.aE s5;refine(fun(kp:eg _ _ _)=>ae ⟨rfl,rfl,fun _=>kp,?_⟩) (by first|exact kp|exact kp.mY (by assumption)|exact kp.goN (by assumption)|exact kp.go (by assumption) (fun _ _ h=>by first|exact h|exact h.elim));refine eF (places:=[(0,1),(1,1)]) aP dW IL rfl ⟨_,_,rfl,rfl,_,_,rfl,rfl,rfl⟩ (out:=[_,_]) ⟨0,[_],rfl,rfl,by simp[Value.cells],1,[_],rfl,fg oz,by simp[Value.cells],rfl⟩ ?_;have vE:RT.po.V M1 _ p _:=eS (ie O1) oz rfl rfl rfl rfl;refine(fun(kp:eg _ _ _)=>ae ⟨rfl,rfl,fun _=>kp,?_⟩) (by first|exact kp|exact kp.mY (by assumption)|exact kp.goN (by assumption)|exact kp.go (by assumption) (fun _ _ h=>by first|exact h|exact h.elim));refine ez (A:=RT.po) (hn:=by decide) (M:=M1) aC dW (by decide) rfl rfl hM (vE) (.inl rfl) (fun al3 al4 Ko Hs=>?_);replace jO:=jO.le (by decide) Hs.le;replace oz:=oz.le Hs.le;replace hu:=hu.bC Hs;replace qI:=qI.bC Hs;replace hM:=Hs.lt hM;have:=S.size;replace S:=S.aE Hs;refine(fun(kp:eg _ _ _)=>ae ⟨rfl,rfl,fun _=>kp,?_⟩) (by first|exact kp|exact kp.mY (by assumption)|exact kp.goN (by assumption)|exact kp.go (by assumption) (fun _ _ h=>by first|exact h|exact h.elim));refine cz (M:=M1) (base:=w0.heap.size) aC dW rfl rfl rfl rfl hu Ko (ar _ _) (by simp;omega) (by simp;omega) (S.size) (fun Wx adJ adK Wy sC=>?_);replace jO:=jO.le (by decide) sC.le;replace oz:=oz.le sC.le;replace Ko:=Ko.le sC.le;replace qI:=qI.step sC (fun c hc h=>by have:=L8 c hc;have:=(hu.base c h).1;omega);replace hM:=sC.lt hM;have:=S.size;replace S:=S.cJ sC hu (bw _);replace hu:=Wy;refine ae ⟨rfl,rfl,fun h=>absurd rfl h,?_⟩
   refine al rfl rfl ?_;refine ae ⟨rfl,rfl,fun h=>absurd rfl h,?_⟩;refine gX (ak (bQ rfl rfl rfl (by omega) (aj rfl rfl (ae ?_))));refine⟨rfl,(i+1,Wx),(.cons rfl (.cons rfl (.cons rfl (.cons rfl .nil)))),?_,?_⟩
   ·exact⟨adJ,hM,S,by rw[bX,BD,cq];exact hu,qI,by dsimp only;omega⟩
   ·dsimp only;omega
  ·refine cP (au (ak (aj rfl rfl (al rfl rfl (ae (aW ?_))))));rw[bm (by omega)]at hu;exact a8 rfl rfl ⟨hu.close fZ S (by omega),S.back⟩
end Go.K
namespace Go.K
open Go.Proofs
namespace TKBldF
theorem adL:TI Tryz.prog 190 (.agg #[(.slice none 0 0),(.slice none 0 0)]) 2 48:=by unfold TI;kernel_rfl
theorem adM:placesOf Tryz.prog 190=[(0,1),(1,1)].map some:=by kernel_rfl
theorem adN:Enters Tryz.prog 176:=enters Tryz.func176 rfl (by decide)
theorem adO:Enters Tryz.prog 177:=enters Tryz.func177 rfl (by decide)
theorem adP:Enters Tryz.prog 178:=enters Tryz.func178 rfl (by decide)
end TKBldF
open TKBldF
set_option maxRecDepth 10000
def tp:Option (List UInt8)→List (List UInt8)→Bool
 |_,[]=>true
 |o,x::l=>(match o with|none=>true|some a=>decide (a<x))&&tp (some x) l
theorem pY {l:List (List UInt8)} {k:Nat} {x:List UInt8} (h:l[k]? =some x) (o:Option (List UInt8)):tp o (l.drop k)=((match o with|none=>true|some a=>decide (a<x))&&tp (some x) (l.drop (k+1))):=by
 obtain⟨ek,he⟩:=aF.1 h;rw[dV ek,he];rfl
theorem CX {a:List UInt8}:∀{l:List (List UInt8)},vR (a::l)→tp (some a) l=true
 |[],_=>rfl
 |x::l,h=>by
  have h':=fV.1 h;simp only[tp,bZ,decide_eq_true_eq];exact⟨h'.1 x (cn ..),CX h'.2⟩
theorem Rp:∀{l:List (List UInt8)},vR l→tp none l=true
 |[],_=>rfl
 |x::l,h=>by simp only[tp,eP];exact CX h
theorem O2:∀{l:List (List UInt8)} {a:List UInt8},tp (some a) l=true→vR (a::l)
 |[],a,_=>by simp
 |x::l,a,h=>by
  simp only[tp,bZ,decide_eq_true_eq]at h;have h2:=O2 h.2;refine fV.2 ⟨fun y hy=>?_,h2⟩;rcases ew.1 hy with rfl|hy
  ·exact h.1
  ·exact j8 h.1 ((fV.1 h2).1 y hy)
theorem zO {M:aU} {v:Value} {l:List Int} (w0:World) (hv:((RT.int .i64).sl).V M w0 l v):
  Spec Tryz.prog 124 #[v] w0 (fun v' w'=>v'= .bool (ec (-1) l)∧w'=w0):=by
 have hlen:=dr hv;refine bE (args:=[_]) (fn:=Tryz.f124) Tryz.func124 rfl (n:=28) Tryz.ntmps124 (au (ak (al rfl rfl (ae (au (au (ak (aj rfl rfl (bF ay rfl hv rfl (aj rfl rfl (ae ?_)))))))))));refine bu ?_;refine de (σ:=Nat×Int) (fun s=>[(0,v),(5,v),(6,.int .i64 l.length),(7,.int .i64 s.1)]) (fun s w=>w=w0∧s.1≤l.length∧ec (-1) l=ec s.2 (l.drop s.1)∧ -1≤s.2∧(s.1=0→s.2= -1)∧(0<s.1→l[s.1-1]? =some s.2)) (fun s=>l.length-s.1) (0,-1) (.cons rfl (.cons rfl (.cons rfl (.cons rfl .nil)))) ?_ ?_
 ·exact⟨rfl,bM _,rfl,by decide,fun _=>rfl,fun h=>absurd h (jr 0)⟩
 ·rintro⟨k,last⟩ w1 ⟨rfl,hk,hr,NH,h0,h1⟩;dsimp only at hk hr NH h0 h1 ⊢;refine au (ak (cu rfl rfl rfl (ae (au ?_))));refine bW rfl (fun c2=>?_) (fun c2=>?_)
  ·refine bg (au (bu (au (ak (aj rfl rfl ?_)))));obtain⟨x,hx⟩:∃x,l[k]? =some x:=⟨_,aI (by omega)⟩;refine bS (M:=M) ay I3 rfl rfl rfl hv (ar _ _) (by omega) (fun u a hg hu=>?_);obtain rfl:x=a:=bY (aG (hg.symm.trans (by simpa using hx)));refine bK (M:=M) aB rfl rfl hu (ar _ _) (fun inx=>?_);refine al rfl rfl (al rfl rfl (ae (au (ak (aj rfl rfl (cu rfl rfl rfl (aj rfl rfl ?_)))))));refine aZ (g:=14) rfl (fun qA=>?_) (fun qA=>?_)
   ·refine aw rfl rfl rfl rfl (aw rfl rfl rfl rfl (aw rfl rfl rfl rfl (ca rfl rfl rfl (ca rfl rfl rfl (ca rfl rfl rfl (ca rfl rfl rfl (ca rfl rfl rfl (ca rfl rfl rfl (ca rfl rfl rfl (aw rfl rfl rfl rfl (aR rfl rfl rfl ?_)))))))))));refine ae (gz rfl (au (ak (al rfl rfl (ae (aW ?_))))));refine a8 rfl rfl ⟨congrArg Value.bool (bY ?_),rfl⟩;rw[hr,eQ hx,decide_eq_false (show¬last<x by omega),eK]
   ·refine aq rfl rfl (aj rfl rfl (aq rfl rfl (hY rfl rfl rfl (aq rfl rfl (aj rfl rfl ?_)))));refine aZ (g:=17) rfl (fun Eh=>?_) (fun Eh=>?_)
    ·refine aq rfl rfl (aj rfl rfl (aq rfl rfl (aj rfl rfl (aq rfl rfl (aj rfl rfl (aq rfl rfl (eJ rfl rfl rfl (by omega) (aq rfl rfl ?_))))))));refine bS (M:=M) ay I3 rfl rfl rfl hv (ar _ _) (by omega) (fun u2 a hg kg=>?_);obtain rfl:last=a:=bY (aG (hg.symm.trans (by rw[show((k:Int)-1).toNat=k-1 from by omega];exact h1 (by omega))));refine aq rfl rfl ?_;refine bK (M:=M) aB rfl rfl kg (ar _ _) (fun inl=>?_);refine aq rfl rfl (fo rfl rfl rfl (aq rfl rfl (aR rfl rfl rfl (aL rfl rfl rfl (ae ?_)))));refine bW rfl (fun c4=>?_) (fun c4=>?_)
     ·refine au (ak (al rfl rfl (ae (aW ?_))));refine a8 rfl rfl ⟨congrArg Value.bool (bY ?_),rfl⟩;rw[hr,eQ hx,decide_eq_false (show¬last<x by omega),eK]
     ·refine bg (ak (bQ rfl rfl rfl (by omega) (aj rfl rfl (ae ?_))));refine⟨rfl,(k+1,x),(.cons rfl (.cons rfl (.cons rfl (.cons rfl .nil)))),?_,?_⟩
      ·refine⟨rfl,by simp only;omega,?_,by simp only;omega,fun h=>by simp at h,fun _=>by simpa using hx⟩;rw[hr,eQ hx,decide_eq_true (show last<x by omega),eP]
      ·simp only;omega
    ·refine aw rfl rfl rfl rfl (aw rfl rfl rfl rfl (aw rfl rfl rfl rfl (aw rfl rfl rfl rfl (aw rfl rfl rfl rfl (aw rfl rfl rfl rfl (aw rfl rfl rfl rfl (aq rfl rfl (aL rfl rfl rfl (aL rfl rfl rfl (ae (ir rfl ?_)))))))))));refine bg (ak (bQ rfl rfl rfl (by omega) (aj rfl rfl (ae ?_))));refine⟨rfl,(k+1,x),(.cons rfl (.cons rfl (.cons rfl (.cons rfl .nil)))),?_,?_⟩
     ·refine⟨rfl,by simp only;omega,?_,by simp only;omega,fun h=>by simp at h,fun _=>by simpa using hx⟩;rw[hr,eQ hx,decide_eq_true (show last<x by omega),eP]
     ·simp only;omega
  ·refine cP (au (ak (al rfl rfl (ae (aW ?_)))));refine a8 rfl rfl ⟨congrArg Value.bool (bY ?_),rfl⟩;rw[hr,dy (by omega)];rfl
theorem CY {M:aU} {v:Value} {l:List (List UInt8)} (w0:World) (hv:(RT.str.sl).V M w0 l v):
  Spec Tryz.prog 176 #[v] w0 (fun v' w'=>v'= .bool (tp none l)∧w'=w0):=by
 have hlen:=dr hv;refine bE (args:=[_]) (fn:=Tryz.f176) Tryz.func176 rfl (n:=24) Tryz.ntmps176 (au (ak (al rfl rfl (ae (au (au (ak (aj rfl rfl (bF aJ rfl hv rfl (aj rfl rfl (ae ?_)))))))))));refine bu ?_;refine de (σ:=Nat×Option (List UInt8)) (fun s=>[(0,v),(5,v),(6,.int .i64 l.length),(7,.int .i64 s.1)]) (fun s w=>w=w0∧s.1≤l.length∧tp none l=tp s.2 (l.drop s.1)∧(s.1=0→s.2=none)∧(0<s.1→∃a,s.2=some a∧l[s.1-1]? =some a)) (fun s=>l.length-s.1) (0,none) (.cons rfl (.cons rfl (.cons rfl (.cons rfl .nil)))) ?_ ?_
 ·exact⟨rfl,bM _,rfl,fun _=>rfl,fun h=>absurd h (jr 0)⟩
 ·rintro⟨k,o⟩ w1 ⟨rfl,hk,hr,h0,h1⟩;dsimp only at hk hr h0 h1 ⊢;refine au (ak (cu rfl rfl rfl (ae (au ?_))));refine bW rfl (fun c2=>?_) (fun c2=>?_)
  ·refine bg (au (bu (au (ak (aj rfl rfl ?_)))));obtain⟨x,hx⟩:∃x,l[k]? =some x:=⟨_,aI (by omega)⟩;refine bS (M:=M) aJ I9 rfl rfl rfl hv (ar _ _) (by omega) (fun u a hg hu=>?_);obtain rfl:x=a:=bY (aG (hg.symm.trans (by simpa using hx)));refine aY (M:=M) aM rfl rfl rfl rfl rfl hu (ar _ _) (fun vx tS=>?_);obtain rfl:=dQ tS;refine al rfl rfl (al rfl rfl (ae (au (ak (aj rfl rfl (hY rfl rfl rfl (aj rfl rfl ?_)))))));refine aZ (g:=14) rfl (fun qA=>?_) (fun qA=>?_)
   ·refine aq rfl rfl (aj rfl rfl (aq rfl rfl (aj rfl rfl (aq rfl rfl (aj rfl rfl (aq rfl rfl (eJ rfl rfl rfl (by omega) (aq rfl rfl ?_))))))));obtain⟨last,rfl,km⟩:=h1 (by omega);refine bS (M:=M) aJ I9 rfl rfl rfl hv (ar _ _) (by omega) (fun u2 a hg kg=>?_);obtain rfl:last=a:=bY (aG (hg.symm.trans (by rw[show((k:Int)-1).toNat=k-1 from by omega];exact km)));refine aq rfl rfl ?_;refine aY (M:=M) aM rfl rfl rfl rfl rfl kg (ar _ _) (fun vl kq=>?_);obtain rfl:=dQ kq;refine aq rfl rfl (Rg.JQ rfl rfl rfl (aR rfl rfl rfl (ae ?_)));refine bW rfl (fun c4=>?_) (fun c4=>?_)
    ·refine au (ak (al rfl rfl (ae (aW ?_))));refine a8 rfl rfl ⟨congrArg Value.bool (bY ?_),rfl⟩;rw[hr,pY hx];simp[c4]
    ·refine bg (ak (bQ rfl rfl rfl (by omega) (aj rfl rfl (ae ?_))));refine⟨rfl,(k+1,some x),(.cons rfl (.cons rfl (.cons rfl (.cons rfl .nil)))),?_,?_⟩
     ·refine⟨rfl,by simp only;omega,?_,fun h=>by simp at h,fun _=>⟨x,rfl,by simpa using hx⟩⟩;rw[hr,pY hx]
      first
      |(rw[h0 (by omega)];simp;done)
      |(have c4':=cy.1 c4;simp[c4'];done)
     ·simp only;omega
   ·refine aw rfl rfl rfl rfl (aw rfl rfl rfl rfl (aw rfl rfl rfl rfl (aw rfl rfl rfl rfl (aw rfl rfl rfl rfl (aw rfl rfl rfl rfl (aw rfl rfl rfl rfl (aL rfl rfl rfl (ae (ir rfl (bg (ak ?_)))))))))));refine bQ rfl rfl rfl (by omega) (aj rfl rfl (ae ?_));refine⟨rfl,(k+1,some x),(.cons rfl (.cons rfl (.cons rfl (.cons rfl .nil)))),?_,?_⟩
    ·refine⟨rfl,by simp only;omega,?_,fun h=>by simp at h,fun _=>⟨x,rfl,by simpa using hx⟩⟩;rw[hr,pY hx]
     first
     |(rw[h0 (by omega)];simp;done)
     |(have c4':=cy.1 c4;simp[c4'];done)
    ·simp only;omega
  ·refine cP (au (ak (al rfl rfl (ae (aW ?_)))));refine a8 rfl rfl ⟨congrArg Value.bool (bY ?_),rfl⟩;rw[hr,dy (by omega)];rfl
theorem qn {α:Type} {A:RT α} {M:aU} {w:World} {v:Value} {x:α} (h:bL A M w v x):v.cells= #[v]:=by
 obtain⟨b,o,vs,rfl,_⟩:=h;rfl
theorem xE {M:aU} {v0 v1:Value} {ns:List (List UInt8)} {ts:List Li} (w0:World) (hM:Lt M w0) (hn:(RT.str.sl).V M w0 ns v0) (ht:(((RT.li).ptr).sl).V M w0 ts v1) (hl:ns.length≤1099511627776) (Ie:ts.length≤1099511627776):
  Spec Tryz.prog 128 #[v0,v1] w0 (fun v w=>∃p,v= .tuple #[p,.int .i64 (if ns.length=ts.length∧tp none ns=true then 0 else 1)]∧(ns.length=ts.length→tp none ns=true→bL RT.di M w p (ns,ts))∧Step M w0 M w aN):=by
 refine bE (args:=[_,_]) (fn:=Tryz.f128) Tryz.func128 rfl (n:=22) Tryz.ntmps128 ?_;have S:Step M w0 M w0 aN:=(ah _ _).cD (fun _ h=>h.elim) (fun _ h=>h.elim);refine au (ak (al rfl rfl (al rfl rfl (ae (au (au (ak (aj rfl rfl (bF aJ rfl hn rfl (aj rfl rfl (bF dp rfl ht rfl ?_)))))))))));refine eC rfl rfl rfl (aj rfl rfl ?_);refine aZ (g:=11) rfl (fun tO=>?_) (fun tO=>?_)
 ·refine aw rfl rfl rfl rfl (aw rfl rfl rfl rfl (aw rfl rfl rfl rfl (aR rfl rfl rfl (ae (gz rfl (au (ak (al rfl rfl (al rfl rfl (ae (aW ?_)))))))))))
  first
  |exact fw rfl rfl rfl ⟨_,by rw[if_neg (fun h=>tO (by omega))],fun h=>absurd (by omega) tO,S⟩
  |exact fw rfl rfl rfl ⟨_,by rw[if_neg (fun h=>c1 h.2)],fun _ h=>absurd h c1,S⟩
 ·refine aq rfl rfl (aj rfl rfl (aq rfl rfl ?_));refine aS rfl rfl adN (CY _ hn) (fun r wc hc=>?_);obtain⟨rfl,rfl⟩:=hc;refine aq rfl rfl (fP rfl rfl (bO (v':= .bool (decide (¬tp none ns=true))) (by simp) (aL rfl rfl rfl (ae ?_))));refine bW rfl (fun c1=>?_) (fun c1=>?_)
  ·refine au (ak (al rfl rfl (al rfl rfl (ae (aW ?_)))))
   first
   |exact fw rfl rfl rfl ⟨_,by rw[if_neg (fun h=>tO (by omega))],fun h=>absurd (by omega) tO,S⟩
   |exact fw rfl rfl rfl ⟨_,by rw[if_neg (fun h=>c1 h.2)],fun _ h=>absurd h c1,S⟩
  ·refine bg (au (ak (aj rfl rfl ?_)));refine aS rfl rfl adO (JV hM hn hl) (fun v3 w3 hc=>?_);obtain⟨lv,s3⟩:=hc;replace hn:=hn.le s3.le;replace ht:=ht.le s3.le;replace hM:=s3.lt hM;have:=S.size;replace S:=S.aE s3;refine aj rfl rfl ?_;refine aS rfl rfl adP (Nz hM ht Ie) (fun v4 w4 hc=>?_);obtain⟨oQ,s4⟩:=hc;replace hn:=hn.le s4.le;replace ht:=ht.le s4.le;replace lv:=lv.le s4.le;replace hM:=s4.lt hM;have:=S.size;replace S:=S.aE s4;refine eF (places:=[(0,1),(1,1)]) jZ adL adM rfl ⟨_,_,rfl,rfl,_,_,rfl,rfl,rfl⟩ (out:=[_,_]) ⟨0,[_],rfl,fg lv,by simp[Value.cells],1,[_],rfl,fg oQ,by simp[Value.cells],rfl⟩ ?_;refine eG (A:=RT.di) (a:=(ns,ts)) rfl rfl hM (eS lv oQ rfl rfl rfl rfl) rfl (fun u5 w5 gV s5 _=>?_);replace hn:=hn.le s5.le;replace ht:=ht.le s5.le;replace lv:=lv.le s5.le;replace oQ:=oQ.le s5.le;replace hM:=s5.lt hM;have:=S.size;replace S:=S.aE s5;refine al rfl rfl (al rfl rfl (ae (aW ?_)));exact fw rfl rfl rfl ⟨_,by rw[if_pos ⟨by omega,cy.1 c1⟩],fun _ _=>gV,S⟩
end Go.K
namespace Go.K
theorem ry (n:Nat):IntKind.u8.wrap (n:Int)=((UInt8.ofNat n).toNat:Int):=by
 rw[IntKind.wrap_u8];simp[UInt8.toNat_ofNat]
theorem Wz:∀m:Nat,m<256→(BitVec.ofInt 8 (m:Int)|||BitVec.ofInt 8 128).toNat=128+m%128:=by decide+kernel
theorem NI (n:Nat):IntKind.u8.wrap ((BitVec.ofInt IntKind.u8.bits (IntKind.u8.wrap (n:Int))|||BitVec.ofInt IntKind.u8.bits 128).toNat:Int)=((UInt8.ofNat (128+n%128)).toNat:Int):=by
 have h1:IntKind.u8.wrap (n:Int)=((n%256:Nat):Int):=by rw[IntKind.wrap_u8];omega
 rw[h1];show IntKind.u8.wrap ((BitVec.ofInt 8 ((n%256:Nat):Int)|||BitVec.ofInt 8 128).toNat:Int)=_;rw[Wz (n%256) (by omega),IntKind.wrap_u8,show n%256%128=n%128 from by omega];simp[UInt8.toNat_ofNat]
theorem adR (n:Nat):((n:Int)).fdiv (2^min (Int.toNat 7) IntKind.i64.bits)=((n/128:Nat):Int):=by
 show((n:Int)).fdiv 128=_;rw[Int.fdiv_eq_ediv_of_nonneg _ (by decide)];rfl
theorem EI:∀m:Nat,m<256→(BitVec.ofInt 8 (m:Int)&&& ~~~ BitVec.ofInt 8 128).toNat=m%128:=by decide+kernel
theorem CZ (c:UInt8):IntKind.u8.wrap ((BitVec.ofInt IntKind.u8.bits (c.toNat:Int)&&& ~~~ BitVec.ofInt IntKind.u8.bits 128).toNat:Int)=((c.toNat%128:Nat):Int):=by
 show IntKind.u8.wrap ((BitVec.ofInt 8 (c.toNat:Int)&&& ~~~ BitVec.ofInt 8 128).toNat:Int)=_;rw[EI c.toNat (by have:=c.toNat_lt;omega),IntKind.wrap_u8];omega
theorem Kp (k n x:Nat) (hk:k≤8) (hn:n<128^k) (hx:x<128):
  IntKind.i64.wrap ((BitVec.ofInt IntKind.i64.bits (n:Int)|||BitVec.ofInt IntKind.i64.bits (IntKind.i64.wrap ((x:Int)*2^min (Int.toNat (7*(k:Int))) IntKind.i64.bits))).toNat:Int)=((n+x*128^k:Nat):Int):=by
 have e7:Int.toNat (7*(k:Int))=7*k:=by omega
 have e1:min (7*k) 64=7*k:=by omega
 have e2:(128:Nat)^k=2^(7*k):=by rw[Nat.pow_mul]
 have hp:2^(7*k)≤2^56:=Nat.pow_le_pow_right (by decide) (by omega);have hb:x*2^(7*k)≤127*2^(7*k):=Nat.mul_le_mul_right _ (by omega);rw[e2]at hn ⊢;show IntKind.i64.wrap ((BitVec.ofInt 64 (n:Int)|||BitVec.ofInt 64 (IntKind.i64.wrap ((x:Int)*2^min (Int.toNat (7*(k:Int))) 64))).toNat:Int)=_;rw[e7,e1];have e3:((x:Int)*2^(7*k))=((x*2^(7*k):Nat):Int):=by simp
 have e5:n|||x*2^(7*k)=n+x*2^(7*k):=by
  rw[Nat.or_comm,Nat.mul_comm x,←Nat.two_pow_add_eq_or_of_lt hn x,Nat.add_comm]
 rw[e3];generalize x*2^(7*k)=y at*
 generalize 2^(7*k)=z at*
 have e4:∀m:Nat,m<2^64→(BitVec.ofInt 64 (m:Int))=BitVec.ofNat 64 m:=fun m _=>by simp
 rw[ka (y:Int) (by omega),e4 n (by omega),e4 y (by omega),BitVec.toNat_or,BitVec.toNat_ofNat,BitVec.toNat_ofNat,Nat.mod_eq_of_lt (by omega),Nat.mod_eq_of_lt (by omega),e5,ka _ (by omega)]
theorem rz (x:Int): -9223372036854775808≤IntKind.i64.wrap x∧IntKind.i64.wrap x≤9223372036854775807:=by rw[IntKind.wrap_i64];omega
end Go.K
namespace Go.K
open Go.Proofs
set_option maxRecDepth 10000
theorem Bb {M:aU} {w0:World} {v:Value} {b:List UInt8} {n:Nat} (hM:Lt M w0) (hv:(RT.u8.sl).V M w0 b v) (hb:b.length≤70368744177664) (hn:n≤9223372036854775807):
  Spec Tryz.prog 173 #[v,.int .i64 n] w0 (fun v' w'=>∃M',Step M w0 M' w' aN∧Own RT.u8 5 M' w' w0.heap.size v' (b++put n)):=by
 have h9:=gp hn;refine bE (args:=[_,_]) (fn:=Tryz.f173) Tryz.func173 rfl (n:=26) Tryz.ntmps173 (au (ak (al rfl rfl (ae (au (ak (aj rfl rfl (aj rfl rfl ?_))))))))
 first|refine bF bz rfl (by assumption) rfl ?_|refine gy bz rfl (by assumption) rfl ?_
 refine aj rfl rfl ?_
 first|refine bF bz rfl (by assumption) rfl ?_|refine gy bz rfl (by assumption) rfl ?_
 refine Rg.DP bz I5 rfl rfl rfl rfl hv ⟨rfl,rfl⟩ (fun a ke BO=>?_);refine al rfl rfl (ae (au (bu ?_)));refine de (σ:=Nat×Value×List UInt8) (fun s=>[(0,s.2.1),(1,.int .i64 s.1)]) (fun s w=>s.2.2++put s.1=b++put n∧∃M1,Lt M1 w∧Step M w0 M1 w aN∧Grow RT.u8 (by decide) 5 M1 w w0.heap.size s.2.1 s.2.2) (fun s=>s.1) (n,_,b) (.cons rfl (.cons rfl .nil)) ?_ ?_
 ·exact⟨rfl,M,hM,ah _ _,.inr ⟨a,rfl,BO,ke⟩⟩
 ·rintro⟨k,u0,acc⟩ w1 ⟨lL,M1,nL,s1,hg⟩;dsimp only at lL hg ⊢;have hlen:=congrArg List.length lL;have BK:=vN k;simp only[bP]at hlen;refine au (au (ak (aj rfl rfl (dI rfl rfl rfl (ae ?_)))));refine bW rfl (fun c2=>?_) (fun c2=>?_)
  ·refine bg (bu (au (ak (aj rfl rfl (aj rfl rfl (qU aB cN rfl rfl (Rg.or rfl rfl rfl (bO (congrArg _ (NI _)) ?_))))))));refine ez (A:=RT.u8) (hn:=by decide) (M:=M1) bz I5 (by decide) rfl rfl nL (H4.2 rfl) (.inr ⟨rfl,rfl⟩) (fun u w2 hu s2=>?_);refine Rg.FA (M:=M1) (base:=w0.heap.size) bz I5 rfl rfl rfl rfl (hg.le s2) hu (ar _ _) (by simp) (by simp;omega) (by simp;omega) (dJ s1.size s2.size) (fun v3 M3 w3 ud s3=>?_);refine al rfl rfl (ae (ak (aj rfl rfl (Rg.shr rfl rfl rfl (by omega) (bO (congrArg _ (adR _)) (al rfl rfl (ae ?_)))))));refine⟨rfl,(k/128,v3,acc++[UInt8.ofNat (128+k%128)]),(.cons rfl (.cons rfl .nil)),?_,?_⟩
   ·exact⟨by rw[←lL,AB (n:=k) (by omega)];simp,M3,s3.lt (s2.lt nL),(s1.aE s2).lh s3 (bw _),.inl ud⟩
   ·show k/128<k;omega
  ·refine cP (au (ak (aj rfl rfl (aj rfl rfl (qU aB cN rfl rfl (bO (congrArg _ (ry _)) ?_))))));refine ez (A:=RT.u8) (hn:=by decide) (M:=M1) bz I5 (by decide) rfl rfl nL (H4.2 rfl) (.inr ⟨rfl,rfl⟩) (fun u w2 hu s2=>?_);refine Rg.FA (M:=M1) (base:=w0.heap.size) bz I5 rfl rfl rfl rfl (hg.le s2) hu (ar _ _) (by simp) (by simp;omega) (by simp;omega) (dJ s1.size s2.size) (fun v3 M3 w3 ud s3=>?_);refine al rfl rfl (ae (aW ?_));refine a8 rfl rfl ⟨M3,(s1.aE s2).lh s3 (bw _),?_⟩;rw[←lL,tG (n:=k) (by omega)];exact ud
theorem Kq {M:aU} {w0:World} {v:Value} {b:List UInt8} {n:Nat} (hM:Lt M w0) (hv:(RT.u8.sl).V M w0 b v) (hb:b.length≤70368744177664) (hn:n≤9223372036854775807):
  Spec Tryz.prog 173 #[v,.int .i64 n] w0 (fun v' w'=>Step M w0 M w' aN∧(RT.u8.sl).V M w' (b++put n) v'):=
 (Bb hM hv hb hn).mono fun _ _ ⟨_,s,ho⟩=>⟨s.back,fQ hM s ho (by have:=gp hn;simp;omega)⟩
theorem C0 {M:aU} {w0:World} {v:Value} {b:List UInt8} {at_:Int} (hv:(RT.u8.sl).V M w0 b v) (T2: -9223372036854775808≤at_∧at_≤9223372036854775807):
  Spec Tryz.prog 250 #[v,.int .i64 at_] w0 (fun v' w'=>v'= .tuple #[.int .i64 (get b at_).1,.int .i64 (get b at_).2.1,.int .i64 (get b at_).2.2]∧w0=w'):=by
 have hlen:=dr hv;refine bE (args:=[_,_]) (fn:=Tryz.f250) Tryz.func250 rfl (n:=54) Tryz.ntmps250 (au (ak (al rfl rfl (al rfl rfl (al rfl rfl (ae (au (au (ak (aj rfl rfl (cu rfl rfl rfl ?_)))))))))));refine aj rfl rfl ?_;refine aZ (g:=12) rfl (fun iR=>?_) (fun iR=>?_)
 ·obtain Rq:at_<0∨(b.length:Int)<at_:= .inl iR;refine aw rfl rfl rfl rfl (aw rfl rfl rfl rfl (aw rfl rfl rfl rfl (aw rfl rfl rfl rfl (aR rfl rfl rfl (ae (gz rfl (au (ak (al rfl rfl (al rfl rfl (al rfl rfl ?_)))))))))));refine ae (aW ?_);have iI:get b at_=(0,0,1):=by unfold get;rw[if_pos Rq]
  exact qB rfl rfl rfl rfl ⟨by rw[iI],rfl⟩
 ·refine aq rfl rfl (aj rfl rfl (aq rfl rfl (aj rfl rfl (aq rfl rfl ?_))))
  first|refine bF bz rfl (by assumption) rfl ?_|refine gy bz rfl (by assumption) rfl ?_
  refine aq rfl rfl (hY rfl rfl rfl (aL rfl rfl rfl (ae ?_)));refine bW rfl (fun c1=>?_) (fun c1=>?_)
  ·obtain Rq:at_<0∨(b.length:Int)<at_:= .inr c1;refine au (ak (al rfl rfl (al rfl rfl (al rfl rfl (ae (aW ?_))))));have iI:get b at_=(0,0,1):=by unfold get;rw[if_pos Rq]
   exact qB rfl rfl rfl rfl ⟨by rw[iI],rfl⟩
  ·refine bg (au (ak (al rfl rfl (ae (au (au (ak (aj rfl rfl (aj rfl rfl (aj rfl rfl ?_))))))))))
   first|refine bF bz rfl (by assumption) rfl ?_|refine gy bz rfl (by assumption) rfl ?_
   refine aj rfl rfl (bQ rfl rfl rfl (by omega) (Rg.min2 rfl rfl rfl ?_));refine Rg.H7 bz I5 rfl rfl rfl rfl hv (by omega) (fun u hu=>?_);rw[show(min (b.length:Int) (at_+9)).toNat=min b.length (at_.toNat+9)from by omega,P3]at hu;have iI:get b at_=match nB ((b.drop at_.toNat).take 9) 0 0 with|some (n,k)=>((n:Int),at_+k,0)|none=>(0,0,2):=by unfold get;rw[if_neg (by omega)];rfl
   have yZ:((b.drop at_.toNat).take 9).length≤9:=by rw[bU];omega
   generalize (b.drop at_.toNat).take 9=bs at hu iI yZ
   first|refine bF bz rfl (by assumption) rfl ?_|refine gy bz rfl (by assumption) rfl ?_
   refine aj rfl rfl (ae (bu ?_));refine de (σ:=Nat×Nat) (fun s=>[(1,.int .i64 at_),(25,u),(26,.int .i64 bs.length),(27,.int .i64 s.1),(7,.int .i64 s.2)]) (fun s w=>w0=w∧s.1≤bs.length∧s.2<128^s.1∧nB (bs.drop s.1) s.1 s.2=nB bs 0 0) (fun s=>bs.length-s.1) (0,0) (.cons rfl (.cons rfl (.cons rfl (.cons rfl (.cons rfl .nil))))) ?_ ?_
   ·exact⟨rfl,bM _,by decide,rfl⟩
   ·rintro⟨k,m⟩ w1 ⟨rfl,hk,hm,hg⟩;dsimp only at hk hm hg ⊢;refine au (ak (cu rfl rfl rfl (ae (au ?_))));refine bW rfl (fun c5=>?_) (fun c5=>?_)
    ·refine bg (au (bu (au (ak (aj rfl rfl ?_)))));refine bS (M:=M) bz I5 rfl rfl rfl (by assumption) (by repeat (first|exact ar _ _|refine aT (bh (by assumption)) ?_)) (by omega) (fun al5 NJ C1 aid=>?_);refine Rg.PK (M:=M) cN rfl rfl (by assumption) (by repeat (first|exact ar _ _|refine aT (bh (by assumption)) ?_)) ?_;refine al rfl rfl (al rfl rfl (ae (au (ak (aj rfl rfl (aj rfl rfl (Rg.andNot rfl rfl rfl (bO (congrArg _ (CZ _)) (Rg.Ao cN aB rfl rfl (by omega) (aj rfl rfl (Rg.PI rfl rfl rfl (by omega) ?_)))))))))));refine Rg.shl rfl rfl rfl (by omega) (Rg.or rfl rfl rfl (bO (congrArg _ (Kp k m _ (by omega) hm (by omega))) (al rfl rfl (ae (au (ak (aj rfl rfl (cu rfl rfl rfl (ae ?_)))))))));refine bW rfl (fun c8=>?_) (fun c8=>?_)
     ·refine au (au (ak (aj rfl rfl (iE rfl rfl rfl (aj rfl rfl ?_)))));refine aZ (g:=44) rfl (fun Bc=>?_) (fun Bc=>?_)
      ·refine aq rfl rfl (aj rfl rfl (aq rfl rfl (hY rfl rfl rfl (aR rfl rfl rfl (ae ?_)))));refine bW rfl (fun c9=>?_) (fun c9=>?_)
       ·refine cP (au (ak (al rfl rfl (al rfl rfl (al rfl rfl (ae (aW ?_)))))))
        have hr:nB bs 0 0=none:=by
         rw[←hg]
         first
         |(rw[nC (by simpa using C1),if_pos (by omega),if_pos (by omega)])
         |(rw[dy (by omega)];rfl)
        exact qB rfl rfl rfl rfl ⟨by rw[iI,hr],rfl⟩
       ·refine bg (au (ak (aj rfl rfl (aj rfl rfl (aj rfl rfl (bQ rfl rfl rfl (by omega) (bQ rfl rfl rfl (by omega) (al rfl rfl (al rfl rfl (al rfl rfl (ae ?_)))))))))));refine aW ?_;have hr:nB bs 0 0=some (m+NJ.toNat%128*128^k,k+1):=by rw[←hg,nC (by simpa using C1),if_pos (by omega),if_neg (by omega)]
        exact qB rfl rfl rfl rfl ⟨by rw[iI,hr];simp;omega,rfl⟩
      ·refine aw rfl rfl rfl rfl (aw rfl rfl rfl rfl (aL rfl rfl rfl (ae (ir rfl (bg (au (ak (aj rfl rfl (aj rfl rfl (aj rfl rfl (bQ rfl rfl rfl (by omega) ?_)))))))))));refine bQ rfl rfl rfl (by omega) (al rfl rfl (al rfl rfl (al rfl rfl (ae (aW ?_)))));have hr:nB bs 0 0=some (m+NJ.toNat%128*128^k,k+1):=by rw[←hg,nC (by simpa using C1),if_pos (by omega),if_neg (by omega)]
       exact qB rfl rfl rfl rfl ⟨by rw[iI,hr];simp;omega,rfl⟩
     ·refine bg (ak (bQ rfl rfl rfl (by omega) (aj rfl rfl (ae ?_))));refine⟨rfl,(k+1,m+NJ.toNat%128*128^k),(.cons rfl (.cons rfl (.cons rfl (.cons rfl (.cons rfl .nil))))),?_,?_⟩
      ·refine⟨rfl,by simp only;omega,?_,?_⟩
       ·have:=Nat.mul_le_mul_right (128^k) (show NJ.toNat%128≤127 from by omega);simp only[Nat.pow_succ];omega
       ·rw[nC (by simpa using C1),if_neg (by omega)]at hg;exact hg
      ·simp only;omega
    ·refine cP (au (ak (al rfl rfl (al rfl rfl (al rfl rfl (ae (aW ?_)))))))
     have hr:nB bs 0 0=none:=by
      rw[←hg]
      first
      |(rw[nC (by simpa using C1),if_pos (by omega),if_pos (by omega)])
      |(rw[dy (by omega)];rfl)
     exact qB rfl rfl rfl rfl ⟨by rw[iI,hr],rfl⟩
theorem y6 {M:aU} {w0:World} {v u:Value} {b:List UInt8} {l:List Int} (hM:Lt M w0) (hv:(RT.u8.sl).V M w0 b v) (hu:((RT.int .i64).sl).V M w0 l u) (hb:b.length+9*(l.length+1)≤70368744177664):
  Spec Tryz.prog 174 #[v,u] w0 (fun v' w'=>∃M' x,Step M w0 M' w' aN∧v'= .tuple #[x,.int .i64 (if ec (-1) l then 0 else 1)]∧Own RT.u8 5 M' w' w0.heap.size x (if ec (-1) l then b++dY l else[])):=by
 have zk:=gp (n:=l.length) (by omega);refine bE (args:=[_,_]) (fn:=Tryz.f174) Tryz.func174 rfl (n:=31) Tryz.ntmps174 (au (ak (al rfl rfl (al rfl rfl (ae (au (ak (aj rfl rfl (aj rfl rfl (bF ay rfl hu rfl ?_))))))))));refine aS rfl rfl Qa (Bb (M:=M) hM hv (by omega) (by omega)) (fun ub wb LX=>?_);obtain⟨Mb,sb,tg⟩:=LX;refine al rfl rfl (ae (au (ak (al rfl rfl (ae (au (au (ak (aj rfl rfl (bF ay rfl hu rfl (aj rfl rfl ?_)))))))))));refine ae (bu ?_);refine de (σ:=Nat×Int×Value×List UInt8) (fun s=>[(0,s.2.2.1),(6,.int .i64 s.2.1),(13,u),(14,.int .i64 l.length),(15,.int .i64 s.1)]) (fun s w=>ec (-1) l=ec s.2.1 (l.drop s.1)∧(ec (-1) l=true→s.2.2.2++kO s.2.1 (l.drop s.1)=b++dY l)∧s.1≤l.length∧ -1≤s.2.1∧s.2.2.2.length≤b.length+9*(s.1+1)∧∃M1,Lt M1 w∧Step M w0 M1 w aN∧Own RT.u8 5 M1 w w0.heap.size s.2.2.1 s.2.2.2) (fun s=>l.length-s.1) (0,-1,_,b++put l.length) (.cons rfl (.cons rfl (.cons rfl (.cons rfl (.cons rfl .nil))))) ?_ ?_
 ·exact⟨rfl,fun _=>by simp[dY],bM _,by simp only;omega,by simp;omega,Mb,sb.lt hM,sb,tg⟩
 ·rintro⟨k,last,u0,acc⟩ w1 ⟨hr,lL,hk,NH,hal,M1,nL,s1,ho⟩;dsimp only at hr lL hk NH hal ho ⊢;refine au (ak (cu rfl rfl rfl (ae (au ?_))));refine bW rfl (fun c4=>?_) (fun c4=>?_)
  ·refine bg (au (bu (au (ak ?_))));obtain⟨x,hx⟩:∃x,l[k]? =some x:=⟨_,aI (by omega)⟩;have hxr:=Ap hu hx;refine bS (M:=M) ay I3 rfl rfl rfl (hu.le (s1.back).le) (ar _ _) (by omega) (fun WA Kr WB F8=>?_);obtain rfl:Kr=x:=aG (WB.symm.trans (by simpa using hx));refine bK (M:=M) aB rfl rfl F8 (ar _ _) (fun _=>?_);refine al rfl rfl (ae (au (au (ak (aj rfl rfl (aj rfl rfl (fo rfl rfl rfl (ae ?_))))))));refine bW rfl (fun c6=>?_) (fun c6=>?_)
   ·refine au (ak (al rfl rfl (al rfl rfl (ae (aW ?_)))));have hrf:ec (-1) l=false:=by rw[hr,eQ hx,decide_eq_false (by omega),eK]
    exact fw rfl rfl rfl ⟨M1,_,s1,by rw[hrf];rfl,by rw[hrf];exact dO _ _ _ _ _⟩
   ·refine bg (au (ak (aj rfl rfl (aj rfl rfl (aj rfl rfl (Rg.Uq rfl rfl rfl (Rg.Uq rfl rfl rfl ?_)))))));have hpx:=gp (n:=(Kr-last-1).toNat) (by omega);refine bO (v':= .int .i64 (((Kr-last-1).toNat:Nat):Int)) (by rw[IntKind.wrap_i64,IntKind.wrap_i64];congr 1;omega) ?_;have hfz:=s1.freeze (v:=u0) (fun b hb=>(ho.base b hb).1);refine aS rfl rfl Qa (Bb (M:=rm M1 u0) (nL.rm u0) (ho.view (by omega)) (by omega) (by omega)) (fun ub wb LX=>?_);obtain⟨Mb2,sb2,adS⟩:=LX;refine al rfl rfl (ae (ak (aj rfl rfl (al rfl rfl (ae (ak (bQ rfl rfl rfl (by omega) (aj rfl rfl (ae ?_)))))))));refine⟨rfl,(k+1,Kr,ub,acc++put (Kr-last-1).toNat),(.cons rfl (.cons rfl (.cons rfl (.cons rfl (.cons rfl .nil))))),?_,?_⟩
    ·refine⟨?_,fun h=>?_,by simp only;omega,by simp only;omega,by simp only[bP];omega,Mb2,sb2.lt (nL.rm u0),hfz.aE sb2,adS.lB s1.size⟩
     ·rw[hr,eQ hx,decide_eq_true (by omega),eP]
     ·rw[←lL h,tI hx];simp
    ·simp only;omega
  ·refine cP (au (ak (aj rfl rfl (al rfl rfl (al rfl rfl (ae (aW ?_)))))));have hrt:ec (-1) l=true:=by rw[hr,dy (by omega)];rfl
   have ha:=lL hrt;rw[dy (by omega),kO,iP]at ha;exact fw rfl rfl rfl ⟨M1,_,s1,by rw[hrt];rfl,by rw[hrt,←ha];exact ho⟩
theorem xF {M:aU} {w0:World} {v u:Value} {b:List UInt8} {l:List Int} (hM:Lt M w0) (hv:(RT.u8.sl).V M w0 b v) (hu:((RT.int .i64).sl).V M w0 l u) (hb:b.length+9*(l.length+1)≤70368744177664):
  Spec Tryz.prog 174 #[v,u] w0 (fun v' w'=>∃x,Step M w0 M w' aN∧v'= .tuple #[x,.int .i64 (if ec (-1) l then 0 else 1)]∧(RT.u8.sl).V M w' (if ec (-1) l then b++dY l else[]) x):=
 (y6 hM hv hu hb).mono fun _ _ ⟨_,x,s,h,ho⟩=>⟨x,s.back,h,fQ hM s ho (by
  split
  next hr=>
   have zk:=gp (n:=l.length) (by omega);have lK:∀x∈l,x≤9223372036854775807:=fun x hx=>by obtain⟨i,hi⟩:=cg.1 hx;exact(Ap hu hi).2
   have:=pz l (-1) (by decide) lK hr;simp only[dY,bP];omega
  next=>simp)⟩
theorem zP {M:aU} {w0:World} {be bb ba:Nat} {v:Value} {b:List UInt8} {at_:Int} (he:w0.heap[be]? =some (.cells #[.int .i64 0] 26 (0,0))) (hb:w0.heap[bb]? =some (.cells #[v] 147 (0,0))) (ha:w0.heap[ba]? =some (.cells #[.int .i64 at_] 3 (0,0))) (fE:be≠ba) (Rr:M be) (T3:M ba) (hv:(RT.u8.sl).V M w0 b v) (T2: -9223372036854775808≤at_∧at_≤9223372036854775807):
  Spec Tryz.prog 274 #[.pointer (some ⟨be,0,none⟩),.pointer (some ⟨bb,0,none⟩),.pointer (some ⟨ba,0,none⟩)] w0 (fun v' w'=>v'= .int .i64 (get b at_).1∧w'.heap[be]? =some (.cells #[.int .i64 (get b at_).2.2] 26 (0,0))∧w'.heap[ba]? =some (.cells #[.int .i64 (get b at_).2.1] 3 (0,0))∧Step M w0 M w' (fun k=>k=be∨k=ba)):=by
 refine bE (args:=[_,_,_]) (fn:=Tryz.f274) Tryz.func274 rfl (n:=15) Tryz.ntmps274 (au (ak (al rfl rfl (ae (au (au (ak (br uw rfl rfl rfl (by assumption) rfl (eC rfl rfl rfl (ae ?_))))))))));refine bW rfl (fun c1=>?_) (fun c1=>?_)
 ·exact absurd rfl c1
 ·refine bg (au (ak (al rfl rfl (ae (au (ak (br bz rfl rfl rfl (by assumption) rfl (br aB rfl rfl rfl (by assumption) rfl ?_))))))));refine aS rfl rfl U9 (C0 hv T2) (fun r w1 h1=>?_);obtain⟨rfl,rfl⟩:=h1;refine aj rfl rfl (b5 rfl rfl rfl (b5 rfl rfl rfl (b5 rfl rfl rfl (al rfl rfl ?_))));refine cw (M:=M) I3 rfl rfl ha rfl rfl T3 (fun w1 h1 s1=>?_);refine cw (M:=M) Z4 rfl rfl (s1.b9 he fE) rfl rfl Rr (fun w2 h2 s2=>?_);refine ae (au (ak (aj rfl rfl (al rfl rfl (ae (aW ?_))))));refine a8 rfl rfl ⟨rfl,h2,s2.b9 h1 (Ne.symm fE),?_⟩;exact(s1.cD (fun b hb=> .inr hb) (fun b hb=>by rcases hb with rfl|rfl<;>assumption)).trans s2 (fun b _ hb=> .inl hb)
theorem xG {M:aU} {w0:World} {v:Value} {b:List UInt8} {at_:Int} (hM:Lt M w0) (hv:(RT.u8.sl).V M w0 b v) (T2: -9223372036854775808≤at_∧at_≤9223372036854775807) (yZ:b.length≤1099511627776):
  Spec Tryz.prog 251 #[v,.int .i64 at_] w0 (fun v' w'=>∃x,v'= .tuple #[x,.int .i64 (gI b at_).2.2,.int .i64 (gI b at_).1]∧((RT.int .i64).sl).V M w' (gI b at_).2.1 x∧Step M w0 M w' aN):=by
 refine bE (args:=[_,_]) (fn:=Tryz.f251) Tryz.func251 rfl (n:=48) Tryz.ntmps251 (au (ak ?_));refine vr M rfl rfl (fun bb w1 OQ al8 hB s1=>?_);rw[fg hv]at hB;refine vr (ins M bb) rfl rfl (fun ba w2 hba al9 hA s2=>?_);refine al rfl rfl (al rfl rfl (al rfl rfl (ae (au (ak ?_)))));refine eu (ins (ins M bb) ba) Z4 rfl (fun be w3 hbe ama hE s3=>?_);refine cw (M:=ins (ins (ins M bb) ba) be) Z4 rfl rfl hE rfl rfl (.inl rfl) (fun w4 hE4 s4=>?_);have z1:=s1.size;have z2:=s2.size;have z3:=s3.size;have z4:=s4.size;have S4:Step M w0 (ins (ins (ins M bb) ba) be) w4 aN:=((s1.aE s2).aE s3).db s4 (fun k hk=>by subst hk;omega);have hB4:=s4.b9 (s3.aX (s2.aX hB)) (show bb≠be by omega);have hA4:=s4.b9 (s3.aX hA) (show ba≠be by omega);refine ae (au (ak (jv (xs:=[]) rfl rfl rfl (al rfl rfl (ae (au (ak (al rfl rfl (ae (au (ak ?_)))))))))));refine al rfl rfl (ae (au (au (ak (aj rfl rfl ?_)))));refine Rg.rM (first:=[]) (xs:=[]) rfl rfl rfl Va (zP (M:=ins (ins (ins M bb) ba) be) hE4 hB4 hA4 (by omega) (.inl rfl) (.inr (.inl rfl)) (hv.le S4.le) T2) (fun r w5 h5=>?_);obtain⟨rfl,hE5,hA5,s5⟩:=h5;have z5:=s5.size;have S5:=S4.db s5 (fun k hk=>by omega);have hB5:=s5.b9 hB4 (by omega);obtain⟨hn0,hn1,hn2,hn3⟩:=oe b at_;refine bO (v':= .int .i64 (((get b at_).1.toNat:Nat):Int)) (by rw[yD hn0]) (al rfl rfl (ae (bu ?_)));refine de (σ:=Nat×Int×Value×List Int×Int×Int) (fun s=>[(7,.pointer (some ⟨be,0,none⟩)),(3,.pointer (some ⟨ba,0,none⟩)),(8,.func (.func 274) [].toArray [.pointer (some ⟨be,0,none⟩),.pointer (some ⟨bb,0,none⟩),.pointer (some ⟨ba,0,none⟩)].toArray),(9,s.2.2.1),(10,.int .i64 s.2.1),(11,.int .i64 s.1)]) (fun s w=>(s.1:Int)≤9223372036854775807∧(s.2.2.2.2.1=0→gI b at_=andThen s.2.2.2.1 (iv b s.1 s.2.2.2.2.2 s.2.1))∧(s.2.2.2.2.1≠0→gI b at_=(s.2.2.2.2.1,[],0))∧(s.2.2.2.2.1=0→ -1≤s.2.1∧s.2.1≤4611686018427387904∧(s.2.2.2.1.length:Int)≤s.2.2.2.2.2∧s.2.2.2.2.2≤b.length)∧s.2.2.2.1.length≤b.length+1∧∃M1,Lt M1 w∧Step M w0 M1 w aN∧w4.heap.size≤w.heap.size∧M1 be∧M1 ba∧Own (RT.int .i64) 3 M1 w w4.heap.size s.2.2.1 s.2.2.2.1∧w.heap[be]? =some (.cells #[.int .i64 s.2.2.2.2.1] 26 (0,0))∧w.heap[ba]? =some (.cells #[.int .i64 s.2.2.2.2.2] 3 (0,0))∧w.heap[bb]? =some (.cells #[v] 147 (0,0))) (fun s=>s.1) ((get b at_).1.toNat,-1,_,[],(get b at_).2.2,(get b at_).2.1) (.cons rfl (.cons rfl (.cons rfl (.cons rfl (.cons rfl (.cons rfl .nil)))))) ?_ ?_
 ·refine⟨by have:=zp b at_;simp only;omega,fun h=>?_,fun h=>?_,fun h=>?_,by simp,_,S5.lt hM,S5,z5,.inl rfl,.inr (.inl rfl),dO _ _ _ _ _,hE5,hA5,hB5⟩
  ·unfold gI;rw[if_neg (by simpa using h)];exact(BZ _ (GL b _ _ _)).symm
  ·unfold gI;rw[if_pos h]
  ·have:=tH h;simp only[j4];omega
 ·rintro⟨many,last,u0,acc,e,a1⟩ wl ⟨hmb,L9,UQ,hok,hal,M1,nL,S,zl,Rr,T3,ho,hE,hA,hB⟩;dsimp only at hmb L9 UQ hok hal ho hE hA hB ⊢;refine au (au (ak (aj rfl rfl (hY rfl rfl rfl (aj rfl rfl ?_)))));refine aZ (g:=18) rfl (fun Qi=>?_) (fun Qi=>?_)
  ·refine aq rfl rfl (br uw rfl rfl rfl (by assumption) rfl (aq rfl rfl (iE rfl rfl rfl (aR rfl rfl rfl (ae ?_)))));refine bW rfl (fun c6=>?_) (fun c6=>?_)
   ·refine bg (au (bu (au (ak (aj rfl rfl ?_)))));refine Rg.rM (first:=[]) (xs:=[]) rfl rfl rfl Va (zP (M:=M1) (by rw[c6]at hE;exact hE) hB hA (by omega) Rr T3 (hv.le S.le) (by have:=hok c6;omega)) (fun r w6 h6=>?_);obtain⟨rfl,WC,WD,s6⟩:=h6;have z6:=s6.size;have S6:=S.db s6 (fun k hk=>by omega);have WE:=s6.b9 hB (by omega);have uJ:=ho.step s6 (fun k hk h=>by have:=(ho.base k hk).1;omega);have HY:=s6.lt nL;obtain⟨hn0,hn1,hn2,hn3⟩:=oe b a1;obtain⟨th,GA,hk3,hk4⟩:=hok c6;refine al rfl rfl (ae (au (au (ak (br uw rfl rfl rfl (by assumption) rfl (iE rfl rfl rfl (aj rfl rfl ?_)))))));refine aZ (g:=28) rfl (fun Bc=>?_) (fun Bc=>?_)
    ·refine aq rfl rfl (aj rfl rfl (aq rfl rfl (aj rfl rfl (aq rfl rfl (eJ rfl rfl rfl (by omega) (aq rfl rfl (eJ rfl rfl rfl (by omega) (aq rfl rfl (hY rfl rfl rfl (aR rfl rfl rfl (ae ?_)))))))))));refine bW rfl (fun c9=>?_) (fun c9=>?_)
     ·refine ak ?_;refine cw (M:=M1) Z4 rfl rfl WC rfl rfl Rr (fun w7 hE7 s7=>?_);have z7:=s7.size;replace S6:=S6.db s7 (fun k hk=>by subst hk;omega);replace WE:=s7.b9 WE (show bb≠be by omega);replace WD:=s7.b9 WD (show ba≠be by omega);replace uJ:=uJ.step s7 (fun k hk h=>by have:=(ho.base k hk).1;omega);replace HY:=s7.lt HY;replace WC:=hE7;refine ae (au (ak (aj rfl rfl (aj rfl rfl (Rg.An rfl rfl rfl (Rg.An rfl rfl rfl (al rfl rfl (ae (ak (aj rfl rfl (aj rfl rfl ?_)))))))))));refine ez (A:=RT.int .i64) (hn:=by decide) (M:=M1) ay I3 (by decide) rfl rfl HY (ie (rz _)) (.inr ⟨rfl,rfl⟩) (fun u w8 hu s8=>?_);refine cz (M:=M1) (base:=w4.heap.size) ay I3 rfl rfl rfl rfl (uJ.bC s8) hu (ar _ _) (by simp;omega) (by simp;omega) (by have:=s8.size;omega) (fun v9 M9 w9 WG s9=>?_);have z8:=s8.size;have z9:=s9.size;have jU:∀k,k<w4.heap.size→¬kb u0 k:=fun k hk h=>by have:=(ho.base k h).1;omega
      have Ks:=s9.b9 (s8.aX WC) (jU be (by omega));have WH:=s9.b9 (s8.aX WD) (jU ba (by omega));have WI:=s9.b9 (s8.aX WE) (jU bb (by omega));have S9:=(S6.aE s8).cJ s9 (uJ.bC s8) (by omega);have WK:=s9.lt (s8.lt HY);have Ku:M9 be:=(s9.mem be (by omega)).2 Rr;have Kv:M9 ba:=(s9.mem ba (by omega)).2 T3;refine al rfl rfl (ae (ak (aj rfl rfl (eJ rfl rfl rfl (by omega) (al rfl rfl (ae ?_))))));refine⟨rfl,(many-1,(IntKind.i64.wrap (last+IntKind.i64.wrap ((get b a1).1+1))),v9,acc++[(IntKind.i64.wrap (last+IntKind.i64.wrap ((get b a1).1+1)))],(if(get b a1).2.2=0∧4611686018427387904-last-1<(get b a1).1 then 2 else(get b a1).2.2),(get b a1).2.1),(.cons rfl (.cons rfl (.cons rfl (.cons rfl (.cons rfl (.cons (show some (Value.int .i64 ((many:Int)-1))=some (Value.int .i64 ((many-1:Nat):Int))from by congr 2;omega) .nil)))))),?_,?_⟩
      ·have hx:(get b a1).2.2=0→¬4611686018427387904-last-1<(get b a1).1→(IntKind.i64.wrap (last+IntKind.i64.wrap ((get b a1).1+1)))=last+1+(get b a1).1:=fun h1 h2=>by rw[ka ((get b a1).1+1) (by omega),ka _ (by omega)];omega
       have TH:many=(many-1)+1:=by omega
       have xH:=L9 c6;rw[TH]at xH;refine⟨by simp only;omega,fun h=>?_,fun h=>?_,fun h=>?_,by have:=hok c6;simp only[bP,cK,j4];omega,M9,WK,S9,by omega,Ku,Kv,WG,?_,WH,WI⟩
       ·dsimp only at h ⊢;have h3:(get b a1).2.2=0∧¬4611686018427387904-last-1<(get b a1).1:=by split at h<;>omega
        rw[xH,od acc h3.1 h3.2,hx h3.1 h3.2]
       ·dsimp only at h ⊢;rw[xH]
        split
        ·rename_i h4;rw[tJ h4.1 h4.2];rfl
        ·rename_i h4
         have h5:(get b a1).2.2≠0:=by intro h6;rw[if_neg h4]at h;exact h h6
         rw[rh h5];unfold andThen;rw[if_pos h5]
       ·dsimp only at h ⊢;have h3:(get b a1).2.2=0∧¬4611686018427387904-last-1<(get b a1).1:=by split at h<;>omega
        have:=tH h3.1;rw[hx h3.1 h3.2];simp only[bP,cK,j4];omega
       ·dsimp only
        first
        |(rw[if_pos ⟨Bc,c9⟩];exact Ks)
        |(rw[if_neg (fun h=>c9 h.2)];exact Ks)
        |(rw[if_neg (fun h=>Bc h.1)];exact Ks)
      ·simp only;omega
     ·refine bg (au (ak (aj rfl rfl (aj rfl rfl (Rg.An rfl rfl rfl (Rg.An rfl rfl rfl (al rfl rfl (ae (ak (aj rfl rfl (aj rfl rfl ?_)))))))))));refine ez (A:=RT.int .i64) (hn:=by decide) (M:=M1) ay I3 (by decide) rfl rfl HY (ie (rz _)) (.inr ⟨rfl,rfl⟩) (fun u w8 hu s8=>?_);refine cz (M:=M1) (base:=w4.heap.size) ay I3 rfl rfl rfl rfl (uJ.bC s8) hu (ar _ _) (by simp;omega) (by simp;omega) (by have:=s8.size;omega) (fun v9 M9 w9 WG s9=>?_);have z8:=s8.size;have z9:=s9.size;have jU:∀k,k<w4.heap.size→¬kb u0 k:=fun k hk h=>by have:=(ho.base k h).1;omega
      have Ks:=s9.b9 (s8.aX WC) (jU be (by omega));have WH:=s9.b9 (s8.aX WD) (jU ba (by omega));have WI:=s9.b9 (s8.aX WE) (jU bb (by omega));have S9:=(S6.aE s8).cJ s9 (uJ.bC s8) (by omega);have WK:=s9.lt (s8.lt HY);have Ku:M9 be:=(s9.mem be (by omega)).2 Rr;have Kv:M9 ba:=(s9.mem ba (by omega)).2 T3;refine al rfl rfl (ae (ak (aj rfl rfl (eJ rfl rfl rfl (by omega) (al rfl rfl (ae ?_))))));refine⟨rfl,(many-1,(IntKind.i64.wrap (last+IntKind.i64.wrap ((get b a1).1+1))),v9,acc++[(IntKind.i64.wrap (last+IntKind.i64.wrap ((get b a1).1+1)))],(if(get b a1).2.2=0∧4611686018427387904-last-1<(get b a1).1 then 2 else(get b a1).2.2),(get b a1).2.1),(.cons rfl (.cons rfl (.cons rfl (.cons rfl (.cons rfl (.cons (show some (Value.int .i64 ((many:Int)-1))=some (Value.int .i64 ((many-1:Nat):Int))from by congr 2;omega) .nil)))))),?_,?_⟩
      ·have hx:(get b a1).2.2=0→¬4611686018427387904-last-1<(get b a1).1→(IntKind.i64.wrap (last+IntKind.i64.wrap ((get b a1).1+1)))=last+1+(get b a1).1:=fun h1 h2=>by rw[ka ((get b a1).1+1) (by omega),ka _ (by omega)];omega
       have TH:many=(many-1)+1:=by omega
       have xH:=L9 c6;rw[TH]at xH;refine⟨by simp only;omega,fun h=>?_,fun h=>?_,fun h=>?_,by have:=hok c6;simp only[bP,cK,j4];omega,M9,WK,S9,by omega,Ku,Kv,WG,?_,WH,WI⟩
       ·dsimp only at h ⊢;have h3:(get b a1).2.2=0∧¬4611686018427387904-last-1<(get b a1).1:=by split at h<;>omega
        rw[xH,od acc h3.1 h3.2,hx h3.1 h3.2]
       ·dsimp only at h ⊢;rw[xH]
        split
        ·rename_i h4;rw[tJ h4.1 h4.2];rfl
        ·rename_i h4
         have h5:(get b a1).2.2≠0:=by intro h6;rw[if_neg h4]at h;exact h h6
         rw[rh h5];unfold andThen;rw[if_pos h5]
       ·dsimp only at h ⊢;have h3:(get b a1).2.2=0∧¬4611686018427387904-last-1<(get b a1).1:=by split at h<;>omega
        have:=tH h3.1;rw[hx h3.1 h3.2];simp only[bP,cK,j4];omega
       ·dsimp only
        first
        |(rw[if_pos ⟨Bc,c9⟩];exact Ks)
        |(rw[if_neg (fun h=>c9 h.2)];exact Ks)
        |(rw[if_neg (fun h=>Bc h.1)];exact Ks)
      ·simp only;omega
    ·refine aw rfl rfl rfl rfl (aw rfl rfl rfl rfl (aw rfl rfl rfl rfl (aw rfl rfl rfl rfl (aw rfl rfl rfl rfl (aL rfl rfl rfl (ae (ir rfl (bg (au (ak (aj rfl rfl ?_)))))))))));refine aj rfl rfl (Rg.An rfl rfl rfl (Rg.An rfl rfl rfl (al rfl rfl (ae (ak (aj rfl rfl (aj rfl rfl ?_)))))));refine ez (A:=RT.int .i64) (hn:=by decide) (M:=M1) ay I3 (by decide) rfl rfl HY (ie (rz _)) (.inr ⟨rfl,rfl⟩) (fun u w8 hu s8=>?_);refine cz (M:=M1) (base:=w4.heap.size) ay I3 rfl rfl rfl rfl (uJ.bC s8) hu (ar _ _) (by simp;omega) (by simp;omega) (by have:=s8.size;omega) (fun v9 M9 w9 WG s9=>?_);have z8:=s8.size;have z9:=s9.size;have jU:∀k,k<w4.heap.size→¬kb u0 k:=fun k hk h=>by have:=(ho.base k h).1;omega
     have Ks:=s9.b9 (s8.aX WC) (jU be (by omega));have WH:=s9.b9 (s8.aX WD) (jU ba (by omega));have WI:=s9.b9 (s8.aX WE) (jU bb (by omega));have S9:=(S6.aE s8).cJ s9 (uJ.bC s8) (by omega);have WK:=s9.lt (s8.lt HY);have Ku:M9 be:=(s9.mem be (by omega)).2 Rr;have Kv:M9 ba:=(s9.mem ba (by omega)).2 T3;refine al rfl rfl (ae (ak (aj rfl rfl (eJ rfl rfl rfl (by omega) (al rfl rfl (ae ?_))))));refine⟨rfl,(many-1,(IntKind.i64.wrap (last+IntKind.i64.wrap ((get b a1).1+1))),v9,acc++[(IntKind.i64.wrap (last+IntKind.i64.wrap ((get b a1).1+1)))],(if(get b a1).2.2=0∧4611686018427387904-last-1<(get b a1).1 then 2 else(get b a1).2.2),(get b a1).2.1),(.cons rfl (.cons rfl (.cons rfl (.cons rfl (.cons rfl (.cons (show some (Value.int .i64 ((many:Int)-1))=some (Value.int .i64 ((many-1:Nat):Int))from by congr 2;omega) .nil)))))),?_,?_⟩
     ·have hx:(get b a1).2.2=0→¬4611686018427387904-last-1<(get b a1).1→(IntKind.i64.wrap (last+IntKind.i64.wrap ((get b a1).1+1)))=last+1+(get b a1).1:=fun h1 h2=>by rw[ka ((get b a1).1+1) (by omega),ka _ (by omega)];omega
      have TH:many=(many-1)+1:=by omega
      have xH:=L9 c6;rw[TH]at xH;refine⟨by simp only;omega,fun h=>?_,fun h=>?_,fun h=>?_,by have:=hok c6;simp only[bP,cK,j4];omega,M9,WK,S9,by omega,Ku,Kv,WG,?_,WH,WI⟩
      ·dsimp only at h ⊢;have h3:(get b a1).2.2=0∧¬4611686018427387904-last-1<(get b a1).1:=by split at h<;>omega
       rw[xH,od acc h3.1 h3.2,hx h3.1 h3.2]
      ·dsimp only at h ⊢;rw[xH]
       split
       ·rename_i h4;rw[tJ h4.1 h4.2];rfl
       ·rename_i h4
        have h5:(get b a1).2.2≠0:=by intro h6;rw[if_neg h4]at h;exact h h6
        rw[rh h5];unfold andThen;rw[if_pos h5]
      ·dsimp only at h ⊢;have h3:(get b a1).2.2=0∧¬4611686018427387904-last-1<(get b a1).1:=by split at h<;>omega
       have:=tH h3.1;rw[hx h3.1 h3.2];simp only[bP,cK,j4];omega
      ·dsimp only
       first
       |(rw[if_pos ⟨Bc,c9⟩];exact Ks)
       |(rw[if_neg (fun h=>c9 h.2)];exact Ks)
       |(rw[if_neg (fun h=>Bc h.1)];exact Ks)
     ·simp only;omega
   ·refine cP (au (au (ak (br uw rfl rfl rfl (by assumption) rfl (eC rfl rfl rfl (ae ?_))))));refine bW rfl (fun Nd=>?_) (fun Nd=>?_)
    ·refine au ?_;apply kz mixed rfl rfl;intro Rk Kj;have qz:=Kj M1;refine br uw rfl rfl rfl (by first|assumption|exact cI qz (by assumption)) rfl ?_;refine ae ⟨rfl,rfl,rfl,?_⟩;refine al rfl rfl ?_;refine ae ⟨rfl,rfl,rfl,?_⟩;refine al rfl rfl ?_;refine ae ⟨rfl,rfl,rfl,?_⟩;refine al rfl rfl ?_;refine ae ⟨rfl,rfl,rfl,?_⟩;refine dv (aW ?_);have hr:=UQ Nd;exact qB rfl rfl rfl rfl ⟨_,by rw[hr]<;>rfl,by rw[hr];exact jD,(S.aE qz).back⟩
    ·refine bg (au ?_);apply kz mixed rfl rfl;intro Rs Kw;have pb:=Kw M1;refine aj rfl rfl ?_;refine ae ⟨rfl,rfl,rfl,?_⟩;refine br aB rfl rfl rfl (by first|assumption|exact cI pb (by assumption)) rfl ?_;refine ae ⟨rfl,rfl,rfl,?_⟩;refine al rfl rfl ?_;refine ae ⟨rfl,rfl,rfl,?_⟩;refine al rfl rfl ?_;refine ae ⟨rfl,rfl,rfl,?_⟩;refine al rfl rfl ?_;refine ae ⟨rfl,rfl,rfl,?_⟩;refine dv (aW ?_);have hz:many=0:=by omega
     have hr:=L9 (by omega);rw[hz,wI]at hr;simp only[andThen,ne_eq,not_true_eq_false,if_false,iP]at hr;have WL:=S.aE pb;refine qB rfl rfl rfl rfl ⟨_,by rw[hr]<;>rfl,?_,WL.back⟩;rw[hr];exact fQ hM WL ((ho.bC pb).lB (by omega)) (by simp only;omega)
  ·refine aw rfl rfl rfl rfl (aw rfl rfl rfl rfl (aL rfl rfl rfl (ae (ir rfl (cP (au (au (ak (br uw rfl rfl rfl (by assumption) rfl (eC rfl rfl rfl (ae ?_)))))))))));refine bW rfl (fun Nd=>?_) (fun Nd=>?_)
   ·refine au ?_;apply kz mixed rfl rfl;intro Rk Kj;have qz:=Kj M1;refine br uw rfl rfl rfl (by first|assumption|exact cI qz (by assumption)) rfl ?_;refine ae ⟨rfl,rfl,rfl,?_⟩;refine al rfl rfl ?_;refine ae ⟨rfl,rfl,rfl,?_⟩;refine al rfl rfl ?_;refine ae ⟨rfl,rfl,rfl,?_⟩;refine al rfl rfl ?_;refine ae ⟨rfl,rfl,rfl,?_⟩;refine dv (aW ?_);have hr:=UQ Nd;exact qB rfl rfl rfl rfl ⟨_,by rw[hr]<;>rfl,by rw[hr];exact jD,(S.aE qz).back⟩
   ·refine bg (au ?_);apply kz mixed rfl rfl;intro Rs Kw;have pb:=Kw M1;refine aj rfl rfl ?_;refine ae ⟨rfl,rfl,rfl,?_⟩;refine br aB rfl rfl rfl (by first|assumption|exact cI pb (by assumption)) rfl ?_;refine ae ⟨rfl,rfl,rfl,?_⟩;refine al rfl rfl ?_;refine ae ⟨rfl,rfl,rfl,?_⟩;refine al rfl rfl ?_;refine ae ⟨rfl,rfl,rfl,?_⟩;refine al rfl rfl ?_;refine ae ⟨rfl,rfl,rfl,?_⟩;refine dv (aW ?_);have hz:many=0:=by omega
    have hr:=L9 (by omega);rw[hz,wI]at hr;simp only[andThen,ne_eq,not_true_eq_false,if_false,iP]at hr;have WL:=S.aE pb;refine qB rfl rfl rfl rfl ⟨_,by rw[hr]<;>rfl,?_,WL.back⟩;rw[hr];exact fQ hM WL ((ho.bC pb).lB (by omega)) (by simp only;omega)
end Go.K
namespace Go.K
open Go.Proofs
set_option maxRecDepth 10000
theorem ue {M:aU} {w0:World} {v u:Value} {a b:List Int} (hM:Lt M w0) (hv:((RT.int .i64).sl).V M w0 a v) (hu:((RT.int .i64).sl).V M w0 b u):
  Spec Tryz.prog 51 #[v,u] w0 (fun v' w'=>v'= .bool (decide (a=b))∧Step M w0 M w' aN):=by
 have Ou:=dr hv;have hlb:=dr hu;refine bE (args:=[_,_]) (fn:=Tryz.f51) Tryz.func51 rfl (n:=26) Tryz.ntmps51 (au (ak (al rfl rfl (ae (au (au (ak (aj rfl rfl (bF ay rfl hv rfl (aj rfl rfl (bF ay rfl hu rfl ?_)))))))))));refine eC rfl rfl rfl (ae ?_);refine bW rfl (fun c1=>?_) (fun c1=>?_)
 ·refine au (ak (al rfl rfl (ae (aW ?_))));refine a8 rfl rfl ⟨?_,ah _ _⟩;rw[decide_eq_false];rintro rfl;exact c1 rfl
 ·obtain hlen:a.length=b.length:=by omega
  refine bg (au (au (ak (al rfl rfl (ae (bu ?_))))));refine de (σ:=Nat) (fun s=>[(0,v),(1,u),(5,.int .i64 s)]) (fun s w=>s≤a.length∧a.take s=b.take s∧Step M w0 M w aN) (fun s=>a.length-s) 0 (.cons rfl (.cons rfl (.cons rfl .nil))) ?_ ?_
  ·exact⟨bM _,by simp,ah _ _⟩
  ·rintro k w1 ⟨hk,heq,s1⟩;refine au (au (ak (aj rfl rfl (aj rfl rfl (bF ay rfl hv rfl (cu rfl rfl rfl (ae ?_)))))));refine bW rfl (fun c4=>?_) (fun c4=>?_)
   ·refine bg (au (bu (au ?_)));obtain⟨x,hx⟩:∃x,a[k]? =some x:=⟨_,aI (by omega)⟩;obtain⟨y,hy⟩:∃y,b[k]? =some y:=⟨_,aI (by omega)⟩;apply kA (M:=M) mixed [aV.eq _,aV.eq _,aV.ptr (RT.int .i64) x,aV.eq _,aV.eq _,aV.eq _,aV.ptr (RT.int .i64) y,aV.eq _,aV.eq _]
    ·rfl
    ·refine an ?_ ?_
     ·intro wD E sD;refine aj rfl rfl ?_;exact ae ⟨rfl,rfl,_,rfl,rfl,ah _ _⟩
     refine an ?_ ?_
     ·intro wD E sD;refine aj rfl rfl ?_;exact ae ⟨rfl,rfl,_,rfl,rfl,ah _ _⟩
     refine an ?_ ?_
     ·intro wD E sD;refine ao (ao ?_);refine bS (M:=M) ay I3 rfl rfl rfl hv (by repeat (first|exact ar _ _|refine aT (bh (by assumption)) ?_)) (by omega) (fun MX adV WM sG=>?_);obtain rfl:adV=x:=aG (WM.symm.trans (by simpa using hx));exact ae ⟨rfl,rfl,_,rfl,sG,ah _ _⟩
     refine an ?_ ?_
     ·intro wD E sD;intro v2 kB;refine bK (M:=M) aB rfl rfl (by assumption) (by repeat (first|exact ar _ _|refine aT (bh (by assumption)) ?_)) (fun WN=>?_);exact ae ⟨rfl,rfl,_,rfl,rfl,ah _ _⟩
     refine an ?_ ?_
     ·intro wD E sD;refine aj rfl rfl ?_;exact ae ⟨rfl,rfl,_,rfl,rfl,ah _ _⟩
     refine an ?_ ?_
     ·intro wD E sD;refine aj rfl rfl ?_;exact ae ⟨rfl,rfl,_,rfl,rfl,ah _ _⟩
     refine an ?_ ?_
     ·intro wD E sD;refine ao (ao ?_);refine bS (M:=M) ay I3 rfl rfl rfl hu (by repeat (first|exact ar _ _|refine aT (bh (by assumption)) ?_)) (by omega) (fun amh adW WO WQ=>?_);obtain rfl:adW=y:=aG (WO.symm.trans (by simpa using hy));exact ae ⟨rfl,rfl,_,rfl,WQ,ah _ _⟩
     refine an ?_ ?_
     ·intro wD E sD;intro v6 nS;refine bK (M:=M) aB rfl rfl (by assumption) (by repeat (first|exact ar _ _|refine aT (bh (by assumption)) ?_)) (fun ail=>?_);exact ae ⟨rfl,rfl,_,rfl,rfl,ah _ _⟩
     refine an ?_ ?_
     ·intro wD E sD;refine ao (ao (eC rfl rfl rfl ?_));exact ae ⟨rfl,rfl,_,rfl,rfl,ah _ _⟩
     exact fC
    ·intro WR rJ;refine ao (ao ?_);intro adX WS;refine ao (ao (ao ?_));intro ami aim;refine ao (ao ?_);refine bW rfl (fun c6=>?_) (fun c6=>?_)
     ·refine au (ak (al rfl rfl (ae (aW ?_))));refine a8 rfl rfl ⟨?_,s1.aE rJ⟩;rw[decide_eq_false];rintro rfl;rw[hx]at hy;cases hy;exact c6 rfl
     ·refine bg (ak (aj rfl rfl (bQ rfl rfl rfl (by omega) (al rfl rfl (ae ?_)))));refine⟨rfl,k+1,(.cons rfl (.cons rfl (.cons rfl .nil))),?_,?_⟩
      ·exact⟨by omega,by rw[dS (by omega),dS (by omega),heq];obtain⟨_,h1⟩:=aF.1 hx;obtain⟨_,h2⟩:=aF.1 hy;rw[h1,h2,cy.1 c6],s1.aE rJ⟩
      ·show a.length-(k+1)<a.length-k;omega
   ·refine cP (au (ak (al rfl rfl (ae (aW ?_)))));refine a8 rfl rfl ⟨?_,s1⟩;rw[decide_eq_true]
    rwa [bm (by omega),bm (by omega)]at heq
theorem C2 {M:aU} {w0:World} {n:Nat} (hM:Lt M w0) (hn:n≤9223372036854775807):
  Spec Tryz.prog 138 #[.int .i64 n] w0 (fun v' w'=>∃M',Step M w0 M' w' aN∧Own RT.u8 5 M' w' w0.heap.size v' (put n)):=by
 have h9:=gp hn;refine bE (args:=[_]) (fn:=Tryz.f138) Tryz.func138 rfl (n:=20) Tryz.ntmps138 (au (ak (al rfl rfl (ae (au (ak (al rfl rfl (ae (au (bu ?_))))))))));refine de (σ:=Nat×Value×List UInt8) (fun s=>[(3,s.2.1),(0,.int .i64 s.1)]) (fun s w=>s.2.2++put s.1=put n∧s.1≤n∧∃M1,Lt M1 w∧Step M w0 M1 w aN∧Own RT.u8 5 M1 w w0.heap.size s.2.1 s.2.2) (fun s=>s.1) (n,_,[]) (.cons rfl (.cons rfl .nil)) ?_ ?_
 ·exact⟨rfl,bw _,M,hM,ah _ _,dO _ _ _ _ _⟩
 ·rintro⟨k,u0,acc⟩ w1 ⟨lL,T1,M1,nL,s1,ho⟩;dsimp only at lL T1 ho ⊢;have hlen:=congrArg List.length lL;have BK:=vN k;simp only[bP]at hlen;refine au (au (ak (aj rfl rfl (dI rfl rfl rfl (ae ?_)))));refine bW rfl (fun c2=>?_) (fun c2=>?_)
  ·refine bg (bu (au (ak (aj rfl rfl (aj rfl rfl (Rg.DN rfl rfl rfl (by omega) (bQ rfl rfl rfl (by omega) (qU aB cN rfl rfl (bO (congrArg (Value.int .u8) (show IntKind.u8.wrap (128+(k:Int)%128)=((UInt8.ofNat (128+k%128)).toNat:Int)from by rw[show(128+(k:Int)%128)=((128+k%128:Nat):Int)from by omega];exact ry _)) ?_)))))))));refine ez (A:=RT.u8) (hn:=by decide) (M:=M1) bz I5 (by decide) rfl rfl nL (H4.2 rfl) (.inr ⟨rfl,rfl⟩) (fun u w2 hu s2=>?_);refine cz (M:=M1) (base:=w0.heap.size) bz I5 rfl rfl rfl rfl (ho.bC s2) hu (ar _ _) (by simp;omega) (by simp;omega) (dJ s1.size s2.size) (fun v3 M3 w3 ud s3=>?_);refine al rfl rfl (ae (ak (aj rfl rfl (Rg.BL rfl rfl rfl (by omega) (al rfl rfl (ae ?_))))));refine⟨rfl,(k/128,v3,acc++[UInt8.ofNat (128+k%128)]),(.cons rfl (.cons rfl .nil)),?_,?_⟩
   ·exact⟨by rw[←lL,AB (n:=k) (by omega)];simp,by simp only;omega,M3,s3.lt (s2.lt nL),(s1.aE s2).cJ s3 (ho.bC s2) (bw _),ud⟩
   ·show k/128<k;omega
  ·refine cP (au (ak (aj rfl rfl (aj rfl rfl (qU aB cN rfl rfl (bO (congrArg _ (ry _)) ?_))))));refine ez (A:=RT.u8) (hn:=by decide) (M:=M1) bz I5 (by decide) rfl rfl nL (H4.2 rfl) (.inr ⟨rfl,rfl⟩) (fun u w2 hu s2=>?_);refine cz (M:=M1) (base:=w0.heap.size) bz I5 rfl rfl rfl rfl (ho.bC s2) hu (ar _ _) (by simp;omega) (by simp;omega) (dJ s1.size s2.size) (fun v3 M3 w3 ud s3=>?_);refine al rfl rfl (ae (aW ?_));refine a8 rfl rfl ⟨M3,(s1.aE s2).cJ s3 (ho.bC s2) (bw _),?_⟩;rw[←lL,tG (n:=k) (by omega)];exact ud
theorem qo {M:aU} {w0:World} {n:Nat} (hM:Lt M w0) (hn:n≤9223372036854775807):Spec Tryz.prog 138 #[.int .i64 n] w0 (fun v' w'=>Step M w0 M w' aN∧(RT.u8.sl).V M w' (put n) v'):=
 (C2 hM hn).mono fun _ _ ⟨_,s,ho⟩=>⟨s.back,fQ hM s ho (by have:=gp hn;omega)⟩
theorem xI {M:aU} {w0:World} {v:Value} {l:List Int} (hM:Lt M w0) (hv:((RT.int .i64).sl).V M w0 l v):
  Spec Tryz.prog 98 #[v] w0 (fun v' w'=>v'= .bool (ec (-1) l)∧Step M w0 M w' aN):=by
 have hlen:=dr hv;refine bE (args:=[_]) (fn:=Tryz.f98) Tryz.func98 rfl (n:=31) Tryz.ntmps98 (au (ak (al rfl rfl (ae (au (au (ak (al rfl rfl (ae (bu ?_))))))))));refine de (σ:=Nat×Int) (fun s=>[(0,v),(3,.int .i64 s.1)]) (fun s w=>Step M w0 M w aN∧s.1≤l.length∧ec (-1) l=ec s.2 (l.drop s.1)∧ -1≤s.2∧(s.1=0→s.2= -1)∧(0<s.1→l[s.1-1]? =some s.2)) (fun s=>l.length-s.1) (0,-1) (.cons rfl (.cons rfl .nil)) ?_ ?_
 ·exact⟨ah _ _,bM _,rfl,by decide,fun _=>rfl,fun h=>absurd h (by decide)⟩
 ·rintro⟨k,last⟩ w1 ⟨s1,hk,hr,hl,h0,h1⟩;dsimp only at hk hr hl h0 h1 ⊢;refine au (au (ak (aj rfl rfl (aj rfl rfl ?_))))
  first|refine bF ay rfl (by assumption) rfl ?_|refine gy ay rfl (by assumption) rfl ?_
  refine cu rfl rfl rfl (ae ?_);refine bW rfl (fun c2=>?_) (fun c2=>?_)
  ·refine bg (au (bu (au ?_)));obtain⟨x,hx⟩:∃x,l[k]? =some x:=⟨_,aI (by omega)⟩;by_cases Eh:x<0
   ·apply kA (M:=M) mixed [aV.eq _,aV.eq _,aV.ptr (RT.int .i64) x,aV.eq _,aV.eq _,aV.eq (.bool true),aV.eq undef,aV.eq undef,aV.eq undef,aV.eq undef,aV.eq undef,aV.eq undef,aV.eq undef,aV.eq undef,aV.eq undef,aV.eq undef,aV.eq undef,aV.eq undef,aV.eq undef,aV.eq undef,aV.eq _]
    ·rfl
    ·refine an ?_ ?_
     ·intro wD E sD;refine aj rfl rfl ?_;exact ae ⟨rfl,rfl,_,rfl,rfl,ah _ _⟩
     refine an ?_ ?_
     ·intro wD E sD;refine aj rfl rfl ?_;exact ae ⟨rfl,rfl,_,rfl,rfl,ah _ _⟩
     refine an ?_ ?_
     ·intro wD E sD;refine ao (ao ?_);refine bS (M:=M) ay I3 rfl rfl rfl (by assumption) (by repeat (first|exact ar _ _|refine aT (bh (by assumption)) ?_)) (by omega) (fun D4 EJ xJ jO=>?_);obtain rfl:EJ=x:=aG (xJ.symm.trans (by simpa using hx));exact ae ⟨rfl,rfl,_,rfl,jO,ah _ _⟩
     refine an ?_ ?_
     ·intro wD E sD;intro v2 kB;refine bK (M:=M) aB rfl rfl (by assumption) (by repeat (first|exact ar _ _|refine aT (bh (by assumption)) ?_)) (fun O3=>?_);exact ae ⟨rfl,rfl,_,rfl,rfl,ah _ _⟩
     refine an ?_ ?_
     ·intro wD E sD;refine ao (cu rfl rfl rfl ?_);exact ae ⟨rfl,rfl,_,rfl,rfl,ah _ _⟩
     refine an ?_ ?_
     ·intro wD E sD;refine ao (aj rfl rfl ?_);refine ae ⟨rfl,rfl,_,rfl,?_,ah _ _⟩;exact congrArg Value.bool (decide_eq_true Eh)
     refine an ?_ ?_
     ·intro wD E sD;refine ao ?_;exact aw rfl rfl rfl rfl (ae ⟨rfl,rfl,_,rfl,rfl,ah _ _⟩)
     refine an ?_ ?_
     ·intro wD E sD;refine ao (ao ?_);exact aw rfl rfl rfl rfl (ae ⟨rfl,rfl,_,rfl,rfl,ah _ _⟩)
     refine an ?_ ?_
     ·intro wD E sD;refine ao (ao (ao ?_));exact aw rfl rfl rfl rfl (ae ⟨rfl,rfl,_,rfl,rfl,ah _ _⟩)
     refine an ?_ ?_
     ·intro wD E sD;refine ao ?_;exact ca rfl rfl rfl (ae ⟨rfl,rfl,_,rfl,rfl,ah _ _⟩)
     refine an ?_ ?_
     ·intro wD E sD;refine ao ?_;exact ca rfl rfl rfl (ae ⟨rfl,rfl,_,rfl,rfl,ah _ _⟩)
     refine an ?_ ?_
     ·intro wD E sD;refine ao (ao (ao ?_));exact ca rfl rfl rfl (ae ⟨rfl,rfl,_,rfl,rfl,ah _ _⟩)
     refine an ?_ ?_
     ·intro wD E sD;refine ao (ao ?_);exact ca rfl rfl rfl (ae ⟨rfl,rfl,_,rfl,rfl,ah _ _⟩)
     refine an ?_ ?_
     ·intro wD E sD;refine ao ?_;exact ca rfl rfl rfl (ae ⟨rfl,rfl,_,rfl,rfl,ah _ _⟩)
     refine an ?_ ?_
     ·intro wD E sD;refine ao ?_;exact ca rfl rfl rfl (ae ⟨rfl,rfl,_,rfl,rfl,ah _ _⟩)
     refine an ?_ ?_
     ·intro wD E sD;refine ao (ao ?_);exact ca rfl rfl rfl (ae ⟨rfl,rfl,_,rfl,rfl,ah _ _⟩)
     refine an ?_ ?_
     ·intro wD E sD;refine ao (ao (ao ?_));exact ca rfl rfl rfl (ae ⟨rfl,rfl,_,rfl,rfl,ah _ _⟩)
     refine an ?_ ?_
     ·intro wD E sD;refine ao (ao ?_);exact ca rfl rfl rfl (ae ⟨rfl,rfl,_,rfl,rfl,ah _ _⟩)
     refine an ?_ ?_
     ·intro wD E sD;refine ao (ao (ao ?_));exact ca rfl rfl rfl (ae ⟨rfl,rfl,_,rfl,rfl,ah _ _⟩)
     refine an ?_ ?_
     ·intro wD E sD;refine ao (ao (ao ?_));exact aw rfl rfl rfl rfl (ae ⟨rfl,rfl,_,rfl,rfl,ah _ _⟩)
     refine an ?_ ?_
     ·intro wD E sD;refine ao (ao (aR rfl rfl rfl ?_));exact ae ⟨rfl,rfl,_,rfl,rfl,ah _ _⟩
     exact fC
    ·intro HX lE;refine ao (ao ?_);intro QL FQ;refine ao (ao (ao (ao (ao (ao (ao (ao (ao (ao (ao (ao ?_)))))))))));refine ao (ao (ao (ao (ao (ao (gz rfl (au (ak (al rfl rfl (ae (aW ?_)))))))))));refine a8 rfl rfl ⟨?_,s1.aE lE⟩;rw[hr,eQ hx,decide_eq_false (by omega)];rfl
   ·by_cases WT:(0:Int)<k
    ·obtain⟨y,hy⟩:∃y,y=last:=⟨_,rfl⟩;have IA:=h1 (by omega);rw[←hy]at IA;apply kA (M:=M) mixed [aV.eq _,aV.eq _,aV.ptr (RT.int .i64) x,aV.eq _,aV.eq _,aV.eq (.bool false),aV.eq _,aV.eq _,aV.eq (.bool true),aV.eq _,aV.eq _,aV.ptr (RT.int .i64) x,aV.eq _,aV.eq _,aV.eq _,aV.eq _,aV.ptr (RT.int .i64) y,aV.eq _,aV.eq _,aV.eq _,aV.eq _]
     ·rfl
     ·refine an ?_ ?_
      ·intro wD E sD;refine aj rfl rfl ?_;exact ae ⟨rfl,rfl,_,rfl,rfl,ah _ _⟩
      refine an ?_ ?_
      ·intro wD E sD;refine aj rfl rfl ?_;exact ae ⟨rfl,rfl,_,rfl,rfl,ah _ _⟩
      refine an ?_ ?_
      ·intro wD E sD;refine ao (ao ?_);refine bS (M:=M) ay I3 rfl rfl rfl (by assumption) (by repeat (first|exact ar _ _|refine aT (bh (by assumption)) ?_)) (by omega) (fun D4 EJ xJ jO=>?_);obtain rfl:EJ=x:=aG (xJ.symm.trans (by simpa using hx));exact ae ⟨rfl,rfl,_,rfl,jO,ah _ _⟩
      refine an ?_ ?_
      ·intro wD E sD;intro v2 kB;refine bK (M:=M) aB rfl rfl (by assumption) (by repeat (first|exact ar _ _|refine aT (bh (by assumption)) ?_)) (fun O3=>?_);exact ae ⟨rfl,rfl,_,rfl,rfl,ah _ _⟩
      refine an ?_ ?_
      ·intro wD E sD;refine ao (cu rfl rfl rfl ?_);exact ae ⟨rfl,rfl,_,rfl,rfl,ah _ _⟩
      refine an ?_ ?_
      ·intro wD E sD;refine ao (aj rfl rfl ?_);refine ae ⟨rfl,rfl,_,rfl,?_,ah _ _⟩;exact congrArg Value.bool (decide_eq_false Eh)
      refine an ?_ ?_
      ·intro wD E sD;refine ao (aq rfl rfl (aj rfl rfl ?_));exact ae ⟨rfl,rfl,_,rfl,rfl,ah _ _⟩
      refine an ?_ ?_
      ·intro wD E sD;refine ao (ao (aq rfl rfl (hY rfl rfl rfl ?_)));exact ae ⟨rfl,rfl,_,rfl,rfl,ah _ _⟩
      refine an ?_ ?_
      ·intro wD E sD;refine ao (ao (ao (aq rfl rfl (aj rfl rfl ?_))));refine ae ⟨rfl,rfl,_,rfl,?_,ah _ _⟩;exact congrArg Value.bool (decide_eq_true WT)
      refine an ?_ ?_
      ·intro wD E sD;refine ao (aq rfl rfl (aj rfl rfl ?_));exact ae ⟨rfl,rfl,_,rfl,rfl,ah _ _⟩
      refine an ?_ ?_
      ·intro wD E sD;refine ao (aq rfl rfl (aj rfl rfl ?_));exact ae ⟨rfl,rfl,_,rfl,rfl,ah _ _⟩
      refine an ?_ ?_
      ·intro wD E sD;refine ao (ao (ao (aq rfl rfl ?_)));refine bS (M:=M) ay I3 rfl rfl rfl (by assumption) (by repeat (first|exact ar _ _|refine aT (bh (by assumption)) ?_)) (by omega) (fun ain WU Rt Ru=>?_);obtain rfl:WU=x:=aG (Rt.symm.trans (by simpa using hx));exact ae ⟨rfl,rfl,_,rfl,Ru,ah _ _⟩
      refine an ?_ ?_
      ·intro wD E sD;intro v11 sH;refine ao (aq rfl rfl ?_);refine bK (M:=M) aB rfl rfl (by assumption) (by repeat (first|exact ar _ _|refine aT (bh (by assumption)) ?_)) (fun adY=>?_);exact ae ⟨rfl,rfl,_,rfl,rfl,ah _ _⟩
      refine an ?_ ?_
      ·intro wD E sD;refine ao (aq rfl rfl (aj rfl rfl ?_));exact ae ⟨rfl,rfl,_,rfl,rfl,ah _ _⟩
      refine an ?_ ?_
      ·intro wD E sD;refine ao (aq rfl rfl (aj rfl rfl ?_));exact ae ⟨rfl,rfl,_,rfl,rfl,ah _ _⟩
      refine an ?_ ?_
      ·intro wD E sD;refine ao (ao (aq rfl rfl (eJ rfl rfl rfl (by omega) ?_)));exact ae ⟨rfl,rfl,_,rfl,rfl,ah _ _⟩
      refine an ?_ ?_
      ·intro wD E sD;refine ao (ao (ao (aq rfl rfl ?_)));refine bS (M:=M) ay I3 rfl rfl rfl (by assumption) (by repeat (first|exact ar _ _|refine aT (bh (by assumption)) ?_)) (by omega) (fun aio WV Rv Rw=>?_);obtain rfl:WV=y:=aG (Rv.symm.trans (by rw[show((k:Int)-1).toNat=k-1 from by omega];exact IA));exact ae ⟨rfl,rfl,_,rfl,Rw,ah _ _⟩
      refine an ?_ ?_
      ·intro wD E sD;intro v16 Rx;refine ao (aq rfl rfl ?_);refine bK (M:=M) aB rfl rfl (by assumption) (by repeat (first|exact ar _ _|refine aT (bh (by assumption)) ?_)) (fun ad0=>?_);exact ae ⟨rfl,rfl,_,rfl,rfl,ah _ _⟩
      refine an ?_ ?_
      ·intro wD E sD;refine ao (ao (ao (aq rfl rfl (fo rfl rfl rfl ?_))));exact ae ⟨rfl,rfl,_,rfl,rfl,ah _ _⟩
      refine an ?_ ?_
      ·intro wD E sD;refine ao (ao (ao (aq rfl rfl (aR rfl rfl rfl ?_))));exact ae ⟨rfl,rfl,_,rfl,rfl,ah _ _⟩
      refine an ?_ ?_
      ·intro wD E sD;refine ao (ao (aL rfl rfl rfl ?_));exact ae ⟨rfl,rfl,_,rfl,rfl,ah _ _⟩
      exact fC
     ·intro HX lE;refine ao (ao ?_);intro QL FQ;refine ao (ao (ao (ao (ao (ao (ao (ao ?_)))))));intro aip ad1;refine ao (ao (ao (ao ?_)));intro aiq ad2;refine ao (ao (ao (ao ?_)));refine bW rfl (fun c4=>?_) (fun c4=>?_)
      ·refine au (ak (al rfl rfl (ae (aW ?_))));refine a8 rfl rfl ⟨?_,s1.aE lE⟩;rw[hr,eQ hx,decide_eq_false (by omega)];rfl
      ·refine bg (ak (aj rfl rfl (bQ rfl rfl rfl (by omega) (al rfl rfl (ae ?_)))));refine⟨rfl,(k+1,x),(.cons rfl (.cons rfl .nil)),?_,?_⟩
       ·refine⟨s1.aE lE,by have:=(aF.1 hx).1;simp only;omega,?_,?_,fun h=>by simp at h,fun _=>by simpa using hx⟩
        ·rw[hr,eQ hx,decide_eq_true (by omega),eP]
        ·simp only;omega
       ·have:=(aF.1 hx).1;simp only;omega
    ·have h0':=h0 (by omega);apply kA (M:=M) mixed [aV.eq _,aV.eq _,aV.ptr (RT.int .i64) x,aV.eq _,aV.eq _,aV.eq (.bool false),aV.eq _,aV.eq _,aV.eq (.bool false),aV.eq undef,aV.eq undef,aV.eq undef,aV.eq undef,aV.eq undef,aV.eq undef,aV.eq undef,aV.eq undef,aV.eq undef,aV.eq undef,aV.eq _,aV.eq _]
     ·rfl
     ·refine an ?_ ?_
      ·intro wD E sD;refine aj rfl rfl ?_;exact ae ⟨rfl,rfl,_,rfl,rfl,ah _ _⟩
      refine an ?_ ?_
      ·intro wD E sD;refine aj rfl rfl ?_;exact ae ⟨rfl,rfl,_,rfl,rfl,ah _ _⟩
      refine an ?_ ?_
      ·intro wD E sD;refine ao (ao ?_);refine bS (M:=M) ay I3 rfl rfl rfl (by assumption) (by repeat (first|exact ar _ _|refine aT (bh (by assumption)) ?_)) (by omega) (fun D4 EJ xJ jO=>?_);obtain rfl:EJ=x:=aG (xJ.symm.trans (by simpa using hx));exact ae ⟨rfl,rfl,_,rfl,jO,ah _ _⟩
      refine an ?_ ?_
      ·intro wD E sD;intro v2 kB;refine bK (M:=M) aB rfl rfl (by assumption) (by repeat (first|exact ar _ _|refine aT (bh (by assumption)) ?_)) (fun O3=>?_);exact ae ⟨rfl,rfl,_,rfl,rfl,ah _ _⟩
      refine an ?_ ?_
      ·intro wD E sD;refine ao (cu rfl rfl rfl ?_);exact ae ⟨rfl,rfl,_,rfl,rfl,ah _ _⟩
      refine an ?_ ?_
      ·intro wD E sD;refine ao (aj rfl rfl ?_);refine ae ⟨rfl,rfl,_,rfl,?_,ah _ _⟩;exact congrArg Value.bool (decide_eq_false Eh)
      refine an ?_ ?_
      ·intro wD E sD;refine ao (aq rfl rfl (aj rfl rfl ?_));exact ae ⟨rfl,rfl,_,rfl,rfl,ah _ _⟩
      refine an ?_ ?_
      ·intro wD E sD;refine ao (ao (aq rfl rfl (hY rfl rfl rfl ?_)));exact ae ⟨rfl,rfl,_,rfl,rfl,ah _ _⟩
      refine an ?_ ?_
      ·intro wD E sD;refine ao (ao (ao (aq rfl rfl (aj rfl rfl ?_))));refine ae ⟨rfl,rfl,_,rfl,?_,ah _ _⟩;exact congrArg Value.bool (decide_eq_false WT)
      refine an ?_ ?_
      ·intro wD E sD;refine ao ?_;exact aw rfl rfl rfl rfl (ae ⟨rfl,rfl,_,rfl,rfl,ah _ _⟩)
      refine an ?_ ?_
      ·intro wD E sD;refine ao ?_;exact aw rfl rfl rfl rfl (ae ⟨rfl,rfl,_,rfl,rfl,ah _ _⟩)
      refine an ?_ ?_
      ·intro wD E sD;refine ao (ao (ao ?_));exact aw rfl rfl rfl rfl (ae ⟨rfl,rfl,_,rfl,rfl,ah _ _⟩)
      refine an ?_ ?_
      ·intro wD E sD;refine ao (ao ?_);exact aw rfl rfl rfl rfl (ae ⟨rfl,rfl,_,rfl,rfl,ah _ _⟩)
      refine an ?_ ?_
      ·intro wD E sD;refine ao ?_;exact aw rfl rfl rfl rfl (ae ⟨rfl,rfl,_,rfl,rfl,ah _ _⟩)
      refine an ?_ ?_
      ·intro wD E sD;refine ao ?_;exact aw rfl rfl rfl rfl (ae ⟨rfl,rfl,_,rfl,rfl,ah _ _⟩)
      refine an ?_ ?_
      ·intro wD E sD;refine ao (ao ?_);exact aw rfl rfl rfl rfl (ae ⟨rfl,rfl,_,rfl,rfl,ah _ _⟩)
      refine an ?_ ?_
      ·intro wD E sD;refine ao (ao (ao ?_));exact aw rfl rfl rfl rfl (ae ⟨rfl,rfl,_,rfl,rfl,ah _ _⟩)
      refine an ?_ ?_
      ·intro wD E sD;refine ao (ao ?_);exact aw rfl rfl rfl rfl (ae ⟨rfl,rfl,_,rfl,rfl,ah _ _⟩)
      refine an ?_ ?_
      ·intro wD E sD;refine ao (ao (ao ?_));exact aw rfl rfl rfl rfl (ae ⟨rfl,rfl,_,rfl,rfl,ah _ _⟩)
      refine an ?_ ?_
      ·intro wD E sD;refine ao (ao (ao (aq rfl rfl (aL rfl rfl rfl ?_))));exact ae ⟨rfl,rfl,_,rfl,rfl,ah _ _⟩
      refine an ?_ ?_
      ·intro wD E sD;refine ao (ao (aL rfl rfl rfl ?_));exact ae ⟨rfl,rfl,_,rfl,rfl,ah _ _⟩
      exact fC
     ·intro HX lE;refine ao (ao ?_);intro QL FQ;refine ao (ao (ao (ao (ao (ao (ao (ao (ao (ao (ao (ao ?_)))))))))));refine ao (ao (ao (ao (ao (ao (ir rfl (bg (ak (aj rfl rfl (bQ rfl rfl rfl (by omega) (al rfl rfl ?_)))))))))));refine ae ?_;refine⟨rfl,(k+1,x),(.cons rfl (.cons rfl .nil)),?_,?_⟩
      ·refine⟨s1.aE lE,by have:=(aF.1 hx).1;simp only;omega,?_,?_,fun h=>by simp at h,fun _=>by simpa using hx⟩
       ·rw[hr,eQ hx,decide_eq_true (by omega),eP]
       ·simp only;omega
      ·have:=(aF.1 hx).1;simp only;omega
  ·refine cP (au (ak (al rfl rfl (ae (aW ?_)))));refine a8 rfl rfl ⟨?_,s1⟩;rw[hr,dy (by omega)];rfl
theorem oX {M:aU} {w0:World} {v:Value} {l:List Int} (hM:Lt M w0) (hv:((RT.int .i64).sl).V M w0 l v) (hr0:ec (-1) l=true) (Gz:l.length≤1099511627776):
  Spec Tryz.prog 139 #[v] w0 (fun v' w'=>Step M w0 M w' aN∧(RT.u8.sl).V M w' (dY l) v'):=by
 have zk:=gp (n:=l.length) (by omega);have lK:∀x∈l,x≤9223372036854775807:=fun x hx=>by obtain⟨i,hi⟩:=cg.1 hx;exact(Ap hv hi).2
 have amj:(dY l).length≤9+9*l.length:=by have:=pz l (-1) (by decide) lK hr0;simp only[dY,bP];omega
 refine bE (args:=[_]) (fn:=Tryz.f139) Tryz.func139 rfl (n:=37) Tryz.ntmps139 (au (ak (al rfl rfl (ae (au (ak (aj rfl rfl ?_)))))))
 first|refine bF ay rfl (by assumption) rfl ?_|refine gy ay rfl (by assumption) rfl ?_
 refine aS rfl rfl IM (C2 (M:=M) hM (by omega)) (fun ub wb hb=>?_);obtain⟨Mb,sb,tg⟩:=hb;refine al rfl rfl (ae (au (au (ak (al rfl rfl (ae (bu ?_)))))));refine de (σ:=Nat×Int×Value×List UInt8) (fun s=>[(0,v),(3,s.2.2.1),(4,.int .i64 s.1)]) (fun s w=>s.2.2.2++kO s.2.1 (l.drop s.1)=dY l∧s.1≤l.length∧ec s.2.1 (l.drop s.1)=true∧ -1≤s.2.1∧(s.1=0→s.2.1= -1)∧(0<s.1→l[s.1-1]? =some s.2.1)∧(0<s.1→0≤s.2.1)∧∃M1,Lt M1 w∧Step M w0 M1 w aN∧Own RT.u8 5 M1 w w0.heap.size s.2.2.1 s.2.2.2) (fun s=>l.length-s.1) (0,-1,_,put l.length) (.cons rfl (.cons rfl (.cons rfl .nil))) ?_ ?_
 ·exact⟨rfl,bM _,hr0,by simp only;omega,fun _=>rfl,fun h=>absurd h (jr 0),fun h=>absurd h (jr 0),Mb,sb.lt hM,sb,tg⟩
 ·rintro⟨k,last,u0,acc⟩ w1 ⟨lL,hk,hrs,NH,h0,h1,h2p,M1,nL,s1,ho⟩;dsimp only at lL hk hrs NH h0 h1 h2p ho ⊢;refine au (au (ak (aj rfl rfl (aj rfl rfl ?_))))
  first|refine bF ay rfl (by assumption) rfl ?_|refine gy ay rfl (by assumption) rfl ?_
  refine cu rfl rfl rfl (ae ?_);refine bW rfl (fun c3=>?_) (fun c3=>?_)
  ·refine bg (au (bu (au (ak (aj rfl rfl (aj rfl rfl ?_))))));obtain⟨x,hx⟩:∃x,l[k]? =some x:=⟨_,aI (by omega)⟩;have hxr:=Ap hv hx;obtain⟨hlx,hrx⟩:=AD hx hrs;refine bS (M:=M) ay I3 rfl rfl rfl (hv.le (s1.back).le) (ar _ _) (by omega) (fun Ry rA Kx pZ=>?_);obtain rfl:rA=x:=aG (Kx.symm.trans (by simpa using hx));refine bK (M:=M) aB rfl rfl pZ (ar _ _) (fun _=>?_);refine al rfl rfl (ae (au (au (ak (aj rfl rfl (hY rfl rfl rfl (ae ?_)))))));refine bW rfl (fun c6=>?_) (fun c6=>?_)
   ·apply kA (M:=M1) mixed [aV.eq _,aV.eq _,aV.ptr (RT.int .i64) rA,aV.eq _,aV.eq _,aV.eq _,aV.eq _,aV.ptr (RT.int .i64) last,aV.eq _,aV.eq _,aV.eq _,aV.eq _]
    ·rfl
    ·refine an ?_ ?_
     ·intro wD E sD;refine aj rfl rfl ?_;exact ae ⟨rfl,rfl,_,rfl,rfl,ah _ _⟩
     refine an ?_ ?_
     ·intro wD E sD;refine aj rfl rfl ?_;exact ae ⟨rfl,rfl,_,rfl,rfl,ah _ _⟩
     refine an ?_ ?_
     ·intro wD E sD;refine ao (ao ?_);refine bS (M:=M1) ay I3 rfl rfl rfl (by assumption) (by repeat (first|exact ar _ _|refine aT (bh (by assumption)) ?_)) (by omega) (fun Q7 ad3 WW oV=>?_);obtain rfl:ad3=rA:=aG (WW.symm.trans (by simpa using hx));exact ae ⟨rfl,rfl,_,rfl,oV,ah _ _⟩
     refine an ?_ ?_
     ·intro wD E sD;intro v2 kB;refine bK (M:=M1) aB rfl rfl (by assumption) (by repeat (first|exact ar _ _|refine aT (bh (by assumption)) ?_)) (fun aiu=>?_);exact ae ⟨rfl,rfl,_,rfl,rfl,ah _ _⟩
     refine an ?_ ?_
     ·intro wD E sD;refine aj rfl rfl ?_;exact ae ⟨rfl,rfl,_,rfl,rfl,ah _ _⟩
     refine an ?_ ?_
     ·intro wD E sD;refine aj rfl rfl ?_;exact ae ⟨rfl,rfl,_,rfl,rfl,ah _ _⟩
     refine an ?_ ?_
     ·intro wD E sD;refine ao (eJ rfl rfl rfl (by omega) ?_);exact ae ⟨rfl,rfl,_,rfl,rfl,ah _ _⟩
     refine an ?_ ?_
     ·intro wD E sD;refine ao (ao ?_);refine bS (M:=M1) ay I3 rfl rfl rfl (by assumption) (by repeat (first|exact ar _ _|refine aT (bh (by assumption)) ?_)) (by omega) (fun aml ad4 WX WY=>?_);obtain rfl:ad4=last:=aG (WX.symm.trans (by rw[show((k:Int)-1).toNat=k-1 from by omega];exact h1 (by omega)));exact ae ⟨rfl,rfl,_,rfl,WY,ah _ _⟩
     refine an ?_ ?_
     ·intro wD E sD;intro v7 qH;refine bK (M:=M1) aB rfl rfl (by assumption) (by repeat (first|exact ar _ _|refine aT (bh (by assumption)) ?_)) (fun aiv=>?_);exact ae ⟨rfl,rfl,_,rfl,rfl,ah _ _⟩
     refine an ?_ ?_
     ·intro wD E sD;refine ao (ao (eJ rfl rfl rfl (by omega) ?_));exact ae ⟨rfl,rfl,_,rfl,rfl,ah _ _⟩
     refine an ?_ ?_
     ·intro wD E sD;refine ao (eJ rfl rfl rfl (by omega) ?_);exact ae ⟨rfl,rfl,_,rfl,rfl,ah _ _⟩
     refine an ?_ ?_
     ·intro wD E sD;refine ao (ao (ao ?_));intro v2 kB;refine ao (ao (ao (ao ?_)));intro v7 qH;refine ao (ao (ao (al rfl rfl ?_)));exact ae ⟨rfl,rfl,_,rfl,rfl,ah _ _⟩
     exact fC
    ·intro T4 zQ;refine ao (ao ?_);intro WZ O4;refine ao (ao (ao (ao ?_)));intro W0 O5;refine ao (ao (ao (ao ?_)));replace ho:=ho.bC zQ;replace nL:=zQ.lt nL;replace s1:=s1.aE zQ;refine ak (aj rfl rfl (aj rfl rfl (bO (v':= .int .i64 (((rA-last-1).toNat:Nat):Int)) (by congr 1;omega) ?_)));have hpx:=gp (n:=(rA-last-1).toNat) (by omega);have hpp:=vN (rA-last-1).toNat;have Rz:=tI hx last;have nu:=congrArg List.length lL;rw[Rz]at nu;simp only[bP]at nu;refine aS rfl rfl IM (qo (M:=M1) nL (by omega)) (fun u w2 h2=>?_);obtain⟨s2,hu⟩:=h2;refine cz (M:=M1) (base:=w0.heap.size) bz I5 rfl rfl rfl rfl (ho.bC s2) hu (ar _ _) (by omega) (by omega) (dJ s1.size s2.size) (fun v3 M3 w3 ud s3=>?_);refine al rfl rfl (ae (ak (aj rfl rfl (bQ rfl rfl rfl (by omega) (al rfl rfl (ae ?_))))));refine⟨rfl,(k+1,rA,v3,acc++put (rA-last-1).toNat),(.cons rfl (.cons rfl (.cons rfl .nil))),?_,?_⟩
     ·refine⟨?_,by simp only;omega,hrx,by simp only;omega,fun h=>by simp at h,fun _=>by simpa using hx,fun _=>by simp only;omega,M3,s3.lt (s2.lt nL),(s1.aE s2).cJ s3 (ho.bC s2) (bw _),ud⟩;rw[←lL,Rz,fm]
     ·simp only;omega
   ·refine bg (ak (aj rfl rfl (aj rfl rfl (bO (v':= .int .i64 (((rA-last-1).toNat:Nat):Int)) (by congr 1;omega) ?_))));have hpx:=gp (n:=(rA-last-1).toNat) (by omega);have hpp:=vN (rA-last-1).toNat;have Rz:=tI hx last;have nu:=congrArg List.length lL;rw[Rz]at nu;simp only[bP]at nu;refine aS rfl rfl IM (qo (M:=M1) nL (by omega)) (fun u w2 h2=>?_);obtain⟨s2,hu⟩:=h2;refine cz (M:=M1) (base:=w0.heap.size) bz I5 rfl rfl rfl rfl (ho.bC s2) hu (ar _ _) (by omega) (by omega) (dJ s1.size s2.size) (fun v3 M3 w3 ud s3=>?_);refine al rfl rfl (ae (ak (aj rfl rfl (bQ rfl rfl rfl (by omega) (al rfl rfl (ae ?_))))));refine⟨rfl,(k+1,rA,v3,acc++put (rA-last-1).toNat),(.cons rfl (.cons rfl (.cons rfl .nil))),?_,?_⟩
    ·refine⟨?_,by simp only;omega,hrx,by simp only;omega,fun h=>by simp at h,fun _=>by simpa using hx,fun _=>by simp only;omega,M3,s3.lt (s2.lt nL),(s1.aE s2).cJ s3 (ho.bC s2) (bw _),ud⟩;rw[←lL,Rz,fm]
    ·simp only;omega
  ·refine cP (au (ak (aj rfl rfl (al rfl rfl (ae (aW ?_))))));refine a8 rfl rfl ⟨s1.back,?_⟩;rw[←lL,dy (by omega),kO,iP];rw[dy (by omega),kO,iP]at lL;exact fQ hM s1 ho (by rw[lL];omega)
end Go.K
namespace Go.K
open Go.Proofs
set_option maxRecDepth 10000
theorem F9 {M:aU} {w0:World} {v:Value} {x:Li} (hv:bL RT.li M w0 v x) {k:Int}:
  Spec Tryz.prog 214 #[v,.int .i64 k] w0 (fun v' w'=>v'= .bool (HR x.2.1.length k)∧w0=w'):=by
 refine bE (args:=[_,_]) (fn:=Tryz.f214) Tryz.func214 rfl (n:=16) Tryz.ntmps214 (au (ak (al rfl rfl (ae (au (ak (aj rfl rfl (dI rfl rfl rfl (aj rfl rfl ?_)))))))));refine aZ (g:=7) rfl (fun iR=>?_) (fun iR=>?_)
 ·refine aq rfl rfl (aj rfl rfl (aq rfl rfl (aj rfl rfl (aq rfl rfl (bJ rfl (vK (by assumption)) rfl (aq rfl rfl ?_))))));refine aA (M:=M) (A:=RT.li) (B:=(RT.bl).sl) dz rfl rfl AI (by decide) (TP) rfl rfl (by decide) (by assumption) (by repeat (first|exact ar _ _|refine aT (bh (by assumption)) ?_)) (fun amn aiw=>?_);refine aq rfl rfl ?_;refine aY (M:=M) dq rfl rfl rfl rfl rfl (by assumption) (by repeat (first|exact ar _ _|refine aT (bh (by assumption)) ?_)) (fun RA Ky=>?_);refine aq rfl rfl ?_
  first|refine bF dq rfl (by assumption) rfl ?_|refine gy dq rfl (by assumption) rfl ?_
  refine aq rfl rfl (cu rfl rfl rfl (aR rfl rfl rfl (al rfl rfl (ae (aW ?_)))))
  first
  |exact a8 rfl rfl ⟨congrArg Value.bool (decide_eq_decide.2 (by omega)),rfl⟩
  |exact a8 rfl rfl ⟨congrArg Value.bool (bY (decide_eq_false (by omega))),rfl⟩
 ·refine aw rfl rfl rfl rfl (aw rfl rfl rfl rfl (aw rfl rfl rfl rfl (aw rfl rfl rfl rfl (aw rfl rfl rfl rfl (aw rfl rfl rfl rfl (aw rfl rfl rfl rfl (aL rfl rfl rfl (al rfl rfl (ae (aW ?_))))))))))
  first
  |exact a8 rfl rfl ⟨congrArg Value.bool (decide_eq_decide.2 (by omega)),rfl⟩
  |exact a8 rfl rfl ⟨congrArg Value.bool (bY (decide_eq_false (by omega))),rfl⟩
theorem mS {M:aU} {w0:World} {v:Value} {x:Li} (hv:bL RT.li M w0 v x):
  Spec Tryz.prog 183 #[v] w0 (fun v' w'=>v'= .int .i64 x.2.1.length∧w0=w'):=by
 refine bE (args:=[_]) (fn:=Tryz.f183) Tryz.func183 rfl (n:=8) Tryz.ntmps183 (au (ak (al rfl rfl (ae (au (ak (aj rfl rfl (bJ rfl (vK (by assumption)) rfl ?_))))))));refine aA (M:=M) (A:=RT.li) (B:=(RT.bl).sl) dz rfl rfl AI (by decide) (TP) rfl rfl (by decide) (by assumption) (by repeat (first|exact ar _ _|refine aT (bh (by assumption)) ?_)) (fun CP mQ=>?_);refine aY (M:=M) dq rfl rfl rfl rfl rfl (by assumption) (by repeat (first|exact ar _ _|refine aT (bh (by assumption)) ?_)) (fun JW xB=>?_)
 first|refine bF dq rfl (by assumption) rfl ?_|refine gy dq rfl (by assumption) rfl ?_
 refine al rfl rfl (ae (aW ?_));exact a8 rfl rfl ⟨rfl,rfl⟩
theorem Ht {M:aU} {w0:World} {v:Value} {x:Li} (hv:bL RT.li M w0 v x) {k:Int}:
  Spec Tryz.prog 184 #[v,.int .i64 k] w0 (fun v' w'=>v'= .int .i64 (B0 x.2.1 k)∧w0=w'):=by
 refine bE (args:=[_,_]) (fn:=Tryz.f184) Tryz.func184 rfl (n:=17) Tryz.ntmps184 (au (ak (al rfl rfl (ae (au (au (ak (aj rfl rfl (aj rfl rfl ?_)))))))));refine aS rfl rfl U4 (F9 hv (k:=k)) (fun r w1 h1=>?_);obtain⟨rfl,rfl⟩:=h1;refine fP rfl rfl (bO (v':= .bool (decide (¬(0≤k∧k<x.2.1.length)))) (by unfold HR;rw[decide_not]) (ae ?_));refine bW rfl (fun c1=>?_) (fun c1=>?_)
 ·refine au (ak (al rfl rfl (ae (aW ?_))));exact a8 rfl rfl ⟨by unfold B0 HR;rw[if_neg (by simpa using c1)],rfl⟩
 ·refine bg (au (ak (aj rfl rfl (bJ rfl (vK (by assumption)) rfl ?_))));refine aA (M:=M) (A:=RT.li) (B:=(RT.bl).sl) dz rfl rfl AI (by decide) (TP) rfl rfl (by decide) (by assumption) (by repeat (first|exact ar _ _|refine aT (bh (by assumption)) ?_)) (fun Ni xr=>?_);refine aY (M:=M) dq rfl rfl rfl rfl rfl (by assumption) (by repeat (first|exact ar _ _|refine aT (bh (by assumption)) ?_)) (fun RB Kz=>?_);refine aj rfl rfl ?_;obtain⟨b,hb⟩:∃b,x.2.1[k.toNat]? =some b:=⟨_,aI (by omega)⟩;refine bS (M:=M) dq tM rfl rfl rfl (by assumption) (ar _ _) (by omega) (fun ad5 RC KA W2=>?_);obtain rfl:RC=b:=aG (KA.symm.trans hb);refine aA (M:=M) (A:=RT.bl) (B:=RT.int .i64) iz rfl rfl I3 (by decide) (bl2) rfl rfl (by decide) (by assumption) (by repeat (first|exact ar _ _|refine aT (bh (by assumption)) ?_)) (fun amo aix=>?_);refine bK (M:=M) aB rfl rfl (by assumption) (by repeat (first|exact ar _ _|refine aT (bh (by assumption)) ?_)) (fun aiy=>?_);refine al rfl rfl (ae (aW ?_));exact a8 rfl rfl ⟨by unfold B0 HR;rw[if_pos (by simpa using c1),dN,hb];rfl,rfl⟩
theorem KB {M:aU} {w0:World} {v:Value} {x:Li} (hv:bL RT.li M w0 v x) (hM:Lt M w0) (hm:∀b∈x.2.1,0≤b.2.2.2∧b.2.2.2≤8):
  Spec Tryz.prog 75 #[v] w0 (fun v' w'=>v'= .int .i64 (ri x.2.1)∧Step M w0 M w' aN):=by
 refine bE (args:=[_]) (fn:=Tryz.f75) Tryz.func75 rfl (n:=21) Tryz.ntmps75 (au (ak (al rfl rfl (ae (au (ak (al rfl rfl (ae (au (au (ak ?_)))))))))));refine aj rfl rfl (bJ rfl (vK (by assumption)) rfl ?_);refine aA (M:=M) (A:=RT.li) (B:=(RT.bl).sl) dz rfl rfl AI (by decide) (TP) rfl rfl (by decide) (by assumption) (by repeat (first|exact ar _ _|refine aT (bh (by assumption)) ?_)) (fun KC hG=>?_);refine aY (M:=M) dq rfl rfl rfl rfl rfl (by assumption) (ar _ _) (fun vb L8=>?_);have yZ:=dr L8
 first|refine bF dq rfl (by assumption) rfl ?_|refine gy dq rfl (by assumption) rfl ?_
 refine aj rfl rfl (ae (bu ?_));refine de (σ:=Nat) (fun s=>[(3,.int .i64 (ri (x.2.1.take s))),(9,vb),(10,.int .i64 x.2.1.length),(11,.int .i64 s)]) (fun s w=>s≤x.2.1.length∧Step M w0 M w aN) (fun s=>x.2.1.length-s) 0 (.cons rfl (.cons rfl (.cons rfl (.cons rfl .nil)))) ?_ ?_
 ·exact⟨bM _,ah _ _⟩
 ·rintro k w1 ⟨hk,S⟩;have hMw:=S.lt hM;refine au (ak (cu rfl rfl rfl (ae (au ?_))));refine bW rfl (fun c3=>?_) (fun c3=>?_)
  ·refine bg (au (bu (au (ak ?_))));obtain⟨b,hb⟩:∃b,x.2.1[k]? =some b:=⟨_,aI (by omega)⟩;have hbm:=hm b (aQ hb);have qu:=ME (x.2.1.take k) fun c hc=>hm c (mX hc)
   rw[bU,Nat.min_eq_left hk]at qu;refine bS (M:=M) dq tM rfl rfl rfl (L8.le S.le) (ar _ _) (by omega) (fun M8 RD KD Cl=>?_);obtain rfl:RD=b:=aG (KD.symm.trans (by simpa using hb));refine cc (M:=M) (A:=RT.bl) iz rfl tM (by decide) rfl rfl rfl (by assumption) (by repeat (first|exact ar _ _|refine aT (bh (by assumption)) ?_)) (fun Na FO=>?_);refine mG (A:=RT.bl) (M:=M) tM rfl rfl rfl rfl rfl (by assumption) (by repeat (first|exact ar _ _|refine aT (bh (by assumption)) ?_)) (by first|assumption|exact Step.lt (by assumption) (by assumption)|exact Step.lt (by assumption) (Step.lt (by assumption) (by assumption))) (fun D4 Qf jO qy Wv=>?_);refine ae (ak (aj rfl rfl ?_));refine aA (M:=M) (A:=RT.bl) (B:=RT.int .i64) iz rfl rfl I3 (by decide) (bl3) rfl rfl (by decide) (by assumption) (by repeat (first|exact ar _ _|refine aT (bh (by assumption)) ?_)) (fun VL Jj=>?_);refine bK (M:=M) aB rfl rfl (by assumption) (by repeat (first|exact ar _ _|refine aT (bh (by assumption)) ?_)) (fun O1=>?_);refine bQ rfl rfl rfl (by omega) (al rfl rfl (ae (ak (bQ rfl rfl rfl (by omega) (aj rfl rfl (ae ?_))))));refine⟨rfl,k+1,(.cons (by rw[GM hb];rfl) (.cons rfl (.cons rfl (.cons rfl .nil)))),?_,?_⟩
   ·exact⟨by omega,S.aE qy⟩
   ·show _-(k+1)<_-k;omega
  ·refine cP (au (ak (aj rfl rfl (al rfl rfl (ae (aW ?_))))));refine a8 rfl rfl ⟨?_,S⟩;rw[bm (by omega)]
theorem C3 {M:aU} {w0:World} {v:Value} {b:List UInt8} (hM:Lt M w0) (hv:(RT.u8.sl).V M w0 b v):
  Spec Tryz.prog 187 #[v] w0 (fun v' w'=>(RT.u8.sl).V M w' b v'∧Step M w0 M w' aN):=by
 obtain⟨a,cap,ke,hc,hl,hs⟩:=iZ.1 hv;refine bE (args:=[_]) (fn:=Tryz.f187) Tryz.func187 rfl (n:=8) Tryz.ntmps187 (au (ak (al rfl rfl (ae (au (au (ak (aj rfl rfl (bO (v':= .slice a b.length cap) ke (Rg.rV bz rfl rfl rfl (ae ?_)))))))))));refine bW rfl (fun c1=>?_) (fun c1=>?_)
 ·refine au (ak (al rfl rfl (ae (aW ?_))))
  have hb:b=[]:=by
   rcases hs with h|⟨_,_,h,_⟩
   ·exact h
   ·rw[c1]at h;cases h
  exact a8 rfl rfl ⟨by rw[hb];exact jD,ah _ _⟩
 ·refine bg (au (ak ?_));refine Rg.UR bz I5 M rfl (fun a0 w1 s1=>?_);refine aj rfl rfl ?_;refine Rg.nA (A:=RT.u8) (hn:=by decide) (M:=M) bz I5 rfl rfl rfl rfl hv s1.le (s1.lt hM) (by omega) (fun u2 w2 kg s2=>?_);refine al rfl rfl (ae (aW ?_));exact a8 rfl rfl ⟨kg,s1.aE s2⟩
theorem EK {M:aU} {w0:World} {v:Value} {x:Li} (hv:bL RT.li M w0 v x) (hM:Lt M w0):
  Spec Tryz.prog 142 #[v] w0 (fun v' w'=>(RT.u8.sl).V M w' x.1 v'∧Step M w0 M w' aN):=by
 refine bE (args:=[_]) (fn:=Tryz.f142) Tryz.func142 rfl (n:=8) Tryz.ntmps142 (au (ak (al rfl rfl (ae (au (ak (aj rfl rfl (bJ rfl (vK (by assumption)) rfl ?_))))))));refine aA (M:=M) (A:=RT.li) (B:=RT.u8.sl) dz rfl rfl AH (by decide) (li0) rfl rfl (by decide) (by assumption) (by repeat (first|exact ar _ _|refine aT (bh (by assumption)) ?_)) (fun CP mQ=>?_);refine aY (M:=M) bz rfl rfl rfl rfl rfl (by assumption) (by repeat (first|exact ar _ _|refine aT (bh (by assumption)) ?_)) (fun JW xB=>?_);refine aS rfl rfl abu (C3 (M:=M) hM xB) (fun r w1 h1=>?_);obtain⟨hr,s1⟩:=h1;refine al rfl rfl (ae (aW ?_));exact a8 rfl rfl ⟨hr,s1⟩
theorem EL {M:aU} {w0:World} {v:Value} {b:List UInt8} {at_ ahead:Int} (hM:Lt M w0) (hv:(RT.u8.sl).V M w0 b v) (T2: -9223372036854775808≤at_∧at_≤9223372036854775807) (hah: -9223372036854775808≤ahead∧ahead≤9223372036854775807) (yZ:b.length≤1099511627776):
  Spec Tryz.prog 215 #[v,.int .i64 at_,.int .i64 ahead] w0 (fun v' w'=>∃p,v'= .tuple #[p,.int .i64 (qD b at_ ahead).2.1,.int .i64 (qD b at_ ahead).2.2]∧RT.po.V M w' (qD b at_ ahead).1 p∧Step M w0 M w' aN):=by
 refine bE (args:=[_,_,_]) (fn:=Tryz.f215) Tryz.func215 rfl (n:=38) Tryz.ntmps215 (au (ak ?_));refine eu M dW rfl (fun b0 w1 hb0 amp hB s1=>?_);have nL:=s1.lt hM;have ti:=hv.le s1.le;refine al rfl rfl (al rfl rfl (ae (au (ak (aj rfl rfl (aj rfl rfl ?_))))));refine aS rfl rfl U9 (C0 ti T2) (fun r w2 h2=>?_);obtain⟨rfl,rfl⟩:=h2;have wg:=zp b at_;obtain⟨hn0,hn1,hn2,hn3⟩:=oe b at_;refine aj rfl rfl (b5 rfl rfl rfl (b5 rfl rfl rfl (b5 rfl rfl rfl (al rfl rfl (al rfl rfl (al rfl rfl (ae (au (au (ak (aj rfl rfl ?_)))))))))));refine eC rfl rfl rfl (ae ?_);refine bW rfl (fun c2=>?_) (fun c2=>?_)
 ·refine au (ak (eF (places:=[(0,1),(1,1)]) aP dW IL rfl rfl (out:=[.int .i64 0,.slice none 0 0]) rfl (aj rfl rfl ?_)));refine eB (M:=ins M b0) dW rfl rfl (by intro u hu;simp at hu;rcases hu with rfl|rfl<;>rfl) rfl rfl hB (.inl rfl) (fun w3 hB3 s3=>?_);refine al rfl rfl (al rfl rfl (ae (aW ?_)));have jF:=s1.size;have S:Step M w0 M w3 aN:=(s1.db s3 (fun k hk=>by subst hk;omega)).back;refine Iy rfl rfl aP rfl dW rfl hB3 rfl rfl ⟨_,by unfold qD;rw[if_pos c2]<;>rfl,?_,S⟩;unfold qD;rw[if_pos c2];exact eS (ie (x:=0) (by omega)) jD rfl rfl rfl rfl
 ·refine bg (au (ak (aj rfl rfl (aj rfl rfl ?_))));have hok:=tH (b:=b) (at_:=at_) (by omega);refine aS rfl rfl abL (xG (M:=ins M b0) nL ti (by omega) yZ) (fun r w3 h3=>?_);obtain⟨x3,rfl,RE,s3⟩:=h3;refine aj rfl rfl (b5 rfl rfl rfl (b5 rfl rfl rfl (b5 rfl rfl rfl (al rfl rfl (al rfl rfl (al rfl rfl (ae (au (ak (aj rfl rfl (Rg.An rfl rfl rfl ?_)))))))))));refine aj rfl rfl (Rg.An rfl rfl rfl (aj rfl rfl (eF (places:=[(0,1),(1,1)]) aP dW IL rfl ⟨_,_,rfl,rfl,_,_,rfl,rfl,rfl⟩ (out:=[_,_]) ⟨0,[_],rfl,rfl,by simp[Value.cells],1,[_],rfl,fg RE,by simp[Value.cells],rfl⟩ (aj rfl rfl (aj rfl rfl ?_)))));obtain⟨vx,tS⟩:∃vx,vx=x3:=⟨_,rfl⟩;have tz:=iV RE rfl rfl;refine eB (M:=ins M b0) dW rfl rfl (by intro u hu;simp at hu;rcases hu with rfl|rfl;rfl;exact tz) rfl rfl (s3.aX hB) (.inl rfl) (fun w4 hB4 s4=>?_);refine al rfl rfl (al rfl rfl (ae (aW ?_)));have jF:=s1.size;have amr:=s3.size;have S3:=s1.aE s3;have S:Step M w0 M w4 aN:=(S3.db s4 (fun k hk=>by subst hk;omega)).back;refine Iy rfl rfl aP rfl dW rfl hB4 rfl rfl ⟨_,by unfold qD;rw[if_neg c2]<;>rfl,?_,S⟩;unfold qD;rw[if_neg c2];have hx4:=(RE.le s4.le).le (ly hM (S3.db s4 (fun k hk=>by subst hk;omega)));exact eS (ie IB) hx4 rfl rfl rfl rfl
theorem xK {M:aU} {w0:World} {v:Value} {l:List Po} {k:Int} (hM:Lt M w0) (hv:bL RT.li M w0 v (iA l)) (jb:dH (-1) l=true) (nY:∀p∈l,p.2.length≤1099511627776) (yZ:(dw (-1) l).length≤1099511627776):
  Spec Tryz.prog 180 #[v,.int .i64 k] w0 (fun v' w'=>Step M w0 M w' aN∧((RT.po).sl).V M w' (if HR ((l.length+7)/8) k then(l.drop (8*k.toNat)).take 8 else[]) v'):=by
 have W3:(iA l).2.1.length=(l.length+7)/8:=by simp[iA,lM]
 refine bE (args:=[_,_]) (fn:=Tryz.f180) Tryz.func180 rfl (n:=51) Tryz.ntmps180 (au (ak (al rfl rfl (ae (au (au (ak (aj rfl rfl (aj rfl rfl ?_)))))))));refine aS rfl rfl U4 (F9 hv (k:=k)) (fun r w1 h1=>?_);obtain⟨rfl,rfl⟩:=h1;refine fP rfl rfl (bO (v':= .bool (decide (¬(0≤k∧k<(iA l).2.1.length)))) (by unfold HR;rw[decide_not]) (ae ?_));refine bW rfl (fun c1=>?_) (fun c1=>?_)
 ·refine au (ak (al rfl rfl (ae (aW ?_))));refine a8 rfl rfl ⟨ah _ _,?_⟩;rw[if_neg (by unfold HR;rw[W3]at c1;simpa using c1)];exact jD
 ·refine bg (au (ak (aj rfl rfl (bJ rfl (vK (by assumption)) rfl ?_))));refine aA (M:=M) (A:=RT.li) (B:=(RT.bl).sl) dz rfl rfl AI (by decide) (TP) rfl rfl (by decide) (by assumption) (by repeat (first|exact ar _ _|refine aT (bh (by assumption)) ?_)) (fun Ni xr=>?_);refine aY (M:=M) dq rfl rfl rfl rfl rfl (by assumption) (by repeat (first|exact ar _ _|refine aT (bh (by assumption)) ?_)) (fun RB Kz=>?_);refine aj rfl rfl ?_;obtain⟨j,rfl⟩:∃j:Nat,k=j:=⟨k.toNat,by omega⟩;have hb:(iA l).2.1[j]? =some (pA l j):=by simp only[iA,lM,gG];rw[List.getElem?_range (by omega)];rfl
  refine bS (M:=M) dq tM rfl rfl rfl (by assumption) (ar _ _) (by omega) (fun ad5 RC KA W2=>?_);obtain rfl:RC=pA l j:=aG (KA.symm.trans (by simpa using hb));have OR:(pA l j).2.2.2=(((l.drop (8*j)).take 8).length:Int):=rfl;have aiz:((l.drop (8*j)).take 8).length≤8:=by rw[bU];omega
  refine cc (M:=M) (A:=RT.bl) iz rfl tM (by decide) rfl rfl rfl (by assumption) (by repeat (first|exact ar _ _|refine aT (bh (by assumption)) ?_)) (fun amt aiA=>?_);refine mG (A:=RT.bl) (M:=M) tM rfl rfl rfl rfl rfl (by assumption) (by repeat (first|exact ar _ _|refine aT (bh (by assumption)) ?_)) (by first|assumption|exact Step.lt (by assumption) (by assumption)|exact Step.lt (by assumption) (Step.lt (by assumption) (by assumption))) (fun ad7 RF aiB RG amu=>?_);refine ae (au (ak (al rfl rfl (ae (au (au ?_))))));apply kA (M:=M) mixed [aV.ptr (RT.int .i64) (pA l j).1,aV.eq _,aV.ptr (RT.int .i64) (pA l j).2.1,aV.eq _,aV.eq _,aV.eq _]
  ·rfl
  ·refine an ?_ ?_
   ·intro wD E sD;refine aA (M:=M) (A:=RT.bl) (B:=RT.int .i64) iz rfl rfl I3 (by decide) (bl0) rfl rfl (by decide) (by assumption) (by repeat (first|exact ar _ _|refine aT (bh (by assumption)) ?_)) (fun WA F8=>?_);exact ae ⟨rfl,rfl,_,rfl,by assumption,ah _ _⟩
   refine an ?_ ?_
   ·intro wD E sD;intro v0 LZ;refine bK (M:=M) aB rfl rfl (by assumption) (by repeat (first|exact ar _ _|refine aT (bh (by assumption)) ?_)) (fun O6=>?_);exact ae ⟨rfl,rfl,_,rfl,rfl,ah _ _⟩
   refine an ?_ ?_
   ·intro wD E sD;refine aA (M:=M) (A:=RT.bl) (B:=RT.int .i64) iz rfl rfl I3 (by decide) (bl1) rfl rfl (by decide) (by assumption) (by repeat (first|exact ar _ _|refine aT (bh (by assumption)) ?_)) (fun Ry pZ=>?_);exact ae ⟨rfl,rfl,_,rfl,by assumption,ah _ _⟩
   refine an ?_ ?_
   ·intro wD E sD;intro v2 kB;refine bK (M:=M) aB rfl rfl (by assumption) (by repeat (first|exact ar _ _|refine aT (bh (by assumption)) ?_)) (fun aiC=>?_);exact ae ⟨rfl,rfl,_,rfl,rfl,ah _ _⟩
   refine an ?_ ?_
   ·intro wD E sD;refine ao ?_;intro v0 LZ;refine ao (al rfl rfl ?_);exact ae ⟨rfl,rfl,_,rfl,rfl,ah _ _⟩
   refine an ?_ ?_
   ·intro wD E sD;refine ao (ao ?_);intro v0 LZ;refine ao ?_;intro v2 kB;refine ao (ao (al rfl rfl ?_));exact ae ⟨rfl,rfl,_,rfl,rfl,ah _ _⟩
   exact fC
  ·intro EH mw;intro amv aiD;refine ao ?_;intro yS pM;refine ao (ao (ao (bu ?_)));have hz5:=RG.size;refine de (σ:=Nat×Value) (fun s=>[(0,v),(5,ad7),(6,s.2),(7,.int .i64 (dw (-1) (l.take (8*j+s.1))).length),(8,.int .i64 (cH (-1) (l.take (8*j+s.1))))]) (fun s w=>s.1≤((l.drop (8*j)).take 8).length∧∃M1,Lt M1 w∧Step M w0 M1 w aN∧Step M RF M1 w aN∧Own RT.po 153 M1 w RF.heap.size s.2 (((l.drop (8*j)).take 8).take s.1)) (fun s=>((l.drop (8*j)).take 8).length-s.1) (0,_) (.cons rfl (.cons rfl (.cons rfl (.cons rfl (.cons rfl .nil))))) ?_ ?_
   ·exact⟨bM _,M,mw.lt (RG.lt hM),RG.aE mw,mw,dO _ _ _ _ _⟩
   ·rintro⟨i,u0⟩ w1 ⟨hi,M1,nL,S,S5,ho⟩;dsimp only at hi ho ⊢;refine au (au (ak (aj rfl rfl (gy aC rfl ho rfl (bO (v':= .int .i64 i) (by rw[bU,Nat.min_eq_left hi]) ?_)))));refine aA (M:=M1) (A:=RT.bl) (B:=RT.int .i64) iz rfl rfl I3 (by decide) (bl3) rfl rfl (by decide) (by assumption) (by repeat (first|exact ar _ _|refine aT (bh (by assumption)) ?_)) (fun MX sG=>?_);refine bK (M:=M1) aB rfl rfl sG (ar _ _) (fun WN=>?_);refine bO (v':= .int .i64 ((l.drop (8*j)).take 8).length) rfl (cu rfl rfl rfl (ae ?_));refine bW rfl (fun c6=>?_) (fun c6=>?_)
    ·refine bg (bu (au (ak (aj rfl rfl (bJ rfl (vK (by assumption)) rfl ?_)))));refine aA (M:=M1) (A:=RT.li) (B:=RT.u8.sl) dz rfl rfl AH (by decide) (li0) rfl rfl (by decide) (by assumption) (by repeat (first|exact ar _ _|refine aT (bh (by assumption)) ?_)) (fun Q7 oV=>?_);refine aY (M:=M1) bz rfl rfl rfl rfl rfl (by assumption) (by repeat (first|exact ar _ _|refine aT (bh (by assumption)) ?_)) (fun W4 KE=>?_);refine aj rfl rfl (aj rfl rfl ?_);obtain⟨⟨d,ps⟩,hx⟩:∃x,l[8*j+i]? =some x:=⟨_,aI (by rw[bU,dh]at c6;omega)⟩;obtain⟨f1,f2,f3,f4,f5,f6⟩:=l9 jb hx;have VK:qD (iA l).1 _ _=_:=ID jb hx (nY _ (aQ hx));have Gx:(dw (-1) (l.take (8*j+i))).length≤(dw (-1) l).length:=by rw[pB (l:=l) (i:=8*j+i) (-1)];simp
     refine aS rfl rfl abD (EL (M:=M1) nL KE (by omega) (by omega) yZ) (fun r7 w7 h7=>?_);obtain⟨p7,h7e,T5,s7⟩:=h7;rw[VK]at h7e T5;subst h7e;change RT.po.V M1 w7 (d,ps) p7 at T5;replace S:=S.aE s7;replace S5:=S5.aE s7;replace ho:=ho.bC s7;replace nL:=s7.lt nL;have hci:((l.drop (8*j)).take 8)[i]? =some (d,ps):=by rw[eE,if_pos (by omega),List.getElem?_drop];exact hx
     refine aj rfl rfl (b5 rfl rfl rfl (b5 rfl rfl rfl (b5 rfl rfl rfl ?_)));refine mG (A:=RT.po) (M:=M1) dW rfl rfl rfl rfl rfl (by assumption) (by repeat (first|exact ar _ _|refine aT (bh (by assumption)) ?_)) (by first|assumption|exact Step.lt (by assumption) (by assumption)|exact Step.lt (by assumption) (Step.lt (by assumption) (by assumption))) (fun aiG aiH KF Ga aiI=>?_);refine al rfl rfl (al rfl rfl (ae (au (ak (aj rfl rfl ?_)))));replace S:=S.aE Ga;replace S5:=S5.aE Ga;replace ho:=ho.bC Ga;replace nL:=Ga.lt nL;clear T5;refine cc (M:=M1) (A:=RT.po) aP rfl dW (by decide) rfl rfl rfl KF (ar _ _) (fun v8 tn=>?_);refine ez (A:=RT.po) (hn:=by decide) (M:=M1) aC dW (by decide) rfl rfl nL tn (.inl rfl) (fun u2 w2 kg s2=>?_);refine cz (M:=M1) (base:=RF.heap.size) aC dW rfl rfl rfl rfl (ho.bC s2) kg (ar _ _) (by simp;omega) (by simp;omega) (dJ S5.size s2.size) (fun v3 M3 w3 ud s3=>?_);replace S:=(S.aE s2).cJ s3 (ho.bC s2) hz5;have vC:=(KF.le (by decide) s2.le).le (by decide) s3.le;have RH:=s3.lt (s2.lt nL);replace S5:=(S5.aE s2).cJ s3 (ho.bC s2) (bw _);refine al rfl rfl (ae ?_);apply kA (M:=M3) mixed [aV.eq _,aV.ptr (RT.int .i64) d,aV.eq _,aV.eq _,aV.eq _]
     ·rfl
     ·refine an ?_ ?_
      ·intro wD E sD;refine aj rfl rfl ?_;exact ae ⟨rfl,rfl,_,rfl,rfl,ah _ _⟩
      refine an ?_ ?_
      ·intro wD E sD;refine aA (M:=M3) (A:=RT.po) (B:=RT.int .i64) aP rfl rfl I3 (by decide) (na) rfl rfl (by decide) vC sD.le (fun adk Kf=>?_);exact ae ⟨rfl,rfl,_,rfl,Kf,ah _ _⟩
      refine an ?_ ?_
      ·intro wD E sD;intro v1 ti;refine bK (M:=M3) aB rfl rfl (by assumption) (by repeat (first|exact ar _ _|refine aT (bh (by assumption)) ?_)) (fun aiJ=>?_);exact ae ⟨rfl,rfl,_,rfl,rfl,ah _ _⟩
      refine an ?_ ?_
      ·intro wD E sD;refine ao (ao (al rfl rfl ?_));exact ae ⟨rfl,rfl,_,rfl,rfl,ah _ _⟩
      refine an ?_ ?_
      ·intro wD E sD;refine ao (ao (ao ?_));intro v1 ti;refine ao (ao (al rfl rfl ?_));exact ae ⟨rfl,rfl,_,rfl,rfl,ah _ _⟩
      exact fC
     ·intro O7 Bd;refine ao ?_;intro amx aiK;refine ao (ao (ao ?_));refine⟨rfl,(i+1,v3),(.cons rfl (.cons rfl (.cons rfl (.cons rfl (.cons (by rw[←f5];rfl) .nil))))),?_,?_⟩
      ·refine⟨by simp only;omega,M3,Bd.lt RH,S.aE Bd,S5.aE Bd,?_⟩;simp only;obtain⟨Z5,L4⟩:=aF.1 hci;rw[dS Z5,L4];exact ud.bC Bd
      ·simp only;omega
    ·refine cP (au (ak (aj rfl rfl (al rfl rfl (ae (aW ?_))))));refine a8 rfl rfl ⟨S.back,?_⟩;rw[if_pos (by unfold HR;rw[W3]at c1;simpa using c1),aK];rw[bm (by omega)]at ho;exact fQ hM S (ho.lB hz5) (by omega)
end Go.K
namespace Go.K
open Go.Proofs
set_option maxRecDepth 10000
theorem C4 {M:aU} {w0:World} {v:Value} {l:List Int} (hv:((RT.int .i64).sl).V M w0 l v):
  Spec Tryz.prog 212 #[v] w0 (fun v' w'=>v'= .bool (dL l)∧w0=w'):=by
 have hlen:=dr hv;refine bE (args:=[_]) (fn:=Tryz.f212) Tryz.func212 rfl (n:=32) Tryz.ntmps212 (au (ak (al rfl rfl (ae (au (au (ak (aj rfl rfl ?_))))))))
 first|refine bF ay rfl (by assumption) rfl ?_|refine gy ay rfl (by assumption) rfl ?_
 refine aj rfl rfl (ae (bu ?_));refine de (σ:=Nat×Int) (fun s=>[(0,v),(5,v),(6,.int .i64 l.length),(7,.int .i64 s.1)]) (fun s w=>w0=w∧s.1≤l.length∧dL l=(ec s.2 (l.drop s.1)&&(l.drop s.1).all (fun n=>decide (n<2147483648)))∧ -1≤s.2∧(s.1=0→s.2= -1)∧(0<s.1→l[s.1-1]? =some s.2)) (fun s=>l.length-s.1) (0,-1) (.cons rfl (.cons rfl (.cons rfl (.cons rfl .nil)))) ?_ ?_
 ·exact⟨rfl,bM _,rfl,by decide,fun _=>rfl,fun h=>absurd h (jr 0)⟩
 ·rintro⟨k,last⟩ w1 ⟨rfl,hk,hr,NH,h0,h1⟩;dsimp only at hk hr NH h0 h1 ⊢;refine au (ak (cu rfl rfl rfl (ae (au ?_))));refine bW rfl (fun c2=>?_) (fun c2=>?_)
  ·refine bg (au (bu (au (ak (aj rfl rfl ?_)))));obtain⟨x,hx⟩:∃x,l[k]? =some x:=⟨_,aI (by omega)⟩;refine bS (M:=M) ay I3 rfl rfl rfl hv (ar _ _) (by omega) (fun amy ad8 W5 aiL=>?_);obtain rfl:x=ad8:=bY (aG (W5.symm.trans (by simpa using hx)));refine bK (M:=M) aB rfl rfl (by assumption) (by repeat (first|exact ar _ _|refine aT (bh (by assumption)) ?_)) (fun aiM=>?_);refine al rfl rfl (al rfl rfl (ae (au (ak (aj rfl rfl (cu rfl rfl rfl (aj rfl rfl ?_)))))));refine aZ (g:=14) rfl (fun qA=>?_) (fun qA=>?_)
   ·refine aw rfl rfl rfl rfl (aw rfl rfl rfl rfl (aR rfl rfl rfl (aj rfl rfl (aw rfl rfl rfl rfl (aw rfl rfl rfl rfl (aw rfl rfl rfl rfl (ca rfl rfl rfl (ca rfl rfl rfl (ca rfl rfl rfl (ca rfl rfl rfl (ca rfl rfl rfl ?_)))))))))));refine ca rfl rfl rfl (ca rfl rfl rfl (aw rfl rfl rfl rfl (aR rfl rfl rfl (ae (gz rfl (au (ak (al rfl rfl (ae (aW ?_))))))))));refine a8 rfl rfl ⟨congrArg Value.bool (bY ?_),rfl⟩;rw[hr,eQ hx,pC _ hx];by_cases h7:last<x
    ·have h2: ¬x<2147483648:=by omega
     simp[h2]
    ·simp[h7]
   ·refine aq rfl rfl (aj rfl rfl (aq rfl rfl (dI rfl rfl rfl (aL rfl rfl rfl (aj rfl rfl ?_)))));refine aZ (g:=18) rfl (fun C5=>?_) (fun C5=>?_)
    ·refine aw rfl rfl rfl rfl (aw rfl rfl rfl rfl (aw rfl rfl rfl rfl (ca rfl rfl rfl (ca rfl rfl rfl (ca rfl rfl rfl (ca rfl rfl rfl (ca rfl rfl rfl (ca rfl rfl rfl (ca rfl rfl rfl (aw rfl rfl rfl rfl (aR rfl rfl rfl ?_)))))))))));refine ae (gz rfl (au (ak (al rfl rfl (ae (aW ?_))))));refine a8 rfl rfl ⟨congrArg Value.bool (bY ?_),rfl⟩;rw[hr,eQ hx,pC _ hx];by_cases h7:last<x
     ·have h2: ¬x<2147483648:=by omega
      simp[h2]
     ·simp[h7]
    ·refine aq rfl rfl (aj rfl rfl (aq rfl rfl (hY rfl rfl rfl (aq rfl rfl (aj rfl rfl ?_)))));refine aZ (g:=21) rfl (fun ad9=>?_) (fun ad9=>?_)
     ·refine aq rfl rfl (aj rfl rfl (aq rfl rfl (aj rfl rfl (aq rfl rfl (aj rfl rfl (aq rfl rfl (eJ rfl rfl rfl (by omega) (aq rfl rfl ?_))))))));refine bS (M:=M) ay I3 rfl rfl rfl hv (ar _ _) (by omega) (fun aiN W6 RI aea=>?_);obtain rfl:last=W6:=bY (aG (RI.symm.trans (by rw[show((k:Int)-1).toNat=k-1 from by omega];exact h1 (by omega))));refine aq rfl rfl ?_;refine bK (M:=M) aB rfl rfl (by assumption) (by repeat (first|exact ar _ _|refine aT (bh (by assumption)) ?_)) (fun aeb=>?_);refine aq rfl rfl (fo rfl rfl rfl (aq rfl rfl (aR rfl rfl rfl (aL rfl rfl rfl (ae ?_)))));refine bW rfl (fun c4=>?_) (fun c4=>?_)
      ·refine au (ak (al rfl rfl (ae (aW ?_))));refine a8 rfl rfl ⟨congrArg Value.bool (bY ?_),rfl⟩;rw[hr,eQ hx,pC _ hx];by_cases h7:last<x
       ·have h2: ¬x<2147483648:=by omega
        simp[h2]
       ·simp[h7]
      ·refine bg (ak (bQ rfl rfl rfl (by omega) (aj rfl rfl (ae ?_))));refine⟨rfl,(k+1,x),(.cons rfl (.cons rfl (.cons rfl (.cons rfl .nil)))),?_,?_⟩
       ·refine⟨rfl,by simp only;omega,?_,by simp only;omega,fun h=>by simp at h,fun _=>by simpa using hx⟩;rw[hr,eQ hx,pC _ hx,decide_eq_true (show last<x by omega),decide_eq_true (show x<2147483648 by omega),eP,eP]
       ·simp only;omega
     ·refine aw rfl rfl rfl rfl (aw rfl rfl rfl rfl (aw rfl rfl rfl rfl (aw rfl rfl rfl rfl (aw rfl rfl rfl rfl (aw rfl rfl rfl rfl (aw rfl rfl rfl rfl (aq rfl rfl (aL rfl rfl rfl (aL rfl rfl rfl (ae (ir rfl ?_)))))))))));refine bg (ak (bQ rfl rfl rfl (by omega) (aj rfl rfl (ae ?_))));refine⟨rfl,(k+1,x),(.cons rfl (.cons rfl (.cons rfl (.cons rfl .nil)))),?_,?_⟩
      ·refine⟨rfl,by simp only;omega,?_,by simp only;omega,fun h=>by simp at h,fun _=>by simpa using hx⟩;rw[hr,eQ hx,pC _ hx,decide_eq_true (show last<x by omega),decide_eq_true (show x<2147483648 by omega),eP,eP]
      ·simp only;omega
  ·refine cP (au (ak (al rfl rfl (ae (aW ?_)))));refine a8 rfl rfl ⟨congrArg Value.bool (bY ?_),rfl⟩;rw[hr,dy (by omega)];rfl
theorem zR {M:aU} {w0:World} {v:Value} {l:List Po} (hM:Lt M w0) (hv:((RT.po).sl).V M w0 l v):
  Spec Tryz.prog 171 #[v] w0 (fun v' w'=>v'= .bool (dH (-1) l)∧Step M w0 M w' aN):=by
 have hlen:=dr hv;refine bE (args:=[_]) (fn:=Tryz.f171) Tryz.func171 rfl (n:=36) Tryz.ntmps171 (au (ak (al rfl rfl (ae (au (ak (al rfl rfl (ae (au (au (ak ?_)))))))))));refine aj rfl rfl ?_
 first|refine bF aC rfl (by assumption) rfl ?_|refine gy aC rfl (by assumption) rfl ?_
 refine aj rfl rfl (ae (bu ?_));refine de (σ:=Nat×Int) (fun s=>[(6,v),(7,.int .i64 l.length),(8,.int .i64 s.1),(3,.int .i64 s.2)]) (fun s w=>Step M w0 M w aN∧s.1≤l.length∧dH (-1) l=dH s.2 (l.drop s.1)) (fun s=>l.length-s.1) (0,-1) (.cons rfl (.cons rfl (.cons rfl (.cons rfl .nil)))) ?_ ?_
 ·exact⟨ah _ _,bM _,rfl⟩
 ·rintro⟨k,last⟩ w1 ⟨S,hk,hr⟩;dsimp only at hk hr ⊢;have hMw:=S.lt hM;refine au (ak (cu rfl rfl rfl (ae (au ?_))));refine bW rfl (fun c3=>?_) (fun c3=>?_)
  ·refine bg (au (bu (au (ak ?_))));obtain⟨⟨d,ps⟩,hx⟩:∃x,l[k]? =some x:=⟨_,aI (by omega)⟩;refine bS (M:=M) aC dW rfl rfl rfl (hv.le S.le) (ar _ _) (by omega) (fun M8 RD KD Cl=>?_);obtain rfl:RD=(d,ps):=aG (KD.symm.trans (by simpa using hx));refine cc (M:=M) (A:=RT.po) aP rfl dW (by decide) rfl rfl rfl (by assumption) (by repeat (first|exact ar _ _|refine aT (bh (by assumption)) ?_)) (fun Na FO=>?_);refine mG (A:=RT.po) (M:=M) dW rfl rfl rfl rfl rfl (by assumption) (by repeat (first|exact ar _ _|refine aT (bh (by assumption)) ?_)) (by first|assumption|exact Step.lt (by assumption) (by assumption)|exact Step.lt (by assumption) (Step.lt (by assumption) (by assumption))) (fun D4 Qf jO qy Wv=>?_);refine ae (au (au (ak ?_)));refine aA (M:=M) (A:=RT.po) (B:=RT.int .i64) aP rfl rfl I3 (by decide) (na) rfl rfl (by decide) (by assumption) (by repeat (first|exact ar _ _|refine aT (bh (by assumption)) ?_)) (fun WA F8=>?_);refine bK (M:=M) aB rfl rfl F8 (ar _ _) (fun O6=>?_);refine bO (v':= .int .i64 d) rfl ?_;simp only at O6;refine aj rfl rfl (fo rfl rfl rfl (aj rfl rfl ?_));refine aZ (g:=16) rfl (fun aec=>?_) (fun aec=>?_)
   ·refine aw rfl rfl rfl rfl (aw rfl rfl rfl rfl (aw rfl rfl rfl rfl (aR rfl rfl rfl (aj rfl rfl (aw rfl rfl rfl rfl (aw rfl rfl rfl rfl (aw rfl rfl rfl rfl (aw rfl rfl rfl rfl (aR rfl rfl rfl (aj rfl rfl (aw rfl rfl rfl rfl ?_)))))))))));refine aw rfl rfl rfl rfl (aw rfl rfl rfl rfl (aw rfl rfl rfl rfl (aR rfl rfl rfl (ae (gz rfl (au (ak (al rfl rfl (ae (aW ?_))))))))));refine a8 rfl rfl ⟨congrArg Value.bool (bY ?_),S.aE qy⟩;rw[hr,eR hx]
    first
    |(rw[decide_eq_false (show¬last<d by omega)];simp;done)
    |(rw[decide_eq_false (show¬d<2147483648 by omega)];simp;done)
    |(rw[show ps=[]from cE.1 (by omega)];simp;done)
    |(simp[c5];done)
   ·refine aq rfl rfl ?_;refine aA (M:=M) (A:=RT.po) (B:=RT.int .i64) aP rfl rfl I3 (by decide) (na) rfl rfl (by decide) (by assumption) (by repeat (first|exact ar _ _|refine aT (bh (by assumption)) ?_)) (fun amz W7=>?_);refine aq rfl rfl ?_;refine bK (M:=M) aB rfl rfl W7 (ar _ _) (fun aiO=>?_);refine bO (v':= .int .i64 d) rfl (aq rfl rfl (dI rfl rfl rfl (aL rfl rfl rfl (aj rfl rfl ?_))));refine aZ (g:=21) rfl (fun aed=>?_) (fun aed=>?_)
    ·refine aw rfl rfl rfl rfl (aw rfl rfl rfl rfl (aw rfl rfl rfl rfl (aw rfl rfl rfl rfl (aR rfl rfl rfl (aj rfl rfl (aw rfl rfl rfl rfl (aw rfl rfl rfl rfl (aw rfl rfl rfl rfl (aw rfl rfl rfl rfl (aR rfl rfl rfl (ae ?_)))))))))));refine gz rfl (au (ak (al rfl rfl (ae (aW ?_)))));refine a8 rfl rfl ⟨congrArg Value.bool (bY ?_),S.aE qy⟩;rw[hr,eR hx]
     first
     |(rw[decide_eq_false (show¬last<d by omega)];simp;done)
     |(rw[decide_eq_false (show¬d<2147483648 by omega)];simp;done)
     |(rw[show ps=[]from cE.1 (by omega)];simp;done)
     |(simp[c5];done)
    ·refine aq rfl rfl ?_;refine aA (M:=M) (A:=RT.po) (B:=(RT.int .i64).sl) aP rfl rfl gT (by decide) (zr) rfl rfl (by decide) (by assumption) (by repeat (first|exact ar _ _|refine aT (bh (by assumption)) ?_)) (fun aiP aee=>?_);refine aq rfl rfl ?_;refine aY (M:=M) ay rfl rfl rfl rfl rfl (by assumption) (by repeat (first|exact ar _ _|refine aT (bh (by assumption)) ?_)) (fun aiQ RJ=>?_);refine aq rfl rfl (bF ay rfl RJ rfl (bO (v':= .int .i64 ps.length) rfl (aq rfl rfl (iE rfl rfl rfl (aL rfl rfl rfl (aj rfl rfl ?_))))));refine aZ (g:=27) rfl (fun O8=>?_) (fun O8=>?_)
     ·refine aw rfl rfl rfl rfl (aw rfl rfl rfl rfl (aw rfl rfl rfl rfl (aw rfl rfl rfl rfl (aR rfl rfl rfl (ae (gz rfl (au (ak (al rfl rfl (ae (aW ?_)))))))))));refine a8 rfl rfl ⟨congrArg Value.bool (bY ?_),S.aE qy⟩;rw[hr,eR hx]
      first
      |(rw[decide_eq_false (show¬last<d by omega)];simp;done)
      |(rw[decide_eq_false (show¬d<2147483648 by omega)];simp;done)
      |(rw[show ps=[]from cE.1 (by omega)];simp;done)
      |(simp[c5];done)
     ·refine aq rfl rfl ?_;refine aA (M:=M) (A:=RT.po) (B:=(RT.int .i64).sl) aP rfl rfl gT (by decide) (zr) rfl rfl (by decide) (by assumption) (by repeat (first|exact ar _ _|refine aT (bh (by assumption)) ?_)) (fun aiR aef=>?_);refine aq rfl rfl ?_;refine aY (M:=M) ay rfl rfl rfl rfl rfl (by assumption) (by repeat (first|exact ar _ _|refine aT (bh (by assumption)) ?_)) (fun aiS RL=>?_);refine aq rfl rfl ?_;refine aS rfl rfl abB (C4 RL) (fun r5 w5 h5=>?_);obtain⟨rfl,rfl⟩:=h5;refine aq rfl rfl (fP rfl rfl (bO (v':= .bool (decide (¬dL ps=true))) (by simp) (aL rfl rfl rfl (ae ?_))));refine bW rfl (fun c5=>?_) (fun c5=>?_)
      ·refine au (ak (al rfl rfl (ae (aW ?_))));refine a8 rfl rfl ⟨congrArg Value.bool (bY ?_),S.aE qy⟩;rw[hr,eR hx]
       first
       |(rw[decide_eq_false (show¬last<d by omega)];simp;done)
       |(rw[decide_eq_false (show¬d<2147483648 by omega)];simp;done)
       |(rw[show ps=[]from cE.1 (by omega)];simp;done)
       |(simp[c5];done)
      ·refine bg (ak ?_);refine aA (M:=M) (A:=RT.po) (B:=RT.int .i64) aP rfl rfl I3 (by decide) (na) rfl rfl (by decide) (by assumption) (by repeat (first|exact ar _ _|refine aT (bh (by assumption)) ?_)) (fun VM FP=>?_);refine bK (M:=M) aB rfl rfl FP (ar _ _) (fun aiT=>?_);refine bO (v':= .int .i64 d) rfl (al rfl rfl (ae (ak (bQ rfl rfl rfl (by omega) (aj rfl rfl (ae ?_))))));refine⟨rfl,(k+1,d),(.cons rfl (.cons rfl (.cons rfl (.cons rfl .nil)))),?_,?_⟩
       ·refine⟨S.aE qy,by simp only;omega,?_⟩
        have fE:ps.isEmpty=false:=by cases ps with
         |nil=>simp at O8
         |cons a t=>rfl
        rw[hr,eR hx,decide_eq_true (show last<d by omega),decide_eq_true (show d<2147483648 by omega),fE,cy.1 c5];rfl
       ·simp only;omega
  ·refine cP (au (ak (al rfl rfl (ae (aW ?_)))));refine a8 rfl rfl ⟨congrArg Value.bool (bY ?_),S⟩;rw[hr,dy (by omega)];rfl
theorem EM {M:aU} {w0:World} {v:Value} {l:List Po} (hM:Lt M w0) (hv:((RT.po).sl).V M w0 l v):
  Spec Tryz.prog 172 #[v,.int .i64 8] w0 (fun v' w'=>∃bs bn,v'= .func (.func 213) [].toArray [.pointer (some ⟨bs,0,none⟩),.pointer (some ⟨bn,0,none⟩)].toArray∧w'.heap[bs]? =some (.cells #[v] 107 (0,0))∧w'.heap[bn]? =some (.cells #[.int .i64 8] 3 (0,0))∧w0.heap.size≤bs∧w0.heap.size≤bn∧Step M w0 M w' aN):=by
 refine bE (args:=[_,_]) (fn:=Tryz.f172) Tryz.func172 rfl (n:=9) Tryz.ntmps172 (au (ak ?_));refine vr M rfl rfl (fun bs w1 h1 IA hS s1=>?_);rw[fg hv]at hS;refine vr (ins M bs) rfl rfl (fun bn w2 h2 As hN s2=>?_);have hS2:=s2.aX hS;have hz1:=s1.size;refine al rfl rfl (ae (au (au (ak (br aB rfl rfl rfl hN rfl (cu rfl rfl rfl (ae (T.BI rfl ((by decide)) (bg (au (ak ?_)))))))))));refine jv (xs:=[]) (ys:=[.tmp 2,.tmp 3]) rfl rfl rfl (al rfl rfl (ae (aW ?_)));exact a8 rfl rfl ⟨bs,bn,rfl,hS2,hN,h1,by omega,(s1.aE s2).back⟩
theorem C6 {w0:World} {bs bn yl:Nat} {v:Value} {l:List Po} {M:aU} {wv:World} {J:Nat→World→Prop} {Jx:World→Prop} (hv:((RT.po).sl).V M wv l v) (lg:∀i w w',J i w→Step aN w aN w' aN→J i w') (KG:∀i w,J i w→w.heap[bs]? =some (.cells #[v] 107 (0,0))∧w.heap[bn]? =some (.cells #[.int .i64 8] 3 (0,0))) (hy:∀(i:Nat) (w:World) (u:Value),J i w→i<l.length→((RT.po).sl).V M wv ((l.drop i).take 8) u→wH Tryz.prog yl [u].toArray w (fun r w'=>∃b,r= .bool b∧(b=true→J (min (i+8) l.length) w')∧(b=false→Jx w'))) (h0:J 0 w0):
  Spec Tryz.prog 213 #[.func (.yield yl) #[] #[],.pointer (some ⟨bs,0,none⟩),.pointer (some ⟨bn,0,none⟩)] w0 (fun _ w'=>J l.length w'∨Jx w'):=by
 have hlen:=dr hv;refine bE (args:=[_,_,_]) (fn:=Tryz.f213) Tryz.func213 rfl (n:=31) Tryz.ntmps213 (au (ak (al rfl rfl (ae (bu ?_)))));refine de (σ:=Nat) (fun s=>[(0,.func (.yield yl) #[] #[]),(1,.pointer (some ⟨bs,0,none⟩)),(2,.pointer (some ⟨bn,0,none⟩)),(4,.int .i64 s)]) (fun s w=>J (min s l.length) w∧s≤l.length+8) (fun s=>l.length+8-s) 0 (.cons rfl (.cons rfl (.cons rfl (.cons rfl .nil)))) ?_ ?_
 ·exact⟨by rw[Nat.zero_min];exact h0,bM _⟩
 ·rintro k w1 ⟨hJ,hk⟩;obtain⟨BC,LX⟩:=KG _ _ hJ;refine au (au (ak (aj rfl rfl (br aC rfl rfl rfl BC rfl ?_))))
  first|refine bF aC rfl (by assumption) rfl ?_|refine gy aC rfl (by assumption) rfl ?_
  refine cu rfl rfl rfl (ae ?_);refine bW rfl (fun c1=>?_) (fun c1=>?_)
  ·refine bg (au (bu (au ?_)));apply kA (M:=aN) mixed [aV.eq _,aV.eq _,aV.eq _,aV.pure (fun v=>((RT.po).sl).V M wv (l.drop k) v),aV.eq _,aV.eq _,aV.eq _]
   ·rfl
   ·refine an ?_ ?_
    ·intro wD E sD;refine br aB rfl rfl rfl (cI sD LX) rfl ?_;exact ae ⟨rfl,rfl,_,rfl,rfl,ah _ _⟩
    refine an ?_ ?_
    ·intro wD E sD;refine br aC rfl rfl rfl (cI sD BC) rfl ?_;exact ae ⟨rfl,rfl,_,rfl,rfl,ah _ _⟩
    refine an ?_ ?_
    ·intro wD E sD;refine aj rfl rfl ?_;exact ae ⟨rfl,rfl,_,rfl,rfl,ah _ _⟩
    refine an ?_ ?_
    ·intro wD E sD;refine ao (ao ?_);refine Rg.nX (A:=RT.po) (hn:=by decide) aC dW rfl rfl rfl hv (by omega) (fun u hu=>?_);rw[aK]at hu;exact ae ⟨rfl,rfl,_,rfl,hu,ah _ _⟩
    refine an ?_ ?_
    ·intro wD E sD;intro v3 lv;have aeg:((RT.po).sl).V M wv (l.drop k) v3:=lv;refine bF aC rfl aeg rfl ?_;exact ae ⟨rfl,rfl,_,rfl,rfl,ah _ _⟩
    refine an ?_ ?_
    ·intro wD E sD;refine ao (ao (Rg.min2 rfl rfl rfl ?_));exact ae ⟨rfl,rfl,_,rfl,rfl,ah _ _⟩
    refine an ?_ ?_
    ·intro wD E sD;refine ao (ao (ao (ao ?_)));intro v3 lv;refine ao (ao (al rfl rfl ?_));exact ae ⟨rfl,rfl,_,rfl,rfl,ah _ _⟩
    exact fC
   ·intro Qr lI;refine ao (ao (ao ?_));intro RB Kz;refine ao (ao (ao ?_));rw[show min k l.length=k from by omega]at hJ;have V5:=lg _ _ _ hJ lI;obtain⟨hb3,NK⟩:=KG _ _ V5;refine au (ak (aj rfl rfl (br aC rfl rfl rfl hb3 rfl (aj rfl rfl (aj rfl rfl (aj rfl rfl (bQ rfl rfl rfl (by omega) (aj rfl rfl (aj rfl rfl (bQ rfl rfl rfl (by omega) ?_))))))))));refine Rg.GK (A:=RT.po) (hn:=by decide) aC dW rfl rfl rfl rfl rfl hv (by rw[dh];omega) (fun u hu=>?_)
    have he:(l.take ((k:Int)+min 8 ((l.drop k).length:Int)).toNat).drop (k:Int).toNat=(l.drop k).take 8:=by
     rw[aK,List.drop_take,dh,show((k:Int)+min 8 ((l.length-k:Nat):Int)).toNat-k=min 8 (l.length-k)from by omega,hU,dh];omega
    rw[he]at hu;refine Rg.yield rfl (vs:=[u]) rfl rfl (hy k _ u V5 (by omega) hu) (fun r4 w4 h4=>?_);obtain⟨b,rfl,Ow,oD⟩:=h4;refine fP rfl rfl (bO (v':= .bool (decide (¬b=true))) (by simp) (ae ?_));refine bW rfl (fun c4=>?_) (fun c4=>?_)
    ·refine aW ?_;exact BJ rfl (.inr (oD (by simpa using c4)))
    ·refine bg (ak (aj rfl rfl ?_));have hJ5:=Ow (cy.1 c4);refine br aB rfl rfl rfl (KG _ _ hJ5).2 rfl (bQ rfl rfl rfl (by omega) (al rfl rfl (ae ?_)));refine⟨rfl,k+8,(.cons rfl (.cons rfl (.cons rfl (.cons rfl .nil)))),?_,?_⟩
     ·exact⟨hJ5,by omega⟩
     ·show l.length+8-(k+8)<l.length+8-k;omega
  ·refine cP ?_;rw[show min k l.length=l.length from by omega]at hJ;change yK Tryz.prog Tryz.f213 (fun _ w'=>J l.length w'∨Jx w') .normal _ [] _;exact l7 rfl (.inl hJ)
end Go.K
namespace Go.K
open Go.Proofs
set_option maxRecDepth 10000
structure ng (M:aU) (w0:World) (v:Value) (bo bx bl D bs bn:Nat) (st:Obj) (vb vk:Value) (tot last:Int) (b:List UInt8) (ks:List Bl) (M1:aU) (w:World):Prop where
 lt:Lt M1 w
 S:Step M w0 M1 w aN
 mo:M1 bo
 mx:M1 bx
 ml:M1 bl
 md:M1 D
 mr:M1 (D+1)
 o:w.heap[bo]? =some (.cells #[.pointer (some ⟨bx,0,none⟩)] 129 (0,0))
 x:w.heap[bx]? =some (.cells #[vb,vk,.int .i64 tot] 193 (0,0))
 l:w.heap[bl]? =some (.cells #[.int .i64 last] 3 (0,0))
 d:w.heap[D]? =some (.deferred (some []))
 r:w.heap[D+1]? =some st
 s:w.heap[bs]? =some (.cells #[v] 107 (0,0))
 n:w.heap[bn]? =some (.cells #[.int .i64 8] 3 (0,0))
 ne:bo≠bx∧bo≠bl∧bx≠bl∧bo<D∧bx<D∧bl<D∧bs<D∧bn<D∧bs≠bo∧bs≠bx∧bs≠bl∧bn≠bo∧bn≠bx∧bn≠bl∧w0.heap.size≤bo∧w0.heap.size≤bx∧w0.heap.size≤bl∧w0.heap.size≤D
 hb:(RT.u8.sl).V M1 w b vb
 hk:Own RT.bl 195 M1 w (D+2) vk ks
section
variable {M M1 M2:aU} {w0 w w':World} {v vb vk:Value} {bo bx bl D bs bn:Nat} {st:Obj} {tot last:Int} {b:List UInt8} {ks:List Bl}
theorem ng.step (h:ng M w0 v bo bx bl D bs bn st vb vk tot last b ks M1 w) (s:Step M1 w M2 w' aN):ng M w0 v bo bx bl D bs bn st vb vk tot last b ks M2 w':=
 ⟨s.lt h.lt,h.S.aE s,(s.mem _ (h.lt _ h.mo)).2 h.mo,(s.mem _ (h.lt _ h.mx)).2 h.mx,(s.mem _ (h.lt _ h.ml)).2 h.ml,(s.mem _ (h.lt _ h.md)).2 h.md,(s.mem _ (h.lt _ h.mr)).2 h.mr,
  s.aX h.o,s.aX h.x,s.aX h.l,s.aX h.d,s.aX h.r,s.aX h.s,s.aX h.n,h.ne,h.hb.le s.le,h.hk.bC s⟩
theorem ng.NL {n:Int} (h:ng M w0 v bo bx bl D bs bn st vb vk tot last b ks M1 w) (s:Step M1 w M1 w' (fun k=>k=bl)) (hl:w'.heap[bl]? =some (.cells #[.int .i64 n] 3 (0,0))):ng M w0 v bo bx bl D bs bn st vb vk tot n b ks M1 w':=by
 obtain⟨e1,e2,e3,e4,e5,e6,e7,e8,e9,T6,W8,O9,T7,W9,e15,T8,Xa,e18⟩:=h.ne
 exact⟨s.lt h.lt,h.S.db s (fun k hk=>by subst hk;exact Xa),h.mo,h.mx,h.ml,h.md,h.mr,s.b9 h.o e2,s.b9 h.x e3,hl,s.b9 h.d (by omega),s.b9 h.r (by omega),s.b9 h.s W8,s.b9 h.n W9,h.ne,h.hb.le s.le,
  h.hk.step s (fun k hk hh=>by have:=(h.hk.base k hk).1;omega)⟩
theorem ng.RM {vb' RN:Value} {Xb:Int} {b':List UInt8} {Xc:List Bl} (h:ng M w0 v bo bx bl D bs bn st vb vk tot last b ks M1 w) (s:Step M1 w M1 w' (fun k=>k=bx)) (hx:w'.heap[bx]? =some (.cells #[vb',RN,.int .i64 Xb] 193 (0,0)))
  (hb:(RT.u8.sl).V M1 w' b' vb') (hk:Own RT.bl 195 M1 w (D+2) RN Xc):ng M w0 v bo bx bl D bs bn st vb' RN Xb last b' Xc M1 w':=by
 obtain⟨e1,e2,e3,e4,e5,e6,e7,e8,e9,T6,W8,O9,T7,W9,e15,T8,Xa,e18⟩:=h.ne
 exact⟨s.lt h.lt,h.S.db s (fun k hk=>by subst hk;exact T8),h.mo,h.mx,h.ml,h.md,h.mr,s.b9 h.o e1,hx,s.b9 h.l (Ne.symm e3),s.b9 h.d (by omega),s.b9 h.r (by omega),s.b9 h.s T6,s.b9 h.n T7,h.ne,hb,
  hk.step s (fun k tC hh=>by have:=(hk.base k tC).1;omega)⟩
theorem ng.mn {st':Obj} (h:ng M w0 v bo bx bl D bs bn st vb vk tot last b ks M1 w) (lg:w.heap[D+1]? =some st):ng M w0 v bo bx bl D bs bn st' vb vk tot last b ks M1 (w.putObj (D+1) st'):=by
 have s:Step M1 w M1 (w.putObj (D+1) st') (fun k=>k=D+1):=ef h.mr;obtain⟨e1,e2,e3,e4,e5,e6,e7,e8,e9,T6,W8,O9,T7,W9,e15,T8,Xa,e18⟩:=h.ne
 exact⟨s.lt h.lt,h.S.db s (fun k hk=>by subst hk;omega),h.mo,h.mx,h.ml,h.md,h.mr,s.b9 h.o (by omega),s.b9 h.x (by omega),s.b9 h.l (by omega),s.b9 h.d (by omega),vu (av lg),s.b9 h.s (by omega),s.b9 h.n (by omega),h.ne,h.hb.le s.le,
  h.hk.step s (fun k tC hh=>by have:=(h.hk.base k tC).1;omega)⟩
theorem ng.other {q:Nat} (h:ng M w0 v bo bx bl D bs bn st vb vk tot last b ks M1 w) (s:Step M1 w M1 w' (fun k=>k=q)) (hq:D+1<q) (hqv:∀k,vk.ownBlock=some k→k≠q):ng M w0 v bo bx bl D bs bn st vb vk tot last b ks M1 w':=by
 obtain⟨e1,e2,e3,e4,e5,e6,e7,e8,e9,T6,W8,O9,T7,W9,e15,T8,Xa,e18⟩:=h.ne
 exact⟨s.lt h.lt,h.S.db s (fun k hk=>by subst hk;omega),h.mo,h.mx,h.ml,h.md,h.mr,s.b9 h.o (by omega),s.b9 h.x (by omega),s.b9 h.l (by omega),s.b9 h.d (by omega),s.b9 h.r (by omega),s.b9 h.s (by omega),s.b9 h.n (by omega),h.ne,h.hb.le s.le,
  h.hk.step s (fun k tC hh=>hqv k tC hh)⟩
theorem ng.grow {RN:Value} {Xc:List Bl} (h:ng M w0 v bo bx bl D bs bn st vb vk tot last b ks M1 w) (s:Step M1 w M2 w' (fun k=>vk.ownBlock=some k)) (hk:Own RT.bl 195 M2 w' (D+2) RN Xc):
  (w'.heap[bx]? =some (.cells #[vb,vk,.int .i64 tot] 193 (0,0))∧M2 bx∧Lt M2 w')∧∀{w2:World},Step M2 w' M2 w2 (fun k=>k=bx)→w2.heap[bx]? =some (.cells #[vb,RN,.int .i64 tot] 193 (0,0))→ng M w0 v bo bx bl D bs bn st vb RN tot last b Xc M2 w2:=by
 obtain⟨e1,e2,e3,e4,e5,e6,e7,e8,e9,T6,W8,O9,T7,W9,e15,T8,Xa,e18⟩:=h.ne;have hn:∀k,vk.ownBlock=some k→D+2≤k:=fun k hk=>(h.hk.base k hk).1
 have fh:=fun {k:Nat} (hm:M1 k)=>(s.mem k (h.lt k hm)).2 hm
 refine⟨⟨s.b9 h.x (fun hh=>by have:=hn _ hh;omega),fh h.mx,s.lt h.lt⟩,fun {w2} s2 hx=>?_⟩;have S':=h.S.db s (fun k hk=>by have:=hn k hk;omega)
 exact⟨s2.lt (s.lt h.lt),S'.db s2 (fun k hk=>by subst hk;exact T8),fh h.mo,fh h.mx,fh h.ml,fh h.md,fh h.mr,s2.b9 (s.b9 h.o (fun hh=>by have:=hn _ hh;omega)) e1,hx,s2.b9 (s.b9 h.l (fun hh=>by have:=hn _ hh;omega)) (Ne.symm e3),
  s2.b9 (s.b9 h.d (fun hh=>by have:=hn _ hh;omega)) (by omega),s2.b9 (s.b9 h.r (fun hh=>by have:=hn _ hh;omega)) (by omega),s2.b9 (s.b9 h.s (fun hh=>by have:=hn _ hh;omega)) T6,s2.b9 (s.b9 h.n (fun hh=>by have:=hn _ hh;omega)) T7,h.ne,(h.hb.le s.le).le s2.le,
  hk.step s2 (fun k tC hh=>by have:=(hk.base k tC).1;omega)⟩
end
def KH (M:aU) (w0:World) (l:List Po) (v:Value) (bo bx bl D bs bn:Nat) (st:Obj) (i:Nat) (w:World):Prop:=
 ∃(M1:aU) (vb vk:Value),ng M w0 v bo bx bl D bs bn st vb vk (iw (l.take i)) (cH (-1) (l.take i)) (dw (-1) (l.take i)) (lM l ((i+7)/8)) M1 w∧(i%8=0∨i=l.length)∧i≤l.length
theorem RO {M:aU} {w0 w2 w3 w5 w6 w7:World} {v:Value} {l:List Po} {bo bx bl bs bn:Nat} {st:Obj} (S6:Step M w0 (ins (ins (ins M bx) bo) bl) w6 aN) (s7:Step (ins (ins (ins M bx) bo) bl) w6 (ins (ins (ins M bx) bo) bl) w7 aN) (hM:Lt M w0)
  (e1:bo<w6.heap.size) (e2:bx<w6.heap.size) (e3:bl<w6.heap.size) (n1:bo≠bx) (n2:bo≠bl) (n3:bx≠bl)
  (hO:w6.heap[bo]? =some (.cells #[.pointer (some ⟨bx,0,none⟩)] 129 (0,0))) (hX:w6.heap[bx]? =some (.cells #[.slice none 0 0,.slice none 0 0,.int .i64 0] 193 (0,0))) (hL:w6.heap[bl]? =some (.cells #[.int .i64 (-1)] 3 (0,0)))
  (hS:w7.heap[bs]? =some (.cells #[v] 107 (0,0))) (hN:w7.heap[bn]? =some (.cells #[.int .i64 8] 3 (0,0))) (hbs:w6.heap.size≤bs) (ZT:w6.heap.size≤bn)
  (g1:w0.heap.size≤bo) (g2:w0.heap.size≤bx) (g3:w0.heap.size≤bl):
  KH M w0 l v bo bx bl w7.heap.size bs bn st 0 ((w7.alloc (.deferred (some []))).alloc st):=by
 have sA:Step (ins (ins (ins M bx) bo) bl) w7 (ins (ins (ins (ins M bx) bo) bl) w7.heap.size) (w7.alloc (.deferred (some []))) aN:=(dA _ w7 _).own (bw _) (by simp);have sB:Step (ins (ins (ins (ins M bx) bo) bl) w7.heap.size) (w7.alloc (.deferred (some []))) (ins (ins (ins (ins (ins M bx) bo) bl) w7.heap.size) (w7.heap.size+1)) ((w7.alloc (.deferred (some []))).alloc st) aN:=(dA _ _ _).own (by simp) (by simp);have z7:=s7.size;have hs7:=av hS;have hn7:=av hN;have S:=((S6.aE s7).aE sA).aE sB;have hD:(w7.alloc (.deferred (some []))).heap[w7.heap.size]? =some (.deferred (some [])):=cO w7 _;have hR:((w7.alloc (.deferred (some []))).alloc st).heap[w7.heap.size+1]? =some st:=by have:=cO (w7.alloc (.deferred (some []))) st;rwa [yH]at this
 have z0:=S6.size;refine⟨_,.slice none 0 0,.slice none 0 0,⟨S.lt hM,S,?_,?_,?_,?_,.inl rfl,sB.aX (sA.aX (s7.aX hO)),sB.aX (sA.aX (s7.aX hX)),sB.aX (sA.aX (s7.aX hL)),sB.aX hD,hR,sB.aX (sA.aX hS),sB.aX (sA.aX hN),by omega,jD,dO _ _ _ _ _⟩,.inl rfl,bM _⟩
 ·exact .inr (.inr (.inr (.inl rfl)))
 ·exact .inr (.inr (.inr (.inr (.inl rfl))))
 ·exact .inr (.inr (.inl rfl))
 ·exact .inr (.inl rfl)
set_option maxHeartbeats 4000000 in
theorem ug {M:aU} {w0:World} {v:Value} {l:List Po} (hM:Lt M w0) (hv:((RT.po).sl).V M w0 l v) (nY:∀p∈l,p.2.length≤1099511627776) (yZ:(dw (-1) l).length≤35184372088832) (Gz:l.length≤1099511627776) (amC:iw l≤4611686018427387904):
  Spec Tryz.prog 126 #[v] w0 (fun v' w'=>Step M w0 M w' aN∧(dH (-1) l=true→∃p,v'= .tuple #[p,.int .i64 0]∧bL RT.li M w' p (iA l))∧(dH (-1) l=false→v'= .tuple #[.pointer none,.int .i64 1])):=by
 have hlen:=dr hv;refine nz (args:=[_]) (fn:=Tryz.f126) Tryz.func126 rfl (n:=85) Tryz.ntmps126 (au (ak (al rfl rfl (al rfl rfl (ae (au (au (ak (aj rfl rfl ?_)))))))));refine aS rfl rfl U1 (zR hM hv) (fun r w1 h1=>?_);obtain⟨rfl,s1⟩:=h1;refine fP rfl rfl (bO (v':= .bool (decide (¬dH (-1) l=true))) (by simp) (ae ?_));refine bW rfl (fun c1=>?_) (fun c1=>?_)
 ·refine au (ak (al rfl rfl (al rfl rfl (ae (aW ?_)))));exact MC rfl rfl rfl ⟨s1,fun h=>absurd h c1,fun _=>rfl⟩
 ·have jb:=cy.1 c1;refine bg (au (ak (eF (places:=[(0,1),(1,1),(2,1)]) dz abd abg rfl rfl (out:=[.slice none 0 0,.slice none 0 0,.int .i64 0]) rfl ?_)));refine vr M rfl rfl (fun bx w2 KG amD hX s2=>?_);change w2.heap[bx]? =some (.cells #[.slice none 0 0,.slice none 0 0,.int .i64 0] 193 (0,0))at hX;refine eu (ins M bx) oZ rfl (fun bo w3 Hu Xd hO s3=>?_);refine cw (M:=ins (ins M bx) bo) oZ rfl rfl hO rfl rfl (.inl rfl) (fun w4 hO4 s4=>?_);refine ae (au (ak ?_));refine eu (ins (ins M bx) bo) I3 rfl (fun bl w5 amF aiW hL s5=>?_);refine cw (M:=ins (ins (ins M bx) bo) bl) I3 rfl rfl hL rfl rfl (.inl rfl) (fun w6 hL6 s6=>?_);have z1:=s1.size;have z2:=s2.size;have z3:=s3.size;have z4:=s4.size;have z5:=s5.size;have z6:=s6.size;have S6:Step M w0 (ins (ins (ins M bx) bo) bl) w6 aN:=((((s1.aE s2).aE s3).db s4 (fun k hk=>by subst hk;omega)).aE s5).db s6 (fun k hk=>by subst hk;omega);have hO6:=s6.b9 (s5.aX hO4) (show bo≠bl by omega);have hX6:=s6.b9 (s5.aX (s4.b9 (s3.aX hX) (show bx≠bo by omega))) (show bx≠bl by omega);refine ae (au (au (ak (aj rfl rfl ?_))));refine aS rfl rfl abr (EM (M:=ins (ins (ins M bx) bo) bl) (S6.lt hM) (hv.le S6.le)) (fun r w7 h7=>?_);obtain⟨bs,bn,rfl,hS7,hN7,hbs,ZT,s7⟩:=h7;have z7:=s7.size;have amJ:=av hS7;have amK:=av hN7;refine ae (bu ?_);refine T.range (gf:=213) (lb:=[.pointer (some ⟨bs,0,none⟩),.pointer (some ⟨bn,0,none⟩)].toArray) rfl abC (fun rec mZ=>?_);obtain⟨D,hD⟩:∃D,D=w7.heap.size:=⟨_,rfl⟩;rw[←hD]at mZ ⊢
  have h0:KH M w0 l v bo bx bl D bs bn (.loop (rec .ready none)) 0 ((w7.alloc (.deferred (some []))).alloc (.loop (rec .ready none))):=by
   rw[hD]at mZ ⊢;exact RO (w2:=w7) (w3:=w7) (w5:=w7) S6 s7 hM (by omega) (by omega) (by omega) (by omega) (by omega) (by omega) hO6 hX6 hL6 hS7 hN7 hbs ZT (by omega) (by omega) (by omega)
  refine Spec.mono (C6 (M:=M) (wv:=w0) (J:=KH M w0 l v bo bx bl D bs bn (.loop (rec .ready none))) (Jx:=fun _=>False) hv (fun i w w' ⟨M1,vb,vk,h,h2⟩ s=>⟨M1,vb,vk,h.step (s.any M1),h2⟩) (fun i w ⟨M1,vb,vk,h,h2⟩=>⟨h.s,h.n⟩) (fun i wr u hJ hi hu=>?_) h0) (fun _ w3 h3=>?_)
  ·obtain⟨M1,vb,vk,h,hi8,nq⟩:=hJ;refine lT (ps:=[17]) (vs:=[u]) mZ h.r rfl (by decide) (ak (al rfl rfl (ae ?_)));refine⟨rfl,h.r,?_⟩;have h1:=h.mn (st':= .loop (rec .busy none)) h.r;generalize wr.putObj (D+1) _=wB at h1 ⊢;have hO:=h1.o;have hX:=h1.x;have hL:=h1.l;have hB:=h1.hb;have ek:=h1.lt;have tB:((l.drop i).take 8).length≤8:=by rw[bU];omega
   have amL:((l.drop i).take 8).length=min 8 (l.length-i):=by rw[bU,dh]
   obtain⟨q1,q2,q3,q4,q5,q6,q7,q8,q9,q10,q11,q12,q13,q14,q15,q16,q17,q18⟩:=h1.ne;refine bu (au ?_);apply T.FC (M:=M1) (n:=85) _ mixed [] [aV.eq _,aV.eq _,aV.eq _,aV.eq _,aV.eq _,aV.eq _,aV.eq _,aV.eq _,aV.eq _,aV.mk' (fun p w'=>∃bq,p= .pointer (some ⟨bq,0,none⟩)∧wB.heap.size≤bq∧w'.heap[bq]? =some (.cells #[.int .i64 0,.int .i64 0,.int .i64 0,.int .i64 0] 195 (0,0))) (fun⟨bq,h1,h2,h3⟩ s=>⟨bq,h1,h2,s.aX h3⟩)]
   ·rfl
   ·rfl
   ·rfl
   ·rfl
   ·exact fun p hp=>by cases hp
   ·exact vM.none
   ·refine bB ?_ ?_
    ·intro wD E sD;refine br cU rfl rfl rfl (cI sD (by assumption)) rfl ?_;exact ae ⟨rfl,rfl,_,rfl,rfl,ah _ _⟩
    refine bB ?_ ?_
    ·intro wD E sD;refine ao (bJ rfl ⟨_,rfl⟩ rfl ?_);exact ae ⟨rfl,rfl,_,rfl,rfl,ah _ _⟩
    refine bB ?_ ?_
    ·intro wD E sD;refine ao (bI dz rfl rfl AH (by decide) rfl rfl ?_);exact ae ⟨rfl,rfl,_,rfl,rfl,ah _ _⟩
    refine bB ?_ ?_
    ·intro wD E sD;refine ao (br bz rfl rfl rfl (cI sD (by assumption)) rfl ?_);exact ae ⟨rfl,rfl,_,rfl,rfl,ah _ _⟩
    refine bB ?_ ?_
    ·intro wD E sD;refine ao ?_
     first|refine bF bz rfl (by assumption) rfl ?_|refine gy bz rfl (by assumption) rfl ?_
     exact ae ⟨rfl,rfl,_,rfl,rfl,ah _ _⟩
    refine bB ?_ ?_
    ·intro wD E sD;refine br aB rfl rfl rfl (cI sD (by assumption)) rfl ?_;exact ae ⟨rfl,rfl,_,rfl,rfl,ah _ _⟩
    refine bB ?_ ?_
    ·intro wD E sD;refine aj rfl rfl ?_;exact ae ⟨rfl,rfl,_,rfl,rfl,ah _ _⟩
    refine bB ?_ ?_
    ·intro wD E sD;refine ao ?_
     first|refine bF aC rfl (by assumption) rfl ?_|refine gy aC rfl (by assumption) rfl ?_
     exact ae ⟨rfl,rfl,_,rfl,rfl,ah _ _⟩
    refine bB ?_ ?_
    ·intro wD E sD;refine ao (ao (ao (eF (places:=[(0,1),(1,1),(2,1),(3,1)]) iz tM abh rfl ⟨_,_,rfl,rfl,_,_,rfl,rfl,_,_,rfl,rfl,rfl⟩ (out:=[.int .i64 (dw (-1) (l.take i)).length,.int .i64 (cH (-1) (l.take i)),.int .i64 0,.int .i64 ((l.drop i).take 8).length]) ⟨0,[_],rfl,rfl,by simp[Value.cells],1,[_],rfl,rfl,by simp[Value.cells],3,[_],rfl,rfl,by simp[Value.cells],rfl⟩ ?_)));exact ae ⟨rfl,rfl,_,rfl,rfl,ah _ _⟩
    refine bB ?_ ?_
    ·intro wD E sD;refine eu M1 tM rfl (fun bq wq e1 e2 e3 s=>?_);exact ae ⟨rfl,rfl,_,rfl,⟨bq,rfl,dJ sD.size e1,e3⟩,s.back⟩
    exact cx.nil
   ·intro T4 zQ;refine ao (ao (ao (ao (ao (ao (ao (ao (ao ?_))))))));intro amV Xe;obtain⟨bq,rfl,PV,hq2⟩:=Xe;have On:=av hq2;have sQ:Step M1 wB (ins M1 bq) T4 aN:=zQ.own PV On;refine eB (M:=ins M1 bq) (vs:=[.int .i64 (dw (-1) (l.take i)).length,.int .i64 (cH (-1) (l.take i)),.int .i64 0,.int .i64 ((l.drop i).take 8).length]) tM rfl rfl (by intro x hx;simp at hx;rcases hx with rfl|rfl|rfl|rfl<;>rfl) rfl rfl hq2 (.inl rfl) (fun wQ hQ sQ2=>?_);refine ae ⟨rfl,?_⟩;have h2:=h1.step (sQ.db sQ2 (fun k hk=>by subst hk;exact PV));have hqv:∀k,vk.ownBlock=some k→k≠bq:=fun k hk=>by have:=(h1.hk.base k hk).2;omega
    have hDq:D+1<bq:=by have:=av h1.r;omega
    have h3:ng M w0 v bo bx bl D bs bn (.loop (rec .busy none)) vb vk (iw (l.take (i+0))) (cH (-1) (l.take (i+0))) (dw (-1) (l.take (i+0))) (lM l ((i+7)/8)) (ins M1 bq) wQ:=h2;obtain⟨M2,Qt⟩:∃M2,M2=ins M1 bq:=⟨_,rfl⟩;rw[←Qt]at h3;refine au (au (ak (aj rfl rfl ?_)))
    first|refine bF aC rfl (by assumption) rfl ?_|refine gy aC rfl (by assumption) rfl ?_
    refine aj rfl rfl (ae (bu ?_));refine de (σ:=Nat×Value) (fun s=>[(4,.pointer (some ⟨bo,0,none⟩)),(5,.pointer (some ⟨bl,0,none⟩)),(6,u),(7,.pointer (some ⟨bq,0,none⟩)),(27,u),(28,.int .i64 ((l.drop i).take 8).length),(29,.int .i64 s.1)]) (fun s w=>s.1≤((l.drop i).take 8).length∧w.heap[bq]? =some (.cells #[.int .i64 (dw (-1) (l.take i)).length,.int .i64 (cH (-1) (l.take i)),.int .i64 0,.int .i64 ((l.drop i).take 8).length] 195 (0,0))∧ng M w0 v bo bx bl D bs bn (.loop (rec .busy none)) s.2 vk (iw (l.take (i+s.1))) (cH (-1) (l.take (i+s.1))) (dw (-1) (l.take (i+s.1))) (lM l ((i+7)/8)) M2 w) (fun s=>((l.drop i).take 8).length-s.1) (0,vb) (.cons rfl (.cons rfl (.cons rfl (.cons rfl (.cons rfl (.cons rfl (.cons rfl .nil))))))) ?_ ?_
    ·exact⟨bM _,hQ,h3⟩
    ·rintro⟨j,vb⟩ wj ⟨hj,hQ,h4⟩;dsimp only at hj hQ h4 ⊢;have ek:=h4.lt;refine au (ak (cu rfl rfl rfl (ae (au ?_))));refine bW rfl (fun c9=>?_) (fun c9=>?_)
     ·refine bg (au (bu (au (ak ?_))));obtain⟨⟨d,ps⟩,hx⟩:∃x,l[i+j]? =some x:=⟨_,aI (by omega)⟩;obtain⟨f1,f2,f3,f4,f5,f6⟩:=l9 jb hx;obtain⟨f7,f8⟩:=je.1 f4;have fps:=nY _ (aQ hx);have fb:=k8 l (i+j);have ft:=B1 l (i+j);have ft2:=B1 l (i+j+1);rw[wK hx]at ft2;have ftk:=ma (-1) hx;have ftl:=k8 l (i+j+1);simp only at fps;refine bS (M:=M2) aC dW rfl rfl rfl (hu.le h4.S.le) (ar _ _) (by omega) (fun VI Xf RP QA=>?_);obtain rfl:(d,ps)=Xf:=bY (aG (RP.symm.trans (by rw[aK,eE,if_pos (by omega),List.getElem?_drop];exact hx)));refine cc (M:=M2) (A:=RT.po) aP rfl dW (by decide) rfl rfl rfl (by assumption) (by repeat (first|exact ar _ _|refine aT (bh (by assumption)) ?_)) (fun VJ Ji=>?_);refine mG (A:=RT.po) (M:=M2) dW rfl rfl rfl rfl rfl (by assumption) (by repeat (first|exact ar _ _|refine aT (bh (by assumption)) ?_)) (by first|assumption|exact Step.lt (by assumption) (by assumption)|exact Step.lt (by assumption) (Step.lt (by assumption) (by assumption))) (fun ai1 ai2 RQ Pb ai3=>?_);refine ae (au ?_);have h5:=h4.step Pb;have hO:=h5.o;have hX:=h5.x;have hL:=h5.l;have hB:=h5.hb;have ek:=h5.lt;have hp0:=RQ;apply T.FC (M:=M2) (n:=85) _ mixed [] [aV.eq _,aV.eq _,aV.eq _,aV.eq _,aV.eq _,aV.ptr (RT.int .i64) d,aV.eq (.int .i64 d),aV.eq _,aV.eq _,aV.eq (.int .i64 (((d-cH (-1) (l.take (i+j))-1).toNat:Nat):Int)),aV.V (RT.u8.sl) (dw (-1) (l.take (i+j))++put (d-cH (-1) (l.take (i+j))-1).toNat),aV.eq _,aV.eq _]
      ·rfl
      ·rfl
      ·rfl
      ·rfl
      ·exact fun p hp=>by cases hp
      ·exact vM.none
      ·refine bB ?_ ?_
       ·intro wD E sD;refine br cU rfl rfl rfl (cI sD (by assumption)) rfl ?_;exact ae ⟨rfl,rfl,_,rfl,rfl,ah _ _⟩
       refine bB ?_ ?_
       ·intro wD E sD;refine br cU rfl rfl rfl (cI sD (by assumption)) rfl ?_;exact ae ⟨rfl,rfl,_,rfl,rfl,ah _ _⟩
       refine bB ?_ ?_
       ·intro wD E sD;refine ao (bJ rfl ⟨_,rfl⟩ rfl ?_);exact ae ⟨rfl,rfl,_,rfl,rfl,ah _ _⟩
       refine bB ?_ ?_
       ·intro wD E sD;refine ao (bI dz rfl rfl AH (by decide) rfl rfl ?_);exact ae ⟨rfl,rfl,_,rfl,rfl,ah _ _⟩
       refine bB ?_ ?_
       ·intro wD E sD;refine ao (br bz rfl rfl rfl (cI sD (by assumption)) rfl ?_);exact ae ⟨rfl,rfl,_,rfl,rfl,ah _ _⟩
       refine bB ?_ ?_
       ·intro wD E sD;refine aA (M:=M2) (A:=RT.po) (B:=RT.int .i64) aP rfl rfl I3 (by decide) (na) rfl rfl (by decide) (by assumption) (by repeat (first|exact ar _ _|refine aT (bh (by assumption)) ?_)) (fun ai4 aei=>?_);exact ae ⟨rfl,rfl,_,rfl,by assumption,ah _ _⟩
       refine bB ?_ ?_
       ·intro wD E sD;intro v5 oz;refine bK (M:=M2) aB rfl rfl (by assumption) (by repeat (first|exact ar _ _|refine aT (bh (by assumption)) ?_)) (fun aej=>?_);exact ae ⟨rfl,rfl,_,rfl,rfl,ah _ _⟩
       refine bB ?_ ?_
       ·intro wD E sD;refine br aB rfl rfl rfl (cI sD (by assumption)) rfl ?_;exact ae ⟨rfl,rfl,_,rfl,rfl,ah _ _⟩
       refine bB ?_ ?_
       ·intro wD E sD;refine ao (ao (eJ rfl rfl rfl (by omega) ?_));exact ae ⟨rfl,rfl,_,rfl,rfl,ah _ _⟩
       refine bB ?_ ?_
       ·intro wD E sD;refine ao (eJ rfl rfl rfl (by omega) (bO (v':= .int .i64 (((d-cH (-1) (l.take (i+j))-1).toNat:Nat):Int)) (by congr 1;omega) ?_));exact ae ⟨rfl,rfl,_,rfl,rfl,ah _ _⟩
       refine bB ?_ ?_
       ·intro wD E sD;refine ao (ao ?_);refine aS rfl rfl Qa (Kq (M:=M2) (sD.lt ek) (hB.le sD.le) (by omega) (by omega)) (fun rP wP hP=>?_);exact ae ⟨rfl,rfl,_,rfl,hP.2,hP.1⟩
       refine bB ?_ ?_
       ·intro wD E sD;refine ao (ao (ao (ao (ao (ao ?_)))));intro v5 oz;refine ao (ao (ao (ao ?_)));intro v10 iU;refine bJ rfl ⟨_,rfl⟩ rfl ?_;exact ae ⟨rfl,rfl,_,rfl,rfl,ah _ _⟩
       refine bB ?_ ?_
       ·intro wD E sD;refine ao (ao (ao (ao (ao (ao ?_)))));intro v5 oz;refine ao (ao (ao (ao ?_)));intro v10 iU;refine bI dz rfl rfl AH (by decide) rfl rfl ?_;exact ae ⟨rfl,rfl,_,rfl,rfl,ah _ _⟩
       exact cx.nil
      ·intro y4 fF;refine ao (ao (ao (ao (ao ?_))));intro ai5 aek;refine ao (ao (ao (ao ?_)));intro ael Gb;refine ao (ao ?_);have h6:=h5.step fF;have hp6:=hp0.le (by decide) fF.le;refine cw (M:=M2) AH rfl rfl h6.x rfl (iV Gb rfl rfl) h6.mx (fun w11 aem tq=>?_);refine ae ⟨rfl,?_⟩;have h7:=h6.RM tq aem (RT.V.le tq.le Gb) h6.hk;have T5:=hp6.le (by decide) tq.le;refine au ?_;have hO:=h7.o;have hX:=h7.x;have hB:=h7.hb;have ek:=h7.lt;have fbl:(dw (-1) (l.take (i+j))++put (d-cH (-1) (l.take (i+j))-1).toNat).length≤35184372088832:=by rw[ftk]at ftl;simp only[bP]at ftl ⊢;omega
       apply T.Om (M:=M2) mixed [(13,fun k=>k=bx)] [aV.eq _,aV.eq _,aV.eq _,aV.eq _,aV.eq _,aV.ptr ((RT.int .i64).sl) ps,aV.V ((RT.int .i64).sl) ps,⟨fun t w=>∃x,t= .tuple #[x,.int .i64 0]∧(RT.u8.sl).V M2 w (dw (-1) (l.take (i+j))++put (d-cH (-1) (l.take (i+j))-1).toNat++dY ps) x,Gu,fun⟨x,h1,h2⟩ s _=>⟨x,h1,h2.le s.le⟩⟩,⟨fun t w=>∃x,t= .tuple #[x,.int .i64 0]∧(RT.u8.sl).V M2 w (dw (-1) (l.take (i+j))++put (d-cH (-1) (l.take (i+j))-1).toNat++dY ps) x,Gu,fun⟨x,h1,h2⟩ s _=>⟨x,h1,h2.le s.le⟩⟩,aV.V (RT.u8.sl) (dw (-1) (l.take (i+j))++put (d-cH (-1) (l.take (i+j))-1).toNat++dY ps),aV.eq (.int .i64 0),aV.eq _,aV.eq _,⟨fun _ w=>∃x,w.heap[bx]? =some (.cells #[x,vk,.int .i64 (iw (l.take (i+j)))] 193 (0,0))∧(RT.u8.sl).V M2 w (dw (-1) (l.take (i+j))++put (d-cH (-1) (l.take (i+j))-1).toNat++dY ps) x,fun k=>k≠bx,fun⟨x,h1,h2⟩ s hN=>⟨x,s.b9 h1 (fun hb=>hN _ hb rfl),h2.le s.le⟩⟩]
       ·rfl
       ·intro p hp b hb;simp only[cT]at hp;subst hp
        cases hb;exact h7.mx
       ·exact⟨fun _ _ _ _=>trivial,⟨fun _ _ _ _=>trivial,⟨fun _ _ _ _=>trivial,⟨fun _ _ _ _=>trivial,⟨fun _ _ _ _=>trivial,⟨fun _ _ _ _=>trivial,⟨fun _ _ _ _=>trivial,⟨fun _ _ _ _=>trivial,⟨fun _ _ _ _=>trivial,⟨fun _ _ _ _=>trivial,⟨fun _ _ _ _=>trivial,⟨fun _ _ _ _=>trivial,⟨fun _ _ _ _=>trivial,⟨fun p hp=>by simp at hp,trivial⟩⟩⟩⟩⟩⟩⟩⟩⟩⟩⟩⟩⟩⟩
       ·refine an ?_ ?_
        ·intro wD E sD;replace sD:Step M2 _ M2 wD aN:=sD;refine br cU rfl rfl rfl (cI sD (by assumption)) rfl ?_;exact ae ⟨rfl,rfl,_,rfl,rfl,ah _ _⟩
        refine an ?_ ?_
        ·intro wD E sD;replace sD:Step M2 _ M2 wD aN:=sD;refine br cU rfl rfl rfl (cI sD (by assumption)) rfl ?_;exact ae ⟨rfl,rfl,_,rfl,rfl,ah _ _⟩
        refine an ?_ ?_
        ·intro wD E sD;replace sD:Step M2 _ M2 wD aN:=sD;refine ao (bJ rfl ⟨_,rfl⟩ rfl ?_);exact ae ⟨rfl,rfl,_,rfl,rfl,ah _ _⟩
        refine an ?_ ?_
        ·intro wD E sD;replace sD:Step M2 _ M2 wD aN:=sD;refine ao (bI dz rfl rfl AH (by decide) rfl rfl ?_);exact ae ⟨rfl,rfl,_,rfl,rfl,ah _ _⟩
        refine an ?_ ?_
        ·intro wD E sD;replace sD:Step M2 _ M2 wD aN:=sD;refine ao (br bz rfl rfl rfl (cI sD (by assumption)) rfl ?_);exact ae ⟨rfl,rfl,_,rfl,rfl,ah _ _⟩
        refine an ?_ ?_
        ·intro wD E sD;replace sD:Step M2 _ M2 wD aN:=sD;refine aA (M:=M2) (A:=RT.po) (B:=(RT.int .i64).sl) aP rfl rfl gT (by decide) zr rfl rfl (by decide) T5 sD.le (fun uf fB=>?_);exact ae ⟨rfl,rfl,_,rfl,fB,ah _ _⟩
        refine an ?_ ?_
        ·intro wD E sD;replace sD:Step M2 _ M2 wD aN:=sD;intro v5 oz;refine aY (M:=M2) ay rfl rfl rfl rfl rfl (show bL ((RT.int .i64).sl) M2 wD v5 ps from oz) (ar _ _) (fun uf fB=>?_);exact ae ⟨rfl,rfl,_,rfl,fB,ah _ _⟩
        refine an ?_ ?_
        ·intro wD E sD;replace sD:Step M2 _ M2 wD aN:=sD;refine ao ?_;intro v6 nS;refine aS rfl rfl abt (xF (M:=M2) (sD.lt ek) (hB.le sD.le) (show((RT.int .i64).sl).V M2 wD ps v6 from nS) (by omega)) (fun rP wP hP=>?_);obtain⟨xP,sP,hP1,Xg⟩:=hP;rw[if_pos f7]at hP1 Xg;exact ae ⟨rfl,rfl,_,rfl,⟨xP,hP1,Xg⟩,sP⟩
        refine an ?_ ?_
        ·intro wD E sD;replace sD:Step M2 _ M2 wD aN:=sD;intro v7 qH;refine aj rfl rfl ?_;exact ae ⟨rfl,rfl,_,rfl,qH,ah _ _⟩
        refine an ?_ ?_
        ·intro wD E sD;replace sD:Step M2 _ M2 wD aN:=sD;intro v8 tn;obtain⟨xP,rfl,Xg⟩:=tn;refine b5 rfl rfl rfl ?_;exact ae ⟨rfl,rfl,_,rfl,Xg,ah _ _⟩
        refine an ?_ ?_
        ·intro wD E sD;replace sD:Step M2 _ M2 wD (fun k=>k=bx):=sD;intro v8 tn;obtain⟨xP,rfl,Xg⟩:=tn;refine b5 rfl rfl rfl ?_;exact ae ⟨rfl,rfl,_,rfl,rfl,ah _ _⟩
        refine an ?_ ?_
        ·intro wD E sD;replace sD:Step M2 _ M2 wD (fun k=>k=bx):=sD;refine ao (ao (ao (ao (ao (ao ?_)))));intro v5 oz;intro v6 nS;intro v7 qH;intro v8 tn;intro v9 qi;refine bJ rfl ⟨_,rfl⟩ rfl ?_;exact ae ⟨rfl,rfl,_,rfl,rfl,ah _ _⟩
        refine an ?_ ?_
        ·intro wD E sD;replace sD:Step M2 _ M2 wD aN:=sD;refine ao (ao (ao (ao (ao (ao ?_)))));intro v5 oz;intro v6 nS;intro v7 qH;intro v8 tn;intro v9 qi;refine bI dz rfl rfl AH (by decide) rfl rfl ?_;exact ae ⟨rfl,rfl,_,rfl,rfl,ah _ _⟩
        refine an ?_ ?_
        ·intro wD E sD;replace sD:Step M2 _ M2 wD aN:=sD;refine ao ?_;intro v9 qi;intro v7 qH;refine ao (ao (ao (ao (ao ?_))));intro v5 oz;intro v6 nS;intro v7 qH;intro v8 tn;intro v9 qi;refine cw (M:=M2) AH rfl rfl (cI sD hX) rfl (iV (A:=RT.u8.sl) qi rfl rfl) h7.mx (fun wS hXS sS=>?_);exact ae ⟨rfl,rfl,undef,rfl,⟨_,hXS,RT.V.le (A:=RT.u8.sl) sS.le qi⟩,sS⟩
        exact fC
       ·intro KI xL;replace xL:Step M2 _ M2 KI (fun k=>k=bx):=xL;refine ao (ao (ao (ao (ao ?_))));intro ai7 aen;intro ai8 aeo;intro ai9 aep;intro aja aeq;intro ajb aer;refine ao (ao (ao ?_));intro aes NM;obtain⟨v12,aet,aeu⟩:=NM;have h8:=h7.RM xL aet aeu h7.hk;have hp8:=T5.le (by decide) xL.le;refine au ?_;have hO:=h8.o;have hX:=h8.x;apply T.FC (M:=M2) (n:=85) _ mixed [] [aV.eq _,aV.eq _,aV.eq _,aV.eq _,aV.ptr ((RT.int .i64).sl) ps,aV.V ((RT.int .i64).sl) ps,aV.eq (.int .i64 ps.length),aV.eq _,aV.eq _,aV.eq _]
        ·rfl
        ·rfl
        ·rfl
        ·rfl
        ·exact fun p hp=>by cases hp
        ·exact vM.none
        ·refine bB ?_ ?_
         ·intro wD E sD;refine br cU rfl rfl rfl (cI sD (by assumption)) rfl ?_;exact ae ⟨rfl,rfl,_,rfl,rfl,ah _ _⟩
         refine bB ?_ ?_
         ·intro wD E sD;refine ao (bJ rfl ⟨_,rfl⟩ rfl ?_);exact ae ⟨rfl,rfl,_,rfl,rfl,ah _ _⟩
         refine bB ?_ ?_
         ·intro wD E sD;refine ao (bI dz rfl rfl I3 (by decide) rfl rfl ?_);exact ae ⟨rfl,rfl,_,rfl,rfl,ah _ _⟩
         refine bB ?_ ?_
         ·intro wD E sD;refine ao (br aB rfl rfl rfl (cI sD (by assumption)) rfl ?_);exact ae ⟨rfl,rfl,_,rfl,rfl,ah _ _⟩
         refine bB ?_ ?_
         ·intro wD E sD;refine aA (M:=M2) (A:=RT.po) (B:=(RT.int .i64).sl) aP rfl rfl gT (by decide) zr rfl rfl (by decide) hp8 sD.le (fun uf fB=>?_);exact ae ⟨rfl,rfl,_,rfl,fB,ah _ _⟩
         refine bB ?_ ?_
         ·intro wD E sD;intro v4 oQ;refine aY (M:=M2) ay rfl rfl rfl rfl rfl (show bL ((RT.int .i64).sl) M2 wD v4 ps from oQ) (ar _ _) (fun uf fB=>?_);exact ae ⟨rfl,rfl,_,rfl,fB,ah _ _⟩
         refine bB ?_ ?_
         ·intro wD E sD;intro v5 oz;refine bF ay rfl (show((RT.int .i64).sl).V M2 wD ps v5 from oz) rfl ?_;exact ae ⟨rfl,rfl,_,rfl,rfl,ah _ _⟩
         refine bB ?_ ?_
         ·intro wD E sD;refine ao (ao (bQ rfl rfl rfl (by omega) ?_));exact ae ⟨rfl,rfl,_,rfl,rfl,ah _ _⟩
         refine bB ?_ ?_
         ·intro wD E sD;refine ao (ao (ao (ao (ao ?_))));intro v4 oQ;intro v5 oz;refine ao (ao (bJ rfl ⟨_,rfl⟩ rfl ?_));exact ae ⟨rfl,rfl,_,rfl,rfl,ah _ _⟩
         refine bB ?_ ?_
         ·intro wD E sD;refine ao (ao (ao (ao (ao ?_))));intro v4 oQ;intro v5 oz;refine ao (ao (bI dz rfl rfl I3 (by decide) rfl rfl ?_));exact ae ⟨rfl,rfl,_,rfl,rfl,ah _ _⟩
         exact cx.nil
        ·intro QB ox;refine ao (ao (ao (ao ?_)));intro ajd aev;intro OG AV;refine ao (ao (ao (ao ?_)));have h9:=h8.step ox;refine cw (M:=M2) I3 rfl rfl h9.x rfl rfl h9.mx (fun Ws aew y5=>?_);refine ae ⟨rfl,?_⟩;have Hr:=h9.RM y5 aew (h9.hb.le y5.le) h9.hk;have aex:=(hp8.le (by decide) ox.le).le (by decide) y5.le;refine ak ?_;refine aA (M:=M2) (A:=RT.po) (B:=RT.int .i64) aP rfl rfl I3 (by decide) na rfl rfl (by decide) aex (ar _ _) (fun aje RR=>?_);refine bK (M:=M2) aB rfl rfl RR (ar _ _) (fun _=>?_);refine bO (v':= .int .i64 d) rfl ?_;refine cw (M:=M2) I3 rfl rfl Hr.l rfl rfl Hr.ml (fun VX aey lu=>?_);have h11:=Hr.NL lu aey;refine ae (ak (bQ rfl rfl rfl (by omega) (aj rfl rfl (ae ?_))));refine⟨rfl,(j+1,v12),(.cons rfl (.cons rfl (.cons rfl (.cons rfl (.cons rfl (.cons rfl (.cons rfl .nil))))))),?_,?_⟩
         ·refine⟨by simp only;omega,?_,?_⟩
          ·exact lu.b9 (y5.b9 (ox.aX (xL.b9 (tq.b9 (fF.aX (Pb.aX hQ)) (by omega)) (by omega))) (by omega)) (by omega)
          ·simp only;rw[show i+(j+1)=i+j+1 from by omega,wK hx,f5,ftk];exact h11
         ·simp only;omega
     ·refine cP (au (ak ?_));obtain rfl:j=((l.drop i).take 8).length:=by omega
      have Up:M2 bq:=by rw[Qt];exact .inl rfl
      refine br aB rfl rfl rfl h4.l rfl (bI (o':=2) iz rfl rfl I3 (by decide) rfl rfl ?_);refine cw (M:=M2) I3 rfl rfl hQ rfl rfl Up (fun Pc Xh EN=>?_);have T9:=h4.other EN hDq hqv;change Pc.heap[bq]? =some (.cells [.int .i64 (dw (-1) (l.take i)).length,.int .i64 (cH (-1) (l.take i)),.int .i64 (cH (-1) (l.take (i+((l.drop i).take 8).length))),.int .i64 ((l.drop i).take 8).length].toArray 195 (0,0))at Xh;refine ae ?_;have hO:=T9.o;have hX:=T9.x;have NN:=T9.hk;have jX:∀k,vk.ownBlock=some k→k≠bo:=fun k hk=>by have:=(NN.base k hk).1;omega
      have am3:=av T9.r;have g1:=j0 l (-1) jb (by omega) i;have g2:=j0 l (-1) jb (by omega) (i+((l.drop i).take 8).length);have g3:=k8 l i;apply T.FC (M:=M2) (n:=85) _ mixed [(7,fun k=>vk.ownBlock=some k)] [aV.eq _,aV.eq _,aV.eq _,aV.eq _,aV.eq _,aV.eq (.agg [.int .i64 (dw (-1) (l.take i)).length,.int .i64 (cH (-1) (l.take i)),.int .i64 (cH (-1) (l.take (i+((l.drop i).take 8).length))),.int .i64 ((l.drop i).take 8).length].toArray),aV.V ((RT.bl).sl) [(((dw (-1) (l.take i)).length:Int),cH (-1) (l.take i),cH (-1) (l.take (i+((l.drop i).take 8).length)),(((l.drop i).take 8).length:Int))],⟨fun t w=>∃M3,Own RT.bl 195 M3 w (D+2) t (lM l ((i+7)/8)++[(((dw (-1) (l.take i)).length:Int),cH (-1) (l.take i),cH (-1) (l.take (i+((l.drop i).take 8).length)),(((l.drop i).take 8).length:Int))])∧Step M2 Pc M3 w (fun k=>vk.ownBlock=some k),aN,fun⟨M3,h1,h2⟩ s hN=>⟨M3,h1.bC ((s.cD hN (fun _ h=>h.elim)).any M3),h2.aE ((s.cD hN (fun _ h=>h.elim)).any M3)⟩⟩,aV.eq _,aV.eq _]
      ·rfl
      ·rfl
      ·rfl
      ·rfl
      ·intro p hp b hb;simp only[cT]at hp;subst hp;exact NN.mut_ b hb
      ·exact⟨fun _ _ _ _=>trivial,⟨fun _ _ _ _=>trivial,⟨fun _ _ _ _=>trivial,⟨fun _ _ _ _=>trivial,⟨fun _ _ _ _=>trivial,⟨fun _ _ _ _=>trivial,⟨fun _ _ _ _=>trivial,⟨fun p hp=>by simp at hp,⟨fun _ _ _ _=>trivial,⟨fun _ _ _ _=>trivial,trivial⟩⟩⟩⟩⟩⟩⟩⟩⟩⟩
      ·refine bB ?_ ?_
       ·intro wD E sD;replace sD:Step M2 _ M2 wD (fun k=>vk.ownBlock=some k):=sD;refine br cU rfl rfl rfl (sD.b9 hO (fun hb=>jX _ hb rfl)) rfl ?_;exact ae ⟨rfl,rfl,_,rfl,rfl,ah _ _⟩
       refine bB ?_ ?_
       ·intro wD E sD;replace sD:Step M2 _ M2 wD (fun k=>vk.ownBlock=some k):=sD;refine br cU rfl rfl rfl (sD.b9 hO (fun hb=>jX _ hb rfl)) rfl ?_;exact ae ⟨rfl,rfl,_,rfl,rfl,ah _ _⟩
       refine bB ?_ ?_
       ·intro wD E sD;replace sD:Step M2 _ M2 wD (fun k=>vk.ownBlock=some k):=sD;refine ao (bJ rfl ⟨_,rfl⟩ rfl ?_);exact ae ⟨rfl,rfl,_,rfl,rfl,ah _ _⟩
       refine bB ?_ ?_
       ·intro wD E sD;replace sD:Step M2 _ M2 wD (fun k=>vk.ownBlock=some k):=sD;refine ao (bI dz rfl rfl AI (by decide) rfl rfl ?_);exact ae ⟨rfl,rfl,_,rfl,rfl,ah _ _⟩
       refine bB ?_ ?_
       ·intro wD E sD;replace sD:Step M2 _ M2 wD aN:=sD;refine ao (br dq rfl rfl rfl (cI sD (by assumption)) rfl ?_);exact ae ⟨rfl,rfl,_,rfl,rfl,ah _ _⟩
       refine bB ?_ ?_
       ·intro wD E sD;replace sD:Step M2 _ M2 wD (fun k=>vk.ownBlock=some k):=sD;refine gQ (vs:=[.int .i64 (dw (-1) (l.take i)).length,.int .i64 (cH (-1) (l.take i)),.int .i64 (cH (-1) (l.take (i+((l.drop i).take 8).length))),.int .i64 ((l.drop i).take 8).length]) iz rfl tM rfl rfl rfl (sD.b9 Xh (fun hb=>hqv _ hb rfl)) ?_;exact ae ⟨rfl,rfl,_,rfl,rfl,ah _ _⟩
       refine bB ?_ ?_
       ·intro wD E sD;replace sD:Step M2 _ M2 wD aN:=sD;refine ao ?_;refine ez (A:=RT.bl) (hn:=by decide) (M:=M2) dq tM (by decide) rfl rfl (sD.lt T9.lt) (abb (by omega) (by omega) (by omega) (by omega)) (.inl rfl) (fun uS wS hS sS=>?_);exact ae ⟨rfl,rfl,_,rfl,hS,sS⟩
       refine bB ?_ ?_
       ·intro wD E sD;replace sD:Step M2 _ M2 wD aN:=sD;refine ao ?_;intro v6 nS;refine cz (M:=M2) (base:=D+2) dq tM rfl rfl rfl rfl (NN.bC sD) (show((RT.bl).sl).V M2 wD [(((dw (-1) (l.take i)).length:Int),cH (-1) (l.take i),cH (-1) (l.take (i+((l.drop i).take 8).length)),(((l.drop i).take 8).length:Int))] v6 from nS) (ar _ _) (by simp[lM];omega) (by simp[lM];omega) (by have:=sD.size;omega) (fun v3 M3 w3 ud s3=>?_);exact ae ⟨rfl,rfl,_,rfl,⟨M3,ud,(sD.cD (fun _ h=>h.elim) NN.mut_).trans s3 (fun b _ hb=>hb)⟩,s3.back⟩
       refine bB ?_ ?_
       ·intro wD E sD;replace sD:Step M2 _ M2 wD (fun k=>vk.ownBlock=some k):=sD;refine ao (ao (ao (ao (ao (ao (ao ?_))))));intro v6 nS;intro v7 qH;refine bJ rfl ⟨_,rfl⟩ rfl ?_;exact ae ⟨rfl,rfl,_,rfl,rfl,ah _ _⟩
       refine bB ?_ ?_
       ·intro wD E sD;replace sD:Step M2 _ M2 wD (fun k=>vk.ownBlock=some k):=sD;refine ao (ao (ao (ao (ao (ao (ao ?_))))));intro v6 nS;intro v7 qH;refine bI dz rfl rfl AI (by decide) rfl rfl ?_;exact ae ⟨rfl,rfl,_,rfl,rfl,ah _ _⟩
       exact cx.nil
      ·intro aez Xi;replace Xi:Step M2 _ M2 aez (fun k=>vk.ownBlock=some k):=Xi;refine ao (ao (ao (ao (ao (ao ?_)))));intro ajf aeA;intro ajg RS;refine ao (ao ?_);obtain⟨M3,ud,sR⟩:=RS;obtain⟨⟨RE,hm3,am4⟩,HP⟩:=T9.grow sR ud;refine cw (M:=M3) AI rfl rfl RE rfl (by obtain⟨_,_,he,_⟩:=ud.isSlice;rw[he];rfl) hm3 (fun w17 aeC Ma=>?_);refine ae ⟨rfl,?_⟩;have Rq:=HP Ma aeC;have h18:=Rq.mn (st':= .loop (rec .ready none)) Rq.r;have hE:i+((l.drop i).take 8).length=min (i+8) l.length:=by omega
       rw[hE,IE (by omega) hi]at h18;exact⟨Rq.r,true,rfl,fun _=>⟨M3,_,_,h18,by omega,by omega⟩,fun h=>by cases h⟩
  ·obtain⟨Mz,vb,vk,h,_,_⟩:=h3.resolve_right (fun h=>h);left;rw[tt]at h;have h5:=h.mn (st':= .loop (rec .exhausted none)) h.r;refine⟨h.r,?_⟩;generalize w3.putObj (D+1) _=wE at h5 ⊢;refine au (ak (br cU rfl rfl rfl h5.o rfl (al rfl rfl (al rfl rfl (ae (aW ?_))))));obtain⟨q1,q2,q3,q4,q5,q6,q7,q8,q9,q10,q11,q12,q13,q14,q15,q16,q17,q18⟩:=h5.ne;have sZ:Step Mz wE Mz (wE.putObj D (.deferred none)) (fun k=>k=D):=ef h5.md;have SZ:=h5.S.db sZ (fun k hk=>by subst hk;omega);have ht:=og l;refine P0 rfl rfl rfl h5.d ⟨SZ.back,fun _=>⟨_,rfl,?_⟩,fun hf=>by rw[jb]at hf;cases hf⟩;exact US (sZ.b9 h5.x (by omega)) (fun hh=>by have:=hM _ hh;omega) ((h5.hb.le sZ.le).le (ly hM SZ)) (fQ hM SZ ((h5.hk.step sZ (fun k hk hh=>by have:=(h5.hk.base k hk).1;omega)).lB (by omega)) (by simp[lM];omega)) (by omega)
end Go.K
namespace Go.K
open Go.Proofs
namespace TKBldG
theorem fX:TI Tryz.prog 107 (.slice none 0 0) 1 24:=by unfold TI;kernel_rfl
theorem xM:TI Tryz.prog 188 (.slice none 0 0) 1 24:=by unfold TI;kernel_rfl
theorem Hv:Enters Tryz.prog 126:=enters Tryz.func126 rfl (by decide)
theorem aeD:Enters Tryz.prog 175:=enters Tryz.func175 rfl (by decide)
end TKBldG
open TKBldG
set_option maxRecDepth 10000
theorem index_spec {M:aU} {l:List (List Po)} {v0:Value} {g:FuncId} {cap:List Value} {B:Nat} {J:Nat→aU→World→Prop} {bad:List Po→Bool} (w0:World) (hM:Lt M w0) (hv:(((RT.po).sl).sl).V M w0 l v0) (hg:Enters Tryz.prog g) (hJ:J 0 M w0) (lg:∀i M w M' w',J i M w→Step M w M' w' aN→J i M' w') (ht:∀i M w x vx,J i M w→Lt M w→l[i]? =some x→((RT.po).sl).V M w x vx→Spec Tryz.prog g ([vx]++cap).toArray w (fun v w'=>∃M',Lt M' w'∧v= .bool (bad x)∧(bad x=false→J (i+1) M' w')∧Step M w M' w' (kL M B))):
  Spec Tryz.prog 175 #[v0,.func (.func g) #[] cap.toArray] w0 (fun v w=>∃M' k,v= .int .i64 k∧ -1≤k∧Lt M' w∧Step M w0 M' w (kL M B)∧(k= -1→(∀x∈l,bad x=false)∧J l.length M' w)∧(0≤k→∃x∈l,bad x=true)):=by
 have hlen:=dr hv;refine bE (args:=[_,_]) (fn:=Tryz.f175) Tryz.func175 rfl (n:=19) Tryz.ntmps175 ?_;have S:Step M w0 M w0 (kL M B):=(ah _ _).cD (fun _ h=>h.elim) (fun _ h=>h.2);refine au (ak (al rfl rfl (ae (au (au (ak (aj rfl rfl (bF bH rfl hv rfl (aj rfl rfl (ae (bu ?_)))))))))));refine de (σ:=Nat) (fun q=>[(0,v0),(1,.func (.func g) #[] cap.toArray),(6,v0),(7,.int .i64 (l.length:Int)),(8,.int .i64 (q:Int))]) (fun q w=>∃M',Lt M' w∧Step M w0 M' w (kL M B)∧(((RT.po).sl).sl).V M' w l v0∧J q M' w∧q≤l.length∧∀x∈l.take q,bad x=false) (fun q=>l.length-q) 0 (.cons rfl (.cons rfl (.cons rfl (.cons rfl (.cons rfl .nil))))) ?_ ?_
 ·exact⟨M,hM,S,hv,hJ,bM _,fun x h=>by simp at h⟩
 ·clear hM S hv hJ;rintro i w ⟨M1,hM,S,hv,hJ,hi,jU⟩;refine au (ak (cu rfl rfl rfl (ae (au ?_))));refine bW rfl (fun c2=>?_) (fun c2=>?_)
  ·refine bg (au (bu (au (ak (aj rfl rfl (al rfl rfl (ae (au (ak (aj rfl rfl (aj rfl rfl ?_)))))))))));refine aj rfl rfl ?_;refine bS (M:=M1) bH fX rfl rfl rfl hv (ar _ _) (by omega) (fun u x BD hu=>?_);rw[aK]at BD;refine aY (M:=M1) aC rfl rfl rfl rfl rfl hu (ar _ _) (fun vx tS=>?_);refine Rg.rM (first:=[]) (captured:=cap) (xs:=[.tmp 15]) rfl rfl rfl hg (ht i _ _ x vx hJ hM BD tS) (fun r4 w4 hc=>?_);obtain⟨M4,Xj,rfl,hJ4,s4⟩:=hc;refine bO (v':= .bool (decide (bad x=true))) (by simp) ?_;have S4:=S.trans s4 (fun k hk h=>⟨h.1,(S.mem k hk).1 h.2⟩);refine ae ?_;refine bW rfl (fun c4=>?_) (fun c4=>?_)
   ·refine au (ak (aj rfl rfl (al rfl rfl (ae (aW ?_)))));exact a8 rfl rfl ⟨M4,_,rfl,by omega,Xj,S4,fun h=>absurd h (by omega),fun _=>⟨x,aQ BD,c4⟩⟩
   ·refine bg (ak (bQ rfl rfl rfl (by omega) (aj rfl rfl (ae ?_))));refine⟨rfl,i+1,(.cons rfl (.cons rfl (.cons rfl (.cons rfl (.cons rfl .nil))))),?_,?_⟩
    ·have hb:bad x=false:=by simpa using c4
     exact⟨M4,Xj,S4,hv.le s4.le,hJ4 hb,by omega,fun y hy=>by
      rw[bX,BD,cq,dE,cT]at hy;rcases hy with hy|rfl
      ·exact jU y hy
      ·exact hb⟩
    ·omega
  ·refine cP (au (ak (al rfl rfl (ae (aW ?_)))));rw[bm (by omega)]at jU;have e:i=l.length:=by omega
   subst e;exact a8 rfl rfl ⟨_,_,rfl,by omega,hM,S,fun _=>⟨jU,hJ⟩,fun h=>absurd h (by omega)⟩
theorem qK {M:aU} {l:List (List Po)} {v0:Value} {g:FuncId} {cap:List Value} {B:Nat} {J:Nat→aU→World→Prop} {bad:List Po→Bool} (w0:World) (hM:Lt M w0) (hv:(((RT.po).sl).sl).V M w0 l v0) (hg:Enters Tryz.prog g) (hJ:J 0 M w0) (lg:∀i M w M' w',J i M w→Step M w M' w' aN→J i M' w') (ht:∀i M w x vx,J i M w→Lt M w→l[i]? =some x→((RT.po).sl).V M w x vx→Spec Tryz.prog g ([vx]++cap).toArray w (fun v w'=>∃M',Lt M' w'∧v= .bool (bad x)∧(bad x=false→J (i+1) M' w')∧Step M w M' w' (kL M B))):
  Spec Tryz.prog 127 #[v0,.func (.func g) #[] cap.toArray] w0 (fun v w=>∃M' k,v= .bool (decide (0≤k))∧ -1≤k∧Lt M' w∧Step M w0 M' w (kL M B)∧(k= -1→(∀x∈l,bad x=false)∧J l.length M' w)∧(0≤k→∃x∈l,bad x=true)):=by
 refine bE (args:=[_,_]) (fn:=Tryz.f127) Tryz.func127 rfl (n:=9) Tryz.ntmps127 (au (ak (al rfl rfl (ae (au (ak (aj rfl rfl (aj rfl rfl ?_))))))));refine aS rfl rfl aeD (index_spec w0 hM hv hg hJ lg ht) (fun r w1 hc=>?_);obtain⟨M1,k,rfl,hk,h2⟩:=hc;refine dI rfl rfl rfl (al rfl rfl (ae (aW ?_)));exact a8 rfl rfl ⟨M1,k,rfl,hk,h2⟩
def C7 (x:List Po):Int:=match x.getLast? with|some p=>p.1|none=> -1
def iq (n:Int) (x:List Po):Bool:= !dH (-1) x||x.isEmpty||decide (n≤C7 x)
theorem nN {x:List Po} {p:Po} (h:x[x.length-1]? =some p):C7 x=p.1:=by
 unfold C7;rw[List.getLast?_eq_getElem?,h]
structure Room (x:List Po):Prop where
 ps:∀p∈x,p.2.length≤1099511627776
 by_:(dw (-1) x).length≤35184372088832
 ln:x.length≤1099511627776
 tot:iw x≤4611686018427387904
def RT.cell:RT Value where
 n:=1
 agg:=false
 R:=fun _ _ x vs=>vs=[x]∧x.oneCell'=true
 len:=by rintro _ _ x vs ⟨rfl,_⟩;rfl
 one:=by rintro _ _ x vs ⟨rfl,h⟩ v hv;simp at hv;subst hv;exact h
 le:=fun _ h=>h
theorem Gc {M:aU} {w:World} {v:Value} (h:v.oneCell'=true):RT.cell.V M w v v:=⟨[v],⟨rfl,h⟩,rfl⟩
theorem fR.cells {α:Type} {A:RT α} (hA:A.n=1) {M:aU} {w:World}:∀{xs:List α} {C:List Value},fR A M w xs C→∃ys:List Value,fR RT.cell M w ys C∧ys.length=xs.length
 |[],C,h=>⟨[],h,rfl⟩
 |x::xs,C,h=>by
  obtain⟨vs,r,h1,h2,h3⟩:=h;obtain⟨ys,h4,h5⟩:=fR.cells hA h3;have hl:=A.len h2
  match vs,hl,h1,h2 with
  |[v],_,h1,h2=>exact⟨v::ys,⟨[v],r,h1,⟨rfl,A.one h2 v (by simp)⟩,h4⟩,by simp[h5]⟩
  |[],hl,_,_=>simp at hl;omega
  |_::_::_,hl,_,_=>simp at hl;omega
theorem Own.cells {α:Type} {A:RT α} (hA:A.n=1) {e:TypeId} {M:aU} {w:World} {base:Nat} {v:Value} {xs:List α} (h:Own A e M w base v xs):∃ys:List Value,Own RT.cell e M w base v ys∧ys.length=xs.length:=by
 obtain⟨⟨C,hr,ha⟩,hm⟩:=h;obtain⟨ys,h1,h2⟩:=ha.cells hA;exact⟨ys,⟨⟨C,by rw[h2,show RT.cell.n=A.n from hA.symm];exact hr,h1⟩,hm⟩,h2⟩
def rB (bl bn:Nat) (n:Int) (ls:List (List Po)) (B:Nat) (i:Nat) (M:aU) (w:World):Prop:=∃vl,w.heap[bl]? =some (.cells #[vl] 188 (0,0))∧M bl∧B≤bl∧w.heap[bn]? =some (.cells #[.int .i64 n] 3 (0,0))∧M bn∧Own ((RT.li).ptr) 129 M w B vl ((ls.take i).map iA)
theorem rB.bC {bl bn:Nat} {n:Int} {ls:List (List Po)} {B i:Nat} {M M':aU} {w w':World} (h:rB bl bn n ls B i M w) (s:Step M w M' w' aN):rB bl bn n ls B i M' w':=by
 obtain⟨vl,h1,h2,h3,h4,h5,h6⟩:=h;exact⟨vl,s.aX h1,(s.mem _ (av h1)).2 h2,h3,s.aX h4,(s.mem _ (av h4)).2 h5,h6.bC s⟩
theorem KJ {M:aU} {bl bn B i:Nat} {n:Int} {ls:List (List Po)} {x:List Po} {v0:Value} (w0:World) (hM:Lt M w0) (hB:B≤w0.heap.size) (hJ:rB bl bn n ls B i M w0) (hx:ls[i]? =some x) (hv:((RT.po).sl).V M w0 x v0) (hr:Room x) (nq:i≤1000000000) (hm:dH (-1) x=true):
  Spec Tryz.prog 125 #[v0,.pointer (some ⟨bl,0,none⟩),.pointer (some ⟨bn,0,none⟩)] w0 (fun v w=>∃M',Lt M' w∧v= .bool (iq n x)∧(iq n x=false→rB bl bn n ls B (i+1) M' w)∧Step M w0 M' w (kL M B)):=by
 have hlen:=dr hv;obtain⟨vl,gl,iu,hBl,gn,jC,ho⟩:=hJ;have nln:bl≠bn:=fun h=>by rw[h,gn]at gl;simp at gl
 refine bE (args:=[_,_,_]) (fn:=Tryz.f125) Tryz.func125 rfl (n:=34) Tryz.ntmps125 ?_;have S:Step M w0 M w0 (kL M B):=(ah _ _).cD (fun _ h=>h.elim) (fun _ h=>h.2);refine au (ak (al rfl rfl (ae (au (ak (aj rfl rfl ?_))))));refine aS rfl rfl Hv (ug hM hv hr.ps hr.by_ hr.ln hr.tot) (fun r1 w1 hc=>?_);obtain⟨s1,hok,jU⟩:=hc;obtain⟨p,rfl,hp⟩:=hok hm;have:=av gl;replace iu:=(s1.mem _ this).2 iu;replace gl:=s1.aX gl;have:=av gn;replace jC:=(s1.mem _ this).2 jC;replace gn:=s1.aX gn;replace hv:=hv.le s1.le;replace ho:=ho.bC s1;replace hM:=s1.lt hM;have:=S.size;replace S:=S.aE s1;refine aj rfl rfl (b5 rfl rfl rfl (b5 rfl rfl rfl (al rfl rfl (al rfl rfl (ae (au (ak (br dp rfl rfl rfl gl rfl (bO (v':=vl) rfl (aj rfl rfl ?_))))))))));refine ez (A:=((RT.li).ptr)) (hn:=by decide) (M:=M) dp oZ (by decide) rfl rfl hM (pW.2 hp) (.inr ⟨rfl,rfl⟩) (fun KC Xk hG kU=>?_);have:=av gl;replace iu:=(kU.mem _ this).2 iu;replace gl:=kU.aX gl;have:=av gn;replace jC:=(kU.mem _ this).2 jC;replace gn:=kU.aX gn;replace hv:=hv.le kU.le;replace hp:=hp.le (by decide) kU.le;replace ho:=ho.bC kU;replace hM:=kU.lt hM;have:=S.size;replace S:=S.aE kU;refine cz (M:=M) (base:=B) dp oZ rfl rfl rfl rfl ho hG (ar _ _) (by simp;omega) (by simp;omega) (by have:=S.size;omega) (fun KK xN Xl C8 kV=>?_);have:=av gl;replace iu:=(kV.mem _ this).2 iu;replace gl:=kV.b9 gl (fun h=>by first|exact ho.dZ gl h|exact ho.fc gl (by decide) h|(have:=(ho.base _ h).1;omega));have:=av gn;replace jC:=(kV.mem _ this).2 jC;replace gn:=kV.b9 gn (fun h=>by first|exact ho.dZ gn h|exact ho.fc gn (by decide) h|(have:=(ho.base _ h).1;omega));replace hv:=hv.le kV.le;replace hp:=hp.le (by decide) kV.le
 replace hG:=hG.le kV.le;replace hM:=kV.lt hM;have:=S.size;replace S:=S.trans kV (fun k hk h=>⟨(ho.base k h).1,(S.mem k hk).1 (ho.mut_ k h)⟩);replace ho:=C8;refine cw (M:=xN) xM rfl rfl gl rfl (by obtain⟨_,_,he,_⟩:=ho.isSlice;rw[he];rfl) iu (fun Hw C9 jn=>?_);change Hw.heap[_]? =some (Obj.cells #[KK] _ _)at C9;have:=av gl;replace iu:=(jn.mem _ this).2 iu;have:=av gn;replace jC:=(jn.mem _ this).2 jC;replace gn:=jn.b9 gn (fun hk=>by have hk:_=_:=hk;omega);replace hv:=hv.le jn.le;replace hp:=hp.le (by decide) jn.le;replace hG:=hG.le jn.le;replace ho:=ho.step jn (fun c hc (h:c=bl)=>ho.fc gl (by decide) (h▸hc));replace hM:=jn.lt hM;have:=S.size;replace S:=S.trans jn (fun k hk h=>by have h:_=_:=h;subst h;first|(exfalso;omega)|(show _≤_;omega)|exact⟨by first|omega|assumption,(S.mem _ hk).1 ((jn.mem _ (av gl)).1 iu)⟩|exact .inl rfl|exact .inr rfl|exact .inr (.inl rfl)|exact .inr (.inr rfl)|exact rfl);have Pd:=C9;clear gl;have gl:=Pd;clear Pd;refine ae (au ?_);apply kz mixed rfl rfl;intro Qr L5;have lI:=L5 xN;have:=av gl;replace iu:=(lI.mem _ this).2 iu;replace gl:=lI.aX gl;have:=av gn;replace jC:=(lI.mem _ this).2 jC;replace gn:=lI.aX gn;replace hv:=hv.le lI.le;replace hp:=hp.le (by decide) lI.le;replace hG:=hG.le lI.le;replace ho:=ho.bC lI;replace hM:=lI.lt hM;have:=S.size;replace S:=S.aE lI;refine aj rfl rfl ?_;refine ae ⟨rfl,rfl,rfl,?_⟩;refine eC rfl rfl rfl ?_;refine ae ⟨rfl,rfl,rfl,?_⟩;refine aj rfl rfl ?_;refine ae ⟨rfl,rfl,rfl,?_⟩;refine Rg.DM (g:=18) rfl ((by decide)) (aq rfl rfl (aj rfl rfl ?_));refine ae ⟨rfl,rfl,rfl,?_⟩;refine aq rfl rfl (bF aC rfl hv rfl ?_);refine ae ⟨rfl,rfl,rfl,?_⟩;refine aq rfl rfl (iE rfl rfl rfl ?_);refine ae ⟨rfl,rfl,rfl,?_⟩;refine aL rfl rfl rfl ?_;refine ae ⟨rfl,rfl,rfl,?_⟩
 refine aj rfl rfl ?_;refine ae ⟨rfl,rfl,rfl,?_⟩;refine aZ (g:=23) rfl (fun KL=>?_) (fun KL=>?_)
 ·refine aw rfl rfl rfl rfl ?_;refine ae ⟨rfl,rfl,rfl,?_⟩;refine aw rfl rfl rfl rfl ?_;refine ae ⟨rfl,rfl,rfl,?_⟩;refine aw rfl rfl rfl rfl ?_;refine ae ⟨rfl,rfl,rfl,?_⟩;refine aw rfl rfl rfl rfl ?_;refine ae ⟨rfl,rfl,rfl,?_⟩;refine aw rfl rfl rfl rfl ?_;refine ae ⟨rfl,rfl,rfl,?_⟩;refine aw rfl rfl rfl rfl ?_;refine ae ⟨rfl,rfl,rfl,?_⟩;refine aw rfl rfl rfl rfl ?_;refine ae ⟨rfl,rfl,rfl,?_⟩;refine aw rfl rfl rfl rfl ?_;refine ae ⟨rfl,rfl,rfl,?_⟩;refine aw rfl rfl rfl rfl ?_;refine ae ⟨rfl,rfl,rfl,?_⟩;refine aR rfl rfl rfl ?_;refine ae ⟨rfl,rfl,rfl,?_⟩;refine al rfl rfl ?_;refine ae ⟨rfl,rfl,rfl,?_⟩;refine dv (aW ?_)
  first
  |(have KM:iq n x=true:=by
     have:x=[]:=cE.1 (by omega);simp[iq,this]
    rw[KM];exact a8 rfl rfl ⟨_,hM,rfl,(fun h=>by cases h),S⟩)
  |(have fE:x.isEmpty=false:=by cases x with
     |nil=>simp at KL
     |cons a t=>rfl
    have hbv:iq n x=decide (n≤q.1):=by unfold iq;rw[hm,fE,nN hq];rfl
    rw[hbv];exact a8 rfl rfl ⟨_,hM,rfl,fun _=>⟨_,gl,iu,hBl,gn,jC,by rw[bX,hx,cq,dF];exact ho⟩,S⟩)
 ·refine aq rfl rfl (aj rfl rfl ?_);refine ae ⟨rfl,rfl,rfl,?_⟩;refine aq rfl rfl (aj rfl rfl ?_);refine ae ⟨rfl,rfl,rfl,?_⟩;refine aq rfl rfl (bF aC rfl hv rfl ?_);refine ae ⟨rfl,rfl,rfl,?_⟩;refine aq rfl rfl (eJ rfl rfl rfl (by omega) ?_);refine ae ⟨rfl,rfl,rfl,?_⟩;refine aq rfl rfl ?_;obtain⟨q,hq⟩:∃q,x[x.length-1]? =some q:=⟨_,aI (by omega)⟩;refine bS (M:=xN) aC dW rfl rfl rfl hv (ar _ _) (by omega) (fun u3 a L6 jH=>?_);obtain rfl:q=a:=aG (hq.symm.trans (by rw[show((x.length:Int)-1).toNat=x.length-1 from by omega]at L6;exact L6));refine ae ⟨rfl,rfl,rfl,?_⟩;refine aq rfl rfl ?_;refine aA (M:=xN) (A:=RT.po) (B:=RT.int .i64) aP rfl rfl I3 (by decide) (na) rfl rfl (by decide) (by assumption) (by repeat (first|exact ar _ _|refine aT (bh (by assumption)) ?_)) (fun ajj aeF=>?_);refine ae ⟨rfl,rfl,rfl,?_⟩;refine aq rfl rfl ?_;refine bK (M:=xN) aB rfl rfl (by assumption) (by repeat (first|exact ar _ _|refine aT (bh (by assumption)) ?_)) (fun KN=>?_);refine bO (v':= .int .i64 (q.1)) rfl ?_;replace KN: -9223372036854775808≤(q.1:Int)∧q.1≤9223372036854775807:=KN;refine ae ⟨rfl,rfl,rfl,?_⟩;refine aq rfl rfl (br aB rfl rfl rfl gn rfl (bO (v':= .int .i64 n) rfl ?_));refine ae ⟨rfl,rfl,rfl,?_⟩;refine aq rfl rfl (dI rfl rfl rfl ?_);refine ae ⟨rfl,rfl,rfl,?_⟩;refine aL rfl rfl rfl ?_;refine ae ⟨rfl,rfl,rfl,?_⟩;refine al rfl rfl ?_;refine ae ⟨rfl,rfl,rfl,?_⟩;refine dv (aW ?_)
  first
  |(have KM:iq n x=true:=by
     have:x=[]:=cE.1 (by omega);simp[iq,this]
    rw[KM];exact a8 rfl rfl ⟨_,hM,rfl,(fun h=>by cases h),S⟩)
  |(have fE:x.isEmpty=false:=by cases x with
     |nil=>simp at KL
     |cons a t=>rfl
    have hbv:iq n x=decide (n≤q.1):=by unfold iq;rw[hm,fE,nN hq];rfl
    rw[hbv];exact a8 rfl rfl ⟨_,hM,rfl,fun _=>⟨_,gl,iu,hBl,gn,jC,by rw[bX,hx,cq,dF];exact ho⟩,S⟩)
theorem NO {M:aU} {bl bn B i:Nat} {n:Int} {ls:List (List Po)} {x:List Po} {v0:Value} (w0:World) (hM:Lt M w0) (hB:B≤w0.heap.size) (hJ:rB bl bn n ls B i M w0) (hx:ls[i]? =some x) (hv:((RT.po).sl).V M w0 x v0) (hr:Room x) (nq:i≤1000000000) (hm:dH (-1) x=false):
  Spec Tryz.prog 125 #[v0,.pointer (some ⟨bl,0,none⟩),.pointer (some ⟨bn,0,none⟩)] w0 (fun v w=>∃M',Lt M' w∧v= .bool (iq n x)∧(iq n x=false→rB bl bn n ls B (i+1) M' w)∧Step M w0 M' w (kL M B)):=by
 have hlen:=dr hv;obtain⟨vl,gl,iu,hBl,gn,jC,Xm⟩:=hJ;have nln:bl≠bn:=fun h=>by rw[h,gn]at gl;simp at gl
 obtain⟨ys,ho,Oq⟩:=Xm.cells rfl;rw[cr,bU]at Oq;clear Xm;refine bE (args:=[_,_,_]) (fn:=Tryz.f125) Tryz.func125 rfl (n:=34) Tryz.ntmps125 ?_;have S:Step M w0 M w0 (kL M B):=(ah _ _).cD (fun _ h=>h.elim) (fun _ h=>h.2);refine au (ak (al rfl rfl (ae (au (ak (aj rfl rfl ?_))))));refine aS rfl rfl Hv (ug hM hv hr.ps hr.by_ hr.ln hr.tot) (fun r1 w1 hc=>?_);obtain⟨s1,hok,jU⟩:=hc;obtain rfl:=jU hm;have:=av gl;replace iu:=(s1.mem _ this).2 iu;replace gl:=s1.aX gl;have:=av gn;replace jC:=(s1.mem _ this).2 jC;replace gn:=s1.aX gn;replace hv:=hv.le s1.le;replace ho:=ho.bC s1;replace hM:=s1.lt hM;have:=S.size;replace S:=S.aE s1;refine aj rfl rfl (b5 rfl rfl rfl (b5 rfl rfl rfl (al rfl rfl (al rfl rfl (ae (au (ak (br dp rfl rfl rfl gl rfl (bO (v':=vl) rfl (aj rfl rfl ?_))))))))));refine ez (A:=RT.cell) (hn:=by decide) (M:=M) dp oZ (by decide) rfl rfl hM (Gc (v:= .pointer none) rfl) (.inr ⟨rfl,rfl⟩) (fun KC Xk hG kU=>?_);have:=av gl;replace iu:=(kU.mem _ this).2 iu;replace gl:=kU.aX gl;have:=av gn;replace jC:=(kU.mem _ this).2 jC;replace gn:=kU.aX gn;replace hv:=hv.le kU.le;replace ho:=ho.bC kU;replace hM:=kU.lt hM;have:=S.size;replace S:=S.aE kU;refine cz (M:=M) (base:=B) dp oZ rfl rfl rfl rfl ho hG (ar _ _) (by simp;omega) (by simp;omega) (by have:=S.size;omega) (fun KK xN Xl C8 kV=>?_);have:=av gl;replace iu:=(kV.mem _ this).2 iu;replace gl:=kV.b9 gl (fun h=>by first|exact ho.dZ gl h|exact ho.fc gl (by decide) h|(have:=(ho.base _ h).1;omega));have:=av gn;replace jC:=(kV.mem _ this).2 jC;replace gn:=kV.b9 gn (fun h=>by first|exact ho.dZ gn h|exact ho.fc gn (by decide) h|(have:=(ho.base _ h).1;omega))
 replace hv:=hv.le kV.le;replace hG:=hG.le kV.le;replace hM:=kV.lt hM;have:=S.size;replace S:=S.trans kV (fun k hk h=>⟨(ho.base k h).1,(S.mem k hk).1 (ho.mut_ k h)⟩);replace ho:=C8;refine cw (M:=xN) xM rfl rfl gl rfl (by obtain⟨_,_,he,_⟩:=ho.isSlice;rw[he];rfl) iu (fun Hw C9 jn=>?_);change Hw.heap[_]? =some (Obj.cells #[KK] _ _)at C9;have:=av gl;replace iu:=(jn.mem _ this).2 iu;have:=av gn;replace jC:=(jn.mem _ this).2 jC;replace gn:=jn.b9 gn (fun hk=>by have hk:_=_:=hk;omega);replace hv:=hv.le jn.le;replace hG:=hG.le jn.le;replace ho:=ho.step jn (fun c hc (h:c=bl)=>ho.fc gl (by decide) (h▸hc));replace hM:=jn.lt hM;have:=S.size;replace S:=S.trans jn (fun k hk h=>by have h:_=_:=h;subst h;first|(exfalso;omega)|(show _≤_;omega)|exact⟨by first|omega|assumption,(S.mem _ hk).1 ((jn.mem _ (av gl)).1 iu)⟩|exact .inl rfl|exact .inr rfl|exact .inr (.inl rfl)|exact .inr (.inr rfl)|exact rfl);have Pd:=C9;clear gl;have gl:=Pd;clear Pd;refine ae (au ?_);apply kz mixed rfl rfl;intro Qr L5;have lI:=L5 xN;have:=av gl;replace iu:=(lI.mem _ this).2 iu;replace gl:=lI.aX gl;have:=av gn;replace jC:=(lI.mem _ this).2 jC;replace gn:=lI.aX gn;replace hv:=hv.le lI.le;replace hG:=hG.le lI.le;replace ho:=ho.bC lI;replace hM:=lI.lt hM;have:=S.size;replace S:=S.aE lI;refine aj rfl rfl ?_;refine ae ⟨rfl,rfl,rfl,?_⟩;refine eC rfl rfl rfl ?_;refine ae ⟨rfl,rfl,rfl,?_⟩;refine aj rfl rfl ?_;refine ae ⟨rfl,rfl,rfl,?_⟩;refine Rg.pw (g:=18) rfl ((by decide)) (aw rfl rfl rfl rfl ?_);refine ae ⟨rfl,rfl,rfl,?_⟩;refine aw rfl rfl rfl rfl ?_;refine ae ⟨rfl,rfl,rfl,?_⟩;refine aw rfl rfl rfl rfl ?_;refine ae ⟨rfl,rfl,rfl,?_⟩;refine aR rfl rfl rfl ?_;refine ae ⟨rfl,rfl,rfl,?_⟩;refine aj rfl rfl ?_;refine ae ⟨rfl,rfl,rfl,?_⟩;refine aw rfl rfl rfl rfl ?_;refine ae ⟨rfl,rfl,rfl,?_⟩
 refine aw rfl rfl rfl rfl ?_;refine ae ⟨rfl,rfl,rfl,?_⟩;refine aw rfl rfl rfl rfl ?_;refine ae ⟨rfl,rfl,rfl,?_⟩;refine aw rfl rfl rfl rfl ?_;refine ae ⟨rfl,rfl,rfl,?_⟩;refine aw rfl rfl rfl rfl ?_;refine ae ⟨rfl,rfl,rfl,?_⟩;refine aw rfl rfl rfl rfl ?_;refine ae ⟨rfl,rfl,rfl,?_⟩;refine aw rfl rfl rfl rfl ?_;refine ae ⟨rfl,rfl,rfl,?_⟩;refine aw rfl rfl rfl rfl ?_;refine ae ⟨rfl,rfl,rfl,?_⟩;refine aw rfl rfl rfl rfl ?_;refine ae ⟨rfl,rfl,rfl,?_⟩;refine aR rfl rfl rfl ?_;refine ae ⟨rfl,rfl,rfl,?_⟩;refine al rfl rfl ?_;refine ae ⟨rfl,rfl,rfl,?_⟩;refine dv (aW ?_);have KM:iq n x=true:=by simp[iq,hm]
 rw[KM];exact a8 rfl rfl ⟨_,hM,rfl,(fun h=>by cases h),S⟩
theorem KO {M:aU} {bl bn B i:Nat} {n:Int} {ls:List (List Po)} {x:List Po} {v0:Value} (w0:World) (hM:Lt M w0) (hB:B≤w0.heap.size) (hJ:rB bl bn n ls B i M w0) (hx:ls[i]? =some x) (hv:((RT.po).sl).V M w0 x v0) (hr:Room x) (nq:i≤1000000000):
  Spec Tryz.prog 125 #[v0,.pointer (some ⟨bl,0,none⟩),.pointer (some ⟨bn,0,none⟩)] w0 (fun v w=>∃M',Lt M' w∧v= .bool (iq n x)∧(iq n x=false→rB bl bn n ls B (i+1) M' w)∧Step M w0 M' w (kL M B)):=by
 cases hm:dH (-1) x with
 |true=>exact KJ w0 hM hB hJ hx hv hr nq hm
 |false=>exact NO w0 hM hB hJ hx hv hr nq hm
end Go.K
namespace Go.K
open Go.Proofs
namespace TKBldH
theorem my:TI Tryz.prog 56 (.slice none 0 0) 1 24:=by unfold TI;kernel_rfl
theorem y7:TI Tryz.prog 58 (.agg #[(.slice none 0 0),(.slice none 0 0),(.slice none 0 0),(.slice none 0 0)]) 4 96:=by unfold TI;kernel_rfl
theorem RU:TI Tryz.prog 125 (.agg #[(.slice none 0 0),(.slice none 0 0),(.pointer none)]) 3 56:=by unfold TI;kernel_rfl
theorem xM:TI Tryz.prog 188 (.slice none 0 0) 1 24:=by unfold TI;kernel_rfl
theorem RV:placesOf Tryz.prog 125=[(0,1),(1,1),(2,1)].map some:=by kernel_rfl
theorem L7:Enters Tryz.prog 63:=enters Tryz.func63 rfl (by decide)
theorem Xn:Enters Tryz.prog 76:=enters Tryz.func76 rfl (by decide)
theorem RW:Enters Tryz.prog 124:=enters Tryz.func124 rfl (by decide)
theorem RX:Enters Tryz.prog 125:=enters Tryz.func125 rfl (by decide)
theorem RY:Enters Tryz.prog 127:=enters Tryz.func127 rfl (by decide)
theorem RZ:Enters Tryz.prog 128:=enters Tryz.func128 rfl (by decide)
end TKBldH
open TKBldH
set_option maxRecDepth 10000
def jJ (p:Pa):Bool:=decide (p.1.length=p.2.1.length)&&ec (-1) p.2.1&&p.2.2.2.all (fun x=> !iq (p.1.length:Int) x)&&decide (p.2.2.1.length=p.2.2.2.length)&&tp none p.2.2.1
def BG (p:Pa):Se:=(p.1,p.2.1,p.2.2.1,p.2.2.2.map iA)
structure KP (p:Pa):Prop where
 a:p.1.length≤1000000000
 b:p.2.1.length≤1000000000
 c:p.2.2.1.length≤1000000000
 d:p.2.2.2.length≤1000000000
 e:∀x∈p.2.2.2,Room x
theorem EO {M:aU} {p:Pa} {v0:Value} (w0:World) (hM:Lt M w0) (hv:RT.pa.V M w0 p v0) (hR:KP p):
  Spec Tryz.prog 76 #[v0] w0 (fun v w=>Step M w0 M w aN∧(jJ p=true→bL RT.se M w v (BG p))∧(jJ p=false→v= .pointer none)):=by
 have fZ:=hM;obtain⟨hRa,hRb,hRc,hRd,hRe⟩:=hR;refine bE (args:=[_]) (fn:=Tryz.f76) Tryz.func76 rfl (n:=45) Tryz.ntmps76 ?_;have S:Step M w0 M w0 aN:=(ah _ _).cD (fun _ h=>h.elim) (fun _ h=>h.elim);refine au (ak ?_);refine eG (A:=RT.pa) rfl rfl hM hv rfl (fun u0 w1 cQ s0 _=>?_);replace hM:=s0.lt hM;have:=S.size;replace S:=S.aE s0;refine al rfl rfl (ae (au (ak ?_)));refine aA (M:=M) (A:=RT.pa) (B:=(RT.int .i64).sl) bR rfl rfl gT (by decide) (DL) rfl rfl (by decide) (by assumption) (by repeat (first|exact ar _ _|refine aT (bh (by assumption)) ?_)) (fun tU jR=>?_);refine aY (M:=M) ay rfl rfl rfl rfl rfl (by assumption) (by repeat (first|exact ar _ _|refine aT (bh (by assumption)) ?_)) (fun vB kF=>?_);replace kF:((RT.int .i64).sl).V M _ p.1 vB:=kF;refine bF ay rfl kF rfl ?_;refine eu M I3 rfl (fun o2 Cc VR VS jA s1_3=>?_);obtain⟨iK,pN⟩:∃M',M'=ins M o2:=⟨_,rfl⟩;rw[←pN]at s1_3;have gr:iK o2:=by rw[pN];exact .inl rfl
 change Cc.heap[o2]? =some (.cells #[.int .i64 0] _ _)at jA;replace cQ:=cQ.le (by decide) s1_3.le;replace hM:=s1_3.lt hM;have:=S.size;replace S:=S.aE s1_3;refine cw (M:=iK) I3 rfl rfl jA rfl (rfl) gr (fun I1 KQ kx=>?_);change I1.heap[_]? =some (Obj.cells #[.int .i64 (p.1.length:Int)] _ _)at KQ;have:=av jA;replace gr:=(kx.mem _ this).2 gr;replace cQ:=cQ.le (by decide) kx.le;replace hM:=kx.lt hM;have:=S.size;replace S:=S.trans kx (fun k hk h=>by have h:_=_:=h;subst h;first|(exfalso;omega)|(show _≤_;omega)|exact⟨by first|omega|assumption,(S.mem _ hk).1 ((kx.mem _ (av jA)).1 gr)⟩|exact .inl rfl|exact .inr rfl|exact .inr (.inl rfl)|exact .inr (.inr rfl)|exact rfl);have uI:=KQ;clear jA;have jA:=uI;clear uI;refine ae (au (au (ak ?_)));refine aA (M:=iK) (A:=RT.pa) (B:=(RT.int .i64).sl) bR rfl rfl gT (by decide) (Ey) rfl rfl (by decide) (by assumption) (by repeat (first|exact ar _ _|refine aT (bh (by assumption)) ?_)) (fun aeH Xo=>?_);refine aY (M:=iK) ay rfl rfl rfl rfl rfl (by assumption) (by repeat (first|exact ar _ _|refine aT (bh (by assumption)) ?_)) (fun R0 xO=>?_);replace xO:((RT.int .i64).sl).V iK _ p.2.1 R0:=xO;refine bF ay rfl xO rfl (br aB rfl rfl rfl jA rfl (bO (v':= .int .i64 (p.1.length:Int)) rfl (eC rfl rfl rfl (aj rfl rfl ?_))));refine aZ (g:=16) rfl (fun R1=>?_) (fun R1=>?_)
 ·refine aw rfl rfl rfl rfl (aw rfl rfl rfl rfl (aw rfl rfl rfl rfl (aw rfl rfl rfl rfl (aR rfl rfl rfl (ae (gz rfl (au (ak (al rfl rfl (ae (aW ?_)))))))))))
  have eb:jJ p=false:=by
   unfold jJ
   first
   |(rw[decide_eq_false (show¬p.1.length=p.2.1.length by omega)];simp;done)
   |(simp[c2];done)
  exact a8 rfl rfl ⟨S.back,fun h=>by(rw[eb]at h;cases h),fun _=>rfl⟩
 ·have O9:p.1.length=p.2.1.length:=by omega
  refine aq rfl rfl ?_;refine aA (M:=iK) (A:=RT.pa) (B:=(RT.int .i64).sl) bR rfl rfl gT (by decide) (Ey) rfl rfl (by decide) (by assumption) (by repeat (first|exact ar _ _|refine aT (bh (by assumption)) ?_)) (fun aeI Xp=>?_);refine aq rfl rfl ?_;refine aY (M:=iK) ay rfl rfl rfl rfl rfl (by assumption) (by repeat (first|exact ar _ _|refine aT (bh (by assumption)) ?_)) (fun R2 xQ=>?_);replace xQ:((RT.int .i64).sl).V iK _ p.2.1 R2:=xQ;refine aq rfl rfl ?_;refine aS rfl rfl RW (zO _ xQ) (fun r wc hc=>?_);obtain⟨rfl,rfl⟩:=hc;refine aq rfl rfl (fP rfl rfl (bO (v':= .bool (decide (¬ec (-1) p.2.1=true))) (by simp) (aL rfl rfl rfl (ae ?_))));refine bW rfl (fun c2=>?_) (fun c2=>?_)
  ·refine au (ak (al rfl rfl (ae (aW ?_))))
   have eb:jJ p=false:=by
    unfold jJ
    first
    |(rw[decide_eq_false (show¬p.1.length=p.2.1.length by omega)];simp;done)
    |(simp[c2];done)
   exact a8 rfl rfl ⟨S.back,fun h=>by(rw[eb]at h;cases h),fun _=>rfl⟩
  ·have er:ec (-1) p.2.1=true:=cy.1 c2;refine bg (au (ak ?_));refine eu iK xM rfl (fun xR Ea aeJ aeK xc jP=>?_);obtain⟨sI,xS⟩:∃M',M'=ins iK xR:=⟨_,rfl⟩;rw[←xS]at jP;have EP:sI xR:=by rw[xS];exact .inl rfl
   change Ea.heap[xR]? =some (.cells #[.slice none 0 0] _ _)at xc;have:=av jA;replace gr:=(jP.mem _ this).2 gr;replace jA:=jP.aX jA;replace cQ:=cQ.le (by decide) jP.le;replace hM:=jP.lt hM;have:=S.size;replace S:=S.aE jP;refine ae (au (ak (jv (xs:=[]) (ys:=[.tmp 4,.tmp 3]) rfl rfl rfl (al rfl rfl (ae (au (au (ak ?_))))))));refine aA (M:=sI) (A:=RT.pa) (B:=((RT.po).sl).sl) bR rfl rfl my (by decide) (A5) rfl rfl (by decide) (by assumption) (by repeat (first|exact ar _ _|refine aT (bh (by assumption)) ?_)) (fun QM FR=>?_);refine aY (M:=sI) bH rfl rfl rfl rfl rfl (by assumption) (by repeat (first|exact ar _ _|refine aT (bh (by assumption)) ?_)) (fun Jp pO=>?_);replace pO:(((RT.po).sl).sl).V sI _ p.2.2.2 Jp:=pO;refine aj rfl rfl ?_;refine aS rfl rfl RY (qK (cap:=[.pointer (some ⟨xR,0,none⟩),.pointer (some ⟨o2,0,none⟩)]) (B:=w0.heap.size) (J:=rB xR o2 (p.1.length:Int) p.2.2.2 w0.heap.size) (bad:=iq (p.1.length:Int)) _ hM pO RX ⟨_,xc,EP,by omega,jA,gr,dO _ _ _ _ _⟩ (fun i M w M' w' h s=>h.bC s) (fun i M w x vx hJ hM hx tS=>KO w hM (by obtain⟨_,h1,_,h2,_⟩:=hJ;have:=av h1;omega) hJ hx tS (hRe x (aQ hx)) (by have:=(aF.1 hx).1;omega))) (fun r6 w6 hc=>?_);obtain⟨M6,k6,rfl,hk6,HY,s6,hk7,hk8⟩:=hc;replace cQ:=cQ.le (by decide) s6.le;replace S:=S.lh s6 (bw _);refine ae ?_;refine bW rfl (fun c6=>?_) (fun c6=>?_)
   ·obtain⟨x6,hx6,oD⟩:=hk8 c6
    have eb:jJ p=false:=by
     unfold jJ;have:p.2.2.2.all (fun x=> !iq (p.1.length:Int) x)=false:=qX.2 ⟨x6,hx6,by simp[oD]⟩;simp[this]
    refine au (ak (al rfl rfl (ae (aW ?_))));exact a8 rfl rfl ⟨S.back,fun h=>by(rw[eb]at h;cases h),fun _=>rfl⟩
   ·refine bg (au (ak ?_));obtain⟨oD,⟨vl,gl,_,_,_,_,ix⟩⟩:=hk7 (by omega);rw[bm (bw _)]at ix;have kq:(((RT.li).ptr).sl).V M w6 (p.2.2.2.map iA) vl:=ix.close fZ S (by simp;omega);replace cQ:bL RT.pa M w6 u0 p:=cQ.le (by decide) (ly fZ S);replace S:=S.back;replace hM:=S.lt fZ;refine aA (M:=M) (A:=RT.pa) (B:=RT.str.sl) bR rfl rfl ph (by decide) Ez rfl rfl (by decide) cQ (ar _ _) (fun aeO Xq=>?_);refine aY (M:=M) aJ rfl rfl rfl rfl rfl (by assumption) (by repeat (first|exact ar _ _|refine aT (bh (by assumption)) ?_)) (fun R3 xT=>?_);replace xT:(RT.str.sl).V M _ p.2.2.1 R3:=xT;refine br dp rfl rfl rfl gl rfl (bO (v':=vl) rfl ?_);refine aS rfl rfl RZ (xE _ hM xT kq (by omega) (by simp;omega)) (fun r8 w8 hc=>?_);obtain⟨pd,rfl,y8,s8⟩:=hc;replace cQ:=cQ.le (by decide) s8.le;replace kq:=kq.le s8.le;replace gl:=s8.aX gl;replace hM:=s8.lt hM;have:=S.size;replace S:=S.aE s8;refine aj rfl rfl (b5 rfl rfl rfl (b5 rfl rfl rfl (al rfl rfl (al rfl rfl (ae (au (au (ak (aj rfl rfl (eC rfl rfl rfl (ae ?_)))))))))));refine bW rfl (fun c9=>?_) (fun c9=>?_)
    ·have eb:jJ p=false:=by
      by_cases h:jJ p=true
      ·unfold jJ at h;simp only[bZ,decide_eq_true_eq]at h;exact absurd (by rw[if_pos ⟨by simp[h.1.2],h.2⟩]) c9
      ·simpa using h
     refine au (ak (al rfl rfl (ae (aW ?_))));exact a8 rfl rfl ⟨S.back,fun h=>by(rw[eb]at h;cases h),fun _=>rfl⟩
    ·have e9:(p.2.2.1.length=(p.2.2.2.map iA).length∧tp none p.2.2.1=true):=by
      by_cases h:(p.2.2.1.length=(p.2.2.2.map iA).length∧tp none p.2.2.1=true)
      ·exact h
      ·exact absurd (by rw[if_neg h];decide) c9
     replace y8:=y8 e9.1 e9.2;refine bg (au ?_);apply T.zn [0,1,3,4,6,2,5,7,8,9] 5 [2,3,4] 2 aN mixed
     ·simp+decide only[wC,qv,eO,qW,iX,iY,kK,eZ,iO,lJ,cond_true,cond_false,Nat.reduceBEq,Nat.reduceAdd,beq_self_eq_true];rfl
     ·rfl
     ·rfl
     ·rfl
     ·rfl
     ·rfl
     ·rfl
     intro y4 A9;have fF:=A9 M;replace cQ:=cQ.le (by decide) fF.le;replace kq:=kq.le fF.le;replace gl:=fF.aX gl;replace hM:=fF.lt hM;have:=S.size;replace S:=S.aE fF;refine aA (M:=M) (A:=RT.pa) (B:=(RT.int .i64).sl) bR rfl rfl gT (by decide) (DL) rfl rfl (by decide) (by assumption) (by repeat (first|exact ar _ _|refine aT (bh (by assumption)) ?_)) (fun Js Ei=>?_);refine ae ⟨rfl,rfl,rfl,?_⟩;refine aY (M:=M) ay rfl rfl rfl rfl rfl (by assumption) (by repeat (first|exact ar _ _|refine aT (bh (by assumption)) ?_)) (fun KR rC=>?_);replace rC:((RT.int .i64).sl).V M _ p.1 KR:=rC;refine ae ⟨rfl,rfl,rfl,?_⟩;refine aA (M:=M) (A:=RT.pa) (B:=(RT.int .i64).sl) bR rfl rfl gT (by decide) (Ey) rfl rfl (by decide) (by assumption) (by repeat (first|exact ar _ _|refine aT (bh (by assumption)) ?_)) (fun Xr ER=>?_);refine ae ⟨rfl,rfl,rfl,?_⟩;refine aY (M:=M) ay rfl rfl rfl rfl rfl (by assumption) (by repeat (first|exact ar _ _|refine aT (bh (by assumption)) ?_)) (fun KS iC=>?_);replace iC:((RT.int .i64).sl).V M _ p.2.1 KS:=iC;refine ae ⟨rfl,rfl,rfl,?_⟩;refine aj rfl rfl ?_;refine ae ⟨rfl,rfl,rfl,?_⟩;refine dv ?_;obtain⟨bb,oo,cs,ee,fr,rfl,kr,_⟩:=ER.float;refine⟨eA ⟨eM bR rfl gT (by decide),⟨dx rfl kr (fun h=>h),⟨eU,trivial⟩⟩⟩,?_⟩;have kp:=eX aN y4;refine aS rfl rfl L7 (mq hM rC (by omega)) (fun v5 w5 hc=>?_);obtain⟨oz,s5⟩:=hc;replace iC:=iC.le s5.le;replace y8:=(y8.le (by decide) fF.le).le (by decide) s5.le;replace cQ:=cQ.le (by decide) s5.le;replace kq:=kq.le s5.le;replace gl:=s5.aX gl;replace hM:=s5.lt hM;have:=S.size;replace S:=S.aE s5;refine(fun(kp:eg _ _ _)=>ae ⟨rfl,rfl,fun _=>kp,?_⟩) (by first|exact kp|exact kp.mY (by assumption)|exact kp.goN (by assumption)|exact kp.go (by assumption) (fun _ _ h=>by first|exact h|exact h.elim))
     refine aS rfl rfl L7 (mq hM iC (by omega)) (fun v6 w6' hc=>?_);obtain⟨nS,Da⟩:=hc;replace cQ:=cQ.le (by decide) Da.le;replace kq:=kq.le Da.le;replace oz:=oz.le Da.le;replace iC:=iC.le Da.le;replace y8:=y8.le (by decide) Da.le;replace gl:=Da.aX gl;replace hM:=Da.lt hM;have:=S.size;replace S:=S.aE Da;refine(fun(kp:eg _ _ _)=>ae ⟨rfl,rfl,fun _=>kp,?_⟩) (by first|exact kp|exact kp.mY (by assumption)|exact kp.goN (by assumption)|exact kp.go (by assumption) (fun _ _ h=>by first|exact h|exact h.elim));refine eF (places:=[(0,1),(1,1),(2,1)]) eH RU RV rfl ⟨_,_,rfl,rfl,_,_,rfl,rfl,_,_,rfl,rfl,rfl⟩ (out:=[_,_,_]) ⟨0,[_],rfl,fg oz,by simp[Value.cells],1,[_],rfl,fg nS,by simp[Value.cells],2,[_],rfl,qn y8,by simp[Value.cells],rfl⟩ ?_;refine ae ⟨rfl,rfl,fun h=>absurd rfl h,?_⟩;refine eG (A:=RT.se) (a:=BG p) rfl rfl hM (Wf (x:=BG p) oz nS y8) rfl (fun u8 w8' hu8 Be _=>?_);replace cQ:=cQ.le (by decide) Be.le;replace kq:=kq.le Be.le;replace oz:=oz.le Be.le;replace iC:=iC.le Be.le;replace y8:=y8.le (by decide) Be.le;replace nS:=nS.le Be.le;replace gl:=Be.aX gl;replace hM:=Be.lt hM;have:=S.size;replace S:=S.aE Be;refine ae ⟨rfl,rfl,fun h=>absurd rfl h,?_⟩;refine al rfl rfl ?_;refine ae ⟨rfl,rfl,fun h=>absurd rfl h,?_⟩;refine gX (aW ?_)
     have eb:jJ p=true:=by
      unfold jJ;rw[decide_eq_true O9,er,e9.2,decide_eq_true (by simpa using e9.1),eh.2 (fun x hx=>by simp[oD x hx])];rfl
     exact a8 rfl rfl ⟨S.back,fun _=>hu8,fun h=>by(rw[eb]at h;cases h)⟩
theorem rD {M:aU} {p:Pa} {v0:Value} (w0:World) (hM:Lt M w0) (hv:RT.pa.V M w0 p v0) (hR:KP p):
  Spec Tryz.prog 27 #[v0] w0 (fun v w=>Step M w0 M w aN∧(jJ p=true→∃s,v= .tuple #[s,.int .i64 0]∧bL RT.se M w s (BG p))∧(jJ p=false→v= .tuple #[.pointer none,.int .i64 1])):=by
 refine bE (args:=[_]) (fn:=Tryz.f27) Tryz.func27 rfl (n:=10) Tryz.ntmps27 ?_;have S:Step M w0 M w0 aN:=(ah _ _).cD (fun _ h=>h.elim) (fun _ h=>h.elim);refine au (ak ?_);refine eG (A:=RT.pa) rfl rfl hM hv rfl (fun u0 w1 cQ s0 _=>?_);replace hM:=s0.lt hM;have:=S.size;replace S:=S.aE s0;refine al rfl rfl (al rfl rfl (ae (au (ak ?_))));refine cc (M:=M) (A:=RT.pa) bR rfl y7 (by decide) rfl rfl rfl cQ (ar _ _) (fun v1 ti=>?_);refine aS rfl rfl Xn (EO _ hM ti hR) (fun r1 w2 hc=>?_);obtain⟨s2,hok,jU⟩:=hc
 obtain⟨o1,OU⟩:∃o,r1= .pointer o:=by
  cases h:jJ p with
  |true=>obtain⟨b,o,_,h1,_⟩:=hok h;exact⟨_,h1⟩
  |false=>exact⟨none,jU h⟩
 subst OU;replace cQ:=cQ.le (by decide) s2.le;replace hM:=s2.lt hM;have:=S.size;replace S:=S.aE s2;refine al rfl rfl (ae (au (au (ak (aj rfl rfl (Rg.wL ux rfl rfl rfl (ae ?_)))))));refine bW rfl (fun c2=>?_) (fun c2=>?_)
 ·refine au (ak (al rfl rfl (al rfl rfl (ae (aW ?_)))))
  have eb:jJ p=false:=by
   by_cases h:jJ p=true
   ·obtain⟨b,o,_,h1,_⟩:=hok h;rw[c2]at h1;cases h1
   ·simpa using h
  exact fw rfl rfl rfl ⟨S.back,fun h=>by(rw[eb]at h;cases h),fun _=>rfl⟩
 ·refine bg (au (ak (aj rfl rfl (al rfl rfl (al rfl rfl (ae (aW ?_)))))))
  have eb:jJ p=true:=by
   by_cases h:jJ p=true
   ·exact h
   ·have:=jU (by simpa using h);simp at this;exact absurd this c2
  exact fw rfl rfl rfl ⟨S.back,fun _=>⟨_,rfl,hok eb⟩,fun h=>by(rw[eb]at h;cases h)⟩
end Go.K
namespace Go.K
open Go.Proofs
namespace TKMksB
theorem my:TI Tryz.prog 56 (.slice none 0 0) 1 24:=by unfold TI;kernel_rfl
theorem y7:TI Tryz.prog 58 (.agg #[(.slice none 0 0),(.slice none 0 0),(.slice none 0 0),(.slice none 0 0)]) 4 96:=by unfold TI;kernel_rfl
theorem RU:TI Tryz.prog 125 (.agg #[(.slice none 0 0),(.slice none 0 0),(.pointer none)]) 3 56:=by unfold TI;kernel_rfl
theorem xM:TI Tryz.prog 188 (.slice none 0 0) 1 24:=by unfold TI;kernel_rfl
theorem RV:placesOf Tryz.prog 125=[(0,1),(1,1),(2,1)].map some:=by kernel_rfl
theorem L7:Enters Tryz.prog 63:=enters Tryz.func63 rfl (by decide)
theorem Xn:Enters Tryz.prog 76:=enters Tryz.func76 rfl (by decide)
theorem RW:Enters Tryz.prog 124:=enters Tryz.func124 rfl (by decide)
theorem RX:Enters Tryz.prog 125:=enters Tryz.func125 rfl (by decide)
theorem Hv:Enters Tryz.prog 126:=enters Tryz.func126 rfl (by decide)
theorem RY:Enters Tryz.prog 127:=enters Tryz.func127 rfl (by decide)
theorem RZ:Enters Tryz.prog 128:=enters Tryz.func128 rfl (by decide)
end TKMksB
open TKMksB
set_option maxRecDepth 10000
theorem Bf {M:aU} {w0:World} {v:Value} {l:List Po} (hM:Lt M w0) (hv:((RT.po).sl).V M w0 l v) (hm:dH (-1) l=false):
  Spec Tryz.prog 126 #[v] w0 (fun v' w'=>Step M w0 M w' aN∧True∧(dH (-1) l=false→v'= .tuple #[.pointer none,.int .i64 1])):=by
 refine bE (args:=[_]) (fn:=Tryz.f126) Tryz.func126 rfl (n:=85) Tryz.ntmps126 ?_;have S:Step M w0 M w0 aN:=(ah _ _).cD (fun _ h=>h.elim) (fun _ h=>h.elim);refine au (ak (al rfl rfl (al rfl rfl (ae (au (au (ak (aj rfl rfl ?_))))))));refine aS rfl rfl U1 (zR hM hv) (fun r1 w1 hc=>?_);obtain⟨rfl,s1⟩:=hc;replace hM:=s1.lt hM;have:=S.size;replace S:=S.aE s1;refine fP rfl rfl (bO (v':= .bool true) (by rw[hm];rfl) (ae (gz rfl (au (ak (al rfl rfl (al rfl rfl (ae (aW ?_)))))))));exact fw rfl rfl rfl ⟨S,trivial,fun _=>rfl⟩
theorem KT {M:aU} {bl bn B i:Nat} {n:Int} {ls:List (List Po)} {x:List Po} {v0:Value} (w0:World) (hM:Lt M w0) (hB:B≤w0.heap.size) (hJ:rB bl bn n ls B i M w0) (hx:ls[i]? =some x) (hv:((RT.po).sl).V M w0 x v0) (nq:i≤1000000000) (hm:dH (-1) x=false):
  Spec Tryz.prog 125 #[v0,.pointer (some ⟨bl,0,none⟩),.pointer (some ⟨bn,0,none⟩)] w0 (fun v w=>∃M',Lt M' w∧v= .bool (iq n x)∧(iq n x=false→rB bl bn n ls B (i+1) M' w)∧Step M w0 M' w (kL M B)):=by
 have hlen:=dr hv;obtain⟨vl,gl,iu,hBl,gn,jC,Xm⟩:=hJ;have nln:bl≠bn:=fun h=>by rw[h,gn]at gl;simp at gl
 obtain⟨ys,ho,Oq⟩:=Xm.cells rfl;rw[cr,bU]at Oq;clear Xm;refine bE (args:=[_,_,_]) (fn:=Tryz.f125) Tryz.func125 rfl (n:=34) Tryz.ntmps125 ?_;have S:Step M w0 M w0 (kL M B):=(ah _ _).cD (fun _ h=>h.elim) (fun _ h=>h.2);refine au (ak (al rfl rfl (ae (au (ak (aj rfl rfl ?_))))));refine aS rfl rfl Hv (Bf hM hv hm) (fun r1 w1 hc=>?_);obtain⟨s1,hok,jU⟩:=hc;obtain rfl:=jU hm;have:=av gl;replace iu:=(s1.mem _ this).2 iu;replace gl:=s1.aX gl;have:=av gn;replace jC:=(s1.mem _ this).2 jC;replace gn:=s1.aX gn;replace hv:=hv.le s1.le;replace ho:=ho.bC s1;replace hM:=s1.lt hM;have:=S.size;replace S:=S.aE s1;refine aj rfl rfl (b5 rfl rfl rfl (b5 rfl rfl rfl (al rfl rfl (al rfl rfl (ae (au (ak (br dp rfl rfl rfl gl rfl (bO (v':=vl) rfl (aj rfl rfl ?_))))))))));refine ez (A:=RT.cell) (hn:=by decide) (M:=M) dp oZ (by decide) rfl rfl hM (Gc (v:= .pointer none) rfl) (.inr ⟨rfl,rfl⟩) (fun KC Xk hG kU=>?_);have:=av gl;replace iu:=(kU.mem _ this).2 iu;replace gl:=kU.aX gl;have:=av gn;replace jC:=(kU.mem _ this).2 jC;replace gn:=kU.aX gn;replace hv:=hv.le kU.le;replace ho:=ho.bC kU;replace hM:=kU.lt hM;have:=S.size;replace S:=S.aE kU;refine cz (M:=M) (base:=B) dp oZ rfl rfl rfl rfl ho hG (ar _ _) (by simp;omega) (by simp;omega) (by have:=S.size;omega) (fun KK xN Xl C8 kV=>?_);have:=av gl;replace iu:=(kV.mem _ this).2 iu;replace gl:=kV.b9 gl (fun h=>by first|exact ho.dZ gl h|exact ho.fc gl (by decide) h|(have:=(ho.base _ h).1;omega));have:=av gn;replace jC:=(kV.mem _ this).2 jC;replace gn:=kV.b9 gn (fun h=>by first|exact ho.dZ gn h|exact ho.fc gn (by decide) h|(have:=(ho.base _ h).1;omega));replace hv:=hv.le kV.le
 replace hG:=hG.le kV.le;replace hM:=kV.lt hM;have:=S.size;replace S:=S.trans kV (fun k hk h=>⟨(ho.base k h).1,(S.mem k hk).1 (ho.mut_ k h)⟩);replace ho:=C8;refine cw (M:=xN) xM rfl rfl gl rfl (by obtain⟨_,_,he,_⟩:=ho.isSlice;rw[he];rfl) iu (fun Hw C9 jn=>?_);change Hw.heap[_]? =some (Obj.cells #[KK] _ _)at C9;have:=av gl;replace iu:=(jn.mem _ this).2 iu;have:=av gn;replace jC:=(jn.mem _ this).2 jC;replace gn:=jn.b9 gn (fun hk=>by have hk:_=_:=hk;omega);replace hv:=hv.le jn.le;replace hG:=hG.le jn.le;replace ho:=ho.step jn (fun c hc (h:c=bl)=>ho.fc gl (by decide) (h▸hc));replace hM:=jn.lt hM;have:=S.size;replace S:=S.trans jn (fun k hk h=>by have h:_=_:=h;subst h;first|(exfalso;omega)|(show _≤_;omega)|exact⟨by first|omega|assumption,(S.mem _ hk).1 ((jn.mem _ (av gl)).1 iu)⟩|exact .inl rfl|exact .inr rfl|exact .inr (.inl rfl)|exact .inr (.inr rfl)|exact .inr (.inr (.inl rfl))|exact rfl);have Pd:=C9;clear gl;have gl:=Pd;clear Pd;refine ae (au ?_);apply kz mixed rfl rfl;intro Qr L5;have lI:=L5 xN;have:=av gl;replace iu:=(lI.mem _ this).2 iu;replace gl:=lI.aX gl;have:=av gn;replace jC:=(lI.mem _ this).2 jC;replace gn:=lI.aX gn;replace hv:=hv.le lI.le;replace hG:=hG.le lI.le;replace ho:=ho.bC lI;replace hM:=lI.lt hM;have:=S.size;replace S:=S.aE lI;refine aj rfl rfl ?_;refine ae ⟨rfl,rfl,rfl,?_⟩;refine eC rfl rfl rfl ?_;refine ae ⟨rfl,rfl,rfl,?_⟩;refine aj rfl rfl ?_;refine ae ⟨rfl,rfl,rfl,?_⟩;refine Rg.pw (g:=18) rfl ((by decide)) (aw rfl rfl rfl rfl ?_);refine ae ⟨rfl,rfl,rfl,?_⟩;refine aw rfl rfl rfl rfl ?_;refine ae ⟨rfl,rfl,rfl,?_⟩;refine aw rfl rfl rfl rfl ?_;refine ae ⟨rfl,rfl,rfl,?_⟩;refine aR rfl rfl rfl ?_;refine ae ⟨rfl,rfl,rfl,?_⟩;refine aj rfl rfl ?_;refine ae ⟨rfl,rfl,rfl,?_⟩;refine aw rfl rfl rfl rfl ?_;refine ae ⟨rfl,rfl,rfl,?_⟩
 refine aw rfl rfl rfl rfl ?_;refine ae ⟨rfl,rfl,rfl,?_⟩;refine aw rfl rfl rfl rfl ?_;refine ae ⟨rfl,rfl,rfl,?_⟩;refine aw rfl rfl rfl rfl ?_;refine ae ⟨rfl,rfl,rfl,?_⟩;refine aw rfl rfl rfl rfl ?_;refine ae ⟨rfl,rfl,rfl,?_⟩;refine aw rfl rfl rfl rfl ?_;refine ae ⟨rfl,rfl,rfl,?_⟩;refine aw rfl rfl rfl rfl ?_;refine ae ⟨rfl,rfl,rfl,?_⟩;refine aw rfl rfl rfl rfl ?_;refine ae ⟨rfl,rfl,rfl,?_⟩;refine aw rfl rfl rfl rfl ?_;refine ae ⟨rfl,rfl,rfl,?_⟩;refine aR rfl rfl rfl ?_;refine ae ⟨rfl,rfl,rfl,?_⟩;refine al rfl rfl ?_;refine ae ⟨rfl,rfl,rfl,?_⟩;refine dv (aW ?_);have KM:iq n x=true:=by simp[iq,hm]
 rw[KM];exact a8 rfl rfl ⟨_,hM,rfl,(fun h=>by cases h),S⟩
theorem Hx {M:aU} {bl bn B i:Nat} {n:Int} {ls:List (List Po)} {x:List Po} {v0:Value} (w0:World) (hM:Lt M w0) (hB:B≤w0.heap.size) (hJ:rB bl bn n ls B i M w0) (hx:ls[i]? =some x) (hv:((RT.po).sl).V M w0 x v0) (hr:dH (-1) x=true→Room x) (nq:i≤1000000000):
  Spec Tryz.prog 125 #[v0,.pointer (some ⟨bl,0,none⟩),.pointer (some ⟨bn,0,none⟩)] w0 (fun v w=>∃M',Lt M' w∧v= .bool (iq n x)∧(iq n x=false→rB bl bn n ls B (i+1) M' w)∧Step M w0 M' w (kL M B)):=by
 cases hm:dH (-1) x with
 |true=>exact KJ w0 hM hB hJ hx hv (hr hm) nq hm
 |false=>exact KT w0 hM hB hJ hx hv nq hm
structure Gd (p:Pa):Prop where
 a:p.1.length≤1000000000
 b:p.2.1.length≤1000000000
 c:p.2.2.1.length≤1000000000
 d:p.2.2.2.length≤1000000000
 e:∀x∈p.2.2.2,dH (-1) x=true→Room x
theorem uQ {M:aU} {p:Pa} {v0:Value} (w0:World) (hM:Lt M w0) (hv:RT.pa.V M w0 p v0) (hR:Gd p):
  Spec Tryz.prog 76 #[v0] w0 (fun v w=>Step M w0 M w aN∧(jJ p=true→bL RT.se M w v (BG p))∧(jJ p=false→v= .pointer none)):=by
 have fZ:=hM;obtain⟨hRa,hRb,hRc,hRd,hRe⟩:=hR;refine bE (args:=[_]) (fn:=Tryz.f76) Tryz.func76 rfl (n:=45) Tryz.ntmps76 ?_;have S:Step M w0 M w0 aN:=(ah _ _).cD (fun _ h=>h.elim) (fun _ h=>h.elim);refine au (ak ?_);refine eG (A:=RT.pa) rfl rfl hM hv rfl (fun u0 w1 cQ s0 _=>?_);replace hM:=s0.lt hM;have:=S.size;replace S:=S.aE s0;refine al rfl rfl (ae (au (ak ?_)));refine aA (M:=M) (A:=RT.pa) (B:=(RT.int .i64).sl) bR rfl rfl gT (by decide) (DL) rfl rfl (by decide) (by assumption) (by repeat (first|exact ar _ _|refine aT (bh (by assumption)) ?_)) (fun tU jR=>?_);refine aY (M:=M) ay rfl rfl rfl rfl rfl (by assumption) (by repeat (first|exact ar _ _|refine aT (bh (by assumption)) ?_)) (fun vB kF=>?_);replace kF:((RT.int .i64).sl).V M _ p.1 vB:=kF;refine bF ay rfl kF rfl ?_;refine eu M I3 rfl (fun o2 Cc VR VS jA s1_3=>?_);obtain⟨iK,pN⟩:∃M',M'=ins M o2:=⟨_,rfl⟩;rw[←pN]at s1_3;have gr:iK o2:=by rw[pN];exact .inl rfl
 change Cc.heap[o2]? =some (.cells #[.int .i64 0] _ _)at jA;replace cQ:=cQ.le (by decide) s1_3.le;replace hM:=s1_3.lt hM;have:=S.size;replace S:=S.aE s1_3;refine cw (M:=iK) I3 rfl rfl jA rfl (rfl) gr (fun I1 KQ kx=>?_);change I1.heap[_]? =some (Obj.cells #[.int .i64 (p.1.length:Int)] _ _)at KQ;have:=av jA;replace gr:=(kx.mem _ this).2 gr;replace cQ:=cQ.le (by decide) kx.le;replace hM:=kx.lt hM;have:=S.size;replace S:=S.trans kx (fun k hk h=>by have h:_=_:=h;subst h;first|(exfalso;omega)|(show _≤_;omega)|exact⟨by first|omega|assumption,(S.mem _ hk).1 ((kx.mem _ (av jA)).1 gr)⟩|exact .inl rfl|exact .inr rfl|exact .inr (.inl rfl)|exact .inr (.inr rfl)|exact .inr (.inr (.inl rfl))|exact rfl);have uI:=KQ;clear jA;have jA:=uI;clear uI;refine ae (au (au (ak ?_)));refine aA (M:=iK) (A:=RT.pa) (B:=(RT.int .i64).sl) bR rfl rfl gT (by decide) (Ey) rfl rfl (by decide) (by assumption) (by repeat (first|exact ar _ _|refine aT (bh (by assumption)) ?_)) (fun aeH Xo=>?_);refine aY (M:=iK) ay rfl rfl rfl rfl rfl (by assumption) (by repeat (first|exact ar _ _|refine aT (bh (by assumption)) ?_)) (fun R0 xO=>?_);replace xO:((RT.int .i64).sl).V iK _ p.2.1 R0:=xO;refine bF ay rfl xO rfl (br aB rfl rfl rfl jA rfl (bO (v':= .int .i64 (p.1.length:Int)) rfl (eC rfl rfl rfl (aj rfl rfl ?_))));refine aZ (g:=16) rfl (fun R1=>?_) (fun R1=>?_)
 ·refine aw rfl rfl rfl rfl (aw rfl rfl rfl rfl (aw rfl rfl rfl rfl (aw rfl rfl rfl rfl (aR rfl rfl rfl (ae (gz rfl (au (ak (al rfl rfl (ae (aW ?_)))))))))))
  have eb:jJ p=false:=by
   unfold jJ
   first
   |(rw[decide_eq_false (show¬p.1.length=p.2.1.length by omega)];simp;done)
   |(simp[c2];done)
  exact a8 rfl rfl ⟨S.back,fun h=>by(rw[eb]at h;cases h),fun _=>rfl⟩
 ·have O9:p.1.length=p.2.1.length:=by omega
  refine aq rfl rfl ?_;refine aA (M:=iK) (A:=RT.pa) (B:=(RT.int .i64).sl) bR rfl rfl gT (by decide) (Ey) rfl rfl (by decide) (by assumption) (by repeat (first|exact ar _ _|refine aT (bh (by assumption)) ?_)) (fun aeI Xp=>?_);refine aq rfl rfl ?_;refine aY (M:=iK) ay rfl rfl rfl rfl rfl (by assumption) (by repeat (first|exact ar _ _|refine aT (bh (by assumption)) ?_)) (fun R2 xQ=>?_);replace xQ:((RT.int .i64).sl).V iK _ p.2.1 R2:=xQ;refine aq rfl rfl ?_;refine aS rfl rfl RW (zO _ xQ) (fun r wc hc=>?_);obtain⟨rfl,rfl⟩:=hc;refine aq rfl rfl (fP rfl rfl (bO (v':= .bool (decide (¬ec (-1) p.2.1=true))) (by simp) (aL rfl rfl rfl (ae ?_))));refine bW rfl (fun c2=>?_) (fun c2=>?_)
  ·refine au (ak (al rfl rfl (ae (aW ?_))))
   have eb:jJ p=false:=by
    unfold jJ
    first
    |(rw[decide_eq_false (show¬p.1.length=p.2.1.length by omega)];simp;done)
    |(simp[c2];done)
   exact a8 rfl rfl ⟨S.back,fun h=>by(rw[eb]at h;cases h),fun _=>rfl⟩
  ·have er:ec (-1) p.2.1=true:=cy.1 c2;refine bg (au (ak ?_));refine eu iK xM rfl (fun xR Ea aeJ aeK xc jP=>?_);obtain⟨sI,xS⟩:∃M',M'=ins iK xR:=⟨_,rfl⟩;rw[←xS]at jP;have EP:sI xR:=by rw[xS];exact .inl rfl
   change Ea.heap[xR]? =some (.cells #[.slice none 0 0] _ _)at xc;have:=av jA;replace gr:=(jP.mem _ this).2 gr;replace jA:=jP.aX jA;replace cQ:=cQ.le (by decide) jP.le;replace hM:=jP.lt hM;have:=S.size;replace S:=S.aE jP;refine ae (au (ak (jv (xs:=[]) (ys:=[.tmp 4,.tmp 3]) rfl rfl rfl (al rfl rfl (ae (au (au (ak ?_))))))));refine aA (M:=sI) (A:=RT.pa) (B:=((RT.po).sl).sl) bR rfl rfl my (by decide) (A5) rfl rfl (by decide) (by assumption) (by repeat (first|exact ar _ _|refine aT (bh (by assumption)) ?_)) (fun QM FR=>?_);refine aY (M:=sI) bH rfl rfl rfl rfl rfl (by assumption) (by repeat (first|exact ar _ _|refine aT (bh (by assumption)) ?_)) (fun Jp pO=>?_);replace pO:(((RT.po).sl).sl).V sI _ p.2.2.2 Jp:=pO;refine aj rfl rfl ?_;refine aS rfl rfl RY (qK (cap:=[.pointer (some ⟨xR,0,none⟩),.pointer (some ⟨o2,0,none⟩)]) (B:=w0.heap.size) (J:=rB xR o2 (p.1.length:Int) p.2.2.2 w0.heap.size) (bad:=iq (p.1.length:Int)) _ hM pO RX ⟨_,xc,EP,by omega,jA,gr,dO _ _ _ _ _⟩ (fun i M w M' w' h s=>h.bC s) (fun i M w x vx hJ hM hx tS=>Hx w hM (by obtain⟨_,h1,_,h2,_⟩:=hJ;have:=av h1;omega) hJ hx tS (hRe x (aQ hx)) (by have:=(aF.1 hx).1;omega))) (fun r6 w6 hc=>?_);obtain⟨M6,k6,rfl,hk6,HY,s6,hk7,hk8⟩:=hc;replace cQ:=cQ.le (by decide) s6.le;replace S:=S.lh s6 (bw _);refine ae ?_;refine bW rfl (fun c6=>?_) (fun c6=>?_)
   ·obtain⟨x6,hx6,oD⟩:=hk8 c6
    have eb:jJ p=false:=by
     unfold jJ;have:p.2.2.2.all (fun x=> !iq (p.1.length:Int) x)=false:=qX.2 ⟨x6,hx6,by simp[oD]⟩;simp[this]
    refine au (ak (al rfl rfl (ae (aW ?_))));exact a8 rfl rfl ⟨S.back,fun h=>by(rw[eb]at h;cases h),fun _=>rfl⟩
   ·refine bg (au (ak ?_));obtain⟨oD,⟨vl,gl,_,_,_,_,ix⟩⟩:=hk7 (by omega);rw[bm (bw _)]at ix;have kq:(((RT.li).ptr).sl).V M w6 (p.2.2.2.map iA) vl:=ix.close fZ S (by simp;omega);replace cQ:bL RT.pa M w6 u0 p:=cQ.le (by decide) (ly fZ S);replace S:=S.back;replace hM:=S.lt fZ;refine aA (M:=M) (A:=RT.pa) (B:=RT.str.sl) bR rfl rfl ph (by decide) Ez rfl rfl (by decide) cQ (ar _ _) (fun aeO Xq=>?_);refine aY (M:=M) aJ rfl rfl rfl rfl rfl (by assumption) (by repeat (first|exact ar _ _|refine aT (bh (by assumption)) ?_)) (fun R3 xT=>?_);replace xT:(RT.str.sl).V M _ p.2.2.1 R3:=xT;refine br dp rfl rfl rfl gl rfl (bO (v':=vl) rfl ?_);refine aS rfl rfl RZ (xE _ hM xT kq (by omega) (by simp;omega)) (fun r8 w8 hc=>?_);obtain⟨pd,rfl,y8,s8⟩:=hc;replace cQ:=cQ.le (by decide) s8.le;replace kq:=kq.le s8.le;replace gl:=s8.aX gl;replace hM:=s8.lt hM;have:=S.size;replace S:=S.aE s8;refine aj rfl rfl (b5 rfl rfl rfl (b5 rfl rfl rfl (al rfl rfl (al rfl rfl (ae (au (au (ak (aj rfl rfl (eC rfl rfl rfl (ae ?_)))))))))));refine bW rfl (fun c9=>?_) (fun c9=>?_)
    ·have eb:jJ p=false:=by
      by_cases h:jJ p=true
      ·unfold jJ at h;simp only[bZ,decide_eq_true_eq]at h;exact absurd (by rw[if_pos ⟨by simp[h.1.2],h.2⟩]) c9
      ·simpa using h
     refine au (ak (al rfl rfl (ae (aW ?_))));exact a8 rfl rfl ⟨S.back,fun h=>by(rw[eb]at h;cases h),fun _=>rfl⟩
    ·have e9:(p.2.2.1.length=(p.2.2.2.map iA).length∧tp none p.2.2.1=true):=by
      by_cases h:(p.2.2.1.length=(p.2.2.2.map iA).length∧tp none p.2.2.1=true)
      ·exact h
      ·exact absurd (by rw[if_neg h];decide) c9
     replace y8:=y8 e9.1 e9.2;refine bg (au ?_);apply T.zn [0,1,3,4,6,2,5,7,8,9] 5 [2,3,4] 2 aN mixed
     ·simp+decide only[wC,qv,eO,qW,iX,iY,kK,eZ,iO,lJ,cond_true,cond_false,Nat.reduceBEq,Nat.reduceAdd,beq_self_eq_true];rfl
     ·rfl
     ·rfl
     ·rfl
     ·rfl
     ·rfl
     ·rfl
     intro y4 A9;have fF:=A9 M;replace cQ:=cQ.le (by decide) fF.le;replace kq:=kq.le fF.le;replace gl:=fF.aX gl;replace hM:=fF.lt hM;have:=S.size;replace S:=S.aE fF;refine aA (M:=M) (A:=RT.pa) (B:=(RT.int .i64).sl) bR rfl rfl gT (by decide) (DL) rfl rfl (by decide) (by assumption) (by repeat (first|exact ar _ _|refine aT (bh (by assumption)) ?_)) (fun Js Ei=>?_);refine ae ⟨rfl,rfl,rfl,?_⟩;refine aY (M:=M) ay rfl rfl rfl rfl rfl (by assumption) (by repeat (first|exact ar _ _|refine aT (bh (by assumption)) ?_)) (fun KR rC=>?_);replace rC:((RT.int .i64).sl).V M _ p.1 KR:=rC;refine ae ⟨rfl,rfl,rfl,?_⟩;refine aA (M:=M) (A:=RT.pa) (B:=(RT.int .i64).sl) bR rfl rfl gT (by decide) (Ey) rfl rfl (by decide) (by assumption) (by repeat (first|exact ar _ _|refine aT (bh (by assumption)) ?_)) (fun Xr ER=>?_);refine ae ⟨rfl,rfl,rfl,?_⟩;refine aY (M:=M) ay rfl rfl rfl rfl rfl (by assumption) (by repeat (first|exact ar _ _|refine aT (bh (by assumption)) ?_)) (fun KS iC=>?_);replace iC:((RT.int .i64).sl).V M _ p.2.1 KS:=iC;refine ae ⟨rfl,rfl,rfl,?_⟩;refine aj rfl rfl ?_;refine ae ⟨rfl,rfl,rfl,?_⟩;refine dv ?_;obtain⟨bb,oo,cs,ee,fr,rfl,kr,_⟩:=ER.float;refine⟨eA ⟨eM bR rfl gT (by decide),⟨dx rfl kr (fun h=>h),⟨eU,trivial⟩⟩⟩,?_⟩;have kp:=eX aN y4;refine aS rfl rfl L7 (mq hM rC (by omega)) (fun v5 w5 hc=>?_);obtain⟨oz,s5⟩:=hc;replace iC:=iC.le s5.le;replace y8:=(y8.le (by decide) fF.le).le (by decide) s5.le;replace cQ:=cQ.le (by decide) s5.le;replace kq:=kq.le s5.le;replace gl:=s5.aX gl;replace hM:=s5.lt hM;have:=S.size;replace S:=S.aE s5;refine(fun(kp:eg _ _ _)=>ae ⟨rfl,rfl,fun _=>kp,?_⟩) (by first|exact kp|exact kp.mY (by assumption)|exact kp.goN (by assumption)|exact kp.go (by assumption) (fun _ _ h=>by first|exact h|exact h.elim))
     refine aS rfl rfl L7 (mq hM iC (by omega)) (fun v6 w6' hc=>?_);obtain⟨nS,Da⟩:=hc;replace cQ:=cQ.le (by decide) Da.le;replace kq:=kq.le Da.le;replace oz:=oz.le Da.le;replace iC:=iC.le Da.le;replace y8:=y8.le (by decide) Da.le;replace gl:=Da.aX gl;replace hM:=Da.lt hM;have:=S.size;replace S:=S.aE Da;refine(fun(kp:eg _ _ _)=>ae ⟨rfl,rfl,fun _=>kp,?_⟩) (by first|exact kp|exact kp.mY (by assumption)|exact kp.goN (by assumption)|exact kp.go (by assumption) (fun _ _ h=>by first|exact h|exact h.elim));refine eF (places:=[(0,1),(1,1),(2,1)]) eH RU RV rfl ⟨_,_,rfl,rfl,_,_,rfl,rfl,_,_,rfl,rfl,rfl⟩ (out:=[_,_,_]) ⟨0,[_],rfl,fg oz,by simp[Value.cells],1,[_],rfl,fg nS,by simp[Value.cells],2,[_],rfl,qn y8,by simp[Value.cells],rfl⟩ ?_;refine ae ⟨rfl,rfl,fun h=>absurd rfl h,?_⟩;refine eG (A:=RT.se) (a:=BG p) rfl rfl hM (Wf (x:=BG p) oz nS y8) rfl (fun u8 w8' hu8 Be _=>?_);replace cQ:=cQ.le (by decide) Be.le;replace kq:=kq.le Be.le;replace oz:=oz.le Be.le;replace iC:=iC.le Be.le;replace y8:=y8.le (by decide) Be.le;replace nS:=nS.le Be.le;replace gl:=Be.aX gl;replace hM:=Be.lt hM;have:=S.size;replace S:=S.aE Be;refine ae ⟨rfl,rfl,fun h=>absurd rfl h,?_⟩;refine al rfl rfl ?_;refine ae ⟨rfl,rfl,fun h=>absurd rfl h,?_⟩;refine gX (aW ?_)
     have eb:jJ p=true:=by
      unfold jJ;rw[decide_eq_true O9,er,e9.2,decide_eq_true (by simpa using e9.1),eh.2 (fun x hx=>by simp[oD x hx])];rfl
     exact a8 rfl rfl ⟨S.back,fun _=>hu8,fun h=>by(rw[eb]at h;cases h)⟩
theorem Db {M:aU} {p:Pa} {v0:Value} (w0:World) (hM:Lt M w0) (hv:RT.pa.V M w0 p v0) (hR:Gd p):
  Spec Tryz.prog 27 #[v0] w0 (fun v w=>Step M w0 M w aN∧(jJ p=true→∃s,v= .tuple #[s,.int .i64 0]∧bL RT.se M w s (BG p))∧(jJ p=false→v= .tuple #[.pointer none,.int .i64 1])):=by
 refine bE (args:=[_]) (fn:=Tryz.f27) Tryz.func27 rfl (n:=10) Tryz.ntmps27 ?_;have S:Step M w0 M w0 aN:=(ah _ _).cD (fun _ h=>h.elim) (fun _ h=>h.elim);refine au (ak ?_);refine eG (A:=RT.pa) rfl rfl hM hv rfl (fun u0 w1 cQ s0 _=>?_);replace hM:=s0.lt hM;have:=S.size;replace S:=S.aE s0;refine al rfl rfl (al rfl rfl (ae (au (ak ?_))));refine cc (M:=M) (A:=RT.pa) bR rfl y7 (by decide) rfl rfl rfl cQ (ar _ _) (fun v1 ti=>?_);refine aS rfl rfl Xn (uQ _ hM ti hR) (fun r1 w2 hc=>?_);obtain⟨s2,hok,jU⟩:=hc
 obtain⟨o1,OU⟩:∃o,r1= .pointer o:=by
  cases h:jJ p with
  |true=>obtain⟨b,o,_,h1,_⟩:=hok h;exact⟨_,h1⟩
  |false=>exact⟨none,jU h⟩
 subst OU;replace cQ:=cQ.le (by decide) s2.le;replace hM:=s2.lt hM;have:=S.size;replace S:=S.aE s2;refine al rfl rfl (ae (au (au (ak (aj rfl rfl (Rg.wL ux rfl rfl rfl (ae ?_)))))));refine bW rfl (fun c2=>?_) (fun c2=>?_)
 ·refine au (ak (al rfl rfl (al rfl rfl (ae (aW ?_)))))
  have eb:jJ p=false:=by
   by_cases h:jJ p=true
   ·obtain⟨b,o,_,h1,_⟩:=hok h;rw[c2]at h1;cases h1
   ·simpa using h
  exact fw rfl rfl rfl ⟨S.back,fun h=>by(rw[eb]at h;cases h),fun _=>rfl⟩
 ·refine bg (au (ak (aj rfl rfl (al rfl rfl (al rfl rfl (ae (aW ?_)))))))
  have eb:jJ p=true:=by
   by_cases h:jJ p=true
   ·exact h
   ·have:=jU (by simpa using h);simp at this;exact absurd this c2
  exact fw rfl rfl rfl ⟨S.back,fun _=>⟨_,rfl,hok eb⟩,fun h=>by(rw[eb]at h;cases h)⟩
end Go.K
namespace Go.K
section
variable {P:Program} {r:Option Nat} {n:Nat} {L:Sl} {ds:List Deferred} {w:World} {K:Kt} {M:aU} {F:List (Nat×aU)}
def sJ (l:List Oper) (m q d:Nat):Bool:=
 Nat.blt q m&&mM l [q] m ((l[m]?.map cM).getD [])&&ko l (m+1)&&
 ((List.range' m (l.length-m)).all fun j=>match l[j]? with
  |some o=>re o.op&&(!(asks l o).contains d||(cM o).contains q)
  |none=>true)
theorem uR {l:List Oper} {m q d:Nat} (h:sJ l m q d=true):q<m∧mM l [q] m ((l[m]?.map cM).getD [])=true∧ko l (m+1)=true∧∀j o,m≤j→l[j]? =some o→re o.op=true∧(d∈asks l o→q∈cM o):=by
 simp only[sJ,bZ,Nat.blt_eq]at h;obtain⟨⟨⟨h1,h2⟩,h3⟩,h4⟩:=h;refine⟨h1,h2,h3,fun j o hj ho=>?_⟩;have ek:=(aF.1 ho).1;have:=eh.1 h4 j (List.mem_range'_1.2 ⟨hj,by omega⟩);rw[ho]at this;simp only[bZ,Bool.or_eq_true,qV,jL]at this;refine⟨this.1,fun hd=>?_⟩;rcases this.2 with h|h
 ·rw[←gj,jL]at h;exact absurd hd h
 ·exact h
structure TJ (P:Program) (r:Option Nat) (n:Nat) (l:List Oper) (m q d:Nat) (c:Value) (L:Sl) (K:Kt) (ds:List Deferred) (D:Nat→Prop) (a:Act) (w:World) (p:Nat) (ac:Act) (Lp:Sl) (wq:World):Prop where
 p0:m≤p
 p1:p≤l.length
 dt:∀i,i<l.length→i≠q→(D i↔i<p)
 ag:iF n ac Lp ds
 tr:oO P r n l.toArray aN wq K 0 (l.drop p) Lp ds w
 yes:D q→a=ac
 no: ¬D q→ac=a.put (some d) c∧∀t u,lk (kh l q L) t=some u→a.tmps[t]? =some u
theorem put_comm (a:Act) {d:Nat} {e:Option Nat} (h:e≠some d) (c v:Value):(a.put (some d) c).put e v=(a.put e v).put (some d) c:=by
 cases e with
 |none=>rfl
 |some e=>
  have fE:e≠d:=fun h'=>h (by rw[h'])
  simp only[Act.put];congr 1;apply Array.ext_getElem?;intro i;simp only[dC,Array.size_setIfInBounds];by_cases h1:e=i<;>by_cases h2:d=i<;>simp_all
theorem zS (a:Act) {d t:Nat} (c:Value) (h:t≠d):(a.put (some d) c).tmps[t]? =a.tmps[t]? :=by rw[ij,if_neg (fun e=>h (by injection e with e;exact e.symm))]
theorem TJ.next {l:List Oper} {m q d:Nat} {c:Value} (du:eV l 0=true) (hok:sJ l m q d=true) {oq:Oper} (hq:l[q]? =some oq) (ES:oq.dst=some d) (R4:jV oq.op=true) (NP:oq.guard=none)
  (iG:∀(ρ:Operand→Value) w,(∀x u,ev (kh l q L) x=some u→ρ x=u)→(execOp ρ oq).run P w= .ok (.value c) w)
  {Q:Exit→Act→World→Prop} {D:Nat→Prop} {a:Act} {w:World} {j:Nat} {o:Oper} {rest:List Nat} (ho:l[j]? =some o) (pg: ¬D j) (hp:∀k∈cM o,D k) {p:Nat} {ac:Act} {Lp:Sl} {wq:World} (hi:TJ P r n l m q d c L K ds D a w p ac Lp wq)
  (hk:∀a' w',(∃p ac Lp wq,TJ P r n l m q d c L K ds (fun i=>i=j∨D i) a' w' p ac Lp wq)→wpOpsIn (FW r) 0 P l.toArray Q rest a' w'):wpOpsIn (FW r) 0 P l.toArray Q (j::rest) a w:=by
 obtain⟨hqm,_,wy,FF⟩:=uR hok;have rI:=(aF.1 ho).1;by_cases hjq:j=q
 ·subst hjq;rw[hq]at ho;cases ho;obtain⟨Ge,la⟩:=hi.no pg;refine One.run (by simpa using hq) R4 (v:=c) ?_ (hk _ _ ⟨p,ac,Lp,wq,hi.p0,hi.p1,fun i h1 h2=>⟨fun h=>(hi.dt i h1 h2).1 (h.resolve_left h2),fun h=> .inr ((hi.dt i h1 h2).2 h)⟩,hi.ag,hi.tr,fun _=>by rw[Ge,ES],fun h=>absurd (.inl rfl) h⟩);unfold One;rw[if_pos (by simp[Region.wanted,NP])];refine iG a.eval w fun x u hx=> ?_
  cases x with
  |tmp t=>simp only[ev]at hx;simp[Act.eval,la t u hx]
  |const v=>simp only[ev]at hx;cases hx;rfl
  |global g=>simp only[ev]at hx;cases hx;rfl
  |func f=>simp only[ev]at hx;cases hx;rfl
 ·have hjp:j=p:=by
   have h1:p≤j:=by
    rcases eT j p with h|h
    ·exact absurd ((hi.dt j rI hjq).2 h) pg
    ·exact h
   have:=hi.p0;rcases eT m j with h|h
   ·have h2:=hp _ (kN wy (j:=j) (by omega) ho);have:=(hi.dt (j-1) (by omega) (by omega)).1 h2;omega
   ·omega
  subst hjp;obtain⟨UN,hta⟩:=FF j o hi.p0 ho;have Au:o.dst≠some d:=fun h=>hjq (fO du ho hq h ES)
  have By:∀t∈asks l o,a.tmps[t]? =ac.tmps[t]? :=fun t ht=>by
   by_cases hD:D q
   ·rw[hi.yes hD]
   ·rw[(hi.no hD).1,zS];rintro rfl;exact hD (hp q (hta ht))
  obtain⟨HO,yF⟩:=ny By
  have Z1:a.defers=ac.defers:=by
   by_cases hD:D q
   ·rw[hi.yes hD]
   ·rw[(hi.no hD).1,put_defers]
  have zj:=hi.tr;rw[dV rI,(aF.1 ho).2]at zj;have h1:=Rg.run zj ac hi.ag;refine BU (by simpa using ho) UN HO yF Z1 h1 (fun e a w ⟨_,_,_,he,_⟩=>he) (fun v w' ⟨L',pv,hA,_,Ip,_,PW⟩=>?_) (fun d' w' ⟨L',pv,hA,_,Ip,_⟩=>?_)
  ·rw[Ip]at hA;refine hk _ _ ⟨j+1,ac.put o.dst v,L',wq,by have:=hi.p0;omega,by omega,fun i h3 h4=>?_,hA,PW,fun h=>?_,fun h=>?_⟩
   ·constructor
    ·rintro(h|h)
     ·omega
     ·have:=(hi.dt i h3 h4).1 h;omega
    ·intro h;rcases pq (show i≤j by omega)with h5|h5
     ·exact .inl h5
     ·exact .inr ((hi.dt i h3 h4).2 h5)
   ·rw[hi.yes (h.resolve_left (fun e=>hjq e.symm))]
   ·have hD: ¬D q:=fun h'=>h (.inr h')
    obtain⟨Ge,la⟩:=hi.no hD;refine⟨by rw[Ge,put_comm a Au],fun t u ht=>?_⟩;obtain⟨h3,h4⟩:=j6 (f:=lj l q) ht;rw[ij,if_neg,la t u ht];intro e;simp only[lj,eh]at h3;have:=h3 o (aQ ho);simp only[e,beq_self_eq_true,Bool.not_true,Bool.false_or,jL]at this;exact hD (hp q this)
  ·have h3:=hA.defers;rw[put_defers,Ip]at h3;have h4:=congrArg List.length h3;rw[hi.ag.defers]at h4;simp at h4
theorem jy.R5 {l:List Oper} {wd:World} (m q d:Nat) (c:Value) {oq:Oper} (F:List (Nat×aU)) (S:List (aV M)) (PU:S.length=m) (tx:Nat.blt m l.length=true) (du:eV l 0=true) (hok:sJ l m q d=true)
  (hq:l[q]? =some oq) (ES:oq.dst=some d) (R4:jV oq.op=true) (NP:oq.guard=none) (hS:S[q]? =some (aV.eq c)) (iG:∀(ρ:Operand→Value) w,(∀x u,ev (kh l q L) x=some u→ρ x=u)→(execOp ρ oq).run P w= .ok (.value c) w)
  (nZ:∀p∈F,∀b,p.2 b→M b) (hFq:∀p∈F,p.1≠q) (uz:BP F l S) (tg:cx P r n F wd l S ds L l S 0)
  (kj:∀w',Step M wd M w' (jK (F.map (·.2)))→ig w' (fun acc=>oO P r n l.toArray aN w' K 0 (l.drop m) (acc++kh l l.length L) ds w') l S []):jy P r n l L ds wd K:=by
 intro a0 ha;obtain⟨hqm,Iq,wy,FF⟩:=uR hok;have Xs:m<l.length:=by simpa[Nat.blt_eq]using tx
 have start:∀(D:Nat→Prop) a w,(∀i,i<m→i≠q→D i)→(∀i,m≤i→i<l.length→¬D i)→(∀i o,l[i]? =some o→D i→∀k∈cM o,D k)→Inv F S l wd L ds n (fun i=>D i∧i<l.length) a w→∃p ac Lp wq,TJ P r n l m q d c L K ds D a w p ac Lp wq:=by
  intro D a w lK jU mL hi
  obtain⟨ac,Ge⟩:∃ac,(D q→a=ac)∧(¬D q→ac=a.put (some d) c):=by
   by_cases hD:D q
   ·exact⟨a,fun _=>rfl,fun h=>absurd hD h⟩
   ·exact⟨_,fun h=>absurd h hD,fun _=>rfl⟩
  have hqn:d<n∨n≤d:=eT d n
  have jF:n≤ac.tmps.size:=by
   by_cases hD:D q
   ·rw[←Ge.1 hD];exact hi.size
   ·rw[Ge.2 hD,nv];exact hi.size
  have Z1:ac.defers=ds:=by
   by_cases hD:D q
   ·rw[←Ge.1 hD];exact hi.defers
   ·rw[Ge.2 hD,put_defers];exact hi.defers
  have KU:∀t,t≠d→ac.tmps[t]? =a.tmps[t]? :=fun t ht=>by
   by_cases hD:D q
   ·rw[←Ge.1 hD]
   ·rw[Ge.2 hD,zS a c ht]
  have aeQ:d<a.tmps.size:=by
   have hg:=tg.take.get q oq (by rw[eE,PU,if_pos hqm];exact hq);by_cases hD:D q
   ·obtain⟨v,h1,_⟩:=hi.done q oq (aV.eq c) d hq hS ⟨hD,by omega⟩ ES;exact(Array.getElem?_eq_some_iff.1 h1).1
   ·refine Classical.byContradiction fun jt=> ?_
    obtain⟨s,hs,Xt⟩:=hg;rw[Nat.zero_add]at Xt;rw[hS]at hs;cases hs
    have hpq:∀k∈cM oq,D k:=fun k hk=>by
     have:=cY du q oq hq k hk;exact lK k (by omega) (by omega)
    have:=Inv.next (r:=r) (P:=P) hi du uz nZ (rest:=[]) (Q:=fun _ a' _=>n≤a'.tmps.size∧∃v,a'.tmps[d]? =some v) ⟨aV.eq c,hS,Xt⟩ hq (fun h=>hD h.1) (fun k hk=>⟨hpq k hk,by have:=cY du q oq hq k hk;omega⟩) (fun a' w' ia=>by
     obtain⟨v,h1,_⟩:=ia.done q oq (aV.eq c) d hq hS (.inl rfl) ES;exact⟨ia.size,v,h1⟩)
    have tz:One P r l.toArray w oq a c:=by
     unfold One;rw[if_pos (by simp[Region.wanted,NP])];refine iG a.eval w fun x u hx=> ?_
     have la:∀t u,lk (kh l q L) t=some u→a.tmps[t]? =some u:=fun t u ht=>by
      obtain⟨h3,h4⟩:=j6 (f:=lj l q) ht;refine hi.base t u h4 fun i o ic BA he=> ?_
      simp only[lj,eh]at h3;have:=h3 o (aQ ic);simp only[he,beq_self_eq_true,Bool.not_true,Bool.false_or,jL]at this;exact hD (mL i o ic BA.1 q this)
     cases x with
     |tmp t=>simp only[ev]at hx;simp[Act.eval,la t u hx]
     |const v=>simp only[ev]at hx;cases hx;rfl
     |global g=>simp only[ev]at hx;cases hx;rfl
     |func f=>simp only[ev]at hx;cases hx;rfl
    simp only[wpOpsIn,te,hq]at this;rw[if_pos (by simp[Region.wanted,NP])]at this;obtain⟨_,h2⟩:=this;unfold One at tz;rw[if_pos (by simp[Region.wanted,NP])]at tz;rw[Oper.semAt_eq _ _ _ (l3 R4),tz]at h2;rw[Oper.uponIn_value]at h2;obtain⟨_,v,h3⟩:=h2;rw[ES]at h3;have:=(Array.getElem?_eq_some_iff.1 h3).1;simp[Act.put]at this;exact jt this
  have aeR:∃v,ac.tmps[d]? =some v∧v=c:=by
   by_cases hD:D q
   ·rw[←Ge.1 hD];obtain⟨v,h1,h2⟩:=hi.done q oq (aV.eq c) d hq hS ⟨hD,by omega⟩ ES;exact⟨v,h1,h2⟩
   ·refine⟨c,?_,rfl⟩;rw[Ge.2 hD,ij,if_pos rfl];simp[dC,aeQ]
  have iI:∀{i:Nat} {o:Oper},(l.take m)[i]? =some o→l[i]? =some o∧i<m:=fun {i o} h=>by
   rw[eE]at h
   split at h
   ·exact⟨h,by assumption⟩
   ·cases h
  have lg:Step M wd M w (jK (F.map (·.2))):=hi.step.cD (fun b ⟨p,hp,hD,hb⟩=>fD.2 ⟨p.2,cL.2 ⟨p,hp,rfl⟩,hb⟩) (fun b hb=>by
   obtain⟨N,hN,Bz⟩:=fD.1 hb;obtain⟨p,hp,rfl⟩:=cL.1 hN;exact nZ p hp b Bz)
  have hE:=(kj w lg).take;rw[PU]at hE
  obtain⟨acc,h1,h2⟩:=ig.use (a:=ac) (l.take m) S [] (fun i o s h1 h2 h3=>by
    obtain⟨h4,h5⟩:=iI h1;by_cases Pe:i=q
    ·subst Pe;rw[hq]at h4;cases h4;rw[ES]at h3;cases h3
    ·exact hi.fin i o s h4 h2 ⟨lK i h5 Pe,by omega⟩ h3)
   (fun i o s e h1 h2 h3=>by
    obtain⟨h4,h5⟩:=iI h1;by_cases Pe:i=q
    ·subst Pe;rw[hq]at h4;cases h4;rw[ES]at h3;cases h3;rw[hS]at h2;cases h2;exact aeR
    ·obtain⟨v,h6,h7⟩:=hi.done i o s e h4 h2 ⟨lK i h5 Pe,by omega⟩ h3;exact⟨v,by rw[KU e (fun he=>Pe (fO du h4 hq h3 (by rw[ES,he])))];exact h6,h7⟩)
   (fun t v h=>by simp[lk]at h) hE
  refine⟨m,ac,_,w,bw _,by omega,fun i h3 h4=>⟨fun h=>?_,fun h=>lK i h h4⟩,⟨jF,Z1,fun t v h=>?_⟩,h1,Ge.1,fun hD=>⟨Ge.2 hD,fun t u ht=>?_⟩⟩
  ·rcases eT i m with h5|h5
   ·exact h5
   ·exact absurd h (jU i h5 h3)
  ·rcases lS h with h|h
   ·exact h2 t v h
   ·obtain⟨h3,h4⟩:=j6 (f:=lj l l.length) h
    have fE:∀(i:Nat) (o:Oper),l[i]? =some o→o.dst≠some t:=fun i o ic he=>by
     simp only[lj,eh]at h3;have:=h3 o (aQ ic);simp only[he,beq_self_eq_true,Bool.not_true,Bool.false_or,jL]at this;have h7:=cY du i o ic _ this;have h8:=(aF.1 ic).1;omega
    rw[KU t (fun e=>fE q oq hq (by rw[ES,e]))];exact hi.base t v h4 fun i o ic _=>fE i o ic
  ·obtain⟨h3,h4⟩:=j6 (f:=lj l q) ht;refine hi.base t u h4 fun i o ic BA he=> ?_
   simp only[lj,eh]at h3;have:=h3 o (aQ ic);simp only[he,beq_self_eq_true,Bool.not_true,Bool.false_or,jL]at this;exact hD (mL i o ic BA.1 q this)
 refine⟨fun D a w=>((∀i,m≤i→i<l.length→¬D i)∧Inv F S l wd L ds n (fun i=>D i∧i<l.length) a w)∨∃p ac Lp wq,TJ P r n l m q d c L K ds D a w p ac Lp wq,fun D D' a w hJ hD=>?_,fun Q D a w j o rest hj ho pg hp mL hJ hk=>?_,fun a w hJ=>?_,.inl ⟨fun i _ _ h=>h,?_⟩⟩
 ·rcases hJ with⟨h1,h2⟩|⟨p,ac,Lp,wq,h⟩
  ·refine .inl ⟨fun i h3 h4 h5=>h1 i h3 h4 ((hD i h4).1 h5),?_⟩;have:(fun i=>D' i∧i<l.length)=fun i=>D i∧i<l.length:=funext fun i=>propext ⟨fun⟨h3,h4⟩=>⟨(hD i h4).1 h3,h4⟩,fun⟨h3,h4⟩=>⟨(hD i h4).2 h3,h4⟩⟩
   rw[this];exact h2
  ·exact .inr ⟨p,ac,Lp,wq,h.p0,h.p1,fun i h3 h4=>(hD i h3).trans (h.dt i h3 h4),h.ag,h.tr,fun h3=>h.yes ((hD q (by omega)).1 h3),fun h3=>h.no fun h4=>h3 ((hD q (by omega)).2 h4)⟩
 ·rcases hJ with⟨h1,h2⟩|⟨p,ac,Lp,wq,h⟩
  ·rcases eT j m with BB|BB
   ·have hg:=tg.take.get j o (by rw[eE,PU,if_pos BB];exact ho);rw[Nat.zero_add]at hg;refine h2.next du uz nZ hg ho (fun h=>pg h.1) (fun k tC=>⟨hp k tC,by have:=cY du j o ho k tC;omega⟩) fun a' w' ia=>hk a' w' (.inl ⟨fun i h3 h4 h5=>?_,?_⟩)
    ·rcases h5 with h5|h5
     ·omega
     ·exact h1 i h3 h4 h5
    ·have:(fun i=>(i=j∨D i)∧i<l.length)=fun i=>i=j∨D i∧i<l.length:=funext fun i=>propext ⟨fun⟨h3,h4⟩=>h3.elim .inl fun h=> .inr ⟨h,h4⟩,fun h=>h.elim (fun h=>⟨.inl h,by omega⟩) fun h=>⟨.inr h.1,h.2⟩⟩
     rw[this];exact ia
   ·have aeS:j=m:=by
     rcases eT m j with h|h
     ·have:=hp _ (kN wy (j:=j) (by omega) ho);exact absurd this (h1 (j-1) (by omega) (by omega))
     ·omega
    subst aeS;rw[ho]at Iq;obtain⟨p,ac,Lp,wq,h⟩:=start D a w (fun i hi Pe=>mN (D:=D) mL j (cM o) Iq hp i hi (by simpa using Pe)) h1 mL h2;exact h.next du hok hq ES R4 NP iG ho pg hp fun a' w' h'=>hk a' w' (.inr h')
  ·exact h.next du hok hq ES R4 NP iG ho pg hp fun a' w' h'=>hk a' w' (.inr h')
 ·rcases hJ with⟨h1,_⟩|⟨p,ac,Lp,wq,h⟩
  ·exact absurd Xs (h1 m (bw _) Xs)
  ·have zk:p=l.length:=by
    rcases eT p l.length with h3|h3
    ·have h4:=(h.dt p h3 (by have:=h.p0;omega)).1 h3;omega
    ·have:=h.p1;omega
   have zj:=h.tr;rw[zk,List.drop_length]at zj;exact⟨Lp,ds,by rw[h.yes (by show q<l.length;omega)];exact h.ag,zj⟩
 ·refine⟨(ah M wd).cD (fun _ h=>h.elim) (fun b ⟨p,hp,_,hb⟩=>nZ p hp b hb),fun i o s _ _ h=>h.1.elim,ha.size,ha.defers,fun i o s e _ _ h=>h.1.elim,fun t v h _=>ha.at_ t v h,fun i o _ h=>h.1.elim⟩
theorem T.Xu {id:Nat} {l l':List Oper} (π:List Nat) (m q d:Nat) (c:Value) {oq:Oper} (F:List (Nat×aU)) (S:List (aV M)) (hm:P.follows .mixedOrders=true) (Iu:wC π l=l') (uC:eV l 0=true) (hπ:l6 π l.length=true) (PU:S.length=m) (tx:Nat.blt m l'.length=true) (du:eV l' 0=true) (hok:sJ l' m q d=true)
  (hq:l'[q]? =some oq) (ES:oq.dst=some d) (R4:jV oq.op=true) (NP:oq.guard=none) (hS:S[q]? =some (aV.eq c)) (iG:∀(ρ:Operand→Value) w,(∀x u,ev (kh l' q L) x=some u→ρ x=u)→(execOp ρ oq).run P w= .ok (.value c) w)
  (nZ:∀p∈F,∀b,p.2 b→M b) (hFq:∀p∈F,p.1≠q) (uz:BP F l' S)
  (h:∀wD,(∀M,Step M w M wD aN)→cx P r n F wD l' S ds L l' S 0∧∀w',Step M wD M w' (jK (F.map (·.2)))→ig w' (fun acc=>oO P r n l'.toArray aN w' K 0 (l'.drop m) (acc++kh l' l'.length L) ds w') l' S []):T P r n (.region id l.toArray true) L ds w K:=by
 subst Iu;exact jy.t hm uC fun wD hD=> .perm π hπ uC (.R5 m q d c F S PU tx du hok hq ES R4 NP hS iG nZ hFq uz (h wD hD).1 (h wD hD).2)
theorem ET {s:TypeId} {fs:Array Field} {fd:Field} {j size o o' b:Nat} {zv:Value} {bytes:Nat} {x:Operand} {dst:Option Tmp} {ty:TypeId} {pos:String} {af:Array Edge} {gd:Option (Nat×Bool)} (hu:P.underlying s=some (.struct fs)) (H6:fs[j]? =some fd) (ho:o+fd.offset=o') (hi:TI P fd.type zv size bytes) (hs:size≠0)
  {ρ:Operand→Value} (hx:ρ x= .pointer (some ⟨b,o,none⟩)) (w:World):(execOp ρ {dst,op:= .fieldAddr s x j,type:=ty,pos,after:=af,guard:=gd}).run P w= .ok (.value (.pointer (some ⟨b,o',none⟩))) w:=by
 simp only[execOp,hx];simp[Instr.fieldAt,run_underlying hu,H6,Instr.sureAddr,fieldPlace,hi.sizeOf,hs,←ho,Addr.add_mid]
end
end Go.K
namespace Go.K
open Go.Proofs
set_option maxRecDepth 10000
def mT:Int→List En→Int
 |last,[]=>last
 |_,e::L=>mT e.2 L
def zT:Int→List En→Bool
 |_,[]=>true
 |last,e::L=>decide (mu last e=0)&&zT e.2 L
theorem KV:∀{L:List En} {last:Int} {i:Nat} {e:En},zT last L=true→L[i]? =some e→mu (mT last (L.take i)) e=0∧mT last (L.take (i+1))=e.2
 |[],_,_,_,_,h=>by simp at h
 |x::L,last,0,e,h,hi=>by
  simp only[zT,bZ,decide_eq_true_eq]at h;simp at hi;subst hi;exact⟨by simpa[mT]using h.1,by simp[mT]⟩
 |x::L,last,i+1,e,h,hi=>by
  simp only[zT,bZ,decide_eq_true_eq]at h;have:=KV h.2 (by simpa using hi);simpa[mT]using this
theorem zU {last:Int} {e:En} (h:mu last e=0):iT e.1∧last<e.2:=by
 unfold mu at h
 split at h
 ·rename_i h1;exact absurd h h1
 ·rename_i h1
  split at h
  ·cases h
  ·exact⟨F2 (by simpa using h1),by omega⟩
theorem jT:∀{L:List En} {last:Int},zT last L=true→∀e∈L,iT e.1
 |[],_,_,e,h=>by cases h
 |x::L,last,h,e,he=>by
  simp only[zT,bZ,decide_eq_true_eq]at h;rcases ew.1 he with rfl|he
  ·exact(zU h.1).1
  ·exact jT h.2 e he
theorem zV:∀{L:List En} {last:Int},zT last L=true→ec last (L.map (·.2))=true
 |[],_,_=>rfl
 |x::L,last,h=>by
  simp only[zT,bZ,decide_eq_true_eq]at h;simp only[eO,ec,bZ,decide_eq_true_eq];exact⟨(zU h.1).2,zV h.2⟩
def jo (L:List En):Pa:=(L.map (·.1.1),L.map (·.2),keysOf L,(keysOf L).map (pk L))
theorem Hy {x:List Po} (h:x≠[]):∃p∈x,C7 x=p.1:=by
 unfold C7
 cases hl:x.getLast? with
 |none=>exact absurd (List.getLast?_eq_none_iff.1 hl) h
 |some p=>exact⟨p,List.mem_of_getLast? hl,rfl⟩
theorem EU {L:List En} (h:zT (-1) L=true) (hn:L.length≤1000000):jJ (jo L)=true:=by
 have hF:=jT h;have h1:(keysOf L).map (pk L)=(jo L).2.2.2:=rfl;unfold jJ;have e1:decide ((jo L).1.length=(jo L).2.1.length)=true:=by simp[jo]
 have e2:ec (-1) (jo L).2.1=true:=zV h;have e3:decide ((jo L).2.2.1.length=(jo L).2.2.2.length)=true:=by simp[jo]
 have e4:tp none (jo L).2.2.1=true:=Rp (k9 L)
 have e5:(jo L).2.2.2.all (fun x=> !iq ((jo L).1.length:Int) x)=true:=by
  refine eh.2 fun x hx=> ?_
  rw[←h1]at hx;obtain⟨k,hk,rfl⟩:=cL.1 hx;have fE:pk L k≠[]:=JU 0 (jS.1 hk)
  have aeT:(pk L k).isEmpty=false:=by
   cases h:pk L k with
   |nil=>exact absurd h fE
   |cons a b=>rfl
  have jb:dH (-1) (pk L k)=true:=qm k L 0 (-1) hF (by omega) (by omega);obtain⟨p,hp,hl⟩:=Hy fE;have:=(nf k L 0 hF).2 p hp;have hlen:((jo L).1.length:Int)=L.length:=by simp[jo]
  simp only[iq,jb,aeT,hlen,hl];rw[decide_eq_false (by omega)];rfl
 rw[e1,e2,e3,e4,e5];rfl
theorem NQ {L:List En} (hF:∀e∈L,iT e.1) (hn:L.length≤1000000) (k:List UInt8):Room (pk L k):=by
 have h1:=nf k L 0 hF;have jb:dH (-1) (pk L k)=true:=qm k L 0 (-1) hF (by omega) (by omega);have nY:∀p∈pk L k,p.2.length≤500:=fun p hp=>(h1.2 p hp).2.2
 obtain⟨h2,h3⟩:=nJ (pk L k) (-1) 500 (by omega) jb nY (by omega);have hl:(pk L k).length≤L.length:=h1.1;exact⟨fun p hp=>by have:=nY p hp;omega,by omega,by omega,by omega⟩
theorem Bg {L:List En} (hF:∀e∈L,iT e.1) (hn:L.length≤1000000):KP (jo L):=by
 have hk:(keysOf L).length≤500000000:=by
  have h1:=(k9 L).nodup.length_le_of_subset (l₂:=gZ L) (fun x hx=>jS.1 hx);have:=kT hF;omega
 refine⟨by simp[jo];omega,by simp[jo];omega,by simp only[jo];omega,by simp[jo];omega,fun x hx=>?_⟩;obtain⟨k,_,rfl⟩:=cL.1 hx;exact NQ hF hn k
theorem R6 {M:aU} {w:World} {e:En} {v:Value} (h:RT.en.V M w e v):(-9223372036854775808≤e.1.1∧e.1.1≤9223372036854775807)∧ -9223372036854775808≤e.2∧e.2≤9223372036854775807:=by
 obtain⟨vs,⟨va,vb,_,⟨vc,vd,_,⟨_,h1⟩,_⟩,⟨_,h2⟩⟩,_⟩:=h;exact⟨h1,h2⟩
def ZP (B b:Nat) (vi vs:Value):aU:=fun k=>B≤k∧k≠b∧vi.ownBlock≠some k∧vs.ownBlock≠some k
theorem Own.Pf {κ:IntKind} {e:TypeId} {M M' N:aU} {w w':World} {base:Nat} {v:Value} {xs:List Int} (h:Own (RT.int κ) e (qw v) w base v xs) (s:Step M w M' w' N) (hn:∀c,v.ownBlock=some c→¬N c):Own (RT.int κ) e (qw v) w' base v xs:=
 ((h.MH (M':=allM) (fun _ _=>trivial)).UT s.all hn).lone
theorem Step.aeU {M M' N:aU} {w w':World} (s:Step M w M' w' N) {v:Value} (hv:∀b,v.ownBlock=some b→b<w'.heap.size∧(w.heap.size≤b∨M' b)):Step M w (lA M' v) w' N:=
 ⟨fun h k hk=>hk.elim (fun h1=>(hv k h1).1) (fun h1=>s.lt h k h1),s.os,s.tape,s.output,s.size,fun k hk=>⟨fun h=>by
  rcases h with h|h
  ·rcases(hv k h).2 with h1|h1
   ·omega
   ·exact(s.mem k hk).1 h1
  ·exact(s.mem k hk).1 h,fun h=> .inr ((s.mem k hk).2 h)⟩,s.same,s.sub⟩
end Go.K

/- What the law 'EraseUpto' needs of walks and plain Lean, part 4: nothing is assumed beyond the texts that it imports. -/
import Derived.KernelRfl
import Derived.Test.YtohfoenhmkfjkaaGreatDoorProg
import Derived.Test.YtohfoenhmkfjkaaGreatDoorZEraseUpto1
import Derived.Test.YtohfoenhmkfjkaaGreatDoorZEraseUpto2
import Derived.Test.YtohfoenhmkfjkaaGreatDoorZEraseUpto3
set_option linter.unusedVariables false
set_option linter.unusedSimpArgs false
namespace Go.K
open Go.Proofs
namespace TKBldE
theorem jZ:TI Tryz.prog 107 (.slice none 0 0) 1 24:=by unfold TI;kernel_rfl
theorem Bu:TI Tryz.prog 167 (.map none) 1 8:=by unfold TI;kernel_rfl
theorem Tu:Enters Tryz.prog 63:=enters Tryz.func63 rfl (by decide)
theorem WW:Enters Tryz.prog 111:=enters Tryz.func111 rfl (by decide)
theorem WX:Enters Tryz.prog 112:=enters Tryz.func112 rfl (by decide)
end TKBldE
open TKBldE
set_option maxRecDepth 10000
theorem eD.CH {P:Program} {kt:TypeId} {w:World} {b clock:Nat} {es:List MapEntry} (hk:P.underlying kt=some .string) (h:eD P kt w b es clock):∃ks:List (List UInt8),es.map (·.key)=ks.map sv∧ks.Nodup:=by
 have key:∀es:List MapEntry,(∀e∈es,∃l,keyOf P kt e.key=some l)→∃ks:List (List UInt8),es.map (·.key)=ks.map sv:=by
  intro es
  induction es with
  |nil=>exact fun _=>⟨[],rfl⟩
  |cons e es ih=>
   intro h;obtain⟨ks,h1⟩:=ih fun x hx=>h x (cq _ hx)
   obtain⟨l,hl⟩:=h e (bY ..);obtain⟨x,h3,_,h4⟩:=Maps.keyOf_str hk hl;exact⟨x::ks,by simp only[iE,h1,h3]⟩
 obtain⟨ks,h1⟩:=key es h.ok;refine⟨ks,h1,?_⟩;have h3:=dp.2 h.keys;rw[h1]at h3;exact(dp.1 h3).imp fun h e=>h (by rw[e])
theorem zP {M:az} {w:World}:∀{l:List (List UInt8)},(∀x∈l,x.length≤140737488355328)→ey RT.str M w l (l.map Go.Proofs.encStr)
 |[],_=>rfl
 |x::l,h=>⟨[.string ⟨x.toArray⟩],_,rfl,⟨rfl,h x (bY ..)⟩,zP fun y hy=>h y (cq _ hy)⟩
theorem GI (M:az) (w:World) (M':az) (w':World) (x:List UInt8) (vs:List Value) (h:RT.str.R M w x vs):RT.str.R M' w' x vs:=h
theorem rE {L:List En} (hF:∀x∈L,iQ x.1):∀k∈gI L,k.length≤43:=fun k hk=>by
 obtain⟨e,he,h1⟩:=List.mem_flatMap.1 hk;obtain⟨t,ht,rfl⟩:=cE.1 h1;have:=(hF e he).term ht;unfold dd;simp;omega
theorem qO {L:List En} (hF:∀x∈L,iQ x.1):(gI L).length≤500*L.length:=by
 induction L with
 |nil=>simp[gI]
 |cons e L ih=>
  have h1:=ih fun x hx=>hF x (cq _ hx)
  have h2:=wo (hF e (bY ..));show((cD (o6 e)).map dd++gI L).length≤_;rw[bM,cN,cv];have h2:(cD (o6 e)).length≤500:=h2;omega
theorem Bx {Z M:az} {B b:Nat} {L:List En} {words last:Int} (w0:World) (hM:Lt M w0) (hb:lK Z M w0 B b L words last) (hF:∀x∈L,iQ x.1) (hLn:L.length≤1000000):
  Spec Tryz.prog 58 #[.pointer (some ⟨b,0,none⟩)] w0 (fun v w=>(RT.str.sl).V M w (keysOf L) v∧Step M w0 M w aA):=by
 obtain⟨mb,vl,es,clock,gb,dB,dZ,hB,CB,ho,hW,hR,zl⟩:=hb;obtain⟨ks,IS,mS⟩:=hW.CH aD
 have ek:∀x,x∈ks↔x∈gI L:=fun x=>by
  rw[←hR.k x];constructor
  ·intro hx;have:sv x∈es.map (·.key):=by rw[IS];exact fm hx
   obtain⟨e,he,h⟩:=cE.1 this;exact⟨e,he,h⟩
  ·rintro⟨e,he,h⟩;have:sv x∈ks.map sv:=by rw[←IS,←h];exact fm he
   obtain⟨y,hy,h1⟩:=cE.1 this;rw[←xN h1];exact hy
 have WY:ks.length≤500000000:=by
  have h1:=mS.length_le_of_subset (l₂:=gI L) (fun x hx=>(ek x).1 hx);have h2:=qO hF;omega
 have hen:es.length=ks.length:=by have:=congrArg List.length IS;simpa using this
 refine aW (args:=[_]) (fn:=Tryz.f58) Tryz.func58 rfl (n:=9) Tryz.ntmps58 ?_;have S:Step M w0 M w0 aA:=(an _ _).ca (fun _ h=>h.elim) (fun _ h=>h.elim);refine aj (ah (ai rfl rfl (ad (aj (ah (ae rfl rfl (aR rfl ⟨_,rfl⟩ rfl (aS (o':=1) dg rfl rfl Bu (by decide) rfl rfl (aE fT rfl rfl rfl gb rfl (bp (v':= .map (some mb)) rfl ?_))))))))));refine aM rfl rfl WX (Bs _ _) (fun r w1 hc=>?_);obtain⟨rfl,WZ⟩:=hc;have s1:Step M w0 M w1 aA:=by rw[WZ];exact cU _ w0 _
 have Kj:=vg WZ;have:=ak gb;replace dB:=(s1.mem _ this).2 dB;replace gb:=s1.aG gb;replace dZ:=(s1.mem _ (ak hW.at_)).2 dZ;replace hW:=hW.bg s1;replace hM:=s1.lt hM;have:=S.size;replace S:=S.ax s1;obtain⟨m,hO,QT,o4⟩:=hW.We aD dZ (by unfold maxLen;omega) ks IS;refine aM rfl rfl WW (xQ hO Kj (by omega)) (fun r2 w2 hc=>?_);obtain⟨⟨ss,hss,jX,_⟩,s2⟩:=hc;have OQ:ss.Perm ks:=hss.trans QT;have TW:=List.mergeSort_perm ss fun x y=>decide (x≤y)
 have mC:(ss.mergeSort fun x y=>decide (x≤y))=keysOf L:=My (DC (OQ.nodup_iff.2 mS)) (jm L) fun x=>by rw[TW.mem_iff,OQ.mem_iff,ek,kC]
 have hlen:ss.length=(keysOf L).length:=by rw[←mC,List.length_mergeSort]
 rw[mC,hlen]at jX;have W0:∀x∈keysOf L,x.length≤140737488355328:=fun x hx=>by have:=rE hF x (kC.1 hx);omega
 have qq:Own RT.str 9 (nY r2) w2 w1.heap.size r2 (keysOf L):=⟨⟨_,jX,zP W0⟩,fun b hb=>hb⟩;have xo:(RT.str.sl).V M w2 (keysOf L) r2:=qq.tell GI (fun b hb h=>by have:=(qq.base b hb).1;have:=hM b h;omega) (by have:=OQ.length_eq;omega);have:=ak gb;replace dB:=(s2.mem _ this).2 dB;replace gb:=s2.aG gb;replace dZ:=(s2.mem _ (ak hW.at_)).2 dZ;replace hW:=hW.bg s2;replace hM:=s2.lt hM;have:=S.size;replace S:=S.ax s2;refine ai rfl rfl (ad (aH ?_));exact aP rfl rfl ⟨xo,S⟩
theorem By {Z M:az} {B b:Nat} {L:List En} {words last:Int} {k:List UInt8} (w0:World) (hM:Lt M w0) (hb:lK Z M w0 B b L words last) (hF:∀x∈L,iQ x.1) (hLn:L.length≤1000000) (C3:k.length≤140737488355328):
  Spec Tryz.prog 59 #[.pointer (some ⟨b,0,none⟩),sv k] w0 (fun v w=>(RT.po.sl).V M w (pk L k) v∧Step M w0 M w aA):=by
 have ku:=hM;obtain⟨mb,vl,es,clock,gb,dB,dZ,hB,CB,ho,hW,hR,zl⟩:=hb;obtain⟨kl,uK⟩:=Gq k C3;obtain⟨xd,QU⟩:=qL k L 0 hF;replace xd:(pk L k).length≤L.length:=xd;replace QU:∀p∈pk L k,_:=QU;refine aW (args:=[_,_]) (fn:=Tryz.f59) Tryz.func59 rfl (n:=30) Tryz.ntmps59 ?_;have S:Step M w0 M w0 aA:=(an _ _).ca (fun _ h=>h.elim) (fun _ h=>h.elim);refine aj (ah (ai rfl rfl (ad (aj (ah (ai rfl rfl (ad (aj (aj (ah (ae rfl rfl ?_)))))))))));refine aR rfl ⟨_,rfl⟩ rfl (aS (o':=1) dg rfl rfl Bu (by decide) rfl rfl (aE fT rfl rfl rfl gb rfl (bp (v':= .map (some mb)) rfl (ae rfl rfl ?_))));refine Rg.pJ fT pQ jZ rfl rfl rfl uK hW (fun W2 tQ=>?_);have oy:=hR.o _ _ tQ;have hvb:∀c,W2.ownBlock=some c→c<w0.heap.size:=fun c hc=>(oy.base c hc).2
 clear hR hW ho;refine gN aX rfl oy rfl (ae rfl rfl (ad (bj ?_)));refine dI (σ:=Nat×Value) (fun q=>[(5,q.2),(13,W2),(14,.int .i64 ((pk L k).length:Int)),(15,.int .i64 (q.1:Int))]) (fun q w=>∃M',Lt M' w∧Step M w0 M' w aA∧Own RT.po 153 M' w w0.heap.size q.2 ((pk L k).take q.1)∧Own RT.po 153 M' w B W2 (pk L k)∧q.1≤(pk L k).length) (fun q=>(pk L k).length-q.1) (0,.slice none 0 0) (.cons rfl (.cons rfl (.cons rfl (.cons rfl .nil)))) ?_ ?_
 ·exact⟨M,hM,S,eo _ _ _ _ _,oy,bH _⟩
 ·clear hM S oy;rintro⟨i,u⟩ w ⟨M1,hM,S,hu,oy,hi⟩;dsimp only at hu hi ⊢;refine aj (ah (cf rfl rfl rfl (ad (aj ?_))));refine bF rfl (fun c3=>?_) (fun c3=>?_)
  ·refine aU (aj (bj (aj (ah ?_))));refine Rg.Wq aX gC (by decide) rfl rfl rfl oy (by omega) (fun u4 p AU AA=>?_);rw[aC]at AU;have hp:=QU p (aN AU);refine Rg.Gp (A:=RT.po) bK rfl gC rfl rfl rfl AA (fun v4 qH=>?_);refine oH (A:=RT.po) (M:=M1) gC rfl rfl rfl rfl rfl (by assumption) (aq _ _) hM (fun PC PD lE pD W3=>?_);replace hu:=hu.bg pD;replace oy:=oy.bg pD;replace hM:=pD.lt hM;have:=S.size;replace S:=S.ax pD;refine ad ?_;apply T.oh 5 [0,1,2] 3 aA mixed rfl rfl rfl rfl;intro wD5 sA5;have Jc:=sA5 M1;replace lE:=lE.le (by decide) Jc.le;replace hu:=hu.bg Jc;replace oy:=oy.bg Jc;replace hM:=Jc.lt hM;have:=S.size;replace S:=S.ax Jc;refine ae rfl rfl ?_;refine ad ⟨rfl,rfl,rfl,?_⟩;refine aJ (M:=M1) (A:=RT.po) (B:=RT.int .i64) bK rfl rfl I3 (by decide) (HG) rfl rfl (by decide) (by assumption) (by repeat (first|exact aq _ _|refine aT (a7 (by assumption)) ?_)) (fun VL J5=>?_);refine ad ⟨rfl,rfl,rfl,?_⟩;refine cd (M:=M1) ar rfl rfl (by assumption) (by repeat (first|exact aq _ _|refine aT (a7 (by assumption)) ?_)) (fun QV=>?_);refine ad ⟨rfl,rfl,rfl,?_⟩;refine aJ (M:=M1) (A:=RT.po) (B:=(RT.int .i64).sl) bK rfl rfl nZ (by decide) (O8) rfl rfl (by decide) (by assumption) (by repeat (first|exact aq _ _|refine aT (a7 (by assumption)) ?_)) (fun Vq Cm=>?_);refine ad ⟨rfl,rfl,rfl,?_⟩;refine cg (M:=M1) av rfl rfl rfl rfl rfl (by assumption) (by repeat (first|exact aq _ _|refine aT (a7 (by assumption)) ?_)) (fun aec QW=>?_);refine ad ⟨rfl,rfl,rfl,?_⟩;refine fE ?_;obtain⟨bb,oo,cs,ee,fr,rfl,lv,_⟩:=J5.float;refine⟨jP ⟨gr,⟨gq bK rfl I3 (by decide),⟨ep rfl lv (fun h=>h),trivial⟩⟩⟩,?_⟩
   have kp:=jw aA wD5;refine aM rfl rfl Tu (tR hM QW (by omega)) (fun v5 w5 hc=>?_);obtain⟨ox,s5⟩:=hc;replace lE:=lE.le (by decide) s5.le;replace hu:=hu.bg s5;replace oy:=oy.bg s5;replace hM:=s5.lt hM;have:=S.size;replace S:=S.ax s5;refine(fun(kp:dR _ _ _)=>ad ⟨rfl,rfl,fun _=>kp,?_⟩) (by first|exact kp|exact kp.qu (by assumption)|exact kp.goN (by assumption)|exact kp.go (by assumption) (fun _ _ h=>by first|exact h|exact h.elim));refine dX (places:=[(0,1),(1,1)]) bK gC Il rfl ⟨_,_,rfl,rfl,_,_,rfl,rfl,rfl⟩ (out:=[_,_]) ⟨0,[_],rfl,rfl,by simp[Value.cells],1,[_],rfl,iI ox,by simp[Value.cells],rfl⟩ ?_;have GB:RT.po.V M1 _ p _:=ei (gv QV) ox rfl rfl rfl rfl;refine(fun(kp:dR _ _ _)=>ad ⟨rfl,rfl,fun _=>kp,?_⟩) (by first|exact kp|exact kp.qu (by assumption)|exact kp.goN (by assumption)|exact kp.go (by assumption) (fun _ _ h=>by first|exact h|exact h.elim));refine eW (A:=RT.po) (hn:=by decide) (M:=M1) aX gC (by decide) rfl rfl hM (GB) (.inl rfl) (fun aed aee GK DK=>?_);replace lE:=lE.le (by decide) DK.le;replace ox:=ox.le DK.le;replace hu:=hu.bg DK;replace oy:=oy.bg DK;replace hM:=DK.lt hM;have:=S.size;replace S:=S.ax DK;refine(fun(kp:dR _ _ _)=>ad ⟨rfl,rfl,fun _=>kp,?_⟩) (by first|exact kp|exact kp.qu (by assumption)|exact kp.goN (by assumption)|exact kp.go (by assumption) (fun _ _ h=>by first|exact h|exact h.elim));refine dh (M:=M1) (base:=w0.heap.size) aX gC rfl rfl rfl rfl hu GK (aq _ _) (by simp;omega) (by simp;omega) (S.size) (fun W4 W5 aef QX DL=>?_);replace lE:=lE.le (by decide) DL.le;replace ox:=ox.le DL.le;replace GK:=GK.le DL.le;replace oy:=oy.step DL (fun c hc h=>by have:=hvb c hc;have:=(hu.base c h).1;omega);replace hM:=DL.lt hM;have:=S.size;replace S:=S.dC DL hu (a8 _);replace hu:=QX;refine ad ⟨rfl,rfl,fun h=>absurd rfl h,?_⟩
   refine ai rfl rfl ?_;refine ad ⟨rfl,rfl,fun h=>absurd rfl h,?_⟩;refine uE (ah (bz rfl rfl rfl (by omega) (ae rfl rfl (ad ?_))));refine⟨rfl,(i+1,W4),(.cons rfl (.cons rfl (.cons rfl (.cons rfl .nil)))),?_,?_⟩
   ·exact⟨W5,hM,S,by rw[cr,AU,cY];exact hu,oy,by dsimp only;omega⟩
   ·dsimp only;omega
  ·refine cM (aj (ah (ae rfl rfl (ai rfl rfl (ad (aH ?_))))));rw[bI (by omega)]at hu;exact aP rfl rfl ⟨hu.close ku S (by omega),S.back⟩
end Go.K
namespace Go.K
open Go.Proofs
namespace TKBldF
theorem W6:TI Tryz.prog 190 (.agg #[(.slice none 0 0),(.slice none 0 0)]) 2 48:=by unfold TI;kernel_rfl
theorem W7:placesOf Tryz.prog 190=[(0,1),(1,1)].map some:=by kernel_rfl
theorem W8:Enters Tryz.prog 176:=enters Tryz.func176 rfl (by decide)
theorem W9:Enters Tryz.prog 177:=enters Tryz.func177 rfl (by decide)
theorem Xa:Enters Tryz.prog 178:=enters Tryz.func178 rfl (by decide)
end TKBldF
open TKBldF
set_option maxRecDepth 10000
def zQ:Option (List UInt8)→List (List UInt8)→Bool
 |_,[]=>true
 |o,x::l=>(match o with|none=>true|some a=>decide (a<x))&&zQ (some x) l
theorem tV {l:List (List UInt8)} {k:Nat} {x:List UInt8} (h:l[k]? =some x) (o:Option (List UInt8)):zQ o (l.drop k)=((match o with|none=>true|some a=>decide (a<x))&&zQ (some x) (l.drop (k+1))):=by
 obtain⟨dy,he⟩:=au.1 h;rw[de dy,he];rfl
theorem zR {a:List UInt8}:∀{l:List (List UInt8)},xM (a::l)→zQ (some a) l=true
 |[],_=>rfl
 |x::l,h=>by
  have h':=gJ.1 h;simp only[zQ,bC,decide_eq_true_eq];exact⟨h'.1 x (bY ..),zR h'.2⟩
theorem MV:∀{l:List (List UInt8)},xM l→zQ none l=true
 |[],_=>rfl
 |x::l,h=>by simp only[zQ,dx];exact zR h
theorem DM {M:az} {v:Value} {l:List Int} (w0:World) (hv:((RT.int .i64).sl).V M w0 l v):
  Spec Tryz.prog 124 #[v] w0 (fun v' w'=>v'= .bool (eH (-1) l)∧w'=w0):=by
 have hlen:=ed hv;refine aW (args:=[_]) (fn:=Tryz.f124) Tryz.func124 rfl (n:=28) Tryz.ntmps124 (aj (ah (ai rfl rfl (ad (aj (aj (ah (ae rfl rfl (bU av rfl hv rfl (ae rfl rfl (ad ?_)))))))))));refine bj ?_;refine dI (σ:=Nat×Int) (fun s=>[(0,v),(5,v),(6,.int .i64 l.length),(7,.int .i64 s.1)]) (fun s w=>w=w0∧s.1≤l.length∧eH (-1) l=eH s.2 (l.drop s.1)∧ -1≤s.2∧(s.1=0→s.2= -1)∧(0<s.1→l[s.1-1]? =some s.2)) (fun s=>l.length-s.1) (0,-1) (.cons rfl (.cons rfl (.cons rfl (.cons rfl .nil)))) ?_ ?_
 ·exact⟨rfl,bH _,rfl,by decide,fun _=>rfl,fun h=>absurd h (iF 0)⟩
 ·rintro⟨k,last⟩ w1 ⟨rfl,hk,hr,On,h0,h1⟩;dsimp only at hk hr On h0 h1 ⊢;refine aj (ah (cf rfl rfl rfl (ad (aj ?_))));refine bF rfl (fun c2=>?_) (fun c2=>?_)
  ·refine aU (aj (bj (aj (ah (ae rfl rfl ?_)))));obtain⟨x,hx⟩:∃x,l[k]? =some x:=⟨_,aL (by omega)⟩;refine dq (M:=M) av I3 rfl rfl rfl hv (aq _ _) (by omega) (fun u a hg hu=>?_);obtain rfl:x=a:=eP (bQ (hg.symm.trans (by simpa using hx)));refine cd (M:=M) ar rfl rfl hu (aq _ _) (fun inx=>?_);refine ai rfl rfl (ai rfl rfl (ad (aj (ah (ae rfl rfl (cf rfl rfl rfl (ae rfl rfl ?_)))))));refine aI (g:=14) rfl (fun GL=>?_) (fun GL=>?_)
   ·refine ao rfl rfl rfl rfl (ao rfl rfl rfl rfl (ao rfl rfl rfl rfl (cc rfl rfl rfl (cc rfl rfl rfl (cc rfl rfl rfl (cc rfl rfl rfl (cc rfl rfl rfl (cc rfl rfl rfl (cc rfl rfl rfl (ao rfl rfl rfl rfl (aQ rfl rfl rfl ?_)))))))))));refine ad (lO rfl (aj (ah (ai rfl rfl (ad (aH ?_))))));refine aP rfl rfl ⟨congrArg Value.bool (eP ?_),rfl⟩;rw[hr,eZ hx,decide_eq_false (show¬last<x by omega),fS]
   ·refine al rfl rfl (ae rfl rfl (al rfl rfl (mG rfl rfl rfl (al rfl rfl (ae rfl rfl ?_)))));refine aI (g:=17) rfl (fun Mg=>?_) (fun Mg=>?_)
    ·refine al rfl rfl (ae rfl rfl (al rfl rfl (ae rfl rfl (al rfl rfl (ae rfl rfl (al rfl rfl (gM rfl rfl rfl (by omega) (al rfl rfl ?_))))))));refine dq (M:=M) av I3 rfl rfl rfl hv (aq _ _) (by omega) (fun u2 a hg qt=>?_);obtain rfl:last=a:=eP (bQ (hg.symm.trans (by rw[show((k:Int)-1).toNat=k-1 from by omega];exact h1 (by omega))));refine al rfl rfl ?_;refine cd (M:=M) ar rfl rfl qt (aq _ _) (fun inl=>?_);refine al rfl rfl (eM rfl rfl rfl (al rfl rfl (aQ rfl rfl rfl (ay rfl rfl rfl (ad ?_)))));refine bF rfl (fun c4=>?_) (fun c4=>?_)
     ·refine aj (ah (ai rfl rfl (ad (aH ?_))));refine aP rfl rfl ⟨congrArg Value.bool (eP ?_),rfl⟩;rw[hr,eZ hx,decide_eq_false (show¬last<x by omega),fS]
     ·refine aU (ah (bz rfl rfl rfl (by omega) (ae rfl rfl (ad ?_))));refine⟨rfl,(k+1,x),(.cons rfl (.cons rfl (.cons rfl (.cons rfl .nil)))),?_,?_⟩
      ·refine⟨rfl,by simp only;omega,?_,by simp only;omega,fun h=>by simp at h,fun _=>by simpa using hx⟩;rw[hr,eZ hx,decide_eq_true (show last<x by omega),dx]
      ·simp only;omega
    ·refine ao rfl rfl rfl rfl (ao rfl rfl rfl rfl (ao rfl rfl rfl rfl (ao rfl rfl rfl rfl (ao rfl rfl rfl rfl (ao rfl rfl rfl rfl (ao rfl rfl rfl rfl (al rfl rfl (ay rfl rfl rfl (ay rfl rfl rfl (ad (gL rfl ?_)))))))))));refine aU (ah (bz rfl rfl rfl (by omega) (ae rfl rfl (ad ?_))));refine⟨rfl,(k+1,x),(.cons rfl (.cons rfl (.cons rfl (.cons rfl .nil)))),?_,?_⟩
     ·refine⟨rfl,by simp only;omega,?_,by simp only;omega,fun h=>by simp at h,fun _=>by simpa using hx⟩;rw[hr,eZ hx,decide_eq_true (show last<x by omega),dx]
     ·simp only;omega
  ·refine cM (aj (ah (ai rfl rfl (ad (aH ?_)))));refine aP rfl rfl ⟨congrArg Value.bool (eP ?_),rfl⟩;rw[hr,dP (by omega)];rfl
theorem zS {M:az} {v:Value} {l:List (List UInt8)} (w0:World) (hv:(RT.str.sl).V M w0 l v):
  Spec Tryz.prog 176 #[v] w0 (fun v' w'=>v'= .bool (zQ none l)∧w'=w0):=by
 have hlen:=ed hv;refine aW (args:=[_]) (fn:=Tryz.f176) Tryz.func176 rfl (n:=24) Tryz.ntmps176 (aj (ah (ai rfl rfl (ad (aj (aj (ah (ae rfl rfl (bU bh rfl hv rfl (ae rfl rfl (ad ?_)))))))))));refine bj ?_;refine dI (σ:=Nat×Option (List UInt8)) (fun s=>[(0,v),(5,v),(6,.int .i64 l.length),(7,.int .i64 s.1)]) (fun s w=>w=w0∧s.1≤l.length∧zQ none l=zQ s.2 (l.drop s.1)∧(s.1=0→s.2=none)∧(0<s.1→∃a,s.2=some a∧l[s.1-1]? =some a)) (fun s=>l.length-s.1) (0,none) (.cons rfl (.cons rfl (.cons rfl (.cons rfl .nil)))) ?_ ?_
 ·exact⟨rfl,bH _,rfl,fun _=>rfl,fun h=>absurd h (iF 0)⟩
 ·rintro⟨k,o⟩ w1 ⟨rfl,hk,hr,h0,h1⟩;dsimp only at hk hr h0 h1 ⊢;refine aj (ah (cf rfl rfl rfl (ad (aj ?_))));refine bF rfl (fun c2=>?_) (fun c2=>?_)
  ·refine aU (aj (bj (aj (ah (ae rfl rfl ?_)))));obtain⟨x,hx⟩:∃x,l[k]? =some x:=⟨_,aL (by omega)⟩;refine dq (M:=M) bh I9 rfl rfl rfl hv (aq _ _) (by omega) (fun u a hg hu=>?_);obtain rfl:x=a:=eP (bQ (hg.symm.trans (by simpa using hx)));refine cg (M:=M) aD rfl rfl rfl rfl rfl hu (aq _ _) (fun vx qG=>?_);obtain rfl:=fD qG;refine ai rfl rfl (ai rfl rfl (ad (aj (ah (ae rfl rfl (mG rfl rfl rfl (ae rfl rfl ?_)))))));refine aI (g:=14) rfl (fun GL=>?_) (fun GL=>?_)
   ·refine al rfl rfl (ae rfl rfl (al rfl rfl (ae rfl rfl (al rfl rfl (ae rfl rfl (al rfl rfl (gM rfl rfl rfl (by omega) (al rfl rfl ?_))))))));obtain⟨last,rfl,jL⟩:=h1 (by omega);refine dq (M:=M) bh I9 rfl rfl rfl hv (aq _ _) (by omega) (fun u2 a hg qt=>?_);obtain rfl:last=a:=eP (bQ (hg.symm.trans (by rw[show((k:Int)-1).toNat=k-1 from by omega];exact jL)));refine al rfl rfl ?_;refine cg (M:=M) aD rfl rfl rfl rfl rfl qt (aq _ _) (fun vl jo=>?_);obtain rfl:=fD jo;refine al rfl rfl (Rg.Mx rfl rfl rfl (aQ rfl rfl rfl (ad ?_)));refine bF rfl (fun c4=>?_) (fun c4=>?_)
    ·refine aj (ah (ai rfl rfl (ad (aH ?_))));refine aP rfl rfl ⟨congrArg Value.bool (eP ?_),rfl⟩;rw[hr,tV hx];simp[c4]
    ·refine aU (ah (bz rfl rfl rfl (by omega) (ae rfl rfl (ad ?_))));refine⟨rfl,(k+1,some x),(.cons rfl (.cons rfl (.cons rfl (.cons rfl .nil)))),?_,?_⟩
     ·refine⟨rfl,by simp only;omega,?_,fun h=>by simp at h,fun _=>⟨x,rfl,by simpa using hx⟩⟩;rw[hr,tV hx]
      first
      |(rw[h0 (by omega)];simp;done)
      |(have Xb:=ec.1 c4;simp[Xb];done)
     ·simp only;omega
   ·refine ao rfl rfl rfl rfl (ao rfl rfl rfl rfl (ao rfl rfl rfl rfl (ao rfl rfl rfl rfl (ao rfl rfl rfl rfl (ao rfl rfl rfl rfl (ao rfl rfl rfl rfl (ay rfl rfl rfl (ad (gL rfl (aU (ah ?_)))))))))));refine bz rfl rfl rfl (by omega) (ae rfl rfl (ad ?_));refine⟨rfl,(k+1,some x),(.cons rfl (.cons rfl (.cons rfl (.cons rfl .nil)))),?_,?_⟩
    ·refine⟨rfl,by simp only;omega,?_,fun h=>by simp at h,fun _=>⟨x,rfl,by simpa using hx⟩⟩;rw[hr,tV hx]
     first
     |(rw[h0 (by omega)];simp;done)
     |(have Xb:=ec.1 c4;simp[Xb];done)
    ·simp only;omega
  ·refine cM (aj (ah (ai rfl rfl (ad (aH ?_)))));refine aP rfl rfl ⟨congrArg Value.bool (eP ?_),rfl⟩;rw[hr,dP (by omega)];rfl
theorem qP {α:Type} {A:RT α} {M:az} {w:World} {v:Value} {x:α} (h:ch A M w v x):v.cells= #[v]:=by
 obtain⟨b,o,vs,rfl,_⟩:=h;rfl
theorem Bz {M:az} {v0 v1:Value} {ns:List (List UInt8)} {ts:List Li} (w0:World) (hM:Lt M w0) (hn:(RT.str.sl).V M w0 ns v0) (ht:(((RT.li).ptr).sl).V M w0 ts v1) (hl:ns.length≤1099511627776) (Eb:ts.length≤1099511627776):
  Spec Tryz.prog 128 #[v0,v1] w0 (fun v w=>∃p,v= .tuple #[p,.int .i64 (if ns.length=ts.length∧zQ none ns=true then 0 else 1)]∧(ns.length=ts.length→zQ none ns=true→ch RT.di M w p (ns,ts))∧Step M w0 M w aA):=by
 refine aW (args:=[_,_]) (fn:=Tryz.f128) Tryz.func128 rfl (n:=22) Tryz.ntmps128 ?_;have S:Step M w0 M w0 aA:=(an _ _).ca (fun _ h=>h.elim) (fun _ h=>h.elim);refine aj (ah (ai rfl rfl (ai rfl rfl (ad (aj (aj (ah (ae rfl rfl (bU bh rfl hn rfl (ae rfl rfl (bU dS rfl ht rfl ?_)))))))))));refine eN rfl rfl rfl (ae rfl rfl ?_);refine aI (g:=11) rfl (fun qE=>?_) (fun qE=>?_)
 ·refine ao rfl rfl rfl rfl (ao rfl rfl rfl rfl (ao rfl rfl rfl rfl (aQ rfl rfl rfl (ad (lO rfl (aj (ah (ai rfl rfl (ai rfl rfl (ad (aH ?_)))))))))))
  first
  |exact ez rfl rfl rfl ⟨_,by rw[if_neg (fun h=>qE (by omega))],fun h=>absurd (by omega) qE,S⟩
  |exact ez rfl rfl rfl ⟨_,by rw[if_neg (fun h=>c1 h.2)],fun _ h=>absurd h c1,S⟩
 ·refine al rfl rfl (ae rfl rfl (al rfl rfl ?_));refine aM rfl rfl W8 (zS _ hn) (fun r wc hc=>?_);obtain⟨rfl,rfl⟩:=hc;refine al rfl rfl (Rg.not rfl rfl (bp (v':= .bool (decide (¬zQ none ns=true))) (by simp) (ay rfl rfl rfl (ad ?_))));refine bF rfl (fun c1=>?_) (fun c1=>?_)
  ·refine aj (ah (ai rfl rfl (ai rfl rfl (ad (aH ?_)))))
   first
   |exact ez rfl rfl rfl ⟨_,by rw[if_neg (fun h=>qE (by omega))],fun h=>absurd (by omega) qE,S⟩
   |exact ez rfl rfl rfl ⟨_,by rw[if_neg (fun h=>c1 h.2)],fun _ h=>absurd h c1,S⟩
  ·refine aU (aj (ah (ae rfl rfl ?_)));refine aM rfl rfl W9 (Ge hM hn hl) (fun v3 w3 hc=>?_);obtain⟨uU,s3⟩:=hc;replace hn:=hn.le s3.le;replace ht:=ht.le s3.le;replace hM:=s3.lt hM;have:=S.size;replace S:=S.ax s3;refine ae rfl rfl ?_;refine aM rfl rfl Xa (I0 hM ht Eb) (fun v4 w4 hc=>?_);obtain⟨qH,s4⟩:=hc;replace hn:=hn.le s4.le;replace ht:=ht.le s4.le;replace uU:=uU.le s4.le;replace hM:=s4.lt hM;have:=S.size;replace S:=S.ax s4;refine dX (places:=[(0,1),(1,1)]) Tryz.underlying190 W6 W7 rfl ⟨_,_,rfl,rfl,_,_,rfl,rfl,rfl⟩ (out:=[_,_]) ⟨0,[_],rfl,iI uU,by simp[Value.cells],1,[_],rfl,iI qH,by simp[Value.cells],rfl⟩ ?_;refine jB (A:=RT.di) (a:=(ns,ts)) rfl rfl hM (ei uU qH rfl rfl rfl rfl) rfl (fun u5 w5 AY s5 _=>?_);replace hn:=hn.le s5.le;replace ht:=ht.le s5.le;replace uU:=uU.le s5.le;replace qH:=qH.le s5.le;replace hM:=s5.lt hM;have:=S.size;replace S:=S.ax s5;refine ai rfl rfl (ai rfl rfl (ad (aH ?_)));exact ez rfl rfl rfl ⟨_,by rw[if_pos ⟨by omega,ec.1 c1⟩],fun _ _=>AY,S⟩
end Go.K
namespace Go.K
theorem BA (n:Nat):IntKind.u8.wrap (n:Int)=((UInt8.ofNat n).toNat:Int):=by
 rw[IntKind.wrap_u8];simp[UInt8.toNat_ofNat]
theorem QY:∀m:Nat,m<256→(BitVec.ofInt 8 (m:Int)|||BitVec.ofInt 8 128).toNat=128+m%128:=by decide+kernel
theorem Jd (n:Nat):IntKind.u8.wrap ((BitVec.ofInt IntKind.u8.bits (IntKind.u8.wrap (n:Int))|||BitVec.ofInt IntKind.u8.bits 128).toNat:Int)=((UInt8.ofNat (128+n%128)).toNat:Int):=by
 have h1:IntKind.u8.wrap (n:Int)=((n%256:Nat):Int):=by rw[IntKind.wrap_u8];omega
 rw[h1];show IntKind.u8.wrap ((BitVec.ofInt 8 ((n%256:Nat):Int)|||BitVec.ofInt 8 128).toNat:Int)=_;rw[QY (n%256) (by omega),IntKind.wrap_u8,show n%256%128=n%128 from by omega];simp[UInt8.toNat_ofNat]
theorem Xc (n:Nat):((n:Int)).fdiv (2^min (Int.toNat 7) IntKind.i64.bits)=((n/128:Nat):Int):=by
 show((n:Int)).fdiv 128=_;rw[Int.fdiv_eq_ediv_of_nonneg _ (by decide)];rfl
theorem BB:∀m:Nat,m<256→(BitVec.ofInt 8 (m:Int)&&& ~~~ BitVec.ofInt 8 128).toNat=m%128:=by decide+kernel
theorem zT (c:UInt8):IntKind.u8.wrap ((BitVec.ofInt IntKind.u8.bits (c.toNat:Int)&&& ~~~ BitVec.ofInt IntKind.u8.bits 128).toNat:Int)=((c.toNat%128:Nat):Int):=by
 show IntKind.u8.wrap ((BitVec.ofInt 8 (c.toNat:Int)&&& ~~~ BitVec.ofInt 8 128).toNat:Int)=_;rw[BB c.toNat (by have:=c.toNat_lt;omega),IntKind.wrap_u8];omega
theorem GM (k n x:Nat) (hk:k≤8) (hn:n<128^k) (hx:x<128):
  IntKind.i64.wrap ((BitVec.ofInt IntKind.i64.bits (n:Int)|||BitVec.ofInt IntKind.i64.bits (IntKind.i64.wrap ((x:Int)*2^min (Int.toNat (7*(k:Int))) IntKind.i64.bits))).toNat:Int)=((n+x*128^k:Nat):Int):=by
 have e7:Int.toNat (7*(k:Int))=7*k:=by omega
 have e1:min (7*k) 64=7*k:=by omega
 have e2:(128:Nat)^k=2^(7*k):=by rw[Nat.pow_mul]
 have hp:2^(7*k)≤2^56:=kX (by decide) (by omega);have hb:x*2^(7*k)≤127*2^(7*k):=Nat.mul_le_mul_right _ (by omega);rw[e2]at hn ⊢;show IntKind.i64.wrap ((BitVec.ofInt 64 (n:Int)|||BitVec.ofInt 64 (IntKind.i64.wrap ((x:Int)*2^min (Int.toNat (7*(k:Int))) 64))).toNat:Int)=_;rw[e7,e1];have e3:((x:Int)*2^(7*k))=((x*2^(7*k):Nat):Int):=by simp
 have e5:n|||x*2^(7*k)=n+x*2^(7*k):=by
  rw[Nat.or_comm,Nat.mul_comm x,←Nat.two_pow_add_eq_or_of_lt hn x,Nat.add_comm]
 rw[e3];generalize x*2^(7*k)=y at*
 generalize 2^(7*k)=z at*
 have e4:∀m:Nat,m<2^64→(BitVec.ofInt 64 (m:Int))=BitVec.ofNat 64 m:=fun m _=>by simp
 rw[ix (y:Int) (by omega),e4 n (by omega),e4 y (by omega),BitVec.toNat_or,BitVec.toNat_ofNat,BitVec.toNat_ofNat,ll (by omega),ll (by omega),e5,ix _ (by omega)]
theorem oZ (x:Int): -9223372036854775808≤IntKind.i64.wrap x∧IntKind.i64.wrap x≤9223372036854775807:=by rw[IntKind.wrap_i64];omega
end Go.K
namespace Go.K
open Go.Proofs
set_option maxRecDepth 10000
theorem xT {M:az} {w0:World} {v:Value} {b:List UInt8} {n:Nat} (hM:Lt M w0) (hv:(RT.u8.sl).V M w0 b v) (hb:b.length≤70368744177664) (hn:n≤9223372036854775807):
  Spec Tryz.prog 173 #[v,.int .i64 n] w0 (fun v' w'=>∃M',Step M w0 M' w' aA∧Own RT.u8 5 M' w' w0.heap.size v' (b++put n)):=by
 have h9:=jt hn;refine aW (args:=[_,_]) (fn:=Tryz.f173) Tryz.func173 rfl (n:=26) Tryz.ntmps173 (aj (ah (ai rfl rfl (ad (aj (ah (ae rfl rfl (ae rfl rfl ?_))))))))
 first|refine bU bm rfl (by assumption) rfl ?_|refine gN bm rfl (by assumption) rfl ?_
 refine ae rfl rfl ?_
 first|refine bU bm rfl (by assumption) rfl ?_|refine gN bm rfl (by assumption) rfl ?_
 refine Rg.AD bm I5 rfl rfl rfl rfl hv ⟨rfl,rfl⟩ (fun a tQ lr=>?_);refine ai rfl rfl (ad (aj (bj ?_)));refine dI (σ:=Nat×Value×List UInt8) (fun s=>[(0,s.2.1),(1,.int .i64 s.1)]) (fun s w=>s.2.2++put s.1=b++put n∧∃M1,Lt M1 w∧Step M w0 M1 w aA∧Grow RT.u8 (by decide) 5 M1 w w0.heap.size s.2.1 s.2.2) (fun s=>s.1) (n,_,b) (.cons rfl (.cons rfl .nil)) ?_ ?_
 ·exact⟨rfl,M,hM,an _ _,.inr ⟨a,rfl,lr,tQ⟩⟩
 ·rintro⟨k,u0,acc⟩ w1 ⟨uI,M1,rT,s1,hg⟩;dsimp only at uI hg ⊢;have hlen:=congrArg List.length uI;have wU:=Ia k;simp only[bM]at hlen;refine aj (aj (ah (ae rfl rfl (dA rfl rfl rfl (ad ?_)))));refine bF rfl (fun c2=>?_) (fun c2=>?_)
  ·refine aU (bj (aj (ah (ae rfl rfl (ae rfl rfl (qZ ar bZ rfl rfl (Rg.or rfl rfl rfl (bp (congrArg _ (Jd _)) ?_))))))));refine eW (A:=RT.u8) (hn:=by decide) (M:=M1) bm I5 (by decide) rfl rfl rT (KS.2 rfl) (.inr ⟨rfl,rfl⟩) (fun u w2 hu s2=>?_);refine Rg.Ca (M:=M1) (base:=w0.heap.size) bm I5 rfl rfl rfl rfl (hg.le s2) hu (aq _ _) (by simp) (by simp;omega) (by simp;omega) (eO s1.size s2.size) (fun v3 M3 w3 HP s3=>?_);refine ai rfl rfl (ad (ah (ae rfl rfl (Rg.shr rfl rfl rfl (by omega) (bp (congrArg _ (Xc _)) (ai rfl rfl (ad ?_)))))));refine⟨rfl,(k/128,v3,acc++[UInt8.ofNat (128+k%128)]),(.cons rfl (.cons rfl .nil)),?_,?_⟩
   ·exact⟨by rw[←uI,AN (n:=k) (by omega)];simp,M3,s3.lt (s2.lt rT),(s1.ax s2).kc s3 (a8 _),.inl HP⟩
   ·show k/128<k;omega
  ·refine cM (aj (ah (ae rfl rfl (ae rfl rfl (qZ ar bZ rfl rfl (bp (congrArg _ (BA _)) ?_))))));refine eW (A:=RT.u8) (hn:=by decide) (M:=M1) bm I5 (by decide) rfl rfl rT (KS.2 rfl) (.inr ⟨rfl,rfl⟩) (fun u w2 hu s2=>?_);refine Rg.Ca (M:=M1) (base:=w0.heap.size) bm I5 rfl rfl rfl rfl (hg.le s2) hu (aq _ _) (by simp) (by simp;omega) (by simp;omega) (eO s1.size s2.size) (fun v3 M3 w3 HP s3=>?_);refine ai rfl rfl (ad (aH ?_));refine aP rfl rfl ⟨M3,(s1.ax s2).kc s3 (a8 _),?_⟩;rw[←uI,sO (n:=k) (by omega)];exact HP
theorem GN {M:az} {w0:World} {v:Value} {b:List UInt8} {n:Nat} (hM:Lt M w0) (hv:(RT.u8.sl).V M w0 b v) (hb:b.length≤70368744177664) (hn:n≤9223372036854775807):
  Spec Tryz.prog 173 #[v,.int .i64 n] w0 (fun v' w'=>Step M w0 M w' aA∧(RT.u8.sl).V M w' (b++put n) v'):=
 (xT hM hv hb hn).mono fun _ _ ⟨_,s,ho⟩=>⟨s.back,Own.close hM s ho (by have:=jt hn;simp;omega)⟩
theorem zU {M:az} {w0:World} {v:Value} {b:List UInt8} {at_:Int} (hv:(RT.u8.sl).V M w0 b v) (Oo: -9223372036854775808≤at_∧at_≤9223372036854775807):
  Spec Tryz.prog 250 #[v,.int .i64 at_] w0 (fun v' w'=>v'= .tuple #[.int .i64 (get b at_).1,.int .i64 (get b at_).2.1,.int .i64 (get b at_).2.2]∧w0=w'):=by
 have hlen:=ed hv;refine aW (args:=[_,_]) (fn:=Tryz.f250) Tryz.func250 rfl (n:=54) Tryz.ntmps250 (aj (ah (ai rfl rfl (ai rfl rfl (ai rfl rfl (ad (aj (aj (ah (ae rfl rfl (cf rfl rfl rfl ?_)))))))))));refine ae rfl rfl ?_;refine aI (g:=12) rfl (fun fM=>?_) (fun fM=>?_)
 ·obtain MW:at_<0∨(b.length:Int)<at_:= .inl fM;refine ao rfl rfl rfl rfl (ao rfl rfl rfl rfl (ao rfl rfl rfl rfl (ao rfl rfl rfl rfl (aQ rfl rfl rfl (ad (lO rfl (aj (ah (ai rfl rfl (ai rfl rfl (ai rfl rfl ?_)))))))))));refine ad (aH ?_);have fL:get b at_=(0,0,1):=by unfold get;rw[if_pos MW]
  exact od rfl rfl rfl rfl ⟨by rw[fL],rfl⟩
 ·refine al rfl rfl (ae rfl rfl (al rfl rfl (ae rfl rfl (al rfl rfl ?_))))
  first|refine bU bm rfl (by assumption) rfl ?_|refine gN bm rfl (by assumption) rfl ?_
  refine al rfl rfl (mG rfl rfl rfl (ay rfl rfl rfl (ad ?_)));refine bF rfl (fun c1=>?_) (fun c1=>?_)
  ·obtain MW:at_<0∨(b.length:Int)<at_:= .inr c1;refine aj (ah (ai rfl rfl (ai rfl rfl (ai rfl rfl (ad (aH ?_))))));have fL:get b at_=(0,0,1):=by unfold get;rw[if_pos MW]
   exact od rfl rfl rfl rfl ⟨by rw[fL],rfl⟩
  ·refine aU (aj (ah (ai rfl rfl (ad (aj (aj (ah (ae rfl rfl (ae rfl rfl (ae rfl rfl ?_))))))))))
   first|refine bU bm rfl (by assumption) rfl ?_|refine gN bm rfl (by assumption) rfl ?_
   refine ae rfl rfl (bz rfl rfl rfl (by omega) (Rg.min2 rfl rfl rfl ?_));refine Rg.Ex bm I5 rfl rfl rfl rfl hv (by omega) (fun u hu=>?_);rw[show(min (b.length:Int) (at_+9)).toNat=min b.length (at_.toNat+9)from by omega,Ll]at hu;have fL:get b at_=match lz ((b.drop at_.toNat).take 9) 0 0 with|some (n,k)=>((n:Int),at_+k,0)|none=>(0,0,2):=by unfold get;rw[if_neg (by omega)];rfl
   have zG:((b.drop at_.toNat).take 9).length≤9:=by rw[bG];omega
   generalize (b.drop at_.toNat).take 9=bs at hu fL zG
   first|refine bU bm rfl (by assumption) rfl ?_|refine gN bm rfl (by assumption) rfl ?_
   refine ae rfl rfl (ad (bj ?_));refine dI (σ:=Nat×Nat) (fun s=>[(1,.int .i64 at_),(25,u),(26,.int .i64 bs.length),(27,.int .i64 s.1),(7,.int .i64 s.2)]) (fun s w=>w0=w∧s.1≤bs.length∧s.2<128^s.1∧lz (bs.drop s.1) s.1 s.2=lz bs 0 0) (fun s=>bs.length-s.1) (0,0) (.cons rfl (.cons rfl (.cons rfl (.cons rfl (.cons rfl .nil))))) ?_ ?_
   ·exact⟨rfl,bH _,by decide,rfl⟩
   ·rintro⟨k,m⟩ w1 ⟨rfl,hk,hm,hg⟩;dsimp only at hk hm hg ⊢;refine aj (ah (cf rfl rfl rfl (ad (aj ?_))));refine bF rfl (fun c5=>?_) (fun c5=>?_)
    ·refine aU (aj (bj (aj (ah (ae rfl rfl ?_)))));refine dq (M:=M) bm I5 rfl rfl rfl (by assumption) (by repeat (first|exact aq _ _|refine aT (a7 (by assumption)) ?_)) (by omega) (fun aeg Je zV aaE=>?_);refine Rg.KV (M:=M) bZ rfl rfl (by assumption) (by repeat (first|exact aq _ _|refine aT (a7 (by assumption)) ?_)) ?_;refine ai rfl rfl (ai rfl rfl (ad (aj (ah (ae rfl rfl (ae rfl rfl (Rg.andNot rfl rfl rfl (bp (congrArg _ (zT _)) (Rg.qm bZ ar rfl rfl (by omega) (ae rfl rfl (Rg.HT rfl rfl rfl (by omega) ?_)))))))))));refine Rg.shl rfl rfl rfl (by omega) (Rg.or rfl rfl rfl (bp (congrArg _ (GM k m _ (by omega) hm (by omega))) (ai rfl rfl (ad (aj (ah (ae rfl rfl (cf rfl rfl rfl (ad ?_)))))))));refine bF rfl (fun c8=>?_) (fun c8=>?_)
     ·refine aj (aj (ah (ae rfl rfl (Rg.Ay rfl rfl rfl (ae rfl rfl ?_)))));refine aI (g:=44) rfl (fun xU=>?_) (fun xU=>?_)
      ·refine al rfl rfl (ae rfl rfl (al rfl rfl (mG rfl rfl rfl (aQ rfl rfl rfl (ad ?_)))));refine bF rfl (fun c9=>?_) (fun c9=>?_)
       ·refine cM (aj (ah (ai rfl rfl (ai rfl rfl (ai rfl rfl (ad (aH ?_)))))))
        have hr:lz bs 0 0=none:=by
         rw[←hg]
         first
         |(rw[lA (by simpa using zV),if_pos (by omega),if_pos (by omega)])
         |(rw[dP (by omega)];rfl)
        exact od rfl rfl rfl rfl ⟨by rw[fL,hr],rfl⟩
       ·refine aU (aj (ah (ae rfl rfl (ae rfl rfl (ae rfl rfl (bz rfl rfl rfl (by omega) (bz rfl rfl rfl (by omega) (ai rfl rfl (ai rfl rfl (ai rfl rfl (ad ?_)))))))))));refine aH ?_;have hr:lz bs 0 0=some (m+Je.toNat%128*128^k,k+1):=by rw[←hg,lA (by simpa using zV),if_pos (by omega),if_neg (by omega)]
        exact od rfl rfl rfl rfl ⟨by rw[fL,hr];simp;omega,rfl⟩
      ·refine ao rfl rfl rfl rfl (ao rfl rfl rfl rfl (ay rfl rfl rfl (ad (gL rfl (aU (aj (ah (ae rfl rfl (ae rfl rfl (ae rfl rfl (bz rfl rfl rfl (by omega) ?_)))))))))));refine bz rfl rfl rfl (by omega) (ai rfl rfl (ai rfl rfl (ai rfl rfl (ad (aH ?_)))));have hr:lz bs 0 0=some (m+Je.toNat%128*128^k,k+1):=by rw[←hg,lA (by simpa using zV),if_pos (by omega),if_neg (by omega)]
       exact od rfl rfl rfl rfl ⟨by rw[fL,hr];simp;omega,rfl⟩
     ·refine aU (ah (bz rfl rfl rfl (by omega) (ae rfl rfl (ad ?_))));refine⟨rfl,(k+1,m+Je.toNat%128*128^k),(.cons rfl (.cons rfl (.cons rfl (.cons rfl (.cons rfl .nil))))),?_,?_⟩
      ·refine⟨rfl,by simp only;omega,?_,?_⟩
       ·have:=Nat.mul_le_mul_right (128^k) (show Je.toNat%128≤127 from by omega);simp only[Nat.pow_succ];omega
       ·rw[lA (by simpa using zV),if_neg (by omega)]at hg;exact hg
      ·simp only;omega
    ·refine cM (aj (ah (ai rfl rfl (ai rfl rfl (ai rfl rfl (ad (aH ?_)))))))
     have hr:lz bs 0 0=none:=by
      rw[←hg]
      first
      |(rw[lA (by simpa using zV),if_pos (by omega),if_pos (by omega)])
      |(rw[dP (by omega)];rfl)
     exact od rfl rfl rfl rfl ⟨by rw[fL,hr],rfl⟩
theorem vh {M:az} {w0:World} {v u:Value} {b:List UInt8} {l:List Int} (hM:Lt M w0) (hv:(RT.u8.sl).V M w0 b v) (hu:((RT.int .i64).sl).V M w0 l u) (hb:b.length+9*(l.length+1)≤70368744177664):
  Spec Tryz.prog 174 #[v,u] w0 (fun v' w'=>∃M' x,Step M w0 M' w' aA∧v'= .tuple #[x,.int .i64 (if eH (-1) l then 0 else 1)]∧Own RT.u8 5 M' w' w0.heap.size x (if eH (-1) l then b++dM l else[])):=by
 have xd:=jt (n:=l.length) (by omega);refine aW (args:=[_,_]) (fn:=Tryz.f174) Tryz.func174 rfl (n:=31) Tryz.ntmps174 (aj (ah (ai rfl rfl (ai rfl rfl (ad (aj (ah (ae rfl rfl (ae rfl rfl (bU av rfl hu rfl ?_))))))))));refine aM rfl rfl Lv (xT (M:=M) hM hv (by omega) (by omega)) (fun ub wb yf=>?_);obtain⟨Mb,sb,rf⟩:=yf;refine ai rfl rfl (ad (aj (ah (ai rfl rfl (ad (aj (aj (ah (ae rfl rfl (bU av rfl hu rfl (ae rfl rfl ?_)))))))))));refine ad (bj ?_);refine dI (σ:=Nat×Int×Value×List UInt8) (fun s=>[(0,s.2.2.1),(6,.int .i64 s.2.1),(13,u),(14,.int .i64 l.length),(15,.int .i64 s.1)]) (fun s w=>eH (-1) l=eH s.2.1 (l.drop s.1)∧(eH (-1) l=true→s.2.2.2++jU s.2.1 (l.drop s.1)=b++dM l)∧s.1≤l.length∧ -1≤s.2.1∧s.2.2.2.length≤b.length+9*(s.1+1)∧∃M1,Lt M1 w∧Step M w0 M1 w aA∧Own RT.u8 5 M1 w w0.heap.size s.2.2.1 s.2.2.2) (fun s=>l.length-s.1) (0,-1,_,b++put l.length) (.cons rfl (.cons rfl (.cons rfl (.cons rfl (.cons rfl .nil))))) ?_ ?_
 ·exact⟨rfl,fun _=>by simp[dM],bH _,by simp only;omega,by simp;omega,Mb,sb.lt hM,sb,rf⟩
 ·rintro⟨k,last,u0,acc⟩ w1 ⟨hr,uI,hk,On,Xd,M1,rT,s1,ho⟩;dsimp only at hr uI hk On Xd ho ⊢;refine aj (ah (cf rfl rfl rfl (ad (aj ?_))));refine bF rfl (fun c4=>?_) (fun c4=>?_)
  ·refine aU (aj (bj (aj (ah ?_))));obtain⟨x,hx⟩:∃x,l[k]? =some x:=⟨_,aL (by omega)⟩;have hxr:=Ew hu hx;refine dq (M:=M) av I3 rfl rfl rfl (hu.le (s1.back).le) (aq _ _) (by omega) (fun QZ GO Q0 CK=>?_);obtain rfl:GO=x:=bQ (Q0.symm.trans (by simpa using hx));refine cd (M:=M) ar rfl rfl CK (aq _ _) (fun _=>?_);refine ai rfl rfl (ad (aj (aj (ah (ae rfl rfl (ae rfl rfl (eM rfl rfl rfl (ad ?_))))))));refine bF rfl (fun c6=>?_) (fun c6=>?_)
   ·refine aj (ah (ai rfl rfl (ai rfl rfl (ad (aH ?_)))));have hrf:eH (-1) l=false:=by rw[hr,eZ hx,decide_eq_false (by omega),fS]
    exact ez rfl rfl rfl ⟨M1,_,s1,by rw[hrf];rfl,by rw[hrf];exact eo _ _ _ _ _⟩
   ·refine aU (aj (ah (ae rfl rfl (ae rfl rfl (ae rfl rfl (Rg.KT rfl rfl rfl (Rg.KT rfl rfl rfl ?_)))))));have hpx:=jt (n:=(GO-last-1).toNat) (by omega);refine bp (v':= .int .i64 (((GO-last-1).toNat:Nat):Int)) (by rw[IntKind.wrap_i64,IntKind.wrap_i64];congr 1;omega) ?_;have hfz:=s1.freeze (v:=u0) (fun b hb=>(ho.base b hb).1);refine aM rfl rfl Lv (xT (M:=rm M1 u0) (rT.rm u0) (ho.view (by omega)) (by omega) (by omega)) (fun ub wb yf=>?_);obtain⟨Mb2,sb2,Xe⟩:=yf;refine ai rfl rfl (ad (ah (ae rfl rfl (ai rfl rfl (ad (ah (bz rfl rfl rfl (by omega) (ae rfl rfl (ad ?_)))))))));refine⟨rfl,(k+1,GO,ub,acc++put (GO-last-1).toNat),(.cons rfl (.cons rfl (.cons rfl (.cons rfl (.cons rfl .nil))))),?_,?_⟩
    ·refine⟨?_,fun h=>?_,by simp only;omega,by simp only;omega,by simp only[bM];omega,Mb2,sb2.lt (rT.rm u0),hfz.ax sb2,Xe.qo s1.size⟩
     ·rw[hr,eZ hx,decide_eq_true (by omega),dx]
     ·rw[←uI h,Da hx];simp
    ·simp only;omega
  ·refine cM (aj (ah (ae rfl rfl (ai rfl rfl (ai rfl rfl (ad (aH ?_)))))));have Xf:eH (-1) l=true:=by rw[hr,dP (by omega)];rfl
   have ha:=uI Xf;rw[dP (by omega),jU,sk]at ha;exact ez rfl rfl rfl ⟨M1,_,s1,by rw[Xf];rfl,by rw[Xf,←ha];exact ho⟩
theorem tW {M:az} {w0:World} {v u:Value} {b:List UInt8} {l:List Int} (hM:Lt M w0) (hv:(RT.u8.sl).V M w0 b v) (hu:((RT.int .i64).sl).V M w0 l u) (hb:b.length+9*(l.length+1)≤70368744177664):
  Spec Tryz.prog 174 #[v,u] w0 (fun v' w'=>∃x,Step M w0 M w' aA∧v'= .tuple #[x,.int .i64 (if eH (-1) l then 0 else 1)]∧(RT.u8.sl).V M w' (if eH (-1) l then b++dM l else[]) x):=
 (vh hM hv hu hb).mono fun _ _ ⟨_,x,s,h,ho⟩=>⟨x,s.back,h,Own.close hM s ho (by
  split
  next hr=>
   have xd:=jt (n:=l.length) (by omega);have kK:∀x∈l,x≤9223372036854775807:=fun x hx=>by obtain⟨i,hi⟩:=bN.1 hx;exact(Ew hu hi).2
   have:=sT l (-1) (by decide) kK hr;simp only[dM,bM];omega
  next=>simp)⟩
theorem wx {M:az} {w0:World} {be bb ba:Nat} {v:Value} {b:List UInt8} {at_:Int} (he:w0.heap[be]? =some (.cells #[.int .i64 0] 26 (0,0))) (hb:w0.heap[bb]? =some (.cells #[v] 147 (0,0))) (ha:w0.heap[ba]? =some (.cells #[.int .i64 at_] 3 (0,0))) (eK:be≠ba) (MX:M be) (Oq:M ba) (hv:(RT.u8.sl).V M w0 b v) (Oo: -9223372036854775808≤at_∧at_≤9223372036854775807):
  Spec Tryz.prog 274 #[.pointer (some ⟨be,0,none⟩),.pointer (some ⟨bb,0,none⟩),.pointer (some ⟨ba,0,none⟩)] w0 (fun v' w'=>v'= .int .i64 (get b at_).1∧w'.heap[be]? =some (.cells #[.int .i64 (get b at_).2.2] 26 (0,0))∧w'.heap[ba]? =some (.cells #[.int .i64 (get b at_).2.1] 3 (0,0))∧Step M w0 M w' (fun k=>k=be∨k=ba)):=by
 refine aW (args:=[_,_,_]) (fn:=Tryz.f274) Tryz.func274 rfl (n:=15) Tryz.ntmps274 (aj (ah (ai rfl rfl (ad (aj (aj (ah (aE ra rfl rfl rfl (by assumption) rfl (eN rfl rfl rfl (ad ?_))))))))));refine bF rfl (fun c1=>?_) (fun c1=>?_)
 ·exact absurd rfl c1
 ·refine aU (aj (ah (ai rfl rfl (ad (aj (ah (aE bm rfl rfl rfl (by assumption) rfl (aE ar rfl rfl rfl (by assumption) rfl ?_))))))));refine aM rfl rfl Pu (zU hv Oo) (fun r w1 h1=>?_);obtain⟨rfl,rfl⟩:=h1;refine ae rfl rfl (bO rfl rfl rfl (bO rfl rfl rfl (bO rfl rfl rfl (ai rfl rfl ?_))));refine bP (M:=M) I3 rfl rfl ha rfl rfl Oq (fun w1 h1 s1=>?_);refine bP (M:=M) S0 rfl rfl (s1.bE he eK) rfl rfl MX (fun w2 h2 s2=>?_);refine ad (aj (ah (ae rfl rfl (ai rfl rfl (ad (aH ?_))))));refine aP rfl rfl ⟨rfl,h2,s2.bE h1 (Ne.symm eK),?_⟩;exact(s1.ca (fun b hb=> .inr hb) (fun b hb=>by rcases hb with rfl|rfl<;>assumption)).trans s2 (fun b _ hb=> .inl hb)
theorem tX {M:az} {w0:World} {v:Value} {b:List UInt8} {at_:Int} (hM:Lt M w0) (hv:(RT.u8.sl).V M w0 b v) (Oo: -9223372036854775808≤at_∧at_≤9223372036854775807) (zG:b.length≤1099511627776):
  Spec Tryz.prog 251 #[v,.int .i64 at_] w0 (fun v' w'=>∃x,v'= .tuple #[x,.int .i64 (fo b at_).2.2,.int .i64 (fo b at_).1]∧((RT.int .i64).sl).V M w' (fo b at_).2.1 x∧Step M w0 M w' aA):=by
 refine aW (args:=[_,_]) (fn:=Tryz.f251) Tryz.func251 rfl (n:=48) Tryz.ntmps251 (aj (ah ?_));refine mH M rfl rfl (fun bb w1 Kj aei hB s1=>?_);rw[iI hv]at hB;refine mH (ins M bb) rfl rfl (fun ba w2 hba aej hA s2=>?_);refine ai rfl rfl (ai rfl rfl (ai rfl rfl (ad (aj (ah ?_)))));refine ff (ins (ins M bb) ba) S0 rfl (fun be w3 hbe aek hE s3=>?_);refine bP (M:=ins (ins (ins M bb) ba) be) S0 rfl rfl hE rfl rfl (.inl rfl) (fun w4 hE4 s4=>?_);have z1:=s1.size;have z2:=s2.size;have z3:=s3.size;have z4:=s4.size;have S4:Step M w0 (ins (ins (ins M bb) ba) be) w4 aA:=((s1.ax s2).ax s3).cx s4 (fun k hk=>by subst hk;omega);have Tv:=s4.bE (s3.aG (s2.aG hB)) (show bb≠be by omega);have hA4:=s4.bE (s3.aG hA) (show ba≠be by omega);refine ad (aj (ah (iD (xs:=[]) rfl rfl rfl (ai rfl rfl (ad (aj (ah (ai rfl rfl (ad (aj (ah ?_)))))))))));refine ai rfl rfl (ad (aj (aj (ah (ae rfl rfl ?_)))));refine Rg.mV (first:=[]) (xs:=[]) rfl rfl rfl Pv (wx (M:=ins (ins (ins M bb) ba) be) hE4 Tv hA4 (by omega) (.inl rfl) (.inr (.inl rfl)) (hv.le S4.le) Oo) (fun r w5 h5=>?_);obtain⟨rfl,hE5,hA5,s5⟩:=h5;have z5:=s5.size;have S5:=S4.cx s5 (fun k hk=>by omega);have hB5:=s5.bE Tv (by omega);obtain⟨Xg,hn1,hn2,hn3⟩:=lW b at_;refine bp (v':= .int .i64 (((get b at_).1.toNat:Nat):Int)) (by rw[uu Xg]) (ai rfl rfl (ad (bj ?_)));refine dI (σ:=Nat×Int×Value×List Int×Int×Int) (fun s=>[(7,.pointer (some ⟨be,0,none⟩)),(3,.pointer (some ⟨ba,0,none⟩)),(8,.func (.func 274) [].toArray [.pointer (some ⟨be,0,none⟩),.pointer (some ⟨bb,0,none⟩),.pointer (some ⟨ba,0,none⟩)].toArray),(9,s.2.2.1),(10,.int .i64 s.2.1),(11,.int .i64 s.1)]) (fun s w=>(s.1:Int)≤9223372036854775807∧(s.2.2.2.2.1=0→fo b at_=andThen s.2.2.2.1 (fQ b s.1 s.2.2.2.2.2 s.2.1))∧(s.2.2.2.2.1≠0→fo b at_=(s.2.2.2.2.1,[],0))∧(s.2.2.2.2.1=0→ -1≤s.2.1∧s.2.1≤4611686018427387904∧(s.2.2.2.1.length:Int)≤s.2.2.2.2.2∧s.2.2.2.2.2≤b.length)∧s.2.2.2.1.length≤b.length+1∧∃M1,Lt M1 w∧Step M w0 M1 w aA∧w4.heap.size≤w.heap.size∧M1 be∧M1 ba∧Own (RT.int .i64) 3 M1 w w4.heap.size s.2.2.1 s.2.2.2.1∧w.heap[be]? =some (.cells #[.int .i64 s.2.2.2.2.1] 26 (0,0))∧w.heap[ba]? =some (.cells #[.int .i64 s.2.2.2.2.2] 3 (0,0))∧w.heap[bb]? =some (.cells #[v] 147 (0,0))) (fun s=>s.1) ((get b at_).1.toNat,-1,_,[],(get b at_).2.2,(get b at_).2.1) (.cons rfl (.cons rfl (.cons rfl (.cons rfl (.cons rfl (.cons rfl .nil)))))) ?_ ?_
 ·refine⟨by have:=vL b at_;simp only;omega,fun h=>?_,fun h=>?_,fun h=>?_,by simp,_,S5.lt hM,S5,z5,.inl rfl,.inr (.inl rfl),eo _ _ _ _ _,hE5,hA5,hB5⟩
  ·unfold fo;rw[if_neg (by simpa using h)];exact(yH _ (Db b _ _ _)).symm
  ·unfold fo;rw[if_pos h]
  ·have:=qx h;simp only[ij];omega
 ·rintro⟨many,last,u0,acc,e,a1⟩ wl ⟨hmb,Kv,N9,eB,Xd,M1,rT,S,zl,MX,Oq,ho,hE,hA,hB⟩;dsimp only at hmb Kv N9 eB Xd ho hE hA hB ⊢;refine aj (aj (ah (ae rfl rfl (mG rfl rfl rfl (ae rfl rfl ?_)))));refine aI (g:=18) rfl (fun LA=>?_) (fun LA=>?_)
  ·refine al rfl rfl (aE ra rfl rfl rfl (by assumption) rfl (al rfl rfl (Rg.Ay rfl rfl rfl (aQ rfl rfl rfl (ad ?_)))));refine bF rfl (fun c6=>?_) (fun c6=>?_)
   ·refine aU (aj (bj (aj (ah (ae rfl rfl ?_)))));refine Rg.mV (first:=[]) (xs:=[]) rfl rfl rfl Pv (wx (M:=M1) (by rw[c6]at hE;exact hE) hB hA (by omega) MX Oq (hv.le S.le) (by have:=eB c6;omega)) (fun r w6 h6=>?_);obtain⟨rfl,Q1,Q2,s6⟩:=h6;have z6:=s6.size;have S6:=S.cx s6 (fun k hk=>by omega);have Q3:=s6.bE hB (by omega);have ry:=ho.step s6 (fun k hk h=>by have:=(ho.base k hk).1;omega);have GP:=s6.lt rT;obtain⟨Xg,hn1,hn2,hn3⟩:=lW b a1;obtain⟨og,yx,hk3,hk4⟩:=eB c6;refine ai rfl rfl (ad (aj (aj (ah (aE ra rfl rfl rfl (by assumption) rfl (Rg.Ay rfl rfl rfl (ae rfl rfl ?_)))))));refine aI (g:=28) rfl (fun xU=>?_) (fun xU=>?_)
    ·refine al rfl rfl (ae rfl rfl (al rfl rfl (ae rfl rfl (al rfl rfl (gM rfl rfl rfl (by omega) (al rfl rfl (gM rfl rfl rfl (by omega) (al rfl rfl (mG rfl rfl rfl (aQ rfl rfl rfl (ad ?_)))))))))));refine bF rfl (fun c9=>?_) (fun c9=>?_)
     ·refine ah ?_;refine bP (M:=M1) S0 rfl rfl Q1 rfl rfl MX (fun w7 hE7 s7=>?_);have z7:=s7.size;replace S6:=S6.cx s7 (fun k hk=>by subst hk;omega);replace Q3:=s7.bE Q3 (show bb≠be by omega);replace Q2:=s7.bE Q2 (show ba≠be by omega);replace ry:=ry.step s7 (fun k hk h=>by have:=(ho.base k hk).1;omega);replace GP:=s7.lt GP;replace Q1:=hE7;refine ad (aj (ah (ae rfl rfl (ae rfl rfl (Rg.wV rfl rfl rfl (Rg.wV rfl rfl rfl (ai rfl rfl (ad (ah (ae rfl rfl (ae rfl rfl ?_)))))))))));refine eW (A:=RT.int .i64) (hn:=by decide) (M:=M1) av I3 (by decide) rfl rfl GP (gv (oZ _)) (.inr ⟨rfl,rfl⟩) (fun u w8 hu s8=>?_);refine dh (M:=M1) (base:=w4.heap.size) av I3 rfl rfl rfl rfl (ry.bg s8) hu (aq _ _) (by simp;omega) (by simp;omega) (by have:=s8.size;omega) (fun v9 M9 w9 Q4 s9=>?_);have z8:=s8.size;have z9:=s9.size;have iK:∀k,k<w4.heap.size→¬jb u0 k:=fun k hk h=>by have:=(ho.base k h).1;omega
      have GQ:=s9.bE (s8.aG Q1) (iK be (by omega));have Q5:=s9.bE (s8.aG Q2) (iK ba (by omega));have Q6:=s9.bE (s8.aG Q3) (iK bb (by omega));have S9:=(S6.ax s8).dC s9 (ry.bg s8) (by omega);have Q7:=s9.lt (s8.lt GP);have GR:M9 be:=(s9.mem be (by omega)).2 MX;have GS:M9 ba:=(s9.mem ba (by omega)).2 Oq;refine ai rfl rfl (ad (ah (ae rfl rfl (gM rfl rfl rfl (by omega) (ai rfl rfl (ad ?_))))));refine⟨rfl,(many-1,(IntKind.i64.wrap (last+IntKind.i64.wrap ((get b a1).1+1))),v9,acc++[(IntKind.i64.wrap (last+IntKind.i64.wrap ((get b a1).1+1)))],(if(get b a1).2.2=0∧4611686018427387904-last-1<(get b a1).1 then 2 else(get b a1).2.2),(get b a1).2.1),(.cons rfl (.cons rfl (.cons rfl (.cons rfl (.cons rfl (.cons (show some (Value.int .i64 ((many:Int)-1))=some (Value.int .i64 ((many-1:Nat):Int))from by congr 2;omega) .nil)))))),?_,?_⟩
      ·have hx:(get b a1).2.2=0→¬4611686018427387904-last-1<(get b a1).1→(IntKind.i64.wrap (last+IntKind.i64.wrap ((get b a1).1+1)))=last+1+(get b a1).1:=fun h1 h2=>by rw[ix ((get b a1).1+1) (by omega),ix _ (by omega)];omega
       have N4:many=(many-1)+1:=by omega
       have tY:=Kv c6;rw[N4]at tY;refine⟨by simp only;omega,fun h=>?_,fun h=>?_,fun h=>?_,by have:=eB c6;simp only[bM,cv,ij];omega,M9,Q7,S9,by omega,GR,GS,Q4,?_,Q5,Q6⟩
       ·dsimp only at h ⊢;have h3:(get b a1).2.2=0∧¬4611686018427387904-last-1<(get b a1).1:=by split at h<;>omega
        rw[tY,lV acc h3.1 h3.2,hx h3.1 h3.2]
       ·dsimp only at h ⊢;rw[tY]
        split
        ·rename_i h4;rw[qy h4.1 h4.2];rfl
        ·rename_i h4
         have h5:(get b a1).2.2≠0:=by intro h6;rw[if_neg h4]at h;exact h h6
         rw[oP h5];unfold andThen;rw[if_pos h5]
       ·dsimp only at h ⊢;have h3:(get b a1).2.2=0∧¬4611686018427387904-last-1<(get b a1).1:=by split at h<;>omega
        have:=qx h3.1;rw[hx h3.1 h3.2];simp only[bM,cv,ij];omega
       ·dsimp only
        first
        |(rw[if_pos ⟨xU,c9⟩];exact GQ)
        |(rw[if_neg (fun h=>c9 h.2)];exact GQ)
        |(rw[if_neg (fun h=>xU h.1)];exact GQ)
      ·simp only;omega
     ·refine aU (aj (ah (ae rfl rfl (ae rfl rfl (Rg.wV rfl rfl rfl (Rg.wV rfl rfl rfl (ai rfl rfl (ad (ah (ae rfl rfl (ae rfl rfl ?_)))))))))));refine eW (A:=RT.int .i64) (hn:=by decide) (M:=M1) av I3 (by decide) rfl rfl GP (gv (oZ _)) (.inr ⟨rfl,rfl⟩) (fun u w8 hu s8=>?_);refine dh (M:=M1) (base:=w4.heap.size) av I3 rfl rfl rfl rfl (ry.bg s8) hu (aq _ _) (by simp;omega) (by simp;omega) (by have:=s8.size;omega) (fun v9 M9 w9 Q4 s9=>?_);have z8:=s8.size;have z9:=s9.size;have iK:∀k,k<w4.heap.size→¬jb u0 k:=fun k hk h=>by have:=(ho.base k h).1;omega
      have GQ:=s9.bE (s8.aG Q1) (iK be (by omega));have Q5:=s9.bE (s8.aG Q2) (iK ba (by omega));have Q6:=s9.bE (s8.aG Q3) (iK bb (by omega));have S9:=(S6.ax s8).dC s9 (ry.bg s8) (by omega);have Q7:=s9.lt (s8.lt GP);have GR:M9 be:=(s9.mem be (by omega)).2 MX;have GS:M9 ba:=(s9.mem ba (by omega)).2 Oq;refine ai rfl rfl (ad (ah (ae rfl rfl (gM rfl rfl rfl (by omega) (ai rfl rfl (ad ?_))))));refine⟨rfl,(many-1,(IntKind.i64.wrap (last+IntKind.i64.wrap ((get b a1).1+1))),v9,acc++[(IntKind.i64.wrap (last+IntKind.i64.wrap ((get b a1).1+1)))],(if(get b a1).2.2=0∧4611686018427387904-last-1<(get b a1).1 then 2 else(get b a1).2.2),(get b a1).2.1),(.cons rfl (.cons rfl (.cons rfl (.cons rfl (.cons rfl (.cons (show some (Value.int .i64 ((many:Int)-1))=some (Value.int .i64 ((many-1:Nat):Int))from by congr 2;omega) .nil)))))),?_,?_⟩
      ·have hx:(get b a1).2.2=0→¬4611686018427387904-last-1<(get b a1).1→(IntKind.i64.wrap (last+IntKind.i64.wrap ((get b a1).1+1)))=last+1+(get b a1).1:=fun h1 h2=>by rw[ix ((get b a1).1+1) (by omega),ix _ (by omega)];omega
       have N4:many=(many-1)+1:=by omega
       have tY:=Kv c6;rw[N4]at tY;refine⟨by simp only;omega,fun h=>?_,fun h=>?_,fun h=>?_,by have:=eB c6;simp only[bM,cv,ij];omega,M9,Q7,S9,by omega,GR,GS,Q4,?_,Q5,Q6⟩
       ·dsimp only at h ⊢;have h3:(get b a1).2.2=0∧¬4611686018427387904-last-1<(get b a1).1:=by split at h<;>omega
        rw[tY,lV acc h3.1 h3.2,hx h3.1 h3.2]
       ·dsimp only at h ⊢;rw[tY]
        split
        ·rename_i h4;rw[qy h4.1 h4.2];rfl
        ·rename_i h4
         have h5:(get b a1).2.2≠0:=by intro h6;rw[if_neg h4]at h;exact h h6
         rw[oP h5];unfold andThen;rw[if_pos h5]
       ·dsimp only at h ⊢;have h3:(get b a1).2.2=0∧¬4611686018427387904-last-1<(get b a1).1:=by split at h<;>omega
        have:=qx h3.1;rw[hx h3.1 h3.2];simp only[bM,cv,ij];omega
       ·dsimp only
        first
        |(rw[if_pos ⟨xU,c9⟩];exact GQ)
        |(rw[if_neg (fun h=>c9 h.2)];exact GQ)
        |(rw[if_neg (fun h=>xU h.1)];exact GQ)
      ·simp only;omega
    ·refine ao rfl rfl rfl rfl (ao rfl rfl rfl rfl (ao rfl rfl rfl rfl (ao rfl rfl rfl rfl (ao rfl rfl rfl rfl (ay rfl rfl rfl (ad (gL rfl (aU (aj (ah (ae rfl rfl ?_)))))))))));refine ae rfl rfl (Rg.wV rfl rfl rfl (Rg.wV rfl rfl rfl (ai rfl rfl (ad (ah (ae rfl rfl (ae rfl rfl ?_)))))));refine eW (A:=RT.int .i64) (hn:=by decide) (M:=M1) av I3 (by decide) rfl rfl GP (gv (oZ _)) (.inr ⟨rfl,rfl⟩) (fun u w8 hu s8=>?_);refine dh (M:=M1) (base:=w4.heap.size) av I3 rfl rfl rfl rfl (ry.bg s8) hu (aq _ _) (by simp;omega) (by simp;omega) (by have:=s8.size;omega) (fun v9 M9 w9 Q4 s9=>?_);have z8:=s8.size;have z9:=s9.size;have iK:∀k,k<w4.heap.size→¬jb u0 k:=fun k hk h=>by have:=(ho.base k h).1;omega
     have GQ:=s9.bE (s8.aG Q1) (iK be (by omega));have Q5:=s9.bE (s8.aG Q2) (iK ba (by omega));have Q6:=s9.bE (s8.aG Q3) (iK bb (by omega));have S9:=(S6.ax s8).dC s9 (ry.bg s8) (by omega);have Q7:=s9.lt (s8.lt GP);have GR:M9 be:=(s9.mem be (by omega)).2 MX;have GS:M9 ba:=(s9.mem ba (by omega)).2 Oq;refine ai rfl rfl (ad (ah (ae rfl rfl (gM rfl rfl rfl (by omega) (ai rfl rfl (ad ?_))))));refine⟨rfl,(many-1,(IntKind.i64.wrap (last+IntKind.i64.wrap ((get b a1).1+1))),v9,acc++[(IntKind.i64.wrap (last+IntKind.i64.wrap ((get b a1).1+1)))],(if(get b a1).2.2=0∧4611686018427387904-last-1<(get b a1).1 then 2 else(get b a1).2.2),(get b a1).2.1),(.cons rfl (.cons rfl (.cons rfl (.cons rfl (.cons rfl (.cons (show some (Value.int .i64 ((many:Int)-1))=some (Value.int .i64 ((many-1:Nat):Int))from by congr 2;omega) .nil)))))),?_,?_⟩
     ·have hx:(get b a1).2.2=0→¬4611686018427387904-last-1<(get b a1).1→(IntKind.i64.wrap (last+IntKind.i64.wrap ((get b a1).1+1)))=last+1+(get b a1).1:=fun h1 h2=>by rw[ix ((get b a1).1+1) (by omega),ix _ (by omega)];omega
      have N4:many=(many-1)+1:=by omega
      have tY:=Kv c6;rw[N4]at tY;refine⟨by simp only;omega,fun h=>?_,fun h=>?_,fun h=>?_,by have:=eB c6;simp only[bM,cv,ij];omega,M9,Q7,S9,by omega,GR,GS,Q4,?_,Q5,Q6⟩
      ·dsimp only at h ⊢;have h3:(get b a1).2.2=0∧¬4611686018427387904-last-1<(get b a1).1:=by split at h<;>omega
       rw[tY,lV acc h3.1 h3.2,hx h3.1 h3.2]
      ·dsimp only at h ⊢;rw[tY]
       split
       ·rename_i h4;rw[qy h4.1 h4.2];rfl
       ·rename_i h4
        have h5:(get b a1).2.2≠0:=by intro h6;rw[if_neg h4]at h;exact h h6
        rw[oP h5];unfold andThen;rw[if_pos h5]
      ·dsimp only at h ⊢;have h3:(get b a1).2.2=0∧¬4611686018427387904-last-1<(get b a1).1:=by split at h<;>omega
       have:=qx h3.1;rw[hx h3.1 h3.2];simp only[bM,cv,ij];omega
      ·dsimp only
       first
       |(rw[if_pos ⟨xU,c9⟩];exact GQ)
       |(rw[if_neg (fun h=>c9 h.2)];exact GQ)
       |(rw[if_neg (fun h=>xU h.1)];exact GQ)
     ·simp only;omega
   ·refine cM (aj (aj (ah (aE ra rfl rfl rfl (by assumption) rfl (eN rfl rfl rfl (ad ?_))))));refine bF rfl (fun IB=>?_) (fun IB=>?_)
    ·refine aj ?_;apply T.ki mixed rfl rfl;intro MR GF;have oc:=GF M1;refine aE ra rfl rfl rfl (by first|assumption|exact bS oc (by assumption)) rfl ?_;refine ad ⟨rfl,rfl,rfl,?_⟩;refine ai rfl rfl ?_;refine ad ⟨rfl,rfl,rfl,?_⟩;refine ai rfl rfl ?_;refine ad ⟨rfl,rfl,rfl,?_⟩;refine ai rfl rfl ?_;refine ad ⟨rfl,rfl,rfl,?_⟩;refine fE (aH ?_);have hr:=N9 IB;exact od rfl rfl rfl rfl ⟨_,by rw[hr]<;>rfl,by rw[hr];exact jK,(S.ax oc).back⟩
    ·refine aU (aj ?_);apply T.ki mixed rfl rfl;intro MY GU;have mO:=GU M1;refine ae rfl rfl ?_;refine ad ⟨rfl,rfl,rfl,?_⟩;refine aE ar rfl rfl rfl (by first|assumption|exact bS mO (by assumption)) rfl ?_;refine ad ⟨rfl,rfl,rfl,?_⟩;refine ai rfl rfl ?_;refine ad ⟨rfl,rfl,rfl,?_⟩;refine ai rfl rfl ?_;refine ad ⟨rfl,rfl,rfl,?_⟩;refine ai rfl rfl ?_;refine ad ⟨rfl,rfl,rfl,?_⟩;refine fE (aH ?_);have hz:many=0:=by omega
     have hr:=Kv (by omega);rw[hz,sU]at hr;simp only[andThen,ne_eq,not_true_eq_false,if_false,sk]at hr;have Q8:=S.ax mO;refine od rfl rfl rfl rfl ⟨_,by rw[hr]<;>rfl,?_,Q8.back⟩;rw[hr];exact Own.close hM Q8 ((ho.bg mO).qo (by omega)) (by simp only;omega)
  ·refine ao rfl rfl rfl rfl (ao rfl rfl rfl rfl (ay rfl rfl rfl (ad (gL rfl (cM (aj (aj (ah (aE ra rfl rfl rfl (by assumption) rfl (eN rfl rfl rfl (ad ?_)))))))))));refine bF rfl (fun IB=>?_) (fun IB=>?_)
   ·refine aj ?_;apply T.ki mixed rfl rfl;intro MR GF;have oc:=GF M1;refine aE ra rfl rfl rfl (by first|assumption|exact bS oc (by assumption)) rfl ?_;refine ad ⟨rfl,rfl,rfl,?_⟩;refine ai rfl rfl ?_;refine ad ⟨rfl,rfl,rfl,?_⟩;refine ai rfl rfl ?_;refine ad ⟨rfl,rfl,rfl,?_⟩;refine ai rfl rfl ?_;refine ad ⟨rfl,rfl,rfl,?_⟩;refine fE (aH ?_);have hr:=N9 IB;exact od rfl rfl rfl rfl ⟨_,by rw[hr]<;>rfl,by rw[hr];exact jK,(S.ax oc).back⟩
   ·refine aU (aj ?_);apply T.ki mixed rfl rfl;intro MY GU;have mO:=GU M1;refine ae rfl rfl ?_;refine ad ⟨rfl,rfl,rfl,?_⟩;refine aE ar rfl rfl rfl (by first|assumption|exact bS mO (by assumption)) rfl ?_;refine ad ⟨rfl,rfl,rfl,?_⟩;refine ai rfl rfl ?_;refine ad ⟨rfl,rfl,rfl,?_⟩;refine ai rfl rfl ?_;refine ad ⟨rfl,rfl,rfl,?_⟩;refine ai rfl rfl ?_;refine ad ⟨rfl,rfl,rfl,?_⟩;refine fE (aH ?_);have hz:many=0:=by omega
    have hr:=Kv (by omega);rw[hz,sU]at hr;simp only[andThen,ne_eq,not_true_eq_false,if_false,sk]at hr;have Q8:=S.ax mO;refine od rfl rfl rfl rfl ⟨_,by rw[hr]<;>rfl,?_,Q8.back⟩;rw[hr];exact Own.close hM Q8 ((ho.bg mO).qo (by omega)) (by simp only;omega)
end Go.K
namespace Go.K
open Go.Proofs
set_option maxRecDepth 10000
theorem wy {M:az} {w0:World} {v u:Value} {a b:List Int} (hM:Lt M w0) (hv:((RT.int .i64).sl).V M w0 a v) (hu:((RT.int .i64).sl).V M w0 b u):
  Spec Tryz.prog 51 #[v,u] w0 (fun v' w'=>v'= .bool (decide (a=b))∧Step M w0 M w' aA):=by
 have ZS:=ed hv;have hlb:=ed hu;refine aW (args:=[_,_]) (fn:=Tryz.f51) Tryz.func51 rfl (n:=26) Tryz.ntmps51 (aj (ah (ai rfl rfl (ad (aj (aj (ah (ae rfl rfl (bU av rfl hv rfl (ae rfl rfl (bU av rfl hu rfl ?_)))))))))));refine eN rfl rfl rfl (ad ?_);refine bF rfl (fun c1=>?_) (fun c1=>?_)
 ·refine aj (ah (ai rfl rfl (ad (aH ?_))));refine aP rfl rfl ⟨?_,an _ _⟩;rw[decide_eq_false];rintro rfl;exact c1 rfl
 ·obtain hlen:a.length=b.length:=by omega
  refine aU (aj (aj (ah (ai rfl rfl (ad (bj ?_))))));refine dI (σ:=Nat) (fun s=>[(0,v),(1,u),(5,.int .i64 s)]) (fun s w=>s≤a.length∧a.take s=b.take s∧Step M w0 M w aA) (fun s=>a.length-s) 0 (.cons rfl (.cons rfl (.cons rfl .nil))) ?_ ?_
  ·exact⟨bH _,by simp,an _ _⟩
  ·rintro k w1 ⟨hk,heq,s1⟩;refine aj (aj (ah (ae rfl rfl (ae rfl rfl (bU av rfl hv rfl (cf rfl rfl rfl (ad ?_)))))));refine bF rfl (fun c4=>?_) (fun c4=>?_)
   ·refine aU (aj (bj (aj ?_)));obtain⟨x,hx⟩:∃x,a[k]? =some x:=⟨_,aL (by omega)⟩;obtain⟨y,hy⟩:∃y,b[k]? =some y:=⟨_,aL (by omega)⟩;apply T.draw (M:=M) mixed [b9.eq _,b9.eq _,b9.ptr (RT.int .i64) x,b9.eq _,b9.eq _,b9.eq _,b9.ptr (RT.int .i64) y,b9.eq _,b9.eq _]
    ·rfl
    ·refine aK ?_ ?_
     ·intro wD E sD;refine ae rfl rfl ?_;exact ad ⟨rfl,rfl,_,rfl,rfl,an _ _⟩
     refine aK ?_ ?_
     ·intro wD E sD;refine ae rfl rfl ?_;exact ad ⟨rfl,rfl,_,rfl,rfl,an _ _⟩
     refine aK ?_ ?_
     ·intro wD E sD;refine aw (aw ?_);refine dq (M:=M) av I3 rfl rfl rfl hv (by repeat (first|exact aq _ _|refine aT (a7 (by assumption)) ?_)) (by omega) (fun LP Xh Q9 GV=>?_);obtain rfl:Xh=x:=bQ (Q9.symm.trans (by simpa using hx));exact ad ⟨rfl,rfl,_,rfl,GV,an _ _⟩
     refine aK ?_ ?_
     ·intro wD E sD;intro v2 xo;refine cd (M:=M) ar rfl rfl (by assumption) (by repeat (first|exact aq _ _|refine aT (a7 (by assumption)) ?_)) (fun Ra=>?_);exact ad ⟨rfl,rfl,_,rfl,rfl,an _ _⟩
     refine aK ?_ ?_
     ·intro wD E sD;refine ae rfl rfl ?_;exact ad ⟨rfl,rfl,_,rfl,rfl,an _ _⟩
     refine aK ?_ ?_
     ·intro wD E sD;refine ae rfl rfl ?_;exact ad ⟨rfl,rfl,_,rfl,rfl,an _ _⟩
     refine aK ?_ ?_
     ·intro wD E sD;refine aw (aw ?_);refine dq (M:=M) av I3 rfl rfl rfl hu (by repeat (first|exact aq _ _|refine aT (a7 (by assumption)) ?_)) (by omega) (fun aer Xi Rb Rc=>?_);obtain rfl:Xi=y:=bQ (Rb.symm.trans (by simpa using hy));exact ad ⟨rfl,rfl,_,rfl,Rc,an _ _⟩
     refine aK ?_ ?_
     ·intro wD E sD;intro v6 ov;refine cd (M:=M) ar rfl rfl (by assumption) (by repeat (first|exact aq _ _|refine aT (a7 (by assumption)) ?_)) (fun aaM=>?_);exact ad ⟨rfl,rfl,_,rfl,rfl,an _ _⟩
     refine aK ?_ ?_
     ·intro wD E sD;refine aw (aw (eN rfl rfl rfl ?_));exact ad ⟨rfl,rfl,_,rfl,rfl,an _ _⟩
     exact bX.nil
    ·intro wD6 sD6;refine aw (aw ?_);intro aes aaO;refine aw (aw (aw ?_));intro aet aaP;refine aw (aw ?_);refine bF rfl (fun c6=>?_) (fun c6=>?_)
     ·refine aj (ah (ai rfl rfl (ad (aH ?_))));refine aP rfl rfl ⟨?_,s1.ax sD6⟩;rw[decide_eq_false];rintro rfl;rw[hx]at hy;cases hy;exact c6 rfl
     ·refine aU (ah (ae rfl rfl (bz rfl rfl rfl (by omega) (ai rfl rfl (ad ?_)))));refine⟨rfl,k+1,(.cons rfl (.cons rfl (.cons rfl .nil))),?_,?_⟩
      ·exact⟨by omega,by rw[fi (by omega),fi (by omega),heq];obtain⟨_,h1⟩:=au.1 hx;obtain⟨_,h2⟩:=au.1 hy;rw[h1,h2,ec.1 c6],s1.ax sD6⟩
      ·show a.length-(k+1)<a.length-k;omega
   ·refine cM (aj (ah (ai rfl rfl (ad (aH ?_)))));refine aP rfl rfl ⟨?_,s1⟩;rw[decide_eq_true]
    rwa [bI (by omega),bI (by omega)]at heq
end Go.K
namespace Go.K
open Go.Proofs
set_option maxRecDepth 10000
theorem CL {M:az} {w0:World} {v:Value} {x:Li} (hv:ch RT.li M w0 v x) {k:Int}:
  Spec Tryz.prog 214 #[v,.int .i64 k] w0 (fun v' w'=>v'= .bool (ET x.2.1.length k)∧w0=w'):=by
 refine aW (args:=[_,_]) (fn:=Tryz.f214) Tryz.func214 rfl (n:=16) Tryz.ntmps214 (aj (ah (ai rfl rfl (ad (aj (ah (ae rfl rfl (dA rfl rfl rfl (ae rfl rfl ?_)))))))));refine aI (g:=7) rfl (fun fM=>?_) (fun fM=>?_)
 ·refine al rfl rfl (ae rfl rfl (al rfl rfl (ae rfl rfl (al rfl rfl (aR rfl (ch.jr (by assumption)) rfl (al rfl rfl ?_))))));refine aJ (M:=M) (A:=RT.li) (B:=(RT.bl).sl) dv rfl rfl AR (by decide) (SY) rfl rfl (by decide) (by assumption) (by repeat (first|exact aq _ _|refine aT (a7 (by assumption)) ?_)) (fun aeu aaQ=>?_);refine al rfl rfl ?_;refine cg (M:=M) dT rfl rfl rfl rfl rfl (by assumption) (by repeat (first|exact aq _ _|refine aT (a7 (by assumption)) ?_)) (fun Xj Re=>?_);refine al rfl rfl ?_
  first|refine bU dT rfl (by assumption) rfl ?_|refine gN dT rfl (by assumption) rfl ?_
  refine al rfl rfl (cf rfl rfl rfl (aQ rfl rfl rfl (ai rfl rfl (ad (aH ?_)))))
  first
  |exact aP rfl rfl ⟨congrArg Value.bool (decide_eq_decide.2 (by omega)),rfl⟩
  |exact aP rfl rfl ⟨congrArg Value.bool (eP (decide_eq_false (by omega))),rfl⟩
 ·refine ao rfl rfl rfl rfl (ao rfl rfl rfl rfl (ao rfl rfl rfl rfl (ao rfl rfl rfl rfl (ao rfl rfl rfl rfl (ao rfl rfl rfl rfl (ao rfl rfl rfl rfl (ay rfl rfl rfl (ai rfl rfl (ad (aH ?_))))))))))
  first
  |exact aP rfl rfl ⟨congrArg Value.bool (decide_eq_decide.2 (by omega)),rfl⟩
  |exact aP rfl rfl ⟨congrArg Value.bool (eP (decide_eq_false (by omega))),rfl⟩
theorem kV {M:az} {w0:World} {v:Value} {x:Li} (hv:ch RT.li M w0 v x):
  Spec Tryz.prog 183 #[v] w0 (fun v' w'=>v'= .int .i64 x.2.1.length∧w0=w'):=by
 refine aW (args:=[_]) (fn:=Tryz.f183) Tryz.func183 rfl (n:=8) Tryz.ntmps183 (aj (ah (ai rfl rfl (ad (aj (ah (ae rfl rfl (aR rfl (ch.jr (by assumption)) rfl ?_))))))));refine aJ (M:=M) (A:=RT.li) (B:=(RT.bl).sl) dv rfl rfl AR (by decide) (SY) rfl rfl (by decide) (by assumption) (by repeat (first|exact aq _ _|refine aT (a7 (by assumption)) ?_)) (fun I1 tS=>?_);refine cg (M:=M) dT rfl rfl rfl rfl rfl (by assumption) (by repeat (first|exact aq _ _|refine aT (a7 (by assumption)) ?_)) (fun QH Gf=>?_)
 first|refine bU dT rfl (by assumption) rfl ?_|refine gN dT rfl (by assumption) rfl ?_
 refine ai rfl rfl (ad (aH ?_));exact aP rfl rfl ⟨rfl,rfl⟩
theorem DN {M:az} {w0:World} {v:Value} {x:Li} (hv:ch RT.li M w0 v x) {k:Int}:
  Spec Tryz.prog 184 #[v,.int .i64 k] w0 (fun v' w'=>v'= .int .i64 (yI x.2.1 k)∧w0=w'):=by
 refine aW (args:=[_,_]) (fn:=Tryz.f184) Tryz.func184 rfl (n:=17) Tryz.ntmps184 (aj (ah (ai rfl rfl (ad (aj (aj (ah (ae rfl rfl (ae rfl rfl ?_)))))))));refine aM rfl rfl Pp (CL hv (k:=k)) (fun r w1 h1=>?_);obtain⟨rfl,rfl⟩:=h1;refine Rg.not rfl rfl (bp (v':= .bool (decide (¬(0≤k∧k<x.2.1.length)))) (by unfold ET;rw[decide_not]) (ad ?_));refine bF rfl (fun c1=>?_) (fun c1=>?_)
 ·refine aj (ah (ai rfl rfl (ad (aH ?_))));exact aP rfl rfl ⟨by unfold yI ET;rw[if_neg (by simpa using c1)],rfl⟩
 ·refine aU (aj (ah (ae rfl rfl (aR rfl (ch.jr (by assumption)) rfl ?_))));refine aJ (M:=M) (A:=RT.li) (B:=(RT.bl).sl) dv rfl rfl AR (by decide) (SY) rfl rfl (by decide) (by assumption) (by repeat (first|exact aq _ _|refine aT (a7 (by assumption)) ?_)) (fun IF tJ=>?_);refine cg (M:=M) dT rfl rfl rfl rfl rfl (by assumption) (by repeat (first|exact aq _ _|refine aT (a7 (by assumption)) ?_)) (fun Rf Kw=>?_);refine ae rfl rfl ?_;obtain⟨b,hb⟩:∃b,x.2.1[k.toNat]? =some b:=⟨_,aL (by omega)⟩;refine dq (M:=M) dT uO rfl rfl rfl (by assumption) (aq _ _) (by omega) (fun Xk MZ GW Rh=>?_);obtain rfl:MZ=b:=bQ (GW.symm.trans hb);refine aJ (M:=M) (A:=RT.bl) (B:=RT.int .i64) j8 rfl rfl I3 (by decide) (bl2) rfl rfl (by decide) (by assumption) (by repeat (first|exact aq _ _|refine aT (a7 (by assumption)) ?_)) (fun aev aaR=>?_);refine cd (M:=M) ar rfl rfl (by assumption) (by repeat (first|exact aq _ _|refine aT (a7 (by assumption)) ?_)) (fun aaS=>?_);refine ai rfl rfl (ad (aH ?_));exact aP rfl rfl ⟨by unfold yI ET;rw[if_pos (by simpa using c1),bT,hb];rfl,rfl⟩
theorem BC {M:az} {w0:World} {v:Value} {b:List UInt8} {at_ ahead:Int} (hM:Lt M w0) (hv:(RT.u8.sl).V M w0 b v) (Oo: -9223372036854775808≤at_∧at_≤9223372036854775807) (hah: -9223372036854775808≤ahead∧ahead≤9223372036854775807) (zG:b.length≤1099511627776):
  Spec Tryz.prog 215 #[v,.int .i64 at_,.int .i64 ahead] w0 (fun v' w'=>∃p,v'= .tuple #[p,.int .i64 (om b at_ ahead).2.1,.int .i64 (om b at_ ahead).2.2]∧RT.po.V M w' (om b at_ ahead).1 p∧Step M w0 M w' aA):=by
 refine aW (args:=[_,_,_]) (fn:=Tryz.f215) Tryz.func215 rfl (n:=38) Tryz.ntmps215 (aj (ah ?_));refine ff M gC rfl (fun b0 w1 hb0 aew hB s1=>?_);have rT:=s1.lt hM;have gF:=hv.le s1.le;refine ai rfl rfl (ai rfl rfl (ad (aj (ah (ae rfl rfl (ae rfl rfl ?_))))));refine aM rfl rfl Pu (zU gF Oo) (fun r w2 h2=>?_);obtain⟨rfl,rfl⟩:=h2;have sF:=vL b at_;obtain⟨Xg,hn1,hn2,hn3⟩:=lW b at_;refine ae rfl rfl (bO rfl rfl rfl (bO rfl rfl rfl (bO rfl rfl rfl (ai rfl rfl (ai rfl rfl (ai rfl rfl (ad (aj (aj (ah (ae rfl rfl ?_)))))))))));refine eN rfl rfl rfl (ad ?_);refine bF rfl (fun c2=>?_) (fun c2=>?_)
 ·refine aj (ah (dX (places:=[(0,1),(1,1)]) bK gC Il rfl rfl (out:=[.int .i64 0,.slice none 0 0]) rfl (ae rfl rfl ?_)));refine fj (M:=ins M b0) gC rfl rfl (by intro u hu;simp at hu;rcases hu with rfl|rfl<;>rfl) rfl rfl hB (.inl rfl) (fun w3 hB3 s3=>?_);refine ai rfl rfl (ai rfl rfl (ad (aH ?_)));have jx:=s1.size;have S:Step M w0 M w3 aA:=(s1.cx s3 (fun k hk=>by subst hk;omega)).back;refine EP rfl rfl bK rfl gC rfl hB3 rfl rfl ⟨_,by unfold om;rw[if_pos c2]<;>rfl,?_,S⟩;unfold om;rw[if_pos c2];exact ei (gv (x:=0) (by omega)) jK rfl rfl rfl rfl
 ·refine aU (aj (ah (ae rfl rfl (ae rfl rfl ?_))));have eB:=qx (b:=b) (at_:=at_) (by omega);refine aM rfl rfl UW (tX (M:=ins M b0) rT gF (by omega) zG) (fun r w3 h3=>?_);obtain⟨x3,rfl,Ri,s3⟩:=h3;refine ae rfl rfl (bO rfl rfl rfl (bO rfl rfl rfl (bO rfl rfl rfl (ai rfl rfl (ai rfl rfl (ai rfl rfl (ad (aj (ah (ae rfl rfl (Rg.wV rfl rfl rfl ?_)))))))))));refine ae rfl rfl (Rg.wV rfl rfl rfl (ae rfl rfl (dX (places:=[(0,1),(1,1)]) bK gC Il rfl ⟨_,_,rfl,rfl,_,_,rfl,rfl,rfl⟩ (out:=[_,_]) ⟨0,[_],rfl,rfl,by simp[Value.cells],1,[_],rfl,iI Ri,by simp[Value.cells],rfl⟩ (ae rfl rfl (ae rfl rfl ?_)))));obtain⟨vx,qG⟩:∃vx,vx=x3:=⟨_,rfl⟩;have qn:=km Ri rfl rfl;refine fj (M:=ins M b0) gC rfl rfl (by intro u hu;simp at hu;rcases hu with rfl|rfl;rfl;exact qn) rfl rfl (s3.aG hB) (.inl rfl) (fun w4 Tv s4=>?_);refine ai rfl rfl (ai rfl rfl (ad (aH ?_)));have jx:=s1.size;have aey:=s3.size;have S3:=s1.ax s3;have S:Step M w0 M w4 aA:=(S3.cx s4 (fun k hk=>by subst hk;omega)).back;refine EP rfl rfl bK rfl gC rfl Tv rfl rfl ⟨_,by unfold om;rw[if_neg c2]<;>rfl,?_,S⟩;unfold om;rw[if_neg c2];have hx4:=(Ri.le s4.le).le (Le.close hM (S3.cx s4 (fun k hk=>by subst hk;omega)));exact ei (gv ER) hx4 rfl rfl rfl rfl
theorem BD {M:az} {w0:World} {v:Value} {l:List Po} {k:Int} (hM:Lt M w0) (hv:ch RT.li M w0 v (hU l)) (pR:dU (-1) l=true) (rN:∀p∈l,p.2.length≤1099511627776) (zG:(dz (-1) l).length≤1099511627776):
  Spec Tryz.prog 180 #[v,.int .i64 k] w0 (fun v' w'=>Step M w0 M w' aA∧((RT.po).sl).V M w' (if ET ((l.length+7)/8) k then(l.drop (8*k.toNat)).take 8 else[]) v'):=by
 have Rj:(hU l).2.1.length=(l.length+7)/8:=by simp[hU,mJ]
 refine aW (args:=[_,_]) (fn:=Tryz.f180) Tryz.func180 rfl (n:=51) Tryz.ntmps180 (aj (ah (ai rfl rfl (ad (aj (aj (ah (ae rfl rfl (ae rfl rfl ?_)))))))));refine aM rfl rfl Pp (CL hv (k:=k)) (fun r w1 h1=>?_);obtain⟨rfl,rfl⟩:=h1;refine Rg.not rfl rfl (bp (v':= .bool (decide (¬(0≤k∧k<(hU l).2.1.length)))) (by unfold ET;rw[decide_not]) (ad ?_));refine bF rfl (fun c1=>?_) (fun c1=>?_)
 ·refine aj (ah (ai rfl rfl (ad (aH ?_))));refine aP rfl rfl ⟨an _ _,?_⟩;rw[if_neg (by unfold ET;rw[Rj]at c1;simpa using c1)];exact jK
 ·refine aU (aj (ah (ae rfl rfl (aR rfl (ch.jr (by assumption)) rfl ?_))));refine aJ (M:=M) (A:=RT.li) (B:=(RT.bl).sl) dv rfl rfl AR (by decide) (SY) rfl rfl (by decide) (by assumption) (by repeat (first|exact aq _ _|refine aT (a7 (by assumption)) ?_)) (fun IF tJ=>?_);refine cg (M:=M) dT rfl rfl rfl rfl rfl (by assumption) (by repeat (first|exact aq _ _|refine aT (a7 (by assumption)) ?_)) (fun Rf Kw=>?_);refine ae rfl rfl ?_;obtain⟨j,rfl⟩:∃j:Nat,k=j:=⟨k.toNat,by omega⟩;have hb:(hU l).2.1[j]? =some (py l j):=by simp only[hU,mJ,eE];rw[List.getElem?_range (by omega)];rfl
  refine dq (M:=M) dT uO rfl rfl rfl (by assumption) (aq _ _) (by omega) (fun Xk MZ GW Rh=>?_);obtain rfl:MZ=py l j:=bQ (GW.symm.trans (by simpa using hb));have Kl:(py l j).2.2.2=(((l.drop (8*j)).take 8).length:Int):=rfl;have aaT:((l.drop (8*j)).take 8).length≤8:=by rw[bG];omega
  refine cw (M:=M) (A:=RT.bl) j8 rfl uO (by decide) rfl rfl rfl (by assumption) (by repeat (first|exact aq _ _|refine aT (a7 (by assumption)) ?_)) (fun aeA aaU=>?_);refine oH (A:=RT.bl) (M:=M) uO rfl rfl rfl rfl rfl (by assumption) (by repeat (first|exact aq _ _|refine aT (a7 (by assumption)) ?_)) (by first|assumption|exact Step.lt (by assumption) (by assumption)|exact Step.lt (by assumption) (Step.lt (by assumption) (by assumption))) (fun Xl M8 aaV Na aeB=>?_);refine ad (aj (ah (ai rfl rfl (ad (aj (aj ?_))))));apply T.draw (M:=M) mixed [b9.ptr (RT.int .i64) (py l j).1,b9.eq _,b9.ptr (RT.int .i64) (py l j).2.1,b9.eq _,b9.eq _,b9.eq _]
  ·rfl
  ·refine aK ?_ ?_
   ·intro wD E sD;refine aJ (M:=M) (A:=RT.bl) (B:=RT.int .i64) j8 rfl rfl I3 (by decide) (bl0) rfl rfl (by decide) (by assumption) (by repeat (first|exact aq _ _|refine aT (a7 (by assumption)) ?_)) (fun QZ CK=>?_);exact ad ⟨rfl,rfl,_,rfl,by assumption,an _ _⟩
   refine aK ?_ ?_
   ·intro wD E sD;intro v0 HE;refine cd (M:=M) ar rfl rfl (by assumption) (by repeat (first|exact aq _ _|refine aT (a7 (by assumption)) ?_)) (fun Kx=>?_);exact ad ⟨rfl,rfl,_,rfl,rfl,an _ _⟩
   refine aK ?_ ?_
   ·intro wD E sD;refine aJ (M:=M) (A:=RT.bl) (B:=RT.int .i64) j8 rfl rfl I3 (by decide) (bl1) rfl rfl (by decide) (by assumption) (by repeat (first|exact aq _ _|refine aT (a7 (by assumption)) ?_)) (fun Xm rF=>?_);exact ad ⟨rfl,rfl,_,rfl,by assumption,an _ _⟩
   refine aK ?_ ?_
   ·intro wD E sD;intro v2 xo;refine cd (M:=M) ar rfl rfl (by assumption) (by repeat (first|exact aq _ _|refine aT (a7 (by assumption)) ?_)) (fun aaW=>?_);exact ad ⟨rfl,rfl,_,rfl,rfl,an _ _⟩
   refine aK ?_ ?_
   ·intro wD E sD;refine aw ?_;intro v0 HE;refine aw (ai rfl rfl ?_);exact ad ⟨rfl,rfl,_,rfl,rfl,an _ _⟩
   refine aK ?_ ?_
   ·intro wD E sD;refine aw (aw ?_);intro v0 HE;refine aw ?_;intro v2 xo;refine aw (aw (ai rfl rfl ?_));exact ad ⟨rfl,rfl,_,rfl,rfl,an _ _⟩
   exact bX.nil
  ·intro wD5 Jc;intro aeC aaX;refine aw ?_;intro VM J6;refine aw (aw (aw (bj ?_)));have hz5:=Na.size;refine dI (σ:=Nat×Value) (fun s=>[(0,v),(5,Xl),(6,s.2),(7,.int .i64 (dz (-1) (l.take (8*j+s.1))).length),(8,.int .i64 (bW (-1) (l.take (8*j+s.1))))]) (fun s w=>s.1≤((l.drop (8*j)).take 8).length∧∃M1,Lt M1 w∧Step M w0 M1 w aA∧Step M M8 M1 w aA∧Own RT.po 153 M1 w M8.heap.size s.2 (((l.drop (8*j)).take 8).take s.1)) (fun s=>((l.drop (8*j)).take 8).length-s.1) (0,_) (.cons rfl (.cons rfl (.cons rfl (.cons rfl (.cons rfl .nil))))) ?_ ?_
   ·exact⟨bH _,M,Jc.lt (Na.lt hM),Na.ax Jc,Jc,eo _ _ _ _ _⟩
   ·rintro⟨i,u0⟩ w1 ⟨hi,M1,rT,S,S5,ho⟩;dsimp only at hi ho ⊢;refine aj (aj (ah (ae rfl rfl (gN aX rfl ho rfl (bp (v':= .int .i64 i) (by rw[bG,Nat.min_eq_left hi]) ?_)))));refine aJ (M:=M1) (A:=RT.bl) (B:=RT.int .i64) j8 rfl rfl I3 (by decide) (bl3) rfl rfl (by decide) (by assumption) (by repeat (first|exact aq _ _|refine aT (a7 (by assumption)) ?_)) (fun LP GV=>?_);refine cd (M:=M1) ar rfl rfl GV (aq _ _) (fun Ra=>?_);refine bp (v':= .int .i64 ((l.drop (8*j)).take 8).length) rfl (cf rfl rfl rfl (ad ?_));refine bF rfl (fun c6=>?_) (fun c6=>?_)
    ·refine aU (bj (aj (ah (ae rfl rfl (aR rfl (ch.jr (by assumption)) rfl ?_)))));refine aJ (M:=M1) (A:=RT.li) (B:=RT.u8.sl) dv rfl rfl yS (by decide) (li0) rfl rfl (by decide) (by assumption) (by repeat (first|exact aq _ _|refine aT (a7 (by assumption)) ?_)) (fun Wn wk=>?_);refine cg (M:=M1) bm rfl rfl rfl rfl rfl (by assumption) (by repeat (first|exact aq _ _|refine aT (a7 (by assumption)) ?_)) (fun aeD Rk=>?_);refine ae rfl rfl (ae rfl rfl ?_);obtain⟨⟨d,ps⟩,hx⟩:∃x,l[8*j+i]? =some x:=⟨_,aL (by rw[bG,cL]at c6;omega)⟩;obtain⟨f1,f2,f3,f4,f5,f6⟩:=nf pR hx;have P8:om (hU l).1 _ _=_:=EU pR hx (rN _ (aN hx));have C1:(dz (-1) (l.take (8*j+i))).length≤(dz (-1) l).length:=by rw[ng (l:=l) (i:=8*j+i) (-1)];simp
     refine aM rfl rfl UN (BC (M:=M1) rT Rk (by omega) (by omega) zG) (fun r7 w7 h7=>?_);obtain⟨p7,h7e,Ot,s7⟩:=h7;rw[P8]at h7e Ot;subst h7e;change RT.po.V M1 w7 (d,ps) p7 at Ot;replace S:=S.ax s7;replace S5:=S5.ax s7;replace ho:=ho.bg s7;replace rT:=s7.lt rT;have hci:((l.drop (8*j)).take 8)[i]? =some (d,ps):=by rw[dr,if_pos (by omega),List.getElem?_drop];exact hx
     refine ae rfl rfl (bO rfl rfl rfl (bO rfl rfl rfl (bO rfl rfl rfl ?_)));refine oH (A:=RT.po) (M:=M1) gC rfl rfl rfl rfl rfl (by assumption) (by repeat (first|exact aq _ _|refine aT (a7 (by assumption)) ?_)) (by first|assumption|exact Step.lt (by assumption) (by assumption)|exact Step.lt (by assumption) (Step.lt (by assumption) (by assumption))) (fun aa0 aa1 GX CM aa2=>?_);refine ai rfl rfl (ai rfl rfl (ad (aj (ah (ae rfl rfl ?_)))));replace S:=S.ax CM;replace S5:=S5.ax CM;replace ho:=ho.bg CM;replace rT:=CM.lt rT;clear Ot;refine cw (M:=M1) (A:=RT.po) bK rfl gC (by decide) rfl rfl rfl GX (aq _ _) (fun v8 CJ=>?_);refine eW (A:=RT.po) (hn:=by decide) (M:=M1) aX gC (by decide) rfl rfl rT CJ (.inl rfl) (fun u2 w2 qt s2=>?_);refine dh (M:=M1) (base:=M8.heap.size) aX gC rfl rfl rfl rfl (ho.bg s2) qt (aq _ _) (by simp;omega) (by simp;omega) (eO S5.size s2.size) (fun v3 M3 w3 HP s3=>?_);replace S:=(S.ax s2).dC s3 (ho.bg s2) hz5;have Mj:=(GX.le (by decide) s2.le).le (by decide) s3.le;have hM3:=s3.lt (s2.lt rT);replace S5:=(S5.ax s2).dC s3 (ho.bg s2) (a8 _);refine ai rfl rfl (ad ?_);apply T.draw (M:=M3) mixed [b9.eq _,b9.ptr (RT.int .i64) d,b9.eq _,b9.eq _,b9.eq _]
     ·rfl
     ·refine aK ?_ ?_
      ·intro wD E sD;refine ae rfl rfl ?_;exact ad ⟨rfl,rfl,_,rfl,rfl,an _ _⟩
      refine aK ?_ ?_
      ·intro wD E sD;refine aJ (M:=M3) (A:=RT.po) (B:=RT.int .i64) bK rfl rfl I3 (by decide) (HG) rfl rfl (by decide) Mj sD.le (fun Wy Gy=>?_);exact ad ⟨rfl,rfl,_,rfl,Gy,an _ _⟩
      refine aK ?_ ?_
      ·intro wD E sD;intro v1 gF;refine cd (M:=M3) ar rfl rfl (by assumption) (by repeat (first|exact aq _ _|refine aT (a7 (by assumption)) ?_)) (fun aa3=>?_);exact ad ⟨rfl,rfl,_,rfl,rfl,an _ _⟩
      refine aK ?_ ?_
      ·intro wD E sD;refine aw (aw (ai rfl rfl ?_));exact ad ⟨rfl,rfl,_,rfl,rfl,an _ _⟩
      refine aK ?_ ?_
      ·intro wD E sD;refine aw (aw (aw ?_));intro v1 gF;refine aw (aw (ai rfl rfl ?_));exact ad ⟨rfl,rfl,_,rfl,rfl,an _ _⟩
      exact bX.nil
     ·intro Ou CN;refine aw ?_;intro aeG aa4;refine aw (aw (aw ?_));refine⟨rfl,(i+1,v3),(.cons rfl (.cons rfl (.cons rfl (.cons rfl (.cons (by rw[←f5];rfl) .nil))))),?_,?_⟩
      ·refine⟨by simp only;omega,M3,CN.lt hM3,S.ax CN,S5.ax CN,?_⟩;simp only;obtain⟨Tb,HI⟩:=au.1 hci;rw[fi Tb,HI];exact HP.bg CN
      ·simp only;omega
    ·refine cM (aj (ah (ae rfl rfl (ai rfl rfl (ad (aH ?_))))));refine aP rfl rfl ⟨S.back,?_⟩;rw[if_pos (by unfold ET;rw[Rj]at c1;simpa using c1),aC];rw[bI (by omega)]at ho;exact Own.close hM S (ho.qo hz5) (by omega)
end Go.K
namespace Go.K
open Go.Proofs
set_option maxRecDepth 10000
theorem zW {M:az} {w0:World} {v:Value} {l:List Int} (hv:((RT.int .i64).sl).V M w0 l v):
  Spec Tryz.prog 212 #[v] w0 (fun v' w'=>v'= .bool (lX l)∧w0=w'):=by
 have hlen:=ed hv;refine aW (args:=[_]) (fn:=Tryz.f212) Tryz.func212 rfl (n:=32) Tryz.ntmps212 (aj (ah (ai rfl rfl (ad (aj (aj (ah (ae rfl rfl ?_))))))))
 first|refine bU av rfl (by assumption) rfl ?_|refine gN av rfl (by assumption) rfl ?_
 refine ae rfl rfl (ad (bj ?_));refine dI (σ:=Nat×Int) (fun s=>[(0,v),(5,v),(6,.int .i64 l.length),(7,.int .i64 s.1)]) (fun s w=>w0=w∧s.1≤l.length∧lX l=(eH s.2 (l.drop s.1)&&(l.drop s.1).all (fun n=>decide (n<2147483648)))∧ -1≤s.2∧(s.1=0→s.2= -1)∧(0<s.1→l[s.1-1]? =some s.2)) (fun s=>l.length-s.1) (0,-1) (.cons rfl (.cons rfl (.cons rfl (.cons rfl .nil)))) ?_ ?_
 ·exact⟨rfl,bH _,rfl,by decide,fun _=>rfl,fun h=>absurd h (iF 0)⟩
 ·rintro⟨k,last⟩ w1 ⟨rfl,hk,hr,On,h0,h1⟩;dsimp only at hk hr On h0 h1 ⊢;refine aj (ah (cf rfl rfl rfl (ad (aj ?_))));refine bF rfl (fun c2=>?_) (fun c2=>?_)
  ·refine aU (aj (bj (aj (ah (ae rfl rfl ?_)))));obtain⟨x,hx⟩:∃x,l[k]? =some x:=⟨_,aL (by omega)⟩;refine dq (M:=M) av I3 rfl rfl rfl hv (aq _ _) (by omega) (fun aeH Xn Rl aa5=>?_);obtain rfl:x=Xn:=eP (bQ (Rl.symm.trans (by simpa using hx)));refine cd (M:=M) ar rfl rfl (by assumption) (by repeat (first|exact aq _ _|refine aT (a7 (by assumption)) ?_)) (fun aa6=>?_);refine ai rfl rfl (ai rfl rfl (ad (aj (ah (ae rfl rfl (cf rfl rfl rfl (ae rfl rfl ?_)))))));refine aI (g:=14) rfl (fun GL=>?_) (fun GL=>?_)
   ·refine ao rfl rfl rfl rfl (ao rfl rfl rfl rfl (aQ rfl rfl rfl (ae rfl rfl (ao rfl rfl rfl rfl (ao rfl rfl rfl rfl (ao rfl rfl rfl rfl (cc rfl rfl rfl (cc rfl rfl rfl (cc rfl rfl rfl (cc rfl rfl rfl (cc rfl rfl rfl ?_)))))))))));refine cc rfl rfl rfl (cc rfl rfl rfl (ao rfl rfl rfl rfl (aQ rfl rfl rfl (ad (lO rfl (aj (ah (ai rfl rfl (ad (aH ?_))))))))));refine aP rfl rfl ⟨congrArg Value.bool (eP ?_),rfl⟩;rw[hr,eZ hx,nh _ hx];by_cases h7:last<x
    ·have h2: ¬x<2147483648:=by omega
     simp[h2]
    ·simp[h7]
   ·refine al rfl rfl (ae rfl rfl (al rfl rfl (dA rfl rfl rfl (ay rfl rfl rfl (ae rfl rfl ?_)))));refine aI (g:=18) rfl (fun Xo=>?_) (fun Xo=>?_)
    ·refine ao rfl rfl rfl rfl (ao rfl rfl rfl rfl (ao rfl rfl rfl rfl (cc rfl rfl rfl (cc rfl rfl rfl (cc rfl rfl rfl (cc rfl rfl rfl (cc rfl rfl rfl (cc rfl rfl rfl (cc rfl rfl rfl (ao rfl rfl rfl rfl (aQ rfl rfl rfl ?_)))))))))));refine ad (lO rfl (aj (ah (ai rfl rfl (ad (aH ?_))))));refine aP rfl rfl ⟨congrArg Value.bool (eP ?_),rfl⟩;rw[hr,eZ hx,nh _ hx];by_cases h7:last<x
     ·have h2: ¬x<2147483648:=by omega
      simp[h2]
     ·simp[h7]
    ·refine al rfl rfl (ae rfl rfl (al rfl rfl (mG rfl rfl rfl (al rfl rfl (ae rfl rfl ?_)))));refine aI (g:=21) rfl (fun Xp=>?_) (fun Xp=>?_)
     ·refine al rfl rfl (ae rfl rfl (al rfl rfl (ae rfl rfl (al rfl rfl (ae rfl rfl (al rfl rfl (gM rfl rfl rfl (by omega) (al rfl rfl ?_))))))));refine dq (M:=M) av I3 rfl rfl rfl hv (aq _ _) (by omega) (fun aa7 Rm Nb Xq=>?_);obtain rfl:last=Rm:=eP (bQ (Nb.symm.trans (by rw[show((k:Int)-1).toNat=k-1 from by omega];exact h1 (by omega))));refine al rfl rfl ?_;refine cd (M:=M) ar rfl rfl (by assumption) (by repeat (first|exact aq _ _|refine aT (a7 (by assumption)) ?_)) (fun Xr=>?_);refine al rfl rfl (eM rfl rfl rfl (al rfl rfl (aQ rfl rfl rfl (ay rfl rfl rfl (ad ?_)))));refine bF rfl (fun c4=>?_) (fun c4=>?_)
      ·refine aj (ah (ai rfl rfl (ad (aH ?_))));refine aP rfl rfl ⟨congrArg Value.bool (eP ?_),rfl⟩;rw[hr,eZ hx,nh _ hx];by_cases h7:last<x
       ·have h2: ¬x<2147483648:=by omega
        simp[h2]
       ·simp[h7]
      ·refine aU (ah (bz rfl rfl rfl (by omega) (ae rfl rfl (ad ?_))));refine⟨rfl,(k+1,x),(.cons rfl (.cons rfl (.cons rfl (.cons rfl .nil)))),?_,?_⟩
       ·refine⟨rfl,by simp only;omega,?_,by simp only;omega,fun h=>by simp at h,fun _=>by simpa using hx⟩;rw[hr,eZ hx,nh _ hx,decide_eq_true (show last<x by omega),decide_eq_true (show x<2147483648 by omega),dx,dx]
       ·simp only;omega
     ·refine ao rfl rfl rfl rfl (ao rfl rfl rfl rfl (ao rfl rfl rfl rfl (ao rfl rfl rfl rfl (ao rfl rfl rfl rfl (ao rfl rfl rfl rfl (ao rfl rfl rfl rfl (al rfl rfl (ay rfl rfl rfl (ay rfl rfl rfl (ad (gL rfl ?_)))))))))));refine aU (ah (bz rfl rfl rfl (by omega) (ae rfl rfl (ad ?_))));refine⟨rfl,(k+1,x),(.cons rfl (.cons rfl (.cons rfl (.cons rfl .nil)))),?_,?_⟩
      ·refine⟨rfl,by simp only;omega,?_,by simp only;omega,fun h=>by simp at h,fun _=>by simpa using hx⟩;rw[hr,eZ hx,nh _ hx,decide_eq_true (show last<x by omega),decide_eq_true (show x<2147483648 by omega),dx,dx]
      ·simp only;omega
  ·refine cM (aj (ah (ai rfl rfl (ad (aH ?_)))));refine aP rfl rfl ⟨congrArg Value.bool (eP ?_),rfl⟩;rw[hr,dP (by omega)];rfl
theorem DO {M:az} {w0:World} {v:Value} {l:List Po} (hM:Lt M w0) (hv:((RT.po).sl).V M w0 l v):
  Spec Tryz.prog 171 #[v] w0 (fun v' w'=>v'= .bool (dU (-1) l)∧Step M w0 M w' aA):=by
 have hlen:=ed hv;refine aW (args:=[_]) (fn:=Tryz.f171) Tryz.func171 rfl (n:=36) Tryz.ntmps171 (aj (ah (ai rfl rfl (ad (aj (ah (ai rfl rfl (ad (aj (aj (ah ?_)))))))))));refine ae rfl rfl ?_
 first|refine bU aX rfl (by assumption) rfl ?_|refine gN aX rfl (by assumption) rfl ?_
 refine ae rfl rfl (ad (bj ?_));refine dI (σ:=Nat×Int) (fun s=>[(6,v),(7,.int .i64 l.length),(8,.int .i64 s.1),(3,.int .i64 s.2)]) (fun s w=>Step M w0 M w aA∧s.1≤l.length∧dU (-1) l=dU s.2 (l.drop s.1)) (fun s=>l.length-s.1) (0,-1) (.cons rfl (.cons rfl (.cons rfl (.cons rfl .nil)))) ?_ ?_
 ·exact⟨an _ _,bH _,rfl⟩
 ·rintro⟨k,last⟩ w1 ⟨S,hk,hr⟩;dsimp only at hk hr ⊢;have hMw:=S.lt hM;refine aj (ah (cf rfl rfl rfl (ad (aj ?_))));refine bF rfl (fun c3=>?_) (fun c3=>?_)
  ·refine aU (aj (bj (aj (ah ?_))));obtain⟨⟨d,ps⟩,hx⟩:∃x,l[k]? =some x:=⟨_,aL (by omega)⟩;refine dq (M:=M) aX gC rfl rfl rfl (hv.le S.le) (aq _ _) (by omega) (fun LX Xs Rn Cs=>?_);obtain rfl:Xs=(d,ps):=bQ (Rn.symm.trans (by simpa using hx));refine cw (M:=M) (A:=RT.po) bK rfl gC (by decide) rfl rfl rfl (by assumption) (by repeat (first|exact aq _ _|refine aT (a7 (by assumption)) ?_)) (fun LY Fx=>?_);refine oH (A:=RT.po) (M:=M) gC rfl rfl rfl rfl rfl (by assumption) (by repeat (first|exact aq _ _|refine aT (a7 (by assumption)) ?_)) (by first|assumption|exact Step.lt (by assumption) (by assumption)|exact Step.lt (by assumption) (Step.lt (by assumption) (by assumption))) (fun PC PD lE pD W3=>?_);refine ad (aj (aj (ah ?_)));refine aJ (M:=M) (A:=RT.po) (B:=RT.int .i64) bK rfl rfl I3 (by decide) (HG) rfl rfl (by decide) (by assumption) (by repeat (first|exact aq _ _|refine aT (a7 (by assumption)) ?_)) (fun QZ CK=>?_);refine cd (M:=M) ar rfl rfl CK (aq _ _) (fun Kx=>?_);refine bp (v':= .int .i64 d) rfl ?_;simp only at Kx;refine ae rfl rfl (eM rfl rfl rfl (ae rfl rfl ?_));refine aI (g:=16) rfl (fun Xt=>?_) (fun Xt=>?_)
   ·refine ao rfl rfl rfl rfl (ao rfl rfl rfl rfl (ao rfl rfl rfl rfl (aQ rfl rfl rfl (ae rfl rfl (ao rfl rfl rfl rfl (ao rfl rfl rfl rfl (ao rfl rfl rfl rfl (ao rfl rfl rfl rfl (aQ rfl rfl rfl (ae rfl rfl (ao rfl rfl rfl rfl ?_)))))))))));refine ao rfl rfl rfl rfl (ao rfl rfl rfl rfl (ao rfl rfl rfl rfl (aQ rfl rfl rfl (ad (lO rfl (aj (ah (ai rfl rfl (ad (aH ?_))))))))));refine aP rfl rfl ⟨congrArg Value.bool (eP ?_),S.ax pD⟩;rw[hr,ko hx]
    first
    |(rw[decide_eq_false (show¬last<d by omega)];simp;done)
    |(rw[decide_eq_false (show¬d<2147483648 by omega)];simp;done)
    |(rw[show ps=[]from gh.1 (by omega)];simp;done)
    |(simp[c5];done)
   ·refine al rfl rfl ?_;refine aJ (M:=M) (A:=RT.po) (B:=RT.int .i64) bK rfl rfl I3 (by decide) (HG) rfl rfl (by decide) (by assumption) (by repeat (first|exact aq _ _|refine aT (a7 (by assumption)) ?_)) (fun aeI Ro=>?_);refine al rfl rfl ?_;refine cd (M:=M) ar rfl rfl Ro (aq _ _) (fun aa8=>?_);refine bp (v':= .int .i64 d) rfl (al rfl rfl (dA rfl rfl rfl (ay rfl rfl rfl (ae rfl rfl ?_))));refine aI (g:=21) rfl (fun Xu=>?_) (fun Xu=>?_)
    ·refine ao rfl rfl rfl rfl (ao rfl rfl rfl rfl (ao rfl rfl rfl rfl (ao rfl rfl rfl rfl (aQ rfl rfl rfl (ae rfl rfl (ao rfl rfl rfl rfl (ao rfl rfl rfl rfl (ao rfl rfl rfl rfl (ao rfl rfl rfl rfl (aQ rfl rfl rfl (ad ?_)))))))))));refine lO rfl (aj (ah (ai rfl rfl (ad (aH ?_)))));refine aP rfl rfl ⟨congrArg Value.bool (eP ?_),S.ax pD⟩;rw[hr,ko hx]
     first
     |(rw[decide_eq_false (show¬last<d by omega)];simp;done)
     |(rw[decide_eq_false (show¬d<2147483648 by omega)];simp;done)
     |(rw[show ps=[]from gh.1 (by omega)];simp;done)
     |(simp[c5];done)
    ·refine al rfl rfl ?_;refine aJ (M:=M) (A:=RT.po) (B:=(RT.int .i64).sl) bK rfl rfl nZ (by decide) (O8) rfl rfl (by decide) (by assumption) (by repeat (first|exact aq _ _|refine aT (a7 (by assumption)) ?_)) (fun aa9 Xv=>?_);refine al rfl rfl ?_;refine cg (M:=M) av rfl rfl rfl rfl rfl (by assumption) (by repeat (first|exact aq _ _|refine aT (a7 (by assumption)) ?_)) (fun aba Nc=>?_);refine al rfl rfl (bU av rfl Nc rfl (bp (v':= .int .i64 ps.length) rfl (al rfl rfl (Rg.Ay rfl rfl rfl (ay rfl rfl rfl (ae rfl rfl ?_))))));refine aI (g:=27) rfl (fun Ky=>?_) (fun Ky=>?_)
     ·refine ao rfl rfl rfl rfl (ao rfl rfl rfl rfl (ao rfl rfl rfl rfl (ao rfl rfl rfl rfl (aQ rfl rfl rfl (ad (lO rfl (aj (ah (ai rfl rfl (ad (aH ?_)))))))))));refine aP rfl rfl ⟨congrArg Value.bool (eP ?_),S.ax pD⟩;rw[hr,ko hx]
      first
      |(rw[decide_eq_false (show¬last<d by omega)];simp;done)
      |(rw[decide_eq_false (show¬d<2147483648 by omega)];simp;done)
      |(rw[show ps=[]from gh.1 (by omega)];simp;done)
      |(simp[c5];done)
     ·refine al rfl rfl ?_;refine aJ (M:=M) (A:=RT.po) (B:=(RT.int .i64).sl) bK rfl rfl nZ (by decide) (O8) rfl rfl (by decide) (by assumption) (by repeat (first|exact aq _ _|refine aT (a7 (by assumption)) ?_)) (fun abb Xw=>?_);refine al rfl rfl ?_;refine cg (M:=M) av rfl rfl rfl rfl rfl (by assumption) (by repeat (first|exact aq _ _|refine aT (a7 (by assumption)) ?_)) (fun abc Nd=>?_);refine al rfl rfl ?_;refine aM rfl rfl UL (zW Nd) (fun r5 w5 h5=>?_);obtain⟨rfl,rfl⟩:=h5;refine al rfl rfl (Rg.not rfl rfl (bp (v':= .bool (decide (¬lX ps=true))) (by simp) (ay rfl rfl rfl (ad ?_))));refine bF rfl (fun c5=>?_) (fun c5=>?_)
      ·refine aj (ah (ai rfl rfl (ad (aH ?_))));refine aP rfl rfl ⟨congrArg Value.bool (eP ?_),S.ax pD⟩;rw[hr,ko hx]
       first
       |(rw[decide_eq_false (show¬last<d by omega)];simp;done)
       |(rw[decide_eq_false (show¬d<2147483648 by omega)];simp;done)
       |(rw[show ps=[]from gh.1 (by omega)];simp;done)
       |(simp[c5];done)
      ·refine aU (ah ?_);refine aJ (M:=M) (A:=RT.po) (B:=RT.int .i64) bK rfl rfl I3 (by decide) (HG) rfl rfl (by decide) (by assumption) (by repeat (first|exact aq _ _|refine aT (a7 (by assumption)) ?_)) (fun P9 Ct=>?_);refine cd (M:=M) ar rfl rfl Ct (aq _ _) (fun abd=>?_);refine bp (v':= .int .i64 d) rfl (ai rfl rfl (ad (ah (bz rfl rfl rfl (by omega) (ae rfl rfl (ad ?_))))));refine⟨rfl,(k+1,d),(.cons rfl (.cons rfl (.cons rfl (.cons rfl .nil)))),?_,?_⟩
       ·refine⟨S.ax pD,by simp only;omega,?_⟩
        have eK:ps.isEmpty=false:=by cases ps with
         |nil=>simp at Ky
         |cons a t=>rfl
        rw[hr,ko hx,decide_eq_true (show last<d by omega),decide_eq_true (show d<2147483648 by omega),eK,ec.1 c5];rfl
       ·simp only;omega
  ·refine cM (aj (ah (ai rfl rfl (ad (aH ?_)))));refine aP rfl rfl ⟨congrArg Value.bool (eP ?_),S⟩;rw[hr,dP (by omega)];rfl
theorem BE {M:az} {w0:World} {v:Value} {l:List Po} (hM:Lt M w0) (hv:((RT.po).sl).V M w0 l v):
  Spec Tryz.prog 172 #[v,.int .i64 8] w0 (fun v' w'=>∃bs bn,v'= .func (.func 213) [].toArray [.pointer (some ⟨bs,0,none⟩),.pointer (some ⟨bn,0,none⟩)].toArray∧w'.heap[bs]? =some (.cells #[v] 107 (0,0))∧w'.heap[bn]? =some (.cells #[.int .i64 8] 3 (0,0))∧w0.heap.size≤bs∧w0.heap.size≤bn∧Step M w0 M w' aA):=by
 refine aW (args:=[_,_]) (fn:=Tryz.f172) Tryz.func172 rfl (n:=9) Tryz.ntmps172 (aj (ah ?_));refine mH M rfl rfl (fun bs w1 h1 H9 hS s1=>?_);rw[iI hv]at hS;refine mH (ins M bs) rfl rfl (fun bn w2 h2 wZ hN s2=>?_);have hS2:=s2.aG hS;have hz1:=s1.size;refine ai rfl rfl (ad (aj (aj (ah (aE ar rfl rfl rfl hN rfl (cf rfl rfl rfl (ad (T.wT rfl ((by decide)) (aU (aj (ah ?_)))))))))));refine iD (xs:=[]) (ys:=[.tmp 2,.tmp 3]) rfl rfl rfl (ai rfl rfl (ad (aH ?_)));exact aP rfl rfl ⟨bs,bn,rfl,hS2,hN,h1,by omega,(s1.ax s2).back⟩
theorem zX {w0:World} {bs bn yl:Nat} {v:Value} {l:List Po} {M:az} {wv:World} {J:Nat→World→Prop} {Jx:World→Prop} (hv:((RT.po).sl).V M wv l v) (il:∀i w w',J i w→Step aA w aA w' aA→J i w') (El:∀i w,J i w→w.heap[bs]? =some (.cells #[v] 107 (0,0))∧w.heap[bn]? =some (.cells #[.int .i64 8] 3 (0,0))) (hy:∀(i:Nat) (w:World) (u:Value),J i w→i<l.length→((RT.po).sl).V M wv ((l.drop i).take 8) u→rj Tryz.prog yl [u].toArray w (fun r w'=>∃b,r= .bool b∧(b=true→J (min (i+8) l.length) w')∧(b=false→Jx w'))) (h0:J 0 w0):
  Spec Tryz.prog 213 #[.func (.yield yl) #[] #[],.pointer (some ⟨bs,0,none⟩),.pointer (some ⟨bn,0,none⟩)] w0 (fun _ w'=>J l.length w'∨Jx w'):=by
 have hlen:=ed hv;refine aW (args:=[_,_,_]) (fn:=Tryz.f213) Tryz.func213 rfl (n:=31) Tryz.ntmps213 (aj (ah (ai rfl rfl (ad (bj ?_)))));refine dI (σ:=Nat) (fun s=>[(0,.func (.yield yl) #[] #[]),(1,.pointer (some ⟨bs,0,none⟩)),(2,.pointer (some ⟨bn,0,none⟩)),(4,.int .i64 s)]) (fun s w=>J (min s l.length) w∧s≤l.length+8) (fun s=>l.length+8-s) 0 (.cons rfl (.cons rfl (.cons rfl (.cons rfl .nil)))) ?_ ?_
 ·exact⟨by rw[Nat.zero_min];exact h0,bH _⟩
 ·rintro k w1 ⟨hJ,hk⟩;obtain⟨qh,yf⟩:=El _ _ hJ;refine aj (aj (ah (ae rfl rfl (aE aX rfl rfl rfl qh rfl ?_))))
  first|refine bU aX rfl (by assumption) rfl ?_|refine gN aX rfl (by assumption) rfl ?_
  refine cf rfl rfl rfl (ad ?_);refine bF rfl (fun c1=>?_) (fun c1=>?_)
  ·refine aU (aj (bj (aj ?_)));apply T.draw (M:=aA) mixed [b9.eq _,b9.eq _,b9.eq _,b9.pure (fun v=>((RT.po).sl).V M wv (l.drop k) v),b9.eq _,b9.eq _,b9.eq _]
   ·rfl
   ·refine aK ?_ ?_
    ·intro wD E sD;refine aE ar rfl rfl rfl (bS sD yf) rfl ?_;exact ad ⟨rfl,rfl,_,rfl,rfl,an _ _⟩
    refine aK ?_ ?_
    ·intro wD E sD;refine aE aX rfl rfl rfl (bS sD qh) rfl ?_;exact ad ⟨rfl,rfl,_,rfl,rfl,an _ _⟩
    refine aK ?_ ?_
    ·intro wD E sD;refine ae rfl rfl ?_;exact ad ⟨rfl,rfl,_,rfl,rfl,an _ _⟩
    refine aK ?_ ?_
    ·intro wD E sD;refine aw (aw ?_);refine Rg.wW (A:=RT.po) (hn:=by decide) aX gC rfl rfl rfl hv (by omega) (fun u hu=>?_);rw[aC]at hu;exact ad ⟨rfl,rfl,_,rfl,hu,an _ _⟩
    refine aK ?_ ?_
    ·intro wD E sD;intro v3 uU;have Xx:((RT.po).sl).V M wv (l.drop k) v3:=uU;refine bU aX rfl Xx rfl ?_;exact ad ⟨rfl,rfl,_,rfl,rfl,an _ _⟩
    refine aK ?_ ?_
    ·intro wD E sD;refine aw (aw (Rg.min2 rfl rfl rfl ?_));exact ad ⟨rfl,rfl,_,rfl,rfl,an _ _⟩
    refine aK ?_ ?_
    ·intro wD E sD;refine aw (aw (aw (aw ?_)));intro v3 uU;refine aw (aw (ai rfl rfl ?_));exact ad ⟨rfl,rfl,_,rfl,rfl,an _ _⟩
    exact bX.nil
   ·intro LM kI;refine aw (aw (aw ?_));intro Rf Kw;refine aw (aw (aw ?_));rw[show min k l.length=k from by omega]at hJ;have HM:=il _ _ _ hJ kI;obtain⟨hb3,Jf⟩:=El _ _ HM;refine aj (ah (ae rfl rfl (aE aX rfl rfl rfl hb3 rfl (ae rfl rfl (ae rfl rfl (ae rfl rfl (bz rfl rfl rfl (by omega) (ae rfl rfl (ae rfl rfl (bz rfl rfl rfl (by omega) ?_))))))))));refine Rg.C9 (A:=RT.po) (hn:=by decide) aX gC rfl rfl rfl rfl rfl hv (by rw[cL];omega) (fun u hu=>?_)
    have he:(l.take ((k:Int)+min 8 ((l.drop k).length:Int)).toNat).drop (k:Int).toNat=(l.drop k).take 8:=by
     rw[aC,List.drop_take,cL,show((k:Int)+min 8 ((l.length-k:Nat):Int)).toNat-k=min 8 (l.length-k)from by omega,qc,cL];omega
    rw[he]at hu;refine Rg.yield rfl (vs:=[u]) rfl rfl (hy k _ u HM (by omega) hu) (fun r4 w4 h4=>?_);obtain⟨b,rfl,Oc,oa⟩:=h4;refine Rg.not rfl rfl (bp (v':= .bool (decide (¬b=true))) (by simp) (ad ?_));refine bF rfl (fun c4=>?_) (fun c4=>?_)
    ·refine aH ?_;exact B6 rfl (.inr (oa (by simpa using c4)))
    ·refine aU (ah (ae rfl rfl ?_));have hJ5:=Oc (ec.1 c4);refine aE ar rfl rfl rfl (El _ _ hJ5).2 rfl (bz rfl rfl rfl (by omega) (ai rfl rfl (ad ?_)));refine⟨rfl,k+8,(.cons rfl (.cons rfl (.cons rfl (.cons rfl .nil)))),?_,?_⟩
     ·exact⟨hJ5,by omega⟩
     ·show l.length+8-(k+8)<l.length+8-k;omega
  ·refine cM ?_;rw[show min k l.length=l.length from by omega]at hJ;change sw Tryz.prog Tryz.f213 (fun _ w'=>J l.length w'∨Jx w') .normal _ [] _;exact gZ rfl (.inl hJ)
end Go.K
namespace Go.K
open Go.Proofs
set_option maxRecDepth 10000
structure k9 (M:az) (w0:World) (v:Value) (bo bx bl D bs bn:Nat) (st:Obj) (vb vk:Value) (tot last:Int) (b:List UInt8) (ks:List Bl) (M1:az) (w:World):Prop where
 lt:Lt M1 w
 S:Step M w0 M1 w aA
 mo:M1 bo
 mx:M1 bx
 ml:M1 bl
 md:M1 D
 mr:M1 (D+1)
 o:w.heap[bo]? =some (.cells #[.pointer (some ⟨bx,0,none⟩)] 129 (0,0))
 x:w.heap[bx]? =some (.cells #[vb,vk,.int .i64 tot] 193 (0,0))
 l:w.heap[bl]? =some (.cells #[.int .i64 last] 3 (0,0))
 d:w.heap[D]? =some (.deferred (some []))
 r:w.heap[D+1]? =some st
 s:w.heap[bs]? =some (.cells #[v] 107 (0,0))
 n:w.heap[bn]? =some (.cells #[.int .i64 8] 3 (0,0))
 ne:bo≠bx∧bo≠bl∧bx≠bl∧bo<D∧bx<D∧bl<D∧bs<D∧bn<D∧bs≠bo∧bs≠bx∧bs≠bl∧bn≠bo∧bn≠bx∧bn≠bl∧w0.heap.size≤bo∧w0.heap.size≤bx∧w0.heap.size≤bl∧w0.heap.size≤D
 hb:(RT.u8.sl).V M1 w b vb
 hk:Own RT.bl 195 M1 w (D+2) vk ks
section
variable {M M1 M2:az} {w0 w w':World} {v vb vk:Value} {bo bx bl D bs bn:Nat} {st:Obj} {tot last:Int} {b:List UInt8} {ks:List Bl}
theorem k9.step (h:k9 M w0 v bo bx bl D bs bn st vb vk tot last b ks M1 w) (s:Step M1 w M2 w' aA):k9 M w0 v bo bx bl D bs bn st vb vk tot last b ks M2 w':=
 ⟨s.lt h.lt,h.S.ax s,(s.mem _ (h.lt _ h.mo)).2 h.mo,(s.mem _ (h.lt _ h.mx)).2 h.mx,(s.mem _ (h.lt _ h.ml)).2 h.ml,(s.mem _ (h.lt _ h.md)).2 h.md,(s.mem _ (h.lt _ h.mr)).2 h.mr,
  s.aG h.o,s.aG h.x,s.aG h.l,s.aG h.d,s.aG h.r,s.aG h.s,s.aG h.n,h.ne,h.hb.le s.le,h.hk.bg s⟩
theorem k9.Jg {n:Int} (h:k9 M w0 v bo bx bl D bs bn st vb vk tot last b ks M1 w) (s:Step M1 w M1 w' (fun k=>k=bl)) (hl:w'.heap[bl]? =some (.cells #[.int .i64 n] 3 (0,0))):k9 M w0 v bo bx bl D bs bn st vb vk tot n b ks M1 w':=by
 obtain⟨e1,e2,e3,e4,e5,e6,e7,e8,e9,Ov,Rp,Ow,Ox,Rq,Tx,Oy,Rr,Ty⟩:=h.ne
 exact⟨s.lt h.lt,h.S.cx s (fun k hk=>by subst hk;exact Rr),h.mo,h.mx,h.ml,h.md,h.mr,s.bE h.o e2,s.bE h.x e3,hl,s.bE h.d (by omega),s.bE h.r (by omega),s.bE h.s Rp,s.bE h.n Rq,h.ne,h.hb.le s.le,
  h.hk.step s (fun k hk hh=>by have:=(h.hk.base k hk).1;omega)⟩
theorem k9.Nf {Xy Ng:Value} {Rs:Int} {b':List UInt8} {Rt:List Bl} (h:k9 M w0 v bo bx bl D bs bn st vb vk tot last b ks M1 w) (s:Step M1 w M1 w' (fun k=>k=bx)) (hx:w'.heap[bx]? =some (.cells #[Xy,Ng,.int .i64 Rs] 193 (0,0)))
  (hb:(RT.u8.sl).V M1 w' b' Xy) (hk:Own RT.bl 195 M1 w (D+2) Ng Rt):k9 M w0 v bo bx bl D bs bn st Xy Ng Rs last b' Rt M1 w':=by
 obtain⟨e1,e2,e3,e4,e5,e6,e7,e8,e9,Ov,Rp,Ow,Ox,Rq,Tx,Oy,Rr,Ty⟩:=h.ne
 exact⟨s.lt h.lt,h.S.cx s (fun k hk=>by subst hk;exact Oy),h.mo,h.mx,h.ml,h.md,h.mr,s.bE h.o e1,hx,s.bE h.l (Ne.symm e3),s.bE h.d (by omega),s.bE h.r (by omega),s.bE h.s Ov,s.bE h.n Ox,h.ne,hb,
  hk.step s (fun k sI hh=>by have:=(hk.base k sI).1;omega)⟩
theorem k9.mN {st':Obj} (h:k9 M w0 v bo bx bl D bs bn st vb vk tot last b ks M1 w) (il:w.heap[D+1]? =some st):k9 M w0 v bo bx bl D bs bn st' vb vk tot last b ks M1 (w.putObj (D+1) st'):=by
 have s:Step M1 w M1 (w.putObj (D+1) st') (fun k=>k=D+1):=dK h.mr;obtain⟨e1,e2,e3,e4,e5,e6,e7,e8,e9,Ov,Rp,Ow,Ox,Rq,Tx,Oy,Rr,Ty⟩:=h.ne
 exact⟨s.lt h.lt,h.S.cx s (fun k hk=>by subst hk;omega),h.mo,h.mx,h.ml,h.md,h.mr,s.bE h.o (by omega),s.bE h.x (by omega),s.bE h.l (by omega),s.bE h.d (by omega),World.putObj_heap_same (ak il),s.bE h.s (by omega),s.bE h.n (by omega),h.ne,h.hb.le s.le,
  h.hk.step s (fun k sI hh=>by have:=(h.hk.base k sI).1;omega)⟩
theorem k9.other {q:Nat} (h:k9 M w0 v bo bx bl D bs bn st vb vk tot last b ks M1 w) (s:Step M1 w M1 w' (fun k=>k=q)) (hq:D+1<q) (Tz:∀k,vk.ownBlock=some k→k≠q):k9 M w0 v bo bx bl D bs bn st vb vk tot last b ks M1 w':=by
 obtain⟨e1,e2,e3,e4,e5,e6,e7,e8,e9,Ov,Rp,Ow,Ox,Rq,Tx,Oy,Rr,Ty⟩:=h.ne
 exact⟨s.lt h.lt,h.S.cx s (fun k hk=>by subst hk;omega),h.mo,h.mx,h.ml,h.md,h.mr,s.bE h.o (by omega),s.bE h.x (by omega),s.bE h.l (by omega),s.bE h.d (by omega),s.bE h.r (by omega),s.bE h.s (by omega),s.bE h.n (by omega),h.ne,h.hb.le s.le,
  h.hk.step s (fun k sI hh=>Tz k sI hh)⟩
theorem k9.grow {Ng:Value} {Rt:List Bl} (h:k9 M w0 v bo bx bl D bs bn st vb vk tot last b ks M1 w) (s:Step M1 w M2 w' (fun k=>vk.ownBlock=some k)) (hk:Own RT.bl 195 M2 w' (D+2) Ng Rt):
  (w'.heap[bx]? =some (.cells #[vb,vk,.int .i64 tot] 193 (0,0))∧M2 bx∧Lt M2 w')∧∀{w2:World},Step M2 w' M2 w2 (fun k=>k=bx)→w2.heap[bx]? =some (.cells #[vb,Ng,.int .i64 tot] 193 (0,0))→k9 M w0 v bo bx bl D bs bn st vb Ng tot last b Rt M2 w2:=by
 obtain⟨e1,e2,e3,e4,e5,e6,e7,e8,e9,Ov,Rp,Ow,Ox,Rq,Tx,Oy,Rr,Ty⟩:=h.ne;have hn:∀k,vk.ownBlock=some k→D+2≤k:=fun k hk=>(h.hk.base k hk).1
 have ek:=fun {k:Nat} (hm:M1 k)=>(s.mem k (h.lt k hm)).2 hm
 refine⟨⟨s.bE h.x (fun hh=>by have:=hn _ hh;omega),ek h.mx,s.lt h.lt⟩,fun {w2} s2 hx=>?_⟩;have S':=h.S.cx s (fun k hk=>by have:=hn k hk;omega)
 exact⟨s2.lt (s.lt h.lt),S'.cx s2 (fun k hk=>by subst hk;exact Oy),ek h.mo,ek h.mx,ek h.ml,ek h.md,ek h.mr,s2.bE (s.bE h.o (fun hh=>by have:=hn _ hh;omega)) e1,hx,s2.bE (s.bE h.l (fun hh=>by have:=hn _ hh;omega)) (Ne.symm e3),
  s2.bE (s.bE h.d (fun hh=>by have:=hn _ hh;omega)) (by omega),s2.bE (s.bE h.r (fun hh=>by have:=hn _ hh;omega)) (by omega),s2.bE (s.bE h.s (fun hh=>by have:=hn _ hh;omega)) Ov,s2.bE (s.bE h.n (fun hh=>by have:=hn _ hh;omega)) Ox,h.ne,(h.hb.le s.le).le s2.le,
  hk.step s2 (fun k sI hh=>by have:=(hk.base k sI).1;omega)⟩
end
def GY (M:az) (w0:World) (l:List Po) (v:Value) (bo bx bl D bs bn:Nat) (st:Obj) (i:Nat) (w:World):Prop:=
 ∃(M1:az) (vb vk:Value),k9 M w0 v bo bx bl D bs bn st vb vk (gz (l.take i)) (bW (-1) (l.take i)) (dz (-1) (l.take i)) (mJ l ((i+7)/8)) M1 w∧(i%8=0∨i=l.length)∧i≤l.length
theorem Nh {M:az} {w0 w2 w3 w5 w6 w7:World} {v:Value} {l:List Po} {bo bx bl bs bn:Nat} {st:Obj} (S6:Step M w0 (ins (ins (ins M bx) bo) bl) w6 aA) (s7:Step (ins (ins (ins M bx) bo) bl) w6 (ins (ins (ins M bx) bo) bl) w7 aA) (hM:Lt M w0)
  (e1:bo<w6.heap.size) (e2:bx<w6.heap.size) (e3:bl<w6.heap.size) (n1:bo≠bx) (n2:bo≠bl) (n3:bx≠bl)
  (hO:w6.heap[bo]? =some (.cells #[.pointer (some ⟨bx,0,none⟩)] 129 (0,0))) (hX:w6.heap[bx]? =some (.cells #[.slice none 0 0,.slice none 0 0,.int .i64 0] 193 (0,0))) (hL:w6.heap[bl]? =some (.cells #[.int .i64 (-1)] 3 (0,0)))
  (hS:w7.heap[bs]? =some (.cells #[v] 107 (0,0))) (hN:w7.heap[bn]? =some (.cells #[.int .i64 8] 3 (0,0))) (TA:w6.heap.size≤bs) (SO:w6.heap.size≤bn)
  (g1:w0.heap.size≤bo) (g2:w0.heap.size≤bx) (g3:w0.heap.size≤bl):
  GY M w0 l v bo bx bl w7.heap.size bs bn st 0 ((w7.alloc (.deferred (some []))).alloc st):=by
 have sA:Step (ins (ins (ins M bx) bo) bl) w7 (ins (ins (ins (ins M bx) bo) bl) w7.heap.size) (w7.alloc (.deferred (some []))) aA:=(cU _ w7 _).own (a8 _) (by simp);have sB:Step (ins (ins (ins (ins M bx) bo) bl) w7.heap.size) (w7.alloc (.deferred (some []))) (ins (ins (ins (ins (ins M bx) bo) bl) w7.heap.size) (w7.heap.size+1)) ((w7.alloc (.deferred (some []))).alloc st) aA:=(cU _ _ _).own (by simp) (by simp);have z7:=s7.size;have hs7:=ak hS;have hn7:=ak hN;have S:=((S6.ax s7).ax sA).ax sB;have hD:(w7.alloc (.deferred (some []))).heap[w7.heap.size]? =some (.deferred (some [])):=cu w7 _;have hR:((w7.alloc (.deferred (some []))).alloc st).heap[w7.heap.size+1]? =some st:=by have:=cu (w7.alloc (.deferred (some []))) st;rwa [World.size_alloc]at this
 have z0:=S6.size;refine⟨_,.slice none 0 0,.slice none 0 0,⟨S.lt hM,S,?_,?_,?_,?_,.inl rfl,sB.aG (sA.aG (s7.aG hO)),sB.aG (sA.aG (s7.aG hX)),sB.aG (sA.aG (s7.aG hL)),sB.aG hD,hR,sB.aG (sA.aG hS),sB.aG (sA.aG hN),by omega,jK,eo _ _ _ _ _⟩,.inl rfl,bH _⟩
 ·exact .inr (.inr (.inr (.inl rfl)))
 ·exact .inr (.inr (.inr (.inr (.inl rfl))))
 ·exact .inr (.inr (.inl rfl))
 ·exact .inr (.inl rfl)
set_option maxHeartbeats 4000000 in
theorem qQ {M:az} {w0:World} {v:Value} {l:List Po} (hM:Lt M w0) (hv:((RT.po).sl).V M w0 l v) (rN:∀p∈l,p.2.length≤1099511627776) (zG:(dz (-1) l).length≤35184372088832) (HZ:l.length≤1099511627776) (aeK:gz l≤4611686018427387904):
  Spec Tryz.prog 126 #[v] w0 (fun v' w'=>Step M w0 M w' aA∧(dU (-1) l=true→∃p,v'= .tuple #[p,.int .i64 0]∧ch RT.li M w' p (hU l))∧(dU (-1) l=false→v'= .tuple #[.pointer none,.int .i64 1])):=by
 have hlen:=ed hv;refine nc (args:=[_]) (fn:=Tryz.f126) Tryz.func126 rfl (n:=85) Tryz.ntmps126 (aj (ah (ai rfl rfl (ai rfl rfl (ad (aj (aj (ah (ae rfl rfl ?_)))))))));refine aM rfl rfl UB (DO hM hv) (fun r w1 h1=>?_);obtain⟨rfl,s1⟩:=h1;refine Rg.not rfl rfl (bp (v':= .bool (decide (¬dU (-1) l=true))) (by simp) (ad ?_));refine bF rfl (fun c1=>?_) (fun c1=>?_)
 ·refine aj (ah (ai rfl rfl (ai rfl rfl (ad (aH ?_)))));exact H8 rfl rfl rfl ⟨s1,fun h=>absurd h c1,fun _=>rfl⟩
 ·have pR:=ec.1 c1;refine aU (aj (ah (dX (places:=[(0,1),(1,1),(2,1)]) dv Uo Uq rfl rfl (out:=[.slice none 0 0,.slice none 0 0,.int .i64 0]) rfl ?_)));refine mH M rfl rfl (fun bx w2 El aeL hX s2=>?_);change w2.heap[bx]? =some (.cells #[.slice none 0 0,.slice none 0 0,.int .i64 0] 193 (0,0))at hX;refine ff (ins M bx) oR rfl (fun bo w3 hbo aeM hO s3=>?_);refine bP (M:=ins (ins M bx) bo) oR rfl rfl hO rfl rfl (.inl rfl) (fun w4 hO4 s4=>?_);refine ad (aj (ah ?_));refine ff (ins (ins M bx) bo) I3 rfl (fun bl w5 aeO abh hL s5=>?_);refine bP (M:=ins (ins (ins M bx) bo) bl) I3 rfl rfl hL rfl rfl (.inl rfl) (fun w6 hL6 s6=>?_);have z1:=s1.size;have z2:=s2.size;have z3:=s3.size;have z4:=s4.size;have z5:=s5.size;have z6:=s6.size;have S6:Step M w0 (ins (ins (ins M bx) bo) bl) w6 aA:=((((s1.ax s2).ax s3).cx s4 (fun k hk=>by subst hk;omega)).ax s5).cx s6 (fun k hk=>by subst hk;omega);have hO6:=s6.bE (s5.aG hO4) (show bo≠bl by omega);have hX6:=s6.bE (s5.aG (s4.bE (s3.aG hX) (show bx≠bo by omega))) (show bx≠bl by omega);refine ad (aj (aj (ah (ae rfl rfl ?_))));refine aM rfl rfl UC (BE (M:=ins (ins (ins M bx) bo) bl) (S6.lt hM) (hv.le S6.le)) (fun r w7 h7=>?_);obtain⟨bs,bn,rfl,hS7,hN7,TA,SO,s7⟩:=h7;have z7:=s7.size;have aeS:=ak hS7;have aeT:=ak hN7;refine ad (bj ?_);refine T.range (gf:=213) (lb:=[.pointer (some ⟨bs,0,none⟩),.pointer (some ⟨bn,0,none⟩)].toArray) rfl UM (fun rec na=>?_);obtain⟨D,hD⟩:∃D,D=w7.heap.size:=⟨_,rfl⟩;rw[←hD]at na ⊢
  have h0:GY M w0 l v bo bx bl D bs bn (.loop (rec .ready none)) 0 ((w7.alloc (.deferred (some []))).alloc (.loop (rec .ready none))):=by
   rw[hD]at na ⊢;exact Nh (w2:=w7) (w3:=w7) (w5:=w7) S6 s7 hM (by omega) (by omega) (by omega) (by omega) (by omega) (by omega) hO6 hX6 hL6 hS7 hN7 TA SO (by omega) (by omega) (by omega)
  refine Spec.mono (zX (M:=M) (wv:=w0) (J:=GY M w0 l v bo bx bl D bs bn (.loop (rec .ready none))) (Jx:=fun _=>False) hv (fun i w w' ⟨M1,vb,vk,h,h2⟩ s=>⟨M1,vb,vk,h.step (s.any M1),h2⟩) (fun i w ⟨M1,vb,vk,h,h2⟩=>⟨h.s,h.n⟩) (fun i wr u hJ hi hu=>?_) h0) (fun _ w3 h3=>?_)
  ·obtain⟨M1,vb,vk,h,hi8,lS⟩:=hJ;refine lx (ps:=[17]) (vs:=[u]) na h.r rfl (by decide) (ah (ai rfl rfl (ad ?_)));refine⟨rfl,h.r,?_⟩;have h1:=h.mN (st':= .loop (rec .busy none)) h.r;generalize wr.putObj (D+1) _=wB at h1 ⊢;have hO:=h1.o;have hX:=h1.x;have hL:=h1.l;have hB:=h1.hb;have dy:=h1.lt;have qq:((l.drop i).take 8).length≤8:=by rw[bG];omega
   have aeU:((l.drop i).take 8).length=min 8 (l.length-i):=by rw[bG,cL]
   obtain⟨q1,q2,q3,q4,q5,q6,q7,q8,q9,q10,q11,q12,q13,q14,q15,q16,q17,q18⟩:=h1.ne;refine bj (aj ?_);apply T.Cd (M:=M1) (n:=85) _ mixed [] [b9.eq _,b9.eq _,b9.eq _,b9.eq _,b9.eq _,b9.eq _,b9.eq _,b9.eq _,b9.eq _,b9.mk' (fun p w'=>∃bq,p= .pointer (some ⟨bq,0,none⟩)∧wB.heap.size≤bq∧w'.heap[bq]? =some (.cells #[.int .i64 0,.int .i64 0,.int .i64 0,.int .i64 0] 195 (0,0))) (fun⟨bq,h1,h2,h3⟩ s=>⟨bq,h1,h2,s.aG h3⟩)]
   ·rfl
   ·rfl
   ·rfl
   ·rfl
   ·exact fun p hp=>by cases hp
   ·exact rO.none
   ·refine aF ?_ ?_
    ·intro wD E sD;refine aE cG rfl rfl rfl (bS sD (by assumption)) rfl ?_;exact ad ⟨rfl,rfl,_,rfl,rfl,an _ _⟩
    refine aF ?_ ?_
    ·intro wD E sD;refine aw (aR rfl ⟨_,rfl⟩ rfl ?_);exact ad ⟨rfl,rfl,_,rfl,rfl,an _ _⟩
    refine aF ?_ ?_
    ·intro wD E sD;refine aw (aS dv rfl rfl yS (by decide) rfl rfl ?_);exact ad ⟨rfl,rfl,_,rfl,rfl,an _ _⟩
    refine aF ?_ ?_
    ·intro wD E sD;refine aw (aE bm rfl rfl rfl (bS sD (by assumption)) rfl ?_);exact ad ⟨rfl,rfl,_,rfl,rfl,an _ _⟩
    refine aF ?_ ?_
    ·intro wD E sD;refine aw ?_
     first|refine bU bm rfl (by assumption) rfl ?_|refine gN bm rfl (by assumption) rfl ?_
     exact ad ⟨rfl,rfl,_,rfl,rfl,an _ _⟩
    refine aF ?_ ?_
    ·intro wD E sD;refine aE ar rfl rfl rfl (bS sD (by assumption)) rfl ?_;exact ad ⟨rfl,rfl,_,rfl,rfl,an _ _⟩
    refine aF ?_ ?_
    ·intro wD E sD;refine ae rfl rfl ?_;exact ad ⟨rfl,rfl,_,rfl,rfl,an _ _⟩
    refine aF ?_ ?_
    ·intro wD E sD;refine aw ?_
     first|refine bU aX rfl (by assumption) rfl ?_|refine gN aX rfl (by assumption) rfl ?_
     exact ad ⟨rfl,rfl,_,rfl,rfl,an _ _⟩
    refine aF ?_ ?_
    ·intro wD E sD;refine aw (aw (aw (dX (places:=[(0,1),(1,1),(2,1),(3,1)]) j8 uO Ur rfl ⟨_,_,rfl,rfl,_,_,rfl,rfl,_,_,rfl,rfl,rfl⟩ (out:=[.int .i64 (dz (-1) (l.take i)).length,.int .i64 (bW (-1) (l.take i)),.int .i64 0,.int .i64 ((l.drop i).take 8).length]) ⟨0,[_],rfl,rfl,by simp[Value.cells],1,[_],rfl,rfl,by simp[Value.cells],3,[_],rfl,rfl,by simp[Value.cells],rfl⟩ ?_)));exact ad ⟨rfl,rfl,_,rfl,rfl,an _ _⟩
    refine aF ?_ ?_
    ·intro wD E sD;refine ff M1 uO rfl (fun bq wq e1 e2 e3 s=>?_);exact ad ⟨rfl,rfl,_,rfl,⟨bq,rfl,eO sD.size e1,e3⟩,s.back⟩
    exact bD.nil
   ·intro wD7 sD7;refine aw (aw (aw (aw (aw (aw (aw (aw (aw ?_))))))));intro ae6 Ru;obtain⟨bq,rfl,Ee,SV⟩:=Ru;have AI:=ak SV;have sQ:Step M1 wB (ins M1 bq) wD7 aA:=sD7.own Ee AI;refine fj (M:=ins M1 bq) (vs:=[.int .i64 (dz (-1) (l.take i)).length,.int .i64 (bW (-1) (l.take i)),.int .i64 0,.int .i64 ((l.drop i).take 8).length]) uO rfl rfl (by intro x hx;simp at hx;rcases hx with rfl|rfl|rfl|rfl<;>rfl) rfl rfl SV (.inl rfl) (fun wQ hQ sQ2=>?_);refine ad ⟨rfl,?_⟩;have h2:=h1.step (sQ.cx sQ2 (fun k hk=>by subst hk;exact Ee));have Tz:∀k,vk.ownBlock=some k→k≠bq:=fun k hk=>by have:=(h1.hk.base k hk).2;omega
    have O4:D+1<bq:=by have:=ak h1.r;omega
    have h3:k9 M w0 v bo bx bl D bs bn (.loop (rec .busy none)) vb vk (gz (l.take (i+0))) (bW (-1) (l.take (i+0))) (dz (-1) (l.take (i+0))) (mJ l ((i+7)/8)) (ins M1 bq) wQ:=h2;obtain⟨M2,HJ⟩:∃M2,M2=ins M1 bq:=⟨_,rfl⟩;rw[←HJ]at h3;refine aj (aj (ah (ae rfl rfl ?_)))
    first|refine bU aX rfl (by assumption) rfl ?_|refine gN aX rfl (by assumption) rfl ?_
    refine ae rfl rfl (ad (bj ?_));refine dI (σ:=Nat×Value) (fun s=>[(4,.pointer (some ⟨bo,0,none⟩)),(5,.pointer (some ⟨bl,0,none⟩)),(6,u),(7,.pointer (some ⟨bq,0,none⟩)),(27,u),(28,.int .i64 ((l.drop i).take 8).length),(29,.int .i64 s.1)]) (fun s w=>s.1≤((l.drop i).take 8).length∧w.heap[bq]? =some (.cells #[.int .i64 (dz (-1) (l.take i)).length,.int .i64 (bW (-1) (l.take i)),.int .i64 0,.int .i64 ((l.drop i).take 8).length] 195 (0,0))∧k9 M w0 v bo bx bl D bs bn (.loop (rec .busy none)) s.2 vk (gz (l.take (i+s.1))) (bW (-1) (l.take (i+s.1))) (dz (-1) (l.take (i+s.1))) (mJ l ((i+7)/8)) M2 w) (fun s=>((l.drop i).take 8).length-s.1) (0,vb) (.cons rfl (.cons rfl (.cons rfl (.cons rfl (.cons rfl (.cons rfl (.cons rfl .nil))))))) ?_ ?_
    ·exact⟨bH _,hQ,h3⟩
    ·rintro⟨j,vb⟩ wj ⟨hj,hQ,h4⟩;dsimp only at hj hQ h4 ⊢;have dy:=h4.lt;refine aj (ah (cf rfl rfl rfl (ad (aj ?_))));refine bF rfl (fun c9=>?_) (fun c9=>?_)
     ·refine aU (aj (bj (aj (ah ?_))));obtain⟨⟨d,ps⟩,hx⟩:∃x,l[i+j]? =some x:=⟨_,aL (by omega)⟩;obtain⟨f1,f2,f3,f4,f5,f6⟩:=nf pR hx;obtain⟨f7,f8⟩:=lY.1 f4;have fps:=rN _ (aN hx);have fb:=k4 l (i+j);have ft:=yJ l (i+j);have ft2:=yJ l (i+j+1);rw[ta hx]at ft2;have ftk:=sY (-1) hx;have ftl:=k4 l (i+j+1);simp only at fps;refine dq (M:=M2) aX gC rfl rfl rfl (hu.le h4.S.le) (aq _ _) (by omega) (fun P4 Rv Ni L0=>?_);obtain rfl:(d,ps)=Rv:=eP (bQ (Ni.symm.trans (by rw[aC,dr,if_pos (by omega),List.getElem?_drop];exact hx)));refine cw (M:=M2) (A:=RT.po) bK rfl gC (by decide) rfl rfl rfl (by assumption) (by repeat (first|exact aq _ _|refine aT (a7 (by assumption)) ?_)) (fun P5 FA=>?_);refine oH (A:=RT.po) (M:=M2) gC rfl rfl rfl rfl rfl (by assumption) (by repeat (first|exact aq _ _|refine aT (a7 (by assumption)) ?_)) (by first|assumption|exact Step.lt (by assumption) (by assumption)|exact Step.lt (by assumption) (Step.lt (by assumption) (by assumption))) (fun Rw Rx qR pS Ry=>?_);refine ad (aj ?_);have h5:=h4.step pS;have hO:=h5.o;have hX:=h5.x;have hL:=h5.l;have hB:=h5.hb;have dy:=h5.lt;have hp0:=qR;apply T.Cd (M:=M2) (n:=85) _ mixed [] [b9.eq _,b9.eq _,b9.eq _,b9.eq _,b9.eq _,b9.ptr (RT.int .i64) d,b9.eq (.int .i64 d),b9.eq _,b9.eq _,b9.eq (.int .i64 (((d-bW (-1) (l.take (i+j))-1).toNat:Nat):Int)),b9.V (RT.u8.sl) (dz (-1) (l.take (i+j))++put (d-bW (-1) (l.take (i+j))-1).toNat),b9.eq _,b9.eq _]
      ·rfl
      ·rfl
      ·rfl
      ·rfl
      ·exact fun p hp=>by cases hp
      ·exact rO.none
      ·refine aF ?_ ?_
       ·intro wD E sD;refine aE cG rfl rfl rfl (bS sD (by assumption)) rfl ?_;exact ad ⟨rfl,rfl,_,rfl,rfl,an _ _⟩
       refine aF ?_ ?_
       ·intro wD E sD;refine aE cG rfl rfl rfl (bS sD (by assumption)) rfl ?_;exact ad ⟨rfl,rfl,_,rfl,rfl,an _ _⟩
       refine aF ?_ ?_
       ·intro wD E sD;refine aw (aR rfl ⟨_,rfl⟩ rfl ?_);exact ad ⟨rfl,rfl,_,rfl,rfl,an _ _⟩
       refine aF ?_ ?_
       ·intro wD E sD;refine aw (aS dv rfl rfl yS (by decide) rfl rfl ?_);exact ad ⟨rfl,rfl,_,rfl,rfl,an _ _⟩
       refine aF ?_ ?_
       ·intro wD E sD;refine aw (aE bm rfl rfl rfl (bS sD (by assumption)) rfl ?_);exact ad ⟨rfl,rfl,_,rfl,rfl,an _ _⟩
       refine aF ?_ ?_
       ·intro wD E sD;refine aJ (M:=M2) (A:=RT.po) (B:=RT.int .i64) bK rfl rfl I3 (by decide) (HG) rfl rfl (by decide) (by assumption) (by repeat (first|exact aq _ _|refine aT (a7 (by assumption)) ?_)) (fun abm Xz=>?_);exact ad ⟨rfl,rfl,_,rfl,by assumption,an _ _⟩
       refine aF ?_ ?_
       ·intro wD E sD;intro v5 ox;refine cd (M:=M2) ar rfl rfl (by assumption) (by repeat (first|exact aq _ _|refine aT (a7 (by assumption)) ?_)) (fun XA=>?_);exact ad ⟨rfl,rfl,_,rfl,rfl,an _ _⟩
       refine aF ?_ ?_
       ·intro wD E sD;refine aE ar rfl rfl rfl (bS sD (by assumption)) rfl ?_;exact ad ⟨rfl,rfl,_,rfl,rfl,an _ _⟩
       refine aF ?_ ?_
       ·intro wD E sD;refine aw (aw (gM rfl rfl rfl (by omega) ?_));exact ad ⟨rfl,rfl,_,rfl,rfl,an _ _⟩
       refine aF ?_ ?_
       ·intro wD E sD;refine aw (gM rfl rfl rfl (by omega) (bp (v':= .int .i64 (((d-bW (-1) (l.take (i+j))-1).toNat:Nat):Int)) (by congr 1;omega) ?_));exact ad ⟨rfl,rfl,_,rfl,rfl,an _ _⟩
       refine aF ?_ ?_
       ·intro wD E sD;refine aw (aw ?_);refine aM rfl rfl Lv (GN (M:=M2) (sD.lt dy) (hB.le sD.le) (by omega) (by omega)) (fun rP wP hP=>?_);exact ad ⟨rfl,rfl,_,rfl,hP.2,hP.1⟩
       refine aF ?_ ?_
       ·intro wD E sD;refine aw (aw (aw (aw (aw (aw ?_)))));intro v5 ox;refine aw (aw (aw (aw ?_)));intro v10 Nj;refine aR rfl ⟨_,rfl⟩ rfl ?_;exact ad ⟨rfl,rfl,_,rfl,rfl,an _ _⟩
       refine aF ?_ ?_
       ·intro wD E sD;refine aw (aw (aw (aw (aw (aw ?_)))));intro v5 ox;refine aw (aw (aw (aw ?_)));intro v10 Nj;refine aS dv rfl rfl yS (by decide) rfl rfl ?_;exact ad ⟨rfl,rfl,_,rfl,rfl,an _ _⟩
       exact bD.nil
      ·intro I8 jJ;refine aw (aw (aw (aw (aw ?_))));intro abn XB;refine aw (aw (aw (aw ?_)));intro XC CO;refine aw (aw ?_);have h6:=h5.step jJ;have hp6:=hp0.le (by decide) jJ.le;refine bP (M:=M2) yS rfl rfl h6.x rfl (km CO rfl rfl) h6.mx (fun Rz XD o7=>?_);refine ad ⟨rfl,?_⟩;have h7:=h6.Nf o7 XD (RT.V.le o7.le CO) h6.hk;have Ot:=hp6.le (by decide) o7.le;refine aj ?_;have hO:=h7.o;have hX:=h7.x;have hB:=h7.hb;have dy:=h7.lt;have fbl:(dz (-1) (l.take (i+j))++put (d-bW (-1) (l.take (i+j))-1).toNat).length≤35184372088832:=by rw[ftk]at ftl;simp only[bM]at ftl ⊢;omega
       apply T.JS (M:=M2) mixed [(13,fun k=>k=bx)] [b9.eq _,b9.eq _,b9.eq _,b9.eq _,b9.eq _,b9.ptr ((RT.int .i64).sl) ps,b9.V ((RT.int .i64).sl) ps,⟨fun t w=>∃x,t= .tuple #[x,.int .i64 0]∧(RT.u8.sl).V M2 w (dz (-1) (l.take (i+j))++put (d-bW (-1) (l.take (i+j))-1).toNat++dM ps) x,CY,fun⟨x,h1,h2⟩ s _=>⟨x,h1,h2.le s.le⟩⟩,⟨fun t w=>∃x,t= .tuple #[x,.int .i64 0]∧(RT.u8.sl).V M2 w (dz (-1) (l.take (i+j))++put (d-bW (-1) (l.take (i+j))-1).toNat++dM ps) x,CY,fun⟨x,h1,h2⟩ s _=>⟨x,h1,h2.le s.le⟩⟩,b9.V (RT.u8.sl) (dz (-1) (l.take (i+j))++put (d-bW (-1) (l.take (i+j))-1).toNat++dM ps),b9.eq (.int .i64 0),b9.eq _,b9.eq _,⟨fun _ w=>∃x,w.heap[bx]? =some (.cells #[x,vk,.int .i64 (gz (l.take (i+j)))] 193 (0,0))∧(RT.u8.sl).V M2 w (dz (-1) (l.take (i+j))++put (d-bW (-1) (l.take (i+j))-1).toNat++dM ps) x,fun k=>k≠bx,fun⟨x,h1,h2⟩ s hN=>⟨x,s.bE h1 (fun hb=>hN _ hb rfl),h2.le s.le⟩⟩]
       ·rfl
       ·intro p hp b hb;simp only[cn]at hp;subst hp
        cases hb;exact h7.mx
       ·exact⟨fun _ _ _ _=>trivial,⟨fun _ _ _ _=>trivial,⟨fun _ _ _ _=>trivial,⟨fun _ _ _ _=>trivial,⟨fun _ _ _ _=>trivial,⟨fun _ _ _ _=>trivial,⟨fun _ _ _ _=>trivial,⟨fun _ _ _ _=>trivial,⟨fun _ _ _ _=>trivial,⟨fun _ _ _ _=>trivial,⟨fun _ _ _ _=>trivial,⟨fun _ _ _ _=>trivial,⟨fun _ _ _ _=>trivial,⟨fun p hp=>by simp at hp,trivial⟩⟩⟩⟩⟩⟩⟩⟩⟩⟩⟩⟩⟩⟩
       ·refine aK ?_ ?_
        ·intro wD E sD;replace sD:Step M2 _ M2 wD aA:=sD;refine aE cG rfl rfl rfl (bS sD (by assumption)) rfl ?_;exact ad ⟨rfl,rfl,_,rfl,rfl,an _ _⟩
        refine aK ?_ ?_
        ·intro wD E sD;replace sD:Step M2 _ M2 wD aA:=sD;refine aE cG rfl rfl rfl (bS sD (by assumption)) rfl ?_;exact ad ⟨rfl,rfl,_,rfl,rfl,an _ _⟩
        refine aK ?_ ?_
        ·intro wD E sD;replace sD:Step M2 _ M2 wD aA:=sD;refine aw (aR rfl ⟨_,rfl⟩ rfl ?_);exact ad ⟨rfl,rfl,_,rfl,rfl,an _ _⟩
        refine aK ?_ ?_
        ·intro wD E sD;replace sD:Step M2 _ M2 wD aA:=sD;refine aw (aS dv rfl rfl yS (by decide) rfl rfl ?_);exact ad ⟨rfl,rfl,_,rfl,rfl,an _ _⟩
        refine aK ?_ ?_
        ·intro wD E sD;replace sD:Step M2 _ M2 wD aA:=sD;refine aw (aE bm rfl rfl rfl (bS sD (by assumption)) rfl ?_);exact ad ⟨rfl,rfl,_,rfl,rfl,an _ _⟩
        refine aK ?_ ?_
        ·intro wD E sD;replace sD:Step M2 _ M2 wD aA:=sD;refine aJ (M:=M2) (A:=RT.po) (B:=(RT.int .i64).sl) bK rfl rfl nZ (by decide) O8 rfl rfl (by decide) Ot sD.le (fun uf xV=>?_);exact ad ⟨rfl,rfl,_,rfl,xV,an _ _⟩
        refine aK ?_ ?_
        ·intro wD E sD;replace sD:Step M2 _ M2 wD aA:=sD;intro v5 ox;refine cg (M:=M2) av rfl rfl rfl rfl rfl (show ch ((RT.int .i64).sl) M2 wD v5 ps from ox) (aq _ _) (fun uf xV=>?_);exact ad ⟨rfl,rfl,_,rfl,xV,an _ _⟩
        refine aK ?_ ?_
        ·intro wD E sD;replace sD:Step M2 _ M2 wD aA:=sD;refine aw ?_;intro v6 ov;refine aM rfl rfl UD (tW (M:=M2) (sD.lt dy) (hB.le sD.le) (show((RT.int .i64).sl).V M2 wD ps v6 from ov) (by omega)) (fun rP wP hP=>?_);obtain⟨xP,sP,hP1,RA⟩:=hP;rw[if_pos f7]at hP1 RA;exact ad ⟨rfl,rfl,_,rfl,⟨xP,hP1,RA⟩,sP⟩
        refine aK ?_ ?_
        ·intro wD E sD;replace sD:Step M2 _ M2 wD aA:=sD;intro v7 Bd;refine ae rfl rfl ?_;exact ad ⟨rfl,rfl,_,rfl,Bd,an _ _⟩
        refine aK ?_ ?_
        ·intro wD E sD;replace sD:Step M2 _ M2 wD aA:=sD;intro v8 CJ;obtain⟨xP,rfl,RA⟩:=CJ;refine bO rfl rfl rfl ?_;exact ad ⟨rfl,rfl,_,rfl,RA,an _ _⟩
        refine aK ?_ ?_
        ·intro wD E sD;replace sD:Step M2 _ M2 wD (fun k=>k=bx):=sD;intro v8 CJ;obtain⟨xP,rfl,RA⟩:=CJ;refine bO rfl rfl rfl ?_;exact ad ⟨rfl,rfl,_,rfl,rfl,an _ _⟩
        refine aK ?_ ?_
        ·intro wD E sD;replace sD:Step M2 _ M2 wD (fun k=>k=bx):=sD;refine aw (aw (aw (aw (aw (aw ?_)))));intro v5 ox;intro v6 ov;intro v7 Bd;intro v8 CJ;intro v9 IC;refine aR rfl ⟨_,rfl⟩ rfl ?_;exact ad ⟨rfl,rfl,_,rfl,rfl,an _ _⟩
        refine aK ?_ ?_
        ·intro wD E sD;replace sD:Step M2 _ M2 wD aA:=sD;refine aw (aw (aw (aw (aw (aw ?_)))));intro v5 ox;intro v6 ov;intro v7 Bd;intro v8 CJ;intro v9 IC;refine aS dv rfl rfl yS (by decide) rfl rfl ?_;exact ad ⟨rfl,rfl,_,rfl,rfl,an _ _⟩
        refine aK ?_ ?_
        ·intro wD E sD;replace sD:Step M2 _ M2 wD aA:=sD;refine aw ?_;intro v9 IC;intro v7 Bd;refine aw (aw (aw (aw (aw ?_))));intro v5 ox;intro v6 ov;intro v7 Bd;intro v8 CJ;intro v9 IC;refine bP (M:=M2) yS rfl rfl (bS sD hX) rfl (km (A:=RT.u8.sl) IC rfl rfl) h7.mx (fun wS hXS sS=>?_);exact ad ⟨rfl,rfl,undef,rfl,⟨_,hXS,RT.V.le (A:=RT.u8.sl) sS.le IC⟩,sS⟩
        exact bX.nil
       ·intro GZ tZ;replace tZ:Step M2 _ M2 GZ (fun k=>k=bx):=tZ;refine aw (aw (aw (aw (aw ?_))));intro abp XE;intro abq XF;intro abr XG;intro abt XH;intro abu XI;refine aw (aw (aw ?_));intro XJ Jh;obtain⟨v12,XK,XL⟩:=Jh;have h8:=h7.Nf tZ XK XL h7.hk;have hp8:=Ot.le (by decide) tZ.le;refine aj ?_;have hO:=h8.o;have hX:=h8.x;apply T.Cd (M:=M2) (n:=85) _ mixed [] [b9.eq _,b9.eq _,b9.eq _,b9.eq _,b9.ptr ((RT.int .i64).sl) ps,b9.V ((RT.int .i64).sl) ps,b9.eq (.int .i64 ps.length),b9.eq _,b9.eq _,b9.eq _]
        ·rfl
        ·rfl
        ·rfl
        ·rfl
        ·exact fun p hp=>by cases hp
        ·exact rO.none
        ·refine aF ?_ ?_
         ·intro wD E sD;refine aE cG rfl rfl rfl (bS sD (by assumption)) rfl ?_;exact ad ⟨rfl,rfl,_,rfl,rfl,an _ _⟩
         refine aF ?_ ?_
         ·intro wD E sD;refine aw (aR rfl ⟨_,rfl⟩ rfl ?_);exact ad ⟨rfl,rfl,_,rfl,rfl,an _ _⟩
         refine aF ?_ ?_
         ·intro wD E sD;refine aw (aS dv rfl rfl I3 (by decide) rfl rfl ?_);exact ad ⟨rfl,rfl,_,rfl,rfl,an _ _⟩
         refine aF ?_ ?_
         ·intro wD E sD;refine aw (aE ar rfl rfl rfl (bS sD (by assumption)) rfl ?_);exact ad ⟨rfl,rfl,_,rfl,rfl,an _ _⟩
         refine aF ?_ ?_
         ·intro wD E sD;refine aJ (M:=M2) (A:=RT.po) (B:=(RT.int .i64).sl) bK rfl rfl nZ (by decide) O8 rfl rfl (by decide) hp8 sD.le (fun uf xV=>?_);exact ad ⟨rfl,rfl,_,rfl,xV,an _ _⟩
         refine aF ?_ ?_
         ·intro wD E sD;intro v4 qH;refine cg (M:=M2) av rfl rfl rfl rfl rfl (show ch ((RT.int .i64).sl) M2 wD v4 ps from qH) (aq _ _) (fun uf xV=>?_);exact ad ⟨rfl,rfl,_,rfl,xV,an _ _⟩
         refine aF ?_ ?_
         ·intro wD E sD;intro v5 ox;refine bU av rfl (show((RT.int .i64).sl).V M2 wD ps v5 from ox) rfl ?_;exact ad ⟨rfl,rfl,_,rfl,rfl,an _ _⟩
         refine aF ?_ ?_
         ·intro wD E sD;refine aw (aw (bz rfl rfl rfl (by omega) ?_));exact ad ⟨rfl,rfl,_,rfl,rfl,an _ _⟩
         refine aF ?_ ?_
         ·intro wD E sD;refine aw (aw (aw (aw (aw ?_))));intro v4 qH;intro v5 ox;refine aw (aw (aR rfl ⟨_,rfl⟩ rfl ?_));exact ad ⟨rfl,rfl,_,rfl,rfl,an _ _⟩
         refine aF ?_ ?_
         ·intro wD E sD;refine aw (aw (aw (aw (aw ?_))));intro v4 qH;intro v5 ox;refine aw (aw (aS dv rfl rfl I3 (by decide) rfl rfl ?_));exact ad ⟨rfl,rfl,_,rfl,rfl,an _ _⟩
         exact bD.nil
        ·intro L3 l6;refine aw (aw (aw (aw ?_)));intro abw XM;intro J9 xD;refine aw (aw (aw (aw ?_)));have h9:=h8.step l6;refine bP (M:=M2) I3 rfl rfl h9.x rfl rfl h9.mx (fun Om XN rS=>?_);refine ad ⟨rfl,?_⟩;have DJ:=h9.Nf rS XN (h9.hb.le rS.le) h9.hk;have XO:=(hp8.le (by decide) l6.le).le (by decide) rS.le;refine ah ?_;refine aJ (M:=M2) (A:=RT.po) (B:=RT.int .i64) bK rfl rfl I3 (by decide) HG rfl rfl (by decide) XO (aq _ _) (fun abx Nk=>?_);refine cd (M:=M2) ar rfl rfl Nk (aq _ _) (fun _=>?_);refine bp (v':= .int .i64 d) rfl ?_;refine bP (M:=M2) I3 rfl rfl DJ.l rfl rfl DJ.ml (fun Qn XP jy=>?_);have h11:=DJ.Jg jy XP;refine ad (ah (bz rfl rfl rfl (by omega) (ae rfl rfl (ad ?_))));refine⟨rfl,(j+1,v12),(.cons rfl (.cons rfl (.cons rfl (.cons rfl (.cons rfl (.cons rfl (.cons rfl .nil))))))),?_,?_⟩
         ·refine⟨by simp only;omega,?_,?_⟩
          ·exact jy.bE (rS.bE (l6.aG (tZ.bE (o7.bE (jJ.aG (pS.aG hQ)) (by omega)) (by omega))) (by omega)) (by omega)
          ·simp only;rw[show i+(j+1)=i+j+1 from by omega,ta hx,f5,ftk];exact h11
         ·simp only;omega
     ·refine cM (aj (ah ?_));obtain rfl:j=((l.drop i).take 8).length:=by omega
      have N1:M2 bq:=by rw[HJ];exact .inl rfl
      refine aE ar rfl rfl rfl h4.l rfl (aS (o':=2) j8 rfl rfl I3 (by decide) rfl rfl ?_);refine bP (M:=M2) I3 rfl rfl hQ rfl rfl N1 (fun Ji RB yn=>?_);have Oz:=h4.other yn O4 Tz;change Ji.heap[bq]? =some (.cells [.int .i64 (dz (-1) (l.take i)).length,.int .i64 (bW (-1) (l.take i)),.int .i64 (bW (-1) (l.take (i+((l.drop i).take 8).length))),.int .i64 ((l.drop i).take 8).length].toArray 195 (0,0))at RB;refine ad ?_;have hO:=Oz.o;have hX:=Oz.x;have Jj:=Oz.hk;have gV:∀k,vk.ownBlock=some k→k≠bo:=fun k hk=>by have:=(Jj.base k hk).1;omega
      have afe:=ak Oz.r;have g1:=jf l (-1) pR (by omega) i;have g2:=jf l (-1) pR (by omega) (i+((l.drop i).take 8).length);have g3:=k4 l i;apply T.Cd (M:=M2) (n:=85) _ mixed [(7,fun k=>vk.ownBlock=some k)] [b9.eq _,b9.eq _,b9.eq _,b9.eq _,b9.eq _,b9.eq (.agg [.int .i64 (dz (-1) (l.take i)).length,.int .i64 (bW (-1) (l.take i)),.int .i64 (bW (-1) (l.take (i+((l.drop i).take 8).length))),.int .i64 ((l.drop i).take 8).length].toArray),b9.V ((RT.bl).sl) [(((dz (-1) (l.take i)).length:Int),bW (-1) (l.take i),bW (-1) (l.take (i+((l.drop i).take 8).length)),(((l.drop i).take 8).length:Int))],⟨fun t w=>∃M3,Own RT.bl 195 M3 w (D+2) t (mJ l ((i+7)/8)++[(((dz (-1) (l.take i)).length:Int),bW (-1) (l.take i),bW (-1) (l.take (i+((l.drop i).take 8).length)),(((l.drop i).take 8).length:Int))])∧Step M2 Ji M3 w (fun k=>vk.ownBlock=some k),aA,fun⟨M3,h1,h2⟩ s hN=>⟨M3,h1.bg ((s.ca hN (fun _ h=>h.elim)).any M3),h2.ax ((s.ca hN (fun _ h=>h.elim)).any M3)⟩⟩,b9.eq _,b9.eq _]
      ·rfl
      ·rfl
      ·rfl
      ·rfl
      ·intro p hp b hb;simp only[cn]at hp;subst hp;exact Jj.mut_ b hb
      ·exact⟨fun _ _ _ _=>trivial,⟨fun _ _ _ _=>trivial,⟨fun _ _ _ _=>trivial,⟨fun _ _ _ _=>trivial,⟨fun _ _ _ _=>trivial,⟨fun _ _ _ _=>trivial,⟨fun _ _ _ _=>trivial,⟨fun p hp=>by simp at hp,⟨fun _ _ _ _=>trivial,⟨fun _ _ _ _=>trivial,trivial⟩⟩⟩⟩⟩⟩⟩⟩⟩⟩
      ·refine aF ?_ ?_
       ·intro wD E sD;replace sD:Step M2 _ M2 wD (fun k=>vk.ownBlock=some k):=sD;refine aE cG rfl rfl rfl (sD.bE hO (fun hb=>gV _ hb rfl)) rfl ?_;exact ad ⟨rfl,rfl,_,rfl,rfl,an _ _⟩
       refine aF ?_ ?_
       ·intro wD E sD;replace sD:Step M2 _ M2 wD (fun k=>vk.ownBlock=some k):=sD;refine aE cG rfl rfl rfl (sD.bE hO (fun hb=>gV _ hb rfl)) rfl ?_;exact ad ⟨rfl,rfl,_,rfl,rfl,an _ _⟩
       refine aF ?_ ?_
       ·intro wD E sD;replace sD:Step M2 _ M2 wD (fun k=>vk.ownBlock=some k):=sD;refine aw (aR rfl ⟨_,rfl⟩ rfl ?_);exact ad ⟨rfl,rfl,_,rfl,rfl,an _ _⟩
       refine aF ?_ ?_
       ·intro wD E sD;replace sD:Step M2 _ M2 wD (fun k=>vk.ownBlock=some k):=sD;refine aw (aS dv rfl rfl AR (by decide) rfl rfl ?_);exact ad ⟨rfl,rfl,_,rfl,rfl,an _ _⟩
       refine aF ?_ ?_
       ·intro wD E sD;replace sD:Step M2 _ M2 wD aA:=sD;refine aw (aE dT rfl rfl rfl (bS sD (by assumption)) rfl ?_);exact ad ⟨rfl,rfl,_,rfl,rfl,an _ _⟩
       refine aF ?_ ?_
       ·intro wD E sD;replace sD:Step M2 _ M2 wD (fun k=>vk.ownBlock=some k):=sD;refine gG (vs:=[.int .i64 (dz (-1) (l.take i)).length,.int .i64 (bW (-1) (l.take i)),.int .i64 (bW (-1) (l.take (i+((l.drop i).take 8).length))),.int .i64 ((l.drop i).take 8).length]) j8 rfl uO rfl rfl rfl (sD.bE RB (fun hb=>Tz _ hb rfl)) ?_;exact ad ⟨rfl,rfl,_,rfl,rfl,an _ _⟩
       refine aF ?_ ?_
       ·intro wD E sD;replace sD:Step M2 _ M2 wD aA:=sD;refine aw ?_;refine eW (A:=RT.bl) (hn:=by decide) (M:=M2) dT uO (by decide) rfl rfl (sD.lt Oz.lt) (Ul (by omega) (by omega) (by omega) (by omega)) (.inl rfl) (fun uS wS hS sS=>?_);exact ad ⟨rfl,rfl,_,rfl,hS,sS⟩
       refine aF ?_ ?_
       ·intro wD E sD;replace sD:Step M2 _ M2 wD aA:=sD;refine aw ?_;intro v6 ov;refine dh (M:=M2) (base:=D+2) dT uO rfl rfl rfl rfl (Jj.bg sD) (show((RT.bl).sl).V M2 wD [(((dz (-1) (l.take i)).length:Int),bW (-1) (l.take i),bW (-1) (l.take (i+((l.drop i).take 8).length)),(((l.drop i).take 8).length:Int))] v6 from ov) (aq _ _) (by simp[mJ];omega) (by simp[mJ];omega) (by have:=sD.size;omega) (fun v3 M3 w3 HP s3=>?_);exact ad ⟨rfl,rfl,_,rfl,⟨M3,HP,(sD.ca (fun _ h=>h.elim) Jj.mut_).trans s3 (fun b _ hb=>hb)⟩,s3.back⟩
       refine aF ?_ ?_
       ·intro wD E sD;replace sD:Step M2 _ M2 wD (fun k=>vk.ownBlock=some k):=sD;refine aw (aw (aw (aw (aw (aw (aw ?_))))));intro v6 ov;intro v7 Bd;refine aR rfl ⟨_,rfl⟩ rfl ?_;exact ad ⟨rfl,rfl,_,rfl,rfl,an _ _⟩
       refine aF ?_ ?_
       ·intro wD E sD;replace sD:Step M2 _ M2 wD (fun k=>vk.ownBlock=some k):=sD;refine aw (aw (aw (aw (aw (aw (aw ?_))))));intro v6 ov;intro v7 Bd;refine aS dv rfl rfl AR (by decide) rfl rfl ?_;exact ad ⟨rfl,rfl,_,rfl,rfl,an _ _⟩
       exact bD.nil
      ·intro XQ RC;replace RC:Step M2 _ M2 XQ (fun k=>vk.ownBlock=some k):=RC;refine aw (aw (aw (aw (aw (aw ?_)))));intro aby XR;intro abz Nl;refine aw (aw ?_);obtain⟨M3,HP,sR⟩:=Nl;obtain⟨⟨Ri,hm3,afg⟩,HF⟩:=Oz.grow sR HP;refine bP (M:=M3) AR rfl rfl Ri rfl (by obtain⟨_,_,he,_⟩:=HP.isSlice;rw[he];rfl) hm3 (fun w17 XS XT=>?_);refine ad ⟨rfl,?_⟩;have MW:=HF XT XS;have h18:=MW.mN (st':= .loop (rec .ready none)) MW.r;have hE:i+((l.drop i).take 8).length=min (i+8) l.length:=by omega
       rw[hE,EV (by omega) hi]at h18;exact⟨MW.r,true,rfl,fun _=>⟨M3,_,_,h18,by omega,by omega⟩,fun h=>by cases h⟩
  ·obtain⟨Mz,vb,vk,h,_,_⟩:=h3.resolve_right (fun h=>h);left;rw[List.take_length]at h;have h5:=h.mN (st':= .loop (rec .exhausted none)) h.r;refine⟨h.r,?_⟩;generalize w3.putObj (D+1) _=wE at h5 ⊢;refine aj (ah (aE cG rfl rfl rfl h5.o rfl (ai rfl rfl (ai rfl rfl (ad (aH ?_))))));obtain⟨q1,q2,q3,q4,q5,q6,q7,q8,q9,q10,q11,q12,q13,q14,q15,q16,q17,q18⟩:=h5.ne;have sZ:Step Mz wE Mz (wE.putObj D (.deferred none)) (fun k=>k=D):=dK h5.md;have SZ:=h5.S.cx sZ (fun k hk=>by subst hk;omega);have ht:=lZ l;refine Lh rfl rfl rfl h5.d ⟨SZ.back,fun _=>⟨_,rfl,?_⟩,fun hf=>by rw[pR]at hf;cases hf⟩;exact O9 (sZ.bE h5.x (by omega)) (fun hh=>by have:=hM _ hh;omega) ((h5.hb.le sZ.le).le (Le.close hM SZ)) (Own.close hM SZ ((h5.hk.step sZ (fun k hk hh=>by have:=(h5.hk.base k hk).1;omega)).qo (by omega)) (by simp[mJ];omega)) (by omega)
end Go.K
namespace Go.K
open Go.Proofs
namespace TKBldG
theorem jZ:TI Tryz.prog 107 (.slice none 0 0) 1 24:=by unfold TI;kernel_rfl
theorem BF:TI Tryz.prog 188 (.slice none 0 0) 1 24:=by unfold TI;kernel_rfl
theorem Jk:Enters Tryz.prog 126:=enters Tryz.func126 rfl (by decide)
theorem XU:Enters Tryz.prog 175:=enters Tryz.func175 rfl (by decide)
end TKBldG
open TKBldG
set_option maxRecDepth 10000
theorem index_spec {M:az} {l:List (List Po)} {v0:Value} {g:FuncId} {cap:List Value} {B:Nat} {J:Nat→az→World→Prop} {bad:List Po→Bool} (w0:World) (hM:Lt M w0) (hv:(((RT.po).sl).sl).V M w0 l v0) (hg:Enters Tryz.prog g) (hJ:J 0 M w0) (il:∀i M w M' w',J i M w→Step M w M' w' aA→J i M' w') (ht:∀i M w x vx,J i M w→Lt M w→l[i]? =some x→((RT.po).sl).V M w x vx→Spec Tryz.prog g ([vx]++cap).toArray w (fun v w'=>∃M',Lt M' w'∧v= .bool (bad x)∧(bad x=false→J (i+1) M' w')∧Step M w M' w' (jS M B))):
  Spec Tryz.prog 175 #[v0,.func (.func g) #[] cap.toArray] w0 (fun v w=>∃M' k,v= .int .i64 k∧ -1≤k∧Lt M' w∧Step M w0 M' w (jS M B)∧(k= -1→(∀x∈l,bad x=false)∧J l.length M' w)∧(0≤k→∃x∈l,bad x=true)):=by
 have hlen:=ed hv;refine aW (args:=[_,_]) (fn:=Tryz.f175) Tryz.func175 rfl (n:=19) Tryz.ntmps175 ?_;have S:Step M w0 M w0 (jS M B):=(an _ _).ca (fun _ h=>h.elim) (fun _ h=>h.2);refine aj (ah (ai rfl rfl (ad (aj (aj (ah (ae rfl rfl (bU Tryz.underlying56 rfl hv rfl (ae rfl rfl (ad (bj ?_)))))))))));refine dI (σ:=Nat) (fun q=>[(0,v0),(1,.func (.func g) #[] cap.toArray),(6,v0),(7,.int .i64 (l.length:Int)),(8,.int .i64 (q:Int))]) (fun q w=>∃M',Lt M' w∧Step M w0 M' w (jS M B)∧(((RT.po).sl).sl).V M' w l v0∧J q M' w∧q≤l.length∧∀x∈l.take q,bad x=false) (fun q=>l.length-q) 0 (.cons rfl (.cons rfl (.cons rfl (.cons rfl (.cons rfl .nil))))) ?_ ?_
 ·exact⟨M,hM,S,hv,hJ,bH _,fun x h=>by simp at h⟩
 ·clear hM S hv hJ;rintro i w ⟨M1,hM,S,hv,hJ,hi,iK⟩;refine aj (ah (cf rfl rfl rfl (ad (aj ?_))));refine bF rfl (fun c2=>?_) (fun c2=>?_)
  ·refine aU (aj (bj (aj (ah (ae rfl rfl (ai rfl rfl (ad (aj (ah (ae rfl rfl (ae rfl rfl ?_)))))))))));refine ae rfl rfl ?_;refine dq (M:=M1) Tryz.underlying56 jZ rfl rfl rfl hv (aq _ _) (by omega) (fun u x AU hu=>?_);rw[aC]at AU;refine cg (M:=M1) aX rfl rfl rfl rfl rfl hu (aq _ _) (fun vx qG=>?_);refine Rg.mV (first:=[]) (captured:=cap) (xs:=[.tmp 15]) rfl rfl rfl hg (ht i _ _ x vx hJ hM AU qG) (fun r4 w4 hc=>?_);obtain⟨M4,Nn,rfl,TB,s4⟩:=hc;refine bp (v':= .bool (decide (bad x=true))) (by simp) ?_;have S4:=S.trans s4 (fun k hk h=>⟨h.1,(S.mem k hk).1 h.2⟩);refine ad ?_;refine bF rfl (fun c4=>?_) (fun c4=>?_)
   ·refine aj (ah (ae rfl rfl (ai rfl rfl (ad (aH ?_)))));exact aP rfl rfl ⟨M4,_,rfl,by omega,Nn,S4,fun h=>absurd h (by omega),fun _=>⟨x,aN AU,c4⟩⟩
   ·refine aU (ah (bz rfl rfl rfl (by omega) (ae rfl rfl (ad ?_))));refine⟨rfl,i+1,(.cons rfl (.cons rfl (.cons rfl (.cons rfl (.cons rfl .nil))))),?_,?_⟩
    ·have hb:bad x=false:=by simpa using c4
     exact⟨M4,Nn,S4,hv.le s4.le,TB hb,by omega,fun y hy=>by
      rw[cr,AU,cY,cZ,cn]at hy;rcases hy with hy|rfl
      ·exact iK y hy
      ·exact hb⟩
    ·omega
  ·refine cM (aj (ah (ai rfl rfl (ad (aH ?_)))));rw[bI (by omega)]at iK;have e:i=l.length:=by omega
   subst e;exact aP rfl rfl ⟨_,_,rfl,by omega,hM,S,fun _=>⟨iK,hJ⟩,fun h=>absurd h (by omega)⟩
theorem vm {M:az} {l:List (List Po)} {v0:Value} {g:FuncId} {cap:List Value} {B:Nat} {J:Nat→az→World→Prop} {bad:List Po→Bool} (w0:World) (hM:Lt M w0) (hv:(((RT.po).sl).sl).V M w0 l v0) (hg:Enters Tryz.prog g) (hJ:J 0 M w0) (il:∀i M w M' w',J i M w→Step M w M' w' aA→J i M' w') (ht:∀i M w x vx,J i M w→Lt M w→l[i]? =some x→((RT.po).sl).V M w x vx→Spec Tryz.prog g ([vx]++cap).toArray w (fun v w'=>∃M',Lt M' w'∧v= .bool (bad x)∧(bad x=false→J (i+1) M' w')∧Step M w M' w' (jS M B))):
  Spec Tryz.prog 127 #[v0,.func (.func g) #[] cap.toArray] w0 (fun v w=>∃M' k,v= .bool (decide (0≤k))∧ -1≤k∧Lt M' w∧Step M w0 M' w (jS M B)∧(k= -1→(∀x∈l,bad x=false)∧J l.length M' w)∧(0≤k→∃x∈l,bad x=true)):=by
 refine aW (args:=[_,_]) (fn:=Tryz.f127) Tryz.func127 rfl (n:=9) Tryz.ntmps127 (aj (ah (ai rfl rfl (ad (aj (ah (ae rfl rfl (ae rfl rfl ?_))))))));refine aM rfl rfl XU (index_spec w0 hM hv hg hJ il ht) (fun r w1 hc=>?_);obtain⟨M1,k,rfl,hk,h2⟩:=hc;refine dA rfl rfl rfl (ai rfl rfl (ad (aH ?_)));exact aP rfl rfl ⟨M1,k,rfl,hk,h2⟩
def zY (x:List Po):Int:=match x.getLast? with|some p=>p.1|none=> -1
def la (n:Int) (x:List Po):Bool:= !dU (-1) x||x.isEmpty||decide (n≤zY x)
theorem zZ {x:List Po} {p:Po} (h:x[x.length-1]? =some p):zY x=p.1:=by
 unfold zY;rw[List.getLast?_eq_getElem?,h]
structure Room (x:List Po):Prop where
 ps:∀p∈x,p.2.length≤1099511627776
 by_:(dz (-1) x).length≤35184372088832
 ln:x.length≤1099511627776
 tot:gz x≤4611686018427387904
def RT.cell:RT Value where
 n:=1
 agg:=false
 R:=fun _ _ x vs=>vs=[x]∧x.oneCell'=true
 len:=by rintro _ _ x vs ⟨rfl,_⟩;rfl
 one:=by rintro _ _ x vs ⟨rfl,h⟩ v hv;simp at hv;subst hv;exact h
 le:=fun _ h=>h
theorem Jl {M:az} {w:World} {v:Value} (h:v.oneCell'=true):RT.cell.V M w v v:=⟨[v],⟨rfl,h⟩,rfl⟩
theorem ey.cells {α:Type} {A:RT α} (hA:A.n=1) {M:az} {w:World}:∀{xs:List α} {C:List Value},ey A M w xs C→∃ys:List Value,ey RT.cell M w ys C∧ys.length=xs.length
 |[],C,h=>⟨[],h,rfl⟩
 |x::xs,C,h=>by
  obtain⟨vs,r,h1,h2,h3⟩:=h;obtain⟨ys,h4,h5⟩:=ey.cells hA h3;have hl:=A.len h2
  match vs,hl,h1,h2 with
  |[v],_,h1,h2=>exact⟨v::ys,⟨[v],r,h1,⟨rfl,A.one h2 v (by simp)⟩,h4⟩,by simp[h5]⟩
  |[],hl,_,_=>simp at hl;omega
  |_::_::_,hl,_,_=>simp at hl;omega
theorem Own.cells {α:Type} {A:RT α} (hA:A.n=1) {e:TypeId} {M:az} {w:World} {base:Nat} {v:Value} {xs:List α} (h:Own A e M w base v xs):∃ys:List Value,Own RT.cell e M w base v ys∧ys.length=xs.length:=by
 obtain⟨⟨C,hr,ha⟩,hm⟩:=h;obtain⟨ys,h1,h2⟩:=ha.cells hA;exact⟨ys,⟨⟨C,by rw[h2,show RT.cell.n=A.n from hA.symm];exact hr,h1⟩,hm⟩,h2⟩
def vq (bl bn:Nat) (n:Int) (ls:List (List Po)) (B:Nat) (i:Nat) (M:az) (w:World):Prop:=∃vl,w.heap[bl]? =some (.cells #[vl] 188 (0,0))∧M bl∧B≤bl∧w.heap[bn]? =some (.cells #[.int .i64 n] 3 (0,0))∧M bn∧Own ((RT.li).ptr) 129 M w B vl ((ls.take i).map hU)
theorem vq.bg {bl bn:Nat} {n:Int} {ls:List (List Po)} {B i:Nat} {M M':az} {w w':World} (h:vq bl bn n ls B i M w) (s:Step M w M' w' aA):vq bl bn n ls B i M' w':=by
 obtain⟨vl,h1,h2,h3,h4,h5,h6⟩:=h;exact⟨vl,s.aG h1,(s.mem _ (ak h1)).2 h2,h3,s.aG h4,(s.mem _ (ak h4)).2 h5,h6.bg s⟩
theorem No {M:az} {bl bn B i:Nat} {n:Int} {ls:List (List Po)} {x:List Po} {v0:Value} (w0:World) (hM:Lt M w0) (hB:B≤w0.heap.size) (hJ:vq bl bn n ls B i M w0) (hx:ls[i]? =some x) (hv:((RT.po).sl).V M w0 x v0) (hr:Room x) (lS:i≤1000000000) (hm:dU (-1) x=true):
  Spec Tryz.prog 125 #[v0,.pointer (some ⟨bl,0,none⟩),.pointer (some ⟨bn,0,none⟩)] w0 (fun v w=>∃M',Lt M' w∧v= .bool (la n x)∧(la n x=false→vq bl bn n ls B (i+1) M' w)∧Step M w0 M' w (jS M B)):=by
 have hlen:=ed hv;obtain⟨vl,gl,jk,XV,gn,kE,ho⟩:=hJ;have nln:bl≠bn:=fun h=>by rw[h,gn]at gl;simp at gl
 refine aW (args:=[_,_,_]) (fn:=Tryz.f125) Tryz.func125 rfl (n:=34) Tryz.ntmps125 ?_;have S:Step M w0 M w0 (jS M B):=(an _ _).ca (fun _ h=>h.elim) (fun _ h=>h.2);refine aj (ah (ai rfl rfl (ad (aj (ah (ae rfl rfl ?_))))));refine aM rfl rfl Jk (qQ hM hv hr.ps hr.by_ hr.ln hr.tot) (fun r1 w1 hc=>?_);obtain⟨s1,eB,iK⟩:=hc;obtain⟨p,rfl,hp⟩:=eB hm;have:=ak gl;replace jk:=(s1.mem _ this).2 jk;replace gl:=s1.aG gl;have:=ak gn;replace kE:=(s1.mem _ this).2 kE;replace gn:=s1.aG gn;replace hv:=hv.le s1.le;replace ho:=ho.bg s1;replace hM:=s1.lt hM;have:=S.size;replace S:=S.ax s1;refine ae rfl rfl (bO rfl rfl rfl (bO rfl rfl rfl (ai rfl rfl (ai rfl rfl (ad (aj (ah (aE dS rfl rfl rfl gl rfl (bp (v':=vl) rfl (ae rfl rfl ?_))))))))));refine eW (A:=((RT.li).ptr)) (hn:=by decide) (M:=M) dS oR (by decide) rfl rfl hM (CG.2 hp) (.inr ⟨rfl,rfl⟩) (fun XW RD kF mP=>?_);have:=ak gl;replace jk:=(mP.mem _ this).2 jk;replace gl:=mP.aG gl;have:=ak gn;replace kE:=(mP.mem _ this).2 kE;replace gn:=mP.aG gn;replace hv:=hv.le mP.le;replace hp:=hp.le (by decide) mP.le;replace ho:=ho.bg mP;replace hM:=mP.lt hM;have:=S.size;replace S:=S.ax mP;refine dh (M:=M) (base:=B) dS oR rfl rfl rfl rfl ho kF (aq _ _) (by simp;omega) (by simp;omega) (by have:=S.size;omega) (fun Np Aa XX G0 mQ=>?_);have:=ak gl;replace jk:=(mQ.mem _ this).2 jk;replace gl:=mQ.bE gl (fun h=>by first|exact ho.dE gl h|exact ho.eL gl (by decide) h|(have:=(ho.base _ h).1;omega));have:=ak gn;replace kE:=(mQ.mem _ this).2 kE;replace gn:=mQ.bE gn (fun h=>by first|exact ho.dE gn h|exact ho.eL gn (by decide) h|(have:=(ho.base _ h).1;omega));replace hv:=hv.le mQ.le;replace hp:=hp.le (by decide) mQ.le
 replace kF:=kF.le mQ.le;replace hM:=mQ.lt hM;have:=S.size;replace S:=S.trans mQ (fun k hk h=>⟨(ho.base k h).1,(S.mem k hk).1 (ho.mut_ k h)⟩);replace ho:=G0;refine bP (M:=Aa) BF rfl rfl gl rfl (by obtain⟨_,_,he,_⟩:=ho.isSlice;rw[he];rfl) jk (fun Nq G1 lL=>?_);change Nq.heap[_]? =some (Obj.cells #[Np] _ _)at G1;have:=ak gl;replace jk:=(lL.mem _ this).2 jk;have:=ak gn;replace kE:=(lL.mem _ this).2 kE;replace gn:=lL.bE gn (fun hk=>by have hk:_=_:=hk;omega);replace hv:=hv.le lL.le;replace hp:=hp.le (by decide) lL.le;replace kF:=kF.le lL.le;replace ho:=ho.step lL (fun c hc (h:c=bl)=>ho.eL gl (by decide) (h▸hc));replace hM:=lL.lt hM;have:=S.size;replace S:=S.trans lL (fun k hk h=>by have h:_=_:=h;subst h;first|(exfalso;omega)|(show _≤_;omega)|exact⟨by first|omega|assumption,(S.mem _ hk).1 ((lL.mem _ (ak gl)).1 jk)⟩|exact .inl rfl|exact .inr rfl|exact .inr (.inl rfl)|exact .inr (.inr rfl)|exact rfl);have RE:=G1;clear gl;have gl:=RE;clear RE;refine ad (aj ?_);apply T.ki mixed rfl rfl;intro LM LN;have kI:=LN Aa;have:=ak gl;replace jk:=(kI.mem _ this).2 jk;replace gl:=kI.aG gl;have:=ak gn;replace kE:=(kI.mem _ this).2 kE;replace gn:=kI.aG gn;replace hv:=hv.le kI.le;replace hp:=hp.le (by decide) kI.le;replace kF:=kF.le kI.le;replace ho:=ho.bg kI;replace hM:=kI.lt hM;have:=S.size;replace S:=S.ax kI;refine ae rfl rfl ?_;refine ad ⟨rfl,rfl,rfl,?_⟩;refine eN rfl rfl rfl ?_;refine ad ⟨rfl,rfl,rfl,?_⟩;refine ae rfl rfl ?_;refine ad ⟨rfl,rfl,rfl,?_⟩;refine Rg.wR (g:=18) rfl ((by decide)) (al rfl rfl (ae rfl rfl ?_));refine ad ⟨rfl,rfl,rfl,?_⟩;refine al rfl rfl (bU aX rfl hv rfl ?_);refine ad ⟨rfl,rfl,rfl,?_⟩;refine al rfl rfl (Rg.Ay rfl rfl rfl ?_);refine ad ⟨rfl,rfl,rfl,?_⟩;refine ay rfl rfl rfl ?_;refine ad ⟨rfl,rfl,rfl,?_⟩
 refine ae rfl rfl ?_;refine ad ⟨rfl,rfl,rfl,?_⟩;refine aI (g:=23) rfl (fun Nr=>?_) (fun Nr=>?_)
 ·refine ao rfl rfl rfl rfl ?_;refine ad ⟨rfl,rfl,rfl,?_⟩;refine ao rfl rfl rfl rfl ?_;refine ad ⟨rfl,rfl,rfl,?_⟩;refine ao rfl rfl rfl rfl ?_;refine ad ⟨rfl,rfl,rfl,?_⟩;refine ao rfl rfl rfl rfl ?_;refine ad ⟨rfl,rfl,rfl,?_⟩;refine ao rfl rfl rfl rfl ?_;refine ad ⟨rfl,rfl,rfl,?_⟩;refine ao rfl rfl rfl rfl ?_;refine ad ⟨rfl,rfl,rfl,?_⟩;refine ao rfl rfl rfl rfl ?_;refine ad ⟨rfl,rfl,rfl,?_⟩;refine ao rfl rfl rfl rfl ?_;refine ad ⟨rfl,rfl,rfl,?_⟩;refine ao rfl rfl rfl rfl ?_;refine ad ⟨rfl,rfl,rfl,?_⟩;refine aQ rfl rfl rfl ?_;refine ad ⟨rfl,rfl,rfl,?_⟩;refine ai rfl rfl ?_;refine ad ⟨rfl,rfl,rfl,?_⟩;refine fE (aH ?_)
  first
  |(have DP:la n x=true:=by
     have:x=[]:=gh.1 (by omega);simp[la,this]
    rw[DP];exact aP rfl rfl ⟨_,hM,rfl,(fun h=>by cases h),S⟩)
  |(have eK:x.isEmpty=false:=by cases x with
     |nil=>simp at Nr
     |cons a t=>rfl
    have XY:la n x=decide (n≤q.1):=by unfold la;rw[hm,eK,zZ hq];rfl
    rw[XY];exact aP rfl rfl ⟨_,hM,rfl,fun _=>⟨_,gl,jk,XV,gn,kE,by rw[cr,hx,cY,jR];exact ho⟩,S⟩)
 ·refine al rfl rfl (ae rfl rfl ?_);refine ad ⟨rfl,rfl,rfl,?_⟩;refine al rfl rfl (ae rfl rfl ?_);refine ad ⟨rfl,rfl,rfl,?_⟩;refine al rfl rfl (bU aX rfl hv rfl ?_);refine ad ⟨rfl,rfl,rfl,?_⟩;refine al rfl rfl (gM rfl rfl rfl (by omega) ?_);refine ad ⟨rfl,rfl,rfl,?_⟩;refine al rfl rfl ?_;obtain⟨q,hq⟩:∃q,x[x.length-1]? =some q:=⟨_,aL (by omega)⟩;refine dq (M:=Aa) aX gC rfl rfl rfl hv (aq _ _) (by omega) (fun u3 a Mo hu3=>?_);obtain rfl:q=a:=bQ (hq.symm.trans (by rw[show((x.length:Int)-1).toNat=x.length-1 from by omega]at Mo;exact Mo));refine ad ⟨rfl,rfl,rfl,?_⟩;refine al rfl rfl ?_;refine aJ (M:=Aa) (A:=RT.po) (B:=RT.int .i64) bK rfl rfl I3 (by decide) (HG) rfl rfl (by decide) (by assumption) (by repeat (first|exact aq _ _|refine aT (a7 (by assumption)) ?_)) (fun abB XZ=>?_);refine ad ⟨rfl,rfl,rfl,?_⟩;refine al rfl rfl ?_;refine cd (M:=Aa) ar rfl rfl (by assumption) (by repeat (first|exact aq _ _|refine aT (a7 (by assumption)) ?_)) (fun G2=>?_);refine bp (v':= .int .i64 (q.1)) rfl ?_;replace G2: -9223372036854775808≤(q.1:Int)∧q.1≤9223372036854775807:=G2;refine ad ⟨rfl,rfl,rfl,?_⟩;refine al rfl rfl (aE ar rfl rfl rfl gn rfl (bp (v':= .int .i64 n) rfl ?_));refine ad ⟨rfl,rfl,rfl,?_⟩;refine al rfl rfl (dA rfl rfl rfl ?_);refine ad ⟨rfl,rfl,rfl,?_⟩;refine ay rfl rfl rfl ?_;refine ad ⟨rfl,rfl,rfl,?_⟩;refine ai rfl rfl ?_;refine ad ⟨rfl,rfl,rfl,?_⟩;refine fE (aH ?_)
  first
  |(have DP:la n x=true:=by
     have:x=[]:=gh.1 (by omega);simp[la,this]
    rw[DP];exact aP rfl rfl ⟨_,hM,rfl,(fun h=>by cases h),S⟩)
  |(have eK:x.isEmpty=false:=by cases x with
     |nil=>simp at Nr
     |cons a t=>rfl
    have XY:la n x=decide (n≤q.1):=by unfold la;rw[hm,eK,zZ hq];rfl
    rw[XY];exact aP rfl rfl ⟨_,hM,rfl,fun _=>⟨_,gl,jk,XV,gn,kE,by rw[cr,hx,cY,jR];exact ho⟩,S⟩)
theorem Jm {M:az} {bl bn B i:Nat} {n:Int} {ls:List (List Po)} {x:List Po} {v0:Value} (w0:World) (hM:Lt M w0) (hB:B≤w0.heap.size) (hJ:vq bl bn n ls B i M w0) (hx:ls[i]? =some x) (hv:((RT.po).sl).V M w0 x v0) (hr:Room x) (lS:i≤1000000000) (hm:dU (-1) x=false):
  Spec Tryz.prog 125 #[v0,.pointer (some ⟨bl,0,none⟩),.pointer (some ⟨bn,0,none⟩)] w0 (fun v w=>∃M',Lt M' w∧v= .bool (la n x)∧(la n x=false→vq bl bn n ls B (i+1) M' w)∧Step M w0 M' w (jS M B)):=by
 have hlen:=ed hv;obtain⟨vl,gl,jk,XV,gn,kE,ho0⟩:=hJ;have nln:bl≠bn:=fun h=>by rw[h,gn]at gl;simp at gl
 obtain⟨ys,ho,Oa⟩:=ho0.cells rfl;rw[cN,bG]at Oa;clear ho0;refine aW (args:=[_,_,_]) (fn:=Tryz.f125) Tryz.func125 rfl (n:=34) Tryz.ntmps125 ?_;have S:Step M w0 M w0 (jS M B):=(an _ _).ca (fun _ h=>h.elim) (fun _ h=>h.2);refine aj (ah (ai rfl rfl (ad (aj (ah (ae rfl rfl ?_))))));refine aM rfl rfl Jk (qQ hM hv hr.ps hr.by_ hr.ln hr.tot) (fun r1 w1 hc=>?_);obtain⟨s1,eB,iK⟩:=hc;obtain rfl:=iK hm;have:=ak gl;replace jk:=(s1.mem _ this).2 jk;replace gl:=s1.aG gl;have:=ak gn;replace kE:=(s1.mem _ this).2 kE;replace gn:=s1.aG gn;replace hv:=hv.le s1.le;replace ho:=ho.bg s1;replace hM:=s1.lt hM;have:=S.size;replace S:=S.ax s1;refine ae rfl rfl (bO rfl rfl rfl (bO rfl rfl rfl (ai rfl rfl (ai rfl rfl (ad (aj (ah (aE dS rfl rfl rfl gl rfl (bp (v':=vl) rfl (ae rfl rfl ?_))))))))));refine eW (A:=RT.cell) (hn:=by decide) (M:=M) dS oR (by decide) rfl rfl hM (Jl (v:= .pointer none) rfl) (.inr ⟨rfl,rfl⟩) (fun XW RD kF mP=>?_);have:=ak gl;replace jk:=(mP.mem _ this).2 jk;replace gl:=mP.aG gl;have:=ak gn;replace kE:=(mP.mem _ this).2 kE;replace gn:=mP.aG gn;replace hv:=hv.le mP.le;replace ho:=ho.bg mP;replace hM:=mP.lt hM;have:=S.size;replace S:=S.ax mP;refine dh (M:=M) (base:=B) dS oR rfl rfl rfl rfl ho kF (aq _ _) (by simp;omega) (by simp;omega) (by have:=S.size;omega) (fun Np Aa XX G0 mQ=>?_);have:=ak gl;replace jk:=(mQ.mem _ this).2 jk;replace gl:=mQ.bE gl (fun h=>by first|exact ho.dE gl h|exact ho.eL gl (by decide) h|(have:=(ho.base _ h).1;omega));have:=ak gn;replace kE:=(mQ.mem _ this).2 kE;replace gn:=mQ.bE gn (fun h=>by first|exact ho.dE gn h|exact ho.eL gn (by decide) h|(have:=(ho.base _ h).1;omega))
 replace hv:=hv.le mQ.le;replace kF:=kF.le mQ.le;replace hM:=mQ.lt hM;have:=S.size;replace S:=S.trans mQ (fun k hk h=>⟨(ho.base k h).1,(S.mem k hk).1 (ho.mut_ k h)⟩);replace ho:=G0;refine bP (M:=Aa) BF rfl rfl gl rfl (by obtain⟨_,_,he,_⟩:=ho.isSlice;rw[he];rfl) jk (fun Nq G1 lL=>?_);change Nq.heap[_]? =some (Obj.cells #[Np] _ _)at G1;have:=ak gl;replace jk:=(lL.mem _ this).2 jk;have:=ak gn;replace kE:=(lL.mem _ this).2 kE;replace gn:=lL.bE gn (fun hk=>by have hk:_=_:=hk;omega);replace hv:=hv.le lL.le;replace kF:=kF.le lL.le;replace ho:=ho.step lL (fun c hc (h:c=bl)=>ho.eL gl (by decide) (h▸hc));replace hM:=lL.lt hM;have:=S.size;replace S:=S.trans lL (fun k hk h=>by have h:_=_:=h;subst h;first|(exfalso;omega)|(show _≤_;omega)|exact⟨by first|omega|assumption,(S.mem _ hk).1 ((lL.mem _ (ak gl)).1 jk)⟩|exact .inl rfl|exact .inr rfl|exact .inr (.inl rfl)|exact .inr (.inr rfl)|exact rfl);have RE:=G1;clear gl;have gl:=RE;clear RE;refine ad (aj ?_);apply T.ki mixed rfl rfl;intro LM LN;have kI:=LN Aa;have:=ak gl;replace jk:=(kI.mem _ this).2 jk;replace gl:=kI.aG gl;have:=ak gn;replace kE:=(kI.mem _ this).2 kE;replace gn:=kI.aG gn;replace hv:=hv.le kI.le;replace kF:=kF.le kI.le;replace ho:=ho.bg kI;replace hM:=kI.lt hM;have:=S.size;replace S:=S.ax kI;refine ae rfl rfl ?_;refine ad ⟨rfl,rfl,rfl,?_⟩;refine eN rfl rfl rfl ?_;refine ad ⟨rfl,rfl,rfl,?_⟩;refine ae rfl rfl ?_;refine ad ⟨rfl,rfl,rfl,?_⟩;refine Rg.JK (g:=18) rfl ((by decide)) (ao rfl rfl rfl rfl ?_);refine ad ⟨rfl,rfl,rfl,?_⟩;refine ao rfl rfl rfl rfl ?_;refine ad ⟨rfl,rfl,rfl,?_⟩;refine ao rfl rfl rfl rfl ?_;refine ad ⟨rfl,rfl,rfl,?_⟩;refine aQ rfl rfl rfl ?_;refine ad ⟨rfl,rfl,rfl,?_⟩;refine ae rfl rfl ?_;refine ad ⟨rfl,rfl,rfl,?_⟩;refine ao rfl rfl rfl rfl ?_;refine ad ⟨rfl,rfl,rfl,?_⟩
 refine ao rfl rfl rfl rfl ?_;refine ad ⟨rfl,rfl,rfl,?_⟩;refine ao rfl rfl rfl rfl ?_;refine ad ⟨rfl,rfl,rfl,?_⟩;refine ao rfl rfl rfl rfl ?_;refine ad ⟨rfl,rfl,rfl,?_⟩;refine ao rfl rfl rfl rfl ?_;refine ad ⟨rfl,rfl,rfl,?_⟩;refine ao rfl rfl rfl rfl ?_;refine ad ⟨rfl,rfl,rfl,?_⟩;refine ao rfl rfl rfl rfl ?_;refine ad ⟨rfl,rfl,rfl,?_⟩;refine ao rfl rfl rfl rfl ?_;refine ad ⟨rfl,rfl,rfl,?_⟩;refine ao rfl rfl rfl rfl ?_;refine ad ⟨rfl,rfl,rfl,?_⟩;refine aQ rfl rfl rfl ?_;refine ad ⟨rfl,rfl,rfl,?_⟩;refine ai rfl rfl ?_;refine ad ⟨rfl,rfl,rfl,?_⟩;refine fE (aH ?_);have DP:la n x=true:=by simp[la,hm]
 rw[DP];exact aP rfl rfl ⟨_,hM,rfl,(fun h=>by cases h),S⟩
theorem G3 {M:az} {bl bn B i:Nat} {n:Int} {ls:List (List Po)} {x:List Po} {v0:Value} (w0:World) (hM:Lt M w0) (hB:B≤w0.heap.size) (hJ:vq bl bn n ls B i M w0) (hx:ls[i]? =some x) (hv:((RT.po).sl).V M w0 x v0) (hr:Room x) (lS:i≤1000000000):
  Spec Tryz.prog 125 #[v0,.pointer (some ⟨bl,0,none⟩),.pointer (some ⟨bn,0,none⟩)] w0 (fun v w=>∃M',Lt M' w∧v= .bool (la n x)∧(la n x=false→vq bl bn n ls B (i+1) M' w)∧Step M w0 M' w (jS M B)):=by
 cases hm:dU (-1) x with
 |true=>exact No w0 hM hB hJ hx hv hr lS hm
 |false=>exact Jm w0 hM hB hJ hx hv hr lS hm
end Go.K
namespace Go.K
open Go.Proofs
namespace TKBldH
theorem OA:TI Tryz.prog 56 (.slice none 0 0) 1 24:=by unfold TI;kernel_rfl
theorem TC:TI Tryz.prog 58 (.agg #[(.slice none 0 0),(.slice none 0 0),(.slice none 0 0),(.slice none 0 0)]) 4 96:=by unfold TI;kernel_rfl
theorem X0:TI Tryz.prog 125 (.agg #[(.slice none 0 0),(.slice none 0 0),(.pointer none)]) 3 56:=by unfold TI;kernel_rfl
theorem BF:TI Tryz.prog 188 (.slice none 0 0) 1 24:=by unfold TI;kernel_rfl
theorem X1:placesOf Tryz.prog 125=[(0,1),(1,1),(2,1)].map some:=by kernel_rfl
theorem Tu:Enters Tryz.prog 63:=enters Tryz.func63 rfl (by decide)
theorem E76:Enters Tryz.prog 76:=enters Tryz.func76 rfl (by decide)
theorem X2:Enters Tryz.prog 124:=enters Tryz.func124 rfl (by decide)
theorem X3:Enters Tryz.prog 125:=enters Tryz.func125 rfl (by decide)
theorem X4:Enters Tryz.prog 127:=enters Tryz.func127 rfl (by decide)
theorem X5:Enters Tryz.prog 128:=enters Tryz.func128 rfl (by decide)
end TKBldH
open TKBldH
set_option maxRecDepth 10000
def uD (p:Pa):Bool:=decide (p.1.length=p.2.1.length)&&eH (-1) p.2.1&&p.2.2.2.all (fun x=> !la (p.1.length:Int) x)&&decide (p.2.2.1.length=p.2.2.2.length)&&zQ none p.2.2.1
def Em (p:Pa):Se:=(p.1,p.2.1,p.2.2.1,p.2.2.2.map hU)
structure G4 (p:Pa):Prop where
 a:p.1.length≤1000000000
 b:p.2.1.length≤1000000000
 c:p.2.2.1.length≤1000000000
 d:p.2.2.2.length≤1000000000
 e:∀x∈p.2.2.2,Room x
theorem BG {M:az} {p:Pa} {v0:Value} (w0:World) (hM:Lt M w0) (hv:RT.pa.V M w0 p v0) (hR:G4 p):
  Spec Tryz.prog 76 #[v0] w0 (fun v w=>Step M w0 M w aA∧(uD p=true→ch RT.se M w v (Em p))∧(uD p=false→v= .pointer none)):=by
 have ku:=hM;obtain⟨hRa,hRb,hRc,hRd,hRe⟩:=hR;refine aW (args:=[_]) (fn:=Tryz.f76) Tryz.func76 rfl (n:=45) Tryz.ntmps76 ?_;have S:Step M w0 M w0 aA:=(an _ _).ca (fun _ h=>h.elim) (fun _ h=>h.elim);refine aj (ah ?_);refine jB (A:=RT.pa) rfl rfl hM hv rfl (fun u0 w1 cA s0 _=>?_);replace hM:=s0.lt hM;have:=S.size;replace S:=S.ax s0;refine ai rfl rfl (ad (aj (ah ?_)));refine aJ (M:=M) (A:=RT.pa) (B:=(RT.int .i64).sl) cC rfl rfl nZ (by decide) (pa0) rfl rfl (by decide) (by assumption) (by repeat (first|exact aq _ _|refine aT (a7 (by assumption)) ?_)) (fun uQ jN=>?_);refine cg (M:=M) av rfl rfl rfl rfl rfl (by assumption) (by repeat (first|exact aq _ _|refine aT (a7 (by assumption)) ?_)) (fun uR kT=>?_);replace kT:((RT.int .i64).sl).V M _ p.1 uR:=kT;refine bU av rfl kT rfl ?_;refine ff M I3 rfl (fun jW xA Qe Qf gm s1_3=>?_);obtain⟨jv,ny⟩:∃M',M'=ins M jW:=⟨_,rfl⟩;rw[←ny]at s1_3;have fk:jv jW:=by rw[ny];exact .inl rfl
 change xA.heap[jW]? =some (.cells #[.int .i64 0] _ _)at gm;replace cA:=cA.le (by decide) s1_3.le;replace hM:=s1_3.lt hM;have:=S.size;replace S:=S.ax s1_3;refine bP (M:=jv) I3 rfl rfl gm rfl (rfl) fk (fun Iv BH ia=>?_);change Iv.heap[_]? =some (Obj.cells #[.int .i64 (p.1.length:Int)] _ _)at BH;have:=ak gm;replace fk:=(ia.mem _ this).2 fk;replace cA:=cA.le (by decide) ia.le;replace hM:=ia.lt hM;have:=S.size;replace S:=S.trans ia (fun k hk h=>by have h:_=_:=h;subst h;first|(exfalso;omega)|(show _≤_;omega)|exact⟨by first|omega|assumption,(S.mem _ hk).1 ((ia.mem _ (ak gm)).1 fk)⟩|exact .inl rfl|exact .inr rfl|exact .inr (.inl rfl)|exact .inr (.inr rfl)|exact rfl);have rv:=BH;clear gm;have gm:=rv;clear rv;refine ad (aj (aj (ah ?_)));refine aJ (M:=jv) (A:=RT.pa) (B:=(RT.int .i64).sl) cC rfl rfl nZ (by decide) (Wg) rfl rfl (by decide) (by assumption) (by repeat (first|exact aq _ _|refine aT (a7 (by assumption)) ?_)) (fun afl abD=>?_);refine cg (M:=jv) av rfl rfl rfl rfl rfl (by assumption) (by repeat (first|exact aq _ _|refine aT (a7 (by assumption)) ?_)) (fun X6 G5=>?_);replace G5:((RT.int .i64).sl).V jv _ p.2.1 X6:=G5;refine bU av rfl G5 rfl (aE ar rfl rfl rfl gm rfl (bp (v':= .int .i64 (p.1.length:Int)) rfl (eN rfl rfl rfl (ae rfl rfl ?_))));refine aI (g:=16) rfl (fun X7=>?_) (fun X7=>?_)
 ·refine ao rfl rfl rfl rfl (ao rfl rfl rfl rfl (ao rfl rfl rfl rfl (ao rfl rfl rfl rfl (aQ rfl rfl rfl (ad (lO rfl (aj (ah (ai rfl rfl (ad (aH ?_)))))))))))
  have eb:uD p=false:=by
   unfold uD
   first
   |(rw[decide_eq_false (show¬p.1.length=p.2.1.length by omega)];simp;done)
   |(simp[c2];done)
  exact aP rfl rfl ⟨S.back,fun h=>by(rw[eb]at h;cases h),fun _=>rfl⟩
 ·have Ow:p.1.length=p.2.1.length:=by omega
  refine al rfl rfl ?_;refine aJ (M:=jv) (A:=RT.pa) (B:=(RT.int .i64).sl) cC rfl rfl nZ (by decide) (Wg) rfl rfl (by decide) (by assumption) (by repeat (first|exact aq _ _|refine aT (a7 (by assumption)) ?_)) (fun afm abE=>?_);refine al rfl rfl ?_;refine cg (M:=jv) av rfl rfl rfl rfl rfl (by assumption) (by repeat (first|exact aq _ _|refine aT (a7 (by assumption)) ?_)) (fun X8 G6=>?_);replace G6:((RT.int .i64).sl).V jv _ p.2.1 X8:=G6;refine al rfl rfl ?_;refine aM rfl rfl X2 (DM _ G6) (fun r wc hc=>?_);obtain⟨rfl,rfl⟩:=hc;refine al rfl rfl (Rg.not rfl rfl (bp (v':= .bool (decide (¬eH (-1) p.2.1=true))) (by simp) (ay rfl rfl rfl (ad ?_))));refine bF rfl (fun c2=>?_) (fun c2=>?_)
  ·refine aj (ah (ai rfl rfl (ad (aH ?_))))
   have eb:uD p=false:=by
    unfold uD
    first
    |(rw[decide_eq_false (show¬p.1.length=p.2.1.length by omega)];simp;done)
    |(simp[c2];done)
   exact aP rfl rfl ⟨S.back,fun h=>by(rw[eb]at h;cases h),fun _=>rfl⟩
  ·have er:eH (-1) p.2.1=true:=ec.1 c2;refine aU (aj (ah ?_));refine ff jv BF rfl (fun G7 Fl afn afo y3 jG=>?_);obtain⟨CP,G8⟩:∃M',M'=ins jv G7:=⟨_,rfl⟩;rw[←G8]at jG;have Nt:CP G7:=by rw[G8];exact .inl rfl
   change Fl.heap[G7]? =some (.cells #[.slice none 0 0] _ _)at y3;have:=ak gm;replace fk:=(jG.mem _ this).2 fk;replace gm:=jG.aG gm;replace cA:=cA.le (by decide) jG.le;replace hM:=jG.lt hM;have:=S.size;replace S:=S.ax jG;refine ad (aj (ah (iD (xs:=[]) (ys:=[.tmp 4,.tmp 3]) rfl rfl rfl (ai rfl rfl (ad (aj (aj (ah ?_))))))));refine aJ (M:=CP) (A:=RT.pa) (B:=((RT.po).sl).sl) cC rfl rfl OA (by decide) (pa3) rfl rfl (by decide) (by assumption) (by repeat (first|exact aq _ _|refine aT (a7 (by assumption)) ?_)) (fun Qh FG=>?_);refine cg (M:=CP) Tryz.underlying56 rfl rfl rfl rfl rfl (by assumption) (by repeat (first|exact aq _ _|refine aT (a7 (by assumption)) ?_)) (fun Mh tF=>?_);replace tF:(((RT.po).sl).sl).V CP _ p.2.2.2 Mh:=tF;refine ae rfl rfl ?_;refine aM rfl rfl X4 (vm (cap:=[.pointer (some ⟨G7,0,none⟩),.pointer (some ⟨jW,0,none⟩)]) (B:=w0.heap.size) (J:=vq G7 jW (p.1.length:Int) p.2.2.2 w0.heap.size) (bad:=la (p.1.length:Int)) _ hM tF X3 ⟨_,y3,Nt,by omega,gm,fk,eo _ _ _ _ _⟩ (fun i M w M' w' h s=>h.bg s) (fun i M w x vx hJ hM hx qG=>G3 w hM (by obtain⟨_,h1,_,h2,_⟩:=hJ;have:=ak h1;omega) hJ hx qG (hRe x (aN hx)) (by have:=(au.1 hx).1;omega))) (fun r6 w6 hc=>?_);obtain⟨M6,k6,rfl,hk6,GP,s6,hk7,hk8⟩:=hc;replace cA:=cA.le (by decide) s6.le;replace S:=S.kc s6 (a8 _);refine ad ?_;refine bF rfl (fun c6=>?_) (fun c6=>?_)
   ·obtain⟨x6,hx6,oa⟩:=hk8 c6
    have eb:uD p=false:=by
     unfold uD;have:p.2.2.2.all (fun x=> !la (p.1.length:Int) x)=false:=List.all_eq_false.2 ⟨x6,hx6,by simp[oa]⟩;simp[this]
    refine aj (ah (ai rfl rfl (ad (aH ?_))));exact aP rfl rfl ⟨S.back,fun h=>by(rw[eb]at h;cases h),fun _=>rfl⟩
   ·refine aU (aj (ah ?_));obtain⟨oa,⟨vl,gl,_,_,_,_,o5⟩⟩:=hk7 (by omega);rw[bI (a8 _)]at o5;have jo:(((RT.li).ptr).sl).V M w6 (p.2.2.2.map hU) vl:=o5.close ku S (by simp;omega);replace cA:ch RT.pa M w6 u0 p:=cA.le (by decide) (Le.close ku S);replace S:=S.back;replace hM:=S.lt ku;refine aJ (M:=M) (A:=RT.pa) (B:=RT.str.sl) cC rfl rfl HH (by decide) pa2 rfl rfl (by decide) cA (aq _ _) (fun afs abF=>?_);refine cg (M:=M) bh rfl rfl rfl rfl rfl (by assumption) (by repeat (first|exact aq _ _|refine aT (a7 (by assumption)) ?_)) (fun X9 G9=>?_);replace G9:(RT.str.sl).V M _ p.2.2.1 X9:=G9;refine aE dS rfl rfl rfl gl rfl (bp (v':=vl) rfl ?_);refine aM rfl rfl X5 (Bz _ hM G9 jo (by omega) (by simp;omega)) (fun r8 w8 hc=>?_);obtain⟨pd,rfl,HQ,s8⟩:=hc;replace cA:=cA.le (by decide) s8.le;replace jo:=jo.le s8.le;replace gl:=s8.aG gl;replace hM:=s8.lt hM;have:=S.size;replace S:=S.ax s8;refine ae rfl rfl (bO rfl rfl rfl (bO rfl rfl rfl (ai rfl rfl (ai rfl rfl (ad (aj (aj (ah (ae rfl rfl (eN rfl rfl rfl (ad ?_)))))))))));refine bF rfl (fun c9=>?_) (fun c9=>?_)
    ·have eb:uD p=false:=by
      by_cases h:uD p=true
      ·unfold uD at h;simp only[bC,decide_eq_true_eq]at h;exact absurd (by rw[if_pos ⟨by simp[h.1.2],h.2⟩]) c9
      ·simpa using h
     refine aj (ah (ai rfl rfl (ad (aH ?_))));exact aP rfl rfl ⟨S.back,fun h=>by(rw[eb]at h;cases h),fun _=>rfl⟩
    ·have e9:(p.2.2.1.length=(p.2.2.2.map hU).length∧zQ none p.2.2.1=true):=by
      by_cases h:(p.2.2.1.length=(p.2.2.2.map hU).length∧zQ none p.2.2.1=true)
      ·exact h
      ·exact absurd (by rw[if_neg h];decide) c9
     replace HQ:=HQ e9.1 e9.2;refine aU (aj ?_);apply T.JV [0,1,3,4,6,2,5,7,8,9] 5 [2,3,4] 2 aA mixed
     ·simp+decide only[uL,qw,iE,List.map_nil,uv,uw,List.map_toArray,fB,mR,List.idxOf_cons,cond_true,cond_false,Nat.reduceBEq,Nat.reduceAdd,beq_self_eq_true];rfl
     ·rfl
     ·rfl
     ·rfl
     ·rfl
     ·rfl
     ·rfl
     intro I8 MJ;have jJ:=MJ M;replace cA:=cA.le (by decide) jJ.le;replace jo:=jo.le jJ.le;replace gl:=jJ.aG gl;replace hM:=jJ.lt hM;have:=S.size;replace S:=S.ax jJ;refine aJ (M:=M) (A:=RT.pa) (B:=(RT.int .i64).sl) cC rfl rfl nZ (by decide) (pa0) rfl rfl (by decide) (by assumption) (by repeat (first|exact aq _ _|refine aT (a7 (by assumption)) ?_)) (fun Kd FJ=>?_);refine ad ⟨rfl,rfl,rfl,?_⟩;refine cg (M:=M) av rfl rfl rfl rfl rfl (by assumption) (by repeat (first|exact aq _ _|refine aT (a7 (by assumption)) ?_)) (fun RF BI=>?_);replace BI:((RT.int .i64).sl).V M _ p.1 RF:=BI;refine ad ⟨rfl,rfl,rfl,?_⟩;refine aJ (M:=M) (A:=RT.pa) (B:=(RT.int .i64).sl) cC rfl rfl nZ (by decide) (Wg) rfl rfl (by decide) (by assumption) (by repeat (first|exact aq _ _|refine aT (a7 (by assumption)) ?_)) (fun abG Nu=>?_);refine ad ⟨rfl,rfl,rfl,?_⟩;refine cg (M:=M) av rfl rfl rfl rfl rfl (by assumption) (by repeat (first|exact aq _ _|refine aT (a7 (by assumption)) ?_)) (fun RG mf=>?_);replace mf:((RT.int .i64).sl).V M _ p.2.1 RG:=mf;refine ad ⟨rfl,rfl,rfl,?_⟩;refine ae rfl rfl ?_;refine ad ⟨rfl,rfl,rfl,?_⟩;refine fE ?_;obtain⟨bb,oo,cs,ee,fr,rfl,lv,_⟩:=Nu.float;refine⟨jP ⟨gq cC rfl nZ (by decide),⟨ep rfl lv (fun h=>h),⟨gr,trivial⟩⟩⟩,?_⟩;have kp:=jw aA I8;refine aM rfl rfl Tu (tR hM BI (by omega)) (fun v5 w5 hc=>?_);obtain⟨ox,s5⟩:=hc;replace mf:=mf.le s5.le;replace HQ:=(HQ.le (by decide) jJ.le).le (by decide) s5.le;replace cA:=cA.le (by decide) s5.le;replace jo:=jo.le s5.le;replace gl:=s5.aG gl;replace hM:=s5.lt hM;have:=S.size;replace S:=S.ax s5;refine(fun(kp:dR _ _ _)=>ad ⟨rfl,rfl,fun _=>kp,?_⟩) (by first|exact kp|exact kp.qu (by assumption)|exact kp.goN (by assumption)|exact kp.go (by assumption) (fun _ _ h=>by first|exact h|exact h.elim))
     refine aM rfl rfl Tu (tR hM mf (by omega)) (fun v6 w6' hc=>?_);obtain⟨ov,Kz⟩:=hc;replace cA:=cA.le (by decide) Kz.le;replace jo:=jo.le Kz.le;replace ox:=ox.le Kz.le;replace mf:=mf.le Kz.le;replace HQ:=HQ.le (by decide) Kz.le;replace gl:=Kz.aG gl;replace hM:=Kz.lt hM;have:=S.size;replace S:=S.ax Kz;refine(fun(kp:dR _ _ _)=>ad ⟨rfl,rfl,fun _=>kp,?_⟩) (by first|exact kp|exact kp.qu (by assumption)|exact kp.goN (by assumption)|exact kp.go (by assumption) (fun _ _ h=>by first|exact h|exact h.elim));refine dX (places:=[(0,1),(1,1),(2,1)]) Tryz.underlying125 X0 X1 rfl ⟨_,_,rfl,rfl,_,_,rfl,rfl,_,_,rfl,rfl,rfl⟩ (out:=[_,_,_]) ⟨0,[_],rfl,iI ox,by simp[Value.cells],1,[_],rfl,iI ov,by simp[Value.cells],2,[_],rfl,qP HQ,by simp[Value.cells],rfl⟩ ?_;refine ad ⟨rfl,rfl,fun h=>absurd rfl h,?_⟩;refine jB (A:=RT.se) (a:=Em p) rfl rfl hM (Wh (x:=Em p) ox ov HQ) rfl (fun u8 w8' hu8 Jn _=>?_);replace cA:=cA.le (by decide) Jn.le;replace jo:=jo.le Jn.le;replace ox:=ox.le Jn.le;replace mf:=mf.le Jn.le;replace HQ:=HQ.le (by decide) Jn.le;replace ov:=ov.le Jn.le;replace gl:=Jn.aG gl;replace hM:=Jn.lt hM;have:=S.size;replace S:=S.ax Jn;refine ad ⟨rfl,rfl,fun h=>absurd rfl h,?_⟩;refine ai rfl rfl ?_;refine ad ⟨rfl,rfl,fun h=>absurd rfl h,?_⟩;refine uE (aH ?_)
     have eb:uD p=true:=by
      unfold uD;rw[decide_eq_true Ow,er,e9.2,decide_eq_true (by simpa using e9.1),dD.2 (fun x hx=>by simp[oa x hx])];rfl
     exact aP rfl rfl ⟨S.back,fun _=>hu8,fun h=>by(rw[eb]at h;cases h)⟩
theorem BJ {M:az} {p:Pa} {v0:Value} (w0:World) (hM:Lt M w0) (hv:RT.pa.V M w0 p v0) (hR:G4 p):
  Spec Tryz.prog 27 #[v0] w0 (fun v w=>Step M w0 M w aA∧(uD p=true→∃s,v= .tuple #[s,.int .i64 0]∧ch RT.se M w s (Em p))∧(uD p=false→v= .tuple #[.pointer none,.int .i64 1])):=by
 refine aW (args:=[_]) (fn:=Tryz.f27) Tryz.func27 rfl (n:=10) Tryz.ntmps27 ?_;have S:Step M w0 M w0 aA:=(an _ _).ca (fun _ h=>h.elim) (fun _ h=>h.elim);refine aj (ah ?_);refine jB (A:=RT.pa) rfl rfl hM hv rfl (fun u0 w1 cA s0 _=>?_);replace hM:=s0.lt hM;have:=S.size;replace S:=S.ax s0;refine ai rfl rfl (ai rfl rfl (ad (aj (ah ?_))));refine cw (M:=M) (A:=RT.pa) cC rfl TC (by decide) rfl rfl rfl cA (aq _ _) (fun v1 gF=>?_);refine aM rfl rfl E76 (BG _ hM gF hR) (fun r1 w2 hc=>?_);obtain⟨s2,eB,iK⟩:=hc
 obtain⟨o1,Tt⟩:∃o,r1= .pointer o:=by
  cases h:uD p with
  |true=>obtain⟨b,o,_,h1,_⟩:=eB h;exact⟨_,h1⟩
  |false=>exact⟨none,iK h⟩
 subst Tt;replace cA:=cA.le (by decide) s2.le;replace hM:=s2.lt hM;have:=S.size;replace S:=S.ax s2;refine ai rfl rfl (ad (aj (aj (ah (ae rfl rfl (Rg.pz Tryz.underlying25 rfl rfl rfl (ad ?_)))))));refine bF rfl (fun c2=>?_) (fun c2=>?_)
 ·refine aj (ah (ai rfl rfl (ai rfl rfl (ad (aH ?_)))))
  have eb:uD p=false:=by
   by_cases h:uD p=true
   ·obtain⟨b,o,_,h1,_⟩:=eB h;rw[c2]at h1;cases h1
   ·simpa using h
  exact ez rfl rfl rfl ⟨S.back,fun h=>by(rw[eb]at h;cases h),fun _=>rfl⟩
 ·refine aU (aj (ah (ae rfl rfl (ai rfl rfl (ai rfl rfl (ad (aH ?_)))))))
  have eb:uD p=true:=by
   by_cases h:uD p=true
   ·exact h
   ·have:=iK (by simpa using h);simp at this;exact absurd this c2
  exact ez rfl rfl rfl ⟨S.back,fun _=>⟨_,rfl,eB eb⟩,fun h=>by(rw[eb]at h;cases h)⟩
end Go.K
namespace Go.K
section
variable {P:Program} {r:Option Nat} {n:Nat} {L:Sl} {ds:List Deferred} {w:World} {K:Kt} {M:az} {F:List (Nat×az)}
def pT (l:List Oper) (m q d:Nat):Bool:=
 Nat.blt q m&&kS l [q] m ((l[m]?.map bV).getD [])&&je l (m+1)&&
 ((List.range' m (l.length-m)).all fun j=>match l[j]? with
  |some o=>oN o.op&&(!(asks l o).contains d||(bV o).contains q)
  |none=>true)
theorem rG {l:List Oper} {m q d:Nat} (h:pT l m q d=true):q<m∧kS l [q] m ((l[m]?.map bV).getD [])=true∧je l (m+1)=true∧∀j o,m≤j→l[j]? =some o→oN o.op=true∧(d∈asks l o→q∈bV o):=by
 simp only[pT,bC,Nat.blt_eq]at h;obtain⟨⟨⟨h1,h2⟩,h3⟩,h4⟩:=h;refine⟨h1,h2,h3,fun j o hj ho=>?_⟩;have dy:=(au.1 ho).1;have:=dD.1 h4 j (List.mem_range'_1.2 ⟨hj,by omega⟩);rw[ho]at this;simp only[bC,Bool.or_eq_true,oI,gO]at this;refine⟨this.1,fun hd=>?_⟩;rcases this.2 with h|h
 ·rw[←Bool.not_eq_true,gO]at h;exact absurd hd h
 ·exact h
structure TJ (P:Program) (r:Option Nat) (n:Nat) (l:List Oper) (m q d:Nat) (c:Value) (L:Sl) (K:Kt) (ds:List Deferred) (D:Nat→Prop) (a:Act) (w:World) (p:Nat) (ac:Act) (Lp:Sl) (wq:World):Prop where
 p0:m≤p
 p1:p≤l.length
 dt:∀i,i<l.length→i≠q→(D i↔i<p)
 ag:fG n ac Lp ds
 tr:rQ P r n l.toArray aA wq K 0 (l.drop p) Lp ds w
 yes:D q→a=ac
 no: ¬D q→ac=a.put (some d) c∧∀t u,lk (iJ l q L) t=some u→a.tmps[t]? =some u
theorem put_comm (a:Act) {d:Nat} {e:Option Nat} (h:e≠some d) (c v:Value):(a.put (some d) c).put e v=(a.put e v).put (some d) c:=by
 cases e with
 |none=>rfl
 |some e=>
  have eK:e≠d:=fun h'=>h (by rw[h'])
  simp only[Act.put];congr 1;apply Array.ext_getElem?;intro i;simp only[cJ,Array.size_setIfInBounds];by_cases h1:e=i<;>by_cases h2:d=i<;>simp_all
theorem wC (a:Act) {d t:Nat} (c:Value) (h:t≠d):(a.put (some d) c).tmps[t]? =a.tmps[t]? :=by rw[ef,if_neg (fun e=>h (by injection e with e;exact e.symm))]
theorem TJ.next {l:List Oper} {m q d:Nat} {c:Value} (ck:dL l 0=true) (eB:pT l m q d=true) {oq:Oper} (hq:l[q]? =some oq) (BK:oq.dst=some d) (Nv:gT oq.op=true) (Jo:oq.guard=none)
  (fY:∀(ρ:Operand→Value) w,(∀x u,ev (iJ l q L) x=some u→ρ x=u)→(execOp ρ oq).run P w= .ok (.value c) w)
  {Q:Exit→Act→World→Prop} {D:Nat→Prop} {a:Act} {w:World} {j:Nat} {o:Oper} {rest:List Nat} (ho:l[j]? =some o) (kQ: ¬D j) (hp:∀k∈bV o,D k) {p:Nat} {ac:Act} {Lp:Sl} {wq:World} (hi:TJ P r n l m q d c L K ds D a w p ac Lp wq)
  (hk:∀a' w',(∃p ac Lp wq,TJ P r n l m q d c L K ds (fun i=>i=j∨D i) a' w' p ac Lp wq)→wpOpsIn (FW r) 0 P l.toArray Q rest a' w'):wpOpsIn (FW r) 0 P l.toArray Q (j::rest) a w:=by
 obtain⟨hqm,_,sK,Ed⟩:=rG eB;have oK:=(au.1 ho).1;by_cases TD:j=q
 ·subst TD;rw[hq]at ho;cases ho;obtain⟨CQ,ik⟩:=hi.no kQ;refine One.run (by simpa using hq) Nv (v:=c) ?_ (hk _ _ ⟨p,ac,Lp,wq,hi.p0,hi.p1,fun i h1 h2=>⟨fun h=>(hi.dt i h1 h2).1 (h.resolve_left h2),fun h=> .inr ((hi.dt i h1 h2).2 h)⟩,hi.ag,hi.tr,fun _=>by rw[CQ,BK],fun h=>absurd (.inl rfl) h⟩);unfold One;rw[if_pos (by simp[Region.wanted,Jo])];refine fY a.eval w fun x u hx=> ?_
  cases x with
  |tmp t=>simp only[ev]at hx;simp[Act.eval,ik t u hx]
  |const v=>simp only[ev]at hx;cases hx;rfl
  |global g=>simp only[ev]at hx;cases hx;rfl
  |func f=>simp only[ev]at hx;cases hx;rfl
 ·have O3:j=p:=by
   have h1:p≤j:=by
    rcases cB j p with h|h
    ·exact absurd ((hi.dt j oK TD).2 h) kQ
    ·exact h
   have:=hi.p0;rcases cB m j with h|h
   ·have h2:=hp _ (gY sK (j:=j) (by omega) ho);have:=(hi.dt (j-1) (by omega) (by omega)).1 h2;omega
   ·omega
  subst O3;obtain⟨K9,hta⟩:=Ed j o hi.p0 ho;have xa:o.dst≠some d:=fun h=>TD (dw ck ho hq h BK)
  have uy:∀t∈asks l o,a.tmps[t]? =ac.tmps[t]? :=fun t ht=>by
   by_cases hD:D q
   ·rw[hi.yes hD]
   ·rw[(hi.no hD).1,wC];rintro rfl;exact hD (hp q (hta ht))
  obtain⟨yu,uz⟩:=iq uy
  have SU:a.defers=ac.defers:=by
   by_cases hD:D q
   ·rw[hi.yes hD]
   ·rw[(hi.no hD).1,put_defers]
  have qf:=hi.tr;rw[de oK,(au.1 ho).2]at qf;have h1:=Rg.run qf ac hi.ag;refine sM (by simpa using ho) K9 yu uz SU h1 (fun e a w ⟨_,_,_,he,_⟩=>he) (fun v w' ⟨L',j9,hA,_,AH,_,EL⟩=>?_) (fun d' w' ⟨L',j9,hA,_,AH,_⟩=>?_)
  ·rw[AH]at hA;refine hk _ _ ⟨j+1,ac.put o.dst v,L',wq,by have:=hi.p0;omega,by omega,fun i h3 h4=>?_,hA,EL,fun h=>?_,fun h=>?_⟩
   ·constructor
    ·rintro(h|h)
     ·omega
     ·have:=(hi.dt i h3 h4).1 h;omega
    ·intro h;rcases dO (show i≤j by omega)with h5|h5
     ·exact .inl h5
     ·exact .inr ((hi.dt i h3 h4).2 h5)
   ·rw[hi.yes (h.resolve_left (fun e=>TD e.symm))]
   ·have hD: ¬D q:=fun h'=>h (.inr h')
    obtain⟨CQ,ik⟩:=hi.no hD;refine⟨by rw[CQ,put_comm a xa],fun t u ht=>?_⟩;obtain⟨h3,h4⟩:=im (f:=jn l q) ht;rw[ef,if_neg,ik t u ht];intro e;simp only[jn,dD]at h3;have:=h3 o (aN ho);simp only[e,beq_self_eq_true,Bool.not_true,Bool.false_or,gO]at this;exact hD (hp q this)
  ·have h3:=hA.defers;rw[put_defers,AH]at h3;have h4:=congrArg List.length h3;rw[hi.ag.defers]at h4;simp at h4
theorem fX.Nw {l:List Oper} {wd:World} (m q d:Nat) (c:Value) {oq:Oper} (F:List (Nat×az)) (S:List (b9 M)) (K5:S.length=m) (o4:Nat.blt m l.length=true) (ck:dL l 0=true) (eB:pT l m q d=true)
  (hq:l[q]? =some oq) (BK:oq.dst=some d) (Nv:gT oq.op=true) (Jo:oq.guard=none) (hS:S[q]? =some (b9.eq c)) (fY:∀(ρ:Operand→Value) w,(∀x u,ev (iJ l q L) x=some u→ρ x=u)→(execOp ρ oq).run P w= .ok (.value c) w)
  (lR:∀p∈F,∀b,p.2 b→M b) (hFq:∀p∈F,p.1≠q) (re:yw F l S) (rf:bD P r n F wd l S ds L l S 0)
  (jd:∀w',Step M wd M w' (gK (F.map (·.2)))→fK w' (fun acc=>rQ P r n l.toArray aA w' K 0 (l.drop m) (acc++iJ l l.length L) ds w') l S []):fX P r n l L ds wd K:=by
 intro a0 ha;obtain⟨hqm,yC,sK,Ed⟩:=rG eB;have RH:m<l.length:=by simpa[Nat.blt_eq]using o4
 have start:∀(D:Nat→Prop) a w,(∀i,i<m→i≠q→D i)→(∀i,m≤i→i<l.length→¬D i)→(∀i o,l[i]? =some o→D i→∀k∈bV o,D k)→Inv F S l wd L ds n (fun i=>D i∧i<l.length) a w→∃p ac Lp wq,TJ P r n l m q d c L K ds D a w p ac Lp wq:=by
  intro D a w kK iK jM hi
  obtain⟨ac,CQ⟩:∃ac,(D q→a=ac)∧(¬D q→ac=a.put (some d) c):=by
   by_cases hD:D q
   ·exact⟨a,fun _=>rfl,fun h=>absurd hD h⟩
   ·exact⟨_,fun h=>absurd h hD,fun _=>rfl⟩
  have hqn:d<n∨n≤d:=cB d n
  have jx:n≤ac.tmps.size:=by
   by_cases hD:D q
   ·rw[←CQ.1 hD];exact hi.size
   ·rw[CQ.2 hD,iL];exact hi.size
  have SU:ac.defers=ds:=by
   by_cases hD:D q
   ·rw[←CQ.1 hD];exact hi.defers
   ·rw[CQ.2 hD,put_defers];exact hi.defers
  have Ha:∀t,t≠d→ac.tmps[t]? =a.tmps[t]? :=fun t ht=>by
   by_cases hD:D q
   ·rw[←CQ.1 hD]
   ·rw[CQ.2 hD,wC a c ht]
  have Ya:d<a.tmps.size:=by
   have hg:=rf.take.get q oq (by rw[dr,K5,if_pos hqm];exact hq);by_cases hD:D q
   ·obtain⟨v,h1,_⟩:=hi.done q oq (b9.eq c) d hq hS ⟨hD,by omega⟩ BK;exact(Array.getElem?_eq_some_iff.1 h1).1
   ·refine Classical.byContradiction fun yg=> ?_
    obtain⟨s,hs,RI⟩:=hg;rw[Nat.zero_add]at RI;rw[hS]at hs;cases hs
    have hpq:∀k∈bV oq,D k:=fun k hk=>by
     have:=b4 ck q oq hq k hk;exact kK k (by omega) (by omega)
    have:=Inv.next (r:=r) (P:=P) hi ck re lR (rest:=[]) (Q:=fun _ a' _=>n≤a'.tmps.size∧∃v,a'.tmps[d]? =some v) ⟨b9.eq c,hS,RI⟩ hq (fun h=>hD h.1) (fun k hk=>⟨hpq k hk,by have:=b4 ck q oq hq k hk;omega⟩) (fun a' w' fJ=>by
     obtain⟨v,h1,_⟩:=fJ.done q oq (b9.eq c) d hq hS (.inl rfl) BK;exact⟨fJ.size,v,h1⟩)
    have qn:One P r l.toArray w oq a c:=by
     unfold One;rw[if_pos (by simp[Region.wanted,Jo])];refine fY a.eval w fun x u hx=> ?_
     have ik:∀t u,lk (iJ l q L) t=some u→a.tmps[t]? =some u:=fun t u ht=>by
      obtain⟨h3,h4⟩:=im (f:=jn l q) ht;refine hi.base t u h4 fun i o eA uB he=> ?_
      simp only[jn,dD]at h3;have:=h3 o (aN eA);simp only[he,beq_self_eq_true,Bool.not_true,Bool.false_or,gO]at this;exact hD (jM i o eA uB.1 q this)
     cases x with
     |tmp t=>simp only[ev]at hx;simp[Act.eval,ik t u hx]
     |const v=>simp only[ev]at hx;cases hx;rfl
     |global g=>simp only[ev]at hx;cases hx;rfl
     |func f=>simp only[ev]at hx;cases hx;rfl
    simp only[wpOpsIn,j5,hq]at this;rw[if_pos (by simp[Region.wanted,Jo])]at this;obtain⟨_,h2⟩:=this;unfold One at qn;rw[if_pos (by simp[Region.wanted,Jo])]at qn;rw[Oper.semAt_eq _ _ _ (kh Nv),qn]at h2;rw[Oper.uponIn_value]at h2;obtain⟨_,v,h3⟩:=h2;rw[BK]at h3;have:=(Array.getElem?_eq_some_iff.1 h3).1;simp[Act.put]at this;exact yg this
  have Yb:∃v,ac.tmps[d]? =some v∧v=c:=by
   by_cases hD:D q
   ·rw[←CQ.1 hD];obtain⟨v,h1,h2⟩:=hi.done q oq (b9.eq c) d hq hS ⟨hD,by omega⟩ BK;exact⟨v,h1,h2⟩
   ·refine⟨c,?_,rfl⟩;rw[CQ.2 hD,ef,if_pos rfl];simp[cJ,Ya]
  have fL:∀{i:Nat} {o:Oper},(l.take m)[i]? =some o→l[i]? =some o∧i<m:=fun {i o} h=>by
   rw[dr]at h
   split at h
   ·exact⟨h,by assumption⟩
   ·cases h
  have il:Step M wd M w (gK (F.map (·.2))):=hi.step.ca (fun b ⟨p,hp,hD,hb⟩=>ew.2 ⟨p.2,cE.2 ⟨p,hp,rfl⟩,hb⟩) (fun b hb=>by
   obtain⟨N,hN,yk⟩:=ew.1 hb;obtain⟨p,hp,rfl⟩:=cE.1 hN;exact lR p hp b yk)
  have hE:=(jd w il).take;rw[K5]at hE
  obtain⟨acc,h1,h2⟩:=fK.use (a:=ac) (l.take m) S [] (fun i o s h1 h2 h3=>by
    obtain⟨h4,h5⟩:=fL h1;by_cases KA:i=q
    ·subst KA;rw[hq]at h4;cases h4;rw[BK]at h3;cases h3
    ·exact hi.fin i o s h4 h2 ⟨kK i h5 KA,by omega⟩ h3)
   (fun i o s e h1 h2 h3=>by
    obtain⟨h4,h5⟩:=fL h1;by_cases KA:i=q
    ·subst KA;rw[hq]at h4;cases h4;rw[BK]at h3;cases h3;rw[hS]at h2;cases h2;exact Yb
    ·obtain⟨v,h6,h7⟩:=hi.done i o s e h4 h2 ⟨kK i h5 KA,by omega⟩ h3;exact⟨v,by rw[Ha e (fun he=>KA (dw ck h4 hq h3 (by rw[BK,he])))];exact h6,h7⟩)
   (fun t v h=>by simp[lk]at h) hE
  refine⟨m,ac,_,w,a8 _,by omega,fun i h3 h4=>⟨fun h=>?_,fun h=>kK i h h4⟩,⟨jx,SU,fun t v h=>?_⟩,h1,CQ.1,fun hD=>⟨CQ.2 hD,fun t u ht=>?_⟩⟩
  ·rcases cB i m with h5|h5
   ·exact h5
   ·exact absurd h (iK i h5 h3)
  ·rcases j0 h with h|h
   ·exact h2 t v h
   ·obtain⟨h3,h4⟩:=im (f:=jn l l.length) h
    have eK:∀(i:Nat) (o:Oper),l[i]? =some o→o.dst≠some t:=fun i o eA he=>by
     simp only[jn,dD]at h3;have:=h3 o (aN eA);simp only[he,beq_self_eq_true,Bool.not_true,Bool.false_or,gO]at this;have h7:=b4 ck i o eA _ this;have h8:=(au.1 eA).1;omega
    rw[Ha t (fun e=>eK q oq hq (by rw[BK,e]))];exact hi.base t v h4 fun i o eA _=>eK i o eA
  ·obtain⟨h3,h4⟩:=im (f:=jn l q) ht;refine hi.base t u h4 fun i o eA uB he=> ?_
   simp only[jn,dD]at h3;have:=h3 o (aN eA);simp only[he,beq_self_eq_true,Bool.not_true,Bool.false_or,gO]at this;exact hD (jM i o eA uB.1 q this)
 refine⟨fun D a w=>((∀i,m≤i→i<l.length→¬D i)∧Inv F S l wd L ds n (fun i=>D i∧i<l.length) a w)∨∃p ac Lp wq,TJ P r n l m q d c L K ds D a w p ac Lp wq,fun D D' a w hJ hD=>?_,fun Q D a w j o rest hj ho kQ hp jM hJ hk=>?_,fun a w hJ=>?_,.inl ⟨fun i _ _ h=>h,?_⟩⟩
 ·rcases hJ with⟨h1,h2⟩|⟨p,ac,Lp,wq,h⟩
  ·refine .inl ⟨fun i h3 h4 h5=>h1 i h3 h4 ((hD i h4).1 h5),?_⟩;have:(fun i=>D' i∧i<l.length)=fun i=>D i∧i<l.length:=funext fun i=>propext ⟨fun⟨h3,h4⟩=>⟨(hD i h4).1 h3,h4⟩,fun⟨h3,h4⟩=>⟨(hD i h4).2 h3,h4⟩⟩
   rw[this];exact h2
  ·exact .inr ⟨p,ac,Lp,wq,h.p0,h.p1,fun i h3 h4=>(hD i h3).trans (h.dt i h3 h4),h.ag,h.tr,fun h3=>h.yes ((hD q (by omega)).1 h3),fun h3=>h.no fun h4=>h3 ((hD q (by omega)).2 h4)⟩
 ·rcases hJ with⟨h1,h2⟩|⟨p,ac,Lp,wq,h⟩
  ·rcases cB j m with uJ|uJ
   ·have hg:=rf.take.get j o (by rw[dr,K5,if_pos uJ];exact ho);rw[Nat.zero_add]at hg;refine h2.next ck re lR hg ho (fun h=>kQ h.1) (fun k sI=>⟨hp k sI,by have:=b4 ck j o ho k sI;omega⟩) fun a' w' fJ=>hk a' w' (.inl ⟨fun i h3 h4 h5=>?_,?_⟩)
    ·rcases h5 with h5|h5
     ·omega
     ·exact h1 i h3 h4 h5
    ·have:(fun i=>(i=j∨D i)∧i<l.length)=fun i=>i=j∨D i∧i<l.length:=funext fun i=>propext ⟨fun⟨h3,h4⟩=>h3.elim .inl fun h=> .inr ⟨h,h4⟩,fun h=>h.elim (fun h=>⟨.inl h,by omega⟩) fun h=>⟨.inr h.1,h.2⟩⟩
     rw[this];exact fJ
   ·have Yc:j=m:=by
     rcases cB m j with h|h
     ·have:=hp _ (gY sK (j:=j) (by omega) ho);exact absurd this (h1 (j-1) (by omega) (by omega))
     ·omega
    subst Yc;rw[ho]at yC;obtain⟨p,ac,Lp,wq,h⟩:=start D a w (fun i hi KA=>jq (D:=D) jM j (bV o) yC hp i hi (by simpa using KA)) h1 jM h2;exact h.next ck eB hq BK Nv Jo fY ho kQ hp fun a' w' h'=>hk a' w' (.inr h')
  ·exact h.next ck eB hq BK Nv Jo fY ho kQ hp fun a' w' h'=>hk a' w' (.inr h')
 ·rcases hJ with⟨h1,_⟩|⟨p,ac,Lp,wq,h⟩
  ·exact absurd RH (h1 m (a8 _) RH)
  ·have xd:p=l.length:=by
    rcases cB p l.length with h3|h3
    ·have h4:=(h.dt p h3 (by have:=h.p0;omega)).1 h3;omega
    ·have:=h.p1;omega
   have qf:=h.tr;rw[xd,List.drop_length]at qf;exact⟨Lp,ds,by rw[h.yes (by show q<l.length;omega)];exact h.ag,qf⟩
 ·refine⟨(an M wd).ca (fun _ h=>h.elim) (fun b ⟨p,hp,_,hb⟩=>lR p hp b hb),fun i o s _ _ h=>h.1.elim,ha.size,ha.defers,fun i o s e _ _ h=>h.1.elim,fun t v h _=>ha.at_ t v h,fun i o _ h=>h.1.elim⟩
theorem T.RJ {id:Nat} {l l':List Oper} (π:List Nat) (m q d:Nat) (c:Value) {oq:Oper} (F:List (Nat×az)) (S:List (b9 M)) (hm:P.follows .mixedOrders=true) (AK:uL π l=l') (mZ:dL l 0=true) (hπ:jD π l.length=true) (K5:S.length=m) (o4:Nat.blt m l'.length=true) (ck:dL l' 0=true) (eB:pT l' m q d=true)
  (hq:l'[q]? =some oq) (BK:oq.dst=some d) (Nv:gT oq.op=true) (Jo:oq.guard=none) (hS:S[q]? =some (b9.eq c)) (fY:∀(ρ:Operand→Value) w,(∀x u,ev (iJ l' q L) x=some u→ρ x=u)→(execOp ρ oq).run P w= .ok (.value c) w)
  (lR:∀p∈F,∀b,p.2 b→M b) (hFq:∀p∈F,p.1≠q) (re:yw F l' S)
  (h:∀wD,(∀M,Step M w M wD aA)→bD P r n F wD l' S ds L l' S 0∧∀w',Step M wD M w' (gK (F.map (·.2)))→fK w' (fun acc=>rQ P r n l'.toArray aA w' K 0 (l'.drop m) (acc++iJ l' l'.length L) ds w') l' S []):T P r n (.region id l.toArray true) L ds w K:=by
 subst AK;exact fX.t hm mZ fun wD hD=> .perm π hπ mZ (.Nw m q d c F S K5 o4 ck eB hq BK Nv Jo hS fY lR hFq re (h wD hD).1 (h wD hD).2)
theorem BL {s:TypeId} {fs:Array Field} {fd:Field} {j size o o' b:Nat} {zv:Value} {bytes:Nat} {x:Operand} {dst:Option Tmp} {ty:TypeId} {pos:String} {af:Array Edge} {gd:Option (Nat×Bool)} (hu:P.underlying s=some (.struct fs)) (OJ:fs[j]? =some fd) (ho:o+fd.offset=o') (hi:TI P fd.type zv size bytes) (hs:size≠0)
  {ρ:Operand→Value} (hx:ρ x= .pointer (some ⟨b,o,none⟩)) (w:World):(execOp ρ {dst,op:= .fieldAddr s x j,type:=ty,pos,after:=af,guard:=gd}).run P w= .ok (.value (.pointer (some ⟨b,o',none⟩))) w:=by
 simp only[execOp,hx];simp[Instr.fieldAt,run_underlying hu,OJ,Instr.sureAddr,fieldPlace,hi.sizeOf,hs,←ho,Addr.add_mid]
end
end Go.K
namespace Go.K
open Go.Proofs
set_option maxRecDepth 10000
def kW:Int→List En→Int
 |last,[]=>last
 |_,e::L=>kW e.2 L
def Ab:Int→List En→Bool
 |_,[]=>true
 |last,e::L=>decide (jY last e=0)&&Ab e.2 L
theorem Hb:∀{L:List En} {last:Int} {i:Nat} {e:En},Ab last L=true→L[i]? =some e→jY (kW last (L.take i)) e=0∧kW last (L.take (i+1))=e.2
 |[],_,_,_,_,h=>by simp at h
 |x::L,last,0,e,h,hi=>by
  simp only[Ab,bC,decide_eq_true_eq]at h;simp at hi;subst hi;exact⟨by simpa[kW]using h.1,by simp[kW]⟩
 |x::L,last,i+1,e,h,hi=>by
  simp only[Ab,bC,decide_eq_true_eq]at h;have:=Hb h.2 (by simpa using hi);simpa[kW]using this
theorem wF {last:Int} {e:En} (h:jY last e=0):iQ e.1∧last<e.2:=by
 unfold jY at h
 split at h
 ·rename_i h1;exact absurd h h1
 ·rename_i h1
  split at h
  ·cases h
  ·exact⟨CD (by simpa using h1),by omega⟩
theorem nF:∀{L:List En} {last:Int},Ab last L=true→∀e∈L,iQ e.1
 |[],_,_,e,h=>by cases h
 |x::L,last,h,e,he=>by
  simp only[Ab,bC,decide_eq_true_eq]at h;rcases dm.1 he with rfl|he
  ·exact(wF h.1).1
  ·exact nF h.2 e he
theorem wG:∀{L:List En} {last:Int},Ab last L=true→eH last (L.map (·.2))=true
 |[],_,_=>rfl
 |x::L,last,h=>by
  simp only[Ab,bC,decide_eq_true_eq]at h;simp only[iE,eH,bC,decide_eq_true_eq];exact⟨(wF h.1).2,wG h.2⟩
def iC (L:List En):Pa:=(L.map (·.1.1),L.map (·.2),keysOf L,(keysOf L).map (pk L))
theorem DQ {x:List Po} (h:x≠[]):∃p∈x,zY x=p.1:=by
 unfold zY
 cases hl:x.getLast? with
 |none=>exact absurd (List.getLast?_eq_none_iff.1 hl) h
 |some p=>exact⟨p,List.mem_of_getLast? hl,rfl⟩
theorem Nx {L:List En} (h:Ab (-1) L=true) (hn:L.length≤1000000):uD (iC L)=true:=by
 have hF:=nF h;have h1:(keysOf L).map (pk L)=(iC L).2.2.2:=rfl;unfold uD;have e1:decide ((iC L).1.length=(iC L).2.1.length)=true:=by simp[iC]
 have e2:eH (-1) (iC L).2.1=true:=wG h;have e3:decide ((iC L).2.2.1.length=(iC L).2.2.2.length)=true:=by simp[iC]
 have e4:zQ none (iC L).2.2.1=true:=MV (jm L)
 have e5:(iC L).2.2.2.all (fun x=> !la ((iC L).1.length:Int) x)=true:=by
  refine dD.2 fun x hx=> ?_
  rw[←h1]at hx;obtain⟨k,hk,rfl⟩:=cE.1 hx;have eK:pk L k≠[]:=Gd 0 (kC.1 hk)
  have Yd:(pk L k).isEmpty=false:=by
   cases h:pk L k with
   |nil=>exact absurd h eK
   |cons a b=>rfl
  have pR:dU (-1) (pk L k)=true:=sd k L 0 (-1) hF (by omega) (by omega);obtain⟨p,hp,hl⟩:=DQ eK;have:=(qL k L 0 hF).2 p hp;have hlen:((iC L).1.length:Int)=L.length:=by simp[iC]
  simp only[la,pR,Yd,hlen,hl];rw[decide_eq_false (by omega)];rfl
 rw[e1,e2,e3,e4,e5];rfl
theorem Jp {L:List En} (hF:∀e∈L,iQ e.1) (hn:L.length≤1000000) (k:List UInt8):Room (pk L k):=by
 have h1:=qL k L 0 hF;have pR:dU (-1) (pk L k)=true:=sd k L 0 (-1) hF (by omega) (by omega);have rN:∀p∈pk L k,p.2.length≤500:=fun p hp=>(h1.2 p hp).2.2
 obtain⟨h2,h3⟩:=qM (pk L k) (-1) 500 (by omega) pR rN (by omega);have hl:(pk L k).length≤L.length:=h1.1;exact⟨fun p hp=>by have:=rN p hp;omega,by omega,by omega,by omega⟩
theorem Jq {L:List En} (hF:∀e∈L,iQ e.1) (hn:L.length≤1000000):G4 (iC L):=by
 have hk:(keysOf L).length≤500000000:=by
  have h1:=(jm L).nodup.length_le_of_subset (l₂:=gI L) (fun x hx=>kC.1 hx);have:=qO hF;omega
 refine⟨by simp[iC];omega,by simp[iC];omega,by simp only[iC];omega,by simp[iC];omega,fun x hx=>?_⟩;obtain⟨k,_,rfl⟩:=cE.1 hx;exact Jp hF hn k
theorem Ny {M:az} {w:World} {e:En} {v:Value} (h:RT.en.V M w e v):(-9223372036854775808≤e.1.1∧e.1.1≤9223372036854775807)∧ -9223372036854775808≤e.2∧e.2≤9223372036854775807:=by
 obtain⟨vs,⟨va,vb,_,⟨vc,vd,_,⟨_,h1⟩,_⟩,⟨_,h2⟩⟩,_⟩:=h;exact⟨h1,h2⟩
def ZP (B b:Nat) (vi vs:Value):az:=fun k=>B≤k∧k≠b∧vi.ownBlock≠some k∧vs.ownBlock≠some k
theorem Own.KB {κ:IntKind} {e:TypeId} {M M' N:az} {w w':World} {base:Nat} {v:Value} {xs:List Int} (h:Own (RT.int κ) e (nY v) w base v xs) (s:Step M w M' w' N) (hn:∀c,v.ownBlock=some c→¬N c):Own (RT.int κ) e (nY v) w' base v xs:=
 ((h.Ii (M':=allM) (fun _ _=>trivial)).Pg s.all hn).lone
theorem Step.Ye {M M' N:az} {w w':World} (s:Step M w M' w' N) {v:Value} (hv:∀b,v.ownBlock=some b→b<w'.heap.size∧(w.heap.size≤b∨M' b)):Step M w (ja M' v) w' N:=
 ⟨fun h k hk=>hk.elim (fun h1=>(hv k h1).1) (fun h1=>s.lt h k h1),s.os,s.tape,s.output,s.size,fun k hk=>⟨fun h=>by
  rcases h with h|h
  ·rcases(hv k h).2 with h1|h1
   ·omega
   ·exact(s.mem k hk).1 h1
  ·exact(s.mem k hk).1 h,fun h=> .inr ((s.mem k hk).2 h)⟩,s.same,s.sub⟩
end Go.K
namespace Go.K
open Go.Proofs
namespace TKSegA
theorem Yf:Enters Tryz.prog 120:=enters Tryz.func120 rfl (by decide)
theorem Nz:Enters Tryz.prog 168:=enters Tryz.func168 rfl (by decide)
end TKSegA
open TKSegA
set_option maxRecDepth 10000
def xW (xs:List Int) (i:Int):Int:=if 0≤i∧i<xs.length then xs.getD i.toNat 0 else-1
theorem Jr {M:az} {xs:List Int} {v0:Value} {i:Int} (w0:World) (hv:((RT.int .i64).sl).V M w0 xs v0):
  Spec Tryz.prog 120 #[v0,.int .i64 i] w0 (fun v w=>v= .int .i64 (xW xs i)∧w=w0):=by
 have hlen:=ed hv;refine aW (args:=[_,_]) (fn:=Tryz.f120) Tryz.func120 rfl (n:=17) Tryz.ntmps120 (aj (ah (ai rfl rfl (ad (aj (aj (ah (ae rfl rfl (cf rfl rfl rfl (ae rfl rfl ?_))))))))));refine aI (g:=7) rfl (fun fM=>?_) (fun fM=>?_)
 ·refine ao rfl rfl rfl rfl (ao rfl rfl rfl rfl (ao rfl rfl rfl rfl (ao rfl rfl rfl rfl (aQ rfl rfl rfl (ad (lO rfl (aj (ah (ai rfl rfl (ad (aH ?_)))))))))));have e:xW xs i= -1:=by unfold xW;rw[if_neg (by omega)]
  exact aP rfl rfl ⟨by rw[e],rfl⟩
 ·refine al rfl rfl (ae rfl rfl (al rfl rfl (ae rfl rfl (al rfl rfl (bU av rfl hv rfl (al rfl rfl (dA rfl rfl rfl (ay rfl rfl rfl (ad ?_)))))))));refine bF rfl (fun c1=>?_) (fun c1=>?_)
  ·refine aj (ah (ai rfl rfl (ad (aH ?_))));have e:xW xs i= -1:=by unfold xW;rw[if_neg (by omega)]
   exact aP rfl rfl ⟨by rw[e],rfl⟩
  ·refine aU (aj (ah (ae rfl rfl (ae rfl rfl ?_))));refine dq (M:=M) av I3 rfl rfl rfl hv (aq _ _) (by omega) (fun u x hg hu=>?_);refine cd (M:=M) ar rfl rfl hu (aq _ _) (fun lD=>?_);refine ai rfl rfl (ad (aH ?_));have e:xW xs i=x:=by unfold xW;rw[if_pos (by omega),bT,hg];rfl
   exact aP rfl rfl ⟨by rw[e],rfl⟩
theorem wH {M:az} {s:Se} {v0:Value} (w0:World) (hs:ch RT.se M w0 v0 s):
  Spec Tryz.prog 67 #[v0] w0 (fun v w=>v= .int .i64 (s.1.length:Int)∧w=w0):=by
 refine aW (args:=[_]) (fn:=Tryz.f67) Tryz.func67 rfl (n:=8) Tryz.ntmps67 (aj (ah (ai rfl rfl (ad (aj (ah (ae rfl rfl (aR rfl hs.jr rfl ?_))))))));refine aJ (M:=M) (A:=RT.se) (B:=(RT.int .i64).sl) Tryz.underlying125 rfl rfl nZ (by decide) se0 rfl rfl (by decide) hs (aq _ _) (fun I1 tS=>?_);refine cg (M:=M) av rfl rfl rfl rfl rfl tS (aq _ _) (fun Js rH=>?_);replace rH:((RT.int .i64).sl).V M _ s.1 Js:=rH;refine bU av rfl rH rfl (ai rfl rfl (ad (aH ?_)));exact aP rfl rfl ⟨rfl,rfl⟩
theorem wI {M:az} {s:Se} {i:Int} {v0:Value} (w0:World) (hs:ch RT.se M w0 v0 s):
  Spec Tryz.prog 70 #[v0,.int .i64 i] w0 (fun v w=>v= .int .i64 (xW s.2.1 i)∧w=w0):=by
 refine aW (args:=[_,_]) (fn:=Tryz.f70) Tryz.func70 rfl (n:=11) Tryz.ntmps70 (aj (ah (ai rfl rfl (ad (aj (ah (ae rfl rfl (aR rfl hs.jr rfl ?_))))))));refine aJ (M:=M) (A:=RT.se) (B:=(RT.int .i64).sl) Tryz.underlying125 rfl rfl nZ (by decide) se1 rfl rfl (by decide) hs (aq _ _) (fun I1 tS=>?_);refine cg (M:=M) av rfl rfl rfl rfl rfl tS (aq _ _) (fun Js rH=>?_);replace rH:((RT.int .i64).sl).V M _ s.2.1 Js:=rH;refine ae rfl rfl ?_;refine aM rfl rfl Yf (Jr _ rH) (fun r wc hc=>?_);obtain⟨rfl,rfl⟩:=hc;refine ai rfl rfl (ad (aH ?_));exact aP rfl rfl ⟨rfl,rfl⟩
theorem wrap_u64 {x:Int} (h:0≤x∧x<18446744073709551616):IntKind.u64.wrap x=x:=by simp[IntKind.wrap,IntKind.bits,IntKind.signed];omega
theorem Hc (x:Int):x.fdiv (2^min (1:Int).toNat IntKind.u64.bits)=x/2:=by
 rw[show(2:Int)^min (1:Int).toNat IntKind.u64.bits=2 from by decide,Int.fdiv_eq_ediv_of_nonneg _ (by decide)]
theorem mg {α:Type} {p:α→Bool}:∀{xs:List α} {i:Nat},i≤xs.length→(∀(k:Nat) x,k<i→xs[k]? =some x→p x=true)→(∀(k:Nat) x,i≤k→xs[k]? =some x→p x=false)→xs.countP p=i
 |[],i,hi,_,_=>by simp at hi;simp[hi]
 |x::xs,0,_,_,h2=>by
  rw[List.countP_eq_zero.2];intro a ha;obtain⟨k,hk⟩:=bN.1 ha;simp[h2 k a (bH _) hk]
 |x::xs,i+1,hi,h1,h2=>by
  rw[List.countP_cons_of_pos (h1 0 x (by omega) rfl),mg (by simpa using hi) (fun k y hk hy=>h1 (k+1) y (by omega) (by simpa using hy)) (fun k y hk hy=>h2 (k+1) y (by omega) (by simpa using hy))]
theorem rI {x:Int} (w0:World):
  Spec Tryz.prog 168 #[.int .i64 x] w0 (fun v w=>v= .bool false∧w=w0):=by
 refine aW (args:=[_]) (fn:=Tryz.f168) Tryz.func168 rfl (n:=6) Tryz.ntmps168 (aj (ah (ai rfl rfl (ad (aj (ah (ae rfl rfl (ae rfl rfl (eN rfl rfl rfl (ai rfl rfl (ad ?_)))))))))));refine aH ?_;exact aP rfl rfl ⟨by simp,rfl⟩
end Go.K
namespace Go.K
open Go.Proofs
namespace TKSegB
theorem BF:TI Tryz.prog 188 (.slice none 0 0) 1 24:=by unfold TI;kernel_rfl
theorem Yg:Enters Tryz.prog 123:=enters Tryz.func123 rfl (by decide)
theorem Yh:Enters Tryz.prog 169:=enters Tryz.func169 rfl (by decide)
theorem Yi:Enters Tryz.prog 170:=enters Tryz.func170 rfl (by decide)
end TKSegB
open TKSegB
set_option maxRecDepth 10000
def Eo (ns:List (List UInt8)) (k:List UInt8):Nat:=ns.countP fun x=>decide (x<k)
theorem RL {ns:List (List UInt8)} (h:xM ns) {i j:Nat} {x y:List UInt8} (fZ:i≤j) (hx:ns[i]? =some x) (hy:ns[j]? =some y): ¬y<x:=by
 rcases dO fZ with rfl|h1
 ·rw[hx]at hy;cases hy;exact iN x
 ·exact iO (fy h hx hy h1)
theorem xX {ns:List (List UInt8)} (h:xM ns) {k:List UInt8}:(k∈ns→ns[Eo ns k]? =some k)∧∀x,ns[Eo ns k]? =some x→¬x<k:=by
 have key:∀{ns:List (List UInt8)},xM ns→(k∈ns→ns[Eo ns k]? =some k)∧∀x,ns[Eo ns k]? =some x→¬x<k:=by
  intro ns
  induction ns with
  |nil=>exact fun _=>⟨(fun h=>by cases h),fun x h=>by simp at h⟩
  |cons y ns ih=>
   intro h;have h':=gJ.1 h;by_cases hy:y<k
   ·have e:Eo (y::ns) k=Eo ns k+1:=by unfold Eo;rw[List.countP_cons_of_pos (by simpa using hy)]
    rw[e];simp only[List.getElem?_cons_succ];refine⟨fun hk=>(ih h'.2).1 ?_,(ih h'.2).2⟩;rcases dm.1 hk with rfl|hk
    ·exact absurd hy (iN _)
    ·exact hk
   ·have kK:∀x∈ns,¬x<k:=fun x hx dy=>hy (lJ (h'.1 x hx) dy)
    have e:Eo (y::ns) k=0:=by
     unfold Eo;rw[List.countP_eq_zero];intro a ha;rcases dm.1 ha with rfl|ha
     ·simpa using hy
     ·simpa using kK a ha
    rw[e];refine⟨fun hk=>?_,fun x hx=>by simp at hx;subst hx;exact hy⟩;rcases dm.1 hk with rfl|hk
    ·rfl
    ·exact absurd (h'.1 k hk) hy
 exact key h
def Yj (ns:List (List UInt8)) (k:List UInt8) (i:Nat):Bool:=match ns[i]? with|some x=> !decide (x<k)|none=>true
theorem ua {ns:List (List UInt8)} {k x:List UInt8} {i:Nat} (h:ns[i]? =some x):Yj ns k i= !decide (x<k):=by unfold Yj;rw[h]
theorem Hd {ns:List (List UInt8)} (h:xM ns) {k:List UInt8}:ns[Eo ns k]? =some k↔k∈ns:=⟨fun h=>aN h,(xX h).1⟩
theorem BM {M:az} {n:Nat} {g:FuncId} {cap:List Value} {good:Nat→Bool} (w0:World) (hg:Enters Tryz.prog g) (KC:∀i j,i≤j→j<n→good i=true→good j=true) (hn:n≤4611686018427387904) (ht:∀(i:Nat) w,i<n→Step M w0 M w aA→Spec Tryz.prog g ([.int .i64 (i:Int)]++cap:List Value).toArray w (fun v w'=>v= .bool (good i)∧Step M w M w' aA)):
  Spec Tryz.prog 169 #[.int .i64 (n:Int),.func (.func g) #[] cap.toArray] w0 (fun v w=>∃m:Nat,v= .int .i64 (m:Int)∧m≤n∧(∀i,i<m→good i=false)∧(∀i,m≤i→i<n→good i=true)∧Step M w0 M w aA):=by
 refine aW (args:=[_,_]) (fn:=Tryz.f169) Tryz.func169 rfl (n:=23) Tryz.ntmps169 (aj (ah (ai rfl rfl (ad (aj (ah (ai rfl rfl (ad (aj (bj ?_))))))))));refine dI (σ:=Nat×Nat) (fun q=>[(0,.int .i64 (q.2:Int)),(1,.func (.func g) #[] cap.toArray),(5,.int .i64 (q.1:Int))]) (fun q w=>Step M w0 M w aA∧q.1≤q.2∧q.2≤n∧(∀i,i<q.1→good i=false)∧(∀i,q.2≤i→i<n→good i=true)) (fun q=>q.2-q.1) (0,n) (.cons rfl (.cons rfl (.cons rfl .nil))) ?_ ?_
 ·exact⟨an _ _,bH _,a8 _,fun i h=>absurd h (jQ _),fun i h h'=>by omega⟩
 ·rintro⟨i,j⟩ w ⟨S,fZ,hj,h1,h2⟩;dsimp only at fZ hj h1 h2 ⊢;refine aj (aj (ah (ae rfl rfl (ae rfl rfl (cf rfl rfl rfl (ad ?_))))));refine bF rfl (fun c2=>?_) (fun c2=>?_)
  ·refine aU (bj (aj (ah (ae rfl rfl (ae rfl rfl (ae rfl rfl (gM rfl rfl rfl (by omega) (Rg.sx rfl rfl rfl (by omega) (bz rfl rfl rfl (by omega) (bp (v':= .int .i64 ((i+(j-i)/2:Nat):Int)) (congrArg _ (by omega)) (ai rfl rfl ?_)))))))))));refine ad (aj (ah (ae rfl rfl (ae rfl rfl ?_))));refine Rg.mV (first:=[]) (captured:=cap) (xs:=[.tmp 17]) rfl rfl rfl hg (vs:=[.int .i64 ((i+(j-i)/2:Nat):Int)]) (ht (i+(j-i)/2) _ (by omega) S) (fun r4 w4 hc=>?_);obtain⟨rfl,s4⟩:=hc;refine bp (v':= .bool (decide (good (i+(j-i)/2)=true))) (by simp) ?_;replace S:=S.ax s4;refine ad ?_;refine bF rfl (fun c4=>?_) (fun c4=>?_)
   ·refine ah (ae rfl rfl (ai rfl rfl (ad ?_)));refine⟨rfl,(i,i+(j-i)/2),(.cons rfl (.cons rfl (.cons rfl .nil))),?_,?_⟩
    ·exact⟨S,by dsimp only;omega,by dsimp only;omega,h1,fun k hk WY=>KC _ _ hk WY c4⟩
    ·dsimp only;omega
   ·refine ah (ae rfl rfl (bz rfl rfl rfl (by omega) (ai rfl rfl (ad ?_))));refine⟨rfl,(i+(j-i)/2+1,j),(.cons rfl (.cons rfl (.cons rfl .nil))),?_,?_⟩
    ·exact⟨S,by dsimp only;omega,hj,fun k hk=>by
      cases h:good k with
      |false=>rfl
      |true=>exact absurd (KC k (i+(j-i)/2) (by dsimp only at hk;omega) (by omega) h) c4,h2⟩
    ·dsimp only;omega
  ·refine cM (aj (ah (ae rfl rfl (ai rfl rfl (ad (aH ?_))))));have e:i=j:=by omega
   subst e;exact aP rfl rfl ⟨i,rfl,hj,h1,h2,S⟩
theorem Ac {M:az} {d:Di} {v0:Value} {i bd bk:Nat} {k x:List UInt8} (w0:World) (hd:ch RT.di M w0 v0 d) (gd:w0.heap[bd]? =some (.cells #[v0] 123 (0,0))) (gk:w0.heap[bk]? =some (.cells #[sv k] 9 (0,0))) (hx:d.1[i]? =some x):
  Spec Tryz.prog 170 #[.int .i64 (i:Int),.pointer (some ⟨bd,0,none⟩),.pointer (some ⟨bk,0,none⟩)] w0 (fun v w=>v= .bool (!decide (x<k))∧Step M w0 M w aA):=by
 have hM:True:=trivial;refine aW (args:=[_,_,_]) (fn:=Tryz.f170) Tryz.func170 rfl (n:=14) Tryz.ntmps170 (aj (ah (ai rfl rfl (ad (aj ?_)))));apply T.ki mixed rfl rfl;intro Cn Dp;have hY:=Dp M;replace gd:=hY.aG gd;replace gk:=hY.aG gk;replace hd:=hd.le (by decide) hY.le;refine aE Tryz.underlying123 rfl rfl rfl gd rfl (bp (v':=v0) rfl ?_);refine ad ⟨rfl,rfl,rfl,?_⟩;refine aR rfl hd.jr rfl ?_;refine ad ⟨rfl,rfl,rfl,?_⟩;refine aJ (M:=M) (A:=RT.di) (B:=RT.str.sl) Tryz.underlying190 rfl rfl HH (by decide) Tr rfl rfl (by decide) hd (aq _ _) (fun pn RM=>?_);refine ad ⟨rfl,rfl,rfl,?_⟩;refine cg (M:=M) bh rfl rfl rfl rfl rfl RM (aq _ _) (fun vn sc=>?_);replace sc:(RT.str.sl).V M _ d.1 vn:=sc;refine ad ⟨rfl,rfl,rfl,?_⟩;refine ae rfl rfl ?_;refine ad ⟨rfl,rfl,rfl,?_⟩;have lS:=(au.1 hx).1;refine dq (M:=M) bh I9 rfl rfl rfl sc (aq _ _) (by omega) (fun u a hg hu=>?_);obtain rfl:x=a:=bQ (hx.symm.trans (by simpa using hg));refine ad ⟨rfl,rfl,rfl,?_⟩;refine cg (M:=M) aD rfl rfl rfl rfl rfl hu (aq _ _) (fun vx qG=>?_);obtain rfl:=fD qG;refine ad ⟨rfl,rfl,rfl,?_⟩;refine aE aD rfl rfl rfl gk rfl (bp (v':=sv k) rfl ?_);refine ad ⟨rfl,rfl,rfl,?_⟩;refine Rg.Mw rfl rfl rfl ?_;refine ad ⟨rfl,rfl,rfl,?_⟩;refine ai rfl rfl ?_;refine ad ⟨rfl,rfl,rfl,?_⟩;refine fE (aH ?_);exact aP rfl rfl ⟨by rw[decide_not],hY⟩
theorem BN {M:az} {d:Di} {v0:Value} {k:List UInt8} (w0:World) (hM:Lt M w0) (hd:ch RT.di M w0 v0 d) (xY:xM d.1):
  Spec Tryz.prog 123 #[v0,sv k] w0 (fun v w=>v= .tuple #[.int .i64 (Eo d.1 k:Int),.bool (decide (k∈d.1))]∧Step M w0 M w aA):=by
 refine aW (args:=[_,_]) (fn:=Tryz.f123) Tryz.func123 rfl (n:=33) Tryz.ntmps123 ?_;have S:Step M w0 M w0 aA:=(an _ _).ca (fun _ h=>h.elim) (fun _ h=>h.elim);refine aj (ah ?_);refine mH M rfl rfl (fun rU He RN RO gR o0=>?_);replace gR:He.heap[rU]? =some (.cells #[v0] 123 (0,0)):=by rw[qP hd]at gR;exact gR
 obtain⟨nG,nH⟩:∃M',M'=ins M rU:=⟨_,rfl⟩;rw[←nH]at o0;have ie:nG rU:=by rw[nH];exact .inl rfl
 replace hd:=hd.le (by decide) o0.le;replace hM:=o0.lt hM;have:=S.size;replace S:=S.ax o0;refine mH nG rfl rfl (fun l7 A8 Md Me eS k8=>?_);obtain⟨ej,kz⟩:∃M',M'=ins nG l7:=⟨_,rfl⟩;rw[←kz]at k8;have dY:ej l7:=by rw[kz];exact .inl rfl
 change A8.heap[l7]? =some (.cells #[sv k] _ _)at eS;have:=ak gR;replace ie:=(k8.mem _ this).2 ie;replace gR:=k8.aG gR;replace hd:=hd.le (by decide) k8.le;replace hM:=k8.lt hM;have:=S.size;replace S:=S.ax k8;refine ai rfl rfl (ai rfl rfl (ad (aj (ah (aE Tryz.underlying123 rfl rfl rfl gR rfl (bp (v':=v0) rfl (aR rfl hd.jr rfl ?_)))))));refine aJ (M:=ej) (A:=RT.di) (B:=RT.str.sl) Tryz.underlying190 rfl rfl HH (by decide) Tr rfl rfl (by decide) hd (aq _ _) (fun pn RM=>?_);refine cg (M:=ej) bh rfl rfl rfl rfl rfl RM (aq _ _) (fun vn sc=>?_);replace sc:(RT.str.sl).V ej _ d.1 vn:=sc;have Og:=ed sc;refine bU bh rfl sc rfl (iD (xs:=[]) (ys:=[.tmp 2,.tmp 3]) rfl rfl rfl ?_)
 refine aM rfl rfl Yh (BM (M:=ej) (n:=d.1.length) (cap:=[.pointer (some ⟨rU,0,none⟩),.pointer (some ⟨l7,0,none⟩)]) (good:=Yj d.1 k) _ Yi (fun i j fZ hj h=>by
  have hi:=aL (show i<d.1.length by omega);have qg:=aL hj;rw[ua hi]at h;rw[ua qg];simp only[oI,decide_eq_false_iff_not]at h ⊢;intro dy;rcases kU d.1[i] d.1[j]with h1|h1|h1
  ·exact h (lJ h1 dy)
  ·rw[h1]at h;exact h dy
  ·exact RL xY fZ hi qg h1) (by omega) (fun i w hi s=>by
  have hx:=aL hi;rw[ua hx];exact Ac w (hd.le (by decide) s.le) (s.aG gR) (s.aG eS) hx)) (fun r1 w1 hc=>?_)
 obtain⟨m,rfl,hm,Ef,Pb,s1⟩:=hc;have em:Eo d.1 k=m:=mg hm (fun i x hi hx=>by have:=Ef i hi;rw[ua hx]at this;simpa using this) (fun i x hi hx=>by have:=Pb i hi (au.1 hx).1;rw[ua hx]at this;simpa using this);have:=ak gR;replace ie:=(s1.mem _ this).2 ie;replace gR:=s1.aG gR;have:=ak eS;replace dY:=(s1.mem _ this).2 dY;replace eS:=s1.aG eS;replace hd:=hd.le (by decide) s1.le;replace hM:=s1.lt hM;have:=S.size;replace S:=S.ax s1;refine ai rfl rfl (ad (aj ?_));apply T.ki mixed rfl rfl;intro wD2 sA2;have DR:=sA2 ej;have:=ak gR;replace ie:=(DR.mem _ this).2 ie;replace gR:=DR.aG gR;have:=ak eS;replace dY:=(DR.mem _ this).2 dY;replace eS:=DR.aG eS;replace hd:=hd.le (by decide) DR.le;replace hM:=DR.lt hM;have:=S.size;replace S:=S.ax DR;refine ae rfl rfl ?_;refine ad ⟨rfl,rfl,rfl,?_⟩;refine ae rfl rfl ?_;refine ad ⟨rfl,rfl,rfl,?_⟩;refine aE Tryz.underlying123 rfl rfl rfl gR rfl (bp (v':=v0) rfl ?_);refine ad ⟨rfl,rfl,rfl,?_⟩;refine aR rfl hd.jr rfl ?_;refine ad ⟨rfl,rfl,rfl,?_⟩;refine aJ (M:=ej) (A:=RT.di) (B:=RT.str.sl) Tryz.underlying190 rfl rfl HH (by decide) Tr rfl rfl (by decide) hd (aq _ _) (fun pn2 Yk=>?_);refine ad ⟨rfl,rfl,rfl,?_⟩;refine cg (M:=ej) bh rfl rfl rfl rfl rfl Yk (aq _ _) (fun vn2 NA=>?_);replace NA:(RT.str.sl).V ej _ d.1 vn2:=NA;refine ad ⟨rfl,rfl,rfl,?_⟩;refine bU bh rfl NA rfl ?_;refine ad ⟨rfl,rfl,rfl,?_⟩;refine cf rfl rfl rfl ?_;refine ad ⟨rfl,rfl,rfl,?_⟩;refine ae rfl rfl ?_;refine ad ⟨rfl,rfl,rfl,?_⟩;refine aI (g:=22) rfl (fun Yl=>?_) (fun Yl=>?_)
 ·refine al rfl rfl (aE Tryz.underlying123 rfl rfl rfl gR rfl (bp (v':=v0) rfl ?_));refine ad ⟨rfl,rfl,rfl,?_⟩;refine al rfl rfl (aR rfl hd.jr rfl ?_);refine ad ⟨rfl,rfl,rfl,?_⟩;refine al rfl rfl ?_;refine aJ (M:=ej) (A:=RT.di) (B:=RT.str.sl) Tryz.underlying190 rfl rfl HH (by decide) Tr rfl rfl (by decide) hd (aq _ _) (fun pn3 Ym=>?_);refine ad ⟨rfl,rfl,rfl,?_⟩;refine al rfl rfl ?_;refine cg (M:=ej) bh rfl rfl rfl rfl rfl Ym (aq _ _) (fun vn3 NB=>?_);replace NB:(RT.str.sl).V ej _ d.1 vn3:=NB;refine ad ⟨rfl,rfl,rfl,?_⟩;refine al rfl rfl (ae rfl rfl ?_);refine ad ⟨rfl,rfl,rfl,?_⟩;refine al rfl rfl ?_;refine dq (M:=ej) bh I9 rfl rfl rfl NB (aq _ _) (by omega) (fun u2 x Yn qt=>?_);rw[aC]at Yn;refine ad ⟨rfl,rfl,rfl,?_⟩;refine al rfl rfl ?_;refine cg (M:=ej) aD rfl rfl rfl rfl rfl qt (aq _ _) (fun vx qG=>?_);obtain rfl:=fD qG;refine ad ⟨rfl,rfl,rfl,?_⟩;refine al rfl rfl (aE aD rfl rfl rfl eS rfl (bp (v':=sv k) rfl ?_));refine ad ⟨rfl,rfl,rfl,?_⟩;refine al rfl rfl (Rg.B8 rfl rfl rfl ?_);refine ad ⟨rfl,rfl,rfl,?_⟩;refine aQ rfl rfl rfl ?_;refine ad ⟨rfl,rfl,rfl,?_⟩;refine ai rfl rfl ?_;refine ad ⟨rfl,rfl,rfl,?_⟩;refine ai rfl rfl ?_;refine ad ⟨rfl,rfl,rfl,?_⟩;refine fE (aH ?_);rw[←em]at*
  first
  |(have e:decide (x=k)=decide (k∈d.1):=decide_eq_decide.2 (by rw[←Hd xY,Yn];simp)
    exact ez rfl rfl rfl ⟨by rw[e],S.back⟩)
  |(have e:k∉d.1:=fun h=>by have:=(xX xY).1 h;have:=(au.1 this).1;omega
    exact ez rfl rfl rfl ⟨by rw[decide_eq_false e],S.back⟩)
 ·refine ao rfl rfl rfl rfl ?_;refine ad ⟨rfl,rfl,rfl,?_⟩;refine ao rfl rfl rfl rfl ?_;refine ad ⟨rfl,rfl,rfl,?_⟩;refine ao rfl rfl rfl rfl ?_;refine ad ⟨rfl,rfl,rfl,?_⟩;refine ao rfl rfl rfl rfl ?_;refine ad ⟨rfl,rfl,rfl,?_⟩;refine ao rfl rfl rfl rfl ?_;refine ad ⟨rfl,rfl,rfl,?_⟩;refine ao rfl rfl rfl rfl ?_;refine ad ⟨rfl,rfl,rfl,?_⟩;refine ao rfl rfl rfl rfl ?_;refine ad ⟨rfl,rfl,rfl,?_⟩;refine ao rfl rfl rfl rfl ?_;refine ad ⟨rfl,rfl,rfl,?_⟩;refine ao rfl rfl rfl rfl ?_;refine ad ⟨rfl,rfl,rfl,?_⟩;refine ay rfl rfl rfl ?_;refine ad ⟨rfl,rfl,rfl,?_⟩;refine ai rfl rfl ?_;refine ad ⟨rfl,rfl,rfl,?_⟩;refine ai rfl rfl ?_;refine ad ⟨rfl,rfl,rfl,?_⟩;refine fE (aH ?_);rw[←em]at*
  first
  |(have e:decide (x=k)=decide (k∈d.1):=decide_eq_decide.2 (by rw[←Hd xY,Yn];simp)
    exact ez rfl rfl rfl ⟨by rw[e],S.back⟩)
  |(have e:k∉d.1:=fun h=>by have:=(xX xY).1 h;have:=(au.1 this).1;omega
    exact ez rfl rfl rfl ⟨by rw[decide_eq_false e],S.back⟩)
theorem find_spec {M:az} {d:Di} {v0:Value} {k:List UInt8} (w0:World) (hM:Lt M w0) (hd:ch RT.di M w0 v0 d) (xY:xM d.1) (hl:d.1.length=d.2.length):
  Spec Tryz.prog 73 #[v0,sv k] w0 (fun v w=>Step M w0 M w aA∧((∃(j:Nat) (p:Value) (t:Li),v= .tuple #[p,.bool true]∧d.1[j]? =some k∧d.2[j]? =some t∧ch RT.li M w p t)∨(v= .tuple #[.pointer none,.bool false]∧k∉d.1))):=by
 refine aW (args:=[_,_]) (fn:=Tryz.f73) Tryz.func73 rfl (n:=25) Tryz.ntmps73 ?_;have S:Step M w0 M w0 aA:=(an _ _).ca (fun _ h=>h.elim) (fun _ h=>h.elim);refine aj (ah (ai rfl rfl (ai rfl rfl (ad (aj (ah (ae rfl rfl (ae rfl rfl ?_))))))));refine aM rfl rfl Yg (BN _ hM hd xY) (fun r1 w1 hc=>?_);obtain⟨rfl,s1⟩:=hc;replace hd:=hd.le (by decide) s1.le;replace hM:=s1.lt hM;have:=S.size;replace S:=S.ax s1;refine ae rfl rfl (bO rfl rfl rfl (bO rfl rfl rfl (ai rfl rfl (ai rfl rfl (ad (aj (aj (ah (ae rfl rfl (Rg.not rfl rfl (bp (v':= .bool (decide (k∉d.1))) (by simp) ?_)))))))))));refine ad ?_;refine bF rfl (fun c2=>?_) (fun c2=>?_)
 ·refine aj (ah (ai rfl rfl (ad (aj (ah (ae rfl rfl (ai rfl rfl (ai rfl rfl (ad (aH ?_))))))))));exact ez rfl rfl rfl ⟨S,.inr ⟨rfl,c2⟩⟩
 ·refine aU (aj (ah (ae rfl rfl (aR rfl hd.jr rfl ?_))));refine aJ (M:=M) (A:=RT.di) (B:=((RT.li).ptr).sl) Tryz.underlying190 rfl rfl BF (by decide) di1 rfl rfl (by decide) hd (aq _ _) (fun pt TU=>?_);refine cg (M:=M) dS rfl rfl rfl rfl rfl TU (aq _ _) (fun vt DS=>?_);replace DS:(((RT.li).ptr).sl).V M _ d.2 vt:=DS;refine ae rfl rfl ?_;have hk:=(xX xY).1 (ec.1 c2);have C3:=(au.1 hk).1;refine dq (M:=M) dS oR rfl rfl rfl DS (aq _ _) (by omega) (fun u5 t Dn AY=>?_);rw[aC]at Dn;refine cg (M:=M) cG rfl rfl rfl rfl rfl AY (aq _ _) (fun vp Yo=>?_);have Yp:=CG.1 Yo;refine ai rfl rfl (ai rfl rfl (ad (aH ?_)));exact ez rfl rfl rfl ⟨S,.inl ⟨_,_,t,rfl,hk,Dn,Yp⟩⟩
end Go.K
namespace Go.K
open Go.Proofs
namespace TKSegC
theorem BF:TI Tryz.prog 188 (.slice none 0 0) 1 24:=by unfold TI;kernel_rfl
end TKSegC
open TKSegC
set_option maxRecDepth 10000
end Go.K
namespace Go.K
open Go.Proofs
namespace TKSegD
theorem NC:TI Tryz.prog 123 (.pointer none) 1 8:=by unfold TI;kernel_rfl
end TKSegD
open TKSegD
set_option maxRecDepth 10000
end Go.K
namespace Go.K
open Go.Proofs
namespace TKSegE
theorem NC:TI Tryz.prog 123 (.pointer none) 1 8:=by unfold TI;kernel_rfl
theorem E73:Enters Tryz.prog 73:=enters Tryz.func73 rfl (by decide)
end TKSegE
open TKSegE
set_option maxRecDepth 10000
def lM (ns:List (List UInt8)) (ls:List (List Po)) (k:List UInt8):List Po:=match (ns.zip ls).find? (fun p=>decide (p.1=k))with|some p=>p.2|none=>[]
theorem Hf {ns:List (List UInt8)} (hn:ns.Nodup) {ls:List (List Po)} {k:List UInt8} {j:Nat} {l:List Po} (h:ns[j]? =some k) (hl:ls[j]? =some l):lM ns ls k=l:=by
 have:∀{ns:List (List UInt8)} {ls:List (List Po)} {j:Nat},ns.Nodup→ns[j]? =some k→ls[j]? =some l→(ns.zip ls).find? (fun p=>decide (p.1=k))=some (k,l):=by
  intro ns
  induction ns with
  |nil=>intro ls j _ h;simp at h
  |cons x ns ih=>
   intro ls j hn h hl
   cases ls with
   |nil=>simp at hl
   |cons y ls=>
    cases j with
    |zero=>simp at h hl;subst h;subst hl;simp
    |succ j=>
     have HL:=sm.1 hn;have hk:k∈ns:=aN (by simpa using h);have hx:x≠k:=fun e=>HL.1 (by rw[e];exact hk)
     rw[List.zip_cons_cons,List.find?_cons_of_neg (by simpa using hx)];exact ih HL.2 (by simpa using h) (by simpa using hl)
 unfold lM;rw[this hn h hl]
theorem Ad {ns:List (List UInt8)} {ls:List (List Po)} {k:List UInt8} (h:k∉ns):lM ns ls k=[]:=by
 unfold lM;rw[List.find?_eq_none.2 fun p hp=>by have:=List.of_mem_zip hp;simp;intro e;exact h (e▸this.1)]
theorem BO {L:List En} (k:List UInt8):lM (keysOf L) ((keysOf L).map (pk L)) k=pk L k:=by
 by_cases h:k∈keysOf L
 ·obtain⟨j,hj⟩:=bN.1 h;exact Hf (jm L).nodup hj (by rw[eE,hj];rfl)
 ·rw[Ad h];exact(CF 0 (fun h'=>h (kC.2 h'))).symm
def rJ (d:Di) (k:List UInt8) (M:az) (v:Value) (w:World):Prop:=(∃(j:Nat) (t:Li),d.1[j]? =some k∧d.2[j]? =some t∧ch RT.li M w v t)∨(v= .pointer none∧k∉d.1)
theorem rJ.step {d:Di} {k:List UInt8} {M M':az} {v:Value} {w w':World} (h:rJ d k M v w) (s:Step M w M' w' aA):rJ d k M' v w':=h.imp (fun⟨j,t,h1,h2,h3⟩=>⟨j,t,h1,h2,h3.le (by decide) s.le⟩) id
theorem DT {M:az} {t:Fd} (w0:World) (hM:Lt M w0) (h1:t.1.length≤140737488355328) (h2:t.2.length≤140737488355328):
  Spec Tryz.prog 74 #[kv t] w0 (fun v w=>v= .string ⟨(dd t).toArray⟩∧Step M w0 M w aA):=by
 refine aW (args:=[_]) (fn:=Tryz.f74) Tryz.func74 rfl (n:=9) Tryz.ntmps74 ?_;have S:Step M w0 M w0 aA:=(an _ _).ca (fun _ h=>h.elim) (fun _ h=>h.elim);refine aj (ah ?_);refine jB (A:=RT.fd) rfl rfl hM (xG (by omega) (by omega)) rfl (fun u0 w1 cA s0 _=>?_);replace hM:=s0.lt hM;have:=S.size;replace S:=S.ax s0;refine ai rfl rfl (ad (aj (ah ?_)));refine aJ (M:=M) (A:=RT.fd) (B:=RT.str) cb rfl rfl I9 (by decide) (LV) rfl rfl (by decide) (by assumption) (by repeat (first|exact aq _ _|refine aT (a7 (by assumption)) ?_)) (fun uQ jN=>?_);refine cg (M:=M) aD rfl rfl rfl rfl rfl jN (aq _ _) (fun v1 gF=>?_);obtain rfl:=fD gF;refine Rg.cat (p:=t.1) (q:=[0]) rfl rfl rfl (by simp;omega) ?_;refine aJ (M:=M) (A:=RT.fd) (B:=RT.str) cb rfl rfl I9 (by decide) (Te) rfl rfl (by decide) (by assumption) (by repeat (first|exact aq _ _|refine aT (a7 (by assumption)) ?_)) (fun Fh fH=>?_);refine cg (M:=M) aD rfl rfl rfl rfl rfl fH (aq _ _) (fun v4 qH=>?_);obtain rfl:=fD qH;refine Rg.cat (p:=t.1++[0]) (q:=t.2) rfl rfl rfl (by simp;omega) (ai rfl rfl (ad (aH ?_)));exact aP rfl rfl ⟨rfl,S⟩
end Go.K
namespace Go.K
open Go.Proofs
namespace TKCursor
theorem ND:TI Tryz.prog 216 (.agg #[(.pointer none),(.int .i64 0),(.slice none 0 0),(.int .i64 0),(.int .i64 0)]) 5 56:=by unfold TI;kernel_rfl
theorem NF:placesOf Tryz.prog 216=[(0,1),(1,1),(2,1),(3,1),(4,1)].map some:=by kernel_rfl
end TKCursor
open TKCursor
set_option maxRecDepth 10000
theorem rK {l:List Po} {j:Nat} {p:Po} (h:l[j]? =some p):(jF l (j:Int))[0]? =some p:=by
 unfold jF;rw[if_neg (by omega),aC,dr,if_pos (by omega),List.getElem?_drop];simpa using h
theorem BP {l:List Po} {i:Int} (h:(l.length:Int)≤i):jF l i=[]:=by
 unfold jF;rw[if_neg (by omega),dP (by omega),List.take_nil]
theorem DV {M:az} {w0:World} {q:Addr} {l:List Po} (hv:ch RT.li M w0 (.pointer (some q)) (hU l)):
  Spec Tryz.prog 140 #[.pointer (some q)] w0 (fun v' w'=>∃bc,v'= .pointer (some ⟨bc,0,none⟩)∧w0.heap.size≤bc∧Step M w0 (ins M bc) w' aA∧Cu 216 l (-1) (ins M bc) w' bc):=by
 refine aW (args:=[_]) (fn:=Tryz.f140) Tryz.func140 rfl (n:=12) Tryz.ntmps140 (aj (ah (ai rfl rfl (ad (aj (aj (ah (ae rfl rfl (Rg.EO (v:= .pointer (some q)) cG rfl ⟨_,rfl⟩ rfl rfl (bp (v':= .bool (decide False)) rfl (ad ?_)))))))))));refine T.wT rfl ((fun h=>h)) (aU (aj (ah (ae rfl rfl (dX (places:=[(0,1),(1,1),(2,1),(3,1),(4,1)]) bA ND NF rfl ⟨_,_,rfl,rfl,_,_,rfl,rfl,_,_,rfl,rfl,rfl⟩ (out:=[_,_,.slice none 0 0,_,.int .i64 0]) ⟨0,[_],rfl,rfl,by simp[Value.cells],1,[_],rfl,rfl,by simp[Value.cells],3,[_],rfl,rfl,by simp[Value.cells],rfl⟩ ?_)))));refine mH M rfl rfl (fun bc w1 h1 H9 hS s1=>?_);refine ai rfl rfl (ad (aH ?_));exact aP rfl rfl ⟨bc,rfl,h1,s1,.pointer (some q),.slice none 0 0,-1,0,.inl rfl,hS,hv.le (by decide) s1.le,jK,by omega,by omega,fun _=>rfl,fun h=>by omega⟩
def pU (l:List Po) (i:Int):Int:=if i<l.length then i+1 else i
theorem Hg {l:List Po} (hm:dU (-1) l=true) {i:Int} (hi: -1≤i∧i≤l.length):qz l i (min (eI l i+1) 2147483648)=pU l i:=by
 unfold qz pU;rcases ju l i with⟨h0,h,_⟩|⟨j,d,ps,rfl,hx,h,_⟩|⟨h0,h,_⟩
 ·rw[h,if_neg (by omega),if_pos (by omega)];rw[idx_eq (i:=0) (fun j hj=>absurd hj (jQ _)) (fun p hp=>by have:=l0 hm (i:=0) (d:=p.1) (ps:=p.2) hp;omega) (bH _)];omega
 ·have hr:=l0 hm hx;have hj:=(au.1 hx).1;rw[h,if_neg (by omega),if_pos (by omega)];rw[idx_eq (i:=j+1) (fun t ht p hp=>?_) (fun p hp=>?_) (by omega)]
  ·omega
  ·rcases cB t j with h1|h1
   ·have:=Ch hm hp hx h1;simp only at this;omega
   ·rw[show t=j from by omega,hx]at hp;cases hp;simp only;omega
  ·have h1:=Ch hm hx hp (by omega);have h2:=l0 hm (i:=j+1) (d:=p.1) (ps:=p.2) hp;simp only at h1;omega
 ·rw[h,if_pos (by omega),if_neg (by omega)]
end Go.K
namespace Go.K
open Go.Proofs
namespace TKIdx
theorem Yq:Enters Tryz.prog 186:=enters Tryz.func186 rfl (by decide)
end TKIdx
open TKIdx
set_option maxRecDepth 10000
theorem DW {M:az} {w0:World} {x:Value} {d to:Int} {bt:Nat} (hM:Lt M w0) (hb:w0.heap[bt]? =some (.cells #[.int .i64 to] 3 (0,0))):
  Spec Tryz.prog 186 #[.agg #[.int .i64 d,x],.pointer (some ⟨bt,0,none⟩)] w0 (fun v' w'=>v'= .bool (decide (to≤d))∧Step M w0 M w' aA):=by
 refine aW (args:=[_,_]) (fn:=Tryz.f186) Tryz.func186 rfl (n:=8) Tryz.ntmps186 (aj (ah ?_));refine mH M rfl rfl (fun bx w1 h1 H9 hS s1=>?_);change w1.heap[bx]? =some (.cells #[.int .i64 d,x] _ _)at hS;have qh:=s1.aG hb;refine ai rfl rfl (ad (aj (ah (aS bK rfl rfl I3 (by decide) rfl rfl (aE ar rfl rfl rfl (by assumption) rfl (aE ar rfl rfl rfl (by assumption) rfl (dA rfl rfl rfl (ai rfl rfl (ad (aH ?_))))))))));exact aP rfl rfl ⟨rfl,s1.back⟩
set_option maxHeartbeats 2000000 in
theorem pV {M:az} {w0:World} {v:Value} {lf:List Po} {to:Int} {bt:Nat} (hM:Lt M w0) (hv:((RT.po).sl).V M w0 lf v) (hb:w0.heap[bt]? =some (.cells #[.int .i64 to] 3 (0,0))):
  Spec Tryz.prog 185 #[v,.func (.func 186) #[] #[.pointer (some ⟨bt,0,none⟩)]] w0 (fun v' w'=>v'= .int .i64 (if idx lf to<lf.length then(idx lf to:Int)else-1)∧Step M w0 M w' aA):=by
 have hlen:=ed hv;refine aW (args:=[_,_]) (fn:=Tryz.f185) Tryz.func185 rfl (n:=19) Tryz.ntmps185 (aj (ah (ai rfl rfl (ad (aj (aj (ah (ae rfl rfl (bU aX rfl hv rfl (ae rfl rfl (ad ?_)))))))))));refine bj ?_;refine dI (σ:=Nat) (fun s=>[(0,v),(1,.func (.func 186) #[] #[.pointer (some ⟨bt,0,none⟩)]),(7,.int .i64 lf.length),(8,.int .i64 s)]) (fun s w=>s≤lf.length∧Step M w0 M w aA∧∀j,j<s→∀p,lf[j]? =some p→p.1<to) (fun s=>lf.length-s) 0 (.cons rfl (.cons rfl (.cons rfl (.cons rfl .nil)))) ?_ ?_
 ·exact⟨bH _,an _ _,fun j hj=>absurd hj (jQ _)⟩
 ·rintro k w1 ⟨hk,S,dy⟩;refine aj (ah (cf rfl rfl rfl (ad (aj ?_))));refine bF rfl (fun c2=>?_) (fun c2=>?_)
  ·refine aU (aj (bj (aj (ah (ae rfl rfl (ai rfl rfl (ad (aj (ah (ae rfl rfl (ae rfl rfl ?_)))))))))));refine ae rfl rfl ?_;obtain⟨⟨d,ps⟩,hx⟩:∃x,(lf)[k]? =some x:=⟨_,aL (by omega)⟩;refine dq (M:=M) aX gC rfl rfl rfl (hv.le S.le) (aq _ _) (by first|omega|decide) (fun PE Yr RP abL=>?_);obtain rfl:(d,ps)=Yr:=eP (bQ (RP.symm.trans (by simpa using hx)));refine cw (M:=M) (A:=RT.po) bK rfl gC (by decide) rfl rfl rfl (by assumption) (by repeat (first|exact aq _ _|refine aT (a7 (by assumption)) ?_)) (fun afz RQ=>?_);obtain⟨x4,rfl,_,_⟩:=Lo RQ;refine Rg.mV (first:=[]) (captured:=[.pointer (some ⟨bt,0,none⟩)]) (xs:=[.tmp 15]) rfl rfl rfl Yq (DW (M:=M) (d:=d) (x:=x4) (S.lt hM) (S.aG hb)) (fun r w2 h2=>?_);obtain⟨rfl,s2⟩:=h2;refine ad ?_;refine bF rfl (fun c4=>?_) (fun c4=>?_)
   ·refine aj (ah (ae rfl rfl (ai rfl rfl (ad (aH ?_)))));have he:idx lf to=k:=idx_eq dy (fun p hp=>by rw[hx]at hp;cases hp;exact c4) hk;exact aP rfl rfl ⟨by rw[he,if_pos (by omega)],S.ax s2⟩
   ·refine aU (ah (bz rfl rfl rfl (by omega) (ae rfl rfl (ad ?_))));refine⟨rfl,k+1,(.cons rfl (.cons rfl (.cons rfl (.cons rfl .nil)))),?_,?_⟩
    ·refine⟨by omega,S.ax s2,fun j hj p hp=>?_⟩;rcases cB j k with OB|OB
     ·exact dy j OB p hp
     ·rw[show j=k from by omega,hx]at hp;cases hp;simp only;omega
    ·show _-(k+1)<_-k;omega
  ·refine cM (aj (ah (ai rfl rfl (ad (aH ?_)))))
   have he:idx lf to=lf.length:=by
    obtain rfl:k=lf.length:=by omega
    exact idx_eq dy (fun p hp=>by simp at hp) (a8 _)
   exact aP rfl rfl ⟨by rw[he,if_neg (by omega)],S⟩
end Go.K
namespace Go.K
open Go.Proofs
namespace TKAdv
theorem jZ:TI Tryz.prog 107 (.slice none 0 0) 1 24:=by unfold TI;kernel_rfl
theorem Ys:Enters Tryz.prog 141:=enters Tryz.func141 rfl (by decide)
theorem Yt:Enters Tryz.prog 180:=enters Tryz.func180 rfl (by decide)
theorem Jt:Enters Tryz.prog 183:=enters Tryz.func183 rfl (by decide)
theorem Yu:Enters Tryz.prog 184:=enters Tryz.func184 rfl (by decide)
theorem RR:Enters Tryz.prog 185:=enters Tryz.func185 rfl (by decide)
end TKAdv
open TKAdv
set_option maxRecDepth 10000
set_option maxHeartbeats 2000000 in
theorem xZ {M:az} {w0:World} {bc:Nat} {l:List Po} {i to:Int} (h:Cu 216 l i M w0 bc) (hM:Lt M w0) (hm:dU (-1) l=true) (rN:∀p∈l,p.2.length≤1099511627776) (zG:(dz (-1) l).length≤1099511627776) (HZ:l.length≤1099511627776) (K9: -9223372036854775808≤to∧to≤9223372036854775807):
  Spec Tryz.prog 141 #[.pointer (some ⟨bc,0,none⟩),.int .i64 to] w0 (fun v' w'=>v'= .int .i64 (eI l (qz l i to))∧Step M w0 M w' (fun b=>b=bc)∧Cu 216 l (qz l i to) M w' bc):=by
 obtain⟨p,u,k,Eg,OC,hb,hp,hu,hi,hk,Pc,og⟩:=id h;have Ea:(hU l).2.1.length=(l.length+7)/8:=by simp[hU,mJ]
 have yk:∀b:Nat,b=bc→M b:=fun b hb=>by rw[hb];exact OC
 have hdr:=vN hm i;refine aW (args:=[_,_]) (fn:=Tryz.f141) Tryz.func141 rfl (n:=107) Tryz.ntmps141 (aj (ah ?_));refine mH M rfl rfl (fun bt w1 ht ht' hT s1=>?_);change w1.heap[bt]? =some (.cells #[.int .i64 to] _ _)at hT;have DP:bt≠bc:=by have:=ak hb;omega
 have qh:=s1.aG hb;generalize vr:ins M bt=M1 at s1;have rT:=s1.lt hM;have Kv:=hp.le (by decide) s1.le;have N6:=hu.le s1.le;have vu:=(s1.mem bc (ak hb)).2 OC;have hcM:∀b:Nat,b=bc→M1 b:=fun b h=>by rw[h];exact vu
 refine ai rfl rfl (ad (aj (aj ?_)));apply T.draw (M:=M1) mixed [b9.eq _,b9.eq _,b9.eq _,b9.eq _,b9.eq _,b9.eq _]
 ·rfl
 ·refine aK ?_ ?_
  ·intro wD E sD;refine aE ar rfl rfl rfl (bS sD (by assumption)) rfl ?_;exact ad ⟨rfl,rfl,_,rfl,rfl,an _ _⟩
  refine aK ?_ ?_
  ·intro wD E sD;refine ae rfl rfl ?_;exact ad ⟨rfl,rfl,_,rfl,rfl,an _ _⟩
  refine aK ?_ ?_
  ·intro wD E sD;refine aw (aR rfl ⟨_,rfl⟩ rfl ?_);exact ad ⟨rfl,rfl,_,rfl,rfl,an _ _⟩
  refine aK ?_ ?_
  ·intro wD E sD;refine aw (aS bA rfl rfl I3 (by decide) rfl rfl ?_);exact ad ⟨rfl,rfl,_,rfl,rfl,an _ _⟩
  refine aK ?_ ?_
  ·intro wD E sD;refine aw (aE ar rfl rfl rfl (bS sD (by assumption)) rfl ?_);exact ad ⟨rfl,rfl,_,rfl,rfl,an _ _⟩
  refine aK ?_ ?_
  ·intro wD E sD;refine aw (aw (eM rfl rfl rfl ?_));exact ad ⟨rfl,rfl,_,rfl,rfl,an _ _⟩
  exact bX.nil
 ·intro Cn hY;refine aw (aw (aw (aw (aw (aw ?_)))));have yf:=hY.aG qh;refine bF rfl (fun c1=>?_) (fun c1=>?_)
  ·refine aj (ah (ae rfl rfl (aR rfl ⟨_,rfl⟩ rfl (aS bA rfl rfl I3 (by decide) rfl rfl (aE ar rfl rfl rfl (by assumption) rfl (ai rfl rfl (ad (aH ?_))))))));have he:qz l i to=i:=by unfold qz;rw[if_pos c1]
   rw[he];have S:=s1.ax hY;exact aP rfl rfl ⟨rfl,S.back.ca (fun _ h=>h.elim) yk,h.step S.back (fun h=>h)⟩
  ·refine aU (aj (ah (ae rfl rfl (aR rfl ⟨_,rfl⟩ rfl (aS bA rfl rfl I3 (by decide) rfl rfl (aE ar rfl rfl rfl (by assumption) rfl (Rg.max2 rfl rfl rfl (ai rfl rfl (ad (aj (bj ?_)))))))))));refine dI (σ:=Nat) (fun s=>[(0,.pointer (some ⟨bc,0,none⟩)),(3,.pointer (some ⟨bt,0,none⟩)),(5,.int .i64 s)]) (fun s w=>s≤(l.length+7)/8∧bW (-1) (l.take (8*s))<to∧Step M1 w1 M1 w aA) (fun s=>(l.length+7)/8-s) (max k 0).toNat (.cons rfl (.cons rfl (.cons (by rw[show(((max k 0).toNat:Nat):Int)=max k 0 from by omega];rfl) .nil))) ?_ ?_
   ·exact⟨by omega,Df hm hi hk Pc og (by omega),hY⟩
   ·rintro n w4 ⟨hn,Ef,S4⟩;have Jf:=S4.aG qh;have OD:=S4.aG hT;have Ep:=Kv.le (by decide) S4.le;refine aj (aj ?_);by_cases RS:(n:Int)<(((l.length+7)/8:Nat):Int)
    ·apply T.draw (M:=M1) mixed [b9.eq _,b9.eq _,b9.eq _,b9.eq _,b9.eq _,b9.eq _,b9.eq _,b9.eq (.bool true),b9.eq _,b9.eq _,b9.eq _,b9.eq _,b9.eq _,b9.eq _,b9.eq _,b9.eq _,b9.eq _]
     ·rfl
     ·refine aK ?_ ?_
      ·intro wD E sD;refine ae rfl rfl ?_;exact ad ⟨rfl,rfl,_,rfl,rfl,an _ _⟩
      refine aK ?_ ?_
      ·intro wD E sD;refine ae rfl rfl ?_;exact ad ⟨rfl,rfl,_,rfl,rfl,an _ _⟩
      refine aK ?_ ?_
      ·intro wD E sD;refine aw (aR rfl ⟨_,rfl⟩ rfl ?_);exact ad ⟨rfl,rfl,_,rfl,rfl,an _ _⟩
      refine aK ?_ ?_
      ·intro wD E sD;refine aw (aS bA rfl rfl oR (by decide) rfl rfl ?_);exact ad ⟨rfl,rfl,_,rfl,rfl,an _ _⟩
      refine aK ?_ ?_
      ·intro wD E sD;refine aw (aE cG rfl rfl rfl (bS sD (by assumption)) rfl ?_);exact ad ⟨rfl,rfl,_,rfl,rfl,an _ _⟩
      refine aK ?_ ?_
      ·intro wD E sD;refine aw ?_;refine aM rfl rfl Jt (kV (M:=M1) (Ep.le (by decide) sD.le)) (fun r wc h=>?_);obtain⟨rfl,rfl⟩:=h;exact ad ⟨rfl,rfl,_,rfl,congrArg (fun n:Nat=>Value.int .i64 n) Ea,an _ _⟩
      refine aK ?_ ?_
      ·intro wD E sD;refine aw (aw (cf rfl rfl rfl ?_));exact ad ⟨rfl,rfl,_,rfl,rfl,an _ _⟩
      refine aK ?_ ?_
      ·intro wD E sD;refine aw (aw (ae rfl rfl ?_));refine ad ⟨rfl,rfl,_,rfl,?_,an _ _⟩;exact congrArg Value.bool (decide_eq_true RS)
      refine aK ?_ ?_
      ·intro wD E sD;refine aw (al rfl rfl (ae rfl rfl ?_));exact ad ⟨rfl,rfl,_,rfl,rfl,an _ _⟩
      refine aK ?_ ?_
      ·intro wD E sD;refine aw (aw (al rfl rfl (aR rfl ⟨_,rfl⟩ rfl ?_)));exact ad ⟨rfl,rfl,_,rfl,rfl,an _ _⟩
      refine aK ?_ ?_
      ·intro wD E sD;refine aw (aw (al rfl rfl (aS bA rfl rfl oR (by decide) rfl rfl ?_)));exact ad ⟨rfl,rfl,_,rfl,rfl,an _ _⟩
      refine aK ?_ ?_
      ·intro wD E sD;refine aw (aw (al rfl rfl (aE cG rfl rfl rfl (bS sD (by assumption)) rfl ?_)));exact ad ⟨rfl,rfl,_,rfl,rfl,an _ _⟩
      refine aK ?_ ?_
      ·intro wD E sD;refine aw (al rfl rfl (ae rfl rfl ?_));exact ad ⟨rfl,rfl,_,rfl,rfl,an _ _⟩
      refine aK ?_ ?_
      ·intro wD E sD;refine aw (aw (aw (aw (al rfl rfl ?_))));refine aM rfl rfl Yu (DN (k:=n) (Ep.le (by decide) sD.le)) (fun r wc h=>?_);obtain⟨rfl,rfl⟩:=h;exact ad ⟨rfl,rfl,_,rfl,rfl,an _ _⟩
      refine aK ?_ ?_
      ·intro wD E sD;refine aw (al rfl rfl (aE ar rfl rfl rfl (bS sD (by assumption)) rfl ?_));exact ad ⟨rfl,rfl,_,rfl,rfl,an _ _⟩
      refine aK ?_ ?_
      ·intro wD E sD;refine aw (aw (aw (al rfl rfl (cf rfl rfl rfl ?_))));exact ad ⟨rfl,rfl,_,rfl,rfl,an _ _⟩
      refine aK ?_ ?_
      ·intro wD E sD;refine aw (aw (aQ rfl rfl rfl ?_));exact ad ⟨rfl,rfl,_,rfl,rfl,an _ _⟩
      exact bX.nil
     ·intro wD4 wu;refine aw (aw (aw (aw (aw (aw (aw (aw (aw (aw (aw (aw ?_)))))))))));refine aw (aw (aw (aw (aw ?_))));replace S4:=S4.ax wu;replace Jf:=wu.aG Jf;replace OD:=wu.aG OD;replace Ep:=Ep.le (by decide) wu.le;have Nn:=S4.lt rT;refine bF rfl (fun c4=>?_) (fun c4=>?_)
      ·refine aU (bj (ah (ae rfl rfl (bz rfl rfl rfl (by omega) (ai rfl rfl (ad ?_))))));refine⟨rfl,n+1,(.cons rfl (.cons rfl (.cons rfl .nil))),?_,?_⟩
       ·have rh:=yK (g:=l) (k:=n) (by omega);refine⟨by omega,?_,S4⟩;rw[show 8*(n+1)=8*n+8 from by omega,←rh];exact c4
       ·show _-(n+1)<_-n;omega
      ·refine cM (aj (aj (ah (ae rfl rfl (ae rfl rfl (aR rfl ⟨_,rfl⟩ rfl (aS bA rfl rfl oR (by decide) rfl rfl (aE cG rfl rfl rfl (by assumption) rfl ?_))))))));refine aM rfl rfl Jt (kV (M:=M1) Ep) (fun r wc h=>?_);obtain⟨rfl,rfl⟩:=h;refine bp (v':= .int .i64 (((l.length+7)/8:Nat):Int)) (congrArg (fun n:Nat=>Value.int .i64 n) Ea) (Rg.Ay rfl rfl rfl (ad ?_));refine bF rfl (fun c6=>?_) (fun c6=>?_)
       ·exfalso;omega
       ·have hnk:n<(l.length+7)/8:=by omega
        have Pb:to≤bW (-1) (l.take (8*n+8)):=by
         first
         |(exfalso;omega)
         |(have:=yK (g:=l) (k:=n) (by omega);omega)
        refine aU (aj (aj (ah (ae rfl rfl (ae rfl rfl (aR rfl ⟨_,rfl⟩ rfl (aS bA rfl rfl I3 (by decide) rfl rfl (aE ar rfl rfl rfl (by assumption) rfl (eN rfl rfl rfl (ad ?_))))))))));refine bF rfl (fun c9=>?_) (fun c9=>?_)
        ·refine aj (ah (ae rfl rfl (ae rfl rfl (ae rfl rfl (ae rfl rfl (aR rfl ⟨_,rfl⟩ rfl (aS bA rfl rfl oR (by decide) rfl rfl (aE cG rfl rfl rfl (by assumption) rfl (ae rfl rfl ?_)))))))));refine aM rfl rfl Yt (BD (M:=M1) (k:=n) Nn Ep hm rN zG) (fun Tg VK h=>?_);obtain⟨qi,DJ⟩:=h;rw[if_pos (by unfold ET;simp;omega),aC]at DJ;have Yv:=qi.aG Jf;refine aR rfl ⟨_,rfl⟩ rfl (aS bA rfl rfl I3 (by decide) rfl rfl ?_);refine bP (M:=M1) I3 rfl rfl Yv rfl rfl vu (fun Rz RU o7=>?_);change Rz.heap[bc]? =some (.cells #[p,.int .i64 n,u,.int .i64 (eI l i),.int .i64 Eg] 216 (0,0))at RU;refine aR rfl ⟨_,rfl⟩ rfl (aS bA rfl rfl jZ (by decide) rfl rfl ?_);refine bP (M:=M1) jZ rfl rfl RU rfl (km DJ rfl rfl) vu (fun Fq Ju kL=>?_);change Fq.heap[bc]? =some (.cells #[p,.int .i64 n,Tg,.int .i64 (eI l i),.int .i64 Eg] 216 (0,0))at Ju;refine ad (ah (ae rfl rfl (aR rfl ⟨_,rfl⟩ rfl (aS bA rfl rfl I3 (by decide) rfl rfl (aE ar rfl rfl rfl (by assumption) rfl (Rg.wV rfl rfl rfl (aR rfl ⟨_,rfl⟩ rfl (aS bA rfl rfl I3 (by decide) rfl rfl ?_))))))));refine bP (M:=M1) I3 rfl rfl Ju rfl rfl vu (fun Om NG rS=>?_);change Om.heap[bc]? =some (.cells #[p,.int .i64 n,Tg,.int .i64 (eI l i),.int .i64 (IntKind.i64.wrap (Eg+1))] 216 (0,0))at NG;obtain⟨lf,uX,cX,s,wX,Yw,Yx,RV,Ln,KY,yi,Yy,Yz,hpX,YA,SX⟩:∃lf uX cX s wX,wX=Om∧wX.heap[bc]? =some (.cells #[p,.int .i64 n,uX,.int .i64 (eI l i),.int .i64 cX] 216 (0,0))∧((RT.po).sl).V M1 wX lf uX∧lf=(l.drop s).take (8*n+8-s)∧8*n≤s∧s<8*n+8∧s<l.length∧bW (-1) (l.take s)<to∧ch RT.li M1 wX p (hU l)∧wX.heap[bt]? =some (.cells #[.int .i64 to] 3 (0,0))∧Step M1 w1 M1 wX (fun b=>b=bc):=⟨_,Tg,_,8*n,Om,rfl,NG,((DJ.le o7.le).le kL.le).le rS.le,by rw[show 8*n+8-8*n=8 from by omega],by omega,by omega,by omega,Ef,(((Ep.le (by decide) qi.le).le (by decide) o7.le).le (by decide) kL.le).le (by decide) rS.le,rS.bE (kL.bE (o7.bE (qi.aG OD) DP) DP) DP,((((S4.ca (fun _ h=>h.elim) hcM).ax qi).trans o7 (fun _ _ h=>h)).trans kL (fun _ _ h=>h)).trans rS (fun _ _ h=>h)⟩
         subst Yw;clear NG;refine ad (aj ?_);obtain⟨Ug,N8,YB,ha4,YC⟩:=vQ hm KY yi Yy Yz Pb Ln;have YD:=SX.lt rT;obtain⟨⟨d,ps⟩,hx⟩:∃x,l[idx l to]? =some x:=⟨_,aL YB⟩;have hh:=rK hx;have hhl:=(au.1 hh).1;apply T.Ce (M:=M1) mixed [] [b9.eq _,b9.eq _,b9.eq _,b9.eq _,b9.eq uX,b9.eq _,b9.eq _,b9.eq _,b9.eq uX,b9.eq _,b9.eq _,b9.V ((RT.po).sl) (jF l (idx l to:Nat))] 12
         ·rfl
         ·rfl
         ·rfl
         ·rfl
         ·rfl
         ·exact fun p hp=>by cases hp
         ·exact rO.none
         ·refine aF ?_ ?_
          ·intro wD E sD;refine ae rfl rfl ?_;exact ad ⟨rfl,rfl,_,rfl,rfl,an _ _⟩
          refine aF ?_ ?_
          ·intro wD E sD;refine ae rfl rfl ?_;exact ad ⟨rfl,rfl,_,rfl,rfl,an _ _⟩
          refine aF ?_ ?_
          ·intro wD E sD;refine aw (aR rfl ⟨_,rfl⟩ rfl ?_);exact ad ⟨rfl,rfl,_,rfl,rfl,an _ _⟩
          refine aF ?_ ?_
          ·intro wD E sD;refine aw (aS bA rfl rfl jZ (by decide) rfl rfl ?_);exact ad ⟨rfl,rfl,_,rfl,rfl,an _ _⟩
          refine aF ?_ ?_
          ·intro wD E sD;refine aw (aE aX rfl rfl rfl (bS sD (by assumption)) rfl ?_);exact ad ⟨rfl,rfl,_,rfl,rfl,an _ _⟩
          refine aF ?_ ?_
          ·intro wD E sD;refine ae rfl rfl ?_;exact ad ⟨rfl,rfl,_,rfl,rfl,an _ _⟩
          refine aF ?_ ?_
          ·intro wD E sD;refine aw (aR rfl ⟨_,rfl⟩ rfl ?_);exact ad ⟨rfl,rfl,_,rfl,rfl,an _ _⟩
          refine aF ?_ ?_
          ·intro wD E sD;refine aw (aS bA rfl rfl jZ (by decide) rfl rfl ?_);exact ad ⟨rfl,rfl,_,rfl,rfl,an _ _⟩
          refine aF ?_ ?_
          ·intro wD E sD;refine aw (aE aX rfl rfl rfl (bS sD (by assumption)) rfl ?_);exact ad ⟨rfl,rfl,_,rfl,rfl,an _ _⟩
          refine aF ?_ ?_
          ·intro wD E sD;refine iD (xs:=[]) (ys:=[.tmp 3]) rfl rfl rfl ?_;exact ad ⟨rfl,rfl,_,rfl,rfl,an _ _⟩
          refine aF ?_ ?_
          ·intro wD E sD;refine aw (aw ?_);refine aM rfl rfl RR (pV (M:=M1) (sD.lt YD) (RV.le sD.le) (sD.aG YA)) (fun r wi h=>?_);obtain⟨rfl,s⟩:=h;refine bp (v':= .int .i64 ((idx lf to:Nat):Int)) (by rw[if_pos N8]) ?_;exact ad ⟨rfl,rfl,_,rfl,rfl,s⟩
          refine aF ?_ ?_
          ·intro wD E sD;refine aw (aw ?_);refine Rg.wW (A:=RT.po) (hn:=by decide) aX gC rfl rfl rfl (RV.le sD.le) (by omega) (fun u hu=>?_);rw[aC,YC]at hu;exact ad ⟨rfl,rfl,_,rfl,hu,an _ _⟩
          exact bD.nil
         ·intro GZ tZ;refine aw (aw (aw (aw (aw (aw (aw (aw (aw (aw (aw ?_))))))))));intro mh x2;have NH:=tZ.aG Yx;have jo:((RT.po).sl).V M1 GZ (jF l (idx l to:Nat)) mh:=x2;have YE:=SX.ax tZ;refine aR rfl ⟨_,rfl⟩ rfl (aS bA rfl rfl jZ (by decide) rfl rfl ?_);refine bP (M:=M1) jZ rfl rfl NH rfl (km jo rfl rfl) vu (fun Qd Hh xE=>?_);change Qd.heap[bc]? =some (.cells #[p,.int .i64 n,mh,.int .i64 (eI l i),.int .i64 cX] 216 (0,0))at Hh;replace jo:=jo.le xE.le;refine ad (aj (ah (ae rfl rfl (ae rfl rfl (aR rfl ⟨_,rfl⟩ rfl (aS bA rfl rfl jZ (by decide) rfl rfl (aE aX rfl rfl rfl (by assumption) rfl ?_)))))));refine dq (M:=M1) aX gC rfl rfl rfl (jo) (aq _ _) (by first|omega|decide) (fun RW Hi BQ NI=>?_);obtain rfl:(d,ps)=Hi:=eP (bQ (BQ.symm.trans (by simpa using hh)));refine aJ (M:=M1) (A:=RT.po) (B:=RT.int .i64) bK rfl rfl I3 (by decide) (HG) rfl rfl (by decide) (by assumption) (by repeat (first|exact aq _ _|refine aT (a7 (by assumption)) ?_)) (fun Ka FB=>?_);refine cd (M:=M1) ar rfl rfl (by assumption) (by repeat (first|exact aq _ _|refine aT (a7 (by assumption)) ?_)) (fun uc=>?_);refine bp (v':= .int .i64 (d)) rfl ?_;replace uc: -9223372036854775808≤(d:Int)∧d≤9223372036854775807:=uc;refine aR rfl ⟨_,rfl⟩ rfl (aS bA rfl rfl I3 (by decide) rfl rfl ?_);refine bP (M:=M1) I3 rfl rfl Hh rfl rfl vu (fun Ji Hj yn=>?_);change Ji.heap[bc]? =some (.cells #[p,.int .i64 n,mh,.int .i64 d,.int .i64 cX] 216 (0,0))at Hj;replace jo:=jo.le yn.le;refine ad (aj (ah (ae rfl rfl (aR rfl ⟨_,rfl⟩ rfl (aS bA rfl rfl I3 (by decide) rfl rfl (aE ar rfl rfl rfl (by assumption) rfl (ai rfl rfl (ad (aH ?_)))))))))
          have he:qz l i to=(idx l to:Int):=by unfold qz;rw[if_neg c1]
          rw[he];have S7:=((s1.ca (fun _ h=>h.elim) yk).trans ((YE.trans xE (fun _ _ h=>h)).trans yn (fun _ _ h=>h)) (fun _ _ h=>h));exact aP rfl rfl ⟨by rw[ir hx];rfl,S7.back,p,mh,n,cX,OC,by rw[ir hx];exact Hj,(hp.le (by decide) S7.back.le),jo.le (Le.close hM S7),by omega,by omega,fun h=>by omega,fun _ h=>by omega⟩
        ·have afE:=(jf l (-1) hm (by decide) (8*n+8)).2
         obtain⟨SP,vE⟩:0≤i∧i<l.length:=by
          rcases ju l i with⟨h0,_⟩|⟨j,d,ps,rfl,hx,_⟩|⟨h0,h1,_⟩
          ·have:=Pc h0;omega
          ·have:=(au.1 hx).1;omega
          ·omega
         have uK:=og SP vE;obtain⟨j,fZ⟩:∃j:Nat,i=j:=⟨i.toNat,by omega⟩;obtain⟨⟨dj,pj⟩,hxj⟩:∃x,l[j]? =some x:=⟨_,aL (by omega)⟩;have hdj:=ir hxj;rw[←fZ]at hdj;have N7:=(nf hm hxj).1;obtain rfl:(n:Int)=k:=by omega
         have AA:=N6.le S4.le;obtain⟨lf,uX,cX,s,wX,Yw,Yx,RV,Ln,KY,yi,Yy,Yz,hpX,YA,SX⟩:∃lf uX cX s wX,wX=_∧wX.heap[bc]? =some (.cells #[p,.int .i64 n,uX,.int .i64 (eI l i),.int .i64 cX] 216 (0,0))∧((RT.po).sl).V M1 wX lf uX∧lf=(l.drop s).take (8*n+8-s)∧8*n≤s∧s<8*n+8∧s<l.length∧bW (-1) (l.take s)<to∧ch RT.li M1 wX p (hU l)∧wX.heap[bt]? =some (.cells #[.int .i64 to] 3 (0,0))∧Step M1 w1 M1 wX (fun b=>b=bc):=⟨_,u,Eg,j,_,rfl,Jf,AA,by rw[fZ];unfold jF;rw[if_neg (by omega),aC,show 8*n+8-j=8-j%8 from by omega],by omega,by omega,by omega,by omega,Ep,OD,S4.ca (fun _ h=>h.elim) hcM⟩;subst Yw;clear Jf;refine aU (aj ?_);obtain⟨Ug,N8,YB,ha4,YC⟩:=vQ hm KY yi Yy Yz Pb Ln;have YD:=SX.lt rT;obtain⟨⟨d,ps⟩,hx⟩:∃x,l[idx l to]? =some x:=⟨_,aL YB⟩;have hh:=rK hx;have hhl:=(au.1 hh).1;apply T.Ce (M:=M1) mixed [] [b9.eq _,b9.eq _,b9.eq _,b9.eq _,b9.eq uX,b9.eq _,b9.eq _,b9.eq _,b9.eq uX,b9.eq _,b9.eq _,b9.V ((RT.po).sl) (jF l (idx l to:Nat))] 12
         ·rfl
         ·rfl
         ·rfl
         ·rfl
         ·rfl
         ·exact fun p hp=>by cases hp
         ·exact rO.none
         ·refine aF ?_ ?_
          ·intro wD E sD;refine ae rfl rfl ?_;exact ad ⟨rfl,rfl,_,rfl,rfl,an _ _⟩
          refine aF ?_ ?_
          ·intro wD E sD;refine ae rfl rfl ?_;exact ad ⟨rfl,rfl,_,rfl,rfl,an _ _⟩
          refine aF ?_ ?_
          ·intro wD E sD;refine aw (aR rfl ⟨_,rfl⟩ rfl ?_);exact ad ⟨rfl,rfl,_,rfl,rfl,an _ _⟩
          refine aF ?_ ?_
          ·intro wD E sD;refine aw (aS bA rfl rfl jZ (by decide) rfl rfl ?_);exact ad ⟨rfl,rfl,_,rfl,rfl,an _ _⟩
          refine aF ?_ ?_
          ·intro wD E sD;refine aw (aE aX rfl rfl rfl (bS sD (by assumption)) rfl ?_);exact ad ⟨rfl,rfl,_,rfl,rfl,an _ _⟩
          refine aF ?_ ?_
          ·intro wD E sD;refine ae rfl rfl ?_;exact ad ⟨rfl,rfl,_,rfl,rfl,an _ _⟩
          refine aF ?_ ?_
          ·intro wD E sD;refine aw (aR rfl ⟨_,rfl⟩ rfl ?_);exact ad ⟨rfl,rfl,_,rfl,rfl,an _ _⟩
          refine aF ?_ ?_
          ·intro wD E sD;refine aw (aS bA rfl rfl jZ (by decide) rfl rfl ?_);exact ad ⟨rfl,rfl,_,rfl,rfl,an _ _⟩
          refine aF ?_ ?_
          ·intro wD E sD;refine aw (aE aX rfl rfl rfl (bS sD (by assumption)) rfl ?_);exact ad ⟨rfl,rfl,_,rfl,rfl,an _ _⟩
          refine aF ?_ ?_
          ·intro wD E sD;refine iD (xs:=[]) (ys:=[.tmp 3]) rfl rfl rfl ?_;exact ad ⟨rfl,rfl,_,rfl,rfl,an _ _⟩
          refine aF ?_ ?_
          ·intro wD E sD;refine aw (aw ?_);refine aM rfl rfl RR (pV (M:=M1) (sD.lt YD) (RV.le sD.le) (sD.aG YA)) (fun r wi h=>?_);obtain⟨rfl,s⟩:=h;refine bp (v':= .int .i64 ((idx lf to:Nat):Int)) (by rw[if_pos N8]) ?_;exact ad ⟨rfl,rfl,_,rfl,rfl,s⟩
          refine aF ?_ ?_
          ·intro wD E sD;refine aw (aw ?_);refine Rg.wW (A:=RT.po) (hn:=by decide) aX gC rfl rfl rfl (RV.le sD.le) (by omega) (fun u hu=>?_);rw[aC,YC]at hu;exact ad ⟨rfl,rfl,_,rfl,hu,an _ _⟩
          exact bD.nil
         ·intro GZ tZ;refine aw (aw (aw (aw (aw (aw (aw (aw (aw (aw (aw ?_))))))))));intro mh x2;have NH:=tZ.aG Yx;have jo:((RT.po).sl).V M1 GZ (jF l (idx l to:Nat)) mh:=x2;have YE:=SX.ax tZ;refine aR rfl ⟨_,rfl⟩ rfl (aS bA rfl rfl jZ (by decide) rfl rfl ?_);refine bP (M:=M1) jZ rfl rfl NH rfl (km jo rfl rfl) vu (fun Qd Hh xE=>?_);change Qd.heap[bc]? =some (.cells #[p,.int .i64 n,mh,.int .i64 (eI l i),.int .i64 cX] 216 (0,0))at Hh;replace jo:=jo.le xE.le;refine ad (aj (ah (ae rfl rfl (ae rfl rfl (aR rfl ⟨_,rfl⟩ rfl (aS bA rfl rfl jZ (by decide) rfl rfl (aE aX rfl rfl rfl (by assumption) rfl ?_)))))));refine dq (M:=M1) aX gC rfl rfl rfl (jo) (aq _ _) (by first|omega|decide) (fun RW Hi BQ NI=>?_);obtain rfl:(d,ps)=Hi:=eP (bQ (BQ.symm.trans (by simpa using hh)));refine aJ (M:=M1) (A:=RT.po) (B:=RT.int .i64) bK rfl rfl I3 (by decide) (HG) rfl rfl (by decide) (by assumption) (by repeat (first|exact aq _ _|refine aT (a7 (by assumption)) ?_)) (fun Ka FB=>?_);refine cd (M:=M1) ar rfl rfl (by assumption) (by repeat (first|exact aq _ _|refine aT (a7 (by assumption)) ?_)) (fun uc=>?_);refine bp (v':= .int .i64 (d)) rfl ?_;replace uc: -9223372036854775808≤(d:Int)∧d≤9223372036854775807:=uc;refine aR rfl ⟨_,rfl⟩ rfl (aS bA rfl rfl I3 (by decide) rfl rfl ?_);refine bP (M:=M1) I3 rfl rfl Hh rfl rfl vu (fun Ji Hj yn=>?_);change Ji.heap[bc]? =some (.cells #[p,.int .i64 n,mh,.int .i64 d,.int .i64 cX] 216 (0,0))at Hj;replace jo:=jo.le yn.le;refine ad (aj (ah (ae rfl rfl (aR rfl ⟨_,rfl⟩ rfl (aS bA rfl rfl I3 (by decide) rfl rfl (aE ar rfl rfl rfl (by assumption) rfl (ai rfl rfl (ad (aH ?_)))))))))
          have he:qz l i to=(idx l to:Int):=by unfold qz;rw[if_neg c1]
          rw[he];have S7:=((s1.ca (fun _ h=>h.elim) yk).trans ((YE.trans xE (fun _ _ h=>h)).trans yn (fun _ _ h=>h)) (fun _ _ h=>h));exact aP rfl rfl ⟨by rw[ir hx];rfl,S7.back,p,mh,n,cX,OC,by rw[ir hx];exact Hj,(hp.le (by decide) S7.back.le),jo.le (Le.close hM S7),by omega,by omega,fun h=>by omega,fun _ h=>by omega⟩
    ·apply T.draw (M:=M1) mixed [b9.eq _,b9.eq _,b9.eq _,b9.eq _,b9.eq _,b9.eq _,b9.eq _,b9.eq (.bool false),b9.eq undef,b9.eq undef,b9.eq undef,b9.eq undef,b9.eq undef,b9.eq undef,b9.eq undef,b9.eq undef,b9.eq _]
     ·rfl
     ·refine aK ?_ ?_
      ·intro wD E sD;refine ae rfl rfl ?_;exact ad ⟨rfl,rfl,_,rfl,rfl,an _ _⟩
      refine aK ?_ ?_
      ·intro wD E sD;refine ae rfl rfl ?_;exact ad ⟨rfl,rfl,_,rfl,rfl,an _ _⟩
      refine aK ?_ ?_
      ·intro wD E sD;refine aw (aR rfl ⟨_,rfl⟩ rfl ?_);exact ad ⟨rfl,rfl,_,rfl,rfl,an _ _⟩
      refine aK ?_ ?_
      ·intro wD E sD;refine aw (aS bA rfl rfl oR (by decide) rfl rfl ?_);exact ad ⟨rfl,rfl,_,rfl,rfl,an _ _⟩
      refine aK ?_ ?_
      ·intro wD E sD;refine aw (aE cG rfl rfl rfl (bS sD (by assumption)) rfl ?_);exact ad ⟨rfl,rfl,_,rfl,rfl,an _ _⟩
      refine aK ?_ ?_
      ·intro wD E sD;refine aw ?_;refine aM rfl rfl Jt (kV (M:=M1) (Ep.le (by decide) sD.le)) (fun r wc h=>?_);obtain⟨rfl,rfl⟩:=h;exact ad ⟨rfl,rfl,_,rfl,congrArg (fun n:Nat=>Value.int .i64 n) Ea,an _ _⟩
      refine aK ?_ ?_
      ·intro wD E sD;refine aw (aw (cf rfl rfl rfl ?_));exact ad ⟨rfl,rfl,_,rfl,rfl,an _ _⟩
      refine aK ?_ ?_
      ·intro wD E sD;refine aw (aw (ae rfl rfl ?_));refine ad ⟨rfl,rfl,_,rfl,?_,an _ _⟩;exact congrArg Value.bool (decide_eq_false RS)
      refine aK ?_ ?_
      ·intro wD E sD;refine aw ?_;exact ao rfl rfl rfl rfl (ad ⟨rfl,rfl,_,rfl,rfl,an _ _⟩)
      refine aK ?_ ?_
      ·intro wD E sD;refine aw (aw ?_);exact ao rfl rfl rfl rfl (ad ⟨rfl,rfl,_,rfl,rfl,an _ _⟩)
      refine aK ?_ ?_
      ·intro wD E sD;refine aw (aw ?_);exact ao rfl rfl rfl rfl (ad ⟨rfl,rfl,_,rfl,rfl,an _ _⟩)
      refine aK ?_ ?_
      ·intro wD E sD;refine aw (aw ?_);exact ao rfl rfl rfl rfl (ad ⟨rfl,rfl,_,rfl,rfl,an _ _⟩)
      refine aK ?_ ?_
      ·intro wD E sD;refine aw ?_;exact ao rfl rfl rfl rfl (ad ⟨rfl,rfl,_,rfl,rfl,an _ _⟩)
      refine aK ?_ ?_
      ·intro wD E sD;refine aw (aw (aw (aw ?_)));exact ao rfl rfl rfl rfl (ad ⟨rfl,rfl,_,rfl,rfl,an _ _⟩)
      refine aK ?_ ?_
      ·intro wD E sD;refine aw ?_;exact ao rfl rfl rfl rfl (ad ⟨rfl,rfl,_,rfl,rfl,an _ _⟩)
      refine aK ?_ ?_
      ·intro wD E sD;refine aw (aw (aw ?_));exact ao rfl rfl rfl rfl (ad ⟨rfl,rfl,_,rfl,rfl,an _ _⟩)
      refine aK ?_ ?_
      ·intro wD E sD;refine aw (aw (ay rfl rfl rfl ?_));exact ad ⟨rfl,rfl,_,rfl,rfl,an _ _⟩
      exact bX.nil
     ·intro wD4 wu;refine aw (aw (aw (aw (aw (aw (aw (aw (aw (aw (aw (aw ?_)))))))))));refine aw (aw (aw (aw (aw ?_))));replace S4:=S4.ax wu;replace Jf:=wu.aG Jf;replace OD:=wu.aG OD;replace Ep:=Ep.le (by decide) wu.le;have Nn:=S4.lt rT;refine gL rfl (cM (aj (aj (ah (ae rfl rfl (ae rfl rfl (aR rfl ⟨_,rfl⟩ rfl (aS bA rfl rfl oR (by decide) rfl rfl (aE cG rfl rfl rfl (by assumption) rfl ?_)))))))));refine aM rfl rfl Jt (kV (M:=M1) Ep) (fun r wc h=>?_);obtain⟨rfl,rfl⟩:=h;refine bp (v':= .int .i64 (((l.length+7)/8:Nat):Int)) (congrArg (fun n:Nat=>Value.int .i64 n) Ea) (Rg.Ay rfl rfl rfl (ad ?_));refine bF rfl (fun c6=>?_) (fun c6=>?_)
      ·refine aj (ah (ae rfl rfl (ae rfl rfl (aR rfl ⟨_,rfl⟩ rfl (aS bA rfl rfl jZ (by decide) rfl rfl ?_)))));refine bP (M:=M1) jZ rfl rfl Jf rfl rfl vu (fun w7 hb7 s7=>?_);change w7.heap[bc]? =some (.cells #[p,.int .i64 k,.slice none 0 0,.int .i64 (eI l i),.int .i64 Eg] 216 (0,0))at hb7;refine aR rfl ⟨_,rfl⟩ rfl (aS bA rfl rfl I3 (by decide) rfl rfl ?_);refine bP (M:=M1) I3 rfl rfl hb7 rfl rfl vu (fun w8 hb8 s8=>?_);change w8.heap[bc]? =some (.cells #[p,.int .i64 k,.slice none 0 0,.int .i64 2147483648,.int .i64 Eg] 216 (0,0))at hb8;refine ad (aj (ah (ai rfl rfl (ad (aH ?_)))));have he:qz l i to=(l.length:Int):=by unfold qz;rw[if_neg c1,Ic hm (n:=8*n) (by omega) Ef]
       rw[he];have S7:=((s1.ax S4).ca (fun _ h=>h.elim) yk).trans ((s7.trans s8 (fun _ _ h=>h))) (fun _ _ h=>h);exact aP rfl rfl ⟨by rw[qA (Int.le_refl _)],S7.back,p,.slice none 0 0,k,Eg,OC,by rw[qA (Int.le_refl _)];exact hb8,(hp.le (by decide) S7.back.le),by rw[BP (Int.le_refl _)];exact jK,by omega,hk,fun h=>by omega,fun _ h=>by omega⟩
      ·exfalso;omega
theorem wJ {M:az} {w0:World} {bc:Nat} {l:List Po} {i:Int} (h:Cu 216 l i M w0 bc) (hM:Lt M w0) (hm:dU (-1) l=true) (rN:∀p∈l,p.2.length≤1099511627776) (zG:(dz (-1) l).length≤1099511627776) (HZ:l.length≤1099511627776):
  Spec Tryz.prog 96 #[.pointer (some ⟨bc,0,none⟩)] w0 (fun v' w'=>v'= .int .i64 (eI l (pU l i))∧Step M w0 M w' (fun b=>b=bc)∧Cu 216 l (pU l i) M w' bc):=by
 obtain⟨p,u,k,Eg,OC,hb,hp,hu,hi,hk,Pc,og⟩:=id h;have hdr:=vN hm i;refine aW (args:=[_]) (fn:=Tryz.f96) Tryz.func96 rfl (n:=11) Tryz.ntmps96 (aj (ah (ai rfl rfl (ad (aj (ah (ae rfl rfl (ae rfl rfl (aR rfl ⟨_,rfl⟩ rfl (aS bA rfl rfl I3 (by decide) rfl rfl (aE ar rfl rfl rfl (by assumption) rfl ?_)))))))))));refine bz rfl rfl rfl (by omega) (Rg.min2 rfl rfl rfl ?_);have hn:qz l i (min (eI l i+1) 2147483648)=pU l i:=Hg hm hi;refine aM rfl rfl Ys (xZ (to:=min (eI l i+1) 2147483648) h hM hm rN zG HZ (by omega)) (fun r w1 h1=>?_);rw[hn]at h1;obtain⟨rfl,s1,h1⟩:=h1;refine ai rfl rfl (ad (aH ?_));exact aP rfl rfl ⟨rfl,s1,h1⟩
end Go.K
namespace Go.K
open Go.Proofs
namespace TKErsA
theorem NC:TI Tryz.prog 123 (.pointer none) 1 8:=by unfold TI;kernel_rfl
theorem ND:TI Tryz.prog 216 (.agg #[(.pointer none),(.int .i64 0),(.slice none 0 0),(.int .i64 0),(.int .i64 0)]) 5 56:=by unfold TI;kernel_rfl
theorem NF:placesOf Tryz.prog 216=[(0,1),(1,1),(2,1),(3,1),(4,1)].map some:=by kernel_rfl
theorem E73:Enters Tryz.prog 73:=enters Tryz.func73 rfl (by decide)
theorem Jk:Enters Tryz.prog 126:=enters Tryz.func126 rfl (by decide)
theorem YF:Enters Tryz.prog 140:=enters Tryz.func140 rfl (by decide)
end TKErsA
open TKErsA
set_option maxRecDepth 10000
abbrev Er:=Fd×Int
abbrev RT.er:RT Er:=RT.pair RT.fd (RT.int .i64)
theorem er0:Part RT.er RT.fd (fun p=>p.1) 0:=kJ _ _
theorem YG:Part RT.er (RT.int .i64) (fun p=>p.2) 2:=fO _ _
theorem BR {M:az} {w:World} {p:Er} {v:Value} (h:RT.er.V M w p v):v= .agg #[.string ⟨p.1.1.toArray⟩,.string ⟨p.1.2.toArray⟩,.int .i64 p.2]∧(p.1.1.length≤140737488355328∧p.1.2.length≤140737488355328)∧ -9223372036854775808≤p.2∧p.2≤9223372036854775807:=by
 obtain⟨vs,⟨va,vb,rfl,⟨vc,vd,rfl,⟨rfl,h1⟩,⟨rfl,h2⟩⟩,⟨rfl,h3⟩⟩,rfl⟩:=h;exact⟨rfl,⟨h1,h2⟩,h3⟩
theorem KD {M:az} {w:World} {p:Er} (h1:p.1.1.length≤140737488355328∧p.1.2.length≤140737488355328) (h2: -9223372036854775808≤p.2∧p.2≤9223372036854775807):RT.er.V M w p (.agg #[.string ⟨p.1.1.toArray⟩,.string ⟨p.1.2.toArray⟩,.int .i64 p.2]):=
 ⟨[.string ⟨p.1.1.toArray⟩,.string ⟨p.1.2.toArray⟩,.int .i64 p.2],⟨[.string ⟨p.1.1.toArray⟩,.string ⟨p.1.2.toArray⟩],[.int .i64 p.2],rfl,⟨_,_,rfl,⟨rfl,h1.1⟩,⟨rfl,h1.2⟩⟩,rfl,h2⟩,rfl⟩
theorem Ae {M:az} (w0:World) (hM:Lt M w0):
  Spec Tryz.prog 140 #[.pointer none] w0 (fun v' w'=>∃bc,v'= .pointer (some ⟨bc,0,none⟩)∧w0.heap.size≤bc∧Step M w0 (ins M bc) w' aA∧Cu 216 [] (-1) (ins M bc) w' bc):=by
 refine aW (args:=[_]) (fn:=Tryz.f140) Tryz.func140 rfl (n:=12) Tryz.ntmps140 (aj (ah (ai rfl rfl (ad (aj (aj (ah (ae rfl rfl (Rg.pz cG rfl rfl rfl (ad (T.TR rfl (rfl) ?_)))))))))));refine ah ?_;refine aM rfl rfl Jk (qQ (l:=[]) hM jK (fun p h=>by cases h) (by decide) (by decide) (by decide)) (fun r2 w2 hc=>?_);obtain⟨s2,eB,_⟩:=hc;obtain⟨p,rfl,hp⟩:=eB rfl;obtain⟨q,rfl⟩:=hp.jr;refine ae rfl rfl (bO rfl rfl rfl (bO rfl rfl rfl (ai rfl rfl (ad (aj (ah (ae rfl rfl (dX (places:=[(0,1),(1,1),(2,1),(3,1),(4,1)]) bA ND NF rfl ⟨_,_,rfl,rfl,_,_,rfl,rfl,_,_,rfl,rfl,rfl⟩ (out:=[_,_,.slice none 0 0,_,.int .i64 0]) ⟨0,[_],rfl,rfl,by simp[Value.cells],1,[_],rfl,rfl,by simp[Value.cells],3,[_],rfl,rfl,by simp[Value.cells],rfl⟩ ?_))))))));refine mH M rfl rfl (fun bc w3 h1 H9 hS s3=>?_);refine ai rfl rfl (ad (aH ?_));exact aP rfl rfl ⟨bc,rfl,by have:=s2.size;omega,s2.ax s3,.pointer (some q),.slice none 0 0,-1,0,.inl rfl,hS,hp.le (by decide) s3.le,jK,by decide,by decide,fun _=>rfl,fun h=>by omega⟩
theorem Af {M:az} {v:Value} {l:List Po} (w0:World) (hM:Lt M w0) (h:ch RT.li M w0 v (hU l)∨(v= .pointer none∧l=[])):Spec Tryz.prog 140 #[v] w0 (fun v' w'=>∃bc,v'= .pointer (some ⟨bc,0,none⟩)∧w0.heap.size≤bc∧Step M w0 (ins M bc) w' aA∧Cu 216 l (-1) (ins M bc) w' bc):=by
 rcases h with h|⟨rfl,rfl⟩
 ·obtain⟨q,rfl⟩:=h.jr;exact DV h
 ·exact Ae w0 hM
theorem x7 {M:az} {s:Se} {ls:List (List Po)} {t:Fd} {v0:Value} (w0:World) (hM:Lt M w0) (hs:ch RT.se M w0 v0 s) (xY:xM s.2.2.1) (Ej:s.2.2.2=ls.map hU) (Jv:s.2.2.1.length=ls.length) (h1:t.1.length≤140737488355328) (h2:t.2.length≤140737488355328):
  Spec Tryz.prog 95 #[v0,kv t] w0 (fun v' w'=>∃bc,v'= .pointer (some ⟨bc,0,none⟩)∧w0.heap.size≤bc∧Step M w0 (ins M bc) w' aA∧Cu 216 (lM s.2.2.1 ls (dd t)) (-1) (ins M bc) w' bc):=by
 refine aW (args:=[_,_]) (fn:=Tryz.f95) Tryz.func95 rfl (n:=19) Tryz.ntmps95 ?_;have S:Step M w0 M w0 aA:=(an _ _).ca (fun _ h=>h.elim) (fun _ h=>h.elim);refine aj (ah ?_);refine jB (A:=RT.fd) rfl rfl hM (xG h1 h2) rfl (fun u0 w1 cA s0 _=>?_);replace hs:=hs.le (by decide) s0.le;replace hM:=s0.lt hM;have:=S.size;replace S:=S.ax s0;refine ai rfl rfl (ad (aj ?_));apply T.draw (M:=M) mixed [b9.eq v0,b9.eq v0,b9.ptr ((RT.di).ptr) s.2.2,b9.ptr RT.di s.2.2,b9.eq (kv t),b9.eq (sv (dd t)),(b9.mk' (fun v w=>∃p,v= .tuple #[p,.bool (decide (dd t∈s.2.2.1))]∧rJ s.2.2 (dd t) M p w) (fun⟨p,h1,h2⟩ s=>⟨p,h1,h2.step s⟩)),(b9.mk' (fun v w=>∃p,v= .tuple #[p,.bool (decide (dd t∈s.2.2.1))]∧rJ s.2.2 (dd t) M p w) (fun⟨p,h1,h2⟩ s=>⟨p,h1,h2.step s⟩)),(b9.mk' (fun v w=>rJ s.2.2 (dd t) M v w) (fun h s=>h.step s)),b9.eq (.bool (decide (dd t∈s.2.2.1))),(b9.mk' (fun v w=>rJ s.2.2 (dd t) M v w) (fun h s=>h.step s)),b9.eq (.bool (decide (dd t∈s.2.2.1)))]
 ·rfl
 ·refine aK ?_ ?_
  ·intro wD E sD;refine ae rfl rfl ?_;exact ad ⟨rfl,rfl,_,rfl,rfl,an _ _⟩
  refine aK ?_ ?_
  ·intro wD E sD;refine aw (aR rfl hs.jr rfl ?_);exact ad ⟨rfl,rfl,_,rfl,rfl,an _ _⟩
  refine aK ?_ ?_
  ·intro wD E sD;refine aw ?_;refine aJ (M:=M) (A:=RT.se) (B:=(RT.di).ptr) Tryz.underlying125 rfl rfl NC (by decide) se2 rfl rfl (by decide) hs sD.le (fun uf xV=>?_);exact ad ⟨rfl,rfl,_,rfl,xV,an _ _⟩
  refine aK ?_ ?_
  ·intro wD E sD;intro v2 xo;refine cg (M:=M) Tryz.underlying123 rfl rfl rfl rfl rfl (show ch ((RT.di).ptr) M wD v2 s.2.2 from xo) (aq _ _) (fun vd hvd=>?_);exact ad ⟨rfl,rfl,_,rfl,CG.1 hvd,an _ _⟩
  refine aK ?_ ?_
  ·intro wD E sD;refine cw (M:=M) (A:=RT.fd) cb rfl rq (by decide) rfl rfl rfl cA sD.le (fun vt DS=>?_);obtain rfl:=k7 DS;exact ad ⟨rfl,rfl,_,rfl,rfl,an _ _⟩
  refine aK ?_ ?_
  ·intro wD E sD;refine aw ?_;refine aM rfl rfl Ta (DT (t:=t) _ (sD.lt hM) h1 h2) (fun r5 w5 hc=>?_);obtain⟨rfl,s5⟩:=hc;exact ad ⟨rfl,rfl,_,rfl,rfl,s5⟩
  refine aK ?_ ?_
  ·intro wD E sD;intro v3 uU;refine aw (aw ?_);refine aM rfl rfl E73 (find_spec (k:=dd t) _ (sD.lt hM) (show ch RT.di M wD v3 s.2.2 from uU) xY (by rw[Ej,cN];exact Jv)) (fun r6 w6 hc=>?_);obtain⟨s6,hr⟩:=hc;refine ad ⟨rfl,rfl,_,rfl,?_,s6⟩;rcases hr with⟨j,p,tl,rfl,h3,h4,h5⟩|⟨rfl,h3⟩
   ·exact⟨p,by rw[decide_eq_true (aN h3)],.inl ⟨j,tl,h3,h4,h5⟩⟩
   ·exact⟨_,by rw[decide_eq_false h3],.inr ⟨rfl,h3⟩⟩
  refine aK ?_ ?_
  ·intro wD E sD;intro v6 ov;refine ae rfl rfl ?_;exact ad ⟨rfl,rfl,_,rfl,ov,an _ _⟩
  refine aK ?_ ?_
  ·intro wD E sD;intro v7 Bd;obtain⟨p,rfl,hp⟩:=Bd;refine bO rfl rfl rfl ?_;exact ad ⟨rfl,rfl,_,rfl,hp,an _ _⟩
  refine aK ?_ ?_
  ·intro wD E sD;intro v7 Bd;obtain⟨p,rfl,hp⟩:=Bd;refine bO rfl rfl rfl ?_;exact ad ⟨rfl,rfl,_,rfl,rfl,an _ _⟩
  refine aK ?_ ?_
  ·intro wD E sD;intro v8 CJ;intro v6 ov;refine aw (aw ?_);intro v2 xo;intro v3 uU;refine aw (aw ?_);intro v6 ov;intro v7 Bd;intro v8 CJ;refine ai rfl rfl ?_;exact ad ⟨rfl,rfl,_,rfl,CJ,an _ _⟩
  refine aK ?_ ?_
  ·intro wD E sD;refine aw ?_;intro v10 Nj;refine aw (aw ?_);intro v2 xo;intro v3 uU;refine aw (aw ?_);intro v6 ov;intro v7 Bd;intro v8 CJ;refine aw ?_;intro v10 Nj;refine ai rfl rfl ?_;exact ad ⟨rfl,rfl,_,rfl,rfl,an _ _⟩
  exact bX.nil
 ·intro Cn hY;refine aw (aw ?_);intro Js rH;intro QH Gf;refine aw (aw ?_);intro afI abQ;intro Xj Re;intro afJ abR;refine aw ?_;intro RX BS;refine aw ?_;replace BS:rJ s.2.2 (dd t) M RX Cn:=BS;have hF:=BS;replace hM:=hY.lt hM;replace S:=S.ax hY;replace hs:=hs.le (by decide) hY.le;replace cA:=cA.le (by decide) hY.le;refine aj (ah (ae rfl rfl ?_))
  refine aM rfl rfl YF (Af (l:=lM s.2.2.1 ls (dd t)) _ hM (by
   rcases hF with⟨j,tl,Ob,qg,Ed⟩|⟨h,iK⟩
   ·rw[Ej,eE]at qg;obtain⟨l,O6,rfl⟩:=Option.map_eq_some_iff.1 qg;exact .inl (by rw[Hf xY.nodup Ob O6];exact Ed)
   ·exact .inr ⟨h,Ad iK⟩)) (fun r2 w2 hc=>?_)
  obtain⟨bc,rfl,ZT,s2,hcu⟩:=hc;refine ai rfl rfl (ad (aH ?_));exact aP rfl rfl ⟨bc,rfl,by have:=S.size;omega,S.ax s2,hcu⟩
end Go.K

/- What the law 'EraseLess' needs of walks and plain Lean, part 4: nothing is assumed beyond the texts that it imports. -/
import Derived.KernelRfl
import Derived.Test.YtohfoenhmkfjkaaGreatDoorProg
import Derived.Test.YtohfoenhmkfjkaaGreatDoorZEraseLess1
import Derived.Test.YtohfoenhmkfjkaaGreatDoorZEraseLess2
import Derived.Test.YtohfoenhmkfjkaaGreatDoorZEraseLess3
set_option linter.unusedVariables false
set_option linter.unusedSimpArgs false
namespace Go.K
open Go.Proofs
namespace TKBldE
theorem jI:TI Tryz.prog 107 (.slice none 0 0) 1 24:=by unfold TI;kernel_rfl
theorem A0:TI Tryz.prog 167 (.map none) 1 8:=by unfold TI;kernel_rfl
theorem SC:Enters Tryz.prog 63:=enters Tryz.func63 rfl (by decide)
theorem Wi:Enters Tryz.prog 111:=enters Tryz.func111 rfl (by decide)
theorem Wj:Enters Tryz.prog 112:=enters Tryz.func112 rfl (by decide)
end TKBldE
open TKBldE
set_option maxRecDepth 10000
theorem eu.Cd {P:Program} {kt:TypeId} {w:World} {b clock:Nat} {es:List MapEntry} (hk:P.underlying kt=some .string) (h:eu P kt w b es clock):∃ks:List (List UInt8),es.map (·.key)=ks.map sv∧ks.Nodup:=by
 have key:∀es:List MapEntry,(∀e∈es,∃l,keyOf P kt e.key=some l)→∃ks:List (List UInt8),es.map (·.key)=ks.map sv:=by
  intro es
  induction es with
  |nil=>exact fun _=>⟨[],rfl⟩
  |cons e es ih=>
   intro h;obtain⟨ks,h1⟩:=ih fun x hx=>h x (cp _ hx)
   obtain⟨l,hl⟩:=h e (bY ..);obtain⟨x,h3,_,h4⟩:=Maps.keyOf_str hk hl;exact⟨x::ks,by simp only[ib,h1,h3]⟩
 obtain⟨ks,h1⟩:=key es h.ok;refine⟨ks,h1,?_⟩;have h3:=dp.2 h.keys;rw[h1]at h3;exact(dp.1 h3).imp fun h e=>h (by rw[e])
theorem zi {M:aA} {w:World}:∀{l:List (List UInt8)},(∀x∈l,x.length≤140737488355328)→eo RT.str M w l (l.map Go.Proofs.encStr)
 |[],_=>rfl
 |x::l,h=>⟨[.string ⟨x.toArray⟩],_,rfl,⟨rfl,h x (bY ..)⟩,zi fun y hy=>h y (cp _ hy)⟩
theorem Gd (M:aA) (w:World) (M':aA) (w':World) (x:List UInt8) (vs:List Value) (h:RT.str.R M w x vs):RT.str.R M' w' x vs:=h
theorem qW {L:List En} (hF:∀x∈L,iB x.1):∀k∈gA L,k.length≤43:=fun k hk=>by
 obtain⟨e,he,h1⟩:=List.mem_flatMap.1 hk;obtain⟨t,ht,rfl⟩:=cF.1 h1;have:=(hF e he).term ht;unfold de;simp;omega
theorem qo {L:List En} (hF:∀x∈L,iB x.1):(gA L).length≤500*L.length:=by
 induction L with
 |nil=>simp[gA]
 |cons e L ih=>
  have h1:=ih fun x hx=>hF x (cp _ hx)
  have h2:=vI (hF e (bY ..));show((cD (oR e)).map de++gA L).length≤_;rw[bL,db,cr];have h2:(cD (oR e)).length≤500:=h2;omega
theorem A3 {Z M:aA} {B b:Nat} {L:List En} {words last:Int} (w0:World) (hM:Lt M w0) (hb:lu Z M w0 B b L words last) (hF:∀x∈L,iB x.1) (ZJ:L.length≤1000000):
  Spec Tryz.prog 58 #[.pointer (some ⟨b,0,none⟩)] w0 (fun v w=>(RT.str.sl).V M w (keysOf L) v∧Step M w0 M w aC):=by
 obtain⟨mb,vl,es,clock,gb,dz,dT,hB,B7,ho,hW,hR,zl⟩:=hb;obtain⟨ks,Io,mL⟩:=hW.Cd aD
 have ef:∀x,x∈ks↔x∈gA L:=fun x=>by
  rw[←hR.k x];constructor
  ·intro hx;have:sv x∈es.map (·.key):=by rw[Io];exact fg hx
   obtain⟨e,he,h⟩:=cF.1 this;exact⟨e,he,h⟩
  ·rintro⟨e,he,h⟩;have:sv x∈ks.map sv:=by rw[←Io,←h];exact fg he
   obtain⟨y,hy,h1⟩:=cF.1 this;rw[←xq h1];exact hy
 have Wk:ks.length≤500000000:=by
  have h1:=mL.length_le_of_subset (l₂:=gA L) (fun x hx=>(ef x).1 hx);have h2:=qo hF;omega
 have hen:es.length=ks.length:=by have:=congrArg List.length Io;simpa using this
 refine aX (args:=[_]) (fn:=Tryz.f58) Tryz.func58 rfl (n:=9) Tryz.ntmps58 ?_;have S:Step M w0 M w0 aC:=(an _ _).cc (fun _ h=>h.elim) (fun _ h=>h.elim);refine aj (ah (ai rfl rfl (ad (aj (ah (ae rfl rfl (aR rfl ⟨_,rfl⟩ rfl (aS (o':=1) dg rfl rfl A0 (by decide) rfl rfl (aE fP rfl rfl rfl gb rfl (bu (v':= .map (some mb)) rfl ?_))))))))));refine aP rfl rfl Wj (AY _ _) (fun r w1 hc=>?_);obtain⟨rfl,Wl⟩:=hc;have s1:Step M w0 M w1 aC:=by rw[Wl];exact cU _ w0 _
 have JT:=uz Wl;have:=ak gb;replace dz:=(s1.mem _ this).2 dz;replace gb:=s1.aI gb;replace dT:=(s1.mem _ (ak hW.at_)).2 dT;replace hW:=hW.bh s1;replace hM:=s1.lt hM;have:=S.size;replace S:=S.ay s1;obtain⟨m,hO,Qp,pT⟩:=hW.VD aD dT (by unfold maxLen;omega) ks Io;refine aP rfl rfl Wi (xu hO JT (by omega)) (fun r2 w2 hc=>?_);obtain⟨⟨ss,hss,mF,_⟩,s2⟩:=hc;have Oj:ss.Perm ks:=hss.trans Qp;have Td:=List.mergeSort_perm ss fun x y=>decide (x≤y)
 have mj:(ss.mergeSort fun x y=>decide (x≤y))=keysOf L:=LW (C3 (Oj.nodup_iff.2 mL)) (jG L) fun x=>by rw[Td.mem_iff,Oj.mem_iff,ef,kc]
 have hlen:ss.length=(keysOf L).length:=by rw[←mj,List.length_mergeSort]
 rw[mj,hlen]at mF;have Wm:∀x∈keysOf L,x.length≤140737488355328:=fun x hx=>by have:=qW hF x (kc.1 hx);omega
 have pW:Own RT.str 9 (nL r2) w2 w1.heap.size r2 (keysOf L):=⟨⟨_,mF,zi Wm⟩,fun b hb=>hb⟩;have wO:(RT.str.sl).V M w2 (keysOf L) r2:=pW.tell Gd (fun b hb h=>by have:=(pW.base b hb).1;have:=hM b h;omega) (by have:=Oj.length_eq;omega);have:=ak gb;replace dz:=(s2.mem _ this).2 dz;replace gb:=s2.aI gb;replace dT:=(s2.mem _ (ak hW.at_)).2 dT;replace hW:=hW.bh s2;replace hM:=s2.lt hM;have:=S.size;replace S:=S.ay s2;refine ai rfl rfl (ad (aJ ?_));exact aO rfl rfl ⟨wO,S⟩
theorem A4 {Z M:aA} {B b:Nat} {L:List En} {words last:Int} {k:List UInt8} (w0:World) (hM:Lt M w0) (hb:lu Z M w0 B b L words last) (hF:∀x∈L,iB x.1) (ZJ:L.length≤1000000) (Cz:k.length≤140737488355328):
  Spec Tryz.prog 59 #[.pointer (some ⟨b,0,none⟩),sv k] w0 (fun v w=>(RT.po.sl).V M w (pk L k) v∧Step M w0 M w aC):=by
 have jL:=hM;obtain⟨mb,vl,es,clock,gb,dz,dT,hB,B7,ho,hW,hR,zl⟩:=hb;obtain⟨kl,yb⟩:=FU k Cz;obtain⟨yc,Qq⟩:=qm k L 0 hF;replace yc:(pk L k).length≤L.length:=yc;replace Qq:∀p∈pk L k,_:=Qq;refine aX (args:=[_,_]) (fn:=Tryz.f59) Tryz.func59 rfl (n:=30) Tryz.ntmps59 ?_;have S:Step M w0 M w0 aC:=(an _ _).cc (fun _ h=>h.elim) (fun _ h=>h.elim);refine aj (ah (ai rfl rfl (ad (aj (ah (ai rfl rfl (ad (aj (aj (ah (ae rfl rfl ?_)))))))))));refine aR rfl ⟨_,rfl⟩ rfl (aS (o':=1) dg rfl rfl A0 (by decide) rfl rfl (aE fP rfl rfl rfl gb rfl (bu (v':= .map (some mb)) rfl (ae rfl rfl ?_))));refine Rg.pw fP pD jI rfl rfl rfl yb hW (fun Wn uA=>?_);have od:=hR.o _ _ uA;have hvb:∀c,Wn.ownBlock=some c→c<w0.heap.size:=fun c hc=>(od.base c hc).2
 clear hR hW ho;refine gC aW rfl od rfl (ae rfl rfl (ad (a8 ?_)));refine dC (σ:=Nat×Value) (fun q=>[(5,q.2),(13,Wn),(14,.int .i64 ((pk L k).length:Int)),(15,.int .i64 (q.1:Int))]) (fun q w=>∃M',Lt M' w∧Step M w0 M' w aC∧Own RT.po 153 M' w w0.heap.size q.2 ((pk L k).take q.1)∧Own RT.po 153 M' w B Wn (pk L k)∧q.1≤(pk L k).length) (fun q=>(pk L k).length-q.1) (0,.slice none 0 0) (.cons rfl (.cons rfl (.cons rfl (.cons rfl .nil)))) ?_ ?_
 ·exact⟨M,hM,S,ec _ _ _ _ _,od,bG _⟩
 ·clear hM S od;rintro⟨i,u⟩ w ⟨M1,hM,S,hu,od,hi⟩;dsimp only at hu hi ⊢;refine aj (ah (cf rfl rfl rfl (ad (aj ?_))));refine bI rfl (fun c3=>?_) (fun c3=>?_)
  ·refine aU (aj (a8 (aj (ah ?_))));refine Rg.VP aW gw (by decide) rfl rfl rfl od (by omega) (fun u4 p Ao xS=>?_);rw[az]at Ao;have hp:=Qq p (aM Ao);refine Rg.FT (A:=RT.po) bJ rfl gw rfl rfl rfl xS (fun v4 qi=>?_);refine ov (A:=RT.po) (M:=M1) gw rfl rfl rfl rfl rfl (by assumption) (aq _ _) hM (fun O5 O6 lg o9 Wo=>?_);replace hu:=hu.bh o9;replace od:=od.bh o9;replace hM:=o9.lt hM;have:=S.size;replace S:=S.ay o9;refine ad ?_;apply T.nV 5 [0,1,2] 3 aC mixed rfl rfl rfl rfl;intro NQ Qr;have xx:=Qr M1;replace lg:=lg.le (by decide) xx.le;replace hu:=hu.bh xx;replace od:=od.bh xx;replace hM:=xx.lt hM;have:=S.size;replace S:=S.ay xx;refine ae rfl rfl ?_;refine ad ⟨rfl,rfl,rfl,?_⟩;refine aH (M:=M1) (A:=RT.po) (B:=RT.int .i64) bJ rfl rfl I3 (by decide) (Hi) rfl rfl (by decide) (by assumption) (by repeat (first|exact aq _ _|refine aT (aY (by assumption)) ?_)) (fun Vb JE=>?_);refine ad ⟨rfl,rfl,rfl,?_⟩;refine cb (M:=M1) ar rfl rfl (by assumption) (by repeat (first|exact aq _ _|refine aT (aY (by assumption)) ?_)) (fun Qs=>?_);refine ad ⟨rfl,rfl,rfl,?_⟩;refine aH (M:=M1) (A:=RT.po) (B:=(RT.int .i64).sl) bJ rfl rfl nM (by decide) (OE) rfl rfl (by decide) (by assumption) (by repeat (first|exact aq _ _|refine aT (aY (by assumption)) ?_)) (fun UP BU=>?_);refine ad ⟨rfl,rfl,rfl,?_⟩;refine cg (M:=M1) au rfl rfl rfl rfl rfl (by assumption) (by repeat (first|exact aq _ _|refine aT (aY (by assumption)) ?_)) (fun adB Qt=>?_);refine ad ⟨rfl,rfl,rfl,?_⟩;refine fy ?_;obtain⟨bb,oo,cs,ee,fr,rfl,k4,_⟩:=JE.float;refine⟨iA ⟨fc,⟨jA bJ rfl I3 (by decide),⟨fJ rfl k4 (fun h=>h),trivial⟩⟩⟩,?_⟩
   have kp:=km aC NQ;refine aP rfl rfl SC (tu hM Qt (by omega)) (fun v5 w5 hc=>?_);obtain⟨n4,s5⟩:=hc;replace lg:=lg.le (by decide) s5.le;replace hu:=hu.bh s5;replace od:=od.bh s5;replace hM:=s5.lt hM;have:=S.size;replace S:=S.ay s5;refine(fun(kp:eg _ _ _)=>ad ⟨rfl,rfl,fun _=>kp,?_⟩) (by first|exact kp|exact kp.pX (by assumption)|exact kp.goN (by assumption)|exact kp.go (by assumption) (fun _ _ h=>by first|exact h|exact h.elim));refine dZ (places:=[(0,1),(1,1)]) bJ gw HR rfl ⟨_,_,rfl,rfl,_,_,rfl,rfl,rfl⟩ (out:=[_,_]) ⟨0,[_],rfl,rfl,by simp[Value.cells],1,[_],rfl,ij n4,by simp[Value.cells],rfl⟩ ?_;have F6:RT.po.V M1 _ p _:=dY (gp Qs) n4 rfl rfl rfl rfl;refine(fun(kp:eg _ _ _)=>ad ⟨rfl,rfl,fun _=>kp,?_⟩) (by first|exact kp|exact kp.pX (by assumption)|exact kp.goN (by assumption)|exact kp.go (by assumption) (fun _ _ h=>by first|exact h|exact h.elim));refine eE (A:=RT.po) (hn:=by decide) (M:=M1) aW gw (by decide) rfl rfl hM (F6) (.inl rfl) (fun adC adD Ge Db=>?_);replace lg:=lg.le (by decide) Db.le;replace n4:=n4.le Db.le;replace hu:=hu.bh Db;replace od:=od.bh Db;replace hM:=Db.lt hM;have:=S.size;replace S:=S.ay Db;refine(fun(kp:eg _ _ _)=>ad ⟨rfl,rfl,fun _=>kp,?_⟩) (by first|exact kp|exact kp.pX (by assumption)|exact kp.goN (by assumption)|exact kp.go (by assumption) (fun _ _ h=>by first|exact h|exact h.elim));refine cR (M:=M1) (base:=w0.heap.size) aW gw rfl rfl rfl rfl hu Ge (aq _ _) (by simp;omega) (by simp;omega) (S.size) (fun Wp Wq adE Qu Dd=>?_);replace lg:=lg.le (by decide) Dd.le;replace n4:=n4.le Dd.le;replace Ge:=Ge.le Dd.le;replace od:=od.step Dd (fun c hc h=>by have:=hvb c hc;have:=(hu.base c h).1;omega);replace hM:=Dd.lt hM;have:=S.size;replace S:=S.dh Dd hu (bj _);replace hu:=Qu;refine ad ⟨rfl,rfl,fun h=>absurd rfl h,?_⟩
   refine ai rfl rfl ?_;refine ad ⟨rfl,rfl,fun h=>absurd rfl h,?_⟩;refine qA (ah (bA rfl rfl rfl (by omega) (ae rfl rfl (ad ?_))));refine⟨rfl,(i+1,Wp),(.cons rfl (.cons rfl (.cons rfl (.cons rfl .nil)))),?_,?_⟩
   ·exact⟨Wq,hM,S,by rw[cd,Ao,cZ];exact hu,od,by dsimp only;omega⟩
   ·dsimp only;omega
  ·refine cM (aj (ah (ae rfl rfl (ai rfl rfl (ad (aJ ?_))))));rw[bp (by omega)]at hu;exact aO rfl rfl ⟨hu.close jL S (by omega),S.back⟩
end Go.K
namespace Go.K
open Go.Proofs
namespace TKBldF
theorem Wr:TI Tryz.prog 190 (.agg #[(.slice none 0 0),(.slice none 0 0)]) 2 48:=by unfold TI;kernel_rfl
theorem Ws:placesOf Tryz.prog 190=[(0,1),(1,1)].map some:=by kernel_rfl
theorem Wt:Enters Tryz.prog 176:=enters Tryz.func176 rfl (by decide)
theorem Wu:Enters Tryz.prog 177:=enters Tryz.func177 rfl (by decide)
theorem Wv:Enters Tryz.prog 178:=enters Tryz.func178 rfl (by decide)
end TKBldF
open TKBldF
set_option maxRecDepth 10000
def zj:Option (List UInt8)→List (List UInt8)→Bool
 |_,[]=>true
 |o,x::l=>(match o with|none=>true|some a=>decide (a<x))&&zj (some x) l
theorem tz {l:List (List UInt8)} {k:Nat} {x:List UInt8} (h:l[k]? =some x) (o:Option (List UInt8)):zj o (l.drop k)=((match o with|none=>true|some a=>decide (a<x))&&zj (some x) (l.drop (k+1))):=by
 obtain⟨dB,he⟩:=av.1 h;rw[dA dB,he];rfl
theorem zk {a:List UInt8}:∀{l:List (List UInt8)},xp (a::l)→zj (some a) l=true
 |[],_=>rfl
 |x::l,h=>by
  have h':=jk.1 h;simp only[zj,bC,decide_eq_true_eq];exact⟨h'.1 x (bY ..),zk h'.2⟩
theorem Mm:∀{l:List (List UInt8)},xp l→zj none l=true
 |[],_=>rfl
 |x::l,h=>by simp only[zj,dw];exact zk h
theorem De {M:aA} {v:Value} {l:List Int} (w0:World) (hv:((RT.int .i64).sl).V M w0 l v):
  Spec Tryz.prog 124 #[v] w0 (fun v' w'=>v'= .bool (eA (-1) l)∧w'=w0):=by
 have hlen:=dV hv;refine aX (args:=[_]) (fn:=Tryz.f124) Tryz.func124 rfl (n:=28) Tryz.ntmps124 (aj (ah (ai rfl rfl (ad (aj (aj (ah (ae rfl rfl (bU au rfl hv rfl (ae rfl rfl (ad ?_)))))))))));refine a8 ?_;refine dC (σ:=Nat×Int) (fun s=>[(0,v),(5,v),(6,.int .i64 l.length),(7,.int .i64 s.1)]) (fun s w=>w=w0∧s.1≤l.length∧eA (-1) l=eA s.2 (l.drop s.1)∧ -1≤s.2∧(s.1=0→s.2= -1)∧(0<s.1→l[s.1-1]? =some s.2)) (fun s=>l.length-s.1) (0,-1) (.cons rfl (.cons rfl (.cons rfl (.cons rfl .nil)))) ?_ ?_
 ·exact⟨rfl,bG _,rfl,by decide,fun _=>rfl,fun h=>absurd h (ic 0)⟩
 ·rintro⟨k,last⟩ w1 ⟨rfl,hk,hr,NR,h0,h1⟩;dsimp only at hk hr NR h0 h1 ⊢;refine aj (ah (cf rfl rfl rfl (ad (aj ?_))));refine bI rfl (fun c2=>?_) (fun c2=>?_)
  ·refine aU (aj (a8 (aj (ah (ae rfl rfl ?_)))));obtain⟨x,hx⟩:∃x,l[k]? =some x:=⟨_,aL (by omega)⟩;refine dq (M:=M) au I3 rfl rfl rfl hv (aq _ _) (by omega) (fun u a hg hu=>?_);obtain rfl:x=a:=eF (bM (hg.symm.trans (by simpa using hx)));refine cb (M:=M) ar rfl rfl hu (aq _ _) (fun inx=>?_);refine ai rfl rfl (ai rfl rfl (ad (aj (ah (ae rfl rfl (cf rfl rfl rfl (ae rfl rfl ?_)))))));refine aG (g:=14) rfl (fun Gf=>?_) (fun Gf=>?_)
   ·refine ao rfl rfl rfl rfl (ao rfl rfl rfl rfl (ao rfl rfl rfl rfl (ca rfl rfl rfl (ca rfl rfl rfl (ca rfl rfl rfl (ca rfl rfl rfl (ca rfl rfl rfl (ca rfl rfl rfl (ca rfl rfl rfl (ao rfl rfl rfl rfl (aQ rfl rfl rfl ?_)))))))))));refine ad (lC rfl (aj (ah (ai rfl rfl (ad (aJ ?_))))));refine aO rfl rfl ⟨congrArg Value.bool (eF ?_),rfl⟩;rw[hr,eR hx,decide_eq_false (show¬last<x by omega),fO]
   ·refine al rfl rfl (ae rfl rfl (al rfl rfl (nK rfl rfl rfl (al rfl rfl (ae rfl rfl ?_)))));refine aG (g:=17) rfl (fun LF=>?_) (fun LF=>?_)
    ·refine al rfl rfl (ae rfl rfl (al rfl rfl (ae rfl rfl (al rfl rfl (ae rfl rfl (al rfl rfl (fX rfl rfl rfl (by omega) (al rfl rfl ?_))))))));refine dq (M:=M) au I3 rfl rfl rfl hv (aq _ _) (by omega) (fun u2 a hg rl=>?_);obtain rfl:last=a:=eF (bM (hg.symm.trans (by rw[show((k:Int)-1).toNat=k-1 from by omega];exact h1 (by omega))));refine al rfl rfl ?_;refine cb (M:=M) ar rfl rfl rl (aq _ _) (fun inl=>?_);refine al rfl rfl (eP rfl rfl rfl (al rfl rfl (aQ rfl rfl rfl (ax rfl rfl rfl (ad ?_)))));refine bI rfl (fun c4=>?_) (fun c4=>?_)
     ·refine aj (ah (ai rfl rfl (ad (aJ ?_))));refine aO rfl rfl ⟨congrArg Value.bool (eF ?_),rfl⟩;rw[hr,eR hx,decide_eq_false (show¬last<x by omega),fO]
     ·refine aU (ah (bA rfl rfl rfl (by omega) (ae rfl rfl (ad ?_))));refine⟨rfl,(k+1,x),(.cons rfl (.cons rfl (.cons rfl (.cons rfl .nil)))),?_,?_⟩
      ·refine⟨rfl,by simp only;omega,?_,by simp only;omega,fun h=>by simp at h,fun _=>by simpa using hx⟩;rw[hr,eR hx,decide_eq_true (show last<x by omega),dw]
      ·simp only;omega
    ·refine ao rfl rfl rfl rfl (ao rfl rfl rfl rfl (ao rfl rfl rfl rfl (ao rfl rfl rfl rfl (ao rfl rfl rfl rfl (ao rfl rfl rfl rfl (ao rfl rfl rfl rfl (al rfl rfl (ax rfl rfl rfl (ax rfl rfl rfl (ad (hU rfl ?_)))))))))));refine aU (ah (bA rfl rfl rfl (by omega) (ae rfl rfl (ad ?_))));refine⟨rfl,(k+1,x),(.cons rfl (.cons rfl (.cons rfl (.cons rfl .nil)))),?_,?_⟩
     ·refine⟨rfl,by simp only;omega,?_,by simp only;omega,fun h=>by simp at h,fun _=>by simpa using hx⟩;rw[hr,eR hx,decide_eq_true (show last<x by omega),dw]
     ·simp only;omega
  ·refine cM (aj (ah (ai rfl rfl (ad (aJ ?_)))));refine aO rfl rfl ⟨congrArg Value.bool (eF ?_),rfl⟩;rw[hr,ei (by omega)];rfl
theorem zm {M:aA} {v:Value} {l:List (List UInt8)} (w0:World) (hv:(RT.str.sl).V M w0 l v):
  Spec Tryz.prog 176 #[v] w0 (fun v' w'=>v'= .bool (zj none l)∧w'=w0):=by
 have hlen:=dV hv;refine aX (args:=[_]) (fn:=Tryz.f176) Tryz.func176 rfl (n:=24) Tryz.ntmps176 (aj (ah (ai rfl rfl (ad (aj (aj (ah (ae rfl rfl (bU bg rfl hv rfl (ae rfl rfl (ad ?_)))))))))));refine a8 ?_;refine dC (σ:=Nat×Option (List UInt8)) (fun s=>[(0,v),(5,v),(6,.int .i64 l.length),(7,.int .i64 s.1)]) (fun s w=>w=w0∧s.1≤l.length∧zj none l=zj s.2 (l.drop s.1)∧(s.1=0→s.2=none)∧(0<s.1→∃a,s.2=some a∧l[s.1-1]? =some a)) (fun s=>l.length-s.1) (0,none) (.cons rfl (.cons rfl (.cons rfl (.cons rfl .nil)))) ?_ ?_
 ·exact⟨rfl,bG _,rfl,fun _=>rfl,fun h=>absurd h (ic 0)⟩
 ·rintro⟨k,o⟩ w1 ⟨rfl,hk,hr,h0,h1⟩;dsimp only at hk hr h0 h1 ⊢;refine aj (ah (cf rfl rfl rfl (ad (aj ?_))));refine bI rfl (fun c2=>?_) (fun c2=>?_)
  ·refine aU (aj (a8 (aj (ah (ae rfl rfl ?_)))));obtain⟨x,hx⟩:∃x,l[k]? =some x:=⟨_,aL (by omega)⟩;refine dq (M:=M) bg I9 rfl rfl rfl hv (aq _ _) (by omega) (fun u a hg hu=>?_);obtain rfl:x=a:=eF (bM (hg.symm.trans (by simpa using hx)));refine cg (M:=M) aD rfl rfl rfl rfl rfl hu (aq _ _) (fun vx sV=>?_);obtain rfl:=fx sV;refine ai rfl rfl (ai rfl rfl (ad (aj (ah (ae rfl rfl (nK rfl rfl rfl (ae rfl rfl ?_)))))));refine aG (g:=14) rfl (fun Gf=>?_) (fun Gf=>?_)
   ·refine al rfl rfl (ae rfl rfl (al rfl rfl (ae rfl rfl (al rfl rfl (ae rfl rfl (al rfl rfl (fX rfl rfl rfl (by omega) (al rfl rfl ?_))))))));obtain⟨last,rfl,im⟩:=h1 (by omega);refine dq (M:=M) bg I9 rfl rfl rfl hv (aq _ _) (by omega) (fun u2 a hg rl=>?_);obtain rfl:last=a:=eF (bM (hg.symm.trans (by rw[show((k:Int)-1).toNat=k-1 from by omega];exact im)));refine al rfl rfl ?_;refine cg (M:=M) aD rfl rfl rfl rfl rfl rl (aq _ _) (fun vl jv=>?_);obtain rfl:=fx jv;refine al rfl rfl (Rg.LV rfl rfl rfl (aQ rfl rfl rfl (ad ?_)));refine bI rfl (fun c4=>?_) (fun c4=>?_)
    ·refine aj (ah (ai rfl rfl (ad (aJ ?_))));refine aO rfl rfl ⟨congrArg Value.bool (eF ?_),rfl⟩;rw[hr,tz hx];simp[c4]
    ·refine aU (ah (bA rfl rfl rfl (by omega) (ae rfl rfl (ad ?_))));refine⟨rfl,(k+1,some x),(.cons rfl (.cons rfl (.cons rfl (.cons rfl .nil)))),?_,?_⟩
     ·refine⟨rfl,by simp only;omega,?_,fun h=>by simp at h,fun _=>⟨x,rfl,by simpa using hx⟩⟩;rw[hr,tz hx]
      first
      |(rw[h0 (by omega)];simp;done)
      |(have Ww:=dU.1 c4;simp[Ww];done)
     ·simp only;omega
   ·refine ao rfl rfl rfl rfl (ao rfl rfl rfl rfl (ao rfl rfl rfl rfl (ao rfl rfl rfl rfl (ao rfl rfl rfl rfl (ao rfl rfl rfl rfl (ao rfl rfl rfl rfl (ax rfl rfl rfl (ad (hU rfl (aU (ah ?_)))))))))));refine bA rfl rfl rfl (by omega) (ae rfl rfl (ad ?_));refine⟨rfl,(k+1,some x),(.cons rfl (.cons rfl (.cons rfl (.cons rfl .nil)))),?_,?_⟩
    ·refine⟨rfl,by simp only;omega,?_,fun h=>by simp at h,fun _=>⟨x,rfl,by simpa using hx⟩⟩;rw[hr,tz hx]
     first
     |(rw[h0 (by omega)];simp;done)
     |(have Ww:=dU.1 c4;simp[Ww];done)
    ·simp only;omega
  ·refine cM (aj (ah (ai rfl rfl (ad (aJ ?_)))));refine aO rfl rfl ⟨congrArg Value.bool (eF ?_),rfl⟩;rw[hr,ei (by omega)];rfl
theorem qp {α:Type} {A:RT α} {M:aA} {w:World} {v:Value} {x:α} (h:ch A M w v x):v.cells= #[v]:=by
 obtain⟨b,o,vs,rfl,_⟩:=h;rfl
theorem A5 {M:aA} {v0 v1:Value} {ns:List (List UInt8)} {ts:List Li} (w0:World) (hM:Lt M w0) (hn:(RT.str.sl).V M w0 ns v0) (ht:(((RT.li).ptr).sl).V M w0 ts v1) (hl:ns.length≤1099511627776) (DD:ts.length≤1099511627776):
  Spec Tryz.prog 128 #[v0,v1] w0 (fun v w=>∃p,v= .tuple #[p,.int .i64 (if ns.length=ts.length∧zj none ns=true then 0 else 1)]∧(ns.length=ts.length→zj none ns=true→ch RT.di M w p (ns,ts))∧Step M w0 M w aC):=by
 refine aX (args:=[_,_]) (fn:=Tryz.f128) Tryz.func128 rfl (n:=22) Tryz.ntmps128 ?_;have S:Step M w0 M w0 aC:=(an _ _).cc (fun _ h=>h.elim) (fun _ h=>h.elim);refine aj (ah (ai rfl rfl (ai rfl rfl (ad (aj (aj (ah (ae rfl rfl (bU bg rfl hn rfl (ae rfl rfl (bU dN rfl ht rfl ?_)))))))))));refine eV rfl rfl rfl (ae rfl rfl ?_);refine aG (g:=11) rfl (fun qg=>?_) (fun qg=>?_)
 ·refine ao rfl rfl rfl rfl (ao rfl rfl rfl rfl (ao rfl rfl rfl rfl (aQ rfl rfl rfl (ad (lC rfl (aj (ah (ai rfl rfl (ai rfl rfl (ad (aJ ?_)))))))))))
  first
  |exact eH rfl rfl rfl ⟨_,by rw[if_neg (fun h=>qg (by omega))],fun h=>absurd (by omega) qg,S⟩
  |exact eH rfl rfl rfl ⟨_,by rw[if_neg (fun h=>c1 h.2)],fun _ h=>absurd h c1,S⟩
 ·refine al rfl rfl (ae rfl rfl (al rfl rfl ?_));refine aP rfl rfl Wt (zm _ hn) (fun r wc hc=>?_);obtain⟨rfl,rfl⟩:=hc;refine al rfl rfl (Rg.not rfl rfl (bu (v':= .bool (decide (¬zj none ns=true))) (by simp) (ax rfl rfl rfl (ad ?_))));refine bI rfl (fun c1=>?_) (fun c1=>?_)
  ·refine aj (ah (ai rfl rfl (ai rfl rfl (ad (aJ ?_)))))
   first
   |exact eH rfl rfl rfl ⟨_,by rw[if_neg (fun h=>qg (by omega))],fun h=>absurd (by omega) qg,S⟩
   |exact eH rfl rfl rfl ⟨_,by rw[if_neg (fun h=>c1 h.2)],fun _ h=>absurd h c1,S⟩
  ·refine aU (aj (ah (ae rfl rfl ?_)));refine aP rfl rfl Wu (FI hM hn hl) (fun v3 w3 hc=>?_);obtain⟨ur,s3⟩:=hc;replace hn:=hn.le s3.le;replace ht:=ht.le s3.le;replace hM:=s3.lt hM;have:=S.size;replace S:=S.ay s3;refine ae rfl rfl ?_;refine aP rfl rfl Wv (Iw hM ht DD) (fun v4 w4 hc=>?_);obtain⟨qi,s4⟩:=hc;replace hn:=hn.le s4.le;replace ht:=ht.le s4.le;replace ur:=ur.le s4.le;replace hM:=s4.lt hM;have:=S.size;replace S:=S.ay s4;refine dZ (places:=[(0,1),(1,1)]) Tryz.underlying190 Wr Ws rfl ⟨_,_,rfl,rfl,_,_,rfl,rfl,rfl⟩ (out:=[_,_]) ⟨0,[_],rfl,ij ur,by simp[Value.cells],1,[_],rfl,ij qi,by simp[Value.cells],rfl⟩ ?_;refine kh (A:=RT.di) (a:=(ns,ts)) rfl rfl hM (dY ur qi rfl rfl rfl rfl) rfl (fun u5 w5 Au s5 _=>?_);replace hn:=hn.le s5.le;replace ht:=ht.le s5.le;replace ur:=ur.le s5.le;replace qi:=qi.le s5.le;replace hM:=s5.lt hM;have:=S.size;replace S:=S.ay s5;refine ai rfl rfl (ai rfl rfl (ad (aJ ?_)));exact eH rfl rfl rfl ⟨_,by rw[if_pos ⟨by omega,dU.1 c1⟩],fun _ _=>Au,S⟩
end Go.K
namespace Go.K
theorem A6 (n:Nat):IntKind.u8.wrap (n:Int)=((UInt8.ofNat n).toNat:Int):=by
 rw[IntKind.wrap_u8];simp[UInt8.toNat_ofNat]
theorem Qv:∀m:Nat,m<256→(BitVec.ofInt 8 (m:Int)|||BitVec.ofInt 8 128).toNat=128+m%128:=by decide+kernel
theorem IF (n:Nat):IntKind.u8.wrap ((BitVec.ofInt IntKind.u8.bits (IntKind.u8.wrap (n:Int))|||BitVec.ofInt IntKind.u8.bits 128).toNat:Int)=((UInt8.ofNat (128+n%128)).toNat:Int):=by
 have h1:IntKind.u8.wrap (n:Int)=((n%256:Nat):Int):=by rw[IntKind.wrap_u8];omega
 rw[h1];show IntKind.u8.wrap ((BitVec.ofInt 8 ((n%256:Nat):Int)|||BitVec.ofInt 8 128).toNat:Int)=_;rw[Qv (n%256) (by omega),IntKind.wrap_u8,show n%256%128=n%128 from by omega];simp[UInt8.toNat_ofNat]
theorem Wx (n:Nat):((n:Int)).fdiv (2^min (Int.toNat 7) IntKind.i64.bits)=((n/128:Nat):Int):=by
 show((n:Int)).fdiv 128=_;rw[Int.fdiv_eq_ediv_of_nonneg _ (by decide)];rfl
theorem A7:∀m:Nat,m<256→(BitVec.ofInt 8 (m:Int)&&& ~~~ BitVec.ofInt 8 128).toNat=m%128:=by decide+kernel
theorem zn (c:UInt8):IntKind.u8.wrap ((BitVec.ofInt IntKind.u8.bits (c.toNat:Int)&&& ~~~ BitVec.ofInt IntKind.u8.bits 128).toNat:Int)=((c.toNat%128:Nat):Int):=by
 show IntKind.u8.wrap ((BitVec.ofInt 8 (c.toNat:Int)&&& ~~~ BitVec.ofInt 8 128).toNat:Int)=_;rw[A7 c.toNat (by have:=c.toNat_lt;omega),IntKind.wrap_u8];omega
theorem Gg (k n x:Nat) (hk:k≤8) (hn:n<128^k) (hx:x<128):
  IntKind.i64.wrap ((BitVec.ofInt IntKind.i64.bits (n:Int)|||BitVec.ofInt IntKind.i64.bits (IntKind.i64.wrap ((x:Int)*2^min (Int.toNat (7*(k:Int))) IntKind.i64.bits))).toNat:Int)=((n+x*128^k:Nat):Int):=by
 have e7:Int.toNat (7*(k:Int))=7*k:=by omega
 have e1:min (7*k) 64=7*k:=by omega
 have e2:(128:Nat)^k=2^(7*k):=by rw[Nat.pow_mul]
 have hp:2^(7*k)≤2^56:=kE (by decide) (by omega);have hb:x*2^(7*k)≤127*2^(7*k):=Nat.mul_le_mul_right _ (by omega);rw[e2]at hn ⊢;show IntKind.i64.wrap ((BitVec.ofInt 64 (n:Int)|||BitVec.ofInt 64 (IntKind.i64.wrap ((x:Int)*2^min (Int.toNat (7*(k:Int))) 64))).toNat:Int)=_;rw[e7,e1];have e3:((x:Int)*2^(7*k))=((x*2^(7*k):Nat):Int):=by simp
 have e5:n|||x*2^(7*k)=n+x*2^(7*k):=by
  rw[Nat.or_comm,Nat.mul_comm x,←Nat.two_pow_add_eq_or_of_lt hn x,Nat.add_comm]
 rw[e3];generalize x*2^(7*k)=y at*
 generalize 2^(7*k)=z at*
 have e4:∀m:Nat,m<2^64→(BitVec.ofInt 64 (m:Int))=BitVec.ofNat 64 m:=fun m _=>by simp
 rw[gT (y:Int) (by omega),e4 n (by omega),e4 y (by omega),BitVec.toNat_or,BitVec.toNat_ofNat,BitVec.toNat_ofNat,kU (by omega),kU (by omega),e5,gT _ (by omega)]
theorem oN (x:Int): -9223372036854775808≤IntKind.i64.wrap x∧IntKind.i64.wrap x≤9223372036854775807:=by rw[IntKind.wrap_i64];omega
end Go.K
namespace Go.K
open Go.Proofs
set_option maxRecDepth 10000
theorem xy {M:aA} {w0:World} {v:Value} {b:List UInt8} {n:Nat} (hM:Lt M w0) (hv:(RT.u8.sl).V M w0 b v) (hb:b.length≤70368744177664) (hn:n≤9223372036854775807):
  Spec Tryz.prog 173 #[v,.int .i64 n] w0 (fun v' w'=>∃M',Step M w0 M' w' aC∧Own RT.u8 5 M' w' w0.heap.size v' (b++put n)):=by
 have h9:=jc hn;refine aX (args:=[_,_]) (fn:=Tryz.f173) Tryz.func173 rfl (n:=26) Tryz.ntmps173 (aj (ah (ai rfl rfl (ad (aj (ah (ae rfl rfl (ae rfl rfl ?_))))))))
 first|refine bU bm rfl (by assumption) rfl ?_|refine gC bm rfl (by assumption) rfl ?_
 refine ae rfl rfl ?_
 first|refine bU bm rfl (by assumption) rfl ?_|refine gC bm rfl (by assumption) rfl ?_
 refine Rg.zZ bm I5 rfl rfl rfl rfl hv ⟨rfl,rfl⟩ (fun a uA mR=>?_);refine ai rfl rfl (ad (aj (a8 ?_)));refine dC (σ:=Nat×Value×List UInt8) (fun s=>[(0,s.2.1),(1,.int .i64 s.1)]) (fun s w=>s.2.2++put s.1=b++put n∧∃M1,Lt M1 w∧Step M w0 M1 w aC∧Grow RT.u8 (by decide) 5 M1 w w0.heap.size s.2.1 s.2.2) (fun s=>s.1) (n,_,b) (.cons rfl (.cons rfl .nil)) ?_ ?_
 ·exact⟨rfl,M,hM,an _ _,.inr ⟨a,rfl,mR,uA⟩⟩
 ·rintro⟨k,u0,acc⟩ w1 ⟨ud,M1,rq,s1,hg⟩;dsimp only at ud hg ⊢;have hlen:=congrArg List.length ud;have vZ:=HI k;simp only[bL]at hlen;refine aj (aj (ah (ae rfl rfl (dr rfl rfl rfl (ad ?_)))));refine bI rfl (fun c2=>?_) (fun c2=>?_)
  ·refine aU (a8 (aj (ah (ae rfl rfl (ae rfl rfl (tX ar b4 rfl rfl (Rg.or rfl rfl rfl (bu (congrArg _ (IF _)) ?_))))))));refine eE (A:=RT.u8) (hn:=by decide) (M:=M1) bm I5 (by decide) rfl rfl rq (Kp.2 rfl) (.inr ⟨rfl,rfl⟩) (fun u w2 hu s2=>?_);refine Rg.BI (M:=M1) (base:=w0.heap.size) bm I5 rfl rfl rfl rfl (hg.le s2) hu (aq _ _) (by simp) (by simp;omega) (by simp;omega) (fK s1.size s2.size) (fun v3 M3 w3 Hq s3=>?_);refine ai rfl rfl (ad (ah (ae rfl rfl (Rg.shr rfl rfl rfl (by omega) (bu (congrArg _ (Wx _)) (ai rfl rfl (ad ?_)))))));refine⟨rfl,(k/128,v3,acc++[UInt8.ofNat (128+k%128)]),(.cons rfl (.cons rfl .nil)),?_,?_⟩
   ·exact⟨by rw[←ud,Ai (n:=k) (by omega)];simp,M3,s3.lt (s2.lt rq),(s1.ay s2).jS s3 (bj _),.inl Hq⟩
   ·show k/128<k;omega
  ·refine cM (aj (ah (ae rfl rfl (ae rfl rfl (tX ar b4 rfl rfl (bu (congrArg _ (A6 _)) ?_))))));refine eE (A:=RT.u8) (hn:=by decide) (M:=M1) bm I5 (by decide) rfl rfl rq (Kp.2 rfl) (.inr ⟨rfl,rfl⟩) (fun u w2 hu s2=>?_);refine Rg.BI (M:=M1) (base:=w0.heap.size) bm I5 rfl rfl rfl rfl (hg.le s2) hu (aq _ _) (by simp) (by simp;omega) (by simp;omega) (fK s1.size s2.size) (fun v3 M3 w3 Hq s3=>?_);refine ai rfl rfl (ad (aJ ?_));refine aO rfl rfl ⟨M3,(s1.ay s2).jS s3 (bj _),?_⟩;rw[←ud,sd (n:=k) (by omega)];exact Hq
theorem Gh {M:aA} {w0:World} {v:Value} {b:List UInt8} {n:Nat} (hM:Lt M w0) (hv:(RT.u8.sl).V M w0 b v) (hb:b.length≤70368744177664) (hn:n≤9223372036854775807):
  Spec Tryz.prog 173 #[v,.int .i64 n] w0 (fun v' w'=>Step M w0 M w' aC∧(RT.u8.sl).V M w' (b++put n) v'):=
 (xy hM hv hb hn).mono fun _ _ ⟨_,s,ho⟩=>⟨s.back,Own.close hM s ho (by have:=jc hn;simp;omega)⟩
theorem zo {M:aA} {w0:World} {v:Value} {b:List UInt8} {at_:Int} (hv:(RT.u8.sl).V M w0 b v) (NS: -9223372036854775808≤at_∧at_≤9223372036854775807):
  Spec Tryz.prog 250 #[v,.int .i64 at_] w0 (fun v' w'=>v'= .tuple #[.int .i64 (get b at_).1,.int .i64 (get b at_).2.1,.int .i64 (get b at_).2.2]∧w0=w'):=by
 have hlen:=dV hv;refine aX (args:=[_,_]) (fn:=Tryz.f250) Tryz.func250 rfl (n:=54) Tryz.ntmps250 (aj (ah (ai rfl rfl (ai rfl rfl (ai rfl rfl (ad (aj (aj (ah (ae rfl rfl (cf rfl rfl rfl ?_)))))))))));refine ae rfl rfl ?_;refine aG (g:=12) rfl (fun fF=>?_) (fun fF=>?_)
 ·obtain Mn:at_<0∨(b.length:Int)<at_:= .inl fF;refine ao rfl rfl rfl rfl (ao rfl rfl rfl rfl (ao rfl rfl rfl rfl (ao rfl rfl rfl rfl (aQ rfl rfl rfl (ad (lC rfl (aj (ah (ai rfl rfl (ai rfl rfl (ai rfl rfl ?_)))))))))));refine ad (aJ ?_);have fT:get b at_=(0,0,1):=by unfold get;rw[if_pos Mn]
  exact nS rfl rfl rfl rfl ⟨by rw[fT],rfl⟩
 ·refine al rfl rfl (ae rfl rfl (al rfl rfl (ae rfl rfl (al rfl rfl ?_))))
  first|refine bU bm rfl (by assumption) rfl ?_|refine gC bm rfl (by assumption) rfl ?_
  refine al rfl rfl (nK rfl rfl rfl (ax rfl rfl rfl (ad ?_)));refine bI rfl (fun c1=>?_) (fun c1=>?_)
  ·obtain Mn:at_<0∨(b.length:Int)<at_:= .inr c1;refine aj (ah (ai rfl rfl (ai rfl rfl (ai rfl rfl (ad (aJ ?_))))));have fT:get b at_=(0,0,1):=by unfold get;rw[if_pos Mn]
   exact nS rfl rfl rfl rfl ⟨by rw[fT],rfl⟩
  ·refine aU (aj (ah (ai rfl rfl (ad (aj (aj (ah (ae rfl rfl (ae rfl rfl (ae rfl rfl ?_))))))))))
   first|refine bU bm rfl (by assumption) rfl ?_|refine gC bm rfl (by assumption) rfl ?_
   refine ae rfl rfl (bA rfl rfl rfl (by omega) (Rg.min2 rfl rfl rfl ?_));refine Rg.DW bm I5 rfl rfl rfl rfl hv (by omega) (fun u hu=>?_);rw[show(min (b.length:Int) (at_+9)).toNat=min b.length (at_.toNat+9)from by omega,KN]at hu;have fT:get b at_=match k7 ((b.drop at_.toNat).take 9) 0 0 with|some (n,k)=>((n:Int),at_+k,0)|none=>(0,0,2):=by unfold get;rw[if_neg (by omega)];rfl
   have zV:((b.drop at_.toNat).take 9).length≤9:=by rw[bS];omega
   generalize (b.drop at_.toNat).take 9=bs at hu fT zV
   first|refine bU bm rfl (by assumption) rfl ?_|refine gC bm rfl (by assumption) rfl ?_
   refine ae rfl rfl (ad (a8 ?_));refine dC (σ:=Nat×Nat) (fun s=>[(1,.int .i64 at_),(25,u),(26,.int .i64 bs.length),(27,.int .i64 s.1),(7,.int .i64 s.2)]) (fun s w=>w0=w∧s.1≤bs.length∧s.2<128^s.1∧k7 (bs.drop s.1) s.1 s.2=k7 bs 0 0) (fun s=>bs.length-s.1) (0,0) (.cons rfl (.cons rfl (.cons rfl (.cons rfl (.cons rfl .nil))))) ?_ ?_
   ·exact⟨rfl,bG _,by decide,rfl⟩
   ·rintro⟨k,m⟩ w1 ⟨rfl,hk,hm,hg⟩;dsimp only at hk hm hg ⊢;refine aj (ah (cf rfl rfl rfl (ad (aj ?_))));refine bI rfl (fun c5=>?_) (fun c5=>?_)
    ·refine aU (aj (a8 (aj (ah (ae rfl rfl ?_)))));refine dq (M:=M) bm I5 rfl rfl rfl (by assumption) (by repeat (first|exact aq _ _|refine aT (aY (by assumption)) ?_)) (by omega) (fun adF IG zp ZV=>?_);refine Rg.Ku (M:=M) b4 rfl rfl (by assumption) (by repeat (first|exact aq _ _|refine aT (aY (by assumption)) ?_)) ?_;refine ai rfl rfl (ai rfl rfl (ad (aj (ah (ae rfl rfl (ae rfl rfl (Rg.andNot rfl rfl rfl (bu (congrArg _ (zn _)) (Rg.rO b4 ar rfl rfl (by omega) (ae rfl rfl (Rg.Kq rfl rfl rfl (by omega) ?_)))))))))));refine Rg.shl rfl rfl rfl (by omega) (Rg.or rfl rfl rfl (bu (congrArg _ (Gg k m _ (by omega) hm (by omega))) (ai rfl rfl (ad (aj (ah (ae rfl rfl (cf rfl rfl rfl (ad ?_)))))))));refine bI rfl (fun c8=>?_) (fun c8=>?_)
     ·refine aj (aj (ah (ae rfl rfl (Rg.zY rfl rfl rfl (ae rfl rfl ?_)))));refine aG (g:=44) rfl (fun xz=>?_) (fun xz=>?_)
      ·refine al rfl rfl (ae rfl rfl (al rfl rfl (nK rfl rfl rfl (aQ rfl rfl rfl (ad ?_)))));refine bI rfl (fun c9=>?_) (fun c9=>?_)
       ·refine cM (aj (ah (ai rfl rfl (ai rfl rfl (ai rfl rfl (ad (aJ ?_)))))))
        have hr:k7 bs 0 0=none:=by
         rw[←hg]
         first
         |(rw[k8 (by simpa using zp),if_pos (by omega),if_pos (by omega)])
         |(rw[ei (by omega)];rfl)
        exact nS rfl rfl rfl rfl ⟨by rw[fT,hr],rfl⟩
       ·refine aU (aj (ah (ae rfl rfl (ae rfl rfl (ae rfl rfl (bA rfl rfl rfl (by omega) (bA rfl rfl rfl (by omega) (ai rfl rfl (ai rfl rfl (ai rfl rfl (ad ?_)))))))))));refine aJ ?_;have hr:k7 bs 0 0=some (m+IG.toNat%128*128^k,k+1):=by rw[←hg,k8 (by simpa using zp),if_pos (by omega),if_neg (by omega)]
        exact nS rfl rfl rfl rfl ⟨by rw[fT,hr];simp;omega,rfl⟩
      ·refine ao rfl rfl rfl rfl (ao rfl rfl rfl rfl (ax rfl rfl rfl (ad (hU rfl (aU (aj (ah (ae rfl rfl (ae rfl rfl (ae rfl rfl (bA rfl rfl rfl (by omega) ?_)))))))))));refine bA rfl rfl rfl (by omega) (ai rfl rfl (ai rfl rfl (ai rfl rfl (ad (aJ ?_)))));have hr:k7 bs 0 0=some (m+IG.toNat%128*128^k,k+1):=by rw[←hg,k8 (by simpa using zp),if_pos (by omega),if_neg (by omega)]
       exact nS rfl rfl rfl rfl ⟨by rw[fT,hr];simp;omega,rfl⟩
     ·refine aU (ah (bA rfl rfl rfl (by omega) (ae rfl rfl (ad ?_))));refine⟨rfl,(k+1,m+IG.toNat%128*128^k),(.cons rfl (.cons rfl (.cons rfl (.cons rfl (.cons rfl .nil))))),?_,?_⟩
      ·refine⟨rfl,by simp only;omega,?_,?_⟩
       ·have:=Nat.mul_le_mul_right (128^k) (show IG.toNat%128≤127 from by omega);simp only[Nat.pow_succ];omega
       ·rw[k8 (by simpa using zp),if_neg (by omega)]at hg;exact hg
      ·simp only;omega
    ·refine cM (aj (ah (ai rfl rfl (ai rfl rfl (ai rfl rfl (ad (aJ ?_)))))))
     have hr:k7 bs 0 0=none:=by
      rw[←hg]
      first
      |(rw[k8 (by simpa using zp),if_pos (by omega),if_pos (by omega)])
      |(rw[ei (by omega)];rfl)
     exact nS rfl rfl rfl rfl ⟨by rw[fT,hr],rfl⟩
theorem uC {M:aA} {w0:World} {v u:Value} {b:List UInt8} {l:List Int} (hM:Lt M w0) (hv:(RT.u8.sl).V M w0 b v) (hu:((RT.int .i64).sl).V M w0 l u) (hb:b.length+9*(l.length+1)≤70368744177664):
  Spec Tryz.prog 174 #[v,u] w0 (fun v' w'=>∃M' x,Step M w0 M' w' aC∧v'= .tuple #[x,.int .i64 (if eA (-1) l then 0 else 1)]∧Own RT.u8 5 M' w' w0.heap.size x (if eA (-1) l then b++dJ l else[])):=by
 have yc:=jc (n:=l.length) (by omega);refine aX (args:=[_,_]) (fn:=Tryz.f174) Tryz.func174 rfl (n:=31) Tryz.ntmps174 (aj (ah (ai rfl rfl (ai rfl rfl (ad (aj (ah (ae rfl rfl (ae rfl rfl (bU au rfl hu rfl ?_))))))))));refine aP rfl rfl KU (xy (M:=M) hM hv (by omega) (by omega)) (fun ub wb xK=>?_);obtain⟨Mb,sb,qE⟩:=xK;refine ai rfl rfl (ad (aj (ah (ai rfl rfl (ad (aj (aj (ah (ae rfl rfl (bU au rfl hu rfl (ae rfl rfl ?_)))))))))));refine ad (a8 ?_);refine dC (σ:=Nat×Int×Value×List UInt8) (fun s=>[(0,s.2.2.1),(6,.int .i64 s.2.1),(13,u),(14,.int .i64 l.length),(15,.int .i64 s.1)]) (fun s w=>eA (-1) l=eA s.2.1 (l.drop s.1)∧(eA (-1) l=true→s.2.2.2++jD s.2.1 (l.drop s.1)=b++dJ l)∧s.1≤l.length∧ -1≤s.2.1∧s.2.2.2.length≤b.length+9*(s.1+1)∧∃M1,Lt M1 w∧Step M w0 M1 w aC∧Own RT.u8 5 M1 w w0.heap.size s.2.2.1 s.2.2.2) (fun s=>l.length-s.1) (0,-1,_,b++put l.length) (.cons rfl (.cons rfl (.cons rfl (.cons rfl (.cons rfl .nil))))) ?_ ?_
 ·exact⟨rfl,fun _=>by simp[dJ],bG _,by simp only;omega,by simp;omega,Mb,sb.lt hM,sb,qE⟩
 ·rintro⟨k,last,u0,acc⟩ w1 ⟨hr,ud,hk,NR,Wy,M1,rq,s1,ho⟩;dsimp only at hr ud hk NR Wy ho ⊢;refine aj (ah (cf rfl rfl rfl (ad (aj ?_))));refine bI rfl (fun c4=>?_) (fun c4=>?_)
  ·refine aU (aj (a8 (aj (ah ?_))));obtain⟨x,hx⟩:∃x,l[k]? =some x:=⟨_,aL (by omega)⟩;have hxr:=DV hu hx;refine dq (M:=M) au I3 rfl rfl rfl (hu.le (s1.back).le) (aq _ _) (by omega) (fun Qw Gi Qx Cg=>?_);obtain rfl:Gi=x:=bM (Qx.symm.trans (by simpa using hx));refine cb (M:=M) ar rfl rfl Cg (aq _ _) (fun _=>?_);refine ai rfl rfl (ad (aj (aj (ah (ae rfl rfl (ae rfl rfl (eP rfl rfl rfl (ad ?_))))))));refine bI rfl (fun c6=>?_) (fun c6=>?_)
   ·refine aj (ah (ai rfl rfl (ai rfl rfl (ad (aJ ?_)))));have ZW:eA (-1) l=false:=by rw[hr,eR hx,decide_eq_false (by omega),fO]
    exact eH rfl rfl rfl ⟨M1,_,s1,by rw[ZW];rfl,by rw[ZW];exact ec _ _ _ _ _⟩
   ·refine aU (aj (ah (ae rfl rfl (ae rfl rfl (ae rfl rfl (Rg.Kr rfl rfl rfl (Rg.Kr rfl rfl rfl ?_)))))));have hpx:=jc (n:=(Gi-last-1).toNat) (by omega);refine bu (v':= .int .i64 (((Gi-last-1).toNat:Nat):Int)) (by rw[IntKind.wrap_i64,IntKind.wrap_i64];congr 1;omega) ?_;have ZX:=s1.freeze (v:=u0) (fun b hb=>(ho.base b hb).1);refine aP rfl rfl KU (xy (M:=rm M1 u0) (rq.rm u0) (ho.view (by omega)) (by omega) (by omega)) (fun ub wb xK=>?_);obtain⟨Mb2,ZY,Wz⟩:=xK;refine ai rfl rfl (ad (ah (ae rfl rfl (ai rfl rfl (ad (ah (bA rfl rfl rfl (by omega) (ae rfl rfl (ad ?_)))))))));refine⟨rfl,(k+1,Gi,ub,acc++put (Gi-last-1).toNat),(.cons rfl (.cons rfl (.cons rfl (.cons rfl (.cons rfl .nil))))),?_,?_⟩
    ·refine⟨?_,fun h=>?_,by simp only;omega,by simp only;omega,by simp only[bL];omega,Mb2,ZY.lt (rq.rm u0),ZX.ay ZY,Wz.rU s1.size⟩
     ·rw[hr,eR hx,decide_eq_true (by omega),dw]
     ·rw[←ud h,CG hx];simp
    ·simp only;omega
  ·refine cM (aj (ah (ae rfl rfl (ai rfl rfl (ai rfl rfl (ad (aJ ?_)))))));have WA:eA (-1) l=true:=by rw[hr,ei (by omega)];rfl
   have ha:=ud WA;rw[ei (by omega),jD,rH]at ha;exact eH rfl rfl rfl ⟨M1,_,s1,by rw[WA];rfl,by rw[WA,←ha];exact ho⟩
theorem tA {M:aA} {w0:World} {v u:Value} {b:List UInt8} {l:List Int} (hM:Lt M w0) (hv:(RT.u8.sl).V M w0 b v) (hu:((RT.int .i64).sl).V M w0 l u) (hb:b.length+9*(l.length+1)≤70368744177664):
  Spec Tryz.prog 174 #[v,u] w0 (fun v' w'=>∃x,Step M w0 M w' aC∧v'= .tuple #[x,.int .i64 (if eA (-1) l then 0 else 1)]∧(RT.u8.sl).V M w' (if eA (-1) l then b++dJ l else[]) x):=
 (uC hM hv hu hb).mono fun _ _ ⟨_,x,s,h,ho⟩=>⟨x,s.back,h,Own.close hM s ho (by
  split
  next hr=>
   have yc:=jc (n:=l.length) (by omega);have kX:∀x∈l,x≤9223372036854775807:=fun x hx=>by obtain⟨i,hi⟩:=bO.1 hx;exact(DV hu hi).2
   have:=sf l (-1) (by decide) kX hr;simp only[dJ,bL];omega
  next=>simp)⟩
theorem vK {M:aA} {w0:World} {be bb ba:Nat} {v:Value} {b:List UInt8} {at_:Int} (he:w0.heap[be]? =some (.cells #[.int .i64 0] 26 (0,0))) (hb:w0.heap[bb]? =some (.cells #[v] 147 (0,0))) (ha:w0.heap[ba]? =some (.cells #[.int .i64 at_] 3 (0,0))) (eG:be≠ba) (Mo:M be) (NT:M ba) (hv:(RT.u8.sl).V M w0 b v) (NS: -9223372036854775808≤at_∧at_≤9223372036854775807):
  Spec Tryz.prog 274 #[.pointer (some ⟨be,0,none⟩),.pointer (some ⟨bb,0,none⟩),.pointer (some ⟨ba,0,none⟩)] w0 (fun v' w'=>v'= .int .i64 (get b at_).1∧w'.heap[be]? =some (.cells #[.int .i64 (get b at_).2.2] 26 (0,0))∧w'.heap[ba]? =some (.cells #[.int .i64 (get b at_).2.1] 3 (0,0))∧Step M w0 M w' (fun k=>k=be∨k=ba)):=by
 refine aX (args:=[_,_,_]) (fn:=Tryz.f274) Tryz.func274 rfl (n:=15) Tryz.ntmps274 (aj (ah (ai rfl rfl (ad (aj (aj (ah (aE qB rfl rfl rfl (by assumption) rfl (eV rfl rfl rfl (ad ?_))))))))));refine bI rfl (fun c1=>?_) (fun c1=>?_)
 ·exact absurd rfl c1
 ·refine aU (aj (ah (ai rfl rfl (ad (aj (ah (aE bm rfl rfl rfl (by assumption) rfl (aE ar rfl rfl rfl (by assumption) rfl ?_))))))));refine aP rfl rfl OX (zo hv NS) (fun r w1 h1=>?_);obtain⟨rfl,rfl⟩:=h1;refine ae rfl rfl (bP rfl rfl rfl (bP rfl rfl rfl (bP rfl rfl rfl (ai rfl rfl ?_))));refine bQ (M:=M) I3 rfl rfl ha rfl rfl NT (fun w1 h1 s1=>?_);refine bQ (M:=M) Sg rfl rfl (s1.bF he eG) rfl rfl Mo (fun w2 h2 s2=>?_);refine ad (aj (ah (ae rfl rfl (ai rfl rfl (ad (aJ ?_))))));refine aO rfl rfl ⟨rfl,h2,s2.bF h1 (Ne.symm eG),?_⟩;exact(s1.cc (fun b hb=> .inr hb) (fun b hb=>by rcases hb with rfl|rfl<;>assumption)).trans s2 (fun b _ hb=> .inl hb)
theorem tB {M:aA} {w0:World} {v:Value} {b:List UInt8} {at_:Int} (hM:Lt M w0) (hv:(RT.u8.sl).V M w0 b v) (NS: -9223372036854775808≤at_∧at_≤9223372036854775807) (zV:b.length≤1099511627776):
  Spec Tryz.prog 251 #[v,.int .i64 at_] w0 (fun v' w'=>∃x,v'= .tuple #[x,.int .i64 (fh b at_).2.2,.int .i64 (fh b at_).1]∧((RT.int .i64).sl).V M w' (fh b at_).2.1 x∧Step M w0 M w' aC):=by
 refine aX (args:=[_,_]) (fn:=Tryz.f251) Tryz.func251 rfl (n:=48) Tryz.ntmps251 (aj (ah ?_));refine oT M rfl rfl (fun bb w1 JT adH hB s1=>?_);rw[ij hv]at hB;refine oT (ins M bb) rfl rfl (fun ba w2 hba adI hA s2=>?_);refine ai rfl rfl (ai rfl rfl (ai rfl rfl (ad (aj (ah ?_)))));refine eW (ins (ins M bb) ba) Sg rfl (fun be w3 hbe adJ hE s3=>?_);refine bQ (M:=ins (ins (ins M bb) ba) be) Sg rfl rfl hE rfl rfl (.inl rfl) (fun w4 hE4 s4=>?_);have z1:=s1.size;have z2:=s2.size;have z3:=s3.size;have z4:=s4.size;have S4:Step M w0 (ins (ins (ins M bb) ba) be) w4 aC:=((s1.ay s2).ay s3).cu s4 (fun k hk=>by subst hk;omega);have SD:=s4.bF (s3.aI (s2.aI hB)) (show bb≠be by omega);have hA4:=s4.bF (s3.aI hA) (show ba≠be by omega);refine ad (aj (ah (hY (xs:=[]) rfl rfl rfl (ai rfl rfl (ad (aj (ah (ai rfl rfl (ad (aj (ah ?_)))))))))));refine ai rfl rfl (ad (aj (aj (ah (ae rfl rfl ?_)))));refine Rg.nT (first:=[]) (xs:=[]) rfl rfl rfl OY (vK (M:=ins (ins (ins M bb) ba) be) hE4 SD hA4 (by omega) (.inl rfl) (.inr (.inl rfl)) (hv.le S4.le) NS) (fun r w5 h5=>?_);obtain⟨rfl,hE5,hA5,s5⟩:=h5;have z5:=s5.size;have S5:=S4.cu s5 (fun k hk=>by omega);have hB5:=s5.bF SD (by omega);obtain⟨WB,ZZ,SE,Z0⟩:=lL b at_;refine bu (v':= .int .i64 (((get b at_).1.toNat:Nat):Int)) (by rw[lD WB]) (ai rfl rfl (ad (a8 ?_)));refine dC (σ:=Nat×Int×Value×List Int×Int×Int) (fun s=>[(7,.pointer (some ⟨be,0,none⟩)),(3,.pointer (some ⟨ba,0,none⟩)),(8,.func (.func 274) [].toArray [.pointer (some ⟨be,0,none⟩),.pointer (some ⟨bb,0,none⟩),.pointer (some ⟨ba,0,none⟩)].toArray),(9,s.2.2.1),(10,.int .i64 s.2.1),(11,.int .i64 s.1)]) (fun s w=>(s.1:Int)≤9223372036854775807∧(s.2.2.2.2.1=0→fh b at_=andThen s.2.2.2.1 (fM b s.1 s.2.2.2.2.2 s.2.1))∧(s.2.2.2.2.1≠0→fh b at_=(s.2.2.2.2.1,[],0))∧(s.2.2.2.2.1=0→ -1≤s.2.1∧s.2.1≤4611686018427387904∧(s.2.2.2.1.length:Int)≤s.2.2.2.2.2∧s.2.2.2.2.2≤b.length)∧s.2.2.2.1.length≤b.length+1∧∃M1,Lt M1 w∧Step M w0 M1 w aC∧w4.heap.size≤w.heap.size∧M1 be∧M1 ba∧Own (RT.int .i64) 3 M1 w w4.heap.size s.2.2.1 s.2.2.2.1∧w.heap[be]? =some (.cells #[.int .i64 s.2.2.2.2.1] 26 (0,0))∧w.heap[ba]? =some (.cells #[.int .i64 s.2.2.2.2.2] 3 (0,0))∧w.heap[bb]? =some (.cells #[v] 147 (0,0))) (fun s=>s.1) ((get b at_).1.toNat,-1,_,[],(get b at_).2.2,(get b at_).2.1) (.cons rfl (.cons rfl (.cons rfl (.cons rfl (.cons rfl (.cons rfl .nil)))))) ?_ ?_
 ·refine⟨by have:=uY b at_;simp only;omega,fun h=>?_,fun h=>?_,fun h=>?_,by simp,_,S5.lt hM,S5,z5,.inl rfl,.inr (.inl rfl),ec _ _ _ _ _,hE5,hA5,hB5⟩
  ·unfold fh;rw[if_neg (by simpa using h)];exact(yh _ (CH b _ _ _)).symm
  ·unfold fh;rw[if_pos h]
  ·have:=p8 h;simp only[gO];omega
 ·rintro⟨many,last,u0,acc,e,a1⟩ wl ⟨hmb,J2,NB,fu,Wy,M1,rq,S,zl,Mo,NT,ho,hE,hA,hB⟩;dsimp only at hmb J2 NB fu Wy ho hE hA hB ⊢;refine aj (aj (ah (ae rfl rfl (nK rfl rfl rfl (ae rfl rfl ?_)))));refine aG (g:=18) rfl (fun K0=>?_) (fun K0=>?_)
  ·refine al rfl rfl (aE qB rfl rfl rfl (by assumption) rfl (al rfl rfl (Rg.zY rfl rfl rfl (aQ rfl rfl rfl (ad ?_)))));refine bI rfl (fun c6=>?_) (fun c6=>?_)
   ·refine aU (aj (a8 (aj (ah (ae rfl rfl ?_)))));refine Rg.nT (first:=[]) (xs:=[]) rfl rfl rfl OY (vK (M:=M1) (by rw[c6]at hE;exact hE) hB hA (by omega) Mo NT (hv.le S.le) (by have:=fu c6;omega)) (fun r w6 h6=>?_);obtain⟨rfl,Qy,Qz,s6⟩:=h6;have z6:=s6.size;have S6:=S.cu s6 (fun k hk=>by omega);have QA:=s6.bF hB (by omega);have qQ:=ho.step s6 (fun k hk h=>by have:=(ho.base k hk).1;omega);have Gj:=s6.lt rq;obtain⟨WB,ZZ,SE,Z0⟩:=lL b a1;obtain⟨pP,Cy,hk3,hk4⟩:=fu c6;refine ai rfl rfl (ad (aj (aj (ah (aE qB rfl rfl rfl (by assumption) rfl (Rg.zY rfl rfl rfl (ae rfl rfl ?_)))))));refine aG (g:=28) rfl (fun xz=>?_) (fun xz=>?_)
    ·refine al rfl rfl (ae rfl rfl (al rfl rfl (ae rfl rfl (al rfl rfl (fX rfl rfl rfl (by omega) (al rfl rfl (fX rfl rfl rfl (by omega) (al rfl rfl (nK rfl rfl rfl (aQ rfl rfl rfl (ad ?_)))))))))));refine bI rfl (fun c9=>?_) (fun c9=>?_)
     ·refine ah ?_;refine bQ (M:=M1) Sg rfl rfl Qy rfl rfl Mo (fun w7 hE7 s7=>?_);have z7:=s7.size;replace S6:=S6.cu s7 (fun k hk=>by subst hk;omega);replace QA:=s7.bF QA (show bb≠be by omega);replace Qz:=s7.bF Qz (show ba≠be by omega);replace qQ:=qQ.step s7 (fun k hk h=>by have:=(ho.base k hk).1;omega);replace Gj:=s7.lt Gj;replace Qy:=hE7;refine ad (aj (ah (ae rfl rfl (ae rfl rfl (Rg.wa rfl rfl rfl (Rg.wa rfl rfl rfl (ai rfl rfl (ad (ah (ae rfl rfl (ae rfl rfl ?_)))))))))));refine eE (A:=RT.int .i64) (hn:=by decide) (M:=M1) au I3 (by decide) rfl rfl Gj (gp (oN _)) (.inr ⟨rfl,rfl⟩) (fun u w8 hu s8=>?_);refine cR (M:=M1) (base:=w4.heap.size) au I3 rfl rfl rfl rfl (qQ.bh s8) hu (aq _ _) (by simp;omega) (by simp;omega) (by have:=s8.size;omega) (fun v9 M9 w9 QB s9=>?_);have z8:=s8.size;have z9:=s9.size;have iK:∀k,k<w4.heap.size→¬iX u0 k:=fun k hk h=>by have:=(ho.base k h).1;omega
      have Gk:=s9.bF (s8.aI Qy) (iK be (by omega));have QC:=s9.bF (s8.aI Qz) (iK ba (by omega));have QD:=s9.bF (s8.aI QA) (iK bb (by omega));have S9:=(S6.ay s8).dh s9 (qQ.bh s8) (by omega);have QE:=s9.lt (s8.lt Gj);have Gl:M9 be:=(s9.mem be (by omega)).2 Mo;have Gm:M9 ba:=(s9.mem ba (by omega)).2 NT;refine ai rfl rfl (ad (ah (ae rfl rfl (fX rfl rfl rfl (by omega) (ai rfl rfl (ad ?_))))));refine⟨rfl,(many-1,(IntKind.i64.wrap (last+IntKind.i64.wrap ((get b a1).1+1))),v9,acc++[(IntKind.i64.wrap (last+IntKind.i64.wrap ((get b a1).1+1)))],(if(get b a1).2.2=0∧4611686018427387904-last-1<(get b a1).1 then 2 else(get b a1).2.2),(get b a1).2.1),(.cons rfl (.cons rfl (.cons rfl (.cons rfl (.cons rfl (.cons (show some (Value.int .i64 ((many:Int)-1))=some (Value.int .i64 ((many-1:Nat):Int))from by congr 2;omega) .nil)))))),?_,?_⟩
      ·have hx:(get b a1).2.2=0→¬4611686018427387904-last-1<(get b a1).1→(IntKind.i64.wrap (last+IntKind.i64.wrap ((get b a1).1+1)))=last+1+(get b a1).1:=fun h1 h2=>by rw[gT ((get b a1).1+1) (by omega),gT _ (by omega)];omega
       have Nw:many=(many-1)+1:=by omega
       have tC:=J2 c6;rw[Nw]at tC;refine⟨by simp only;omega,fun h=>?_,fun h=>?_,fun h=>?_,by have:=fu c6;simp only[bL,cr,gO];omega,M9,QE,S9,by omega,Gl,Gm,QB,?_,QC,QD⟩
       ·dsimp only at h ⊢;have h3:(get b a1).2.2=0∧¬4611686018427387904-last-1<(get b a1).1:=by split at h<;>omega
        rw[tC,lK acc h3.1 h3.2,hx h3.1 h3.2]
       ·dsimp only at h ⊢;rw[tC]
        split
        ·rename_i h4;rw[p9 h4.1 h4.2];rfl
        ·rename_i h4
         have h5:(get b a1).2.2≠0:=by intro h6;rw[if_neg h4]at h;exact h h6
         rw[oD h5];unfold andThen;rw[if_pos h5]
       ·dsimp only at h ⊢;have h3:(get b a1).2.2=0∧¬4611686018427387904-last-1<(get b a1).1:=by split at h<;>omega
        have:=p8 h3.1;rw[hx h3.1 h3.2];simp only[bL,cr,gO];omega
       ·dsimp only
        first
        |(rw[if_pos ⟨xz,c9⟩];exact Gk)
        |(rw[if_neg (fun h=>c9 h.2)];exact Gk)
        |(rw[if_neg (fun h=>xz h.1)];exact Gk)
      ·simp only;omega
     ·refine aU (aj (ah (ae rfl rfl (ae rfl rfl (Rg.wa rfl rfl rfl (Rg.wa rfl rfl rfl (ai rfl rfl (ad (ah (ae rfl rfl (ae rfl rfl ?_)))))))))));refine eE (A:=RT.int .i64) (hn:=by decide) (M:=M1) au I3 (by decide) rfl rfl Gj (gp (oN _)) (.inr ⟨rfl,rfl⟩) (fun u w8 hu s8=>?_);refine cR (M:=M1) (base:=w4.heap.size) au I3 rfl rfl rfl rfl (qQ.bh s8) hu (aq _ _) (by simp;omega) (by simp;omega) (by have:=s8.size;omega) (fun v9 M9 w9 QB s9=>?_);have z8:=s8.size;have z9:=s9.size;have iK:∀k,k<w4.heap.size→¬iX u0 k:=fun k hk h=>by have:=(ho.base k h).1;omega
      have Gk:=s9.bF (s8.aI Qy) (iK be (by omega));have QC:=s9.bF (s8.aI Qz) (iK ba (by omega));have QD:=s9.bF (s8.aI QA) (iK bb (by omega));have S9:=(S6.ay s8).dh s9 (qQ.bh s8) (by omega);have QE:=s9.lt (s8.lt Gj);have Gl:M9 be:=(s9.mem be (by omega)).2 Mo;have Gm:M9 ba:=(s9.mem ba (by omega)).2 NT;refine ai rfl rfl (ad (ah (ae rfl rfl (fX rfl rfl rfl (by omega) (ai rfl rfl (ad ?_))))));refine⟨rfl,(many-1,(IntKind.i64.wrap (last+IntKind.i64.wrap ((get b a1).1+1))),v9,acc++[(IntKind.i64.wrap (last+IntKind.i64.wrap ((get b a1).1+1)))],(if(get b a1).2.2=0∧4611686018427387904-last-1<(get b a1).1 then 2 else(get b a1).2.2),(get b a1).2.1),(.cons rfl (.cons rfl (.cons rfl (.cons rfl (.cons rfl (.cons (show some (Value.int .i64 ((many:Int)-1))=some (Value.int .i64 ((many-1:Nat):Int))from by congr 2;omega) .nil)))))),?_,?_⟩
      ·have hx:(get b a1).2.2=0→¬4611686018427387904-last-1<(get b a1).1→(IntKind.i64.wrap (last+IntKind.i64.wrap ((get b a1).1+1)))=last+1+(get b a1).1:=fun h1 h2=>by rw[gT ((get b a1).1+1) (by omega),gT _ (by omega)];omega
       have Nw:many=(many-1)+1:=by omega
       have tC:=J2 c6;rw[Nw]at tC;refine⟨by simp only;omega,fun h=>?_,fun h=>?_,fun h=>?_,by have:=fu c6;simp only[bL,cr,gO];omega,M9,QE,S9,by omega,Gl,Gm,QB,?_,QC,QD⟩
       ·dsimp only at h ⊢;have h3:(get b a1).2.2=0∧¬4611686018427387904-last-1<(get b a1).1:=by split at h<;>omega
        rw[tC,lK acc h3.1 h3.2,hx h3.1 h3.2]
       ·dsimp only at h ⊢;rw[tC]
        split
        ·rename_i h4;rw[p9 h4.1 h4.2];rfl
        ·rename_i h4
         have h5:(get b a1).2.2≠0:=by intro h6;rw[if_neg h4]at h;exact h h6
         rw[oD h5];unfold andThen;rw[if_pos h5]
       ·dsimp only at h ⊢;have h3:(get b a1).2.2=0∧¬4611686018427387904-last-1<(get b a1).1:=by split at h<;>omega
        have:=p8 h3.1;rw[hx h3.1 h3.2];simp only[bL,cr,gO];omega
       ·dsimp only
        first
        |(rw[if_pos ⟨xz,c9⟩];exact Gk)
        |(rw[if_neg (fun h=>c9 h.2)];exact Gk)
        |(rw[if_neg (fun h=>xz h.1)];exact Gk)
      ·simp only;omega
    ·refine ao rfl rfl rfl rfl (ao rfl rfl rfl rfl (ao rfl rfl rfl rfl (ao rfl rfl rfl rfl (ao rfl rfl rfl rfl (ax rfl rfl rfl (ad (hU rfl (aU (aj (ah (ae rfl rfl ?_)))))))))));refine ae rfl rfl (Rg.wa rfl rfl rfl (Rg.wa rfl rfl rfl (ai rfl rfl (ad (ah (ae rfl rfl (ae rfl rfl ?_)))))));refine eE (A:=RT.int .i64) (hn:=by decide) (M:=M1) au I3 (by decide) rfl rfl Gj (gp (oN _)) (.inr ⟨rfl,rfl⟩) (fun u w8 hu s8=>?_);refine cR (M:=M1) (base:=w4.heap.size) au I3 rfl rfl rfl rfl (qQ.bh s8) hu (aq _ _) (by simp;omega) (by simp;omega) (by have:=s8.size;omega) (fun v9 M9 w9 QB s9=>?_);have z8:=s8.size;have z9:=s9.size;have iK:∀k,k<w4.heap.size→¬iX u0 k:=fun k hk h=>by have:=(ho.base k h).1;omega
     have Gk:=s9.bF (s8.aI Qy) (iK be (by omega));have QC:=s9.bF (s8.aI Qz) (iK ba (by omega));have QD:=s9.bF (s8.aI QA) (iK bb (by omega));have S9:=(S6.ay s8).dh s9 (qQ.bh s8) (by omega);have QE:=s9.lt (s8.lt Gj);have Gl:M9 be:=(s9.mem be (by omega)).2 Mo;have Gm:M9 ba:=(s9.mem ba (by omega)).2 NT;refine ai rfl rfl (ad (ah (ae rfl rfl (fX rfl rfl rfl (by omega) (ai rfl rfl (ad ?_))))));refine⟨rfl,(many-1,(IntKind.i64.wrap (last+IntKind.i64.wrap ((get b a1).1+1))),v9,acc++[(IntKind.i64.wrap (last+IntKind.i64.wrap ((get b a1).1+1)))],(if(get b a1).2.2=0∧4611686018427387904-last-1<(get b a1).1 then 2 else(get b a1).2.2),(get b a1).2.1),(.cons rfl (.cons rfl (.cons rfl (.cons rfl (.cons rfl (.cons (show some (Value.int .i64 ((many:Int)-1))=some (Value.int .i64 ((many-1:Nat):Int))from by congr 2;omega) .nil)))))),?_,?_⟩
     ·have hx:(get b a1).2.2=0→¬4611686018427387904-last-1<(get b a1).1→(IntKind.i64.wrap (last+IntKind.i64.wrap ((get b a1).1+1)))=last+1+(get b a1).1:=fun h1 h2=>by rw[gT ((get b a1).1+1) (by omega),gT _ (by omega)];omega
      have Nw:many=(many-1)+1:=by omega
      have tC:=J2 c6;rw[Nw]at tC;refine⟨by simp only;omega,fun h=>?_,fun h=>?_,fun h=>?_,by have:=fu c6;simp only[bL,cr,gO];omega,M9,QE,S9,by omega,Gl,Gm,QB,?_,QC,QD⟩
      ·dsimp only at h ⊢;have h3:(get b a1).2.2=0∧¬4611686018427387904-last-1<(get b a1).1:=by split at h<;>omega
       rw[tC,lK acc h3.1 h3.2,hx h3.1 h3.2]
      ·dsimp only at h ⊢;rw[tC]
       split
       ·rename_i h4;rw[p9 h4.1 h4.2];rfl
       ·rename_i h4
        have h5:(get b a1).2.2≠0:=by intro h6;rw[if_neg h4]at h;exact h h6
        rw[oD h5];unfold andThen;rw[if_pos h5]
      ·dsimp only at h ⊢;have h3:(get b a1).2.2=0∧¬4611686018427387904-last-1<(get b a1).1:=by split at h<;>omega
       have:=p8 h3.1;rw[hx h3.1 h3.2];simp only[bL,cr,gO];omega
      ·dsimp only
       first
       |(rw[if_pos ⟨xz,c9⟩];exact Gk)
       |(rw[if_neg (fun h=>c9 h.2)];exact Gk)
       |(rw[if_neg (fun h=>xz h.1)];exact Gk)
     ·simp only;omega
   ·refine cM (aj (aj (ah (aE qB rfl rfl rfl (by assumption) rfl (eV rfl rfl rfl (ad ?_))))));refine bI rfl (fun E3=>?_) (fun E3=>?_)
    ·refine aj ?_;apply T.kJ mixed rfl rfl;intro Mi F9;have nR:=F9 M1;refine aE qB rfl rfl rfl (by first|assumption|exact bV nR (by assumption)) rfl ?_;refine ad ⟨rfl,rfl,rfl,?_⟩;refine ai rfl rfl ?_;refine ad ⟨rfl,rfl,rfl,?_⟩;refine ai rfl rfl ?_;refine ad ⟨rfl,rfl,rfl,?_⟩;refine ai rfl rfl ?_;refine ad ⟨rfl,rfl,rfl,?_⟩;refine fy (aJ ?_);have hr:=NB E3;exact nS rfl rfl rfl rfl ⟨_,by rw[hr]<;>rfl,by rw[hr];exact jR,(S.ay nR).back⟩
    ·refine aU (aj ?_);apply T.kJ mixed rfl rfl;intro Mp Gn;have mG:=Gn M1;refine ae rfl rfl ?_;refine ad ⟨rfl,rfl,rfl,?_⟩;refine aE ar rfl rfl rfl (by first|assumption|exact bV mG (by assumption)) rfl ?_;refine ad ⟨rfl,rfl,rfl,?_⟩;refine ai rfl rfl ?_;refine ad ⟨rfl,rfl,rfl,?_⟩;refine ai rfl rfl ?_;refine ad ⟨rfl,rfl,rfl,?_⟩;refine ai rfl rfl ?_;refine ad ⟨rfl,rfl,rfl,?_⟩;refine fy (aJ ?_);have hz:many=0:=by omega
     have hr:=J2 (by omega);rw[hz,sh]at hr;simp only[andThen,ne_eq,not_true_eq_false,if_false,rH]at hr;have QF:=S.ay mG;refine nS rfl rfl rfl rfl ⟨_,by rw[hr]<;>rfl,?_,QF.back⟩;rw[hr];exact Own.close hM QF ((ho.bh mG).rU (by omega)) (by simp only;omega)
  ·refine ao rfl rfl rfl rfl (ao rfl rfl rfl rfl (ax rfl rfl rfl (ad (hU rfl (cM (aj (aj (ah (aE qB rfl rfl rfl (by assumption) rfl (eV rfl rfl rfl (ad ?_)))))))))));refine bI rfl (fun E3=>?_) (fun E3=>?_)
   ·refine aj ?_;apply T.kJ mixed rfl rfl;intro Mi F9;have nR:=F9 M1;refine aE qB rfl rfl rfl (by first|assumption|exact bV nR (by assumption)) rfl ?_;refine ad ⟨rfl,rfl,rfl,?_⟩;refine ai rfl rfl ?_;refine ad ⟨rfl,rfl,rfl,?_⟩;refine ai rfl rfl ?_;refine ad ⟨rfl,rfl,rfl,?_⟩;refine ai rfl rfl ?_;refine ad ⟨rfl,rfl,rfl,?_⟩;refine fy (aJ ?_);have hr:=NB E3;exact nS rfl rfl rfl rfl ⟨_,by rw[hr]<;>rfl,by rw[hr];exact jR,(S.ay nR).back⟩
   ·refine aU (aj ?_);apply T.kJ mixed rfl rfl;intro Mp Gn;have mG:=Gn M1;refine ae rfl rfl ?_;refine ad ⟨rfl,rfl,rfl,?_⟩;refine aE ar rfl rfl rfl (by first|assumption|exact bV mG (by assumption)) rfl ?_;refine ad ⟨rfl,rfl,rfl,?_⟩;refine ai rfl rfl ?_;refine ad ⟨rfl,rfl,rfl,?_⟩;refine ai rfl rfl ?_;refine ad ⟨rfl,rfl,rfl,?_⟩;refine ai rfl rfl ?_;refine ad ⟨rfl,rfl,rfl,?_⟩;refine fy (aJ ?_);have hz:many=0:=by omega
    have hr:=J2 (by omega);rw[hz,sh]at hr;simp only[andThen,ne_eq,not_true_eq_false,if_false,rH]at hr;have QF:=S.ay mG;refine nS rfl rfl rfl rfl ⟨_,by rw[hr]<;>rfl,?_,QF.back⟩;rw[hr];exact Own.close hM QF ((ho.bh mG).rU (by omega)) (by simp only;omega)
end Go.K
namespace Go.K
open Go.Proofs
set_option maxRecDepth 10000
theorem vL {M:aA} {w0:World} {v u:Value} {a b:List Int} (hM:Lt M w0) (hv:((RT.int .i64).sl).V M w0 a v) (hu:((RT.int .i64).sl).V M w0 b u):
  Spec Tryz.prog 51 #[v,u] w0 (fun v' w'=>v'= .bool (decide (a=b))∧Step M w0 M w' aC):=by
 have Za:=dV hv;have Z1:=dV hu;refine aX (args:=[_,_]) (fn:=Tryz.f51) Tryz.func51 rfl (n:=26) Tryz.ntmps51 (aj (ah (ai rfl rfl (ad (aj (aj (ah (ae rfl rfl (bU au rfl hv rfl (ae rfl rfl (bU au rfl hu rfl ?_)))))))))));refine eV rfl rfl rfl (ad ?_);refine bI rfl (fun c1=>?_) (fun c1=>?_)
 ·refine aj (ah (ai rfl rfl (ad (aJ ?_))));refine aO rfl rfl ⟨?_,an _ _⟩;rw[decide_eq_false];rintro rfl;exact c1 rfl
 ·obtain hlen:a.length=b.length:=by omega
  refine aU (aj (aj (ah (ai rfl rfl (ad (a8 ?_))))));refine dC (σ:=Nat) (fun s=>[(0,v),(1,u),(5,.int .i64 s)]) (fun s w=>s≤a.length∧a.take s=b.take s∧Step M w0 M w aC) (fun s=>a.length-s) 0 (.cons rfl (.cons rfl (.cons rfl .nil))) ?_ ?_
  ·exact⟨bG _,by simp,an _ _⟩
  ·rintro k w1 ⟨hk,heq,s1⟩;refine aj (aj (ah (ae rfl rfl (ae rfl rfl (bU au rfl hv rfl (cf rfl rfl rfl (ad ?_)))))));refine bI rfl (fun c4=>?_) (fun c4=>?_)
   ·refine aU (aj (a8 (aj ?_)));obtain⟨x,hx⟩:∃x,a[k]? =some x:=⟨_,aL (by omega)⟩;obtain⟨y,hy⟩:∃y,b[k]? =some y:=⟨_,aL (by omega)⟩;apply T.draw (M:=M) mixed [b8.eq _,b8.eq _,b8.ptr (RT.int .i64) x,b8.eq _,b8.eq _,b8.eq _,b8.ptr (RT.int .i64) y,b8.eq _,b8.eq _]
    ·rfl
    ·refine aK ?_ ?_
     ·intro wD E sD;refine ae rfl rfl ?_;exact ad ⟨rfl,rfl,_,rfl,rfl,an _ _⟩
     refine aK ?_ ?_
     ·intro wD E sD;refine ae rfl rfl ?_;exact ad ⟨rfl,rfl,_,rfl,rfl,an _ _⟩
     refine aK ?_ ?_
     ·intro wD E sD;refine aw (aw ?_);refine dq (M:=M) au I3 rfl rfl rfl hv (by repeat (first|exact aq _ _|refine aT (aY (by assumption)) ?_)) (by omega) (fun Lc WC QG Gp=>?_);obtain rfl:WC=x:=bM (QG.symm.trans (by simpa using hx));exact ad ⟨rfl,rfl,_,rfl,Gp,an _ _⟩
     refine aK ?_ ?_
     ·intro wD E sD;intro v2 wO;refine cb (M:=M) ar rfl rfl (by assumption) (by repeat (first|exact aq _ _|refine aT (aY (by assumption)) ?_)) (fun QH=>?_);exact ad ⟨rfl,rfl,_,rfl,rfl,an _ _⟩
     refine aK ?_ ?_
     ·intro wD E sD;refine ae rfl rfl ?_;exact ad ⟨rfl,rfl,_,rfl,rfl,an _ _⟩
     refine aK ?_ ?_
     ·intro wD E sD;refine ae rfl rfl ?_;exact ad ⟨rfl,rfl,_,rfl,rfl,an _ _⟩
     refine aK ?_ ?_
     ·intro wD E sD;refine aw (aw ?_);refine dq (M:=M) au I3 rfl rfl rfl hu (by repeat (first|exact aq _ _|refine aT (aY (by assumption)) ?_)) (by omega) (fun adQ WD QI QK=>?_);obtain rfl:WD=y:=bM (QI.symm.trans (by simpa using hy));exact ad ⟨rfl,rfl,_,rfl,QK,an _ _⟩
     refine aK ?_ ?_
     ·intro wD E sD;intro v6 n0;refine cb (M:=M) ar rfl rfl (by assumption) (by repeat (first|exact aq _ _|refine aT (aY (by assumption)) ?_)) (fun Z2=>?_);exact ad ⟨rfl,rfl,_,rfl,rfl,an _ _⟩
     refine aK ?_ ?_
     ·intro wD E sD;refine aw (aw (eV rfl rfl rfl ?_));exact ad ⟨rfl,rfl,_,rfl,rfl,an _ _⟩
     exact bX.nil
    ·intro wD6 Z3;refine aw (aw ?_);intro adR Z4;refine aw (aw (aw ?_));intro adS Z5;refine aw (aw ?_);refine bI rfl (fun c6=>?_) (fun c6=>?_)
     ·refine aj (ah (ai rfl rfl (ad (aJ ?_))));refine aO rfl rfl ⟨?_,s1.ay Z3⟩;rw[decide_eq_false];rintro rfl;rw[hx]at hy;cases hy;exact c6 rfl
     ·refine aU (ah (ae rfl rfl (bA rfl rfl rfl (by omega) (ai rfl rfl (ad ?_)))));refine⟨rfl,k+1,(.cons rfl (.cons rfl (.cons rfl .nil))),?_,?_⟩
      ·exact⟨by omega,by rw[eZ (by omega),eZ (by omega),heq];obtain⟨_,h1⟩:=av.1 hx;obtain⟨_,h2⟩:=av.1 hy;rw[h1,h2,dU.1 c6],s1.ay Z3⟩
      ·show a.length-(k+1)<a.length-k;omega
   ·refine cM (aj (ah (ai rfl rfl (ad (aJ ?_)))));refine aO rfl rfl ⟨?_,s1⟩;rw[decide_eq_true]
    rwa [bp (by omega),bp (by omega)]at heq
end Go.K
namespace Go.K
open Go.Proofs
set_option maxRecDepth 10000
theorem Ch {M:aA} {w0:World} {v:Value} {x:Li} (hv:ch RT.li M w0 v x) {k:Int}:
  Spec Tryz.prog 214 #[v,.int .i64 k] w0 (fun v' w'=>v'= .bool (Ei x.2.1.length k)∧w0=w'):=by
 refine aX (args:=[_,_]) (fn:=Tryz.f214) Tryz.func214 rfl (n:=16) Tryz.ntmps214 (aj (ah (ai rfl rfl (ad (aj (ah (ae rfl rfl (dr rfl rfl rfl (ae rfl rfl ?_)))))))));refine aG (g:=7) rfl (fun fF=>?_) (fun fF=>?_)
 ·refine al rfl rfl (ae rfl rfl (al rfl rfl (ae rfl rfl (al rfl rfl (aR rfl (ch.jb (by assumption)) rfl (al rfl rfl ?_))))));refine aH (M:=M) (A:=RT.li) (B:=(RT.bl).sl) dv rfl rfl Al (by decide) (Sf) rfl rfl (by decide) (by assumption) (by repeat (first|exact aq _ _|refine aT (aY (by assumption)) ?_)) (fun adT Z6=>?_);refine al rfl rfl ?_;refine cg (M:=M) dO rfl rfl rfl rfl rfl (by assumption) (by repeat (first|exact aq _ _|refine aT (aY (by assumption)) ?_)) (fun WE QL=>?_);refine al rfl rfl ?_
  first|refine bU dO rfl (by assumption) rfl ?_|refine gC dO rfl (by assumption) rfl ?_
  refine al rfl rfl (cf rfl rfl rfl (aQ rfl rfl rfl (ai rfl rfl (ad (aJ ?_)))))
  first
  |exact aO rfl rfl ⟨congrArg Value.bool (decide_eq_decide.2 (by omega)),rfl⟩
  |exact aO rfl rfl ⟨congrArg Value.bool (eF (decide_eq_false (by omega))),rfl⟩
 ·refine ao rfl rfl rfl rfl (ao rfl rfl rfl rfl (ao rfl rfl rfl rfl (ao rfl rfl rfl rfl (ao rfl rfl rfl rfl (ao rfl rfl rfl rfl (ao rfl rfl rfl rfl (ax rfl rfl rfl (ai rfl rfl (ad (aJ ?_))))))))))
  first
  |exact aO rfl rfl ⟨congrArg Value.bool (decide_eq_decide.2 (by omega)),rfl⟩
  |exact aO rfl rfl ⟨congrArg Value.bool (eF (decide_eq_false (by omega))),rfl⟩
theorem kC {M:aA} {w0:World} {v:Value} {x:Li} (hv:ch RT.li M w0 v x):
  Spec Tryz.prog 183 #[v] w0 (fun v' w'=>v'= .int .i64 x.2.1.length∧w0=w'):=by
 refine aX (args:=[_]) (fn:=Tryz.f183) Tryz.func183 rfl (n:=8) Tryz.ntmps183 (aj (ah (ai rfl rfl (ad (aj (ah (ae rfl rfl (aR rfl (ch.jb (by assumption)) rfl ?_))))))));refine aH (M:=M) (A:=RT.li) (B:=(RT.bl).sl) dv rfl rfl Al (by decide) (Sf) rfl rfl (by decide) (by assumption) (by repeat (first|exact aq _ _|refine aT (aY (by assumption)) ?_)) (fun Ix tv=>?_);refine cg (M:=M) dO rfl rfl rfl rfl rfl (by assumption) (by repeat (first|exact aq _ _|refine aT (aY (by assumption)) ?_)) (fun Qd FJ=>?_)
 first|refine bU dO rfl (by assumption) rfl ?_|refine gC dO rfl (by assumption) rfl ?_
 refine ai rfl rfl (ad (aJ ?_));exact aO rfl rfl ⟨rfl,rfl⟩
theorem Df {M:aA} {w0:World} {v:Value} {x:Li} (hv:ch RT.li M w0 v x) {k:Int}:
  Spec Tryz.prog 184 #[v,.int .i64 k] w0 (fun v' w'=>v'= .int .i64 (yi x.2.1 k)∧w0=w'):=by
 refine aX (args:=[_,_]) (fn:=Tryz.f184) Tryz.func184 rfl (n:=17) Tryz.ntmps184 (aj (ah (ai rfl rfl (ad (aj (aj (ah (ae rfl rfl (ae rfl rfl ?_)))))))));refine aP rfl rfl OS (Ch hv (k:=k)) (fun r w1 h1=>?_);obtain⟨rfl,rfl⟩:=h1;refine Rg.not rfl rfl (bu (v':= .bool (decide (¬(0≤k∧k<x.2.1.length)))) (by unfold Ei;rw[decide_not]) (ad ?_));refine bI rfl (fun c1=>?_) (fun c1=>?_)
 ·refine aj (ah (ai rfl rfl (ad (aJ ?_))));exact aO rfl rfl ⟨by unfold yi Ei;rw[if_neg (by simpa using c1)],rfl⟩
 ·refine aU (aj (ah (ae rfl rfl (aR rfl (ch.jb (by assumption)) rfl ?_))));refine aH (M:=M) (A:=RT.li) (B:=(RT.bl).sl) dv rfl rfl Al (by decide) (Sf) rfl rfl (by decide) (by assumption) (by repeat (first|exact aq _ _|refine aT (aY (by assumption)) ?_)) (fun Ib th=>?_);refine cg (M:=M) dO rfl rfl rfl rfl rfl (by assumption) (by repeat (first|exact aq _ _|refine aT (aY (by assumption)) ?_)) (fun QM J3=>?_);refine ae rfl rfl ?_;obtain⟨b,hb⟩:∃b,x.2.1[k.toNat]? =some b:=⟨_,aL (by omega)⟩;refine dq (M:=M) dO ui rfl rfl rfl (by assumption) (aq _ _) (by omega) (fun WG Mq Gq QN=>?_);obtain rfl:Mq=b:=bM (Gq.symm.trans hb);refine aH (M:=M) (A:=RT.bl) (B:=RT.int .i64) jP rfl rfl I3 (by decide) (bl2) rfl rfl (by decide) (by assumption) (by repeat (first|exact aq _ _|refine aT (aY (by assumption)) ?_)) (fun adU Z7=>?_);refine cb (M:=M) ar rfl rfl (by assumption) (by repeat (first|exact aq _ _|refine aT (aY (by assumption)) ?_)) (fun Z8=>?_);refine ai rfl rfl (ad (aJ ?_));exact aO rfl rfl ⟨by unfold yi Ei;rw[if_pos (by simpa using c1),bH,hb];rfl,rfl⟩
theorem A8 {M:aA} {w0:World} {v:Value} {b:List UInt8} {at_ ahead:Int} (hM:Lt M w0) (hv:(RT.u8.sl).V M w0 b v) (NS: -9223372036854775808≤at_∧at_≤9223372036854775807) (hah: -9223372036854775808≤ahead∧ahead≤9223372036854775807) (zV:b.length≤1099511627776):
  Spec Tryz.prog 215 #[v,.int .i64 at_,.int .i64 ahead] w0 (fun v' w'=>∃p,v'= .tuple #[p,.int .i64 (nW b at_ ahead).2.1,.int .i64 (nW b at_ ahead).2.2]∧RT.po.V M w' (nW b at_ ahead).1 p∧Step M w0 M w' aC):=by
 refine aX (args:=[_,_,_]) (fn:=Tryz.f215) Tryz.func215 rfl (n:=38) Tryz.ntmps215 (aj (ah ?_));refine eW M gw rfl (fun b0 w1 hb0 adV hB s1=>?_);have rq:=s1.lt hM;have nZ:=hv.le s1.le;refine ai rfl rfl (ai rfl rfl (ad (aj (ah (ae rfl rfl (ae rfl rfl ?_))))));refine aP rfl rfl OX (zo nZ NS) (fun r w2 h2=>?_);obtain⟨rfl,rfl⟩:=h2;have rS:=uY b at_;obtain⟨WB,ZZ,SE,Z0⟩:=lL b at_;refine ae rfl rfl (bP rfl rfl rfl (bP rfl rfl rfl (bP rfl rfl rfl (ai rfl rfl (ai rfl rfl (ai rfl rfl (ad (aj (aj (ah (ae rfl rfl ?_)))))))))));refine eV rfl rfl rfl (ad ?_);refine bI rfl (fun c2=>?_) (fun c2=>?_)
 ·refine aj (ah (dZ (places:=[(0,1),(1,1)]) bJ gw HR rfl rfl (out:=[.int .i64 0,.slice none 0 0]) rfl (ae rfl rfl ?_)));refine fa (M:=ins M b0) gw rfl rfl (by intro u hu;simp at hu;rcases hu with rfl|rfl<;>rfl) rfl rfl hB (.inl rfl) (fun w3 hB3 s3=>?_);refine ai rfl rfl (ai rfl rfl (ad (aJ ?_)));have iU:=s1.size;have S:Step M w0 M w3 aC:=(s1.cu s3 (fun k hk=>by subst hk;omega)).back;refine Ef rfl rfl bJ rfl gw rfl hB3 rfl rfl ⟨_,by unfold nW;rw[if_pos c2]<;>rfl,?_,S⟩;unfold nW;rw[if_pos c2];exact dY (gp (x:=0) (by omega)) jR rfl rfl rfl rfl
 ·refine aU (aj (ah (ae rfl rfl (ae rfl rfl ?_))));have fu:=p8 (b:=b) (at_:=at_) (by omega);refine aP rfl rfl Ul (tB (M:=ins M b0) rq nZ (by omega) zV) (fun r w3 h3=>?_);obtain⟨x3,rfl,QO,s3⟩:=h3;refine ae rfl rfl (bP rfl rfl rfl (bP rfl rfl rfl (bP rfl rfl rfl (ai rfl rfl (ai rfl rfl (ai rfl rfl (ad (aj (ah (ae rfl rfl (Rg.wa rfl rfl rfl ?_)))))))))));refine ae rfl rfl (Rg.wa rfl rfl rfl (ae rfl rfl (dZ (places:=[(0,1),(1,1)]) bJ gw HR rfl ⟨_,_,rfl,rfl,_,_,rfl,rfl,rfl⟩ (out:=[_,_]) ⟨0,[_],rfl,rfl,by simp[Value.cells],1,[_],rfl,ij QO,by simp[Value.cells],rfl⟩ (ae rfl rfl (ae rfl rfl ?_)))));obtain⟨vx,sV⟩:∃vx,vx=x3:=⟨_,rfl⟩;have pU:=j1 QO rfl rfl;refine fa (M:=ins M b0) gw rfl rfl (by intro u hu;simp at hu;rcases hu with rfl|rfl;rfl;exact pU) rfl rfl (s3.aI hB) (.inl rfl) (fun w4 SD s4=>?_);refine ai rfl rfl (ai rfl rfl (ad (aJ ?_)));have iU:=s1.size;have adX:=s3.size;have S3:=s1.ay s3;have S:Step M w0 M w4 aC:=(S3.cu s4 (fun k hk=>by subst hk;omega)).back;refine Ef rfl rfl bJ rfl gw rfl SD rfl rfl ⟨_,by unfold nW;rw[if_neg c2]<;>rfl,?_,S⟩;unfold nW;rw[if_neg c2];have hx4:=(QO.le s4.le).le (Le.close hM (S3.cu s4 (fun k hk=>by subst hk;omega)));exact dY (gp Eg) hx4 rfl rfl rfl rfl
theorem A9 {M:aA} {w0:World} {v:Value} {l:List Po} {k:Int} (hM:Lt M w0) (hv:ch RT.li M w0 v (gK l)) (pE:dP (-1) l=true) (ri:∀p∈l,p.2.length≤1099511627776) (zV:(dy (-1) l).length≤1099511627776):
  Spec Tryz.prog 180 #[v,.int .i64 k] w0 (fun v' w'=>Step M w0 M w' aC∧((RT.po).sl).V M w' (if Ei ((l.length+7)/8) k then(l.drop (8*k.toNat)).take 8 else[]) v'):=by
 have QP:(gK l).2.1.length=(l.length+7)/8:=by simp[gK,mz]
 refine aX (args:=[_,_]) (fn:=Tryz.f180) Tryz.func180 rfl (n:=51) Tryz.ntmps180 (aj (ah (ai rfl rfl (ad (aj (aj (ah (ae rfl rfl (ae rfl rfl ?_)))))))));refine aP rfl rfl OS (Ch hv (k:=k)) (fun r w1 h1=>?_);obtain⟨rfl,rfl⟩:=h1;refine Rg.not rfl rfl (bu (v':= .bool (decide (¬(0≤k∧k<(gK l).2.1.length)))) (by unfold Ei;rw[decide_not]) (ad ?_));refine bI rfl (fun c1=>?_) (fun c1=>?_)
 ·refine aj (ah (ai rfl rfl (ad (aJ ?_))));refine aO rfl rfl ⟨an _ _,?_⟩;rw[if_neg (by unfold Ei;rw[QP]at c1;simpa using c1)];exact jR
 ·refine aU (aj (ah (ae rfl rfl (aR rfl (ch.jb (by assumption)) rfl ?_))));refine aH (M:=M) (A:=RT.li) (B:=(RT.bl).sl) dv rfl rfl Al (by decide) (Sf) rfl rfl (by decide) (by assumption) (by repeat (first|exact aq _ _|refine aT (aY (by assumption)) ?_)) (fun Ib th=>?_);refine cg (M:=M) dO rfl rfl rfl rfl rfl (by assumption) (by repeat (first|exact aq _ _|refine aT (aY (by assumption)) ?_)) (fun QM J3=>?_);refine ae rfl rfl ?_;obtain⟨j,rfl⟩:∃j:Nat,k=j:=⟨k.toNat,by omega⟩;have hb:(gK l).2.1[j]? =some (o4 l j):=by simp only[gK,mz,ew];rw[List.getElem?_range (by omega)];rfl
  refine dq (M:=M) dO ui rfl rfl rfl (by assumption) (aq _ _) (by omega) (fun WG Mq Gq QN=>?_);obtain rfl:Mq=o4 l j:=bM (Gq.symm.trans (by simpa using hb));have JU:(o4 l j).2.2.2=(((l.drop (8*j)).take 8).length:Int):=rfl;have Z9:((l.drop (8*j)).take 8).length≤8:=by rw[bS];omega
  refine cx (M:=M) (A:=RT.bl) jP rfl ui (by decide) rfl rfl rfl (by assumption) (by repeat (first|exact aq _ _|refine aT (aY (by assumption)) ?_)) (fun adZ aaa=>?_);refine ov (A:=RT.bl) (M:=M) ui rfl rfl rfl rfl rfl (by assumption) (by repeat (first|exact aq _ _|refine aT (aY (by assumption)) ?_)) (by first|assumption|exact Step.lt (by assumption) (by assumption)|exact Step.lt (by assumption) (Step.lt (by assumption) (by assumption))) (fun WH Ms aab Mt ad0=>?_);refine ad (aj (ah (ai rfl rfl (ad (aj (aj ?_))))));apply T.draw (M:=M) mixed [b8.ptr (RT.int .i64) (o4 l j).1,b8.eq _,b8.ptr (RT.int .i64) (o4 l j).2.1,b8.eq _,b8.eq _,b8.eq _]
  ·rfl
  ·refine aK ?_ ?_
   ·intro wD E sD;refine aH (M:=M) (A:=RT.bl) (B:=RT.int .i64) jP rfl rfl I3 (by decide) (bl0) rfl rfl (by decide) (by assumption) (by repeat (first|exact aq _ _|refine aT (aY (by assumption)) ?_)) (fun Qw Cg=>?_);exact ad ⟨rfl,rfl,_,rfl,by assumption,an _ _⟩
   refine aK ?_ ?_
   ·intro wD E sD;intro v0 He;refine cb (M:=M) ar rfl rfl (by assumption) (by repeat (first|exact aq _ _|refine aT (aY (by assumption)) ?_)) (fun J4=>?_);exact ad ⟨rfl,rfl,_,rfl,rfl,an _ _⟩
   refine aK ?_ ?_
   ·intro wD E sD;refine aH (M:=M) (A:=RT.bl) (B:=RT.int .i64) jP rfl rfl I3 (by decide) (bl1) rfl rfl (by decide) (by assumption) (by repeat (first|exact aq _ _|refine aT (aY (by assumption)) ?_)) (fun WI qX=>?_);exact ad ⟨rfl,rfl,_,rfl,by assumption,an _ _⟩
   refine aK ?_ ?_
   ·intro wD E sD;intro v2 wO;refine cb (M:=M) ar rfl rfl (by assumption) (by repeat (first|exact aq _ _|refine aT (aY (by assumption)) ?_)) (fun aac=>?_);exact ad ⟨rfl,rfl,_,rfl,rfl,an _ _⟩
   refine aK ?_ ?_
   ·intro wD E sD;refine aw ?_;intro v0 He;refine aw (ai rfl rfl ?_);exact ad ⟨rfl,rfl,_,rfl,rfl,an _ _⟩
   refine aK ?_ ?_
   ·intro wD E sD;refine aw (aw ?_);intro v0 He;refine aw ?_;intro v2 wO;refine aw (aw (ai rfl rfl ?_));exact ad ⟨rfl,rfl,_,rfl,rfl,an _ _⟩
   exact bX.nil
  ·intro NQ xx;intro ad1 aad;refine aw ?_;intro Vc JF;refine aw (aw (aw (a8 ?_)));have hz5:=Mt.size;refine dC (σ:=Nat×Value) (fun s=>[(0,v),(5,WH),(6,s.2),(7,.int .i64 (dy (-1) (l.take (8*j+s.1))).length),(8,.int .i64 (bW (-1) (l.take (8*j+s.1))))]) (fun s w=>s.1≤((l.drop (8*j)).take 8).length∧∃M1,Lt M1 w∧Step M w0 M1 w aC∧Step M Ms M1 w aC∧Own RT.po 153 M1 w Ms.heap.size s.2 (((l.drop (8*j)).take 8).take s.1)) (fun s=>((l.drop (8*j)).take 8).length-s.1) (0,_) (.cons rfl (.cons rfl (.cons rfl (.cons rfl (.cons rfl .nil))))) ?_ ?_
   ·exact⟨bG _,M,xx.lt (Mt.lt hM),Mt.ay xx,xx,ec _ _ _ _ _⟩
   ·rintro⟨i,u0⟩ w1 ⟨hi,M1,rq,S,S5,ho⟩;dsimp only at hi ho ⊢;refine aj (aj (ah (ae rfl rfl (gC aW rfl ho rfl (bu (v':= .int .i64 i) (by rw[bS,Nat.min_eq_left hi]) ?_)))));refine aH (M:=M1) (A:=RT.bl) (B:=RT.int .i64) jP rfl rfl I3 (by decide) (bl3) rfl rfl (by decide) (by assumption) (by repeat (first|exact aq _ _|refine aT (aY (by assumption)) ?_)) (fun Lc Gp=>?_);refine cb (M:=M1) ar rfl rfl Gp (aq _ _) (fun QH=>?_);refine bu (v':= .int .i64 ((l.drop (8*j)).take 8).length) rfl (cf rfl rfl rfl (ad ?_));refine bI rfl (fun c6=>?_) (fun c6=>?_)
    ·refine aU (a8 (aj (ah (ae rfl rfl (aR rfl (ch.jb (by assumption)) rfl ?_)))));refine aH (M:=M1) (A:=RT.li) (B:=RT.u8.sl) dv rfl rfl yr (by decide) (li0) rfl rfl (by decide) (by assumption) (by repeat (first|exact aq _ _|refine aT (aY (by assumption)) ?_)) (fun VM vH=>?_);refine cg (M:=M1) bm rfl rfl rfl rfl rfl (by assumption) (by repeat (first|exact aq _ _|refine aT (aY (by assumption)) ?_)) (fun ad2 QQ=>?_);refine ae rfl rfl (ae rfl rfl ?_);obtain⟨⟨d,ps⟩,hx⟩:∃x,l[8*j+i]? =some x:=⟨_,aL (by rw[bS,cN]at c6;omega)⟩;obtain⟨f1,f2,f3,f4,f5,f6⟩:=mV pE hx;have H5:nW (gK l).1 _ _=_:=Ej pE hx (ri _ (aM hx));have Cw:(dy (-1) (l.take (8*j+i))).length≤(dy (-1) l).length:=by rw[mW (l:=l) (i:=8*j+i) (-1)];simp
     refine aP rfl rfl Ud (A8 (M:=M1) rq QQ (by omega) (by omega) zV) (fun r7 w7 h7=>?_);obtain⟨p7,h7e,NU,s7⟩:=h7;rw[H5]at h7e NU;subst h7e;change RT.po.V M1 w7 (d,ps) p7 at NU;replace S:=S.ay s7;replace S5:=S5.ay s7;replace ho:=ho.bh s7;replace rq:=s7.lt rq;have hci:((l.drop (8*j)).take 8)[i]? =some (d,ps):=by rw[dF,if_pos (by omega),List.getElem?_drop];exact hx
     refine ae rfl rfl (bP rfl rfl rfl (bP rfl rfl rfl (bP rfl rfl rfl ?_)));refine ov (A:=RT.po) (M:=M1) gw rfl rfl rfl rfl rfl (by assumption) (by repeat (first|exact aq _ _|refine aT (aY (by assumption)) ?_)) (by first|assumption|exact Step.lt (by assumption) (by assumption)|exact Step.lt (by assumption) (Step.lt (by assumption) (by assumption))) (fun aag aah Gr Ci aai=>?_);refine ai rfl rfl (ai rfl rfl (ad (aj (ah (ae rfl rfl ?_)))));replace S:=S.ay Ci;replace S5:=S5.ay Ci;replace ho:=ho.bh Ci;replace rq:=Ci.lt rq;clear NU;refine cx (M:=M1) (A:=RT.po) bJ rfl gw (by decide) rfl rfl rfl Gr (aq _ _) (fun v8 Cf=>?_);refine eE (A:=RT.po) (hn:=by decide) (M:=M1) aW gw (by decide) rfl rfl rq Cf (.inl rfl) (fun u2 w2 rl s2=>?_);refine cR (M:=M1) (base:=Ms.heap.size) aW gw rfl rfl rfl rfl (ho.bh s2) rl (aq _ _) (by simp;omega) (by simp;omega) (fK S5.size s2.size) (fun v3 M3 w3 Hq s3=>?_);replace S:=(S.ay s2).dh s3 (ho.bh s2) hz5;have LI:=(Gr.le (by decide) s2.le).le (by decide) s3.le;have hM3:=s3.lt (s2.lt rq);replace S5:=(S5.ay s2).dh s3 (ho.bh s2) (bj _);refine ai rfl rfl (ad ?_);apply T.draw (M:=M3) mixed [b8.eq _,b8.ptr (RT.int .i64) d,b8.eq _,b8.eq _,b8.eq _]
     ·rfl
     ·refine aK ?_ ?_
      ·intro wD E sD;refine ae rfl rfl ?_;exact ad ⟨rfl,rfl,_,rfl,rfl,an _ _⟩
      refine aK ?_ ?_
      ·intro wD E sD;refine aH (M:=M3) (A:=RT.po) (B:=RT.int .i64) bJ rfl rfl I3 (by decide) (Hi) rfl rfl (by decide) LI sD.le (fun VX F3=>?_);exact ad ⟨rfl,rfl,_,rfl,F3,an _ _⟩
      refine aK ?_ ?_
      ·intro wD E sD;intro v1 nZ;refine cb (M:=M3) ar rfl rfl (by assumption) (by repeat (first|exact aq _ _|refine aT (aY (by assumption)) ?_)) (fun aaj=>?_);exact ad ⟨rfl,rfl,_,rfl,rfl,an _ _⟩
      refine aK ?_ ?_
      ·intro wD E sD;refine aw (aw (ai rfl rfl ?_));exact ad ⟨rfl,rfl,_,rfl,rfl,an _ _⟩
      refine aK ?_ ?_
      ·intro wD E sD;refine aw (aw (aw ?_));intro v1 nZ;refine aw (aw (ai rfl rfl ?_));exact ad ⟨rfl,rfl,_,rfl,rfl,an _ _⟩
      exact bX.nil
     ·intro NV Cj;refine aw ?_;intro ad5 aak;refine aw (aw (aw ?_));refine⟨rfl,(i+1,v3),(.cons rfl (.cons rfl (.cons rfl (.cons rfl (.cons (by rw[←f5];rfl) .nil))))),?_,?_⟩
      ·refine⟨by simp only;omega,M3,Cj.lt hM3,S.ay Cj,S5.ay Cj,?_⟩;simp only;obtain⟨Sj,Hk⟩:=av.1 hci;rw[eZ Sj,Hk];exact Hq.bh Cj
      ·simp only;omega
    ·refine cM (aj (ah (ae rfl rfl (ai rfl rfl (ad (aJ ?_))))));refine aO rfl rfl ⟨S.back,?_⟩;rw[if_pos (by unfold Ei;rw[QP]at c1;simpa using c1),az];rw[bp (by omega)]at ho;exact Own.close hM S (ho.rU hz5) (by omega)
end Go.K
namespace Go.K
open Go.Proofs
set_option maxRecDepth 10000
theorem zq {M:aA} {w0:World} {v:Value} {l:List Int} (hv:((RT.int .i64).sl).V M w0 l v):
  Spec Tryz.prog 212 #[v] w0 (fun v' w'=>v'= .bool (lM l)∧w0=w'):=by
 have hlen:=dV hv;refine aX (args:=[_]) (fn:=Tryz.f212) Tryz.func212 rfl (n:=32) Tryz.ntmps212 (aj (ah (ai rfl rfl (ad (aj (aj (ah (ae rfl rfl ?_))))))))
 first|refine bU au rfl (by assumption) rfl ?_|refine gC au rfl (by assumption) rfl ?_
 refine ae rfl rfl (ad (a8 ?_));refine dC (σ:=Nat×Int) (fun s=>[(0,v),(5,v),(6,.int .i64 l.length),(7,.int .i64 s.1)]) (fun s w=>w0=w∧s.1≤l.length∧lM l=(eA s.2 (l.drop s.1)&&(l.drop s.1).all (fun n=>decide (n<2147483648)))∧ -1≤s.2∧(s.1=0→s.2= -1)∧(0<s.1→l[s.1-1]? =some s.2)) (fun s=>l.length-s.1) (0,-1) (.cons rfl (.cons rfl (.cons rfl (.cons rfl .nil)))) ?_ ?_
 ·exact⟨rfl,bG _,rfl,by decide,fun _=>rfl,fun h=>absurd h (ic 0)⟩
 ·rintro⟨k,last⟩ w1 ⟨rfl,hk,hr,NR,h0,h1⟩;dsimp only at hk hr NR h0 h1 ⊢;refine aj (ah (cf rfl rfl rfl (ad (aj ?_))));refine bI rfl (fun c2=>?_) (fun c2=>?_)
  ·refine aU (aj (a8 (aj (ah (ae rfl rfl ?_)))));obtain⟨x,hx⟩:∃x,l[k]? =some x:=⟨_,aL (by omega)⟩;refine dq (M:=M) au I3 rfl rfl rfl hv (aq _ _) (by omega) (fun ad6 WK QR aal=>?_);obtain rfl:x=WK:=eF (bM (QR.symm.trans (by simpa using hx)));refine cb (M:=M) ar rfl rfl (by assumption) (by repeat (first|exact aq _ _|refine aT (aY (by assumption)) ?_)) (fun aam=>?_);refine ai rfl rfl (ai rfl rfl (ad (aj (ah (ae rfl rfl (cf rfl rfl rfl (ae rfl rfl ?_)))))));refine aG (g:=14) rfl (fun Gf=>?_) (fun Gf=>?_)
   ·refine ao rfl rfl rfl rfl (ao rfl rfl rfl rfl (aQ rfl rfl rfl (ae rfl rfl (ao rfl rfl rfl rfl (ao rfl rfl rfl rfl (ao rfl rfl rfl rfl (ca rfl rfl rfl (ca rfl rfl rfl (ca rfl rfl rfl (ca rfl rfl rfl (ca rfl rfl rfl ?_)))))))))));refine ca rfl rfl rfl (ca rfl rfl rfl (ao rfl rfl rfl rfl (aQ rfl rfl rfl (ad (lC rfl (aj (ah (ai rfl rfl (ad (aJ ?_))))))))));refine aO rfl rfl ⟨congrArg Value.bool (eF ?_),rfl⟩;rw[hr,eR hx,mX _ hx];by_cases h7:last<x
    ·have h2: ¬x<2147483648:=by omega
     simp[h2]
    ·simp[h7]
   ·refine al rfl rfl (ae rfl rfl (al rfl rfl (dr rfl rfl rfl (ax rfl rfl rfl (ae rfl rfl ?_)))));refine aG (g:=18) rfl (fun WL=>?_) (fun WL=>?_)
    ·refine ao rfl rfl rfl rfl (ao rfl rfl rfl rfl (ao rfl rfl rfl rfl (ca rfl rfl rfl (ca rfl rfl rfl (ca rfl rfl rfl (ca rfl rfl rfl (ca rfl rfl rfl (ca rfl rfl rfl (ca rfl rfl rfl (ao rfl rfl rfl rfl (aQ rfl rfl rfl ?_)))))))))));refine ad (lC rfl (aj (ah (ai rfl rfl (ad (aJ ?_))))));refine aO rfl rfl ⟨congrArg Value.bool (eF ?_),rfl⟩;rw[hr,eR hx,mX _ hx];by_cases h7:last<x
     ·have h2: ¬x<2147483648:=by omega
      simp[h2]
     ·simp[h7]
    ·refine al rfl rfl (ae rfl rfl (al rfl rfl (nK rfl rfl rfl (al rfl rfl (ae rfl rfl ?_)))));refine aG (g:=21) rfl (fun WM=>?_) (fun WM=>?_)
     ·refine al rfl rfl (ae rfl rfl (al rfl rfl (ae rfl rfl (al rfl rfl (ae rfl rfl (al rfl rfl (fX rfl rfl rfl (by omega) (al rfl rfl ?_))))))));refine dq (M:=M) au I3 rfl rfl rfl hv (aq _ _) (by omega) (fun aan QS Mu WN=>?_);obtain rfl:last=QS:=eF (bM (Mu.symm.trans (by rw[show((k:Int)-1).toNat=k-1 from by omega];exact h1 (by omega))));refine al rfl rfl ?_;refine cb (M:=M) ar rfl rfl (by assumption) (by repeat (first|exact aq _ _|refine aT (aY (by assumption)) ?_)) (fun WO=>?_);refine al rfl rfl (eP rfl rfl rfl (al rfl rfl (aQ rfl rfl rfl (ax rfl rfl rfl (ad ?_)))));refine bI rfl (fun c4=>?_) (fun c4=>?_)
      ·refine aj (ah (ai rfl rfl (ad (aJ ?_))));refine aO rfl rfl ⟨congrArg Value.bool (eF ?_),rfl⟩;rw[hr,eR hx,mX _ hx];by_cases h7:last<x
       ·have h2: ¬x<2147483648:=by omega
        simp[h2]
       ·simp[h7]
      ·refine aU (ah (bA rfl rfl rfl (by omega) (ae rfl rfl (ad ?_))));refine⟨rfl,(k+1,x),(.cons rfl (.cons rfl (.cons rfl (.cons rfl .nil)))),?_,?_⟩
       ·refine⟨rfl,by simp only;omega,?_,by simp only;omega,fun h=>by simp at h,fun _=>by simpa using hx⟩;rw[hr,eR hx,mX _ hx,decide_eq_true (show last<x by omega),decide_eq_true (show x<2147483648 by omega),dw,dw]
       ·simp only;omega
     ·refine ao rfl rfl rfl rfl (ao rfl rfl rfl rfl (ao rfl rfl rfl rfl (ao rfl rfl rfl rfl (ao rfl rfl rfl rfl (ao rfl rfl rfl rfl (ao rfl rfl rfl rfl (al rfl rfl (ax rfl rfl rfl (ax rfl rfl rfl (ad (hU rfl ?_)))))))))));refine aU (ah (bA rfl rfl rfl (by omega) (ae rfl rfl (ad ?_))));refine⟨rfl,(k+1,x),(.cons rfl (.cons rfl (.cons rfl (.cons rfl .nil)))),?_,?_⟩
      ·refine⟨rfl,by simp only;omega,?_,by simp only;omega,fun h=>by simp at h,fun _=>by simpa using hx⟩;rw[hr,eR hx,mX _ hx,decide_eq_true (show last<x by omega),decide_eq_true (show x<2147483648 by omega),dw,dw]
      ·simp only;omega
  ·refine cM (aj (ah (ai rfl rfl (ad (aJ ?_)))));refine aO rfl rfl ⟨congrArg Value.bool (eF ?_),rfl⟩;rw[hr,ei (by omega)];rfl
theorem Dg {M:aA} {w0:World} {v:Value} {l:List Po} (hM:Lt M w0) (hv:((RT.po).sl).V M w0 l v):
  Spec Tryz.prog 171 #[v] w0 (fun v' w'=>v'= .bool (dP (-1) l)∧Step M w0 M w' aC):=by
 have hlen:=dV hv;refine aX (args:=[_]) (fn:=Tryz.f171) Tryz.func171 rfl (n:=36) Tryz.ntmps171 (aj (ah (ai rfl rfl (ad (aj (ah (ai rfl rfl (ad (aj (aj (ah ?_)))))))))));refine ae rfl rfl ?_
 first|refine bU aW rfl (by assumption) rfl ?_|refine gC aW rfl (by assumption) rfl ?_
 refine ae rfl rfl (ad (a8 ?_));refine dC (σ:=Nat×Int) (fun s=>[(6,v),(7,.int .i64 l.length),(8,.int .i64 s.1),(3,.int .i64 s.2)]) (fun s w=>Step M w0 M w aC∧s.1≤l.length∧dP (-1) l=dP s.2 (l.drop s.1)) (fun s=>l.length-s.1) (0,-1) (.cons rfl (.cons rfl (.cons rfl (.cons rfl .nil)))) ?_ ?_
 ·exact⟨an _ _,bG _,rfl⟩
 ·rintro⟨k,last⟩ w1 ⟨S,hk,hr⟩;dsimp only at hk hr ⊢;have hMw:=S.lt hM;refine aj (ah (cf rfl rfl rfl (ad (aj ?_))));refine bI rfl (fun c3=>?_) (fun c3=>?_)
  ·refine aU (aj (a8 (aj (ah ?_))));obtain⟨⟨d,ps⟩,hx⟩:∃x,l[k]? =some x:=⟨_,aL (by omega)⟩;refine dq (M:=M) aW gw rfl rfl rfl (hv.le S.le) (aq _ _) (by omega) (fun Ln WQ QT BZ=>?_);obtain rfl:WQ=(d,ps):=bM (QT.symm.trans (by simpa using hx));refine cx (M:=M) (A:=RT.po) bJ rfl gw (by decide) rfl rfl rfl (by assumption) (by repeat (first|exact aq _ _|refine aT (aY (by assumption)) ?_)) (fun Lo EX=>?_);refine ov (A:=RT.po) (M:=M) gw rfl rfl rfl rfl rfl (by assumption) (by repeat (first|exact aq _ _|refine aT (aY (by assumption)) ?_)) (by first|assumption|exact Step.lt (by assumption) (by assumption)|exact Step.lt (by assumption) (Step.lt (by assumption) (by assumption))) (fun O5 O6 lg o9 Wo=>?_);refine ad (aj (aj (ah ?_)));refine aH (M:=M) (A:=RT.po) (B:=RT.int .i64) bJ rfl rfl I3 (by decide) (Hi) rfl rfl (by decide) (by assumption) (by repeat (first|exact aq _ _|refine aT (aY (by assumption)) ?_)) (fun Qw Cg=>?_);refine cb (M:=M) ar rfl rfl Cg (aq _ _) (fun J4=>?_);refine bu (v':= .int .i64 d) rfl ?_;simp only at J4;refine ae rfl rfl (eP rfl rfl rfl (ae rfl rfl ?_));refine aG (g:=16) rfl (fun WR=>?_) (fun WR=>?_)
   ·refine ao rfl rfl rfl rfl (ao rfl rfl rfl rfl (ao rfl rfl rfl rfl (aQ rfl rfl rfl (ae rfl rfl (ao rfl rfl rfl rfl (ao rfl rfl rfl rfl (ao rfl rfl rfl rfl (ao rfl rfl rfl rfl (aQ rfl rfl rfl (ae rfl rfl (ao rfl rfl rfl rfl ?_)))))))))));refine ao rfl rfl rfl rfl (ao rfl rfl rfl rfl (ao rfl rfl rfl rfl (aQ rfl rfl rfl (ad (lC rfl (aj (ah (ai rfl rfl (ad (aJ ?_))))))))));refine aO rfl rfl ⟨congrArg Value.bool (eF ?_),S.ay o9⟩;rw[hr,j4 hx]
    first
    |(rw[decide_eq_false (show¬last<d by omega)];simp;done)
    |(rw[decide_eq_false (show¬d<2147483648 by omega)];simp;done)
    |(rw[show ps=[]from fY.1 (by omega)];simp;done)
    |(simp[c5];done)
   ·refine al rfl rfl ?_;refine aH (M:=M) (A:=RT.po) (B:=RT.int .i64) bJ rfl rfl I3 (by decide) (Hi) rfl rfl (by decide) (by assumption) (by repeat (first|exact aq _ _|refine aT (aY (by assumption)) ?_)) (fun ad7 QU=>?_);refine al rfl rfl ?_;refine cb (M:=M) ar rfl rfl QU (aq _ _) (fun aao=>?_);refine bu (v':= .int .i64 d) rfl (al rfl rfl (dr rfl rfl rfl (ax rfl rfl rfl (ae rfl rfl ?_))));refine aG (g:=21) rfl (fun WS=>?_) (fun WS=>?_)
    ·refine ao rfl rfl rfl rfl (ao rfl rfl rfl rfl (ao rfl rfl rfl rfl (ao rfl rfl rfl rfl (aQ rfl rfl rfl (ae rfl rfl (ao rfl rfl rfl rfl (ao rfl rfl rfl rfl (ao rfl rfl rfl rfl (ao rfl rfl rfl rfl (aQ rfl rfl rfl (ad ?_)))))))))));refine lC rfl (aj (ah (ai rfl rfl (ad (aJ ?_)))));refine aO rfl rfl ⟨congrArg Value.bool (eF ?_),S.ay o9⟩;rw[hr,j4 hx]
     first
     |(rw[decide_eq_false (show¬last<d by omega)];simp;done)
     |(rw[decide_eq_false (show¬d<2147483648 by omega)];simp;done)
     |(rw[show ps=[]from fY.1 (by omega)];simp;done)
     |(simp[c5];done)
    ·refine al rfl rfl ?_;refine aH (M:=M) (A:=RT.po) (B:=(RT.int .i64).sl) bJ rfl rfl nM (by decide) (OE) rfl rfl (by decide) (by assumption) (by repeat (first|exact aq _ _|refine aT (aY (by assumption)) ?_)) (fun aap WT=>?_);refine al rfl rfl ?_;refine cg (M:=M) au rfl rfl rfl rfl rfl (by assumption) (by repeat (first|exact aq _ _|refine aT (aY (by assumption)) ?_)) (fun aaq Mv=>?_);refine al rfl rfl (bU au rfl Mv rfl (bu (v':= .int .i64 ps.length) rfl (al rfl rfl (Rg.zY rfl rfl rfl (ax rfl rfl rfl (ae rfl rfl ?_))))));refine aG (g:=27) rfl (fun J5=>?_) (fun J5=>?_)
     ·refine ao rfl rfl rfl rfl (ao rfl rfl rfl rfl (ao rfl rfl rfl rfl (ao rfl rfl rfl rfl (aQ rfl rfl rfl (ad (lC rfl (aj (ah (ai rfl rfl (ad (aJ ?_)))))))))));refine aO rfl rfl ⟨congrArg Value.bool (eF ?_),S.ay o9⟩;rw[hr,j4 hx]
      first
      |(rw[decide_eq_false (show¬last<d by omega)];simp;done)
      |(rw[decide_eq_false (show¬d<2147483648 by omega)];simp;done)
      |(rw[show ps=[]from fY.1 (by omega)];simp;done)
      |(simp[c5];done)
     ·refine al rfl rfl ?_;refine aH (M:=M) (A:=RT.po) (B:=(RT.int .i64).sl) bJ rfl rfl nM (by decide) (OE) rfl rfl (by decide) (by assumption) (by repeat (first|exact aq _ _|refine aT (aY (by assumption)) ?_)) (fun aar WU=>?_);refine al rfl rfl ?_;refine cg (M:=M) au rfl rfl rfl rfl rfl (by assumption) (by repeat (first|exact aq _ _|refine aT (aY (by assumption)) ?_)) (fun aas Mw=>?_);refine al rfl rfl ?_;refine aP rfl rfl Ub (zq Mw) (fun r5 w5 h5=>?_);obtain⟨rfl,rfl⟩:=h5;refine al rfl rfl (Rg.not rfl rfl (bu (v':= .bool (decide (¬lM ps=true))) (by simp) (ax rfl rfl rfl (ad ?_))));refine bI rfl (fun c5=>?_) (fun c5=>?_)
      ·refine aj (ah (ai rfl rfl (ad (aJ ?_))));refine aO rfl rfl ⟨congrArg Value.bool (eF ?_),S.ay o9⟩;rw[hr,j4 hx]
       first
       |(rw[decide_eq_false (show¬last<d by omega)];simp;done)
       |(rw[decide_eq_false (show¬d<2147483648 by omega)];simp;done)
       |(rw[show ps=[]from fY.1 (by omega)];simp;done)
       |(simp[c5];done)
      ·refine aU (ah ?_);refine aH (M:=M) (A:=RT.po) (B:=RT.int .i64) bJ rfl rfl I3 (by decide) (Hi) rfl rfl (by decide) (by assumption) (by repeat (first|exact aq _ _|refine aT (aY (by assumption)) ?_)) (fun PE B0=>?_);refine cb (M:=M) ar rfl rfl B0 (aq _ _) (fun aat=>?_);refine bu (v':= .int .i64 d) rfl (ai rfl rfl (ad (ah (bA rfl rfl rfl (by omega) (ae rfl rfl (ad ?_))))));refine⟨rfl,(k+1,d),(.cons rfl (.cons rfl (.cons rfl (.cons rfl .nil)))),?_,?_⟩
       ·refine⟨S.ay o9,by simp only;omega,?_⟩
        have eG:ps.isEmpty=false:=by cases ps with
         |nil=>simp at J5
         |cons a t=>rfl
        rw[hr,j4 hx,decide_eq_true (show last<d by omega),decide_eq_true (show d<2147483648 by omega),eG,dU.1 c5];rfl
       ·simp only;omega
  ·refine cM (aj (ah (ai rfl rfl (ad (aJ ?_)))));refine aO rfl rfl ⟨congrArg Value.bool (eF ?_),S⟩;rw[hr,ei (by omega)];rfl
theorem Ba {M:aA} {w0:World} {v:Value} {l:List Po} (hM:Lt M w0) (hv:((RT.po).sl).V M w0 l v):
  Spec Tryz.prog 172 #[v,.int .i64 8] w0 (fun v' w'=>∃bs bn,v'= .func (.func 213) [].toArray [.pointer (some ⟨bs,0,none⟩),.pointer (some ⟨bn,0,none⟩)].toArray∧w'.heap[bs]? =some (.cells #[v] 107 (0,0))∧w'.heap[bn]? =some (.cells #[.int .i64 8] 3 (0,0))∧w0.heap.size≤bs∧w0.heap.size≤bn∧Step M w0 M w' aC):=by
 refine aX (args:=[_,_]) (fn:=Tryz.f172) Tryz.func172 rfl (n:=9) Tryz.ntmps172 (aj (ah ?_));refine oT M rfl rfl (fun bs w1 h1 Hh hS s1=>?_);rw[ij hv]at hS;refine oT (ins M bs) rfl rfl (fun bn w2 h2 uc hN s2=>?_);have hS2:=s2.aI hS;have ZG:=s1.size;refine ai rfl rfl (ad (aj (aj (ah (aE ar rfl rfl rfl hN rfl (cf rfl rfl rfl (ad (T.zX rfl ((by decide)) (aU (aj (ah ?_)))))))))));refine hY (xs:=[]) (ys:=[.tmp 2,.tmp 3]) rfl rfl rfl (ai rfl rfl (ad (aJ ?_)));exact aO rfl rfl ⟨bs,bn,rfl,hS2,hN,h1,by omega,(s1.ay s2).back⟩
theorem zr {w0:World} {bs bn yl:Nat} {v:Value} {l:List Po} {M:aA} {wv:World} {J:Nat→World→Prop} {Jx:World→Prop} (hv:((RT.po).sl).V M wv l v) (iz:∀i w w',J i w→Step aC w aC w' aC→J i w') (DM:∀i w,J i w→w.heap[bs]? =some (.cells #[v] 107 (0,0))∧w.heap[bn]? =some (.cells #[.int .i64 8] 3 (0,0))) (hy:∀(i:Nat) (w:World) (u:Value),J i w→i<l.length→((RT.po).sl).V M wv ((l.drop i).take 8) u→qI Tryz.prog yl [u].toArray w (fun r w'=>∃b,r= .bool b∧(b=true→J (min (i+8) l.length) w')∧(b=false→Jx w'))) (h0:J 0 w0):
  Spec Tryz.prog 213 #[.func (.yield yl) #[] #[],.pointer (some ⟨bs,0,none⟩),.pointer (some ⟨bn,0,none⟩)] w0 (fun _ w'=>J l.length w'∨Jx w'):=by
 have hlen:=dV hv;refine aX (args:=[_,_,_]) (fn:=Tryz.f213) Tryz.func213 rfl (n:=31) Tryz.ntmps213 (aj (ah (ai rfl rfl (ad (a8 ?_)))));refine dC (σ:=Nat) (fun s=>[(0,.func (.yield yl) #[] #[]),(1,.pointer (some ⟨bs,0,none⟩)),(2,.pointer (some ⟨bn,0,none⟩)),(4,.int .i64 s)]) (fun s w=>J (min s l.length) w∧s≤l.length+8) (fun s=>l.length+8-s) 0 (.cons rfl (.cons rfl (.cons rfl (.cons rfl .nil)))) ?_ ?_
 ·exact⟨by rw[Nat.zero_min];exact h0,bG _⟩
 ·rintro k w1 ⟨hJ,hk⟩;obtain⟨o8,xK⟩:=DM _ _ hJ;refine aj (aj (ah (ae rfl rfl (aE aW rfl rfl rfl o8 rfl ?_))))
  first|refine bU aW rfl (by assumption) rfl ?_|refine gC aW rfl (by assumption) rfl ?_
  refine cf rfl rfl rfl (ad ?_);refine bI rfl (fun c1=>?_) (fun c1=>?_)
  ·refine aU (aj (a8 (aj ?_)));apply T.draw (M:=aC) mixed [b8.eq _,b8.eq _,b8.eq _,b8.pure (fun v=>((RT.po).sl).V M wv (l.drop k) v),b8.eq _,b8.eq _,b8.eq _]
   ·rfl
   ·refine aK ?_ ?_
    ·intro wD E sD;refine aE ar rfl rfl rfl (bV sD xK) rfl ?_;exact ad ⟨rfl,rfl,_,rfl,rfl,an _ _⟩
    refine aK ?_ ?_
    ·intro wD E sD;refine aE aW rfl rfl rfl (bV sD o8) rfl ?_;exact ad ⟨rfl,rfl,_,rfl,rfl,an _ _⟩
    refine aK ?_ ?_
    ·intro wD E sD;refine ae rfl rfl ?_;exact ad ⟨rfl,rfl,_,rfl,rfl,an _ _⟩
    refine aK ?_ ?_
    ·intro wD E sD;refine aw (aw ?_);refine Rg.we (A:=RT.po) (hn:=by decide) aW gw rfl rfl rfl hv (by omega) (fun u hu=>?_);rw[az]at hu;exact ad ⟨rfl,rfl,_,rfl,hu,an _ _⟩
    refine aK ?_ ?_
    ·intro wD E sD;intro v3 ur;have WV:((RT.po).sl).V M wv (l.drop k) v3:=ur;refine bU aW rfl WV rfl ?_;exact ad ⟨rfl,rfl,_,rfl,rfl,an _ _⟩
    refine aK ?_ ?_
    ·intro wD E sD;refine aw (aw (Rg.min2 rfl rfl rfl ?_));exact ad ⟨rfl,rfl,_,rfl,rfl,an _ _⟩
    refine aK ?_ ?_
    ·intro wD E sD;refine aw (aw (aw (aw ?_)));intro v3 ur;refine aw (aw (ai rfl rfl ?_));exact ad ⟨rfl,rfl,_,rfl,rfl,an _ _⟩
    exact bX.nil
   ·intro Pf mA;refine aw (aw (aw ?_));intro QM J3;refine aw (aw (aw ?_));rw[show min k l.length=k from by omega]at hJ;have Hn:=iz _ _ _ hJ mA;obtain⟨hb3,IH⟩:=DM _ _ Hn;refine aj (ah (ae rfl rfl (aE aW rfl rfl rfl hb3 rfl (ae rfl rfl (ae rfl rfl (ae rfl rfl (bA rfl rfl rfl (by omega) (ae rfl rfl (ae rfl rfl (bA rfl rfl rfl (by omega) ?_))))))))));refine Rg.CF (A:=RT.po) (hn:=by decide) aW gw rfl rfl rfl rfl rfl hv (by rw[cN];omega) (fun u hu=>?_)
    have he:(l.take ((k:Int)+min 8 ((l.drop k).length:Int)).toNat).drop (k:Int).toNat=(l.drop k).take 8:=by
     rw[az,List.drop_take,cN,show((k:Int)+min 8 ((l.length-k:Nat):Int)).toNat-k=min 8 (l.length-k)from by omega,pL,cN];omega
    rw[he]at hu;refine Rg.yield rfl (vs:=[u]) rfl rfl (hy k _ u Hn (by omega) hu) (fun r4 w4 h4=>?_);obtain⟨b,rfl,NF,nQ⟩:=h4;refine Rg.not rfl rfl (bu (v':= .bool (decide (¬b=true))) (by simp) (ad ?_));refine bI rfl (fun c4=>?_) (fun c4=>?_)
    ·refine aJ ?_;exact BE rfl (.inr (nQ (by simpa using c4)))
    ·refine aU (ah (ae rfl rfl ?_));have hJ5:=NF (dU.1 c4);refine aE ar rfl rfl rfl (DM _ _ hJ5).2 rfl (bA rfl rfl rfl (by omega) (ai rfl rfl (ad ?_)));refine⟨rfl,k+8,(.cons rfl (.cons rfl (.cons rfl (.cons rfl .nil)))),?_,?_⟩
     ·exact⟨hJ5,by omega⟩
     ·show l.length+8-(k+8)<l.length+8-k;omega
  ·refine cM ?_;rw[show min k l.length=l.length from by omega]at hJ;change rM Tryz.prog Tryz.f213 (fun _ w'=>J l.length w'∨Jx w') .normal _ [] _;exact gJ rfl (.inl hJ)
end Go.K
namespace Go.K
open Go.Proofs
set_option maxRecDepth 10000
structure kP (M:aA) (w0:World) (v:Value) (bo bx bl D bs bn:Nat) (st:Obj) (vb vk:Value) (tot last:Int) (b:List UInt8) (ks:List Bl) (M1:aA) (w:World):Prop where
 lt:Lt M1 w
 S:Step M w0 M1 w aC
 mo:M1 bo
 mx:M1 bx
 ml:M1 bl
 md:M1 D
 mr:M1 (D+1)
 o:w.heap[bo]? =some (.cells #[.pointer (some ⟨bx,0,none⟩)] 129 (0,0))
 x:w.heap[bx]? =some (.cells #[vb,vk,.int .i64 tot] 193 (0,0))
 l:w.heap[bl]? =some (.cells #[.int .i64 last] 3 (0,0))
 d:w.heap[D]? =some (.deferred (some []))
 r:w.heap[D+1]? =some st
 s:w.heap[bs]? =some (.cells #[v] 107 (0,0))
 n:w.heap[bn]? =some (.cells #[.int .i64 8] 3 (0,0))
 ne:bo≠bx∧bo≠bl∧bx≠bl∧bo<D∧bx<D∧bl<D∧bs<D∧bn<D∧bs≠bo∧bs≠bx∧bs≠bl∧bn≠bo∧bn≠bx∧bn≠bl∧w0.heap.size≤bo∧w0.heap.size≤bx∧w0.heap.size≤bl∧w0.heap.size≤D
 hb:(RT.u8.sl).V M1 w b vb
 hk:Own RT.bl 195 M1 w (D+2) vk ks
section
variable {M M1 M2:aA} {w0 w w':World} {v vb vk:Value} {bo bx bl D bs bn:Nat} {st:Obj} {tot last:Int} {b:List UInt8} {ks:List Bl}
theorem kP.step (h:kP M w0 v bo bx bl D bs bn st vb vk tot last b ks M1 w) (s:Step M1 w M2 w' aC):kP M w0 v bo bx bl D bs bn st vb vk tot last b ks M2 w':=
 ⟨s.lt h.lt,h.S.ay s,(s.mem _ (h.lt _ h.mo)).2 h.mo,(s.mem _ (h.lt _ h.mx)).2 h.mx,(s.mem _ (h.lt _ h.ml)).2 h.ml,(s.mem _ (h.lt _ h.md)).2 h.md,(s.mem _ (h.lt _ h.mr)).2 h.mr,
  s.aI h.o,s.aI h.x,s.aI h.l,s.aI h.d,s.aI h.r,s.aI h.s,s.aI h.n,h.ne,h.hb.le s.le,h.hk.bh s⟩
theorem kP.II {n:Int} (h:kP M w0 v bo bx bl D bs bn st vb vk tot last b ks M1 w) (s:Step M1 w M1 w' (fun k=>k=bl)) (hl:w'.heap[bl]? =some (.cells #[.int .i64 n] 3 (0,0))):kP M w0 v bo bx bl D bs bn st vb vk tot n b ks M1 w':=by
 obtain⟨e1,e2,e3,e4,e5,e6,e7,e8,e9,NW,QV,NX,NY,QW,SF,NZ,QX,SG⟩:=h.ne
 exact⟨s.lt h.lt,h.S.cu s (fun k hk=>by subst hk;exact QX),h.mo,h.mx,h.ml,h.md,h.mr,s.bF h.o e2,s.bF h.x e3,hl,s.bF h.d (by omega),s.bF h.r (by omega),s.bF h.s QV,s.bF h.n QW,h.ne,h.hb.le s.le,
  h.hk.step s (fun k hk hh=>by have:=(h.hk.base k hk).1;omega)⟩
theorem kP.Mx {WW My:Value} {QY:Int} {b':List UInt8} {QZ:List Bl} (h:kP M w0 v bo bx bl D bs bn st vb vk tot last b ks M1 w) (s:Step M1 w M1 w' (fun k=>k=bx)) (hx:w'.heap[bx]? =some (.cells #[WW,My,.int .i64 QY] 193 (0,0)))
  (hb:(RT.u8.sl).V M1 w' b' WW) (hk:Own RT.bl 195 M1 w (D+2) My QZ):kP M w0 v bo bx bl D bs bn st WW My QY last b' QZ M1 w':=by
 obtain⟨e1,e2,e3,e4,e5,e6,e7,e8,e9,NW,QV,NX,NY,QW,SF,NZ,QX,SG⟩:=h.ne
 exact⟨s.lt h.lt,h.S.cu s (fun k hk=>by subst hk;exact NZ),h.mo,h.mx,h.ml,h.md,h.mr,s.bF h.o e1,hx,s.bF h.l (Ne.symm e3),s.bF h.d (by omega),s.bF h.r (by omega),s.bF h.s NW,s.bF h.n NY,h.ne,hb,
  hk.step s (fun k rX hh=>by have:=(hk.base k rX).1;omega)⟩
theorem kP.mE {st':Obj} (h:kP M w0 v bo bx bl D bs bn st vb vk tot last b ks M1 w) (iz:w.heap[D+1]? =some st):kP M w0 v bo bx bl D bs bn st' vb vk tot last b ks M1 (w.putObj (D+1) st'):=by
 have s:Step M1 w M1 (w.putObj (D+1) st') (fun k=>k=D+1):=dH h.mr;obtain⟨e1,e2,e3,e4,e5,e6,e7,e8,e9,NW,QV,NX,NY,QW,SF,NZ,QX,SG⟩:=h.ne
 exact⟨s.lt h.lt,h.S.cu s (fun k hk=>by subst hk;omega),h.mo,h.mx,h.ml,h.md,h.mr,s.bF h.o (by omega),s.bF h.x (by omega),s.bF h.l (by omega),s.bF h.d (by omega),World.putObj_heap_same (ak iz),s.bF h.s (by omega),s.bF h.n (by omega),h.ne,h.hb.le s.le,
  h.hk.step s (fun k rX hh=>by have:=(h.hk.base k rX).1;omega)⟩
theorem kP.other {q:Nat} (h:kP M w0 v bo bx bl D bs bn st vb vk tot last b ks M1 w) (s:Step M1 w M1 w' (fun k=>k=q)) (hq:D+1<q) (SH:∀k,vk.ownBlock=some k→k≠q):kP M w0 v bo bx bl D bs bn st vb vk tot last b ks M1 w':=by
 obtain⟨e1,e2,e3,e4,e5,e6,e7,e8,e9,NW,QV,NX,NY,QW,SF,NZ,QX,SG⟩:=h.ne
 exact⟨s.lt h.lt,h.S.cu s (fun k hk=>by subst hk;omega),h.mo,h.mx,h.ml,h.md,h.mr,s.bF h.o (by omega),s.bF h.x (by omega),s.bF h.l (by omega),s.bF h.d (by omega),s.bF h.r (by omega),s.bF h.s (by omega),s.bF h.n (by omega),h.ne,h.hb.le s.le,
  h.hk.step s (fun k rX hh=>SH k rX hh)⟩
theorem kP.grow {My:Value} {QZ:List Bl} (h:kP M w0 v bo bx bl D bs bn st vb vk tot last b ks M1 w) (s:Step M1 w M2 w' (fun k=>vk.ownBlock=some k)) (hk:Own RT.bl 195 M2 w' (D+2) My QZ):
  (w'.heap[bx]? =some (.cells #[vb,vk,.int .i64 tot] 193 (0,0))∧M2 bx∧Lt M2 w')∧∀{w2:World},Step M2 w' M2 w2 (fun k=>k=bx)→w2.heap[bx]? =some (.cells #[vb,My,.int .i64 tot] 193 (0,0))→kP M w0 v bo bx bl D bs bn st vb My tot last b QZ M2 w2:=by
 obtain⟨e1,e2,e3,e4,e5,e6,e7,e8,e9,NW,QV,NX,NY,QW,SF,NZ,QX,SG⟩:=h.ne;have hn:∀k,vk.ownBlock=some k→D+2≤k:=fun k hk=>(h.hk.base k hk).1
 have ef:=fun {k:Nat} (hm:M1 k)=>(s.mem k (h.lt k hm)).2 hm
 refine⟨⟨s.bF h.x (fun hh=>by have:=hn _ hh;omega),ef h.mx,s.lt h.lt⟩,fun {w2} s2 hx=>?_⟩;have S':=h.S.cu s (fun k hk=>by have:=hn k hk;omega)
 exact⟨s2.lt (s.lt h.lt),S'.cu s2 (fun k hk=>by subst hk;exact NZ),ef h.mo,ef h.mx,ef h.ml,ef h.md,ef h.mr,s2.bF (s.bF h.o (fun hh=>by have:=hn _ hh;omega)) e1,hx,s2.bF (s.bF h.l (fun hh=>by have:=hn _ hh;omega)) (Ne.symm e3),
  s2.bF (s.bF h.d (fun hh=>by have:=hn _ hh;omega)) (by omega),s2.bF (s.bF h.r (fun hh=>by have:=hn _ hh;omega)) (by omega),s2.bF (s.bF h.s (fun hh=>by have:=hn _ hh;omega)) NW,s2.bF (s.bF h.n (fun hh=>by have:=hn _ hh;omega)) NY,h.ne,(h.hb.le s.le).le s2.le,
  hk.step s2 (fun k rX hh=>by have:=(hk.base k rX).1;omega)⟩
end
def Gs (M:aA) (w0:World) (l:List Po) (v:Value) (bo bx bl D bs bn:Nat) (st:Obj) (i:Nat) (w:World):Prop:=
 ∃(M1:aA) (vb vk:Value),kP M w0 v bo bx bl D bs bn st vb vk (gu (l.take i)) (bW (-1) (l.take i)) (dy (-1) (l.take i)) (mz l ((i+7)/8)) M1 w∧(i%8=0∨i=l.length)∧i≤l.length
theorem MA {M:aA} {w0 w2 w3 w5 w6 w7:World} {v:Value} {l:List Po} {bo bx bl bs bn:Nat} {st:Obj} (S6:Step M w0 (ins (ins (ins M bx) bo) bl) w6 aC) (s7:Step (ins (ins (ins M bx) bo) bl) w6 (ins (ins (ins M bx) bo) bl) w7 aC) (hM:Lt M w0)
  (e1:bo<w6.heap.size) (e2:bx<w6.heap.size) (e3:bl<w6.heap.size) (n1:bo≠bx) (n2:bo≠bl) (n3:bx≠bl)
  (hO:w6.heap[bo]? =some (.cells #[.pointer (some ⟨bx,0,none⟩)] 129 (0,0))) (hX:w6.heap[bx]? =some (.cells #[.slice none 0 0,.slice none 0 0,.int .i64 0] 193 (0,0))) (hL:w6.heap[bl]? =some (.cells #[.int .i64 (-1)] 3 (0,0)))
  (hS:w7.heap[bs]? =some (.cells #[v] 107 (0,0))) (hN:w7.heap[bn]? =some (.cells #[.int .i64 8] 3 (0,0))) (SI:w6.heap.size≤bs) (R5:w6.heap.size≤bn)
  (g1:w0.heap.size≤bo) (g2:w0.heap.size≤bx) (g3:w0.heap.size≤bl):
  Gs M w0 l v bo bx bl w7.heap.size bs bn st 0 ((w7.alloc (.deferred (some []))).alloc st):=by
 have sA:Step (ins (ins (ins M bx) bo) bl) w7 (ins (ins (ins (ins M bx) bo) bl) w7.heap.size) (w7.alloc (.deferred (some []))) aC:=(cU _ w7 _).own (bj _) (by simp);have sB:Step (ins (ins (ins (ins M bx) bo) bl) w7.heap.size) (w7.alloc (.deferred (some []))) (ins (ins (ins (ins (ins M bx) bo) bl) w7.heap.size) (w7.heap.size+1)) ((w7.alloc (.deferred (some []))).alloc st) aC:=(cU _ _ _).own (by simp) (by simp);have z7:=s7.size;have hs7:=ak hS;have hn7:=ak hN;have S:=((S6.ay s7).ay sA).ay sB;have hD:(w7.alloc (.deferred (some []))).heap[w7.heap.size]? =some (.deferred (some [])):=cq w7 _;have hR:((w7.alloc (.deferred (some []))).alloc st).heap[w7.heap.size+1]? =some st:=by have:=cq (w7.alloc (.deferred (some []))) st;rwa [World.size_alloc]at this
 have z0:=S6.size;refine⟨_,.slice none 0 0,.slice none 0 0,⟨S.lt hM,S,?_,?_,?_,?_,.inl rfl,sB.aI (sA.aI (s7.aI hO)),sB.aI (sA.aI (s7.aI hX)),sB.aI (sA.aI (s7.aI hL)),sB.aI hD,hR,sB.aI (sA.aI hS),sB.aI (sA.aI hN),by omega,jR,ec _ _ _ _ _⟩,.inl rfl,bG _⟩
 ·exact .inr (.inr (.inr (.inl rfl)))
 ·exact .inr (.inr (.inr (.inr (.inl rfl))))
 ·exact .inr (.inr (.inl rfl))
 ·exact .inr (.inl rfl)
set_option maxHeartbeats 4000000 in
theorem qq {M:aA} {w0:World} {v:Value} {l:List Po} (hM:Lt M w0) (hv:((RT.po).sl).V M w0 l v) (ri:∀p∈l,p.2.length≤1099511627776) (zV:(dy (-1) l).length≤35184372088832) (Hz:l.length≤1099511627776) (ad9:gu l≤4611686018427387904):
  Spec Tryz.prog 126 #[v] w0 (fun v' w'=>Step M w0 M w' aC∧(dP (-1) l=true→∃p,v'= .tuple #[p,.int .i64 0]∧ch RT.li M w' p (gK l))∧(dP (-1) l=false→v'= .tuple #[.pointer none,.int .i64 1])):=by
 have hlen:=dV hv;refine mU (args:=[_]) (fn:=Tryz.f126) Tryz.func126 rfl (n:=85) Tryz.ntmps126 (aj (ah (ai rfl rfl (ai rfl rfl (ad (aj (aj (ah (ae rfl rfl ?_)))))))));refine aP rfl rfl T1 (Dg hM hv) (fun r w1 h1=>?_);obtain⟨rfl,s1⟩:=h1;refine Rg.not rfl rfl (bu (v':= .bool (decide (¬dP (-1) l=true))) (by simp) (ad ?_));refine bI rfl (fun c1=>?_) (fun c1=>?_)
 ·refine aj (ah (ai rfl rfl (ai rfl rfl (ad (aJ ?_)))));exact HH rfl rfl rfl ⟨s1,fun h=>absurd h c1,fun _=>rfl⟩
 ·have pE:=dU.1 c1;refine aU (aj (ah (dZ (places:=[(0,1),(1,1),(2,1)]) dv TO TQ rfl rfl (out:=[.slice none 0 0,.slice none 0 0,.int .i64 0]) rfl ?_)));refine oT M rfl rfl (fun bx w2 DM aea hX s2=>?_);change w2.heap[bx]? =some (.cells #[.slice none 0 0,.slice none 0 0,.int .i64 0] 193 (0,0))at hX;refine eW (ins M bx) oE rfl (fun bo w3 hbo aeb hO s3=>?_);refine bQ (M:=ins (ins M bx) bo) oE rfl rfl hO rfl rfl (.inl rfl) (fun w4 hO4 s4=>?_);refine ad (aj (ah ?_));refine eW (ins (ins M bx) bo) I3 rfl (fun bl w5 aed aax hL s5=>?_);refine bQ (M:=ins (ins (ins M bx) bo) bl) I3 rfl rfl hL rfl rfl (.inl rfl) (fun w6 hL6 s6=>?_);have z1:=s1.size;have z2:=s2.size;have z3:=s3.size;have z4:=s4.size;have z5:=s5.size;have z6:=s6.size;have S6:Step M w0 (ins (ins (ins M bx) bo) bl) w6 aC:=((((s1.ay s2).ay s3).cu s4 (fun k hk=>by subst hk;omega)).ay s5).cu s6 (fun k hk=>by subst hk;omega);have hO6:=s6.bF (s5.aI hO4) (show bo≠bl by omega);have hX6:=s6.bF (s5.aI (s4.bF (s3.aI hX) (show bx≠bo by omega))) (show bx≠bl by omega);refine ad (aj (aj (ah (ae rfl rfl ?_))));refine aP rfl rfl T2 (Ba (M:=ins (ins (ins M bx) bo) bl) (S6.lt hM) (hv.le S6.le)) (fun r w7 h7=>?_);obtain⟨bs,bn,rfl,hS7,hN7,SI,R5,s7⟩:=h7;have z7:=s7.size;have aeh:=ak hS7;have aei:=ak hN7;refine ad (a8 ?_);refine T.range (gf:=213) (lb:=[.pointer (some ⟨bs,0,none⟩),.pointer (some ⟨bn,0,none⟩)].toArray) rfl Uc (fun rec mT=>?_);obtain⟨D,hD⟩:∃D,D=w7.heap.size:=⟨_,rfl⟩;rw[←hD]at mT ⊢
  have h0:Gs M w0 l v bo bx bl D bs bn (.loop (rec .ready none)) 0 ((w7.alloc (.deferred (some []))).alloc (.loop (rec .ready none))):=by
   rw[hD]at mT ⊢;exact MA (w2:=w7) (w3:=w7) (w5:=w7) S6 s7 hM (by omega) (by omega) (by omega) (by omega) (by omega) (by omega) hO6 hX6 hL6 hS7 hN7 SI R5 (by omega) (by omega) (by omega)
  refine Spec.mono (zr (M:=M) (wv:=w0) (J:=Gs M w0 l v bo bx bl D bs bn (.loop (rec .ready none))) (Jx:=fun _=>False) hv (fun i w w' ⟨M1,vb,vk,h,h2⟩ s=>⟨M1,vb,vk,h.step (s.any M1),h2⟩) (fun i w ⟨M1,vb,vk,h,h2⟩=>⟨h.s,h.n⟩) (fun i wr u hJ hi hu=>?_) h0) (fun _ w3 h3=>?_)
  ·obtain⟨M1,vb,vk,h,hi8,my⟩:=hJ;refine k5 (ps:=[17]) (vs:=[u]) mT h.r rfl (by decide) (ah (ai rfl rfl (ad ?_)));refine⟨rfl,h.r,?_⟩;have h1:=h.mE (st':= .loop (rec .busy none)) h.r;generalize wr.putObj (D+1) _=wB at h1 ⊢;have hO:=h1.o;have hX:=h1.x;have hL:=h1.l;have hB:=h1.hb;have dB:=h1.lt;have pW:((l.drop i).take 8).length≤8:=by rw[bS];omega
   have aej:((l.drop i).take 8).length=min 8 (l.length-i):=by rw[bS,cN]
   obtain⟨q1,q2,q3,q4,q5,q6,q7,q8,q9,q10,q11,q12,q13,q14,q15,q16,q17,q18⟩:=h1.ne;refine a8 (aj ?_);apply T.BL (M:=M1) (n:=85) _ mixed [] [b8.eq _,b8.eq _,b8.eq _,b8.eq _,b8.eq _,b8.eq _,b8.eq _,b8.eq _,b8.eq _,b8.mk' (fun p w'=>∃bq,p= .pointer (some ⟨bq,0,none⟩)∧wB.heap.size≤bq∧w'.heap[bq]? =some (.cells #[.int .i64 0,.int .i64 0,.int .i64 0,.int .i64 0] 195 (0,0))) (fun⟨bq,h1,h2,h3⟩ s=>⟨bq,h1,h2,s.aI h3⟩)]
   ·rfl
   ·rfl
   ·rfl
   ·rfl
   ·exact fun p hp=>by cases hp
   ·exact rj.none
   ·refine aF ?_ ?_
    ·intro wD E sD;refine aE cH rfl rfl rfl (bV sD (by assumption)) rfl ?_;exact ad ⟨rfl,rfl,_,rfl,rfl,an _ _⟩
    refine aF ?_ ?_
    ·intro wD E sD;refine aw (aR rfl ⟨_,rfl⟩ rfl ?_);exact ad ⟨rfl,rfl,_,rfl,rfl,an _ _⟩
    refine aF ?_ ?_
    ·intro wD E sD;refine aw (aS dv rfl rfl yr (by decide) rfl rfl ?_);exact ad ⟨rfl,rfl,_,rfl,rfl,an _ _⟩
    refine aF ?_ ?_
    ·intro wD E sD;refine aw (aE bm rfl rfl rfl (bV sD (by assumption)) rfl ?_);exact ad ⟨rfl,rfl,_,rfl,rfl,an _ _⟩
    refine aF ?_ ?_
    ·intro wD E sD;refine aw ?_
     first|refine bU bm rfl (by assumption) rfl ?_|refine gC bm rfl (by assumption) rfl ?_
     exact ad ⟨rfl,rfl,_,rfl,rfl,an _ _⟩
    refine aF ?_ ?_
    ·intro wD E sD;refine aE ar rfl rfl rfl (bV sD (by assumption)) rfl ?_;exact ad ⟨rfl,rfl,_,rfl,rfl,an _ _⟩
    refine aF ?_ ?_
    ·intro wD E sD;refine ae rfl rfl ?_;exact ad ⟨rfl,rfl,_,rfl,rfl,an _ _⟩
    refine aF ?_ ?_
    ·intro wD E sD;refine aw ?_
     first|refine bU aW rfl (by assumption) rfl ?_|refine gC aW rfl (by assumption) rfl ?_
     exact ad ⟨rfl,rfl,_,rfl,rfl,an _ _⟩
    refine aF ?_ ?_
    ·intro wD E sD;refine aw (aw (aw (dZ (places:=[(0,1),(1,1),(2,1),(3,1)]) jP ui TR rfl ⟨_,_,rfl,rfl,_,_,rfl,rfl,_,_,rfl,rfl,rfl⟩ (out:=[.int .i64 (dy (-1) (l.take i)).length,.int .i64 (bW (-1) (l.take i)),.int .i64 0,.int .i64 ((l.drop i).take 8).length]) ⟨0,[_],rfl,rfl,by simp[Value.cells],1,[_],rfl,rfl,by simp[Value.cells],3,[_],rfl,rfl,by simp[Value.cells],rfl⟩ ?_)));exact ad ⟨rfl,rfl,_,rfl,rfl,an _ _⟩
    refine aF ?_ ?_
    ·intro wD E sD;refine eW M1 ui rfl (fun bq wq e1 e2 e3 s=>?_);exact ad ⟨rfl,rfl,_,rfl,⟨bq,rfl,fK sD.size e1,e3⟩,s.back⟩
    exact bD.nil
   ·intro wD7 sD7;refine aw (aw (aw (aw (aw (aw (aw (aw (aw ?_))))))));intro aev Q0;obtain⟨bq,rfl,KF,TB⟩:=Q0;have Js:=ak TB;have sQ:Step M1 wB (ins M1 bq) wD7 aC:=sD7.own KF Js;refine fa (M:=ins M1 bq) (vs:=[.int .i64 (dy (-1) (l.take i)).length,.int .i64 (bW (-1) (l.take i)),.int .i64 0,.int .i64 ((l.drop i).take 8).length]) ui rfl rfl (by intro x hx;simp at hx;rcases hx with rfl|rfl|rfl|rfl<;>rfl) rfl rfl TB (.inl rfl) (fun wQ hQ sQ2=>?_);refine ad ⟨rfl,?_⟩;have h2:=h1.step (sQ.cu sQ2 (fun k hk=>by subst hk;exact KF));have SH:∀k,vk.ownBlock=some k→k≠bq:=fun k hk=>by have:=(h1.hk.base k hk).2;omega
    have TC:D+1<bq:=by have:=ak h1.r;omega
    have h3:kP M w0 v bo bx bl D bs bn (.loop (rec .busy none)) vb vk (gu (l.take (i+0))) (bW (-1) (l.take (i+0))) (dy (-1) (l.take (i+0))) (mz l ((i+7)/8)) (ins M1 bq) wQ:=h2;obtain⟨M2,JA⟩:∃M2,M2=ins M1 bq:=⟨_,rfl⟩;rw[←JA]at h3;refine aj (aj (ah (ae rfl rfl ?_)))
    first|refine bU aW rfl (by assumption) rfl ?_|refine gC aW rfl (by assumption) rfl ?_
    refine ae rfl rfl (ad (a8 ?_));refine dC (σ:=Nat×Value) (fun s=>[(4,.pointer (some ⟨bo,0,none⟩)),(5,.pointer (some ⟨bl,0,none⟩)),(6,u),(7,.pointer (some ⟨bq,0,none⟩)),(27,u),(28,.int .i64 ((l.drop i).take 8).length),(29,.int .i64 s.1)]) (fun s w=>s.1≤((l.drop i).take 8).length∧w.heap[bq]? =some (.cells #[.int .i64 (dy (-1) (l.take i)).length,.int .i64 (bW (-1) (l.take i)),.int .i64 0,.int .i64 ((l.drop i).take 8).length] 195 (0,0))∧kP M w0 v bo bx bl D bs bn (.loop (rec .busy none)) s.2 vk (gu (l.take (i+s.1))) (bW (-1) (l.take (i+s.1))) (dy (-1) (l.take (i+s.1))) (mz l ((i+7)/8)) M2 w) (fun s=>((l.drop i).take 8).length-s.1) (0,vb) (.cons rfl (.cons rfl (.cons rfl (.cons rfl (.cons rfl (.cons rfl (.cons rfl .nil))))))) ?_ ?_
    ·exact⟨bG _,hQ,h3⟩
    ·rintro⟨j,vb⟩ wj ⟨hj,hQ,h4⟩;dsimp only at hj hQ h4 ⊢;have dB:=h4.lt;refine aj (ah (cf rfl rfl rfl (ad (aj ?_))));refine bI rfl (fun c9=>?_) (fun c9=>?_)
     ·refine aU (aj (a8 (aj (ah ?_))));obtain⟨⟨d,ps⟩,hx⟩:∃x,l[i+j]? =some x:=⟨_,aL (by omega)⟩;obtain⟨f1,f2,f3,f4,f5,f6⟩:=mV pE hx;obtain⟨f7,f8⟩:=lN.1 f4;have fps:=ri _ (aM hx);have fb:=kK l (i+j);have ft:=yj l (i+j);have ft2:=yj l (i+j+1);rw[sm hx]at ft2;have ftk:=sk (-1) hx;have ftl:=kK l (i+j+1);simp only at fps;refine dq (M:=M2) aW gw rfl rfl rfl (hu.le h4.S.le) (aq _ _) (by omega) (fun PB Q1 MB Lr=>?_);obtain rfl:(d,ps)=Q1:=eF (bM (MB.symm.trans (by rw[az,dF,if_pos (by omega),List.getElem?_drop];exact hx)));refine cx (M:=M2) (A:=RT.po) bJ rfl gw (by decide) rfl rfl rfl (by assumption) (by repeat (first|exact aq _ _|refine aT (aY (by assumption)) ?_)) (fun PC E0=>?_);refine ov (A:=RT.po) (M:=M2) gw rfl rfl rfl rfl rfl (by assumption) (by repeat (first|exact aq _ _|refine aT (aY (by assumption)) ?_)) (by first|assumption|exact Step.lt (by assumption) (by assumption)|exact Step.lt (by assumption) (Step.lt (by assumption) (by assumption))) (fun Q2 Q3 qt pF Q4=>?_);refine ad (aj ?_);have h5:=h4.step pF;have hO:=h5.o;have hX:=h5.x;have hL:=h5.l;have hB:=h5.hb;have dB:=h5.lt;have hp0:=qt;apply T.BL (M:=M2) (n:=85) _ mixed [] [b8.eq _,b8.eq _,b8.eq _,b8.eq _,b8.eq _,b8.ptr (RT.int .i64) d,b8.eq (.int .i64 d),b8.eq _,b8.eq _,b8.eq (.int .i64 (((d-bW (-1) (l.take (i+j))-1).toNat:Nat):Int)),b8.V (RT.u8.sl) (dy (-1) (l.take (i+j))++put (d-bW (-1) (l.take (i+j))-1).toNat),b8.eq _,b8.eq _]
      ·rfl
      ·rfl
      ·rfl
      ·rfl
      ·exact fun p hp=>by cases hp
      ·exact rj.none
      ·refine aF ?_ ?_
       ·intro wD E sD;refine aE cH rfl rfl rfl (bV sD (by assumption)) rfl ?_;exact ad ⟨rfl,rfl,_,rfl,rfl,an _ _⟩
       refine aF ?_ ?_
       ·intro wD E sD;refine aE cH rfl rfl rfl (bV sD (by assumption)) rfl ?_;exact ad ⟨rfl,rfl,_,rfl,rfl,an _ _⟩
       refine aF ?_ ?_
       ·intro wD E sD;refine aw (aR rfl ⟨_,rfl⟩ rfl ?_);exact ad ⟨rfl,rfl,_,rfl,rfl,an _ _⟩
       refine aF ?_ ?_
       ·intro wD E sD;refine aw (aS dv rfl rfl yr (by decide) rfl rfl ?_);exact ad ⟨rfl,rfl,_,rfl,rfl,an _ _⟩
       refine aF ?_ ?_
       ·intro wD E sD;refine aw (aE bm rfl rfl rfl (bV sD (by assumption)) rfl ?_);exact ad ⟨rfl,rfl,_,rfl,rfl,an _ _⟩
       refine aF ?_ ?_
       ·intro wD E sD;refine aH (M:=M2) (A:=RT.po) (B:=RT.int .i64) bJ rfl rfl I3 (by decide) (Hi) rfl rfl (by decide) (by assumption) (by repeat (first|exact aq _ _|refine aT (aY (by assumption)) ?_)) (fun aaC WX=>?_);exact ad ⟨rfl,rfl,_,rfl,by assumption,an _ _⟩
       refine aF ?_ ?_
       ·intro wD E sD;intro v5 n4;refine cb (M:=M2) ar rfl rfl (by assumption) (by repeat (first|exact aq _ _|refine aT (aY (by assumption)) ?_)) (fun WY=>?_);exact ad ⟨rfl,rfl,_,rfl,rfl,an _ _⟩
       refine aF ?_ ?_
       ·intro wD E sD;refine aE ar rfl rfl rfl (bV sD (by assumption)) rfl ?_;exact ad ⟨rfl,rfl,_,rfl,rfl,an _ _⟩
       refine aF ?_ ?_
       ·intro wD E sD;refine aw (aw (fX rfl rfl rfl (by omega) ?_));exact ad ⟨rfl,rfl,_,rfl,rfl,an _ _⟩
       refine aF ?_ ?_
       ·intro wD E sD;refine aw (fX rfl rfl rfl (by omega) (bu (v':= .int .i64 (((d-bW (-1) (l.take (i+j))-1).toNat:Nat):Int)) (by congr 1;omega) ?_));exact ad ⟨rfl,rfl,_,rfl,rfl,an _ _⟩
       refine aF ?_ ?_
       ·intro wD E sD;refine aw (aw ?_);refine aP rfl rfl KU (Gh (M:=M2) (sD.lt dB) (hB.le sD.le) (by omega) (by omega)) (fun rP wP hP=>?_);exact ad ⟨rfl,rfl,_,rfl,hP.2,hP.1⟩
       refine aF ?_ ?_
       ·intro wD E sD;refine aw (aw (aw (aw (aw (aw ?_)))));intro v5 n4;refine aw (aw (aw (aw ?_)));intro v10 MC;refine aR rfl ⟨_,rfl⟩ rfl ?_;exact ad ⟨rfl,rfl,_,rfl,rfl,an _ _⟩
       refine aF ?_ ?_
       ·intro wD E sD;refine aw (aw (aw (aw (aw (aw ?_)))));intro v5 n4;refine aw (aw (aw (aw ?_)));intro v10 MC;refine aS dv rfl rfl yr (by decide) rfl rfl ?_;exact ad ⟨rfl,rfl,_,rfl,rfl,an _ _⟩
       exact bD.nil
      ·intro IC ju;refine aw (aw (aw (aw (aw ?_))));intro aaD WZ;refine aw (aw (aw (aw ?_)));intro W0 Ck;refine aw (aw ?_);have h6:=h5.step ju;have hp6:=hp0.le (by decide) ju.le;refine bQ (M:=M2) yr rfl rfl h6.x rfl (j1 Ck rfl rfl) h6.mx (fun W2 W3 xT=>?_);refine ad ⟨rfl,?_⟩;have h7:=h6.Mx xT W3 (RT.V.le xT.le Ck) h6.hk;have NU:=hp6.le (by decide) xT.le;refine aj ?_;have hO:=h7.o;have hX:=h7.x;have hB:=h7.hb;have dB:=h7.lt;have fbl:(dy (-1) (l.take (i+j))++put (d-bW (-1) (l.take (i+j))-1).toNat).length≤35184372088832:=by rw[ftk]at ftl;simp only[bL]at ftl ⊢;omega
       apply T.Jo (M:=M2) mixed [(13,fun k=>k=bx)] [b8.eq _,b8.eq _,b8.eq _,b8.eq _,b8.eq _,b8.ptr ((RT.int .i64).sl) ps,b8.V ((RT.int .i64).sl) ps,⟨fun t w=>∃x,t= .tuple #[x,.int .i64 0]∧(RT.u8.sl).V M2 w (dy (-1) (l.take (i+j))++put (d-bW (-1) (l.take (i+j))-1).toNat++dJ ps) x,Cs,fun⟨x,h1,h2⟩ s _=>⟨x,h1,h2.le s.le⟩⟩,⟨fun t w=>∃x,t= .tuple #[x,.int .i64 0]∧(RT.u8.sl).V M2 w (dy (-1) (l.take (i+j))++put (d-bW (-1) (l.take (i+j))-1).toNat++dJ ps) x,Cs,fun⟨x,h1,h2⟩ s _=>⟨x,h1,h2.le s.le⟩⟩,b8.V (RT.u8.sl) (dy (-1) (l.take (i+j))++put (d-bW (-1) (l.take (i+j))-1).toNat++dJ ps),b8.eq (.int .i64 0),b8.eq _,b8.eq _,⟨fun _ w=>∃x,w.heap[bx]? =some (.cells #[x,vk,.int .i64 (gu (l.take (i+j)))] 193 (0,0))∧(RT.u8.sl).V M2 w (dy (-1) (l.take (i+j))++put (d-bW (-1) (l.take (i+j))-1).toNat++dJ ps) x,fun k=>k≠bx,fun⟨x,h1,h2⟩ s hN=>⟨x,s.bF h1 (fun hb=>hN _ hb rfl),h2.le s.le⟩⟩]
       ·rfl
       ·intro p hp b hb;simp only[cE]at hp;subst hp
        cases hb;exact h7.mx
       ·exact⟨fun _ _ _ _=>trivial,⟨fun _ _ _ _=>trivial,⟨fun _ _ _ _=>trivial,⟨fun _ _ _ _=>trivial,⟨fun _ _ _ _=>trivial,⟨fun _ _ _ _=>trivial,⟨fun _ _ _ _=>trivial,⟨fun _ _ _ _=>trivial,⟨fun _ _ _ _=>trivial,⟨fun _ _ _ _=>trivial,⟨fun _ _ _ _=>trivial,⟨fun _ _ _ _=>trivial,⟨fun _ _ _ _=>trivial,⟨fun p hp=>by simp at hp,trivial⟩⟩⟩⟩⟩⟩⟩⟩⟩⟩⟩⟩⟩⟩
       ·refine aK ?_ ?_
        ·intro wD E sD;replace sD:Step M2 _ M2 wD aC:=sD;refine aE cH rfl rfl rfl (bV sD (by assumption)) rfl ?_;exact ad ⟨rfl,rfl,_,rfl,rfl,an _ _⟩
        refine aK ?_ ?_
        ·intro wD E sD;replace sD:Step M2 _ M2 wD aC:=sD;refine aE cH rfl rfl rfl (bV sD (by assumption)) rfl ?_;exact ad ⟨rfl,rfl,_,rfl,rfl,an _ _⟩
        refine aK ?_ ?_
        ·intro wD E sD;replace sD:Step M2 _ M2 wD aC:=sD;refine aw (aR rfl ⟨_,rfl⟩ rfl ?_);exact ad ⟨rfl,rfl,_,rfl,rfl,an _ _⟩
        refine aK ?_ ?_
        ·intro wD E sD;replace sD:Step M2 _ M2 wD aC:=sD;refine aw (aS dv rfl rfl yr (by decide) rfl rfl ?_);exact ad ⟨rfl,rfl,_,rfl,rfl,an _ _⟩
        refine aK ?_ ?_
        ·intro wD E sD;replace sD:Step M2 _ M2 wD aC:=sD;refine aw (aE bm rfl rfl rfl (bV sD (by assumption)) rfl ?_);exact ad ⟨rfl,rfl,_,rfl,rfl,an _ _⟩
        refine aK ?_ ?_
        ·intro wD E sD;replace sD:Step M2 _ M2 wD aC:=sD;refine aH (M:=M2) (A:=RT.po) (B:=(RT.int .i64).sl) bJ rfl rfl nM (by decide) OE rfl rfl (by decide) NU sD.le (fun uf xA=>?_);exact ad ⟨rfl,rfl,_,rfl,xA,an _ _⟩
        refine aK ?_ ?_
        ·intro wD E sD;replace sD:Step M2 _ M2 wD aC:=sD;intro v5 n4;refine cg (M:=M2) au rfl rfl rfl rfl rfl (show ch ((RT.int .i64).sl) M2 wD v5 ps from n4) (aq _ _) (fun uf xA=>?_);exact ad ⟨rfl,rfl,_,rfl,xA,an _ _⟩
        refine aK ?_ ?_
        ·intro wD E sD;replace sD:Step M2 _ M2 wD aC:=sD;refine aw ?_;intro v6 n0;refine aP rfl rfl T3 (tA (M:=M2) (sD.lt dB) (hB.le sD.le) (show((RT.int .i64).sl).V M2 wD ps v6 from n0) (by omega)) (fun rP wP hP=>?_);obtain⟨xP,sP,hP1,Q5⟩:=hP;rw[if_pos f7]at hP1 Q5;exact ad ⟨rfl,rfl,_,rfl,⟨xP,hP1,Q5⟩,sP⟩
        refine aK ?_ ?_
        ·intro wD E sD;replace sD:Step M2 _ M2 wD aC:=sD;intro v7 AK;refine ae rfl rfl ?_;exact ad ⟨rfl,rfl,_,rfl,AK,an _ _⟩
        refine aK ?_ ?_
        ·intro wD E sD;replace sD:Step M2 _ M2 wD aC:=sD;intro v8 Cf;obtain⟨xP,rfl,Q5⟩:=Cf;refine bP rfl rfl rfl ?_;exact ad ⟨rfl,rfl,_,rfl,Q5,an _ _⟩
        refine aK ?_ ?_
        ·intro wD E sD;replace sD:Step M2 _ M2 wD (fun k=>k=bx):=sD;intro v8 Cf;obtain⟨xP,rfl,Q5⟩:=Cf;refine bP rfl rfl rfl ?_;exact ad ⟨rfl,rfl,_,rfl,rfl,an _ _⟩
        refine aK ?_ ?_
        ·intro wD E sD;replace sD:Step M2 _ M2 wD (fun k=>k=bx):=sD;refine aw (aw (aw (aw (aw (aw ?_)))));intro v5 n4;intro v6 n0;intro v7 AK;intro v8 Cf;intro v9 H8;refine aR rfl ⟨_,rfl⟩ rfl ?_;exact ad ⟨rfl,rfl,_,rfl,rfl,an _ _⟩
        refine aK ?_ ?_
        ·intro wD E sD;replace sD:Step M2 _ M2 wD aC:=sD;refine aw (aw (aw (aw (aw (aw ?_)))));intro v5 n4;intro v6 n0;intro v7 AK;intro v8 Cf;intro v9 H8;refine aS dv rfl rfl yr (by decide) rfl rfl ?_;exact ad ⟨rfl,rfl,_,rfl,rfl,an _ _⟩
        refine aK ?_ ?_
        ·intro wD E sD;replace sD:Step M2 _ M2 wD aC:=sD;refine aw ?_;intro v9 H8;intro v7 AK;refine aw (aw (aw (aw (aw ?_))));intro v5 n4;intro v6 n0;intro v7 AK;intro v8 Cf;intro v9 H8;refine bQ (M:=M2) yr rfl rfl (bV sD hX) rfl (j1 (A:=RT.u8.sl) H8 rfl rfl) h7.mx (fun wS hXS sS=>?_);exact ad ⟨rfl,rfl,undef,rfl,⟨_,hXS,RT.V.le (A:=RT.u8.sl) sS.le H8⟩,sS⟩
        exact bX.nil
       ·intro Gt tD;replace tD:Step M2 _ M2 Gt (fun k=>k=bx):=tD;refine aw (aw (aw (aw (aw ?_))));intro aaF W4;intro aaG W5;intro aaH W6;intro aaI W7;intro aaJ W8;refine aw (aw (aw ?_));intro W9 IK;obtain⟨v12,Xa,Xb⟩:=IK;have h8:=h7.Mx tD Xa Xb h7.hk;have hp8:=NU.le (by decide) tD.le;refine aj ?_;have hO:=h8.o;have hX:=h8.x;apply T.BL (M:=M2) (n:=85) _ mixed [] [b8.eq _,b8.eq _,b8.eq _,b8.eq _,b8.ptr ((RT.int .i64).sl) ps,b8.V ((RT.int .i64).sl) ps,b8.eq (.int .i64 ps.length),b8.eq _,b8.eq _,b8.eq _]
        ·rfl
        ·rfl
        ·rfl
        ·rfl
        ·exact fun p hp=>by cases hp
        ·exact rj.none
        ·refine aF ?_ ?_
         ·intro wD E sD;refine aE cH rfl rfl rfl (bV sD (by assumption)) rfl ?_;exact ad ⟨rfl,rfl,_,rfl,rfl,an _ _⟩
         refine aF ?_ ?_
         ·intro wD E sD;refine aw (aR rfl ⟨_,rfl⟩ rfl ?_);exact ad ⟨rfl,rfl,_,rfl,rfl,an _ _⟩
         refine aF ?_ ?_
         ·intro wD E sD;refine aw (aS dv rfl rfl I3 (by decide) rfl rfl ?_);exact ad ⟨rfl,rfl,_,rfl,rfl,an _ _⟩
         refine aF ?_ ?_
         ·intro wD E sD;refine aw (aE ar rfl rfl rfl (bV sD (by assumption)) rfl ?_);exact ad ⟨rfl,rfl,_,rfl,rfl,an _ _⟩
         refine aF ?_ ?_
         ·intro wD E sD;refine aH (M:=M2) (A:=RT.po) (B:=(RT.int .i64).sl) bJ rfl rfl nM (by decide) OE rfl rfl (by decide) hp8 sD.le (fun uf xA=>?_);exact ad ⟨rfl,rfl,_,rfl,xA,an _ _⟩
         refine aF ?_ ?_
         ·intro wD E sD;intro v4 qi;refine cg (M:=M2) au rfl rfl rfl rfl rfl (show ch ((RT.int .i64).sl) M2 wD v4 ps from qi) (aq _ _) (fun uf xA=>?_);exact ad ⟨rfl,rfl,_,rfl,xA,an _ _⟩
         refine aF ?_ ?_
         ·intro wD E sD;intro v5 n4;refine bU au rfl (show((RT.int .i64).sl).V M2 wD ps v5 from n4) rfl ?_;exact ad ⟨rfl,rfl,_,rfl,rfl,an _ _⟩
         refine aF ?_ ?_
         ·intro wD E sD;refine aw (aw (bA rfl rfl rfl (by omega) ?_));exact ad ⟨rfl,rfl,_,rfl,rfl,an _ _⟩
         refine aF ?_ ?_
         ·intro wD E sD;refine aw (aw (aw (aw (aw ?_))));intro v4 qi;intro v5 n4;refine aw (aw (aR rfl ⟨_,rfl⟩ rfl ?_));exact ad ⟨rfl,rfl,_,rfl,rfl,an _ _⟩
         refine aF ?_ ?_
         ·intro wD E sD;refine aw (aw (aw (aw (aw ?_))));intro v4 qi;intro v5 n4;refine aw (aw (aS dv rfl rfl I3 (by decide) rfl rfl ?_));exact ad ⟨rfl,rfl,_,rfl,rfl,an _ _⟩
         exact bD.nil
        ·intro Ls lW;refine aw (aw (aw (aw ?_)));intro aaL Xc;intro JI xf;refine aw (aw (aw (aw ?_)));have h9:=h8.step lW;refine bQ (M:=M2) I3 rfl rfl h9.x rfl rfl h9.mx (fun Qo Xd uB=>?_);refine ad ⟨rfl,?_⟩;have Da:=h9.Mx uB Xd (h9.hb.le uB.le) h9.hk;have Xe:=(hp8.le (by decide) lW.le).le (by decide) uB.le;refine ah ?_;refine aH (M:=M2) (A:=RT.po) (B:=RT.int .i64) bJ rfl rfl I3 (by decide) Hi rfl rfl (by decide) Xe (aq _ _) (fun aaM MD=>?_);refine cb (M:=M2) ar rfl rfl MD (aq _ _) (fun _=>?_);refine bu (v':= .int .i64 d) rfl ?_;refine bQ (M:=M2) I3 rfl rfl Da.l rfl rfl Da.ml (fun PS Xf jh=>?_);have h11:=Da.II jh Xf;refine ad (ah (bA rfl rfl rfl (by omega) (ae rfl rfl (ad ?_))));refine⟨rfl,(j+1,v12),(.cons rfl (.cons rfl (.cons rfl (.cons rfl (.cons rfl (.cons rfl (.cons rfl .nil))))))),?_,?_⟩
         ·refine⟨by simp only;omega,?_,?_⟩
          ·exact jh.bF (uB.bF (lW.aI (tD.bF (xT.bF (ju.aI (pF.aI hQ)) (by omega)) (by omega))) (by omega)) (by omega)
          ·simp only;rw[show i+(j+1)=i+j+1 from by omega,sm hx,f5,ftk];exact h11
         ·simp only;omega
     ·refine cM (aj (ah ?_));obtain rfl:j=((l.drop i).take 8).length:=by omega
      have Oa:M2 bq:=by rw[JA];exact .inl rfl
      refine aE ar rfl rfl rfl h4.l rfl (aS (o':=2) jP rfl rfl I3 (by decide) rfl rfl ?_);refine bQ (M:=M2) I3 rfl rfl hQ rfl rfl Oa (fun IL Q6 tU=>?_);have N0:=h4.other tU TC SH;change IL.heap[bq]? =some (.cells [.int .i64 (dy (-1) (l.take i)).length,.int .i64 (bW (-1) (l.take i)),.int .i64 (bW (-1) (l.take (i+((l.drop i).take 8).length))),.int .i64 ((l.drop i).take 8).length].toArray 195 (0,0))at Q6;refine ad ?_;have hO:=N0.o;have hX:=N0.x;have IM:=N0.hk;have gG:∀k,vk.ownBlock=some k→k≠bo:=fun k hk=>by have:=(IM.base k hk).1;omega
      have aeD:=ak N0.r;have g1:=iN l (-1) pE (by omega) i;have g2:=iN l (-1) pE (by omega) (i+((l.drop i).take 8).length);have g3:=kK l i;apply T.BL (M:=M2) (n:=85) _ mixed [(7,fun k=>vk.ownBlock=some k)] [b8.eq _,b8.eq _,b8.eq _,b8.eq _,b8.eq _,b8.eq (.agg [.int .i64 (dy (-1) (l.take i)).length,.int .i64 (bW (-1) (l.take i)),.int .i64 (bW (-1) (l.take (i+((l.drop i).take 8).length))),.int .i64 ((l.drop i).take 8).length].toArray),b8.V ((RT.bl).sl) [(((dy (-1) (l.take i)).length:Int),bW (-1) (l.take i),bW (-1) (l.take (i+((l.drop i).take 8).length)),(((l.drop i).take 8).length:Int))],⟨fun t w=>∃M3,Own RT.bl 195 M3 w (D+2) t (mz l ((i+7)/8)++[(((dy (-1) (l.take i)).length:Int),bW (-1) (l.take i),bW (-1) (l.take (i+((l.drop i).take 8).length)),(((l.drop i).take 8).length:Int))])∧Step M2 IL M3 w (fun k=>vk.ownBlock=some k),aC,fun⟨M3,h1,h2⟩ s hN=>⟨M3,h1.bh ((s.cc hN (fun _ h=>h.elim)).any M3),h2.ay ((s.cc hN (fun _ h=>h.elim)).any M3)⟩⟩,b8.eq _,b8.eq _]
      ·rfl
      ·rfl
      ·rfl
      ·rfl
      ·intro p hp b hb;simp only[cE]at hp;subst hp;exact IM.mut_ b hb
      ·exact⟨fun _ _ _ _=>trivial,⟨fun _ _ _ _=>trivial,⟨fun _ _ _ _=>trivial,⟨fun _ _ _ _=>trivial,⟨fun _ _ _ _=>trivial,⟨fun _ _ _ _=>trivial,⟨fun _ _ _ _=>trivial,⟨fun p hp=>by simp at hp,⟨fun _ _ _ _=>trivial,⟨fun _ _ _ _=>trivial,trivial⟩⟩⟩⟩⟩⟩⟩⟩⟩⟩
      ·refine aF ?_ ?_
       ·intro wD E sD;replace sD:Step M2 _ M2 wD (fun k=>vk.ownBlock=some k):=sD;refine aE cH rfl rfl rfl (sD.bF hO (fun hb=>gG _ hb rfl)) rfl ?_;exact ad ⟨rfl,rfl,_,rfl,rfl,an _ _⟩
       refine aF ?_ ?_
       ·intro wD E sD;replace sD:Step M2 _ M2 wD (fun k=>vk.ownBlock=some k):=sD;refine aE cH rfl rfl rfl (sD.bF hO (fun hb=>gG _ hb rfl)) rfl ?_;exact ad ⟨rfl,rfl,_,rfl,rfl,an _ _⟩
       refine aF ?_ ?_
       ·intro wD E sD;replace sD:Step M2 _ M2 wD (fun k=>vk.ownBlock=some k):=sD;refine aw (aR rfl ⟨_,rfl⟩ rfl ?_);exact ad ⟨rfl,rfl,_,rfl,rfl,an _ _⟩
       refine aF ?_ ?_
       ·intro wD E sD;replace sD:Step M2 _ M2 wD (fun k=>vk.ownBlock=some k):=sD;refine aw (aS dv rfl rfl Al (by decide) rfl rfl ?_);exact ad ⟨rfl,rfl,_,rfl,rfl,an _ _⟩
       refine aF ?_ ?_
       ·intro wD E sD;replace sD:Step M2 _ M2 wD aC:=sD;refine aw (aE dO rfl rfl rfl (bV sD (by assumption)) rfl ?_);exact ad ⟨rfl,rfl,_,rfl,rfl,an _ _⟩
       refine aF ?_ ?_
       ·intro wD E sD;replace sD:Step M2 _ M2 wD (fun k=>vk.ownBlock=some k):=sD;refine ia (vs:=[.int .i64 (dy (-1) (l.take i)).length,.int .i64 (bW (-1) (l.take i)),.int .i64 (bW (-1) (l.take (i+((l.drop i).take 8).length))),.int .i64 ((l.drop i).take 8).length]) jP rfl ui rfl rfl rfl (sD.bF Q6 (fun hb=>SH _ hb rfl)) ?_;exact ad ⟨rfl,rfl,_,rfl,rfl,an _ _⟩
       refine aF ?_ ?_
       ·intro wD E sD;replace sD:Step M2 _ M2 wD aC:=sD;refine aw ?_;refine eE (A:=RT.bl) (hn:=by decide) (M:=M2) dO ui (by decide) rfl rfl (sD.lt N0.lt) (TL (by omega) (by omega) (by omega) (by omega)) (.inl rfl) (fun uS wS hS sS=>?_);exact ad ⟨rfl,rfl,_,rfl,hS,sS⟩
       refine aF ?_ ?_
       ·intro wD E sD;replace sD:Step M2 _ M2 wD aC:=sD;refine aw ?_;intro v6 n0;refine cR (M:=M2) (base:=D+2) dO ui rfl rfl rfl rfl (IM.bh sD) (show((RT.bl).sl).V M2 wD [(((dy (-1) (l.take i)).length:Int),bW (-1) (l.take i),bW (-1) (l.take (i+((l.drop i).take 8).length)),(((l.drop i).take 8).length:Int))] v6 from n0) (aq _ _) (by simp[mz];omega) (by simp[mz];omega) (by have:=sD.size;omega) (fun v3 M3 w3 Hq s3=>?_);exact ad ⟨rfl,rfl,_,rfl,⟨M3,Hq,(sD.cc (fun _ h=>h.elim) IM.mut_).trans s3 (fun b _ hb=>hb)⟩,s3.back⟩
       refine aF ?_ ?_
       ·intro wD E sD;replace sD:Step M2 _ M2 wD (fun k=>vk.ownBlock=some k):=sD;refine aw (aw (aw (aw (aw (aw (aw ?_))))));intro v6 n0;intro v7 AK;refine aR rfl ⟨_,rfl⟩ rfl ?_;exact ad ⟨rfl,rfl,_,rfl,rfl,an _ _⟩
       refine aF ?_ ?_
       ·intro wD E sD;replace sD:Step M2 _ M2 wD (fun k=>vk.ownBlock=some k):=sD;refine aw (aw (aw (aw (aw (aw (aw ?_))))));intro v6 n0;intro v7 AK;refine aS dv rfl rfl Al (by decide) rfl rfl ?_;exact ad ⟨rfl,rfl,_,rfl,rfl,an _ _⟩
       exact bD.nil
      ·intro Xg Q7;replace Q7:Step M2 _ M2 Xg (fun k=>vk.ownBlock=some k):=Q7;refine aw (aw (aw (aw (aw (aw ?_)))));intro aaN Xh;intro aaO ME;refine aw (aw ?_);obtain⟨M3,Hq,sR⟩:=ME;obtain⟨⟨QO,hm3,aeF⟩,Hf⟩:=N0.grow sR Hq;refine bQ (M:=M3) Al rfl rfl QO rfl (by obtain⟨_,_,he,_⟩:=Hq.isSlice;rw[he];rfl) hm3 (fun w17 Xi Xj=>?_);refine ad ⟨rfl,?_⟩;have Mn:=Hf Xj Xi;have h18:=Mn.mE (st':= .loop (rec .ready none)) Mn.r;have hE:i+((l.drop i).take 8).length=min (i+8) l.length:=by omega
       rw[hE,Ek (by omega) hi]at h18;exact⟨Mn.r,true,rfl,fun _=>⟨M3,_,_,h18,by omega,by omega⟩,fun h=>by cases h⟩
  ·obtain⟨Mz,vb,vk,h,_,_⟩:=h3.resolve_right (fun h=>h);left;rw[List.take_length]at h;have h5:=h.mE (st':= .loop (rec .exhausted none)) h.r;refine⟨h.r,?_⟩;generalize w3.putObj (D+1) _=wE at h5 ⊢;refine aj (ah (aE cH rfl rfl rfl h5.o rfl (ai rfl rfl (ai rfl rfl (ad (aJ ?_))))));obtain⟨q1,q2,q3,q4,q5,q6,q7,q8,q9,q10,q11,q12,q13,q14,q15,q16,q17,q18⟩:=h5.ne;have sZ:Step Mz wE Mz (wE.putObj D (.deferred none)) (fun k=>k=D):=dH h5.md;have SZ:=h5.S.cu sZ (fun k hk=>by subst hk;omega);have ht:=lO l;refine KK rfl rfl rfl h5.d ⟨SZ.back,fun _=>⟨_,rfl,?_⟩,fun hf=>by rw[pE]at hf;cases hf⟩;exact OF (sZ.bF h5.x (by omega)) (fun hh=>by have:=hM _ hh;omega) ((h5.hb.le sZ.le).le (Le.close hM SZ)) (Own.close hM SZ ((h5.hk.step sZ (fun k hk hh=>by have:=(h5.hk.base k hk).1;omega)).rU (by omega)) (by simp[mz];omega)) (by omega)
end Go.K
namespace Go.K
open Go.Proofs
namespace TKBldG
theorem jI:TI Tryz.prog 107 (.slice none 0 0) 1 24:=by unfold TI;kernel_rfl
theorem Bb:TI Tryz.prog 188 (.slice none 0 0) 1 24:=by unfold TI;kernel_rfl
theorem IN:Enters Tryz.prog 126:=enters Tryz.func126 rfl (by decide)
theorem Xk:Enters Tryz.prog 175:=enters Tryz.func175 rfl (by decide)
end TKBldG
open TKBldG
set_option maxRecDepth 10000
theorem index_spec {M:aA} {l:List (List Po)} {v0:Value} {g:FuncId} {cap:List Value} {B:Nat} {J:Nat→aA→World→Prop} {bad:List Po→Bool} (w0:World) (hM:Lt M w0) (hv:(((RT.po).sl).sl).V M w0 l v0) (hg:Enters Tryz.prog g) (hJ:J 0 M w0) (iz:∀i M w M' w',J i M w→Step M w M' w' aC→J i M' w') (ht:∀i M w x vx,J i M w→Lt M w→l[i]? =some x→((RT.po).sl).V M w x vx→Spec Tryz.prog g ([vx]++cap).toArray w (fun v w'=>∃M',Lt M' w'∧v= .bool (bad x)∧(bad x=false→J (i+1) M' w')∧Step M w M' w' (jC M B))):
  Spec Tryz.prog 175 #[v0,.func (.func g) #[] cap.toArray] w0 (fun v w=>∃M' k,v= .int .i64 k∧ -1≤k∧Lt M' w∧Step M w0 M' w (jC M B)∧(k= -1→(∀x∈l,bad x=false)∧J l.length M' w)∧(0≤k→∃x∈l,bad x=true)):=by
 have hlen:=dV hv;refine aX (args:=[_,_]) (fn:=Tryz.f175) Tryz.func175 rfl (n:=19) Tryz.ntmps175 ?_;have S:Step M w0 M w0 (jC M B):=(an _ _).cc (fun _ h=>h.elim) (fun _ h=>h.2);refine aj (ah (ai rfl rfl (ad (aj (aj (ah (ae rfl rfl (bU Tryz.underlying56 rfl hv rfl (ae rfl rfl (ad (a8 ?_)))))))))));refine dC (σ:=Nat) (fun q=>[(0,v0),(1,.func (.func g) #[] cap.toArray),(6,v0),(7,.int .i64 (l.length:Int)),(8,.int .i64 (q:Int))]) (fun q w=>∃M',Lt M' w∧Step M w0 M' w (jC M B)∧(((RT.po).sl).sl).V M' w l v0∧J q M' w∧q≤l.length∧∀x∈l.take q,bad x=false) (fun q=>l.length-q) 0 (.cons rfl (.cons rfl (.cons rfl (.cons rfl (.cons rfl .nil))))) ?_ ?_
 ·exact⟨M,hM,S,hv,hJ,bG _,fun x h=>by simp at h⟩
 ·clear hM S hv hJ;rintro i w ⟨M1,hM,S,hv,hJ,hi,iK⟩;refine aj (ah (cf rfl rfl rfl (ad (aj ?_))));refine bI rfl (fun c2=>?_) (fun c2=>?_)
  ·refine aU (aj (a8 (aj (ah (ae rfl rfl (ai rfl rfl (ad (aj (ah (ae rfl rfl (ae rfl rfl ?_)))))))))));refine ae rfl rfl ?_;refine dq (M:=M1) Tryz.underlying56 jI rfl rfl rfl hv (aq _ _) (by omega) (fun u x Ao hu=>?_);rw[az]at Ao;refine cg (M:=M1) aW rfl rfl rfl rfl rfl hu (aq _ _) (fun vx sV=>?_);refine Rg.nT (first:=[]) (captured:=cap) (xs:=[.tmp 15]) rfl rfl rfl hg (ht i _ _ x vx hJ hM Ao sV) (fun r4 w4 hc=>?_);obtain⟨M4,MF,rfl,SJ,s4⟩:=hc;refine bu (v':= .bool (decide (bad x=true))) (by simp) ?_;have S4:=S.trans s4 (fun k hk h=>⟨h.1,(S.mem k hk).1 h.2⟩);refine ad ?_;refine bI rfl (fun c4=>?_) (fun c4=>?_)
   ·refine aj (ah (ae rfl rfl (ai rfl rfl (ad (aJ ?_)))));exact aO rfl rfl ⟨M4,_,rfl,by omega,MF,S4,fun h=>absurd h (by omega),fun _=>⟨x,aM Ao,c4⟩⟩
   ·refine aU (ah (bA rfl rfl rfl (by omega) (ae rfl rfl (ad ?_))));refine⟨rfl,i+1,(.cons rfl (.cons rfl (.cons rfl (.cons rfl (.cons rfl .nil))))),?_,?_⟩
    ·have hb:bad x=false:=by simpa using c4
     exact⟨M4,MF,S4,hv.le s4.le,SJ hb,by omega,fun y hy=>by
      rw[cd,Ao,cZ,dm,cE]at hy;rcases hy with hy|rfl
      ·exact iK y hy
      ·exact hb⟩
    ·omega
  ·refine cM (aj (ah (ai rfl rfl (ad (aJ ?_)))));rw[bp (by omega)]at iK;have e:i=l.length:=by omega
   subst e;exact aO rfl rfl ⟨_,_,rfl,by omega,hM,S,fun _=>⟨iK,hJ⟩,fun h=>absurd h (by omega)⟩
theorem uD {M:aA} {l:List (List Po)} {v0:Value} {g:FuncId} {cap:List Value} {B:Nat} {J:Nat→aA→World→Prop} {bad:List Po→Bool} (w0:World) (hM:Lt M w0) (hv:(((RT.po).sl).sl).V M w0 l v0) (hg:Enters Tryz.prog g) (hJ:J 0 M w0) (iz:∀i M w M' w',J i M w→Step M w M' w' aC→J i M' w') (ht:∀i M w x vx,J i M w→Lt M w→l[i]? =some x→((RT.po).sl).V M w x vx→Spec Tryz.prog g ([vx]++cap).toArray w (fun v w'=>∃M',Lt M' w'∧v= .bool (bad x)∧(bad x=false→J (i+1) M' w')∧Step M w M' w' (jC M B))):
  Spec Tryz.prog 127 #[v0,.func (.func g) #[] cap.toArray] w0 (fun v w=>∃M' k,v= .bool (decide (0≤k))∧ -1≤k∧Lt M' w∧Step M w0 M' w (jC M B)∧(k= -1→(∀x∈l,bad x=false)∧J l.length M' w)∧(0≤k→∃x∈l,bad x=true)):=by
 refine aX (args:=[_,_]) (fn:=Tryz.f127) Tryz.func127 rfl (n:=9) Tryz.ntmps127 (aj (ah (ai rfl rfl (ad (aj (ah (ae rfl rfl (ae rfl rfl ?_))))))));refine aP rfl rfl Xk (index_spec w0 hM hv hg hJ iz ht) (fun r w1 hc=>?_);obtain⟨M1,k,rfl,hk,h2⟩:=hc;refine dr rfl rfl rfl (ai rfl rfl (ad (aJ ?_)));exact aO rfl rfl ⟨M1,k,rfl,hk,h2⟩
def zt (x:List Po):Int:=match x.getLast? with|some p=>p.1|none=> -1
def kQ (n:Int) (x:List Po):Bool:= !dP (-1) x||x.isEmpty||decide (n≤zt x)
theorem zu {x:List Po} {p:Po} (h:x[x.length-1]? =some p):zt x=p.1:=by
 unfold zt;rw[List.getLast?_eq_getElem?,h]
structure Room (x:List Po):Prop where
 ps:∀p∈x,p.2.length≤1099511627776
 by_:(dy (-1) x).length≤35184372088832
 ln:x.length≤1099511627776
 tot:gu x≤4611686018427387904
def RT.cell:RT Value where
 n:=1
 agg:=false
 R:=fun _ _ x vs=>vs=[x]∧x.oneCell'=true
 len:=by rintro _ _ x vs ⟨rfl,_⟩;rfl
 one:=by rintro _ _ x vs ⟨rfl,h⟩ v hv;simp at hv;subst hv;exact h
 le:=fun _ h=>h
theorem IP {M:aA} {w:World} {v:Value} (h:v.oneCell'=true):RT.cell.V M w v v:=⟨[v],⟨rfl,h⟩,rfl⟩
theorem eo.cells {α:Type} {A:RT α} (hA:A.n=1) {M:aA} {w:World}:∀{xs:List α} {C:List Value},eo A M w xs C→∃ys:List Value,eo RT.cell M w ys C∧ys.length=xs.length
 |[],C,h=>⟨[],h,rfl⟩
 |x::xs,C,h=>by
  obtain⟨vs,r,h1,h2,h3⟩:=h;obtain⟨ys,h4,h5⟩:=eo.cells hA h3;have hl:=A.len h2
  match vs,hl,h1,h2 with
  |[v],_,h1,h2=>exact⟨v::ys,⟨[v],r,h1,⟨rfl,A.one h2 v (by simp)⟩,h4⟩,by simp[h5]⟩
  |[],hl,_,_=>simp at hl;omega
  |_::_::_,hl,_,_=>simp at hl;omega
theorem Own.cells {α:Type} {A:RT α} (hA:A.n=1) {e:TypeId} {M:aA} {w:World} {base:Nat} {v:Value} {xs:List α} (h:Own A e M w base v xs):∃ys:List Value,Own RT.cell e M w base v ys∧ys.length=xs.length:=by
 obtain⟨⟨C,hr,ha⟩,hm⟩:=h;obtain⟨ys,h1,h2⟩:=ha.cells hA;exact⟨ys,⟨⟨C,by rw[h2,show RT.cell.n=A.n from hA.symm];exact hr,h1⟩,hm⟩,h2⟩
def uE (bl bn:Nat) (n:Int) (ls:List (List Po)) (B:Nat) (i:Nat) (M:aA) (w:World):Prop:=∃vl,w.heap[bl]? =some (.cells #[vl] 188 (0,0))∧M bl∧B≤bl∧w.heap[bn]? =some (.cells #[.int .i64 n] 3 (0,0))∧M bn∧Own ((RT.li).ptr) 129 M w B vl ((ls.take i).map gK)
theorem uE.bh {bl bn:Nat} {n:Int} {ls:List (List Po)} {B i:Nat} {M M':aA} {w w':World} (h:uE bl bn n ls B i M w) (s:Step M w M' w' aC):uE bl bn n ls B i M' w':=by
 obtain⟨vl,h1,h2,h3,h4,h5,h6⟩:=h;exact⟨vl,s.aI h1,(s.mem _ (ak h1)).2 h2,h3,s.aI h4,(s.mem _ (ak h4)).2 h5,h6.bh s⟩
theorem MG {M:aA} {bl bn B i:Nat} {n:Int} {ls:List (List Po)} {x:List Po} {v0:Value} (w0:World) (hM:Lt M w0) (hB:B≤w0.heap.size) (hJ:uE bl bn n ls B i M w0) (hx:ls[i]? =some x) (hv:((RT.po).sl).V M w0 x v0) (hr:Room x) (my:i≤1000000000) (hm:dP (-1) x=true):
  Spec Tryz.prog 125 #[v0,.pointer (some ⟨bl,0,none⟩),.pointer (some ⟨bn,0,none⟩)] w0 (fun v w=>∃M',Lt M' w∧v= .bool (kQ n x)∧(kQ n x=false→uE bl bn n ls B (i+1) M' w)∧Step M w0 M' w (jC M B)):=by
 have hlen:=dV hv;obtain⟨vl,gl,iS,Xl,gn,ke,ho⟩:=hJ;have nln:bl≠bn:=fun h=>by rw[h,gn]at gl;simp at gl
 refine aX (args:=[_,_,_]) (fn:=Tryz.f125) Tryz.func125 rfl (n:=34) Tryz.ntmps125 ?_;have S:Step M w0 M w0 (jC M B):=(an _ _).cc (fun _ h=>h.elim) (fun _ h=>h.2);refine aj (ah (ai rfl rfl (ad (aj (ah (ae rfl rfl ?_))))));refine aP rfl rfl IN (qq hM hv hr.ps hr.by_ hr.ln hr.tot) (fun r1 w1 hc=>?_);obtain⟨s1,fu,iK⟩:=hc;obtain⟨p,rfl,hp⟩:=fu hm;have:=ak gl;replace iS:=(s1.mem _ this).2 iS;replace gl:=s1.aI gl;have:=ak gn;replace ke:=(s1.mem _ this).2 ke;replace gn:=s1.aI gn;replace hv:=hv.le s1.le;replace ho:=ho.bh s1;replace hM:=s1.lt hM;have:=S.size;replace S:=S.ay s1;refine ae rfl rfl (bP rfl rfl rfl (bP rfl rfl rfl (ai rfl rfl (ai rfl rfl (ad (aj (ah (aE dN rfl rfl rfl gl rfl (bu (v':=vl) rfl (ae rfl rfl ?_))))))))));refine eE (A:=((RT.li).ptr)) (hn:=by decide) (M:=M) dN oE (by decide) rfl rfl hM (Cc.2 hp) (.inr ⟨rfl,rfl⟩) (fun Xm Q8 kf mH=>?_);have:=ak gl;replace iS:=(mH.mem _ this).2 iS;replace gl:=mH.aI gl;have:=ak gn;replace ke:=(mH.mem _ this).2 ke;replace gn:=mH.aI gn;replace hv:=hv.le mH.le;replace hp:=hp.le (by decide) mH.le;replace ho:=ho.bh mH;replace hM:=mH.lt hM;have:=S.size;replace S:=S.ay mH;refine cR (M:=M) (base:=B) dN oE rfl rfl rfl rfl ho kf (aq _ _) (by simp;omega) (by simp;omega) (by have:=S.size;omega) (fun MH zw Xn Gu mI=>?_);have:=ak gl;replace iS:=(mI.mem _ this).2 iS;replace gl:=mI.bF gl (fun h=>by first|exact ho.dD gl h|exact ho.eL gl (by decide) h|(have:=(ho.base _ h).1;omega));have:=ak gn;replace ke:=(mI.mem _ this).2 ke;replace gn:=mI.bF gn (fun h=>by first|exact ho.dD gn h|exact ho.eL gn (by decide) h|(have:=(ho.base _ h).1;omega));replace hv:=hv.le mI.le;replace hp:=hp.le (by decide) mI.le
 replace kf:=kf.le mI.le;replace hM:=mI.lt hM;have:=S.size;replace S:=S.trans mI (fun k hk h=>⟨(ho.base k h).1,(S.mem k hk).1 (ho.mut_ k h)⟩);replace ho:=Gu;refine bQ (M:=zw) Bb rfl rfl gl rfl (by obtain⟨_,_,he,_⟩:=ho.isSlice;rw[he];rfl) iS (fun MI Gv lv=>?_);change MI.heap[_]? =some (Obj.cells #[MH] _ _)at Gv;have:=ak gl;replace iS:=(lv.mem _ this).2 iS;have:=ak gn;replace ke:=(lv.mem _ this).2 ke;replace gn:=lv.bF gn (fun hk=>by have hk:_=_:=hk;omega);replace hv:=hv.le lv.le;replace hp:=hp.le (by decide) lv.le;replace kf:=kf.le lv.le;replace ho:=ho.step lv (fun c hc (h:c=bl)=>ho.eL gl (by decide) (h▸hc));replace hM:=lv.lt hM;have:=S.size;replace S:=S.trans lv (fun k hk h=>by have h:_=_:=h;subst h;first|(exfalso;omega)|(show _≤_;omega)|exact⟨by first|omega|assumption,(S.mem _ hk).1 ((lv.mem _ (ak gl)).1 iS)⟩|exact .inl rfl|exact .inr rfl|exact .inr (.inl rfl)|exact .inr (.inr rfl)|exact rfl);have Q9:=Gv;clear gl;have gl:=Q9;clear Q9;refine ad (aj ?_);apply T.kJ mixed rfl rfl;intro Pf Pg;have mA:=Pg zw;have:=ak gl;replace iS:=(mA.mem _ this).2 iS;replace gl:=mA.aI gl;have:=ak gn;replace ke:=(mA.mem _ this).2 ke;replace gn:=mA.aI gn;replace hv:=hv.le mA.le;replace hp:=hp.le (by decide) mA.le;replace kf:=kf.le mA.le;replace ho:=ho.bh mA;replace hM:=mA.lt hM;have:=S.size;replace S:=S.ay mA;refine ae rfl rfl ?_;refine ad ⟨rfl,rfl,rfl,?_⟩;refine eV rfl rfl rfl ?_;refine ad ⟨rfl,rfl,rfl,?_⟩;refine ae rfl rfl ?_;refine ad ⟨rfl,rfl,rfl,?_⟩;refine Rg.zW (g:=18) rfl ((by decide)) (al rfl rfl (ae rfl rfl ?_));refine ad ⟨rfl,rfl,rfl,?_⟩;refine al rfl rfl (bU aW rfl hv rfl ?_);refine ad ⟨rfl,rfl,rfl,?_⟩;refine al rfl rfl (Rg.zY rfl rfl rfl ?_);refine ad ⟨rfl,rfl,rfl,?_⟩;refine ax rfl rfl rfl ?_;refine ad ⟨rfl,rfl,rfl,?_⟩
 refine ae rfl rfl ?_;refine ad ⟨rfl,rfl,rfl,?_⟩;refine aG (g:=23) rfl (fun MJ=>?_) (fun MJ=>?_)
 ·refine ao rfl rfl rfl rfl ?_;refine ad ⟨rfl,rfl,rfl,?_⟩;refine ao rfl rfl rfl rfl ?_;refine ad ⟨rfl,rfl,rfl,?_⟩;refine ao rfl rfl rfl rfl ?_;refine ad ⟨rfl,rfl,rfl,?_⟩;refine ao rfl rfl rfl rfl ?_;refine ad ⟨rfl,rfl,rfl,?_⟩;refine ao rfl rfl rfl rfl ?_;refine ad ⟨rfl,rfl,rfl,?_⟩;refine ao rfl rfl rfl rfl ?_;refine ad ⟨rfl,rfl,rfl,?_⟩;refine ao rfl rfl rfl rfl ?_;refine ad ⟨rfl,rfl,rfl,?_⟩;refine ao rfl rfl rfl rfl ?_;refine ad ⟨rfl,rfl,rfl,?_⟩;refine ao rfl rfl rfl rfl ?_;refine ad ⟨rfl,rfl,rfl,?_⟩;refine aQ rfl rfl rfl ?_;refine ad ⟨rfl,rfl,rfl,?_⟩;refine ai rfl rfl ?_;refine ad ⟨rfl,rfl,rfl,?_⟩;refine fy (aJ ?_)
  first
  |(have Dh:kQ n x=true:=by
     have:x=[]:=fY.1 (by omega);simp[kQ,this]
    rw[Dh];exact aO rfl rfl ⟨_,hM,rfl,(fun h=>by cases h),S⟩)
  |(have eG:x.isEmpty=false:=by cases x with
     |nil=>simp at MJ
     |cons a t=>rfl
    have Xo:kQ n x=decide (n≤q.1):=by unfold kQ;rw[hm,eG,zu hq];rfl
    rw[Xo];exact aO rfl rfl ⟨_,hM,rfl,fun _=>⟨_,gl,iS,Xl,gn,ke,by rw[cd,hx,cZ,jB];exact ho⟩,S⟩)
 ·refine al rfl rfl (ae rfl rfl ?_);refine ad ⟨rfl,rfl,rfl,?_⟩;refine al rfl rfl (ae rfl rfl ?_);refine ad ⟨rfl,rfl,rfl,?_⟩;refine al rfl rfl (bU aW rfl hv rfl ?_);refine ad ⟨rfl,rfl,rfl,?_⟩;refine al rfl rfl (fX rfl rfl rfl (by omega) ?_);refine ad ⟨rfl,rfl,rfl,?_⟩;refine al rfl rfl ?_;obtain⟨q,hq⟩:∃q,x[x.length-1]? =some q:=⟨_,aL (by omega)⟩;refine dq (M:=zw) aW gw rfl rfl rfl hv (aq _ _) (by omega) (fun u3 a LN Su=>?_);obtain rfl:q=a:=bM (hq.symm.trans (by rw[show((x.length:Int)-1).toNat=x.length-1 from by omega]at LN;exact LN));refine ad ⟨rfl,rfl,rfl,?_⟩;refine al rfl rfl ?_;refine aH (M:=zw) (A:=RT.po) (B:=RT.int .i64) bJ rfl rfl I3 (by decide) (Hi) rfl rfl (by decide) (by assumption) (by repeat (first|exact aq _ _|refine aT (aY (by assumption)) ?_)) (fun aaQ Xp=>?_);refine ad ⟨rfl,rfl,rfl,?_⟩;refine al rfl rfl ?_;refine cb (M:=zw) ar rfl rfl (by assumption) (by repeat (first|exact aq _ _|refine aT (aY (by assumption)) ?_)) (fun Gw=>?_);refine bu (v':= .int .i64 (q.1)) rfl ?_;replace Gw: -9223372036854775808≤(q.1:Int)∧q.1≤9223372036854775807:=Gw;refine ad ⟨rfl,rfl,rfl,?_⟩;refine al rfl rfl (aE ar rfl rfl rfl gn rfl (bu (v':= .int .i64 n) rfl ?_));refine ad ⟨rfl,rfl,rfl,?_⟩;refine al rfl rfl (dr rfl rfl rfl ?_);refine ad ⟨rfl,rfl,rfl,?_⟩;refine ax rfl rfl rfl ?_;refine ad ⟨rfl,rfl,rfl,?_⟩;refine ai rfl rfl ?_;refine ad ⟨rfl,rfl,rfl,?_⟩;refine fy (aJ ?_)
  first
  |(have Dh:kQ n x=true:=by
     have:x=[]:=fY.1 (by omega);simp[kQ,this]
    rw[Dh];exact aO rfl rfl ⟨_,hM,rfl,(fun h=>by cases h),S⟩)
  |(have eG:x.isEmpty=false:=by cases x with
     |nil=>simp at MJ
     |cons a t=>rfl
    have Xo:kQ n x=decide (n≤q.1):=by unfold kQ;rw[hm,eG,zu hq];rfl
    rw[Xo];exact aO rfl rfl ⟨_,hM,rfl,fun _=>⟨_,gl,iS,Xl,gn,ke,by rw[cd,hx,cZ,jB];exact ho⟩,S⟩)
theorem IQ {M:aA} {bl bn B i:Nat} {n:Int} {ls:List (List Po)} {x:List Po} {v0:Value} (w0:World) (hM:Lt M w0) (hB:B≤w0.heap.size) (hJ:uE bl bn n ls B i M w0) (hx:ls[i]? =some x) (hv:((RT.po).sl).V M w0 x v0) (hr:Room x) (my:i≤1000000000) (hm:dP (-1) x=false):
  Spec Tryz.prog 125 #[v0,.pointer (some ⟨bl,0,none⟩),.pointer (some ⟨bn,0,none⟩)] w0 (fun v w=>∃M',Lt M' w∧v= .bool (kQ n x)∧(kQ n x=false→uE bl bn n ls B (i+1) M' w)∧Step M w0 M' w (jC M B)):=by
 have hlen:=dV hv;obtain⟨vl,gl,iS,Xl,gn,ke,ho0⟩:=hJ;have nln:bl≠bn:=fun h=>by rw[h,gn]at gl;simp at gl
 obtain⟨ys,ho,NC⟩:=ho0.cells rfl;rw[db,bS]at NC;clear ho0;refine aX (args:=[_,_,_]) (fn:=Tryz.f125) Tryz.func125 rfl (n:=34) Tryz.ntmps125 ?_;have S:Step M w0 M w0 (jC M B):=(an _ _).cc (fun _ h=>h.elim) (fun _ h=>h.2);refine aj (ah (ai rfl rfl (ad (aj (ah (ae rfl rfl ?_))))));refine aP rfl rfl IN (qq hM hv hr.ps hr.by_ hr.ln hr.tot) (fun r1 w1 hc=>?_);obtain⟨s1,fu,iK⟩:=hc;obtain rfl:=iK hm;have:=ak gl;replace iS:=(s1.mem _ this).2 iS;replace gl:=s1.aI gl;have:=ak gn;replace ke:=(s1.mem _ this).2 ke;replace gn:=s1.aI gn;replace hv:=hv.le s1.le;replace ho:=ho.bh s1;replace hM:=s1.lt hM;have:=S.size;replace S:=S.ay s1;refine ae rfl rfl (bP rfl rfl rfl (bP rfl rfl rfl (ai rfl rfl (ai rfl rfl (ad (aj (ah (aE dN rfl rfl rfl gl rfl (bu (v':=vl) rfl (ae rfl rfl ?_))))))))));refine eE (A:=RT.cell) (hn:=by decide) (M:=M) dN oE (by decide) rfl rfl hM (IP (v:= .pointer none) rfl) (.inr ⟨rfl,rfl⟩) (fun Xm Q8 kf mH=>?_);have:=ak gl;replace iS:=(mH.mem _ this).2 iS;replace gl:=mH.aI gl;have:=ak gn;replace ke:=(mH.mem _ this).2 ke;replace gn:=mH.aI gn;replace hv:=hv.le mH.le;replace ho:=ho.bh mH;replace hM:=mH.lt hM;have:=S.size;replace S:=S.ay mH;refine cR (M:=M) (base:=B) dN oE rfl rfl rfl rfl ho kf (aq _ _) (by simp;omega) (by simp;omega) (by have:=S.size;omega) (fun MH zw Xn Gu mI=>?_);have:=ak gl;replace iS:=(mI.mem _ this).2 iS;replace gl:=mI.bF gl (fun h=>by first|exact ho.dD gl h|exact ho.eL gl (by decide) h|(have:=(ho.base _ h).1;omega));have:=ak gn;replace ke:=(mI.mem _ this).2 ke;replace gn:=mI.bF gn (fun h=>by first|exact ho.dD gn h|exact ho.eL gn (by decide) h|(have:=(ho.base _ h).1;omega))
 replace hv:=hv.le mI.le;replace kf:=kf.le mI.le;replace hM:=mI.lt hM;have:=S.size;replace S:=S.trans mI (fun k hk h=>⟨(ho.base k h).1,(S.mem k hk).1 (ho.mut_ k h)⟩);replace ho:=Gu;refine bQ (M:=zw) Bb rfl rfl gl rfl (by obtain⟨_,_,he,_⟩:=ho.isSlice;rw[he];rfl) iS (fun MI Gv lv=>?_);change MI.heap[_]? =some (Obj.cells #[MH] _ _)at Gv;have:=ak gl;replace iS:=(lv.mem _ this).2 iS;have:=ak gn;replace ke:=(lv.mem _ this).2 ke;replace gn:=lv.bF gn (fun hk=>by have hk:_=_:=hk;omega);replace hv:=hv.le lv.le;replace kf:=kf.le lv.le;replace ho:=ho.step lv (fun c hc (h:c=bl)=>ho.eL gl (by decide) (h▸hc));replace hM:=lv.lt hM;have:=S.size;replace S:=S.trans lv (fun k hk h=>by have h:_=_:=h;subst h;first|(exfalso;omega)|(show _≤_;omega)|exact⟨by first|omega|assumption,(S.mem _ hk).1 ((lv.mem _ (ak gl)).1 iS)⟩|exact .inl rfl|exact .inr rfl|exact .inr (.inl rfl)|exact .inr (.inr rfl)|exact rfl);have Q9:=Gv;clear gl;have gl:=Q9;clear Q9;refine ad (aj ?_);apply T.kJ mixed rfl rfl;intro Pf Pg;have mA:=Pg zw;have:=ak gl;replace iS:=(mA.mem _ this).2 iS;replace gl:=mA.aI gl;have:=ak gn;replace ke:=(mA.mem _ this).2 ke;replace gn:=mA.aI gn;replace hv:=hv.le mA.le;replace kf:=kf.le mA.le;replace ho:=ho.bh mA;replace hM:=mA.lt hM;have:=S.size;replace S:=S.ay mA;refine ae rfl rfl ?_;refine ad ⟨rfl,rfl,rfl,?_⟩;refine eV rfl rfl rfl ?_;refine ad ⟨rfl,rfl,rfl,?_⟩;refine ae rfl rfl ?_;refine ad ⟨rfl,rfl,rfl,?_⟩;refine Rg.Jh (g:=18) rfl ((by decide)) (ao rfl rfl rfl rfl ?_);refine ad ⟨rfl,rfl,rfl,?_⟩;refine ao rfl rfl rfl rfl ?_;refine ad ⟨rfl,rfl,rfl,?_⟩;refine ao rfl rfl rfl rfl ?_;refine ad ⟨rfl,rfl,rfl,?_⟩;refine aQ rfl rfl rfl ?_;refine ad ⟨rfl,rfl,rfl,?_⟩;refine ae rfl rfl ?_;refine ad ⟨rfl,rfl,rfl,?_⟩;refine ao rfl rfl rfl rfl ?_;refine ad ⟨rfl,rfl,rfl,?_⟩
 refine ao rfl rfl rfl rfl ?_;refine ad ⟨rfl,rfl,rfl,?_⟩;refine ao rfl rfl rfl rfl ?_;refine ad ⟨rfl,rfl,rfl,?_⟩;refine ao rfl rfl rfl rfl ?_;refine ad ⟨rfl,rfl,rfl,?_⟩;refine ao rfl rfl rfl rfl ?_;refine ad ⟨rfl,rfl,rfl,?_⟩;refine ao rfl rfl rfl rfl ?_;refine ad ⟨rfl,rfl,rfl,?_⟩;refine ao rfl rfl rfl rfl ?_;refine ad ⟨rfl,rfl,rfl,?_⟩;refine ao rfl rfl rfl rfl ?_;refine ad ⟨rfl,rfl,rfl,?_⟩;refine ao rfl rfl rfl rfl ?_;refine ad ⟨rfl,rfl,rfl,?_⟩;refine aQ rfl rfl rfl ?_;refine ad ⟨rfl,rfl,rfl,?_⟩;refine ai rfl rfl ?_;refine ad ⟨rfl,rfl,rfl,?_⟩;refine fy (aJ ?_);have Dh:kQ n x=true:=by simp[kQ,hm]
 rw[Dh];exact aO rfl rfl ⟨_,hM,rfl,(fun h=>by cases h),S⟩
theorem Gx {M:aA} {bl bn B i:Nat} {n:Int} {ls:List (List Po)} {x:List Po} {v0:Value} (w0:World) (hM:Lt M w0) (hB:B≤w0.heap.size) (hJ:uE bl bn n ls B i M w0) (hx:ls[i]? =some x) (hv:((RT.po).sl).V M w0 x v0) (hr:Room x) (my:i≤1000000000):
  Spec Tryz.prog 125 #[v0,.pointer (some ⟨bl,0,none⟩),.pointer (some ⟨bn,0,none⟩)] w0 (fun v w=>∃M',Lt M' w∧v= .bool (kQ n x)∧(kQ n x=false→uE bl bn n ls B (i+1) M' w)∧Step M w0 M' w (jC M B)):=by
 cases hm:dP (-1) x with
 |true=>exact MG w0 hM hB hJ hx hv hr my hm
 |false=>exact IQ w0 hM hB hJ hx hv hr my hm
end Go.K
namespace Go.K
open Go.Proofs
namespace TKBldH
theorem N1:TI Tryz.prog 56 (.slice none 0 0) 1 24:=by unfold TI;kernel_rfl
theorem SK:TI Tryz.prog 58 (.agg #[(.slice none 0 0),(.slice none 0 0),(.slice none 0 0),(.slice none 0 0)]) 4 96:=by unfold TI;kernel_rfl
theorem Xq:TI Tryz.prog 125 (.agg #[(.slice none 0 0),(.slice none 0 0),(.pointer none)]) 3 56:=by unfold TI;kernel_rfl
theorem Bb:TI Tryz.prog 188 (.slice none 0 0) 1 24:=by unfold TI;kernel_rfl
theorem Xr:placesOf Tryz.prog 125=[(0,1),(1,1),(2,1)].map some:=by kernel_rfl
theorem SC:Enters Tryz.prog 63:=enters Tryz.func63 rfl (by decide)
theorem E76:Enters Tryz.prog 76:=enters Tryz.func76 rfl (by decide)
theorem Xs:Enters Tryz.prog 124:=enters Tryz.func124 rfl (by decide)
theorem Xt:Enters Tryz.prog 125:=enters Tryz.func125 rfl (by decide)
theorem Xu:Enters Tryz.prog 127:=enters Tryz.func127 rfl (by decide)
theorem Xv:Enters Tryz.prog 128:=enters Tryz.func128 rfl (by decide)
end TKBldH
open TKBldH
set_option maxRecDepth 10000
def tV (p:Pa):Bool:=decide (p.1.length=p.2.1.length)&&eA (-1) p.2.1&&p.2.2.2.all (fun x=> !kQ (p.1.length:Int) x)&&decide (p.2.2.1.length=p.2.2.2.length)&&zj none p.2.2.1
def Gy (p:Pa):Se:=(p.1,p.2.1,p.2.2.1,p.2.2.2.map gK)
structure Gz (p:Pa):Prop where
 a:p.1.length≤1000000000
 b:p.2.1.length≤1000000000
 c:p.2.2.1.length≤1000000000
 d:p.2.2.2.length≤1000000000
 e:∀x∈p.2.2.2,Room x
theorem Bc {M:aA} {p:Pa} {v0:Value} (w0:World) (hM:Lt M w0) (hv:RT.pa.V M w0 p v0) (hR:Gz p):
  Spec Tryz.prog 76 #[v0] w0 (fun v w=>Step M w0 M w aC∧(tV p=true→ch RT.se M w v (Gy p))∧(tV p=false→v= .pointer none)):=by
 have jL:=hM;obtain⟨hRa,hRb,hRc,hRd,hRe⟩:=hR;refine aX (args:=[_]) (fn:=Tryz.f76) Tryz.func76 rfl (n:=45) Tryz.ntmps76 ?_;have S:Step M w0 M w0 aC:=(an _ _).cc (fun _ h=>h.elim) (fun _ h=>h.elim);refine aj (ah ?_);refine kh (A:=RT.pa) rfl rfl hM hv rfl (fun u0 w1 cA s0 _=>?_);replace hM:=s0.lt hM;have:=S.size;replace S:=S.ay s0;refine ai rfl rfl (ad (aj (ah ?_)));refine aH (M:=M) (A:=RT.pa) (B:=(RT.int .i64).sl) cz rfl rfl nM (by decide) (ZH) rfl rfl (by decide) (by assumption) (by repeat (first|exact aq _ _|refine aT (aY (by assumption)) ?_)) (fun uk jw=>?_);refine cg (M:=M) au rfl rfl rfl rfl rfl (by assumption) (by repeat (first|exact aq _ _|refine aT (aY (by assumption)) ?_)) (fun um kA=>?_);replace kA:((RT.int .i64).sl).V M _ p.1 um:=kA;refine bU au rfl kA rfl ?_;refine eW M I3 rfl (fun jF xc PI PJ gg s1_3=>?_);obtain⟨je,np⟩:∃M',M'=ins M jF:=⟨_,rfl⟩;rw[←np]at s1_3;have ff:je jF:=by rw[np];exact .inl rfl
 change xc.heap[jF]? =some (.cells #[.int .i64 0] _ _)at gg;replace cA:=cA.le (by decide) s1_3.le;replace hM:=s1_3.lt hM;have:=S.size;replace S:=S.ay s1_3;refine bQ (M:=je) I3 rfl rfl gg rfl (rfl) ff (fun H0 Bd gL=>?_);change H0.heap[_]? =some (Obj.cells #[.int .i64 (p.1.length:Int)] _ _)at Bd;have:=ak gg;replace ff:=(gL.mem _ this).2 ff;replace cA:=cA.le (by decide) gL.le;replace hM:=gL.lt hM;have:=S.size;replace S:=S.trans gL (fun k hk h=>by have h:_=_:=h;subst h;first|(exfalso;omega)|(show _≤_;omega)|exact⟨by first|omega|assumption,(S.mem _ hk).1 ((gL.mem _ (ak gg)).1 ff)⟩|exact .inl rfl|exact .inr rfl|exact .inr (.inl rfl)|exact .inr (.inr rfl)|exact rfl);have qP:=Bd;clear gg;have gg:=qP;clear qP;refine ad (aj (aj (ah ?_)));refine aH (M:=je) (A:=RT.pa) (B:=(RT.int .i64).sl) cz rfl rfl nM (by decide) (VF) rfl rfl (by decide) (by assumption) (by repeat (first|exact aq _ _|refine aT (aY (by assumption)) ?_)) (fun aeK aaS=>?_);refine cg (M:=je) au rfl rfl rfl rfl rfl (by assumption) (by repeat (first|exact aq _ _|refine aT (aY (by assumption)) ?_)) (fun Xw GA=>?_);replace GA:((RT.int .i64).sl).V je _ p.2.1 Xw:=GA;refine bU au rfl GA rfl (aE ar rfl rfl rfl gg rfl (bu (v':= .int .i64 (p.1.length:Int)) rfl (eV rfl rfl rfl (ae rfl rfl ?_))));refine aG (g:=16) rfl (fun Xx=>?_) (fun Xx=>?_)
 ·refine ao rfl rfl rfl rfl (ao rfl rfl rfl rfl (ao rfl rfl rfl rfl (ao rfl rfl rfl rfl (aQ rfl rfl rfl (ad (lC rfl (aj (ah (ai rfl rfl (ad (aJ ?_)))))))))))
  have eb:tV p=false:=by
   unfold tV
   first
   |(rw[decide_eq_false (show¬p.1.length=p.2.1.length by omega)];simp;done)
   |(simp[c2];done)
  exact aO rfl rfl ⟨S.back,fun h=>by(rw[eb]at h;cases h),fun _=>rfl⟩
 ·have NX:p.1.length=p.2.1.length:=by omega
  refine al rfl rfl ?_;refine aH (M:=je) (A:=RT.pa) (B:=(RT.int .i64).sl) cz rfl rfl nM (by decide) (VF) rfl rfl (by decide) (by assumption) (by repeat (first|exact aq _ _|refine aT (aY (by assumption)) ?_)) (fun aeL aaT=>?_);refine al rfl rfl ?_;refine cg (M:=je) au rfl rfl rfl rfl rfl (by assumption) (by repeat (first|exact aq _ _|refine aT (aY (by assumption)) ?_)) (fun Xy GB=>?_);replace GB:((RT.int .i64).sl).V je _ p.2.1 Xy:=GB;refine al rfl rfl ?_;refine aP rfl rfl Xs (De _ GB) (fun r wc hc=>?_);obtain⟨rfl,rfl⟩:=hc;refine al rfl rfl (Rg.not rfl rfl (bu (v':= .bool (decide (¬eA (-1) p.2.1=true))) (by simp) (ax rfl rfl rfl (ad ?_))));refine bI rfl (fun c2=>?_) (fun c2=>?_)
  ·refine aj (ah (ai rfl rfl (ad (aJ ?_))))
   have eb:tV p=false:=by
    unfold tV
    first
    |(rw[decide_eq_false (show¬p.1.length=p.2.1.length by omega)];simp;done)
    |(simp[c2];done)
   exact aO rfl rfl ⟨S.back,fun h=>by(rw[eb]at h;cases h),fun _=>rfl⟩
  ·have er:eA (-1) p.2.1=true:=dU.1 c2;refine aU (aj (ah ?_));refine eW je Bb rfl (fun GC EN aeM aeN yB jq=>?_);obtain⟨Cl,GD⟩:∃M',M'=ins je GC:=⟨_,rfl⟩;rw[←GD]at jq;have MK:Cl GC:=by rw[GD];exact .inl rfl
   change EN.heap[GC]? =some (.cells #[.slice none 0 0] _ _)at yB;have:=ak gg;replace ff:=(jq.mem _ this).2 ff;replace gg:=jq.aI gg;replace cA:=cA.le (by decide) jq.le;replace hM:=jq.lt hM;have:=S.size;replace S:=S.ay jq;refine ad (aj (ah (hY (xs:=[]) (ys:=[.tmp 4,.tmp 3]) rfl rfl rfl (ai rfl rfl (ad (aj (aj (ah ?_))))))));refine aH (M:=Cl) (A:=RT.pa) (B:=((RT.po).sl).sl) cz rfl rfl N1 (by decide) (pa3) rfl rfl (by decide) (by assumption) (by repeat (first|exact aq _ _|refine aT (aY (by assumption)) ?_)) (fun PL E7=>?_);refine cg (M:=Cl) Tryz.underlying56 rfl rfl rfl rfl rfl (by assumption) (by repeat (first|exact aq _ _|refine aT (aY (by assumption)) ?_)) (fun LG td=>?_);replace td:(((RT.po).sl).sl).V Cl _ p.2.2.2 LG:=td;refine ae rfl rfl ?_;refine aP rfl rfl Xu (uD (cap:=[.pointer (some ⟨GC,0,none⟩),.pointer (some ⟨jF,0,none⟩)]) (B:=w0.heap.size) (J:=uE GC jF (p.1.length:Int) p.2.2.2 w0.heap.size) (bad:=kQ (p.1.length:Int)) _ hM td Xt ⟨_,yB,MK,by omega,gg,ff,ec _ _ _ _ _⟩ (fun i M w M' w' h s=>h.bh s) (fun i M w x vx hJ hM hx sV=>Gx w hM (by obtain⟨_,h1,_,h2,_⟩:=hJ;have:=ak h1;omega) hJ hx sV (hRe x (aM hx)) (by have:=(av.1 hx).1;omega))) (fun r6 w6 hc=>?_);obtain⟨M6,k6,rfl,hk6,Gj,s6,hk7,hk8⟩:=hc;replace cA:=cA.le (by decide) s6.le;replace S:=S.jS s6 (bj _);refine ad ?_;refine bI rfl (fun c6=>?_) (fun c6=>?_)
   ·obtain⟨x6,hx6,nQ⟩:=hk8 c6
    have eb:tV p=false:=by
     unfold tV;have:p.2.2.2.all (fun x=> !kQ (p.1.length:Int) x)=false:=List.all_eq_false.2 ⟨x6,hx6,by simp[nQ]⟩;simp[this]
    refine aj (ah (ai rfl rfl (ad (aJ ?_))));exact aO rfl rfl ⟨S.back,fun h=>by(rw[eb]at h;cases h),fun _=>rfl⟩
   ·refine aU (aj (ah ?_));obtain⟨nQ,⟨vl,gl,_,_,_,_,oQ⟩⟩:=hk7 (by omega);rw[bp (bj _)]at oQ;have jv:(((RT.li).ptr).sl).V M w6 (p.2.2.2.map gK) vl:=oQ.close jL S (by simp;omega);replace cA:ch RT.pa M w6 u0 p:=cA.le (by decide) (Le.close jL S);replace S:=S.back;replace hM:=S.lt jL;refine aH (M:=M) (A:=RT.pa) (B:=RT.str.sl) cz rfl rfl Hj (by decide) pa2 rfl rfl (by decide) cA (aq _ _) (fun aeR aaU=>?_);refine cg (M:=M) bg rfl rfl rfl rfl rfl (by assumption) (by repeat (first|exact aq _ _|refine aT (aY (by assumption)) ?_)) (fun Xz GF=>?_);replace GF:(RT.str.sl).V M _ p.2.2.1 Xz:=GF;refine aE dN rfl rfl rfl gl rfl (bu (v':=vl) rfl ?_);refine aP rfl rfl Xv (A5 _ hM GF jv (by omega) (by simp;omega)) (fun r8 w8 hc=>?_);obtain⟨pd,rfl,Hr,s8⟩:=hc;replace cA:=cA.le (by decide) s8.le;replace jv:=jv.le s8.le;replace gl:=s8.aI gl;replace hM:=s8.lt hM;have:=S.size;replace S:=S.ay s8;refine ae rfl rfl (bP rfl rfl rfl (bP rfl rfl rfl (ai rfl rfl (ai rfl rfl (ad (aj (aj (ah (ae rfl rfl (eV rfl rfl rfl (ad ?_)))))))))));refine bI rfl (fun c9=>?_) (fun c9=>?_)
    ·have eb:tV p=false:=by
      by_cases h:tV p=true
      ·unfold tV at h;simp only[bC,decide_eq_true_eq]at h;exact absurd (by rw[if_pos ⟨by simp[h.1.2],h.2⟩]) c9
      ·simpa using h
     refine aj (ah (ai rfl rfl (ad (aJ ?_))));exact aO rfl rfl ⟨S.back,fun h=>by(rw[eb]at h;cases h),fun _=>rfl⟩
    ·have e9:(p.2.2.1.length=(p.2.2.2.map gK).length∧zj none p.2.2.1=true):=by
      by_cases h:(p.2.2.1.length=(p.2.2.2.map gK).length∧zj none p.2.2.1=true)
      ·exact h
      ·exact absurd (by rw[if_neg h];decide) c9
     replace Hr:=Hr e9.1 e9.2;refine aU (aj ?_);apply T.Eb [0,1,3,4,6,2,5,7,8,9] 5 [2,3,4] 2 aC mixed
     ·simp+decide only[uU,p6,ib,List.map_nil,tR,tS,List.map_toArray,fq,mK,List.idxOf_cons,cond_true,cond_false,Nat.reduceBEq,Nat.reduceAdd,beq_self_eq_true];rfl
     ·rfl
     ·rfl
     ·rfl
     ·rfl
     ·rfl
     ·rfl
     intro IC L8;have ju:=L8 M;replace cA:=cA.le (by decide) ju.le;replace jv:=jv.le ju.le;replace gl:=ju.aI gl;replace hM:=ju.lt hM;have:=S.size;replace S:=S.ay ju;refine aH (M:=M) (A:=RT.pa) (B:=(RT.int .i64).sl) cz rfl rfl nM (by decide) (ZH) rfl rfl (by decide) (by assumption) (by repeat (first|exact aq _ _|refine aT (aY (by assumption)) ?_)) (fun JM Fa=>?_);refine ad ⟨rfl,rfl,rfl,?_⟩;refine cg (M:=M) au rfl rfl rfl rfl rfl (by assumption) (by repeat (first|exact aq _ _|refine aT (aY (by assumption)) ?_)) (fun Ra Be=>?_);replace Be:((RT.int .i64).sl).V M _ p.1 Ra:=Be;refine ad ⟨rfl,rfl,rfl,?_⟩;refine aH (M:=M) (A:=RT.pa) (B:=(RT.int .i64).sl) cz rfl rfl nM (by decide) (VF) rfl rfl (by decide) (by assumption) (by repeat (first|exact aq _ _|refine aT (aY (by assumption)) ?_)) (fun aaV ML=>?_);refine ad ⟨rfl,rfl,rfl,?_⟩;refine cg (M:=M) au rfl rfl rfl rfl rfl (by assumption) (by repeat (first|exact aq _ _|refine aT (aY (by assumption)) ?_)) (fun Rb l3=>?_);replace l3:((RT.int .i64).sl).V M _ p.2.1 Rb:=l3;refine ad ⟨rfl,rfl,rfl,?_⟩;refine ae rfl rfl ?_;refine ad ⟨rfl,rfl,rfl,?_⟩;refine fy ?_;obtain⟨bb,oo,cs,ee,fr,rfl,k4,_⟩:=ML.float;refine⟨iA ⟨jA cz rfl nM (by decide),⟨fJ rfl k4 (fun h=>h),⟨fc,trivial⟩⟩⟩,?_⟩;have kp:=km aC IC;refine aP rfl rfl SC (tu hM Be (by omega)) (fun v5 w5 hc=>?_);obtain⟨n4,s5⟩:=hc;replace l3:=l3.le s5.le;replace Hr:=(Hr.le (by decide) ju.le).le (by decide) s5.le;replace cA:=cA.le (by decide) s5.le;replace jv:=jv.le s5.le;replace gl:=s5.aI gl;replace hM:=s5.lt hM;have:=S.size;replace S:=S.ay s5;refine(fun(kp:eg _ _ _)=>ad ⟨rfl,rfl,fun _=>kp,?_⟩) (by first|exact kp|exact kp.pX (by assumption)|exact kp.goN (by assumption)|exact kp.go (by assumption) (fun _ _ h=>by first|exact h|exact h.elim))
     refine aP rfl rfl SC (tu hM l3 (by omega)) (fun v6 w6' hc=>?_);obtain⟨n0,J6⟩:=hc;replace cA:=cA.le (by decide) J6.le;replace jv:=jv.le J6.le;replace n4:=n4.le J6.le;replace l3:=l3.le J6.le;replace Hr:=Hr.le (by decide) J6.le;replace gl:=J6.aI gl;replace hM:=J6.lt hM;have:=S.size;replace S:=S.ay J6;refine(fun(kp:eg _ _ _)=>ad ⟨rfl,rfl,fun _=>kp,?_⟩) (by first|exact kp|exact kp.pX (by assumption)|exact kp.goN (by assumption)|exact kp.go (by assumption) (fun _ _ h=>by first|exact h|exact h.elim));refine dZ (places:=[(0,1),(1,1),(2,1)]) Tryz.underlying125 Xq Xr rfl ⟨_,_,rfl,rfl,_,_,rfl,rfl,_,_,rfl,rfl,rfl⟩ (out:=[_,_,_]) ⟨0,[_],rfl,ij n4,by simp[Value.cells],1,[_],rfl,ij n0,by simp[Value.cells],2,[_],rfl,qp Hr,by simp[Value.cells],rfl⟩ ?_;refine ad ⟨rfl,rfl,fun h=>absurd rfl h,?_⟩;refine kh (A:=RT.se) (a:=Gy p) rfl rfl hM (VG (x:=Gy p) n4 n0 Hr) rfl (fun u8 w8' XA IS _=>?_);replace cA:=cA.le (by decide) IS.le;replace jv:=jv.le IS.le;replace n4:=n4.le IS.le;replace l3:=l3.le IS.le;replace Hr:=Hr.le (by decide) IS.le;replace n0:=n0.le IS.le;replace gl:=IS.aI gl;replace hM:=IS.lt hM;have:=S.size;replace S:=S.ay IS;refine ad ⟨rfl,rfl,fun h=>absurd rfl h,?_⟩;refine ai rfl rfl ?_;refine ad ⟨rfl,rfl,fun h=>absurd rfl h,?_⟩;refine qA (aJ ?_)
     have eb:tV p=true:=by
      unfold tV;rw[decide_eq_true NX,er,e9.2,decide_eq_true (by simpa using e9.1),eh.2 (fun x hx=>by simp[nQ x hx])];rfl
     exact aO rfl rfl ⟨S.back,fun _=>XA,fun h=>by(rw[eb]at h;cases h)⟩
theorem Bf {M:aA} {p:Pa} {v0:Value} (w0:World) (hM:Lt M w0) (hv:RT.pa.V M w0 p v0) (hR:Gz p):
  Spec Tryz.prog 27 #[v0] w0 (fun v w=>Step M w0 M w aC∧(tV p=true→∃s,v= .tuple #[s,.int .i64 0]∧ch RT.se M w s (Gy p))∧(tV p=false→v= .tuple #[.pointer none,.int .i64 1])):=by
 refine aX (args:=[_]) (fn:=Tryz.f27) Tryz.func27 rfl (n:=10) Tryz.ntmps27 ?_;have S:Step M w0 M w0 aC:=(an _ _).cc (fun _ h=>h.elim) (fun _ h=>h.elim);refine aj (ah ?_);refine kh (A:=RT.pa) rfl rfl hM hv rfl (fun u0 w1 cA s0 _=>?_);replace hM:=s0.lt hM;have:=S.size;replace S:=S.ay s0;refine ai rfl rfl (ai rfl rfl (ad (aj (ah ?_))));refine cx (M:=M) (A:=RT.pa) cz rfl SK (by decide) rfl rfl rfl cA (aq _ _) (fun v1 nZ=>?_);refine aP rfl rfl E76 (Bc _ hM nZ hR) (fun r1 w2 hc=>?_);obtain⟨s2,fu,iK⟩:=hc
 obtain⟨o1,SB⟩:∃o,r1= .pointer o:=by
  cases h:tV p with
  |true=>obtain⟨b,o,_,h1,_⟩:=fu h;exact⟨_,h1⟩
  |false=>exact⟨none,iK h⟩
 subst SB;replace cA:=cA.le (by decide) s2.le;replace hM:=s2.lt hM;have:=S.size;replace S:=S.ay s2;refine ai rfl rfl (ad (aj (aj (ah (ae rfl rfl (Rg.so Tryz.underlying25 rfl rfl rfl (ad ?_)))))));refine bI rfl (fun c2=>?_) (fun c2=>?_)
 ·refine aj (ah (ai rfl rfl (ai rfl rfl (ad (aJ ?_)))))
  have eb:tV p=false:=by
   by_cases h:tV p=true
   ·obtain⟨b,o,_,h1,_⟩:=fu h;rw[c2]at h1;cases h1
   ·simpa using h
  exact eH rfl rfl rfl ⟨S.back,fun h=>by(rw[eb]at h;cases h),fun _=>rfl⟩
 ·refine aU (aj (ah (ae rfl rfl (ai rfl rfl (ai rfl rfl (ad (aJ ?_)))))))
  have eb:tV p=true:=by
   by_cases h:tV p=true
   ·exact h
   ·have:=iK (by simpa using h);simp at this;exact absurd this c2
  exact eH rfl rfl rfl ⟨S.back,fun _=>⟨_,rfl,fu eb⟩,fun h=>by(rw[eb]at h;cases h)⟩
end Go.K
namespace Go.K
section
variable {P:Program} {r:Option Nat} {n:Nat} {L:Sl} {ds:List Deferred} {w:World} {K:Kt} {M:aA} {F:List (Nat×aA)}
def pG (l:List Oper) (m q d:Nat):Bool:=
 Nat.blt q m&&ky l [q] m ((l[m]?.map bZ).getD [])&&iq l (m+1)&&
 ((List.range' m (l.length-m)).all fun j=>match l[j]? with
  |some o=>oB o.op&&(!(asks l o).contains d||(bZ o).contains q)
  |none=>true)
theorem qY {l:List Oper} {m q d:Nat} (h:pG l m q d=true):q<m∧ky l [q] m ((l[m]?.map bZ).getD [])=true∧iq l (m+1)=true∧∀j o,m≤j→l[j]? =some o→oB o.op=true∧(d∈asks l o→q∈bZ o):=by
 simp only[pG,bC,Nat.blt_eq]at h;obtain⟨⟨⟨h1,h2⟩,h3⟩,h4⟩:=h;refine⟨h1,h2,h3,fun j o hj ho=>?_⟩;have dB:=(av.1 ho).1;have:=eh.1 h4 j (List.mem_range'_1.2 ⟨hj,by omega⟩);rw[ho]at this;simp only[bC,Bool.or_eq_true,ox,gD]at this;refine⟨this.1,fun hd=>?_⟩;rcases this.2 with h|h
 ·rw[←Bool.not_eq_true,gD]at h;exact absurd hd h
 ·exact h
structure TJ (P:Program) (r:Option Nat) (n:Nat) (l:List Oper) (m q d:Nat) (c:Value) (L:Sl) (K:Kt) (ds:List Deferred) (D:Nat→Prop) (a:Act) (w:World) (p:Nat) (ac:Act) (Lp:Sl) (wq:World):Prop where
 p0:m≤p
 p1:p≤l.length
 dt:∀i,i<l.length→i≠q→(D i↔i<p)
 ag:fL n ac Lp ds
 tr:qG P r n l.toArray aC wq K 0 (l.drop p) Lp ds w
 yes:D q→a=ac
 no: ¬D q→ac=a.put (some d) c∧∀t u,lk (ik l q L) t=some u→a.tmps[t]? =some u
theorem put_comm (a:Act) {d:Nat} {e:Option Nat} (h:e≠some d) (c v:Value):(a.put (some d) c).put e v=(a.put e v).put (some d) c:=by
 cases e with
 |none=>rfl
 |some e=>
  have eG:e≠d:=fun h'=>h (by rw[h'])
  simp only[Act.put];congr 1;apply Array.ext_getElem?;intro i;simp only[cJ,Array.size_setIfInBounds];by_cases h1:e=i<;>by_cases h2:d=i<;>simp_all
theorem vM (a:Act) {d t:Nat} (c:Value) (h:t≠d):(a.put (some d) c).tmps[t]? =a.tmps[t]? :=by rw[fD,if_neg (fun e=>h (by injection e with e;exact e.symm))]
theorem TJ.next {l:List Oper} {m q d:Nat} {c:Value} (cC:dM l 0=true) (fu:pG l m q d=true) {oq:Oper} (hq:l[q]? =some oq) (Bg:oq.dst=some d) (MM:gF oq.op=true) (IT:oq.guard=none)
  (fS:∀(ρ:Operand→Value) w,(∀x u,ev (ik l q L) x=some u→ρ x=u)→(execOp ρ oq).run P w= .ok (.value c) w)
  {Q:Exit→Act→World→Prop} {D:Nat→Prop} {a:Act} {w:World} {j:Nat} {o:Oper} {rest:List Nat} (ho:l[j]? =some o) (mO: ¬D j) (hp:∀k∈bZ o,D k) {p:Nat} {ac:Act} {Lp:Sl} {wq:World} (hi:TJ P r n l m q d c L K ds D a w p ac Lp wq)
  (hk:∀a' w',(∃p ac Lp wq,TJ P r n l m q d c L K ds (fun i=>i=j∨D i) a' w' p ac Lp wq)→wpOpsIn (FW r) 0 P l.toArray Q rest a' w'):wpOpsIn (FW r) 0 P l.toArray Q (j::rest) a w:=by
 obtain⟨hqm,_,rZ,Jq⟩:=qY fu;have pO:=(av.1 ho).1;by_cases SL:j=q
 ·subst SL;rw[hq]at ho;cases ho;obtain⟨Cm,iY⟩:=hi.no mO;refine One.run (by simpa using hq) MM (v:=c) ?_ (hk _ _ ⟨p,ac,Lp,wq,hi.p0,hi.p1,fun i h1 h2=>⟨fun h=>(hi.dt i h1 h2).1 (h.resolve_left h2),fun h=> .inr ((hi.dt i h1 h2).2 h)⟩,hi.ag,hi.tr,fun _=>by rw[Cm,Bg],fun h=>absurd (.inl rfl) h⟩);unfold One;rw[if_pos (by simp[Region.wanted,IT])];refine fS a.eval w fun x u hx=> ?_
  cases x with
  |tmp t=>simp only[ev]at hx;simp[Act.eval,iY t u hx]
  |const v=>simp only[ev]at hx;cases hx;rfl
  |global g=>simp only[ev]at hx;cases hx;rfl
  |func f=>simp only[ev]at hx;cases hx;rfl
 ·have TA:j=p:=by
   have h1:p≤j:=by
    rcases cK j p with h|h
    ·exact absurd ((hi.dt j pO SL).2 h) mO
    ·exact h
   have:=hi.p0;rcases cK m j with h|h
   ·have h2:=hp _ (iM rZ (j:=j) (by omega) ho);have:=(hi.dt (j-1) (by omega) (by omega)).1 h2;omega
   ·omega
  subst TA;obtain⟨OA,hta⟩:=Jq j o hi.p0 ho;have wh:o.dst≠some d:=fun h=>SL (eD cC ho hq h Bg)
  have xN:∀t∈asks l o,a.tmps[t]? =ac.tmps[t]? :=fun t ht=>by
   by_cases hD:D q
   ·rw[hi.yes hD]
   ·rw[(hi.no hD).1,vM];rintro rfl;exact hD (hp q (hta ht))
  obtain⟨DC,xX⟩:=k3 xN
  have Sb:a.defers=ac.defers:=by
   by_cases hD:D q
   ·rw[hi.yes hD]
   ·rw[(hi.no hD).1,put_defers]
  have uT:=hi.tr;rw[dA pO,(av.1 ho).2]at uT;have h1:=Rg.run uT ac hi.ag;refine ya (by simpa using ho) OA DC xX Sb h1 (fun e a w ⟨_,_,_,he,_⟩=>he) (fun v w' ⟨L',kH,hA,_,D8,_,KG⟩=>?_) (fun d' w' ⟨L',kH,hA,_,D8,_⟩=>?_)
  ·rw[D8]at hA;refine hk _ _ ⟨j+1,ac.put o.dst v,L',wq,by have:=hi.p0;omega,by omega,fun i h3 h4=>?_,hA,KG,fun h=>?_,fun h=>?_⟩
   ·constructor
    ·rintro(h|h)
     ·omega
     ·have:=(hi.dt i h3 h4).1 h;omega
    ·intro h;rcases jj (show i≤j by omega)with h5|h5
     ·exact .inl h5
     ·exact .inr ((hi.dt i h3 h4).2 h5)
   ·rw[hi.yes (h.resolve_left (fun e=>SL e.symm))]
   ·have hD: ¬D q:=fun h'=>h (.inr h')
    obtain⟨Cm,iY⟩:=hi.no hD;refine⟨by rw[Cm,put_comm a wh],fun t u ht=>?_⟩;obtain⟨h3,h4⟩:=gP (f:=iZ l q) ht;rw[fD,if_neg,iY t u ht];intro e;simp only[iZ,eh]at h3;have:=h3 o (aM ho);simp only[e,beq_self_eq_true,Bool.not_true,Bool.false_or,gD]at this;exact hD (hp q this)
  ·have h3:=hA.defers;rw[put_defers,D8]at h3;have h4:=congrArg List.length h3;rw[hi.ag.defers]at h4;simp at h4
theorem gz.MN {l:List Oper} {wd:World} (m q d:Nat) (c:Value) {oq:Oper} (F:List (Nat×aA)) (S:List (b8 M)) (KE:S.length=m) (pT:Nat.blt m l.length=true) (cC:dM l 0=true) (fu:pG l m q d=true)
  (hq:l[q]? =some oq) (Bg:oq.dst=some d) (MM:gF oq.op=true) (IT:oq.guard=none) (hS:S[q]? =some (b8.eq c)) (fS:∀(ρ:Operand→Value) w,(∀x u,ev (ik l q L) x=some u→ρ x=u)→(execOp ρ oq).run P w= .ok (.value c) w)
  (lF:∀p∈F,∀b,p.2 b→M b) (hFq:∀p∈F,p.1≠q) (qD:xZ F l S) (qE:bD P r n F wd l S ds L l S 0)
  (il:∀w',Step M wd M w' (gB (F.map (·.2)))→fC w' (fun acc=>qG P r n l.toArray aC w' K 0 (l.drop m) (acc++ik l l.length L) ds w') l S []):gz P r n l L ds wd K:=by
 intro a0 ha;obtain⟨hqm,D9,rZ,Jq⟩:=qY fu;have Rc:m<l.length:=by simpa[Nat.blt_eq]using pT
 have start:∀(D:Nat→Prop) a w,(∀i,i<m→i≠q→D i)→(∀i,m≤i→i<l.length→¬D i)→(∀i o,l[i]? =some o→D i→∀k∈bZ o,D k)→Inv F S l wd L ds n (fun i=>D i∧i<l.length) a w→∃p ac Lp wq,TJ P r n l m q d c L K ds D a w p ac Lp wq:=by
  intro D a w kX iK ku hi
  obtain⟨ac,Cm⟩:∃ac,(D q→a=ac)∧(¬D q→ac=a.put (some d) c):=by
   by_cases hD:D q
   ·exact⟨a,fun _=>rfl,fun h=>absurd hD h⟩
   ·exact⟨_,fun h=>absurd h hD,fun _=>rfl⟩
  have hqn:d<n∨n≤d:=cK d n
  have iU:n≤ac.tmps.size:=by
   by_cases hD:D q
   ·rw[←Cm.1 hD];exact hi.size
   ·rw[Cm.2 hD,kY];exact hi.size
  have Sb:ac.defers=ds:=by
   by_cases hD:D q
   ·rw[←Cm.1 hD];exact hi.defers
   ·rw[Cm.2 hD,put_defers];exact hi.defers
  have GG:∀t,t≠d→ac.tmps[t]? =a.tmps[t]? :=fun t ht=>by
   by_cases hD:D q
   ·rw[←Cm.1 hD]
   ·rw[Cm.2 hD,vM a c ht]
  have XB:d<a.tmps.size:=by
   have hg:=qE.take.get q oq (by rw[dF,KE,if_pos hqm];exact hq);by_cases hD:D q
   ·obtain⟨v,h1,_⟩:=hi.done q oq (b8.eq c) d hq hS ⟨hD,by omega⟩ Bg;exact(Array.getElem?_eq_some_iff.1 h1).1
   ·refine Classical.byContradiction fun uJ=> ?_
    obtain⟨s,hs,Re⟩:=hg;rw[Nat.zero_add]at Re;rw[hS]at hs;cases hs
    have hpq:∀k∈bZ oq,D k:=fun k hk=>by
     have:=cj cC q oq hq k hk;exact kX k (by omega) (by omega)
    have:=Inv.next (r:=r) (P:=P) hi cC qD lF (rest:=[]) (Q:=fun _ a' _=>n≤a'.tmps.size∧∃v,a'.tmps[d]? =some v) ⟨b8.eq c,hS,Re⟩ hq (fun h=>hD h.1) (fun k hk=>⟨hpq k hk,by have:=cj cC q oq hq k hk;omega⟩) (fun a' w' fB=>by
     obtain⟨v,h1,_⟩:=fB.done q oq (b8.eq c) d hq hS (.inl rfl) Bg;exact⟨fB.size,v,h1⟩)
    have pU:One P r l.toArray w oq a c:=by
     unfold One;rw[if_pos (by simp[Region.wanted,IT])];refine fS a.eval w fun x u hx=> ?_
     have iY:∀t u,lk (ik l q L) t=some u→a.tmps[t]? =some u:=fun t u ht=>by
      obtain⟨h3,h4⟩:=gP (f:=iZ l q) ht;refine hi.base t u h4 fun i o fQ xQ he=> ?_
      simp only[iZ,eh]at h3;have:=h3 o (aM fQ);simp only[he,beq_self_eq_true,Bool.not_true,Bool.false_or,gD]at this;exact hD (ku i o fQ xQ.1 q this)
     cases x with
     |tmp t=>simp only[ev]at hx;simp[Act.eval,iY t u hx]
     |const v=>simp only[ev]at hx;cases hx;rfl
     |global g=>simp only[ev]at hx;cases hx;rfl
     |func f=>simp only[ev]at hx;cases hx;rfl
    simp only[wpOpsIn,jN,hq]at this;rw[if_pos (by simp[Region.wanted,IT])]at this;obtain⟨_,h2⟩:=this;unfold One at pU;rw[if_pos (by simp[Region.wanted,IT])]at pU;rw[Oper.semAt_eq _ _ _ (jX MM),pU]at h2;rw[Oper.uponIn_value]at h2;obtain⟨_,v,h3⟩:=h2;rw[Bg]at h3;have:=(Array.getElem?_eq_some_iff.1 h3).1;simp[Act.put]at this;exact uJ this
  have XC:∃v,ac.tmps[d]? =some v∧v=c:=by
   by_cases hD:D q
   ·rw[←Cm.1 hD];obtain⟨v,h1,h2⟩:=hi.done q oq (b8.eq c) d hq hS ⟨hD,by omega⟩ Bg;exact⟨v,h1,h2⟩
   ·refine⟨c,?_,rfl⟩;rw[Cm.2 hD,fD,if_pos rfl];simp[cJ,XB]
  have fT:∀{i:Nat} {o:Oper},(l.take m)[i]? =some o→l[i]? =some o∧i<m:=fun {i o} h=>by
   rw[dF]at h
   split at h
   ·exact⟨h,by assumption⟩
   ·cases h
  have iz:Step M wd M w (gB (F.map (·.2))):=hi.step.cc (fun b ⟨p,hp,hD,hb⟩=>ej.2 ⟨p.2,cF.2 ⟨p,hp,rfl⟩,hb⟩) (fun b hb=>by
   obtain⟨N,hN,xO⟩:=ej.1 hb;obtain⟨p,hp,rfl⟩:=cF.1 hN;exact lF p hp b xO)
  have hE:=(il w iz).take;rw[KE]at hE
  obtain⟨acc,h1,h2⟩:=fC.use (a:=ac) (l.take m) S [] (fun i o s h1 h2 h3=>by
    obtain⟨h4,h5⟩:=fT h1;by_cases J7:i=q
    ·subst J7;rw[hq]at h4;cases h4;rw[Bg]at h3;cases h3
    ·exact hi.fin i o s h4 h2 ⟨kX i h5 J7,by omega⟩ h3)
   (fun i o s e h1 h2 h3=>by
    obtain⟨h4,h5⟩:=fT h1;by_cases J7:i=q
    ·subst J7;rw[hq]at h4;cases h4;rw[Bg]at h3;cases h3;rw[hS]at h2;cases h2;exact XC
    ·obtain⟨v,h6,h7⟩:=hi.done i o s e h4 h2 ⟨kX i h5 J7,by omega⟩ h3;exact⟨v,by rw[GG e (fun he=>J7 (eD cC h4 hq h3 (by rw[Bg,he])))];exact h6,h7⟩)
   (fun t v h=>by simp[lk]at h) hE
  refine⟨m,ac,_,w,bj _,by omega,fun i h3 h4=>⟨fun h=>?_,fun h=>kX i h h4⟩,⟨iU,Sb,fun t v h=>?_⟩,h1,Cm.1,fun hD=>⟨Cm.2 hD,fun t u ht=>?_⟩⟩
  ·rcases cK i m with h5|h5
   ·exact h5
   ·exact absurd h (iK i h5 h3)
  ·rcases jJ h with h|h
   ·exact h2 t v h
   ·obtain⟨h3,h4⟩:=gP (f:=iZ l l.length) h
    have eG:∀(i:Nat) (o:Oper),l[i]? =some o→o.dst≠some t:=fun i o fQ he=>by
     simp only[iZ,eh]at h3;have:=h3 o (aM fQ);simp only[he,beq_self_eq_true,Bool.not_true,Bool.false_or,gD]at this;have h7:=cj cC i o fQ _ this;have h8:=(av.1 fQ).1;omega
    rw[GG t (fun e=>eG q oq hq (by rw[Bg,e]))];exact hi.base t v h4 fun i o fQ _=>eG i o fQ
  ·obtain⟨h3,h4⟩:=gP (f:=iZ l q) ht;refine hi.base t u h4 fun i o fQ xQ he=> ?_
   simp only[iZ,eh]at h3;have:=h3 o (aM fQ);simp only[he,beq_self_eq_true,Bool.not_true,Bool.false_or,gD]at this;exact hD (ku i o fQ xQ.1 q this)
 refine⟨fun D a w=>((∀i,m≤i→i<l.length→¬D i)∧Inv F S l wd L ds n (fun i=>D i∧i<l.length) a w)∨∃p ac Lp wq,TJ P r n l m q d c L K ds D a w p ac Lp wq,fun D D' a w hJ hD=>?_,fun Q D a w j o rest hj ho mO hp ku hJ hk=>?_,fun a w hJ=>?_,.inl ⟨fun i _ _ h=>h,?_⟩⟩
 ·rcases hJ with⟨h1,h2⟩|⟨p,ac,Lp,wq,h⟩
  ·refine .inl ⟨fun i h3 h4 h5=>h1 i h3 h4 ((hD i h4).1 h5),?_⟩;have:(fun i=>D' i∧i<l.length)=fun i=>D i∧i<l.length:=funext fun i=>propext ⟨fun⟨h3,h4⟩=>⟨(hD i h4).1 h3,h4⟩,fun⟨h3,h4⟩=>⟨(hD i h4).2 h3,h4⟩⟩
   rw[this];exact h2
  ·exact .inr ⟨p,ac,Lp,wq,h.p0,h.p1,fun i h3 h4=>(hD i h3).trans (h.dt i h3 h4),h.ag,h.tr,fun h3=>h.yes ((hD q (by omega)).1 h3),fun h3=>h.no fun h4=>h3 ((hD q (by omega)).2 h4)⟩
 ·rcases hJ with⟨h1,h2⟩|⟨p,ac,Lp,wq,h⟩
  ·rcases cK j m with xR|xR
   ·have hg:=qE.take.get j o (by rw[dF,KE,if_pos xR];exact ho);rw[Nat.zero_add]at hg;refine h2.next cC qD lF hg ho (fun h=>mO h.1) (fun k rX=>⟨hp k rX,by have:=cj cC j o ho k rX;omega⟩) fun a' w' fB=>hk a' w' (.inl ⟨fun i h3 h4 h5=>?_,?_⟩)
    ·rcases h5 with h5|h5
     ·omega
     ·exact h1 i h3 h4 h5
    ·have:(fun i=>(i=j∨D i)∧i<l.length)=fun i=>i=j∨D i∧i<l.length:=funext fun i=>propext ⟨fun⟨h3,h4⟩=>h3.elim .inl fun h=> .inr ⟨h,h4⟩,fun h=>h.elim (fun h=>⟨.inl h,by omega⟩) fun h=>⟨.inr h.1,h.2⟩⟩
     rw[this];exact fB
   ·have XD:j=m:=by
     rcases cK m j with h|h
     ·have:=hp _ (iM rZ (j:=j) (by omega) ho);exact absurd this (h1 (j-1) (by omega) (by omega))
     ·omega
    subst XD;rw[ho]at D9;obtain⟨p,ac,Lp,wq,h⟩:=start D a w (fun i hi J7=>kz (D:=D) ku j (bZ o) D9 hp i hi (by simpa using J7)) h1 ku h2;exact h.next cC fu hq Bg MM IT fS ho mO hp fun a' w' h'=>hk a' w' (.inr h')
  ·exact h.next cC fu hq Bg MM IT fS ho mO hp fun a' w' h'=>hk a' w' (.inr h')
 ·rcases hJ with⟨h1,_⟩|⟨p,ac,Lp,wq,h⟩
  ·exact absurd Rc (h1 m (bj _) Rc)
  ·have yc:p=l.length:=by
    rcases cK p l.length with h3|h3
    ·have h4:=(h.dt p h3 (by have:=h.p0;omega)).1 h3;omega
    ·have:=h.p1;omega
   have uT:=h.tr;rw[yc,List.drop_length]at uT;exact⟨Lp,ds,by rw[h.yes (by show q<l.length;omega)];exact h.ag,uT⟩
 ·refine⟨(an M wd).cc (fun _ h=>h.elim) (fun b ⟨p,hp,_,hb⟩=>lF p hp b hb),fun i o s _ _ h=>h.1.elim,ha.size,ha.defers,fun i o s e _ _ h=>h.1.elim,fun t v h _=>ha.at_ t v h,fun i o _ h=>h.1.elim⟩
theorem T.Rf {id:Nat} {l l':List Oper} (π:List Nat) (m q d:Nat) (c:Value) {oq:Oper} (F:List (Nat×aA)) (S:List (b8 M)) (hm:P.follows .mixedOrders=true) (Ec:uU π l=l') (qH:dM l 0=true) (hπ:j0 π l.length=true) (KE:S.length=m) (pT:Nat.blt m l'.length=true) (cC:dM l' 0=true) (fu:pG l' m q d=true)
  (hq:l'[q]? =some oq) (Bg:oq.dst=some d) (MM:gF oq.op=true) (IT:oq.guard=none) (hS:S[q]? =some (b8.eq c)) (fS:∀(ρ:Operand→Value) w,(∀x u,ev (ik l' q L) x=some u→ρ x=u)→(execOp ρ oq).run P w= .ok (.value c) w)
  (lF:∀p∈F,∀b,p.2 b→M b) (hFq:∀p∈F,p.1≠q) (qD:xZ F l' S)
  (h:∀wD,(∀M,Step M w M wD aC)→bD P r n F wD l' S ds L l' S 0∧∀w',Step M wD M w' (gB (F.map (·.2)))→fC w' (fun acc=>qG P r n l'.toArray aC w' K 0 (l'.drop m) (acc++ik l' l'.length L) ds w') l' S []):T P r n (.region id l.toArray true) L ds w K:=by
 subst Ec;exact gz.t hm qH fun wD hD=> .perm π hπ qH (.MN m q d c F S KE pT cC fu hq Bg MM IT hS fS lF hFq qD (h wD hD).1 (h wD hD).2)
theorem Bh {s:TypeId} {fs:Array Field} {fd:Field} {j size o o' b:Nat} {zv:Value} {bytes:Nat} {x:Operand} {dst:Option Tmp} {ty:TypeId} {pos:String} {af:Array Edge} {gd:Option (Nat×Bool)} (hu:P.underlying s=some (.struct fs)) (Oc:fs[j]? =some fd) (ho:o+fd.offset=o') (hi:TI P fd.type zv size bytes) (hs:size≠0)
  {ρ:Operand→Value} (hx:ρ x= .pointer (some ⟨b,o,none⟩)) (w:World):(execOp ρ {dst,op:= .fieldAddr s x j,type:=ty,pos,after:=af,guard:=gd}).run P w= .ok (.value (.pointer (some ⟨b,o',none⟩))) w:=by
 simp only[execOp,hx];simp[Instr.fieldAt,run_underlying hu,Oc,Instr.sureAddr,fieldPlace,hi.sizeOf,hs,←ho,Addr.add_mid]
end
end Go.K
namespace Go.K
open Go.Proofs
set_option maxRecDepth 10000
def kD:Int→List En→Int
 |last,[]=>last
 |_,e::L=>kD e.2 L
def zx:Int→List En→Bool
 |_,[]=>true
 |last,e::L=>decide (jH last e=0)&&zx e.2 L
theorem GH:∀{L:List En} {last:Int} {i:Nat} {e:En},zx last L=true→L[i]? =some e→jH (kD last (L.take i)) e=0∧kD last (L.take (i+1))=e.2
 |[],_,_,_,_,h=>by simp at h
 |x::L,last,0,e,h,hi=>by
  simp only[zx,bC,decide_eq_true_eq]at h;simp at hi;subst hi;exact⟨by simpa[kD]using h.1,by simp[kD]⟩
 |x::L,last,i+1,e,h,hi=>by
  simp only[zx,bC,decide_eq_true_eq]at h;have:=GH h.2 (by simpa using hi);simpa[kD]using this
theorem vN {last:Int} {e:En} (h:jH last e=0):iB e.1∧last<e.2:=by
 unfold jH at h
 split at h
 ·rename_i h1;exact absurd h h1
 ·rename_i h1
  split at h
  ·cases h
  ·exact⟨B9 (by simpa using h1),by omega⟩
theorem ny:∀{L:List En} {last:Int},zx last L=true→∀e∈L,iB e.1
 |[],_,_,e,h=>by cases h
 |x::L,last,h,e,he=>by
  simp only[zx,bC,decide_eq_true_eq]at h;rcases dx.1 he with rfl|he
  ·exact(vN h.1).1
  ·exact ny h.2 e he
theorem vP:∀{L:List En} {last:Int},zx last L=true→eA last (L.map (·.2))=true
 |[],_,_=>rfl
 |x::L,last,h=>by
  simp only[zx,bC,decide_eq_true_eq]at h;simp only[ib,eA,bC,decide_eq_true_eq];exact⟨(vN h.1).2,vP h.2⟩
def iw (L:List En):Pa:=(L.map (·.1.1),L.map (·.2),keysOf L,(keysOf L).map (pk L))
theorem Dj {x:List Po} (h:x≠[]):∃p∈x,zt x=p.1:=by
 unfold zt
 cases hl:x.getLast? with
 |none=>exact absurd (List.getLast?_eq_none_iff.1 hl) h
 |some p=>exact⟨p,List.mem_of_getLast? hl,rfl⟩
theorem MO {L:List En} (h:zx (-1) L=true) (hn:L.length≤1000000):tV (iw L)=true:=by
 have hF:=ny h;have h1:(keysOf L).map (pk L)=(iw L).2.2.2:=rfl;unfold tV;have e1:decide ((iw L).1.length=(iw L).2.1.length)=true:=by simp[iw]
 have e2:eA (-1) (iw L).2.1=true:=vP h;have e3:decide ((iw L).2.2.1.length=(iw L).2.2.2.length)=true:=by simp[iw]
 have e4:zj none (iw L).2.2.1=true:=Mm (jG L)
 have e5:(iw L).2.2.2.all (fun x=> !kQ ((iw L).1.length:Int) x)=true:=by
  refine eh.2 fun x hx=> ?_
  rw[←h1]at hx;obtain⟨k,hk,rfl⟩:=cF.1 hx;have eG:pk L k≠[]:=FH 0 (kc.1 hk)
  have XE:(pk L k).isEmpty=false:=by
   cases h:pk L k with
   |nil=>exact absurd h eG
   |cons a b=>rfl
  have pE:dP (-1) (pk L k)=true:=rD k L 0 (-1) hF (by omega) (by omega);obtain⟨p,hp,hl⟩:=Dj eG;have:=(qm k L 0 hF).2 p hp;have hlen:((iw L).1.length:Int)=L.length:=by simp[iw]
  simp only[kQ,pE,XE,hlen,hl];rw[decide_eq_false (by omega)];rfl
 rw[e1,e2,e3,e4,e5];rfl
theorem IU {L:List En} (hF:∀e∈L,iB e.1) (hn:L.length≤1000000) (k:List UInt8):Room (pk L k):=by
 have h1:=qm k L 0 hF;have pE:dP (-1) (pk L k)=true:=rD k L 0 (-1) hF (by omega) (by omega);have ri:∀p∈pk L k,p.2.length≤500:=fun p hp=>(h1.2 p hp).2.2
 obtain⟨h2,h3⟩:=qn (pk L k) (-1) 500 (by omega) pE ri (by omega);have hl:(pk L k).length≤L.length:=h1.1;exact⟨fun p hp=>by have:=ri p hp;omega,by omega,by omega,by omega⟩
theorem IV {L:List En} (hF:∀e∈L,iB e.1) (hn:L.length≤1000000):Gz (iw L):=by
 have hk:(keysOf L).length≤500000000:=by
  have h1:=(jG L).nodup.length_le_of_subset (l₂:=gA L) (fun x hx=>kc.1 hx);have:=qo hF;omega
 refine⟨by simp[iw];omega,by simp[iw];omega,by simp only[iw];omega,by simp[iw];omega,fun x hx=>?_⟩;obtain⟨k,_,rfl⟩:=cF.1 hx;exact IU hF hn k
theorem MP {M:aA} {w:World} {e:En} {v:Value} (h:RT.en.V M w e v):(-9223372036854775808≤e.1.1∧e.1.1≤9223372036854775807)∧ -9223372036854775808≤e.2∧e.2≤9223372036854775807:=by
 obtain⟨vs,⟨va,vb,_,⟨vc,vd,_,⟨_,h1⟩,_⟩,⟨_,h2⟩⟩,_⟩:=h;exact⟨h1,h2⟩
def ZP (B b:Nat) (vi vs:Value):aA:=fun k=>B≤k∧k≠b∧vi.ownBlock≠some k∧vs.ownBlock≠some k
theorem Own.J8 {κ:IntKind} {e:TypeId} {M M' N:aA} {w w':World} {base:Nat} {v:Value} {xs:List Int} (h:Own (RT.int κ) e (nL v) w base v xs) (s:Step M w M' w' N) (hn:∀c,v.ownBlock=some c→¬N c):Own (RT.int κ) e (nL v) w' base v xs:=
 ((h.HO (M':=allM) (fun _ _=>trivial)).OL s.all hn).lone
theorem Step.XF {M M' N:aA} {w w':World} (s:Step M w M' w' N) {v:Value} (hv:∀b,v.ownBlock=some b→b<w'.heap.size∧(w.heap.size≤b∨M' b)):Step M w (jm M' v) w' N:=
 ⟨fun h k hk=>hk.elim (fun h1=>(hv k h1).1) (fun h1=>s.lt h k h1),s.os,s.tape,s.output,s.size,fun k hk=>⟨fun h=>by
  rcases h with h|h
  ·rcases(hv k h).2 with h1|h1
   ·omega
   ·exact(s.mem k hk).1 h1
  ·exact(s.mem k hk).1 h,fun h=> .inr ((s.mem k hk).2 h)⟩,s.same,s.sub⟩
end Go.K
namespace Go.K
open Go.Proofs
namespace TKSegA
theorem XG:Enters Tryz.prog 120:=enters Tryz.func120 rfl (by decide)
end TKSegA
open TKSegA
set_option maxRecDepth 10000
def vQ (xs:List Int) (i:Int):Int:=if 0≤i∧i<xs.length then xs.getD i.toNat 0 else-1
theorem IW {M:aA} {xs:List Int} {v0:Value} {i:Int} (w0:World) (hv:((RT.int .i64).sl).V M w0 xs v0):
  Spec Tryz.prog 120 #[v0,.int .i64 i] w0 (fun v w=>v= .int .i64 (vQ xs i)∧w=w0):=by
 have hlen:=dV hv;refine aX (args:=[_,_]) (fn:=Tryz.f120) Tryz.func120 rfl (n:=17) Tryz.ntmps120 (aj (ah (ai rfl rfl (ad (aj (aj (ah (ae rfl rfl (cf rfl rfl rfl (ae rfl rfl ?_))))))))));refine aG (g:=7) rfl (fun fF=>?_) (fun fF=>?_)
 ·refine ao rfl rfl rfl rfl (ao rfl rfl rfl rfl (ao rfl rfl rfl rfl (ao rfl rfl rfl rfl (aQ rfl rfl rfl (ad (lC rfl (aj (ah (ai rfl rfl (ad (aJ ?_)))))))))));have e:vQ xs i= -1:=by unfold vQ;rw[if_neg (by omega)]
  exact aO rfl rfl ⟨by rw[e],rfl⟩
 ·refine al rfl rfl (ae rfl rfl (al rfl rfl (ae rfl rfl (al rfl rfl (bU au rfl hv rfl (al rfl rfl (dr rfl rfl rfl (ax rfl rfl rfl (ad ?_)))))))));refine bI rfl (fun c1=>?_) (fun c1=>?_)
  ·refine aj (ah (ai rfl rfl (ad (aJ ?_))));have e:vQ xs i= -1:=by unfold vQ;rw[if_neg (by omega)]
   exact aO rfl rfl ⟨by rw[e],rfl⟩
  ·refine aU (aj (ah (ae rfl rfl (ae rfl rfl ?_))));refine dq (M:=M) au I3 rfl rfl rfl hv (aq _ _) (by omega) (fun u x hg hu=>?_);refine cb (M:=M) ar rfl rfl hu (aq _ _) (fun ly=>?_);refine ai rfl rfl (ad (aJ ?_));have e:vQ xs i=x:=by unfold vQ;rw[if_pos (by omega),bH,hg];rfl
   exact aO rfl rfl ⟨by rw[e],rfl⟩
theorem vR {M:aA} {s:Se} {v0:Value} (w0:World) (hs:ch RT.se M w0 v0 s):
  Spec Tryz.prog 67 #[v0] w0 (fun v w=>v= .int .i64 (s.1.length:Int)∧w=w0):=by
 refine aX (args:=[_]) (fn:=Tryz.f67) Tryz.func67 rfl (n:=8) Tryz.ntmps67 (aj (ah (ai rfl rfl (ad (aj (ah (ae rfl rfl (aR rfl hs.jb rfl ?_))))))));refine aH (M:=M) (A:=RT.se) (B:=(RT.int .i64).sl) Tryz.underlying125 rfl rfl nM (by decide) se0 rfl rfl (by decide) hs (aq _ _) (fun Ix tv=>?_);refine cg (M:=M) au rfl rfl rfl rfl rfl tv (aq _ _) (fun IX qZ=>?_);replace qZ:((RT.int .i64).sl).V M _ s.1 IX:=qZ;refine bU au rfl qZ rfl (ai rfl rfl (ad (aJ ?_)));exact aO rfl rfl ⟨rfl,rfl⟩
theorem vS {M:aA} {s:Se} {i:Int} {v0:Value} (w0:World) (hs:ch RT.se M w0 v0 s):
  Spec Tryz.prog 70 #[v0,.int .i64 i] w0 (fun v w=>v= .int .i64 (vQ s.2.1 i)∧w=w0):=by
 refine aX (args:=[_,_]) (fn:=Tryz.f70) Tryz.func70 rfl (n:=11) Tryz.ntmps70 (aj (ah (ai rfl rfl (ad (aj (ah (ae rfl rfl (aR rfl hs.jb rfl ?_))))))));refine aH (M:=M) (A:=RT.se) (B:=(RT.int .i64).sl) Tryz.underlying125 rfl rfl nM (by decide) se1 rfl rfl (by decide) hs (aq _ _) (fun Ix tv=>?_);refine cg (M:=M) au rfl rfl rfl rfl rfl tv (aq _ _) (fun IX qZ=>?_);replace qZ:((RT.int .i64).sl).V M _ s.2.1 IX:=qZ;refine ae rfl rfl ?_;refine aP rfl rfl XG (IW _ qZ) (fun r wc hc=>?_);obtain⟨rfl,rfl⟩:=hc;refine ai rfl rfl (ad (aJ ?_));exact aO rfl rfl ⟨rfl,rfl⟩
theorem tF {α:Type} {p:α→Bool}:∀{xs:List α} {i:Nat},i≤xs.length→(∀(k:Nat) x,k<i→xs[k]? =some x→p x=true)→(∀(k:Nat) x,i≤k→xs[k]? =some x→p x=false)→xs.countP p=i
 |[],i,hi,_,_=>by simp at hi;simp[hi]
 |x::xs,0,_,_,h2=>by
  rw[List.countP_eq_zero.2];intro a ha;obtain⟨k,hk⟩:=bO.1 ha;simp[h2 k a (bG _) hk]
 |x::xs,i+1,hi,h1,h2=>by
  rw[List.countP_cons_of_pos (h1 0 x (by omega) rfl),tF (by simpa using hi) (fun k y hk hy=>h1 (k+1) y (by omega) (by simpa using hy)) (fun k y hk hy=>h2 (k+1) y (by omega) (by simpa using hy))]
end Go.K
namespace Go.K
open Go.Proofs
namespace TKSegB
theorem Bb:TI Tryz.prog 188 (.slice none 0 0) 1 24:=by unfold TI;kernel_rfl
theorem XH:Enters Tryz.prog 123:=enters Tryz.func123 rfl (by decide)
theorem XI:Enters Tryz.prog 169:=enters Tryz.func169 rfl (by decide)
theorem XJ:Enters Tryz.prog 170:=enters Tryz.func170 rfl (by decide)
end TKSegB
open TKSegB
set_option maxRecDepth 10000
def DN (ns:List (List UInt8)) (k:List UInt8):Nat:=ns.countP fun x=>decide (x<k)
theorem Rh {ns:List (List UInt8)} (h:xp ns) {i j:Nat} {x y:List UInt8} (gq:i≤j) (hx:ns[i]? =some x) (hy:ns[j]? =some y): ¬y<x:=by
 rcases jj gq with rfl|h1
 ·rw[hx]at hy;cases hy;exact iu x
 ·exact iv (fH h hx hy h1)
theorem xB {ns:List (List UInt8)} (h:xp ns) {k:List UInt8}:(k∈ns→ns[DN ns k]? =some k)∧∀x,ns[DN ns k]? =some x→¬x<k:=by
 have key:∀{ns:List (List UInt8)},xp ns→(k∈ns→ns[DN ns k]? =some k)∧∀x,ns[DN ns k]? =some x→¬x<k:=by
  intro ns
  induction ns with
  |nil=>exact fun _=>⟨(fun h=>by cases h),fun x h=>by simp at h⟩
  |cons y ns ih=>
   intro h;have h':=jk.1 h;by_cases hy:y<k
   ·have e:DN (y::ns) k=DN ns k+1:=by unfold DN;rw[List.countP_cons_of_pos (by simpa using hy)]
    rw[e];simp only[List.getElem?_cons_succ];refine⟨fun hk=>(ih h'.2).1 ?_,(ih h'.2).2⟩;rcases dx.1 hk with rfl|hk
    ·exact absurd hy (iu _)
    ·exact hk
   ·have kX:∀x∈ns,¬x<k:=fun x hx dB=>hy (lr (h'.1 x hx) dB)
    have e:DN (y::ns) k=0:=by
     unfold DN;rw[List.countP_eq_zero];intro a ha;rcases dx.1 ha with rfl|ha
     ·simpa using hy
     ·simpa using kX a ha
    rw[e];refine⟨fun hk=>?_,fun x hx=>by simp at hx;subst hx;exact hy⟩;rcases dx.1 hk with rfl|hk
    ·rfl
    ·exact absurd (h'.1 k hk) hy
 exact key h
def XK (ns:List (List UInt8)) (k:List UInt8) (i:Nat):Bool:=match ns[i]? with|some x=> !decide (x<k)|none=>true
theorem tG {ns:List (List UInt8)} {k x:List UInt8} {i:Nat} (h:ns[i]? =some x):XK ns k i= !decide (x<k):=by unfold XK;rw[h]
theorem GI {ns:List (List UInt8)} (h:xp ns) {k:List UInt8}:ns[DN ns k]? =some k↔k∈ns:=⟨fun h=>aM h,(xB h).1⟩
theorem Bi {M:aA} {n:Nat} {g:FuncId} {cap:List Value} {good:Nat→Bool} (w0:World) (hg:Enters Tryz.prog g) (J9:∀i j,i≤j→j<n→good i=true→good j=true) (hn:n≤4611686018427387904) (ht:∀(i:Nat) w,i<n→Step M w0 M w aC→Spec Tryz.prog g ([.int .i64 (i:Int)]++cap:List Value).toArray w (fun v w'=>v= .bool (good i)∧Step M w M w' aC)):
  Spec Tryz.prog 169 #[.int .i64 (n:Int),.func (.func g) #[] cap.toArray] w0 (fun v w=>∃m:Nat,v= .int .i64 (m:Int)∧m≤n∧(∀i,i<m→good i=false)∧(∀i,m≤i→i<n→good i=true)∧Step M w0 M w aC):=by
 refine aX (args:=[_,_]) (fn:=Tryz.f169) Tryz.func169 rfl (n:=23) Tryz.ntmps169 (aj (ah (ai rfl rfl (ad (aj (ah (ai rfl rfl (ad (aj (a8 ?_))))))))));refine dC (σ:=Nat×Nat) (fun q=>[(0,.int .i64 (q.2:Int)),(1,.func (.func g) #[] cap.toArray),(5,.int .i64 (q.1:Int))]) (fun q w=>Step M w0 M w aC∧q.1≤q.2∧q.2≤n∧(∀i,i<q.1→good i=false)∧(∀i,q.2≤i→i<n→good i=true)) (fun q=>q.2-q.1) (0,n) (.cons rfl (.cons rfl (.cons rfl .nil))) ?_ ?_
 ·exact⟨an _ _,bG _,bj _,fun i h=>absurd h (jz _),fun i h h'=>by omega⟩
 ·rintro⟨i,j⟩ w ⟨S,gq,hj,h1,h2⟩;dsimp only at gq hj h1 h2 ⊢;refine aj (aj (ah (ae rfl rfl (ae rfl rfl (cf rfl rfl rfl (ad ?_))))));refine bI rfl (fun c2=>?_) (fun c2=>?_)
  ·refine aU (a8 (aj (ah (ae rfl rfl (ae rfl rfl (ae rfl rfl (fX rfl rfl rfl (by omega) (Rg.rN rfl rfl rfl (by omega) (bA rfl rfl rfl (by omega) (bu (v':= .int .i64 ((i+(j-i)/2:Nat):Int)) (congrArg _ (by omega)) (ai rfl rfl ?_)))))))))));refine ad (aj (ah (ae rfl rfl (ae rfl rfl ?_))));refine Rg.nT (first:=[]) (captured:=cap) (xs:=[.tmp 17]) rfl rfl rfl hg (vs:=[.int .i64 ((i+(j-i)/2:Nat):Int)]) (ht (i+(j-i)/2) _ (by omega) S) (fun r4 w4 hc=>?_);obtain⟨rfl,s4⟩:=hc;refine bu (v':= .bool (decide (good (i+(j-i)/2)=true))) (by simp) ?_;replace S:=S.ay s4;refine ad ?_;refine bI rfl (fun c4=>?_) (fun c4=>?_)
   ·refine ah (ae rfl rfl (ai rfl rfl (ad ?_)));refine⟨rfl,(i,i+(j-i)/2),(.cons rfl (.cons rfl (.cons rfl .nil))),?_,?_⟩
    ·exact⟨S,by dsimp only;omega,by dsimp only;omega,h1,fun k hk Wk=>J9 _ _ hk Wk c4⟩
    ·dsimp only;omega
   ·refine ah (ae rfl rfl (bA rfl rfl rfl (by omega) (ai rfl rfl (ad ?_))));refine⟨rfl,(i+(j-i)/2+1,j),(.cons rfl (.cons rfl (.cons rfl .nil))),?_,?_⟩
    ·exact⟨S,by dsimp only;omega,hj,fun k hk=>by
      cases h:good k with
      |false=>rfl
      |true=>exact absurd (J9 k (i+(j-i)/2) (by dsimp only at hk;omega) (by omega) h) c4,h2⟩
    ·dsimp only;omega
  ·refine cM (aj (ah (ae rfl rfl (ai rfl rfl (ad (aJ ?_))))));have e:i=j:=by omega
   subst e;exact aO rfl rfl ⟨i,rfl,hj,h1,h2,S⟩
theorem zy {M:aA} {d:Di} {v0:Value} {i bd bk:Nat} {k x:List UInt8} (w0:World) (hd:ch RT.di M w0 v0 d) (gd:w0.heap[bd]? =some (.cells #[v0] 123 (0,0))) (gk:w0.heap[bk]? =some (.cells #[sv k] 9 (0,0))) (hx:d.1[i]? =some x):
  Spec Tryz.prog 170 #[.int .i64 (i:Int),.pointer (some ⟨bd,0,none⟩),.pointer (some ⟨bk,0,none⟩)] w0 (fun v w=>v= .bool (!decide (x<k))∧Step M w0 M w aC):=by
 have hM:True:=trivial;refine aX (args:=[_,_,_]) (fn:=Tryz.f170) Tryz.func170 rfl (n:=14) Tryz.ntmps170 (aj (ah (ai rfl rfl (ad (aj ?_)))));apply T.kJ mixed rfl rfl;intro DH EI;have jg:=EI M;replace gd:=jg.aI gd;replace gk:=jg.aI gk;replace hd:=hd.le (by decide) jg.le;refine aE Tryz.underlying123 rfl rfl rfl gd rfl (bu (v':=v0) rfl ?_);refine ad ⟨rfl,rfl,rfl,?_⟩;refine aR rfl hd.jb rfl ?_;refine ad ⟨rfl,rfl,rfl,?_⟩;refine aH (M:=M) (A:=RT.di) (B:=RT.str.sl) Tryz.underlying190 rfl rfl Hj (by decide) SA rfl rfl (by decide) hd (aq _ _) (fun pn Ri=>?_);refine ad ⟨rfl,rfl,rfl,?_⟩;refine cg (M:=M) bg rfl rfl rfl rfl rfl Ri (aq _ _) (fun vn rC=>?_);replace rC:(RT.str.sl).V M _ d.1 vn:=rC;refine ad ⟨rfl,rfl,rfl,?_⟩;refine ae rfl rfl ?_;refine ad ⟨rfl,rfl,rfl,?_⟩;have my:=(av.1 hx).1;refine dq (M:=M) bg I9 rfl rfl rfl rC (aq _ _) (by omega) (fun u a hg hu=>?_);obtain rfl:x=a:=bM (hx.symm.trans (by simpa using hg));refine ad ⟨rfl,rfl,rfl,?_⟩;refine cg (M:=M) aD rfl rfl rfl rfl rfl hu (aq _ _) (fun vx sV=>?_);obtain rfl:=fx sV;refine ad ⟨rfl,rfl,rfl,?_⟩;refine aE aD rfl rfl rfl gk rfl (bu (v':=sv k) rfl ?_);refine ad ⟨rfl,rfl,rfl,?_⟩;refine Rg.LU rfl rfl rfl ?_;refine ad ⟨rfl,rfl,rfl,?_⟩;refine ai rfl rfl ?_;refine ad ⟨rfl,rfl,rfl,?_⟩;refine fy (aJ ?_);exact aO rfl rfl ⟨by rw[decide_not],jg⟩
theorem Bj {M:aA} {d:Di} {v0:Value} {k:List UInt8} (w0:World) (hM:Lt M w0) (hd:ch RT.di M w0 v0 d) (xC:xp d.1):
  Spec Tryz.prog 123 #[v0,sv k] w0 (fun v w=>v= .tuple #[.int .i64 (DN d.1 k:Int),.bool (decide (k∈d.1))]∧Step M w0 M w aC):=by
 refine aX (args:=[_,_]) (fn:=Tryz.f123) Tryz.func123 rfl (n:=33) Tryz.ntmps123 ?_;have S:Step M w0 M w0 aC:=(an _ _).cc (fun _ h=>h.elim) (fun _ h=>h.elim);refine aj (ah ?_);refine oT M rfl rfl (fun xD IY XL XM l4 zz=>?_);replace l4:IY.heap[xD]? =some (.cells #[v0] 123 (0,0)):=by rw[qp hd]at l4;exact l4
 obtain⟨zA,tH⟩:∃M',M'=ins M xD:=⟨_,rfl⟩;rw[←tH]at zz;have nz:zA xD:=by rw[tH];exact .inl rfl
 replace hd:=hd.le (by decide) zz.le;replace hM:=zz.lt hM;have:=S.size;replace S:=S.ay zz;refine oT zA rfl rfl (fun lX AF LB LC eK kO=>?_);obtain⟨ed,j9⟩:∃M',M'=ins zA lX:=⟨_,rfl⟩;rw[←j9]at kO;have dS:ed lX:=by rw[j9];exact .inl rfl
 change AF.heap[lX]? =some (.cells #[sv k] _ _)at eK;have:=ak l4;replace nz:=(kO.mem _ this).2 nz;replace l4:=kO.aI l4;replace hd:=hd.le (by decide) kO.le;replace hM:=kO.lt hM;have:=S.size;replace S:=S.ay kO;refine ai rfl rfl (ai rfl rfl (ad (aj (ah (aE Tryz.underlying123 rfl rfl rfl l4 rfl (bu (v':=v0) rfl (aR rfl hd.jb rfl ?_)))))));refine aH (M:=ed) (A:=RT.di) (B:=RT.str.sl) Tryz.underlying190 rfl rfl Hj (by decide) SA rfl rfl (by decide) hd (aq _ _) (fun pn Ri=>?_);refine cg (M:=ed) bg rfl rfl rfl rfl rfl Ri (aq _ _) (fun vn rC=>?_);replace rC:(RT.str.sl).V ed _ d.1 vn:=rC;have NJ:=dV rC;refine bU bg rfl rC rfl (hY (xs:=[]) (ys:=[.tmp 2,.tmp 3]) rfl rfl rfl ?_)
 refine aP rfl rfl XI (Bi (M:=ed) (n:=d.1.length) (cap:=[.pointer (some ⟨xD,0,none⟩),.pointer (some ⟨lX,0,none⟩)]) (good:=XK d.1 k) _ XJ (fun i j gq hj h=>by
  have hi:=aL (show i<d.1.length by omega);have pZ:=aL hj;rw[tG hi]at h;rw[tG pZ];simp only[ox,decide_eq_false_iff_not]at h ⊢;intro dB;rcases kB d.1[i] d.1[j]with h1|h1|h1
  ·exact h (lr h1 dB)
  ·rw[h1]at h;exact h dB
  ·exact Rh xC gq hi pZ h1) (by omega) (fun i w hi s=>by
  have hx:=aL hi;rw[tG hx];exact zy w (hd.le (by decide) s.le) (s.aI l4) (s.aI eK) hx)) (fun r1 w1 hc=>?_)
 obtain⟨m,rfl,hm,Em,OG,s1⟩:=hc;have em:DN d.1 k=m:=tF hm (fun i x hi hx=>by have:=Em i hi;rw[tG hx]at this;simpa using this) (fun i x hi hx=>by have:=OG i hi (av.1 hx).1;rw[tG hx]at this;simpa using this);have:=ak l4;replace nz:=(s1.mem _ this).2 nz;replace l4:=s1.aI l4;have:=ak eK;replace dS:=(s1.mem _ this).2 dS;replace eK:=s1.aI eK;replace hd:=hd.le (by decide) s1.le;replace hM:=s1.lt hM;have:=S.size;replace S:=S.ay s1;refine ai rfl rfl (ad (aj ?_));apply T.kJ mixed rfl rfl;intro wD2 sA2;have Dk:=sA2 ed;have:=ak l4;replace nz:=(Dk.mem _ this).2 nz;replace l4:=Dk.aI l4;have:=ak eK;replace dS:=(Dk.mem _ this).2 dS;replace eK:=Dk.aI eK;replace hd:=hd.le (by decide) Dk.le;replace hM:=Dk.lt hM;have:=S.size;replace S:=S.ay Dk;refine ae rfl rfl ?_;refine ad ⟨rfl,rfl,rfl,?_⟩;refine ae rfl rfl ?_;refine ad ⟨rfl,rfl,rfl,?_⟩;refine aE Tryz.underlying123 rfl rfl rfl l4 rfl (bu (v':=v0) rfl ?_);refine ad ⟨rfl,rfl,rfl,?_⟩;refine aR rfl hd.jb rfl ?_;refine ad ⟨rfl,rfl,rfl,?_⟩;refine aH (M:=ed) (A:=RT.di) (B:=RT.str.sl) Tryz.underlying190 rfl rfl Hj (by decide) SA rfl rfl (by decide) hd (aq _ _) (fun pn2 XN=>?_);refine ad ⟨rfl,rfl,rfl,?_⟩;refine cg (M:=ed) bg rfl rfl rfl rfl rfl XN (aq _ _) (fun vn2 MQ=>?_);replace MQ:(RT.str.sl).V ed _ d.1 vn2:=MQ;refine ad ⟨rfl,rfl,rfl,?_⟩;refine bU bg rfl MQ rfl ?_;refine ad ⟨rfl,rfl,rfl,?_⟩;refine cf rfl rfl rfl ?_;refine ad ⟨rfl,rfl,rfl,?_⟩;refine ae rfl rfl ?_;refine ad ⟨rfl,rfl,rfl,?_⟩;refine aG (g:=22) rfl (fun XO=>?_) (fun XO=>?_)
 ·refine al rfl rfl (aE Tryz.underlying123 rfl rfl rfl l4 rfl (bu (v':=v0) rfl ?_));refine ad ⟨rfl,rfl,rfl,?_⟩;refine al rfl rfl (aR rfl hd.jb rfl ?_);refine ad ⟨rfl,rfl,rfl,?_⟩;refine al rfl rfl ?_;refine aH (M:=ed) (A:=RT.di) (B:=RT.str.sl) Tryz.underlying190 rfl rfl Hj (by decide) SA rfl rfl (by decide) hd (aq _ _) (fun pn3 XP=>?_);refine ad ⟨rfl,rfl,rfl,?_⟩;refine al rfl rfl ?_;refine cg (M:=ed) bg rfl rfl rfl rfl rfl XP (aq _ _) (fun vn3 MR=>?_);replace MR:(RT.str.sl).V ed _ d.1 vn3:=MR;refine ad ⟨rfl,rfl,rfl,?_⟩;refine al rfl rfl (ae rfl rfl ?_);refine ad ⟨rfl,rfl,rfl,?_⟩;refine al rfl rfl ?_;refine dq (M:=ed) bg I9 rfl rfl rfl MR (aq _ _) (by omega) (fun u2 x XQ rl=>?_);rw[az]at XQ;refine ad ⟨rfl,rfl,rfl,?_⟩;refine al rfl rfl ?_;refine cg (M:=ed) aD rfl rfl rfl rfl rfl rl (aq _ _) (fun vx sV=>?_);obtain rfl:=fx sV;refine ad ⟨rfl,rfl,rfl,?_⟩;refine al rfl rfl (aE aD rfl rfl rfl eK rfl (bu (v':=sv k) rfl ?_));refine ad ⟨rfl,rfl,rfl,?_⟩;refine al rfl rfl (Rg.BG rfl rfl rfl ?_);refine ad ⟨rfl,rfl,rfl,?_⟩;refine aQ rfl rfl rfl ?_;refine ad ⟨rfl,rfl,rfl,?_⟩;refine ai rfl rfl ?_;refine ad ⟨rfl,rfl,rfl,?_⟩;refine ai rfl rfl ?_;refine ad ⟨rfl,rfl,rfl,?_⟩;refine fy (aJ ?_);rw[←em]at*
  first
  |(have e:decide (x=k)=decide (k∈d.1):=decide_eq_decide.2 (by rw[←GI xC,XQ];simp)
    exact eH rfl rfl rfl ⟨by rw[e],S.back⟩)
  |(have e:k∉d.1:=fun h=>by have:=(xB xC).1 h;have:=(av.1 this).1;omega
    exact eH rfl rfl rfl ⟨by rw[decide_eq_false e],S.back⟩)
 ·refine ao rfl rfl rfl rfl ?_;refine ad ⟨rfl,rfl,rfl,?_⟩;refine ao rfl rfl rfl rfl ?_;refine ad ⟨rfl,rfl,rfl,?_⟩;refine ao rfl rfl rfl rfl ?_;refine ad ⟨rfl,rfl,rfl,?_⟩;refine ao rfl rfl rfl rfl ?_;refine ad ⟨rfl,rfl,rfl,?_⟩;refine ao rfl rfl rfl rfl ?_;refine ad ⟨rfl,rfl,rfl,?_⟩;refine ao rfl rfl rfl rfl ?_;refine ad ⟨rfl,rfl,rfl,?_⟩;refine ao rfl rfl rfl rfl ?_;refine ad ⟨rfl,rfl,rfl,?_⟩;refine ao rfl rfl rfl rfl ?_;refine ad ⟨rfl,rfl,rfl,?_⟩;refine ao rfl rfl rfl rfl ?_;refine ad ⟨rfl,rfl,rfl,?_⟩;refine ax rfl rfl rfl ?_;refine ad ⟨rfl,rfl,rfl,?_⟩;refine ai rfl rfl ?_;refine ad ⟨rfl,rfl,rfl,?_⟩;refine ai rfl rfl ?_;refine ad ⟨rfl,rfl,rfl,?_⟩;refine fy (aJ ?_);rw[←em]at*
  first
  |(have e:decide (x=k)=decide (k∈d.1):=decide_eq_decide.2 (by rw[←GI xC,XQ];simp)
    exact eH rfl rfl rfl ⟨by rw[e],S.back⟩)
  |(have e:k∉d.1:=fun h=>by have:=(xB xC).1 h;have:=(av.1 this).1;omega
    exact eH rfl rfl rfl ⟨by rw[decide_eq_false e],S.back⟩)
theorem find_spec {M:aA} {d:Di} {v0:Value} {k:List UInt8} (w0:World) (hM:Lt M w0) (hd:ch RT.di M w0 v0 d) (xC:xp d.1) (hl:d.1.length=d.2.length):
  Spec Tryz.prog 73 #[v0,sv k] w0 (fun v w=>Step M w0 M w aC∧((∃(j:Nat) (p:Value) (t:Li),v= .tuple #[p,.bool true]∧d.1[j]? =some k∧d.2[j]? =some t∧ch RT.li M w p t)∨(v= .tuple #[.pointer none,.bool false]∧k∉d.1))):=by
 refine aX (args:=[_,_]) (fn:=Tryz.f73) Tryz.func73 rfl (n:=25) Tryz.ntmps73 ?_;have S:Step M w0 M w0 aC:=(an _ _).cc (fun _ h=>h.elim) (fun _ h=>h.elim);refine aj (ah (ai rfl rfl (ai rfl rfl (ad (aj (ah (ae rfl rfl (ae rfl rfl ?_))))))));refine aP rfl rfl XH (Bj _ hM hd xC) (fun r1 w1 hc=>?_);obtain⟨rfl,s1⟩:=hc;replace hd:=hd.le (by decide) s1.le;replace hM:=s1.lt hM;have:=S.size;replace S:=S.ay s1;refine ae rfl rfl (bP rfl rfl rfl (bP rfl rfl rfl (ai rfl rfl (ai rfl rfl (ad (aj (aj (ah (ae rfl rfl (Rg.not rfl rfl (bu (v':= .bool (decide (k∉d.1))) (by simp) ?_)))))))))));refine ad ?_;refine bI rfl (fun c2=>?_) (fun c2=>?_)
 ·refine aj (ah (ai rfl rfl (ad (aj (ah (ae rfl rfl (ai rfl rfl (ai rfl rfl (ad (aJ ?_))))))))));exact eH rfl rfl rfl ⟨S,.inr ⟨rfl,c2⟩⟩
 ·refine aU (aj (ah (ae rfl rfl (aR rfl hd.jb rfl ?_))));refine aH (M:=M) (A:=RT.di) (B:=((RT.li).ptr).sl) Tryz.underlying190 rfl rfl Bb (by decide) di1 rfl rfl (by decide) hd (aq _ _) (fun pt Tb=>?_);refine cg (M:=M) dN rfl rfl rfl rfl rfl Tb (aq _ _) (fun vt DO=>?_);replace DO:(((RT.li).ptr).sl).V M _ d.2 vt:=DO;refine ae rfl rfl ?_;have hk:=(xB xC).1 (dU.1 c2);have Cz:=(av.1 hk).1;refine dq (M:=M) dN oE rfl rfl rfl DO (aq _ _) (by omega) (fun u5 t CR Au=>?_);rw[az]at CR;refine cg (M:=M) cH rfl rfl rfl rfl rfl Au (aq _ _) (fun vp XR=>?_);have XS:=Cc.1 XR;refine ai rfl rfl (ai rfl rfl (ad (aJ ?_)));exact eH rfl rfl rfl ⟨S,.inl ⟨_,_,t,rfl,hk,CR,XS⟩⟩
end Go.K
namespace Go.K
open Go.Proofs
namespace TKSegC
theorem Bb:TI Tryz.prog 188 (.slice none 0 0) 1 24:=by unfold TI;kernel_rfl
end TKSegC
open TKSegC
set_option maxRecDepth 10000
end Go.K
namespace Go.K
open Go.Proofs
namespace TKSegD
theorem MS:TI Tryz.prog 123 (.pointer none) 1 8:=by unfold TI;kernel_rfl
end TKSegD
open TKSegD
set_option maxRecDepth 10000
end Go.K
namespace Go.K
open Go.Proofs
namespace TKSegE
theorem MS:TI Tryz.prog 123 (.pointer none) 1 8:=by unfold TI;kernel_rfl
theorem E73:Enters Tryz.prog 73:=enters Tryz.func73 rfl (by decide)
end TKSegE
open TKSegE
set_option maxRecDepth 10000
def lz (ns:List (List UInt8)) (ls:List (List Po)) (k:List UInt8):List Po:=match (ns.zip ls).find? (fun p=>decide (p.1=k))with|some p=>p.2|none=>[]
theorem GK {ns:List (List UInt8)} (hn:ns.Nodup) {ls:List (List Po)} {k:List UInt8} {j:Nat} {l:List Po} (h:ns[j]? =some k) (hl:ls[j]? =some l):lz ns ls k=l:=by
 have:∀{ns:List (List UInt8)} {ls:List (List Po)} {j:Nat},ns.Nodup→ns[j]? =some k→ls[j]? =some l→(ns.zip ls).find? (fun p=>decide (p.1=k))=some (k,l):=by
  intro ns
  induction ns with
  |nil=>intro ls j _ h;simp at h
  |cons x ns ih=>
   intro ls j hn h hl
   cases ls with
   |nil=>simp at hl
   |cons y ls=>
    cases j with
    |zero=>simp at h hl;subst h;subst hl;simp
    |succ j=>
     have JN:=rI.1 hn;have hk:k∈ns:=aM (by simpa using h);have hx:x≠k:=fun e=>JN.1 (by rw[e];exact hk)
     rw[List.zip_cons_cons,List.find?_cons_of_neg (by simpa using hx)];exact ih JN.2 (by simpa using h) (by simpa using hl)
 unfold lz;rw[this hn h hl]
theorem zB {ns:List (List UInt8)} {ls:List (List Po)} {k:List UInt8} (h:k∉ns):lz ns ls k=[]:=by
 unfold lz;rw[List.find?_eq_none.2 fun p hp=>by have:=List.of_mem_zip hp;simp;intro e;exact h (e▸this.1)]
theorem Bk {L:List En} (k:List UInt8):lz (keysOf L) ((keysOf L).map (pk L)) k=pk L k:=by
 by_cases h:k∈keysOf L
 ·obtain⟨j,hj⟩:=bO.1 h;exact GK (jG L).nodup hj (by rw[ew,hj];rfl)
 ·rw[zB h];exact(Cb 0 (fun h'=>h (kc.2 h'))).symm
def ra (d:Di) (k:List UInt8) (M:aA) (v:Value) (w:World):Prop:=(∃(j:Nat) (t:Li),d.1[j]? =some k∧d.2[j]? =some t∧ch RT.li M w v t)∨(v= .pointer none∧k∉d.1)
theorem ra.step {d:Di} {k:List UInt8} {M M':aA} {v:Value} {w w':World} (h:ra d k M v w) (s:Step M w M' w' aC):ra d k M' v w':=h.imp (fun⟨j,t,h1,h2,h3⟩=>⟨j,t,h1,h2,h3.le (by decide) s.le⟩) id
theorem Dl {M:aA} {t:Fd} (w0:World) (hM:Lt M w0) (h1:t.1.length≤140737488355328) (h2:t.2.length≤140737488355328):
  Spec Tryz.prog 74 #[kv t] w0 (fun v w=>v= .string ⟨(de t).toArray⟩∧Step M w0 M w aC):=by
 refine aX (args:=[_]) (fn:=Tryz.f74) Tryz.func74 rfl (n:=9) Tryz.ntmps74 ?_;have S:Step M w0 M w0 aC:=(an _ _).cc (fun _ h=>h.elim) (fun _ h=>h.elim);refine aj (ah ?_);refine kh (A:=RT.fd) rfl rfl hM (xi (by omega) (by omega)) rfl (fun u0 w1 cA s0 _=>?_);replace hM:=s0.lt hM;have:=S.size;replace S:=S.ay s0;refine ai rfl rfl (ad (aj (ah ?_)));refine aH (M:=M) (A:=RT.fd) (B:=RT.str) b9 rfl rfl I9 (by decide) (Lk) rfl rfl (by decide) (by assumption) (by repeat (first|exact aq _ _|refine aT (aY (by assumption)) ?_)) (fun uk jw=>?_);refine cg (M:=M) aD rfl rfl rfl rfl rfl jw (aq _ _) (fun v1 nZ=>?_);obtain rfl:=fx nZ;refine Rg.cat (p:=t.1) (q:=[0]) rfl rfl rfl (by simp;omega) ?_;refine aH (M:=M) (A:=RT.fd) (B:=RT.str) b9 rfl rfl I9 (by decide) (Sm) rfl rfl (by decide) (by assumption) (by repeat (first|exact aq _ _|refine aT (aY (by assumption)) ?_)) (fun EJ fA=>?_);refine cg (M:=M) aD rfl rfl rfl rfl rfl fA (aq _ _) (fun v4 qi=>?_);obtain rfl:=fx qi;refine Rg.cat (p:=t.1++[0]) (q:=t.2) rfl rfl rfl (by simp;omega) (ai rfl rfl (ad (aJ ?_)));exact aO rfl rfl ⟨rfl,S⟩
end Go.K
namespace Go.K
open Go.Proofs
namespace TKCursor
theorem MT:TI Tryz.prog 216 (.agg #[(.pointer none),(.int .i64 0),(.slice none 0 0),(.int .i64 0),(.int .i64 0)]) 5 56:=by unfold TI;kernel_rfl
theorem MU:placesOf Tryz.prog 216=[(0,1),(1,1),(2,1),(3,1),(4,1)].map some:=by kernel_rfl
end TKCursor
open TKCursor
set_option maxRecDepth 10000
theorem rb {l:List Po} {j:Nat} {p:Po} (h:l[j]? =some p):(jo l (j:Int))[0]? =some p:=by
 unfold jo;rw[if_neg (by omega),az,dF,if_pos (by omega),List.getElem?_drop];simpa using h
theorem Bm {l:List Po} {i:Int} (h:(l.length:Int)≤i):jo l i=[]:=by
 unfold jo;rw[if_neg (by omega),ei (by omega),List.take_nil]
theorem Dm {M:aA} {w0:World} {q:Addr} {l:List Po} (hv:ch RT.li M w0 (.pointer (some q)) (gK l)):
  Spec Tryz.prog 140 #[.pointer (some q)] w0 (fun v' w'=>∃bc,v'= .pointer (some ⟨bc,0,none⟩)∧w0.heap.size≤bc∧Step M w0 (ins M bc) w' aC∧Cu 216 l (-1) (ins M bc) w' bc):=by
 refine aX (args:=[_]) (fn:=Tryz.f140) Tryz.func140 rfl (n:=12) Tryz.ntmps140 (aj (ah (ai rfl rfl (ad (aj (aj (ah (ae rfl rfl (Rg.Ee (v:= .pointer (some q)) cH rfl ⟨_,rfl⟩ rfl rfl (bu (v':= .bool (decide False)) rfl (ad ?_)))))))))));refine T.zX rfl ((fun h=>h)) (aU (aj (ah (ae rfl rfl (dZ (places:=[(0,1),(1,1),(2,1),(3,1),(4,1)]) bB MT MU rfl ⟨_,_,rfl,rfl,_,_,rfl,rfl,_,_,rfl,rfl,rfl⟩ (out:=[_,_,.slice none 0 0,_,.int .i64 0]) ⟨0,[_],rfl,rfl,by simp[Value.cells],1,[_],rfl,rfl,by simp[Value.cells],3,[_],rfl,rfl,by simp[Value.cells],rfl⟩ ?_)))));refine oT M rfl rfl (fun bc w1 h1 Hh hS s1=>?_);refine ai rfl rfl (ad (aJ ?_));exact aO rfl rfl ⟨bc,rfl,h1,s1,.pointer (some q),.slice none 0 0,-1,0,.inl rfl,hS,hv.le (by decide) s1.le,jR,by omega,by omega,fun _=>rfl,fun h=>by omega⟩
def pH (l:List Po) (i:Int):Int:=if i<l.length then i+1 else i
theorem GL {l:List Po} (hm:dP (-1) l=true) {i:Int} (hi: -1≤i∧i≤l.length):qa l i (min (eB l i+1) 2147483648)=pH l i:=by
 unfold qa pH;rcases jd l i with⟨h0,h,_⟩|⟨j,d,ps,rfl,hx,h,_⟩|⟨h0,h,_⟩
 ·rw[h,if_neg (by omega),if_pos (by omega)];rw[idx_eq (i:=0) (fun j hj=>absurd hj (jz _)) (fun p hp=>by have:=lP hm (i:=0) (d:=p.1) (ps:=p.2) hp;omega) (bG _)];omega
 ·have hr:=lP hm hx;have hj:=(av.1 hx).1;rw[h,if_neg (by omega),if_pos (by omega)];rw[idx_eq (i:=j+1) (fun t ht p hp=>?_) (fun p hp=>?_) (by omega)]
  ·omega
  ·rcases cK t j with h1|h1
   ·have:=BP hm hp hx h1;simp only at this;omega
   ·rw[show t=j from by omega,hx]at hp;cases hp;simp only;omega
  ·have h1:=BP hm hx hp (by omega);have h2:=lP hm (i:=j+1) (d:=p.1) (ps:=p.2) hp;simp only at h1;omega
 ·rw[h,if_pos (by omega),if_neg (by omega)]
end Go.K
namespace Go.K
open Go.Proofs
namespace TKIdx
theorem XT:Enters Tryz.prog 186:=enters Tryz.func186 rfl (by decide)
end TKIdx
open TKIdx
set_option maxRecDepth 10000
theorem Dn {M:aA} {w0:World} {x:Value} {d to:Int} {bt:Nat} (hM:Lt M w0) (hb:w0.heap[bt]? =some (.cells #[.int .i64 to] 3 (0,0))):
  Spec Tryz.prog 186 #[.agg #[.int .i64 d,x],.pointer (some ⟨bt,0,none⟩)] w0 (fun v' w'=>v'= .bool (decide (to≤d))∧Step M w0 M w' aC):=by
 refine aX (args:=[_,_]) (fn:=Tryz.f186) Tryz.func186 rfl (n:=8) Tryz.ntmps186 (aj (ah ?_));refine oT M rfl rfl (fun bx w1 h1 Hh hS s1=>?_);change w1.heap[bx]? =some (.cells #[.int .i64 d,x] _ _)at hS;have o8:=s1.aI hb;refine ai rfl rfl (ad (aj (ah (aS bJ rfl rfl I3 (by decide) rfl rfl (aE ar rfl rfl rfl (by assumption) rfl (aE ar rfl rfl rfl (by assumption) rfl (dr rfl rfl rfl (ai rfl rfl (ad (aJ ?_))))))))));exact aO rfl rfl ⟨rfl,s1.back⟩
set_option maxHeartbeats 2000000 in
theorem pI {M:aA} {w0:World} {v:Value} {lf:List Po} {to:Int} {bt:Nat} (hM:Lt M w0) (hv:((RT.po).sl).V M w0 lf v) (hb:w0.heap[bt]? =some (.cells #[.int .i64 to] 3 (0,0))):
  Spec Tryz.prog 185 #[v,.func (.func 186) #[] #[.pointer (some ⟨bt,0,none⟩)]] w0 (fun v' w'=>v'= .int .i64 (if idx lf to<lf.length then(idx lf to:Int)else-1)∧Step M w0 M w' aC):=by
 have hlen:=dV hv;refine aX (args:=[_,_]) (fn:=Tryz.f185) Tryz.func185 rfl (n:=19) Tryz.ntmps185 (aj (ah (ai rfl rfl (ad (aj (aj (ah (ae rfl rfl (bU aW rfl hv rfl (ae rfl rfl (ad ?_)))))))))));refine a8 ?_;refine dC (σ:=Nat) (fun s=>[(0,v),(1,.func (.func 186) #[] #[.pointer (some ⟨bt,0,none⟩)]),(7,.int .i64 lf.length),(8,.int .i64 s)]) (fun s w=>s≤lf.length∧Step M w0 M w aC∧∀j,j<s→∀p,lf[j]? =some p→p.1<to) (fun s=>lf.length-s) 0 (.cons rfl (.cons rfl (.cons rfl (.cons rfl .nil)))) ?_ ?_
 ·exact⟨bG _,an _ _,fun j hj=>absurd hj (jz _)⟩
 ·rintro k w1 ⟨hk,S,dB⟩;refine aj (ah (cf rfl rfl rfl (ad (aj ?_))));refine bI rfl (fun c2=>?_) (fun c2=>?_)
  ·refine aU (aj (a8 (aj (ah (ae rfl rfl (ai rfl rfl (ad (aj (ah (ae rfl rfl (ae rfl rfl ?_)))))))))));refine ae rfl rfl ?_;obtain⟨⟨d,ps⟩,hx⟩:∃x,(lf)[k]? =some x:=⟨_,aL (by omega)⟩;refine dq (M:=M) aW gw rfl rfl rfl (hv.le S.le) (aq _ _) (by first|omega|decide) (fun O7 XU Rj aa0=>?_);obtain rfl:(d,ps)=XU:=eF (bM (Rj.symm.trans (by simpa using hx)));refine cx (M:=M) (A:=RT.po) bJ rfl gw (by decide) rfl rfl rfl (by assumption) (by repeat (first|exact aq _ _|refine aT (aY (by assumption)) ?_)) (fun aeX Rk=>?_);obtain⟨x4,rfl,_,_⟩:=KP Rk;refine Rg.nT (first:=[]) (captured:=[.pointer (some ⟨bt,0,none⟩)]) (xs:=[.tmp 15]) rfl rfl rfl XT (Dn (M:=M) (d:=d) (x:=x4) (S.lt hM) (S.aI hb)) (fun r w2 h2=>?_);obtain⟨rfl,s2⟩:=h2;refine ad ?_;refine bI rfl (fun c4=>?_) (fun c4=>?_)
   ·refine aj (ah (ae rfl rfl (ai rfl rfl (ad (aJ ?_)))));have he:idx lf to=k:=idx_eq dB (fun p hp=>by rw[hx]at hp;cases hp;exact c4) hk;exact aO rfl rfl ⟨by rw[he,if_pos (by omega)],S.ay s2⟩
   ·refine aU (ah (bA rfl rfl rfl (by omega) (ae rfl rfl (ad ?_))));refine⟨rfl,k+1,(.cons rfl (.cons rfl (.cons rfl (.cons rfl .nil)))),?_,?_⟩
    ·refine⟨by omega,S.ay s2,fun j hj p hp=>?_⟩;rcases cK j k with IZ|IZ
     ·exact dB j IZ p hp
     ·rw[show j=k from by omega,hx]at hp;cases hp;simp only;omega
    ·show _-(k+1)<_-k;omega
  ·refine cM (aj (ah (ai rfl rfl (ad (aJ ?_)))))
   have he:idx lf to=lf.length:=by
    obtain rfl:k=lf.length:=by omega
    exact idx_eq dB (fun p hp=>by simp at hp) (bj _)
   exact aO rfl rfl ⟨by rw[he,if_neg (by omega)],S⟩
end Go.K
namespace Go.K
open Go.Proofs
namespace TKAdv
theorem jI:TI Tryz.prog 107 (.slice none 0 0) 1 24:=by unfold TI;kernel_rfl
theorem XV:Enters Tryz.prog 141:=enters Tryz.func141 rfl (by decide)
theorem XW:Enters Tryz.prog 180:=enters Tryz.func180 rfl (by decide)
theorem I0:Enters Tryz.prog 183:=enters Tryz.func183 rfl (by decide)
theorem XX:Enters Tryz.prog 184:=enters Tryz.func184 rfl (by decide)
theorem Rl:Enters Tryz.prog 185:=enters Tryz.func185 rfl (by decide)
end TKAdv
open TKAdv
set_option maxRecDepth 10000
set_option maxHeartbeats 2000000 in
theorem xE {M:aA} {w0:World} {bc:Nat} {l:List Po} {i to:Int} (h:Cu 216 l i M w0 bc) (hM:Lt M w0) (hm:dP (-1) l=true) (ri:∀p∈l,p.2.length≤1099511627776) (zV:(dy (-1) l).length≤1099511627776) (Hz:l.length≤1099511627776) (OA: -9223372036854775808≤to∧to≤9223372036854775807):
  Spec Tryz.prog 141 #[.pointer (some ⟨bc,0,none⟩),.int .i64 to] w0 (fun v' w'=>v'= .int .i64 (eB l (qa l i to))∧Step M w0 M w' (fun b=>b=bc)∧Cu 216 l (qa l i to) M w' bc):=by
 obtain⟨p,u,k,DG,N4,hb,hp,hu,hi,hk,OH,pP⟩:=id h;have Hd:(gK l).2.1.length=(l.length+7)/8:=by simp[gK,mz]
 have xO:∀b:Nat,b=bc→M b:=fun b hb=>by rw[hb];exact N4
 have hdr:=u1 hm i;refine aX (args:=[_,_]) (fn:=Tryz.f141) Tryz.func141 rfl (n:=107) Tryz.ntmps141 (aj (ah ?_));refine oT M rfl rfl (fun bt w1 ht ht' hT s1=>?_);change w1.heap[bt]? =some (.cells #[.int .i64 to] _ _)at hT;have Dh:bt≠bc:=by have:=ak hb;omega
 have o8:=s1.aI hb;generalize rr:ins M bt=M1 at s1;have rq:=s1.lt hM;have J2:=hp.le (by decide) s1.le;have R9:=hu.le s1.le;have uF:=(s1.mem bc (ak hb)).2 N4;have hcM:∀b:Nat,b=bc→M1 b:=fun b h=>by rw[h];exact uF
 refine ai rfl rfl (ad (aj (aj ?_)));apply T.draw (M:=M1) mixed [b8.eq _,b8.eq _,b8.eq _,b8.eq _,b8.eq _,b8.eq _]
 ·rfl
 ·refine aK ?_ ?_
  ·intro wD E sD;refine aE ar rfl rfl rfl (bV sD (by assumption)) rfl ?_;exact ad ⟨rfl,rfl,_,rfl,rfl,an _ _⟩
  refine aK ?_ ?_
  ·intro wD E sD;refine ae rfl rfl ?_;exact ad ⟨rfl,rfl,_,rfl,rfl,an _ _⟩
  refine aK ?_ ?_
  ·intro wD E sD;refine aw (aR rfl ⟨_,rfl⟩ rfl ?_);exact ad ⟨rfl,rfl,_,rfl,rfl,an _ _⟩
  refine aK ?_ ?_
  ·intro wD E sD;refine aw (aS bB rfl rfl I3 (by decide) rfl rfl ?_);exact ad ⟨rfl,rfl,_,rfl,rfl,an _ _⟩
  refine aK ?_ ?_
  ·intro wD E sD;refine aw (aE ar rfl rfl rfl (bV sD (by assumption)) rfl ?_);exact ad ⟨rfl,rfl,_,rfl,rfl,an _ _⟩
  refine aK ?_ ?_
  ·intro wD E sD;refine aw (aw (eP rfl rfl rfl ?_));exact ad ⟨rfl,rfl,_,rfl,rfl,an _ _⟩
  exact bX.nil
 ·intro DH jg;refine aw (aw (aw (aw (aw (aw ?_)))));have xK:=jg.aI o8;refine bI rfl (fun c1=>?_) (fun c1=>?_)
  ·refine aj (ah (ae rfl rfl (aR rfl ⟨_,rfl⟩ rfl (aS bB rfl rfl I3 (by decide) rfl rfl (aE ar rfl rfl rfl (by assumption) rfl (ai rfl rfl (ad (aJ ?_))))))));have he:qa l i to=i:=by unfold qa;rw[if_pos c1]
   rw[he];have S:=s1.ay jg;exact aO rfl rfl ⟨rfl,S.back.cc (fun _ h=>h.elim) xO,h.step S.back (fun h=>h)⟩
  ·refine aU (aj (ah (ae rfl rfl (aR rfl ⟨_,rfl⟩ rfl (aS bB rfl rfl I3 (by decide) rfl rfl (aE ar rfl rfl rfl (by assumption) rfl (Rg.max2 rfl rfl rfl (ai rfl rfl (ad (aj (a8 ?_)))))))))));refine dC (σ:=Nat) (fun s=>[(0,.pointer (some ⟨bc,0,none⟩)),(3,.pointer (some ⟨bt,0,none⟩)),(5,.int .i64 s)]) (fun s w=>s≤(l.length+7)/8∧bW (-1) (l.take (8*s))<to∧Step M1 w1 M1 w aC) (fun s=>(l.length+7)/8-s) (max k 0).toNat (.cons rfl (.cons rfl (.cons (by rw[show(((max k 0).toNat:Nat):Int)=max k 0 from by omega];rfl) .nil))) ?_ ?_
   ·exact⟨by omega,CK hm hi hk OH pP (by omega),jg⟩
   ·rintro n w4 ⟨hn,Em,S4⟩;have IH:=S4.aI o8;have N5:=S4.aI hT;have DP:=J2.le (by decide) S4.le;refine aj (aj ?_);by_cases Rm:(n:Int)<(((l.length+7)/8:Nat):Int)
    ·apply T.draw (M:=M1) mixed [b8.eq _,b8.eq _,b8.eq _,b8.eq _,b8.eq _,b8.eq _,b8.eq _,b8.eq (.bool true),b8.eq _,b8.eq _,b8.eq _,b8.eq _,b8.eq _,b8.eq _,b8.eq _,b8.eq _,b8.eq _]
     ·rfl
     ·refine aK ?_ ?_
      ·intro wD E sD;refine ae rfl rfl ?_;exact ad ⟨rfl,rfl,_,rfl,rfl,an _ _⟩
      refine aK ?_ ?_
      ·intro wD E sD;refine ae rfl rfl ?_;exact ad ⟨rfl,rfl,_,rfl,rfl,an _ _⟩
      refine aK ?_ ?_
      ·intro wD E sD;refine aw (aR rfl ⟨_,rfl⟩ rfl ?_);exact ad ⟨rfl,rfl,_,rfl,rfl,an _ _⟩
      refine aK ?_ ?_
      ·intro wD E sD;refine aw (aS bB rfl rfl oE (by decide) rfl rfl ?_);exact ad ⟨rfl,rfl,_,rfl,rfl,an _ _⟩
      refine aK ?_ ?_
      ·intro wD E sD;refine aw (aE cH rfl rfl rfl (bV sD (by assumption)) rfl ?_);exact ad ⟨rfl,rfl,_,rfl,rfl,an _ _⟩
      refine aK ?_ ?_
      ·intro wD E sD;refine aw ?_;refine aP rfl rfl I0 (kC (M:=M1) (DP.le (by decide) sD.le)) (fun r wc h=>?_);obtain⟨rfl,rfl⟩:=h;exact ad ⟨rfl,rfl,_,rfl,congrArg (fun n:Nat=>Value.int .i64 n) Hd,an _ _⟩
      refine aK ?_ ?_
      ·intro wD E sD;refine aw (aw (cf rfl rfl rfl ?_));exact ad ⟨rfl,rfl,_,rfl,rfl,an _ _⟩
      refine aK ?_ ?_
      ·intro wD E sD;refine aw (aw (ae rfl rfl ?_));refine ad ⟨rfl,rfl,_,rfl,?_,an _ _⟩;exact congrArg Value.bool (decide_eq_true Rm)
      refine aK ?_ ?_
      ·intro wD E sD;refine aw (al rfl rfl (ae rfl rfl ?_));exact ad ⟨rfl,rfl,_,rfl,rfl,an _ _⟩
      refine aK ?_ ?_
      ·intro wD E sD;refine aw (aw (al rfl rfl (aR rfl ⟨_,rfl⟩ rfl ?_)));exact ad ⟨rfl,rfl,_,rfl,rfl,an _ _⟩
      refine aK ?_ ?_
      ·intro wD E sD;refine aw (aw (al rfl rfl (aS bB rfl rfl oE (by decide) rfl rfl ?_)));exact ad ⟨rfl,rfl,_,rfl,rfl,an _ _⟩
      refine aK ?_ ?_
      ·intro wD E sD;refine aw (aw (al rfl rfl (aE cH rfl rfl rfl (bV sD (by assumption)) rfl ?_)));exact ad ⟨rfl,rfl,_,rfl,rfl,an _ _⟩
      refine aK ?_ ?_
      ·intro wD E sD;refine aw (al rfl rfl (ae rfl rfl ?_));exact ad ⟨rfl,rfl,_,rfl,rfl,an _ _⟩
      refine aK ?_ ?_
      ·intro wD E sD;refine aw (aw (aw (aw (al rfl rfl ?_))));refine aP rfl rfl XX (Df (k:=n) (DP.le (by decide) sD.le)) (fun r wc h=>?_);obtain⟨rfl,rfl⟩:=h;exact ad ⟨rfl,rfl,_,rfl,rfl,an _ _⟩
      refine aK ?_ ?_
      ·intro wD E sD;refine aw (al rfl rfl (aE ar rfl rfl rfl (bV sD (by assumption)) rfl ?_));exact ad ⟨rfl,rfl,_,rfl,rfl,an _ _⟩
      refine aK ?_ ?_
      ·intro wD E sD;refine aw (aw (aw (al rfl rfl (cf rfl rfl rfl ?_))));exact ad ⟨rfl,rfl,_,rfl,rfl,an _ _⟩
      refine aK ?_ ?_
      ·intro wD E sD;refine aw (aw (aQ rfl rfl rfl ?_));exact ad ⟨rfl,rfl,_,rfl,rfl,an _ _⟩
      exact bX.nil
     ·intro ZK vJ;refine aw (aw (aw (aw (aw (aw (aw (aw (aw (aw (aw (aw ?_)))))))))));refine aw (aw (aw (aw (aw ?_))));replace S4:=S4.ay vJ;replace IH:=vJ.aI IH;replace N5:=vJ.aI N5;replace DP:=DP.le (by decide) vJ.le;have MF:=S4.lt rq;refine bI rfl (fun c4=>?_) (fun c4=>?_)
      ·refine aU (a8 (ah (ae rfl rfl (bA rfl rfl rfl (by omega) (ai rfl rfl (ad ?_))))));refine⟨rfl,n+1,(.cons rfl (.cons rfl (.cons rfl .nil))),?_,?_⟩
       ·have qF:=yk (g:=l) (k:=n) (by omega);refine⟨by omega,?_,S4⟩;rw[show 8*(n+1)=8*n+8 from by omega,←qF];exact c4
       ·show _-(n+1)<_-n;omega
      ·refine cM (aj (aj (ah (ae rfl rfl (ae rfl rfl (aR rfl ⟨_,rfl⟩ rfl (aS bB rfl rfl oE (by decide) rfl rfl (aE cH rfl rfl rfl (by assumption) rfl ?_))))))));refine aP rfl rfl I0 (kC (M:=M1) DP) (fun r wc h=>?_);obtain⟨rfl,rfl⟩:=h;refine bu (v':= .int .i64 (((l.length+7)/8:Nat):Int)) (congrArg (fun n:Nat=>Value.int .i64 n) Hd) (Rg.zY rfl rfl rfl (ad ?_));refine bI rfl (fun c6=>?_) (fun c6=>?_)
       ·exfalso;omega
       ·have hnk:n<(l.length+7)/8:=by omega
        have OG:to≤bW (-1) (l.take (8*n+8)):=by
         first
         |(exfalso;omega)
         |(have:=yk (g:=l) (k:=n) (by omega);omega)
        refine aU (aj (aj (ah (ae rfl rfl (ae rfl rfl (aR rfl ⟨_,rfl⟩ rfl (aS bB rfl rfl I3 (by decide) rfl rfl (aE ar rfl rfl rfl (by assumption) rfl (eV rfl rfl rfl (ad ?_))))))))));refine bI rfl (fun c9=>?_) (fun c9=>?_)
        ·refine aj (ah (ae rfl rfl (ae rfl rfl (ae rfl rfl (ae rfl rfl (aR rfl ⟨_,rfl⟩ rfl (aS bB rfl rfl oE (by decide) rfl rfl (aE cH rfl rfl rfl (by assumption) rfl (ae rfl rfl ?_)))))))));refine aP rfl rfl XW (A9 (M:=M1) (k:=n) MF DP hm ri zV) (fun Sq NM h=>?_);obtain⟨pq,Da⟩:=h;rw[if_pos (by unfold Ei;simp;omega),az]at Da;have XY:=pq.aI IH;refine aR rfl ⟨_,rfl⟩ rfl (aS bB rfl rfl I3 (by decide) rfl rfl ?_);refine bQ (M:=M1) I3 rfl rfl XY rfl rfl uF (fun W2 Rn xT=>?_);change W2.heap[bc]? =some (.cells #[p,.int .i64 n,u,.int .i64 (eB l i),.int .i64 DG] 216 (0,0))at Rn;refine aR rfl ⟨_,rfl⟩ rfl (aS bB rfl rfl jI (by decide) rfl rfl ?_);refine bQ (M:=M1) jI rfl rfl Rn rfl (j1 Da rfl rfl) uF (fun Hl I1 nP=>?_);change Hl.heap[bc]? =some (.cells #[p,.int .i64 n,Sq,.int .i64 (eB l i),.int .i64 DG] 216 (0,0))at I1;refine ad (ah (ae rfl rfl (aR rfl ⟨_,rfl⟩ rfl (aS bB rfl rfl I3 (by decide) rfl rfl (aE ar rfl rfl rfl (by assumption) rfl (Rg.wa rfl rfl rfl (aR rfl ⟨_,rfl⟩ rfl (aS bB rfl rfl I3 (by decide) rfl rfl ?_))))))));refine bQ (M:=M1) I3 rfl rfl I1 rfl rfl uF (fun Qo MV uB=>?_);change Qo.heap[bc]? =some (.cells #[p,.int .i64 n,Sq,.int .i64 (eB l i),.int .i64 (IntKind.i64.wrap (DG+1))] 216 (0,0))at MV;obtain⟨lf,uX,cX,s,wX,XZ,X0,Ro,KO,Kx,xM,X1,X2,hpX,X3,SX⟩:∃lf uX cX s wX,wX=Qo∧wX.heap[bc]? =some (.cells #[p,.int .i64 n,uX,.int .i64 (eB l i),.int .i64 cX] 216 (0,0))∧((RT.po).sl).V M1 wX lf uX∧lf=(l.drop s).take (8*n+8-s)∧8*n≤s∧s<8*n+8∧s<l.length∧bW (-1) (l.take s)<to∧ch RT.li M1 wX p (gK l)∧wX.heap[bt]? =some (.cells #[.int .i64 to] 3 (0,0))∧Step M1 w1 M1 wX (fun b=>b=bc):=⟨_,Sq,_,8*n,Qo,rfl,MV,((Da.le xT.le).le nP.le).le uB.le,by rw[show 8*n+8-8*n=8 from by omega],by omega,by omega,by omega,Em,(((DP.le (by decide) pq.le).le (by decide) xT.le).le (by decide) nP.le).le (by decide) uB.le,uB.bF (nP.bF (xT.bF (pq.aI N5) Dh) Dh) Dh,((((S4.cc (fun _ h=>h.elim) hcM).ay pq).trans xT (fun _ _ h=>h)).trans nP (fun _ _ h=>h)).trans uB (fun _ _ h=>h)⟩
         subst XZ;clear MV;refine ad (aj ?_);obtain⟨TE,Nz,X4,ha4,X5⟩:=vg hm Kx xM X1 X2 OG KO;have X6:=SX.lt rq;obtain⟨⟨d,ps⟩,hx⟩:∃x,l[idx l to]? =some x:=⟨_,aL X4⟩;have hh:=rb hx;have hhl:=(av.1 hh).1;apply T.BM (M:=M1) mixed [] [b8.eq _,b8.eq _,b8.eq _,b8.eq _,b8.eq uX,b8.eq _,b8.eq _,b8.eq _,b8.eq uX,b8.eq _,b8.eq _,b8.V ((RT.po).sl) (jo l (idx l to:Nat))] 12
         ·rfl
         ·rfl
         ·rfl
         ·rfl
         ·rfl
         ·exact fun p hp=>by cases hp
         ·exact rj.none
         ·refine aF ?_ ?_
          ·intro wD E sD;refine ae rfl rfl ?_;exact ad ⟨rfl,rfl,_,rfl,rfl,an _ _⟩
          refine aF ?_ ?_
          ·intro wD E sD;refine ae rfl rfl ?_;exact ad ⟨rfl,rfl,_,rfl,rfl,an _ _⟩
          refine aF ?_ ?_
          ·intro wD E sD;refine aw (aR rfl ⟨_,rfl⟩ rfl ?_);exact ad ⟨rfl,rfl,_,rfl,rfl,an _ _⟩
          refine aF ?_ ?_
          ·intro wD E sD;refine aw (aS bB rfl rfl jI (by decide) rfl rfl ?_);exact ad ⟨rfl,rfl,_,rfl,rfl,an _ _⟩
          refine aF ?_ ?_
          ·intro wD E sD;refine aw (aE aW rfl rfl rfl (bV sD (by assumption)) rfl ?_);exact ad ⟨rfl,rfl,_,rfl,rfl,an _ _⟩
          refine aF ?_ ?_
          ·intro wD E sD;refine ae rfl rfl ?_;exact ad ⟨rfl,rfl,_,rfl,rfl,an _ _⟩
          refine aF ?_ ?_
          ·intro wD E sD;refine aw (aR rfl ⟨_,rfl⟩ rfl ?_);exact ad ⟨rfl,rfl,_,rfl,rfl,an _ _⟩
          refine aF ?_ ?_
          ·intro wD E sD;refine aw (aS bB rfl rfl jI (by decide) rfl rfl ?_);exact ad ⟨rfl,rfl,_,rfl,rfl,an _ _⟩
          refine aF ?_ ?_
          ·intro wD E sD;refine aw (aE aW rfl rfl rfl (bV sD (by assumption)) rfl ?_);exact ad ⟨rfl,rfl,_,rfl,rfl,an _ _⟩
          refine aF ?_ ?_
          ·intro wD E sD;refine hY (xs:=[]) (ys:=[.tmp 3]) rfl rfl rfl ?_;exact ad ⟨rfl,rfl,_,rfl,rfl,an _ _⟩
          refine aF ?_ ?_
          ·intro wD E sD;refine aw (aw ?_);refine aP rfl rfl Rl (pI (M:=M1) (sD.lt X6) (Ro.le sD.le) (sD.aI X3)) (fun r wi h=>?_);obtain⟨rfl,s⟩:=h;refine bu (v':= .int .i64 ((idx lf to:Nat):Int)) (by rw[if_pos Nz]) ?_;exact ad ⟨rfl,rfl,_,rfl,rfl,s⟩
          refine aF ?_ ?_
          ·intro wD E sD;refine aw (aw ?_);refine Rg.we (A:=RT.po) (hn:=by decide) aW gw rfl rfl rfl (Ro.le sD.le) (by omega) (fun u hu=>?_);rw[az,X5]at hu;exact ad ⟨rfl,rfl,_,rfl,hu,an _ _⟩
          exact bD.nil
         ·intro Gt tD;refine aw (aw (aw (aw (aw (aw (aw (aw (aw (aw (aw ?_))))))))));intro l5 xF;have MW:=tD.aI X0;have jv:((RT.po).sl).V M1 Gt (jo l (idx l to:Nat)) l5:=xF;have X7:=SX.ay tD;refine aR rfl ⟨_,rfl⟩ rfl (aS bB rfl rfl jI (by decide) rfl rfl ?_);refine bQ (M:=M1) jI rfl rfl MW rfl (j1 jv rfl rfl) uF (fun PH GM xg=>?_);change PH.heap[bc]? =some (.cells #[p,.int .i64 n,l5,.int .i64 (eB l i),.int .i64 cX] 216 (0,0))at GM;replace jv:=jv.le xg.le;refine ad (aj (ah (ae rfl rfl (ae rfl rfl (aR rfl ⟨_,rfl⟩ rfl (aS bB rfl rfl jI (by decide) rfl rfl (aE aW rfl rfl rfl (by assumption) rfl ?_)))))));refine dq (M:=M1) aW gw rfl rfl rfl (jv) (aq _ _) (by first|omega|decide) (fun Rp GN Bn MX=>?_);obtain rfl:(d,ps)=GN:=eF (bM (Bn.symm.trans (by simpa using hh)));refine aH (M:=M1) (A:=RT.po) (B:=RT.int .i64) bJ rfl rfl I3 (by decide) (Hi) rfl rfl (by decide) (by assumption) (by repeat (first|exact aq _ _|refine aT (aY (by assumption)) ?_)) (fun JJ E1=>?_);refine cb (M:=M1) ar rfl rfl (by assumption) (by repeat (first|exact aq _ _|refine aT (aY (by assumption)) ?_)) (fun tI=>?_);refine bu (v':= .int .i64 (d)) rfl ?_;replace tI: -9223372036854775808≤(d:Int)∧d≤9223372036854775807:=tI;refine aR rfl ⟨_,rfl⟩ rfl (aS bB rfl rfl I3 (by decide) rfl rfl ?_);refine bQ (M:=M1) I3 rfl rfl GM rfl rfl uF (fun IL GO tU=>?_);change IL.heap[bc]? =some (.cells #[p,.int .i64 n,l5,.int .i64 d,.int .i64 cX] 216 (0,0))at GO;replace jv:=jv.le tU.le;refine ad (aj (ah (ae rfl rfl (aR rfl ⟨_,rfl⟩ rfl (aS bB rfl rfl I3 (by decide) rfl rfl (aE ar rfl rfl rfl (by assumption) rfl (ai rfl rfl (ad (aJ ?_)))))))))
          have he:qa l i to=(idx l to:Int):=by unfold qa;rw[if_neg c1]
          rw[he];have S7:=((s1.cc (fun _ h=>h.elim) xO).trans ((X7.trans xg (fun _ _ h=>h)).trans tU (fun _ _ h=>h)) (fun _ _ h=>h));exact aO rfl rfl ⟨by rw[gQ hx];rfl,S7.back,p,l5,n,cX,N4,by rw[gQ hx];exact GO,(hp.le (by decide) S7.back.le),jv.le (Le.close hM S7),by omega,by omega,fun h=>by omega,fun _ h=>by omega⟩
        ·have ae2:=(iN l (-1) hm (by decide) (8*n+8)).2
         obtain⟨R6,uL⟩:0≤i∧i<l.length:=by
          rcases jd l i with⟨h0,_⟩|⟨j,d,ps,rfl,hx,_⟩|⟨h0,h1,_⟩
          ·have:=OH h0;omega
          ·have:=(av.1 hx).1;omega
          ·omega
         have yb:=pP R6 uL;obtain⟨j,gq⟩:∃j:Nat,i=j:=⟨i.toNat,by omega⟩;obtain⟨⟨dj,pj⟩,hxj⟩:∃x,l[j]? =some x:=⟨_,aL (by omega)⟩;have hdj:=gQ hxj;rw[←gq]at hdj;have Ny:=(mV hm hxj).1;obtain rfl:(n:Int)=k:=by omega
         have xS:=R9.le S4.le;obtain⟨lf,uX,cX,s,wX,XZ,X0,Ro,KO,Kx,xM,X1,X2,hpX,X3,SX⟩:∃lf uX cX s wX,wX=_∧wX.heap[bc]? =some (.cells #[p,.int .i64 n,uX,.int .i64 (eB l i),.int .i64 cX] 216 (0,0))∧((RT.po).sl).V M1 wX lf uX∧lf=(l.drop s).take (8*n+8-s)∧8*n≤s∧s<8*n+8∧s<l.length∧bW (-1) (l.take s)<to∧ch RT.li M1 wX p (gK l)∧wX.heap[bt]? =some (.cells #[.int .i64 to] 3 (0,0))∧Step M1 w1 M1 wX (fun b=>b=bc):=⟨_,u,DG,j,_,rfl,IH,xS,by rw[gq];unfold jo;rw[if_neg (by omega),az,show 8*n+8-j=8-j%8 from by omega],by omega,by omega,by omega,by omega,DP,N5,S4.cc (fun _ h=>h.elim) hcM⟩;subst XZ;clear IH;refine aU (aj ?_);obtain⟨TE,Nz,X4,ha4,X5⟩:=vg hm Kx xM X1 X2 OG KO;have X6:=SX.lt rq;obtain⟨⟨d,ps⟩,hx⟩:∃x,l[idx l to]? =some x:=⟨_,aL X4⟩;have hh:=rb hx;have hhl:=(av.1 hh).1;apply T.BM (M:=M1) mixed [] [b8.eq _,b8.eq _,b8.eq _,b8.eq _,b8.eq uX,b8.eq _,b8.eq _,b8.eq _,b8.eq uX,b8.eq _,b8.eq _,b8.V ((RT.po).sl) (jo l (idx l to:Nat))] 12
         ·rfl
         ·rfl
         ·rfl
         ·rfl
         ·rfl
         ·exact fun p hp=>by cases hp
         ·exact rj.none
         ·refine aF ?_ ?_
          ·intro wD E sD;refine ae rfl rfl ?_;exact ad ⟨rfl,rfl,_,rfl,rfl,an _ _⟩
          refine aF ?_ ?_
          ·intro wD E sD;refine ae rfl rfl ?_;exact ad ⟨rfl,rfl,_,rfl,rfl,an _ _⟩
          refine aF ?_ ?_
          ·intro wD E sD;refine aw (aR rfl ⟨_,rfl⟩ rfl ?_);exact ad ⟨rfl,rfl,_,rfl,rfl,an _ _⟩
          refine aF ?_ ?_
          ·intro wD E sD;refine aw (aS bB rfl rfl jI (by decide) rfl rfl ?_);exact ad ⟨rfl,rfl,_,rfl,rfl,an _ _⟩
          refine aF ?_ ?_
          ·intro wD E sD;refine aw (aE aW rfl rfl rfl (bV sD (by assumption)) rfl ?_);exact ad ⟨rfl,rfl,_,rfl,rfl,an _ _⟩
          refine aF ?_ ?_
          ·intro wD E sD;refine ae rfl rfl ?_;exact ad ⟨rfl,rfl,_,rfl,rfl,an _ _⟩
          refine aF ?_ ?_
          ·intro wD E sD;refine aw (aR rfl ⟨_,rfl⟩ rfl ?_);exact ad ⟨rfl,rfl,_,rfl,rfl,an _ _⟩
          refine aF ?_ ?_
          ·intro wD E sD;refine aw (aS bB rfl rfl jI (by decide) rfl rfl ?_);exact ad ⟨rfl,rfl,_,rfl,rfl,an _ _⟩
          refine aF ?_ ?_
          ·intro wD E sD;refine aw (aE aW rfl rfl rfl (bV sD (by assumption)) rfl ?_);exact ad ⟨rfl,rfl,_,rfl,rfl,an _ _⟩
          refine aF ?_ ?_
          ·intro wD E sD;refine hY (xs:=[]) (ys:=[.tmp 3]) rfl rfl rfl ?_;exact ad ⟨rfl,rfl,_,rfl,rfl,an _ _⟩
          refine aF ?_ ?_
          ·intro wD E sD;refine aw (aw ?_);refine aP rfl rfl Rl (pI (M:=M1) (sD.lt X6) (Ro.le sD.le) (sD.aI X3)) (fun r wi h=>?_);obtain⟨rfl,s⟩:=h;refine bu (v':= .int .i64 ((idx lf to:Nat):Int)) (by rw[if_pos Nz]) ?_;exact ad ⟨rfl,rfl,_,rfl,rfl,s⟩
          refine aF ?_ ?_
          ·intro wD E sD;refine aw (aw ?_);refine Rg.we (A:=RT.po) (hn:=by decide) aW gw rfl rfl rfl (Ro.le sD.le) (by omega) (fun u hu=>?_);rw[az,X5]at hu;exact ad ⟨rfl,rfl,_,rfl,hu,an _ _⟩
          exact bD.nil
         ·intro Gt tD;refine aw (aw (aw (aw (aw (aw (aw (aw (aw (aw (aw ?_))))))))));intro l5 xF;have MW:=tD.aI X0;have jv:((RT.po).sl).V M1 Gt (jo l (idx l to:Nat)) l5:=xF;have X7:=SX.ay tD;refine aR rfl ⟨_,rfl⟩ rfl (aS bB rfl rfl jI (by decide) rfl rfl ?_);refine bQ (M:=M1) jI rfl rfl MW rfl (j1 jv rfl rfl) uF (fun PH GM xg=>?_);change PH.heap[bc]? =some (.cells #[p,.int .i64 n,l5,.int .i64 (eB l i),.int .i64 cX] 216 (0,0))at GM;replace jv:=jv.le xg.le;refine ad (aj (ah (ae rfl rfl (ae rfl rfl (aR rfl ⟨_,rfl⟩ rfl (aS bB rfl rfl jI (by decide) rfl rfl (aE aW rfl rfl rfl (by assumption) rfl ?_)))))));refine dq (M:=M1) aW gw rfl rfl rfl (jv) (aq _ _) (by first|omega|decide) (fun Rp GN Bn MX=>?_);obtain rfl:(d,ps)=GN:=eF (bM (Bn.symm.trans (by simpa using hh)));refine aH (M:=M1) (A:=RT.po) (B:=RT.int .i64) bJ rfl rfl I3 (by decide) (Hi) rfl rfl (by decide) (by assumption) (by repeat (first|exact aq _ _|refine aT (aY (by assumption)) ?_)) (fun JJ E1=>?_);refine cb (M:=M1) ar rfl rfl (by assumption) (by repeat (first|exact aq _ _|refine aT (aY (by assumption)) ?_)) (fun tI=>?_);refine bu (v':= .int .i64 (d)) rfl ?_;replace tI: -9223372036854775808≤(d:Int)∧d≤9223372036854775807:=tI;refine aR rfl ⟨_,rfl⟩ rfl (aS bB rfl rfl I3 (by decide) rfl rfl ?_);refine bQ (M:=M1) I3 rfl rfl GM rfl rfl uF (fun IL GO tU=>?_);change IL.heap[bc]? =some (.cells #[p,.int .i64 n,l5,.int .i64 d,.int .i64 cX] 216 (0,0))at GO;replace jv:=jv.le tU.le;refine ad (aj (ah (ae rfl rfl (aR rfl ⟨_,rfl⟩ rfl (aS bB rfl rfl I3 (by decide) rfl rfl (aE ar rfl rfl rfl (by assumption) rfl (ai rfl rfl (ad (aJ ?_)))))))))
          have he:qa l i to=(idx l to:Int):=by unfold qa;rw[if_neg c1]
          rw[he];have S7:=((s1.cc (fun _ h=>h.elim) xO).trans ((X7.trans xg (fun _ _ h=>h)).trans tU (fun _ _ h=>h)) (fun _ _ h=>h));exact aO rfl rfl ⟨by rw[gQ hx];rfl,S7.back,p,l5,n,cX,N4,by rw[gQ hx];exact GO,(hp.le (by decide) S7.back.le),jv.le (Le.close hM S7),by omega,by omega,fun h=>by omega,fun _ h=>by omega⟩
    ·apply T.draw (M:=M1) mixed [b8.eq _,b8.eq _,b8.eq _,b8.eq _,b8.eq _,b8.eq _,b8.eq _,b8.eq (.bool false),b8.eq undef,b8.eq undef,b8.eq undef,b8.eq undef,b8.eq undef,b8.eq undef,b8.eq undef,b8.eq undef,b8.eq _]
     ·rfl
     ·refine aK ?_ ?_
      ·intro wD E sD;refine ae rfl rfl ?_;exact ad ⟨rfl,rfl,_,rfl,rfl,an _ _⟩
      refine aK ?_ ?_
      ·intro wD E sD;refine ae rfl rfl ?_;exact ad ⟨rfl,rfl,_,rfl,rfl,an _ _⟩
      refine aK ?_ ?_
      ·intro wD E sD;refine aw (aR rfl ⟨_,rfl⟩ rfl ?_);exact ad ⟨rfl,rfl,_,rfl,rfl,an _ _⟩
      refine aK ?_ ?_
      ·intro wD E sD;refine aw (aS bB rfl rfl oE (by decide) rfl rfl ?_);exact ad ⟨rfl,rfl,_,rfl,rfl,an _ _⟩
      refine aK ?_ ?_
      ·intro wD E sD;refine aw (aE cH rfl rfl rfl (bV sD (by assumption)) rfl ?_);exact ad ⟨rfl,rfl,_,rfl,rfl,an _ _⟩
      refine aK ?_ ?_
      ·intro wD E sD;refine aw ?_;refine aP rfl rfl I0 (kC (M:=M1) (DP.le (by decide) sD.le)) (fun r wc h=>?_);obtain⟨rfl,rfl⟩:=h;exact ad ⟨rfl,rfl,_,rfl,congrArg (fun n:Nat=>Value.int .i64 n) Hd,an _ _⟩
      refine aK ?_ ?_
      ·intro wD E sD;refine aw (aw (cf rfl rfl rfl ?_));exact ad ⟨rfl,rfl,_,rfl,rfl,an _ _⟩
      refine aK ?_ ?_
      ·intro wD E sD;refine aw (aw (ae rfl rfl ?_));refine ad ⟨rfl,rfl,_,rfl,?_,an _ _⟩;exact congrArg Value.bool (decide_eq_false Rm)
      refine aK ?_ ?_
      ·intro wD E sD;refine aw ?_;exact ao rfl rfl rfl rfl (ad ⟨rfl,rfl,_,rfl,rfl,an _ _⟩)
      refine aK ?_ ?_
      ·intro wD E sD;refine aw (aw ?_);exact ao rfl rfl rfl rfl (ad ⟨rfl,rfl,_,rfl,rfl,an _ _⟩)
      refine aK ?_ ?_
      ·intro wD E sD;refine aw (aw ?_);exact ao rfl rfl rfl rfl (ad ⟨rfl,rfl,_,rfl,rfl,an _ _⟩)
      refine aK ?_ ?_
      ·intro wD E sD;refine aw (aw ?_);exact ao rfl rfl rfl rfl (ad ⟨rfl,rfl,_,rfl,rfl,an _ _⟩)
      refine aK ?_ ?_
      ·intro wD E sD;refine aw ?_;exact ao rfl rfl rfl rfl (ad ⟨rfl,rfl,_,rfl,rfl,an _ _⟩)
      refine aK ?_ ?_
      ·intro wD E sD;refine aw (aw (aw (aw ?_)));exact ao rfl rfl rfl rfl (ad ⟨rfl,rfl,_,rfl,rfl,an _ _⟩)
      refine aK ?_ ?_
      ·intro wD E sD;refine aw ?_;exact ao rfl rfl rfl rfl (ad ⟨rfl,rfl,_,rfl,rfl,an _ _⟩)
      refine aK ?_ ?_
      ·intro wD E sD;refine aw (aw (aw ?_));exact ao rfl rfl rfl rfl (ad ⟨rfl,rfl,_,rfl,rfl,an _ _⟩)
      refine aK ?_ ?_
      ·intro wD E sD;refine aw (aw (ax rfl rfl rfl ?_));exact ad ⟨rfl,rfl,_,rfl,rfl,an _ _⟩
      exact bX.nil
     ·intro ZK vJ;refine aw (aw (aw (aw (aw (aw (aw (aw (aw (aw (aw (aw ?_)))))))))));refine aw (aw (aw (aw (aw ?_))));replace S4:=S4.ay vJ;replace IH:=vJ.aI IH;replace N5:=vJ.aI N5;replace DP:=DP.le (by decide) vJ.le;have MF:=S4.lt rq;refine hU rfl (cM (aj (aj (ah (ae rfl rfl (ae rfl rfl (aR rfl ⟨_,rfl⟩ rfl (aS bB rfl rfl oE (by decide) rfl rfl (aE cH rfl rfl rfl (by assumption) rfl ?_)))))))));refine aP rfl rfl I0 (kC (M:=M1) DP) (fun r wc h=>?_);obtain⟨rfl,rfl⟩:=h;refine bu (v':= .int .i64 (((l.length+7)/8:Nat):Int)) (congrArg (fun n:Nat=>Value.int .i64 n) Hd) (Rg.zY rfl rfl rfl (ad ?_));refine bI rfl (fun c6=>?_) (fun c6=>?_)
      ·refine aj (ah (ae rfl rfl (ae rfl rfl (aR rfl ⟨_,rfl⟩ rfl (aS bB rfl rfl jI (by decide) rfl rfl ?_)))));refine bQ (M:=M1) jI rfl rfl IH rfl rfl uF (fun w7 hb7 s7=>?_);change w7.heap[bc]? =some (.cells #[p,.int .i64 k,.slice none 0 0,.int .i64 (eB l i),.int .i64 DG] 216 (0,0))at hb7;refine aR rfl ⟨_,rfl⟩ rfl (aS bB rfl rfl I3 (by decide) rfl rfl ?_);refine bQ (M:=M1) I3 rfl rfl hb7 rfl rfl uF (fun w8 hb8 s8=>?_);change w8.heap[bc]? =some (.cells #[p,.int .i64 k,.slice none 0 0,.int .i64 2147483648,.int .i64 DG] 216 (0,0))at hb8;refine ad (aj (ah (ai rfl rfl (ad (aJ ?_)))));have he:qa l i to=(l.length:Int):=by unfold qa;rw[if_neg c1,HK hm (n:=8*n) (by omega) Em]
       rw[he];have S7:=((s1.ay S4).cc (fun _ h=>h.elim) xO).trans ((s7.trans s8 (fun _ _ h=>h))) (fun _ _ h=>h);exact aO rfl rfl ⟨by rw[qb (Int.le_refl _)],S7.back,p,.slice none 0 0,k,DG,N4,by rw[qb (Int.le_refl _)];exact hb8,(hp.le (by decide) S7.back.le),by rw[Bm (Int.le_refl _)];exact jR,by omega,hk,fun h=>by omega,fun _ h=>by omega⟩
      ·exfalso;omega
theorem vT {M:aA} {w0:World} {bc:Nat} {l:List Po} {i:Int} (h:Cu 216 l i M w0 bc) (hM:Lt M w0) (hm:dP (-1) l=true) (ri:∀p∈l,p.2.length≤1099511627776) (zV:(dy (-1) l).length≤1099511627776) (Hz:l.length≤1099511627776):
  Spec Tryz.prog 96 #[.pointer (some ⟨bc,0,none⟩)] w0 (fun v' w'=>v'= .int .i64 (eB l (pH l i))∧Step M w0 M w' (fun b=>b=bc)∧Cu 216 l (pH l i) M w' bc):=by
 obtain⟨p,u,k,DG,N4,hb,hp,hu,hi,hk,OH,pP⟩:=id h;have hdr:=u1 hm i;refine aX (args:=[_]) (fn:=Tryz.f96) Tryz.func96 rfl (n:=11) Tryz.ntmps96 (aj (ah (ai rfl rfl (ad (aj (ah (ae rfl rfl (ae rfl rfl (aR rfl ⟨_,rfl⟩ rfl (aS bB rfl rfl I3 (by decide) rfl rfl (aE ar rfl rfl rfl (by assumption) rfl ?_)))))))))));refine bA rfl rfl rfl (by omega) (Rg.min2 rfl rfl rfl ?_);have hn:qa l i (min (eB l i+1) 2147483648)=pH l i:=GL hm hi;refine aP rfl rfl XV (xE (to:=min (eB l i+1) 2147483648) h hM hm ri zV Hz (by omega)) (fun r w1 h1=>?_);rw[hn]at h1;obtain⟨rfl,s1,h1⟩:=h1;refine ai rfl rfl (ad (aJ ?_));exact aO rfl rfl ⟨rfl,s1,h1⟩
end Go.K
namespace Go.K
open Go.Proofs
namespace TKErsA
theorem MS:TI Tryz.prog 123 (.pointer none) 1 8:=by unfold TI;kernel_rfl
theorem MT:TI Tryz.prog 216 (.agg #[(.pointer none),(.int .i64 0),(.slice none 0 0),(.int .i64 0),(.int .i64 0)]) 5 56:=by unfold TI;kernel_rfl
theorem MU:placesOf Tryz.prog 216=[(0,1),(1,1),(2,1),(3,1),(4,1)].map some:=by kernel_rfl
theorem E73:Enters Tryz.prog 73:=enters Tryz.func73 rfl (by decide)
theorem IN:Enters Tryz.prog 126:=enters Tryz.func126 rfl (by decide)
theorem X8:Enters Tryz.prog 140:=enters Tryz.func140 rfl (by decide)
end TKErsA
open TKErsA
set_option maxRecDepth 10000
abbrev Er:=Fd×Int
abbrev RT.er:RT Er:=RT.pair RT.fd (RT.int .i64)
theorem er0:Part RT.er RT.fd (fun p=>p.1) 0:=kj _ _
theorem X9:Part RT.er (RT.int .i64) (fun p=>p.2) 2:=fI _ _
theorem GP {M:aA} {w:World} {p:Er} {v:Value} (h:RT.er.V M w p v):v= .agg #[.string ⟨p.1.1.toArray⟩,.string ⟨p.1.2.toArray⟩,.int .i64 p.2]∧(p.1.1.length≤140737488355328∧p.1.2.length≤140737488355328)∧ -9223372036854775808≤p.2∧p.2≤9223372036854775807:=by
 obtain⟨vs,⟨va,vb,rfl,⟨vc,vd,rfl,⟨rfl,h1⟩,⟨rfl,h2⟩⟩,⟨rfl,h3⟩⟩,rfl⟩:=h;exact⟨rfl,⟨h1,h2⟩,h3⟩
theorem Ka {M:aA} {w:World} {p:Er} (h1:p.1.1.length≤140737488355328∧p.1.2.length≤140737488355328) (h2: -9223372036854775808≤p.2∧p.2≤9223372036854775807):RT.er.V M w p (.agg #[.string ⟨p.1.1.toArray⟩,.string ⟨p.1.2.toArray⟩,.int .i64 p.2]):=
 ⟨[.string ⟨p.1.1.toArray⟩,.string ⟨p.1.2.toArray⟩,.int .i64 p.2],⟨[.string ⟨p.1.1.toArray⟩,.string ⟨p.1.2.toArray⟩],[.int .i64 p.2],rfl,⟨_,_,rfl,⟨rfl,h1.1⟩,⟨rfl,h1.2⟩⟩,rfl,h2⟩,rfl⟩
theorem zC {M:aA} (w0:World) (hM:Lt M w0):
  Spec Tryz.prog 140 #[.pointer none] w0 (fun v' w'=>∃bc,v'= .pointer (some ⟨bc,0,none⟩)∧w0.heap.size≤bc∧Step M w0 (ins M bc) w' aC∧Cu 216 [] (-1) (ins M bc) w' bc):=by
 refine aX (args:=[_]) (fn:=Tryz.f140) Tryz.func140 rfl (n:=12) Tryz.ntmps140 (aj (ah (ai rfl rfl (ad (aj (aj (ah (ae rfl rfl (Rg.so cH rfl rfl rfl (ad (T.S0 rfl (rfl) ?_)))))))))));refine ah ?_;refine aP rfl rfl IN (qq (l:=[]) hM jR (fun p h=>by cases h) (by decide) (by decide) (by decide)) (fun r2 w2 hc=>?_);obtain⟨s2,fu,_⟩:=hc;obtain⟨p,rfl,hp⟩:=fu rfl;obtain⟨q,rfl⟩:=hp.jb;refine ae rfl rfl (bP rfl rfl rfl (bP rfl rfl rfl (ai rfl rfl (ad (aj (ah (ae rfl rfl (dZ (places:=[(0,1),(1,1),(2,1),(3,1),(4,1)]) bB MT MU rfl ⟨_,_,rfl,rfl,_,_,rfl,rfl,_,_,rfl,rfl,rfl⟩ (out:=[_,_,.slice none 0 0,_,.int .i64 0]) ⟨0,[_],rfl,rfl,by simp[Value.cells],1,[_],rfl,rfl,by simp[Value.cells],3,[_],rfl,rfl,by simp[Value.cells],rfl⟩ ?_))))))));refine oT M rfl rfl (fun bc w3 h1 Hh hS s3=>?_);refine ai rfl rfl (ad (aJ ?_));exact aO rfl rfl ⟨bc,rfl,by have:=s2.size;omega,s2.ay s3,.pointer (some q),.slice none 0 0,-1,0,.inl rfl,hS,hp.le (by decide) s3.le,jR,by decide,by decide,fun _=>rfl,fun h=>by omega⟩
theorem zE {M:aA} {v:Value} {l:List Po} (w0:World) (hM:Lt M w0) (h:ch RT.li M w0 v (gK l)∨(v= .pointer none∧l=[])):Spec Tryz.prog 140 #[v] w0 (fun v' w'=>∃bc,v'= .pointer (some ⟨bc,0,none⟩)∧w0.heap.size≤bc∧Step M w0 (ins M bc) w' aC∧Cu 216 l (-1) (ins M bc) w' bc):=by
 rcases h with h|⟨rfl,rfl⟩
 ·obtain⟨q,rfl⟩:=h.jb;exact Dm h
 ·exact zC w0 hM
theorem xG {M:aA} {s:Se} {ls:List (List Po)} {t:Fd} {v0:Value} (w0:World) (hM:Lt M w0) (hs:ch RT.se M w0 v0 s) (xC:xp s.2.2.1) (DK:s.2.2.2=ls.map gK) (I2:s.2.2.1.length=ls.length) (h1:t.1.length≤140737488355328) (h2:t.2.length≤140737488355328):
  Spec Tryz.prog 95 #[v0,kv t] w0 (fun v' w'=>∃bc,v'= .pointer (some ⟨bc,0,none⟩)∧w0.heap.size≤bc∧Step M w0 (ins M bc) w' aC∧Cu 216 (lz s.2.2.1 ls (de t)) (-1) (ins M bc) w' bc):=by
 refine aX (args:=[_,_]) (fn:=Tryz.f95) Tryz.func95 rfl (n:=19) Tryz.ntmps95 ?_;have S:Step M w0 M w0 aC:=(an _ _).cc (fun _ h=>h.elim) (fun _ h=>h.elim);refine aj (ah ?_);refine kh (A:=RT.fd) rfl rfl hM (xi h1 h2) rfl (fun u0 w1 cA s0 _=>?_);replace hs:=hs.le (by decide) s0.le;replace hM:=s0.lt hM;have:=S.size;replace S:=S.ay s0;refine ai rfl rfl (ad (aj ?_));apply T.draw (M:=M) mixed [b8.eq v0,b8.eq v0,b8.ptr ((RT.di).ptr) s.2.2,b8.ptr RT.di s.2.2,b8.eq (kv t),b8.eq (sv (de t)),(b8.mk' (fun v w=>∃p,v= .tuple #[p,.bool (decide (de t∈s.2.2.1))]∧ra s.2.2 (de t) M p w) (fun⟨p,h1,h2⟩ s=>⟨p,h1,h2.step s⟩)),(b8.mk' (fun v w=>∃p,v= .tuple #[p,.bool (decide (de t∈s.2.2.1))]∧ra s.2.2 (de t) M p w) (fun⟨p,h1,h2⟩ s=>⟨p,h1,h2.step s⟩)),(b8.mk' (fun v w=>ra s.2.2 (de t) M v w) (fun h s=>h.step s)),b8.eq (.bool (decide (de t∈s.2.2.1))),(b8.mk' (fun v w=>ra s.2.2 (de t) M v w) (fun h s=>h.step s)),b8.eq (.bool (decide (de t∈s.2.2.1)))]
 ·rfl
 ·refine aK ?_ ?_
  ·intro wD E sD;refine ae rfl rfl ?_;exact ad ⟨rfl,rfl,_,rfl,rfl,an _ _⟩
  refine aK ?_ ?_
  ·intro wD E sD;refine aw (aR rfl hs.jb rfl ?_);exact ad ⟨rfl,rfl,_,rfl,rfl,an _ _⟩
  refine aK ?_ ?_
  ·intro wD E sD;refine aw ?_;refine aH (M:=M) (A:=RT.se) (B:=(RT.di).ptr) Tryz.underlying125 rfl rfl MS (by decide) se2 rfl rfl (by decide) hs sD.le (fun uf xA=>?_);exact ad ⟨rfl,rfl,_,rfl,xA,an _ _⟩
  refine aK ?_ ?_
  ·intro wD E sD;intro v2 wO;refine cg (M:=M) Tryz.underlying123 rfl rfl rfl rfl rfl (show ch ((RT.di).ptr) M wD v2 s.2.2 from wO) (aq _ _) (fun vd hvd=>?_);exact ad ⟨rfl,rfl,_,rfl,Cc.1 hvd,an _ _⟩
  refine aK ?_ ?_
  ·intro wD E sD;refine cx (M:=M) (A:=RT.fd) b9 rfl qM (by decide) rfl rfl rfl cA sD.le (fun vt DO=>?_);obtain rfl:=kN DO;exact ad ⟨rfl,rfl,_,rfl,rfl,an _ _⟩
  refine aK ?_ ?_
  ·intro wD E sD;refine aw ?_;refine aP rfl rfl Si (Dl (t:=t) _ (sD.lt hM) h1 h2) (fun r5 w5 hc=>?_);obtain⟨rfl,s5⟩:=hc;exact ad ⟨rfl,rfl,_,rfl,rfl,s5⟩
  refine aK ?_ ?_
  ·intro wD E sD;intro v3 ur;refine aw (aw ?_);refine aP rfl rfl E73 (find_spec (k:=de t) _ (sD.lt hM) (show ch RT.di M wD v3 s.2.2 from ur) xC (by rw[DK,db];exact I2)) (fun r6 w6 hc=>?_);obtain⟨s6,hr⟩:=hc;refine ad ⟨rfl,rfl,_,rfl,?_,s6⟩;rcases hr with⟨j,p,tl,rfl,h3,h4,h5⟩|⟨rfl,h3⟩
   ·exact⟨p,by rw[decide_eq_true (aM h3)],.inl ⟨j,tl,h3,h4,h5⟩⟩
   ·exact⟨_,by rw[decide_eq_false h3],.inr ⟨rfl,h3⟩⟩
  refine aK ?_ ?_
  ·intro wD E sD;intro v6 n0;refine ae rfl rfl ?_;exact ad ⟨rfl,rfl,_,rfl,n0,an _ _⟩
  refine aK ?_ ?_
  ·intro wD E sD;intro v7 AK;obtain⟨p,rfl,hp⟩:=AK;refine bP rfl rfl rfl ?_;exact ad ⟨rfl,rfl,_,rfl,hp,an _ _⟩
  refine aK ?_ ?_
  ·intro wD E sD;intro v7 AK;obtain⟨p,rfl,hp⟩:=AK;refine bP rfl rfl rfl ?_;exact ad ⟨rfl,rfl,_,rfl,rfl,an _ _⟩
  refine aK ?_ ?_
  ·intro wD E sD;intro v8 Cf;intro v6 n0;refine aw (aw ?_);intro v2 wO;intro v3 ur;refine aw (aw ?_);intro v6 n0;intro v7 AK;intro v8 Cf;refine ai rfl rfl ?_;exact ad ⟨rfl,rfl,_,rfl,Cf,an _ _⟩
  refine aK ?_ ?_
  ·intro wD E sD;refine aw ?_;intro v10 MC;refine aw (aw ?_);intro v2 wO;intro v3 ur;refine aw (aw ?_);intro v6 n0;intro v7 AK;intro v8 Cf;refine aw ?_;intro v10 MC;refine ai rfl rfl ?_;exact ad ⟨rfl,rfl,_,rfl,rfl,an _ _⟩
  exact bX.nil
 ·intro DH jg;refine aw (aw ?_);intro IX qZ;intro Qd FJ;refine aw (aw ?_);intro ae5 aa6;intro WE QL;intro ae6 aa7;refine aw ?_;intro Rq Bo;refine aw ?_;replace Bo:ra s.2.2 (de t) M Rq DH:=Bo;have hF:=Bo;replace hM:=jg.lt hM;replace S:=S.ay jg;replace hs:=hs.le (by decide) jg.le;replace cA:=cA.le (by decide) jg.le;refine aj (ah (ae rfl rfl ?_))
  refine aP rfl rfl X8 (zE (l:=lz s.2.2.1 ls (de t)) _ hM (by
   rcases hF with⟨j,tl,ND,pZ,Jq⟩|⟨h,iK⟩
   ·rw[DK,ew]at pZ;obtain⟨l,OD,rfl⟩:=Option.map_eq_some_iff.1 pZ;exact .inl (by rw[GK xC.nodup ND OD];exact Jq)
   ·exact .inr ⟨h,zB iK⟩)) (fun r2 w2 hc=>?_)
  obtain⟨bc,rfl,Zb,s2,hcu⟩:=hc;refine ai rfl rfl (ad (aJ ?_));exact aO rfl rfl ⟨bc,rfl,by have:=S.size;omega,S.ay s2,hcu⟩
end Go.K

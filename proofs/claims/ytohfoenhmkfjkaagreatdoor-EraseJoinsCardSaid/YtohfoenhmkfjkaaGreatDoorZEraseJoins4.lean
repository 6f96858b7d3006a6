/- What the law 'EraseJoins' needs of walks and plain Lean, part 4: nothing is assumed beyond the texts that it imports. -/
import Derived.KernelRfl
import Derived.Test.YtohfoenhmkfjkaaGreatDoorProg
import Derived.Test.YtohfoenhmkfjkaaGreatDoorZEraseJoins1
import Derived.Test.YtohfoenhmkfjkaaGreatDoorZEraseJoins2
import Derived.Test.YtohfoenhmkfjkaaGreatDoorZEraseJoins3
set_option linter.unusedVariables false
set_option linter.unusedSimpArgs false
namespace Go.K
open Go.Proofs
namespace TKBldE
theorem jE:TI Tryz.prog 107 (.slice none 0 0) 1 24:=by unfold TI;kernel_rfl
theorem AU:TI Tryz.prog 167 (.map none) 1 8:=by unfold TI;kernel_rfl
theorem Sn:Enters Tryz.prog 63:=enters Tryz.func63 rfl (by decide)
theorem V4:Enters Tryz.prog 111:=enters Tryz.func111 rfl (by decide)
theorem V5:Enters Tryz.prog 112:=enters Tryz.func112 rfl (by decide)
end TKBldE
open TKBldE
set_option maxRecDepth 10000
theorem ew.B8 {P:Program} {kt:TypeId} {w:World} {b clock:Nat} {es:List MapEntry} (hk:P.underlying kt=some .string) (h:ew P kt w b es clock):∃ks:List (List UInt8),es.map (·.key)=ks.map sv∧ks.Nodup:=by
 have key:∀es:List MapEntry,(∀e∈es,∃l,keyOf P kt e.key=some l)→∃ks:List (List UInt8),es.map (·.key)=ks.map sv:=by
  intro es
  induction es with
  |nil=>exact fun _=>⟨[],rfl⟩
  |cons e es ih=>
   intro h;obtain⟨ks,h1⟩:=ih fun x hx=>h x (cp _ hx)
   obtain⟨l,hl⟩:=h e (bY ..);obtain⟨x,h3,_,h4⟩:=Maps.keyOf_str hk hl;exact⟨x::ks,by simp only[ic,h1,h3]⟩
 obtain⟨ks,h1⟩:=key es h.ok;refine⟨ks,h1,?_⟩;have h3:=dp.2 h.keys;rw[h1]at h3;exact(dp.1 h3).imp fun h e=>h (by rw[e])
theorem zd {M:aA} {w:World}:∀{l:List (List UInt8)},(∀x∈l,x.length≤140737488355328)→eo RT.str M w l (l.map Go.Proofs.encStr)
 |[],_=>rfl
 |x::l,h=>⟨[.string ⟨x.toArray⟩],_,rfl,⟨rfl,h x (bY ..)⟩,zd fun y hy=>h y (cp _ hy)⟩
theorem F5 (M:aA) (w:World) (M':aA) (w':World) (x:List UInt8) (vs:List Value) (h:RT.str.R M w x vs):RT.str.R M' w' x vs:=h
theorem qO {L:List En} (hF:∀x∈L,iA x.1):∀k∈gy L,k.length≤43:=fun k hk=>by
 obtain⟨e,he,h1⟩:=List.mem_flatMap.1 hk;obtain⟨t,ht,rfl⟩:=cF.1 h1;have:=(hF e he).term ht;unfold dd;simp;omega
theorem qg {L:List En} (hF:∀x∈L,iA x.1):(gy L).length≤500*L.length:=by
 induction L with
 |nil=>simp[gy]
 |cons e L ih=>
  have h1:=ih fun x hx=>hF x (cp _ hx)
  have h2:=vC (hF e (bY ..));show((cD (oL e)).map dd++gy L).length≤_;rw[bJ,db,cr];have h2:(cD (oL e)).length≤500:=h2;omega
theorem AX {Z M:aA} {B b:Nat} {L:List En} {words last:Int} (w0:World) (hM:Lt M w0) (hb:ll Z M w0 B b L words last) (hF:∀x∈L,iA x.1) (Zq:L.length≤1000000):
  Spec Tryz.prog 58 #[.pointer (some ⟨b,0,none⟩)] w0 (fun v w=>(RT.str.sl).V M w (keysOf L) v∧Step M w0 M w aC):=by
 obtain⟨mb,vl,es,clock,gb,dz,dU,hB,B2,ho,hW,hR,zl⟩:=hb;obtain⟨ks,H9,mD⟩:=hW.B8 aD
 have ef:∀x,x∈ks↔x∈gy L:=fun x=>by
  rw[←hR.k x];constructor
  ·intro hx;have:sv x∈es.map (·.key):=by rw[H9];exact fh hx
   obtain⟨e,he,h⟩:=cF.1 this;exact⟨e,he,h⟩
  ·rintro⟨e,he,h⟩;have:sv x∈ks.map sv:=by rw[←H9,←h];exact fh he
   obtain⟨y,hy,h1⟩:=cF.1 this;rw[←xj h1];exact hy
 have V6:ks.length≤500000000:=by
  have h1:=mD.length_le_of_subset (l₂:=gy L) (fun x hx=>(ef x).1 hx);have h2:=qg hF;omega
 have hen:es.length=ks.length:=by have:=congrArg List.length H9;simpa using this
 refine aX (args:=[_]) (fn:=Tryz.f58) Tryz.func58 rfl (n:=9) Tryz.ntmps58 ?_;have S:Step M w0 M w0 aC:=(an _ _).cb (fun _ h=>h.elim) (fun _ h=>h.elim);refine aj (ah (ai rfl rfl (ad (aj (ah (ae rfl rfl (aQ rfl ⟨_,rfl⟩ rfl (aS (o':=1) de rfl rfl AU (by decide) rfl rfl (aE fQ rfl rfl rfl gb rfl (bz (v':= .map (some mb)) rfl ?_))))))))));refine aP rfl rfl V5 (AS _ _) (fun r w1 hc=>?_);obtain⟨rfl,V7⟩:=hc;have s1:Step M w0 M w1 aC:=by rw[V7];exact cU _ w0 _
 have JF:=uq V7;have:=ak gb;replace dz:=(s1.mem _ this).2 dz;replace gb:=s1.aI gb;replace dU:=(s1.mem _ (ak hW.at_)).2 dU;replace hW:=hW.bg s1;replace hM:=s1.lt hM;have:=S.size;replace S:=S.ay s1;obtain⟨m,hO,Qe,pK⟩:=hW.Vp aD dU (by unfold maxLen;omega) ks H9;refine aP rfl rfl V4 (xl hO JF (by omega)) (fun r2 w2 hc=>?_);obtain⟨⟨ss,hss,mv,_⟩,s2⟩:=hc;have N9:ss.Perm ks:=hss.trans Qe;have SN:=List.mergeSort_perm ss fun x y=>decide (x≤y)
 have l9:(ss.mergeSort fun x y=>decide (x≤y))=keysOf L:=LM (CY (N9.nodup_iff.2 mD)) (jC L) fun x=>by rw[SN.mem_iff,N9.mem_iff,ef,j9]
 have hlen:ss.length=(keysOf L).length:=by rw[←l9,List.length_mergeSort]
 rw[l9,hlen]at mv;have V8:∀x∈keysOf L,x.length≤140737488355328:=fun x hx=>by have:=qO hF x (j9.1 hx);omega
 have pN:Own RT.str 9 (nE r2) w2 w1.heap.size r2 (keysOf L):=⟨⟨_,mv,zd V8⟩,fun b hb=>hb⟩;have ny:(RT.str.sl).V M w2 (keysOf L) r2:=pN.tell F5 (fun b hb h=>by have:=(pN.base b hb).1;have:=hM b h;omega) (by have:=N9.length_eq;omega);have:=ak gb;replace dz:=(s2.mem _ this).2 dz;replace gb:=s2.aI gb;replace dU:=(s2.mem _ (ak hW.at_)).2 dU;replace hW:=hW.bg s2;replace hM:=s2.lt hM;have:=S.size;replace S:=S.ay s2;refine ai rfl rfl (ad (aJ ?_));exact aO rfl rfl ⟨ny,S⟩
theorem AY {Z M:aA} {B b:Nat} {L:List En} {words last:Int} {k:List UInt8} (w0:World) (hM:Lt M w0) (hb:ll Z M w0 B b L words last) (hF:∀x∈L,iA x.1) (Zq:L.length≤1000000) (Ct:k.length≤140737488355328):
  Spec Tryz.prog 59 #[.pointer (some ⟨b,0,none⟩),sv k] w0 (fun v w=>(RT.po.sl).V M w (pk L k) v∧Step M w0 M w aC):=by
 have jH:=hM;obtain⟨mb,vl,es,clock,gb,dz,dU,hB,B2,ho,hW,hR,zl⟩:=hb;obtain⟨kl,xZ⟩:=FM k Ct;obtain⟨x7,Qf⟩:=qe k L 0 hF;replace x7:(pk L k).length≤L.length:=x7;replace Qf:∀p∈pk L k,_:=Qf;refine aX (args:=[_,_]) (fn:=Tryz.f59) Tryz.func59 rfl (n:=30) Tryz.ntmps59 ?_;have S:Step M w0 M w0 aC:=(an _ _).cb (fun _ h=>h.elim) (fun _ h=>h.elim);refine aj (ah (ai rfl rfl (ad (aj (ah (ai rfl rfl (ad (aj (aj (ah (ae rfl rfl ?_)))))))))));refine aQ rfl ⟨_,rfl⟩ rfl (aS (o':=1) de rfl rfl AU (by decide) rfl rfl (aE fQ rfl rfl rfl gb rfl (bz (v':= .map (some mb)) rfl (ae rfl rfl ?_))));refine Rg.o8 fQ pv jE rfl rfl rfl xZ hW (fun V9 ur=>?_);have nV:=hR.o _ _ ur;have hvb:∀c,V9.ownBlock=some c→c<w0.heap.size:=fun c hc=>(nV.base c hc).2
 clear hR hW ho;refine gB aW rfl nV rfl (ae rfl rfl (ad (bj ?_)));refine dF (σ:=Nat×Value) (fun q=>[(5,q.2),(13,V9),(14,.int .i64 ((pk L k).length:Int)),(15,.int .i64 (q.1:Int))]) (fun q w=>∃M',Lt M' w∧Step M w0 M' w aC∧Own RT.po 153 M' w w0.heap.size q.2 ((pk L k).take q.1)∧Own RT.po 153 M' w B V9 (pk L k)∧q.1≤(pk L k).length) (fun q=>(pk L k).length-q.1) (0,.slice none 0 0) (.cons rfl (.cons rfl (.cons rfl (.cons rfl .nil)))) ?_ ?_
 ·exact⟨M,hM,S,ec _ _ _ _ _,nV,bH _⟩
 ·clear hM S nV;rintro⟨i,u⟩ w ⟨M1,hM,S,hu,nV,hi⟩;dsimp only at hu hi ⊢;refine aj (ah (cd rfl rfl rfl (ad (aj ?_))));refine bI rfl (fun c3=>?_) (fun c3=>?_)
  ·refine aV (aj (bj (aj (ah ?_))));refine Rg.VB aW gu (by decide) rfl rfl rfl nV (by omega) (fun u4 p Ai xL=>?_);rw[az]at Ai;have hp:=Qf p (aL Ai);refine Rg.FL (A:=RT.po) bK rfl gu rfl rfl rfl xL (fun v4 p9=>?_);refine oc (A:=RT.po) (M:=M1) gu rfl rfl rfl rfl rfl (by assumption) (aq _ _) hM (fun OV OW k8 o2 Wa=>?_);replace hu:=hu.bg o2;replace nV:=nV.bg o2;replace hM:=o2.lt hM;have:=S.size;replace S:=S.ay o2;refine ad ?_;apply T.nM 5 [0,1,2] 3 aC mixed rfl rfl rfl rfl;intro NH Qg;have xo:=Qg M1;replace k8:=k8.le (by decide) xo.le;replace hu:=hu.bg xo;replace nV:=nV.bg xo;replace hM:=xo.lt hM;have:=S.size;replace S:=S.ay xo;refine ae rfl rfl ?_;refine ad ⟨rfl,rfl,rfl,?_⟩;refine aH (M:=M1) (A:=RT.po) (B:=RT.int .i64) bK rfl rfl I3 (by decide) (G6) rfl rfl (by decide) (by assumption) (by repeat (first|exact aq _ _|refine aT (aY (by assumption)) ?_)) (fun UX Jp=>?_);refine ad ⟨rfl,rfl,rfl,?_⟩;refine cc (M:=M1) ar rfl rfl (by assumption) (by repeat (first|exact aq _ _|refine aT (aY (by assumption)) ?_)) (fun Qh=>?_);refine ad ⟨rfl,rfl,rfl,?_⟩;refine aH (M:=M1) (A:=RT.po) (B:=(RT.int .i64).sl) bK rfl rfl nF (by decide) (Ou) rfl rfl (by decide) (by assumption) (by repeat (first|exact aq _ _|refine aT (aY (by assumption)) ?_)) (fun UB BP=>?_);refine ad ⟨rfl,rfl,rfl,?_⟩;refine cf (M:=M1) au rfl rfl rfl rfl rfl (by assumption) (by repeat (first|exact aq _ _|refine aT (aY (by assumption)) ?_)) (fun adj Qi=>?_);refine ad ⟨rfl,rfl,rfl,?_⟩;refine fz ?_;obtain⟨bb,oo,cs,ee,fr,rfl,kY,_⟩:=Jp.float;refine⟨iz ⟨fe,⟨jw bK rfl I3 (by decide),⟨fJ rfl kY (fun h=>h),trivial⟩⟩⟩,?_⟩
   have kp:=kg aC NH;refine aP rfl rfl Sn (th hM Qi (by omega)) (fun v5 w5 hc=>?_);obtain⟨nS,s5⟩:=hc;replace k8:=k8.le (by decide) s5.le;replace hu:=hu.bg s5;replace nV:=nV.bg s5;replace hM:=s5.lt hM;have:=S.size;replace S:=S.ay s5;refine(fun(kp:eg _ _ _)=>ad ⟨rfl,rfl,fun _=>kp,?_⟩) (by first|exact kp|exact kp.pO (by assumption)|exact kp.goN (by assumption)|exact kp.go (by assumption) (fun _ _ h=>by first|exact h|exact h.elim));refine dZ (places:=[(0,1),(1,1)]) bK gu HE rfl ⟨_,_,rfl,rfl,_,_,rfl,rfl,rfl⟩ (out:=[_,_]) ⟨0,[_],rfl,rfl,by simp[Value.cells],1,[_],rfl,ik nS,by simp[Value.cells],rfl⟩ ?_;have FZ:RT.po.V M1 _ p _:=dY (gj Qh) nS rfl rfl rfl rfl;refine(fun(kp:eg _ _ _)=>ad ⟨rfl,rfl,fun _=>kp,?_⟩) (by first|exact kp|exact kp.pO (by assumption)|exact kp.goN (by assumption)|exact kp.go (by assumption) (fun _ _ h=>by first|exact h|exact h.elim));refine eQ (A:=RT.po) (hn:=by decide) (M:=M1) aW gu (by decide) rfl rfl hM (FZ) (.inl rfl) (fun adk adl F6 C6=>?_);replace k8:=k8.le (by decide) C6.le;replace nS:=nS.le C6.le;replace hu:=hu.bg C6;replace nV:=nV.bg C6;replace hM:=C6.lt hM;have:=S.size;replace S:=S.ay C6;refine(fun(kp:eg _ _ _)=>ad ⟨rfl,rfl,fun _=>kp,?_⟩) (by first|exact kp|exact kp.pO (by assumption)|exact kp.goN (by assumption)|exact kp.go (by assumption) (fun _ _ h=>by first|exact h|exact h.elim));refine cO (M:=M1) (base:=w0.heap.size) aW gu rfl rfl rfl rfl hu F6 (aq _ _) (by simp;omega) (by simp;omega) (S.size) (fun Wb Wc adm Qj C7=>?_);replace k8:=k8.le (by decide) C7.le;replace nS:=nS.le C7.le;replace F6:=F6.le C7.le;replace nV:=nV.step C7 (fun c hc h=>by have:=hvb c hc;have:=(hu.base c h).1;omega);replace hM:=C7.lt hM;have:=S.size;replace S:=S.dh C7 hu (bh _);replace hu:=Qj;refine ad ⟨rfl,rfl,fun h=>absurd rfl h,?_⟩
   refine ai rfl rfl ?_;refine ad ⟨rfl,rfl,fun h=>absurd rfl h,?_⟩;refine qp (ah (bB rfl rfl rfl (by omega) (ae rfl rfl (ad ?_))));refine⟨rfl,(i+1,Wb),(.cons rfl (.cons rfl (.cons rfl (.cons rfl .nil)))),?_,?_⟩
   ·exact⟨Wc,hM,S,by rw[cg,Ai,cZ];exact hu,nV,by dsimp only;omega⟩
   ·dsimp only;omega
  ·refine cN (aj (ah (ae rfl rfl (ai rfl rfl (ad (aJ ?_))))));rw[bp (by omega)]at hu;exact aO rfl rfl ⟨hu.close jH S (by omega),S.back⟩
end Go.K
namespace Go.K
open Go.Proofs
namespace TKBldF
theorem Wd:TI Tryz.prog 190 (.agg #[(.slice none 0 0),(.slice none 0 0)]) 2 48:=by unfold TI;kernel_rfl
theorem We:placesOf Tryz.prog 190=[(0,1),(1,1)].map some:=by kernel_rfl
theorem Wf:Enters Tryz.prog 176:=enters Tryz.func176 rfl (by decide)
theorem Wg:Enters Tryz.prog 177:=enters Tryz.func177 rfl (by decide)
theorem Wh:Enters Tryz.prog 178:=enters Tryz.func178 rfl (by decide)
end TKBldF
open TKBldF
set_option maxRecDepth 10000
def ze:Option (List UInt8)→List (List UInt8)→Bool
 |_,[]=>true
 |o,x::l=>(match o with|none=>true|some a=>decide (a<x))&&ze (some x) l
theorem tp {l:List (List UInt8)} {k:Nat} {x:List UInt8} (h:l[k]? =some x) (o:Option (List UInt8)):ze o (l.drop k)=((match o with|none=>true|some a=>decide (a<x))&&ze (some x) (l.drop (k+1))):=by
 obtain⟨dB,he⟩:=av.1 h;rw[dA dB,he];rfl
theorem zf {a:List UInt8}:∀{l:List (List UInt8)},xi (a::l)→ze (some a) l=true
 |[],_=>rfl
 |x::l,h=>by
  have h':=jh.1 h;simp only[ze,bC,decide_eq_true_eq];exact⟨h'.1 x (bY ..),zf h'.2⟩
theorem Md:∀{l:List (List UInt8)},xi l→ze none l=true
 |[],_=>rfl
 |x::l,h=>by simp only[ze,dv];exact zf h
theorem C8 {M:aA} {v:Value} {l:List Int} (w0:World) (hv:((RT.int .i64).sl).V M w0 l v):
  Spec Tryz.prog 124 #[v] w0 (fun v' w'=>v'= .bool (eB (-1) l)∧w'=w0):=by
 have hlen:=dM hv;refine aX (args:=[_]) (fn:=Tryz.f124) Tryz.func124 rfl (n:=28) Tryz.ntmps124 (aj (ah (ai rfl rfl (ad (aj (aj (ah (ae rfl rfl (bT au rfl hv rfl (ae rfl rfl (ad ?_)))))))))));refine bj ?_;refine dF (σ:=Nat×Int) (fun s=>[(0,v),(5,v),(6,.int .i64 l.length),(7,.int .i64 s.1)]) (fun s w=>w=w0∧s.1≤l.length∧eB (-1) l=eB s.2 (l.drop s.1)∧ -1≤s.2∧(s.1=0→s.2= -1)∧(0<s.1→l[s.1-1]? =some s.2)) (fun s=>l.length-s.1) (0,-1) (.cons rfl (.cons rfl (.cons rfl (.cons rfl .nil)))) ?_ ?_
 ·exact⟨rfl,bH _,rfl,by decide,fun _=>rfl,fun h=>absurd h (ie 0)⟩
 ·rintro⟨k,last⟩ w1 ⟨rfl,hk,hr,NI,h0,h1⟩;dsimp only at hk hr NI h0 h1 ⊢;refine aj (ah (cd rfl rfl rfl (ad (aj ?_))));refine bI rfl (fun c2=>?_) (fun c2=>?_)
  ·refine aV (aj (bj (aj (ah (ae rfl rfl ?_)))));obtain⟨x,hx⟩:∃x,l[k]? =some x:=⟨_,aN (by omega)⟩;refine dq (M:=M) au I3 rfl rfl rfl hv (aq _ _) (by omega) (fun u a hg hu=>?_);obtain rfl:x=a:=eF (bM (hg.symm.trans (by simpa using hx)));refine cc (M:=M) ar rfl rfl hu (aq _ _) (fun inx=>?_);refine ai rfl rfl (ai rfl rfl (ad (aj (ah (ae rfl rfl (cd rfl rfl rfl (ae rfl rfl ?_)))))));refine aG (g:=14) rfl (fun F7=>?_) (fun F7=>?_)
   ·refine ao rfl rfl rfl rfl (ao rfl rfl rfl rfl (ao rfl rfl rfl rfl (ca rfl rfl rfl (ca rfl rfl rfl (ca rfl rfl rfl (ca rfl rfl rfl (ca rfl rfl rfl (ca rfl rfl rfl (ca rfl rfl rfl (ao rfl rfl rfl rfl (aR rfl rfl rfl ?_)))))))))));refine ad (ly rfl (aj (ah (ai rfl rfl (ad (aJ ?_))))));refine aO rfl rfl ⟨congrArg Value.bool (eF ?_),rfl⟩;rw[hr,eS hx,decide_eq_false (show¬last<x by omega),fP]
   ·refine al rfl rfl (ae rfl rfl (al rfl rfl (nD rfl rfl rfl (al rfl rfl (ae rfl rfl ?_)))));refine aG (g:=17) rfl (fun Lv=>?_) (fun Lv=>?_)
    ·refine al rfl rfl (ae rfl rfl (al rfl rfl (ae rfl rfl (al rfl rfl (ae rfl rfl (al rfl rfl (gA rfl rfl rfl (by omega) (al rfl rfl ?_))))))));refine dq (M:=M) au I3 rfl rfl rfl hv (aq _ _) (by omega) (fun u2 a hg qY=>?_);obtain rfl:last=a:=eF (bM (hg.symm.trans (by rw[show((k:Int)-1).toNat=k-1 from by omega];exact h1 (by omega))));refine al rfl rfl ?_;refine cc (M:=M) ar rfl rfl qY (aq _ _) (fun inl=>?_);refine al rfl rfl (eP rfl rfl rfl (al rfl rfl (aR rfl rfl rfl (ax rfl rfl rfl (ad ?_)))));refine bI rfl (fun c4=>?_) (fun c4=>?_)
     ·refine aj (ah (ai rfl rfl (ad (aJ ?_))));refine aO rfl rfl ⟨congrArg Value.bool (eF ?_),rfl⟩;rw[hr,eS hx,decide_eq_false (show¬last<x by omega),fP]
     ·refine aV (ah (bB rfl rfl rfl (by omega) (ae rfl rfl (ad ?_))));refine⟨rfl,(k+1,x),(.cons rfl (.cons rfl (.cons rfl (.cons rfl .nil)))),?_,?_⟩
      ·refine⟨rfl,by simp only;omega,?_,by simp only;omega,fun h=>by simp at h,fun _=>by simpa using hx⟩;rw[hr,eS hx,decide_eq_true (show last<x by omega),dv]
      ·simp only;omega
    ·refine ao rfl rfl rfl rfl (ao rfl rfl rfl rfl (ao rfl rfl rfl rfl (ao rfl rfl rfl rfl (ao rfl rfl rfl rfl (ao rfl rfl rfl rfl (ao rfl rfl rfl rfl (al rfl rfl (ax rfl rfl rfl (ax rfl rfl rfl (ad (hY rfl ?_)))))))))));refine aV (ah (bB rfl rfl rfl (by omega) (ae rfl rfl (ad ?_))));refine⟨rfl,(k+1,x),(.cons rfl (.cons rfl (.cons rfl (.cons rfl .nil)))),?_,?_⟩
     ·refine⟨rfl,by simp only;omega,?_,by simp only;omega,fun h=>by simp at h,fun _=>by simpa using hx⟩;rw[hr,eS hx,decide_eq_true (show last<x by omega),dv]
     ·simp only;omega
  ·refine cN (aj (ah (ai rfl rfl (ad (aJ ?_)))));refine aO rfl rfl ⟨congrArg Value.bool (eF ?_),rfl⟩;rw[hr,ei (by omega)];rfl
theorem zg {M:aA} {v:Value} {l:List (List UInt8)} (w0:World) (hv:(RT.str.sl).V M w0 l v):
  Spec Tryz.prog 176 #[v] w0 (fun v' w'=>v'= .bool (ze none l)∧w'=w0):=by
 have hlen:=dM hv;refine aX (args:=[_]) (fn:=Tryz.f176) Tryz.func176 rfl (n:=24) Tryz.ntmps176 (aj (ah (ai rfl rfl (ad (aj (aj (ah (ae rfl rfl (bT a8 rfl hv rfl (ae rfl rfl (ad ?_)))))))))));refine bj ?_;refine dF (σ:=Nat×Option (List UInt8)) (fun s=>[(0,v),(5,v),(6,.int .i64 l.length),(7,.int .i64 s.1)]) (fun s w=>w=w0∧s.1≤l.length∧ze none l=ze s.2 (l.drop s.1)∧(s.1=0→s.2=none)∧(0<s.1→∃a,s.2=some a∧l[s.1-1]? =some a)) (fun s=>l.length-s.1) (0,none) (.cons rfl (.cons rfl (.cons rfl (.cons rfl .nil)))) ?_ ?_
 ·exact⟨rfl,bH _,rfl,fun _=>rfl,fun h=>absurd h (ie 0)⟩
 ·rintro⟨k,o⟩ w1 ⟨rfl,hk,hr,h0,h1⟩;dsimp only at hk hr h0 h1 ⊢;refine aj (ah (cd rfl rfl rfl (ad (aj ?_))));refine bI rfl (fun c2=>?_) (fun c2=>?_)
  ·refine aV (aj (bj (aj (ah (ae rfl rfl ?_)))));obtain⟨x,hx⟩:∃x,l[k]? =some x:=⟨_,aN (by omega)⟩;refine dq (M:=M) a8 I9 rfl rfl rfl hv (aq _ _) (by omega) (fun u a hg hu=>?_);obtain rfl:x=a:=eF (bM (hg.symm.trans (by simpa using hx)));refine cf (M:=M) aD rfl rfl rfl rfl rfl hu (aq _ _) (fun vx sK=>?_);obtain rfl:=fy sK;refine ai rfl rfl (ai rfl rfl (ad (aj (ah (ae rfl rfl (nD rfl rfl rfl (ae rfl rfl ?_)))))));refine aG (g:=14) rfl (fun F7=>?_) (fun F7=>?_)
   ·refine al rfl rfl (ae rfl rfl (al rfl rfl (ae rfl rfl (al rfl rfl (ae rfl rfl (al rfl rfl (gA rfl rfl rfl (by omega) (al rfl rfl ?_))))))));obtain⟨last,rfl,iq⟩:=h1 (by omega);refine dq (M:=M) a8 I9 rfl rfl rfl hv (aq _ _) (by omega) (fun u2 a hg qY=>?_);obtain rfl:last=a:=eF (bM (hg.symm.trans (by rw[show((k:Int)-1).toNat=k-1 from by omega];exact iq)));refine al rfl rfl ?_;refine cf (M:=M) aD rfl rfl rfl rfl rfl qY (aq _ _) (fun vl jr=>?_);obtain rfl:=fy jr;refine al rfl rfl (Rg.LL rfl rfl rfl (aR rfl rfl rfl (ad ?_)));refine bI rfl (fun c4=>?_) (fun c4=>?_)
    ·refine aj (ah (ai rfl rfl (ad (aJ ?_))));refine aO rfl rfl ⟨congrArg Value.bool (eF ?_),rfl⟩;rw[hr,tp hx];simp[c4]
    ·refine aV (ah (bB rfl rfl rfl (by omega) (ae rfl rfl (ad ?_))));refine⟨rfl,(k+1,some x),(.cons rfl (.cons rfl (.cons rfl (.cons rfl .nil)))),?_,?_⟩
     ·refine⟨rfl,by simp only;omega,?_,fun h=>by simp at h,fun _=>⟨x,rfl,by simpa using hx⟩⟩;rw[hr,tp hx]
      first
      |(rw[h0 (by omega)];simp;done)
      |(have Wi:=dV.1 c4;simp[Wi];done)
     ·simp only;omega
   ·refine ao rfl rfl rfl rfl (ao rfl rfl rfl rfl (ao rfl rfl rfl rfl (ao rfl rfl rfl rfl (ao rfl rfl rfl rfl (ao rfl rfl rfl rfl (ao rfl rfl rfl rfl (ax rfl rfl rfl (ad (hY rfl (aV (ah ?_)))))))))));refine bB rfl rfl rfl (by omega) (ae rfl rfl (ad ?_));refine⟨rfl,(k+1,some x),(.cons rfl (.cons rfl (.cons rfl (.cons rfl .nil)))),?_,?_⟩
    ·refine⟨rfl,by simp only;omega,?_,fun h=>by simp at h,fun _=>⟨x,rfl,by simpa using hx⟩⟩;rw[hr,tp hx]
     first
     |(rw[h0 (by omega)];simp;done)
     |(have Wi:=dV.1 c4;simp[Wi];done)
    ·simp only;omega
  ·refine cN (aj (ah (ai rfl rfl (ad (aJ ?_)))));refine aO rfl rfl ⟨congrArg Value.bool (eF ?_),rfl⟩;rw[hr,ei (by omega)];rfl
theorem qh {α:Type} {A:RT α} {M:aA} {w:World} {v:Value} {x:α} (h:ch A M w v x):v.cells= #[v]:=by
 obtain⟨b,o,vs,rfl,_⟩:=h;rfl
theorem AZ {M:aA} {v0 v1:Value} {ns:List (List UInt8)} {ts:List Li} (w0:World) (hM:Lt M w0) (hn:(RT.str.sl).V M w0 ns v0) (ht:(((RT.li).ptr).sl).V M w0 ts v1) (hl:ns.length≤1099511627776) (Dx:ts.length≤1099511627776):
  Spec Tryz.prog 128 #[v0,v1] w0 (fun v w=>∃p,v= .tuple #[p,.int .i64 (if ns.length=ts.length∧ze none ns=true then 0 else 1)]∧(ns.length=ts.length→ze none ns=true→ch RT.di M w p (ns,ts))∧Step M w0 M w aC):=by
 refine aX (args:=[_,_]) (fn:=Tryz.f128) Tryz.func128 rfl (n:=22) Tryz.ntmps128 ?_;have S:Step M w0 M w0 aC:=(an _ _).cb (fun _ h=>h.elim) (fun _ h=>h.elim);refine aj (ah (ai rfl rfl (ai rfl rfl (ad (aj (aj (ah (ae rfl rfl (bT a8 rfl hn rfl (ae rfl rfl (bT dO rfl ht rfl ?_)))))))))));refine eW rfl rfl rfl (ae rfl rfl ?_);refine aG (g:=11) rfl (fun p6=>?_) (fun p6=>?_)
 ·refine ao rfl rfl rfl rfl (ao rfl rfl rfl rfl (ao rfl rfl rfl rfl (aR rfl rfl rfl (ad (ly rfl (aj (ah (ai rfl rfl (ai rfl rfl (ad (aJ ?_)))))))))))
  first
  |exact eH rfl rfl rfl ⟨_,by rw[if_neg (fun h=>p6 (by omega))],fun h=>absurd (by omega) p6,S⟩
  |exact eH rfl rfl rfl ⟨_,by rw[if_neg (fun h=>c1 h.2)],fun _ h=>absurd h c1,S⟩
 ·refine al rfl rfl (ae rfl rfl (al rfl rfl ?_));refine aP rfl rfl Wf (zg _ hn) (fun r wc hc=>?_);obtain⟨rfl,rfl⟩:=hc;refine al rfl rfl (Rg.not rfl rfl (bz (v':= .bool (decide (¬ze none ns=true))) (by simp) (ax rfl rfl rfl (ad ?_))));refine bI rfl (fun c1=>?_) (fun c1=>?_)
  ·refine aj (ah (ai rfl rfl (ai rfl rfl (ad (aJ ?_)))))
   first
   |exact eH rfl rfl rfl ⟨_,by rw[if_neg (fun h=>p6 (by omega))],fun h=>absurd (by omega) p6,S⟩
   |exact eH rfl rfl rfl ⟨_,by rw[if_neg (fun h=>c1 h.2)],fun _ h=>absurd h c1,S⟩
  ·refine aV (aj (ah (ae rfl rfl ?_)));refine aP rfl rfl Wg (FB hM hn hl) (fun v3 w3 hc=>?_);obtain⟨ug,s3⟩:=hc;replace hn:=hn.le s3.le;replace ht:=ht.le s3.le;replace hM:=s3.lt hM;have:=S.size;replace S:=S.ay s3;refine ae rfl rfl ?_;refine aP rfl rfl Wh (Ij hM ht Dx) (fun v4 w4 hc=>?_);obtain⟨p9,s4⟩:=hc;replace hn:=hn.le s4.le;replace ht:=ht.le s4.le;replace ug:=ug.le s4.le;replace hM:=s4.lt hM;have:=S.size;replace S:=S.ay s4;refine dZ (places:=[(0,1),(1,1)]) Tryz.underlying190 Wd We rfl ⟨_,_,rfl,rfl,_,_,rfl,rfl,rfl⟩ (out:=[_,_]) ⟨0,[_],rfl,ik ug,by simp[Value.cells],1,[_],rfl,ik p9,by simp[Value.cells],rfl⟩ ?_;refine kd (A:=RT.di) (a:=(ns,ts)) rfl rfl hM (dY ug p9 rfl rfl rfl rfl) rfl (fun u5 w5 Am s5 _=>?_);replace hn:=hn.le s5.le;replace ht:=ht.le s5.le;replace ug:=ug.le s5.le;replace p9:=p9.le s5.le;replace hM:=s5.lt hM;have:=S.size;replace S:=S.ay s5;refine ai rfl rfl (ai rfl rfl (ad (aJ ?_)));exact eH rfl rfl rfl ⟨_,by rw[if_pos ⟨by omega,dV.1 c1⟩],fun _ _=>Am,S⟩
end Go.K
namespace Go.K
theorem A0 (n:Nat):IntKind.u8.wrap (n:Int)=((UInt8.ofNat n).toNat:Int):=by
 rw[IntKind.wrap_u8];simp[UInt8.toNat_ofNat]
theorem Qk:∀m:Nat,m<256→(BitVec.ofInt 8 (m:Int)|||BitVec.ofInt 8 128).toNat=128+m%128:=by decide+kernel
theorem It (n:Nat):IntKind.u8.wrap ((BitVec.ofInt IntKind.u8.bits (IntKind.u8.wrap (n:Int))|||BitVec.ofInt IntKind.u8.bits 128).toNat:Int)=((UInt8.ofNat (128+n%128)).toNat:Int):=by
 have h1:IntKind.u8.wrap (n:Int)=((n%256:Nat):Int):=by rw[IntKind.wrap_u8];omega
 rw[h1];show IntKind.u8.wrap ((BitVec.ofInt 8 ((n%256:Nat):Int)|||BitVec.ofInt 8 128).toNat:Int)=_;rw[Qk (n%256) (by omega),IntKind.wrap_u8,show n%256%128=n%128 from by omega];simp[UInt8.toNat_ofNat]
theorem Wj (n:Nat):((n:Int)).fdiv (2^min (Int.toNat 7) IntKind.i64.bits)=((n/128:Nat):Int):=by
 show((n:Int)).fdiv 128=_;rw[Int.fdiv_eq_ediv_of_nonneg _ (by decide)];rfl
theorem A1:∀m:Nat,m<256→(BitVec.ofInt 8 (m:Int)&&& ~~~ BitVec.ofInt 8 128).toNat=m%128:=by decide+kernel
theorem zh (c:UInt8):IntKind.u8.wrap ((BitVec.ofInt IntKind.u8.bits (c.toNat:Int)&&& ~~~ BitVec.ofInt IntKind.u8.bits 128).toNat:Int)=((c.toNat%128:Nat):Int):=by
 show IntKind.u8.wrap ((BitVec.ofInt 8 (c.toNat:Int)&&& ~~~ BitVec.ofInt 8 128).toNat:Int)=_;rw[A1 c.toNat (by have:=c.toNat_lt;omega),IntKind.wrap_u8];omega
theorem F8 (k n x:Nat) (hk:k≤8) (hn:n<128^k) (hx:x<128):
  IntKind.i64.wrap ((BitVec.ofInt IntKind.i64.bits (n:Int)|||BitVec.ofInt IntKind.i64.bits (IntKind.i64.wrap ((x:Int)*2^min (Int.toNat (7*(k:Int))) IntKind.i64.bits))).toNat:Int)=((n+x*128^k:Nat):Int):=by
 have e7:Int.toNat (7*(k:Int))=7*k:=by omega
 have e1:min (7*k) 64=7*k:=by omega
 have e2:(128:Nat)^k=2^(7*k):=by rw[Nat.pow_mul]
 have hp:2^(7*k)≤2^56:=kz (by decide) (by omega);have hb:x*2^(7*k)≤127*2^(7*k):=Nat.mul_le_mul_right _ (by omega);rw[e2]at hn ⊢;show IntKind.i64.wrap ((BitVec.ofInt 64 (n:Int)|||BitVec.ofInt 64 (IntKind.i64.wrap ((x:Int)*2^min (Int.toNat (7*(k:Int))) 64))).toNat:Int)=_;rw[e7,e1];have e3:((x:Int)*2^(7*k))=((x*2^(7*k):Nat):Int):=by simp
 have e5:n|||x*2^(7*k)=n+x*2^(7*k):=by
  rw[Nat.or_comm,Nat.mul_comm x,←Nat.two_pow_add_eq_or_of_lt hn x,Nat.add_comm]
 rw[e3];generalize x*2^(7*k)=y at*
 generalize 2^(7*k)=z at*
 have e4:∀m:Nat,m<2^64→(BitVec.ofInt 64 (m:Int))=BitVec.ofNat 64 m:=fun m _=>by simp
 rw[gU (y:Int) (by omega),e4 n (by omega),e4 y (by omega),BitVec.toNat_or,BitVec.toNat_ofNat,BitVec.toNat_ofNat,kQ (by omega),kQ (by omega),e5,gU _ (by omega)]
theorem oF (x:Int): -9223372036854775808≤IntKind.i64.wrap x∧IntKind.i64.wrap x≤9223372036854775807:=by rw[IntKind.wrap_i64];omega
end Go.K
namespace Go.K
open Go.Proofs
set_option maxRecDepth 10000
theorem xp {M:aA} {w0:World} {v:Value} {b:List UInt8} {n:Nat} (hM:Lt M w0) (hv:(RT.u8.sl).V M w0 b v) (hb:b.length≤70368744177664) (hn:n≤9223372036854775807):
  Spec Tryz.prog 173 #[v,.int .i64 n] w0 (fun v' w'=>∃M',Step M w0 M' w' aC∧Own RT.u8 5 M' w' w0.heap.size v' (b++put n)):=by
 have h9:=ja hn;refine aX (args:=[_,_]) (fn:=Tryz.f173) Tryz.func173 rfl (n:=26) Tryz.ntmps173 (aj (ah (ai rfl rfl (ad (aj (ah (ae rfl rfl (ae rfl rfl ?_))))))))
 first|refine bT bm rfl (by assumption) rfl ?_|refine gB bm rfl (by assumption) rfl ?_
 refine ae rfl rfl ?_
 first|refine bT bm rfl (by assumption) rfl ?_|refine gB bm rfl (by assumption) rfl ?_
 refine Rg.zT bm I5 rfl rfl rfl rfl hv ⟨rfl,rfl⟩ (fun a ur mK=>?_);refine ai rfl rfl (ad (aj (bj ?_)));refine dF (σ:=Nat×Value×List UInt8) (fun s=>[(0,s.2.1),(1,.int .i64 s.1)]) (fun s w=>s.2.2++put s.1=b++put n∧∃M1,Lt M1 w∧Step M w0 M1 w aC∧Grow RT.u8 (by decide) 5 M1 w w0.heap.size s.2.1 s.2.2) (fun s=>s.1) (n,_,b) (.cons rfl (.cons rfl .nil)) ?_ ?_
 ·exact⟨rfl,M,hM,an _ _,.inr ⟨a,rfl,mK,ur⟩⟩
 ·rintro⟨k,u0,acc⟩ w1 ⟨tV,M1,rb,s1,hg⟩;dsimp only at tV hg ⊢;have hlen:=congrArg List.length tV;have vU:=Hv k;simp only[bJ]at hlen;refine aj (aj (ah (ae rfl rfl (dy rfl rfl rfl (ad ?_)))));refine bI rfl (fun c2=>?_) (fun c2=>?_)
  ·refine aV (bj (aj (ah (ae rfl rfl (ae rfl rfl (tR ar b4 rfl rfl (Rg.or rfl rfl rfl (bz (congrArg _ (It _)) ?_))))))));refine eQ (A:=RT.u8) (hn:=by decide) (M:=M1) bm I5 (by decide) rfl rfl rb (Kf.2 rfl) (.inr ⟨rfl,rfl⟩) (fun u w2 hu s2=>?_);refine Rg.BC (M:=M1) (base:=w0.heap.size) bm I5 rfl rfl rfl rfl (hg.le s2) hu (aq _ _) (by simp) (by simp;omega) (by simp;omega) (fK s1.size s2.size) (fun v3 M3 w3 Hd s3=>?_);refine ai rfl rfl (ad (ah (ae rfl rfl (Rg.shr rfl rfl rfl (by omega) (bz (congrArg _ (Wj _)) (ai rfl rfl (ad ?_)))))));refine⟨rfl,(k/128,v3,acc++[UInt8.ofNat (128+k%128)]),(.cons rfl (.cons rfl .nil)),?_,?_⟩
   ·exact⟨by rw[←tV,Ac (n:=k) (by omega)];simp,M3,s3.lt (s2.lt rb),(s1.ay s2).jP s3 (bh _),.inl Hd⟩
   ·show k/128<k;omega
  ·refine cN (aj (ah (ae rfl rfl (ae rfl rfl (tR ar b4 rfl rfl (bz (congrArg _ (A0 _)) ?_))))));refine eQ (A:=RT.u8) (hn:=by decide) (M:=M1) bm I5 (by decide) rfl rfl rb (Kf.2 rfl) (.inr ⟨rfl,rfl⟩) (fun u w2 hu s2=>?_);refine Rg.BC (M:=M1) (base:=w0.heap.size) bm I5 rfl rfl rfl rfl (hg.le s2) hu (aq _ _) (by simp) (by simp;omega) (by simp;omega) (fK s1.size s2.size) (fun v3 M3 w3 Hd s3=>?_);refine ai rfl rfl (ad (aJ ?_));refine aO rfl rfl ⟨M3,(s1.ay s2).jP s3 (bh _),?_⟩;rw[←tV,rU (n:=k) (by omega)];exact Hd
theorem F9 {M:aA} {w0:World} {v:Value} {b:List UInt8} {n:Nat} (hM:Lt M w0) (hv:(RT.u8.sl).V M w0 b v) (hb:b.length≤70368744177664) (hn:n≤9223372036854775807):
  Spec Tryz.prog 173 #[v,.int .i64 n] w0 (fun v' w'=>Step M w0 M w' aC∧(RT.u8.sl).V M w' (b++put n) v'):=
 (xp hM hv hb hn).mono fun _ _ ⟨_,s,ho⟩=>⟨s.back,Own.close hM s ho (by have:=ja hn;simp;omega)⟩
theorem zi {M:aA} {w0:World} {v:Value} {b:List UInt8} {at_:Int} (hv:(RT.u8.sl).V M w0 b v) (NJ: -9223372036854775808≤at_∧at_≤9223372036854775807):
  Spec Tryz.prog 250 #[v,.int .i64 at_] w0 (fun v' w'=>v'= .tuple #[.int .i64 (get b at_).1,.int .i64 (get b at_).2.1,.int .i64 (get b at_).2.2]∧w0=w'):=by
 have hlen:=dM hv;refine aX (args:=[_,_]) (fn:=Tryz.f250) Tryz.func250 rfl (n:=54) Tryz.ntmps250 (aj (ah (ai rfl rfl (ai rfl rfl (ai rfl rfl (ad (aj (aj (ah (ae rfl rfl (cd rfl rfl rfl ?_)))))))))));refine ae rfl rfl ?_;refine aG (g:=12) rfl (fun fF=>?_) (fun fF=>?_)
 ·obtain Me:at_<0∨(b.length:Int)<at_:= .inl fF;refine ao rfl rfl rfl rfl (ao rfl rfl rfl rfl (ao rfl rfl rfl rfl (ao rfl rfl rfl rfl (aR rfl rfl rfl (ad (ly rfl (aj (ah (ai rfl rfl (ai rfl rfl (ai rfl rfl ?_)))))))))));refine ad (aJ ?_);have fU:get b at_=(0,0,1):=by unfold get;rw[if_pos Me]
  exact nJ rfl rfl rfl rfl ⟨by rw[fU],rfl⟩
 ·refine al rfl rfl (ae rfl rfl (al rfl rfl (ae rfl rfl (al rfl rfl ?_))))
  first|refine bT bm rfl (by assumption) rfl ?_|refine gB bm rfl (by assumption) rfl ?_
  refine al rfl rfl (nD rfl rfl rfl (ax rfl rfl rfl (ad ?_)));refine bI rfl (fun c1=>?_) (fun c1=>?_)
  ·obtain Me:at_<0∨(b.length:Int)<at_:= .inr c1;refine aj (ah (ai rfl rfl (ai rfl rfl (ai rfl rfl (ad (aJ ?_))))));have fU:get b at_=(0,0,1):=by unfold get;rw[if_pos Me]
   exact nJ rfl rfl rfl rfl ⟨by rw[fU],rfl⟩
  ·refine aV (aj (ah (ai rfl rfl (ad (aj (aj (ah (ae rfl rfl (ae rfl rfl (ae rfl rfl ?_))))))))))
   first|refine bT bm rfl (by assumption) rfl ?_|refine gB bm rfl (by assumption) rfl ?_
   refine ae rfl rfl (bB rfl rfl rfl (by omega) (Rg.min2 rfl rfl rfl ?_));refine Rg.DO bm I5 rfl rfl rfl rfl hv (by omega) (fun u hu=>?_);rw[show(min (b.length:Int) (at_+9)).toNat=min b.length (at_.toNat+9)from by omega,KE]at hu;have fU:get b at_=match k3 ((b.drop at_.toNat).take 9) 0 0 with|some (n,k)=>((n:Int),at_+k,0)|none=>(0,0,2):=by unfold get;rw[if_neg (by omega)];rfl
   have zP:((b.drop at_.toNat).take 9).length≤9:=by rw[bU];omega
   generalize (b.drop at_.toNat).take 9=bs at hu fU zP
   first|refine bT bm rfl (by assumption) rfl ?_|refine gB bm rfl (by assumption) rfl ?_
   refine ae rfl rfl (ad (bj ?_));refine dF (σ:=Nat×Nat) (fun s=>[(1,.int .i64 at_),(25,u),(26,.int .i64 bs.length),(27,.int .i64 s.1),(7,.int .i64 s.2)]) (fun s w=>w0=w∧s.1≤bs.length∧s.2<128^s.1∧k3 (bs.drop s.1) s.1 s.2=k3 bs 0 0) (fun s=>bs.length-s.1) (0,0) (.cons rfl (.cons rfl (.cons rfl (.cons rfl (.cons rfl .nil))))) ?_ ?_
   ·exact⟨rfl,bH _,by decide,rfl⟩
   ·rintro⟨k,m⟩ w1 ⟨rfl,hk,hm,hg⟩;dsimp only at hk hm hg ⊢;refine aj (ah (cd rfl rfl rfl (ad (aj ?_))));refine bI rfl (fun c5=>?_) (fun c5=>?_)
    ·refine aV (aj (bj (aj (ah (ae rfl rfl ?_)))));refine dq (M:=M) bm I5 rfl rfl rfl (by assumption) (by repeat (first|exact aq _ _|refine aT (aY (by assumption)) ?_)) (by omega) (fun adn Iu zj ZB=>?_);refine Rg.Kj (M:=M) b4 rfl rfl (by assumption) (by repeat (first|exact aq _ _|refine aT (aY (by assumption)) ?_)) ?_;refine ai rfl rfl (ai rfl rfl (ad (aj (ah (ae rfl rfl (ae rfl rfl (Rg.andNot rfl rfl rfl (bz (congrArg _ (zh _)) (Rg.rH b4 ar rfl rfl (by omega) (ae rfl rfl (Rg.Kg rfl rfl rfl (by omega) ?_)))))))))));refine Rg.shl rfl rfl rfl (by omega) (Rg.or rfl rfl rfl (bz (congrArg _ (F8 k m _ (by omega) hm (by omega))) (ai rfl rfl (ad (aj (ah (ae rfl rfl (cd rfl rfl rfl (ad ?_)))))))));refine bI rfl (fun c8=>?_) (fun c8=>?_)
     ·refine aj (aj (ah (ae rfl rfl (Rg.zS rfl rfl rfl (ae rfl rfl ?_)))));refine aG (g:=44) rfl (fun xq=>?_) (fun xq=>?_)
      ·refine al rfl rfl (ae rfl rfl (al rfl rfl (nD rfl rfl rfl (aR rfl rfl rfl (ad ?_)))));refine bI rfl (fun c9=>?_) (fun c9=>?_)
       ·refine cN (aj (ah (ai rfl rfl (ai rfl rfl (ai rfl rfl (ad (aJ ?_)))))))
        have hr:k3 bs 0 0=none:=by
         rw[←hg]
         first
         |(rw[k4 (by simpa using zj),if_pos (by omega),if_pos (by omega)])
         |(rw[ei (by omega)];rfl)
        exact nJ rfl rfl rfl rfl ⟨by rw[fU,hr],rfl⟩
       ·refine aV (aj (ah (ae rfl rfl (ae rfl rfl (ae rfl rfl (bB rfl rfl rfl (by omega) (bB rfl rfl rfl (by omega) (ai rfl rfl (ai rfl rfl (ai rfl rfl (ad ?_)))))))))));refine aJ ?_;have hr:k3 bs 0 0=some (m+Iu.toNat%128*128^k,k+1):=by rw[←hg,k4 (by simpa using zj),if_pos (by omega),if_neg (by omega)]
        exact nJ rfl rfl rfl rfl ⟨by rw[fU,hr];simp;omega,rfl⟩
      ·refine ao rfl rfl rfl rfl (ao rfl rfl rfl rfl (ax rfl rfl rfl (ad (hY rfl (aV (aj (ah (ae rfl rfl (ae rfl rfl (ae rfl rfl (bB rfl rfl rfl (by omega) ?_)))))))))));refine bB rfl rfl rfl (by omega) (ai rfl rfl (ai rfl rfl (ai rfl rfl (ad (aJ ?_)))));have hr:k3 bs 0 0=some (m+Iu.toNat%128*128^k,k+1):=by rw[←hg,k4 (by simpa using zj),if_pos (by omega),if_neg (by omega)]
       exact nJ rfl rfl rfl rfl ⟨by rw[fU,hr];simp;omega,rfl⟩
     ·refine aV (ah (bB rfl rfl rfl (by omega) (ae rfl rfl (ad ?_))));refine⟨rfl,(k+1,m+Iu.toNat%128*128^k),(.cons rfl (.cons rfl (.cons rfl (.cons rfl (.cons rfl .nil))))),?_,?_⟩
      ·refine⟨rfl,by simp only;omega,?_,?_⟩
       ·have:=Nat.mul_le_mul_right (128^k) (show Iu.toNat%128≤127 from by omega);simp only[Nat.pow_succ];omega
       ·rw[k4 (by simpa using zj),if_neg (by omega)]at hg;exact hg
      ·simp only;omega
    ·refine cN (aj (ah (ai rfl rfl (ai rfl rfl (ai rfl rfl (ad (aJ ?_)))))))
     have hr:k3 bs 0 0=none:=by
      rw[←hg]
      first
      |(rw[k4 (by simpa using zj),if_pos (by omega),if_pos (by omega)])
      |(rw[ei (by omega)];rfl)
     exact nJ rfl rfl rfl rfl ⟨by rw[fU,hr],rfl⟩
theorem uv {M:aA} {w0:World} {v u:Value} {b:List UInt8} {l:List Int} (hM:Lt M w0) (hv:(RT.u8.sl).V M w0 b v) (hu:((RT.int .i64).sl).V M w0 l u) (hb:b.length+9*(l.length+1)≤70368744177664):
  Spec Tryz.prog 174 #[v,u] w0 (fun v' w'=>∃M' x,Step M w0 M' w' aC∧v'= .tuple #[x,.int .i64 (if eB (-1) l then 0 else 1)]∧Own RT.u8 5 M' w' w0.heap.size x (if eB (-1) l then b++dJ l else[])):=by
 have x7:=ja (n:=l.length) (by omega);refine aX (args:=[_,_]) (fn:=Tryz.f174) Tryz.func174 rfl (n:=31) Tryz.ntmps174 (aj (ah (ai rfl rfl (ai rfl rfl (ad (aj (ah (ae rfl rfl (ae rfl rfl (bT au rfl hu rfl ?_))))))))));refine aP rfl rfl KL (xp (M:=M) hM hv (by omega) (by omega)) (fun ub wb xE=>?_);obtain⟨Mb,sb,qw⟩:=xE;refine ai rfl rfl (ad (aj (ah (ai rfl rfl (ad (aj (aj (ah (ae rfl rfl (bT au rfl hu rfl (ae rfl rfl ?_)))))))))));refine ad (bj ?_);refine dF (σ:=Nat×Int×Value×List UInt8) (fun s=>[(0,s.2.2.1),(6,.int .i64 s.2.1),(13,u),(14,.int .i64 l.length),(15,.int .i64 s.1)]) (fun s w=>eB (-1) l=eB s.2.1 (l.drop s.1)∧(eB (-1) l=true→s.2.2.2++jz s.2.1 (l.drop s.1)=b++dJ l)∧s.1≤l.length∧ -1≤s.2.1∧s.2.2.2.length≤b.length+9*(s.1+1)∧∃M1,Lt M1 w∧Step M w0 M1 w aC∧Own RT.u8 5 M1 w w0.heap.size s.2.2.1 s.2.2.2) (fun s=>l.length-s.1) (0,-1,_,b++put l.length) (.cons rfl (.cons rfl (.cons rfl (.cons rfl (.cons rfl .nil))))) ?_ ?_
 ·exact⟨rfl,fun _=>by simp[dJ],bH _,by simp only;omega,by simp;omega,Mb,sb.lt hM,sb,qw⟩
 ·rintro⟨k,last,u0,acc⟩ w1 ⟨hr,tV,hk,NI,Wk,M1,rb,s1,ho⟩;dsimp only at hr tV hk NI Wk ho ⊢;refine aj (ah (cd rfl rfl rfl (ad (aj ?_))));refine bI rfl (fun c4=>?_) (fun c4=>?_)
  ·refine aV (aj (bj (aj (ah ?_))));obtain⟨x,hx⟩:∃x,l[k]? =some x:=⟨_,aN (by omega)⟩;have hxr:=DN hu hx;refine dq (M:=M) au I3 rfl rfl rfl (hu.le (s1.back).le) (aq _ _) (by omega) (fun Ql Ga Qm Cb=>?_);obtain rfl:Ga=x:=bM (Qm.symm.trans (by simpa using hx));refine cc (M:=M) ar rfl rfl Cb (aq _ _) (fun _=>?_);refine ai rfl rfl (ad (aj (aj (ah (ae rfl rfl (ae rfl rfl (eP rfl rfl rfl (ad ?_))))))));refine bI rfl (fun c6=>?_) (fun c6=>?_)
   ·refine aj (ah (ai rfl rfl (ai rfl rfl (ad (aJ ?_)))));have ZC:eB (-1) l=false:=by rw[hr,eS hx,decide_eq_false (by omega),fP]
    exact eH rfl rfl rfl ⟨M1,_,s1,by rw[ZC];rfl,by rw[ZC];exact ec _ _ _ _ _⟩
   ·refine aV (aj (ah (ae rfl rfl (ae rfl rfl (ae rfl rfl (Rg.Kh rfl rfl rfl (Rg.Kh rfl rfl rfl ?_)))))));have hpx:=ja (n:=(Ga-last-1).toNat) (by omega);refine bz (v':= .int .i64 (((Ga-last-1).toNat:Nat):Int)) (by rw[IntKind.wrap_i64,IntKind.wrap_i64];congr 1;omega) ?_;have ZD:=s1.freeze (v:=u0) (fun b hb=>(ho.base b hb).1);refine aP rfl rfl KL (xp (M:=rm M1 u0) (rb.rm u0) (ho.view (by omega)) (by omega) (by omega)) (fun ub wb xE=>?_);obtain⟨Mb2,ZE,Wl⟩:=xE;refine ai rfl rfl (ad (ah (ae rfl rfl (ai rfl rfl (ad (ah (bB rfl rfl rfl (by omega) (ae rfl rfl (ad ?_)))))))));refine⟨rfl,(k+1,Ga,ub,acc++put (Ga-last-1).toNat),(.cons rfl (.cons rfl (.cons rfl (.cons rfl (.cons rfl .nil))))),?_,?_⟩
    ·refine⟨?_,fun h=>?_,by simp only;omega,by simp only;omega,by simp only[bJ];omega,Mb2,ZE.lt (rb.rm u0),ZD.ay ZE,Wl.rM s1.size⟩
     ·rw[hr,eS hx,decide_eq_true (by omega),dv]
     ·rw[←tV h,CB hx];simp
    ·simp only;omega
  ·refine cN (aj (ah (ae rfl rfl (ai rfl rfl (ai rfl rfl (ad (aJ ?_)))))));have Wm:eB (-1) l=true:=by rw[hr,ei (by omega)];rfl
   have ha:=tV Wm;rw[ei (by omega),jz,rz]at ha;exact eH rfl rfl rfl ⟨M1,_,s1,by rw[Wm];rfl,by rw[Wm,←ha];exact ho⟩
theorem tq {M:aA} {w0:World} {v u:Value} {b:List UInt8} {l:List Int} (hM:Lt M w0) (hv:(RT.u8.sl).V M w0 b v) (hu:((RT.int .i64).sl).V M w0 l u) (hb:b.length+9*(l.length+1)≤70368744177664):
  Spec Tryz.prog 174 #[v,u] w0 (fun v' w'=>∃x,Step M w0 M w' aC∧v'= .tuple #[x,.int .i64 (if eB (-1) l then 0 else 1)]∧(RT.u8.sl).V M w' (if eB (-1) l then b++dJ l else[]) x):=
 (uv hM hv hu hb).mono fun _ _ ⟨_,x,s,h,ho⟩=>⟨x,s.back,h,Own.close hM s ho (by
  split
  next hr=>
   have x7:=ja (n:=l.length) (by omega);have fL:∀x∈l,x≤9223372036854775807:=fun x hx=>by obtain⟨i,hi⟩:=bO.1 hx;exact(DN hu hi).2
   have:=rV l (-1) (by decide) fL hr;simp only[dJ,bJ];omega
  next=>simp)⟩
theorem vE {M:aA} {w0:World} {be bb ba:Nat} {v:Value} {b:List UInt8} {at_:Int} (he:w0.heap[be]? =some (.cells #[.int .i64 0] 26 (0,0))) (hb:w0.heap[bb]? =some (.cells #[v] 147 (0,0))) (ha:w0.heap[ba]? =some (.cells #[.int .i64 at_] 3 (0,0))) (eG:be≠ba) (Mf:M be) (NK:M ba) (hv:(RT.u8.sl).V M w0 b v) (NJ: -9223372036854775808≤at_∧at_≤9223372036854775807):
  Spec Tryz.prog 274 #[.pointer (some ⟨be,0,none⟩),.pointer (some ⟨bb,0,none⟩),.pointer (some ⟨ba,0,none⟩)] w0 (fun v' w'=>v'= .int .i64 (get b at_).1∧w'.heap[be]? =some (.cells #[.int .i64 (get b at_).2.2] 26 (0,0))∧w'.heap[ba]? =some (.cells #[.int .i64 (get b at_).2.1] 3 (0,0))∧Step M w0 M w' (fun k=>k=be∨k=ba)):=by
 refine aX (args:=[_,_,_]) (fn:=Tryz.f274) Tryz.func274 rfl (n:=15) Tryz.ntmps274 (aj (ah (ai rfl rfl (ad (aj (aj (ah (aE qq rfl rfl rfl (by assumption) rfl (eW rfl rfl rfl (ad ?_))))))))));refine bI rfl (fun c1=>?_) (fun c1=>?_)
 ·exact absurd rfl c1
 ·refine aV (aj (ah (ai rfl rfl (ad (aj (ah (aE bm rfl rfl rfl (by assumption) rfl (aE ar rfl rfl rfl (by assumption) rfl ?_))))))));refine aP rfl rfl ON (zi hv NJ) (fun r w1 h1=>?_);obtain⟨rfl,rfl⟩:=h1;refine ae rfl rfl (bP rfl rfl rfl (bP rfl rfl rfl (bP rfl rfl rfl (ai rfl rfl ?_))));refine bQ (M:=M) I3 rfl rfl ha rfl rfl NK (fun w1 h1 s1=>?_);refine bQ (M:=M) R1 rfl rfl (s1.bF he eG) rfl rfl Mf (fun w2 h2 s2=>?_);refine ad (aj (ah (ae rfl rfl (ai rfl rfl (ad (aJ ?_))))));refine aO rfl rfl ⟨rfl,h2,s2.bF h1 (Ne.symm eG),?_⟩;exact(s1.cb (fun b hb=> .inr hb) (fun b hb=>by rcases hb with rfl|rfl<;>assumption)).trans s2 (fun b _ hb=> .inl hb)
theorem tt {M:aA} {w0:World} {v:Value} {b:List UInt8} {at_:Int} (hM:Lt M w0) (hv:(RT.u8.sl).V M w0 b v) (NJ: -9223372036854775808≤at_∧at_≤9223372036854775807) (zP:b.length≤1099511627776):
  Spec Tryz.prog 251 #[v,.int .i64 at_] w0 (fun v' w'=>∃x,v'= .tuple #[x,.int .i64 (fi b at_).2.2,.int .i64 (fi b at_).1]∧((RT.int .i64).sl).V M w' (fi b at_).2.1 x∧Step M w0 M w' aC):=by
 refine aX (args:=[_,_]) (fn:=Tryz.f251) Tryz.func251 rfl (n:=48) Tryz.ntmps251 (aj (ah ?_));refine oN M rfl rfl (fun bb w1 JF adp hB s1=>?_);rw[ik hv]at hB;refine oN (ins M bb) rfl rfl (fun ba w2 hba adq hA s2=>?_);refine ai rfl rfl (ai rfl rfl (ai rfl rfl (ad (aj (ah ?_)))));refine eX (ins (ins M bb) ba) R1 rfl (fun be w3 hbe adr hE s3=>?_);refine bQ (M:=ins (ins (ins M bb) ba) be) R1 rfl rfl hE rfl rfl (.inl rfl) (fun w4 hE4 s4=>?_);have z1:=s1.size;have z2:=s2.size;have z3:=s3.size;have z4:=s4.size;have S4:Step M w0 (ins (ins (ins M bb) ba) be) w4 aC:=((s1.ay s2).ay s3).cu s4 (fun k hk=>by subst hk;omega);have Sq:=s4.bF (s3.aI (s2.aI hB)) (show bb≠be by omega);have hA4:=s4.bF (s3.aI hA) (show ba≠be by omega);refine ad (aj (ah (ia (xs:=[]) rfl rfl rfl (ai rfl rfl (ad (aj (ah (ai rfl rfl (ad (aj (ah ?_)))))))))));refine ai rfl rfl (ad (aj (aj (ah (ae rfl rfl ?_)))));refine Rg.nK (first:=[]) (xs:=[]) rfl rfl rfl OO (vE (M:=ins (ins (ins M bb) ba) be) hE4 Sq hA4 (by omega) (.inl rfl) (.inr (.inl rfl)) (hv.le S4.le) NJ) (fun r w5 h5=>?_);obtain⟨rfl,hE5,hA5,s5⟩:=h5;have z5:=s5.size;have S5:=S4.cu s5 (fun k hk=>by omega);have hB5:=s5.bF Sq (by omega);obtain⟨Wn,ZF,ZG,ZH⟩:=lG b at_;refine bz (v':= .int .i64 (((get b at_).1.toNat:Nat):Int)) (by rw[tM Wn]) (ai rfl rfl (ad (bj ?_)));refine dF (σ:=Nat×Int×Value×List Int×Int×Int) (fun s=>[(7,.pointer (some ⟨be,0,none⟩)),(3,.pointer (some ⟨ba,0,none⟩)),(8,.func (.func 274) [].toArray [.pointer (some ⟨be,0,none⟩),.pointer (some ⟨bb,0,none⟩),.pointer (some ⟨ba,0,none⟩)].toArray),(9,s.2.2.1),(10,.int .i64 s.2.1),(11,.int .i64 s.1)]) (fun s w=>(s.1:Int)≤9223372036854775807∧(s.2.2.2.2.1=0→fi b at_=andThen s.2.2.2.1 (fN b s.1 s.2.2.2.2.2 s.2.1))∧(s.2.2.2.2.1≠0→fi b at_=(s.2.2.2.2.1,[],0))∧(s.2.2.2.2.1=0→ -1≤s.2.1∧s.2.1≤4611686018427387904∧(s.2.2.2.1.length:Int)≤s.2.2.2.2.2∧s.2.2.2.2.2≤b.length)∧s.2.2.2.1.length≤b.length+1∧∃M1,Lt M1 w∧Step M w0 M1 w aC∧w4.heap.size≤w.heap.size∧M1 be∧M1 ba∧Own (RT.int .i64) 3 M1 w w4.heap.size s.2.2.1 s.2.2.2.1∧w.heap[be]? =some (.cells #[.int .i64 s.2.2.2.2.1] 26 (0,0))∧w.heap[ba]? =some (.cells #[.int .i64 s.2.2.2.2.2] 3 (0,0))∧w.heap[bb]? =some (.cells #[v] 147 (0,0))) (fun s=>s.1) ((get b at_).1.toNat,-1,_,[],(get b at_).2.2,(get b at_).2.1) (.cons rfl (.cons rfl (.cons rfl (.cons rfl (.cons rfl (.cons rfl .nil)))))) ?_ ?_
 ·refine⟨by have:=uQ b at_;simp only;omega,fun h=>?_,fun h=>?_,fun h=>?_,by simp,_,S5.lt hM,S5,z5,.inl rfl,.inr (.inl rfl),ec _ _ _ _ _,hE5,hA5,hB5⟩
  ·unfold fi;rw[if_neg (by simpa using h)];exact(yc _ (CC b _ _ _)).symm
  ·unfold fi;rw[if_pos h]
  ·have:=pS h;simp only[gO];omega
 ·rintro⟨many,last,u0,acc,e,a1⟩ wl ⟨hmb,JP,Nr,fv,Wk,M1,rb,S,zl,Mf,NK,ho,hE,hA,hB⟩;dsimp only at hmb JP Nr fv Wk ho hE hA hB ⊢;refine aj (aj (ah (ae rfl rfl (nD rfl rfl rfl (ae rfl rfl ?_)))));refine aG (g:=18) rfl (fun KR=>?_) (fun KR=>?_)
  ·refine al rfl rfl (aE qq rfl rfl rfl (by assumption) rfl (al rfl rfl (Rg.zS rfl rfl rfl (aR rfl rfl rfl (ad ?_)))));refine bI rfl (fun c6=>?_) (fun c6=>?_)
   ·refine aV (aj (bj (aj (ah (ae rfl rfl ?_)))));refine Rg.nK (first:=[]) (xs:=[]) rfl rfl rfl OO (vE (M:=M1) (by rw[c6]at hE;exact hE) hB hA (by omega) Mf NK (hv.le S.le) (by have:=fv c6;omega)) (fun r w6 h6=>?_);obtain⟨rfl,Qn,Qo,s6⟩:=h6;have z6:=s6.size;have S6:=S.cu s6 (fun k hk=>by omega);have Qp:=s6.bF hB (by omega);have qI:=ho.step s6 (fun k hk h=>by have:=(ho.base k hk).1;omega);have Gb:=s6.lt rb;obtain⟨Wn,ZF,ZG,ZH⟩:=lG b a1;obtain⟨pG,Cs,hk3,hk4⟩:=fv c6;refine ai rfl rfl (ad (aj (aj (ah (aE qq rfl rfl rfl (by assumption) rfl (Rg.zS rfl rfl rfl (ae rfl rfl ?_)))))));refine aG (g:=28) rfl (fun xq=>?_) (fun xq=>?_)
    ·refine al rfl rfl (ae rfl rfl (al rfl rfl (ae rfl rfl (al rfl rfl (gA rfl rfl rfl (by omega) (al rfl rfl (gA rfl rfl rfl (by omega) (al rfl rfl (nD rfl rfl rfl (aR rfl rfl rfl (ad ?_)))))))))));refine bI rfl (fun c9=>?_) (fun c9=>?_)
     ·refine ah ?_;refine bQ (M:=M1) R1 rfl rfl Qn rfl rfl Mf (fun w7 hE7 s7=>?_);have z7:=s7.size;replace S6:=S6.cu s7 (fun k hk=>by subst hk;omega);replace Qp:=s7.bF Qp (show bb≠be by omega);replace Qo:=s7.bF Qo (show ba≠be by omega);replace qI:=qI.step s7 (fun k hk h=>by have:=(ho.base k hk).1;omega);replace Gb:=s7.lt Gb;replace Qn:=hE7;refine ad (aj (ah (ae rfl rfl (ae rfl rfl (Rg.vV rfl rfl rfl (Rg.vV rfl rfl rfl (ai rfl rfl (ad (ah (ae rfl rfl (ae rfl rfl ?_)))))))))));refine eQ (A:=RT.int .i64) (hn:=by decide) (M:=M1) au I3 (by decide) rfl rfl Gb (gj (oF _)) (.inr ⟨rfl,rfl⟩) (fun u w8 hu s8=>?_);refine cO (M:=M1) (base:=w4.heap.size) au I3 rfl rfl rfl rfl (qI.bg s8) hu (aq _ _) (by simp;omega) (by simp;omega) (by have:=s8.size;omega) (fun v9 M9 w9 JQ s9=>?_);have z8:=s8.size;have z9:=s9.size;have iI:∀k,k<w4.heap.size→¬iT u0 k:=fun k hk h=>by have:=(ho.base k h).1;omega
      have Gc:=s9.bF (s8.aI Qn) (iI be (by omega));have Qq:=s9.bF (s8.aI Qo) (iI ba (by omega));have Qr:=s9.bF (s8.aI Qp) (iI bb (by omega));have S9:=(S6.ay s8).dh s9 (qI.bg s8) (by omega);have Qs:=s9.lt (s8.lt Gb);have Gd:M9 be:=(s9.mem be (by omega)).2 Mf;have Ge:M9 ba:=(s9.mem ba (by omega)).2 NK;refine ai rfl rfl (ad (ah (ae rfl rfl (gA rfl rfl rfl (by omega) (ai rfl rfl (ad ?_))))));refine⟨rfl,(many-1,(IntKind.i64.wrap (last+IntKind.i64.wrap ((get b a1).1+1))),v9,acc++[(IntKind.i64.wrap (last+IntKind.i64.wrap ((get b a1).1+1)))],(if(get b a1).2.2=0∧4611686018427387904-last-1<(get b a1).1 then 2 else(get b a1).2.2),(get b a1).2.1),(.cons rfl (.cons rfl (.cons rfl (.cons rfl (.cons rfl (.cons (show some (Value.int .i64 ((many:Int)-1))=some (Value.int .i64 ((many-1:Nat):Int))from by congr 2;omega) .nil)))))),?_,?_⟩
      ·have hx:(get b a1).2.2=0→¬4611686018427387904-last-1<(get b a1).1→(IntKind.i64.wrap (last+IntKind.i64.wrap ((get b a1).1+1)))=last+1+(get b a1).1:=fun h1 h2=>by rw[gU ((get b a1).1+1) (by omega),gU _ (by omega)];omega
       have Nl:many=(many-1)+1:=by omega
       have tu:=JP c6;rw[Nl]at tu;refine⟨by simp only;omega,fun h=>?_,fun h=>?_,fun h=>?_,by have:=fv c6;simp only[bJ,cr,gO];omega,M9,Qs,S9,by omega,Gd,Ge,JQ,?_,Qq,Qr⟩
       ·dsimp only at h ⊢;have h3:(get b a1).2.2=0∧¬4611686018427387904-last-1<(get b a1).1:=by split at h<;>omega
        rw[tu,lF acc h3.1 h3.2,hx h3.1 h3.2]
       ·dsimp only at h ⊢;rw[tu]
        split
        ·rename_i h4;rw[pT h4.1 h4.2];rfl
        ·rename_i h4
         have h5:(get b a1).2.2≠0:=by intro h6;rw[if_neg h4]at h;exact h h6
         rw[ou h5];unfold andThen;rw[if_pos h5]
       ·dsimp only at h ⊢;have h3:(get b a1).2.2=0∧¬4611686018427387904-last-1<(get b a1).1:=by split at h<;>omega
        have:=pS h3.1;rw[hx h3.1 h3.2];simp only[bJ,cr,gO];omega
       ·dsimp only
        first
        |(rw[if_pos ⟨xq,c9⟩];exact Gc)
        |(rw[if_neg (fun h=>c9 h.2)];exact Gc)
        |(rw[if_neg (fun h=>xq h.1)];exact Gc)
      ·simp only;omega
     ·refine aV (aj (ah (ae rfl rfl (ae rfl rfl (Rg.vV rfl rfl rfl (Rg.vV rfl rfl rfl (ai rfl rfl (ad (ah (ae rfl rfl (ae rfl rfl ?_)))))))))));refine eQ (A:=RT.int .i64) (hn:=by decide) (M:=M1) au I3 (by decide) rfl rfl Gb (gj (oF _)) (.inr ⟨rfl,rfl⟩) (fun u w8 hu s8=>?_);refine cO (M:=M1) (base:=w4.heap.size) au I3 rfl rfl rfl rfl (qI.bg s8) hu (aq _ _) (by simp;omega) (by simp;omega) (by have:=s8.size;omega) (fun v9 M9 w9 JQ s9=>?_);have z8:=s8.size;have z9:=s9.size;have iI:∀k,k<w4.heap.size→¬iT u0 k:=fun k hk h=>by have:=(ho.base k h).1;omega
      have Gc:=s9.bF (s8.aI Qn) (iI be (by omega));have Qq:=s9.bF (s8.aI Qo) (iI ba (by omega));have Qr:=s9.bF (s8.aI Qp) (iI bb (by omega));have S9:=(S6.ay s8).dh s9 (qI.bg s8) (by omega);have Qs:=s9.lt (s8.lt Gb);have Gd:M9 be:=(s9.mem be (by omega)).2 Mf;have Ge:M9 ba:=(s9.mem ba (by omega)).2 NK;refine ai rfl rfl (ad (ah (ae rfl rfl (gA rfl rfl rfl (by omega) (ai rfl rfl (ad ?_))))));refine⟨rfl,(many-1,(IntKind.i64.wrap (last+IntKind.i64.wrap ((get b a1).1+1))),v9,acc++[(IntKind.i64.wrap (last+IntKind.i64.wrap ((get b a1).1+1)))],(if(get b a1).2.2=0∧4611686018427387904-last-1<(get b a1).1 then 2 else(get b a1).2.2),(get b a1).2.1),(.cons rfl (.cons rfl (.cons rfl (.cons rfl (.cons rfl (.cons (show some (Value.int .i64 ((many:Int)-1))=some (Value.int .i64 ((many-1:Nat):Int))from by congr 2;omega) .nil)))))),?_,?_⟩
      ·have hx:(get b a1).2.2=0→¬4611686018427387904-last-1<(get b a1).1→(IntKind.i64.wrap (last+IntKind.i64.wrap ((get b a1).1+1)))=last+1+(get b a1).1:=fun h1 h2=>by rw[gU ((get b a1).1+1) (by omega),gU _ (by omega)];omega
       have Nl:many=(many-1)+1:=by omega
       have tu:=JP c6;rw[Nl]at tu;refine⟨by simp only;omega,fun h=>?_,fun h=>?_,fun h=>?_,by have:=fv c6;simp only[bJ,cr,gO];omega,M9,Qs,S9,by omega,Gd,Ge,JQ,?_,Qq,Qr⟩
       ·dsimp only at h ⊢;have h3:(get b a1).2.2=0∧¬4611686018427387904-last-1<(get b a1).1:=by split at h<;>omega
        rw[tu,lF acc h3.1 h3.2,hx h3.1 h3.2]
       ·dsimp only at h ⊢;rw[tu]
        split
        ·rename_i h4;rw[pT h4.1 h4.2];rfl
        ·rename_i h4
         have h5:(get b a1).2.2≠0:=by intro h6;rw[if_neg h4]at h;exact h h6
         rw[ou h5];unfold andThen;rw[if_pos h5]
       ·dsimp only at h ⊢;have h3:(get b a1).2.2=0∧¬4611686018427387904-last-1<(get b a1).1:=by split at h<;>omega
        have:=pS h3.1;rw[hx h3.1 h3.2];simp only[bJ,cr,gO];omega
       ·dsimp only
        first
        |(rw[if_pos ⟨xq,c9⟩];exact Gc)
        |(rw[if_neg (fun h=>c9 h.2)];exact Gc)
        |(rw[if_neg (fun h=>xq h.1)];exact Gc)
      ·simp only;omega
    ·refine ao rfl rfl rfl rfl (ao rfl rfl rfl rfl (ao rfl rfl rfl rfl (ao rfl rfl rfl rfl (ao rfl rfl rfl rfl (ax rfl rfl rfl (ad (hY rfl (aV (aj (ah (ae rfl rfl ?_)))))))))));refine ae rfl rfl (Rg.vV rfl rfl rfl (Rg.vV rfl rfl rfl (ai rfl rfl (ad (ah (ae rfl rfl (ae rfl rfl ?_)))))));refine eQ (A:=RT.int .i64) (hn:=by decide) (M:=M1) au I3 (by decide) rfl rfl Gb (gj (oF _)) (.inr ⟨rfl,rfl⟩) (fun u w8 hu s8=>?_);refine cO (M:=M1) (base:=w4.heap.size) au I3 rfl rfl rfl rfl (qI.bg s8) hu (aq _ _) (by simp;omega) (by simp;omega) (by have:=s8.size;omega) (fun v9 M9 w9 JQ s9=>?_);have z8:=s8.size;have z9:=s9.size;have iI:∀k,k<w4.heap.size→¬iT u0 k:=fun k hk h=>by have:=(ho.base k h).1;omega
     have Gc:=s9.bF (s8.aI Qn) (iI be (by omega));have Qq:=s9.bF (s8.aI Qo) (iI ba (by omega));have Qr:=s9.bF (s8.aI Qp) (iI bb (by omega));have S9:=(S6.ay s8).dh s9 (qI.bg s8) (by omega);have Qs:=s9.lt (s8.lt Gb);have Gd:M9 be:=(s9.mem be (by omega)).2 Mf;have Ge:M9 ba:=(s9.mem ba (by omega)).2 NK;refine ai rfl rfl (ad (ah (ae rfl rfl (gA rfl rfl rfl (by omega) (ai rfl rfl (ad ?_))))));refine⟨rfl,(many-1,(IntKind.i64.wrap (last+IntKind.i64.wrap ((get b a1).1+1))),v9,acc++[(IntKind.i64.wrap (last+IntKind.i64.wrap ((get b a1).1+1)))],(if(get b a1).2.2=0∧4611686018427387904-last-1<(get b a1).1 then 2 else(get b a1).2.2),(get b a1).2.1),(.cons rfl (.cons rfl (.cons rfl (.cons rfl (.cons rfl (.cons (show some (Value.int .i64 ((many:Int)-1))=some (Value.int .i64 ((many-1:Nat):Int))from by congr 2;omega) .nil)))))),?_,?_⟩
     ·have hx:(get b a1).2.2=0→¬4611686018427387904-last-1<(get b a1).1→(IntKind.i64.wrap (last+IntKind.i64.wrap ((get b a1).1+1)))=last+1+(get b a1).1:=fun h1 h2=>by rw[gU ((get b a1).1+1) (by omega),gU _ (by omega)];omega
      have Nl:many=(many-1)+1:=by omega
      have tu:=JP c6;rw[Nl]at tu;refine⟨by simp only;omega,fun h=>?_,fun h=>?_,fun h=>?_,by have:=fv c6;simp only[bJ,cr,gO];omega,M9,Qs,S9,by omega,Gd,Ge,JQ,?_,Qq,Qr⟩
      ·dsimp only at h ⊢;have h3:(get b a1).2.2=0∧¬4611686018427387904-last-1<(get b a1).1:=by split at h<;>omega
       rw[tu,lF acc h3.1 h3.2,hx h3.1 h3.2]
      ·dsimp only at h ⊢;rw[tu]
       split
       ·rename_i h4;rw[pT h4.1 h4.2];rfl
       ·rename_i h4
        have h5:(get b a1).2.2≠0:=by intro h6;rw[if_neg h4]at h;exact h h6
        rw[ou h5];unfold andThen;rw[if_pos h5]
      ·dsimp only at h ⊢;have h3:(get b a1).2.2=0∧¬4611686018427387904-last-1<(get b a1).1:=by split at h<;>omega
       have:=pS h3.1;rw[hx h3.1 h3.2];simp only[bJ,cr,gO];omega
      ·dsimp only
       first
       |(rw[if_pos ⟨xq,c9⟩];exact Gc)
       |(rw[if_neg (fun h=>c9 h.2)];exact Gc)
       |(rw[if_neg (fun h=>xq h.1)];exact Gc)
     ·simp only;omega
   ·refine cN (aj (aj (ah (aE qq rfl rfl rfl (by assumption) rfl (eW rfl rfl rfl (ad ?_))))));refine bI rfl (fun HU=>?_) (fun HU=>?_)
    ·refine aj ?_;apply T.kE mixed rfl rfl;intro L7 F2;have nI:=F2 M1;refine aE qq rfl rfl rfl (by first|assumption|exact bV nI (by assumption)) rfl ?_;refine ad ⟨rfl,rfl,rfl,?_⟩;refine ai rfl rfl ?_;refine ad ⟨rfl,rfl,rfl,?_⟩;refine ai rfl rfl ?_;refine ad ⟨rfl,rfl,rfl,?_⟩;refine ai rfl rfl ?_;refine ad ⟨rfl,rfl,rfl,?_⟩;refine fz (aJ ?_);have hr:=Nr HU;exact nJ rfl rfl rfl rfl ⟨_,by rw[hr]<;>rfl,by rw[hr];exact jN,(S.ay nI).back⟩
    ·refine aV (aj ?_);apply T.kE mixed rfl rfl;intro Mg Gf;have my:=Gf M1;refine ae rfl rfl ?_;refine ad ⟨rfl,rfl,rfl,?_⟩;refine aE ar rfl rfl rfl (by first|assumption|exact bV my (by assumption)) rfl ?_;refine ad ⟨rfl,rfl,rfl,?_⟩;refine ai rfl rfl ?_;refine ad ⟨rfl,rfl,rfl,?_⟩;refine ai rfl rfl ?_;refine ad ⟨rfl,rfl,rfl,?_⟩;refine ai rfl rfl ?_;refine ad ⟨rfl,rfl,rfl,?_⟩;refine fz (aJ ?_);have hz:many=0:=by omega
     have hr:=JP (by omega);rw[hz,rW]at hr;simp only[andThen,ne_eq,not_true_eq_false,if_false,rz]at hr;have Qt:=S.ay my;refine nJ rfl rfl rfl rfl ⟨_,by rw[hr]<;>rfl,?_,Qt.back⟩;rw[hr];exact Own.close hM Qt ((ho.bg my).rM (by omega)) (by simp only;omega)
  ·refine ao rfl rfl rfl rfl (ao rfl rfl rfl rfl (ax rfl rfl rfl (ad (hY rfl (cN (aj (aj (ah (aE qq rfl rfl rfl (by assumption) rfl (eW rfl rfl rfl (ad ?_)))))))))));refine bI rfl (fun HU=>?_) (fun HU=>?_)
   ·refine aj ?_;apply T.kE mixed rfl rfl;intro L7 F2;have nI:=F2 M1;refine aE qq rfl rfl rfl (by first|assumption|exact bV nI (by assumption)) rfl ?_;refine ad ⟨rfl,rfl,rfl,?_⟩;refine ai rfl rfl ?_;refine ad ⟨rfl,rfl,rfl,?_⟩;refine ai rfl rfl ?_;refine ad ⟨rfl,rfl,rfl,?_⟩;refine ai rfl rfl ?_;refine ad ⟨rfl,rfl,rfl,?_⟩;refine fz (aJ ?_);have hr:=Nr HU;exact nJ rfl rfl rfl rfl ⟨_,by rw[hr]<;>rfl,by rw[hr];exact jN,(S.ay nI).back⟩
   ·refine aV (aj ?_);apply T.kE mixed rfl rfl;intro Mg Gf;have my:=Gf M1;refine ae rfl rfl ?_;refine ad ⟨rfl,rfl,rfl,?_⟩;refine aE ar rfl rfl rfl (by first|assumption|exact bV my (by assumption)) rfl ?_;refine ad ⟨rfl,rfl,rfl,?_⟩;refine ai rfl rfl ?_;refine ad ⟨rfl,rfl,rfl,?_⟩;refine ai rfl rfl ?_;refine ad ⟨rfl,rfl,rfl,?_⟩;refine ai rfl rfl ?_;refine ad ⟨rfl,rfl,rfl,?_⟩;refine fz (aJ ?_);have hz:many=0:=by omega
    have hr:=JP (by omega);rw[hz,rW]at hr;simp only[andThen,ne_eq,not_true_eq_false,if_false,rz]at hr;have Qt:=S.ay my;refine nJ rfl rfl rfl rfl ⟨_,by rw[hr]<;>rfl,?_,Qt.back⟩;rw[hr];exact Own.close hM Qt ((ho.bg my).rM (by omega)) (by simp only;omega)
end Go.K
namespace Go.K
open Go.Proofs
set_option maxRecDepth 10000
theorem C9 {M:aA} {w0:World} {v u:Value} {a b:List Int} (hM:Lt M w0) (hv:((RT.int .i64).sl).V M w0 a v) (hu:((RT.int .i64).sl).V M w0 b u):
  Spec Tryz.prog 51 #[v,u] w0 (fun v' w'=>v'= .bool (decide (a=b))∧Step M w0 M w' aC):=by
 have YR:=dM hv;have Wo:=dM hu;refine aX (args:=[_,_]) (fn:=Tryz.f51) Tryz.func51 rfl (n:=26) Tryz.ntmps51 (aj (ah (ai rfl rfl (ad (aj (aj (ah (ae rfl rfl (bT au rfl hv rfl (ae rfl rfl (bT au rfl hu rfl ?_)))))))))));refine eW rfl rfl rfl (ad ?_);refine bI rfl (fun c1=>?_) (fun c1=>?_)
 ·refine aj (ah (ai rfl rfl (ad (aJ ?_))));refine aO rfl rfl ⟨?_,an _ _⟩;rw[decide_eq_false];rintro rfl;exact c1 rfl
 ·obtain hlen:a.length=b.length:=by omega
  refine aV (aj (aj (ah (ai rfl rfl (ad (bj ?_))))));refine dF (σ:=Nat) (fun s=>[(0,v),(1,u),(5,.int .i64 s)]) (fun s w=>s≤a.length∧a.take s=b.take s∧Step M w0 M w aC) (fun s=>a.length-s) 0 (.cons rfl (.cons rfl (.cons rfl .nil))) ?_ ?_
  ·exact⟨bH _,by simp,an _ _⟩
  ·rintro k w1 ⟨hk,heq,s1⟩;refine aj (aj (ah (ae rfl rfl (ae rfl rfl (bT au rfl hv rfl (cd rfl rfl rfl (ad ?_)))))));refine bI rfl (fun c4=>?_) (fun c4=>?_)
   ·refine aV (aj (bj (aj ?_)));obtain⟨x,hx⟩:∃x,a[k]? =some x:=⟨_,aN (by omega)⟩;obtain⟨y,hy⟩:∃y,b[k]? =some y:=⟨_,aN (by omega)⟩;apply T.draw (M:=M) mixed [b8.eq _,b8.eq _,b8.ptr (RT.int .i64) x,b8.eq _,b8.eq _,b8.eq _,b8.ptr (RT.int .i64) y,b8.eq _,b8.eq _]
    ·rfl
    ·refine aK ?_ ?_
     ·intro wD E sD;refine ae rfl rfl ?_;exact ad ⟨rfl,rfl,_,rfl,rfl,an _ _⟩
     refine aK ?_ ?_
     ·intro wD E sD;refine ae rfl rfl ?_;exact ad ⟨rfl,rfl,_,rfl,rfl,an _ _⟩
     refine aK ?_ ?_
     ·intro wD E sD;refine aw (aw ?_);refine dq (M:=M) au I3 rfl rfl rfl hv (by repeat (first|exact aq _ _|refine aT (aY (by assumption)) ?_)) (by omega) (fun K3 Wp Qu Gg=>?_);obtain rfl:Wp=x:=bM (Qu.symm.trans (by simpa using hx));exact ad ⟨rfl,rfl,_,rfl,Gg,an _ _⟩
     refine aK ?_ ?_
     ·intro wD E sD;intro v2 ny;refine cc (M:=M) ar rfl rfl (by assumption) (by repeat (first|exact aq _ _|refine aT (aY (by assumption)) ?_)) (fun Qv=>?_);exact ad ⟨rfl,rfl,_,rfl,rfl,an _ _⟩
     refine aK ?_ ?_
     ·intro wD E sD;refine ae rfl rfl ?_;exact ad ⟨rfl,rfl,_,rfl,rfl,an _ _⟩
     refine aK ?_ ?_
     ·intro wD E sD;refine ae rfl rfl ?_;exact ad ⟨rfl,rfl,_,rfl,rfl,an _ _⟩
     refine aK ?_ ?_
     ·intro wD E sD;refine aw (aw ?_);refine dq (M:=M) au I3 rfl rfl rfl hu (by repeat (first|exact aq _ _|refine aT (aY (by assumption)) ?_)) (by omega) (fun ady Wq Qw Qx=>?_);obtain rfl:Wq=y:=bM (Qw.symm.trans (by simpa using hy));exact ad ⟨rfl,rfl,_,rfl,Qx,an _ _⟩
     refine aK ?_ ?_
     ·intro wD E sD;intro v6 nR;refine cc (M:=M) ar rfl rfl (by assumption) (by repeat (first|exact aq _ _|refine aT (aY (by assumption)) ?_)) (fun ZI=>?_);exact ad ⟨rfl,rfl,_,rfl,rfl,an _ _⟩
     refine aK ?_ ?_
     ·intro wD E sD;refine aw (aw (eW rfl rfl rfl ?_));exact ad ⟨rfl,rfl,_,rfl,rfl,an _ _⟩
     exact bX.nil
    ·intro wD6 ZJ;refine aw (aw ?_);intro adz ZK;refine aw (aw (aw ?_));intro adA ZL;refine aw (aw ?_);refine bI rfl (fun c6=>?_) (fun c6=>?_)
     ·refine aj (ah (ai rfl rfl (ad (aJ ?_))));refine aO rfl rfl ⟨?_,s1.ay ZJ⟩;rw[decide_eq_false];rintro rfl;rw[hx]at hy;cases hy;exact c6 rfl
     ·refine aV (ah (ae rfl rfl (bB rfl rfl rfl (by omega) (ai rfl rfl (ad ?_)))));refine⟨rfl,k+1,(.cons rfl (.cons rfl (.cons rfl .nil))),?_,?_⟩
      ·exact⟨by omega,by rw[fa (by omega),fa (by omega),heq];obtain⟨_,h1⟩:=av.1 hx;obtain⟨_,h2⟩:=av.1 hy;rw[h1,h2,dV.1 c6],s1.ay ZJ⟩
      ·show a.length-(k+1)<a.length-k;omega
   ·refine cN (aj (ah (ai rfl rfl (ad (aJ ?_)))));refine aO rfl rfl ⟨?_,s1⟩;rw[decide_eq_true]
    rwa [bp (by omega),bp (by omega)]at heq
end Go.K
namespace Go.K
open Go.Proofs
set_option maxRecDepth 10000
theorem Cc {M:aA} {w0:World} {v:Value} {x:Li} (hv:ch RT.li M w0 v x) {k:Int}:
  Spec Tryz.prog 214 #[v,.int .i64 k] w0 (fun v' w'=>v'= .bool (Eb x.2.1.length k)∧w0=w'):=by
 refine aX (args:=[_,_]) (fn:=Tryz.f214) Tryz.func214 rfl (n:=16) Tryz.ntmps214 (aj (ah (ai rfl rfl (ad (aj (ah (ae rfl rfl (dy rfl rfl rfl (ae rfl rfl ?_)))))))));refine aG (g:=7) rfl (fun fF=>?_) (fun fF=>?_)
 ·refine al rfl rfl (ae rfl rfl (al rfl rfl (ae rfl rfl (al rfl rfl (aQ rfl (ch.iZ (by assumption)) rfl (al rfl rfl ?_))))));refine aH (M:=M) (A:=RT.li) (B:=(RT.bl).sl) du rfl rfl Af (by decide) (R0) rfl rfl (by decide) (by assumption) (by repeat (first|exact aq _ _|refine aT (aY (by assumption)) ?_)) (fun adB ZM=>?_);refine al rfl rfl ?_;refine cf (M:=M) dP rfl rfl rfl rfl rfl (by assumption) (by repeat (first|exact aq _ _|refine aT (aY (by assumption)) ?_)) (fun Wr Qy=>?_);refine al rfl rfl ?_
  first|refine bT dP rfl (by assumption) rfl ?_|refine gB dP rfl (by assumption) rfl ?_
  refine al rfl rfl (cd rfl rfl rfl (aR rfl rfl rfl (ai rfl rfl (ad (aJ ?_)))))
  first
  |exact aO rfl rfl ⟨congrArg Value.bool (decide_eq_decide.2 (by omega)),rfl⟩
  |exact aO rfl rfl ⟨congrArg Value.bool (eF (decide_eq_false (by omega))),rfl⟩
 ·refine ao rfl rfl rfl rfl (ao rfl rfl rfl rfl (ao rfl rfl rfl rfl (ao rfl rfl rfl rfl (ao rfl rfl rfl rfl (ao rfl rfl rfl rfl (ao rfl rfl rfl rfl (ax rfl rfl rfl (ai rfl rfl (ad (aJ ?_))))))))))
  first
  |exact aO rfl rfl ⟨congrArg Value.bool (decide_eq_decide.2 (by omega)),rfl⟩
  |exact aO rfl rfl ⟨congrArg Value.bool (eF (decide_eq_false (by omega))),rfl⟩
theorem kx {M:aA} {w0:World} {v:Value} {x:Li} (hv:ch RT.li M w0 v x):
  Spec Tryz.prog 183 #[v] w0 (fun v' w'=>v'= .int .i64 x.2.1.length∧w0=w'):=by
 refine aX (args:=[_]) (fn:=Tryz.f183) Tryz.func183 rfl (n:=8) Tryz.ntmps183 (aj (ah (ai rfl rfl (ad (aj (ah (ae rfl rfl (aQ rfl (ch.iZ (by assumption)) rfl ?_))))))));refine aH (M:=M) (A:=RT.li) (B:=(RT.bl).sl) du rfl rfl Af (by decide) (R0) rfl rfl (by decide) (by assumption) (by repeat (first|exact aq _ _|refine aT (aY (by assumption)) ?_)) (fun Ik ti=>?_);refine cf (M:=M) dP rfl rfl rfl rfl rfl (by assumption) (by repeat (first|exact aq _ _|refine aT (aY (by assumption)) ?_)) (fun P0 FC=>?_)
 first|refine bT dP rfl (by assumption) rfl ?_|refine gB dP rfl (by assumption) rfl ?_
 refine ai rfl rfl (ad (aJ ?_));exact aO rfl rfl ⟨rfl,rfl⟩
theorem Da {M:aA} {w0:World} {v:Value} {x:Li} (hv:ch RT.li M w0 v x) {k:Int}:
  Spec Tryz.prog 184 #[v,.int .i64 k] w0 (fun v' w'=>v'= .int .i64 (yd x.2.1 k)∧w0=w'):=by
 refine aX (args:=[_,_]) (fn:=Tryz.f184) Tryz.func184 rfl (n:=17) Tryz.ntmps184 (aj (ah (ai rfl rfl (ad (aj (aj (ah (ae rfl rfl (ae rfl rfl ?_)))))))));refine aP rfl rfl OI (Cc hv (k:=k)) (fun r w1 h1=>?_);obtain⟨rfl,rfl⟩:=h1;refine Rg.not rfl rfl (bz (v':= .bool (decide (¬(0≤k∧k<x.2.1.length)))) (by unfold Eb;rw[decide_not]) (ad ?_));refine bI rfl (fun c1=>?_) (fun c1=>?_)
 ·refine aj (ah (ai rfl rfl (ad (aJ ?_))));exact aO rfl rfl ⟨by unfold yd Eb;rw[if_neg (by simpa using c1)],rfl⟩
 ·refine aV (aj (ah (ae rfl rfl (aQ rfl (ch.iZ (by assumption)) rfl ?_))));refine aH (M:=M) (A:=RT.li) (B:=(RT.bl).sl) du rfl rfl Af (by decide) (R0) rfl rfl (by decide) (by assumption) (by repeat (first|exact aq _ _|refine aT (aY (by assumption)) ?_)) (fun HY ta=>?_);refine cf (M:=M) dP rfl rfl rfl rfl rfl (by assumption) (by repeat (first|exact aq _ _|refine aT (aY (by assumption)) ?_)) (fun Qz JR=>?_);refine ae rfl rfl ?_;obtain⟨b,hb⟩:∃b,x.2.1[k.toNat]? =some b:=⟨_,aN (by omega)⟩;refine dq (M:=M) dP tZ rfl rfl rfl (by assumption) (aq _ _) (by omega) (fun Ws Mh Gh QA=>?_);obtain rfl:Mh=b:=bM (Gh.symm.trans hb);refine aH (M:=M) (A:=RT.bl) (B:=RT.int .i64) jL rfl rfl I3 (by decide) (bl2) rfl rfl (by decide) (by assumption) (by repeat (first|exact aq _ _|refine aT (aY (by assumption)) ?_)) (fun adC ZN=>?_);refine cc (M:=M) ar rfl rfl (by assumption) (by repeat (first|exact aq _ _|refine aT (aY (by assumption)) ?_)) (fun ZO=>?_);refine ai rfl rfl (ad (aJ ?_));exact aO rfl rfl ⟨by unfold yd Eb;rw[if_pos (by simpa using c1),bG,hb];rfl,rfl⟩
theorem A2 {M:aA} {w0:World} {v:Value} {b:List UInt8} {at_ ahead:Int} (hM:Lt M w0) (hv:(RT.u8.sl).V M w0 b v) (NJ: -9223372036854775808≤at_∧at_≤9223372036854775807) (hah: -9223372036854775808≤ahead∧ahead≤9223372036854775807) (zP:b.length≤1099511627776):
  Spec Tryz.prog 215 #[v,.int .i64 at_,.int .i64 ahead] w0 (fun v' w'=>∃p,v'= .tuple #[p,.int .i64 (nN b at_ ahead).2.1,.int .i64 (nN b at_ ahead).2.2]∧RT.po.V M w' (nN b at_ ahead).1 p∧Step M w0 M w' aC):=by
 refine aX (args:=[_,_,_]) (fn:=Tryz.f215) Tryz.func215 rfl (n:=38) Tryz.ntmps215 (aj (ah ?_));refine eX M gu rfl (fun b0 w1 hb0 adD hB s1=>?_);have rb:=s1.lt hM;have mn:=hv.le s1.le;refine ai rfl rfl (ai rfl rfl (ad (aj (ah (ae rfl rfl (ae rfl rfl ?_))))));refine aP rfl rfl ON (zi mn NJ) (fun r w2 h2=>?_);obtain⟨rfl,rfl⟩:=h2;have rK:=uQ b at_;obtain⟨Wn,ZF,ZG,ZH⟩:=lG b at_;refine ae rfl rfl (bP rfl rfl rfl (bP rfl rfl rfl (bP rfl rfl rfl (ai rfl rfl (ai rfl rfl (ai rfl rfl (ad (aj (aj (ah (ae rfl rfl ?_)))))))))));refine eW rfl rfl rfl (ad ?_);refine bI rfl (fun c2=>?_) (fun c2=>?_)
 ·refine aj (ah (dZ (places:=[(0,1),(1,1)]) bK gu HE rfl rfl (out:=[.int .i64 0,.slice none 0 0]) rfl (ae rfl rfl ?_)));refine fc (M:=ins M b0) gu rfl rfl (by intro u hu;simp at hu;rcases hu with rfl|rfl<;>rfl) rfl rfl hB (.inl rfl) (fun w3 hB3 s3=>?_);refine ai rfl rfl (ai rfl rfl (ad (aJ ?_)));have iK:=s1.size;have S:Step M w0 M w3 aC:=(s1.cu s3 (fun k hk=>by subst hk;omega)).back;refine D8 rfl rfl bK rfl gu rfl hB3 rfl rfl ⟨_,by unfold nN;rw[if_pos c2]<;>rfl,?_,S⟩;unfold nN;rw[if_pos c2];exact dY (gj (x:=0) (by omega)) jN rfl rfl rfl rfl
 ·refine aV (aj (ah (ae rfl rfl (ae rfl rfl ?_))));have fv:=pS (b:=b) (at_:=at_) (by omega);refine aP rfl rfl T7 (tt (M:=ins M b0) rb mn (by omega) zP) (fun r w3 h3=>?_);obtain⟨x3,rfl,QB,s3⟩:=h3;refine ae rfl rfl (bP rfl rfl rfl (bP rfl rfl rfl (bP rfl rfl rfl (ai rfl rfl (ai rfl rfl (ai rfl rfl (ad (aj (ah (ae rfl rfl (Rg.vV rfl rfl rfl ?_)))))))))));refine ae rfl rfl (Rg.vV rfl rfl rfl (ae rfl rfl (dZ (places:=[(0,1),(1,1)]) bK gu HE rfl ⟨_,_,rfl,rfl,_,_,rfl,rfl,rfl⟩ (out:=[_,_]) ⟨0,[_],rfl,rfl,by simp[Value.cells],1,[_],rfl,ik QB,by simp[Value.cells],rfl⟩ (ae rfl rfl (ae rfl rfl ?_)))));obtain⟨vx,sK⟩:∃vx,vx=x3:=⟨_,rfl⟩;have pL:=jY QB rfl rfl;refine fc (M:=ins M b0) gu rfl rfl (by intro u hu;simp at hu;rcases hu with rfl|rfl;rfl;exact pL) rfl rfl (s3.aI hB) (.inl rfl) (fun w4 Sq s4=>?_);refine ai rfl rfl (ai rfl rfl (ad (aJ ?_)));have iK:=s1.size;have adF:=s3.size;have S3:=s1.ay s3;have S:Step M w0 M w4 aC:=(S3.cu s4 (fun k hk=>by subst hk;omega)).back;refine D8 rfl rfl bK rfl gu rfl Sq rfl rfl ⟨_,by unfold nN;rw[if_neg c2]<;>rfl,?_,S⟩;unfold nN;rw[if_neg c2];have hx4:=(QB.le s4.le).le (Le.close hM (S3.cu s4 (fun k hk=>by subst hk;omega)));exact dY (gj D9) hx4 rfl rfl rfl rfl
theorem A3 {M:aA} {w0:World} {v:Value} {l:List Po} {k:Int} (hM:Lt M w0) (hv:ch RT.li M w0 v (gJ l)) (pw:dQ (-1) l=true) (qW:∀p∈l,p.2.length≤1099511627776) (zP:(dx (-1) l).length≤1099511627776):
  Spec Tryz.prog 180 #[v,.int .i64 k] w0 (fun v' w'=>Step M w0 M w' aC∧((RT.po).sl).V M w' (if Eb ((l.length+7)/8) k then(l.drop (8*k.toNat)).take 8 else[]) v'):=by
 have QC:(gJ l).2.1.length=(l.length+7)/8:=by simp[gJ,mg]
 refine aX (args:=[_,_]) (fn:=Tryz.f180) Tryz.func180 rfl (n:=51) Tryz.ntmps180 (aj (ah (ai rfl rfl (ad (aj (aj (ah (ae rfl rfl (ae rfl rfl ?_)))))))));refine aP rfl rfl OI (Cc hv (k:=k)) (fun r w1 h1=>?_);obtain⟨rfl,rfl⟩:=h1;refine Rg.not rfl rfl (bz (v':= .bool (decide (¬(0≤k∧k<(gJ l).2.1.length)))) (by unfold Eb;rw[decide_not]) (ad ?_));refine bI rfl (fun c1=>?_) (fun c1=>?_)
 ·refine aj (ah (ai rfl rfl (ad (aJ ?_))));refine aO rfl rfl ⟨an _ _,?_⟩;rw[if_neg (by unfold Eb;rw[QC]at c1;simpa using c1)];exact jN
 ·refine aV (aj (ah (ae rfl rfl (aQ rfl (ch.iZ (by assumption)) rfl ?_))));refine aH (M:=M) (A:=RT.li) (B:=(RT.bl).sl) du rfl rfl Af (by decide) (R0) rfl rfl (by decide) (by assumption) (by repeat (first|exact aq _ _|refine aT (aY (by assumption)) ?_)) (fun HY ta=>?_);refine cf (M:=M) dP rfl rfl rfl rfl rfl (by assumption) (by repeat (first|exact aq _ _|refine aT (aY (by assumption)) ?_)) (fun Qz JR=>?_);refine ae rfl rfl ?_;obtain⟨j,rfl⟩:∃j:Nat,k=j:=⟨k.toNat,by omega⟩;have hb:(gJ l).2.1[j]? =some (oW l j):=by simp only[gJ,mg,ey];rw[List.getElem?_range (by omega)];rfl
  refine dq (M:=M) dP tZ rfl rfl rfl (by assumption) (aq _ _) (by omega) (fun Ws Mh Gh QA=>?_);obtain rfl:Mh=oW l j:=bM (Gh.symm.trans (by simpa using hb));have JG:(oW l j).2.2.2=(((l.drop (8*j)).take 8).length:Int):=rfl;have ZQ:((l.drop (8*j)).take 8).length≤8:=by rw[bU];omega
  refine cC (M:=M) (A:=RT.bl) jL rfl tZ (by decide) rfl rfl rfl (by assumption) (by repeat (first|exact aq _ _|refine aT (aY (by assumption)) ?_)) (fun adH ZR=>?_);refine oc (A:=RT.bl) (M:=M) tZ rfl rfl rfl rfl rfl (by assumption) (by repeat (first|exact aq _ _|refine aT (aY (by assumption)) ?_)) (by first|assumption|exact Step.lt (by assumption) (by assumption)|exact Step.lt (by assumption) (Step.lt (by assumption) (by assumption))) (fun Wt Mi ZS Mj adI=>?_);refine ad (aj (ah (ai rfl rfl (ad (aj (aj ?_))))));apply T.draw (M:=M) mixed [b8.ptr (RT.int .i64) (oW l j).1,b8.eq _,b8.ptr (RT.int .i64) (oW l j).2.1,b8.eq _,b8.eq _,b8.eq _]
  ·rfl
  ·refine aK ?_ ?_
   ·intro wD E sD;refine aH (M:=M) (A:=RT.bl) (B:=RT.int .i64) jL rfl rfl I3 (by decide) (bl0) rfl rfl (by decide) (by assumption) (by repeat (first|exact aq _ _|refine aT (aY (by assumption)) ?_)) (fun Ql Cb=>?_);exact ad ⟨rfl,rfl,_,rfl,by assumption,an _ _⟩
   refine aK ?_ ?_
   ·intro wD E sD;intro v0 G2;refine cc (M:=M) ar rfl rfl (by assumption) (by repeat (first|exact aq _ _|refine aT (aY (by assumption)) ?_)) (fun JS=>?_);exact ad ⟨rfl,rfl,_,rfl,rfl,an _ _⟩
   refine aK ?_ ?_
   ·intro wD E sD;refine aH (M:=M) (A:=RT.bl) (B:=RT.int .i64) jL rfl rfl I3 (by decide) (bl1) rfl rfl (by decide) (by assumption) (by repeat (first|exact aq _ _|refine aT (aY (by assumption)) ?_)) (fun Wu qP=>?_);exact ad ⟨rfl,rfl,_,rfl,by assumption,an _ _⟩
   refine aK ?_ ?_
   ·intro wD E sD;intro v2 ny;refine cc (M:=M) ar rfl rfl (by assumption) (by repeat (first|exact aq _ _|refine aT (aY (by assumption)) ?_)) (fun ZT=>?_);exact ad ⟨rfl,rfl,_,rfl,rfl,an _ _⟩
   refine aK ?_ ?_
   ·intro wD E sD;refine aw ?_;intro v0 G2;refine aw (ai rfl rfl ?_);exact ad ⟨rfl,rfl,_,rfl,rfl,an _ _⟩
   refine aK ?_ ?_
   ·intro wD E sD;refine aw (aw ?_);intro v0 G2;refine aw ?_;intro v2 ny;refine aw (aw (ai rfl rfl ?_));exact ad ⟨rfl,rfl,_,rfl,rfl,an _ _⟩
   exact bX.nil
  ·intro NH xo;intro adJ ZU;refine aw ?_;intro UY Jq;refine aw (aw (aw (bj ?_)));have ZV:=Mj.size;refine dF (σ:=Nat×Value) (fun s=>[(0,v),(5,Wt),(6,s.2),(7,.int .i64 (dx (-1) (l.take (8*j+s.1))).length),(8,.int .i64 (bW (-1) (l.take (8*j+s.1))))]) (fun s w=>s.1≤((l.drop (8*j)).take 8).length∧∃M1,Lt M1 w∧Step M w0 M1 w aC∧Step M Mi M1 w aC∧Own RT.po 153 M1 w Mi.heap.size s.2 (((l.drop (8*j)).take 8).take s.1)) (fun s=>((l.drop (8*j)).take 8).length-s.1) (0,_) (.cons rfl (.cons rfl (.cons rfl (.cons rfl (.cons rfl .nil))))) ?_ ?_
   ·exact⟨bH _,M,xo.lt (Mj.lt hM),Mj.ay xo,xo,ec _ _ _ _ _⟩
   ·rintro⟨i,u0⟩ w1 ⟨hi,M1,rb,S,S5,ho⟩;dsimp only at hi ho ⊢;refine aj (aj (ah (ae rfl rfl (gB aW rfl ho rfl (bz (v':= .int .i64 i) (by rw[bU,Nat.min_eq_left hi]) ?_)))));refine aH (M:=M1) (A:=RT.bl) (B:=RT.int .i64) jL rfl rfl I3 (by decide) (bl3) rfl rfl (by decide) (by assumption) (by repeat (first|exact aq _ _|refine aT (aY (by assumption)) ?_)) (fun K3 Gg=>?_);refine cc (M:=M1) ar rfl rfl Gg (aq _ _) (fun Qv=>?_);refine bz (v':= .int .i64 ((l.drop (8*j)).take 8).length) rfl (cd rfl rfl rfl (ad ?_));refine bI rfl (fun c6=>?_) (fun c6=>?_)
    ·refine aV (bj (aj (ah (ae rfl rfl (aQ rfl (ch.iZ (by assumption)) rfl ?_)))));refine aH (M:=M1) (A:=RT.li) (B:=RT.u8.sl) du rfl rfl ym (by decide) (li0) rfl rfl (by decide) (by assumption) (by repeat (first|exact aq _ _|refine aT (aY (by assumption)) ?_)) (fun Vy vB=>?_);refine cf (M:=M1) bm rfl rfl rfl rfl rfl (by assumption) (by repeat (first|exact aq _ _|refine aT (aY (by assumption)) ?_)) (fun adK QD=>?_);refine ae rfl rfl (ae rfl rfl ?_);obtain⟨⟨d,ps⟩,hx⟩:∃x,l[8*j+i]? =some x:=⟨_,aN (by rw[bU,cM]at c6;omega)⟩;obtain⟨f1,f2,f3,f4,f5,f6⟩:=mO pw hx;have HR:nN (gJ l).1 _ _=_:=Ec pw hx (qW _ (aL hx));have Cq:(dx (-1) (l.take (8*j+i))).length≤(dx (-1) l).length:=by rw[mP (l:=l) (i:=8*j+i) (-1)];simp
     refine aP rfl rfl TZ (A2 (M:=M1) rb QD (by omega) (by omega) zP) (fun r7 w7 h7=>?_);obtain⟨p7,ZW,NL,s7⟩:=h7;rw[HR]at ZW NL;subst ZW;change RT.po.V M1 w7 (d,ps) p7 at NL;replace S:=S.ay s7;replace S5:=S5.ay s7;replace ho:=ho.bg s7;replace rb:=s7.lt rb;have hci:((l.drop (8*j)).take 8)[i]? =some (d,ps):=by rw[dE,if_pos (by omega),List.getElem?_drop];exact hx
     refine ae rfl rfl (bP rfl rfl rfl (bP rfl rfl rfl (bP rfl rfl rfl ?_)));refine oc (A:=RT.po) (M:=M1) gu rfl rfl rfl rfl rfl (by assumption) (by repeat (first|exact aq _ _|refine aT (aY (by assumption)) ?_)) (by first|assumption|exact Step.lt (by assumption) (by assumption)|exact Step.lt (by assumption) (Step.lt (by assumption) (by assumption))) (fun ZX ZY Gi Cd ZZ=>?_);refine ai rfl rfl (ai rfl rfl (ad (aj (ah (ae rfl rfl ?_)))));replace S:=S.ay Cd;replace S5:=S5.ay Cd;replace ho:=ho.bg Cd;replace rb:=Cd.lt rb;clear NL;refine cC (M:=M1) (A:=RT.po) bK rfl gu (by decide) rfl rfl rfl Gi (aq _ _) (fun v8 Ca=>?_);refine eQ (A:=RT.po) (hn:=by decide) (M:=M1) aW gu (by decide) rfl rfl rb Ca (.inl rfl) (fun u2 w2 qY s2=>?_);refine cO (M:=M1) (base:=Mi.heap.size) aW gu rfl rfl rfl rfl (ho.bg s2) qY (aq _ _) (by simp;omega) (by simp;omega) (fK S5.size s2.size) (fun v3 M3 w3 Hd s3=>?_);replace S:=(S.ay s2).dh s3 (ho.bg s2) ZV;have Ly:=(Gi.le (by decide) s2.le).le (by decide) s3.le;have hM3:=s3.lt (s2.lt rb);replace S5:=(S5.ay s2).dh s3 (ho.bg s2) (bh _);refine ai rfl rfl (ad ?_);apply T.draw (M:=M3) mixed [b8.eq _,b8.ptr (RT.int .i64) d,b8.eq _,b8.eq _,b8.eq _]
     ·rfl
     ·refine aK ?_ ?_
      ·intro wD E sD;refine ae rfl rfl ?_;exact ad ⟨rfl,rfl,_,rfl,rfl,an _ _⟩
      refine aK ?_ ?_
      ·intro wD E sD;refine aH (M:=M3) (A:=RT.po) (B:=RT.int .i64) bK rfl rfl I3 (by decide) (G6) rfl rfl (by decide) Ly sD.le (fun VJ FV=>?_);exact ad ⟨rfl,rfl,_,rfl,FV,an _ _⟩
      refine aK ?_ ?_
      ·intro wD E sD;intro v1 mn;refine cc (M:=M3) ar rfl rfl (by assumption) (by repeat (first|exact aq _ _|refine aT (aY (by assumption)) ?_)) (fun Z0=>?_);exact ad ⟨rfl,rfl,_,rfl,rfl,an _ _⟩
      refine aK ?_ ?_
      ·intro wD E sD;refine aw (aw (ai rfl rfl ?_));exact ad ⟨rfl,rfl,_,rfl,rfl,an _ _⟩
      refine aK ?_ ?_
      ·intro wD E sD;refine aw (aw (aw ?_));intro v1 mn;refine aw (aw (ai rfl rfl ?_));exact ad ⟨rfl,rfl,_,rfl,rfl,an _ _⟩
      exact bX.nil
     ·intro NM Ce;refine aw ?_;intro adN Z1;refine aw (aw (aw ?_));refine⟨rfl,(i+1,v3),(.cons rfl (.cons rfl (.cons rfl (.cons rfl (.cons (by rw[←f5];rfl) .nil))))),?_,?_⟩
      ·refine⟨by simp only;omega,M3,Ce.lt hM3,S.ay Ce,S5.ay Ce,?_⟩;simp only;obtain⟨R4,G8⟩:=av.1 hci;rw[fa R4,G8];exact Hd.bg Ce
      ·simp only;omega
    ·refine cN (aj (ah (ae rfl rfl (ai rfl rfl (ad (aJ ?_))))));refine aO rfl rfl ⟨S.back,?_⟩;rw[if_pos (by unfold Eb;rw[QC]at c1;simpa using c1),az];rw[bp (by omega)]at ho;exact Own.close hM S (ho.rM ZV) (by omega)
end Go.K
namespace Go.K
open Go.Proofs
set_option maxRecDepth 10000
theorem zk {M:aA} {w0:World} {v:Value} {l:List Int} (hv:((RT.int .i64).sl).V M w0 l v):
  Spec Tryz.prog 212 #[v] w0 (fun v' w'=>v'= .bool (lH l)∧w0=w'):=by
 have hlen:=dM hv;refine aX (args:=[_]) (fn:=Tryz.f212) Tryz.func212 rfl (n:=32) Tryz.ntmps212 (aj (ah (ai rfl rfl (ad (aj (aj (ah (ae rfl rfl ?_))))))))
 first|refine bT au rfl (by assumption) rfl ?_|refine gB au rfl (by assumption) rfl ?_
 refine ae rfl rfl (ad (bj ?_));refine dF (σ:=Nat×Int) (fun s=>[(0,v),(5,v),(6,.int .i64 l.length),(7,.int .i64 s.1)]) (fun s w=>w0=w∧s.1≤l.length∧lH l=(eB s.2 (l.drop s.1)&&(l.drop s.1).all (fun n=>decide (n<2147483648)))∧ -1≤s.2∧(s.1=0→s.2= -1)∧(0<s.1→l[s.1-1]? =some s.2)) (fun s=>l.length-s.1) (0,-1) (.cons rfl (.cons rfl (.cons rfl (.cons rfl .nil)))) ?_ ?_
 ·exact⟨rfl,bH _,rfl,by decide,fun _=>rfl,fun h=>absurd h (ie 0)⟩
 ·rintro⟨k,last⟩ w1 ⟨rfl,hk,hr,NI,h0,h1⟩;dsimp only at hk hr NI h0 h1 ⊢;refine aj (ah (cd rfl rfl rfl (ad (aj ?_))));refine bI rfl (fun c2=>?_) (fun c2=>?_)
  ·refine aV (aj (bj (aj (ah (ae rfl rfl ?_)))));obtain⟨x,hx⟩:∃x,l[k]? =some x:=⟨_,aN (by omega)⟩;refine dq (M:=M) au I3 rfl rfl rfl hv (aq _ _) (by omega) (fun adO Wv QE Z2=>?_);obtain rfl:x=Wv:=eF (bM (QE.symm.trans (by simpa using hx)));refine cc (M:=M) ar rfl rfl (by assumption) (by repeat (first|exact aq _ _|refine aT (aY (by assumption)) ?_)) (fun Z3=>?_);refine ai rfl rfl (ai rfl rfl (ad (aj (ah (ae rfl rfl (cd rfl rfl rfl (ae rfl rfl ?_)))))));refine aG (g:=14) rfl (fun F7=>?_) (fun F7=>?_)
   ·refine ao rfl rfl rfl rfl (ao rfl rfl rfl rfl (aR rfl rfl rfl (ae rfl rfl (ao rfl rfl rfl rfl (ao rfl rfl rfl rfl (ao rfl rfl rfl rfl (ca rfl rfl rfl (ca rfl rfl rfl (ca rfl rfl rfl (ca rfl rfl rfl (ca rfl rfl rfl ?_)))))))))));refine ca rfl rfl rfl (ca rfl rfl rfl (ao rfl rfl rfl rfl (aR rfl rfl rfl (ad (ly rfl (aj (ah (ai rfl rfl (ad (aJ ?_))))))))));refine aO rfl rfl ⟨congrArg Value.bool (eF ?_),rfl⟩;rw[hr,eS hx,mQ _ hx];by_cases h7:last<x
    ·have h2: ¬x<2147483648:=by omega
     simp[h2]
    ·simp[h7]
   ·refine al rfl rfl (ae rfl rfl (al rfl rfl (dy rfl rfl rfl (ax rfl rfl rfl (ae rfl rfl ?_)))));refine aG (g:=18) rfl (fun Ww=>?_) (fun Ww=>?_)
    ·refine ao rfl rfl rfl rfl (ao rfl rfl rfl rfl (ao rfl rfl rfl rfl (ca rfl rfl rfl (ca rfl rfl rfl (ca rfl rfl rfl (ca rfl rfl rfl (ca rfl rfl rfl (ca rfl rfl rfl (ca rfl rfl rfl (ao rfl rfl rfl rfl (aR rfl rfl rfl ?_)))))))))));refine ad (ly rfl (aj (ah (ai rfl rfl (ad (aJ ?_))))));refine aO rfl rfl ⟨congrArg Value.bool (eF ?_),rfl⟩;rw[hr,eS hx,mQ _ hx];by_cases h7:last<x
     ·have h2: ¬x<2147483648:=by omega
      simp[h2]
     ·simp[h7]
    ·refine al rfl rfl (ae rfl rfl (al rfl rfl (nD rfl rfl rfl (al rfl rfl (ae rfl rfl ?_)))));refine aG (g:=21) rfl (fun Wx=>?_) (fun Wx=>?_)
     ·refine al rfl rfl (ae rfl rfl (al rfl rfl (ae rfl rfl (al rfl rfl (ae rfl rfl (al rfl rfl (gA rfl rfl rfl (by omega) (al rfl rfl ?_))))))));refine dq (M:=M) au I3 rfl rfl rfl hv (aq _ _) (by omega) (fun Z4 QF Mk Wy=>?_);obtain rfl:last=QF:=eF (bM (Mk.symm.trans (by rw[show((k:Int)-1).toNat=k-1 from by omega];exact h1 (by omega))));refine al rfl rfl ?_;refine cc (M:=M) ar rfl rfl (by assumption) (by repeat (first|exact aq _ _|refine aT (aY (by assumption)) ?_)) (fun Wz=>?_);refine al rfl rfl (eP rfl rfl rfl (al rfl rfl (aR rfl rfl rfl (ax rfl rfl rfl (ad ?_)))));refine bI rfl (fun c4=>?_) (fun c4=>?_)
      ·refine aj (ah (ai rfl rfl (ad (aJ ?_))));refine aO rfl rfl ⟨congrArg Value.bool (eF ?_),rfl⟩;rw[hr,eS hx,mQ _ hx];by_cases h7:last<x
       ·have h2: ¬x<2147483648:=by omega
        simp[h2]
       ·simp[h7]
      ·refine aV (ah (bB rfl rfl rfl (by omega) (ae rfl rfl (ad ?_))));refine⟨rfl,(k+1,x),(.cons rfl (.cons rfl (.cons rfl (.cons rfl .nil)))),?_,?_⟩
       ·refine⟨rfl,by simp only;omega,?_,by simp only;omega,fun h=>by simp at h,fun _=>by simpa using hx⟩;rw[hr,eS hx,mQ _ hx,decide_eq_true (show last<x by omega),decide_eq_true (show x<2147483648 by omega),dv,dv]
       ·simp only;omega
     ·refine ao rfl rfl rfl rfl (ao rfl rfl rfl rfl (ao rfl rfl rfl rfl (ao rfl rfl rfl rfl (ao rfl rfl rfl rfl (ao rfl rfl rfl rfl (ao rfl rfl rfl rfl (al rfl rfl (ax rfl rfl rfl (ax rfl rfl rfl (ad (hY rfl ?_)))))))))));refine aV (ah (bB rfl rfl rfl (by omega) (ae rfl rfl (ad ?_))));refine⟨rfl,(k+1,x),(.cons rfl (.cons rfl (.cons rfl (.cons rfl .nil)))),?_,?_⟩
      ·refine⟨rfl,by simp only;omega,?_,by simp only;omega,fun h=>by simp at h,fun _=>by simpa using hx⟩;rw[hr,eS hx,mQ _ hx,decide_eq_true (show last<x by omega),decide_eq_true (show x<2147483648 by omega),dv,dv]
      ·simp only;omega
  ·refine cN (aj (ah (ai rfl rfl (ad (aJ ?_)))));refine aO rfl rfl ⟨congrArg Value.bool (eF ?_),rfl⟩;rw[hr,ei (by omega)];rfl
theorem Db {M:aA} {w0:World} {v:Value} {l:List Po} (hM:Lt M w0) (hv:((RT.po).sl).V M w0 l v):
  Spec Tryz.prog 171 #[v] w0 (fun v' w'=>v'= .bool (dQ (-1) l)∧Step M w0 M w' aC):=by
 have hlen:=dM hv;refine aX (args:=[_]) (fn:=Tryz.f171) Tryz.func171 rfl (n:=36) Tryz.ntmps171 (aj (ah (ai rfl rfl (ad (aj (ah (ai rfl rfl (ad (aj (aj (ah ?_)))))))))));refine ae rfl rfl ?_
 first|refine bT aW rfl (by assumption) rfl ?_|refine gB aW rfl (by assumption) rfl ?_
 refine ae rfl rfl (ad (bj ?_));refine dF (σ:=Nat×Int) (fun s=>[(6,v),(7,.int .i64 l.length),(8,.int .i64 s.1),(3,.int .i64 s.2)]) (fun s w=>Step M w0 M w aC∧s.1≤l.length∧dQ (-1) l=dQ s.2 (l.drop s.1)) (fun s=>l.length-s.1) (0,-1) (.cons rfl (.cons rfl (.cons rfl (.cons rfl .nil)))) ?_ ?_
 ·exact⟨an _ _,bH _,rfl⟩
 ·rintro⟨k,last⟩ w1 ⟨S,hk,hr⟩;dsimp only at hk hr ⊢;have hMw:=S.lt hM;refine aj (ah (cd rfl rfl rfl (ad (aj ?_))));refine bI rfl (fun c3=>?_) (fun c3=>?_)
  ·refine aV (aj (bj (aj (ah ?_))));obtain⟨⟨d,ps⟩,hx⟩:∃x,l[k]? =some x:=⟨_,aN (by omega)⟩;refine dq (M:=M) aW gu rfl rfl rfl (hv.le S.le) (aq _ _) (by omega) (fun La WA QG BU=>?_);obtain rfl:WA=(d,ps):=bM (QG.symm.trans (by simpa using hx));refine cC (M:=M) (A:=RT.po) bK rfl gu (by decide) rfl rfl rfl (by assumption) (by repeat (first|exact aq _ _|refine aT (aY (by assumption)) ?_)) (fun Lb ER=>?_);refine oc (A:=RT.po) (M:=M) gu rfl rfl rfl rfl rfl (by assumption) (by repeat (first|exact aq _ _|refine aT (aY (by assumption)) ?_)) (by first|assumption|exact Step.lt (by assumption) (by assumption)|exact Step.lt (by assumption) (Step.lt (by assumption) (by assumption))) (fun OV OW k8 o2 Wa=>?_);refine ad (aj (aj (ah ?_)));refine aH (M:=M) (A:=RT.po) (B:=RT.int .i64) bK rfl rfl I3 (by decide) (G6) rfl rfl (by decide) (by assumption) (by repeat (first|exact aq _ _|refine aT (aY (by assumption)) ?_)) (fun Ql Cb=>?_);refine cc (M:=M) ar rfl rfl Cb (aq _ _) (fun JS=>?_);refine bz (v':= .int .i64 d) rfl ?_;simp only at JS;refine ae rfl rfl (eP rfl rfl rfl (ae rfl rfl ?_));refine aG (g:=16) rfl (fun WB=>?_) (fun WB=>?_)
   ·refine ao rfl rfl rfl rfl (ao rfl rfl rfl rfl (ao rfl rfl rfl rfl (aR rfl rfl rfl (ae rfl rfl (ao rfl rfl rfl rfl (ao rfl rfl rfl rfl (ao rfl rfl rfl rfl (ao rfl rfl rfl rfl (aR rfl rfl rfl (ae rfl rfl (ao rfl rfl rfl rfl ?_)))))))))));refine ao rfl rfl rfl rfl (ao rfl rfl rfl rfl (ao rfl rfl rfl rfl (aR rfl rfl rfl (ad (ly rfl (aj (ah (ai rfl rfl (ad (aJ ?_))))))))));refine aO rfl rfl ⟨congrArg Value.bool (eF ?_),S.ay o2⟩;rw[hr,j0 hx]
    first
    |(rw[decide_eq_false (show¬last<d by omega)];simp;done)
    |(rw[decide_eq_false (show¬d<2147483648 by omega)];simp;done)
    |(rw[show ps=[]from fX.1 (by omega)];simp;done)
    |(simp[c5];done)
   ·refine al rfl rfl ?_;refine aH (M:=M) (A:=RT.po) (B:=RT.int .i64) bK rfl rfl I3 (by decide) (G6) rfl rfl (by decide) (by assumption) (by repeat (first|exact aq _ _|refine aT (aY (by assumption)) ?_)) (fun adP QH=>?_);refine al rfl rfl ?_;refine cc (M:=M) ar rfl rfl QH (aq _ _) (fun Z5=>?_);refine bz (v':= .int .i64 d) rfl (al rfl rfl (dy rfl rfl rfl (ax rfl rfl rfl (ae rfl rfl ?_))));refine aG (g:=21) rfl (fun WC=>?_) (fun WC=>?_)
    ·refine ao rfl rfl rfl rfl (ao rfl rfl rfl rfl (ao rfl rfl rfl rfl (ao rfl rfl rfl rfl (aR rfl rfl rfl (ae rfl rfl (ao rfl rfl rfl rfl (ao rfl rfl rfl rfl (ao rfl rfl rfl rfl (ao rfl rfl rfl rfl (aR rfl rfl rfl (ad ?_)))))))))));refine ly rfl (aj (ah (ai rfl rfl (ad (aJ ?_)))));refine aO rfl rfl ⟨congrArg Value.bool (eF ?_),S.ay o2⟩;rw[hr,j0 hx]
     first
     |(rw[decide_eq_false (show¬last<d by omega)];simp;done)
     |(rw[decide_eq_false (show¬d<2147483648 by omega)];simp;done)
     |(rw[show ps=[]from fX.1 (by omega)];simp;done)
     |(simp[c5];done)
    ·refine al rfl rfl ?_;refine aH (M:=M) (A:=RT.po) (B:=(RT.int .i64).sl) bK rfl rfl nF (by decide) (Ou) rfl rfl (by decide) (by assumption) (by repeat (first|exact aq _ _|refine aT (aY (by assumption)) ?_)) (fun Z6 WD=>?_);refine al rfl rfl ?_;refine cf (M:=M) au rfl rfl rfl rfl rfl (by assumption) (by repeat (first|exact aq _ _|refine aT (aY (by assumption)) ?_)) (fun Z7 Ml=>?_);refine al rfl rfl (bT au rfl Ml rfl (bz (v':= .int .i64 ps.length) rfl (al rfl rfl (Rg.zS rfl rfl rfl (ax rfl rfl rfl (ae rfl rfl ?_))))));refine aG (g:=27) rfl (fun JT=>?_) (fun JT=>?_)
     ·refine ao rfl rfl rfl rfl (ao rfl rfl rfl rfl (ao rfl rfl rfl rfl (ao rfl rfl rfl rfl (aR rfl rfl rfl (ad (ly rfl (aj (ah (ai rfl rfl (ad (aJ ?_)))))))))));refine aO rfl rfl ⟨congrArg Value.bool (eF ?_),S.ay o2⟩;rw[hr,j0 hx]
      first
      |(rw[decide_eq_false (show¬last<d by omega)];simp;done)
      |(rw[decide_eq_false (show¬d<2147483648 by omega)];simp;done)
      |(rw[show ps=[]from fX.1 (by omega)];simp;done)
      |(simp[c5];done)
     ·refine al rfl rfl ?_;refine aH (M:=M) (A:=RT.po) (B:=(RT.int .i64).sl) bK rfl rfl nF (by decide) (Ou) rfl rfl (by decide) (by assumption) (by repeat (first|exact aq _ _|refine aT (aY (by assumption)) ?_)) (fun Z8 WE=>?_);refine al rfl rfl ?_;refine cf (M:=M) au rfl rfl rfl rfl rfl (by assumption) (by repeat (first|exact aq _ _|refine aT (aY (by assumption)) ?_)) (fun Z9 Mm=>?_);refine al rfl rfl ?_;refine aP rfl rfl TX (zk Mm) (fun r5 w5 h5=>?_);obtain⟨rfl,rfl⟩:=h5;refine al rfl rfl (Rg.not rfl rfl (bz (v':= .bool (decide (¬lH ps=true))) (by simp) (ax rfl rfl rfl (ad ?_))));refine bI rfl (fun c5=>?_) (fun c5=>?_)
      ·refine aj (ah (ai rfl rfl (ad (aJ ?_))));refine aO rfl rfl ⟨congrArg Value.bool (eF ?_),S.ay o2⟩;rw[hr,j0 hx]
       first
       |(rw[decide_eq_false (show¬last<d by omega)];simp;done)
       |(rw[decide_eq_false (show¬d<2147483648 by omega)];simp;done)
       |(rw[show ps=[]from fX.1 (by omega)];simp;done)
       |(simp[c5];done)
      ·refine aV (ah ?_);refine aH (M:=M) (A:=RT.po) (B:=RT.int .i64) bK rfl rfl I3 (by decide) (G6) rfl rfl (by decide) (by assumption) (by repeat (first|exact aq _ _|refine aT (aY (by assumption)) ?_)) (fun Pu BV=>?_);refine cc (M:=M) ar rfl rfl BV (aq _ _) (fun aaa=>?_);refine bz (v':= .int .i64 d) rfl (ai rfl rfl (ad (ah (bB rfl rfl rfl (by omega) (ae rfl rfl (ad ?_))))));refine⟨rfl,(k+1,d),(.cons rfl (.cons rfl (.cons rfl (.cons rfl .nil)))),?_,?_⟩
       ·refine⟨S.ay o2,by simp only;omega,?_⟩
        have eG:ps.isEmpty=false:=by cases ps with
         |nil=>simp at JT
         |cons a t=>rfl
        rw[hr,j0 hx,decide_eq_true (show last<d by omega),decide_eq_true (show d<2147483648 by omega),eG,dV.1 c5];rfl
       ·simp only;omega
  ·refine cN (aj (ah (ai rfl rfl (ad (aJ ?_)))));refine aO rfl rfl ⟨congrArg Value.bool (eF ?_),S⟩;rw[hr,ei (by omega)];rfl
theorem A4 {M:aA} {w0:World} {v:Value} {l:List Po} (hM:Lt M w0) (hv:((RT.po).sl).V M w0 l v):
  Spec Tryz.prog 172 #[v,.int .i64 8] w0 (fun v' w'=>∃bs bn,v'= .func (.func 213) [].toArray [.pointer (some ⟨bs,0,none⟩),.pointer (some ⟨bn,0,none⟩)].toArray∧w'.heap[bs]? =some (.cells #[v] 107 (0,0))∧w'.heap[bn]? =some (.cells #[.int .i64 8] 3 (0,0))∧w0.heap.size≤bs∧w0.heap.size≤bn∧Step M w0 M w' aC):=by
 refine aX (args:=[_,_]) (fn:=Tryz.f172) Tryz.func172 rfl (n:=9) Tryz.ntmps172 (aj (ah ?_));refine oN M rfl rfl (fun bs w1 h1 G5 hS s1=>?_);rw[ik hv]at hS;refine oN (ins M bs) rfl rfl (fun bn w2 h2 tU hN s2=>?_);have hS2:=s2.aI hS;have Zn:=s1.size;refine ai rfl rfl (ad (aj (aj (ah (aE ar rfl rfl rfl hN rfl (cd rfl rfl rfl (ad (T.zR rfl ((by decide)) (aV (aj (ah ?_)))))))))));refine ia (xs:=[]) (ys:=[.tmp 2,.tmp 3]) rfl rfl rfl (ai rfl rfl (ad (aJ ?_)));exact aO rfl rfl ⟨bs,bn,rfl,hS2,hN,h1,by omega,(s1.ay s2).back⟩
theorem zm {w0:World} {bs bn yl:Nat} {v:Value} {l:List Po} {M:aA} {wv:World} {J:Nat→World→Prop} {Jx:World→Prop} (hv:((RT.po).sl).V M wv l v) (iy:∀i w w',J i w→Step aC w aC w' aC→J i w') (DF:∀i w,J i w→w.heap[bs]? =some (.cells #[v] 107 (0,0))∧w.heap[bn]? =some (.cells #[.int .i64 8] 3 (0,0))) (hy:∀(i:Nat) (w:World) (u:Value),J i w→i<l.length→((RT.po).sl).V M wv ((l.drop i).take 8) u→qA Tryz.prog yl [u].toArray w (fun r w'=>∃b,r= .bool b∧(b=true→J (min (i+8) l.length) w')∧(b=false→Jx w'))) (h0:J 0 w0):
  Spec Tryz.prog 213 #[.func (.yield yl) #[] #[],.pointer (some ⟨bs,0,none⟩),.pointer (some ⟨bn,0,none⟩)] w0 (fun _ w'=>J l.length w'∨Jx w'):=by
 have hlen:=dM hv;refine aX (args:=[_,_,_]) (fn:=Tryz.f213) Tryz.func213 rfl (n:=31) Tryz.ntmps213 (aj (ah (ai rfl rfl (ad (bj ?_)))));refine dF (σ:=Nat) (fun s=>[(0,.func (.yield yl) #[] #[]),(1,.pointer (some ⟨bs,0,none⟩)),(2,.pointer (some ⟨bn,0,none⟩)),(4,.int .i64 s)]) (fun s w=>J (min s l.length) w∧s≤l.length+8) (fun s=>l.length+8-s) 0 (.cons rfl (.cons rfl (.cons rfl (.cons rfl .nil)))) ?_ ?_
 ·exact⟨by rw[Nat.zero_min];exact h0,bH _⟩
 ·rintro k w1 ⟨hJ,hk⟩;obtain⟨o0,xE⟩:=DF _ _ hJ;refine aj (aj (ah (ae rfl rfl (aE aW rfl rfl rfl o0 rfl ?_))))
  first|refine bT aW rfl (by assumption) rfl ?_|refine gB aW rfl (by assumption) rfl ?_
  refine cd rfl rfl rfl (ad ?_);refine bI rfl (fun c1=>?_) (fun c1=>?_)
  ·refine aV (aj (bj (aj ?_)));apply T.draw (M:=aC) mixed [b8.eq _,b8.eq _,b8.eq _,b8.pure (fun v=>((RT.po).sl).V M wv (l.drop k) v),b8.eq _,b8.eq _,b8.eq _]
   ·rfl
   ·refine aK ?_ ?_
    ·intro wD E sD;refine aE ar rfl rfl rfl (bV sD xE) rfl ?_;exact ad ⟨rfl,rfl,_,rfl,rfl,an _ _⟩
    refine aK ?_ ?_
    ·intro wD E sD;refine aE aW rfl rfl rfl (bV sD o0) rfl ?_;exact ad ⟨rfl,rfl,_,rfl,rfl,an _ _⟩
    refine aK ?_ ?_
    ·intro wD E sD;refine ae rfl rfl ?_;exact ad ⟨rfl,rfl,_,rfl,rfl,an _ _⟩
    refine aK ?_ ?_
    ·intro wD E sD;refine aw (aw ?_);refine Rg.vX (A:=RT.po) (hn:=by decide) aW gu rfl rfl rfl hv (by omega) (fun u hu=>?_);rw[az]at hu;exact ad ⟨rfl,rfl,_,rfl,hu,an _ _⟩
    refine aK ?_ ?_
    ·intro wD E sD;intro v3 ug;have WG:((RT.po).sl).V M wv (l.drop k) v3:=ug;refine bT aW rfl WG rfl ?_;exact ad ⟨rfl,rfl,_,rfl,rfl,an _ _⟩
    refine aK ?_ ?_
    ·intro wD E sD;refine aw (aw (Rg.min2 rfl rfl rfl ?_));exact ad ⟨rfl,rfl,_,rfl,rfl,an _ _⟩
    refine aK ?_ ?_
    ·intro wD E sD;refine aw (aw (aw (aw ?_)));intro v3 ug;refine aw (aw (ai rfl rfl ?_));exact ad ⟨rfl,rfl,_,rfl,rfl,an _ _⟩
    exact bX.nil
   ·intro O4 mh;refine aw (aw (aw ?_));intro Qz JR;refine aw (aw (aw ?_));rw[show min k l.length=k from by omega]at hJ;have Ha:=iy _ _ _ hJ mh;obtain⟨hb3,Iv⟩:=DF _ _ Ha;refine aj (ah (ae rfl rfl (aE aW rfl rfl rfl hb3 rfl (ae rfl rfl (ae rfl rfl (ae rfl rfl (bB rfl rfl rfl (by omega) (ae rfl rfl (ae rfl rfl (bB rfl rfl rfl (by omega) ?_))))))))));refine Rg.CA (A:=RT.po) (hn:=by decide) aW gu rfl rfl rfl rfl rfl hv (by rw[cM];omega) (fun u hu=>?_)
    have he:(l.take ((k:Int)+min 8 ((l.drop k).length:Int)).toNat).drop (k:Int).toNat=(l.drop k).take 8:=by
     rw[az,List.drop_take,cM,show((k:Int)+min 8 ((l.length-k:Nat):Int)).toNat-k=min 8 (l.length-k)from by omega,pC,cM];omega
    rw[he]at hu;refine Rg.yield rfl (vs:=[u]) rfl rfl (hy k _ u Ha (by omega) hu) (fun r4 w4 h4=>?_);obtain⟨b,rfl,Nv,nH⟩:=h4;refine Rg.not rfl rfl (bz (v':= .bool (decide (¬b=true))) (by simp) (ad ?_));refine bI rfl (fun c4=>?_) (fun c4=>?_)
    ·refine aJ ?_;exact Bz rfl (.inr (nH (by simpa using c4)))
    ·refine aV (ah (ae rfl rfl ?_));have hJ5:=Nv (dV.1 c4);refine aE ar rfl rfl rfl (DF _ _ hJ5).2 rfl (bB rfl rfl rfl (by omega) (ai rfl rfl (ad ?_)));refine⟨rfl,k+8,(.cons rfl (.cons rfl (.cons rfl (.cons rfl .nil)))),?_,?_⟩
     ·exact⟨hJ5,by omega⟩
     ·show l.length+8-(k+8)<l.length+8-k;omega
  ·refine cN ?_;rw[show min k l.length=l.length from by omega]at hJ;change rE Tryz.prog Tryz.f213 (fun _ w'=>J l.length w'∨Jx w') .normal _ [] _;exact gI rfl (.inl hJ)
end Go.K
namespace Go.K
open Go.Proofs
set_option maxRecDepth 10000
structure kK (M:aA) (w0:World) (v:Value) (bo bx bl D bs bn:Nat) (st:Obj) (vb vk:Value) (tot last:Int) (b:List UInt8) (ks:List Bl) (M1:aA) (w:World):Prop where
 lt:Lt M1 w
 S:Step M w0 M1 w aC
 mo:M1 bo
 mx:M1 bx
 ml:M1 bl
 md:M1 D
 mr:M1 (D+1)
 o:w.heap[bo]? =some (.cells #[.pointer (some ⟨bx,0,none⟩)] 129 (0,0))
 x:w.heap[bx]? =some (.cells #[vb,vk,.int .i64 tot] 193 (0,0))
 l:w.heap[bl]? =some (.cells #[.int .i64 last] 3 (0,0))
 d:w.heap[D]? =some (.deferred (some []))
 r:w.heap[D+1]? =some st
 s:w.heap[bs]? =some (.cells #[v] 107 (0,0))
 n:w.heap[bn]? =some (.cells #[.int .i64 8] 3 (0,0))
 ne:bo≠bx∧bo≠bl∧bx≠bl∧bo<D∧bx<D∧bl<D∧bs<D∧bn<D∧bs≠bo∧bs≠bx∧bs≠bl∧bn≠bo∧bn≠bx∧bn≠bl∧w0.heap.size≤bo∧w0.heap.size≤bx∧w0.heap.size≤bl∧w0.heap.size≤D
 hb:(RT.u8.sl).V M1 w b vb
 hk:Own RT.bl 195 M1 w (D+2) vk ks
section
variable {M M1 M2:aA} {w0 w w':World} {v vb vk:Value} {bo bx bl D bs bn:Nat} {st:Obj} {tot last:Int} {b:List UInt8} {ks:List Bl}
theorem kK.step (h:kK M w0 v bo bx bl D bs bn st vb vk tot last b ks M1 w) (s:Step M1 w M2 w' aC):kK M w0 v bo bx bl D bs bn st vb vk tot last b ks M2 w':=
 ⟨s.lt h.lt,h.S.ay s,(s.mem _ (h.lt _ h.mo)).2 h.mo,(s.mem _ (h.lt _ h.mx)).2 h.mx,(s.mem _ (h.lt _ h.ml)).2 h.ml,(s.mem _ (h.lt _ h.md)).2 h.md,(s.mem _ (h.lt _ h.mr)).2 h.mr,
  s.aI h.o,s.aI h.x,s.aI h.l,s.aI h.d,s.aI h.r,s.aI h.s,s.aI h.n,h.ne,h.hb.le s.le,h.hk.bg s⟩
theorem kK.Iw {n:Int} (h:kK M w0 v bo bx bl D bs bn st vb vk tot last b ks M1 w) (s:Step M1 w M1 w' (fun k=>k=bl)) (hl:w'.heap[bl]? =some (.cells #[.int .i64 n] 3 (0,0))):kK M w0 v bo bx bl D bs bn st vb vk tot n b ks M1 w':=by
 obtain⟨e1,e2,e3,e4,e5,e6,e7,e8,e9,NN,QI,NO,NP,QK,Sr,NQ,QL,Ss⟩:=h.ne
 exact⟨s.lt h.lt,h.S.cu s (fun k hk=>by subst hk;exact QL),h.mo,h.mx,h.ml,h.md,h.mr,s.bF h.o e2,s.bF h.x e3,hl,s.bF h.d (by omega),s.bF h.r (by omega),s.bF h.s QI,s.bF h.n QK,h.ne,h.hb.le s.le,
  h.hk.step s (fun k hk hh=>by have:=(h.hk.base k hk).1;omega)⟩
theorem kK.Mn {WH Mo:Value} {QM:Int} {b':List UInt8} {QN:List Bl} (h:kK M w0 v bo bx bl D bs bn st vb vk tot last b ks M1 w) (s:Step M1 w M1 w' (fun k=>k=bx)) (hx:w'.heap[bx]? =some (.cells #[WH,Mo,.int .i64 QM] 193 (0,0)))
  (hb:(RT.u8.sl).V M1 w' b' WH) (hk:Own RT.bl 195 M1 w (D+2) Mo QN):kK M w0 v bo bx bl D bs bn st WH Mo QM last b' QN M1 w':=by
 obtain⟨e1,e2,e3,e4,e5,e6,e7,e8,e9,NN,QI,NO,NP,QK,Sr,NQ,QL,Ss⟩:=h.ne
 exact⟨s.lt h.lt,h.S.cu s (fun k hk=>by subst hk;exact NQ),h.mo,h.mx,h.ml,h.md,h.mr,s.bF h.o e1,hx,s.bF h.l (Ne.symm e3),s.bF h.d (by omega),s.bF h.r (by omega),s.bF h.s NN,s.bF h.n NP,h.ne,hb,
  hk.step s (fun k rQ hh=>by have:=(hk.base k rQ).1;omega)⟩
theorem kK.mu {st':Obj} (h:kK M w0 v bo bx bl D bs bn st vb vk tot last b ks M1 w) (iy:w.heap[D+1]? =some st):kK M w0 v bo bx bl D bs bn st' vb vk tot last b ks M1 (w.putObj (D+1) st'):=by
 have s:Step M1 w M1 (w.putObj (D+1) st') (fun k=>k=D+1):=dG h.mr;obtain⟨e1,e2,e3,e4,e5,e6,e7,e8,e9,NN,QI,NO,NP,QK,Sr,NQ,QL,Ss⟩:=h.ne
 exact⟨s.lt h.lt,h.S.cu s (fun k hk=>by subst hk;omega),h.mo,h.mx,h.ml,h.md,h.mr,s.bF h.o (by omega),s.bF h.x (by omega),s.bF h.l (by omega),s.bF h.d (by omega),World.putObj_heap_same (ak iy),s.bF h.s (by omega),s.bF h.n (by omega),h.ne,h.hb.le s.le,
  h.hk.step s (fun k rQ hh=>by have:=(h.hk.base k rQ).1;omega)⟩
theorem kK.other {q:Nat} (h:kK M w0 v bo bx bl D bs bn st vb vk tot last b ks M1 w) (s:Step M1 w M1 w' (fun k=>k=q)) (hq:D+1<q) (St:∀k,vk.ownBlock=some k→k≠q):kK M w0 v bo bx bl D bs bn st vb vk tot last b ks M1 w':=by
 obtain⟨e1,e2,e3,e4,e5,e6,e7,e8,e9,NN,QI,NO,NP,QK,Sr,NQ,QL,Ss⟩:=h.ne
 exact⟨s.lt h.lt,h.S.cu s (fun k hk=>by subst hk;omega),h.mo,h.mx,h.ml,h.md,h.mr,s.bF h.o (by omega),s.bF h.x (by omega),s.bF h.l (by omega),s.bF h.d (by omega),s.bF h.r (by omega),s.bF h.s (by omega),s.bF h.n (by omega),h.ne,h.hb.le s.le,
  h.hk.step s (fun k rQ hh=>St k rQ hh)⟩
theorem kK.grow {Mo:Value} {QN:List Bl} (h:kK M w0 v bo bx bl D bs bn st vb vk tot last b ks M1 w) (s:Step M1 w M2 w' (fun k=>vk.ownBlock=some k)) (hk:Own RT.bl 195 M2 w' (D+2) Mo QN):
  (w'.heap[bx]? =some (.cells #[vb,vk,.int .i64 tot] 193 (0,0))∧M2 bx∧Lt M2 w')∧∀{w2:World},Step M2 w' M2 w2 (fun k=>k=bx)→w2.heap[bx]? =some (.cells #[vb,Mo,.int .i64 tot] 193 (0,0))→kK M w0 v bo bx bl D bs bn st vb Mo tot last b QN M2 w2:=by
 obtain⟨e1,e2,e3,e4,e5,e6,e7,e8,e9,NN,QI,NO,NP,QK,Sr,NQ,QL,Ss⟩:=h.ne;have hn:∀k,vk.ownBlock=some k→D+2≤k:=fun k hk=>(h.hk.base k hk).1
 have ef:=fun {k:Nat} (hm:M1 k)=>(s.mem k (h.lt k hm)).2 hm
 refine⟨⟨s.bF h.x (fun hh=>by have:=hn _ hh;omega),ef h.mx,s.lt h.lt⟩,fun {w2} s2 hx=>?_⟩;have S':=h.S.cu s (fun k hk=>by have:=hn k hk;omega)
 exact⟨s2.lt (s.lt h.lt),S'.cu s2 (fun k hk=>by subst hk;exact NQ),ef h.mo,ef h.mx,ef h.ml,ef h.md,ef h.mr,s2.bF (s.bF h.o (fun hh=>by have:=hn _ hh;omega)) e1,hx,s2.bF (s.bF h.l (fun hh=>by have:=hn _ hh;omega)) (Ne.symm e3),
  s2.bF (s.bF h.d (fun hh=>by have:=hn _ hh;omega)) (by omega),s2.bF (s.bF h.r (fun hh=>by have:=hn _ hh;omega)) (by omega),s2.bF (s.bF h.s (fun hh=>by have:=hn _ hh;omega)) NN,s2.bF (s.bF h.n (fun hh=>by have:=hn _ hh;omega)) NP,h.ne,(h.hb.le s.le).le s2.le,
  hk.step s2 (fun k rQ hh=>by have:=(hk.base k rQ).1;omega)⟩
end
def Gj (M:aA) (w0:World) (l:List Po) (v:Value) (bo bx bl D bs bn:Nat) (st:Obj) (i:Nat) (w:World):Prop:=
 ∃(M1:aA) (vb vk:Value),kK M w0 v bo bx bl D bs bn st vb vk (gq (l.take i)) (bW (-1) (l.take i)) (dx (-1) (l.take i)) (mg l ((i+7)/8)) M1 w∧(i%8=0∨i=l.length)∧i≤l.length
theorem Mp {M:aA} {w0 w2 w3 w5 w6 w7:World} {v:Value} {l:List Po} {bo bx bl bs bn:Nat} {st:Obj} (S6:Step M w0 (ins (ins (ins M bx) bo) bl) w6 aC) (s7:Step (ins (ins (ins M bx) bo) bl) w6 (ins (ins (ins M bx) bo) bl) w7 aC) (hM:Lt M w0)
  (e1:bo<w6.heap.size) (e2:bx<w6.heap.size) (e3:bl<w6.heap.size) (n1:bo≠bx) (n2:bo≠bl) (n3:bx≠bl)
  (hO:w6.heap[bo]? =some (.cells #[.pointer (some ⟨bx,0,none⟩)] 129 (0,0))) (hX:w6.heap[bx]? =some (.cells #[.slice none 0 0,.slice none 0 0,.int .i64 0] 193 (0,0))) (hL:w6.heap[bl]? =some (.cells #[.int .i64 (-1)] 3 (0,0)))
  (hS:w7.heap[bs]? =some (.cells #[v] 107 (0,0))) (hN:w7.heap[bn]? =some (.cells #[.int .i64 8] 3 (0,0))) (Su:w6.heap.size≤bs) (RQ:w6.heap.size≤bn)
  (g1:w0.heap.size≤bo) (g2:w0.heap.size≤bx) (g3:w0.heap.size≤bl):
  Gj M w0 l v bo bx bl w7.heap.size bs bn st 0 ((w7.alloc (.deferred (some []))).alloc st):=by
 have sA:Step (ins (ins (ins M bx) bo) bl) w7 (ins (ins (ins (ins M bx) bo) bl) w7.heap.size) (w7.alloc (.deferred (some []))) aC:=(cU _ w7 _).own (bh _) (by simp);have sB:Step (ins (ins (ins (ins M bx) bo) bl) w7.heap.size) (w7.alloc (.deferred (some []))) (ins (ins (ins (ins (ins M bx) bo) bl) w7.heap.size) (w7.heap.size+1)) ((w7.alloc (.deferred (some []))).alloc st) aC:=(cU _ _ _).own (by simp) (by simp);have z7:=s7.size;have hs7:=ak hS;have hn7:=ak hN;have S:=((S6.ay s7).ay sA).ay sB;have hD:(w7.alloc (.deferred (some []))).heap[w7.heap.size]? =some (.deferred (some [])):=cq w7 _;have hR:((w7.alloc (.deferred (some []))).alloc st).heap[w7.heap.size+1]? =some st:=by have:=cq (w7.alloc (.deferred (some []))) st;rwa [World.size_alloc]at this
 have z0:=S6.size;refine⟨_,.slice none 0 0,.slice none 0 0,⟨S.lt hM,S,?_,?_,?_,?_,.inl rfl,sB.aI (sA.aI (s7.aI hO)),sB.aI (sA.aI (s7.aI hX)),sB.aI (sA.aI (s7.aI hL)),sB.aI hD,hR,sB.aI (sA.aI hS),sB.aI (sA.aI hN),by omega,jN,ec _ _ _ _ _⟩,.inl rfl,bH _⟩
 ·exact .inr (.inr (.inr (.inl rfl)))
 ·exact .inr (.inr (.inr (.inr (.inl rfl))))
 ·exact .inr (.inr (.inl rfl))
 ·exact .inr (.inl rfl)
set_option maxHeartbeats 4000000 in
theorem qi {M:aA} {w0:World} {v:Value} {l:List Po} (hM:Lt M w0) (hv:((RT.po).sl).V M w0 l v) (qW:∀p∈l,p.2.length≤1099511627776) (zP:(dx (-1) l).length≤35184372088832) (Hm:l.length≤1099511627776) (adR:gq l≤4611686018427387904):
  Spec Tryz.prog 126 #[v] w0 (fun v' w'=>Step M w0 M w' aC∧(dQ (-1) l=true→∃p,v'= .tuple #[p,.int .i64 0]∧ch RT.li M w' p (gJ l))∧(dQ (-1) l=false→v'= .tuple #[.pointer none,.int .i64 1])):=by
 have hlen:=dM hv;refine mN (args:=[_]) (fn:=Tryz.f126) Tryz.func126 rfl (n:=85) Tryz.ntmps126 (aj (ah (ai rfl rfl (ai rfl rfl (ad (aj (aj (ah (ae rfl rfl ?_)))))))));refine aP rfl rfl TN (Db hM hv) (fun r w1 h1=>?_);obtain⟨rfl,s1⟩:=h1;refine Rg.not rfl rfl (bz (v':= .bool (decide (¬dQ (-1) l=true))) (by simp) (ad ?_));refine bI rfl (fun c1=>?_) (fun c1=>?_)
 ·refine aj (ah (ai rfl rfl (ai rfl rfl (ad (aJ ?_)))));exact Hu rfl rfl rfl ⟨s1,fun h=>absurd h c1,fun _=>rfl⟩
 ·have pw:=dV.1 c1;refine aV (aj (ah (dZ (places:=[(0,1),(1,1),(2,1)]) du Tx Tz rfl rfl (out:=[.slice none 0 0,.slice none 0 0,.int .i64 0]) rfl ?_)));refine oN M rfl rfl (fun bx w2 DF adS hX s2=>?_);change w2.heap[bx]? =some (.cells #[.slice none 0 0,.slice none 0 0,.int .i64 0] 193 (0,0))at hX;refine eX (ins M bx) ov rfl (fun bo w3 hbo adT hO s3=>?_);refine bQ (M:=ins (ins M bx) bo) ov rfl rfl hO rfl rfl (.inl rfl) (fun w4 hO4 s4=>?_);refine ad (aj (ah ?_));refine eX (ins (ins M bx) bo) I3 rfl (fun bl w5 adV aae hL s5=>?_);refine bQ (M:=ins (ins (ins M bx) bo) bl) I3 rfl rfl hL rfl rfl (.inl rfl) (fun w6 hL6 s6=>?_);have z1:=s1.size;have z2:=s2.size;have z3:=s3.size;have z4:=s4.size;have z5:=s5.size;have z6:=s6.size;have S6:Step M w0 (ins (ins (ins M bx) bo) bl) w6 aC:=((((s1.ay s2).ay s3).cu s4 (fun k hk=>by subst hk;omega)).ay s5).cu s6 (fun k hk=>by subst hk;omega);have hO6:=s6.bF (s5.aI hO4) (show bo≠bl by omega);have hX6:=s6.bF (s5.aI (s4.bF (s3.aI hX) (show bx≠bo by omega))) (show bx≠bl by omega);refine ad (aj (aj (ah (ae rfl rfl ?_))));refine aP rfl rfl TO (A4 (M:=ins (ins (ins M bx) bo) bl) (S6.lt hM) (hv.le S6.le)) (fun r w7 h7=>?_);obtain⟨bs,bn,rfl,hS7,hN7,Su,RQ,s7⟩:=h7;have z7:=s7.size;have adZ:=ak hS7;have ad0:=ak hN7;refine ad (bj ?_);refine T.range (gf:=213) (lb:=[.pointer (some ⟨bs,0,none⟩),.pointer (some ⟨bn,0,none⟩)].toArray) rfl TY (fun rec mM=>?_);obtain⟨D,hD⟩:∃D,D=w7.heap.size:=⟨_,rfl⟩;rw[←hD]at mM ⊢
  have h0:Gj M w0 l v bo bx bl D bs bn (.loop (rec .ready none)) 0 ((w7.alloc (.deferred (some []))).alloc (.loop (rec .ready none))):=by
   rw[hD]at mM ⊢;exact Mp (w2:=w7) (w3:=w7) (w5:=w7) S6 s7 hM (by omega) (by omega) (by omega) (by omega) (by omega) (by omega) hO6 hX6 hL6 hS7 hN7 Su RQ (by omega) (by omega) (by omega)
  refine Spec.mono (zm (M:=M) (wv:=w0) (J:=Gj M w0 l v bo bx bl D bs bn (.loop (rec .ready none))) (Jx:=fun _=>False) hv (fun i w w' ⟨M1,vb,vk,h,h2⟩ s=>⟨M1,vb,vk,h.step (s.any M1),h2⟩) (fun i w ⟨M1,vb,vk,h,h2⟩=>⟨h.s,h.n⟩) (fun i wr u hJ hi hu=>?_) h0) (fun _ w3 h3=>?_)
  ·obtain⟨M1,vb,vk,h,hi8,mf⟩:=hJ;refine kZ (ps:=[17]) (vs:=[u]) mM h.r rfl (by decide) (ah (ai rfl rfl (ad ?_)));refine⟨rfl,h.r,?_⟩;have h1:=h.mu (st':= .loop (rec .busy none)) h.r;generalize wr.putObj (D+1) _=wB at h1 ⊢;have hO:=h1.o;have hX:=h1.x;have hL:=h1.l;have hB:=h1.hb;have dB:=h1.lt;have pN:((l.drop i).take 8).length≤8:=by rw[bU];omega
   have ad1:((l.drop i).take 8).length=min 8 (l.length-i):=by rw[bU,cM]
   obtain⟨q1,q2,q3,q4,q5,q6,q7,q8,q9,q10,q11,q12,q13,q14,q15,q16,q17,q18⟩:=h1.ne;refine bj (aj ?_);apply T.BF (M:=M1) (n:=85) _ mixed [] [b8.eq _,b8.eq _,b8.eq _,b8.eq _,b8.eq _,b8.eq _,b8.eq _,b8.eq _,b8.eq _,b8.mk' (fun p w'=>∃bq,p= .pointer (some ⟨bq,0,none⟩)∧wB.heap.size≤bq∧w'.heap[bq]? =some (.cells #[.int .i64 0,.int .i64 0,.int .i64 0,.int .i64 0] 195 (0,0))) (fun⟨bq,h1,h2,h3⟩ s=>⟨bq,h1,h2,s.aI h3⟩)]
   ·rfl
   ·rfl
   ·rfl
   ·rfl
   ·exact fun p hp=>by cases hp
   ·exact qX.none
   ·refine aF ?_ ?_
    ·intro wD E sD;refine aE cH rfl rfl rfl (bV sD (by assumption)) rfl ?_;exact ad ⟨rfl,rfl,_,rfl,rfl,an _ _⟩
    refine aF ?_ ?_
    ·intro wD E sD;refine aw (aQ rfl ⟨_,rfl⟩ rfl ?_);exact ad ⟨rfl,rfl,_,rfl,rfl,an _ _⟩
    refine aF ?_ ?_
    ·intro wD E sD;refine aw (aS du rfl rfl ym (by decide) rfl rfl ?_);exact ad ⟨rfl,rfl,_,rfl,rfl,an _ _⟩
    refine aF ?_ ?_
    ·intro wD E sD;refine aw (aE bm rfl rfl rfl (bV sD (by assumption)) rfl ?_);exact ad ⟨rfl,rfl,_,rfl,rfl,an _ _⟩
    refine aF ?_ ?_
    ·intro wD E sD;refine aw ?_
     first|refine bT bm rfl (by assumption) rfl ?_|refine gB bm rfl (by assumption) rfl ?_
     exact ad ⟨rfl,rfl,_,rfl,rfl,an _ _⟩
    refine aF ?_ ?_
    ·intro wD E sD;refine aE ar rfl rfl rfl (bV sD (by assumption)) rfl ?_;exact ad ⟨rfl,rfl,_,rfl,rfl,an _ _⟩
    refine aF ?_ ?_
    ·intro wD E sD;refine ae rfl rfl ?_;exact ad ⟨rfl,rfl,_,rfl,rfl,an _ _⟩
    refine aF ?_ ?_
    ·intro wD E sD;refine aw ?_
     first|refine bT aW rfl (by assumption) rfl ?_|refine gB aW rfl (by assumption) rfl ?_
     exact ad ⟨rfl,rfl,_,rfl,rfl,an _ _⟩
    refine aF ?_ ?_
    ·intro wD E sD;refine aw (aw (aw (dZ (places:=[(0,1),(1,1),(2,1),(3,1)]) jL tZ TA rfl ⟨_,_,rfl,rfl,_,_,rfl,rfl,_,_,rfl,rfl,rfl⟩ (out:=[.int .i64 (dx (-1) (l.take i)).length,.int .i64 (bW (-1) (l.take i)),.int .i64 0,.int .i64 ((l.drop i).take 8).length]) ⟨0,[_],rfl,rfl,by simp[Value.cells],1,[_],rfl,rfl,by simp[Value.cells],3,[_],rfl,rfl,by simp[Value.cells],rfl⟩ ?_)));exact ad ⟨rfl,rfl,_,rfl,rfl,an _ _⟩
    refine aF ?_ ?_
    ·intro wD E sD;refine eX M1 tZ rfl (fun bq wq e1 e2 e3 s=>?_);exact ad ⟨rfl,rfl,_,rfl,⟨bq,rfl,fK sD.size e1,e3⟩,s.back⟩
    exact bD.nil
   ·intro wD7 sD7;refine aw (aw (aw (aw (aw (aw (aw (aw (aw ?_))))))));intro aed QO;obtain⟨bq,rfl,Kw,Tk⟩:=QO;have Je:=ak Tk;have sQ:Step M1 wB (ins M1 bq) wD7 aC:=sD7.own Kw Je;refine fc (M:=ins M1 bq) (vs:=[.int .i64 (dx (-1) (l.take i)).length,.int .i64 (bW (-1) (l.take i)),.int .i64 0,.int .i64 ((l.drop i).take 8).length]) tZ rfl rfl (by intro x hx;simp at hx;rcases hx with rfl|rfl|rfl|rfl<;>rfl) rfl rfl Tk (.inl rfl) (fun wQ hQ sQ2=>?_);refine ad ⟨rfl,?_⟩;have h2:=h1.step (sQ.cu sQ2 (fun k hk=>by subst hk;exact Kw));have St:∀k,vk.ownBlock=some k→k≠bq:=fun k hk=>by have:=(h1.hk.base k hk).2;omega
    have Tl:D+1<bq:=by have:=ak h1.r;omega
    have h3:kK M w0 v bo bx bl D bs bn (.loop (rec .busy none)) vb vk (gq (l.take (i+0))) (bW (-1) (l.take (i+0))) (dx (-1) (l.take (i+0))) (mg l ((i+7)/8)) (ins M1 bq) wQ:=h2;obtain⟨M2,Jl⟩:∃M2,M2=ins M1 bq:=⟨_,rfl⟩;rw[←Jl]at h3;refine aj (aj (ah (ae rfl rfl ?_)))
    first|refine bT aW rfl (by assumption) rfl ?_|refine gB aW rfl (by assumption) rfl ?_
    refine ae rfl rfl (ad (bj ?_));refine dF (σ:=Nat×Value) (fun s=>[(4,.pointer (some ⟨bo,0,none⟩)),(5,.pointer (some ⟨bl,0,none⟩)),(6,u),(7,.pointer (some ⟨bq,0,none⟩)),(27,u),(28,.int .i64 ((l.drop i).take 8).length),(29,.int .i64 s.1)]) (fun s w=>s.1≤((l.drop i).take 8).length∧w.heap[bq]? =some (.cells #[.int .i64 (dx (-1) (l.take i)).length,.int .i64 (bW (-1) (l.take i)),.int .i64 0,.int .i64 ((l.drop i).take 8).length] 195 (0,0))∧kK M w0 v bo bx bl D bs bn (.loop (rec .busy none)) s.2 vk (gq (l.take (i+s.1))) (bW (-1) (l.take (i+s.1))) (dx (-1) (l.take (i+s.1))) (mg l ((i+7)/8)) M2 w) (fun s=>((l.drop i).take 8).length-s.1) (0,vb) (.cons rfl (.cons rfl (.cons rfl (.cons rfl (.cons rfl (.cons rfl (.cons rfl .nil))))))) ?_ ?_
    ·exact⟨bH _,hQ,h3⟩
    ·rintro⟨j,vb⟩ wj ⟨hj,hQ,h4⟩;dsimp only at hj hQ h4 ⊢;have dB:=h4.lt;refine aj (ah (cd rfl rfl rfl (ad (aj ?_))));refine bI rfl (fun c9=>?_) (fun c9=>?_)
     ·refine aV (aj (bj (aj (ah ?_))));obtain⟨⟨d,ps⟩,hx⟩:∃x,l[i+j]? =some x:=⟨_,aN (by omega)⟩;obtain⟨f1,f2,f3,f4,f5,f6⟩:=mO pw hx;obtain⟨f7,f8⟩:=lI.1 f4;have fps:=qW _ (aL hx);have fb:=kF l (i+j);have ft:=ye l (i+j);have ft2:=ye l (i+j+1);rw[rZ hx]at ft2;have ftk:=rY (-1) hx;have ftl:=kF l (i+j+1);simp only at fps;refine dq (M:=M2) aW gu rfl rfl rfl (hu.le h4.S.le) (aq _ _) (by omega) (fun Pr QP Mq Ld=>?_);obtain rfl:(d,ps)=QP:=eF (bM (Mq.symm.trans (by rw[az,dE,if_pos (by omega),List.getElem?_drop];exact hx)));refine cC (M:=M2) (A:=RT.po) bK rfl gu (by decide) rfl rfl rfl (by assumption) (by repeat (first|exact aq _ _|refine aT (aY (by assumption)) ?_)) (fun Ps EU=>?_);refine oc (A:=RT.po) (M:=M2) gu rfl rfl rfl rfl rfl (by assumption) (by repeat (first|exact aq _ _|refine aT (aY (by assumption)) ?_)) (by first|assumption|exact Step.lt (by assumption) (by assumption)|exact Step.lt (by assumption) (Step.lt (by assumption) (by assumption))) (fun QQ QR qj px QS=>?_);refine ad (aj ?_);have h5:=h4.step px;have hO:=h5.o;have hX:=h5.x;have hL:=h5.l;have hB:=h5.hb;have dB:=h5.lt;have hp0:=qj;apply T.BF (M:=M2) (n:=85) _ mixed [] [b8.eq _,b8.eq _,b8.eq _,b8.eq _,b8.eq _,b8.ptr (RT.int .i64) d,b8.eq (.int .i64 d),b8.eq _,b8.eq _,b8.eq (.int .i64 (((d-bW (-1) (l.take (i+j))-1).toNat:Nat):Int)),b8.V (RT.u8.sl) (dx (-1) (l.take (i+j))++put (d-bW (-1) (l.take (i+j))-1).toNat),b8.eq _,b8.eq _]
      ·rfl
      ·rfl
      ·rfl
      ·rfl
      ·exact fun p hp=>by cases hp
      ·exact qX.none
      ·refine aF ?_ ?_
       ·intro wD E sD;refine aE cH rfl rfl rfl (bV sD (by assumption)) rfl ?_;exact ad ⟨rfl,rfl,_,rfl,rfl,an _ _⟩
       refine aF ?_ ?_
       ·intro wD E sD;refine aE cH rfl rfl rfl (bV sD (by assumption)) rfl ?_;exact ad ⟨rfl,rfl,_,rfl,rfl,an _ _⟩
       refine aF ?_ ?_
       ·intro wD E sD;refine aw (aQ rfl ⟨_,rfl⟩ rfl ?_);exact ad ⟨rfl,rfl,_,rfl,rfl,an _ _⟩
       refine aF ?_ ?_
       ·intro wD E sD;refine aw (aS du rfl rfl ym (by decide) rfl rfl ?_);exact ad ⟨rfl,rfl,_,rfl,rfl,an _ _⟩
       refine aF ?_ ?_
       ·intro wD E sD;refine aw (aE bm rfl rfl rfl (bV sD (by assumption)) rfl ?_);exact ad ⟨rfl,rfl,_,rfl,rfl,an _ _⟩
       refine aF ?_ ?_
       ·intro wD E sD;refine aH (M:=M2) (A:=RT.po) (B:=RT.int .i64) bK rfl rfl I3 (by decide) (G6) rfl rfl (by decide) (by assumption) (by repeat (first|exact aq _ _|refine aT (aY (by assumption)) ?_)) (fun aaj WI=>?_);exact ad ⟨rfl,rfl,_,rfl,by assumption,an _ _⟩
       refine aF ?_ ?_
       ·intro wD E sD;intro v5 nS;refine cc (M:=M2) ar rfl rfl (by assumption) (by repeat (first|exact aq _ _|refine aT (aY (by assumption)) ?_)) (fun WK=>?_);exact ad ⟨rfl,rfl,_,rfl,rfl,an _ _⟩
       refine aF ?_ ?_
       ·intro wD E sD;refine aE ar rfl rfl rfl (bV sD (by assumption)) rfl ?_;exact ad ⟨rfl,rfl,_,rfl,rfl,an _ _⟩
       refine aF ?_ ?_
       ·intro wD E sD;refine aw (aw (gA rfl rfl rfl (by omega) ?_));exact ad ⟨rfl,rfl,_,rfl,rfl,an _ _⟩
       refine aF ?_ ?_
       ·intro wD E sD;refine aw (gA rfl rfl rfl (by omega) (bz (v':= .int .i64 (((d-bW (-1) (l.take (i+j))-1).toNat:Nat):Int)) (by congr 1;omega) ?_));exact ad ⟨rfl,rfl,_,rfl,rfl,an _ _⟩
       refine aF ?_ ?_
       ·intro wD E sD;refine aw (aw ?_);refine aP rfl rfl KL (F9 (M:=M2) (sD.lt dB) (hB.le sD.le) (by omega) (by omega)) (fun rP wP hP=>?_);exact ad ⟨rfl,rfl,_,rfl,hP.2,hP.1⟩
       refine aF ?_ ?_
       ·intro wD E sD;refine aw (aw (aw (aw (aw (aw ?_)))));intro v5 nS;refine aw (aw (aw (aw ?_)));intro v10 Ms;refine aQ rfl ⟨_,rfl⟩ rfl ?_;exact ad ⟨rfl,rfl,_,rfl,rfl,an _ _⟩
       refine aF ?_ ?_
       ·intro wD E sD;refine aw (aw (aw (aw (aw (aw ?_)))));intro v5 nS;refine aw (aw (aw (aw ?_)));intro v10 Ms;refine aS du rfl rfl ym (by decide) rfl rfl ?_;exact ad ⟨rfl,rfl,_,rfl,rfl,an _ _⟩
       exact bD.nil
      ·intro Iq jq;refine aw (aw (aw (aw (aw ?_))));intro aak WL;refine aw (aw (aw (aw ?_)));intro WM Cf;refine aw (aw ?_);have h6:=h5.step jq;have hp6:=hp0.le (by decide) jq.le;refine bQ (M:=M2) ym rfl rfl h6.x rfl (jY Cf rfl rfl) h6.mx (fun Sv WN qQ=>?_);refine ad ⟨rfl,?_⟩;have h7:=h6.Mn qQ WN (RT.V.le qQ.le Cf) h6.hk;have NL:=hp6.le (by decide) qQ.le;refine aj ?_;have hO:=h7.o;have hX:=h7.x;have hB:=h7.hb;have dB:=h7.lt;have fbl:(dx (-1) (l.take (i+j))++put (d-bW (-1) (l.take (i+j))-1).toNat).length≤35184372088832:=by rw[ftk]at ftl;simp only[bJ]at ftl ⊢;omega
       apply T.Ja (M:=M2) mixed [(13,fun k=>k=bx)] [b8.eq _,b8.eq _,b8.eq _,b8.eq _,b8.eq _,b8.ptr ((RT.int .i64).sl) ps,b8.V ((RT.int .i64).sl) ps,⟨fun t w=>∃x,t= .tuple #[x,.int .i64 0]∧(RT.u8.sl).V M2 w (dx (-1) (l.take (i+j))++put (d-bW (-1) (l.take (i+j))-1).toNat++dJ ps) x,Cn,fun⟨x,h1,h2⟩ s _=>⟨x,h1,h2.le s.le⟩⟩,⟨fun t w=>∃x,t= .tuple #[x,.int .i64 0]∧(RT.u8.sl).V M2 w (dx (-1) (l.take (i+j))++put (d-bW (-1) (l.take (i+j))-1).toNat++dJ ps) x,Cn,fun⟨x,h1,h2⟩ s _=>⟨x,h1,h2.le s.le⟩⟩,b8.V (RT.u8.sl) (dx (-1) (l.take (i+j))++put (d-bW (-1) (l.take (i+j))-1).toNat++dJ ps),b8.eq (.int .i64 0),b8.eq _,b8.eq _,⟨fun _ w=>∃x,w.heap[bx]? =some (.cells #[x,vk,.int .i64 (gq (l.take (i+j)))] 193 (0,0))∧(RT.u8.sl).V M2 w (dx (-1) (l.take (i+j))++put (d-bW (-1) (l.take (i+j))-1).toNat++dJ ps) x,fun k=>k≠bx,fun⟨x,h1,h2⟩ s hN=>⟨x,s.bF h1 (fun hb=>hN _ hb rfl),h2.le s.le⟩⟩]
       ·rfl
       ·intro p hp b hb;simp only[cE]at hp;subst hp
        cases hb;exact h7.mx
       ·exact⟨fun _ _ _ _=>trivial,⟨fun _ _ _ _=>trivial,⟨fun _ _ _ _=>trivial,⟨fun _ _ _ _=>trivial,⟨fun _ _ _ _=>trivial,⟨fun _ _ _ _=>trivial,⟨fun _ _ _ _=>trivial,⟨fun _ _ _ _=>trivial,⟨fun _ _ _ _=>trivial,⟨fun _ _ _ _=>trivial,⟨fun _ _ _ _=>trivial,⟨fun _ _ _ _=>trivial,⟨fun _ _ _ _=>trivial,⟨fun p hp=>by simp at hp,trivial⟩⟩⟩⟩⟩⟩⟩⟩⟩⟩⟩⟩⟩⟩
       ·refine aK ?_ ?_
        ·intro wD E sD;replace sD:Step M2 _ M2 wD aC:=sD;refine aE cH rfl rfl rfl (bV sD (by assumption)) rfl ?_;exact ad ⟨rfl,rfl,_,rfl,rfl,an _ _⟩
        refine aK ?_ ?_
        ·intro wD E sD;replace sD:Step M2 _ M2 wD aC:=sD;refine aE cH rfl rfl rfl (bV sD (by assumption)) rfl ?_;exact ad ⟨rfl,rfl,_,rfl,rfl,an _ _⟩
        refine aK ?_ ?_
        ·intro wD E sD;replace sD:Step M2 _ M2 wD aC:=sD;refine aw (aQ rfl ⟨_,rfl⟩ rfl ?_);exact ad ⟨rfl,rfl,_,rfl,rfl,an _ _⟩
        refine aK ?_ ?_
        ·intro wD E sD;replace sD:Step M2 _ M2 wD aC:=sD;refine aw (aS du rfl rfl ym (by decide) rfl rfl ?_);exact ad ⟨rfl,rfl,_,rfl,rfl,an _ _⟩
        refine aK ?_ ?_
        ·intro wD E sD;replace sD:Step M2 _ M2 wD aC:=sD;refine aw (aE bm rfl rfl rfl (bV sD (by assumption)) rfl ?_);exact ad ⟨rfl,rfl,_,rfl,rfl,an _ _⟩
        refine aK ?_ ?_
        ·intro wD E sD;replace sD:Step M2 _ M2 wD aC:=sD;refine aH (M:=M2) (A:=RT.po) (B:=(RT.int .i64).sl) bK rfl rfl nF (by decide) Ou rfl rfl (by decide) NL sD.le (fun uf xr=>?_);exact ad ⟨rfl,rfl,_,rfl,xr,an _ _⟩
        refine aK ?_ ?_
        ·intro wD E sD;replace sD:Step M2 _ M2 wD aC:=sD;intro v5 nS;refine cf (M:=M2) au rfl rfl rfl rfl rfl (show ch ((RT.int .i64).sl) M2 wD v5 ps from nS) (aq _ _) (fun uf xr=>?_);exact ad ⟨rfl,rfl,_,rfl,xr,an _ _⟩
        refine aK ?_ ?_
        ·intro wD E sD;replace sD:Step M2 _ M2 wD aC:=sD;refine aw ?_;intro v6 nR;refine aP rfl rfl TP (tq (M:=M2) (sD.lt dB) (hB.le sD.le) (show((RT.int .i64).sl).V M2 wD ps v6 from nR) (by omega)) (fun rP wP hP=>?_);obtain⟨xP,sP,hP1,QT⟩:=hP;rw[if_pos f7]at hP1 QT;exact ad ⟨rfl,rfl,_,rfl,⟨xP,hP1,QT⟩,sP⟩
        refine aK ?_ ?_
        ·intro wD E sD;replace sD:Step M2 _ M2 wD aC:=sD;intro v7 AE;refine ae rfl rfl ?_;exact ad ⟨rfl,rfl,_,rfl,AE,an _ _⟩
        refine aK ?_ ?_
        ·intro wD E sD;replace sD:Step M2 _ M2 wD aC:=sD;intro v8 Ca;obtain⟨xP,rfl,QT⟩:=Ca;refine bP rfl rfl rfl ?_;exact ad ⟨rfl,rfl,_,rfl,QT,an _ _⟩
        refine aK ?_ ?_
        ·intro wD E sD;replace sD:Step M2 _ M2 wD (fun k=>k=bx):=sD;intro v8 Ca;obtain⟨xP,rfl,QT⟩:=Ca;refine bP rfl rfl rfl ?_;exact ad ⟨rfl,rfl,_,rfl,rfl,an _ _⟩
        refine aK ?_ ?_
        ·intro wD E sD;replace sD:Step M2 _ M2 wD (fun k=>k=bx):=sD;refine aw (aw (aw (aw (aw (aw ?_)))));intro v5 nS;intro v6 nR;intro v7 AE;intro v8 Ca;intro v9 HV;refine aQ rfl ⟨_,rfl⟩ rfl ?_;exact ad ⟨rfl,rfl,_,rfl,rfl,an _ _⟩
        refine aK ?_ ?_
        ·intro wD E sD;replace sD:Step M2 _ M2 wD aC:=sD;refine aw (aw (aw (aw (aw (aw ?_)))));intro v5 nS;intro v6 nR;intro v7 AE;intro v8 Ca;intro v9 HV;refine aS du rfl rfl ym (by decide) rfl rfl ?_;exact ad ⟨rfl,rfl,_,rfl,rfl,an _ _⟩
        refine aK ?_ ?_
        ·intro wD E sD;replace sD:Step M2 _ M2 wD aC:=sD;refine aw ?_;intro v9 HV;intro v7 AE;refine aw (aw (aw (aw (aw ?_))));intro v5 nS;intro v6 nR;intro v7 AE;intro v8 Ca;intro v9 HV;refine bQ (M:=M2) ym rfl rfl (bV sD hX) rfl (jY (A:=RT.u8.sl) HV rfl rfl) h7.mx (fun wS hXS sS=>?_);exact ad ⟨rfl,rfl,undef,rfl,⟨_,hXS,RT.V.le (A:=RT.u8.sl) sS.le HV⟩,sS⟩
        exact bX.nil
       ·intro Gk tv;replace tv:Step M2 _ M2 Gk (fun k=>k=bx):=tv;refine aw (aw (aw (aw (aw ?_))));intro aam WO;intro aan WQ;intro aao WR;intro aap WS;intro aaq WT;refine aw (aw (aw ?_));intro WU Ix;obtain⟨v12,WV,WW⟩:=Ix;have h8:=h7.Mn tv WV WW h7.hk;have hp8:=NL.le (by decide) tv.le;refine aj ?_;have hO:=h8.o;have hX:=h8.x;apply T.BF (M:=M2) (n:=85) _ mixed [] [b8.eq _,b8.eq _,b8.eq _,b8.eq _,b8.ptr ((RT.int .i64).sl) ps,b8.V ((RT.int .i64).sl) ps,b8.eq (.int .i64 ps.length),b8.eq _,b8.eq _,b8.eq _]
        ·rfl
        ·rfl
        ·rfl
        ·rfl
        ·exact fun p hp=>by cases hp
        ·exact qX.none
        ·refine aF ?_ ?_
         ·intro wD E sD;refine aE cH rfl rfl rfl (bV sD (by assumption)) rfl ?_;exact ad ⟨rfl,rfl,_,rfl,rfl,an _ _⟩
         refine aF ?_ ?_
         ·intro wD E sD;refine aw (aQ rfl ⟨_,rfl⟩ rfl ?_);exact ad ⟨rfl,rfl,_,rfl,rfl,an _ _⟩
         refine aF ?_ ?_
         ·intro wD E sD;refine aw (aS du rfl rfl I3 (by decide) rfl rfl ?_);exact ad ⟨rfl,rfl,_,rfl,rfl,an _ _⟩
         refine aF ?_ ?_
         ·intro wD E sD;refine aw (aE ar rfl rfl rfl (bV sD (by assumption)) rfl ?_);exact ad ⟨rfl,rfl,_,rfl,rfl,an _ _⟩
         refine aF ?_ ?_
         ·intro wD E sD;refine aH (M:=M2) (A:=RT.po) (B:=(RT.int .i64).sl) bK rfl rfl nF (by decide) Ou rfl rfl (by decide) hp8 sD.le (fun uf xr=>?_);exact ad ⟨rfl,rfl,_,rfl,xr,an _ _⟩
         refine aF ?_ ?_
         ·intro wD E sD;intro v4 p9;refine cf (M:=M2) au rfl rfl rfl rfl rfl (show ch ((RT.int .i64).sl) M2 wD v4 ps from p9) (aq _ _) (fun uf xr=>?_);exact ad ⟨rfl,rfl,_,rfl,xr,an _ _⟩
         refine aF ?_ ?_
         ·intro wD E sD;intro v5 nS;refine bT au rfl (show((RT.int .i64).sl).V M2 wD ps v5 from nS) rfl ?_;exact ad ⟨rfl,rfl,_,rfl,rfl,an _ _⟩
         refine aF ?_ ?_
         ·intro wD E sD;refine aw (aw (bB rfl rfl rfl (by omega) ?_));exact ad ⟨rfl,rfl,_,rfl,rfl,an _ _⟩
         refine aF ?_ ?_
         ·intro wD E sD;refine aw (aw (aw (aw (aw ?_))));intro v4 p9;intro v5 nS;refine aw (aw (aQ rfl ⟨_,rfl⟩ rfl ?_));exact ad ⟨rfl,rfl,_,rfl,rfl,an _ _⟩
         refine aF ?_ ?_
         ·intro wD E sD;refine aw (aw (aw (aw (aw ?_))));intro v4 p9;intro v5 nS;refine aw (aw (aS du rfl rfl I3 (by decide) rfl rfl ?_));exact ad ⟨rfl,rfl,_,rfl,rfl,an _ _⟩
         exact bD.nil
        ·intro Lg lR;refine aw (aw (aw (aw ?_)));intro aas WX;intro Jt wZ;refine aw (aw (aw (aw ?_)));have h9:=h8.step lR;refine bQ (M:=M2) I3 rfl rfl h9.x rfl rfl h9.mx (fun Qd WY uu=>?_);refine ad ⟨rfl,?_⟩;have C5:=h9.Mn uu WY (h9.hb.le uu.le) h9.hk;have WZ:=(hp8.le (by decide) lR.le).le (by decide) uu.le;refine ah ?_;refine aH (M:=M2) (A:=RT.po) (B:=RT.int .i64) bK rfl rfl I3 (by decide) G6 rfl rfl (by decide) WZ (aq _ _) (fun aat Mt=>?_);refine cc (M:=M2) ar rfl rfl Mt (aq _ _) (fun _=>?_);refine bz (v':= .int .i64 d) rfl ?_;refine bQ (M:=M2) I3 rfl rfl C5.l rfl rfl C5.ml (fun PG W0 je=>?_);have h11:=C5.Iw je W0;refine ad (ah (bB rfl rfl rfl (by omega) (ae rfl rfl (ad ?_))));refine⟨rfl,(j+1,v12),(.cons rfl (.cons rfl (.cons rfl (.cons rfl (.cons rfl (.cons rfl (.cons rfl .nil))))))),?_,?_⟩
         ·refine⟨by simp only;omega,?_,?_⟩
          ·exact je.bF (uu.bF (lR.aI (tv.bF (qQ.bF (jq.aI (px.aI hQ)) (by omega)) (by omega))) (by omega)) (by omega)
          ·simp only;rw[show i+(j+1)=i+j+1 from by omega,rZ hx,f5,ftk];exact h11
         ·simp only;omega
     ·refine cN (aj (ah ?_));obtain rfl:j=((l.drop i).take 8).length:=by omega
      have NY:M2 bq:=by rw[Jl];exact .inl rfl
      refine aE ar rfl rfl rfl h4.l rfl (aS (o':=2) jL rfl rfl I3 (by decide) rfl rfl ?_);refine bQ (M:=M2) I3 rfl rfl hQ rfl rfl NY (fun JU QU A5=>?_);have NR:=h4.other A5 Tl St;change JU.heap[bq]? =some (.cells [.int .i64 (dx (-1) (l.take i)).length,.int .i64 (bW (-1) (l.take i)),.int .i64 (bW (-1) (l.take (i+((l.drop i).take 8).length))),.int .i64 ((l.drop i).take 8).length].toArray 195 (0,0))at QU;refine ad ?_;have hO:=NR.o;have hX:=NR.x;have Iy:=NR.hk;have gF:∀k,vk.ownBlock=some k→k≠bo:=fun k hk=>by have:=(Iy.base k hk).1;omega
      have ael:=ak NR.r;have g1:=iM l (-1) pw (by omega) i;have g2:=iM l (-1) pw (by omega) (i+((l.drop i).take 8).length);have g3:=kF l i;apply T.BF (M:=M2) (n:=85) _ mixed [(7,fun k=>vk.ownBlock=some k)] [b8.eq _,b8.eq _,b8.eq _,b8.eq _,b8.eq _,b8.eq (.agg [.int .i64 (dx (-1) (l.take i)).length,.int .i64 (bW (-1) (l.take i)),.int .i64 (bW (-1) (l.take (i+((l.drop i).take 8).length))),.int .i64 ((l.drop i).take 8).length].toArray),b8.V ((RT.bl).sl) [(((dx (-1) (l.take i)).length:Int),bW (-1) (l.take i),bW (-1) (l.take (i+((l.drop i).take 8).length)),(((l.drop i).take 8).length:Int))],⟨fun t w=>∃M3,Own RT.bl 195 M3 w (D+2) t (mg l ((i+7)/8)++[(((dx (-1) (l.take i)).length:Int),bW (-1) (l.take i),bW (-1) (l.take (i+((l.drop i).take 8).length)),(((l.drop i).take 8).length:Int))])∧Step M2 JU M3 w (fun k=>vk.ownBlock=some k),aC,fun⟨M3,h1,h2⟩ s hN=>⟨M3,h1.bg ((s.cb hN (fun _ h=>h.elim)).any M3),h2.ay ((s.cb hN (fun _ h=>h.elim)).any M3)⟩⟩,b8.eq _,b8.eq _]
      ·rfl
      ·rfl
      ·rfl
      ·rfl
      ·intro p hp b hb;simp only[cE]at hp;subst hp;exact Iy.mut_ b hb
      ·exact⟨fun _ _ _ _=>trivial,⟨fun _ _ _ _=>trivial,⟨fun _ _ _ _=>trivial,⟨fun _ _ _ _=>trivial,⟨fun _ _ _ _=>trivial,⟨fun _ _ _ _=>trivial,⟨fun _ _ _ _=>trivial,⟨fun p hp=>by simp at hp,⟨fun _ _ _ _=>trivial,⟨fun _ _ _ _=>trivial,trivial⟩⟩⟩⟩⟩⟩⟩⟩⟩⟩
      ·refine aF ?_ ?_
       ·intro wD E sD;replace sD:Step M2 _ M2 wD (fun k=>vk.ownBlock=some k):=sD;refine aE cH rfl rfl rfl (sD.bF hO (fun hb=>gF _ hb rfl)) rfl ?_;exact ad ⟨rfl,rfl,_,rfl,rfl,an _ _⟩
       refine aF ?_ ?_
       ·intro wD E sD;replace sD:Step M2 _ M2 wD (fun k=>vk.ownBlock=some k):=sD;refine aE cH rfl rfl rfl (sD.bF hO (fun hb=>gF _ hb rfl)) rfl ?_;exact ad ⟨rfl,rfl,_,rfl,rfl,an _ _⟩
       refine aF ?_ ?_
       ·intro wD E sD;replace sD:Step M2 _ M2 wD (fun k=>vk.ownBlock=some k):=sD;refine aw (aQ rfl ⟨_,rfl⟩ rfl ?_);exact ad ⟨rfl,rfl,_,rfl,rfl,an _ _⟩
       refine aF ?_ ?_
       ·intro wD E sD;replace sD:Step M2 _ M2 wD (fun k=>vk.ownBlock=some k):=sD;refine aw (aS du rfl rfl Af (by decide) rfl rfl ?_);exact ad ⟨rfl,rfl,_,rfl,rfl,an _ _⟩
       refine aF ?_ ?_
       ·intro wD E sD;replace sD:Step M2 _ M2 wD aC:=sD;refine aw (aE dP rfl rfl rfl (bV sD (by assumption)) rfl ?_);exact ad ⟨rfl,rfl,_,rfl,rfl,an _ _⟩
       refine aF ?_ ?_
       ·intro wD E sD;replace sD:Step M2 _ M2 wD (fun k=>vk.ownBlock=some k):=sD;refine ib (vs:=[.int .i64 (dx (-1) (l.take i)).length,.int .i64 (bW (-1) (l.take i)),.int .i64 (bW (-1) (l.take (i+((l.drop i).take 8).length))),.int .i64 ((l.drop i).take 8).length]) jL rfl tZ rfl rfl rfl (sD.bF QU (fun hb=>St _ hb rfl)) ?_;exact ad ⟨rfl,rfl,_,rfl,rfl,an _ _⟩
       refine aF ?_ ?_
       ·intro wD E sD;replace sD:Step M2 _ M2 wD aC:=sD;refine aw ?_;refine eQ (A:=RT.bl) (hn:=by decide) (M:=M2) dP tZ (by decide) rfl rfl (sD.lt NR.lt) (Tt (by omega) (by omega) (by omega) (by omega)) (.inl rfl) (fun uS wS hS sS=>?_);exact ad ⟨rfl,rfl,_,rfl,hS,sS⟩
       refine aF ?_ ?_
       ·intro wD E sD;replace sD:Step M2 _ M2 wD aC:=sD;refine aw ?_;intro v6 nR;refine cO (M:=M2) (base:=D+2) dP tZ rfl rfl rfl rfl (Iy.bg sD) (show((RT.bl).sl).V M2 wD [(((dx (-1) (l.take i)).length:Int),bW (-1) (l.take i),bW (-1) (l.take (i+((l.drop i).take 8).length)),(((l.drop i).take 8).length:Int))] v6 from nR) (aq _ _) (by simp[mg];omega) (by simp[mg];omega) (by have:=sD.size;omega) (fun v3 M3 w3 Hd s3=>?_);exact ad ⟨rfl,rfl,_,rfl,⟨M3,Hd,(sD.cb (fun _ h=>h.elim) Iy.mut_).trans s3 (fun b _ hb=>hb)⟩,s3.back⟩
       refine aF ?_ ?_
       ·intro wD E sD;replace sD:Step M2 _ M2 wD (fun k=>vk.ownBlock=some k):=sD;refine aw (aw (aw (aw (aw (aw (aw ?_))))));intro v6 nR;intro v7 AE;refine aQ rfl ⟨_,rfl⟩ rfl ?_;exact ad ⟨rfl,rfl,_,rfl,rfl,an _ _⟩
       refine aF ?_ ?_
       ·intro wD E sD;replace sD:Step M2 _ M2 wD (fun k=>vk.ownBlock=some k):=sD;refine aw (aw (aw (aw (aw (aw (aw ?_))))));intro v6 nR;intro v7 AE;refine aS du rfl rfl Af (by decide) rfl rfl ?_;exact ad ⟨rfl,rfl,_,rfl,rfl,an _ _⟩
       exact bD.nil
      ·intro W2 QV;replace QV:Step M2 _ M2 W2 (fun k=>vk.ownBlock=some k):=QV;refine aw (aw (aw (aw (aw (aw ?_)))));intro aau W3;intro aav Mu;refine aw (aw ?_);obtain⟨M3,Hd,sR⟩:=Mu;obtain⟨⟨QB,hm3,aen⟩,G3⟩:=NR.grow sR Hd;refine bQ (M:=M3) Af rfl rfl QB rfl (by obtain⟨_,_,he,_⟩:=Hd.isSlice;rw[he];rfl) hm3 (fun w17 W4 W5=>?_);refine ad ⟨rfl,?_⟩;have Me:=G3 W5 W4;have h18:=Me.mu (st':= .loop (rec .ready none)) Me.r;have hE:i+((l.drop i).take 8).length=min (i+8) l.length:=by omega
       rw[hE,Ed (by omega) hi]at h18;exact⟨Me.r,true,rfl,fun _=>⟨M3,_,_,h18,by omega,by omega⟩,fun h=>by cases h⟩
  ·obtain⟨Mz,vb,vk,h,_,_⟩:=h3.resolve_right (fun h=>h);left;rw[List.take_length]at h;have h5:=h.mu (st':= .loop (rec .exhausted none)) h.r;refine⟨h.r,?_⟩;generalize w3.putObj (D+1) _=wE at h5 ⊢;refine aj (ah (aE cH rfl rfl rfl h5.o rfl (ai rfl rfl (ai rfl rfl (ad (aJ ?_))))));obtain⟨q1,q2,q3,q4,q5,q6,q7,q8,q9,q10,q11,q12,q13,q14,q15,q16,q17,q18⟩:=h5.ne;have sZ:Step Mz wE Mz (wE.putObj D (.deferred none)) (fun k=>k=D):=dG h5.md;have SZ:=h5.S.cu sZ (fun k hk=>by subst hk;omega);have ht:=lJ l;refine KB rfl rfl rfl h5.d ⟨SZ.back,fun _=>⟨_,rfl,?_⟩,fun hf=>by rw[pw]at hf;cases hf⟩;exact Ov (sZ.bF h5.x (by omega)) (fun hh=>by have:=hM _ hh;omega) ((h5.hb.le sZ.le).le (Le.close hM SZ)) (Own.close hM SZ ((h5.hk.step sZ (fun k hk hh=>by have:=(h5.hk.base k hk).1;omega)).rM (by omega)) (by simp[mg];omega)) (by omega)
end Go.K
namespace Go.K
open Go.Proofs
namespace TKBldG
theorem jE:TI Tryz.prog 107 (.slice none 0 0) 1 24:=by unfold TI;kernel_rfl
theorem A6:TI Tryz.prog 188 (.slice none 0 0) 1 24:=by unfold TI;kernel_rfl
theorem Iz:Enters Tryz.prog 126:=enters Tryz.func126 rfl (by decide)
theorem W6:Enters Tryz.prog 175:=enters Tryz.func175 rfl (by decide)
end TKBldG
open TKBldG
set_option maxRecDepth 10000
theorem index_spec {M:aA} {l:List (List Po)} {v0:Value} {g:FuncId} {cap:List Value} {B:Nat} {J:Nat→aA→World→Prop} {bad:List Po→Bool} (w0:World) (hM:Lt M w0) (hv:(((RT.po).sl).sl).V M w0 l v0) (hg:Enters Tryz.prog g) (hJ:J 0 M w0) (iy:∀i M w M' w',J i M w→Step M w M' w' aC→J i M' w') (ht:∀i M w x vx,J i M w→Lt M w→l[i]? =some x→((RT.po).sl).V M w x vx→Spec Tryz.prog g ([vx]++cap).toArray w (fun v w'=>∃M',Lt M' w'∧v= .bool (bad x)∧(bad x=false→J (i+1) M' w')∧Step M w M' w' (jy M B))):
  Spec Tryz.prog 175 #[v0,.func (.func g) #[] cap.toArray] w0 (fun v w=>∃M' k,v= .int .i64 k∧ -1≤k∧Lt M' w∧Step M w0 M' w (jy M B)∧(k= -1→(∀x∈l,bad x=false)∧J l.length M' w)∧(0≤k→∃x∈l,bad x=true)):=by
 have hlen:=dM hv;refine aX (args:=[_,_]) (fn:=Tryz.f175) Tryz.func175 rfl (n:=19) Tryz.ntmps175 ?_;have S:Step M w0 M w0 (jy M B):=(an _ _).cb (fun _ h=>h.elim) (fun _ h=>h.2);refine aj (ah (ai rfl rfl (ad (aj (aj (ah (ae rfl rfl (bT Tryz.underlying56 rfl hv rfl (ae rfl rfl (ad (bj ?_)))))))))));refine dF (σ:=Nat) (fun q=>[(0,v0),(1,.func (.func g) #[] cap.toArray),(6,v0),(7,.int .i64 (l.length:Int)),(8,.int .i64 (q:Int))]) (fun q w=>∃M',Lt M' w∧Step M w0 M' w (jy M B)∧(((RT.po).sl).sl).V M' w l v0∧J q M' w∧q≤l.length∧∀x∈l.take q,bad x=false) (fun q=>l.length-q) 0 (.cons rfl (.cons rfl (.cons rfl (.cons rfl (.cons rfl .nil))))) ?_ ?_
 ·exact⟨M,hM,S,hv,hJ,bH _,fun x h=>by simp at h⟩
 ·clear hM S hv hJ;rintro i w ⟨M1,hM,S,hv,hJ,hi,iI⟩;refine aj (ah (cd rfl rfl rfl (ad (aj ?_))));refine bI rfl (fun c2=>?_) (fun c2=>?_)
  ·refine aV (aj (bj (aj (ah (ae rfl rfl (ai rfl rfl (ad (aj (ah (ae rfl rfl (ae rfl rfl ?_)))))))))));refine ae rfl rfl ?_;refine dq (M:=M1) Tryz.underlying56 jE rfl rfl rfl hv (aq _ _) (by omega) (fun u x Ai hu=>?_);rw[az]at Ai;refine cf (M:=M1) aW rfl rfl rfl rfl rfl hu (aq _ _) (fun vx sK=>?_);refine Rg.nK (first:=[]) (captured:=cap) (xs:=[.tmp 15]) rfl rfl rfl hg (ht i _ _ x vx hJ hM Ai sK) (fun r4 w4 hc=>?_);obtain⟨M4,Mv,rfl,Sw,s4⟩:=hc;refine bz (v':= .bool (decide (bad x=true))) (by simp) ?_;have S4:=S.trans s4 (fun k hk h=>⟨h.1,(S.mem k hk).1 h.2⟩);refine ad ?_;refine bI rfl (fun c4=>?_) (fun c4=>?_)
   ·refine aj (ah (ae rfl rfl (ai rfl rfl (ad (aJ ?_)))));exact aO rfl rfl ⟨M4,_,rfl,by omega,Mv,S4,fun h=>absurd h (by omega),fun _=>⟨x,aL Ai,c4⟩⟩
   ·refine aV (ah (bB rfl rfl rfl (by omega) (ae rfl rfl (ad ?_))));refine⟨rfl,i+1,(.cons rfl (.cons rfl (.cons rfl (.cons rfl (.cons rfl .nil))))),?_,?_⟩
    ·have hb:bad x=false:=by simpa using c4
     exact⟨M4,Mv,S4,hv.le s4.le,Sw hb,by omega,fun y hy=>by
      rw[cg,Ai,cZ,dm,cE]at hy;rcases hy with hy|rfl
      ·exact iI y hy
      ·exact hb⟩
    ·omega
  ·refine cN (aj (ah (ai rfl rfl (ad (aJ ?_)))));rw[bp (by omega)]at iI;have e:i=l.length:=by omega
   subst e;exact aO rfl rfl ⟨_,_,rfl,by omega,hM,S,fun _=>⟨iI,hJ⟩,fun h=>absurd h (by omega)⟩
theorem uw {M:aA} {l:List (List Po)} {v0:Value} {g:FuncId} {cap:List Value} {B:Nat} {J:Nat→aA→World→Prop} {bad:List Po→Bool} (w0:World) (hM:Lt M w0) (hv:(((RT.po).sl).sl).V M w0 l v0) (hg:Enters Tryz.prog g) (hJ:J 0 M w0) (iy:∀i M w M' w',J i M w→Step M w M' w' aC→J i M' w') (ht:∀i M w x vx,J i M w→Lt M w→l[i]? =some x→((RT.po).sl).V M w x vx→Spec Tryz.prog g ([vx]++cap).toArray w (fun v w'=>∃M',Lt M' w'∧v= .bool (bad x)∧(bad x=false→J (i+1) M' w')∧Step M w M' w' (jy M B))):
  Spec Tryz.prog 127 #[v0,.func (.func g) #[] cap.toArray] w0 (fun v w=>∃M' k,v= .bool (decide (0≤k))∧ -1≤k∧Lt M' w∧Step M w0 M' w (jy M B)∧(k= -1→(∀x∈l,bad x=false)∧J l.length M' w)∧(0≤k→∃x∈l,bad x=true)):=by
 refine aX (args:=[_,_]) (fn:=Tryz.f127) Tryz.func127 rfl (n:=9) Tryz.ntmps127 (aj (ah (ai rfl rfl (ad (aj (ah (ae rfl rfl (ae rfl rfl ?_))))))));refine aP rfl rfl W6 (index_spec w0 hM hv hg hJ iy ht) (fun r w1 hc=>?_);obtain⟨M1,k,rfl,hk,h2⟩:=hc;refine dy rfl rfl rfl (ai rfl rfl (ad (aJ ?_)));exact aO rfl rfl ⟨M1,k,rfl,hk,h2⟩
def zn (x:List Po):Int:=match x.getLast? with|some p=>p.1|none=> -1
def kL (n:Int) (x:List Po):Bool:= !dQ (-1) x||x.isEmpty||decide (n≤zn x)
theorem zo {x:List Po} {p:Po} (h:x[x.length-1]? =some p):zn x=p.1:=by
 unfold zn;rw[List.getLast?_eq_getElem?,h]
structure Room (x:List Po):Prop where
 ps:∀p∈x,p.2.length≤1099511627776
 by_:(dx (-1) x).length≤35184372088832
 ln:x.length≤1099511627776
 tot:gq x≤4611686018427387904
def RT.cell:RT Value where
 n:=1
 agg:=false
 R:=fun _ _ x vs=>vs=[x]∧x.oneCell'=true
 len:=by rintro _ _ x vs ⟨rfl,_⟩;rfl
 one:=by rintro _ _ x vs ⟨rfl,h⟩ v hv;simp at hv;subst hv;exact h
 le:=fun _ h=>h
theorem IA {M:aA} {w:World} {v:Value} (h:v.oneCell'=true):RT.cell.V M w v v:=⟨[v],⟨rfl,h⟩,rfl⟩
theorem eo.cells {α:Type} {A:RT α} (hA:A.n=1) {M:aA} {w:World}:∀{xs:List α} {C:List Value},eo A M w xs C→∃ys:List Value,eo RT.cell M w ys C∧ys.length=xs.length
 |[],C,h=>⟨[],h,rfl⟩
 |x::xs,C,h=>by
  obtain⟨vs,r,h1,h2,h3⟩:=h;obtain⟨ys,h4,h5⟩:=eo.cells hA h3;have hl:=A.len h2
  match vs,hl,h1,h2 with
  |[v],_,h1,h2=>exact⟨v::ys,⟨[v],r,h1,⟨rfl,A.one h2 v (by simp)⟩,h4⟩,by simp[h5]⟩
  |[],hl,_,_=>simp at hl;omega
  |_::_::_,hl,_,_=>simp at hl;omega
theorem Own.cells {α:Type} {A:RT α} (hA:A.n=1) {e:TypeId} {M:aA} {w:World} {base:Nat} {v:Value} {xs:List α} (h:Own A e M w base v xs):∃ys:List Value,Own RT.cell e M w base v ys∧ys.length=xs.length:=by
 obtain⟨⟨C,hr,ha⟩,hm⟩:=h;obtain⟨ys,h1,h2⟩:=ha.cells hA;exact⟨ys,⟨⟨C,by rw[h2,show RT.cell.n=A.n from hA.symm];exact hr,h1⟩,hm⟩,h2⟩
def ux (bl bn:Nat) (n:Int) (ls:List (List Po)) (B:Nat) (i:Nat) (M:aA) (w:World):Prop:=∃vl,w.heap[bl]? =some (.cells #[vl] 188 (0,0))∧M bl∧B≤bl∧w.heap[bn]? =some (.cells #[.int .i64 n] 3 (0,0))∧M bn∧Own ((RT.li).ptr) 129 M w B vl ((ls.take i).map gJ)
theorem ux.bg {bl bn:Nat} {n:Int} {ls:List (List Po)} {B i:Nat} {M M':aA} {w w':World} (h:ux bl bn n ls B i M w) (s:Step M w M' w' aC):ux bl bn n ls B i M' w':=by
 obtain⟨vl,h1,h2,h3,h4,h5,h6⟩:=h;exact⟨vl,s.aI h1,(s.mem _ (ak h1)).2 h2,h3,s.aI h4,(s.mem _ (ak h4)).2 h5,h6.bg s⟩
theorem Mw {M:aA} {bl bn B i:Nat} {n:Int} {ls:List (List Po)} {x:List Po} {v0:Value} (w0:World) (hM:Lt M w0) (hB:B≤w0.heap.size) (hJ:ux bl bn n ls B i M w0) (hx:ls[i]? =some x) (hv:((RT.po).sl).V M w0 x v0) (hr:Room x) (mf:i≤1000000000) (hm:dQ (-1) x=true):
  Spec Tryz.prog 125 #[v0,.pointer (some ⟨bl,0,none⟩),.pointer (some ⟨bn,0,none⟩)] w0 (fun v w=>∃M',Lt M' w∧v= .bool (kL n x)∧(kL n x=false→ux bl bn n ls B (i+1) M' w)∧Step M w0 M' w (jy M B)):=by
 have hlen:=dM hv;obtain⟨vl,gl,iR,W7,gn,kb,ho⟩:=hJ;have nln:bl≠bn:=fun h=>by rw[h,gn]at gl;simp at gl
 refine aX (args:=[_,_,_]) (fn:=Tryz.f125) Tryz.func125 rfl (n:=34) Tryz.ntmps125 ?_;have S:Step M w0 M w0 (jy M B):=(an _ _).cb (fun _ h=>h.elim) (fun _ h=>h.2);refine aj (ah (ai rfl rfl (ad (aj (ah (ae rfl rfl ?_))))));refine aP rfl rfl Iz (qi hM hv hr.ps hr.by_ hr.ln hr.tot) (fun r1 w1 hc=>?_);obtain⟨s1,fv,iI⟩:=hc;obtain⟨p,rfl,hp⟩:=fv hm;have:=ak gl;replace iR:=(s1.mem _ this).2 iR;replace gl:=s1.aI gl;have:=ak gn;replace kb:=(s1.mem _ this).2 kb;replace gn:=s1.aI gn;replace hv:=hv.le s1.le;replace ho:=ho.bg s1;replace hM:=s1.lt hM;have:=S.size;replace S:=S.ay s1;refine ae rfl rfl (bP rfl rfl rfl (bP rfl rfl rfl (ai rfl rfl (ai rfl rfl (ad (aj (ah (aE dO rfl rfl rfl gl rfl (bz (v':=vl) rfl (ae rfl rfl ?_))))))))));refine eQ (A:=((RT.li).ptr)) (hn:=by decide) (M:=M) dO ov (by decide) rfl rfl hM (B7.2 hp) (.inr ⟨rfl,rfl⟩) (fun W8 QW kc mz=>?_);have:=ak gl;replace iR:=(mz.mem _ this).2 iR;replace gl:=mz.aI gl;have:=ak gn;replace kb:=(mz.mem _ this).2 kb;replace gn:=mz.aI gn;replace hv:=hv.le mz.le;replace hp:=hp.le (by decide) mz.le;replace ho:=ho.bg mz;replace hM:=mz.lt hM;have:=S.size;replace S:=S.ay mz;refine cO (M:=M) (base:=B) dO ov rfl rfl rfl rfl ho kc (aq _ _) (by simp;omega) (by simp;omega) (by have:=S.size;omega) (fun Mx zp W9 Gl mA=>?_);have:=ak gl;replace iR:=(mA.mem _ this).2 iR;replace gl:=mA.bF gl (fun h=>by first|exact ho.dC gl h|exact ho.eL gl (by decide) h|(have:=(ho.base _ h).1;omega));have:=ak gn;replace kb:=(mA.mem _ this).2 kb;replace gn:=mA.bF gn (fun h=>by first|exact ho.dC gn h|exact ho.eL gn (by decide) h|(have:=(ho.base _ h).1;omega));replace hv:=hv.le mA.le;replace hp:=hp.le (by decide) mA.le
 replace kc:=kc.le mA.le;replace hM:=mA.lt hM;have:=S.size;replace S:=S.trans mA (fun k hk h=>⟨(ho.base k h).1,(S.mem k hk).1 (ho.mut_ k h)⟩);replace ho:=Gl;refine bQ (M:=zp) A6 rfl rfl gl rfl (by obtain⟨_,_,he,_⟩:=ho.isSlice;rw[he];rfl) iR (fun My Gm lp=>?_);change My.heap[_]? =some (Obj.cells #[Mx] _ _)at Gm;have:=ak gl;replace iR:=(lp.mem _ this).2 iR;have:=ak gn;replace kb:=(lp.mem _ this).2 kb;replace gn:=lp.bF gn (fun hk=>by have hk:_=_:=hk;omega);replace hv:=hv.le lp.le;replace hp:=hp.le (by decide) lp.le;replace kc:=kc.le lp.le;replace ho:=ho.step lp (fun c hc (h:c=bl)=>ho.eL gl (by decide) (h▸hc));replace hM:=lp.lt hM;have:=S.size;replace S:=S.trans lp (fun k hk h=>by have h:_=_:=h;subst h;first|(exfalso;omega)|(show _≤_;omega)|exact⟨by first|omega|assumption,(S.mem _ hk).1 ((lp.mem _ (ak gl)).1 iR)⟩|exact .inl rfl|exact .inr rfl|exact .inr (.inl rfl)|exact .inr (.inr rfl)|exact rfl);have QX:=Gm;clear gl;have gl:=QX;clear QX;refine ad (aj ?_);apply T.kE mixed rfl rfl;intro O4 O5;have mh:=O5 zp;have:=ak gl;replace iR:=(mh.mem _ this).2 iR;replace gl:=mh.aI gl;have:=ak gn;replace kb:=(mh.mem _ this).2 kb;replace gn:=mh.aI gn;replace hv:=hv.le mh.le;replace hp:=hp.le (by decide) mh.le;replace kc:=kc.le mh.le;replace ho:=ho.bg mh;replace hM:=mh.lt hM;have:=S.size;replace S:=S.ay mh;refine ae rfl rfl ?_;refine ad ⟨rfl,rfl,rfl,?_⟩;refine eW rfl rfl rfl ?_;refine ad ⟨rfl,rfl,rfl,?_⟩;refine ae rfl rfl ?_;refine ad ⟨rfl,rfl,rfl,?_⟩;refine Rg.zQ (g:=18) rfl ((by decide)) (al rfl rfl (ae rfl rfl ?_));refine ad ⟨rfl,rfl,rfl,?_⟩;refine al rfl rfl (bT aW rfl hv rfl ?_);refine ad ⟨rfl,rfl,rfl,?_⟩;refine al rfl rfl (Rg.zS rfl rfl rfl ?_);refine ad ⟨rfl,rfl,rfl,?_⟩;refine ax rfl rfl rfl ?_;refine ad ⟨rfl,rfl,rfl,?_⟩
 refine ae rfl rfl ?_;refine ad ⟨rfl,rfl,rfl,?_⟩;refine aG (g:=23) rfl (fun MA=>?_) (fun MA=>?_)
 ·refine ao rfl rfl rfl rfl ?_;refine ad ⟨rfl,rfl,rfl,?_⟩;refine ao rfl rfl rfl rfl ?_;refine ad ⟨rfl,rfl,rfl,?_⟩;refine ao rfl rfl rfl rfl ?_;refine ad ⟨rfl,rfl,rfl,?_⟩;refine ao rfl rfl rfl rfl ?_;refine ad ⟨rfl,rfl,rfl,?_⟩;refine ao rfl rfl rfl rfl ?_;refine ad ⟨rfl,rfl,rfl,?_⟩;refine ao rfl rfl rfl rfl ?_;refine ad ⟨rfl,rfl,rfl,?_⟩;refine ao rfl rfl rfl rfl ?_;refine ad ⟨rfl,rfl,rfl,?_⟩;refine ao rfl rfl rfl rfl ?_;refine ad ⟨rfl,rfl,rfl,?_⟩;refine ao rfl rfl rfl rfl ?_;refine ad ⟨rfl,rfl,rfl,?_⟩;refine aR rfl rfl rfl ?_;refine ad ⟨rfl,rfl,rfl,?_⟩;refine ai rfl rfl ?_;refine ad ⟨rfl,rfl,rfl,?_⟩;refine fz (aJ ?_)
  first
  |(have Dd:kL n x=true:=by
     have:x=[]:=fX.1 (by omega);simp[kL,this]
    rw[Dd];exact aO rfl rfl ⟨_,hM,rfl,(fun h=>by cases h),S⟩)
  |(have eG:x.isEmpty=false:=by cases x with
     |nil=>simp at MA
     |cons a t=>rfl
    have Xa:kL n x=decide (n≤q.1):=by unfold kL;rw[hm,eG,zo hq];rfl
    rw[Xa];exact aO rfl rfl ⟨_,hM,rfl,fun _=>⟨_,gl,iR,W7,gn,kb,by rw[cg,hx,cZ,jx];exact ho⟩,S⟩)
 ·refine al rfl rfl (ae rfl rfl ?_);refine ad ⟨rfl,rfl,rfl,?_⟩;refine al rfl rfl (ae rfl rfl ?_);refine ad ⟨rfl,rfl,rfl,?_⟩;refine al rfl rfl (bT aW rfl hv rfl ?_);refine ad ⟨rfl,rfl,rfl,?_⟩;refine al rfl rfl (gA rfl rfl rfl (by omega) ?_);refine ad ⟨rfl,rfl,rfl,?_⟩;refine al rfl rfl ?_;obtain⟨q,hq⟩:∃q,x[x.length-1]? =some q:=⟨_,aN (by omega)⟩;refine dq (M:=zp) aW gu rfl rfl rfl hv (aq _ _) (by omega) (fun u3 a LD Sd=>?_);obtain rfl:q=a:=bM (hq.symm.trans (by rw[show((x.length:Int)-1).toNat=x.length-1 from by omega]at LD;exact LD));refine ad ⟨rfl,rfl,rfl,?_⟩;refine al rfl rfl ?_;refine aH (M:=zp) (A:=RT.po) (B:=RT.int .i64) bK rfl rfl I3 (by decide) (G6) rfl rfl (by decide) (by assumption) (by repeat (first|exact aq _ _|refine aT (aY (by assumption)) ?_)) (fun aax Xb=>?_);refine ad ⟨rfl,rfl,rfl,?_⟩;refine al rfl rfl ?_;refine cc (M:=zp) ar rfl rfl (by assumption) (by repeat (first|exact aq _ _|refine aT (aY (by assumption)) ?_)) (fun Gn=>?_);refine bz (v':= .int .i64 (q.1)) rfl ?_;replace Gn: -9223372036854775808≤(q.1:Int)∧q.1≤9223372036854775807:=Gn;refine ad ⟨rfl,rfl,rfl,?_⟩;refine al rfl rfl (aE ar rfl rfl rfl gn rfl (bz (v':= .int .i64 n) rfl ?_));refine ad ⟨rfl,rfl,rfl,?_⟩;refine al rfl rfl (dy rfl rfl rfl ?_);refine ad ⟨rfl,rfl,rfl,?_⟩;refine ax rfl rfl rfl ?_;refine ad ⟨rfl,rfl,rfl,?_⟩;refine ai rfl rfl ?_;refine ad ⟨rfl,rfl,rfl,?_⟩;refine fz (aJ ?_)
  first
  |(have Dd:kL n x=true:=by
     have:x=[]:=fX.1 (by omega);simp[kL,this]
    rw[Dd];exact aO rfl rfl ⟨_,hM,rfl,(fun h=>by cases h),S⟩)
  |(have eG:x.isEmpty=false:=by cases x with
     |nil=>simp at MA
     |cons a t=>rfl
    have Xa:kL n x=decide (n≤q.1):=by unfold kL;rw[hm,eG,zo hq];rfl
    rw[Xa];exact aO rfl rfl ⟨_,hM,rfl,fun _=>⟨_,gl,iR,W7,gn,kb,by rw[cg,hx,cZ,jx];exact ho⟩,S⟩)
theorem IB {M:aA} {bl bn B i:Nat} {n:Int} {ls:List (List Po)} {x:List Po} {v0:Value} (w0:World) (hM:Lt M w0) (hB:B≤w0.heap.size) (hJ:ux bl bn n ls B i M w0) (hx:ls[i]? =some x) (hv:((RT.po).sl).V M w0 x v0) (hr:Room x) (mf:i≤1000000000) (hm:dQ (-1) x=false):
  Spec Tryz.prog 125 #[v0,.pointer (some ⟨bl,0,none⟩),.pointer (some ⟨bn,0,none⟩)] w0 (fun v w=>∃M',Lt M' w∧v= .bool (kL n x)∧(kL n x=false→ux bl bn n ls B (i+1) M' w)∧Step M w0 M' w (jy M B)):=by
 have hlen:=dM hv;obtain⟨vl,gl,iR,W7,gn,kb,ho0⟩:=hJ;have nln:bl≠bn:=fun h=>by rw[h,gn]at gl;simp at gl
 obtain⟨ys,ho,Nt⟩:=ho0.cells rfl;rw[db,bU]at Nt;clear ho0;refine aX (args:=[_,_,_]) (fn:=Tryz.f125) Tryz.func125 rfl (n:=34) Tryz.ntmps125 ?_;have S:Step M w0 M w0 (jy M B):=(an _ _).cb (fun _ h=>h.elim) (fun _ h=>h.2);refine aj (ah (ai rfl rfl (ad (aj (ah (ae rfl rfl ?_))))));refine aP rfl rfl Iz (qi hM hv hr.ps hr.by_ hr.ln hr.tot) (fun r1 w1 hc=>?_);obtain⟨s1,fv,iI⟩:=hc;obtain rfl:=iI hm;have:=ak gl;replace iR:=(s1.mem _ this).2 iR;replace gl:=s1.aI gl;have:=ak gn;replace kb:=(s1.mem _ this).2 kb;replace gn:=s1.aI gn;replace hv:=hv.le s1.le;replace ho:=ho.bg s1;replace hM:=s1.lt hM;have:=S.size;replace S:=S.ay s1;refine ae rfl rfl (bP rfl rfl rfl (bP rfl rfl rfl (ai rfl rfl (ai rfl rfl (ad (aj (ah (aE dO rfl rfl rfl gl rfl (bz (v':=vl) rfl (ae rfl rfl ?_))))))))));refine eQ (A:=RT.cell) (hn:=by decide) (M:=M) dO ov (by decide) rfl rfl hM (IA (v:= .pointer none) rfl) (.inr ⟨rfl,rfl⟩) (fun W8 QW kc mz=>?_);have:=ak gl;replace iR:=(mz.mem _ this).2 iR;replace gl:=mz.aI gl;have:=ak gn;replace kb:=(mz.mem _ this).2 kb;replace gn:=mz.aI gn;replace hv:=hv.le mz.le;replace ho:=ho.bg mz;replace hM:=mz.lt hM;have:=S.size;replace S:=S.ay mz;refine cO (M:=M) (base:=B) dO ov rfl rfl rfl rfl ho kc (aq _ _) (by simp;omega) (by simp;omega) (by have:=S.size;omega) (fun Mx zp W9 Gl mA=>?_);have:=ak gl;replace iR:=(mA.mem _ this).2 iR;replace gl:=mA.bF gl (fun h=>by first|exact ho.dC gl h|exact ho.eL gl (by decide) h|(have:=(ho.base _ h).1;omega));have:=ak gn;replace kb:=(mA.mem _ this).2 kb;replace gn:=mA.bF gn (fun h=>by first|exact ho.dC gn h|exact ho.eL gn (by decide) h|(have:=(ho.base _ h).1;omega))
 replace hv:=hv.le mA.le;replace kc:=kc.le mA.le;replace hM:=mA.lt hM;have:=S.size;replace S:=S.trans mA (fun k hk h=>⟨(ho.base k h).1,(S.mem k hk).1 (ho.mut_ k h)⟩);replace ho:=Gl;refine bQ (M:=zp) A6 rfl rfl gl rfl (by obtain⟨_,_,he,_⟩:=ho.isSlice;rw[he];rfl) iR (fun My Gm lp=>?_);change My.heap[_]? =some (Obj.cells #[Mx] _ _)at Gm;have:=ak gl;replace iR:=(lp.mem _ this).2 iR;have:=ak gn;replace kb:=(lp.mem _ this).2 kb;replace gn:=lp.bF gn (fun hk=>by have hk:_=_:=hk;omega);replace hv:=hv.le lp.le;replace kc:=kc.le lp.le;replace ho:=ho.step lp (fun c hc (h:c=bl)=>ho.eL gl (by decide) (h▸hc));replace hM:=lp.lt hM;have:=S.size;replace S:=S.trans lp (fun k hk h=>by have h:_=_:=h;subst h;first|(exfalso;omega)|(show _≤_;omega)|exact⟨by first|omega|assumption,(S.mem _ hk).1 ((lp.mem _ (ak gl)).1 iR)⟩|exact .inl rfl|exact .inr rfl|exact .inr (.inl rfl)|exact .inr (.inr rfl)|exact rfl);have QX:=Gm;clear gl;have gl:=QX;clear QX;refine ad (aj ?_);apply T.kE mixed rfl rfl;intro O4 O5;have mh:=O5 zp;have:=ak gl;replace iR:=(mh.mem _ this).2 iR;replace gl:=mh.aI gl;have:=ak gn;replace kb:=(mh.mem _ this).2 kb;replace gn:=mh.aI gn;replace hv:=hv.le mh.le;replace kc:=kc.le mh.le;replace ho:=ho.bg mh;replace hM:=mh.lt hM;have:=S.size;replace S:=S.ay mh;refine ae rfl rfl ?_;refine ad ⟨rfl,rfl,rfl,?_⟩;refine eW rfl rfl rfl ?_;refine ad ⟨rfl,rfl,rfl,?_⟩;refine ae rfl rfl ?_;refine ad ⟨rfl,rfl,rfl,?_⟩;refine Rg.I0 (g:=18) rfl ((by decide)) (ao rfl rfl rfl rfl ?_);refine ad ⟨rfl,rfl,rfl,?_⟩;refine ao rfl rfl rfl rfl ?_;refine ad ⟨rfl,rfl,rfl,?_⟩;refine ao rfl rfl rfl rfl ?_;refine ad ⟨rfl,rfl,rfl,?_⟩;refine aR rfl rfl rfl ?_;refine ad ⟨rfl,rfl,rfl,?_⟩;refine ae rfl rfl ?_;refine ad ⟨rfl,rfl,rfl,?_⟩;refine ao rfl rfl rfl rfl ?_;refine ad ⟨rfl,rfl,rfl,?_⟩
 refine ao rfl rfl rfl rfl ?_;refine ad ⟨rfl,rfl,rfl,?_⟩;refine ao rfl rfl rfl rfl ?_;refine ad ⟨rfl,rfl,rfl,?_⟩;refine ao rfl rfl rfl rfl ?_;refine ad ⟨rfl,rfl,rfl,?_⟩;refine ao rfl rfl rfl rfl ?_;refine ad ⟨rfl,rfl,rfl,?_⟩;refine ao rfl rfl rfl rfl ?_;refine ad ⟨rfl,rfl,rfl,?_⟩;refine ao rfl rfl rfl rfl ?_;refine ad ⟨rfl,rfl,rfl,?_⟩;refine ao rfl rfl rfl rfl ?_;refine ad ⟨rfl,rfl,rfl,?_⟩;refine ao rfl rfl rfl rfl ?_;refine ad ⟨rfl,rfl,rfl,?_⟩;refine aR rfl rfl rfl ?_;refine ad ⟨rfl,rfl,rfl,?_⟩;refine ai rfl rfl ?_;refine ad ⟨rfl,rfl,rfl,?_⟩;refine fz (aJ ?_);have Dd:kL n x=true:=by simp[kL,hm]
 rw[Dd];exact aO rfl rfl ⟨_,hM,rfl,(fun h=>by cases h),S⟩
theorem Gp {M:aA} {bl bn B i:Nat} {n:Int} {ls:List (List Po)} {x:List Po} {v0:Value} (w0:World) (hM:Lt M w0) (hB:B≤w0.heap.size) (hJ:ux bl bn n ls B i M w0) (hx:ls[i]? =some x) (hv:((RT.po).sl).V M w0 x v0) (hr:Room x) (mf:i≤1000000000):
  Spec Tryz.prog 125 #[v0,.pointer (some ⟨bl,0,none⟩),.pointer (some ⟨bn,0,none⟩)] w0 (fun v w=>∃M',Lt M' w∧v= .bool (kL n x)∧(kL n x=false→ux bl bn n ls B (i+1) M' w)∧Step M w0 M' w (jy M B)):=by
 cases hm:dQ (-1) x with
 |true=>exact Mw w0 hM hB hJ hx hv hr mf hm
 |false=>exact IB w0 hM hB hJ hx hv hr mf hm
end Go.K
namespace Go.K
open Go.Proofs
namespace TKBldH
theorem NS:TI Tryz.prog 56 (.slice none 0 0) 1 24:=by unfold TI;kernel_rfl
theorem Sx:TI Tryz.prog 58 (.agg #[(.slice none 0 0),(.slice none 0 0),(.slice none 0 0),(.slice none 0 0)]) 4 96:=by unfold TI;kernel_rfl
theorem Xc:TI Tryz.prog 125 (.agg #[(.slice none 0 0),(.slice none 0 0),(.pointer none)]) 3 56:=by unfold TI;kernel_rfl
theorem A6:TI Tryz.prog 188 (.slice none 0 0) 1 24:=by unfold TI;kernel_rfl
theorem Xd:placesOf Tryz.prog 125=[(0,1),(1,1),(2,1)].map some:=by kernel_rfl
theorem Sn:Enters Tryz.prog 63:=enters Tryz.func63 rfl (by decide)
theorem E76:Enters Tryz.prog 76:=enters Tryz.func76 rfl (by decide)
theorem Xe:Enters Tryz.prog 124:=enters Tryz.func124 rfl (by decide)
theorem Xf:Enters Tryz.prog 125:=enters Tryz.func125 rfl (by decide)
theorem Xg:Enters Tryz.prog 127:=enters Tryz.func127 rfl (by decide)
theorem Xh:Enters Tryz.prog 128:=enters Tryz.func128 rfl (by decide)
end TKBldH
open TKBldH
set_option maxRecDepth 10000
def tQ (p:Pa):Bool:=decide (p.1.length=p.2.1.length)&&eB (-1) p.2.1&&p.2.2.2.all (fun x=> !kL (p.1.length:Int) x)&&decide (p.2.2.1.length=p.2.2.2.length)&&ze none p.2.2.1
def Gq (p:Pa):Se:=(p.1,p.2.1,p.2.2.1,p.2.2.2.map gJ)
structure Gr (p:Pa):Prop where
 a:p.1.length≤1000000000
 b:p.2.1.length≤1000000000
 c:p.2.2.1.length≤1000000000
 d:p.2.2.2.length≤1000000000
 e:∀x∈p.2.2.2,Room x
theorem A7 {M:aA} {p:Pa} {v0:Value} (w0:World) (hM:Lt M w0) (hv:RT.pa.V M w0 p v0) (hR:Gr p):
  Spec Tryz.prog 76 #[v0] w0 (fun v w=>Step M w0 M w aC∧(tQ p=true→ch RT.se M w v (Gq p))∧(tQ p=false→v= .pointer none)):=by
 have jH:=hM;obtain⟨hRa,hRb,hRc,hRd,hRe⟩:=hR;refine aX (args:=[_]) (fn:=Tryz.f76) Tryz.func76 rfl (n:=45) Tryz.ntmps76 ?_;have S:Step M w0 M w0 aC:=(an _ _).cb (fun _ h=>h.elim) (fun _ h=>h.elim);refine aj (ah ?_);refine kd (A:=RT.pa) rfl rfl hM hv rfl (fun u0 w1 cz s0 _=>?_);replace hM:=s0.lt hM;have:=S.size;replace S:=S.ay s0;refine ai rfl rfl (ad (aj (ah ?_)));refine aH (M:=M) (A:=RT.pa) (B:=(RT.int .i64).sl) cy rfl rfl nF (by decide) (Zo) rfl rfl (by decide) (by assumption) (by repeat (first|exact aq _ _|refine aT (aY (by assumption)) ?_)) (fun uc jt=>?_);refine cf (M:=M) au rfl rfl rfl rfl rfl (by assumption) (by repeat (first|exact aq _ _|refine aT (aY (by assumption)) ?_)) (fun ud kr=>?_);replace kr:((RT.int .i64).sl).V M _ p.1 ud:=kr;refine bT au rfl kr rfl ?_;refine eX M I3 rfl (fun jB wV Px Py ga s1_3=>?_);obtain⟨jc,nc⟩:∃M',M'=ins M jB:=⟨_,rfl⟩;rw[←nc]at s1_3;have fg:jc jB:=by rw[nc];exact .inl rfl
 change wV.heap[jB]? =some (.cells #[.int .i64 0] _ _)at ga;replace cz:=cz.le (by decide) s1_3.le;replace hM:=s1_3.lt hM;have:=S.size;replace S:=S.ay s1_3;refine bQ (M:=jc) I3 rfl rfl ga rfl (rfl) fg (fun HN A8 gK=>?_);change HN.heap[_]? =some (Obj.cells #[.int .i64 (p.1.length:Int)] _ _)at A8;have:=ak ga;replace fg:=(gK.mem _ this).2 fg;replace cz:=cz.le (by decide) gK.le;replace hM:=gK.lt hM;have:=S.size;replace S:=S.trans gK (fun k hk h=>by have h:_=_:=h;subst h;first|(exfalso;omega)|(show _≤_;omega)|exact⟨by first|omega|assumption,(S.mem _ hk).1 ((gK.mem _ (ak ga)).1 fg)⟩|exact .inl rfl|exact .inr rfl|exact .inr (.inl rfl)|exact .inr (.inr rfl)|exact rfl);have qH:=A8;clear ga;have ga:=qH;clear qH;refine ad (aj (aj (ah ?_)));refine aH (M:=jc) (A:=RT.pa) (B:=(RT.int .i64).sl) cy rfl rfl nF (by decide) (Vr) rfl rfl (by decide) (by assumption) (by repeat (first|exact aq _ _|refine aT (aY (by assumption)) ?_)) (fun aes aaz=>?_);refine cf (M:=jc) au rfl rfl rfl rfl rfl (by assumption) (by repeat (first|exact aq _ _|refine aT (aY (by assumption)) ?_)) (fun Xi Gs=>?_);replace Gs:((RT.int .i64).sl).V jc _ p.2.1 Xi:=Gs;refine bT au rfl Gs rfl (aE ar rfl rfl rfl ga rfl (bz (v':= .int .i64 (p.1.length:Int)) rfl (eW rfl rfl rfl (ae rfl rfl ?_))));refine aG (g:=16) rfl (fun Xj=>?_) (fun Xj=>?_)
 ·refine ao rfl rfl rfl rfl (ao rfl rfl rfl rfl (ao rfl rfl rfl rfl (ao rfl rfl rfl rfl (aR rfl rfl rfl (ad (ly rfl (aj (ah (ai rfl rfl (ad (aJ ?_)))))))))))
  have eb:tQ p=false:=by
   unfold tQ
   first
   |(rw[decide_eq_false (show¬p.1.length=p.2.1.length by omega)];simp;done)
   |(simp[c2];done)
  exact aO rfl rfl ⟨S.back,fun h=>by(rw[eb]at h;cases h),fun _=>rfl⟩
 ·have NO:p.1.length=p.2.1.length:=by omega
  refine al rfl rfl ?_;refine aH (M:=jc) (A:=RT.pa) (B:=(RT.int .i64).sl) cy rfl rfl nF (by decide) (Vr) rfl rfl (by decide) (by assumption) (by repeat (first|exact aq _ _|refine aT (aY (by assumption)) ?_)) (fun aet aaA=>?_);refine al rfl rfl ?_;refine cf (M:=jc) au rfl rfl rfl rfl rfl (by assumption) (by repeat (first|exact aq _ _|refine aT (aY (by assumption)) ?_)) (fun Xk Gt=>?_);replace Gt:((RT.int .i64).sl).V jc _ p.2.1 Xk:=Gt;refine al rfl rfl ?_;refine aP rfl rfl Xe (C8 _ Gt) (fun r wc hc=>?_);obtain⟨rfl,rfl⟩:=hc;refine al rfl rfl (Rg.not rfl rfl (bz (v':= .bool (decide (¬eB (-1) p.2.1=true))) (by simp) (ax rfl rfl rfl (ad ?_))));refine bI rfl (fun c2=>?_) (fun c2=>?_)
  ·refine aj (ah (ai rfl rfl (ad (aJ ?_))))
   have eb:tQ p=false:=by
    unfold tQ
    first
    |(rw[decide_eq_false (show¬p.1.length=p.2.1.length by omega)];simp;done)
    |(simp[c2];done)
   exact aO rfl rfl ⟨S.back,fun h=>by(rw[eb]at h;cases h),fun _=>rfl⟩
  ·have er:eB (-1) p.2.1=true:=dV.1 c2;refine aV (aj (ah ?_));refine eX jc A6 rfl (fun Gu EG aeu aev yw jm=>?_);obtain⟨Cg,Gv⟩:∃M',M'=ins jc Gu:=⟨_,rfl⟩;rw[←Gv]at jm;have MB:Cg Gu:=by rw[Gv];exact .inl rfl
   change EG.heap[Gu]? =some (.cells #[.slice none 0 0] _ _)at yw;have:=ak ga;replace fg:=(jm.mem _ this).2 fg;replace ga:=jm.aI ga;replace cz:=cz.le (by decide) jm.le;replace hM:=jm.lt hM;have:=S.size;replace S:=S.ay jm;refine ad (aj (ah (ia (xs:=[]) (ys:=[.tmp 4,.tmp 3]) rfl rfl rfl (ai rfl rfl (ad (aj (aj (ah ?_))))))));refine aH (M:=Cg) (A:=RT.pa) (B:=((RT.po).sl).sl) cy rfl rfl NS (by decide) (pa3) rfl rfl (by decide) (by assumption) (by repeat (first|exact aq _ _|refine aT (aY (by assumption)) ?_)) (fun PA E0=>?_);refine cf (M:=Cg) Tryz.underlying56 rfl rfl rfl rfl rfl (by assumption) (by repeat (first|exact aq _ _|refine aT (aY (by assumption)) ?_)) (fun Lw sT=>?_);replace sT:(((RT.po).sl).sl).V Cg _ p.2.2.2 Lw:=sT;refine ae rfl rfl ?_;refine aP rfl rfl Xg (uw (cap:=[.pointer (some ⟨Gu,0,none⟩),.pointer (some ⟨jB,0,none⟩)]) (B:=w0.heap.size) (J:=ux Gu jB (p.1.length:Int) p.2.2.2 w0.heap.size) (bad:=kL (p.1.length:Int)) _ hM sT Xf ⟨_,yw,MB,by omega,ga,fg,ec _ _ _ _ _⟩ (fun i M w M' w' h s=>h.bg s) (fun i M w x vx hJ hM hx sK=>Gp w hM (by obtain⟨_,h1,_,h2,_⟩:=hJ;have:=ak h1;omega) hJ hx sK (hRe x (aL hx)) (by have:=(av.1 hx).1;omega))) (fun r6 w6 hc=>?_);obtain⟨M6,k6,rfl,hk6,Gb,s6,hk7,hk8⟩:=hc;replace cz:=cz.le (by decide) s6.le;replace S:=S.jP s6 (bh _);refine ad ?_;refine bI rfl (fun c6=>?_) (fun c6=>?_)
   ·obtain⟨x6,hx6,nH⟩:=hk8 c6
    have eb:tQ p=false:=by
     unfold tQ;have:p.2.2.2.all (fun x=> !kL (p.1.length:Int) x)=false:=List.all_eq_false.2 ⟨x6,hx6,by simp[nH]⟩;simp[this]
    refine aj (ah (ai rfl rfl (ad (aJ ?_))));exact aO rfl rfl ⟨S.back,fun h=>by(rw[eb]at h;cases h),fun _=>rfl⟩
   ·refine aV (aj (ah ?_));obtain⟨nH,⟨vl,gl,_,_,_,_,oK⟩⟩:=hk7 (by omega);rw[bp (bh _)]at oK;have jr:(((RT.li).ptr).sl).V M w6 (p.2.2.2.map gJ) vl:=oK.close jH S (by simp;omega);replace cz:ch RT.pa M w6 u0 p:=cz.le (by decide) (Le.close jH S);replace S:=S.back;replace hM:=S.lt jH;refine aH (M:=M) (A:=RT.pa) (B:=RT.str.sl) cy rfl rfl G7 (by decide) pa2 rfl rfl (by decide) cz (aq _ _) (fun aez aaB=>?_);refine cf (M:=M) a8 rfl rfl rfl rfl rfl (by assumption) (by repeat (first|exact aq _ _|refine aT (aY (by assumption)) ?_)) (fun Xl Gw=>?_);replace Gw:(RT.str.sl).V M _ p.2.2.1 Xl:=Gw;refine aE dO rfl rfl rfl gl rfl (bz (v':=vl) rfl ?_);refine aP rfl rfl Xh (AZ _ hM Gw jr (by omega) (by simp;omega)) (fun r8 w8 hc=>?_);obtain⟨pd,rfl,He,s8⟩:=hc;replace cz:=cz.le (by decide) s8.le;replace jr:=jr.le s8.le;replace gl:=s8.aI gl;replace hM:=s8.lt hM;have:=S.size;replace S:=S.ay s8;refine ae rfl rfl (bP rfl rfl rfl (bP rfl rfl rfl (ai rfl rfl (ai rfl rfl (ad (aj (aj (ah (ae rfl rfl (eW rfl rfl rfl (ad ?_)))))))))));refine bI rfl (fun c9=>?_) (fun c9=>?_)
    ·have eb:tQ p=false:=by
      by_cases h:tQ p=true
      ·unfold tQ at h;simp only[bC,decide_eq_true_eq]at h;exact absurd (by rw[if_pos ⟨by simp[h.1.2],h.2⟩]) c9
      ·simpa using h
     refine aj (ah (ai rfl rfl (ad (aJ ?_))));exact aO rfl rfl ⟨S.back,fun h=>by(rw[eb]at h;cases h),fun _=>rfl⟩
    ·have e9:(p.2.2.1.length=(p.2.2.2.map gJ).length∧ze none p.2.2.1=true):=by
      by_cases h:(p.2.2.1.length=(p.2.2.2.map gJ).length∧ze none p.2.2.1=true)
      ·exact h
      ·exact absurd (by rw[if_neg h];decide) c9
     replace He:=He e9.1 e9.2;refine aV (aj ?_);apply T.D4 [0,1,3,4,6,2,5,7,8,9] 5 [2,3,4] 2 aC mixed
     ·simp+decide only[uN,pR,ic,List.map_nil,tN,tO,List.map_toArray,fu,mC,List.idxOf_cons,cond_true,cond_false,Nat.reduceBEq,Nat.reduceAdd,beq_self_eq_true];rfl
     ·rfl
     ·rfl
     ·rfl
     ·rfl
     ·rfl
     ·rfl
     intro Iq LX;have jq:=LX M;replace cz:=cz.le (by decide) jq.le;replace jr:=jr.le jq.le;replace gl:=jq.aI gl;replace hM:=jq.lt hM;have:=S.size;replace S:=S.ay jq;refine aH (M:=M) (A:=RT.pa) (B:=(RT.int .i64).sl) cy rfl rfl nF (by decide) (Zo) rfl rfl (by decide) (by assumption) (by repeat (first|exact aq _ _|refine aT (aY (by assumption)) ?_)) (fun Jy E3=>?_);refine ad ⟨rfl,rfl,rfl,?_⟩;refine cf (M:=M) au rfl rfl rfl rfl rfl (by assumption) (by repeat (first|exact aq _ _|refine aT (aY (by assumption)) ?_)) (fun QY A9=>?_);replace A9:((RT.int .i64).sl).V M _ p.1 QY:=A9;refine ad ⟨rfl,rfl,rfl,?_⟩;refine aH (M:=M) (A:=RT.pa) (B:=(RT.int .i64).sl) cy rfl rfl nF (by decide) (Vr) rfl rfl (by decide) (by assumption) (by repeat (first|exact aq _ _|refine aT (aY (by assumption)) ?_)) (fun aaC MC=>?_);refine ad ⟨rfl,rfl,rfl,?_⟩;refine cf (M:=M) au rfl rfl rfl rfl rfl (by assumption) (by repeat (first|exact aq _ _|refine aT (aY (by assumption)) ?_)) (fun QZ lY=>?_);replace lY:((RT.int .i64).sl).V M _ p.2.1 QZ:=lY;refine ad ⟨rfl,rfl,rfl,?_⟩;refine ae rfl rfl ?_;refine ad ⟨rfl,rfl,rfl,?_⟩;refine fz ?_;obtain⟨bb,oo,cs,ee,fr,rfl,kY,_⟩:=MC.float;refine⟨iz ⟨jw cy rfl nF (by decide),⟨fJ rfl kY (fun h=>h),⟨fe,trivial⟩⟩⟩,?_⟩;have kp:=kg aC Iq;refine aP rfl rfl Sn (th hM A9 (by omega)) (fun v5 w5 hc=>?_);obtain⟨nS,s5⟩:=hc;replace lY:=lY.le s5.le;replace He:=(He.le (by decide) jq.le).le (by decide) s5.le;replace cz:=cz.le (by decide) s5.le;replace jr:=jr.le s5.le;replace gl:=s5.aI gl;replace hM:=s5.lt hM;have:=S.size;replace S:=S.ay s5;refine(fun(kp:eg _ _ _)=>ad ⟨rfl,rfl,fun _=>kp,?_⟩) (by first|exact kp|exact kp.pO (by assumption)|exact kp.goN (by assumption)|exact kp.go (by assumption) (fun _ _ h=>by first|exact h|exact h.elim))
     refine aP rfl rfl Sn (th hM lY (by omega)) (fun v6 w6' hc=>?_);obtain⟨nR,JV⟩:=hc;replace cz:=cz.le (by decide) JV.le;replace jr:=jr.le JV.le;replace nS:=nS.le JV.le;replace lY:=lY.le JV.le;replace He:=He.le (by decide) JV.le;replace gl:=JV.aI gl;replace hM:=JV.lt hM;have:=S.size;replace S:=S.ay JV;refine(fun(kp:eg _ _ _)=>ad ⟨rfl,rfl,fun _=>kp,?_⟩) (by first|exact kp|exact kp.pO (by assumption)|exact kp.goN (by assumption)|exact kp.go (by assumption) (fun _ _ h=>by first|exact h|exact h.elim));refine dZ (places:=[(0,1),(1,1),(2,1)]) Tryz.underlying125 Xc Xd rfl ⟨_,_,rfl,rfl,_,_,rfl,rfl,_,_,rfl,rfl,rfl⟩ (out:=[_,_,_]) ⟨0,[_],rfl,ik nS,by simp[Value.cells],1,[_],rfl,ik nR,by simp[Value.cells],2,[_],rfl,qh He,by simp[Value.cells],rfl⟩ ?_;refine ad ⟨rfl,rfl,fun h=>absurd rfl h,?_⟩;refine kd (A:=RT.se) (a:=Gq p) rfl rfl hM (Vs (x:=Gq p) nS nR He) rfl (fun u8 w8' Xm IC _=>?_);replace cz:=cz.le (by decide) IC.le;replace jr:=jr.le IC.le;replace nS:=nS.le IC.le;replace lY:=lY.le IC.le;replace He:=He.le (by decide) IC.le;replace nR:=nR.le IC.le;replace gl:=IC.aI gl;replace hM:=IC.lt hM;have:=S.size;replace S:=S.ay IC;refine ad ⟨rfl,rfl,fun h=>absurd rfl h,?_⟩;refine ai rfl rfl ?_;refine ad ⟨rfl,rfl,fun h=>absurd rfl h,?_⟩;refine qp (aJ ?_)
     have eb:tQ p=true:=by
      unfold tQ;rw[decide_eq_true NO,er,e9.2,decide_eq_true (by simpa using e9.1),eh.2 (fun x hx=>by simp[nH x hx])];rfl
     exact aO rfl rfl ⟨S.back,fun _=>Xm,fun h=>by(rw[eb]at h;cases h)⟩
theorem Ba {M:aA} {p:Pa} {v0:Value} (w0:World) (hM:Lt M w0) (hv:RT.pa.V M w0 p v0) (hR:Gr p):
  Spec Tryz.prog 27 #[v0] w0 (fun v w=>Step M w0 M w aC∧(tQ p=true→∃s,v= .tuple #[s,.int .i64 0]∧ch RT.se M w s (Gq p))∧(tQ p=false→v= .tuple #[.pointer none,.int .i64 1])):=by
 refine aX (args:=[_]) (fn:=Tryz.f27) Tryz.func27 rfl (n:=10) Tryz.ntmps27 ?_;have S:Step M w0 M w0 aC:=(an _ _).cb (fun _ h=>h.elim) (fun _ h=>h.elim);refine aj (ah ?_);refine kd (A:=RT.pa) rfl rfl hM hv rfl (fun u0 w1 cz s0 _=>?_);replace hM:=s0.lt hM;have:=S.size;replace S:=S.ay s0;refine ai rfl rfl (ai rfl rfl (ad (aj (ah ?_))));refine cC (M:=M) (A:=RT.pa) cy rfl Sx (by decide) rfl rfl rfl cz (aq _ _) (fun v1 mn=>?_);refine aP rfl rfl E76 (A7 _ hM mn hR) (fun r1 w2 hc=>?_);obtain⟨s2,fv,iI⟩:=hc
 obtain⟨o1,Sm⟩:∃o,r1= .pointer o:=by
  cases h:tQ p with
  |true=>obtain⟨b,o,_,h1,_⟩:=fv h;exact⟨_,h1⟩
  |false=>exact⟨none,iI h⟩
 subst Sm;replace cz:=cz.le (by decide) s2.le;replace hM:=s2.lt hM;have:=S.size;replace S:=S.ay s2;refine ai rfl rfl (ad (aj (aj (ah (ae rfl rfl (Rg.sc Tryz.underlying25 rfl rfl rfl (ad ?_)))))));refine bI rfl (fun c2=>?_) (fun c2=>?_)
 ·refine aj (ah (ai rfl rfl (ai rfl rfl (ad (aJ ?_)))))
  have eb:tQ p=false:=by
   by_cases h:tQ p=true
   ·obtain⟨b,o,_,h1,_⟩:=fv h;rw[c2]at h1;cases h1
   ·simpa using h
  exact eH rfl rfl rfl ⟨S.back,fun h=>by(rw[eb]at h;cases h),fun _=>rfl⟩
 ·refine aV (aj (ah (ae rfl rfl (ai rfl rfl (ai rfl rfl (ad (aJ ?_)))))))
  have eb:tQ p=true:=by
   by_cases h:tQ p=true
   ·exact h
   ·have:=iI (by simpa using h);simp at this;exact absurd this c2
  exact eH rfl rfl rfl ⟨S.back,fun _=>⟨_,rfl,fv eb⟩,fun h=>by(rw[eb]at h;cases h)⟩
end Go.K
namespace Go.K
section
variable {P:Program} {r:Option Nat} {n:Nat} {L:Sl} {ds:List Deferred} {w:World} {K:Kt} {M:aA} {F:List (Nat×aA)}
def py (l:List Oper) (m q d:Nat):Bool:=
 Nat.blt q m&&ko l [q] m ((l[m]?.map bZ).getD [])&&ir l (m+1)&&
 ((List.range' m (l.length-m)).all fun j=>match l[j]? with
  |some o=>om o.op&&(!(asks l o).contains d||(bZ o).contains q)
  |none=>true)
theorem qR {l:List Oper} {m q d:Nat} (h:py l m q d=true):q<m∧ko l [q] m ((l[m]?.map bZ).getD [])=true∧ir l (m+1)=true∧∀j o,m≤j→l[j]? =some o→om o.op=true∧(d∈asks l o→q∈bZ o):=by
 simp only[py,bC,Nat.blt_eq]at h;obtain⟨⟨⟨h1,h2⟩,h3⟩,h4⟩:=h;refine⟨h1,h2,h3,fun j o hj ho=>?_⟩;have dB:=(av.1 ho).1;have:=eh.1 h4 j (List.mem_range'_1.2 ⟨hj,by omega⟩);rw[ho]at this;simp only[bC,Bool.or_eq_true,od,gC]at this;refine⟨this.1,fun hd=>?_⟩;rcases this.2 with h|h
 ·rw[←Bool.not_eq_true,gC]at h;exact absurd hd h
 ·exact h
structure TJ (P:Program) (r:Option Nat) (n:Nat) (l:List Oper) (m q d:Nat) (c:Value) (L:Sl) (K:Kt) (ds:List Deferred) (D:Nat→Prop) (a:Act) (w:World) (p:Nat) (ac:Act) (Lp:Sl) (wq:World):Prop where
 p0:m≤p
 p1:p≤l.length
 dt:∀i,i<l.length→i≠q→(D i↔i<p)
 ag:fM n ac Lp ds
 tr:qy P r n l.toArray aC wq K 0 (l.drop p) Lp ds w
 yes:D q→a=ac
 no: ¬D q→ac=a.put (some d) c∧∀t u,lk (il l q L) t=some u→a.tmps[t]? =some u
theorem put_comm (a:Act) {d:Nat} {e:Option Nat} (h:e≠some d) (c v:Value):(a.put (some d) c).put e v=(a.put e v).put (some d) c:=by
 cases e with
 |none=>rfl
 |some e=>
  have eG:e≠d:=fun h'=>h (by rw[h'])
  simp only[Act.put];congr 1;apply Array.ext_getElem?;intro i;simp only[cJ,Array.size_setIfInBounds];by_cases h1:e=i<;>by_cases h2:d=i<;>simp_all
theorem vF (a:Act) {d t:Nat} (c:Value) (h:t≠d):(a.put (some d) c).tmps[t]? =a.tmps[t]? :=by rw[fD,if_neg (fun e=>h (by injection e with e;exact e.symm))]
theorem TJ.next {l:List Oper} {m q d:Nat} {c:Value} (cB:dN l 0=true) (fv:py l m q d=true) {oq:Oper} (hq:l[q]? =some oq) (Bb:oq.dst=some d) (MD:gE oq.op=true) (ID:oq.guard=none)
  (fS:∀(ρ:Operand→Value) w,(∀x u,ev (il l q L) x=some u→ρ x=u)→(execOp ρ oq).run P w= .ok (.value c) w)
  {Q:Exit→Act→World→Prop} {D:Nat→Prop} {a:Act} {w:World} {j:Nat} {o:Oper} {rest:List Nat} (ho:l[j]? =some o) (mH: ¬D j) (hp:∀k∈bZ o,D k) {p:Nat} {ac:Act} {Lp:Sl} {wq:World} (hi:TJ P r n l m q d c L K ds D a w p ac Lp wq)
  (hk:∀a' w',(∃p ac Lp wq,TJ P r n l m q d c L K ds (fun i=>i=j∨D i) a' w' p ac Lp wq)→wpOpsIn (FW r) 0 P l.toArray Q rest a' w'):wpOpsIn (FW r) 0 P l.toArray Q (j::rest) a w:=by
 obtain⟨hqm,_,rS,Jc⟩:=qR fv;have pF:=(av.1 ho).1;by_cases Sy:j=q
 ·subst Sy;rw[hq]at ho;cases ho;obtain⟨Ch,iW⟩:=hi.no mH;refine One.run (by simpa using hq) MD (v:=c) ?_ (hk _ _ ⟨p,ac,Lp,wq,hi.p0,hi.p1,fun i h1 h2=>⟨fun h=>(hi.dt i h1 h2).1 (h.resolve_left h2),fun h=> .inr ((hi.dt i h1 h2).2 h)⟩,hi.ag,hi.tr,fun _=>by rw[Ch,Bb],fun h=>absurd (.inl rfl) h⟩);unfold One;rw[if_pos (by simp[Region.wanted,ID])];refine fS a.eval w fun x u hx=> ?_
  cases x with
  |tmp t=>simp only[ev]at hx;simp[Act.eval,iW t u hx]
  |const v=>simp only[ev]at hx;cases hx;rfl
  |global g=>simp only[ev]at hx;cases hx;rfl
  |func f=>simp only[ev]at hx;cases hx;rfl
 ·have Tj:j=p:=by
   have h1:p≤j:=by
    rcases cK j p with h|h
    ·exact absurd ((hi.dt j pF Sy).2 h) mH
    ·exact h
   have:=hi.p0;rcases cK m j with h|h
   ·have h2:=hp _ (iL rS (j:=j) (by omega) ho);have:=(hi.dt (j-1) (by omega) (by omega)).1 h2;omega
   ·omega
  subst Tj;obtain⟨On,hta⟩:=Jc j o hi.p0 ho;have vZ:o.dst≠some d:=fun h=>Sy (eE cB ho hq h Bb)
  have xH:∀t∈asks l o,a.tmps[t]? =ac.tmps[t]? :=fun t ht=>by
   by_cases hD:D q
   ·rw[hi.yes hD]
   ·rw[(hi.no hD).1,vF];rintro rfl;exact hD (hp q (hta ht))
  obtain⟨Dw,xR⟩:=kX xH
  have RX:a.defers=ac.defers:=by
   by_cases hD:D q
   ·rw[hi.yes hD]
   ·rw[(hi.no hD).1,put_defers]
  have uM:=hi.tr;rw[dA pF,(av.1 ho).2]at uM;have h1:=Rg.run uM ac hi.ag;refine xY (by simpa using ho) On Dw xR RX h1 (fun e a w ⟨_,_,_,he,_⟩=>he) (fun v w' ⟨L',kC,hA,_,D1,_,Kx⟩=>?_) (fun d' w' ⟨L',kC,hA,_,D1,_⟩=>?_)
  ·rw[D1]at hA;refine hk _ _ ⟨j+1,ac.put o.dst v,L',wq,by have:=hi.p0;omega,by omega,fun i h3 h4=>?_,hA,Kx,fun h=>?_,fun h=>?_⟩
   ·constructor
    ·rintro(h|h)
     ·omega
     ·have:=(hi.dt i h3 h4).1 h;omega
    ·intro h;rcases jg (show i≤j by omega)with h5|h5
     ·exact .inl h5
     ·exact .inr ((hi.dt i h3 h4).2 h5)
   ·rw[hi.yes (h.resolve_left (fun e=>Sy e.symm))]
   ·have hD: ¬D q:=fun h'=>h (.inr h')
    obtain⟨Ch,iW⟩:=hi.no hD;refine⟨by rw[Ch,put_comm a vZ],fun t u ht=>?_⟩;obtain⟨h3,h4⟩:=gP (f:=iX l q) ht;rw[fD,if_neg,iW t u ht];intro e;simp only[iX,eh]at h3;have:=h3 o (aL ho);simp only[e,beq_self_eq_true,Bool.not_true,Bool.false_or,gC]at this;exact hD (hp q this)
  ·have h3:=hA.defers;rw[put_defers,D1]at h3;have h4:=congrArg List.length h3;rw[hi.ag.defers]at h4;simp at h4
theorem gx.ME {l:List Oper} {wd:World} (m q d:Nat) (c:Value) {oq:Oper} (F:List (Nat×aA)) (S:List (b8 M)) (Kv:S.length=m) (pK:Nat.blt m l.length=true) (cB:dN l 0=true) (fv:py l m q d=true)
  (hq:l[q]? =some oq) (Bb:oq.dst=some d) (MD:gE oq.op=true) (ID:oq.guard=none) (hS:S[q]? =some (b8.eq c)) (fS:∀(ρ:Operand→Value) w,(∀x u,ev (il l q L) x=some u→ρ x=u)→(execOp ρ oq).run P w= .ok (.value c) w)
  (lA:∀p∈F,∀b,p.2 b→M b) (hFq:∀p∈F,p.1≠q) (qv:xT F l S) (qw:bD P r n F wd l S ds L l S 0)
  (im:∀w',Step M wd M w' (gz (F.map (·.2)))→fC w' (fun acc=>qy P r n l.toArray aC w' K 0 (l.drop m) (acc++il l l.length L) ds w') l S []):gx P r n l L ds wd K:=by
 intro a0 ha;obtain⟨hqm,D2,rS,Jc⟩:=qR fv;have Q0:m<l.length:=by simpa[Nat.blt_eq]using pK
 have start:∀(D:Nat→Prop) a w,(∀i,i<m→i≠q→D i)→(∀i,m≤i→i<l.length→¬D i)→(∀i o,l[i]? =some o→D i→∀k∈bZ o,D k)→Inv F S l wd L ds n (fun i=>D i∧i<l.length) a w→∃p ac Lp wq,TJ P r n l m q d c L K ds D a w p ac Lp wq:=by
  intro D a w fL iI km hi
  obtain⟨ac,Ch⟩:∃ac,(D q→a=ac)∧(¬D q→ac=a.put (some d) c):=by
   by_cases hD:D q
   ·exact⟨a,fun _=>rfl,fun h=>absurd hD h⟩
   ·exact⟨_,fun h=>absurd h hD,fun _=>rfl⟩
  have hqn:d<n∨n≤d:=cK d n
  have iK:n≤ac.tmps.size:=by
   by_cases hD:D q
   ·rw[←Ch.1 hD];exact hi.size
   ·rw[Ch.2 hD,kV];exact hi.size
  have RX:ac.defers=ds:=by
   by_cases hD:D q
   ·rw[←Ch.1 hD];exact hi.defers
   ·rw[Ch.2 hD,put_defers];exact hi.defers
  have Gx:∀t,t≠d→ac.tmps[t]? =a.tmps[t]? :=fun t ht=>by
   by_cases hD:D q
   ·rw[←Ch.1 hD]
   ·rw[Ch.2 hD,vF a c ht]
  have Xn:d<a.tmps.size:=by
   have hg:=qw.take.get q oq (by rw[dE,Kv,if_pos hqm];exact hq);by_cases hD:D q
   ·obtain⟨v,h1,_⟩:=hi.done q oq (b8.eq c) d hq hS ⟨hD,by omega⟩ Bb;exact(Array.getElem?_eq_some_iff.1 h1).1
   ·refine Classical.byContradiction fun uC=> ?_
    obtain⟨s,hs,Q1⟩:=hg;rw[Nat.zero_add]at Q1;rw[hS]at hs;cases hs
    have hpq:∀k∈bZ oq,D k:=fun k hk=>by
     have:=cj cB q oq hq k hk;exact fL k (by omega) (by omega)
    have:=Inv.next (r:=r) (P:=P) hi cB qv lA (rest:=[]) (Q:=fun _ a' _=>n≤a'.tmps.size∧∃v,a'.tmps[d]? =some v) ⟨b8.eq c,hS,Q1⟩ hq (fun h=>hD h.1) (fun k hk=>⟨hpq k hk,by have:=cj cB q oq hq k hk;omega⟩) (fun a' w' fB=>by
     obtain⟨v,h1,_⟩:=fB.done q oq (b8.eq c) d hq hS (.inl rfl) Bb;exact⟨fB.size,v,h1⟩)
    have pL:One P r l.toArray w oq a c:=by
     unfold One;rw[if_pos (by simp[Region.wanted,ID])];refine fS a.eval w fun x u hx=> ?_
     have iW:∀t u,lk (il l q L) t=some u→a.tmps[t]? =some u:=fun t u ht=>by
      obtain⟨h3,h4⟩:=gP (f:=iX l q) ht;refine hi.base t u h4 fun i o fR xJ he=> ?_
      simp only[iX,eh]at h3;have:=h3 o (aL fR);simp only[he,beq_self_eq_true,Bool.not_true,Bool.false_or,gC]at this;exact hD (km i o fR xJ.1 q this)
     cases x with
     |tmp t=>simp only[ev]at hx;simp[Act.eval,iW t u hx]
     |const v=>simp only[ev]at hx;cases hx;rfl
     |global g=>simp only[ev]at hx;cases hx;rfl
     |func f=>simp only[ev]at hx;cases hx;rfl
    simp only[wpOpsIn,jJ,hq]at this;rw[if_pos (by simp[Region.wanted,ID])]at this;obtain⟨_,h2⟩:=this;unfold One at pL;rw[if_pos (by simp[Region.wanted,ID])]at pL;rw[Oper.semAt_eq _ _ _ (jU MD),pL]at h2;rw[Oper.uponIn_value]at h2;obtain⟨_,v,h3⟩:=h2;rw[Bb]at h3;have:=(Array.getElem?_eq_some_iff.1 h3).1;simp[Act.put]at this;exact uC this
  have Xo:∃v,ac.tmps[d]? =some v∧v=c:=by
   by_cases hD:D q
   ·rw[←Ch.1 hD];obtain⟨v,h1,h2⟩:=hi.done q oq (b8.eq c) d hq hS ⟨hD,by omega⟩ Bb;exact⟨v,h1,h2⟩
   ·refine⟨c,?_,rfl⟩;rw[Ch.2 hD,fD,if_pos rfl];simp[cJ,Xn]
  have fU:∀{i:Nat} {o:Oper},(l.take m)[i]? =some o→l[i]? =some o∧i<m:=fun {i o} h=>by
   rw[dE]at h
   split at h
   ·exact⟨h,by assumption⟩
   ·cases h
  have iy:Step M wd M w (gz (F.map (·.2))):=hi.step.cb (fun b ⟨p,hp,hD,hb⟩=>ej.2 ⟨p.2,cF.2 ⟨p,hp,rfl⟩,hb⟩) (fun b hb=>by
   obtain⟨N,hN,xI⟩:=ej.1 hb;obtain⟨p,hp,rfl⟩:=cF.1 hN;exact lA p hp b xI)
  have hE:=(im w iy).take;rw[Kv]at hE
  obtain⟨acc,h1,h2⟩:=fC.use (a:=ac) (l.take m) S [] (fun i o s h1 h2 h3=>by
    obtain⟨h4,h5⟩:=fU h1;by_cases JW:i=q
    ·subst JW;rw[hq]at h4;cases h4;rw[Bb]at h3;cases h3
    ·exact hi.fin i o s h4 h2 ⟨fL i h5 JW,by omega⟩ h3)
   (fun i o s e h1 h2 h3=>by
    obtain⟨h4,h5⟩:=fU h1;by_cases JW:i=q
    ·subst JW;rw[hq]at h4;cases h4;rw[Bb]at h3;cases h3;rw[hS]at h2;cases h2;exact Xo
    ·obtain⟨v,h6,h7⟩:=hi.done i o s e h4 h2 ⟨fL i h5 JW,by omega⟩ h3;exact⟨v,by rw[Gx e (fun he=>JW (eE cB h4 hq h3 (by rw[Bb,he])))];exact h6,h7⟩)
   (fun t v h=>by simp[lk]at h) hE
  refine⟨m,ac,_,w,bh _,by omega,fun i h3 h4=>⟨fun h=>?_,fun h=>fL i h h4⟩,⟨iK,RX,fun t v h=>?_⟩,h1,Ch.1,fun hD=>⟨Ch.2 hD,fun t u ht=>?_⟩⟩
  ·rcases cK i m with h5|h5
   ·exact h5
   ·exact absurd h (iI i h5 h3)
  ·rcases jF h with h|h
   ·exact h2 t v h
   ·obtain⟨h3,h4⟩:=gP (f:=iX l l.length) h
    have eG:∀(i:Nat) (o:Oper),l[i]? =some o→o.dst≠some t:=fun i o fR he=>by
     simp only[iX,eh]at h3;have:=h3 o (aL fR);simp only[he,beq_self_eq_true,Bool.not_true,Bool.false_or,gC]at this;have h7:=cj cB i o fR _ this;have h8:=(av.1 fR).1;omega
    rw[Gx t (fun e=>eG q oq hq (by rw[Bb,e]))];exact hi.base t v h4 fun i o fR _=>eG i o fR
  ·obtain⟨h3,h4⟩:=gP (f:=iX l q) ht;refine hi.base t u h4 fun i o fR xJ he=> ?_
   simp only[iX,eh]at h3;have:=h3 o (aL fR);simp only[he,beq_self_eq_true,Bool.not_true,Bool.false_or,gC]at this;exact hD (km i o fR xJ.1 q this)
 refine⟨fun D a w=>((∀i,m≤i→i<l.length→¬D i)∧Inv F S l wd L ds n (fun i=>D i∧i<l.length) a w)∨∃p ac Lp wq,TJ P r n l m q d c L K ds D a w p ac Lp wq,fun D D' a w hJ hD=>?_,fun Q D a w j o rest hj ho mH hp km hJ hk=>?_,fun a w hJ=>?_,.inl ⟨fun i _ _ h=>h,?_⟩⟩
 ·rcases hJ with⟨h1,h2⟩|⟨p,ac,Lp,wq,h⟩
  ·refine .inl ⟨fun i h3 h4 h5=>h1 i h3 h4 ((hD i h4).1 h5),?_⟩;have:(fun i=>D' i∧i<l.length)=fun i=>D i∧i<l.length:=funext fun i=>propext ⟨fun⟨h3,h4⟩=>⟨(hD i h4).1 h3,h4⟩,fun⟨h3,h4⟩=>⟨(hD i h4).2 h3,h4⟩⟩
   rw[this];exact h2
  ·exact .inr ⟨p,ac,Lp,wq,h.p0,h.p1,fun i h3 h4=>(hD i h3).trans (h.dt i h3 h4),h.ag,h.tr,fun h3=>h.yes ((hD q (by omega)).1 h3),fun h3=>h.no fun h4=>h3 ((hD q (by omega)).2 h4)⟩
 ·rcases hJ with⟨h1,h2⟩|⟨p,ac,Lp,wq,h⟩
  ·rcases cK j m with xK|xK
   ·have hg:=qw.take.get j o (by rw[dE,Kv,if_pos xK];exact ho);rw[Nat.zero_add]at hg;refine h2.next cB qv lA hg ho (fun h=>mH h.1) (fun k rQ=>⟨hp k rQ,by have:=cj cB j o ho k rQ;omega⟩) fun a' w' fB=>hk a' w' (.inl ⟨fun i h3 h4 h5=>?_,?_⟩)
    ·rcases h5 with h5|h5
     ·omega
     ·exact h1 i h3 h4 h5
    ·have:(fun i=>(i=j∨D i)∧i<l.length)=fun i=>i=j∨D i∧i<l.length:=funext fun i=>propext ⟨fun⟨h3,h4⟩=>h3.elim .inl fun h=> .inr ⟨h,h4⟩,fun h=>h.elim (fun h=>⟨.inl h,by omega⟩) fun h=>⟨.inr h.1,h.2⟩⟩
     rw[this];exact fB
   ·have Xp:j=m:=by
     rcases cK m j with h|h
     ·have:=hp _ (iL rS (j:=j) (by omega) ho);exact absurd this (h1 (j-1) (by omega) (by omega))
     ·omega
    subst Xp;rw[ho]at D2;obtain⟨p,ac,Lp,wq,h⟩:=start D a w (fun i hi JW=>kq (D:=D) km j (bZ o) D2 hp i hi (by simpa using JW)) h1 km h2;exact h.next cB fv hq Bb MD ID fS ho mH hp fun a' w' h'=>hk a' w' (.inr h')
  ·exact h.next cB fv hq Bb MD ID fS ho mH hp fun a' w' h'=>hk a' w' (.inr h')
 ·rcases hJ with⟨h1,_⟩|⟨p,ac,Lp,wq,h⟩
  ·exact absurd Q0 (h1 m (bh _) Q0)
  ·have x7:p=l.length:=by
    rcases cK p l.length with h3|h3
    ·have h4:=(h.dt p h3 (by have:=h.p0;omega)).1 h3;omega
    ·have:=h.p1;omega
   have uM:=h.tr;rw[x7,List.drop_length]at uM;exact⟨Lp,ds,by rw[h.yes (by show q<l.length;omega)];exact h.ag,uM⟩
 ·refine⟨(an M wd).cb (fun _ h=>h.elim) (fun b ⟨p,hp,_,hb⟩=>lA p hp b hb),fun i o s _ _ h=>h.1.elim,ha.size,ha.defers,fun i o s e _ _ h=>h.1.elim,fun t v h _=>ha.at_ t v h,fun i o _ h=>h.1.elim⟩
theorem T.Q2 {id:Nat} {l l':List Oper} (π:List Nat) (m q d:Nat) (c:Value) {oq:Oper} (F:List (Nat×aA)) (S:List (b8 M)) (hm:P.follows .mixedOrders=true) (D5:uN π l=l') (qz:dN l 0=true) (hπ:jX π l.length=true) (Kv:S.length=m) (pK:Nat.blt m l'.length=true) (cB:dN l' 0=true) (fv:py l' m q d=true)
  (hq:l'[q]? =some oq) (Bb:oq.dst=some d) (MD:gE oq.op=true) (ID:oq.guard=none) (hS:S[q]? =some (b8.eq c)) (fS:∀(ρ:Operand→Value) w,(∀x u,ev (il l' q L) x=some u→ρ x=u)→(execOp ρ oq).run P w= .ok (.value c) w)
  (lA:∀p∈F,∀b,p.2 b→M b) (hFq:∀p∈F,p.1≠q) (qv:xT F l' S)
  (h:∀wD,(∀M,Step M w M wD aC)→bD P r n F wD l' S ds L l' S 0∧∀w',Step M wD M w' (gz (F.map (·.2)))→fC w' (fun acc=>qy P r n l'.toArray aC w' K 0 (l'.drop m) (acc++il l' l'.length L) ds w') l' S []):T P r n (.region id l.toArray true) L ds w K:=by
 subst D5;exact gx.t hm qz fun wD hD=> .perm π hπ qz (.ME m q d c F S Kv pK cB fv hq Bb MD ID hS fS lA hFq qv (h wD hD).1 (h wD hD).2)
theorem Bc {s:TypeId} {fs:Array Field} {fd:Field} {j size o o' b:Nat} {zv:Value} {bytes:Nat} {x:Operand} {dst:Option Tmp} {ty:TypeId} {pos:String} {af:Array Edge} {gd:Option (Nat×Bool)} (hu:P.underlying s=some (.struct fs)) (N0:fs[j]? =some fd) (ho:o+fd.offset=o') (hi:TI P fd.type zv size bytes) (hs:size≠0)
  {ρ:Operand→Value} (hx:ρ x= .pointer (some ⟨b,o,none⟩)) (w:World):(execOp ρ {dst,op:= .fieldAddr s x j,type:=ty,pos,after:=af,guard:=gd}).run P w= .ok (.value (.pointer (some ⟨b,o',none⟩))) w:=by
 simp only[execOp,hx];simp[Instr.fieldAt,run_underlying hu,N0,Instr.sureAddr,fieldPlace,hi.sizeOf,hs,←ho,Addr.add_mid]
end
end Go.K
namespace Go.K
open Go.Proofs
set_option maxRecDepth 10000
def ky:Int→List En→Int
 |last,[]=>last
 |_,e::L=>ky e.2 L
def zq:Int→List En→Bool
 |_,[]=>true
 |last,e::L=>decide (jD last e=0)&&zq e.2 L
theorem Gy:∀{L:List En} {last:Int} {i:Nat} {e:En},zq last L=true→L[i]? =some e→jD (ky last (L.take i)) e=0∧ky last (L.take (i+1))=e.2
 |[],_,_,_,_,h=>by simp at h
 |x::L,last,0,e,h,hi=>by
  simp only[zq,bC,decide_eq_true_eq]at h;simp at hi;subst hi;exact⟨by simpa[ky]using h.1,by simp[ky]⟩
 |x::L,last,i+1,e,h,hi=>by
  simp only[zq,bC,decide_eq_true_eq]at h;have:=Gy h.2 (by simpa using hi);simpa[ky]using this
theorem vG {last:Int} {e:En} (h:jD last e=0):iA e.1∧last<e.2:=by
 unfold jD at h
 split at h
 ·rename_i h1;exact absurd h h1
 ·rename_i h1
  split at h
  ·cases h
  ·exact⟨B4 (by simpa using h1),by omega⟩
theorem np:∀{L:List En} {last:Int},zq last L=true→∀e∈L,iA e.1
 |[],_,_,e,h=>by cases h
 |x::L,last,h,e,he=>by
  simp only[zq,bC,decide_eq_true_eq]at h;rcases dw.1 he with rfl|he
  ·exact(vG h.1).1
  ·exact np h.2 e he
theorem vH:∀{L:List En} {last:Int},zq last L=true→eB last (L.map (·.2))=true
 |[],_,_=>rfl
 |x::L,last,h=>by
  simp only[zq,bC,decide_eq_true_eq]at h;simp only[ic,eB,bC,decide_eq_true_eq];exact⟨(vG h.1).2,vH h.2⟩
def ix (L:List En):Pa:=(L.map (·.1.1),L.map (·.2),keysOf L,(keysOf L).map (pk L))
theorem De {x:List Po} (h:x≠[]):∃p∈x,zn x=p.1:=by
 unfold zn
 cases hl:x.getLast? with
 |none=>exact absurd (List.getLast?_eq_none_iff.1 hl) h
 |some p=>exact⟨p,List.mem_of_getLast? hl,rfl⟩
theorem MF {L:List En} (h:zq (-1) L=true) (hn:L.length≤1000000):tQ (ix L)=true:=by
 have hF:=np h;have h1:(keysOf L).map (pk L)=(ix L).2.2.2:=rfl;unfold tQ;have e1:decide ((ix L).1.length=(ix L).2.1.length)=true:=by simp[ix]
 have e2:eB (-1) (ix L).2.1=true:=vH h;have e3:decide ((ix L).2.2.1.length=(ix L).2.2.2.length)=true:=by simp[ix]
 have e4:ze none (ix L).2.2.1=true:=Md (jC L)
 have e5:(ix L).2.2.2.all (fun x=> !kL ((ix L).1.length:Int) x)=true:=by
  refine eh.2 fun x hx=> ?_
  rw[←h1]at hx;obtain⟨k,hk,rfl⟩:=cF.1 hx;have eG:pk L k≠[]:=FA 0 (j9.1 hk)
  have Xq:(pk L k).isEmpty=false:=by
   cases h:pk L k with
   |nil=>exact absurd h eG
   |cons a b=>rfl
  have pw:dQ (-1) (pk L k)=true:=rr k L 0 (-1) hF (by omega) (by omega);obtain⟨p,hp,hl⟩:=De eG;have:=(qe k L 0 hF).2 p hp;have hlen:((ix L).1.length:Int)=L.length:=by simp[ix]
  simp only[kL,pw,Xq,hlen,hl];rw[decide_eq_false (by omega)];rfl
 rw[e1,e2,e3,e4,e5];rfl
theorem IE {L:List En} (hF:∀e∈L,iA e.1) (hn:L.length≤1000000) (k:List UInt8):Room (pk L k):=by
 have h1:=qe k L 0 hF;have pw:dQ (-1) (pk L k)=true:=rr k L 0 (-1) hF (by omega) (by omega);have qW:∀p∈pk L k,p.2.length≤500:=fun p hp=>(h1.2 p hp).2.2
 obtain⟨h2,h3⟩:=qf (pk L k) (-1) 500 (by omega) pw qW (by omega);have hl:(pk L k).length≤L.length:=h1.1;exact⟨fun p hp=>by have:=qW p hp;omega,by omega,by omega,by omega⟩
theorem IF {L:List En} (hF:∀e∈L,iA e.1) (hn:L.length≤1000000):Gr (ix L):=by
 have hk:(keysOf L).length≤500000000:=by
  have h1:=(jC L).nodup.length_le_of_subset (l₂:=gy L) (fun x hx=>j9.1 hx);have:=qg hF;omega
 refine⟨by simp[ix];omega,by simp[ix];omega,by simp only[ix];omega,by simp[ix];omega,fun x hx=>?_⟩;obtain⟨k,_,rfl⟩:=cF.1 hx;exact IE hF hn k
theorem MG {M:aA} {w:World} {e:En} {v:Value} (h:RT.en.V M w e v):(-9223372036854775808≤e.1.1∧e.1.1≤9223372036854775807)∧ -9223372036854775808≤e.2∧e.2≤9223372036854775807:=by
 obtain⟨vs,⟨va,vb,_,⟨vc,vd,_,⟨_,h1⟩,_⟩,⟨_,h2⟩⟩,_⟩:=h;exact⟨h1,h2⟩
def ZP (B b:Nat) (vi vs:Value):aA:=fun k=>B≤k∧k≠b∧vi.ownBlock≠some k∧vs.ownBlock≠some k
theorem Own.JX {κ:IntKind} {e:TypeId} {M M' N:aA} {w w':World} {base:Nat} {v:Value} {xs:List Int} (h:Own (RT.int κ) e (nE v) w base v xs) (s:Step M w M' w' N) (hn:∀c,v.ownBlock=some c→¬N c):Own (RT.int κ) e (nE v) w' base v xs:=
 ((h.HB (M':=allM) (fun _ _=>trivial)).OB s.all hn).lone
theorem Step.Xr {M M' N:aA} {w w':World} (s:Step M w M' w' N) {v:Value} (hv:∀b,v.ownBlock=some b→b<w'.heap.size∧(w.heap.size≤b∨M' b)):Step M w (jj M' v) w' N:=
 ⟨fun h k hk=>hk.elim (fun h1=>(hv k h1).1) (fun h1=>s.lt h k h1),s.os,s.tape,s.output,s.size,fun k hk=>⟨fun h=>by
  rcases h with h|h
  ·rcases(hv k h).2 with h1|h1
   ·omega
   ·exact(s.mem k hk).1 h1
  ·exact(s.mem k hk).1 h,fun h=> .inr ((s.mem k hk).2 h)⟩,s.same,s.sub⟩
end Go.K
namespace Go.K
open Go.Proofs
namespace TKSegA
theorem Xs:Enters Tryz.prog 120:=enters Tryz.func120 rfl (by decide)
end TKSegA
open TKSegA
set_option maxRecDepth 10000
def vI (xs:List Int) (i:Int):Int:=if 0≤i∧i<xs.length then xs.getD i.toNat 0 else-1
theorem IG {M:aA} {xs:List Int} {v0:Value} {i:Int} (w0:World) (hv:((RT.int .i64).sl).V M w0 xs v0):
  Spec Tryz.prog 120 #[v0,.int .i64 i] w0 (fun v w=>v= .int .i64 (vI xs i)∧w=w0):=by
 have hlen:=dM hv;refine aX (args:=[_,_]) (fn:=Tryz.f120) Tryz.func120 rfl (n:=17) Tryz.ntmps120 (aj (ah (ai rfl rfl (ad (aj (aj (ah (ae rfl rfl (cd rfl rfl rfl (ae rfl rfl ?_))))))))));refine aG (g:=7) rfl (fun fF=>?_) (fun fF=>?_)
 ·refine ao rfl rfl rfl rfl (ao rfl rfl rfl rfl (ao rfl rfl rfl rfl (ao rfl rfl rfl rfl (aR rfl rfl rfl (ad (ly rfl (aj (ah (ai rfl rfl (ad (aJ ?_)))))))))));have e:vI xs i= -1:=by unfold vI;rw[if_neg (by omega)]
  exact aO rfl rfl ⟨by rw[e],rfl⟩
 ·refine al rfl rfl (ae rfl rfl (al rfl rfl (ae rfl rfl (al rfl rfl (bT au rfl hv rfl (al rfl rfl (dy rfl rfl rfl (ax rfl rfl rfl (ad ?_)))))))));refine bI rfl (fun c1=>?_) (fun c1=>?_)
  ·refine aj (ah (ai rfl rfl (ad (aJ ?_))));have e:vI xs i= -1:=by unfold vI;rw[if_neg (by omega)]
   exact aO rfl rfl ⟨by rw[e],rfl⟩
  ·refine aV (aj (ah (ae rfl rfl (ae rfl rfl ?_))));refine dq (M:=M) au I3 rfl rfl rfl hv (aq _ _) (by omega) (fun u x hg hu=>?_);refine cc (M:=M) ar rfl rfl hu (aq _ _) (fun lr=>?_);refine ai rfl rfl (ad (aJ ?_));have e:vI xs i=x:=by unfold vI;rw[if_pos (by omega),bG,hg];rfl
   exact aO rfl rfl ⟨by rw[e],rfl⟩
theorem vJ {M:aA} {s:Se} {v0:Value} (w0:World) (hs:ch RT.se M w0 v0 s):
  Spec Tryz.prog 67 #[v0] w0 (fun v w=>v= .int .i64 (s.1.length:Int)∧w=w0):=by
 refine aX (args:=[_]) (fn:=Tryz.f67) Tryz.func67 rfl (n:=8) Tryz.ntmps67 (aj (ah (ai rfl rfl (ad (aj (ah (ae rfl rfl (aQ rfl hs.iZ rfl ?_))))))));refine aH (M:=M) (A:=RT.se) (B:=(RT.int .i64).sl) Tryz.underlying125 rfl rfl nF (by decide) se0 rfl rfl (by decide) hs (aq _ _) (fun Ik ti=>?_);refine cf (M:=M) au rfl rfl rfl rfl rfl ti (aq _ _) (fun IH qS=>?_);replace qS:((RT.int .i64).sl).V M _ s.1 IH:=qS;refine bT au rfl qS rfl (ai rfl rfl (ad (aJ ?_)));exact aO rfl rfl ⟨rfl,rfl⟩
theorem vK {M:aA} {s:Se} {i:Int} {v0:Value} (w0:World) (hs:ch RT.se M w0 v0 s):
  Spec Tryz.prog 70 #[v0,.int .i64 i] w0 (fun v w=>v= .int .i64 (vI s.2.1 i)∧w=w0):=by
 refine aX (args:=[_,_]) (fn:=Tryz.f70) Tryz.func70 rfl (n:=11) Tryz.ntmps70 (aj (ah (ai rfl rfl (ad (aj (ah (ae rfl rfl (aQ rfl hs.iZ rfl ?_))))))));refine aH (M:=M) (A:=RT.se) (B:=(RT.int .i64).sl) Tryz.underlying125 rfl rfl nF (by decide) se1 rfl rfl (by decide) hs (aq _ _) (fun Ik ti=>?_);refine cf (M:=M) au rfl rfl rfl rfl rfl ti (aq _ _) (fun IH qS=>?_);replace qS:((RT.int .i64).sl).V M _ s.2.1 IH:=qS;refine ae rfl rfl ?_;refine aP rfl rfl Xs (IG _ qS) (fun r wc hc=>?_);obtain⟨rfl,rfl⟩:=hc;refine ai rfl rfl (ad (aJ ?_));exact aO rfl rfl ⟨rfl,rfl⟩
theorem tw {α:Type} {p:α→Bool}:∀{xs:List α} {i:Nat},i≤xs.length→(∀(k:Nat) x,k<i→xs[k]? =some x→p x=true)→(∀(k:Nat) x,i≤k→xs[k]? =some x→p x=false)→xs.countP p=i
 |[],i,hi,_,_=>by simp at hi;simp[hi]
 |x::xs,0,_,_,h2=>by
  rw[List.countP_eq_zero.2];intro a ha;obtain⟨k,hk⟩:=bO.1 ha;simp[h2 k a (bH _) hk]
 |x::xs,i+1,hi,h1,h2=>by
  rw[List.countP_cons_of_pos (h1 0 x (by omega) rfl),tw (by simpa using hi) (fun k y hk hy=>h1 (k+1) y (by omega) (by simpa using hy)) (fun k y hk hy=>h2 (k+1) y (by omega) (by simpa using hy))]
end Go.K
namespace Go.K
open Go.Proofs
namespace TKSegB
theorem A6:TI Tryz.prog 188 (.slice none 0 0) 1 24:=by unfold TI;kernel_rfl
theorem Xt:Enters Tryz.prog 123:=enters Tryz.func123 rfl (by decide)
theorem Xu:Enters Tryz.prog 169:=enters Tryz.func169 rfl (by decide)
theorem Xv:Enters Tryz.prog 170:=enters Tryz.func170 rfl (by decide)
end TKSegB
open TKSegB
set_option maxRecDepth 10000
def DG (ns:List (List UInt8)) (k:List UInt8):Nat:=ns.countP fun x=>decide (x<k)
theorem Q3 {ns:List (List UInt8)} (h:xi ns) {i j:Nat} {x y:List UInt8} (gm:i≤j) (hx:ns[i]? =some x) (hy:ns[j]? =some y): ¬y<x:=by
 rcases jg gm with rfl|h1
 ·rw[hx]at hy;cases hy;exact iv x
 ·exact iw (fH h hx hy h1)
theorem xu {ns:List (List UInt8)} (h:xi ns) {k:List UInt8}:(k∈ns→ns[DG ns k]? =some k)∧∀x,ns[DG ns k]? =some x→¬x<k:=by
 have key:∀{ns:List (List UInt8)},xi ns→(k∈ns→ns[DG ns k]? =some k)∧∀x,ns[DG ns k]? =some x→¬x<k:=by
  intro ns
  induction ns with
  |nil=>exact fun _=>⟨(fun h=>by cases h),fun x h=>by simp at h⟩
  |cons y ns ih=>
   intro h;have h':=jh.1 h;by_cases hy:y<k
   ·have e:DG (y::ns) k=DG ns k+1:=by unfold DG;rw[List.countP_cons_of_pos (by simpa using hy)]
    rw[e];simp only[List.getElem?_cons_succ];refine⟨fun hk=>(ih h'.2).1 ?_,(ih h'.2).2⟩;rcases dw.1 hk with rfl|hk
    ·exact absurd hy (iv _)
    ·exact hk
   ·have fL:∀x∈ns,¬x<k:=fun x hx dB=>hy (lj (h'.1 x hx) dB)
    have e:DG (y::ns) k=0:=by
     unfold DG;rw[List.countP_eq_zero];intro a ha;rcases dw.1 ha with rfl|ha
     ·simpa using hy
     ·simpa using fL a ha
    rw[e];refine⟨fun hk=>?_,fun x hx=>by simp at hx;subst hx;exact hy⟩;rcases dw.1 hk with rfl|hk
    ·rfl
    ·exact absurd (h'.1 k hk) hy
 exact key h
def Xw (ns:List (List UInt8)) (k:List UInt8) (i:Nat):Bool:=match ns[i]? with|some x=> !decide (x<k)|none=>true
theorem tx {ns:List (List UInt8)} {k x:List UInt8} {i:Nat} (h:ns[i]? =some x):Xw ns k i= !decide (x<k):=by unfold Xw;rw[h]
theorem Gz {ns:List (List UInt8)} (h:xi ns) {k:List UInt8}:ns[DG ns k]? =some k↔k∈ns:=⟨fun h=>aL h,(xu h).1⟩
theorem Bd {M:aA} {n:Nat} {g:FuncId} {cap:List Value} {good:Nat→Bool} (w0:World) (hg:Enters Tryz.prog g) (JY:∀i j,i≤j→j<n→good i=true→good j=true) (hn:n≤4611686018427387904) (ht:∀(i:Nat) w,i<n→Step M w0 M w aC→Spec Tryz.prog g ([.int .i64 (i:Int)]++cap:List Value).toArray w (fun v w'=>v= .bool (good i)∧Step M w M w' aC)):
  Spec Tryz.prog 169 #[.int .i64 (n:Int),.func (.func g) #[] cap.toArray] w0 (fun v w=>∃m:Nat,v= .int .i64 (m:Int)∧m≤n∧(∀i,i<m→good i=false)∧(∀i,m≤i→i<n→good i=true)∧Step M w0 M w aC):=by
 refine aX (args:=[_,_]) (fn:=Tryz.f169) Tryz.func169 rfl (n:=23) Tryz.ntmps169 (aj (ah (ai rfl rfl (ad (aj (ah (ai rfl rfl (ad (aj (bj ?_))))))))));refine dF (σ:=Nat×Nat) (fun q=>[(0,.int .i64 (q.2:Int)),(1,.func (.func g) #[] cap.toArray),(5,.int .i64 (q.1:Int))]) (fun q w=>Step M w0 M w aC∧q.1≤q.2∧q.2≤n∧(∀i,i<q.1→good i=false)∧(∀i,q.2≤i→i<n→good i=true)) (fun q=>q.2-q.1) (0,n) (.cons rfl (.cons rfl (.cons rfl .nil))) ?_ ?_
 ·exact⟨an _ _,bH _,bh _,fun i h=>absurd h (jv _),fun i h h'=>by omega⟩
 ·rintro⟨i,j⟩ w ⟨S,gm,hj,h1,h2⟩;dsimp only at gm hj h1 h2 ⊢;refine aj (aj (ah (ae rfl rfl (ae rfl rfl (cd rfl rfl rfl (ad ?_))))));refine bI rfl (fun c2=>?_) (fun c2=>?_)
  ·refine aV (bj (aj (ah (ae rfl rfl (ae rfl rfl (ae rfl rfl (gA rfl rfl rfl (by omega) (Rg.rF rfl rfl rfl (by omega) (bB rfl rfl rfl (by omega) (bz (v':= .int .i64 ((i+(j-i)/2:Nat):Int)) (congrArg _ (by omega)) (ai rfl rfl ?_)))))))))));refine ad (aj (ah (ae rfl rfl (ae rfl rfl ?_))));refine Rg.nK (first:=[]) (captured:=cap) (xs:=[.tmp 17]) rfl rfl rfl hg (vs:=[.int .i64 ((i+(j-i)/2:Nat):Int)]) (ht (i+(j-i)/2) _ (by omega) S) (fun r4 w4 hc=>?_);obtain⟨rfl,s4⟩:=hc;refine bz (v':= .bool (decide (good (i+(j-i)/2)=true))) (by simp) ?_;replace S:=S.ay s4;refine ad ?_;refine bI rfl (fun c4=>?_) (fun c4=>?_)
   ·refine ah (ae rfl rfl (ai rfl rfl (ad ?_)));refine⟨rfl,(i,i+(j-i)/2),(.cons rfl (.cons rfl (.cons rfl .nil))),?_,?_⟩
    ·exact⟨S,by dsimp only;omega,by dsimp only;omega,h1,fun k hk V6=>JY _ _ hk V6 c4⟩
    ·dsimp only;omega
   ·refine ah (ae rfl rfl (bB rfl rfl rfl (by omega) (ai rfl rfl (ad ?_))));refine⟨rfl,(i+(j-i)/2+1,j),(.cons rfl (.cons rfl (.cons rfl .nil))),?_,?_⟩
    ·exact⟨S,by dsimp only;omega,hj,fun k hk=>by
      cases h:good k with
      |false=>rfl
      |true=>exact absurd (JY k (i+(j-i)/2) (by dsimp only at hk;omega) (by omega) h) c4,h2⟩
    ·dsimp only;omega
  ·refine cN (aj (ah (ae rfl rfl (ai rfl rfl (ad (aJ ?_))))));have e:i=j:=by omega
   subst e;exact aO rfl rfl ⟨i,rfl,hj,h1,h2,S⟩
theorem zr {M:aA} {d:Di} {v0:Value} {i bd bk:Nat} {k x:List UInt8} (w0:World) (hd:ch RT.di M w0 v0 d) (gd:w0.heap[bd]? =some (.cells #[v0] 123 (0,0))) (gk:w0.heap[bk]? =some (.cells #[sv k] 9 (0,0))) (hx:d.1[i]? =some x):
  Spec Tryz.prog 170 #[.int .i64 (i:Int),.pointer (some ⟨bd,0,none⟩),.pointer (some ⟨bk,0,none⟩)] w0 (fun v w=>v= .bool (!decide (x<k))∧Step M w0 M w aC):=by
 have hM:True:=trivial;refine aX (args:=[_,_,_]) (fn:=Tryz.f170) Tryz.func170 rfl (n:=14) Tryz.ntmps170 (aj (ah (ai rfl rfl (ad (aj ?_)))));apply T.kE mixed rfl rfl;intro DA EB;have jd:=EB M;replace gd:=jd.aI gd;replace gk:=jd.aI gk;replace hd:=hd.le (by decide) jd.le;refine aE Tryz.underlying123 rfl rfl rfl gd rfl (bz (v':=v0) rfl ?_);refine ad ⟨rfl,rfl,rfl,?_⟩;refine aQ rfl hd.iZ rfl ?_;refine ad ⟨rfl,rfl,rfl,?_⟩;refine aH (M:=M) (A:=RT.di) (B:=RT.str.sl) Tryz.underlying190 rfl rfl G7 (by decide) Sk rfl rfl (by decide) hd (aq _ _) (fun pn Q4=>?_);refine ad ⟨rfl,rfl,rfl,?_⟩;refine cf (M:=M) a8 rfl rfl rfl rfl rfl Q4 (aq _ _) (fun vn rq=>?_);replace rq:(RT.str.sl).V M _ d.1 vn:=rq;refine ad ⟨rfl,rfl,rfl,?_⟩;refine ae rfl rfl ?_;refine ad ⟨rfl,rfl,rfl,?_⟩;have mf:=(av.1 hx).1;refine dq (M:=M) a8 I9 rfl rfl rfl rq (aq _ _) (by omega) (fun u a hg hu=>?_);obtain rfl:x=a:=bM (hx.symm.trans (by simpa using hg));refine ad ⟨rfl,rfl,rfl,?_⟩;refine cf (M:=M) aD rfl rfl rfl rfl rfl hu (aq _ _) (fun vx sK=>?_);obtain rfl:=fy sK;refine ad ⟨rfl,rfl,rfl,?_⟩;refine aE aD rfl rfl rfl gk rfl (bz (v':=sv k) rfl ?_);refine ad ⟨rfl,rfl,rfl,?_⟩;refine Rg.LK rfl rfl rfl ?_;refine ad ⟨rfl,rfl,rfl,?_⟩;refine ai rfl rfl ?_;refine ad ⟨rfl,rfl,rfl,?_⟩;refine fz (aJ ?_);exact aO rfl rfl ⟨by rw[decide_not],jd⟩
theorem Be {M:aA} {d:Di} {v0:Value} {k:List UInt8} (w0:World) (hM:Lt M w0) (hd:ch RT.di M w0 v0 d) (xv:xi d.1):
  Spec Tryz.prog 123 #[v0,sv k] w0 (fun v w=>v= .tuple #[.int .i64 (DG d.1 k:Int),.bool (decide (k∈d.1))]∧Step M w0 M w aC):=by
 refine aX (args:=[_,_]) (fn:=Tryz.f123) Tryz.func123 rfl (n:=33) Tryz.ntmps123 ?_;have S:Step M w0 M w0 aC:=(an _ _).cb (fun _ h=>h.elim) (fun _ h=>h.elim);refine aj (ah ?_);refine oN M rfl rfl (fun xw II Xx Xy lZ zt=>?_);replace lZ:II.heap[xw]? =some (.cells #[v0] 123 (0,0)):=by rw[qh hd]at lZ;exact lZ
 obtain⟨zu,tz⟩:∃M',M'=ins M xw:=⟨_,rfl⟩;rw[←tz]at zt;have nq:zu xw:=by rw[tz];exact .inl rfl
 replace hd:=hd.le (by decide) zt.le;replace hM:=zt.lt hM;have:=S.size;replace S:=S.ay zt;refine oN zu rfl rfl (fun lS Ay Lr Ls eK kJ=>?_);obtain⟨ed,j6⟩:∃M',M'=ins zu lS:=⟨_,rfl⟩;rw[←j6]at kJ;have dT:ed lS:=by rw[j6];exact .inl rfl
 change Ay.heap[lS]? =some (.cells #[sv k] _ _)at eK;have:=ak lZ;replace nq:=(kJ.mem _ this).2 nq;replace lZ:=kJ.aI lZ;replace hd:=hd.le (by decide) kJ.le;replace hM:=kJ.lt hM;have:=S.size;replace S:=S.ay kJ;refine ai rfl rfl (ai rfl rfl (ad (aj (ah (aE Tryz.underlying123 rfl rfl rfl lZ rfl (bz (v':=v0) rfl (aQ rfl hd.iZ rfl ?_)))))));refine aH (M:=ed) (A:=RT.di) (B:=RT.str.sl) Tryz.underlying190 rfl rfl G7 (by decide) Sk rfl rfl (by decide) hd (aq _ _) (fun pn Q4=>?_);refine cf (M:=ed) a8 rfl rfl rfl rfl rfl Q4 (aq _ _) (fun vn rq=>?_);replace rq:(RT.str.sl).V ed _ d.1 vn:=rq;have Nz:=dM rq;refine bT a8 rfl rq rfl (ia (xs:=[]) (ys:=[.tmp 2,.tmp 3]) rfl rfl rfl ?_)
 refine aP rfl rfl Xu (Bd (M:=ed) (n:=d.1.length) (cap:=[.pointer (some ⟨xw,0,none⟩),.pointer (some ⟨lS,0,none⟩)]) (good:=Xw d.1 k) _ Xv (fun i j gm hj h=>by
  have hi:=aN (show i<d.1.length by omega);have pQ:=aN hj;rw[tx hi]at h;rw[tx pQ];simp only[od,decide_eq_false_iff_not]at h ⊢;intro dB;rcases ku d.1[i] d.1[j]with h1|h1|h1
  ·exact h (lj h1 dB)
  ·rw[h1]at h;exact h dB
  ·exact Q3 xv gm hi pQ h1) (by omega) (fun i w hi s=>by
  have hx:=aN hi;rw[tx hx];exact zr w (hd.le (by decide) s.le) (s.aI lZ) (s.aI eK) hx)) (fun r1 w1 hc=>?_)
 obtain⟨m,rfl,hm,Ef,Ow,s1⟩:=hc;have em:DG d.1 k=m:=tw hm (fun i x hi hx=>by have:=Ef i hi;rw[tx hx]at this;simpa using this) (fun i x hi hx=>by have:=Ow i hi (av.1 hx).1;rw[tx hx]at this;simpa using this);have:=ak lZ;replace nq:=(s1.mem _ this).2 nq;replace lZ:=s1.aI lZ;have:=ak eK;replace dT:=(s1.mem _ this).2 dT;replace eK:=s1.aI eK;replace hd:=hd.le (by decide) s1.le;replace hM:=s1.lt hM;have:=S.size;replace S:=S.ay s1;refine ai rfl rfl (ad (aj ?_));apply T.kE mixed rfl rfl;intro wD2 sA2;have Df:=sA2 ed;have:=ak lZ;replace nq:=(Df.mem _ this).2 nq;replace lZ:=Df.aI lZ;have:=ak eK;replace dT:=(Df.mem _ this).2 dT;replace eK:=Df.aI eK;replace hd:=hd.le (by decide) Df.le;replace hM:=Df.lt hM;have:=S.size;replace S:=S.ay Df;refine ae rfl rfl ?_;refine ad ⟨rfl,rfl,rfl,?_⟩;refine ae rfl rfl ?_;refine ad ⟨rfl,rfl,rfl,?_⟩;refine aE Tryz.underlying123 rfl rfl rfl lZ rfl (bz (v':=v0) rfl ?_);refine ad ⟨rfl,rfl,rfl,?_⟩;refine aQ rfl hd.iZ rfl ?_;refine ad ⟨rfl,rfl,rfl,?_⟩;refine aH (M:=ed) (A:=RT.di) (B:=RT.str.sl) Tryz.underlying190 rfl rfl G7 (by decide) Sk rfl rfl (by decide) hd (aq _ _) (fun pn2 Xz=>?_);refine ad ⟨rfl,rfl,rfl,?_⟩;refine cf (M:=ed) a8 rfl rfl rfl rfl rfl Xz (aq _ _) (fun vn2 MH=>?_);replace MH:(RT.str.sl).V ed _ d.1 vn2:=MH;refine ad ⟨rfl,rfl,rfl,?_⟩;refine bT a8 rfl MH rfl ?_;refine ad ⟨rfl,rfl,rfl,?_⟩;refine cd rfl rfl rfl ?_;refine ad ⟨rfl,rfl,rfl,?_⟩;refine ae rfl rfl ?_;refine ad ⟨rfl,rfl,rfl,?_⟩;refine aG (g:=22) rfl (fun XA=>?_) (fun XA=>?_)
 ·refine al rfl rfl (aE Tryz.underlying123 rfl rfl rfl lZ rfl (bz (v':=v0) rfl ?_));refine ad ⟨rfl,rfl,rfl,?_⟩;refine al rfl rfl (aQ rfl hd.iZ rfl ?_);refine ad ⟨rfl,rfl,rfl,?_⟩;refine al rfl rfl ?_;refine aH (M:=ed) (A:=RT.di) (B:=RT.str.sl) Tryz.underlying190 rfl rfl G7 (by decide) Sk rfl rfl (by decide) hd (aq _ _) (fun pn3 XB=>?_);refine ad ⟨rfl,rfl,rfl,?_⟩;refine al rfl rfl ?_;refine cf (M:=ed) a8 rfl rfl rfl rfl rfl XB (aq _ _) (fun vn3 MI=>?_);replace MI:(RT.str.sl).V ed _ d.1 vn3:=MI;refine ad ⟨rfl,rfl,rfl,?_⟩;refine al rfl rfl (ae rfl rfl ?_);refine ad ⟨rfl,rfl,rfl,?_⟩;refine al rfl rfl ?_;refine dq (M:=ed) a8 I9 rfl rfl rfl MI (aq _ _) (by omega) (fun u2 x XC qY=>?_);rw[az]at XC;refine ad ⟨rfl,rfl,rfl,?_⟩;refine al rfl rfl ?_;refine cf (M:=ed) aD rfl rfl rfl rfl rfl qY (aq _ _) (fun vx sK=>?_);obtain rfl:=fy sK;refine ad ⟨rfl,rfl,rfl,?_⟩;refine al rfl rfl (aE aD rfl rfl rfl eK rfl (bz (v':=sv k) rfl ?_));refine ad ⟨rfl,rfl,rfl,?_⟩;refine al rfl rfl (Rg.BB rfl rfl rfl ?_);refine ad ⟨rfl,rfl,rfl,?_⟩;refine aR rfl rfl rfl ?_;refine ad ⟨rfl,rfl,rfl,?_⟩;refine ai rfl rfl ?_;refine ad ⟨rfl,rfl,rfl,?_⟩;refine ai rfl rfl ?_;refine ad ⟨rfl,rfl,rfl,?_⟩;refine fz (aJ ?_);rw[←em]at*
  first
  |(have e:decide (x=k)=decide (k∈d.1):=decide_eq_decide.2 (by rw[←Gz xv,XC];simp)
    exact eH rfl rfl rfl ⟨by rw[e],S.back⟩)
  |(have e:k∉d.1:=fun h=>by have:=(xu xv).1 h;have:=(av.1 this).1;omega
    exact eH rfl rfl rfl ⟨by rw[decide_eq_false e],S.back⟩)
 ·refine ao rfl rfl rfl rfl ?_;refine ad ⟨rfl,rfl,rfl,?_⟩;refine ao rfl rfl rfl rfl ?_;refine ad ⟨rfl,rfl,rfl,?_⟩;refine ao rfl rfl rfl rfl ?_;refine ad ⟨rfl,rfl,rfl,?_⟩;refine ao rfl rfl rfl rfl ?_;refine ad ⟨rfl,rfl,rfl,?_⟩;refine ao rfl rfl rfl rfl ?_;refine ad ⟨rfl,rfl,rfl,?_⟩;refine ao rfl rfl rfl rfl ?_;refine ad ⟨rfl,rfl,rfl,?_⟩;refine ao rfl rfl rfl rfl ?_;refine ad ⟨rfl,rfl,rfl,?_⟩;refine ao rfl rfl rfl rfl ?_;refine ad ⟨rfl,rfl,rfl,?_⟩;refine ao rfl rfl rfl rfl ?_;refine ad ⟨rfl,rfl,rfl,?_⟩;refine ax rfl rfl rfl ?_;refine ad ⟨rfl,rfl,rfl,?_⟩;refine ai rfl rfl ?_;refine ad ⟨rfl,rfl,rfl,?_⟩;refine ai rfl rfl ?_;refine ad ⟨rfl,rfl,rfl,?_⟩;refine fz (aJ ?_);rw[←em]at*
  first
  |(have e:decide (x=k)=decide (k∈d.1):=decide_eq_decide.2 (by rw[←Gz xv,XC];simp)
    exact eH rfl rfl rfl ⟨by rw[e],S.back⟩)
  |(have e:k∉d.1:=fun h=>by have:=(xu xv).1 h;have:=(av.1 this).1;omega
    exact eH rfl rfl rfl ⟨by rw[decide_eq_false e],S.back⟩)
theorem find_spec {M:aA} {d:Di} {v0:Value} {k:List UInt8} (w0:World) (hM:Lt M w0) (hd:ch RT.di M w0 v0 d) (xv:xi d.1) (hl:d.1.length=d.2.length):
  Spec Tryz.prog 73 #[v0,sv k] w0 (fun v w=>Step M w0 M w aC∧((∃(j:Nat) (p:Value) (t:Li),v= .tuple #[p,.bool true]∧d.1[j]? =some k∧d.2[j]? =some t∧ch RT.li M w p t)∨(v= .tuple #[.pointer none,.bool false]∧k∉d.1))):=by
 refine aX (args:=[_,_]) (fn:=Tryz.f73) Tryz.func73 rfl (n:=25) Tryz.ntmps73 ?_;have S:Step M w0 M w0 aC:=(an _ _).cb (fun _ h=>h.elim) (fun _ h=>h.elim);refine aj (ah (ai rfl rfl (ai rfl rfl (ad (aj (ah (ae rfl rfl (ae rfl rfl ?_))))))));refine aP rfl rfl Xt (Be _ hM hd xv) (fun r1 w1 hc=>?_);obtain⟨rfl,s1⟩:=hc;replace hd:=hd.le (by decide) s1.le;replace hM:=s1.lt hM;have:=S.size;replace S:=S.ay s1;refine ae rfl rfl (bP rfl rfl rfl (bP rfl rfl rfl (ai rfl rfl (ai rfl rfl (ad (aj (aj (ah (ae rfl rfl (Rg.not rfl rfl (bz (v':= .bool (decide (k∉d.1))) (by simp) ?_)))))))))));refine ad ?_;refine bI rfl (fun c2=>?_) (fun c2=>?_)
 ·refine aj (ah (ai rfl rfl (ad (aj (ah (ae rfl rfl (ai rfl rfl (ai rfl rfl (ad (aJ ?_))))))))));exact eH rfl rfl rfl ⟨S,.inr ⟨rfl,c2⟩⟩
 ·refine aV (aj (ah (ae rfl rfl (aQ rfl hd.iZ rfl ?_))));refine aH (M:=M) (A:=RT.di) (B:=((RT.li).ptr).sl) Tryz.underlying190 rfl rfl A6 (by decide) di1 rfl rfl (by decide) hd (aq _ _) (fun pt SL=>?_);refine cf (M:=M) dO rfl rfl rfl rfl rfl SL (aq _ _) (fun vt DH=>?_);replace DH:(((RT.li).ptr).sl).V M _ d.2 vt:=DH;refine ae rfl rfl ?_;have hk:=(xu xv).1 (dV.1 c2);have Ct:=(av.1 hk).1;refine dq (M:=M) dO ov rfl rfl rfl DH (aq _ _) (by omega) (fun u5 t CM Am=>?_);rw[az]at CM;refine cf (M:=M) cH rfl rfl rfl rfl rfl Am (aq _ _) (fun vp XD=>?_);have XE:=B7.1 XD;refine ai rfl rfl (ai rfl rfl (ad (aJ ?_)));exact eH rfl rfl rfl ⟨S,.inl ⟨_,_,t,rfl,hk,CM,XE⟩⟩
end Go.K
namespace Go.K
open Go.Proofs
namespace TKSegC
theorem A6:TI Tryz.prog 188 (.slice none 0 0) 1 24:=by unfold TI;kernel_rfl
end TKSegC
open TKSegC
set_option maxRecDepth 10000
end Go.K
namespace Go.K
open Go.Proofs
namespace TKSegD
theorem MJ:TI Tryz.prog 123 (.pointer none) 1 8:=by unfold TI;kernel_rfl
end TKSegD
open TKSegD
set_option maxRecDepth 10000
end Go.K
namespace Go.K
open Go.Proofs
namespace TKSegE
theorem MJ:TI Tryz.prog 123 (.pointer none) 1 8:=by unfold TI;kernel_rfl
theorem E73:Enters Tryz.prog 73:=enters Tryz.func73 rfl (by decide)
end TKSegE
open TKSegE
set_option maxRecDepth 10000
def lu (ns:List (List UInt8)) (ls:List (List Po)) (k:List UInt8):List Po:=match (ns.zip ls).find? (fun p=>decide (p.1=k))with|some p=>p.2|none=>[]
theorem GA {ns:List (List UInt8)} (hn:ns.Nodup) {ls:List (List Po)} {k:List UInt8} {j:Nat} {l:List Po} (h:ns[j]? =some k) (hl:ls[j]? =some l):lu ns ls k=l:=by
 have:∀{ns:List (List UInt8)} {ls:List (List Po)} {j:Nat},ns.Nodup→ns[j]? =some k→ls[j]? =some l→(ns.zip ls).find? (fun p=>decide (p.1=k))=some (k,l):=by
  intro ns
  induction ns with
  |nil=>intro ls j _ h;simp at h
  |cons x ns ih=>
   intro ls j hn h hl
   cases ls with
   |nil=>simp at hl
   |cons y ls=>
    cases j with
    |zero=>simp at h hl;subst h;subst hl;simp
    |succ j=>
     have Jz:=rA.1 hn;have hk:k∈ns:=aL (by simpa using h);have hx:x≠k:=fun e=>Jz.1 (by rw[e];exact hk)
     rw[List.zip_cons_cons,List.find?_cons_of_neg (by simpa using hx)];exact ih Jz.2 (by simpa using h) (by simpa using hl)
 unfold lu;rw[this hn h hl]
theorem zw {ns:List (List UInt8)} {ls:List (List Po)} {k:List UInt8} (h:k∉ns):lu ns ls k=[]:=by
 unfold lu;rw[List.find?_eq_none.2 fun p hp=>by have:=List.of_mem_zip hp;simp;intro e;exact h (e▸this.1)]
theorem Bf {L:List En} (k:List UInt8):lu (keysOf L) ((keysOf L).map (pk L)) k=pk L k:=by
 by_cases h:k∈keysOf L
 ·obtain⟨j,hj⟩:=bO.1 h;exact GA (jC L).nodup hj (by rw[ey,hj];rfl)
 ·rw[zw h];exact(B6 0 (fun h'=>h (j9.2 h'))).symm
def qT (d:Di) (k:List UInt8) (M:aA) (v:Value) (w:World):Prop:=(∃(j:Nat) (t:Li),d.1[j]? =some k∧d.2[j]? =some t∧ch RT.li M w v t)∨(v= .pointer none∧k∉d.1)
theorem qT.step {d:Di} {k:List UInt8} {M M':aA} {v:Value} {w w':World} (h:qT d k M v w) (s:Step M w M' w' aC):qT d k M' v w':=h.imp (fun⟨j,t,h1,h2,h3⟩=>⟨j,t,h1,h2,h3.le (by decide) s.le⟩) id
theorem Dg {M:aA} {t:Fd} (w0:World) (hM:Lt M w0) (h1:t.1.length≤140737488355328) (h2:t.2.length≤140737488355328):
  Spec Tryz.prog 74 #[kv t] w0 (fun v w=>v= .string ⟨(dd t).toArray⟩∧Step M w0 M w aC):=by
 refine aX (args:=[_]) (fn:=Tryz.f74) Tryz.func74 rfl (n:=9) Tryz.ntmps74 ?_;have S:Step M w0 M w0 aC:=(an _ _).cb (fun _ h=>h.elim) (fun _ h=>h.elim);refine aj (ah ?_);refine kd (A:=RT.fd) rfl rfl hM (xb (by omega) (by omega)) rfl (fun u0 w1 cz s0 _=>?_);replace hM:=s0.lt hM;have:=S.size;replace S:=S.ay s0;refine ai rfl rfl (ad (aj (ah ?_)));refine aH (M:=M) (A:=RT.fd) (B:=RT.str) b9 rfl rfl I9 (by decide) (K8) rfl rfl (by decide) (by assumption) (by repeat (first|exact aq _ _|refine aT (aY (by assumption)) ?_)) (fun uc jt=>?_);refine cf (M:=M) aD rfl rfl rfl rfl rfl jt (aq _ _) (fun v1 mn=>?_);obtain rfl:=fy mn;refine Rg.cat (p:=t.1) (q:=[0]) rfl rfl rfl (by simp;omega) ?_;refine aH (M:=M) (A:=RT.fd) (B:=RT.str) b9 rfl rfl I9 (by decide) (R7) rfl rfl (by decide) (by assumption) (by repeat (first|exact aq _ _|refine aT (aY (by assumption)) ?_)) (fun EC fA=>?_);refine cf (M:=M) aD rfl rfl rfl rfl rfl fA (aq _ _) (fun v4 p9=>?_);obtain rfl:=fy p9;refine Rg.cat (p:=t.1++[0]) (q:=t.2) rfl rfl rfl (by simp;omega) (ai rfl rfl (ad (aJ ?_)));exact aO rfl rfl ⟨rfl,S⟩
end Go.K
namespace Go.K
open Go.Proofs
namespace TKCursor
theorem MK:TI Tryz.prog 216 (.agg #[(.pointer none),(.int .i64 0),(.slice none 0 0),(.int .i64 0),(.int .i64 0)]) 5 56:=by unfold TI;kernel_rfl
theorem ML:placesOf Tryz.prog 216=[(0,1),(1,1),(2,1),(3,1),(4,1)].map some:=by kernel_rfl
end TKCursor
open TKCursor
set_option maxRecDepth 10000
theorem qU {l:List Po} {j:Nat} {p:Po} (h:l[j]? =some p):(jl l (j:Int))[0]? =some p:=by
 unfold jl;rw[if_neg (by omega),az,dE,if_pos (by omega),List.getElem?_drop];simpa using h
theorem Bg {l:List Po} {i:Int} (h:(l.length:Int)≤i):jl l i=[]:=by
 unfold jl;rw[if_neg (by omega),ei (by omega),List.take_nil]
theorem Dh {M:aA} {w0:World} {q:Addr} {l:List Po} (hv:ch RT.li M w0 (.pointer (some q)) (gJ l)):
  Spec Tryz.prog 140 #[.pointer (some q)] w0 (fun v' w'=>∃bc,v'= .pointer (some ⟨bc,0,none⟩)∧w0.heap.size≤bc∧Step M w0 (ins M bc) w' aC∧Cu 216 l (-1) (ins M bc) w' bc):=by
 refine aX (args:=[_]) (fn:=Tryz.f140) Tryz.func140 rfl (n:=12) Tryz.ntmps140 (aj (ah (ai rfl rfl (ad (aj (aj (ah (ae rfl rfl (Rg.D7 (v:= .pointer (some q)) cH rfl ⟨_,rfl⟩ rfl rfl (bz (v':= .bool (decide False)) rfl (ad ?_)))))))))));refine T.zR rfl ((fun h=>h)) (aV (aj (ah (ae rfl rfl (dZ (places:=[(0,1),(1,1),(2,1),(3,1),(4,1)]) bA MK ML rfl ⟨_,_,rfl,rfl,_,_,rfl,rfl,_,_,rfl,rfl,rfl⟩ (out:=[_,_,.slice none 0 0,_,.int .i64 0]) ⟨0,[_],rfl,rfl,by simp[Value.cells],1,[_],rfl,rfl,by simp[Value.cells],3,[_],rfl,rfl,by simp[Value.cells],rfl⟩ ?_)))));refine oN M rfl rfl (fun bc w1 h1 G5 hS s1=>?_);refine ai rfl rfl (ad (aJ ?_));exact aO rfl rfl ⟨bc,rfl,h1,s1,.pointer (some q),.slice none 0 0,-1,0,.inl rfl,hS,hv.le (by decide) s1.le,jN,by omega,by omega,fun _=>rfl,fun h=>by omega⟩
def pz (l:List Po) (i:Int):Int:=if i<l.length then i+1 else i
theorem GB {l:List Po} (hm:dQ (-1) l=true) {i:Int} (hi: -1≤i∧i≤l.length):pU l i (min (eC l i+1) 2147483648)=pz l i:=by
 unfold pU pz;rcases jb l i with⟨h0,h,_⟩|⟨j,d,ps,rfl,hx,h,_⟩|⟨h0,h,_⟩
 ·rw[h,if_neg (by omega),if_pos (by omega)];rw[idx_eq (i:=0) (fun j hj=>absurd hj (jv _)) (fun p hp=>by have:=lK hm (i:=0) (d:=p.1) (ps:=p.2) hp;omega) (bH _)];omega
 ·have hr:=lK hm hx;have hj:=(av.1 hx).1;rw[h,if_neg (by omega),if_pos (by omega)];rw[idx_eq (i:=j+1) (fun t ht p hp=>?_) (fun p hp=>?_) (by omega)]
  ·omega
  ·rcases cK t j with h1|h1
   ·have:=BK hm hp hx h1;simp only at this;omega
   ·rw[show t=j from by omega,hx]at hp;cases hp;simp only;omega
  ·have h1:=BK hm hx hp (by omega);have h2:=lK hm (i:=j+1) (d:=p.1) (ps:=p.2) hp;simp only at h1;omega
 ·rw[h,if_pos (by omega),if_neg (by omega)]
end Go.K
namespace Go.K
open Go.Proofs
namespace TKIdx
theorem XF:Enters Tryz.prog 186:=enters Tryz.func186 rfl (by decide)
end TKIdx
open TKIdx
set_option maxRecDepth 10000
theorem Dj {M:aA} {w0:World} {x:Value} {d to:Int} {bt:Nat} (hM:Lt M w0) (hb:w0.heap[bt]? =some (.cells #[.int .i64 to] 3 (0,0))):
  Spec Tryz.prog 186 #[.agg #[.int .i64 d,x],.pointer (some ⟨bt,0,none⟩)] w0 (fun v' w'=>v'= .bool (decide (to≤d))∧Step M w0 M w' aC):=by
 refine aX (args:=[_,_]) (fn:=Tryz.f186) Tryz.func186 rfl (n:=8) Tryz.ntmps186 (aj (ah ?_));refine oN M rfl rfl (fun bx w1 h1 G5 hS s1=>?_);change w1.heap[bx]? =some (.cells #[.int .i64 d,x] _ _)at hS;have o0:=s1.aI hb;refine ai rfl rfl (ad (aj (ah (aS bK rfl rfl I3 (by decide) rfl rfl (aE ar rfl rfl rfl (by assumption) rfl (aE ar rfl rfl rfl (by assumption) rfl (dy rfl rfl rfl (ai rfl rfl (ad (aJ ?_))))))))));exact aO rfl rfl ⟨rfl,s1.back⟩
set_option maxHeartbeats 2000000 in
theorem pA {M:aA} {w0:World} {v:Value} {lf:List Po} {to:Int} {bt:Nat} (hM:Lt M w0) (hv:((RT.po).sl).V M w0 lf v) (hb:w0.heap[bt]? =some (.cells #[.int .i64 to] 3 (0,0))):
  Spec Tryz.prog 185 #[v,.func (.func 186) #[] #[.pointer (some ⟨bt,0,none⟩)]] w0 (fun v' w'=>v'= .int .i64 (if idx lf to<lf.length then(idx lf to:Int)else-1)∧Step M w0 M w' aC):=by
 have hlen:=dM hv;refine aX (args:=[_,_]) (fn:=Tryz.f185) Tryz.func185 rfl (n:=19) Tryz.ntmps185 (aj (ah (ai rfl rfl (ad (aj (aj (ah (ae rfl rfl (bT aW rfl hv rfl (ae rfl rfl (ad ?_)))))))))));refine bj ?_;refine dF (σ:=Nat) (fun s=>[(0,v),(1,.func (.func 186) #[] #[.pointer (some ⟨bt,0,none⟩)]),(7,.int .i64 lf.length),(8,.int .i64 s)]) (fun s w=>s≤lf.length∧Step M w0 M w aC∧∀j,j<s→∀p,lf[j]? =some p→p.1<to) (fun s=>lf.length-s) 0 (.cons rfl (.cons rfl (.cons rfl (.cons rfl .nil)))) ?_ ?_
 ·exact⟨bH _,an _ _,fun j hj=>absurd hj (jv _)⟩
 ·rintro k w1 ⟨hk,S,dB⟩;refine aj (ah (cd rfl rfl rfl (ad (aj ?_))));refine bI rfl (fun c2=>?_) (fun c2=>?_)
  ·refine aV (aj (bj (aj (ah (ae rfl rfl (ai rfl rfl (ad (aj (ah (ae rfl rfl (ae rfl rfl ?_)))))))))));refine ae rfl rfl ?_;obtain⟨⟨d,ps⟩,hx⟩:∃x,(lf)[k]? =some x:=⟨_,aN (by omega)⟩;refine dq (M:=M) aW gu rfl rfl rfl (hv.le S.le) (aq _ _) (by first|omega|decide) (fun OX XG Q5 aaH=>?_);obtain rfl:(d,ps)=XG:=eF (bM (Q5.symm.trans (by simpa using hx)));refine cC (M:=M) (A:=RT.po) bK rfl gu (by decide) rfl rfl rfl (by assumption) (by repeat (first|exact aq _ _|refine aT (aY (by assumption)) ?_)) (fun aeF Q6=>?_);obtain⟨x4,rfl,_,_⟩:=KG Q6;refine Rg.nK (first:=[]) (captured:=[.pointer (some ⟨bt,0,none⟩)]) (xs:=[.tmp 15]) rfl rfl rfl XF (Dj (M:=M) (d:=d) (x:=x4) (S.lt hM) (S.aI hb)) (fun r w2 h2=>?_);obtain⟨rfl,s2⟩:=h2;refine ad ?_;refine bI rfl (fun c4=>?_) (fun c4=>?_)
   ·refine aj (ah (ae rfl rfl (ai rfl rfl (ad (aJ ?_)))));have he:idx lf to=k:=idx_eq dB (fun p hp=>by rw[hx]at hp;cases hp;exact c4) hk;exact aO rfl rfl ⟨by rw[he,if_pos (by omega)],S.ay s2⟩
   ·refine aV (ah (bB rfl rfl rfl (by omega) (ae rfl rfl (ad ?_))));refine⟨rfl,k+1,(.cons rfl (.cons rfl (.cons rfl (.cons rfl .nil)))),?_,?_⟩
    ·refine⟨by omega,S.ay s2,fun j hj p hp=>?_⟩;rcases cK j k with IK|IK
     ·exact dB j IK p hp
     ·rw[show j=k from by omega,hx]at hp;cases hp;simp only;omega
    ·show _-(k+1)<_-k;omega
  ·refine cN (aj (ah (ai rfl rfl (ad (aJ ?_)))))
   have he:idx lf to=lf.length:=by
    obtain rfl:k=lf.length:=by omega
    exact idx_eq dB (fun p hp=>by simp at hp) (bh _)
   exact aO rfl rfl ⟨by rw[he,if_neg (by omega)],S⟩
end Go.K
namespace Go.K
open Go.Proofs
namespace TKAdv
theorem jE:TI Tryz.prog 107 (.slice none 0 0) 1 24:=by unfold TI;kernel_rfl
theorem XH:Enters Tryz.prog 141:=enters Tryz.func141 rfl (by decide)
theorem XI:Enters Tryz.prog 180:=enters Tryz.func180 rfl (by decide)
theorem IL:Enters Tryz.prog 183:=enters Tryz.func183 rfl (by decide)
theorem XJ:Enters Tryz.prog 184:=enters Tryz.func184 rfl (by decide)
theorem Q7:Enters Tryz.prog 185:=enters Tryz.func185 rfl (by decide)
end TKAdv
open TKAdv
set_option maxRecDepth 10000
set_option maxHeartbeats 2000000 in
theorem xx {M:aA} {w0:World} {bc:Nat} {l:List Po} {i to:Int} (h:Cu 216 l i M w0 bc) (hM:Lt M w0) (hm:dQ (-1) l=true) (qW:∀p∈l,p.2.length≤1099511627776) (zP:(dx (-1) l).length≤1099511627776) (Hm:l.length≤1099511627776) (On: -9223372036854775808≤to∧to≤9223372036854775807):
  Spec Tryz.prog 141 #[.pointer (some ⟨bc,0,none⟩),.int .i64 to] w0 (fun v' w'=>v'= .int .i64 (eC l (pU l i to))∧Step M w0 M w' (fun b=>b=bc)∧Cu 216 l (pU l i to) M w' bc):=by
 obtain⟨p,u,k,Dz,NT,hb,hp,hu,hi,hk,Ox,pG⟩:=id h;have G1:(gJ l).2.1.length=(l.length+7)/8:=by simp[gJ,mg]
 have xI:∀b:Nat,b=bc→M b:=fun b hb=>by rw[hb];exact NT
 have hdr:=uT hm i;refine aX (args:=[_,_]) (fn:=Tryz.f141) Tryz.func141 rfl (n:=107) Tryz.ntmps141 (aj (ah ?_));refine oN M rfl rfl (fun bt w1 ht ht' hT s1=>?_);change w1.heap[bt]? =some (.cells #[.int .i64 to] _ _)at hT;have Dd:bt≠bc:=by have:=ak hb;omega
 have o0:=s1.aI hb;generalize re:ins M bt=M1 at s1;have rb:=s1.lt hM;have JP:=hp.le (by decide) s1.le;have RV:=hu.le s1.le;have uy:=(s1.mem bc (ak hb)).2 NT;have hcM:∀b:Nat,b=bc→M1 b:=fun b h=>by rw[h];exact uy
 refine ai rfl rfl (ad (aj (aj ?_)));apply T.draw (M:=M1) mixed [b8.eq _,b8.eq _,b8.eq _,b8.eq _,b8.eq _,b8.eq _]
 ·rfl
 ·refine aK ?_ ?_
  ·intro wD E sD;refine aE ar rfl rfl rfl (bV sD (by assumption)) rfl ?_;exact ad ⟨rfl,rfl,_,rfl,rfl,an _ _⟩
  refine aK ?_ ?_
  ·intro wD E sD;refine ae rfl rfl ?_;exact ad ⟨rfl,rfl,_,rfl,rfl,an _ _⟩
  refine aK ?_ ?_
  ·intro wD E sD;refine aw (aQ rfl ⟨_,rfl⟩ rfl ?_);exact ad ⟨rfl,rfl,_,rfl,rfl,an _ _⟩
  refine aK ?_ ?_
  ·intro wD E sD;refine aw (aS bA rfl rfl I3 (by decide) rfl rfl ?_);exact ad ⟨rfl,rfl,_,rfl,rfl,an _ _⟩
  refine aK ?_ ?_
  ·intro wD E sD;refine aw (aE ar rfl rfl rfl (bV sD (by assumption)) rfl ?_);exact ad ⟨rfl,rfl,_,rfl,rfl,an _ _⟩
  refine aK ?_ ?_
  ·intro wD E sD;refine aw (aw (eP rfl rfl rfl ?_));exact ad ⟨rfl,rfl,_,rfl,rfl,an _ _⟩
  exact bX.nil
 ·intro DA jd;refine aw (aw (aw (aw (aw (aw ?_)))));have xE:=jd.aI o0;refine bI rfl (fun c1=>?_) (fun c1=>?_)
  ·refine aj (ah (ae rfl rfl (aQ rfl ⟨_,rfl⟩ rfl (aS bA rfl rfl I3 (by decide) rfl rfl (aE ar rfl rfl rfl (by assumption) rfl (ai rfl rfl (ad (aJ ?_))))))));have he:pU l i to=i:=by unfold pU;rw[if_pos c1]
   rw[he];have S:=s1.ay jd;exact aO rfl rfl ⟨rfl,S.back.cb (fun _ h=>h.elim) xI,h.step S.back (fun h=>h)⟩
  ·refine aV (aj (ah (ae rfl rfl (aQ rfl ⟨_,rfl⟩ rfl (aS bA rfl rfl I3 (by decide) rfl rfl (aE ar rfl rfl rfl (by assumption) rfl (Rg.max2 rfl rfl rfl (ai rfl rfl (ad (aj (bj ?_)))))))))));refine dF (σ:=Nat) (fun s=>[(0,.pointer (some ⟨bc,0,none⟩)),(3,.pointer (some ⟨bt,0,none⟩)),(5,.int .i64 s)]) (fun s w=>s≤(l.length+7)/8∧bW (-1) (l.take (8*s))<to∧Step M1 w1 M1 w aC) (fun s=>(l.length+7)/8-s) (max k 0).toNat (.cons rfl (.cons rfl (.cons (by rw[show(((max k 0).toNat:Nat):Int)=max k 0 from by omega];rfl) .nil))) ?_ ?_
   ·exact⟨by omega,CF hm hi hk Ox pG (by omega),jd⟩
   ·rintro n w4 ⟨hn,Ef,S4⟩;have Iv:=S4.aI o0;have NU:=S4.aI hT;have DI:=JP.le (by decide) S4.le;refine aj (aj ?_);by_cases Q8:(n:Int)<(((l.length+7)/8:Nat):Int)
    ·apply T.draw (M:=M1) mixed [b8.eq _,b8.eq _,b8.eq _,b8.eq _,b8.eq _,b8.eq _,b8.eq _,b8.eq (.bool true),b8.eq _,b8.eq _,b8.eq _,b8.eq _,b8.eq _,b8.eq _,b8.eq _,b8.eq _,b8.eq _]
     ·rfl
     ·refine aK ?_ ?_
      ·intro wD E sD;refine ae rfl rfl ?_;exact ad ⟨rfl,rfl,_,rfl,rfl,an _ _⟩
      refine aK ?_ ?_
      ·intro wD E sD;refine ae rfl rfl ?_;exact ad ⟨rfl,rfl,_,rfl,rfl,an _ _⟩
      refine aK ?_ ?_
      ·intro wD E sD;refine aw (aQ rfl ⟨_,rfl⟩ rfl ?_);exact ad ⟨rfl,rfl,_,rfl,rfl,an _ _⟩
      refine aK ?_ ?_
      ·intro wD E sD;refine aw (aS bA rfl rfl ov (by decide) rfl rfl ?_);exact ad ⟨rfl,rfl,_,rfl,rfl,an _ _⟩
      refine aK ?_ ?_
      ·intro wD E sD;refine aw (aE cH rfl rfl rfl (bV sD (by assumption)) rfl ?_);exact ad ⟨rfl,rfl,_,rfl,rfl,an _ _⟩
      refine aK ?_ ?_
      ·intro wD E sD;refine aw ?_;refine aP rfl rfl IL (kx (M:=M1) (DI.le (by decide) sD.le)) (fun r wc h=>?_);obtain⟨rfl,rfl⟩:=h;exact ad ⟨rfl,rfl,_,rfl,congrArg (fun n:Nat=>Value.int .i64 n) G1,an _ _⟩
      refine aK ?_ ?_
      ·intro wD E sD;refine aw (aw (cd rfl rfl rfl ?_));exact ad ⟨rfl,rfl,_,rfl,rfl,an _ _⟩
      refine aK ?_ ?_
      ·intro wD E sD;refine aw (aw (ae rfl rfl ?_));refine ad ⟨rfl,rfl,_,rfl,?_,an _ _⟩;exact congrArg Value.bool (decide_eq_true Q8)
      refine aK ?_ ?_
      ·intro wD E sD;refine aw (al rfl rfl (ae rfl rfl ?_));exact ad ⟨rfl,rfl,_,rfl,rfl,an _ _⟩
      refine aK ?_ ?_
      ·intro wD E sD;refine aw (aw (al rfl rfl (aQ rfl ⟨_,rfl⟩ rfl ?_)));exact ad ⟨rfl,rfl,_,rfl,rfl,an _ _⟩
      refine aK ?_ ?_
      ·intro wD E sD;refine aw (aw (al rfl rfl (aS bA rfl rfl ov (by decide) rfl rfl ?_)));exact ad ⟨rfl,rfl,_,rfl,rfl,an _ _⟩
      refine aK ?_ ?_
      ·intro wD E sD;refine aw (aw (al rfl rfl (aE cH rfl rfl rfl (bV sD (by assumption)) rfl ?_)));exact ad ⟨rfl,rfl,_,rfl,rfl,an _ _⟩
      refine aK ?_ ?_
      ·intro wD E sD;refine aw (al rfl rfl (ae rfl rfl ?_));exact ad ⟨rfl,rfl,_,rfl,rfl,an _ _⟩
      refine aK ?_ ?_
      ·intro wD E sD;refine aw (aw (aw (aw (al rfl rfl ?_))));refine aP rfl rfl XJ (Da (k:=n) (DI.le (by decide) sD.le)) (fun r wc h=>?_);obtain⟨rfl,rfl⟩:=h;exact ad ⟨rfl,rfl,_,rfl,rfl,an _ _⟩
      refine aK ?_ ?_
      ·intro wD E sD;refine aw (al rfl rfl (aE ar rfl rfl rfl (bV sD (by assumption)) rfl ?_));exact ad ⟨rfl,rfl,_,rfl,rfl,an _ _⟩
      refine aK ?_ ?_
      ·intro wD E sD;refine aw (aw (aw (al rfl rfl (cd rfl rfl rfl ?_))));exact ad ⟨rfl,rfl,_,rfl,rfl,an _ _⟩
      refine aK ?_ ?_
      ·intro wD E sD;refine aw (aw (aR rfl rfl rfl ?_));exact ad ⟨rfl,rfl,_,rfl,rfl,an _ _⟩
      exact bX.nil
     ·intro Zr vD;refine aw (aw (aw (aw (aw (aw (aw (aw (aw (aw (aw (aw ?_)))))))))));refine aw (aw (aw (aw (aw ?_))));replace S4:=S4.ay vD;replace Iv:=vD.aI Iv;replace NU:=vD.aI NU;replace DI:=DI.le (by decide) vD.le;have Mv:=S4.lt rb;refine bI rfl (fun c4=>?_) (fun c4=>?_)
      ·refine aV (bj (ah (ae rfl rfl (bB rfl rfl rfl (by omega) (ai rfl rfl (ad ?_))))));refine⟨rfl,n+1,(.cons rfl (.cons rfl (.cons rfl .nil))),?_,?_⟩
       ·have qx:=yf (g:=l) (k:=n) (by omega);refine⟨by omega,?_,S4⟩;rw[show 8*(n+1)=8*n+8 from by omega,←qx];exact c4
       ·show _-(n+1)<_-n;omega
      ·refine cN (aj (aj (ah (ae rfl rfl (ae rfl rfl (aQ rfl ⟨_,rfl⟩ rfl (aS bA rfl rfl ov (by decide) rfl rfl (aE cH rfl rfl rfl (by assumption) rfl ?_))))))));refine aP rfl rfl IL (kx (M:=M1) DI) (fun r wc h=>?_);obtain⟨rfl,rfl⟩:=h;refine bz (v':= .int .i64 (((l.length+7)/8:Nat):Int)) (congrArg (fun n:Nat=>Value.int .i64 n) G1) (Rg.zS rfl rfl rfl (ad ?_));refine bI rfl (fun c6=>?_) (fun c6=>?_)
       ·exfalso;omega
       ·have hnk:n<(l.length+7)/8:=by omega
        have Ow:to≤bW (-1) (l.take (8*n+8)):=by
         first
         |(exfalso;omega)
         |(have:=yf (g:=l) (k:=n) (by omega);omega)
        refine aV (aj (aj (ah (ae rfl rfl (ae rfl rfl (aQ rfl ⟨_,rfl⟩ rfl (aS bA rfl rfl I3 (by decide) rfl rfl (aE ar rfl rfl rfl (by assumption) rfl (eW rfl rfl rfl (ad ?_))))))))));refine bI rfl (fun c9=>?_) (fun c9=>?_)
        ·refine aj (ah (ae rfl rfl (ae rfl rfl (ae rfl rfl (ae rfl rfl (aQ rfl ⟨_,rfl⟩ rfl (aS bA rfl rfl ov (by decide) rfl rfl (aE cH rfl rfl rfl (by assumption) rfl (ae rfl rfl ?_)))))))));refine aP rfl rfl XI (A3 (M:=M1) (k:=n) Mv DI hm qW zP) (fun R9 UW h=>?_);obtain⟨oJ,C5⟩:=h;rw[if_pos (by unfold Eb;simp;omega),az]at C5;have XK:=oJ.aI Iv;refine aQ rfl ⟨_,rfl⟩ rfl (aS bA rfl rfl I3 (by decide) rfl rfl ?_);refine bQ (M:=M1) I3 rfl rfl XK rfl rfl uy (fun Sv Q9 qQ=>?_);change Sv.heap[bc]? =some (.cells #[p,.int .i64 n,u,.int .i64 (eC l i),.int .i64 Dz] 216 (0,0))at Q9;refine aQ rfl ⟨_,rfl⟩ rfl (aS bA rfl rfl jE (by decide) rfl rfl ?_);refine bQ (M:=M1) jE rfl rfl Q9 rfl (jY C5 rfl rfl) uy (fun EK IM kO=>?_);change EK.heap[bc]? =some (.cells #[p,.int .i64 n,R9,.int .i64 (eC l i),.int .i64 Dz] 216 (0,0))at IM;refine ad (ah (ae rfl rfl (aQ rfl ⟨_,rfl⟩ rfl (aS bA rfl rfl I3 (by decide) rfl rfl (aE ar rfl rfl rfl (by assumption) rfl (Rg.vV rfl rfl rfl (aQ rfl ⟨_,rfl⟩ rfl (aS bA rfl rfl I3 (by decide) rfl rfl ?_))))))));refine bQ (M:=M1) I3 rfl rfl IM rfl rfl uy (fun Qd MM uu=>?_);change Qd.heap[bc]? =some (.cells #[p,.int .i64 n,R9,.int .i64 (eC l i),.int .i64 (IntKind.i64.wrap (Dz+1))] 216 (0,0))at MM;obtain⟨lf,uX,cX,s,wX,XL,XM,Ra,KF,Kn,xG,XN,XO,hpX,XP,SX⟩:∃lf uX cX s wX,wX=Qd∧wX.heap[bc]? =some (.cells #[p,.int .i64 n,uX,.int .i64 (eC l i),.int .i64 cX] 216 (0,0))∧((RT.po).sl).V M1 wX lf uX∧lf=(l.drop s).take (8*n+8-s)∧8*n≤s∧s<8*n+8∧s<l.length∧bW (-1) (l.take s)<to∧ch RT.li M1 wX p (gJ l)∧wX.heap[bt]? =some (.cells #[.int .i64 to] 3 (0,0))∧Step M1 w1 M1 wX (fun b=>b=bc):=⟨_,R9,_,8*n,Qd,rfl,MM,((C5.le qQ.le).le kO.le).le uu.le,by rw[show 8*n+8-8*n=8 from by omega],by omega,by omega,by omega,Ef,(((DI.le (by decide) oJ.le).le (by decide) qQ.le).le (by decide) kO.le).le (by decide) uu.le,uu.bF (kO.bF (qQ.bF (oJ.aI NU) Dd) Dd) Dd,((((S4.cb (fun _ h=>h.elim) hcM).ay oJ).trans qQ (fun _ _ h=>h)).trans kO (fun _ _ h=>h)).trans uu (fun _ _ h=>h)⟩
         subst XL;clear MM;refine ad (aj ?_);obtain⟨To,Np,XQ,ha4,XR⟩:=uV hm Kn xG XN XO Ow KF;have XS:=SX.lt rb;obtain⟨⟨d,ps⟩,hx⟩:∃x,l[idx l to]? =some x:=⟨_,aN XQ⟩;have hh:=qU hx;have hhl:=(av.1 hh).1;apply T.BG (M:=M1) mixed [] [b8.eq _,b8.eq _,b8.eq _,b8.eq _,b8.eq uX,b8.eq _,b8.eq _,b8.eq _,b8.eq uX,b8.eq _,b8.eq _,b8.V ((RT.po).sl) (jl l (idx l to:Nat))] 12
         ·rfl
         ·rfl
         ·rfl
         ·rfl
         ·rfl
         ·exact fun p hp=>by cases hp
         ·exact qX.none
         ·refine aF ?_ ?_
          ·intro wD E sD;refine ae rfl rfl ?_;exact ad ⟨rfl,rfl,_,rfl,rfl,an _ _⟩
          refine aF ?_ ?_
          ·intro wD E sD;refine ae rfl rfl ?_;exact ad ⟨rfl,rfl,_,rfl,rfl,an _ _⟩
          refine aF ?_ ?_
          ·intro wD E sD;refine aw (aQ rfl ⟨_,rfl⟩ rfl ?_);exact ad ⟨rfl,rfl,_,rfl,rfl,an _ _⟩
          refine aF ?_ ?_
          ·intro wD E sD;refine aw (aS bA rfl rfl jE (by decide) rfl rfl ?_);exact ad ⟨rfl,rfl,_,rfl,rfl,an _ _⟩
          refine aF ?_ ?_
          ·intro wD E sD;refine aw (aE aW rfl rfl rfl (bV sD (by assumption)) rfl ?_);exact ad ⟨rfl,rfl,_,rfl,rfl,an _ _⟩
          refine aF ?_ ?_
          ·intro wD E sD;refine ae rfl rfl ?_;exact ad ⟨rfl,rfl,_,rfl,rfl,an _ _⟩
          refine aF ?_ ?_
          ·intro wD E sD;refine aw (aQ rfl ⟨_,rfl⟩ rfl ?_);exact ad ⟨rfl,rfl,_,rfl,rfl,an _ _⟩
          refine aF ?_ ?_
          ·intro wD E sD;refine aw (aS bA rfl rfl jE (by decide) rfl rfl ?_);exact ad ⟨rfl,rfl,_,rfl,rfl,an _ _⟩
          refine aF ?_ ?_
          ·intro wD E sD;refine aw (aE aW rfl rfl rfl (bV sD (by assumption)) rfl ?_);exact ad ⟨rfl,rfl,_,rfl,rfl,an _ _⟩
          refine aF ?_ ?_
          ·intro wD E sD;refine ia (xs:=[]) (ys:=[.tmp 3]) rfl rfl rfl ?_;exact ad ⟨rfl,rfl,_,rfl,rfl,an _ _⟩
          refine aF ?_ ?_
          ·intro wD E sD;refine aw (aw ?_);refine aP rfl rfl Q7 (pA (M:=M1) (sD.lt XS) (Ra.le sD.le) (sD.aI XP)) (fun r wi h=>?_);obtain⟨rfl,s⟩:=h;refine bz (v':= .int .i64 ((idx lf to:Nat):Int)) (by rw[if_pos Np]) ?_;exact ad ⟨rfl,rfl,_,rfl,rfl,s⟩
          refine aF ?_ ?_
          ·intro wD E sD;refine aw (aw ?_);refine Rg.vX (A:=RT.po) (hn:=by decide) aW gu rfl rfl rfl (Ra.le sD.le) (by omega) (fun u hu=>?_);rw[az,XR]at hu;exact ad ⟨rfl,rfl,_,rfl,hu,an _ _⟩
          exact bD.nil
         ·intro Gk tv;refine aw (aw (aw (aw (aw (aw (aw (aw (aw (aw (aw ?_))))))))));intro l0 xy;have MN:=tv.aI XM;have jr:((RT.po).sl).V M1 Gk (jl l (idx l to:Nat)) l0:=xy;have XT:=SX.ay tv;refine aQ rfl ⟨_,rfl⟩ rfl (aS bA rfl rfl jE (by decide) rfl rfl ?_);refine bQ (M:=M1) jE rfl rfl MN rfl (jY jr rfl rfl) uy (fun ND GC qa=>?_);change ND.heap[bc]? =some (.cells #[p,.int .i64 n,l0,.int .i64 (eC l i),.int .i64 cX] 216 (0,0))at GC;replace jr:=jr.le qa.le;refine ad (aj (ah (ae rfl rfl (ae rfl rfl (aQ rfl ⟨_,rfl⟩ rfl (aS bA rfl rfl jE (by decide) rfl rfl (aE aW rfl rfl rfl (by assumption) rfl ?_)))))));refine dq (M:=M1) aW gu rfl rfl rfl (jr) (aq _ _) (by first|omega|decide) (fun Rb GD Bh MO=>?_);obtain rfl:(d,ps)=GD:=eF (bM (Bh.symm.trans (by simpa using hh)));refine aH (M:=M1) (A:=RT.po) (B:=RT.int .i64) bK rfl rfl I3 (by decide) (G6) rfl rfl (by decide) (by assumption) (by repeat (first|exact aq _ _|refine aT (aY (by assumption)) ?_)) (fun Ju EV=>?_);refine cc (M:=M1) ar rfl rfl (by assumption) (by repeat (first|exact aq _ _|refine aT (aY (by assumption)) ?_)) (fun tA=>?_);refine bz (v':= .int .i64 (d)) rfl ?_;replace tA: -9223372036854775808≤(d:Int)∧d≤9223372036854775807:=tA;refine aQ rfl ⟨_,rfl⟩ rfl (aS bA rfl rfl I3 (by decide) rfl rfl ?_);refine bQ (M:=M1) I3 rfl rfl GC rfl rfl uy (fun JU GF A5=>?_);change JU.heap[bc]? =some (.cells #[p,.int .i64 n,l0,.int .i64 d,.int .i64 cX] 216 (0,0))at GF;replace jr:=jr.le A5.le;refine ad (aj (ah (ae rfl rfl (aQ rfl ⟨_,rfl⟩ rfl (aS bA rfl rfl I3 (by decide) rfl rfl (aE ar rfl rfl rfl (by assumption) rfl (ai rfl rfl (ad (aJ ?_)))))))))
          have he:pU l i to=(idx l to:Int):=by unfold pU;rw[if_neg c1]
          rw[he];have S7:=((s1.cb (fun _ h=>h.elim) xI).trans ((XT.trans qa (fun _ _ h=>h)).trans A5 (fun _ _ h=>h)) (fun _ _ h=>h));exact aO rfl rfl ⟨by rw[gQ hx];rfl,S7.back,p,l0,n,cX,NT,by rw[gQ hx];exact GF,(hp.le (by decide) S7.back.le),jr.le (Le.close hM S7),by omega,by omega,fun h=>by omega,fun _ h=>by omega⟩
        ·have aeK:=(iM l (-1) hm (by decide) (8*n+8)).2
         obtain⟨RR,uF⟩:0≤i∧i<l.length:=by
          rcases jb l i with⟨h0,_⟩|⟨j,d,ps,rfl,hx,_⟩|⟨h0,h1,_⟩
          ·have:=Ox h0;omega
          ·have:=(av.1 hx).1;omega
          ·omega
         have xZ:=pG RR uF;obtain⟨j,gm⟩:∃j:Nat,i=j:=⟨i.toNat,by omega⟩;obtain⟨⟨dj,pj⟩,hxj⟩:∃x,l[j]? =some x:=⟨_,aN (by omega)⟩;have hdj:=gQ hxj;rw[←gm]at hdj;have No:=(mO hm hxj).1;obtain rfl:(n:Int)=k:=by omega
         have xL:=RV.le S4.le;obtain⟨lf,uX,cX,s,wX,XL,XM,Ra,KF,Kn,xG,XN,XO,hpX,XP,SX⟩:∃lf uX cX s wX,wX=_∧wX.heap[bc]? =some (.cells #[p,.int .i64 n,uX,.int .i64 (eC l i),.int .i64 cX] 216 (0,0))∧((RT.po).sl).V M1 wX lf uX∧lf=(l.drop s).take (8*n+8-s)∧8*n≤s∧s<8*n+8∧s<l.length∧bW (-1) (l.take s)<to∧ch RT.li M1 wX p (gJ l)∧wX.heap[bt]? =some (.cells #[.int .i64 to] 3 (0,0))∧Step M1 w1 M1 wX (fun b=>b=bc):=⟨_,u,Dz,j,_,rfl,Iv,xL,by rw[gm];unfold jl;rw[if_neg (by omega),az,show 8*n+8-j=8-j%8 from by omega],by omega,by omega,by omega,by omega,DI,NU,S4.cb (fun _ h=>h.elim) hcM⟩;subst XL;clear Iv;refine aV (aj ?_);obtain⟨To,Np,XQ,ha4,XR⟩:=uV hm Kn xG XN XO Ow KF;have XS:=SX.lt rb;obtain⟨⟨d,ps⟩,hx⟩:∃x,l[idx l to]? =some x:=⟨_,aN XQ⟩;have hh:=qU hx;have hhl:=(av.1 hh).1;apply T.BG (M:=M1) mixed [] [b8.eq _,b8.eq _,b8.eq _,b8.eq _,b8.eq uX,b8.eq _,b8.eq _,b8.eq _,b8.eq uX,b8.eq _,b8.eq _,b8.V ((RT.po).sl) (jl l (idx l to:Nat))] 12
         ·rfl
         ·rfl
         ·rfl
         ·rfl
         ·rfl
         ·exact fun p hp=>by cases hp
         ·exact qX.none
         ·refine aF ?_ ?_
          ·intro wD E sD;refine ae rfl rfl ?_;exact ad ⟨rfl,rfl,_,rfl,rfl,an _ _⟩
          refine aF ?_ ?_
          ·intro wD E sD;refine ae rfl rfl ?_;exact ad ⟨rfl,rfl,_,rfl,rfl,an _ _⟩
          refine aF ?_ ?_
          ·intro wD E sD;refine aw (aQ rfl ⟨_,rfl⟩ rfl ?_);exact ad ⟨rfl,rfl,_,rfl,rfl,an _ _⟩
          refine aF ?_ ?_
          ·intro wD E sD;refine aw (aS bA rfl rfl jE (by decide) rfl rfl ?_);exact ad ⟨rfl,rfl,_,rfl,rfl,an _ _⟩
          refine aF ?_ ?_
          ·intro wD E sD;refine aw (aE aW rfl rfl rfl (bV sD (by assumption)) rfl ?_);exact ad ⟨rfl,rfl,_,rfl,rfl,an _ _⟩
          refine aF ?_ ?_
          ·intro wD E sD;refine ae rfl rfl ?_;exact ad ⟨rfl,rfl,_,rfl,rfl,an _ _⟩
          refine aF ?_ ?_
          ·intro wD E sD;refine aw (aQ rfl ⟨_,rfl⟩ rfl ?_);exact ad ⟨rfl,rfl,_,rfl,rfl,an _ _⟩
          refine aF ?_ ?_
          ·intro wD E sD;refine aw (aS bA rfl rfl jE (by decide) rfl rfl ?_);exact ad ⟨rfl,rfl,_,rfl,rfl,an _ _⟩
          refine aF ?_ ?_
          ·intro wD E sD;refine aw (aE aW rfl rfl rfl (bV sD (by assumption)) rfl ?_);exact ad ⟨rfl,rfl,_,rfl,rfl,an _ _⟩
          refine aF ?_ ?_
          ·intro wD E sD;refine ia (xs:=[]) (ys:=[.tmp 3]) rfl rfl rfl ?_;exact ad ⟨rfl,rfl,_,rfl,rfl,an _ _⟩
          refine aF ?_ ?_
          ·intro wD E sD;refine aw (aw ?_);refine aP rfl rfl Q7 (pA (M:=M1) (sD.lt XS) (Ra.le sD.le) (sD.aI XP)) (fun r wi h=>?_);obtain⟨rfl,s⟩:=h;refine bz (v':= .int .i64 ((idx lf to:Nat):Int)) (by rw[if_pos Np]) ?_;exact ad ⟨rfl,rfl,_,rfl,rfl,s⟩
          refine aF ?_ ?_
          ·intro wD E sD;refine aw (aw ?_);refine Rg.vX (A:=RT.po) (hn:=by decide) aW gu rfl rfl rfl (Ra.le sD.le) (by omega) (fun u hu=>?_);rw[az,XR]at hu;exact ad ⟨rfl,rfl,_,rfl,hu,an _ _⟩
          exact bD.nil
         ·intro Gk tv;refine aw (aw (aw (aw (aw (aw (aw (aw (aw (aw (aw ?_))))))))));intro l0 xy;have MN:=tv.aI XM;have jr:((RT.po).sl).V M1 Gk (jl l (idx l to:Nat)) l0:=xy;have XT:=SX.ay tv;refine aQ rfl ⟨_,rfl⟩ rfl (aS bA rfl rfl jE (by decide) rfl rfl ?_);refine bQ (M:=M1) jE rfl rfl MN rfl (jY jr rfl rfl) uy (fun ND GC qa=>?_);change ND.heap[bc]? =some (.cells #[p,.int .i64 n,l0,.int .i64 (eC l i),.int .i64 cX] 216 (0,0))at GC;replace jr:=jr.le qa.le;refine ad (aj (ah (ae rfl rfl (ae rfl rfl (aQ rfl ⟨_,rfl⟩ rfl (aS bA rfl rfl jE (by decide) rfl rfl (aE aW rfl rfl rfl (by assumption) rfl ?_)))))));refine dq (M:=M1) aW gu rfl rfl rfl (jr) (aq _ _) (by first|omega|decide) (fun Rb GD Bh MO=>?_);obtain rfl:(d,ps)=GD:=eF (bM (Bh.symm.trans (by simpa using hh)));refine aH (M:=M1) (A:=RT.po) (B:=RT.int .i64) bK rfl rfl I3 (by decide) (G6) rfl rfl (by decide) (by assumption) (by repeat (first|exact aq _ _|refine aT (aY (by assumption)) ?_)) (fun Ju EV=>?_);refine cc (M:=M1) ar rfl rfl (by assumption) (by repeat (first|exact aq _ _|refine aT (aY (by assumption)) ?_)) (fun tA=>?_);refine bz (v':= .int .i64 (d)) rfl ?_;replace tA: -9223372036854775808≤(d:Int)∧d≤9223372036854775807:=tA;refine aQ rfl ⟨_,rfl⟩ rfl (aS bA rfl rfl I3 (by decide) rfl rfl ?_);refine bQ (M:=M1) I3 rfl rfl GC rfl rfl uy (fun JU GF A5=>?_);change JU.heap[bc]? =some (.cells #[p,.int .i64 n,l0,.int .i64 d,.int .i64 cX] 216 (0,0))at GF;replace jr:=jr.le A5.le;refine ad (aj (ah (ae rfl rfl (aQ rfl ⟨_,rfl⟩ rfl (aS bA rfl rfl I3 (by decide) rfl rfl (aE ar rfl rfl rfl (by assumption) rfl (ai rfl rfl (ad (aJ ?_)))))))))
          have he:pU l i to=(idx l to:Int):=by unfold pU;rw[if_neg c1]
          rw[he];have S7:=((s1.cb (fun _ h=>h.elim) xI).trans ((XT.trans qa (fun _ _ h=>h)).trans A5 (fun _ _ h=>h)) (fun _ _ h=>h));exact aO rfl rfl ⟨by rw[gQ hx];rfl,S7.back,p,l0,n,cX,NT,by rw[gQ hx];exact GF,(hp.le (by decide) S7.back.le),jr.le (Le.close hM S7),by omega,by omega,fun h=>by omega,fun _ h=>by omega⟩
    ·apply T.draw (M:=M1) mixed [b8.eq _,b8.eq _,b8.eq _,b8.eq _,b8.eq _,b8.eq _,b8.eq _,b8.eq (.bool false),b8.eq undef,b8.eq undef,b8.eq undef,b8.eq undef,b8.eq undef,b8.eq undef,b8.eq undef,b8.eq undef,b8.eq _]
     ·rfl
     ·refine aK ?_ ?_
      ·intro wD E sD;refine ae rfl rfl ?_;exact ad ⟨rfl,rfl,_,rfl,rfl,an _ _⟩
      refine aK ?_ ?_
      ·intro wD E sD;refine ae rfl rfl ?_;exact ad ⟨rfl,rfl,_,rfl,rfl,an _ _⟩
      refine aK ?_ ?_
      ·intro wD E sD;refine aw (aQ rfl ⟨_,rfl⟩ rfl ?_);exact ad ⟨rfl,rfl,_,rfl,rfl,an _ _⟩
      refine aK ?_ ?_
      ·intro wD E sD;refine aw (aS bA rfl rfl ov (by decide) rfl rfl ?_);exact ad ⟨rfl,rfl,_,rfl,rfl,an _ _⟩
      refine aK ?_ ?_
      ·intro wD E sD;refine aw (aE cH rfl rfl rfl (bV sD (by assumption)) rfl ?_);exact ad ⟨rfl,rfl,_,rfl,rfl,an _ _⟩
      refine aK ?_ ?_
      ·intro wD E sD;refine aw ?_;refine aP rfl rfl IL (kx (M:=M1) (DI.le (by decide) sD.le)) (fun r wc h=>?_);obtain⟨rfl,rfl⟩:=h;exact ad ⟨rfl,rfl,_,rfl,congrArg (fun n:Nat=>Value.int .i64 n) G1,an _ _⟩
      refine aK ?_ ?_
      ·intro wD E sD;refine aw (aw (cd rfl rfl rfl ?_));exact ad ⟨rfl,rfl,_,rfl,rfl,an _ _⟩
      refine aK ?_ ?_
      ·intro wD E sD;refine aw (aw (ae rfl rfl ?_));refine ad ⟨rfl,rfl,_,rfl,?_,an _ _⟩;exact congrArg Value.bool (decide_eq_false Q8)
      refine aK ?_ ?_
      ·intro wD E sD;refine aw ?_;exact ao rfl rfl rfl rfl (ad ⟨rfl,rfl,_,rfl,rfl,an _ _⟩)
      refine aK ?_ ?_
      ·intro wD E sD;refine aw (aw ?_);exact ao rfl rfl rfl rfl (ad ⟨rfl,rfl,_,rfl,rfl,an _ _⟩)
      refine aK ?_ ?_
      ·intro wD E sD;refine aw (aw ?_);exact ao rfl rfl rfl rfl (ad ⟨rfl,rfl,_,rfl,rfl,an _ _⟩)
      refine aK ?_ ?_
      ·intro wD E sD;refine aw (aw ?_);exact ao rfl rfl rfl rfl (ad ⟨rfl,rfl,_,rfl,rfl,an _ _⟩)
      refine aK ?_ ?_
      ·intro wD E sD;refine aw ?_;exact ao rfl rfl rfl rfl (ad ⟨rfl,rfl,_,rfl,rfl,an _ _⟩)
      refine aK ?_ ?_
      ·intro wD E sD;refine aw (aw (aw (aw ?_)));exact ao rfl rfl rfl rfl (ad ⟨rfl,rfl,_,rfl,rfl,an _ _⟩)
      refine aK ?_ ?_
      ·intro wD E sD;refine aw ?_;exact ao rfl rfl rfl rfl (ad ⟨rfl,rfl,_,rfl,rfl,an _ _⟩)
      refine aK ?_ ?_
      ·intro wD E sD;refine aw (aw (aw ?_));exact ao rfl rfl rfl rfl (ad ⟨rfl,rfl,_,rfl,rfl,an _ _⟩)
      refine aK ?_ ?_
      ·intro wD E sD;refine aw (aw (ax rfl rfl rfl ?_));exact ad ⟨rfl,rfl,_,rfl,rfl,an _ _⟩
      exact bX.nil
     ·intro Zr vD;refine aw (aw (aw (aw (aw (aw (aw (aw (aw (aw (aw (aw ?_)))))))))));refine aw (aw (aw (aw (aw ?_))));replace S4:=S4.ay vD;replace Iv:=vD.aI Iv;replace NU:=vD.aI NU;replace DI:=DI.le (by decide) vD.le;have Mv:=S4.lt rb;refine hY rfl (cN (aj (aj (ah (ae rfl rfl (ae rfl rfl (aQ rfl ⟨_,rfl⟩ rfl (aS bA rfl rfl ov (by decide) rfl rfl (aE cH rfl rfl rfl (by assumption) rfl ?_)))))))));refine aP rfl rfl IL (kx (M:=M1) DI) (fun r wc h=>?_);obtain⟨rfl,rfl⟩:=h;refine bz (v':= .int .i64 (((l.length+7)/8:Nat):Int)) (congrArg (fun n:Nat=>Value.int .i64 n) G1) (Rg.zS rfl rfl rfl (ad ?_));refine bI rfl (fun c6=>?_) (fun c6=>?_)
      ·refine aj (ah (ae rfl rfl (ae rfl rfl (aQ rfl ⟨_,rfl⟩ rfl (aS bA rfl rfl jE (by decide) rfl rfl ?_)))));refine bQ (M:=M1) jE rfl rfl Iv rfl rfl uy (fun w7 hb7 s7=>?_);change w7.heap[bc]? =some (.cells #[p,.int .i64 k,.slice none 0 0,.int .i64 (eC l i),.int .i64 Dz] 216 (0,0))at hb7;refine aQ rfl ⟨_,rfl⟩ rfl (aS bA rfl rfl I3 (by decide) rfl rfl ?_);refine bQ (M:=M1) I3 rfl rfl hb7 rfl rfl uy (fun w8 hb8 s8=>?_);change w8.heap[bc]? =some (.cells #[p,.int .i64 k,.slice none 0 0,.int .i64 2147483648,.int .i64 Dz] 216 (0,0))at hb8;refine ad (aj (ah (ai rfl rfl (ad (aJ ?_)))));have he:pU l i to=(l.length:Int):=by unfold pU;rw[if_neg c1,Hx hm (n:=8*n) (by omega) Ef]
       rw[he];have S7:=((s1.ay S4).cb (fun _ h=>h.elim) xI).trans ((s7.trans s8 (fun _ _ h=>h))) (fun _ _ h=>h);exact aO rfl rfl ⟨by rw[pV (Int.le_refl _)],S7.back,p,.slice none 0 0,k,Dz,NT,by rw[pV (Int.le_refl _)];exact hb8,(hp.le (by decide) S7.back.le),by rw[Bg (Int.le_refl _)];exact jN,by omega,hk,fun h=>by omega,fun _ h=>by omega⟩
      ·exfalso;omega
theorem vL {M:aA} {w0:World} {bc:Nat} {l:List Po} {i:Int} (h:Cu 216 l i M w0 bc) (hM:Lt M w0) (hm:dQ (-1) l=true) (qW:∀p∈l,p.2.length≤1099511627776) (zP:(dx (-1) l).length≤1099511627776) (Hm:l.length≤1099511627776):
  Spec Tryz.prog 96 #[.pointer (some ⟨bc,0,none⟩)] w0 (fun v' w'=>v'= .int .i64 (eC l (pz l i))∧Step M w0 M w' (fun b=>b=bc)∧Cu 216 l (pz l i) M w' bc):=by
 obtain⟨p,u,k,Dz,NT,hb,hp,hu,hi,hk,Ox,pG⟩:=id h;have hdr:=uT hm i;refine aX (args:=[_]) (fn:=Tryz.f96) Tryz.func96 rfl (n:=11) Tryz.ntmps96 (aj (ah (ai rfl rfl (ad (aj (ah (ae rfl rfl (ae rfl rfl (aQ rfl ⟨_,rfl⟩ rfl (aS bA rfl rfl I3 (by decide) rfl rfl (aE ar rfl rfl rfl (by assumption) rfl ?_)))))))))));refine bB rfl rfl rfl (by omega) (Rg.min2 rfl rfl rfl ?_);have hn:pU l i (min (eC l i+1) 2147483648)=pz l i:=GB hm hi;refine aP rfl rfl XH (xx (to:=min (eC l i+1) 2147483648) h hM hm qW zP Hm (by omega)) (fun r w1 h1=>?_);rw[hn]at h1;obtain⟨rfl,s1,h1⟩:=h1;refine ai rfl rfl (ad (aJ ?_));exact aO rfl rfl ⟨rfl,s1,h1⟩
end Go.K
namespace Go.K
open Go.Proofs
namespace TKErsA
theorem MJ:TI Tryz.prog 123 (.pointer none) 1 8:=by unfold TI;kernel_rfl
theorem MK:TI Tryz.prog 216 (.agg #[(.pointer none),(.int .i64 0),(.slice none 0 0),(.int .i64 0),(.int .i64 0)]) 5 56:=by unfold TI;kernel_rfl
theorem ML:placesOf Tryz.prog 216=[(0,1),(1,1),(2,1),(3,1),(4,1)].map some:=by kernel_rfl
theorem E73:Enters Tryz.prog 73:=enters Tryz.func73 rfl (by decide)
theorem Iz:Enters Tryz.prog 126:=enters Tryz.func126 rfl (by decide)
theorem XU:Enters Tryz.prog 140:=enters Tryz.func140 rfl (by decide)
end TKErsA
open TKErsA
set_option maxRecDepth 10000
abbrev Er:=Fd×Int
abbrev RT.er:RT Er:=RT.pair RT.fd (RT.int .i64)
theorem er0:Part RT.er RT.fd (fun p=>p.1) 0:=kf _ _
theorem XV:Part RT.er (RT.int .i64) (fun p=>p.2) 2:=fI _ _
theorem GG {M:aA} {w:World} {p:Er} {v:Value} (h:RT.er.V M w p v):v= .agg #[.string ⟨p.1.1.toArray⟩,.string ⟨p.1.2.toArray⟩,.int .i64 p.2]∧(p.1.1.length≤140737488355328∧p.1.2.length≤140737488355328)∧ -9223372036854775808≤p.2∧p.2≤9223372036854775807:=by
 obtain⟨vs,⟨va,vb,rfl,⟨vc,vd,rfl,⟨rfl,h1⟩,⟨rfl,h2⟩⟩,⟨rfl,h3⟩⟩,rfl⟩:=h;exact⟨rfl,⟨h1,h2⟩,h3⟩
theorem JZ {M:aA} {w:World} {p:Er} (h1:p.1.1.length≤140737488355328∧p.1.2.length≤140737488355328) (h2: -9223372036854775808≤p.2∧p.2≤9223372036854775807):RT.er.V M w p (.agg #[.string ⟨p.1.1.toArray⟩,.string ⟨p.1.2.toArray⟩,.int .i64 p.2]):=
 ⟨[.string ⟨p.1.1.toArray⟩,.string ⟨p.1.2.toArray⟩,.int .i64 p.2],⟨[.string ⟨p.1.1.toArray⟩,.string ⟨p.1.2.toArray⟩],[.int .i64 p.2],rfl,⟨_,_,rfl,⟨rfl,h1.1⟩,⟨rfl,h1.2⟩⟩,rfl,h2⟩,rfl⟩
theorem zx {M:aA} (w0:World) (hM:Lt M w0):
  Spec Tryz.prog 140 #[.pointer none] w0 (fun v' w'=>∃bc,v'= .pointer (some ⟨bc,0,none⟩)∧w0.heap.size≤bc∧Step M w0 (ins M bc) w' aC∧Cu 216 [] (-1) (ins M bc) w' bc):=by
 refine aX (args:=[_]) (fn:=Tryz.f140) Tryz.func140 rfl (n:=12) Tryz.ntmps140 (aj (ah (ai rfl rfl (ad (aj (aj (ah (ae rfl rfl (Rg.sc cH rfl rfl rfl (ad (T.SI rfl (rfl) ?_)))))))))));refine ah ?_;refine aP rfl rfl Iz (qi (l:=[]) hM jN (fun p h=>by cases h) (by decide) (by decide) (by decide)) (fun r2 w2 hc=>?_);obtain⟨s2,fv,_⟩:=hc;obtain⟨p,rfl,hp⟩:=fv rfl;obtain⟨q,rfl⟩:=hp.iZ;refine ae rfl rfl (bP rfl rfl rfl (bP rfl rfl rfl (ai rfl rfl (ad (aj (ah (ae rfl rfl (dZ (places:=[(0,1),(1,1),(2,1),(3,1),(4,1)]) bA MK ML rfl ⟨_,_,rfl,rfl,_,_,rfl,rfl,_,_,rfl,rfl,rfl⟩ (out:=[_,_,.slice none 0 0,_,.int .i64 0]) ⟨0,[_],rfl,rfl,by simp[Value.cells],1,[_],rfl,rfl,by simp[Value.cells],3,[_],rfl,rfl,by simp[Value.cells],rfl⟩ ?_))))))));refine oN M rfl rfl (fun bc w3 h1 G5 hS s3=>?_);refine ai rfl rfl (ad (aJ ?_));exact aO rfl rfl ⟨bc,rfl,by have:=s2.size;omega,s2.ay s3,.pointer (some q),.slice none 0 0,-1,0,.inl rfl,hS,hp.le (by decide) s3.le,jN,by decide,by decide,fun _=>rfl,fun h=>by omega⟩
theorem zy {M:aA} {v:Value} {l:List Po} (w0:World) (hM:Lt M w0) (h:ch RT.li M w0 v (gJ l)∨(v= .pointer none∧l=[])):Spec Tryz.prog 140 #[v] w0 (fun v' w'=>∃bc,v'= .pointer (some ⟨bc,0,none⟩)∧w0.heap.size≤bc∧Step M w0 (ins M bc) w' aC∧Cu 216 l (-1) (ins M bc) w' bc):=by
 rcases h with h|⟨rfl,rfl⟩
 ·obtain⟨q,rfl⟩:=h.iZ;exact Dh h
 ·exact zx w0 hM
theorem xz {M:aA} {s:Se} {ls:List (List Po)} {t:Fd} {v0:Value} (w0:World) (hM:Lt M w0) (hs:ch RT.se M w0 v0 s) (xv:xi s.2.2.1) (DD:s.2.2.2=ls.map gJ) (IN:s.2.2.1.length=ls.length) (h1:t.1.length≤140737488355328) (h2:t.2.length≤140737488355328):
  Spec Tryz.prog 95 #[v0,kv t] w0 (fun v' w'=>∃bc,v'= .pointer (some ⟨bc,0,none⟩)∧w0.heap.size≤bc∧Step M w0 (ins M bc) w' aC∧Cu 216 (lu s.2.2.1 ls (dd t)) (-1) (ins M bc) w' bc):=by
 refine aX (args:=[_,_]) (fn:=Tryz.f95) Tryz.func95 rfl (n:=19) Tryz.ntmps95 ?_;have S:Step M w0 M w0 aC:=(an _ _).cb (fun _ h=>h.elim) (fun _ h=>h.elim);refine aj (ah ?_);refine kd (A:=RT.fd) rfl rfl hM (xb h1 h2) rfl (fun u0 w1 cz s0 _=>?_);replace hs:=hs.le (by decide) s0.le;replace hM:=s0.lt hM;have:=S.size;replace S:=S.ay s0;refine ai rfl rfl (ad (aj ?_));apply T.draw (M:=M) mixed [b8.eq v0,b8.eq v0,b8.ptr ((RT.di).ptr) s.2.2,b8.ptr RT.di s.2.2,b8.eq (kv t),b8.eq (sv (dd t)),(b8.mk' (fun v w=>∃p,v= .tuple #[p,.bool (decide (dd t∈s.2.2.1))]∧qT s.2.2 (dd t) M p w) (fun⟨p,h1,h2⟩ s=>⟨p,h1,h2.step s⟩)),(b8.mk' (fun v w=>∃p,v= .tuple #[p,.bool (decide (dd t∈s.2.2.1))]∧qT s.2.2 (dd t) M p w) (fun⟨p,h1,h2⟩ s=>⟨p,h1,h2.step s⟩)),(b8.mk' (fun v w=>qT s.2.2 (dd t) M v w) (fun h s=>h.step s)),b8.eq (.bool (decide (dd t∈s.2.2.1))),(b8.mk' (fun v w=>qT s.2.2 (dd t) M v w) (fun h s=>h.step s)),b8.eq (.bool (decide (dd t∈s.2.2.1)))]
 ·rfl
 ·refine aK ?_ ?_
  ·intro wD E sD;refine ae rfl rfl ?_;exact ad ⟨rfl,rfl,_,rfl,rfl,an _ _⟩
  refine aK ?_ ?_
  ·intro wD E sD;refine aw (aQ rfl hs.iZ rfl ?_);exact ad ⟨rfl,rfl,_,rfl,rfl,an _ _⟩
  refine aK ?_ ?_
  ·intro wD E sD;refine aw ?_;refine aH (M:=M) (A:=RT.se) (B:=(RT.di).ptr) Tryz.underlying125 rfl rfl MJ (by decide) se2 rfl rfl (by decide) hs sD.le (fun uf xr=>?_);exact ad ⟨rfl,rfl,_,rfl,xr,an _ _⟩
  refine aK ?_ ?_
  ·intro wD E sD;intro v2 ny;refine cf (M:=M) Tryz.underlying123 rfl rfl rfl rfl rfl (show ch ((RT.di).ptr) M wD v2 s.2.2 from ny) (aq _ _) (fun vd hvd=>?_);exact ad ⟨rfl,rfl,_,rfl,B7.1 hvd,an _ _⟩
  refine aK ?_ ?_
  ·intro wD E sD;refine cC (M:=M) (A:=RT.fd) b9 rfl qE (by decide) rfl rfl rfl cz sD.le (fun vt DH=>?_);obtain rfl:=kI DH;exact ad ⟨rfl,rfl,_,rfl,rfl,an _ _⟩
  refine aK ?_ ?_
  ·intro wD E sD;refine aw ?_;refine aP rfl rfl R3 (Dg (t:=t) _ (sD.lt hM) h1 h2) (fun r5 w5 hc=>?_);obtain⟨rfl,s5⟩:=hc;exact ad ⟨rfl,rfl,_,rfl,rfl,s5⟩
  refine aK ?_ ?_
  ·intro wD E sD;intro v3 ug;refine aw (aw ?_);refine aP rfl rfl E73 (find_spec (k:=dd t) _ (sD.lt hM) (show ch RT.di M wD v3 s.2.2 from ug) xv (by rw[DD,db];exact IN)) (fun r6 w6 hc=>?_);obtain⟨s6,hr⟩:=hc;refine ad ⟨rfl,rfl,_,rfl,?_,s6⟩;rcases hr with⟨j,p,tl,rfl,h3,h4,h5⟩|⟨rfl,h3⟩
   ·exact⟨p,by rw[decide_eq_true (aL h3)],.inl ⟨j,tl,h3,h4,h5⟩⟩
   ·exact⟨_,by rw[decide_eq_false h3],.inr ⟨rfl,h3⟩⟩
  refine aK ?_ ?_
  ·intro wD E sD;intro v6 nR;refine ae rfl rfl ?_;exact ad ⟨rfl,rfl,_,rfl,nR,an _ _⟩
  refine aK ?_ ?_
  ·intro wD E sD;intro v7 AE;obtain⟨p,rfl,hp⟩:=AE;refine bP rfl rfl rfl ?_;exact ad ⟨rfl,rfl,_,rfl,hp,an _ _⟩
  refine aK ?_ ?_
  ·intro wD E sD;intro v7 AE;obtain⟨p,rfl,hp⟩:=AE;refine bP rfl rfl rfl ?_;exact ad ⟨rfl,rfl,_,rfl,rfl,an _ _⟩
  refine aK ?_ ?_
  ·intro wD E sD;intro v8 Ca;intro v6 nR;refine aw (aw ?_);intro v2 ny;intro v3 ug;refine aw (aw ?_);intro v6 nR;intro v7 AE;intro v8 Ca;refine ai rfl rfl ?_;exact ad ⟨rfl,rfl,_,rfl,Ca,an _ _⟩
  refine aK ?_ ?_
  ·intro wD E sD;refine aw ?_;intro v10 Ms;refine aw (aw ?_);intro v2 ny;intro v3 ug;refine aw (aw ?_);intro v6 nR;intro v7 AE;intro v8 Ca;refine aw ?_;intro v10 Ms;refine ai rfl rfl ?_;exact ad ⟨rfl,rfl,_,rfl,rfl,an _ _⟩
  exact bX.nil
 ·intro DA jd;refine aw (aw ?_);intro IH qS;intro P0 FC;refine aw (aw ?_);intro aeN aaN;intro Wr Qy;intro aeO aaO;refine aw ?_;intro Rc Bi;refine aw ?_;replace Bi:qT s.2.2 (dd t) M Rc DA:=Bi;have hF:=Bi;replace hM:=jd.lt hM;replace S:=S.ay jd;replace hs:=hs.le (by decide) jd.le;replace cz:=cz.le (by decide) jd.le;refine aj (ah (ae rfl rfl ?_))
  refine aP rfl rfl XU (zy (l:=lu s.2.2.1 ls (dd t)) _ hM (by
   rcases hF with⟨j,tl,Nu,pQ,Jc⟩|⟨h,iI⟩
   ·rw[DD,ey]at pQ;obtain⟨l,Ot,rfl⟩:=Option.map_eq_some_iff.1 pQ;exact .inl (by rw[GA xv.nodup Nu Ot];exact Jc)
   ·exact .inr ⟨h,zw iI⟩)) (fun r2 w2 hc=>?_)
  obtain⟨bc,rfl,YS,s2,hcu⟩:=hc;refine ai rfl rfl (ad (aJ ?_));exact aO rfl rfl ⟨bc,rfl,by have:=S.size;omega,S.ay s2,hcu⟩
end Go.K

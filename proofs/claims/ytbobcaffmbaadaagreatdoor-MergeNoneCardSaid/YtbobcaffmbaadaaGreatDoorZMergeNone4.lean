/- What the law 'MergeNone' needs of walks and plain Lean, part 4: nothing is assumed beyond the texts that it imports. -/
import Derived.KernelRfl
import Derived.Laws.StructEq
import Derived.Test.YtbobcaffmbaadaaGreatDoorProg
import Derived.Test.YtbobcaffmbaadaaGreatDoorZMergeNone1
import Derived.Test.YtbobcaffmbaadaaGreatDoorZMergeNone2
import Derived.Test.YtbobcaffmbaadaaGreatDoorZMergeNone3
set_option linter.unusedVariables false
set_option linter.unusedSimpArgs false
namespace Go.K
open Go.Proofs
namespace TKBldE
theorem xy:TI Tryz.prog 80 (.slice none 0 0) 1 24:=by unfold TI;kernel_rfl
theorem GH:TI Tryz.prog 151 (.map none) 1 8:=by unfold TI;kernel_rfl
theorem Qt:Enters Tryz.prog 51:=enters Tryz.func51 rfl (by decide)
theorem E90:Enters Tryz.prog 90:=enters Tryz.func90 rfl (by decide)
theorem E91:Enters Tryz.prog 91:=enters Tryz.func91 rfl (by decide)
end TKBldE
open TKBldE
set_option maxRecDepth 10000
theorem fB.H5 {P:Program} {kt:TypeId} {w:World} {b clock:Nat} {es:List MapEntry} (hk:P.underlying kt=some .string) (h:fB P kt w b es clock):∃ks:List (List UInt8),es.map (·.key)=ks.map sv∧ks.Nodup:=by
 have key:∀es:List MapEntry,(∀e∈es,∃l,keyOf P kt e.key=some l)→∃ks:List (List UInt8),es.map (·.key)=ks.map sv:=by
  intro es
  induction es with
  |nil=>exact fun _=>⟨[],rfl⟩
  |cons e es ih=>
   intro h;obtain⟨ks,h1⟩:=ih fun x hx=>h x (b9 _ hx)
   obtain⟨l,hl⟩:=h e (bP ..);obtain⟨x,h3,_,h4⟩:=Maps.keyOf_str hk hl;exact⟨x::ks,by simp only[eQ,h1,h3]⟩
 obtain⟨ks,h1⟩:=key es h.ok;refine⟨ks,h1,?_⟩;have h3:=cz.2 h.keys;rw[h1]at h3;exact(cz.1 h3).imp fun h e=>h (by rw[e])
theorem Ej {M:aD} {w:World}:∀{l:List (List UInt8)},(∀x∈l,x.length≤140737488355328)→dX RT.str M w l (l.map Go.Proofs.encStr)
 |[],_=>rfl
 |x::l,h=>⟨[.string ⟨x.toArray⟩],_,rfl,⟨rfl,h x (bP ..)⟩,Ej fun y hy=>h y (b9 _ hy)⟩
theorem Nb (M:aD) (w:World) (M':aD) (w':World) (x:List UInt8) (vs:List Value) (h:RT.str.R M w x vs):RT.str.R M' w' x vs:=h
theorem wZ {L:List En} (hF:∀x∈L,kS x.1):∀k∈iy L,k.length≤43:=fun k hk=>by
 obtain⟨e,he,h1⟩:=uW.1 hk;obtain⟨t,ht,rfl⟩:=ca.1 h1;have:=(hF e he).term ht;unfold gE;simp;omega
theorem oB {L:List En} (hF:∀x∈L,kS x.1):(iy L).length≤500*L.length:=by
 induction L with
 |nil=>simp[iy]
 |cons e L ih=>
  have h1:=ih fun x hx=>hF x (b9 _ hx)
  have h2:=Bh (hF e (bP ..));show((db (pQ e)).map gE++iy L).length≤_;rw[bj,aL,cM];have h2:(db (pQ e)).length≤500:=h2;omega
theorem GL {Z M:aD} {B b:Nat} {L:List En} {words last:Int} (w0:World) (hM:Lt M w0) (hb:oA Z M w0 B b L words last) (hF:∀x∈L,kS x.1) (hLn:L.length≤1000000):
  Spec Tryz.prog 41 #[.pointer (some ⟨b,0,none⟩)] w0 (fun v w=>(RT.str.sl).V M w (keysOf L) v∧Step M w0 M w aC):=by
 obtain⟨mb,vl,es,clock,gb,ef,eX,hB,H0,ho,hW,hR,zl⟩:=hb;obtain⟨ks,Qb,oJ⟩:=hW.H5 aJ
 have eH:∀x,x∈ks↔x∈iy L:=fun x=>by
  rw[←hR.k x];constructor
  ·intro hx;have:sv x∈es.map (·.key):=by rw[Qb];exact gX hx
   obtain⟨e,he,h⟩:=ca.1 this;exact⟨e,he,h⟩
  ·rintro⟨e,he,h⟩;have:sv x∈ks.map sv:=by rw[←Qb,←h];exact gX he
   obtain⟨y,hy,h1⟩:=ca.1 this;rw[←Cd h1];exact hy
 have GM:ks.length≤500000000:=by
  have h1:=oJ.length_le_of_subset (l₂:=iy L) (fun x hx=>(eH x).1 hx);have h2:=oB hF;omega
 have hen:es.length=ks.length:=by have:=congrArg List.length Qb;simpa using this
 refine bc (args:=[_]) (fn:=Tryz.f41) Tryz.func41 rfl (n:=9) Tryz.ntmps41 ?_;have S:Step M w0 M w0 aC:=(aw _ _).cA (fun _ h=>h.elim) (fun _ h=>h.elim);refine aj (ae (ah rfl rfl (ab (aj (ae (ad rfl rfl (bS rfl ⟨_,rfl⟩ rfl (bG (o':=1) dQ rfl rfl GH (by decide) rfl rfl (aM iG rfl rfl rfl gb rfl (aV (v':= .map (some mb)) rfl ?_))))))))));refine aX rfl rfl E91 (GD _ _) (fun r w1 hc=>?_);obtain⟨rfl,hw1⟩:=hc;have s1:Step M w0 M w1 aC:=by rw[hw1];exact cQ _ w0 _
 have Mu:=Aw hw1;have:=ak gb;replace ef:=(s1.mem _ this).2 ef;replace gb:=s1.aK gb;replace eX:=(s1.mem _ (ak hW.at_)).2 eX;replace hW:=hW.aP s1;replace hM:=s1.lt hM;have:=S.size;replace S:=S.aB s1;obtain⟨m,hO,Ek,ql⟩:=hW.afc aJ eX (by unfold maxLen;omega) ks Qb;refine aX rfl rfl E90 (Cg hO Mu (by omega)) (fun r2 w2 hc=>?_);obtain⟨⟨ss,hss,pX,_⟩,s2⟩:=hc;have Tx:ss.Perm ks:=hss.trans Ek;have hmp:=jg ss fun x y=>decide (x≤y)
 have pN:(ss.mergeSort fun x y=>decide (x≤y))=keysOf L:=UT (Jq (Tx.nodup_iff.2 oJ)) (kZ L) fun x=>by rw[hmp.mem_iff,Tx.mem_iff,eH,iS]
 have hlen:ss.length=(keysOf L).length:=by rw[←pN,List.length_mergeSort]
 rw[pN,hlen]at pX;have afP:∀x∈keysOf L,x.length≤140737488355328:=fun x hx=>by have:=wZ hF x (iS.1 hx);omega
 have vr:Own RT.str 9 (mV r2) w2 w1.heap.size r2 (keysOf L):=⟨⟨_,pX,Ej afP⟩,fun b hb=>hb⟩;have Fu:(RT.str.sl).V M w2 (keysOf L) r2:=vr.tell Nb (fun b hb h=>by have:=(vr.base b hb).1;have:=hM b h;omega) (by have:=Tx.length_eq;omega);have:=ak gb;replace ef:=(s2.mem _ this).2 ef;replace gb:=s2.aK gb;replace eX:=(s2.mem _ (ak hW.at_)).2 eX;replace hW:=hW.aP s2;replace hM:=s2.lt hM;have:=S.size;replace S:=S.aB s2;refine ah rfl rfl (ab (aO ?_));exact aS rfl rfl ⟨Fu,S⟩
theorem GN {Z M:aD} {B b:Nat} {L:List En} {words last:Int} {k:List UInt8} (w0:World) (hM:Lt M w0) (hb:oA Z M w0 B b L words last) (hF:∀x∈L,kS x.1) (hLn:L.length≤1000000) (FK:k.length≤140737488355328):
  Spec Tryz.prog 42 #[.pointer (some ⟨b,0,none⟩),sv k] w0 (fun v w=>(RT.po.sl).V M w (pk L k) v∧Step M w0 M w aC):=by
 have jM:=hM;obtain⟨mb,vl,es,clock,gb,ef,eX,hB,H0,ho,hW,hR,zl⟩:=hb;obtain⟨kl,FO⟩:=MG k FK;obtain⟨tz,Vi⟩:=qF k L 0 hF;replace tz:(pk L k).length≤L.length:=tz;replace Vi:∀p∈pk L k,_:=Vi;refine bc (args:=[_,_]) (fn:=Tryz.f42) Tryz.func42 rfl (n:=30) Tryz.ntmps42 ?_;have S:Step M w0 M w0 aC:=(aw _ _).cA (fun _ h=>h.elim) (fun _ h=>h.elim);refine aj (ae (ah rfl rfl (ab (aj (ae (ah rfl rfl (ab (aj (aj (ae (ad rfl rfl ?_)))))))))));refine bS rfl ⟨_,rfl⟩ rfl (bG (o':=1) dQ rfl rfl GH (by decide) rfl rfl (aM iG rfl rfl rfl gb rfl (aV (v':= .map (some mb)) rfl (ad rfl rfl ?_))));refine Rg.tZ iG uv xy rfl rfl rfl FO hW (fun Sd lP=>?_);have si:=hR.o _ _ lP;have Nc:∀c,Sd.ownBlock=some c→c<w0.heap.size:=fun c hc=>(si.base c hc).2
 clear hR hW ho;refine fM br rfl si rfl (ad rfl rfl (ab (aZ ?_)));refine de (σ:=Nat×Value) (fun q=>[(5,q.2),(13,Sd),(14,.int .i64 ((pk L k).length:Int)),(15,.int .i64 (q.1:Int))]) (fun q w=>∃M',Lt M' w∧Step M w0 M' w aC∧Own RT.po 83 M' w w0.heap.size q.2 ((pk L k).take q.1)∧Own RT.po 83 M' w B Sd (pk L k)∧q.1≤(pk L k).length) (fun q=>(pk L k).length-q.1) (0,.slice none 0 0) (.cons rfl (.cons rfl (.cons rfl (.cons rfl .nil)))) ?_ ?_
 ·exact⟨M,hM,S,dF _ _ _ _ _,si,bE _⟩
 ·clear hM S si;rintro⟨i,u⟩ w ⟨M1,hM,S,hu,si,hi⟩;dsimp only at hu hi ⊢;refine aj (ae (cj rfl rfl rfl (ab (aj ?_))));refine bN rfl (fun c3=>?_) (fun c3=>?_)
  ·refine aU (aj (aZ (aj (ae ?_))));refine Rg.afp br lM (by decide) rfl rfl rfl si (by omega) (fun u4 p wO Ft=>?_);rw[ay]at wO;have hp:=Vi p (aA wO);refine Rg.MF (A:=RT.po) bI rfl lM rfl rfl rfl Ft (fun v4 qf=>?_);refine xG (A:=RT.po) (M:=M1) lM rfl rfl rfl rfl rfl (by assumption) (aq _ _) hM (fun Yj PO oh my afQ=>?_);replace hu:=hu.aP my;replace si:=si.aP my;replace hM:=my.lt hM;have:=S.size;replace S:=S.aB my;refine ab ?_;apply T.pJ 5 [0,1,2] 3 aC mixed rfl rfl rfl rfl;intro wD5 sA5;have Qu:=sA5 M1;replace oh:=oh.le (by decide) Qu.le;replace hu:=hu.aP Qu;replace si:=si.aP Qu;replace hM:=Qu.lt hM;have:=S.size;replace S:=S.aB Qu;refine ad rfl rfl ?_;refine ab ⟨rfl,rfl,rfl,?_⟩;refine aN (M:=M1) (A:=RT.po) (B:=RT.int .i64) bI rfl rfl I3 (by decide) (O0) rfl rfl (by decide) (by assumption) (by repeat (first|exact aq _ _|refine a8 (bD (by assumption)) ?_)) (fun YN iZ=>?_);refine ab ⟨rfl,rfl,rfl,?_⟩;refine cb (M:=M1) ax rfl rfl (by assumption) (by repeat (first|exact aq _ _|refine a8 (bD (by assumption)) ?_)) (fun Zr=>?_);refine ab ⟨rfl,rfl,rfl,?_⟩;refine aN (M:=M1) (A:=RT.po) (B:=(RT.int .i64).sl) bI rfl rfl jL (by decide) (TO) rfl rfl (by decide) (by assumption) (by repeat (first|exact aq _ _|refine a8 (bD (by assumption)) ?_)) (fun aes HO=>?_);refine ab ⟨rfl,rfl,rfl,?_⟩;refine bT (M:=M1) an rfl rfl rfl rfl rfl (by assumption) (by repeat (first|exact aq _ _|refine a8 (bD (by assumption)) ?_)) (fun apo Zs=>?_);refine ab ⟨rfl,rfl,rfl,?_⟩;refine ew ?_;obtain⟨bb,oo,cs,ee,fr,rfl,k9,_⟩:=iZ.float;refine⟨iB ⟨gP,⟨iz bI rfl I3 (by decide),⟨ey rfl k9 (fun h=>h),trivial⟩⟩⟩,?_⟩
   have kp:=jF aC wD5;refine aX rfl rfl Qt (qG hM Zs (by omega)) (fun v5 w5 hc=>?_);obtain⟨qg,s5⟩:=hc;replace oh:=oh.le (by decide) s5.le;replace hu:=hu.aP s5;replace si:=si.aP s5;replace hM:=s5.lt hM;have:=S.size;replace S:=S.aB s5;refine(fun(kp:eF _ _ _)=>ab ⟨rfl,rfl,fun _=>kp,?_⟩) (by first|exact kp|exact kp.rB (by assumption)|exact kp.goN (by assumption)|exact kp.go (by assumption) (fun _ _ h=>by first|exact h|exact h.elim));refine iC (places:=[(0,1),(1,1)]) bI lM X3 rfl ⟨_,_,rfl,rfl,_,_,rfl,rfl,rfl⟩ (out:=[_,_]) ⟨0,[_],rfl,rfl,by simp[Value.cells],1,[_],rfl,ju qg,by simp[Value.cells],rfl⟩ ?_;have CU:RT.po.V M1 _ p _:=eS (fV Zr) qg rfl rfl rfl rfl;refine(fun(kp:eF _ _ _)=>ab ⟨rfl,rfl,fun _=>kp,?_⟩) (by first|exact kp|exact kp.rB (by assumption)|exact kp.goN (by assumption)|exact kp.go (by assumption) (fun _ _ h=>by first|exact h|exact h.elim));refine ed (A:=RT.po) (hn:=by decide) (M:=M1) br lM (by decide) rfl rfl hM (CU) (.inl rfl) (fun apq apr Nd Jy=>?_);replace oh:=oh.le (by decide) Jy.le;replace qg:=qg.le Jy.le;replace hu:=hu.aP Jy;replace si:=si.aP Jy;replace hM:=Jy.lt hM;have:=S.size;replace S:=S.aB Jy;refine(fun(kp:eF _ _ _)=>ab ⟨rfl,rfl,fun _=>kp,?_⟩) (by first|exact kp|exact kp.rB (by assumption)|exact kp.goN (by assumption)|exact kp.go (by assumption) (fun _ _ h=>by first|exact h|exact h.elim));refine cZ (M:=M1) (base:=w0.heap.size) br lM rfl rfl rfl rfl hu Nd (aq _ _) (by simp;omega) (by simp;omega) (S.size) (fun afR afS aps Zt Jz=>?_);replace oh:=oh.le (by decide) Jz.le;replace qg:=qg.le Jz.le;replace Nd:=Nd.le Jz.le;replace si:=si.step Jz (fun c hc h=>by have:=Nc c hc;have:=(hu.base c h).1;omega);replace hM:=Jz.lt hM;have:=S.size;replace S:=S.dg Jz hu (aT _);replace hu:=Zt;refine ab ⟨rfl,rfl,fun h=>absurd rfl h,?_⟩
   refine ah rfl rfl ?_;refine ab ⟨rfl,rfl,fun h=>absurd rfl h,?_⟩;refine mN (ae (bF rfl rfl rfl (by omega) (ad rfl rfl (ab ?_))));refine⟨rfl,(i+1,afR),(.cons rfl (.cons rfl (.cons rfl (.cons rfl .nil)))),?_,?_⟩
   ·exact⟨afS,hM,S,by rw[bK,wO,cT];exact hu,si,by dsimp only;omega⟩
   ·dsimp only;omega
  ·refine cG (aj (ae (ad rfl rfl (ah rfl rfl (ab (aO ?_))))));rw[aW (by omega)]at hu;exact aS rfl rfl ⟨hu.close jM S (by omega),S.back⟩
end Go.K
namespace Go.K
open Go.Proofs
namespace TKBldF
theorem afT:TI Tryz.prog 198 (.agg #[(.slice none 0 0),(.slice none 0 0)]) 2 48:=by unfold TI;kernel_rfl
theorem afU:placesOf Tryz.prog 198=[(0,1),(1,1)].map some:=by kernel_rfl
theorem afV:Enters Tryz.prog 198:=enters Tryz.func198 rfl (by decide)
theorem afW:Enters Tryz.prog 199:=enters Tryz.func199 rfl (by decide)
theorem afX:Enters Tryz.prog 200:=enters Tryz.func200 rfl (by decide)
end TKBldF
open TKBldF
set_option maxRecDepth 10000
def El:Option (List UInt8)→List (List UInt8)→Bool
 |_,[]=>true
 |o,x::l=>(match o with|none=>true|some a=>decide (a<x))&&El (some x) l
theorem zd {l:List (List UInt8)} {k:Nat} {x:List UInt8} (h:l[k]? =some x) (o:Option (List UInt8)):El o (l.drop k)=((match o with|none=>true|some a=>decide (a<x))&&El (some x) (l.drop (k+1))):=by
 obtain⟨dR,he⟩:=ao.1 h;rw[dB dR,he];rfl
theorem Em {a:List UInt8}:∀{l:List (List UInt8)},D4 (a::l)→El (some a) l=true
 |[],_=>rfl
 |x::l,h=>by
  have h':=ek.1 h;simp only[El,bU,decide_eq_true_eq];exact⟨h'.1 x (bP ..),Em h'.2⟩
theorem Vj:∀{l:List (List UInt8)},D4 l→El none l=true
 |[],_=>rfl
 |x::l,h=>by simp only[El,eR];exact Em h
theorem JA {M:aD} {v:Value} {l:List Int} (w0:World) (hv:((RT.int .i64).sl).V M w0 l v):
  Spec Tryz.prog 143 #[v] w0 (fun v' w'=>v'= .bool (eo (-1) l)∧w'=w0):=by
 have hlen:=dy hv;refine bc (args:=[_]) (fn:=Tryz.f143) Tryz.func143 rfl (n:=28) Tryz.ntmps143 (aj (ae (ah rfl rfl (ab (aj (aj (ae (ad rfl rfl (bM an rfl hv rfl (ad rfl rfl (ab ?_)))))))))));refine aZ ?_;refine de (σ:=Nat×Int) (fun s=>[(0,v),(5,v),(6,.int .i64 l.length),(7,.int .i64 s.1)]) (fun s w=>w=w0∧s.1≤l.length∧eo (-1) l=eo s.2 (l.drop s.1)∧ -1≤s.2∧(s.1=0→s.2= -1)∧(0<s.1→l[s.1-1]? =some s.2)) (fun s=>l.length-s.1) (0,-1) (.cons rfl (.cons rfl (.cons rfl (.cons rfl .nil)))) ?_ ?_
 ·exact⟨rfl,bE _,rfl,by decide,fun _=>rfl,fun h=>absurd h (jt 0)⟩
 ·rintro⟨k,last⟩ w1 ⟨rfl,hk,hr,Xh,h0,h1⟩;dsimp only at hk hr Xh h0 h1 ⊢;refine aj (ae (cj rfl rfl rfl (ab (aj ?_))));refine bN rfl (fun c2=>?_) (fun c2=>?_)
  ·refine aU (aj (aZ (aj (ae (ad rfl rfl ?_)))));obtain⟨x,hx⟩:∃x,l[k]? =some x:=⟨_,ar (by omega)⟩;refine cy (M:=M) an I3 rfl rfl rfl hv (aq _ _) (by omega) (fun u a hg hu=>?_);obtain rfl:x=a:=dD (aH (hg.symm.trans (by simpa using hx)));refine cb (M:=M) ax rfl rfl hu (aq _ _) (fun inx=>?_);refine ah rfl rfl (ah rfl rfl (ab (aj (ae (ad rfl rfl (cj rfl rfl rfl (ad rfl rfl ?_)))))));refine aQ (g:=14) rfl (fun lQ=>?_) (fun lQ=>?_)
   ·refine au rfl rfl rfl rfl (au rfl rfl rfl rfl (au rfl rfl rfl rfl (cq rfl rfl rfl (cq rfl rfl rfl (cq rfl rfl rfl (cq rfl rfl rfl (cq rfl rfl rfl (cq rfl rfl rfl (cq rfl rfl rfl (au rfl rfl rfl rfl (aY rfl rfl rfl ?_)))))))))));refine ab (nQ rfl (aj (ae (ah rfl rfl (ab (aO ?_))))));refine aS rfl rfl ⟨congrArg Value.bool (dD ?_),rfl⟩;rw[hr,gA hx,decide_eq_false (show¬last<x by omega),kL]
   ·refine al rfl rfl (ad rfl rfl (al rfl rfl (jd rfl rfl rfl (al rfl rfl (ad rfl rfl ?_)))));refine aQ (g:=17) rfl (fun vI=>?_) (fun vI=>?_)
    ·refine al rfl rfl (ad rfl rfl (al rfl rfl (ad rfl rfl (al rfl rfl (ad rfl rfl (al rfl rfl (fe rfl rfl rfl (by omega) (al rfl rfl ?_))))))));refine cy (M:=M) an I3 rfl rfl rfl hv (aq _ _) (by omega) (fun u2 a hg rT=>?_);obtain rfl:last=a:=dD (aH (hg.symm.trans (by rw[show((k:Int)-1).toNat=k-1 from by omega];exact h1 (by omega))));refine al rfl rfl ?_;refine cb (M:=M) ax rfl rfl rT (aq _ _) (fun inl=>?_);refine al rfl rfl (gK rfl rfl rfl (al rfl rfl (aY rfl rfl rfl (aE rfl rfl rfl (ab ?_)))));refine bN rfl (fun c4=>?_) (fun c4=>?_)
     ·refine aj (ae (ah rfl rfl (ab (aO ?_))));refine aS rfl rfl ⟨congrArg Value.bool (dD ?_),rfl⟩;rw[hr,gA hx,decide_eq_false (show¬last<x by omega),kL]
     ·refine aU (ae (bF rfl rfl rfl (by omega) (ad rfl rfl (ab ?_))));refine⟨rfl,(k+1,x),(.cons rfl (.cons rfl (.cons rfl (.cons rfl .nil)))),?_,?_⟩
      ·refine⟨rfl,by simp only;omega,?_,by simp only;omega,fun h=>by simp at h,fun _=>by simpa using hx⟩;rw[hr,gA hx,decide_eq_true (show last<x by omega),eR]
      ·simp only;omega
    ·refine au rfl rfl rfl rfl (au rfl rfl rfl rfl (au rfl rfl rfl rfl (au rfl rfl rfl rfl (au rfl rfl rfl rfl (au rfl rfl rfl rfl (au rfl rfl rfl rfl (al rfl rfl (aE rfl rfl rfl (aE rfl rfl rfl (ab (jE rfl ?_)))))))))));refine aU (ae (bF rfl rfl rfl (by omega) (ad rfl rfl (ab ?_))));refine⟨rfl,(k+1,x),(.cons rfl (.cons rfl (.cons rfl (.cons rfl .nil)))),?_,?_⟩
     ·refine⟨rfl,by simp only;omega,?_,by simp only;omega,fun h=>by simp at h,fun _=>by simpa using hx⟩;rw[hr,gA hx,decide_eq_true (show last<x by omega),eR]
     ·simp only;omega
  ·refine cG (aj (ae (ah rfl rfl (ab (aO ?_)))));refine aS rfl rfl ⟨congrArg Value.bool (dD ?_),rfl⟩;rw[hr,fv (by omega)];rfl
theorem Eo {M:aD} {v:Value} {l:List (List UInt8)} (w0:World) (hv:(RT.str.sl).V M w0 l v):
  Spec Tryz.prog 198 #[v] w0 (fun v' w'=>v'= .bool (El none l)∧w'=w0):=by
 have hlen:=dy hv;refine bc (args:=[_]) (fn:=Tryz.f198) Tryz.func198 rfl (n:=24) Tryz.ntmps198 (aj (ae (ah rfl rfl (ab (aj (aj (ae (ad rfl rfl (bM aI rfl hv rfl (ad rfl rfl (ab ?_)))))))))));refine aZ ?_;refine de (σ:=Nat×Option (List UInt8)) (fun s=>[(0,v),(5,v),(6,.int .i64 l.length),(7,.int .i64 s.1)]) (fun s w=>w=w0∧s.1≤l.length∧El none l=El s.2 (l.drop s.1)∧(s.1=0→s.2=none)∧(0<s.1→∃a,s.2=some a∧l[s.1-1]? =some a)) (fun s=>l.length-s.1) (0,none) (.cons rfl (.cons rfl (.cons rfl (.cons rfl .nil)))) ?_ ?_
 ·exact⟨rfl,bE _,rfl,fun _=>rfl,fun h=>absurd h (jt 0)⟩
 ·rintro⟨k,o⟩ w1 ⟨rfl,hk,hr,h0,h1⟩;dsimp only at hk hr h0 h1 ⊢;refine aj (ae (cj rfl rfl rfl (ab (aj ?_))));refine bN rfl (fun c2=>?_) (fun c2=>?_)
  ·refine aU (aj (aZ (aj (ae (ad rfl rfl ?_)))));obtain⟨x,hx⟩:∃x,l[k]? =some x:=⟨_,ar (by omega)⟩;refine cy (M:=M) aI I9 rfl rfl rfl hv (aq _ _) (by omega) (fun u a hg hu=>?_);obtain rfl:x=a:=dD (aH (hg.symm.trans (by simpa using hx)));refine bT (M:=M) aJ rfl rfl rfl rfl rfl hu (aq _ _) (fun vx rD=>?_);obtain rfl:=fS rD;refine ah rfl rfl (ah rfl rfl (ab (aj (ae (ad rfl rfl (jd rfl rfl rfl (ad rfl rfl ?_)))))));refine aQ (g:=14) rfl (fun lQ=>?_) (fun lQ=>?_)
   ·refine al rfl rfl (ad rfl rfl (al rfl rfl (ad rfl rfl (al rfl rfl (ad rfl rfl (al rfl rfl (fe rfl rfl rfl (by omega) (al rfl rfl ?_))))))));obtain⟨last,rfl,jk⟩:=h1 (by omega);refine cy (M:=M) aI I9 rfl rfl rfl hv (aq _ _) (by omega) (fun u2 a hg rT=>?_);obtain rfl:last=a:=dD (aH (hg.symm.trans (by rw[show((k:Int)-1).toNat=k-1 from by omega];exact jk)));refine al rfl rfl ?_;refine bT (M:=M) aJ rfl rfl rfl rfl rfl rT (aq _ _) (fun vl kn=>?_);obtain rfl:=fS kn;refine al rfl rfl (Rg.US rfl rfl rfl (aY rfl rfl rfl (ab ?_)));refine bN rfl (fun c4=>?_) (fun c4=>?_)
    ·refine aj (ae (ah rfl rfl (ab (aO ?_))));refine aS rfl rfl ⟨congrArg Value.bool (dD ?_),rfl⟩;rw[hr,zd hx];simp[c4]
    ·refine aU (ae (bF rfl rfl rfl (by omega) (ad rfl rfl (ab ?_))));refine⟨rfl,(k+1,some x),(.cons rfl (.cons rfl (.cons rfl (.cons rfl .nil)))),?_,?_⟩
     ·refine⟨rfl,by simp only;omega,?_,fun h=>by simp at h,fun _=>⟨x,rfl,by simpa using hx⟩⟩;rw[hr,zd hx]
      first
      |(rw[h0 (by omega)];simp;done)
      |(have c4':=cJ.1 c4;simp[c4'];done)
     ·simp only;omega
   ·refine au rfl rfl rfl rfl (au rfl rfl rfl rfl (au rfl rfl rfl rfl (au rfl rfl rfl rfl (au rfl rfl rfl rfl (au rfl rfl rfl rfl (au rfl rfl rfl rfl (aE rfl rfl rfl (ab (jE rfl (aU (ae ?_)))))))))));refine bF rfl rfl rfl (by omega) (ad rfl rfl (ab ?_));refine⟨rfl,(k+1,some x),(.cons rfl (.cons rfl (.cons rfl (.cons rfl .nil)))),?_,?_⟩
    ·refine⟨rfl,by simp only;omega,?_,fun h=>by simp at h,fun _=>⟨x,rfl,by simpa using hx⟩⟩;rw[hr,zd hx]
     first
     |(rw[h0 (by omega)];simp;done)
     |(have c4':=cJ.1 c4;simp[c4'];done)
    ·simp only;omega
  ·refine cG (aj (ae (ah rfl rfl (ab (aO ?_)))));refine aS rfl rfl ⟨congrArg Value.bool (dD ?_),rfl⟩;rw[hr,fv (by omega)];rfl
theorem vP {α:Type} {A:RT α} {M:aD} {w:World} {v:Value} {x:α} (h:cN A M w v x):v.cells= #[v]:=by
 obtain⟨b,o,vs,rfl,_⟩:=h;rfl
theorem GO {M:aD} {v0 v1:Value} {ns:List (List UInt8)} {ts:List Li} (w0:World) (hM:Lt M w0) (hn:(RT.str.sl).V M w0 ns v0) (ht:(((RT.li).ptr).sl).V M w0 ts v1) (hl:ns.length≤1099511627776) (OY:ts.length≤1099511627776):
  Spec Tryz.prog 147 #[v0,v1] w0 (fun v w=>∃p,v= .tuple #[p,.int .i64 (if ns.length=ts.length∧El none ns=true then 0 else 1)]∧(ns.length=ts.length→El none ns=true→cN RT.di M w p (ns,ts))∧Step M w0 M w aC):=by
 refine bc (args:=[_,_]) (fn:=Tryz.f147) Tryz.func147 rfl (n:=22) Tryz.ntmps147 ?_;have S:Step M w0 M w0 aC:=(aw _ _).cA (fun _ h=>h.elim) (fun _ h=>h.elim);refine aj (ae (ah rfl rfl (ah rfl rfl (ab (aj (aj (ae (ad rfl rfl (bM aI rfl hn rfl (ad rfl rfl (bM dZ rfl ht rfl ?_)))))))))));refine eM rfl rfl rfl (ad rfl rfl ?_);refine aQ (g:=11) rfl (fun o7=>?_) (fun o7=>?_)
 ·refine au rfl rfl rfl rfl (au rfl rfl rfl rfl (au rfl rfl rfl rfl (aY rfl rfl rfl (ab (nQ rfl (aj (ae (ah rfl rfl (ah rfl rfl (ab (aO ?_)))))))))))
  first
  |exact eY rfl rfl rfl ⟨_,by rw[if_neg (fun h=>o7 (by omega))],fun h=>absurd (by omega) o7,S⟩
  |exact eY rfl rfl rfl ⟨_,by rw[if_neg (fun h=>c1 h.2)],fun _ h=>absurd h c1,S⟩
 ·refine al rfl rfl (ad rfl rfl (al rfl rfl ?_));refine aX rfl rfl afV (Eo _ hn) (fun r wc hc=>?_);obtain⟨rfl,rfl⟩:=hc;refine al rfl rfl (lH rfl rfl (aV (v':= .bool (decide (¬El none ns=true))) (by simp) (aE rfl rfl rfl (ab ?_))));refine bN rfl (fun c1=>?_) (fun c1=>?_)
  ·refine aj (ae (ah rfl rfl (ah rfl rfl (ab (aO ?_)))))
   first
   |exact eY rfl rfl rfl ⟨_,by rw[if_neg (fun h=>o7 (by omega))],fun h=>absurd (by omega) o7,S⟩
   |exact eY rfl rfl rfl ⟨_,by rw[if_neg (fun h=>c1 h.2)],fun _ h=>absurd h c1,S⟩
  ·refine aU (aj (ae (ad rfl rfl ?_)));refine aX rfl rfl afW (Mv hM hn hl) (fun v3 w3 hc=>?_);obtain⟨Ac,s3⟩:=hc;replace hn:=hn.le s3.le;replace ht:=ht.le s3.le;replace hM:=s3.lt hM;have:=S.size;replace S:=S.aB s3;refine ad rfl rfl ?_;refine aX rfl rfl afX (Qk hM ht OY) (fun v4 w4 hc=>?_);obtain⟨qf,s4⟩:=hc;replace hn:=hn.le s4.le;replace ht:=ht.le s4.le;replace Ac:=Ac.le s4.le;replace hM:=s4.lt hM;have:=S.size;replace S:=S.aB s4;refine iC (places:=[(0,1),(1,1)]) jS afT afU rfl ⟨_,_,rfl,rfl,_,_,rfl,rfl,rfl⟩ (out:=[_,_]) ⟨0,[_],rfl,ju Ac,by simp[Value.cells],1,[_],rfl,ju qf,by simp[Value.cells],rfl⟩ ?_;refine qc (A:=RT.di) (a:=(ns,ts)) rfl rfl hM (eS Ac qf rfl rfl rfl rfl) rfl (fun u5 w5 Dw s5 _=>?_);replace hn:=hn.le s5.le;replace ht:=ht.le s5.le;replace Ac:=Ac.le s5.le;replace qf:=qf.le s5.le;replace hM:=s5.lt hM;have:=S.size;replace S:=S.aB s5;refine ah rfl rfl (ah rfl rfl (ab (aO ?_)));exact eY rfl rfl rfl ⟨_,by rw[if_pos ⟨by omega,cJ.1 c1⟩],fun _ _=>Dw,S⟩
end Go.K
namespace Go.K
theorem GP (n:Nat):IntKind.u8.wrap (n:Int)=((UInt8.ofNat n).toNat:Int):=by
 rw[IntKind.wrap_u8];simp[UInt8.toNat_ofNat]
theorem Zu:∀m:Nat,m<256→(BitVec.ofInt 8 (m:Int)|||BitVec.ofInt 8 128).toNat=128+m%128:=by decide+kernel
theorem Qv (n:Nat):IntKind.u8.wrap ((BitVec.ofInt IntKind.u8.bits (IntKind.u8.wrap (n:Int))|||BitVec.ofInt IntKind.u8.bits 128).toNat:Int)=((UInt8.ofNat (128+n%128)).toNat:Int):=by
 have h1:IntKind.u8.wrap (n:Int)=((n%256:Nat):Int):=by rw[IntKind.wrap_u8];omega
 rw[h1];show IntKind.u8.wrap ((BitVec.ofInt 8 ((n%256:Nat):Int)|||BitVec.ofInt 8 128).toNat:Int)=_;rw[Zu (n%256) (by omega),IntKind.wrap_u8,show n%256%128=n%128 from by omega];simp[UInt8.toNat_ofNat]
theorem afZ (n:Nat):((n:Int)).fdiv (2^min (Int.toNat 7) IntKind.i64.bits)=((n/128:Nat):Int):=by
 show((n:Int)).fdiv 128=_;rw[Int.fdiv_eq_ediv_of_nonneg _ (by decide)];rfl
theorem GQ:∀m:Nat,m<256→(BitVec.ofInt 8 (m:Int)&&& ~~~ BitVec.ofInt 8 128).toNat=m%128:=by decide+kernel
theorem Ep (c:UInt8):IntKind.u8.wrap ((BitVec.ofInt IntKind.u8.bits (c.toNat:Int)&&& ~~~ BitVec.ofInt IntKind.u8.bits 128).toNat:Int)=((c.toNat%128:Nat):Int):=by
 show IntKind.u8.wrap ((BitVec.ofInt 8 (c.toNat:Int)&&& ~~~ BitVec.ofInt 8 128).toNat:Int)=_;rw[GQ c.toNat (by have:=c.toNat_lt;omega),IntKind.wrap_u8];omega
theorem Nf (k n x:Nat) (hk:k≤8) (hn:n<128^k) (hx:x<128):
  IntKind.i64.wrap ((BitVec.ofInt IntKind.i64.bits (n:Int)|||BitVec.ofInt IntKind.i64.bits (IntKind.i64.wrap ((x:Int)*2^min (Int.toNat (7*(k:Int))) IntKind.i64.bits))).toNat:Int)=((n+x*128^k:Nat):Int):=by
 have e7:Int.toNat (7*(k:Int))=7*k:=by omega
 have e1:min (7*k) 64=7*k:=by omega
 have e2:(128:Nat)^k=2^(7*k):=by rw[Nat.pow_mul]
 have hp:2^(7*k)≤2^56:=nw (by decide) (by omega);have hb:x*2^(7*k)≤127*2^(7*k):=gj _ (by omega);rw[e2]at hn ⊢;show IntKind.i64.wrap ((BitVec.ofInt 64 (n:Int)|||BitVec.ofInt 64 (IntKind.i64.wrap ((x:Int)*2^min (Int.toNat (7*(k:Int))) 64))).toNat:Int)=_;rw[e7,e1];have e3:((x:Int)*2^(7*k))=((x*2^(7*k):Nat):Int):=by simp
 have e5:n|||x*2^(7*k)=n+x*2^(7*k):=by
  rw[Nat.or_comm,Nat.mul_comm x,←Nat.two_pow_add_eq_or_of_lt hn x,Nat.add_comm]
 rw[e3];generalize x*2^(7*k)=y at*
 generalize 2^(7*k)=z at*
 have e4:∀m:Nat,m<2^64→(BitVec.ofInt 64 (m:Int))=BitVec.ofNat 64 m:=fun m _=>by simp
 rw[j4 (y:Int) (by omega),e4 n (by omega),e4 y (by omega),BitVec.toNat_or,BitVec.toNat_ofNat,BitVec.toNat_ofNat,nV (by omega),nV (by omega),e5,j4 _ (by omega)]
theorem tj (x:Int): -9223372036854775808≤IntKind.i64.wrap x∧IntKind.i64.wrap x≤9223372036854775807:=by rw[IntKind.wrap_i64];omega
end Go.K
namespace Go.K
open Go.Proofs
set_option maxRecDepth 10000
theorem Cj {M:aD} {w0:World} {v:Value} {b:List UInt8} {n:Nat} (hM:Lt M w0) (hv:(RT.u8.sl).V M w0 b v) (hb:b.length≤70368744177664) (hn:n≤9223372036854775807):
  Spec Tryz.prog 195 #[v,.int .i64 n] w0 (fun v' w'=>∃M',Step M w0 M' w' aC∧Own RT.u8 5 M' w' w0.heap.size v' (b++put n)):=by
 have h9:=lf hn;refine bc (args:=[_,_]) (fn:=Tryz.f195) Tryz.func195 rfl (n:=26) Tryz.ntmps195 (aj (ae (ah rfl rfl (ab (aj (ae (ad rfl rfl (ad rfl rfl ?_))))))))
 first|refine bM bQ rfl (by assumption) rfl ?_|refine fM bQ rfl (by assumption) rfl ?_
 refine ad rfl rfl ?_
 first|refine bM bQ rfl (by assumption) rfl ?_|refine fM bQ rfl (by assumption) rfl ?_
 refine Rg.FG bQ I5 rfl rfl rfl rfl hv ⟨rfl,rfl⟩ (fun a lP qm=>?_);refine ah rfl rfl (ab (aj (aZ ?_)));refine de (σ:=Nat×Value×List UInt8) (fun s=>[(0,s.2.1),(1,.int .i64 s.1)]) (fun s w=>s.2.2++put s.1=b++put n∧∃M1,Lt M1 w∧Step M w0 M1 w aC∧Grow RT.u8 (by decide) 5 M1 w w0.heap.size s.2.1 s.2.2) (fun s=>s.1) (n,_,b) (.cons rfl (.cons rfl .nil)) ?_ ?_
 ·exact⟨rfl,M,hM,aw _ _,.inr ⟨a,rfl,qm,lP⟩⟩
 ·rintro⟨k,u0,acc⟩ w1 ⟨Aj,M1,nS,s1,hg⟩;dsimp only at Aj hg ⊢;have hlen:=congrArg List.length Aj;have tG:=Pz k;simp only[bj]at hlen;refine aj (aj (ae (ad rfl rfl (dV rfl rfl rfl (ab ?_)))));refine bN rfl (fun c2=>?_) (fun c2=>?_)
  ·refine aU (aZ (aj (ae (ad rfl rfl (ad rfl rfl (sx ax cx rfl rfl (Rg.or rfl rfl rfl (aV (congrArg _ (Qv _)) ?_))))))));refine ed (A:=RT.u8) (hn:=by decide) (M:=M1) bQ I5 (by decide) rfl rfl nS (Tk.2 rfl) (.inr ⟨rfl,rfl⟩) (fun u w2 hu s2=>?_);refine Rg.HB (M:=M1) (base:=w0.heap.size) bQ I5 rfl rfl rfl rfl (hg.le s2) hu (aq _ _) (by simp) (by simp;omega) (by simp;omega) (ez s1.size s2.size) (fun v3 M3 w3 ze s3=>?_);refine ah rfl rfl (ab (ae (ad rfl rfl (Rg.shr rfl rfl rfl (by omega) (aV (congrArg _ (afZ _)) (ah rfl rfl (ab ?_)))))));refine⟨rfl,(k/128,v3,acc++[UInt8.ofNat (128+k%128)]),(.cons rfl (.cons rfl .nil)),?_,?_⟩
   ·exact⟨by rw[←Aj,FV (n:=k) (by omega)];simp,M3,s3.lt (s2.lt nS),(s1.aB s2).l4 s3 (aT _),.inl ze⟩
   ·show k/128<k;omega
  ·refine cG (aj (ae (ad rfl rfl (ad rfl rfl (sx ax cx rfl rfl (aV (congrArg _ (GP _)) ?_))))));refine ed (A:=RT.u8) (hn:=by decide) (M:=M1) bQ I5 (by decide) rfl rfl nS (Tk.2 rfl) (.inr ⟨rfl,rfl⟩) (fun u w2 hu s2=>?_);refine Rg.HB (M:=M1) (base:=w0.heap.size) bQ I5 rfl rfl rfl rfl (hg.le s2) hu (aq _ _) (by simp) (by simp;omega) (by simp;omega) (ez s1.size s2.size) (fun v3 M3 w3 ze s3=>?_);refine ah rfl rfl (ab (aO ?_));refine aS rfl rfl ⟨M3,(s1.aB s2).l4 s3 (aT _),?_⟩;rw[←Aj,ym (n:=k) (by omega)];exact ze
theorem Ng {M:aD} {w0:World} {v:Value} {b:List UInt8} {n:Nat} (hM:Lt M w0) (hv:(RT.u8.sl).V M w0 b v) (hb:b.length≤70368744177664) (hn:n≤9223372036854775807):
  Spec Tryz.prog 195 #[v,.int .i64 n] w0 (fun v' w'=>Step M w0 M w' aC∧(RT.u8.sl).V M w' (b++put n) v'):=
 (Cj hM hv hb hn).mono fun _ _ ⟨_,s,ho⟩=>⟨s.back,xF hM s ho (by have:=lf hn;simp;omega)⟩
theorem Er {M:aD} {w0:World} {v:Value} {b:List UInt8} {at_:Int} (hv:(RT.u8.sl).V M w0 b v) (Nh: -9223372036854775808≤at_∧at_≤9223372036854775807):
  Spec Tryz.prog 263 #[v,.int .i64 at_] w0 (fun v' w'=>v'= .tuple #[.int .i64 (get b at_).1,.int .i64 (get b at_).2.1,.int .i64 (get b at_).2.2]∧w0=w'):=by
 have hlen:=dy hv;refine bc (args:=[_,_]) (fn:=Tryz.f263) Tryz.func263 rfl (n:=54) Tryz.ntmps263 (aj (ae (ah rfl rfl (ah rfl rfl (ah rfl rfl (ab (aj (aj (ae (ad rfl rfl (cj rfl rfl rfl ?_)))))))))));refine ad rfl rfl ?_;refine aQ (g:=12) rfl (fun iL=>?_) (fun iL=>?_)
 ·obtain Vk:at_<0∨(b.length:Int)<at_:= .inl iL;refine au rfl rfl rfl rfl (au rfl rfl rfl rfl (au rfl rfl rfl rfl (au rfl rfl rfl rfl (aY rfl rfl rfl (ab (nQ rfl (aj (ae (ah rfl rfl (ah rfl rfl (ah rfl rfl ?_)))))))))));refine ab (aO ?_);have iX:get b at_=(0,0,1):=by unfold get;rw[if_pos Vk]
  exact rQ rfl rfl rfl rfl ⟨by rw[iX],rfl⟩
 ·refine al rfl rfl (ad rfl rfl (al rfl rfl (ad rfl rfl (al rfl rfl ?_))))
  first|refine bM bQ rfl (by assumption) rfl ?_|refine fM bQ rfl (by assumption) rfl ?_
  refine al rfl rfl (jd rfl rfl rfl (aE rfl rfl rfl (ab ?_)));refine bN rfl (fun c1=>?_) (fun c1=>?_)
  ·obtain Vk:at_<0∨(b.length:Int)<at_:= .inr c1;refine aj (ae (ah rfl rfl (ah rfl rfl (ah rfl rfl (ab (aO ?_))))));have iX:get b at_=(0,0,1):=by unfold get;rw[if_pos Vk]
   exact rQ rfl rfl rfl rfl ⟨by rw[iX],rfl⟩
  ·refine aU (aj (ae (ah rfl rfl (ab (aj (aj (ae (ad rfl rfl (ad rfl rfl (ad rfl rfl ?_))))))))))
   first|refine bM bQ rfl (by assumption) rfl ?_|refine fM bQ rfl (by assumption) rfl ?_
   refine ad rfl rfl (bF rfl rfl rfl (by omega) (Rg.min2 rfl rfl rfl ?_));refine Rg.Kz bQ I5 rfl rfl rfl rfl hv (by omega) (fun u hu=>?_);rw[show(min (b.length:Int) (at_+9)).toNat=min b.length (at_.toNat+9)from by omega,TN]at hu;have iX:get b at_=match od ((b.drop at_.toNat).take 9) 0 0 with|some (n,k)=>((n:Int),at_+k,0)|none=>(0,0,2):=by unfold get;rw[if_neg (by omega)];rfl
   have k3:((b.drop at_.toNat).take 9).length≤9:=by rw[bH];omega
   generalize (b.drop at_.toNat).take 9=bs at hu iX k3
   first|refine bM bQ rfl (by assumption) rfl ?_|refine fM bQ rfl (by assumption) rfl ?_
   refine ad rfl rfl (ab (aZ ?_));refine de (σ:=Nat×Nat) (fun s=>[(1,.int .i64 at_),(25,u),(26,.int .i64 bs.length),(27,.int .i64 s.1),(7,.int .i64 s.2)]) (fun s w=>w0=w∧s.1≤bs.length∧s.2<128^s.1∧od (bs.drop s.1) s.1 s.2=od bs 0 0) (fun s=>bs.length-s.1) (0,0) (.cons rfl (.cons rfl (.cons rfl (.cons rfl (.cons rfl .nil))))) ?_ ?_
   ·exact⟨rfl,bE _,by decide,rfl⟩
   ·rintro⟨k,m⟩ w1 ⟨rfl,hk,hm,hg⟩;dsimp only at hk hm hg ⊢;refine aj (ae (cj rfl rfl rfl (ab (aj ?_))));refine bN rfl (fun c5=>?_) (fun c5=>?_)
    ·refine aU (aj (aZ (aj (ae (ad rfl rfl ?_)))));refine cy (M:=M) bQ I5 rfl rfl rfl (by assumption) (by repeat (first|exact aq _ _|refine a8 (bD (by assumption)) ?_)) (by omega) (fun af0 Qw Es nq=>?_);refine Rg.Tn (M:=M) cx rfl rfl (by assumption) (by repeat (first|exact aq _ _|refine a8 (bD (by assumption)) ?_)) ?_;refine ah rfl rfl (ah rfl rfl (ab (aj (ae (ad rfl rfl (ad rfl rfl (Rg.andNot rfl rfl rfl (aV (congrArg _ (Ep _)) (Rg.uZ cx ax rfl rfl (by omega) (ad rfl rfl (Rg.Pk rfl rfl rfl (by omega) ?_)))))))))));refine Rg.shl rfl rfl rfl (by omega) (Rg.or rfl rfl rfl (aV (congrArg _ (Nf k m _ (by omega) hm (by omega))) (ah rfl rfl (ab (aj (ae (ad rfl rfl (cj rfl rfl rfl (ab ?_)))))))));refine bN rfl (fun c8=>?_) (fun c8=>?_)
     ·refine aj (aj (ae (ad rfl rfl (nX rfl rfl rfl (ad rfl rfl ?_)))));refine aQ (g:=44) rfl (fun Ck=>?_) (fun Ck=>?_)
      ·refine al rfl rfl (ad rfl rfl (al rfl rfl (jd rfl rfl rfl (aY rfl rfl rfl (ab ?_)))));refine bN rfl (fun c9=>?_) (fun c9=>?_)
       ·refine cG (aj (ae (ah rfl rfl (ah rfl rfl (ah rfl rfl (ab (aO ?_)))))))
        have hr:od bs 0 0=none:=by
         rw[←hg]
         first
         |(rw[oe (by simpa using Es),if_pos (by omega),if_pos (by omega)])
         |(rw[fv (by omega)];rfl)
        exact rQ rfl rfl rfl rfl ⟨by rw[iX,hr],rfl⟩
       ·refine aU (aj (ae (ad rfl rfl (ad rfl rfl (ad rfl rfl (bF rfl rfl rfl (by omega) (bF rfl rfl rfl (by omega) (ah rfl rfl (ah rfl rfl (ah rfl rfl (ab ?_)))))))))));refine aO ?_;have hr:od bs 0 0=some (m+Qw.toNat%128*128^k,k+1):=by rw[←hg,oe (by simpa using Es),if_pos (by omega),if_neg (by omega)]
        exact rQ rfl rfl rfl rfl ⟨by rw[iX,hr];simp;omega,rfl⟩
      ·refine au rfl rfl rfl rfl (au rfl rfl rfl rfl (aE rfl rfl rfl (ab (jE rfl (aU (aj (ae (ad rfl rfl (ad rfl rfl (ad rfl rfl (bF rfl rfl rfl (by omega) ?_)))))))))));refine bF rfl rfl rfl (by omega) (ah rfl rfl (ah rfl rfl (ah rfl rfl (ab (aO ?_)))));have hr:od bs 0 0=some (m+Qw.toNat%128*128^k,k+1):=by rw[←hg,oe (by simpa using Es),if_pos (by omega),if_neg (by omega)]
       exact rQ rfl rfl rfl rfl ⟨by rw[iX,hr];simp;omega,rfl⟩
     ·refine aU (ae (bF rfl rfl rfl (by omega) (ad rfl rfl (ab ?_))));refine⟨rfl,(k+1,m+Qw.toNat%128*128^k),(.cons rfl (.cons rfl (.cons rfl (.cons rfl (.cons rfl .nil))))),?_,?_⟩
      ·refine⟨rfl,by simp only;omega,?_,?_⟩
       ·have:=gj (128^k) (show Qw.toNat%128≤127 from by omega);simp only[Nat.pow_succ];omega
       ·rw[oe (by simpa using Es),if_neg (by omega)]at hg;exact hg
      ·simp only;omega
    ·refine cG (aj (ae (ah rfl rfl (ah rfl rfl (ah rfl rfl (ab (aO ?_)))))))
     have hr:od bs 0 0=none:=by
      rw[←hg]
      first
      |(rw[oe (by simpa using Es),if_pos (by omega),if_pos (by omega)])
      |(rw[fv (by omega)];rfl)
     exact rQ rfl rfl rfl rfl ⟨by rw[iX,hr],rfl⟩
theorem Ax {M:aD} {w0:World} {v u:Value} {b:List UInt8} {l:List Int} (hM:Lt M w0) (hv:(RT.u8.sl).V M w0 b v) (hu:((RT.int .i64).sl).V M w0 l u) (hb:b.length+9*(l.length+1)≤70368744177664):
  Spec Tryz.prog 196 #[v,u] w0 (fun v' w'=>∃M' x,Step M w0 M' w' aC∧v'= .tuple #[x,.int .i64 (if eo (-1) l then 0 else 1)]∧Own RT.u8 5 M' w' w0.heap.size x (if eo (-1) l then b++eD l else[])):=by
 have tz:=lf (n:=l.length) (by omega);refine bc (args:=[_,_]) (fn:=Tryz.f196) Tryz.func196 rfl (n:=31) Tryz.ntmps196 (aj (ae (ah rfl rfl (ah rfl rfl (ab (aj (ae (ad rfl rfl (ad rfl rfl (bM an rfl hu rfl ?_))))))))));refine aX rfl rfl TV (Cj (M:=M) hM hv (by omega) (by omega)) (fun ub wb pD=>?_);obtain⟨Mb,sb,sK⟩:=pD;refine ah rfl rfl (ab (aj (ae (ah rfl rfl (ab (aj (aj (ae (ad rfl rfl (bM an rfl hu rfl (ad rfl rfl ?_)))))))))));refine ab (aZ ?_);refine de (σ:=Nat×Int×Value×List UInt8) (fun s=>[(0,s.2.2.1),(6,.int .i64 s.2.1),(13,u),(14,.int .i64 l.length),(15,.int .i64 s.1)]) (fun s w=>eo (-1) l=eo s.2.1 (l.drop s.1)∧(eo (-1) l=true→s.2.2.2++lK s.2.1 (l.drop s.1)=b++eD l)∧s.1≤l.length∧ -1≤s.2.1∧s.2.2.2.length≤b.length+9*(s.1+1)∧∃M1,Lt M1 w∧Step M w0 M1 w aC∧Own RT.u8 5 M1 w w0.heap.size s.2.2.1 s.2.2.2) (fun s=>l.length-s.1) (0,-1,_,b++put l.length) (.cons rfl (.cons rfl (.cons rfl (.cons rfl (.cons rfl .nil))))) ?_ ?_
 ·exact⟨rfl,fun _=>by simp[eD],bE _,by simp only;omega,by simp;omega,Mb,sb.lt hM,sb,sK⟩
 ·rintro⟨k,last,u0,acc⟩ w1 ⟨hr,Aj,hk,Xh,hal,M1,nS,s1,ho⟩;dsimp only at hr Aj hk Xh hal ho ⊢;refine aj (ae (cj rfl rfl rfl (ab (aj ?_))));refine bN rfl (fun c4=>?_) (fun c4=>?_)
  ·refine aU (aj (aZ (aj (ae ?_))));obtain⟨x,hx⟩:∃x,l[k]? =some x:=⟨_,ar (by omega)⟩;have hxr:=BE hu hx;refine cy (M:=M) an I3 rfl rfl rfl (hu.le (s1.back).le) (aq _ _) (by omega) (fun Zv Ni Zw H8=>?_);obtain rfl:Ni=x:=aH (Zw.symm.trans (by simpa using hx));refine cb (M:=M) ax rfl rfl H8 (aq _ _) (fun _=>?_);refine ah rfl rfl (ab (aj (aj (ae (ad rfl rfl (ad rfl rfl (gK rfl rfl rfl (ab ?_))))))));refine bN rfl (fun c6=>?_) (fun c6=>?_)
   ·refine aj (ae (ah rfl rfl (ah rfl rfl (ab (aO ?_)))));have hrf:eo (-1) l=false:=by rw[hr,gA hx,decide_eq_false (by omega),kL]
    exact eY rfl rfl rfl ⟨M1,_,s1,by rw[hrf];rfl,by rw[hrf];exact dF _ _ _ _ _⟩
   ·refine aU (aj (ae (ad rfl rfl (ad rfl rfl (ad rfl rfl (Rg.Tl rfl rfl rfl (Rg.Tl rfl rfl rfl ?_)))))));have hpx:=lf (n:=(Ni-last-1).toNat) (by omega);refine aV (v':= .int .i64 (((Ni-last-1).toNat:Nat):Int)) (by rw[IntKind.wrap_i64,IntKind.wrap_i64];congr 1;omega) ?_;have hfz:=s1.freeze (v:=u0) (fun b hb=>(ho.base b hb).1);refine aX rfl rfl TV (Cj (M:=rm M1 u0) (nS.rm u0) (ho.view (by omega)) (by omega) (by omega)) (fun ub wb pD=>?_);obtain⟨Mb2,Xi,af3⟩:=pD;refine ah rfl rfl (ab (ae (ad rfl rfl (ah rfl rfl (ab (ae (bF rfl rfl rfl (by omega) (ad rfl rfl (ab ?_)))))))));refine⟨rfl,(k+1,Ni,ub,acc++put (Ni-last-1).toNat),(.cons rfl (.cons rfl (.cons rfl (.cons rfl (.cons rfl .nil))))),?_,?_⟩
    ·refine⟨?_,fun h=>?_,by simp only;omega,by simp only;omega,by simp only[bj];omega,Mb2,Xi.lt (nS.rm u0),hfz.aB Xi,af3.nB s1.size⟩
     ·rw[hr,gA hx,decide_eq_true (by omega),eR]
     ·rw[←Aj h,IV hx];simp
    ·simp only;omega
  ·refine cG (aj (ae (ad rfl rfl (ah rfl rfl (ah rfl rfl (ab (aO ?_)))))));have hrt:eo (-1) l=true:=by rw[hr,fv (by omega)];rfl
   have ha:=Aj hrt;rw[fv (by omega),lK,iW]at ha;exact eY rfl rfl rfl ⟨M1,_,s1,by rw[hrt];rfl,by rw[hrt,←ha];exact ho⟩
theorem zf {M:aD} {w0:World} {v u:Value} {b:List UInt8} {l:List Int} (hM:Lt M w0) (hv:(RT.u8.sl).V M w0 b v) (hu:((RT.int .i64).sl).V M w0 l u) (hb:b.length+9*(l.length+1)≤70368744177664):
  Spec Tryz.prog 196 #[v,u] w0 (fun v' w'=>∃x,Step M w0 M w' aC∧v'= .tuple #[x,.int .i64 (if eo (-1) l then 0 else 1)]∧(RT.u8.sl).V M w' (if eo (-1) l then b++eD l else[]) x):=
 (Ax hM hv hu hb).mono fun _ _ ⟨_,x,s,h,ho⟩=>⟨x,s.back,h,xF hM s ho (by
  split
  next hr=>
   have tz:=lf (n:=l.length) (by omega);have l5:∀x∈l,x≤9223372036854775807:=fun x hx=>by obtain⟨i,hi⟩:=bB.1 hx;exact(BE hu hi).2
   have:=yn l (-1) (by decide) l5 hr;simp only[eD,bj];omega
  next=>simp)⟩
theorem Bj {M:aD} {w0:World} {be bb ba:Nat} {v:Value} {b:List UInt8} {at_:Int} (he:w0.heap[be]? =some (.cells #[.int .i64 0] 26 (0,0))) (hb:w0.heap[bb]? =some (.cells #[v] 204 (0,0))) (ha:w0.heap[ba]? =some (.cells #[.int .i64 at_] 3 (0,0))) (eK:be≠ba) (Vl:M be) (Xj:M ba) (hv:(RT.u8.sl).V M w0 b v) (Nh: -9223372036854775808≤at_∧at_≤9223372036854775807):
  Spec Tryz.prog 287 #[.pointer (some ⟨be,0,none⟩),.pointer (some ⟨bb,0,none⟩),.pointer (some ⟨ba,0,none⟩)] w0 (fun v' w'=>v'= .int .i64 (get b at_).1∧w'.heap[be]? =some (.cells #[.int .i64 (get b at_).2.2] 26 (0,0))∧w'.heap[ba]? =some (.cells #[.int .i64 (get b at_).2.1] 3 (0,0))∧Step M w0 M w' (fun k=>k=be∨k=ba)):=by
 refine bc (args:=[_,_,_]) (fn:=Tryz.f287) Tryz.func287 rfl (n:=15) Tryz.ntmps287 (aj (ae (ah rfl rfl (ab (aj (aj (ae (aM wy rfl rfl rfl (by assumption) rfl (eM rfl rfl rfl (ab ?_))))))))));refine bN rfl (fun c1=>?_) (fun c1=>?_)
 ·exact absurd rfl c1
 ·refine aU (aj (ae (ah rfl rfl (ab (aj (ae (aM bQ rfl rfl rfl (by assumption) rfl (aM ax rfl rfl rfl (by assumption) rfl ?_))))))));refine aX rfl rfl Yb (Er hv Nh) (fun r w1 h1=>?_);obtain⟨rfl,rfl⟩:=h1;refine ad rfl rfl (bW rfl rfl rfl (bW rfl rfl rfl (bW rfl rfl rfl (ah rfl rfl ?_))));refine cu (M:=M) I3 rfl rfl ha rfl rfl Xj (fun w1 h1 s1=>?_);refine cu (M:=M) I26 rfl rfl (s1.keep he eK) rfl rfl Vl (fun w2 h2 s2=>?_);refine ab (aj (ae (ad rfl rfl (ah rfl rfl (ab (aO ?_))))));refine aS rfl rfl ⟨rfl,h2,s2.keep h1 (Ne.symm eK),?_⟩;exact(s1.cA (fun b hb=> .inr hb) (fun b hb=>by rcases hb with rfl|rfl<;>assumption)).trans s2 (fun b _ hb=> .inl hb)
theorem zi {M:aD} {w0:World} {v:Value} {b:List UInt8} {at_:Int} (hM:Lt M w0) (hv:(RT.u8.sl).V M w0 b v) (Nh: -9223372036854775808≤at_∧at_≤9223372036854775807) (k3:b.length≤1099511627776):
  Spec Tryz.prog 264 #[v,.int .i64 at_] w0 (fun v' w'=>∃x,v'= .tuple #[x,.int .i64 (gY b at_).2.2,.int .i64 (gY b at_).1]∧((RT.int .i64).sl).V M w' (gY b at_).2.1 x∧Step M w0 M w' aC):=by
 refine bc (args:=[_,_]) (fn:=Tryz.f264) Tryz.func264 rfl (n:=48) Tryz.ntmps264 (aj (ae ?_));refine xj M rfl rfl (fun bb w1 Mu apu hB s1=>?_);rw[ju hv]at hB;refine xj (ins M bb) rfl rfl (fun ba w2 hba apv hA s2=>?_);refine ah rfl rfl (ah rfl rfl (ah rfl rfl (ab (aj (ae ?_)))));refine dP (ins (ins M bb) ba) I26 rfl (fun be w3 hbe apw hE s3=>?_);refine cu (M:=ins (ins (ins M bb) ba) be) I26 rfl rfl hE rfl rfl (.inl rfl) (fun w4 hE4 s4=>?_);have z1:=s1.size;have z2:=s2.size;have z3:=s3.size;have z4:=s4.size;have S4:Step M w0 (ins (ins (ins M bb) ba) be) w4 aC:=((s1.aB s2).aB s3).cd s4 (fun k hk=>by subst hk;omega);have hB4:=s4.keep (s3.aK (s2.aK hB)) (show bb≠be by omega);have hA4:=s4.keep (s3.aK hA) (show ba≠be by omega);refine ab (aj (ae (kb (xs:=[]) rfl rfl rfl (ah rfl rfl (ab (aj (ae (ah rfl rfl (ab (aj (ae ?_)))))))))));refine ah rfl rfl (ab (aj (aj (ae (ad rfl rfl ?_)))));refine rr (first:=[]) (xs:=[]) rfl rfl rfl Yc (Bj (M:=ins (ins (ins M bb) ba) be) hE4 hB4 hA4 (by omega) (.inl rfl) (.inr (.inl rfl)) (hv.le S4.le) Nh) (fun r w5 h5=>?_);obtain⟨rfl,hE5,hA5,s5⟩:=h5;have z5:=s5.size;have S5:=S4.cd s5 (fun k hk=>by omega);have hB5:=s5.keep hB4 (by omega);obtain⟨hn0,hn1,hn2,hn3⟩:=oW b at_;refine aV (v':= .int .i64 (((get b at_).1.toNat:Nat):Int)) (by rw[zX hn0]) (ah rfl rfl (ab (aZ ?_)));refine de (σ:=Nat×Int×Value×List Int×Int×Int) (fun s=>[(7,.pointer (some ⟨be,0,none⟩)),(3,.pointer (some ⟨ba,0,none⟩)),(8,.func (.func 287) [].toArray [.pointer (some ⟨be,0,none⟩),.pointer (some ⟨bb,0,none⟩),.pointer (some ⟨ba,0,none⟩)].toArray),(9,s.2.2.1),(10,.int .i64 s.2.1),(11,.int .i64 s.1)]) (fun s w=>(s.1:Int)≤9223372036854775807∧(s.2.2.2.2.1=0→gY b at_=andThen s.2.2.2.1 (iF b s.1 s.2.2.2.2.2 s.2.1))∧(s.2.2.2.2.1≠0→gY b at_=(s.2.2.2.2.1,[],0))∧(s.2.2.2.2.1=0→ -1≤s.2.1∧s.2.1≤4611686018427387904∧(s.2.2.2.1.length:Int)≤s.2.2.2.2.2∧s.2.2.2.2.2≤b.length)∧s.2.2.2.1.length≤b.length+1∧∃M1,Lt M1 w∧Step M w0 M1 w aC∧w4.heap.size≤w.heap.size∧M1 be∧M1 ba∧Own (RT.int .i64) 3 M1 w w4.heap.size s.2.2.1 s.2.2.2.1∧w.heap[be]? =some (.cells #[.int .i64 s.2.2.2.2.1] 26 (0,0))∧w.heap[ba]? =some (.cells #[.int .i64 s.2.2.2.2.2] 3 (0,0))∧w.heap[bb]? =some (.cells #[v] 204 (0,0))) (fun s=>s.1) ((get b at_).1.toNat,-1,_,[],(get b at_).2.2,(get b at_).2.1) (.cons rfl (.cons rfl (.cons rfl (.cons rfl (.cons rfl (.cons rfl .nil)))))) ?_ ?_
 ·refine⟨by have:=AV b at_;simp only;omega,fun h=>?_,fun h=>?_,fun h=>?_,by simp,_,S5.lt hM,S5,z5,.inl rfl,.inr (.inl rfl),dF _ _ _ _ _,hE5,hA5,hB5⟩
  ·unfold gY;rw[if_neg (by simpa using h)];exact(Dh _ (IW b _ _ _)).symm
  ·unfold gY;rw[if_pos h]
  ·have:=vw h;simp only[jZ];omega
 ·rintro⟨many,last,u0,acc,e,a1⟩ wl ⟨hmb,O4,HG,hok,hal,M1,nS,S,zl,Vl,Xj,ho,hE,hA,hB⟩;dsimp only at hmb O4 HG hok hal ho hE hA hB ⊢;refine aj (aj (ae (ad rfl rfl (jd rfl rfl rfl (ad rfl rfl ?_)))));refine aQ (g:=18) rfl (fun T1=>?_) (fun T1=>?_)
  ·refine al rfl rfl (aM wy rfl rfl rfl (by assumption) rfl (al rfl rfl (nX rfl rfl rfl (aY rfl rfl rfl (ab ?_)))));refine bN rfl (fun c6=>?_) (fun c6=>?_)
   ·refine aU (aj (aZ (aj (ae (ad rfl rfl ?_)))));refine rr (first:=[]) (xs:=[]) rfl rfl rfl Yc (Bj (M:=M1) (by rw[c6]at hE;exact hE) hB hA (by omega) Vl Xj (hv.le S.le) (by have:=hok c6;omega)) (fun r w6 h6=>?_);obtain⟨rfl,Zx,Zy,s6⟩:=h6;have z6:=s6.size;have S6:=S.cd s6 (fun k hk=>by omega);have Zz:=s6.keep hB (by omega);have ue:=ho.step s6 (fun k hk h=>by have:=(ho.base k hk).1;omega);have JB:=s6.lt nS;obtain⟨hn0,hn1,hn2,hn3⟩:=oW b a1;obtain⟨tL,BI,hk3,hk4⟩:=hok c6;refine ah rfl rfl (ab (aj (aj (ae (aM wy rfl rfl rfl (by assumption) rfl (nX rfl rfl rfl (ad rfl rfl ?_)))))));refine aQ (g:=28) rfl (fun Ck=>?_) (fun Ck=>?_)
    ·refine al rfl rfl (ad rfl rfl (al rfl rfl (ad rfl rfl (al rfl rfl (fe rfl rfl rfl (by omega) (al rfl rfl (fe rfl rfl rfl (by omega) (al rfl rfl (jd rfl rfl rfl (aY rfl rfl rfl (ab ?_)))))))))));refine bN rfl (fun c9=>?_) (fun c9=>?_)
     ·refine ae ?_;refine cu (M:=M1) I26 rfl rfl Zx rfl rfl Vl (fun w7 hE7 s7=>?_);have z7:=s7.size;replace S6:=S6.cd s7 (fun k hk=>by subst hk;omega);replace Zz:=s7.keep Zz (show bb≠be by omega);replace Zy:=s7.keep Zy (show ba≠be by omega);replace ue:=ue.step s7 (fun k hk h=>by have:=(ho.base k hk).1;omega);replace JB:=s7.lt JB;replace Zx:=hE7;refine ab (aj (ae (ad rfl rfl (ad rfl rfl (Rg.xn rfl rfl rfl (Rg.xn rfl rfl rfl (ah rfl rfl (ab (ae (ad rfl rfl (ad rfl rfl ?_)))))))))));refine ed (A:=RT.int .i64) (hn:=by decide) (M:=M1) an I3 (by decide) rfl rfl JB (fV (tj _)) (.inr ⟨rfl,rfl⟩) (fun u w8 hu s8=>?_);refine cZ (M:=M1) (base:=w4.heap.size) an I3 rfl rfl rfl rfl (ue.aP s8) hu (aq _ _) (by simp;omega) (by simp;omega) (by have:=s8.size;omega) (fun v9 M9 w9 Qx s9=>?_);have z8:=s8.size;have z9:=s9.size;have j9:∀k,k<w4.heap.size→¬fz u0 k:=fun k hk h=>by have:=(ho.base k h).1;omega
      have Nj:=s9.keep (s8.aK Zx) (j9 be (by omega));have ZA:=s9.keep (s8.aK Zy) (j9 ba (by omega));have ZB:=s9.keep (s8.aK Zz) (j9 bb (by omega));have S9:=(S6.aB s8).dg s9 (ue.aP s8) (by omega);have Sf:=s9.lt (s8.lt JB);have Nk:M9 be:=(s9.mem be (by omega)).2 Vl;have Nl:M9 ba:=(s9.mem ba (by omega)).2 Xj;refine ah rfl rfl (ab (ae (ad rfl rfl (fe rfl rfl rfl (by omega) (ah rfl rfl (ab ?_))))));refine⟨rfl,(many-1,(IntKind.i64.wrap (last+IntKind.i64.wrap ((get b a1).1+1))),v9,acc++[(IntKind.i64.wrap (last+IntKind.i64.wrap ((get b a1).1+1)))],(if(get b a1).2.2=0∧4611686018427387904-last-1<(get b a1).1 then 2 else(get b a1).2.2),(get b a1).2.1),(.cons rfl (.cons rfl (.cons rfl (.cons rfl (.cons rfl (.cons (show some (Value.int .i64 ((many:Int)-1))=some (Value.int .i64 ((many-1:Nat):Int))from by congr 2;omega) .nil)))))),?_,?_⟩
      ·have hx:(get b a1).2.2=0→¬4611686018427387904-last-1<(get b a1).1→(IntKind.i64.wrap (last+IntKind.i64.wrap ((get b a1).1+1)))=last+1+(get b a1).1:=fun h1 h2=>by rw[j4 ((get b a1).1+1) (by omega),j4 _ (by omega)];omega
       have W4:many=(many-1)+1:=by omega
       have zj:=O4 c6;rw[W4]at zj;refine⟨by simp only;omega,fun h=>?_,fun h=>?_,fun h=>?_,by have:=hok c6;simp only[bj,cM,jZ];omega,M9,Sf,S9,by omega,Nk,Nl,Qx,?_,ZA,ZB⟩
       ·dsimp only at h ⊢;have h3:(get b a1).2.2=0∧¬4611686018427387904-last-1<(get b a1).1:=by split at h<;>omega
        rw[zj,oV acc h3.1 h3.2,hx h3.1 h3.2]
       ·dsimp only at h ⊢;rw[zj]
        split
        ·rename_i h4;rw[vz h4.1 h4.2];rfl
        ·rename_i h4
         have h5:(get b a1).2.2≠0:=by intro h6;rw[if_neg h4]at h;exact h h6
         rw[sT h5];unfold andThen;rw[if_pos h5]
       ·dsimp only at h ⊢;have h3:(get b a1).2.2=0∧¬4611686018427387904-last-1<(get b a1).1:=by split at h<;>omega
        have:=vw h3.1;rw[hx h3.1 h3.2];simp only[bj,cM,jZ];omega
       ·dsimp only
        first
        |(rw[if_pos ⟨Ck,c9⟩];exact Nj)
        |(rw[if_neg (fun h=>c9 h.2)];exact Nj)
        |(rw[if_neg (fun h=>Ck h.1)];exact Nj)
      ·simp only;omega
     ·refine aU (aj (ae (ad rfl rfl (ad rfl rfl (Rg.xn rfl rfl rfl (Rg.xn rfl rfl rfl (ah rfl rfl (ab (ae (ad rfl rfl (ad rfl rfl ?_)))))))))));refine ed (A:=RT.int .i64) (hn:=by decide) (M:=M1) an I3 (by decide) rfl rfl JB (fV (tj _)) (.inr ⟨rfl,rfl⟩) (fun u w8 hu s8=>?_);refine cZ (M:=M1) (base:=w4.heap.size) an I3 rfl rfl rfl rfl (ue.aP s8) hu (aq _ _) (by simp;omega) (by simp;omega) (by have:=s8.size;omega) (fun v9 M9 w9 Qx s9=>?_);have z8:=s8.size;have z9:=s9.size;have j9:∀k,k<w4.heap.size→¬fz u0 k:=fun k hk h=>by have:=(ho.base k h).1;omega
      have Nj:=s9.keep (s8.aK Zx) (j9 be (by omega));have ZA:=s9.keep (s8.aK Zy) (j9 ba (by omega));have ZB:=s9.keep (s8.aK Zz) (j9 bb (by omega));have S9:=(S6.aB s8).dg s9 (ue.aP s8) (by omega);have Sf:=s9.lt (s8.lt JB);have Nk:M9 be:=(s9.mem be (by omega)).2 Vl;have Nl:M9 ba:=(s9.mem ba (by omega)).2 Xj;refine ah rfl rfl (ab (ae (ad rfl rfl (fe rfl rfl rfl (by omega) (ah rfl rfl (ab ?_))))));refine⟨rfl,(many-1,(IntKind.i64.wrap (last+IntKind.i64.wrap ((get b a1).1+1))),v9,acc++[(IntKind.i64.wrap (last+IntKind.i64.wrap ((get b a1).1+1)))],(if(get b a1).2.2=0∧4611686018427387904-last-1<(get b a1).1 then 2 else(get b a1).2.2),(get b a1).2.1),(.cons rfl (.cons rfl (.cons rfl (.cons rfl (.cons rfl (.cons (show some (Value.int .i64 ((many:Int)-1))=some (Value.int .i64 ((many-1:Nat):Int))from by congr 2;omega) .nil)))))),?_,?_⟩
      ·have hx:(get b a1).2.2=0→¬4611686018427387904-last-1<(get b a1).1→(IntKind.i64.wrap (last+IntKind.i64.wrap ((get b a1).1+1)))=last+1+(get b a1).1:=fun h1 h2=>by rw[j4 ((get b a1).1+1) (by omega),j4 _ (by omega)];omega
       have W4:many=(many-1)+1:=by omega
       have zj:=O4 c6;rw[W4]at zj;refine⟨by simp only;omega,fun h=>?_,fun h=>?_,fun h=>?_,by have:=hok c6;simp only[bj,cM,jZ];omega,M9,Sf,S9,by omega,Nk,Nl,Qx,?_,ZA,ZB⟩
       ·dsimp only at h ⊢;have h3:(get b a1).2.2=0∧¬4611686018427387904-last-1<(get b a1).1:=by split at h<;>omega
        rw[zj,oV acc h3.1 h3.2,hx h3.1 h3.2]
       ·dsimp only at h ⊢;rw[zj]
        split
        ·rename_i h4;rw[vz h4.1 h4.2];rfl
        ·rename_i h4
         have h5:(get b a1).2.2≠0:=by intro h6;rw[if_neg h4]at h;exact h h6
         rw[sT h5];unfold andThen;rw[if_pos h5]
       ·dsimp only at h ⊢;have h3:(get b a1).2.2=0∧¬4611686018427387904-last-1<(get b a1).1:=by split at h<;>omega
        have:=vw h3.1;rw[hx h3.1 h3.2];simp only[bj,cM,jZ];omega
       ·dsimp only
        first
        |(rw[if_pos ⟨Ck,c9⟩];exact Nj)
        |(rw[if_neg (fun h=>c9 h.2)];exact Nj)
        |(rw[if_neg (fun h=>Ck h.1)];exact Nj)
      ·simp only;omega
    ·refine au rfl rfl rfl rfl (au rfl rfl rfl rfl (au rfl rfl rfl rfl (au rfl rfl rfl rfl (au rfl rfl rfl rfl (aE rfl rfl rfl (ab (jE rfl (aU (aj (ae (ad rfl rfl ?_)))))))))));refine ad rfl rfl (Rg.xn rfl rfl rfl (Rg.xn rfl rfl rfl (ah rfl rfl (ab (ae (ad rfl rfl (ad rfl rfl ?_)))))));refine ed (A:=RT.int .i64) (hn:=by decide) (M:=M1) an I3 (by decide) rfl rfl JB (fV (tj _)) (.inr ⟨rfl,rfl⟩) (fun u w8 hu s8=>?_);refine cZ (M:=M1) (base:=w4.heap.size) an I3 rfl rfl rfl rfl (ue.aP s8) hu (aq _ _) (by simp;omega) (by simp;omega) (by have:=s8.size;omega) (fun v9 M9 w9 Qx s9=>?_);have z8:=s8.size;have z9:=s9.size;have j9:∀k,k<w4.heap.size→¬fz u0 k:=fun k hk h=>by have:=(ho.base k h).1;omega
     have Nj:=s9.keep (s8.aK Zx) (j9 be (by omega));have ZA:=s9.keep (s8.aK Zy) (j9 ba (by omega));have ZB:=s9.keep (s8.aK Zz) (j9 bb (by omega));have S9:=(S6.aB s8).dg s9 (ue.aP s8) (by omega);have Sf:=s9.lt (s8.lt JB);have Nk:M9 be:=(s9.mem be (by omega)).2 Vl;have Nl:M9 ba:=(s9.mem ba (by omega)).2 Xj;refine ah rfl rfl (ab (ae (ad rfl rfl (fe rfl rfl rfl (by omega) (ah rfl rfl (ab ?_))))));refine⟨rfl,(many-1,(IntKind.i64.wrap (last+IntKind.i64.wrap ((get b a1).1+1))),v9,acc++[(IntKind.i64.wrap (last+IntKind.i64.wrap ((get b a1).1+1)))],(if(get b a1).2.2=0∧4611686018427387904-last-1<(get b a1).1 then 2 else(get b a1).2.2),(get b a1).2.1),(.cons rfl (.cons rfl (.cons rfl (.cons rfl (.cons rfl (.cons (show some (Value.int .i64 ((many:Int)-1))=some (Value.int .i64 ((many-1:Nat):Int))from by congr 2;omega) .nil)))))),?_,?_⟩
     ·have hx:(get b a1).2.2=0→¬4611686018427387904-last-1<(get b a1).1→(IntKind.i64.wrap (last+IntKind.i64.wrap ((get b a1).1+1)))=last+1+(get b a1).1:=fun h1 h2=>by rw[j4 ((get b a1).1+1) (by omega),j4 _ (by omega)];omega
      have W4:many=(many-1)+1:=by omega
      have zj:=O4 c6;rw[W4]at zj;refine⟨by simp only;omega,fun h=>?_,fun h=>?_,fun h=>?_,by have:=hok c6;simp only[bj,cM,jZ];omega,M9,Sf,S9,by omega,Nk,Nl,Qx,?_,ZA,ZB⟩
      ·dsimp only at h ⊢;have h3:(get b a1).2.2=0∧¬4611686018427387904-last-1<(get b a1).1:=by split at h<;>omega
       rw[zj,oV acc h3.1 h3.2,hx h3.1 h3.2]
      ·dsimp only at h ⊢;rw[zj]
       split
       ·rename_i h4;rw[vz h4.1 h4.2];rfl
       ·rename_i h4
        have h5:(get b a1).2.2≠0:=by intro h6;rw[if_neg h4]at h;exact h h6
        rw[sT h5];unfold andThen;rw[if_pos h5]
      ·dsimp only at h ⊢;have h3:(get b a1).2.2=0∧¬4611686018427387904-last-1<(get b a1).1:=by split at h<;>omega
       have:=vw h3.1;rw[hx h3.1 h3.2];simp only[bj,cM,jZ];omega
      ·dsimp only
       first
       |(rw[if_pos ⟨Ck,c9⟩];exact Nj)
       |(rw[if_neg (fun h=>c9 h.2)];exact Nj)
       |(rw[if_neg (fun h=>Ck h.1)];exact Nj)
     ·simp only;omega
   ·refine cG (aj (aj (ae (aM wy rfl rfl rfl (by assumption) rfl (eM rfl rfl rfl (ab ?_))))));refine bN rfl (fun PY=>?_) (fun PY=>?_)
    ·refine aj ?_;apply mQ mixed rfl rfl;intro Ve MY;have rE:=MY M1;refine aM wy rfl rfl rfl (by first|assumption|exact cW rE (by assumption)) rfl ?_;refine ab ⟨rfl,rfl,rfl,?_⟩;refine ah rfl rfl ?_;refine ab ⟨rfl,rfl,rfl,?_⟩;refine ah rfl rfl ?_;refine ab ⟨rfl,rfl,rfl,?_⟩;refine ah rfl rfl ?_;refine ab ⟨rfl,rfl,rfl,?_⟩;refine ew (aO ?_);have hr:=HG PY;exact rQ rfl rfl rfl rfl ⟨_,by rw[hr]<;>rfl,by rw[hr];exact pE,(S.aB rE).back⟩
    ·refine aU (aj ?_);apply mQ mixed rfl rfl;intro Vm Nn;have pY:=Nn M1;refine ad rfl rfl ?_;refine ab ⟨rfl,rfl,rfl,?_⟩;refine aM ax rfl rfl rfl (by first|assumption|exact cW pY (by assumption)) rfl ?_;refine ab ⟨rfl,rfl,rfl,?_⟩;refine ah rfl rfl ?_;refine ab ⟨rfl,rfl,rfl,?_⟩;refine ah rfl rfl ?_;refine ab ⟨rfl,rfl,rfl,?_⟩;refine ah rfl rfl ?_;refine ab ⟨rfl,rfl,rfl,?_⟩;refine ew (aO ?_);have hz:many=0:=by omega
     have hr:=O4 (by omega);rw[hz,yo]at hr;simp only[andThen,ne_eq,not_true_eq_false,if_false,iW]at hr;have ZC:=S.aB pY;refine rQ rfl rfl rfl rfl ⟨_,by rw[hr]<;>rfl,?_,ZC.back⟩;rw[hr];exact xF hM ZC ((ho.aP pY).nB (by omega)) (by simp only;omega)
  ·refine au rfl rfl rfl rfl (au rfl rfl rfl rfl (aE rfl rfl rfl (ab (jE rfl (cG (aj (aj (ae (aM wy rfl rfl rfl (by assumption) rfl (eM rfl rfl rfl (ab ?_)))))))))));refine bN rfl (fun PY=>?_) (fun PY=>?_)
   ·refine aj ?_;apply mQ mixed rfl rfl;intro Ve MY;have rE:=MY M1;refine aM wy rfl rfl rfl (by first|assumption|exact cW rE (by assumption)) rfl ?_;refine ab ⟨rfl,rfl,rfl,?_⟩;refine ah rfl rfl ?_;refine ab ⟨rfl,rfl,rfl,?_⟩;refine ah rfl rfl ?_;refine ab ⟨rfl,rfl,rfl,?_⟩;refine ah rfl rfl ?_;refine ab ⟨rfl,rfl,rfl,?_⟩;refine ew (aO ?_);have hr:=HG PY;exact rQ rfl rfl rfl rfl ⟨_,by rw[hr]<;>rfl,by rw[hr];exact pE,(S.aB rE).back⟩
   ·refine aU (aj ?_);apply mQ mixed rfl rfl;intro Vm Nn;have pY:=Nn M1;refine ad rfl rfl ?_;refine ab ⟨rfl,rfl,rfl,?_⟩;refine aM ax rfl rfl rfl (by first|assumption|exact cW pY (by assumption)) rfl ?_;refine ab ⟨rfl,rfl,rfl,?_⟩;refine ah rfl rfl ?_;refine ab ⟨rfl,rfl,rfl,?_⟩;refine ah rfl rfl ?_;refine ab ⟨rfl,rfl,rfl,?_⟩;refine ah rfl rfl ?_;refine ab ⟨rfl,rfl,rfl,?_⟩;refine ew (aO ?_);have hz:many=0:=by omega
    have hr:=O4 (by omega);rw[hz,yo]at hr;simp only[andThen,ne_eq,not_true_eq_false,if_false,iW]at hr;have ZC:=S.aB pY;refine rQ rfl rfl rfl rfl ⟨_,by rw[hr]<;>rfl,?_,ZC.back⟩;rw[hr];exact xF hM ZC ((ho.aP pY).nB (by omega)) (by simp only;omega)
end Go.K
namespace Go.K
open Go.Proofs
set_option maxRecDepth 10000
theorem Qy {M:aD} {w0:World} {v:Value} {x:Li} (hv:cN RT.li M w0 v x) {k:Int}:
  Spec Tryz.prog 222 #[v,.int .i64 k] w0 (fun v' w'=>v'= .bool (W8 x.2.1.length k)∧w0=w'):=by
 refine bc (args:=[_,_]) (fn:=Tryz.f222) Tryz.func222 rfl (n:=16) Tryz.ntmps222 (aj (ae (ah rfl rfl (ab (aj (ae (ad rfl rfl (dV rfl rfl rfl (ad rfl rfl ?_)))))))));refine aQ (g:=7) rfl (fun iL=>?_) (fun iL=>?_)
 ·refine al rfl rfl (ad rfl rfl (al rfl rfl (ad rfl rfl (al rfl rfl (bS rfl (cN.gz (by assumption)) rfl (al rfl rfl ?_))))));refine aN (M:=M) (A:=RT.li) (B:=(RT.bl).sl) ep rfl rfl I1 (by decide) (li1) rfl rfl (by decide) (by assumption) (by repeat (first|exact aq _ _|refine a8 (bD (by assumption)) ?_)) (fun apD ak3=>?_);refine al rfl rfl ?_;refine bT (M:=M) iH rfl rfl rfl rfl rfl (by assumption) (by repeat (first|exact aq _ _|refine a8 (bD (by assumption)) ?_)) (fun ZD Si=>?_);refine al rfl rfl ?_
  first|refine bM iH rfl (by assumption) rfl ?_|refine fM iH rfl (by assumption) rfl ?_
  refine al rfl rfl (cj rfl rfl rfl (aY rfl rfl rfl (ah rfl rfl (ab (aO ?_)))))
  first
  |exact aS rfl rfl ⟨congrArg Value.bool (decide_eq_decide.2 (by omega)),rfl⟩
  |exact aS rfl rfl ⟨congrArg Value.bool (dD (decide_eq_false (by omega))),rfl⟩
 ·refine au rfl rfl rfl rfl (au rfl rfl rfl rfl (au rfl rfl rfl rfl (au rfl rfl rfl rfl (au rfl rfl rfl rfl (au rfl rfl rfl rfl (au rfl rfl rfl rfl (aE rfl rfl rfl (ah rfl rfl (ab (aO ?_))))))))))
  first
  |exact aS rfl rfl ⟨congrArg Value.bool (decide_eq_decide.2 (by omega)),rfl⟩
  |exact aS rfl rfl ⟨congrArg Value.bool (dD (decide_eq_false (by omega))),rfl⟩
theorem GR {M:aD} {w0:World} {v:Value} {b:List UInt8} {at_ ahead:Int} (hM:Lt M w0) (hv:(RT.u8.sl).V M w0 b v) (Nh: -9223372036854775808≤at_∧at_≤9223372036854775807) (hah: -9223372036854775808≤ahead∧ahead≤9223372036854775807) (k3:b.length≤1099511627776):
  Spec Tryz.prog 223 #[v,.int .i64 at_,.int .i64 ahead] w0 (fun v' w'=>∃p,v'= .tuple #[p,.int .i64 (rV b at_ ahead).2.1,.int .i64 (rV b at_ ahead).2.2]∧RT.po.V M w' (rV b at_ ahead).1 p∧Step M w0 M w' aC):=by
 refine bc (args:=[_,_,_]) (fn:=Tryz.f223) Tryz.func223 rfl (n:=38) Tryz.ntmps223 (aj (ae ?_));refine dP M lM rfl (fun b0 w1 hb0 apE hB s1=>?_);have nS:=s1.lt hM;have A2:=hv.le s1.le;refine ah rfl rfl (ah rfl rfl (ab (aj (ae (ad rfl rfl (ad rfl rfl ?_))))));refine aX rfl rfl Yb (Er A2 Nh) (fun r w2 h2=>?_);obtain⟨rfl,rfl⟩:=h2;have x9:=AV b at_;obtain⟨hn0,hn1,hn2,hn3⟩:=oW b at_;refine ad rfl rfl (bW rfl rfl rfl (bW rfl rfl rfl (bW rfl rfl rfl (ah rfl rfl (ah rfl rfl (ah rfl rfl (ab (aj (aj (ae (ad rfl rfl ?_)))))))))));refine eM rfl rfl rfl (ab ?_);refine bN rfl (fun c2=>?_) (fun c2=>?_)
 ·refine aj (ae (iC (places:=[(0,1),(1,1)]) bI lM X3 rfl rfl (out:=[.int .i64 0,.slice none 0 0]) rfl (ad rfl rfl ?_)));refine dC (M:=ins M b0) lM rfl rfl (by intro u hu;simp at hu;rcases hu with rfl|rfl<;>rfl) rfl rfl hB (.inl rfl) (fun w3 hB3 s3=>?_);refine ah rfl rfl (ah rfl rfl (ab (aO ?_)));have jT:=s1.size;have S:Step M w0 M w3 aC:=(s1.cd s3 (fun k hk=>by subst hk;omega)).back;refine KU rfl rfl bI rfl lM rfl hB3 rfl rfl ⟨_,by unfold rV;rw[if_pos c2]<;>rfl,?_,S⟩;unfold rV;rw[if_pos c2];exact eS (fV (x:=0) (by omega)) pE rfl rfl rfl rfl
 ·refine aU (aj (ae (ad rfl rfl (ad rfl rfl ?_))));have hok:=vw (b:=b) (at_:=at_) (by omega);refine aX rfl rfl adX (zi (M:=ins M b0) nS A2 (by omega) k3) (fun r w3 h3=>?_);obtain⟨x3,rfl,JC,s3⟩:=h3;refine ad rfl rfl (bW rfl rfl rfl (bW rfl rfl rfl (bW rfl rfl rfl (ah rfl rfl (ah rfl rfl (ah rfl rfl (ab (aj (ae (ad rfl rfl (Rg.xn rfl rfl rfl ?_)))))))))));refine ad rfl rfl (Rg.xn rfl rfl rfl (ad rfl rfl (iC (places:=[(0,1),(1,1)]) bI lM X3 rfl ⟨_,_,rfl,rfl,_,_,rfl,rfl,rfl⟩ (out:=[_,_]) ⟨0,[_],rfl,rfl,by simp[Value.cells],1,[_],rfl,ju JC,by simp[Value.cells],rfl⟩ (ad rfl rfl (ad rfl rfl ?_)))));obtain⟨vx,rD⟩:∃vx,vx=x3:=⟨_,rfl⟩;have sJ:=lE JC rfl rfl;refine dC (M:=ins M b0) lM rfl rfl (by intro u hu;simp at hu;rcases hu with rfl|rfl;rfl;exact sJ) rfl rfl (s3.aK hB) (.inl rfl) (fun w4 hB4 s4=>?_);refine ah rfl rfl (ah rfl rfl (ab (aO ?_)));have jT:=s1.size;have apG:=s3.size;have S3:=s1.aB s3;have S:Step M w0 M w4 aC:=(S3.cd s4 (fun k hk=>by subst hk;omega)).back;refine KU rfl rfl bI rfl lM rfl hB4 rfl rfl ⟨_,by unfold rV;rw[if_neg c2]<;>rfl,?_,S⟩;unfold rV;rw[if_neg c2];have hx4:=(JC.le s4.le).le (Le.close hM (S3.cd s4 (fun k hk=>by subst hk;omega)));exact eS (fV KW) hx4 rfl rfl rfl rfl
theorem GS {M:aD} {w0:World} {v:Value} {l:List Po} {k:Int} (hM:Lt M w0) (hv:cN RT.li M w0 v (mU l)) (mY:fH (-1) l=true) (kf:∀p∈l,p.2.length≤1099511627776) (k3:(dY (-1) l).length≤1099511627776):
  Spec Tryz.prog 180 #[v,.int .i64 k] w0 (fun v' w'=>Step M w0 M w' aC∧((RT.po).sl).V M w' (if W8 ((l.length+7)/8) k then(l.drop (8*k.toNat)).take 8 else[]) v'):=by
 have ZE:(mU l).2.1.length=(l.length+7)/8:=by simp[mU,rC]
 refine bc (args:=[_,_]) (fn:=Tryz.f180) Tryz.func180 rfl (n:=51) Tryz.ntmps180 (aj (ae (ah rfl rfl (ab (aj (aj (ae (ad rfl rfl (ad rfl rfl ?_)))))))));refine aX rfl rfl adM (Qy hv (k:=k)) (fun r w1 h1=>?_);obtain⟨rfl,rfl⟩:=h1;refine lH rfl rfl (aV (v':= .bool (decide (¬(0≤k∧k<(mU l).2.1.length)))) (by unfold W8;rw[decide_not]) (ab ?_));refine bN rfl (fun c1=>?_) (fun c1=>?_)
 ·refine aj (ae (ah rfl rfl (ab (aO ?_))));refine aS rfl rfl ⟨aw _ _,?_⟩;rw[if_neg (by unfold W8;rw[ZE]at c1;simpa using c1)];exact pE
 ·refine aU (aj (ae (ad rfl rfl (bS rfl (cN.gz (by assumption)) rfl ?_))));refine aN (M:=M) (A:=RT.li) (B:=(RT.bl).sl) ep rfl rfl I1 (by decide) (li1) rfl rfl (by decide) (by assumption) (by repeat (first|exact aq _ _|refine a8 (bD (by assumption)) ?_)) (fun UK A7=>?_);refine bT (M:=M) iH rfl rfl rfl rfl rfl (by assumption) (by repeat (first|exact aq _ _|refine a8 (bD (by assumption)) ?_)) (fun af5 ZF=>?_);refine ad rfl rfl ?_;obtain⟨j,rfl⟩:∃j:Nat,k=j:=⟨k.toNat,by omega⟩;have hb:(mU l).2.1[j]? =some (wL l j):=by simp only[mU,rC,bC];rw[List.getElem?_range (by omega)];rfl
  refine cy (M:=M) iH BW rfl rfl rfl (by assumption) (aq _ _) (by omega) (fun apI af6 ZG ak4=>?_);obtain rfl:af6=wL l j:=aH (ZG.symm.trans (by simpa using hb));have R4:(wL l j).2.2.2=(((l.drop (8*j)).take 8).length:Int):=rfl;have ak5:((l.drop (8*j)).take 8).length≤8:=by rw[bH];omega
  refine cX (M:=M) (A:=RT.bl) sG rfl BW (by decide) rfl rfl rfl (by assumption) (by repeat (first|exact aq _ _|refine a8 (bD (by assumption)) ?_)) (fun apJ ak6=>?_);refine xG (A:=RT.bl) (M:=M) BW rfl rfl rfl rfl rfl (by assumption) (by repeat (first|exact aq _ _|refine a8 (bD (by assumption)) ?_)) (by first|assumption|exact Step.lt (by assumption) (by assumption)|exact Step.lt (by assumption) (Step.lt (by assumption) (by assumption))) (fun af7 Vn ak7 Vo apK=>?_);refine ab (aj (ae (ah rfl rfl (ab (aj (aj ?_))))));apply T.draw (M:=M) mixed [cL.ptr (RT.int .i64) (wL l j).1,cL.eq _,cL.ptr (RT.int .i64) (wL l j).2.1,cL.eq _,cL.eq _,cL.eq _]
  ·rfl
  ·refine cD ?_ ?_
   ·intro wD E sD;refine aN (M:=M) (A:=RT.bl) (B:=RT.int .i64) sG rfl rfl I3 (by decide) (bl0) rfl rfl (by decide) (by assumption) (by repeat (first|exact aq _ _|refine a8 (bD (by assumption)) ?_)) (fun Zv H8=>?_);exact ab ⟨rfl,rfl,_,rfl,by assumption,aw _ _⟩
   refine cD ?_ ?_
   ·intro wD E sD;intro v0 OX;refine cb (M:=M) ax rfl rfl (by assumption) (by repeat (first|exact aq _ _|refine a8 (bD (by assumption)) ?_)) (fun Sj=>?_);exact ab ⟨rfl,rfl,_,rfl,rfl,aw _ _⟩
   refine cD ?_ ?_
   ·intro wD E sD;refine aN (M:=M) (A:=RT.bl) (B:=RT.int .i64) sG rfl rfl I3 (by decide) (bl1) rfl rfl (by decide) (by assumption) (by repeat (first|exact aq _ _|refine a8 (bD (by assumption)) ?_)) (fun af8 xa=>?_);exact ab ⟨rfl,rfl,_,rfl,by assumption,aw _ _⟩
   refine cD ?_ ?_
   ·intro wD E sD;intro v2 Fu;refine cb (M:=M) ax rfl rfl (by assumption) (by repeat (first|exact aq _ _|refine a8 (bD (by assumption)) ?_)) (fun ak8=>?_);exact ab ⟨rfl,rfl,_,rfl,rfl,aw _ _⟩
   refine cD ?_ ?_
   ·intro wD E sD;refine aR ?_;intro v0 OX;refine aR (ah rfl rfl ?_);exact ab ⟨rfl,rfl,_,rfl,rfl,aw _ _⟩
   refine cD ?_ ?_
   ·intro wD E sD;refine aR (aR ?_);intro v0 OX;refine aR ?_;intro v2 Fu;refine aR (aR (ah rfl rfl ?_));exact ab ⟨rfl,rfl,_,rfl,rfl,aw _ _⟩
   exact eh.nil
  ·intro wD5 Qu;intro apL ak9;refine aR ?_;intro aeI RN;refine aR (aR (aR (aZ ?_)));have hz5:=Vo.size;refine de (σ:=Nat×Value) (fun s=>[(0,v),(5,af7),(6,s.2),(7,.int .i64 (dY (-1) (l.take (8*j+s.1))).length),(8,.int .i64 (dr (-1) (l.take (8*j+s.1))))]) (fun s w=>s.1≤((l.drop (8*j)).take 8).length∧∃M1,Lt M1 w∧Step M w0 M1 w aC∧Step M Vn M1 w aC∧Own RT.po 83 M1 w Vn.heap.size s.2 (((l.drop (8*j)).take 8).take s.1)) (fun s=>((l.drop (8*j)).take 8).length-s.1) (0,_) (.cons rfl (.cons rfl (.cons rfl (.cons rfl (.cons rfl .nil))))) ?_ ?_
   ·exact⟨bE _,M,Qu.lt (Vo.lt hM),Vo.aB Qu,Qu,dF _ _ _ _ _⟩
   ·rintro⟨i,u0⟩ w1 ⟨hi,M1,nS,S,S5,ho⟩;dsimp only at hi ho ⊢;refine aj (aj (ae (ad rfl rfl (fM br rfl ho rfl (aV (v':= .int .i64 i) (by rw[bH,xY hi]) ?_)))));refine aN (M:=M1) (A:=RT.bl) (B:=RT.int .i64) sG rfl rfl I3 (by decide) (bl3) rfl rfl (by decide) (by assumption) (by repeat (first|exact aq _ _|refine a8 (bD (by assumption)) ?_)) (fun Yw ZH=>?_);refine cb (M:=M1) ax rfl rfl ZH (aq _ _) (fun ala=>?_);refine aV (v':= .int .i64 ((l.drop (8*j)).take 8).length) rfl (cj rfl rfl rfl (ab ?_));refine bN rfl (fun c6=>?_) (fun c6=>?_)
    ·refine aU (aZ (aj (ae (ad rfl rfl (bS rfl (cN.gz (by assumption)) rfl ?_)))));refine aN (M:=M1) (A:=RT.li) (B:=RT.u8.sl) ep rfl rfl Dp (by decide) (li0) rfl rfl (by decide) (by assumption) (by repeat (first|exact aq _ _|refine a8 (bD (by assumption)) ?_)) (fun afm Bg=>?_);refine bT (M:=M1) bQ rfl rfl rfl rfl rfl (by assumption) (by repeat (first|exact aq _ _|refine a8 (bD (by assumption)) ?_)) (fun apM ZI=>?_);refine ad rfl rfl (ad rfl rfl ?_);obtain⟨⟨d,ps⟩,hx⟩:∃x,l[8*j+i]? =some x:=⟨_,ar (by rw[bH,du]at c6;omega)⟩;obtain⟨f1,f2,f3,f4,f5,f6⟩:=BP mY hx;have RM:rV (mU l).1 _ _=_:=KY mY hx (kf _ (aA hx));have rz:(dY (-1) (l.take (8*j+i))).length≤(dY (-1) l).length:=by rw[qo (l:=l) (i:=8*j+i) (-1)];simp
     refine aX rfl rfl adN (GR (M:=M1) nS ZI (by omega) (by omega) k3) (fun r7 w7 h7=>?_);obtain⟨p7,h7e,Xk,s7⟩:=h7;rw[RM]at h7e Xk;subst h7e;change RT.po.V M1 w7 (d,ps) p7 at Xk;replace S:=S.aB s7;replace S5:=S5.aB s7;replace ho:=ho.aP s7;replace nS:=s7.lt nS;have hci:((l.drop (8*j)).take 8)[i]? =some (d,ps):=by rw[cn,if_pos (by omega),List.getElem?_drop];exact hx
     refine ad rfl rfl (bW rfl rfl rfl (bW rfl rfl rfl (bW rfl rfl rfl ?_)));refine xG (A:=RT.po) (M:=M1) lM rfl rfl rfl rfl rfl (by assumption) (by repeat (first|exact aq _ _|refine a8 (bD (by assumption)) ?_)) (by first|assumption|exact Step.lt (by assumption) (by assumption)|exact Step.lt (by assumption) (Step.lt (by assumption) (by assumption))) (fun alc ald No H9 ale=>?_);refine ah rfl rfl (ah rfl rfl (ab (aj (ae (ad rfl rfl ?_)))));replace S:=S.aB H9;replace S5:=S5.aB H9;replace ho:=ho.aP H9;replace nS:=H9.lt nS;clear Xk;refine cX (M:=M1) (A:=RT.po) bI rfl lM (by decide) rfl rfl rfl No (aq _ _) (fun v8 Kn=>?_);refine ed (A:=RT.po) (hn:=by decide) (M:=M1) br lM (by decide) rfl rfl nS Kn (.inl rfl) (fun u2 w2 rT s2=>?_);refine cZ (M:=M1) (base:=Vn.heap.size) br lM rfl rfl rfl rfl (ho.aP s2) rT (aq _ _) (by simp;omega) (by simp;omega) (ez S5.size s2.size) (fun v3 M3 w3 ze s3=>?_);replace S:=(S.aB s2).dg s3 (ho.aP s2) hz5;have YV:=(No.le (by decide) s2.le).le (by decide) s3.le;have ZJ:=s3.lt (s2.lt nS);replace S5:=(S5.aB s2).dg s3 (ho.aP s2) (aT _);refine ah rfl rfl (ab ?_);apply T.draw (M:=M3) mixed [cL.eq _,cL.ptr (RT.int .i64) d,cL.eq _,cL.eq _,cL.eq _]
     ·rfl
     ·refine cD ?_ ?_
      ·intro wD E sD;refine ad rfl rfl ?_;exact ab ⟨rfl,rfl,_,rfl,rfl,aw _ _⟩
      refine cD ?_ ?_
      ·intro wD E sD;refine aN (M:=M3) (A:=RT.po) (B:=RT.int .i64) bI rfl rfl I3 (by decide) (O0) rfl rfl (by decide) YV sD.le (fun afu MO=>?_);exact ab ⟨rfl,rfl,_,rfl,MO,aw _ _⟩
      refine cD ?_ ?_
      ·intro wD E sD;intro v1 A2;refine cb (M:=M3) ax rfl rfl (by assumption) (by repeat (first|exact aq _ _|refine a8 (bD (by assumption)) ?_)) (fun alf=>?_);exact ab ⟨rfl,rfl,_,rfl,rfl,aw _ _⟩
      refine cD ?_ ?_
      ·intro wD E sD;refine aR (aR (ah rfl rfl ?_));exact ab ⟨rfl,rfl,_,rfl,rfl,aw _ _⟩
      refine cD ?_ ?_
      ·intro wD E sD;refine aR (aR (aR ?_));intro v1 A2;refine aR (aR (ah rfl rfl ?_));exact ab ⟨rfl,rfl,_,rfl,rfl,aw _ _⟩
      exact eh.nil
     ·intro Sk Et;refine aR ?_;intro apO alg;refine aR (aR (aR ?_));refine⟨rfl,(i+1,v3),(.cons rfl (.cons rfl (.cons rfl (.cons rfl (.cons (by rw[←f5];rfl) .nil))))),?_,?_⟩
      ·refine⟨by simp only;omega,M3,Et.lt ZJ,S.aB Et,S5.aB Et,?_⟩;simp only;obtain⟨vG,tA⟩:=ao.1 hci;rw[su vG,tA];exact ze.aP Et
      ·simp only;omega
    ·refine cG (aj (ae (ad rfl rfl (ah rfl rfl (ab (aO ?_))))));refine aS rfl rfl ⟨S.back,?_⟩;rw[if_pos (by unfold W8;rw[ZE]at c1;simpa using c1),ay];rw[aW (by omega)]at ho;exact xF hM S (ho.nB hz5) (by omega)
end Go.K
namespace Go.K
open Go.Proofs
set_option maxRecDepth 10000
theorem Eu {M:aD} {w0:World} {v:Value} {l:List Int} (hv:((RT.int .i64).sl).V M w0 l v):
  Spec Tryz.prog 249 #[v] w0 (fun v' w'=>v'= .bool (oX l)∧w0=w'):=by
 have hlen:=dy hv;refine bc (args:=[_]) (fn:=Tryz.f249) Tryz.func249 rfl (n:=32) Tryz.ntmps249 (aj (ae (ah rfl rfl (ab (aj (aj (ae (ad rfl rfl ?_))))))))
 first|refine bM an rfl (by assumption) rfl ?_|refine fM an rfl (by assumption) rfl ?_
 refine ad rfl rfl (ab (aZ ?_));refine de (σ:=Nat×Int) (fun s=>[(0,v),(5,v),(6,.int .i64 l.length),(7,.int .i64 s.1)]) (fun s w=>w0=w∧s.1≤l.length∧oX l=(eo s.2 (l.drop s.1)&&(l.drop s.1).all (fun n=>decide (n<2147483648)))∧ -1≤s.2∧(s.1=0→s.2= -1)∧(0<s.1→l[s.1-1]? =some s.2)) (fun s=>l.length-s.1) (0,-1) (.cons rfl (.cons rfl (.cons rfl (.cons rfl .nil)))) ?_ ?_
 ·exact⟨rfl,bE _,rfl,by decide,fun _=>rfl,fun h=>absurd h (jt 0)⟩
 ·rintro⟨k,last⟩ w1 ⟨rfl,hk,hr,Xh,h0,h1⟩;dsimp only at hk hr Xh h0 h1 ⊢;refine aj (ae (cj rfl rfl rfl (ab (aj ?_))));refine bN rfl (fun c2=>?_) (fun c2=>?_)
  ·refine aU (aj (aZ (aj (ae (ad rfl rfl ?_)))));obtain⟨x,hx⟩:∃x,l[k]? =some x:=⟨_,ar (by omega)⟩;refine cy (M:=M) an I3 rfl rfl rfl hv (aq _ _) (by omega) (fun apP aga ZK alh=>?_);obtain rfl:x=aga:=dD (aH (ZK.symm.trans (by simpa using hx)));refine cb (M:=M) ax rfl rfl (by assumption) (by repeat (first|exact aq _ _|refine a8 (bD (by assumption)) ?_)) (fun ali=>?_);refine ah rfl rfl (ah rfl rfl (ab (aj (ae (ad rfl rfl (cj rfl rfl rfl (ad rfl rfl ?_)))))));refine aQ (g:=14) rfl (fun lQ=>?_) (fun lQ=>?_)
   ·refine au rfl rfl rfl rfl (au rfl rfl rfl rfl (aY rfl rfl rfl (ad rfl rfl (au rfl rfl rfl rfl (au rfl rfl rfl rfl (au rfl rfl rfl rfl (cq rfl rfl rfl (cq rfl rfl rfl (cq rfl rfl rfl (cq rfl rfl rfl (cq rfl rfl rfl ?_)))))))))));refine cq rfl rfl rfl (cq rfl rfl rfl (au rfl rfl rfl rfl (aY rfl rfl rfl (ab (nQ rfl (aj (ae (ah rfl rfl (ab (aO ?_))))))))));refine aS rfl rfl ⟨congrArg Value.bool (dD ?_),rfl⟩;rw[hr,gA hx,qp _ hx];by_cases h7:last<x
    ·have h2: ¬x<2147483648:=by omega
     simp[h2]
    ·simp[h7]
   ·refine al rfl rfl (ad rfl rfl (al rfl rfl (dV rfl rfl rfl (aE rfl rfl rfl (ad rfl rfl ?_)))));refine aQ (g:=18) rfl (fun agb=>?_) (fun agb=>?_)
    ·refine au rfl rfl rfl rfl (au rfl rfl rfl rfl (au rfl rfl rfl rfl (cq rfl rfl rfl (cq rfl rfl rfl (cq rfl rfl rfl (cq rfl rfl rfl (cq rfl rfl rfl (cq rfl rfl rfl (cq rfl rfl rfl (au rfl rfl rfl rfl (aY rfl rfl rfl ?_)))))))))));refine ab (nQ rfl (aj (ae (ah rfl rfl (ab (aO ?_))))));refine aS rfl rfl ⟨congrArg Value.bool (dD ?_),rfl⟩;rw[hr,gA hx,qp _ hx];by_cases h7:last<x
     ·have h2: ¬x<2147483648:=by omega
      simp[h2]
     ·simp[h7]
    ·refine al rfl rfl (ad rfl rfl (al rfl rfl (jd rfl rfl rfl (al rfl rfl (ad rfl rfl ?_)))));refine aQ (g:=21) rfl (fun agc=>?_) (fun agc=>?_)
     ·refine al rfl rfl (ad rfl rfl (al rfl rfl (ad rfl rfl (al rfl rfl (ad rfl rfl (al rfl rfl (fe rfl rfl rfl (by omega) (al rfl rfl ?_))))))));refine cy (M:=M) an I3 rfl rfl rfl hv (aq _ _) (by omega) (fun ZL Np GU Vp=>?_);obtain rfl:last=Np:=dD (aH (GU.symm.trans (by rw[show((k:Int)-1).toNat=k-1 from by omega];exact h1 (by omega))));refine al rfl rfl ?_;refine cb (M:=M) ax rfl rfl (by assumption) (by repeat (first|exact aq _ _|refine a8 (bD (by assumption)) ?_)) (fun agd=>?_);refine al rfl rfl (gK rfl rfl rfl (al rfl rfl (aY rfl rfl rfl (aE rfl rfl rfl (ab ?_)))));refine bN rfl (fun c4=>?_) (fun c4=>?_)
      ·refine aj (ae (ah rfl rfl (ab (aO ?_))));refine aS rfl rfl ⟨congrArg Value.bool (dD ?_),rfl⟩;rw[hr,gA hx,qp _ hx];by_cases h7:last<x
       ·have h2: ¬x<2147483648:=by omega
        simp[h2]
       ·simp[h7]
      ·refine aU (ae (bF rfl rfl rfl (by omega) (ad rfl rfl (ab ?_))));refine⟨rfl,(k+1,x),(.cons rfl (.cons rfl (.cons rfl (.cons rfl .nil)))),?_,?_⟩
       ·refine⟨rfl,by simp only;omega,?_,by simp only;omega,fun h=>by simp at h,fun _=>by simpa using hx⟩;rw[hr,gA hx,qp _ hx,decide_eq_true (show last<x by omega),decide_eq_true (show x<2147483648 by omega),eR,eR]
       ·simp only;omega
     ·refine au rfl rfl rfl rfl (au rfl rfl rfl rfl (au rfl rfl rfl rfl (au rfl rfl rfl rfl (au rfl rfl rfl rfl (au rfl rfl rfl rfl (au rfl rfl rfl rfl (al rfl rfl (aE rfl rfl rfl (aE rfl rfl rfl (ab (jE rfl ?_)))))))))));refine aU (ae (bF rfl rfl rfl (by omega) (ad rfl rfl (ab ?_))));refine⟨rfl,(k+1,x),(.cons rfl (.cons rfl (.cons rfl (.cons rfl .nil)))),?_,?_⟩
      ·refine⟨rfl,by simp only;omega,?_,by simp only;omega,fun h=>by simp at h,fun _=>by simpa using hx⟩;rw[hr,gA hx,qp _ hx,decide_eq_true (show last<x by omega),decide_eq_true (show x<2147483648 by omega),eR,eR]
      ·simp only;omega
  ·refine cG (aj (ae (ah rfl rfl (ab (aO ?_)))));refine aS rfl rfl ⟨congrArg Value.bool (dD ?_),rfl⟩;rw[hr,fv (by omega)];rfl
theorem JD {M:aD} {w0:World} {v:Value} {l:List Po} (hM:Lt M w0) (hv:((RT.po).sl).V M w0 l v):
  Spec Tryz.prog 193 #[v] w0 (fun v' w'=>v'= .bool (fH (-1) l)∧Step M w0 M w' aC):=by
 have hlen:=dy hv;refine bc (args:=[_]) (fn:=Tryz.f193) Tryz.func193 rfl (n:=36) Tryz.ntmps193 (aj (ae (ah rfl rfl (ab (aj (ae (ah rfl rfl (ab (aj (aj (ae ?_)))))))))));refine ad rfl rfl ?_
 first|refine bM br rfl (by assumption) rfl ?_|refine fM br rfl (by assumption) rfl ?_
 refine ad rfl rfl (ab (aZ ?_));refine de (σ:=Nat×Int) (fun s=>[(6,v),(7,.int .i64 l.length),(8,.int .i64 s.1),(3,.int .i64 s.2)]) (fun s w=>Step M w0 M w aC∧s.1≤l.length∧fH (-1) l=fH s.2 (l.drop s.1)) (fun s=>l.length-s.1) (0,-1) (.cons rfl (.cons rfl (.cons rfl (.cons rfl .nil)))) ?_ ?_
 ·exact⟨aw _ _,bE _,rfl⟩
 ·rintro⟨k,last⟩ w1 ⟨S,hk,hr⟩;dsimp only at hk hr ⊢;have hMw:=S.lt hM;refine aj (ae (cj rfl rfl rfl (ab (aj ?_))));refine bN rfl (fun c3=>?_) (fun c3=>?_)
  ·refine aU (aj (aZ (aj (ae ?_))));obtain⟨⟨d,ps⟩,hx⟩:∃x,l[k]? =some x:=⟨_,ar (by omega)⟩;refine cy (M:=M) br lM rfl rfl rfl (hv.le S.le) (aq _ _) (by omega) (fun Uq age ZM HS=>?_);obtain rfl:age=(d,ps):=aH (ZM.symm.trans (by simpa using hx));refine cX (M:=M) (A:=RT.po) bI rfl lM (by decide) rfl rfl rfl (by assumption) (by repeat (first|exact aq _ _|refine a8 (bD (by assumption)) ?_)) (fun Ur LJ=>?_);refine xG (A:=RT.po) (M:=M) lM rfl rfl rfl rfl rfl (by assumption) (by repeat (first|exact aq _ _|refine a8 (bD (by assumption)) ?_)) (by first|assumption|exact Step.lt (by assumption) (by assumption)|exact Step.lt (by assumption) (Step.lt (by assumption) (by assumption))) (fun Yj PO oh my afQ=>?_);refine ab (aj (aj (ae ?_)));refine aN (M:=M) (A:=RT.po) (B:=RT.int .i64) bI rfl rfl I3 (by decide) (O0) rfl rfl (by decide) (by assumption) (by repeat (first|exact aq _ _|refine a8 (bD (by assumption)) ?_)) (fun Zv H8=>?_);refine cb (M:=M) ax rfl rfl H8 (aq _ _) (fun Sj=>?_);refine aV (v':= .int .i64 d) rfl ?_;simp only at Sj;refine ad rfl rfl (gK rfl rfl rfl (ad rfl rfl ?_));refine aQ (g:=16) rfl (fun Vq=>?_) (fun Vq=>?_)
   ·refine au rfl rfl rfl rfl (au rfl rfl rfl rfl (au rfl rfl rfl rfl (aY rfl rfl rfl (ad rfl rfl (au rfl rfl rfl rfl (au rfl rfl rfl rfl (au rfl rfl rfl rfl (au rfl rfl rfl rfl (aY rfl rfl rfl (ad rfl rfl (au rfl rfl rfl rfl ?_)))))))))));refine au rfl rfl rfl rfl (au rfl rfl rfl rfl (au rfl rfl rfl rfl (aY rfl rfl rfl (ab (nQ rfl (aj (ae (ah rfl rfl (ab (aO ?_))))))))));refine aS rfl rfl ⟨congrArg Value.bool (dD ?_),S.aB my⟩;rw[hr,mg hx]
    first
    |(rw[decide_eq_false (show¬last<d by omega)];simp;done)
    |(rw[decide_eq_false (show¬d<2147483648 by omega)];simp;done)
    |(rw[show ps=[]from cR.1 (by omega)];simp;done)
    |(simp[c5];done)
   ·refine al rfl rfl ?_;refine aN (M:=M) (A:=RT.po) (B:=RT.int .i64) bI rfl rfl I3 (by decide) (O0) rfl rfl (by decide) (by assumption) (by repeat (first|exact aq _ _|refine a8 (bD (by assumption)) ?_)) (fun agf kr=>?_);refine al rfl rfl ?_;refine cb (M:=M) ax rfl rfl kr (aq _ _) (fun alj=>?_);refine aV (v':= .int .i64 d) rfl (al rfl rfl (dV rfl rfl rfl (aE rfl rfl rfl (ad rfl rfl ?_))));refine aQ (g:=21) rfl (fun Vr=>?_) (fun Vr=>?_)
    ·refine au rfl rfl rfl rfl (au rfl rfl rfl rfl (au rfl rfl rfl rfl (au rfl rfl rfl rfl (aY rfl rfl rfl (ad rfl rfl (au rfl rfl rfl rfl (au rfl rfl rfl rfl (au rfl rfl rfl rfl (au rfl rfl rfl rfl (aY rfl rfl rfl (ab ?_)))))))))));refine nQ rfl (aj (ae (ah rfl rfl (ab (aO ?_)))));refine aS rfl rfl ⟨congrArg Value.bool (dD ?_),S.aB my⟩;rw[hr,mg hx]
     first
     |(rw[decide_eq_false (show¬last<d by omega)];simp;done)
     |(rw[decide_eq_false (show¬d<2147483648 by omega)];simp;done)
     |(rw[show ps=[]from cR.1 (by omega)];simp;done)
     |(simp[c5];done)
    ·refine al rfl rfl ?_;refine aN (M:=M) (A:=RT.po) (B:=(RT.int .i64).sl) bI rfl rfl jL (by decide) (TO) rfl rfl (by decide) (by assumption) (by repeat (first|exact aq _ _|refine a8 (bD (by assumption)) ?_)) (fun alk agh=>?_);refine al rfl rfl ?_;refine bT (M:=M) an rfl rfl rfl rfl rfl (by assumption) (by repeat (first|exact aq _ _|refine a8 (bD (by assumption)) ?_)) (fun alm Vs=>?_);refine al rfl rfl (bM an rfl Vs rfl (aV (v':= .int .i64 ps.length) rfl (al rfl rfl (nX rfl rfl rfl (aE rfl rfl rfl (ad rfl rfl ?_))))));refine aQ (g:=27) rfl (fun Sm=>?_) (fun Sm=>?_)
     ·refine au rfl rfl rfl rfl (au rfl rfl rfl rfl (au rfl rfl rfl rfl (au rfl rfl rfl rfl (aY rfl rfl rfl (ab (nQ rfl (aj (ae (ah rfl rfl (ab (aO ?_)))))))))));refine aS rfl rfl ⟨congrArg Value.bool (dD ?_),S.aB my⟩;rw[hr,mg hx]
      first
      |(rw[decide_eq_false (show¬last<d by omega)];simp;done)
      |(rw[decide_eq_false (show¬d<2147483648 by omega)];simp;done)
      |(rw[show ps=[]from cR.1 (by omega)];simp;done)
      |(simp[c5];done)
     ·refine al rfl rfl ?_;refine aN (M:=M) (A:=RT.po) (B:=(RT.int .i64).sl) bI rfl rfl jL (by decide) (TO) rfl rfl (by decide) (by assumption) (by repeat (first|exact aq _ _|refine a8 (bD (by assumption)) ?_)) (fun aln agi=>?_);refine al rfl rfl ?_;refine bT (M:=M) an rfl rfl rfl rfl rfl (by assumption) (by repeat (first|exact aq _ _|refine a8 (bD (by assumption)) ?_)) (fun alo Vt=>?_);refine al rfl rfl ?_;refine aX rfl rfl adT (Eu Vt) (fun r5 w5 h5=>?_);obtain⟨rfl,rfl⟩:=h5;refine al rfl rfl (lH rfl rfl (aV (v':= .bool (decide (¬oX ps=true))) (by simp) (aE rfl rfl rfl (ab ?_))));refine bN rfl (fun c5=>?_) (fun c5=>?_)
      ·refine aj (ae (ah rfl rfl (ab (aO ?_))));refine aS rfl rfl ⟨congrArg Value.bool (dD ?_),S.aB my⟩;rw[hr,mg hx]
       first
       |(rw[decide_eq_false (show¬last<d by omega)];simp;done)
       |(rw[decide_eq_false (show¬d<2147483648 by omega)];simp;done)
       |(rw[show ps=[]from cR.1 (by omega)];simp;done)
       |(simp[c5];done)
      ·refine aU (ae ?_);refine aN (M:=M) (A:=RT.po) (B:=RT.int .i64) bI rfl rfl I3 (by decide) (O0) rfl rfl (by decide) (by assumption) (by repeat (first|exact aq _ _|refine a8 (bD (by assumption)) ?_)) (fun YO HT=>?_);refine cb (M:=M) ax rfl rfl HT (aq _ _) (fun alp=>?_);refine aV (v':= .int .i64 d) rfl (ah rfl rfl (ab (ae (bF rfl rfl rfl (by omega) (ad rfl rfl (ab ?_))))));refine⟨rfl,(k+1,d),(.cons rfl (.cons rfl (.cons rfl (.cons rfl .nil)))),?_,?_⟩
       ·refine⟨S.aB my,by simp only;omega,?_⟩
        have eK:ps.isEmpty=false:=by cases ps with
         |nil=>simp at Sm
         |cons a t=>rfl
        rw[hr,mg hx,decide_eq_true (show last<d by omega),decide_eq_true (show d<2147483648 by omega),eK,cJ.1 c5];rfl
       ·simp only;omega
  ·refine cG (aj (ae (ah rfl rfl (ab (aO ?_)))));refine aS rfl rfl ⟨congrArg Value.bool (dD ?_),S⟩;rw[hr,fv (by omega)];rfl
theorem GV {M:aD} {w0:World} {v:Value} {l:List Po} (hM:Lt M w0) (hv:((RT.po).sl).V M w0 l v):
  Spec Tryz.prog 194 #[v,.int .i64 8] w0 (fun v' w'=>∃bs bn,v'= .func (.func 250) [].toArray [.pointer (some ⟨bs,0,none⟩),.pointer (some ⟨bn,0,none⟩)].toArray∧w'.heap[bs]? =some (.cells #[v] 80 (0,0))∧w'.heap[bn]? =some (.cells #[.int .i64 8] 3 (0,0))∧w0.heap.size≤bs∧w0.heap.size≤bn∧Step M w0 M w' aC):=by
 refine bc (args:=[_,_]) (fn:=Tryz.f194) Tryz.func194 rfl (n:=9) Tryz.ntmps194 (aj (ae ?_));refine xj M rfl rfl (fun bs w1 h1 W7 hS s1=>?_);rw[ju hv]at hS;refine xj (ins M bs) rfl rfl (fun bn w2 h2 yc hN s2=>?_);have hS2:=s2.aK hS;have hz1:=s1.size;refine ah rfl rfl (ab (aj (aj (ae (aM ax rfl rfl rfl hN rfl (cj rfl rfl rfl (ab (T.tF rfl ((by decide)) (aU (aj (ae ?_)))))))))));refine kb (xs:=[]) (ys:=[.tmp 2,.tmp 3]) rfl rfl rfl (ah rfl rfl (ab (aO ?_)));exact aS rfl rfl ⟨bs,bn,rfl,hS2,hN,h1,by omega,(s1.aB s2).back⟩
theorem Ev {w0:World} {bs bn yl:Nat} {v:Value} {l:List Po} {M:aD} {wv:World} {J:Nat→World→Prop} {Jx:World→Prop} (hv:((RT.po).sl).V M wv l v) (kD:∀i w w',J i w→Step aC w aC w' aC→J i w') (Ia:∀i w,J i w→w.heap[bs]? =some (.cells #[v] 80 (0,0))∧w.heap[bn]? =some (.cells #[.int .i64 8] 3 (0,0))) (hy:∀(i:Nat) (w:World) (u:Value),J i w→i<l.length→((RT.po).sl).V M wv ((l.drop i).take 8) u→wJ Tryz.prog yl [u].toArray w (fun r w'=>∃b,r= .bool b∧(b=true→J (min (i+8) l.length) w')∧(b=false→Jx w'))) (h0:J 0 w0):
  Spec Tryz.prog 250 #[.func (.yield yl) #[] #[],.pointer (some ⟨bs,0,none⟩),.pointer (some ⟨bn,0,none⟩)] w0 (fun _ w'=>J l.length w'∨Jx w'):=by
 have hlen:=dy hv;refine bc (args:=[_,_,_]) (fn:=Tryz.f250) Tryz.func250 rfl (n:=31) Tryz.ntmps250 (aj (ae (ah rfl rfl (ab (aZ ?_)))));refine de (σ:=Nat) (fun s=>[(0,.func (.yield yl) #[] #[]),(1,.pointer (some ⟨bs,0,none⟩)),(2,.pointer (some ⟨bn,0,none⟩)),(4,.int .i64 s)]) (fun s w=>J (min s l.length) w∧s≤l.length+8) (fun s=>l.length+8-s) 0 (.cons rfl (.cons rfl (.cons rfl (.cons rfl .nil)))) ?_ ?_
 ·exact⟨by rw[Nat.zero_min];exact h0,bE _⟩
 ·rintro k w1 ⟨hJ,hk⟩;obtain⟨mv,pD⟩:=Ia _ _ hJ;refine aj (aj (ae (ad rfl rfl (aM br rfl rfl rfl mv rfl ?_))))
  first|refine bM br rfl (by assumption) rfl ?_|refine fM br rfl (by assumption) rfl ?_
  refine cj rfl rfl rfl (ab ?_);refine bN rfl (fun c1=>?_) (fun c1=>?_)
  ·refine aU (aj (aZ (aj ?_)));apply T.draw (M:=aC) mixed [cL.eq _,cL.eq _,cL.eq _,cL.pure (fun v=>((RT.po).sl).V M wv (l.drop k) v),cL.eq _,cL.eq _,cL.eq _]
   ·rfl
   ·refine cD ?_ ?_
    ·intro wD E sD;refine aM ax rfl rfl rfl (cW sD pD) rfl ?_;exact ab ⟨rfl,rfl,_,rfl,rfl,aw _ _⟩
    refine cD ?_ ?_
    ·intro wD E sD;refine aM br rfl rfl rfl (cW sD mv) rfl ?_;exact ab ⟨rfl,rfl,_,rfl,rfl,aw _ _⟩
    refine cD ?_ ?_
    ·intro wD E sD;refine ad rfl rfl ?_;exact ab ⟨rfl,rfl,_,rfl,rfl,aw _ _⟩
    refine cD ?_ ?_
    ·intro wD E sD;refine aR (aR ?_);refine Rg.Pn (A:=RT.po) (hn:=by decide) br lM rfl rfl rfl hv (by omega) (fun u hu=>?_);rw[ay]at hu;exact ab ⟨rfl,rfl,_,rfl,hu,aw _ _⟩
    refine cD ?_ ?_
    ·intro wD E sD;intro v3 Ac;have agj:((RT.po).sl).V M wv (l.drop k) v3:=Ac;refine bM br rfl agj rfl ?_;exact ab ⟨rfl,rfl,_,rfl,rfl,aw _ _⟩
    refine cD ?_ ?_
    ·intro wD E sD;refine aR (aR (Rg.min2 rfl rfl rfl ?_));exact ab ⟨rfl,rfl,_,rfl,rfl,aw _ _⟩
    refine cD ?_ ?_
    ·intro wD E sD;refine aR (aR (aR (aR ?_)));intro v3 Ac;refine aR (aR (ah rfl rfl ?_));exact ab ⟨rfl,rfl,_,rfl,rfl,aw _ _⟩
    exact eh.nil
   ·intro Yq qX;refine aR (aR (aR ?_));intro af5 ZF;refine aR (aR (aR ?_));rw[show min k l.length=k from by omega]at hJ;have Y6:=kD _ _ _ hJ qX;obtain⟨hb3,rF⟩:=Ia _ _ Y6;refine aj (ae (ad rfl rfl (aM br rfl rfl rfl hb3 rfl (ad rfl rfl (ad rfl rfl (ad rfl rfl (bF rfl rfl rfl (by omega) (ad rfl rfl (ad rfl rfl (bF rfl rfl rfl (by omega) ?_))))))))));refine Rg.IU (A:=RT.po) (hn:=by decide) br lM rfl rfl rfl rfl rfl hv (by rw[du];omega) (fun u hu=>?_)
    have he:(l.take ((k:Int)+min 8 ((l.drop k).length:Int)).toNat).drop (k:Int).toNat=(l.drop k).take 8:=by
     rw[ay,List.drop_take,du,show((k:Int)+min 8 ((l.length-k:Nat):Int)).toNat-k=min 8 (l.length-k)from by omega,List.take_eq_take_iff,du];omega
    rw[he]at hu;refine Rg.yield rfl (vs:=[u]) rfl rfl (hy k _ u Y6 (by omega) hu) (fun r4 w4 h4=>?_);obtain⟨b,rfl,RD,qH⟩:=h4;refine lH rfl rfl (aV (v':= .bool (decide (¬b=true))) (by simp) (ab ?_));refine bN rfl (fun c4=>?_) (fun c4=>?_)
    ·refine aO ?_;exact CZ rfl (.inr (qH (by simpa using c4)))
    ·refine aU (ae (ad rfl rfl ?_));have hJ5:=RD (cJ.1 c4);refine aM ax rfl rfl rfl (Ia _ _ hJ5).2 rfl (bF rfl rfl rfl (by omega) (ah rfl rfl (ab ?_)));refine⟨rfl,k+8,(.cons rfl (.cons rfl (.cons rfl (.cons rfl .nil)))),?_,?_⟩
     ·exact⟨hJ5,by omega⟩
     ·show l.length+8-(k+8)<l.length+8-k;omega
  ·refine cG ?_;rw[show min k l.length=l.length from by omega]at hJ;change xm Tryz.prog Tryz.f250 (fun _ w'=>J l.length w'∨Jx w') .normal _ [] _;exact fR rfl (.inl hJ)
end Go.K
namespace Go.K
open Go.Proofs
set_option maxRecDepth 10000
structure nI (M:aD) (w0:World) (v:Value) (bo bx bl D bs bn:Nat) (st:Obj) (vb vk:Value) (rW last:Int) (b:List UInt8) (ks:List Bl) (M1:aD) (w:World):Prop where
 lt:Lt M1 w
 S:Step M w0 M1 w aC
 mo:M1 bo
 mx:M1 bx
 ml:M1 bl
 md:M1 D
 mr:M1 (D+1)
 o:w.heap[bo]? =some (.cells #[.pointer (some ⟨bx,0,none⟩)] 142 (0,0))
 x:w.heap[bx]? =some (.cells #[vb,vk,.int .i64 rW] 207 (0,0))
 l:w.heap[bl]? =some (.cells #[.int .i64 last] 3 (0,0))
 d:w.heap[D]? =some (.deferred (some []))
 r:w.heap[D+1]? =some st
 s:w.heap[bs]? =some (.cells #[v] 80 (0,0))
 n:w.heap[bn]? =some (.cells #[.int .i64 8] 3 (0,0))
 ne:bo≠bx∧bo≠bl∧bx≠bl∧bo<D∧bx<D∧bl<D∧bs<D∧bn<D∧bs≠bo∧bs≠bx∧bs≠bl∧bn≠bo∧bn≠bx∧bn≠bl∧w0.heap.size≤bo∧w0.heap.size≤bx∧w0.heap.size≤bl∧w0.heap.size≤D
 hb:(RT.u8.sl).V M1 w b vb
 hk:Own RT.bl 209 M1 w (D+2) vk ks
section
variable {M M1 M2:aD} {w0 w w':World} {v vb vk:Value} {bo bx bl D bs bn:Nat} {st:Obj} {rW last:Int} {b:List UInt8} {ks:List Bl}
theorem nI.step (h:nI M w0 v bo bx bl D bs bn st vb vk rW last b ks M1 w) (s:Step M1 w M2 w' aC):nI M w0 v bo bx bl D bs bn st vb vk rW last b ks M2 w':=
 ⟨s.lt h.lt,h.S.aB s,(s.mem _ (h.lt _ h.mo)).2 h.mo,(s.mem _ (h.lt _ h.mx)).2 h.mx,(s.mem _ (h.lt _ h.ml)).2 h.ml,(s.mem _ (h.lt _ h.md)).2 h.md,(s.mem _ (h.lt _ h.mr)).2 h.mr,
  s.aK h.o,s.aK h.x,s.aK h.l,s.aK h.d,s.aK h.r,s.aK h.s,s.aK h.n,h.ne,h.hb.le s.le,h.hk.aP s⟩
theorem nI.Qz {n:Int} (h:nI M w0 v bo bx bl D bs bn st vb vk rW last b ks M1 w) (s:Step M1 w M1 w' (fun k=>k=bl)) (hl:w'.heap[bl]? =some (.cells #[.int .i64 n] 3 (0,0))):nI M w0 v bo bx bl D bs bn st vb vk rW n b ks M1 w':=by
 obtain⟨e1,e2,e3,e4,e5,e6,e7,e8,e9,Xl,ZN,Xm,Xn,ZO,e15,Xo,Sn,e18⟩:=h.ne
 exact⟨s.lt h.lt,h.S.cd s (fun k hk=>by subst hk;exact Sn),h.mo,h.mx,h.ml,h.md,h.mr,s.keep h.o e2,s.keep h.x e3,hl,s.keep h.d (by omega),s.keep h.r (by omega),s.keep h.s ZN,s.keep h.n ZO,h.ne,h.hb.le s.le,
  h.hk.step s (fun k hk hh=>by have:=(h.hk.base k hk).1;omega)⟩
theorem nI.Vu {vb' Vv:Value} {ZQ:Int} {b':List UInt8} {ZR:List Bl} (h:nI M w0 v bo bx bl D bs bn st vb vk rW last b ks M1 w) (s:Step M1 w M1 w' (fun k=>k=bx)) (hx:w'.heap[bx]? =some (.cells #[vb',Vv,.int .i64 ZQ] 207 (0,0)))
  (hb:(RT.u8.sl).V M1 w' b' vb') (hk:Own RT.bl 209 M1 w (D+2) Vv ZR):nI M w0 v bo bx bl D bs bn st vb' Vv ZQ last b' ZR M1 w':=by
 obtain⟨e1,e2,e3,e4,e5,e6,e7,e8,e9,Xl,ZN,Xm,Xn,ZO,e15,Xo,Sn,e18⟩:=h.ne
 exact⟨s.lt h.lt,h.S.cd s (fun k hk=>by subst hk;exact Xo),h.mo,h.mx,h.ml,h.md,h.mr,s.keep h.o e1,hx,s.keep h.l (Ne.symm e3),s.keep h.d (by omega),s.keep h.r (by omega),s.keep h.s Xl,s.keep h.n Xn,h.ne,hb,
  hk.step s (fun k tK hh=>by have:=(hk.base k tK).1;omega)⟩
theorem nI.mH {st':Obj} (h:nI M w0 v bo bx bl D bs bn st vb vk rW last b ks M1 w) (kD:w.heap[D+1]? =some st):nI M w0 v bo bx bl D bs bn st' vb vk rW last b ks M1 (w.putObj (D+1) st'):=by
 have s:Step M1 w M1 (w.putObj (D+1) st') (fun k=>k=D+1):=dS h.mr;obtain⟨e1,e2,e3,e4,e5,e6,e7,e8,e9,Xl,ZN,Xm,Xn,ZO,e15,Xo,Sn,e18⟩:=h.ne
 exact⟨s.lt h.lt,h.S.cd s (fun k hk=>by subst hk;omega),h.mo,h.mx,h.ml,h.md,h.mr,s.keep h.o (by omega),s.keep h.x (by omega),s.keep h.l (by omega),s.keep h.d (by omega),xk (ak kD),s.keep h.s (by omega),s.keep h.n (by omega),h.ne,h.hb.le s.le,
  h.hk.step s (fun k tK hh=>by have:=(h.hk.base k tK).1;omega)⟩
theorem nI.other {q:Nat} (h:nI M w0 v bo bx bl D bs bn st vb vk rW last b ks M1 w) (s:Step M1 w M1 w' (fun k=>k=q)) (hq:D+1<q) (hqv:∀k,vk.ownBlock=some k→k≠q):nI M w0 v bo bx bl D bs bn st vb vk rW last b ks M1 w':=by
 obtain⟨e1,e2,e3,e4,e5,e6,e7,e8,e9,Xl,ZN,Xm,Xn,ZO,e15,Xo,Sn,e18⟩:=h.ne
 exact⟨s.lt h.lt,h.S.cd s (fun k hk=>by subst hk;omega),h.mo,h.mx,h.ml,h.md,h.mr,s.keep h.o (by omega),s.keep h.x (by omega),s.keep h.l (by omega),s.keep h.d (by omega),s.keep h.r (by omega),s.keep h.s (by omega),s.keep h.n (by omega),h.ne,h.hb.le s.le,
  h.hk.step s (fun k tK hh=>hqv k tK hh)⟩
theorem nI.grow {Vv:Value} {ZR:List Bl} (h:nI M w0 v bo bx bl D bs bn st vb vk rW last b ks M1 w) (s:Step M1 w M2 w' (fun k=>vk.ownBlock=some k)) (hk:Own RT.bl 209 M2 w' (D+2) Vv ZR):
  (w'.heap[bx]? =some (.cells #[vb,vk,.int .i64 rW] 207 (0,0))∧M2 bx∧Lt M2 w')∧∀{w2:World},Step M2 w' M2 w2 (fun k=>k=bx)→w2.heap[bx]? =some (.cells #[vb,Vv,.int .i64 rW] 207 (0,0))→nI M w0 v bo bx bl D bs bn st vb Vv rW last b ZR M2 w2:=by
 obtain⟨e1,e2,e3,e4,e5,e6,e7,e8,e9,Xl,ZN,Xm,Xn,ZO,e15,Xo,Sn,e18⟩:=h.ne;have hn:∀k,vk.ownBlock=some k→D+2≤k:=fun k hk=>(h.hk.base k hk).1
 have eH:=fun {k:Nat} (hm:M1 k)=>(s.mem k (h.lt k hm)).2 hm
 refine⟨⟨s.keep h.x (fun hh=>by have:=hn _ hh;omega),eH h.mx,s.lt h.lt⟩,fun {w2} s2 hx=>?_⟩;have S':=h.S.cd s (fun k hk=>by have:=hn k hk;omega)
 exact⟨s2.lt (s.lt h.lt),S'.cd s2 (fun k hk=>by subst hk;exact Xo),eH h.mo,eH h.mx,eH h.ml,eH h.md,eH h.mr,s2.keep (s.keep h.o (fun hh=>by have:=hn _ hh;omega)) e1,hx,s2.keep (s.keep h.l (fun hh=>by have:=hn _ hh;omega)) (Ne.symm e3),
  s2.keep (s.keep h.d (fun hh=>by have:=hn _ hh;omega)) (by omega),s2.keep (s.keep h.r (fun hh=>by have:=hn _ hh;omega)) (by omega),s2.keep (s.keep h.s (fun hh=>by have:=hn _ hh;omega)) Xl,s2.keep (s.keep h.n (fun hh=>by have:=hn _ hh;omega)) Xn,h.ne,(h.hb.le s.le).le s2.le,
  hk.step s2 (fun k tK hh=>by have:=(hk.base k tK).1;omega)⟩
end
def Nq (M:aD) (w0:World) (l:List Po) (v:Value) (bo bx bl D bs bn:Nat) (st:Obj) (i:Nat) (w:World):Prop:=
 ∃(M1:aD) (vb vk:Value),nI M w0 v bo bx bl D bs bn st vb vk (jl (l.take i)) (dr (-1) (l.take i)) (dY (-1) (l.take i)) (rC l ((i+7)/8)) M1 w∧(i%8=0∨i=l.length)∧i≤l.length
theorem Vw {M:aD} {w0 w2 w3 w5 w6 w7:World} {v:Value} {l:List Po} {bo bx bl bs bn:Nat} {st:Obj} (S6:Step M w0 (ins (ins (ins M bx) bo) bl) w6 aC) (s7:Step (ins (ins (ins M bx) bo) bl) w6 (ins (ins (ins M bx) bo) bl) w7 aC) (hM:Lt M w0)
  (e1:bo<w6.heap.size) (e2:bx<w6.heap.size) (e3:bl<w6.heap.size) (n1:bo≠bx) (n2:bo≠bl) (n3:bx≠bl)
  (hO:w6.heap[bo]? =some (.cells #[.pointer (some ⟨bx,0,none⟩)] 142 (0,0))) (hX:w6.heap[bx]? =some (.cells #[.slice none 0 0,.slice none 0 0,.int .i64 0] 207 (0,0))) (hL:w6.heap[bl]? =some (.cells #[.int .i64 (-1)] 3 (0,0)))
  (hS:w7.heap[bs]? =some (.cells #[v] 80 (0,0))) (hN:w7.heap[bn]? =some (.cells #[.int .i64 8] 3 (0,0))) (hbs:w6.heap.size≤bs) (hbn:w6.heap.size≤bn)
  (g1:w0.heap.size≤bo) (g2:w0.heap.size≤bx) (g3:w0.heap.size≤bl):
  Nq M w0 l v bo bx bl w7.heap.size bs bn st 0 ((w7.alloc (.deferred (some []))).alloc st):=by
 have sA:Step (ins (ins (ins M bx) bo) bl) w7 (ins (ins (ins (ins M bx) bo) bl) w7.heap.size) (w7.alloc (.deferred (some []))) aC:=(cQ _ w7 _).own (aT _) (by simp);have sB:Step (ins (ins (ins (ins M bx) bo) bl) w7.heap.size) (w7.alloc (.deferred (some []))) (ins (ins (ins (ins (ins M bx) bo) bl) w7.heap.size) (w7.heap.size+1)) ((w7.alloc (.deferred (some []))).alloc st) aC:=(cQ _ _ _).own (by simp) (by simp);have z7:=s7.size;have hs7:=ak hS;have hn7:=ak hN;have S:=((S6.aB s7).aB sA).aB sB;have hD:(w7.alloc (.deferred (some []))).heap[w7.heap.size]? =some (.deferred (some [])):=cg w7 _;have hR:((w7.alloc (.deferred (some []))).alloc st).heap[w7.heap.size+1]? =some st:=by have:=cg (w7.alloc (.deferred (some []))) st;rwa [Af]at this
 have z0:=S6.size;refine⟨_,.slice none 0 0,.slice none 0 0,⟨S.lt hM,S,?_,?_,?_,?_,.inl rfl,sB.aK (sA.aK (s7.aK hO)),sB.aK (sA.aK (s7.aK hX)),sB.aK (sA.aK (s7.aK hL)),sB.aK hD,hR,sB.aK (sA.aK hS),sB.aK (sA.aK hN),by omega,pE,dF _ _ _ _ _⟩,.inl rfl,bE _⟩
 ·exact .inr (.inr (.inr (.inl rfl)))
 ·exact .inr (.inr (.inr (.inr (.inl rfl))))
 ·exact .inr (.inr (.inl rfl))
 ·exact .inr (.inl rfl)
set_option maxHeartbeats 4000000 in
theorem Bk {M:aD} {w0:World} {v:Value} {l:List Po} (hM:Lt M w0) (hv:((RT.po).sl).V M w0 l v) (kf:∀p∈l,p.2.length≤1099511627776) (k3:(dY (-1) l).length≤35184372088832) (IE:l.length≤1099511627776) (Vx:jl l≤4611686018427387904):
  Spec Tryz.prog 145 #[v] w0 (fun v' w'=>Step M w0 M w' aC∧(fH (-1) l=true→∃p,v'= .tuple #[p,.int .i64 0]∧cN RT.li M w' p (mU l))∧(fH (-1) l=false→v'= .tuple #[.pointer none,.int .i64 1])):=by
 have hlen:=dy hv;refine oc (args:=[_]) (fn:=Tryz.f145) Tryz.func145 rfl (n:=85) Tryz.ntmps145 (aj (ae (ah rfl rfl (ah rfl rfl (ab (aj (aj (ae (ad rfl rfl ?_)))))))));refine aX rfl rfl adI (JD hM hv) (fun r w1 h1=>?_);obtain⟨rfl,s1⟩:=h1;refine lH rfl rfl (aV (v':= .bool (decide (¬fH (-1) l=true))) (by simp) (ab ?_));refine bN rfl (fun c1=>?_) (fun c1=>?_)
 ·refine aj (ae (ah rfl rfl (ah rfl rfl (ab (aO ?_)))));exact Py rfl rfl rfl ⟨s1,fun h=>absurd h c1,fun _=>rfl⟩
 ·have mY:=cJ.1 c1;refine aU (aj (ae (iC (places:=[(0,1),(1,1),(2,1)]) ep adn adp rfl rfl (out:=[.slice none 0 0,.slice none 0 0,.int .i64 0]) rfl ?_)));refine xj M rfl rfl (fun bx w2 Ia apR hX s2=>?_);change w2.heap[bx]? =some (.cells #[.slice none 0 0,.slice none 0 0,.int .i64 0] 207 (0,0))at hX;refine dP (ins M bx) Am rfl (fun bo w3 Nr ZS hO s3=>?_);refine cu (M:=ins (ins M bx) bo) Am rfl rfl hO rfl rfl (.inl rfl) (fun w4 hO4 s4=>?_);refine ab (aj (ae ?_));refine dP (ins (ins M bx) bo) I3 rfl (fun bl w5 apT alu hL s5=>?_);refine cu (M:=ins (ins (ins M bx) bo) bl) I3 rfl rfl hL rfl rfl (.inl rfl) (fun w6 hL6 s6=>?_);have z1:=s1.size;have z2:=s2.size;have z3:=s3.size;have z4:=s4.size;have z5:=s5.size;have z6:=s6.size;have S6:Step M w0 (ins (ins (ins M bx) bo) bl) w6 aC:=((((s1.aB s2).aB s3).cd s4 (fun k hk=>by subst hk;omega)).aB s5).cd s6 (fun k hk=>by subst hk;omega);have hO6:=s6.keep (s5.aK hO4) (show bo≠bl by omega);have hX6:=s6.keep (s5.aK (s4.keep (s3.aK hX) (show bx≠bo by omega))) (show bx≠bl by omega);refine ab (aj (aj (ae (ad rfl rfl ?_))));refine aX rfl rfl adJ (GV (M:=ins (ins (ins M bx) bo) bl) (S6.lt hM) (hv.le S6.le)) (fun r w7 h7=>?_);obtain⟨bs,bn,rfl,hS7,hN7,hbs,hbn,s7⟩:=h7;have z7:=s7.size;have apX:=ak hS7;have apY:=ak hN7;refine ab (aZ ?_);refine T.range (gf:=250) (lb:=[.pointer (some ⟨bs,0,none⟩),.pointer (some ⟨bn,0,none⟩)].toArray) rfl adU (fun rec nD=>?_);obtain⟨D,hD⟩:∃D,D=w7.heap.size:=⟨_,rfl⟩;rw[←hD]at nD ⊢
  have h0:Nq M w0 l v bo bx bl D bs bn (.loop (rec .ready none)) 0 ((w7.alloc (.deferred (some []))).alloc (.loop (rec .ready none))):=by
   rw[hD]at nD ⊢;exact Vw (w2:=w7) (w3:=w7) (w5:=w7) S6 s7 hM (by omega) (by omega) (by omega) (by omega) (by omega) (by omega) hO6 hX6 hL6 hS7 hN7 hbs hbn (by omega) (by omega) (by omega)
  refine Spec.mono (Ev (M:=M) (wv:=w0) (J:=Nq M w0 l v bo bx bl D bs bn (.loop (rec .ready none))) (Jx:=fun _=>False) hv (fun i w w' ⟨M1,vb,vk,h,h2⟩ s=>⟨M1,vb,vk,h.step (s.any M1),h2⟩) (fun i w ⟨M1,vb,vk,h,h2⟩=>⟨h.s,h.n⟩) (fun i wr u hJ hi hu=>?_) h0) (fun _ w3 h3=>?_)
  ·obtain⟨M1,vb,vk,h,hi8,oK⟩:=hJ;refine lW (ps:=[17]) (vs:=[u]) nD h.r rfl (by decide) (ae (ah rfl rfl (ab ?_)));refine⟨rfl,h.r,?_⟩;have h1:=h.mH (st':= .loop (rec .busy none)) h.r;generalize wr.putObj (D+1) _=wB at h1 ⊢;have hO:=h1.o;have hX:=h1.x;have hL:=h1.l;have hB:=h1.hb;have dR:=h1.lt;have vr:((l.drop i).take 8).length≤8:=by rw[bH];omega
   have apZ:((l.drop i).take 8).length=min 8 (l.length-i):=by rw[bH,du]
   obtain⟨q1,q2,q3,q4,q5,q6,q7,q8,q9,q10,q11,q12,q13,q14,q15,q16,q17,q18⟩:=h1.ne;refine aZ (aj ?_);apply T.HD (M:=M1) (n:=85) _ mixed [] [cL.eq _,cL.eq _,cL.eq _,cL.eq _,cL.eq _,cL.eq _,cL.eq _,cL.eq _,cL.eq _,cL.mk' (fun p w'=>∃bq,p= .pointer (some ⟨bq,0,none⟩)∧wB.heap.size≤bq∧w'.heap[bq]? =some (.cells #[.int .i64 0,.int .i64 0,.int .i64 0,.int .i64 0] 209 (0,0))) (fun⟨bq,h1,h2,h3⟩ s=>⟨bq,h1,h2,s.aK h3⟩)]
   ·rfl
   ·rfl
   ·rfl
   ·rfl
   ·exact fun p hp=>by cases hp
   ·exact vg.none
   ·refine aF ?_ ?_
    ·intro wD E sD;refine aM eN rfl rfl rfl (cW sD (by assumption)) rfl ?_;exact ab ⟨rfl,rfl,_,rfl,rfl,aw _ _⟩
    refine aF ?_ ?_
    ·intro wD E sD;refine aR (bS rfl ⟨_,rfl⟩ rfl ?_);exact ab ⟨rfl,rfl,_,rfl,rfl,aw _ _⟩
    refine aF ?_ ?_
    ·intro wD E sD;refine aR (bG ep rfl rfl Dp (by decide) rfl rfl ?_);exact ab ⟨rfl,rfl,_,rfl,rfl,aw _ _⟩
    refine aF ?_ ?_
    ·intro wD E sD;refine aR (aM bQ rfl rfl rfl (cW sD (by assumption)) rfl ?_);exact ab ⟨rfl,rfl,_,rfl,rfl,aw _ _⟩
    refine aF ?_ ?_
    ·intro wD E sD;refine aR ?_
     first|refine bM bQ rfl (by assumption) rfl ?_|refine fM bQ rfl (by assumption) rfl ?_
     exact ab ⟨rfl,rfl,_,rfl,rfl,aw _ _⟩
    refine aF ?_ ?_
    ·intro wD E sD;refine aM ax rfl rfl rfl (cW sD (by assumption)) rfl ?_;exact ab ⟨rfl,rfl,_,rfl,rfl,aw _ _⟩
    refine aF ?_ ?_
    ·intro wD E sD;refine ad rfl rfl ?_;exact ab ⟨rfl,rfl,_,rfl,rfl,aw _ _⟩
    refine aF ?_ ?_
    ·intro wD E sD;refine aR ?_
     first|refine bM br rfl (by assumption) rfl ?_|refine fM br rfl (by assumption) rfl ?_
     exact ab ⟨rfl,rfl,_,rfl,rfl,aw _ _⟩
    refine aF ?_ ?_
    ·intro wD E sD;refine aR (aR (aR (iC (places:=[(0,1),(1,1),(2,1),(3,1)]) sG BW adq rfl ⟨_,_,rfl,rfl,_,_,rfl,rfl,_,_,rfl,rfl,rfl⟩ (out:=[.int .i64 (dY (-1) (l.take i)).length,.int .i64 (dr (-1) (l.take i)),.int .i64 0,.int .i64 ((l.drop i).take 8).length]) ⟨0,[_],rfl,rfl,by simp[Value.cells],1,[_],rfl,rfl,by simp[Value.cells],3,[_],rfl,rfl,by simp[Value.cells],rfl⟩ ?_)));exact ab ⟨rfl,rfl,_,rfl,rfl,aw _ _⟩
    refine aF ?_ ?_
    ·intro wD E sD;refine dP M1 BW rfl (fun bq wq e1 e2 e3 s=>?_);exact ab ⟨rfl,rfl,_,rfl,⟨bq,rfl,ez sD.size e1,e3⟩,s.back⟩
    exact sH
   ·intro wD7 sD7;refine aR (aR (aR (aR (aR (aR (aR (aR (aR ?_))))))));intro aqb ZT;obtain⟨bq,rfl,TD,hq2⟩:=ZT;have Rw:=ak hq2;have sQ:Step M1 wB (ins M1 bq) wD7 aC:=sD7.own TD Rw;refine dC (M:=ins M1 bq) (vs:=[.int .i64 (dY (-1) (l.take i)).length,.int .i64 (dr (-1) (l.take i)),.int .i64 0,.int .i64 ((l.drop i).take 8).length]) BW rfl rfl (by intro x hx;simp at hx;rcases hx with rfl|rfl|rfl|rfl<;>rfl) rfl rfl hq2 (.inl rfl) (fun wQ hQ sQ2=>?_);refine ab ⟨rfl,?_⟩;have h2:=h1.step (sQ.cd sQ2 (fun k hk=>by subst hk;exact TD));have hqv:∀k,vk.ownBlock=some k→k≠bq:=fun k hk=>by have:=(h1.hk.base k hk).2;omega
    have hDq:D+1<bq:=by have:=ak h1.r;omega
    have h3:nI M w0 v bo bx bl D bs bn (.loop (rec .busy none)) vb vk (jl (l.take (i+0))) (dr (-1) (l.take (i+0))) (dY (-1) (l.take (i+0))) (rC l ((i+7)/8)) (ins M1 bq) wQ:=h2;obtain⟨M2,Fw⟩:∃M2,M2=ins M1 bq:=⟨_,rfl⟩;rw[←Fw]at h3;refine aj (aj (ae (ad rfl rfl ?_)))
    first|refine bM br rfl (by assumption) rfl ?_|refine fM br rfl (by assumption) rfl ?_
    refine ad rfl rfl (ab (aZ ?_));refine de (σ:=Nat×Value) (fun s=>[(4,.pointer (some ⟨bo,0,none⟩)),(5,.pointer (some ⟨bl,0,none⟩)),(6,u),(7,.pointer (some ⟨bq,0,none⟩)),(27,u),(28,.int .i64 ((l.drop i).take 8).length),(29,.int .i64 s.1)]) (fun s w=>s.1≤((l.drop i).take 8).length∧w.heap[bq]? =some (.cells #[.int .i64 (dY (-1) (l.take i)).length,.int .i64 (dr (-1) (l.take i)),.int .i64 0,.int .i64 ((l.drop i).take 8).length] 209 (0,0))∧nI M w0 v bo bx bl D bs bn (.loop (rec .busy none)) s.2 vk (jl (l.take (i+s.1))) (dr (-1) (l.take (i+s.1))) (dY (-1) (l.take (i+s.1))) (rC l ((i+7)/8)) M2 w) (fun s=>((l.drop i).take 8).length-s.1) (0,vb) (.cons rfl (.cons rfl (.cons rfl (.cons rfl (.cons rfl (.cons rfl (.cons rfl .nil))))))) ?_ ?_
    ·exact⟨bE _,hQ,h3⟩
    ·rintro⟨j,vb⟩ wj ⟨hj,hQ,h4⟩;dsimp only at hj hQ h4 ⊢;have dR:=h4.lt;refine aj (ae (cj rfl rfl rfl (ab (aj ?_))));refine bN rfl (fun c9=>?_) (fun c9=>?_)
     ·refine aU (aj (aZ (aj (ae ?_))));obtain⟨⟨d,ps⟩,hx⟩:∃x,l[i+j]? =some x:=⟨_,ar (by omega)⟩;obtain⟨f1,f2,f3,f4,f5,f6⟩:=BP mY hx;obtain⟨f7,f8⟩:=oY.1 f4;have fps:=kf _ (aA hx);have fb:=nE l (i+j);have ft:=Dj l (i+j);have ft2:=Dj l (i+j+1);rw[yr hx]at ft2;have ftk:=yq (-1) hx;have ftl:=nE l (i+j+1);simp only at fps;refine cy (M:=M2) br lM rfl rfl rfl (hu.le h4.S.le) (aq _ _) (by omega) (fun YL ZU Vy Ut=>?_);obtain rfl:(d,ps)=ZU:=dD (aH (Vy.symm.trans (by rw[ay,cn,if_pos (by omega),List.getElem?_drop];exact hx)));refine cX (M:=M2) (A:=RT.po) bI rfl lM (by decide) rfl rfl rfl (by assumption) (by repeat (first|exact aq _ _|refine a8 (bD (by assumption)) ?_)) (fun YM LM=>?_);refine xG (A:=RT.po) (M:=M2) lM rfl rfl rfl rfl rfl (by assumption) (by repeat (first|exact aq _ _|refine a8 (bD (by assumption)) ?_)) (by first|assumption|exact Step.lt (by assumption) (by assumption)|exact Step.lt (by assumption) (Step.lt (by assumption) (by assumption))) (fun alz alA Vz Sq alB=>?_);refine ab (aj ?_);have h5:=h4.step Sq;have hO:=h5.o;have hX:=h5.x;have hL:=h5.l;have hB:=h5.hb;have dR:=h5.lt;have hp0:=Vz;apply T.HD (M:=M2) (n:=85) _ mixed [] [cL.eq _,cL.eq _,cL.eq _,cL.eq _,cL.eq _,cL.ptr (RT.int .i64) d,cL.eq (.int .i64 d),cL.eq _,cL.eq _,cL.eq (.int .i64 (((d-dr (-1) (l.take (i+j))-1).toNat:Nat):Int)),cL.V (RT.u8.sl) (dY (-1) (l.take (i+j))++put (d-dr (-1) (l.take (i+j))-1).toNat),cL.eq _,cL.eq _]
      ·rfl
      ·rfl
      ·rfl
      ·rfl
      ·exact fun p hp=>by cases hp
      ·exact vg.none
      ·refine aF ?_ ?_
       ·intro wD E sD;refine aM eN rfl rfl rfl (cW sD (by assumption)) rfl ?_;exact ab ⟨rfl,rfl,_,rfl,rfl,aw _ _⟩
       refine aF ?_ ?_
       ·intro wD E sD;refine aM eN rfl rfl rfl (cW sD (by assumption)) rfl ?_;exact ab ⟨rfl,rfl,_,rfl,rfl,aw _ _⟩
       refine aF ?_ ?_
       ·intro wD E sD;refine aR (bS rfl ⟨_,rfl⟩ rfl ?_);exact ab ⟨rfl,rfl,_,rfl,rfl,aw _ _⟩
       refine aF ?_ ?_
       ·intro wD E sD;refine aR (bG ep rfl rfl Dp (by decide) rfl rfl ?_);exact ab ⟨rfl,rfl,_,rfl,rfl,aw _ _⟩
       refine aF ?_ ?_
       ·intro wD E sD;refine aR (aM bQ rfl rfl rfl (cW sD (by assumption)) rfl ?_);exact ab ⟨rfl,rfl,_,rfl,rfl,aw _ _⟩
       refine aF ?_ ?_
       ·intro wD E sD;refine aN (M:=M2) (A:=RT.po) (B:=RT.int .i64) bI rfl rfl I3 (by decide) (O0) rfl rfl (by decide) (by assumption) (by repeat (first|exact aq _ _|refine a8 (bD (by assumption)) ?_)) (fun alD agl=>?_);exact ab ⟨rfl,rfl,_,rfl,by assumption,aw _ _⟩
       refine aF ?_ ?_
       ·intro wD E sD;intro v5 qg;refine cb (M:=M2) ax rfl rfl (by assumption) (by repeat (first|exact aq _ _|refine a8 (bD (by assumption)) ?_)) (fun agm=>?_);exact ab ⟨rfl,rfl,_,rfl,rfl,aw _ _⟩
       refine aF ?_ ?_
       ·intro wD E sD;refine aM ax rfl rfl rfl (cW sD (by assumption)) rfl ?_;exact ab ⟨rfl,rfl,_,rfl,rfl,aw _ _⟩
       refine aF ?_ ?_
       ·intro wD E sD;refine aR (aR (fe rfl rfl rfl (by omega) ?_));exact ab ⟨rfl,rfl,_,rfl,rfl,aw _ _⟩
       refine aF ?_ ?_
       ·intro wD E sD;refine aR (fe rfl rfl rfl (by omega) (aV (v':= .int .i64 (((d-dr (-1) (l.take (i+j))-1).toNat:Nat):Int)) (by congr 1;omega) ?_));exact ab ⟨rfl,rfl,_,rfl,rfl,aw _ _⟩
       refine aF ?_ ?_
       ·intro wD E sD;refine aR (aR ?_);refine aX rfl rfl TV (Ng (M:=M2) (sD.lt dR) (hB.le sD.le) (by omega) (by omega)) (fun rP wP hP=>?_);exact ab ⟨rfl,rfl,_,rfl,hP.2,hP.1⟩
       refine aF ?_ ?_
       ·intro wD E sD;refine aR (aR (aR (aR (aR (aR ?_)))));intro v5 qg;refine aR (aR (aR (aR ?_)));intro v10 agn;refine bS rfl ⟨_,rfl⟩ rfl ?_;exact ab ⟨rfl,rfl,_,rfl,rfl,aw _ _⟩
       refine aF ?_ ?_
       ·intro wD E sD;refine aR (aR (aR (aR (aR (aR ?_)))));intro v5 qg;refine aR (aR (aR (aR ?_)));intro v10 agn;refine bG ep rfl rfl Dp (by decide) rfl rfl ?_;exact ab ⟨rfl,rfl,_,rfl,rfl,aw _ _⟩
       exact sH
      ·intro MT jh;refine aR (aR (aR (aR (aR ?_))));intro alE ago;refine aR (aR (aR (aR ?_)));intro agp Ib;refine aR (aR ?_);have h6:=h5.step jh;have hp6:=hp0.le (by decide) jh.le;refine cu (M:=M2) Dp rfl rfl h6.x rfl (lE Ib rfl rfl) h6.mx (fun w11 agq JE=>?_);refine ab ⟨rfl,?_⟩;have h7:=h6.Vu JE agq (RT.V.le JE.le Ib) h6.hk;have Xk:=hp6.le (by decide) JE.le;refine aj ?_;have hO:=h7.o;have hX:=h7.x;have hB:=h7.hb;have dR:=h7.lt;have fbl:(dY (-1) (l.take (i+j))++put (d-dr (-1) (l.take (i+j))-1).toNat).length≤35184372088832:=by rw[ftk]at ftl;simp only[bj]at ftl ⊢;omega
       apply T.Ru (M:=M2) mixed [(13,fun k=>k=bx)] [cL.eq _,cL.eq _,cL.eq _,cL.eq _,cL.eq _,cL.ptr ((RT.int .i64).sl) ps,cL.V ((RT.int .i64).sl) ps,⟨fun t w=>∃x,t= .tuple #[x,.int .i64 0]∧(RT.u8.sl).V M2 w (dY (-1) (l.take (i+j))++put (d-dr (-1) (l.take (i+j))-1).toNat++eD ps) x,IF,fun⟨x,h1,h2⟩ s _=>⟨x,h1,h2.le s.le⟩⟩,⟨fun t w=>∃x,t= .tuple #[x,.int .i64 0]∧(RT.u8.sl).V M2 w (dY (-1) (l.take (i+j))++put (d-dr (-1) (l.take (i+j))-1).toNat++eD ps) x,IF,fun⟨x,h1,h2⟩ s _=>⟨x,h1,h2.le s.le⟩⟩,cL.V (RT.u8.sl) (dY (-1) (l.take (i+j))++put (d-dr (-1) (l.take (i+j))-1).toNat++eD ps),cL.eq (.int .i64 0),cL.eq _,cL.eq _,⟨fun _ w=>∃x,w.heap[bx]? =some (.cells #[x,vk,.int .i64 (jl (l.take (i+j)))] 207 (0,0))∧(RT.u8.sl).V M2 w (dY (-1) (l.take (i+j))++put (d-dr (-1) (l.take (i+j))-1).toNat++eD ps) x,fun k=>k≠bx,fun⟨x,h1,h2⟩ s hN=>⟨x,s.keep h1 (fun hb=>hN _ hb rfl),h2.le s.le⟩⟩]
       ·rfl
       ·intro p hp b hb;simp only[bJ]at hp;subst hp
        cases hb;exact h7.mx
       ·exact⟨fun _ _ _ _=>trivial,⟨fun _ _ _ _=>trivial,⟨fun _ _ _ _=>trivial,⟨fun _ _ _ _=>trivial,⟨fun _ _ _ _=>trivial,⟨fun _ _ _ _=>trivial,⟨fun _ _ _ _=>trivial,⟨fun _ _ _ _=>trivial,⟨fun _ _ _ _=>trivial,⟨fun _ _ _ _=>trivial,⟨fun _ _ _ _=>trivial,⟨fun _ _ _ _=>trivial,⟨fun _ _ _ _=>trivial,⟨fun p hp=>by simp at hp,trivial⟩⟩⟩⟩⟩⟩⟩⟩⟩⟩⟩⟩⟩⟩
       ·refine cD ?_ ?_
        ·intro wD E sD;replace sD:Step M2 _ M2 wD aC:=sD;refine aM eN rfl rfl rfl (cW sD (by assumption)) rfl ?_;exact ab ⟨rfl,rfl,_,rfl,rfl,aw _ _⟩
        refine cD ?_ ?_
        ·intro wD E sD;replace sD:Step M2 _ M2 wD aC:=sD;refine aM eN rfl rfl rfl (cW sD (by assumption)) rfl ?_;exact ab ⟨rfl,rfl,_,rfl,rfl,aw _ _⟩
        refine cD ?_ ?_
        ·intro wD E sD;replace sD:Step M2 _ M2 wD aC:=sD;refine aR (bS rfl ⟨_,rfl⟩ rfl ?_);exact ab ⟨rfl,rfl,_,rfl,rfl,aw _ _⟩
        refine cD ?_ ?_
        ·intro wD E sD;replace sD:Step M2 _ M2 wD aC:=sD;refine aR (bG ep rfl rfl Dp (by decide) rfl rfl ?_);exact ab ⟨rfl,rfl,_,rfl,rfl,aw _ _⟩
        refine cD ?_ ?_
        ·intro wD E sD;replace sD:Step M2 _ M2 wD aC:=sD;refine aR (aM bQ rfl rfl rfl (cW sD (by assumption)) rfl ?_);exact ab ⟨rfl,rfl,_,rfl,rfl,aw _ _⟩
        refine cD ?_ ?_
        ·intro wD E sD;replace sD:Step M2 _ M2 wD aC:=sD;refine aN (M:=M2) (A:=RT.po) (B:=(RT.int .i64).sl) bI rfl rfl jL (by decide) TO rfl rfl (by decide) Xk sD.le (fun uf Cl=>?_);exact ab ⟨rfl,rfl,_,rfl,Cl,aw _ _⟩
        refine cD ?_ ?_
        ·intro wD E sD;replace sD:Step M2 _ M2 wD aC:=sD;intro v5 qg;refine bT (M:=M2) an rfl rfl rfl rfl rfl (show cN ((RT.int .i64).sl) M2 wD v5 ps from qg) (aq _ _) (fun uf Cl=>?_);exact ab ⟨rfl,rfl,_,rfl,Cl,aw _ _⟩
        refine cD ?_ ?_
        ·intro wD E sD;replace sD:Step M2 _ M2 wD aC:=sD;refine aR ?_;intro v6 wT;refine aX rfl rfl adK (zf (M:=M2) (sD.lt dR) (hB.le sD.le) (show((RT.int .i64).sl).V M2 wD ps v6 from wT) (by omega)) (fun rP wP hP=>?_);obtain⟨xP,sP,hP1,ZV⟩:=hP;rw[if_pos f7]at hP1 ZV;exact ab ⟨rfl,rfl,_,rfl,⟨xP,hP1,ZV⟩,sP⟩
        refine cD ?_ ?_
        ·intro wD E sD;replace sD:Step M2 _ M2 wD aC:=sD;intro v7 Gp;refine ad rfl rfl ?_;exact ab ⟨rfl,rfl,_,rfl,Gp,aw _ _⟩
        refine cD ?_ ?_
        ·intro wD E sD;replace sD:Step M2 _ M2 wD aC:=sD;intro v8 Kn;obtain⟨xP,rfl,ZV⟩:=Kn;refine bW rfl rfl rfl ?_;exact ab ⟨rfl,rfl,_,rfl,ZV,aw _ _⟩
        refine cD ?_ ?_
        ·intro wD E sD;replace sD:Step M2 _ M2 wD (fun k=>k=bx):=sD;intro v8 Kn;obtain⟨xP,rfl,ZV⟩:=Kn;refine bW rfl rfl rfl ?_;exact ab ⟨rfl,rfl,_,rfl,rfl,aw _ _⟩
        refine cD ?_ ?_
        ·intro wD E sD;replace sD:Step M2 _ M2 wD (fun k=>k=bx):=sD;refine aR (aR (aR (aR (aR (aR ?_)))));intro v5 qg;intro v6 wT;intro v7 Gp;intro v8 Kn;intro v9 DM;refine bS rfl ⟨_,rfl⟩ rfl ?_;exact ab ⟨rfl,rfl,_,rfl,rfl,aw _ _⟩
        refine cD ?_ ?_
        ·intro wD E sD;replace sD:Step M2 _ M2 wD aC:=sD;refine aR (aR (aR (aR (aR (aR ?_)))));intro v5 qg;intro v6 wT;intro v7 Gp;intro v8 Kn;intro v9 DM;refine bG ep rfl rfl Dp (by decide) rfl rfl ?_;exact ab ⟨rfl,rfl,_,rfl,rfl,aw _ _⟩
        refine cD ?_ ?_
        ·intro wD E sD;replace sD:Step M2 _ M2 wD aC:=sD;refine aR ?_;intro v9 DM;intro v7 Gp;refine aR (aR (aR (aR (aR ?_))));intro v5 qg;intro v6 wT;intro v7 Gp;intro v8 Kn;intro v9 DM;refine cu (M:=M2) Dp rfl rfl (cW sD hX) rfl (lE (A:=RT.u8.sl) DM rfl rfl) h7.mx (fun wS hXS sS=>?_);exact ab ⟨rfl,rfl,undef,rfl,⟨_,hXS,RT.V.le (A:=RT.u8.sl) sS.le DM⟩,sS⟩
        exact eh.nil
       ·intro agr Nt;replace Nt:Step M2 _ M2 agr (fun k=>k=bx):=Nt;refine aR (aR (aR (aR (aR ?_))));intro alG ags;intro alH agt;intro alI agu;intro alJ agv;intro alK agw;refine aR (aR (aR ?_));intro agx QA;obtain⟨v12,agy,agz⟩:=QA;have h8:=h7.Vu Nt agy agz h7.hk;have hp8:=Xk.le (by decide) Nt.le;refine aj ?_;have hO:=h8.o;have hX:=h8.x;apply T.HD (M:=M2) (n:=85) _ mixed [] [cL.eq _,cL.eq _,cL.eq _,cL.eq _,cL.ptr ((RT.int .i64).sl) ps,cL.V ((RT.int .i64).sl) ps,cL.eq (.int .i64 ps.length),cL.eq _,cL.eq _,cL.eq _]
        ·rfl
        ·rfl
        ·rfl
        ·rfl
        ·exact fun p hp=>by cases hp
        ·exact vg.none
        ·refine aF ?_ ?_
         ·intro wD E sD;refine aM eN rfl rfl rfl (cW sD (by assumption)) rfl ?_;exact ab ⟨rfl,rfl,_,rfl,rfl,aw _ _⟩
         refine aF ?_ ?_
         ·intro wD E sD;refine aR (bS rfl ⟨_,rfl⟩ rfl ?_);exact ab ⟨rfl,rfl,_,rfl,rfl,aw _ _⟩
         refine aF ?_ ?_
         ·intro wD E sD;refine aR (bG ep rfl rfl I3 (by decide) rfl rfl ?_);exact ab ⟨rfl,rfl,_,rfl,rfl,aw _ _⟩
         refine aF ?_ ?_
         ·intro wD E sD;refine aR (aM ax rfl rfl rfl (cW sD (by assumption)) rfl ?_);exact ab ⟨rfl,rfl,_,rfl,rfl,aw _ _⟩
         refine aF ?_ ?_
         ·intro wD E sD;refine aN (M:=M2) (A:=RT.po) (B:=(RT.int .i64).sl) bI rfl rfl jL (by decide) TO rfl rfl (by decide) hp8 sD.le (fun uf Cl=>?_);exact ab ⟨rfl,rfl,_,rfl,Cl,aw _ _⟩
         refine aF ?_ ?_
         ·intro wD E sD;intro v4 qf;refine bT (M:=M2) an rfl rfl rfl rfl rfl (show cN ((RT.int .i64).sl) M2 wD v4 ps from qf) (aq _ _) (fun uf Cl=>?_);exact ab ⟨rfl,rfl,_,rfl,Cl,aw _ _⟩
         refine aF ?_ ?_
         ·intro wD E sD;intro v5 qg;refine bM an rfl (show((RT.int .i64).sl).V M2 wD ps v5 from qg) rfl ?_;exact ab ⟨rfl,rfl,_,rfl,rfl,aw _ _⟩
         refine aF ?_ ?_
         ·intro wD E sD;refine aR (aR (bF rfl rfl rfl (by omega) ?_));exact ab ⟨rfl,rfl,_,rfl,rfl,aw _ _⟩
         refine aF ?_ ?_
         ·intro wD E sD;refine aR (aR (aR (aR (aR ?_))));intro v4 qf;intro v5 qg;refine aR (aR (bS rfl ⟨_,rfl⟩ rfl ?_));exact ab ⟨rfl,rfl,_,rfl,rfl,aw _ _⟩
         refine aF ?_ ?_
         ·intro wD E sD;refine aR (aR (aR (aR (aR ?_))));intro v4 qf;intro v5 qg;refine aR (aR (bG ep rfl rfl I3 (by decide) rfl rfl ?_));exact ab ⟨rfl,rfl,_,rfl,rfl,aw _ _⟩
         exact sH
        ·intro Uu pf;refine aR (aR (aR (aR ?_)));intro alL agA;intro RQ B7;refine aR (aR (aR (aR ?_)));have h9:=h8.step pf;refine cu (M:=M2) I3 rfl rfl h9.x rfl rfl h9.mx (fun w13 agB CV=>?_);refine ab ⟨rfl,?_⟩;have Qn:=h9.Vu CV agB (h9.hb.le CV.le) h9.hk;have agC:=(hp8.le (by decide) pf.le).le (by decide) CV.le;refine ae ?_;refine aN (M:=M2) (A:=RT.po) (B:=RT.int .i64) bI rfl rfl I3 (by decide) O0 rfl rfl (by decide) agC (aq _ _) (fun ZW Nu=>?_);refine cb (M:=M2) ax rfl rfl Nu (aq _ _) (fun _=>?_);refine aV (v':= .int .i64 d) rfl ?_;refine cu (M:=M2) I3 rfl rfl Qn.l rfl rfl Qn.ml (fun UH agD jW=>?_);have h11:=Qn.Qz jW agD;refine ab (ae (bF rfl rfl rfl (by omega) (ad rfl rfl (ab ?_))));refine⟨rfl,(j+1,v12),(.cons rfl (.cons rfl (.cons rfl (.cons rfl (.cons rfl (.cons rfl (.cons rfl .nil))))))),?_,?_⟩
         ·refine⟨by simp only;omega,?_,?_⟩
          ·exact jW.keep (CV.keep (pf.aK (Nt.keep (JE.keep (jh.aK (Sq.aK hQ)) (by omega)) (by omega))) (by omega)) (by omega)
          ·simp only;rw[show i+(j+1)=i+j+1 from by omega,yr hx,f5,ftk];exact h11
         ·simp only;omega
     ·refine cG (aj (ae ?_));obtain rfl:j=((l.drop i).take 8).length:=by omega
      have Xx:M2 bq:=by rw[Fw];exact .inl rfl
      refine aM ax rfl rfl rfl h4.l rfl (bG (o':=2) sG rfl rfl I3 (by decide) rfl rfl ?_);refine cu (M:=M2) I3 rfl rfl hQ rfl rfl Xx (fun Xp ZX Bm=>?_);have Xq:=h4.other Bm hDq hqv;change Xp.heap[bq]? =some (.cells [.int .i64 (dY (-1) (l.take i)).length,.int .i64 (dr (-1) (l.take i)),.int .i64 (dr (-1) (l.take (i+((l.drop i).take 8).length))),.int .i64 ((l.drop i).take 8).length].toArray 209 (0,0))at ZX;refine ab ?_;have hO:=Xq.o;have hX:=Xq.x;have QB:=Xq.hk;have fk:∀k,vk.ownBlock=some k→k≠bo:=fun k hk=>by have:=(QB.base k hk).1;omega
      have aqj:=ak Xq.r;have g1:=sU l (-1) mY (by omega) i;have g2:=sU l (-1) mY (by omega) (i+((l.drop i).take 8).length);have g3:=nE l i;apply T.HD (M:=M2) (n:=85) _ mixed [(7,fun k=>vk.ownBlock=some k)] [cL.eq _,cL.eq _,cL.eq _,cL.eq _,cL.eq _,cL.eq (.agg [.int .i64 (dY (-1) (l.take i)).length,.int .i64 (dr (-1) (l.take i)),.int .i64 (dr (-1) (l.take (i+((l.drop i).take 8).length))),.int .i64 ((l.drop i).take 8).length].toArray),cL.V ((RT.bl).sl) [(((dY (-1) (l.take i)).length:Int),dr (-1) (l.take i),dr (-1) (l.take (i+((l.drop i).take 8).length)),(((l.drop i).take 8).length:Int))],⟨fun t w=>∃M3,Own RT.bl 209 M3 w (D+2) t (rC l ((i+7)/8)++[(((dY (-1) (l.take i)).length:Int),dr (-1) (l.take i),dr (-1) (l.take (i+((l.drop i).take 8).length)),(((l.drop i).take 8).length:Int))])∧Step M2 Xp M3 w (fun k=>vk.ownBlock=some k),aC,fun⟨M3,h1,h2⟩ s hN=>⟨M3,h1.aP ((s.cA hN (fun _ h=>h.elim)).any M3),h2.aB ((s.cA hN (fun _ h=>h.elim)).any M3)⟩⟩,cL.eq _,cL.eq _]
      ·rfl
      ·rfl
      ·rfl
      ·rfl
      ·intro p hp b hb;simp only[bJ]at hp;subst hp;exact QB.mut_ b hb
      ·exact⟨fun _ _ _ _=>trivial,⟨fun _ _ _ _=>trivial,⟨fun _ _ _ _=>trivial,⟨fun _ _ _ _=>trivial,⟨fun _ _ _ _=>trivial,⟨fun _ _ _ _=>trivial,⟨fun _ _ _ _=>trivial,⟨fun p hp=>by simp at hp,⟨fun _ _ _ _=>trivial,⟨fun _ _ _ _=>trivial,trivial⟩⟩⟩⟩⟩⟩⟩⟩⟩⟩
      ·refine aF ?_ ?_
       ·intro wD E sD;replace sD:Step M2 _ M2 wD (fun k=>vk.ownBlock=some k):=sD;refine aM eN rfl rfl rfl (sD.keep hO (fun hb=>fk _ hb rfl)) rfl ?_;exact ab ⟨rfl,rfl,_,rfl,rfl,aw _ _⟩
       refine aF ?_ ?_
       ·intro wD E sD;replace sD:Step M2 _ M2 wD (fun k=>vk.ownBlock=some k):=sD;refine aM eN rfl rfl rfl (sD.keep hO (fun hb=>fk _ hb rfl)) rfl ?_;exact ab ⟨rfl,rfl,_,rfl,rfl,aw _ _⟩
       refine aF ?_ ?_
       ·intro wD E sD;replace sD:Step M2 _ M2 wD (fun k=>vk.ownBlock=some k):=sD;refine aR (bS rfl ⟨_,rfl⟩ rfl ?_);exact ab ⟨rfl,rfl,_,rfl,rfl,aw _ _⟩
       refine aF ?_ ?_
       ·intro wD E sD;replace sD:Step M2 _ M2 wD (fun k=>vk.ownBlock=some k):=sD;refine aR (bG ep rfl rfl I1 (by decide) rfl rfl ?_);exact ab ⟨rfl,rfl,_,rfl,rfl,aw _ _⟩
       refine aF ?_ ?_
       ·intro wD E sD;replace sD:Step M2 _ M2 wD aC:=sD;refine aR (aM iH rfl rfl rfl (cW sD (by assumption)) rfl ?_);exact ab ⟨rfl,rfl,_,rfl,rfl,aw _ _⟩
       refine aF ?_ ?_
       ·intro wD E sD;replace sD:Step M2 _ M2 wD (fun k=>vk.ownBlock=some k):=sD;refine fE (vs:=[.int .i64 (dY (-1) (l.take i)).length,.int .i64 (dr (-1) (l.take i)),.int .i64 (dr (-1) (l.take (i+((l.drop i).take 8).length))),.int .i64 ((l.drop i).take 8).length]) sG rfl BW rfl rfl rfl (sD.keep ZX (fun hb=>hqv _ hb rfl)) ?_;exact ab ⟨rfl,rfl,_,rfl,rfl,aw _ _⟩
       refine aF ?_ ?_
       ·intro wD E sD;replace sD:Step M2 _ M2 wD aC:=sD;refine aR ?_;refine ed (A:=RT.bl) (hn:=by decide) (M:=M2) iH BW (by decide) rfl rfl (sD.lt Xq.lt) (adf (by omega) (by omega) (by omega) (by omega)) (.inl rfl) (fun uS wS hS sS=>?_);exact ab ⟨rfl,rfl,_,rfl,hS,sS⟩
       refine aF ?_ ?_
       ·intro wD E sD;replace sD:Step M2 _ M2 wD aC:=sD;refine aR ?_;intro v6 wT;refine cZ (M:=M2) (base:=D+2) iH BW rfl rfl rfl rfl (QB.aP sD) (show((RT.bl).sl).V M2 wD [(((dY (-1) (l.take i)).length:Int),dr (-1) (l.take i),dr (-1) (l.take (i+((l.drop i).take 8).length)),(((l.drop i).take 8).length:Int))] v6 from wT) (aq _ _) (by simp[rC];omega) (by simp[rC];omega) (by have:=sD.size;omega) (fun v3 M3 w3 ze s3=>?_);exact ab ⟨rfl,rfl,_,rfl,⟨M3,ze,(sD.cA (fun _ h=>h.elim) QB.mut_).trans s3 (fun b _ hb=>hb)⟩,s3.back⟩
       refine aF ?_ ?_
       ·intro wD E sD;replace sD:Step M2 _ M2 wD (fun k=>vk.ownBlock=some k):=sD;refine aR (aR (aR (aR (aR (aR (aR ?_))))));intro v6 wT;intro v7 Gp;refine bS rfl ⟨_,rfl⟩ rfl ?_;exact ab ⟨rfl,rfl,_,rfl,rfl,aw _ _⟩
       refine aF ?_ ?_
       ·intro wD E sD;replace sD:Step M2 _ M2 wD (fun k=>vk.ownBlock=some k):=sD;refine aR (aR (aR (aR (aR (aR (aR ?_))))));intro v6 wT;intro v7 Gp;refine bG ep rfl rfl I1 (by decide) rfl rfl ?_;exact ab ⟨rfl,rfl,_,rfl,rfl,aw _ _⟩
       exact sH
      ·intro agE ZY;replace ZY:Step M2 _ M2 agE (fun k=>vk.ownBlock=some k):=ZY;refine aR (aR (aR (aR (aR (aR ?_)))));intro alM agF;intro alN VA;refine aR (aR ?_);obtain⟨M3,ze,sR⟩:=VA;obtain⟨⟨JC,hm3,aqk⟩,FJ⟩:=Xq.grow sR ze;refine cu (M:=M3) I1 rfl rfl JC rfl (by obtain⟨_,_,he,_⟩:=ze.isSlice;rw[he];rfl) hm3 (fun Xr agH Cm=>?_);refine ab ⟨rfl,?_⟩;have Vk:=FJ Cm agH;have h18:=Vk.mH (st':= .loop (rec .ready none)) Vk.r;have hE:i+((l.drop i).take 8).length=min (i+8) l.length:=by omega
       rw[hE,KZ (by omega) hi]at h18;exact⟨Vk.r,true,rfl,fun _=>⟨M3,_,_,h18,by omega,by omega⟩,fun h=>by cases h⟩
  ·obtain⟨Mz,vb,vk,h,_,_⟩:=h3.resolve_right (fun h=>h);left;rw[List.take_length]at h;have h5:=h.mH (st':= .loop (rec .exhausted none)) h.r;refine⟨h.r,?_⟩;generalize w3.putObj (D+1) _=wE at h5 ⊢;refine aj (ae (aM eN rfl rfl rfl h5.o rfl (ah rfl rfl (ah rfl rfl (ab (aO ?_))))));obtain⟨q1,q2,q3,q4,q5,q6,q7,q8,q9,q10,q11,q12,q13,q14,q15,q16,q17,q18⟩:=h5.ne;have sZ:Step Mz wE Mz (wE.putObj D (.deferred none)) (fun k=>k=D):=dS h5.md;have SZ:=h5.S.cd sZ (fun k hk=>by subst hk;omega);have ht:=oZ l;refine TL rfl rfl rfl h5.d ⟨SZ.back,fun _=>⟨_,rfl,?_⟩,fun hf=>by rw[mY]at hf;cases hf⟩;exact XX (sZ.keep h5.x (by omega)) (fun hh=>by have:=hM _ hh;omega) ((h5.hb.le sZ.le).le (Le.close hM SZ)) (xF hM SZ ((h5.hk.step sZ (fun k hk hh=>by have:=(h5.hk.base k hk).1;omega)).nB (by omega)) (by simp[rC];omega)) (by omega)
end Go.K
namespace Go.K
open Go.Proofs
namespace TKBldG
theorem xy:TI Tryz.prog 80 (.slice none 0 0) 1 24:=by unfold TI;kernel_rfl
theorem Ew:TI Tryz.prog 196 (.slice none 0 0) 1 24:=by unfold TI;kernel_rfl
theorem VB:Enters Tryz.prog 145:=enters Tryz.func145 rfl (by decide)
theorem agI:Enters Tryz.prog 197:=enters Tryz.func197 rfl (by decide)
end TKBldG
open TKBldG
set_option maxRecDepth 10000
theorem index_spec {M:aD} {l:List (List Po)} {v0:Value} {g:FuncId} {cap:List Value} {B:Nat} {J:Nat→aD→World→Prop} {bad:List Po→Bool} (w0:World) (hM:Lt M w0) (hv:(((RT.po).sl).sl).V M w0 l v0) (hg:Enters Tryz.prog g) (hJ:J 0 M w0) (kD:∀i M w M' w',J i M w→Step M w M' w' aC→J i M' w') (ht:∀i M w x vx,J i M w→Lt M w→l[i]? =some x→((RT.po).sl).V M w x vx→Spec Tryz.prog g ([vx]++cap).toArray w (fun v w'=>∃M',Lt M' w'∧v= .bool (bad x)∧(bad x=false→J (i+1) M' w')∧Step M w M' w' (lJ M B))):
  Spec Tryz.prog 197 #[v0,.func (.func g) #[] cap.toArray] w0 (fun v w=>∃M' k,v= .int .i64 k∧ -1≤k∧Lt M' w∧Step M w0 M' w (lJ M B)∧(k= -1→(∀x∈l,bad x=false)∧J l.length M' w)∧(0≤k→∃x∈l,bad x=true)):=by
 have hlen:=dy hv;refine bc (args:=[_,_]) (fn:=Tryz.f197) Tryz.func197 rfl (n:=19) Tryz.ntmps197 ?_;have S:Step M w0 M w0 (lJ M B):=(aw _ _).cA (fun _ h=>h.elim) (fun _ h=>h.2);refine aj (ae (ah rfl rfl (ab (aj (aj (ae (ad rfl rfl (bM dw rfl hv rfl (ad rfl rfl (ab (aZ ?_)))))))))));refine de (σ:=Nat) (fun q=>[(0,v0),(1,.func (.func g) #[] cap.toArray),(6,v0),(7,.int .i64 (l.length:Int)),(8,.int .i64 (q:Int))]) (fun q w=>∃M',Lt M' w∧Step M w0 M' w (lJ M B)∧(((RT.po).sl).sl).V M' w l v0∧J q M' w∧q≤l.length∧∀x∈l.take q,bad x=false) (fun q=>l.length-q) 0 (.cons rfl (.cons rfl (.cons rfl (.cons rfl (.cons rfl .nil))))) ?_ ?_
 ·exact⟨M,hM,S,hv,hJ,bE _,fun x h=>by simp at h⟩
 ·clear hM S hv hJ;rintro i w ⟨M1,hM,S,hv,hJ,hi,j9⟩;refine aj (ae (cj rfl rfl rfl (ab (aj ?_))));refine bN rfl (fun c2=>?_) (fun c2=>?_)
  ·refine aU (aj (aZ (aj (ae (ad rfl rfl (ah rfl rfl (ab (aj (ae (ad rfl rfl (ad rfl rfl ?_)))))))))));refine ad rfl rfl ?_;refine cy (M:=M1) dw xy rfl rfl rfl hv (aq _ _) (by omega) (fun u x wO hu=>?_);rw[ay]at wO;refine bT (M:=M1) br rfl rfl rfl rfl rfl hu (aq _ _) (fun vx rD=>?_);refine rr (first:=[]) (captured:=cap) (xs:=[.tmp 15]) rfl rfl rfl hg (ht i _ _ x vx hJ hM wO rD) (fun r4 w4 hc=>?_);obtain⟨M4,hM4,rfl,hJ4,s4⟩:=hc;refine aV (v':= .bool (decide (bad x=true))) (by simp) ?_;have S4:=S.trans s4 (fun k hk h=>⟨h.1,(S.mem k hk).1 h.2⟩);refine ab ?_;refine bN rfl (fun c4=>?_) (fun c4=>?_)
   ·refine aj (ae (ad rfl rfl (ah rfl rfl (ab (aO ?_)))));exact aS rfl rfl ⟨M4,_,rfl,by omega,hM4,S4,fun h=>absurd h (by omega),fun _=>⟨x,aA wO,c4⟩⟩
   ·refine aU (ae (bF rfl rfl rfl (by omega) (ad rfl rfl (ab ?_))));refine⟨rfl,i+1,(.cons rfl (.cons rfl (.cons rfl (.cons rfl (.cons rfl .nil))))),?_,?_⟩
    ·have hb:bad x=false:=by simpa using c4
     exact⟨M4,hM4,S4,hv.le s4.le,hJ4 hb,by omega,fun y hy=>by
      rw[bK,wO,cT,cp,bJ]at hy;rcases hy with hy|rfl
      ·exact j9 y hy
      ·exact hb⟩
    ·omega
  ·refine cG (aj (ae (ah rfl rfl (ab (aO ?_)))));rw[aW (by omega)]at j9;have e:i=l.length:=by omega
   subst e;exact aS rfl rfl ⟨_,_,rfl,by omega,hM,S,fun _=>⟨j9,hJ⟩,fun h=>absurd h (by omega)⟩
theorem Ay {M:aD} {l:List (List Po)} {v0:Value} {g:FuncId} {cap:List Value} {B:Nat} {J:Nat→aD→World→Prop} {bad:List Po→Bool} (w0:World) (hM:Lt M w0) (hv:(((RT.po).sl).sl).V M w0 l v0) (hg:Enters Tryz.prog g) (hJ:J 0 M w0) (kD:∀i M w M' w',J i M w→Step M w M' w' aC→J i M' w') (ht:∀i M w x vx,J i M w→Lt M w→l[i]? =some x→((RT.po).sl).V M w x vx→Spec Tryz.prog g ([vx]++cap).toArray w (fun v w'=>∃M',Lt M' w'∧v= .bool (bad x)∧(bad x=false→J (i+1) M' w')∧Step M w M' w' (lJ M B))):
  Spec Tryz.prog 146 #[v0,.func (.func g) #[] cap.toArray] w0 (fun v w=>∃M' k,v= .bool (decide (0≤k))∧ -1≤k∧Lt M' w∧Step M w0 M' w (lJ M B)∧(k= -1→(∀x∈l,bad x=false)∧J l.length M' w)∧(0≤k→∃x∈l,bad x=true)):=by
 refine bc (args:=[_,_]) (fn:=Tryz.f146) Tryz.func146 rfl (n:=9) Tryz.ntmps146 (aj (ae (ah rfl rfl (ab (aj (ae (ad rfl rfl (ad rfl rfl ?_))))))));refine aX rfl rfl agI (index_spec w0 hM hv hg hJ kD ht) (fun r w1 hc=>?_);obtain⟨M1,k,rfl,hk,h2⟩:=hc;refine dV rfl rfl rfl (ah rfl rfl (ab (aO ?_)));exact aS rfl rfl ⟨M1,k,rfl,hk,h2⟩
def Ex (x:List Po):Int:=match x.getLast? with|some p=>p.1|none=> -1
def nJ (n:Int) (x:List Po):Bool:= !fH (-1) x||x.isEmpty||decide (n≤Ex x)
theorem Ey {x:List Po} {p:Po} (h:x[x.length-1]? =some p):Ex x=p.1:=by
 unfold Ex;rw[List.getLast?_eq_getElem?,h]
structure Room (x:List Po):Prop where
 ps:∀p∈x,p.2.length≤1099511627776
 by_:(dY (-1) x).length≤35184372088832
 ln:x.length≤1099511627776
 rW:jl x≤4611686018427387904
def RT.cell:RT Value where
 n:=1
 agg:=false
 R:=fun _ _ x vs=>vs=[x]∧x.oneCell'=true
 len:=by rintro _ _ x vs ⟨rfl,_⟩;rfl
 one:=by rintro _ _ x vs ⟨rfl,h⟩ v hv;simp at hv;subst hv;exact h
 le:=fun _ h=>h
theorem QC {M:aD} {w:World} {v:Value} (h:v.oneCell'=true):RT.cell.V M w v v:=⟨[v],⟨rfl,h⟩,rfl⟩
theorem dX.cells {α:Type} {A:RT α} (hA:A.n=1) {M:aD} {w:World}:∀{xs:List α} {C:List Value},dX A M w xs C→∃ys:List Value,dX RT.cell M w ys C∧ys.length=xs.length
 |[],C,h=>⟨[],h,rfl⟩
 |x::xs,C,h=>by
  obtain⟨vs,r,h1,h2,h3⟩:=h;obtain⟨ys,h4,h5⟩:=dX.cells hA h3;have hl:=A.len h2
  match vs,hl,h1,h2 with
  |[v],_,h1,h2=>exact⟨v::ys,⟨[v],r,h1,⟨rfl,A.one h2 v (by simp)⟩,h4⟩,by simp[h5]⟩
  |[],hl,_,_=>simp at hl;omega
  |_::_::_,hl,_,_=>simp at hl;omega
theorem Own.cells {α:Type} {A:RT α} (hA:A.n=1) {e:TypeId} {M:aD} {w:World} {base:Nat} {v:Value} {xs:List α} (h:Own A e M w base v xs):∃ys:List Value,Own RT.cell e M w base v ys∧ys.length=xs.length:=by
 obtain⟨⟨C,hr,ha⟩,hm⟩:=h;obtain⟨ys,h1,h2⟩:=ha.cells hA;exact⟨ys,⟨⟨C,by rw[h2,show RT.cell.n=A.n from hA.symm];exact hr,h1⟩,hm⟩,h2⟩
def Az (bl bn:Nat) (n:Int) (ls:List (List Po)) (B:Nat) (i:Nat) (M:aD) (w:World):Prop:=∃vl,w.heap[bl]? =some (.cells #[vl] 196 (0,0))∧M bl∧B≤bl∧w.heap[bn]? =some (.cells #[.int .i64 n] 3 (0,0))∧M bn∧Own ((RT.li).ptr) 142 M w B vl ((ls.take i).map mU)
theorem Az.aP {bl bn:Nat} {n:Int} {ls:List (List Po)} {B i:Nat} {M M':aD} {w w':World} (h:Az bl bn n ls B i M w) (s:Step M w M' w' aC):Az bl bn n ls B i M' w':=by
 obtain⟨vl,h1,h2,h3,h4,h5,h6⟩:=h;exact⟨vl,s.aK h1,(s.mem _ (ak h1)).2 h2,h3,s.aK h4,(s.mem _ (ak h4)).2 h5,h6.aP s⟩
theorem VC {M:aD} {bl bn B i:Nat} {n:Int} {ls:List (List Po)} {x:List Po} {v0:Value} (w0:World) (hM:Lt M w0) (hB:B≤w0.heap.size) (hJ:Az bl bn n ls B i M w0) (hx:ls[i]? =some x) (hv:((RT.po).sl).V M w0 x v0) (hr:Room x) (oK:i≤1000000000) (hm:fH (-1) x=true):
  Spec Tryz.prog 144 #[v0,.pointer (some ⟨bl,0,none⟩),.pointer (some ⟨bn,0,none⟩)] w0 (fun v w=>∃M',Lt M' w∧v= .bool (nJ n x)∧(nJ n x=false→Az bl bn n ls B (i+1) M' w)∧Step M w0 M' w (lJ M B)):=by
 have hlen:=dy hv;obtain⟨vl,gl,kT,hBl,gn,mJ,ho⟩:=hJ;have nln:bl≠bn:=fun h=>by rw[h,gn]at gl;simp at gl
 refine bc (args:=[_,_,_]) (fn:=Tryz.f144) Tryz.func144 rfl (n:=34) Tryz.ntmps144 ?_;have S:Step M w0 M w0 (lJ M B):=(aw _ _).cA (fun _ h=>h.elim) (fun _ h=>h.2);refine aj (ae (ah rfl rfl (ab (aj (ae (ad rfl rfl ?_))))));refine aX rfl rfl VB (Bk hM hv hr.ps hr.by_ hr.ln hr.rW) (fun r1 w1 hc=>?_);obtain⟨s1,hok,j9⟩:=hc;obtain⟨p,rfl,hp⟩:=hok hm;have:=ak gl;replace kT:=(s1.mem _ this).2 kT;replace gl:=s1.aK gl;have:=ak gn;replace mJ:=(s1.mem _ this).2 mJ;replace gn:=s1.aK gn;replace hv:=hv.le s1.le;replace ho:=ho.aP s1;replace hM:=s1.lt hM;have:=S.size;replace S:=S.aB s1;refine ad rfl rfl (bW rfl rfl rfl (bW rfl rfl rfl (ah rfl rfl (ah rfl rfl (ab (aj (ae (aM dZ rfl rfl rfl gl rfl (aV (v':=vl) rfl (ad rfl rfl ?_))))))))));refine ed (A:=((RT.li).ptr)) (hn:=by decide) (M:=M) dZ Am (by decide) rfl rfl hM (lF.2 hp) (.inr ⟨rfl,rfl⟩) (fun ZZ agK lj pZ=>?_);have:=ak gl;replace kT:=(pZ.mem _ this).2 kT;replace gl:=pZ.aK gl;have:=ak gn;replace mJ:=(pZ.mem _ this).2 mJ;replace gn:=pZ.aK gn;replace hv:=hv.le pZ.le;replace hp:=hp.le (by decide) pZ.le;replace ho:=ho.aP pZ;replace hM:=pZ.lt hM;have:=S.size;replace S:=S.aB pZ;refine cZ (M:=M) (base:=B) dZ Am rfl rfl rfl rfl ho lj (aq _ _) (by simp;omega) (by simp;omega) (by have:=S.size;omega) (fun VD Ez agL Nv p6=>?_);have:=ak gl;replace kT:=(p6.mem _ this).2 kT;replace gl:=p6.keep gl (fun h=>by first|exact ho.eg gl h|exact ho.eI gl (by decide) h|(have:=(ho.base _ h).1;omega));have:=ak gn;replace mJ:=(p6.mem _ this).2 mJ;replace gn:=p6.keep gn (fun h=>by first|exact ho.eg gn h|exact ho.eI gn (by decide) h|(have:=(ho.base _ h).1;omega));replace hv:=hv.le p6.le;replace hp:=hp.le (by decide) p6.le
 replace lj:=lj.le p6.le;replace hM:=p6.lt hM;have:=S.size;replace S:=S.trans p6 (fun k hk h=>⟨(ho.base k h).1,(S.mem k hk).1 (ho.mut_ k h)⟩);replace ho:=Nv;refine cu (M:=Ez) Ew rfl rfl gl rfl (by obtain⟨_,_,he,_⟩:=ho.isSlice;rw[he];rfl) kT (fun VE Nw oC=>?_);change VE.heap[_]? =some (Obj.cells #[VD] _ _)at Nw;have:=ak gl;replace kT:=(oC.mem _ this).2 kT;have:=ak gn;replace mJ:=(oC.mem _ this).2 mJ;replace gn:=oC.keep gn (fun hk=>by have hk:_=_:=hk;omega);replace hv:=hv.le oC.le;replace hp:=hp.le (by decide) oC.le;replace lj:=lj.le oC.le;replace ho:=ho.step oC (fun c hc (h:c=bl)=>ho.eI gl (by decide) (h▸hc));replace hM:=oC.lt hM;have:=S.size;replace S:=S.trans oC (fun k hk h=>by have h:_=_:=h;subst h;first|(exfalso;omega)|(show _≤_;omega)|exact⟨by first|omega|assumption,(S.mem _ hk).1 ((oC.mem _ (ak gl)).1 kT)⟩|exact .inl rfl|exact .inr rfl|exact .inr (.inl rfl)|exact .inr (.inr rfl)|exact .inr (.inr (.inl rfl))|exact rfl);have Z0:=Nw;clear gl;have gl:=Z0;clear Z0;refine ab (aj ?_);apply mQ mixed rfl rfl;intro Yq RF;have qX:=RF Ez;have:=ak gl;replace kT:=(qX.mem _ this).2 kT;replace gl:=qX.aK gl;have:=ak gn;replace mJ:=(qX.mem _ this).2 mJ;replace gn:=qX.aK gn;replace hv:=hv.le qX.le;replace hp:=hp.le (by decide) qX.le;replace lj:=lj.le qX.le;replace ho:=ho.aP qX;replace hM:=qX.lt hM;have:=S.size;replace S:=S.aB qX;refine ad rfl rfl ?_;refine ab ⟨rfl,rfl,rfl,?_⟩;refine eM rfl rfl rfl ?_;refine ab ⟨rfl,rfl,rfl,?_⟩;refine ad rfl rfl ?_;refine ab ⟨rfl,rfl,rfl,?_⟩;refine Rg.BC (g:=18) rfl ((by decide)) (al rfl rfl (ad rfl rfl ?_));refine ab ⟨rfl,rfl,rfl,?_⟩;refine al rfl rfl (bM br rfl hv rfl ?_);refine ab ⟨rfl,rfl,rfl,?_⟩;refine al rfl rfl (nX rfl rfl rfl ?_);refine ab ⟨rfl,rfl,rfl,?_⟩;refine aE rfl rfl rfl ?_
 refine ab ⟨rfl,rfl,rfl,?_⟩;refine ad rfl rfl ?_;refine ab ⟨rfl,rfl,rfl,?_⟩;refine aQ (g:=23) rfl (fun VF=>?_) (fun VF=>?_)
 ·refine au rfl rfl rfl rfl ?_;refine ab ⟨rfl,rfl,rfl,?_⟩;refine au rfl rfl rfl rfl ?_;refine ab ⟨rfl,rfl,rfl,?_⟩;refine au rfl rfl rfl rfl ?_;refine ab ⟨rfl,rfl,rfl,?_⟩;refine au rfl rfl rfl rfl ?_;refine ab ⟨rfl,rfl,rfl,?_⟩;refine au rfl rfl rfl rfl ?_;refine ab ⟨rfl,rfl,rfl,?_⟩;refine au rfl rfl rfl rfl ?_;refine ab ⟨rfl,rfl,rfl,?_⟩;refine au rfl rfl rfl rfl ?_;refine ab ⟨rfl,rfl,rfl,?_⟩;refine au rfl rfl rfl rfl ?_;refine ab ⟨rfl,rfl,rfl,?_⟩;refine au rfl rfl rfl rfl ?_;refine ab ⟨rfl,rfl,rfl,?_⟩;refine aY rfl rfl rfl ?_;refine ab ⟨rfl,rfl,rfl,?_⟩;refine ah rfl rfl ?_;refine ab ⟨rfl,rfl,rfl,?_⟩;refine ew (aO ?_)
  first
  |(have QD:nJ n x=true:=by
     have:x=[]:=cR.1 (by omega);simp[nJ,this]
    rw[QD];exact aS rfl rfl ⟨_,hM,rfl,(fun h=>by cases h),S⟩)
  |(have eK:x.isEmpty=false:=by cases x with
     |nil=>simp at VF
     |cons a t=>rfl
    have hbv:nJ n x=decide (n≤q.1):=by unfold nJ;rw[hm,eK,Ey hq];rfl
    rw[hbv];exact aS rfl rfl ⟨_,hM,rfl,fun _=>⟨_,gl,kT,hBl,gn,mJ,by rw[bK,hx,cT,eA];exact ho⟩,S⟩)
 ·refine al rfl rfl (ad rfl rfl ?_);refine ab ⟨rfl,rfl,rfl,?_⟩;refine al rfl rfl (ad rfl rfl ?_);refine ab ⟨rfl,rfl,rfl,?_⟩;refine al rfl rfl (bM br rfl hv rfl ?_);refine ab ⟨rfl,rfl,rfl,?_⟩;refine al rfl rfl (fe rfl rfl rfl (by omega) ?_);refine ab ⟨rfl,rfl,rfl,?_⟩;refine al rfl rfl ?_;obtain⟨q,hq⟩:∃q,x[x.length-1]? =some q:=⟨_,ar (by omega)⟩;refine cy (M:=Ez) br lM rfl rfl rfl hv (aq _ _) (by omega) (fun u3 a O1 Jk=>?_);obtain rfl:q=a:=aH (hq.symm.trans (by rw[show((x.length:Int)-1).toNat=x.length-1 from by omega]at O1;exact O1));refine ab ⟨rfl,rfl,rfl,?_⟩;refine al rfl rfl ?_;refine aN (M:=Ez) (A:=RT.po) (B:=RT.int .i64) bI rfl rfl I3 (by decide) (O0) rfl rfl (by decide) (by assumption) (by repeat (first|exact aq _ _|refine a8 (bD (by assumption)) ?_)) (fun alP agM=>?_);refine ab ⟨rfl,rfl,rfl,?_⟩;refine al rfl rfl ?_;refine cb (M:=Ez) ax rfl rfl (by assumption) (by repeat (first|exact aq _ _|refine a8 (bD (by assumption)) ?_)) (fun Nx=>?_);refine aV (v':= .int .i64 (q.1)) rfl ?_;replace Nx: -9223372036854775808≤(q.1:Int)∧q.1≤9223372036854775807:=Nx;refine ab ⟨rfl,rfl,rfl,?_⟩;refine al rfl rfl (aM ax rfl rfl rfl gn rfl (aV (v':= .int .i64 n) rfl ?_));refine ab ⟨rfl,rfl,rfl,?_⟩;refine al rfl rfl (dV rfl rfl rfl ?_);refine ab ⟨rfl,rfl,rfl,?_⟩;refine aE rfl rfl rfl ?_;refine ab ⟨rfl,rfl,rfl,?_⟩;refine ah rfl rfl ?_;refine ab ⟨rfl,rfl,rfl,?_⟩;refine ew (aO ?_)
  first
  |(have QD:nJ n x=true:=by
     have:x=[]:=cR.1 (by omega);simp[nJ,this]
    rw[QD];exact aS rfl rfl ⟨_,hM,rfl,(fun h=>by cases h),S⟩)
  |(have eK:x.isEmpty=false:=by cases x with
     |nil=>simp at VF
     |cons a t=>rfl
    have hbv:nJ n x=decide (n≤q.1):=by unfold nJ;rw[hm,eK,Ey hq];rfl
    rw[hbv];exact aS rfl rfl ⟨_,hM,rfl,fun _=>⟨_,gl,kT,hBl,gn,mJ,by rw[bK,hx,cT,eA];exact ho⟩,S⟩)
theorem QE {M:aD} {bl bn B i:Nat} {n:Int} {ls:List (List Po)} {x:List Po} {v0:Value} (w0:World) (hM:Lt M w0) (hB:B≤w0.heap.size) (hJ:Az bl bn n ls B i M w0) (hx:ls[i]? =some x) (hv:((RT.po).sl).V M w0 x v0) (hr:Room x) (oK:i≤1000000000) (hm:fH (-1) x=false):
  Spec Tryz.prog 144 #[v0,.pointer (some ⟨bl,0,none⟩),.pointer (some ⟨bn,0,none⟩)] w0 (fun v w=>∃M',Lt M' w∧v= .bool (nJ n x)∧(nJ n x=false→Az bl bn n ls B (i+1) M' w)∧Step M w0 M' w (lJ M B)):=by
 have hlen:=dy hv;obtain⟨vl,gl,kT,hBl,gn,mJ,ho0⟩:=hJ;have nln:bl≠bn:=fun h=>by rw[h,gn]at gl;simp at gl
 obtain⟨ys,ho,FU⟩:=ho0.cells rfl;rw[aL,bH]at FU;clear ho0;refine bc (args:=[_,_,_]) (fn:=Tryz.f144) Tryz.func144 rfl (n:=34) Tryz.ntmps144 ?_;have S:Step M w0 M w0 (lJ M B):=(aw _ _).cA (fun _ h=>h.elim) (fun _ h=>h.2);refine aj (ae (ah rfl rfl (ab (aj (ae (ad rfl rfl ?_))))));refine aX rfl rfl VB (Bk hM hv hr.ps hr.by_ hr.ln hr.rW) (fun r1 w1 hc=>?_);obtain⟨s1,hok,j9⟩:=hc;obtain rfl:=j9 hm;have:=ak gl;replace kT:=(s1.mem _ this).2 kT;replace gl:=s1.aK gl;have:=ak gn;replace mJ:=(s1.mem _ this).2 mJ;replace gn:=s1.aK gn;replace hv:=hv.le s1.le;replace ho:=ho.aP s1;replace hM:=s1.lt hM;have:=S.size;replace S:=S.aB s1;refine ad rfl rfl (bW rfl rfl rfl (bW rfl rfl rfl (ah rfl rfl (ah rfl rfl (ab (aj (ae (aM dZ rfl rfl rfl gl rfl (aV (v':=vl) rfl (ad rfl rfl ?_))))))))));refine ed (A:=RT.cell) (hn:=by decide) (M:=M) dZ Am (by decide) rfl rfl hM (QC (v:= .pointer none) rfl) (.inr ⟨rfl,rfl⟩) (fun ZZ agK lj pZ=>?_);have:=ak gl;replace kT:=(pZ.mem _ this).2 kT;replace gl:=pZ.aK gl;have:=ak gn;replace mJ:=(pZ.mem _ this).2 mJ;replace gn:=pZ.aK gn;replace hv:=hv.le pZ.le;replace ho:=ho.aP pZ;replace hM:=pZ.lt hM;have:=S.size;replace S:=S.aB pZ;refine cZ (M:=M) (base:=B) dZ Am rfl rfl rfl rfl ho lj (aq _ _) (by simp;omega) (by simp;omega) (by have:=S.size;omega) (fun VD Ez agL Nv p6=>?_);have:=ak gl;replace kT:=(p6.mem _ this).2 kT;replace gl:=p6.keep gl (fun h=>by first|exact ho.eg gl h|exact ho.eI gl (by decide) h|(have:=(ho.base _ h).1;omega));have:=ak gn;replace mJ:=(p6.mem _ this).2 mJ;replace gn:=p6.keep gn (fun h=>by first|exact ho.eg gn h|exact ho.eI gn (by decide) h|(have:=(ho.base _ h).1;omega))
 replace hv:=hv.le p6.le;replace lj:=lj.le p6.le;replace hM:=p6.lt hM;have:=S.size;replace S:=S.trans p6 (fun k hk h=>⟨(ho.base k h).1,(S.mem k hk).1 (ho.mut_ k h)⟩);replace ho:=Nv;refine cu (M:=Ez) Ew rfl rfl gl rfl (by obtain⟨_,_,he,_⟩:=ho.isSlice;rw[he];rfl) kT (fun VE Nw oC=>?_);change VE.heap[_]? =some (Obj.cells #[VD] _ _)at Nw;have:=ak gl;replace kT:=(oC.mem _ this).2 kT;have:=ak gn;replace mJ:=(oC.mem _ this).2 mJ;replace gn:=oC.keep gn (fun hk=>by have hk:_=_:=hk;omega);replace hv:=hv.le oC.le;replace lj:=lj.le oC.le;replace ho:=ho.step oC (fun c hc (h:c=bl)=>ho.eI gl (by decide) (h▸hc));replace hM:=oC.lt hM;have:=S.size;replace S:=S.trans oC (fun k hk h=>by have h:_=_:=h;subst h;first|(exfalso;omega)|(show _≤_;omega)|exact⟨by first|omega|assumption,(S.mem _ hk).1 ((oC.mem _ (ak gl)).1 kT)⟩|exact .inl rfl|exact .inr rfl|exact .inr (.inl rfl)|exact .inr (.inr rfl)|exact .inr (.inr (.inl rfl))|exact rfl);have Z0:=Nw;clear gl;have gl:=Z0;clear Z0;refine ab (aj ?_);apply mQ mixed rfl rfl;intro Yq RF;have qX:=RF Ez;have:=ak gl;replace kT:=(qX.mem _ this).2 kT;replace gl:=qX.aK gl;have:=ak gn;replace mJ:=(qX.mem _ this).2 mJ;replace gn:=qX.aK gn;replace hv:=hv.le qX.le;replace lj:=lj.le qX.le;replace ho:=ho.aP qX;replace hM:=qX.lt hM;have:=S.size;replace S:=S.aB qX;refine ad rfl rfl ?_;refine ab ⟨rfl,rfl,rfl,?_⟩;refine eM rfl rfl rfl ?_;refine ab ⟨rfl,rfl,rfl,?_⟩;refine ad rfl rfl ?_;refine ab ⟨rfl,rfl,rfl,?_⟩;refine Rg.Hz (g:=18) rfl ((by decide)) (au rfl rfl rfl rfl ?_);refine ab ⟨rfl,rfl,rfl,?_⟩;refine au rfl rfl rfl rfl ?_;refine ab ⟨rfl,rfl,rfl,?_⟩;refine au rfl rfl rfl rfl ?_;refine ab ⟨rfl,rfl,rfl,?_⟩;refine aY rfl rfl rfl ?_;refine ab ⟨rfl,rfl,rfl,?_⟩;refine ad rfl rfl ?_;refine ab ⟨rfl,rfl,rfl,?_⟩;refine au rfl rfl rfl rfl ?_
 refine ab ⟨rfl,rfl,rfl,?_⟩;refine au rfl rfl rfl rfl ?_;refine ab ⟨rfl,rfl,rfl,?_⟩;refine au rfl rfl rfl rfl ?_;refine ab ⟨rfl,rfl,rfl,?_⟩;refine au rfl rfl rfl rfl ?_;refine ab ⟨rfl,rfl,rfl,?_⟩;refine au rfl rfl rfl rfl ?_;refine ab ⟨rfl,rfl,rfl,?_⟩;refine au rfl rfl rfl rfl ?_;refine ab ⟨rfl,rfl,rfl,?_⟩;refine au rfl rfl rfl rfl ?_;refine ab ⟨rfl,rfl,rfl,?_⟩;refine au rfl rfl rfl rfl ?_;refine ab ⟨rfl,rfl,rfl,?_⟩;refine au rfl rfl rfl rfl ?_;refine ab ⟨rfl,rfl,rfl,?_⟩;refine aY rfl rfl rfl ?_;refine ab ⟨rfl,rfl,rfl,?_⟩;refine ah rfl rfl ?_;refine ab ⟨rfl,rfl,rfl,?_⟩;refine ew (aO ?_);have QD:nJ n x=true:=by simp[nJ,hm]
 rw[QD];exact aS rfl rfl ⟨_,hM,rfl,(fun h=>by cases h),S⟩
theorem Ny {M:aD} {bl bn B i:Nat} {n:Int} {ls:List (List Po)} {x:List Po} {v0:Value} (w0:World) (hM:Lt M w0) (hB:B≤w0.heap.size) (hJ:Az bl bn n ls B i M w0) (hx:ls[i]? =some x) (hv:((RT.po).sl).V M w0 x v0) (hr:Room x) (oK:i≤1000000000):
  Spec Tryz.prog 144 #[v0,.pointer (some ⟨bl,0,none⟩),.pointer (some ⟨bn,0,none⟩)] w0 (fun v w=>∃M',Lt M' w∧v= .bool (nJ n x)∧(nJ n x=false→Az bl bn n ls B (i+1) M' w)∧Step M w0 M' w (lJ M B)):=by
 cases hm:fH (-1) x with
 |true=>exact VC w0 hM hB hJ hx hv hr oK hm
 |false=>exact QE w0 hM hB hJ hx hv hr oK hm
end Go.K
namespace Go.K
open Go.Proofs
namespace TKBldH
theorem AA:TI Tryz.prog 58 (.slice none 0 0) 1 24:=by unfold TI;kernel_rfl
theorem Bn:TI Tryz.prog 72 (.agg #[(.slice none 0 0),(.slice none 0 0),(.slice none 0 0),(.slice none 0 0)]) 4 96:=by unfold TI;kernel_rfl
theorem agN:TI Tryz.prog 141 (.agg #[(.slice none 0 0),(.slice none 0 0),(.pointer none)]) 3 56:=by unfold TI;kernel_rfl
theorem Ew:TI Tryz.prog 196 (.slice none 0 0) 1 24:=by unfold TI;kernel_rfl
theorem agO:placesOf Tryz.prog 141=[(0,1),(1,1),(2,1)].map some:=by kernel_rfl
theorem Qt:Enters Tryz.prog 51:=enters Tryz.func51 rfl (by decide)
theorem E92:Enters Tryz.prog 92:=enters Tryz.func92 rfl (by decide)
theorem agP:Enters Tryz.prog 143:=enters Tryz.func143 rfl (by decide)
theorem agQ:Enters Tryz.prog 144:=enters Tryz.func144 rfl (by decide)
theorem agR:Enters Tryz.prog 146:=enters Tryz.func146 rfl (by decide)
theorem agS:Enters Tryz.prog 147:=enters Tryz.func147 rfl (by decide)
end TKBldH
open TKBldH
set_option maxRecDepth 10000
def Ad (p:Pa):Bool:=decide (p.1.length=p.2.1.length)&&eo (-1) p.2.1&&p.2.2.2.all (fun x=> !nJ (p.1.length:Int) x)&&decide (p.2.2.1.length=p.2.2.2.length)&&El none p.2.2.1
def rG (p:Pa):Se:=(p.1,p.2.1,p.2.2.1,p.2.2.2.map mU)
structure Nz (p:Pa):Prop where
 a:p.1.length≤1000000000
 b:p.2.1.length≤1000000000
 c:p.2.2.1.length≤1000000000
 d:p.2.2.2.length≤1000000000
 e:∀x∈p.2.2.2,Room x
theorem GW {M:aD} {p:Pa} {v0:Value} (w0:World) (hM:Lt M w0) (hv:RT.pa.V M w0 p v0) (hR:Nz p):
  Spec Tryz.prog 92 #[v0] w0 (fun v w=>Step M w0 M w aC∧(Ad p=true→cN RT.se M w v (rG p))∧(Ad p=false→v= .pointer none)):=by
 have jM:=hM;obtain⟨hRa,hRb,hRc,hRd,hRe⟩:=hR;refine bc (args:=[_]) (fn:=Tryz.f92) Tryz.func92 rfl (n:=45) Tryz.ntmps92 ?_;have S:Step M w0 M w0 aC:=(aw _ _).cA (fun _ h=>h.elim) (fun _ h=>h.elim);refine aj (ae ?_);refine qc (A:=RT.pa) rfl rfl hM hv rfl (fun u0 w1 dn s0 _=>?_);replace hM:=s0.lt hM;have:=S.size;replace S:=S.aB s0;refine ah rfl rfl (ab (aj (ae ?_)));refine aN (M:=M) (A:=RT.pa) (B:=(RT.int .i64).sl) bm rfl rfl jL (by decide) (pa0) rfl rfl (by decide) (by assumption) (by repeat (first|exact aq _ _|refine a8 (bD (by assumption)) ?_)) (fun B6 ni=>?_);refine bT (M:=M) an rfl rfl rfl rfl rfl (by assumption) (by repeat (first|exact aq _ _|refine a8 (bD (by assumption)) ?_)) (fun Ar nj=>?_);replace nj:((RT.int .i64).sl).V M _ p.1 Ar:=nj;refine bM an rfl nj rfl ?_;refine dP M I3 rfl (fun xw Ja aeS aeT lh s1_3=>?_);obtain⟨nk,yS⟩:∃M',M'=ins M xw:=⟨_,rfl⟩;rw[←yS]at s1_3;have jV:nk xw:=by rw[yS];exact .inl rfl
 change Ja.heap[xw]? =some (.cells #[.int .i64 0] _ _)at lh;replace dn:=dn.le (by decide) s1_3.le;replace hM:=s1_3.lt hM;have:=S.size;replace S:=S.aB s1_3;refine cu (M:=nk) I3 rfl rfl lh rfl (rfl) jV (fun Uc Z1 mz=>?_);change Uc.heap[_]? =some (Obj.cells #[.int .i64 (p.1.length:Int)] _ _)at Z1;have:=ak lh;replace jV:=(mz.mem _ this).2 jV;replace dn:=dn.le (by decide) mz.le;replace hM:=mz.lt hM;have:=S.size;replace S:=S.trans mz (fun k hk h=>by have h:_=_:=h;subst h;first|(exfalso;omega)|(show _≤_;omega)|exact⟨by first|omega|assumption,(S.mem _ hk).1 ((mz.mem _ (ak lh)).1 jV)⟩|exact .inl rfl|exact .inr rfl|exact .inr (.inl rfl)|exact .inr (.inr rfl)|exact .inr (.inr (.inl rfl))|exact rfl);have DL:=Z1;clear lh;have lh:=DL;clear DL;refine ab (aj (aj (ae ?_)));refine aN (M:=nk) (A:=RT.pa) (B:=(RT.int .i64).sl) bm rfl rfl jL (by decide) (pa1) rfl rfl (by decide) (by assumption) (by repeat (first|exact aq _ _|refine a8 (bD (by assumption)) ?_)) (fun aqp alR=>?_);refine bT (M:=nk) an rfl rfl rfl rfl rfl (by assumption) (by repeat (first|exact aq _ _|refine a8 (bD (by assumption)) ?_)) (fun agT NA=>?_);replace NA:((RT.int .i64).sl).V nk _ p.2.1 agT:=NA;refine bM an rfl NA rfl (aM ax rfl rfl rfl lh rfl (aV (v':= .int .i64 (p.1.length:Int)) rfl (eM rfl rfl rfl (ad rfl rfl ?_))));refine aQ (g:=16) rfl (fun agU=>?_) (fun agU=>?_)
 ·refine au rfl rfl rfl rfl (au rfl rfl rfl rfl (au rfl rfl rfl rfl (au rfl rfl rfl rfl (aY rfl rfl rfl (ab (nQ rfl (aj (ae (ah rfl rfl (ab (aO ?_)))))))))))
  have eb:Ad p=false:=by
   unfold Ad
   first
   |(rw[decide_eq_false (show¬p.1.length=p.2.1.length by omega)];simp;done)
   |(simp[c2];done)
  exact aS rfl rfl ⟨S.back,fun h=>by(rw[eb]at h;cases h),fun _=>rfl⟩
 ·have Xm:p.1.length=p.2.1.length:=by omega
  refine al rfl rfl ?_;refine aN (M:=nk) (A:=RT.pa) (B:=(RT.int .i64).sl) bm rfl rfl jL (by decide) (pa1) rfl rfl (by decide) (by assumption) (by repeat (first|exact aq _ _|refine a8 (bD (by assumption)) ?_)) (fun aqq alS=>?_);refine al rfl rfl ?_;refine bT (M:=nk) an rfl rfl rfl rfl rfl (by assumption) (by repeat (first|exact aq _ _|refine a8 (bD (by assumption)) ?_)) (fun agV NC=>?_);replace NC:((RT.int .i64).sl).V nk _ p.2.1 agV:=NC;refine al rfl rfl ?_;refine aX rfl rfl agP (JA _ NC) (fun r wc hc=>?_);obtain⟨rfl,rfl⟩:=hc;refine al rfl rfl (lH rfl rfl (aV (v':= .bool (decide (¬eo (-1) p.2.1=true))) (by simp) (aE rfl rfl rfl (ab ?_))));refine bN rfl (fun c2=>?_) (fun c2=>?_)
  ·refine aj (ae (ah rfl rfl (ab (aO ?_))))
   have eb:Ad p=false:=by
    unfold Ad
    first
    |(rw[decide_eq_false (show¬p.1.length=p.2.1.length by omega)];simp;done)
    |(simp[c2];done)
   exact aS rfl rfl ⟨S.back,fun h=>by(rw[eb]at h;cases h),fun _=>rfl⟩
  ·have er:eo (-1) p.2.1=true:=cJ.1 c2;refine aU (aj (ae ?_));refine dP nk Ew rfl (fun ND Lz aqr aqs Dy lz=>?_);obtain⟨Ic,NF⟩:∃M',M'=ins nk ND:=⟨_,rfl⟩;rw[←NF]at lz;have VG:Ic ND:=by rw[NF];exact .inl rfl
   change Lz.heap[ND]? =some (.cells #[.slice none 0 0] _ _)at Dy;have:=ak lh;replace jV:=(lz.mem _ this).2 jV;replace lh:=lz.aK lh;replace dn:=dn.le (by decide) lz.le;replace hM:=lz.lt hM;have:=S.size;replace S:=S.aB lz;refine ab (aj (ae (kb (xs:=[]) (ys:=[.tmp 4,.tmp 3]) rfl rfl rfl (ah rfl rfl (ab (aj (aj (ae ?_))))))));refine aN (M:=Ic) (A:=RT.pa) (B:=((RT.po).sl).sl) bm rfl rfl AA (by decide) (pa3) rfl rfl (by decide) (by assumption) (by repeat (first|exact aq _ _|refine a8 (bD (by assumption)) ?_)) (fun YT LR=>?_);refine bT (M:=Ic) dw rfl rfl rfl rfl rfl (by assumption) (by repeat (first|exact aq _ _|refine a8 (bD (by assumption)) ?_)) (fun UE yT=>?_);replace yT:(((RT.po).sl).sl).V Ic _ p.2.2.2 UE:=yT;refine ad rfl rfl ?_;refine aX rfl rfl agR (Ay (cap:=[.pointer (some ⟨ND,0,none⟩),.pointer (some ⟨xw,0,none⟩)]) (B:=w0.heap.size) (J:=Az ND xw (p.1.length:Int) p.2.2.2 w0.heap.size) (bad:=nJ (p.1.length:Int)) _ hM yT agQ ⟨_,Dy,VG,by omega,lh,jV,dF _ _ _ _ _⟩ (fun i M w M' w' h s=>h.aP s) (fun i M w x vx hJ hM hx rD=>Ny w hM (by obtain⟨_,h1,_,h2,_⟩:=hJ;have:=ak h1;omega) hJ hx rD (hRe x (aA hx)) (by have:=(ao.1 hx).1;omega))) (fun r6 w6 hc=>?_);obtain⟨M6,k6,rfl,hk6,JB,s6,hk7,hk8⟩:=hc;replace dn:=dn.le (by decide) s6.le;replace S:=S.l4 s6 (aT _);refine ab ?_;refine bN rfl (fun c6=>?_) (fun c6=>?_)
   ·obtain⟨x6,hx6,qH⟩:=hk8 c6
    have eb:Ad p=false:=by
     unfold Ad;have:p.2.2.2.all (fun x=> !nJ (p.1.length:Int) x)=false:=List.all_eq_false.2 ⟨x6,hx6,by simp[qH]⟩;simp[this]
    refine aj (ae (ah rfl rfl (ab (aO ?_))));exact aS rfl rfl ⟨S.back,fun h=>by(rw[eb]at h;cases h),fun _=>rfl⟩
   ·refine aU (aj (ae ?_));obtain⟨qH,⟨vl,gl,_,_,_,_,fy⟩⟩:=hk7 (by omega);rw[aW (aT _)]at fy;have kn:(((RT.li).ptr).sl).V M w6 (p.2.2.2.map mU) vl:=fy.close jM S (by simp;omega);replace dn:cN RT.pa M w6 u0 p:=dn.le (by decide) (Le.close jM S);replace S:=S.back;replace hM:=S.lt jM;refine aN (M:=M) (A:=RT.pa) (B:=RT.str.sl) bm rfl rfl xN (by decide) pa2 rfl rfl (by decide) dn (aq _ _) (fun aqw alT=>?_);refine bT (M:=M) aI rfl rfl rfl rfl rfl (by assumption) (by repeat (first|exact aq _ _|refine a8 (bD (by assumption)) ?_)) (fun agW NG=>?_);replace NG:(RT.str.sl).V M _ p.2.2.1 agW:=NG;refine aM dZ rfl rfl rfl gl rfl (aV (v':=vl) rfl ?_);refine aX rfl rfl agS (GO _ hM NG kn (by omega) (by simp;omega)) (fun r8 w8 hc=>?_);obtain⟨pd,rfl,O5,s8⟩:=hc;replace dn:=dn.le (by decide) s8.le;replace kn:=kn.le s8.le;replace gl:=s8.aK gl;replace hM:=s8.lt hM;have:=S.size;replace S:=S.aB s8;refine ad rfl rfl (bW rfl rfl rfl (bW rfl rfl rfl (ah rfl rfl (ah rfl rfl (ab (aj (aj (ae (ad rfl rfl (eM rfl rfl rfl (ab ?_)))))))))));refine bN rfl (fun c9=>?_) (fun c9=>?_)
    ·have eb:Ad p=false:=by
      by_cases h:Ad p=true
      ·unfold Ad at h;simp only[bU,decide_eq_true_eq]at h;exact absurd (by rw[if_pos ⟨by simp[h.1.2],h.2⟩]) c9
      ·simpa using h
     refine aj (ae (ah rfl rfl (ab (aO ?_))));exact aS rfl rfl ⟨S.back,fun h=>by(rw[eb]at h;cases h),fun _=>rfl⟩
    ·have e9:(p.2.2.1.length=(p.2.2.2.map mU).length∧El none p.2.2.1=true):=by
      by_cases h:(p.2.2.1.length=(p.2.2.2.map mU).length∧El none p.2.2.1=true)
      ·exact h
      ·exact absurd (by rw[if_neg h];decide) c9
     replace O5:=O5 e9.1 e9.2;refine aU (aj ?_);apply T.KS [0,1,3,4,6,2,5,7,8,9] 5 [2,3,4] 2 aC mixed
     ·simp+decide only[yj,sN,eQ,j5,je,jf,fq,dd,ie,qd,cond_true,cond_false,Nat.reduceBEq,Nat.reduceAdd,beq_self_eq_true];rfl
     ·rfl
     ·rfl
     ·rfl
     ·rfl
     ·rfl
     ·rfl
     intro MT MU;have jh:=MU M;replace dn:=dn.le (by decide) jh.le;replace kn:=kn.le jh.le;replace gl:=jh.aK gl;replace hM:=jh.lt hM;have:=S.size;replace S:=S.aB jh;refine aN (M:=M) (A:=RT.pa) (B:=(RT.int .i64).sl) bm rfl rfl jL (by decide) (pa0) rfl rfl (by decide) (by assumption) (by repeat (first|exact aq _ _|refine a8 (bD (by assumption)) ?_)) (fun RV LV=>?_);refine ab ⟨rfl,rfl,rfl,?_⟩;refine bT (M:=M) an rfl rfl rfl rfl rfl (by assumption) (by repeat (first|exact aq _ _|refine a8 (bD (by assumption)) ?_)) (fun Z2 GX=>?_);replace GX:((RT.int .i64).sl).V M _ p.1 Z2:=GX;refine ab ⟨rfl,rfl,rfl,?_⟩;refine aN (M:=M) (A:=RT.pa) (B:=(RT.int .i64).sl) bm rfl rfl jL (by decide) (pa1) rfl rfl (by decide) (by assumption) (by repeat (first|exact aq _ _|refine a8 (bD (by assumption)) ?_)) (fun alU VH=>?_);refine ab ⟨rfl,rfl,rfl,?_⟩;refine bT (M:=M) an rfl rfl rfl rfl rfl (by assumption) (by repeat (first|exact aq _ _|refine a8 (bD (by assumption)) ?_)) (fun Z3 px=>?_);replace px:((RT.int .i64).sl).V M _ p.2.1 Z3:=px;refine ab ⟨rfl,rfl,rfl,?_⟩;refine ad rfl rfl ?_;refine ab ⟨rfl,rfl,rfl,?_⟩;refine ew ?_;obtain⟨bb,oo,cs,ee,fr,rfl,k9,_⟩:=VH.float;refine⟨iB ⟨iz bm rfl jL (by decide),⟨ey rfl k9 (fun h=>h),⟨gP,trivial⟩⟩⟩,?_⟩;have kp:=jF aC MT;refine aX rfl rfl Qt (qG hM GX (by omega)) (fun v5 w5 hc=>?_);obtain⟨qg,s5⟩:=hc;replace px:=px.le s5.le;replace O5:=(O5.le (by decide) jh.le).le (by decide) s5.le;replace dn:=dn.le (by decide) s5.le;replace kn:=kn.le s5.le;replace gl:=s5.aK gl;replace hM:=s5.lt hM;have:=S.size;replace S:=S.aB s5;refine(fun(kp:eF _ _ _)=>ab ⟨rfl,rfl,fun _=>kp,?_⟩) (by first|exact kp|exact kp.rB (by assumption)|exact kp.goN (by assumption)|exact kp.go (by assumption) (fun _ _ h=>by first|exact h|exact h.elim))
     refine aX rfl rfl Qt (qG hM px (by omega)) (fun v6 w6' hc=>?_);obtain⟨wT,Sr⟩:=hc;replace dn:=dn.le (by decide) Sr.le;replace kn:=kn.le Sr.le;replace qg:=qg.le Sr.le;replace px:=px.le Sr.le;replace O5:=O5.le (by decide) Sr.le;replace gl:=Sr.aK gl;replace hM:=Sr.lt hM;have:=S.size;replace S:=S.aB Sr;refine(fun(kp:eF _ _ _)=>ab ⟨rfl,rfl,fun _=>kp,?_⟩) (by first|exact kp|exact kp.rB (by assumption)|exact kp.goN (by assumption)|exact kp.go (by assumption) (fun _ _ h=>by first|exact h|exact h.elim));refine iC (places:=[(0,1),(1,1),(2,1)]) iI agN agO rfl ⟨_,_,rfl,rfl,_,_,rfl,rfl,_,_,rfl,rfl,rfl⟩ (out:=[_,_,_]) ⟨0,[_],rfl,ju qg,by simp[Value.cells],1,[_],rfl,ju wT,by simp[Value.cells],2,[_],rfl,vP O5,by simp[Value.cells],rfl⟩ ?_;refine ab ⟨rfl,rfl,fun h=>absurd rfl h,?_⟩;refine qc (A:=RT.se) (a:=rG p) rfl rfl hM (afg (x:=rG p) qg wT O5) rfl (fun u8 w8' hu8 QF _=>?_);replace dn:=dn.le (by decide) QF.le;replace kn:=kn.le QF.le;replace qg:=qg.le QF.le;replace px:=px.le QF.le;replace O5:=O5.le (by decide) QF.le;replace wT:=wT.le QF.le;replace gl:=QF.aK gl;replace hM:=QF.lt hM;have:=S.size;replace S:=S.aB QF;refine ab ⟨rfl,rfl,fun h=>absurd rfl h,?_⟩;refine ah rfl rfl ?_;refine ab ⟨rfl,rfl,fun h=>absurd rfl h,?_⟩;refine mN (aO ?_)
     have eb:Ad p=true:=by
      unfold Ad;rw[decide_eq_true Xm,er,e9.2,decide_eq_true (by simpa using e9.1),fu.2 (fun x hx=>by simp[qH x hx])];rfl
     exact aS rfl rfl ⟨S.back,fun _=>hu8,fun h=>by(rw[eb]at h;cases h)⟩
theorem zk {M:aD} {p:Pa} {v0:Value} (w0:World) (hM:Lt M w0) (hv:RT.pa.V M w0 p v0) (hR:Nz p):
  Spec Tryz.prog 43 #[v0] w0 (fun v w=>Step M w0 M w aC∧(Ad p=true→∃s,v= .tuple #[s,.int .i64 0]∧cN RT.se M w s (rG p))∧(Ad p=false→v= .tuple #[.pointer none,.int .i64 1])):=by
 refine bc (args:=[_]) (fn:=Tryz.f43) Tryz.func43 rfl (n:=10) Tryz.ntmps43 ?_;have S:Step M w0 M w0 aC:=(aw _ _).cA (fun _ h=>h.elim) (fun _ h=>h.elim);refine aj (ae ?_);refine qc (A:=RT.pa) rfl rfl hM hv rfl (fun u0 w1 dn s0 _=>?_);replace hM:=s0.lt hM;have:=S.size;replace S:=S.aB s0;refine ah rfl rfl (ah rfl rfl (ab (aj (ae ?_))));refine cX (M:=M) (A:=RT.pa) bm rfl Bn (by decide) rfl rfl rfl dn (aq _ _) (fun v1 A2=>?_);refine aX rfl rfl E92 (GW _ hM A2 hR) (fun r1 w2 hc=>?_);obtain⟨s2,hok,j9⟩:=hc
 obtain⟨o1,U3⟩:∃o,r1= .pointer o:=by
  cases h:Ad p with
  |true=>obtain⟨b,o,_,h1,_⟩:=hok h;exact⟨_,h1⟩
  |false=>exact⟨none,j9 h⟩
 subst U3;replace dn:=dn.le (by decide) s2.le;replace hM:=s2.lt hM;have:=S.size;replace S:=S.aB s2;refine ah rfl rfl (ab (aj (aj (ae (ad rfl rfl (Rg.AX ff rfl rfl rfl (ab ?_)))))));refine bN rfl (fun c2=>?_) (fun c2=>?_)
 ·refine aj (ae (ah rfl rfl (ah rfl rfl (ab (aO ?_)))))
  have eb:Ad p=false:=by
   by_cases h:Ad p=true
   ·obtain⟨b,o,_,h1,_⟩:=hok h;rw[c2]at h1;cases h1
   ·simpa using h
  exact eY rfl rfl rfl ⟨S.back,fun h=>by(rw[eb]at h;cases h),fun _=>rfl⟩
 ·refine aU (aj (ae (ad rfl rfl (ah rfl rfl (ah rfl rfl (ab (aO ?_)))))))
  have eb:Ad p=true:=by
   by_cases h:Ad p=true
   ·exact h
   ·have:=j9 (by simpa using h);simp at this;exact absurd this c2
  exact eY rfl rfl rfl ⟨S.back,fun _=>⟨_,rfl,hok eb⟩,fun h=>by(rw[eb]at h;cases h)⟩
end Go.K
namespace Go.K
section
variable {P:Program} {r:Option Nat} {n:Nat} {L:Sl} {ds:List Deferred} {w:World} {K:Kt} {M:aD} {F:List (Nat×aD)}
def uw (l:List Oper) (m q d:Nat):Bool:=
 Nat.blt q m&&nc l [q] m ((l[m]?.map cr).getD [])&&kj l (m+1)&&
 ((List.range' m (l.length-m)).all fun j=>match l[j]? with
  |some o=>sL o.op&&(!(asks l o).contains d||(cr o).contains q)
  |none=>true)
theorem xb {l:List Oper} {m q d:Nat} (h:uw l m q d=true):q<m∧nc l [q] m ((l[m]?.map cr).getD [])=true∧kj l (m+1)=true∧∀j o,m≤j→l[j]? =some o→sL o.op=true∧(d∈asks l o→q∈cr o):=by
 simp only[uw,bU,Nat.blt_eq]at h;obtain⟨⟨⟨h1,h2⟩,h3⟩,h4⟩:=h;refine⟨h1,h2,h3,fun j o hj ho=>?_⟩;have dR:=(ao.1 ho).1;have:=fu.1 h4 j (List.mem_range'_1.2 ⟨hj,by omega⟩);rw[ho]at this;simp only[bU,qb,iU,jG]at this;refine⟨this.1,fun hd=>?_⟩;rcases this.2 with h|h
 ·rw[←Bool.not_eq_true,jG]at h;exact absurd hd h
 ·exact h
structure TJ (P:Program) (r:Option Nat) (n:Nat) (l:List Oper) (m q d:Nat) (c:Value) (L:Sl) (K:Kt) (ds:List Deferred) (D:Nat→Prop) (a:Act) (w:World) (p:Nat) (ac:Act) (Lp:Sl) (wq:World):Prop where
 p0:m≤p
 p1:p≤l.length
 dt:∀i,i<l.length→i≠q→(D i↔i<p)
 ag:iP n ac Lp ds
 tr:sM P r n l.toArray aC wq K 0 (l.drop p) Lp ds w
 yes:D q→a=ac
 no: ¬D q→ac=a.put (some d) c∧∀t u,lk (kg l q L) t=some u→a.tmps[t]? =some u
theorem put_comm (a:Act) {d:Nat} {e:Option Nat} (h:e≠some d) (c v:Value):(a.put (some d) c).put e v=(a.put e v).put (some d) c:=by
 cases e with
 |none=>rfl
 |some e=>
  have eK:e≠d:=fun h'=>h (by rw[h'])
  simp only[Act.put];congr 1;apply Array.ext_getElem?;intro i;simp only[dx,Array.size_setIfInBounds];by_cases h1:e=i<;>by_cases h2:d=i<;>simp_all
theorem Bo (a:Act) {d t:Nat} (c:Value) (h:t≠d):(a.put (some d) c).tmps[t]? =a.tmps[t]? :=by rw[iv,if_neg (fun e=>h (by injection e with e;exact e.symm))]
theorem TJ.next {l:List Oper} {m q d:Nat} {c:Value} (dm:eB l 0=true) (hok:uw l m q d=true) {oq:Oper} (hq:l[q]? =some oq) (GY:oq.dst=some d) (VI:jK oq.op=true) (QG:oq.guard=none)
  (gQ:∀(ρ:Operand→Value) w,(∀x u,ev (kg l q L) x=some u→ρ x=u)→(execOp ρ oq).run P w= .ok (.value c) w)
  {Q:Exit→Act→World→Prop} {D:Nat→Prop} {a:Act} {w:World} {j:Nat} {o:Oper} {rest:List Nat} (ho:l[j]? =some o) (pG: ¬D j) (hp:∀k∈cr o,D k) {p:Nat} {ac:Act} {Lp:Sl} {wq:World} (hi:TJ P r n l m q d c L K ds D a w p ac Lp wq)
  (hk:∀a' w',(∃p ac Lp wq,TJ P r n l m q d c L K ds (fun i=>i=j∨D i) a' w' p ac Lp wq)→wpOpsIn (FW r) 0 P l.toArray Q rest a' w'):wpOpsIn (FW r) 0 P l.toArray Q (j::rest) a w:=by
 obtain⟨hqm,_,yg,IN⟩:=xb hok;have xo:=(ao.1 ho).1;by_cases hjq:j=q
 ·subst hjq;rw[hq]at ho;cases ho;obtain⟨Ie,k4⟩:=hi.no pG;refine One.run (by simpa using hq) VI (v:=c) ?_ (hk _ _ ⟨p,ac,Lp,wq,hi.p0,hi.p1,fun i h1 h2=>⟨fun h=>(hi.dt i h1 h2).1 (h.resolve_left h2),fun h=> .inr ((hi.dt i h1 h2).2 h)⟩,hi.ag,hi.tr,fun _=>by rw[Ie,GY],fun h=>absurd (.inl rfl) h⟩);unfold One;rw[if_pos (by simp[Region.wanted,QG])];refine gQ a.eval w fun x u hx=> ?_
  cases x with
  |tmp t=>simp only[ev]at hx;simp[Act.eval,k4 t u hx]
  |const v=>simp only[ev]at hx;cases hx;rfl
  |global g=>simp only[ev]at hx;cases hx;rfl
  |func f=>simp only[ev]at hx;cases hx;rfl
 ·have hjp:j=p:=by
   have h1:p≤j:=by
    rcases cI j p with h|h
    ·exact absurd ((hi.dt j xo hjq).2 h) pG
    ·exact h
   have:=hi.p0;rcases cI m j with h|h
   ·have h2:=hp _ (kN yg (j:=j) (by omega) ho);have:=(hi.dt (j-1) (by omega) (by omega)).1 h2;omega
   ·omega
  subst hjp;obtain⟨hto,hta⟩:=IN j o hi.p0 ho;have BG:o.dst≠some d:=fun h=>hjq (fJ dm ho hq h GY)
  have CQ:∀t∈asks l o,a.tmps[t]? =ac.tmps[t]? :=fun t ht=>by
   by_cases hD:D q
   ·rw[hi.yes hD]
   ·rw[(hi.no hD).1,Bo];rintro rfl;exact hD (hp q (hta ht))
  obtain⟨Kd,C4⟩:=oa CQ
  have hdf:a.defers=ac.defers:=by
   by_cases hD:D q
   ·rw[hi.yes hD]
   ·rw[(hi.no hD).1,put_defers]
  have wH:=hi.tr;rw[dB xo,(ao.1 ho).2]at wH;have h1:=Rg.run wH ac hi.ag;refine Db (by simpa using ho) hto Kd C4 hdf h1 (fun e a w ⟨_,_,_,he,_⟩=>he) (fun v w' ⟨L',qi,hA,_,KL,_,TE⟩=>?_) (fun d' w' ⟨L',qi,hA,_,KL,_⟩=>?_)
  ·rw[KL]at hA;refine hk _ _ ⟨j+1,ac.put o.dst v,L',wq,by have:=hi.p0;omega,by omega,fun i h3 h4=>?_,hA,TE,fun h=>?_,fun h=>?_⟩
   ·constructor
    ·rintro(h|h)
     ·omega
     ·have:=(hi.dt i h3 h4).1 h;omega
    ·intro h;rcases lr (show i≤j by omega)with h5|h5
     ·exact .inl h5
     ·exact .inr ((hi.dt i h3 h4).2 h5)
   ·rw[hi.yes (h.resolve_left (fun e=>hjq e.symm))]
   ·have hD: ¬D q:=fun h'=>h (.inr h')
    obtain⟨Ie,k4⟩:=hi.no hD;refine⟨by rw[Ie,put_comm a BG],fun t u ht=>?_⟩;obtain⟨h3,h4⟩:=j0 (f:=k5 l q) ht;rw[iv,if_neg,k4 t u ht];intro e;simp only[k5,fu]at h3;have:=h3 o (aA ho);simp only[e,beq_self_eq_true,Bool.not_true,Bool.false_or,jG]at this;exact hD (hp q this)
  ·have h3:=hA.defers;rw[put_defers,KL]at h3;have h4:=congrArg List.length h3;rw[hi.ag.defers]at h4;simp at h4
theorem ia.VJ {l:List Oper} {wd:World} (m q d:Nat) (c:Value) {oq:Oper} (F:List (Nat×aD)) (S:List (cL M)) (TC:S.length=m) (ql:Nat.blt m l.length=true) (dm:eB l 0=true) (hok:uw l m q d=true)
  (hq:l[q]? =some oq) (GY:oq.dst=some d) (VI:jK oq.op=true) (QG:oq.guard=none) (hS:S[q]? =some (cL.eq c)) (gQ:∀(ρ:Operand→Value) w,(∀x u,ev (kg l q L) x=some u→ρ x=u)→(execOp ρ oq).run P w= .ok (.value c) w)
  (oQ:∀p∈F,∀b,p.2 b→M b) (hFq:∀p∈F,p.1≠q) (wG:yd F l S) (sK:bL P r n F wd l S ds L l S 0)
  (kh:∀w',Step M wd M w' (jA (F.map (·.2)))→gv w' (fun acc=>sM P r n l.toArray aC w' K 0 (l.drop m) (acc++kg l l.length L) ds w') l S []):ia P r n l L ds wd K:=by
 intro a0 ha;obtain⟨hqm,KN,yg,IN⟩:=xb hok;have Z4:m<l.length:=by simpa[Nat.blt_eq]using ql
 have start:∀(D:Nat→Prop) a w,(∀i,i<m→i≠q→D i)→(∀i,m≤i→i<l.length→¬D i)→(∀i o,l[i]? =some o→D i→∀k∈cr o,D k)→Inv F S l wd L ds n (fun i=>D i∧i<l.length) a w→∃p ac Lp wq,TJ P r n l m q d c L K ds D a w p ac Lp wq:=by
  intro D a w l5 j9 lv hi
  obtain⟨ac,Ie⟩:∃ac,(D q→a=ac)∧(¬D q→ac=a.put (some d) c):=by
   by_cases hD:D q
   ·exact⟨a,fun _=>rfl,fun h=>absurd hD h⟩
   ·exact⟨_,fun h=>absurd h hD,fun _=>rfl⟩
  have hqn:d<n∨n≤d:=cI d n
  have jT:n≤ac.tmps.size:=by
   by_cases hD:D q
   ·rw[←Ie.1 hD];exact hi.size
   ·rw[Ie.2 hD,nZ];exact hi.size
  have hdf:ac.defers=ds:=by
   by_cases hD:D q
   ·rw[←Ie.1 hD];exact hi.defers
   ·rw[Ie.2 hD,put_defers];exact hi.defers
  have NH:∀t,t≠d→ac.tmps[t]? =a.tmps[t]? :=fun t ht=>by
   by_cases hD:D q
   ·rw[←Ie.1 hD]
   ·rw[Ie.2 hD,Bo a c ht]
  have agY:d<a.tmps.size:=by
   have hg:=sK.take.get q oq (by rw[cn,TC,if_pos hqm];exact hq);by_cases hD:D q
   ·obtain⟨v,h1,_⟩:=hi.done q oq (cL.eq c) d hq hS ⟨hD,by omega⟩ GY;exact(Array.getElem?_eq_some_iff.1 h1).1
   ·refine Classical.byContradiction fun Kw=> ?_
    obtain⟨s,hs,Z5⟩:=hg;rw[fL]at Z5;rw[hS]at hs;cases hs
    have hpq:∀k∈cr oq,D k:=fun k hk=>by
     have:=cO dm q oq hq k hk;exact l5 k (by omega) (by omega)
    have:=Inv.next (r:=r) (P:=P) hi dm wG oQ (rest:=[]) (Q:=fun _ a' _=>n≤a'.tmps.size∧∃v,a'.tmps[d]? =some v) ⟨cL.eq c,hS,Z5⟩ hq (fun h=>hD h.1) (fun k hk=>⟨hpq k hk,by have:=cO dm q oq hq k hk;omega⟩) (fun a' w' im=>by
     obtain⟨v,h1,_⟩:=im.done q oq (cL.eq c) d hq hS (.inl rfl) GY;exact⟨im.size,v,h1⟩)
    have sJ:One P r l.toArray w oq a c:=by
     unfold One;rw[if_pos (by simp[Region.wanted,QG])];refine gQ a.eval w fun x u hx=> ?_
     have k4:∀t u,lk (kg l q L) t=some u→a.tmps[t]? =some u:=fun t u ht=>by
      obtain⟨h3,h4⟩:=j0 (f:=k5 l q) ht;refine hi.base t u h4 fun i o fO CR he=> ?_
      simp only[k5,fu]at h3;have:=h3 o (aA fO);simp only[he,beq_self_eq_true,Bool.not_true,Bool.false_or,jG]at this;exact hD (lv i o fO CR.1 q this)
     cases x with
     |tmp t=>simp only[ev]at hx;simp[Act.eval,k4 t u hx]
     |const v=>simp only[ev]at hx;cases hx;rfl
     |global g=>simp only[ev]at hx;cases hx;rfl
     |func f=>simp only[ev]at hx;cases hx;rfl
    simp only[wpOpsIn,il,hq]at this;rw[if_pos (by simp[Region.wanted,QG])]at this;obtain⟨_,h2⟩:=this;unfold One at sJ;rw[if_pos (by simp[Region.wanted,QG])]at sJ;rw[Oper.semAt_eq _ _ _ (ma VI),sJ]at h2;rw[Oper.uponIn_value]at h2;obtain⟨_,v,h3⟩:=h2;rw[GY]at h3;have:=(Array.getElem?_eq_some_iff.1 h3).1;simp[Act.put]at this;exact Kw this
  have agZ:∃v,ac.tmps[d]? =some v∧v=c:=by
   by_cases hD:D q
   ·rw[←Ie.1 hD];obtain⟨v,h1,h2⟩:=hi.done q oq (cL.eq c) d hq hS ⟨hD,by omega⟩ GY;exact⟨v,h1,h2⟩
   ·refine⟨c,?_,rfl⟩;rw[Ie.2 hD,iv,if_pos rfl];simp[dx,agY]
  have iX:∀{i:Nat} {o:Oper},(l.take m)[i]? =some o→l[i]? =some o∧i<m:=fun {i o} h=>by
   rw[cn]at h
   split at h
   ·exact⟨h,by assumption⟩
   ·cases h
  have kD:Step M wd M w (jA (F.map (·.2))):=hi.step.cA (fun b ⟨p,hp,hD,hb⟩=>fw.2 ⟨p.2,ca.2 ⟨p,hp,rfl⟩,hb⟩) (fun b hb=>by
   obtain⟨N,hN,IH⟩:=fw.1 hb;obtain⟨p,hp,rfl⟩:=ca.1 hN;exact oQ p hp b IH)
  have hE:=(kh w kD).take;rw[TC]at hE
  obtain⟨acc,h1,h2⟩:=gv.use (a:=ac) (l.take m) S [] (fun i o s h1 h2 h3=>by
    obtain⟨h4,h5⟩:=iX h1;by_cases Ss:i=q
    ·subst Ss;rw[hq]at h4;cases h4;rw[GY]at h3;cases h3
    ·exact hi.fin i o s h4 h2 ⟨l5 i h5 Ss,by omega⟩ h3)
   (fun i o s e h1 h2 h3=>by
    obtain⟨h4,h5⟩:=iX h1;by_cases Ss:i=q
    ·subst Ss;rw[hq]at h4;cases h4;rw[GY]at h3;cases h3;rw[hS]at h2;cases h2;exact agZ
    ·obtain⟨v,h6,h7⟩:=hi.done i o s e h4 h2 ⟨l5 i h5 Ss,by omega⟩ h3;exact⟨v,by rw[NH e (fun he=>Ss (fJ dm h4 hq h3 (by rw[GY,he])))];exact h6,h7⟩)
   (fun t v h=>by simp[lk]at h) hE
  refine⟨m,ac,_,w,aT _,by omega,fun i h3 h4=>⟨fun h=>?_,fun h=>l5 i h h4⟩,⟨jT,hdf,fun t v h=>?_⟩,h1,Ie.1,fun hD=>⟨Ie.2 hD,fun t u ht=>?_⟩⟩
  ·rcases cI i m with h5|h5
   ·exact h5
   ·exact absurd h (j9 i h5 h3)
  ·rcases lV h with h|h
   ·exact h2 t v h
   ·obtain⟨h3,h4⟩:=j0 (f:=k5 l l.length) h
    have eK:∀(i:Nat) (o:Oper),l[i]? =some o→o.dst≠some t:=fun i o fO he=>by
     simp only[k5,fu]at h3;have:=h3 o (aA fO);simp only[he,beq_self_eq_true,Bool.not_true,Bool.false_or,jG]at this;have h7:=cO dm i o fO _ this;have h8:=(ao.1 fO).1;omega
    rw[NH t (fun e=>eK q oq hq (by rw[GY,e]))];exact hi.base t v h4 fun i o fO _=>eK i o fO
  ·obtain⟨h3,h4⟩:=j0 (f:=k5 l q) ht;refine hi.base t u h4 fun i o fO CR he=> ?_
   simp only[k5,fu]at h3;have:=h3 o (aA fO);simp only[he,beq_self_eq_true,Bool.not_true,Bool.false_or,jG]at this;exact hD (lv i o fO CR.1 q this)
 refine⟨fun D a w=>((∀i,m≤i→i<l.length→¬D i)∧Inv F S l wd L ds n (fun i=>D i∧i<l.length) a w)∨∃p ac Lp wq,TJ P r n l m q d c L K ds D a w p ac Lp wq,fun D D' a w hJ hD=>?_,fun Q D a w j o rest hj ho pG hp lv hJ hk=>?_,fun a w hJ=>?_,.inl ⟨fun i _ _ h=>h,?_⟩⟩
 ·rcases hJ with⟨h1,h2⟩|⟨p,ac,Lp,wq,h⟩
  ·refine .inl ⟨fun i h3 h4 h5=>h1 i h3 h4 ((hD i h4).1 h5),?_⟩;have:(fun i=>D' i∧i<l.length)=fun i=>D i∧i<l.length:=funext fun i=>propext ⟨fun⟨h3,h4⟩=>⟨(hD i h4).1 h3,h4⟩,fun⟨h3,h4⟩=>⟨(hD i h4).2 h3,h4⟩⟩
   rw[this];exact h2
  ·exact .inr ⟨p,ac,Lp,wq,h.p0,h.p1,fun i h3 h4=>(hD i h3).trans (h.dt i h3 h4),h.ag,h.tr,fun h3=>h.yes ((hD q (by omega)).1 h3),fun h3=>h.no fun h4=>h3 ((hD q (by omega)).2 h4)⟩
 ·rcases hJ with⟨h1,h2⟩|⟨p,ac,Lp,wq,h⟩
  ·rcases cI j m with CS|CS
   ·have hg:=sK.take.get j o (by rw[cn,TC,if_pos CS];exact ho);rw[fL]at hg;refine h2.next dm wG oQ hg ho (fun h=>pG h.1) (fun k tK=>⟨hp k tK,by have:=cO dm j o ho k tK;omega⟩) fun a' w' im=>hk a' w' (.inl ⟨fun i h3 h4 h5=>?_,?_⟩)
    ·rcases h5 with h5|h5
     ·omega
     ·exact h1 i h3 h4 h5
    ·have:(fun i=>(i=j∨D i)∧i<l.length)=fun i=>i=j∨D i∧i<l.length:=funext fun i=>propext ⟨fun⟨h3,h4⟩=>h3.elim .inl fun h=> .inr ⟨h,h4⟩,fun h=>h.elim (fun h=>⟨.inl h,by omega⟩) fun h=>⟨.inr h.1,h.2⟩⟩
     rw[this];exact im
   ·have ag0:j=m:=by
     rcases cI m j with h|h
     ·have:=hp _ (kN yg (j:=j) (by omega) ho);exact absurd this (h1 (j-1) (by omega) (by omega))
     ·omega
    subst ag0;rw[ho]at KN;obtain⟨p,ac,Lp,wq,h⟩:=start D a w (fun i hi Ss=>nf (D:=D) lv j (cr o) KN hp i hi (by simpa using Ss)) h1 lv h2;exact h.next dm hok hq GY VI QG gQ ho pG hp fun a' w' h'=>hk a' w' (.inr h')
  ·exact h.next dm hok hq GY VI QG gQ ho pG hp fun a' w' h'=>hk a' w' (.inr h')
 ·rcases hJ with⟨h1,_⟩|⟨p,ac,Lp,wq,h⟩
  ·exact absurd Z4 (h1 m (aT _) Z4)
  ·have tz:p=l.length:=by
    rcases cI p l.length with h3|h3
    ·have h4:=(h.dt p h3 (by have:=h.p0;omega)).1 h3;omega
    ·have:=h.p1;omega
   have wH:=h.tr;rw[tz,List.drop_length]at wH;exact⟨Lp,ds,by rw[h.yes (by show q<l.length;omega)];exact h.ag,wH⟩
 ·refine⟨(aw M wd).cA (fun _ h=>h.elim) (fun b ⟨p,hp,_,hb⟩=>oQ p hp b hb),fun i o s _ _ h=>h.1.elim,ha.size,ha.defers,fun i o s e _ _ h=>h.1.elim,fun t v h _=>ha.at_ t v h,fun i o _ h=>h.1.elim⟩
theorem T.St {id:Nat} {l l':List Oper} (π:List Nat) (m q d:Nat) (c:Value) {oq:Oper} (F:List (Nat×aD)) (S:List (cL M)) (hm:P.follows .mixedOrders=true) (FR:yj π l=l') (rU:eB l 0=true) (hπ:lx π l.length=true) (TC:S.length=m) (ql:Nat.blt m l'.length=true) (dm:eB l' 0=true) (hok:uw l' m q d=true)
  (hq:l'[q]? =some oq) (GY:oq.dst=some d) (VI:jK oq.op=true) (QG:oq.guard=none) (hS:S[q]? =some (cL.eq c)) (gQ:∀(ρ:Operand→Value) w,(∀x u,ev (kg l' q L) x=some u→ρ x=u)→(execOp ρ oq).run P w= .ok (.value c) w)
  (oQ:∀p∈F,∀b,p.2 b→M b) (hFq:∀p∈F,p.1≠q) (wG:yd F l' S)
  (h:∀wD,(∀M,Step M w M wD aC)→bL P r n F wD l' S ds L l' S 0∧∀w',Step M wD M w' (jA (F.map (·.2)))→gv w' (fun acc=>sM P r n l'.toArray aC w' K 0 (l'.drop m) (acc++kg l' l'.length L) ds w') l' S []):T P r n (.region id l.toArray true) L ds w K:=by
 subst FR;exact ia.t hm rU fun wD hD=> .perm π hπ rU (.VJ m q d c F S TC ql dm hok hq GY VI QG hS gQ oQ hFq wG (h wD hD).1 (h wD hD).2)
theorem zm {s:TypeId} {fs:Array Field} {fd:Field} {j size o o' b:Nat} {zv:Value} {bytes:Nat} {x:Operand} {dst:Option Tmp} {ty:TypeId} {pos:String} {af:Array Edge} {gd:Option (Nat×Bool)} (hu:P.underlying s=some (.struct fs)) (Ky:fs[j]? =some fd) (ho:o+fd.offset=o') (hi:TI P fd.type zv size bytes) (hs:size≠0)
  {ρ:Operand→Value} (hx:ρ x= .pointer (some ⟨b,o,none⟩)) (w:World):(execOp ρ {dst,op:= .fieldAddr s x j,type:=ty,pos,after:=af,guard:=gd}).run P w= .ok (.value (.pointer (some ⟨b,o',none⟩))) w:=by
 simp only[execOp,hx];simp[Instr.fieldAt,run_underlying hu,Ky,Instr.sureAddr,fieldPlace,hi.sizeOf,hs,←ho,xi]
end
end Go.K
namespace Go.K
open Go.Proofs
set_option maxRecDepth 10000
def nr:Int→List En→Int
 |last,[]=>last
 |_,e::L=>nr e.2 L
def uT:Int→List En→Bool
 |_,[]=>true
 |last,e::L=>decide (mX last e=0)&&uT e.2 L
theorem NI:∀{L:List En} {last:Int} {i:Nat} {e:En},uT last L=true→L[i]? =some e→mX (nr last (L.take i)) e=0∧nr last (L.take (i+1))=e.2
 |[],_,_,_,_,h=>by simp at h
 |x::L,last,0,e,h,hi=>by
  simp only[uT,bU,decide_eq_true_eq]at h;simp at hi;subst hi;exact⟨by simpa[nr]using h.1,by simp[nr]⟩
 |x::L,last,i+1,e,h,hi=>by
  simp only[uT,bU,decide_eq_true_eq]at h;have:=NI h.2 (by simpa using hi);simpa[nr]using this
theorem vQ {last:Int} {e:En} (h:mX last e=0):kS e.1∧last<e.2:=by
 unfold mX at h
 split at h
 ·rename_i h1;exact absurd h h1
 ·rename_i h1
  split at h
  ·cases h
  ·exact⟨H3 (by simpa using h1),by omega⟩
theorem ku:∀{L:List En} {last:Int},uT last L=true→∀e∈L,kS e.1
 |[],_,_,e,h=>by cases h
 |x::L,last,h,e,he=>by
  simp only[uT,bU,decide_eq_true_eq]at h;rcases cf.1 he with rfl|he
  ·exact(vQ h.1).1
  ·exact ku h.2 e he
theorem Bp:∀{L:List En} {last:Int},uT last L=true→eo last (L.map (·.2))=true
 |[],_,_=>rfl
 |x::L,last,h=>by
  simp only[uT,bU,decide_eq_true_eq]at h;simp only[eQ,eo,bU,decide_eq_true_eq];exact⟨(vQ h.1).2,Bp h.2⟩
def fx (L:List En):Pa:=(L.map (·.1.1),L.map (·.2),keysOf L,(keysOf L).map (pk L))
theorem JF {x:List Po} (h:x≠[]):∃p∈x,Ex x=p.1:=by
 unfold Ex
 cases hl:x.getLast? with
 |none=>exact absurd (List.getLast?_eq_none_iff.1 hl) h
 |some p=>exact⟨p,List.mem_of_getLast? hl,rfl⟩
theorem NJ {L:List En} (h:uT (-1) L=true) (hn:L.length≤1000000):Ad (fx L)=true:=by
 have hF:=ku h;have h1:(keysOf L).map (pk L)=(fx L).2.2.2:=rfl;unfold Ad;have e1:decide ((fx L).1.length=(fx L).2.1.length)=true:=by simp[fx]
 have e2:eo (-1) (fx L).2.1=true:=Bp h;have e3:decide ((fx L).2.2.1.length=(fx L).2.2.2.length)=true:=by simp[fx]
 have e4:El none (fx L).2.2.1=true:=Vj (kZ L)
 have e5:(fx L).2.2.2.all (fun x=> !nJ ((fx L).1.length:Int) x)=true:=by
  refine fu.2 fun x hx=> ?_
  rw[←h1]at hx;obtain⟨k,hk,rfl⟩:=ca.1 hx;have eK:pk L k≠[]:=GC 0 (iS.1 hk)
  have ag1:(pk L k).isEmpty=false:=by
   cases h:pk L k with
   |nil=>exact absurd h eK
   |cons a b=>rfl
  have mY:fH (-1) (pk L k)=true:=uu k L 0 (-1) hF (by omega) (by omega);obtain⟨p,hp,hl⟩:=JF eK;have:=(qF k L 0 hF).2 p hp;have hlen:((fx L).1.length:Int)=L.length:=by simp[fx]
  simp only[nJ,mY,ag1,hlen,hl];rw[decide_eq_false (by omega)];rfl
 rw[e1,e2,e3,e4,e5];rfl
theorem QH {L:List En} (hF:∀e∈L,kS e.1) (hn:L.length≤1000000) (k:List UInt8):Room (pk L k):=by
 have h1:=qF k L 0 hF;have mY:fH (-1) (pk L k)=true:=uu k L 0 (-1) hF (by omega) (by omega);have kf:∀p∈pk L k,p.2.length≤500:=fun p hp=>(h1.2 p hp).2.2
 obtain⟨h2,h3⟩:=vM (pk L k) (-1) 500 (by omega) mY kf (by omega);have hl:(pk L k).length≤L.length:=h1.1;exact⟨fun p hp=>by have:=kf p hp;omega,by omega,by omega,by omega⟩
theorem Ig {L:List En} (hF:∀e∈L,kS e.1) (hn:L.length≤1000000):Nz (fx L):=by
 have hk:(keysOf L).length≤500000000:=by
  have h1:=(kZ L).nodup.length_le_of_subset (l₂:=iy L) (fun x hx=>iS.1 hx);have:=oB hF;omega
 refine⟨by simp[fx];omega,by simp[fx];omega,by simp only[fx];omega,by simp[fx];omega,fun x hx=>?_⟩;obtain⟨k,_,rfl⟩:=ca.1 hx;exact QH hF hn k
theorem VK {M:aD} {w:World} {e:En} {v:Value} (h:RT.en.V M w e v):(-9223372036854775808≤e.1.1∧e.1.1≤9223372036854775807)∧ -9223372036854775808≤e.2∧e.2≤9223372036854775807:=by
 obtain⟨vs,⟨va,vb,_,⟨vc,vd,_,⟨_,h1⟩,_⟩,⟨_,h2⟩⟩,_⟩:=h;exact⟨h1,h2⟩
def ZP (B b:Nat) (vi vs:Value):aD:=fun k=>B≤k∧k≠b∧vi.ownBlock≠some k∧vs.ownBlock≠some k
theorem Own.Su {κ:IntKind} {e:TypeId} {M M' N:aD} {w w':World} {base:Nat} {v:Value} {xs:List Int} (h:Own (RT.int κ) e (mV v) w base v xs) (s:Step M w M' w' N) (hn:∀c,v.ownBlock=some c→¬N c):Own (RT.int κ) e (mV v) w' base v xs:=
 ((h.PF (M':=allM) (fun _ _=>trivial)).X2 s.all hn).lone
theorem Step.Z6 {M M' N:aD} {w w':World} (s:Step M w M' w' N) {v:Value} (hv:∀b,v.ownBlock=some b→b<w'.heap.size∧(w.heap.size≤b∨M' b)):Step M w (jz M' v) w' N:=
 ⟨fun h k hk=>hk.elim (fun h1=>(hv k h1).1) (fun h1=>s.lt h k h1),s.os,s.tape,s.output,s.size,fun k hk=>⟨fun h=>by
  rcases h with h|h
  ·rcases(hv k h).2 with h1|h1
   ·omega
   ·exact(s.mem k hk).1 h1
  ·exact(s.mem k hk).1 h,fun h=> .inr ((s.mem k hk).2 h)⟩,s.same,s.sub⟩
end Go.K
namespace Go.K
open Go.Proofs
namespace TKSegA
theorem Z7:Enters Tryz.prog 104:=enters Tryz.func104 rfl (by decide)
theorem VL:Enters Tryz.prog 116:=enters Tryz.func116 rfl (by decide)
end TKSegA
open TKSegA
set_option maxRecDepth 10000
def JG (xs:List Int) (i:Int):Int:=if 0≤i∧i<xs.length then xs.getD i.toNat 0 else-1
theorem NK {xs:List Int} {i:Nat} {x:Int} (h:xs[i]? =some x):JG xs i=x:=by
 have:=(ao.1 h).1;unfold JG;rw[if_pos (by omega),ay,az,h];rfl
theorem Ih {M:aD} {xs:List Int} {v0:Value} {i:Int} (w0:World) (hv:((RT.int .i64).sl).V M w0 xs v0):
  Spec Tryz.prog 104 #[v0,.int .i64 i] w0 (fun v w=>v= .int .i64 (JG xs i)∧w=w0):=by
 have hlen:=dy hv;refine bc (args:=[_,_]) (fn:=Tryz.f104) Tryz.func104 rfl (n:=17) Tryz.ntmps104 (aj (ae (ah rfl rfl (ab (aj (aj (ae (ad rfl rfl (cj rfl rfl rfl (ad rfl rfl ?_))))))))));refine aQ (g:=7) rfl (fun iL=>?_) (fun iL=>?_)
 ·refine au rfl rfl rfl rfl (au rfl rfl rfl rfl (au rfl rfl rfl rfl (au rfl rfl rfl rfl (aY rfl rfl rfl (ab (nQ rfl (aj (ae (ah rfl rfl (ab (aO ?_)))))))))));have e:JG xs i= -1:=by unfold JG;rw[if_neg (by omega)]
  exact aS rfl rfl ⟨by rw[e],rfl⟩
 ·refine al rfl rfl (ad rfl rfl (al rfl rfl (ad rfl rfl (al rfl rfl (bM an rfl hv rfl (al rfl rfl (dV rfl rfl rfl (aE rfl rfl rfl (ab ?_)))))))));refine bN rfl (fun c1=>?_) (fun c1=>?_)
  ·refine aj (ae (ah rfl rfl (ab (aO ?_))));have e:JG xs i= -1:=by unfold JG;rw[if_neg (by omega)]
   exact aS rfl rfl ⟨by rw[e],rfl⟩
  ·refine aU (aj (ae (ad rfl rfl (ad rfl rfl ?_))));refine cy (M:=M) an I3 rfl rfl rfl hv (aq _ _) (by omega) (fun u x hg hu=>?_);refine cb (M:=M) ax rfl rfl hu (aq _ _) (fun kq=>?_);refine ah rfl rfl (ab (aO ?_));have e:JG xs i=x:=by unfold JG;rw[if_pos (by omega),az,hg];rfl
   exact aS rfl rfl ⟨by rw[e],rfl⟩
theorem vR {M:aD} {s:Se} {v0:Value} (w0:World) (hs:cN RT.se M w0 v0 s):
  Spec Tryz.prog 34 #[v0] w0 (fun v w=>v= .int .i64 (s.1.length:Int)∧w=w0):=by
 refine bc (args:=[_]) (fn:=Tryz.f34) Tryz.func34 rfl (n:=8) Tryz.ntmps34 (aj (ae (ah rfl rfl (ab (aj (ae (ad rfl rfl (bS rfl hs.gz rfl ?_))))))));refine aN (M:=M) (A:=RT.se) (B:=(RT.int .i64).sl) iI rfl rfl jL (by decide) se0 rfl rfl (by decide) hs (aq _ _) (fun GF oz=>?_);refine bT (M:=M) an rfl rfl rfl rfl rfl oz (aq _ _) (fun JH pS=>?_);replace pS:((RT.int .i64).sl).V M _ s.1 JH:=pS;refine bM an rfl pS rfl (ah rfl rfl (ab (aO ?_)));exact aS rfl rfl ⟨rfl,rfl⟩
theorem NL {M:aD} {s:Se} {i:Int} {v0:Value} (w0:World) (hs:cN RT.se M w0 v0 s):
  Spec Tryz.prog 60 #[v0,.int .i64 i] w0 (fun v w=>v= .int .i64 (JG s.1 i)∧w=w0):=by
 refine bc (args:=[_,_]) (fn:=Tryz.f60) Tryz.func60 rfl (n:=11) Tryz.ntmps60 (aj (ae (ah rfl rfl (ab (aj (ae (ad rfl rfl (bS rfl hs.gz rfl ?_))))))));refine aN (M:=M) (A:=RT.se) (B:=(RT.int .i64).sl) iI rfl rfl jL (by decide) se0 rfl rfl (by decide) hs (aq _ _) (fun GF oz=>?_);refine bT (M:=M) an rfl rfl rfl rfl rfl oz (aq _ _) (fun JH pS=>?_);replace pS:((RT.int .i64).sl).V M _ s.1 JH:=pS;refine ad rfl rfl ?_;refine aX rfl rfl Z7 (Ih _ pS) (fun r wc hc=>?_);obtain⟨rfl,rfl⟩:=hc;refine ah rfl rfl (ab (aO ?_));exact aS rfl rfl ⟨rfl,rfl⟩
theorem Bq {M:aD} {s:Se} {i:Int} {v0:Value} (w0:World) (hs:cN RT.se M w0 v0 s):
  Spec Tryz.prog 58 #[v0,.int .i64 i] w0 (fun v w=>v= .int .i64 (JG s.2.1 i)∧w=w0):=by
 refine bc (args:=[_,_]) (fn:=Tryz.f58) Tryz.func58 rfl (n:=11) Tryz.ntmps58 (aj (ae (ah rfl rfl (ab (aj (ae (ad rfl rfl (bS rfl hs.gz rfl ?_))))))));refine aN (M:=M) (A:=RT.se) (B:=(RT.int .i64).sl) iI rfl rfl jL (by decide) se1 rfl rfl (by decide) hs (aq _ _) (fun GF oz=>?_);refine bT (M:=M) an rfl rfl rfl rfl rfl oz (aq _ _) (fun JH pS=>?_);replace pS:((RT.int .i64).sl).V M _ s.2.1 JH:=pS;refine ad rfl rfl ?_;refine aX rfl rfl Z7 (Ih _ pS) (fun r wc hc=>?_);obtain⟨rfl,rfl⟩:=hc;refine ah rfl rfl (ab (aO ?_));exact aS rfl rfl ⟨rfl,rfl⟩
theorem zn {α:Type} {p:α→Bool}:∀{xs:List α} {i:Nat},i≤xs.length→(∀(k:Nat) x,k<i→xs[k]? =some x→p x=true)→(∀(k:Nat) x,i≤k→xs[k]? =some x→p x=false)→xs.countP p=i
 |[],i,hi,_,_=>by simp at hi;simp[hi]
 |x::xs,0,_,_,h2=>by
  rw[List.countP_eq_zero.2];intro a ha;obtain⟨k,hk⟩:=bB.1 ha;simp[h2 k a (bE _) hk]
 |x::xs,i+1,hi,h1,h2=>by
  rw[List.countP_cons_of_pos (h1 0 x (by omega) rfl),zn (by simpa using hi) (fun k y hk hy=>h1 (k+1) y (by omega) (by simpa using hy)) (fun k y hk hy=>h2 (k+1) y (by omega) (by simpa using hy))]
end Go.K
namespace Go.K
open Go.Proofs
namespace TKSegB
theorem Ew:TI Tryz.prog 196 (.slice none 0 0) 1 24:=by unfold TI;kernel_rfl
theorem ag2:Enters Tryz.prog 125:=enters Tryz.func125 rfl (by decide)
theorem ag3:Enters Tryz.prog 181:=enters Tryz.func181 rfl (by decide)
theorem ag4:Enters Tryz.prog 182:=enters Tryz.func182 rfl (by decide)
end TKSegB
open TKSegB
set_option maxRecDepth 10000
def Ko (ns:List (List UInt8)) (k:List UInt8):Nat:=ns.countP fun x=>decide (x<k)
theorem Z8 {ns:List (List UInt8)} (h:D4 ns) {i j:Nat} {x y:List UInt8} (ji:i≤j) (hx:ns[i]? =some x) (hy:ns[j]? =some y): ¬y<x:=by
 rcases lr ji with rfl|h1
 ·rw[hx]at hy;cases hy;exact jb x
 ·exact iR (ix h hx hy h1)
theorem Cn {ns:List (List UInt8)} (h:D4 ns) {k:List UInt8}:(k∈ns→ns[Ko ns k]? =some k)∧∀x,ns[Ko ns k]? =some x→¬x<k:=by
 have key:∀{ns:List (List UInt8)},D4 ns→(k∈ns→ns[Ko ns k]? =some k)∧∀x,ns[Ko ns k]? =some x→¬x<k:=by
  intro ns
  induction ns with
  |nil=>exact fun _=>⟨(fun h=>by cases h),fun x h=>by simp at h⟩
  |cons y ns ih=>
   intro h;have h':=ek.1 h;by_cases hy:y<k
   ·have e:Ko (y::ns) k=Ko ns k+1:=by unfold Ko;rw[List.countP_cons_of_pos (by simpa using hy)]
    rw[e];simp only[List.getElem?_cons_succ];refine⟨fun hk=>(ih h'.2).1 ?_,(ih h'.2).2⟩;rcases cf.1 hk with rfl|hk
    ·exact absurd hy (jb _)
    ·exact hk
   ·have l5:∀x∈ns,¬x<k:=fun x hx dR=>hy (l0 (h'.1 x hx) dR)
    have e:Ko (y::ns) k=0:=by
     unfold Ko;rw[List.countP_eq_zero];intro a ha;rcases cf.1 ha with rfl|ha
     ·simpa using hy
     ·simpa using l5 a ha
    rw[e];refine⟨fun hk=>?_,fun x hx=>by simp at hx;subst hx;exact hy⟩;rcases cf.1 hk with rfl|hk
    ·rfl
    ·exact absurd (h'.1 k hk) hy
 exact key h
def geN (ns:List (List UInt8)) (k:List UInt8) (i:Nat):Bool:=match ns[i]? with|some x=> !decide (x<k)|none=>true
theorem zo {ns:List (List UInt8)} {k x:List UInt8} {i:Nat} (h:ns[i]? =some x):geN ns k i= !decide (x<k):=by unfold geN;rw[h]
theorem NM {ns:List (List UInt8)} (h:D4 ns) {k:List UInt8}:ns[Ko ns k]? =some k↔k∈ns:=⟨fun h=>aA h,(Cn h).1⟩
theorem GZ {M:aD} {n:Nat} {g:FuncId} {cap:List Value} {good:Nat→Bool} (w0:World) (hg:Enters Tryz.prog g) (Sv:∀i j,i≤j→j<n→good i=true→good j=true) (hn:n≤4611686018427387904) (ht:∀(i:Nat) w,i<n→Step M w0 M w aC→Spec Tryz.prog g ([.int .i64 (i:Int)]++cap:List Value).toArray w (fun v w'=>v= .bool (good i)∧Step M w M w' aC)):
  Spec Tryz.prog 181 #[.int .i64 (n:Int),.func (.func g) #[] cap.toArray] w0 (fun v w=>∃m:Nat,v= .int .i64 (m:Int)∧m≤n∧(∀i,i<m→good i=false)∧(∀i,m≤i→i<n→good i=true)∧Step M w0 M w aC):=by
 refine bc (args:=[_,_]) (fn:=Tryz.f181) Tryz.func181 rfl (n:=23) Tryz.ntmps181 (aj (ae (ah rfl rfl (ab (aj (ae (ah rfl rfl (ab (aj (aZ ?_))))))))));refine de (σ:=Nat×Nat) (fun q=>[(0,.int .i64 (q.2:Int)),(1,.func (.func g) #[] cap.toArray),(5,.int .i64 (q.1:Int))]) (fun q w=>Step M w0 M w aC∧q.1≤q.2∧q.2≤n∧(∀i,i<q.1→good i=false)∧(∀i,q.2≤i→i<n→good i=true)) (fun q=>q.2-q.1) (0,n) (.cons rfl (.cons rfl (.cons rfl .nil))) ?_ ?_
 ·exact⟨aw _ _,bE _,aT _,fun i h=>absurd h (Nat.not_lt_zero _),fun i h h'=>by omega⟩
 ·rintro⟨i,j⟩ w ⟨S,ji,hj,h1,h2⟩;dsimp only at ji hj h1 h2 ⊢;refine aj (aj (ae (ad rfl rfl (ad rfl rfl (cj rfl rfl rfl (ab ?_))))));refine bN rfl (fun c2=>?_) (fun c2=>?_)
  ·refine aU (aZ (aj (ae (ad rfl rfl (ad rfl rfl (ad rfl rfl (fe rfl rfl rfl (by omega) (Rg.Ah rfl rfl rfl (by omega) (bF rfl rfl rfl (by omega) (aV (v':= .int .i64 ((i+(j-i)/2:Nat):Int)) (congrArg _ (by omega)) (ah rfl rfl ?_)))))))))));refine ab (aj (ae (ad rfl rfl (ad rfl rfl ?_))));refine rr (first:=[]) (captured:=cap) (xs:=[.tmp 17]) rfl rfl rfl hg (vs:=[.int .i64 ((i+(j-i)/2:Nat):Int)]) (ht (i+(j-i)/2) _ (by omega) S) (fun r4 w4 hc=>?_);obtain⟨rfl,s4⟩:=hc;refine aV (v':= .bool (decide (good (i+(j-i)/2)=true))) (by simp) ?_;replace S:=S.aB s4;refine ab ?_;refine bN rfl (fun c4=>?_) (fun c4=>?_)
   ·refine ae (ad rfl rfl (ah rfl rfl (ab ?_)));refine⟨rfl,(i,i+(j-i)/2),(.cons rfl (.cons rfl (.cons rfl .nil))),?_,?_⟩
    ·exact⟨S,by dsimp only;omega,by dsimp only;omega,h1,fun k hk GM=>Sv _ _ hk GM c4⟩
    ·dsimp only;omega
   ·refine ae (ad rfl rfl (bF rfl rfl rfl (by omega) (ah rfl rfl (ab ?_))));refine⟨rfl,(i+(j-i)/2+1,j),(.cons rfl (.cons rfl (.cons rfl .nil))),?_,?_⟩
    ·exact⟨S,by dsimp only;omega,hj,fun k hk=>by
      cases h:good k with
      |false=>rfl
      |true=>exact absurd (Sv k (i+(j-i)/2) (by dsimp only at hk;omega) (by omega) h) c4,h2⟩
    ·dsimp only;omega
  ·refine cG (aj (ae (ad rfl rfl (ah rfl rfl (ab (aO ?_))))));have e:i=j:=by omega
   subst e;exact aS rfl rfl ⟨i,rfl,hj,h1,h2,S⟩
theorem EA {M:aD} {d:Di} {v0:Value} {i bd bk:Nat} {k x:List UInt8} (w0:World) (hd:cN RT.di M w0 v0 d) (gd:w0.heap[bd]? =some (.cells #[v0] 139 (0,0))) (gk:w0.heap[bk]? =some (.cells #[sv k] 9 (0,0))) (hx:d.1[i]? =some x):
  Spec Tryz.prog 182 #[.int .i64 (i:Int),.pointer (some ⟨bd,0,none⟩),.pointer (some ⟨bk,0,none⟩)] w0 (fun v w=>v= .bool (!decide (x<k))∧Step M w0 M w aC):=by
 have hM:True:=trivial;refine bc (args:=[_,_,_]) (fn:=Tryz.f182) Tryz.func182 rfl (n:=14) Tryz.ntmps182 (aj (ae (ah rfl rfl (ab (aj ?_)))));apply mQ mixed rfl rfl;intro Fv Lv;have lY:=Lv M;replace gd:=lY.aK gd;replace gk:=lY.aK gk;replace hd:=hd.le (by decide) lY.le;refine aM gy rfl rfl rfl gd rfl (aV (v':=v0) rfl ?_);refine ab ⟨rfl,rfl,rfl,?_⟩;refine bS rfl hd.gz rfl ?_;refine ab ⟨rfl,rfl,rfl,?_⟩;refine aN (M:=M) (A:=RT.di) (B:=RT.str.sl) jS rfl rfl xN (by decide) Xg rfl rfl (by decide) hd (aq _ _) (fun pn O6=>?_);refine ab ⟨rfl,rfl,rfl,?_⟩;refine bT (M:=M) aI rfl rfl rfl rfl rfl O6 (aq _ _) (fun vn rZ=>?_);replace rZ:(RT.str.sl).V M _ d.1 vn:=rZ;refine ab ⟨rfl,rfl,rfl,?_⟩;refine ad rfl rfl ?_;refine ab ⟨rfl,rfl,rfl,?_⟩;have oK:=(ao.1 hx).1;refine cy (M:=M) aI I9 rfl rfl rfl rZ (aq _ _) (by omega) (fun u a hg hu=>?_);obtain rfl:x=a:=aH (hx.symm.trans (by simpa using hg));refine ab ⟨rfl,rfl,rfl,?_⟩;refine bT (M:=M) aJ rfl rfl rfl rfl rfl hu (aq _ _) (fun vx rD=>?_);obtain rfl:=fS rD;refine ab ⟨rfl,rfl,rfl,?_⟩;refine aM aJ rfl rfl rfl gk rfl (aV (v':=sv k) rfl ?_);refine ab ⟨rfl,rfl,rfl,?_⟩;refine Rg.UR rfl rfl rfl ?_;refine ab ⟨rfl,rfl,rfl,?_⟩;refine ah rfl rfl ?_;refine ab ⟨rfl,rfl,rfl,?_⟩;refine ew (aO ?_);exact aS rfl rfl ⟨by rw[decide_not],lY⟩
theorem G0 {M:aD} {d:Di} {v0:Value} {k:List UInt8} (w0:World) (hM:Lt M w0) (hd:cN RT.di M w0 v0 d) (CW:D4 d.1):
  Spec Tryz.prog 125 #[v0,sv k] w0 (fun v w=>v= .tuple #[.int .i64 (Ko d.1 k:Int),.bool (decide (k∈d.1))]∧Step M w0 M w aC):=by
 refine bc (args:=[_,_]) (fn:=Tryz.f125) Tryz.func125 rfl (n:=33) Tryz.ntmps125 ?_;have S:Step M w0 M w0 aC:=(aw _ _).cA (fun _ h=>h.elim) (fun _ h=>h.elim);refine aj (ae ?_);refine xj M rfl rfl (fun xz Co ag6 ag7 oD Cp=>?_);replace oD:Co.heap[xz]? =some (.cells #[v0] 139 (0,0)):=by rw[vP hd]at oD;exact oD
 obtain⟨gN,zp⟩:∃M',M'=ins M xz:=⟨_,rfl⟩;rw[←zp]at Cp;have qI:gN xz:=by rw[zp];exact .inl rfl
 replace hd:=hd.le (by decide) Cp.le;replace hM:=Cp.lt hM;have:=S.size;replace S:=S.aB Cp;refine xj gN rfl rfl (fun pg Gj UB UC fU nG=>?_);obtain⟨fj,mE⟩:∃M',M'=ins gN pg:=⟨_,rfl⟩;rw[←mE]at nG;have eW:fj pg:=by rw[mE];exact .inl rfl
 change Gj.heap[pg]? =some (.cells #[sv k] _ _)at fU;have:=ak oD;replace qI:=(nG.mem _ this).2 qI;replace oD:=nG.aK oD;replace hd:=hd.le (by decide) nG.le;replace hM:=nG.lt hM;have:=S.size;replace S:=S.aB nG;refine ah rfl rfl (ah rfl rfl (ab (aj (ae (aM gy rfl rfl rfl oD rfl (aV (v':=v0) rfl (bS rfl hd.gz rfl ?_)))))));refine aN (M:=fj) (A:=RT.di) (B:=RT.str.sl) jS rfl rfl xN (by decide) Xg rfl rfl (by decide) hd (aq _ _) (fun pn O6=>?_);refine bT (M:=fj) aI rfl rfl rfl rfl rfl O6 (aq _ _) (fun vn rZ=>?_);replace rZ:(RT.str.sl).V fj _ d.1 vn:=rZ;have Xb:=dy rZ;refine bM aI rfl rZ rfl (kb (xs:=[]) (ys:=[.tmp 2,.tmp 3]) rfl rfl rfl ?_)
 refine aX rfl rfl ag3 (GZ (M:=fj) (n:=d.1.length) (cap:=[.pointer (some ⟨xz,0,none⟩),.pointer (some ⟨pg,0,none⟩)]) (good:=geN d.1 k) _ ag4 (fun i j ji hj h=>by
  have hi:=ar (show i<d.1.length by omega);have tN:=ar hj;rw[zo hi]at h;rw[zo tN];simp only[iU,decide_eq_false_iff_not]at h ⊢;intro dR;rcases jN d.1[i] d.1[j]with h1|h1|h1
  ·exact h (l0 h1 dR)
  ·rw[h1]at h;exact h dR
  ·exact Z8 CW ji hi tN h1) (by omega) (fun i w hi s=>by
  have hx:=ar hi;rw[zo hx];exact EA w (hd.le (by decide) s.le) (s.aK oD) (s.aK fU) hx)) (fun r1 w1 hc=>?_)
 obtain⟨m,rfl,hm,hlo,hhi,s1⟩:=hc;have em:Ko d.1 k=m:=zn hm (fun i x hi hx=>by have:=hlo i hi;rw[zo hx]at this;simpa using this) (fun i x hi hx=>by have:=hhi i hi (ao.1 hx).1;rw[zo hx]at this;simpa using this);have:=ak oD;replace qI:=(s1.mem _ this).2 qI;replace oD:=s1.aK oD;have:=ak fU;replace eW:=(s1.mem _ this).2 eW;replace fU:=s1.aK fU;replace hd:=hd.le (by decide) s1.le;replace hM:=s1.lt hM;have:=S.size;replace S:=S.aB s1;refine ah rfl rfl (ab (aj ?_));apply mQ mixed rfl rfl;intro wD2 sA2;have JI:=sA2 fj;have:=ak oD;replace qI:=(JI.mem _ this).2 qI;replace oD:=JI.aK oD;have:=ak fU;replace eW:=(JI.mem _ this).2 eW;replace fU:=JI.aK fU;replace hd:=hd.le (by decide) JI.le;replace hM:=JI.lt hM;have:=S.size;replace S:=S.aB JI;refine ad rfl rfl ?_;refine ab ⟨rfl,rfl,rfl,?_⟩;refine ad rfl rfl ?_;refine ab ⟨rfl,rfl,rfl,?_⟩;refine aM gy rfl rfl rfl oD rfl (aV (v':=v0) rfl ?_);refine ab ⟨rfl,rfl,rfl,?_⟩;refine bS rfl hd.gz rfl ?_;refine ab ⟨rfl,rfl,rfl,?_⟩;refine aN (M:=fj) (A:=RT.di) (B:=RT.str.sl) jS rfl rfl xN (by decide) Xg rfl rfl (by decide) hd (aq _ _) (fun pn2 ag8=>?_);refine ab ⟨rfl,rfl,rfl,?_⟩;refine bT (M:=fj) aI rfl rfl rfl rfl rfl ag8 (aq _ _) (fun vn2 VM=>?_);replace VM:(RT.str.sl).V fj _ d.1 vn2:=VM;refine ab ⟨rfl,rfl,rfl,?_⟩;refine bM aI rfl VM rfl ?_;refine ab ⟨rfl,rfl,rfl,?_⟩;refine cj rfl rfl rfl ?_;refine ab ⟨rfl,rfl,rfl,?_⟩;refine ad rfl rfl ?_;refine ab ⟨rfl,rfl,rfl,?_⟩;refine aQ (g:=22) rfl (fun ag9=>?_) (fun ag9=>?_)
 ·refine al rfl rfl (aM gy rfl rfl rfl oD rfl (aV (v':=v0) rfl ?_));refine ab ⟨rfl,rfl,rfl,?_⟩;refine al rfl rfl (bS rfl hd.gz rfl ?_);refine ab ⟨rfl,rfl,rfl,?_⟩;refine al rfl rfl ?_;refine aN (M:=fj) (A:=RT.di) (B:=RT.str.sl) jS rfl rfl xN (by decide) Xg rfl rfl (by decide) hd (aq _ _) (fun pn3 aha=>?_);refine ab ⟨rfl,rfl,rfl,?_⟩;refine al rfl rfl ?_;refine bT (M:=fj) aI rfl rfl rfl rfl rfl aha (aq _ _) (fun vn3 VN=>?_);replace VN:(RT.str.sl).V fj _ d.1 vn3:=VN;refine ab ⟨rfl,rfl,rfl,?_⟩;refine al rfl rfl (ad rfl rfl ?_);refine ab ⟨rfl,rfl,rfl,?_⟩;refine al rfl rfl ?_;refine cy (M:=fj) aI I9 rfl rfl rfl VN (aq _ _) (by omega) (fun u2 x hg2 rT=>?_);rw[ay]at hg2;refine ab ⟨rfl,rfl,rfl,?_⟩;refine al rfl rfl ?_;refine bT (M:=fj) aJ rfl rfl rfl rfl rfl rT (aq _ _) (fun vx rD=>?_);obtain rfl:=fS rD;refine ab ⟨rfl,rfl,rfl,?_⟩;refine al rfl rfl (aM aJ rfl rfl rfl fU rfl (aV (v':=sv k) rfl ?_));refine ab ⟨rfl,rfl,rfl,?_⟩;refine al rfl rfl (Rg.HA rfl rfl rfl ?_);refine ab ⟨rfl,rfl,rfl,?_⟩;refine aY rfl rfl rfl ?_;refine ab ⟨rfl,rfl,rfl,?_⟩;refine ah rfl rfl ?_;refine ab ⟨rfl,rfl,rfl,?_⟩;refine ah rfl rfl ?_;refine ab ⟨rfl,rfl,rfl,?_⟩;refine ew (aO ?_);rw[←em]at*
  first
  |(have e:decide (x=k)=decide (k∈d.1):=decide_eq_decide.2 (by rw[←NM CW,hg2];simp)
    exact eY rfl rfl rfl ⟨by rw[e],S.back⟩)
  |(have e:k∉d.1:=fun h=>by have:=(Cn CW).1 h;have:=(ao.1 this).1;omega
    exact eY rfl rfl rfl ⟨by rw[decide_eq_false e],S.back⟩)
 ·refine au rfl rfl rfl rfl ?_;refine ab ⟨rfl,rfl,rfl,?_⟩;refine au rfl rfl rfl rfl ?_;refine ab ⟨rfl,rfl,rfl,?_⟩;refine au rfl rfl rfl rfl ?_;refine ab ⟨rfl,rfl,rfl,?_⟩;refine au rfl rfl rfl rfl ?_;refine ab ⟨rfl,rfl,rfl,?_⟩;refine au rfl rfl rfl rfl ?_;refine ab ⟨rfl,rfl,rfl,?_⟩;refine au rfl rfl rfl rfl ?_;refine ab ⟨rfl,rfl,rfl,?_⟩;refine au rfl rfl rfl rfl ?_;refine ab ⟨rfl,rfl,rfl,?_⟩;refine au rfl rfl rfl rfl ?_;refine ab ⟨rfl,rfl,rfl,?_⟩;refine au rfl rfl rfl rfl ?_;refine ab ⟨rfl,rfl,rfl,?_⟩;refine aE rfl rfl rfl ?_;refine ab ⟨rfl,rfl,rfl,?_⟩;refine ah rfl rfl ?_;refine ab ⟨rfl,rfl,rfl,?_⟩;refine ah rfl rfl ?_;refine ab ⟨rfl,rfl,rfl,?_⟩;refine ew (aO ?_);rw[←em]at*
  first
  |(have e:decide (x=k)=decide (k∈d.1):=decide_eq_decide.2 (by rw[←NM CW,hg2];simp)
    exact eY rfl rfl rfl ⟨by rw[e],S.back⟩)
  |(have e:k∉d.1:=fun h=>by have:=(Cn CW).1 h;have:=(ao.1 this).1;omega
    exact eY rfl rfl rfl ⟨by rw[decide_eq_false e],S.back⟩)
theorem find_spec {M:aD} {d:Di} {v0:Value} {k:List UInt8} (w0:World) (hM:Lt M w0) (hd:cN RT.di M w0 v0 d) (CW:D4 d.1) (hl:d.1.length=d.2.length):
  Spec Tryz.prog 79 #[v0,sv k] w0 (fun v w=>Step M w0 M w aC∧((∃(j:Nat) (p:Value) (t:Li),v= .tuple #[p,.bool true]∧d.1[j]? =some k∧d.2[j]? =some t∧cN RT.li M w p t)∨(v= .tuple #[.pointer none,.bool false]∧k∉d.1))):=by
 refine bc (args:=[_,_]) (fn:=Tryz.f79) Tryz.func79 rfl (n:=25) Tryz.ntmps79 ?_;have S:Step M w0 M w0 aC:=(aw _ _).cA (fun _ h=>h.elim) (fun _ h=>h.elim);refine aj (ae (ah rfl rfl (ah rfl rfl (ab (aj (ae (ad rfl rfl (ad rfl rfl ?_))))))));refine aX rfl rfl ag2 (G0 _ hM hd CW) (fun r1 w1 hc=>?_);obtain⟨rfl,s1⟩:=hc;replace hd:=hd.le (by decide) s1.le;replace hM:=s1.lt hM;have:=S.size;replace S:=S.aB s1;refine ad rfl rfl (bW rfl rfl rfl (bW rfl rfl rfl (ah rfl rfl (ah rfl rfl (ab (aj (aj (ae (ad rfl rfl (lH rfl rfl (aV (v':= .bool (decide (k∉d.1))) (by simp) ?_)))))))))));refine ab ?_;refine bN rfl (fun c2=>?_) (fun c2=>?_)
 ·refine aj (ae (ah rfl rfl (ab (aj (ae (ad rfl rfl (ah rfl rfl (ah rfl rfl (ab (aO ?_))))))))));exact eY rfl rfl rfl ⟨S,.inr ⟨rfl,c2⟩⟩
 ·refine aU (aj (ae (ad rfl rfl (bS rfl hd.gz rfl ?_))));refine aN (M:=M) (A:=RT.di) (B:=((RT.li).ptr).sl) jS rfl rfl Ew (by decide) di1 rfl rfl (by decide) hd (aq _ _) (fun pt Xy=>?_);refine bT (M:=M) dZ rfl rfl rfl rfl rfl Xy (aq _ _) (fun vt oL=>?_);replace oL:(((RT.li).ptr).sl).V M _ d.2 vt:=oL;refine ad rfl rfl ?_;have hk:=(Cn CW).1 (cJ.1 c2);have FK:=(ao.1 hk).1;refine cy (M:=M) dZ Am rfl rfl rfl oL (aq _ _) (by omega) (fun u5 t I8 Dw=>?_);rw[ay]at I8;refine bT (M:=M) eN rfl rfl rfl rfl rfl Dw (aq _ _) (fun vp Z9=>?_);have ahc:=lF.1 Z9;refine ah rfl rfl (ah rfl rfl (ab (aO ?_)));exact eY rfl rfl rfl ⟨S,.inl ⟨_,_,t,rfl,hk,I8,ahc⟩⟩
end Go.K
namespace Go.K
open Go.Proofs
namespace TKSegC
theorem Ew:TI Tryz.prog 196 (.slice none 0 0) 1 24:=by unfold TI;kernel_rfl
end TKSegC
open TKSegC
set_option maxRecDepth 10000
theorem zq {M:aD} {d:Di} {vd:Value} {bi bd yl:Nat} {wv:World} {J:Nat→World→Prop} {Jx:World→Prop} (w0:World) (hd:cN RT.di M wv vd d) (hl:d.1.length=d.2.length) (kD:∀i w w',J i w→Step aC w aC w' aC→J i w') (Ia:∀i w,J i w→w.heap[bi]? =some (.cells #[.int .i64 0] 3 (0,0))∧w.heap[bd]? =some (.cells #[vd] 139 (0,0))∧Le M wv M w) (hy:∀(i:Nat) (w:World) x t vt,J i w→d.1[i]? =some x→d.2[i]? =some t→cN RT.li M w vt t→wJ Tryz.prog yl [sv x,vt].toArray w (fun r w'=>∃b,r= .bool b∧(b=true→J (i+1) w')∧(b=false→Jx w'))) (h0:J 0 w0):
  Spec Tryz.prog 123 #[.func (.yield yl) #[] #[],.pointer (some ⟨bi,0,none⟩),.pointer (some ⟨bd,0,none⟩)] w0 (fun _ w=>J d.1.length w∨Jx w):=by
 refine bc (args:=[_,_,_]) (fn:=Tryz.f123) Tryz.func123 rfl (n:=33) Tryz.ntmps123 (aj (ae (aM ax rfl rfl rfl (Ia _ _ h0).1 rfl (aV (v':= .int .i64 0) rfl (Rg.max2 rfl rfl rfl (ah rfl rfl (ab (aZ ?_))))))));refine de (σ:=Nat) (fun s=>[(0,.func (.yield yl) #[] #[]),(1,.pointer (some ⟨bi,0,none⟩)),(2,.pointer (some ⟨bd,0,none⟩)),(4,.int .i64 (s:Int))]) (fun s w=>J s w∧s≤d.1.length) (fun s=>d.1.length-s) 0 (.cons rfl (.cons rfl (.cons rfl (.cons rfl .nil)))) ?_ ?_
 ·exact⟨h0,bE _⟩
 ·rintro k w ⟨hJ,hk⟩;obtain⟨gi,gd,hle⟩:=Ia _ _ hJ;have hdl:d.1.length≤140737488355328:=by obtain⟨b,o,vs,_,_,⟨va,vb,_,⟨a,cap,_,_,h,_⟩,_⟩,_⟩:=hd;exact h
  refine aj (aj (ae (ad rfl rfl (aM gy rfl rfl rfl gd rfl (aV (v':=vd) rfl (bS rfl hd.gz rfl ?_))))));refine aN (M:=M) (A:=RT.di) (B:=RT.str.sl) jS rfl rfl xN (by decide) Xg rfl rfl (by decide) hd hle (fun pn O6=>?_);refine bT (M:=M) aI rfl rfl rfl rfl rfl O6 (aq _ _) (fun vn rZ=>?_);replace rZ:(RT.str.sl).V M _ d.1 vn:=rZ;refine bM aI rfl rZ rfl (cj rfl rfl rfl (ab ?_));refine bN rfl (fun c1=>?_) (fun c1=>?_)
  ·refine aU (aj (aZ (aj ?_)));apply T.KM 15 mixed rfl rfl rfl rfl rfl;intro Yq RF;have qX:=RF M;refine ad rfl rfl ?_;refine ab ⟨rfl,rfl,rfl,?_⟩;replace hJ:=kD _ _ _ hJ (RF aC);clear gi gd hle;obtain⟨gi,gd,hle⟩:=Ia _ _ hJ;refine aM gy rfl rfl rfl gd rfl (aV (v':=vd) rfl ?_);refine ab ⟨rfl,rfl,rfl,?_⟩;refine bS rfl hd.gz rfl ?_;refine ab ⟨rfl,rfl,rfl,?_⟩;refine aN (M:=M) (A:=RT.di) (B:=RT.str.sl) jS rfl rfl xN (by decide) Xg rfl rfl (by decide) hd hle (fun pm FP=>?_);refine ab ⟨rfl,rfl,rfl,?_⟩;refine bT (M:=M) aI rfl rfl rfl rfl rfl FP (aq _ _) (fun vm hvm=>?_);replace hvm:(RT.str.sl).V M _ d.1 vm:=hvm;refine ab ⟨rfl,rfl,rfl,?_⟩;refine ad rfl rfl ?_;refine ab ⟨rfl,rfl,rfl,?_⟩;refine cy (M:=M) aI I9 rfl rfl rfl hvm (aq _ _) (by omega) (fun u3 x O1 Jk=>?_);rw[ay]at O1;refine ab ⟨rfl,rfl,rfl,?_⟩;refine bT (M:=M) aJ rfl rfl rfl rfl rfl Jk (aq _ _) (fun vx rD=>?_);obtain rfl:=fS rD;refine ab ⟨rfl,rfl,rfl,?_⟩;refine aM gy rfl rfl rfl gd rfl (aV (v':=vd) rfl ?_);refine ab ⟨rfl,rfl,rfl,?_⟩;refine bS rfl hd.gz rfl ?_;refine ab ⟨rfl,rfl,rfl,?_⟩;refine aN (M:=M) (A:=RT.di) (B:=((RT.li).ptr).sl) jS rfl rfl Ew (by decide) di1 rfl rfl (by decide) hd hle (fun pt Xy=>?_);refine ab ⟨rfl,rfl,rfl,?_⟩;refine bT (M:=M) dZ rfl rfl rfl rfl rfl Xy (aq _ _) (fun vt oL=>?_);replace oL:(((RT.li).ptr).sl).V M _ d.2 vt:=oL;refine ab ⟨rfl,rfl,rfl,?_⟩;refine ad rfl rfl ?_;refine ab ⟨rfl,rfl,rfl,?_⟩;refine cy (M:=M) dZ Am rfl rfl rfl oL (aq _ _) (by omega) (fun u4 t wO Ft=>?_);rw[ay]at wO;refine ab ⟨rfl,rfl,rfl,?_⟩;refine bT (M:=M) eN rfl rfl rfl rfl rfl Ft (aq _ _) (fun vp Z9=>?_)
   refine ab ⟨rfl,rfl,rfl,?_⟩;refine ew ?_;refine Rg.yield rfl (vs:=[sv x,vp]) rfl rfl (hy k _ x t vp hJ O1 wO (lF.1 Z9)) (fun r5 w5 h5=>?_);obtain⟨b,rfl,RD,qH⟩:=h5;refine lH rfl rfl (aV (v':= .bool (decide (¬b=true))) (by simp) (ab ?_));refine bN rfl (fun c3=>?_) (fun c3=>?_)
   ·refine aO ?_;exact CZ rfl (.inr (qH (by simpa using c3)))
   ·refine aU (ae (ad rfl rfl (bF rfl rfl rfl (by omega) (ah rfl rfl (ab ?_)))));refine⟨rfl,k+1,(.cons rfl (.cons rfl (.cons rfl (.cons rfl .nil)))),?_,?_⟩
    ·exact⟨RD (cJ.1 c3),by omega⟩
    ·omega
  ·refine cG ?_
   first|refine rq ?_|simp+decide only[ru,jx,if_true,if_false]|skip
   have e:k=d.1.length:=by omega
   subst e;exact fR rfl (.inl hJ)
theorem Br {M:aD} {d:Di} {vd:Value} (w0:World) (hM:Lt M w0) (hd:cN RT.di M w0 vd d):
  Spec Tryz.prog 77 #[vd,.int .i64 0] w0 (fun v w=>∃bi bd,v= .func (.func 123) #[] [.pointer (some ⟨bi,0,none⟩),.pointer (some ⟨bd,0,none⟩)].toArray∧w.heap[bi]? =some (.cells #[.int .i64 0] 3 (0,0))∧w.heap[bd]? =some (.cells #[vd] 139 (0,0))∧w0.heap.size≤bi∧w0.heap.size≤bd∧Step M w0 M w aC):=by
 refine bc (args:=[_,_]) (fn:=Tryz.f77) Tryz.func77 rfl (n:=6) Tryz.ntmps77 (aj (ae ?_));refine xj M rfl rfl (fun bd w1 p1 q1 g1 s1=>?_);rw[vP hd]at g1;replace s1:=s1.back;refine xj M rfl rfl (fun bi w2 p2 q2 g2 s2=>?_);replace s2:=s2.back;replace g2:w2.heap[bi]? =some (.cells #[.int .i64 0] 3 (0,0)):=g2;refine ah rfl rfl (ab (aj (ae (kb (xs:=[]) (ys:=[.tmp 3,.tmp 2]) rfl rfl rfl (ah rfl rfl (ab (aO ?_)))))));exact aS rfl rfl ⟨bi,bd,rfl,g2,s2.aK g1,by have:=s1.size;omega,p1,s1.aB s2⟩
end Go.K
namespace Go.K
open Go.Proofs
namespace TKSegD
theorem EB:TI Tryz.prog 139 (.pointer none) 1 8:=by unfold TI;kernel_rfl
theorem E76:Enters Tryz.prog 76:=enters Tryz.func76 rfl (by decide)
theorem E77:Enters Tryz.prog 77:=enters Tryz.func77 rfl (by decide)
theorem VO:Enters Tryz.prog 123:=enters Tryz.func123 rfl (by decide)
end TKSegD
open TKSegD
set_option maxRecDepth 10000
theorem NN {M:aD} {w:World} {xs:List (List UInt8)} {v:Value} (h:(RT.str.sl).V M w xs v):∀x∈xs,x.length≤140737488355328:=fun x hx=>by
 obtain⟨a,cap,_,_,_,hs⟩:=iD.1 h;rcases hs with rfl|⟨b,o,_,_,he⟩
 ·cases hx
 ·obtain⟨i,hi⟩:=bB.1 hx;obtain⟨vs,⟨_,h1⟩,_⟩:=he i x hi;exact h1
theorem NO {M:aD} {w:World} {v:Value} {d:Di} (h:cN RT.di M w v d):(∀x∈d.1,x.length≤140737488355328)∧d.1.length≤140737488355328:=by
 obtain⟨b,o,vs,_,_,⟨va,vb,_,h1,_⟩,_⟩:=h;have hv:(RT.str.sl).V M w d.1 ((RT.str.sl).val va):=⟨va,h1,rfl⟩;exact⟨NN hv,dy hv⟩
structure NP {α:Type} (A:RT α) (e T:TypeId) (M:aD) (w0:World) (bo bi bd D:Nat) (vd:Value) (st:Loop) (vo:Value) (xs:List α) (M':aD) (w:World):Prop where
 lt:Lt M' w
 S:Step M w0 M' w aC
 o:w.heap[bo]? =some (.cells #[vo] T (0,0))
 mo:M' bo
 r:w.heap[D+1]? =some (.loop st)
 mr:M' (D+1)
 d:w.heap[D]? =some (.deferred (some []))
 md:M' D
 own:Own A e M' w w0.heap.size vo xs
 gi:w.heap[bi]? =some (.cells #[.int .i64 0] 3 (0,0))
 gd:w.heap[bd]? =some (.cells #[vd] 139 (0,0))
 fi: ¬M' bi
 fd: ¬M' bd
 z:w0.heap.size≤bo∧w0.heap.size≤D
section
variable {α:Type} {A:RT α} {e T:TypeId} {M M1 M2 N:aD} {w0 w w':World} {bo bi bd D:Nat} {vd:Value} {st:Loop} {vo:Value} {xs:List α}
theorem NP.aP (h:NP A e T M w0 bo bi bd D vd st vo xs M1 w) (s:Step M1 w M2 w' aC):NP A e T M w0 bo bi bd D vd st vo xs M2 w':=
 ⟨s.lt h.lt,h.S.aB s,s.aK h.o,(s.mem _ (ak h.o)).2 h.mo,s.aK h.r,(s.mem _ (ak h.r)).2 h.mr,s.aK h.d,(s.mem _ (ak h.d)).2 h.md,h.own.aP s,s.aK h.gi,s.aK h.gd,fun hn=>h.fi ((s.mem _ (ak h.gi)).1 hn),fun hn=>h.fd ((s.mem _ (ak h.gd)).1 hn),h.z⟩
theorem NP.mH {st':Loop} (h:NP A e T M w0 bo bi bd D vd st vo xs M1 w):NP A e T M w0 bo bi bd D vd st' vo xs M1 (w.putObj (D+1) (.loop st')):=by
 have s:Step M1 w M1 (w.putObj (D+1) (.loop st')) (fun k=>k=D+1):=dS h.mr;obtain⟨z1,z2⟩:=h.z;refine⟨s.lt h.lt,h.S.cd s (fun k (hk:k=D+1)=>by omega),s.keep h.o (fun(hn:bo=D+1)=>by have h1:=h.o;rw[hn,h.r]at h1;cases h1),h.mo,xk (ak h.r),h.mr,s.keep h.d (fun(hn:D=D+1)=>by omega),h.md,h.own.step s (fun b hb (hn:b=D+1)=>?_),s.keep h.gi (fun(hn:bi=D+1)=>by have h1:=h.gi;rw[hn,h.r]at h1;cases h1),s.keep h.gd (fun(hn:bd=D+1)=>by have h1:=h.gd;rw[hn,h.r]at h1;cases h1),h.fi,h.fd,h.z⟩;obtain⟨cs,hc⟩:=h.own.isCells hb;rw[hn,h.r]at hc;cases hc
theorem NP.grow {G1:Value} {NQ:List α} (hT:T≠e) (h:NP A e T M w0 bo bi bd D vd st vo xs M1 w) (s:Step M1 w M2 w' (fz vo)) (ho:Own A e M2 w' w0.heap.size G1 NQ):
  (w'.heap[bo]? =some (.cells #[vo] T (0,0))∧M2 bo)∧∀{w2:World},Step M2 w' M2 w2 (fun k=>k=bo)→w2.heap[bo]? =some (.cells #[G1] T (0,0))→NP A e T M w0 bo bi bd D vd st G1 NQ M2 w2:=by
 obtain⟨z1,z2⟩:=h.z
 have zr:∀{b:Nat} {o:Obj},w.heap[b]? =some o→(∀cs fr,o≠ .cells cs e fr)→¬fz vo b:=fun {b o} hb eK hn=>by
  obtain⟨⟨C,h1,_⟩,_⟩:=h.own;rcases h1.2 with h3|⟨g,cap,cur,h3,h4,h5,_⟩
  ·unfold fz at hn;rw[h3.1]at hn;cases hn
  ·unfold fz at hn;rw[h3]at hn;cases hn;rw[hb]at h5;exact eK _ _ (aH h5)
 have nM:∀{b:Nat},¬M1 b→¬fz vo b:=fun hb hn=>hb (h.own.mut_ _ hn)
 have fO:=s.keep h.o (zr h.o (fun cs fr hc=>by injection hc with _ h1 _;exact hT h1));have hr:=s.keep h.r (zr h.r (fun cs fr hc=>by cases hc));have hd:=s.keep h.d (zr h.d (fun cs fr hc=>by cases hc));have mO:=s.keep h.gi (nM h.fi);have o9:=s.keep h.gd (nM h.fd);have hfi: ¬M2 bi:=fun hn=>h.fi ((s.mem _ (ak h.gi)).1 hn)
 have Ky: ¬M2 bd:=fun hn=>h.fd ((s.mem _ (ak h.gd)).1 hn)
 have Gy:=(s.mem _ (ak h.o)).2 h.mo;refine⟨⟨fO,Gy⟩,fun {w2} s2 hx=>⟨s2.lt (s.lt h.lt),(h.S.dg s h.own (aT _)).cd s2 (fun k (hk:k=bo)=>by omega),hx,Gy,s2.keep hr (fun(hn:D+1=bo)=>by rw[hn,fO]at hr;cases hr),(s.mem _ (ak h.r)).2 h.mr,s2.keep hd (fun(hn:D=bo)=>by rw[hn,fO]at hd;cases hd),(s.mem _ (ak h.d)).2 h.md,ho.step s2 (fun b hb (hn:b=bo)=>ho.eI fO hT (by rw[←hn];exact hb)),s2.keep mO (fun(hn:bi=bo)=>hfi (by rw[hn];exact Gy)),s2.keep o9 (fun(hn:bd=bo)=>Ky (by rw[hn];exact Gy)),hfi,Ky,h.z⟩⟩
end
theorem ahg {α:Type} {A:RT α} {e T:TypeId} {M M1:aD} {w0 w:World} {bo bi bd:Nat} {vd:Value} {st:Loop} (hM:Lt M1 w) (S:Step M w0 M1 w aC) (go:w.heap[bo]? =some (.cells #[.slice none 0 0] T (0,0))) (mo:M1 bo) (gi:w.heap[bi]? =some (.cells #[.int .i64 0] 3 (0,0))) (gd:w.heap[bd]? =some (.cells #[vd] 139 (0,0))) (fi: ¬M1 bi) (fd: ¬M1 bd) (Nr:w0.heap.size≤bo):
  ∃M',NP A e T M w0 bo bi bd w.heap.size vd st (.slice none 0 0) [] M' ((w.alloc (.deferred (some []))).alloc (.loop st)):=by
 have sA:Step M1 w (ins M1 w.heap.size) (w.alloc (.deferred (some []))) aC:=(cQ M1 w _).own (aT _) (by simp);have sB:Step (ins M1 w.heap.size) (w.alloc (.deferred (some []))) (ins (ins M1 w.heap.size) (w.heap.size+1)) ((w.alloc (.deferred (some []))).alloc (.loop st)) aC:=(cQ _ _ _).own (by simp) (by simp);have hD:(w.alloc (.deferred (some []))).heap[w.heap.size]? =some (.deferred (some [])):=cg w _;have hR:((w.alloc (.deferred (some []))).alloc (.loop st)).heap[w.heap.size+1]? =some (.loop st):=by have:=cg (w.alloc (.deferred (some []))) (.loop st);rwa [Af]at this
 have SS:=(S.aB sA).aB sB;have hi:=ak gi;have hd:=ak gd;refine⟨_,sB.lt (sA.lt hM),SS,sB.aK (sA.aK go),.inr (.inr mo),hR,.inl rfl,sB.aK hD,.inr (.inl rfl),dF _ _ _ _ _,sB.aK (sA.aK gi),sB.aK (sA.aK gd),?_,?_,Nr,S.size⟩
 ·rintro(h|h|h)
  ·omega
  ·omega
  ·exact fi h
 ·rintro(h|h|h)
  ·omega
  ·omega
  ·exact fd h
theorem zt {M:aD} {d:Di} {v0:Value} (w0:World) (hM:Lt M w0) (hd:cN RT.di M w0 v0 d) (hdl:d.1.length=d.2.length) (hd6:d.1.length≤1000000000):
  Spec Tryz.prog 76 #[v0] w0 (fun v w=>(RT.str.sl).V M w d.1 v∧Step M w0 M w aC):=by
 have jM:=hM;obtain⟨IC,_⟩:=NO hd;refine oc (args:=[_]) (fn:=Tryz.f76) Tryz.func76 rfl (n:=14) Tryz.ntmps76 ?_;have S:Step M w0 M w0 aC:=(aw _ _).cA (fun _ h=>h.elim) (fun _ h=>h.elim);refine aj (ae (ah rfl rfl (ab (aj (ae ?_)))));refine dP M xN rfl (fun mA Dz Uf Ug jU nF=>?_);obtain⟨lg,mB⟩:∃M',M'=ins M mA:=⟨_,rfl⟩;rw[←mB]at nF;have iM:lg mA:=by rw[mB];exact .inl rfl
 change Dz.heap[mA]? =some (.cells #[.slice none 0 0] _ _)at jU;replace hM:=nF.lt hM;have:=S.size;replace S:=S.aB nF;refine ab (aj (aj (ae (ad rfl rfl ?_))));refine aX rfl rfl E77 (Br (M:=lg) _ hM (hd.le (by decide) nF.le)) (fun r2 w2 hc=>?_);obtain⟨bi,bd,rfl,gi,gd,PN,hbd,s2⟩:=hc;have fi: ¬lg bi:=fun h=>by have:=hM _ h;omega
 have fd: ¬lg bd:=fun h=>by have:=hM _ h;omega
 replace fi: ¬lg bi:=fi;have:=ak jU;replace iM:=(s2.mem _ this).2 iM;replace jU:=s2.aK jU;replace hM:=s2.lt hM;have:=S.size;replace S:=S.aB s2;refine ab (aZ ?_);refine T.range (gf:=123) (lb:=[.pointer (some ⟨bi,0,none⟩),.pointer (some ⟨bd,0,none⟩)].toArray) rfl VO (fun rec nD=>?_);obtain⟨D,hD⟩:∃D,D=w2.heap.size:=⟨_,rfl⟩;obtain⟨Mr,h0⟩:=ahg (A:=RT.str) (e:=9) (st:=rec .ready none) hM S jU iM gi gd fi fd (by omega);rw[←hD]at nD h0 ⊢;refine Spec.mono (zq (wv:=w0) (M:=M) (J:=fun i w=>∃M' vo,NP (RT.str) 9 57 M w0 mA bi bd D v0 (rec .ready none) vo (d.1.take i) M' w) (Jx:=fun _=>False) _ hd hdl (fun i w w' ⟨M',vo,h⟩ s=>⟨M',vo,h.aP (s.any M')⟩) (fun i w ⟨M',vo,h⟩=>⟨h.gi,h.gd,h.S.back.le⟩) (fun i wr x t vt hJ hx ht hp=>?_) ⟨Mr,_,h0⟩) (fun _ w3 h3=>?_)
 ·obtain⟨M',vo,h⟩:=hJ;refine lW (ps:=[7,8]) (vs:=[sv x,vt]) nD h.r rfl (by decide) (ae (ah rfl rfl (ab ?_)));refine⟨rfl,h.r,?_⟩;have h4:=h.mH (st':=rec .busy none);have s4:Step M' wr M' (wr.putObj (D+1) (.loop (rec .busy none))) (fun k=>k=D+1):=dS h.mr;generalize wr.putObj (D+1) _=w4 at h4 s4 ⊢;refine aZ (ae (aM aI rfl rfl rfl h4.o rfl (aV (v':=vo) rfl (ad rfl rfl ?_))));refine ed (A:=RT.str) (hn:=by decide) (M:=M') aI I9 (by decide) rfl rfl h4.lt (kG.2 ⟨rfl,IC x (aA hx)⟩) (.inr ⟨rfl,rfl⟩) (fun u5 w5 Dw s5=>?_);have h6:=h4.aP s5;have oK:=(ao.1 hx).1;refine cZ (M:=M') (base:=w0.heap.size) aI I9 rfl rfl rfl rfl h6.own Dw (aq _ _) (by simp;omega) (by simp;omega) h6.S.size (fun v6 M6 w6 ue s6=>?_);obtain⟨⟨go6,mo6⟩,FJ⟩:=h6.grow (by decide) s6 ue;refine cu (M:=M6) xN rfl rfl go6 rfl (by obtain⟨_,_,he,_⟩:=ue.isSlice;rw[he];rfl) mo6 (fun w7 g7 s7=>?_);refine ab ?_;have h8:=(FJ s7 g7).mH (st':=rec .ready none);exact⟨(FJ s7 g7).r,true,rfl,fun _=>⟨M6,v6,by rw[bK,hx,cT];exact h8⟩,fun h=>by cases h⟩
 ·obtain⟨M',vo,h⟩:=h3.resolve_right id;left;refine⟨h.r,?_⟩;have h5:=h.mH (st':=rec .exhausted none);generalize w3.putObj (D+1) _=wE at h5 ⊢;refine aj (ae (aM aI rfl rfl rfl h5.o rfl (aV (v':=vo) rfl (ah rfl rfl (ab (aO ?_))))));have sE:Step M' wE M' (wE.putObj D (.deferred none)) (fun k=>k=D):=dS h5.md;have hz:=h5.z;have hS:=h5.S.cd sE (fun k (hk:k=D)=>by omega)
  have ho:=h5.own.step sE (fun b hb (hn:b=D)=>by
   obtain⟨cs,hc⟩:=h5.own.isCells hb;rw[hn,h5.d]at hc;cases hc)
  rw[aW (aT _)]at ho;exact BN rfl rfl h5.d ⟨ho.close jM hS (by omega),hS.back⟩
theorem zu {M:aD} {s:Se} {v0:Value} (w0:World) (hM:Lt M w0) (hdl:s.2.2.1.length=s.2.2.2.length) (hd6:s.2.2.1.length≤1000000000) (hs:cN RT.se M w0 v0 s):
  Spec Tryz.prog 38 #[v0] w0 (fun v w=>(RT.str.sl).V M w s.2.2.1 v∧Step M w0 M w aC):=by
 refine bc (args:=[_]) (fn:=Tryz.f38) Tryz.func38 rfl (n:=8) Tryz.ntmps38 (aj (ae (ah rfl rfl (ab (aj (ae (ad rfl rfl (bS rfl hs.gz rfl ?_))))))));refine aN (M:=M) (A:=RT.se) (B:=(RT.di).ptr) iI rfl rfl EB (by decide) se2 rfl rfl (by decide) hs (aq _ _) (fun GF oz=>?_);refine bT (M:=M) gy rfl rfl rfl rfl rfl oz (aq _ _) (fun vd hvd=>?_);refine aX rfl rfl E76 (zt _ hM (lF.1 hvd) hdl hd6) (fun r wc hc=>?_);obtain hc:=hc;refine ah rfl rfl (ab (aO ?_));exact aS rfl rfl hc
end Go.K
namespace Go.K
open Go.Proofs
namespace TKSegE
theorem EB:TI Tryz.prog 139 (.pointer none) 1 8:=by unfold TI;kernel_rfl
theorem E79:Enters Tryz.prog 79:=enters Tryz.func79 rfl (by decide)
end TKSegE
open TKSegE
set_option maxRecDepth 10000
def VP (ns:List (List UInt8)) (ls:List (List Po)) (k:List UInt8):List Po:=match (ns.zip ls).find? (fun p=>decide (p.1=k))with|some p=>p.2|none=>[]
theorem NR {ns:List (List UInt8)} (hn:ns.Nodup) {ls:List (List Po)} {k:List UInt8} {j:Nat} {l:List Po} (h:ns[j]? =some k) (hl:ls[j]? =some l):VP ns ls k=l:=by
 have:∀{ns:List (List UInt8)} {ls:List (List Po)} {j:Nat},ns.Nodup→ns[j]? =some k→ls[j]? =some l→(ns.zip ls).find? (fun p=>decide (p.1=k))=some (k,l):=by
  intro ns
  induction ns with
  |nil=>intro ls j _ h;simp at h
  |cons x ns ih=>
   intro ls j hn h hl
   cases ls with
   |nil=>simp at hl
   |cons y ls=>
    cases j with
    |zero=>simp at h hl;subst h;subst hl;simp
    |succ j=>
     have Jj:=List.nodup_cons.1 hn;have hk:k∈ns:=aA (by simpa using h);have hx:x≠k:=fun e=>Jj.1 (by rw[e];exact hk)
     rw[List.zip_cons_cons,List.find?_cons_of_neg (by simpa using hx)];exact ih Jj.2 (by simpa using h) (by simpa using hl)
 unfold VP;rw[this hn h hl]
theorem EC {ns:List (List UInt8)} {ls:List (List Po)} {k:List UInt8} (h:k∉ns):VP ns ls k=[]:=by
 unfold VP;rw[List.find?_eq_none.2 fun p hp=>by have:=List.of_mem_zip hp;simp;intro e;exact h (e▸this.1)]
theorem VQ {L:List En} (k:List UInt8):VP (keysOf L) ((keysOf L).map (pk L)) k=pk L k:=by
 by_cases h:k∈keysOf L
 ·obtain⟨j,hj⟩:=bB.1 h;exact NR (kZ L).nodup hj (by rw[bC,hj];rfl)
 ·rw[EC h];exact(Cf 0 (fun h'=>h (iS.2 h'))).symm
def aac (d:Di) (k:List UInt8) (M:aD) (v:Value) (w:World):Prop:=(∃(j:Nat) (t:Li),d.1[j]? =some k∧d.2[j]? =some t∧cN RT.li M w v t)∨(v= .pointer none∧k∉d.1)
end Go.K
namespace Go.K
open Go.Proofs
namespace TKAdv
theorem xy:TI Tryz.prog 80 (.slice none 0 0) 1 24:=by unfold TI;kernel_rfl
theorem aad:Enters Tryz.prog 180:=enters Tryz.func180 rfl (by decide)
end TKAdv
open TKAdv
set_option maxRecDepth 10000
end Go.K
namespace Go.K
open Go.Proofs
namespace TKErsA
theorem EB:TI Tryz.prog 139 (.pointer none) 1 8:=by unfold TI;kernel_rfl
theorem E79:Enters Tryz.prog 79:=enters Tryz.func79 rfl (by decide)
theorem VB:Enters Tryz.prog 145:=enters Tryz.func145 rfl (by decide)
end TKErsA
open TKErsA
set_option maxRecDepth 10000
end Go.K
namespace Go.K
open Go.Proofs
namespace TKErsB
theorem E58:Enters Tryz.prog 58:=enters Tryz.func58 rfl (by decide)
end TKErsB
open TKErsB
set_option maxRecDepth 10000
end Go.K
namespace Go.K
open Go.Proofs
set_option maxRecDepth 10000
structure NS {α:Type} (A:RT α) (e T C:TypeId) (K:aD→World→Prop) (M:aD) (w0:World) (bo D:Nat) (st:Loop) (vo:Value) (xs:List α) (M':aD) (w:World):Prop where
 lt:Lt M' w
 S:Step M w0 M' w aC
 o:w.heap[bo]? =some (.cells #[vo] T (0,0))
 mo:M' bo
 r:w.heap[D+1]? =some (.loop st)
 mr:M' (D+1)
 d:w.heap[D]? =some (.deferred (some []))
 md:M' D
 own:Own A e M' w w0.heap.size vo xs
 k:K M' w
 z:w0.heap.size≤bo∧w0.heap.size≤D
section
variable {α:Type} {A:RT α} {e T C:TypeId} {K:aD→World→Prop} {M M1 M2 N:aD} {w0 w w':World} {bo D:Nat} {st:Loop} {vo:Value} {xs:List α}
theorem NS.aP (hK:∀{M w M' w'},K M w→Le M w M' w'→K M' w') (h:NS A e T C K M w0 bo D st vo xs M1 w) (s:Step M1 w M2 w' aC):NS A e T C K M w0 bo D st vo xs M2 w':=
 ⟨s.lt h.lt,h.S.aB s,s.aK h.o,(s.mem _ (ak h.o)).2 h.mo,s.aK h.r,(s.mem _ (ak h.r)).2 h.mr,s.aK h.d,(s.mem _ (ak h.d)).2 h.md,h.own.aP s,hK h.k s.le,h.z⟩
theorem NS.mH (hK:∀{M w M' w'},K M w→Le M w M' w'→K M' w') {st':Loop} (h:NS A e T C K M w0 bo D st vo xs M1 w):NS A e T C K M w0 bo D st' vo xs M1 (w.putObj (D+1) (.loop st')):=by
 have s:Step M1 w M1 (w.putObj (D+1) (.loop st')) (fun k=>k=D+1):=dS h.mr;obtain⟨z1,z2⟩:=h.z;refine⟨s.lt h.lt,h.S.cd s (fun k (hk:k=D+1)=>by omega),s.keep h.o (fun(hn:bo=D+1)=>by have h1:=h.o;rw[hn,h.r]at h1;cases h1),h.mo,xk (ak h.r),h.mr,s.keep h.d (fun(hn:D=D+1)=>by omega),h.md,h.own.step s (fun b hb (hn:b=D+1)=>?_),hK h.k s.le,h.z⟩;obtain⟨cs,hc⟩:=h.own.isCells hb;rw[hn,h.r]at hc;cases hc
theorem NS.grow (hK:∀{M w M' w'},K M w→Le M w M' w'→K M' w') {G1:Value} {NQ:List α} (hT:T≠e) (h:NS A e T C K M w0 bo D st vo xs M1 w) (s:Step M1 w M2 w' (fz vo)) (ho:Own A e M2 w' w0.heap.size G1 NQ):
  (w'.heap[bo]? =some (.cells #[vo] T (0,0))∧M2 bo)∧∀{w2:World},Step M2 w' M2 w2 (fun k=>k=bo)→w2.heap[bo]? =some (.cells #[G1] T (0,0))→NS A e T C K M w0 bo D st G1 NQ M2 w2:=by
 obtain⟨z1,z2⟩:=h.z
 have zr:∀{b:Nat} {o:Obj},w.heap[b]? =some o→(∀cs fr,o≠ .cells cs e fr)→¬fz vo b:=fun {b o} hb eK hn=>by
  obtain⟨⟨C,h1,_⟩,_⟩:=h.own;rcases h1.2 with h3|⟨g,cap,cur,h3,h4,h5,_⟩
  ·unfold fz at hn;rw[h3.1]at hn;cases hn
  ·unfold fz at hn;rw[h3]at hn;cases hn;rw[hb]at h5;exact eK _ _ (aH h5)
 have fO:=s.keep h.o (zr h.o (fun cs fr hc=>by injection hc with _ h1 _;exact hT h1));have hr:=s.keep h.r (zr h.r (fun cs fr hc=>by cases hc));have hd:=s.keep h.d (zr h.d (fun cs fr hc=>by cases hc));have Gy:=(s.mem _ (ak h.o)).2 h.mo;refine⟨⟨fO,Gy⟩,fun {w2} s2 hx=>⟨s2.lt (s.lt h.lt),(h.S.dg s h.own (aT _)).cd s2 (fun k (hk:k=bo)=>by omega),hx,Gy,s2.keep hr (fun(hn:D+1=bo)=>by rw[hn,fO]at hr;cases hr),(s.mem _ (ak h.r)).2 h.mr,s2.keep hd (fun(hn:D=bo)=>by rw[hn,fO]at hd;cases hd),(s.mem _ (ak h.d)).2 h.md,ho.step s2 (fun b hb (hn:b=bo)=>ho.eI fO hT (by rw[←hn];exact hb)),hK (hK h.k s.le) s2.le,h.z⟩⟩
end
theorem ahl {α:Type} {A:RT α} {e T C:TypeId} {K:aD→World→Prop} {M M1:aD} {w0 w:World} {bo:Nat} {st:Loop} (hK:∀{M w M' w'},K M w→Le M w M' w'→K M' w') (hM:Lt M1 w) (S:Step M w0 M1 w aC) (go:w.heap[bo]? =some (.cells #[.slice none 0 0] T (0,0))) (mo:M1 bo) (hk:K M1 w) (Nr:w0.heap.size≤bo):
  ∃M',NS A e T C K M w0 bo w.heap.size st (.slice none 0 0) [] M' ((w.alloc (.deferred (some []))).alloc (.loop st)):=by
 have sA:Step M1 w (ins M1 w.heap.size) (w.alloc (.deferred (some []))) aC:=(cQ M1 w _).own (aT _) (by simp);have sB:Step (ins M1 w.heap.size) (w.alloc (.deferred (some []))) (ins (ins M1 w.heap.size) (w.heap.size+1)) ((w.alloc (.deferred (some []))).alloc (.loop st)) aC:=(cQ _ _ _).own (by simp) (by simp);have hD:(w.alloc (.deferred (some []))).heap[w.heap.size]? =some (.deferred (some [])):=cg w _;have hR:((w.alloc (.deferred (some []))).alloc (.loop st)).heap[w.heap.size+1]? =some (.loop st):=by have:=cg (w.alloc (.deferred (some []))) (.loop st);rwa [Af]at this
 exact⟨_,sB.lt (sA.lt hM),(S.aB sA).aB sB,sB.aK (sA.aK go),.inr (.inr mo),hR,.inl rfl,sB.aK hD,.inr (.inl rfl),dF _ _ _ _ _,hK (hK hk sA.le) sB.le,Nr,S.size⟩
end Go.K
namespace Go.K
open Go.Proofs
namespace TKBldJ
theorem AA:TI Tryz.prog 58 (.slice none 0 0) 1 24:=by unfold TI;kernel_rfl
theorem Bn:TI Tryz.prog 72 (.agg #[(.slice none 0 0),(.slice none 0 0),(.slice none 0 0),(.slice none 0 0)]) 4 96:=by unfold TI;kernel_rfl
theorem xy:TI Tryz.prog 80 (.slice none 0 0) 1 24:=by unfold TI;kernel_rfl
theorem E39:Enters Tryz.prog 39:=enters Tryz.func39 rfl (by decide)
theorem E40:Enters Tryz.prog 40:=enters Tryz.func40 rfl (by decide)
theorem E41:Enters Tryz.prog 41:=enters Tryz.func41 rfl (by decide)
theorem E42:Enters Tryz.prog 42:=enters Tryz.func42 rfl (by decide)
theorem E43:Enters Tryz.prog 43:=enters Tryz.func43 rfl (by decide)
end TKBldJ
open TKBldJ
set_option maxRecDepth 10000
set_option maxHeartbeats 4000000 in
theorem G2 {M:aD} {L:List En} {v0:Value} (w0:World) (hM:Lt M w0) (hv:(RT.en.sl).V M w0 L v0) (hl:∀e∈L,∀f∈e.1.2,f.1.length≤900000∧f.2.length≤900000) (hn:L.length≤100000) (hok:uT (-1) L=true):
  Spec Tryz.prog 11 #[v0] w0 (fun v w=>∃s,v= .tuple #[s,.int .i64 0]∧cN RT.se M w s (rG (fx L))∧Step M w0 M w aC):=by
 have jM:=hM;have hF:=ku hok
 have GM:(keysOf L).length≤500000000:=by
  have h1:=(kZ L).nodup.length_le_of_subset (l₂:=iy L) (fun x hx=>iS.1 hx);have:=oB hF;omega
 have Qb:∀k∈keysOf L,k.length≤43:=fun k hk=>wZ hF k (iS.1 hk)
 refine bc (args:=[_]) (fn:=Tryz.f11) Tryz.func11 rfl (n:=63) Tryz.ntmps11 ?_;have S:Step M w0 M w0 aC:=(aw _ _).cA (fun _ h=>h.elim) (fun _ h=>h.elim);refine aj (ae (ah rfl rfl (ah rfl rfl (ab (aj (ae ?_))))));refine aX rfl rfl E39 (ML (Z:=fun k=>w0.heap.size≤k) (B:=w0.heap.size) _ hM (aT _) (fun k hk=>hk)) (fun r1 w1 hc=>?_);obtain⟨M1,b1,rfl,_,ic,s1⟩:=hc;replace ic:=ic.Jw (Z':=fun k=>w0.heap.size≤k∧k<w1.heap.size) (fun c hc dR=>⟨hc,dR⟩);replace hv:=hv.le s1.le;replace hM:=s1.lt hM;have:=S.size;replace S:=S.aB s1;refine ah rfl rfl (ab (aj (ae ?_)));refine dP M1 Bn rfl (fun gL Uh aex aey DA yJ=>?_);obtain⟨LA,yK⟩:∃M',M'=ins M1 gL:=⟨_,rfl⟩;rw[←yK]at yJ;have yL:LA gL:=by rw[yK];exact .inl rfl
 change Uh.heap[gL]? =some (.cells #[.slice none 0 0,.slice none 0 0,.slice none 0 0,.slice none 0 0] _ _)at DA;replace hv:=hv.le yJ.le;replace ic:=ic.aP yJ;replace hM:=yJ.lt hM;have:=S.size;replace S:=S.aB yJ;refine ab (aj (aj (ae (ad rfl rfl (bM ik rfl hv rfl (ad rfl rfl (ab (aZ ?_))))))));refine de (σ:=Nat×Value×Value) (fun q=>[(4,.pointer (some ⟨b1,0,none⟩)),(5,.pointer (some ⟨gL,0,none⟩)),(12,v0),(13,.int .i64 (L.length:Int)),(14,.int .i64 (q.1:Int))]) (fun q w=>∃M' words,Lt M' w∧Step M w0 M' w aC∧(RT.en.sl).V M' w L v0∧oA (ZP w0.heap.size gL q.2.1 q.2.2) M' w w0.heap.size b1 (L.take q.1) words (nr (-1) (L.take q.1))∧w.heap[gL]? =some (.cells #[q.2.1,q.2.2,.slice none 0 0,.slice none 0 0] 72 (0,0))∧M' gL∧Own (RT.int .i64) 3 M' w w0.heap.size q.2.1 ((L.take q.1).map (·.1.1))∧Own (RT.int .i64) 3 M' w w0.heap.size q.2.2 ((L.take q.1).map (·.2))∧iE q.2.1 q.2.2∧0≤words∧words≤500*(q.1:Int)∧q.1≤L.length) (fun q=>L.length-q.1) (0,.slice none 0 0,.slice none 0 0) (.cons rfl (.cons rfl (.cons rfl (.cons rfl (.cons rfl .nil))))) ?_ ?_
 ·exact⟨_,0,hM,S,hv,ic.Jw (Z':=ZP w0.heap.size gL (.slice none 0 0) (.slice none 0 0)) (fun c hc dR=>⟨hc.1,(fun h=>by have:=hc.2;omega),(fun h=>by cases h),(fun h=>by cases h)⟩),DA,yL,dF _ _ _ _ _,dF _ _ _ _ _,iE.nil _,by omega,by omega,bE _⟩
 ·clear hM S hv ic;rintro⟨i,vi,vs⟩ w ⟨M2,words,hM,S,hv,ic,g2,dE,eL,nT,xQ,hw1,hw2,hi⟩;dsimp only at ic g2 eL nT xQ hw2 hi ⊢;refine aj (ae (cj rfl rfl rfl (ab (aj ?_))));refine bN rfl (fun c4=>?_) (fun c4=>?_)
  ·refine aU (aj (aZ (aj (ae ?_))));refine cy (M:=M2) ik HK rfl rfl rfl hv (aq _ _) (by omega) (fun u5 e I8 Dw=>?_);rw[ay]at I8;obtain⟨Sw,VR⟩:=NI hok I8;have hem:=aA I8;refine cX (M:=M2) (A:=RT.en) dW rfl HK (by decide) rfl rfl rfl Dw (aq _ _) (fun v5 qg=>?_);obtain⟨Xs,OW⟩:=VK qg;refine xG (A:=RT.en) (M:=M2) HK rfl rfl rfl rfl rfl (by assumption) (aq _ _) hM (fun af8 aqK xa ED aqL=>?_);have:=ak g2;replace dE:=(ED.mem _ this).2 dE;replace g2:=ED.aK g2;replace hv:=hv.le ED.le;replace eL:=eL.aP ED;replace nT:=nT.aP ED;replace ic:=ic.aP ED;replace hM:=ED.lt hM;have:=S.size;replace S:=S.aB ED;refine ab (aj (aj (ae (ad rfl rfl ?_))));refine cX (M:=M2) (A:=RT.en) dW rfl HK (by decide) rfl rfl rfl xa (aq _ _) (fun v6 wT=>?_);refine aX rfl rfl E40 (MN (Z:=ZP w0.heap.size gL vi vs) _ hM (fun k hk=>⟨by have:=S.size;omega,fun h=>by have:=ak g2;omega,fun h=>by have:=(eL.base k h).2;omega,fun h=>by have:=(nT.base k h).2;omega⟩) ic (by have:=S.size;omega) wT (hl e hem) (fun x hx=>hF x (List.mem_of_mem_take hx)) (by simp;omega) (by omega)) (fun r6 w6 hc=>?_);obtain⟨M6,JB,s6,rfl,_,TF⟩:=hc;replace ic:=TF Sw;have R4:(pQ e).length≤500:=(hF e hem).many;refine aV (v':= .int .i64 0) (by rw[Sw]) ?_;replace eL:=eL.step s6 (fun c hc h=>h.1.2.2.1 hc);replace nT:=nT.step s6 (fun c hc h=>h.1.2.2.2 hc);replace dE:=(s6.mem _ (ak g2)).2 dE;replace g2:=s6.keep g2 (fun h=>h.1.2.1 rfl);replace hv:=hv.le s6.le;replace xa:=xa.le (by decide) s6.le;replace S:=S.cd s6 (fun k hk=>hk.1.1);replace hM:=JB;rw[VR.symm]at ic;refine ah rfl rfl (ab (aj (ae (ad rfl rfl (eM rfl rfl rfl (ab (T.tF rfl ((fun h=>h rfl)) (aU ?_))))))));have g2p:=g2;have aae:=dE
   have Z9:=hv;have aaf:=ic;have Cq:=eL;have NT:=nT;have hMp:=hM;have Sp:=S;obtain⟨P6,hP6⟩:∃P6:Value→World→Prop,P6=fun v w'=>Own (RT.int .i64) 3 (mV v) w' w0.heap.size v ((L.take i).map (·.1.1)++[e.1.1])∧(∀c,v.ownBlock=some c→w6.heap.size≤c∨vi.ownBlock=some c):=⟨_,rfl⟩
   have h6:∀{v:Value} {w w':World},P6 v w→Step M6 w M6 w' aC→P6 v w':=fun {v w w'} h s=>by rw[hP6]at h ⊢;exact⟨h.1.Su s (fun _ _ h=>h),h.2⟩
   apply T.St (M:=M6) [0,1,2,3,4,5,6,7,8,9,10,11,13,12,14,15,16] 13 12 37 (.pointer (some ⟨gL,0,none⟩)) [(6,fz vi)] [cL.eq (.pointer (some ⟨gL,0,none⟩)),cL.eq vi,cL.ptr RT.dc e.1,cL.ptr (RT.int .i64) e.1.1,cL.eq (.int .i64 e.1.1),cL.V ((RT.int .i64).sl) [e.1.1],(cL.mk' (fun v w=>P6 v w) (fun h s=>h6 h s)),cL.eq (.pointer (some ⟨gL,1,none⟩)),cL.eq vs,cL.ptr (RT.int .i64) e.2,cL.eq (.int .i64 e.2),cL.V ((RT.int .i64).sl) [e.2],cL.eq (.pointer (some ⟨gL,0,none⟩))] mixed
   ·simp+decide only[yj,sN,eQ,j5,je,jf,fq,dd,ie,qd,cond_true,cond_false,Nat.reduceBEq,Nat.reduceAdd,beq_self_eq_true];rfl
   ·rfl
   ·rfl
   ·rfl
   ·rfl
   ·rfl
   ·rfl
   ·rfl
   ·rfl
   ·rfl
   ·rfl
   ·rfl
   ·exact fun ρ w h=>zm (size:=1) (o:=0) (o':=0) bm rfl rfl jL (by decide) (h (.tmp 5) _ rfl) w
   ·intro p hp b hb;simp only[cf,eC,or_false]at hp;subst hp;exact eL.mut_ b hb
   ·exact fun p hp=>by
     simp only[cf,eC,or_false]at hp;subst hp;show(6:Nat)≠12;decide
   ·exact vg.st (by exact⟨fun _ _ _ _=>trivial,⟨fun _ _ _ _=>trivial,⟨fun _ _ _ _=>trivial,⟨fun _ _ _ _=>trivial,⟨fun _ _ _ _=>trivial,⟨fun _ _ _ _=>trivial,⟨fun p hp b hb=>(by simp at hp),⟨fun _ _ _ _=>trivial,⟨fun _ _ _ _=>trivial,⟨fun _ _ _ _=>trivial,⟨fun _ _ _ _=>trivial,⟨fun _ _ _ _=>trivial,⟨fun _ _ _ _=>trivial,trivial⟩⟩⟩⟩⟩⟩⟩⟩⟩⟩⟩⟩⟩)
   intro wR9 sA9;have NU:=sA9 M6;have:=ak g2;replace dE:=(NU.mem _ this).2 dE;replace g2:=NU.aK g2;replace hv:=hv.le NU.le;replace xa:=xa.le (by decide) NU.le;replace eL:=eL.aP NU;replace nT:=nT.aP NU;replace ic:=ic.aP NU;replace hM:=NU.lt hM;have:=S.size;replace S:=S.aB NU;have g2R:=g2;have aag:=eL;have aqN:=nT;have hz6:=NU.size;refine⟨?_,?_⟩
   ·refine aF ?_ ?_
    ·intro wD E sD;replace sD:Step M6 _ M6 wD (fz vi):=sD;refine bG (o':=0) bm rfl rfl jL (by decide) rfl rfl ?_;exact ab ⟨rfl,rfl,_,rfl,rfl,aw _ _⟩
    refine aF ?_ ?_
    ·intro wD E sD;replace sD:Step M6 _ M6 wD aC:=sD;refine aR (aM an rfl rfl rfl (sD.aK g2R) rfl ?_);exact ab ⟨rfl,rfl,_,rfl,rfl,aw _ _⟩
    refine aF ?_ ?_
    ·intro wD E sD;replace sD:Step M6 _ M6 wD (fz vi):=sD;refine aN (M:=M6) (A:=RT.en) (B:=RT.dc) dW rfl rfl o5 (by decide) YK rfl rfl (by decide) xa sD.le (fun uf Cl=>?_);exact ab ⟨rfl,rfl,_,rfl,Cl,aw _ _⟩
    refine aF ?_ ?_
    ·intro wD E sD;replace sD:Step M6 _ M6 wD (fz vi):=sD;intro v2 Fu;refine aN (M:=M6) (A:=RT.dc) (B:=RT.int .i64) bg rfl rfl I3 (by decide) YJ rfl rfl (by decide) (show cN RT.dc M6 wD v2 e.1 from Fu) (aq _ _) (fun uf Cl=>?_);exact ab ⟨rfl,rfl,_,rfl,Cl,aw _ _⟩
    refine aF ?_ ?_
    ·intro wD E sD;replace sD:Step M6 _ M6 wD (fz vi):=sD;intro v3 Ac;refine cb (M:=M6) ax rfl rfl (show cN (RT.int .i64) M6 wD v3 e.1.1 from Ac) (aq _ _) (fun kq=>?_);exact ab ⟨rfl,rfl,_,rfl,rfl,aw _ _⟩
    refine aF ?_ ?_
    ·intro wD E sD;replace sD:Step M6 _ M6 wD aC:=sD;refine aR ?_;refine ed (A:=RT.int .i64) (hn:=by decide) (M:=M6) an I3 (by decide) rfl rfl (sD.lt hM) (fV Xs) (.inr ⟨rfl,rfl⟩) (fun uS wS hS sS=>?_);exact ab ⟨rfl,rfl,_,rfl,hS,sS⟩
    refine aF ?_ ?_
    ·intro wD E sD;replace sD:Step M6 _ M6 wD aC:=sD;refine aR ?_;intro v5 qg;replace sD:Step M6 wR9 M6 wD aC:=sD;refine nY (M:=M6) (base:=w0.heap.size) an I3 rfl rfl rfl rfl (aag.aP sD) (show((RT.int .i64).sl).V M6 wD [e.1.1] v5 from qg) (aq _ _) (by simp;omega) (by simp;omega) (by have:=sD.size;have:=S.size;omega) (fun vA wA hoA sA hFA=>?_);exact ab ⟨rfl,rfl,_,rfl,by show P6 vA wA;rw[hP6];exact⟨hoA.lone,fun c hc=>(hFA c hc).elim (fun h=> .inl (by have:=sD.size;omega)) .inr⟩,sA.back⟩
    refine aF ?_ ?_
    ·intro wD E sD;replace sD:Step M6 _ M6 wD (fz vi):=sD;refine bG (o':=1) bm rfl rfl jL (by decide) rfl rfl ?_;exact ab ⟨rfl,rfl,_,rfl,rfl,aw _ _⟩
    refine aF ?_ ?_
    ·intro wD E sD;replace sD:Step M6 _ M6 wD (fz vi):=sD;refine aR (aM an rfl rfl rfl (sD.keep g2R (fun h=>aag.eI g2R (by decide) h)) rfl ?_);exact ab ⟨rfl,rfl,_,rfl,rfl,aw _ _⟩
    refine aF ?_ ?_
    ·intro wD E sD;replace sD:Step M6 _ M6 wD (fz vi):=sD;refine aN (M:=M6) (A:=RT.en) (B:=RT.int .i64) dW rfl rfl I3 (by decide) en1 rfl rfl (by decide) xa sD.le (fun uf Cl=>?_);exact ab ⟨rfl,rfl,_,rfl,Cl,aw _ _⟩
    refine aF ?_ ?_
    ·intro wD E sD;replace sD:Step M6 _ M6 wD (fz vi):=sD;intro v9 DM;refine cb (M:=M6) ax rfl rfl (show cN (RT.int .i64) M6 wD v9 e.2 from DM) (aq _ _) (fun kq=>?_);exact ab ⟨rfl,rfl,_,rfl,rfl,aw _ _⟩
    refine aF ?_ ?_
    ·intro wD E sD;replace sD:Step M6 _ M6 wD (fz vi):=sD;refine aR ?_;refine ed (A:=RT.int .i64) (hn:=by decide) (M:=M6) an I3 (by decide) rfl rfl (sD.lt hM) (fV OW) (.inr ⟨rfl,rfl⟩) (fun uS wS hS sS=>?_);exact ab ⟨rfl,rfl,_,rfl,hS,sS⟩
    refine aF ?_ ?_
    ·intro wD E sD;replace sD:Step M6 _ M6 wD (fz vi):=sD;refine aR (aR ?_);intro v2 Fu;intro v3 Ac;refine aR ?_;intro v5 qg;intro v6 wT;refine aR (aR (bG (o':=0) bm rfl rfl jL (by decide) rfl rfl ?_));exact ab ⟨rfl,rfl,_,rfl,rfl,aw _ _⟩
    exact sH
   ·intro Sk Et;replace Et:Step M6 _ M6 Sk (fz vi):=Et;refine aR (aR ?_);intro afv MR;intro aqP alY;refine aR ?_;intro aqQ alZ;intro Cr Ii;refine aR (aR ?_);intro aqR al0;refine aR ?_;intro aah G3;refine aR ?_;replace Ii:P6 Cr Sk:=Ii;rw[hP6]at Ii;obtain⟨ue,hb9⟩:=Ii;replace G3:((RT.int .i64).sl).V M6 Sk [e.2] aah:=G3;have sX:Step M6 w6 M6 Sk (fz vi):=(NU.cA (fun _ h=>h.elim) (fun b h=>Cq.mut_ b h)).trans Et (fun b _ h=>h);have ahr:=NT.step sX (fun c hc h=>xQ c h hc);refine nY (M:=M6) (base:=w0.heap.size) an I3 rfl rfl rfl rfl ahr G3 (aq _ _) (by simp;omega) (by simp;omega) (by have:=Sp.size;have:=sX.size;omega) (fun v12 Xc QI Ao VS=>?_)
    have Mn:∀c,Cr.ownBlock=some c→vs.ownBlock≠some c:=fun c hc hv=>by
     rcases hb9 c hc with h|h
     ·have:=(NT.base c hv).2;omega
     ·exact xQ c h hv
    have aaj:=ue.Su Ao (fun c hc h=>Mn c hc h)
    have aak:iE v12 Cr:=fun c hc hc6=>by
     rcases VS c hc with h|h
     ·have:=(ue.base c hc6).2;omega
     ·exact Mn c hc6 h
    have ahs:∀c,v12.ownBlock=some c→w6.heap.size≤c∨vs.ownBlock=some c:=fun c hc=>(VS c hc).elim (fun h=> .inl (by have:=sX.size;omega)) .inr
    have sZ:Step M6 w6 (jz M6 v12) Xc (fun k=>fz vi k∨fz vs k):=(sX.cA (fun _ h=> .inl h) (fun b h=>h.elim (Cq.mut_ b) (NT.mut_ b))).trans Ao (fun b _ h=> .inr h);obtain⟨QK,JJ⟩:∃M',M'=jz (jz M6 v12) Cr:=⟨_,rfl⟩;have sW:Step M6 w6 QK Xc (fun k=>fz vi k∨fz vs k):=by rw[JJ];exact sZ.Z6 (fun c hc=>⟨(aaj.base c hc).2,(hb9 c hc).elim .inl (fun h=> .inr (.inr (Cq.mut_ c h)))⟩)
    have eL:=aaj.PF (M':=QK) (by rw[JJ];exact fun b hb=> .inl hb);have nT:=QI.PF (M':=QK) (by rw[JJ];exact fun b hb=> .inr (.inl hb));have dE:=(sW.mem _ (ak g2p)).2 aae;have g2:=sW.keep g2p (fun h=>h.elim (Cq.eI g2p (by decide)) (NT.eI g2p (by decide)));have ic:=((aaf.Jw (Z':=fun k=>ZP w0.heap.size gL vi vs k∧ZP w0.heap.size gL Cr v12 k) (fun c hc dR=>⟨hc,hc.1,hc.2.1,fun h=>(hb9 c h).elim (fun h=>by omega) hc.2.2.1,fun h=>(ahs c h).elim (fun h=>by omega) hc.2.2.2⟩)).step sW (fun k hk hz=>hk.elim hz.1.2.2.1 hz.1.2.2.2)).Jw (Z':=ZP w0.heap.size gL Cr v12) (fun c hc _=>hc.2);have hv:=Z9.le sW.le;have S:=Sp.cd sW (fun k hk=>hk.elim (fun h=>(Cq.base k h).1) (fun h=>(NT.base k h).1));have hM:=sW.lt hMp;refine ab ⟨rfl,rfl,fun h=>absurd rfl h,?_⟩;refine cu (M:=QK) jL rfl rfl g2 rfl (by obtain⟨_,_,he,_⟩:=eL.isSlice;rw[he];rfl) dE (fun UH g14 jW=>?_);replace g14:UH.heap[gL]? =some (.cells #[Cr,vs,.slice none 0 0,.slice none 0 0] 72 (0,0)):=g14;replace eL:=eL.step jW (fun c hc (h:c=gL)=>eL.eI g2 (by decide) (h▸hc));replace nT:=nT.step jW (fun c hc (h:c=gL)=>nT.eI g2 (by decide) (h▸hc));replace dE:=(jW.mem _ (ak g2)).2 dE;replace ic:=ic.step jW (fun k (hk:k=gL) hz=>hz.2.1 hk);replace hv:=hv.le jW.le;replace S:=S.cd jW (fun k (hk:k=gL)=>by rw[hk];omega);replace hM:=jW.lt hM;clear g2;have g2:=g14;refine ab ⟨rfl,rfl,fun h=>absurd rfl h,?_⟩;refine bG (o':=1) bm rfl rfl jL (by decide) rfl rfl ?_;refine ab ⟨rfl,rfl,fun h=>absurd rfl h,?_⟩;refine cu (M:=QK) jL rfl rfl g2 rfl (by obtain⟨_,_,he,_⟩:=nT.isSlice;rw[he];rfl) dE (fun Xp g16 Bm=>?_);replace g16:Xp.heap[gL]? =some (.cells #[Cr,v12,.slice none 0 0,.slice none 0 0] 72 (0,0)):=g16;replace eL:=eL.step Bm (fun c hc (h:c=gL)=>eL.eI g2 (by decide) (h▸hc));replace nT:=nT.step Bm (fun c hc (h:c=gL)=>nT.eI g2 (by decide) (h▸hc));replace dE:=(Bm.mem _ (ak g2)).2 dE
    replace ic:=ic.step Bm (fun k (hk:k=gL) hz=>hz.2.1 hk);replace hv:=hv.le Bm.le;replace S:=S.cd Bm (fun k (hk:k=gL)=>by rw[hk];omega);replace hM:=Bm.lt hM;clear g2;have g2:=g16;refine ab ⟨rfl,rfl,fun h=>absurd rfl h,?_⟩;refine mN (ae (bF rfl rfl rfl (by omega) (ad rfl rfl (ab ?_))));have et:L.take (i+1)=L.take i++[e]:=by rw[bK,I8,cT]
    rw[et]at ic;refine⟨rfl,(i+1,Cr,v12),(.cons rfl (.cons rfl (.cons rfl (.cons rfl (.cons rfl .nil))))),?_,?_⟩
    ·exact⟨_,_,hM,S,hv,by rw[et];exact ic,g2,dE,by rw[et,eA];exact eL,by rw[et,eA];exact nT,aak.symm,by omega,by dsimp only;omega,by dsimp only;omega⟩
    ·dsimp only;omega
  ·refine cG (aj (ae ?_));have hLi:L.take i=L:=aW (by omega);rw[hLi]at ic eL nT;refine ad rfl rfl ?_;refine aX rfl rfl E41 (GL _ hM ic hF (by omega)) (fun rk w11 hc=>?_);obtain⟨Bs,JE⟩:=hc;have:=ak g2;replace dE:=(JE.mem _ this).2 dE;replace g2:=JE.aK g2;replace hv:=hv.le JE.le;replace eL:=eL.aP JE;replace nT:=nT.aP JE;replace ic:=ic.aP JE;replace hM:=JE.lt hM;have:=S.size;replace S:=S.aB JE;refine bG (o':=2) bm rfl rfl xN (by decide) rfl rfl ?_;refine cu (M:=M2) xN rfl rfl g2 rfl (lE Bs rfl rfl) dE (fun DO cU fA=>?_);change DO.heap[_]? =some (Obj.cells #[vi,vs,rk,.slice none 0 0] _ _)at cU;have:=ak g2;replace dE:=(fA.mem _ this).2 dE;replace hv:=hv.le fA.le;replace Bs:=Bs.le fA.le;replace eL:=eL.step fA (fun c hc (h:c=gL)=>eL.eI g2 (by decide) (h▸hc));replace nT:=nT.step fA (fun c hc (h:c=gL)=>nT.eI g2 (by decide) (h▸hc));replace ic:=ic.stepT fA (by first|exact fun k hk=>by(obtain⟨cs,hc⟩:=fy.isCells hk;exact⟨cs,_,hc,by decide,by decide,by decide⟩)|exact fun k (hk:k=gL)=>⟨_,_,hk▸g2,by decide,by decide,by decide⟩);replace hM:=fA.lt hM;have:=S.size;replace S:=S.trans fA (fun k hk h=>by have h:_=_:=h;subst h;first|(exfalso;omega)|(show _≤_;omega)|exact⟨by first|omega|assumption,(S.mem _ hk).1 ((fA.mem _ (ak g2)).1 dE)⟩|exact .inl rfl|exact .inr rfl|exact .inr (.inl rfl)|exact .inr (.inr rfl)|exact .inr (.inr (.inl rfl))|exact rfl);have L4:=cU;clear g2;have g2:=L4;clear L4;refine ab (aj (aj (ae (bG (o':=2) bm rfl rfl xN (by decide) rfl rfl (aM aI rfl rfl rfl g2 rfl (aV (v':=rk) rfl (bM aI rfl Bs rfl (ad rfl rfl (ab (aZ ?_))))))))));refine de (σ:=Nat×Value) (fun q=>[(4,.pointer (some ⟨b1,0,none⟩)),(5,.pointer (some ⟨gL,0,none⟩)),(44,rk),(45,.int .i64 ((keysOf L).length:Int)),(46,.int .i64 (q.1:Int))]) (fun q w=>∃M',Lt M' w∧Step M w0 M' w aC∧oA (ZP w0.heap.size gL vi vs) M' w w0.heap.size b1 L words (nr (-1) L)∧w.heap[gL]? =some (.cells #[vi,vs,rk,q.2] 72 (0,0))∧M' gL∧Own (RT.int .i64) 3 M' w w0.heap.size vi (L.map (·.1.1))∧Own (RT.int .i64) 3 M' w w0.heap.size vs (L.map (·.2))∧Own ((RT.po).sl) 80 M' w w0.heap.size q.2 (((keysOf L).take q.1).map (pk L))∧(RT.str.sl).V M' w (keysOf L) rk∧q.1≤(keysOf L).length) (fun q=>(keysOf L).length-q.1) (0,.slice none 0 0) (.cons rfl (.cons rfl (.cons rfl (.cons rfl (.cons rfl .nil))))) ?_ ?_
   ·exact⟨_,hM,S,ic,g2,dE,eL,nT,dF _ _ _ _ _,Bs,bE _⟩
   ·clear hM S ic g2 dE eL nT Bs hv;rintro⟨i3,vl⟩ w ⟨M3,hM,S,ic,g2,dE,eL,nT,fy,Bs,hi3⟩;dsimp only at g2 fy hi3 ⊢;refine aj (ae (cj rfl rfl rfl (ab (aj ?_))));refine bN rfl (fun PY=>?_) (fun PY=>?_)
    ·refine aU (aj (aZ (aj (ae ?_))));refine cy (M:=M3) aI I9 rfl rfl rfl Bs (aq _ _) (by omega) (fun u14 k VT aht=>?_);rw[ay]at VT;refine bT (M:=M3) aJ rfl rfl rfl rfl rfl aht (aq _ _) (fun vk kC=>?_);obtain rfl:=fS kC;refine ah rfl rfl (ab ?_);apply T.pJ 4 [0,1] 2 aC mixed rfl rfl rfl rfl;intro Vm Nn;have pY:=Nn M3;have:=ak g2;replace dE:=(pY.mem _ this).2 dE;replace g2:=pY.aK g2;replace Bs:=Bs.le pY.le;replace eL:=eL.aP pY;replace nT:=nT.aP pY;replace fy:=fy.aP pY;replace ic:=ic.aP pY;replace hM:=pY.lt hM;have:=S.size;replace S:=S.aB pY;refine bG (o':=3) bm rfl rfl AA (by decide) rfl rfl ?_;refine ab ⟨rfl,rfl,rfl,?_⟩;refine aM dw rfl rfl rfl (by first|assumption|exact cW pY (by assumption)) rfl ?_;refine ab ⟨rfl,rfl,rfl,?_⟩;refine ad rfl rfl ?_;refine ab ⟨rfl,rfl,rfl,?_⟩;refine ad rfl rfl ?_;refine ab ⟨rfl,rfl,rfl,?_⟩;refine ew ?_;refine⟨iB ⟨iz bm rfl AA (by decide),⟨ey rfl g2 (fun h=>h),trivial⟩⟩,?_⟩;have kp:=jF aC Vm;refine aX rfl rfl E42 (GN (k:=k) _ hM ic hF (by omega) (by have:=Qb k (aA VT);omega)) (fun r15 w15 hc=>?_);obtain⟨CU,xv⟩:=hc;have:=ak g2;replace dE:=(xv.mem _ this).2 dE;replace g2:=xv.aK g2;replace Bs:=Bs.le xv.le;replace eL:=eL.aP xv;replace nT:=nT.aP xv;replace fy:=fy.aP xv;replace ic:=ic.aP xv;replace hM:=xv.lt hM;have:=S.size;replace S:=S.aB xv;refine(fun(kp:eF _ _ _)=>ab ⟨rfl,rfl,fun _=>kp,?_⟩) (by first|exact kp|exact kp.rB (by assumption)|exact kp.goN (by assumption)|exact kp.go (by assumption) (fun _ _ h=>by first|exact h|exact h.elim));refine ed (A:=((RT.po).sl)) (hn:=by decide) (M:=M3) dw xy (by decide) rfl rfl hM (CU) (.inr ⟨rfl,rfl⟩) (fun al1 Sa zw j3=>?_)
     have:=ak g2;replace dE:=(j3.mem _ this).2 dE;replace g2:=j3.aK g2;replace Bs:=Bs.le j3.le;replace CU:=CU.le j3.le;replace eL:=eL.aP j3;replace nT:=nT.aP j3;replace fy:=fy.aP j3;replace ic:=ic.aP j3;replace hM:=j3.lt hM;have:=S.size;replace S:=S.aB j3;refine(fun(kp:eF _ _ _)=>ab ⟨rfl,rfl,fun _=>kp,?_⟩) (by first|exact kp|exact kp.rB (by assumption)|exact kp.goN (by assumption)|exact kp.go (by assumption) (fun _ _ h=>by first|exact h|exact h.elim));refine cZ (M:=M3) (base:=w0.heap.size) dw xy rfl rfl rfl rfl fy zw (aq _ _) (by simp;omega) (by simp;omega) (S.size) (fun NV aam aan VU jw=>?_);have:=ak g2;replace dE:=(jw.mem _ this).2 dE;replace g2:=jw.keep g2 (fun h=>by first|exact fy.eg g2 h|exact fy.eI g2 (by decide) h|(have:=(fy.base _ h).1;omega));replace Bs:=Bs.le jw.le;replace CU:=CU.le jw.le;replace zw:=zw.le jw.le;replace eL:=eL.step jw (fun b h1 h2=>eL.dz fy (by decide) h1 h2);replace nT:=nT.step jw (fun b h1 h2=>nT.dz fy (by decide) h1 h2);replace ic:=ic.stepT jw (by first|exact fun k hk=>by(obtain⟨cs,hc⟩:=fy.isCells hk;exact⟨cs,_,hc,by decide,by decide,by decide⟩)|exact fun k (hk:k=gL)=>⟨_,_,hk▸g2,by decide,by decide,by decide⟩);replace hM:=jw.lt hM;have:=S.size;replace S:=S.dg jw fy (aT _);replace fy:=VU;refine ab ⟨rfl,rfl,fun h=>absurd rfl h,?_⟩;refine bG (o':=3) bm rfl rfl AA (by decide) rfl rfl ?_;refine ab ⟨rfl,rfl,fun h=>absurd rfl h,?_⟩;refine cu (M:=aam) AA rfl rfl g2 rfl (by obtain⟨_,_,he,_⟩:=fy.isSlice;rw[he];rfl) dE (fun aao Sx qJ=>?_);change aao.heap[_]? =some (Obj.cells #[vi,vs,rk,NV] _ _)at Sx;have:=ak g2;replace dE:=(qJ.mem _ this).2 dE;replace Bs:=Bs.le qJ.le;replace CU:=CU.le qJ.le;replace zw:=zw.le qJ.le;replace eL:=eL.step qJ (fun c hc (h:c=gL)=>eL.eI g2 (by decide) (h▸hc))
     replace nT:=nT.step qJ (fun c hc (h:c=gL)=>nT.eI g2 (by decide) (h▸hc));replace fy:=fy.step qJ (fun c hc (h:c=gL)=>fy.eI g2 (by decide) (h▸hc));replace ic:=ic.stepT qJ (by first|exact fun k hk=>by(obtain⟨cs,hc⟩:=fy.isCells hk;exact⟨cs,_,hc,by decide,by decide,by decide⟩)|exact fun k (hk:k=gL)=>⟨_,_,hk▸g2,by decide,by decide,by decide⟩);replace hM:=qJ.lt hM;have:=S.size;replace S:=S.trans qJ (fun k hk h=>by have h:_=_:=h;subst h;first|(exfalso;omega)|(show _≤_;omega)|exact⟨by first|omega|assumption,(S.mem _ hk).1 ((qJ.mem _ (ak g2)).1 dE)⟩|exact .inl rfl|exact .inr rfl|exact .inr (.inl rfl)|exact .inr (.inr rfl)|exact .inr (.inr (.inl rfl))|exact rfl);have L4:=Sx;clear g2;have g2:=L4;clear L4;refine ab ⟨rfl,rfl,fun h=>absurd rfl h,?_⟩;refine mN (ae (bF rfl rfl rfl (by omega) (ad rfl rfl (ab ?_))));refine⟨rfl,(i3+1,NV),(.cons rfl (.cons rfl (.cons rfl (.cons rfl (.cons rfl .nil))))),?_,?_⟩
     ·exact⟨_,hM,S,ic,g2,dE,eL,nT,by rw[bK,VT,cT,eA];exact fy,Bs,by dsimp only;omega⟩
     ·dsimp only;omega
    ·refine cG (aj (ae (fE (vs:=[vi,vs,rk,vl]) bm rfl Bn rfl rfl rfl g2 ?_)));rw[aW (by omega)]at fy;have Vi:RT.pa.V M _ (fx L) _:=UW (x:=fx L) (eL.close jM S (by show(L.map _).length≤_;rw[aL];omega)) (nT.close jM S (by show(L.map _).length≤_;rw[aL];omega)) (Bs.le (Le.close jM S)) (fy.close jM S (by show((keysOf L).map _).length≤_;rw[aL];omega));replace S:=S.back;replace hM:=S.lt jM;refine aX rfl rfl E43 (zk (p:=fx L) _ hM Vi (Ig hF (by omega))) (fun r17 Xr hc=>?_);obtain⟨Cm,NW,_⟩:=hc;obtain⟨sg,rfl,yE⟩:=NW (NJ hok (by omega));replace S:=S.aB Cm;refine bW rfl rfl rfl (bW rfl rfl rfl (ah rfl rfl (ah rfl rfl (ab (aO ?_)))));exact eY rfl rfl rfl ⟨sg,rfl,yE,S⟩
end Go.K
namespace Go.K
open Go.Proofs
set_option maxRecDepth 10000
theorem vS {id:Int}:∀(fs:List Fd) (i:Nat) (out:List Fd),lO (id,out)=0→lO (id,ou id i out fs)=0
 |[],_,_,h=>h
 |x::fs,i,out,h=>by
  unfold ou
  split
  ·split
   ·rename_i h1;exact vS fs _ _ h1
   ·exact vS fs _ _ h
  ·exact h
theorem py {id:Int}:∀(fs:List Fd) (i:Nat) (out:List Fd),tg out→tg (ou id i out fs)
 |[],_,_,h=>h
 |x::fs,i,out,h=>by
  unfold ou
  split
  ·rename_i hi
   split
   ·exact py fs _ _ (h.snoc (yR x hi))
   ·exact py fs _ _ h
  ·exact h
theorem JK (d:Dc):lO (pL d)=0:=vS d.2 0 [] rfl
theorem EE (d:Dc):tg (pL d).2:=py d.2 0 [] (fun x h=>by cases h)
theorem EF {e:En}:∀{L:List En} {last:Int},uT last (L++[e])=(uT last L&&decide (mX (nr last L) e=0))
 |[],last=>by show(decide (mX last e=0)&&true)=(true&&decide (mX last e=0));rw[Bool.and_true,eR]
 |x::L,last=>by rw[kK];show(decide (mX last x=0)&&uT x.2 (L++[e]))=(decide (mX last x=0)&&uT x.2 L&&decide (mX (nr x.2 L) e=0));rw[EF (L:=L),Bool.and_assoc]
theorem zx {e:En}:∀{L:List En} {last:Int},nr last (L++[e])=e.2
 |[],_=>rfl
 |x::L,last=>by simp only[kK,nr];exact zx
theorem EG (l:List Dc) {a s:Int} (ha:0≤a) (hs:1≤s):∀k,uT (-1) (ja l a s k)=true∧nr (-1) (ja l a s k)<a+s*(k:Int)
 |0=>⟨rfl,by show(-1:Int)<_;simp;omega⟩
 |k+1=>by
  obtain⟨h1,h2⟩:=EG l ha hs k;have e1:a+s*((k+1:Nat):Int)=a+s*(k:Int)+s:=by rw[Int.natCast_add,Int.mul_add];simp;omega
  cases h:l[k]? with
  |none=>rw[yW (List.getElem?_eq_none_iff.1 h),e1];exact⟨h1,by omega⟩
  |some d=>
   rw[yV h,EF,zx,h1,e1]
   have:mX (nr (-1) (ja l a s k)) (pL d,a+s*(k:Int))=0:=by
    unfold mX;rw[if_neg (fun h=>h (JK d)),if_neg (by show¬(a+s*(k:Int)≤_);omega)]
   exact⟨by rw[this];rfl,by show a+s*(k:Int)<_;omega⟩
theorem Bt {l:List Dc} {a s:Int}:∀{k:Nat} {e:En},e∈ja l a s k→∃d,e.1=pL d
 |0,e,h=>by cases h
 |k+1,e,h=>by
  rw[ja]at h;rcases cp.1 h with h|h
  ·exact Bt h
  ·split at h
   ·rename_i d _;rw[bJ.1 h];exact⟨d,rfl⟩
   ·cases h
theorem G4 {l:List Dc} {a s:Int} {k:Nat}:∀e∈ja l a s k,∀f∈e.1.2,f.1.length≤900000∧f.2.length≤900000:=fun e he f hf=>by
 obtain⟨d,hd⟩:=Bt he;rw[hd]at hf;have:=EE d f hf;omega
end Go.K
namespace Go.K
variable {P:Program} {r:Option Nat} {n:Nat} {L:Sl} {ds:List Deferred} {w:World} {K:Kt} {ops:Array Oper} {rest:List Oper} {d:Nat} {x y:Operand} {ty:TypeId} {pos:String} {af:Array Edge} {α:Type} {A:RT α}
def AB {α:Type} (A:RT α):Prop:=∀(M M':aD) (w w':World) (x:α) (vs:List Value),A.R M w x vs→A.R M' w' x vs
theorem dX.QL {M M':aD} {w w':World} (hA:AB A):∀{xs:List α} {C:List Value},dX A M w xs C→dX A M' w' xs C
 |[],_,h=>h
 |_::_,_,⟨vs,rest,h1,h2,h3⟩=>⟨vs,rest,h1,hA _ _ _ _ _ _ h2,dX.QL hA h3⟩
theorem Own.NX {e:TypeId} {M M2:aD} {w':World} {base:Nat} {v:Value} {xs:List α} (hA:AB A) (h:Own A e M2 w' base v xs) (s:Step M w M2 w' aC) (hb:w.heap.size≤base) (M1:aD):Own A e (jz M1 v) w' base v xs∧Step M1 w (jz M1 v) w' aC:=by
 have OU:=h.base;obtain⟨⟨C,hr,ha⟩,hm⟩:=h;refine⟨⟨⟨C,hr,ha.QL hA⟩,fun b hb=> .inl hb⟩,fun hl b pD=>?_,s.os,s.tape,s.output,s.size,fun b pD=>⟨fun h=>h.resolve_left fun e=>by have:=(OU b e).1;omega,.inr⟩,s.same,fun b h=>h.elim⟩;rcases pD with h|h
 ·exact(OU b h).2
 ·exact iu (hl b h) s.size
theorem Own.G5 {hn:0<A.n} {e:TypeId} {M M1 M2:aD} {w':World} {base:Nat} {v:Value} {xs:List α} (hA:AB A) (h:Own A e M2 w' base v xs) (s:Step M w M2 w' aC) (hb:w.heap.size≤base) (hM:Lt M1 w) (hlen:xs.length≤140737488355328):(A.sl hn).V M1 w' xs v∧Step M1 w M1 w' aC:=by
 have OU:=h.base;obtain⟨h1,h2⟩:=h.NX hA s hb M1;exact⟨h1.sl (fun b _ Jj=>⟨fun h=>Jj (.inr h),rfl⟩) (fun b mv hM'=>by have h3:=(OU b mv).1;have h4:=hM b hM';omega) hlen,s.any M1⟩
end Go.K
namespace Go.K
open Go.Proofs
set_option maxRecDepth 10000
def fZ (l:List Bool):List Int:=(l.zipIdx.filter fun p=>p.1).map fun p=>(p.2:Int)
theorem vT (l:List Bool):(fZ l).length≤l.length:=by
 unfold fZ;rw[aL];exact ez (l3 _ _) (by simp)
end Go.K

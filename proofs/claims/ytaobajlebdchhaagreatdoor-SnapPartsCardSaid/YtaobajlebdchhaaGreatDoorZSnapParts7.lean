/- What the law 'SnapParts' needs of walks and plain Lean, part 7: nothing is assumed beyond the texts that it imports. -/
import Derived.KernelRfl
import Derived.Test.YtaobajlebdchhaaGreatDoorProg
import Derived.Test.YtaobajlebdchhaaGreatDoorZSnapParts1
import Derived.Test.YtaobajlebdchhaaGreatDoorZSnapParts2
import Derived.Test.YtaobajlebdchhaaGreatDoorZSnapParts3
import Derived.Test.YtaobajlebdchhaaGreatDoorZSnapParts4
import Derived.Test.YtaobajlebdchhaaGreatDoorZSnapParts5
import Derived.Test.YtaobajlebdchhaaGreatDoorZSnapParts6
set_option linter.unusedVariables false
set_option linter.unusedSimpArgs false
namespace Go.K
open Go.Proofs
namespace TKOf16
theorem Hw:TI Tryz.prog 149 (.agg #[(.string ⟨#[]⟩),(.string ⟨#[]⟩),(.int .i64 0)]) 3 40:=by unfold TI;kernel_rfl
theorem He:TI Tryz.prog 150 (.agg #[(.string ⟨#[]⟩),(.string ⟨#[]⟩),(.int .i64 0)]) 3 40:=by unfold TI;kernel_rfl
theorem aqm:placesOf Tryz.prog 150=[(0,2),(2,1)].map some:=by kernel_rfl
end TKOf16
open TKOf16
set_option maxRecDepth 10000
theorem Ob {M:aE} {l:List Er} {v0:Value} (w0:World) (hM:Lt M w0) (hv:(RT.er.sl).V M w0 l v0) (hl:l.length<=1000000):
  Spec Tryz.prog 26 #[v0] w0 (λv w=>(RT.er.sl).V M w (l) v/\Step M w0 M w ar):=by
 have iz:=hM;refine aS (args:=[_]) (fn:=Tryz.f26) Tryz.func26 G (n:=26) Tryz.ntmps26 ?_;have S:Step M w0 M w0 ar:=aV;refine T.aO (Rg.aZ G G (T.aO (Rg.aZ G G (aI (T.aO (aB G G ?_))))));refine ad (aT ?_);refine cR (σ:=Nat×Value) (λq=>[(0,v0),(3,q.2),(4,.int .i64 (q.1:Int))]) (λq w=>∃M',Lt M' w/\Step M w0 M' w ar/\Own RT.er 150 M' w w0.heap.size q.2 (l.take q.1)/\(RT.er.sl).V M' w l v0/\q.1<=l.length) (λq=>l.length-q.1) (0,.slice none 0 0) a07 ?_ ?_
 ·exact⟨M,hM,S,eE _ _ _ _ _,hv,bm _⟩
 ·rintro⟨i,u⟩ w ⟨M1,hM,S,ho,hv,hi⟩;dsimp only at ho hi ⊢;refine aI (T.aO (ab G G (ab G G (bB oy G hv G (ck G G G (ad ?_))))));refine bI G (λc3=>?_) (λc3=>?_)
  ·refine aR (aI (aT ?_));apply T.qa 12 [0] 1 ar mixed rfl rfl rfl rfl;intro wD5 sA5;have Lb:=sA5 M1;replace hv:=hv.le Lb.le;replace ho:=ho.bD Lb;replace hM:=Lb.lt hM;have:=S.size;replace S:=S.av Lb;refine ab G G (Rg.cI (ab G G (Rg.cI (ab G G (Rg.cI ?_)))));obtain⟨e,nk⟩:∃e,l[i]? =some e:=⟨_,an q0⟩;refine cx oy Hw G G G hv b4 q0 (λu3 e3 fV lE=>?_);rw[aq]at fV;obtain rfl:=aF (nk.symm.trans fV);refine Rg.cI ?_;refine au (A:=RT.er) (B:=RT.fd) Tryz.underlying149 G G nE XT er0 G G XT lE b4 (λu4 KL=>?_);refine Rg.cI ?_;refine bZ (A:=RT.fd) bR G nE XT G G G KL b4 (λvt TZ=>?_);have zD:=I2 TZ;obtain rfl:=j9 TZ;refine Rg.cI (ab G G (Rg.cI (ab G G (Rg.cI ?_))));refine cx oy Hw G G G hv b4 q0 (λu8 e8 fV hu8=>?_);rw[aq]at fV;obtain rfl:=aF (nk.symm.trans fV);refine Rg.cI ?_;refine au (A:=RT.er) (B:=RT.int .i64) Tryz.underlying149 G G I3 XT er1 G G XT hu8 b4 (λu9 hu9=>?_);refine Rg.cI ?_;refine bV aj G G hu9 b4 (λhez=>?_);refine Rg.cI (dp (places:=[(0,2),(2,1)]) Tryz.underlying150 He aqm rfl ⟨_,_,rfl,rfl,_,_,rfl,rfl,rfl⟩ (out:=[_,_,_]) ⟨0,[_,_],rfl,rfl,by simp[Value.cells],2,[_],rfl,rfl,by simp[Value.cells],rfl⟩ (Rg.cI (fB (⟨ik ⟨eP,trivial⟩,?_⟩))));have kp:=iR ar wD5;refine fm (A:=RT.er) (hn:=by decide) (M:=M1) Tryz.underlying62 He XT G G hM (afZ (p:=e) zD hez) (.inl G) (λaeC aeD uq tf=>?_);replace hv:=hv.le tf.le;replace ho:=ho.bD tf;replace hM:=tf.lt hM;have:=S.size;replace S:=S.av tf;refine(fun(kp:fa _ _ _)=>ad ⟨G,G,λ_=>kp,?_⟩) a03
   refine dA (M:=M1) (base:=w0.heap.size) Tryz.underlying62 He rfl rfl rfl rfl ho uq b4 a13 a13 (S.size) (λQe Qf aeE Jd tg=>?_);replace hv:=hv.le tg.le;replace uq:=uq.le tg.le;replace hM:=tg.lt hM;have:=S.size;replace S:=S.eg tg ho (aX _);replace ho:=Jd;refine ad ⟨G,G,λh=>absurd G h,aB G G (ad ⟨G,G,λh=>absurd G h,lH (aN (ab G G (br G G G q0 (Rg.aZ G G ?_))))⟩)⟩;refine⟨G,(i+1,Qe),a07,?_,?_⟩
   ·exact⟨Qf,hM,S,by dsimp only;rw[bQ,nk];exact ho,hv,by dsimp only;omega⟩
   ·dsimp only;omega
  ·refine cE (T.aO (ab G G (Rg.aZ G G (aM ?_))));rw[bg q0]at ho;exact aP rfl rfl ⟨ho.close iz S (by first|omega|(simp;omega)),S.back⟩
end Go.K
namespace Go.K
open Go.Proofs
set_option maxRecDepth 10000
theorem abZ (L:List En):(uM (gQ L)).2.2.2=((keysOf L).map (pk L)).map j5:=rfl
theorem ab0 (L:List En):(uM (gQ L)).2.2.1.length=((keysOf L).map (pk L)).length:=by rw[bT];rfl
theorem Oc {L:List En} (h:vW (-1) L=true) (hn:L.length<=1000000) (k:List UInt8):Xr (qA (uM (gQ L)).2.2.1 ((keysOf L).map (pk L)) k):=by
 show Xr (qA (keysOf L) _ _);rw[Eu];exact JT (kK h) hn _
namespace TKParts16
theorem I4:TI Tryz.prog 4 (.bool false) 1 1:=by unfold TI;kernel_rfl
theorem jH:TI Tryz.prog 28 (.agg #[(.int .i64 0),(.string ⟨#[]⟩),(.string ⟨#[]⟩),(.slice none 0 0),(.slice none 0 0)]) 5 88:=by unfold TI;kernel_rfl
theorem I69:TI Tryz.prog 69 (.agg #[(.int .i64 0),(.int .i64 0),(.int .i64 0)]) 3 24:=by unfold TI;kernel_rfl
theorem Hw:TI Tryz.prog 149 (.agg #[(.string ⟨#[]⟩),(.string ⟨#[]⟩),(.int .i64 0)]) 3 40:=by unfold TI;kernel_rfl
theorem B0:placesOf Tryz.prog 0=[].map some:=by kernel_rfl
theorem V9:placesOf Tryz.prog 28=[(0,1),(1,2),(3,1),(4,1)].map some:=by kernel_rfl
theorem E10:Enters Tryz.prog 10:=enters Tryz.func10 rfl XT
theorem E11:Enters Tryz.prog 11:=enters Tryz.func11 rfl XT
theorem E23:Enters Tryz.prog 23:=enters Tryz.func23 rfl XT
theorem E24:Enters Tryz.prog 24:=enters Tryz.func24 rfl XT
theorem E25:Enters Tryz.prog 25:=enters Tryz.func25 rfl XT
theorem E26:Enters Tryz.prog 26:=enters Tryz.func26 rfl XT
theorem E27:Enters Tryz.prog 27:=enters Tryz.func27 rfl XT
theorem E28:Enters Tryz.prog 28:=enters Tryz.func28 rfl XT
theorem E30:Enters Tryz.prog 30:=enters Tryz.func30 rfl XT
theorem E31:Enters Tryz.prog 31:=enters Tryz.func31 rfl XT
theorem E42:Enters Tryz.prog 42:=enters Tryz.func42 rfl XT
theorem E76:Enters Tryz.prog 76:=enters Tryz.func76 rfl XT
theorem E77:Enters Tryz.prog 77:=enters Tryz.func77 rfl XT
end TKParts16
open TKParts16
set_option maxRecDepth 10000
theorem St.far {w:World} {B sb mb:Nat} {u:Value} {n:Int} {ml:List (Int×Nat)} {fr:List Int} (h:St w B sb mb u n ml fr) {k:Int} {hb:Nat} (hm:(k,hb)∈ml) {b:Nat} (sF:b=sb\/b=mb\/b=hb\/u.ownBlock=some b):B<=b:=by
 obtain⟨h1,h2,h3⟩:=h.bs;rcases sF with rfl|rfl|rfl|h4
 ·exact h1
 ·exact h2
 ·exact h3 _ hm
 ·exact(h.r.o.base _ h4).1
theorem ab1 {hb:Nat}:((1:Int),hb)∈[((1:Int),hb)]:=bK ..
abbrev Ky:Qy:= .mk 1 ([116],[97]) [] []
abbrev XQ:Qy:= .mk 4 ([],[]) [] [Ky]
abbrev EP:Qy:= .mk 3 ([],[]) [] [Ky,XQ]
theorem HZ (d:Nat) (h:d<=6):jK Ky d=0:=wJ.2 ⟨h,by
 show kM 1 ([116],[97]) [] 0=0;unfold kM;rw[if_neg q0,if_neg q0,if_neg (by simp),if_neg XT,if_pos rfl,if_pos w97],λx hx=>by cases hx⟩
theorem LQ:jK EP 1=0:=wJ.2 ⟨by decide,by show kM 3 ([],[]) [] 2=0;decide,λx hx=>by
 rcases cU.1 hx with h|h
 ·rw[h];exact HZ 2 XT
 ·rw[cO.1 h];exact wJ.2 ⟨by decide,by show kM 4 ([],[]) [] 1=0;decide,λx hx=>by rw[cO.1 hx];exact HZ 3 XT⟩⟩
theorem Wl (fs:List Fd):∃s,fG fs EP=some s:=by
 show∃s,fG fs (.mk 3 ([],[]) [] [Ky,.mk 4 ([],[]) [] [Ky]])=some s;rw[TD,Oa]
 cases fG fs Ky with
 |none=>exact⟨_,rfl⟩
 |some x=>exact⟨_,rfl⟩
theorem BC {a:List Bool} {i:Nat} {b:Bool} (h:a[i]? =some b):qF (a.take (i+1))=qF (a.take i)+(if b=true then 1 else 0):=by
 unfold qF;rw[bQ,h,cH,fp,bU]
 cases b<;>rfl
theorem TE {a:List Bool} {i:Nat} {b:Bool} {s:Int} (h:a[i]? =some b):(!ja a ((i:Int),s))=b:=by
 unfold ja;dsimp only;rw[decide_eq_true (by omega:(0:Int)<=(i:Int)),aq,h]
 cases b<;>simp
theorem ER {L:List En} {a:List Bool} {f:En->Option Int} (hf:∀e,∃s,f e=some s) (ha:a.length=L.length):∀i,i<=L.length->((gD f 0 (L.take i)).filter λx=> !ja a x).length=qF (a.take i)
 |0,_=>rfl
 |i+1,hi=>by
  obtain⟨e,he⟩:∃e,L[i]? =some e:=⟨_,an q0⟩;obtain⟨b,hb⟩:∃b,a[i]? =some b:=⟨_,an q0⟩;obtain⟨s,hs⟩:=hf e;rw[o5 he,x9 hs,fp,bU,ER hf ha i q0,BC hb,List.filter_cons,TE hb]
  cases b<;>rfl
theorem TF {L:List En} {a:List Bool} {f:En->Option Int} (hf:∀e,∃s,f e=some s) (ha:a.length=L.length) {i:Nat} {e:En} (h:L[i]? =some e) (hb:a[i]? =some true):∃s,((gD f 0 L).filter λx=> !ja a x)[qF (a.take i)]? =some ((i:Int),s):=by
 obtain⟨s,hs⟩:=hf e;have hi:=(al.1 h).1;have h1:=ER hf ha i q0;refine ⟨s,?_⟩;rw[N8 L (i+1),o5 h,x9 hs,mZ,fp,List.getElem?_append_right q0,h1,Nat.sub_self,fp,List.filter_cons,TE hb,if_pos rfl];rfl
theorem TG {L:List En} {a:List Bool} {f:En->Option Int} (hf:∀e,∃s,f e=some s) (ha:a.length=L.length):((gD f 0 L).filter λx=> !ja a x).length=qF a:=by
 have h:=ER hf ha L.length (aX _);rw[bg (aX _),bg q0]at h;exact h
theorem LR {xs:List Int} (h:∀x∈xs,Ba x) (d:Int):Ba (rX xs d):=by
 unfold rX
 split
 ·rename_i hd
  obtain⟨x,hx⟩:∃x,xs[d.toNat]? =some x:=⟨_,an q0⟩;rw[bY,hx];exact h x (ax hx)
 ·exact⟨by decide,by decide⟩
theorem TH {M:aE} {w:World} {L:List En} {v:Value} (h:(RT.en.sl).V M w L v) {e:En} (he:e∈L):Ba e.1.1/\Ba e.2:=by
 obtain⟨a,cap,_,_,_,hs⟩:=iX.1 h;obtain⟨i,hi⟩:=bG.1 he;rcases hs with h0|⟨b,o,_,_,C7⟩
 ·subst h0;cases he
 ·obtain⟨vs,hv,_⟩:=C7 i e hi;obtain⟨va,vb,_,⟨vc,vd,_,⟨_,h1⟩,_⟩,⟨_,h2⟩⟩:=hv;exact⟨h1,h2⟩
theorem TL {L:List En} (fN:vW (-1) L=true) {es:List Er} {upto:Int} {w:World} {os ow:Nat} {ws:List Nat} (h:gZ 128 205 (uM (gQ L)).1.length ws allM w os ow) (hb:∀j,bit ws j=rE (uM (gQ L)).1.length (uM (gQ L)) ((keysOf L).map (pk L)) upto es j):qC ar w (L.map (eY es upto)) os:=by
 have hn:(uM (gQ L)).1.length=L.length:=by show(List.map _ _).length=_;rw[bT]
 have ha:(L.map (eY es upto)).length=(uM (gQ L)).1.length:=by rw[hn,bT]
 refine ⟨ws,⟨ow,⟨trivial,trivial,h.ne,by rw[ha];exact h.s,h.w,by rw[ha];exact h.len,h.ok,by rw[ha];exact h.nn⟩,λh=>h,λh=>h⟩,λj=> ?_⟩;rw[hb,cD];rcases cL j L.length with hj|hj
 ·obtain⟨x,hx⟩:∃x,L[j]? =some x:=⟨_,an hj⟩;rw[hn,NK fN es upto hx,hx];simp
 ·rw[dr hj];constructor
  ·intro h;have:=Lv h;omega
  ·intro h;cases h
theorem ES (w0:World):
  Spec Tryz.prog 31 #[] w0 (λv w=>v= .bool true/\Step allM w0 allM w ar):=by
 refine aS (args:=[]) (fn:=Tryz.f31) Tryz.func31 G (n:=66) Tryz.ntmps31 ?_;have S:Step allM w0 allM w0 ar:=(aV).dF a15 (λ_ _=>trivial);refine T.aO (Rg.aZ G G (T.aO ?_));refine aJ G G E11 (Mu _) (λr w1 hc=>?_);obtain⟨b1,rfl,s1⟩:=hc;have:=S.size;replace S:=S.av s1;refine ab G G (b9 G G G (b9 G G G (aB G G (Rg.aZ G G (T.aO ?_)))));refine aJ G G E23 (CO _) (λr w2 hc=>?_);obtain⟨sb,mb,rfl,hs,s2⟩:=hc;have hB:=S.size;have:=S.size;replace S:=S.av s2;refine Rg.aZ G G (aI (T.aO (ab G G (Rg.sU jx G G G (ab G G (Rg.qO (g:=17) G ((by simp)) (ah G G (ab G G (ah G G ?_)))))))));refine Rg.sU Tryz.underlying55 G G G (aD G G G (ad (yK G ((by simp)) (aR (T.aO (ab G G (ab G G ?_)))))));refine aJ G G E24 (FQ _ hs q0) (λr5 w5 hc=>?_);obtain⟨hb,rfl,hs5,h5,_,s5⟩:=hc;replace S:=S.trans s5 (λb sF h=>by have:=hs.bs;rcases h with rfl|rfl<;>omega);refine Rg.aZ G G (T.aO (ab G G (ab G G ?_)));refine aJ G G E76 (MB _ hs5 ((jU _ _ _).2 (.inl G)) h5 q0) (λr6 w6 hc=>?_);obtain⟨rfl,hs6,h6,s6⟩:=hc;replace S:=S.trans s6 (λb sF h=>by have:=hs5.far ((jU _ _ _).2 (.inl rfl)) (b:=b) af3;omega);refine Rg.aZ G G (T.aO (ab G G (ab G G ?_)));refine aJ G G E42 (My _ hs6 ((jU _ _ _).2 (.inl G)) h6 q0 q0) (λr7 w7 hc=>?_);obtain⟨rfl,hs7,h7,s7⟩:=hc;replace S:=S.trans s7 (λb sF h=>by have:=hs6.far ((jU _ _ _).2 (.inl rfl)) (b:=b) af3;omega);refine ab G G (b9 G G G (b9 G G G (aB G G (Rg.aZ G G (T.aO (ab G G (ab G G ?_)))))))
 refine aJ G G E42 (MA _ hs7 ((jU _ _ _).2 (.inl G)) h7 q0 q0) (λr8 w8 hc=>?_);obtain⟨rfl,⟨u8,hs8⟩,s8⟩:=hc;replace S:=S.trans s8 (λb sF h=>by have:=hs7.far ((jU _ _ _).2 (.inl rfl)) (b:=b) af3;omega);refine ab G G (b9 G G G (b9 G G G (aB G G (Rg.aZ G G (T.aO (ab G G (gN G G G (ab G G (Rg.E8 (g:=41) G (XT) ?_)))))))));refine ah G G (ab G G (ah G G (gN G G G (a8 G G G (ab G G (Rg.E8 (g:=45) G (XT) (ah G G (ab G G (ah G G (gM G G (aY (v':= .bool true) G ?_)))))))))));refine a8 G G G (ab G G (ah G G (ab G G (ah G G (gN G G G (a8 G G G (ab G G (Rg.E8 (g:=53) G (XT) (ah G G (ab G G (aY (v':= .bool true) G ?_)))))))))));refine a8 G G G (ab G G (ah G G (ab G G (ah G G (gN G G G (a8 G G G (ab G G (Rg.E8 (g:=60) G (XT) (ah G G (ab G G (ah G G ?_)))))))))));refine aJ G G E77 (IK _ hs8) (λr9 w9 hc=>?_);obtain⟨⟨a9,c9,rfl⟩,s9⟩:=hc;have:=S.size;replace S:=S.av s9;refine ah G G (Rg.tV ao G G (ah G G (gN G G G (a8 G G G (Rg.aZ G G (aM ?_))))));exact aP rfl rfl ⟨by simp,S⟩
theorem ET {l:List Dc} {er:List Er} {v0 v1:Value} {upto:Int} (w0:World) (hv:(RT.dc.sl).V ar w0 l v0) (nu:(RT.er.sl).V ar w0 er v1) (tab:∃e fr,w0.heap[1]? =some (.cells (E2.map fun(k:Nat)=>Value.int .u8 (k:Int)).toArray e fr)):
  Spec Tryz.prog 7 #[v0,v1,.int .i64 upto] w0 (λv w=>v= .bool true/\Step allM w0 allM w ar):=by
 have hgl:=l8 l 0 3 4;obtain⟨fN,_⟩:=Hq l (show(0:Int)<=0 by decide) (show(1:Int)<=3 by decide) 4;obtain⟨NY,NZ,Dw⟩:=tab;have zD:(er.take (min er.length 5)).length<=5:=by rw[bF];omega
 have TW:((eK l 0 3 4).map (eY (er.take (min er.length 5)) upto)).length=(eK l 0 3 4).length:=bT _;have Uc:∀e:En,∃s,fG e.1.2 EP=some s:=λe=>Wl e.1.2
 have ahX:∀x∈(eK l 0 3 4),(∀f∈x.1.2,f.1.length<=900000/\f.2.length<=900000)/\x.1.2.length<=1000000:=λx hx=>⟨uz x hx,by have:=(kK fN x hx).few;omega⟩
 have jA:=TG (f:=λe:En=>fG e.1.2 EP) (λe=>Uc e) TW
 have Cn:(((gD (λe=>fG e.1.2 EP) 0 (eK l 0 3 4)).filter λx=> !ja ((eK l 0 3 4).map (eY (er.take (min er.length 5)) upto)) x).map (HX (eK l 0 3 4))).length<=4:=by
  rw[bT,jA];exact ep (fI _ _) (by rw[TW];omega)
 replace hv:=hv.le (Kp.start (B:=w0.heap.size) (aX _));replace nu:=nu.le (Kp.start (B:=w0.heap.size) (aX _));refine aS (args:=[_,_,_]) (fn:=Tryz.f7) Tryz.func7 G (n:=145) Tryz.ntmps7 ?_;have S:Step allM w0 allM w0 ar:=(aV).dF a15 (λ_ _=>trivial);refine T.aO (Rg.aZ G G (T.aO ?_));refine aJ G G E23 (CO _) (λr w1 hc=>?_);obtain⟨sb,mb,rfl,hs,s1⟩:=hc;replace hv:=hv.le (jS s1);replace nu:=nu.le (jS s1);have:=S.size;replace S:=S.av s1;refine Rg.aZ G G (T.aO (ab G G ?_));have hQ:Lt (λb=>b=sb\/b=mb) w1:=λb h=>(by rcases h with rfl|rfl<;>first|exact ae hs.s|exact hs.r.m.lt)
 refine aJ G G E10 (Jc (most:=4) (a:=0) (s:=3) _ hQ (hv.le (Le.sub λb h=>by have:=hs.bs;exact .inr ⟨by rcases h with rfl|rfl<;>omega,hQ b h⟩)) XT XT XT) (λr2 w2 hc=>?_);obtain⟨hg0,s2⟩:=hc;replace hQ:=hQ.step s2;replace s2:=s2.all;replace hv:=hv.le (jS s2);replace nu:=nu.le (jS s2);replace hs:=hs.bD s2;have:=S.size;replace S:=S.av s2;refine Rg.aZ G G (T.aO (ab G G ?_));refine aJ G G E11 (J7 _ hQ hg0 uz q0 fN) (λr3 w3 hc=>?_);obtain⟨sx,rfl,uQ,s3⟩:=hc;obtain⟨xa,rfl⟩:=uQ.lx;have ahZ:=hQ.step s3;have hg1:=hg0.le s3.le;replace s3:=s3.all;obtain⟨B0,hB0⟩:∃B,B=w3.heap.size:=⟨_,rfl⟩;have hx:=uQ.le XT (Kp.start (B:=B0) (Nat.le_of_eq hB0.symm));have hg:=hg1.le (Kp.start (B:=B0) (Nat.le_of_eq hB0.symm))
 have ab2:=(nu.le (jS s3)).le (Le.sub (Q':=Kp (λb=>b=sb\/b=mb) B0 w3) λb h=>by
  have:=hs.bs;have:=S.size;rcases h with h|⟨_,h⟩
  ·exact .inr ⟨by rcases h with rfl|rfl<;>omega,ahZ b h⟩
  ·exact .inr ⟨by omega,h⟩)
 clear hg1 hg0 hQ ahZ uQ;replace hv:=hv.le (jS s3);replace nu:=nu.le (jS s3);replace hs:=hs.bD s3;have:=S.size;replace S:=S.av s3;refine ab G G (b9 G G G (b9 G G G (aB G G (Rg.aZ G G (aI (T.aO (ab G G (Rg.sU Tryz.underlying55 G G G (ab G G ?_)))))))));refine Rg.qO (g:=31) G ((by simp)) (ah G G (ab G G (ah G G (Rg.sU jx G G G (aD G G G (ad (yK G ((by simp)) (aR (T.aO (ab G G ?_))))))))));refine ab G G ?_;have az9:=dW ab2;refine bB oy G ab2 G (Rg.min2 G G G (aY (v':= .int .i64 ((min er.length 5:Nat):Int)) (congrArg _ q0) ?_));refine Rg.Dy (A:=RT.er) (hn:=by decide) (M:=Kp (λb=>b=sb\/b=mb) B0 w3) oy Hw G G G ab2 q0 (λu64 sI=>?_);rw[aq]at sI;refine Rg.aZ G G (T.aO (ab G G (ab G G ?_)));refine aJ G G E24 (FQ _ hs q0) (λr5 w5 hc=>?_);obtain⟨hb,rfl,hs5,h5,zb,s5⟩:=hc;have hB:=S.size;have hq5:∀b,(b=sb\/b=mb)->(b=sb\/b=mb)\/B0<=b:=λb h=> .inl h
 replace S:=S.trans s5 (λb sF h=>by have:=hs.bs;rcases h with rfl|rfl<;>omega);replace hx:=hx.le XT (Kp.le s5 hq5);replace hg:=hg.le (Kp.le s5 hq5);replace sI:=sI.le (Kp.le s5 hq5);replace hs:St w5 w0.heap.size sb mb (.slice none 0 0) 1 [((1:Int),hb)] []:=hs5;have gh:w5.heap[hb]? =some (.cells #[.int .i64 (1),.pointer (some xa)] 139 (0,0)):=h5;have zb:B0<=hb:=by omega
 have zc:w0.heap.size<=B0:=by omega
 clear hs5 h5 hq5;refine Rg.aZ G G (T.aO (ab G G (ab G G ?_)));have hQ3:Lt (λb=>b=sb\/b=mb\/b=hb) w5:=λb h=>(by rcases h with rfl|rfl|rfl<;>first|exact ae hs.s|exact hs.r.m.lt|exact ae gh)
 refine fm (A:=RT.int .i64) (hn:=by decide) (M:=(λb=>b=sb\/b=mb\/b=hb)) ao I3 XT G G hQ3 (iG XT) (.inr ⟨G,G⟩) (λu82 w82 hl8 Wm=>?_);have hQ4:=hQ3.step Wm;replace Wm:=Wm.all;replace hs:=hs.bD Wm;replace hx:=hx.le XT (jS Wm);replace hg:=hg.le (jS Wm);replace sI:=sI.le (jS Wm);have:=S.size;replace S:=S.av Wm;refine ab G G ?_;have zw:∀b,(λb=>b=sb\/b=mb\/b=hb) b->Kp (λb=>b=sb\/b=mb) B0 w82 b:=λb h=>ai6
 refine aJ G G E26 (Ob (M:=(λb=>b=sb\/b=mb\/b=hb)) _ hQ4 (sI.le (Le.sub zw)) q0) (λr84 w84 hc=>?_);obtain⟨he8,T5⟩:=hc;replace hl8:=hl8.le T5.le;replace hQ4:=hQ4.step T5;replace T5:=T5.all;replace gh:=Wm.ay gh;replace gh:=T5.ay gh;clear zw;replace hs:=hs.bD T5;replace hx:=hx.le XT (jS T5);replace hg:=hg.le (jS T5);replace sI:=sI.le (jS T5);have:=S.size;replace S:=S.av T5;refine ab G G ?_;have zw:∀b,(λb=>b=sb\/b=mb\/b=hb) b->Kp (λb=>b=sb\/b=mb) B0 w84 b:=λb h=>ai6
 refine aJ G G E25 (JY (k:=1) (upto:=upto) (ls:=(keysOf (eK l 0 3 4)).map (pk (eK l 0 3 4))) _ hs ab1 gh q0 (hx.le XT (Le.sub zw)) hl8 (nH _) (abZ _) (ab0 _) (by show(List.map _ _).length<=_;rw[bT];omega) he8 q0 (λe _=>Oc fN q0 _)) (λr8 wS hc=>?_);obtain⟨p,rfl,⟨pv,ps,gp,ho,yo⟩,zp,_,_,sS⟩:=hc;have hqS:∀b,b=hb->(b=sb\/b=mb)\/B0<=b:=λb h=> .inr (by subst h;exact zb)
 have hxn:=(hx.le XT (Kp.le sS hqS)).le XT Le.none;have hgn:=(hg.le (Kp.le sS hqS)).le Le.none;have hen:=(sI.le (Kp.le sS hqS)).le Le.none;replace S:=S.trans sS (λb sF h=>by subst h;omega);clear hs gh hx hg sI zw hqS hl8 he8 hQ3 hQ4;rcases yo with⟨h,_⟩|⟨_,os,ow,ws,rfl,_,_,hsA,qB⟩
 ·exact absurd h XT
 have dz:=TL fN hsA qB;have km:(RT.prt.sl).V ar wS [(1,.pointer (some xa),.pointer (some ⟨os,0,none⟩))] pv:=ho.sl Le.none (λ_ _ h=>h) (by simp);have hx:=hxn;have hg:=hgn;have sI:=hen;clear hxn hgn hen ho hsA qB;refine ab G G (b9 G G G (b9 G G G (aB G G (Rg.aZ G G (aI (T.aO (ab G G (Rg.sU Tryz.underlying58 G G G (ab G G ?_)))))))));refine Rg.qO (g:=55) G ((by simp)) (ah G G (ab G G (ah G G (eR G G G (aD G G G (ad (yK G ((by simp)) (aR (T.aO (ab G G ?_))))))))));refine ab G G (ab G G ?_);refine aJ G G E27 (Hy (M:=ar) _ (λb h=>h.elim) hg sI ahX q0 q0) (λr11 UB hc=>?_);obtain⟨lC,pC⟩:=hc;replace pC:=pC.all;replace hx:=hx.le XT (pC.any ar).le;replace hg:=hg.le (pC.any ar).le;replace sI:=sI.le (pC.any ar).le;replace km:=km.le (pC.any ar).le;replace dz:=dz.le (pC.any ar).le;replace gp:=pC.ay gp;have:=S.size;replace S:=S.av pC;refine Rg.aZ rfl rfl (T.aO (dp (places:=[(0,1),(1,1)]) bR nE B24 rfl ⟨_,_,rfl,rfl,_,_,rfl,rfl,rfl⟩ (out:=[_,_]) ⟨0,[_],rfl,rfl,by simp[Value.cells],1,[_],rfl,rfl,by simp[Value.cells],rfl⟩ (dp (places:=[(0,1),(1,2),(3,1),(4,1)]) aU jH V9 rfl ⟨_,_,rfl,rfl,_,_,rfl,rfl,rfl⟩ (out:=[.int .i64 1,.string ⟨#[116]⟩,.string ⟨#[97]⟩,.slice none 0 0,.slice none 0 0]) ⟨0,[_],rfl,rfl,by simp[Value.cells],1,[_,_],rfl,rfl,by simp[Value.cells],rfl⟩ ?_)));refine jR (A:=RT.qy 2) (M:=ar) (IQ jH _) (by rw[HF];rfl) (eD _) rfl rfl rfl (n4 (n4 (abk (M:=ar) (w:=UB) (k:=1) (t:=([116],[97])) (ws:=[]) ⟨by decide,by decide⟩ ⟨by decide,by decide⟩ gC))) b4 (λb h=>h.elim) (λu15 aAc yT EU _=>?_);replace EU:=EU.all;replace hx:=hx.le XT (EU.any ar).le;replace hg:=hg.le (EU.any ar).le
 replace km:=km.le (EU.any ar).le;replace dz:=dz.le (EU.any ar).le;replace gp:=EU.ay gp;replace lC:=lC.le (EU.any ar).le;have:=S.size;replace S:=S.av EU
 skip
 refine ad (T.aO ?_);refine bZ (A:=RT.qy 2) aU G (IQ jH _) (bS _) (eD _) G G yT b4 (λv130 ah0=>?_);refine fm (A:=RT.qy 2) (hn:=bS _) (M:=ar) dh (IQ jH _) (by rw[HF];decide) rfl rfl (λb h=>h.elim) ah0 (.inl (eD _)) (λaqp aAd XR Cp=>?_);replace Cp:=Cp.all;replace hx:=hx.le XT (Cp.any ar).le;replace hg:=hg.le (Cp.any ar).le;replace km:=km.le (Cp.any ar).le;replace dz:=dz.le (Cp.any ar).le;replace gp:=Cp.ay gp;replace lC:=lC.le (Cp.any ar).le;replace yT:=yT.le (bS _) (Cp.any ar).le;have:=S.size;replace S:=S.av Cp;refine dp (places:=[(0,1),(1,2),(3,1),(4,1)]) aU jH V9 rfl ⟨_,_,rfl,rfl,_,_,rfl,rfl,rfl⟩ (out:=[.int .i64 4,.string ⟨#[]⟩,.string ⟨#[]⟩,.slice none 0 0,aqp]) ⟨0,[_],rfl,rfl,by simp[Value.cells],4,[_],rfl,iF XR,by simp[Value.cells],rfl⟩ ?_;have ah1:=HG (n:=2) (k:=4) (t:=([],[])) (ws:=[]) ⟨by decide,by decide⟩ ⟨by decide,by decide⟩ (gC (M:=ar) (w:=_)) XR;refine jR (A:=RT.qy 3) (M:=ar) (IQ jH _) (by rw[HF];rfl) (eD _) rfl rfl rfl ah1 b4 (λb h=>h.elim) (λu16 aAe Bf Cq _=>?_);replace Cq:=Cq.all;replace hx:=hx.le XT (Cq.any ar).le;replace hg:=hg.le (Cq.any ar).le;replace km:=km.le (Cq.any ar).le;replace dz:=dz.le (Cq.any ar).le;replace gp:=Cq.ay gp;replace lC:=lC.le (Cq.any ar).le;replace yT:=yT.le (bS _) (Cq.any ar).le;have:=S.size;replace S:=S.av Cq
 skip
 refine ad (T.aO (ab G G ?_));refine bZ (A:=RT.qy 2) aU G (IQ jH _) (bS _) (eD _) G G yT b4 (λv141 ah2=>?_);refine bZ (A:=RT.qy 3) aU G (IQ jH _) (bS _) (eD _) G G Bf b4 (λaAf ah3=>?_);refine Rg.Ub (A:=RT.qy 3) (hn:=bS _) (nn:=2) (M:=ar) (xs:=[Ky,XQ]) dh (IQ jH _) (by rw[HF];rfl) (by rw[HF];decide) rfl ⟨_,_,_,rfl,rfl,rfl,n4 ah2,_,_,_,rfl,rfl,rfl,ah3,rfl⟩ rfl (λb h=>h.elim) (.inl (eD _)) XT (λaqq ahg XS rI=>?_);replace rI:=rI.all;replace hx:=hx.le XT (rI.any ar).le;replace hg:=hg.le (rI.any ar).le;replace km:=km.le (rI.any ar).le;replace dz:=dz.le (rI.any ar).le;replace gp:=rI.ay gp;replace lC:=lC.le (rI.any ar).le;replace yT:=yT.le (bS _) (rI.any ar).le;replace Bf:=Bf.le (bS _) (rI.any ar).le;have:=S.size;replace S:=S.av rI;refine dp (places:=[(0,1),(1,2),(3,1),(4,1)]) aU jH V9 rfl ⟨_,_,rfl,rfl,_,_,rfl,rfl,rfl⟩ (out:=[.int .i64 3,.string ⟨#[]⟩,.string ⟨#[]⟩,.slice none 0 0,aqq]) ⟨0,[_],rfl,rfl,by simp[Value.cells],4,[_],rfl,iF XS,by simp[Value.cells],rfl⟩ ?_;have ah4:=HG (n:=3) (k:=3) (t:=([],[])) (ws:=[]) ⟨by decide,by decide⟩ ⟨by decide,by decide⟩ (gC (M:=ar) (w:=_)) XS;refine aJ G G E28 (N5 (M:=ar) (n:=3) (L:=(eK l 0 3 4)) (a:=((eK l 0 3 4).map (eY (er.take (min er.length 5)) upto))) (q:=EP) _ (λb h=>h.elim) (λh=>h) ⟨NY,NZ,S.ay Dw⟩ gp km dz hx fN q0 ah4 (LO _ _ LQ) LQ (LR λx hx=>by obtain⟨e,he,rfl⟩:=cu.1 hx;exact(TH hg he).1) (LR λx hx=>by obtain⟨e,he,rfl⟩:=cu.1 hx;exact(TH hg he).2)) (λaAg aAh hc=>?_);obtain⟨r14,rfl,rL,iO⟩:=hc;replace iO:=iO.all;replace hx:=hx.le XT (iO.any ar).le;replace hg:=hg.le (iO.any ar).le;replace km:=km.le (iO.any ar).le
 replace dz:=dz.le (iO.any ar).le;replace gp:=iO.ay gp;replace lC:=lC.le (iO.any ar).le;replace yT:=yT.le (bS _) (iO.any ar).le;replace Bf:=Bf.le (bS _) (iO.any ar).le;have:=S.size;replace S:=S.av iO;refine ab G G (b9 G G G (b9 G G G (aB G G (Rg.aZ G G (T.aO (Rg.aZ G G (aI (aI ?_))))))));refine aN (Rg.aZ G G (aT ?_));refine cR (σ:=Nat) (λi=>[(8,r2),(12,.pointer (some ⟨p,0,none⟩)),(14,r11),(17,r14),(18,.int .i64 0),(19,.int .i64 ((qF (((eK l 0 3 4).map (eY (er.take (min er.length 5)) upto)).take i)):Int)),(20,.int .i64 (i:Int))]) (λi w=>(RT.en.sl).V ar w (eK l 0 3 4) r2/\(RT.bool.sl).V ar w ((eK l 0 3 4).map (eY (er.take (min er.length 5)) upto)) r11/\(RT.rk.sl).V ar w (((gD (λe=>fG e.1.2 EP) 0 (eK l 0 3 4)).filter λx=> !ja ((eK l 0 3 4).map (eY (er.take (min er.length 5)) upto)) x).map (HX (eK l 0 3 4))) r14/\w.heap[p]? =some (.cells #[.int .i64 1,.pointer (some ⟨sb,0,none⟩),pv,.int .i64 upto] 143 (0,0))/\(RT.prt.sl).V ar w [(1,.pointer (some xa),.pointer (some ⟨os,0,none⟩))] pv/\qC ar w ((eK l 0 3 4).map (eY (er.take (min er.length 5)) upto)) os/\i<=(eK l 0 3 4).length/\Step allM w0 allM w ar) (λi=>(eK l 0 3 4).length-i) 0 a81 ?_ ?_
 ·exact⟨hg,lC,rL,gp,km,dz,bm _,S⟩
 ·clear S hg lC rL gp km dz;rintro i w ⟨hg,lC,rL,gp,km,dz,hi,S⟩;refine aI (T.aO (ab G G (ab G G (bB ef G hg G (ck G G G (ad ?_))))));refine bI G (λc17=>?_) (λc17=>?_)
  ·refine aR (aI (aT (aI (T.aO (ab G G (ab G G ?_))))));obtain⟨e,nk⟩:∃e,(eK l 0 3 4)[i]? =some e:=⟨_,an q0⟩;have hab:((eK l 0 3 4).map (eY (er.take (min er.length 5)) upto))[i]? =some (eY (er.take (min er.length 5)) upto e):=by rw[cD,nk,dq]
   refine cx (A:=RT.bool) (M:=ar) Tryz.underlying40 I4 rfl rfl rfl lC b4 (by rw[TW];omega) (λaAj x_ fV ah5=>?_);rw[aq]at fV;obtain rfl:=aF (hab.symm.trans fV);refine bM qM G G G G G ah5 b4 (λvb On=>?_);obtain rfl:=XZ.1 On;refine gM rfl rfl (aY (v':= .bool (decide (eY (er.take (min er.length 5)) upto e=false))) (by cases eY (er.take (min er.length 5)) upto e<;>rfl) (ad ?_));refine bI G (λYZ=>?_) (λYZ=>?_)
   ·have jj:(qF (((eK l 0 3 4).map (eY (er.take (min er.length 5)) upto)).take (i+1)))=(qF (((eK l 0 3 4).map (eY (er.take (min er.length 5)) upto)).take i)):=by rw[BC hab,if_neg (by rw[YZ];simp)];rfl
    refine cE (aN (ab G G (br G G G q0 (Rg.aZ G G ?_))));refine⟨G,i+1,(.cons G (.cons G (.cons G (.cons G (.cons G (.cons (congrArg (λz=>some (Value.int .i64 z)) (by rw[jj];first|done|rfl)) (.cons rfl .nil))))))),?_,?_⟩
    ·exact⟨hg,lC,rL,gp,km,dz,by omega,S⟩
    ·omega
   ·have hlv:eY (er.take (min er.length 5)) upto e=true:=by cases hq:eY (er.take (min er.length 5)) upto e with|true=>rfl|false=>exact absurd hq YZ
    have jj:(qF (((eK l 0 3 4).map (eY (er.take (min er.length 5)) upto)).take (i+1)))=(qF (((eK l 0 3 4).map (eY (er.take (min er.length 5)) upto)).take i))+1:=by rw[BC hab,if_pos hlv]
    obtain⟨sc,C7⟩:=TF (f:=λe:En=>fG e.1.2 EP) (λe=>Uc e) TW nk (by rw[hab,hlv])
    replace C7:(((gD (λe=>fG e.1.2 EP) 0 (eK l 0 3 4)).filter λx=> !ja ((eK l 0 3 4).map (eY (er.take (min er.length 5)) upto)) x).map (HX (eK l 0 3 4)))[(qF (((eK l 0 3 4).map (eY (er.take (min er.length 5)) upto)).take i))]? =some (e.1.1,sc,e.2):=by
     rw[cD,C7,dq];show some (rX _ (i:Int),sc,rX _ (i:Int))=_;rw[Ep (x:=e.1.1) (by rw[cD,nk];rfl),Ep (x:=e.2) (by rw[cD,nk];rfl)]
    have aAk:=(al.1 C7).1;have hem:=ax nk;have F9:=(LN fN e hem).2;refine aR (aI (T.aO (ab G G (ab G G (bB (A:=RT.rk) Tryz.underlying65 G rL G (eh G G G (aY (v':= .bool false) (congrArg Value.bool (decide_eq_false q0)) (ad (gy G (aR ?_))))))))));refine aI (aI ?_);apply T.Ww 31 mixed rfl rfl rfl rfl rfl;intro aAl aqr;have Kz:=aqr allM;replace hg:=hg.le (Kz.any ar).le;replace lC:=lC.le (Kz.any ar).le;replace rL:=rL.le (Kz.any ar).le;replace gp:=Kz.ay gp;replace km:=km.le (Kz.any ar).le;replace dz:=dz.le (Kz.any ar).le;have:=S.size;replace S:=S.av Kz;refine ab G G (Rg.cI (ab G G (Rg.cI ?_)));refine cx (A:=RT.rk) (hn:=by decide) (M:=ar) Tryz.underlying65 I69 G G G rL b4 q0 (λaAm x_ fV ah6=>?_);rw[aq]at fV;obtain rfl:=aF (C7.symm.trans fV);refine Rg.cI ?_;refine au (A:=RT.rk) (B:=RT.int .i64) Tryz.underlying69 G G I3 XT rk0 G G XT ah6 b4 (λaAn ah7=>?_);refine Rg.cI ?_;refine bV aj G G ah7 b4 (λah8=>?_);refine aY (v':= .int .i64 e.1.1) G (Rg.cI (ab G G (Rg.cI (ab G G (Rg.cI ?_)))));refine cx (A:=RT.en) (M:=ar) ef CM G G G hg b4 q0 (λaAo x_ fV ah9=>?_);rw[aq]at fV;obtain rfl:=aF (nk.symm.trans fV);refine Rg.cI ?_;refine au (A:=RT.en) (B:=RT.dc) de G G nr XT WO G G XT ah9 b4 (λaAp aia=>?_);refine Rg.cI ?_;refine au (A:=RT.dc) (B:=RT.int .i64) bh G G I3 XT dc0 G G XT aia b4 (λaAq aib=>?_);refine Rg.cI ?_;refine bV aj G G aib b4 (λaic=>?_);refine aY (v':= .int .i64 e.1.1) G (Rg.cI (eR G G G (aY (v':= .bool false) (by simp) (Rg.cI (ab G G (Rg.cI (ah G G (ab G G (Rg.cI (ah G G (ab G G ?_)))))))))))
    refine Rg.cI (ah G G ?_);refine cx (A:=RT.rk) (hn:=by decide) (M:=ar) Tryz.underlying65 I69 G G G rL b4 q0 (λatZ x_ fV ab3=>?_);rw[aq]at fV;obtain rfl:=aF (C7.symm.trans fV);refine Rg.cI (ah G G ?_);refine au (A:=RT.rk) (B:=RT.int .i64) Tryz.underlying69 G G I3 XT rk2 G G XT ab3 b4 (λat0 ab4=>?_);refine Rg.cI (ah G G ?_);refine bV aj G G ab4 b4 (λacS=>?_);refine aY (v':= .int .i64 e.2) G (Rg.cI (ah G G (ab G G (Rg.cI (ah G G (ab G G (Rg.cI (ah G G ?_))))))));refine cx (A:=RT.en) (M:=ar) ef CM G G G hg b4 q0 (λat1 x_ fV ab5=>?_);rw[aq]at fV;obtain rfl:=aF (nk.symm.trans fV);refine Rg.cI (ah G G ?_);refine au (A:=RT.en) (B:=RT.int .i64) de G G I3 XT Zl G G XT ab5 b4 (λat2 ab6=>?_);refine Rg.cI (ah G G ?_);refine bV aj G G ab6 b4 (λacT=>?_);refine aY (v':= .int .i64 e.2) G (Rg.cI (ah G G (eR G G G (aY (v':= .bool false) (by simp) (Rg.cI (aD G G G (Rg.cI (ab G G (Rg.cI (ah G G (ab G G ?_)))))))))));refine Rg.cI (ah G G (ab G G (Rg.cI (ah G G ?_))));refine cx (A:=RT.en) (M:=ar) ef CM G G G hg b4 q0 (λat3 x_ fV ab7=>?_);rw[aq]at fV;obtain rfl:=aF (nk.symm.trans fV);refine Rg.cI (ah G G ?_);refine au (A:=RT.en) (B:=RT.dc) de G G nr XT WO G G XT ab7 b4 (λat4 ab8=>?_);refine Rg.cI (ah G G ?_);refine bZ (A:=RT.dc) bh G nr XT G G G ab8 b4 (λat5 ab9=>?_)
    refine Rg.cI (fB (ah G G ?_));refine aJ G G E29 (xC (M:=ar) _ (λb h=>h.elim) ab9 (λf hf=>uz e hem f hf)) (λat6 at7 hc=>?_);obtain⟨rfl,wM⟩:=hc;replace wM:=wM.all;refine aY (v':= .int .i64 0) (by rw[F9]) ?_;replace hg:=hg.le (wM.any ar).le;replace lC:=lC.le (wM.any ar).le;replace rL:=rL.le (wM.any ar).le;replace gp:=wM.ay gp;replace km:=km.le (wM.any ar).le;replace dz:=dz.le (wM.any ar).le;have:=S.size;replace S:=S.av wM;refine ah G G (eR G G G (aY (v':= .bool false) (by simp) (aD G G G (ad (gy G (aR (aN (ab G G (br G G G q0 (Rg.aZ G G ?_))))))))));refine aN (ab G G (br G G G q0 (Rg.aZ G G ?_)));refine⟨G,i+1,(.cons G (.cons G (.cons G (.cons G (.cons G (.cons (congrArg (λz=>some (Value.int .i64 z)) (by rw[jj];first|done|rfl)) (.cons rfl .nil))))))),?_,?_⟩
    ·exact⟨hg,lC,rL,gp,km,dz,by omega,S⟩
    ·omega
  ·refine cE (T.aO (ab rfl rfl (ab rfl rfl (bB (A:=RT.rk) Tryz.underlying65 rfl rL rfl (gN rfl rfl rfl (aY (v':= .bool true) (congrArg Value.bool (decide_eq_true (by rw[bT,jA,bg (l:=((eK l 0 3 4).map (eY (er.take (min er.length 5)) upto))) q0]))) (ab G G (ah G G (ab G G (ah G G ?_))))))))));refine aJ G G E30 (N7 (M:=ar) _ (λb h=>h.elim) gp km dz q0) (λaAr aAs hc=>?_);obtain⟨rfl,EV⟩:=hc;replace EV:=EV.all;replace hg:=hg.le (EV.any ar).le;replace lC:=lC.le (EV.any ar).le;replace rL:=rL.le (EV.any ar).le;replace gp:=EV.ay gp;replace km:=km.le (EV.any ar).le;replace dz:=dz.le (EV.any ar).le;have:=S.size;replace S:=S.av EV;refine ah rfl rfl (ab rfl rfl (ah rfl rfl (gN rfl rfl rfl (aY (v':= .bool true) (congrArg Value.bool (decide_eq_true (by rw[bg (l:=((eK l 0 3 4).map (eY (er.take (min er.length 5)) upto))) q0]))) (a8 G G G (ab G G (ah G G (ab G G (ah G G (gN G G G (aY (v':= .bool true) (congrArg Value.bool (decide_eq_true (G))) ?_)))))))))));refine a8 G G G (ab G G (ah G G ?_));refine aJ G G E31 (ES _) (λaua aub hc=>?_);obtain⟨rfl,BD⟩:=hc;replace hg:=hg.le (BD.any ar).le;replace lC:=lC.le (BD.any ar).le;replace rL:=rL.le (BD.any ar).le;replace gp:=BD.ay gp;replace km:=km.le (BD.any ar).le;replace dz:=dz.le (BD.any ar).le;have:=S.size;replace S:=S.av BD;refine a8 G G G (Rg.aZ G G (aM ?_));exact aP G G ⟨G,S⟩
theorem BE {M:aE} {l:List Dc} {er:List Er} {v0 v1:Value} {upto:Int} {w0:World} (hM:Lt M w0) (hv:(RT.dc.sl).V M w0 l v0) (nu:(RT.er.sl).V M w0 er v1) (hx: -9223372036854775808<=upto/\upto<=9223372036854775807) (h0: ¬M 1) (tab:∃e fr,w0.heap[1]? =some (.cells (E2.map fun(k:Nat)=>Value.int .u8 (k:Int)).toArray e fr)):Spec Tryz.prog 7 #[v0,v1,.int .i64 upto] w0 (λv w=>v= .bool true/\Step M w0 M w ar):=
 (ET w0 (hv.le Le.none) (nu.le Le.none) tab).mono λv w ⟨h1,h2⟩=>⟨h1,h2.any M⟩
end Go.K

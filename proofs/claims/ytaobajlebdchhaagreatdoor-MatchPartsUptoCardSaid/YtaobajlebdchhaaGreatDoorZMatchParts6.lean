/- What the law 'MatchParts' needs of walks and plain Lean, part 6: nothing is assumed beyond the texts that it imports. -/
import Derived.KernelRfl
import Derived.Test.YtaobajlebdchhaaGreatDoorProg
import Derived.Test.YtaobajlebdchhaaGreatDoorZMatchParts1
import Derived.Test.YtaobajlebdchhaaGreatDoorZMatchParts2
import Derived.Test.YtaobajlebdchhaaGreatDoorZMatchParts3
import Derived.Test.YtaobajlebdchhaaGreatDoorZMatchParts4
import Derived.Test.YtaobajlebdchhaaGreatDoorZMatchParts5
set_option linter.unusedVariables false
set_option linter.unusedSimpArgs false
namespace Go.K
open Go.Proofs
namespace TKMNot
theorem MH:TI Tryz.prog 36 (.slice none 0 0) 1 24:=by unfold TI;kernel_rfl
theorem fE:TI Tryz.prog 45 (.agg #[(.int .i64 0),(.int .i64 0)]) 2 16:=by unfold TI;kernel_rfl
theorem qU:placesOf Tryz.prog 45=[(0,1),(1,1)].map some:=by kernel_rfl
theorem Zl:Enters Tryz.prog 102:=enters Tryz.func102 rfl q0
theorem adB:Enters Tryz.prog 118:=enters Tryz.func118 rfl q0
theorem adC:Enters Tryz.prog 119:=enters Tryz.func119 rfl q0
theorem amg:Enters Tryz.prog 168:=enters Tryz.func168 rfl q0
theorem amh:Enters Tryz.prog 226:=enters Tryz.func226 rfl q0
end TKMNot
open TKMNot
set_option maxRecDepth 10000
structure BZ (M:aP) (w0:World) (n:Nat) (ws:List Nat) (bs bw bl bo D:Nat) (st:Obj) (vo:Value) (xs:List Fo) (M1:aP) (w:World):Prop where
 lt:Lt M1 w
 S:Step M w0 M1 w aH
 mo:M1 bo
 md:M1 D
 mr:M1 (D+1)
 m0: ¬M1 1
 set:jY 128 205 n ws M1 w bs bw
 hl:w.heap[bl]? =some (.cells #[.pointer (some ⟨bs,0,none⟩)] 49 (0,0))
 o:w.heap[bo]? =some (.cells #[vo] 36 (0,0))
 d:w.heap[D]? =some (.deferred (some []))
 r:w.heap[D+1]? =some st
 tab:∃e fr,w.heap[1]? =some (.cells (Hl.map fun(k:Nat)=>Value.int .u8 (k:Int)).toArray e fr)
 ne:(bo<D/\bl<D/\bs<D/\bw<D)/\(bo≠bl/\bo≠bs/\bo≠bw)/\(w0.heap.size<=bo/\w0.heap.size<=D)
 hk:Own RT.fo 45 M1 w (D+2) vo xs
section
variable {M M1 M2 N:aP} {w0 w w':World} {n:Nat} {ws:List Nat} {bs bw bl bo D:Nat} {st st':Obj} {vo:Value} {xs:List Fo}
theorem BZ.step (h:BZ M w0 n ws bs bw bl bo D st vo xs M1 w) (s:Step M1 w M2 w' aH):BZ M w0 n ws bs bw bl bo D st vo xs M2 w':=by
 have mm:=λ{b:Nat} (hm:M1 b)=>(s.mem b (h.lt b hm)).2 hm
 obtain⟨e,fr,ht⟩:=h.tab;exact⟨s.lt h.lt,h.S.ar s,mm h.mo,mm h.md,mm h.mr,λh0=>h.m0 ((s.mem 1 (ah ht)).1 h0),h.set.step s (λh=>h) (λh=>h),s.aF h.hl,s.aF h.o,s.aF h.d,s.aF h.r,⟨e,fr,s.aF ht⟩,h.ne,h.hk.br s⟩
theorem BZ.qG (h:BZ M w0 n ws bs bw bl bo D st vo xs M1 w):BZ M w0 n ws bs bw bl bo D st' vo xs M1 (w.putObj (D+1) st'):=by
 obtain⟨⟨e1,e2,e3,e4⟩,⟨e5,e6,e7⟩,e8,e9⟩:=h.ne;have s:Step M1 w M1 (w.putObj (D+1) st') (λk=>k=D+1):=gE h.mr;obtain⟨e,fr,ht⟩:=h.tab;exact⟨s.lt h.lt,h.S.cE s (λb hb=>by omega),h.mo,h.md,h.mr,h.m0,h.set.step s hV hV,s.bY h.hl hV,s.bY h.o hV,s.bY h.d hV,World.putObj_heap_same (ah h.r),⟨e,fr,s.bY ht hV⟩,h.ne,h.hk.step s (λk qx hh=>by have:=(h.hk.base k qx).1;omega)⟩
theorem BZ.grow {Zm:Value} {xs':List Fo} (h:BZ M w0 n ws bs bw bl bo D st vo xs M1 w) (s:Step M1 w M2 w' (λk=>vo.ownBlock=some k)) (hk:Own RT.fo 45 M2 w' (D+2) Zm xs'):
  (w'.heap[bo]? =some (.cells #[vo] 36 (0,0))/\M2 bo)/\∀{w2:World},Step M2 w' M2 w2 (λk=>k=bo)->w2.heap[bo]? =some (.cells #[Zm] 36 (0,0))->BZ M w0 n ws bs bw bl bo D st Zm xs' M2 w2:=by
 obtain⟨⟨e1,e2,e3,e4⟩,⟨e5,e6,e7⟩,e8,e9⟩:=h.ne;have hn:∀k,vo.ownBlock=some k->D+2<=k:=λk hk=>(h.hk.base k hk).1
 have mm:=λ{b:Nat} (hm:M1 b)=>(s.mem b (h.lt b hm)).2 hm
 obtain⟨e,fr,ht⟩:=h.tab;have h0:bo≠1:=λe=>h.m0 (e▸h.mo)
 refine ⟨⟨s.bY h.o (λhh=>by have:=hn _ hh;omega),mm h.mo⟩,λ{w2} s2 hx=> ?_⟩;have S':=h.S.cE s (λk hk=>by have:=hn k hk;omega)
 exact⟨s2.lt (s.lt h.lt),S'.cE s2 (λk hk=>by subst hk;exact e8),mm h.mo,mm h.md,mm h.mr,λh0=>h.m0 ((s.mem 1 (ah ht)).1 h0),(h.set.step s (λhh=>by have:=hn _ hh;omega) (λhh=>by have:=hn _ hh;omega)).step s2 (λhh=>e6 hh.symm) (λhh=>e7 hh.symm),s2.bY (s.bY h.hl (λhh=>by have:=hn _ hh;omega)) (λhh=>e5 hh.symm),hx,s2.bY (s.bY h.d (λhh=>by have:=hn _ hh;omega)) hV,s2.bY (s.bY h.r (λhh=>by have:=hn _ hh;omega)) hV,⟨e,fr,s2.bY (s.bY ht (λhh=>by have:=hn _ hh;omega)) (λhh=>h0 hh.symm)⟩,h.ne,
  hk.step s2 (λk qx hh=>by have:=(hk.base k qx).1;omega)⟩
end
set_option maxHeartbeats 2000000 in
theorem Uj {M:aP} {w0:World} {va:Value} {a:List Fo} {n:Nat} (hM:Lt M w0) (kS:((RT.fo).sl).V M w0 a va) (hn:n<=1099511627776) (jq: ¬M 1) (tab:∃e fr,w0.heap[1]? =some (.cells (Hl.map fun(k:Nat)=>Value.int .u8 (k:Int)).toArray e fr)):
  Spec Tryz.prog 107 #[va,.int .i64 n] w0 (λv' w'=>∃M',Lt M' w'∧Step M w0 M' w' aH/\Own RT.fo 45 M' w' w0.heap.size v' (pK a n)):=by
 have hlen:=dJ kS;obtain⟨et,ft,tab⟩:=tab;have h0w:=ah tab;refine uI (args:=[_,_]) (fn:=Tryz.f107) Tryz.func107 G (n:=32) Tryz.ntmps107 (T.aU (Rg.a8 G G (T.aU (ab G G ?_))));refine aV G G adB (LI (M:=M) hn) (λr1 w1 h=>?_);obtain⟨bs,bw,ws0,M0,rfl,z1,z2,s1,h1,xi⟩:=h;have eD:=s1.lt hM;have t1:=s1.aF tab;refine Rg.a8 G G (aQ (T.aU (ab G G (bR an G kS G (ab G G (ad (bp ?_)))))));refine dz (σ:=Nat) (λs=>[(0,va),(1,.int .i64 n),(5,.pointer (some ⟨bs,0,none⟩)),(12,va),(13,.int .i64 a.length),(14,.int .i64 s)]) (λs w=>s<=a.length/\∃ws M1,Lt M1 w/\Step M w0 M1 w aH/\jY 128 205 n ws M1 w bs bw/\(∀j:Nat,bit ws j=(decide (j<n)&& !dY (a.take s) (j:Int)))/\¬M1 1/\w.heap[1]? =some (.cells (Hl.map fun(k:Nat)=>Value.int .u8 (k:Int)).toArray et ft)) (λs=>a.length-s) 0 a04 ?_ ?_
 ·exact⟨bA _,ws0,M0,eD,s1,h1,λj=>by rw[xi j];simp[dY],λh0=>jq ((s1.mem 1 h0w).1 h0),t1⟩
 ·rintro k wk ⟨hk,ws,M1,ael,SA,hs,A4,Y7,ht⟩;refine T.aU (cH G G G (ad (aQ ?_)));refine bH G (λc3=>?_) (λc3=>?_)
  ·refine aM (aQ (bp (T.aU ?_)));obtain⟨⟨d,s⟩,hx⟩:∃x,a[k]? =some x:=⟨_,aq hV⟩;refine cD an fE G G G (kS.le SA.le) ck a14 (λK2 H8 Aw sV=>?_);obtain rfl:(d,s)=H8:=cY (aG (Aw.symm.trans (by rw[av];exact hx)));refine cq (A:=RT.fo) bm G fE q0 G G G sV ck (λv4 qS=>?_);refine nI (A:=RT.fo) (M:=M1) fE G G G G G VR (by repeat (first|exact bB _ _|refine aW (bC VR) ?_)) a65 (λSD WQ mZ pP acq=>?_);refine ad (ay (ab G G ?_));refine aw (M:=M1) (A:=RT.fo) (B:=RT.int .i64) bm G G I3 q0 (Sk) G G q0 VR (by repeat (first|exact bB _ _|refine aW (bC VR) ?_)) (λabI Jz=>?_);refine bX al G G Jz ck (λhdr=>?_);refine aZ (v':= .int .i64 d) G ?_;have hs5:=hs.step pP (λh=>h) (λh=>h);have Zi:=pP.lt ael;refine aV rfl rfl adC (Qh (i:=d) hs5 (λj hj=>by rw[A4 j,cC]at hj;exact of_decide_eq_true hj.1)) (λr6 w6 h=>?_);obtain⟨yO,hs6,sF,s6⟩:=h;refine ad (ay (aX G G G hV (ab G G (ad ?_))));refine⟨G,k+1,a04,?_,?_⟩
   ·refine⟨by omega,yO,M1,s6.lt Zi,(SA.ar pP).cE s6 (λb hb=>by omega),hs6,λj=>?_,Y7,s6.bY (pP.aF ht) hV⟩;rw[sF j,A4 j,KI hx]
    cases dY (a.take k) (j:Int)<;>simp[eq_comm]
   ·show _-(k+1)<_-k;omega
  ·refine de (T.aU ?_);obtain rfl:k=a.length:=by omega
   refine eu M1 MH G (λbo w7 z7 z7' g7 s7=>?_);change w7.heap[bo]? =some (.cells #[.slice none 0 0] _ _)at g7;have hM7:=s7.lt ael;have S7:=SA.ar s7;have hs7:=hs.step s7 (λh=>h) (λh=>h);have y7:=SA.size;have lbs:=ah hs.s;have lbw:=ah hs.w;refine ad (aQ (T.aU (ab G G ?_)));refine aV G G amg (LG (M:=ins M1 bo) (bs:=bs) hM7) (λr8 w8 h=>?_);obtain⟨bl,rfl,gl,z8,s8⟩:=h;have hM8:=s8.lt hM7;have S8:=S7.ar s8;have hs8:=hs7.step s8 (λh=>h) (λh=>h);have g8:=s8.aF g7;have xl:=ah gl;have y8:=s8.size;have t8:=s8.aF (s7.aF ht)
   have m80: ¬ins M1 bo 1:=by
    rintro(h|h)
    ·omega
    ·exact Y7 h
   refine ad (bp ?_);rw[List.take_length]at A4;have aem:∀j,bit ws j=true->j<n:=λj hj=>by rw[A4 j,cC]at hj;exact of_decide_eq_true hj.1
   refine T.range (gf:=226) (lb:= #[.pointer (some ⟨bl,0,none⟩)]) G amh (λrec uG=>?_);obtain⟨D,hD⟩:∃D,D=w8.heap.size:=⟨_,rfl⟩;rw[<-hD]at uG ⊢;obtain⟨Mb,yF⟩:∃Mb,Mb=ins M1 bo:=⟨_,rfl⟩;have mo:Mb bo:=by rw[yF];exact .inl G
   rw[<-yF]at hM8 S8 hs8 m80;have sA:Step Mb w8 (ins Mb w8.heap.size) (w8.alloc (.deferred (some []))) aH:=(ef _ w8 _).own (aK _) (by simp);have sB:Step (ins Mb w8.heap.size) (w8.alloc (.deferred (some []))) (ins (ins Mb w8.heap.size) (w8.heap.size+1)) ((w8.alloc (.deferred (some []))).alloc (.loop (rec .ready none))) aH:=(ef _ _ _).own (by simp) (by simp);have sC:=sA.ar sB;have hDd:(w8.alloc (.deferred (some []))).heap[w8.heap.size]? =some (.deferred (some [])):=dC w8 _;have hR:((w8.alloc (.deferred (some []))).alloc (.loop (rec .ready none))).heap[w8.heap.size+1]? =some (.loop (rec .ready none)):=by have:=dC (w8.alloc (.deferred (some []))) (.loop (rec .ready none));rwa [World.size_alloc]at this
   refine Spec.mono (Iw (M:=ins (ins Mb w8.heap.size) (w8.heap.size+1)) (n:=n) (ws:=ws) (bs:=bs) (bw:=bw) (J:=(λp M1 w=>∃vo,BZ M w0 n ws bs bw bl bo D (.loop (rec .ready none)) vo (pK a p) M1 w/\p<=n)) (Jx:=λ_=>False) aem (λp M1 w ⟨vo,h,_⟩=>⟨h.hl,h.set,h.tab⟩) (λp j M1 wr hJ hpj Ix ka=>?_) ⟨.slice none 0 0,?_,bA _⟩) (λ_ w4 h4=>?_)
   rotate_left
   ·rw[hD]
    exact⟨sC.lt hM8,S8.ar sC,.inr (.inr mo),.inr (.inl G),.inl G,by
     rintro(h|h|h)
     ·omega
     ·omega
     ·exact m80 h,hs8.step sC (λh=>h) (λh=>h),sC.aF gl,sC.aF g8,sB.aF hDd,hR,⟨_,_,sC.aF t8⟩,by omega,ep _ _ _ _ _⟩
   rotate_left
   ·obtain⟨vo,h,TR⟩:=hJ;refine rR (ps:=[25]) (vs:=[.int .i64 j]) uG h.r G q0 (ay (Rg.a8 G G (⟨G,h.r,?_⟩)));have h1:=h.qG (st':= .loop (rec .busy none));generalize wr.putObj (D+1) _=wB at h1 ⊢;refine bp (ay (aR an G G G h1.o G (aZ (v':=vo) G (ab G G ?_))));have hjn:j<n:=by have:=aem _ Ix;exact this
    have Us:=h1.set.nn;refine cx (places:=[(0,1),(1,1)]) bm fE qU rfl ⟨_,_,rfl,rfl,rfl⟩ (out:=[_,.int .i64 0]) ⟨0,[_],rfl,rfl,by simp[Value.cells],rfl⟩ ?_;refine dT (A:=RT.fo) (hn:=by decide) (M:=M1) an fE q0 G G h1.lt (kX (a:=(j:Int)) (b:=0) hV hV) (.inl G) (λu6 w6 uU s6=>?_);have h6:=h1.step s6;have lM:=uN a p;refine cI (M:=M1) (base:=D+2) an fE rfl rfl rfl rfl (h6.hk) uU ck a06 a06 (by have:=ah h6.r;omega) (λv7 M3 w7 uw s7=>?_);obtain⟨⟨go7,mo7⟩,Wc⟩:=h6.grow s7 uw;refine cA (M:=M3) MH rfl rfl go7 rfl (by obtain⟨_,_,he,_⟩:=uw.isSlice;rw[he];rfl) mo7 (λw8 go8 s8=>?_);have h8:=Wc s8 go8;refine ad ?_;have h9:=h8.qG (st':= .loop (rec .ready none));refine⟨h8.r,true,G,(λ_=>⟨M3,v7,?_,by omega⟩),λh=>by(cases h)⟩
    have aen:pK a j=pK a p:=xg j hpj (λt h1 h2=>by
     have h3:=ka t h1 h2;rw[A4 t,decide_eq_true (show t<n by omega),dF]at h3;simpa using h3)
    have hfj:dY a (j:Int)=false:=by
     have:=A4 j;rw[Ix,decide_eq_true hjn,dF]at this;simpa using this.symm
    rw[mA,aen,hfj];exact h9
   ·obtain⟨p,Mz,⟨vo,h,TR⟩,kL⟩:=h4.resolve_right (λh=>h);left;have h5:=h.qG (st':= .loop (rec .exhausted none))
    have k7:pK a n=pK a p:=xg n TR (λt h1 h2=>by
     have h3:=kL t h1;rw[A4 t,decide_eq_true h2,dF]at h3;simpa using h3)
    refine ⟨h.r,?_⟩;generalize w4.putObj (D+1) _=wE at h5 ⊢;have lM:=uN a p;refine T.aU (aR an G G G h5.o G (aZ (v':=vo) G (Rg.a8 G G (aS ?_))));obtain⟨⟨e1,e2,e3,e4⟩,e5,e8,e9⟩:=h5.ne;have sZ:Step Mz wE Mz (wE.putObj D (.deferred none)) (λk=>k=D):=gE h5.md;have SZ:=h5.S.cE sZ (λk hk=>by subst hk;exact e9);rw[k7];exact Hh G G h5.d ⟨_,SZ.lt hM,SZ,(h5.hk.step sZ (λk hk hh=>by have:=(h5.hk.base k hk).1;omega)).jv hV⟩
theorem Zn {M:aP} {w0:World} {va vb:Value} {a b:List Fo} (hM:Lt M w0) (kS:((RT.fo).sl).V M w0 a va) (tb:((RT.fo).sl).V M w0 b vb) (oa:qR a) (ob:qR b) (hl:a.length+b.length<=1099511627776):
  Spec Tryz.prog 109 #[va,vb] w0 (λv' w'=>∃M',Lt M' w'∧Step M w0 M' w' aH/\Own RT.fo 45 M' w' w0.heap.size v' (BB 1 a b)):=by
 refine bD (args:=[_,_]) (fn:=Tryz.f109) Tryz.func109 G (n:=8) Tryz.ntmps109 (T.aU (Rg.a8 G G (T.aU (ab G G (ab G G ?_)))));refine aV G G Zl (Ke hM kS tb oa ob hl) (λr1 w1 h=>?_);obtain⟨M1,h1,s1,ho⟩:=h;refine Rg.a8 G G (aS ?_);exact aT G G ⟨M1,h1,s1,ho⟩
end Go.K
namespace Go.K
open Go.Proofs
namespace TKQMay
theorem AP:TI Tryz.prog 26 (.slice none 0 0) 1 24:=by unfold TI;kernel_rfl
theorem gx:TI Tryz.prog 28 (.agg #[(.int .i64 0),(.string ⟨#[]⟩),(.string ⟨#[]⟩),(.slice none 0 0),(.slice none 0 0)]) 5 88:=by unfold TI;kernel_rfl
theorem ami:TI Tryz.prog 123 .nilFunc 1 8:=by unfold TI;kernel_rfl
theorem amj:TI Tryz.prog 264 .nilFunc 1 8:=by unfold TI;kernel_rfl
theorem D0:TI Tryz.prog 267 (.agg #[(.string ⟨#[]⟩),.nilFunc,.nilFunc,.nilFunc]) 4 40:=by unfold TI;kernel_rfl
theorem aeo:Enters Tryz.prog 104:=enters Tryz.func104 rfl q0
theorem amk:Enters Tryz.prog 161:=enters Tryz.func161 rfl q0
theorem YN:Enters Tryz.prog 162:=enters Tryz.func162 rfl q0
end TKQMay
open TKQMay
set_option maxRecDepth 10000
theorem od (q:Qy) (deep:Nat):iv q deep=if 6<deep then 8 else if¬km q.kind q.term q.words q.kids.length=0 then km q.kind q.term q.words q.kids.length else vU q.kids (deep+1):=by
 obtain⟨k,t,ws,ks⟩:=q;rw[iv];rfl
theorem I0 {ks:List Qy} {deep i:Nat} {x:Qy} (h:ks[i]? =some x) (iR:∀(j:Nat) y,j<i->ks[j]? =some y->iv y deep=0) (hx: ¬iv x deep=0):vU ks deep=iv x deep:=by
 induction ks generalizing i with
 |nil=>simp at h
 |cons y ks ih=>
  rw[vU]
  cases i with
  |zero=>simp at h;subst h;rw[if_pos hx]
  |succ i=>
   rw[if_neg (λh'=>h' (iR 0 y hV rfl))];exact ih a84 λj z hj hz=>iR (j+1) z hV (by simpa using hz)
theorem Me {ks:List Qy} {deep:Nat} (iR:∀(j:Nat) y,ks[j]? =some y->iv y deep=0):vU ks deep=0:=AM.2 λq hq=>by
 obtain⟨j,hj⟩:=bQ.1 hq;exact iR j q hj
theorem Uk (k:Int) (t:Fd) (ws:List (List UInt8)) (n:Nat):0<=km k t ws n/\km k t ws n<=9:=by
 unfold km
 repeat' split
 all_goals omega
theorem CW {M:aP} {n:Nat} {q:Qy} {v:Value} {deep:Nat} (w0:World) (hM:Lt M w0) (hv:(RT.qy (n+1)).V M w0 q v) (hs:G3 q) (hd:deep<=1000) (ih:∀x∈q.kids,∀(deep:Nat) (M:aP) (w:World) (v:Value),Lt M w->(RT.qy n).V M w x v->deep<=7->Spec Tryz.prog 104 #[v,.int .i64 (deep:Int)] w (λv' w'=>v'= .int .i64 (iv x deep)/\Step M w M w' aH)):
  Spec Tryz.prog 104 #[v,.int .i64 (deep:Int)] w0 (λv w=>v= .int .i64 (iv q deep)/\Step M w0 M w aH):=by
 have jq:=hM;obtain⟨Uz,hsk⟩:=szQ.1 hs;have G4:=Uk q.kind q.term q.words q.kids.length;refine bD (args:=[_,_]) (fn:=Tryz.f104) Tryz.func104 G (n:=55) Tryz.ntmps104 ?_;have S:Step M w0 M w0 aH:=bg;refine T.aU ?_;refine fO (A:=RT.qy (n+1)) (a:=q) G G hM hv (ec _) (λu2 LQ ff k4 _=>?_);replace hv:=hv.le k4.le;replace hM:=k4.lt hM;have:=S.size;replace S:=S.ar k4;refine Rg.a8 G G (aQ ?_);have IW:=ff;have S0:=S;have yF:=hM;apply T.Vn (M:=M) [0,1,2,3,4,5,6,7,8,9] 8 6 17 (.bool (decide (1<=q.kind/\q.kind<=5))) [] [(cy.mk' (λv w=>∃mb es clock,v= .map (some mb)/\w.heap[mb]? =some (.map (es:List MapEntry).toArray clock)/\(∀(k:Int),∃o,Instr.findNow (.int .i64) (.int .i64 k) es 0=some o/\o.isSome=decide (1<=k/\k<=5)/\KV k ((o.map Prod.snd).getD (.agg #[.string ⟨#[]⟩,.nilFunc,.nilFunc,.nilFunc])) w)) (fun⟨mb,es,cl,h1,h2,h3⟩ s=>⟨mb,es,cl,h1,s.aF h2,λk=>by obtain⟨o,h4,h5,h6⟩:=h3 k;exact⟨o,h4,h5,h6.step s λ_ h=>h.elim⟩⟩)),cy.ptr (RT.int .i64) q.kind,cy.eq (.int .i64 q.kind),(cy.mk' (λv w=>∃u,v= .tuple #[u,.bool (decide (1<=q.kind/\q.kind<=5))]/\KV q.kind u w) (fun⟨u,h1,h2⟩ s=>⟨u,h1,h2.step s λ_ h=>h.elim⟩)),(cy.mk' (λv w=>∃u,v= .tuple #[u,.bool (decide (1<=q.kind/\q.kind<=5))]/\KV q.kind u w) (fun⟨u,h1,h2⟩ s=>⟨u,h1,h2.step s λ_ h=>h.elim⟩)),(cy.mk' (λv w=>KV q.kind v w) (λh s=>h.step s λ_ h=>h.elim)),cy.eq (.bool (decide (1<=q.kind/\q.kind<=5))),(cy.mk' (λv w=>∃bo,v= .pointer (some ⟨bo,0,none⟩)/\LQ.heap.size<=bo/\w.heap[bo]? =some (.cells #[.string ⟨#[]⟩,.nilFunc,.nilFunc,.nilFunc] 267 (0,0))) (fun⟨bo,h1,h2,h3⟩ s=>⟨bo,h1,h2,s.aF h3⟩))] [(4,11,λv=>∃u,v= .tuple #[u,.bool (decide (1<=q.kind/\q.kind<=5))])] mixed
 ·simp+decide only[B7,wY,fx,Bs,Bo,Bp,wI,fP,qO,List.idxOf_cons,cond_true,cond_false,Nat.reduceBEq,Nat.reduceAdd,beq_self_eq_true];rfl
 ·rfl
 ·rfl
 ·rfl
 ·rfl
 ·rfl
 ·rfl
 ·rfl
 ·rfl
 ·rfl
 ·rfl
 ·rfl
 ·intro ρ w h hg;obtain⟨u,hu⟩:=hg _ (cV.2 rfl);simp only[execOp,hu];simp[Instr.extract]
 ·intro g hg;rw[cV]at hg;subst hg;exact⟨_,_,rfl,rfl,show 4<8 by decide,show 4≠6 by decide,rfl,λv w ⟨u,h,_⟩=>⟨u,h⟩⟩
 ·exact a90
 ·exact a90
 ·exact sq.st (sh)
 intro wR1 NX;have sR1:=NX M;replace ff:=ff.le (aO _) sR1.le;replace hM:=sR1.lt hM;have:=S.size;replace S:=S.ar sR1;refine⟨?_,?_⟩
 ·refine aD ?_ ?_
  ·intro wD E sD;refine aV G G amk (ID _ (sD.lt hM)) (λr0 w0' hc=>?_);obtain⟨mb,es,cl,rfl,h1,h2,h3⟩:=hc;exact ad ⟨G,G,_,G,⟨mb,es,cl,G,h1,h2⟩,h3⟩
  refine aD ?_ ?_
  ·intro wD E sD;refine aw (M:=M) (A:=RT.qy (n+1)) (B:=RT.int .i64) ax G G I3 q0 (Su n) G G (aO _) ff sD.le (λuf vJ=>?_);exact a73
  refine aD ?_ ?_
  ·intro wD E sD;intro v1 sz;refine bX al G G (show dp (RT.int .i64) M wD v1 q.kind from sz) ck (λlY=>?_);exact VT
  refine aD ?_ ?_
  ·intro wD E sD;intro v0 sk;refine aA ?_;obtain⟨mb,es,cl,rfl,h1,h2⟩:=sk;obtain⟨o,h3,h4,h5⟩:=h2 q.kind;refine Rg.Sv tj al D0 G G G h1 h3 G ?_;exact ad ⟨rfl,rfl,_,rfl,⟨_,by rw[h4],h5⟩,bg⟩
  refine aD ?_ ?_
  ·intro wD E sD;intro v3 vm;refine ab G G ?_;exact ad ⟨G,G,_,G,vm,bg⟩
  refine aD ?_ ?_
  ·intro wD E sD;intro v4 qS;obtain⟨u,rfl,hK⟩:=qS;refine cP G G G ?_;exact ad ⟨G,G,_,G,hK,bg⟩
  refine aD ?_ ?_
  ·intro wD E sD;intro v4 qS;obtain⟨u,rfl,hK⟩:=qS;refine cP G G G ?_;exact VT
  refine aD ?_ ?_
  ·intro wD E sD;refine eu M D0 G (λbq wq e1 e2 e3 s=>?_);exact ad ⟨G,G,_,G,⟨bq,G,ch (ch sR1.size sD.size) e1,e3⟩,s.back⟩
  exact kI
 ·intro KU nc;intro avn apQ;intro zY nh;refine aA ?_;intro XI JO;intro avo apR;intro aml aeq;refine aA ?_;intro acG Py;obtain⟨bo,rfl,hbo,go⟩:=Py;have hK:KV q.kind aml KU:=aeq;obtain⟨ca,cb,cc,cd,rfl,h1,h2,h3,h4⟩:=hK.cells;have so:=(sR1.ar nc).own hbo (ah go);obtain⟨Mo,hMo⟩:∃Mo,Mo=ins M bo:=⟨_,rfl⟩;have mbo:Mo bo:=by rw[hMo];exact .inl G
  rw[<-hMo]at so;replace hM:=so.lt yF;replace ff:=IW.le (aO _) so.le;replace S:=S0.ar so;refine dm (M:=Mo) (vs:=[ca,cb,cc,cd]) D0 G G (by intro u hu;simp at hu;rcases hu with rfl|rfl|rfl|rfl<;>assumption) rfl rfl go mbo (λw8 g8 s8=>?_);have gh:=(s8.mem _ (ah go)).2 mbo;replace hK:=hK.step s8 (λb hb cs h=>by have hb:b=bo:=hb;rw[hb,go]at h;injection h with h;injection h with _ h;exact absurd h q0);replace S:=S.cE s8 (λb (hb:b=bo)=>by have:=k4.size;omega);replace hM:=s8.lt hM;replace ff:=ff.le (aO _) s8.le;refine ad ⟨G,G,λh=>absurd G h,aJ G G (ad ⟨G,G,λh=>absurd G h,tf (aQ (bp (T.aU (ab G G (fR G G G (Rg.a8 G G ?_))))))⟩)⟩;refine bH G (λc2=>?_) (λc2=>?_)
  ·refine T.aU (Rg.a8 G G (aS ?_));exact aT rfl rfl ⟨by rw[od q deep,if_pos hV],S.back⟩
  ·refine aQ ?_;by_cases xC: ¬(1<=q.kind/\q.kind<=5)
   ·apply T.sN (M:=Mo) mixed [] [cy.eq (.bool (decide (1<=q.kind/\q.kind<=5))),cy.eq (.bool (decide (¬(1<=q.kind/\q.kind<=5)))),cy.eq (.bool true),cy.eq undef,cy.eq undef,cy.eq undef,cy.eq undef,cy.eq undef] 8
    ·rfl
    ·rfl
    ·rfl
    ·rfl
    ·rfl
    ·exact a90
    ·exact sh
    ·refine aD ?_ ?_
     ·intro wD E sD;refine ab G G ?_;exact VT
     refine aD ?_ ?_
     ·intro wD E sD;refine aA (jd G G (aZ (v':= .bool (decide (¬(1<=q.kind/\q.kind<=5)))) (by rw[decide_not]) ?_));exact VT
     refine aD ?_ ?_
     ·intro wD E sD;refine aA (ab G G ?_);refine ad ⟨G,G,_,G,?_,bg⟩;exact congrArg Value.bool (decide_eq_true xC)
     refine aD ?_ ?_
     ·intro wD E sD;refine aA ?_;exact a13
     refine aD ?_ ?_
     ·intro wD E sD;refine aA ?_;exact a13
     refine aD ?_ ?_
     ·intro wD E sD;refine aA (aA ?_);exact a13
     refine aD ?_ ?_
     ·intro wD E sD;refine aA ?_;exact a13
     refine aD ?_ ?_
     ·intro wD E sD;refine aA (aA (aA (aA ?_)));exact a13
     exact kI
    ·intro wD4 rY;refine aA (aA (aA (aA (aA (aA (aA (aA ?_)))))));replace hM:=rY.lt hM;replace S:=S.ar rY;replace ff:=ff.le (aO _) rY.le;have:=ah g8;replace gh:=(rY.mem _ this).2 gh;replace g8:=rY.aF g8;replace hK:=hK.step rY a30;refine aj G G G G (aj G G G G (aN G G G (Rg.a8 G G (iz G (T.aU (Rg.a8 G G (aS ?_)))))))
     first
     |exact aT rfl rfl ⟨by rw[od q deep,if_neg hV,Kc xC];rfl,S.back⟩
     |exact aT rfl rfl ⟨by rw[od q deep,if_neg hV,Kb (k:=q.kind) (t:=q.term) (ws:=q.words) (cF.1 xC) (by obtain⟨_,_,_,_⟩:=q;exact c4)];rfl,S.back⟩
   ·obtain⟨bf,mf,cap,rfl,rfl,eb,em,hbf,hmf⟩:=hK.use (cF.1 xC) Uz;apply T.sN (M:=Mo) mixed [] [cy.eq (.bool (decide (1<=q.kind/\q.kind<=5))),cy.eq (.bool (decide (¬(1<=q.kind/\q.kind<=5)))),cy.eq (.bool false),cy.V (RT.qy (n+1)) q,cy.eq _,cy.eq (.func (.func bf) #[] #[]),cy.V (RT.qy (n+1)) q,cy.V (RT.qy (n+1)) (k8 q)] 8
    ·rfl
    ·rfl
    ·rfl
    ·rfl
    ·rfl
    ·exact a90
    ·exact sh
    ·refine aD ?_ ?_
     ·intro wD E sD;refine ab G G ?_;exact VT
     refine aD ?_ ?_
     ·intro wD E sD;refine aA (jd G G (aZ (v':= .bool (decide (¬(1<=q.kind/\q.kind<=5)))) (by rw[decide_not]) ?_));exact VT
     refine aD ?_ ?_
     ·intro wD E sD;refine aA (ab G G ?_);refine ad ⟨G,G,_,G,?_,bg⟩;exact congrArg Value.bool (decide_eq_false xC)
     refine aD ?_ ?_
     ·intro wD E sD;refine aA (ae G G ?_);refine cq (M:=Mo) (A:=RT.qy (n+1)) ax G (IQ gx _) (aO _) (ec _) G G ff sD.le (λva kS=>?_);exact ad ⟨G,G,_,G,kS,bg⟩
     refine aD ?_ ?_
     ·intro wD E sD;refine aA (ae G G (a7 tn G G amj q0 G G ?_));exact VT
     refine aD ?_ ?_
     ·intro wD E sD;refine aA (aA (ae G G (aR Tryz.underlying264 G G G (sD.aF g8) G ?_)));exact VT
     refine aD ?_ ?_
     ·intro wD E sD;refine aA (ae G G ?_);refine cq (M:=Mo) (A:=RT.qy (n+1)) ax G (IQ gx _) (aO _) (ec _) G G ff sD.le (λva kS=>?_);exact ad ⟨G,G,_,G,kS,bg⟩
     refine aD ?_ ?_
     ·intro wD E sD;refine aA ?_;intro v6 qE;refine aA (aA (ae G G ?_));refine wJ (first:=[]) (captured:=[]) (xs:=[.tmp 28]) G G G eb (hbf (sD.lt hM) qE) (λr7 w7 hc=>?_);exact ad ⟨G,G,_,G,hc.1,hc.2⟩
     exact kI
    ·intro wD4 rY;refine aA (aA (aA ?_));intro avq aer;refine aA (aA ?_);intro avr apU;intro avs aes;replace hM:=rY.lt hM;replace S:=S.ar rY;replace ff:=ff.le (aO _) rY.le;have:=ah g8;replace gh:=(rY.mem _ this).2 gh;replace g8:=rY.aF g8;replace hK:=hK.step rY a30;refine ae G G ?_;refine aV G G YN (AR (n+1) _ hM aer aes) (λr48 w48 hc=>?_);obtain⟨rfl,s48⟩:=hc;have:=ah g8;replace gh:=(s48.mem _ this).2 gh;replace g8:=s48.aF g8;replace ff:=ff.le (aO _) s48.le;replace hK:=hK.step s48 a30;replace hM:=s48.lt hM;have:=S.size;replace S:=S.ar s48;refine ae G G (jd G G (aZ (v':= .bool (decide (¬q=k8 q))) (by simp) (au G G G (Rg.a8 G G ?_))));refine bH G (λc4=>?_) (λc4=>?_)
     ·refine T.aU (Rg.a8 G G (aS ?_))
      first
      |exact aT rfl rfl ⟨by rw[od q deep,if_neg hV,Kc xC];rfl,S.back⟩
      |exact aT rfl rfl ⟨by rw[od q deep,if_neg hV,Kb (k:=q.kind) (t:=q.term) (ws:=q.words) (cF.1 xC) (by obtain⟨_,_,_,_⟩:=q;exact c4)];rfl,S.back⟩
     ·refine aM (aQ (T.aU (a7 tn G G ami q0 G G (aR Tryz.underlying123 G G G g8 G ?_))));refine cq (A:=RT.qy (n+1)) ax G (IQ gx _) (aO _) (ec _) G G ff ck (λv62 amm=>?_);refine wJ (first:=[]) (captured:=cap) (xs:=[.tmp 35]) G G G em (hmf hM amm hK (cF.1 c4)) (λr6 w6 hc=>?_);obtain⟨rfl,s6⟩:=hc;have:=ah g8;replace gh:=(s6.mem _ this).2 gh;replace g8:=s6.aF g8;replace ff:=ff.le (aO _) s6.le;replace hK:=hK.step s6 a30;replace hM:=s6.lt hM;have:=S.size;replace S:=S.ar s6;refine Rg.a8 G G (T.aU (ab G G (fG G G G (ad ?_))));refine bH G (λc7=>?_) (λc7=>?_)
      ·refine T.aU (ab G G (Rg.a8 G G (aS ?_)));exact aT rfl rfl ⟨by rw[od q deep,if_neg hV,if_pos c7],S.back⟩
      ·refine aM (aQ (T.aU ?_));refine aw (A:=RT.qy (n+1)) (B:=((RT.qy n).sl (aO n))) ax G G AP Nat.one_pos (NI n) G G (aO _) ff ck (λu90 Zo=>?_);refine bV cr G G G G G Zo ck (λv91 uj=>?_);have G1:=dJ uj;refine bR (A:=RT.qy n) (hn:=aO _) cr G uj G (ab G G (ad (bp ?_)));refine dz (σ:=Nat) (λi=>[(1,.int .i64 (deep:Int)),(2,u2),(41,v91),(42,.int .i64 (q.kids.length:Int)),(43,.int .i64 (i:Int))]) (λi w=>i<=q.kids.length/\(∀(j:Nat) y,j<i->q.kids[j]? =some y->iv y (deep+1)=0)/\∃M1,Lt M1 w/\Step M w0 M1 w aH/\((RT.qy n).sl (aO n)).V M1 w q.kids v91) (λi=>q.kids.length-i) 0 a74 ?_ ?_
       ·exact⟨bA _,λj y h=>absurd h (fp _),_,hM,S,uj⟩
       ·clear hM S uj ff hK g8 gh;rintro i w ⟨hi,iR,M1,hM,S,uj⟩;refine T.aU (cH G G G (ad (aQ ?_)));refine bH G (λWU=>?_) (λWU=>?_)
        ·refine aM (aQ (bp (T.aU ?_)));obtain⟨x,hx⟩:∃x,(q.kids)[i]? =some x:=⟨_,aq hV⟩;refine cD (A:=RT.qy n) (hn:=aO _) (M:=M1) cr (IQ gx _) G G G uj ck hV (λamn x_ ke Ra=>?_);rw[av]at ke;obtain rfl:=aG (hx.symm.trans ke);refine cq (A:=RT.qy (n)) ax G (IQ gx _) (aO _) (ec _) G G Ra ck (λaet kT=>?_);refine nI (A:=RT.qy n) (M:=M1) (IQ gx _) (by rw[tJ];rfl) (ec _) rfl rfl rfl kT ck hM (λavu avv Rb Zp _=>?_);replace uj:=uj.le Zp.le;replace hM:=Zp.lt hM;have:=S.size;replace S:=S.ar Zp;refine ad (T.aU ?_);refine cq (A:=RT.qy (n)) ax G (IQ gx _) (aO _) (ec _) G G Rb ck (λavw aeu=>?_);refine ab G G (aX G G G hV (aZ (v':= .int .i64 ((deep+1:Nat):Int)) (by congr 1) ?_));refine aV G G aeo (ih x (ao hx) (deep+1) _ _ _ hM aeu hV) (λr12 N6 hc=>?_);obtain⟨rfl,nV⟩:=hc;replace uj:=uj.le nV.le;replace Rb:=Rb.le (aO _) nV.le;replace hM:=nV.lt hM;have:=S.size;replace S:=S.ar nV;refine Rg.a8 G G (T.aU (ab G G (fG G G G (ad ?_))));refine bH G (λBI=>?_) (λBI=>?_)
         ·refine T.aU (ab G G (Rg.a8 G G (aS ?_)));exact aT rfl rfl ⟨by rw[od q deep,if_neg hV,if_neg c7,I0 hx iR BI],S.back⟩
         ·refine aM (ay (aX G G G hV (ab G G (ad ?_))));refine⟨G,i+1,a74,?_,?_⟩
          ·refine⟨by omega,λj y hj hy=>?_,_,hM,S,uj⟩;rcases cT j i with h|h
           ·exact iR j y h hy
           ·obtain rfl:j=i:=by omega
            rw[hx]at hy;cases hy;exact cF.1 BI
          ·omega
        ·refine de (T.aU (Rg.a8 G G (aS ?_)));exact aT rfl rfl ⟨by rw[od q deep,if_neg hV,if_neg c7,Me λj y hj=>iR j y (by have:=(ak.1 hj).1;omega) hj],S.back⟩
theorem CX {M:aP} {w:World} {q:Qy} {v:Value} (h:(RT.qy 0).V M w q v):q.kids=[]:=by
 obtain⟨vs,⟨_,_,_,_,_,_,_,_,_,_,_,_,hk,_⟩,_⟩:=h;exact hk
theorem A5:∀(n:Nat) {M:aP} {q:Qy} {v:Value} {deep:Nat} (w0:World) (hM:Lt M w0) (hv:(RT.qy n).V M w0 q v) (hs:G3 q) (hd:deep<=1000),Spec Tryz.prog 104 #[v,.int .i64 (deep:Int)] w0 (λv w=>v= .int .i64 (iv q deep)/\Step M w0 M w aH)
 |0,M,q,v,deep,w0,hM,hv,hs,hd=>CW (n:=0) w0 hM (mW hv) hs hd λx hx=>by rw[CX hv]at hx;cases hx
 |n+1,M,q,v,deep,w0,hM,hv,hs,hd=>CW w0 hM hv hs hd λx hx deep M w v hM hv hd=>A5 n w hM hv ((szQ.1 hs).2 x hx) hV
theorem Mf {M:aP} {n:Nat} {q:Qy} {v:Value} (w0:World) (hM:Lt M w0) (hv:(RT.qy (n+1)).V M w0 q v) (hs:G3 q):
  Spec Tryz.prog 55 #[v] w0 (λv w=>v= .int .i64 (iv q 1)/\Step M w0 M w aH):=by
 refine bD (args:=[_]) (fn:=Tryz.f55) Tryz.func55 G (n:=5) Tryz.ntmps55 ?_;have S:Step M w0 M w0 aH:=bg;refine T.aU ?_;refine fO (A:=RT.qy (n+1)) (a:=q) G G hM hv (ec _) (λu1 LQ my k4 _=>?_);replace hv:=hv.le k4.le;replace hM:=k4.lt hM;have:=S.size;replace S:=S.ar k4;refine Rg.a8 G G (T.aU ?_);refine cq (A:=RT.qy (n+1)) ax G (IQ gx _) (aO _) (ec _) G G my ck (λv10 tY=>?_);refine aV G G aeo (A5 (n+1) (deep:=1) _ hM tY hs q0) (λr1 w1 hc=>?_);obtain⟨rfl,s1⟩:=hc;replace my:=my.le (aO _) s1.le;replace hM:=s1.lt hM;have:=S.size;replace S:=S.ar s1;refine Rg.a8 G G (aS ?_);exact aT G G ⟨G,S⟩
end Go.K
namespace Go.K
open Go.Proofs
namespace TKMFits
theorem AP:TI Tryz.prog 26 (.slice none 0 0) 1 24:=by unfold TI;kernel_rfl
theorem gx:TI Tryz.prog 28 (.agg #[(.int .i64 0),(.string ⟨#[]⟩),(.string ⟨#[]⟩),(.slice none 0 0),(.slice none 0 0)]) 5 88:=by unfold TI;kernel_rfl
theorem E53:Enters Tryz.prog 53:=enters Tryz.func53 rfl q0
theorem E56:Enters Tryz.prog 56:=enters Tryz.func56 rfl q0
theorem amp:Enters Tryz.prog 105:=enters Tryz.func105 rfl q0
theorem amq:Enters Tryz.prog 106:=enters Tryz.func106 rfl q0
theorem amr:Enters Tryz.prog 107:=enters Tryz.func107 rfl q0
theorem adA:Enters Tryz.prog 108:=enters Tryz.func108 rfl q0
theorem ams:Enters Tryz.prog 109:=enters Tryz.func109 rfl q0
end TKMFits
open TKMFits
set_option maxRecDepth 10000
theorem qf (fs:List Fd) (q:Qy):fJ fs q=if q.kind=1 then yG (jO (ej fs q.term.1) q.term.2).length else if q.kind=5 then yG (xG (ej fs q.term.1) q.words)else if q.kind=2 then(if(q.kids.map (fJ fs)).all Option.isSome=true then some (qL (q.kids.map (fJ fs)))else none)else if q.kind=3 then(if(q.kids.map (fJ fs)).any Option.isSome=true then some (qL (q.kids.map (fJ fs)))else none)else(if(q.kids.map (fJ fs)).any Option.isSome=true then none else some 0):=by
 obtain⟨k,t,ws,ks⟩:=q;rw[fJ,AL];rfl
def qM (k:Int) (l:List (Option Int)):Option Int:=if k=2 then(if l.all Option.isSome=true then some (qL l)else none)else(if l.any Option.isSome=true then some (qL l)else none)
theorem Rc (o:Option Int):qL [o]=o.getD 0:=by unfold qL;simp
theorem A6 (k:Int) (o:Option Int):qM k [o]=o:=by
 unfold qM;rw[Rc]
 cases o<;>simp
theorem CY (l:List (Option Int)) (o:Option Int):qL (l++[o])=qL l+o.getD 0:=by
 unfold qL;rw[eH,List.sum_append];simp
theorem Mg {l:List (Option Int)} (h:l.any Option.isSome=false):qL l=0:=by
 unfold qL
 induction l with
 |nil=>rfl
 |cons o l ih=>
  rw[List.any_cons,Bool.or_eq_false_iff]at h;rw[fx,List.sum_cons,ih h.2]
  cases o with
  |none=>rfl
  |some x=>simp at h
theorem GH {k:Int} (hk:k=2) (l:List (Option Int)) (o:Option Int):qM k (l++[o])=l4 2 (qM k l) o:=by
 unfold qM l4 Qo;rw[if_pos hk,if_pos hk,CY,List.all_append]
 cases hl:l.all Option.isSome<;>cases o<;>simp
theorem Kg {k:Int} (hk: ¬k=2) (l:List (Option Int)) (o:Option Int):qM k (l++[o])=l4 1 (qM k l) o:=by
 unfold qM l4 orO;rw[if_neg hk,if_neg hk,CY,List.any_append]
 cases hl:l.any Option.isSome<;>cases o<;>simp[Mg,hl]
theorem Re {k:Int} {l:List (Option Int)} {B:Int} (hB:0<=B/\B<=131072000) (hl:l.length<=8) (h:∀o∈l,∀s,o=some s->0<=s/\s<=B):∀s,qM k l=some s->0<=s/\s<=1048576000:=by
 intro s hs;have hc:=Gk hB.1 h;have h2:(l.length:Int)*B<=8*131072000:=Int.mul_le_mul hV hB.2 hB.1 q0;unfold qM at hs
 have:s=qL l:=by
  split at hs<;>split at hs<;>first|exact(aG hs).symm|cases hs
 omega
theorem we {q:Qy} {deep:Nat}:iv q deep=0↔deep<=6/\km q.kind q.term q.words q.kids.length=0/\∀x∈q.kids,iv x (deep+1)=0:=by
 obtain⟨k,t,ws,ks⟩:=q;exact n4
theorem yY {f:En->Option Int} {L:List En} (h:L.length<=100000):qR (iy f 0 L):=λp hp=>by have:=qc hp;omega
theorem I1 {x:List UInt8} (h:dh x=true):x.length<=140737488355328:=by
 unfold dh at h;have:=(of_decide_eq_true h).2;omega
theorem Kh {L:List En} {ks:List Qy} {x:Qy} {i deep:Nat} {k:Int} (least:Int) (hl:least=1\/least=2) (hk:least=2↔k=2) (hx:ks[i+1]? =some x) (hn:L.length<=100000) (hF:∀e∈L,iT e.1) (h8:ks.length<=8) (hm:∀x∈ks,iv x (deep+1)=0):BB least (iy (λe=>qM k ((ks.take (i+1)).map (fJ e.1.2))) 0 L) (iy (λe=>fJ e.1.2 x) 0 L)=iy (λe=>qM k ((ks.take (i+1+1)).map (fJ e.1.2))) 0 L:=by
 have hB:0<=ud (deep+1)/\ud (deep+1)<=131072000:=⟨Gl _,xH hV⟩;rw[DY hl L 0 hV λe he s hs=>?_]
 ·refine jt λe _=> ?_
  rw[cj (i:=i+1),hx,dS,eH];rcases hl with rfl|rfl
  ·exact(Kg (λh=>absurd (hk.2 h) q0) _ _).symm
  ·exact(GH (hk.1 G) _ _).symm
 ·have hw:=λk=>oc (hF e he) k
  rcases hs with hs|hs
  ·have:=Re hB (by rw[cg,bI];omega) (λo ho s hs=>by
    obtain⟨y,hy,rfl⟩:=cO.1 ho;exact ph e.1.2 hw y (deep+1) (hm y (List.mem_of_mem_take hy)) s hs) s hs
   omega
  ·have:=ph e.1.2 hw x (deep+1) (hm x (ao hx)) s hs;omega
theorem Own.foV {M M':aP} {w0 w:World} {v:Value} {L:List En} {f:En->Option Int} (h:Own RT.fo 45 M' w w0.heap.size v (iy f 0 L)) (hM:Lt M w0) (s:Step M w0 M' w aH) (hn:L.length<=100000):((RT.fo).sl).V M w (iy f 0 L) v:=h.close hM s (by have:=mi (f:=f) L 0;omega)
set_option maxHeartbeats 2000000 in
theorem A7 {M:aP} {n:Nat} {L:List En} {q:Qy} {v0 v:Value} {deep:Nat} (w0:World) (hM:Lt M w0) (h0: ¬M 1) (tab:∃e fr,w0.heap[1]? =some (.cells (Hl.map fun(k:Nat)=>Value.int .u8 (k:Int)).toArray e fr)) (hs:dp RT.se M w0 v0 (Ih (j6 L))) (fh:CC (-1) L=true) (hn:L.length<=100000) (hv:(RT.qy (n+1)).V M w0 q v) (hm:iv q deep=0) (ih:∀x∈q.kids,∀(M:aP) (w:World) (v:Value),Lt M w->¬M 1->(∃e fr,w.heap[1]? =some (.cells (Hl.map fun(k:Nat)=>Value.int .u8 (k:Int)).toArray e fr))->dp RT.se M w v0 (Ih (j6 L))->(RT.qy n).V M w x v->iv x (deep+1)=0->Spec Tryz.prog 56 #[v0,v] w (λv' w'=>∃M',Lt M' w'∧Step M w M' w' aH/\Own RT.fo 45 M' w' w.heap.size v' (iy (λe=>fJ e.1.2 x) 0 L))):
  Spec Tryz.prog 56 #[v0,v] w0 (λv w=>∃M',Lt M' w/\Step M w0 M' w aH/\Own RT.fo 45 M' w w0.heap.size v (iy (λe=>fJ e.1.2 q) 0 L)):=by
 have jq:=hM;have hF:=lN fh;obtain⟨hd6,tw,hmk⟩:=we.1 hm;have hoc:=AN tw;obtain⟨Mh,Mi,A8⟩:=tab;have sk:=hv;obtain⟨_,_,_,YV,uF,_,_⟩:=ox sk;clear sk;refine bD (args:=[_,_]) (fn:=Tryz.f56) Tryz.func56 G (n:=65) Tryz.ntmps56 ?_;have S:Step M w0 M w0 aH:=bg;refine T.aU ?_;refine fO (A:=RT.qy (n+1)) (a:=q) G G hM hv (ec _) (λu3 LQ l3 k4 _=>?_);replace hv:=hv.le k4.le;replace hs:=hs.le q0 k4.le;replace hM:=k4.lt hM;have:=S.size;replace S:=S.ar k4;refine Rg.a8 G G (aQ (T.aU ?_));refine aw (A:=RT.qy (n+1)) (B:=RT.int .i64) ax G G I3 q0 (Su n) G G (aO _) l3 ck (λJy fI=>?_);refine bX al G G fI ck (λyX=>?_);refine aZ (v':= .int .i64 q.kind) G (ad (bp (T.aU (je G G G (Rg.a8 G G ?_)))));refine bH G (λc2=>?_) (λc2=>?_)
 ·refine T.aU (ab G G ?_);refine aw (A:=RT.qy (n+1)) (B:=RT.fd) ax G G nL q0 (KM n) G G (aO _) l3 ck (λu31 Y0=>?_);refine cq (A:=RT.fd) bS G nL q0 G G G Y0 ck (λv32 Y1=>?_);obtain rfl:=ll Y1;refine aV G G amp (IL (t:=q.term) _ hM hs fh hn uF.1 uF.2) (λr33 w33 hc=>?_);obtain⟨M3,h3l,h3s,h3o⟩:=hc;refine Rg.a8 G G (aS (aT G G ⟨_,h3l,S.ar h3s,?_⟩));rw[show iy (λe=>fJ e.1.2 q) 0 L=iy (Gn q.term) 0 L from jt λe _=>by rw[qf,if_pos c2];rfl];exact h3o.jv S.size
 ·refine T.aU (je G G G (Rg.a8 G G ?_));refine bH G (λc4=>?_) (λc4=>?_)
  ·have h5:=hoc.elim (λh=>absurd h.1 c2) λh=>h.elim id λh=>(by omega:False).elim
   refine T.aU (ab G G ?_);refine aw (A:=RT.qy (n+1)) (B:=RT.fd) ax G G nL q0 (KM n) G G (aO _) l3 ck (λu51 YO=>?_);refine aw (A:=RT.fd) (B:=RT.str) bS G G I9 q0 Mw G G q0 YO ck (λu52 amw=>?_);refine bV aE G G G G G amw ck (λv53 amx=>?_);obtain rfl:=eF amx;refine aw (A:=RT.qy (n+1)) (B:=(RT.str.sl)) ax G G x8 q0 (RC n) G G (aO _) l3 ck (λu54 Zq=>?_);refine bV aI G G G G G Zq ck (λv55 Zr=>?_);refine aV G G amq (D4 (k:=q.term.1) _ hM hs fh hn Zr uF.1 (λx hx=>I1 (eI.1 h5.2.2.2.2.1 x hx)) h5.2.2.2.1 hV) (λr56 w56 hc=>?_);obtain⟨M5,h5l,h5s,h5o⟩:=hc;refine Rg.a8 G G (aS (aT G G ⟨_,h5l,S.ar h5s,?_⟩));rw[show iy (λe=>fJ e.1.2 q) 0 L=iy (sJ q.term.1 q.words) 0 L from jt λe _=>by rw[qf,if_neg c2,if_pos c4];rfl];exact h5o.jv S.size
  ·refine T.aU (je G G G (Rg.a8 G G ?_));refine bH G (λc6=>?_) (λc6=>?_)
   ·have fg:q.kids.length=1:=by omega
    refine T.aU (ab G G ?_);refine aw (A:=RT.qy (n+1)) (B:=((RT.qy n).sl (aO n))) ax G G AP Nat.one_pos (NI n) G G (aO _) l3 ck (λu71 amy=>?_);refine bV cr G G G G G amy ck (λv72 amz=>?_);obtain⟨x,hx⟩:∃x,q.kids[0]? =some x:=⟨_,aq hV⟩;refine cD (A:=RT.qy n) (hn:=aO _) (M:=M) cr (IQ gx _) G G G amz ck hV (λu73 x_ ke amA=>?_);obtain rfl:=aG (hx.symm.trans ke);refine cq (A:=RT.qy (n)) ax G (IQ gx _) (aO _) (ec _) G G amA ck (λv74 amB=>?_);refine aV G G E56 (ih x (ao hx) _ _ _ hM (λhn=>h0 ((S.mem 1 (ah A8)).1 hn)) ⟨Mh,Mi,S.aF A8⟩ hs amB (hmk _ (ao hx))) (λr75 w75 hc=>?_);obtain⟨avE,apV,VE,aew⟩:=hc;have aex:=aew.foV hM VE hn;have Ul:=VE.back;replace hs:=hs.le q0 Ul.le;replace l3:=l3.le (aO _) Ul.le;replace hM:=Ul.lt hM;have:=S.size;replace S:=S.ar Ul;refine ab G G ?_;refine aV G G adA (Lz _ hs) (λr77 w77 hc=>?_);obtain⟨rfl,rfl⟩:=hc;refine aZ (v':= .int .i64 (L.length:Int)) (by show Value.int .i64 (((L.map _).length:Nat):Int)=_;rw[cg]) ?_;refine aV G G amr (Uj hM aex hV h0 ⟨Mh,Mi,S.aF A8⟩) (λr78 w78 hc=>?_);obtain⟨M7,h7l,h7s,h7o⟩:=hc;rw[Gi]at h7o;refine Rg.a8 G G (aS (aT G G ⟨_,h7l,S.ar h7s,?_⟩))
    rw[show iy (λe=>fJ e.1.2 q) 0 L=iy (λe=>Qp (fJ e.1.2 x)) 0 L from jt λe _=>by
     rw[qf,if_neg c2,if_neg c4,if_neg hV,if_neg hV,show q.kids=[x]from by
      obtain⟨y,hy⟩:=List.length_eq_one_iff.1 fg;rw[hy]at hx;cases hx;exact hy,fx,Bs]
     cases fJ e.1.2 x<;>rfl]
    exact h7o.jv S.size
   ·have Yo:0<q.kids.length/\q.kids.length<=8:=by omega
    have XQ:q.kind=2\/q.kind=3:=by omega
    refine aM (T.aU (ab G G ?_));refine aw (A:=RT.qy (n+1)) (B:=((RT.qy n).sl (aO n))) ax G G AP Nat.one_pos (NI n) G G (aO _) l3 ck (λu81 Za=>?_);refine bV cr G G G G G Za ck (λv82 amC=>?_);obtain⟨x,hx⟩:∃x,q.kids[0]? =some x:=⟨_,aq hV⟩;refine cD (A:=RT.qy n) (hn:=aO _) (M:=M) cr (IQ gx _) G G G amC ck hV (λu83 x_ ke amD=>?_);obtain rfl:=aG (hx.symm.trans ke);refine cq (A:=RT.qy (n)) ax G (IQ gx _) (aO _) (ec _) G G amD ck (λv84 amE=>?_);refine aV G G E56 (ih x (ao hx) _ _ _ hM (λhn=>h0 ((S.mem 1 (ah A8)).1 hn)) ⟨Mh,Mi,S.aF A8⟩ hs amE (hmk _ (ao hx))) (λr85 w85 hc=>?_);obtain⟨avI,aey,Rf,Ki⟩:=hc;have apX:=Ki.foV hM Rf hn;have S85:=S.ar Rf;replace Ki:=Ki.jv (base':=w0.heap.size) S.size;have Um:=Rf.back;replace hs:=hs.le q0 Um.le;replace l3:=l3.le (aO _) Um.le;replace hM:=Um.lt hM;have:=S.size;replace S:=S.ar Um;refine Rg.a8 G G (aQ (T.aU ?_));refine aw (A:=RT.qy (n+1)) (B:=((RT.qy n).sl (aO n))) ax G G AP Nat.one_pos (NI n) G G (aO _) l3 ck (λu90 Zo=>?_);refine bV cr G G G G G Zo ck (λv91 uj=>?_);refine Rg.pB (A:=RT.qy n) (hn:=aO _) (M:=M) cr (IQ gx _) G G G uj hV (λu92 oC=>?_);replace oC:((RT.qy n).sl (aO n)).V M _ (q.kids.drop 1) u92:=oC;refine bR (A:=RT.qy n) (hn:=aO _) cr G oC G (aZ (v':= .int .i64 ((q.kids.length-1:Nat):Int)) (by rw[dn]) (ab G G (ad (bp ?_))));refine dz (σ:=Nat×Value) (λq'=>[(0,v0),(3,u3),(5,q'.2),(44,u92),(45,.int .i64 ((q.kids.length-1:Nat):Int)),(46,.int .i64 (q'.1:Int))]) (λq' w=>q'.1+1<=q.kids.length/\dp RT.se M w v0 (Ih (j6 L))/\dp (RT.qy (n+1)) M w u3 q/\((RT.qy n).sl (aO n)).V M w (q.kids.drop 1) u92/\∃M2,Lt M2 w/\Step M w0 M2 w aH/\Own RT.fo 45 M2 w w0.heap.size q'.2 (iy (λe=>qM q.kind ((q.kids.take (q'.1+1)).map (fJ e.1.2))) 0 L)) (λq'=>q.kids.length-q'.1) (0,r85) a04 ?_ ?_
    ·exact⟨by dsimp only;omega,hs,l3,oC,_,aey,S85,by dsimp only;rw[show iy (λe=>qM q.kind ((q.kids.take (0+1)).map (fJ e.1.2))) 0 L=iy (λe=>fJ e.1.2 x) 0 L from jt λe _=>by rw[cj,hx];exact A6 _ _];exact Ki⟩
    ·clear hM S hs l3 oC;rintro⟨i,vo⟩ w ⟨hi,hs,l3,oC,M2,Js,S2,kF⟩;dsimp only at hi kF ⊢;have S:=S2.back;have hM:=S.lt jq;have jb:=kF.foV jq S2 hn;refine T.aU (cH G G G (ad (aQ ?_)));refine bH G (λWU=>?_) (λWU=>?_)
     ·refine aM (aQ (bp (T.aU ?_)));have Ut:i<(q.kids.drop 1).length:=by rw[dn];omega
      obtain⟨x,QV⟩:∃x,(q.kids.drop 1)[i]? =some x:=⟨_,aq Ut⟩;have hx:q.kids[i+1]? =some x:=by rw[iI,Nat.add_comm]at QV;exact QV
      refine cD (A:=RT.qy n) (hn:=aO _) (M:=M) cr (IQ gx _) G G G oC ck hV (λamn x_ ke Ra=>?_);rw[av]at ke;obtain rfl:=aG (QV.symm.trans ke);refine cq (A:=RT.qy (n)) ax G (IQ gx _) (aO _) (ec _) G G Ra ck (λaet kT=>?_);obtain⟨xw,xk,rfl,xr,xl,hxw,hxk⟩:=ox (mW kT);refine eu M gx G (λRh VF apY apZ jA jm=>?_);obtain⟨Ri,Kj⟩:∃M',M'=ins M Rh:=⟨_,rfl⟩;rw[<-Kj]at jm;have kf:Ri Rh:=by rw[Kj];exact .inl G
      change VF.heap[Rh]? =some (.cells #[.int .i64 0,.string ⟨#[]⟩,.string ⟨#[]⟩,.slice none 0 0,.slice none 0 0] _ _)at jA;replace hs:=hs.le q0 jm.le;replace l3:=l3.le (aO _) jm.le;replace oC:=oC.le jm.le;replace jb:=jb.le jm.le;replace kT:=kT.le jm.le;replace hM:=jm.lt hM;have:=S.size;replace S:=S.ar jm;refine dm (M:=Ri) (vs:=[.int .i64 x.kind,.string ⟨x.term.1.toArray⟩,.string ⟨x.term.2.toArray⟩,xw,xk]) gx G G (Dm hxw hxk) G G jA kf (λavK amG D5=>?_);have:=ah jA;replace kf:=(D5.mem _ this).2 kf;replace hs:=hs.le q0 D5.le;replace l3:=l3.le (aO _) D5.le;replace oC:=oC.le D5.le;replace jb:=jb.le D5.le;replace kT:=kT.le D5.le;replace hM:=D5.lt hM;have:=S.size;replace S:=S.trans D5 (λk hk h=>by have h:_=_:=h;subst h;first|(exfalso;omega)|(show _<=_;omega)|exact⟨by first|omega|assumption,(S.mem _ hk).1 ((D5.mem _ (ah jA)).1 kf)⟩|exact .inl rfl|exact .inr rfl|exact .inr (.inl rfl)|exact .inr (.inr rfl)|exact .inr (.inr (.inl rfl))|exact rfl);have Rj:=amG;clear jA;have jA:=Rj;clear Rj;refine ad (T.aU ?_);refine aw (A:=RT.qy (n+1)) (B:=RT.int .i64) ax G G I3 q0 (Su n) G G (aO _) l3 ck (λalg QB=>?_);refine bX al G G QB ck (λaez=>?_);refine aZ (v':= .int .i64 q.kind) G (je G G G (ad ?_));refine bH G (λET=>?_) (λET=>?_)
      ·refine ay (ab G G (ab G G (eM (vs:=[.int .i64 x.kind,.string ⟨x.term.1.toArray⟩,.string ⟨x.term.2.toArray⟩,xw,xk]) ax G gx G G G jA ?_)));refine aV G G E56 (ih x (ao hx) _ _ _ hM (λhn=>h0 ((S.mem 1 (ah A8)).1 hn)) ⟨Mh,Mi,S.aF A8⟩ hs kT (hmk _ (ao hx))) (λavL avM hc=>?_);obtain⟨ap0,amH,Rk,Zs⟩:=hc;have I2:=Zs.foV hM Rk hn;have wg:=Rk.back;have:=ah jA;replace kf:=(wg.mem _ this).2 kf;replace jA:=wg.aF jA;replace hs:=hs.le q0 wg.le;replace l3:=l3.le (aO _) wg.le;replace oC:=oC.le wg.le;replace jb:=jb.le wg.le;replace kT:=kT.le wg.le;replace hM:=wg.lt hM;have:=S.size;replace S:=S.ar wg;refine aV G G E53 (Kf hM jb I2 (yY hn) (yY hn) ak2) (λrj wj hc=>?_);obtain⟨Mj,qw,C8,Un⟩:=hc;rw[Kh (deep:=deep) 2 q0 ⟨λ_=>ET,λ_=>rfl⟩ hx hn hF Yo.2 hmk]at Un;have Sj:=S.ar C8;replace Un:=Un.jv (base':=w0.heap.size) S.size;have sj:=C8.back;have:=ah jA;replace kf:=(sj.mem _ this).2 kf;replace jA:=sj.aF jA;replace hs:=hs.le q0 sj.le;replace l3:=l3.le (aO _) sj.le;replace oC:=oC.le sj.le;replace jb:=jb.le sj.le;replace kT:=kT.le sj.le;replace I2:=I2.le sj.le;replace hM:=sj.lt hM;have:=S.size;replace S:=S.ar sj;refine Rg.a8 G G (ay (aX G G G hV (ab G G (ad ?_))));refine⟨G,(i+1,rj),a04,?_,?_⟩
       ·have lc:=pz jq S;exact⟨by dsimp only;omega,hs.le q0 lc,l3.le (aO _) lc,oC.le lc,_,qw,Sj,Un⟩
       ·dsimp only;omega
      ·refine ay (ab G G (ab G G (eM (vs:=[.int .i64 x.kind,.string ⟨x.term.1.toArray⟩,.string ⟨x.term.2.toArray⟩,xw,xk]) ax G gx G G G jA ?_)));refine aV G G E56 (ih x (ao hx) _ _ _ hM (λhn=>h0 ((S.mem 1 (ah A8)).1 hn)) ⟨Mh,Mi,S.aF A8⟩ hs kT (hmk _ (ao hx))) (λalU alV hc=>?_);obtain⟨ap1,amI,Rl,Zt⟩:=hc;have I4:=Zt.foV hM Rl hn;have wh:=Rl.back;have:=ah jA;replace kf:=(wh.mem _ this).2 kf;replace jA:=wh.aF jA;replace hs:=hs.le q0 wh.le;replace l3:=l3.le (aO _) wh.le;replace oC:=oC.le wh.le;replace jb:=jb.le wh.le;replace kT:=kT.le wh.le;replace hM:=wh.lt hM;have:=S.size;replace S:=S.ar wh;refine aV G G ams (Zn hM jb I4 (yY hn) (yY hn) ak2) (λrj wj hc=>?_);obtain⟨Mj,qw,C8,Un⟩:=hc;rw[Kh (deep:=deep) 1 q0 ⟨λh=>absurd h q0,λh=>absurd h ET⟩ hx hn hF Yo.2 hmk]at Un;have Sj:=S.ar C8;replace Un:=Un.jv (base':=w0.heap.size) S.size;have sj:=C8.back;have:=ah jA;replace kf:=(sj.mem _ this).2 kf;replace jA:=sj.aF jA;replace hs:=hs.le q0 sj.le;replace l3:=l3.le (aO _) sj.le;replace oC:=oC.le sj.le;replace jb:=jb.le sj.le;replace kT:=kT.le sj.le;replace I4:=I4.le sj.le;replace hM:=sj.lt hM;have:=S.size;replace S:=S.ar sj;refine Rg.a8 G G (ay (aX G G G hV (ab G G (ad ?_))));refine⟨G,(i+1,rj),a04,?_,?_⟩
       ·have lc:=pz jq S;exact⟨by dsimp only;omega,hs.le q0 lc,l3.le (aO _) lc,oC.le lc,_,qw,Sj,Un⟩
       ·dsimp only;omega
     ·refine de (T.aU (ab G G (Rg.a8 G G (aS (aT G G ⟨_,Js,S2,?_⟩)))))
      rw[show iy (λe=>fJ e.1.2 q) 0 L=iy (λe=>qM q.kind ((q.kids.take (i+1)).map (fJ e.1.2))) 0 L from jt λe _=>by
       rw[qf,if_neg c2,if_neg c4,bM (show q.kids.length<=i+1 by omega)];unfold qM;rcases XQ with h|h
       ·rw[if_pos h,if_pos h]
       ·rw[if_neg (show¬q.kind=2 by omega),if_pos h,if_neg (show¬q.kind=2 by omega)]]
      exact kF
theorem A9:∀(n:Nat) {M:aP} {L:List En} {q:Qy} {v0 v:Value} {deep:Nat} (w0:World) (hM:Lt M w0) (h0: ¬M 1) (tab:∃e fr,w0.heap[1]? =some (.cells (Hl.map fun(k:Nat)=>Value.int .u8 (k:Int)).toArray e fr)) (hs:dp RT.se M w0 v0 (Ih (j6 L))) (fh:CC (-1) L=true) (hn:L.length<=100000) (hv:(RT.qy n).V M w0 q v) (hm:iv q deep=0),Spec Tryz.prog 56 #[v0,v] w0 (λv w=>∃M',Lt M' w/\Step M w0 M' w aH/\Own RT.fo 45 M' w w0.heap.size v (iy (λe=>fJ e.1.2 q) 0 L))
 |0,M,L,q,v0,v,deep,w0,hM,h0,tab,hs,fh,hn,hv,hm=>A7 (n:=0) w0 hM h0 tab hs fh hn (mW hv) hm λx hx=>by rw[CX hv]at hx;cases hx
 |n+1,M,L,q,v0,v,deep,w0,hM,h0,tab,hs,fh,hn,hv,hm=>A7 w0 hM h0 tab hs fh hn hv hm λx hx M w v hM h0 tab hs hv hm=>A9 n w hM h0 tab hs fh hn hv hm
end Go.K
namespace Go.K
open Go.Proofs
namespace TKMMatch
theorem gx:TI Tryz.prog 28 (.agg #[(.int .i64 0),(.string ⟨#[]⟩),(.string ⟨#[]⟩),(.slice none 0 0),(.slice none 0 0)]) 5 88:=by unfold TI;kernel_rfl
theorem E55:Enters Tryz.prog 55:=enters Tryz.func55 rfl q0
theorem E56:Enters Tryz.prog 56:=enters Tryz.func56 rfl q0
end TKMMatch
open TKMMatch
set_option maxRecDepth 10000
theorem lO {M:aP} {n:Nat} {L:List En} {q:Qy} {v0 v:Value} (w0:World) (hM:Lt M w0) (h0: ¬M 1) (tab:∃e fr,w0.heap[1]? =some (.cells (Hl.map fun(k:Nat)=>Value.int .u8 (k:Int)).toArray e fr)) (hs:dp RT.se M w0 v0 (Ih (j6 L))) (fh:CC (-1) L=true) (hn:L.length<=100000) (hv:(RT.qy (n+1)).V M w0 q v) (nE:G3 q):
  Spec Tryz.prog 13 #[v0,v] w0 (λv w=>∃M',Lt M' w/\Step M w0 M' w aH/\Own RT.fo 45 M' w w0.heap.size v (if iv q 1=0 then iy (λe=>fJ e.1.2 q) 0 L else[])):=by
 have jq:=hM;obtain⟨Mh,Mi,A8⟩:=tab;refine bD (args:=[_,_]) (fn:=Tryz.f13) Tryz.func13 G (n:=11) Tryz.ntmps13 ?_;have S:Step M w0 M w0 aH:=bg;refine T.aU ?_;refine fO (A:=RT.qy (n+1)) (a:=q) G G hM hv (ec _) (λu3 LQ l3 k4 _=>?_);replace hv:=hv.le k4.le;replace hs:=hs.le q0 k4.le;replace hM:=k4.lt hM;have:=S.size;replace S:=S.ar k4;refine Rg.a8 G G (aQ (T.aU ?_));refine cq (A:=RT.qy (n+1)) ax G (IQ gx _) (aO _) (ec _) G G l3 ck (λv10 tY=>?_);refine aV G G E55 (Mf (n:=n) _ hM tY nE) (λr11 w11 hc=>?_);obtain⟨rfl,Ay⟩:=hc;replace hs:=hs.le q0 Ay.le;replace l3:=l3.le (aO _) Ay.le;replace hM:=Ay.lt hM;have:=S.size;replace S:=S.ar Ay;refine fG G G G (ad ?_);refine bH G (λc1=>?_) (λc1=>?_)
 ·refine T.aU (Rg.a8 G G (aS (aT G G ⟨M,hM,S,?_⟩)));rw[if_neg (by first|exact c1|omega)];exact ep _ _ _ _ _
 ·have hm:iv q 1=0:=by first|exact cF.1 c1|omega
  refine aM (T.aU (ab G G ?_));refine cq (A:=RT.qy (n+1)) ax G (IQ gx _) (aO _) (ec _) G G l3 ck (λv31 T7=>?_);refine aV G G E56 (A9 (n+1) (deep:=1) _ hM (λhn=>h0 ((S.mem 1 (ah A8)).1 hn)) ⟨Mh,Mi,S.aF A8⟩ hs fh hn T7 hm) (λr32 w32 hc=>?_);obtain⟨M3,h3l,h3s,h3o⟩:=hc;refine Rg.a8 G G (aS (aT G G ⟨M3,h3l,S.ar h3s,?_⟩));rw[if_pos hm];exact h3o.jv S.size
end Go.K
namespace Go.K
abbrev Hd:=Int×Int×Int
def hn (xs:List Hd) (i:Nat):Int:=(xs.getD i (0,0,0)).1
def Zu (f:Nat->Nat):Nat->Nat
 |0=>0
 |k+1=>Zu f k+f k
def VG (ls:List (List Int)) (i:Nat):Nat:=(ls.getD i []).length
def xd (ls:List (List Int)):Nat:=Zu (VG ls) ls.length
def rem (ls:List (List Int)) (at_:Nat->Nat):Nat:=Zu (λi=>VG ls i-at_ i) ls.length
abbrev RT.hd:RT Hd:=RT.pair (RT.int .i64) (RT.pair (RT.int .i64) (RT.int .i64))
theorem hd1:Part RT.hd (RT.int .i64) (λh=>h.2.1) 1:=(fj _ _).trans (kg _ _)
theorem hd2:Part RT.hd (RT.int .i64) (λh=>h.2.2) 2:=(fj _ _).trans (fj _ _)
variable {P:Program} {r:Option Nat} {n:Nat} {L:Sl} {ds:List Deferred} {w:World} {K:Kt} {ops:Array Oper} {rest:List Oper} {d:Nat} {x y:Operand} {ty:TypeId} {pos:String} {af:Array Edge} {α:Type} {A:RT α}
theorem Rg.Zv {t e:TypeId} {zv:Value} {bytes:Nat} {M:aP} {base g len cap j:Nat} {xs:List α} {a:α} {v:Value} (hA:A.n=1/\A.agg=false) (hi:TI P t zv 1 bytes) (hx:ev L x=some (.pointer (some ⟨g,j,none⟩))) (hy:ev L y=some v) (h:Own A e M w base (.slice (some ⟨g,0,none⟩) len cap) xs) (hj:j<xs.length) (hv:A.V M w a v)
  (k:∀w',Own A e M w' base (.slice (some ⟨g,0,none⟩) len cap) (xs.set j a)->Step M w M w' (λk=>k=g)->Rg P r n ops rest L ds w' K):
  Rg P r n ops ({dst:=none,op:= .store t x y,type:=ty,pos,after:=af,guard:=none}::rest) L ds w K:=by
 obtain⟨vs,ot,hvv⟩:=hv;have hl:=A.len ot;rw[hA.1]at hl
 obtain⟨u,rfl⟩:∃u,vs=[u]:=by
  match vs,hl with
  |[u],_=>exact⟨u,rfl⟩
 have hvu:v=u:=by rw[hvv];unfold RT.val;rw[hA.2];rfl
 subst hvu;have h1:=A.one ot v (by simp);obtain⟨w',hw',ho,hs⟩:=h.setCells hj ot;obtain⟨⟨C,hr,_⟩,hm⟩:=h;rcases hr.2 with⟨h2,_⟩|⟨g',R0,cur,h2,_,h3,h4,h5,h6,h7⟩
 ·cases h2
 ·simp only[Value.slice.injEq,Option.some.injEq,Addr.mk.injEq]at h2;obtain⟨⟨rfl,_⟩,rfl,rfl⟩:=h2;rw[hA.1]at h6 hw';refine .VW a07 G G w' (λρ hρ=>?_) (k w' ho hs);subst hw';simp only[execOp,hρ x _ hx,hρ y _ hy];have:=sL (P:=P) hi (w:=w) (b:=g) (o:=j) (v:=v) h1 (by rw[jR h3 (v:=cur[j]' hV) (by simp)];rfl) (by simp[World.frozen?,h3]);simp[this,World.setCells]
end Go.K
namespace Go.K
open Go.Proofs
namespace TKRMay
theorem amJ:Enters Tryz.prog 112:=enters Tryz.func112 rfl q0
end TKRMay
open TKRMay
set_option maxRecDepth 10000
theorem Ml {c:Int} (h:0<=c/\c<=1114111): -9223372036854775808<=eo c/\eo c<=9223372036854775807:=by unfold eo;split<;>omega
theorem Mm (l:List UInt8):∀c∈dM l,0<=c/\c<=1114111:=by
 have key:∀n (l:List UInt8),l.length=n->∀c∈dM l,0<=c/\c<=1114111:=by
  intro n
  induction n using Nat.strongRecOn with
  |_ n ih=>
   intro l hn c hc;by_cases hl:l=[]
   ·subst hl;rw[mB]at hc;cases hc
   ·have hw:=jV hl;rw[lg hl]at hc;rcases dg.1 hc with rfl|hc
    ·have:=rU l;omega
    ·exact ih _ (by rw[dn];omega) _ rfl c hc
 exact key _ l G
def rM (sg:List Int) (k:Nat):List Int:=(sg.take k).map eo++sg.drop k
theorem sd (sg:List Int) (k:Nat):(rM sg k).length=sg.length:=by unfold rM;simp;omega
theorem Rm {sg:List Int} {k:Nat} {c:Int} (h:sg[k]? =some c):(rM sg k)[k]? =some c:=by
 have hk:=(ak.1 h).1;unfold rM;rw[oe a06,cg,bI,yZ hV,Nat.sub_self,iI,Nat.add_zero,h]
theorem I6 {sg:List Int} {k:Nat} {c:Int} (h:sg[k]? =some c):(rM sg k).set k (eo c)=rM sg (k+1):=by
 have hk:=(ak.1 h).1;have h1:((sg.take k).map eo).length=k:=by rw[cg,bI];omega
 unfold rM;rw[List.set_append_right _ _ hV,h1,Nat.sub_self,fe hk,List.set_cons_zero,cj,h];simp
theorem Mn {sg:List Int} {k:Nat} (h:sg.length<=k):rM sg k=sg.map eo:=by
 unfold rM;rw[bM h,jF h,bz]
theorem GI {M:aP} {l:List UInt8} (w0:World) (hM:Lt M w0) (hl:l.length<=3900000):
  Spec Tryz.prog 112 #[.string ⟨l.toArray⟩] w0 (λv w=>v= .string ⟨(ik ((dM l).map eo)).toArray⟩/\Step M w0 M w aH):=by
 have jq:=hM;have uu:=gZ l;refine bD (args:=[_]) (fn:=Tryz.f112) Tryz.func112 G (n:=23) Tryz.ntmps112 ?_;have S:Step M w0 M w0 aH:=bg;refine T.aU (Rg.a8 G G (T.aU (ab G G ?_)));refine aV G G WD (zM _ hM hV) (λvs ws hc=>?_);obtain⟨M1,eD,S1,ho⟩:=hc;refine Rg.a8 G G (aQ (T.aU (Rg.a8 G G (bp ?_))));refine dz (σ:=Nat×Value) (λq=>[(3,q.2),(4,.int .i64 (q.1:Int))]) (λq w=>q.1<=(dM l).length/\∃M1,Lt M1 w/\Step M w0 M1 w aH/\Own (RT.int .i64) 3 M1 w w0.heap.size q.2 (rM (dM l) q.1)) (λq=>(dM l).length-q.1) (0,vs) a83 ?_ ?_
 ·exact⟨bA _,M1,eD,S1,by unfold rM;simpa using ho⟩
 ·clear eD S1 ho S hM;rintro⟨k,u⟩ w ⟨hk,M1,eD,S1,ho⟩;dsimp only at hk ho ⊢;refine aQ (T.aU (ab G G (ab G G (jD aC G ho G (aZ (v':= .int .i64 ((dM l).length:Int)) (by rw[sd]) (cH G G G (ad ?_)))))));refine bH G (λc3=>?_) (λc3=>?_)
  ·refine aM (aQ (bp (ay (ab G G (ab G G (ab G G (ab G G ?_)))))));obtain⟨c,hc⟩:∃c,(dM l)[k]? =some c:=⟨_,aq hV⟩;have hcr:=Mm l c (ao hc);have hck:=Rm hc;refine Rg.acf aC I3 q0 rfl rfl rfl ho (by rw[sd];omega) (λu54 x_ ke Zq=>?_);rw[av]at ke;obtain rfl:=aG (hck.symm.trans ke);refine Rg.acg al G G G G G Zq (λv55 Zr=>?_);obtain⟨rfl,_⟩:=MN.1 Zr;refine aV G G aa4 (zI c _ hcr) (λr56 w56 hc=>?_);obtain⟨rfl,rfl⟩:=hc;obtain⟨g,cap,_,rfl,hmg,_,_⟩:=ho.elem q0 hck;refine Rg.Df aC I3 rfl rfl rfl (by rw[sd];omega) ?_;refine Rg.Zv (M:=M1) (a:=eo c) ⟨rfl,rfl⟩ I3 rfl rfl ho (by rw[av,sd];omega) (iF (Ml hcr)) (λw6 ia s6=>?_);rw[av,I6 hc]at ia;refine ad (ay (ab G G (aX G G G hV (Rg.a8 G G ?_))));refine⟨G,(k+1,_),a83,?_,?_⟩
   ·exact⟨by dsimp only;omega,M1,s6.lt eD,S1.cE s6 (λb hb=>by have hb:b=g:=hb;have:=(ho.base g rfl).1;omega),ia⟩
   ·dsimp only;omega
  ·refine de (T.aU (ab G G ?_));rw[Mn hV]at ho;refine aV G G WH (tM (M:=rm M1 u) _ (λb hb=>eD b hb.1) (ho.view (by rw[cg];omega)) (by rw[cg];omega)) (λr6 w6 hc=>?_);obtain⟨rfl,s6⟩:=hc;refine Rg.a8 G G (aS ?_);exact aT G G ⟨G,S1.back.ar (s6.any M)⟩
theorem qg {M:aP} {l:List UInt8} (w0:World) (hM:Lt M w0) (hl:l.length<=3900000):
  Spec Tryz.prog 59 #[.string ⟨l.toArray⟩] w0 (λv w=>v= .bool (dh l)/\Step M w0 M w aH):=by
 have jq:=hM;have uu:=gZ l;refine bD (args:=[_]) (fn:=Tryz.f59) Tryz.func59 G (n:=35) Tryz.ntmps59 ?_;have S:Step M w0 M w0 aH:=bg;refine T.aU (Rg.a8 G G (T.aU (ab G G ?_)));refine aV G G WD (yb _ hM hV) (λr1 w1 hc=>?_);obtain⟨hr,s1⟩:=hc;replace hM:=s1.lt hM;have:=S.size;replace S:=S.ar s1;refine Rg.a8 G G (aQ (T.aU (ab G G (bR aC G hr G (je G G G (ab G G ?_))))));refine aB (g:=11) G (λT6=>?_) (λT6=>?_)
 ·refine aj G G G G (aj G G G G (aj G G G G (aN G G G (ab G G (aj G G G G (aj G G G G (aj G G G G (aj G G G G (aN G G G (ad (iz G ?_)))))))))));refine T.aU (Rg.a8 G G (aS ?_))
  first
  |exact aT rfl rfl ⟨congrArg Value.bool an8,S⟩
  |exact aT rfl rfl ⟨congrArg Value.bool (by rw[iD];rintro⟨_,h,_⟩;omega),S⟩
  |exact aT rfl rfl ⟨congrArg Value.bool ao5,S⟩
 ·refine ae G G (ab G G (ae G G (te aE G G (aZ (v':= .int .i64 (l.length:Int)) a81 (ae G G (fR G G G (au G G G (ab G G ?_))))))));refine aB (g:=16) G (λYv=>?_) (λYv=>?_)
  ·refine aj G G G G (aj G G G G (aj G G G G (aj G G G G (aN G G G (ad (iz G (T.aU (Rg.a8 G G (aS ?_)))))))))
   first
   |exact aT rfl rfl ⟨congrArg Value.bool an8,S⟩
   |exact aT rfl rfl ⟨congrArg Value.bool (by rw[iD];rintro⟨_,h,_⟩;omega),S⟩
   |exact aT rfl rfl ⟨congrArg Value.bool ao5,S⟩
  ·refine ae G G (ab G G (ae G G ?_));refine aV G G amJ (GI _ hM hl) (λavQ avR hc=>?_);obtain⟨rfl,Zw⟩:=hc;replace hr:=hr.le Zw.le;replace hM:=Zw.lt hM;have:=S.size;replace S:=S.ar Zw;refine ae G G (ab G G (ae G G (Rg.Je G G G (au G G G (ad ?_)))));refine bH G (λc2=>?_) (λc2=>?_)
   ·refine T.aU (Rg.a8 G G (aS ?_))
    first
    |exact aT rfl rfl ⟨congrArg Value.bool an8,S⟩
    |exact aT rfl rfl ⟨congrArg Value.bool (by rw[iD];rintro⟨_,h,_⟩;omega),S⟩
    |exact aT rfl rfl ⟨congrArg Value.bool ao5,S⟩
   ·have hf:dM l≠[]/\l.length<=30/\ik ((dM l).map eo)=l:=by
     first
     |exact⟨λe=>T6 (by rw[e];rfl),by omega,cF.1 c2⟩
     |(exfalso;exact c2 trivial)
     |(exfalso;exact c2 G)
    refine aM (aQ (T.aU (Rg.a8 G G (bp ?_))));refine dz (σ:=Nat) (λk=>[(3,r1),(4,.int .i64 (k:Int))]) (λk w=>k<=(dM l).length/\Lt M w/\Step M w0 M w aH/\((RT.int .i64).sl).V M w (dM l) r1/\∀(j:Nat) c,j<k->(dM l)[j]? =some c->pO c=true) (λk=>(dM l).length-k) 0 a83 ?_ ?_
    ·exact⟨bA _,hM,S,hr,λj c h=>absurd h (fp _)⟩
    ·clear hM S hr;rintro k w ⟨hk,hM,S,hr,iR⟩;refine aQ (T.aU (ab G G (ab G G (bR aC G hr G (cH G G G (ad ?_))))));refine bH G (λc5=>?_) (λc5=>?_)
     ·refine aM (aQ (bp (T.aU (ab G G (ab G G ?_)))));obtain⟨c,hc⟩:∃c,(dM l)[k]? =some c:=⟨_,aq hV⟩;refine cD aC I3 G G G hr ck hV (λu72 x_ ke amK=>?_);rw[av]at ke;obtain rfl:=aG (hc.symm.trans ke);refine bX al G G amK ck (λlY=>?_);refine aV G G WE (zJ c _) (λr wc hc=>?_);obtain⟨rfl,rfl⟩:=hc;refine Rg.a8 rfl rfl (T.aU (ab rfl rfl (jd rfl rfl (aZ (v':= .bool (decide (pO c=false))) (by cases pO c<;>rfl) (ad ?_)))));refine bH G (λc8=>?_) (λc8=>?_)
      ·refine T.aU (Rg.a8 G G (aS ?_));exact aT rfl rfl ⟨congrArg Value.bool (by rw[iD];rintro⟨_,_,_,h⟩;have:=h c (ao hc);rw[c8]at this;cases this),S⟩
      ·refine aM (ay (ab G G (aX G G G hV (Rg.a8 G G ?_))));refine⟨G,k+1,a83,?_,?_⟩
       ·refine ⟨by omega,hM,S,hr,λj x hj hx=> ?_⟩;rcases cT j k with h|h
        ·exact iR j x h hx
        ·obtain rfl:j=k:=by omega
         rw[hc]at hx;cases hx;simpa using c8
       ·omega
     ·refine de (T.aU (Rg.a8 G G (aS ?_)));exact aT rfl rfl ⟨congrArg Value.bool ((AS l).2 ⟨hf.1,hf.2.1,hf.2.2,λc hc=>by obtain⟨j,hj⟩:=bQ.1 hc;exact iR j c (by have:=(ak.1 hj).1;omega) hj⟩).symm,S⟩
end Go.K
namespace Go.K
open Go.Proofs
namespace TKR12A
theorem AP:TI Tryz.prog 26 (.slice none 0 0) 1 24:=by unfold TI;kernel_rfl
theorem gx:TI Tryz.prog 28 (.agg #[(.int .i64 0),(.string ⟨#[]⟩),(.string ⟨#[]⟩),(.slice none 0 0),(.slice none 0 0)]) 5 88:=by unfold TI;kernel_rfl
theorem E59:Enters Tryz.prog 59:=enters Tryz.func59 rfl q0
end TKR12A
open TKR12A
set_option maxRecDepth 10000
end Go.K
namespace Go.K
open Go.Proofs
namespace TKR12B
theorem AP:TI Tryz.prog 26 (.slice none 0 0) 1 24:=by unfold TI;kernel_rfl
theorem gx:TI Tryz.prog 28 (.agg #[(.int .i64 0),(.string ⟨#[]⟩),(.string ⟨#[]⟩),(.slice none 0 0),(.slice none 0 0)]) 5 88:=by unfold TI;kernel_rfl
end TKR12B
open TKR12B
set_option maxRecDepth 10000
end Go.K
namespace Go.K
open Go.Proofs
namespace TKR13M
theorem gx:TI Tryz.prog 28 (.agg #[(.int .i64 0),(.string ⟨#[]⟩),(.string ⟨#[]⟩),(.slice none 0 0),(.slice none 0 0)]) 5 88:=by unfold TI;kernel_rfl
theorem fE:TI Tryz.prog 45 (.agg #[(.int .i64 0),(.int .i64 0)]) 2 16:=by unfold TI;kernel_rfl
theorem qU:placesOf Tryz.prog 45=[(0,1),(1,1)].map some:=by kernel_rfl
end TKR13M
open TKR13M
set_option maxRecDepth 10000
end Go.K
namespace Go.K
open Go.Proofs
namespace TKRef13
theorem fE:TI Tryz.prog 45 (.agg #[(.int .i64 0),(.int .i64 0)]) 2 16:=by unfold TI;kernel_rfl
theorem qU:placesOf Tryz.prog 45=[(0,1),(1,1)].map some:=by kernel_rfl
theorem RP:Enters Tryz.prog 60:=enters Tryz.func60 rfl q0
end TKRef13
open TKRef13
set_option maxRecDepth 10000
theorem jW {M:aP} {w0:World} {v:Value} {l:List Fo} {d:Int} (hv:((RT.fo).sl).V M w0 l v):
  Spec Tryz.prog 60 #[v,.int .i64 d] w0 (λv' w'=>(∃r,v'= .int .i64 r/\AtR l d r/\ -1<=r/\r<=140737488355328)/\w0=w'):=by
 have hlen:=dJ hv;refine bD (args:=[_,_]) (fn:=Tryz.f60) Tryz.func60 G (n:=20) Tryz.ntmps60 (T.aU (Rg.a8 G G (aQ (T.aU (Rg.a8 G G (bp ?_))))));refine dz (σ:=Nat) (λs=>[(0,v),(1,.int .i64 d),(5,.int .i64 s)]) (λs w=>w0=w/\s<=l.length/\∀t,t<s->∀q,l[t]? =some q->q.1≠d) (λs=>l.length-s) 0 a11 ?_ ?_
 ·exact⟨G,bA _,λt h=>absurd h (fp _)⟩
 ·rintro k w1 ⟨rfl,hk,ka⟩;refine aQ (T.aU (ab G G (ab G G (bR an G hv G (cH G G G (ad ?_))))));refine bH G (λc2=>?_) (λc2=>?_)
  ·refine aM (aQ (bp (T.aU (ab G G (ab G G ?_)))));obtain⟨⟨e,s⟩,hx⟩:∃x,l[k]? =some x:=⟨_,aq hV⟩;refine cD an fE G G G (hv) ck a14 (λSD amL aeB mZ=>?_);obtain rfl:(e,s)=amL:=cY (aG (aeB.symm.trans (by rw[av];exact hx)));refine aw (M:=M) (A:=RT.fo) (B:=RT.int .i64) bm G G I3 q0 (Sk) G G q0 VR (by repeat (first|exact bB _ _|refine aW (bC VR) ?_)) (λWR ac9=>?_);refine bX (M:=M) al G G VR (by repeat (first|exact bB _ _|refine aW (bC VR) ?_)) (λVH=>?_);refine aZ (v':= .int .i64 (e)) G ?_;replace VH: -9223372036854775808<=(e:Int)/\e<=9223372036854775807:=VH;refine ab G G (je G G G (ad ?_));refine bH G (λc4=>?_) (λc4=>?_)
   ·refine T.aU (ab G G (Rg.a8 G G (aS ?_)));have hsx:=CL (s:=s) (by rw[hx,c4]) ka;exact aT rfl rfl ⟨⟨_,rfl,.inl ⟨k,rfl,EL.2 ⟨k,_,hx,c4⟩,by rw[hx,c4,hsx]⟩,by omega,by omega⟩,rfl⟩
   ·refine aM (ay (ab G G (aX G G G hV (Rg.a8 G G ?_))));refine⟨G,k+1,a11,?_,?_⟩
    ·refine ⟨G,by omega,λt ht q hq=> ?_⟩;rcases cT t k with h|h
     ·exact ka t h q hq
     ·rw[show t=k from by omega,hx]at hq;cases hq;exact c4
    ·show _-(k+1)<_-k;omega
  ·refine de (T.aU (Rg.a8 G G (aS ?_)));refine aT rfl rfl ⟨⟨_,rfl,.inr ⟨rfl,?_⟩,by omega,by omega⟩,rfl⟩
   cases h:dY l d with
   |false=>rfl
   |true=>
    obtain⟨t,p,ht,hp⟩:=EL.1 h;exact absurd hp (ka t (by have:=(ak.1 ht).1;omega) p ht)
theorem GK {M:aP} {w0:World} {v:Value} {a:List Fo} {n:Nat} (hM:Lt M w0) (hv:((RT.fo).sl).V M w0 a v) (hn:n<=1000000):
  Spec Tryz.prog 19 #[v,.int .i64 n] w0 (λv' w'=>((RT.fo).sl).V M w' (pK a n) v'∧Step M w0 M w' aH):=by
 have hlen:=dJ hv;refine bD (args:=[_,_]) (fn:=Tryz.f19) Tryz.func19 G (n:=22) Tryz.ntmps19 (T.aU (Rg.a8 G G (T.aU (Rg.a8 G G (aQ (T.aU ?_))))));refine Rg.a8 G G (bp ?_);refine dz (σ:=Nat×Value) (λs=>[(0,v),(1,.int .i64 n),(5,s.2),(6,.int .i64 s.1)]) (λs w=>s.1<=n/\∃M1,Lt M1 w/\Step M w0 M1 w aH/\Own RT.fo 45 M1 w w0.heap.size s.2 (pK a s.1)) (λs=>n-s.1) (0,_) VS ?_ ?_
 ·exact⟨bA _,M,hM,bg,ep _ _ _ _ _⟩
 ·rintro⟨k,u0⟩ w1 ⟨hk,M1,eD,S,ho⟩;dsimp only at hk ho ⊢;refine aQ (T.aU (ab G G (ab G G (cH G G G (ad ?_)))));refine bH G (λc3=>?_) (λc3=>?_)
  ·refine aM (aQ (bp (T.aU (ab G G (ab G G ?_)))));refine aV G G RP (jW (hv.le S.le)) (λr wc h=>?_);obtain⟨⟨r,rfl,har,YD,RY⟩,rfl⟩:=h;refine cH G G G (ad ?_);refine bH G (λc5=>?_) (λc5=>?_)
   ·have hf:dY a (k:Int)=false:=by
     rcases har with⟨i,h,_⟩|h
     ·omega
     ·exact h.2
    refine ay (ab rfl rfl (ab rfl rfl (cx (places:=[(0,1),(1,1)]) bm fE qU rfl ⟨_,_,rfl,rfl,rfl⟩ (out:=[_,.int .i64 0]) ⟨0,[_],rfl,rfl,by simp[Value.cells],rfl⟩ ?_)));refine dT (A:=RT.fo) (hn:=by decide) (M:=M1) an fE q0 G G eD (kX (a:=(k:Int)) (b:=0) hV hV) (.inl G) (λu5 w5 gg s5=>?_);have lM:=uN a k;refine cI (M:=M1) (base:=w0.heap.size) an fE rfl rfl rfl rfl (ho.br s5) gg ck a06 a06 (ch S.size s5.size) (λv6 M3 w6 ia s6=>?_);refine Rg.a8 G G (ay (ab G G (aX G G G hV (Rg.a8 G G ?_))));refine⟨G,(k+1,_),VS,?_,?_⟩
    ·first
     |exact⟨by simp only;omega,M3,s6.lt (s5.lt eD),(S.ar s5).cf s6 (ho.br s5) (aK _),by simp only;rw[mA,hf];exact ia⟩
     |exact⟨by simp only;omega,M1,eD,S,by simp only;rw[mA,hf,if_pos rfl,bz];exact ho⟩
    ·simp only;omega
   ·have hf:dY a (k:Int)=true:=by
     rcases har with⟨i,h,h2,_⟩|h
     ·exact h2
     ·omega
    refine aM (ay (ab G G (aX G G G hV (Rg.a8 G G ?_))));refine⟨G,(k+1,_),VS,?_,?_⟩
    ·first
     |exact⟨by simp only;omega,M3,s6.lt (s5.lt eD),(S.ar s5).cf s6 (ho.br s5) (aK _),by simp only;rw[mA,hf];exact ia⟩
     |exact⟨by simp only;omega,M1,eD,S,by simp only;rw[mA,hf,if_pos rfl,bz];exact ho⟩
    ·simp only;omega
  ·refine de (T.aU (ab G G (Rg.a8 G G (aS ?_))));obtain rfl:k=n:=by omega
   exact aT G G ⟨kH hM S ho (by have:=uN a k;omega),S.back⟩
theorem rN {M:aP} {w0:World} {v u:Value} {a b:List Fo} (hM:Lt M w0) (hv:((RT.fo).sl).V M w0 a v) (hu:((RT.fo).sl).V M w0 b u):
  Spec Tryz.prog 14 #[v,u] w0 (λv' w'=>v'= .bool (decide (a=b))/\Step M w0 M w' aH):=by
 have hla:=dJ hv;have hlb:=dJ hu;refine bD (args:=[_,_]) (fn:=Tryz.f14) Tryz.func14 G (n:=26) Tryz.ntmps14 (T.aU (Rg.a8 G G (aQ (T.aU (ab G G (bR an G hv G (ab G G (bR an G hu G ?_))))))));refine fG G G G (ad ?_);refine bH G (λc1=>?_) (λc1=>?_)
 ·refine T.aU (Rg.a8 G G (aS ?_));refine aT G G ⟨?_,bg⟩;rw[decide_eq_false];rintro rfl;exact c1 G
 ·obtain hlen:a.length=b.length:=by omega
  refine aM (aQ (T.aU (Rg.a8 G G (bp ?_))));refine dz (σ:=Nat) (λs=>[(0,v),(1,u),(5,.int .i64 s)]) (λs w=>s<=a.length/\a.take s=b.take s/\Step M w0 M w aH) (λs=>a.length-s) 0 a11 ?_ ?_
  ·exact⟨bA _,by simp,bg⟩
  ·rintro k w1 ⟨hk,heq,S⟩;refine aQ (T.aU (ab G G (ab G G (bR an G hv G (cH G G G (ad ?_))))));refine bH G (λc4=>?_) (λc4=>?_)
   ·refine aM (aQ (bp (aQ ?_)));obtain⟨⟨d,s⟩,hx⟩:∃x,a[k]? =some x:=⟨_,aq hV⟩;obtain⟨⟨e,t⟩,hy⟩:∃y,b[k]? =some y:=⟨_,aq hV⟩;apply T.draw (M:=M) mixed [cy.eq _,cy.eq _,cy.ptr (RT.fo) (d,s),cy.V (RT.fo) (d,s),cy.eq _,cy.eq _,cy.ptr (RT.fo) (e,t),cy.V (RT.fo) (e,t),cy.eq (.bool (decide (¬((d,s)=(e,t)))))]
    ·rfl
    ·refine aL ?_ ?_
     ·intro wD E sD;refine ab G G ?_;exact VT
     refine aL ?_ ?_
     ·intro wD E sD;refine ab G G ?_;exact VT
     refine aL ?_ ?_
     ·intro wD E sD;refine aA (aA ?_);refine cD an fE G G G ((hv.le S.le).le sD.le) ck hV (λui ai GC IX=>?_);obtain rfl:(d,s)=ai:=cY (aG (GC.symm.trans (by rw[av];exact hx)));exact ah8
     refine aL ?_ ?_
     ·intro wD E sD;intro v2 Ch;refine cq (A:=RT.fo) bm G fE q0 G G G (show dp (RT.fo) M wD v2 (d,s)from Ch) ck (λva kS=>?_);exact ad ⟨G,G,_,G,kS,bg⟩
     refine aL ?_ ?_
     ·intro wD E sD;refine ab G G ?_;exact VT
     refine aL ?_ ?_
     ·intro wD E sD;refine ab G G ?_;exact VT
     refine aL ?_ ?_
     ·intro wD E sD;refine aA (aA ?_);refine cD an fE G G G ((hu.le S.le).le sD.le) ck hV (λui ai GC IX=>?_);obtain rfl:(e,t)=ai:=cY (aG (GC.symm.trans (by rw[av];exact hy)));exact ah8
     refine aL ?_ ?_
     ·intro wD E sD;intro v6 qE;refine cq (A:=RT.fo) bm G fE q0 G G G (show dp (RT.fo) M wD v6 (e,t)from qE) ck (λva kS=>?_);exact ad ⟨G,G,_,G,kS,bg⟩
     refine aL ?_ ?_
     ·intro wD E sD;intro v3 vm;intro v7 Fi;obtain rfl:=Iz (show RT.fo.V M wD (d,s) v3 from vm);obtain rfl:=Iz (show RT.fo.V M wD (e,t) v7 from Fi);refine Rg.aaS bm am2 am2 al al q0 q0 G G G G G ?_;exact VT
     exact wL
    ·intro wD6 yW;refine aA (aA ?_);intro avT ap5;intro aef VD;refine aA (aA ?_);intro avU ap6;intro avV ap7;refine aA ?_;refine bH G (λc6=>?_) (λc6=>?_)
     ·refine T.aU (Rg.a8 G G (aS ?_));refine aT G G ⟨?_,S.ar yW⟩;rw[decide_eq_false];rintro rfl;rw[hx]at hy;cases hy;exact c6 G
     ·refine aM (ay (ab G G (aX G G G hV (Rg.a8 G G ?_))));refine⟨G,k+1,a11,?_,?_⟩
      ·refine⟨by omega,?_,S.ar yW⟩;obtain⟨_,h1⟩:=ak.1 hx;obtain⟨_,h2⟩:=ak.1 hy;rw[eL hV,eL hV,heq,h1,h2,cF.1 c6]
      ·show a.length-(k+1)<a.length-k;omega
   ·refine de (T.aU (Rg.a8 G G (aS ?_)));refine aT G G ⟨?_,S⟩;rw[decide_eq_true]
    rwa [bM hV,bM hV]at heq
end Go.K
namespace Go.K
open Go.Proofs
namespace TKLaw13
theorem fE:TI Tryz.prog 45 (.agg #[(.int .i64 0),(.int .i64 0)]) 2 16:=by unfold TI;kernel_rfl
theorem qU:placesOf Tryz.prog 45=[(0,1),(1,1)].map some:=by kernel_rfl
theorem E53:Enters Tryz.prog 53:=enters Tryz.func53 rfl q0
theorem E54:Enters Tryz.prog 54:=enters Tryz.func54 rfl q0
end TKLaw13
open TKLaw13
set_option maxRecDepth 10000
theorem D6 {M:aP} {w0:World} (hM:Lt M w0):
  Spec Tryz.prog 12 #[] w0 (λv' w'=>v'= .bool true/\Step M w0 M w' aH):=by
 refine bD (args:=[]) (fn:=Tryz.f12) Tryz.func12 rfl (n:=25) Tryz.ntmps12 (T.aU (Rg.a8 rfl rfl (T.aU (cx (places:=[(0,1),(1,1)]) bm fE qU rfl ⟨_,_,rfl,rfl,_,_,rfl,rfl,rfl⟩ (out:=[_,_]) ⟨0,[_],rfl,rfl,by simp[Value.cells],1,[_],rfl,rfl,by simp[Value.cells],rfl⟩ (cx (places:=[(0,1),(1,1)]) bm fE qU rfl ⟨_,_,rfl,rfl,_,_,rfl,rfl,rfl⟩ (out:=[_,_]) ⟨0,[_],rfl,rfl,by simp[Value.cells],1,[_],rfl,rfl,by simp[Value.cells],rfl⟩ ?_)))));refine Rg.Kp (A:=RT.fo) (hn:=by decide) (M:=M) (xs:=[(1,2),(3,1)]) an fE G q0 G ⟨_,_,_,G,G,G,kX (a:=1) (b:=2) hV hV,_,_,_,G,G,G,kX (a:=3) (b:=1) hV hV,G⟩ G hM (.inl G) q0 (λu1 w1 my s1=>?_);have eD:=s1.lt hM;refine cx (places:=[(0,1),(1,1)]) bm fE qU rfl ⟨_,_,rfl,rfl,_,_,rfl,rfl,rfl⟩ (out:=[_,_]) ⟨0,[_],rfl,rfl,by simp[Value.cells],1,[_],rfl,rfl,by simp[Value.cells],rfl⟩ ?_;refine dT (A:=RT.fo) (hn:=by decide) (M:=M) an fE q0 G G eD (kX (a:=3) (b:=4) hV hV) (.inl G) (λu2 w2 ff s2=>?_);have Js:=s2.lt eD;refine aV G G E53 (Q9 Js (my.le s2.le) ff (by intro p hp;simp at hp;rcases hp with rfl|rfl<;>decide) (by intro p hp;simp at hp;subst hp;decide) q0) (λu3 w3 h=>?_);obtain⟨h3,s3⟩:=h;have PC:=s3.lt Js
 replace h3:((RT.fo).sl).V M w3 [(3,5)] u3:=by
  have e:BB 2 [(1,2),(3,1)] [(3,4)]=[(3,5)]:=by decide
  rw[<-e];exact h3
 refine Rg.a8 G G (T.aU (ab G G (bR an G h3 G (je G G G (ab G G (Rg.ML (g:=11) G (G) (ae G G (ab G G (ae G G ?_)))))))));have hl1:([((3:Int),(5:Int))]:List Fo).length=1:=rfl;refine cD an fE G G G (h3) ck a14 (λavW amM aeC aeD=>?_);obtain rfl:((3:Int),(5:Int))=amM:=cY (aG (aeC.symm.trans rfl));refine ae G G ?_;refine cq (A:=RT.fo) bm G fE q0 G G G aeD ck (λv26 YX=>?_);obtain rfl:=Iz YX;refine ae rfl rfl (cx (places:=[(0,1),(1,1)]) bm fE qU rfl ⟨_,_,rfl,rfl,_,_,rfl,rfl,rfl⟩ (out:=[_,_]) ⟨0,[_],rfl,rfl,by simp[Value.cells],1,[_],rfl,rfl,by simp[Value.cells],rfl⟩ (ae rfl rfl (Rg.adF (c:=true) (λw=>by kernel_rfl) (λw=>by kernel_rfl) G G G (aZ (v':= .bool (decide True)) (by simp) (aN G G G (ab G G (Rg.ML (g:=18) G (trivial) (ae G G ?_))))))));refine Rg.Kp (A:=RT.int .i64) (hn:=by decide) (M:=M) (xs:=[0,4]) aC I3 G q0 G ⟨0,[4],_,G,G,G,iF hV,4,[],_,G,G,G,iF hV,G⟩ G PC (.inr ⟨G,G⟩) q0 (λu4 w4 kU s4=>?_);have Vj:=s4.lt PC;refine ae G G ?_;refine dT (A:=RT.int .i64) (hn:=by decide) (M:=M) aC I3 q0 G G Vj (iF (x:=1) hV) (.inr ⟨G,G⟩) (λu5 w5 gg s5=>?_);have Zi:=s5.lt Vj;refine ae G G ?_;refine Rg.Kp (A:=(RT.int .i64).sl) (hn:=by decide) (M:=M) (xs:=[[0,4],[1]]) gJ qB G q0 G ⟨_,_,_,G,G,G,kU.le s5.le,_,_,_,G,G,G,gg,G⟩ G Zi (.inr ⟨G,G⟩) q0 (λu6 w6 uU s6=>?_);refine ae G G ?_;refine aV G G E54 (CS uU (by intro l hl;simp at hl;rcases hl with rfl|rfl<;>exact⟨by decide,by decide,by decide⟩) q0) (λr w h=>?_);obtain⟨rfl,rfl⟩:=h
 refine aZ (v':= .int .i64 1) (congrArg (Value.int .i64) (show((J5 [[0,4],[1]]:Nat):Int)=1 by decide)) (ae G G (je G G G (aN G G G (Rg.a8 G G (aS ?_)))));exact aT G G ⟨G,(((((s1.ar s2).ar s3).ar s4).ar s5).ar s6)⟩
end Go.K
namespace Go.K
open Go.Proofs
namespace TKRefuses13
theorem AP:TI Tryz.prog 26 (.slice none 0 0) 1 24:=by unfold TI;kernel_rfl
theorem gx:TI Tryz.prog 28 (.agg #[(.int .i64 0),(.string ⟨#[]⟩),(.string ⟨#[]⟩),(.slice none 0 0),(.slice none 0 0)]) 5 88:=by unfold TI;kernel_rfl
theorem E10:Enters Tryz.prog 10:=enters Tryz.func10 rfl q0
theorem E11:Enters Tryz.prog 11:=enters Tryz.func11 rfl q0
theorem E12:Enters Tryz.prog 12:=enters Tryz.func12 rfl q0
theorem Zx:Enters Tryz.prog 13:=enters Tryz.func13 rfl q0
theorem E14:Enters Tryz.prog 14:=enters Tryz.func14 rfl q0
end TKRefuses13
open TKRefuses13
set_option maxRecDepth 10000
theorem nu {L:List En} {q:Qy} (h:L.length<=100000):(if iv q 1=0 then iy (λe=>fJ e.1.2 q) 0 L else[]).length<=140737488355328:=by
 split
 ·have:=mi (f:=λe=>fJ e.1.2 q) L 0;omega
 ·exact bA _
end Go.K
namespace Go.K
open Go.Proofs
namespace TKR12C
theorem AP:TI Tryz.prog 26 (.slice none 0 0) 1 24:=by unfold TI;kernel_rfl
theorem gx:TI Tryz.prog 28 (.agg #[(.int .i64 0),(.string ⟨#[]⟩),(.string ⟨#[]⟩),(.slice none 0 0),(.slice none 0 0)]) 5 88:=by unfold TI;kernel_rfl
theorem LS:placesOf Tryz.prog 28=[(0,1),(1,2),(3,1),(4,1)].map some:=by kernel_rfl
theorem E17:Enters Tryz.prog 17:=enters Tryz.func17 rfl q0
theorem E59:Enters Tryz.prog 59:=enters Tryz.func59 rfl q0
end TKR12C
open TKR12C
set_option maxRecDepth 10000
theorem nv (q:Qy) (deep:Nat):fL q deep=if(2<=fK q.kind/\fK q.kind<=4)/\deep<4/\¬q.kids=[]then .mk (fK q.kind) ([],[]) [] ((q.kids.map λx=>fL x (deep+1)).take (if fK q.kind=4 then 1 else 3))else if fK q.kind=5/\¬j7 q.words=[]then .mk 5 (eZ q.term.1,[]) (j7 q.words) []else J9 q.term:=by
 obtain⟨k,t,ws,ks⟩:=q;rw[fL,uc];rfl
theorem GL {M:aP} {w:World} {q:Qy} {v:Value} {mm:Nat} (h:(RT.qy 0).V M w q v):(RT.qy mm).V M w q v:=by have:=NH h mm;rwa [oH]at this
theorem MI {p:Prop} [Decidable p] (h: ¬p):some (Value.bool false)=some (Value.bool (decide p)):=by rw[decide_eq_false h]
theorem J9y {a b c:Prop} [Decidable a] [Decidable b] [Decidable c] (h:a) (h2:b):some (Value.bool (decide c))=some (Value.bool (decide (a/\b/\c))):=congrArg _ (congrArg _ (decide_eq_decide.2 ⟨λx=>⟨h,h2,x⟩,λx=>x.2.2⟩))
theorem Uo (k:Int):0<=DV k/\1+DV k%5=fK k:=⟨by unfold DV;split<;>omega,rfl⟩
theorem Ba {M:aP} {n:Nat} {q:Qy} {v:Value} {deep mm:Nat} (w0:World) (hM:Lt M w0) (hv:(RT.qy (n+1)).V M w0 q v) (hs:G3 q) (hd:deep<=4) (ih:deep<4->∃m',mm=m'+1/\∀x∈q.kids,∀(Kl:Nat) (M:aP) (w:World) (v:Value),Kl=deep+1->Lt M w->(RT.qy n).V M w x v->Spec Tryz.prog 17 #[v,.int .i64 (Kl:Int)] w (λv' w'=>(RT.qy m').V M w' (fL x Kl) v'∧Step M w M w' aH)):
  Spec Tryz.prog 17 #[v,.int .i64 (deep:Int)] w0 (λv w=>(RT.qy mm).V M w (fL q deep) v/\Step M w0 M w aH):=by
 have jq:=hM;obtain⟨Uz,hsk⟩:=szQ.1 hs;have sk:=hv;obtain⟨_,_,_,YV,uF,_,_⟩:=ox sk;clear sk;have hkg:=CO q.kind;have GC:=Uo q.kind;have Bq:(eZ q.term.1).length<=140737488355328:=by unfold eZ;split;exact uF.1;decide
 have Zy:(if dh q.term.2=true then q.term.2 else[97]).length<=140737488355328:=by split;exact uF.2;decide
 have hct:(if fK q.kind=4 then 1 else 3)<=3:=by split<;>decide
 have oK:([]:List UInt8).length<=140737488355328:=by decide
 refine bD (args:=[_,_]) (fn:=Tryz.f17) Tryz.func17 G (n:=128) Tryz.ntmps17 ?_;have S:Step M w0 M w0 aH:=bg;refine T.aU ?_;refine fO (A:=RT.qy (n+1)) (a:=q) G G hM hv (ec _) (λu2 LQ ff k4 _=>?_);replace hv:=hv.le k4.le;replace hM:=k4.lt hM;have:=S.size;replace S:=S.ar k4;refine eu M gx G (λgz tS HF HG cN iN=>?_);obtain⟨fi,gL⟩:∃M',M'=ins M gz:=⟨_,rfl⟩;rw[<-gL]at iN;have b9:fi gz:=by rw[gL];exact .inl G
 change tS.heap[gz]? =some (.cells #[.int .i64 0,.string ⟨#[]⟩,.string ⟨#[]⟩,.slice none 0 0,.slice none 0 0] _ _)at cN;replace ff:=ff.le (aO _) iN.le;replace hM:=iN.lt hM;have:=S.size;replace S:=S.ar iN;refine ad (T.aU ?_);refine aw (A:=RT.qy (n+1)) (B:=RT.fd) ax G G nL q0 (KM n) G G (aO _) ff ck (λJy fI=>?_);refine aw (A:=RT.fd) (B:=RT.str) bS G G I9 q0 Mw G G q0 fI ck (λu11 jc=>?_);refine bV aE G G G G G jc ck (λv12 QI=>?_);obtain rfl:=eF QI;refine Rg.a8 G G (T.aU (ab G G ?_));refine aV G G E58 (tP q.term.1 uF.1 _) (λr21 w21 hc=>?_);obtain⟨rfl,rfl⟩:=hc;refine Rg.a8 G G ?_;refine T.l8 [(1,.int .i64 (deep:Int)),(2,u2),(4,.pointer (some ⟨gz,0,none⟩)),(5,sv (eZ q.term.1))] ?_ ?_
 ·refine T.aU (ab rfl rfl (jd rfl rfl (aZ (v':= .bool (decide (eK q.term.1=false))) (by cases eK q.term.1<;>rfl) (ad ?_))));refine bH G (λc3=>?_) (λc3=>?_)
  ·refine ay (Rg.a8 G G ?_);exact⟨G,G,G,.cons G ae4⟩
  ·refine aM ?_;exact⟨G,G,G,.cons G ae4⟩
 ·refine T.aU ?_;refine aw (A:=RT.qy (n+1)) (B:=RT.int .i64) ax G G I3 q0 (Su n) G G (aO _) ff ck (λu50 Y2=>?_);refine bX al G G Y2 ck (λagc=>?_);refine aZ (v':= .int .i64 q.kind) G (Rg.a8 G G ?_);refine T.l8 [(1,.int .i64 (deep:Int)),(2,u2),(4,.pointer (some ⟨gz,0,none⟩)),(5,sv (eZ q.term.1)),(7,.int .i64 (DV q.kind))] ?_ ?_
  ·refine T.aU (ab G G (cH G G G (ad ?_)));refine bH G (λc6=>?_) (λc6=>?_)
   ·refine ay (ab G G (aX G G G hV (Rg.neg G G hV (Rg.a8 G G ?_))));exact⟨G,G,G,.cons G (.cons G (.cons G (.cons G (.cons (congrArg (λz=>some (Value.int .i64 z)) (by unfold DV;first|rw[if_pos c6]|rw[if_neg c6])) (.nil)))))⟩
   ·refine aM ?_;exact⟨G,G,G,.cons G (.cons G (.cons G (.cons G (.cons (congrArg (λz=>some (Value.int .i64 z)) (by unfold DV;first|rw[if_pos c6]|rw[if_neg c6])) (.nil)))))⟩
  ·refine T.aU (ab rfl rfl (Rg.yx rfl rfl rfl ⟨GC.1,by decide⟩ (aX rfl rfl rfl hV (aZ (v':= .int .i64 (fK q.kind)) G (Rg.a8 G G (aQ ?_))))));refine T.l8 [(1,.int .i64 (deep:Int)),(2,u2),(4,.pointer (some ⟨gz,0,none⟩)),(5,sv (eZ q.term.1)),(7,.int .i64 (fK q.kind)),(48,.bool (decide ((2<=fK q.kind/\fK q.kind<=4)/\(deep:Int)<4/\0<(q.kids.length:Int))))] ?_ ?_
   ·refine ay (ab G G (cu G G G (ab G G ?_)));refine aB (g:=35) G (λp6=>?_) (λp6=>?_)
    ·refine ae G G (ab G G (ae G G (gr G G G (aN G G G (ab G G ?_)))));refine aB (g:=39) G (λD7=>?_) (λD7=>?_)
     ·refine ae G G (ab G G (ae G G (cH G G G (aN G G G (ab G G ?_)))));refine aB (g:=43) G (λwo=>?_) (λwo=>?_)
      ·refine ae G G ?_;refine aw (A:=RT.qy (n+1)) (B:=((RT.qy n).sl (aO n))) ax G G AP Nat.one_pos (NI n) G G (aO _) ff ck (λavX aeF=>?_);refine ae G G ?_;refine bV cr G G G G G aeF ck (λavY VI=>?_);refine ae G G ?_;have G1:=dJ VI;refine bR (A:=RT.qy n) (hn:=aO _) cr G VI G (ae G G (fR G G G (aN G G G (ad ?_))));exact⟨G,G,G,.cons G a19⟩
      ·refine aj G G G G (aj G G G G (aj G G G G (aj G G G G (au G G G (ad ?_)))));exact⟨G,G,G,.cons G a19⟩
     ·refine aj G G G G (aj G G G G (au G G G (ab G G (aj G G G G (aj G G G G (aj G G G G (aj G G G G (au G G G (ad ?_)))))))));exact⟨G,G,G,.cons G a19⟩
    ·refine aj G G G G (aj G G G G (au G G G (ab G G (aj G G G G (aj G G G G (au G G G (ab G G (aj G G G G (aj G G G G (aj G G G G (aj G G G G ?_)))))))))));refine au G G G (ad ?_);exact⟨G,G,G,.cons G a19⟩
   ·refine bH G (λc9=>?_) (λc9=>?_)
    ·obtain⟨m,rfl,ihk⟩:=ih hV;have Z5: ¬q.kids=[]:=λe=>by rw[e]at c9;simp at c9
     refine T.aU (ab rfl rfl (cx (places:=[(0,1),(1,2),(3,1),(4,1)]) ax gx LS rfl ⟨_,_,rfl,rfl,rfl⟩ (out:=[_,.string ⟨#[]⟩,.string ⟨#[]⟩,.slice none 0 0,.slice none 0 0]) ⟨0,[_],rfl,rfl,by simp[Value.cells],rfl⟩ ?_));refine eu fi gx G (λyn Vh ap8 ap9 yo vI=>?_);obtain⟨Rn,Km⟩:∃M',M'=ins fi yn:=⟨_,rfl⟩;rw[<-Km]at vI;have wu:Rn yn:=by rw[Km];exact .inl G
     change Vh.heap[yn]? =some (.cells #[.int .i64 0,.string ⟨#[]⟩,.string ⟨#[]⟩,.slice none 0 0,.slice none 0 0] _ _)at yo;have:=ah cN;replace b9:=(vI.mem _ this).2 b9;replace cN:=vI.aF cN;replace ff:=ff.le (aO _) vI.le;replace hM:=vI.lt hM;have:=S.size;replace S:=S.ar vI;refine dm (M:=Rn) (vs:=[.int .i64 (fK q.kind),.string ⟨#[]⟩,.string ⟨#[]⟩,.slice none 0 0,.slice none 0 0]) gx G G a71 rfl rfl yo wu (λw10 g10 tQ=>?_);have:=ah cN;replace b9:=(tQ.mem _ this).2 b9;replace cN:=tQ.bY cN a05;have:=ah yo;replace wu:=(tQ.mem _ this).2 wu;replace ff:=ff.le (aO _) tQ.le;replace hM:=tQ.lt hM;have:=S.size;replace S:=S.trans tQ (λk hk h=>by have h:_=_:=h;subst h;first|(exfalso;omega)|(show _<=_;omega)|exact⟨by first|omega|assumption,(S.mem _ hk).1 ((tQ.mem _ (ah yo)).1 wu)⟩|exact .inl rfl|exact .inr rfl|exact .inr (.inl rfl)|exact .inr (.inr rfl)|exact .inr (.inr (.inl rfl))|exact rfl);have Ro:=g10;clear yo;have yo:=Ro;clear Ro;refine ad (T.aU ?_);obtain⟨B,hBe⟩:∃B,B=w10.heap.size:=⟨_,rfl⟩;have xO:gz<B/\yn<B/\w0.heap.size<=B:=⟨by have:=ah cN;omega,by have:=ah yo;omega,by have:=S.size;omega⟩;refine Rg.a8 G G ?_;refine T.l8 [(1,.int .i64 (deep:Int)),(2,u2),(4,.pointer (some ⟨gz,0,none⟩)),(8,.pointer (some ⟨yn,0,none⟩)),(9,.int .i64 ((if fK q.kind=4 then 1 else 3:Nat):Int))] ?_ ?_
     ·refine T.aU (ab G G (je G G G (ad ?_)));refine bH G (λET=>?_) (λET=>?_)
      ·refine ay (Rg.a8 G G ?_);exact⟨G,G,G,.cons G (.cons G (.cons G (.cons G (.cons (congrArg (λz:Nat=>some (Value.int .i64 (z:Int))) (by first|rw[if_pos ET]|rw[if_neg ET])) (.nil)))))⟩
      ·refine aM ?_;exact⟨G,G,G,.cons G (.cons G (.cons G (.cons G (.cons (congrArg (λz:Nat=>some (Value.int .i64 (z:Int))) (by first|rw[if_pos ET]|rw[if_neg ET])) (.nil)))))⟩
     ·refine aQ (T.aU (Rg.a8 G G (bp ?_)));refine dz (σ:=Nat×Value) (λq'=>[(1,.int .i64 (deep:Int)),(2,u2),(4,.pointer (some ⟨gz,0,none⟩)),(8,.pointer (some ⟨yn,0,none⟩)),(9,.int .i64 ((if fK q.kind=4 then 1 else 3:Nat):Int)),(10,.int .i64 (q'.1:Int))]) (λq' w=>∃M',Lt M' w/\Step M w0 M' w aH/\dp (RT.qy (n+1)) M' w u2 q/\w.heap[gz]? =some (.cells #[.int .i64 0,.string ⟨#[]⟩,.string ⟨#[]⟩,.slice none 0 0,.slice none 0 0] 28 (0,0))/\M' gz/\w.heap[yn]? =some (.cells #[.int .i64 (fK q.kind),.string ⟨#[]⟩,.string ⟨#[]⟩,.slice none 0 0,q'.2] 28 (0,0))/\M' yn/\Own (RT.qy m) 28 M' w B q'.2 ((q.kids.map λx=>fL x (deep+1)).take q'.1)/\B<=w.heap.size/\q'.1<=q.kids.length/\q'.1<=(if fK q.kind=4 then 1 else 3:Nat)) (λq'=>q.kids.length-q'.1) (0,.slice none 0 0) a04 ?_ ?_
      ·exact⟨_,hM,S,ff,cN,b9,yo,wu,ep _ _ _ _ _,Nat.le_of_eq hBe,bA _,bA _⟩
      ·clear hM S ff cN b9;rintro⟨i,vk⟩ w ⟨M2,hM,S,ff,cN,b9,g8,gh,fh,hB,hi⟩;dsimp only at g8 fh hi ⊢;refine aQ (T.aU (ab G G ?_));refine aw (A:=RT.qy (n+1)) (B:=((RT.qy n).sl (aO n))) ax G G AP Nat.one_pos (NI n) G G (aO _) ff ck (λav0 aeG=>?_);refine bV cr G G G G G aeG ck (λv152 VJ=>?_);have G1:=dJ VJ;refine bR (A:=RT.qy n) (hn:=aO _) cr G VJ G (cH G G G (ab G G ?_));refine aB (g:=58) G (λJQ=>?_) (λJQ=>?_)
       ·refine ae G G (ab G G (ae G G (ab G G (ae G G (cH G G G (aN G G G (ad ?_)))))));refine bH G (λyz=>?_) (λyz=>?_)
        ·refine aM (aQ (bp ?_));apply T.rf 9 [0,1] 2 aH mixed rfl rfl rfl rfl;intro Yh amR;have vK:=amR M2;have:=ah cN;replace b9:=(vK.mem _ this).2 b9;replace cN:=vK.aF cN;have:=ah g8;replace gh:=(vK.mem _ this).2 gh;replace g8:=vK.aF g8;replace ff:=ff.le (aO _) vK.le;replace fh:=fh.br vK;replace hM:=vK.lt hM;have:=S.size;replace S:=S.ar vK;refine a7 (o':=4) ax G G AP q0 G G (Rg.dI (aR cr G G G (by first|assumption|exact cp vK VR) G (Rg.dI ?_)));refine aw (A:=RT.qy (n+1)) (B:=((RT.qy n).sl (aO n))) ax G G AP Nat.one_pos (NI n) G G (aO _) ff ck (λav1 aeH=>?_);refine Rg.dI ?_;refine bV cr G G G G G aeH ck (λv173 aeI=>?_);refine Rg.dI (ab G G (Rg.dI ?_));obtain⟨x,hx⟩:∃x,(q.kids)[i]? =some x:=⟨_,aq hV⟩;refine cD (A:=RT.qy n) (hn:=aO _) (M:=M2) cr (IQ gx _) G G G aeI ck hV (λav2 x_ ke aeJ=>?_);rw[av]at ke;obtain rfl:=aG (hx.symm.trans ke);refine Rg.dI ?_;refine cq (A:=RT.qy (n)) ax G (IQ gx _) (aO _) (ec _) G G aeJ ck (λav3 aeK=>?_);refine Rg.dI (ab G G (Rg.dI (aX G G G hV (aZ (v':= .int .i64 ((deep+1:Nat):Int)) (by congr 1) (Rg.dI (gV (⟨kV ⟨kE ax G AP q0,⟨gX G g8 (λh=>h),trivial⟩⟩,?_⟩)))))));have kp:=nH aH Yh;refine aV G G E17 (ihk x (ao hx) (deep+1) _ _ _ G hM aeK) (λr9 w9 hc=>?_);obtain⟨Zz,s9⟩:=hc;have:=ah cN;replace b9:=(s9.mem _ this).2 b9;replace cN:=s9.aF cN;have:=ah g8;replace gh:=(s9.mem _ this).2 gh;replace g8:=s9.aF g8;replace ff:=ff.le (aO _) s9.le
         replace fh:=fh.br s9;replace hM:=s9.lt hM;have:=S.size;replace S:=S.ar s9;refine(fun(kp:ga _ _ _)=>ad ⟨G,G,λ_=>kp,?_⟩) a02;refine dT (A:=RT.qy m) (hn:=aO _) (M:=M2) cr (IQ gx _) (by rw[tJ];decide) rfl rfl hM (Zz) (.inl (ec _)) (λamS amT wx nw=>?_);have:=ah cN;replace b9:=(nw.mem _ this).2 b9;replace cN:=nw.aF cN;have:=ah g8;replace gh:=(nw.mem _ this).2 gh;replace g8:=nw.aF g8;replace ff:=ff.le (aO _) nw.le;replace Zz:=Zz.le nw.le;replace fh:=fh.br nw;replace hM:=nw.lt hM;have:=S.size;replace S:=S.ar nw;refine(fun(kp:ga _ _ _)=>ad ⟨G,G,λ_=>kp,?_⟩) a02;refine cI (M:=M2) (base:=B) cr (IQ gx _) (by rw[tJ];rfl) rfl rfl rfl fh wx ck (by rw[bI,cg,eS];omega) (by rw[bI,cg,eS];omega) (by have h1:=vK.size;have h2:=s9.size;have h3:=nw.size;omega) (λRp ZA amU Up oD=>?_);have:=ah cN;replace b9:=(oD.mem _ this).2 b9;replace cN:=oD.bY cN (λh=>by have h1:=(fh.base _ h).1;have h2:=xO.1;omega);have:=ah g8;replace gh:=(oD.mem _ this).2 gh;replace g8:=oD.bY g8 (λh=>by have h1:=(fh.base _ h).1;have h2:=xO.2.1;omega);replace ff:=ff.le (aO _) oD.le;replace Zz:=Zz.le oD.le;replace wx:=wx.le oD.le;replace hM:=oD.lt hM;have:=S.size;replace S:=S.cf oD fh xO.2.2;replace fh:=Up;refine ad ⟨G,G,λh=>absurd G h,a7 (o':=4) ax G G AP q0 G G (ad ⟨G,G,λh=>absurd G h,?_⟩)⟩
         refine cA (M:=ZA) AP rfl rfl g8 rfl (by obtain⟨_,_,he,_⟩:=fh.isSlice;rw[he];rfl) gh (λZB Rq ny=>?_);change ZB.heap[_]? =some (Obj.cells #[.int .i64 (fK q.kind),.string ⟨#[]⟩,.string ⟨#[]⟩,.slice none 0 0,Rp] _ _)at Rq;have:=ah cN;replace b9:=(ny.mem _ this).2 b9;replace cN:=ny.bY cN a05;have:=ah g8;replace gh:=(ny.mem _ this).2 gh;replace ff:=ff.le (aO _) ny.le;replace Zz:=Zz.le ny.le;replace wx:=wx.le ny.le;replace fh:=fh.step ny (λc hc (h:c=_)=>by have h1:=(fh.base c hc).1;have h2:=xO.1;have h3:=xO.2.1;omega);replace hM:=ny.lt hM;have:=S.size;replace S:=S.trans ny (λk hk h=>by have h:_=_:=h;subst h;first|(exfalso;omega)|(show _<=_;omega)|exact⟨by first|omega|assumption,(S.mem _ hk).1 ((ny.mem _ (ah g8)).1 gh)⟩|exact .inl rfl|exact .inr rfl|exact .inr (.inl rfl)|exact .inr (.inr rfl)|exact .inr (.inr (.inl rfl))|exact rfl);have g8_:=Rq;clear g8;have g8:=g8_;clear g8_;refine ad ⟨G,G,λh=>absurd G h,tf (ay (ab G G (aX G G G hV (Rg.a8 G G ?_))))⟩;refine⟨G,(i+1,Rp),a04,?_,?_⟩
         ·exact⟨_,hM,S,ff,cN,b9,g8,gh,by rw[cj,eX,hx];exact fh,by have h1:=vK.size;have h2:=s9.size;have h3:=nw.size;have h4:=oD.size;have h5:=ny.size;omega,by omega,by omega⟩
         ·dsimp only;omega
        ·refine de (T.aU (eM (vs:=[.int .i64 (fK q.kind),.string ⟨#[]⟩,.string ⟨#[]⟩,.slice none 0 0,vk]) ax G gx G G G g8 ?_));refine dm (M:=M2) (vs:=[.int .i64 (fK q.kind),.string ⟨#[]⟩,.string ⟨#[]⟩,.slice none 0 0,vk]) gx G G ak5 rfl rfl cN b9 (λw18 g18 GM=>?_);have:=ah cN;replace b9:=(GM.mem _ this).2 b9;have:=ah g8;replace gh:=(GM.mem _ this).2 gh;replace g8:=GM.bY g8 a05;replace ff:=ff.le (aO _) GM.le;replace fh:=fh.step GM (λc hc (h:c=_)=>by have h1:=(fh.base c hc).1;have h2:=xO.1;have h3:=xO.2.1;omega);replace hM:=GM.lt hM;have:=S.size;replace S:=S.trans GM (λk hk h=>by have h:_=_:=h;subst h;first|(exfalso;omega)|(show _<=_;omega)|exact⟨by first|omega|assumption,(S.mem _ hk).1 ((GM.mem _ (ah cN)).1 b9)⟩|exact .inl rfl|exact .inr rfl|exact .inr (.inl rfl)|exact .inr (.inr rfl)|exact .inr (.inr (.inl rfl))|exact rfl);have gq:=g18;clear cN;have cN:=gq;clear gq;refine ad (aS ?_);have Dn:=kH (hn:=aO m) jq S (fh.jv xO.2.2) (by rw[bI,cg];omega);refine kO (vs:=[.int .i64 (fK q.kind),.string ⟨#[]⟩,.string ⟨#[]⟩,.slice none 0 0,vk]) G G ax G gx G cN ⟨?_,S.back⟩;rw[nv,if_pos ⟨c9.1,by omega,Z5⟩,iH.2 (show min (if fK q.kind=4 then 1 else 3:Nat) (q.kids.map λx=>fL x (deep+1)).length=min i (q.kids.map λx=>fL x (deep+1)).length by rw[cg];omega)];exact x7 ⟨by omega,by omega⟩ ⟨oK,oK⟩ ib Dn
       ·refine aj G G G G (aj G G G G (aj G G G G (au G G G (ad (fQ G (de (T.aU (eM (vs:=[.int .i64 (fK q.kind),.string ⟨#[]⟩,.string ⟨#[]⟩,.slice none 0 0,vk]) ax G gx G G G g8 ?_))))))));refine dm (M:=M2) (vs:=[.int .i64 (fK q.kind),.string ⟨#[]⟩,.string ⟨#[]⟩,.slice none 0 0,vk]) gx G G ak5 rfl rfl cN b9 (λw18 g18 GM=>?_);have:=ah cN;replace b9:=(GM.mem _ this).2 b9;have:=ah g8;replace gh:=(GM.mem _ this).2 gh;replace g8:=GM.bY g8 a05;replace ff:=ff.le (aO _) GM.le;replace fh:=fh.step GM (λc hc (h:c=_)=>by have h1:=(fh.base c hc).1;have h2:=xO.1;have h3:=xO.2.1;omega);replace hM:=GM.lt hM;have:=S.size;replace S:=S.trans GM (λk hk h=>by have h:_=_:=h;subst h;first|(exfalso;omega)|(show _<=_;omega)|exact⟨by first|omega|assumption,(S.mem _ hk).1 ((GM.mem _ (ah cN)).1 b9)⟩|exact .inl rfl|exact .inr rfl|exact .inr (.inl rfl)|exact .inr (.inr rfl)|exact .inr (.inr (.inl rfl))|exact rfl);have gq:=g18;clear cN;have cN:=gq;clear gq;refine ad (aS ?_);have Dn:=kH (hn:=aO m) jq S (fh.jv xO.2.2) (by rw[bI,cg];omega);refine kO (vs:=[.int .i64 (fK q.kind),.string ⟨#[]⟩,.string ⟨#[]⟩,.slice none 0 0,vk]) G G ax G gx G cN ⟨?_,S.back⟩;rw[nv,if_pos ⟨c9.1,by omega,Z5⟩,iH.2 (show min (if fK q.kind=4 then 1 else 3:Nat) (q.kids.map λx=>fL x (deep+1)).length=min i (q.kids.map λx=>fL x (deep+1)).length by rw[cg];omega)];exact x7 ⟨by omega,by omega⟩ ⟨oK,oK⟩ ib Dn
    ·have h9: ¬((2<=fK q.kind/\fK q.kind<=4)/\deep<4/\¬q.kids=[]):=λh=>c9 ⟨h.1,by omega,by have:=eA.2 h.2.2;omega⟩
     refine aM (aQ (T.aU (ab G G (je G G G (ad ?_)))));refine bH G (λUL=>?_) (λUL=>?_)
     ·refine T.aU (ab rfl rfl (cx (places:=[(0,1),(1,1)]) bS nL WC rfl ⟨_,_,rfl,rfl,rfl⟩ (out:=[_,.string ⟨#[]⟩]) ⟨0,[_],rfl,rfl,by simp[Value.cells],rfl⟩ (cx (places:=[(0,1),(1,2),(3,1),(4,1)]) ax gx LS rfl ⟨_,_,rfl,rfl,_,_,rfl,rfl,rfl⟩ (out:=[_,_,_,.slice none 0 0,.slice none 0 0]) ⟨0,[_],rfl,rfl,by simp[Value.cells],1,[_,_],rfl,rfl,by simp[Value.cells],rfl⟩ ?_)));refine eu fi gx G (λBb aeM aqa aqb yp CZ=>?_);obtain⟨Rr,Kn⟩:∃M',M'=ins fi Bb:=⟨_,rfl⟩;rw[<-Kn]at CZ;have wy:Rr Bb:=by rw[Kn];exact .inl G
      change aeM.heap[Bb]? =some (.cells #[.int .i64 0,.string ⟨#[]⟩,.string ⟨#[]⟩,.slice none 0 0,.slice none 0 0] _ _)at yp;have:=ah cN;replace b9:=(CZ.mem _ this).2 b9;replace cN:=CZ.aF cN;replace ff:=ff.le (aO _) CZ.le;replace hM:=CZ.lt hM;have:=S.size;replace S:=S.ar CZ;refine dm (M:=Rr) (vs:=[.int .i64 5,sv (eZ q.term.1),.string ⟨#[]⟩,.slice none 0 0,.slice none 0 0]) gx G G a71 rfl rfl yp wy (λw20 g20 ZD=>?_);have:=ah cN;replace b9:=(ZD.mem _ this).2 b9;replace cN:=ZD.bY cN a05;have:=ah yp;replace wy:=(ZD.mem _ this).2 wy;replace ff:=ff.le (aO _) ZD.le;replace hM:=ZD.lt hM;have:=S.size;replace S:=S.trans ZD (λk hk h=>by have h:_=_:=h;subst h;first|(exfalso;omega)|(show _<=_;omega)|exact⟨by first|omega|assumption,(S.mem _ hk).1 ((ZD.mem _ (ah yp)).1 wy)⟩|exact .inl rfl|exact .inr rfl|exact .inr (.inl rfl)|exact .inr (.inr rfl)|exact .inr (.inr (.inl rfl))|exact rfl);have Rs:=g20;clear yp;have yp:=Rs;clear Rs;refine ad (aQ (T.aU ?_));obtain⟨B,hBe⟩:∃B,B=w20.heap.size:=⟨_,rfl⟩;have xO:gz<B/\Bb<B/\w0.heap.size<=B:=⟨by have:=ah cN;omega,by have:=ah yp;omega,by have:=S.size;omega⟩;refine Rg.a8 G G (bp ?_);refine dz (σ:=Nat×Value) (λq'=>[(1,.int .i64 (deep:Int)),(2,u2),(4,.pointer (some ⟨gz,0,none⟩)),(5,sv (eZ q.term.1)),(11,.pointer (some ⟨Bb,0,none⟩)),(12,.int .i64 (q'.1:Int))]) (λq' w=>∃M',Lt M' w/\Step M w0 M' w aH/\dp (RT.qy (n+1)) M' w u2 q/\w.heap[gz]? =some (.cells #[.int .i64 0,.string ⟨#[]⟩,.string ⟨#[]⟩,.slice none 0 0,.slice none 0 0] 28 (0,0))/\M' gz/\w.heap[Bb]? =some (.cells #[.int .i64 5,sv (eZ q.term.1),.string ⟨#[]⟩,q'.2,.slice none 0 0] 28 (0,0))/\M' Bb/\Own RT.str 9 M' w B q'.2 ((q.words.take q'.1).filter dh)/\B<=w.heap.size/\q'.1<=q.words.length/\q'.1<=3) (λq'=>q.words.length-q'.1) (0,.slice none 0 0) a04 ?_ ?_
      ·exact⟨_,hM,S,ff,cN,b9,yp,wy,ep _ _ _ _ _,Nat.le_of_eq hBe,bA _,bA _⟩
      ·clear hM S ff cN b9;rintro⟨i,vk⟩ w ⟨M2,hM,S,ff,cN,b9,g8,gh,py,hB,hi⟩;dsimp only at g8 py hi ⊢;refine aQ (T.aU (ab G G ?_));refine aw (A:=RT.qy (n+1)) (B:=(RT.str.sl)) ax G G x8 q0 (RC n) G G (aO _) ff ck (λav6 aeN=>?_);refine bV aI G G G G G aeN ck (λv222 VK=>?_);have UP:=dJ VK;refine bR aI G VK G (cH G G G (ab G G ?_));refine aB (g:=89) G (λaeO=>?_) (λaeO=>?_)
       ·refine ae G G (ab G G (ae G G (cH G G G (aN G G G (ad ?_)))));refine bH G (λc22=>?_) (λc22=>?_)
        ·refine aM (aQ (bp (T.aU ?_)));refine aw (A:=RT.qy (n+1)) (B:=(RT.str.sl)) ax G G x8 q0 (RC n) G G (aO _) ff ck (λav7 aeP=>?_);refine bV aI G G G G G aeP ck (λav8 aeQ=>?_);refine ab G G ?_;obtain⟨x,hx⟩:∃x,q.words[i]? =some x:=⟨_,aq hV⟩;have hwo:=Uz.w x (ao hx);refine cD aI I9 G G G aeQ ck hV (λawa x_ ke aeR=>?_);rw[av]at ke;obtain rfl:=aG (hx.symm.trans ke);refine bV aE G G G G G aeR ck (λawb aeS=>?_);obtain rfl:=eF aeS;refine aV G G E59 (qg _ hM hwo) (λawc awd hc=>?_);obtain⟨rfl,Bc⟩:=hc;have:=ah cN;replace b9:=(Bc.mem _ this).2 b9;replace cN:=Bc.aF cN;have:=ah g8;replace gh:=(Bc.mem _ this).2 gh;replace g8:=Bc.aF g8;replace ff:=ff.le (aO _) Bc.le;replace py:=py.br Bc;replace hM:=Bc.lt hM;have:=S.size;replace S:=S.ar Bc;refine Rg.a8 G G (T.aU (ab G G (aZ (v':= .bool (decide (dh x=true))) (by simp) (ad ?_))));refine bH G (λWN=>?_) (λWN=>?_)
         ·apply T.rf 7 [0,1] 1 aH mixed rfl rfl rfl rfl;intro amV amW;have Bd:=amW M2;have:=ah cN;replace b9:=(Bd.mem _ this).2 b9;replace cN:=Bd.aF cN;have:=ah g8;replace gh:=(Bd.mem _ this).2 gh;replace g8:=Bd.aF g8;replace ff:=ff.le (aO _) Bd.le;replace py:=py.br Bd;replace hM:=Bd.lt hM;have:=S.size;replace S:=S.ar Bd;refine a7 (o':=3) ax G G x8 q0 G G (Rg.dI (aR aI G G G (by first|assumption|exact cp Bd VR) G (Rg.dI ?_)));refine aw (A:=RT.qy (n+1)) (B:=(RT.str.sl)) ax G G x8 q0 (RC n) G G (aO _) ff ck (λawe aeT=>?_);refine Rg.dI ?_;refine bV aI G G G G G aeT ck (λawf aeU=>?_);refine Rg.dI (ab G G (Rg.dI ?_));refine cD aI I9 G G G aeU ck hV (λawg x_ ke aeV=>?_);rw[av]at ke;obtain rfl:=aG (hx.symm.trans ke);refine Rg.dI ?_;refine bV aE G G G G G aeV ck (λawh aeW=>?_);refine Rg.dI (gV (⟨kV ⟨kE ax G x8 q0,⟨gX G g8 (λh=>h),trivial⟩⟩,?_⟩));have kp:=nH aH amV;refine dT (A:=RT.str) (hn:=by decide) (M:=M2) aI I9 q0 G G hM (aeW) (.inr ⟨G,G⟩) (λaqc aqd Be td=>?_);have:=ah cN;replace b9:=(td.mem _ this).2 b9;replace cN:=td.aF cN;have:=ah g8;replace gh:=(td.mem _ this).2 gh;replace g8:=td.aF g8;replace ff:=ff.le (aO _) td.le;replace py:=py.br td;replace hM:=td.lt hM;have:=S.size;replace S:=S.ar td;refine(fun(kp:ga _ _ _)=>ad ⟨G,G,λ_=>kp,?_⟩) a02
          have hfw:=fA dh (q.words.take i);rw[bI]at hfw;refine cI (M:=M2) (base:=B) aI I9 rfl rfl rfl rfl py Be ck a06 a06 (by have h0:=Bc.size;have h1:=Bd.size;have h3:=td.size;omega) (λVL aeX aqe ZE wz=>?_);have:=ah cN;replace b9:=(wz.mem _ this).2 b9;replace cN:=wz.bY cN (λh=>by have h1:=(py.base _ h).1;have h2:=xO.1;omega);have:=ah g8;replace gh:=(wz.mem _ this).2 gh;replace g8:=wz.bY g8 (λh=>by have h1:=(py.base _ h).1;have h2:=xO.2.1;omega);replace ff:=ff.le (aO _) wz.le;replace Be:=Be.le wz.le;replace hM:=wz.lt hM;have:=S.size;replace S:=S.cf wz py xO.2.2;replace py:=ZE;refine ad ⟨G,G,λh=>absurd G h,a7 (o':=3) ax G G x8 q0 G G (ad ⟨G,G,λh=>absurd G h,?_⟩)⟩;refine cA (M:=aeX) x8 rfl rfl g8 rfl (by obtain⟨_,_,he,_⟩:=py.isSlice;rw[he];rfl) gh (λZF Rt oE=>?_);change ZF.heap[_]? =some (Obj.cells #[.int .i64 5,sv (eZ q.term.1),.string ⟨#[]⟩,VL,.slice none 0 0] _ _)at Rt;have:=ah cN;replace b9:=(oE.mem _ this).2 b9;replace cN:=oE.bY cN a05;have:=ah g8;replace gh:=(oE.mem _ this).2 gh;replace ff:=ff.le (aO _) oE.le;replace Be:=Be.le oE.le;replace py:=py.step oE (λc hc (h:c=_)=>by have h1:=(py.base c hc).1;have h2:=xO.1;have h3:=xO.2.1;omega);replace hM:=oE.lt hM;have:=S.size;replace S:=S.trans oE (λk hk h=>by have h:_=_:=h;subst h;first|(exfalso;omega)|(show _<=_;omega)|exact⟨by first|omega|assumption,(S.mem _ hk).1 ((oE.mem _ (ah g8)).1 gh)⟩|exact .inl rfl|exact .inr rfl|exact .inr (.inl rfl)|exact .inr (.inr rfl)|exact .inr (.inr (.inl rfl))|exact rfl);have g8_:=Rt;clear g8;have g8:=g8_;clear g8_;refine ad ⟨G,G,λh=>absurd G h,tf (ay (ab G G (aX G G G hV (Rg.a8 G G ?_))))⟩
          refine⟨G,(i+1,VL),a04,?_,?_⟩
          ·exact⟨_,hM,S,ff,cN,b9,g8,gh,by rw[cj,hx,dS,iJ,rO WN];exact py,by have h0:=Bc.size;have h1:=Bd.size;have h3:=td.size;have h4:=wz.size;have h5:=oE.size;omega,by omega,by omega⟩
          ·dsimp only;omega
         ·refine aM (ay (ab G G (aX G G G hV (Rg.a8 G G ?_))));refine⟨G,(i+1,vk),a04,?_,?_⟩
          ·exact⟨_,hM,S,ff,cN,b9,g8,gh,by rw[cj,hx,dS,iJ,List.filter_cons_of_neg WN,List.filter_nil,bz];exact py,by have h0:=Bc.size;omega,by omega,by omega⟩
          ·dsimp only;omega
        ·refine de (T.aU ?_);have I7:j7 q.words=((q.words.take i).filter dh):=by unfold j7;rw[show q.words.take 3=q.words.take i from iH.2 hV]
         refine a7 ax G G x8 q0 G G (aR aI G G G g8 G (aZ (v':=vk) G ?_));obtain⟨a27,ZG,ZH,_⟩:=py.isSlice;subst ZH;refine Rg.xf aI G G (fR G G G (ad ?_));refine bH G (λZI=>?_) (λZI=>?_)
         ·have hwn: ¬j7 q.words=[]:=λe=>by rw[I7]at e;rw[e]at ZI;simp at ZI
          refine T.aU (eM (vs:=[.int .i64 5,sv (eZ q.term.1),.string ⟨#[]⟩,(.slice a27 ((q.words.take i).filter dh).length ZG),.slice none 0 0]) ax G gx G G G g8 ?_);refine dm (M:=M2) (vs:=[.int .i64 5,sv (eZ q.term.1),.string ⟨#[]⟩,(.slice a27 ((q.words.take i).filter dh).length ZG),.slice none 0 0]) gx G G ak6 rfl rfl cN b9 (λw28 g28 GN=>?_);have:=ah cN;replace b9:=(GN.mem _ this).2 b9;have:=ah g8;replace gh:=(GN.mem _ this).2 gh;replace g8:=GN.bY g8 a05;replace ff:=ff.le (aO _) GN.le;replace py:=py.step GN (λc hc (h:c=_)=>by have h1:=(py.base c hc).1;have h2:=xO.1;have h3:=xO.2.1;omega);replace hM:=GN.lt hM;have:=S.size;replace S:=S.trans GN (λk hk h=>by have h:_=_:=h;subst h;first|(exfalso;omega)|(show _<=_;omega)|exact⟨by first|omega|assumption,(S.mem _ hk).1 ((GN.mem _ (ah cN)).1 b9)⟩|exact .inl rfl|exact .inr rfl|exact .inr (.inl rfl)|exact .inr (.inr rfl)|exact .inr (.inr (.inl rfl))|exact rfl);have gq:=g28;clear cN;have cN:=gq;clear gq;refine ad (aS ?_);have Dn:=kH (hn:=by decide) jq S (py.jv xO.2.2) (by have:=fA dh (q.words.take i);rw[bI]at this;omega);refine kO (vs:=[.int .i64 5,sv (eZ q.term.1),.string ⟨#[]⟩,(.slice a27 ((q.words.take i).filter dh).length ZG),.slice none 0 0]) G G ax G gx G cN ⟨?_,S.back⟩;rw[nv,if_neg h9,if_pos ⟨UL,hwn⟩,I7];exact GL (zC ⟨by decide,by decide⟩ ⟨Bq,oK⟩ Dn)
         ·have h19: ¬(fK q.kind=5/\¬j7 q.words=[]):=λh=>h.2 (by rw[I7];exact cG.1 hV)
          refine aM (T.aU ?_);refine aw (A:=RT.qy (n+1)) (B:=RT.fd) ax G G nL q0 (KM n) G G (aO _) ff ck (λaeZ GO=>?_);refine aw (A:=RT.fd) (B:=RT.str) bS G G I9 q0 UI G G q0 GO ck (λae0 GP=>?_);refine bV aE G G G G G GP ck (λae1 GQ=>?_);obtain rfl:=eF GQ;refine Rg.a8 G G (T.aU (ab G G ?_));refine aV G G E59 (qg _ hM Uz.t2) (λae2 ae3 hc=>?_);obtain⟨rfl,nz⟩:=hc;have:=ah cN;replace b9:=(nz.mem _ this).2 b9;replace cN:=nz.aF cN;have:=ah g8;replace gh:=(nz.mem _ this).2 gh;replace g8:=nz.aF g8;replace ff:=ff.le (aO _) nz.le;replace py:=py.br nz;replace hM:=nz.lt hM;have:=S.size;replace S:=S.ar nz;refine Rg.a8 G G ?_;refine T.l8 [(4,.pointer (some ⟨gz,0,none⟩)),(5,sv (eZ q.term.1)),(14,sv (if dh q.term.2=true then q.term.2 else[97]))] ?_ ?_
          ·refine T.aU (ab rfl rfl (jd rfl rfl (aZ (v':= .bool (decide (¬dh q.term.2=true))) (by cases dh q.term.2<;>rfl) (ad ?_))));refine bH G (λGR=>?_) (λGR=>?_)
           ·refine ay (Rg.a8 G G ?_);exact⟨G,G,G,.cons G a15⟩
           ·refine aM ?_;exact⟨G,G,G,.cons G a15⟩
          ·refine T.aU (ab rfl rfl (ab rfl rfl (cx (places:=[(0,1),(1,1)]) bS nL WC rfl ⟨_,_,rfl,rfl,_,_,rfl,rfl,rfl⟩ (out:=[_,_]) ⟨0,[_],rfl,rfl,by simp[Value.cells],1,[_],rfl,rfl,by simp[Value.cells],rfl⟩ (cx (places:=[(0,1),(1,2),(3,1),(4,1)]) ax gx LS rfl ⟨_,_,rfl,rfl,_,_,rfl,rfl,rfl⟩ (out:=[_,_,_,.slice none 0 0,.slice none 0 0]) ⟨0,[_],rfl,rfl,by simp[Value.cells],1,[_,_],rfl,rfl,by simp[Value.cells],rfl⟩ ?_))));refine dm (M:=M2) (vs:=[.int .i64 1,sv (eZ q.term.1),sv (if dh q.term.2=true then q.term.2 else[97]),.slice none 0 0,.slice none 0 0]) gx G G a71 rfl rfl cN b9 (λw33 g33 xM=>?_);have:=ah cN;replace b9:=(xM.mem _ this).2 b9;have:=ah g8;replace gh:=(xM.mem _ this).2 gh;replace g8:=xM.bY g8 a05;replace ff:=ff.le (aO _) xM.le;replace py:=py.step xM (λc hc (h:c=_)=>by have h1:=(py.base c hc).1;have h2:=xO.1;have h3:=xO.2.1;omega);replace hM:=xM.lt hM;have:=S.size;replace S:=S.trans xM (λk hk h=>by have h:_=_:=h;subst h;first|(exfalso;omega)|(show _<=_;omega)|exact⟨by first|omega|assumption,(S.mem _ hk).1 ((xM.mem _ (ah cN)).1 b9)⟩|exact .inl rfl|exact .inr rfl|exact .inr (.inl rfl)|exact .inr (.inr rfl)|exact .inr (.inr (.inl rfl))|exact rfl);have gq:=g33;clear cN;have cN:=gq;clear gq;refine ad (aS ?_);refine kO (vs:=[.int .i64 1,sv (eZ q.term.1),sv (if dh q.term.2=true then q.term.2 else[97]),.slice none 0 0,.slice none 0 0]) G G ax G gx G cN ⟨?_,S.back⟩;rw[nv,if_neg h9,if_neg h19];exact ao4
       ·refine aj G G G G (aj G G G G (au G G G (ad (fQ G (de (T.aU ?_))))));have I7:j7 q.words=((q.words.take i).filter dh):=by unfold j7;rw[show q.words.take 3=q.words.take i from iH.2 hV]
        refine a7 ax G G x8 q0 G G (aR aI G G G g8 G (aZ (v':=vk) G ?_));obtain⟨a27,ZG,ZH,_⟩:=py.isSlice;subst ZH;refine Rg.xf aI G G (fR G G G (ad ?_));refine bH G (λZI=>?_) (λZI=>?_)
        ·have hwn: ¬j7 q.words=[]:=λe=>by rw[I7]at e;rw[e]at ZI;simp at ZI
         refine T.aU (eM (vs:=[.int .i64 5,sv (eZ q.term.1),.string ⟨#[]⟩,(.slice a27 ((q.words.take i).filter dh).length ZG),.slice none 0 0]) ax G gx G G G g8 ?_);refine dm (M:=M2) (vs:=[.int .i64 5,sv (eZ q.term.1),.string ⟨#[]⟩,(.slice a27 ((q.words.take i).filter dh).length ZG),.slice none 0 0]) gx G G ak6 rfl rfl cN b9 (λw28 g28 GN=>?_);have:=ah cN;replace b9:=(GN.mem _ this).2 b9;have:=ah g8;replace gh:=(GN.mem _ this).2 gh;replace g8:=GN.bY g8 a05;replace ff:=ff.le (aO _) GN.le;replace py:=py.step GN (λc hc (h:c=_)=>by have h1:=(py.base c hc).1;have h2:=xO.1;have h3:=xO.2.1;omega);replace hM:=GN.lt hM;have:=S.size;replace S:=S.trans GN (λk hk h=>by have h:_=_:=h;subst h;first|(exfalso;omega)|(show _<=_;omega)|exact⟨by first|omega|assumption,(S.mem _ hk).1 ((GN.mem _ (ah cN)).1 b9)⟩|exact .inl rfl|exact .inr rfl|exact .inr (.inl rfl)|exact .inr (.inr rfl)|exact .inr (.inr (.inl rfl))|exact rfl);have gq:=g28;clear cN;have cN:=gq;clear gq;refine ad (aS ?_);have Dn:=kH (hn:=by decide) jq S (py.jv xO.2.2) (by have:=fA dh (q.words.take i);rw[bI]at this;omega);refine kO (vs:=[.int .i64 5,sv (eZ q.term.1),.string ⟨#[]⟩,(.slice a27 ((q.words.take i).filter dh).length ZG),.slice none 0 0]) G G ax G gx G cN ⟨?_,S.back⟩;rw[nv,if_neg h9,if_pos ⟨UL,hwn⟩,I7];exact GL (zC ⟨by decide,by decide⟩ ⟨Bq,oK⟩ Dn)
        ·have h19: ¬(fK q.kind=5/\¬j7 q.words=[]):=λh=>h.2 (by rw[I7];exact cG.1 hV)
         refine aM (T.aU ?_);refine aw (A:=RT.qy (n+1)) (B:=RT.fd) ax G G nL q0 (KM n) G G (aO _) ff ck (λaeZ GO=>?_);refine aw (A:=RT.fd) (B:=RT.str) bS G G I9 q0 UI G G q0 GO ck (λae0 GP=>?_);refine bV aE G G G G G GP ck (λae1 GQ=>?_);obtain rfl:=eF GQ;refine Rg.a8 G G (T.aU (ab G G ?_));refine aV G G E59 (qg _ hM Uz.t2) (λae2 ae3 hc=>?_);obtain⟨rfl,nz⟩:=hc;have:=ah cN;replace b9:=(nz.mem _ this).2 b9;replace cN:=nz.aF cN;have:=ah g8;replace gh:=(nz.mem _ this).2 gh;replace g8:=nz.aF g8;replace ff:=ff.le (aO _) nz.le;replace py:=py.br nz;replace hM:=nz.lt hM;have:=S.size;replace S:=S.ar nz;refine Rg.a8 G G ?_;refine T.l8 [(4,.pointer (some ⟨gz,0,none⟩)),(5,sv (eZ q.term.1)),(14,sv (if dh q.term.2=true then q.term.2 else[97]))] ?_ ?_
         ·refine T.aU (ab rfl rfl (jd rfl rfl (aZ (v':= .bool (decide (¬dh q.term.2=true))) (by cases dh q.term.2<;>rfl) (ad ?_))));refine bH G (λGR=>?_) (λGR=>?_)
          ·refine ay (Rg.a8 G G ?_);exact⟨G,G,G,.cons G a15⟩
          ·refine aM ?_;exact⟨G,G,G,.cons G a15⟩
         ·refine T.aU (ab rfl rfl (ab rfl rfl (cx (places:=[(0,1),(1,1)]) bS nL WC rfl ⟨_,_,rfl,rfl,_,_,rfl,rfl,rfl⟩ (out:=[_,_]) ⟨0,[_],rfl,rfl,by simp[Value.cells],1,[_],rfl,rfl,by simp[Value.cells],rfl⟩ (cx (places:=[(0,1),(1,2),(3,1),(4,1)]) ax gx LS rfl ⟨_,_,rfl,rfl,_,_,rfl,rfl,rfl⟩ (out:=[_,_,_,.slice none 0 0,.slice none 0 0]) ⟨0,[_],rfl,rfl,by simp[Value.cells],1,[_,_],rfl,rfl,by simp[Value.cells],rfl⟩ ?_))));refine dm (M:=M2) (vs:=[.int .i64 1,sv (eZ q.term.1),sv (if dh q.term.2=true then q.term.2 else[97]),.slice none 0 0,.slice none 0 0]) gx G G a71 rfl rfl cN b9 (λw33 g33 xM=>?_);have:=ah cN;replace b9:=(xM.mem _ this).2 b9;have:=ah g8;replace gh:=(xM.mem _ this).2 gh;replace g8:=xM.bY g8 a05;replace ff:=ff.le (aO _) xM.le;replace py:=py.step xM (λc hc (h:c=_)=>by have h1:=(py.base c hc).1;have h2:=xO.1;have h3:=xO.2.1;omega);replace hM:=xM.lt hM;have:=S.size;replace S:=S.trans xM (λk hk h=>by have h:_=_:=h;subst h;first|(exfalso;omega)|(show _<=_;omega)|exact⟨by first|omega|assumption,(S.mem _ hk).1 ((xM.mem _ (ah cN)).1 b9)⟩|exact .inl rfl|exact .inr rfl|exact .inr (.inl rfl)|exact .inr (.inr rfl)|exact .inr (.inr (.inl rfl))|exact rfl);have gq:=g33;clear cN;have cN:=gq;clear gq;refine ad (aS ?_);refine kO (vs:=[.int .i64 1,sv (eZ q.term.1),sv (if dh q.term.2=true then q.term.2 else[97]),.slice none 0 0,.slice none 0 0]) G G ax G gx G cN ⟨?_,S.back⟩;rw[nv,if_neg h9,if_neg h19];exact ao4
     ·have h19: ¬(fK q.kind=5/\¬j7 q.words=[]):=λh=>UL h.1
      refine aM (T.aU ?_);refine aw (A:=RT.qy (n+1)) (B:=RT.fd) ax G G nL q0 (KM n) G G (aO _) ff ck (λaeZ GO=>?_);refine aw (A:=RT.fd) (B:=RT.str) bS G G I9 q0 UI G G q0 GO ck (λae0 GP=>?_);refine bV aE G G G G G GP ck (λae1 GQ=>?_);obtain rfl:=eF GQ;refine Rg.a8 G G (T.aU (ab G G ?_));refine aV G G E59 (qg _ hM Uz.t2) (λae2 ae3 hc=>?_);obtain⟨rfl,nz⟩:=hc;have:=ah cN;replace b9:=(nz.mem _ this).2 b9;replace cN:=nz.aF cN;replace ff:=ff.le (aO _) nz.le;replace hM:=nz.lt hM;have:=S.size;replace S:=S.ar nz;refine Rg.a8 G G ?_;refine T.l8 [(4,.pointer (some ⟨gz,0,none⟩)),(5,sv (eZ q.term.1)),(14,sv (if dh q.term.2=true then q.term.2 else[97]))] ?_ ?_
      ·refine T.aU (ab rfl rfl (jd rfl rfl (aZ (v':= .bool (decide (¬dh q.term.2=true))) (by cases dh q.term.2<;>rfl) (ad ?_))));refine bH G (λGR=>?_) (λGR=>?_)
       ·refine ay (Rg.a8 G G ?_);exact⟨G,G,G,.cons G a15⟩
       ·refine aM ?_;exact⟨G,G,G,.cons G a15⟩
      ·refine T.aU (ab rfl rfl (ab rfl rfl (cx (places:=[(0,1),(1,1)]) bS nL WC rfl ⟨_,_,rfl,rfl,_,_,rfl,rfl,rfl⟩ (out:=[_,_]) ⟨0,[_],rfl,rfl,by simp[Value.cells],1,[_],rfl,rfl,by simp[Value.cells],rfl⟩ (cx (places:=[(0,1),(1,2),(3,1),(4,1)]) ax gx LS rfl ⟨_,_,rfl,rfl,_,_,rfl,rfl,rfl⟩ (out:=[_,_,_,.slice none 0 0,.slice none 0 0]) ⟨0,[_],rfl,rfl,by simp[Value.cells],1,[_,_],rfl,rfl,by simp[Value.cells],rfl⟩ ?_))));refine dm (M:=fi) (vs:=[.int .i64 1,sv (eZ q.term.1),sv (if dh q.term.2=true then q.term.2 else[97]),.slice none 0 0,.slice none 0 0]) gx G G a71 rfl rfl cN b9 (λw33 g33 xM=>?_);have:=ah cN;replace b9:=(xM.mem _ this).2 b9;replace ff:=ff.le (aO _) xM.le;replace hM:=xM.lt hM;have:=S.size;replace S:=S.trans xM (λk hk h=>by have h:_=_:=h;subst h;first|(exfalso;omega)|(show _<=_;omega)|exact⟨by first|omega|assumption,(S.mem _ hk).1 ((xM.mem _ (ah cN)).1 b9)⟩|exact .inl rfl|exact .inr rfl|exact .inr (.inl rfl)|exact .inr (.inr rfl)|exact .inr (.inr (.inl rfl))|exact rfl);have gq:=g33;clear cN;have cN:=gq;clear gq;refine ad (aS ?_);refine kO (vs:=[.int .i64 1,sv (eZ q.term.1),sv (if dh q.term.2=true then q.term.2 else[97]),.slice none 0 0,.slice none 0 0]) G G ax G gx G cN ⟨?_,S.back⟩;rw[nv,if_neg h9,if_neg h19];exact ao4
theorem uk:∀(mm n:Nat) {M:aP} {q:Qy} {v:Value} {deep:Nat} (w0:World) (hM:Lt M w0) (hv:(RT.qy n).V M w0 q v) (hs:G3 q) (hd:deep+mm=4),Spec Tryz.prog 17 #[v,.int .i64 (deep:Int)] w0 (λv w=>(RT.qy mm).V M w (fL q deep) v/\Step M w0 M w aH)
 |0,n,M,q,v,deep,w0,hM,hv,hs,hd=>Ba (n:=n) w0 hM (mW hv) hs hV λh=>by omega
 |mm+1,n,M,q,v,deep,w0,hM,hv,hs,hd=>Ba (n:=n) w0 hM (mW hv) hs hV λ_=>⟨mm,rfl,λx hx Kl M w v e hM hv=>by subst e;exact uk mm n w hM hv ((szQ.1 hs).2 x hx) hV⟩
end Go.K
namespace Go.K
open Go.Proofs
namespace TKAlike13
theorem gx:TI Tryz.prog 28 (.agg #[(.int .i64 0),(.string ⟨#[]⟩),(.string ⟨#[]⟩),(.slice none 0 0),(.slice none 0 0)]) 5 88:=by unfold TI;kernel_rfl
theorem fE:TI Tryz.prog 45 (.agg #[(.int .i64 0),(.int .i64 0)]) 2 16:=by unfold TI;kernel_rfl
theorem E10:Enters Tryz.prog 10:=enters Tryz.func10 rfl q0
theorem E11:Enters Tryz.prog 11:=enters Tryz.func11 rfl q0
theorem E12:Enters Tryz.prog 12:=enters Tryz.func12 rfl q0
theorem Zx:Enters Tryz.prog 13:=enters Tryz.func13 rfl q0
theorem E17:Enters Tryz.prog 17:=enters Tryz.func17 rfl q0
end TKAlike13
open TKAlike13
set_option maxRecDepth 10000
theorem Uq {k:Int} {t:Fd} {ws:List (List UInt8)} {n:Nat} (h:km k t ws n=0):SzO t ws:=by
 have UP:∀x:List UInt8,dh x=true->x.length<=3900000:=λx hx=>by
  unfold dh at hx;have:=(of_decide_eq_true hx).2;omega
 unfold km at h;by_cases h1:k<1\/5<k
 ·rw[if_pos h1]at h;omega
 rw[if_neg h1]at h;by_cases h2:2<=k/\k<=4
 ·rw[if_pos h2]at h;by_cases h3: ¬t=([],[])\/¬ws=[]\/n=0
  ·rw[if_pos h3]at h;omega
  have ht:t=([],[]):=iE λe=>h3 (.inl e)
  have hw:ws=[]:=iE λe=>h3 (.inr (.inl e))
  subst ht;subst hw;exact⟨bA _,λx hx=>by cases hx⟩
 rw[if_neg h2]at h;by_cases h3:0<n\/(k=1/\¬ws=[])\/(k=5/\¬t.2=[])
 ·rw[if_pos h3]at h;omega
 rw[if_neg h3]at h;by_cases h4:eK t.1=false
 ·rw[if_pos h4]at h;omega
 rw[if_neg h4]at h;by_cases h5:k=1
 ·rw[if_pos h5]at h;have hw:ws=[]:=iE λe=>h3 (.inr (.inl ⟨h5,e⟩))
  subst hw;by_cases h6:dh t.2=true
  ·exact⟨UP _ h6,λx hx=>by cases hx⟩
  ·rw[if_neg h6]at h;omega
 ·rw[if_neg h5]at h;have ht:t.2=[]:=iE λe=>h3 (.inr (.inr ⟨by omega,e⟩))
  by_cases h6:ws=[]
  ·rw[if_pos h6]at h;omega
  rw[if_neg h6]at h;by_cases h7:ws.all dh=false
  ·rw[if_pos h7]at h;omega
  exact⟨by rw[ht];exact bA _,λx hx=>UP x (eI.1 (by cases hb:ws.all dh;exact absurd hb h7;rfl) x hx)⟩
mutual
theorem sf:∀(q:Qy) (deep:Nat),iv q deep=0->G3 q
 |.mk k t ws ks,deep,hm=>by
  obtain⟨h1,h2,h3⟩:=n4.1 hm;refine szQ.2 ⟨Uq h2,λx hx=>QK.1 (GS ks (deep+1) h3) x hx⟩
theorem GS:∀(ks:List Qy) (deep:Nat),(∀x∈ks,iv x deep=0)->LY ks
 |[],_,_=>QK.2 λx hx=>by cases hx
 |q::ks,deep,hm=>QK.2 λx hx=>by
  rcases dg.1 hx with h|h
  ·rw[h];exact sf q deep (hm q (bE ..))
  ·exact QK.1 (GS ks deep λy hy=>hm y (cn _ hy)) x h
end
end Go.K
namespace Go.K
open Go.Proofs
namespace TKJoin13
theorem fE:TI Tryz.prog 45 (.agg #[(.int .i64 0),(.int .i64 0)]) 2 16:=by unfold TI;kernel_rfl
theorem qU:placesOf Tryz.prog 45=[(0,1),(1,1)].map some:=by kernel_rfl
theorem RP:Enters Tryz.prog 60:=enters Tryz.func60 rfl q0
end TKJoin13
open TKJoin13
set_option maxRecDepth 10000
set_option maxHeartbeats 2000000 in
theorem yq {M:aP} {w0:World} {va vb:Value} {a b:List Fo} {orr:Bool} (hM:Lt M w0) (kS:((RT.fo).sl).V M w0 a va) (tb:((RT.fo).sl).V M w0 b vb) (ra:ly a 0 1000) (rb:ly b 0 1000):
  Spec Tryz.prog 18 #[va,vb,.bool orr] w0 (λv' w'=>(∃mo,(∀p∈a,p.1<(mo:Nat))/\(∀p∈b,p.1<mo)/\mo<=1000/\((RT.fo).sl).V M w' (pg (if orr=true then(1:Int)else 2) a b 0 mo) v')/\Step M w0 M w' aH):=by
 have hla:=dJ kS;have hlb:=dJ tb;refine bD (args:=[_,_,_]) (fn:=Tryz.f18) Tryz.func18 G (n:=90) Tryz.ntmps18 (T.aU (Rg.a8 G G (T.aU (Rg.a8 G G (aQ (T.aU ?_))))));refine ab G G (bR an G kS G (fR G G G (ad ?_)));refine bH G (λc2=>?_) (λc2=>?_)
 ·refine ay (ab G G (ab G G (bR an G kS G (iQ G G G hV ?_))));obtain⟨⟨e1,t1⟩,hx1⟩:∃x,a[a.length-1]? =some x:=⟨_,aq hV⟩;have re:=ra.ED _ (ao hx1);simp only at re;refine cD an fE G G G (kS) ck a14 (λSI P3 F2 Vq=>?_);obtain rfl:(e1,t1)=P3:=cY (aG (F2.symm.trans (by rw[show((a.length:Int)-1).toNat=a.length-1 from by omega];exact hx1)));refine aw (M:=M) (A:=RT.fo) (B:=RT.int .i64) bm G G I3 q0 (Sk) G G q0 VR (by repeat (first|exact bB _ _|refine aW (bC VR) ?_)) (λTx JV=>?_);refine bX (M:=M) al G G VR (by repeat (first|exact bB _ _|refine aW (bC VR) ?_)) (λVM=>?_);refine aZ (v':= .int .i64 (e1)) G ?_;replace VM: -9223372036854775808<=(e1:Int)/\e1<=9223372036854775807:=VM;refine aX G G G hV ?_;obtain⟨m1,Ha⟩:∃m1:Nat,(m1:Int)=e1+1:=⟨(e1+1).toNat,by omega⟩;refine aJ G G (aZ (v':= .int .i64 m1) (by rw[Ha]) ?_);have Ni:∀p∈a,p.1<(m1:Nat):=λp hp=>by have:=AJ ra hx1 p hp;simp only at this;omega
  have am0:m1<=1000:=by omega
  refine ad (aQ (T.aU (ab G G (bR an G tb G (fR G G G (ad ?_))))));refine bH G (λc4=>?_) (λc4=>?_)
  ·refine ay (ab G G (ab G G (ab G G (bR an G tb G (iQ G G G hV ?_)))));obtain⟨⟨e2,t2⟩,RE⟩:∃x,b[b.length-1]? =some x:=⟨_,aq hV⟩;have re2:=rb.ED _ (ao RE);simp only at re2;refine cD an fE G G G (tb) ck a14 (λacO ZJ Ru PD=>?_);obtain rfl:(e2,t2)=ZJ:=cY (aG (Ru.symm.trans (by rw[show((b.length:Int)-1).toNat=b.length-1 from by omega];exact RE)));refine aw (M:=M) (A:=RT.fo) (B:=RT.int .i64) bm G G I3 q0 (Sk) G G q0 VR (by repeat (first|exact bB _ _|refine aW (bC VR) ?_)) (λad2 Gy=>?_);refine bX (M:=M) al G G VR (by repeat (first|exact bB _ _|refine aW (bC VR) ?_)) (λGU=>?_);refine aZ (v':= .int .i64 (e2)) G ?_;replace GU: -9223372036854775808<=(e2:Int)/\e2<=9223372036854775807:=GU;refine aX G G G hV (Rg.max2 G G G ?_);obtain⟨mo,Co⟩:∃mo:Nat,(mo:Int)=max (m1:Int) (e2+1):=⟨(max (m1:Int) (e2+1)).toNat,by omega⟩;refine aJ rfl rfl (aZ (v':= .int .i64 mo) (by first|(rw[Co];done)|(rw[Co,Ha];rfl)) ?_);have Ef:∀p∈a,p.1<(mo:Nat):=λp hp=>by have:=Ni p hp;omega
   have yv:∀p∈b,p.1<(mo:Nat):=λp hp=>by have:=AJ rb RE p hp;simp only at this;omega
   have I8:mo<=1000:=by omega
   refine ad (T.aU (Rg.a8 G G (aQ (T.aU (Rg.a8 G G (bp ?_))))));refine dz (σ:=Nat×Value) (λs=>[(0,va),(1,vb),(2,.bool orr),(7,.int .i64 mo),(8,s.2),(9,.int .i64 s.1)]) (λs w=>s.1<=mo/\∃M1,Lt M1 w/\Step M w0 M1 w aH/\Own RT.fo 45 M1 w w0.heap.size s.2 (pg (if orr=true then(1:Int)else 2) a b 0 s.1)) (λs=>mo-s.1) (0,_) a47 ?_ ?_
   ·exact⟨bA _,M,hM,bg,ep _ _ _ _ _⟩
   ·rintro⟨k,u0⟩ w1 ⟨hk,M1,eD,S,ho⟩;dsimp only at hk ho ⊢;refine aQ (T.aU (ab G G (ab G G (cH G G G (ad ?_)))));refine bH G (λc8=>?_) (λc8=>?_)
    ·refine aM (aQ (bp (T.aU (ab G G (ab G G ?_)))));refine aV G G RP (jW (kS.le S.le)) (λr wc h=>?_);obtain⟨⟨r1,rfl,Bf,h1a,h1b⟩,rfl⟩:=h;refine Rg.a8 G G (T.aU (ab G G (ab G G ?_)));refine aV G G RP (jW (tb.le S.le)) (λr wc h=>?_);obtain⟨⟨r2,rfl,qh,h2a,h2b⟩,rfl⟩:=h;refine Rg.a8 G G (T.aU (Rg.a8 G G (aQ (T.aU (ab G G (cu G G G (ad ?_)))))));refine bH G (λBI=>?_) (λBI=>?_)
     ·obtain⟨i1,rfl,sm,qQ⟩:∃i1:Nat,r1=i1/\dY a (k:Int)=true/\a[i1]? =some ((k:Int),bG a (k:Int)):=by
       rcases Bf with h|h
       ·exact h
       ·omega
      have fg:(if dY a (k:Int)=true then(1:Int)else 0)=1:=by rw[if_pos sm]
      have C3:=ra.sc _ (ao qQ);simp only at C3;refine ay (ab G G (ab G G (ab G G ?_)));have qz:=(ak.1 qQ).1;refine cD an fE G G G (kS.le S.le) ck a14 (λRv Bg um Ja=>?_);obtain rfl:((k:Int),bG a (k:Int))=Bg:=cY (aG (um.symm.trans (by rw[av];exact qQ)));refine aw (M:=M1) (A:=RT.fo) (B:=RT.int .i64) bm G G I3 q0 (Jj) G G q0 VR (by repeat (first|exact bB _ _|refine aW (bC VR) ?_)) (λJP Ap=>?_);refine bX (M:=M1) al G G VR (by repeat (first|exact bB _ _|refine aW (bC VR) ?_)) (λnA=>?_);refine aZ (v':= .int .i64 (bG a (k:Int))) G ?_;replace nA: -9223372036854775808<=(bG a (k:Int):Int)/\bG a (k:Int)<=9223372036854775807:=nA;refine aX G G G hV (Rg.a8 G G (aQ (T.aU (ab G G (cu G G G (ad ?_))))));refine bH G (λyz=>?_) (λyz=>?_)
      ·obtain⟨i2,rfl,lU,mu⟩:∃i2:Nat,r2=i2/\dY b (k:Int)=true/\b[i2]? =some ((k:Int),bG b (k:Int)):=by
        rcases qh with h|h
        ·exact h
        ·omega
       have fC:(if dY b (k:Int)=true then(1:Int)else 0)=1:=by rw[if_pos lU]
       have iA:=rb.sc _ (ao mu);simp only at iA;refine ay (ab G G (ab G G (ab G G ?_)));have Jb:=(ak.1 mu).1;refine cD an fE G G G (tb.le S.le) ck a14 (λBh nB kn uq=>?_);obtain rfl:((k:Int),bG b (k:Int))=nB:=cY (aG (kn.symm.trans aj5));refine aw (M:=M1) (A:=RT.fo) (B:=RT.int .i64) bm G G I3 q0 (Jj) G G q0 VR (by repeat (first|exact bB _ _|refine aW (bC VR) ?_)) (λBi ur=>?_);refine bX (M:=M1) al G G VR (by repeat (first|exact bB _ _|refine aW (bC VR) ?_)) (λgP=>?_);refine aZ (v':= .int .i64 (bG b (k:Int))) G ?_;replace gP: -9223372036854775808<=(bG b (k:Int):Int)/\bG b (k:Int)<=9223372036854775807:=gP;refine aX G G G hV (Rg.a8 G G (T.aU (ab G G (cu G G G (ab G G ?_)))));refine aB (g:=68) G (λgQ=>?_) (λgQ=>?_)
       ·refine ae G G (ab G G (ae G G (cu G G G (aN G G G (ab G G ?_)))));refine aB (g:=72) G (λnC=>?_) (λnC=>?_)
        ·refine aj G G G G (aj G G G G (bN G G G (bN G G G (bN G G G (bN G G G (bN G G G (bN G G G (aj G G G G (aN G G G (ad (iz G ?_)))))))))));refine ay (ab G G (ab G G (ab G G (aZ (v':= .int .i64 (bG a (k:Int)+bG b (k:Int))) a52 (cx (places:=[(0,1),(1,1)]) bm fE qU rfl ⟨_,_,rfl,rfl,_,_,rfl,rfl,rfl⟩ (out:=[_,_]) ⟨0,[_],rfl,rfl,by simp[Value.cells],1,[_],rfl,rfl,by simp[Value.cells],rfl⟩ ?_)))));refine dT (A:=RT.fo) (hn:=by decide) (M:=M1) an fE q0 G G eD (kX (a:=(k:Int)) (b:=bG a (k:Int)+bG b (k:Int)) hV hV) (.inl G) (λu5 w5 gg s5=>?_);have lM:=eG (if orr=true then(1:Int)else 2) a b k;refine cI (M:=M1) (base:=w0.heap.size) an fE rfl rfl rfl rfl (ho.br s5) gg ck a06 a06 (ch S.size s5.size) (λv6 M3 w6 ia s6=>?_);refine Rg.a8 G G (ay (ab G G (aX G G G hV (Rg.a8 G G ?_))));refine⟨G,(k+1,_),a04,?_,?_⟩
         ·first
          |exact⟨by simp only;omega,M3,s6.lt (s5.lt eD),(S.ar s5).cf s6 (ho.br s5) (aK _),by simp only;rw[bL,ir a00];exact ia⟩
          |exact⟨by simp only;omega,M1,eD,S,by simp only;rw[bL,iu a01,bz];exact ho⟩
          |(exfalso;omega)
         ·simp only;omega
        ·refine ae G G (ab G G (ae G G (ab G G (aZ (v':= .bool (decide (orr=true))) (by simp) ?_))));refine aB (g:=74) G (λcK=>?_) (λcK=>?_)
         ·refine ae G G (ab G G (ae G G (cu G G G (ae G G (ab G G ?_)))));refine aB (g:=77) G (λfw=>?_) (λfw=>?_)
          ·refine aj G G G G (aj G G G G (ae G G (aN G G G (ae G G (aN G G G (au G G G (ad (iz G (ay (ab G G (ab G G ?_)))))))))));refine ab G G (aZ (v':= .int .i64 (bG a (k:Int)+bG b (k:Int))) a52 (cx (places:=[(0,1),(1,1)]) bm fE qU rfl ⟨_,_,rfl,rfl,_,_,rfl,rfl,rfl⟩ (out:=[_,_]) ⟨0,[_],rfl,rfl,by simp[Value.cells],1,[_],rfl,rfl,by simp[Value.cells],rfl⟩ ?_));refine dT (A:=RT.fo) (hn:=by decide) (M:=M1) an fE q0 G G eD (kX (a:=(k:Int)) (b:=bG a (k:Int)+bG b (k:Int)) hV hV) (.inl G) (λu5 w5 gg s5=>?_);have lM:=eG (if orr=true then(1:Int)else 2) a b k;refine cI (M:=M1) (base:=w0.heap.size) an fE rfl rfl rfl rfl (ho.br s5) gg ck a06 a06 (ch S.size s5.size) (λv6 M3 w6 ia s6=>?_);refine Rg.a8 G G (ay (ab G G (aX G G G hV (Rg.a8 G G ?_))));refine⟨G,(k+1,_),a04,?_,?_⟩
           ·first
            |exact⟨by simp only;omega,M3,s6.lt (s5.lt eD),(S.ar s5).cf s6 (ho.br s5) (aK _),by simp only;rw[bL,ir a00];exact ia⟩
            |exact⟨by simp only;omega,M1,eD,S,by simp only;rw[bL,iu a01,bz];exact ho⟩
            |(exfalso;omega)
           ·simp only;omega
          ·exfalso;omega
         ·refine aj G G G G (aj G G G G (aj G G G G (bN G G G (bN G G G (aj G G G G (ae G G (au G G G (au G G G (ad (fQ G (aM ?_)))))))))));refine ay (ab G G (aX G G G hV (Rg.a8 G G ?_)));refine⟨G,(k+1,_),a04,?_,?_⟩
          ·first
           |exact⟨by simp only;omega,M3,s6.lt (s5.lt eD),(S.ar s5).cf s6 (ho.br s5) (aK _),by simp only;rw[bL,ir a00];exact ia⟩
           |exact⟨by simp only;omega,M1,eD,S,by simp only;rw[bL,iu a01,bz];exact ho⟩
           |(exfalso;omega)
          ·simp only;omega
       ·exfalso;omega
      ·have lU:dY b (k:Int)=false:=by
        rcases qh with⟨i,h,_⟩|h
        ·omega
        ·exact h.2
       have fC:(if dY b (k:Int)=true then(1:Int)else 0)=0:=by rw[if_neg al8]
       have iA:=fc lU;refine aM (T.aU (ab G G (cu G G G (ab G G ?_))));refine aB (g:=68) G (λgQ=>?_) (λgQ=>?_)
       ·refine ae G G (ab G G (ae G G (cu G G G (aN G G G (ab G G ?_)))));refine aB (g:=72) G (λnC=>?_) (λnC=>?_)
        ·exfalso;omega
        ·refine ae G G (ab G G (ae G G (ab G G (aZ (v':= .bool (decide (orr=true))) (by simp) ?_))));refine aB (g:=74) G (λcK=>?_) (λcK=>?_)
         ·refine ae G G (ab G G (ae G G (cu G G G (ae G G (ab G G ?_)))));refine aB (g:=77) G (λfw=>?_) (λfw=>?_)
          ·refine aj G G G G (aj G G G G (ae G G (aN G G G (ae G G (aN G G G (au G G G (ad (iz G (ay (ab G G (ab G G ?_)))))))))));refine ab G G (aZ (v':= .int .i64 (bG a (k:Int)+bG b (k:Int))) a52 (cx (places:=[(0,1),(1,1)]) bm fE qU rfl ⟨_,_,rfl,rfl,_,_,rfl,rfl,rfl⟩ (out:=[_,_]) ⟨0,[_],rfl,rfl,by simp[Value.cells],1,[_],rfl,rfl,by simp[Value.cells],rfl⟩ ?_));refine dT (A:=RT.fo) (hn:=by decide) (M:=M1) an fE q0 G G eD (kX (a:=(k:Int)) (b:=bG a (k:Int)+bG b (k:Int)) hV hV) (.inl G) (λu5 w5 gg s5=>?_);have lM:=eG (if orr=true then(1:Int)else 2) a b k;refine cI (M:=M1) (base:=w0.heap.size) an fE rfl rfl rfl rfl (ho.br s5) gg ck a06 a06 (ch S.size s5.size) (λv6 M3 w6 ia s6=>?_);refine Rg.a8 G G (ay (ab G G (aX G G G hV (Rg.a8 G G ?_))));refine⟨G,(k+1,_),a04,?_,?_⟩
           ·first
            |exact⟨by simp only;omega,M3,s6.lt (s5.lt eD),(S.ar s5).cf s6 (ho.br s5) (aK _),by simp only;rw[bL,ir a00];exact ia⟩
            |exact⟨by simp only;omega,M1,eD,S,by simp only;rw[bL,iu a01,bz];exact ho⟩
            |(exfalso;omega)
           ·simp only;omega
          ·exfalso;omega
         ·refine aj G G G G (aj G G G G (aj G G G G (bN G G G (bN G G G (aj G G G G (ae G G (au G G G (au G G G (ad (fQ G (aM ?_)))))))))));refine ay (ab G G (aX G G G hV (Rg.a8 G G ?_)));refine⟨G,(k+1,_),a04,?_,?_⟩
          ·first
           |exact⟨by simp only;omega,M3,s6.lt (s5.lt eD),(S.ar s5).cf s6 (ho.br s5) (aK _),by simp only;rw[bL,ir a00];exact ia⟩
           |exact⟨by simp only;omega,M1,eD,S,by simp only;rw[bL,iu a01,bz];exact ho⟩
           |(exfalso;omega)
          ·simp only;omega
       ·exfalso;omega
     ·have sm:dY a (k:Int)=false:=by
       rcases Bf with⟨i,h,_⟩|h
       ·omega
       ·exact h.2
      have fg:(if dY a (k:Int)=true then(1:Int)else 0)=0:=by rw[if_neg (by rw[sm];decide)]
      have C3:=fc sm;refine aM (aQ (T.aU (ab G G (cu G G G (ad ?_)))));refine bH G (λyz=>?_) (λyz=>?_)
      ·obtain⟨i2,rfl,lU,mu⟩:∃i2:Nat,r2=i2/\dY b (k:Int)=true/\b[i2]? =some ((k:Int),bG b (k:Int)):=by
        rcases qh with h|h
        ·exact h
        ·omega
       have fC:(if dY b (k:Int)=true then(1:Int)else 0)=1:=by rw[if_pos lU]
       have iA:=rb.sc _ (ao mu);simp only at iA;refine ay (ab G G (ab G G (ab G G ?_)));have Jb:=(ak.1 mu).1;refine cD an fE G G G (tb.le S.le) ck a14 (λBh nB kn uq=>?_);obtain rfl:((k:Int),bG b (k:Int))=nB:=cY (aG (kn.symm.trans aj5));refine aw (M:=M1) (A:=RT.fo) (B:=RT.int .i64) bm G G I3 q0 (Jj) G G q0 VR (by repeat (first|exact bB _ _|refine aW (bC VR) ?_)) (λBi ur=>?_);refine bX (M:=M1) al G G VR (by repeat (first|exact bB _ _|refine aW (bC VR) ?_)) (λgP=>?_);refine aZ (v':= .int .i64 (bG b (k:Int))) G ?_;replace gP: -9223372036854775808<=(bG b (k:Int):Int)/\bG b (k:Int)<=9223372036854775807:=gP;refine aX G G G hV (Rg.a8 G G (T.aU (ab G G (cu G G G (ab G G ?_)))));refine aB (g:=68) G (λgQ=>?_) (λgQ=>?_)
       ·exfalso;omega
       ·refine aj G G G G (aj G G G G (au G G G (ab G G (ae G G (ab G G (ae G G (ab G G (aZ (v':= .bool (decide (orr=true))) (by simp) ?_))))))));refine aB (g:=74) G (λcK=>?_) (λcK=>?_)
        ·refine ae G G (ab G G (ae G G (cu G G G (ae G G (ab G G ?_)))));refine aB (g:=77) G (λfw=>?_) (λfw=>?_)
         ·exfalso;omega
         ·refine ae G G (ab G G (ae G G (cu G G G (ae G G (au G G G (ae G G (aN G G G (au G G G (ad ?_)))))))));refine bH G (λJc=>?_) (λJc=>?_)
          ·refine ay (ab G G (ab G G (ab G G (aZ (v':= .int .i64 (bG a (k:Int)+bG b (k:Int))) a52 (cx (places:=[(0,1),(1,1)]) bm fE qU rfl ⟨_,_,rfl,rfl,_,_,rfl,rfl,rfl⟩ (out:=[_,_]) ⟨0,[_],rfl,rfl,by simp[Value.cells],1,[_],rfl,rfl,by simp[Value.cells],rfl⟩ ?_)))));refine dT (A:=RT.fo) (hn:=by decide) (M:=M1) an fE q0 G G eD (kX (a:=(k:Int)) (b:=bG a (k:Int)+bG b (k:Int)) hV hV) (.inl G) (λu5 w5 gg s5=>?_);have lM:=eG (if orr=true then(1:Int)else 2) a b k;refine cI (M:=M1) (base:=w0.heap.size) an fE rfl rfl rfl rfl (ho.br s5) gg ck a06 a06 (ch S.size s5.size) (λv6 M3 w6 ia s6=>?_);refine Rg.a8 G G (ay (ab G G (aX G G G hV (Rg.a8 G G ?_))));refine⟨G,(k+1,_),a04,?_,?_⟩
           ·first
            |exact⟨by simp only;omega,M3,s6.lt (s5.lt eD),(S.ar s5).cf s6 (ho.br s5) (aK _),by simp only;rw[bL,ir a00];exact ia⟩
            |exact⟨by simp only;omega,M1,eD,S,by simp only;rw[bL,iu a01,bz];exact ho⟩
            |(exfalso;omega)
           ·simp only;omega
          ·refine aM (ay (ab G G (aX G G G hV (Rg.a8 G G ?_))));refine⟨G,(k+1,_),a04,?_,?_⟩
           ·first
            |exact⟨by simp only;omega,M3,s6.lt (s5.lt eD),(S.ar s5).cf s6 (ho.br s5) (aK _),by simp only;rw[bL,ir a00];exact ia⟩
            |exact⟨by simp only;omega,M1,eD,S,by simp only;rw[bL,iu a01,bz];exact ho⟩
            |(exfalso;omega)
           ·simp only;omega
        ·refine aj G G G G (aj G G G G (aj G G G G (bN G G G (bN G G G (aj G G G G (ae G G (au G G G (au G G G (ad (fQ G (aM ?_)))))))))));refine ay (ab G G (aX G G G hV (Rg.a8 G G ?_)));refine⟨G,(k+1,_),a04,?_,?_⟩
         ·first
          |exact⟨by simp only;omega,M3,s6.lt (s5.lt eD),(S.ar s5).cf s6 (ho.br s5) (aK _),by simp only;rw[bL,ir a00];exact ia⟩
          |exact⟨by simp only;omega,M1,eD,S,by simp only;rw[bL,iu a01,bz];exact ho⟩
          |(exfalso;omega)
         ·simp only;omega
      ·have lU:dY b (k:Int)=false:=by
        rcases qh with⟨i,h,_⟩|h
        ·omega
        ·exact h.2
       have fC:(if dY b (k:Int)=true then(1:Int)else 0)=0:=by rw[if_neg al8]
       have iA:=fc lU;refine aM (T.aU (ab G G (cu G G G (ab G G ?_))));refine aB (g:=68) G (λgQ=>?_) (λgQ=>?_)
       ·exfalso;omega
       ·refine aj G G G G (aj G G G G (au G G G (ab G G (ae G G (ab G G (ae G G (ab G G (aZ (v':= .bool (decide (orr=true))) (by simp) ?_))))))));refine aB (g:=74) G (λcK=>?_) (λcK=>?_)
        ·refine ae G G (ab G G (ae G G (cu G G G (ae G G (ab G G ?_)))));refine aB (g:=77) G (λfw=>?_) (λfw=>?_)
         ·exfalso;omega
         ·refine ae G G (ab G G (ae G G (cu G G G (ae G G (au G G G (ae G G (aN G G G (au G G G (ad ?_)))))))));refine bH G (λJc=>?_) (λJc=>?_)
          ·refine ay (ab G G (ab G G (ab G G (aZ (v':= .int .i64 (bG a (k:Int)+bG b (k:Int))) a52 (cx (places:=[(0,1),(1,1)]) bm fE qU rfl ⟨_,_,rfl,rfl,_,_,rfl,rfl,rfl⟩ (out:=[_,_]) ⟨0,[_],rfl,rfl,by simp[Value.cells],1,[_],rfl,rfl,by simp[Value.cells],rfl⟩ ?_)))));refine dT (A:=RT.fo) (hn:=by decide) (M:=M1) an fE q0 G G eD (kX (a:=(k:Int)) (b:=bG a (k:Int)+bG b (k:Int)) hV hV) (.inl G) (λu5 w5 gg s5=>?_);have lM:=eG (if orr=true then(1:Int)else 2) a b k;refine cI (M:=M1) (base:=w0.heap.size) an fE rfl rfl rfl rfl (ho.br s5) gg ck a06 a06 (ch S.size s5.size) (λv6 M3 w6 ia s6=>?_);refine Rg.a8 G G (ay (ab G G (aX G G G hV (Rg.a8 G G ?_))));refine⟨G,(k+1,_),a04,?_,?_⟩
           ·first
            |exact⟨by simp only;omega,M3,s6.lt (s5.lt eD),(S.ar s5).cf s6 (ho.br s5) (aK _),by simp only;rw[bL,ir a00];exact ia⟩
            |exact⟨by simp only;omega,M1,eD,S,by simp only;rw[bL,iu a01,bz];exact ho⟩
            |(exfalso;omega)
           ·simp only;omega
          ·refine aM (ay (ab G G (aX G G G hV (Rg.a8 G G ?_))));refine⟨G,(k+1,_),a04,?_,?_⟩
           ·first
            |exact⟨by simp only;omega,M3,s6.lt (s5.lt eD),(S.ar s5).cf s6 (ho.br s5) (aK _),by simp only;rw[bL,ir a00];exact ia⟩
            |exact⟨by simp only;omega,M1,eD,S,by simp only;rw[bL,iu a01,bz];exact ho⟩
            |(exfalso;omega)
           ·simp only;omega
        ·refine aj G G G G (aj G G G G (aj G G G G (bN G G G (bN G G G (aj G G G G (ae G G (au G G G (au G G G (ad (fQ G (aM ?_)))))))))));refine ay (ab G G (aX G G G hV (Rg.a8 G G ?_)));refine⟨G,(k+1,_),a04,?_,?_⟩
         ·first
          |exact⟨by simp only;omega,M3,s6.lt (s5.lt eD),(S.ar s5).cf s6 (ho.br s5) (aK _),by simp only;rw[bL,ir a00];exact ia⟩
          |exact⟨by simp only;omega,M1,eD,S,by simp only;rw[bL,iu a01,bz];exact ho⟩
          |(exfalso;omega)
         ·simp only;omega
    ·refine de (T.aU (ab G G (Rg.a8 G G (aS ?_))));obtain rfl:k=mo:=by omega
     exact af7
  ·obtain⟨mo,Co⟩:∃mo:Nat,mo=m1:=⟨_,rfl⟩;have Vc:b=[]:=cG.1 hV;have Ef:∀p∈a,p.1<(mo:Nat):=λp hp=>by rw[Co];exact Ni p hp
   have yv:∀p∈b,p.1<(mo:Nat):=λp hp=>by rw[Vc]at hp;cases hp
   have I8:mo<=1000:=by omega
   refine aM (T.aU (Rg.a8 G G (aQ (T.aU (Rg.a8 G G (bp ?_))))));refine dz (σ:=Nat×Value) (λs=>[(0,va),(1,vb),(2,.bool orr),(7,.int .i64 mo),(8,s.2),(9,.int .i64 s.1)]) (λs w=>s.1<=mo/\∃M1,Lt M1 w/\Step M w0 M1 w aH/\Own RT.fo 45 M1 w w0.heap.size s.2 (pg (if orr=true then(1:Int)else 2) a b 0 s.1)) (λs=>mo-s.1) (0,_) a47 ?_ ?_
   ·exact⟨bA _,M,hM,bg,ep _ _ _ _ _⟩
   ·rintro⟨k,u0⟩ w1 ⟨hk,M1,eD,S,ho⟩;dsimp only at hk ho ⊢;refine aQ (T.aU (ab G G (ab G G (cH G G G (ad ?_)))));refine bH G (λc8=>?_) (λc8=>?_)
    ·refine aM (aQ (bp (T.aU (ab G G (ab G G ?_)))));refine aV G G RP (jW (kS.le S.le)) (λr wc h=>?_);obtain⟨⟨r1,rfl,Bf,h1a,h1b⟩,rfl⟩:=h;refine Rg.a8 G G (T.aU (ab G G (ab G G ?_)));refine aV G G RP (jW (tb.le S.le)) (λr wc h=>?_);obtain⟨⟨r2,rfl,qh,h2a,h2b⟩,rfl⟩:=h;refine Rg.a8 G G (T.aU (Rg.a8 G G (aQ (T.aU (ab G G (cu G G G (ad ?_)))))));refine bH G (λBI=>?_) (λBI=>?_)
     ·obtain⟨i1,rfl,sm,qQ⟩:∃i1:Nat,r1=i1/\dY a (k:Int)=true/\a[i1]? =some ((k:Int),bG a (k:Int)):=by
       rcases Bf with h|h
       ·exact h
       ·omega
      have fg:(if dY a (k:Int)=true then(1:Int)else 0)=1:=by rw[if_pos sm]
      have C3:=ra.sc _ (ao qQ);simp only at C3;refine ay (ab G G (ab G G (ab G G ?_)));have qz:=(ak.1 qQ).1;refine cD an fE G G G (kS.le S.le) ck a14 (λRv Bg um Ja=>?_);obtain rfl:((k:Int),bG a (k:Int))=Bg:=cY (aG (um.symm.trans (by rw[av];exact qQ)));refine aw (M:=M1) (A:=RT.fo) (B:=RT.int .i64) bm G G I3 q0 (Jj) G G q0 VR (by repeat (first|exact bB _ _|refine aW (bC VR) ?_)) (λJP Ap=>?_);refine bX (M:=M1) al G G VR (by repeat (first|exact bB _ _|refine aW (bC VR) ?_)) (λnA=>?_);refine aZ (v':= .int .i64 (bG a (k:Int))) G ?_;replace nA: -9223372036854775808<=(bG a (k:Int):Int)/\bG a (k:Int)<=9223372036854775807:=nA;refine aX G G G hV (Rg.a8 G G (aQ (T.aU (ab G G (cu G G G (ad ?_))))));refine bH G (λyz=>?_) (λyz=>?_)
      ·obtain⟨i2,rfl,lU,mu⟩:∃i2:Nat,r2=i2/\dY b (k:Int)=true/\b[i2]? =some ((k:Int),bG b (k:Int)):=by
        rcases qh with h|h
        ·exact h
        ·omega
       have fC:(if dY b (k:Int)=true then(1:Int)else 0)=1:=by rw[if_pos lU]
       have iA:=rb.sc _ (ao mu);simp only at iA;refine ay (ab G G (ab G G (ab G G ?_)));have Jb:=(ak.1 mu).1;refine cD an fE G G G (tb.le S.le) ck a14 (λBh nB kn uq=>?_);obtain rfl:((k:Int),bG b (k:Int))=nB:=cY (aG (kn.symm.trans aj5));refine aw (M:=M1) (A:=RT.fo) (B:=RT.int .i64) bm G G I3 q0 (Jj) G G q0 VR (by repeat (first|exact bB _ _|refine aW (bC VR) ?_)) (λBi ur=>?_);refine bX (M:=M1) al G G VR (by repeat (first|exact bB _ _|refine aW (bC VR) ?_)) (λgP=>?_);refine aZ (v':= .int .i64 (bG b (k:Int))) G ?_;replace gP: -9223372036854775808<=(bG b (k:Int):Int)/\bG b (k:Int)<=9223372036854775807:=gP;refine aX G G G hV (Rg.a8 G G (T.aU (ab G G (cu G G G (ab G G ?_)))));refine aB (g:=68) G (λgQ=>?_) (λgQ=>?_)
       ·refine ae G G (ab G G (ae G G (cu G G G (aN G G G (ab G G ?_)))));refine aB (g:=72) G (λnC=>?_) (λnC=>?_)
        ·refine aj G G G G (aj G G G G (bN G G G (bN G G G (bN G G G (bN G G G (bN G G G (bN G G G (aj G G G G (aN G G G (ad (iz G ?_)))))))))));refine ay (ab G G (ab G G (ab G G (aZ (v':= .int .i64 (bG a (k:Int)+bG b (k:Int))) a52 (cx (places:=[(0,1),(1,1)]) bm fE qU rfl ⟨_,_,rfl,rfl,_,_,rfl,rfl,rfl⟩ (out:=[_,_]) ⟨0,[_],rfl,rfl,by simp[Value.cells],1,[_],rfl,rfl,by simp[Value.cells],rfl⟩ ?_)))));refine dT (A:=RT.fo) (hn:=by decide) (M:=M1) an fE q0 G G eD (kX (a:=(k:Int)) (b:=bG a (k:Int)+bG b (k:Int)) hV hV) (.inl G) (λu5 w5 gg s5=>?_);have lM:=eG (if orr=true then(1:Int)else 2) a b k;refine cI (M:=M1) (base:=w0.heap.size) an fE rfl rfl rfl rfl (ho.br s5) gg ck a06 a06 (ch S.size s5.size) (λv6 M3 w6 ia s6=>?_);refine Rg.a8 G G (ay (ab G G (aX G G G hV (Rg.a8 G G ?_))));refine⟨G,(k+1,_),a04,?_,?_⟩
         ·first
          |exact⟨by simp only;omega,M3,s6.lt (s5.lt eD),(S.ar s5).cf s6 (ho.br s5) (aK _),by simp only;rw[bL,ir a00];exact ia⟩
          |exact⟨by simp only;omega,M1,eD,S,by simp only;rw[bL,iu a01,bz];exact ho⟩
          |(exfalso;omega)
         ·simp only;omega
        ·refine ae G G (ab G G (ae G G (ab G G (aZ (v':= .bool (decide (orr=true))) (by simp) ?_))));refine aB (g:=74) G (λcK=>?_) (λcK=>?_)
         ·refine ae G G (ab G G (ae G G (cu G G G (ae G G (ab G G ?_)))));refine aB (g:=77) G (λfw=>?_) (λfw=>?_)
          ·refine aj G G G G (aj G G G G (ae G G (aN G G G (ae G G (aN G G G (au G G G (ad (iz G (ay (ab G G (ab G G ?_)))))))))));refine ab G G (aZ (v':= .int .i64 (bG a (k:Int)+bG b (k:Int))) a52 (cx (places:=[(0,1),(1,1)]) bm fE qU rfl ⟨_,_,rfl,rfl,_,_,rfl,rfl,rfl⟩ (out:=[_,_]) ⟨0,[_],rfl,rfl,by simp[Value.cells],1,[_],rfl,rfl,by simp[Value.cells],rfl⟩ ?_));refine dT (A:=RT.fo) (hn:=by decide) (M:=M1) an fE q0 G G eD (kX (a:=(k:Int)) (b:=bG a (k:Int)+bG b (k:Int)) hV hV) (.inl G) (λu5 w5 gg s5=>?_);have lM:=eG (if orr=true then(1:Int)else 2) a b k;refine cI (M:=M1) (base:=w0.heap.size) an fE rfl rfl rfl rfl (ho.br s5) gg ck a06 a06 (ch S.size s5.size) (λv6 M3 w6 ia s6=>?_);refine Rg.a8 G G (ay (ab G G (aX G G G hV (Rg.a8 G G ?_))));refine⟨G,(k+1,_),a04,?_,?_⟩
           ·first
            |exact⟨by simp only;omega,M3,s6.lt (s5.lt eD),(S.ar s5).cf s6 (ho.br s5) (aK _),by simp only;rw[bL,ir a00];exact ia⟩
            |exact⟨by simp only;omega,M1,eD,S,by simp only;rw[bL,iu a01,bz];exact ho⟩
            |(exfalso;omega)
           ·simp only;omega
          ·exfalso;omega
         ·refine aj G G G G (aj G G G G (aj G G G G (bN G G G (bN G G G (aj G G G G (ae G G (au G G G (au G G G (ad (fQ G (aM ?_)))))))))));refine ay (ab G G (aX G G G hV (Rg.a8 G G ?_)));refine⟨G,(k+1,_),a04,?_,?_⟩
          ·first
           |exact⟨by simp only;omega,M3,s6.lt (s5.lt eD),(S.ar s5).cf s6 (ho.br s5) (aK _),by simp only;rw[bL,ir a00];exact ia⟩
           |exact⟨by simp only;omega,M1,eD,S,by simp only;rw[bL,iu a01,bz];exact ho⟩
           |(exfalso;omega)
          ·simp only;omega
       ·exfalso;omega
      ·have lU:dY b (k:Int)=false:=by
        rcases qh with⟨i,h,_⟩|h
        ·omega
        ·exact h.2
       have fC:(if dY b (k:Int)=true then(1:Int)else 0)=0:=by rw[if_neg al8]
       have iA:=fc lU;refine aM (T.aU (ab G G (cu G G G (ab G G ?_))));refine aB (g:=68) G (λgQ=>?_) (λgQ=>?_)
       ·refine ae G G (ab G G (ae G G (cu G G G (aN G G G (ab G G ?_)))));refine aB (g:=72) G (λnC=>?_) (λnC=>?_)
        ·exfalso;omega
        ·refine ae G G (ab G G (ae G G (ab G G (aZ (v':= .bool (decide (orr=true))) (by simp) ?_))));refine aB (g:=74) G (λcK=>?_) (λcK=>?_)
         ·refine ae G G (ab G G (ae G G (cu G G G (ae G G (ab G G ?_)))));refine aB (g:=77) G (λfw=>?_) (λfw=>?_)
          ·refine aj G G G G (aj G G G G (ae G G (aN G G G (ae G G (aN G G G (au G G G (ad (iz G (ay (ab G G (ab G G ?_)))))))))));refine ab G G (aZ (v':= .int .i64 (bG a (k:Int)+bG b (k:Int))) a52 (cx (places:=[(0,1),(1,1)]) bm fE qU rfl ⟨_,_,rfl,rfl,_,_,rfl,rfl,rfl⟩ (out:=[_,_]) ⟨0,[_],rfl,rfl,by simp[Value.cells],1,[_],rfl,rfl,by simp[Value.cells],rfl⟩ ?_));refine dT (A:=RT.fo) (hn:=by decide) (M:=M1) an fE q0 G G eD (kX (a:=(k:Int)) (b:=bG a (k:Int)+bG b (k:Int)) hV hV) (.inl G) (λu5 w5 gg s5=>?_);have lM:=eG (if orr=true then(1:Int)else 2) a b k;refine cI (M:=M1) (base:=w0.heap.size) an fE rfl rfl rfl rfl (ho.br s5) gg ck a06 a06 (ch S.size s5.size) (λv6 M3 w6 ia s6=>?_);refine Rg.a8 G G (ay (ab G G (aX G G G hV (Rg.a8 G G ?_))));refine⟨G,(k+1,_),a04,?_,?_⟩
           ·first
            |exact⟨by simp only;omega,M3,s6.lt (s5.lt eD),(S.ar s5).cf s6 (ho.br s5) (aK _),by simp only;rw[bL,ir a00];exact ia⟩
            |exact⟨by simp only;omega,M1,eD,S,by simp only;rw[bL,iu a01,bz];exact ho⟩
            |(exfalso;omega)
           ·simp only;omega
          ·exfalso;omega
         ·refine aj G G G G (aj G G G G (aj G G G G (bN G G G (bN G G G (aj G G G G (ae G G (au G G G (au G G G (ad (fQ G (aM ?_)))))))))));refine ay (ab G G (aX G G G hV (Rg.a8 G G ?_)));refine⟨G,(k+1,_),a04,?_,?_⟩
          ·first
           |exact⟨by simp only;omega,M3,s6.lt (s5.lt eD),(S.ar s5).cf s6 (ho.br s5) (aK _),by simp only;rw[bL,ir a00];exact ia⟩
           |exact⟨by simp only;omega,M1,eD,S,by simp only;rw[bL,iu a01,bz];exact ho⟩
           |(exfalso;omega)
          ·simp only;omega
       ·exfalso;omega
     ·have sm:dY a (k:Int)=false:=by
       rcases Bf with⟨i,h,_⟩|h
       ·omega
       ·exact h.2
      have fg:(if dY a (k:Int)=true then(1:Int)else 0)=0:=by rw[if_neg (by rw[sm];decide)]
      have C3:=fc sm;refine aM (aQ (T.aU (ab G G (cu G G G (ad ?_)))));refine bH G (λyz=>?_) (λyz=>?_)
      ·obtain⟨i2,rfl,lU,mu⟩:∃i2:Nat,r2=i2/\dY b (k:Int)=true/\b[i2]? =some ((k:Int),bG b (k:Int)):=by
        rcases qh with h|h
        ·exact h
        ·omega
       have fC:(if dY b (k:Int)=true then(1:Int)else 0)=1:=by rw[if_pos lU]
       have iA:=rb.sc _ (ao mu);simp only at iA;refine ay (ab G G (ab G G (ab G G ?_)));have Jb:=(ak.1 mu).1;refine cD an fE G G G (tb.le S.le) ck a14 (λBh nB kn uq=>?_);obtain rfl:((k:Int),bG b (k:Int))=nB:=cY (aG (kn.symm.trans aj5));refine aw (M:=M1) (A:=RT.fo) (B:=RT.int .i64) bm G G I3 q0 (Jj) G G q0 VR (by repeat (first|exact bB _ _|refine aW (bC VR) ?_)) (λBi ur=>?_);refine bX (M:=M1) al G G VR (by repeat (first|exact bB _ _|refine aW (bC VR) ?_)) (λgP=>?_);refine aZ (v':= .int .i64 (bG b (k:Int))) G ?_;replace gP: -9223372036854775808<=(bG b (k:Int):Int)/\bG b (k:Int)<=9223372036854775807:=gP;refine aX G G G hV (Rg.a8 G G (T.aU (ab G G (cu G G G (ab G G ?_)))));refine aB (g:=68) G (λgQ=>?_) (λgQ=>?_)
       ·exfalso;omega
       ·refine aj G G G G (aj G G G G (au G G G (ab G G (ae G G (ab G G (ae G G (ab G G (aZ (v':= .bool (decide (orr=true))) (by simp) ?_))))))));refine aB (g:=74) G (λcK=>?_) (λcK=>?_)
        ·refine ae G G (ab G G (ae G G (cu G G G (ae G G (ab G G ?_)))));refine aB (g:=77) G (λfw=>?_) (λfw=>?_)
         ·exfalso;omega
         ·refine ae G G (ab G G (ae G G (cu G G G (ae G G (au G G G (ae G G (aN G G G (au G G G (ad ?_)))))))));refine bH G (λJc=>?_) (λJc=>?_)
          ·refine ay (ab G G (ab G G (ab G G (aZ (v':= .int .i64 (bG a (k:Int)+bG b (k:Int))) a52 (cx (places:=[(0,1),(1,1)]) bm fE qU rfl ⟨_,_,rfl,rfl,_,_,rfl,rfl,rfl⟩ (out:=[_,_]) ⟨0,[_],rfl,rfl,by simp[Value.cells],1,[_],rfl,rfl,by simp[Value.cells],rfl⟩ ?_)))));refine dT (A:=RT.fo) (hn:=by decide) (M:=M1) an fE q0 G G eD (kX (a:=(k:Int)) (b:=bG a (k:Int)+bG b (k:Int)) hV hV) (.inl G) (λu5 w5 gg s5=>?_);have lM:=eG (if orr=true then(1:Int)else 2) a b k;refine cI (M:=M1) (base:=w0.heap.size) an fE rfl rfl rfl rfl (ho.br s5) gg ck a06 a06 (ch S.size s5.size) (λv6 M3 w6 ia s6=>?_);refine Rg.a8 G G (ay (ab G G (aX G G G hV (Rg.a8 G G ?_))));refine⟨G,(k+1,_),a04,?_,?_⟩
           ·first
            |exact⟨by simp only;omega,M3,s6.lt (s5.lt eD),(S.ar s5).cf s6 (ho.br s5) (aK _),by simp only;rw[bL,ir a00];exact ia⟩
            |exact⟨by simp only;omega,M1,eD,S,by simp only;rw[bL,iu a01,bz];exact ho⟩
            |(exfalso;omega)
           ·simp only;omega
          ·refine aM (ay (ab G G (aX G G G hV (Rg.a8 G G ?_))));refine⟨G,(k+1,_),a04,?_,?_⟩
           ·first
            |exact⟨by simp only;omega,M3,s6.lt (s5.lt eD),(S.ar s5).cf s6 (ho.br s5) (aK _),by simp only;rw[bL,ir a00];exact ia⟩
            |exact⟨by simp only;omega,M1,eD,S,by simp only;rw[bL,iu a01,bz];exact ho⟩
            |(exfalso;omega)
           ·simp only;omega
        ·refine aj G G G G (aj G G G G (aj G G G G (bN G G G (bN G G G (aj G G G G (ae G G (au G G G (au G G G (ad (fQ G (aM ?_)))))))))));refine ay (ab G G (aX G G G hV (Rg.a8 G G ?_)));refine⟨G,(k+1,_),a04,?_,?_⟩
         ·first
          |exact⟨by simp only;omega,M3,s6.lt (s5.lt eD),(S.ar s5).cf s6 (ho.br s5) (aK _),by simp only;rw[bL,ir a00];exact ia⟩
          |exact⟨by simp only;omega,M1,eD,S,by simp only;rw[bL,iu a01,bz];exact ho⟩
          |(exfalso;omega)
         ·simp only;omega
      ·have lU:dY b (k:Int)=false:=by
        rcases qh with⟨i,h,_⟩|h
        ·omega
        ·exact h.2
       have fC:(if dY b (k:Int)=true then(1:Int)else 0)=0:=by rw[if_neg al8]
       have iA:=fc lU;refine aM (T.aU (ab G G (cu G G G (ab G G ?_))));refine aB (g:=68) G (λgQ=>?_) (λgQ=>?_)
       ·exfalso;omega
       ·refine aj G G G G (aj G G G G (au G G G (ab G G (ae G G (ab G G (ae G G (ab G G (aZ (v':= .bool (decide (orr=true))) (by simp) ?_))))))));refine aB (g:=74) G (λcK=>?_) (λcK=>?_)
        ·refine ae G G (ab G G (ae G G (cu G G G (ae G G (ab G G ?_)))));refine aB (g:=77) G (λfw=>?_) (λfw=>?_)
         ·exfalso;omega
         ·refine ae G G (ab G G (ae G G (cu G G G (ae G G (au G G G (ae G G (aN G G G (au G G G (ad ?_)))))))));refine bH G (λJc=>?_) (λJc=>?_)
          ·refine ay (ab G G (ab G G (ab G G (aZ (v':= .int .i64 (bG a (k:Int)+bG b (k:Int))) a52 (cx (places:=[(0,1),(1,1)]) bm fE qU rfl ⟨_,_,rfl,rfl,_,_,rfl,rfl,rfl⟩ (out:=[_,_]) ⟨0,[_],rfl,rfl,by simp[Value.cells],1,[_],rfl,rfl,by simp[Value.cells],rfl⟩ ?_)))));refine dT (A:=RT.fo) (hn:=by decide) (M:=M1) an fE q0 G G eD (kX (a:=(k:Int)) (b:=bG a (k:Int)+bG b (k:Int)) hV hV) (.inl G) (λu5 w5 gg s5=>?_);have lM:=eG (if orr=true then(1:Int)else 2) a b k;refine cI (M:=M1) (base:=w0.heap.size) an fE rfl rfl rfl rfl (ho.br s5) gg ck a06 a06 (ch S.size s5.size) (λv6 M3 w6 ia s6=>?_);refine Rg.a8 G G (ay (ab G G (aX G G G hV (Rg.a8 G G ?_))));refine⟨G,(k+1,_),a04,?_,?_⟩
           ·first
            |exact⟨by simp only;omega,M3,s6.lt (s5.lt eD),(S.ar s5).cf s6 (ho.br s5) (aK _),by simp only;rw[bL,ir a00];exact ia⟩
            |exact⟨by simp only;omega,M1,eD,S,by simp only;rw[bL,iu a01,bz];exact ho⟩
            |(exfalso;omega)
           ·simp only;omega
          ·refine aM (ay (ab G G (aX G G G hV (Rg.a8 G G ?_))));refine⟨G,(k+1,_),a04,?_,?_⟩
           ·first
            |exact⟨by simp only;omega,M3,s6.lt (s5.lt eD),(S.ar s5).cf s6 (ho.br s5) (aK _),by simp only;rw[bL,ir a00];exact ia⟩
            |exact⟨by simp only;omega,M1,eD,S,by simp only;rw[bL,iu a01,bz];exact ho⟩
            |(exfalso;omega)
           ·simp only;omega
        ·refine aj G G G G (aj G G G G (aj G G G G (bN G G G (bN G G G (aj G G G G (ae G G (au G G G (au G G G (ad (fQ G (aM ?_)))))))))));refine ay (ab G G (aX G G G hV (Rg.a8 G G ?_)));refine⟨G,(k+1,_),a04,?_,?_⟩
         ·first
          |exact⟨by simp only;omega,M3,s6.lt (s5.lt eD),(S.ar s5).cf s6 (ho.br s5) (aK _),by simp only;rw[bL,ir a00];exact ia⟩
          |exact⟨by simp only;omega,M1,eD,S,by simp only;rw[bL,iu a01,bz];exact ho⟩
          |(exfalso;omega)
         ·simp only;omega
    ·refine de (T.aU (ab G G (Rg.a8 G G (aS ?_))));obtain rfl:k=mo:=by omega
     exact af7
 ·obtain⟨m1,Ha⟩:∃m1:Nat,m1=0:=⟨_,rfl⟩;have hae:a=[]:=cG.1 hV;have Ni:∀p∈a,p.1<(m1:Nat):=λp hp=>by rw[hae]at hp;cases hp
  have am0:m1<=1000:=by omega
  refine aM (aQ (T.aU (ab G G (bR an G tb G (fR G G G (ad ?_))))));refine bH G (λc4=>?_) (λc4=>?_)
  ·refine ay (ab G G (ab G G (ab G G (bR an G tb G (iQ G G G hV ?_)))));obtain⟨⟨e2,t2⟩,RE⟩:∃x,b[b.length-1]? =some x:=⟨_,aq hV⟩;have re2:=rb.ED _ (ao RE);simp only at re2;refine cD an fE G G G (tb) ck a14 (λacO ZJ Ru PD=>?_);obtain rfl:(e2,t2)=ZJ:=cY (aG (Ru.symm.trans (by rw[show((b.length:Int)-1).toNat=b.length-1 from by omega];exact RE)));refine aw (M:=M) (A:=RT.fo) (B:=RT.int .i64) bm G G I3 q0 (Sk) G G q0 VR (by repeat (first|exact bB _ _|refine aW (bC VR) ?_)) (λad2 Gy=>?_);refine bX (M:=M) al G G VR (by repeat (first|exact bB _ _|refine aW (bC VR) ?_)) (λGU=>?_);refine aZ (v':= .int .i64 (e2)) G ?_;replace GU: -9223372036854775808<=(e2:Int)/\e2<=9223372036854775807:=GU;refine aX G G G hV (Rg.max2 G G G ?_);obtain⟨mo,Co⟩:∃mo:Nat,(mo:Int)=max (m1:Int) (e2+1):=⟨(max (m1:Int) (e2+1)).toNat,by omega⟩;refine aJ rfl rfl (aZ (v':= .int .i64 mo) (by first|(rw[Co];done)|(rw[Co,Ha];rfl)) ?_);have Ef:∀p∈a,p.1<(mo:Nat):=λp hp=>by have:=Ni p hp;omega
   have yv:∀p∈b,p.1<(mo:Nat):=λp hp=>by have:=AJ rb RE p hp;simp only at this;omega
   have I8:mo<=1000:=by omega
   refine ad (T.aU (Rg.a8 G G (aQ (T.aU (Rg.a8 G G (bp ?_))))));refine dz (σ:=Nat×Value) (λs=>[(0,va),(1,vb),(2,.bool orr),(7,.int .i64 mo),(8,s.2),(9,.int .i64 s.1)]) (λs w=>s.1<=mo/\∃M1,Lt M1 w/\Step M w0 M1 w aH/\Own RT.fo 45 M1 w w0.heap.size s.2 (pg (if orr=true then(1:Int)else 2) a b 0 s.1)) (λs=>mo-s.1) (0,_) a47 ?_ ?_
   ·exact⟨bA _,M,hM,bg,ep _ _ _ _ _⟩
   ·rintro⟨k,u0⟩ w1 ⟨hk,M1,eD,S,ho⟩;dsimp only at hk ho ⊢;refine aQ (T.aU (ab G G (ab G G (cH G G G (ad ?_)))));refine bH G (λc8=>?_) (λc8=>?_)
    ·refine aM (aQ (bp (T.aU (ab G G (ab G G ?_)))));refine aV G G RP (jW (kS.le S.le)) (λr wc h=>?_);obtain⟨⟨r1,rfl,Bf,h1a,h1b⟩,rfl⟩:=h;refine Rg.a8 G G (T.aU (ab G G (ab G G ?_)));refine aV G G RP (jW (tb.le S.le)) (λr wc h=>?_);obtain⟨⟨r2,rfl,qh,h2a,h2b⟩,rfl⟩:=h;refine Rg.a8 G G (T.aU (Rg.a8 G G (aQ (T.aU (ab G G (cu G G G (ad ?_)))))));refine bH G (λBI=>?_) (λBI=>?_)
     ·obtain⟨i1,rfl,sm,qQ⟩:∃i1:Nat,r1=i1/\dY a (k:Int)=true/\a[i1]? =some ((k:Int),bG a (k:Int)):=by
       rcases Bf with h|h
       ·exact h
       ·omega
      have fg:(if dY a (k:Int)=true then(1:Int)else 0)=1:=by rw[if_pos sm]
      have C3:=ra.sc _ (ao qQ);simp only at C3;refine ay (ab G G (ab G G (ab G G ?_)));have qz:=(ak.1 qQ).1;refine cD an fE G G G (kS.le S.le) ck a14 (λRv Bg um Ja=>?_);obtain rfl:((k:Int),bG a (k:Int))=Bg:=cY (aG (um.symm.trans (by rw[av];exact qQ)));refine aw (M:=M1) (A:=RT.fo) (B:=RT.int .i64) bm G G I3 q0 (Jj) G G q0 VR (by repeat (first|exact bB _ _|refine aW (bC VR) ?_)) (λJP Ap=>?_);refine bX (M:=M1) al G G VR (by repeat (first|exact bB _ _|refine aW (bC VR) ?_)) (λnA=>?_);refine aZ (v':= .int .i64 (bG a (k:Int))) G ?_;replace nA: -9223372036854775808<=(bG a (k:Int):Int)/\bG a (k:Int)<=9223372036854775807:=nA;refine aX G G G hV (Rg.a8 G G (aQ (T.aU (ab G G (cu G G G (ad ?_))))));refine bH G (λyz=>?_) (λyz=>?_)
      ·obtain⟨i2,rfl,lU,mu⟩:∃i2:Nat,r2=i2/\dY b (k:Int)=true/\b[i2]? =some ((k:Int),bG b (k:Int)):=by
        rcases qh with h|h
        ·exact h
        ·omega
       have fC:(if dY b (k:Int)=true then(1:Int)else 0)=1:=by rw[if_pos lU]
       have iA:=rb.sc _ (ao mu);simp only at iA;refine ay (ab G G (ab G G (ab G G ?_)));have Jb:=(ak.1 mu).1;refine cD an fE G G G (tb.le S.le) ck a14 (λBh nB kn uq=>?_);obtain rfl:((k:Int),bG b (k:Int))=nB:=cY (aG (kn.symm.trans aj5));refine aw (M:=M1) (A:=RT.fo) (B:=RT.int .i64) bm G G I3 q0 (Jj) G G q0 VR (by repeat (first|exact bB _ _|refine aW (bC VR) ?_)) (λBi ur=>?_);refine bX (M:=M1) al G G VR (by repeat (first|exact bB _ _|refine aW (bC VR) ?_)) (λgP=>?_);refine aZ (v':= .int .i64 (bG b (k:Int))) G ?_;replace gP: -9223372036854775808<=(bG b (k:Int):Int)/\bG b (k:Int)<=9223372036854775807:=gP;refine aX G G G hV (Rg.a8 G G (T.aU (ab G G (cu G G G (ab G G ?_)))));refine aB (g:=68) G (λgQ=>?_) (λgQ=>?_)
       ·refine ae G G (ab G G (ae G G (cu G G G (aN G G G (ab G G ?_)))));refine aB (g:=72) G (λnC=>?_) (λnC=>?_)
        ·refine aj G G G G (aj G G G G (bN G G G (bN G G G (bN G G G (bN G G G (bN G G G (bN G G G (aj G G G G (aN G G G (ad (iz G ?_)))))))))));refine ay (ab G G (ab G G (ab G G (aZ (v':= .int .i64 (bG a (k:Int)+bG b (k:Int))) a52 (cx (places:=[(0,1),(1,1)]) bm fE qU rfl ⟨_,_,rfl,rfl,_,_,rfl,rfl,rfl⟩ (out:=[_,_]) ⟨0,[_],rfl,rfl,by simp[Value.cells],1,[_],rfl,rfl,by simp[Value.cells],rfl⟩ ?_)))));refine dT (A:=RT.fo) (hn:=by decide) (M:=M1) an fE q0 G G eD (kX (a:=(k:Int)) (b:=bG a (k:Int)+bG b (k:Int)) hV hV) (.inl G) (λu5 w5 gg s5=>?_);have lM:=eG (if orr=true then(1:Int)else 2) a b k;refine cI (M:=M1) (base:=w0.heap.size) an fE rfl rfl rfl rfl (ho.br s5) gg ck a06 a06 (ch S.size s5.size) (λv6 M3 w6 ia s6=>?_);refine Rg.a8 G G (ay (ab G G (aX G G G hV (Rg.a8 G G ?_))));refine⟨G,(k+1,_),a04,?_,?_⟩
         ·first
          |exact⟨by simp only;omega,M3,s6.lt (s5.lt eD),(S.ar s5).cf s6 (ho.br s5) (aK _),by simp only;rw[bL,ir a00];exact ia⟩
          |exact⟨by simp only;omega,M1,eD,S,by simp only;rw[bL,iu a01,bz];exact ho⟩
          |(exfalso;omega)
         ·simp only;omega
        ·refine ae G G (ab G G (ae G G (ab G G (aZ (v':= .bool (decide (orr=true))) (by simp) ?_))));refine aB (g:=74) G (λcK=>?_) (λcK=>?_)
         ·refine ae G G (ab G G (ae G G (cu G G G (ae G G (ab G G ?_)))));refine aB (g:=77) G (λfw=>?_) (λfw=>?_)
          ·refine aj G G G G (aj G G G G (ae G G (aN G G G (ae G G (aN G G G (au G G G (ad (iz G (ay (ab G G (ab G G ?_)))))))))));refine ab G G (aZ (v':= .int .i64 (bG a (k:Int)+bG b (k:Int))) a52 (cx (places:=[(0,1),(1,1)]) bm fE qU rfl ⟨_,_,rfl,rfl,_,_,rfl,rfl,rfl⟩ (out:=[_,_]) ⟨0,[_],rfl,rfl,by simp[Value.cells],1,[_],rfl,rfl,by simp[Value.cells],rfl⟩ ?_));refine dT (A:=RT.fo) (hn:=by decide) (M:=M1) an fE q0 G G eD (kX (a:=(k:Int)) (b:=bG a (k:Int)+bG b (k:Int)) hV hV) (.inl G) (λu5 w5 gg s5=>?_);have lM:=eG (if orr=true then(1:Int)else 2) a b k;refine cI (M:=M1) (base:=w0.heap.size) an fE rfl rfl rfl rfl (ho.br s5) gg ck a06 a06 (ch S.size s5.size) (λv6 M3 w6 ia s6=>?_);refine Rg.a8 G G (ay (ab G G (aX G G G hV (Rg.a8 G G ?_))));refine⟨G,(k+1,_),a04,?_,?_⟩
           ·first
            |exact⟨by simp only;omega,M3,s6.lt (s5.lt eD),(S.ar s5).cf s6 (ho.br s5) (aK _),by simp only;rw[bL,ir a00];exact ia⟩
            |exact⟨by simp only;omega,M1,eD,S,by simp only;rw[bL,iu a01,bz];exact ho⟩
            |(exfalso;omega)
           ·simp only;omega
          ·exfalso;omega
         ·refine aj G G G G (aj G G G G (aj G G G G (bN G G G (bN G G G (aj G G G G (ae G G (au G G G (au G G G (ad (fQ G (aM ?_)))))))))));refine ay (ab G G (aX G G G hV (Rg.a8 G G ?_)));refine⟨G,(k+1,_),a04,?_,?_⟩
          ·first
           |exact⟨by simp only;omega,M3,s6.lt (s5.lt eD),(S.ar s5).cf s6 (ho.br s5) (aK _),by simp only;rw[bL,ir a00];exact ia⟩
           |exact⟨by simp only;omega,M1,eD,S,by simp only;rw[bL,iu a01,bz];exact ho⟩
           |(exfalso;omega)
          ·simp only;omega
       ·exfalso;omega
      ·have lU:dY b (k:Int)=false:=by
        rcases qh with⟨i,h,_⟩|h
        ·omega
        ·exact h.2
       have fC:(if dY b (k:Int)=true then(1:Int)else 0)=0:=by rw[if_neg al8]
       have iA:=fc lU;refine aM (T.aU (ab G G (cu G G G (ab G G ?_))));refine aB (g:=68) G (λgQ=>?_) (λgQ=>?_)
       ·refine ae G G (ab G G (ae G G (cu G G G (aN G G G (ab G G ?_)))));refine aB (g:=72) G (λnC=>?_) (λnC=>?_)
        ·exfalso;omega
        ·refine ae G G (ab G G (ae G G (ab G G (aZ (v':= .bool (decide (orr=true))) (by simp) ?_))));refine aB (g:=74) G (λcK=>?_) (λcK=>?_)
         ·refine ae G G (ab G G (ae G G (cu G G G (ae G G (ab G G ?_)))));refine aB (g:=77) G (λfw=>?_) (λfw=>?_)
          ·refine aj G G G G (aj G G G G (ae G G (aN G G G (ae G G (aN G G G (au G G G (ad (iz G (ay (ab G G (ab G G ?_)))))))))));refine ab G G (aZ (v':= .int .i64 (bG a (k:Int)+bG b (k:Int))) a52 (cx (places:=[(0,1),(1,1)]) bm fE qU rfl ⟨_,_,rfl,rfl,_,_,rfl,rfl,rfl⟩ (out:=[_,_]) ⟨0,[_],rfl,rfl,by simp[Value.cells],1,[_],rfl,rfl,by simp[Value.cells],rfl⟩ ?_));refine dT (A:=RT.fo) (hn:=by decide) (M:=M1) an fE q0 G G eD (kX (a:=(k:Int)) (b:=bG a (k:Int)+bG b (k:Int)) hV hV) (.inl G) (λu5 w5 gg s5=>?_);have lM:=eG (if orr=true then(1:Int)else 2) a b k;refine cI (M:=M1) (base:=w0.heap.size) an fE rfl rfl rfl rfl (ho.br s5) gg ck a06 a06 (ch S.size s5.size) (λv6 M3 w6 ia s6=>?_);refine Rg.a8 G G (ay (ab G G (aX G G G hV (Rg.a8 G G ?_))));refine⟨G,(k+1,_),a04,?_,?_⟩
           ·first
            |exact⟨by simp only;omega,M3,s6.lt (s5.lt eD),(S.ar s5).cf s6 (ho.br s5) (aK _),by simp only;rw[bL,ir a00];exact ia⟩
            |exact⟨by simp only;omega,M1,eD,S,by simp only;rw[bL,iu a01,bz];exact ho⟩
            |(exfalso;omega)
           ·simp only;omega
          ·exfalso;omega
         ·refine aj G G G G (aj G G G G (aj G G G G (bN G G G (bN G G G (aj G G G G (ae G G (au G G G (au G G G (ad (fQ G (aM ?_)))))))))));refine ay (ab G G (aX G G G hV (Rg.a8 G G ?_)));refine⟨G,(k+1,_),a04,?_,?_⟩
          ·first
           |exact⟨by simp only;omega,M3,s6.lt (s5.lt eD),(S.ar s5).cf s6 (ho.br s5) (aK _),by simp only;rw[bL,ir a00];exact ia⟩
           |exact⟨by simp only;omega,M1,eD,S,by simp only;rw[bL,iu a01,bz];exact ho⟩
           |(exfalso;omega)
          ·simp only;omega
       ·exfalso;omega
     ·have sm:dY a (k:Int)=false:=by
       rcases Bf with⟨i,h,_⟩|h
       ·omega
       ·exact h.2
      have fg:(if dY a (k:Int)=true then(1:Int)else 0)=0:=by rw[if_neg (by rw[sm];decide)]
      have C3:=fc sm;refine aM (aQ (T.aU (ab G G (cu G G G (ad ?_)))));refine bH G (λyz=>?_) (λyz=>?_)
      ·obtain⟨i2,rfl,lU,mu⟩:∃i2:Nat,r2=i2/\dY b (k:Int)=true/\b[i2]? =some ((k:Int),bG b (k:Int)):=by
        rcases qh with h|h
        ·exact h
        ·omega
       have fC:(if dY b (k:Int)=true then(1:Int)else 0)=1:=by rw[if_pos lU]
       have iA:=rb.sc _ (ao mu);simp only at iA;refine ay (ab G G (ab G G (ab G G ?_)));have Jb:=(ak.1 mu).1;refine cD an fE G G G (tb.le S.le) ck a14 (λBh nB kn uq=>?_);obtain rfl:((k:Int),bG b (k:Int))=nB:=cY (aG (kn.symm.trans aj5));refine aw (M:=M1) (A:=RT.fo) (B:=RT.int .i64) bm G G I3 q0 (Jj) G G q0 VR (by repeat (first|exact bB _ _|refine aW (bC VR) ?_)) (λBi ur=>?_);refine bX (M:=M1) al G G VR (by repeat (first|exact bB _ _|refine aW (bC VR) ?_)) (λgP=>?_);refine aZ (v':= .int .i64 (bG b (k:Int))) G ?_;replace gP: -9223372036854775808<=(bG b (k:Int):Int)/\bG b (k:Int)<=9223372036854775807:=gP;refine aX G G G hV (Rg.a8 G G (T.aU (ab G G (cu G G G (ab G G ?_)))));refine aB (g:=68) G (λgQ=>?_) (λgQ=>?_)
       ·exfalso;omega
       ·refine aj G G G G (aj G G G G (au G G G (ab G G (ae G G (ab G G (ae G G (ab G G (aZ (v':= .bool (decide (orr=true))) (by simp) ?_))))))));refine aB (g:=74) G (λcK=>?_) (λcK=>?_)
        ·refine ae G G (ab G G (ae G G (cu G G G (ae G G (ab G G ?_)))));refine aB (g:=77) G (λfw=>?_) (λfw=>?_)
         ·exfalso;omega
         ·refine ae G G (ab G G (ae G G (cu G G G (ae G G (au G G G (ae G G (aN G G G (au G G G (ad ?_)))))))));refine bH G (λJc=>?_) (λJc=>?_)
          ·refine ay (ab G G (ab G G (ab G G (aZ (v':= .int .i64 (bG a (k:Int)+bG b (k:Int))) a52 (cx (places:=[(0,1),(1,1)]) bm fE qU rfl ⟨_,_,rfl,rfl,_,_,rfl,rfl,rfl⟩ (out:=[_,_]) ⟨0,[_],rfl,rfl,by simp[Value.cells],1,[_],rfl,rfl,by simp[Value.cells],rfl⟩ ?_)))));refine dT (A:=RT.fo) (hn:=by decide) (M:=M1) an fE q0 G G eD (kX (a:=(k:Int)) (b:=bG a (k:Int)+bG b (k:Int)) hV hV) (.inl G) (λu5 w5 gg s5=>?_);have lM:=eG (if orr=true then(1:Int)else 2) a b k;refine cI (M:=M1) (base:=w0.heap.size) an fE rfl rfl rfl rfl (ho.br s5) gg ck a06 a06 (ch S.size s5.size) (λv6 M3 w6 ia s6=>?_);refine Rg.a8 G G (ay (ab G G (aX G G G hV (Rg.a8 G G ?_))));refine⟨G,(k+1,_),a04,?_,?_⟩
           ·first
            |exact⟨by simp only;omega,M3,s6.lt (s5.lt eD),(S.ar s5).cf s6 (ho.br s5) (aK _),by simp only;rw[bL,ir a00];exact ia⟩
            |exact⟨by simp only;omega,M1,eD,S,by simp only;rw[bL,iu a01,bz];exact ho⟩
            |(exfalso;omega)
           ·simp only;omega
          ·refine aM (ay (ab G G (aX G G G hV (Rg.a8 G G ?_))));refine⟨G,(k+1,_),a04,?_,?_⟩
           ·first
            |exact⟨by simp only;omega,M3,s6.lt (s5.lt eD),(S.ar s5).cf s6 (ho.br s5) (aK _),by simp only;rw[bL,ir a00];exact ia⟩
            |exact⟨by simp only;omega,M1,eD,S,by simp only;rw[bL,iu a01,bz];exact ho⟩
            |(exfalso;omega)
           ·simp only;omega
        ·refine aj G G G G (aj G G G G (aj G G G G (bN G G G (bN G G G (aj G G G G (ae G G (au G G G (au G G G (ad (fQ G (aM ?_)))))))))));refine ay (ab G G (aX G G G hV (Rg.a8 G G ?_)));refine⟨G,(k+1,_),a04,?_,?_⟩
         ·first
          |exact⟨by simp only;omega,M3,s6.lt (s5.lt eD),(S.ar s5).cf s6 (ho.br s5) (aK _),by simp only;rw[bL,ir a00];exact ia⟩
          |exact⟨by simp only;omega,M1,eD,S,by simp only;rw[bL,iu a01,bz];exact ho⟩
          |(exfalso;omega)
         ·simp only;omega
      ·have lU:dY b (k:Int)=false:=by
        rcases qh with⟨i,h,_⟩|h
        ·omega
        ·exact h.2
       have fC:(if dY b (k:Int)=true then(1:Int)else 0)=0:=by rw[if_neg al8]
       have iA:=fc lU;refine aM (T.aU (ab G G (cu G G G (ab G G ?_))));refine aB (g:=68) G (λgQ=>?_) (λgQ=>?_)
       ·exfalso;omega
       ·refine aj G G G G (aj G G G G (au G G G (ab G G (ae G G (ab G G (ae G G (ab G G (aZ (v':= .bool (decide (orr=true))) (by simp) ?_))))))));refine aB (g:=74) G (λcK=>?_) (λcK=>?_)
        ·refine ae G G (ab G G (ae G G (cu G G G (ae G G (ab G G ?_)))));refine aB (g:=77) G (λfw=>?_) (λfw=>?_)
         ·exfalso;omega
         ·refine ae G G (ab G G (ae G G (cu G G G (ae G G (au G G G (ae G G (aN G G G (au G G G (ad ?_)))))))));refine bH G (λJc=>?_) (λJc=>?_)
          ·refine ay (ab G G (ab G G (ab G G (aZ (v':= .int .i64 (bG a (k:Int)+bG b (k:Int))) a52 (cx (places:=[(0,1),(1,1)]) bm fE qU rfl ⟨_,_,rfl,rfl,_,_,rfl,rfl,rfl⟩ (out:=[_,_]) ⟨0,[_],rfl,rfl,by simp[Value.cells],1,[_],rfl,rfl,by simp[Value.cells],rfl⟩ ?_)))));refine dT (A:=RT.fo) (hn:=by decide) (M:=M1) an fE q0 G G eD (kX (a:=(k:Int)) (b:=bG a (k:Int)+bG b (k:Int)) hV hV) (.inl G) (λu5 w5 gg s5=>?_);have lM:=eG (if orr=true then(1:Int)else 2) a b k;refine cI (M:=M1) (base:=w0.heap.size) an fE rfl rfl rfl rfl (ho.br s5) gg ck a06 a06 (ch S.size s5.size) (λv6 M3 w6 ia s6=>?_);refine Rg.a8 G G (ay (ab G G (aX G G G hV (Rg.a8 G G ?_))));refine⟨G,(k+1,_),a04,?_,?_⟩
           ·first
            |exact⟨by simp only;omega,M3,s6.lt (s5.lt eD),(S.ar s5).cf s6 (ho.br s5) (aK _),by simp only;rw[bL,ir a00];exact ia⟩
            |exact⟨by simp only;omega,M1,eD,S,by simp only;rw[bL,iu a01,bz];exact ho⟩
            |(exfalso;omega)
           ·simp only;omega
          ·refine aM (ay (ab G G (aX G G G hV (Rg.a8 G G ?_))));refine⟨G,(k+1,_),a04,?_,?_⟩
           ·first
            |exact⟨by simp only;omega,M3,s6.lt (s5.lt eD),(S.ar s5).cf s6 (ho.br s5) (aK _),by simp only;rw[bL,ir a00];exact ia⟩
            |exact⟨by simp only;omega,M1,eD,S,by simp only;rw[bL,iu a01,bz];exact ho⟩
            |(exfalso;omega)
           ·simp only;omega
        ·refine aj G G G G (aj G G G G (aj G G G G (bN G G G (bN G G G (aj G G G G (ae G G (au G G G (au G G G (ad (fQ G (aM ?_)))))))))));refine ay (ab G G (aX G G G hV (Rg.a8 G G ?_)));refine⟨G,(k+1,_),a04,?_,?_⟩
         ·first
          |exact⟨by simp only;omega,M3,s6.lt (s5.lt eD),(S.ar s5).cf s6 (ho.br s5) (aK _),by simp only;rw[bL,ir a00];exact ia⟩
          |exact⟨by simp only;omega,M1,eD,S,by simp only;rw[bL,iu a01,bz];exact ho⟩
          |(exfalso;omega)
         ·simp only;omega
    ·refine de (T.aU (ab G G (Rg.a8 G G (aS ?_))));obtain rfl:k=mo:=by omega
     exact af7
  ·obtain⟨mo,Co⟩:∃mo:Nat,mo=m1:=⟨_,rfl⟩;have Vc:b=[]:=cG.1 hV;have Ef:∀p∈a,p.1<(mo:Nat):=λp hp=>by rw[Co];exact Ni p hp
   have yv:∀p∈b,p.1<(mo:Nat):=λp hp=>by rw[Vc]at hp;cases hp
   have I8:mo<=1000:=by omega
   refine aM (T.aU (Rg.a8 G G (aQ (T.aU (Rg.a8 G G (bp ?_))))));refine dz (σ:=Nat×Value) (λs=>[(0,va),(1,vb),(2,.bool orr),(7,.int .i64 mo),(8,s.2),(9,.int .i64 s.1)]) (λs w=>s.1<=mo/\∃M1,Lt M1 w/\Step M w0 M1 w aH/\Own RT.fo 45 M1 w w0.heap.size s.2 (pg (if orr=true then(1:Int)else 2) a b 0 s.1)) (λs=>mo-s.1) (0,_) a47 ?_ ?_
   ·exact⟨bA _,M,hM,bg,ep _ _ _ _ _⟩
   ·rintro⟨k,u0⟩ w1 ⟨hk,M1,eD,S,ho⟩;dsimp only at hk ho ⊢;refine aQ (T.aU (ab G G (ab G G (cH G G G (ad ?_)))));refine bH G (λc8=>?_) (λc8=>?_)
    ·refine aM (aQ (bp (T.aU (ab G G (ab G G ?_)))));refine aV G G RP (jW (kS.le S.le)) (λr wc h=>?_);obtain⟨⟨r1,rfl,Bf,h1a,h1b⟩,rfl⟩:=h;refine Rg.a8 G G (T.aU (ab G G (ab G G ?_)));refine aV G G RP (jW (tb.le S.le)) (λr wc h=>?_);obtain⟨⟨r2,rfl,qh,h2a,h2b⟩,rfl⟩:=h;refine Rg.a8 G G (T.aU (Rg.a8 G G (aQ (T.aU (ab G G (cu G G G (ad ?_)))))));refine bH G (λBI=>?_) (λBI=>?_)
     ·obtain⟨i1,rfl,sm,qQ⟩:∃i1:Nat,r1=i1/\dY a (k:Int)=true/\a[i1]? =some ((k:Int),bG a (k:Int)):=by
       rcases Bf with h|h
       ·exact h
       ·omega
      have fg:(if dY a (k:Int)=true then(1:Int)else 0)=1:=by rw[if_pos sm]
      have C3:=ra.sc _ (ao qQ);simp only at C3;refine ay (ab G G (ab G G (ab G G ?_)));have qz:=(ak.1 qQ).1;refine cD an fE G G G (kS.le S.le) ck a14 (λRv Bg um Ja=>?_);obtain rfl:((k:Int),bG a (k:Int))=Bg:=cY (aG (um.symm.trans (by rw[av];exact qQ)));refine aw (M:=M1) (A:=RT.fo) (B:=RT.int .i64) bm G G I3 q0 (Jj) G G q0 VR (by repeat (first|exact bB _ _|refine aW (bC VR) ?_)) (λJP Ap=>?_);refine bX (M:=M1) al G G VR (by repeat (first|exact bB _ _|refine aW (bC VR) ?_)) (λnA=>?_);refine aZ (v':= .int .i64 (bG a (k:Int))) G ?_;replace nA: -9223372036854775808<=(bG a (k:Int):Int)/\bG a (k:Int)<=9223372036854775807:=nA;refine aX G G G hV (Rg.a8 G G (aQ (T.aU (ab G G (cu G G G (ad ?_))))));refine bH G (λyz=>?_) (λyz=>?_)
      ·obtain⟨i2,rfl,lU,mu⟩:∃i2:Nat,r2=i2/\dY b (k:Int)=true/\b[i2]? =some ((k:Int),bG b (k:Int)):=by
        rcases qh with h|h
        ·exact h
        ·omega
       have fC:(if dY b (k:Int)=true then(1:Int)else 0)=1:=by rw[if_pos lU]
       have iA:=rb.sc _ (ao mu);simp only at iA;refine ay (ab G G (ab G G (ab G G ?_)));have Jb:=(ak.1 mu).1;refine cD an fE G G G (tb.le S.le) ck a14 (λBh nB kn uq=>?_);obtain rfl:((k:Int),bG b (k:Int))=nB:=cY (aG (kn.symm.trans aj5));refine aw (M:=M1) (A:=RT.fo) (B:=RT.int .i64) bm G G I3 q0 (Jj) G G q0 VR (by repeat (first|exact bB _ _|refine aW (bC VR) ?_)) (λBi ur=>?_);refine bX (M:=M1) al G G VR (by repeat (first|exact bB _ _|refine aW (bC VR) ?_)) (λgP=>?_);refine aZ (v':= .int .i64 (bG b (k:Int))) G ?_;replace gP: -9223372036854775808<=(bG b (k:Int):Int)/\bG b (k:Int)<=9223372036854775807:=gP;refine aX G G G hV (Rg.a8 G G (T.aU (ab G G (cu G G G (ab G G ?_)))));refine aB (g:=68) G (λgQ=>?_) (λgQ=>?_)
       ·refine ae G G (ab G G (ae G G (cu G G G (aN G G G (ab G G ?_)))));refine aB (g:=72) G (λnC=>?_) (λnC=>?_)
        ·refine aj G G G G (aj G G G G (bN G G G (bN G G G (bN G G G (bN G G G (bN G G G (bN G G G (aj G G G G (aN G G G (ad (iz G ?_)))))))))));refine ay (ab G G (ab G G (ab G G (aZ (v':= .int .i64 (bG a (k:Int)+bG b (k:Int))) a52 (cx (places:=[(0,1),(1,1)]) bm fE qU rfl ⟨_,_,rfl,rfl,_,_,rfl,rfl,rfl⟩ (out:=[_,_]) ⟨0,[_],rfl,rfl,by simp[Value.cells],1,[_],rfl,rfl,by simp[Value.cells],rfl⟩ ?_)))));refine dT (A:=RT.fo) (hn:=by decide) (M:=M1) an fE q0 G G eD (kX (a:=(k:Int)) (b:=bG a (k:Int)+bG b (k:Int)) hV hV) (.inl G) (λu5 w5 gg s5=>?_);have lM:=eG (if orr=true then(1:Int)else 2) a b k;refine cI (M:=M1) (base:=w0.heap.size) an fE rfl rfl rfl rfl (ho.br s5) gg ck a06 a06 (ch S.size s5.size) (λv6 M3 w6 ia s6=>?_);refine Rg.a8 G G (ay (ab G G (aX G G G hV (Rg.a8 G G ?_))));refine⟨G,(k+1,_),a04,?_,?_⟩
         ·first
          |exact⟨by simp only;omega,M3,s6.lt (s5.lt eD),(S.ar s5).cf s6 (ho.br s5) (aK _),by simp only;rw[bL,ir a00];exact ia⟩
          |exact⟨by simp only;omega,M1,eD,S,by simp only;rw[bL,iu a01,bz];exact ho⟩
          |(exfalso;omega)
         ·simp only;omega
        ·refine ae G G (ab G G (ae G G (ab G G (aZ (v':= .bool (decide (orr=true))) (by simp) ?_))));refine aB (g:=74) G (λcK=>?_) (λcK=>?_)
         ·refine ae G G (ab G G (ae G G (cu G G G (ae G G (ab G G ?_)))));refine aB (g:=77) G (λfw=>?_) (λfw=>?_)
          ·refine aj G G G G (aj G G G G (ae G G (aN G G G (ae G G (aN G G G (au G G G (ad (iz G (ay (ab G G (ab G G ?_)))))))))));refine ab G G (aZ (v':= .int .i64 (bG a (k:Int)+bG b (k:Int))) a52 (cx (places:=[(0,1),(1,1)]) bm fE qU rfl ⟨_,_,rfl,rfl,_,_,rfl,rfl,rfl⟩ (out:=[_,_]) ⟨0,[_],rfl,rfl,by simp[Value.cells],1,[_],rfl,rfl,by simp[Value.cells],rfl⟩ ?_));refine dT (A:=RT.fo) (hn:=by decide) (M:=M1) an fE q0 G G eD (kX (a:=(k:Int)) (b:=bG a (k:Int)+bG b (k:Int)) hV hV) (.inl G) (λu5 w5 gg s5=>?_);have lM:=eG (if orr=true then(1:Int)else 2) a b k;refine cI (M:=M1) (base:=w0.heap.size) an fE rfl rfl rfl rfl (ho.br s5) gg ck a06 a06 (ch S.size s5.size) (λv6 M3 w6 ia s6=>?_);refine Rg.a8 G G (ay (ab G G (aX G G G hV (Rg.a8 G G ?_))));refine⟨G,(k+1,_),a04,?_,?_⟩
           ·first
            |exact⟨by simp only;omega,M3,s6.lt (s5.lt eD),(S.ar s5).cf s6 (ho.br s5) (aK _),by simp only;rw[bL,ir a00];exact ia⟩
            |exact⟨by simp only;omega,M1,eD,S,by simp only;rw[bL,iu a01,bz];exact ho⟩
            |(exfalso;omega)
           ·simp only;omega
          ·exfalso;omega
         ·refine aj G G G G (aj G G G G (aj G G G G (bN G G G (bN G G G (aj G G G G (ae G G (au G G G (au G G G (ad (fQ G (aM ?_)))))))))));refine ay (ab G G (aX G G G hV (Rg.a8 G G ?_)));refine⟨G,(k+1,_),a04,?_,?_⟩
          ·first
           |exact⟨by simp only;omega,M3,s6.lt (s5.lt eD),(S.ar s5).cf s6 (ho.br s5) (aK _),by simp only;rw[bL,ir a00];exact ia⟩
           |exact⟨by simp only;omega,M1,eD,S,by simp only;rw[bL,iu a01,bz];exact ho⟩
           |(exfalso;omega)
          ·simp only;omega
       ·exfalso;omega
      ·have lU:dY b (k:Int)=false:=by
        rcases qh with⟨i,h,_⟩|h
        ·omega
        ·exact h.2
       have fC:(if dY b (k:Int)=true then(1:Int)else 0)=0:=by rw[if_neg al8]
       have iA:=fc lU;refine aM (T.aU (ab G G (cu G G G (ab G G ?_))));refine aB (g:=68) G (λgQ=>?_) (λgQ=>?_)
       ·refine ae G G (ab G G (ae G G (cu G G G (aN G G G (ab G G ?_)))));refine aB (g:=72) G (λnC=>?_) (λnC=>?_)
        ·exfalso;omega
        ·refine ae G G (ab G G (ae G G (ab G G (aZ (v':= .bool (decide (orr=true))) (by simp) ?_))));refine aB (g:=74) G (λcK=>?_) (λcK=>?_)
         ·refine ae G G (ab G G (ae G G (cu G G G (ae G G (ab G G ?_)))));refine aB (g:=77) G (λfw=>?_) (λfw=>?_)
          ·refine aj G G G G (aj G G G G (ae G G (aN G G G (ae G G (aN G G G (au G G G (ad (iz G (ay (ab G G (ab G G ?_)))))))))));refine ab G G (aZ (v':= .int .i64 (bG a (k:Int)+bG b (k:Int))) a52 (cx (places:=[(0,1),(1,1)]) bm fE qU rfl ⟨_,_,rfl,rfl,_,_,rfl,rfl,rfl⟩ (out:=[_,_]) ⟨0,[_],rfl,rfl,by simp[Value.cells],1,[_],rfl,rfl,by simp[Value.cells],rfl⟩ ?_));refine dT (A:=RT.fo) (hn:=by decide) (M:=M1) an fE q0 G G eD (kX (a:=(k:Int)) (b:=bG a (k:Int)+bG b (k:Int)) hV hV) (.inl G) (λu5 w5 gg s5=>?_);have lM:=eG (if orr=true then(1:Int)else 2) a b k;refine cI (M:=M1) (base:=w0.heap.size) an fE rfl rfl rfl rfl (ho.br s5) gg ck a06 a06 (ch S.size s5.size) (λv6 M3 w6 ia s6=>?_);refine Rg.a8 G G (ay (ab G G (aX G G G hV (Rg.a8 G G ?_))));refine⟨G,(k+1,_),a04,?_,?_⟩
           ·first
            |exact⟨by simp only;omega,M3,s6.lt (s5.lt eD),(S.ar s5).cf s6 (ho.br s5) (aK _),by simp only;rw[bL,ir a00];exact ia⟩
            |exact⟨by simp only;omega,M1,eD,S,by simp only;rw[bL,iu a01,bz];exact ho⟩
            |(exfalso;omega)
           ·simp only;omega
          ·exfalso;omega
         ·refine aj G G G G (aj G G G G (aj G G G G (bN G G G (bN G G G (aj G G G G (ae G G (au G G G (au G G G (ad (fQ G (aM ?_)))))))))));refine ay (ab G G (aX G G G hV (Rg.a8 G G ?_)));refine⟨G,(k+1,_),a04,?_,?_⟩
          ·first
           |exact⟨by simp only;omega,M3,s6.lt (s5.lt eD),(S.ar s5).cf s6 (ho.br s5) (aK _),by simp only;rw[bL,ir a00];exact ia⟩
           |exact⟨by simp only;omega,M1,eD,S,by simp only;rw[bL,iu a01,bz];exact ho⟩
           |(exfalso;omega)
          ·simp only;omega
       ·exfalso;omega
     ·have sm:dY a (k:Int)=false:=by
       rcases Bf with⟨i,h,_⟩|h
       ·omega
       ·exact h.2
      have fg:(if dY a (k:Int)=true then(1:Int)else 0)=0:=by rw[if_neg (by rw[sm];decide)]
      have C3:=fc sm;refine aM (aQ (T.aU (ab G G (cu G G G (ad ?_)))));refine bH G (λyz=>?_) (λyz=>?_)
      ·obtain⟨i2,rfl,lU,mu⟩:∃i2:Nat,r2=i2/\dY b (k:Int)=true/\b[i2]? =some ((k:Int),bG b (k:Int)):=by
        rcases qh with h|h
        ·exact h
        ·omega
       have fC:(if dY b (k:Int)=true then(1:Int)else 0)=1:=by rw[if_pos lU]
       have iA:=rb.sc _ (ao mu);simp only at iA;refine ay (ab G G (ab G G (ab G G ?_)));have Jb:=(ak.1 mu).1;refine cD an fE G G G (tb.le S.le) ck a14 (λBh nB kn uq=>?_);obtain rfl:((k:Int),bG b (k:Int))=nB:=cY (aG (kn.symm.trans aj5));refine aw (M:=M1) (A:=RT.fo) (B:=RT.int .i64) bm G G I3 q0 (Jj) G G q0 VR (by repeat (first|exact bB _ _|refine aW (bC VR) ?_)) (λBi ur=>?_);refine bX (M:=M1) al G G VR (by repeat (first|exact bB _ _|refine aW (bC VR) ?_)) (λgP=>?_);refine aZ (v':= .int .i64 (bG b (k:Int))) G ?_;replace gP: -9223372036854775808<=(bG b (k:Int):Int)/\bG b (k:Int)<=9223372036854775807:=gP;refine aX G G G hV (Rg.a8 G G (T.aU (ab G G (cu G G G (ab G G ?_)))));refine aB (g:=68) G (λgQ=>?_) (λgQ=>?_)
       ·exfalso;omega
       ·refine aj G G G G (aj G G G G (au G G G (ab G G (ae G G (ab G G (ae G G (ab G G (aZ (v':= .bool (decide (orr=true))) (by simp) ?_))))))));refine aB (g:=74) G (λcK=>?_) (λcK=>?_)
        ·refine ae G G (ab G G (ae G G (cu G G G (ae G G (ab G G ?_)))));refine aB (g:=77) G (λfw=>?_) (λfw=>?_)
         ·exfalso;omega
         ·refine ae G G (ab G G (ae G G (cu G G G (ae G G (au G G G (ae G G (aN G G G (au G G G (ad ?_)))))))));refine bH G (λJc=>?_) (λJc=>?_)
          ·refine ay (ab G G (ab G G (ab G G (aZ (v':= .int .i64 (bG a (k:Int)+bG b (k:Int))) a52 (cx (places:=[(0,1),(1,1)]) bm fE qU rfl ⟨_,_,rfl,rfl,_,_,rfl,rfl,rfl⟩ (out:=[_,_]) ⟨0,[_],rfl,rfl,by simp[Value.cells],1,[_],rfl,rfl,by simp[Value.cells],rfl⟩ ?_)))));refine dT (A:=RT.fo) (hn:=by decide) (M:=M1) an fE q0 G G eD (kX (a:=(k:Int)) (b:=bG a (k:Int)+bG b (k:Int)) hV hV) (.inl G) (λu5 w5 gg s5=>?_);have lM:=eG (if orr=true then(1:Int)else 2) a b k;refine cI (M:=M1) (base:=w0.heap.size) an fE rfl rfl rfl rfl (ho.br s5) gg ck a06 a06 (ch S.size s5.size) (λv6 M3 w6 ia s6=>?_);refine Rg.a8 G G (ay (ab G G (aX G G G hV (Rg.a8 G G ?_))));refine⟨G,(k+1,_),a04,?_,?_⟩
           ·first
            |exact⟨by simp only;omega,M3,s6.lt (s5.lt eD),(S.ar s5).cf s6 (ho.br s5) (aK _),by simp only;rw[bL,ir a00];exact ia⟩
            |exact⟨by simp only;omega,M1,eD,S,by simp only;rw[bL,iu a01,bz];exact ho⟩
            |(exfalso;omega)
           ·simp only;omega
          ·refine aM (ay (ab G G (aX G G G hV (Rg.a8 G G ?_))));refine⟨G,(k+1,_),a04,?_,?_⟩
           ·first
            |exact⟨by simp only;omega,M3,s6.lt (s5.lt eD),(S.ar s5).cf s6 (ho.br s5) (aK _),by simp only;rw[bL,ir a00];exact ia⟩
            |exact⟨by simp only;omega,M1,eD,S,by simp only;rw[bL,iu a01,bz];exact ho⟩
            |(exfalso;omega)
           ·simp only;omega
        ·refine aj G G G G (aj G G G G (aj G G G G (bN G G G (bN G G G (aj G G G G (ae G G (au G G G (au G G G (ad (fQ G (aM ?_)))))))))));refine ay (ab G G (aX G G G hV (Rg.a8 G G ?_)));refine⟨G,(k+1,_),a04,?_,?_⟩
         ·first
          |exact⟨by simp only;omega,M3,s6.lt (s5.lt eD),(S.ar s5).cf s6 (ho.br s5) (aK _),by simp only;rw[bL,ir a00];exact ia⟩
          |exact⟨by simp only;omega,M1,eD,S,by simp only;rw[bL,iu a01,bz];exact ho⟩
          |(exfalso;omega)
         ·simp only;omega
      ·have lU:dY b (k:Int)=false:=by
        rcases qh with⟨i,h,_⟩|h
        ·omega
        ·exact h.2
       have fC:(if dY b (k:Int)=true then(1:Int)else 0)=0:=by rw[if_neg al8]
       have iA:=fc lU;refine aM (T.aU (ab G G (cu G G G (ab G G ?_))));refine aB (g:=68) G (λgQ=>?_) (λgQ=>?_)
       ·exfalso;omega
       ·refine aj G G G G (aj G G G G (au G G G (ab G G (ae G G (ab G G (ae G G (ab G G (aZ (v':= .bool (decide (orr=true))) (by simp) ?_))))))));refine aB (g:=74) G (λcK=>?_) (λcK=>?_)
        ·refine ae G G (ab G G (ae G G (cu G G G (ae G G (ab G G ?_)))));refine aB (g:=77) G (λfw=>?_) (λfw=>?_)
         ·exfalso;omega
         ·refine ae G G (ab G G (ae G G (cu G G G (ae G G (au G G G (ae G G (aN G G G (au G G G (ad ?_)))))))));refine bH G (λJc=>?_) (λJc=>?_)
          ·refine ay (ab G G (ab G G (ab G G (aZ (v':= .int .i64 (bG a (k:Int)+bG b (k:Int))) a52 (cx (places:=[(0,1),(1,1)]) bm fE qU rfl ⟨_,_,rfl,rfl,_,_,rfl,rfl,rfl⟩ (out:=[_,_]) ⟨0,[_],rfl,rfl,by simp[Value.cells],1,[_],rfl,rfl,by simp[Value.cells],rfl⟩ ?_)))));refine dT (A:=RT.fo) (hn:=by decide) (M:=M1) an fE q0 G G eD (kX (a:=(k:Int)) (b:=bG a (k:Int)+bG b (k:Int)) hV hV) (.inl G) (λu5 w5 gg s5=>?_);have lM:=eG (if orr=true then(1:Int)else 2) a b k;refine cI (M:=M1) (base:=w0.heap.size) an fE rfl rfl rfl rfl (ho.br s5) gg ck a06 a06 (ch S.size s5.size) (λv6 M3 w6 ia s6=>?_);refine Rg.a8 G G (ay (ab G G (aX G G G hV (Rg.a8 G G ?_))));refine⟨G,(k+1,_),a04,?_,?_⟩
           ·first
            |exact⟨by simp only;omega,M3,s6.lt (s5.lt eD),(S.ar s5).cf s6 (ho.br s5) (aK _),by simp only;rw[bL,ir a00];exact ia⟩
            |exact⟨by simp only;omega,M1,eD,S,by simp only;rw[bL,iu a01,bz];exact ho⟩
            |(exfalso;omega)
           ·simp only;omega
          ·refine aM (ay (ab G G (aX G G G hV (Rg.a8 G G ?_))));refine⟨G,(k+1,_),a04,?_,?_⟩
           ·first
            |exact⟨by simp only;omega,M3,s6.lt (s5.lt eD),(S.ar s5).cf s6 (ho.br s5) (aK _),by simp only;rw[bL,ir a00];exact ia⟩
            |exact⟨by simp only;omega,M1,eD,S,by simp only;rw[bL,iu a01,bz];exact ho⟩
            |(exfalso;omega)
           ·simp only;omega
        ·refine aj G G G G (aj G G G G (aj G G G G (bN G G G (bN G G G (aj G G G G (ae G G (au G G G (au G G G (ad (fQ G (aM ?_)))))))))));refine ay (ab G G (aX G G G hV (Rg.a8 G G ?_)));refine⟨G,(k+1,_),a04,?_,?_⟩
         ·first
          |exact⟨by simp only;omega,M3,s6.lt (s5.lt eD),(S.ar s5).cf s6 (ho.br s5) (aK _),by simp only;rw[bL,ir a00];exact ia⟩
          |exact⟨by simp only;omega,M1,eD,S,by simp only;rw[bL,iu a01,bz];exact ho⟩
          |(exfalso;omega)
         ·simp only;omega
    ·refine de (T.aU (ab G G (Rg.a8 G G (aS ?_))));obtain rfl:k=mo:=by omega
     exact af7
end Go.K
namespace Go.K
open Go.Proofs
namespace TKParts13
theorem gx:TI Tryz.prog 28 (.agg #[(.int .i64 0),(.string ⟨#[]⟩),(.string ⟨#[]⟩),(.slice none 0 0),(.slice none 0 0)]) 5 88:=by unfold TI;kernel_rfl
theorem LS:placesOf Tryz.prog 28=[(0,1),(1,2),(3,1),(4,1)].map some:=by kernel_rfl
theorem E10:Enters Tryz.prog 10:=enters Tryz.func10 rfl q0
theorem E11:Enters Tryz.prog 11:=enters Tryz.func11 rfl q0
theorem E12:Enters Tryz.prog 12:=enters Tryz.func12 rfl q0
theorem Zx:Enters Tryz.prog 13:=enters Tryz.func13 rfl q0
theorem E14:Enters Tryz.prog 14:=enters Tryz.func14 rfl q0
theorem E17:Enters Tryz.prog 17:=enters Tryz.func17 rfl q0
theorem E18:Enters Tryz.prog 18:=enters Tryz.func18 rfl q0
theorem E19:Enters Tryz.prog 19:=enters Tryz.func19 rfl q0
end TKParts13
open TKParts13
set_option maxRecDepth 10000
mutual
theorem xQ:∀(q:Qy) (deep:Nat),iv q (deep+1)=0->iv q deep=0
 |.mk k t ws ks,deep,hm=>by
  obtain⟨h1,h2,h3⟩:=n4.1 hm;exact n4.2 ⟨by omega,h2,Bj ks (deep+1) h3⟩
theorem Bj:∀(ks:List Qy) (deep:Nat),(∀x∈ks,iv x (deep+1)=0)->∀x∈ks,iv x deep=0
 |[],_,_=>λx hx=>by cases hx
 |q::ks,deep,hm=>λx hx=>by
  rcases dg.1 hx with h|h
  ·rw[h];exact xQ q deep (hm q (bE ..))
  ·exact Bj ks deep (λy hy=>hm y (cn _ hy)) x h
end
theorem Mp (fs:List Fd) (a b:Qy):fJ fs (.mk 2 ([],[]) [] [a,b])=l4 2 (fJ fs a) (fJ fs b):=by
 have h:=GH (k:=2) rfl [fJ fs a] (fJ fs b);rw[A6]at h;rw[qf];exact h
theorem Rw (fs:List Fd) (a b:Qy):fJ fs (.mk 3 ([],[]) [] [a,b])=l4 1 (fJ fs a) (fJ fs b):=by
 have h:=Kg (k:=3) q0 [fJ fs a] (fJ fs b);rw[A6]at h;rw[qf];exact h
theorem Mq (fs:List Fd) (a:Qy):fJ fs (.mk 4 ([],[]) [] [a])=Qp (fJ fs a):=by
 rw[qf];show(if([fJ fs a]).any Option.isSome=true then none else some 0)=_
 cases fJ fs a<;>rfl
theorem GV {q:Qy} {deep:Nat} (h1:1<=deep) (hm:iv q deep=0) {L:List En} (hF:∀e∈L,iT e.1) (hn:L.length<=1000):ly (iy (λe=>fJ e.1.2 q) 0 L) 0 1000:=
 ⟨IA L 0,λp hp=>by have:=qc hp;omega,λp hp=>by
  obtain⟨d,e,h2,_,h3⟩:=vR.1 hp;have h4:=ph e.1.2 (λk=>oc (hF e (ao h2)) k) q deep hm p.2 h3;have:=xH h1;omega⟩
theorem GW {a b:Qy} {deep:Nat} (h1:1<=deep) (ha:iv a deep=0) (hb:iv b deep=0) {L:List En} (hF:∀e∈L,iT e.1) (hn:L.length<=1000) {least:Int} (hl:least=1\/least=2):BB least (iy (λe=>fJ e.1.2 a) 0 L) (iy (λe=>fJ e.1.2 b) 0 L)=iy (λe=>l4 least (fJ e.1.2 a) (fJ e.1.2 b)) 0 L:=
 DY hl L 0 hV λe he s hs=>by
  have hw:=λk=>oc (hF e he) k
  have:=xH h1;rcases hs with hs|hs
  ·have:=ph e.1.2 hw a deep ha s hs;omega
  ·have:=ph e.1.2 hw b deep hb s hs;omega
theorem yK {M:aP} {l:List Dc} {n m:Nat} {q q2:Qy} {v0 v1 v2:Value} {w0:World} (hM:Lt M w0) (hv:(RT.dc.sl).V M w0 l v0) (hq:(RT.qy (n+1)).V M w0 q v1) (nE:G3 q) (QE:(RT.qy (m+1)).V M w0 q2 v2) (am6:G3 q2) (h0: ¬M 1) (tab:∃e fr,w0.heap[1]? =some (.cells (Hl.map fun(k:Nat)=>Value.int .u8 (k:Int)).toArray e fr)):
  Spec Tryz.prog 5 #[v0,v1,v2] w0 (λv w=>v= .bool true/\Step M w0 M w aH):=by
 have jq:=hM;obtain⟨Mh,Mi,A8⟩:=tab;have hgl:=mC l 0 1 8;obtain⟨fh,_⟩:=Ga l (show(0:Int)<=0 by decide) (show(1:Int)<=1 by decide) 8;have awm:∀e∈(gT l 0 1 8),(∀f∈e.1.2,f.1.length<=900000/\f.2.length<=900000)/\e.1.2.length<=1000000:=λe he=>⟨λf hf=>AG e he f hf,(by have:=(lN fh e he).few;omega)⟩
 have hF:=lN fh;have Lv:=xI q 2 q0;have hR2:=xI q2 2 q0;have hP1:=xQ _ 1 Lv;have hR1:=xQ _ 1 hR2;have NL:iv (Qy.mk 2 ([],[]) [] [(fL q 2),(fL q2 2)]) 1=0:=we.2 ⟨by decide,by show km 2 ([],[]) [] 2=0;decide,λx hx=>by rcases dg.1 hx with h|h;exact h▸Lv;exact cV.1 h▸hR2⟩;have hO1:iv (Qy.mk 3 ([],[]) [] [(fL q 2),(fL q2 2)]) 1=0:=we.2 ⟨by decide,by show km 3 ([],[]) [] 2=0;decide,λx hx=>by rcases dg.1 hx with h|h;exact h▸Lv;exact cV.1 h▸hR2⟩;have hN1:iv (Qy.mk 4 ([],[]) [] [(fL q 2)]) 1=0:=we.2 ⟨by decide,by show km 4 ([],[]) [] 1=0;decide,λx hx=>cV.1 hx▸Lv⟩;have rx:=GV q0 Lv hF (show(gT l 0 1 8).length<=1000 by omega);have ry:=GV q0 hR2 hF (show(gT l 0 1 8).length<=1000 by omega);refine bD (args:=[_,_,_]) (fn:=Tryz.f5) Tryz.func5 G (n:=76) Tryz.ntmps5 ?_;have S:Step M w0 M w0 aH:=bg;refine T.aU ?_;refine fO (A:=RT.qy (n+1)) (a:=q) G G hM hq (ec _) (λu4 LQ kU k4 _=>?_);replace hv:=hv.le k4.le;replace hq:=hq.le k4.le;replace QE:=QE.le k4.le;replace hM:=k4.lt hM;have:=S.size;replace S:=S.ar k4;refine fO (A:=RT.qy (m+1)) (a:=q2) G G hM QE (ec _) (λu5 wb1 gg RJ _=>?_);replace hv:=hv.le RJ.le;replace QE:=QE.le RJ.le;replace kU:=kU.le (aO _) RJ.le;replace hM:=RJ.lt hM;have:=S.size;replace S:=S.ar RJ;refine Rg.a8 G G (T.aU (ab G G ?_));refine aV G G E10 (HI (most:=8) (a:=0) (s:=1) _ hM hv q0 q0 q0) (λr1 w1 hc=>?_);obtain⟨hg,s1⟩:=hc;replace hv:=hv.le s1.le;replace kU:=kU.le (aO _) s1.le;replace gg:=gg.le (aO _) s1.le;replace hM:=s1.lt hM;have:=S.size;replace S:=S.ar s1;refine Rg.a8 G G (T.aU (ab G G ?_));refine aV G G E11 (Iu _ hM hg AG hV fh) (λrb2 wb2 hc=>?_)
 obtain⟨sa2,rfl,iA,Vb⟩:=hc;obtain⟨aa2,rfl⟩:=iA.mS;replace kU:=kU.le (aO _) Vb.le;replace gg:=gg.le (aO _) Vb.le;replace hg:=hg.le Vb.le;replace hM:=Vb.lt hM;have:=S.size;replace S:=S.ar Vb;refine ab G G (cP G G G (cP G G G (aJ G G (Rg.a8 G G (aQ (T.aU (ab G G (Rg.Nr Tryz.underlying31 G G G (ad ?_)))))))));refine T.MM G ((by simp)) (aM (T.aU ?_));refine cq (A:=RT.qy (n+1)) ax G (IQ gx _) (aO _) (ec _) G G kU ck (λv50 am7=>?_);refine aV G G E17 (uk 2 (n+1) (deep:=2) _ hM am7 nE G) (λr51 w51 hc=>?_);obtain⟨jz,RL⟩:=hc;replace kU:=kU.le (aO _) RL.le;replace gg:=gg.le (aO _) RL.le;replace hg:=hg.le RL.le;replace iA:=iA.le q0 RL.le;replace hM:=RL.lt hM;have:=S.size;replace S:=S.ar RL;refine nI (A:=RT.qy 2) (M:=M) (IQ gx _) (by rw[tJ];rfl) (ec _) rfl rfl rfl jz ck hM (λJy wn5 fI ZK _=>?_);replace kU:=kU.le (aO _) ZK.le;replace gg:=gg.le (aO _) ZK.le;replace hg:=hg.le ZK.le;replace iA:=iA.le q0 ZK.le;replace jz:=jz.le ZK.le;replace hM:=ZK.lt hM;have:=S.size;replace S:=S.ar ZK
 skip
 refine ad (T.aU ?_);refine cq (A:=RT.qy (m+1)) ax G (IQ gx _) (aO _) (ec _) G G gg ck (λv60 am8=>?_);refine aV G G E17 (uk 2 (m+1) (deep:=2) _ hM am8 am6 G) (λr61 w61 hc=>?_);obtain⟨j8,VN⟩:=hc;replace kU:=kU.le (aO _) VN.le;replace gg:=gg.le (aO _) VN.le;replace hg:=hg.le VN.le;replace iA:=iA.le q0 VN.le;replace jz:=jz.le VN.le;replace fI:=fI.le (aO _) VN.le;replace hM:=VN.lt hM;have:=S.size;replace S:=S.ar VN;refine nI (A:=RT.qy 2) (M:=M) (IQ gx _) (by rw[tJ];rfl) (ec _) rfl rfl rfl j8 ck hM (λu11 wn6 jc Ur _=>?_);replace kU:=kU.le (aO _) Ur.le;replace gg:=gg.le (aO _) Ur.le;replace hg:=hg.le Ur.le;replace iA:=iA.le q0 Ur.le;replace jz:=jz.le Ur.le;replace fI:=fI.le (aO _) Ur.le;replace j8:=j8.le Ur.le;replace hM:=Ur.lt hM;have:=S.size;replace S:=S.ar Ur
 skip
 refine ad (T.aU (ab G G ?_));refine cq (A:=RT.qy (2)) ax G (IQ gx _) (aO _) (ec _) G G fI ck (λv71 am9=>?_);refine aV G G Zx (lO (n:=1) (q:=(fL q 2)) _ hM (λhn=>h0 ((S.mem 1 (ah A8)).1 hn)) ⟨Mh,Mi,S.aF A8⟩ iA fh hV am9 (sf _ _ hP1)) (λr72 w72 hc=>?_);obtain⟨awn,aqi,VO,ae5⟩:=hc;have gH:=ae5.close (hn:=by decide) hM VO (nu hV);have B0:=VO.back;rw[if_pos hP1]at gH;replace kU:=kU.le (aO _) B0.le;replace gg:=gg.le (aO _) B0.le;replace hg:=hg.le B0.le;replace iA:=iA.le q0 B0.le;replace jz:=jz.le B0.le;replace fI:=fI.le (aO _) B0.le;replace j8:=j8.le B0.le;replace jc:=jc.le (aO _) B0.le;replace hM:=B0.lt hM;have:=S.size;replace S:=S.ar B0;refine Rg.a8 G G (T.aU (ab G G ?_));refine cq (A:=RT.qy (2)) ax G (IQ gx _) (aO _) (ec _) G G jc ck (λv81 Zb=>?_);refine aV G G Zx (lO (n:=1) (q:=(fL q2 2)) _ hM (λhn=>h0 ((S.mem 1 (ah A8)).1 hn)) ⟨Mh,Mi,S.aF A8⟩ iA fh hV Zb (sf _ _ hR1)) (λr82 w82 hc=>?_);obtain⟨awo,aqj,VP,ae6⟩:=hc;have iw:=ae6.close (hn:=by decide) hM VP (nu hV);have Bk:=VP.back;rw[if_pos hR1]at iw;replace kU:=kU.le (aO _) Bk.le;replace gg:=gg.le (aO _) Bk.le;replace hg:=hg.le Bk.le;replace iA:=iA.le q0 Bk.le;replace jz:=jz.le Bk.le;replace fI:=fI.le (aO _) Bk.le;replace j8:=j8.le Bk.le;replace jc:=jc.le (aO _) Bk.le;replace gH:=gH.le Bk.le;replace hM:=Bk.lt hM;have:=S.size;replace S:=S.ar Bk;refine Rg.a8 G G (T.aU (ab G G ?_));refine cq (A:=RT.qy (2)) ax G (IQ gx _) (aO _) (ec _) G G fI ck (λv91 uj=>?_);refine cq (A:=RT.qy (2)) ax G (IQ gx _) (aO _) (ec _) G G jc ck (λv92 ana=>?_)
 refine Rg.Kp (A:=RT.qy 2) (hn:=aO _) (nn:=2) (M:=M) (xs:=[(fL q 2),(fL q2 2)]) cr (IQ gx _) (by rw[tJ];rfl) (by rw[tJ];decide) rfl ⟨_,_,_,rfl,rfl,rfl,uj,_,_,_,rfl,rfl,rfl,ana,rfl⟩ rfl hM (.inl (ec _)) q0 (λu93 w93 lP MJ=>?_);replace kU:=kU.le (aO _) MJ.le;replace gg:=gg.le (aO _) MJ.le;replace hg:=hg.le MJ.le;replace iA:=iA.le q0 MJ.le;replace jz:=jz.le MJ.le;replace fI:=fI.le (aO _) MJ.le;replace j8:=j8.le MJ.le;replace jc:=jc.le (aO _) MJ.le;replace gH:=gH.le MJ.le;replace iw:=iw.le MJ.le;replace hM:=MJ.lt hM;have:=S.size;replace S:=S.ar MJ;refine cx (places:=[(0,1),(1,2),(3,1),(4,1)]) ax gx LS rfl ⟨_,_,rfl,rfl,_,_,rfl,rfl,rfl⟩ (out:=[.int .i64 2,.string ⟨#[]⟩,.string ⟨#[]⟩,.slice none 0 0,u93]) ⟨0,[_],rfl,rfl,by simp[Value.cells],4,[_],rfl,ic lP,by simp[Value.cells],rfl⟩ ?_;have ae7:=x7 (n:=2) (k:=2) (t:=([],[])) (ws:=[]) ⟨by decide,by decide⟩ ⟨by decide,by decide⟩ (ib (M:=M) (w:=_)) lP;refine aV G G Zx (lO (n:=2) (q:=(Qy.mk 2 ([],[]) [] [(fL q 2),(fL q2 2)])) _ hM (λhn=>h0 ((S.mem 1 (ah A8)).1 hn)) ⟨Mh,Mi,S.aF A8⟩ iA fh hV ae7 (sf _ _ NL)) (λr95 w95 hc=>?_);obtain⟨awq,aqk,VQ,ae8⟩:=hc;have jB:=ae8.close (hn:=by decide) hM VQ (nu hV);have xR:=VQ.back;rw[if_pos NL]at jB;replace kU:=kU.le (aO _) xR.le;replace gg:=gg.le (aO _) xR.le;replace hg:=hg.le xR.le;replace iA:=iA.le q0 xR.le;replace jz:=jz.le xR.le;replace fI:=fI.le (aO _) xR.le;replace j8:=j8.le xR.le;replace jc:=jc.le (aO _) xR.le;replace gH:=gH.le xR.le;replace iw:=iw.le xR.le;replace lP:=lP.le xR.le;replace hM:=xR.lt hM;have:=S.size;replace S:=S.ar xR;refine Rg.a8 G G (T.aU (ab G G ?_));refine cq (A:=RT.qy (2)) ax G (IQ gx _) (aO _) (ec _) G G fI ck (λawr ae9=>?_)
 refine cq (A:=RT.qy (2)) ax G (IQ gx _) (aO _) (ec _) G G jc ck (λaws afa=>?_);refine Rg.Kp (A:=RT.qy 2) (hn:=aO _) (nn:=2) (M:=M) (xs:=[(fL q 2),(fL q2 2)]) cr (IQ gx _) (by rw[tJ];rfl) (by rw[tJ];decide) rfl ⟨_,_,_,rfl,rfl,rfl,ae9,_,_,_,rfl,rfl,rfl,afa,rfl⟩ rfl hM (.inl (ec _)) q0 (λanb awt j4 wC=>?_);replace kU:=kU.le (aO _) wC.le;replace gg:=gg.le (aO _) wC.le;replace hg:=hg.le wC.le;replace iA:=iA.le q0 wC.le;replace jz:=jz.le wC.le;replace fI:=fI.le (aO _) wC.le;replace j8:=j8.le wC.le;replace jc:=jc.le (aO _) wC.le;replace gH:=gH.le wC.le;replace iw:=iw.le wC.le;replace lP:=lP.le wC.le;replace jB:=jB.le wC.le;replace hM:=wC.lt hM;have:=S.size;replace S:=S.ar wC;refine cx (places:=[(0,1),(1,2),(3,1),(4,1)]) ax gx LS rfl ⟨_,_,rfl,rfl,_,_,rfl,rfl,rfl⟩ (out:=[.int .i64 3,.string ⟨#[]⟩,.string ⟨#[]⟩,.slice none 0 0,anb]) ⟨0,[_],rfl,rfl,by simp[Value.cells],4,[_],rfl,ic j4,by simp[Value.cells],rfl⟩ ?_;have ZL:=x7 (n:=2) (k:=3) (t:=([],[])) (ws:=[]) ⟨by decide,by decide⟩ ⟨by decide,by decide⟩ (ib (M:=M) (w:=_)) j4;refine aV G G Zx (lO (n:=2) (q:=(Qy.mk 3 ([],[]) [] [(fL q 2),(fL q2 2)])) _ hM (λhn=>h0 ((S.mem 1 (ah A8)).1 hn)) ⟨Mh,Mi,S.aF A8⟩ iA fh hV ZL (sf _ _ hO1)) (λawu awv hc=>?_);obtain⟨aql,anc,Rx,ZM⟩:=hc;have iP:=ZM.close (hn:=by decide) hM Rx (nu hV);have nD:=Rx.back;rw[if_pos hO1]at iP;replace kU:=kU.le (aO _) nD.le;replace gg:=gg.le (aO _) nD.le;replace hg:=hg.le nD.le;replace iA:=iA.le q0 nD.le;replace jz:=jz.le nD.le;replace fI:=fI.le (aO _) nD.le;replace j8:=j8.le nD.le;replace jc:=jc.le (aO _) nD.le;replace gH:=gH.le nD.le
 replace iw:=iw.le nD.le;replace lP:=lP.le nD.le;replace jB:=jB.le nD.le;replace j4:=j4.le nD.le;replace hM:=nD.lt hM;have:=S.size;replace S:=S.ar nD;refine Rg.a8 G G (T.aU (ab G G ?_));refine cq (A:=RT.qy (2)) ax G (IQ gx _) (aO _) (ec _) G G fI ck (λaet kT=>?_);refine dT (A:=RT.qy 2) (hn:=aO _) (M:=M) cr (IQ gx _) (by rw[tJ];decide) rfl rfl hM (kT) (.inl (ec _)) (λVk VF iO jm=>?_);replace kU:=kU.le (aO _) jm.le;replace gg:=gg.le (aO _) jm.le;replace hg:=hg.le jm.le;replace iA:=iA.le q0 jm.le;replace jz:=jz.le jm.le;replace fI:=fI.le (aO _) jm.le;replace j8:=j8.le jm.le;replace jc:=jc.le (aO _) jm.le;replace gH:=gH.le jm.le;replace iw:=iw.le jm.le;replace lP:=lP.le jm.le;replace jB:=jB.le jm.le;replace j4:=j4.le jm.le;replace iP:=iP.le jm.le;replace hM:=jm.lt hM;have:=S.size;replace S:=S.ar jm;refine cx (places:=[(0,1),(1,2),(3,1),(4,1)]) ax gx LS rfl ⟨_,_,rfl,rfl,_,_,rfl,rfl,rfl⟩ (out:=[.int .i64 4,.string ⟨#[]⟩,.string ⟨#[]⟩,.slice none 0 0,Vk]) ⟨0,[_],rfl,rfl,by simp[Value.cells],4,[_],rfl,ic iO,by simp[Value.cells],rfl⟩ ?_;have ZN:=x7 (n:=2) (k:=4) (t:=([],[])) (ws:=[]) ⟨by decide,by decide⟩ ⟨by decide,by decide⟩ (ib (M:=M) (w:=_)) iO;refine aV G G Zx (lO (n:=2) (q:=(Qy.mk 4 ([],[]) [] [(fL q 2)])) _ hM (λhn=>h0 ((S.mem 1 (ah A8)).1 hn)) ⟨Mh,Mi,S.aF A8⟩ iA fh hV ZN (sf _ _ hN1)) (λaww awx hc=>?_);obtain⟨aqm,ane,Ry,ZO⟩:=hc;have j9:=ZO.close (hn:=by decide) hM Ry (nu hV);have lQ:=Ry.back;rw[if_pos hN1]at j9;replace kU:=kU.le (aO _) lQ.le;replace gg:=gg.le (aO _) lQ.le;replace hg:=hg.le lQ.le;replace iA:=iA.le q0 lQ.le
 replace jz:=jz.le lQ.le;replace fI:=fI.le (aO _) lQ.le;replace j8:=j8.le lQ.le;replace jc:=jc.le (aO _) lQ.le;replace gH:=gH.le lQ.le;replace iw:=iw.le lQ.le;replace lP:=lP.le lQ.le;replace jB:=jB.le lQ.le;replace j4:=j4.le lQ.le;replace iP:=iP.le lQ.le;replace iO:=iO.le lQ.le;replace hM:=lQ.lt hM;have:=S.size;replace S:=S.ar lQ;refine Rg.a8 G G (T.aU (ab G G (ab G G (ab G G ?_))));refine aV G G E18 (yq (orr:=false) hM gH iw rx ry) (λawy awz hc=>?_);obtain⟨⟨afb,afc,afd,afe,pv⟩,qN⟩:=hc
 have anf:(iy (λe=>fJ e.1.2 (Qy.mk 2 ([],[]) [] [(fL q 2),(fL q2 2)])) 0 (gT l 0 1 8))=pg 2 (iy (λe=>fJ e.1.2 (fL q 2)) 0 (gT l 0 1 8)) (iy (λe=>fJ e.1.2 (fL q2 2)) 0 (gT l 0 1 8)) 0 afb:=by
  rw[<-join_eq q0 rx ry afc afd afe,GW q0 Lv hR2 hF hV q0];exact jt λe _=>Mp _ _ _
 replace kU:=kU.le (aO _) qN.le;replace gg:=gg.le (aO _) qN.le;replace hg:=hg.le qN.le;replace iA:=iA.le q0 qN.le;replace jz:=jz.le qN.le;replace fI:=fI.le (aO _) qN.le;replace j8:=j8.le qN.le;replace jc:=jc.le (aO _) qN.le;replace gH:=gH.le qN.le;replace iw:=iw.le qN.le;replace lP:=lP.le qN.le;replace jB:=jB.le qN.le;replace j4:=j4.le qN.le;replace iP:=iP.le qN.le;replace iO:=iO.le qN.le;replace j9:=j9.le qN.le;replace hM:=qN.lt hM;have:=S.size;replace S:=S.ar qN;refine aV G G E14 (rN hM jB pv) (λalh ali hc=>?_);obtain⟨rfl,mj⟩:=hc;refine aZ (v':= .bool true) (congrArg Value.bool (decide_eq_true anf)) ?_;replace kU:=kU.le (aO _) mj.le;replace gg:=gg.le (aO _) mj.le;replace hg:=hg.le mj.le;replace iA:=iA.le q0 mj.le;replace jz:=jz.le mj.le;replace fI:=fI.le (aO _) mj.le;replace j8:=j8.le mj.le;replace jc:=jc.le (aO _) mj.le;replace gH:=gH.le mj.le;replace iw:=iw.le mj.le;replace lP:=lP.le mj.le;replace jB:=jB.le mj.le;replace j4:=j4.le mj.le;replace iP:=iP.le mj.le;replace iO:=iO.le mj.le;replace j9:=j9.le mj.le;replace pv:=pv.le mj.le;replace hM:=mj.lt hM;have:=S.size;replace S:=S.ar mj;refine ab G G (ae G G (ab G G (ae G G (ab G G (ae G G (ab G G (ae G G ?_)))))));refine aV G G E18 (yq (orr:=true) hM gH iw rx ry) (λawA awB hc=>?_);obtain⟨⟨aff,afg,afh,afi,wF⟩,qi⟩:=hc
 have ang:(iy (λe=>fJ e.1.2 (Qy.mk 3 ([],[]) [] [(fL q 2),(fL q2 2)])) 0 (gT l 0 1 8))=pg 1 (iy (λe=>fJ e.1.2 (fL q 2)) 0 (gT l 0 1 8)) (iy (λe=>fJ e.1.2 (fL q2 2)) 0 (gT l 0 1 8)) 0 aff:=by
  rw[<-join_eq q0 rx ry afg afh afi,GW q0 Lv hR2 hF hV q0];exact jt λe _=>Rw _ _ _
 replace kU:=kU.le (aO _) qi.le;replace gg:=gg.le (aO _) qi.le;replace hg:=hg.le qi.le;replace iA:=iA.le q0 qi.le;replace jz:=jz.le qi.le;replace fI:=fI.le (aO _) qi.le;replace j8:=j8.le qi.le;replace jc:=jc.le (aO _) qi.le;replace gH:=gH.le qi.le;replace iw:=iw.le qi.le;replace lP:=lP.le qi.le;replace jB:=jB.le qi.le;replace j4:=j4.le qi.le;replace iP:=iP.le qi.le;replace iO:=iO.le qi.le;replace j9:=j9.le qi.le;replace pv:=pv.le qi.le;replace hM:=qi.lt hM;have:=S.size;replace S:=S.ar qi;refine ae G G ?_;refine aV G G E14 (rN hM iP wF) (λaqn aqo hc=>?_);obtain⟨rfl,kz⟩:=hc;refine aZ (v':= .bool true) (congrArg Value.bool (decide_eq_true ang)) ?_;replace kU:=kU.le (aO _) kz.le;replace gg:=gg.le (aO _) kz.le;replace hg:=hg.le kz.le;replace iA:=iA.le q0 kz.le;replace jz:=jz.le kz.le;replace fI:=fI.le (aO _) kz.le;replace j8:=j8.le kz.le;replace jc:=jc.le (aO _) kz.le;replace gH:=gH.le kz.le;replace iw:=iw.le kz.le;replace lP:=lP.le kz.le;replace jB:=jB.le kz.le;replace j4:=j4.le kz.le;replace iP:=iP.le kz.le;replace iO:=iO.le kz.le;replace j9:=j9.le kz.le;replace pv:=pv.le kz.le;replace wF:=wF.le kz.le;replace hM:=kz.lt hM;have:=S.size;replace S:=S.ar kz;refine aN G G G (ab G G (ae G G (ab G G (ae G G (ab G G (ae G G (ab G G (ae G G (bR jG G hg G (ae G G ?_))))))))));refine aV G G E19 (GK hM gH (n:=(gT l 0 1 8).length) hV) (λaqp aqq hc=>?_);obtain⟨Bm,kA⟩:=hc;replace kU:=kU.le (aO _) kA.le;replace gg:=gg.le (aO _) kA.le;replace hg:=hg.le kA.le
 replace iA:=iA.le q0 kA.le;replace jz:=jz.le kA.le;replace fI:=fI.le (aO _) kA.le;replace j8:=j8.le kA.le;replace jc:=jc.le (aO _) kA.le;replace gH:=gH.le kA.le;replace iw:=iw.le kA.le;replace lP:=lP.le kA.le;replace jB:=jB.le kA.le;replace j4:=j4.le kA.le;replace iP:=iP.le kA.le;replace iO:=iO.le kA.le;replace j9:=j9.le kA.le;replace pv:=pv.le kA.le;replace wF:=wF.le kA.le;replace hM:=kA.lt hM;have:=S.size;replace S:=S.ar kA;refine ae G G ?_;refine aV G G E14 (rN hM j9 Bm) (λaqr aqs hc=>?_);obtain⟨rfl,kb⟩:=hc;refine aZ (v':= .bool true) (congrArg Value.bool (decide_eq_true (Gi.trans (jt λe _=>(Mq _ _).symm)).symm)) ?_;replace kU:=kU.le (aO _) kb.le;replace gg:=gg.le (aO _) kb.le;replace hg:=hg.le kb.le;replace iA:=iA.le q0 kb.le;replace jz:=jz.le kb.le;replace fI:=fI.le (aO _) kb.le;replace j8:=j8.le kb.le;replace jc:=jc.le (aO _) kb.le;replace gH:=gH.le kb.le;replace iw:=iw.le kb.le;replace lP:=lP.le kb.le;replace jB:=jB.le kb.le;replace j4:=j4.le kb.le;replace iP:=iP.le kb.le;replace iO:=iO.le kb.le;replace j9:=j9.le kb.le;replace pv:=pv.le kb.le;replace wF:=wF.le kb.le;replace Bm:=Bm.le kb.le;replace hM:=kb.lt hM;have:=S.size;replace S:=S.ar kb;refine aN G G G (ab G G (ae G G ?_));refine aV G G E12 (D6 hM) (λrl wl hc=>?_);obtain⟨rfl,sl⟩:=hc;replace kU:=kU.le (aO _) sl.le;replace gg:=gg.le (aO _) sl.le;replace hg:=hg.le sl.le;replace iA:=iA.le q0 sl.le;replace jz:=jz.le sl.le;replace fI:=fI.le (aO _) sl.le;replace j8:=j8.le sl.le;replace jc:=jc.le (aO _) sl.le;replace gH:=gH.le sl.le
 replace iw:=iw.le sl.le;replace lP:=lP.le sl.le;replace jB:=jB.le sl.le;replace j4:=j4.le sl.le;replace iP:=iP.le sl.le;replace iO:=iO.le sl.le;replace j9:=j9.le sl.le;replace pv:=pv.le sl.le;replace wF:=wF.le sl.le;replace Bm:=Bm.le sl.le;replace hM:=sl.lt hM;have:=S.size;replace S:=S.ar sl;refine aN G G G (Rg.a8 G G (aS ?_));exact aT G G ⟨G,S.back⟩
end Go.K

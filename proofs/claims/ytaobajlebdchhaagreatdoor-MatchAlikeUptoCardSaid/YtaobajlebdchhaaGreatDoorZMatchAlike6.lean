/- What the law 'MatchAlike' needs of walks and plain Lean, part 6: nothing is assumed beyond the texts that it imports. -/
import Derived.KernelRfl
import Derived.Test.YtaobajlebdchhaaGreatDoorProg
import Derived.Test.YtaobajlebdchhaaGreatDoorZMatchAlike1
import Derived.Test.YtaobajlebdchhaaGreatDoorZMatchAlike2
import Derived.Test.YtaobajlebdchhaaGreatDoorZMatchAlike3
import Derived.Test.YtaobajlebdchhaaGreatDoorZMatchAlike4
import Derived.Test.YtaobajlebdchhaaGreatDoorZMatchAlike5
set_option linter.unusedVariables false
set_option linter.unusedSimpArgs false
namespace Go.K
open Go.Proofs
namespace TKMNot
theorem KT:TI Tryz.prog 36 (.slice none 0 0) 1 24:=by unfold TI;kernel_rfl
theorem nc:TI Tryz.prog 45 (.agg #[(.int .i64 0),(.int .i64 0)]) 2 16:=by unfold TI;kernel_rfl
theorem Iy:placesOf Tryz.prog 45=[(0,1),(1,1)].map some:=by kernel_rfl
theorem XJ:Enters Tryz.prog 102:=enters Tryz.func102 rfl q0
theorem abV:Enters Tryz.prog 118:=enters Tryz.func118 rfl q0
theorem abW:Enters Tryz.prog 119:=enters Tryz.func119 rfl q0
theorem akC:Enters Tryz.prog 168:=enters Tryz.func168 rfl q0
theorem akD:Enters Tryz.prog 226:=enters Tryz.func226 rfl q0
end TKMNot
open TKMNot
set_option maxRecDepth 10000
structure Ay (M:aH) (w0:World) (n:Nat) (ws:List Nat) (bs bw bl bo D:Nat) (st:Obj) (vo:Value) (xs:List Fo) (M1:aH) (w:World):Prop where
 lt:Lt M1 w
 S:Step M w0 M1 w aE
 mo:M1 bo
 md:M1 D
 mr:M1 (D+1)
 m0: ¬M1 1
 set:jm 128 205 n ws M1 w bs bw
 hl:w.heap[bl]? =some (.cells #[.pointer (some ⟨bs,0,none⟩)] 49 (0,0))
 o:w.heap[bo]? =some (.cells #[vo] 36 (0,0))
 d:w.heap[D]? =some (.deferred (some []))
 r:w.heap[D+1]? =some st
 tab:∃e fr,w.heap[1]? =some (.cells (FJ.map fun(k:Nat)=>Value.int .u8 (k:Int)).toArray e fr)
 ne:(bo<D/\bl<D/\bs<D/\bw<D)/\(bo≠bl/\bo≠bs/\bo≠bw)/\(w0.heap.size<=bo/\w0.heap.size<=D)
 hk:Own RT.fo 45 M1 w (D+2) vo xs
section
variable {M M1 M2 N:aH} {w0 w w':World} {n:Nat} {ws:List Nat} {bs bw bl bo D:Nat} {st st':Obj} {vo:Value} {xs:List Fo}
theorem Ay.step (h:Ay M w0 n ws bs bw bl bo D st vo xs M1 w) (s:Step M1 w M2 w' aE):Ay M w0 n ws bs bw bl bo D st vo xs M2 w':=by
 have mm:=λ{b:Nat} (hm:M1 b)=>(s.mem b (h.lt b hm)).2 hm
 obtain⟨e,fr,ht⟩:=h.tab;exact⟨s.lt h.lt,h.S.ax s,mm h.mo,mm h.md,mm h.mr,λh0=>h.m0 ((s.mem 1 (ae ht)).1 h0),h.set.step s (λh=>h) (λh=>h),s.aB h.hl,s.aB h.o,s.aB h.d,s.aB h.r,⟨e,fr,s.aB ht⟩,h.ne,h.hk.bM s⟩
theorem Ay.pq (h:Ay M w0 n ws bs bw bl bo D st vo xs M1 w):Ay M w0 n ws bs bw bl bo D st' vo xs M1 (w.putObj (D+1) st'):=by
 obtain⟨⟨e1,e2,e3,e4⟩,⟨e5,e6,e7⟩,e8,e9⟩:=h.ne;have s:Step M1 w M1 (w.putObj (D+1) st') (λk=>k=D+1):=fY h.mr;obtain⟨e,fr,ht⟩:=h.tab;exact⟨s.lt h.lt,h.S.ch s (λb hb=>by omega),h.mo,h.md,h.mr,h.m0,h.set.step s hV hV,s.bR h.hl hV,s.bR h.o hV,s.bR h.d hV,World.putObj_heap_same (ae h.r),⟨e,fr,s.bR ht hV⟩,h.ne,h.hk.step s (λk o8 hh=>by have:=(h.hk.base k o8).1;omega)⟩
theorem Ay.grow {XK:Value} {xs':List Fo} (h:Ay M w0 n ws bs bw bl bo D st vo xs M1 w) (s:Step M1 w M2 w' (λk=>vo.ownBlock=some k)) (hk:Own RT.fo 45 M2 w' (D+2) XK xs'):
  (w'.heap[bo]? =some (.cells #[vo] 36 (0,0))/\M2 bo)/\∀{w2:World},Step M2 w' M2 w2 (λk=>k=bo)->w2.heap[bo]? =some (.cells #[XK] 36 (0,0))->Ay M w0 n ws bs bw bl bo D st XK xs' M2 w2:=by
 obtain⟨⟨e1,e2,e3,e4⟩,⟨e5,e6,e7⟩,e8,e9⟩:=h.ne;have hn:∀k,vo.ownBlock=some k->D+2<=k:=λk hk=>(h.hk.base k hk).1
 have mm:=λ{b:Nat} (hm:M1 b)=>(s.mem b (h.lt b hm)).2 hm
 obtain⟨e,fr,ht⟩:=h.tab;have h0:bo≠1:=λe=>h.m0 (e▸h.mo)
 refine ⟨⟨s.bR h.o (λhh=>by have:=hn _ hh;omega),mm h.mo⟩,λ{w2} s2 hx=> ?_⟩;have S':=h.S.ch s (λk hk=>by have:=hn k hk;omega)
 exact⟨s2.lt (s.lt h.lt),S'.ch s2 (λk hk=>by subst hk;exact e8),mm h.mo,mm h.md,mm h.mr,λh0=>h.m0 ((s.mem 1 (ae ht)).1 h0),(h.set.step s (λhh=>by have:=hn _ hh;omega) (λhh=>by have:=hn _ hh;omega)).step s2 (λhh=>e6 hh.symm) (λhh=>e7 hh.symm),s2.bR (s.bR h.hl (λhh=>by have:=hn _ hh;omega)) (λhh=>e5 hh.symm),hx,s2.bR (s.bR h.d (λhh=>by have:=hn _ hh;omega)) hV,s2.bR (s.bR h.r (λhh=>by have:=hn _ hh;omega)) hV,⟨e,fr,s2.bR (s.bR ht (λhh=>by have:=hn _ hh;omega)) (λhh=>h0 hh.symm)⟩,h.ne,
  hk.step s2 (λk o8 hh=>by have:=(hk.base k o8).1;omega)⟩
end
set_option maxHeartbeats 2000000 in
theorem Si {M:aH} {w0:World} {va:Value} {a:List Fo} {n:Nat} (hM:Lt M w0) (mY:((RT.fo).sl).V M w0 a va) (hn:n<=1099511627776) (iF: ¬M 1) (tab:∃e fr,w0.heap[1]? =some (.cells (FJ.map fun(k:Nat)=>Value.int .u8 (k:Int)).toArray e fr)):
  Spec Tryz.prog 107 #[va,.int .i64 n] w0 (λv' w'=>∃M',Lt M' w'∧Step M w0 M' w' aE/\Own RT.fo 45 M' w' w0.heap.size v' (pT a n)):=by
 have hlen:=dQ mY;obtain⟨et,ft,tab⟩:=tab;have h0w:=ae tab;refine sU (args:=[_,_]) (fn:=Tryz.f107) Tryz.func107 G (n:=32) Tryz.ntmps107 (T.aP (Rg.bg G G (T.aP (ab G G ?_))));refine aQ G G abV (J7 (M:=M) hn) (λr1 w1 h=>?_);obtain⟨bs,bw,ws0,M0,rfl,z1,z2,s1,h1,uI⟩:=h;have oG:=s1.lt hM;have t1:=s1.aB tab;refine Rg.bg G G (aN (T.aP (ab G G (bN aS G mY G (ab G G (ad (aY ?_)))))));refine dz (σ:=Nat) (λs=>[(0,va),(1,.int .i64 n),(5,.pointer (some ⟨bs,0,none⟩)),(12,va),(13,.int .i64 a.length),(14,.int .i64 s)]) (λs w=>s<=a.length/\∃ws M1,Lt M1 w/\Step M w0 M1 w aE/\jm 128 205 n ws M1 w bs bw/\(∀j:Nat,bit ws j=(decide (j<n)&& !rN (a.take s) (j:Int)))/\¬M1 1/\w.heap[1]? =some (.cells (FJ.map fun(k:Nat)=>Value.int .u8 (k:Int)).toArray et ft)) (λs=>a.length-s) 0 a11 ?_ ?_
 ·exact⟨bm _,ws0,M0,oG,s1,h1,λj=>by rw[uI j];simp[rN],λh0=>iF ((s1.mem 1 h0w).1 h0),t1⟩
 ·rintro k wk ⟨hk,ws,M1,acG,SA,hs,zB,Xw,ht⟩;refine T.aP (cy G G G (ad (aN ?_)));refine bF G (λc3=>?_) (λc3=>?_)
  ·refine aR (aN (aY (T.aP ?_)));obtain⟨⟨d,s⟩,hx⟩:∃x,a[k]? =some x:=⟨_,an hV⟩;refine cD aS nc G G G (mY.le SA.le) cf a42 (λJw GD yX qZ=>?_);obtain rfl:(d,s)=GD:=dJ (aK (yX.symm.trans (by rw[aw];exact hx)));refine cv (A:=RT.fo) dB G nc q0 G G G qZ cf (λv4 pE=>?_);refine oQ (A:=RT.fo) (M:=M1) nc G G G G G Ub (by repeat (first|exact bI _ _|refine aX (bJ Ub) ?_)) a56 (λU8 U9 mE ou aaL=>?_);refine ad (aL (ab G G ?_));refine ar (M:=M1) (A:=RT.fo) (B:=RT.int .i64) dB G G I3 q0 (Yl) G G q0 Ub (by repeat (first|exact bI _ _|refine aX (bJ Ub) ?_)) (λZ5 HR=>?_);refine b4 ak G G HR cf (λhdr=>?_);refine bh (v':= .int .i64 d) G ?_;have T3:=hs.step ou (λh=>h) (λh=>h);have XG:=ou.lt acG;refine aQ rfl rfl abW (OB (i:=d) T3 (λj hj=>by rw[zB j,b7]at hj;exact of_decide_eq_true hj.1)) (λr6 w6 h=>?_);obtain⟨xh,hs6,qI,s6⟩:=h;refine ad (aL (bB G G G hV (ab G G (ad ?_))));refine⟨G,k+1,a11,?_,?_⟩
   ·refine⟨by omega,xh,M1,s6.lt XG,(SA.ax ou).ch s6 (λb hb=>by omega),hs6,λj=>?_,Xw,s6.bR (ou.aB ht) hV⟩;rw[qI j,zB j,Jd hx]
    cases rN (a.take k) (j:Int)<;>simp[eq_comm]
   ·show _-(k+1)<_-k;omega
  ·refine cQ (T.aP ?_);obtain rfl:k=a.length:=by omega
   refine ec M1 KT G (λbo w7 z7 z7' g7 s7=>?_);change w7.heap[bo]? =some (.cells #[.slice none 0 0] _ _)at g7;have hM7:=s7.lt acG;have S7:=SA.ax s7;have hs7:=hs.step s7 (λh=>h) (λh=>h);have y7:=SA.size;have lbs:=ae hs.s;have lbw:=ae hs.w;refine ad (aN (T.aP (ab G G ?_)));refine aQ G G akC (J5 (M:=ins M1 bo) (bs:=bs) hM7) (λr8 w8 h=>?_);obtain⟨bl,rfl,gl,z8,s8⟩:=h;have hM8:=s8.lt hM7;have S8:=S7.ax s8;have hs8:=hs7.step s8 (λh=>h) (λh=>h);have g8:=s8.aB g7;have xl:=ae gl;have y8:=s8.size;have t8:=s8.aB (s7.aB ht)
   have m80: ¬ins M1 bo 1:=by
    rintro(h|h)
    ·omega
    ·exact Xw h
   refine ad (aY ?_);rw[List.take_length]at zB;have acH:∀j,bit ws j=true->j<n:=λj hj=>by rw[zB j,b7]at hj;exact of_decide_eq_true hj.1
   refine T.range (gf:=226) (lb:= #[.pointer (some ⟨bl,0,none⟩)]) G akD (λrec sO=>?_);obtain⟨D,hD⟩:∃D,D=w8.heap.size:=⟨_,rfl⟩;rw[<-hD]at sO ⊢;obtain⟨Mb,wU⟩:∃Mb,Mb=ins M1 bo:=⟨_,rfl⟩;have mo:Mb bo:=by rw[wU];exact .inl G
   rw[<-wU]at hM8 S8 hs8 m80;have sA:Step Mb w8 (ins Mb w8.heap.size) (w8.alloc (.deferred (some []))) aE:=(dT _ w8 _).own (br _) (by simp);have sB:Step (ins Mb w8.heap.size) (w8.alloc (.deferred (some []))) (ins (ins Mb w8.heap.size) (w8.heap.size+1)) ((w8.alloc (.deferred (some []))).alloc (.loop (rec .ready none))) aE:=(dT _ _ _).own (by simp) (by simp);have sC:=sA.ax sB;have hDd:(w8.alloc (.deferred (some []))).heap[w8.heap.size]? =some (.deferred (some [])):=dp w8 _;have hR:((w8.alloc (.deferred (some []))).alloc (.loop (rec .ready none))).heap[w8.heap.size+1]? =some (.loop (rec .ready none)):=by have:=dp (w8.alloc (.deferred (some []))) (.loop (rec .ready none));rwa [World.size_alloc]at this
   refine Spec.mono (G0 (M:=ins (ins Mb w8.heap.size) (w8.heap.size+1)) (n:=n) (ws:=ws) (bs:=bs) (bw:=bw) (J:=(λp M1 w=>∃vo,Ay M w0 n ws bs bw bl bo D (.loop (rec .ready none)) vo (pT a p) M1 w/\p<=n)) (Jx:=λ_=>False) acH (λp M1 w ⟨vo,h,_⟩=>⟨h.hl,h.set,h.tab⟩) (λp j M1 wr hJ hpj G1 jB=>?_) ⟨.slice none 0 0,?_,bm _⟩) (λ_ w4 h4=>?_)
   rotate_left
   ·rw[hD]
    exact⟨sC.lt hM8,S8.ax sC,.inr (.inr mo),.inr (.inl G),.inl G,by
     rintro(h|h|h)
     ·omega
     ·omega
     ·exact m80 h,hs8.step sC (λh=>h) (λh=>h),sC.aB gl,sC.aB g8,sB.aB hDd,hR,⟨_,_,sC.aB t8⟩,by omega,eG _ _ _ _ _⟩
   rotate_left
   ·obtain⟨vo,h,RL⟩:=hJ;refine ql (ps:=[25]) (vs:=[.int .i64 j]) sO h.r G q0 (aL (Rg.bg G G (⟨G,h.r,?_⟩)));have h1:=h.pq (st':= .loop (rec .busy none));generalize wr.putObj (D+1) _=wB at h1 ⊢;refine aY (aL (aG aS G G G h1.o G (bh (v':=vo) G (ab G G ?_))));have hjn:j<n:=by have:=acH _ G1;exact this
    have Sx:=h1.set.nn;refine dg (places:=[(0,1),(1,1)]) dB nc Iy rfl ⟨_,_,rfl,rfl,rfl⟩ (out:=[_,.int .i64 0]) ⟨0,[_],rfl,rfl,by simp[Value.cells],rfl⟩ ?_;refine fp (A:=RT.fo) (hn:=by decide) (M:=M1) aS nc q0 G G h1.lt (FK (a:=(j:Int)) (b:=0) hV hV) (.inl G) (λu6 w6 kZ s6=>?_);have h6:=h1.step s6;have re:=Dl a p;refine dH (M:=M1) (base:=D+2) aS nc rfl rfl rfl rfl (h6.hk) kZ cf a08 a08 (by have:=ae h6.r;omega) (λv7 M3 w7 sz s7=>?_);obtain⟨⟨go7,mo7⟩,Uw⟩:=h6.grow s7 sz;refine cg (M:=M3) KT rfl rfl go7 rfl (by obtain⟨_,_,he,_⟩:=sz.isSlice;rw[he];rfl) mo7 (λw8 go8 s8=>?_);have h8:=Uw s8 go8;refine ad ?_;have h9:=h8.pq (st':= .loop (rec .ready none));refine⟨h8.r,true,G,(λ_=>⟨M3,v7,?_,by omega⟩),λh=>by(cases h)⟩
    have acI:pT a j=pT a p:=uG j hpj (λt h1 h2=>by
     have h3:=jB t h1 h2;rw[zB t,decide_eq_true (show t<n by omega),dr]at h3;simpa using h3)
    have hfj:rN a (j:Int)=false:=by
     have:=zB j;rw[G1,decide_eq_true hjn,dr]at this;simpa using this.symm
    rw[AO,acI,hfj];exact h9
   ·obtain⟨p,Mz,⟨vo,h,RL⟩,jV⟩:=h4.resolve_right (λh=>h);left;have h5:=h.pq (st':= .loop (rec .exhausted none))
    have j7:pT a n=pT a p:=uG n RL (λt h1 h2=>by
     have h3:=jV t h1;rw[zB t,decide_eq_true h2,dr]at h3;simpa using h3)
    refine ⟨h.r,?_⟩;generalize w4.putObj (D+1) _=wE at h5 ⊢;have re:=Dl a p;refine T.aP (aG aS G G G h5.o G (bh (v':=vo) G (Rg.bg G G (aJ ?_))));obtain⟨⟨e1,e2,e3,e4⟩,e5,e8,e9⟩:=h5.ne;have sZ:Step Mz wE Mz (wE.putObj D (.deferred none)) (λk=>k=D):=fY h5.md;have SZ:=h5.S.ch sZ (λk hk=>by subst hk;exact e9);rw[j7];exact FF G G h5.d ⟨_,SZ.lt hM,SZ,(h5.hk.step sZ (λk hk hh=>by have:=(h5.hk.base k hk).1;omega)).iJ hV⟩
theorem XL {M:aH} {w0:World} {va vb:Value} {a b:List Fo} (hM:Lt M w0) (mY:((RT.fo).sl).V M w0 a va) (KO:((RT.fo).sl).V M w0 b vb) (oa:qW a) (ob:qW b) (hl:a.length+b.length<=1099511627776):
  Spec Tryz.prog 109 #[va,vb] w0 (λv' w'=>∃M',Lt M' w'∧Step M w0 M' w' aE/\Own RT.fo 45 M' w' w0.heap.size v' (CN 1 a b)):=by
 refine a8 (args:=[_,_]) (fn:=Tryz.f109) Tryz.func109 G (n:=8) Tryz.ntmps109 (T.aP (Rg.bg G G (T.aP (ab G G (ab G G ?_)))));refine aQ G G XJ (IA hM mY KO oa ob hl) (λr1 w1 h=>?_);obtain⟨M1,h1,s1,ho⟩:=h;refine Rg.bg G G (aJ ?_);exact aM G G ⟨M1,h1,s1,ho⟩
end Go.K
namespace Go.K
open Go.Proofs
namespace TKQMay
theorem zn:TI Tryz.prog 26 (.slice none 0 0) 1 24:=by unfold TI;kernel_rfl
theorem gP:TI Tryz.prog 28 (.agg #[(.int .i64 0),(.string ⟨#[]⟩),(.string ⟨#[]⟩),(.slice none 0 0),(.slice none 0 0)]) 5 88:=by unfold TI;kernel_rfl
theorem akE:TI Tryz.prog 123 .nilFunc 1 8:=by unfold TI;kernel_rfl
theorem akF:TI Tryz.prog 264 .nilFunc 1 8:=by unfold TI;kernel_rfl
theorem Cx:TI Tryz.prog 267 (.agg #[(.string ⟨#[]⟩),.nilFunc,.nilFunc,.nilFunc]) 4 40:=by unfold TI;kernel_rfl
theorem acJ:Enters Tryz.prog 104:=enters Tryz.func104 rfl q0
theorem akG:Enters Tryz.prog 161:=enters Tryz.func161 rfl q0
theorem Xc:Enters Tryz.prog 162:=enters Tryz.func162 rfl q0
end TKQMay
open TKQMay
set_option maxRecDepth 10000
theorem mL (q:Qy) (deep:Nat):jk q deep=if 6<deep then 8 else if¬j5 q.kind q.term q.words q.kids.length=0 then j5 q.kind q.term q.words q.kids.length else tP q.kids (deep+1):=by
 obtain⟨k,t,ws,ks⟩:=q;rw[jk];rfl
theorem Hp {ks:List Qy} {deep i:Nat} {x:Qy} (h:ks[i]? =some x) (ie:∀(j:Nat) y,j<i->ks[j]? =some y->jk y deep=0) (hx: ¬jk x deep=0):tP ks deep=jk x deep:=by
 induction ks generalizing i with
 |nil=>simp at h
 |cons y ks ih=>
  rw[tP]
  cases i with
  |zero=>simp at h;subst h;rw[if_pos hx]
  |succ i=>
   rw[if_neg (λh'=>h' (ie 0 y hV rfl))];exact ih a81 λj z hj hz=>ie (j+1) z hV (by simpa using hz)
theorem Ky {ks:List Qy} {deep:Nat} (ie:∀(j:Nat) y,ks[j]? =some y->jk y deep=0):tP ks deep=0:=zi.2 λq hq=>by
 obtain⟨j,hj⟩:=bO.1 hq;exact ie j q hj
theorem Sk (k:Int) (t:Fd) (ws:List (List UInt8)) (n:Nat):0<=j5 k t ws n/\j5 k t ws n<=9:=by
 unfold j5
 repeat' split
 all_goals omega
theorem Bv {M:aH} {n:Nat} {q:Qy} {v:Value} {deep:Nat} (w0:World) (hM:Lt M w0) (hv:(RT.qy (n+1)).V M w0 q v) (hs:Ha q) (hd:deep<=1000) (ih:∀x∈q.kids,∀(deep:Nat) (M:aH) (w:World) (v:Value),Lt M w->(RT.qy n).V M w x v->deep<=7->Spec Tryz.prog 104 #[v,.int .i64 (deep:Int)] w (λv' w'=>v'= .int .i64 (jk x deep)/\Step M w M w' aE)):
  Spec Tryz.prog 104 #[v,.int .i64 (deep:Int)] w0 (λv w=>v= .int .i64 (jk q deep)/\Step M w0 M w aE):=by
 have iF:=hM;obtain⟨SF,hsk⟩:=YB.1 hs;have Fv:=Sk q.kind q.term q.words q.kids.length;refine a8 (args:=[_,_]) (fn:=Tryz.f104) Tryz.func104 G (n:=55) Tryz.ntmps104 ?_;have S:Step M w0 M w0 aE:=aV;refine T.aP ?_;refine fD (A:=RT.qy (n+1)) (a:=q) G G hM hv (eB _) (λu2 Kf eS j8 _=>?_);replace hv:=hv.le j8.le;replace hM:=j8.lt hM;have:=S.size;replace S:=S.ax j8;refine Rg.bg G G (aN ?_);have Hm:=eS;have S0:=S;have wU:=hM;apply T.TM (M:=M) [0,1,2,3,4,5,6,7,8,9] 8 6 17 (.bool (decide (1<=q.kind/\q.kind<=5))) [] [(cj.mk' (λv w=>∃mb es clock,v= .map (some mb)/\w.heap[mb]? =some (.map (es:List MapEntry).toArray clock)/\(∀(k:Int),∃o,Instr.findNow (.int .i64) (.int .i64 k) es 0=some o/\o.isSome=decide (1<=k/\k<=5)/\KV k ((o.map Prod.snd).getD (.agg #[.string ⟨#[]⟩,.nilFunc,.nilFunc,.nilFunc])) w)) (fun⟨mb,es,cl,h1,h2,h3⟩ s=>⟨mb,es,cl,h1,s.aB h2,λk=>by obtain⟨o,h4,h5,h6⟩:=h3 k;exact⟨o,h4,h5,h6.step s λ_ h=>h.elim⟩⟩)),cj.ptr (RT.int .i64) q.kind,cj.eq (.int .i64 q.kind),(cj.mk' (λv w=>∃u,v= .tuple #[u,.bool (decide (1<=q.kind/\q.kind<=5))]/\KV q.kind u w) (fun⟨u,h1,h2⟩ s=>⟨u,h1,h2.step s λ_ h=>h.elim⟩)),(cj.mk' (λv w=>∃u,v= .tuple #[u,.bool (decide (1<=q.kind/\q.kind<=5))]/\KV q.kind u w) (fun⟨u,h1,h2⟩ s=>⟨u,h1,h2.step s λ_ h=>h.elim⟩)),(cj.mk' (λv w=>KV q.kind v w) (λh s=>h.step s λ_ h=>h.elim)),cj.eq (.bool (decide (1<=q.kind/\q.kind<=5))),(cj.mk' (λv w=>∃bo,v= .pointer (some ⟨bo,0,none⟩)/\Kf.heap.size<=bo/\w.heap[bo]? =some (.cells #[.string ⟨#[]⟩,.nilFunc,.nilFunc,.nilFunc] 267 (0,0))) (fun⟨bo,h1,h2,h3⟩ s=>⟨bo,h1,h2,s.aB h3⟩))] [(4,11,λv=>∃u,v= .tuple #[u,.bool (decide (1<=q.kind/\q.kind<=5))])] mixed
 ·simp+decide only[AH,uz,fe,zR,zN,zO,uj,fA,pB,List.idxOf_cons,cond_true,cond_false,Nat.reduceBEq,Nat.reduceAdd,beq_self_eq_true];rfl
 ·rfl
 ·rfl
 ·rfl
 ·rfl
 ·rfl
 ·rfl
 ·rfl
 ·rfl
 ·rfl
 ·rfl
 ·rfl
 ·intro ρ w h hg;obtain⟨u,hu⟩:=hg _ (cO.2 rfl);simp only[execOp,hu];simp[Instr.extract]
 ·intro g hg;rw[cO]at hg;subst hg;exact⟨_,_,rfl,rfl,show 4<8 by decide,show 4≠6 by decide,rfl,λv w ⟨u,h,_⟩=>⟨u,h⟩⟩
 ·exact a86
 ·exact a86
 ·exact qD.st (qA)
 intro wR1 L4;have sR1:=L4 M;replace eS:=eS.le (aZ _) sR1.le;replace hM:=sR1.lt hM;have:=S.size;replace S:=S.ax sR1;refine⟨?_,?_⟩
 ·refine ay ?_ ?_
  ·intro wD E sD;refine aQ G G akG (G5 _ (sD.lt hM)) (λr0 w0' hc=>?_);obtain⟨mb,es,cl,rfl,h1,h2,h3⟩:=hc;exact ad ⟨G,G,_,G,⟨mb,es,cl,G,h1,h2⟩,h3⟩
  refine ay ?_ ?_
  ·intro wD E sD;refine ar (M:=M) (A:=RT.qy (n+1)) (B:=RT.int .i64) au G G I3 q0 (QK n) G G (aZ _) eS sD.le (λuf tH=>?_);exact a69
  refine ay ?_ ?_
  ·intro wD E sD;intro v1 qH;refine b4 ak G G (show cR (RT.int .i64) M wD v1 q.kind from qH) cf (λkO=>?_);exact a00
  refine ay ?_ ?_
  ·intro wD E sD;intro v0 qC;refine aq ?_;obtain⟨mb,es,cl,rfl,h1,h2⟩:=qC;obtain⟨o,h3,h4,h5⟩:=h2 q.kind;refine Rg.QL ry ak Cx G G G h1 h3 G ?_;exact ad ⟨rfl,rfl,_,rfl,⟨_,by rw[h4],h5⟩,aV⟩
  refine ay ?_ ?_
  ·intro wD E sD;intro v3 uQ;refine ab G G ?_;exact ad ⟨G,G,_,G,uQ,aV⟩
  refine ay ?_ ?_
  ·intro wD E sD;intro v4 pE;obtain⟨u,rfl,hK⟩:=pE;refine cq G G G ?_;exact ad ⟨G,G,_,G,hK,aV⟩
  refine ay ?_ ?_
  ·intro wD E sD;intro v4 pE;obtain⟨u,rfl,hK⟩:=pE;refine cq G G G ?_;exact a00
  refine ay ?_ ?_
  ·intro wD E sD;refine ec M Cx G (λbq wq e1 e2 e3 s=>?_);exact ad ⟨G,G,_,G,⟨bq,G,du (du sR1.size sD.size) e1,e3⟩,s.back⟩
  exact jS
 ·intro Jp lN;intro atv aod;intro yB lR;refine aq ?_;intro V0 H7;intro atw aoe;intro akH acL;refine aq ?_;intro aa0 NP;obtain⟨bo,rfl,hbo,go⟩:=NP;have hK:KV q.kind akH Jp:=acL;obtain⟨ca,cb,cc,cd,rfl,h1,h2,h3,h4⟩:=hK.cells;have so:=(sR1.ax lN).own hbo (ae go);obtain⟨Mo,hMo⟩:∃Mo,Mo=ins M bo:=⟨_,rfl⟩;have mbo:Mo bo:=by rw[hMo];exact .inl G
  rw[<-hMo]at so;replace hM:=so.lt wU;replace eS:=Hm.le (aZ _) so.le;replace S:=S0.ax so;refine cM (M:=Mo) (vs:=[ca,cb,cc,cd]) Cx G G (by intro u hu;simp at hu;rcases hu with rfl|rfl|rfl|rfl<;>assumption) rfl rfl go mbo (λw8 g8 s8=>?_);have fK:=(s8.mem _ (ae go)).2 mbo;replace hK:=hK.step s8 (λb hb cs h=>by have hb:b=bo:=hb;rw[hb,go]at h;injection h with h;injection h with _ h;exact absurd h q0);replace S:=S.ch s8 (λb (hb:b=bo)=>by have:=j8.size;omega);replace hM:=s8.lt hM;replace eS:=eS.le (aZ _) s8.le;refine ad ⟨G,G,λh=>absurd G h,aF G G (ad ⟨G,G,λh=>absurd G h,rq (aN (aY (T.aP (ab G G (fU G G G (Rg.bg G G ?_))))))⟩)⟩;refine bF G (λc2=>?_) (λc2=>?_)
  ·refine T.aP (Rg.bg G G (aJ ?_));exact aM rfl rfl ⟨by rw[mL q deep,if_pos hV],S.back⟩
  ·refine aN ?_;by_cases uY: ¬(1<=q.kind/\q.kind<=5)
   ·apply T.qS (M:=Mo) mixed [] [cj.eq (.bool (decide (1<=q.kind/\q.kind<=5))),cj.eq (.bool (decide (¬(1<=q.kind/\q.kind<=5)))),cj.eq (.bool true),cj.eq undef,cj.eq undef,cj.eq undef,cj.eq undef,cj.eq undef] 8
    ·rfl
    ·rfl
    ·rfl
    ·rfl
    ·rfl
    ·exact a86
    ·exact qA
    ·refine ay ?_ ?_
     ·intro wD E sD;refine ab G G ?_;exact a00
     refine ay ?_ ?_
     ·intro wD E sD;refine aq (iv G G (bh (v':= .bool (decide (¬(1<=q.kind/\q.kind<=5)))) (by rw[decide_not]) ?_));exact a00
     refine ay ?_ ?_
     ·intro wD E sD;refine aq (ab G G ?_);refine ad ⟨G,G,_,G,?_,aV⟩;exact congrArg Value.bool (decide_eq_true uY)
     refine ay ?_ ?_
     ·intro wD E sD;refine aq ?_;exact a10
     refine ay ?_ ?_
     ·intro wD E sD;refine aq ?_;exact a10
     refine ay ?_ ?_
     ·intro wD E sD;refine aq (aq ?_);exact a10
     refine ay ?_ ?_
     ·intro wD E sD;refine aq ?_;exact a10
     refine ay ?_ ?_
     ·intro wD E sD;refine aq (aq (aq (aq ?_)));exact a10
     exact jS
    ·intro wD4 qu;refine aq (aq (aq (aq (aq (aq (aq (aq ?_)))))));replace hM:=qu.lt hM;replace S:=S.ax qu;replace eS:=eS.le (aZ _) qu.le;have:=ae g8;replace fK:=(qu.mem _ this).2 fK;replace g8:=qu.aB g8;replace hK:=hK.step qu a18;refine aj G G G G (aj G G G G (aU G G G (Rg.bg G G (kJ G (T.aP (Rg.bg G G (aJ ?_)))))))
     first
     |exact aM rfl rfl ⟨by rw[mL q deep,if_neg hV,Ix uY];rfl,S.back⟩
     |exact aM rfl rfl ⟨by rw[mL q deep,if_neg hV,Iw (k:=q.kind) (t:=q.term) (ws:=q.words) (cr.1 uY) (by obtain⟨_,_,_,_⟩:=q;exact c4)];rfl,S.back⟩
   ·obtain⟨bf,mf,cap,rfl,rfl,eb,em,hbf,hmf⟩:=hK.use (cr.1 uY) SF;apply T.qS (M:=Mo) mixed [] [cj.eq (.bool (decide (1<=q.kind/\q.kind<=5))),cj.eq (.bool (decide (¬(1<=q.kind/\q.kind<=5)))),cj.eq (.bool false),cj.V (RT.qy (n+1)) q,cj.eq _,cj.eq (.func (.func bf) #[] #[]),cj.V (RT.qy (n+1)) q,cj.V (RT.qy (n+1)) (j9 q)] 8
    ·rfl
    ·rfl
    ·rfl
    ·rfl
    ·rfl
    ·exact a86
    ·exact qA
    ·refine ay ?_ ?_
     ·intro wD E sD;refine ab G G ?_;exact a00
     refine ay ?_ ?_
     ·intro wD E sD;refine aq (iv G G (bh (v':= .bool (decide (¬(1<=q.kind/\q.kind<=5)))) (by rw[decide_not]) ?_));exact a00
     refine ay ?_ ?_
     ·intro wD E sD;refine aq (ab G G ?_);refine ad ⟨G,G,_,G,?_,aV⟩;exact congrArg Value.bool (decide_eq_false uY)
     refine ay ?_ ?_
     ·intro wD E sD;refine aq (ah G G ?_);refine cv (M:=Mo) (A:=RT.qy (n+1)) au G (IQ gP _) (aZ _) (eB _) G G eS sD.le (λva mY=>?_);exact ad ⟨G,G,_,G,mY,aV⟩
     refine ay ?_ ?_
     ·intro wD E sD;refine aq (ah G G (aT rz G G akF q0 G G ?_));exact a00
     refine ay ?_ ?_
     ·intro wD E sD;refine aq (aq (ah G G (aG Tryz.underlying264 G G G (sD.aB g8) G ?_)));exact a00
     refine ay ?_ ?_
     ·intro wD E sD;refine aq (ah G G ?_);refine cv (M:=Mo) (A:=RT.qy (n+1)) au G (IQ gP _) (aZ _) (eB _) G G eS sD.le (λva mY=>?_);exact ad ⟨G,G,_,G,mY,aV⟩
     refine ay ?_ ?_
     ·intro wD E sD;refine aq ?_;intro v6 p9;refine aq (aq (ah G G ?_));refine uk (first:=[]) (captured:=[]) (xs:=[.tmp 28]) G G G eb (hbf (sD.lt hM) p9) (λr7 w7 hc=>?_);exact ad ⟨G,G,_,G,hc.1,hc.2⟩
     exact jS
    ·intro wD4 qu;refine aq (aq (aq ?_));intro aty acM;refine aq (aq ?_);intro atz aoh;intro atA acN;replace hM:=qu.lt hM;replace S:=S.ax qu;replace eS:=eS.le (aZ _) qu.le;have:=ae g8;replace fK:=(qu.mem _ this).2 fK;replace g8:=qu.aB g8;replace hK:=hK.step qu a18;refine ah G G ?_;refine aQ G G Xc (zp (n+1) _ hM acM acN) (λr48 w48 hc=>?_);obtain⟨rfl,YE⟩:=hc;have:=ae g8;replace fK:=(YE.mem _ this).2 fK;replace g8:=YE.aB g8;replace eS:=eS.le (aZ _) YE.le;replace hK:=hK.step YE a18;replace hM:=YE.lt hM;have:=S.size;replace S:=S.ax YE;refine ah G G (iv G G (bh (v':= .bool (decide (¬q=j9 q))) (by simp) (az G G G (Rg.bg G G ?_))));refine bF G (λc4=>?_) (λc4=>?_)
     ·refine T.aP (Rg.bg G G (aJ ?_))
      first
      |exact aM rfl rfl ⟨by rw[mL q deep,if_neg hV,Ix uY];rfl,S.back⟩
      |exact aM rfl rfl ⟨by rw[mL q deep,if_neg hV,Iw (k:=q.kind) (t:=q.term) (ws:=q.words) (cr.1 uY) (by obtain⟨_,_,_,_⟩:=q;exact c4)];rfl,S.back⟩
     ·refine aR (aN (T.aP (aT rz G G akE q0 G G (aG Tryz.underlying123 G G G g8 G ?_))));refine cv (A:=RT.qy (n+1)) au G (IQ gP _) (aZ _) (eB _) G G eS cf (λv62 akI=>?_);refine uk (first:=[]) (captured:=cap) (xs:=[.tmp 35]) G G G em (hmf hM akI hK (cr.1 c4)) (λr6 w6 hc=>?_);obtain⟨rfl,s6⟩:=hc;have:=ae g8;replace fK:=(s6.mem _ this).2 fK;replace g8:=s6.aB g8;replace eS:=eS.le (aZ _) s6.le;replace hK:=hK.step s6 a18;replace hM:=s6.lt hM;have:=S.size;replace S:=S.ax s6;refine Rg.bg G G (T.aP (ab G G (eW G G G (ad ?_))));refine bF G (λc7=>?_) (λc7=>?_)
      ·refine T.aP (ab G G (Rg.bg G G (aJ ?_)));exact aM rfl rfl ⟨by rw[mL q deep,if_neg hV,if_pos c7],S.back⟩
      ·refine aR (aN (T.aP ?_));refine ar (A:=RT.qy (n+1)) (B:=((RT.qy n).sl (aZ n))) au G G zn Nat.one_pos (LN n) G G (aZ _) eS cf (λu90 XM=>?_);refine bP ck G G G G G XM cf (λv91 vG=>?_);have Fs:=dQ vG;refine bN (A:=RT.qy n) (hn:=aZ _) ck G vG G (ab G G (ad (aY ?_)));refine dz (σ:=Nat) (λi=>[(1,.int .i64 (deep:Int)),(2,u2),(41,v91),(42,.int .i64 (q.kids.length:Int)),(43,.int .i64 (i:Int))]) (λi w=>i<=q.kids.length/\(∀(j:Nat) y,j<i->q.kids[j]? =some y->jk y (deep+1)=0)/\∃M1,Lt M1 w/\Step M w0 M1 w aE/\((RT.qy n).sl (aZ n)).V M1 w q.kids v91) (λi=>q.kids.length-i) 0 a65 ?_ ?_
       ·exact⟨bm _,λj y h=>absurd h (fB _),_,hM,S,vG⟩
       ·clear hM S vG eS hK g8 fK;rintro i w ⟨hi,ie,M1,hM,S,vG⟩;refine T.aP (cy G G G (ad (aN ?_)));refine bF G (λVc=>?_) (λVc=>?_)
        ·refine aR (aN (aY (T.aP ?_)));obtain⟨x,hx⟩:∃x,(q.kids)[i]? =some x:=⟨_,an hV⟩;refine cD (A:=RT.qy n) (hn:=aZ _) (M:=M1) ck (IQ gP _) G G G vG cf hV (λakJ x_ iU Px=>?_);rw[aw]at iU;obtain rfl:=aK (hx.symm.trans iU);refine cv (A:=RT.qy (n)) au G (IQ gP _) (aZ _) (eB _) G G Px cf (λakK kI=>?_);refine oQ (A:=RT.qy n) (M:=M1) (IQ gP _) (by rw[BV];rfl) (eB _) rfl rfl rfl kI cf hM (λatD atE Py XN _=>?_);replace vG:=vG.le XN.le;replace hM:=XN.lt hM;have:=S.size;replace S:=S.ax XN;refine ad (T.aP ?_);refine cv (A:=RT.qy (n)) au G (IQ gP _) (aZ _) (eB _) G G Py cf (λatF acO=>?_);refine ab G G (bB G G G hV (bh (v':= .int .i64 ((deep+1:Nat):Int)) (by congr 1) ?_));refine aQ G G acJ (ih x (ao hx) (deep+1) _ _ _ hM acO hV) (λr12 Me hc=>?_);obtain⟨rfl,mF⟩:=hc;replace vG:=vG.le mF.le;replace Py:=Py.le (aZ _) mF.le;replace hM:=mF.lt hM;have:=S.size;replace S:=S.ax mF;refine Rg.bg G G (T.aP (ab G G (eW G G G (ad ?_))));refine bF G (λJz=>?_) (λJz=>?_)
         ·refine T.aP (ab G G (Rg.bg G G (aJ ?_)));exact aM rfl rfl ⟨by rw[mL q deep,if_neg hV,if_neg c7,Hp hx ie Jz],S.back⟩
         ·refine aR (aL (bB G G G hV (ab G G (ad ?_))));refine⟨G,i+1,a65,?_,?_⟩
          ·refine⟨by omega,λj y hj hy=>?_,_,hM,S,vG⟩;rcases cK j i with h|h
           ·exact ie j y h hy
           ·obtain rfl:j=i:=by omega
            rw[hx]at hy;cases hy;exact cr.1 Jz
          ·omega
        ·refine cQ (T.aP (Rg.bg G G (aJ ?_)));exact aM rfl rfl ⟨by rw[mL q deep,if_neg hV,if_neg c7,Ky λj y hj=>ie j y (by have:=(al.1 hj).1;omega) hj],S.back⟩
theorem Bw {M:aH} {w:World} {q:Qy} {v:Value} (h:(RT.qy 0).V M w q v):q.kids=[]:=by
 obtain⟨vs,⟨_,_,_,_,_,_,_,_,_,_,_,_,hk,_⟩,_⟩:=h;exact hk
theorem zC:∀(n:Nat) {M:aH} {q:Qy} {v:Value} {deep:Nat} (w0:World) (hM:Lt M w0) (hv:(RT.qy n).V M w0 q v) (hs:Ha q) (hd:deep<=1000),Spec Tryz.prog 104 #[v,.int .i64 (deep:Int)] w0 (λv w=>v= .int .i64 (jk q deep)/\Step M w0 M w aE)
 |0,M,q,v,deep,w0,hM,hv,hs,hd=>Bv (n:=0) w0 hM (lJ hv) hs hd λx hx=>by rw[Bw hv]at hx;cases hx
 |n+1,M,q,v,deep,w0,hM,hv,hs,hd=>Bv w0 hM hv hs hd λx hx deep M w v hM hv hd=>zC n w hM hv ((YB.1 hs).2 x hx) hV
theorem Kz {M:aH} {n:Nat} {q:Qy} {v:Value} (w0:World) (hM:Lt M w0) (hv:(RT.qy (n+1)).V M w0 q v) (hs:Ha q):
  Spec Tryz.prog 55 #[v] w0 (λv w=>v= .int .i64 (jk q 1)/\Step M w0 M w aE):=by
 refine a8 (args:=[_]) (fn:=Tryz.f55) Tryz.func55 G (n:=5) Tryz.ntmps55 ?_;have S:Step M w0 M w0 aE:=aV;refine T.aP ?_;refine fD (A:=RT.qy (n+1)) (a:=q) G G hM hv (eB _) (λu1 Kf k8 j8 _=>?_);replace hv:=hv.le j8.le;replace hM:=j8.lt hM;have:=S.size;replace S:=S.ax j8;refine Rg.bg G G (T.aP ?_);refine cv (A:=RT.qy (n+1)) au G (IQ gP _) (aZ _) (eB _) G G k8 cf (λv10 sh=>?_);refine aQ G G acJ (zC (n+1) (deep:=1) _ hM sh hs q0) (λr1 w1 hc=>?_);obtain⟨rfl,s1⟩:=hc;replace k8:=k8.le (aZ _) s1.le;replace hM:=s1.lt hM;have:=S.size;replace S:=S.ax s1;refine Rg.bg G G (aJ ?_);exact aM G G ⟨G,S⟩
end Go.K
namespace Go.K
open Go.Proofs
namespace TKMFits
theorem zn:TI Tryz.prog 26 (.slice none 0 0) 1 24:=by unfold TI;kernel_rfl
theorem gP:TI Tryz.prog 28 (.agg #[(.int .i64 0),(.string ⟨#[]⟩),(.string ⟨#[]⟩),(.slice none 0 0),(.slice none 0 0)]) 5 88:=by unfold TI;kernel_rfl
theorem E53:Enters Tryz.prog 53:=enters Tryz.func53 rfl q0
theorem YF:Enters Tryz.prog 56:=enters Tryz.func56 rfl q0
theorem akM:Enters Tryz.prog 105:=enters Tryz.func105 rfl q0
theorem akN:Enters Tryz.prog 106:=enters Tryz.func106 rfl q0
theorem akO:Enters Tryz.prog 107:=enters Tryz.func107 rfl q0
theorem abU:Enters Tryz.prog 108:=enters Tryz.func108 rfl q0
theorem akP:Enters Tryz.prog 109:=enters Tryz.func109 rfl q0
end TKMFits
open TKMFits
set_option maxRecDepth 10000
theorem xy (fs:List Fd) (q:Qy):fy fs q=if q.kind=1 then wV (jc (dX fs q.term.1) q.term.2).length else if q.kind=5 then wV (vv (dX fs q.term.1) q.words)else if q.kind=2 then(if(q.kids.map (fy fs)).all Option.isSome=true then some (pz (q.kids.map (fy fs)))else none)else if q.kind=3 then(if(q.kids.map (fy fs)).any Option.isSome=true then some (pz (q.kids.map (fy fs)))else none)else(if(q.kids.map (fy fs)).any Option.isSome=true then none else some 0):=by
 obtain⟨k,t,ws,ks⟩:=q;rw[fy,zh];rfl
def pA (k:Int) (l:List (Option Int)):Option Int:=if k=2 then(if l.all Option.isSome=true then some (pz l)else none)else(if l.any Option.isSome=true then some (pz l)else none)
theorem Pz (o:Option Int):pz [o]=o.getD 0:=by unfold pz;simp
theorem PA (k:Int) (o:Option Int):pA k [o]=o:=by
 unfold pA;rw[Pz]
 cases o<;>simp
theorem Bx (l:List (Option Int)) (o:Option Int):pz (l++[o])=pz l+o.getD 0:=by
 unfold pz;rw[eu,List.sum_append];simp
theorem KA {l:List (Option Int)} (h:l.any Option.isSome=false):pz l=0:=by
 unfold pz
 induction l with
 |nil=>rfl
 |cons o l ih=>
  rw[List.any_cons,Bool.or_eq_false_iff]at h;rw[fe,List.sum_cons,ih h.2]
  cases o with
  |none=>rfl
  |some x=>simp at h
theorem PB {k:Int} (hk:k=2) (l:List (Option Int)) (o:Option Int):pA k (l++[o])=nP 2 (pA k l) o:=by
 unfold pA nP OJ;rw[if_pos hk,if_pos hk,Bx,List.all_append]
 cases hl:l.all Option.isSome<;>cases o<;>simp
theorem Sm {k:Int} (hk: ¬k=2) (l:List (Option Int)) (o:Option Int):pA k (l++[o])=nP 1 (pA k l) o:=by
 unfold pA nP orO;rw[if_neg hk,if_neg hk,Bx,List.any_append]
 cases hl:l.any Option.isSome<;>cases o<;>simp[KA,hl]
theorem PC {k:Int} {l:List (Option Int)} {B:Int} (hB:0<=B/\B<=131072000) (hl:l.length<=8) (h:∀o∈l,∀s,o=some s->0<=s/\s<=B):∀s,pA k l=some s->0<=s/\s<=1048576000:=by
 intro s hs;have hc:=ER hB.1 h;have h2:(l.length:Int)*B<=8*131072000:=Int.mul_le_mul hV hB.2 hB.1 q0;unfold pA at hs
 have:s=pz l:=by
  split at hs<;>split at hs<;>first|exact(aK hs).symm|cases hs
 omega
theorem PD {q:Qy} {deep:Nat}:jk q deep=0↔deep<=6/\j5 q.kind q.term q.words q.kids.length=0/\∀x∈q.kids,jk x (deep+1)=0:=by
 obtain⟨k,t,ws,ks⟩:=q;exact qx
theorem xz {f:En->Option Int} {L:List En} (h:L.length<=100000):qW (gg f 0 L):=λp hp=>by have:=qw hp;omega
theorem Hq {x:List UInt8} (h:cL x=true):x.length<=140737488355328:=by
 unfold cL at h;have:=(of_decide_eq_true h).2;omega
theorem IC {L:List En} {ks:List Qy} {x:Qy} {i deep:Nat} {k:Int} (least:Int) (hl:least=1\/least=2) (hk:least=2↔k=2) (hx:ks[i+1]? =some x) (hn:L.length<=100000) (hF:∀e∈L,iC e.1) (h8:ks.length<=8) (hm:∀x∈ks,jk x (deep+1)=0):CN least (gg (λe=>pA k ((ks.take (i+1)).map (fy e.1.2))) 0 L) (gg (λe=>fy e.1.2 x) 0 L)=gg (λe=>pA k ((ks.take (i+1+1)).map (fy e.1.2))) 0 L:=by
 have hB:0<=sq (deep+1)/\sq (deep+1)<=131072000:=⟨ES _,Kb hV⟩;rw[Is hl L 0 hV λe he s hs=>?_]
 ·refine kq λe _=> ?_
  rw[bX (i:=i+1),hx,dx,eu];rcases hl with rfl|rfl
  ·exact(Sm (λh=>absurd (hk.2 h) q0) _ _).symm
  ·exact(PB (hk.1 G) _ _).symm
 ·have hw:=λk=>wx (hF e he) k
  rcases hs with hs|hs
  ·have:=PC hB (by rw[bW,a7];omega) (λo ho s hs=>by
    obtain⟨y,hy,rfl⟩:=cx.1 ho;exact zk e.1.2 hw y (deep+1) (hm y (List.mem_of_mem_take hy)) s hs) s hs
   omega
  ·have:=zk e.1.2 hw x (deep+1) (hm x (ao hx)) s hs;omega
theorem Own.foV {M M':aH} {w0 w:World} {v:Value} {L:List En} {f:En->Option Int} (h:Own RT.fo 45 M' w w0.heap.size v (gg f 0 L)) (hM:Lt M w0) (s:Step M w0 M' w aE) (hn:L.length<=100000):((RT.fo).sl).V M w (gg f 0 L) v:=h.close hM s (by have:=ky (f:=f) L 0;omega)
set_option maxHeartbeats 2000000 in
theorem zD {M:aH} {n:Nat} {L:List En} {q:Qy} {v0 v:Value} {deep:Nat} (w0:World) (hM:Lt M w0) (h0: ¬M 1) (tab:∃e fr,w0.heap[1]? =some (.cells (FJ.map fun(k:Nat)=>Value.int .u8 (k:Int)).toArray e fr)) (hs:cR RT.se M w0 v0 (GM (ju L))) (eZ:wo (-1) L=true) (hn:L.length<=100000) (hv:(RT.qy (n+1)).V M w0 q v) (hm:jk q deep=0) (ih:∀x∈q.kids,∀(M:aH) (w:World) (v:Value),Lt M w->¬M 1->(∃e fr,w.heap[1]? =some (.cells (FJ.map fun(k:Nat)=>Value.int .u8 (k:Int)).toArray e fr))->cR RT.se M w v0 (GM (ju L))->(RT.qy n).V M w x v->jk x (deep+1)=0->Spec Tryz.prog 56 #[v0,v] w (λv' w'=>∃M',Lt M' w'∧Step M w M' w' aE/\Own RT.fo 45 M' w' w.heap.size v' (gg (λe=>fy e.1.2 x) 0 L))):
  Spec Tryz.prog 56 #[v0,v] w0 (λv w=>∃M',Lt M' w/\Step M w0 M' w aE/\Own RT.fo 45 M' w w0.heap.size v (gg (λe=>fy e.1.2 q) 0 L)):=by
 have iF:=hM;have hF:=lY eZ;obtain⟨hd6,rD,YG⟩:=PD.1 hm;have hoc:=zj rD;obtain⟨P9,Qa,E9⟩:=tab;have qC:=hv;obtain⟨_,_,_,Xk,sN,_,_⟩:=mO qC;clear qC;refine a8 (args:=[_,_]) (fn:=Tryz.f56) Tryz.func56 G (n:=65) Tryz.ntmps56 ?_;have S:Step M w0 M w0 aE:=aV;refine T.aP ?_;refine fD (A:=RT.qy (n+1)) (a:=q) G G hM hv (eB _) (λu3 Kf jJ j8 _=>?_);replace hv:=hv.le j8.le;replace hs:=hs.le q0 j8.le;replace hM:=j8.lt hM;have:=S.size;replace S:=S.ax j8;refine Rg.bg G G (aN (T.aP ?_));refine ar (A:=RT.qy (n+1)) (B:=RT.int .i64) au G G I3 q0 (QK n) G G (aZ _) jJ cf (λJy nF=>?_);refine b4 ak G G nF cf (λxx=>?_);refine bh (v':= .int .i64 q.kind) G (ad (aY (T.aP (ic G G G (Rg.bg G G ?_)))));refine bF G (λc2=>?_) (λc2=>?_)
 ·refine T.aP (ab G G ?_);refine ar (A:=RT.qy (n+1)) (B:=RT.fd) au G G mi q0 (Jh n) G G (aZ _) jJ cf (λu31 Xp=>?_);refine cv (A:=RT.fd) bK G mi q0 G G G Xp cf (λv32 Xq=>?_);obtain rfl:=kh Xq;refine aQ G G akM (He (t:=q.term) _ hM hs eZ hn sN.1 sN.2) (λr33 w33 hc=>?_);obtain⟨M3,h3l,h3s,h3o⟩:=hc;refine Rg.bg G G (aJ (aM G G ⟨_,h3l,S.ax h3s,?_⟩));rw[show gg (λe=>fy e.1.2 q) 0 L=gg (EU q.term) 0 L from kq λe _=>by rw[xy,if_pos c2];rfl];exact h3o.iJ S.size
 ·refine T.aP (ic G G G (Rg.bg G G ?_));refine bF G (λc4=>?_) (λc4=>?_)
  ·have h5:=hoc.elim (λh=>absurd h.1 c2) λh=>h.elim id λh=>(by omega:False).elim
   refine T.aP (ab G G ?_);refine ar (A:=RT.qy (n+1)) (B:=RT.fd) au G G mi q0 (Jh n) G G (aZ _) jJ cf (λu51 Xd=>?_);refine ar (A:=RT.fd) (B:=RT.str) bK G G I9 q0 KI G G q0 Xd cf (λu52 akT=>?_);refine bP aA G G G G G akT cf (λv53 akU=>?_);obtain rfl:=ep akU;refine ar (A:=RT.qy (n+1)) (B:=(RT.str.sl)) au G G vS q0 (PZ n) G G (aZ _) jJ cf (λu54 XO=>?_);refine bP aD G G G G G XO cf (λv55 XP=>?_);refine aQ G G akN (CA (k:=q.term.1) _ hM hs eZ hn XP sN.1 (λx hx=>Hq (ew.1 h5.2.2.2.2.1 x hx)) h5.2.2.2.1 hV) (λr56 w56 hc=>?_);obtain⟨M5,h5l,h5s,h5o⟩:=hc;refine Rg.bg G G (aJ (aM G G ⟨_,h5l,S.ax h5s,?_⟩));rw[show gg (λe=>fy e.1.2 q) 0 L=gg (qM q.term.1 q.words) 0 L from kq λe _=>by rw[xy,if_neg c2,if_pos c4];rfl];exact h5o.iJ S.size
  ·refine T.aP (ic G G G (Rg.bg G G ?_));refine bF G (λc6=>?_) (λc6=>?_)
   ·have pD:q.kids.length=1:=by omega
    refine T.aP (ab G G ?_);refine ar (A:=RT.qy (n+1)) (B:=((RT.qy n).sl (aZ n))) au G G zn Nat.one_pos (LN n) G G (aZ _) jJ cf (λu71 akV=>?_);refine bP ck G G G G G akV cf (λv72 akW=>?_);obtain⟨x,hx⟩:∃x,q.kids[0]? =some x:=⟨_,an hV⟩;refine cD (A:=RT.qy n) (hn:=aZ _) (M:=M) ck (IQ gP _) G G G akW cf hV (λu73 x_ iU akX=>?_);obtain rfl:=aK (hx.symm.trans iU);refine cv (A:=RT.qy (n)) au G (IQ gP _) (aZ _) (eB _) G G akX cf (λv74 akY=>?_);refine aQ G G YF (ih x (ao hx) _ _ _ hM (λhn=>h0 ((S.mem 1 (ae E9)).1 hn)) ⟨P9,Qa,S.aB E9⟩ hs akY (YG _ (ao hx))) (λr75 w75 hc=>?_);obtain⟨atO,aoi,T4,acQ⟩:=hc;have acR:=acQ.foV hM T4 hn;have Sn:=T4.back;replace hs:=hs.le q0 Sn.le;replace jJ:=jJ.le (aZ _) Sn.le;replace hM:=Sn.lt hM;have:=S.size;replace S:=S.ax Sn;refine ab G G ?_;refine aQ G G abU (JZ _ hs) (λr77 w77 hc=>?_);obtain⟨rfl,rfl⟩:=hc;refine bh (v':= .int .i64 (L.length:Int)) (by show Value.int .i64 (((L.map _).length:Nat):Int)=_;rw[bW]) ?_;refine aQ G G akO (Si hM acR hV h0 ⟨P9,Qa,S.aB E9⟩) (λr78 w78 hc=>?_);obtain⟨M7,h7l,h7s,h7o⟩:=hc;rw[OL]at h7o;refine Rg.bg G G (aJ (aM G G ⟨_,h7l,S.ax h7s,?_⟩))
    rw[show gg (λe=>fy e.1.2 q) 0 L=gg (λe=>RY (fy e.1.2 x)) 0 L from kq λe _=>by
     rw[xy,if_neg c2,if_neg c4,if_neg hV,if_neg hV,show q.kids=[x]from by
      obtain⟨y,hy⟩:=List.length_eq_one_iff.1 pD;rw[hy]at hx;cases hx;exact hy,fe,zR]
     cases fy e.1.2 x<;>rfl]
    exact h7o.iJ S.size
   ·have WK:0<q.kids.length/\q.kids.length<=8:=by omega
    have V8:q.kind=2\/q.kind=3:=by omega
    refine aR (T.aP (ab G G ?_));refine ar (A:=RT.qy (n+1)) (B:=((RT.qy n).sl (aZ n))) au G G zn Nat.one_pos (LN n) G G (aZ _) jJ cf (λu81 Xz=>?_);refine bP ck G G G G G Xz cf (λv82 akZ=>?_);obtain⟨x,hx⟩:∃x,q.kids[0]? =some x:=⟨_,an hV⟩;refine cD (A:=RT.qy n) (hn:=aZ _) (M:=M) ck (IQ gP _) G G G akZ cf hV (λu83 x_ iU ak0=>?_);obtain rfl:=aK (hx.symm.trans iU);refine cv (A:=RT.qy (n)) au G (IQ gP _) (aZ _) (eB _) G G ak0 cf (λv84 ak1=>?_);refine aQ G G YF (ih x (ao hx) _ _ _ hM (λhn=>h0 ((S.mem 1 (ae E9)).1 hn)) ⟨P9,Qa,S.aB E9⟩ hs ak1 (YG _ (ao hx))) (λr85 w85 hc=>?_);obtain⟨atT,acS,PE,ID⟩:=hc;have aok:=ID.foV hM PE hn;have S85:=S.ax PE;replace ID:=ID.iJ (base':=w0.heap.size) S.size;have Sq:=PE.back;replace hs:=hs.le q0 Sq.le;replace jJ:=jJ.le (aZ _) Sq.le;replace hM:=Sq.lt hM;have:=S.size;replace S:=S.ax Sq;refine Rg.bg G G (aN (T.aP ?_));refine ar (A:=RT.qy (n+1)) (B:=((RT.qy n).sl (aZ n))) au G G zn Nat.one_pos (LN n) G G (aZ _) jJ cf (λu90 XM=>?_);refine bP ck G G G G G XM cf (λv91 vG=>?_);refine Rg.nV (A:=RT.qy n) (hn:=aZ _) (M:=M) ck (IQ gP _) G G G vG hV (λu92 mT=>?_);replace mT:((RT.qy n).sl (aZ n)).V M _ (q.kids.drop 1) u92:=mT;refine bN (A:=RT.qy n) (hn:=aZ _) ck G mT G (bh (v':= .int .i64 ((q.kids.length-1:Nat):Int)) (by rw[cN]) (ab G G (ad (aY ?_))));refine dz (σ:=Nat×Value) (λq'=>[(0,v0),(3,u3),(5,q'.2),(44,u92),(45,.int .i64 ((q.kids.length-1:Nat):Int)),(46,.int .i64 (q'.1:Int))]) (λq' w=>q'.1+1<=q.kids.length/\cR RT.se M w v0 (GM (ju L))/\cR (RT.qy (n+1)) M w u3 q/\((RT.qy n).sl (aZ n)).V M w (q.kids.drop 1) u92/\∃M2,Lt M2 w/\Step M w0 M2 w aE/\Own RT.fo 45 M2 w w0.heap.size q'.2 (gg (λe=>pA q.kind ((q.kids.take (q'.1+1)).map (fy e.1.2))) 0 L)) (λq'=>q.kids.length-q'.1) (0,r85) a11 ?_ ?_
    ·exact⟨by dsimp only;omega,hs,jJ,mT,_,acS,S85,by dsimp only;rw[show gg (λe=>pA q.kind ((q.kids.take (0+1)).map (fy e.1.2))) 0 L=gg (λe=>fy e.1.2 x) 0 L from kq λe _=>by rw[bX,hx];exact PA _ _];exact ID⟩
    ·clear hM S hs jJ mT;rintro⟨i,vo⟩ w ⟨hi,hs,jJ,mT,M2,HM,S2,jQ⟩;dsimp only at hi jQ ⊢;have S:=S2.back;have hM:=S.lt iF;have iu:=jQ.foV iF S2 hn;refine T.aP (cy G G G (ad (aN ?_)));refine bF G (λVc=>?_) (λVc=>?_)
     ·refine aR (aN (aY (T.aP ?_)));have Sz:i<(q.kids.drop 1).length:=by rw[cN];omega
      obtain⟨x,Pe⟩:∃x,(q.kids.drop 1)[i]? =some x:=⟨_,an Sz⟩;have hx:q.kids[i+1]? =some x:=by rw[gY,Nat.add_comm]at Pe;exact Pe
      refine cD (A:=RT.qy n) (hn:=aZ _) (M:=M) ck (IQ gP _) G G G mT cf hV (λakJ x_ iU Px=>?_);rw[aw]at iU;obtain rfl:=aK (Pe.symm.trans iU);refine cv (A:=RT.qy (n)) au G (IQ gP _) (aZ _) (eB _) G G Px cf (λakK kI=>?_);obtain⟨xw,xk,rfl,xr,xl,hxw,hxk⟩:=mO (lJ kI);refine ec M gP G (λPF acT aol aom iP wy=>?_);obtain⟨PG,IE⟩:∃M',M'=ins M PF:=⟨_,rfl⟩;rw[<-IE]at wy;have jy:PG PF:=by rw[IE];exact .inl G
      change acT.heap[PF]? =some (.cells #[.int .i64 0,.string ⟨#[]⟩,.string ⟨#[]⟩,.slice none 0 0,.slice none 0 0] _ _)at iP;replace hs:=hs.le q0 wy.le;replace jJ:=jJ.le (aZ _) wy.le;replace mT:=mT.le wy.le;replace iu:=iu.le wy.le;replace kI:=kI.le wy.le;replace hM:=wy.lt hM;have:=S.size;replace S:=S.ax wy;refine cM (M:=PG) (vs:=[.int .i64 x.kind,.string ⟨x.term.1.toArray⟩,.string ⟨x.term.2.toArray⟩,xw,xk]) gP G G (BW hxw hxk) G G iP jy (λatV ak3 CB=>?_);have:=ae iP;replace jy:=(CB.mem _ this).2 jy;replace hs:=hs.le q0 CB.le;replace jJ:=jJ.le (aZ _) CB.le;replace mT:=mT.le CB.le;replace iu:=iu.le CB.le;replace kI:=kI.le CB.le;replace hM:=CB.lt hM;have:=S.size;replace S:=S.trans CB (λk hk h=>by have h:_=_:=h;subst h;first|(exfalso;omega)|(show _<=_;omega)|exact⟨by first|omega|assumption,(S.mem _ hk).1 ((CB.mem _ (ae iP)).1 jy)⟩|exact .inl rfl|exact .inr rfl|exact .inr (.inl rfl)|exact .inr (.inr rfl)|exact .inr (.inr (.inl rfl))|exact rfl);have PH:=ak3;clear iP;have iP:=PH;clear PH;refine ad (T.aP ?_);refine ar (A:=RT.qy (n+1)) (B:=RT.int .i64) au G G I3 q0 (QK n) G G (aZ _) jJ cf (λajE OV=>?_);refine b4 ak G G OV cf (λacU=>?_);refine bh (v':= .int .i64 q.kind) G (ic G G G (ad ?_));refine bF G (λDu=>?_) (λDu=>?_)
      ·refine aL (ab G G (ab G G (eC (vs:=[.int .i64 x.kind,.string ⟨x.term.1.toArray⟩,.string ⟨x.term.2.toArray⟩,xw,xk]) au G gP G G G iP ?_)));refine aQ G G YF (ih x (ao hx) _ _ _ hM (λhn=>h0 ((S.mem 1 (ae E9)).1 hn)) ⟨P9,Qa,S.aB E9⟩ hs kI (YG _ (ao hx))) (λatW atX hc=>?_);obtain⟨aon,ak4,PI,XQ⟩:=hc;have Hr:=XQ.foV hM PI hn;have tW:=PI.back;have:=ae iP;replace jy:=(tW.mem _ this).2 jy;replace iP:=tW.aB iP;replace hs:=hs.le q0 tW.le;replace jJ:=jJ.le (aZ _) tW.le;replace mT:=mT.le tW.le;replace iu:=iu.le tW.le;replace kI:=kI.le tW.le;replace hM:=tW.lt hM;have:=S.size;replace S:=S.ax tW;refine aQ G G E53 (IB hM iu Hr (xz hn) (xz hn) ad9) (λrj wj hc=>?_);obtain⟨Mj,o7,BJ,Sr⟩:=hc;rw[IC (deep:=deep) 2 q0 ⟨λ_=>Du,λ_=>rfl⟩ hx hn hF WK.2 YG]at Sr;have Sj:=S.ax BJ;replace Sr:=Sr.iJ (base':=w0.heap.size) S.size;have sj:=BJ.back;have:=ae iP;replace jy:=(sj.mem _ this).2 jy;replace iP:=sj.aB iP;replace hs:=hs.le q0 sj.le;replace jJ:=jJ.le (aZ _) sj.le;replace mT:=mT.le sj.le;replace iu:=iu.le sj.le;replace kI:=kI.le sj.le;replace Hr:=Hr.le sj.le;replace hM:=sj.lt hM;have:=S.size;replace S:=S.ax sj;refine Rg.bg G G (aL (bB G G G hV (ab G G (ad ?_))));refine⟨G,(i+1,rj),a11,?_,?_⟩
       ·have lc:=nT iF S;exact⟨by dsimp only;omega,hs.le q0 lc,jJ.le (aZ _) lc,mT.le lc,_,o7,Sj,Sr⟩
       ·dsimp only;omega
      ·refine aL (ab G G (ab G G (eC (vs:=[.int .i64 x.kind,.string ⟨x.term.1.toArray⟩,.string ⟨x.term.2.toArray⟩,xw,xk]) au G gP G G G iP ?_)));refine aQ G G YF (ih x (ao hx) _ _ _ hM (λhn=>h0 ((S.mem 1 (ae E9)).1 hn)) ⟨P9,Qa,S.aB E9⟩ hs kI (YG _ (ao hx))) (λakf akg hc=>?_);obtain⟨aoo,ak5,PJ,XR⟩:=hc;have Hs:=XR.foV hM PJ hn;have tX:=PJ.back;have:=ae iP;replace jy:=(tX.mem _ this).2 jy;replace iP:=tX.aB iP;replace hs:=hs.le q0 tX.le;replace jJ:=jJ.le (aZ _) tX.le;replace mT:=mT.le tX.le;replace iu:=iu.le tX.le;replace kI:=kI.le tX.le;replace hM:=tX.lt hM;have:=S.size;replace S:=S.ax tX;refine aQ G G akP (XL hM iu Hs (xz hn) (xz hn) ad9) (λrj wj hc=>?_);obtain⟨Mj,o7,BJ,Sr⟩:=hc;rw[IC (deep:=deep) 1 q0 ⟨λh=>absurd h q0,λh=>absurd h Du⟩ hx hn hF WK.2 YG]at Sr;have Sj:=S.ax BJ;replace Sr:=Sr.iJ (base':=w0.heap.size) S.size;have sj:=BJ.back;have:=ae iP;replace jy:=(sj.mem _ this).2 jy;replace iP:=sj.aB iP;replace hs:=hs.le q0 sj.le;replace jJ:=jJ.le (aZ _) sj.le;replace mT:=mT.le sj.le;replace iu:=iu.le sj.le;replace kI:=kI.le sj.le;replace Hs:=Hs.le sj.le;replace hM:=sj.lt hM;have:=S.size;replace S:=S.ax sj;refine Rg.bg G G (aL (bB G G G hV (ab G G (ad ?_))));refine⟨G,(i+1,rj),a11,?_,?_⟩
       ·have lc:=nT iF S;exact⟨by dsimp only;omega,hs.le q0 lc,jJ.le (aZ _) lc,mT.le lc,_,o7,Sj,Sr⟩
       ·dsimp only;omega
     ·refine cQ (T.aP (ab G G (Rg.bg G G (aJ (aM G G ⟨_,HM,S2,?_⟩)))))
      rw[show gg (λe=>fy e.1.2 q) 0 L=gg (λe=>pA q.kind ((q.kids.take (i+1)).map (fy e.1.2))) 0 L from kq λe _=>by
       rw[xy,if_neg c2,if_neg c4,bD (show q.kids.length<=i+1 by omega)];unfold pA;rcases V8 with h|h
       ·rw[if_pos h,if_pos h]
       ·rw[if_neg (show¬q.kind=2 by omega),if_pos h,if_neg (show¬q.kind=2 by omega)]]
      exact jQ
theorem zE:∀(n:Nat) {M:aH} {L:List En} {q:Qy} {v0 v:Value} {deep:Nat} (w0:World) (hM:Lt M w0) (h0: ¬M 1) (tab:∃e fr,w0.heap[1]? =some (.cells (FJ.map fun(k:Nat)=>Value.int .u8 (k:Int)).toArray e fr)) (hs:cR RT.se M w0 v0 (GM (ju L))) (eZ:wo (-1) L=true) (hn:L.length<=100000) (hv:(RT.qy n).V M w0 q v) (hm:jk q deep=0),Spec Tryz.prog 56 #[v0,v] w0 (λv w=>∃M',Lt M' w/\Step M w0 M' w aE/\Own RT.fo 45 M' w w0.heap.size v (gg (λe=>fy e.1.2 q) 0 L))
 |0,M,L,q,v0,v,deep,w0,hM,h0,tab,hs,eZ,hn,hv,hm=>zD (n:=0) w0 hM h0 tab hs eZ hn (lJ hv) hm λx hx=>by rw[Bw hv]at hx;cases hx
 |n+1,M,L,q,v0,v,deep,w0,hM,h0,tab,hs,eZ,hn,hv,hm=>zD w0 hM h0 tab hs eZ hn hv hm λx hx M w v hM h0 tab hs hv hm=>zE n w hM h0 tab hs eZ hn hv hm
end Go.K
namespace Go.K
open Go.Proofs
namespace TKMMatch
theorem gP:TI Tryz.prog 28 (.agg #[(.int .i64 0),(.string ⟨#[]⟩),(.string ⟨#[]⟩),(.slice none 0 0),(.slice none 0 0)]) 5 88:=by unfold TI;kernel_rfl
theorem E55:Enters Tryz.prog 55:=enters Tryz.func55 rfl q0
theorem YF:Enters Tryz.prog 56:=enters Tryz.func56 rfl q0
end TKMMatch
open TKMMatch
set_option maxRecDepth 10000
theorem wz {M:aH} {n:Nat} {L:List En} {q:Qy} {v0 v:Value} (w0:World) (hM:Lt M w0) (h0: ¬M 1) (tab:∃e fr,w0.heap[1]? =some (.cells (FJ.map fun(k:Nat)=>Value.int .u8 (k:Int)).toArray e fr)) (hs:cR RT.se M w0 v0 (GM (ju L))) (eZ:wo (-1) L=true) (hn:L.length<=100000) (hv:(RT.qy (n+1)).V M w0 q v) (mg:Ha q):
  Spec Tryz.prog 13 #[v0,v] w0 (λv w=>∃M',Lt M' w/\Step M w0 M' w aE/\Own RT.fo 45 M' w w0.heap.size v (if jk q 1=0 then gg (λe=>fy e.1.2 q) 0 L else[])):=by
 have iF:=hM;obtain⟨P9,Qa,E9⟩:=tab;refine a8 (args:=[_,_]) (fn:=Tryz.f13) Tryz.func13 G (n:=11) Tryz.ntmps13 ?_;have S:Step M w0 M w0 aE:=aV;refine T.aP ?_;refine fD (A:=RT.qy (n+1)) (a:=q) G G hM hv (eB _) (λu3 Kf jJ j8 _=>?_);replace hv:=hv.le j8.le;replace hs:=hs.le q0 j8.le;replace hM:=j8.lt hM;have:=S.size;replace S:=S.ax j8;refine Rg.bg G G (aN (T.aP ?_));refine cv (A:=RT.qy (n+1)) au G (IQ gP _) (aZ _) (eB _) G G jJ cf (λv10 sh=>?_);refine aQ G G E55 (Kz (n:=n) _ hM sh mg) (λr11 w11 hc=>?_);obtain⟨rfl,yZ⟩:=hc;replace hs:=hs.le q0 yZ.le;replace jJ:=jJ.le (aZ _) yZ.le;replace hM:=yZ.lt hM;have:=S.size;replace S:=S.ax yZ;refine eW G G G (ad ?_);refine bF G (λc1=>?_) (λc1=>?_)
 ·refine T.aP (Rg.bg G G (aJ (aM G G ⟨M,hM,S,?_⟩)));rw[if_neg (by first|exact c1|omega)];exact eG _ _ _ _ _
 ·have hm:jk q 1=0:=by first|exact cr.1 c1|omega
  refine aR (T.aP (ab G G ?_));refine cv (A:=RT.qy (n+1)) au G (IQ gP _) (aZ _) (eB _) G G jJ cf (λv31 R5=>?_);refine aQ G G YF (zE (n+1) (deep:=1) _ hM (λhn=>h0 ((S.mem 1 (ae E9)).1 hn)) ⟨P9,Qa,S.aB E9⟩ hs eZ hn R5 hm) (λr32 w32 hc=>?_);obtain⟨M3,h3l,h3s,h3o⟩:=hc;refine Rg.bg G G (aJ (aM G G ⟨M3,h3l,S.ax h3s,?_⟩));rw[if_pos hm];exact h3o.iJ S.size
end Go.K
namespace Go.K
abbrev Hd:=Int×Int×Int
def hn (xs:List Hd) (i:Nat):Int:=(xs.getD i (0,0,0)).1
def XS (f:Nat->Nat):Nat->Nat
 |0=>0
 |k+1=>XS f k+f k
def T5 (ls:List (List Int)) (i:Nat):Nat:=(ls.getD i []).length
def uC (ls:List (List Int)):Nat:=XS (T5 ls) ls.length
def rem (ls:List (List Int)) (at_:Nat->Nat):Nat:=XS (λi=>T5 ls i-at_ i) ls.length
abbrev RT.hd:RT Hd:=RT.pair (RT.int .i64) (RT.pair (RT.int .i64) (RT.int .i64))
theorem hd1:Part RT.hd (RT.int .i64) (λh=>h.2.1) 1:=(eV _ _).trans (jz _ _)
theorem hd2:Part RT.hd (RT.int .i64) (λh=>h.2.2) 2:=(eV _ _).trans (eV _ _)
variable {P:Program} {r:Option Nat} {n:Nat} {L:Sl} {ds:List Deferred} {w:World} {K:Kt} {ops:Array Oper} {rest:List Oper} {d:Nat} {x y:Operand} {ty:TypeId} {pos:String} {af:Array Edge} {α:Type} {A:RT α}
theorem Rg.XT {t e:TypeId} {zv:Value} {bytes:Nat} {M:aH} {base g len cap j:Nat} {xs:List α} {a:α} {v:Value} (hA:A.n=1/\A.agg=false) (hi:TI P t zv 1 bytes) (hx:ev L x=some (.pointer (some ⟨g,j,none⟩))) (hy:ev L y=some v) (h:Own A e M w base (.slice (some ⟨g,0,none⟩) len cap) xs) (hj:j<xs.length) (hv:A.V M w a v)
  (k:∀w',Own A e M w' base (.slice (some ⟨g,0,none⟩) len cap) (xs.set j a)->Step M w M w' (λk=>k=g)->Rg P r n ops rest L ds w' K):
  Rg P r n ops ({dst:=none,op:= .store t x y,type:=ty,pos,after:=af,guard:=none}::rest) L ds w K:=by
 obtain⟨vs,mM,hvv⟩:=hv;have hl:=A.len mM;rw[hA.1]at hl
 obtain⟨u,rfl⟩:∃u,vs=[u]:=by
  match vs,hl with
  |[u],_=>exact⟨u,rfl⟩
 have hvu:v=u:=by rw[hvv];unfold RT.val;rw[hA.2];rfl
 subst hvu;have h1:=A.one mM v (by simp);obtain⟨w',hw',ho,hs⟩:=h.setCells hj mM;obtain⟨⟨C,hr,_⟩,hm⟩:=h;rcases hr.2 with⟨h2,_⟩|⟨g',Qk,cur,h2,_,h3,h4,h5,h6,h7⟩
 ·cases h2
 ·simp only[Value.slice.injEq,Option.some.injEq,Addr.mk.injEq]at h2;obtain⟨⟨rfl,_⟩,rfl,rfl⟩:=h2;rw[hA.1]at h6 hw';refine .Uf a04 G G w' (λρ hρ=>?_) (k w' ho hs);subst hw';simp only[execOp,hρ x _ hx,hρ y _ hy];have:=qQ (P:=P) hi (w:=w) (b:=g) (o:=j) (v:=v) h1 (by rw[je h3 (v:=cur[j]' hV) (by simp)];rfl) (by simp[World.frozen?,h3]);simp[this,World.setCells]
end Go.K
namespace Go.K
open Go.Proofs
namespace TKRMay
theorem ak6:Enters Tryz.prog 112:=enters Tryz.func112 rfl q0
end TKRMay
open TKRMay
set_option maxRecDepth 10000
theorem KB {c:Int} (h:0<=c/\c<=1114111): -9223372036854775808<=dZ c/\dZ c<=9223372036854775807:=by unfold dZ;split<;>omega
theorem KC (l:List UInt8):∀c∈dC l,0<=c/\c<=1114111:=by
 have key:∀n (l:List UInt8),l.length=n->∀c∈dC l,0<=c/\c<=1114111:=by
  intro n
  induction n using Nat.strongRecOn with
  |_ n ih=>
   intro l hn c hc;by_cases hl:l=[]
   ·subst hl;rw[lg]at hc;cases hc
   ·have hw:=ji hl;rw[ke hl]at hc;rcases cY.1 hc with rfl|hc
    ·have:=qo l;omega
    ·exact ih _ (by rw[cN];omega) _ rfl c hc
 exact key _ l G
def qh (sg:List Int) (k:Nat):List Int:=(sg.take k).map dZ++sg.drop k
theorem qz (sg:List Int) (k:Nat):(qh sg k).length=sg.length:=by unfold qh;simp;omega
theorem PK {sg:List Int} {k:Nat} {c:Int} (h:sg[k]? =some c):(qh sg k)[k]? =some c:=by
 have hk:=(al.1 h).1;unfold qh;rw[jq a08,bW,a7,xA hV,Nat.sub_self,gY,Nat.add_zero,h]
theorem Ht {sg:List Int} {k:Nat} {c:Int} (h:sg[k]? =some c):(qh sg k).set k (dZ c)=qh sg (k+1):=by
 have hk:=(al.1 h).1;have h1:((sg.take k).map dZ).length=k:=by rw[bW,a7];omega
 unfold qh;rw[List.set_append_right _ _ hV,h1,Nat.sub_self,eR hk,List.set_cons_zero,bX,h];simp
theorem KD {sg:List Int} {k:Nat} (h:sg.length<=k):qh sg k=sg.map dZ:=by
 unfold qh;rw[bD h,iV h,fz]
theorem Fa {M:aH} {l:List UInt8} (w0:World) (hM:Lt M w0) (hl:l.length<=3900000):
  Spec Tryz.prog 112 #[.string ⟨l.toArray⟩] w0 (λv w=>v= .string ⟨(gL ((dC l).map dZ)).toArray⟩/\Step M w0 M w aE):=by
 have iF:=hM;have sx:=gF l;refine a8 (args:=[_]) (fn:=Tryz.f112) Tryz.func112 G (n:=23) Tryz.ntmps112 ?_;have S:Step M w0 M w0 aE:=aV;refine T.aP (Rg.bg G G (T.aP (ab G G ?_)));refine aQ G G UY (ym _ hM hV) (λvs ws hc=>?_);obtain⟨M1,oG,S1,ho⟩:=hc;refine Rg.bg G G (aN (T.aP (Rg.bg G G (aY ?_))));refine dz (σ:=Nat×Value) (λq=>[(3,q.2),(4,.int .i64 (q.1:Int))]) (λq w=>q.1<=(dC l).length/\∃M1,Lt M1 w/\Step M w0 M1 w aE/\Own (RT.int .i64) 3 M1 w w0.heap.size q.2 (qh (dC l) q.1)) (λq=>(dC l).length-q.1) (0,vs) a73 ?_ ?_
 ·exact⟨bm _,M1,oG,S1,by unfold qh;simpa using ho⟩
 ·clear oG S1 ho S hM;rintro⟨k,u⟩ w ⟨hk,M1,oG,S1,ho⟩;dsimp only at hk ho ⊢;refine aN (T.aP (ab G G (ab G G (iQ av G ho G (bh (v':= .int .i64 ((dC l).length:Int)) (by rw[qz]) (cy G G G (ad ?_)))))));refine bF G (λc3=>?_) (λc3=>?_)
  ·refine aR (aN (aY (aL (ab G G (ab G G (ab G G (ab G G ?_)))))));obtain⟨c,hc⟩:∃c,(dC l)[k]? =some c:=⟨_,an hV⟩;have hcr:=KC l c (ao hc);have hck:=PK hc;refine Rg.aaB av I3 q0 rfl rfl rfl ho (by rw[qz];omega) (λu54 x_ iU XO=>?_);rw[aw]at iU;obtain rfl:=aK (hck.symm.trans iU);refine Rg.aaC ak G G G G G XO (λv55 XP=>?_);obtain⟨rfl,_⟩:=KY.1 XP;refine aQ G G Zp (yg c _ hcr) (λr56 w56 hc=>?_);obtain⟨rfl,rfl⟩:=hc;obtain⟨g,cap,_,rfl,hmg,_,_⟩:=ho.elem q0 hck;refine Rg.BP av I3 rfl rfl rfl (by rw[qz];omega) ?_;refine Rg.XT (M:=M1) (a:=dZ c) ⟨rfl,rfl⟩ I3 rfl rfl ho (by rw[aw,qz];omega) (gV (KB hcr)) (λw6 yK s6=>?_);rw[aw,Ht hc]at yK;refine ad (aL (ab G G (bB G G G hV (Rg.bg G G ?_))));refine⟨G,(k+1,_),a73,?_,?_⟩
   ·exact⟨by dsimp only;omega,M1,s6.lt oG,S1.ch s6 (λb hb=>by have hb:b=g:=hb;have:=(ho.base g rfl).1;omega),yK⟩
   ·dsimp only;omega
  ·refine cQ (T.aP (ab G G ?_));rw[KD hV]at ho;refine aQ G G U1 (rR (M:=rm M1 u) _ (λb hb=>oG b hb.1) (ho.view (by rw[bW];omega)) (by rw[bW];omega)) (λr6 w6 hc=>?_);obtain⟨rfl,s6⟩:=hc;refine Rg.bg G G (aJ ?_);exact aM G G ⟨G,S1.back.ax (s6.any M)⟩
theorem oP {M:aH} {l:List UInt8} (w0:World) (hM:Lt M w0) (hl:l.length<=3900000):
  Spec Tryz.prog 59 #[.string ⟨l.toArray⟩] w0 (λv w=>v= .bool (cL l)/\Step M w0 M w aE):=by
 have iF:=hM;have sx:=gF l;refine a8 (args:=[_]) (fn:=Tryz.f59) Tryz.func59 G (n:=35) Tryz.ntmps59 ?_;have S:Step M w0 M w0 aE:=aV;refine T.aP (Rg.bg G G (T.aP (ab G G ?_)));refine aQ G G UY (vV _ hM hV) (λr1 w1 hc=>?_);obtain⟨hr,s1⟩:=hc;replace hM:=s1.lt hM;have:=S.size;replace S:=S.ax s1;refine Rg.bg G G (aN (T.aP (ab G G (bN av G hr G (ic G G G (ab G G ?_))))));refine aO (g:=11) G (λR4=>?_) (λR4=>?_)
 ·refine aj G G G G (aj G G G G (aj G G G G (aU G G G (ab G G (aj G G G G (aj G G G G (aj G G G G (aj G G G G (aU G G G (ad (kJ G ?_)))))))))));refine T.aP (Rg.bg G G (aJ ?_))
  first
  |exact aM rfl rfl ⟨congrArg Value.bool ai6,S⟩
  |exact aM rfl rfl ⟨congrArg Value.bool (by rw[gS];rintro⟨_,h,_⟩;omega),S⟩
  |exact aM rfl rfl ⟨congrArg Value.bool aj9,S⟩
 ·refine ah G G (ab G G (ah G G (rp aA G G (bh (v':= .int .i64 (l.length:Int)) a71 (ah G G (fU G G G (az G G G (ab G G ?_))))))));refine aO (g:=16) G (λWT=>?_) (λWT=>?_)
  ·refine aj G G G G (aj G G G G (aj G G G G (aj G G G G (aU G G G (ad (kJ G (T.aP (Rg.bg G G (aJ ?_)))))))))
   first
   |exact aM rfl rfl ⟨congrArg Value.bool ai6,S⟩
   |exact aM rfl rfl ⟨congrArg Value.bool (by rw[gS];rintro⟨_,h,_⟩;omega),S⟩
   |exact aM rfl rfl ⟨congrArg Value.bool aj9,S⟩
  ·refine ah G G (ab G G (ah G G ?_));refine aQ G G ak6 (Fa _ hM hl) (λat1 at2 hc=>?_);obtain⟨rfl,XU⟩:=hc;replace hr:=hr.le XU.le;replace hM:=XU.lt hM;have:=S.size;replace S:=S.ax XU;refine ah G G (ab G G (ah G G (Rg.Hz G G G (az G G G (ad ?_)))));refine bF G (λc2=>?_) (λc2=>?_)
   ·refine T.aP (Rg.bg G G (aJ ?_))
    first
    |exact aM rfl rfl ⟨congrArg Value.bool ai6,S⟩
    |exact aM rfl rfl ⟨congrArg Value.bool (by rw[gS];rintro⟨_,h,_⟩;omega),S⟩
    |exact aM rfl rfl ⟨congrArg Value.bool aj9,S⟩
   ·have hf:dC l≠[]/\l.length<=30/\gL ((dC l).map dZ)=l:=by
     first
     |exact⟨λe=>R4 (by rw[e];rfl),by omega,cr.1 c2⟩
     |(exfalso;exact c2 trivial)
     |(exfalso;exact c2 G)
    refine aR (aN (T.aP (Rg.bg G G (aY ?_))));refine dz (σ:=Nat) (λk=>[(3,r1),(4,.int .i64 (k:Int))]) (λk w=>k<=(dC l).length/\Lt M w/\Step M w0 M w aE/\((RT.int .i64).sl).V M w (dC l) r1/\∀(j:Nat) c,j<k->(dC l)[j]? =some c->ot c=true) (λk=>(dC l).length-k) 0 a73 ?_ ?_
    ·exact⟨bm _,hM,S,hr,λj c h=>absurd h (fB _)⟩
    ·clear hM S hr;rintro k w ⟨hk,hM,S,hr,ie⟩;refine aN (T.aP (ab G G (ab G G (bN av G hr G (cy G G G (ad ?_))))));refine bF G (λc5=>?_) (λc5=>?_)
     ·refine aR (aN (aY (T.aP (ab G G (ab G G ?_)))));obtain⟨c,hc⟩:∃c,(dC l)[k]? =some c:=⟨_,an hV⟩;refine cD av I3 G G G hr cf hV (λu72 x_ iU ak7=>?_);rw[aw]at iU;obtain rfl:=aK (hc.symm.trans iU);refine b4 ak G G ak7 cf (λkO=>?_);refine aQ G G UZ (yh c _) (λr wc hc=>?_);obtain⟨rfl,rfl⟩:=hc;refine Rg.bg rfl rfl (T.aP (ab rfl rfl (iv rfl rfl (bh (v':= .bool (decide (ot c=false))) (by cases ot c<;>rfl) (ad ?_)))));refine bF G (λc8=>?_) (λc8=>?_)
      ·refine T.aP (Rg.bg G G (aJ ?_));exact aM rfl rfl ⟨congrArg Value.bool (by rw[gS];rintro⟨_,_,_,h⟩;have:=h c (ao hc);rw[c8]at this;cases this),S⟩
      ·refine aR (aL (ab G G (bB G G G hV (Rg.bg G G ?_))));refine⟨G,k+1,a73,?_,?_⟩
       ·refine ⟨by omega,hM,S,hr,λj x hj hx=> ?_⟩;rcases cK j k with h|h
        ·exact ie j x h hx
        ·obtain rfl:j=k:=by omega
         rw[hc]at hx;cases hx;simpa using c8
       ·omega
     ·refine cQ (T.aP (Rg.bg G G (aJ ?_)));exact aM rfl rfl ⟨congrArg Value.bool ((zq l).2 ⟨hf.1,hf.2.1,hf.2.2,λc hc=>by obtain⟨j,hj⟩:=bO.1 hc;exact ie j c (by have:=(al.1 hj).1;omega) hj⟩).symm,S⟩
end Go.K
namespace Go.K
open Go.Proofs
namespace TKR12A
theorem zn:TI Tryz.prog 26 (.slice none 0 0) 1 24:=by unfold TI;kernel_rfl
theorem gP:TI Tryz.prog 28 (.agg #[(.int .i64 0),(.string ⟨#[]⟩),(.string ⟨#[]⟩),(.slice none 0 0),(.slice none 0 0)]) 5 88:=by unfold TI;kernel_rfl
theorem E59:Enters Tryz.prog 59:=enters Tryz.func59 rfl q0
end TKR12A
open TKR12A
set_option maxRecDepth 10000
end Go.K
namespace Go.K
open Go.Proofs
namespace TKR12B
theorem zn:TI Tryz.prog 26 (.slice none 0 0) 1 24:=by unfold TI;kernel_rfl
theorem gP:TI Tryz.prog 28 (.agg #[(.int .i64 0),(.string ⟨#[]⟩),(.string ⟨#[]⟩),(.slice none 0 0),(.slice none 0 0)]) 5 88:=by unfold TI;kernel_rfl
end TKR12B
open TKR12B
set_option maxRecDepth 10000
end Go.K
namespace Go.K
open Go.Proofs
namespace TKR13M
theorem gP:TI Tryz.prog 28 (.agg #[(.int .i64 0),(.string ⟨#[]⟩),(.string ⟨#[]⟩),(.slice none 0 0),(.slice none 0 0)]) 5 88:=by unfold TI;kernel_rfl
theorem nc:TI Tryz.prog 45 (.agg #[(.int .i64 0),(.int .i64 0)]) 2 16:=by unfold TI;kernel_rfl
theorem Iy:placesOf Tryz.prog 45=[(0,1),(1,1)].map some:=by kernel_rfl
end TKR13M
open TKR13M
set_option maxRecDepth 10000
end Go.K
namespace Go.K
open Go.Proofs
namespace TKRef13
theorem nc:TI Tryz.prog 45 (.agg #[(.int .i64 0),(.int .i64 0)]) 2 16:=by unfold TI;kernel_rfl
theorem Iy:placesOf Tryz.prog 45=[(0,1),(1,1)].map some:=by kernel_rfl
end TKRef13
open TKRef13
set_option maxRecDepth 10000
end Go.K
namespace Go.K
open Go.Proofs
namespace TKLaw13
theorem nc:TI Tryz.prog 45 (.agg #[(.int .i64 0),(.int .i64 0)]) 2 16:=by unfold TI;kernel_rfl
theorem Iy:placesOf Tryz.prog 45=[(0,1),(1,1)].map some:=by kernel_rfl
theorem E53:Enters Tryz.prog 53:=enters Tryz.func53 rfl q0
theorem E54:Enters Tryz.prog 54:=enters Tryz.func54 rfl q0
end TKLaw13
open TKLaw13
set_option maxRecDepth 10000
theorem CC {M:aH} {w0:World} (hM:Lt M w0):
  Spec Tryz.prog 12 #[] w0 (λv' w'=>v'= .bool true/\Step M w0 M w' aE):=by
 refine a8 (args:=[]) (fn:=Tryz.f12) Tryz.func12 rfl (n:=25) Tryz.ntmps12 (T.aP (Rg.bg rfl rfl (T.aP (dg (places:=[(0,1),(1,1)]) dB nc Iy rfl ⟨_,_,rfl,rfl,_,_,rfl,rfl,rfl⟩ (out:=[_,_]) ⟨0,[_],rfl,rfl,by simp[Value.cells],1,[_],rfl,rfl,by simp[Value.cells],rfl⟩ (dg (places:=[(0,1),(1,1)]) dB nc Iy rfl ⟨_,_,rfl,rfl,_,_,rfl,rfl,rfl⟩ (out:=[_,_]) ⟨0,[_],rfl,rfl,by simp[Value.cells],1,[_],rfl,rfl,by simp[Value.cells],rfl⟩ ?_)))));refine Rg.K3 (A:=RT.fo) (hn:=by decide) (M:=M) (xs:=[(1,2),(3,1)]) aS nc G q0 G ⟨_,_,_,G,G,G,FK (a:=1) (b:=2) hV hV,_,_,_,G,G,G,FK (a:=3) (b:=1) hV hV,G⟩ G hM (.inl G) q0 (λu1 w1 k8 s1=>?_);have oG:=s1.lt hM;refine dg (places:=[(0,1),(1,1)]) dB nc Iy rfl ⟨_,_,rfl,rfl,_,_,rfl,rfl,rfl⟩ (out:=[_,_]) ⟨0,[_],rfl,rfl,by simp[Value.cells],1,[_],rfl,rfl,by simp[Value.cells],rfl⟩ ?_;refine fp (A:=RT.fo) (hn:=by decide) (M:=M) aS nc q0 G G oG (FK (a:=3) (b:=4) hV hV) (.inl G) (λu2 w2 eS s2=>?_);have HM:=s2.lt oG;refine aQ G G E53 (Pw HM (k8.le s2.le) eS (by intro p hp;simp at hp;rcases hp with rfl|rfl<;>decide) (by intro p hp;simp at hp;subst hp;decide) q0) (λu3 w3 h=>?_);obtain⟨h3,s3⟩:=h;have NU:=s3.lt HM
 replace h3:((RT.fo).sl).V M w3 [(3,5)] u3:=by
  have e:CN 2 [(1,2),(3,1)] [(3,4)]=[(3,5)]:=by decide
  rw[<-e];exact h3
 refine Rg.bg G G (T.aP (ab G G (bN aS G h3 G (ic G G G (ab G G (Rg.KX (g:=11) G (G) (ah G G (ab G G (ah G G ?_)))))))));have hl1:([((3:Int),(5:Int))]:List Fo).length=1:=rfl;refine cD aS nc G G G (h3) cf a42 (λat3 ak8 acW acX=>?_);obtain rfl:((3:Int),(5:Int))=ak8:=dJ (aK (acW.symm.trans rfl));refine ah G G ?_;refine cv (A:=RT.fo) dB G nc q0 G G G acX cf (λv26 Xm=>?_);obtain rfl:=W7 Xm;refine ah rfl rfl (dg (places:=[(0,1),(1,1)]) dB nc Iy rfl ⟨_,_,rfl,rfl,_,_,rfl,rfl,rfl⟩ (out:=[_,_]) ⟨0,[_],rfl,rfl,by simp[Value.cells],1,[_],rfl,rfl,by simp[Value.cells],rfl⟩ (ah rfl rfl (Rg.abX (c:=true) (λw=>by kernel_rfl) (λw=>by kernel_rfl) G G G (bh (v':= .bool (decide True)) (by simp) (aU G G G (ab G G (Rg.KX (g:=18) G (trivial) (ah G G ?_))))))));refine Rg.K3 (A:=RT.int .i64) (hn:=by decide) (M:=M) (xs:=[0,4]) av I3 G q0 G ⟨0,[4],_,G,G,G,gV hV,4,[],_,G,G,G,gV hV,G⟩ G NU (.inr ⟨G,G⟩) q0 (λu4 w4 KJ s4=>?_);have TG:=s4.lt NU;refine ah G G ?_;refine fp (A:=RT.int .i64) (hn:=by decide) (M:=M) av I3 q0 G G TG (gV (x:=1) hV) (.inr ⟨G,G⟩) (λu5 w5 wL s5=>?_);have XG:=s5.lt TG;refine ah G G ?_;refine Rg.K3 (A:=(RT.int .i64).sl) (hn:=by decide) (M:=M) (xs:=[[0,4],[1]]) gp pb G q0 G ⟨_,_,_,G,G,G,KJ.le s5.le,_,_,_,G,G,G,wL,G⟩ G XG (.inr ⟨G,G⟩) q0 (λu6 w6 kZ s6=>?_);refine ah G G ?_;refine aQ G G E54 (Br kZ (by intro l hl;simp at hl;rcases hl with rfl|rfl<;>exact⟨by decide,by decide,by decide⟩) q0) (λr w h=>?_);obtain⟨rfl,rfl⟩:=h
 refine bh (v':= .int .i64 1) (congrArg (Value.int .i64) (show((Ip [[0,4],[1]]:Nat):Int)=1 by decide)) (ah G G (ic G G G (aU G G G (Rg.bg G G (aJ ?_)))));exact aM G G ⟨G,(((((s1.ax s2).ax s3).ax s4).ax s5).ax s6)⟩
end Go.K
namespace Go.K
open Go.Proofs
namespace TKRefuses13
theorem zn:TI Tryz.prog 26 (.slice none 0 0) 1 24:=by unfold TI;kernel_rfl
theorem gP:TI Tryz.prog 28 (.agg #[(.int .i64 0),(.string ⟨#[]⟩),(.string ⟨#[]⟩),(.slice none 0 0),(.slice none 0 0)]) 5 88:=by unfold TI;kernel_rfl
theorem E10:Enters Tryz.prog 10:=enters Tryz.func10 rfl q0
theorem E11:Enters Tryz.prog 11:=enters Tryz.func11 rfl q0
theorem E12:Enters Tryz.prog 12:=enters Tryz.func12 rfl q0
theorem E13:Enters Tryz.prog 13:=enters Tryz.func13 rfl q0
end TKRefuses13
open TKRefuses13
set_option maxRecDepth 10000
theorem zF {L:List En} {q:Qy} (h:L.length<=100000):(if jk q 1=0 then gg (λe=>fy e.1.2 q) 0 L else[]).length<=140737488355328:=by
 split
 ·have:=ky (f:=λe=>fy e.1.2 q) L 0;omega
 ·exact bm _
end Go.K
namespace Go.K
open Go.Proofs
namespace TKR12C
theorem zn:TI Tryz.prog 26 (.slice none 0 0) 1 24:=by unfold TI;kernel_rfl
theorem gP:TI Tryz.prog 28 (.agg #[(.int .i64 0),(.string ⟨#[]⟩),(.string ⟨#[]⟩),(.slice none 0 0),(.slice none 0 0)]) 5 88:=by unfold TI;kernel_rfl
theorem R3:placesOf Tryz.prog 28=[(0,1),(1,2),(3,1),(4,1)].map some:=by kernel_rfl
theorem E17:Enters Tryz.prog 17:=enters Tryz.func17 rfl q0
theorem E59:Enters Tryz.prog 59:=enters Tryz.func59 rfl q0
end TKR12C
open TKR12C
set_option maxRecDepth 10000
theorem l2 (q:Qy) (deep:Nat):fh q deep=if(2<=fu q.kind/\fu q.kind<=4)/\deep<4/\¬q.kids=[]then .mk (fu q.kind) ([],[]) [] ((q.kids.map λx=>fh x (deep+1)).take (if fu q.kind=4 then 1 else 3))else if fu q.kind=5/\¬jv q.words=[]then .mk 5 (eP q.term.1,[]) (jv q.words) []else Iu q.term:=by
 obtain⟨k,t,ws,ks⟩:=q;rw[fh,sm];rfl
theorem Fb {M:aH} {w:World} {q:Qy} {v:Value} {mm:Nat} (h:(RT.qy 0).V M w q v):(RT.qy mm).V M w q v:=by have:=LM h mm;rwa [nd]at this
theorem KU {p:Prop} [Decidable p] (h: ¬p):some (Value.bool false)=some (Value.bool (decide p)):=by rw[decide_eq_false h]
theorem J9y {a b c:Prop} [Decidable a] [Decidable b] [Decidable c] (h:a) (h2:b):some (Value.bool (decide c))=some (Value.bool (decide (a/\b/\c))):=congrArg _ (congrArg _ (decide_eq_decide.2 ⟨λx=>⟨h,h2,x⟩,λx=>x.2.2⟩))
theorem Ss (k:Int):0<=Ct k/\1+Ct k%5=fu k:=⟨by unfold Ct;split<;>omega,rfl⟩
theorem zG {M:aH} {n:Nat} {q:Qy} {v:Value} {deep mm:Nat} (w0:World) (hM:Lt M w0) (hv:(RT.qy (n+1)).V M w0 q v) (hs:Ha q) (hd:deep<=4) (ih:deep<4->∃m',mm=m'+1/\∀x∈q.kids,∀(IF:Nat) (M:aH) (w:World) (v:Value),IF=deep+1->Lt M w->(RT.qy n).V M w x v->Spec Tryz.prog 17 #[v,.int .i64 (IF:Int)] w (λv' w'=>(RT.qy m').V M w' (fh x IF) v'∧Step M w M w' aE)):
  Spec Tryz.prog 17 #[v,.int .i64 (deep:Int)] w0 (λv w=>(RT.qy mm).V M w (fh q deep) v/\Step M w0 M w aE):=by
 have iF:=hM;obtain⟨SF,hsk⟩:=YB.1 hs;have qC:=hv;obtain⟨_,_,_,Xk,sN,_,_⟩:=mO qC;clear qC;have hkg:=Bm q.kind;have Kw:=Ss q.kind;have zP:(eP q.term.1).length<=140737488355328:=by unfold eP;split;exact sN.1;decide
 have XV:(if cL q.term.2=true then q.term.2 else[97]).length<=140737488355328:=by split;exact sN.2;decide
 have hct:(if fu q.kind=4 then 1 else 3)<=3:=by split<;>decide
 have nj:([]:List UInt8).length<=140737488355328:=by decide
 refine a8 (args:=[_,_]) (fn:=Tryz.f17) Tryz.func17 G (n:=128) Tryz.ntmps17 ?_;have S:Step M w0 M w0 aE:=aV;refine T.aP ?_;refine fD (A:=RT.qy (n+1)) (a:=q) G G hM hv (eB _) (λu2 Kf eS j8 _=>?_);replace hv:=hv.le j8.le;replace hM:=j8.lt hM;have:=S.size;replace S:=S.ax j8;refine ec M gP G (λfW rX F8 F9 cw ib=>?_);obtain⟨eU,gr⟩:∃M',M'=ins M fW:=⟨_,rfl⟩;rw[<-gr]at ib;have bV:eU fW:=by rw[gr];exact .inl G
 change rX.heap[fW]? =some (.cells #[.int .i64 0,.string ⟨#[]⟩,.string ⟨#[]⟩,.slice none 0 0,.slice none 0 0] _ _)at cw;replace eS:=eS.le (aZ _) ib.le;replace hM:=ib.lt hM;have:=S.size;replace S:=S.ax ib;refine ad (T.aP ?_);refine ar (A:=RT.qy (n+1)) (B:=RT.fd) au G G mi q0 (Jh n) G G (aZ _) eS cf (λJy nF=>?_);refine ar (A:=RT.fd) (B:=RT.str) bK G G I9 q0 KI G G q0 nF cf (λu11 O1=>?_);refine bP aA G G G G G O1 cf (λv12 O2=>?_);obtain rfl:=ep O2;refine Rg.bg G G (T.aP (ab G G ?_));refine aQ G G E58 (rU q.term.1 sN.1 _) (λr21 w21 hc=>?_);obtain⟨rfl,rfl⟩:=hc;refine Rg.bg G G ?_;refine T.kW [(1,.int .i64 (deep:Int)),(2,u2),(4,.pointer (some ⟨fW,0,none⟩)),(5,sv (eP q.term.1))] ?_ ?_
 ·refine T.aP (ab rfl rfl (iv rfl rfl (bh (v':= .bool (decide (eA q.term.1=false))) (by cases eA q.term.1<;>rfl) (ad ?_))));refine bF G (λc3=>?_) (λc3=>?_)
  ·refine aL (Rg.bg G G ?_);exact⟨G,G,G,.cons G ab1⟩
  ·refine aR ?_;exact⟨G,G,G,.cons G ab1⟩
 ·refine T.aP ?_;refine ar (A:=RT.qy (n+1)) (B:=RT.int .i64) au G G I3 q0 (QK n) G G (aZ _) eS cf (λu50 Xr=>?_);refine b4 ak G G Xr cf (λaew=>?_);refine bh (v':= .int .i64 q.kind) G (Rg.bg G G ?_);refine T.kW [(1,.int .i64 (deep:Int)),(2,u2),(4,.pointer (some ⟨fW,0,none⟩)),(5,sv (eP q.term.1)),(7,.int .i64 (Ct q.kind))] ?_ ?_
  ·refine T.aP (ab G G (cy G G G (ad ?_)));refine bF G (λc6=>?_) (λc6=>?_)
   ·refine aL (ab G G (bB G G G hV (Rg.neg G G hV (Rg.bg G G ?_))));exact⟨G,G,G,.cons G (.cons G (.cons G (.cons G (.cons (congrArg (λz=>some (Value.int .i64 z)) (by unfold Ct;first|rw[if_pos c6]|rw[if_neg c6])) (.nil)))))⟩
   ·refine aR ?_;exact⟨G,G,G,.cons G (.cons G (.cons G (.cons G (.cons (congrArg (λz=>some (Value.int .i64 z)) (by unfold Ct;first|rw[if_pos c6]|rw[if_neg c6])) (.nil)))))⟩
  ·refine T.aP (ab rfl rfl (Rg.wJ rfl rfl rfl ⟨Kw.1,by decide⟩ (bB rfl rfl rfl hV (bh (v':= .int .i64 (fu q.kind)) G (Rg.bg G G (aN ?_))))));refine T.kW [(1,.int .i64 (deep:Int)),(2,u2),(4,.pointer (some ⟨fW,0,none⟩)),(5,sv (eP q.term.1)),(7,.int .i64 (fu q.kind)),(48,.bool (decide ((2<=fu q.kind/\fu q.kind<=4)/\(deep:Int)<4/\0<(q.kids.length:Int))))] ?_ ?_
   ·refine aL (ab G G (ed G G G (ab G G ?_)));refine aO (g:=35) G (λoH=>?_) (λoH=>?_)
    ·refine ah G G (ab G G (ah G G (fQ G G G (aU G G G (ab G G ?_)))));refine aO (g:=39) G (λCD=>?_) (λCD=>?_)
     ·refine ah G G (ab G G (ah G G (cy G G G (aU G G G (ab G G ?_)))));refine aO (g:=43) G (λtY=>?_) (λtY=>?_)
      ·refine ah G G ?_;refine ar (A:=RT.qy (n+1)) (B:=((RT.qy n).sl (aZ n))) au G G zn Nat.one_pos (LN n) G G (aZ _) eS cf (λat6 acY=>?_);refine ah G G ?_;refine bP ck G G G G G acY cf (λat7 T6=>?_);refine ah G G ?_;have Fs:=dQ T6;refine bN (A:=RT.qy n) (hn:=aZ _) ck G T6 G (ah G G (fU G G G (aU G G G (ad ?_))));exact⟨G,G,G,.cons G a16⟩
      ·refine aj G G G G (aj G G G G (aj G G G G (aj G G G G (az G G G (ad ?_)))));exact⟨G,G,G,.cons G a16⟩
     ·refine aj G G G G (aj G G G G (az G G G (ab G G (aj G G G G (aj G G G G (aj G G G G (aj G G G G (az G G G (ad ?_)))))))));exact⟨G,G,G,.cons G a16⟩
    ·refine aj G G G G (aj G G G G (az G G G (ab G G (aj G G G G (aj G G G G (az G G G (ab G G (aj G G G G (aj G G G G (aj G G G G (aj G G G G ?_)))))))))));refine az G G G (ad ?_);exact⟨G,G,G,.cons G a16⟩
   ·refine bF G (λc9=>?_) (λc9=>?_)
    ·obtain⟨m,rfl,ihk⟩:=ih hV;have Ys: ¬q.kids=[]:=λe=>by rw[e]at c9;simp at c9
     refine T.aP (ab rfl rfl (dg (places:=[(0,1),(1,2),(3,1),(4,1)]) au gP R3 rfl ⟨_,_,rfl,rfl,rfl⟩ (out:=[_,.string ⟨#[]⟩,.string ⟨#[]⟩,.slice none 0 0,.slice none 0 0]) ⟨0,[_],rfl,rfl,by simp[Value.cells],rfl⟩ ?_));refine ec eU gP G (λwC TE aot aou wF tG=>?_);obtain⟨PL,IG⟩:∃M',M'=ins eU wC:=⟨_,rfl⟩;rw[<-IG]at tG;have tZ:PL wC:=by rw[IG];exact .inl G
     change TE.heap[wC]? =some (.cells #[.int .i64 0,.string ⟨#[]⟩,.string ⟨#[]⟩,.slice none 0 0,.slice none 0 0] _ _)at wF;have:=ae cw;replace bV:=(tG.mem _ this).2 bV;replace cw:=tG.aB cw;replace eS:=eS.le (aZ _) tG.le;replace hM:=tG.lt hM;have:=S.size;replace S:=S.ax tG;refine cM (M:=PL) (vs:=[.int .i64 (fu q.kind),.string ⟨#[]⟩,.string ⟨#[]⟩,.slice none 0 0,.slice none 0 0]) gP G G a68 rfl rfl wF tZ (λw10 g10 rV=>?_);have:=ae cw;replace bV:=(rV.mem _ this).2 bV;replace cw:=rV.bR cw a03;have:=ae wF;replace tZ:=(rV.mem _ this).2 tZ;replace eS:=eS.le (aZ _) rV.le;replace hM:=rV.lt hM;have:=S.size;replace S:=S.trans rV (λk hk h=>by have h:_=_:=h;subst h;first|(exfalso;omega)|(show _<=_;omega)|exact⟨by first|omega|assumption,(S.mem _ hk).1 ((rV.mem _ (ae wF)).1 tZ)⟩|exact .inl rfl|exact .inr rfl|exact .inr (.inl rfl)|exact .inr (.inr rfl)|exact .inr (.inr (.inl rfl))|exact rfl);have PM:=g10;clear wF;have wF:=PM;clear PM;refine ad (T.aP ?_);obtain⟨B,hBe⟩:∃B,B=w10.heap.size:=⟨_,rfl⟩;have vH:fW<B/\wC<B/\w0.heap.size<=B:=⟨by have:=ae cw;omega,by have:=ae wF;omega,by have:=S.size;omega⟩;refine Rg.bg G G ?_;refine T.kW [(1,.int .i64 (deep:Int)),(2,u2),(4,.pointer (some ⟨fW,0,none⟩)),(8,.pointer (some ⟨wC,0,none⟩)),(9,.int .i64 ((if fu q.kind=4 then 1 else 3:Nat):Int))] ?_ ?_
     ·refine T.aP (ab G G (ic G G G (ad ?_)));refine bF G (λDu=>?_) (λDu=>?_)
      ·refine aL (Rg.bg G G ?_);exact⟨G,G,G,.cons G (.cons G (.cons G (.cons G (.cons (congrArg (λz:Nat=>some (Value.int .i64 (z:Int))) (by first|rw[if_pos Du]|rw[if_neg Du])) (.nil)))))⟩
      ·refine aR ?_;exact⟨G,G,G,.cons G (.cons G (.cons G (.cons G (.cons (congrArg (λz:Nat=>some (Value.int .i64 (z:Int))) (by first|rw[if_pos Du]|rw[if_neg Du])) (.nil)))))⟩
     ·refine aN (T.aP (Rg.bg G G (aY ?_)));refine dz (σ:=Nat×Value) (λq'=>[(1,.int .i64 (deep:Int)),(2,u2),(4,.pointer (some ⟨fW,0,none⟩)),(8,.pointer (some ⟨wC,0,none⟩)),(9,.int .i64 ((if fu q.kind=4 then 1 else 3:Nat):Int)),(10,.int .i64 (q'.1:Int))]) (λq' w=>∃M',Lt M' w/\Step M w0 M' w aE/\cR (RT.qy (n+1)) M' w u2 q/\w.heap[fW]? =some (.cells #[.int .i64 0,.string ⟨#[]⟩,.string ⟨#[]⟩,.slice none 0 0,.slice none 0 0] 28 (0,0))/\M' fW/\w.heap[wC]? =some (.cells #[.int .i64 (fu q.kind),.string ⟨#[]⟩,.string ⟨#[]⟩,.slice none 0 0,q'.2] 28 (0,0))/\M' wC/\Own (RT.qy m) 28 M' w B q'.2 ((q.kids.map λx=>fh x (deep+1)).take q'.1)/\B<=w.heap.size/\q'.1<=q.kids.length/\q'.1<=(if fu q.kind=4 then 1 else 3:Nat)) (λq'=>q.kids.length-q'.1) (0,.slice none 0 0) a11 ?_ ?_
      ·exact⟨_,hM,S,eS,cw,bV,wF,tZ,eG _ _ _ _ _,Nat.le_of_eq hBe,bm _,bm _⟩
      ·clear hM S eS cw bV;rintro⟨i,vk⟩ w ⟨M2,hM,S,eS,cw,bV,g8,fK,eZ,hB,hi⟩;dsimp only at g8 eZ hi ⊢;refine aN (T.aP (ab G G ?_));refine ar (A:=RT.qy (n+1)) (B:=((RT.qy n).sl (aZ n))) au G G zn Nat.one_pos (LN n) G G (aZ _) eS cf (λaub acZ=>?_);refine bP ck G G G G G acZ cf (λv152 T7=>?_);have Fs:=dQ T7;refine bN (A:=RT.qy n) (hn:=aZ _) ck G T7 G (cy G G G (ab G G ?_));refine aO (g:=58) G (λH8=>?_) (λH8=>?_)
       ·refine ah G G (ab G G (ah G G (ab G G (ah G G (cy G G G (aU G G G (ad ?_)))))));refine bF G (λFV=>?_) (λFV=>?_)
        ·refine aR (aN (aY ?_));apply T.pM 9 [0,1] 2 aE mixed rfl rfl rfl rfl;intro WB ald;have tI:=ald M2;have:=ae cw;replace bV:=(tI.mem _ this).2 bV;replace cw:=tI.aB cw;have:=ae g8;replace fK:=(tI.mem _ this).2 fK;replace g8:=tI.aB g8;replace eS:=eS.le (aZ _) tI.le;replace eZ:=eZ.bM tI;replace hM:=tI.lt hM;have:=S.size;replace S:=S.ax tI;refine aT (o':=4) au G G zn q0 G G (Rg.dm (aG ck G G G (by first|assumption|exact bY tI Ub) G (Rg.dm ?_)));refine ar (A:=RT.qy (n+1)) (B:=((RT.qy n).sl (aZ n))) au G G zn Nat.one_pos (LN n) G G (aZ _) eS cf (λauc ac0=>?_);refine Rg.dm ?_;refine bP ck G G G G G ac0 cf (λv173 ac1=>?_);refine Rg.dm (ab G G (Rg.dm ?_));obtain⟨x,hx⟩:∃x,(q.kids)[i]? =some x:=⟨_,an hV⟩;refine cD (A:=RT.qy n) (hn:=aZ _) (M:=M2) ck (IQ gP _) G G G ac1 cf hV (λaud x_ iU ac2=>?_);rw[aw]at iU;obtain rfl:=aK (hx.symm.trans iU);refine Rg.dm ?_;refine cv (A:=RT.qy (n)) au G (IQ gP _) (aZ _) (eB _) G G ac2 cf (λaue ac3=>?_);refine Rg.dm (ab G G (Rg.dm (bB G G G hV (bh (v':= .int .i64 ((deep+1:Nat):Int)) (by congr 1) (Rg.dm (gm (⟨j1 ⟨jP au G zn q0,⟨gD G g8 (λh=>h),trivial⟩⟩,?_⟩)))))));have kp:=l9 aE WB;refine aQ G G E17 (ihk x (ao hx) (deep+1) _ _ _ G hM ac3) (λr9 w9 hc=>?_);obtain⟨XW,s9⟩:=hc;have:=ae cw;replace bV:=(s9.mem _ this).2 bV;replace cw:=s9.aB cw;have:=ae g8;replace fK:=(s9.mem _ this).2 fK;replace g8:=s9.aB g8;replace eS:=eS.le (aZ _) s9.le
         replace eZ:=eZ.bM s9;replace hM:=s9.lt hM;have:=S.size;replace S:=S.ax s9;refine(fun(kp:fI _ _ _)=>ad ⟨G,G,λ_=>kp,?_⟩) a01;refine fp (A:=RT.qy m) (hn:=aZ _) (M:=M2) ck (IQ gP _) (by rw[BV];decide) rfl rfl hM (XW) (.inl (eB _)) (λale alf ua l3=>?_);have:=ae cw;replace bV:=(l3.mem _ this).2 bV;replace cw:=l3.aB cw;have:=ae g8;replace fK:=(l3.mem _ this).2 fK;replace g8:=l3.aB g8;replace eS:=eS.le (aZ _) l3.le;replace XW:=XW.le l3.le;replace eZ:=eZ.bM l3;replace hM:=l3.lt hM;have:=S.size;replace S:=S.ax l3;refine(fun(kp:fI _ _ _)=>ad ⟨G,G,λ_=>kp,?_⟩) a01;refine dH (M:=M2) (base:=B) ck (IQ gP _) (by rw[BV];rfl) rfl rfl rfl eZ ua cf (by rw[a7,bW,eJ];omega) (by rw[a7,bW,eJ];omega) (by have h1:=tI.size;have h2:=s9.size;have h3:=l3.size;omega) (λPN XX alg St mU=>?_);have:=ae cw;replace bV:=(mU.mem _ this).2 bV;replace cw:=mU.bR cw (λh=>by have h1:=(eZ.base _ h).1;have h2:=vH.1;omega);have:=ae g8;replace fK:=(mU.mem _ this).2 fK;replace g8:=mU.bR g8 (λh=>by have h1:=(eZ.base _ h).1;have h2:=vH.2.1;omega);replace eS:=eS.le (aZ _) mU.le;replace XW:=XW.le mU.le;replace ua:=ua.le mU.le;replace hM:=mU.lt hM;have:=S.size;replace S:=S.dR mU eZ vH.2.2;replace eZ:=St;refine ad ⟨G,G,λh=>absurd G h,aT (o':=4) au G G zn q0 G G (ad ⟨G,G,λh=>absurd G h,?_⟩)⟩
         refine cg (M:=XX) zn rfl rfl g8 rfl (by obtain⟨_,_,he,_⟩:=eZ.isSlice;rw[he];rfl) fK (λXY PO l4=>?_);change XY.heap[_]? =some (Obj.cells #[.int .i64 (fu q.kind),.string ⟨#[]⟩,.string ⟨#[]⟩,.slice none 0 0,PN] _ _)at PO;have:=ae cw;replace bV:=(l4.mem _ this).2 bV;replace cw:=l4.bR cw a03;have:=ae g8;replace fK:=(l4.mem _ this).2 fK;replace eS:=eS.le (aZ _) l4.le;replace XW:=XW.le l4.le;replace ua:=ua.le l4.le;replace eZ:=eZ.step l4 (λc hc (h:c=_)=>by have h1:=(eZ.base c hc).1;have h2:=vH.1;have h3:=vH.2.1;omega);replace hM:=l4.lt hM;have:=S.size;replace S:=S.trans l4 (λk hk h=>by have h:_=_:=h;subst h;first|(exfalso;omega)|(show _<=_;omega)|exact⟨by first|omega|assumption,(S.mem _ hk).1 ((l4.mem _ (ae g8)).1 fK)⟩|exact .inl rfl|exact .inr rfl|exact .inr (.inl rfl)|exact .inr (.inr rfl)|exact .inr (.inr (.inl rfl))|exact rfl);have g8_:=PO;clear g8;have g8:=g8_;clear g8_;refine ad ⟨G,G,λh=>absurd G h,rq (aL (ab G G (bB G G G hV (Rg.bg G G ?_))))⟩;refine⟨G,(i+1,PN),a11,?_,?_⟩
         ·exact⟨_,hM,S,eS,cw,bV,g8,fK,by rw[bX,eN,hx];exact eZ,by have h1:=tI.size;have h2:=s9.size;have h3:=l3.size;have h4:=mU.size;have h5:=l4.size;omega,by omega,by omega⟩
         ·dsimp only;omega
        ·refine cQ (T.aP (eC (vs:=[.int .i64 (fu q.kind),.string ⟨#[]⟩,.string ⟨#[]⟩,.slice none 0 0,vk]) au G gP G G G g8 ?_));refine cM (M:=M2) (vs:=[.int .i64 (fu q.kind),.string ⟨#[]⟩,.string ⟨#[]⟩,.slice none 0 0,vk]) gP G G ae0 rfl rfl cw bV (λw18 g18 Fc=>?_);have:=ae cw;replace bV:=(Fc.mem _ this).2 bV;have:=ae g8;replace fK:=(Fc.mem _ this).2 fK;replace g8:=Fc.bR g8 a03;replace eS:=eS.le (aZ _) Fc.le;replace eZ:=eZ.step Fc (λc hc (h:c=_)=>by have h1:=(eZ.base c hc).1;have h2:=vH.1;have h3:=vH.2.1;omega);replace hM:=Fc.lt hM;have:=S.size;replace S:=S.trans Fc (λk hk h=>by have h:_=_:=h;subst h;first|(exfalso;omega)|(show _<=_;omega)|exact⟨by first|omega|assumption,(S.mem _ hk).1 ((Fc.mem _ (ae cw)).1 bV)⟩|exact .inl rfl|exact .inr rfl|exact .inr (.inl rfl)|exact .inr (.inr rfl)|exact .inr (.inr (.inl rfl))|exact rfl);have fP:=g18;clear cw;have cw:=fP;clear fP;refine ad (aJ ?_);have BX:=xd (hn:=aZ m) iF S (eZ.iJ vH.2.2) (by rw[a7,bW];omega);refine jX (vs:=[.int .i64 (fu q.kind),.string ⟨#[]⟩,.string ⟨#[]⟩,.slice none 0 0,vk]) G G au G gP G cw ⟨?_,S.back⟩;rw[l2,if_pos ⟨c9.1,by omega,Ys⟩,gX.2 (show min (if fu q.kind=4 then 1 else 3:Nat) (q.kids.map λx=>fh x (deep+1)).length=min i (q.kids.map λx=>fh x (deep+1)).length by rw[bW];omega)];exact Dn ⟨by omega,by omega⟩ ⟨nj,nj⟩ ij BX
       ·refine aj G G G G (aj G G G G (aj G G G G (az G G G (ad (iS G (cQ (T.aP (eC (vs:=[.int .i64 (fu q.kind),.string ⟨#[]⟩,.string ⟨#[]⟩,.slice none 0 0,vk]) au G gP G G G g8 ?_))))))));refine cM (M:=M2) (vs:=[.int .i64 (fu q.kind),.string ⟨#[]⟩,.string ⟨#[]⟩,.slice none 0 0,vk]) gP G G ae0 rfl rfl cw bV (λw18 g18 Fc=>?_);have:=ae cw;replace bV:=(Fc.mem _ this).2 bV;have:=ae g8;replace fK:=(Fc.mem _ this).2 fK;replace g8:=Fc.bR g8 a03;replace eS:=eS.le (aZ _) Fc.le;replace eZ:=eZ.step Fc (λc hc (h:c=_)=>by have h1:=(eZ.base c hc).1;have h2:=vH.1;have h3:=vH.2.1;omega);replace hM:=Fc.lt hM;have:=S.size;replace S:=S.trans Fc (λk hk h=>by have h:_=_:=h;subst h;first|(exfalso;omega)|(show _<=_;omega)|exact⟨by first|omega|assumption,(S.mem _ hk).1 ((Fc.mem _ (ae cw)).1 bV)⟩|exact .inl rfl|exact .inr rfl|exact .inr (.inl rfl)|exact .inr (.inr rfl)|exact .inr (.inr (.inl rfl))|exact rfl);have fP:=g18;clear cw;have cw:=fP;clear fP;refine ad (aJ ?_);have BX:=xd (hn:=aZ m) iF S (eZ.iJ vH.2.2) (by rw[a7,bW];omega);refine jX (vs:=[.int .i64 (fu q.kind),.string ⟨#[]⟩,.string ⟨#[]⟩,.slice none 0 0,vk]) G G au G gP G cw ⟨?_,S.back⟩;rw[l2,if_pos ⟨c9.1,by omega,Ys⟩,gX.2 (show min (if fu q.kind=4 then 1 else 3:Nat) (q.kids.map λx=>fh x (deep+1)).length=min i (q.kids.map λx=>fh x (deep+1)).length by rw[bW];omega)];exact Dn ⟨by omega,by omega⟩ ⟨nj,nj⟩ ij BX
    ·have h9: ¬((2<=fu q.kind/\fu q.kind<=4)/\deep<4/\¬q.kids=[]):=λh=>c9 ⟨h.1,by omega,by have:=eh.2 h.2.2;omega⟩
     refine aR (aN (T.aP (ab G G (ic G G G (ad ?_)))));refine bF G (λSV=>?_) (λSV=>?_)
     ·refine T.aP (ab rfl rfl (dg (places:=[(0,1),(1,1)]) bK mi UX rfl ⟨_,_,rfl,rfl,rfl⟩ (out:=[_,.string ⟨#[]⟩]) ⟨0,[_],rfl,rfl,by simp[Value.cells],rfl⟩ (dg (places:=[(0,1),(1,2),(3,1),(4,1)]) au gP R3 rfl ⟨_,_,rfl,rfl,_,_,rfl,rfl,rfl⟩ (out:=[_,_,_,.slice none 0 0,.slice none 0 0]) ⟨0,[_],rfl,rfl,by simp[Value.cells],1,[_,_],rfl,rfl,by simp[Value.cells],rfl⟩ ?_)));refine ec eU gP G (λzH ac5 aov aow wG By=>?_);obtain⟨PQ,IH⟩:∃M',M'=ins eU zH:=⟨_,rfl⟩;rw[<-IH]at By;have uc:PQ zH:=by rw[IH];exact .inl G
      change ac5.heap[zH]? =some (.cells #[.int .i64 0,.string ⟨#[]⟩,.string ⟨#[]⟩,.slice none 0 0,.slice none 0 0] _ _)at wG;have:=ae cw;replace bV:=(By.mem _ this).2 bV;replace cw:=By.aB cw;replace eS:=eS.le (aZ _) By.le;replace hM:=By.lt hM;have:=S.size;replace S:=S.ax By;refine cM (M:=PQ) (vs:=[.int .i64 5,sv (eP q.term.1),.string ⟨#[]⟩,.slice none 0 0,.slice none 0 0]) gP G G a68 rfl rfl wG uc (λw20 g20 X0=>?_);have:=ae cw;replace bV:=(X0.mem _ this).2 bV;replace cw:=X0.bR cw a03;have:=ae wG;replace uc:=(X0.mem _ this).2 uc;replace eS:=eS.le (aZ _) X0.le;replace hM:=X0.lt hM;have:=S.size;replace S:=S.trans X0 (λk hk h=>by have h:_=_:=h;subst h;first|(exfalso;omega)|(show _<=_;omega)|exact⟨by first|omega|assumption,(S.mem _ hk).1 ((X0.mem _ (ae wG)).1 uc)⟩|exact .inl rfl|exact .inr rfl|exact .inr (.inl rfl)|exact .inr (.inr rfl)|exact .inr (.inr (.inl rfl))|exact rfl);have PR:=g20;clear wG;have wG:=PR;clear PR;refine ad (aN (T.aP ?_));obtain⟨B,hBe⟩:∃B,B=w20.heap.size:=⟨_,rfl⟩;have vH:fW<B/\zH<B/\w0.heap.size<=B:=⟨by have:=ae cw;omega,by have:=ae wG;omega,by have:=S.size;omega⟩;refine Rg.bg G G (aY ?_);refine dz (σ:=Nat×Value) (λq'=>[(1,.int .i64 (deep:Int)),(2,u2),(4,.pointer (some ⟨fW,0,none⟩)),(5,sv (eP q.term.1)),(11,.pointer (some ⟨zH,0,none⟩)),(12,.int .i64 (q'.1:Int))]) (λq' w=>∃M',Lt M' w/\Step M w0 M' w aE/\cR (RT.qy (n+1)) M' w u2 q/\w.heap[fW]? =some (.cells #[.int .i64 0,.string ⟨#[]⟩,.string ⟨#[]⟩,.slice none 0 0,.slice none 0 0] 28 (0,0))/\M' fW/\w.heap[zH]? =some (.cells #[.int .i64 5,sv (eP q.term.1),.string ⟨#[]⟩,q'.2,.slice none 0 0] 28 (0,0))/\M' zH/\Own RT.str 9 M' w B q'.2 ((q.words.take q'.1).filter cL)/\B<=w.heap.size/\q'.1<=q.words.length/\q'.1<=3) (λq'=>q.words.length-q'.1) (0,.slice none 0 0) a11 ?_ ?_
      ·exact⟨_,hM,S,eS,cw,bV,wG,uc,eG _ _ _ _ _,Nat.le_of_eq hBe,bm _,bm _⟩
      ·clear hM S eS cw bV;rintro⟨i,vk⟩ w ⟨M2,hM,S,eS,cw,bV,g8,fK,nS,hB,hi⟩;dsimp only at g8 nS hi ⊢;refine aN (T.aP (ab G G ?_));refine ar (A:=RT.qy (n+1)) (B:=(RT.str.sl)) au G G vS q0 (PZ n) G G (aZ _) eS cf (λauh ac6=>?_);refine bP aD G G G G G ac6 cf (λv222 T8=>?_);have Tc:=dQ T8;refine bN aD G T8 G (cy G G G (ab G G ?_));refine aO (g:=89) G (λac7=>?_) (λac7=>?_)
       ·refine ah G G (ab G G (ah G G (cy G G G (aU G G G (ad ?_)))));refine bF G (λc22=>?_) (λc22=>?_)
        ·refine aR (aN (aY (T.aP ?_)));refine ar (A:=RT.qy (n+1)) (B:=(RT.str.sl)) au G G vS q0 (PZ n) G G (aZ _) eS cf (λaui ac8=>?_);refine bP aD G G G G G ac8 cf (λauj ac9=>?_);refine ab G G ?_;obtain⟨x,hx⟩:∃x,q.words[i]? =some x:=⟨_,an hV⟩;have hwo:=SF.w x (ao hx);refine cD aD I9 G G G ac9 cf hV (λaul x_ iU ada=>?_);rw[aw]at iU;obtain rfl:=aK (hx.symm.trans iU);refine bP aA G G G G G ada cf (λaum adb=>?_);obtain rfl:=ep adb;refine aQ G G E59 (oP _ hM hwo) (λaun auo hc=>?_);obtain⟨rfl,zI⟩:=hc;have:=ae cw;replace bV:=(zI.mem _ this).2 bV;replace cw:=zI.aB cw;have:=ae g8;replace fK:=(zI.mem _ this).2 fK;replace g8:=zI.aB g8;replace eS:=eS.le (aZ _) zI.le;replace nS:=nS.bM zI;replace hM:=zI.lt hM;have:=S.size;replace S:=S.ax zI;refine Rg.bg G G (T.aP (ab G G (bh (v':= .bool (decide (cL x=true))) (by simp) (ad ?_))));refine bF G (λU6=>?_) (λU6=>?_)
         ·apply T.pM 7 [0,1] 1 aE mixed rfl rfl rfl rfl;intro alh ali;have zJ:=ali M2;have:=ae cw;replace bV:=(zJ.mem _ this).2 bV;replace cw:=zJ.aB cw;have:=ae g8;replace fK:=(zJ.mem _ this).2 fK;replace g8:=zJ.aB g8;replace eS:=eS.le (aZ _) zJ.le;replace nS:=nS.bM zJ;replace hM:=zJ.lt hM;have:=S.size;replace S:=S.ax zJ;refine aT (o':=3) au G G vS q0 G G (Rg.dm (aG aD G G G (by first|assumption|exact bY zJ Ub) G (Rg.dm ?_)));refine ar (A:=RT.qy (n+1)) (B:=(RT.str.sl)) au G G vS q0 (PZ n) G G (aZ _) eS cf (λaup ade=>?_);refine Rg.dm ?_;refine bP aD G G G G G ade cf (λauq adf=>?_);refine Rg.dm (ab G G (Rg.dm ?_));refine cD aD I9 G G G adf cf hV (λaur x_ iU adg=>?_);rw[aw]at iU;obtain rfl:=aK (hx.symm.trans iU);refine Rg.dm ?_;refine bP aA G G G G G adg cf (λaus adh=>?_);refine Rg.dm (gm (⟨j1 ⟨jP au G vS q0,⟨gD G g8 (λh=>h),trivial⟩⟩,?_⟩));have kp:=l9 aE alh;refine fp (A:=RT.str) (hn:=by decide) (M:=M2) aD I9 q0 G G hM (adh) (.inr ⟨G,G⟩) (λaox aoy zK rn=>?_);have:=ae cw;replace bV:=(rn.mem _ this).2 bV;replace cw:=rn.aB cw;have:=ae g8;replace fK:=(rn.mem _ this).2 fK;replace g8:=rn.aB g8;replace eS:=eS.le (aZ _) rn.le;replace nS:=nS.bM rn;replace hM:=rn.lt hM;have:=S.size;replace S:=S.ax rn;refine(fun(kp:fI _ _ _)=>ad ⟨G,G,λ_=>kp,?_⟩) a01
          have hfw:=fi cL (q.words.take i);rw[a7]at hfw;refine dH (M:=M2) (base:=B) aD I9 rfl rfl rfl rfl nS zK cf a08 a08 (by have h0:=zI.size;have h1:=zJ.size;have h3:=rn.size;omega) (λT9 adi aoz X1 ud=>?_);have:=ae cw;replace bV:=(ud.mem _ this).2 bV;replace cw:=ud.bR cw (λh=>by have h1:=(nS.base _ h).1;have h2:=vH.1;omega);have:=ae g8;replace fK:=(ud.mem _ this).2 fK;replace g8:=ud.bR g8 (λh=>by have h1:=(nS.base _ h).1;have h2:=vH.2.1;omega);replace eS:=eS.le (aZ _) ud.le;replace zK:=zK.le ud.le;replace hM:=ud.lt hM;have:=S.size;replace S:=S.dR ud nS vH.2.2;replace nS:=X1;refine ad ⟨G,G,λh=>absurd G h,aT (o':=3) au G G vS q0 G G (ad ⟨G,G,λh=>absurd G h,?_⟩)⟩;refine cg (M:=adi) vS rfl rfl g8 rfl (by obtain⟨_,_,he,_⟩:=nS.isSlice;rw[he];rfl) fK (λX2 PS mV=>?_);change X2.heap[_]? =some (Obj.cells #[.int .i64 5,sv (eP q.term.1),.string ⟨#[]⟩,T9,.slice none 0 0] _ _)at PS;have:=ae cw;replace bV:=(mV.mem _ this).2 bV;replace cw:=mV.bR cw a03;have:=ae g8;replace fK:=(mV.mem _ this).2 fK;replace eS:=eS.le (aZ _) mV.le;replace zK:=zK.le mV.le;replace nS:=nS.step mV (λc hc (h:c=_)=>by have h1:=(nS.base c hc).1;have h2:=vH.1;have h3:=vH.2.1;omega);replace hM:=mV.lt hM;have:=S.size;replace S:=S.trans mV (λk hk h=>by have h:_=_:=h;subst h;first|(exfalso;omega)|(show _<=_;omega)|exact⟨by first|omega|assumption,(S.mem _ hk).1 ((mV.mem _ (ae g8)).1 fK)⟩|exact .inl rfl|exact .inr rfl|exact .inr (.inl rfl)|exact .inr (.inr rfl)|exact .inr (.inr (.inl rfl))|exact rfl);have g8_:=PS;clear g8;have g8:=g8_;clear g8_;refine ad ⟨G,G,λh=>absurd G h,rq (aL (ab G G (bB G G G hV (Rg.bg G G ?_))))⟩
          refine⟨G,(i+1,T9),a11,?_,?_⟩
          ·exact⟨_,hM,S,eS,cw,bV,g8,fK,by rw[bX,hx,dx,gZ,qj U6];exact nS,by have h0:=zI.size;have h1:=zJ.size;have h3:=rn.size;have h4:=ud.size;have h5:=mV.size;omega,by omega,by omega⟩
          ·dsimp only;omega
         ·refine aR (aL (ab G G (bB G G G hV (Rg.bg G G ?_))));refine⟨G,(i+1,vk),a11,?_,?_⟩
          ·exact⟨_,hM,S,eS,cw,bV,g8,fK,by rw[bX,hx,dx,gZ,List.filter_cons_of_neg U6,List.filter_nil,fz];exact nS,by have h0:=zI.size;omega,by omega,by omega⟩
          ·dsimp only;omega
        ·refine cQ (T.aP ?_);have Hu:jv q.words=((q.words.take i).filter cL):=by unfold jv;rw[show q.words.take 3=q.words.take i from gX.2 hV]
         refine aT au G G vS q0 G G (aG aD G G G g8 G (bh (v':=vk) G ?_));obtain⟨a27,X3,X4,_⟩:=nS.isSlice;subst X4;refine Rg.uE aD G G (fU G G G (ad ?_));refine bF G (λX5=>?_) (λX5=>?_)
         ·have hwn: ¬jv q.words=[]:=λe=>by rw[Hu]at e;rw[e]at X5;simp at X5
          refine T.aP (eC (vs:=[.int .i64 5,sv (eP q.term.1),.string ⟨#[]⟩,(.slice a27 ((q.words.take i).filter cL).length X3),.slice none 0 0]) au G gP G G G g8 ?_);refine cM (M:=M2) (vs:=[.int .i64 5,sv (eP q.term.1),.string ⟨#[]⟩,(.slice a27 ((q.words.take i).filter cL).length X3),.slice none 0 0]) gP G G ae2 rfl rfl cw bV (λw28 g28 Fe=>?_);have:=ae cw;replace bV:=(Fe.mem _ this).2 bV;have:=ae g8;replace fK:=(Fe.mem _ this).2 fK;replace g8:=Fe.bR g8 a03;replace eS:=eS.le (aZ _) Fe.le;replace nS:=nS.step Fe (λc hc (h:c=_)=>by have h1:=(nS.base c hc).1;have h2:=vH.1;have h3:=vH.2.1;omega);replace hM:=Fe.lt hM;have:=S.size;replace S:=S.trans Fe (λk hk h=>by have h:_=_:=h;subst h;first|(exfalso;omega)|(show _<=_;omega)|exact⟨by first|omega|assumption,(S.mem _ hk).1 ((Fe.mem _ (ae cw)).1 bV)⟩|exact .inl rfl|exact .inr rfl|exact .inr (.inl rfl)|exact .inr (.inr rfl)|exact .inr (.inr (.inl rfl))|exact rfl);have fP:=g28;clear cw;have cw:=fP;clear fP;refine ad (aJ ?_);have BX:=xd (hn:=by decide) iF S (nS.iJ vH.2.2) (by have:=fi cL (q.words.take i);rw[a7]at this;omega);refine jX (vs:=[.int .i64 5,sv (eP q.term.1),.string ⟨#[]⟩,(.slice a27 ((q.words.take i).filter cL).length X3),.slice none 0 0]) G G au G gP G cw ⟨?_,S.back⟩;rw[l2,if_neg h9,if_pos ⟨SV,hwn⟩,Hu];exact Fb (ya ⟨by decide,by decide⟩ ⟨zP,nj⟩ BX)
         ·have h19: ¬(fu q.kind=5/\¬jv q.words=[]):=λh=>h.2 (by rw[Hu];exact cE.1 hV)
          refine aR (T.aP ?_);refine ar (A:=RT.qy (n+1)) (B:=RT.fd) au G G mi q0 (Jh n) G G (aZ _) eS cf (λadk Ff=>?_);refine ar (A:=RT.fd) (B:=RT.str) bK G G I9 q0 SP G G q0 Ff cf (λadl Fg=>?_);refine bP aA G G G G G Fg cf (λadm Fh=>?_);obtain rfl:=ep Fh;refine Rg.bg G G (T.aP (ab G G ?_));refine aQ G G E59 (oP _ hM SF.t2) (λadn ado hc=>?_);obtain⟨rfl,l5⟩:=hc;have:=ae cw;replace bV:=(l5.mem _ this).2 bV;replace cw:=l5.aB cw;have:=ae g8;replace fK:=(l5.mem _ this).2 fK;replace g8:=l5.aB g8;replace eS:=eS.le (aZ _) l5.le;replace nS:=nS.bM l5;replace hM:=l5.lt hM;have:=S.size;replace S:=S.ax l5;refine Rg.bg G G ?_;refine T.kW [(4,.pointer (some ⟨fW,0,none⟩)),(5,sv (eP q.term.1)),(14,sv (if cL q.term.2=true then q.term.2 else[97]))] ?_ ?_
          ·refine T.aP (ab rfl rfl (iv rfl rfl (bh (v':= .bool (decide (¬cL q.term.2=true))) (by cases cL q.term.2<;>rfl) (ad ?_))));refine bF G (λFi=>?_) (λFi=>?_)
           ·refine aL (Rg.bg G G ?_);exact⟨G,G,G,.cons G a13⟩
           ·refine aR ?_;exact⟨G,G,G,.cons G a13⟩
          ·refine T.aP (ab rfl rfl (ab rfl rfl (dg (places:=[(0,1),(1,1)]) bK mi UX rfl ⟨_,_,rfl,rfl,_,_,rfl,rfl,rfl⟩ (out:=[_,_]) ⟨0,[_],rfl,rfl,by simp[Value.cells],1,[_],rfl,rfl,by simp[Value.cells],rfl⟩ (dg (places:=[(0,1),(1,2),(3,1),(4,1)]) au gP R3 rfl ⟨_,_,rfl,rfl,_,_,rfl,rfl,rfl⟩ (out:=[_,_,_,.slice none 0 0,.slice none 0 0]) ⟨0,[_],rfl,rfl,by simp[Value.cells],1,[_,_],rfl,rfl,by simp[Value.cells],rfl⟩ ?_))));refine cM (M:=M2) (vs:=[.int .i64 1,sv (eP q.term.1),sv (if cL q.term.2=true then q.term.2 else[97]),.slice none 0 0,.slice none 0 0]) gP G G a68 rfl rfl cw bV (λw33 g33 vD=>?_);have:=ae cw;replace bV:=(vD.mem _ this).2 bV;have:=ae g8;replace fK:=(vD.mem _ this).2 fK;replace g8:=vD.bR g8 a03;replace eS:=eS.le (aZ _) vD.le;replace nS:=nS.step vD (λc hc (h:c=_)=>by have h1:=(nS.base c hc).1;have h2:=vH.1;have h3:=vH.2.1;omega);replace hM:=vD.lt hM;have:=S.size;replace S:=S.trans vD (λk hk h=>by have h:_=_:=h;subst h;first|(exfalso;omega)|(show _<=_;omega)|exact⟨by first|omega|assumption,(S.mem _ hk).1 ((vD.mem _ (ae cw)).1 bV)⟩|exact .inl rfl|exact .inr rfl|exact .inr (.inl rfl)|exact .inr (.inr rfl)|exact .inr (.inr (.inl rfl))|exact rfl);have fP:=g33;clear cw;have cw:=fP;clear fP;refine ad (aJ ?_);refine jX (vs:=[.int .i64 1,sv (eP q.term.1),sv (if cL q.term.2=true then q.term.2 else[97]),.slice none 0 0,.slice none 0 0]) G G au G gP G cw ⟨?_,S.back⟩;rw[l2,if_neg h9,if_neg h19];exact aj4
       ·refine aj G G G G (aj G G G G (az G G G (ad (iS G (cQ (T.aP ?_))))));have Hu:jv q.words=((q.words.take i).filter cL):=by unfold jv;rw[show q.words.take 3=q.words.take i from gX.2 hV]
        refine aT au G G vS q0 G G (aG aD G G G g8 G (bh (v':=vk) G ?_));obtain⟨a27,X3,X4,_⟩:=nS.isSlice;subst X4;refine Rg.uE aD G G (fU G G G (ad ?_));refine bF G (λX5=>?_) (λX5=>?_)
        ·have hwn: ¬jv q.words=[]:=λe=>by rw[Hu]at e;rw[e]at X5;simp at X5
         refine T.aP (eC (vs:=[.int .i64 5,sv (eP q.term.1),.string ⟨#[]⟩,(.slice a27 ((q.words.take i).filter cL).length X3),.slice none 0 0]) au G gP G G G g8 ?_);refine cM (M:=M2) (vs:=[.int .i64 5,sv (eP q.term.1),.string ⟨#[]⟩,(.slice a27 ((q.words.take i).filter cL).length X3),.slice none 0 0]) gP G G ae2 rfl rfl cw bV (λw28 g28 Fe=>?_);have:=ae cw;replace bV:=(Fe.mem _ this).2 bV;have:=ae g8;replace fK:=(Fe.mem _ this).2 fK;replace g8:=Fe.bR g8 a03;replace eS:=eS.le (aZ _) Fe.le;replace nS:=nS.step Fe (λc hc (h:c=_)=>by have h1:=(nS.base c hc).1;have h2:=vH.1;have h3:=vH.2.1;omega);replace hM:=Fe.lt hM;have:=S.size;replace S:=S.trans Fe (λk hk h=>by have h:_=_:=h;subst h;first|(exfalso;omega)|(show _<=_;omega)|exact⟨by first|omega|assumption,(S.mem _ hk).1 ((Fe.mem _ (ae cw)).1 bV)⟩|exact .inl rfl|exact .inr rfl|exact .inr (.inl rfl)|exact .inr (.inr rfl)|exact .inr (.inr (.inl rfl))|exact rfl);have fP:=g28;clear cw;have cw:=fP;clear fP;refine ad (aJ ?_);have BX:=xd (hn:=by decide) iF S (nS.iJ vH.2.2) (by have:=fi cL (q.words.take i);rw[a7]at this;omega);refine jX (vs:=[.int .i64 5,sv (eP q.term.1),.string ⟨#[]⟩,(.slice a27 ((q.words.take i).filter cL).length X3),.slice none 0 0]) G G au G gP G cw ⟨?_,S.back⟩;rw[l2,if_neg h9,if_pos ⟨SV,hwn⟩,Hu];exact Fb (ya ⟨by decide,by decide⟩ ⟨zP,nj⟩ BX)
        ·have h19: ¬(fu q.kind=5/\¬jv q.words=[]):=λh=>h.2 (by rw[Hu];exact cE.1 hV)
         refine aR (T.aP ?_);refine ar (A:=RT.qy (n+1)) (B:=RT.fd) au G G mi q0 (Jh n) G G (aZ _) eS cf (λadk Ff=>?_);refine ar (A:=RT.fd) (B:=RT.str) bK G G I9 q0 SP G G q0 Ff cf (λadl Fg=>?_);refine bP aA G G G G G Fg cf (λadm Fh=>?_);obtain rfl:=ep Fh;refine Rg.bg G G (T.aP (ab G G ?_));refine aQ G G E59 (oP _ hM SF.t2) (λadn ado hc=>?_);obtain⟨rfl,l5⟩:=hc;have:=ae cw;replace bV:=(l5.mem _ this).2 bV;replace cw:=l5.aB cw;have:=ae g8;replace fK:=(l5.mem _ this).2 fK;replace g8:=l5.aB g8;replace eS:=eS.le (aZ _) l5.le;replace nS:=nS.bM l5;replace hM:=l5.lt hM;have:=S.size;replace S:=S.ax l5;refine Rg.bg G G ?_;refine T.kW [(4,.pointer (some ⟨fW,0,none⟩)),(5,sv (eP q.term.1)),(14,sv (if cL q.term.2=true then q.term.2 else[97]))] ?_ ?_
         ·refine T.aP (ab rfl rfl (iv rfl rfl (bh (v':= .bool (decide (¬cL q.term.2=true))) (by cases cL q.term.2<;>rfl) (ad ?_))));refine bF G (λFi=>?_) (λFi=>?_)
          ·refine aL (Rg.bg G G ?_);exact⟨G,G,G,.cons G a13⟩
          ·refine aR ?_;exact⟨G,G,G,.cons G a13⟩
         ·refine T.aP (ab rfl rfl (ab rfl rfl (dg (places:=[(0,1),(1,1)]) bK mi UX rfl ⟨_,_,rfl,rfl,_,_,rfl,rfl,rfl⟩ (out:=[_,_]) ⟨0,[_],rfl,rfl,by simp[Value.cells],1,[_],rfl,rfl,by simp[Value.cells],rfl⟩ (dg (places:=[(0,1),(1,2),(3,1),(4,1)]) au gP R3 rfl ⟨_,_,rfl,rfl,_,_,rfl,rfl,rfl⟩ (out:=[_,_,_,.slice none 0 0,.slice none 0 0]) ⟨0,[_],rfl,rfl,by simp[Value.cells],1,[_,_],rfl,rfl,by simp[Value.cells],rfl⟩ ?_))));refine cM (M:=M2) (vs:=[.int .i64 1,sv (eP q.term.1),sv (if cL q.term.2=true then q.term.2 else[97]),.slice none 0 0,.slice none 0 0]) gP G G a68 rfl rfl cw bV (λw33 g33 vD=>?_);have:=ae cw;replace bV:=(vD.mem _ this).2 bV;have:=ae g8;replace fK:=(vD.mem _ this).2 fK;replace g8:=vD.bR g8 a03;replace eS:=eS.le (aZ _) vD.le;replace nS:=nS.step vD (λc hc (h:c=_)=>by have h1:=(nS.base c hc).1;have h2:=vH.1;have h3:=vH.2.1;omega);replace hM:=vD.lt hM;have:=S.size;replace S:=S.trans vD (λk hk h=>by have h:_=_:=h;subst h;first|(exfalso;omega)|(show _<=_;omega)|exact⟨by first|omega|assumption,(S.mem _ hk).1 ((vD.mem _ (ae cw)).1 bV)⟩|exact .inl rfl|exact .inr rfl|exact .inr (.inl rfl)|exact .inr (.inr rfl)|exact .inr (.inr (.inl rfl))|exact rfl);have fP:=g33;clear cw;have cw:=fP;clear fP;refine ad (aJ ?_);refine jX (vs:=[.int .i64 1,sv (eP q.term.1),sv (if cL q.term.2=true then q.term.2 else[97]),.slice none 0 0,.slice none 0 0]) G G au G gP G cw ⟨?_,S.back⟩;rw[l2,if_neg h9,if_neg h19];exact aj4
     ·have h19: ¬(fu q.kind=5/\¬jv q.words=[]):=λh=>SV h.1
      refine aR (T.aP ?_);refine ar (A:=RT.qy (n+1)) (B:=RT.fd) au G G mi q0 (Jh n) G G (aZ _) eS cf (λadk Ff=>?_);refine ar (A:=RT.fd) (B:=RT.str) bK G G I9 q0 SP G G q0 Ff cf (λadl Fg=>?_);refine bP aA G G G G G Fg cf (λadm Fh=>?_);obtain rfl:=ep Fh;refine Rg.bg G G (T.aP (ab G G ?_));refine aQ G G E59 (oP _ hM SF.t2) (λadn ado hc=>?_);obtain⟨rfl,l5⟩:=hc;have:=ae cw;replace bV:=(l5.mem _ this).2 bV;replace cw:=l5.aB cw;replace eS:=eS.le (aZ _) l5.le;replace hM:=l5.lt hM;have:=S.size;replace S:=S.ax l5;refine Rg.bg G G ?_;refine T.kW [(4,.pointer (some ⟨fW,0,none⟩)),(5,sv (eP q.term.1)),(14,sv (if cL q.term.2=true then q.term.2 else[97]))] ?_ ?_
      ·refine T.aP (ab rfl rfl (iv rfl rfl (bh (v':= .bool (decide (¬cL q.term.2=true))) (by cases cL q.term.2<;>rfl) (ad ?_))));refine bF G (λFi=>?_) (λFi=>?_)
       ·refine aL (Rg.bg G G ?_);exact⟨G,G,G,.cons G a13⟩
       ·refine aR ?_;exact⟨G,G,G,.cons G a13⟩
      ·refine T.aP (ab rfl rfl (ab rfl rfl (dg (places:=[(0,1),(1,1)]) bK mi UX rfl ⟨_,_,rfl,rfl,_,_,rfl,rfl,rfl⟩ (out:=[_,_]) ⟨0,[_],rfl,rfl,by simp[Value.cells],1,[_],rfl,rfl,by simp[Value.cells],rfl⟩ (dg (places:=[(0,1),(1,2),(3,1),(4,1)]) au gP R3 rfl ⟨_,_,rfl,rfl,_,_,rfl,rfl,rfl⟩ (out:=[_,_,_,.slice none 0 0,.slice none 0 0]) ⟨0,[_],rfl,rfl,by simp[Value.cells],1,[_,_],rfl,rfl,by simp[Value.cells],rfl⟩ ?_))));refine cM (M:=eU) (vs:=[.int .i64 1,sv (eP q.term.1),sv (if cL q.term.2=true then q.term.2 else[97]),.slice none 0 0,.slice none 0 0]) gP G G a68 rfl rfl cw bV (λw33 g33 vD=>?_);have:=ae cw;replace bV:=(vD.mem _ this).2 bV;replace eS:=eS.le (aZ _) vD.le;replace hM:=vD.lt hM;have:=S.size;replace S:=S.trans vD (λk hk h=>by have h:_=_:=h;subst h;first|(exfalso;omega)|(show _<=_;omega)|exact⟨by first|omega|assumption,(S.mem _ hk).1 ((vD.mem _ (ae cw)).1 bV)⟩|exact .inl rfl|exact .inr rfl|exact .inr (.inl rfl)|exact .inr (.inr rfl)|exact .inr (.inr (.inl rfl))|exact rfl);have fP:=g33;clear cw;have cw:=fP;clear fP;refine ad (aJ ?_);refine jX (vs:=[.int .i64 1,sv (eP q.term.1),sv (if cL q.term.2=true then q.term.2 else[97]),.slice none 0 0,.slice none 0 0]) G G au G gP G cw ⟨?_,S.back⟩;rw[l2,if_neg h9,if_neg h19];exact aj4
theorem zL:∀(mm n:Nat) {M:aH} {q:Qy} {v:Value} {deep:Nat} (w0:World) (hM:Lt M w0) (hv:(RT.qy n).V M w0 q v) (hs:Ha q) (hd:deep+mm=4),Spec Tryz.prog 17 #[v,.int .i64 (deep:Int)] w0 (λv w=>(RT.qy mm).V M w (fh q deep) v/\Step M w0 M w aE)
 |0,n,M,q,v,deep,w0,hM,hv,hs,hd=>zG (n:=n) w0 hM (lJ hv) hs hV λh=>by omega
 |mm+1,n,M,q,v,deep,w0,hM,hv,hs,hd=>zG (n:=n) w0 hM (lJ hv) hs hV λ_=>⟨mm,rfl,λx hx IF M w v e hM hv=>by subst e;exact zL mm n w hM hv ((YB.1 hs).2 x hx) hV⟩
end Go.K
namespace Go.K
open Go.Proofs
namespace TKAlike13
theorem gP:TI Tryz.prog 28 (.agg #[(.int .i64 0),(.string ⟨#[]⟩),(.string ⟨#[]⟩),(.slice none 0 0),(.slice none 0 0)]) 5 88:=by unfold TI;kernel_rfl
theorem nc:TI Tryz.prog 45 (.agg #[(.int .i64 0),(.int .i64 0)]) 2 16:=by unfold TI;kernel_rfl
theorem E10:Enters Tryz.prog 10:=enters Tryz.func10 rfl q0
theorem E11:Enters Tryz.prog 11:=enters Tryz.func11 rfl q0
theorem E12:Enters Tryz.prog 12:=enters Tryz.func12 rfl q0
theorem E13:Enters Tryz.prog 13:=enters Tryz.func13 rfl q0
theorem E17:Enters Tryz.prog 17:=enters Tryz.func17 rfl q0
end TKAlike13
open TKAlike13
set_option maxRecDepth 10000
theorem II:∀{L:List En} {last:Int},wo last L=true->∀e∈L,last<e.2/\mj e.1=0
 |[],_,_,e,h=>by cases h
 |x::L,last,h,e,he=>by
  simp only[wo,b7,decide_eq_true_eq]at h
  have hx:last<x.2/\mj x.1=0:=by
   refine ⟨(vm h.1).2,?_⟩;have:=h.1;unfold mq at this
   split at this
   ·rename_i h1;exact absurd this h1
   ·rename_i h1;simpa using h1
  rcases cY.1 he with rfl|he
  ·exact hx
  ·have:=II h.2 e he;exact⟨by omega,this.2⟩
theorem Su {L:List En} (h:wo (-1) L=true) {e:En} (he:e∈L):wo (-1) [e]=true:=by
 obtain⟨h1,h2⟩:=II h e he;simp only[wo,b7,decide_eq_true_eq];refine⟨?_,trivial⟩;unfold mq;rw[if_neg (by rw[h2];simp),if_neg (by omega)]
theorem Sv {k:Int} {t:Fd} {ws:List (List UInt8)} {n:Nat} (h:j5 k t ws n=0):SzO t ws:=by
 have Tc:∀x:List UInt8,cL x=true->x.length<=3900000:=λx hx=>by
  unfold cL at hx;have:=(of_decide_eq_true hx).2;omega
 unfold j5 at h;by_cases h1:k<1\/5<k
 ·rw[if_pos h1]at h;omega
 rw[if_neg h1]at h;by_cases h2:2<=k/\k<=4
 ·rw[if_pos h2]at h;by_cases h3: ¬t=([],[])\/¬ws=[]\/n=0
  ·rw[if_pos h3]at h;omega
  have ht:t=([],[]):=gU λe=>h3 (.inl e)
  have hw:ws=[]:=gU λe=>h3 (.inr (.inl e))
  subst ht;subst hw;exact⟨bm _,λx hx=>by cases hx⟩
 rw[if_neg h2]at h;by_cases h3:0<n\/(k=1/\¬ws=[])\/(k=5/\¬t.2=[])
 ·rw[if_pos h3]at h;omega
 rw[if_neg h3]at h;by_cases h4:eA t.1=false
 ·rw[if_pos h4]at h;omega
 rw[if_neg h4]at h;by_cases h5:k=1
 ·rw[if_pos h5]at h;have hw:ws=[]:=gU λe=>h3 (.inr (.inl ⟨h5,e⟩))
  subst hw;by_cases h6:cL t.2=true
  ·exact⟨Tc _ h6,λx hx=>by cases hx⟩
  ·rw[if_neg h6]at h;omega
 ·rw[if_neg h5]at h;have ht:t.2=[]:=gU λe=>h3 (.inr (.inr ⟨by omega,e⟩))
  by_cases h6:ws=[]
  ·rw[if_pos h6]at h;omega
  rw[if_neg h6]at h;by_cases h7:ws.all cL=false
  ·rw[if_pos h7]at h;omega
  exact⟨by rw[ht];exact bm _,λx hx=>Tc x (ew.1 (by cases hb:ws.all cL;exact absurd hb h7;rfl) x hx)⟩
mutual
theorem IK:∀(q:Qy) (deep:Nat),jk q deep=0->Ha q
 |.mk k t ws ks,deep,hm=>by
  obtain⟨h1,h2,h3⟩:=qx.1 hm;refine YB.2 ⟨Sv h2,λx hx=>O3.1 (Fj ks (deep+1) h3) x hx⟩
theorem Fj:∀(ks:List Qy) (deep:Nat),(∀x∈ks,jk x deep=0)->Km ks
 |[],_,_=>O3.2 λx hx=>by cases hx
 |q::ks,deep,hm=>O3.2 λx hx=>by
  rcases cY.1 hx with h|h
  ·rw[h];exact IK q deep (hm q (bL ..))
  ·exact O3.1 (Fj ks deep λy hy=>hm y (cn _ hy)) x h
end
theorem IL {f:En->Option Int}:∀(A B:List En) (i:Nat),gg f i (A++B)=gg f i A++gg f (i+A.length) B
 |[],B,i=>rfl
 |a::A,B,i=>by
  have ih:=IL (f:=f) A B (i+1)
  have e1:∀(x:En) (l:List En) (j:Nat),gg f j (x::l)=qg f j x++gg f (j+1) l:=λx l j=>by
   have h:=oM (f:=f) (e:=x) [] j;unfold qg;rw[gg]
   cases f x<;>rfl
  rw[ng,e1,e1,ih,l6,cz,show i+1+A.length=i+(A.length+1) by omega]
theorem KE {f:En->Option Int} (L:List En) (i:Nat):gg f 0 L=gg f 0 (L.take i)++gg f (0+(L.take i).length) (L.drop i):=by
 rw[<-IL,fR]
theorem X6 {f:En->Option Int} {L:List En} {i:Nat} {e:En} {s:Int} (h:L[i]? =some e) (hf:f e=some s):(gg f 0 L)[(gg f 0 (L.take i)).length]? =some ((i:Int),s):=by
 rw[KE L (i+1),l1 h,nR hf,l6,jq (br _),Nat.sub_self];rfl
theorem Sw {f:En->Option Int} (e:En):gg f 0 [e]=qg f 0 e:=by
 have h:=oM (f:=f) (e:=e) [] 0;exact h
theorem xc {M:aH} {l:List Dc} {n:Nat} {q:Qy} {v0 v1:Value} {w0:World} (hM:Lt M w0) (hv:(RT.dc.sl).V M w0 l v0) (hq:(RT.qy (n+1)).V M w0 q v1) (mg:Ha q) (h0: ¬M 1) (tab:∃e fr,w0.heap[1]? =some (.cells (FJ.map fun(k:Nat)=>Value.int .u8 (k:Int)).toArray e fr)):
  Spec Tryz.prog 4 #[v0,v1] w0 (λv w=>v= .bool true/\Step M w0 M w aE):=by
 have iF:=hM;obtain⟨P9,Qa,E9⟩:=tab;have hgl:=lh l 0 1 8;obtain⟨eZ,_⟩:=EH l (show(0:Int)<=0 by decide) (show(1:Int)<=1 by decide) 8;have alm:∀e∈(fO l 0 1 8),(∀f∈e.1.2,f.1.length<=900000/\f.2.length<=900000)/\e.1.2.length<=1000000:=λe he=>⟨λf hf=>zf e he f hf,(by have:=(lY eZ e he).few;omega)⟩
 have PU:=Bn q 1 q0;have adq:=IK _ _ PU;refine a8 (args:=[_,_]) (fn:=Tryz.f4) Tryz.func4 G (n:=89) Tryz.ntmps4 ?_;have S:Step M w0 M w0 aE:=aV;refine T.aP ?_;refine fD (A:=RT.qy (n+1)) (a:=q) G G hM hq (eB _) (λu3 Kf jJ j8 _=>?_);replace hv:=hv.le j8.le;replace hq:=hq.le j8.le;replace hM:=j8.lt hM;have:=S.size;replace S:=S.ax j8;refine Rg.bg G G (T.aP (ab G G ?_));refine aQ G G E10 (Gb (most:=8) (a:=0) (s:=1) _ hM hv q0 q0 q0) (λr1 w1 hc=>?_);obtain⟨hg,s1⟩:=hc;replace hv:=hv.le s1.le;replace jJ:=jJ.le (aZ _) s1.le;replace hM:=s1.lt hM;have:=S.size;replace S:=S.ax s1;refine Rg.bg G G (T.aP ?_);refine cv (A:=RT.qy (n+1)) au G (IQ gP _) (aZ _) (eB _) G G jJ cf (λv20 aln=>?_);refine aQ G G E17 (zL 3 (n+1) (deep:=1) _ hM aln mg G) (λr21 w21 hc=>?_);obtain⟨Hv,s21⟩:=hc;replace jJ:=jJ.le (aZ _) s21.le;replace hg:=hg.le s21.le;replace hM:=s21.lt hM;have:=S.size;replace S:=S.ax s21;refine oQ (A:=RT.qy 3) (M:=M) (IQ gP _) (by rw[BV];rfl) (eB _) rfl rfl rfl Hv cf hM (λu6 wn2 kZ sn2 _=>?_);replace jJ:=jJ.le (aZ _) sn2.le;replace hg:=hg.le sn2.le;replace Hv:=Hv.le sn2.le;replace hM:=sn2.lt hM;have:=S.size;replace S:=S.ax sn2
 skip
 refine ad (T.aP (ab G G ?_));refine aQ G G E11 (zc _ hM hg zf hV eZ) (λrb3 wb3 hc=>?_);obtain⟨sa3,rfl,TP,YH⟩:=hc;obtain⟨aa3,rfl⟩:=TP.kR;replace jJ:=jJ.le (aZ _) YH.le;replace hg:=hg.le YH.le;replace Hv:=Hv.le YH.le;replace kZ:=kZ.le (aZ _) YH.le;replace hM:=YH.lt hM;have:=S.size;replace S:=S.ax YH;refine ab G G (cq G G G (cq G G G (aF G G (Rg.bg G G (aN (T.aP (ab G G (Rg.HE Tryz.underlying31 G G G (ad ?_)))))))));refine T.IN G ((by simp)) (aR (T.aP (ab G G ?_)));refine cv (A:=RT.qy (3)) au G (IQ gP _) (aZ _) (eB _) G G kZ cf (λv61 alo=>?_);refine aQ G G E13 (wz (n:=2) (q:=(fh q 1)) _ hM (λhn=>h0 ((S.mem 1 (ae E9)).1 hn)) ⟨P9,Qa,S.aB E9⟩ TP eZ hV alo adq) (λr62 w62 hc=>?_);obtain⟨auv,aoB,Ua,adt⟩:=hc;have ka:=adt.close (hn:=by decide) hM Ua (zF hV);have Hw:=Ua.back;rw[if_pos PU]at ka;replace jJ:=jJ.le (aZ _) Hw.le;replace hg:=hg.le Hw.le;replace Hv:=Hv.le Hw.le;replace kZ:=kZ.le (aZ _) Hw.le;replace TP:=TP.le q0 Hw.le;replace hM:=Hw.lt hM;have:=S.size;replace S:=S.ax Hw;refine Rg.bg G G (T.aP (Rg.bg G G (aN (T.aP (Rg.bg G G (aY ?_))))));refine dz (σ:=Nat) (λi=>[(5,r1),(6,u6),(9,r62),(10,.int .i64 ((gg (λe=>fy e.1.2 (fh q 1)) 0 ((fO l 0 1 8).take i)).length:Int)),(11,.int .i64 (i:Int))]) (λi w=>i<=(fO l 0 1 8).length/\∃M2,Lt M2 w/\Step M w0 M2 w aE/\(RT.en.sl).V M2 w (fO l 0 1 8) r1/\cR (RT.qy 3) M2 w u6 (fh q 1)/\((RT.fo).sl).V M2 w (gg (λe=>fy e.1.2 (fh q 1)) 0 (fO l 0 1 8)) r62) (λi=>(fO l 0 1 8).length-i) 0 a65 ?_ ?_
 ·exact⟨bm _,_,hM,S,hg,kZ,ka⟩
 ·clear hM S hg kZ ka;rintro i w ⟨hi,M2,hM,S,hg,kZ,ka⟩;refine aN (T.aP (ab G G (ab G G (bN gT G hg G (cy G G G (ad ?_))))));refine bF G (λc9=>?_) (λc9=>?_)
  ·refine aR (aN (aY (T.aP (ab G G (ab G G (ab G G (bB G G G hV ?_)))))));obtain⟨e,BB⟩:∃x,(fO l 0 1 8)[i]? =some x:=⟨_,an hV⟩;have adu:wo (-1) [e]=true:=Su eZ (ao BB);refine Rg.CT (A:=RT.en) (hn:=by decide) gT FN G G G G hg hV (λalp IM=>?_)
   replace IM:(RT.en.sl).V M2 w [e] alp:=by
    have h:=IM;rw[show((i:Int)).toNat=i by omega,show((i:Int)+1).toNat=i+1 by omega,bX,BB,dx,List.drop_append_of_le_length (by rw[a7];omega),eT (by rw[a7];omega)]at h;exact h
   refine aQ rfl rfl E11 (zc _ hM IM (λx hx=>by rw[cO]at hx;subst hx;exact λf hf=>(alm x (ao BB)).1 f hf) (by simp) adu) (λrb5 wb5 hc=>?_);obtain⟨sa5,rfl,T3,sb5⟩:=hc;obtain⟨aa5,rfl⟩:=T3.kR;clear IM;replace hg:=hg.le sb5.le;replace kZ:=kZ.le (aZ _) sb5.le;replace ka:=ka.le sb5.le;replace hM:=sb5.lt hM;have:=S.size;replace S:=S.ax sb5;refine ab G G (cq G G G (cq G G G (aF G G (Rg.bg G G (aN (T.aP (ab G G (Rg.HE Tryz.underlying31 G G G (ad ?_)))))))));refine T.IN G ((by simp)) (aR (T.aP (ab G G ?_)));refine cv (A:=RT.qy (3)) au G (IQ gP _) (aZ _) (eB _) G G kZ cf (λv141 adw=>?_);refine aQ G G E13 (wz (n:=2) (q:=(fh q 1)) _ hM (λhn=>h0 ((S.mem 1 (ae E9)).1 hn)) ⟨P9,Qa,S.aB E9⟩ T3 adu (by simp) adw adq) (λauw auy hc=>?_);obtain⟨aoC,alq,PT,X7⟩:=hc;have vI:=X7.close (hn:=by decide) hM PT (zF (L:=[e]) (by simp));have Bz:=PT.back;rw[if_pos PU,Sw]at vI;replace hg:=hg.le Bz.le;replace kZ:=kZ.le (aZ _) Bz.le;replace ka:=ka.le Bz.le;replace T3:=T3.le q0 Bz.le;replace hM:=Bz.lt hM;have:=S.size;replace S:=S.ax Bz;refine Rg.bg G G (aN (T.aP (ab G G (bN aS G vI G (ic G G G (ad ?_))))));refine bF G (λFV=>?_) (λFV=>?_)
   ·have jB:(gg (λe=>fy e.1.2 (fh q 1)) 0 ((fO l 0 1 8).take (i+1))).length=(gg (λe=>fy e.1.2 (fh q 1)) 0 ((fO l 0 1 8).take i)).length:=by
     rw[l1 BB,bG,(by cases hfe:fy e.1.2 (fh q 1)with
      |none=>rw[vE (f:=(λe=>fy e.1.2 (fh q 1))) hfe];rfl
      |some s=>rw[nR (f:=(λe=>fy e.1.2 (fh q 1))) hfe]at FV;simp at FV:(qg (λe=>fy e.1.2 (fh q 1)) i e).length=0)];rfl
    refine cQ (aL (ab G G (bB G G G hV (Rg.bg G G ?_))));refine⟨G,i+1,(.cons G (.cons G (.cons G (.cons (congrArg (λz=>some (Value.int .i64 z)) (by rw[jB];first|done|rfl)) (.cons rfl .nil))))),?_,?_⟩
    ·exact⟨by omega,_,hM,S,hg,kZ,ka⟩
    ·omega
   ·obtain⟨sc,ZF⟩:∃s,fy e.1.2 (fh q 1)=some s:=by
     cases hfe:fy e.1.2 (fh q 1)with
     |none=>rw[vE (f:=(λe=>fy e.1.2 (fh q 1))) hfe]at FV;simp at FV
     |some s=>exact⟨s,rfl⟩
    have pJ:qg (λe=>fy e.1.2 (fh q 1)) 0 e=[((0:Int),sc)]:=nR (f:=(λe=>fy e.1.2 (fh q 1))) ZF 0;have Fu:(gg (λe=>fy e.1.2 (fh q 1)) 0 (fO l 0 1 8))[(gg (λe=>fy e.1.2 (fh q 1)) 0 ((fO l 0 1 8).take i)).length]? =some ((i:Int),sc):=X6 (f:=(λe=>fy e.1.2 (fh q 1))) BB ZF;have hKl:=ky (f:=(λe=>fy e.1.2 (fh q 1))) ((fO l 0 1 8).take i) 0;rw[a7]at hKl;have jB:(gg (λe=>fy e.1.2 (fh q 1)) 0 ((fO l 0 1 8).take (i+1))).length=(gg (λe=>fy e.1.2 (fh q 1)) 0 ((fO l 0 1 8).take i)).length+1:=by rw[l1 BB,bG,nR (f:=(λe=>fy e.1.2 (fh q 1))) ZF];rfl
    refine aR (aN (T.aP (ab G G (ab G G ?_))));have eK:=(al.1 Fu).1;refine bN aS G ka G (ed G G G (bh (v':= .bool false) (congrArg Value.bool (decide_eq_false hV)) (ab rfl rfl (ah rfl rfl (ab rfl rfl (ah rfl rfl (bN aS rfl vI rfl (ah rfl rfl (eW rfl rfl rfl (bh (v':= .bool false) (congrArg Value.bool (decide_eq_false (by rw[pJ];simp))) (az rfl rfl rfl ?_)))))))))));refine ad (iS G (aR (aN (aN ?_))));apply um mixed rfl rfl;intro auA alr;have Hx:=alr M2;replace hg:=hg.le Hx.le;replace kZ:=kZ.le (aZ _) Hx.le;replace ka:=ka.le Hx.le;replace T3:=T3.le q0 Hx.le;replace vI:=vI.le Hx.le;replace hM:=Hx.lt hM;have:=S.size;replace S:=S.ax Hx;refine ab G G (Rg.dm (ab G G (Rg.dm ?_)));refine cD (A:=RT.fo) (hn:=by decide) aS nc G G G ka cf hV (λauB x_ iU adx=>?_);rw[aw]at iU;obtain rfl:=aK (Fu.symm.trans iU);refine Rg.dm ?_;refine ar (A:=RT.fo) (B:=RT.int .i64) dB G G I3 q0 Yl G G q0 adx cf (λauC ady=>?_);refine Rg.dm ?_;refine b4 ak G G ady cf (λadz=>?_);refine bh (v':= .int .i64 (i:Int)) G (Rg.dm (ab G G (Rg.dm (eW G G G (bh (v':= .bool false) (by simp) (Rg.dm (ab G G (Rg.dm (ah G G (ab G G (Rg.dm ?_)))))))))));refine ah G G (ab G G (Rg.dm (ah G G ?_)));refine cD (A:=RT.fo) (hn:=by decide) aS nc G G G ka cf hV (λaoD x_ iU X8=>?_);rw[aw]at iU;obtain rfl:=aK (Fu.symm.trans iU);refine Rg.dm (ah G G ?_);refine ar (A:=RT.fo) (B:=RT.int .i64) dB G G I3 q0 fo1 G G q0 X8 cf (λaoE X9=>?_)
    refine Rg.dm (ah G G ?_);refine b4 ak G G X9 cf (λYI=>?_);refine bh (v':= .int .i64 sc) G (Rg.dm (ah G G (ab G G (Rg.dm (ah G G ?_)))));have adA:(qg (λe=>fy e.1.2 (fh q 1)) 0 e)[0]? =some ((0:Int),sc):=by rw[pJ];rfl
    have aoF:(qg (λe=>fy e.1.2 (fh q 1)) 0 e).length=1:=by rw[pJ];rfl
    refine cD (A:=RT.fo) (hn:=by decide) aS nc G G G vI cf hV (λaoG x_ iU Ya=>?_);obtain rfl:=aK ((show(qg (λe=>fy e.1.2 (fh q 1)) 0 e)[(0:Int).toNat]? =_ from adA).symm.trans iU);refine Rg.dm (ah G G ?_);refine ar (A:=RT.fo) (B:=RT.int .i64) dB G G I3 q0 fo1 G G q0 Ya cf (λaoH Yb=>?_);refine Rg.dm (ah G G ?_);refine b4 ak G G Yb cf (λYJ=>?_);refine bh (v':= .int .i64 sc) G (Rg.dm (ah G G (eW G G G (bh (v':= .bool false) (by simp) (Rg.dm (az G G G (Rg.dm (gm (iS G (aR (aL ?_)))))))))));refine ab G G (bB G G G hV (Rg.bg G G (aL (ab G G (bB G G G hV (Rg.bg G G ?_))))));refine⟨G,i+1,(.cons G (.cons G (.cons G (.cons (congrArg (λz=>some (Value.int .i64 z)) (by rw[jB];first|done|rfl)) (.cons rfl .nil))))),?_,?_⟩
    ·exact⟨by omega,_,hM,S,hg,kZ,ka⟩
    ·omega
  ·refine cQ (T.aP (ab G G (ab G G (bN aS G ka G (ic G G G (bh (v':= .bool true) (congrArg Value.bool (decide_eq_true (by rw[show i=(fO l 0 1 8).length by omega,List.take_length]))) (ab G G (ah G G ?_))))))));refine aQ G G E12 (CC hM) (λrl wl hc=>?_);obtain⟨rfl,sl⟩:=hc;replace hg:=hg.le sl.le;replace kZ:=kZ.le (aZ _) sl.le;replace ka:=ka.le sl.le;replace hM:=sl.lt hM;have:=S.size;replace S:=S.ax sl;refine aU G G G (Rg.bg G G (aJ ?_));exact aM G G ⟨G,S.back⟩
end Go.K

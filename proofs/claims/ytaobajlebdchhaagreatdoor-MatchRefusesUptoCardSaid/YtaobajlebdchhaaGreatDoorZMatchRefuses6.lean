/- What the law 'MatchRefuses' needs of walks and plain Lean, part 6: nothing is assumed beyond the texts that it imports. -/
import Derived.KernelRfl
import Derived.Test.YtaobajlebdchhaaGreatDoorProg
import Derived.Test.YtaobajlebdchhaaGreatDoorZMatchRefuses1
import Derived.Test.YtaobajlebdchhaaGreatDoorZMatchRefuses2
import Derived.Test.YtaobajlebdchhaaGreatDoorZMatchRefuses3
import Derived.Test.YtaobajlebdchhaaGreatDoorZMatchRefuses4
import Derived.Test.YtaobajlebdchhaaGreatDoorZMatchRefuses5
set_option linter.unusedVariables false
set_option linter.unusedSimpArgs false
namespace Go.K
open Go.Proofs
namespace TKOf
theorem LF:TI Tryz.prog 36 (.slice none 0 0) 1 24:=by unfold TI;kernel_rfl
theorem mD:TI Tryz.prog 45 (.agg #[(.int .i64 0),(.int .i64 0)]) 2 16:=by unfold TI;kernel_rfl
theorem zY:TI Tryz.prog 261 (.agg #[(.int .i64 0),(.int .i64 0),(.int .i64 0)]) 3 24:=by unfold TI;kernel_rfl
theorem HR:placesOf Tryz.prog 45=[(0,1),(1,1)].map some:=by kernel_rfl
theorem Yu:Enters Tryz.prog 102:=enters Tryz.func102 rfl QZ
theorem alQ:Enters Tryz.prog 158:=enters Tryz.func158 rfl QZ
theorem alR:Enters Tryz.prog 200:=enters Tryz.func200 rfl QZ
end TKOf
open TKOf
set_option maxRecDepth 10000
structure AY (M:aL) (w0:World) (least:Int) (b5 bo ba bb D:Nat) (st:Obj) (vo:Value) (xs:List Fo) (M1:aL) (w:World):Prop where
 lt:Lt M1 w
 S:Step M w0 M1 w aD
 mo:M1 bo
 ma:M1 ba
 mb:M1 bb
 md:M1 D
 mr:M1 (D+1)
 h5:w.heap[b5]? =some (.cells #[.int .i64 least] 3 (0,0))
 o:w.heap[bo]? =some (.cells #[vo] 36 (0,0))
 d:w.heap[D]? =some (.deferred (some []))
 r:w.heap[D+1]? =some st
 ne:(b5<D/\bo<D/\ba<D/\bb<D)/\(bo≠b5/\bo≠ba/\bo≠bb/\b5≠ba/\b5≠bb)/\(w0.heap.size<=bo/\w0.heap.size<=ba/\w0.heap.size<=bb/\w0.heap.size<=D)
 hk:Own RT.fo 45 M1 w (D+2) vo xs
section
variable {M M1 M2 N:aL} {w0 w w':World} {least:Int} {b5 bo ba bb D:Nat} {st st':Obj} {vo:Value} {xs:List Fo}
theorem AY.step (h:AY M w0 least b5 bo ba bb D st vo xs M1 w) (s:Step M1 w M2 w' N) (hN:∀k,N k->k=ba\/k=bb):AY M w0 least b5 bo ba bb D st vo xs M2 w':=by
 obtain⟨⟨e1,e2,e3,e4⟩,⟨e5,e6,e7,e8,e9⟩,Hf,Kz,Ja,OL⟩:=h.ne;have mm:=λ{b:Nat} (hm:M1 b)=>(s.mem b (h.lt b hm)).2 hm
 have no:∀b,b≠ba->b≠bb->¬N b:=λb h1 h2 hn=>by rcases hN b hn with h|h;exact h1 h;exact h2 h
 exact⟨s.lt h.lt,h.S.ck s (λb hb=>by rcases hN b hb with rfl|rfl<;>assumption),mm h.mo,mm h.ma,mm h.mb,mm h.md,mm h.mr,s.bW h.h5 (no _ e8 e9),s.bW h.o (no _ e6 e7),s.bW h.d (no _ q0 q0),s.bW h.r (no _ q0 q0),h.ne,
  h.hk.step s (λk hk hh=>by have:=(h.hk.base k hk).1;rcases hN k hh with h|h<;>omega)⟩
theorem AY.py (h:AY M w0 least b5 bo ba bb D st vo xs M1 w):AY M w0 least b5 bo ba bb D st' vo xs M1 (w.putObj (D+1) st')/\Step M1 w M1 (w.putObj (D+1) st') (λk=>k=D+1):=by
 obtain⟨⟨e1,e2,e3,e4⟩,⟨e5,e6,e7,e8,e9⟩,Hf,Kz,Ja,OL⟩:=h.ne;have s:Step M1 w M1 (w.putObj (D+1) st') (λk=>k=D+1):=ga h.mr;exact⟨⟨s.lt h.lt,h.S.ck s (λb hb=>by omega),h.mo,h.ma,h.mb,h.md,h.mr,s.bW h.h5 q0,s.bW h.o q0,s.bW h.d q0,World.putObj_heap_same (ah h.r),h.ne,h.hk.step s (λk pf hh=>by have:=(h.hk.base k pf).1;omega)⟩,s⟩
theorem AY.grow {Yv:Value} {xs':List Fo} (h:AY M w0 least b5 bo ba bb D st vo xs M1 w) (s:Step M1 w M2 w' (λk=>vo.ownBlock=some k)) (hk:Own RT.fo 45 M2 w' (D+2) Yv xs'):
  (w'.heap[bo]? =some (.cells #[vo] 36 (0,0))/\M2 bo)/\∀{w2:World},Step M2 w' M2 w2 (λk=>k=bo)->w2.heap[bo]? =some (.cells #[Yv] 36 (0,0))->AY M w0 least b5 bo ba bb D st Yv xs' M2 w2:=by
 obtain⟨⟨e1,e2,e3,e4⟩,⟨e5,e6,e7,e8,e9⟩,Hf,Kz,Ja,OL⟩:=h.ne;have hn:∀k,vo.ownBlock=some k->D+2<=k:=λk hk=>(h.hk.base k hk).1
 have mm:=λ{b:Nat} (hm:M1 b)=>(s.mem b (h.lt b hm)).2 hm
 refine ⟨⟨s.bW h.o (λhh=>by have:=hn _ hh;omega),mm h.mo⟩,λ{w2} s2 hx=> ?_⟩;have S':=h.S.ck s (λk hk=>by have:=hn k hk;omega)
 exact⟨s2.lt (s.lt h.lt),S'.ck s2 (λk hk=>by subst hk;exact Hf),mm h.mo,mm h.ma,mm h.mb,mm h.md,mm h.mr,s2.bW (s.bW h.h5 (λhh=>by have:=hn _ hh;omega)) (λhh=>e5 hh.symm),hx,s2.bW (s.bW h.d (λhh=>by have:=hn _ hh;omega)) q0,s2.bW (s.bW h.r (λhh=>by have:=hn _ hh;omega)) q0,h.ne,
  hk.step s2 (λk pf hh=>by have:=(hk.base k pf).1;omega)⟩
end
set_option maxHeartbeats 2000000 in
theorem Js {M:aL} {w0:World} {va vb:Value} {a b:List Fo} {least:Int} (hM:Lt M w0) (mv:((RT.fo).sl).V M w0 a va) (Lz:((RT.fo).sl).V M w0 b vb) (oa:ri a) (ob:ri b) (hl:a.length+b.length<=1099511627776):
  Spec Tryz.prog 102 #[va,vb,.int .i64 least] w0 (λv' w'=>∃M',Lt M' w'∧Step M w0 M' w' aD/\Own RT.fo 45 M' w' w0.heap.size v' (Dq least a b)):=by
 refine tp (args:=[_,_,_]) (fn:=Tryz.f102) Tryz.func102 G (n:=26) Tryz.ntmps102 (T.aP ?_);refine np M G G (λb5 w1 z1 z1' g5 s1=>?_);change w1.heap[b5]? =some (.cells #[.int .i64 least] _ _)at g5;refine Rg.aZ G G (T.aP ?_);refine eB (ins M b5) LF G (λbo w2 z2 z2' go s2=>?_);change w2.heap[bo]? =some (.cells #[.slice none 0 0] _ _)at go;replace g5:=s2.aE g5;have S2:=s1.av s2;have IC:=S2.lt hM;have y1:=s1.size;have y2:=s2.size;refine ad (aK (T.aP (ab G G (ab G G ?_))));refine aQ G G alQ (K3 IC (mv.le S2.le) (Lz.le S2.le)) (λr3 w3 h=>?_);obtain⟨ba,bb,rfl,gA,gB,fh,za,zb,s3⟩:=h;replace g5:=s3.aE g5;replace go:=s3.aE go;have S3:=S2.av s3;have OK:=S3.lt hM;have xa:=ah gA;have xb:=ah gB;have x5:=ah g5;have xo:=ah go;have y3:=s3.size;obtain⟨Mb,xB⟩:∃Mb,Mb=ins (ins (ins (ins M b5) bo) ba) bb:=⟨_,rfl⟩;have mo:Mb bo:=by rw[xB];exact .inr (.inr (.inl G))
 have ma:Mb ba:=by rw[xB];exact .inr (.inl G)
 have mb:Mb bb:=by rw[xB];exact .inl G
 rw[<-xB]at S3 OK s3;have P9:=(mv.le S2.le).le s3.le;have Qa:=(Lz.le S2.le).le s3.le;refine ad (aX ?_);refine T.range (gf:=200) (lb:= #[.pointer (some ⟨ba,0,none⟩),.pointer (some ⟨bb,0,none⟩)]) G alR (λrec tj=>?_);obtain⟨D,hD⟩:∃D,D=w3.heap.size:=⟨_,rfl⟩;rw[<-hD]at tj ⊢;have sA:Step Mb w3 (ins Mb w3.heap.size) (w3.alloc (.deferred (some []))) aD:=(dW _ w3 _).own (bu _) (by simp);have sB:Step (ins Mb w3.heap.size) (w3.alloc (.deferred (some []))) (ins (ins Mb w3.heap.size) (w3.heap.size+1)) ((w3.alloc (.deferred (some []))).alloc (.loop (rec .ready none))) aD:=(dW _ _ _).own (by simp) (by simp);have sC:=sA.av sB;have hDd:(w3.alloc (.deferred (some []))).heap[w3.heap.size]? =some (.deferred (some [])):=dn w3 _;have hR:((w3.alloc (.deferred (some []))).alloc (.loop (rec .ready none))).heap[w3.heap.size+1]? =some (.loop (rec .ready none)):=by have:=dn (w3.alloc (.deferred (some []))) (.loop (rec .ready none));rwa [World.size_alloc]at this
 have y0:=S2.size;refine Spec.mono (HZ (M:=ins (ins Mb w3.heap.size) (w3.heap.size+1)) (va:=va) (vb:=vb) (J:=(λa' b' M1 w=>∃vo xs,AY M w0 least b5 bo ba bb D (.loop (rec .ready none)) vo xs M1 w/\xs++Dq least a' b'=Dq least a b)) (Jx:=λ_=>False) fh (λa' b' M1 w ⟨vo,xs,h,_⟩=>⟨h.lt,h.ma,h.mb⟩) (λa' b' M1 w M2 w' ⟨vo,xs,h,hx⟩ s=>⟨vo,xs,h.step s (λ_ h=>h),hx⟩) (λa' b' M1 wr hJ QW QX U8=>?_) (sC.aE gA) (sC.aE gB) (P9.le sC.le) (Qa.le sC.le) oa ob ⟨.slice none 0 0,[],?_,G⟩) (λ_ w4 h4=>?_)
 rotate_left
 ·rw[hD];exact⟨sC.lt OK,S3.av sC,.inr (.inr mo),.inr (.inr ma),.inr (.inr mb),.inr (.inl G),.inl G,sC.aE g5,sC.aE go,sB.aE hDd,hR,by omega,eJ _ _ _ _ _⟩
 rotate_left
 ·obtain⟨vo,xs,h,hx⟩:=hJ;refine qv (ps:=[12]) (vs:=[.agg #[.int .i64 (iZ a' b'),.int .i64 (rf a' b' 2),.int .i64 (rh a' b' 2)]]) tj h.r G QZ ?_;have xm:=congrArg List.length hx;have Th:=xI least (a.length+b.length) a b;change(Dq least a b).length<=_ at Th;rw[bM]at xm;have Ti:=tx (least:=least) QW QX U8;refine aM ?_;refine eB M1 zY G (λb8 w4 z8 z8' g8 s4=>?_);obtain⟨M2,xD⟩:∃M2,M2=ins M1 b8:=⟨_,rfl⟩;have hm8:M2 b8:=by rw[xD];exact .inl G
  rw[<-xD]at s4;refine dP (M:=M2) (vs:=[.int .i64 (iZ a' b'),.int .i64 (rf a' b' 2),.int .i64 (rh a' b' 2)]) zY G G af4 rfl rfl g8 hm8 (λw5 g8' s5=>?_);change w5.heap[b8]? =some (.cells #[.int .i64 (iZ a' b'),.int .i64 (rf a' b' 2),.int .i64 (rh a' b' 2)] _ _)at g8';have S5:=s4.ck s5 (λk hk=>by subst hk;exact z8);have h3:=h.step S5 (λk hk=>hk.elim);refine ad (⟨G,h3.r,?_⟩);obtain⟨h4,sR⟩:=h3.py (st':= .loop (rec .busy none));have hD8:b8≠D+1:=by have:=ah h.r;omega
  have g8x:=sR.bW g8' hD8;generalize w5.putObj (D+1) _=wB at h4 g8x sR ⊢;refine aX (T.aP (aY db G G I3 QZ G G (aN ak G G G g8x G (br (v':= .int .i64 (rf a' b' 2)) G (aN ak G G G h4.h5 G (br (v':= .int .i64 least) G (ek G G G (ad ?_))))))));refine bF G (λc4=>?_) (λc4=>?_)
  ·refine aM (aN aV G G G h4.o G (br (v':=vo) G (aY db G G I3 QZ G G (aN ak G G G g8x G (br (v':= .int .i64 (iZ a' b')) G (aY db G G I3 QZ rfl rfl (aN ak rfl rfl rfl g8x rfl (br (v':= .int .i64 (rh a' b' 2)) rfl (dN (places:=[(0,1),(1,1)]) dq mD HR rfl ⟨_,_,rfl,rfl,_,_,rfl,rfl,rfl⟩ (out:=[_,_]) ⟨0,[_],rfl,rfl,by simp[Value.cells],1,[_],rfl,rfl,by simp[Value.cells],rfl⟩ ?_)))))))));refine fw (A:=RT.fo) (hn:=by decide) (M:=M2) aV mD QZ G G h4.lt (DW (by have:=Rr QW QX;omega) (Rs a' b' 2)) (.inl rfl) (λu6 w6 tF s6=>?_);have h6:=h4.step s6 (λk hk=>hk.elim);refine dF (M:=M2) (base:=D+2) aV mD rfl rfl rfl rfl (h6.hk) tF bU a11 a11 (by have:=ah h6.r;omega) (λv7 M3 w7 sO s7=>?_);obtain⟨⟨go7,mo7⟩,Vm⟩:=h6.grow s7 sO;refine cn (M:=M3) LF rfl rfl go7 rfl (by obtain⟨_,_,he,_⟩:=sO.isSlice;rw[he];rfl) mo7 (λw8 go8 s8=>?_);have h8:=Vm s8 go8;refine ad ?_
   first
   |(obtain⟨h9,sE⟩:=h8.py (st':= .loop (rec .ready none))
     obtain⟨⟨e1,e2,e3,e4⟩,⟨e5,e6,e7,Hf,Kz⟩,Ja⟩:=h8.ne;exact⟨h8.r,true,rfl,(λ_=>⟨M3,λk=>(k=D+1\/vo.ownBlock=some k\/k=bo)/\M1 k,⟨v7,_,h9,by rw[<-hx,Ti,if_pos c4,rD]⟩,(((((S5.ew a18 (λk hk=>hk.2)).trans sR (λk _ hk=>by subst hk;exact⟨.inl G,h.mr⟩)).av s6).trans s7 (λk pJ hk=>⟨.inr (.inl hk),h.hk.mut_ k hk⟩)).trans s8 (λk _ hk=>by subst hk;exact⟨.inr (.inr rfl),h.mo⟩)).trans sE (λk _ hk=>by subst hk;exact⟨.inl rfl,h.mr⟩),λk hk=>by rcases hk.1 with h1|h1|h1;omega;(have:=(h.hk.base k h1).1;omega);(subst h1;exact⟨e6,e7⟩)⟩),λh=>by(cases h)⟩)
   |(obtain⟨h9,sE⟩:=h4.py (st':= .loop (rec .ready none))
     obtain⟨⟨e1,e2,e3,e4⟩,⟨e5,e6,e7,Hf,Kz⟩,Ja⟩:=h4.ne;exact⟨h4.r,true,rfl,(λ_=>⟨M2,λk=>k=D+1/\M1 k,⟨vo,xs,h9,by rw[<-hx,Ti,if_neg c4,iJ]⟩,((S5.ew a18 (λk hk=>hk.2)).trans sR (λk _ hk=>by subst hk;exact⟨rfl,h.mr⟩)).trans sE (λk _ hk=>by subst hk;exact⟨rfl,h.mr⟩),λk hk=>by omega⟩),λh=>by(cases h)⟩)
  ·refine aR ?_
   first
   |(obtain⟨h9,sE⟩:=h8.py (st':= .loop (rec .ready none))
     obtain⟨⟨e1,e2,e3,e4⟩,⟨e5,e6,e7,Hf,Kz⟩,Ja⟩:=h8.ne;exact⟨h8.r,true,rfl,(λ_=>⟨M3,λk=>(k=D+1\/vo.ownBlock=some k\/k=bo)/\M1 k,⟨v7,_,h9,by rw[<-hx,Ti,if_pos c4,rD]⟩,(((((S5.ew a18 (λk hk=>hk.2)).trans sR (λk _ hk=>by subst hk;exact⟨.inl G,h.mr⟩)).av s6).trans s7 (λk pJ hk=>⟨.inr (.inl hk),h.hk.mut_ k hk⟩)).trans s8 (λk _ hk=>by subst hk;exact⟨.inr (.inr rfl),h.mo⟩)).trans sE (λk _ hk=>by subst hk;exact⟨.inl rfl,h.mr⟩),λk hk=>by rcases hk.1 with h1|h1|h1;omega;(have:=(h.hk.base k h1).1;omega);(subst h1;exact⟨e6,e7⟩)⟩),λh=>by(cases h)⟩)
   |(obtain⟨h9,sE⟩:=h4.py (st':= .loop (rec .ready none))
     obtain⟨⟨e1,e2,e3,e4⟩,⟨e5,e6,e7,Hf,Kz⟩,Ja⟩:=h4.ne;exact⟨h4.r,true,rfl,(λ_=>⟨M2,λk=>k=D+1/\M1 k,⟨vo,xs,h9,by rw[<-hx,Ti,if_neg c4,iJ]⟩,((S5.ew a18 (λk hk=>hk.2)).trans sR (λk _ hk=>by subst hk;exact⟨rfl,h.mr⟩)).trans sE (λk _ hk=>by subst hk;exact⟨rfl,h.mr⟩),λk hk=>by omega⟩),λh=>by(cases h)⟩)
 ·obtain⟨Mz,vo,xs,h,hx⟩:=h4.resolve_right (λh=>h);left;rw[Rt,fV]at hx;obtain⟨h5,_⟩:=h.py (st':= .loop (rec .exhausted none));refine ⟨h.r,?_⟩;generalize w4.putObj (D+1) _=wE at h5 ⊢;have Th:=xI least (a.length+b.length) a b;change(Dq least a b).length<=_ at Th;refine T.aP (aN aV G G G h5.o G (br (v':=vo) G (Rg.aZ G G (aI ?_))));obtain⟨⟨e1,e2,e3,e4⟩,e5,Hf,Kz,Ja,OL⟩:=h5.ne;have sZ:Step Mz wE Mz (wE.putObj D (.deferred none)) (λk=>k=D):=ga h5.md;have SZ:=h5.S.ck sZ (λk hk=>by subst hk;exact OL);rw[<-hx];rw[<-hx]at Th;exact Gj G G h5.d ⟨_,SZ.lt hM,SZ,(h5.hk.step sZ (λk hk hh=>by have:=(h5.hk.base k hk).1;omega)).j2 q0⟩
theorem Jt {M:aL} {w0:World} {va vb:Value} {a b:List Fo} (hM:Lt M w0) (mv:((RT.fo).sl).V M w0 a va) (Lz:((RT.fo).sl).V M w0 b vb) (oa:ri a) (ob:ri b) (hl:a.length+b.length<=1099511627776):
  Spec Tryz.prog 53 #[va,vb] w0 (λv' w'=>∃M',Lt M' w'∧Step M w0 M' w' aD/\Own RT.fo 45 M' w' w0.heap.size v' (Dq 2 a b)):=by
 refine a7 (args:=[_,_]) (fn:=Tryz.f53) Tryz.func53 G (n:=8) Tryz.ntmps53 (T.aP (Rg.aZ G G (T.aP (ab G G (ab G G ?_)))));refine aQ G G Yu (Js hM mv Lz oa ob hl) (λr1 w1 h=>?_);obtain⟨M1,h1,s1,ho⟩:=h;refine Rg.aZ G G (aI ?_);exact aF G G ⟨M1,h1,s1,ho⟩
theorem Qh {M:aL} {w0:World} {va vb:Value} {a b:List Fo} (hM:Lt M w0) (mv:((RT.fo).sl).V M w0 a va) (Lz:((RT.fo).sl).V M w0 b vb) (oa:ri a) (ob:ri b) (hl:a.length+b.length<=1099511627776):Spec Tryz.prog 53 #[va,vb] w0 (λv' w'=>((RT.fo).sl).V M w' (Dq 2 a b) v'∧Step M w0 M w' aD):=
 (Jt hM mv Lz oa ob hl).mono λ_ w ⟨M',h1,h2,h3⟩=>⟨h3.close hM h2 (dm (xI _ (a.length+b.length) a b) q0),h2.back⟩
end Go.K
namespace Go.K
open Go.Proofs
namespace TKMNot
theorem LF:TI Tryz.prog 36 (.slice none 0 0) 1 24:=by unfold TI;kernel_rfl
theorem mD:TI Tryz.prog 45 (.agg #[(.int .i64 0),(.int .i64 0)]) 2 16:=by unfold TI;kernel_rfl
theorem HR:placesOf Tryz.prog 45=[(0,1),(1,1)].map some:=by kernel_rfl
theorem Yu:Enters Tryz.prog 102:=enters Tryz.func102 rfl QZ
theorem ac0:Enters Tryz.prog 118:=enters Tryz.func118 rfl QZ
theorem ac1:Enters Tryz.prog 119:=enters Tryz.func119 rfl QZ
theorem alW:Enters Tryz.prog 168:=enters Tryz.func168 rfl QZ
theorem alX:Enters Tryz.prog 226:=enters Tryz.func226 rfl QZ
end TKMNot
open TKMNot
set_option maxRecDepth 10000
structure AZ (M:aL) (w0:World) (n:Nat) (ws:List Nat) (bs bw bl bo D:Nat) (st:Obj) (vo:Value) (xs:List Fo) (M1:aL) (w:World):Prop where
 lt:Lt M1 w
 S:Step M w0 M1 w aD
 mo:M1 bo
 md:M1 D
 mr:M1 (D+1)
 m0: ¬M1 1
 set:ju 128 205 n ws M1 w bs bw
 hl:w.heap[bl]? =some (.cells #[.pointer (some ⟨bs,0,none⟩)] 49 (0,0))
 o:w.heap[bo]? =some (.cells #[vo] 36 (0,0))
 d:w.heap[D]? =some (.deferred (some []))
 r:w.heap[D+1]? =some st
 tab:∃e fr,w.heap[1]? =some (.cells (Gn.map fun(k:Nat)=>Value.int .u8 (k:Int)).toArray e fr)
 ne:(bo<D/\bl<D/\bs<D/\bw<D)/\(bo≠bl/\bo≠bs/\bo≠bw)/\(w0.heap.size<=bo/\w0.heap.size<=D)
 hk:Own RT.fo 45 M1 w (D+2) vo xs
section
variable {M M1 M2 N:aL} {w0 w w':World} {n:Nat} {ws:List Nat} {bs bw bl bo D:Nat} {st st':Obj} {vo:Value} {xs:List Fo}
theorem AZ.step (h:AZ M w0 n ws bs bw bl bo D st vo xs M1 w) (s:Step M1 w M2 w' aD):AZ M w0 n ws bs bw bl bo D st vo xs M2 w':=by
 have mm:=λ{b:Nat} (hm:M1 b)=>(s.mem b (h.lt b hm)).2 hm
 obtain⟨e,fr,ht⟩:=h.tab;exact⟨s.lt h.lt,h.S.av s,mm h.mo,mm h.md,mm h.mr,λh0=>h.m0 ((s.mem 1 (ah ht)).1 h0),h.set.step s (λh=>h) (λh=>h),s.aE h.hl,s.aE h.o,s.aE h.d,s.aE h.r,⟨e,fr,s.aE ht⟩,h.ne,h.hk.bQ s⟩
theorem AZ.py (h:AZ M w0 n ws bs bw bl bo D st vo xs M1 w):AZ M w0 n ws bs bw bl bo D st' vo xs M1 (w.putObj (D+1) st'):=by
 obtain⟨⟨e1,e2,e3,e4⟩,⟨e5,e6,e7⟩,e8,e9⟩:=h.ne;have s:Step M1 w M1 (w.putObj (D+1) st') (λk=>k=D+1):=ga h.mr;obtain⟨e,fr,ht⟩:=h.tab;exact⟨s.lt h.lt,h.S.ck s (λb hb=>by omega),h.mo,h.md,h.mr,h.m0,h.set.step s q0 q0,s.bW h.hl q0,s.bW h.o q0,s.bW h.d q0,World.putObj_heap_same (ah h.r),⟨e,fr,s.bW ht q0⟩,h.ne,h.hk.step s (λk pf hh=>by have:=(h.hk.base k pf).1;omega)⟩
theorem AZ.grow {Yv:Value} {xs':List Fo} (h:AZ M w0 n ws bs bw bl bo D st vo xs M1 w) (s:Step M1 w M2 w' (λk=>vo.ownBlock=some k)) (hk:Own RT.fo 45 M2 w' (D+2) Yv xs'):
  (w'.heap[bo]? =some (.cells #[vo] 36 (0,0))/\M2 bo)/\∀{w2:World},Step M2 w' M2 w2 (λk=>k=bo)->w2.heap[bo]? =some (.cells #[Yv] 36 (0,0))->AZ M w0 n ws bs bw bl bo D st Yv xs' M2 w2:=by
 obtain⟨⟨e1,e2,e3,e4⟩,⟨e5,e6,e7⟩,e8,e9⟩:=h.ne;have hn:∀k,vo.ownBlock=some k->D+2<=k:=λk hk=>(h.hk.base k hk).1
 have mm:=λ{b:Nat} (hm:M1 b)=>(s.mem b (h.lt b hm)).2 hm
 obtain⟨e,fr,ht⟩:=h.tab;have h0:bo≠1:=λe=>h.m0 (e▸h.mo)
 refine ⟨⟨s.bW h.o (λhh=>by have:=hn _ hh;omega),mm h.mo⟩,λ{w2} s2 hx=> ?_⟩;have S':=h.S.ck s (λk hk=>by have:=hn k hk;omega)
 exact⟨s2.lt (s.lt h.lt),S'.ck s2 (λk hk=>by subst hk;exact e8),mm h.mo,mm h.md,mm h.mr,λh0=>h.m0 ((s.mem 1 (ah ht)).1 h0),(h.set.step s (λhh=>by have:=hn _ hh;omega) (λhh=>by have:=hn _ hh;omega)).step s2 (λhh=>e6 hh.symm) (λhh=>e7 hh.symm),s2.bW (s.bW h.hl (λhh=>by have:=hn _ hh;omega)) (λhh=>e5 hh.symm),hx,s2.bW (s.bW h.d (λhh=>by have:=hn _ hh;omega)) q0,s2.bW (s.bW h.r (λhh=>by have:=hn _ hh;omega)) q0,⟨e,fr,s2.bW (s.bW ht (λhh=>by have:=hn _ hh;omega)) (λhh=>h0 hh.symm)⟩,h.ne,
  hk.step s2 (λk pf hh=>by have:=(hk.base k pf).1;omega)⟩
end
set_option maxHeartbeats 2000000 in
theorem Tj {M:aL} {w0:World} {va:Value} {a:List Fo} {n:Nat} (hM:Lt M w0) (mv:((RT.fo).sl).V M w0 a va) (hn:n<=1099511627776) (gX: ¬M 1) (tab:∃e fr,w0.heap[1]? =some (.cells (Gn.map fun(k:Nat)=>Value.int .u8 (k:Int)).toArray e fr)):
  Spec Tryz.prog 107 #[va,.int .i64 n] w0 (λv' w'=>∃M',Lt M' w'∧Step M w0 M' w' aD/\Own RT.fo 45 M' w' w0.heap.size v' (pY a n)):=by
 have hlen:=cQ mv;obtain⟨et,ft,tab⟩:=tab;have h0w:=ah tab;refine tp (args:=[_,_]) (fn:=Tryz.f107) Tryz.func107 G (n:=32) Tryz.ntmps107 (T.aP (Rg.aZ G G (T.aP (ab G G ?_))));refine aQ G G ac0 (KL (M:=M) hn) (λr1 w1 h=>?_);obtain⟨bs,bw,ws0,M0,rfl,z1,z2,s1,h1,vB⟩:=h;have oN:=s1.lt hM;have t1:=s1.aE tab;refine Rg.aZ G G (aK (T.aP (ab G G (bz aV G mv G (ab G G (ad (aX ?_)))))));refine cY (σ:=Nat) (λs=>[(0,va),(1,.int .i64 n),(5,.pointer (some ⟨bs,0,none⟩)),(12,va),(13,.int .i64 a.length),(14,.int .i64 s)]) (λs w=>s<=a.length/\∃ws M1,Lt M1 w/\Step M w0 M1 w aD/\ju 128 205 n ws M1 w bs bw/\(∀j:Nat,bit ws j=(decide (j<n)&& !rZ (a.take s) (j:Int)))/\¬M1 1/\w.heap[1]? =some (.cells (Gn.map fun(k:Nat)=>Value.int .u8 (k:Int)).toArray et ft)) (λs=>a.length-s) 0 ae1 ?_ ?_
 ·exact⟨bp _,ws0,M0,oN,s1,h1,λj=>by rw[vB j];simp[rZ],λh0=>gX ((s1.mem 1 h0w).1 h0),t1⟩
 ·rintro k wk ⟨hk,ws,M1,adL,SA,hs,zZ,Yi,ht⟩;refine T.aP (cy G G G (ad (aK ?_)));refine bF G (λc3=>?_) (λc3=>?_)
  ·refine aR (aK (aX (T.aP ?_)));obtain⟨⟨d,s⟩,hx⟩:∃x,a[k]? =some x:=⟨_,an q0⟩;refine cB aV mD G G G (mv.le SA.le) bU a48 (λKb Hc zt rq=>?_);obtain rfl:(d,s)=Hc:=cz (aJ (zt.symm.trans (by rw[ar];exact hx)));refine bR (A:=RT.fo) dq G mD QZ G G G rq bU (λv4 pK=>?_);refine rG (A:=RT.fo) (M:=M1) mD G G G G G U3 (by repeat (first|exact bN _ _|refine bg (bO U3) ?_)) a65 (λVW VX mM oC abK=>?_);refine ad (aM (ab G G ?_));refine ao (M:=M1) (A:=RT.fo) (B:=RT.int .i64) dq G G I3 QZ (Z5) G G QZ U3 (by repeat (first|exact bN _ _|refine bg (bO U3) ?_)) (λaaW II=>?_);refine bT ak G G II bU (λhdr=>?_);refine br (v':= .int .i64 d) G ?_;have hs5:=hs.step oC (λh=>h) (λh=>h);have Yr:=oC.lt adL;refine aQ rfl rfl ac1 (Pk (i:=d) hs5 (λj hj=>by rw[zZ j,cr]at hj;exact of_decide_eq_true hj.1)) (λr6 w6 h=>?_);obtain⟨xH,hs6,qP,s6⟩:=h;refine ad (aM (bC G G G q0 (ab G G (ad ?_))));refine⟨G,k+1,ae1,?_,?_⟩
   ·refine⟨by omega,xH,M1,s6.lt Yr,(SA.av oC).ck s6 (λb hb=>by omega),hs6,λj=>?_,Yi,s6.bW (oC.aE ht) q0⟩;rw[qP j,zZ j,JT hx]
    cases rZ (a.take k) (j:Int)<;>simp[eq_comm]
   ·show _-(k+1)<_-k;omega
  ·refine cN (T.aP ?_);obtain rfl:k=a.length:=by omega
   refine eB M1 LF G (λbo w7 z7 z7' g7 s7=>?_);change w7.heap[bo]? =some (.cells #[.slice none 0 0] _ _)at g7;have hM7:=s7.lt adL;have S7:=SA.av s7;have hs7:=hs.step s7 (λh=>h) (λh=>h);have y7:=SA.size;have lbs:=ah hs.s;have lbw:=ah hs.w;refine ad (aK (T.aP (ab G G ?_)));refine aQ G G alW (KJ (M:=ins M1 bo) (bs:=bs) hM7) (λr8 w8 h=>?_);obtain⟨bl,rfl,gl,z8,s8⟩:=h;have hM8:=s8.lt hM7;have S8:=S7.av s8;have hs8:=hs7.step s8 (λh=>h) (λh=>h);have g8:=s8.aE g7;have xl:=ah gl;have y8:=s8.size;have t8:=s8.aE (s7.aE ht)
   have m80: ¬ins M1 bo 1:=by
    rintro(h|h)
    ·omega
    ·exact Yi h
   refine ad (aX ?_);rw[List.take_length]at zZ;have adM:∀j,bit ws j=true->j<n:=λj hj=>by rw[zZ j,cr]at hj;exact of_decide_eq_true hj.1
   refine T.range (gf:=226) (lb:= #[.pointer (some ⟨bl,0,none⟩)]) G alX (λrec tj=>?_);obtain⟨D,hD⟩:∃D,D=w8.heap.size:=⟨_,rfl⟩;rw[<-hD]at tj ⊢;obtain⟨Mb,xB⟩:∃Mb,Mb=ins M1 bo:=⟨_,rfl⟩;have mo:Mb bo:=by rw[xB];exact .inl G
   rw[<-xB]at hM8 S8 hs8 m80;have sA:Step Mb w8 (ins Mb w8.heap.size) (w8.alloc (.deferred (some []))) aD:=(dW _ w8 _).own (bu _) (by simp);have sB:Step (ins Mb w8.heap.size) (w8.alloc (.deferred (some []))) (ins (ins Mb w8.heap.size) (w8.heap.size+1)) ((w8.alloc (.deferred (some []))).alloc (.loop (rec .ready none))) aD:=(dW _ _ _).own (by simp) (by simp);have sC:=sA.av sB;have hDd:(w8.alloc (.deferred (some []))).heap[w8.heap.size]? =some (.deferred (some [])):=dn w8 _;have hR:((w8.alloc (.deferred (some []))).alloc (.loop (rec .ready none))).heap[w8.heap.size+1]? =some (.loop (rec .ready none)):=by have:=dn (w8.alloc (.deferred (some []))) (.loop (rec .ready none));rwa [World.size_alloc]at this
   refine Spec.mono (HB (M:=ins (ins Mb w8.heap.size) (w8.heap.size+1)) (n:=n) (ws:=ws) (bs:=bs) (bw:=bw) (J:=(λp M1 w=>∃vo,AZ M w0 n ws bs bw bl bo D (.loop (rec .ready none)) vo (pY a p) M1 w/\p<=n)) (Jx:=λ_=>False) adM (λp M1 w ⟨vo,h,_⟩=>⟨h.hl,h.set,h.tab⟩) (λp j M1 wr hJ hpj HC jz=>?_) ⟨.slice none 0 0,?_,bp _⟩) (λ_ w4 h4=>?_)
   rotate_left
   ·rw[hD]
    exact⟨sC.lt hM8,S8.av sC,.inr (.inr mo),.inr (.inl G),.inl G,by
     rintro(h|h|h)
     ·omega
     ·omega
     ·exact m80 h,hs8.step sC (λh=>h) (λh=>h),sC.aE gl,sC.aE g8,sB.aE hDd,hR,⟨_,_,sC.aE t8⟩,by omega,eJ _ _ _ _ _⟩
   rotate_left
   ·obtain⟨vo,h,SD⟩:=hJ;refine qv (ps:=[25]) (vs:=[.int .i64 j]) tj h.r G QZ (aM (Rg.aZ G G (⟨G,h.r,?_⟩)));have h1:=h.py (st':= .loop (rec .busy none));generalize wr.putObj (D+1) _=wB at h1 ⊢;refine aX (aM (aN aV G G G h1.o G (br (v':=vo) G (ab G G ?_))));have hjn:j<n:=by have:=adM _ HC;exact this
    have TD:=h1.set.nn;refine dN (places:=[(0,1),(1,1)]) dq mD HR rfl ⟨_,_,rfl,rfl,rfl⟩ (out:=[_,.int .i64 0]) ⟨0,[_],rfl,rfl,by simp[Value.cells],rfl⟩ ?_;refine fw (A:=RT.fo) (hn:=by decide) (M:=M1) aV mD QZ G G h1.lt (DW (a:=(j:Int)) (b:=0) q0 q0) (.inl G) (λu6 w6 tF s6=>?_);have h6:=h1.step s6;have rr:=DX a p;refine dF (M:=M1) (base:=D+2) aV mD rfl rfl rfl rfl (h6.hk) tF bU a11 a11 (by have:=ah h6.r;omega) (λv7 M3 w7 sO s7=>?_);obtain⟨⟨go7,mo7⟩,Vm⟩:=h6.grow s7 sO;refine cn (M:=M3) LF rfl rfl go7 rfl (by obtain⟨_,_,he,_⟩:=sO.isSlice;rw[he];rfl) mo7 (λw8 go8 s8=>?_);have h8:=Vm s8 go8;refine ad ?_;have h9:=h8.py (st':= .loop (rec .ready none));refine⟨h8.r,true,G,(λ_=>⟨M3,v7,?_,by omega⟩),λh=>by(cases h)⟩
    have adN:pY a j=pY a p:=vv j hpj (λt h1 h2=>by
     have h3:=jz t h1 h2;rw[zZ t,decide_eq_true (show t<n by omega),dr]at h3;simpa using h3)
    have hfj:rZ a (j:Int)=false:=by
     have:=zZ j;rw[HC,decide_eq_true hjn,dr]at this;simpa using this.symm
    rw[Bi,adN,hfj];exact h9
   ·obtain⟨p,Mz,⟨vo,h,SD⟩,jM⟩:=h4.resolve_right (λh=>h);left;have h5:=h.py (st':= .loop (rec .exhausted none))
    have jD:pY a n=pY a p:=vv n SD (λt h1 h2=>by
     have h3:=jM t h1;rw[zZ t,decide_eq_true h2,dr]at h3;simpa using h3)
    refine ⟨h.r,?_⟩;generalize w4.putObj (D+1) _=wE at h5 ⊢;have rr:=DX a p;refine T.aP (aN aV G G G h5.o G (br (v':=vo) G (Rg.aZ G G (aI ?_))));obtain⟨⟨e1,e2,e3,e4⟩,e5,e8,e9⟩:=h5.ne;have sZ:Step Mz wE Mz (wE.putObj D (.deferred none)) (λk=>k=D):=ga h5.md;have SZ:=h5.S.ck sZ (λk hk=>by subst hk;exact e9);rw[jD];exact Gj G G h5.d ⟨_,SZ.lt hM,SZ,(h5.hk.step sZ (λk hk hh=>by have:=(h5.hk.base k hk).1;omega)).j2 q0⟩
theorem Yw {M:aL} {w0:World} {va vb:Value} {a b:List Fo} (hM:Lt M w0) (mv:((RT.fo).sl).V M w0 a va) (Lz:((RT.fo).sl).V M w0 b vb) (oa:ri a) (ob:ri b) (hl:a.length+b.length<=1099511627776):
  Spec Tryz.prog 109 #[va,vb] w0 (λv' w'=>∃M',Lt M' w'∧Step M w0 M' w' aD/\Own RT.fo 45 M' w' w0.heap.size v' (Dq 1 a b)):=by
 refine a7 (args:=[_,_]) (fn:=Tryz.f109) Tryz.func109 G (n:=8) Tryz.ntmps109 (T.aP (Rg.aZ G G (T.aP (ab G G (ab G G ?_)))));refine aQ G G Yu (Js hM mv Lz oa ob hl) (λr1 w1 h=>?_);obtain⟨M1,h1,s1,ho⟩:=h;refine Rg.aZ G G (aI ?_);exact aF G G ⟨M1,h1,s1,ho⟩
end Go.K
namespace Go.K
open Go.Proofs
namespace TKQMay
theorem qT:TI Tryz.prog 26 (.slice none 0 0) 1 24:=by unfold TI;kernel_rfl
theorem jA:TI Tryz.prog 28 (.agg #[(.int .i64 0),(.string ⟨#[]⟩),(.string ⟨#[]⟩),(.slice none 0 0),(.slice none 0 0)]) 5 88:=by unfold TI;kernel_rfl
theorem alY:TI Tryz.prog 123 .nilFunc 1 8:=by unfold TI;kernel_rfl
theorem alZ:TI Tryz.prog 264 .nilFunc 1 8:=by unfold TI;kernel_rfl
theorem C7:TI Tryz.prog 267 (.agg #[(.string ⟨#[]⟩),.nilFunc,.nilFunc,.nilFunc]) 4 40:=by unfold TI;kernel_rfl
theorem adO:Enters Tryz.prog 104:=enters Tryz.func104 rfl QZ
theorem al0:Enters Tryz.prog 161:=enters Tryz.func161 rfl QZ
theorem X0:Enters Tryz.prog 162:=enters Tryz.func162 rfl QZ
end TKQMay
open TKQMay
set_option maxRecDepth 10000
theorem jG (q:Qy) (deep:Nat):ik q deep=if 6<deep then 8 else if¬jr q.kind q.term q.words q.kids.length=0 then jr q.kind q.term q.words q.kids.length else uj q.kids (deep+1):=by
 obtain⟨k,t,ws,ks⟩:=q;rw[ik];rfl
theorem Aa {ks:List Qy} {deep i:Nat} {x:Qy} (h:ks[i]? =some x) (gj:∀(j:Nat) y,j<i->ks[j]? =some y->ik y deep=0) (hx: ¬ik x deep=0):uj ks deep=ik x deep:=by
 induction ks generalizing i with
 |nil=>simp at h
 |cons y ks ih=>
  rw[uj]
  cases i with
  |zero=>simp at h;subst h;rw[if_pos hx]
  |succ i=>
   rw[if_neg (λh'=>h' (gj 0 y q0 rfl))];exact ih a84 λj z hj hz=>gj (j+1) z q0 (by simpa using hz)
theorem B0 {ks:List Qy} {deep:Nat} (gj:∀(j:Nat) y,ks[j]? =some y->ik y deep=0):uj ks deep=0:=zM.2 λq hq=>by
 obtain⟨j,hj⟩:=bK.1 hq;exact gj j q hj
theorem Ju (k:Int) (t:Fd) (ws:List (List UInt8)) (n:Nat):0<=jr k t ws n/\jr k t ws n<=9:=by
 unfold jr
 repeat' split
 all_goals omega
theorem B1 {M:aL} {n:Nat} {q:Qy} {v:Value} {deep:Nat} (w0:World) (hM:Lt M w0) (hv:(RT.qy (n+1)).V M w0 q v) (hs:FF q) (hd:deep<=1000) (ih:∀x∈q.kids,∀(deep:Nat) (M:aL) (w:World) (v:Value),Lt M w->(RT.qy n).V M w x v->deep<=7->Spec Tryz.prog 104 #[v,.int .i64 (deep:Int)] w (λv' w'=>v'= .int .i64 (ik x deep)/\Step M w M w' aD)):
  Spec Tryz.prog 104 #[v,.int .i64 (deep:Int)] w0 (λv w=>v= .int .i64 (ik q deep)/\Step M w0 M w aD):=by
 have gX:=hM;obtain⟨QL,hsk⟩:=Yc.1 hs;have FJ:=Ju q.kind q.term q.words q.kids.length;refine a7 (args:=[_,_]) (fn:=Tryz.f104) Tryz.func104 G (n:=55) Tryz.ntmps104 ?_;have S:Step M w0 M w0 aD:=aW;refine T.aP ?_;refine ej (A:=RT.qy (n+1)) (a:=q) G G hM hv (ef _) (λu2 FA fm iO _=>?_);replace hv:=hv.le iO.le;replace hM:=iO.lt hM;have:=S.size;replace S:=S.av iO;refine Rg.aZ G G (aK ?_);have H0:=fm;have S0:=S;have xB:=hM;apply T.UA (M:=M) [0,1,2,3,4,5,6,7,8,9] 8 6 17 (.bool (decide (1<=q.kind/\q.kind<=5))) [] [(cp.mk' (λv w=>∃mb es clock,v= .map (some mb)/\w.heap[mb]? =some (.map (es:List MapEntry).toArray clock)/\(∀(k:Int),∃o,Instr.findNow (.int .i64) (.int .i64 k) es 0=some o/\o.isSome=decide (1<=k/\k<=5)/\KV k ((o.map Prod.snd).getD (.agg #[.string ⟨#[]⟩,.nilFunc,.nilFunc,.nilFunc])) w)) (fun⟨mb,es,cl,h1,h2,h3⟩ s=>⟨mb,es,cl,h1,s.aE h2,λk=>by obtain⟨o,h4,h5,h6⟩:=h3 k;exact⟨o,h4,h5,h6.step s λ_ h=>h.elim⟩⟩)),cp.ptr (RT.int .i64) q.kind,cp.eq (.int .i64 q.kind),(cp.mk' (λv w=>∃u,v= .tuple #[u,.bool (decide (1<=q.kind/\q.kind<=5))]/\KV q.kind u w) (fun⟨u,h1,h2⟩ s=>⟨u,h1,h2.step s λ_ h=>h.elim⟩)),(cp.mk' (λv w=>∃u,v= .tuple #[u,.bool (decide (1<=q.kind/\q.kind<=5))]/\KV q.kind u w) (fun⟨u,h1,h2⟩ s=>⟨u,h1,h2.step s λ_ h=>h.elim⟩)),(cp.mk' (λv w=>KV q.kind v w) (λh s=>h.step s λ_ h=>h.elim)),cp.eq (.bool (decide (1<=q.kind/\q.kind<=5))),(cp.mk' (λv w=>∃bo,v= .pointer (some ⟨bo,0,none⟩)/\FA.heap.size<=bo/\w.heap[bo]? =some (.cells #[.string ⟨#[]⟩,.nilFunc,.nilFunc,.nilFunc] 267 (0,0))) (fun⟨bo,h1,h2,h3⟩ s=>⟨bo,h1,h2,s.aE h3⟩))] [(4,11,λv=>∃u,v= .tuple #[u,.bool (decide (1<=q.kind/\q.kind<=5))])] mixed
 ·simp+decide only[Ay,ti,eI,rE,nZ,n0,nk,fe,k9,xT,cond_true,cond_false,Nat.reduceBEq,Nat.reduceAdd,beq_self_eq_true];rfl
 ·rfl
 ·rfl
 ·rfl
 ·rfl
 ·rfl
 ·rfl
 ·rfl
 ·rfl
 ·rfl
 ·rfl
 ·rfl
 ·intro ρ w h hg;obtain⟨u,hu⟩:=hg _ (cW.2 rfl);simp only[execOp,hu];simp[Instr.extract]
 ·intro g hg;rw[cW]at hg;subst hg;exact⟨_,_,rfl,rfl,show 4<8 by decide,show 4≠6 by decide,rfl,λv w ⟨u,h,_⟩=>⟨u,h⟩⟩
 ·exact a89
 ·exact a89
 ·exact qL.st (qH)
 intro wR1 MS;have sR1:=MS M;replace fm:=fm.le (aS _) sR1.le;replace hM:=sR1.lt hM;have:=S.size;replace S:=S.av sR1;refine⟨?_,?_⟩
 ·refine ay ?_ ?_
  ·intro wD E sD;refine aQ G G al0 (HK _ (sD.lt hM)) (λr0 w0' hc=>?_);obtain⟨mb,es,cl,rfl,h1,h2,h3⟩:=hc;exact ad ⟨G,G,_,G,⟨mb,es,cl,G,h1,h2⟩,h3⟩
  refine ay ?_ ?_
  ·intro wD E sD;refine ao (M:=M) (A:=RT.qy (n+1)) (B:=RT.int .i64) aq G G I3 QZ (yz n) G G (aS _) fm sD.le (λuf tW=>?_);exact a73
  refine ay ?_ ?_
  ·intro wD E sD;intro v1 j9;refine bT ak G G (show cM (RT.int .i64) M wD v1 q.kind from j9) bU (λkZ=>?_);exact a01
  refine ay ?_ ?_
  ·intro wD E sD;intro v0 qY;refine aw ?_;obtain⟨mb,es,cl,rfl,h1,h2⟩:=qY;obtain⟨o,h3,h4,h5⟩:=h2 q.kind;refine Rg.Rx rJ ak C7 G G G h1 h3 G ?_;exact ad ⟨rfl,rfl,_,rfl,⟨_,by rw[h4],h5⟩,aW⟩
  refine ay ?_ ?_
  ·intro wD E sD;intro v3 tK;refine ab G G ?_;exact ad ⟨G,G,_,G,tK,aW⟩
  refine ay ?_ ?_
  ·intro wD E sD;intro v4 pK;obtain⟨u,rfl,hK⟩:=pK;refine cD G G G ?_;exact ad ⟨G,G,_,G,hK,aW⟩
  refine ay ?_ ?_
  ·intro wD E sD;intro v4 pK;obtain⟨u,rfl,hK⟩:=pK;refine cD G G G ?_;exact a01
  refine ay ?_ ?_
  ·intro wD E sD;refine eB M C7 G (λbq wq e1 e2 e3 s=>?_);exact ad ⟨G,G,_,G,⟨bq,G,dm (dm sR1.size sD.size) e1,e3⟩,s.back⟩
  exact j0
 ·intro J4 l4;intro al2 UU;intro xx kO;refine aw ?_;intro WM I1;intro auZ apJ;intro al3 adQ;refine aw ?_;intro abZ OF;obtain⟨bo,rfl,Zg,go⟩:=OF;have hK:KV q.kind al3 J4:=adQ;obtain⟨ca,cb,cc,cd,rfl,h1,h2,h3,h4⟩:=hK.cells;have so:=(sR1.av l4).own Zg (ah go);obtain⟨Mo,hMo⟩:∃Mo,Mo=ins M bo:=⟨_,rfl⟩;have mbo:Mo bo:=by rw[hMo];exact .inl G
  rw[<-hMo]at so;replace hM:=so.lt xB;replace fm:=H0.le (aS _) so.le;replace S:=S0.av so;refine dP (M:=Mo) (vs:=[ca,cb,cc,cd]) C7 G G (by intro u hu;simp at hu;rcases hu with rfl|rfl|rfl|rfl<;>assumption) rfl rfl go mbo (λw8 g8 s8=>?_);have Db:=(s8.mem _ (ah go)).2 mbo;replace hK:=hK.step s8 (λb hb cs h=>by have hb:b=bo:=hb;rw[hb,go]at h;injection h with h;injection h with _ h;exact absurd h QZ);replace S:=S.ck s8 (λb (hb:b=bo)=>by have:=iO.size;omega);replace hM:=s8.lt hM;replace fm:=fm.le (aS _) s8.le;refine ad ⟨G,G,λh=>absurd G h,aG G G (ad ⟨G,G,λh=>absurd G h,pH (aK (aX (T.aP (ab G G (eN G G G (Rg.aZ G G ?_))))))⟩)⟩;refine bF G (λc2=>?_) (λc2=>?_)
  ·refine T.aP (Rg.aZ G G (aI ?_));exact aF rfl rfl ⟨by rw[jG q deep,if_pos q0],S.back⟩
  ·refine aK ?_;by_cases vQ: ¬(1<=q.kind/\q.kind<=5)
   ·apply T.qZ (M:=Mo) mixed [] [cp.eq (.bool (decide (1<=q.kind/\q.kind<=5))),cp.eq (.bool (decide (¬(1<=q.kind/\q.kind<=5)))),cp.eq (.bool true),cp.eq undef,cp.eq undef,cp.eq undef,cp.eq undef,cp.eq undef] 8
    ·rfl
    ·rfl
    ·rfl
    ·rfl
    ·rfl
    ·exact a89
    ·exact qH
    ·refine ay ?_ ?_
     ·intro wD E sD;refine ab G G ?_;exact a01
     refine ay ?_ ?_
     ·intro wD E sD;refine aw (ib G G (br (v':= .bool (decide (¬(1<=q.kind/\q.kind<=5)))) (by rw[decide_not]) ?_));exact a01
     refine ay ?_ ?_
     ·intro wD E sD;refine aw (ab G G ?_);refine ad ⟨G,G,_,G,?_,aW⟩;exact congrArg Value.bool (decide_eq_true vQ)
     refine ay ?_ ?_
     ·intro wD E sD;refine aw ?_;exact a13
     refine ay ?_ ?_
     ·intro wD E sD;refine aw ?_;exact a13
     refine ay ?_ ?_
     ·intro wD E sD;refine aw (aw ?_);exact a13
     refine ay ?_ ?_
     ·intro wD E sD;refine aw ?_;exact a13
     refine ay ?_ ?_
     ·intro wD E sD;refine aw (aw (aw (aw ?_)));exact a13
     exact j0
    ·intro wD4 qE;refine aw (aw (aw (aw (aw (aw (aw (aw ?_)))))));replace hM:=qE.lt hM;replace S:=S.av qE;replace fm:=fm.le (aS _) qE.le;have:=ah g8;replace Db:=(qE.mem _ this).2 Db;replace g8:=qE.aE g8;replace hK:=hK.step qE a18;refine aj G G G G (aj G G G G (aU G G G (Rg.aZ G G (kA G (T.aP (Rg.aZ G G (aI ?_)))))))
     first
     |exact aF rfl rfl ⟨by rw[jG q deep,if_neg q0,Jp vQ];rfl,S.back⟩
     |exact aF rfl rfl ⟨by rw[jG q deep,if_neg q0,Jo (k:=q.kind) (t:=q.term) (ws:=q.words) (cG.1 vQ) (by obtain⟨_,_,_,_⟩:=q;exact c4)];rfl,S.back⟩
   ·obtain⟨bf,mf,cap,rfl,rfl,eb,em,hbf,hmf⟩:=hK.use (cG.1 vQ) QL;apply T.qZ (M:=Mo) mixed [] [cp.eq (.bool (decide (1<=q.kind/\q.kind<=5))),cp.eq (.bool (decide (¬(1<=q.kind/\q.kind<=5)))),cp.eq (.bool false),cp.V (RT.qy (n+1)) q,cp.eq _,cp.eq (.func (.func bf) #[] #[]),cp.V (RT.qy (n+1)) q,cp.V (RT.qy (n+1)) (kc q)] 8
    ·rfl
    ·rfl
    ·rfl
    ·rfl
    ·rfl
    ·exact a89
    ·exact qH
    ·refine ay ?_ ?_
     ·intro wD E sD;refine ab G G ?_;exact a01
     refine ay ?_ ?_
     ·intro wD E sD;refine aw (ib G G (br (v':= .bool (decide (¬(1<=q.kind/\q.kind<=5)))) (by rw[decide_not]) ?_));exact a01
     refine ay ?_ ?_
     ·intro wD E sD;refine aw (ab G G ?_);refine ad ⟨G,G,_,G,?_,aW⟩;exact congrArg Value.bool (decide_eq_false vQ)
     refine ay ?_ ?_
     ·intro wD E sD;refine aw (ae G G ?_);refine bR (M:=Mo) (A:=RT.qy (n+1)) aq G (IQ jA _) (aS _) (ef _) G G fm sD.le (λva mv=>?_);exact ad ⟨G,G,_,G,mv,aW⟩
     refine ay ?_ ?_
     ·intro wD E sD;refine aw (ae G G (aY rK G G alZ QZ G G ?_));exact a01
     refine ay ?_ ?_
     ·intro wD E sD;refine aw (aw (ae G G (aN Tryz.underlying264 G G G (sD.aE g8) G ?_)));exact a01
     refine ay ?_ ?_
     ·intro wD E sD;refine aw (ae G G ?_);refine bR (M:=Mo) (A:=RT.qy (n+1)) aq G (IQ jA _) (aS _) (ef _) G G fm sD.le (λva mv=>?_);exact ad ⟨G,G,_,G,mv,aW⟩
     refine ay ?_ ?_
     ·intro wD E sD;refine aw ?_;intro v6 pw;refine aw (aw (ae G G ?_));refine uI (first:=[]) (captured:=[]) (xs:=[.tmp 28]) G G G eb (hbf (sD.lt hM) pw) (λr7 w7 hc=>?_);exact ad ⟨G,G,_,G,hc.1,hc.2⟩
     exact j0
    ·intro wD4 qE;refine aw (aw (aw ?_));intro au1 adR;refine aw (aw ?_);intro au2 apM;intro au3 adS;replace hM:=qE.lt hM;replace S:=S.av qE;replace fm:=fm.le (aS _) qE.le;have:=ah g8;replace Db:=(qE.mem _ this).2 Db;replace g8:=qE.aE g8;replace hK:=hK.step qE a18;refine ae G G ?_;refine aQ G G X0 (zP (n+1) _ hM adR adS) (λr48 w48 hc=>?_);obtain⟨rfl,Zq⟩:=hc;have:=ah g8;replace Db:=(Zq.mem _ this).2 Db;replace g8:=Zq.aE g8;replace fm:=fm.le (aS _) Zq.le;replace hK:=hK.step Zq a18;replace hM:=Zq.lt hM;have:=S.size;replace S:=S.av Zq;refine ae G G (ib G G (br (v':= .bool (decide (¬q=kc q))) (by simp) (aA G G G (Rg.aZ G G ?_))));refine bF G (λc4=>?_) (λc4=>?_)
     ·refine T.aP (Rg.aZ G G (aI ?_))
      first
      |exact aF rfl rfl ⟨by rw[jG q deep,if_neg q0,Jp vQ];rfl,S.back⟩
      |exact aF rfl rfl ⟨by rw[jG q deep,if_neg q0,Jo (k:=q.kind) (t:=q.term) (ws:=q.words) (cG.1 vQ) (by obtain⟨_,_,_,_⟩:=q;exact c4)];rfl,S.back⟩
     ·refine aR (aK (T.aP (aY rK G G alY QZ G G (aN Tryz.underlying123 G G G g8 G ?_))));refine bR (A:=RT.qy (n+1)) aq G (IQ jA _) (aS _) (ef _) G G fm bU (λv62 al4=>?_);refine uI (first:=[]) (captured:=cap) (xs:=[.tmp 35]) G G G em (hmf hM al4 hK (cG.1 c4)) (λr6 w6 hc=>?_);obtain⟨rfl,s6⟩:=hc;have:=ah g8;replace Db:=(s6.mem _ this).2 Db;replace g8:=s6.aE g8;replace fm:=fm.le (aS _) s6.le;replace hK:=hK.step s6 a18;replace hM:=s6.lt hM;have:=S.size;replace S:=S.av s6;refine Rg.aZ G G (T.aP (ab G G (eV G G G (ad ?_))));refine bF G (λc7=>?_) (λc7=>?_)
      ·refine T.aP (ab G G (Rg.aZ G G (aI ?_)));exact aF rfl rfl ⟨by rw[jG q deep,if_neg q0,if_pos c7],S.back⟩
      ·refine aR (aK (T.aP ?_));refine ao (A:=RT.qy (n+1)) (B:=((RT.qy n).sl (aS n))) aq G G qT Nat.one_pos (Bj n) G G (aS _) fm bU (λu90 Qi=>?_);refine bD bh G G G G G Qi bU (λv91 sJ=>?_);have Ap:=cQ sJ;refine bz (A:=RT.qy n) (hn:=aS _) bh G sJ G (ab G G (ad (aX ?_)));refine cY (σ:=Nat) (λi=>[(1,.int .i64 (deep:Int)),(2,u2),(41,v91),(42,.int .i64 (q.kids.length:Int)),(43,.int .i64 (i:Int))]) (λi w=>i<=q.kids.length/\(∀(j:Nat) y,j<i->q.kids[j]? =some y->ik y (deep+1)=0)/\∃M1,Lt M1 w/\Step M w0 M1 w aD/\((RT.qy n).sl (aS n)).V M1 w q.kids v91) (λi=>q.kids.length-i) 0 a05 ?_ ?_
       ·exact⟨bp _,λj y h=>absurd h (eC _),_,hM,S,sJ⟩
       ·clear hM S sJ fm hK g8 Db;rintro i w ⟨hi,gj,M1,hM,S,sJ⟩;refine T.aP (cy G G G (ad (aK ?_)));refine bF G (λJ3=>?_) (λJ3=>?_)
        ·refine aR (aK (aX (T.aP ?_)));obtain⟨x,hx⟩:∃x,(q.kids)[i]? =some x:=⟨_,an q0⟩;refine cB (A:=RT.qy n) (hn:=aS _) (M:=M1) bh (IQ jA _) G G G sJ bU q0 (λal5 x_ gD Qj=>?_);rw[ar]at gD;obtain rfl:=aJ (hx.symm.trans gD);refine bR (A:=RT.qy (n)) aq G (IQ jA _) (aS _) (ef _) G G Qj bU (λal6 kR=>?_);refine rG (A:=RT.qy n) (M:=M1) (IQ jA _) (by rw[JW];rfl) (ef _) rfl rfl rfl kR bU hM (λau4 au5 Qk Yx _=>?_);replace sJ:=sJ.le Yx.le;replace hM:=Yx.lt hM;have:=S.size;replace S:=S.av Yx;refine ad (T.aP ?_);refine bR (A:=RT.qy (n)) aq G (IQ jA _) (aS _) (ef _) G G Qk bU (λau6 adT=>?_);refine ab G G (bC G G G q0 (br (v':= .int .i64 ((deep+1:Nat):Int)) (by congr 1) ?_));refine aQ G G adO (ih x (au hx) (deep+1) _ _ _ hM adT q0) (λr12 Lw hc=>?_);obtain⟨rfl,lu⟩:=hc;replace sJ:=sJ.le lu.le;replace Qk:=Qk.le (aS _) lu.le;replace hM:=lu.lt hM;have:=S.size;replace S:=S.av lu;refine Rg.aZ G G (T.aP (ab G G (eV G G G (ad ?_))));refine bF G (λwM=>?_) (λwM=>?_)
         ·refine T.aP (ab G G (Rg.aZ G G (aI ?_)));exact aF rfl rfl ⟨by rw[jG q deep,if_neg q0,if_neg c7,Aa hx gj wM],S.back⟩
         ·refine aR (aM (bC G G G q0 (ab G G (ad ?_))));refine⟨G,i+1,a05,?_,?_⟩
          ·refine⟨by omega,λj y hj hy=>?_,_,hM,S,sJ⟩;rcases cI j i with h|h
           ·exact gj j y h hy
           ·obtain rfl:j=i:=by omega
            rw[hx]at hy;cases hy;exact cG.1 wM
          ·omega
        ·refine cN (T.aP (Rg.aZ G G (aI ?_)));exact aF rfl rfl ⟨by rw[jG q deep,if_neg q0,if_neg c7,B0 λj y hj=>gj j y ac7 hj],S.back⟩
theorem kz {M:aL} {w:World} {q:Qy} {v:Value} (h:(RT.qy 0).V M w q v):q.kids=[]:=by
 obtain⟨vs,⟨_,_,_,_,_,_,_,_,_,_,_,_,hk,_⟩,_⟩:=h;exact hk
theorem Ab:∀(n:Nat) {M:aL} {q:Qy} {v:Value} {deep:Nat} (w0:World) (hM:Lt M w0) (hv:(RT.qy n).V M w0 q v) (hs:FF q) (hd:deep<=1000),Spec Tryz.prog 104 #[v,.int .i64 (deep:Int)] w0 (λv w=>v= .int .i64 (ik q deep)/\Step M w0 M w aD)
 |0,M,q,v,deep,w0,hM,hv,hs,hd=>B1 (n:=0) w0 hM (lZ hv) hs hd λx hx=>by rw[kz hv]at hx;cases hx
 |n+1,M,q,v,deep,w0,hM,hv,hs,hd=>B1 w0 hM hv hs hd λx hx deep M w v hM hv hd=>Ab n w hM hv ((Yc.1 hs).2 x hx) q0
theorem K8 {M:aL} {n:Nat} {q:Qy} {v:Value} (w0:World) (hM:Lt M w0) (hv:(RT.qy (n+1)).V M w0 q v) (hs:FF q):
  Spec Tryz.prog 55 #[v] w0 (λv w=>v= .int .i64 (ik q 1)/\Step M w0 M w aD):=by
 refine a7 (args:=[_]) (fn:=Tryz.f55) Tryz.func55 G (n:=5) Tryz.ntmps55 ?_;have S:Step M w0 M w0 aD:=aW;refine T.aP ?_;refine ej (A:=RT.qy (n+1)) (a:=q) G G hM hv (ef _) (λu1 FA fR iO _=>?_);replace hv:=hv.le iO.le;replace hM:=iO.lt hM;have:=S.size;replace S:=S.av iO;refine Rg.aZ G G (T.aP ?_);refine bR (A:=RT.qy (n+1)) aq G (IQ jA _) (aS _) (ef _) G G fR bU (λv10 oO=>?_);refine aQ G G adO (Ab (n+1) (deep:=1) _ hM oO hs QZ) (λr1 w1 hc=>?_);obtain⟨rfl,s1⟩:=hc;replace fR:=fR.le (aS _) s1.le;replace hM:=s1.lt hM;have:=S.size;replace S:=S.av s1;refine Rg.aZ G G (aI ?_);exact aF G G ⟨G,S⟩
end Go.K
namespace Go.K
open Go.Proofs
namespace TKMFits
theorem qT:TI Tryz.prog 26 (.slice none 0 0) 1 24:=by unfold TI;kernel_rfl
theorem jA:TI Tryz.prog 28 (.agg #[(.int .i64 0),(.string ⟨#[]⟩),(.string ⟨#[]⟩),(.slice none 0 0),(.slice none 0 0)]) 5 88:=by unfold TI;kernel_rfl
theorem E53:Enters Tryz.prog 53:=enters Tryz.func53 rfl QZ
theorem Zr:Enters Tryz.prog 56:=enters Tryz.func56 rfl QZ
theorem al8:Enters Tryz.prog 105:=enters Tryz.func105 rfl QZ
theorem al9:Enters Tryz.prog 106:=enters Tryz.func106 rfl QZ
theorem ama:Enters Tryz.prog 107:=enters Tryz.func107 rfl QZ
theorem acZ:Enters Tryz.prog 108:=enters Tryz.func108 rfl QZ
theorem amb:Enters Tryz.prog 109:=enters Tryz.func109 rfl QZ
end TKMFits
open TKMFits
set_option maxRecDepth 10000
theorem jt (fs:List Fd) (q:Qy):eH fs q=if q.kind=1 then qS (iN (cT fs q.term.1) q.term.2).length else if q.kind=5 then qS (pD (cT fs q.term.1) q.words)else if q.kind=2 then(if(q.kids.map (eH fs)).all Option.isSome=true then some (kQ (q.kids.map (eH fs)))else none)else if q.kind=3 then(if(q.kids.map (eH fs)).any Option.isSome=true then some (kQ (q.kids.map (eH fs)))else none)else(if(q.kids.map (eH fs)).any Option.isSome=true then none else some 0):=by
 obtain⟨k,t,ws,ks⟩:=q;rw[eH,zK];rfl
def pF (k:Int) (l:List (Option Int)):Option Int:=if k=2 then(if l.all Option.isSome=true then some (kQ l)else none)else(if l.any Option.isSome=true then some (kQ l)else none)
theorem Ql (o:Option Int):kQ [o]=o.getD 0:=by unfold kQ;simp
theorem Qm (k:Int) (o:Option Int):pF k [o]=o:=by
 unfold pF;rw[Ql]
 cases o<;>simp
theorem B2 (l:List (Option Int)) (o:Option Int):kQ (l++[o])=kQ l+o.getD 0:=by
 unfold kQ;rw[dM,List.sum_append];simp
theorem K9 {l:List (Option Int)} (h:l.any Option.isSome=false):kQ l=0:=by
 unfold kQ
 induction l with
 |nil=>rfl
 |cons o l ih=>
  rw[List.any_cons,Bool.or_eq_false_iff]at h;rw[eI,List.sum_cons,ih h.2]
  cases o with
  |none=>rfl
  |some x=>simp at h
theorem Qn {k:Int} (hk:k=2) (l:List (Option Int)) (o:Option Int):pF k (l++[o])=nW 2 (pF k l) o:=by
 unfold pF nW Pt;rw[if_pos hk,if_pos hk,B2,List.all_append]
 cases hl:l.all Option.isSome<;>cases o<;>simp
theorem Tk {k:Int} (hk: ¬k=2) (l:List (Option Int)) (o:Option Int):pF k (l++[o])=nW 1 (pF k l) o:=by
 unfold pF nW orO;rw[if_neg hk,if_neg hk,B2,List.any_append]
 cases hl:l.any Option.isSome<;>cases o<;>simp[K9,hl]
theorem Qo {k:Int} {l:List (Option Int)} {B:Int} (hB:0<=B/\B<=131072000) (hl:l.length<=8) (h:∀o∈l,∀s,o=some s->0<=s/\s<=B):∀s,pF k l=some s->0<=s/\s<=1048576000:=by
 intro s hs;have hc:=zN hB.1 h;have h2:(l.length:Int)*B<=8*131072000:=Int.mul_le_mul q0 hB.2 hB.1 QZ;unfold pF at hs
 have:s=kQ l:=by
  split at hs<;>split at hs<;>first|exact(aJ hs).symm|cases hs
 omega
theorem Qp {q:Qy} {deep:Nat}:ik q deep=0↔deep<=6/\jr q.kind q.term q.words q.kids.length=0/\∀x∈q.kids,ik x (deep+1)=0:=by
 obtain⟨k,t,ws,ks⟩:=q;exact C5
theorem xQ {f:En->Option Int} {L:List En} (h:L.length<=100000):ri (ij f 0 L):=λp hp=>by have:=oU hp;omega
theorem H6 {x:List UInt8} (h:eA x=true):x.length<=140737488355328:=by
 unfold eA at h;have:=(of_decide_eq_true h).2;omega
theorem Jv {L:List En} {ks:List Qy} {x:Qy} {i deep:Nat} {k:Int} (least:Int) (hl:least=1\/least=2) (hk:least=2↔k=2) (hx:ks[i+1]? =some x) (hn:L.length<=100000) (hF:∀e∈L,iy e.1) (h8:ks.length<=8) (hm:∀x∈ks,ik x (deep+1)=0):Dq least (ij (λe=>pF k ((ks.take (i+1)).map (eH e.1.2))) 0 L) (ij (λe=>eH e.1.2 x) 0 L)=ij (λe=>pF k ((ks.take (i+1+1)).map (eH e.1.2))) 0 L:=by
 have hB:0<=sG (deep+1)/\sG (deep+1)<=131072000:=⟨Fw _,vW q0⟩;rw[Jk hl L 0 q0 λe he s hs=>?_]
 ·refine ku λe _=> ?_
  rw[b7 (i:=i+1),hx,dH,dM];rcases hl with rfl|rfl
  ·exact(Tk (λh=>absurd (hk.2 h) QZ) _ _).symm
  ·exact(Qn (hk.1 G) _ _).symm
 ·have hw:=λk=>qo (hF e he) k
  rcases hs with hs|hs
  ·have:=Qo hB (by rw[b9,bJ];omega) (λo ho s hs=>by
    obtain⟨y,hy,rfl⟩:=cx.1 ho;exact qn e.1.2 hw y (deep+1) (hm y (xi hy)) s hs) s hs
   omega
  ·have:=qn e.1.2 hw x (deep+1) (hm x (au hx)) s hs;omega
theorem Own.foV {M M':aL} {w0 w:World} {v:Value} {L:List En} {f:En->Option Int} (h:Own RT.fo 45 M' w w0.heap.size v (ij f 0 L)) (hM:Lt M w0) (s:Step M w0 M' w aD) (hn:L.length<=100000):((RT.fo).sl).V M w (ij f 0 L) v:=h.close hM s (by have:=kE (f:=f) L 0;omega)
set_option maxHeartbeats 2000000 in
theorem Ac {M:aL} {n:Nat} {L:List En} {q:Qy} {v0 v:Value} {deep:Nat} (w0:World) (hM:Lt M w0) (h0: ¬M 1) (tab:∃e fr,w0.heap[1]? =some (.cells (Gn.map fun(k:Nat)=>Value.int .u8 (k:Int)).toArray e fr)) (hs:cM RT.se M w0 v0 (F9 (jq L))) (fY:BI (-1) L=true) (hn:L.length<=100000) (hv:(RT.qy (n+1)).V M w0 q v) (hm:ik q deep=0) (ih:∀x∈q.kids,∀(M:aL) (w:World) (v:Value),Lt M w->¬M 1->(∃e fr,w.heap[1]? =some (.cells (Gn.map fun(k:Nat)=>Value.int .u8 (k:Int)).toArray e fr))->cM RT.se M w v0 (F9 (jq L))->(RT.qy n).V M w x v->ik x (deep+1)=0->Spec Tryz.prog 56 #[v0,v] w (λv' w'=>∃M',Lt M' w'∧Step M w M' w' aD/\Own RT.fo 45 M' w' w.heap.size v' (ij (λe=>eH e.1.2 x) 0 L))):
  Spec Tryz.prog 56 #[v0,v] w0 (λv w=>∃M',Lt M' w/\Step M w0 M' w aD/\Own RT.fo 45 M' w w0.heap.size v (ij (λe=>eH e.1.2 q) 0 L)):=by
 have gX:=hM;have hF:=kP fY;obtain⟨hd6,rO,Zs⟩:=Qp.1 hm;have hoc:=sF rO;obtain⟨Tl,Tn,H7⟩:=tab;have qY:=hv;obtain⟨_,_,_,UM,sL,_,_⟩:=l1 qY;clear qY;refine a7 (args:=[_,_]) (fn:=Tryz.f56) Tryz.func56 G (n:=65) Tryz.ntmps56 ?_;have S:Step M w0 M w0 aD:=aW;refine T.aP ?_;refine ej (A:=RT.qy (n+1)) (a:=q) G G hM hv (ef _) (λu3 FA gI iO _=>?_);replace hv:=hv.le iO.le;replace hs:=hs.le QZ iO.le;replace hM:=iO.lt hM;have:=S.size;replace S:=S.av iO;refine Rg.aZ G G (aK (T.aP ?_));refine ao (A:=RT.qy (n+1)) (B:=RT.int .i64) aq G G I3 QZ (yz n) G G (aS _) gI bU (λIH mC=>?_);refine bT ak G G mC bU (λum=>?_);refine br (v':= .int .i64 q.kind) G (ad (aX (T.aP (fi G G G (Rg.aZ G G ?_)))));refine bF G (λc2=>?_) (λc2=>?_)
 ·refine T.aP (ab G G ?_);refine ao (A:=RT.qy (n+1)) (B:=RT.fd) aq G G lA QZ (D1 n) G G (aS _) gI bU (λu31 PM=>?_);refine bR (A:=RT.fd) bI G lA QZ G G G PM bU (λv32 PN=>?_);obtain rfl:=ki PN;refine aQ G G al8 (HS (t:=q.term) _ hM hs fY hn sL.1 sL.2) (λr33 w33 hc=>?_);obtain⟨M3,h3l,h3s,h3o⟩:=hc;refine Rg.aZ G G (aI (aF G G ⟨_,h3l,S.av h3s,?_⟩));rw[show ij (λe=>eH e.1.2 q) 0 L=ij (Fy q.term) 0 L from ku λe _=>by rw[jt,if_pos c2];rfl];exact h3o.j2 S.size
 ·refine T.aP (fi G G G (Rg.aZ G G ?_));refine bF G (λc4=>?_) (λc4=>?_)
  ·have h5:=hoc.elim (λh=>absurd h.1 c2) λh=>h.elim id λh=>(by omega:False).elim
   refine T.aP (ab G G ?_);refine ao (A:=RT.qy (n+1)) (B:=RT.fd) aq G G lA QZ (D1 n) G G (aS _) gI bU (λu51 HI=>?_);refine ao (A:=RT.fd) (B:=RT.str) bI G G I9 QZ DZ G G QZ HI bU (λu52 Yy=>?_);refine bD az G G G G G Yy bU (λv53 Yz=>?_);obtain rfl:=dS Yz;refine ao (A:=RT.qy (n+1)) (B:=(RT.str.sl)) aq G G xp QZ (Gr n) G G (aS _) gI bU (λu54 Hy=>?_);refine bD aB G G G G G Hy bU (λv55 Hz=>?_);refine aQ G G al9 (Da (k:=q.term.1) _ hM hs fY hn Hz sL.1 (λx hx=>H6 (ec.1 h5.2.2.2.2.1 x hx)) h5.2.2.2.1 q0) (λr56 w56 hc=>?_);obtain⟨M5,h5l,h5s,h5o⟩:=hc;refine Rg.aZ G G (aI (aF G G ⟨_,h5l,S.av h5s,?_⟩));rw[show ij (λe=>eH e.1.2 q) 0 L=ij (qU q.term.1 q.words) 0 L from ku λe _=>by rw[jt,if_neg c2,if_pos c4];rfl];exact h5o.j2 S.size
  ·refine T.aP (fi G G G (Rg.aZ G G ?_));refine bF G (λc6=>?_) (λc6=>?_)
   ·have pJ:q.kids.length=1:=by omega
    refine T.aP (ab G G ?_);refine ao (A:=RT.qy (n+1)) (B:=((RT.qy n).sl (aS n))) aq G G qT Nat.one_pos (Bj n) G G (aS _) gI bU (λu71 Qq=>?_);refine bD bh G G G G G Qq bU (λv72 To=>?_);obtain⟨x,hx⟩:∃x,q.kids[0]? =some x:=⟨_,an q0⟩;refine cB (A:=RT.qy n) (hn:=aS _) (M:=M) bh (IQ jA _) G G G To bU q0 (λu73 x_ gD YA=>?_);obtain rfl:=aJ (hx.symm.trans gD);refine bR (A:=RT.qy (n)) aq G (IQ jA _) (aS _) (ef _) G G YA bU (λv74 amf=>?_);refine aQ G G Zr (ih x (au hx) _ _ _ hM (λhn=>h0 ((S.mem 1 (ah H7)).1 hn)) ⟨Tl,Tn,S.aE H7⟩ hs amf (Zs _ (au hx))) (λr75 w75 hc=>?_);obtain⟨avd,apR,UW,adV⟩:=hc;have adW:=adV.foV hM UW hn;have Tp:=UW.back;replace hs:=hs.le QZ Tp.le;replace gI:=gI.le (aS _) Tp.le;replace hM:=Tp.lt hM;have:=S.size;replace S:=S.av Tp;refine ab G G ?_;refine aQ G G acZ (KD _ hs) (λr77 w77 hc=>?_);obtain⟨rfl,rfl⟩:=hc;refine br (v':= .int .i64 (L.length:Int)) (by show Value.int .i64 (((L.map _).length:Nat):Int)=_;rw[b9]) ?_;refine aQ G G ama (Tj hM adW q0 h0 ⟨Tl,Tn,S.aE H7⟩) (λr78 w78 hc=>?_);obtain⟨M7,h7l,h7s,h7o⟩:=hc;rw[Pv]at h7o;refine Rg.aZ G G (aI (aF G G ⟨_,h7l,S.av h7s,?_⟩))
    rw[show ij (λe=>eH e.1.2 q) 0 L=ij (λe=>SQ (eH e.1.2 x)) 0 L from ku λe _=>by
     rw[jt,if_neg c2,if_neg c4,if_neg q0,if_neg q0,show q.kids=[x]from by
      obtain⟨y,hy⟩:=List.length_eq_one_iff.1 pJ;rw[hy]at hx;cases hx;exact hy,eI,rE]
     cases eH e.1.2 x<;>rfl]
    exact h7o.j2 S.size
   ·have Uv:0<q.kids.length/\q.kids.length<=8:=by omega
    have WW:q.kind=2\/q.kind=3:=by omega
    refine aR (T.aP (ab G G ?_));refine ao (A:=RT.qy (n+1)) (B:=((RT.qy n).sl (aS n))) aq G G qT Nat.one_pos (Bj n) G G (aS _) gI bU (λu81 P1=>?_);refine bD bh G G G G G P1 bU (λv82 Tq=>?_);obtain⟨x,hx⟩:∃x,q.kids[0]? =some x:=⟨_,an q0⟩;refine cB (A:=RT.qy n) (hn:=aS _) (M:=M) bh (IQ jA _) G G G Tq bU q0 (λu83 x_ gD amg=>?_);obtain rfl:=aJ (hx.symm.trans gD);refine bR (A:=RT.qy (n)) aq G (IQ jA _) (aS _) (ef _) G G amg bU (λv84 amh=>?_);refine aQ G G Zr (ih x (au hx) _ _ _ hM (λhn=>h0 ((S.mem 1 (ah H7)).1 hn)) ⟨Tl,Tn,S.aE H7⟩ hs amh (Zs _ (au hx))) (λr85 w85 hc=>?_);obtain⟨avh,adX,Qr,Jw⟩:=hc;have apT:=Jw.foV hM Qr hn;have S85:=S.av Qr;replace Jw:=Jw.j2 (base':=w0.heap.size) S.size;have Tr:=Qr.back;replace hs:=hs.le QZ Tr.le;replace gI:=gI.le (aS _) Tr.le;replace hM:=Tr.lt hM;have:=S.size;replace S:=S.av Tr;refine Rg.aZ G G (aK (T.aP ?_));refine ao (A:=RT.qy (n+1)) (B:=((RT.qy n).sl (aS n))) aq G G qT Nat.one_pos (Bj n) G G (aS _) gI bU (λu90 Qi=>?_);refine bD bh G G G G G Qi bU (λv91 sJ=>?_);refine Rg.od (A:=RT.qy n) (hn:=aS _) (M:=M) bh (IQ jA _) G G G sJ q0 (λu92 ng=>?_);replace ng:((RT.qy n).sl (aS n)).V M _ (q.kids.drop 1) u92:=ng;refine bz (A:=RT.qy n) (hn:=aS _) bh G ng G (br (v':= .int .i64 ((q.kids.length-1:Nat):Int)) (by rw[cP]) (ab G G (ad (aX ?_))));refine cY (σ:=Nat×Value) (λq'=>[(0,v0),(3,u3),(5,q'.2),(44,u92),(45,.int .i64 ((q.kids.length-1:Nat):Int)),(46,.int .i64 (q'.1:Int))]) (λq' w=>q'.1+1<=q.kids.length/\cM RT.se M w v0 (F9 (jq L))/\cM (RT.qy (n+1)) M w u3 q/\((RT.qy n).sl (aS n)).V M w (q.kids.drop 1) u92/\∃M2,Lt M2 w/\Step M w0 M2 w aD/\Own RT.fo 45 M2 w w0.heap.size q'.2 (ij (λe=>pF q.kind ((q.kids.take (q'.1+1)).map (eH e.1.2))) 0 L)) (λq'=>q.kids.length-q'.1) (0,r85) ae1 ?_ ?_
    ·exact⟨by dsimp only;omega,hs,gI,ng,_,adX,S85,by dsimp only;rw[show ij (λe=>pF q.kind ((q.kids.take (0+1)).map (eH e.1.2))) 0 L=ij (λe=>eH e.1.2 x) 0 L from ku λe _=>by rw[b7,hx];exact Qm _ _];exact Jw⟩
    ·clear hM S hs gI ng;rintro⟨i,vo⟩ w ⟨hi,hs,gI,ng,M2,IC,S2,iz⟩;dsimp only at hi iz ⊢;have S:=S2.back;have hM:=S.lt gX;have ix:=iz.foV gX S2 hn;refine T.aP (cy G G G (ad (aK ?_)));refine bF G (λJ3=>?_) (λJ3=>?_)
     ·refine aR (aK (aX (T.aP ?_)));have TF:i<(q.kids.drop 1).length:=by rw[cP];omega
      obtain⟨x,PZ⟩:∃x,(q.kids.drop 1)[i]? =some x:=⟨_,an TF⟩;have hx:q.kids[i+1]? =some x:=by rw[gY,Nat.add_comm]at PZ;exact PZ
      refine cB (A:=RT.qy n) (hn:=aS _) (M:=M) bh (IQ jA _) G G G ng bU q0 (λal5 x_ gD Qj=>?_);rw[ar]at gD;obtain rfl:=aJ (PZ.symm.trans gD);refine bR (A:=RT.qy (n)) aq G (IQ jA _) (aS _) (ef _) G G Qj bU (λal6 kR=>?_);obtain⟨xw,xk,rfl,xr,xl,hxw,hxk⟩:=l1 (lZ kR);refine eB M jA G (λQs adY apU apV iT xe=>?_);obtain⟨Qt,Jy⟩:∃M',M'=ins M Qs:=⟨_,rfl⟩;rw[<-Jy]at xe;have jH:Qt Qs:=by rw[Jy];exact .inl G
      change adY.heap[Qs]? =some (.cells #[.int .i64 0,.string ⟨#[]⟩,.string ⟨#[]⟩,.slice none 0 0,.slice none 0 0] _ _)at iT;replace hs:=hs.le QZ xe.le;replace gI:=gI.le (aS _) xe.le;replace ng:=ng.le xe.le;replace ix:=ix.le xe.le;replace kR:=kR.le xe.le;replace hM:=xe.lt hM;have:=S.size;replace S:=S.av xe;refine dP (M:=Qt) (vs:=[.int .i64 x.kind,.string ⟨x.term.1.toArray⟩,.string ⟨x.term.2.toArray⟩,xw,xk]) jA G G (Cq hxw hxk) G G iT jH (λavj amj Dd=>?_);have:=ah iT;replace jH:=(Dd.mem _ this).2 jH;replace hs:=hs.le QZ Dd.le;replace gI:=gI.le (aS _) Dd.le;replace ng:=ng.le Dd.le;replace ix:=ix.le Dd.le;replace kR:=kR.le Dd.le;replace hM:=Dd.lt hM;have:=S.size;replace S:=S.trans Dd (λk hk h=>by have h:_=_:=h;subst h;first|(exfalso;omega)|(show _<=_;omega)|exact⟨by first|omega|assumption,(S.mem _ hk).1 ((Dd.mem _ (ah iT)).1 jH)⟩|exact .inl rfl|exact .inr rfl|exact .inr (.inl rfl)|exact .inr (.inr rfl)|exact .inr (.inr (.inl rfl))|exact rfl);have Qu:=amj;clear iT;have iT:=Qu;clear Qu;refine ad (T.aP ?_);refine ao (A:=RT.qy (n+1)) (B:=RT.int .i64) aq G G I3 QZ (yz n) G G (aS _) gI bU (λak1 PF=>?_);refine bT ak G G PF bU (λadZ=>?_);refine br (v':= .int .i64 q.kind) G (fi G G G (ad ?_));refine bF G (λMM=>?_) (λMM=>?_)
      ·refine aM (ab G G (ab G G (eX (vs:=[.int .i64 x.kind,.string ⟨x.term.1.toArray⟩,.string ⟨x.term.2.toArray⟩,xw,xk]) aq G jA G G G iT ?_)));refine aQ G G Zr (ih x (au hx) _ _ _ hM (λhn=>h0 ((S.mem 1 (ah H7)).1 hn)) ⟨Tl,Tn,S.aE H7⟩ hs kR (Zs _ (au hx))) (λavk avl hc=>?_);obtain⟨apW,amk,Qv,YB⟩:=hc;have H8:=YB.foV hM Qv hn;have uy:=Qv.back;have:=ah iT;replace jH:=(uy.mem _ this).2 jH;replace iT:=uy.aE iT;replace hs:=hs.le QZ uy.le;replace gI:=gI.le (aS _) uy.le;replace ng:=ng.le uy.le;replace ix:=ix.le uy.le;replace kR:=kR.le uy.le;replace hM:=uy.lt hM;have:=S.size;replace S:=S.av uy;refine aQ G G E53 (Jt hM ix H8 (xQ hn) (xQ hn) af1) (λrj wj hc=>?_);obtain⟨Mj,pb,Cf,Tt⟩:=hc;rw[Jv (deep:=deep) 2 QZ ⟨λ_=>MM,λ_=>rfl⟩ hx hn hF Uv.2 Zs]at Tt;have Sj:=S.av Cf;replace Tt:=Tt.j2 (base':=w0.heap.size) S.size;have sj:=Cf.back;have:=ah iT;replace jH:=(sj.mem _ this).2 jH;replace iT:=sj.aE iT;replace hs:=hs.le QZ sj.le;replace gI:=gI.le (aS _) sj.le;replace ng:=ng.le sj.le;replace ix:=ix.le sj.le;replace kR:=kR.le sj.le;replace H8:=H8.le sj.le;replace hM:=sj.lt hM;have:=S.size;replace S:=S.av sj;refine Rg.aZ G G (aM (bC G G G q0 (ab G G (ad ?_))));refine⟨G,(i+1,rj),ae1,?_,?_⟩
       ·have lc:=nY gX S;exact⟨by dsimp only;omega,hs.le QZ lc,gI.le (aS _) lc,ng.le lc,_,pb,Sj,Tt⟩
       ·dsimp only;omega
      ·refine aM (ab G G (ab G G (eX (vs:=[.int .i64 x.kind,.string ⟨x.term.1.toArray⟩,.string ⟨x.term.2.toArray⟩,xw,xk]) aq G jA G G G iT ?_)));refine aQ G G Zr (ih x (au hx) _ _ _ hM (λhn=>h0 ((S.mem 1 (ah H7)).1 hn)) ⟨Tl,Tn,S.aE H7⟩ hs kR (Zs _ (au hx))) (λalC alD hc=>?_);obtain⟨apX,aml,Qw,YC⟩:=hc;have H9:=YC.foV hM Qw hn;have uz:=Qw.back;have:=ah iT;replace jH:=(uz.mem _ this).2 jH;replace iT:=uz.aE iT;replace hs:=hs.le QZ uz.le;replace gI:=gI.le (aS _) uz.le;replace ng:=ng.le uz.le;replace ix:=ix.le uz.le;replace kR:=kR.le uz.le;replace hM:=uz.lt hM;have:=S.size;replace S:=S.av uz;refine aQ G G amb (Yw hM ix H9 (xQ hn) (xQ hn) af1) (λrj wj hc=>?_);obtain⟨Mj,pb,Cf,Tt⟩:=hc;rw[Jv (deep:=deep) 1 QZ ⟨λh=>absurd h QZ,λh=>absurd h MM⟩ hx hn hF Uv.2 Zs]at Tt;have Sj:=S.av Cf;replace Tt:=Tt.j2 (base':=w0.heap.size) S.size;have sj:=Cf.back;have:=ah iT;replace jH:=(sj.mem _ this).2 jH;replace iT:=sj.aE iT;replace hs:=hs.le QZ sj.le;replace gI:=gI.le (aS _) sj.le;replace ng:=ng.le sj.le;replace ix:=ix.le sj.le;replace kR:=kR.le sj.le;replace H9:=H9.le sj.le;replace hM:=sj.lt hM;have:=S.size;replace S:=S.av sj;refine Rg.aZ G G (aM (bC G G G q0 (ab G G (ad ?_))));refine⟨G,(i+1,rj),ae1,?_,?_⟩
       ·have lc:=nY gX S;exact⟨by dsimp only;omega,hs.le QZ lc,gI.le (aS _) lc,ng.le lc,_,pb,Sj,Tt⟩
       ·dsimp only;omega
     ·refine cN (T.aP (ab G G (Rg.aZ G G (aI (aF G G ⟨_,IC,S2,?_⟩)))))
      rw[show ij (λe=>eH e.1.2 q) 0 L=ij (λe=>pF q.kind ((q.kids.take (i+1)).map (eH e.1.2))) 0 L from ku λe _=>by
       rw[jt,if_neg c2,if_neg c4,bm (show q.kids.length<=i+1 by omega)];unfold pF;rcases WW with h|h
       ·rw[if_pos h,if_pos h]
       ·rw[if_neg (show¬q.kind=2 by omega),if_pos h,if_neg (show¬q.kind=2 by omega)]]
      exact iz
theorem Ad:∀(n:Nat) {M:aL} {L:List En} {q:Qy} {v0 v:Value} {deep:Nat} (w0:World) (hM:Lt M w0) (h0: ¬M 1) (tab:∃e fr,w0.heap[1]? =some (.cells (Gn.map fun(k:Nat)=>Value.int .u8 (k:Int)).toArray e fr)) (hs:cM RT.se M w0 v0 (F9 (jq L))) (fY:BI (-1) L=true) (hn:L.length<=100000) (hv:(RT.qy n).V M w0 q v) (hm:ik q deep=0),Spec Tryz.prog 56 #[v0,v] w0 (λv w=>∃M',Lt M' w/\Step M w0 M' w aD/\Own RT.fo 45 M' w w0.heap.size v (ij (λe=>eH e.1.2 q) 0 L))
 |0,M,L,q,v0,v,deep,w0,hM,h0,tab,hs,fY,hn,hv,hm=>Ac (n:=0) w0 hM h0 tab hs fY hn (lZ hv) hm λx hx=>by rw[kz hv]at hx;cases hx
 |n+1,M,L,q,v0,v,deep,w0,hM,h0,tab,hs,fY,hn,hv,hm=>Ac w0 hM h0 tab hs fY hn hv hm λx hx M w v hM h0 tab hs hv hm=>Ad n w hM h0 tab hs fY hn hv hm
end Go.K
namespace Go.K
open Go.Proofs
namespace TKMMatch
theorem jA:TI Tryz.prog 28 (.agg #[(.int .i64 0),(.string ⟨#[]⟩),(.string ⟨#[]⟩),(.slice none 0 0),(.slice none 0 0)]) 5 88:=by unfold TI;kernel_rfl
theorem E55:Enters Tryz.prog 55:=enters Tryz.func55 rfl QZ
theorem Zr:Enters Tryz.prog 56:=enters Tryz.func56 rfl QZ
end TKMMatch
open TKMMatch
set_option maxRecDepth 10000
theorem FQ {M:aL} {n:Nat} {L:List En} {q:Qy} {v0 v:Value} (w0:World) (hM:Lt M w0) (h0: ¬M 1) (tab:∃e fr,w0.heap[1]? =some (.cells (Gn.map fun(k:Nat)=>Value.int .u8 (k:Int)).toArray e fr)) (hs:cM RT.se M w0 v0 (F9 (jq L))) (fY:BI (-1) L=true) (hn:L.length<=100000) (hv:(RT.qy (n+1)).V M w0 q v) (lh:FF q):
  Spec Tryz.prog 13 #[v0,v] w0 (λv w=>∃M',Lt M' w/\Step M w0 M' w aD/\Own RT.fo 45 M' w w0.heap.size v (if ik q 1=0 then ij (λe=>eH e.1.2 q) 0 L else[])):=by
 have gX:=hM;obtain⟨Tl,Tn,H7⟩:=tab;refine a7 (args:=[_,_]) (fn:=Tryz.f13) Tryz.func13 G (n:=11) Tryz.ntmps13 ?_;have S:Step M w0 M w0 aD:=aW;refine T.aP ?_;refine ej (A:=RT.qy (n+1)) (a:=q) G G hM hv (ef _) (λu3 FA gI iO _=>?_);replace hv:=hv.le iO.le;replace hs:=hs.le QZ iO.le;replace hM:=iO.lt hM;have:=S.size;replace S:=S.av iO;refine Rg.aZ G G (aK (T.aP ?_));refine bR (A:=RT.qy (n+1)) aq G (IQ jA _) (aS _) (ef _) G G gI bU (λv10 oO=>?_);refine aQ G G E55 (K8 (n:=n) _ hM oO lh) (λr11 w11 hc=>?_);obtain⟨rfl,zw⟩:=hc;replace hs:=hs.le QZ zw.le;replace gI:=gI.le (aS _) zw.le;replace hM:=zw.lt hM;have:=S.size;replace S:=S.av zw;refine eV G G G (ad ?_);refine bF G (λc1=>?_) (λc1=>?_)
 ·refine T.aP (Rg.aZ G G (aI (aF G G ⟨M,hM,S,?_⟩)));rw[if_neg (by first|exact c1|omega)];exact eJ _ _ _ _ _
 ·have hm:ik q 1=0:=by first|exact cG.1 c1|omega
  refine aR (T.aP (ab G G ?_));refine bR (A:=RT.qy (n+1)) aq G (IQ jA _) (aS _) (ef _) G G gI bU (λv31 KX=>?_);refine aQ G G Zr (Ad (n+1) (deep:=1) _ hM (λhn=>h0 ((S.mem 1 (ah H7)).1 hn)) ⟨Tl,Tn,S.aE H7⟩ hs fY hn KX hm) (λr32 w32 hc=>?_);obtain⟨M3,h3l,h3s,h3o⟩:=hc;refine Rg.aZ G G (aI (aF G G ⟨M3,h3l,S.av h3s,?_⟩));rw[if_pos hm];exact h3o.j2 S.size
end Go.K
namespace Go.K
abbrev Hd:=Int×Int×Int
def hn (xs:List Hd) (i:Nat):Int:=(xs.getD i (0,0,0)).1
def YD (f:Nat->Nat):Nat->Nat
 |0=>0
 |k+1=>YD f k+f k
def UX (ls:List (List Int)) (i:Nat):Nat:=(ls.getD i []).length
def vm (ls:List (List Int)):Nat:=YD (UX ls) ls.length
def rem (ls:List (List Int)) (at_:Nat->Nat):Nat:=YD (λi=>UX ls i-at_ i) ls.length
abbrev RT.hd:RT Hd:=RT.pair (RT.int .i64) (RT.pair (RT.int .i64) (RT.int .i64))
theorem hd1:Part RT.hd (RT.int .i64) (λh=>h.2.1) 1:=(fa _ _).trans (jI _ _)
theorem hd2:Part RT.hd (RT.int .i64) (λh=>h.2.2) 2:=(fa _ _).trans (fa _ _)
variable {P:Program} {r:Option Nat} {n:Nat} {L:Sl} {ds:List Deferred} {w:World} {K:Kt} {ops:Array Oper} {rest:List Oper} {d:Nat} {x y:Operand} {ty:TypeId} {pos:String} {af:Array Edge} {α:Type} {A:RT α}
theorem Rg.YE {t e:TypeId} {zv:Value} {bytes:Nat} {M:aL} {base g len cap j:Nat} {xs:List α} {a:α} {v:Value} (hA:A.n=1/\A.agg=false) (hi:TI P t zv 1 bytes) (hx:ev L x=some (.pointer (some ⟨g,j,none⟩))) (hy:ev L y=some v) (h:Own A e M w base (.slice (some ⟨g,0,none⟩) len cap) xs) (hj:j<xs.length) (hv:A.V M w a v)
  (k:∀w',Own A e M w' base (.slice (some ⟨g,0,none⟩) len cap) (xs.set j a)->Step M w M w' (λk=>k=g)->Rg P r n ops rest L ds w' K):
  Rg P r n ops ({dst:=none,op:= .store t x y,type:=ty,pos,after:=af,guard:=none}::rest) L ds w K:=by
 obtain⟨vs,mV,hvv⟩:=hv;have hl:=A.len mV;rw[hA.1]at hl
 obtain⟨u,rfl⟩:∃u,vs=[u]:=by
  match vs,hl with
  |[u],_=>exact⟨u,rfl⟩
 have hvu:v=u:=by rw[hvv];unfold RT.val;rw[hA.2];rfl
 subst hvu;have h1:=A.one mV v (by simp);obtain⟨w',hw',ho,hs⟩:=h.setCells hj mV;obtain⟨⟨C,hr,_⟩,hm⟩:=h;rcases hr.2 with⟨h2,_⟩|⟨g',Q7,cur,h2,_,h3,h4,h5,h6,h7⟩
 ·cases h2
 ·simp only[Value.slice.injEq,Option.some.injEq,Addr.mk.injEq]at h2;obtain⟨⟨rfl,_⟩,rfl,rfl⟩:=h2;rw[hA.1]at h6 hw';refine .U6 a04 G G w' (λρ hρ=>?_) (k w' ho hs);subst hw';simp only[execOp,hρ x _ hx,hρ y _ hy];have:=qW (P:=P) hi (w:=w) (b:=g) (o:=j) (v:=v) h1 (by rw[iS h3 (v:=cur[j]' q0) (by simp)];rfl) (by simp[World.frozen?,h3]);simp[this,World.setCells]
end Go.K
namespace Go.K
open Go.Proofs
namespace TKRMay
theorem amm:Enters Tryz.prog 112:=enters Tryz.func112 rfl QZ
end TKRMay
open TKRMay
set_option maxRecDepth 10000
theorem La {c:Int} (h:0<=c/\c<=1114111): -9223372036854775808<=eh c/\eh c<=9223372036854775807:=by unfold eh;split<;>omega
theorem Lb (l:List UInt8):∀c∈dC l,0<=c/\c<=1114111:=by
 have key:∀n (l:List UInt8),l.length=n->∀c∈dC l,0<=c/\c<=1114111:=by
  intro n
  induction n using Nat.strongRecOn with
  |_ n ih=>
   intro l hn c hc;by_cases hl:l=[]
   ·subst hl;rw[nF]at hc;cases hc
   ·have hw:=jo hl;rw[lY hl]at hc;rcases dz.1 hc with rfl|hc
    ·have:=qA l;omega
    ·exact ih _ (by rw[cP];omega) _ rfl c hc
 exact key _ l G
def qp (sg:List Int) (k:Nat):List Int:=(sg.take k).map eh++sg.drop k
theorem qG (sg:List Int) (k:Nat):(qp sg k).length=sg.length:=by unfold qp;simp;omega
theorem Qx {sg:List Int} {k:Nat} {c:Int} (h:sg[k]? =some c):(qp sg k)[k]? =some c:=by
 have hk:=(al.1 h).1;unfold qp;rw[mT a11,b9,bJ,xR q0,Nat.sub_self,gY,Nat.add_zero,h]
theorem Ia {sg:List Int} {k:Nat} {c:Int} (h:sg[k]? =some c):(qp sg k).set k (eh c)=qp sg (k+1):=by
 have hk:=(al.1 h).1;have h1:((sg.take k).map eh).length=k:=by rw[b9,bJ];omega
 unfold qp;rw[List.set_append_right _ _ q0,h1,Nat.sub_self,eW hk,List.set_cons_zero,b7,h];simp
theorem Lc {sg:List Int} {k:Nat} (h:sg.length<=k):qp sg k=sg.map eh:=by
 unfold qp;rw[bm h,ja h,fV]
theorem FR {M:aL} {l:List UInt8} (w0:World) (hM:Lt M w0) (hl:l.length<=3900000):
  Spec Tryz.prog 112 #[.string ⟨l.toArray⟩] w0 (λv w=>v= .string ⟨(gN ((dC l).map eh)).toArray⟩/\Step M w0 M w aD):=by
 have gX:=hM;have qK:=gF l;refine a7 (args:=[_]) (fn:=Tryz.f112) Tryz.func112 G (n:=23) Tryz.ntmps112 ?_;have S:Step M w0 M w0 aD:=aW;refine T.aP (Rg.aZ G G (T.aP (ab G G ?_)));refine aQ G G VN (yJ _ hM q0) (λvs ws hc=>?_);obtain⟨M1,oN,S1,ho⟩:=hc;refine Rg.aZ G G (aK (T.aP (Rg.aZ G G (aX ?_))));refine cY (σ:=Nat×Value) (λq=>[(3,q.2),(4,.int .i64 (q.1:Int))]) (λq w=>q.1<=(dC l).length/\∃M1,Lt M1 w/\Step M w0 M1 w aD/\Own (RT.int .i64) 3 M1 w w0.heap.size q.2 (qp (dC l) q.1)) (λq=>(dC l).length-q.1) (0,vs) a68 ?_ ?_
 ·exact⟨bp _,M1,oN,S1,by unfold qp;simpa using ho⟩
 ·clear oN S1 ho S hM;rintro⟨k,u⟩ w ⟨hk,M1,oN,S1,ho⟩;dsimp only at hk ho ⊢;refine aK (T.aP (ab G G (ab G G (iV ax G ho G (br (v':= .int .i64 ((dC l).length:Int)) (by rw[qG]) (cy G G G (ad ?_)))))));refine bF G (λc3=>?_) (λc3=>?_)
  ·refine aR (aK (aX (aM (ab G G (ab G G (ab G G (ab G G ?_)))))));obtain⟨c,hc⟩:∃c,(dC l)[k]? =some c:=⟨_,an q0⟩;have hcr:=Lb l c (au hc);have hck:=Qx hc;refine Rg.abz ax I3 QZ rfl rfl rfl ho (by rw[qG];omega) (λu54 x_ gD Hy=>?_);rw[ar]at gD;obtain rfl:=aJ (hck.symm.trans gD);refine Rg.abA ak G G G G G Hy (λv55 Hz=>?_);obtain⟨rfl,_⟩:=LK.1 Hz;refine aQ G G aag (yF c _ hcr) (λr56 w56 hc=>?_);obtain⟨rfl,rfl⟩:=hc;obtain⟨g,cap,_,rfl,hmg,_,_⟩:=ho.elem QZ hck;refine Rg.yu ax I3 rfl rfl rfl (by rw[qG];omega) ?_;refine Rg.YE (M:=M1) (a:=eh c) ⟨rfl,rfl⟩ I3 rfl rfl ho (by rw[ar,qG];omega) (gJ (La hcr)) (λw6 ze s6=>?_);rw[ar,Ia hc]at ze;refine ad (aM (ab G G (bC G G G q0 (Rg.aZ G G ?_))));refine⟨G,(k+1,_),a68,?_,?_⟩
   ·exact⟨by dsimp only;omega,M1,s6.lt oN,S1.ck s6 (λb hb=>by have hb:b=g:=hb;have:=(ho.base g rfl).1;omega),ze⟩
   ·dsimp only;omega
  ·refine cN (T.aP (ab G G ?_));rw[Lc q0]at ho;refine aQ G G VQ (sf (M:=rm M1 u) _ (λb hb=>oN b hb.1) (ho.view (by rw[b9];omega)) (by rw[b9];omega)) (λr6 w6 hc=>?_);obtain⟨rfl,s6⟩:=hc;refine Rg.aZ G G (aI ?_);exact aF G G ⟨G,S1.back.av (s6.any M)⟩
theorem Ae {M:aL} {l:List UInt8} (w0:World) (hM:Lt M w0) (hl:l.length<=3900000):
  Spec Tryz.prog 59 #[.string ⟨l.toArray⟩] w0 (λv w=>v= .bool (eA l)/\Step M w0 M w aD):=by
 have gX:=hM;have qK:=gF l;refine a7 (args:=[_]) (fn:=Tryz.f59) Tryz.func59 G (n:=35) Tryz.ntmps59 ?_;have S:Step M w0 M w0 aD:=aW;refine T.aP (Rg.aZ G G (T.aP (ab G G ?_)));refine aQ G G VN (wI _ hM q0) (λr1 w1 hc=>?_);obtain⟨hr,s1⟩:=hc;replace hM:=s1.lt hM;have:=S.size;replace S:=S.av s1;refine Rg.aZ G G (aK (T.aP (ab G G (bz ax G hr G (fi G G G (ab G G ?_))))));refine aO (g:=11) G (λSU=>?_) (λSU=>?_)
 ·refine aj G G G G (aj G G G G (aj G G G G (aU G G G (ab G G (aj G G G G (aj G G G G (aj G G G G (aj G G G G (aU G G G (ad (kA G ?_)))))))))));refine T.aP (Rg.aZ G G (aI ?_))
  first
  |exact aF rfl rfl ⟨congrArg Value.bool aj3,S⟩
  |exact aF rfl rfl ⟨congrArg Value.bool (by rw[gS];rintro⟨_,h,_⟩;omega),S⟩
  |exact aF rfl rfl ⟨congrArg Value.bool ak3,S⟩
 ·refine ae G G (ab G G (ae G G (rF az G G (br (v':= .int .i64 (l.length:Int)) a81 (ae G G (eN G G G (aA G G G (ab G G ?_))))))));refine aO (g:=16) G (λXE=>?_) (λXE=>?_)
  ·refine aj G G G G (aj G G G G (aj G G G G (aj G G G G (aU G G G (ad (kA G (T.aP (Rg.aZ G G (aI ?_)))))))))
   first
   |exact aF rfl rfl ⟨congrArg Value.bool aj3,S⟩
   |exact aF rfl rfl ⟨congrArg Value.bool (by rw[gS];rintro⟨_,h,_⟩;omega),S⟩
   |exact aF rfl rfl ⟨congrArg Value.bool ak3,S⟩
  ·refine ae G G (ab G G (ae G G ?_));refine aQ G G amm (FR _ hM hl) (λavr avs hc=>?_);obtain⟨rfl,YF⟩:=hc;replace hr:=hr.le YF.le;replace hM:=YF.lt hM;have:=S.size;replace S:=S.av YF;refine ae G G (ab G G (ae G G (Rg.Du G G G (aA G G G (ad ?_)))));refine bF G (λc2=>?_) (λc2=>?_)
   ·refine T.aP (Rg.aZ G G (aI ?_))
    first
    |exact aF rfl rfl ⟨congrArg Value.bool aj3,S⟩
    |exact aF rfl rfl ⟨congrArg Value.bool (by rw[gS];rintro⟨_,h,_⟩;omega),S⟩
    |exact aF rfl rfl ⟨congrArg Value.bool ak3,S⟩
   ·have hf:dC l≠[]/\l.length<=30/\gN ((dC l).map eh)=l:=by
     first
     |exact⟨λe=>SU ai0,by omega,cG.1 c2⟩
     |(exfalso;exact c2 trivial)
     |(exfalso;exact c2 G)
    refine aR (aK (T.aP (Rg.aZ G G (aX ?_))));refine cY (σ:=Nat) (λk=>[(3,r1),(4,.int .i64 (k:Int))]) (λk w=>k<=(dC l).length/\Lt M w/\Step M w0 M w aD/\((RT.int .i64).sl).V M w (dC l) r1/\∀(j:Nat) c,j<k->(dC l)[j]? =some c->oB c=true) (λk=>(dC l).length-k) 0 a68 ?_ ?_
    ·exact⟨bp _,hM,S,hr,λj c h=>absurd h (eC _)⟩
    ·clear hM S hr;rintro k w ⟨hk,hM,S,hr,gj⟩;refine aK (T.aP (ab G G (ab G G (bz ax G hr G (cy G G G (ad ?_))))));refine bF G (λc5=>?_) (λc5=>?_)
     ·refine aR (aK (aX (T.aP (ab G G (ab G G ?_)))));obtain⟨c,hc⟩:∃c,(dC l)[k]? =some c:=⟨_,an q0⟩;refine cB ax I3 G G G hr bU q0 (λu72 x_ gD YG=>?_);rw[ar]at gD;obtain rfl:=aJ (hc.symm.trans gD);refine bT ak G G YG bU (λkZ=>?_);refine aQ G G VO (yG c _) (λr wc hc=>?_);obtain⟨rfl,rfl⟩:=hc;refine Rg.aZ rfl rfl (T.aP (ab rfl rfl (ib rfl rfl (br (v':= .bool (decide (oB c=false))) (by cases oB c<;>rfl) (ad ?_)))));refine bF G (λc8=>?_) (λc8=>?_)
      ·refine T.aP (Rg.aZ G G (aI ?_));exact aF rfl rfl ⟨congrArg Value.bool (by rw[gS];rintro⟨_,_,_,h⟩;have:=h c (au hc);rw[c8]at this;cases this),S⟩
      ·refine aR (aM (ab G G (bC G G G q0 (Rg.aZ G G ?_))));refine⟨G,k+1,a68,?_,?_⟩
       ·refine ⟨by omega,hM,S,hr,λj x hj hx=> ?_⟩;rcases cI j k with h|h
        ·exact gj j x h hx
        ·obtain rfl:j=k:=by omega
         rw[hc]at hx;cases hx;simpa using c8
       ·omega
     ·refine cN (T.aP (Rg.aZ G G (aI ?_)));exact aF rfl rfl ⟨congrArg Value.bool ((zQ l).2 ⟨hf.1,hf.2.1,hf.2.2,λc hc=>by obtain⟨j,hj⟩:=bK.1 hc;exact gj j c ac7 hj⟩).symm,S⟩
end Go.K
namespace Go.K
open Go.Proofs
namespace TKR12A
theorem qT:TI Tryz.prog 26 (.slice none 0 0) 1 24:=by unfold TI;kernel_rfl
theorem jA:TI Tryz.prog 28 (.agg #[(.int .i64 0),(.string ⟨#[]⟩),(.string ⟨#[]⟩),(.slice none 0 0),(.slice none 0 0)]) 5 88:=by unfold TI;kernel_rfl
theorem E59:Enters Tryz.prog 59:=enters Tryz.func59 rfl QZ
theorem ad0:Enters Tryz.prog 110:=enters Tryz.func110 rfl QZ
theorem amn:Enters Tryz.prog 169:=enters Tryz.func169 rfl QZ
theorem amo:Enters Tryz.prog 228:=enters Tryz.func228 rfl QZ
end TKR12A
open TKR12A
set_option maxRecDepth 10000
theorem FT {M:aL} {t:Fd} {v:Value} (w0:World) (hM:Lt M w0) (hv:RT.fd.V M w0 t v):
  Spec Tryz.prog 228 #[v] w0 (λv w=>v= .bool (decide (t=([],[])))/\Step M w0 M w aD):=by
 refine a7 (args:=[_]) (fn:=Tryz.f228) Tryz.func228 G (n:=11) Tryz.ntmps228 ?_;have S:Step M w0 M w0 aD:=aW;refine T.aP ?_;refine ej (A:=RT.fd) (a:=t) G G hM hv G (λu1 w1 fR s0 _=>?_);replace hv:=hv.le s0.le;replace hM:=s0.lt hM;have:=S.size;replace S:=S.av s0;refine Rg.aZ G G (T.aP ?_);refine ao (A:=RT.fd) (B:=RT.str) bI G G I9 QZ DZ G G QZ fR bU (λIH mC=>?_);refine bD az G G G G G mC bU (λv11 SV=>?_);obtain rfl:=dS SV;refine Rg.sY (p:=t.1) (q:=[]) G G G (ab G G ?_);refine aO (g:=6) G (λiY=>?_) (λiY=>?_)
 ·refine ae G G ?_;refine ao (A:=RT.fd) (B:=RT.str) bI G G I9 QZ QO G G QZ fR bU (λKH qj=>?_);refine ae G G ?_;refine bD az G G G G G qj bU (λv15 amp=>?_);obtain rfl:=dS amp;refine ae G G (Rg.sY (p:=t.2) (q:=[]) G G G (aU G G G (Rg.aZ G G (aI ?_))))
  first
  |exact aj5
  |exact aF G G ⟨congrArg Value.bool (decide_eq_false (λh=>iY (by rw[h]))).symm,S⟩
 ·refine aj G G G G (aj G G G G (aj G G G G (aA G G G (Rg.aZ G G (aI ?_)))))
  first
  |exact aj5
  |exact aF G G ⟨congrArg Value.bool (decide_eq_false (λh=>iY (by rw[h]))).symm,S⟩
theorem UY {a b c:Prop} [Decidable a] [Decidable b] [Decidable c] (h:a):some (Value.bool true)=some (Value.bool (decide (a\/b\/c))):=by rw[decide_eq_true (Or.inl h)]
theorem UZ {a b c:Prop} [Decidable a] [Decidable b] [Decidable c] (h:b):some (Value.bool true)=some (Value.bool (decide (a\/b\/c))):=by rw[decide_eq_true (Or.inr (Or.inl h))]
theorem J3c {a b c:Prop} [Decidable a] [Decidable b] [Decidable c] (h: ¬a) (h2: ¬b):some (Value.bool (decide c))=some (Value.bool (decide (a\/b\/c))):=congrArg _ (congrArg _ (decide_eq_decide.2 ⟨λx=> .inr (.inr x),λx=>x.elim (λy=>absurd y h) λx=>x.elim (λy=>absurd y h2) id⟩))
theorem J3d {a b k c:Prop} [Decidable a] [Decidable b] [Decidable k] [Decidable c] (h: ¬a) (h2: ¬b) (h3:k):some (Value.bool (decide c))=some (Value.bool (decide (a\/b\/k/\c))):=congrArg _ (congrArg _ (decide_eq_decide.2 ⟨λx=> .inr (.inr ⟨h3,x⟩),λx=>x.elim (λy=>absurd y h) λx=>x.elim (λy=>absurd y h2) And.right⟩))
theorem QY {a b c:Prop} [Decidable a] [Decidable b] [Decidable c] (h: ¬a) (h2: ¬b) (h3: ¬c):some (Value.bool false)=some (Value.bool (decide (a\/b\/c))):=congrArg _ (congrArg _ (decide_eq_false λx=>x.elim h λx=>x.elim h2 h3).symm)
theorem YH {α:Type} {l:List α} (h: ¬0<(l.length:Int)):l=[]:=cL.1 q0
theorem ad2 {α:Type} {l:List α} (h:0<(l.length:Int)): ¬l=[]:=λe=>by rw[e]at h;simp at h
theorem amr {k:Int} {t:Fd} {ws:List (List UInt8)} {n:Nat} (h:k<1\/5<k):jr k t ws n=9:=by unfold jr;rw[if_pos h]
theorem ams {k:Int} {t:Fd} {ws:List (List UInt8)} {n:Nat} (h1:2<=k/\k<=4) (h: ¬t=([],[])\/¬ws=[]\/n=0):jr k t ws n=9:=by unfold jr;rw[if_neg q0,if_pos h1,if_pos h]
theorem ad3 {k:Int} {t:Fd} {ws:List (List UInt8)} {n:Nat} (h1:2<=k/\k<=4) (h: ¬(¬t=([],[])\/¬ws=[]\/n=0)):jr k t ws n=if 8<n\/(k=4/\1<n)then 7 else 0:=by unfold jr;rw[if_neg q0,if_pos h1,if_neg h]
theorem amt {k:Int} {t:Fd} {ws:List (List UInt8)} {n:Nat} (h0:1<=k/\k<=5) (h1: ¬(2<=k/\k<=4)) (h:0<n\/(k=1/\¬ws=[])\/(k=5/\¬t.2=[])):jr k t ws n=9:=by unfold jr;rw[if_neg q0,if_neg h1,if_pos h]
theorem Ib {k:Int} {t:Fd} {ws:List (List UInt8)} {n:Nat} (h0:1<=k/\k<=5) (h1: ¬(2<=k/\k<=4)) (h: ¬(0<n\/(k=1/\¬ws=[])\/(k=5/\¬t.2=[]))):jr k t ws n=if ez t.1=false then 4 else if k=1 then(if eA t.2=true then 0 else 9)else if ws=[]then 9 else if ws.all eA=false then 9 else if 6<ws.length then 7 else 0:=by unfold jr;rw[if_neg q0,if_neg h1,if_neg h]
set_option maxHeartbeats 4000000 in
theorem Ld {M:aL} {n:Nat} {q:Qy} {v:Value} (w0:World) (hM:Lt M w0) (hv:(RT.qy (n+1)).V M w0 q v) (QL:SzO q.term q.words):
  Spec Tryz.prog 169 #[v] w0 (λv w=>v= .int .i64 (jr q.kind q.term q.words q.kids.length)/\Step M w0 M w aD):=by
 have gX:=hM;have qY:=hv;refine a7 (args:=[_]) (fn:=Tryz.f169) Tryz.func169 G (n:=120) Tryz.ntmps169 ?_;have S:Step M w0 M w0 aD:=aW;refine T.aP ?_;refine ej (A:=RT.qy (n+1)) (a:=q) G G hM hv (ef _) (λu1 FA fR iO _=>?_);replace hv:=hv.le iO.le;replace hM:=iO.lt hM;have:=S.size;replace S:=S.av iO;refine Rg.aZ G G (aK ?_);refine T.mI [(1,u1),(15,.bool (decide (q.kind<1\/q.kind>5)))] ?_ ?_
 ·refine aM ?_;refine ao (A:=RT.qy (n+1)) (B:=RT.int .i64) aq G G I3 QZ (yz n) G G (aS _) fR bU (λyX kb=>?_);refine bT ak G G kb bU (λad4=>?_);refine br (v':= .int .i64 q.kind) G (cy G G G (ab G G ?_));refine aO (g:=11) G (λiY=>?_) (λiY=>?_)
  ·refine aj G G G G (aj G G G G (aj G G G G (aU G G G (ad ?_))));exact⟨rfl,rfl,rfl,.cons rfl a06⟩
  ·refine ae G G ?_;refine ao (A:=RT.qy (n+1)) (B:=RT.int .i64) aq G G I3 QZ (yz n) G G (aS _) fR bU (λRJ ad5=>?_);refine ae G G ?_;refine bT ak G G ad5 bU (λad6=>?_);refine br (v':= .int .i64 q.kind) G (ae G G (eN G G G (aA G G G (ad ?_))));exact⟨rfl,rfl,rfl,.cons rfl a06⟩
 ·refine bF G (λc1=>?_) (λc1=>?_)
  ·refine T.aP (Rg.aZ G G (aI ?_));exact aF G G ⟨congrArg _ (cz (amr q0)),S⟩
  ·have U0:1<=q.kind/\q.kind<=5:=by omega
   refine aR (T.aP ?_);refine ao (A:=RT.qy (n+1)) (B:=RT.fd) aq G G lA QZ (D1 n) G G (aS _) fR bU (λu30 PL=>?_);refine bR (A:=RT.fd) bI G lA QZ G G G PL bU (λv31 KX=>?_);refine aQ G G amo (FT _ hM KX) (λr32 w32 hc=>?_);obtain⟨rfl,s32⟩:=hc;replace fR:=fR.le (aS _) s32.le;replace hM:=s32.lt hM;have:=S.size;replace S:=S.av s32;refine Rg.aZ G G (T.aP ?_);refine ao (A:=RT.qy (n+1)) (B:=RT.fd) aq G G lA QZ (D1 n) G G (aS _) fR bU (λu40 Hx=>?_);refine ao (A:=RT.fd) (B:=RT.str) bI G G I9 QZ DZ G G QZ Hx bU (λu41 amv=>?_);refine bD az G G G G G amv bU (λv42 amw=>?_);obtain rfl:=dS amw;obtain⟨_,_,_,_,sL,_,_⟩:=l1 qY;refine aQ G G E58 (sk q.term.1 sL.1 _) (λr43 w43 hc=>?_);obtain⟨rfl,rfl⟩:=hc;refine Rg.aZ G G (aK ?_);refine T.mI [(1,u1),(3,.bool (decide (q.term=([],[])))),(4,.bool (ez q.term.1)),(30,.bool (decide (q.kind>=2/\q.kind<=4)))] ?_ ?_
   ·refine aM ?_;refine ao (A:=RT.qy (n+1)) (B:=RT.int .i64) aq G G I3 QZ (yz n) G G (aS _) fR bU (λXc BE=>?_);refine bT ak G G BE bU (λad7=>?_);refine br (v':= .int .i64 q.kind) G (ek G G G (ab G G ?_));refine aO (g:=26) G (λpE=>?_) (λpE=>?_)
    ·refine ae G G ?_;refine ao (A:=RT.qy (n+1)) (B:=RT.int .i64) aq G G I3 QZ (yz n) G G (aS _) fR bU (λaaB ad8=>?_);refine ae G G ?_;refine bT ak G G ad8 bU (λad9=>?_);refine br (v':= .int .i64 q.kind) G (ae G G (fN G G G (aU G G G (ad ?_))));exact⟨rfl,rfl,rfl,.cons rfl (.cons rfl (.cons rfl a06))⟩
    ·refine aj G G G G (aj G G G G (aj G G G G (aA G G G (ad ?_))));exact⟨rfl,rfl,rfl,.cons rfl (.cons rfl (.cons rfl a06))⟩
   ·refine bF G (λc5=>?_) (λc5=>?_)
    ·have LG:2<=q.kind/\q.kind<=4:=by omega
     refine aK ?_;refine T.mI [(1,u1),(3,.bool (decide (q.term=([],[])))),(4,.bool (ez q.term.1)),(44,.bool (decide ((¬q.term=([],[]))\/(0<(q.words.length:Int))\/(q.kids.length:Int)=0)))] ?_ ?_
     ·refine aM (ab G G (ib G G (br (v':= .bool (decide (¬q.term=([],[])))) (by simp) (ab G G ?_))));refine aO (g:=33) G (λyK=>?_) (λyK=>?_)
      ·refine aj G G G G (aj G G G G (aj G G G G (aj G G G G (aU G G G (ab G G (aj G G G G (aj G G G G (aj G G G G (aj G G G G (aU G G G (ad ?_)))))))))));exact⟨G,G,G,.cons G ab8⟩
      ·refine ae G G ?_;refine ao (A:=RT.qy (n+1)) (B:=(RT.str.sl)) aq G G xp QZ (Gr n) G G (aS _) fR bU (λavu aea=>?_);refine ae G G ?_;refine bD aB G G G G G aea bU (λadG Jr=>?_);refine ae G G ?_;have Nj:=cQ Jr;refine bz aB G Jr G (ae G G (eN G G G (aA G G G (ab G G ?_))));refine aO (g:=39) G (λIc=>?_) (λIc=>?_)
       ·refine aj G G G G (aj G G G G (aj G G G G (aj G G G G (aU G G G (ad ?_)))));exact⟨G,G,G,.cons G ab8⟩
       ·refine ae G G ?_;refine ao (A:=RT.qy (n+1)) (B:=((RT.qy n).sl (aS n))) aq G G qT Nat.one_pos (Bj n) G G (aS _) fR bU (λavv aeb=>?_);refine ae G G ?_;refine bD bh G G G G G aeb bU (λap1 Qz=>?_);refine ae G G ?_;have Ap:=cQ Qz;refine bz (A:=RT.qy n) (hn:=aS _) bh G Qz G (ae G G (fi G G G (aA G G G (ad ?_))));exact⟨G,G,G,.cons G ab8⟩
     ·refine bF G (λc6=>?_) (λc6=>?_)
      ·refine T.aP (Rg.aZ G G (aI ?_));exact aF G G ⟨congrArg _ (cz (ams LG (c6.elim .inl λh=>h.elim (λh=> .inr (.inl (ad2 h))) λh=> .inr (.inr q0)))),S⟩
      ·have hB: ¬(¬q.term=([],[])\/¬q.words=[]\/q.kids.length=0):=by
        rintro(h|h|h)
        ·exact c6 (.inl h)
        ·exact h (YH λh2=>c6 (.inr (.inl h2)))
        ·exact c6 (.inr (.inr q0))
       refine aR (aK ?_);refine T.mI [(1,u1),(59,.bool (decide ((q.kids.length:Int)>8\/(q.kind=4/\(q.kids.length:Int)>1))))] ?_ ?_
       ·refine aM ?_;refine ao (A:=RT.qy (n+1)) (B:=((RT.qy n).sl (aS n))) aq G G qT Nat.one_pos (Bj n) G G (aS _) fR bU (λajP Uw=>?_);refine bD bh G G G G G Uw bU (λaci BG=>?_);have Ap:=cQ BG;refine bz (A:=RT.qy n) (hn:=aS _) bh G BG G (eN G G G (ab G G ?_));refine aO (g:=49) G (λYd=>?_) (λYd=>?_)
        ·refine aj G G G G (aj G G G G (aj G G G G (aj G G G G (cf G G G (cf G G G (cf G G G (cf G G G (aj G G G G (aU G G G (ad ?_))))))))));exact⟨rfl,rfl,rfl,.cons rfl a06⟩
        ·refine ae G G ?_;refine ao (A:=RT.qy (n+1)) (B:=RT.int .i64) aq G G I3 QZ (yz n) G G (aS _) fR bU (λabx aec=>?_);refine ae G G ?_;refine bT ak G G aec bU (λaed=>?_);refine br (v':= .int .i64 q.kind) G (ae G G (fi G G G (ae G G (ab G G ?_))));refine aO (g:=53) G (λamx=>?_) (λamx=>?_)
         ·refine ae G G ?_;refine ao (A:=RT.qy (n+1)) (B:=((RT.qy n).sl (aS n))) aq G G qT Nat.one_pos (Bj n) G G (aS _) fR bU (λavw aee=>?_);refine ae G G ?_;refine bD bh G G G G G aee bU (λap2 QA=>?_);refine ae G G ?_;have Ap:=cQ QA;refine bz (A:=RT.qy n) (hn:=aS _) bh G QA G (ae G G (eN G G G (ae G G (aU G G G (aA G G G (ad ?_))))));exact⟨rfl,rfl,rfl,.cons rfl a06⟩
         ·refine aj G G G G (aj G G G G (aj G G G G (aj G G G G (ae G G (aA G G G (aA G G G (ad ?_)))))));exact⟨rfl,rfl,rfl,.cons rfl a06⟩
       ·refine bF G (λc8=>?_) (λc8=>?_)
        ·refine T.aP (Rg.aZ G G (aI ?_));exact aF G G ⟨congrArg _ (cz ((ad3 LG hB).trans (if_pos q0))),S⟩
        ·refine aR (T.aP (Rg.aZ G G (aI ?_)));exact aF G G ⟨congrArg _ (cz ((ad3 LG hB).trans (if_neg q0))),S⟩
    ·have LG: ¬(2<=q.kind/\q.kind<=4):=by omega
     refine aR (aK ?_);refine T.mI [(1,u1),(3,.bool (decide (q.term=([],[])))),(4,.bool (ez q.term.1)),(85,.bool (decide ((0<(q.kids.length:Int))\/(q.kind=1/\0<(q.words.length:Int))\/(q.kind=5/\¬q.term.2=[]))))] ?_ ?_
     ·refine aM ?_;refine ao (A:=RT.qy (n+1)) (B:=((RT.qy n).sl (aS n))) aq G G qT Nat.one_pos (Bj n) G G (aS _) fR bU (λNw CD=>?_);refine bD bh G G G G G CD bU (λUx vS=>?_);have Ap:=cQ vS;refine bz (A:=RT.qy n) (hn:=aS _) bh G vS G (eN G G G (ab G G ?_));refine aO (g:=64) G (λjE=>?_) (λjE=>?_)
      ·refine aj G G G G (aj G G G G (aj G G G G (aj G G G G (cf G G G (cf G G G (cf G G G (cf G G G (aj G G G G (aU G G G (ab G G (aj G G G G ?_)))))))))));refine aj G G G G (aj G G G G (aj G G G G (cf G G G (cf G G G (cf G G G (cf G G G (aj G G G G (aU G G G (ad ?_)))))))));exact⟨G,G,G,.cons G a14⟩
      ·refine ae G G ?_;refine ao (A:=RT.qy (n+1)) (B:=RT.int .i64) aq G G I3 QZ (yz n) G G (aS _) fR bU (λacd ON=>?_);refine ae G G ?_;refine bT ak G G ON bU (λZt=>?_);refine br (v':= .int .i64 q.kind) G (ae G G (fi G G G (ae G G (ab G G ?_))));refine aO (g:=68) G (λk8=>?_) (λk8=>?_)
       ·refine ae G G ?_;refine ao (A:=RT.qy (n+1)) (B:=(RT.str.sl)) aq G G xp QZ (Gr n) G G (aS _) fR bU (λaaz yL=>?_);refine ae G G ?_;refine bD aB G G G G G yL bU (λHh oP=>?_);refine ae G G ?_;have Nj:=cQ oP;refine bz aB G oP G (ae G G (eN G G G (ae G G (aU G G G (aA G G G (ab G G ?_))))));refine aO (g:=75) G (λmj=>?_) (λmj=>?_)
        ·refine aj G G G G (aj G G G G (aj G G G G (aj G G G G (cf G G G (cf G G G (cf G G G (cf G G G (aj G G G G (aU G G G (ad ?_))))))))));exact⟨G,G,G,.cons G a14⟩
        ·refine ae G G ?_;refine ao (A:=RT.qy (n+1)) (B:=RT.int .i64) aq G G I3 QZ (yz n) G G (aS _) fR bU (λYI De=>?_);refine ae G G ?_;refine bT ak G G De bU (λIe=>?_);refine br (v':= .int .i64 q.kind) G (ae G G (fi G G G (ae G G (ab G G ?_))));refine aO (g:=79) G (λiP=>?_) (λiP=>?_)
         ·exfalso;omega
         ·refine aj G G G G (aj G G G G (aj G G G G (aj G G G G (ae G G (aA G G G (aA G G G (ad ?_)))))));exact⟨G,G,G,.cons G a14⟩
       ·refine aj G G G G (aj G G G G (aj G G G G (aj G G G G (ae G G (aA G G G (aA G G G (ab G G (ae G G ?_))))))));refine ao (A:=RT.qy (n+1)) (B:=RT.int .i64) aq G G I3 QZ (yz n) G G (aS _) fR bU (λYI De=>?_);refine ae G G ?_;refine bT ak G G De bU (λIe=>?_);refine br (v':= .int .i64 q.kind) G (ae G G (fi G G G (ae G G (ab G G ?_))));refine aO (g:=79) G (λiP=>?_) (λiP=>?_)
        ·refine ae G G ?_;refine ao (A:=RT.qy (n+1)) (B:=RT.fd) aq G G lA QZ (D1 n) G G (aS _) fR bU (λamy Tu=>?_);refine ae G G ?_;refine ao (A:=RT.fd) (B:=RT.str) bI G G I9 QZ QO G G QZ Tu bU (λWU CR=>?_);refine ae G G ?_;refine bD az G G G G G CR bU (λamz Tv=>?_);obtain rfl:=dS Tv;refine ae G G (Rg.Du (p:=q.term.2) (q:=[]) G G G (ae G G (aU G G G (aA G G G (ad ?_)))));exact⟨G,G,G,.cons G a14⟩
        ·refine aj G G G G (aj G G G G (aj G G G G (aj G G G G (ae G G (aA G G G (aA G G G (ad ?_)))))));exact⟨G,G,G,.cons G a14⟩
     ·refine bF G (λxq=>?_) (λxq=>?_)
      ·refine T.aP (Rg.aZ G G (aI ?_));exact aF G G ⟨congrArg _ (cz (amt U0 LG (xq.elim (λh=> .inl q0) λh=>h.elim (λh=> .inr (.inl ⟨h.1,ad2 h.2⟩)) λh=> .inr (.inr h)))),S⟩
      ·have hE: ¬(0<q.kids.length\/(q.kind=1/\¬q.words=[])\/(q.kind=5/\¬q.term.2=[])):=by
        rintro(h|⟨h,h'⟩|⟨h,h'⟩)
        ·exact xq (.inl q0)
        ·exact h' (YH λh2=>xq (.inr (.inl ⟨h,h2⟩)))
        ·exact xq (.inr (.inr ⟨h,h'⟩))
       refine aR (aK (T.aP (ab rfl rfl (ib rfl rfl (br (v':= .bool (decide (ez q.term.1=false))) (by cases ez q.term.1<;>rfl) (ad ?_))))));refine bF G (λwM=>?_) (λwM=>?_)
       ·refine T.aP (Rg.aZ G G (aI ?_));exact aF G G ⟨congrArg _ (cz ((Ib U0 LG hE).trans (if_pos wM))),S⟩
       ·refine aR (aK (T.aP ?_));refine ao (A:=RT.qy (n+1)) (B:=RT.int .i64) aq G G I3 QZ (yz n) G G (aS _) fR bU (λaa1 Np=>?_);refine bT ak G G Np bU (λZu=>?_);refine br (v':= .int .i64 q.kind) G (fi G G G (ad ?_));refine bF G (λGz=>?_) (λGz=>?_)
        ·refine T.aP ?_;refine ao (A:=RT.qy (n+1)) (B:=RT.fd) aq G G lA QZ (D1 n) G G (aS _) fR bU (λavx aef=>?_);refine ao (A:=RT.fd) (B:=RT.str) bI G G I9 QZ QO G G QZ aef bU (λavy aeg=>?_);refine bD az G G G G G aeg bU (λv162 aeh=>?_);obtain rfl:=dS aeh;refine aQ G G E59 (Ae _ hM QL.t2) (λavz avA hc=>?_);obtain⟨rfl,YJ⟩:=hc;replace fR:=fR.le (aS _) YJ.le;replace hM:=YJ.lt hM;have:=S.size;replace S:=S.av YJ;refine Rg.aZ rfl rfl (aK (T.aP (ab rfl rfl (ib rfl rfl (br (v':= .bool (decide (eA q.term.2=false))) (by cases eA q.term.2<;>rfl) (ad ?_))))));refine bF G (λc17=>?_) (λc17=>?_)
         ·refine T.aP (Rg.aZ G G (aI ?_));exact aF rfl rfl ⟨congrArg _ (cz ((Ib U0 LG hE).trans (by rw[if_neg wM,if_pos Gz,if_neg (by rw[c17];decide)]))),S⟩
         ·refine aR (T.aP (Rg.aZ G G (aI ?_)));exact aF G G ⟨congrArg _ (cz ((Ib U0 LG hE).trans (by rw[if_neg wM,if_pos Gz,if_pos (by simpa using c17)]))),S⟩
        ·refine aR (aK (T.aP ?_));refine ao (A:=RT.qy (n+1)) (B:=(RT.str.sl)) aq G G xp QZ (Gr n) G G (aS _) fR bU (λap3 YK=>?_);refine bD aB G G G G G YK bU (λap4 QB=>?_);have Nj:=cQ QB;refine bz aB G QB G (fi G G G (ad ?_));refine bF G (λZn=>?_) (λZn=>?_)
         ·refine T.aP (Rg.aZ G G (aI ?_));exact aF rfl rfl ⟨congrArg _ (cz ((Ib U0 LG hE).trans (by rw[if_neg wM,if_neg Gz,if_pos (cL.1 q0)]))),S⟩
         ·refine aR (aK (T.aP (Rg.aZ G G (aX ?_))));refine cY (σ:=Nat) (λi=>[(1,u1),(6,.int .i64 (i:Int))]) (λi w=>i<=q.words.length/\Lt M w/\Step M w0 M w aD/\cM (RT.qy (n+1)) M w u1 q/\∀(j:Nat) x,j<i->q.words[j]? =some x->eA x=true) (λi=>q.words.length-i) 0 a68 ?_ ?_
          ·exact⟨bp _,hM,S,fR,λj x h=>absurd h (eC _)⟩
          ·clear hM S fR;rintro i w ⟨hi,hM,S,fR,gj⟩;refine aK (T.aP (ab G G ?_));refine ao (A:=RT.qy (n+1)) (B:=(RT.str.sl)) aq G G xp QZ (Gr n) G G (aS _) fR bU (λap5 YL=>?_);refine bD aB G G G G G YL bU (λap6 QC=>?_);have Nj:=cQ QC;refine bz aB G QC G (cy G G G (ad ?_));refine bF G (λc23=>?_) (λc23=>?_)
           ·refine aR (aK (aX (T.aP ?_)));refine ao (A:=RT.qy (n+1)) (B:=(RT.str.sl)) aq G G xp QZ (Gr n) G G (aS _) fR bU (λavC aei=>?_);refine bD aB G G G G G aei bU (λavD aej=>?_);refine ab G G ?_;obtain⟨x,hx⟩:∃x,q.words[i]? =some x:=⟨_,an q0⟩;refine cB aB I9 G G G aej bU q0 (λavE x_ gD aek=>?_);rw[ar]at gD;obtain rfl:=aJ (hx.symm.trans gD);refine bD az G G G G G aek bU (λavF ael=>?_);obtain rfl:=dS ael;refine aQ G G E59 (Ae _ hM (QL.w x (au hx))) (λavG avH hc=>?_);obtain⟨rfl,YM⟩:=hc;replace fR:=fR.le (aS _) YM.le;replace hM:=YM.lt hM;have:=S.size;replace S:=S.av YM;refine Rg.aZ rfl rfl (T.aP (ab rfl rfl (ib rfl rfl (br (v':= .bool (decide (eA x=false))) (by cases eA x<;>rfl) (ad ?_)))));refine bF G (λc26=>?_) (λc26=>?_)
            ·refine T.aP (Rg.aZ G G (aI ?_));exact aF rfl rfl ⟨congrArg _ (cz ((Ib U0 LG hE).trans (by rw[if_neg wM,if_neg Gz,if_neg (λe=>Zn ai0),if_pos (List.all_eq_false.2 ⟨x,au hx,by rw[c26];decide⟩)]))),S⟩
            ·refine aR (aM (ab G G (bC G G G q0 (Rg.aZ G G ?_))));refine⟨G,i+1,a68,?_,?_⟩
             ·refine ⟨by omega,hM,S,fR,λj y hj hy=> ?_⟩;rcases cI j i with h|h
              ·exact gj j y h hy
              ·obtain rfl:j=i:=by omega
               rw[hx]at hy;cases hy;simpa using c26
             ·omega
           ·refine cN (aK (T.aP ?_));refine ao (A:=RT.qy (n+1)) (B:=(RT.str.sl)) aq G G xp QZ (Gr n) G G (aS _) fR bU (λap7 YN=>?_);refine bD aB G G G G G YN bU (λap8 QD=>?_);have Nj:=cQ QD;refine bz aB G QD G (eN G G G (ad ?_));refine bF G (λc28=>?_) (λc28=>?_)
            ·refine T.aP (Rg.aZ G G (aI ?_));exact aF rfl rfl ⟨congrArg _ (cz ((Ib U0 LG hE).trans (by rw[if_neg wM,if_neg Gz,if_neg (λe=>Zn ai0),if_neg (by rw[ec.2 λx hx=>by obtain⟨j,hj⟩:=bK.1 hx;exact gj j x ac7 hj];decide),if_pos q0]))),S⟩
            ·refine aR (T.aP (Rg.aZ G G (aI ?_)));exact aF rfl rfl ⟨congrArg _ (cz ((Ib U0 LG hE).trans (by rw[if_neg wM,if_neg Gz,if_neg (λe=>Zn ai0),if_neg (by rw[ec.2 λx hx=>by obtain⟨j,hj⟩:=bK.1 hx;exact gj j x ac7 hj];decide),if_neg q0]))),S⟩
theorem B3 {M:aL} {n:Nat} {q:Qy} {v:Value} {deep:Nat} (w0:World) (hM:Lt M w0) (hv:(RT.qy (n+1)).V M w0 q v) (hs:FF q) (hd:deep<=1000) (ih:∀x∈q.kids,∀(deep:Nat) (M:aL) (w:World) (v:Value),Lt M w->(RT.qy n).V M w x v->deep<=7->Spec Tryz.prog 110 #[v,.int .i64 (deep:Int)] w (λv' w'=>v'= .int .i64 (ik x deep)/\Step M w M w' aD)):
  Spec Tryz.prog 110 #[v,.int .i64 (deep:Int)] w0 (λv w=>v= .int .i64 (ik q deep)/\Step M w0 M w aD):=by
 have gX:=hM;obtain⟨QL,hsk⟩:=Yc.1 hs;have FJ:=Ju q.kind q.term q.words q.kids.length;refine a7 (args:=[_,_]) (fn:=Tryz.f110) Tryz.func110 G (n:=33) Tryz.ntmps110 ?_;have S:Step M w0 M w0 aD:=aW;refine T.aP ?_;refine ej (A:=RT.qy (n+1)) (a:=q) G G hM hv (ef _) (λu2 FA fm iO _=>?_);replace hv:=hv.le iO.le;replace hM:=iO.lt hM;have:=S.size;replace S:=S.av iO;refine Rg.aZ G G (aK (T.aP (ab G G (eN G G G (ad ?_)))));refine bF G (λc1=>?_) (λc1=>?_)
 ·refine T.aP (Rg.aZ G G (aI ?_));exact aF rfl rfl ⟨by rw[jG q deep,if_pos q0],S⟩
 ·refine aR (T.aP ?_);refine bR (A:=RT.qy (n+1)) aq G (IQ jA _) (aS _) (ef _) G G fm bU (λv30 YO=>?_);refine aQ G G amn (Ld _ hM YO QL) (λr31 w31 hc=>?_);obtain⟨rfl,Zm⟩:=hc;replace fm:=fm.le (aS _) Zm.le;replace hM:=Zm.lt hM;have:=S.size;replace S:=S.av Zm;refine Rg.aZ G G (aK (T.aP (ab G G (eV G G G (ad ?_)))));refine bF G (λc4=>?_) (λc4=>?_)
  ·refine T.aP (ab G G (Rg.aZ G G (aI ?_)));exact aF rfl rfl ⟨by rw[jG q deep,if_neg q0,if_pos c4],S⟩
  ·refine aR (aK (T.aP (Rg.aZ G G (aX ?_))));refine cY (σ:=Nat) (λi=>[(1,.int .i64 (deep:Int)),(2,u2),(6,.int .i64 (i:Int))]) (λi w=>i<=q.kids.length/\(∀(j:Nat) y,j<i->q.kids[j]? =some y->ik y (deep+1)=0)/\Lt M w/\Step M w0 M w aD/\cM (RT.qy (n+1)) M w u2 q) (λi=>q.kids.length-i) 0 a00 ?_ ?_
   ·exact⟨bp _,λj y h=>absurd h (eC _),hM,S,fm⟩
   ·clear hM S fm;rintro i w ⟨hi,gj,hM,S,fm⟩;refine aK (T.aP (ab G G ?_));refine ao (A:=RT.qy (n+1)) (B:=((RT.qy n).sl (aS n))) aq G G qT Nat.one_pos (Bj n) G G (aS _) fm bU (λu71 Qq=>?_);refine bD bh G G G G G Qq bU (λv72 To=>?_);have Ap:=cQ To;refine bz (A:=RT.qy n) (hn:=aS _) bh G To G (cy G G G (ad ?_));refine bF G (λc7=>?_) (λc7=>?_)
    ·refine aR (aK (aX (T.aP ?_)));refine ao (A:=RT.qy (n+1)) (B:=((RT.qy n).sl (aS n))) aq G G qT Nat.one_pos (Bj n) G G (aS _) fm bU (λu90 Qi=>?_);refine bD bh G G G G G Qi bU (λv91 sJ=>?_);refine ab G G ?_;obtain⟨x,hx⟩:∃x,(q.kids)[i]? =some x:=⟨_,an q0⟩;refine cB (A:=RT.qy n) (hn:=aS _) (M:=M) bh (IQ jA _) G G G sJ bU q0 (λu93 x_ gD QE=>?_);rw[ar]at gD;obtain rfl:=aJ (hx.symm.trans gD);refine bR (A:=RT.qy (n)) aq G (IQ jA _) (aS _) (ef _) G G QE bU (λv94 amC=>?_);refine ab G G (bC G G G q0 (br (v':= .int .i64 ((deep+1:Nat):Int)) (by congr 1) ?_));refine aQ G G ad0 (ih x (au hx) (deep+1) _ _ _ hM amC q0) (λr9 w9 hc=>?_);obtain⟨rfl,s9⟩:=hc;replace fm:=fm.le (aS _) s9.le;replace hM:=s9.lt hM;have:=S.size;replace S:=S.av s9;refine Rg.aZ G G (T.aP (ab G G (eV G G G (ad ?_))));refine bF G (λJ3=>?_) (λJ3=>?_)
     ·refine T.aP (ab G G (Rg.aZ G G (aI ?_)));exact aF rfl rfl ⟨by rw[jG q deep,if_neg q0,if_neg c4,Aa hx gj J3],S⟩
     ·refine aR (aM (ab G G (bC G G G q0 (Rg.aZ G G ?_))));refine⟨G,i+1,a00,?_,?_⟩
      ·refine⟨by omega,λj y hj hy=>?_,hM,S,fm⟩;rcases cI j i with h|h
       ·exact gj j y h hy
       ·obtain rfl:j=i:=by omega
        rw[hx]at hy;cases hy;exact cG.1 J3
      ·omega
    ·refine cN (T.aP (Rg.aZ G G (aI ?_)));exact aF rfl rfl ⟨by rw[jG q deep,if_neg q0,if_neg c4,B0 λj y hj=>gj j y ac7 hj],S⟩
theorem Af:∀(n:Nat) {M:aL} {q:Qy} {v:Value} {deep:Nat} (w0:World) (hM:Lt M w0) (hv:(RT.qy n).V M w0 q v) (hs:FF q) (hd:deep<=1000),Spec Tryz.prog 110 #[v,.int .i64 (deep:Int)] w0 (λv w=>v= .int .i64 (ik q deep)/\Step M w0 M w aD)
 |0,M,q,v,deep,w0,hM,hv,hs,hd=>B3 (n:=0) w0 hM (lZ hv) hs hd λx hx=>by rw[kz hv]at hx;cases hx
 |n+1,M,q,v,deep,w0,hM,hv,hs,hd=>B3 w0 hM hv hs hd λx hx deep M w v hM hv hd=>Af n w hM hv ((Yc.1 hs).2 x hx) q0
theorem Ig {M:aL} {n:Nat} {q:Qy} {v:Value} (w0:World) (hM:Lt M w0) (hv:(RT.qy (n+1)).V M w0 q v) (hs:FF q):
  Spec Tryz.prog 57 #[v] w0 (λv w=>v= .int .i64 (ik q 1)/\Step M w0 M w aD):=by
 refine a7 (args:=[_]) (fn:=Tryz.f57) Tryz.func57 G (n:=5) Tryz.ntmps57 ?_;have S:Step M w0 M w0 aD:=aW;refine T.aP ?_;refine ej (A:=RT.qy (n+1)) (a:=q) G G hM hv (ef _) (λu1 FA fR iO _=>?_);replace hv:=hv.le iO.le;replace hM:=iO.lt hM;have:=S.size;replace S:=S.av iO;refine Rg.aZ G G (T.aP ?_);refine bR (A:=RT.qy (n+1)) aq G (IQ jA _) (aS _) (ef _) G G fR bU (λv10 oO=>?_);refine aQ G G ad0 (Af (n+1) (deep:=1) _ hM oO hs QZ) (λr1 w1 hc=>?_);obtain⟨rfl,s1⟩:=hc;replace fR:=fR.le (aS _) s1.le;replace hM:=s1.lt hM;have:=S.size;replace S:=S.av s1;refine Rg.aZ G G (aI ?_);exact aF G G ⟨G,S⟩
end Go.K
namespace Go.K
open Go.Proofs
namespace TKR12B
theorem qT:TI Tryz.prog 26 (.slice none 0 0) 1 24:=by unfold TI;kernel_rfl
theorem jA:TI Tryz.prog 28 (.agg #[(.int .i64 0),(.string ⟨#[]⟩),(.string ⟨#[]⟩),(.slice none 0 0),(.slice none 0 0)]) 5 88:=by unfold TI;kernel_rfl
theorem E34:Enters Tryz.prog 34:=enters Tryz.func34 rfl QZ
theorem E35:Enters Tryz.prog 35:=enters Tryz.func35 rfl QZ
theorem E78:Enters Tryz.prog 78:=enters Tryz.func78 rfl QZ
theorem E79:Enters Tryz.prog 79:=enters Tryz.func79 rfl QZ
theorem XQ:Enters Tryz.prog 124:=enters Tryz.func124 rfl QZ
theorem amE:Enters Tryz.prog 125:=enters Tryz.func125 rfl QZ
end TKR12B
open TKR12B
set_option maxRecDepth 10000
theorem uA {M:aL} {d:Dc} {k:List UInt8} {xs:List (List UInt8)} {vd vx:Value} (w0:World) (hM:Lt M w0) (hd:RT.dc.V M w0 d vd) (hlen:∀f∈d.2,f.1.length<=900000/\f.2.length<=900000) (xC:d.2.length<=1000000) (hx:(RT.str.sl).V M w0 xs vx):
  Spec Tryz.prog 79 #[vd,sv k,vx] w0 (λv w=>v= .int .i64 (pD (cT d.2 k) xs:Int)/\Step M w0 M w aD):=by
 have gX:=hM;have xm:=cQ hx;have Nj:=wZ (k:=k) hlen;refine a7 (args:=[_,_,_]) (fn:=Tryz.f79) Tryz.func79 G (n:=41) Tryz.ntmps79 ?_;have S:Step M w0 M w0 aD:=aW;refine T.aP ?_;refine ej (A:=RT.dc) (a:=d) G G hM hd G (λu3 w1 gI s0 _=>?_);replace hd:=hd.le s0.le;replace hx:=hx.le s0.le;replace hM:=s0.lt hM;have:=S.size;replace S:=S.av s0;refine Rg.aZ G G (T.aP ?_);refine bR (A:=RT.dc) aT G kU QZ G G G gI bU (λv10 oO=>?_);refine ab G G ?_;refine aQ G G XQ (xc _ hM oO hlen xC) (λr1 w1' hc=>?_);obtain⟨hr,s1⟩:=hc;replace hx:=hx.le s1.le;replace gI:=gI.le QZ s1.le;replace hM:=s1.lt hM;have:=S.size;replace S:=S.av s1;refine Rg.aZ G G (T.aP (Rg.aZ G G (aK (T.aP (Rg.aZ G G (aX ?_))))));refine cY (σ:=Nat) (λi=>[(1,sv k),(2,vx),(7,r1),(8,.int .i64 (ug (cT d.2 k) xs i:Int)),(9,.int .i64 (i:Int))]) (λi w=>i<=(cT d.2 k).length/\(0<i->¬xs=[])/\Lt M w/\Step M w0 M w aD/\(RT.str.sl).V M w xs vx/\(RT.str.sl).V M w (cT d.2 k) r1) (λi=>(cT d.2 k).length-i) 0 a05 ?_ ?_
 ·exact⟨bp _,λh=>absurd h (ji _),hM,S,hx,hr⟩
 ·clear hM S hx hr;rintro i w ⟨hi,aem,hM,S,hx,hr⟩;refine aK (T.aP (ab G G (ab G G (bz aB G hx G (bC G G G q0 (ab G G (bz aB G hr G (fN G G G (ab G G ?_)))))))));refine aO (g:=21) G (λSH=>?_) (λSH=>?_)
  ·refine ae G G (ab G G (ae G G (bz aB G hx G (ae G G (eN G G G (aU G G G (ad ?_)))))));refine bF G (λc4=>?_) (λc4=>?_)
   ·have fh: ¬xs=[]:=λe=>by subst e;simp at c4
    refine aR (aK (aX (T.aP (ab G G (ab G G (ab G G (ab G G (bz aB G hx G (bC G G G q0 ?_)))))))));refine Rg.Dv (A:=RT.str) (hn:=by decide) aB I9 G G G G hr q0 (λu66 KP=>?_);rw[show((i:Int)+(xs.length:Int)).toNat=i+xs.length by omega,ar,List.drop_take,Nat.add_sub_cancel_left]at KP;refine ab G G ?_;refine aQ G G amE (HH _ hM KP hx) (λr68 w68 hc=>?_);obtain⟨rfl,s68⟩:=hc;replace hx:=hx.le s68.le;replace hr:=hr.le s68.le;replace hM:=s68.lt hM;have:=S.size;replace S:=S.av s68;refine Rg.aZ G G (T.aP (ab G G (ad ?_)));refine bF G (λc7=>?_) (λc7=>?_)
    ·refine aM (ab G G ?_);have hpk:=Jl (cT d.2 k) xs i;refine bC G G G q0 (Rg.aZ G G (aM (ab G G (bC G G G q0 (Rg.aZ G G ?_)))));refine⟨G,i+1,(.cons G (.cons G (.cons G (.cons (congrArg (λz=>some (Value.int .i64 z)) (by rw[vV];first|(rw[if_pos c7];rfl)|(rw[if_neg c7];rfl))) (.cons rfl .nil))))),?_,?_⟩
     ·have hp:0<xs.length:=dI.2 fh;exact⟨by omega,λ_=>fh,hM,S,hx,hr⟩
     ·omega
    ·refine aR (aM (ab G G (bC G G G q0 (Rg.aZ G G ?_))));refine⟨G,i+1,(.cons G (.cons G (.cons G (.cons (congrArg (λz=>some (Value.int .i64 z)) (by rw[vV];first|(rw[if_pos c7];rfl)|(rw[if_neg c7];rfl))) (.cons rfl .nil))))),?_,?_⟩
     ·have hp:0<xs.length:=dI.2 fh;exact⟨by omega,λ_=>fh,hM,S,hx,hr⟩
     ·omega
   ·refine cN (T.aP (ab G G (Rg.aZ G G (aI ?_))));refine aF G G ⟨congrArg (λz:Nat=>Value.int .i64 (z:Int)) ?_,S⟩;by_cases he:xs=[]
    ·have:i=0:=by rcases Nat.eq_zero_or_pos i with h|h;exact h;exact absurd he (aem h)
     subst this;unfold pD ug;rw[if_pos he];rfl
    ·have hp:0<xs.length:=dI.2 he;exact(Fu he (by first|omega|(simp at c4;omega)) hi).symm
  ·refine aj G G G G (aj G G G G (aj G G G G (aA G G G (ad (jJ G (cN (T.aP (ab G G (Rg.aZ G G ?_)))))))));refine aI ?_;refine aF G G ⟨congrArg (λz:Nat=>Value.int .i64 (z:Int)) ?_,S⟩;by_cases he:xs=[]
   ·have:i=0:=by rcases Nat.eq_zero_or_pos i with h|h;exact h;exact absurd he (aem h)
    subst this;unfold pD ug;rw[if_pos he];rfl
   ·have hp:0<xs.length:=dI.2 he;exact(Fu he (by first|omega|(simp at c4;omega)) hi).symm
theorem B4 (n:Nat):(qS n).isSome=decide (0<n):=by unfold qS;split<;>simp[*]
theorem FU (n:Nat):(qS n).getD 0=(n:Int):=by
 unfold qS;split
 ·rfl
 ·have:n=0:=by omega
  subst this;rfl
def rA (l:List (Option Int)):Nat:=(l.filter Option.isSome).length
theorem Ag {α:Type} {f:α->Option Int} {ks:List α} {i:Nat} {x:α} (h:ks[i]? =some x):rA ((ks.take (i+1)).map f)=rA ((ks.take i).map f)+if(f x).isSome=true then 1 else 0:=by
 unfold rA;rw[b7,h,dH,dM,fC,bM]
 cases hf:(f x).isSome<;>simp[hf]
theorem QF (l:List (Option Int)):rA l<=l.length:=gU _ _
theorem Lg (l:List (Option Int)):rA l=l.length↔l.all Option.isSome=true:=by
 unfold rA;rw[List.length_filter_eq_length_iff,ec]
theorem Lh (l:List (Option Int)):0<rA l↔l.any Option.isSome=true:=by
 unfold rA;rw[List.length_pos_iff_exists_mem,jk];constructor
 ·rintro⟨o,ho⟩;exact⟨o,(fW.1 ho).1,(fW.1 ho).2⟩
 ·rintro⟨o,h1,h2⟩;exact⟨o,fW.2 ⟨h1,h2⟩⟩
theorem Ah {M:aL} {n:Nat} {q:Qy} {v vd:Value} {d:Dc} (w0:World) (hM:Lt M w0) (hv:(RT.qy (n+1)).V M w0 q v) (hd:RT.dc.V M w0 d vd) (hlen:∀f∈d.2,f.1.length<=900000/\f.2.length<=900000) (xC:d.2.length<=1000000) (ih:∀x∈q.kids,∀(M:aL) (w:World) (v vd:Value),Lt M w->(RT.qy n).V M w x v->RT.dc.V M w d vd->Spec Tryz.prog 34 #[v,vd] w (λv' w'=>v'= .bool (eH d.2 x).isSome/\Step M w M w' aD)):
  Spec Tryz.prog 34 #[v,vd] w0 (λv w=>v= .bool (eH d.2 q).isSome/\Step M w0 M w aD):=by
 have gX:=hM;refine a7 (args:=[_,_]) (fn:=Tryz.f34) Tryz.func34 G (n:=59) Tryz.ntmps34 ?_;have S:Step M w0 M w0 aD:=aW;refine T.aP ?_;refine ej (A:=RT.qy (n+1)) (a:=q) G G hM hv (ef _) (λu2 FA fm iO _=>?_);replace hv:=hv.le iO.le;replace hd:=hd.le iO.le;replace hM:=iO.lt hM;have:=S.size;replace S:=S.av iO;refine ej (A:=RT.dc) (a:=d) G G hM hd G (λu3 wd3 gI s3 _=>?_);replace hd:=hd.le s3.le;replace fm:=fm.le (aS _) s3.le;replace hM:=s3.lt hM;have:=S.size;replace S:=S.av s3;refine Rg.aZ G G (aK (T.aP ?_));refine ao (A:=RT.qy (n+1)) (B:=RT.int .i64) aq G G I3 QZ (yz n) G G (aS _) fm bU (λIH mC=>?_);refine bT ak G G mC bU (λum=>?_);refine br (v':= .int .i64 q.kind) G (ad (aX (T.aP (fi G G G (Rg.aZ G G ?_)))));refine bF G (λc2=>?_) (λc2=>?_)
 ·refine T.aP ?_;refine bR (A:=RT.dc) aT G kU QZ G G G gI bU (λv30 YO=>?_);refine ao (A:=RT.qy (n+1)) (B:=RT.fd) aq G G lA QZ (D1 n) G G (aS _) fm bU (λu31 PM=>?_);refine bR (A:=RT.fd) bI G lA QZ G G G PM bU (λv32 PN=>?_);refine aQ G G E78 (xd _ hM YO hlen xC PN) (λr33 w33 hc=>?_);obtain⟨amF,UO⟩:=hc;replace fm:=fm.le (aS _) UO.le;replace gI:=gI.le QZ UO.le;replace hM:=UO.lt hM;have:=S.size;replace S:=S.av UO;refine bz ax G amF G (eN G G G (Rg.aZ G G (aI ?_)));exact aF rfl rfl ⟨congrArg Value.bool (by rw[jt,if_pos c2,B4];exact decide_eq_decide.2 q0),S⟩
 ·refine T.aP (fi G G G (Rg.aZ G G ?_));refine bF G (λc4=>?_) (λc4=>?_)
  ·refine T.aP ?_;refine bR (A:=RT.dc) aT G kU QZ G G G gI bU (λv50 YP=>?_);refine ao (A:=RT.qy (n+1)) (B:=RT.fd) aq G G lA QZ (D1 n) G G (aS _) fm bU (λu51 HI=>?_);refine ao (A:=RT.fd) (B:=RT.str) bI G G I9 QZ DZ G G QZ HI bU (λu52 Yy=>?_);refine bD az G G G G G Yy bU (λv53 Yz=>?_);obtain rfl:=dS Yz;refine ao (A:=RT.qy (n+1)) (B:=(RT.str.sl)) aq G G xp QZ (Gr n) G G (aS _) fm bU (λu54 Hy=>?_);refine bD aB G G G G G Hy bU (λv55 Hz=>?_);refine aQ G G E79 (uA (k:=q.term.1) _ hM YP hlen xC Hz) (λr56 w56 hc=>?_);obtain⟨rfl,s56⟩:=hc;replace fm:=fm.le (aS _) s56.le;replace gI:=gI.le QZ s56.le;replace hM:=s56.lt hM;have:=S.size;replace S:=S.av s56;refine eN G G G (Rg.aZ G G (aI ?_));exact aF rfl rfl ⟨congrArg Value.bool (by rw[jt,if_neg c2,if_pos c4,B4];exact decide_eq_decide.2 q0),S⟩
  ·refine aR (T.aP (Rg.aZ G G (aK (T.aP (Rg.aZ G G (aX ?_))))));refine cY (σ:=Nat) (λi=>[(2,u2),(3,u3),(5,.int .i64 (rA ((q.kids.take i).map (eH d.2)):Int)),(6,.int .i64 (i:Int))]) (λi w=>i<=q.kids.length/\Lt M w/\Step M w0 M w aD/\cM (RT.qy (n+1)) M w u2 q/\cM RT.dc M w u3 d) (λi=>q.kids.length-i) 0 a38 ?_ ?_
   ·exact⟨bp _,hM,S,fm,gI⟩
   ·clear hM S fm gI;rintro i w ⟨hi,hM,S,fm,gI⟩;refine aK (T.aP (ab G G ?_));refine ao (A:=RT.qy (n+1)) (B:=((RT.qy n).sl (aS n))) aq G G qT Nat.one_pos (Bj n) G G (aS _) fm bU (λu81 P1=>?_);refine bD bh G G G G G P1 bU (λv82 Tq=>?_);have Ap:=cQ Tq;refine bz (A:=RT.qy n) (hn:=aS _) bh G Tq G (cy G G G (ad ?_));refine bF G (λc8=>?_) (λc8=>?_)
    ·refine aR (aK (aX (aK ?_)));apply T.TN 6 mixed rfl rfl rfl rfl rfl;intro avK amG;have Tx:=amG M;replace fm:=fm.le (aS _) Tx.le;replace gI:=gI.le QZ Tx.le;replace hM:=Tx.lt hM;have:=S.size;replace S:=S.av Tx;refine ao (A:=RT.qy (n+1)) (B:=((RT.qy n).sl (aS n))) aq G G qT Nat.one_pos (Bj n) G G (aS _) fm bU (λavL aen=>?_);refine Rg.de ?_;refine bD bh G G G G G aen bU (λavM aeo=>?_);refine Rg.de (ab G G (Rg.de ?_));obtain⟨x,hx⟩:∃x,(q.kids)[i]? =some x:=⟨_,an q0⟩;refine cB (A:=RT.qy n) (hn:=aS _) (M:=M) bh (IQ jA _) G G G aeo bU q0 (λavN x_ gD aep=>?_);rw[ar]at gD;obtain rfl:=aJ (hx.symm.trans gD);refine Rg.de ?_;refine bR (A:=RT.qy (n)) aq G (IQ jA _) (aS _) (ef _) G G aep bU (λavO aeq=>?_);refine Rg.de ?_;refine bR (A:=RT.dc) aT G kU QZ G G G gI bU (λv105 aer=>?_);refine Rg.de (fF ?_);refine aQ G G E34 (ih x (au hx) _ _ _ _ hM aeq aer) (λr10 w10 hc=>?_);obtain⟨rfl,uG⟩:=hc;refine br (v':= .bool (decide ((eH d.2 x).isSome=true))) (by simp) ?_;replace fm:=fm.le (aS _) uG.le;replace gI:=gI.le QZ uG.le;replace hM:=uG.lt hM;have:=S.size;replace S:=S.av uG;refine Rg.aZ G G (T.aP (ab G G (ad ?_)));refine bF G (λxq=>?_) (λxq=>?_)
     ·refine aM (ab G G ?_);have ZE:=QF ((q.kids.take i).map (eH d.2));rw[b9,bJ]at ZE;refine bC G G G q0 (Rg.aZ G G (aM (ab G G (bC G G G q0 (Rg.aZ G G ?_)))));refine⟨G,i+1,(.cons G (.cons G (.cons (congrArg (λz=>some (Value.int .i64 z)) (by rw[Ag hx];first|(rw[if_pos xq];rfl)|(rw[if_neg xq];rfl))) (.cons rfl .nil)))),?_,?_⟩
      ·exact⟨by omega,hM,S,fm,gI⟩
      ·omega
     ·refine aR (aM (ab G G (bC G G G q0 (Rg.aZ G G ?_))));refine⟨G,i+1,(.cons G (.cons G (.cons (congrArg (λz=>some (Value.int .i64 z)) (by rw[Ag hx];first|(rw[if_pos xq];rfl)|(rw[if_neg xq];rfl))) (.cons rfl .nil)))),?_,?_⟩
      ·exact⟨by omega,hM,S,fm,gI⟩
      ·omega
    ·have hik:i=q.kids.length:=by omega
     subst hik;refine cN (aK (T.aP ?_));refine ao (A:=RT.qy (n+1)) (B:=RT.int .i64) aq G G I3 QZ (yz n) G G (aS _) fm bU (λavP aes=>?_);refine bT ak G G aes bU (λaet=>?_);refine br (v':= .int .i64 q.kind) G (fi G G G (ad ?_));refine bF G (λwM=>?_) (λwM=>?_)
     ·refine T.aP (ab G G ?_);refine ao (A:=RT.qy (n+1)) (B:=((RT.qy n).sl (aS n))) aq G G qT Nat.one_pos (Bj n) G G (aS _) fm bU (λavQ aeu=>?_);refine bD bh G G G G G aeu bU (λavR aev=>?_);refine bz (A:=RT.qy n) (hn:=aS _) bh G aev G (fi G G G (Rg.aZ G G (aI ?_)));refine aF G G ⟨congrArg Value.bool ?_,S⟩;rw[bm (bu _),jt,if_neg c2,if_neg c4,if_pos wM];have h:=Lg (q.kids.map (eH d.2));rw[b9]at h;by_cases h2:(q.kids.map (eH d.2)).all Option.isSome=true
      ·rw[if_pos h2];exact decide_eq_true (by rw[h.2 h2])
      ·rw[if_neg h2];exact decide_eq_false (λe=>h2 (h.1 q0))
     ·refine aR (T.aP (ab G G (eN G G G ?_)));refine ao (A:=RT.qy (n+1)) (B:=RT.int .i64) aq G G I3 QZ (yz n) G G (aS _) fm bU (λavS aew=>?_);refine bT ak G G aew bU (λaex=>?_);refine br (v':= .int .i64 q.kind) G (fi G G G (Rg.beq jK G G G (Rg.aZ G G (aI ?_))));refine aF G G ⟨congrArg Value.bool ?_,S⟩;rw[bm (bu _),jt,if_neg c2,if_neg c4,if_neg wM];have h:=Lh (q.kids.map (eH d.2));by_cases h2:(q.kids.map (eH d.2)).any Option.isSome=true
      ·rw[if_pos h2,if_pos h2];by_cases h3:q.kind=3
       ·rw[if_pos h3];simp[h3];exact h.2 h2
       ·rw[if_neg h3];simp[h3];have:=h.2 h2;omega
      ·rw[if_neg h2,if_neg h2];have h4:rA (q.kids.map (eH d.2))=0:=Nat.eq_zero_of_not_pos λhp=>h2 (h.1 hp)
       by_cases h3:q.kind=3
       ·rw[if_pos h3];simp[h3,h4]
       ·rw[if_neg h3];simp[h3,h4]
theorem sK:∀(n:Nat) {M:aL} {q:Qy} {v vd:Value} {d:Dc} (w0:World) (hM:Lt M w0) (hv:(RT.qy n).V M w0 q v) (hd:RT.dc.V M w0 d vd) (hlen:∀f∈d.2,f.1.length<=900000/\f.2.length<=900000) (xC:d.2.length<=1000000),Spec Tryz.prog 34 #[v,vd] w0 (λv w=>v= .bool (eH d.2 q).isSome/\Step M w0 M w aD)
 |0,M,q,v,vd,d,w0,hM,hv,hd,hlen,xC=>Ah (n:=0) w0 hM (lZ hv) hd hlen xC λx hx=>by rw[kz hv]at hx;cases hx
 |n+1,M,q,v,vd,d,w0,hM,hv,hd,hlen,xC=>Ah w0 hM hv hd hlen xC λx hx M w v vd hM hv hd=>sK n w hM hv hd hlen xC
theorem B5 {α:Type} {f:α->Option Int} {ks:List α} {i:Nat} {x:α} (h:ks[i]? =some x):kQ ((ks.take (i+1)).map f)=kQ ((ks.take i).map f)+(f x).getD 0:=by
 unfold kQ;rw[b7,h,dH,dM,dM,List.sum_append];simp
def Lj (fs:List Fd):Nat->Qy->Prop
 |0,q=>∀s,eH fs q=some s->0<=s/\s<=1000000000000
 |n+1,q=>(∀s,eH fs q=some s->0<=s/\s<=1000000000000)/\q.kids.length<=8/\∀x∈q.kids,Lj fs n x
theorem Lj.own {fs:List Fd} {n:Nat} {q:Qy} (h:Lj fs n q):∀s,eH fs q=some s->0<=s/\s<=1000000000000:=by
 cases n with
 |zero=>exact h
 |succ n=>exact h.1
theorem Jz (fs:List Fd) (hw:∀k,(cT fs k).length<=500):∀(n:Nat) {q:Qy} {deep:Nat},1<=deep->ik q deep=0->Lj fs n q
 |0,q,deep,h1,hm=>λs hs=>by have:=qn fs hw q deep hm s hs;have:=vW h1;omega
 |n+1,q,deep,h1,hm=>by
  obtain⟨k,t,ws,ks⟩:=q;obtain⟨h2,h3,h4⟩:=C5.1 hm;refine⟨λs hs=>by have:=qn fs hw _ deep hm s hs;have:=vW h1;omega,?_,λx hx=>Jz fs hw n q0 (h4 x hx)⟩;show ks.length<=8;rcases sF h3 with h|h|h|h<;>omega
theorem xf {M:aL} {n:Nat} {q:Qy} {v vd:Value} {d:Dc} (w0:World) (hM:Lt M w0) (hv:(RT.qy (n+1)).V M w0 q v) (hd:RT.dc.V M w0 d vd) (hlen:∀f∈d.2,f.1.length<=900000/\f.2.length<=900000) (xC:d.2.length<=1000000) (uR:Lj d.2 (n+1) q) (ih:∀x∈q.kids,∀(M:aL) (w:World) (v vd:Value),Lt M w->(RT.qy n).V M w x v->RT.dc.V M w d vd->Spec Tryz.prog 35 #[v,vd] w (λv' w'=>v'= .int .i64 ((eH d.2 x).getD 0)/\Step M w M w' aD)):
  Spec Tryz.prog 35 #[v,vd] w0 (λv w=>v= .int .i64 ((eH d.2 q).getD 0)/\Step M w0 M w aD):=by
 have gX:=hM;have Uv:=uR.2.1
 have hsb:∀i,0<=kQ ((q.kids.take i).map (eH d.2))/\kQ ((q.kids.take i).map (eH d.2))<=8*1000000000000:=λi=>by
  have h:=zN (l:=(q.kids.take i).map (eH d.2)) (B:=1000000000000) QZ λo ho s hs=>by
   obtain⟨x,hx,rfl⟩:=cx.1 ho;exact(uR.2.2 x (xi hx)).own s hs
  have hl:((q.kids.take i).map (eH d.2)).length<=8:=by rw[b9,bJ];omega
  omega
 refine a7 (args:=[_,_]) (fn:=Tryz.f35) Tryz.func35 G (n:=53) Tryz.ntmps35 ?_;have S:Step M w0 M w0 aD:=aW;refine T.aP ?_;refine ej (A:=RT.qy (n+1)) (a:=q) G G hM hv (ef _) (λu2 FA fm iO _=>?_);replace hv:=hv.le iO.le;replace hd:=hd.le iO.le;replace hM:=iO.lt hM;have:=S.size;replace S:=S.av iO;refine ej (A:=RT.dc) (a:=d) G G hM hd G (λu3 wd3 gI s3 _=>?_);replace hd:=hd.le s3.le;replace fm:=fm.le (aS _) s3.le;replace hM:=s3.lt hM;have:=S.size;replace S:=S.av s3;refine Rg.aZ G G (T.aP ?_);refine bR (A:=RT.qy (n+1)) aq G (IQ jA _) (aS _) (ef _) G G fm bU (λal2 UU=>?_);refine bR (A:=RT.dc) aT G kU QZ G G G gI bU (λxx kO=>?_);refine aQ G G E34 (sK (n+1) _ hM UU kO hlen xC) (λr12 Lw hc=>?_);obtain⟨rfl,lu⟩:=hc;replace fm:=fm.le (aS _) lu.le;replace gI:=gI.le QZ lu.le;replace hM:=lu.lt hM;have:=S.size;replace S:=S.av lu;refine Rg.aZ rfl rfl (aK (T.aP (ab rfl rfl (ib rfl rfl (br (v':= .bool (decide (¬(eH d.2 q).isSome=true))) (by cases eH d.2 q<;>rfl) (ab rfl rfl ?_))))));refine aO (g:=13) G (λTy=>?_) (λTy=>?_)
 ·refine aj G G G G (aj G G G G (aj G G G G (aU G G G (ad (kA G (T.aP (Rg.aZ G G (aI ?_))))))));refine aF G G ⟨congrArg (Value.int .i64) (cz ?_),S⟩
  first
  |(have h:eH d.2 q=none:=by simpa using Ty
    rw[h];rfl)
  |(rw[jt,if_neg q0,if_neg q0,if_neg q0,if_neg q0];split<;>rfl)
 ·refine ae G G ?_;refine ao (A:=RT.qy (n+1)) (B:=RT.int .i64) aq G G I3 QZ (yz n) G G (aS _) fm bU (λu23 KZ=>?_);refine ae G G ?_;refine bT ak G G KZ bU (λafK=>?_);refine br (v':= .int .i64 q.kind) G (ae G G (fi G G G (aA G G G (ad ?_))));refine bF G (λc2=>?_) (λc2=>?_)
  ·refine T.aP (Rg.aZ G G (aI ?_));refine aF G G ⟨congrArg (Value.int .i64) (cz ?_),S⟩
   first
   |(have h:eH d.2 q=none:=by simpa using Ty
     rw[h];rfl)
   |(rw[jt,if_neg q0,if_neg q0,if_neg q0,if_neg q0];split<;>rfl)
  ·have hf4:(eH d.2 q).isSome=true/\¬q.kind=4:=by first|exact⟨cG.1 Ty,c2⟩|exact absurd rfl c2|exact absurd trivial c2
   obtain⟨sc,RE⟩:=Option.isSome_iff_exists.1 hf4.1;refine aR (aK (T.aP ?_));refine ao (A:=RT.qy (n+1)) (B:=RT.int .i64) aq G G I3 QZ (yz n) G G (aS _) fm bU (λu40 Hx=>?_);refine bT ak G G Hx bU (λafL=>?_);refine br (v':= .int .i64 q.kind) G (fi G G G (ad ?_));refine bF G (λc4=>?_) (λc4=>?_)
   ·refine T.aP ?_;refine bR (A:=RT.dc) aT G kU QZ G G G gI bU (λv50 YP=>?_);refine ao (A:=RT.qy (n+1)) (B:=RT.fd) aq G G lA QZ (D1 n) G G (aS _) fm bU (λu51 HI=>?_);refine bR (A:=RT.fd) bI G lA QZ G G G HI bU (λv52 uk=>?_);refine aQ G G E78 (xd _ hM YP hlen xC uk) (λr53 w53 hc=>?_);obtain⟨amJ,s53⟩:=hc;replace fm:=fm.le (aS _) s53.le;replace gI:=gI.le QZ s53.le;replace hM:=s53.lt hM;have:=S.size;replace S:=S.av s53;refine bz ax G amJ G (Rg.aZ G G (aI ?_));exact aF G G ⟨congrArg (Value.int .i64) (by rw[jt,if_pos c4,FU]),S⟩
   ·refine aR (aK (T.aP ?_));refine ao (A:=RT.qy (n+1)) (B:=RT.int .i64) aq G G I3 QZ (yz n) G G (aS _) fm bU (λu60 amK=>?_);refine bT ak G G amK bU (λafN=>?_);refine br (v':= .int .i64 q.kind) G (fi G G G (ad ?_));refine bF G (λc6=>?_) (λc6=>?_)
    ·refine T.aP ?_;refine bR (A:=RT.dc) aT G kU QZ G G G gI bU (λv70 YQ=>?_);refine ao (A:=RT.qy (n+1)) (B:=RT.fd) aq G G lA QZ (D1 n) G G (aS _) fm bU (λu71 Qq=>?_);refine ao (A:=RT.fd) (B:=RT.str) bI G G I9 QZ DZ G G QZ Qq bU (λu72 YG=>?_);refine bD az G G G G G YG bU (λv73 amL=>?_);obtain rfl:=dS amL;refine ao (A:=RT.qy (n+1)) (B:=(RT.str.sl)) aq G G xp QZ (Gr n) G G (aS _) fm bU (λu74 YR=>?_);refine bD aB G G G G G YR bU (λv75 YS=>?_);refine aQ G G E79 (uA (k:=q.term.1) _ hM YQ hlen xC YS) (λr76 w76 hc=>?_);obtain⟨rfl,QG⟩:=hc;replace fm:=fm.le (aS _) QG.le;replace gI:=gI.le QZ QG.le;replace hM:=QG.lt hM;have:=S.size;replace S:=S.av QG;refine Rg.aZ G G (aI ?_);exact aF G G ⟨congrArg (Value.int .i64) (by rw[jt,if_neg c4,if_pos c6,FU]),S⟩
    ·refine aR (T.aP (Rg.aZ G G (aK (T.aP (Rg.aZ G G (aX ?_))))));refine cY (σ:=Nat) (λi=>[(2,u2),(3,u3),(6,.int .i64 (kQ ((q.kids.take i).map (eH d.2)))),(7,.int .i64 (i:Int))]) (λi w=>i<=q.kids.length/\Lt M w/\Step M w0 M w aD/\cM (RT.qy (n+1)) M w u2 q/\cM RT.dc M w u3 d) (λi=>q.kids.length-i) 0 a38 ?_ ?_
     ·exact⟨bp _,hM,S,fm,gI⟩
     ·clear hM S fm gI;rintro i w ⟨hi,hM,S,fm,gI⟩;refine aK (T.aP (ab G G ?_));refine ao (A:=RT.qy (n+1)) (B:=((RT.qy n).sl (aS n))) aq G G qT Nat.one_pos (Bj n) G G (aS _) fm bU (λavX aey=>?_);refine bD bh G G G G G aey bU (λavY U1=>?_);have Ap:=cQ U1;refine bz (A:=RT.qy n) (hn:=aS _) bh G U1 G (cy G G G (ad ?_));refine bF G (λJ3=>?_) (λJ3=>?_)
      ·refine aR (aK (aX ?_));apply T.pR 7 [0] 1 aD mixed rfl rfl rfl rfl;intro CV YT;have kq:=YT M;replace fm:=fm.le (aS _) kq.le;replace gI:=gI.le QZ kq.le;replace hM:=kq.lt hM;have:=S.size;replace S:=S.av kq;refine ab G G (Rg.de ?_);refine ao (A:=RT.qy (n+1)) (B:=((RT.qy n).sl (aS n))) aq G G qT Nat.one_pos (Bj n) G G (aS _) fm bU (λavZ aez=>?_);refine Rg.de ?_;refine bD bh G G G G G aez bU (λav0 aeA=>?_);refine Rg.de (ab G G (Rg.de ?_));obtain⟨x,hx⟩:∃x,(q.kids)[i]? =some x:=⟨_,an q0⟩;refine cB (A:=RT.qy n) (hn:=aS _) (M:=M) bh (IQ jA _) G G G aeA bU q0 (λav1 x_ gD aeB=>?_);rw[ar]at gD;obtain rfl:=aJ (hx.symm.trans gD);refine Rg.de ?_;refine bR (A:=RT.qy (n)) aq G (IQ jA _) (aS _) (ef _) G G aeB bU (λav2 aeC=>?_);refine Rg.de ?_;refine bR (A:=RT.dc) aT G kU QZ G G G gI bU (λav3 aeD=>?_);refine Rg.de (fF (⟨jC ⟨ie,trivial⟩,?_⟩));have kp:=kT aD CV;refine aQ G G E35 (ih x (au hx) _ _ _ _ hM aeC aeD) (λav4 av5 hc=>?_);obtain⟨rfl,Tz⟩:=hc;replace fm:=fm.le (aS _) Tz.le;replace gI:=gI.le QZ Tz.le;replace hM:=Tz.lt hM;have:=S.size;replace S:=S.av Tz;refine(fun(kp:fy _ _ _)=>ad ⟨G,G,λ_=>kp,?_⟩) a02;have TE:=hsb i;have mW:=hsb (i+1);rw[B5 hx]at mW;refine bC G G G q0 (ad ⟨G,G,λh=>absurd G h,aG G G (ad ⟨G,G,λh=>absurd G h,pH (aM (ab G G (bC G G G q0 (Rg.aZ G G ?_))))⟩)⟩)
       refine⟨G,i+1,(.cons G (.cons G (.cons (congrArg (λz=>some (Value.int .i64 z)) (B5 hx).symm) (.cons G .nil)))),?_,?_⟩
       ·exact⟨by omega,hM,S,fm,gI⟩
       ·omega
      ·refine cN (T.aP (ab G G (Rg.aZ G G (aI ?_))));have hik:i=q.kids.length:=by omega
       subst hik;refine aF G G ⟨congrArg (Value.int .i64) ?_,S⟩;rw[bm (bu _)];have he:=jt d.2 q;rw[if_neg c4,if_neg c6]at he;rw[he];by_cases h2:q.kind=2
       ·rw[if_pos h2]at he ⊢
        split
        ·rfl
        ·rename_i h;rw[if_neg h,RE]at he;cases he
       ·rw[if_neg h2]at he ⊢;by_cases h3:q.kind=3
        ·rw[if_pos h3]at he ⊢
         split
         ·rfl
         ·rename_i h;rw[if_neg h,RE]at he;cases he
        ·rw[if_neg h3]at he ⊢
         split
         ·rename_i h;rw[if_pos h,RE]at he;cases he
         ·rename_i h
          have hz:∀o∈q.kids.map (eH d.2),o=none:=λo ho=>by
           cases o with
           |none=>rfl
           |some s=>exact absurd (jk.2 ⟨_,ho,rfl⟩) h
          show kQ _=0;unfold kQ;generalize q.kids.map (eH d.2)=l at hz;clear he h
          induction l with
          |nil=>rfl
          |cons o l ih=>rw[eI,List.sum_cons,hz o (bP ..),ih λx hx=>hz x (cv _ hx)];rfl
theorem xg:∀(n:Nat) {M:aL} {q:Qy} {v vd:Value} {d:Dc} (w0:World) (hM:Lt M w0) (hv:(RT.qy n).V M w0 q v) (hd:RT.dc.V M w0 d vd) (hlen:∀f∈d.2,f.1.length<=900000/\f.2.length<=900000) (xC:d.2.length<=1000000) (uR:Lj d.2 n q),Spec Tryz.prog 35 #[v,vd] w0 (λv w=>v= .int .i64 ((eH d.2 q).getD 0)/\Step M w0 M w aD)
 |0,M,q,v,vd,d,w0,hM,hv,hd,hlen,xC,uR=>xf (n:=0) w0 hM (lZ hv) hd hlen xC ⟨uR,by rw[kz hv];exact bp _,λx hx=>by rw[kz hv]at hx;cases hx⟩ λx hx=>by rw[kz hv]at hx;cases hx
 |n+1,M,q,v,vd,d,w0,hM,hv,hd,hlen,xC,uR=>xf w0 hM hv hd hlen xC uR λx hx M w v vd hM hv hd=>xg n w hM hv hd hlen xC (uR.2.2 x hx)
end Go.K
namespace Go.K
open Go.Proofs
namespace TKR13M
theorem I4:TI Tryz.prog 4 (.bool false) 1 1:=by unfold TI;kernel_rfl
theorem jA:TI Tryz.prog 28 (.agg #[(.int .i64 0),(.string ⟨#[]⟩),(.string ⟨#[]⟩),(.slice none 0 0),(.slice none 0 0)]) 5 88:=by unfold TI;kernel_rfl
theorem mD:TI Tryz.prog 45 (.agg #[(.int .i64 0),(.int .i64 0)]) 2 16:=by unfold TI;kernel_rfl
theorem HR:placesOf Tryz.prog 45=[(0,1),(1,1)].map some:=by kernel_rfl
theorem E34:Enters Tryz.prog 34:=enters Tryz.func34 rfl QZ
theorem E35:Enters Tryz.prog 35:=enters Tryz.func35 rfl QZ
theorem E57:Enters Tryz.prog 57:=enters Tryz.func57 rfl QZ
end TKR13M
open TKR13M
set_option maxRecDepth 10000
def k5 (L:List En) (live:List Bool) (q:Qy) (i:Nat):List Fo:=(ij (λe=>eH e.1.2 q) 0 (L.take i)).filter λp=>decide (live[p.1.toNat]? =some true)
theorem Ai (L:List En) (live:List Bool) (q:Qy) (i:Nat):(k5 L live q i).length<=i:=dm (gU _ _) (dm (kE _ 0) (by rw[bJ];omega))
theorem Ih {L:List En} {live:List Bool} {q:Qy} {i:Nat} {e:En} {s:Int} (h:L[i]? =some e) (hf:eH e.1.2 q=some s) (hl:live[i]? =some true):k5 L live q (i+1)=k5 L live q i++[((i:Int),s)]:=by
 unfold k5;rw[nV h,fC,wa (f:=λe=>eH e.1.2 q) hf];simp[hl]
theorem Lk {L:List En} {live:List Bool} {q:Qy} {i:Nat} {e:En} (h:L[i]? =some e) (hn: ¬((eH e.1.2 q).isSome=true/\live[i]? =some true)):k5 L live q (i+1)=k5 L live q i:=by
 unfold k5;rw[nV h,fC]
 cases hf:eH e.1.2 q with
 |none=>rw[BY (f:=λe=>eH e.1.2 q) hf];simp
 |some s=>
  rw[wa (f:=λe=>eH e.1.2 q) hf];have: ¬live[i]? =some true:=λhl=>hn ⟨by rw[hf];rfl,hl⟩
  simp[this]
theorem Ii {L:List En} {live:List Bool} {q:Qy} (h:∀i,i<L.length->live[i]? =some true):k5 L live q L.length=ij (λe=>eH e.1.2 q) 0 L:=by
 unfold k5;rw[List.take_length,List.filter_eq_self];intro p hp;have:=oU hp;exact decide_eq_true (h _ q0)
theorem Zv {p:Prop} [Decidable p] (h: ¬p):some (Value.bool false)=some (Value.bool (decide p)):=by rw[decide_eq_false h]
theorem FV {M:aL} {n:Nat} {L:List En} {live:List Bool} {q:Qy} {v0 vl v:Value} (w0:World) (hM:Lt M w0) (hl:(RT.en.sl).V M w0 L v0) (j9:(RT.bool.sl).V M w0 live vl) (hv:(RT.qy (n+1)).V M w0 q v) (lh:FF q) (hF:∀e∈L,iy e.1) (hlen:∀e∈L,(∀f∈e.1.2,f.1.length<=900000/\f.2.length<=900000)/\e.1.2.length<=1000000) (hn:L.length<=100000):
  Spec Tryz.prog 15 #[v0,vl,v] w0 (λv w=>((RT.fo).sl).V M w (if ik q 1=0 then k5 L live q L.length else[]) v/\Step M w0 M w aD):=by
 have gX:=hM;have av7:=cQ j9;refine a7 (args:=[_,_,_]) (fn:=Tryz.f15) Tryz.func15 G (n:=52) Tryz.ntmps15 ?_;have S:Step M w0 M w0 aD:=aW;refine T.aP ?_;refine ej (A:=RT.qy (n+1)) (a:=q) G G hM hv (ef _) (λu5 FA lB iO _=>?_);replace hv:=hv.le iO.le;replace hl:=hl.le iO.le;replace j9:=j9.le iO.le;replace hM:=iO.lt hM;have:=S.size;replace S:=S.av iO;refine Rg.aZ G G (T.aP (Rg.aZ G G (aK (T.aP ?_))));refine bR (A:=RT.qy (n+1)) aq G (IQ jA _) (aS _) (ef _) G G lB bU (λv20 XW=>?_);refine aQ G G E57 (Ig (n:=n) _ hM XW lh) (λr21 w21 hc=>?_);obtain⟨rfl,s21⟩:=hc;replace hl:=hl.le s21.le;replace j9:=j9.le s21.le;replace lB:=lB.le (aS _) s21.le;replace hM:=s21.lt hM;have:=S.size;replace S:=S.av s21;refine eV G G G (ad ?_);refine bF G (λc2=>?_) (λc2=>?_)
 ·have hm: ¬ik q 1=0:=by first|exact c2|omega
  refine T.aP (Rg.aZ G G (aI ?_));refine aF G G ⟨?_,S⟩;rw[if_neg hm];exact iQ
 ·have hm:ik q 1=0:=by first|exact cG.1 c2|omega
  refine aR (aK (T.aP (Rg.aZ G G (aX ?_))));refine cY (σ:=Nat×Value) (λq'=>[(0,v0),(1,vl),(5,u5),(7,q'.2),(8,.int .i64 (q'.1:Int))]) (λq' w=>q'.1<=L.length/\∃M2,Lt M2 w/\Step M w0 M2 w aD/\(RT.en.sl).V M2 w L v0/\(RT.bool.sl).V M2 w live vl/\cM (RT.qy (n+1)) M2 w u5 q/\Own RT.fo 45 M2 w w0.heap.size q'.2 (k5 L live q q'.1)) (λq'=>L.length-q'.1) (0,.slice none 0 0) a05 ?_ ?_
  ·exact⟨bp _,_,hM,S,hl,j9,lB,eJ _ _ _ _ _⟩
  ·clear hM S hl j9 lB;rintro⟨i,vo⟩ w ⟨hi,M2,hM,S,hl,j9,lB,iz⟩;dsimp only at hi iz ⊢;refine aK (T.aP (ab G G (ab G G (bz fB G hl G (cy G G G (ad ?_))))));refine bF G (λc5=>?_) (λc5=>?_)
   ·refine aR (aK (aX (aK ?_)));apply T.TN 6 mixed rfl rfl rfl rfl rfl;intro wD7 sA7;have Ur:=sA7 M2;replace hl:=hl.le Ur.le;replace j9:=j9.le Ur.le;replace lB:=lB.le (aS _) Ur.le;replace iz:=iz.bQ Ur;replace hM:=Ur.lt hM;have:=S.size;replace S:=S.av Ur;refine bR (A:=RT.qy (n+1)) aq G (IQ jA _) (aS _) (ef _) G G lB bU (λv70 YQ=>?_);refine Rg.de (ab G G (Rg.de (ab G G (Rg.de ?_))));obtain⟨e,sV⟩:∃x,L[i]? =some x:=⟨_,an q0⟩;obtain⟨hx1,hx2⟩:=hlen e (au sV);have hwf:=λk=>qo (hF e (au sV)) k
    refine cB fB F7 G G G hl bU q0 (λu73 x_ gD YA=>?_);rw[ar]at gD;obtain rfl:=aJ (sV.symm.trans gD);refine Rg.de ?_;refine ao (A:=RT.en) (B:=RT.dc) dQ G G kU QZ VI G G QZ YA bU (λu74 YR=>?_);refine Rg.de ?_;refine bR (A:=RT.dc) aT G kU QZ G G G YR bU (λv75 YS=>?_);refine Rg.de (fF ?_);refine aQ G G E34 (sK (n+1) _ hM YQ YS hx1 hx2) (λr76 w76 hc=>?_);obtain⟨rfl,QG⟩:=hc;replace hl:=hl.le QG.le;replace j9:=j9.le QG.le;replace lB:=lB.le (aS _) QG.le;replace iz:=iz.bQ QG;replace hM:=QG.lt hM;have:=S.size;replace S:=S.av QG;refine Rg.aZ G G ?_;refine T.mI [(0,v0),(1,vl),(5,u5),(7,vo),(8,.int .i64 (i:Int)),(38,.bool (decide ((eH e.1.2 q).isSome=true/\live[i]? =some true)))] ?_ ?_
    ·refine aM (ab G G (br (v':= .bool (decide ((eH e.1.2 q).isSome=true))) (by simp) (ab G G ?_)));refine aO (g:=27) G (λIj=>?_) (λIj=>?_)
     ·refine ae G G (ab G G (ae G G (ab G G (ae G G (bz wu G j9 G (ae G G (cy G G G (aU G G G (ab G G ?_)))))))));refine aO (g:=33) G (λamM=>?_) (λamM=>?_)
      ·refine ae G G (ab G G (ae G G (ab G G (ae G G ?_))));obtain⟨b,YU⟩:∃x,live[i]? =some x:=⟨_,an q0⟩;refine cB wu I4 G G G j9 bU q0 (λav9 y' gD aeF=>?_);rw[ar]at gD;obtain rfl:=aJ (YU.symm.trans gD);refine ae G G ?_;refine bD jK G G G G G aeF bU (λawa aeG=>?_);obtain rfl:=LL.1 aeG;refine aU G G G (ad ?_);exact⟨G,G,G,.cons G a34⟩
      ·refine aj G G G G (aj G G G G (aj G G G G (aj G G G G (aA G G G (ad ?_)))));exact⟨G,G,G,.cons G a34⟩
     ·refine aj G G G G (aj G G G G (aj G G G G (aj G G G G (aA G G G (ab G G (aj G G G G (aj G G G G (aj G G G G (aj G G G G (aA G G G (ad ?_)))))))))));exact⟨G,G,G,.cons G a34⟩
    ·refine bF G (λc8=>?_) (λc8=>?_)
     ·obtain⟨sc,RE⟩:=Option.isSome_iff_exists.1 c8.1;have uR:=Jz e.1.2 hwf (n+1) (q:=q) (deep:=1) QZ hm;have hsb:=uR.own sc RE;have uP:=Ai L live q i;apply T.pR 8 [0,1] 3 aD mixed rfl rfl rfl rfl;intro Up sA9;have AO:=sA9 M2;replace hl:=hl.le AO.le;replace j9:=j9.le AO.le;replace lB:=lB.le (aS _) AO.le;replace iz:=iz.bQ AO;replace hM:=AO.lt hM;have:=S.size;replace S:=S.av AO;refine ab G G (Rg.de (ab G G (Rg.de ?_)));refine bR (A:=RT.qy (n+1)) aq G (IQ jA _) (aS _) (ef _) G G lB bU (λv92 amN=>?_);refine Rg.de (ab G G (Rg.de (ab G G (Rg.de ?_))));refine cB fB F7 G G G hl bU q0 (λu95 x_ gD amO=>?_);rw[ar]at gD;obtain rfl:=aJ (sV.symm.trans gD);refine Rg.de ?_;refine ao (A:=RT.en) (B:=RT.dc) dQ G G kU QZ VI G G QZ amO bU (λu96 amP=>?_);refine Rg.de ?_;refine bR (A:=RT.dc) aT G kU QZ G G G amP bU (λv97 amQ=>?_);refine Rg.de (fF (⟨jC ⟨ie,⟨ie,trivial⟩⟩,?_⟩));have kp:=kT aD Up;refine aQ G G E35 (xg (n+1) _ hM amN amQ hx1 hx2 uR) (λr98 w98 hc=>?_);obtain⟨rfl,Zw⟩:=hc;rw[RE,Option.getD_some];replace hl:=hl.le Zw.le;replace j9:=j9.le Zw.le;replace lB:=lB.le (aS _) Zw.le;replace iz:=iz.bQ Zw;replace hM:=Zw.lt hM;have:=S.size;replace S:=S.av Zw;refine(fun(kp:fy _ _ _)=>ad ⟨G,G,λ_=>kp,?_⟩) a02;refine dN (places:=[(0,1),(1,1)]) dq mD HR rfl ⟨_,_,rfl,rfl,_,_,rfl,rfl,rfl⟩ (out:=[_,_]) ⟨0,[_],rfl,rfl,by simp[Value.cells],1,[_],rfl,rfl,by simp[Value.cells],rfl⟩ ?_;refine(fun(kp:fy _ _ _)=>ad ⟨G,G,λ_=>kp,?_⟩) a02
      refine fw (A:=RT.fo) (hn:=by decide) (M:=M2) aV mD QZ G G hM (DW q0 q0) (.inl G) (λaqb aqc Ik B6=>?_);replace hl:=hl.le B6.le;replace j9:=j9.le B6.le;replace lB:=lB.le (aS _) B6.le;replace iz:=iz.bQ B6;replace hM:=B6.lt hM;have:=S.size;replace S:=S.av B6;refine(fun(kp:fy _ _ _)=>ad ⟨G,G,λ_=>kp,?_⟩) a02;refine dF (M:=M2) (base:=w0.heap.size) aV mD rfl rfl rfl rfl iz Ik bU (by rw[eM];omega) (by rw[eM];omega) (S.size) (λaeH aqd aqe YV B7=>?_);replace hl:=hl.le B7.le;replace j9:=j9.le B7.le;replace lB:=lB.le (aS _) B7.le;replace Ik:=Ik.le B7.le;replace hM:=B7.lt hM;have:=S.size;replace S:=S.dU B7 iz (bu _);replace iz:=YV;refine ad ⟨G,G,λh=>absurd G h,aG G G (ad ⟨G,G,λh=>absurd G h,pH (aM (ab G G (bC G G G q0 (Rg.aZ G G ?_))))⟩)⟩;refine⟨G,(i+1,aeH),a05,?_,?_⟩
      ·exact⟨by omega,_,hM,S,hl,j9,lB,by rw[Ih sV RE c8.2];exact iz⟩
      ·dsimp only;omega
     ·refine aR (aM (ab G G (bC G G G q0 (Rg.aZ G G ?_))));refine⟨G,(i+1,vo),a05,?_,?_⟩
      ·exact⟨by omega,_,hM,S,hl,j9,lB,by rw[Lk sV c8];exact iz⟩
      ·dsimp only;omega
   ·refine cN (T.aP (ab G G (Rg.aZ G G (aI ?_))));have uP:=Ai L live q i;refine aF G G ⟨?_,S.back⟩;rw[if_pos hm,show L.length=i by omega];exact iz.close gX S q0
end Go.K
namespace Go.K
open Go.Proofs
namespace TKTru13
theorem I4:TI Tryz.prog 4 (.bool false) 1 1:=by unfold TI;kernel_rfl
end TKTru13
open TKTru13
set_option maxRecDepth 10000
def rB (l:List Bool) (n:Nat):List Bool:=(List.range n).map λi=>l.getD i true
theorem qq (l:List Bool) (n:Nat):(rB l n).length=n:=by unfold rB;rw[b9,List.length_range]
theorem TA {l:List Bool} {n i:Nat} (h:i<n):(rB l n)[i]? =some (l.getD i true):=by
 unfold rB;rw[ei,List.getElem?_range h];rfl
def Aj (l:List Bool) (n i:Nat):List Bool:=rB l i++List.replicate (n-i) false
theorem FX {l:List Bool} {n i:Nat} (h:i<=n):(Aj l n i).length=n:=by unfold Aj;rw[bM,qq,List.length_replicate];omega
theorem FY {l:List Bool} {n i:Nat} (h:i<n):(Aj l n i).set i (l.getD i true)=Aj l n (i+1):=by
 unfold Aj;rw[List.set_append_right _ _ (by rw[qq];omega),qq,show n-i=(n-(i+1))+1 by omega,List.replicate_succ,Nat.sub_self,List.set_cons_zero];unfold rB;rw[pG,dM,rD];rfl
theorem FZ {M:aL} {l:List Bool} {n:Nat} {v0:Value} (w0:World) (hM:Lt M w0) (hv:(RT.bool.sl).V M w0 l v0) (hn:n<=1000000):
  Spec Tryz.prog 16 #[v0,.int .i64 (n:Int)] w0 (λv w=>(RT.bool.sl).V M w (rB l n) v/\Step M w0 M w aD):=by
 have gX:=hM;have LW:=cQ hv;refine a7 (args:=[_,_]) (fn:=Tryz.f16) Tryz.func16 G (n:=28) Tryz.ntmps16 ?_;have S:Step M w0 M w0 aD:=aW;refine T.aP (Rg.aZ G G (T.aP (ab G G ?_)));refine Rg.mk0 M wu I4 G G G G q0 q0 (λbw w1 z1 z1' TB s1=>?_);generalize hMq:ins M bw=Mq at s1;have Ak:Mq bw:=by rw[<-hMq];exact .inl G
 replace hv:=hv.le s1.le;replace hM:=s1.lt hM;have:=S.size;replace S:=S.av s1;refine Rg.aZ G G (aK (T.aP (Rg.aZ G G (aX ?_))));refine cY (σ:=Nat) (λi=>[(0,v0),(1,.int .i64 (n:Int)),(5,.slice (some ⟨bw,0,none⟩) n n),(6,.int .i64 (i:Int))]) (λi w=>∃M1,Lt M1 w/\Step M w0 M1 w aD/\(RT.bool.sl).V M1 w l v0/\M1 bw/\w.heap[bw]? =some (.cells (nd (Aj l n i)) 4 (0,0))/\i<=n) (λi=>n-i) 0 a38 ?_ ?_
 ·exact⟨_,hM,S,hv,Ak,by rw[TB];unfold Aj rB nd;simp,bp _⟩
 ·clear S hv hM TB Ak;rintro i w ⟨M1,hM,S,hv,Ak,TB,hi⟩;refine aK (T.aP (ab G G (ab G G (cy G G G (ad ?_)))));refine bF G (λc3=>?_) (λc3=>?_)
  ·refine aR (aK (aX (aM (ab G G (ab G G (ab G G (ab G G (bz wu G hv G (ek G G G (ab G G ?_))))))))));refine aO (g:=20) G (λamR=>?_) (λamR=>?_)
   ·refine aj G G G G (aj G G G G (aj G G G G (aj G G G G (aU G G G ?_))));refine br (v':= .bool (l.getD i true)) (congrArg Value.bool (by first|exact CL.symm|(rw[b4,cJ q0];rfl))) ?_;refine Rg.yu wu I4 G G G q0 ?_;have hrl:=FX (l:=l) hi;obtain⟨bo,Zg⟩:=zG (l:=Aj l n i) (i:=i) q0;refine cn (M:=M1) (u:= .bool bo) I4 rfl rfl TB (by rw[ar];exact Zg) G Ak (λw5 gw5 TC=>?_);rw[ar,zH]at gw5;replace hv:=hv.le TC.le;replace Ak:=(TC.mem _ (ah TB)).2 Ak;replace S:=S.ck TC (λb (hb:b=bw)=>by omega);replace hM:=TC.lt hM;refine ad (aM (ab G G (bC G G G q0 (Rg.aZ G G ?_))));refine⟨G,i+1,a38,?_,?_⟩
    ·exact⟨M1,hM,S,hv,Ak,by rw[<-FY q0];exact gw5,by omega⟩
    ·omega
   ·refine ae G G (ab G G (ae G G (ab G G (ae G G ?_))));obtain⟨b,YU⟩:∃x,l[i]? =some x:=⟨_,an q0⟩;refine cB wu I4 G G G hv bU q0 (λu59 y' gD amS=>?_);rw[ar]at gD;obtain rfl:=aJ (YU.symm.trans gD);refine ae G G ?_;refine bD jK G G G G G amS bU (λawd aeJ=>?_);obtain rfl:=LL.1 aeJ;have CL:l.getD i true=b:=by rw[b4,YU];rfl
    refine aA G G G ?_;refine br (v':= .bool (l.getD i true)) (congrArg Value.bool (by first|exact CL.symm|(rw[b4,cJ q0];rfl))) ?_;refine Rg.yu wu I4 G G G q0 ?_;have hrl:=FX (l:=l) hi;obtain⟨bo,Zg⟩:=zG (l:=Aj l n i) (i:=i) q0;refine cn (M:=M1) (u:= .bool bo) I4 rfl rfl TB (by rw[ar];exact Zg) G Ak (λw5 gw5 TC=>?_);rw[ar,zH]at gw5;replace hv:=hv.le TC.le;replace Ak:=(TC.mem _ (ah TB)).2 Ak;replace S:=S.ck TC (λb (hb:b=bw)=>by omega);replace hM:=TC.lt hM;refine ad (aM (ab G G (bC G G G q0 (Rg.aZ G G ?_))));refine⟨G,i+1,a38,?_,?_⟩
    ·exact⟨M1,hM,S,hv,Ak,by rw[<-FY q0];exact gw5,by omega⟩
    ·omega
  ·refine cN (T.aP (ab G G (Rg.aZ G G (aI ?_))))
   have e:Aj l n i=rB l n:=by
    have:i=n:=by omega
    subst this;unfold Aj;rw[Nat.sub_self];simp
   rw[e]at TB;have hV:=SM (M:=M) TB (λh=>by have:=gX _ h;omega) (by rw[qq];omega);rw[qq]at hV;exact aF G G ⟨hV,S.back⟩
end Go.K
namespace Go.K
open Go.Proofs
namespace TKRef13
theorem mD:TI Tryz.prog 45 (.agg #[(.int .i64 0),(.int .i64 0)]) 2 16:=by unfold TI;kernel_rfl
theorem HR:placesOf Tryz.prog 45=[(0,1),(1,1)].map some:=by kernel_rfl
end TKRef13
open TKRef13
set_option maxRecDepth 10000
theorem F0 {M:aL} {w0:World} {v u:Value} {a b:List Fo} (hM:Lt M w0) (hv:((RT.fo).sl).V M w0 a v) (hu:((RT.fo).sl).V M w0 b u):
  Spec Tryz.prog 14 #[v,u] w0 (λv' w'=>v'= .bool (decide (a=b))/\Step M w0 M w' aD):=by
 have hla:=cQ hv;have hlb:=cQ hu;refine a7 (args:=[_,_]) (fn:=Tryz.f14) Tryz.func14 G (n:=26) Tryz.ntmps14 (T.aP (Rg.aZ G G (aK (T.aP (ab G G (bz aV G hv G (ab G G (bz aV G hu G ?_))))))));refine eV G G G (ad ?_);refine bF G (λc1=>?_) (λc1=>?_)
 ·refine T.aP (Rg.aZ G G (aI ?_));refine aF G G ⟨?_,aW⟩;rw[decide_eq_false];rintro rfl;exact c1 G
 ·obtain hlen:a.length=b.length:=by omega
  refine aR (aK (T.aP (Rg.aZ G G (aX ?_))));refine cY (σ:=Nat) (λs=>[(0,v),(1,u),(5,.int .i64 s)]) (λs w=>s<=a.length/\a.take s=b.take s/\Step M w0 M w aD) (λs=>a.length-s) 0 a00 ?_ ?_
  ·exact⟨bp _,by simp,aW⟩
  ·rintro k w1 ⟨hk,heq,S⟩;refine aK (T.aP (ab G G (ab G G (bz aV G hv G (cy G G G (ad ?_))))));refine bF G (λc4=>?_) (λc4=>?_)
   ·refine aR (aK (aX (aK ?_)));obtain⟨⟨d,s⟩,hx⟩:∃x,a[k]? =some x:=⟨_,an q0⟩;obtain⟨⟨e,t⟩,hy⟩:∃y,b[k]? =some y:=⟨_,an q0⟩;apply T.draw (M:=M) mixed [cp.eq _,cp.eq _,cp.ptr (RT.fo) (d,s),cp.V (RT.fo) (d,s),cp.eq _,cp.eq _,cp.ptr (RT.fo) (e,t),cp.V (RT.fo) (e,t),cp.eq (.bool (decide (¬((d,s)=(e,t)))))]
    ·rfl
    ·refine aH ?_ ?_
     ·intro wD E sD;refine ab G G ?_;exact a01
     refine aH ?_ ?_
     ·intro wD E sD;refine ab G G ?_;exact a01
     refine aH ?_ ?_
     ·intro wD E sD;refine aw (aw ?_);refine cB aV mD G G G ((hv.le S.le).le sD.le) bU q0 (λui ai H2 H3=>?_);obtain rfl:(d,s)=ai:=cz (aJ (H2.symm.trans (by rw[ar];exact hx)));exact ae7
     refine aH ?_ ?_
     ·intro wD E sD;intro v2 Bo;refine bR (A:=RT.fo) dq G mD QZ G G G (show cM (RT.fo) M wD v2 (d,s)from Bo) bU (λva mv=>?_);exact ad ⟨G,G,_,G,mv,aW⟩
     refine aH ?_ ?_
     ·intro wD E sD;refine ab G G ?_;exact a01
     refine aH ?_ ?_
     ·intro wD E sD;refine ab G G ?_;exact a01
     refine aH ?_ ?_
     ·intro wD E sD;refine aw (aw ?_);refine cB aV mD G G G ((hu.le S.le).le sD.le) bU q0 (λui ai H2 H3=>?_);obtain rfl:(e,t)=ai:=cz (aJ (H2.symm.trans (by rw[ar];exact hy)));exact ae7
     refine aH ?_ ?_
     ·intro wD E sD;intro v6 pw;refine bR (A:=RT.fo) dq G mD QZ G G G (show cM (RT.fo) M wD v6 (e,t)from pw) bU (λva mv=>?_);exact ad ⟨G,G,_,G,mv,aW⟩
     refine aH ?_ ?_
     ·intro wD E sD;intro v3 tK;intro v7 Ew;obtain rfl:=HE (show RT.fo.V M wD (d,s) v3 from tK);obtain rfl:=HE (show RT.fo.V M wD (e,t) v7 from Ew);refine Rg.Z6 dq ah2 ah2 ak ak QZ QZ G G G G G ?_;exact a01
     exact uL
    ·intro wD6 sU;refine aw (aw ?_);intro awe aqf;intro adF UT;refine aw (aw ?_);intro awf aqg;intro awg aqh;refine aw ?_;refine bF G (λc6=>?_) (λc6=>?_)
     ·refine T.aP (Rg.aZ G G (aI ?_));refine aF G G ⟨?_,S.av sU⟩;rw[decide_eq_false];rintro rfl;rw[hx]at hy;cases hy;exact c6 G
     ·refine aR (aM (ab G G (bC G G G q0 (Rg.aZ G G ?_))));refine⟨G,k+1,a00,?_,?_⟩
      ·refine⟨by omega,?_,S.av sU⟩;obtain⟨_,h1⟩:=al.1 hx;obtain⟨_,h2⟩:=al.1 hy;rw[eE q0,eE q0,heq,h1,h2,cG.1 c6]
      ·show a.length-(k+1)<a.length-k;omega
   ·refine cN (T.aP (Rg.aZ G G (aI ?_)));refine aF G G ⟨?_,S⟩;rw[decide_eq_true]
    rwa [bm q0,bm q0]at heq
end Go.K
namespace Go.K
open Go.Proofs
namespace TKLaw13
theorem mD:TI Tryz.prog 45 (.agg #[(.int .i64 0),(.int .i64 0)]) 2 16:=by unfold TI;kernel_rfl
theorem HR:placesOf Tryz.prog 45=[(0,1),(1,1)].map some:=by kernel_rfl
theorem E53:Enters Tryz.prog 53:=enters Tryz.func53 rfl QZ
theorem E54:Enters Tryz.prog 54:=enters Tryz.func54 rfl QZ
end TKLaw13
open TKLaw13
set_option maxRecDepth 10000
theorem uB {M:aL} {w0:World} (hM:Lt M w0):
  Spec Tryz.prog 12 #[] w0 (λv' w'=>v'= .bool true/\Step M w0 M w' aD):=by
 refine a7 (args:=[]) (fn:=Tryz.f12) Tryz.func12 rfl (n:=25) Tryz.ntmps12 (T.aP (Rg.aZ rfl rfl (T.aP (dN (places:=[(0,1),(1,1)]) dq mD HR rfl ⟨_,_,rfl,rfl,_,_,rfl,rfl,rfl⟩ (out:=[_,_]) ⟨0,[_],rfl,rfl,by simp[Value.cells],1,[_],rfl,rfl,by simp[Value.cells],rfl⟩ (dN (places:=[(0,1),(1,1)]) dq mD HR rfl ⟨_,_,rfl,rfl,_,_,rfl,rfl,rfl⟩ (out:=[_,_]) ⟨0,[_],rfl,rfl,by simp[Value.cells],1,[_],rfl,rfl,by simp[Value.cells],rfl⟩ ?_)))));refine Rg.LP (A:=RT.fo) (hn:=by decide) (M:=M) (xs:=[(1,2),(3,1)]) aV mD G QZ G ⟨_,_,_,G,G,G,DW (a:=1) (b:=2) q0 q0,_,_,_,G,G,G,DW (a:=3) (b:=1) q0 q0,G⟩ G hM (.inl G) QZ (λu1 w1 fR s1=>?_);have oN:=s1.lt hM;refine dN (places:=[(0,1),(1,1)]) dq mD HR rfl ⟨_,_,rfl,rfl,_,_,rfl,rfl,rfl⟩ (out:=[_,_]) ⟨0,[_],rfl,rfl,by simp[Value.cells],1,[_],rfl,rfl,by simp[Value.cells],rfl⟩ ?_;refine fw (A:=RT.fo) (hn:=by decide) (M:=M) aV mD QZ G G oN (DW (a:=3) (b:=4) q0 q0) (.inl G) (λu2 w2 fm s2=>?_);have IC:=s2.lt oN;refine aQ G G E53 (Qh IC (fR.le s2.le) fm (by intro p hp;simp at hp;rcases hp with rfl|rfl<;>decide) (by intro p hp;simp at hp;subst hp;decide) QZ) (λu3 w3 h=>?_);obtain⟨h3,s3⟩:=h;have OK:=s3.lt IC
 replace h3:((RT.fo).sl).V M w3 [(3,5)] u3:=by
  have e:Dq 2 [(1,2),(3,1)] [(3,4)]=[(3,5)]:=by decide
  rw[<-e];exact h3
 refine Rg.aZ G G (T.aP (ab G G (bz aV G h3 G (fi G G G (ab G G (Rg.LI (g:=11) G (G) (ae G G (ab G G (ae G G ?_)))))))));have hl1:([((3:Int),(5:Int))]:List Fo).length=1:=rfl;refine cB aV mD G G G (h3) bU a48 (λawh amT aeK aeL=>?_);obtain rfl:((3:Int),(5:Int))=amT:=cz (aJ (aeK.symm.trans rfl));refine ae G G ?_;refine bR (A:=RT.fo) dq G mD QZ G G G aeL bU (λv26 X8=>?_);obtain rfl:=HE X8;refine ae rfl rfl (dN (places:=[(0,1),(1,1)]) dq mD HR rfl ⟨_,_,rfl,rfl,_,_,rfl,rfl,rfl⟩ (out:=[_,_]) ⟨0,[_],rfl,rfl,by simp[Value.cells],1,[_],rfl,rfl,by simp[Value.cells],rfl⟩ (ae rfl rfl (Rg.ac2 (c:=true) (λw=>by kernel_rfl) (λw=>by kernel_rfl) G G G (br (v':= .bool (decide True)) (by simp) (aU G G G (ab G G (Rg.LI (g:=18) G (trivial) (ae G G ?_))))))));refine Rg.LP (A:=RT.int .i64) (hn:=by decide) (M:=M) (xs:=[0,4]) ax I3 G QZ G ⟨0,[4],_,G,G,G,gJ q0,4,[],_,G,G,G,gJ q0,G⟩ G OK (.inr ⟨G,G⟩) QZ (λu4 w4 Ls s4=>?_);have Uu:=s4.lt OK;refine ae G G ?_;refine fw (A:=RT.int .i64) (hn:=by decide) (M:=M) ax I3 QZ G G Uu (gJ (x:=1) q0) (.inr ⟨G,G⟩) (λu5 w5 lB s5=>?_);have Yr:=s5.lt Uu;refine ae G G ?_;refine Rg.LP (A:=(RT.int .i64).sl) (hn:=by decide) (M:=M) (xs:=[[0,4],[1]]) gp ph G QZ G ⟨_,_,_,G,G,G,Ls.le s5.le,_,_,_,G,G,G,lB,G⟩ G Yr (.inr ⟨G,G⟩) QZ (λu6 w6 tF s6=>?_);refine ae G G ?_;refine aQ G G E54 (BV tF (by intro l hl;simp at hl;rcases hl with rfl|rfl<;>exact⟨by decide,by decide,by decide⟩) QZ) (λr w h=>?_);obtain⟨rfl,rfl⟩:=h
 refine br (v':= .int .i64 1) (congrArg (Value.int .i64) (show((Jh [[0,4],[1]]:Nat):Int)=1 by decide)) (ae G G (fi G G G (aU G G G (Rg.aZ G G (aI ?_)))));exact aF G G ⟨G,(((((s1.av s2).av s3).av s4).av s5).av s6)⟩
end Go.K
namespace Go.K
open Go.Proofs
namespace TKRefuses13
theorem qT:TI Tryz.prog 26 (.slice none 0 0) 1 24:=by unfold TI;kernel_rfl
theorem jA:TI Tryz.prog 28 (.agg #[(.int .i64 0),(.string ⟨#[]⟩),(.string ⟨#[]⟩),(.slice none 0 0),(.slice none 0 0)]) 5 88:=by unfold TI;kernel_rfl
theorem E10:Enters Tryz.prog 10:=enters Tryz.func10 rfl QZ
theorem E11:Enters Tryz.prog 11:=enters Tryz.func11 rfl QZ
theorem E12:Enters Tryz.prog 12:=enters Tryz.func12 rfl QZ
theorem E13:Enters Tryz.prog 13:=enters Tryz.func13 rfl QZ
theorem E14:Enters Tryz.prog 14:=enters Tryz.func14 rfl QZ
theorem E15:Enters Tryz.prog 15:=enters Tryz.func15 rfl QZ
theorem E16:Enters Tryz.prog 16:=enters Tryz.func16 rfl QZ
end TKRefuses13
open TKRefuses13
set_option maxRecDepth 10000
theorem Il {L:List En} {q:Qy} (h:L.length<=100000):(if ik q 1=0 then ij (λe=>eH e.1.2 q) 0 L else[]).length<=140737488355328:=by
 split
 ·have:=kE (f:=λe=>eH e.1.2 q) L 0;omega
 ·exact bp _
theorem Ll {L:List En} {q:Qy}:(if ik q 1=0 then k5 L (rB [] L.length) q L.length else[])=(if ik q 1=0 then ij (λe=>eH e.1.2 q) 0 L else[]):=by
 rw[Ii λi hi=>by rw[TA hi];rfl]
theorem YW {n:Nat} {M:aL} {w:World} {q:Qy} {u:Value} (h:cM (RT.qy n) M w u q):cM (RT.qy (n+1)) M w u q:=by
 obtain⟨b,o,vs,h1,h2,h3,h4⟩:=h;exact⟨b,o,vs,h1,h2,Iw h3,h4⟩
theorem uC {M:aL} {l:List Dc} {n:Nat} {q:Qy} {v0 v1:Value} {w0:World} (hM:Lt M w0) (hv:(RT.dc.sl).V M w0 l v0) (hq:(RT.qy (n+1)).V M w0 q v1) (lh:FF q) (h0: ¬M 1) (tab:∃e fr,w0.heap[1]? =some (.cells (Gn.map fun(k:Nat)=>Value.int .u8 (k:Int)).toArray e fr)):
  Spec Tryz.prog 3 #[v0,v1] w0 (λv w=>v= .bool true/\Step M w0 M w aD):=by
 have gX:=hM;obtain⟨Tl,Tn,H7⟩:=tab;have hgl:=lD l 0 1 5;obtain⟨fY,_⟩:=Fk l (show(0:Int)<=0 by decide) (show(1:Int)<=1 by decide) 5;obtain⟨qw,qk,rfl,UM,sL,wg,QH⟩:=l1 hq;clear hq;have amU:∀e∈(iU l 0 1 5),(∀f∈e.1.2,f.1.length<=900000/\f.2.length<=900000)/\e.1.2.length<=1000000:=λe he=>⟨λf hf=>zF e he f hf,(by have:=(kP fY e he).few;omega)⟩
 obtain⟨QL,hsk⟩:=Yc.1 lh;have aeM:FF (Qy.mk q.kind q.term q.words (q.kids.take (min q.kids.length 3))):=Yc.2 ⟨QL,λx hx=>hsk x (xi hx)⟩;refine a7 (args:=[_,_]) (fn:=Tryz.f3) Tryz.func3 G (n:=57) Tryz.ntmps3 ?_;have S:Step M w0 M w0 aD:=aW;refine T.aP ?_;refine np M G G (λAR acs ajZ aj0 fE zz=>?_);obtain⟨zA,zB⟩:∃M',M'=ins M AR:=⟨_,rfl⟩;rw[<-zB]at zz;have eT:zA AR:=by rw[zB];exact .inl G
 try simp only[Value.cells]at fE
 replace hv:=hv.le zz.le;replace wg:=wg.le zz.le;replace QH:=QH.le zz.le;replace hM:=zz.lt hM;have:=S.size;replace S:=S.av zz;refine Rg.aZ G G (T.aP (ab G G ?_));refine aQ G G E10 (GN (most:=5) (a:=0) (s:=1) _ hM hv QZ QZ QZ) (λr1 w1 hc=>?_);obtain⟨hg,s1⟩:=hc;have:=ah fE;replace eT:=(s1.mem _ this).2 eT;replace fE:=s1.aE fE;replace hv:=hv.le s1.le;replace wg:=wg.le s1.le;replace QH:=QH.le s1.le;replace hM:=s1.lt hM;have:=S.size;replace S:=S.av s1;refine Rg.aZ G G (T.aP (ab G G ?_));refine aQ G G E11 (Hv _ hM hg zF q0 fY) (λrb2 wb2 hc=>?_);obtain⟨sa2,rfl,mW,QS⟩:=hc;obtain⟨aa2,rfl⟩:=mW.lV;have:=ah fE;replace eT:=(QS.mem _ this).2 eT;replace fE:=QS.aE fE;replace wg:=wg.le QS.le;replace QH:=QH.le QS.le;replace hg:=hg.le QS.le;replace hM:=QS.lt hM;have:=S.size;replace S:=S.av QS;refine ab G G (cD G G G (cD G G G (aG G G (Rg.aZ G G (aK (T.aP (ab G G (Rg.Mn Tryz.underlying31 G G G (ad ?_)))))))));refine T.LJ G ((by simp)) (aR (T.aP (aY (o':=4) aq G G qT QZ G G (aN bh G G G U3 G (aY (o':=4) aq G G qT QZ G G (aN bh G G G U3 G ?_))))));have Ap:=cQ QH;refine bz (A:=RT.qy n) (hn:=aS _) bh G QH G (Rg.min2 G G G (br (v':= .int .i64 ((min q.kids.length 3:Nat):Int)) (congrArg _ q0) ?_));refine Rg.Io (A:=RT.qy n) (hn:=aS _) (M:=zA) bh (IQ jA _) G G G QH q0 (λu56 kS=>?_);rw[ar]at kS;refine aY (o':=4) aq G G qT QZ G G ?_;refine cn (M:=zA) qT G G fE G (jc kS G G) eT (λabO aeO qR=>?_)
 change abO.heap[_]? =some (Obj.cells #[.int .i64 q.kind,.string ⟨q.term.1.toArray⟩,.string ⟨q.term.2.toArray⟩,qw,u56] _ _)at aeO;have:=ah fE;replace eT:=(qR.mem _ this).2 eT;replace wg:=wg.le qR.le;replace QH:=QH.le qR.le;replace hg:=hg.le qR.le;replace mW:=mW.le QZ qR.le;replace kS:=kS.le qR.le;replace hM:=qR.lt hM;have:=S.size;replace S:=S.trans qR (λk hk h=>by have h:_=_:=h;subst h;first|(exfalso;omega)|(show _<=_;omega)|exact⟨by first|omega|assumption,(S.mem _ hk).1 ((qR.mem _ (ah fE)).1 eT)⟩|exact .inl rfl|exact .inr rfl|exact .inr (.inl rfl)|exact .inr (.inr rfl)|exact .inr (.inr (.inl rfl))|exact rfl);have U2:=aeO;clear fE;have fE:=U2;clear U2;refine ad (aK (T.aP (Rg.aZ G G (aX ?_))));refine cY (σ:=Nat) (λi=>[(3,.pointer (some ⟨AR,0,none⟩)),(5,r1),(6,.pointer (some aa2)),(8,.int .i64 (i:Int))]) (λi w=>i<=(q.kids.take (min q.kids.length 3)).length/\∃M2,Lt M2 w/\Step M w0 M2 w aD/\(RT.en.sl).V M2 w (iU l 0 1 5) r1/\cM RT.se M2 w (.pointer (some aa2)) (F9 (jq (iU l 0 1 5)))/\(RT.str.sl).V M2 w q.words qw/\((RT.qy n).sl (aS n)).V M2 w (q.kids.take (min q.kids.length 3)) u56/\w.heap[AR]? =some (.cells #[.int .i64 q.kind,.string ⟨q.term.1.toArray⟩,.string ⟨q.term.2.toArray⟩,qw,u56] 28 (0,0))/\M2 AR) (λi=>(q.kids.take (min q.kids.length 3)).length-i) 0 a38 ?_ ?_
 ·exact⟨bp _,_,hM,S,hg,mW,wg,kS,fE,eT⟩
 ·clear hM S hg mW wg kS fE eT;rintro i w ⟨hi,M2,hM,S,hg,mW,wg,kS,fE,eT⟩;refine aK (T.aP (ab G G (aY (o':=4) aq G G qT QZ G G (aN bh G G G U3 G ?_))));have abI:=cQ kS;refine bz (A:=RT.qy n) (hn:=aS _) bh G kS G (cy G G G (ad ?_));refine bF G (λc7=>?_) (λc7=>?_)
  ·refine aR (aK (aX (T.aP (aY (o':=4) aq G G qT QZ G G (aN bh G G G U3 G (ab G G ?_))))));obtain⟨x,hx⟩:∃x,((q.kids.take (min q.kids.length 3)))[i]? =some x:=⟨_,an q0⟩;refine cB (A:=RT.qy n) (hn:=aS _) (M:=M2) bh (IQ jA _) G G G kS bU q0 (λu93 x_ gD QE=>?_);rw[ar]at gD;obtain rfl:=aJ (hx.symm.trans gD);replace QE:=YW QE;refine ao (A:=RT.qy (n+1)) (B:=((RT.qy n).sl (aS n))) aq G G qT Nat.one_pos (Bj n) G G (aS _) QE bU (λu94 amV=>?_);refine bD bh G G G G G amV bU (λv95 amW=>?_);refine bz (A:=RT.qy n) (hn:=aS _) bh G amW G (eN G G G (ad ?_));refine bF G (λc9=>?_) (λc9=>?_)
   ·refine T.aP ?_;refine aQ G G E12 (uB hM) (λrl wl hc=>?_);obtain⟨rfl,sl⟩:=hc;have:=ah fE;replace eT:=(sl.mem _ this).2 eT;replace fE:=sl.aE fE;replace hg:=hg.le sl.le;replace mW:=mW.le QZ sl.le;replace wg:=wg.le sl.le;replace kS:=kS.le sl.le;replace hM:=sl.lt hM;have:=S.size;replace S:=S.av sl;refine Rg.aZ G G (aI ?_);exact aF G G ⟨G,S.back⟩
   ·refine aR (aM (ab G G (bC G G G q0 (Rg.aZ G G ?_))));refine⟨G,i+1,a38,?_,?_⟩
    ·exact⟨by omega,_,hM,S,hg,mW,wg,kS,fE,eT⟩
    ·omega
  ·refine cN (T.aP (ab G G ?_));have Dn:=Ix UM sL wg kS;refine eX (vs:=[.int .i64 q.kind,.string ⟨q.term.1.toArray⟩,.string ⟨q.term.2.toArray⟩,qw,u56]) aq G jA G G G fE ?_;refine aQ G G E13 (FQ (n:=n) (q:=(Qy.mk q.kind q.term q.words (q.kids.take (min q.kids.length 3)))) _ hM (λhn=>h0 ((S.mem 1 (ah H7)).1 hn)) ⟨Tl,Tn,S.aE H7⟩ mW fY q0 Dn aeM) (λawo awp hc=>?_);obtain⟨aqk,amX,QI,YX⟩:=hc;have mq:=YX.close (hn:=by decide) hM QI (Il q0);have uD:=QI.back;have:=ah fE;replace eT:=(uD.mem _ this).2 eT;replace fE:=uD.aE fE;replace hg:=hg.le uD.le;replace mW:=mW.le QZ uD.le;replace wg:=wg.le uD.le;replace kS:=kS.le uD.le;replace Dn:=Dn.le uD.le;replace hM:=uD.lt hM;have:=S.size;replace S:=S.av uD;refine Rg.aZ G G (aK ?_);apply T.L8 [0,1,2,3,5,4,6,7,8,9,10,11] 5 [0,1,4] 2 aD mixed
   ·simp+decide only[Ay,ti,eI,rE,nZ,n0,nk,fe,k9,xT,cond_true,cond_false,Nat.reduceBEq,Nat.reduceAdd,beq_self_eq_true];rfl
   ·rfl
   ·rfl
   ·rfl
   ·rfl
   ·rfl
   ·rfl
   intro CV YT;have kq:=YT M2;have:=ah fE;replace eT:=(kq.mem _ this).2 eT;replace fE:=kq.aE fE;replace hg:=hg.le kq.le;replace mW:=mW.le QZ kq.le;replace wg:=wg.le kq.le;replace kS:=kS.le kq.le;replace Dn:=Dn.le kq.le;replace mq:=mq.le kq.le;replace hM:=kq.lt hM;have:=S.size;replace S:=S.av kq;refine ab G G (Rg.de (ab G G (Rg.de (ab G G (Rg.de (bz fB G hg G (Rg.de (eX (vs:=[.int .i64 q.kind,.string ⟨q.term.1.toArray⟩,.string ⟨q.term.2.toArray⟩,qw,u56]) aq G jA G G G fE (Rg.de (fF (⟨jC ⟨ie,⟨ie,⟨ic G U3 a74,trivial⟩⟩⟩,?_⟩)))))))))));have kp:=kT aD CV;refine aQ G G E16 (FZ (l:=[]) (n:=(iU l 0 1 5).length) _ hM iQ q0) (λawq awr hc=>?_);obtain⟨Al,A0⟩:=hc;have:=ah fE;replace eT:=(A0.mem _ this).2 eT;replace fE:=A0.aE fE;replace hg:=hg.le A0.le;replace mW:=mW.le QZ A0.le;replace wg:=wg.le A0.le;replace kS:=kS.le A0.le;replace Dn:=Dn.le A0.le;replace mq:=mq.le A0.le;replace hM:=A0.lt hM;have:=S.size;replace S:=S.av A0;refine(fun(kp:fy _ _ _)=>ad ⟨G,G,λ_=>kp,?_⟩) a02;refine aQ G G E15 (FV (n:=n) (q:=(Qy.mk q.kind q.term q.words (q.kids.take (min q.kids.length 3)))) _ hM hg Al Dn aeM (kP fY) amU q0) (λaws awt hc=>?_);obtain⟨F1,Am⟩:=hc;have:=ah fE;replace eT:=(Am.mem _ this).2 eT;replace fE:=Am.aE fE;replace hg:=hg.le Am.le;replace mW:=mW.le QZ Am.le;replace wg:=wg.le Am.le;replace kS:=kS.le Am.le;replace Dn:=Dn.le Am.le
   replace mq:=mq.le Am.le;replace Al:=Al.le Am.le;replace hM:=Am.lt hM;have:=S.size;replace S:=S.av Am;refine(fun(kp:fy _ _ _)=>ad ⟨G,G,λ_=>kp,?_⟩) a02;refine aQ G G E14 (F0 hM mq F1) (λawu awv hc=>?_);obtain⟨rfl,xE⟩:=hc;refine br (v':= .bool true) (congrArg Value.bool (decide_eq_true Ll.symm)) ?_;have:=ah fE;replace eT:=(xE.mem _ this).2 eT;replace fE:=xE.aE fE;replace hg:=hg.le xE.le;replace mW:=mW.le QZ xE.le;replace wg:=wg.le xE.le;replace kS:=kS.le xE.le;replace Dn:=Dn.le xE.le;replace mq:=mq.le xE.le;replace Al:=Al.le xE.le;replace F1:=F1.le xE.le;replace hM:=xE.lt hM;have:=S.size;replace S:=S.av xE;refine ad ⟨G,G,λh=>absurd G h,ab G G (ad ⟨G,G,λh=>absurd G h,ae G G ?_⟩)⟩;refine aQ G G E12 (uB hM) (λrl wl hc=>?_);obtain⟨rfl,sl⟩:=hc;have:=ah fE;replace eT:=(sl.mem _ this).2 eT;replace fE:=sl.aE fE;replace hg:=hg.le sl.le;replace mW:=mW.le QZ sl.le;replace wg:=wg.le sl.le;replace kS:=kS.le sl.le;replace Dn:=Dn.le sl.le;replace mq:=mq.le sl.le;replace Al:=Al.le sl.le;replace F1:=F1.le sl.le;replace hM:=sl.lt hM;have:=S.size;replace S:=S.av sl;refine ad ⟨G,G,λh=>absurd G h,aU G G G (ad ⟨G,G,λh=>absurd G h,aG G G (ad ⟨G,G,λh=>absurd G h,pH (aI ?_)⟩)⟩)⟩;exact aF G G ⟨G,S.back⟩
end Go.K

/- What the law 'MatchMatches' needs of walks and plain Lean, part 6: nothing is assumed beyond the texts that it imports. -/
import Derived.KernelRfl
import Derived.Lib.SliceRun
import Derived.Test.YtaobajlebdchhaaGreatDoorProg
import Derived.Test.YtaobajlebdchhaaGreatDoorZMatchMatches1
import Derived.Test.YtaobajlebdchhaaGreatDoorZMatchMatches2
import Derived.Test.YtaobajlebdchhaaGreatDoorZMatchMatches3
import Derived.Test.YtaobajlebdchhaaGreatDoorZMatchMatches4
import Derived.Test.YtaobajlebdchhaaGreatDoorZMatchMatches5
set_option linter.unusedVariables false
set_option linter.unusedSimpArgs false
namespace Go.K
open Go.Proofs
namespace TKOf
theorem NI:TI Tryz.prog 36 (.slice none 0 0) 1 24:=by unfold TI;kernel_rfl
theorem ki:TI Tryz.prog 45 (.agg #[(.int .i64 0),(.int .i64 0)]) 2 16:=by unfold TI;kernel_rfl
theorem A4:TI Tryz.prog 261 (.agg #[(.int .i64 0),(.int .i64 0),(.int .i64 0)]) 3 24:=by unfold TI;kernel_rfl
theorem HA:placesOf Tryz.prog 45=[(0,1),(1,1)].map some:=by kernel_rfl
theorem aaz:Enters Tryz.prog 102:=enters Tryz.func102 rfl Tg
theorem aoJ:Enters Tryz.prog 158:=enters Tryz.func158 rfl Tg
theorem aoK:Enters Tryz.prog 200:=enters Tryz.func200 rfl Tg
end TKOf
open TKOf
set_option maxRecDepth 10000
structure B3 (M:aM) (w0:World) (least:Int) (b5 bo ba bb D:Nat) (st:Obj) (vo:Value) (xs:List Fo) (M1:aM) (w:World):Prop where
 lt:Lt M1 w
 S:Step M w0 M1 w aC
 mo:M1 bo
 ma:M1 ba
 mb:M1 bb
 md:M1 D
 mr:M1 (D+1)
 h5:w.heap[b5]? =some (.cells #[.int .i64 least] 3 (0,0))
 o:w.heap[bo]? =some (.cells #[vo] 36 (0,0))
 d:w.heap[D]? =some (.deferred (some []))
 r:w.heap[D+1]? =some st
 ne:(b5<D/\bo<D/\ba<D/\bb<D)/\(bo≠b5/\bo≠ba/\bo≠bb/\b5≠ba/\b5≠bb)/\(w0.heap.size<=bo/\w0.heap.size<=ba/\w0.heap.size<=bb/\w0.heap.size<=D)
 hk:Own RT.fo 45 M1 w (D+2) vo xs
section
variable {M M1 M2 N:aM} {w0 w w':World} {least:Int} {b5 bo ba bb D:Nat} {st st':Obj} {vo:Value} {xs:List Fo}
theorem B3.step (h:B3 M w0 least b5 bo ba bb D st vo xs M1 w) (s:Step M1 w M2 w' N) (hN:∀k,N k->k=ba\/k=bb):B3 M w0 least b5 bo ba bb D st vo xs M2 w':=by
 obtain⟨⟨e1,e2,e3,e4⟩,⟨e5,e6,e7,e8,e9⟩,IE,Mg,KA,QA⟩:=h.ne;have mm:=λ{b:Nat} (hm:M1 b)=>(s.mem b (h.lt b hm)).2 hm
 have no:∀b,b≠ba->b≠bb->¬N b:=λb h1 h2 hn=>by rcases hN b hn with h|h;exact h1 h;exact h2 h
 exact⟨s.lt h.lt,h.S.cr s (λb hb=>by rcases hN b hb with rfl|rfl<;>assumption),mm h.mo,mm h.ma,mm h.mb,mm h.md,mm h.mr,s.bU h.h5 (no _ e8 e9),s.bU h.o (no _ e6 e7),s.bU h.d (no _ q0 q0),s.bU h.r (no _ q0 q0),h.ne,
  h.hk.step s (λk hk hh=>by have:=(h.hk.base k hk).1;rcases hN k hh with h|h<;>omega)⟩
theorem B3.qf (h:B3 M w0 least b5 bo ba bb D st vo xs M1 w):B3 M w0 least b5 bo ba bb D st' vo xs M1 (w.putObj (D+1) st')/\Step M1 w M1 (w.putObj (D+1) st') (λk=>k=D+1):=by
 obtain⟨⟨e1,e2,e3,e4⟩,⟨e5,e6,e7,e8,e9⟩,IE,Mg,KA,QA⟩:=h.ne;have s:Step M1 w M1 (w.putObj (D+1) st') (λk=>k=D+1):=gy h.mr;exact⟨⟨s.lt h.lt,h.S.cr s (λb hb=>by omega),h.mo,h.ma,h.mb,h.md,h.mr,s.bU h.h5 q0,s.bU h.o q0,s.bU h.d q0,World.putObj_heap_same (ae h.r),h.ne,h.hk.step s (λk qa hh=>by have:=(h.hk.base k qa).1;omega)⟩,s⟩
theorem B3.grow {vo':Value} {xs':List Fo} (h:B3 M w0 least b5 bo ba bb D st vo xs M1 w) (s:Step M1 w M2 w' (λk=>vo.ownBlock=some k)) (hk:Own RT.fo 45 M2 w' (D+2) vo' xs'):
  (w'.heap[bo]? =some (.cells #[vo] 36 (0,0))/\M2 bo)/\∀{w2:World},Step M2 w' M2 w2 (λk=>k=bo)->w2.heap[bo]? =some (.cells #[vo'] 36 (0,0))->B3 M w0 least b5 bo ba bb D st vo' xs' M2 w2:=by
 obtain⟨⟨e1,e2,e3,e4⟩,⟨e5,e6,e7,e8,e9⟩,IE,Mg,KA,QA⟩:=h.ne;have hn:∀k,vo.ownBlock=some k->D+2<=k:=λk hk=>(h.hk.base k hk).1
 have mm:=λ{b:Nat} (hm:M1 b)=>(s.mem b (h.lt b hm)).2 hm
 refine ⟨⟨s.bU h.o (λhh=>by have:=hn _ hh;omega),mm h.mo⟩,λ{w2} s2 hx=> ?_⟩;have S':=h.S.cr s (λk hk=>by have:=hn k hk;omega)
 exact⟨s2.lt (s.lt h.lt),S'.cr s2 (λk hk=>by subst hk;exact IE),mm h.mo,mm h.ma,mm h.mb,mm h.md,mm h.mr,s2.bU (s.bU h.h5 (λhh=>by have:=hn _ hh;omega)) (λhh=>e5 hh.symm),hx,s2.bU (s.bU h.d (λhh=>by have:=hn _ hh;omega)) q0,s2.bU (s.bU h.r (λhh=>by have:=hn _ hh;omega)) q0,h.ne,
  hk.step s2 (λk qa hh=>by have:=(hk.base k qa).1;omega)⟩
end
set_option maxHeartbeats 2000000 in
theorem KS {M:aM} {w0:World} {va vb:Value} {a b:List Fo} {least:Int} (hM:Lt M w0) (k8:((RT.fo).sl).V M w0 a va) (NB:((RT.fo).sl).V M w0 b vb) (oa:sd a) (ob:sd b) (hl:a.length+b.length<=1099511627776):
  Spec Tryz.prog 102 #[va,vb,.int .i64 least] w0 (λv' w'=>∃M',Lt M' w'∧Step M w0 M' w' aC/\Own RT.fo 45 M' w' w0.heap.size v' (EE least a b)):=by
 refine ug (args:=[_,_,_]) (fn:=Tryz.f102) Tryz.func102 G (n:=26) Tryz.ntmps102 (T.aQ ?_);refine nS M G G (λb5 w1 z1 z1' g5 s1=>?_);change w1.heap[b5]? =some (.cells #[.int .i64 least] _ _)at g5;refine Rg.aZ G G (T.aQ ?_);refine ew (ins M b5) NI G (λbo w2 z2 z2' go s2=>?_);change w2.heap[bo]? =some (.cells #[.slice none 0 0] _ _)at go;replace g5:=s2.aF g5;have S2:=s1.aw s2;have J8:=S2.lt hM;have y1:=s1.size;have y2:=s2.size;refine ad (aL (T.aQ (ab G G (ab G G ?_))));refine aP G G aoJ (MT J8 (k8.le S2.le) (NB.le S2.le)) (λr3 w3 h=>?_);obtain⟨ba,bb,rfl,gA,gB,fw,za,zb,s3⟩:=h;replace g5:=s3.aF g5;replace go:=s3.aF go;have S3:=S2.aw s3;have Qz:=S3.lt hM;have xa:=ae gA;have xb:=ae gB;have x5:=ae g5;have xo:=ae go;have y3:=s3.size;obtain⟨Mb,yC⟩:∃Mb,Mb=ins (ins (ins (ins M b5) bo) ba) bb:=⟨_,rfl⟩;have mo:Mb bo:=by rw[yC];exact .inr (.inr (.inl G))
 have ma:Mb ba:=by rw[yC];exact .inr (.inl G)
 have mb:Mb bb:=by rw[yC];exact .inl G
 rw[<-yC]at S3 Qz s3;have RZ:=(k8.le S2.le).le s3.le;have R0:=(NB.le S2.le).le s3.le;refine ad (aX ?_);refine T.range (gf:=200) (lb:= #[.pointer (some ⟨ba,0,none⟩),.pointer (some ⟨bb,0,none⟩)]) G aoK (λrec uc=>?_);obtain⟨D,hD⟩:∃D,D=w3.heap.size:=⟨_,rfl⟩;rw[<-hD]at uc ⊢;have sA:Step Mb w3 (ins Mb w3.heap.size) (w3.alloc (.deferred (some []))) aC:=(ei _ w3 _).own (bz _) (by simp);have sB:Step (ins Mb w3.heap.size) (w3.alloc (.deferred (some []))) (ins (ins Mb w3.heap.size) (w3.heap.size+1)) ((w3.alloc (.deferred (some []))).alloc (.loop (rec .ready none))) aC:=(ei _ _ _).own (by simp) (by simp);have sC:=sA.aw sB;have hDd:(w3.alloc (.deferred (some []))).heap[w3.heap.size]? =some (.deferred (some [])):=dE w3 _;have hR:((w3.alloc (.deferred (some []))).alloc (.loop (rec .ready none))).heap[w3.heap.size+1]? =some (.loop (rec .ready none)):=by have:=dE (w3.alloc (.deferred (some []))) (.loop (rec .ready none));rwa [World.size_alloc]at this
 have y0:=S2.size;refine Spec.mono (Jw (M:=ins (ins Mb w3.heap.size) (w3.heap.size+1)) (va:=va) (vb:=vb) (J:=(λa' b' M1 w=>∃vo xs,B3 M w0 least b5 bo ba bb D (.loop (rec .ready none)) vo xs M1 w/\xs++EE least a' b'=EE least a b)) (Jx:=λ_=>False) fw (λa' b' M1 w ⟨vo,xs,h,_⟩=>⟨h.lt,h.ma,h.mb⟩) (λa' b' M1 w M2 w' ⟨vo,xs,h,hx⟩ s=>⟨vo,xs,h.step s (λ_ h=>h),hx⟩) (λa' b' M1 wr hJ Td Te Xj=>?_) (sC.aF gA) (sC.aF gB) (RZ.le sC.le) (R0.le sC.le) oa ob ⟨.slice none 0 0,[],?_,G⟩) (λ_ w4 h4=>?_)
 rotate_left
 ·rw[hD];exact⟨sC.lt Qz,S3.aw sC,.inr (.inr mo),.inr (.inr ma),.inr (.inr mb),.inr (.inl G),.inl G,sC.aF g5,sC.aF go,sB.aF hDd,hR,by omega,eL _ _ _ _ _⟩
 rotate_left
 ·obtain⟨vo,xs,h,hx⟩:=hJ;refine ru (ps:=[12]) (vs:=[.agg #[.int .i64 (jv a' b'),.int .i64 (rZ a' b' 2),.int .i64 (sa a' b' 2)]]) uc h.r G Tg ?_;have xF:=congrArg List.length hx;have Vg:=yJ least (a.length+b.length) a b;change(EE least a b).length<=_ at Vg;rw[bM]at xF;have Vh:=uq (least:=least) Td Te Xj;refine aH ?_;refine ew M1 A4 G (λb8 w4 z8 z8' g8 s4=>?_);obtain⟨M2,yD⟩:∃M2,M2=ins M1 b8:=⟨_,rfl⟩;have hm8:M2 b8:=by rw[yD];exact .inl G
  rw[<-yD]at s4;refine cY (M:=M2) (vs:=[.int .i64 (jv a' b'),.int .i64 (rZ a' b' 2),.int .i64 (sa a' b' 2)]) A4 G G ah7 rfl rfl g8 hm8 (λw5 g8' s5=>?_);change w5.heap[b8]? =some (.cells #[.int .i64 (jv a' b'),.int .i64 (rZ a' b' 2),.int .i64 (sa a' b' 2)] _ _)at g8';have S5:=s4.cr s5 (λk hk=>by subst hk;exact z8);have h3:=h.step S5 (λk hk=>hk.elim);refine ad (⟨G,h3.r,?_⟩);obtain⟨h4,sR⟩:=h3.qf (st':= .loop (rec .busy none));have hD8:b8≠D+1:=by have:=ae h.r;omega
  have g8x:=sR.bU g8' hD8;generalize w5.putObj (D+1) _=wB at h4 g8x sR ⊢;refine aX (T.aQ (aY dy G G I3 Tg G G (aR al G G G g8x G (bg (v':= .int .i64 (rZ a' b' 2)) G (aR al G G G h4.h5 G (bg (v':= .int .i64 least) G (eB G G G (ad ?_))))))));refine bE G (λc4=>?_) (λc4=>?_)
  ·refine aH (aR aT G G G h4.o G (bg (v':=vo) G (aY dy G G I3 Tg G G (aR al G G G g8x G (bg (v':= .int .i64 (jv a' b')) G (aY dy G G I3 Tg rfl rfl (aR al rfl rfl rfl g8x rfl (bg (v':= .int .i64 (sa a' b' 2)) rfl (dw (places:=[(0,1),(1,1)]) cQ ki HA rfl ⟨_,_,rfl,rfl,_,_,rfl,rfl,rfl⟩ (out:=[_,_]) ⟨0,[_],rfl,rfl,by simp[Value.cells],1,[_],rfl,rfl,by simp[Value.cells],rfl⟩ ?_)))))))));refine fz (A:=RT.fo) (hn:=by decide) (M:=M2) aT ki Tg G G h4.lt (Dv (by have:=TM Td Te;omega) (TN a' b' 2)) (.inl rfl) (λu6 w6 uz s6=>?_);have h6:=h4.step s6 (λk hk=>hk.elim);refine dJ (M:=M2) (base:=D+2) aT ki rfl rfl rfl rfl (h6.hk) uz bS a11 a11 (by have:=ae h6.r;omega) (λv7 M3 w7 tP s7=>?_);obtain⟨⟨go7,mo7⟩,Xw⟩:=h6.grow s7 tP;refine cv (M:=M3) NI rfl rfl go7 rfl (by obtain⟨_,_,he,_⟩:=tP.isSlice;rw[he];rfl) mo7 (λw8 go8 s8=>?_);have h8:=Xw s8 go8;refine ad ?_
   first
   |(obtain⟨h9,sE⟩:=h8.qf (st':= .loop (rec .ready none))
     obtain⟨⟨e1,e2,e3,e4⟩,⟨e5,e6,e7,IE,Mg⟩,KA⟩:=h8.ne;exact⟨h8.r,true,rfl,(λ_=>⟨M3,λk=>(k=D+1\/vo.ownBlock=some k\/k=bo)/\M1 k,⟨v7,_,h9,by rw[<-hx,Vh,if_pos c4,sF]⟩,(((((S5.eI a30 (λk hk=>hk.2)).trans sR (λk _ hk=>by subst hk;exact⟨.inl G,h.mr⟩)).aw s6).trans s7 (λk qt hk=>⟨.inr (.inl hk),h.hk.mut_ k hk⟩)).trans s8 (λk _ hk=>by subst hk;exact⟨.inr (.inr rfl),h.mo⟩)).trans sE (λk _ hk=>by subst hk;exact⟨.inl rfl,h.mr⟩),λk hk=>by rcases hk.1 with h1|h1|h1;omega;(have:=(h.hk.base k h1).1;omega);(subst h1;exact⟨e6,e7⟩)⟩),λh=>by(cases h)⟩)
   |(obtain⟨h9,sE⟩:=h4.qf (st':= .loop (rec .ready none))
     obtain⟨⟨e1,e2,e3,e4⟩,⟨e5,e6,e7,IE,Mg⟩,KA⟩:=h4.ne;exact⟨h4.r,true,rfl,(λ_=>⟨M2,λk=>k=D+1/\M1 k,⟨vo,xs,h9,by rw[<-hx,Vh,if_neg c4,jd]⟩,((S5.eI a30 (λk hk=>hk.2)).trans sR (λk _ hk=>by subst hk;exact⟨rfl,h.mr⟩)).trans sE (λk _ hk=>by subst hk;exact⟨rfl,h.mr⟩),λk hk=>by omega⟩),λh=>by(cases h)⟩)
  ·refine aS ?_
   first
   |(obtain⟨h9,sE⟩:=h8.qf (st':= .loop (rec .ready none))
     obtain⟨⟨e1,e2,e3,e4⟩,⟨e5,e6,e7,IE,Mg⟩,KA⟩:=h8.ne;exact⟨h8.r,true,rfl,(λ_=>⟨M3,λk=>(k=D+1\/vo.ownBlock=some k\/k=bo)/\M1 k,⟨v7,_,h9,by rw[<-hx,Vh,if_pos c4,sF]⟩,(((((S5.eI a30 (λk hk=>hk.2)).trans sR (λk _ hk=>by subst hk;exact⟨.inl G,h.mr⟩)).aw s6).trans s7 (λk qt hk=>⟨.inr (.inl hk),h.hk.mut_ k hk⟩)).trans s8 (λk _ hk=>by subst hk;exact⟨.inr (.inr rfl),h.mo⟩)).trans sE (λk _ hk=>by subst hk;exact⟨.inl rfl,h.mr⟩),λk hk=>by rcases hk.1 with h1|h1|h1;omega;(have:=(h.hk.base k h1).1;omega);(subst h1;exact⟨e6,e7⟩)⟩),λh=>by(cases h)⟩)
   |(obtain⟨h9,sE⟩:=h4.qf (st':= .loop (rec .ready none))
     obtain⟨⟨e1,e2,e3,e4⟩,⟨e5,e6,e7,IE,Mg⟩,KA⟩:=h4.ne;exact⟨h4.r,true,rfl,(λ_=>⟨M2,λk=>k=D+1/\M1 k,⟨vo,xs,h9,by rw[<-hx,Vh,if_neg c4,jd]⟩,((S5.eI a30 (λk hk=>hk.2)).trans sR (λk _ hk=>by subst hk;exact⟨rfl,h.mr⟩)).trans sE (λk _ hk=>by subst hk;exact⟨rfl,h.mr⟩),λk hk=>by omega⟩),λh=>by(cases h)⟩)
 ·obtain⟨Mz,vo,xs,h,hx⟩:=h4.resolve_right (λh=>h);left;rw[TO,eX]at hx;obtain⟨h5,_⟩:=h.qf (st':= .loop (rec .exhausted none));refine ⟨h.r,?_⟩;generalize w4.putObj (D+1) _=wE at h5 ⊢;have Vg:=yJ least (a.length+b.length) a b;change(EE least a b).length<=_ at Vg;refine T.aQ (aR aT G G G h5.o G (bg (v':=vo) G (Rg.aZ G G (aJ ?_))));obtain⟨⟨e1,e2,e3,e4⟩,e5,IE,Mg,KA,QA⟩:=h5.ne;have sZ:Step Mz wE Mz (wE.putObj D (.deferred none)) (λk=>k=D):=gy h5.md;have SZ:=h5.S.cr sZ (λk hk=>by subst hk;exact QA);rw[<-hx];rw[<-hx]at Vg;exact HJ G G h5.d ⟨_,SZ.lt hM,SZ,(h5.hk.step sZ (λk hk hh=>by have:=(h5.hk.base k hk).1;omega)).jf q0⟩
theorem KT {M:aM} {w0:World} {va vb:Value} {a b:List Fo} (hM:Lt M w0) (k8:((RT.fo).sl).V M w0 a va) (NB:((RT.fo).sl).V M w0 b vb) (oa:sd a) (ob:sd b) (hl:a.length+b.length<=1099511627776):
  Spec Tryz.prog 53 #[va,vb] w0 (λv' w'=>∃M',Lt M' w'∧Step M w0 M' w' aC/\Own RT.fo 45 M' w' w0.heap.size v' (EE 2 a b)):=by
 refine bh (args:=[_,_]) (fn:=Tryz.f53) Tryz.func53 G (n:=8) Tryz.ntmps53 (T.aQ (Rg.aZ G G (T.aQ (ab G G (ab G G ?_)))));refine aP G G aaz (KS hM k8 NB oa ob hl) (λr1 w1 h=>?_);obtain⟨M1,h1,s1,ho⟩:=h;refine Rg.aZ G G (aJ ?_);exact aK G G ⟨M1,h1,s1,ho⟩
theorem R7 {M:aM} {w0:World} {va vb:Value} {a b:List Fo} (hM:Lt M w0) (k8:((RT.fo).sl).V M w0 a va) (NB:((RT.fo).sl).V M w0 b vb) (oa:sd a) (ob:sd b) (hl:a.length+b.length<=1099511627776):Spec Tryz.prog 53 #[va,vb] w0 (λv' w'=>((RT.fo).sl).V M w' (EE 2 a b) v'∧Step M w0 M w' aC):=
 (KT hM k8 NB oa ob hl).mono λ_ w ⟨M',h1,h2,h3⟩=>⟨h3.close hM h2 (dz (yJ _ (a.length+b.length) a b) q0),h2.back⟩
end Go.K
namespace Go.K
open Go.Proofs
namespace TKMNot
theorem NI:TI Tryz.prog 36 (.slice none 0 0) 1 24:=by unfold TI;kernel_rfl
theorem ki:TI Tryz.prog 45 (.agg #[(.int .i64 0),(.int .i64 0)]) 2 16:=by unfold TI;kernel_rfl
theorem HA:placesOf Tryz.prog 45=[(0,1),(1,1)].map some:=by kernel_rfl
theorem aaz:Enters Tryz.prog 102:=enters Tryz.func102 rfl Tg
theorem afl:Enters Tryz.prog 118:=enters Tryz.func118 rfl Tg
theorem afm:Enters Tryz.prog 119:=enters Tryz.func119 rfl Tg
theorem aoP:Enters Tryz.prog 168:=enters Tryz.func168 rfl Tg
theorem aoQ:Enters Tryz.prog 226:=enters Tryz.func226 rfl Tg
end TKMNot
open TKMNot
set_option maxRecDepth 10000
structure B4 (M:aM) (w0:World) (n:Nat) (ws:List Nat) (bs bw bl bo D:Nat) (st:Obj) (vo:Value) (xs:List Fo) (M1:aM) (w:World):Prop where
 lt:Lt M1 w
 S:Step M w0 M1 w aC
 mo:M1 bo
 md:M1 D
 mr:M1 (D+1)
 m0: ¬M1 1
 set:gH 128 205 n ws M1 w bs bw
 hl:w.heap[bl]? =some (.cells #[.pointer (some ⟨bs,0,none⟩)] 49 (0,0))
 o:w.heap[bo]? =some (.cells #[vo] 36 (0,0))
 d:w.heap[D]? =some (.deferred (some []))
 r:w.heap[D+1]? =some st
 tab:∃e fr,w.heap[1]? =some (.cells (Hv.map fun(k:Nat)=>Value.int .u8 (k:Int)).toArray e fr)
 ne:(bo<D/\bl<D/\bs<D/\bw<D)/\(bo≠bl/\bo≠bs/\bo≠bw)/\(w0.heap.size<=bo/\w0.heap.size<=D)
 hk:Own RT.fo 45 M1 w (D+2) vo xs
section
variable {M M1 M2 N:aM} {w0 w w':World} {n:Nat} {ws:List Nat} {bs bw bl bo D:Nat} {st st':Obj} {vo:Value} {xs:List Fo}
theorem B4.step (h:B4 M w0 n ws bs bw bl bo D st vo xs M1 w) (s:Step M1 w M2 w' aC):B4 M w0 n ws bs bw bl bo D st vo xs M2 w':=by
 have mm:=λ{b:Nat} (hm:M1 b)=>(s.mem b (h.lt b hm)).2 hm
 obtain⟨e,fr,ht⟩:=h.tab;exact⟨s.lt h.lt,h.S.aw s,mm h.mo,mm h.md,mm h.mr,λh0=>h.m0 ((s.mem 1 (ae ht)).1 h0),h.set.step s (λh=>h) (λh=>h),s.aF h.hl,s.aF h.o,s.aF h.d,s.aF h.r,⟨e,fr,s.aF ht⟩,h.ne,h.hk.bP s⟩
theorem B4.qf (h:B4 M w0 n ws bs bw bl bo D st vo xs M1 w):B4 M w0 n ws bs bw bl bo D st' vo xs M1 (w.putObj (D+1) st'):=by
 obtain⟨⟨e1,e2,e3,e4⟩,⟨e5,e6,e7⟩,e8,e9⟩:=h.ne;have s:Step M1 w M1 (w.putObj (D+1) st') (λk=>k=D+1):=gy h.mr;obtain⟨e,fr,ht⟩:=h.tab;exact⟨s.lt h.lt,h.S.cr s (λb hb=>by omega),h.mo,h.md,h.mr,h.m0,h.set.step s q0 q0,s.bU h.hl q0,s.bU h.o q0,s.bU h.d q0,World.putObj_heap_same (ae h.r),⟨e,fr,s.bU ht q0⟩,h.ne,h.hk.step s (λk qa hh=>by have:=(h.hk.base k qa).1;omega)⟩
theorem B4.grow {vo':Value} {xs':List Fo} (h:B4 M w0 n ws bs bw bl bo D st vo xs M1 w) (s:Step M1 w M2 w' (λk=>vo.ownBlock=some k)) (hk:Own RT.fo 45 M2 w' (D+2) vo' xs'):
  (w'.heap[bo]? =some (.cells #[vo] 36 (0,0))/\M2 bo)/\∀{w2:World},Step M2 w' M2 w2 (λk=>k=bo)->w2.heap[bo]? =some (.cells #[vo'] 36 (0,0))->B4 M w0 n ws bs bw bl bo D st vo' xs' M2 w2:=by
 obtain⟨⟨e1,e2,e3,e4⟩,⟨e5,e6,e7⟩,e8,e9⟩:=h.ne;have hn:∀k,vo.ownBlock=some k->D+2<=k:=λk hk=>(h.hk.base k hk).1
 have mm:=λ{b:Nat} (hm:M1 b)=>(s.mem b (h.lt b hm)).2 hm
 obtain⟨e,fr,ht⟩:=h.tab;have h0:bo≠1:=λe=>h.m0 (e▸h.mo)
 refine ⟨⟨s.bU h.o (λhh=>by have:=hn _ hh;omega),mm h.mo⟩,λ{w2} s2 hx=> ?_⟩;have S':=h.S.cr s (λk hk=>by have:=hn k hk;omega)
 exact⟨s2.lt (s.lt h.lt),S'.cr s2 (λk hk=>by subst hk;exact e8),mm h.mo,mm h.md,mm h.mr,λh0=>h.m0 ((s.mem 1 (ae ht)).1 h0),(h.set.step s (λhh=>by have:=hn _ hh;omega) (λhh=>by have:=hn _ hh;omega)).step s2 (λhh=>e6 hh.symm) (λhh=>e7 hh.symm),s2.bU (s.bU h.hl (λhh=>by have:=hn _ hh;omega)) (λhh=>e5 hh.symm),hx,s2.bU (s.bU h.d (λhh=>by have:=hn _ hh;omega)) q0,s2.bU (s.bU h.r (λhh=>by have:=hn _ hh;omega)) q0,⟨e,fr,s2.bU (s.bU ht (λhh=>by have:=hn _ hh;omega)) (λhh=>h0 hh.symm)⟩,h.ne,
  hk.step s2 (λk qa hh=>by have:=(hk.base k qa).1;omega)⟩
end
set_option maxHeartbeats 2000000 in
theorem Vi {M:aM} {w0:World} {va:Value} {a:List Fo} {n:Nat} (hM:Lt M w0) (k8:((RT.fo).sl).V M w0 a va) (hn:n<=1099511627776) (gv: ¬M 1) (tab:∃e fr,w0.heap[1]? =some (.cells (Hv.map fun(k:Nat)=>Value.int .u8 (k:Int)).toArray e fr)):
  Spec Tryz.prog 107 #[va,.int .i64 n] w0 (λv' w'=>∃M',Lt M' w'∧Step M w0 M' w' aC/\Own RT.fo 45 M' w' w0.heap.size v' (qK a n)):=by
 have hlen:=cU k8;obtain⟨et,ft,tab⟩:=tab;have h0w:=ae tab;refine ug (args:=[_,_]) (fn:=Tryz.f107) Tryz.func107 G (n:=32) Tryz.ntmps107 (T.aQ (Rg.aZ G G (T.aQ (ab G G ?_))));refine aP G G afl (My (M:=M) hn) (λr1 w1 h=>?_);obtain⟨bs,bw,ws0,M0,rfl,z1,z2,s1,h1,wK⟩:=h;have pH:=s1.lt hM;have t1:=s1.aF tab;refine Rg.aZ G G (aL (T.aQ (ab G G (bC aT G k8 G (ab G G (ad (aX ?_)))))));refine dd (σ:=Nat) (λs=>[(0,va),(1,.int .i64 n),(5,.pointer (some ⟨bs,0,none⟩)),(12,va),(13,.int .i64 a.length),(14,.int .i64 s)]) (λs w=>s<=a.length/\∃ws M1,Lt M1 w/\Step M w0 M1 w aC/\gH 128 205 n ws M1 w bs bw/\(∀j:Nat,bit ws j=(decide (j<n)&& !th (a.take s) (j:Int)))/\¬M1 1/\w.heap[1]? =some (.cells (Hv.map fun(k:Nat)=>Value.int .u8 (k:Int)).toArray et ft)) (λs=>a.length-s) 0 a14 ?_ ?_
 ·exact⟨a8 _,ws0,M0,pH,s1,h1,λj=>by rw[wK j];simp[th],λh0=>gv ((s1.mem 1 h0w).1 h0),t1⟩
 ·rintro k wk ⟨hk,ws,M1,af5,SA,hs,A5,hm0,ht⟩;refine T.aQ (cx G G G (ad (aL ?_)));refine bE G (λc3=>?_) (λc3=>?_)
  ·refine aS (aL (aX (T.aQ ?_)));obtain⟨⟨d,s⟩,hx⟩:∃x,a[k]? =some x:=⟨_,aq q0⟩;refine cC aT ki G G G (k8.le SA.le) bS a52 (λLQ IC Av si=>?_);obtain rfl:(d,s)=IC:=cD (aI (Av.symm.trans (by rw[ar];exact hx)));refine bN (A:=RT.fo) cQ G ki Tg G G G si bS (λv4 qu=>?_);refine pT (A:=RT.fo) (M:=M1) ki G G G G G Xf (by repeat (first|exact bQ _ _|refine bA (bR Xf) ?_)) a69 (λYa Yb nv pq ad9=>?_);refine ad (aH (ab G G ?_));refine ao (M:=M1) (A:=RT.fo) (B:=RT.int .i64) cQ G G I3 Tg (fo0) G G Tg Xf (by repeat (first|exact bQ _ _|refine bA (bR Xf) ?_)) (λadl Kd=>?_);refine bV al G G Kd bS (λhdr=>?_);refine bg (v':= .int .i64 d) G ?_;have hs5:=hs.step pq (λh=>h) (λh=>h);have hM5:=pq.lt af5;refine aP rfl rfl afm (Rb (i:=d) hs5 (λj hj=>by rw[A5 j,cz]at hj;exact of_decide_eq_true hj.1)) (λr6 w6 h=>?_);obtain⟨rY,hs6,rO,s6⟩:=h;refine ad (aH (bu G G G q0 (ab G G (ad ?_))));refine⟨G,k+1,a14,?_,?_⟩
   ·refine⟨by omega,rY,M1,s6.lt hM5,(SA.aw pq).cr s6 (λb hb=>by omega),hs6,λj=>?_,hm0,s6.bU (pq.aF ht) q0⟩;rw[rO j,A5 j,Lw hx]
    cases th (a.take k) (j:Int)<;>simp[eq_comm]
   ·show _-(k+1)<_-k;omega
  ·refine cN (T.aQ ?_);obtain rfl:k=a.length:=by omega
   refine ew M1 NI G (λbo w7 z7 z7' g7 s7=>?_);change w7.heap[bo]? =some (.cells #[.slice none 0 0] _ _)at g7;have hM7:=s7.lt af5;have S7:=SA.aw s7;have hs7:=hs.step s7 (λh=>h) (λh=>h);have y7:=SA.size;have lbs:=ae hs.s;have lbw:=ae hs.w;refine ad (aL (T.aQ (ab G G ?_)));refine aP G G aoP (Mw (M:=ins M1 bo) (bs:=bs) hM7) (λr8 w8 h=>?_);obtain⟨bl,rfl,gl,z8,s8⟩:=h;have hM8:=s8.lt hM7;have S8:=S7.aw s8;have hs8:=hs7.step s8 (λh=>h) (λh=>h);have g8:=s8.aF g7;have xl:=ae gl;have y8:=s8.size;have t8:=s8.aF (s7.aF ht)
   have m80: ¬ins M1 bo 1:=by
    rintro(h|h)
    ·omega
    ·exact hm0 h
   refine ad (aX ?_);rw[vU]at A5;have ik:∀j,bit ws j=true->j<n:=λj hj=>by rw[A5 j,cz]at hj;exact of_decide_eq_true hj.1
   refine T.range (gf:=226) (lb:= #[.pointer (some ⟨bl,0,none⟩)]) G aoQ (λrec uc=>?_);obtain⟨D,hD⟩:∃D,D=w8.heap.size:=⟨_,rfl⟩;rw[<-hD]at uc ⊢;obtain⟨Mb,yC⟩:∃Mb,Mb=ins M1 bo:=⟨_,rfl⟩;have mo:Mb bo:=by rw[yC];exact .inl G
   rw[<-yC]at hM8 S8 hs8 m80;have sA:Step Mb w8 (ins Mb w8.heap.size) (w8.alloc (.deferred (some []))) aC:=(ei _ w8 _).own (bz _) (by simp);have sB:Step (ins Mb w8.heap.size) (w8.alloc (.deferred (some []))) (ins (ins Mb w8.heap.size) (w8.heap.size+1)) ((w8.alloc (.deferred (some []))).alloc (.loop (rec .ready none))) aC:=(ei _ _ _).own (by simp) (by simp);have sC:=sA.aw sB;have hDd:(w8.alloc (.deferred (some []))).heap[w8.heap.size]? =some (.deferred (some [])):=dE w8 _;have hR:((w8.alloc (.deferred (some []))).alloc (.loop (rec .ready none))).heap[w8.heap.size+1]? =some (.loop (rec .ready none)):=by have:=dE (w8.alloc (.deferred (some []))) (.loop (rec .ready none));rwa [World.size_alloc]at this
   refine Spec.mono (Ja (M:=ins (ins Mb w8.heap.size) (w8.heap.size+1)) (n:=n) (ws:=ws) (bs:=bs) (bw:=bw) (J:=(λp M1 w=>∃vo,B4 M w0 n ws bs bw bl bo D (.loop (rec .ready none)) vo (qK a p) M1 w/\p<=n)) (Jx:=λ_=>False) ik (λp M1 w ⟨vo,h,_⟩=>⟨h.hl,h.set,h.tab⟩) (λp j M1 wr hJ hpj Jb jt=>?_) ⟨.slice none 0 0,?_,a8 _⟩) (λ_ w4 h4=>?_)
   rotate_left
   ·rw[hD]
    exact⟨sC.lt hM8,S8.aw sC,.inr (.inr mo),.inr (.inl G),.inl G,by
     rintro(h|h|h)
     ·omega
     ·omega
     ·exact m80 h,hs8.step sC (λh=>h) (λh=>h),sC.aF gl,sC.aF g8,sB.aF hDd,hR,⟨_,_,sC.aF t8⟩,by omega,eL _ _ _ _ _⟩
   rotate_left
   ·obtain⟨vo,h,UQ⟩:=hJ;refine ru (ps:=[25]) (vs:=[.int .i64 j]) uc h.r G Tg (aH (Rg.aZ G G (⟨G,h.r,?_⟩)));have h1:=h.qf (st':= .loop (rec .busy none));generalize wr.putObj (D+1) _=wB at h1 ⊢;refine aX (aH (aR aT G G G h1.o G (bg (v':=vo) G (ab G G ?_))));have hjn:j<n:=by have:=ik _ Jb;exact this
    have Tn:=h1.set.nn;refine dw (places:=[(0,1),(1,1)]) cQ ki HA rfl ⟨_,_,rfl,rfl,rfl⟩ (out:=[_,.int .i64 0]) ⟨0,[_],rfl,rfl,by simp[Value.cells],rfl⟩ ?_;refine fz (A:=RT.fo) (hn:=by decide) (M:=M1) aT ki Tg G G h1.lt (Dv (a:=(j:Int)) (b:=0) q0 q0) (.inl G) (λu6 w6 uz s6=>?_);have h6:=h1.step s6;have sk:=Fg a p;refine dJ (M:=M1) (base:=D+2) aT ki rfl rfl rfl rfl (h6.hk) uz bS a11 a11 (by have:=ae h6.r;omega) (λv7 M3 w7 tP s7=>?_);obtain⟨⟨go7,mo7⟩,Xw⟩:=h6.grow s7 tP;refine cv (M:=M3) NI rfl rfl go7 rfl (by obtain⟨_,_,he,_⟩:=tP.isSlice;rw[he];rfl) mo7 (λw8 go8 s8=>?_);have h8:=Xw s8 go8;refine ad ?_;have h9:=h8.qf (st':= .loop (rec .ready none));refine⟨h8.r,true,G,(λ_=>⟨M3,v7,?_,by omega⟩),λh=>by(cases h)⟩
    have af6:qK a j=qK a p:=wI j hpj (λt h1 h2=>by
     have h3:=jt t h1 h2;rw[A5 t,decide_eq_true (show t<n by omega),dr]at h3;simpa using h3)
    have hfj:th a (j:Int)=false:=by
     have:=A5 j;rw[Jb,decide_eq_true hjn,dr]at this;simpa using this.symm
    rw[Ck,af6,hfj];exact h9
   ·obtain⟨p,Mz,⟨vo,h,UQ⟩,j1⟩:=h4.resolve_right (λh=>h);left;have h5:=h.qf (st':= .loop (rec .exhausted none))
    have jU:qK a n=qK a p:=wI n UQ (λt h1 h2=>by
     have h3:=j1 t h1;rw[A5 t,decide_eq_true h2,dr]at h3;simpa using h3)
    refine ⟨h.r,?_⟩;generalize w4.putObj (D+1) _=wE at h5 ⊢;have sk:=Fg a p;refine T.aQ (aR aT G G G h5.o G (bg (v':=vo) G (Rg.aZ G G (aJ ?_))));obtain⟨⟨e1,e2,e3,e4⟩,e5,e8,e9⟩:=h5.ne;have sZ:Step Mz wE Mz (wE.putObj D (.deferred none)) (λk=>k=D):=gy h5.md;have SZ:=h5.S.cr sZ (λk hk=>by subst hk;exact e9);rw[jU];exact HJ G G h5.d ⟨_,SZ.lt hM,SZ,(h5.hk.step sZ (λk hk hh=>by have:=(h5.hk.base k hk).1;omega)).jf q0⟩
theorem aaB {M:aM} {w0:World} {va vb:Value} {a b:List Fo} (hM:Lt M w0) (k8:((RT.fo).sl).V M w0 a va) (NB:((RT.fo).sl).V M w0 b vb) (oa:sd a) (ob:sd b) (hl:a.length+b.length<=1099511627776):
  Spec Tryz.prog 109 #[va,vb] w0 (λv' w'=>∃M',Lt M' w'∧Step M w0 M' w' aC/\Own RT.fo 45 M' w' w0.heap.size v' (EE 1 a b)):=by
 refine bh (args:=[_,_]) (fn:=Tryz.f109) Tryz.func109 G (n:=8) Tryz.ntmps109 (T.aQ (Rg.aZ G G (T.aQ (ab G G (ab G G ?_)))));refine aP G G aaz (KS hM k8 NB oa ob hl) (λr1 w1 h=>?_);obtain⟨M1,h1,s1,ho⟩:=h;refine Rg.aZ G G (aJ ?_);exact aK G G ⟨M1,h1,s1,ho⟩
end Go.K
namespace Go.K
open Go.Proofs
namespace TKQMay
theorem rG:TI Tryz.prog 26 (.slice none 0 0) 1 24:=by unfold TI;kernel_rfl
theorem gg:TI Tryz.prog 28 (.agg #[(.int .i64 0),(.string ⟨#[]⟩),(.string ⟨#[]⟩),(.slice none 0 0),(.slice none 0 0)]) 5 88:=by unfold TI;kernel_rfl
theorem aoR:TI Tryz.prog 123 .nilFunc 1 8:=by unfold TI;kernel_rfl
theorem aoS:TI Tryz.prog 264 .nilFunc 1 8:=by unfold TI;kernel_rfl
theorem Eh:TI Tryz.prog 267 (.agg #[(.string ⟨#[]⟩),.nilFunc,.nilFunc,.nilFunc]) 4 40:=by unfold TI;kernel_rfl
theorem af7:Enters Tryz.prog 104:=enters Tryz.func104 rfl Tg
theorem aoT:Enters Tryz.prog 161:=enters Tryz.func161 rfl Tg
theorem Z5:Enters Tryz.prog 162:=enters Tryz.func162 rfl Tg
end TKQMay
open TKQMay
set_option maxRecDepth 10000
theorem jY (q:Qy) (deep:Nat):fP q deep=if 6<deep then 8 else if¬iR q.kind q.term q.words q.kids.length=0 then iR q.kind q.term q.words q.kids.length else vu q.kids (deep+1):=by
 obtain⟨k,t,ws,ks⟩:=q;rw[fP];rfl
theorem A6 {ks:List Qy} {deep i:Nat} {x:Qy} (h:ks[i]? =some x) (gD:∀(j:Nat) y,j<i->ks[j]? =some y->fP y deep=0) (hx: ¬fP x deep=0):vu ks deep=fP x deep:=by
 induction ks generalizing i with
 |nil=>simp at h
 |cons y ks ih=>
  rw[vu]
  cases i with
  |zero=>simp at h;subst h;rw[if_pos hx]
  |succ i=>
   rw[if_neg (λh'=>h' (gD 0 y q0 rfl))];exact ih a86 λj z hj hz=>gD (j+1) z q0 (by simpa using hz)
theorem C2 {ks:List Qy} {deep:Nat} (gD:∀(j:Nat) y,ks[j]? =some y->fP y deep=0):vu ks deep=0:=AO.2 λq hq=>by
 obtain⟨j,hj⟩:=bK.1 hq;exact gD j q hj
theorem KU (k:Int) (t:Fd) (ws:List (List UInt8)) (n:Nat):0<=iR k t ws n/\iR k t ws n<=9:=by
 unfold iR
 repeat' split
 all_goals omega
theorem C3 {M:aM} {n:Nat} {q:Qy} {v:Value} {deep:Nat} (w0:World) (hM:Lt M w0) (hv:(RT.qy (n+1)).V M w0 q v) (hs:CW q) (hd:deep<=1000) (ih:∀x∈q.kids,∀(deep:Nat) (M:aM) (w:World) (v:Value),Lt M w->(RT.qy n).V M w x v->deep<=7->Spec Tryz.prog 104 #[v,.int .i64 (deep:Int)] w (λv' w'=>v'= .int .i64 (fP x deep)/\Step M w M w' aC)):
  Spec Tryz.prog 104 #[v,.int .i64 (deep:Int)] w0 (λv w=>v= .int .i64 (fP q deep)/\Step M w0 M w aC):=by
 have gv:=hM;obtain⟨Lj,hsk⟩:=WU.1 hs;have G4:=KU q.kind q.term q.words q.kids.length;refine bh (args:=[_,_]) (fn:=Tryz.f104) Tryz.func104 G (n:=55) Tryz.ntmps104 ?_;have S:Step M w0 M w0 aC:=aV;refine T.aQ ?_;refine ef (A:=RT.qy (n+1)) (a:=q) G G hM hv (dK _) (λu2 Eg dY iA _=>?_);replace hv:=hv.le iA.le;replace hM:=iA.lt hM;have:=S.size;replace S:=S.aw iA;refine Rg.aZ G G (aL ?_);have Jy:=dY;have S0:=S;have yC:=hM;apply T.WE (M:=M) [0,1,2,3,4,5,6,7,8,9] 8 6 17 (.bool (decide (1<=q.kind/\q.kind<=5))) [] [(cj.mk' (λv w=>∃mb es clock,v= .map (some mb)/\w.heap[mb]? =some (.map (es:List MapEntry).toArray clock)/\(∀(k:Int),∃o,Instr.findNow (.int .i64) (.int .i64 k) es 0=some o/\o.isSome=decide (1<=k/\k<=5)/\KV k ((o.map Prod.snd).getD (.agg #[.string ⟨#[]⟩,.nilFunc,.nilFunc,.nilFunc])) w)) (fun⟨mb,es,cl,h1,h2,h3⟩ s=>⟨mb,es,cl,h1,s.aF h2,λk=>by obtain⟨o,h4,h5,h6⟩:=h3 k;exact⟨o,h4,h5,h6.step s λ_ h=>h.elim⟩⟩)),cj.ptr (RT.int .i64) q.kind,cj.eq (.int .i64 q.kind),(cj.mk' (λv w=>∃u,v= .tuple #[u,.bool (decide (1<=q.kind/\q.kind<=5))]/\KV q.kind u w) (fun⟨u,h1,h2⟩ s=>⟨u,h1,h2.step s λ_ h=>h.elim⟩)),(cj.mk' (λv w=>∃u,v= .tuple #[u,.bool (decide (1<=q.kind/\q.kind<=5))]/\KV q.kind u w) (fun⟨u,h1,h2⟩ s=>⟨u,h1,h2.step s λ_ h=>h.elim⟩)),(cj.mk' (λv w=>KV q.kind v w) (λh s=>h.step s λ_ h=>h.elim)),cj.eq (.bool (decide (1<=q.kind/\q.kind<=5))),(cj.mk' (λv w=>∃bo,v= .pointer (some ⟨bo,0,none⟩)/\Eg.heap.size<=bo/\w.heap[bo]? =some (.cells #[.string ⟨#[]⟩,.nilFunc,.nilFunc,.nilFunc] 267 (0,0))) (fun⟨bo,h1,h2,h3⟩ s=>⟨bo,h1,h2,s.aF h3⟩))] [(4,11,λv=>∃u,v= .tuple #[u,.bool (decide (1<=q.kind/\q.kind<=5))])] mixed
 ·simp+decide only[Cd,wx,eV,sG,Br,Bs,nR,eY,j4,List.idxOf_cons,cond_true,cond_false,Nat.reduceBEq,Nat.reduceAdd,beq_self_eq_true];rfl
 ·rfl
 ·rfl
 ·rfl
 ·rfl
 ·rfl
 ·rfl
 ·rfl
 ·rfl
 ·rfl
 ·rfl
 ·rfl
 ·intro ρ w h hg;obtain⟨u,hu⟩:=hg _ (dn.2 rfl);simp only[execOp,hu];simp[Instr.extract]
 ·intro g hg;rw[dn]at hg;subst hg;exact⟨_,_,rfl,rfl,show 4<8 by decide,show 4≠6 by decide,rfl,λv w ⟨u,h,_⟩=>⟨u,h⟩⟩
 ·exact a88
 ·exact a88
 ·exact rr.st (oT)
 intro wR1 OT;have sR1:=OT M;replace dY:=dY.le (aG _) sR1.le;replace hM:=sR1.lt hM;have:=S.size;replace S:=S.aw sR1;refine⟨?_,?_⟩
 ·refine ay ?_ ?_
  ·intro wD E sD;refine aP G G aoT (Jh _ (sD.lt hM)) (λr0 w0' hc=>?_);obtain⟨mb,es,cl,rfl,h1,h2,h3⟩:=hc;exact ad ⟨G,G,_,G,⟨mb,es,cl,G,h1,h2⟩,h3⟩
  refine ay ?_ ?_
  ·intro wD E sD;refine ao (M:=M) (A:=RT.qy (n+1)) (B:=RT.int .i64) ak G G I3 Tg (yK n) G G (aG _) dY sD.le (λuf uR=>?_);exact a83
  refine ay ?_ ?_
  ·intro wD E sD;intro v1 kg;refine bV al G G (show cO (RT.int .i64) M wD v1 q.kind from kg) bS (λlJ=>?_);exact a01
  refine ay ?_ ?_
  ·intro wD E sD;intro v0 qA;refine au ?_;obtain⟨mb,es,cl,rfl,h1,h2⟩:=qA;obtain⟨o,h3,h4,h5⟩:=h2 q.kind;refine Rg.TS sK al Eh G G G h1 h3 G ?_;exact ad ⟨rfl,rfl,_,rfl,⟨_,by rw[h4],h5⟩,aV⟩
  refine ay ?_ ?_
  ·intro wD E sD;intro v3 uE;refine ab G G ?_;exact ad ⟨G,G,_,G,uE,aV⟩
  refine ay ?_ ?_
  ·intro wD E sD;intro v4 qu;obtain⟨u,rfl,hK⟩:=qu;refine cI G G G ?_;exact ad ⟨G,G,_,G,hK,aV⟩
  refine ay ?_ ?_
  ·intro wD E sD;intro v4 qu;obtain⟨u,rfl,hK⟩:=qu;refine cI G G G ?_;exact a01
  refine ay ?_ ?_
  ·intro wD E sD;refine ew M Eh G (λbq wq e1 e2 e3 s=>?_);exact ad ⟨G,G,_,G,⟨bq,G,dz (dz sR1.size sD.size) e1,e3⟩,s.back⟩
  exact jS
 ·intro LI mI;intro aoU W0;intro yx lx;refine au ?_;intro YX Ku;intro ayj as1;intro aoV af9;refine au ?_;intro aen Qt;obtain⟨bo,rfl,hbo,go⟩:=Qt;have hK:KV q.kind aoV LI:=af9;obtain⟨ca,cb,cc,cd,rfl,h1,h2,h3,h4⟩:=hK.cells;have so:=(sR1.aw mI).own hbo (ae go);obtain⟨Mo,hMo⟩:∃Mo,Mo=ins M bo:=⟨_,rfl⟩;have mbo:Mo bo:=by rw[hMo];exact .inl G
  rw[<-hMo]at so;replace hM:=so.lt yC;replace dY:=Jy.le (aG _) so.le;replace S:=S0.aw so;refine cY (M:=Mo) (vs:=[ca,cb,cc,cd]) Eh G G (by intro u hu;simp at hu;rcases hu with rfl|rfl|rfl|rfl<;>assumption) rfl rfl go mbo (λw8 g8 s8=>?_);have fW:=(s8.mem _ (ae go)).2 mbo;replace hK:=hK.step s8 (λb hb cs h=>by have hb:b=bo:=hb;rw[hb,go]at h;injection h with h;injection h with _ h;exact absurd h Tg);replace S:=S.cr s8 (λb (hb:b=bo)=>by have:=iA.size;omega);replace hM:=s8.lt hM;replace dY:=dY.le (aG _) s8.le;refine ad ⟨G,G,λh=>absurd G h,aN G G (ad ⟨G,G,λh=>absurd G h,nT (aL (aX (T.aQ (ab G G (eR G G G (Rg.aZ G G ?_))))))⟩)⟩;refine bE G (λc2=>?_) (λc2=>?_)
  ·refine T.aQ (Rg.aZ G G (aJ ?_));exact aK rfl rfl ⟨by rw[jY q deep,if_pos q0],S.back⟩
  ·refine aL ?_;by_cases xd: ¬(1<=q.kind/\q.kind<=5)
   ·apply T.qD (M:=Mo) mixed [] [cj.eq (.bool (decide (1<=q.kind/\q.kind<=5))),cj.eq (.bool (decide (¬(1<=q.kind/\q.kind<=5)))),cj.eq (.bool true),cj.eq undef,cj.eq undef,cj.eq undef,cj.eq undef,cj.eq undef] 8
    ·rfl
    ·rfl
    ·rfl
    ·rfl
    ·rfl
    ·exact a88
    ·exact oT
    ·refine ay ?_ ?_
     ·intro wD E sD;refine ab G G ?_;exact a01
     refine ay ?_ ?_
     ·intro wD E sD;refine au (fV G G (bg (v':= .bool (decide (¬(1<=q.kind/\q.kind<=5)))) am5 ?_));exact a01
     refine ay ?_ ?_
     ·intro wD E sD;refine au (ab G G ?_);refine ad ⟨G,G,_,G,?_,aV⟩;exact congrArg Value.bool (decide_eq_true xd)
     refine ay ?_ ?_
     ·intro wD E sD;refine au ?_;exact a13
     refine ay ?_ ?_
     ·intro wD E sD;refine au ?_;exact a13
     refine ay ?_ ?_
     ·intro wD E sD;refine au (au ?_);exact a13
     refine ay ?_ ?_
     ·intro wD E sD;refine au ?_;exact a13
     refine ay ?_ ?_
     ·intro wD E sD;refine au (au (au (au ?_)));exact a13
     exact jS
    ·intro wD4 rE;refine au (au (au (au (au (au (au (au ?_)))))));replace hM:=rE.lt hM;replace S:=S.aw rE;replace dY:=dY.le (aG _) rE.le;have:=ae g8;replace fW:=(rE.mem _ this).2 fW;replace g8:=rE.aF g8;replace hK:=hK.step rE a30;refine aj G G G G (aj G G G G (aU G G G (Rg.aZ G G (kD G (T.aQ (Rg.aZ G G (aJ ?_)))))))
     first
     |exact aK rfl rfl ⟨by rw[jY q deep,if_neg q0,KP xd];rfl,S.back⟩
     |exact aK rfl rfl ⟨by rw[jY q deep,if_neg q0,KO (k:=q.kind) (t:=q.term) (ws:=q.words) (ck.1 xd) (by obtain⟨_,_,_,_⟩:=q;exact c4)];rfl,S.back⟩
   ·obtain⟨bf,mf,cap,rfl,rfl,eb,em,hbf,hmf⟩:=hK.use (ck.1 xd) Lj;apply T.qD (M:=Mo) mixed [] [cj.eq (.bool (decide (1<=q.kind/\q.kind<=5))),cj.eq (.bool (decide (¬(1<=q.kind/\q.kind<=5)))),cj.eq (.bool false),cj.V (RT.qy (n+1)) q,cj.eq _,cj.eq (.func (.func bf) #[] #[]),cj.V (RT.qy (n+1)) q,cj.V (RT.qy (n+1)) (kH q)] 8
    ·rfl
    ·rfl
    ·rfl
    ·rfl
    ·rfl
    ·exact a88
    ·exact oT
    ·refine ay ?_ ?_
     ·intro wD E sD;refine ab G G ?_;exact a01
     refine ay ?_ ?_
     ·intro wD E sD;refine au (fV G G (bg (v':= .bool (decide (¬(1<=q.kind/\q.kind<=5)))) am5 ?_));exact a01
     refine ay ?_ ?_
     ·intro wD E sD;refine au (ab G G ?_);refine ad ⟨G,G,_,G,?_,aV⟩;exact congrArg Value.bool (decide_eq_false xd)
     refine ay ?_ ?_
     ·intro wD E sD;refine au (ah G G ?_);refine bN (M:=Mo) (A:=RT.qy (n+1)) ak G (IQ gg _) (aG _) (dK _) G G dY sD.le (λva k8=>?_);exact ah0
     refine ay ?_ ?_
     ·intro wD E sD;refine au (ah G G (aY sL G G aoS Tg G G ?_));exact a01
     refine ay ?_ ?_
     ·intro wD E sD;refine au (au (ah G G (aR Tryz.underlying264 G G G (sD.aF g8) G ?_)));exact a01
     refine ay ?_ ?_
     ·intro wD E sD;refine au (ah G G ?_);refine bN (M:=Mo) (A:=RT.qy (n+1)) ak G (IQ gg _) (aG _) (dK _) G G dY sD.le (λva k8=>?_);exact ah0
     refine ay ?_ ?_
     ·intro wD E sD;refine au ?_;intro v6 oC;refine au (au (ah G G ?_));refine oS (first:=[]) (captured:=[]) (xs:=[.tmp 28]) G G G eb (hbf (sD.lt hM) oC) (λr7 w7 hc=>?_);exact ad ⟨G,G,_,G,hc.1,hc.2⟩
     exact jS
    ·intro wD4 rE;refine au (au (au ?_));intro ayl aga;refine au (au ?_);intro aym as4;intro ayn agb;replace hM:=rE.lt hM;replace S:=S.aw rE;replace dY:=dY.le (aG _) rE.le;have:=ae g8;replace fW:=(rE.mem _ this).2 fW;replace g8:=rE.aF g8;replace hK:=hK.step rE a30;refine ah G G ?_;refine aP G G Z5 (AS (n+1) _ hM aga agb) (λr48 w48 hc=>?_);obtain⟨rfl,s48⟩:=hc;have:=ae g8;replace fW:=(s48.mem _ this).2 fW;replace g8:=s48.aF g8;replace dY:=dY.le (aG _) s48.le;replace hK:=hK.step s48 a30;replace hM:=s48.lt hM;have:=S.size;replace S:=S.aw s48;refine ah G G (fV G G (bg (v':= .bool (decide (¬q=kH q))) (by simp) (aB G G G (Rg.aZ G G ?_))));refine bE G (λc4=>?_) (λc4=>?_)
     ·refine T.aQ (Rg.aZ G G (aJ ?_))
      first
      |exact aK rfl rfl ⟨by rw[jY q deep,if_neg q0,KP xd];rfl,S.back⟩
      |exact aK rfl rfl ⟨by rw[jY q deep,if_neg q0,KO (k:=q.kind) (t:=q.term) (ws:=q.words) (ck.1 xd) (by obtain⟨_,_,_,_⟩:=q;exact c4)];rfl,S.back⟩
     ·refine aS (aL (T.aQ (aY sL G G aoR Tg G G (aR Tryz.underlying123 G G G g8 G ?_))));refine bN (A:=RT.qy (n+1)) ak G (IQ gg _) (aG _) (dK _) G G dY bS (λv62 aoW=>?_);refine oS (first:=[]) (captured:=cap) (xs:=[.tmp 35]) G G G em (hmf hM aoW hK (ck.1 c4)) (λr6 w6 hc=>?_);obtain⟨rfl,s6⟩:=hc;have:=ae g8;replace fW:=(s6.mem _ this).2 fW;replace g8:=s6.aF g8;replace dY:=dY.le (aG _) s6.le;replace hK:=hK.step s6 a30;replace hM:=s6.lt hM;have:=S.size;replace S:=S.aw s6;refine Rg.aZ G G (T.aQ (ab G G (fm G G G (ad ?_))));refine bE G (λc7=>?_) (λc7=>?_)
      ·refine T.aQ (ab G G (Rg.aZ G G (aJ ?_)));exact aK rfl rfl ⟨by rw[jY q deep,if_neg q0,if_pos c7],S.back⟩
      ·refine aS (aL (T.aQ ?_));refine ao (A:=RT.qy (n+1)) (B:=((RT.qy n).sl (aG n))) ak G G rG Nat.one_pos (Bv n) G G (aG _) dY bS (λu90 R8=>?_);refine bB bD G G G G G R8 bS (λv91 tJ=>?_);have zg:=cU tJ;refine bC (A:=RT.qy n) (hn:=aG _) bD G tJ G (ab G G (ad (aX ?_)));refine dd (σ:=Nat) (λi=>[(1,.int .i64 (deep:Int)),(2,u2),(41,v91),(42,.int .i64 (q.kids.length:Int)),(43,.int .i64 (i:Int))]) (λi w=>i<=q.kids.length/\(∀(j:Nat) y,j<i->q.kids[j]? =some y->fP y (deep+1)=0)/\∃M1,Lt M1 w/\Step M w0 M1 w aC/\((RT.qy n).sl (aG n)).V M1 w q.kids v91) (λi=>q.kids.length-i) 0 a56 ?_ ?_
       ·exact⟨a8 _,λj y h=>absurd h (ec _),_,hM,S,tJ⟩
       ·clear hM S tJ dY hK g8 fW;rintro i w ⟨hi,gD,M1,hM,S,tJ⟩;refine T.aQ (cx G G G (ad (aL ?_)));refine bE G (λLH=>?_) (λLH=>?_)
        ·refine aS (aL (aX (T.aQ ?_)));obtain⟨x,hx⟩:∃x,(q.kids)[i]? =some x:=⟨_,aq q0⟩;refine cC (A:=RT.qy n) (hn:=aG _) (M:=M1) bD (IQ gg _) G G G tJ bS q0 (λaoX x_ gp R9=>?_);rw[ar]at gp;obtain rfl:=aI (hx.symm.trans gp);refine bN (A:=RT.qy (n)) ak G (IQ gg _) (aG _) (dK _) G G R9 bS (λaoY lz=>?_);refine pT (A:=RT.qy n) (M:=M1) (IQ gg _) (by rw[Dy];rfl) (dK _) rfl rfl rfl lz bS hM (λaoZ ayo Hc aaC _=>?_);replace tJ:=tJ.le aaC.le;replace hM:=aaC.lt hM;have:=S.size;replace S:=S.aw aaC;refine ad (T.aQ ?_);refine bN (A:=RT.qy (n)) ak G (IQ gg _) (aG _) (dK _) G G Hc bS (λayp agc=>?_);refine ab G G (bu G G G q0 (bg (v':= .int .i64 ((deep+1:Nat):Int)) (by congr 1) ?_));refine aP G G af7 (ih x (av hx) (deep+1) _ _ _ hM agc q0) (λr12 LK hc=>?_);obtain⟨rfl,lW⟩:=hc;replace tJ:=tJ.le lW.le;replace Hc:=Hc.le (aG _) lW.le;replace hM:=lW.lt hM;have:=S.size;replace S:=S.aw lW;refine Rg.aZ G G (T.aQ (ab G G (fm G G G (ad ?_))));refine bE G (λxS=>?_) (λxS=>?_)
         ·refine T.aQ (ab G G (Rg.aZ G G (aJ ?_)));exact aK rfl rfl ⟨by rw[jY q deep,if_neg q0,if_neg c7,A6 hx gD xS],S.back⟩
         ·refine aS (aH (bu G G G q0 (ab G G (ad ?_))));refine⟨G,i+1,a56,?_,?_⟩
          ·refine⟨by omega,λj y hj hy=>?_,_,hM,S,tJ⟩;rcases cH j i with h|h
           ·exact gD j y h hy
           ·obtain rfl:j=i:=by omega
            rw[hx]at hy;cases hy;exact ck.1 xS
          ·omega
        ·refine cN (T.aQ (Rg.aZ G G (aJ ?_)));exact aK rfl rfl ⟨by rw[jY q deep,if_neg q0,if_neg c7,C2 λj y hj=>gD j y aa7 hj],S.back⟩
theorem kZ {M:aM} {w:World} {q:Qy} {v:Value} (h:(RT.qy 0).V M w q v):q.kids=[]:=by
 obtain⟨vs,⟨_,_,_,_,_,_,_,_,_,_,_,_,hk,_⟩,_⟩:=h;exact hk
theorem A7:∀(n:Nat) {M:aM} {q:Qy} {v:Value} {deep:Nat} (w0:World) (hM:Lt M w0) (hv:(RT.qy n).V M w0 q v) (hs:CW q) (hd:deep<=1000),Spec Tryz.prog 104 #[v,.int .i64 (deep:Int)] w0 (λv w=>v= .int .i64 (fP q deep)/\Step M w0 M w aC)
 |0,M,q,v,deep,w0,hM,hv,hs,hd=>C3 (n:=0) w0 hM (kx hv) hs hd λx hx=>by rw[kZ hv]at hx;cases hx
 |n+1,M,q,v,deep,w0,hM,hv,hs,hd=>C3 w0 hM hv hs hd λx hx deep M w v hM hv hd=>A7 n w hM hv ((WU.1 hs).2 x hx) q0
theorem MY {M:aM} {n:Nat} {q:Qy} {v:Value} (w0:World) (hM:Lt M w0) (hv:(RT.qy (n+1)).V M w0 q v) (hs:CW q):
  Spec Tryz.prog 55 #[v] w0 (λv w=>v= .int .i64 (fP q 1)/\Step M w0 M w aC):=by
 refine bh (args:=[_]) (fn:=Tryz.f55) Tryz.func55 G (n:=5) Tryz.ntmps55 ?_;have S:Step M w0 M w0 aC:=aV;refine T.aQ ?_;refine ef (A:=RT.qy (n+1)) (a:=q) G G hM hv (dK _) (λu1 Eg gh iA _=>?_);replace hv:=hv.le iA.le;replace hM:=iA.lt hM;have:=S.size;replace S:=S.aw iA;refine Rg.aZ G G (T.aQ ?_);refine bN (A:=RT.qy (n+1)) ak G (IQ gg _) (aG _) (dK _) G G gh bS (λv10 pJ=>?_);refine aP G G af7 (A7 (n+1) (deep:=1) _ hM pJ hs Tg) (λr1 w1 hc=>?_);obtain⟨rfl,s1⟩:=hc;replace gh:=gh.le (aG _) s1.le;replace hM:=s1.lt hM;have:=S.size;replace S:=S.aw s1;refine Rg.aZ G G (aJ ?_);exact aK G G ⟨G,S⟩
end Go.K
namespace Go.K
open Go.Proofs
namespace TKMFits
theorem rG:TI Tryz.prog 26 (.slice none 0 0) 1 24:=by unfold TI;kernel_rfl
theorem gg:TI Tryz.prog 28 (.agg #[(.int .i64 0),(.string ⟨#[]⟩),(.string ⟨#[]⟩),(.slice none 0 0),(.slice none 0 0)]) 5 88:=by unfold TI;kernel_rfl
theorem E53:Enters Tryz.prog 53:=enters Tryz.func53 rfl Tg
theorem E56:Enters Tryz.prog 56:=enters Tryz.func56 rfl Tg
theorem ao1:Enters Tryz.prog 105:=enters Tryz.func105 rfl Tg
theorem ao2:Enters Tryz.prog 106:=enters Tryz.func106 rfl Tg
theorem ao3:Enters Tryz.prog 107:=enters Tryz.func107 rfl Tg
theorem afk:Enters Tryz.prog 108:=enters Tryz.func108 rfl Tg
theorem ao4:Enters Tryz.prog 109:=enters Tryz.func109 rfl Tg
end TKMFits
open TKMFits
set_option maxRecDepth 10000
theorem jK (fs:List Fd) (q:Qy):eF fs q=if q.kind=1 then rR (ji (cZ fs q.term.1) q.term.2).length else if q.kind=5 then rR (qm (cZ fs q.term.1) q.words)else if q.kind=2 then(if(q.kids.map (eF fs)).all Option.isSome=true then some (ly (q.kids.map (eF fs)))else none)else if q.kind=3 then(if(q.kids.map (eF fs)).any Option.isSome=true then some (ly (q.kids.map (eF fs)))else none)else(if(q.kids.map (eF fs)).any Option.isSome=true then none else some 0):=by
 obtain⟨k,t,ws,ks⟩:=q;rw[eF,AN];rfl
def qo (k:Int) (l:List (Option Int)):Option Int:=if k=2 then(if l.all Option.isSome=true then some (ly l)else none)else(if l.any Option.isSome=true then some (ly l)else none)
theorem Sa (o:Option Int):ly [o]=o.getD 0:=by unfold ly;simp
theorem Sb (k:Int) (o:Option Int):qo k [o]=o:=by
 unfold qo;rw[Sa]
 cases o<;>simp
theorem C4 (l:List (Option Int)) (o:Option Int):ly (l++[o])=ly l+o.getD 0:=by
 unfold ly;rw[dU,List.sum_append];simp
theorem MZ {l:List (Option Int)} (h:l.any Option.isSome=false):ly l=0:=by
 unfold ly
 induction l with
 |nil=>rfl
 |cons o l ih=>
  rw[List.any_cons,Bool.or_eq_false_iff]at h;rw[eV,List.sum_cons,ih h.2]
  cases o with
  |none=>rfl
  |some x=>simp at h
theorem Sc {k:Int} (hk:k=2) (l:List (Option Int)) (o:Option Int):qo k (l++[o])=oN 2 (qo k l) o:=by
 unfold qo oN Rl;rw[if_pos hk,if_pos hk,C4,List.all_append]
 cases hl:l.all Option.isSome<;>cases o<;>simp
theorem Vj {k:Int} (hk: ¬k=2) (l:List (Option Int)) (o:Option Int):qo k (l++[o])=oN 1 (qo k l) o:=by
 unfold qo oN orO;rw[if_neg hk,if_neg hk,C4,List.any_append]
 cases hl:l.any Option.isSome<;>cases o<;>simp[MZ,hl]
theorem Sd {k:Int} {l:List (Option Int)} {B:Int} (hB:0<=B/\B<=131072000) (hl:l.length<=8) (h:∀o∈l,∀s,o=some s->0<=s/\s<=B):∀s,qo k l=some s->0<=s/\s<=1048576000:=by
 intro s hs;have hc:=AP hB.1 h;have h2:(l.length:Int)*B<=8*131072000:=Int.mul_le_mul q0 hB.2 hB.1 Tg;unfold qo at hs
 have:s=ly l:=by
  split at hs<;>split at hs<;>first|exact(aI hs).symm|cases hs
 omega
theorem Sf {q:Qy} {deep:Nat}:fP q deep=0↔deep<=6/\iR q.kind q.term q.words q.kids.length=0/\∀x∈q.kids,fP x (deep+1)=0:=by
 obtain⟨k,t,ws,ks⟩:=q;exact pS
theorem yS {f:En->Option Int} {L:List En} (h:L.length<=100000):sd (iq f 0 L):=λp hp=>by have:=nC hp;omega
theorem JC {x:List UInt8} (h:cR x=true):x.length<=140737488355328:=by
 unfold cR at h;have:=(of_decide_eq_true h).2;omega
theorem KW {L:List En} {ks:List Qy} {x:Qy} {i deep:Nat} {k:Int} (least:Int) (hl:least=1\/least=2) (hk:least=2↔k=2) (hx:ks[i+1]? =some x) (hn:L.length<=100000) (hF:∀e∈L,iQ e.1) (h8:ks.length<=8) (hm:∀x∈ks,fP x (deep+1)=0):EE least (iq (λe=>qo k ((ks.take (i+1)).map (eF e.1.2))) 0 L) (iq (λe=>eF e.1.2 x) 0 L)=iq (λe=>qo k ((ks.take (i+1+1)).map (eF e.1.2))) 0 L:=by
 have hB:0<=tG (deep+1)/\tG (deep+1)<=131072000:=⟨GR _,xn q0⟩;rw[KJ hl L 0 q0 λe he s hs=>?_]
 ·refine kW λe _=> ?_
  rw[bY (i:=i+1),hx,dp,dU];rcases hl with rfl|rfl
  ·exact(Vj (λh=>absurd (hk.2 h) Tg) _ _).symm
  ·exact(Sc (hk.1 G) _ _).symm
 ·have hw:=λk=>rh (hF e he) k
  rcases hs with hs|hs
  ·have:=Sd hB (by rw[bW,a7];omega) (λo ho s hs=>by
    obtain⟨y,hy,rfl⟩:=cA.1 ho;exact rf e.1.2 hw y (deep+1) (hm y (yo hy)) s hs) s hs
   omega
  ·have:=rf e.1.2 hw x (deep+1) (hm x (av hx)) s hs;omega
theorem Own.foV {M M':aM} {w0 w:World} {v:Value} {L:List En} {f:En->Option Int} (h:Own RT.fo 45 M' w w0.heap.size v (iq f 0 L)) (hM:Lt M w0) (s:Step M w0 M' w aC) (hn:L.length<=100000):((RT.fo).sl).V M w (iq f 0 L) v:=h.close hM s (by have:=kC (f:=f) L 0;omega)
set_option maxHeartbeats 2000000 in
theorem A8 {M:aM} {n:Nat} {L:List En} {q:Qy} {v0 v:Value} {deep:Nat} (w0:World) (hM:Lt M w0) (h0: ¬M 1) (tab:∃e fr,w0.heap[1]? =some (.cells (Hv.map fun(k:Nat)=>Value.int .u8 (k:Int)).toArray e fr)) (hs:cO RT.se M w0 v0 (Gu (jB L))) (fa:BW (-1) L=true) (hn:L.length<=100000) (hv:(RT.qy (n+1)).V M w0 q v) (hm:fP q deep=0) (ih:∀x∈q.kids,∀(M:aM) (w:World) (v:Value),Lt M w->¬M 1->(∃e fr,w.heap[1]? =some (.cells (Hv.map fun(k:Nat)=>Value.int .u8 (k:Int)).toArray e fr))->cO RT.se M w v0 (Gu (jB L))->(RT.qy n).V M w x v->fP x (deep+1)=0->Spec Tryz.prog 56 #[v0,v] w (λv' w'=>∃M',Lt M' w'∧Step M w M' w' aC/\Own RT.fo 45 M' w' w.heap.size v' (iq (λe=>eF e.1.2 x) 0 L))):
  Spec Tryz.prog 56 #[v0,v] w0 (λv w=>∃M',Lt M' w/\Step M w0 M' w aC/\Own RT.fo 45 M' w w0.heap.size v (iq (λe=>eF e.1.2 q) 0 L)):=by
 have gv:=hM;have hF:=kB fa;obtain⟨hd6,sV,hmk⟩:=Sf.1 hm;have hoc:=tF sV;obtain⟨NJ,NK,EI⟩:=tab;have qA:=hv;obtain⟨_,_,_,hkr,rW,_,_⟩:=mF qA;clear qA;refine bh (args:=[_,_]) (fn:=Tryz.f56) Tryz.func56 G (n:=65) Tryz.ntmps56 ?_;have S:Step M w0 M w0 aC:=aV;refine T.aQ ?_;refine ef (A:=RT.qy (n+1)) (a:=q) G G hM hv (dK _) (λu3 Eg gY iA _=>?_);replace hv:=hv.le iA.le;replace hs:=hs.le Tg iA.le;replace hM:=iA.lt hM;have:=S.size;replace S:=S.aw iA;refine Rg.aZ G G (aL (T.aQ ?_));refine ao (A:=RT.qy (n+1)) (B:=RT.int .i64) ak G G I3 Tg (yK n) G G (aG _) gY bS (λH4 lY=>?_);refine bV al G G lY bS (λvz=>?_);refine bg (v':= .int .i64 q.kind) G (ad (aX (T.aQ (fe G G G (Rg.aZ G G ?_)))));refine bE G (λc2=>?_) (λc2=>?_)
 ·refine T.aQ (ab G G ?_);refine ao (A:=RT.qy (n+1)) (B:=RT.fd) ak G G kF Tg (BG n) G G (aG _) gY bS (λu31 RC=>?_);refine bN (A:=RT.fd) br G kF Tg G G G RC bS (λv32 RD=>?_);obtain rfl:=kQ RD;refine aP G G ao1 (Jp (t:=q.term) _ hM hs fa hn rW.1 rW.2) (λr33 w33 hc=>?_);obtain⟨M3,h3l,h3s,h3o⟩:=hc;refine Rg.aZ G G (aJ (aK G G ⟨_,h3l,S.aw h3s,?_⟩));rw[show iq (λe=>eF e.1.2 q) 0 L=iq (GU q.term) 0 L from kW λe _=>by rw[jK,if_pos c2];rfl];exact h3o.jf S.size
 ·refine T.aQ (fe G G G (Rg.aZ G G ?_));refine bE G (λc4=>?_) (λc4=>?_)
  ·have h5:=hoc.elim (λh=>absurd h.1 c2) λh=>h.elim id λh=>(by omega:False).elim
   refine T.aQ (ab G G ?_);refine ao (A:=RT.qy (n+1)) (B:=RT.fd) ak G G kF Tg (BG n) G G (aG _) gY bS (λu51 Jf=>?_);refine ao (A:=RT.fd) (B:=RT.str) br G G I9 Tg EF G G Tg Jf bS (λu52 aaD=>?_);refine bB aA G G G G G aaD bS (λv53 aaE=>?_);obtain rfl:=dS aaE;refine ao (A:=RT.qy (n+1)) (B:=(RT.str.sl)) ak G G rA Tg (EG n) G G (aG _) gY bS (λu54 I6=>?_);refine bB ax G G G G G I6 bS (λv55 I7=>?_);refine aP G G ao2 (Em (k:=q.term.1) _ hM hs fa hn I7 rW.1 (λx hx=>JC (dZ.1 h5.2.2.2.2.1 x hx)) h5.2.2.2.1 q0) (λr56 w56 hc=>?_);obtain⟨M5,h5l,h5s,h5o⟩:=hc;refine Rg.aZ G G (aJ (aK G G ⟨_,h5l,S.aw h5s,?_⟩));rw[show iq (λe=>eF e.1.2 q) 0 L=iq (rS q.term.1 q.words) 0 L from kW λe _=>by rw[jK,if_neg c2,if_pos c4];rfl];exact h5o.jf S.size
  ·refine T.aQ (fe G G G (Rg.aZ G G ?_));refine bE G (λc6=>?_) (λc6=>?_)
   ·have qt:q.kids.length=1:=by omega
    refine T.aQ (ab G G ?_);refine ao (A:=RT.qy (n+1)) (B:=((RT.qy n).sl (aG n))) ak G G rG Nat.one_pos (Bv n) G G (aG _) gY bS (λu71 Sg=>?_);refine bB bD G G G G G Sg bS (λv72 Vk=>?_);obtain⟨x,hx⟩:∃x,q.kids[0]? =some x:=⟨_,aq q0⟩;refine cC (A:=RT.qy n) (hn:=aG _) (M:=M) bD (IQ gg _) G G G Vk bS q0 (λu73 x_ gp aaF=>?_);obtain rfl:=aI (hx.symm.trans gp);refine bN (A:=RT.qy (n)) ak G (IQ gg _) (aG _) (dK _) G G aaF bS (λv74 ao8=>?_);refine aP G G E56 (ih x (av hx) _ _ _ hM (λhn=>h0 ((S.mem 1 (ae EI)).1 hn)) ⟨NJ,NK,S.aF EI⟩ hs ao8 (hmk _ (av hx))) (λr75 w75 hc=>?_);obtain⟨ayw,as9,W2,age⟩:=hc;have agf:=age.foV hM W2 hn;have Vl:=W2.back;replace hs:=hs.le Tg Vl.le;replace gY:=gY.le (aG _) Vl.le;replace hM:=Vl.lt hM;have:=S.size;replace S:=S.aw Vl;refine ab G G ?_;refine aP G G afk (Mn _ hs) (λr77 w77 hc=>?_);obtain⟨rfl,rfl⟩:=hc;refine bg (v':= .int .i64 (L.length:Int)) (by show Value.int .i64 (((L.map _).length:Nat):Int)=_;rw[bW]) ?_;refine aP G G ao3 (Vi hM agf q0 h0 ⟨NJ,NK,S.aF EI⟩) (λr78 w78 hc=>?_);obtain⟨M7,h7l,h7s,h7o⟩:=hc;rw[Rn]at h7o;refine Rg.aZ G G (aJ (aK G G ⟨_,h7l,S.aw h7s,?_⟩))
    rw[show iq (λe=>eF e.1.2 q) 0 L=iq (λe=>U4 (eF e.1.2 x)) 0 L from kW λe _=>by
     rw[jK,if_neg c2,if_neg c4,if_neg q0,if_neg q0,show q.kids=[x]from by
      obtain⟨y,hy⟩:=List.length_eq_one_iff.1 qt;rw[hy]at hx;cases hx;exact hy,eV,sG]
     cases eF e.1.2 x<;>rfl]
    exact h7o.jf S.size
   ·have Wz:0<q.kids.length/\q.kids.length<=8:=by omega
    have Y6:q.kind=2\/q.kind=3:=by omega
    refine aS (T.aQ (ab G G ?_));refine ao (A:=RT.qy (n+1)) (B:=((RT.qy n).sl (aG n))) ak G G rG Nat.one_pos (Bv n) G G (aG _) gY bS (λu81 RR=>?_);refine bB bD G G G G G RR bS (λv82 Vm=>?_);obtain⟨x,hx⟩:∃x,q.kids[0]? =some x:=⟨_,aq q0⟩;refine cC (A:=RT.qy n) (hn:=aG _) (M:=M) bD (IQ gg _) G G G Vm bS q0 (λu83 x_ gp ao9=>?_);obtain rfl:=aI (hx.symm.trans gp);refine bN (A:=RT.qy (n)) ak G (IQ gg _) (aG _) (dK _) G G ao9 bS (λv84 apa=>?_);refine aP G G E56 (ih x (av hx) _ _ _ hM (λhn=>h0 ((S.mem 1 (ae EI)).1 hn)) ⟨NJ,NK,S.aF EI⟩ hs apa (hmk _ (av hx))) (λr85 w85 hc=>?_);obtain⟨ayA,agh,Sh,KX⟩:=hc;have atb:=KX.foV hM Sh hn;have S85:=S.aw Sh;replace KX:=KX.jf (base':=w0.heap.size) S.size;have Vn:=Sh.back;replace hs:=hs.le Tg Vn.le;replace gY:=gY.le (aG _) Vn.le;replace hM:=Vn.lt hM;have:=S.size;replace S:=S.aw Vn;refine Rg.aZ G G (aL (T.aQ ?_));refine ao (A:=RT.qy (n+1)) (B:=((RT.qy n).sl (aG n))) ak G G rG Nat.one_pos (Bv n) G G (aG _) gY bS (λu90 R8=>?_);refine bB bD G G G G G R8 bS (λv91 tJ=>?_);refine Rg.oW (A:=RT.qy n) (hn:=aG _) (M:=M) bD (IQ gg _) G G G tJ q0 (λu92 nK=>?_);replace nK:((RT.qy n).sl (aG n)).V M _ (q.kids.drop 1) u92:=nK;refine bC (A:=RT.qy n) (hn:=aG _) bD G nK G (bg (v':= .int .i64 ((q.kids.length-1:Nat):Int)) (by rw[cW]) (ab G G (ad (aX ?_))));refine dd (σ:=Nat×Value) (λq'=>[(0,v0),(3,u3),(5,q'.2),(44,u92),(45,.int .i64 ((q.kids.length-1:Nat):Int)),(46,.int .i64 (q'.1:Int))]) (λq' w=>q'.1+1<=q.kids.length/\cO RT.se M w v0 (Gu (jB L))/\cO (RT.qy (n+1)) M w u3 q/\((RT.qy n).sl (aG n)).V M w (q.kids.drop 1) u92/\∃M2,Lt M2 w/\Step M w0 M2 w aC/\Own RT.fo 45 M2 w w0.heap.size q'.2 (iq (λe=>qo q.kind ((q.kids.take (q'.1+1)).map (eF e.1.2))) 0 L)) (λq'=>q.kids.length-q'.1) (0,r85) a14 ?_ ?_
    ·exact⟨by dsimp only;omega,hs,gY,nK,_,agh,S85,by dsimp only;rw[show iq (λe=>qo q.kind ((q.kids.take (0+1)).map (eF e.1.2))) 0 L=iq (λe=>eF e.1.2 x) 0 L from kW λe _=>by rw[bY,hx];exact Sb _ _];exact KX⟩
    ·clear hM S hs gY nK;rintro⟨i,vo⟩ w ⟨hi,hs,gY,nK,M2,J8,S2,iT⟩;dsimp only at hi iT ⊢;have S:=S2.back;have hM:=S.lt gv;have iP:=iT.foV gv S2 hn;refine T.aQ (cx G G G (ad (aL ?_)));refine bE G (λLH=>?_) (λLH=>?_)
     ·refine aS (aL (aX (T.aQ ?_)));have VM:i<(q.kids.drop 1).length:=by rw[cW];omega
      obtain⟨x,RP⟩:∃x,(q.kids.drop 1)[i]? =some x:=⟨_,aq VM⟩;have hx:q.kids[i+1]? =some x:=by rw[iB,Nat.add_comm]at RP;exact RP
      refine cC (A:=RT.qy n) (hn:=aG _) (M:=M) bD (IQ gg _) G G G nK bS q0 (λaoX x_ gp R9=>?_);rw[ar]at gp;obtain rfl:=aI (RP.symm.trans gp);refine bN (A:=RT.qy (n)) ak G (IQ gg _) (aG _) (dK _) G G R9 bS (λaoY lz=>?_);obtain⟨xw,xk,rfl,xr,xl,hxw,hxk⟩:=mF (kx lz);refine ew M gg G (λSi agi atc atd jn yb=>?_);obtain⟨Sk,KY⟩:∃M',M'=ins M Si:=⟨_,rfl⟩;rw[<-KY]at yb;have jZ:Sk Si:=by rw[KY];exact .inl G
      change agi.heap[Si]? =some (.cells #[.int .i64 0,.string ⟨#[]⟩,.string ⟨#[]⟩,.slice none 0 0,.slice none 0 0] _ _)at jn;replace hs:=hs.le Tg yb.le;replace gY:=gY.le (aG _) yb.le;replace nK:=nK.le yb.le;replace iP:=iP.le yb.le;replace lz:=lz.le yb.le;replace hM:=yb.lt hM;have:=S.size;replace S:=S.aw yb;refine cY (M:=Sk) (vs:=[.int .i64 x.kind,.string ⟨x.term.1.toArray⟩,.string ⟨x.term.2.toArray⟩,xw,xk]) gg G G (Dz hxw hxk) G G jn jZ (λayC apc Eo=>?_);have:=ae jn;replace jZ:=(Eo.mem _ this).2 jZ;replace hs:=hs.le Tg Eo.le;replace gY:=gY.le (aG _) Eo.le;replace nK:=nK.le Eo.le;replace iP:=iP.le Eo.le;replace lz:=lz.le Eo.le;replace hM:=Eo.lt hM;have:=S.size;replace S:=S.trans Eo (λk hk h=>by have h:_=_:=h;subst h;first|(exfalso;omega)|(show _<=_;omega)|exact⟨by first|omega|assumption,(S.mem _ hk).1 ((Eo.mem _ (ae jn)).1 jZ)⟩|exact .inl rfl|exact .inr rfl|exact .inr (.inl rfl)|exact .inr (.inr rfl)|exact .inr (.inr (.inl rfl))|exact rfl);have Sm:=apc;clear jn;have jn:=Sm;clear Sm;refine ad (T.aQ ?_);refine ao (A:=RT.qy (n+1)) (B:=RT.int .i64) ak G G I3 Tg (yK n) G G (aG _) gY bS (λan0 Rv=>?_);refine bV al G G Rv bS (λagj=>?_);refine bg (v':= .int .i64 q.kind) G (fe G G G (ad ?_));refine bE G (λFs=>?_) (λFs=>?_)
      ·refine aH (ab G G (ab G G (eC (vs:=[.int .i64 x.kind,.string ⟨x.term.1.toArray⟩,.string ⟨x.term.2.toArray⟩,xw,xk]) ak G gg G G G jn ?_)));refine aP G G E56 (ih x (av hx) _ _ _ hM (λhn=>h0 ((S.mem 1 (ae EI)).1 hn)) ⟨NJ,NK,S.aF EI⟩ hs lz (hmk _ (av hx))) (λayD ayE hc=>?_);obtain⟨ate,apd,Sn,aaG⟩:=hc;have JD:=aaG.foV hM Sn hn;have vH:=Sn.back;have:=ae jn;replace jZ:=(vH.mem _ this).2 jZ;replace jn:=vH.aF jn;replace hs:=hs.le Tg vH.le;replace gY:=gY.le (aG _) vH.le;replace nK:=nK.le vH.le;replace iP:=iP.le vH.le;replace lz:=lz.le vH.le;replace hM:=vH.lt hM;have:=S.size;replace S:=S.aw vH;refine aP G G E53 (KT hM iP JD (yS hn) (yS hn) ah5) (λrj wj hc=>?_);obtain⟨Mj,oX,Dl,Vo⟩:=hc;rw[KW (deep:=deep) 2 Tg ⟨λ_=>Fs,λ_=>rfl⟩ hx hn hF Wz.2 hmk]at Vo;have Sj:=S.aw Dl;replace Vo:=Vo.jf (base':=w0.heap.size) S.size;have sj:=Dl.back;have:=ae jn;replace jZ:=(sj.mem _ this).2 jZ;replace jn:=sj.aF jn;replace hs:=hs.le Tg sj.le;replace gY:=gY.le (aG _) sj.le;replace nK:=nK.le sj.le;replace iP:=iP.le sj.le;replace lz:=lz.le sj.le;replace JD:=JD.le sj.le;replace hM:=sj.lt hM;have:=S.size;replace S:=S.aw sj;refine Rg.aZ G G (aH (bu G G G q0 (ab G G (ad ?_))));refine⟨G,(i+1,rj),a14,?_,?_⟩
       ·have lc:=lE gv S;exact⟨by dsimp only;omega,hs.le Tg lc,gY.le (aG _) lc,nK.le lc,_,oX,Sj,Vo⟩
       ·dsimp only;omega
      ·refine aH (ab G G (ab G G (eC (vs:=[.int .i64 x.kind,.string ⟨x.term.1.toArray⟩,.string ⟨x.term.2.toArray⟩,xw,xk]) ak G gg G G G jn ?_)));refine aP G G E56 (ih x (av hx) _ _ _ hM (λhn=>h0 ((S.mem 1 (ae EI)).1 hn)) ⟨NJ,NK,S.aF EI⟩ hs lz (hmk _ (av hx))) (λaov aow hc=>?_);obtain⟨atf,ape,Sq,aaH⟩:=hc;have JE:=aaH.foV hM Sq hn;have vI:=Sq.back;have:=ae jn;replace jZ:=(vI.mem _ this).2 jZ;replace jn:=vI.aF jn;replace hs:=hs.le Tg vI.le;replace gY:=gY.le (aG _) vI.le;replace nK:=nK.le vI.le;replace iP:=iP.le vI.le;replace lz:=lz.le vI.le;replace hM:=vI.lt hM;have:=S.size;replace S:=S.aw vI;refine aP G G ao4 (aaB hM iP JE (yS hn) (yS hn) ah5) (λrj wj hc=>?_);obtain⟨Mj,oX,Dl,Vo⟩:=hc;rw[KW (deep:=deep) 1 Tg ⟨λh=>absurd h Tg,λh=>absurd h Fs⟩ hx hn hF Wz.2 hmk]at Vo;have Sj:=S.aw Dl;replace Vo:=Vo.jf (base':=w0.heap.size) S.size;have sj:=Dl.back;have:=ae jn;replace jZ:=(sj.mem _ this).2 jZ;replace jn:=sj.aF jn;replace hs:=hs.le Tg sj.le;replace gY:=gY.le (aG _) sj.le;replace nK:=nK.le sj.le;replace iP:=iP.le sj.le;replace lz:=lz.le sj.le;replace JE:=JE.le sj.le;replace hM:=sj.lt hM;have:=S.size;replace S:=S.aw sj;refine Rg.aZ G G (aH (bu G G G q0 (ab G G (ad ?_))));refine⟨G,(i+1,rj),a14,?_,?_⟩
       ·have lc:=lE gv S;exact⟨by dsimp only;omega,hs.le Tg lc,gY.le (aG _) lc,nK.le lc,_,oX,Sj,Vo⟩
       ·dsimp only;omega
     ·refine cN (T.aQ (ab G G (Rg.aZ G G (aJ (aK G G ⟨_,J8,S2,?_⟩)))))
      rw[show iq (λe=>eF e.1.2 q) 0 L=iq (λe=>qo q.kind ((q.kids.take (i+1)).map (eF e.1.2))) 0 L from kW λe _=>by
       rw[jK,if_neg c2,if_neg c4,bp (show q.kids.length<=i+1 by omega)];unfold qo;rcases Y6 with h|h
       ·rw[if_pos h,if_pos h]
       ·rw[if_neg (show¬q.kind=2 by omega),if_pos h,if_neg (show¬q.kind=2 by omega)]]
      exact iT
theorem A9:∀(n:Nat) {M:aM} {L:List En} {q:Qy} {v0 v:Value} {deep:Nat} (w0:World) (hM:Lt M w0) (h0: ¬M 1) (tab:∃e fr,w0.heap[1]? =some (.cells (Hv.map fun(k:Nat)=>Value.int .u8 (k:Int)).toArray e fr)) (hs:cO RT.se M w0 v0 (Gu (jB L))) (fa:BW (-1) L=true) (hn:L.length<=100000) (hv:(RT.qy n).V M w0 q v) (hm:fP q deep=0),Spec Tryz.prog 56 #[v0,v] w0 (λv w=>∃M',Lt M' w/\Step M w0 M' w aC/\Own RT.fo 45 M' w w0.heap.size v (iq (λe=>eF e.1.2 q) 0 L))
 |0,M,L,q,v0,v,deep,w0,hM,h0,tab,hs,fa,hn,hv,hm=>A8 (n:=0) w0 hM h0 tab hs fa hn (kx hv) hm λx hx=>by rw[kZ hv]at hx;cases hx
 |n+1,M,L,q,v0,v,deep,w0,hM,h0,tab,hs,fa,hn,hv,hm=>A8 w0 hM h0 tab hs fa hn hv hm λx hx M w v hM h0 tab hs hv hm=>A9 n w hM h0 tab hs fa hn hv hm
end Go.K
namespace Go.K
open Go.Proofs
namespace TKMMatch
theorem gg:TI Tryz.prog 28 (.agg #[(.int .i64 0),(.string ⟨#[]⟩),(.string ⟨#[]⟩),(.slice none 0 0),(.slice none 0 0)]) 5 88:=by unfold TI;kernel_rfl
theorem E55:Enters Tryz.prog 55:=enters Tryz.func55 rfl Tg
theorem E56:Enters Tryz.prog 56:=enters Tryz.func56 rfl Tg
end TKMMatch
open TKMMatch
set_option maxRecDepth 10000
theorem yc {M:aM} {n:Nat} {L:List En} {q:Qy} {v0 v:Value} (w0:World) (hM:Lt M w0) (h0: ¬M 1) (tab:∃e fr,w0.heap[1]? =some (.cells (Hv.map fun(k:Nat)=>Value.int .u8 (k:Int)).toArray e fr)) (hs:cO RT.se M w0 v0 (Gu (jB L))) (fa:BW (-1) L=true) (hn:L.length<=100000) (hv:(RT.qy (n+1)).V M w0 q v) (lC:CW q):
  Spec Tryz.prog 13 #[v0,v] w0 (λv w=>∃M',Lt M' w/\Step M w0 M' w aC/\Own RT.fo 45 M' w w0.heap.size v (if fP q 1=0 then iq (λe=>eF e.1.2 q) 0 L else[])):=by
 have gv:=hM;obtain⟨NJ,NK,EI⟩:=tab;refine bh (args:=[_,_]) (fn:=Tryz.f13) Tryz.func13 G (n:=11) Tryz.ntmps13 ?_;have S:Step M w0 M w0 aC:=aV;refine T.aQ ?_;refine ef (A:=RT.qy (n+1)) (a:=q) G G hM hv (dK _) (λu3 Eg gY iA _=>?_);replace hv:=hv.le iA.le;replace hs:=hs.le Tg iA.le;replace hM:=iA.lt hM;have:=S.size;replace S:=S.aw iA;refine Rg.aZ G G (aL (T.aQ ?_));refine bN (A:=RT.qy (n+1)) ak G (IQ gg _) (aG _) (dK _) G G gY bS (λv10 pJ=>?_);refine aP G G E55 (MY (n:=n) _ hM pJ lC) (λr11 w11 hc=>?_);obtain⟨rfl,yB⟩:=hc;replace hs:=hs.le Tg yB.le;replace gY:=gY.le (aG _) yB.le;replace hM:=yB.lt hM;have:=S.size;replace S:=S.aw yB;refine fm G G G (ad ?_);refine bE G (λc1=>?_) (λc1=>?_)
 ·refine T.aQ (Rg.aZ G G (aJ (aK G G ⟨M,hM,S,?_⟩)));rw[if_neg (by first|exact c1|omega)];exact eL _ _ _ _ _
 ·have hm:fP q 1=0:=by first|exact ck.1 c1|omega
  refine aS (T.aQ (ab G G ?_));refine bN (A:=RT.qy (n+1)) ak G (IQ gg _) (aG _) (dK _) G G gY bS (λv31 MM=>?_);refine aP G G E56 (A9 (n+1) (deep:=1) _ hM (λhn=>h0 ((S.mem 1 (ae EI)).1 hn)) ⟨NJ,NK,S.aF EI⟩ hs fa hn MM hm) (λr32 w32 hc=>?_);obtain⟨M3,h3l,h3s,h3o⟩:=hc;refine Rg.aZ G G (aJ (aK G G ⟨M3,h3l,S.aw h3s,?_⟩));rw[if_pos hm];exact h3o.jf S.size
end Go.K
namespace Go.K
abbrev Hd:=Int×Int×Int
def hn (xs:List Hd) (i:Nat):Int:=(xs.getD i (0,0,0)).1
def aaI (f:Nat->Nat):Nat->Nat
 |0=>0
 |k+1=>aaI f k+f k
def W3 (ls:List (List Int)) (i:Nat):Nat:=(ls.getD i []).length
def wC (ls:List (List Int)):Nat:=aaI (W3 ls) ls.length
def rem (ls:List (List Int)) (at_:Nat->Nat):Nat:=aaI (λi=>W3 ls i-at_ i) ls.length
abbrev RT.hd:RT Hd:=RT.pair (RT.int .i64) (RT.pair (RT.int .i64) (RT.int .i64))
theorem hd0:Part RT.hd (RT.int .i64) (λh=>h.1) 0:=jE _ _
theorem hd1:Part RT.hd (RT.int .i64) (λh=>h.2.1) 1:=(fy _ _).trans (jE _ _)
theorem hd2:Part RT.hd (RT.int .i64) (λh=>h.2.2) 2:=(fy _ _).trans (fy _ _)
def agk (x:Int):Prop:= -9223372036854775808<=x/\x<=9223372036854775807
variable {P:Program} {r:Option Nat} {n:Nat} {L:Sl} {ds:List Deferred} {w:World} {K:Kt} {ops:Array Oper} {rest:List Oper} {d:Nat} {x y:Operand} {ty:TypeId} {pos:String} {af:Array Edge} {α:Type} {A:RT α}
theorem Rg.aaJ {t e:TypeId} {zv:Value} {bytes:Nat} {M:aM} {base g len cap j:Nat} {xs:List α} {a:α} {v:Value} (hA:A.n=1/\A.agg=false) (hi:TI P t zv 1 bytes) (hx:ev L x=some (.pointer (some ⟨g,j,none⟩))) (hy:ev L y=some v) (h:Own A e M w base (.slice (some ⟨g,0,none⟩) len cap) xs) (hj:j<xs.length) (hv:A.V M w a v)
  (k:∀w',Own A e M w' base (.slice (some ⟨g,0,none⟩) len cap) (xs.set j a)->Step M w M w' (λk=>k=g)->Rg P r n ops rest L ds w' K):
  Rg P r n ops ({dst:=none,op:= .store t x y,type:=ty,pos,after:=af,guard:=none}::rest) L ds w K:=by
 obtain⟨vs,lN,hvv⟩:=hv;have hl:=A.len lN;rw[hA.1]at hl
 obtain⟨u,rfl⟩:∃u,vs=[u]:=by
  match vs,hl with
  |[u],_=>exact⟨u,rfl⟩
 have hvu:v=u:=by rw[hvv];unfold RT.val;rw[hA.2];rfl
 subst hvu;have h1:=A.one lN v (by simp);obtain⟨w',hw',ho,hs⟩:=h.setCells hj lN;obtain⟨⟨C,hr,_⟩,hm⟩:=h;rcases hr.2 with⟨h2,_⟩|⟨g',Tp,cur,h2,_,h3,h4,h5,h6,h7⟩
 ·cases h2
 ·simp only[Value.slice.injEq,Option.some.injEq,Addr.mk.injEq]at h2;obtain⟨⟨rfl,_⟩,rfl,rfl⟩:=h2;rw[hA.1]at h6 hw';refine .VH a05 G G w' (λρ hρ=>?_) (k w' ho hs);subst hw';simp only[execOp,hρ x _ hx,hρ y _ hy];have:=rU (P:=P) hi (w:=w) (b:=g) (o:=j) (v:=v) h1 (by rw[gM h3 (v:=cur[j]' q0) (by simp)];rfl) (by simp[World.frozen?,h3]);simp[this,World.setCells]
def foC (p:Fo):List Value:=[.int .i64 p.1,.int .i64 p.2]
def Sr (p:Fo):Prop:=agk p.1/\agk p.2
theorem Ep {M:aM} {w:World}:∀{xs:List Fo} {C:List Value},fN RT.fo M w xs C↔C=xs.flatMap foC/\∀p∈xs,Sr p
 |[],C=>⟨λh=>⟨h,λp h=>by cases h⟩,λh=>h.1⟩
 |p::xs,C=>by
  constructor
  ·rintro⟨vs,r,h1,⟨va,vb,rfl,⟨rfl,ha⟩,⟨rfl,hb⟩⟩,h3⟩;obtain⟨h4,h5⟩:=Ep.1 h3;refine ⟨by rw[h1,h4];rfl,λq hq=> ?_⟩;rcases du.1 hq with rfl|hq
   ·exact⟨ha,hb⟩
   ·exact h5 q hq
  ·rintro⟨h1,h2⟩;obtain⟨ha,hb⟩:=h2 p (bO ..);exact⟨_,_,by rw[h1];rfl,⟨_,_,rfl,⟨rfl,ha⟩,⟨rfl,hb⟩⟩,Ep.2 ⟨rfl,λq hq=>h2 q (cu _ hq)⟩⟩
theorem Ba:∀xs:List Fo,(xs.flatMap foC).length=xs.length*2
 |[]=>rfl
 |p::xs=>by rw[sH,bM,Ba xs,cJ];show 2+_=_;omega
end Go.K
namespace Go.K
open Go.Proofs
namespace TKRMay
theorem apf:Enters Tryz.prog 112:=enters Tryz.func112 rfl Tg
end TKRMay
open TKRMay
set_option maxRecDepth 10000
theorem M8 {c:Int} (h:0<=c/\c<=1114111): -9223372036854775808<=ez c/\ez c<=9223372036854775807:=by unfold ez;split<;>omega
theorem Na (l:List UInt8):∀c∈dN l,0<=c/\c<=1114111:=by
 have key:∀n (l:List UInt8),l.length=n->∀c∈dN l,0<=c/\c<=1114111:=by
  intro n
  induction n using Nat.strongRecOn with
  |_ n ih=>
   intro l hn c hc;by_cases hl:l=[]
   ·subst hl;rw[l3]at hc;cases hc
   ·have hw:=jJ hl;rw[kN hl]at hc;rcases du.1 hc with rfl|hc
    ·have:=rz l;omega
    ·exact ih _ (by rw[cW];omega) _ rfl c hc
 exact key _ l G
def ri (sg:List Int) (k:Nat):List Int:=(sg.take k).map ez++sg.drop k
theorem rH (sg:List Int) (k:Nat):(ri sg k).length=sg.length:=by unfold ri;simp;omega
theorem Ss {sg:List Int} {k:Nat} {c:Int} (h:sg[k]? =some c):(ri sg k)[k]? =some c:=by
 have hk:=(an.1 h).1;unfold ri;rw[jN a11,bW,a7,yT q0,Nat.sub_self,iB,Nat.add_zero,h]
theorem JF {sg:List Int} {k:Nat} {c:Int} (h:sg[k]? =some c):(ri sg k).set k (ez c)=ri sg (k+1):=by
 have hk:=(an.1 h).1;have h1:((sg.take k).map ez).length=k:=by rw[bW,a7];omega
 unfold ri;rw[List.set_append_right _ _ q0,h1,Nat.sub_self,fp hk,List.set_cons_zero,bY,h];simp
theorem Nb {sg:List Int} {k:Nat} (h:sg.length<=k):ri sg k=sg.map ez:=by
 unfold ri;rw[bp h,jw h,eX]
theorem He {M:aM} {l:List UInt8} (w0:World) (hM:Lt M w0) (hl:l.length<=3900000):
  Spec Tryz.prog 112 #[.string ⟨l.toArray⟩] w0 (λv w=>v= .string ⟨(ic ((dN l).map ez)).toArray⟩/\Step M w0 M w aC):=by
 have gv:=hM;have rK:=gU l;refine bh (args:=[_]) (fn:=Tryz.f112) Tryz.func112 G (n:=23) Tryz.ntmps112 ?_;have S:Step M w0 M w0 aC:=aV;refine T.aQ (Rg.aZ G G (T.aQ (ab G G ?_)));refine aP G G X0 (zJ _ hM q0) (λvs ws hc=>?_);obtain⟨M1,pH,S1,ho⟩:=hc;refine Rg.aZ G G (aL (T.aQ (Rg.aZ G G (aX ?_))));refine dd (σ:=Nat×Value) (λq=>[(3,q.2),(4,.int .i64 (q.1:Int))]) (λq w=>q.1<=(dN l).length/\∃M1,Lt M1 w/\Step M w0 M1 w aC/\Own (RT.int .i64) 3 M1 w w0.heap.size q.2 (ri (dN l) q.1)) (λq=>(dN l).length-q.1) (0,vs) a71 ?_ ?_
 ·exact⟨a8 _,M1,pH,S1,by unfold ri;simpa using ho⟩
 ·clear pH S1 ho S hM;rintro⟨k,u⟩ w ⟨hk,M1,pH,S1,ho⟩;dsimp only at hk ho ⊢;refine aL (T.aQ (ab G G (ab G G (jq az G ho G (bg (v':= .int .i64 ((dN l).length:Int)) (by rw[rH]) (cx G G G (ad ?_)))))));refine bE G (λc3=>?_) (λc3=>?_)
  ·refine aS (aL (aX (aH (ab G G (ab G G (ab G G (ab G G ?_)))))));obtain⟨c,hc⟩:∃c,(dN l)[k]? =some c:=⟨_,aq q0⟩;have hcr:=Na l c (av hc);have hck:=Ss hc;refine Rg.adY az I3 Tg rfl rfl rfl ho (by rw[rH];omega) (λu54 x_ gp I6=>?_);rw[ar]at gp;obtain rfl:=aI (hck.symm.trans gp);refine Rg.adZ al G G G G G I6 (λv55 I7=>?_);obtain⟨rfl,_⟩:=NS.1 I7;refine aP G G acD (zF c _ hcr) (λr56 w56 hc=>?_);obtain⟨rfl,rfl⟩:=hc;obtain⟨g,cap,_,rfl,hmg,_,_⟩:=ho.elem Tg hck;refine Rg.wG az I3 rfl rfl rfl (by rw[rH];omega) ?_;refine Rg.aaJ (M:=M1) (a:=ez c) ⟨rfl,rfl⟩ I3 rfl rfl ho (by rw[ar,rH];omega) (hU (M8 hcr)) (λw6 Ag s6=>?_);rw[ar,JF hc]at Ag;refine ad (aH (ab G G (bu G G G q0 (Rg.aZ G G ?_))));refine⟨G,(k+1,_),a71,?_,?_⟩
   ·exact⟨by dsimp only;omega,M1,s6.lt pH,S1.cr s6 (λb hb=>by have hb:b=g:=hb;have:=(ho.base g rfl).1;omega),Ag⟩
   ·dsimp only;omega
  ·refine cN (T.aQ (ab G G ?_));rw[Nb q0]at ho;refine aP G G X3 (tn (M:=rm M1 u) _ (λb hb=>pH b hb.1) (ho.view (by rw[bW];omega)) (by rw[bW];omega)) (λr6 w6 hc=>?_);obtain⟨rfl,s6⟩:=hc;refine Rg.aZ G G (aJ ?_);exact aK G G ⟨G,S1.back.aw (s6.any M)⟩
theorem k3 {M:aM} {l:List UInt8} (w0:World) (hM:Lt M w0) (hl:l.length<=3900000):
  Spec Tryz.prog 59 #[.string ⟨l.toArray⟩] w0 (λv w=>v= .bool (cR l)/\Step M w0 M w aC):=by
 have gv:=hM;have rK:=gU l;refine bh (args:=[_]) (fn:=Tryz.f59) Tryz.func59 G (n:=35) Tryz.ntmps59 ?_;have S:Step M w0 M w0 aC:=aV;refine T.aQ (Rg.aZ G G (T.aQ (ab G G ?_)));refine aP G G X0 (xN _ hM q0) (λr1 w1 hc=>?_);obtain⟨hr,s1⟩:=hc;replace hM:=s1.lt hM;have:=S.size;replace S:=S.aw s1;refine Rg.aZ G G (aL (T.aQ (ab G G (bC az G hr G (fe G G G (ab G G ?_))))));refine aO (g:=11) G (λU8=>?_) (λU8=>?_)
 ·refine aj G G G G (aj G G G G (aj G G G G (aU G G G (ab G G (aj G G G G (aj G G G G (aj G G G G (aj G G G G (aU G G G (ad (kD G ?_)))))))))));refine T.aQ (Rg.aZ G G (aJ ?_))
  first
  |exact aK rfl rfl ⟨congrArg Value.bool al0,S⟩
  |exact aK rfl rfl ⟨congrArg Value.bool (by rw[ir];rintro⟨_,h,_⟩;omega),S⟩
  |exact aK rfl rfl ⟨congrArg Value.bool an1,S⟩
 ·refine ah G G (ab G G (ah G G (sI aA G G (bg (v':= .int .i64 (l.length:Int)) a84 (ah G G (eR G G G (aB G G G (ab G G ?_))))))));refine aO (g:=16) G (λZL=>?_) (λZL=>?_)
  ·refine aj G G G G (aj G G G G (aj G G G G (aj G G G G (aU G G G (ad (kD G (T.aQ (Rg.aZ G G (aJ ?_)))))))))
   first
   |exact aK rfl rfl ⟨congrArg Value.bool al0,S⟩
   |exact aK rfl rfl ⟨congrArg Value.bool (by rw[ir];rintro⟨_,h,_⟩;omega),S⟩
   |exact aK rfl rfl ⟨congrArg Value.bool an1,S⟩
  ·refine ah G G (ab G G (ah G G ?_));refine aP G G apf (He _ hM hl) (λayK ayL hc=>?_);obtain⟨rfl,aaK⟩:=hc;replace hr:=hr.le aaK.le;replace hM:=aaK.lt hM;have:=S.size;replace S:=S.aw aaK;refine ah G G (ab G G (ah G G (Rg.EM G G G (aB G G G (ad ?_)))));refine bE G (λc2=>?_) (λc2=>?_)
   ·refine T.aQ (Rg.aZ G G (aJ ?_))
    first
    |exact aK rfl rfl ⟨congrArg Value.bool al0,S⟩
    |exact aK rfl rfl ⟨congrArg Value.bool (by rw[ir];rintro⟨_,h,_⟩;omega),S⟩
    |exact aK rfl rfl ⟨congrArg Value.bool an1,S⟩
   ·have hf:dN l≠[]/\l.length<=30/\ic ((dN l).map ez)=l:=by
     first
     |exact⟨λe=>U8 ak0,by omega,ck.1 c2⟩
     |(exfalso;exact c2 trivial)
     |(exfalso;exact c2 G)
    refine aS (aL (T.aQ (Rg.aZ G G (aX ?_))));refine dd (σ:=Nat) (λk=>[(3,r1),(4,.int .i64 (k:Int))]) (λk w=>k<=(dN l).length/\Lt M w/\Step M w0 M w aC/\((RT.int .i64).sl).V M w (dN l) r1/\∀(j:Nat) c,j<k->(dN l)[j]? =some c->ph c=true) (λk=>(dN l).length-k) 0 a71 ?_ ?_
    ·exact⟨a8 _,hM,S,hr,λj c h=>absurd h (ec _)⟩
    ·clear hM S hr;rintro k w ⟨hk,hM,S,hr,gD⟩;refine aL (T.aQ (ab G G (ab G G (bC az G hr G (cx G G G (ad ?_))))));refine bE G (λc5=>?_) (λc5=>?_)
     ·refine aS (aL (aX (T.aQ (ab G G (ab G G ?_)))));obtain⟨c,hc⟩:∃c,(dN l)[k]? =some c:=⟨_,aq q0⟩;refine cC az I3 G G G hr bS q0 (λu72 x_ gp aaL=>?_);rw[ar]at gp;obtain rfl:=aI (hc.symm.trans gp);refine bV al G G aaL bS (λlJ=>?_);refine aP G G X1 (zG c _) (λr wc hc=>?_);obtain⟨rfl,rfl⟩:=hc;refine Rg.aZ rfl rfl (T.aQ (ab rfl rfl (fV rfl rfl (bg (v':= .bool (decide (ph c=false))) (by cases ph c<;>rfl) (ad ?_)))));refine bE G (λc8=>?_) (λc8=>?_)
      ·refine T.aQ (Rg.aZ G G (aJ ?_));exact aK rfl rfl ⟨congrArg Value.bool (by rw[ir];rintro⟨_,_,_,h⟩;have:=h c (av hc);rw[c8]at this;cases this),S⟩
      ·refine aS (aH (ab G G (bu G G G q0 (Rg.aZ G G ?_))));refine⟨G,k+1,a71,?_,?_⟩
       ·refine ⟨by omega,hM,S,hr,λj x hj hx=> ?_⟩;rcases cH j k with h|h
        ·exact gD j x h hx
        ·obtain rfl:j=k:=by omega
         rw[hc]at hx;cases hx;simpa using c8
       ·omega
     ·refine cN (T.aQ (Rg.aZ G G (aJ ?_)));exact aK rfl rfl ⟨congrArg Value.bool ((AT l).2 ⟨hf.1,hf.2.1,hf.2.2,λc hc=>by obtain⟨j,hj⟩:=bK.1 hc;exact gD j c aa7 hj⟩).symm,S⟩
end Go.K
namespace Go.K
open Go.Proofs
namespace TKR12A
theorem rG:TI Tryz.prog 26 (.slice none 0 0) 1 24:=by unfold TI;kernel_rfl
theorem gg:TI Tryz.prog 28 (.agg #[(.int .i64 0),(.string ⟨#[]⟩),(.string ⟨#[]⟩),(.slice none 0 0),(.slice none 0 0)]) 5 88:=by unfold TI;kernel_rfl
theorem E59:Enters Tryz.prog 59:=enters Tryz.func59 rfl Tg
theorem agm:Enters Tryz.prog 110:=enters Tryz.func110 rfl Tg
theorem apg:Enters Tryz.prog 169:=enters Tryz.func169 rfl Tg
theorem aph:Enters Tryz.prog 228:=enters Tryz.func228 rfl Tg
end TKR12A
open TKR12A
set_option maxRecDepth 10000
theorem Hf {M:aM} {t:Fd} {v:Value} (w0:World) (hM:Lt M w0) (hv:RT.fd.V M w0 t v):
  Spec Tryz.prog 228 #[v] w0 (λv w=>v= .bool (decide (t=([],[])))/\Step M w0 M w aC):=by
 refine bh (args:=[_]) (fn:=Tryz.f228) Tryz.func228 G (n:=11) Tryz.ntmps228 ?_;have S:Step M w0 M w0 aC:=aV;refine T.aQ ?_;refine ef (A:=RT.fd) (a:=t) G G hM hv G (λu1 w1 gh s0 _=>?_);replace hv:=hv.le s0.le;replace hM:=s0.lt hM;have:=S.size;replace S:=S.aw s0;refine Rg.aZ G G (T.aQ ?_);refine ao (A:=RT.fd) (B:=RT.str) br G G I9 Tg EF G G Tg gh bS (λH4 lY=>?_);refine bB aA G G G G G lY bS (λv11 Ek=>?_);obtain rfl:=dS Ek;refine Rg.tT (p:=t.1) (q:=[]) G G G (ab G G ?_);refine aO (g:=6) G (λju=>?_) (λju=>?_)
 ·refine ah G G ?_;refine ao (A:=RT.fd) (B:=RT.str) br G G I9 Tg Lz G G Tg gh bS (λMu qY=>?_);refine ah G G ?_;refine bB aA G G G G G qY bS (λv15 Vp=>?_);obtain rfl:=dS Vp;refine ah G G (Rg.tT (p:=t.2) (q:=[]) G G G (aU G G G (Rg.aZ G G (aJ ?_))))
  first
  |exact al3
  |exact aK G G ⟨congrArg Value.bool (decide_eq_false (λh=>ju (by rw[h]))).symm,S⟩
 ·refine aj G G G G (aj G G G G (aj G G G G (aB G G G (Rg.aZ G G (aJ ?_)))))
  first
  |exact al3
  |exact aK G G ⟨congrArg Value.bool (decide_eq_false (λh=>ju (by rw[h]))).symm,S⟩
theorem W4 {a b c:Prop} [Decidable a] [Decidable b] [Decidable c] (h:a):some (Value.bool true)=some (Value.bool (decide (a\/b\/c))):=by rw[decide_eq_true (Or.inl h)]
theorem W5 {a b c:Prop} [Decidable a] [Decidable b] [Decidable c] (h:b):some (Value.bool true)=some (Value.bool (decide (a\/b\/c))):=by rw[decide_eq_true (Or.inr (Or.inl h))]
theorem J3c {a b c:Prop} [Decidable a] [Decidable b] [Decidable c] (h: ¬a) (h2: ¬b):some (Value.bool (decide c))=some (Value.bool (decide (a\/b\/c))):=congrArg _ (congrArg _ (decide_eq_decide.2 ⟨λx=> .inr (.inr x),λx=>x.elim (λy=>absurd y h) λx=>x.elim (λy=>absurd y h2) id⟩))
theorem J3d {a b k c:Prop} [Decidable a] [Decidable b] [Decidable k] [Decidable c] (h: ¬a) (h2: ¬b) (h3:k):some (Value.bool (decide c))=some (Value.bool (decide (a\/b\/k/\c))):=congrArg _ (congrArg _ (decide_eq_decide.2 ⟨λx=> .inr (.inr ⟨h3,x⟩),λx=>x.elim (λy=>absurd y h) λx=>x.elim (λy=>absurd y h2) And.right⟩))
theorem Tf {a b c:Prop} [Decidable a] [Decidable b] [Decidable c] (h: ¬a) (h2: ¬b) (h3: ¬c):some (Value.bool false)=some (Value.bool (decide (a\/b\/c))):=congrArg _ (congrArg _ (decide_eq_false λx=>x.elim h λx=>x.elim h2 h3).symm)
theorem aaN {α:Type} {l:List α} (h: ¬0<(l.length:Int)):l=[]:=cB.1 q0
theorem ago {α:Type} {l:List α} (h:0<(l.length:Int)): ¬l=[]:=λe=>by rw[e]at h;simp at h
theorem apk {k:Int} {t:Fd} {ws:List (List UInt8)} {n:Nat} (h:k<1\/5<k):iR k t ws n=9:=by unfold iR;rw[if_pos h]
theorem apl {k:Int} {t:Fd} {ws:List (List UInt8)} {n:Nat} (h1:2<=k/\k<=4) (h: ¬t=([],[])\/¬ws=[]\/n=0):iR k t ws n=9:=by unfold iR;rw[if_neg q0,if_pos h1,if_pos h]
theorem agp {k:Int} {t:Fd} {ws:List (List UInt8)} {n:Nat} (h1:2<=k/\k<=4) (h: ¬(¬t=([],[])\/¬ws=[]\/n=0)):iR k t ws n=if 8<n\/(k=4/\1<n)then 7 else 0:=by unfold iR;rw[if_neg q0,if_pos h1,if_neg h]
theorem apm {k:Int} {t:Fd} {ws:List (List UInt8)} {n:Nat} (h0:1<=k/\k<=5) (h1: ¬(2<=k/\k<=4)) (h:0<n\/(k=1/\¬ws=[])\/(k=5/\¬t.2=[])):iR k t ws n=9:=by unfold iR;rw[if_neg q0,if_neg h1,if_pos h]
theorem JG {k:Int} {t:Fd} {ws:List (List UInt8)} {n:Nat} (h0:1<=k/\k<=5) (h1: ¬(2<=k/\k<=4)) (h: ¬(0<n\/(k=1/\¬ws=[])\/(k=5/\¬t.2=[]))):iR k t ws n=if eA t.1=false then 4 else if k=1 then(if cR t.2=true then 0 else 9)else if ws=[]then 9 else if ws.all cR=false then 9 else if 6<ws.length then 7 else 0:=by unfold iR;rw[if_neg q0,if_neg h1,if_neg h]
set_option maxHeartbeats 4000000 in
theorem Nc {M:aM} {n:Nat} {q:Qy} {v:Value} (w0:World) (hM:Lt M w0) (hv:(RT.qy (n+1)).V M w0 q v) (Lj:SzO q.term q.words):
  Spec Tryz.prog 169 #[v] w0 (λv w=>v= .int .i64 (iR q.kind q.term q.words q.kids.length)/\Step M w0 M w aC):=by
 have gv:=hM;have qA:=hv;refine bh (args:=[_]) (fn:=Tryz.f169) Tryz.func169 G (n:=120) Tryz.ntmps169 ?_;have S:Step M w0 M w0 aC:=aV;refine T.aQ ?_;refine ef (A:=RT.qy (n+1)) (a:=q) G G hM hv (dK _) (λu1 Eg gh iA _=>?_);replace hv:=hv.le iA.le;replace hM:=iA.lt hM;have:=S.size;replace S:=S.aw iA;refine Rg.aZ G G (aL ?_);refine lB [(1,u1),(15,.bool (decide (q.kind<1\/q.kind>5)))] ?_ ?_
 ·refine aH ?_;refine ao (A:=RT.qy (n+1)) (B:=RT.int .i64) ak G G I3 Tg (yK n) G G (aG _) gh bS (λzX kG=>?_);refine bV al G G kG bS (λagq=>?_);refine bg (v':= .int .i64 q.kind) G (cx G G G (ab G G ?_));refine aO (g:=11) G (λju=>?_) (λju=>?_)
  ·refine aj G G G G (aj G G G G (aj G G G G (aU G G G (ad ?_))));exact⟨rfl,rfl,rfl,.cons rfl a06⟩
  ·refine ah G G ?_;refine ao (A:=RT.qy (n+1)) (B:=RT.int .i64) ak G G I3 Tg (yK n) G G (aG _) gh bS (λT4 agr=>?_);refine ah G G ?_;refine bV al G G agr bS (λags=>?_);refine bg (v':= .int .i64 q.kind) G (ah G G (eR G G G (aB G G G (ad ?_))));exact⟨rfl,rfl,rfl,.cons rfl a06⟩
 ·refine bE G (λc1=>?_) (λc1=>?_)
  ·refine T.aQ (Rg.aZ G G (aJ ?_));exact aK G G ⟨congrArg _ (cD (apk q0)),S⟩
  ·have W6:1<=q.kind/\q.kind<=5:=by omega
   refine aS (T.aQ ?_);refine ao (A:=RT.qy (n+1)) (B:=RT.fd) ak G G kF Tg (BG n) G G (aG _) gh bS (λu30 RB=>?_);refine bN (A:=RT.fd) br G kF Tg G G G RB bS (λv31 MM=>?_);refine aP G G aph (Hf _ hM MM) (λr32 w32 hc=>?_);obtain⟨rfl,s32⟩:=hc;replace gh:=gh.le (aG _) s32.le;replace hM:=s32.lt hM;have:=S.size;replace S:=S.aw s32;refine Rg.aZ G G (T.aQ ?_);refine ao (A:=RT.qy (n+1)) (B:=RT.fd) ak G G kF Tg (BG n) G G (aG _) gh bS (λu40 I2=>?_);refine ao (A:=RT.fd) (B:=RT.str) br G G I9 Tg EF G G Tg I2 bS (λu41 apo=>?_);refine bB aA G G G G G apo bS (λv42 apq=>?_);obtain rfl:=dS apq;obtain⟨_,_,_,_,rW,_,_⟩:=mF qA;refine aP G G E58 (px q.term.1 rW.1 _) (λr43 w43 hc=>?_);obtain⟨rfl,rfl⟩:=hc;refine Rg.aZ G G (aL ?_);refine lB [(1,u1),(3,.bool (decide (q.term=([],[])))),(4,.bool (eA q.term.1)),(30,.bool (decide (q.kind>=2/\q.kind<=4)))] ?_ ?_
   ·refine aH ?_;refine ao (A:=RT.qy (n+1)) (B:=RT.int .i64) ak G G I3 Tg (yK n) G G (aG _) gh bS (λZi CE=>?_);refine bV al G G CE bS (λagt=>?_);refine bg (v':= .int .i64 q.kind) G (eB G G G (ab G G ?_));refine aO (g:=26) G (λqn=>?_) (λqn=>?_)
    ·refine ah G G ?_;refine ao (A:=RT.qy (n+1)) (B:=RT.int .i64) ak G G I3 Tg (yK n) G G (aG _) gh bS (λacY agu=>?_);refine ah G G ?_;refine bV al G G agu bS (λagv=>?_);refine bg (v':= .int .i64 q.kind) G (ah G G (fM G G G (aU G G G (ad ?_))));exact⟨rfl,rfl,rfl,.cons rfl (.cons rfl (.cons rfl a06))⟩
    ·refine aj G G G G (aj G G G G (aj G G G G (aB G G G (ad ?_))));exact⟨rfl,rfl,rfl,.cons rfl (.cons rfl (.cons rfl a06))⟩
   ·refine bE G (λc5=>?_) (λc5=>?_)
    ·have NL:2<=q.kind/\q.kind<=4:=by omega
     refine aL ?_;refine lB [(1,u1),(3,.bool (decide (q.term=([],[])))),(4,.bool (eA q.term.1)),(44,.bool (decide ((¬q.term=([],[]))\/(0<(q.words.length:Int))\/(q.kids.length:Int)=0)))] ?_ ?_
     ·refine aH (ab G G (fV G G (bg (v':= .bool (decide (¬q.term=([],[])))) (by simp) (ab G G ?_))));refine aO (g:=33) G (λzK=>?_) (λzK=>?_)
      ·refine aj G G G G (aj G G G G (aj G G G G (aj G G G G (aU G G G (ab G G (aj G G G G (aj G G G G (aj G G G G (aj G G G G (aU G G G (ad ?_)))))))))));exact⟨G,G,G,.cons G ab5⟩
      ·refine ah G G ?_;refine ao (A:=RT.qy (n+1)) (B:=(RT.str.sl)) ak G G rA Tg (EG n) G G (aG _) gh bS (λayN agw=>?_);refine ah G G ?_;refine bB ax G G G G G agw bS (λafZ KR=>?_);refine ah G G ?_;have H5:=cU KR;refine bC ax G KR G (ah G G (eR G G G (aB G G G (ab G G ?_))));refine aO (g:=39) G (λJH=>?_) (λJH=>?_)
       ·refine aj G G G G (aj G G G G (aj G G G G (aj G G G G (aU G G G (ad ?_)))));exact⟨G,G,G,.cons G ab5⟩
       ·refine ah G G ?_;refine ao (A:=RT.qy (n+1)) (B:=((RT.qy n).sl (aG n))) ak G G rG Nat.one_pos (Bv n) G G (aG _) gh bS (λayO agx=>?_);refine ah G G ?_;refine bB bD G G G G G agx bS (λati St=>?_);refine ah G G ?_;have zg:=cU St;refine bC (A:=RT.qy n) (hn:=aG _) bD G St G (ah G G (fe G G G (aB G G G (ad ?_))));exact⟨G,G,G,.cons G ab5⟩
     ·refine bE G (λc6=>?_) (λc6=>?_)
      ·refine T.aQ (Rg.aZ G G (aJ ?_));exact aK G G ⟨congrArg _ (cD (apl NL (c6.elim .inl λh=>h.elim (λh=> .inr (.inl (ago h))) λh=> .inr (.inr q0)))),S⟩
      ·have hB: ¬(¬q.term=([],[])\/¬q.words=[]\/q.kids.length=0):=by
        rintro(h|h|h)
        ·exact c6 (.inl h)
        ·exact h (aaN λh2=>c6 (.inr (.inl h2)))
        ·exact c6 (.inr (.inr q0))
       refine aS (aL ?_);refine lB [(1,u1),(59,.bool (decide ((q.kids.length:Int)>8\/(q.kind=4/\(q.kids.length:Int)>1))))] ?_ ?_
       ·refine aH ?_;refine ao (A:=RT.qy (n+1)) (B:=((RT.qy n).sl (aG n))) ak G G rG Nat.one_pos (Bv n) G G (aG _) gh bS (λamP WA=>?_);refine bB bD G G G G G WA bS (λaeF CG=>?_);have zg:=cU CG;refine bC (A:=RT.qy n) (hn:=aG _) bD G CG G (eR G G G (ab G G ?_));refine aO (g:=49) G (λaai=>?_) (λaai=>?_)
        ·refine aj G G G G (aj G G G G (aj G G G G (aj G G G G (cp G G G (cp G G G (cp G G G (cp G G G (aj G G G G (aU G G G (ad ?_))))))))));exact⟨rfl,rfl,rfl,.cons rfl a06⟩
        ·refine ah G G ?_;refine ao (A:=RT.qy (n+1)) (B:=RT.int .i64) ak G G I3 Tg (yK n) G G (aG _) gh bS (λadW agy=>?_);refine ah G G ?_;refine bV al G G agy bS (λagz=>?_);refine bg (v':= .int .i64 q.kind) G (ah G G (fe G G G (ah G G (ab G G ?_))));refine aO (g:=53) G (λapr=>?_) (λapr=>?_)
         ·refine ah G G ?_;refine ao (A:=RT.qy (n+1)) (B:=((RT.qy n).sl (aG n))) ak G G rG Nat.one_pos (Bv n) G G (aG _) gh bS (λayP agA=>?_);refine ah G G ?_;refine bB bD G G G G G agA bS (λatj Su=>?_);refine ah G G ?_;have zg:=cU Su;refine bC (A:=RT.qy n) (hn:=aG _) bD G Su G (ah G G (eR G G G (ah G G (aU G G G (aB G G G (ad ?_))))));exact⟨rfl,rfl,rfl,.cons rfl a06⟩
         ·refine aj G G G G (aj G G G G (aj G G G G (aj G G G G (ah G G (aB G G G (aB G G G (ad ?_)))))));exact⟨rfl,rfl,rfl,.cons rfl a06⟩
       ·refine bE G (λc8=>?_) (λc8=>?_)
        ·refine T.aQ (Rg.aZ G G (aJ ?_));exact aK G G ⟨congrArg _ (cD ((agp NL hB).trans (if_pos q0))),S⟩
        ·refine aS (T.aQ (Rg.aZ G G (aJ ?_)));exact aK G G ⟨congrArg _ (cD ((agp NL hB).trans (if_neg q0))),S⟩
    ·have NL: ¬(2<=q.kind/\q.kind<=4):=by omega
     refine aS (aL ?_);refine lB [(1,u1),(3,.bool (decide (q.term=([],[])))),(4,.bool (eA q.term.1)),(85,.bool (decide ((0<(q.kids.length:Int))\/(q.kind=1/\0<(q.words.length:Int))\/(q.kind=5/\¬q.term.2=[]))))] ?_ ?_
     ·refine aH ?_;refine ao (A:=RT.qy (n+1)) (B:=((RT.qy n).sl (aG n))) ak G G rG Nat.one_pos (Bv n) G G (aG _) gh bS (λPn DM=>?_);refine bB bD G G G G G DM bS (λWB xf=>?_);have zg:=cU xf;refine bC (A:=RT.qy n) (hn:=aG _) bD G xf G (eR G G G (ab G G ?_));refine aO (g:=64) G (λjV=>?_) (λjV=>?_)
      ·refine aj G G G G (aj G G G G (aj G G G G (aj G G G G (cp G G G (cp G G G (cp G G G (cp G G G (aj G G G G (aU G G G (ab G G (aj G G G G ?_)))))))))));refine aj G G G G (aj G G G G (aj G G G G (cp G G G (cp G G G (cp G G G (cp G G G (aj G G G G (aU G G G (ad ?_)))))))));exact⟨G,G,G,.cons G a15⟩
      ·refine ah G G ?_;refine ao (A:=RT.qy (n+1)) (B:=RT.int .i64) ak G G I3 Tg (yK n) G G (aG _) gh bS (λaeA QC=>?_);refine ah G G ?_;refine bV al G G QC bS (λabQ=>?_);refine bg (v':= .int .i64 q.kind) G (ah G G (fe G G G (ah G G (ab G G ?_))));refine aO (g:=68) G (λlQ=>?_) (λlQ=>?_)
       ·refine ah G G ?_;refine ao (A:=RT.qy (n+1)) (B:=(RT.str.sl)) ak G G rA Tg (EG n) G G (aG _) gh bS (λacW zL=>?_);refine ah G G ?_;refine bB ax G G G G G zL bS (λIG pK=>?_);refine ah G G ?_;have H5:=cU pK;refine bC ax G pK G (ah G G (eR G G G (ah G G (aU G G G (aB G G G (ab G G ?_))))));refine aO (g:=75) G (λmT=>?_) (λmT=>?_)
        ·refine aj G G G G (aj G G G G (aj G G G G (aj G G G G (cp G G G (cp G G G (cp G G G (cp G G G (aj G G G G (aU G G G (ad ?_))))))))));exact⟨G,G,G,.cons G a15⟩
        ·refine ah G G ?_;refine ao (A:=RT.qy (n+1)) (B:=RT.int .i64) ak G G I3 Tg (yK n) G G (aG _) gh bS (λaaO Er=>?_);refine ah G G ?_;refine bV al G G Er bS (λJI=>?_);refine bg (v':= .int .i64 q.kind) G (ah G G (fe G G G (ah G G (ab G G ?_))));refine aO (g:=79) G (λjj=>?_) (λjj=>?_)
         ·exfalso;omega
         ·refine aj G G G G (aj G G G G (aj G G G G (aj G G G G (ah G G (aB G G G (aB G G G (ad ?_)))))));exact⟨G,G,G,.cons G a15⟩
       ·refine aj G G G G (aj G G G G (aj G G G G (aj G G G G (ah G G (aB G G G (aB G G G (ab G G (ah G G ?_))))))));refine ao (A:=RT.qy (n+1)) (B:=RT.int .i64) ak G G I3 Tg (yK n) G G (aG _) gh bS (λaaO Er=>?_);refine ah G G ?_;refine bV al G G Er bS (λJI=>?_);refine bg (v':= .int .i64 q.kind) G (ah G G (fe G G G (ah G G (ab G G ?_))));refine aO (g:=79) G (λjj=>?_) (λjj=>?_)
        ·refine ah G G ?_;refine ao (A:=RT.qy (n+1)) (B:=RT.fd) ak G G kF Tg (BG n) G G (aG _) gh bS (λaps Vq=>?_);refine ah G G ?_;refine ao (A:=RT.fd) (B:=RT.str) br G G I9 Tg Lz G G Tg Vq bS (λY4 D0=>?_);refine ah G G ?_;refine bB aA G G G G G D0 bS (λapt Vr=>?_);obtain rfl:=dS Vr;refine ah G G (Rg.EM (p:=q.term.2) (q:=[]) G G G (ah G G (aU G G G (aB G G G (ad ?_)))));exact⟨G,G,G,.cons G a15⟩
        ·refine aj G G G G (aj G G G G (aj G G G G (aj G G G G (ah G G (aB G G G (aB G G G (ad ?_)))))));exact⟨G,G,G,.cons G a15⟩
     ·refine bE G (λux=>?_) (λux=>?_)
      ·refine T.aQ (Rg.aZ G G (aJ ?_));exact aK G G ⟨congrArg _ (cD (apm W6 NL (ux.elim (λh=> .inl q0) λh=>h.elim (λh=> .inr (.inl ⟨h.1,ago h.2⟩)) λh=> .inr (.inr h)))),S⟩
      ·have hE: ¬(0<q.kids.length\/(q.kind=1/\¬q.words=[])\/(q.kind=5/\¬q.term.2=[])):=by
        rintro(h|⟨h,h'⟩|⟨h,h'⟩)
        ·exact ux (.inl q0)
        ·exact h' (aaN λh2=>ux (.inr (.inl ⟨h,h2⟩)))
        ·exact ux (.inr (.inr ⟨h,h'⟩))
       refine aS (aL (T.aQ (ab rfl rfl (fV rfl rfl (bg (v':= .bool (decide (eA q.term.1=false))) (by cases eA q.term.1<;>rfl) (ad ?_))))));refine bE G (λxS=>?_) (λxS=>?_)
       ·refine T.aQ (Rg.aZ G G (aJ ?_));exact aK G G ⟨congrArg _ (cD ((JG W6 NL hE).trans (if_pos xS))),S⟩
       ·refine aS (aL (T.aQ ?_));refine ao (A:=RT.qy (n+1)) (B:=RT.int .i64) ak G G I3 Tg (yK n) G G (aG _) gh bS (λadq Pg=>?_);refine bV al G G Pg bS (λabR=>?_);refine bg (v':= .int .i64 q.kind) G (fe G G G (ad ?_));refine bE G (λFq=>?_) (λFq=>?_)
        ·refine T.aQ ?_;refine ao (A:=RT.qy (n+1)) (B:=RT.fd) ak G G kF Tg (BG n) G G (aG _) gh bS (λayQ agB=>?_);refine ao (A:=RT.fd) (B:=RT.str) br G G I9 Tg Lz G G Tg agB bS (λayR agC=>?_);refine bB aA G G G G G agC bS (λv162 agD=>?_);obtain rfl:=dS agD;refine aP G G E59 (k3 _ hM Lj.t2) (λayS ayT hc=>?_);obtain⟨rfl,aaP⟩:=hc;replace gh:=gh.le (aG _) aaP.le;replace hM:=aaP.lt hM;have:=S.size;replace S:=S.aw aaP;refine Rg.aZ rfl rfl (aL (T.aQ (ab rfl rfl (fV rfl rfl (bg (v':= .bool (decide (cR q.term.2=false))) ai2 (ad ?_))))));refine bE G (λc17=>?_) (λc17=>?_)
         ·refine T.aQ (Rg.aZ G G (aJ ?_));exact aK rfl rfl ⟨congrArg _ (cD ((JG W6 NL hE).trans (by rw[if_neg xS,if_pos Fq,if_neg (by rw[c17];decide)]))),S⟩
         ·refine aS (T.aQ (Rg.aZ G G (aJ ?_)));exact aK G G ⟨congrArg _ (cD ((JG W6 NL hE).trans (by rw[if_neg xS,if_pos Fq,if_pos (by simpa using c17)]))),S⟩
        ·refine aS (aL (T.aQ ?_));refine ao (A:=RT.qy (n+1)) (B:=(RT.str.sl)) ak G G rA Tg (EG n) G G (aG _) gh bS (λatk aaQ=>?_);refine bB ax G G G G G aaQ bS (λatl Sv=>?_);have H5:=cU Sv;refine bC ax G Sv G (fe G G G (ad ?_));refine bE G (λc20=>?_) (λc20=>?_)
         ·refine T.aQ (Rg.aZ G G (aJ ?_));exact aK rfl rfl ⟨congrArg _ (cD ((JG W6 NL hE).trans (by rw[if_neg xS,if_neg Fq,if_pos (cB.1 q0)]))),S⟩
         ·refine aS (aL (T.aQ (Rg.aZ G G (aX ?_))));refine dd (σ:=Nat) (λi=>[(1,u1),(6,.int .i64 (i:Int))]) (λi w=>i<=q.words.length/\Lt M w/\Step M w0 M w aC/\cO (RT.qy (n+1)) M w u1 q/\∀(j:Nat) x,j<i->q.words[j]? =some x->cR x=true) (λi=>q.words.length-i) 0 a71 ?_ ?_
          ·exact⟨a8 _,hM,S,gh,λj x h=>absurd h (ec _)⟩
          ·clear hM S gh;rintro i w ⟨hi,hM,S,gh,gD⟩;refine aL (T.aQ (ab G G ?_));refine ao (A:=RT.qy (n+1)) (B:=(RT.str.sl)) ak G G rA Tg (EG n) G G (aG _) gh bS (λatm aaR=>?_);refine bB ax G G G G G aaR bS (λatn Sw=>?_);have H5:=cU Sw;refine bC ax G Sw G (cx G G G (ad ?_));refine bE G (λc23=>?_) (λc23=>?_)
           ·refine aS (aL (aX (T.aQ ?_)));refine ao (A:=RT.qy (n+1)) (B:=(RT.str.sl)) ak G G rA Tg (EG n) G G (aG _) gh bS (λayV agE=>?_);refine bB ax G G G G G agE bS (λayW agF=>?_);refine ab G G ?_;obtain⟨x,hx⟩:∃x,q.words[i]? =some x:=⟨_,aq q0⟩;refine cC ax I9 G G G agF bS q0 (λayX x_ gp agG=>?_);rw[ar]at gp;obtain rfl:=aI (hx.symm.trans gp);refine bB aA G G G G G agG bS (λayY agH=>?_);obtain rfl:=dS agH;refine aP G G E59 (k3 _ hM (Lj.w x (av hx))) (λayZ ay0 hc=>?_);obtain⟨rfl,aaS⟩:=hc;replace gh:=gh.le (aG _) aaS.le;replace hM:=aaS.lt hM;have:=S.size;replace S:=S.aw aaS;refine Rg.aZ rfl rfl (T.aQ (ab rfl rfl (fV rfl rfl (bg (v':= .bool (decide (cR x=false))) (by cases cR x<;>rfl) (ad ?_)))));refine bE G (λc26=>?_) (λc26=>?_)
            ·refine T.aQ (Rg.aZ G G (aJ ?_));exact aK rfl rfl ⟨congrArg _ (cD ((JG W6 NL hE).trans (by rw[if_neg xS,if_neg Fq,if_neg (λe=>c20 ak0),if_pos (List.all_eq_false.2 ⟨x,av hx,by rw[c26];decide⟩)]))),S⟩
            ·refine aS (aH (ab G G (bu G G G q0 (Rg.aZ G G ?_))));refine⟨G,i+1,a71,?_,?_⟩
             ·refine ⟨by omega,hM,S,gh,λj y hj hy=> ?_⟩;rcases cH j i with h|h
              ·exact gD j y h hy
              ·obtain rfl:j=i:=by omega
               rw[hx]at hy;cases hy;simpa using c26
             ·omega
           ·refine cN (aL (T.aQ ?_));refine ao (A:=RT.qy (n+1)) (B:=(RT.str.sl)) ak G G rA Tg (EG n) G G (aG _) gh bS (λato aaT=>?_);refine bB ax G G G G G aaT bS (λatp Sx=>?_);have H5:=cU Sx;refine bC ax G Sx G (eR G G G (ad ?_));refine bE G (λc28=>?_) (λc28=>?_)
            ·refine T.aQ (Rg.aZ G G (aJ ?_));exact aK rfl rfl ⟨congrArg _ (cD ((JG W6 NL hE).trans (by rw[if_neg xS,if_neg Fq,if_neg (λe=>c20 ak0),if_neg (by rw[dZ.2 λx hx=>by obtain⟨j,hj⟩:=bK.1 hx;exact gD j x aa7 hj];decide),if_pos q0]))),S⟩
            ·refine aS (T.aQ (Rg.aZ G G (aJ ?_)));exact aK rfl rfl ⟨congrArg _ (cD ((JG W6 NL hE).trans (by rw[if_neg xS,if_neg Fq,if_neg (λe=>c20 ak0),if_neg (by rw[dZ.2 λx hx=>by obtain⟨j,hj⟩:=bK.1 hx;exact gD j x aa7 hj];decide),if_neg q0]))),S⟩
theorem C5 {M:aM} {n:Nat} {q:Qy} {v:Value} {deep:Nat} (w0:World) (hM:Lt M w0) (hv:(RT.qy (n+1)).V M w0 q v) (hs:CW q) (hd:deep<=1000) (ih:∀x∈q.kids,∀(deep:Nat) (M:aM) (w:World) (v:Value),Lt M w->(RT.qy n).V M w x v->deep<=7->Spec Tryz.prog 110 #[v,.int .i64 (deep:Int)] w (λv' w'=>v'= .int .i64 (fP x deep)/\Step M w M w' aC)):
  Spec Tryz.prog 110 #[v,.int .i64 (deep:Int)] w0 (λv w=>v= .int .i64 (fP q deep)/\Step M w0 M w aC):=by
 have gv:=hM;obtain⟨Lj,hsk⟩:=WU.1 hs;have G4:=KU q.kind q.term q.words q.kids.length;refine bh (args:=[_,_]) (fn:=Tryz.f110) Tryz.func110 G (n:=33) Tryz.ntmps110 ?_;have S:Step M w0 M w0 aC:=aV;refine T.aQ ?_;refine ef (A:=RT.qy (n+1)) (a:=q) G G hM hv (dK _) (λu2 Eg dY iA _=>?_);replace hv:=hv.le iA.le;replace hM:=iA.lt hM;have:=S.size;replace S:=S.aw iA;refine Rg.aZ G G (aL (T.aQ (ab G G (eR G G G (ad ?_)))));refine bE G (λc1=>?_) (λc1=>?_)
 ·refine T.aQ (Rg.aZ G G (aJ ?_));exact aK rfl rfl ⟨by rw[jY q deep,if_pos q0],S⟩
 ·refine aS (T.aQ ?_);refine bN (A:=RT.qy (n+1)) ak G (IQ gg _) (aG _) (dK _) G G dY bS (λv30 aaU=>?_);refine aP G G apg (Nc _ hM aaU Lj) (λr31 w31 hc=>?_);obtain⟨rfl,s31⟩:=hc;replace dY:=dY.le (aG _) s31.le;replace hM:=s31.lt hM;have:=S.size;replace S:=S.aw s31;refine Rg.aZ G G (aL (T.aQ (ab G G (fm G G G (ad ?_)))));refine bE G (λc4=>?_) (λc4=>?_)
  ·refine T.aQ (ab G G (Rg.aZ G G (aJ ?_)));exact aK rfl rfl ⟨by rw[jY q deep,if_neg q0,if_pos c4],S⟩
  ·refine aS (aL (T.aQ (Rg.aZ G G (aX ?_))));refine dd (σ:=Nat) (λi=>[(1,.int .i64 (deep:Int)),(2,u2),(6,.int .i64 (i:Int))]) (λi w=>i<=q.kids.length/\(∀(j:Nat) y,j<i->q.kids[j]? =some y->fP y (deep+1)=0)/\Lt M w/\Step M w0 M w aC/\cO (RT.qy (n+1)) M w u2 q) (λi=>q.kids.length-i) 0 a07 ?_ ?_
   ·exact⟨a8 _,λj y h=>absurd h (ec _),hM,S,dY⟩
   ·clear hM S dY;rintro i w ⟨hi,gD,hM,S,dY⟩;refine aL (T.aQ (ab G G ?_));refine ao (A:=RT.qy (n+1)) (B:=((RT.qy n).sl (aG n))) ak G G rG Nat.one_pos (Bv n) G G (aG _) dY bS (λu71 Sg=>?_);refine bB bD G G G G G Sg bS (λv72 Vk=>?_);have zg:=cU Vk;refine bC (A:=RT.qy n) (hn:=aG _) bD G Vk G (cx G G G (ad ?_));refine bE G (λc7=>?_) (λc7=>?_)
    ·refine aS (aL (aX (T.aQ ?_)));refine ao (A:=RT.qy (n+1)) (B:=((RT.qy n).sl (aG n))) ak G G rG Nat.one_pos (Bv n) G G (aG _) dY bS (λu90 R8=>?_);refine bB bD G G G G G R8 bS (λv91 tJ=>?_);refine ab G G ?_;obtain⟨x,hx⟩:∃x,(q.kids)[i]? =some x:=⟨_,aq q0⟩;refine cC (A:=RT.qy n) (hn:=aG _) (M:=M) bD (IQ gg _) G G G tJ bS q0 (λu93 x_ gp apw=>?_);rw[ar]at gp;obtain rfl:=aI (hx.symm.trans gp);refine bN (A:=RT.qy (n)) ak G (IQ gg _) (aG _) (dK _) G G apw bS (λv94 apx=>?_);refine ab G G (bu G G G q0 (bg (v':= .int .i64 ((deep+1:Nat):Int)) (by congr 1) ?_));refine aP G G agm (ih x (av hx) (deep+1) _ _ _ hM apx q0) (λr9 w9 hc=>?_);obtain⟨rfl,s9⟩:=hc;replace dY:=dY.le (aG _) s9.le;replace hM:=s9.lt hM;have:=S.size;replace S:=S.aw s9;refine Rg.aZ G G (T.aQ (ab G G (fm G G G (ad ?_))));refine bE G (λLH=>?_) (λLH=>?_)
     ·refine T.aQ (ab G G (Rg.aZ G G (aJ ?_)));exact aK rfl rfl ⟨by rw[jY q deep,if_neg q0,if_neg c4,A6 hx gD LH],S⟩
     ·refine aS (aH (ab G G (bu G G G q0 (Rg.aZ G G ?_))));refine⟨G,i+1,a07,?_,?_⟩
      ·refine⟨by omega,λj y hj hy=>?_,hM,S,dY⟩;rcases cH j i with h|h
       ·exact gD j y h hy
       ·obtain rfl:j=i:=by omega
        rw[hx]at hy;cases hy;exact ck.1 LH
      ·omega
    ·refine cN (T.aQ (Rg.aZ G G (aJ ?_)));exact aK rfl rfl ⟨by rw[jY q deep,if_neg q0,if_neg c4,C2 λj y hj=>gD j y aa7 hj],S⟩
theorem Bb:∀(n:Nat) {M:aM} {q:Qy} {v:Value} {deep:Nat} (w0:World) (hM:Lt M w0) (hv:(RT.qy n).V M w0 q v) (hs:CW q) (hd:deep<=1000),Spec Tryz.prog 110 #[v,.int .i64 (deep:Int)] w0 (λv w=>v= .int .i64 (fP q deep)/\Step M w0 M w aC)
 |0,M,q,v,deep,w0,hM,hv,hs,hd=>C5 (n:=0) w0 hM (kx hv) hs hd λx hx=>by rw[kZ hv]at hx;cases hx
 |n+1,M,q,v,deep,w0,hM,hv,hs,hd=>C5 w0 hM hv hs hd λx hx deep M w v hM hv hd=>Bb n w hM hv ((WU.1 hs).2 x hx) q0
theorem JJ {M:aM} {n:Nat} {q:Qy} {v:Value} (w0:World) (hM:Lt M w0) (hv:(RT.qy (n+1)).V M w0 q v) (hs:CW q):
  Spec Tryz.prog 57 #[v] w0 (λv w=>v= .int .i64 (fP q 1)/\Step M w0 M w aC):=by
 refine bh (args:=[_]) (fn:=Tryz.f57) Tryz.func57 G (n:=5) Tryz.ntmps57 ?_;have S:Step M w0 M w0 aC:=aV;refine T.aQ ?_;refine ef (A:=RT.qy (n+1)) (a:=q) G G hM hv (dK _) (λu1 Eg gh iA _=>?_);replace hv:=hv.le iA.le;replace hM:=iA.lt hM;have:=S.size;replace S:=S.aw iA;refine Rg.aZ G G (T.aQ ?_);refine bN (A:=RT.qy (n+1)) ak G (IQ gg _) (aG _) (dK _) G G gh bS (λv10 pJ=>?_);refine aP G G agm (Bb (n+1) (deep:=1) _ hM pJ hs Tg) (λr1 w1 hc=>?_);obtain⟨rfl,s1⟩:=hc;replace gh:=gh.le (aG _) s1.le;replace hM:=s1.lt hM;have:=S.size;replace S:=S.aw s1;refine Rg.aZ G G (aJ ?_);exact aK G G ⟨G,S⟩
end Go.K
namespace Go.K
open Go.Proofs
namespace TKR12B
theorem rG:TI Tryz.prog 26 (.slice none 0 0) 1 24:=by unfold TI;kernel_rfl
theorem gg:TI Tryz.prog 28 (.agg #[(.int .i64 0),(.string ⟨#[]⟩),(.string ⟨#[]⟩),(.slice none 0 0),(.slice none 0 0)]) 5 88:=by unfold TI;kernel_rfl
theorem E34:Enters Tryz.prog 34:=enters Tryz.func34 rfl Tg
theorem E35:Enters Tryz.prog 35:=enters Tryz.func35 rfl Tg
theorem E78:Enters Tryz.prog 78:=enters Tryz.func78 rfl Tg
theorem E79:Enters Tryz.prog 79:=enters Tryz.func79 rfl Tg
theorem ZY:Enters Tryz.prog 124:=enters Tryz.func124 rfl Tg
theorem apz:Enters Tryz.prog 125:=enters Tryz.func125 rfl Tg
end TKR12B
open TKR12B
set_option maxRecDepth 10000
theorem vJ {M:aM} {d:Dc} {k:List UInt8} {xs:List (List UInt8)} {vd vx:Value} (w0:World) (hM:Lt M w0) (hd:RT.dc.V M w0 d vd) (hlen:∀f∈d.2,f.1.length<=900000/\f.2.length<=900000) (xg:d.2.length<=1000000) (hx:(RT.str.sl).V M w0 xs vx):
  Spec Tryz.prog 79 #[vd,sv k,vx] w0 (λv w=>v= .int .i64 (qm (cZ d.2 k) xs:Int)/\Step M w0 M w aC):=by
 have gv:=hM;have xF:=cU hx;have H5:=x8 (k:=k) hlen;refine bh (args:=[_,_,_]) (fn:=Tryz.f79) Tryz.func79 G (n:=41) Tryz.ntmps79 ?_;have S:Step M w0 M w0 aC:=aV;refine T.aQ ?_;refine ef (A:=RT.dc) (a:=d) G G hM hd G (λu3 w1 gY s0 _=>?_);replace hd:=hd.le s0.le;replace hx:=hx.le s0.le;replace hM:=s0.lt hM;have:=S.size;replace S:=S.aw s0;refine Rg.aZ G G (T.aQ ?_);refine bN (A:=RT.dc) aW G lD Tg G G G gY bS (λv10 pJ=>?_);refine ab G G ?_;refine aP G G ZY (x9 _ hM pJ hlen xg) (λr1 w1' hc=>?_);obtain⟨hr,s1⟩:=hc;replace hx:=hx.le s1.le;replace gY:=gY.le Tg s1.le;replace hM:=s1.lt hM;have:=S.size;replace S:=S.aw s1;refine Rg.aZ G G (T.aQ (Rg.aZ G G (aL (T.aQ (Rg.aZ G G (aX ?_))))));refine dd (σ:=Nat) (λi=>[(1,sv k),(2,vx),(7,r1),(8,.int .i64 (vm (cZ d.2 k) xs i:Int)),(9,.int .i64 (i:Int))]) (λi w=>i<=(cZ d.2 k).length/\(0<i->¬xs=[])/\Lt M w/\Step M w0 M w aC/\(RT.str.sl).V M w xs vx/\(RT.str.sl).V M w (cZ d.2 k) r1) (λi=>(cZ d.2 k).length-i) 0 a56 ?_ ?_
 ·exact⟨a8 _,λh=>absurd h (jC _),hM,S,hx,hr⟩
 ·clear hM S hx hr;rintro i w ⟨hi,agI,hM,S,hx,hr⟩;refine aL (T.aQ (ab G G (ab G G (bC ax G hx G (bu G G G q0 (ab G G (bC ax G hr G (fM G G G (ab G G ?_)))))))));refine aO (g:=21) G (λUU=>?_) (λUU=>?_)
  ·refine ah G G (ab G G (ah G G (bC ax G hx G (ah G G (eR G G G (aU G G G (ad ?_)))))));refine bE G (λc4=>?_) (λc4=>?_)
   ·have fw: ¬xs=[]:=λe=>by subst e;simp at c4
    refine aS (aL (aX (T.aQ (ab G G (ab G G (ab G G (ab G G (bC ax G hx G (bu G G G q0 ?_)))))))));refine Rg.EO (A:=RT.str) (hn:=by decide) ax I9 G G G G hr q0 (λu66 MF=>?_);rw[show((i:Int)+(xs.length:Int)).toNat=i+xs.length by omega,ar,List.drop_take,Nat.add_sub_cancel_left]at MF;refine ab G G ?_;refine aP G G apz (Je _ hM MF hx) (λr68 w68 hc=>?_);obtain⟨rfl,s68⟩:=hc;replace hx:=hx.le s68.le;replace hr:=hr.le s68.le;replace hM:=s68.lt hM;have:=S.size;replace S:=S.aw s68;refine Rg.aZ G G (T.aQ (ab G G (ad ?_)));refine bE G (λc7=>?_) (λc7=>?_)
    ·refine aH (ab G G ?_);have hpk:=KK (cZ d.2 k) xs i;refine bu G G G q0 (Rg.aZ G G (aH (ab G G (bu G G G q0 (Rg.aZ G G ?_)))));refine⟨G,i+1,(.cons G (.cons G (.cons G (.cons (congrArg (λz=>some (Value.int .i64 z)) (by rw[xm];first|(rw[if_pos c7];rfl)|(rw[if_neg c7];rfl))) (.cons rfl .nil))))),?_,?_⟩
     ·have hp:0<xs.length:=dC.2 fw;exact⟨by omega,λ_=>fw,hM,S,hx,hr⟩
     ·omega
    ·refine aS (aH (ab G G (bu G G G q0 (Rg.aZ G G ?_))));refine⟨G,i+1,(.cons G (.cons G (.cons G (.cons (congrArg (λz=>some (Value.int .i64 z)) (by rw[xm];first|(rw[if_pos c7];rfl)|(rw[if_neg c7];rfl))) (.cons rfl .nil))))),?_,?_⟩
     ·have hp:0<xs.length:=dC.2 fw;exact⟨by omega,λ_=>fw,hM,S,hx,hr⟩
     ·omega
   ·refine cN (T.aQ (ab G G (Rg.aZ G G (aJ ?_))));refine aK G G ⟨congrArg (λz:Nat=>Value.int .i64 (z:Int)) ?_,S⟩;by_cases he:xs=[]
    ·have:i=0:=by rcases Nat.eq_zero_or_pos i with h|h;exact h;exact absurd he (agI h)
     subst this;unfold qm vm;rw[if_pos he];rfl
    ·have hp:0<xs.length:=dC.2 he;exact(GQ he (by first|omega|(simp at c4;omega)) hi).symm
  ·refine aj G G G G (aj G G G G (aj G G G G (aB G G G (ad (jF G (cN (T.aQ (ab G G (Rg.aZ G G ?_)))))))));refine aJ ?_;refine aK G G ⟨congrArg (λz:Nat=>Value.int .i64 (z:Int)) ?_,S⟩;by_cases he:xs=[]
   ·have:i=0:=by rcases Nat.eq_zero_or_pos i with h|h;exact h;exact absurd he (agI h)
    subst this;unfold qm vm;rw[if_pos he];rfl
   ·have hp:0<xs.length:=dC.2 he;exact(GQ he (by first|omega|(simp at c4;omega)) hi).symm
theorem C6 (n:Nat):(rR n).isSome=decide (0<n):=by unfold rR;split<;>simp[*]
theorem Hg (n:Nat):(rR n).getD 0=(n:Int):=by
 unfold rR;split
 ·rfl
 ·have:n=0:=by omega
  subst this;rfl
def sy (l:List (Option Int)):Nat:=(l.filter Option.isSome).length
theorem Bc {α:Type} {f:α->Option Int} {ks:List α} {i:Nat} {x:α} (h:ks[i]? =some x):sy ((ks.take (i+1)).map f)=sy ((ks.take i).map f)+if(f x).isSome=true then 1 else 0:=by
 unfold sy;rw[bY,h,dp,dU,eE,bM]
 cases hf:(f x).isSome<;>simp[hf]
theorem Sy (l:List (Option Int)):sy l<=l.length:=eu _ _
theorem Nd (l:List (Option Int)):sy l=l.length↔l.all Option.isSome=true:=by
 unfold sy;rw[List.length_filter_eq_length_iff,dZ]
theorem Nf (l:List (Option Int)):0<sy l↔l.any Option.isSome=true:=by
 unfold sy;rw[List.length_pos_iff_exists_mem,jG];constructor
 ·rintro⟨o,ho⟩;exact⟨o,(gq.1 ho).1,(gq.1 ho).2⟩
 ·rintro⟨o,h1,h2⟩;exact⟨o,gq.2 ⟨h1,h2⟩⟩
theorem Bd {M:aM} {n:Nat} {q:Qy} {v vd:Value} {d:Dc} (w0:World) (hM:Lt M w0) (hv:(RT.qy (n+1)).V M w0 q v) (hd:RT.dc.V M w0 d vd) (hlen:∀f∈d.2,f.1.length<=900000/\f.2.length<=900000) (xg:d.2.length<=1000000) (ih:∀x∈q.kids,∀(M:aM) (w:World) (v vd:Value),Lt M w->(RT.qy n).V M w x v->RT.dc.V M w d vd->Spec Tryz.prog 34 #[v,vd] w (λv' w'=>v'= .bool (eF d.2 x).isSome/\Step M w M w' aC)):
  Spec Tryz.prog 34 #[v,vd] w0 (λv w=>v= .bool (eF d.2 q).isSome/\Step M w0 M w aC):=by
 have gv:=hM;refine bh (args:=[_,_]) (fn:=Tryz.f34) Tryz.func34 G (n:=59) Tryz.ntmps34 ?_;have S:Step M w0 M w0 aC:=aV;refine T.aQ ?_;refine ef (A:=RT.qy (n+1)) (a:=q) G G hM hv (dK _) (λu2 Eg dY iA _=>?_);replace hv:=hv.le iA.le;replace hd:=hd.le iA.le;replace hM:=iA.lt hM;have:=S.size;replace S:=S.aw iA;refine ef (A:=RT.dc) (a:=d) G G hM hd G (λu3 wd3 gY s3 _=>?_);replace hd:=hd.le s3.le;replace dY:=dY.le (aG _) s3.le;replace hM:=s3.lt hM;have:=S.size;replace S:=S.aw s3;refine Rg.aZ G G (aL (T.aQ ?_));refine ao (A:=RT.qy (n+1)) (B:=RT.int .i64) ak G G I3 Tg (yK n) G G (aG _) dY bS (λH4 lY=>?_);refine bV al G G lY bS (λvz=>?_);refine bg (v':= .int .i64 q.kind) G (ad (aX (T.aQ (fe G G G (Rg.aZ G G ?_)))));refine bE G (λc2=>?_) (λc2=>?_)
 ·refine T.aQ ?_;refine bN (A:=RT.dc) aW G lD Tg G G G gY bS (λv30 aaU=>?_);refine ao (A:=RT.qy (n+1)) (B:=RT.fd) ak G G kF Tg (BG n) G G (aG _) dY bS (λu31 RC=>?_);refine bN (A:=RT.fd) br G kF Tg G G G RC bS (λv32 RD=>?_);refine aP G G E78 (ya _ hM aaU hlen xg RD) (λr33 w33 hc=>?_);obtain⟨apA,sx⟩:=hc;replace dY:=dY.le (aG _) sx.le;replace gY:=gY.le Tg sx.le;replace hM:=sx.lt hM;have:=S.size;replace S:=S.aw sx;refine bC az G apA G (eR G G G (Rg.aZ G G (aJ ?_)));exact aK rfl rfl ⟨congrArg Value.bool (by rw[jK,if_pos c2,C6];exact decide_eq_decide.2 q0),S⟩
 ·refine T.aQ (fe G G G (Rg.aZ G G ?_));refine bE G (λc4=>?_) (λc4=>?_)
  ·refine T.aQ ?_;refine bN (A:=RT.dc) aW G lD Tg G G G gY bS (λv50 aaV=>?_);refine ao (A:=RT.qy (n+1)) (B:=RT.fd) ak G G kF Tg (BG n) G G (aG _) dY bS (λu51 Jf=>?_);refine ao (A:=RT.fd) (B:=RT.str) br G G I9 Tg EF G G Tg Jf bS (λu52 aaD=>?_);refine bB aA G G G G G aaD bS (λv53 aaE=>?_);obtain rfl:=dS aaE;refine ao (A:=RT.qy (n+1)) (B:=(RT.str.sl)) ak G G rA Tg (EG n) G G (aG _) dY bS (λu54 I6=>?_);refine bB ax G G G G G I6 bS (λv55 I7=>?_);refine aP G G E79 (vJ (k:=q.term.1) _ hM aaV hlen xg I7) (λr56 w56 hc=>?_);obtain⟨rfl,s56⟩:=hc;replace dY:=dY.le (aG _) s56.le;replace gY:=gY.le Tg s56.le;replace hM:=s56.lt hM;have:=S.size;replace S:=S.aw s56;refine eR G G G (Rg.aZ G G (aJ ?_));exact aK rfl rfl ⟨congrArg Value.bool (by rw[jK,if_neg c2,if_pos c4,C6];exact decide_eq_decide.2 q0),S⟩
  ·refine aS (T.aQ (Rg.aZ G G (aL (T.aQ (Rg.aZ G G (aX ?_))))));refine dd (σ:=Nat) (λi=>[(2,u2),(3,u3),(5,.int .i64 (sy ((q.kids.take i).map (eF d.2)):Int)),(6,.int .i64 (i:Int))]) (λi w=>i<=q.kids.length/\Lt M w/\Step M w0 M w aC/\cO (RT.qy (n+1)) M w u2 q/\cO RT.dc M w u3 d) (λi=>q.kids.length-i) 0 a00 ?_ ?_
   ·exact⟨a8 _,hM,S,dY,gY⟩
   ·clear hM S dY gY;rintro i w ⟨hi,hM,S,dY,gY⟩;refine aL (T.aQ (ab G G ?_));refine ao (A:=RT.qy (n+1)) (B:=((RT.qy n).sl (aG n))) ak G G rG Nat.one_pos (Bv n) G G (aG _) dY bS (λu81 RR=>?_);refine bB bD G G G G G RR bS (λv82 Vm=>?_);have zg:=cU Vm;refine bC (A:=RT.qy n) (hn:=aG _) bD G Vm G (cx G G G (ad ?_));refine bE G (λc8=>?_) (λc8=>?_)
    ·refine aS (aL (aX (aL ?_)));apply T.VR 6 mixed rfl rfl rfl rfl rfl;intro ay2 apB;have Vs:=apB M;replace dY:=dY.le (aG _) Vs.le;replace gY:=gY.le Tg Vs.le;replace hM:=Vs.lt hM;have:=S.size;replace S:=S.aw Vs;refine ao (A:=RT.qy (n+1)) (B:=((RT.qy n).sl (aG n))) ak G G rG Nat.one_pos (Bv n) G G (aG _) dY bS (λay3 agJ=>?_);refine Rg.dh ?_;refine bB bD G G G G G agJ bS (λay4 agK=>?_);refine Rg.dh (ab G G (Rg.dh ?_));obtain⟨x,hx⟩:∃x,(q.kids)[i]? =some x:=⟨_,aq q0⟩;refine cC (A:=RT.qy n) (hn:=aG _) (M:=M) bD (IQ gg _) G G G agK bS q0 (λay5 x_ gp agL=>?_);rw[ar]at gp;obtain rfl:=aI (hx.symm.trans gp);refine Rg.dh ?_;refine bN (A:=RT.qy (n)) ak G (IQ gg _) (aG _) (dK _) G G agL bS (λay6 agM=>?_);refine Rg.dh ?_;refine bN (A:=RT.dc) aW G lD Tg G G G gY bS (λv105 agN=>?_);refine Rg.dh (fL ?_);refine aP G G E34 (ih x (av hx) _ _ _ _ hM agM agN) (λr10 w10 hc=>?_);obtain⟨rfl,qv⟩:=hc;refine bg (v':= .bool (decide ((eF d.2 x).isSome=true))) (by simp) ?_;replace dY:=dY.le (aG _) qv.le;replace gY:=gY.le Tg qv.le;replace hM:=qv.lt hM;have:=S.size;replace S:=S.aw qv;refine Rg.aZ G G (T.aQ (ab G G (ad ?_)));refine bE G (λux=>?_) (λux=>?_)
     ·refine aH (ab G G ?_);have hns:=Sy ((q.kids.take i).map (eF d.2));rw[bW,a7]at hns;refine bu G G G q0 (Rg.aZ G G (aH (ab G G (bu G G G q0 (Rg.aZ G G ?_)))));refine⟨G,i+1,(.cons G (.cons G (.cons (congrArg (λz=>some (Value.int .i64 z)) (by rw[Bc hx];first|(rw[if_pos ux];rfl)|(rw[if_neg ux];rfl))) (.cons rfl .nil)))),?_,?_⟩
      ·exact⟨by omega,hM,S,dY,gY⟩
      ·omega
     ·refine aS (aH (ab G G (bu G G G q0 (Rg.aZ G G ?_))));refine⟨G,i+1,(.cons G (.cons G (.cons (congrArg (λz=>some (Value.int .i64 z)) (by rw[Bc hx];first|(rw[if_pos ux];rfl)|(rw[if_neg ux];rfl))) (.cons rfl .nil)))),?_,?_⟩
      ·exact⟨by omega,hM,S,dY,gY⟩
      ·omega
    ·have W7:i=q.kids.length:=by omega
     subst W7;refine cN (aL (T.aQ ?_));refine ao (A:=RT.qy (n+1)) (B:=RT.int .i64) ak G G I3 Tg (yK n) G G (aG _) dY bS (λay7 agO=>?_);refine bV al G G agO bS (λagP=>?_);refine bg (v':= .int .i64 q.kind) G (fe G G G (ad ?_));refine bE G (λxS=>?_) (λxS=>?_)
     ·refine T.aQ (ab G G ?_);refine ao (A:=RT.qy (n+1)) (B:=((RT.qy n).sl (aG n))) ak G G rG Nat.one_pos (Bv n) G G (aG _) dY bS (λay8 agQ=>?_);refine bB bD G G G G G agQ bS (λay9 agR=>?_);refine bC (A:=RT.qy n) (hn:=aG _) bD G agR G (fe G G G (Rg.aZ G G (aJ ?_)));refine aK G G ⟨congrArg Value.bool ?_,S⟩;rw[bp (bz _),jK,if_neg c2,if_neg c4,if_pos xS];have h:=Nd (q.kids.map (eF d.2));rw[bW]at h;by_cases h2:(q.kids.map (eF d.2)).all Option.isSome=true
      ·rw[if_pos h2];exact decide_eq_true (by rw[h.2 h2])
      ·rw[if_neg h2];exact decide_eq_false (λe=>h2 (h.1 q0))
     ·refine aS (T.aQ (ab G G (eR G G G ?_)));refine ao (A:=RT.qy (n+1)) (B:=RT.int .i64) ak G G I3 Tg (yK n) G G (aG _) dY bS (λaza agS=>?_);refine bV al G G agS bS (λagT=>?_);refine bg (v':= .int .i64 q.kind) G (fe G G G (Rg.beq gQ G G G (Rg.aZ G G (aJ ?_))));refine aK G G ⟨congrArg Value.bool ?_,S⟩;rw[bp (bz _),jK,if_neg c2,if_neg c4,if_neg xS];have h:=Nf (q.kids.map (eF d.2));by_cases h2:(q.kids.map (eF d.2)).any Option.isSome=true
      ·rw[if_pos h2,if_pos h2];by_cases h3:q.kind=3
       ·rw[if_pos h3];simp[h3];exact h.2 h2
       ·rw[if_neg h3];simp[h3];have:=h.2 h2;omega
      ·rw[if_neg h2,if_neg h2];have h4:sy (q.kids.map (eF d.2))=0:=Nat.eq_zero_of_not_pos λhp=>h2 (h.1 hp)
       by_cases h3:q.kind=3
       ·rw[if_pos h3];simp[h3,h4]
       ·rw[if_neg h3];simp[h3,h4]
theorem tK:∀(n:Nat) {M:aM} {q:Qy} {v vd:Value} {d:Dc} (w0:World) (hM:Lt M w0) (hv:(RT.qy n).V M w0 q v) (hd:RT.dc.V M w0 d vd) (hlen:∀f∈d.2,f.1.length<=900000/\f.2.length<=900000) (xg:d.2.length<=1000000),Spec Tryz.prog 34 #[v,vd] w0 (λv w=>v= .bool (eF d.2 q).isSome/\Step M w0 M w aC)
 |0,M,q,v,vd,d,w0,hM,hv,hd,hlen,xg=>Bd (n:=0) w0 hM (kx hv) hd hlen xg λx hx=>by rw[kZ hv]at hx;cases hx
 |n+1,M,q,v,vd,d,w0,hM,hv,hd,hlen,xg=>Bd w0 hM hv hd hlen xg λx hx M w v vd hM hv hd=>tK n w hM hv hd hlen xg
theorem C7 {α:Type} {f:α->Option Int} {ks:List α} {i:Nat} {x:α} (h:ks[i]? =some x):ly ((ks.take (i+1)).map f)=ly ((ks.take i).map f)+(f x).getD 0:=by
 unfold ly;rw[bY,h,dp,dU,dU,List.sum_append];simp
def Ng (fs:List Fd):Nat->Qy->Prop
 |0,q=>∀s,eF fs q=some s->0<=s/\s<=1000000000000
 |n+1,q=>(∀s,eF fs q=some s->0<=s/\s<=1000000000000)/\q.kids.length<=8/\∀x∈q.kids,Ng fs n x
theorem Ng.own {fs:List Fd} {n:Nat} {q:Qy} (h:Ng fs n q):∀s,eF fs q=some s->0<=s/\s<=1000000000000:=by
 cases n with
 |zero=>exact h
 |succ n=>exact h.1
theorem KZ (fs:List Fd) (hw:∀k,(cZ fs k).length<=500):∀(n:Nat) {q:Qy} {deep:Nat},1<=deep->fP q deep=0->Ng fs n q
 |0,q,deep,h1,hm=>λs hs=>by have:=rf fs hw q deep hm s hs;have:=xn h1;omega
 |n+1,q,deep,h1,hm=>by
  obtain⟨k,t,ws,ks⟩:=q;obtain⟨h2,h3,h4⟩:=pS.1 hm;refine⟨λs hs=>by have:=rf fs hw _ deep hm s hs;have:=xn h1;omega,?_,λx hx=>KZ fs hw n q0 (h4 x hx)⟩;show ks.length<=8;rcases tF h3 with h|h|h|h<;>omega
theorem yd {M:aM} {n:Nat} {q:Qy} {v vd:Value} {d:Dc} (w0:World) (hM:Lt M w0) (hv:(RT.qy (n+1)).V M w0 q v) (hd:RT.dc.V M w0 d vd) (hlen:∀f∈d.2,f.1.length<=900000/\f.2.length<=900000) (xg:d.2.length<=1000000) (sT:Ng d.2 (n+1) q) (ih:∀x∈q.kids,∀(M:aM) (w:World) (v vd:Value),Lt M w->(RT.qy n).V M w x v->RT.dc.V M w d vd->Spec Tryz.prog 35 #[v,vd] w (λv' w'=>v'= .int .i64 ((eF d.2 x).getD 0)/\Step M w M w' aC)):
  Spec Tryz.prog 35 #[v,vd] w0 (λv w=>v= .int .i64 ((eF d.2 q).getD 0)/\Step M w0 M w aC):=by
 have gv:=hM;have Wz:=sT.2.1
 have hsb:∀i,0<=ly ((q.kids.take i).map (eF d.2))/\ly ((q.kids.take i).map (eF d.2))<=8*1000000000000:=λi=>by
  have h:=AP (l:=(q.kids.take i).map (eF d.2)) (B:=1000000000000) Tg λo ho s hs=>by
   obtain⟨x,hx,rfl⟩:=cA.1 ho;exact(sT.2.2 x (yo hx)).own s hs
  have hl:((q.kids.take i).map (eF d.2)).length<=8:=by rw[bW,a7];omega
  omega
 refine bh (args:=[_,_]) (fn:=Tryz.f35) Tryz.func35 G (n:=53) Tryz.ntmps35 ?_;have S:Step M w0 M w0 aC:=aV;refine T.aQ ?_;refine ef (A:=RT.qy (n+1)) (a:=q) G G hM hv (dK _) (λu2 Eg dY iA _=>?_);replace hv:=hv.le iA.le;replace hd:=hd.le iA.le;replace hM:=iA.lt hM;have:=S.size;replace S:=S.aw iA;refine ef (A:=RT.dc) (a:=d) G G hM hd G (λu3 wd3 gY s3 _=>?_);replace hd:=hd.le s3.le;replace dY:=dY.le (aG _) s3.le;replace hM:=s3.lt hM;have:=S.size;replace S:=S.aw s3;refine Rg.aZ G G (T.aQ ?_);refine bN (A:=RT.qy (n+1)) ak G (IQ gg _) (aG _) (dK _) G G dY bS (λaoU W0=>?_);refine bN (A:=RT.dc) aW G lD Tg G G G gY bS (λyx lx=>?_);refine aP G G E34 (tK (n+1) _ hM W0 lx hlen xg) (λr12 LK hc=>?_);obtain⟨rfl,lW⟩:=hc;replace dY:=dY.le (aG _) lW.le;replace gY:=gY.le Tg lW.le;replace hM:=lW.lt hM;have:=S.size;replace S:=S.aw lW;refine Rg.aZ rfl rfl (aL (T.aQ (ab rfl rfl (fV rfl rfl (bg (v':= .bool (decide (¬(eF d.2 q).isSome=true))) (by cases eF d.2 q<;>rfl) (ab rfl rfl ?_))))));refine aO (g:=13) G (λVt=>?_) (λVt=>?_)
 ·refine aj G G G G (aj G G G G (aj G G G G (aU G G G (ad (kD G (T.aQ (Rg.aZ G G (aJ ?_))))))));refine aK G G ⟨congrArg (Value.int .i64) (cD ?_),S⟩
  first
  |(have h:eF d.2 q=none:=by simpa using Vt
    rw[h];rfl)
  |(rw[jK,if_neg q0,if_neg q0,if_neg q0,if_neg q0];split<;>rfl)
 ·refine ah G G ?_;refine ao (A:=RT.qy (n+1)) (B:=RT.int .i64) ak G G I3 Tg (yK n) G G (aG _) dY bS (λu23 MP=>?_);refine ah G G ?_;refine bV al G G MP bS (λaiD=>?_);refine bg (v':= .int .i64 q.kind) G (ah G G (fe G G G (aB G G G (ad ?_))));refine bE G (λc2=>?_) (λc2=>?_)
  ·refine T.aQ (Rg.aZ G G (aJ ?_));refine aK G G ⟨congrArg (Value.int .i64) (cD ?_),S⟩
   first
   |(have h:eF d.2 q=none:=by simpa using Vt
     rw[h];rfl)
   |(rw[jK,if_neg q0,if_neg q0,if_neg q0,if_neg q0];split<;>rfl)
  ·have hf4:(eF d.2 q).isSome=true/\¬q.kind=4:=by first|exact⟨ck.1 Vt,c2⟩|exact absurd rfl c2|exact absurd trivial c2
   obtain⟨sc,TZ⟩:=Option.isSome_iff_exists.1 hf4.1;refine aS (aL (T.aQ ?_));refine ao (A:=RT.qy (n+1)) (B:=RT.int .i64) ak G G I3 Tg (yK n) G G (aG _) dY bS (λu40 I2=>?_);refine bV al G G I2 bS (λaiE=>?_);refine bg (v':= .int .i64 q.kind) G (fe G G G (ad ?_));refine bE G (λc4=>?_) (λc4=>?_)
   ·refine T.aQ ?_;refine bN (A:=RT.dc) aW G lD Tg G G G gY bS (λv50 aaV=>?_);refine ao (A:=RT.qy (n+1)) (B:=RT.fd) ak G G kF Tg (BG n) G G (aG _) dY bS (λu51 Jf=>?_);refine bN (A:=RT.fd) br G kF Tg G G G Jf bS (λv52 vv=>?_);refine aP G G E78 (ya _ hM aaV hlen xg vv) (λr53 w53 hc=>?_);obtain⟨apD,s53⟩:=hc;replace dY:=dY.le (aG _) s53.le;replace gY:=gY.le Tg s53.le;replace hM:=s53.lt hM;have:=S.size;replace S:=S.aw s53;refine bC az G apD G (Rg.aZ G G (aJ ?_));exact aK G G ⟨congrArg (Value.int .i64) (by rw[jK,if_pos c4,Hg]),S⟩
   ·refine aS (aL (T.aQ ?_));refine ao (A:=RT.qy (n+1)) (B:=RT.int .i64) ak G G I3 Tg (yK n) G G (aG _) dY bS (λu60 apE=>?_);refine bV al G G apE bS (λaiG=>?_);refine bg (v':= .int .i64 q.kind) G (fe G G G (ad ?_));refine bE G (λc6=>?_) (λc6=>?_)
    ·refine T.aQ ?_;refine bN (A:=RT.dc) aW G lD Tg G G G gY bS (λv70 aaW=>?_);refine ao (A:=RT.qy (n+1)) (B:=RT.fd) ak G G kF Tg (BG n) G G (aG _) dY bS (λu71 Sg=>?_);refine ao (A:=RT.fd) (B:=RT.str) br G G I9 Tg EF G G Tg Sg bS (λu72 aaL=>?_);refine bB aA G G G G G aaL bS (λv73 aaX=>?_);obtain rfl:=dS aaX;refine ao (A:=RT.qy (n+1)) (B:=(RT.str.sl)) ak G G rA Tg (EG n) G G (aG _) dY bS (λu74 aaY=>?_);refine bB ax G G G G G aaY bS (λv75 aaZ=>?_);refine aP G G E79 (vJ (k:=q.term.1) _ hM aaW hlen xg aaZ) (λr76 w76 hc=>?_);obtain⟨rfl,Sz⟩:=hc;replace dY:=dY.le (aG _) Sz.le;replace gY:=gY.le Tg Sz.le;replace hM:=Sz.lt hM;have:=S.size;replace S:=S.aw Sz;refine Rg.aZ G G (aJ ?_);exact aK G G ⟨congrArg (Value.int .i64) (by rw[jK,if_neg c4,if_pos c6,Hg]),S⟩
    ·refine aS (T.aQ (Rg.aZ G G (aL (T.aQ (Rg.aZ G G (aX ?_))))));refine dd (σ:=Nat) (λi=>[(2,u2),(3,u3),(6,.int .i64 (ly ((q.kids.take i).map (eF d.2)))),(7,.int .i64 (i:Int))]) (λi w=>i<=q.kids.length/\Lt M w/\Step M w0 M w aC/\cO (RT.qy (n+1)) M w u2 q/\cO RT.dc M w u3 d) (λi=>q.kids.length-i) 0 a00 ?_ ?_
     ·exact⟨a8 _,hM,S,dY,gY⟩
     ·clear hM S dY gY;rintro i w ⟨hi,hM,S,dY,gY⟩;refine aL (T.aQ (ab G G ?_));refine ao (A:=RT.qy (n+1)) (B:=((RT.qy n).sl (aG n))) ak G G rG Nat.one_pos (Bv n) G G (aG _) dY bS (λazg agU=>?_);refine bB bD G G G G G agU bS (λazh W8=>?_);have zg:=cU W8;refine bC (A:=RT.qy n) (hn:=aG _) bD G W8 G (cx G G G (ad ?_));refine bE G (λLH=>?_) (λLH=>?_)
      ·refine aS (aL (aX ?_));apply T.n4 7 [0] 1 aC mixed rfl rfl rfl rfl;intro IH apF;have rQ:=apF M;replace dY:=dY.le (aG _) rQ.le;replace gY:=gY.le Tg rQ.le;replace hM:=rQ.lt hM;have:=S.size;replace S:=S.aw rQ;refine ab G G (Rg.dh ?_);refine ao (A:=RT.qy (n+1)) (B:=((RT.qy n).sl (aG n))) ak G G rG Nat.one_pos (Bv n) G G (aG _) dY bS (λazi agV=>?_);refine Rg.dh ?_;refine bB bD G G G G G agV bS (λazj agW=>?_);refine Rg.dh (ab G G (Rg.dh ?_));obtain⟨x,hx⟩:∃x,(q.kids)[i]? =some x:=⟨_,aq q0⟩;refine cC (A:=RT.qy n) (hn:=aG _) (M:=M) bD (IQ gg _) G G G agW bS q0 (λazk x_ gp agX=>?_);rw[ar]at gp;obtain rfl:=aI (hx.symm.trans gp);refine Rg.dh ?_;refine bN (A:=RT.qy (n)) ak G (IQ gg _) (aG _) (dK _) G G agX bS (λazl agY=>?_);refine Rg.dh ?_;refine bN (A:=RT.dc) aW G lD Tg G G G gY bS (λazm agZ=>?_);refine Rg.dh (fL (⟨jo ⟨kd,trivial⟩,?_⟩));have kp:=kn aC IH;refine aP G G E35 (ih x (av hx) _ _ _ _ hM agY agZ) (λazn azo hc=>?_);obtain⟨rfl,Vu⟩:=hc;replace dY:=dY.le (aG _) Vu.le;replace gY:=gY.le Tg Vu.le;replace hM:=Vu.lt hM;have:=S.size;replace S:=S.aw Vu;refine(fun(kp:fG _ _ _)=>ad ⟨G,G,λ_=>kp,?_⟩) a02;have VJ:=hsb i;have B6:=hsb (i+1);rw[C7 hx]at B6;refine bu G G G q0 (ad ⟨G,G,λh=>absurd G h,aN G G (ad ⟨G,G,λh=>absurd G h,nT (aH (ab G G (bu G G G q0 (Rg.aZ G G ?_))))⟩)⟩)
       refine⟨G,i+1,(.cons G (.cons G (.cons (congrArg (λz=>some (Value.int .i64 z)) (C7 hx).symm) (.cons G .nil)))),?_,?_⟩
       ·exact⟨by omega,hM,S,dY,gY⟩
       ·omega
      ·refine cN (T.aQ (ab G G (Rg.aZ G G (aJ ?_))));have W7:i=q.kids.length:=by omega
       subst W7;refine aK G G ⟨congrArg (Value.int .i64) ?_,S⟩;rw[bp (bz _)];have he:=jK d.2 q;rw[if_neg c4,if_neg c6]at he;rw[he];by_cases h2:q.kind=2
       ·rw[if_pos h2]at he ⊢
        split
        ·rfl
        ·rename_i h;rw[if_neg h,TZ]at he;cases he
       ·rw[if_neg h2]at he ⊢;by_cases h3:q.kind=3
        ·rw[if_pos h3]at he ⊢
         split
         ·rfl
         ·rename_i h;rw[if_neg h,TZ]at he;cases he
        ·rw[if_neg h3]at he ⊢
         split
         ·rename_i h;rw[if_pos h,TZ]at he;cases he
         ·rename_i h
          have hz:∀o∈q.kids.map (eF d.2),o=none:=λo ho=>by
           cases o with
           |none=>rfl
           |some s=>exact absurd (jG.2 ⟨_,ho,rfl⟩) h
          show ly _=0;unfold ly;generalize q.kids.map (eF d.2)=l at hz;clear he h
          induction l with
          |nil=>rfl
          |cons o l ih=>rw[eV,List.sum_cons,hz o (bO ..),ih λx hx=>hz x (cu _ hx)];rfl
theorem ye:∀(n:Nat) {M:aM} {q:Qy} {v vd:Value} {d:Dc} (w0:World) (hM:Lt M w0) (hv:(RT.qy n).V M w0 q v) (hd:RT.dc.V M w0 d vd) (hlen:∀f∈d.2,f.1.length<=900000/\f.2.length<=900000) (xg:d.2.length<=1000000) (sT:Ng d.2 n q),Spec Tryz.prog 35 #[v,vd] w0 (λv w=>v= .int .i64 ((eF d.2 q).getD 0)/\Step M w0 M w aC)
 |0,M,q,v,vd,d,w0,hM,hv,hd,hlen,xg,sT=>yd (n:=0) w0 hM (kx hv) hd hlen xg ⟨sT,by rw[kZ hv];exact a8 _,λx hx=>by rw[kZ hv]at hx;cases hx⟩ λx hx=>by rw[kZ hv]at hx;cases hx
 |n+1,M,q,v,vd,d,w0,hM,hv,hd,hlen,xg,sT=>yd w0 hM hv hd hlen xg sT λx hx M w v vd hM hv hd=>ye n w hM hv hd hlen xg (sT.2.2 x hx)
end Go.K
namespace Go.K
open Go.Proofs
namespace TKR13M
theorem I4:TI Tryz.prog 4 (.bool false) 1 1:=by unfold TI;kernel_rfl
theorem gg:TI Tryz.prog 28 (.agg #[(.int .i64 0),(.string ⟨#[]⟩),(.string ⟨#[]⟩),(.slice none 0 0),(.slice none 0 0)]) 5 88:=by unfold TI;kernel_rfl
theorem ki:TI Tryz.prog 45 (.agg #[(.int .i64 0),(.int .i64 0)]) 2 16:=by unfold TI;kernel_rfl
theorem HA:placesOf Tryz.prog 45=[(0,1),(1,1)].map some:=by kernel_rfl
theorem E34:Enters Tryz.prog 34:=enters Tryz.func34 rfl Tg
theorem E35:Enters Tryz.prog 35:=enters Tryz.func35 rfl Tg
theorem E57:Enters Tryz.prog 57:=enters Tryz.func57 rfl Tg
end TKR13M
open TKR13M
set_option maxRecDepth 10000
def jk (L:List En) (live:List Bool) (q:Qy) (i:Nat):List Fo:=(iq (λe=>eF e.1.2 q) 0 (L.take i)).filter λp=>decide (live[p.1.toNat]? =some true)
theorem Be (L:List En) (live:List Bool) (q:Qy) (i:Nat):(jk L live q i).length<=i:=dz (eu _ _) (dz (kC _ 0) (by rw[a7];omega))
theorem JK {L:List En} {live:List Bool} {q:Qy} {i:Nat} {e:En} {s:Int} (h:L[i]? =some e) (hf:eF e.1.2 q=some s) (hl:live[i]? =some true):jk L live q (i+1)=jk L live q i++[((i:Int),s)]:=by
 unfold jk;rw[oM h,eE,xv (f:=λe=>eF e.1.2 q) hf];simp[hl]
theorem Nh {L:List En} {live:List Bool} {q:Qy} {i:Nat} {e:En} (h:L[i]? =some e) (hn: ¬((eF e.1.2 q).isSome=true/\live[i]? =some true)):jk L live q (i+1)=jk L live q i:=by
 unfold jk;rw[oM h,eE]
 cases hf:eF e.1.2 q with
 |none=>rw[C0 (f:=λe=>eF e.1.2 q) hf];simp
 |some s=>
  rw[xv (f:=λe=>eF e.1.2 q) hf];have: ¬live[i]? =some true:=λhl=>hn ⟨by rw[hf];rfl,hl⟩
  simp[this]
theorem JL {L:List En} {live:List Bool} {q:Qy} (h:∀i,i<L.length->live[i]? =some true):jk L live q L.length=iq (λe=>eF e.1.2 q) 0 L:=by
 unfold jk;rw[vU,List.filter_eq_self];intro p hp;have:=nC hp;exact decide_eq_true (h _ q0)
theorem J8n {p:Prop} [Decidable p] (h: ¬p):some (Value.bool false)=some (Value.bool (decide p)):=by rw[decide_eq_false h]
theorem yf {M:aM} {n:Nat} {L:List En} {live:List Bool} {q:Qy} {v0 vl v:Value} (w0:World) (hM:Lt M w0) (hl:(RT.en.sl).V M w0 L v0) (kg:(RT.bool.sl).V M w0 live vl) (hv:(RT.qy (n+1)).V M w0 q v) (lC:CW q) (hF:∀e∈L,iQ e.1) (hlen:∀e∈L,(∀f∈e.1.2,f.1.length<=900000/\f.2.length<=900000)/\e.1.2.length<=1000000) (hn:L.length<=100000):
  Spec Tryz.prog 15 #[v0,vl,v] w0 (λv w=>((RT.fo).sl).V M w (if fP q 1=0 then jk L live q L.length else[]) v/\Step M w0 M w aC):=by
 have gv:=hM;have azq:=cU kg;refine bh (args:=[_,_,_]) (fn:=Tryz.f15) Tryz.func15 G (n:=52) Tryz.ntmps15 ?_;have S:Step M w0 M w0 aC:=aV;refine T.aQ ?_;refine ef (A:=RT.qy (n+1)) (a:=q) G G hM hv (dK _) (λu5 Eg lP iA _=>?_);replace hv:=hv.le iA.le;replace hl:=hl.le iA.le;replace kg:=kg.le iA.le;replace hM:=iA.lt hM;have:=S.size;replace S:=S.aw iA;refine Rg.aZ G G (T.aQ (Rg.aZ G G (aL (T.aQ ?_))));refine bN (A:=RT.qy (n+1)) ak G (IQ gg _) (aG _) (dK _) G G lP bS (λv20 Q8=>?_);refine aP G G E57 (JJ (n:=n) _ hM Q8 lC) (λr21 w21 hc=>?_);obtain⟨rfl,SB⟩:=hc;replace hl:=hl.le SB.le;replace kg:=kg.le SB.le;replace lP:=lP.le (aG _) SB.le;replace hM:=SB.lt hM;have:=S.size;replace S:=S.aw SB;refine fm G G G (ad ?_);refine bE G (λc2=>?_) (λc2=>?_)
 ·have hm: ¬fP q 1=0:=by first|exact c2|omega
  refine T.aQ (Rg.aZ G G (aJ ?_));refine aK G G ⟨?_,S⟩;rw[if_neg hm];exact gZ
 ·have hm:fP q 1=0:=by first|exact ck.1 c2|omega
  refine aS (aL (T.aQ (Rg.aZ G G (aX ?_))));refine dd (σ:=Nat×Value) (λq'=>[(0,v0),(1,vl),(5,u5),(7,q'.2),(8,.int .i64 (q'.1:Int))]) (λq' w=>q'.1<=L.length/\∃M2,Lt M2 w/\Step M w0 M2 w aC/\(RT.en.sl).V M2 w L v0/\(RT.bool.sl).V M2 w live vl/\cO (RT.qy (n+1)) M2 w u5 q/\Own RT.fo 45 M2 w w0.heap.size q'.2 (jk L live q q'.1)) (λq'=>L.length-q'.1) (0,.slice none 0 0) a56 ?_ ?_
  ·exact⟨a8 _,_,hM,S,hl,kg,lP,eL _ _ _ _ _⟩
  ·clear hM S hl kg lP;rintro⟨i,vo⟩ w ⟨hi,M2,hM,S,hl,kg,lP,iT⟩;dsimp only at hi iT ⊢;refine aL (T.aQ (ab G G (ab G G (bC eG G hl G (cx G G G (ad ?_))))));refine bE G (λc5=>?_) (λc5=>?_)
   ·refine aS (aL (aX (aL ?_)));apply T.VR 6 mixed rfl rfl rfl rfl rfl;intro wD7 sA7;have Wv:=sA7 M2;replace hl:=hl.le Wv.le;replace kg:=kg.le Wv.le;replace lP:=lP.le (aG _) Wv.le;replace iT:=iT.bP Wv;replace hM:=Wv.lt hM;have:=S.size;replace S:=S.aw Wv;refine bN (A:=RT.qy (n+1)) ak G (IQ gg _) (aG _) (dK _) G G lP bS (λv70 aaW=>?_);refine Rg.dh (ab G G (Rg.dh (ab G G (Rg.dh ?_))));obtain⟨e,tS⟩:∃x,L[i]? =some x:=⟨_,aq q0⟩;obtain⟨hx1,hx2⟩:=hlen e (av tS);have hwf:=λk=>rh (hF e (av tS)) k
    refine cC eG Hx G G G hl bS q0 (λu73 x_ gp aaF=>?_);rw[ar]at gp;obtain rfl:=aI (tS.symm.trans gp);refine Rg.dh ?_;refine ao (A:=RT.en) (B:=RT.dc) ed G G lD Tg XU G G Tg aaF bS (λu74 aaY=>?_);refine Rg.dh ?_;refine bN (A:=RT.dc) aW G lD Tg G G G aaY bS (λv75 aaZ=>?_);refine Rg.dh (fL ?_);refine aP G G E34 (tK (n+1) _ hM aaW aaZ hx1 hx2) (λr76 w76 hc=>?_);obtain⟨rfl,Sz⟩:=hc;replace hl:=hl.le Sz.le;replace kg:=kg.le Sz.le;replace lP:=lP.le (aG _) Sz.le;replace iT:=iT.bP Sz;replace hM:=Sz.lt hM;have:=S.size;replace S:=S.aw Sz;refine Rg.aZ G G ?_;refine lB [(0,v0),(1,vl),(5,u5),(7,vo),(8,.int .i64 (i:Int)),(38,.bool (decide ((eF e.1.2 q).isSome=true/\live[i]? =some true)))] ?_ ?_
    ·refine aH (ab G G (bg (v':= .bool (decide ((eF e.1.2 q).isSome=true))) (by simp) (ab G G ?_)));refine aO (g:=27) G (λJM=>?_) (λJM=>?_)
     ·refine ah G G (ab G G (ah G G (ab G G (ah G G (bC nU G kg G (ah G G (cx G G G (aU G G G (ab G G ?_)))))))));refine aO (g:=33) G (λapG=>?_) (λapG=>?_)
      ·refine ah G G (ab G G (ah G G (ab G G (ah G G ?_))));obtain⟨b,NM⟩:∃x,live[i]? =some x:=⟨_,aq q0⟩;refine cC nU I4 G G G kg bS q0 (λazs y' gp ag0=>?_);rw[ar]at gp;obtain rfl:=aI (NM.symm.trans gp);refine ah G G ?_;refine bB gQ G G G G G ag0 bS (λazt ag1=>?_);obtain rfl:=HB.1 ag1;refine aU G G G (ad ?_);exact⟨G,G,G,.cons G a42⟩
      ·refine aj G G G G (aj G G G G (aj G G G G (aj G G G G (aB G G G (ad ?_)))));exact⟨G,G,G,.cons G a42⟩
     ·refine aj G G G G (aj G G G G (aj G G G G (aj G G G G (aB G G G (ab G G (aj G G G G (aj G G G G (aj G G G G (aj G G G G (aB G G G (ad ?_)))))))))));exact⟨G,G,G,.cons G a42⟩
    ·refine bE G (λc8=>?_) (λc8=>?_)
     ·obtain⟨sc,TZ⟩:=Option.isSome_iff_exists.1 c8.1;have sT:=KZ e.1.2 hwf (n+1) (q:=q) (deep:=1) Tg hm;have hsb:=sT.own sc TZ;have we:=Be L live q i;apply T.n4 8 [0,1] 3 aC mixed rfl rfl rfl rfl;intro Wt sA9;have BT:=sA9 M2;replace hl:=hl.le BT.le;replace kg:=kg.le BT.le;replace lP:=lP.le (aG _) BT.le;replace iT:=iT.bP BT;replace hM:=BT.lt hM;have:=S.size;replace S:=S.aw BT;refine ab G G (Rg.dh (ab G G (Rg.dh ?_)));refine bN (A:=RT.qy (n+1)) ak G (IQ gg _) (aG _) (dK _) G G lP bS (λv92 apH=>?_);refine Rg.dh (ab G G (Rg.dh (ab G G (Rg.dh ?_))));refine cC eG Hx G G G hl bS q0 (λu95 x_ gp apI=>?_);rw[ar]at gp;obtain rfl:=aI (tS.symm.trans gp);refine Rg.dh ?_;refine ao (A:=RT.en) (B:=RT.dc) ed G G lD Tg XU G G Tg apI bS (λu96 apJ=>?_);refine Rg.dh ?_;refine bN (A:=RT.dc) aW G lD Tg G G G apJ bS (λv97 apK=>?_);refine Rg.dh (fL (⟨jo ⟨kd,⟨kd,trivial⟩⟩,?_⟩));have kp:=kn aC Wt;refine aP G G E35 (ye (n+1) _ hM apH apK hx1 hx2 sT) (λr98 w98 hc=>?_);obtain⟨rfl,s98⟩:=hc;rw[TZ,Option.getD_some];replace hl:=hl.le s98.le;replace kg:=kg.le s98.le;replace lP:=lP.le (aG _) s98.le;replace iT:=iT.bP s98;replace hM:=s98.lt hM;have:=S.size;replace S:=S.aw s98;refine(fun(kp:fG _ _ _)=>ad ⟨G,G,λ_=>kp,?_⟩) a02;refine dw (places:=[(0,1),(1,1)]) cQ ki HA rfl ⟨_,_,rfl,rfl,_,_,rfl,rfl,rfl⟩ (out:=[_,_]) ⟨0,[_],rfl,rfl,by simp[Value.cells],1,[_],rfl,rfl,by simp[Value.cells],rfl⟩ ?_;refine(fun(kp:fG _ _ _)=>ad ⟨G,G,λ_=>kp,?_⟩) a02
      refine fz (A:=RT.fo) (hn:=by decide) (M:=M2) aT ki Tg G G hM (Dv q0 q0) (.inl G) (λatv atw JN C8=>?_);replace hl:=hl.le C8.le;replace kg:=kg.le C8.le;replace lP:=lP.le (aG _) C8.le;replace iT:=iT.bP C8;replace hM:=C8.lt hM;have:=S.size;replace S:=S.aw C8;refine(fun(kp:fG _ _ _)=>ad ⟨G,G,λ_=>kp,?_⟩) a02;refine dJ (M:=M2) (base:=w0.heap.size) aT ki rfl rfl rfl rfl iT JN bS (by rw[dW];omega) (by rw[dW];omega) (S.size) (λag2 atx aty aa0 C9=>?_);replace hl:=hl.le C9.le;replace kg:=kg.le C9.le;replace lP:=lP.le (aG _) C9.le;replace JN:=JN.le C9.le;replace hM:=C9.lt hM;have:=S.size;replace S:=S.dX C9 iT (bz _);replace iT:=aa0;refine ad ⟨G,G,λh=>absurd G h,aN G G (ad ⟨G,G,λh=>absurd G h,nT (aH (ab G G (bu G G G q0 (Rg.aZ G G ?_))))⟩)⟩;refine⟨G,(i+1,ag2),a56,?_,?_⟩
      ·exact⟨by omega,_,hM,S,hl,kg,lP,by rw[JK tS TZ c8.2];exact iT⟩
      ·dsimp only;omega
     ·refine aS (aH (ab G G (bu G G G q0 (Rg.aZ G G ?_))));refine⟨G,(i+1,vo),a56,?_,?_⟩
      ·exact⟨by omega,_,hM,S,hl,kg,lP,by rw[Nh tS c8];exact iT⟩
      ·dsimp only;omega
   ·refine cN (T.aQ (ab G G (Rg.aZ G G (aJ ?_))));have we:=Be L live q i;refine aK G G ⟨?_,S.back⟩;rw[if_pos hm,show L.length=i by omega];exact iT.close gv S q0
end Go.K
namespace Go.K
open Go.Proofs
namespace TKTru13
theorem I4:TI Tryz.prog 4 (.bool false) 1 1:=by unfold TI;kernel_rfl
end TKTru13
open TKTru13
set_option maxRecDepth 10000
def ka (l:List Bool) (n:Nat):List Bool:=(List.range n).map λi=>l.getD i true
theorem jW (l:List Bool) (n:Nat):(ka l n).length=n:=by unfold ka;rw[bW,List.length_range]
theorem Vv {l:List Bool} {n i:Nat} (h:i<n):(ka l n)[i]? =some (l.getD i true):=by
 unfold ka;rw[ek,List.getElem?_range h];rfl
def Bf (l:List Bool) (n i:Nat):List Bool:=ka l i++List.replicate (n-i) false
theorem Hh {l:List Bool} {n i:Nat} (h:i<=n):(Bf l n i).length=n:=by unfold Bf;rw[bM,jW,List.length_replicate];omega
theorem Hi {l:List Bool} {n i:Nat} (h:i<n):(Bf l n i).set i (l.getD i true)=Bf l n (i+1):=by
 unfold Bf;rw[List.set_append_right _ _ (by rw[jW];omega),jW,show n-i=(n-(i+1))+1 by omega,List.replicate_succ,Nat.sub_self,List.set_cons_zero];unfold ka;rw[qp,dU,sF];rfl
theorem yg {M:aM} {l:List Bool} {n:Nat} {v0:Value} (w0:World) (hM:Lt M w0) (hv:(RT.bool.sl).V M w0 l v0) (hn:n<=1000000):
  Spec Tryz.prog 16 #[v0,.int .i64 (n:Int)] w0 (λv w=>(RT.bool.sl).V M w (ka l n) v/\Step M w0 M w aC):=by
 have gv:=hM;have N4:=cU hv;refine bh (args:=[_,_]) (fn:=Tryz.f16) Tryz.func16 G (n:=28) Tryz.ntmps16 ?_;have S:Step M w0 M w0 aC:=aV;refine T.aQ (Rg.aZ G G (T.aQ (ab G G ?_)));refine Rg.mk0 M nU I4 G G G G q0 q0 (λbw w1 z1 z1' Vw s1=>?_);generalize hMq:ins M bw=Mq at s1;have Bg:Mq bw:=by rw[<-hMq];exact .inl G
 replace hv:=hv.le s1.le;replace hM:=s1.lt hM;have:=S.size;replace S:=S.aw s1;refine Rg.aZ G G (aL (T.aQ (Rg.aZ G G (aX ?_))));refine dd (σ:=Nat) (λi=>[(0,v0),(1,.int .i64 (n:Int)),(5,.slice (some ⟨bw,0,none⟩) n n),(6,.int .i64 (i:Int))]) (λi w=>∃M1,Lt M1 w/\Step M w0 M1 w aC/\(RT.bool.sl).V M1 w l v0/\M1 bw/\w.heap[bw]? =some (.cells (nI (Bf l n i)) 4 (0,0))/\i<=n) (λi=>n-i) 0 a00 ?_ ?_
 ·exact⟨_,hM,S,hv,Bg,by rw[Vw];unfold Bf ka nI;simp,a8 _⟩
 ·clear S hv hM Vw Bg;rintro i w ⟨M1,hM,S,hv,Bg,Vw,hi⟩;refine aL (T.aQ (ab G G (ab G G (cx G G G (ad ?_)))));refine bE G (λc3=>?_) (λc3=>?_)
  ·refine aS (aL (aX (aH (ab G G (ab G G (ab G G (ab G G (bC nU G hv G (eB G G G (ab G G ?_))))))))));refine aO (g:=20) G (λapL=>?_) (λapL=>?_)
   ·refine aj G G G G (aj G G G G (aj G G G G (aj G G G G (aU G G G ?_))));refine bg (v':= .bool (l.getD i true)) (congrArg Value.bool (by first|exact BQ.symm|(rw[cg,cM q0];rfl))) ?_;refine Rg.wG nU I4 G G G q0 ?_;have hrl:=Hh (l:=l) hi;obtain⟨bo,hbo⟩:=AH (l:=Bf l n i) (i:=i) q0;refine cv (M:=M1) (u:= .bool bo) I4 rfl rfl Vw (by rw[ar];exact hbo) G Bg (λw5 gw5 Vx=>?_);rw[ar,AI]at gw5;replace hv:=hv.le Vx.le;replace Bg:=(Vx.mem _ (ae Vw)).2 Bg;replace S:=S.cr Vx (λb (hb:b=bw)=>by omega);replace hM:=Vx.lt hM;refine ad (aH (ab G G (bu G G G q0 (Rg.aZ G G ?_))));refine⟨G,i+1,a00,?_,?_⟩
    ·exact⟨M1,hM,S,hv,Bg,by rw[<-Hi q0];exact gw5,by omega⟩
    ·omega
   ·refine ah G G (ab G G (ah G G (ab G G (ah G G ?_))));obtain⟨b,NM⟩:∃x,l[i]? =some x:=⟨_,aq q0⟩;refine cC nU I4 G G G hv bS q0 (λu59 y' gp apN=>?_);rw[ar]at gp;obtain rfl:=aI (NM.symm.trans gp);refine ah G G ?_;refine bB gQ G G G G G apN bS (λazv ag4=>?_);obtain rfl:=HB.1 ag4;have BQ:l.getD i true=b:=by rw[cg,NM];rfl
    refine aB G G G ?_;refine bg (v':= .bool (l.getD i true)) (congrArg Value.bool (by first|exact BQ.symm|(rw[cg,cM q0];rfl))) ?_;refine Rg.wG nU I4 G G G q0 ?_;have hrl:=Hh (l:=l) hi;obtain⟨bo,hbo⟩:=AH (l:=Bf l n i) (i:=i) q0;refine cv (M:=M1) (u:= .bool bo) I4 rfl rfl Vw (by rw[ar];exact hbo) G Bg (λw5 gw5 Vx=>?_);rw[ar,AI]at gw5;replace hv:=hv.le Vx.le;replace Bg:=(Vx.mem _ (ae Vw)).2 Bg;replace S:=S.cr Vx (λb (hb:b=bw)=>by omega);replace hM:=Vx.lt hM;refine ad (aH (ab G G (bu G G G q0 (Rg.aZ G G ?_))));refine⟨G,i+1,a00,?_,?_⟩
    ·exact⟨M1,hM,S,hv,Bg,by rw[<-Hi q0];exact gw5,by omega⟩
    ·omega
  ·refine cN (T.aQ (ab G G (Rg.aZ G G (aJ ?_))))
   have e:Bf l n i=ka l n:=by
    have:i=n:=by omega
    subst this;unfold Bf;rw[Nat.sub_self];simp
   rw[e]at Vw;have hV:=UZ (M:=M) Vw (λh=>by have:=gv _ h;omega) (by rw[jW];omega);rw[jW]at hV;exact aK G G ⟨hV,S.back⟩
end Go.K
namespace Go.K
open Go.Proofs
namespace TKRef13
theorem ki:TI Tryz.prog 45 (.agg #[(.int .i64 0),(.int .i64 0)]) 2 16:=by unfold TI;kernel_rfl
theorem HA:placesOf Tryz.prog 45=[(0,1),(1,1)].map some:=by kernel_rfl
end TKRef13
open TKRef13
set_option maxRecDepth 10000
theorem yh {M:aM} {w0:World} {v u:Value} {a b:List Fo} (hM:Lt M w0) (hv:((RT.fo).sl).V M w0 a v) (hu:((RT.fo).sl).V M w0 b u):
  Spec Tryz.prog 14 #[v,u] w0 (λv' w'=>v'= .bool (decide (a=b))/\Step M w0 M w' aC):=by
 have hla:=cU hv;have hlb:=cU hu;refine bh (args:=[_,_]) (fn:=Tryz.f14) Tryz.func14 G (n:=26) Tryz.ntmps14 (T.aQ (Rg.aZ G G (aL (T.aQ (ab G G (bC aT G hv G (ab G G (bC aT G hu G ?_))))))));refine fm G G G (ad ?_);refine bE G (λc1=>?_) (λc1=>?_)
 ·refine T.aQ (Rg.aZ G G (aJ ?_));refine aK G G ⟨?_,aV⟩;rw[decide_eq_false];rintro rfl;exact c1 G
 ·obtain hlen:a.length=b.length:=by omega
  refine aS (aL (T.aQ (Rg.aZ G G (aX ?_))));refine dd (σ:=Nat) (λs=>[(0,v),(1,u),(5,.int .i64 s)]) (λs w=>s<=a.length/\a.take s=b.take s/\Step M w0 M w aC) (λs=>a.length-s) 0 a07 ?_ ?_
  ·exact⟨a8 _,by simp,aV⟩
  ·rintro k w1 ⟨hk,heq,S⟩;refine aL (T.aQ (ab G G (ab G G (bC aT G hv G (cx G G G (ad ?_))))));refine bE G (λc4=>?_) (λc4=>?_)
   ·refine aS (aL (aX (aL ?_)));obtain⟨⟨d,s⟩,hx⟩:∃x,a[k]? =some x:=⟨_,aq q0⟩;obtain⟨⟨e,t⟩,hy⟩:∃y,b[k]? =some y:=⟨_,aq q0⟩;apply T.draw (M:=M) mixed [cj.eq _,cj.eq _,cj.ptr (RT.fo) (d,s),cj.V (RT.fo) (d,s),cj.eq _,cj.eq _,cj.ptr (RT.fo) (e,t),cj.V (RT.fo) (e,t),cj.eq (.bool (decide (¬((d,s)=(e,t)))))]
    ·rfl
    ·refine aE ?_ ?_
     ·intro wD E sD;refine ab G G ?_;exact a01
     refine aE ?_ ?_
     ·intro wD E sD;refine ab G G ?_;exact a01
     refine aE ?_ ?_
     ·intro wD E sD;refine au (au ?_);refine cC aT ki G G G ((hv.le S.le).le sD.le) bS q0 (λui ai G8 Jz=>?_);obtain rfl:(d,s)=ai:=cD (aI (G8.symm.trans (by rw[ar];exact hx)));exact ag7
     refine aE ?_ ?_
     ·intro wD E sD;intro v2 yL;refine bN (A:=RT.fo) cQ G ki Tg G G G (show cO (RT.fo) M wD v2 (d,s)from yL) bS (λva k8=>?_);exact ah0
     refine aE ?_ ?_
     ·intro wD E sD;refine ab G G ?_;exact a01
     refine aE ?_ ?_
     ·intro wD E sD;refine ab G G ?_;exact a01
     refine aE ?_ ?_
     ·intro wD E sD;refine au (au ?_);refine cC aT ki G G G ((hu.le S.le).le sD.le) bS q0 (λui ai G8 Jz=>?_);obtain rfl:(e,t)=ai:=cD (aI (G8.symm.trans (by rw[ar];exact hy)));exact ag7
     refine aE ?_ ?_
     ·intro wD E sD;intro v6 oC;refine bN (A:=RT.fo) cQ G ki Tg G G G (show cO (RT.fo) M wD v6 (e,t)from oC) bS (λva k8=>?_);exact ah0
     refine aE ?_ ?_
     ·intro wD E sD;intro v3 uE;intro v7 FP;obtain rfl:=Ed (show RT.fo.V M wD (d,s) v3 from uE);obtain rfl:=Ed (show RT.fo.V M wD (e,t) v7 from FP);refine Rg.acu cQ ai6 ai6 al al Tg Tg G G G G G ?_;exact a01
     exact rI
    ·intro wD6 tR;refine au (au ?_);intro azw atz;intro afY WZ;refine au (au ?_);intro azx atA;intro azy atC;refine au ?_;refine bE G (λc6=>?_) (λc6=>?_)
     ·refine T.aQ (Rg.aZ G G (aJ ?_));refine aK G G ⟨?_,S.aw tR⟩;rw[decide_eq_false];rintro rfl;rw[hx]at hy;cases hy;exact c6 G
     ·refine aS (aH (ab G G (bu G G G q0 (Rg.aZ G G ?_))));refine⟨G,k+1,a07,?_,?_⟩
      ·refine⟨by omega,?_,S.aw tR⟩;obtain⟨_,h1⟩:=an.1 hx;obtain⟨_,h2⟩:=an.1 hy;rw[eQ q0,eQ q0,heq,h1,h2,ck.1 c6]
      ·show a.length-(k+1)<a.length-k;omega
   ·refine cN (T.aQ (Rg.aZ G G (aJ ?_)));refine aK G G ⟨?_,S⟩;rw[decide_eq_true]
    rwa [bp q0,bp q0]at heq
end Go.K
namespace Go.K
open Go.Proofs
namespace TKLaw13
theorem ki:TI Tryz.prog 45 (.agg #[(.int .i64 0),(.int .i64 0)]) 2 16:=by unfold TI;kernel_rfl
theorem HA:placesOf Tryz.prog 45=[(0,1),(1,1)].map some:=by kernel_rfl
theorem E53:Enters Tryz.prog 53:=enters Tryz.func53 rfl Tg
theorem E54:Enters Tryz.prog 54:=enters Tryz.func54 rfl Tg
end TKLaw13
open TKLaw13
set_option maxRecDepth 10000
theorem Es {M:aM} {w0:World} (hM:Lt M w0):
  Spec Tryz.prog 12 #[] w0 (λv' w'=>v'= .bool true/\Step M w0 M w' aC):=by
 refine bh (args:=[]) (fn:=Tryz.f12) Tryz.func12 rfl (n:=25) Tryz.ntmps12 (T.aQ (Rg.aZ rfl rfl (T.aQ (dw (places:=[(0,1),(1,1)]) cQ ki HA rfl ⟨_,_,rfl,rfl,_,_,rfl,rfl,rfl⟩ (out:=[_,_]) ⟨0,[_],rfl,rfl,by simp[Value.cells],1,[_],rfl,rfl,by simp[Value.cells],rfl⟩ (dw (places:=[(0,1),(1,1)]) cQ ki HA rfl ⟨_,_,rfl,rfl,_,_,rfl,rfl,rfl⟩ (out:=[_,_]) ⟨0,[_],rfl,rfl,by simp[Value.cells],1,[_],rfl,rfl,by simp[Value.cells],rfl⟩ ?_)))));refine Rg.NW (A:=RT.fo) (hn:=by decide) (M:=M) (xs:=[(1,2),(3,1)]) aT ki G Tg G ⟨_,_,_,G,G,G,Dv (a:=1) (b:=2) q0 q0,_,_,_,G,G,G,Dv (a:=3) (b:=1) q0 q0,G⟩ G hM (.inl G) Tg (λu1 w1 gh s1=>?_);have pH:=s1.lt hM;refine dw (places:=[(0,1),(1,1)]) cQ ki HA rfl ⟨_,_,rfl,rfl,_,_,rfl,rfl,rfl⟩ (out:=[_,_]) ⟨0,[_],rfl,rfl,by simp[Value.cells],1,[_],rfl,rfl,by simp[Value.cells],rfl⟩ ?_;refine fz (A:=RT.fo) (hn:=by decide) (M:=M) aT ki Tg G G pH (Dv (a:=3) (b:=4) q0 q0) (.inl G) (λu2 w2 dY s2=>?_);have J8:=s2.lt pH;refine aP G G E53 (R7 J8 (gh.le s2.le) dY (by intro p hp;simp at hp;rcases hp with rfl|rfl<;>decide) (by intro p hp;simp at hp;subst hp;decide) Tg) (λu3 w3 h=>?_);obtain⟨h3,s3⟩:=h;have Qz:=s3.lt J8
 replace h3:((RT.fo).sl).V M w3 [(3,5)] u3:=by
  have e:EE 2 [(1,2),(3,1)] [(3,4)]=[(3,5)]:=by decide
  rw[<-e];exact h3
 refine Rg.aZ G G (T.aQ (ab G G (bC aT G h3 G (fe G G G (ab G G (Rg.NQ (g:=11) G (G) (ah G G (ab G G (ah G G ?_)))))))));have hl1:([((3:Int),(5:Int))]:List Fo).length=1:=rfl;refine cC aT ki G G G (h3) bS a52 (λazz apO ag5 ag6=>?_);obtain rfl:((3:Int),(5:Int))=apO:=cD (aI (ag5.symm.trans rfl));refine ah G G ?_;refine bN (A:=RT.fo) cQ G ki Tg G G G ag6 bS (λv26 aaf=>?_);obtain rfl:=Ed aaf;refine ah rfl rfl (dw (places:=[(0,1),(1,1)]) cQ ki HA rfl ⟨_,_,rfl,rfl,_,_,rfl,rfl,rfl⟩ (out:=[_,_]) ⟨0,[_],rfl,rfl,by simp[Value.cells],1,[_],rfl,rfl,by simp[Value.cells],rfl⟩ (ah rfl rfl (Rg.afn (c:=true) (λw=>by kernel_rfl) (λw=>by kernel_rfl) G G G (bg (v':= .bool (decide True)) (by simp) (aU G G G (ab G G (Rg.NQ (g:=18) G (trivial) (ah G G ?_))))))));refine Rg.NW (A:=RT.int .i64) (hn:=by decide) (M:=M) (xs:=[0,4]) az I3 G Tg G ⟨0,[4],_,G,G,G,hU q0,4,[],_,G,G,G,hU q0,G⟩ G Qz (.inr ⟨G,G⟩) Tg (λu4 w4 xM s4=>?_);have Wy:=s4.lt Qz;refine ah G G ?_;refine fz (A:=RT.int .i64) (hn:=by decide) (M:=M) az I3 Tg G G Wy (hU (x:=1) q0) (.inr ⟨G,G⟩) (λu5 w5 lP s5=>?_);have hM5:=s5.lt Wy;refine ah G G ?_;refine Rg.NW (A:=(RT.int .i64).sl) (hn:=by decide) (M:=M) (xs:=[[0,4],[1]]) gF qc G Tg G ⟨_,_,_,G,G,G,xM.le s5.le,_,_,_,G,G,G,lP,G⟩ G hM5 (.inr ⟨G,G⟩) Tg (λu6 w6 uz s6=>?_);refine ah G G ?_;refine aP G G E54 (CX uz (by intro l hl;simp at hl;rcases hl with rfl|rfl<;>exact⟨by decide,by decide,by decide⟩) Tg) (λr w h=>?_);obtain⟨rfl,rfl⟩:=h
 refine bg (v':= .int .i64 1) (congrArg (Value.int .i64) (show((KG [[0,4],[1]]:Nat):Int)=1 by decide)) (ah G G (fe G G G (aU G G G (Rg.aZ G G (aJ ?_)))));exact aK G G ⟨G,(((((s1.aw s2).aw s3).aw s4).aw s5).aw s6)⟩
end Go.K
namespace Go.K
open Go.Proofs
namespace TKRefuses13
theorem rG:TI Tryz.prog 26 (.slice none 0 0) 1 24:=by unfold TI;kernel_rfl
theorem gg:TI Tryz.prog 28 (.agg #[(.int .i64 0),(.string ⟨#[]⟩),(.string ⟨#[]⟩),(.slice none 0 0),(.slice none 0 0)]) 5 88:=by unfold TI;kernel_rfl
theorem E10:Enters Tryz.prog 10:=enters Tryz.func10 rfl Tg
theorem E11:Enters Tryz.prog 11:=enters Tryz.func11 rfl Tg
theorem E12:Enters Tryz.prog 12:=enters Tryz.func12 rfl Tg
theorem E13:Enters Tryz.prog 13:=enters Tryz.func13 rfl Tg
theorem E14:Enters Tryz.prog 14:=enters Tryz.func14 rfl Tg
theorem E15:Enters Tryz.prog 15:=enters Tryz.func15 rfl Tg
theorem E16:Enters Tryz.prog 16:=enters Tryz.func16 rfl Tg
end TKRefuses13
open TKRefuses13
set_option maxRecDepth 10000
theorem JO {L:List En} {q:Qy} (h:L.length<=100000):(if fP q 1=0 then iq (λe=>eF e.1.2 q) 0 L else[]).length<=140737488355328:=by
 split
 ·have:=kC (f:=λe=>eF e.1.2 q) L 0;omega
 ·exact a8 _
theorem Ni {L:List En} {q:Qy}:(if fP q 1=0 then jk L (ka [] L.length) q L.length else[])=(if fP q 1=0 then iq (λe=>eF e.1.2 q) 0 L else[]):=by
 rw[JL λi hi=>by rw[Vv hi];rfl]
end Go.K
namespace Go.K
open Go.Proofs
namespace TKR12C
theorem rG:TI Tryz.prog 26 (.slice none 0 0) 1 24:=by unfold TI;kernel_rfl
theorem gg:TI Tryz.prog 28 (.agg #[(.int .i64 0),(.string ⟨#[]⟩),(.string ⟨#[]⟩),(.slice none 0 0),(.slice none 0 0)]) 5 88:=by unfold TI;kernel_rfl
theorem Tb:placesOf Tryz.prog 28=[(0,1),(1,2),(3,1),(4,1)].map some:=by kernel_rfl
theorem E17:Enters Tryz.prog 17:=enters Tryz.func17 rfl Tg
theorem E59:Enters Tryz.prog 59:=enters Tryz.func59 rfl Tg
end TKR12C
open TKR12C
set_option maxRecDepth 10000
theorem mU (q:Qy) (deep:Nat):fk q deep=if(2<=fI q.kind/\fI q.kind<=4)/\deep<4/\¬q.kids=[]then .mk (fI q.kind) ([],[]) [] ((q.kids.map λx=>fk x (deep+1)).take (if fI q.kind=4 then 1 else 3))else if fI q.kind=5/\¬jQ q.words=[]then .mk 5 (fi q.term.1,[]) (jQ q.words) []else KM q.term:=by
 obtain⟨k,t,ws,ks⟩:=q;rw[fk,tD];rfl
theorem Hj {M:aM} {w:World} {q:Qy} {v:Value} {mm:Nat} (h:(RT.qy 0).V M w q v):(RT.qy mm).V M w q v:=by have:=OF h mm;rwa [nQ]at this
theorem NN {p:Prop} [Decidable p] (h: ¬p):some (Value.bool false)=some (Value.bool (decide p)):=by rw[decide_eq_false h]
theorem J9y {a b c:Prop} [Decidable a] [Decidable b] [Decidable c] (h:a) (h2:b):some (Value.bool (decide c))=some (Value.bool (decide (a/\b/\c))):=congrArg _ (congrArg _ (decide_eq_decide.2 ⟨λx=>⟨h,h2,x⟩,λx=>x.2.2⟩))
theorem Vy (k:Int):0<=Eb k/\1+Eb k%5=fI k:=⟨by unfold Eb;split<;>omega,rfl⟩
theorem Bh {M:aM} {n:Nat} {q:Qy} {v:Value} {deep mm:Nat} (w0:World) (hM:Lt M w0) (hv:(RT.qy (n+1)).V M w0 q v) (hs:CW q) (hd:deep<=4) (ih:deep<4->∃m',mm=m'+1/\∀x∈q.kids,∀(K0:Nat) (M:aM) (w:World) (v:Value),K0=deep+1->Lt M w->(RT.qy n).V M w x v->Spec Tryz.prog 17 #[v,.int .i64 (K0:Int)] w (λv' w'=>(RT.qy m').V M w' (fk x K0) v'∧Step M w M w' aC)):
  Spec Tryz.prog 17 #[v,.int .i64 (deep:Int)] w0 (λv w=>(RT.qy mm).V M w (fk q deep) v/\Step M w0 M w aC):=by
 have gv:=hM;obtain⟨Lj,hsk⟩:=WU.1 hs;have qA:=hv;obtain⟨_,_,_,hkr,rW,_,_⟩:=mF qA;clear qA;have hkg:=CR q.kind;have G8:=Vy q.kind;have yH:(fi q.term.1).length<=140737488355328:=by unfold fi;split;exact rW.1;decide
 have aa1:(if cR q.term.2=true then q.term.2 else[97]).length<=140737488355328:=by split;exact rW.2;decide
 have hct:(if fI q.kind=4 then 1 else 3)<=3:=by split<;>decide
 have nX:([]:List UInt8).length<=140737488355328:=by decide
 refine bh (args:=[_,_]) (fn:=Tryz.f17) Tryz.func17 G (n:=128) Tryz.ntmps17 ?_;have S:Step M w0 M w0 aC:=aV;refine T.aQ ?_;refine ef (A:=RT.qy (n+1)) (a:=q) G G hM hv (dK _) (λu2 Eg dY iA _=>?_);replace hv:=hv.le iA.le;replace hM:=iA.lt hM;have:=S.size;replace S:=S.aw iA;refine ew M gg G (λgu tv H8 H9 cG iG=>?_);obtain⟨fu,gI⟩:∃M',M'=ins M gu:=⟨_,rfl⟩;rw[<-gI]at iG;have b9:fu gu:=by rw[gI];exact .inl G
 change tv.heap[gu]? =some (.cells #[.int .i64 0,.string ⟨#[]⟩,.string ⟨#[]⟩,.slice none 0 0,.slice none 0 0] _ _)at cG;replace dY:=dY.le (aG _) iG.le;replace hM:=iG.lt hM;have:=S.size;replace S:=S.aw iG;refine ad (T.aQ ?_);refine ao (A:=RT.qy (n+1)) (B:=RT.fd) ak G G kF Tg (BG n) G G (aG _) dY bS (λH4 lY=>?_);refine ao (A:=RT.fd) (B:=RT.str) br G G I9 Tg EF G G Tg lY bS (λu11 Jl=>?_);refine bB aA G G G G G Jl bS (λv12 Ei=>?_);obtain rfl:=dS Ei;refine Rg.aZ G G (T.aQ (ab G G ?_));refine aP G G E58 (px q.term.1 rW.1 _) (λr21 w21 hc=>?_);obtain⟨rfl,rfl⟩:=hc;refine Rg.aZ G G ?_;refine lB [(1,.int .i64 (deep:Int)),(2,u2),(4,.pointer (some ⟨gu,0,none⟩)),(5,sv (fi q.term.1))] ?_ ?_
 ·refine T.aQ (ab rfl rfl (fV rfl rfl (bg (v':= .bool (decide (eA q.term.1=false))) (by cases eA q.term.1<;>rfl) (ad ?_))));refine bE G (λc3=>?_) (λc3=>?_)
  ·refine aH (Rg.aZ G G ?_);exact⟨G,G,G,.cons G ac0⟩
  ·refine aS ?_;exact⟨G,G,G,.cons G ac0⟩
 ·refine T.aQ ?_;refine ao (A:=RT.qy (n+1)) (B:=RT.int .i64) ak G G I3 Tg (yK n) G G (aG _) dY bS (λu50 Q7=>?_);refine bV al G G Q7 bS (λaiM=>?_);refine bg (v':= .int .i64 q.kind) G (Rg.aZ G G ?_);refine lB [(1,.int .i64 (deep:Int)),(2,u2),(4,.pointer (some ⟨gu,0,none⟩)),(5,sv (fi q.term.1)),(7,.int .i64 (Eb q.kind))] ?_ ?_
  ·refine T.aQ (ab G G (cx G G G (ad ?_)));refine bE G (λc6=>?_) (λc6=>?_)
   ·refine aH (ab G G (bu G G G q0 (Rg.neg G G q0 (Rg.aZ G G ?_))));exact⟨G,G,G,.cons G (.cons G (.cons G (.cons G (.cons (congrArg (λz=>some (Value.int .i64 z)) (by unfold Eb;first|rw[if_pos c6]|rw[if_neg c6])) (.nil)))))⟩
   ·refine aS ?_;exact⟨G,G,G,.cons G (.cons G (.cons G (.cons G (.cons (congrArg (λz=>some (Value.int .i64 z)) (by unfold Eb;first|rw[if_pos c6]|rw[if_neg c6])) (.nil)))))⟩
  ·refine T.aQ (ab rfl rfl (Rg.vZ rfl rfl rfl ⟨G8.1,by decide⟩ (bu rfl rfl rfl q0 (bg (v':= .int .i64 (fI q.kind)) G (Rg.aZ G G (aL ?_))))));refine lB [(1,.int .i64 (deep:Int)),(2,u2),(4,.pointer (some ⟨gu,0,none⟩)),(5,sv (fi q.term.1)),(7,.int .i64 (fI q.kind)),(48,.bool (decide ((2<=fI q.kind/\fI q.kind<=4)/\(deep:Int)<4/\0<(q.kids.length:Int))))] ?_ ?_
   ·refine aH (ab G G (eB G G G (ab G G ?_)));refine aO (g:=35) G (λpI=>?_) (λpI=>?_)
    ·refine ah G G (ab G G (ah G G (fM G G G (aU G G G (ab G G ?_)))));refine aO (g:=39) G (λEt=>?_) (λEt=>?_)
     ·refine ah G G (ab G G (ah G G (cx G G G (aU G G G (ab G G ?_)))));refine aO (g:=43) G (λvK=>?_) (λvK=>?_)
      ·refine ah G G ?_;refine ao (A:=RT.qy (n+1)) (B:=((RT.qy n).sl (aG n))) ak G G rG Nat.one_pos (Bv n) G G (aG _) dY bS (λazA ag8=>?_);refine ah G G ?_;refine bB bD G G G G G ag8 bS (λazB W9=>?_);refine ah G G ?_;have zg:=cU W9;refine bC (A:=RT.qy n) (hn:=aG _) bD G W9 G (ah G G (eR G G G (aU G G G (ad ?_))));exact⟨G,G,G,.cons G a34⟩
      ·refine aj G G G G (aj G G G G (aj G G G G (aj G G G G (aB G G G (ad ?_)))));exact⟨G,G,G,.cons G a34⟩
     ·refine aj G G G G (aj G G G G (aB G G G (ab G G (aj G G G G (aj G G G G (aj G G G G (aj G G G G (aB G G G (ad ?_)))))))));exact⟨G,G,G,.cons G a34⟩
    ·refine aj G G G G (aj G G G G (aB G G G (ab G G (aj G G G G (aj G G G G (aB G G G (ab G G (aj G G G G (aj G G G G (aj G G G G (aj G G G G ?_)))))))))));refine aB G G G (ad ?_);exact⟨G,G,G,.cons G a34⟩
   ·refine bE G (λc9=>?_) (λc9=>?_)
    ·obtain⟨m,rfl,ihk⟩:=ih q0;have hkn: ¬q.kids=[]:=λe=>by rw[e]at c9;simp at c9
     refine T.aQ (ab rfl rfl (dw (places:=[(0,1),(1,2),(3,1),(4,1)]) ak gg Tb rfl ⟨_,_,rfl,rfl,rfl⟩ (out:=[_,.string ⟨#[]⟩,.string ⟨#[]⟩,.slice none 0 0,.slice none 0 0]) ⟨0,[_],rfl,rfl,by simp[Value.cells],rfl⟩ ?_));refine ew fu gg G (λyi Ww atD atE yj uQ=>?_);obtain⟨SC,K1⟩:∃M',M'=ins fu yi:=⟨_,rfl⟩;rw[<-K1]at uQ;have vL:SC yi:=by rw[K1];exact .inl G
     change Ww.heap[yi]? =some (.cells #[.int .i64 0,.string ⟨#[]⟩,.string ⟨#[]⟩,.slice none 0 0,.slice none 0 0] _ _)at yj;have:=ae cG;replace b9:=(uQ.mem _ this).2 b9;replace cG:=uQ.aF cG;replace dY:=dY.le (aG _) uQ.le;replace hM:=uQ.lt hM;have:=S.size;replace S:=S.aw uQ;refine cY (M:=SC) (vs:=[.int .i64 (fI q.kind),.string ⟨#[]⟩,.string ⟨#[]⟩,.slice none 0 0,.slice none 0 0]) gg G G a81 rfl rfl yj vL (λw10 g10 qv=>?_);have:=ae cG;replace b9:=(qv.mem _ this).2 b9;replace cG:=qv.bU cG a04;have:=ae yj;replace vL:=(qv.mem _ this).2 vL;replace dY:=dY.le (aG _) qv.le;replace hM:=qv.lt hM;have:=S.size;replace S:=S.trans qv (λk hk h=>by have h:_=_:=h;subst h;first|(exfalso;omega)|(show _<=_;omega)|exact⟨by first|omega|assumption,(S.mem _ hk).1 ((qv.mem _ (ae yj)).1 vL)⟩|exact .inl rfl|exact .inr rfl|exact .inr (.inl rfl)|exact .inr (.inr rfl)|exact .inr (.inr (.inl rfl))|exact rfl);have SD:=g10;clear yj;have yj:=SD;clear SD;refine ad (T.aQ ?_);obtain⟨B,hBe⟩:∃B,B=w10.heap.size:=⟨_,rfl⟩;have xy:gu<B/\yi<B/\w0.heap.size<=B:=⟨by have:=ae cG;omega,by have:=ae yj;omega,by have:=S.size;omega⟩;refine Rg.aZ G G ?_;refine lB [(1,.int .i64 (deep:Int)),(2,u2),(4,.pointer (some ⟨gu,0,none⟩)),(8,.pointer (some ⟨yi,0,none⟩)),(9,.int .i64 ((if fI q.kind=4 then 1 else 3:Nat):Int))] ?_ ?_
     ·refine T.aQ (ab G G (fe G G G (ad ?_)));refine bE G (λFs=>?_) (λFs=>?_)
      ·refine aH (Rg.aZ G G ?_);exact⟨G,G,G,.cons G (.cons G (.cons G (.cons G (.cons (congrArg (λz:Nat=>some (Value.int .i64 (z:Int))) (by first|rw[if_pos Fs]|rw[if_neg Fs])) (.nil)))))⟩
      ·refine aS ?_;exact⟨G,G,G,.cons G (.cons G (.cons G (.cons G (.cons (congrArg (λz:Nat=>some (Value.int .i64 (z:Int))) (by first|rw[if_pos Fs]|rw[if_neg Fs])) (.nil)))))⟩
     ·refine aL (T.aQ (Rg.aZ G G (aX ?_)));refine dd (σ:=Nat×Value) (λq'=>[(1,.int .i64 (deep:Int)),(2,u2),(4,.pointer (some ⟨gu,0,none⟩)),(8,.pointer (some ⟨yi,0,none⟩)),(9,.int .i64 ((if fI q.kind=4 then 1 else 3:Nat):Int)),(10,.int .i64 (q'.1:Int))]) (λq' w=>∃M',Lt M' w/\Step M w0 M' w aC/\cO (RT.qy (n+1)) M' w u2 q/\w.heap[gu]? =some (.cells #[.int .i64 0,.string ⟨#[]⟩,.string ⟨#[]⟩,.slice none 0 0,.slice none 0 0] 28 (0,0))/\M' gu/\w.heap[yi]? =some (.cells #[.int .i64 (fI q.kind),.string ⟨#[]⟩,.string ⟨#[]⟩,.slice none 0 0,q'.2] 28 (0,0))/\M' yi/\Own (RT.qy m) 28 M' w B q'.2 ((q.kids.map λx=>fk x (deep+1)).take q'.1)/\B<=w.heap.size/\q'.1<=q.kids.length/\q'.1<=(if fI q.kind=4 then 1 else 3:Nat)) (λq'=>q.kids.length-q'.1) (0,.slice none 0 0) a14 ?_ ?_
      ·exact⟨_,hM,S,dY,cG,b9,yj,vL,eL _ _ _ _ _,Nat.le_of_eq hBe,a8 _,a8 _⟩
      ·clear hM S dY cG b9;rintro⟨i,vk⟩ w ⟨M2,hM,S,dY,cG,b9,g8,fW,fa,hB,hi⟩;dsimp only at g8 fa hi ⊢;refine aL (T.aQ (ab G G ?_));refine ao (A:=RT.qy (n+1)) (B:=((RT.qy n).sl (aG n))) ak G G rG Nat.one_pos (Bv n) G G (aG _) dY bS (λazD ag9=>?_);refine bB bD G G G G G ag9 bS (λv152 Xa=>?_);have zg:=cU Xa;refine bC (A:=RT.qy n) (hn:=aG _) bD G Xa G (cx G G G (ab G G ?_));refine aO (g:=58) G (λKv=>?_) (λKv=>?_)
       ·refine ah G G (ab G G (ah G G (ab G G (ah G G (cx G G G (aU G G G (ad ?_)))))));refine bE G (λFq=>?_) (λFq=>?_)
        ·refine aS (aL (aX ?_));apply T.n4 9 [0,1] 2 aC mixed rfl rfl rfl rfl;intro Zx apS;have uT:=apS M2;have:=ae cG;replace b9:=(uT.mem _ this).2 b9;replace cG:=uT.aF cG;have:=ae g8;replace fW:=(uT.mem _ this).2 fW;replace g8:=uT.aF g8;replace dY:=dY.le (aG _) uT.le;replace fa:=fa.bP uT;replace hM:=uT.lt hM;have:=S.size;replace S:=S.aw uT;refine aY (o':=4) ak G G rG Tg G G (Rg.dh (aR bD G G G (by first|assumption|exact ch uT Xf) G (Rg.dh ?_)));refine ao (A:=RT.qy (n+1)) (B:=((RT.qy n).sl (aG n))) ak G G rG Nat.one_pos (Bv n) G G (aG _) dY bS (λazE aha=>?_);refine Rg.dh ?_;refine bB bD G G G G G aha bS (λv173 ahb=>?_);refine Rg.dh (ab G G (Rg.dh ?_));obtain⟨x,hx⟩:∃x,(q.kids)[i]? =some x:=⟨_,aq q0⟩;refine cC (A:=RT.qy n) (hn:=aG _) (M:=M2) bD (IQ gg _) G G G ahb bS q0 (λazF x_ gp ahc=>?_);rw[ar]at gp;obtain rfl:=aI (hx.symm.trans gp);refine Rg.dh ?_;refine bN (A:=RT.qy (n)) ak G (IQ gg _) (aG _) (dK _) G G ahc bS (λazG ahd=>?_);refine Rg.dh (ab G G (Rg.dh (bu G G G q0 (bg (v':= .int .i64 ((deep+1:Nat):Int)) (by congr 1) (Rg.dh (fL (⟨jo ⟨kj ak G rG Tg,⟨gR G g8 (λh=>h),trivial⟩⟩,?_⟩)))))));have kp:=kn aC Zx;refine aP G G E17 (ihk x (av hx) (deep+1) _ _ _ G hM ahd) (λr9 w9 hc=>?_);obtain⟨hr9,s9⟩:=hc;have:=ae cG;replace b9:=(s9.mem _ this).2 b9;replace cG:=s9.aF cG;have:=ae g8;replace fW:=(s9.mem _ this).2 fW;replace g8:=s9.aF g8;replace dY:=dY.le (aG _) s9.le
         replace fa:=fa.bP s9;replace hM:=s9.lt hM;have:=S.size;replace S:=S.aw s9;refine(fun(kp:fG _ _ _)=>ad ⟨G,G,λ_=>kp,?_⟩) a02;refine fz (A:=RT.qy m) (hn:=aG _) (M:=M2) bD (IQ gg _) (by rw[Dy];decide) rfl rfl hM (hr9) (.inl (dK _)) (λapT apU vM mV=>?_);have:=ae cG;replace b9:=(mV.mem _ this).2 b9;replace cG:=mV.aF cG;have:=ae g8;replace fW:=(mV.mem _ this).2 fW;replace g8:=mV.aF g8;replace dY:=dY.le (aG _) mV.le;replace hr9:=hr9.le mV.le;replace fa:=fa.bP mV;replace hM:=mV.lt hM;have:=S.size;replace S:=S.aw mV;refine(fun(kp:fG _ _ _)=>ad ⟨G,G,λ_=>kp,?_⟩) a02;refine dJ (M:=M2) (base:=B) bD (IQ gg _) (by rw[Dy];rfl) rfl rfl rfl fa vM bS (by rw[a7,bW,dW];omega) (by rw[a7,bW,dW];omega) (by have h1:=uT.size;have h2:=s9.size;have h3:=mV.size;omega) (λSE aa4 apV Vz nL=>?_);have:=ae cG;replace b9:=(nL.mem _ this).2 b9;replace cG:=nL.bU cG (λh=>by have h1:=(fa.base _ h).1;have h2:=xy.1;omega);have:=ae g8;replace fW:=(nL.mem _ this).2 fW;replace g8:=nL.bU g8 (λh=>by have h1:=(fa.base _ h).1;have h2:=xy.2.1;omega);replace dY:=dY.le (aG _) nL.le;replace hr9:=hr9.le nL.le;replace vM:=vM.le nL.le;replace hM:=nL.lt hM;have:=S.size;replace S:=S.dX nL fa xy.2.2;replace fa:=Vz;refine ad ⟨G,G,λh=>absurd G h,aY (o':=4) ak G G rG Tg G G (ad ⟨G,G,λh=>absurd G h,?_⟩)⟩
         refine cv (M:=aa4) rG rfl rfl g8 rfl (by obtain⟨_,_,he,_⟩:=fa.isSlice;rw[he];rfl) fW (λaa5 SF mW=>?_);change aa5.heap[_]? =some (Obj.cells #[.int .i64 (fI q.kind),.string ⟨#[]⟩,.string ⟨#[]⟩,.slice none 0 0,SE] _ _)at SF;have:=ae cG;replace b9:=(mW.mem _ this).2 b9;replace cG:=mW.bU cG a04;have:=ae g8;replace fW:=(mW.mem _ this).2 fW;replace dY:=dY.le (aG _) mW.le;replace hr9:=hr9.le mW.le;replace vM:=vM.le mW.le;replace fa:=fa.step mW (λc hc (h:c=_)=>by have h1:=(fa.base c hc).1;have h2:=xy.1;have h3:=xy.2.1;omega);replace hM:=mW.lt hM;have:=S.size;replace S:=S.trans mW (λk hk h=>by have h:_=_:=h;subst h;first|(exfalso;omega)|(show _<=_;omega)|exact⟨by first|omega|assumption,(S.mem _ hk).1 ((mW.mem _ (ae g8)).1 fW)⟩|exact .inl rfl|exact .inr rfl|exact .inr (.inl rfl)|exact .inr (.inr rfl)|exact .inr (.inr (.inl rfl))|exact rfl);have g8_:=SF;clear g8;have g8:=g8_;clear g8_;refine ad ⟨G,G,λh=>absurd G h,nT (aH (ab G G (bu G G G q0 (Rg.aZ G G ?_))))⟩;refine⟨G,(i+1,SE),a14,?_,?_⟩
         ·exact⟨_,hM,S,dY,cG,b9,g8,fW,by rw[bY,ek,hx];exact fa,by have h1:=uT.size;have h2:=s9.size;have h3:=mV.size;have h4:=nL.size;have h5:=mW.size;omega,by omega,by omega⟩
         ·dsimp only;omega
        ·refine cN (T.aQ (eC (vs:=[.int .i64 (fI q.kind),.string ⟨#[]⟩,.string ⟨#[]⟩,.slice none 0 0,vk]) ak G gg G G G g8 ?_));refine cY (M:=M2) (vs:=[.int .i64 (fI q.kind),.string ⟨#[]⟩,.string ⟨#[]⟩,.slice none 0 0,vk]) gg G G ah3 rfl rfl cG b9 (λw18 g18 Hk=>?_);have:=ae cG;replace b9:=(Hk.mem _ this).2 b9;have:=ae g8;replace fW:=(Hk.mem _ this).2 fW;replace g8:=Hk.bU g8 a04;replace dY:=dY.le (aG _) Hk.le;replace fa:=fa.step Hk (λc hc (h:c=_)=>by have h1:=(fa.base c hc).1;have h2:=xy.1;have h3:=xy.2.1;omega);replace hM:=Hk.lt hM;have:=S.size;replace S:=S.trans Hk (λk hk h=>by have h:_=_:=h;subst h;first|(exfalso;omega)|(show _<=_;omega)|exact⟨by first|omega|assumption,(S.mem _ hk).1 ((Hk.mem _ (ae cG)).1 b9)⟩|exact .inl rfl|exact .inr rfl|exact .inr (.inl rfl)|exact .inr (.inr rfl)|exact .inr (.inr (.inl rfl))|exact rfl);have ga:=g18;clear cG;have cG:=ga;clear ga;refine ad (aJ ?_);have DA:=yF (hn:=aG m) gv S (fa.jf xy.2.2) (by rw[a7,bW];omega);refine ku (vs:=[.int .i64 (fI q.kind),.string ⟨#[]⟩,.string ⟨#[]⟩,.slice none 0 0,vk]) G G ak G gg G cG ⟨?_,S.back⟩;rw[mU,if_pos ⟨c9.1,by omega,hkn⟩,ix.2 (show min (if fI q.kind=4 then 1 else 3:Nat) (q.kids.map λx=>fk x (deep+1)).length=min i (q.kids.map λx=>fk x (deep+1)).length by rw[bW];omega)];exact Fi ⟨by omega,by omega⟩ ⟨nX,nX⟩ gZ DA
       ·refine aj G G G G (aj G G G G (aj G G G G (aB G G G (ad (jF G (cN (T.aQ (eC (vs:=[.int .i64 (fI q.kind),.string ⟨#[]⟩,.string ⟨#[]⟩,.slice none 0 0,vk]) ak G gg G G G g8 ?_))))))));refine cY (M:=M2) (vs:=[.int .i64 (fI q.kind),.string ⟨#[]⟩,.string ⟨#[]⟩,.slice none 0 0,vk]) gg G G ah3 rfl rfl cG b9 (λw18 g18 Hk=>?_);have:=ae cG;replace b9:=(Hk.mem _ this).2 b9;have:=ae g8;replace fW:=(Hk.mem _ this).2 fW;replace g8:=Hk.bU g8 a04;replace dY:=dY.le (aG _) Hk.le;replace fa:=fa.step Hk (λc hc (h:c=_)=>by have h1:=(fa.base c hc).1;have h2:=xy.1;have h3:=xy.2.1;omega);replace hM:=Hk.lt hM;have:=S.size;replace S:=S.trans Hk (λk hk h=>by have h:_=_:=h;subst h;first|(exfalso;omega)|(show _<=_;omega)|exact⟨by first|omega|assumption,(S.mem _ hk).1 ((Hk.mem _ (ae cG)).1 b9)⟩|exact .inl rfl|exact .inr rfl|exact .inr (.inl rfl)|exact .inr (.inr rfl)|exact .inr (.inr (.inl rfl))|exact rfl);have ga:=g18;clear cG;have cG:=ga;clear ga;refine ad (aJ ?_);have DA:=yF (hn:=aG m) gv S (fa.jf xy.2.2) (by rw[a7,bW];omega);refine ku (vs:=[.int .i64 (fI q.kind),.string ⟨#[]⟩,.string ⟨#[]⟩,.slice none 0 0,vk]) G G ak G gg G cG ⟨?_,S.back⟩;rw[mU,if_pos ⟨c9.1,by omega,hkn⟩,ix.2 (show min (if fI q.kind=4 then 1 else 3:Nat) (q.kids.map λx=>fk x (deep+1)).length=min i (q.kids.map λx=>fk x (deep+1)).length by rw[bW];omega)];exact Fi ⟨by omega,by omega⟩ ⟨nX,nX⟩ gZ DA
    ·have h9: ¬((2<=fI q.kind/\fI q.kind<=4)/\deep<4/\¬q.kids=[]):=λh=>c9 ⟨h.1,by omega,by have:=dC.2 h.2.2;omega⟩
     refine aS (aL (T.aQ (ab G G (fe G G G (ad ?_)))));refine bE G (λV4=>?_) (λV4=>?_)
     ·refine T.aQ (ab rfl rfl (dw (places:=[(0,1),(1,1)]) br kF XZ rfl ⟨_,_,rfl,rfl,rfl⟩ (out:=[_,.string ⟨#[]⟩]) ⟨0,[_],rfl,rfl,by simp[Value.cells],rfl⟩ (dw (places:=[(0,1),(1,2),(3,1),(4,1)]) ak gg Tb rfl ⟨_,_,rfl,rfl,_,_,rfl,rfl,rfl⟩ (out:=[_,_,_,.slice none 0 0,.slice none 0 0]) ⟨0,[_],rfl,rfl,by simp[Value.cells],1,[_,_],rfl,rfl,by simp[Value.cells],rfl⟩ ?_)));refine ew fu gg G (λBi ahf atF atG ym Da=>?_);obtain⟨SG,K2⟩:∃M',M'=ins fu Bi:=⟨_,rfl⟩;rw[<-K2]at Da;have vN:SG Bi:=by rw[K2];exact .inl G
      change ahf.heap[Bi]? =some (.cells #[.int .i64 0,.string ⟨#[]⟩,.string ⟨#[]⟩,.slice none 0 0,.slice none 0 0] _ _)at ym;have:=ae cG;replace b9:=(Da.mem _ this).2 b9;replace cG:=Da.aF cG;replace dY:=dY.le (aG _) Da.le;replace hM:=Da.lt hM;have:=S.size;replace S:=S.aw Da;refine cY (M:=SG) (vs:=[.int .i64 5,sv (fi q.term.1),.string ⟨#[]⟩,.slice none 0 0,.slice none 0 0]) gg G G a81 rfl rfl ym vN (λw20 g20 s20=>?_);have:=ae cG;replace b9:=(s20.mem _ this).2 b9;replace cG:=s20.bU cG a04;have:=ae ym;replace vN:=(s20.mem _ this).2 vN;replace dY:=dY.le (aG _) s20.le;replace hM:=s20.lt hM;have:=S.size;replace S:=S.trans s20 (λk hk h=>by have h:_=_:=h;subst h;first|(exfalso;omega)|(show _<=_;omega)|exact⟨by first|omega|assumption,(S.mem _ hk).1 ((s20.mem _ (ae ym)).1 vN)⟩|exact .inl rfl|exact .inr rfl|exact .inr (.inl rfl)|exact .inr (.inr rfl)|exact .inr (.inr (.inl rfl))|exact rfl);have SH:=g20;clear ym;have ym:=SH;clear SH;refine ad (aL (T.aQ ?_));obtain⟨B,hBe⟩:∃B,B=w20.heap.size:=⟨_,rfl⟩;have xy:gu<B/\Bi<B/\w0.heap.size<=B:=⟨by have:=ae cG;omega,by have:=ae ym;omega,by have:=S.size;omega⟩;refine Rg.aZ G G (aX ?_);refine dd (σ:=Nat×Value) (λq'=>[(1,.int .i64 (deep:Int)),(2,u2),(4,.pointer (some ⟨gu,0,none⟩)),(5,sv (fi q.term.1)),(11,.pointer (some ⟨Bi,0,none⟩)),(12,.int .i64 (q'.1:Int))]) (λq' w=>∃M',Lt M' w/\Step M w0 M' w aC/\cO (RT.qy (n+1)) M' w u2 q/\w.heap[gu]? =some (.cells #[.int .i64 0,.string ⟨#[]⟩,.string ⟨#[]⟩,.slice none 0 0,.slice none 0 0] 28 (0,0))/\M' gu/\w.heap[Bi]? =some (.cells #[.int .i64 5,sv (fi q.term.1),.string ⟨#[]⟩,q'.2,.slice none 0 0] 28 (0,0))/\M' Bi/\Own RT.str 9 M' w B q'.2 ((q.words.take q'.1).filter cR)/\B<=w.heap.size/\q'.1<=q.words.length/\q'.1<=3) (λq'=>q.words.length-q'.1) (0,.slice none 0 0) a14 ?_ ?_
      ·exact⟨_,hM,S,dY,cG,b9,ym,vN,eL _ _ _ _ _,Nat.le_of_eq hBe,a8 _,a8 _⟩
      ·clear hM S dY cG b9;rintro⟨i,vk⟩ w ⟨M2,hM,S,dY,cG,b9,g8,fW,oR,hB,hi⟩;dsimp only at g8 oR hi ⊢;refine aL (T.aQ (ab G G ?_));refine ao (A:=RT.qy (n+1)) (B:=(RT.str.sl)) ak G G rA Tg (EG n) G G (aG _) dY bS (λazJ ahg=>?_);refine bB ax G G G G G ahg bS (λv222 Xb=>?_);have H5:=cU Xb;refine bC ax G Xb G (cx G G G (ab G G ?_));refine aO (g:=89) G (λahh=>?_) (λahh=>?_)
       ·refine ah G G (ab G G (ah G G (cx G G G (aU G G G (ad ?_)))));refine bE G (λc22=>?_) (λc22=>?_)
        ·refine aS (aL (aX (T.aQ ?_)));refine ao (A:=RT.qy (n+1)) (B:=(RT.str.sl)) ak G G rA Tg (EG n) G G (aG _) dY bS (λazK ahi=>?_);refine bB ax G G G G G ahi bS (λazL ahj=>?_);refine ab G G ?_;obtain⟨x,hx⟩:∃x,q.words[i]? =some x:=⟨_,aq q0⟩;have hwo:=Lj.w x (av hx);refine cC ax I9 G G G ahj bS q0 (λazN x_ gp ahk=>?_);rw[ar]at gp;obtain rfl:=aI (hx.symm.trans gp);refine bB aA G G G G G ahk bS (λazO ahl=>?_);obtain rfl:=dS ahl;refine aP G G E59 (k3 _ hM hwo) (λazP azQ hc=>?_);obtain⟨rfl,Bj⟩:=hc;have:=ae cG;replace b9:=(Bj.mem _ this).2 b9;replace cG:=Bj.aF cG;have:=ae g8;replace fW:=(Bj.mem _ this).2 fW;replace g8:=Bj.aF g8;replace dY:=dY.le (aG _) Bj.le;replace oR:=oR.bP Bj;replace hM:=Bj.lt hM;have:=S.size;replace S:=S.aw Bj;refine Rg.aZ G G (T.aQ (ab G G (bg (v':= .bool (decide (cR x=true))) (by simp) (ad ?_))));refine bE G (λX8=>?_) (λX8=>?_)
         ·apply T.n4 7 [0,1] 1 aC mixed rfl rfl rfl rfl;intro apW apX;have Bk:=apX M2;have:=ae cG;replace b9:=(Bk.mem _ this).2 b9;replace cG:=Bk.aF cG;have:=ae g8;replace fW:=(Bk.mem _ this).2 fW;replace g8:=Bk.aF g8;replace dY:=dY.le (aG _) Bk.le;replace oR:=oR.bP Bk;replace hM:=Bk.lt hM;have:=S.size;replace S:=S.aw Bk;refine aY (o':=3) ak G G rA Tg G G (Rg.dh (aR ax G G G (by first|assumption|exact ch Bk Xf) G (Rg.dh ?_)));refine ao (A:=RT.qy (n+1)) (B:=(RT.str.sl)) ak G G rA Tg (EG n) G G (aG _) dY bS (λazR ahm=>?_);refine Rg.dh ?_;refine bB ax G G G G G ahm bS (λazS ahn=>?_);refine Rg.dh (ab G G (Rg.dh ?_));refine cC ax I9 G G G ahn bS q0 (λazT x_ gp aho=>?_);rw[ar]at gp;obtain rfl:=aI (hx.symm.trans gp);refine Rg.dh ?_;refine bB aA G G G G G aho bS (λazU ahp=>?_);refine Rg.dh (fL (⟨jo ⟨kj ak G rA Tg,⟨gR G g8 (λh=>h),trivial⟩⟩,?_⟩));have kp:=kn aC apW;refine fz (A:=RT.str) (hn:=by decide) (M:=M2) ax I9 Tg G G hM (ahp) (.inr ⟨G,G⟩) (λatH atI Bm sz=>?_);have:=ae cG;replace b9:=(sz.mem _ this).2 b9;replace cG:=sz.aF cG;have:=ae g8;replace fW:=(sz.mem _ this).2 fW;replace g8:=sz.aF g8;replace dY:=dY.le (aG _) sz.le;replace oR:=oR.bP sz;replace hM:=sz.lt hM;have:=S.size;replace S:=S.aw sz;refine(fun(kp:fG _ _ _)=>ad ⟨G,G,λ_=>kp,?_⟩) a02
          have hfw:=eu cR (q.words.take i);rw[a7]at hfw;refine dJ (M:=M2) (base:=B) ax I9 rfl rfl rfl rfl oR Bm bS a11 a11 (by have h0:=Bj.size;have h1:=Bk.size;have h3:=sz.size;omega) (λXc ahq atJ aa8 vP=>?_);have:=ae cG;replace b9:=(vP.mem _ this).2 b9;replace cG:=vP.bU cG (λh=>by have h1:=(oR.base _ h).1;have h2:=xy.1;omega);have:=ae g8;replace fW:=(vP.mem _ this).2 fW;replace g8:=vP.bU g8 (λh=>by have h1:=(oR.base _ h).1;have h2:=xy.2.1;omega);replace dY:=dY.le (aG _) vP.le;replace Bm:=Bm.le vP.le;replace hM:=vP.lt hM;have:=S.size;replace S:=S.dX vP oR xy.2.2;replace oR:=aa8;refine ad ⟨G,G,λh=>absurd G h,aY (o':=3) ak G G rA Tg G G (ad ⟨G,G,λh=>absurd G h,?_⟩)⟩;refine cv (M:=ahq) rA rfl rfl g8 rfl (by obtain⟨_,_,he,_⟩:=oR.isSlice;rw[he];rfl) fW (λaa9 SI nM=>?_);change aa9.heap[_]? =some (Obj.cells #[.int .i64 5,sv (fi q.term.1),.string ⟨#[]⟩,Xc,.slice none 0 0] _ _)at SI;have:=ae cG;replace b9:=(nM.mem _ this).2 b9;replace cG:=nM.bU cG a04;have:=ae g8;replace fW:=(nM.mem _ this).2 fW;replace dY:=dY.le (aG _) nM.le;replace Bm:=Bm.le nM.le;replace oR:=oR.step nM (λc hc (h:c=_)=>by have h1:=(oR.base c hc).1;have h2:=xy.1;have h3:=xy.2.1;omega);replace hM:=nM.lt hM;have:=S.size;replace S:=S.trans nM (λk hk h=>by have h:_=_:=h;subst h;first|(exfalso;omega)|(show _<=_;omega)|exact⟨by first|omega|assumption,(S.mem _ hk).1 ((nM.mem _ (ae g8)).1 fW)⟩|exact .inl rfl|exact .inr rfl|exact .inr (.inl rfl)|exact .inr (.inr rfl)|exact .inr (.inr (.inl rfl))|exact rfl);have g8_:=SI;clear g8;have g8:=g8_;clear g8_;refine ad ⟨G,G,λh=>absurd G h,nT (aH (ab G G (bu G G G q0 (Rg.aZ G G ?_))))⟩
          refine⟨G,(i+1,Xc),a14,?_,?_⟩
          ·exact⟨_,hM,S,dY,cG,b9,g8,fW,by rw[bY,hx,dp,eE,rn X8];exact oR,by have h0:=Bj.size;have h1:=Bk.size;have h3:=sz.size;have h4:=vP.size;have h5:=nM.size;omega,by omega,by omega⟩
          ·dsimp only;omega
         ·refine aS (aH (ab G G (bu G G G q0 (Rg.aZ G G ?_))));refine⟨G,(i+1,vk),a14,?_,?_⟩
          ·exact⟨_,hM,S,dY,cG,b9,g8,fW,by rw[bY,hx,dp,eE,List.filter_cons_of_neg X8,List.filter_nil,eX];exact oR,by have h0:=Bj.size;omega,by omega,by omega⟩
          ·dsimp only;omega
        ·refine cN (T.aQ ?_);have JP:jQ q.words=((q.words.take i).filter cR):=by unfold jQ;rw[show q.words.take 3=q.words.take i from ix.2 q0]
         refine aY ak G G rA Tg G G (aR ax G G G g8 G (bg (v':=vk) G ?_));obtain⟨a27,k27,abb,_⟩:=oR.isSlice;subst abb;refine Rg.tg ax G G (eR G G G (ad ?_));refine bE G (λc27=>?_) (λc27=>?_)
         ·have hwn: ¬jQ q.words=[]:=λe=>by rw[JP]at e;rw[e]at c27;simp at c27
          refine T.aQ (eC (vs:=[.int .i64 5,sv (fi q.term.1),.string ⟨#[]⟩,(.slice a27 ((q.words.take i).filter cR).length k27),.slice none 0 0]) ak G gg G G G g8 ?_);refine cY (M:=M2) (vs:=[.int .i64 5,sv (fi q.term.1),.string ⟨#[]⟩,(.slice a27 ((q.words.take i).filter cR).length k27),.slice none 0 0]) gg G G ah4 rfl rfl cG b9 (λw28 g28 Hl=>?_);have:=ae cG;replace b9:=(Hl.mem _ this).2 b9;have:=ae g8;replace fW:=(Hl.mem _ this).2 fW;replace g8:=Hl.bU g8 a04;replace dY:=dY.le (aG _) Hl.le;replace oR:=oR.step Hl (λc hc (h:c=_)=>by have h1:=(oR.base c hc).1;have h2:=xy.1;have h3:=xy.2.1;omega);replace hM:=Hl.lt hM;have:=S.size;replace S:=S.trans Hl (λk hk h=>by have h:_=_:=h;subst h;first|(exfalso;omega)|(show _<=_;omega)|exact⟨by first|omega|assumption,(S.mem _ hk).1 ((Hl.mem _ (ae cG)).1 b9)⟩|exact .inl rfl|exact .inr rfl|exact .inr (.inl rfl)|exact .inr (.inr rfl)|exact .inr (.inr (.inl rfl))|exact rfl);have ga:=g28;clear cG;have cG:=ga;clear ga;refine ad (aJ ?_);have DA:=yF (hn:=by decide) gv S (oR.jf xy.2.2) (by have:=eu cR (q.words.take i);rw[a7]at this;omega);refine ku (vs:=[.int .i64 5,sv (fi q.term.1),.string ⟨#[]⟩,(.slice a27 ((q.words.take i).filter cR).length k27),.slice none 0 0]) G G ak G gg G cG ⟨?_,S.back⟩;rw[mU,if_neg h9,if_pos ⟨V4,hwn⟩,JP];exact Hj (zz ⟨by decide,by decide⟩ ⟨yH,nX⟩ DA)
         ·have h19: ¬(fI q.kind=5/\¬jQ q.words=[]):=λh=>h.2 (by rw[JP];exact cB.1 q0)
          refine aS (T.aQ ?_);refine ao (A:=RT.qy (n+1)) (B:=RT.fd) ak G G kF Tg (BG n) G G (aG _) dY bS (λahs Hm=>?_);refine ao (A:=RT.fd) (B:=RT.str) br G G I9 Tg Lz G G Tg Hm bS (λaht Hn=>?_);refine bB aA G G G G G Hn bS (λahu Ho=>?_);obtain rfl:=dS Ho;refine Rg.aZ G G (T.aQ (ab G G ?_));refine aP G G E59 (k3 _ hM Lj.t2) (λahv ahw hc=>?_);obtain⟨rfl,mX⟩:=hc;have:=ae cG;replace b9:=(mX.mem _ this).2 b9;replace cG:=mX.aF cG;have:=ae g8;replace fW:=(mX.mem _ this).2 fW;replace g8:=mX.aF g8;replace dY:=dY.le (aG _) mX.le;replace oR:=oR.bP mX;replace hM:=mX.lt hM;have:=S.size;replace S:=S.aw mX;refine Rg.aZ G G ?_;refine lB [(4,.pointer (some ⟨gu,0,none⟩)),(5,sv (fi q.term.1)),(14,sv (if cR q.term.2=true then q.term.2 else[97]))] ?_ ?_
          ·refine T.aQ (ab rfl rfl (fV rfl rfl (bg (v':= .bool (decide (¬cR q.term.2=true))) ai2 (ad ?_))));refine bE G (λHp=>?_) (λHp=>?_)
           ·refine aH (Rg.aZ G G ?_);exact⟨G,G,G,.cons G a16⟩
           ·refine aS ?_;exact⟨G,G,G,.cons G a16⟩
          ·refine T.aQ (ab rfl rfl (ab rfl rfl (dw (places:=[(0,1),(1,1)]) br kF XZ rfl ⟨_,_,rfl,rfl,_,_,rfl,rfl,rfl⟩ (out:=[_,_]) ⟨0,[_],rfl,rfl,by simp[Value.cells],1,[_],rfl,rfl,by simp[Value.cells],rfl⟩ (dw (places:=[(0,1),(1,2),(3,1),(4,1)]) ak gg Tb rfl ⟨_,_,rfl,rfl,_,_,rfl,rfl,rfl⟩ (out:=[_,_,_,.slice none 0 0,.slice none 0 0]) ⟨0,[_],rfl,rfl,by simp[Value.cells],1,[_,_],rfl,rfl,by simp[Value.cells],rfl⟩ ?_))));refine cY (M:=M2) (vs:=[.int .i64 1,sv (fi q.term.1),sv (if cR q.term.2=true then q.term.2 else[97]),.slice none 0 0,.slice none 0 0]) gg G G a81 rfl rfl cG b9 (λw33 g33 sx=>?_);have:=ae cG;replace b9:=(sx.mem _ this).2 b9;have:=ae g8;replace fW:=(sx.mem _ this).2 fW;replace g8:=sx.bU g8 a04;replace dY:=dY.le (aG _) sx.le;replace oR:=oR.step sx (λc hc (h:c=_)=>by have h1:=(oR.base c hc).1;have h2:=xy.1;have h3:=xy.2.1;omega);replace hM:=sx.lt hM;have:=S.size;replace S:=S.trans sx (λk hk h=>by have h:_=_:=h;subst h;first|(exfalso;omega)|(show _<=_;omega)|exact⟨by first|omega|assumption,(S.mem _ hk).1 ((sx.mem _ (ae cG)).1 b9)⟩|exact .inl rfl|exact .inr rfl|exact .inr (.inl rfl)|exact .inr (.inr rfl)|exact .inr (.inr (.inl rfl))|exact rfl);have ga:=g33;clear cG;have cG:=ga;clear ga;refine ad (aJ ?_);refine ku (vs:=[.int .i64 1,sv (fi q.term.1),sv (if cR q.term.2=true then q.term.2 else[97]),.slice none 0 0,.slice none 0 0]) G G ak G gg G cG ⟨?_,S.back⟩;rw[mU,if_neg h9,if_neg h19];exact al5
       ·refine aj G G G G (aj G G G G (aB G G G (ad (jF G (cN (T.aQ ?_))))));have JP:jQ q.words=((q.words.take i).filter cR):=by unfold jQ;rw[show q.words.take 3=q.words.take i from ix.2 q0]
        refine aY ak G G rA Tg G G (aR ax G G G g8 G (bg (v':=vk) G ?_));obtain⟨a27,k27,abb,_⟩:=oR.isSlice;subst abb;refine Rg.tg ax G G (eR G G G (ad ?_));refine bE G (λc27=>?_) (λc27=>?_)
        ·have hwn: ¬jQ q.words=[]:=λe=>by rw[JP]at e;rw[e]at c27;simp at c27
         refine T.aQ (eC (vs:=[.int .i64 5,sv (fi q.term.1),.string ⟨#[]⟩,(.slice a27 ((q.words.take i).filter cR).length k27),.slice none 0 0]) ak G gg G G G g8 ?_);refine cY (M:=M2) (vs:=[.int .i64 5,sv (fi q.term.1),.string ⟨#[]⟩,(.slice a27 ((q.words.take i).filter cR).length k27),.slice none 0 0]) gg G G ah4 rfl rfl cG b9 (λw28 g28 Hl=>?_);have:=ae cG;replace b9:=(Hl.mem _ this).2 b9;have:=ae g8;replace fW:=(Hl.mem _ this).2 fW;replace g8:=Hl.bU g8 a04;replace dY:=dY.le (aG _) Hl.le;replace oR:=oR.step Hl (λc hc (h:c=_)=>by have h1:=(oR.base c hc).1;have h2:=xy.1;have h3:=xy.2.1;omega);replace hM:=Hl.lt hM;have:=S.size;replace S:=S.trans Hl (λk hk h=>by have h:_=_:=h;subst h;first|(exfalso;omega)|(show _<=_;omega)|exact⟨by first|omega|assumption,(S.mem _ hk).1 ((Hl.mem _ (ae cG)).1 b9)⟩|exact .inl rfl|exact .inr rfl|exact .inr (.inl rfl)|exact .inr (.inr rfl)|exact .inr (.inr (.inl rfl))|exact rfl);have ga:=g28;clear cG;have cG:=ga;clear ga;refine ad (aJ ?_);have DA:=yF (hn:=by decide) gv S (oR.jf xy.2.2) (by have:=eu cR (q.words.take i);rw[a7]at this;omega);refine ku (vs:=[.int .i64 5,sv (fi q.term.1),.string ⟨#[]⟩,(.slice a27 ((q.words.take i).filter cR).length k27),.slice none 0 0]) G G ak G gg G cG ⟨?_,S.back⟩;rw[mU,if_neg h9,if_pos ⟨V4,hwn⟩,JP];exact Hj (zz ⟨by decide,by decide⟩ ⟨yH,nX⟩ DA)
        ·have h19: ¬(fI q.kind=5/\¬jQ q.words=[]):=λh=>h.2 (by rw[JP];exact cB.1 q0)
         refine aS (T.aQ ?_);refine ao (A:=RT.qy (n+1)) (B:=RT.fd) ak G G kF Tg (BG n) G G (aG _) dY bS (λahs Hm=>?_);refine ao (A:=RT.fd) (B:=RT.str) br G G I9 Tg Lz G G Tg Hm bS (λaht Hn=>?_);refine bB aA G G G G G Hn bS (λahu Ho=>?_);obtain rfl:=dS Ho;refine Rg.aZ G G (T.aQ (ab G G ?_));refine aP G G E59 (k3 _ hM Lj.t2) (λahv ahw hc=>?_);obtain⟨rfl,mX⟩:=hc;have:=ae cG;replace b9:=(mX.mem _ this).2 b9;replace cG:=mX.aF cG;have:=ae g8;replace fW:=(mX.mem _ this).2 fW;replace g8:=mX.aF g8;replace dY:=dY.le (aG _) mX.le;replace oR:=oR.bP mX;replace hM:=mX.lt hM;have:=S.size;replace S:=S.aw mX;refine Rg.aZ G G ?_;refine lB [(4,.pointer (some ⟨gu,0,none⟩)),(5,sv (fi q.term.1)),(14,sv (if cR q.term.2=true then q.term.2 else[97]))] ?_ ?_
         ·refine T.aQ (ab rfl rfl (fV rfl rfl (bg (v':= .bool (decide (¬cR q.term.2=true))) ai2 (ad ?_))));refine bE G (λHp=>?_) (λHp=>?_)
          ·refine aH (Rg.aZ G G ?_);exact⟨G,G,G,.cons G a16⟩
          ·refine aS ?_;exact⟨G,G,G,.cons G a16⟩
         ·refine T.aQ (ab rfl rfl (ab rfl rfl (dw (places:=[(0,1),(1,1)]) br kF XZ rfl ⟨_,_,rfl,rfl,_,_,rfl,rfl,rfl⟩ (out:=[_,_]) ⟨0,[_],rfl,rfl,by simp[Value.cells],1,[_],rfl,rfl,by simp[Value.cells],rfl⟩ (dw (places:=[(0,1),(1,2),(3,1),(4,1)]) ak gg Tb rfl ⟨_,_,rfl,rfl,_,_,rfl,rfl,rfl⟩ (out:=[_,_,_,.slice none 0 0,.slice none 0 0]) ⟨0,[_],rfl,rfl,by simp[Value.cells],1,[_,_],rfl,rfl,by simp[Value.cells],rfl⟩ ?_))));refine cY (M:=M2) (vs:=[.int .i64 1,sv (fi q.term.1),sv (if cR q.term.2=true then q.term.2 else[97]),.slice none 0 0,.slice none 0 0]) gg G G a81 rfl rfl cG b9 (λw33 g33 sx=>?_);have:=ae cG;replace b9:=(sx.mem _ this).2 b9;have:=ae g8;replace fW:=(sx.mem _ this).2 fW;replace g8:=sx.bU g8 a04;replace dY:=dY.le (aG _) sx.le;replace oR:=oR.step sx (λc hc (h:c=_)=>by have h1:=(oR.base c hc).1;have h2:=xy.1;have h3:=xy.2.1;omega);replace hM:=sx.lt hM;have:=S.size;replace S:=S.trans sx (λk hk h=>by have h:_=_:=h;subst h;first|(exfalso;omega)|(show _<=_;omega)|exact⟨by first|omega|assumption,(S.mem _ hk).1 ((sx.mem _ (ae cG)).1 b9)⟩|exact .inl rfl|exact .inr rfl|exact .inr (.inl rfl)|exact .inr (.inr rfl)|exact .inr (.inr (.inl rfl))|exact rfl);have ga:=g33;clear cG;have cG:=ga;clear ga;refine ad (aJ ?_);refine ku (vs:=[.int .i64 1,sv (fi q.term.1),sv (if cR q.term.2=true then q.term.2 else[97]),.slice none 0 0,.slice none 0 0]) G G ak G gg G cG ⟨?_,S.back⟩;rw[mU,if_neg h9,if_neg h19];exact al5
     ·have h19: ¬(fI q.kind=5/\¬jQ q.words=[]):=λh=>V4 h.1
      refine aS (T.aQ ?_);refine ao (A:=RT.qy (n+1)) (B:=RT.fd) ak G G kF Tg (BG n) G G (aG _) dY bS (λahs Hm=>?_);refine ao (A:=RT.fd) (B:=RT.str) br G G I9 Tg Lz G G Tg Hm bS (λaht Hn=>?_);refine bB aA G G G G G Hn bS (λahu Ho=>?_);obtain rfl:=dS Ho;refine Rg.aZ G G (T.aQ (ab G G ?_));refine aP G G E59 (k3 _ hM Lj.t2) (λahv ahw hc=>?_);obtain⟨rfl,mX⟩:=hc;have:=ae cG;replace b9:=(mX.mem _ this).2 b9;replace cG:=mX.aF cG;replace dY:=dY.le (aG _) mX.le;replace hM:=mX.lt hM;have:=S.size;replace S:=S.aw mX;refine Rg.aZ G G ?_;refine lB [(4,.pointer (some ⟨gu,0,none⟩)),(5,sv (fi q.term.1)),(14,sv (if cR q.term.2=true then q.term.2 else[97]))] ?_ ?_
      ·refine T.aQ (ab rfl rfl (fV rfl rfl (bg (v':= .bool (decide (¬cR q.term.2=true))) ai2 (ad ?_))));refine bE G (λHp=>?_) (λHp=>?_)
       ·refine aH (Rg.aZ G G ?_);exact⟨G,G,G,.cons G a16⟩
       ·refine aS ?_;exact⟨G,G,G,.cons G a16⟩
      ·refine T.aQ (ab rfl rfl (ab rfl rfl (dw (places:=[(0,1),(1,1)]) br kF XZ rfl ⟨_,_,rfl,rfl,_,_,rfl,rfl,rfl⟩ (out:=[_,_]) ⟨0,[_],rfl,rfl,by simp[Value.cells],1,[_],rfl,rfl,by simp[Value.cells],rfl⟩ (dw (places:=[(0,1),(1,2),(3,1),(4,1)]) ak gg Tb rfl ⟨_,_,rfl,rfl,_,_,rfl,rfl,rfl⟩ (out:=[_,_,_,.slice none 0 0,.slice none 0 0]) ⟨0,[_],rfl,rfl,by simp[Value.cells],1,[_,_],rfl,rfl,by simp[Value.cells],rfl⟩ ?_))));refine cY (M:=fu) (vs:=[.int .i64 1,sv (fi q.term.1),sv (if cR q.term.2=true then q.term.2 else[97]),.slice none 0 0,.slice none 0 0]) gg G G a81 rfl rfl cG b9 (λw33 g33 sx=>?_);have:=ae cG;replace b9:=(sx.mem _ this).2 b9;replace dY:=dY.le (aG _) sx.le;replace hM:=sx.lt hM;have:=S.size;replace S:=S.trans sx (λk hk h=>by have h:_=_:=h;subst h;first|(exfalso;omega)|(show _<=_;omega)|exact⟨by first|omega|assumption,(S.mem _ hk).1 ((sx.mem _ (ae cG)).1 b9)⟩|exact .inl rfl|exact .inr rfl|exact .inr (.inl rfl)|exact .inr (.inr rfl)|exact .inr (.inr (.inl rfl))|exact rfl);have ga:=g33;clear cG;have cG:=ga;clear ga;refine ad (aJ ?_);refine ku (vs:=[.int .i64 1,sv (fi q.term.1),sv (if cR q.term.2=true then q.term.2 else[97]),.slice none 0 0,.slice none 0 0]) G G ak G gg G cG ⟨?_,S.back⟩;rw[mU,if_neg h9,if_neg h19];exact al5
theorem Bn:∀(mm n:Nat) {M:aM} {q:Qy} {v:Value} {deep:Nat} (w0:World) (hM:Lt M w0) (hv:(RT.qy n).V M w0 q v) (hs:CW q) (hd:deep+mm=4),Spec Tryz.prog 17 #[v,.int .i64 (deep:Int)] w0 (λv w=>(RT.qy mm).V M w (fk q deep) v/\Step M w0 M w aC)
 |0,n,M,q,v,deep,w0,hM,hv,hs,hd=>Bh (n:=n) w0 hM (kx hv) hs q0 λh=>by omega
 |mm+1,n,M,q,v,deep,w0,hM,hv,hs,hd=>Bh (n:=n) w0 hM (kx hv) hs q0 λ_=>⟨mm,rfl,λx hx K0 M w v e hM hv=>by subst e;exact Bn mm n w hM hv ((WU.1 hs).2 x hx) q0⟩
end Go.K
namespace Go.K
open Go.Proofs
namespace TKAlike13
theorem gg:TI Tryz.prog 28 (.agg #[(.int .i64 0),(.string ⟨#[]⟩),(.string ⟨#[]⟩),(.slice none 0 0),(.slice none 0 0)]) 5 88:=by unfold TI;kernel_rfl
theorem ki:TI Tryz.prog 45 (.agg #[(.int .i64 0),(.int .i64 0)]) 2 16:=by unfold TI;kernel_rfl
theorem E10:Enters Tryz.prog 10:=enters Tryz.func10 rfl Tg
theorem E11:Enters Tryz.prog 11:=enters Tryz.func11 rfl Tg
theorem E12:Enters Tryz.prog 12:=enters Tryz.func12 rfl Tg
theorem E13:Enters Tryz.prog 13:=enters Tryz.func13 rfl Tg
theorem E17:Enters Tryz.prog 17:=enters Tryz.func17 rfl Tg
end TKAlike13
open TKAlike13
set_option maxRecDepth 10000
theorem VA {k:Int} {t:Fd} {ws:List (List UInt8)} {n:Nat} (h:iR k t ws n=0):SzO t ws:=by
 have H5:∀x:List UInt8,cR x=true->x.length<=3900000:=λx hx=>by
  unfold cR at hx;have:=(of_decide_eq_true hx).2;omega
 unfold iR at h;by_cases h1:k<1\/5<k
 ·rw[if_pos h1]at h;omega
 rw[if_neg h1]at h;by_cases h2:2<=k/\k<=4
 ·rw[if_pos h2]at h;by_cases h3: ¬t=([],[])\/¬ws=[]\/n=0
  ·rw[if_pos h3]at h;omega
  have ht:t=([],[]):=iu λe=>h3 (.inl e)
  have hw:ws=[]:=iu λe=>h3 (.inr (.inl e))
  subst ht;subst hw;exact⟨a8 _,λx hx=>by cases hx⟩
 rw[if_neg h2]at h;by_cases h3:0<n\/(k=1/\¬ws=[])\/(k=5/\¬t.2=[])
 ·rw[if_pos h3]at h;omega
 rw[if_neg h3]at h;by_cases h4:eA t.1=false
 ·rw[if_pos h4]at h;omega
 rw[if_neg h4]at h;by_cases h5:k=1
 ·rw[if_pos h5]at h;have hw:ws=[]:=iu λe=>h3 (.inr (.inl ⟨h5,e⟩))
  subst hw;by_cases h6:cR t.2=true
  ·exact⟨H5 _ h6,λx hx=>by cases hx⟩
  ·rw[if_neg h6]at h;omega
 ·rw[if_neg h5]at h;have ht:t.2=[]:=iu λe=>h3 (.inr (.inr ⟨by omega,e⟩))
  by_cases h6:ws=[]
  ·rw[if_pos h6]at h;omega
  rw[if_neg h6]at h;by_cases h7:ws.all cR=false
  ·rw[if_pos h7]at h;omega
  exact⟨by rw[ht];exact a8 _,λx hx=>H5 x (dZ.1 (by cases hb:ws.all cR;exact absurd hb h7;rfl) x hx)⟩
mutual
theorem K3:∀(q:Qy) (deep:Nat),fP q deep=0->CW q
 |.mk k t ws ks,deep,hm=>by
  obtain⟨h1,h2,h3⟩:=pS.1 hm;refine WU.2 ⟨VA h2,λx hx=>RE.1 (Hq ks (deep+1) h3) x hx⟩
theorem Hq:∀(ks:List Qy) (deep:Nat),(∀x∈ks,fP x deep=0)->MN ks
 |[],_,_=>RE.2 λx hx=>by cases hx
 |q::ks,deep,hm=>RE.2 λx hx=>by
  rcases du.1 hx with h|h
  ·rw[h];exact K3 q deep (hm q (bO ..))
  ·exact RE.1 (Hq ks deep λy hy=>hm y (cu _ hy)) x h
end
end Go.K
namespace Go.K
open Go.Proofs
namespace TKJoin13
theorem ki:TI Tryz.prog 45 (.agg #[(.int .i64 0),(.int .i64 0)]) 2 16:=by unfold TI;kernel_rfl
theorem HA:placesOf Tryz.prog 45=[(0,1),(1,1)].map some:=by kernel_rfl
end TKJoin13
open TKJoin13
set_option maxRecDepth 10000
end Go.K
namespace Go.K
open Go.Proofs
namespace TKParts13
theorem gg:TI Tryz.prog 28 (.agg #[(.int .i64 0),(.string ⟨#[]⟩),(.string ⟨#[]⟩),(.slice none 0 0),(.slice none 0 0)]) 5 88:=by unfold TI;kernel_rfl
theorem Tb:placesOf Tryz.prog 28=[(0,1),(1,2),(3,1),(4,1)].map some:=by kernel_rfl
theorem E10:Enters Tryz.prog 10:=enters Tryz.func10 rfl Tg
theorem E11:Enters Tryz.prog 11:=enters Tryz.func11 rfl Tg
theorem E12:Enters Tryz.prog 12:=enters Tryz.func12 rfl Tg
theorem E13:Enters Tryz.prog 13:=enters Tryz.func13 rfl Tg
theorem E14:Enters Tryz.prog 14:=enters Tryz.func14 rfl Tg
theorem E17:Enters Tryz.prog 17:=enters Tryz.func17 rfl Tg
end TKParts13
open TKParts13
set_option maxRecDepth 10000
end Go.K
namespace Go.K
open Go.Proofs
namespace TKSetB13
theorem AJ:TI Tryz.prog 126 (.slice none 0 0) 1 24:=by unfold TI;kernel_rfl
theorem ql:TI Tryz.prog 205 (.int .u64 0) 1 8:=by unfold TI;kernel_rfl
theorem E61:Enters Tryz.prog 61:=enters Tryz.func61 rfl Tg
theorem E64:Enters Tryz.prog 64:=enters Tryz.func64 rfl Tg
theorem U0:Enters Tryz.prog 114:=enters Tryz.func114 rfl Tg
end TKSetB13
open TKSetB13
set_option maxRecDepth 10000
def Nj (M:aM) (w:World) (n:Nat) (ws:List Nat) (bs:Nat):Prop:=∃bw,gH 128 205 n ws (λ_=>True) w bs bw/\¬M bs/\¬M bw
theorem Nj.le {M M':aM} {w w':World} {n:Nat} {ws:List Nat} {bs:Nat} (hl:Le M w M' w') (h:Nj M w n ws bs):Nj M' w' n ws bs:=by
 obtain⟨bw,h1,h2,h3⟩:=h;obtain⟨a1,a2⟩:=hl bs (ae h1.s) h2;obtain⟨b1,b2⟩:=hl bw (ae h1.w) h3;exact⟨bw,⟨trivial,trivial,h1.ne,a2.trans h1.s,b2.trans h1.w,h1.len,h1.ok,h1.nn⟩,a1,b1⟩
theorem Nj.all {M:aM} {w:World} {n:Nat} {ws:List Nat} {bs:Nat} (h:Nj M w n ws bs):∃bw,gH 128 205 n ws (λ_=>True) w bs bw:=by
 obtain⟨bw,h1,_⟩:=h;exact⟨bw,h1⟩
def xz (M:aM) (w:World) (a:List Bool) (bs:Nat):Prop:=∃ws,Nj M w a.length ws bs/\∀j,bit ws j=true↔a[j]? =some true
theorem xz.le {M M':aM} {w w':World} {a:List Bool} {bs:Nat} (hl:Le M w M' w') (h:xz M w a bs):xz M' w' a bs:=by
 obtain⟨ws,h1,h2⟩:=h;exact⟨ws,h1.le hl,h2⟩
theorem SJ {M:aM} {w0:World} {n:Nat} {ws:List Nat} {bs bw:Nat} (h:gH 128 205 n ws M w0 bs bw) {i:Int} (hi:0<=i/\i<n) (hf:bit ws i.toNat=false):
  Spec Tryz.prog 61 #[.pointer (some ⟨bs,0,none⟩),.int .i64 i,.bool false] w0 (λv' w'=>∃rY,gH 128 205 n rY M w' bs bw/\(∀j:Nat,bit rY j=(bit ws j||decide ((j:Int)=i)))/\Step M w0 M w' (λb=>b=bw)):=by
 have hS:=h.s;have hW:=h.w;have hlen:=h.len;have fa:=h.ok;have Tn:=h.nn;have hmw:∀b:Nat,b=bw->M b:=λb hb=>by rw[hb];exact h.mw
 refine bh (args:=[_,_,_]) (fn:=Tryz.f61) Tryz.func61 G (n:=31) Tryz.ntmps61 (T.aQ (Rg.aZ G G (aL (T.aQ (ab G G (ab G G ?_))))));refine aP G G U0 (D9 h) (λr wc h=>?_);obtain⟨rfl,rfl⟩:=h;refine fV G G (bg (v':= .bool (decide (¬(0<=i/\i<n)))) am5 (ab G G ?_));refine aO (g:=11) G (λMl=>?_) (λMl=>?_)
 ·refine aj G G G G (aj G G G G (aj G G G G (aj G G G G (aj G G G G (aU G G G (ad (kD G (T.aQ (Rg.aZ G G ?_)))))))));refine aJ ?_;exfalso
  first
  |omega
  |(apply c1;unfold J0;rw[hf,kI])
  |(unfold J0 at c1;rw[hf,kI]at c1;simp at c1)
 ·refine ah G G (ab G G (ah G G (ab G G (ah G G ?_))));refine aP G G E64 (AK h) (λr wc h=>?_);obtain⟨rfl,rfl⟩:=h;refine ah G G (ab G G (ah G G (Rg.bne gQ G G G (aB G G G (ad ?_)))));refine bE G (λc1=>?_) (λc1=>?_)
  ·refine T.aQ (Rg.aZ G G (aJ ?_));exfalso
   first
   |omega
   |(apply c1;unfold J0;rw[hf,kI])
   |(unfold J0 at c1;rw[hf,kI]at c1;simp at c1)
  ·refine aS (aL ?_);obtain⟨j,rfl⟩:∃j:Nat,i=j:=⟨i.toNat,by omega⟩;rw[ar]at hf;apply T.qD (M:=M) mixed [] [cj.eq _,cj.eq _,cj.eq _,cj.eq (.slice (some ⟨bw,0,none⟩) ws.length ws.length),cj.eq _,cj.eq _,cj.eq (.pointer (some ⟨bw,((j:Int)/64).toNat,none⟩)),cj.eq (.int .u64 ((ws.getD (j/64) 0:Nat):Int)),cj.eq _,cj.eq _,cj.eq (.int .u64 ((2^(j%64):Nat):Int)),cj.eq (.int .u64 (((ws.getD (j/64) 0^^^2^(j%64)):Nat):Int)),cj.eq (.pointer (some ⟨bw,((j:Int)/64).toNat,none⟩))] 13
   ·rfl
   ·rfl
   ·rfl
   ·rfl
   ·rfl
   ·exact a88
   ·exact oT
   ·refine ay ?_ ?_
    ·intro wD E sD;refine ab G G ?_;exact a01
    refine ay ?_ ?_
    ·intro wD E sD;refine au (bm G ⟨_,G⟩ G ?_);exact a01
    refine ay ?_ ?_
    ·intro wD E sD;refine au (aY fD G G AJ Tg G G ?_);exact a01
    refine ay ?_ ?_
    ·intro wD E sD;refine au (aR dx G G G (ch sD Xf) G ?_);exact a01
    refine ay ?_ ?_
    ·intro wD E sD;refine ab G G ?_;exact a01
    refine ay ?_ ?_
    ·intro wD E sD;refine au (Rg.yq G G G q0 ?_);exact a01
    refine ay ?_ ?_
    ·intro wD E sD;refine au (au (Rg.wG dx ql G G G q0 ?_));exact a01
    refine ay ?_ ?_
    ·intro wD E sD;refine au (aR l8 rfl rfl rfl (sD.aF hW) (v:= .int .u64 ((ws.getD (j/64) 0:Nat):Int)) ag3 ?_);exact a01
    refine ay ?_ ?_
    ·intro wD E sD;refine ab G G ?_;exact a01
    refine ay ?_ ?_
    ·intro wD E sD;refine au (Rg.vZ G G G q0 ?_);exact a01
    refine ay ?_ ?_
    ·intro wD E sD;refine au (Rg.shl G G G q0 (bg (v':= .int .u64 ((2^(j%64):Nat):Int)) (congrArg _ (by rw[show((j:Int)%64)=((j%64:Nat):Int)from by omega];exact XT _ q0)) ?_));exact a01
    refine ay ?_ ?_
    ·intro wD E sD;refine au (au (Rg.xor G G G (bg (v':= .int .u64 (((ws.getD (j/64) 0^^^2^(j%64)):Nat):Int)) (congrArg _ (VX _ _ (fa.get _) (nD Tg q0))) ?_)));exact a01
    refine ay ?_ ?_
    ·intro wD E sD;refine au (au (au (au (au (au (au (au (au (au (au (au ?_)))))))))));refine au (au (Rg.wG dx ql G G G q0 ?_));exact a01
    exact jS
   ·intro wD3 oy;refine au (au (au (au (au (au (au (au (au (au (au (au ?_)))))))))));refine au ?_;refine cv (M:=M) (u:= .int .u64 ((ws.getD (j/64) 0:Nat):Int)) ql rfl rfl (oy.aF hW) (by rw[show((j:Int)/64).toNat=j/64 from by omega];exact il q0) G h.mw (λw5 WN s5=>?_);rw[show((j:Int)/64).toNat=j/64 from by omega,pb]at WN;refine ad (T.aQ (Rg.aZ G G (aJ ?_)));have hX:(ws.getD (j/64) 0^^^2^(j%64))<2^64:=Nat.xor_lt_two_pow (fa.get _) (nD Tg q0);refine aK G G ⟨ws.set (j/64) (ws.getD (j/64) 0^^^2^(j%64)),(h.step oy (λh=>h) (λh=>h)).put s5 (by simp) WN (fa.set hX),λt=>?_,(oy.eI a30 hmw).trans s5 (λ_ _ h=>h)⟩;rw[E9 fa q0];by_cases ht:t=j
    ·subst ht;rw[hf];simp
    ·rw[decide_eq_false ht,Bool.xor_false,decide_eq_false q0,Bool.or_false]
theorem Nk {M:aM} {w0:World} {n:Nat} {ws:List Nat} {bs bw:Nat} (h:gH 128 205 n ws M w0 bs bw) {i:Int} (hi:0<=i/\i<n) (hf:bit ws i.toNat=false):
  Spec Tryz.prog 21 #[.pointer (some ⟨bs,0,none⟩),.int .i64 i] w0 (λv' w'=>∃rY,gH 128 205 n rY M w' bs bw/\(∀j:Nat,bit rY j=(bit ws j||decide ((j:Int)=i)))/\Step M w0 M w' (λb=>b=bw)):=by
 refine bh (args:=[_,_]) (fn:=Tryz.f21) Tryz.func21 G (n:=8) Tryz.ntmps21 (T.aQ (Rg.aZ G G (T.aQ (ab G G (ab G G ?_)))));refine aP G G E61 (SJ h hi hf) (λr1 w1 h=>?_);obtain⟨rY,h1,h2,h3⟩:=h;refine Rg.aZ G G (aJ ?_);exact aK G G ⟨rY,h1,h2,h3⟩
theorem gH.ap0 {M M' N:aM} {w0 w:World} {n:Nat} {ws:List Nat} {bs bw:Nat} {a:List Bool} (hM:Lt M w0) (h:gH 128 205 n ws M' w bs bw) (z1:w0.heap.size<=bs) (z2:w0.heap.size<=bw) (ha:a.length=n) (hb:∀j,bit ws j=true↔a[j]? =some true):xz M w a bs:=
 ⟨ws,⟨bw,⟨trivial,trivial,h.ne,by rw[ha];exact h.s,h.w,by rw[ha];exact h.len,h.ok,by rw[ha];exact h.nn⟩,λhb=>by have:=hM _ hb;omega,λhb=>by have:=hM _ hb;omega⟩,hb⟩
end Go.K
namespace Go.K
section
variable {P:Program} {r:Option Nat} {n:Nat} {L:Sl} {ds:List Deferred} {w:World} {K:Kt} {ops:Array Oper} {rest:List Oper} {d:Nat} {x y i:Operand} {ty:TypeId} {pos:String} {af:Array Edge}
theorem Rg.Xd {t e:TypeId} {κ:IntKind} {j:Int} {b len cap bytes:Nat} {zv:Value} (ht:P.underlying t=some (.slice e)) (hi:TI P e zv 2 bytes) (hx:ev L x=some (.slice (some ⟨b,0,none⟩) len cap)) (EN:ev L i=some (.int κ j)) (hd:Nat.blt d n=true) (hj:0<=j/\j<len)
  (k:Rg P r n ops rest ((d,.pointer (some ⟨b,j.toNat*2,none⟩))::L) ds w K):
  Rg P r n ops ({dst:=some d,op:= .indexAddr t x i,type:=ty,pos,after:=af,guard:=none}::rest) L ds w K:=
 .op a05 rfl rfl hd _ w (λρ h=>by
  simp only[execOp,h x _ hx,h i _ EN];simp[Instr.indexAt,run_underlying ht,asIntOf,hj,hi.sizeOf,Addr.add_mid]) k
def vQ (cs:Array Value) (xs:List Fo):Prop:=∀(t:Nat) p,xs[t]? =some p->cs[t*2]? =some (.int .i64 p.1)/\cs[t*2+1]? =some (.int .i64 p.2)/\Sr p
theorem K4:∀{xs:List Fo} {t:Nat} {p:Fo},xs[t]? =some p->(xs.flatMap foC)[t*2]? =some (.int .i64 p.1)/\(xs.flatMap foC)[t*2+1]? =some (.int .i64 p.2)
 |[],t,p,h=>by simp at h
 |q::xs,0,p,h=>by simp at h;subst h;exact⟨G,G⟩
 |q::xs,t+1,p,h=>by
  have h2:=K4 (xs:=xs) (t:=t) (p:=p) a86;rw[sH,show(t+1)*2=t*2+2 by omega];exact⟨h2.1,h2.2⟩
theorem Own.fos {e:TypeId} {M:aM} {base:Nat} {v:Value} {xs:List Fo} (h:Own RT.fo e M w base v xs) (fw:xs≠[]):∃g cap cur,v= .slice (some ⟨g,0,none⟩) xs.length cap/\xs.length<=cap/\w.heap[g]? =some (.cells cur e (0,0))/\M g/\base<=g/\xs.length*2<=cur.size/\vQ cur xs:=by
 obtain⟨⟨C,hr,ha⟩,hm⟩:=h;obtain⟨rfl,fa⟩:=Ep.1 ha;have e2:RT.fo.n=2:=rfl;rcases hr.2 with⟨h1,h2⟩|⟨g,cap,cur,h1,h2,h3,h4,h5,h6,h7⟩
 ·exfalso;have hl:=hr.1;rw[Ba,e2]at hl
  have:xs.length=0:=by
   first
   |(rw[h2]at hl;simp at hl;exact hl)
   |(have:=congrArg List.length h2;rw[Ba]at this;simp at this;omega)
   |omega
  exact fw (cB.1 this)
 ·rw[e2]at h6 h7;refine ⟨g,cap,cur,h1,h4,h3,hm g (by rw[h1];rfl),h2,by rw[h6];omega,λt p hp=> ?_⟩;have ht:=(an.1 hp).1;obtain⟨f1,f2⟩:=K4 hp
  have key:∀j,j<xs.length*2->cur[j]? =(xs.flatMap foC)[j]? :=λj hj=>by
   rw[<-h7,dm,if_pos hj];simp
  exact⟨by rw[key _ q0];exact f1,by rw[key _ q0];exact f2,fa p (av hp)⟩
theorem Hr {M:aM} {g o:Nat} {cs:Array Value} {e:TypeId} {fr:Nat×Nat} {p:Fo} (hg:w.heap[g]? =some (.cells cs e fr)) (hm: ¬M g) (h1:cs[o]? =some (.int .i64 p.1)) (h2:cs[o+1]? =some (.int .i64 p.2)) (ho:Sr p):cO RT.fo M w (.pointer (some ⟨g,o,none⟩)) p:=
 ⟨g,o,[.int .i64 p.1,.int .i64 p.2],rfl,hm,⟨_,_,rfl,⟨rfl,ho.1⟩,⟨rfl,ho.2⟩⟩,λj v hj=>by
  rcases j with _|_|j
  ·simp at hj;subst hj;exact gM hg h1
  ·simp at hj;subst hj;exact gM hg h2
  ·simp at hj⟩
theorem ahy {M:aM} {g cap:Nat} {cs:Array Value} {e:TypeId} {xs:List Fo} (hg:w.heap[g]? =some (.cells cs e (0,0))) (hm: ¬M g) (h:vQ cs xs) (hc:xs.length<=cap) (hl:xs.length<=140737488355328):((RT.fo).sl).V M w xs (.slice (some ⟨g,0,none⟩) xs.length cap):=
 iV.2 ⟨_,_,rfl,hc,hl,.inr ⟨g,0,rfl,hm,λt p hp=>by
  obtain⟨h1,h2,h3⟩:=h t p hp;obtain⟨b,o,vs,e1,_,e3,e4⟩:=Hr (M:=M) hg hm h1 h2 h3
  cases e1;refine ⟨vs,e3,λj v hj=> ?_⟩;have:=e4 j v hj;rw[show 0+t*RT.fo.n+j=t*2+j from by show 0+t*2+j=_;omega];exact this⟩⟩
theorem Rg.abd {t e:TypeId} {zv:Value} {bytes b o:Nat} {cs:Array Value} {u1 u2:Value} {M:aM} (hi:TI P t zv 2 bytes) (hx:ev L x=some (.pointer (some ⟨b,o,none⟩))) (hy:ev L y=some (.agg #[u1,u2])) (h1:u1.oneCell'=true/\u2.oneCell'=true) (hb:w.heap[b]? =some (.cells cs e (0,0))) (ho:o+2<=cs.size) (hm:M b)
  (k:∀w' qE,w'.heap[b]? =some (.cells qE e (0,0))->qE.size=cs.size->qE[o]? =some u1->qE[o+1]? =some u2->(∀j,j≠o->j≠o+1->qE[j]? =cs[j]?)->Step M w M w' (λk=>k=b)->Rg P r n ops rest L ds w' K):
  Rg P r n ops ({dst:=none,op:= .store t x y,type:=ty,pos,after:=af,guard:=none}::rest) L ds w K:=by
 obtain⟨qE,h2,h3,h4,h5⟩:=ll [u1,u2] w b o cs e (0,0) hb;refine .VH a05 G G (w.setCells b o [u1,u2]) (λρ hρ=>?_) (k _ qE h2 h3 ?_ ?_ ?_ (h5 M hm))
 ·simp only[execOp,hρ x _ hx,hρ y _ hy];obtain⟨i,Bt,_,Ex,_⟩:=hi.get
  have:=run_storeAt_mid (P:=P) w b o t #[u1,u2] (λj hj=>by
   have hj':j<2:=by simpa using hj
   exact⟨by rw[gM hb (v:=cs[o+j]' q0) (by simp)];rfl,by simp[World.frozen?,hb]⟩) (by simp[Bt,Ex]) (by simp[h1.1,h1.2])
  simp[this]
 ·rw[h4 o,if_pos ⟨bz _,by simp,by omega⟩];simp
 ·rw[h4 (o+1),if_pos ⟨by omega,by simp,by omega⟩];simp
 ·intro j XO wu;rw[h4 j,if_neg a11]
theorem Rg.ahz {t e:TypeId} {l:Operand} {κ:IntKind} {lo:Int} {g len cap bytes:Nat} {zv:Value} (ht:P.underlying t=some (.slice e)) (K6:TI P e zv 2 bytes) (hx:ev L x=some (.slice (some ⟨g,0,none⟩) len cap)) (hl:ev L l=some (.int κ lo)) (hd:Nat.blt d n=true) (hb:0<=lo/\lo<len) (hc:len<=cap)
  (k:Rg P r n ops rest ((d,.slice (some ⟨g,lo.toNat*2,none⟩) (len-lo.toNat) (cap-lo.toNat))::L) ds w K):
  Rg P r n ops ({dst:=some d,op:= .slice t x (some l) none none,type:=ty,pos,after:=af,guard:=none}::rest) L ds w K:=by
 refine .op a05 G G hd _ w (λρ hρ=>?_) k;simp only[execOp,hρ x _ hx,eY,j4,hρ l _ hl];rw[cn,run_sliceAt_slice _ _ _ _ _ _ (jm ht),run_slice_l _ _ _ _ _ (jm ht) _ _ hb.1 q0,oV ht,K6.sizeOf];have fw: ¬cap=lo.toNat:=by omega
 simp[sliced,fw,Addr.add_mid]
theorem Rg.ahA {t e:TypeId} {h:Operand} {κ:IntKind} {hi:Int} {g len cap bytes:Nat} {zv:Value} (ht:P.underlying t=some (.slice e)) (K6:TI P e zv 2 bytes) (hx:ev L x=some (.slice (some ⟨g,0,none⟩) len cap)) (hh:ev L h=some (.int κ hi)) (hd:Nat.blt d n=true) (hb:0<=hi/\hi<=cap)
  (k:Rg P r n ops rest ((d,.slice (some ⟨g,0,none⟩) hi.toNat cap)::L) ds w K):
  Rg P r n ops ({dst:=some d,op:= .slice t x none (some h) none,type:=ty,pos,after:=af,guard:=none}::rest) L ds w K:=by
 refine .op a05 G G hd _ w (λρ hρ=>?_) k;simp only[execOp,hρ x _ hx,eY,j4,hρ h _ hh];rw[cn,run_sliceAt_slice _ _ _ _ _ _ (jm ht),run_slice_h _ _ _ _ _ (jm ht) _ _ hb.1 q0,oV ht,K6.sizeOf];simp[sliced,Addr.add]
theorem JQ {t e:TypeId} {z:Value} {u1 u2:Value} (w:World) (ty:TypeId) (ht:P.underlying t=some (.slice e)) (hv:∀w,(zeroValue e).run P w= .ok z w) (hz:z.cells= #[u1,u2]) (h1:u1.oneCell'=true/\u2.oneCell'=true) (b o n c:Nat) (hn:0<n)
  (hc:∀j,j<n*2->(w.cell? ⟨b,o+j,none⟩).isSome=true) (hf:∀j,j<n*2->w.frozen? ⟨b,o+j,none⟩=false):
  ∃vs:List Value,vs.length=n*2/\(Builtin.clear_ #[t] ty #[.slice (some ⟨b,o,none⟩) n c]).run P w= .ok (.tuple #[]) (w.setCells b o vs):=by
 obtain⟨vs,lN⟩:∃vs,vs=(Builtin.zeroCells z.cells n).toList:=⟨_,rfl⟩;have hl:vs.length=n*2:=by rw[lN,hz];simp[Builtin.zeroCells]
 have sN:∀v∈vs,v.oneCell'=true:=by
  intro v hm;rw[lN,hz]at hm;simp only[Builtin.zeroCells,Array.toList_map,cA]at hm;obtain⟨i,_,rfl⟩:=hm;have:i%2=0\/i%2=1:=by omega
  rcases this with e|e
  ·show(#[u1,u2][i%2]!).oneCell'=true;rw[e];exact h1.1
  ·show(#[u1,u2][i%2]!).oneCell'=true;rw[e];exact h1.2
 have jT:=run_storeCells_cells (P:=P) b o vs 0 w (by simpa[hl]using hc) (by simpa[hl]using hf) sN;simp only[Nat.add_zero]at jT;refine ⟨vs,hl,?_⟩;obtain⟨m,rfl⟩:∃m,n=m+1:=⟨n-1,by omega⟩;simp[Builtin.clear_,run_underlying ht,hv,<-lN,jT]
theorem Rg.abe {tt e:TypeId} {bytes g o dl dc:Nat} {zv u1 u2:Value} {cs:Array Value} {M:aM} (ht:P.underlying tt=some (.slice e)) (hi:TI P e zv 2 bytes) (hz:zv.cells= #[u1,u2]) (h1:u1.oneCell'=true/\u2.oneCell'=true) (hx:ev L x=some (.slice (some ⟨g,o,none⟩) dl dc)) (hb:w.heap[g]? =some (.cells cs e (0,0))) (xg:0<dl) (ho:o+dl*2<=cs.size) (hm:M g)
  (k:∀w' qE,w'.heap[g]? =some (.cells qE e (0,0))->(∀j,j<o->qE[j]? =cs[j]?)->Step M w M w' (λk=>k=g)->Rg P r n ops rest L ds w' K):
  Rg P r n ops ({dst:=none,op:= .call {callee:= .builtin .clear,args:= #[x],argTypes:= #[tt]},type:=ty,pos,after:=af,guard:=none}::rest) L ds w K:=by
 obtain⟨inf,i1,i2,i3,_⟩:=hi.get;obtain⟨vs,hl,iz⟩:=JQ (P:=P) (t:=tt) (e:=e) (z:=zv) w ty ht (λw=>by simp[zeroValue,typeInfo,i1,i2]) hz h1 g o dl dc xg (λj hj=>by rw[gM hb (v:=cs[o+j]' q0) (by simp)];rfl) (λj hj=>by simp[World.frozen?,hb]);obtain⟨qE,h2,h3,h4,h5⟩:=ll vs w g o cs e (0,0) hb;refine .opv a05 G G (.tuple #[]) _ (λρ hρ=>?_) (k _ qE h2 (λj hj=>by rw[h4 j,if_neg q0]) (h5 M hm));simp only[execOp,resolve,nR,eV,sG,hρ x _ hx];simp[Go.invoke,builtin,iz]
end
open Go.Proofs
namespace TKDel13
theorem ki:TI Tryz.prog 45 (.agg #[(.int .i64 0),(.int .i64 0)]) 2 16:=by unfold TI;kernel_rfl
theorem E63:Enters Tryz.prog 63:=enters Tryz.func63 rfl Tg
theorem E64:Enters Tryz.prog 64:=enters Tryz.func64 rfl Tg
theorem ap1:Enters Tryz.prog 115:=enters Tryz.func115 rfl Tg
end TKDel13
open TKDel13
set_option maxRecDepth 10000
def lA (a:List Bool) (p:Fo):Bool:= !(decide (0<=p.1)&&decide (a[p.1.toNat]? =some true))
theorem VB {a:List Bool} {ws:List Nat} (h:∀j,bit ws j=true↔a[j]? =some true) (d:Int):J0 a.length ws d=(decide (0<=d)&&decide (a[d.toNat]? =some true)):=by
 unfold J0;by_cases h0:0<=d
 ·rw[decide_eq_true h0,dr];by_cases h1:a[d.toNat]? =some true
  ·have:=(an.1 h1).1;rw[decide_eq_true h1,(h _).2 h1,decide_eq_true q0];rfl
  ·rw[decide_eq_false h1]
   cases hb:bit ws d.toNat with
   |false=>rw[kI]
   |true=>exact absurd ((h _).1 hb) h1
 ·rw[decide_eq_false h0,eD,decide_eq_false q0,eD]
theorem xA {a:List Bool} {xs:List Fo} {i:Nat} {p:Fo} (h:xs[i]? =some p):(xs.take (i+1)).filter (λp=> !lA a p)=(xs.take i).filter (λp=> !lA a p)++if lA a p=true then[]else[p]:=by
 rw[bY,h,dp,eE];congr 1
 cases hd:lA a p<;>simp[hd]
theorem SL {a:List Bool} {xs:List Fo} {i:Nat} (h:∀(j:Nat) p,j<i->xs[j]? =some p->lA a p=false):(xs.take i).filter (λp=> !lA a p)=xs.take i:=by
 rw[List.filter_eq_self];intro p hp;obtain⟨j,hj⟩:=bK.1 hp;have V2:j<i:=by have:=(an.1 hj).1;rw[a7]at this;omega
 rw[dm,if_pos V2]at hj;rw[h j p V2 hj];rfl
def ahB (a:List Bool) (xs:List Fo) (z:Int):Prop:=(z= -1/\∀p∈xs,lA a p=false)\/∃i:Nat,z=(i:Int)/\i<xs.length/\(∀(j:Nat) p,j<i->xs[j]? =some p->lA a p=false)/\∃p,xs[i]? =some p/\lA a p=true
theorem Bo {M:aM} {a:List Bool} {bs bc:Nat} {p:Fo} {v:Value} (w0:World) (hM:Lt M w0) (hc:w0.heap[bc]? =some (.cells #[.pointer (some ⟨bs,0,none⟩)] 49 (0,0))) (ik:xz M w0 a bs) (hp:RT.fo.V M w0 p v):
  Spec Tryz.prog 63 #[v,.pointer (some ⟨bc,0,none⟩)] w0 (λv w=>v= .bool (lA a p)/\Step M w0 M w aC):=by
 have gv:=hM;refine bh (args:=[_,_]) (fn:=Tryz.f63) Tryz.func63 G (n:=9) Tryz.ntmps63 ?_;have S:Step M w0 M w0 aC:=aV;refine T.aQ ?_;refine ef (A:=RT.fo) (a:=p) G G hM hp G (λu2 wb dY sb _=>?_);replace hp:=hp.le sb.le;replace hc:=sb.aF hc;replace ik:=ik.le sb.le;replace hM:=sb.lt hM;have:=S.size;replace S:=S.aw sb;refine Rg.aZ G G (T.aQ (aR Tryz.underlying49 G G G hc G (bg (v':= .pointer (some ⟨bs,0,none⟩)) G ?_)));refine ao (A:=RT.fo) (B:=RT.int .i64) cQ G G I3 Tg fo0 G G Tg dY bS (λu11 Jl=>?_);refine bV al G G Jl bS (λaiN=>?_);refine bg (v':= .int .i64 p.1) G ?_;obtain⟨ws,hsv,Nl⟩:=ik;obtain⟨bw,hsa⟩:=hsv.all;refine aP G G E64 (AK (i:=p.1) hsa) (λr13 Wp Nv=>?_);obtain⟨rfl,rfl⟩:=Nv;rw[VB Nl];refine fV G G (bg (v':= .bool (lA a p)) G (Rg.aZ G G (aJ ?_)));exact aK G G ⟨G,S⟩
theorem Nn {M:aM} {a:List Bool} {bs bc:Nat} {xs:List Fo} {v:Value} (w0:World) (hM:Lt M w0) (hc:w0.heap[bc]? =some (.cells #[.pointer (some ⟨bs,0,none⟩)] 49 (0,0))) (ik:xz M w0 a bs) (hv:((RT.fo).sl).V M w0 xs v):
  Spec Tryz.prog 115 #[v,.func (.func 63) #[] #[.pointer (some ⟨bc,0,none⟩)]] w0 (λv w=>∃z,v= .int .i64 z/\ahB a xs z/\Step M w0 M w aC):=by
 have gv:=hM;have lG:=cU hv;refine bh (args:=[_,_]) (fn:=Tryz.f115) Tryz.func115 G (n:=19) Tryz.ntmps115 ?_;have S:Step M w0 M w0 aC:=aV;refine T.aQ (Rg.aZ G G (aL (T.aQ (ab G G (bC aT G hv G (ab G G (ad (aX ?_))))))));refine dd (σ:=Nat) (λi=>[(0,v),(1,.func (.func 63) #[] #[.pointer (some ⟨bc,0,none⟩)]),(7,.int .i64 (xs.length:Int)),(8,.int .i64 (i:Int))]) (λi w=>i<=xs.length/\(∀(j:Nat) p,j<i->xs[j]? =some p->lA a p=false)/\Lt M w/\Step M w0 M w aC/\((RT.fo).sl).V M w xs v/\w.heap[bc]? =some (.cells #[.pointer (some ⟨bs,0,none⟩)] 49 (0,0))/\xz M w a bs) (λi=>xs.length-i) 0 a00 ?_ ?_
 ·exact⟨a8 _,λj p h=>absurd h (ec _),hM,S,hv,hc,ik⟩
 ·clear hM S hv hc ik;rintro i w ⟨hi,jt,hM,S,hv,hc,ik⟩;refine T.aQ (cx G G G (ad (aL ?_)));refine bE G (λc2=>?_) (λc2=>?_)
  ·refine aS (aL (aX (T.aQ (ab G G (Rg.aZ G G (T.aQ (ab G G (ab G G ?_))))))));refine ab G G ?_;obtain⟨p,hxp⟩:∃x,xs[i]? =some x:=⟨_,aq q0⟩;refine cC (A:=RT.fo) (hn:=by decide) aT ki G G G hv bS q0 (λu43 x_ gp Q6=>?_);rw[ar]at gp;obtain rfl:=aI (hxp.symm.trans gp);refine bN (A:=RT.fo) cQ G ki Tg G G G Q6 bS (λv44 aag=>?_);refine oS (first:=[]) (captured:=[.pointer (some ⟨bc,0,none⟩)]) (xs:=[.tmp 15]) G G G E63 (Bo _ hM hc ik aag) (λr4 w4 hc4=>?_);obtain⟨rfl,s4⟩:=hc4;refine bg (v':= .bool (decide (lA a p=true))) (by simp) ?_;replace hv:=hv.le s4.le;replace hc:=s4.aF hc;replace ik:=ik.le s4.le;replace hM:=s4.lt hM;have:=S.size;replace S:=S.aw s4;refine ad ?_;refine bE G (λc4=>?_) (λc4=>?_)
   ·refine T.aQ (ab G G (Rg.aZ G G (aJ ?_)));exact aK G G ⟨_,G,.inr ⟨i,G,by omega,jt,p,hxp,c4⟩,S⟩
   ·refine aS (aH (bu G G G q0 (ab G G (ad ?_))));refine⟨G,i+1,a00,?_,?_⟩
    ·refine⟨by omega,λj y hj hy=>?_,hM,S,hv,hc,ik⟩;rcases cH j i with h|h
     ·exact jt j y h hy
     ·obtain rfl:j=i:=by omega
      rw[hxp]at hy;cases hy;exact fh.2 c4
    ·omega
  ·refine cN (T.aQ (Rg.aZ G G (aJ ?_)));refine aK G G ⟨_,G,.inl ⟨G,λp hp=>?_⟩,S⟩;obtain⟨j,hj⟩:=bK.1 hp;exact jt j p aa7 hj
theorem xz.none {M:aM} {w:World} {a:List Bool} {bs:Nat} (h:xz M w a bs):xz aC w a bs:=by
 obtain⟨ws,⟨bw,h1,_,_⟩,h2⟩:=h;exact⟨ws,⟨bw,h1,λh=>h,λh=>h⟩,h2⟩
def Bp (cs:Array Value) (xs:List Fo) (j:Nat):Prop:=∀(t:Nat) p,j<=t->xs[t]? =some p->cs[t*2]? =some (.int .i64 p.1)/\cs[t*2+1]? =some (.int .i64 p.2)/\Sr p
theorem vQ.from {cs:Array Value} {xs:List Fo} (h:vQ cs xs) (j:Nat):Bp cs xs j:=λt p _ hp=>h t p hp
theorem vQ.take {cs:Array Value} {xs:List Fo} (h:vQ cs xs) (i:Nat):vQ cs (xs.take i):=λt p hp=>by
 have ht:=(an.1 hp).1;rw[a7]at ht;rw[dm,if_pos q0]at hp;exact h t p hp
theorem vQ.snoc {cs qE:Array Value} {xs:List Fo} {p:Fo} (h:vQ cs xs) (hp:Sr p) (h1:qE[xs.length*2]? =some (.int .i64 p.1)) (h2:qE[xs.length*2+1]? =some (.int .i64 p.2)) (h3:∀j,j≠xs.length*2->j≠xs.length*2+1->qE[j]? =cs[j]?):vQ qE (xs++[p]):=λt q hq=>by
 rcases ff t xs.length with e|e|e
 ·rw[oP e]at hq;obtain⟨a1,a2,a3⟩:=h t q hq;exact⟨by rw[h3 _ q0 q0];exact a1,by rw[h3 _ q0 q0];exact a2,a3⟩
 ·subst e;rw[jN (bz _)]at hq;simp at hq;subst hq;exact⟨h1,h2,hp⟩
 ·rw[cM a11]at hq;cases hq
theorem Bp.bU {cs qE:Array Value} {xs:List Fo} {i j:Nat} (h:Bp cs xs j) (jr:i<j) (h3:∀k,k≠i*2->k≠i*2+1->qE[k]? =cs[k]?):Bp qE xs (j+1):=λt p ht hp=>by
 obtain⟨a1,a2,a3⟩:=h t p q0 hp;exact⟨by rw[h3 _ q0 q0];exact a1,by rw[h3 _ q0 q0];exact a2,a3⟩
theorem vQ.cut {cs qE:Array Value} {xs:List Fo} (h:vQ cs xs) (h3:∀k,k<xs.length*2->qE[k]? =cs[k]?):vQ qE xs:=λt p hp=>by
 have ht:=(an.1 hp).1;obtain⟨a1,a2,a3⟩:=h t p hp;exact⟨by rw[h3 _ q0];exact a1,by rw[h3 _ q0];exact a2,a3⟩
theorem No {M0 M:aM} {a:List Bool} {bs bc:Nat} {xs:List Fo} {v:Value} {w00:World} (w0:World) (gv:Lt M0 w00) (S0:Step M0 w00 M w0 aC) (hM:Lt M w0) (hc:w0.heap[bc]? =some (.cells #[.pointer (some ⟨bs,0,none⟩)] 49 (0,0))) (ik:xz M w0 a bs) (ho:Own RT.fo 45 M w0 w00.heap.size v xs) (xF:xs.length<=100000):
  Spec Tryz.prog 62 #[v,.func (.func 63) #[] #[.pointer (some ⟨bc,0,none⟩)]] w0 (λv w=>((RT.fo).sl).V M0 w (xs.filter λp=> !lA a p) v/\Step M0 w00 M0 w aC):=by
 refine bh (args:=[_,_]) (fn:=Tryz.f62) Tryz.func62 G (n:=42) Tryz.ntmps62 ?_;have S:Step M w0 M w0 aC:=aV;refine T.aQ (aN G G ?_);replace S:=S0;refine ad (T.aQ (ab G G (ab G G ?_)));refine aP G G ap1 (Nn _ (Lt.none _) hc ik.none ((ho.close (hn:=by decide) gv S q0).le (λb hb hm=>⟨λh=>h,rfl⟩))) (λr1 w1 hc1=>?_);obtain⟨z,rfl,hz,s1_⟩:=hc1;have s1:=s1_.any M;replace ho:=ho.bP s1;replace hc:=s1.aF hc;replace ik:=ik.le s1.le;replace hM:=s1.lt hM;have:=S.size;replace S:=S.aw s1;refine Rg.aZ G G (aL (T.aQ (ab G G (fe G G G (ad ?_)))));refine bE G (λc2=>?_) (λc2=>?_)
 ·refine T.aQ (ab G G (Rg.aZ G G (aJ ?_)));have hz2:=hz.resolve_right (fun⟨i,h,_⟩=>by omega);refine aK G G ⟨?_,S.back⟩;rw[show(xs.filter λp=> !lA a p)=xs from List.filter_eq_self.2 λp hp=>by rw[hz2.2 p hp];rfl];exact ho.close gv S q0
 ·refine aS (aL (T.aQ ?_));obtain⟨i0,rfl,N0,jt,p0,hp0,hd0⟩:=hz.resolve_left (λh=>c2 h.1);obtain⟨g,cap,ap2,rfl,sT,hg,tL,NM,VI,EC⟩:=ho.fos (λe=>by rw[e]at N0;exact absurd N0 (ec _));clear ho;have hgc:g≠bc:=λe=>by subst e;rw[hc]at hg;simp at hg
  refine ab G G (bu G G G q0 (Rg.aZ G G (aX ?_)));refine dd (σ:=Nat×Nat) (λq=>[(0,.slice (some ⟨g,0,none⟩) xs.length cap),(1,.func (.func 63) #[] #[.pointer (some ⟨bc,0,none⟩)]),(5,.int .i64 (q.1:Int)),(6,.int .i64 (q.2:Int))]) (λq w=>q.1<q.2/\q.2<=xs.length/\q.1=((xs.take q.2).filter λp=> !lA a p).length/\∃M2 cur,Lt M2 w/\Step M0 w00 M2 w aC/\w.heap[g]? =some (.cells cur 45 (0,0))/\M2 g/\xs.length*2<=cur.size/\vQ cur ((xs.take q.2).filter λp=> !lA a p)/\Bp cur xs q.2/\w.heap[bc]? =some (.cells #[.pointer (some ⟨bs,0,none⟩)] 49 (0,0))/\xz M2 w a bs) (λq=>xs.length-q.2) (i0,i0+1) a00 ?_ ?_
  ·have Ot:((xs.take (i0+1)).filter λp=> !lA a p)=xs.take i0:=by rw[xA hp0,if_pos hd0,eX,SL jt]
   exact⟨Nat.lt_succ_self _,N0,by dsimp only;rw[Ot,a7];omega,_,ap2,hM,S,hg,tL,VI,by dsimp only;rw[Ot];exact EC.take i0,EC.from _,hc,ik⟩
  ·clear hM S hg tL VI EC hc ik;rintro⟨i,j⟩ w ⟨jr,oX,W7,M2,cur,hM,S,hg,tL,VI,EC,hfr,hc,ik⟩;dsimp only at jr oX W7 EC hfr ⊢;refine aL (T.aQ (ab G G (ab G G (Rg.tg aT G G (cx G G G (ad ?_))))));refine bE G (λc5=>?_) (λc5=>?_)
   ·refine aS (aL (aX (T.aQ (ab G G (ab G G ?_)))));obtain⟨p,hxp⟩:∃x,xs[j]? =some x:=⟨_,aq q0⟩;obtain⟨SV,VV,Hz⟩:=hfr j p (bz _) hxp;refine Rg.Xd aT ki G G G q0 ?_;rw[ar];refine bN (M:=aC) (A:=RT.fo) cQ G ki Tg G G G (Hr hg (λh=>h) SV VV Hz) bS (λv73 aaX=>?_);obtain rfl:=Ed aaX;refine ew M2 ki G (λVC ap3 az0 az1 yE JR=>?_);obtain⟨SM,SN⟩:∃M',M'=ins M2 VC:=⟨_,rfl⟩;rw[<-SN]at JR;have xB:SM VC:=by rw[SN];exact .inl G
    change ap3.heap[VC]? =some (.cells #[.int .i64 0,.int .i64 0] _ _)at yE;have:=ae hg;replace tL:=(JR.mem _ this).2 tL;replace hg:=JR.aF hg;replace hc:=JR.aF hc;replace ik:=ik.le JR.le;replace hM:=JR.lt hM;have:=S.size;replace S:=S.aw JR;have VL: ¬bc=VC:=λe=>by rw[e,yE]at hc;simp at hc
    refine cY (M:=SM) (vs:=[.int .i64 p.1,.int .i64 p.2]) ki G G ai0 rfl rfl yE xB (λw7 g7 s7=>?_);have:=ae hg;replace tL:=(s7.mem _ this).2 tL;replace hg:=s7.bU hg a04;have:=ae yE;replace xB:=(s7.mem _ this).2 xB;replace hc:=s7.bU hc (λh=>VL h);replace ik:=ik.le s7.le;replace hM:=s7.lt hM;have:=S.size;replace S:=S.trans s7 (λk hk h=>by have h:_=_:=h;subst h;first|(exfalso;omega)|(show _<=_;omega)|exact⟨by first|omega|assumption,(S.mem _ hk).1 ((s7.mem _ (ae yE)).1 xB)⟩|exact .inl rfl|exact .inr rfl|exact .inr (.inl rfl)|exact .inr (.inr rfl)|exact .inr (.inr (.inl rfl))|exact rfl);have Xe:=g7;clear yE;have yE:=Xe;clear Xe;refine ad (T.aQ (ab G G (eC (vs:=[.int .i64 p.1,.int .i64 p.2]) cQ G ki G G G yE ?_)));refine oS (first:=[]) (captured:=[.pointer (some ⟨bc,0,none⟩)]) (xs:=[.tmp 27]) G G G E63 (Bo (p:=p) _ hM hc ik (Dv Hz.1 Hz.2)) (λr8 w8 hc8=>?_);obtain⟨rfl,s8⟩:=hc8;have:=ae hg;replace tL:=(s8.mem _ this).2 tL;replace hg:=s8.aF hg;have:=ae yE;replace xB:=(s8.mem _ this).2 xB;replace yE:=s8.aF yE;replace hc:=s8.aF hc;replace ik:=ik.le s8.le;replace hM:=s8.lt hM;have:=S.size;replace S:=S.aw s8;refine fV rfl rfl (bg (v':= .bool (decide (lA a p=false))) (by cases lA a p<;>rfl) (ad ?_));refine bE G (λc8=>?_) (λc8=>?_)
    ·refine T.aQ (ab G G (ab G G (eC (vs:=[.int .i64 p.1,.int .i64 p.2]) cQ G ki G G G yE (Rg.Xd aT ki G G G q0 ?_))));rw[ar];refine Rg.abd (M:=SM) ki G G ⟨G,G⟩ hg q0 tL (λw9 ap4 SR hz9 ha9 hb9 hk9 s9=>?_);replace hc:=s9.bU hc (λh=>hgc h.symm);replace ik:=ik.le s9.le;replace tL:=(s9.mem _ (ae hg)).2 tL;replace hg:=SR;replace S:=S.cr s9 (λb (hb:b=g)=>by omega);replace hM:=s9.lt hM;refine ad (aH (ab G G (bu G G G q0 (Rg.aZ G G (aH (ab G G (bu G G G q0 (Rg.aZ G G ?_))))))));refine⟨G,(i+1,j+1),a00,?_,?_⟩
     ·have PC:=xA (a:=a) hxp;rw[if_neg (by rw[c8];decide)]at PC;exact⟨by dsimp only;omega,by dsimp only;omega,by dsimp only;rw[PC,bM,dW];omega,_,ap4,hM,S,hg,tL,by omega,by dsimp only;rw[PC];rw[W7]at ha9 hb9 hk9;exact EC.snoc Hz ha9 hb9 hk9,hfr.bU jr hk9,hc,ik⟩
     ·dsimp only;omega
    ·refine aS (aH (ab G G (bu G G G q0 (Rg.aZ G G ?_))));refine⟨G,(i,j+1),a00,?_,?_⟩
     ·have PC:=xA (a:=a) hxp;rw[if_pos (by simpa using c8),eX]at PC;exact⟨by dsimp only;omega,by dsimp only;omega,by dsimp only;rw[PC];omega,_,cur,hM,S,hg,tL,VI,by dsimp only;rw[PC];exact EC,λt p ht hp=>hfr t p q0 hp,hc,ik⟩
     ·dsimp only;omega
   ·refine cN (T.aQ (ab G G (ab G G (Rg.ahz aT ki G G G q0 sT ?_))));rw[ar];refine Rg.abe (M:=M2) aT ki G ⟨G,G⟩ G hg q0 q0 tL (λw11 atN ap6 ap7 yB=>?_);replace S:=S.cr yB (λb (hb:b=g)=>by omega);replace hg:=ap6;refine ad (T.aQ (ab G G (ab G G (Rg.ahA aT ki G G G q0 ?_))));rw[ar];refine Rg.aZ G G (aJ ?_);have hj:xs.take j=xs:=bp q0;rw[hj]at W7 EC;refine aK G G ⟨?_,S.back⟩;have hv:=ahy (M:=M0) hg (λh=>by have:=gv _ h;omega) (EC.cut (λk hk=>ap7 k q0)) (by omega:_<=cap) (by have:=eu (λp=> !lA a p) xs;omega);rw[<-W7]at hv;exact hv
end Go.K
namespace Go.K
open Go.Proofs
namespace TKLive13
theorem gg:TI Tryz.prog 28 (.agg #[(.int .i64 0),(.string ⟨#[]⟩),(.string ⟨#[]⟩),(.slice none 0 0),(.slice none 0 0)]) 5 88:=by unfold TI;kernel_rfl
theorem E13:Enters Tryz.prog 13:=enters Tryz.func13 rfl Tg
theorem E62:Enters Tryz.prog 62:=enters Tryz.func62 rfl Tg
end TKLive13
open TKLive13
set_option maxRecDepth 10000
theorem JS {M:aM} {n:Nat} {L:List En} {q:Qy} {a:List Bool} {bs:Nat} {v0 v:Value} (w0:World) (hM:Lt M w0) (h0: ¬M 1) (tab:∃e fr,w0.heap[1]? =some (.cells (Hv.map fun(k:Nat)=>Value.int .u8 (k:Int)).toArray e fr)) (hs:cO RT.se M w0 v0 (Gu (jB L))) (fa:BW (-1) L=true) (hn:L.length<=100000) (ik:xz M w0 a bs) (hv:(RT.qy (n+1)).V M w0 q v) (lC:CW q):
  Spec Tryz.prog 22 #[v0,.pointer (some ⟨bs,0,none⟩),v] w0 (λv w=>((RT.fo).sl).V M w ((if fP q 1=0 then iq (λe=>eF e.1.2 q) 0 L else[]).filter λp=> !lA a p) v/\Step M w0 M w aC):=by
 have gv:=hM;obtain⟨NJ,NK,EI⟩:=tab;refine bh (args:=[_,_,_]) (fn:=Tryz.f22) Tryz.func22 G (n:=12) Tryz.ntmps22 ?_;have S:Step M w0 M w0 aC:=aV;refine T.aQ ?_;refine nS M G G (λIV aeO amZ am0 ni AA=>?_);obtain⟨Gw,AB⟩:∃M',M'=ins M IV:=⟨_,rfl⟩;rw[<-AB]at AA;have pM:Gw IV:=by rw[AB];exact .inl G
 try simp only[Value.cells]at ni
 replace hv:=hv.le AA.le;replace hs:=hs.le Tg AA.le;replace ik:=ik.le AA.le;replace hM:=AA.lt hM;have:=S.size;replace S:=S.aw AA;refine ef (A:=RT.qy (n+1)) (a:=q) G G hM hv (dK _) (λu5 wb1 lP NH _=>?_);have:=ae ni;replace pM:=(NH.mem _ this).2 pM;replace ni:=NH.aF ni;replace hv:=hv.le NH.le;replace hs:=hs.le Tg NH.le;replace ik:=ik.le NH.le;replace hM:=NH.lt hM;have:=S.size;replace S:=S.aw NH;refine Rg.aZ G G (T.aQ (ab G G ?_));refine bN (A:=RT.qy (n+1)) ak G (IQ gg _) (aG _) (dK _) G G lP bS (λv11 Ek=>?_);refine aP G G E13 (yc (n:=n) (q:=q) _ hM (λhn=>h0 ((S.mem 1 (ae EI)).1 hn)) ⟨NJ,NK,S.aF EI⟩ hs fa hn Ek lC) (λr12 LK hc=>?_);obtain⟨Mr,hrl,R6,hro⟩:=hc;have O1:=R6.aF ni;replace ik:=ik.le R6.le;refine iS (xs:=[]) (ys:=[.tmp 4]) G G G ?_;refine aP G G E62 (No _ hM R6 hrl O1 ik hro (by split;(have:=kC (f:=λe=>eF e.1.2 q) L 0;omega);exact a8 _)) (λr14 Ny hc=>?_);obtain⟨aae,jD⟩:=hc;replace S:=S.aw jD;refine Rg.aZ G G (aJ ?_);exact aK G G ⟨aae.le (lE gv S),S.back⟩
end Go.K

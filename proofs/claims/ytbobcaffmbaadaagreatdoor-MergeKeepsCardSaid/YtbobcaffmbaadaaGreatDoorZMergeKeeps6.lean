/- What the law 'MergeKeeps' needs of walks and plain Lean, part 6: nothing is assumed beyond the texts that it imports. -/
import Derived.KernelRfl
import Derived.Test.YtbobcaffmbaadaaGreatDoorProg
import Derived.Test.YtbobcaffmbaadaaGreatDoorZMergeKeeps1
import Derived.Test.YtbobcaffmbaadaaGreatDoorZMergeKeeps2
import Derived.Test.YtbobcaffmbaadaaGreatDoorZMergeKeeps3
import Derived.Test.YtbobcaffmbaadaaGreatDoorZMergeKeeps4
import Derived.Test.YtbobcaffmbaadaaGreatDoorZMergeKeeps5
set_option linter.unusedVariables false
set_option linter.unusedSimpArgs false
namespace Go.K
open Go.Proofs
namespace TKSegK
theorem BM:TI Tryz.prog 58 (.slice none 0 0) 1 24:=by unfold TI;kernel_rfl
theorem Cr:TI Tryz.prog 72 (.agg #[(.slice none 0 0),(.slice none 0 0),(.slice none 0 0),(.slice none 0 0)]) 4 96:=by unfold TI;kernel_rfl
theorem yB:TI Tryz.prog 80 (.slice none 0 0) 1 24:=by unfold TI;kernel_rfl
theorem D6:TI Tryz.prog 139 (.pointer none) 1 8:=by unfold TI;kernel_rfl
theorem B72:placesOf Tryz.prog 72=[(0,1),(1,1),(2,1),(3,1)].map some:=by kernel_rfl
theorem PX:Enters Tryz.prog 51:=enters Tryz.func51 rfl (by decide)
theorem E76:Enters Tryz.prog 76:=enters Tryz.func76 rfl (by decide)
theorem E77:Enters Tryz.prog 77:=enters Tryz.func77 rfl (by decide)
theorem E78:Enters Tryz.prog 78:=enters Tryz.func78 rfl (by decide)
theorem Vv:Enters Tryz.prog 123:=enters Tryz.func123 rfl (by decide)
end TKSegK
open TKSegK
set_option maxRecDepth 10000
structure N4 {α:Type} (A:RT α) (e T:TypeId) (X:aC→World→Prop) (F:Value→Array Value) (M:aC) (w0:World) (bo bi bd D:Nat) (vd:Value) (st:Loop) (vo:Value) (xs:List α) (M':aC) (w:World):Prop where
 lt:Lt M' w
 S:Step M w0 M' w aD
 o:w.heap[bo]? =some (.cells (F vo) T (0,0))
 mo:M' bo
 r:w.heap[D+1]? =some (.loop st)
 mr:M' (D+1)
 d:w.heap[D]? =some (.deferred (some []))
 md:M' D
 own:Own A e M' w w0.heap.size vo xs
 gi:w.heap[bi]? =some (.cells #[.int .i64 0] 3 (0,0))
 gd:w.heap[bd]? =some (.cells #[vd] 139 (0,0))
 fi: ¬M' bi
 fd: ¬M' bd
 z:w0.heap.size≤bo∧w0.heap.size≤D
 k:X M' w
section
variable {α:Type} {A:RT α} {e T:TypeId} {X:aC→World→Prop} {F:Value→Array Value} {M M1 M2 N:aC} {w0 w w':World} {bo bi bd D:Nat} {vd:Value} {st:Loop} {vo:Value} {xs:List α}
theorem N4.aM (hX:∀{M w M' w'},X M w→Le M w M' w'→X M' w') (h:N4 A e T X F M w0 bo bi bd D vd st vo xs M1 w) (s:Step M1 w M2 w' aD):N4 A e T X F M w0 bo bi bd D vd st vo xs M2 w':=
 ⟨s.lt h.lt,h.S.aB s,s.aK h.o,(s.mem _ (ak h.o)).2 h.mo,s.aK h.r,(s.mem _ (ak h.r)).2 h.mr,s.aK h.d,(s.mem _ (ak h.d)).2 h.md,h.own.aM s,s.aK h.gi,s.aK h.gd,fun hn=>h.fi ((s.mem _ (ak h.gi)).1 hn),fun hn=>h.fd ((s.mem _ (ak h.gd)).1 hn),h.z,hX h.k s.le⟩
theorem N4.mz {st':Loop} (hX:∀{M w M' w'},X M w→Le M w M' w'→X M' w') (h:N4 A e T X F M w0 bo bi bd D vd st vo xs M1 w):N4 A e T X F M w0 bo bi bd D vd st' vo xs M1 (w.putObj (D+1) (.loop st')):=by
 have s:Step M1 w M1 (w.putObj (D+1) (.loop st')) (fun k=>k=D+1):=dS h.mr;obtain⟨z1,z2⟩:=h.z;refine⟨s.lt h.lt,h.S.cf s (fun k (hk:k=D+1)=>by omega),s.keep h.o (fun(hn:bo=D+1)=>by have h1:=h.o;rw[hn,h.r]at h1;cases h1),h.mo,wK (ak h.r),h.mr,s.keep h.d (fun(hn:D=D+1)=>by omega),h.md,h.own.step s (fun b hb (hn:b=D+1)=>?_),s.keep h.gi (fun(hn:bi=D+1)=>by have h1:=h.gi;rw[hn,h.r]at h1;cases h1),s.keep h.gd (fun(hn:bd=D+1)=>by have h1:=h.gd;rw[hn,h.r]at h1;cases h1),h.fi,h.fd,h.z,hX h.k s.le⟩;obtain⟨cs,hc⟩:=h.own.isCells hb;rw[hn,h.r]at hc;cases hc
theorem N4.grow {Gv:Value} {Nu:List α} (hX:∀{M w M' w'},X M w→Le M w M' w'→X M' w') (hT:T≠e) (h:N4 A e T X F M w0 bo bi bd D vd st vo xs M1 w) (s:Step M1 w M2 w' (fC vo)) (ho:Own A e M2 w' w0.heap.size Gv Nu):
  (w'.heap[bo]? =some (.cells (F vo) T (0,0))∧M2 bo)∧∀{w2:World},Step M2 w' M2 w2 (fun k=>k=bo)→w2.heap[bo]? =some (.cells (F Gv) T (0,0))→N4 A e T X F M w0 bo bi bd D vd st Gv Nu M2 w2:=by
 obtain⟨z1,z2⟩:=h.z
 have yO:∀{b:Nat} {o:Obj},w.heap[b]? =some o→(∀cs fr,o≠ .cells cs e fr)→¬fC vo b:=fun {b o} hb eN hn=>by
  obtain⟨⟨C,h1,_⟩,_⟩:=h.own;rcases h1.2 with h3|⟨g,cap,cur,h3,h4,h5,_⟩
  ·unfold fC at hn;rw[h3.1]at hn;cases hn
  ·unfold fC at hn;rw[h3]at hn;cases hn;rw[hb]at h5;exact eN _ _ (aI h5)
 have nM:∀{b:Nat},¬M1 b→¬fC vo b:=fun hb hn=>hb (h.own.mut_ _ hn)
 have fS:=s.keep h.o (yO h.o (fun cs fr hc=>by injection hc with _ h1 _;exact hT h1));have hr:=s.keep h.r (yO h.r (fun cs fr hc=>by cases hc));have hd:=s.keep h.d (yO h.d (fun cs fr hc=>by cases hc));have lD:=s.keep h.gi (nM h.fi);have oR:=s.keep h.gd (nM h.fd);have Nv: ¬M2 bi:=fun hn=>h.fi ((s.mem _ (ak h.gi)).1 hn)
 have Ka: ¬M2 bd:=fun hn=>h.fd ((s.mem _ (ak h.gd)).1 hn)
 have F2:=(s.mem _ (ak h.o)).2 h.mo;refine⟨⟨fS,F2⟩,fun {w2} s2 hx=>⟨s2.lt (s.lt h.lt),(h.S.cV s h.own (aO _)).cf s2 (fun k (hk:k=bo)=>by omega),hx,F2,s2.keep hr (fun(hn:D+1=bo)=>by rw[hn,fS]at hr;cases hr),(s.mem _ (ak h.r)).2 h.mr,s2.keep hd (fun(hn:D=bo)=>by rw[hn,fS]at hd;cases hd),(s.mem _ (ak h.d)).2 h.md,ho.step s2 (fun b hb (hn:b=bo)=>ho.eM fS hT (by rw[←hn];exact hb)),s2.keep lD (fun(hn:bi=bo)=>Nv (by rw[hn];exact F2)),s2.keep oR (fun(hn:bd=bo)=>Ka (by rw[hn];exact F2)),Nv,Ka,h.z,hX (hX h.k s.le) s2.le⟩⟩
end
theorem ain {α:Type} {A:RT α} {e T:TypeId} {X:aC→World→Prop} {F:Value→Array Value} (hX:∀{M w M' w'},X M w→Le M w M' w'→X M' w') {M M1:aC} {w0 w:World} {bo bi bd:Nat} {vd:Value} {st:Loop} (hk:X M1 w) (hM:Lt M1 w) (S:Step M w0 M1 w aD) (go:w.heap[bo]? =some (.cells (F (.slice none 0 0)) T (0,0))) (mo:M1 bo) (gi:w.heap[bi]? =some (.cells #[.int .i64 0] 3 (0,0))) (gd:w.heap[bd]? =some (.cells #[vd] 139 (0,0))) (fi: ¬M1 bi) (fd: ¬M1 bd) (Gn:w0.heap.size≤bo):
  ∃M',N4 A e T X F M w0 bo bi bd w.heap.size vd st (.slice none 0 0) [] M' ((w.alloc (.deferred (some []))).alloc (.loop st)):=by
 have sA:Step M1 w (ins M1 w.heap.size) (w.alloc (.deferred (some []))) aD:=(cQ M1 w _).own (aO _) (by simp);have sB:Step (ins M1 w.heap.size) (w.alloc (.deferred (some []))) (ins (ins M1 w.heap.size) (w.heap.size+1)) ((w.alloc (.deferred (some []))).alloc (.loop st)) aD:=(cQ _ _ _).own (by simp) (by simp);have hD:(w.alloc (.deferred (some []))).heap[w.heap.size]? =some (.deferred (some [])):=ch w _;have hR:((w.alloc (.deferred (some []))).alloc (.loop st)).heap[w.heap.size+1]? =some (.loop st):=by have:=ch (w.alloc (.deferred (some []))) (.loop st);rwa [zz]at this
 have SS:=(S.aB sA).aB sB;have hi:=ak gi;have hd:=ak gd;refine⟨_,sB.lt (sA.lt hM),SS,sB.aK (sA.aK go),.inr (.inr mo),hR,.inl rfl,sB.aK hD,.inr (.inl rfl),dz _ _ _ _ _,sB.aK (sA.aK gi),sB.aK (sA.aK gd),?_,?_,⟨Gn,S.size⟩,hX (hX hk sA.le) sB.le⟩
 ·rintro(h|h|h)
  ·omega
  ·omega
  ·exact fi h
 ·rintro(h|h|h)
  ·omega
  ·omega
  ·exact fd h
theorem Le.out {MQ M':aC} {wQ w:World} (h:Le MQ wQ M' w):Le (fun b=>MQ b∨wQ.heap.size≤b) w M' w:=fun b _ hm=>⟨(h b (Nat.lt_of_not_le fun hh=>hm (.inr hh)) (fun hh=>hm (.inl hh))).1,rfl⟩
theorem Le.fixed {MQ M':aC} {wQ w:World} (h:Le MQ wQ M' w):Le (fun b=>MQ b∨wQ.heap.size≤b) wQ (fun b=>MQ b∨wQ.heap.size≤b) w:=fun b hb hm=>⟨hm,(h b hb (fun hh=>hm (.inl hh))).2⟩
theorem Le.wide (MQ:aC) (wQ:World):Le MQ wQ (fun b=>MQ b∨wQ.heap.size≤b) wQ:=fun b hb hm=>⟨fun hh=>hh.elim hm (fun h=>by omega),rfl⟩
def H5 (s:Se) (va vb vc:Value) (MQ:aC) (wQ:World) (M:aC) (w:World):Prop:=((RT.int .i64).sl).V M w s.1 va∧((RT.int .i64).sl).V M w s.2.1 vb∧(RT.str.sl).V M w s.2.2.1 vc∧Le MQ wQ M w
theorem H5.le {s:Se} {va vb vc:Value} {MQ:aC} {wQ:World}:∀{M:aC} {w:World} {M':aC} {w':World},H5 s va vb vc MQ wQ M w→Le M w M' w'→H5 s va vb vc MQ wQ M' w':=fun h l=>⟨h.1.le l,h.2.1.le l,h.2.2.1.le l,h.2.2.2.trans l⟩
theorem EI {M:aC} {s:Se} {ls:List (List Po)} {v0:Value} (w0:World) (hM:Lt M w0) (hs:cP RT.se M w0 v0 s) (hls:s.2.2.2=ls.map nq) (hdl:s.2.2.1.length=ls.length) (hn1:s.1.length≤1000000) (hn2:s.2.1.length≤1000000) (hd6:s.2.2.1.length≤1000000000) (hok:∀l∈ls,fJ (-1) l=true∧(∀p∈l,p.2.length≤1099511627776)∧(ec (-1) l).length≤1099511627776∧l.length≤1099511627776):
  Spec Tryz.prog 32 #[v0] w0 (fun v w=>RT.pa.V M w (s.1,s.2.1,s.2.2.1,ls) v∧Step M w0 M w aD):=by
 have kr:=hM;refine nL (args:=[_]) (fn:=Tryz.f32) Tryz.func32 rfl (n:=37) Tryz.ntmps32 ?_;have S:Step M w0 M w0 aD:=(aw _ _).cF (fun _ h=>h.elim) (fun _ h=>h.elim);refine aj (ae ?_);refine ek M Cr rfl (fun xa BO agJ agK oa BP=>?_);obtain⟨gQ,yM⟩:∃M',M'=ins M xa:=⟨_,rfl⟩;rw[←yM]at BP;have qv:gQ xa:=by rw[yM];exact .inl rfl
 change BO.heap[xa]? =some (.cells #[.slice none 0 0,.slice none 0 0,.slice none 0 0,.slice none 0 0] _ _)at oa;replace hM:=BP.lt hM;have:=S.size;replace S:=S.aB BP;refine ab (aj ?_);have hMA:=hM;have VU:cP RT.se gQ BO v0 s:=hs.le (by decide) BP.le;apply T.Ah (M:=gQ) mixed [] [cJ.eq _,cJ.eq v0,cJ.ptr (((RT.int .i64).sl)) s.1,cJ.V ((RT.int .i64).sl) s.1,cJ.V ((RT.int .i64).sl) s.1,cJ.eq _,cJ.eq v0,cJ.ptr (((RT.int .i64).sl)) s.2.1,cJ.V ((RT.int .i64).sl) s.2.1,cJ.V ((RT.int .i64).sl) s.2.1,cJ.eq _,cJ.eq v0,cJ.ptr ((RT.di).ptr) s.2.2,cJ.V ((RT.di).ptr) s.2.2,cJ.V (RT.str.sl) s.2.2.1,cJ.mk' (fun v w'=>∃a b c,v= .agg [a,b,c,.slice none 0 0].toArray∧((RT.int .i64).sl).V gQ w' s.1 a∧((RT.int .i64).sl).V gQ w' s.2.1 b∧(RT.str.sl).V gQ w' s.2.2.1 c) (fun⟨a,b,c,h1,h2,h3,h4⟩ s=>⟨a,b,c,h1,h2.le s.le,h3.le s.le,h4.le s.le⟩),cJ.mk' (fun p w'=>∃bq,p= .pointer (some ⟨bq,0,none⟩)∧BO.heap.size≤bq∧w'.heap[bq]? =some (.cells #[.slice none 0 0,.slice none 0 0,.slice none 0 0,.slice none 0 0] 72 (0,0))) (fun⟨bq,h1,h2,h3⟩ s=>⟨bq,h1,h2,s.aK h3⟩)] 17
 ·rfl
 ·rfl
 ·rfl
 ·rfl
 ·rfl
 ·exact fun p hp=>by cases hp
 ·exact uF.none
 ·refine aF ?_ ?_
  ·intro wD E sD;refine ad rfl rfl ?_;exact ab ⟨rfl,rfl,_,rfl,rfl,aw _ _⟩
  refine aF ?_ ?_
  ·intro wD E sD;refine aR (bQ rfl VU.gO rfl ?_);exact ab ⟨rfl,rfl,_,rfl,rfl,aw _ _⟩
  refine aF ?_ ?_
  ·intro wD E sD;refine aR ?_;refine aL (M:=gQ) (A:=RT.se) (B:=((RT.int .i64).sl)) iO rfl rfl j7 (by decide) se0 rfl rfl (by decide) VU sD.le (fun uf BL=>?_);exact ab ⟨rfl,rfl,_,rfl,BL,aw _ _⟩
  refine aF ?_ ?_
  ·intro wD E sD;intro v2 CX;refine bT (M:=gQ) an rfl rfl rfl rfl rfl (show cP (((RT.int .i64).sl)) gQ wD v2 s.1 from CX) (aq _ _) (fun va lL=>?_);exact ab ⟨rfl,rfl,_,rfl,lL,aw _ _⟩
  refine aF ?_ ?_
  ·intro wD E sD;intro v3 zu;refine aW rfl rfl PX (qt (M:=gQ) (sD.lt hMA) (show((RT.int .i64).sl).V gQ wD s.1 v3 from zu) (by omega)) (fun r1 w1 h1=>?_);exact ab ⟨rfl,rfl,_,rfl,h1.1,h1.2⟩
  refine aF ?_ ?_
  ·intro wD E sD;refine ad rfl rfl ?_;exact ab ⟨rfl,rfl,_,rfl,rfl,aw _ _⟩
  refine aF ?_ ?_
  ·intro wD E sD;refine aR (bQ rfl VU.gO rfl ?_);exact ab ⟨rfl,rfl,_,rfl,rfl,aw _ _⟩
  refine aF ?_ ?_
  ·intro wD E sD;refine aR ?_;refine aL (M:=gQ) (A:=RT.se) (B:=((RT.int .i64).sl)) iO rfl rfl j7 (by decide) se1 rfl rfl (by decide) VU sD.le (fun uf BL=>?_);exact ab ⟨rfl,rfl,_,rfl,BL,aw _ _⟩
  refine aF ?_ ?_
  ·intro wD E sD;intro v7 FR;refine bT (M:=gQ) an rfl rfl rfl rfl rfl (show cP (((RT.int .i64).sl)) gQ wD v7 s.2.1 from FR) (aq _ _) (fun va lL=>?_);exact ab ⟨rfl,rfl,_,rfl,lL,aw _ _⟩
  refine aF ?_ ?_
  ·intro wD E sD;intro v8 J0;intro v4 pT;refine aW rfl rfl PX (qt (M:=gQ) (sD.lt hMA) (show((RT.int .i64).sl).V gQ wD s.2.1 v8 from J0) (by omega)) (fun r1 w1 h1=>?_);exact ab ⟨rfl,rfl,_,rfl,h1.1,h1.2⟩
  refine aF ?_ ?_
  ·intro wD E sD;refine ad rfl rfl ?_;exact ab ⟨rfl,rfl,_,rfl,rfl,aw _ _⟩
  refine aF ?_ ?_
  ·intro wD E sD;refine aR (bQ rfl VU.gO rfl ?_);exact ab ⟨rfl,rfl,_,rfl,rfl,aw _ _⟩
  refine aF ?_ ?_
  ·intro wD E sD;refine aR ?_;refine aL (M:=gQ) (A:=RT.se) (B:=(RT.di).ptr) iO rfl rfl D6 (by decide) se2 rfl rfl (by decide) VU sD.le (fun uf BL=>?_);exact ab ⟨rfl,rfl,_,rfl,BL,aw _ _⟩
  refine aF ?_ ?_
  ·intro wD E sD;intro v12 VV;refine bT (M:=gQ) gz rfl rfl rfl rfl rfl (show cP ((RT.di).ptr) gQ wD v12 s.2.2 from VV) (aq _ _) (fun va lL=>?_);exact ab ⟨rfl,rfl,_,rfl,lL,aw _ _⟩
  refine aF ?_ ?_
  ·intro wD E sD;intro RQ NQ;intro v9 Dj;refine aW rfl rfl E76 (yP (M:=gQ) _ (sD.lt hMA) (mA.1 (show((RT.di).ptr).V gQ wD s.2.2 RQ from NQ)) (by rw[hls,aH];exact hdl) hd6) (fun r1 w1 h1=>?_);exact ab ⟨rfl,rfl,_,rfl,h1.1,h1.2⟩
  refine aF ?_ ?_
  ·intro wD E sD;intro v4 pT;intro v9 Dj;intro v14 QF;refine iI (places:=[(0,1),(1,1),(2,1),(3,1)]) bF Cr B72 rfl ⟨_,_,rfl,rfl,_,_,rfl,rfl,_,_,rfl,rfl,rfl⟩ (out:=[v4,v9,v14,.slice none 0 0]) ⟨0,[_],rfl,jw pT,by simp[Value.cells],1,[_],rfl,jw Dj,by simp[Value.cells],2,[_],rfl,jw QF,by simp[Value.cells],rfl⟩ ?_;exact ab ⟨rfl,rfl,_,rfl,⟨v4,v9,v14,rfl,pT,Dj,QF⟩,aw _ _⟩
  refine aF ?_ ?_
  ·intro wD E sD;refine ek gQ Cr rfl (fun bq wq e1 e2 e3 s=>?_);exact ab ⟨rfl,rfl,_,rfl,⟨bq,rfl,eD sD.size e1,e3⟩,s.back⟩
  exact rU
 ·intro EY lU;refine aR (aR ?_);intro Jo pE;intro aeR RG;intro ah2 aau;refine aR (aR ?_);intro Ze RS;intro arM amd;intro arN ame;refine aR (aR ?_);intro amf aip;intro amg aiq;intro amh air;intro ami VW;intro amj VX;obtain⟨va,vb,vc,rfl,lL,MF,hvc⟩:=VW;obtain⟨bo,rfl,Gn,gq⟩:=VX;obtain⟨MP,eMP⟩:∃M',M'=ins gQ bo:=⟨_,rfl⟩;have sW:Step gQ BO MP EY aD:=by rw[eMP];exact lU.own Gn (ak gq)
  replace lL:((RT.int .i64).sl).V MP EY s.1 va:=by rw[eMP];exact N2 (fun _ _ _ _ _ _ h=>h) gq (fun M w x vs (h:vs=_∧_)=>⟨_,[],h.1,fun j hj=>by rcases j with _|_|_|_|j<;>simp at hj⟩) lL
  replace MF:((RT.int .i64).sl).V MP EY s.2.1 vb:=by rw[eMP];exact N2 (fun _ _ _ _ _ _ h=>h) gq (fun M w x vs (h:vs=_∧_)=>⟨_,[],h.1,fun j hj=>by rcases j with _|_|_|_|j<;>simp at hj⟩) MF
  replace hvc:(RT.str.sl).V MP EY s.2.2.1 vc:=by rw[eMP];exact N2 (fun _ _ _ _ _ _ h=>h) gq (fun M w x vs (h:vs=_∧_)=>⟨_,[],h.1,fun j hj=>by rcases j with _|_|_|_|j<;>simp at hj⟩) hvc
  have mbo:MP bo:=by rw[eMP];exact .inl rfl
  refine dY (M:=MP) (vs:=[va,vb,vc,.slice none 0 0]) Cr rfl rfl (by intro u hu;simp at hu;rcases hu with rfl|rfl|rfl|rfl<;>first|rfl|exact mT (by assumption) rfl rfl) rfl rfl gq mbo (fun Vh g17 vg=>?_);replace lL:=lL.le vg.le;replace MF:=MF.le vg.le;replace hvc:=hvc.le vg.le;replace mbo:=(vg.mem _ (ak gq)).2 mbo;have hsQ:cP RT.se MP Vh v0 s:=(VU.le (by decide) sW.le).le (by decide) vg.le;have SA:=S;clear S hM gq;have gq:=g17;have S:Step gQ BO MP Vh aD:=sW.cf vg (fun k (hk:k=bo)=>by omega);have hM:=S.lt hMA;refine ab (aj (aj (ae (ad rfl rfl (bQ rfl hsQ.gO rfl ?_)))));refine aL (M:=MP) (A:=RT.se) (B:=(RT.di).ptr) iO rfl rfl D6 (by decide) se2 rfl rfl (by decide) hsQ (aq _ _) (fun Zz lg=>?_);refine bT (M:=MP) gz rfl rfl rfl rfl rfl lg (aq _ _) (fun vd ZJ=>?_);have hdp:=mA.1 ZJ;refine aW rfl rfl E77 (AS (M:=MP) _ hM hdp) (fun r2 w2 hc=>?_);obtain⟨bi,bd,rfl,gi,gd,JU,hbd,s2⟩:=hc;have fi: ¬MP bi:=fun h=>by have:=hM _ h;omega
  have fd: ¬MP bd:=fun h=>by have:=hM _ h;omega
  replace hM:=s2.lt hM;have:=S.size;replace S:=S.aB s2;refine ab (aZ ?_);refine T.range (gf:=123) (lb:=[.pointer (some ⟨bi,0,none⟩),.pointer (some ⟨bd,0,none⟩)].toArray) rfl Vv (fun rec np=>?_);obtain⟨D,hD⟩:∃D,D=w2.heap.size:=⟨_,rfl⟩;obtain⟨Mr,h0⟩:=ain (A:=(RT.po).sl) (e:=80) (X:=(H5 s va vb vc MP w2)) (F:=(fun vo=> #[va,vb,vc,vo])) H5.le (st:=rec .ready none) ⟨lL.le s2.le,MF.le s2.le,hvc.le s2.le,aq _ _⟩ hM S (s2.aK gq) ((s2.mem _ (ak gq)).2 mbo) gi gd fi fd Gn;rw[←hD]at np h0 ⊢;have Ij:cP RT.di (fun b=>MP b∨w2.heap.size≤b) w2 vd s.2.2:=(hdp.le (by decide) s2.le).le (by decide) (Le.wide MP w2);refine Spec.mono (yN (wv:=w2) (M:=fun b=>MP b∨w2.heap.size≤b) (J:=fun i w=>∃M' vo,N4 ((RT.po).sl) 80 72 (H5 s va vb vc MP w2) (fun vo=> #[va,vb,vc,vo]) gQ BO bo bi bd D vd (rec .ready none) vo (ls.take i) M' w) (Jx:=fun _=>False) _ Ij (by rw[hls,aH];exact hdl) (fun i w w' ⟨M',vo,h⟩ s=>⟨M',vo,h.aM H5.le (s.any M')⟩) (fun i w ⟨M',vo,h⟩=>⟨h.gi,h.gd,h.k.2.2.2.fixed⟩) (fun i wr x t vt hJ hx ht hp=>?_) ⟨Mr,_,h0⟩) (fun _ w3 h3=>?_)
  ·obtain⟨M',vo,h⟩:=hJ;obtain⟨l,VQ,rfl⟩:∃l,ls[i]? =some l∧nq l=t:=by rw[hls,bm]at ht;exact Option.map_eq_some_iff.1 ht
   have ot:=(ao.1 VQ).1;obtain⟨mN,hrp,hrb,hrl⟩:=hok l (az VQ);refine lS (ps:=[27,28]) (vs:=[sv x,vt]) np h.r rfl (by decide) (ae (ah rfl rfl (ab ?_)));refine⟨rfl,h.r,?_⟩;have h4:=h.mz H5.le (st':=rec .busy none);have s4:Step M' wr M' (wr.putObj (D+1) (.loop (rec .busy none))) (fun k=>k=D+1):=dS h.mr;have hp4:=(hp.le (by decide) h.k.2.2.2.out).le (by decide) s4.le;generalize wr.putObj (D+1) _=w4 at h4 s4 hp4 ⊢;have hM:=h4.lt;have S:=h4.S;refine aZ ?_;apply T.pq 3 [0,1] 2 aD mixed rfl rfl rfl rfl;intro wD4 YT;have AJ:=YT (M');replace hM:=AJ.lt hM;have:=S.size;replace S:=S.aB AJ;replace h4:=h4.aM H5.le AJ;refine bO bF rfl rfl BM (by decide) rfl rfl ?_;refine ab ⟨rfl,rfl,rfl,?_⟩;refine aP fR rfl rfl rfl h4.o rfl (aU (v':=vo) rfl ?_);refine ab ⟨rfl,rfl,rfl,?_⟩;refine ad rfl rfl ?_;refine ab ⟨rfl,rfl,rfl,?_⟩;refine eQ ?_;refine⟨iH ⟨iF bF rfl BM (by decide),⟨eC rfl h4.o (fun h=>h),trivial⟩⟩,?_⟩;have kp:=jC aD wD4;refine aW rfl rfl E78 (EH h4.lt (hp4.le (by decide) AJ.le) mN hrp hrb hrl) (fun r5 w5 hc=>?_);obtain⟨pV,s5⟩:=hc;replace h4:=h4.aM H5.le s5;refine(fun(kp:eJ _ _ _)=>ab ⟨rfl,rfl,fun _=>kp,?_⟩) (by first|exact kp|exact kp.qV (by assumption)|exact kp.goN (by assumption)|exact kp.go (by assumption) (fun _ _ h=>by first|exact h|exact h.elim));refine eg (A:=(RT.po).sl) (hn:=by decide) (M:=M') fR yB (by decide) rfl rfl h4.lt pV (.inr ⟨rfl,rfl⟩) (fun u6 w6 FF s6=>?_);have h6:=h4.aM H5.le s6;refine(fun(kp:eJ _ _ _)=>ab ⟨rfl,rfl,fun _=>kp,?_⟩) (by first|exact kp|exact kp.qV (by assumption)|exact kp.goN (by assumption)|exact kp.go (by assumption) (fun _ _ h=>by first|exact h|exact h.elim));refine cX (M:=M') (base:=BO.heap.size) fR yB rfl rfl rfl rfl h6.own FF (aq _ _) (by simp;omega) (by simp;omega) h6.S.size (fun v7 M7 w7 mU s7=>?_)
   obtain⟨⟨go7,mo7⟩,Fa⟩:=h6.grow H5.le (by decide) s7 mU;refine ab ⟨rfl,rfl,fun h=>absurd rfl h,?_⟩;refine bO bF rfl rfl BM (by decide) rfl rfl ?_;refine ab ⟨rfl,rfl,fun h=>absurd rfl h,?_⟩;refine cu (M:=M7) BM rfl rfl go7 rfl (by obtain⟨_,_,he,_⟩:=mU.isSlice;rw[he];rfl) mo7 (fun w8 g8 s8=>?_);replace g8:w8.heap[bo]? =some (.cells ((fun vo=> #[va,vb,vc,vo]) v7) 72 (0,0)):=g8;refine ab ⟨rfl,rfl,fun h=>absurd rfl h,?_⟩;refine mH ?_;have h8:=(Fa s8 g8).mz H5.le (st':=rec .ready none);exact⟨(Fa s8 g8).r,true,rfl,fun _=>⟨M7,v7,by rw[b9,VQ,cK];exact h8⟩,fun h=>by cases h⟩
  ·obtain⟨M',vo,h⟩:=h3.resolve_right id;left;refine⟨h.r,?_⟩;have h5:=h.mz H5.le (st':=rec .exhausted none);generalize w3.putObj (D+1) _=wE at h5 ⊢;refine aj (ae (iq (vs:=[va,vb,vc,vo]) bF rfl Cr rfl rfl rfl h5.o ?_));obtain⟨hka,hkb,OL,_⟩:=h5.k;obtain⟨_,_,heo,_⟩:=h5.own.isSlice;have gR:=h5.S.aK oa;have mR:=(h5.S.mem _ (ak oa)).2 qv;refine dY (M:=M') (vs:=[va,vb,vc,vo]) Cr rfl rfl (by intro u hu;simp at hu;rcases hu with rfl|rfl|rfl|rfl<;>first|exact mT (by assumption) rfl rfl|(rw[heo];rfl)) rfl rfl gR mR (fun wF gF sF=>?_);refine ab (aQ ?_);have hDF:=sF.keep h5.d (fun(hn:D=xa)=>by have h1:=h5.d;rw[hn,gR]at h1;cases h1);have sZ:Step M' wF M' (wF.putObj D (.deferred none)) (fun k=>k=D):=dS h5.md;have hz:=h5.z;have arU:=SA.size;have SS:=((SA.aB h5.S).cf sF (fun k (hk:k=xa)=>by omega)).cf sZ (fun k (hk:k=D)=>by omega)
   have ho:=(h5.own.step sF (fun b hb (hn:b=xa)=>h5.own.eM gR (by decide) (hn▸hb))).step sZ (fun b hb (hn:b=D)=>by
    obtain⟨cs,hc⟩:=h5.own.isCells hb;rw[hn,h5.d]at hc;cases hc)
   rw[bc (Nat.le_of_eq hdl.symm)]at ho;have Q6:ls.length≤1000000000:=by omega
   have lc:=(sF.le.trans sZ.le).trans (Le.close kr SS);refine QE (vs:=[va,vb,vc,vo]) rfl rfl bF rfl Cr rfl hDF (sZ.keep gF (fun(hn:xa=D)=>by rw[hn,h5.d]at gR;cases gR)) ⟨Uz (x:=(s.1,s.2.1,s.2.2.1,ls)) (hka.le lc) (hkb.le lc) (OL.le lc) (xg (hn:=by decide) kr SS (ho.nj (by omega)) (by show ls.length≤_;omega)),SS.back⟩
end Go.K
namespace Go.K
open Go.Proofs
namespace TKSegM
theorem BM:TI Tryz.prog 58 (.slice none 0 0) 1 24:=by unfold TI;kernel_rfl
theorem Cr:TI Tryz.prog 72 (.agg #[(.slice none 0 0),(.slice none 0 0),(.slice none 0 0),(.slice none 0 0)]) 4 96:=by unfold TI;kernel_rfl
theorem E32:Enters Tryz.prog 32:=enters Tryz.func32 rfl (by decide)
end TKSegM
open TKSegM
set_option maxRecDepth 10000
structure aaD (s:Se) (ls:List (List Po)):Prop where
 hls:s.2.2.2=ls.map nq
 hdl:s.2.2.1.length=ls.length
 hn1:s.1.length≤1000000
 hn2:s.2.1.length≤1000000
 hd6:s.2.2.1.length≤1000000000
 hok:∀l∈ls,fJ (-1) l=true∧(∀p∈l,p.2.length≤1099511627776)∧(ec (-1) l).length≤1099511627776∧l.length≤1099511627776
end Go.K
namespace Go.K
open Go.Proofs
namespace TKSegN
theorem BM:TI Tryz.prog 58 (.slice none 0 0) 1 24:=by unfold TI;kernel_rfl
theorem yB:TI Tryz.prog 80 (.slice none 0 0) 1 24:=by unfold TI;kernel_rfl
end TKSegN
open TKSegN
set_option maxRecDepth 10000
end Go.K
namespace Go.K
open Go.Proofs
namespace TKSegQ
theorem BM:TI Tryz.prog 58 (.slice none 0 0) 1 24:=by unfold TI;kernel_rfl
theorem yB:TI Tryz.prog 80 (.slice none 0 0) 1 24:=by unfold TI;kernel_rfl
theorem D6:TI Tryz.prog 139 (.pointer none) 1 8:=by unfold TI;kernel_rfl
theorem E78:Enters Tryz.prog 78:=enters Tryz.func78 rfl (by decide)
theorem E79:Enters Tryz.prog 79:=enters Tryz.func79 rfl (by decide)
end TKSegQ
open TKSegQ
set_option maxRecDepth 10000
theorem GV {M:aC} {s:Se} {ls:List (List Po)} {k:List UInt8} {v0:Value} (w0:World) (hM:Lt M w0) (hs:cP RT.se M w0 v0 s) (Cs:DB s.2.2.1) (ok:aaD s ls):
  Spec Tryz.prog 36 #[v0,sv k] w0 (fun v w=>(RT.po.sl).V M w (Vw s.2.2.1 ls k) v∧Step M w0 M w aD):=by
 refine bg (args:=[_,_]) (fn:=Tryz.f36) Tryz.func36 rfl (n:=20) Tryz.ntmps36 ?_;have S:Step M w0 M w0 aD:=(aw _ _).cF (fun _ h=>h.elim) (fun _ h=>h.elim);refine aj (ae (ah rfl rfl (ab (aj (ae (ad rfl rfl (bQ rfl hs.gO rfl ?_)))))));refine aL (M:=M) (A:=RT.se) (B:=(RT.di).ptr) iO rfl rfl D6 (by decide) se2 rfl rfl (by decide) hs (aq _ _) (fun F8 nX=>?_);refine bT (M:=M) gz rfl rfl rfl rfl rfl nX (aq _ _) (fun vd ZJ=>?_);refine ad rfl rfl ?_;refine aW rfl rfl E79 (find_spec (k:=k) _ hM (mA.1 ZJ) Cs (by rw[ok.hls,aH];exact ok.hdl)) (fun r6 w6 hc=>?_);obtain⟨s6,hr⟩:=hc
 obtain⟨p,rfl,hF⟩:∃p,r6= .tuple #[p,.bool (decide (k∈s.2.2.1))]∧ZK s.2.2 k M p w6:=by
  rcases hr with⟨j,p,tl,rfl,h3,h4,h5⟩|⟨rfl,h3⟩
  ·exact⟨p,by rw[decide_eq_true (az h3)],.inl ⟨j,tl,h3,h4,h5⟩⟩
  ·exact⟨_,by rw[decide_eq_false h3],.inr ⟨rfl,h3⟩⟩
 replace hM:=s6.lt hM;have:=S.size;replace S:=S.aB s6;refine ad rfl rfl (bV rfl rfl rfl (bV rfl rfl rfl (ah rfl rfl (ah rfl rfl (ab (aj (aj (ae (ad rfl rfl (mJ rfl rfl (aU (v':= .bool (decide (k∉s.2.2.1))) (by simp) ?_)))))))))));refine ab ?_;refine bN rfl (fun c2=>?_) (fun c2=>?_)
 ·refine aj (ae (ah rfl rfl (ab (aQ ?_))));exact aV rfl rfl ⟨by rw[D7 c2];exact o8,S⟩
 ·refine aT (aj (ae (ad rfl rfl ?_)));obtain⟨j,tl,X5,xI,Iu⟩:=hF.resolve_right (fun h=>h.2 (dE.1 c2));rw[ok.hls,bm]at xI;obtain⟨l,Q6,rfl⟩:=Option.map_eq_some_iff.1 xI;obtain⟨mN,hrp,hrb,hrl⟩:=ok.hok l (az Q6);refine aW rfl rfl E78 (EH hM Iu mN hrp hrb hrl) (fun r4 w4 hc=>?_);obtain⟨hr4,s4⟩:=hc;replace hM:=s4.lt hM;have:=S.size;replace S:=S.aB s4;refine ah rfl rfl (ab (aQ ?_));exact aV rfl rfl ⟨by rw[Nw Cs.nodup X5 Q6];exact hr4,S⟩
end Go.K
namespace Go.K
open Go.Proofs
set_option maxRecDepth 10000
theorem VY (L:List En):(rH (fB L)).2.2.1.length=((keysOf L).map (pk L)).length:=by rw[aH];rfl
end Go.K
namespace Go.K
section
variable {P:Program} {r:Option Nat} {n:Nat} {L:Sl} {ds:List Deferred} {w:World} {K:Kt}
def zd (o:Oper):Oper:=⟨o.dst,o.op,o.type,o.pos,#[],o.guard⟩
def loose:Nat→List Oper→List Oper
 |_,[]=>[]
 |0,o::l=>zd o::l
 |q+1,o::l=>o::loose q l
theorem lX:∀(q:Nat) (l:List Oper),(loose q l).length=l.length
 |_,[]=>by cases ‹Nat› <;>rfl
 |0,o::l=>rfl
 |q+1,o::l=>by show(loose q l).length+1=_;rw[lX q l];rfl
def Alike (o o2:Oper):Prop:=(o2=o∨o2=zd o)
theorem og:∀{q:Nat} {l:List Oper} {j:Nat} {o:Oper},l[j]? =some o→∃o2,(loose q l)[j]? =some o2∧Alike o o2
 |_,[],j,o,h=>by simp at h
 |0,x::l,0,o,h=>⟨zd x,rfl,by simp at h;subst h;exact .inr rfl⟩
 |0,x::l,j+1,o,h=>⟨o,by simpa[loose]using h,.inl rfl⟩
 |q+1,x::l,0,o,h=>⟨x,rfl,by simp at h;subst h;exact .inl rfl⟩
 |q+1,x::l,j+1,o,h=>by
  obtain⟨o2,h1,h2⟩:=og (q:=q) (l:=l) (j:=j) (o:=o) (by simpa using h);exact⟨o2,by simpa[loose]using h1,h2⟩
theorem JN {q:Nat} {l:List Oper} {j:Nat} {o2:Oper} (h:(loose q l)[j]? =some o2):∃o,l[j]? =some o∧Alike o o2:=by
 have hj:=(ao.1 h).1;rw[lX]at hj;obtain⟨o3,h1,h2⟩:=og (q:=q) (au hj);rw[h]at h1;cases h1;exact⟨_,au hj,h2⟩
theorem Alike.cv {o o2:Oper} (h:Alike o o2):∀k∈cv o2,k∈Go.K.cv o:=fun k hk=>by
 rcases h with rfl|rfl
 ·exact hk
 ·simp[Go.K.cv,zd]at hk
theorem zX {q:Nat} {l:List Oper} (tmps:Array Value) (j:Nat):yielded (loose q l).toArray tmps j=yielded l.toArray tmps j:=by
 unfold yielded
 have:((loose q l).toArray[j]?).bind (·.dst)=(l.toArray[j]?).bind (·.dst):=by
  simp only[dX]
  cases ho:l[j]? with
  |some o=>obtain⟨o2,h1,h2⟩:=og (q:=q) ho;rw[h1];rcases h2 with rfl|rfl<;>rfl
  |none=>rw[dN (by rw[lX];exact List.getElem?_eq_none_iff.1 ho)]
 rw[this]
theorem B5 {q:Nat} {l:List Oper} (tmps:Array Value) {o o2:Oper} (h:Alike o o2):Region.wanted o2 (yielded (loose q l).toArray tmps)=Region.wanted o (yielded l.toArray tmps):=by
 have hg:o2.guard=o.guard:=by rcases h with rfl|rfl<;>rfl
 unfold Region.wanted;rw[hg]
 cases o.guard with
 |none=>rfl
 |some g=>simp only[zX]
theorem JO {q:Nat} {l:List Oper} {Q:Exit→Act→World→Prop} {j:Nat} {o:Oper} {rest:List Nat} {a:Act} (ho:l[j]? =some o)
  (h:wpOpsIn (FW r) 0 P (loose q l).toArray (fun e a w=>match e with| .normal=>wpOpsIn (FW r) 0 P l.toArray Q rest a w|e=>Q e a w) [j] a w):wpOpsIn (FW r) 0 P l.toArray Q (j::rest) a w:=by
 obtain⟨o2,sM,hA⟩:=og (q:=q) ho;simp only[wpOpsIn,dX,ho,sM,B5 _ hA]at h ⊢
 split at h
 ·rename_i hw
  rw[if_pos hw];have h':Oper.wpIn (FW r) 0 P o a w (fun x x_1=>wpOpsIn (FW r) 0 P l.toArray Q rest x x_1) (fun e a w=>match e with| .normal=>wpOpsIn (FW r) 0 P l.toArray Q rest a w|e=>Q e a w):=by rcases hA with rfl|rfl<;>exact h
  clear h sM hA;refine⟨h'.1,?_⟩;have h2:=h'.2;generalize (Oper.semAt (FW r).round a.eval o).run P w=res at h2 ⊢
  cases res with
  |ok nx w'=>
   cases nx with
   |enter f args=>exact⟨h2.1,h2.2.mono fun e wU he=>by cases e<;>exact he⟩
   |round l f tmps rr body=>exact⟨h2.1,h2.2.mono fun e wU he=>by cases e<;>exact he⟩
   |_=>exact h2
  |halt x w'=>cases x<;>exact h2
 ·rename_i hw
  rw[if_neg hw];rcases hA with rfl|rfl<;>exact⟨h.1,h.2⟩
theorem ij.loose (q:Nat) {l:List Oper} {wd:World} (h:ij P r n (Go.K.loose q l) L ds wd K):ij P r n l L ds wd K:=by
 intro a ha;obtain⟨J,h1,h2,h3,h4⟩:=h a ha;rw[lX]at h1 h3;refine⟨J,h1,fun Q D a w j o rest hj ho pg hp lp hJ hk=>?_,h3,h4⟩;obtain⟨o2,sM,hA⟩:=og (q:=q) ho;refine JO (q:=q) ho (h2 _ D a w j o2 [] (by rw[lX];exact hj) sM pg (fun k hk=>hp k (hA.cv k hk)) (fun i o' fS hD k hk=>?_) hJ fun a' w' SD=>hk _ _ SD);obtain⟨o3,h5,h6⟩:=JN fS;exact lp i o3 h5 hD k (h6.cv k hk)
theorem T.VZ {id:Nat} {l l':List Oper} (q:Nat) (π:List Nat) (m:Nat) (fl:List Nat) (c:Nat) (N:aC) (hm:P.follows .mixedOrders=true) (Fi:xL π (loose q l)=l') (ru:eE l 0=true) (aaE:eE (loose q l) 0=true) (hπ:lr π l.length=true) (pZ:Nat.blt m l'.length=true) (dj:eE l' 0=true) (nk:ke l' m=true) (Ci:k7 l' m fl c=true)
  (h:∀wD,(∀M,Step M w M wD aD)→k4 P r n l'.toArray (l'.take m) L ds wD (fun L'=>(∀j o,j∈fl→l'[j]? =some o→bX P N wD L' o)∧sd P r n l'.toArray N wD K c (l'.drop m) L' ds wD)):T P r n (.region id l.toArray true) L ds w K:=by
 subst Fi;exact ij.t hm ru fun wD hD=> .loose q (.perm π (by rw[lX];exact hπ) aaE (xK m fl c N pZ dj nk Ci (h wD hD)))
end
end Go.K
namespace Go.K
open Go.Proofs
namespace TKMerge
theorem OK:TI Tryz.prog 25 (.pointer none) 1 8:=by unfold TI;kernel_rfl
theorem VH:TI Tryz.prog 47 (.pointer none) 1 8:=by unfold TI;kernel_rfl
theorem BM:TI Tryz.prog 58 (.slice none 0 0) 1 24:=by unfold TI;kernel_rfl
theorem Cr:TI Tryz.prog 72 (.agg #[(.slice none 0 0),(.slice none 0 0),(.slice none 0 0),(.slice none 0 0)]) 4 96:=by unfold TI;kernel_rfl
theorem yB:TI Tryz.prog 80 (.slice none 0 0) 1 24:=by unfold TI;kernel_rfl
theorem kj:TI Tryz.prog 124 (.agg #[(.int .i64 0),(.int .i64 0)]) 2 16:=by unfold TI;kernel_rfl
theorem W4:Enters Tryz.prog 34:=enters Tryz.func34 rfl (by decide)
theorem E36:Enters Tryz.prog 36:=enters Tryz.func36 rfl (by decide)
theorem E38:Enters Tryz.prog 38:=enters Tryz.func38 rfl (by decide)
theorem E43:Enters Tryz.prog 43:=enters Tryz.func43 rfl (by decide)
theorem E56:Enters Tryz.prog 56:=enters Tryz.func56 rfl (by decide)
theorem E57:Enters Tryz.prog 57:=enters Tryz.func57 rfl (by decide)
theorem E58:Enters Tryz.prog 58:=enters Tryz.func58 rfl (by decide)
theorem E59:Enters Tryz.prog 59:=enters Tryz.func59 rfl (by decide)
theorem E60:Enters Tryz.prog 60:=enters Tryz.func60 rfl (by decide)
theorem E61:Enters Tryz.prog 61:=enters Tryz.func61 rfl (by decide)
theorem E62:Enters Tryz.prog 62:=enters Tryz.func62 rfl (by decide)
theorem E63:Enters Tryz.prog 63:=enters Tryz.func63 rfl (by decide)
theorem E64:Enters Tryz.prog 64:=enters Tryz.func64 rfl (by decide)
end TKMerge
open TKMerge
set_option maxRecDepth 10000
def pG (M:aC) (w:World) (g:Gs) (bs:List Nat):Prop:=bs.length=g.length∧∀(i b:Nat) (p:List En×List Bool),bs[i]? =some b→g[i]? =some p→BW M w p.2 b
theorem pG.le {M M':aC} {w w':World} {g:Gs} {bs:List Nat} (hl:Le M w M' w') (h:pG M w g bs):pG M' w' g bs:=⟨h.1,fun i b p h1 h2=>(h.2 i b p h1 h2).le hl⟩
theorem N5 {M:aC} {w:World} {xs:List Int} {v:Value} (h:((RT.int .i64).sl).V M w xs v):∀x∈xs,-9223372036854775808≤x∧x≤9223372036854775807:=fun x hx=>by
 obtain⟨a,cap,_,_,_,hs⟩:=iz.1 h;rcases hs with rfl|⟨b,o,_,_,h3⟩
 ·cases hx
 ·obtain⟨i,hi⟩:=bE.1 hx;obtain⟨vs,hr,_⟩:=h3 i x hi;exact hr.2
theorem GW {M:aC} {w:World} {s:Se} {v:Value} (h:cP RT.se M w v s):(∀x∈s.1,-9223372036854775808≤x∧x≤9223372036854775807)∧∀x∈s.2.1,-9223372036854775808≤x∧x≤9223372036854775807:=by
 obtain⟨b,o,vs,_,_,⟨va,vb,rfl,h1,vc,vd,rfl,h2,h3⟩,_⟩:=h;exact⟨N5 (v:=(RT.int .i64).sl.val va) ⟨va,h1,rfl⟩,N5 (v:=(RT.int .i64).sl.val vc) ⟨vc,h2,rfl⟩⟩
theorem N6 {L:List En} {a:List Bool} {d:Int} (h:d∈gr a) (hl:a.length=L.length):Jn (rH (fB L)).2.1 d=sN L d:=by
 obtain⟨k,rfl,hk⟩:=kR.1 h;have h1:=(ao.1 hk).1;unfold Jn sN;rw[if_pos ⟨by omega,by show(k:Int)<(L.map _).length;rw[aH];omega⟩];rfl
theorem N7 {L:List En} {a:List Bool} {d:Int} (h:d∈gr a) (hl:a.length=L.length):sN L d∈(rH (fB L)).2.1:=by
 obtain⟨k,rfl,hk⟩:=kR.1 h;have h1:k<(L.map (·.2)).length:=by rw[aH];have:=(ao.1 hk).1;omega
 unfold sN;rw[ay,aA,au h1];exact uA _
theorem QG {ls:List (List Int)} {a:Nat} (h:∀l∈ls,l.length≤a):rz ls≤a*ls.length:=by
 have key:∀n,n≤ls.length→yS (qz ls) n≤a*n:=by
  intro n
  induction n with
  |zero=>intro _;exact bG _
  |succ n ih=>
   intro hn;have h1:=ih (by omega)
   have h2:qz ls n≤a:=by
    unfold qz;rw[aA,au (by omega)];exact h _ (uA _)
   unfold yS;rw[Nat.mul_add];omega
 exact key ls.length (aO _)
theorem B6 {g:Gs} (hg:HX g):Up (km g):=fun l hl=>by
 obtain⟨p,hp,rfl⟩:=ca.1 hl;obtain⟨h1,h2⟩:=hg p hp;have hu:=yV h1
 have MJ:∀d∈gr p.2,∃(k:Nat) (hk:k<p.1.length),d=k∧sN p.1 d=(p.1[k]'hk).2:=fun d hd=>by
  obtain⟨k,rfl,hk⟩:=kR.1 hd;have tn:k<p.1.length:=by have:=(ao.1 hk).1;omega
  refine⟨k,tn,rfl,?_⟩;unfold sN;rw[ay,aA,bm,au tn];rfl
 refine yz (fun x hx=>?_) (cA.2 ((tU p.2).imp_of_mem fun {a b} ha hb W3=>?_))
 ·obtain⟨d,hd,rfl⟩:=ca.1 hx;obtain⟨k,hk,rfl,e⟩:=MJ d hd;rw[e];exact(tV h1 _ (uA _)).1
 ·obtain⟨k,hk,rfl,e⟩:=MJ a ha;obtain⟨k',tj,rfl,e'⟩:=MJ b hb;rw[e,e'];exact(cD.1 hu) k k' hk tj (by omega)
theorem QH {o os:List Fo} {k:Nat} {x y:Fo} (hl:os.length=o.length) (hx:(os.take k++o.drop k)[k]? =some x) (hy:os[k]? =some y):(os.take k++o.drop k).set k y=os.take (k+1)++o.drop (k+1):=by
 have hk:k<os.length:=(ao.1 hy).1;rw[List.set_append_right _ _ (by rw[bC];omega),bC,xv (by omega),Nat.sub_self,b9,hy,cK,rM];congr 1;rw[dC (by omega:k<o.length)];rfl
theorem AY {M:aC} {w:World}:∀n:Nat,dZ ((RT.int .i64).sl) M w (List.replicate n []) (List.replicate n (.slice none 0 0))
 |0=>rfl
 |n+1=>⟨[.slice none 0 0],_,rfl,⟨none,0,rfl,bG _,bG _,.inl rfl⟩,AY n⟩
theorem Mg.V0 {g:Gs} {os:List Fo} {E:List En} (h:Mg g os E) (hn:∀p∈g,p.1.length≤10000):os.length≤g.length*10000:=by
 have h1:=h.nd.length_le_of_subset (l₂:=(List.range g.length).flatMap fun(i:Nat)=>(List.range 10000).map fun(d:Nat)=>(((i:Int),(d:Int)):Fo)) (fun x hx=>by
  obtain⟨k,hk⟩:=bE.1 hx;obtain⟨i,d,e,rfl,_,L,a,a1,a2,_⟩:=h.at_ k x hk;have h3:=hn _ (az a1);have h4:=(ao.1 a2).1;exact uB.2 ⟨i,List.mem_range.2 (ao.1 a1).1,ca.2 ⟨d,List.mem_range.2 (by simp only at h3;omega),rfl⟩⟩)
 have h2:∀n:Nat,((List.range n).flatMap fun(i:Nat)=>(List.range 10000).map fun(d:Nat)=>(((i:Int),(d:Int)):Fo)).length=n*10000:=fun n=>by
  rw[List.length_flatMap];simp only[aH,List.length_range,List.map_const'];rw[List.sum_replicate_nat]
 rw[h2]at h1;exact h1
theorem H6 {a:Nat}:∀{ks:List (List (List UInt8))},(∀l∈ks,l.length≤a)→ks.flatten.length≤a*ks.length
 |[],_=>by simp
 |l::ks,h=>by
  have h1:=h l (bK ..);have h2:=H6 (ks:=ks) fun x hx=>h x (bZ _ hx)
  rw[List.flatten_cons,bj,cM,Nat.mul_add];omega
theorem EJ {g:Gs} {tos:List (List Int)} {k:List UInt8} (hg:HX g) (hn:∀p∈g,p.1.length≤10000):∀{n:Nat},n≤g.length→(xb g tos k n).length≤n*10000
 |0,_=>by simp[xb]
 |n+1,h=>by
  have h1:=EJ (k:=k) (tos:=tos) hg hn (n:=n) (by omega);have lD:g[n]? =some g[n]:=au (by omega);have h2:=sO (tos.getD n []) (pk (g.getD n ([],[])).1 k);rw[show g.getD n ([],[])=g[n]from by rw[aA,lD];rfl]at h2;have h3:(pk g[n].1 k).length≤g[n].1.length:=(qs k g[n].1 0 (kh (hg _ (az lD)).1)).1;have h4:=hn _ (az lD);rw[vw,bj,show g.getD n ([],[])=g[n]from by rw[aA,lD];rfl];omega
theorem nc {α:Type} {f:α→Bool} {l:List α} {q:Nat} {x:α} (h:l[q]? =some x):(l.take (q+1)).filter f=if f x=true then(l.take q).filter f++[x]else(l.take q).filter f:=by
 rw[b9,h,cK,List.filter_append]
 split<;>rename_i h1<;>simp[h1]
theorem H7 {L:List En} (h:sJ (-1) L=true) (hn:L.length≤100000):aaD (rH (fB L)) ((keysOf L).map (pk L)):=by
 have hF:=kh h
 have hk:(keysOf L).length≤50000000:=by
  have h1:=(kX L).nodup.length_le_of_subset (l₂:=iL L) (fun x hx=>jr.1 hx);have:=nZ hF;omega
 refine⟨rfl,VY L,by show(L.map _).length≤_;rw[aH];omega,by show(L.map _).length≤_;rw[aH];omega,by show(keysOf L).length≤_;omega,fun l hl=>?_⟩;obtain⟨k,_,rfl⟩:=ca.1 hl;have h1:=qs k L 0 hF;have mN:fJ (-1) (pk L k)=true:=tR k L 0 (-1) hF (by omega) (by omega);have j9:∀p∈pk L k,p.2.length≤500:=fun p hp=>(h1.2 p hp).2.2
 obtain⟨h2,h3⟩:=uY (pk L k) (-1) 500 (by omega) mN j9 (by omega);have hl:(pk L k).length≤L.length:=h1.1;exact⟨mN,fun p hp=>by have:=j9 p hp;omega,by omega,by omega⟩
theorem N8 {g:Gs} (hg:HX g) (h:re (km g) none):Eo g:=by
 obtain⟨i,k,i',k',n,eN,h1,h2⟩:=h;obtain⟨d,e,a1,a2,a3,a4,a5⟩:=xp hg h1;obtain⟨d',e',b1,b2,b3,b4,b5⟩:=xp hg h2;refine⟨i,d,i',d',e,e',a1,b1,fun⟨hi,hd⟩=>eN ⟨hi,?_⟩,by rw[←a3,←b3]⟩;subst hi;subst hd;obtain⟨L,a,c1,_⟩:=a1;have Qq:(iU g).getD i []=gr a:=by unfold iU;rw[aA,bm,c1];rfl
 rw[Qq]at a5 b5;have om:(gr a).Nodup:=(tU a).imp fun h e=>by omega
 obtain⟨p1,p2⟩:=ao.1 a5;obtain⟨q1,q2⟩:=ao.1 b5;exact(List.getElem_inj (h₀:=p1) (h₁:=q1) om).1 (p2.trans q2.symm)
theorem V1 {g:Gs} (hg:HX g) {out:List Hd} (h:re (km g) (some out)) {k:Nat} {x:Fo} (hk:(dW out)[k]? =some x):∃(i q d:Nat) (t:List Int),x=((i:Int),(q:Int))∧(iU g)[i]? =some t∧t[q]? =some (d:Int)∧(kn g (dW out))[k]? =some ((i:Int),(d:Int)):=by
 unfold dW at hk;rw[bm]at hk
 cases ho:out[k]? with
 |none=>rw[ho]at hk;simp at hk
 |some o=>
  rw[ho]at hk;obtain⟨i,q,e1,e2⟩:=h.2.1 o (az ho);obtain rfl:o.2=x:=by simpa using hk
  obtain⟨d,e,a1,a2,a3,a4,a5⟩:=xp hg e2;have hx:o.2=((i:Int),(q:Int)):=by rw[e1]
  have dQ:=(ao.1 a5);obtain⟨L,a,c1,_⟩:=a1;have Qq:(iU g)[i]? =some (gr a):=by unfold iU;rw[bm,c1];rfl
  have oR:(iU g).getD i []=gr a:=by rw[aA,Qq];rfl
  rw[oR]at a5 a2;refine⟨i,q,d,gr a,hx,Qq,a5,?_⟩;unfold kn dW;rw[bm,bm,ho,db,db,hx];show some ((i:Int),((iU g).getD (i:Int).toNat []).getD (q:Int).toNat 0)=_;rw[ay,ay,oR,a2]
set_option maxHeartbeats 4000000 in
theorem GX {M:aC} {g:Gs} {bs:List Nat} {v0 v1:Value} {w0:World} (hM:Lt M w0) (hs:(((RT.se).ptr).sl).V M w0 (g.map fun p=>rH (fB p.1)) v0) (hb:(RT.OB.sl).V M w0 bs v1) (dB:pG M w0 g bs) (hg:HX g) (VQ:g.length≤100) (Ss:∀p∈g,p.1.length≤10000) (Ge:∀p∈g,(keysOf p.1).length≤100000) (h0: ¬M 1) (GK:∃e fr,w0.heap[1]? =some (.cells (IE.map fun(k:Nat)=>Value.int .u8 (k:Int)).toArray e fr)):
  Spec Tryz.prog 22 #[v0,v1] w0 (fun v w=>Step M w0 M w aD∧((∃os E,Mg g os E∧∃s,v= .tuple #[s,.int .i64 0]∧cP RT.se M w s (rH (fB E)))∨(Eo g∧v= .tuple #[.pointer none,.int .i64 5]))):=by
 have kr:=hM;obtain⟨etb,ftb,htb⟩:=GK;have nk:(g.map fun p=>rH (fB p.1)).length=g.length:=aH ..;have ar4:=dB.1;refine bg (args:=[_,_]) (fn:=Tryz.f22) Tryz.func22 rfl (n:=201) Tryz.ntmps22 ?_;have S:Step M w0 M w0 aD:=(aw _ _).cF (fun _ h=>h.elim) (fun _ h=>h.elim);refine aj (ae (ah rfl rfl (ah rfl rfl (ab (aj (aj (ae (ad rfl rfl (ad rfl rfl ?_)))))))));refine aW rfl rfl E56 (GP (ns:=g.map fun p=>p.1.length) w0 hs hb (by rw[dB.1,nk]) (by rw[aH,nk]) (fun i b n h1 h2=>?_)) (fun r1 w1 hc=>?_)
 ·rw[bm]at h2
  cases lD:g[i]? with
  |none=>rw[lD]at h2;simp at h2
  |some p=>
   rw[lD]at h2;obtain rfl:p.1.length=n:=by simpa using h2
   obtain⟨ws,h3,_⟩:=dB.2 i b p h1 lD;rw[(hg p (az lD)).2]at h3;exact⟨ws,h3⟩
 obtain⟨rfl,e1⟩:=hc;obtain rfl:w0=w1:=e1.symm;refine aU (v':= .bool true) (congrArg Value.bool (decide_eq_true (by rw[List.map_map];apply List.map_congr_left;intro p _;show(p.1.map _).length=_;rw[aH]))) (mJ rfl rfl (aU (v':= .bool false) rfl (ab (iX rfl (aT (aj (ae (ah rfl rfl (ah rfl rfl (ab (aj ?_)))))))))));refine ae (ah rfl rfl (ab (aj (aj (ae (ad rfl rfl (bR fg rfl hs rfl (aU (v':= .int .i64 (g.length:Int)) (by rw[nk]) (ad rfl rfl (ab (aZ ?_)))))))))));refine dn (σ:=Nat×Value×Value×Value) (fun q=>[(0,v0),(1,v1),(4,.pointer none),(5,.int .i64 0),(6,q.2.2.1),(7,q.2.1),(8,q.2.2.2),(34,v0),(35,.int .i64 (g.length:Int)),(36,.int .i64 (q.1:Int))]) (fun q w=>q.1≤g.length∧∃M',Lt M' w∧Step M w0 M' w aD∧(((RT.se).ptr).sl).V M' w (g.map fun p=>rH (fB p.1)) v0∧(RT.OB.sl).V M' w bs v1∧pG M' w g bs∧Own ((RT.int .i64).sl) 37 M' w w0.heap.size q.2.1 ((iU g).take q.1)∧Own ((RT.int .i64).sl) 37 M' w w0.heap.size q.2.2.1 ((km g).take q.1)∧Own (RT.str.sl) 57 M' w w0.heap.size q.2.2.2 ((g.map fun p=>keysOf p.1).take q.1)∧gN q.2.1 q.2.2.1) (fun q=>g.length-q.1) (0,.slice none 0 0,.slice none 0 0,.slice none 0 0) (.cons rfl (.cons rfl (.cons rfl (.cons rfl (.cons rfl (.cons rfl (.cons rfl (.cons rfl (.cons rfl (.cons rfl .nil)))))))))) ?_ ?_
 ·exact⟨bG _,_,hM,S,hs,hb,dB,dz _ _ _ _ _,dz _ _ _ _ _,dz _ _ _ _ _,gN.nil _⟩
 ·clear hM S hs hb dB;rintro⟨i,vl,vs,vk⟩ w ⟨hi,M1,hM,S,hs,hb,dB,fz,ix,hok,ta⟩;dsimp only at hi fz ix hok ta ⊢;refine aj (ae (cn rfl rfl rfl (ab (aj ?_))));refine bN rfl (fun c6=>?_) (fun c6=>?_)
  ·refine aT (aj (aZ (aj (ae (ad rfl rfl ?_)))));obtain⟨p,lD⟩:∃p,g[i]? =some p:=⟨_,au (by omega)⟩;have Fg:=az lD;have IY:(g.map fun p=>rH (fB p.1))[i]? =some (rH (fB p.1)):=by rw[bm,lD];rfl
   obtain⟨QI,sV⟩:=hg p Fg;have OH:=Ss p Fg;refine cE (M:=M1) fg OK rfl rfl rfl hs (aq _ _) (by omega) (fun u7 x_ kE hu7=>?_);rw[ay]at kE;obtain rfl:=aI (IY.symm.trans kE);refine bT (M:=M1) jg rfl rfl rfl rfl rfl hu7 (aq _ _) (fun v7 FR=>?_);have j9:=mA.1 FR;obtain⟨a7,rfl⟩:=j9.gO;refine ah rfl rfl (ah rfl rfl (ab (aj (ae (ad rfl rfl (ad rfl rfl ?_))))));obtain⟨b8,JU⟩:∃b,bs[i]? =some b:=⟨_,au (by rw[dB.1];omega)⟩;have kY:=dB.1;refine cE (M:=M1) Tryz.underlying49 VH rfl rfl rfl hb (aq _ _) (by omega) (fun u8 x_ kE hu8=>?_);rw[ay]at kE;obtain rfl:=aI (JU.symm.trans kE);refine bT (M:=M1) nG rfl rfl rfl rfl rfl hu8 (aq _ _) (fun vb MF=>?_);obtain rfl:=Hn.1 MF;have aiy:=S.aK htb;refine aW rfl rfl E57 (Es hM (dB.2 i b8 p JU lD) (fun h=>h0 ((S.mem 1 (ak htb)).1 h)) ⟨etb,ftb,aiy⟩) (fun r8 w8 hc=>?_);obtain⟨vE,s8⟩:=hc;replace hs:=hs.le s8.le;replace hb:=hb.le s8.le;replace dB:=dB.le s8.le;replace j9:=j9.le (by decide) s8.le;replace fz:=fz.aM s8;replace ix:=ix.aM s8;replace hok:=hok.aM s8;replace hM:=s8.lt hM;have:=S.size;replace S:=S.aB s8;refine ah rfl rfl (ab (aj (ae (ah rfl rfl (ab (aj (aj (ae (ad rfl rfl ?_)))))))));have Iu:=vv p.2;refine bR an rfl vE rfl (ad rfl rfl (ab (aZ ?_)));refine dn (σ:=Nat×Value) (fun q=>[(0,v0),(1,v1),(4,.pointer none),(5,.int .i64 0),(6,vs),(7,vl),(8,vk),(34,v0),(35,.int .i64 (g.length:Int)),(36,.int .i64 (i:Int)),(9,.int .i64 (i:Int)),(10,.pointer (some a7)),(11,r8),(12,q.2),(46,r8),(47,.int .i64 ((gr p.2).length:Int)),(48,.int .i64 (q.1:Int))]) (fun q w=>q.1≤(gr p.2).length∧∃M',Lt M' w∧Step M w0 M' w aD∧(((RT.se).ptr).sl).V M' w (g.map fun p=>rH (fB p.1)) v0∧(RT.OB.sl).V M' w bs v1∧pG M' w g bs∧cP RT.se M' w (.pointer (some a7)) (rH (fB p.1))∧((RT.int .i64).sl).V M' w (gr p.2) r8∧Own ((RT.int .i64).sl) 37 M' w w0.heap.size vl ((iU g).take i)∧Own ((RT.int .i64).sl) 37 M' w w0.heap.size vs ((km g).take i)∧Own (RT.str.sl) 57 M' w w0.heap.size vk ((g.map fun p=>keysOf p.1).take i)∧Own (RT.int .i64) 3 M' w w0.heap.size q.2 (((gr p.2).take q.1).map (sN p.1))) (fun q=>(gr p.2).length-q.1) (0,.slice none 0 0) (.cons rfl (.cons rfl (.cons rfl (.cons rfl (.cons rfl (.cons rfl (.cons rfl (.cons rfl (.cons rfl (.cons rfl (.cons rfl (.cons rfl (.cons rfl (.cons rfl (.cons rfl (.cons rfl (.cons rfl .nil))))))))))))))))) ?_ ?_
   ·exact⟨bG _,_,hM,S,hs,hb,dB,j9,vE,fz,ix,hok,dz _ _ _ _ _⟩
   ·clear hM S hs hb dB j9 vE fz ix hok;rintro⟨k,vn⟩ w ⟨E2,M2,hM,S,hs,hb,dB,j9,vE,fz,ix,hok,zx⟩;dsimp only at E2 zx ⊢;refine aj (ae (cn rfl rfl rfl (ab (aj ?_))));refine bN rfl (fun FB=>?_) (fun FB=>?_)
    ·refine aT (aj (aZ (aj (ae ?_))));obtain⟨d,hk⟩:∃d,(gr p.2)[k]? =some d:=⟨_,au (by omega)⟩;have hdm:=az hk;refine cE (M:=M2) an I3 rfl rfl rfl vE (aq _ _) (by omega) (fun u12 x_ kE aiz=>?_);rw[ay]at kE;obtain rfl:=aI (hk.symm.trans kE);refine bT (M:=M2) ax rfl rfl rfl rfl rfl aiz (aq _ _) (fun v12 VV=>?_);obtain⟨rfl,_,_⟩:=xy.1 VV;refine ah rfl rfl (ab (ae (ad rfl rfl (ad rfl rfl (ad rfl rfl ?_)))));have O0:=(GW j9).2 _ (N7 hdm sV);refine aW rfl rfl E58 (AR _ j9) (fun r13 w13 hc=>?_);obtain⟨rfl,rfl⟩:=hc;refine aU (v':= .int .i64 (sN p.1 d)) (congrArg (Value.int .i64) (N6 hdm sV)) ?_;refine eg (A:=RT.int .i64) (hn:=by decide) (M:=M2) an I3 (by decide) rfl rfl hM (fI (by omega)) (.inr ⟨rfl,rfl⟩) (fun fU Ry yj eW=>?_);replace hs:=hs.le eW.le;replace hb:=hb.le eW.le;replace dB:=dB.le eW.le;replace j9:=j9.le (by decide) eW.le;replace vE:=vE.le eW.le;replace fz:=fz.aM eW;replace ix:=ix.aM eW;replace hok:=hok.aM eW;replace zx:=zx.aM eW;replace hM:=eW.lt hM;have:=S.size;replace S:=S.aB eW;refine cX (M:=M2) (base:=w0.heap.size) an I3 rfl rfl rfl rfl zx yj (aq _ _) (by rw[aH,bC,dm];omega) (by rw[aH,bC,dm];omega) (S.size) (fun aaG amq amr V2 qC=>?_);replace hs:=hs.le qC.le;replace hb:=hb.le qC.le;replace dB:=dB.le qC.le;replace j9:=j9.le (by decide) qC.le;replace vE:=vE.le qC.le;replace yj:=yj.le qC.le;replace fz:=fz.step qC (fun b h1 h2=>fz.dx zx (by decide) h1 h2);replace ix:=ix.step qC (fun b h1 h2=>ix.dx zx (by decide) h1 h2);replace hok:=hok.step qC (fun b h1 h2=>hok.dx zx (by decide) h1 h2)
     replace hM:=qC.lt hM;have:=S.size;replace S:=S.cV qC zx (aO _);replace zx:=V2;refine ah rfl rfl (ab (ae (bD rfl rfl rfl (by omega) (ad rfl rfl (ab ?_)))));refine⟨rfl,(k+1,aaG),(.cons rfl (.cons rfl (.cons rfl (.cons rfl (.cons rfl (.cons rfl (.cons rfl (.cons rfl (.cons rfl (.cons rfl (.cons rfl (.cons rfl (.cons rfl (.cons rfl (.cons rfl (.cons rfl (.cons rfl .nil))))))))))))))))),?_,?_⟩
     ·exact⟨by dsimp only;omega,_,hM,S,hs,hb,dB,j9,vE,fz,ix,hok,by dsimp only;rw[b9,hk,cK,dF];exact zx⟩
     ·dsimp only;omega
    ·refine cI (ae ?_);rw[bc (by omega)]at zx;refine ad rfl rfl (ad rfl rfl ?_);refine eg (A:=((RT.int .i64).sl)) (hn:=by decide) (M:=M2) cL j7 (by decide) rfl rfl hM (vE) (.inr ⟨rfl,rfl⟩) (fun ams amt V3 qD=>?_);replace hs:=hs.le qD.le;replace hb:=hb.le qD.le;replace dB:=dB.le qD.le;replace j9:=j9.le (by decide) qD.le;replace vE:=vE.le qD.le;replace fz:=fz.aM qD;replace ix:=ix.aM qD;replace hok:=hok.aM qD;replace zx:=zx.aM qD;replace hM:=qD.lt hM;have:=S.size;replace S:=S.aB qD;refine kx (M:=M2) (base:=w0.heap.size) cL j7 rfl rfl rfl rfl fz V3 (aq _ _) (by simp;omega) (by simp;omega) S.size (fun v15 w15 V4 wX aiA=>?_);generalize jh (M2) v15=M15 at V4 wX;have St:gN v15 vs:=ta.grown aiA (fun b hb=>(ix.base b hb).2);replace ix:=ix.step wX (fun b hb h=>ta b h hb);replace hok:=hok.step wX (fun b h1 h2=>hok.dx fz (by decide) h1 h2);replace zx:=zx.step wX (fun b h1 h2=>zx.dx fz (by decide) h1 h2);replace hs:=hs.le wX.le;replace hb:=hb.le wX.le;replace dB:=dB.le wX.le;replace j9:=j9.le (by decide) wX.le;replace vE:=vE.le wX.le;replace S:=S.cV wX fz (aO _);replace hM:=wX.lt hM;replace fz:=V4;clear V4;refine ad rfl rfl (ad rfl rfl ?_);have rC:=zx.view (hn:=by decide) (by rw[aH];omega);replace hs:=hs.le (eH _ vn _);replace hb:=hb.le (eH _ vn _);replace dB:=dB.le (eH _ vn _);replace j9:=j9.le (by decide) (eH _ vn _);replace vE:=vE.le (eH _ vn _);replace fz:=fz.Jz (v:=vn) (fun b hb=>by first|exact fz.dx zx (by decide) hb|exact V5 b hb);replace ix:=ix.Jz (v:=vn) (fun b hb=>by first|exact ix.dx zx (by decide) hb|exact Su b hb);replace hok:=hok.Jz (v:=vn) (fun b hb=>by first|exact hok.dx zx (by decide) hb|exact V6 b hb);replace hM:Lt (rm M15 vn) _:=fun b hb=>hM b hb.1
     replace S:=S.freeze (v:=vn) (fun b hb=>by have:=(zx.base b hb).1;omega);clear zx;refine eg (A:=((RT.int .i64).sl)) (hn:=by decide) (M:=rm M15 vn) cL j7 (by decide) rfl rfl hM (rC) (.inr ⟨rfl,rfl⟩) (fun HU R4 GY gT=>?_);replace hs:=hs.le gT.le;replace hb:=hb.le gT.le;replace dB:=dB.le gT.le;replace j9:=j9.le (by decide) gT.le;replace vE:=vE.le gT.le;replace rC:=rC.le gT.le;replace fz:=fz.aM gT;replace ix:=ix.aM gT;replace hok:=hok.aM gT;replace hM:=gT.lt hM;have:=S.size;replace S:=S.aB gT;refine kx (M:=rm M15 vn) (base:=w0.heap.size) cL j7 rfl rfl rfl rfl ix GY (aq _ _) (by simp;omega) (by simp;omega) S.size (fun v157 aiB ze pP N9=>?_);generalize jh (rm M15 vn) v157=zf at ze pP;have B7:gN v157 v15:=St.symm.grown N9 (fun b hb=>(fz.base b hb).2);replace fz:=fz.step pP (fun b hb h=>St.symm b h hb);replace hok:=hok.step pP (fun b h1 h2=>hok.dx ix (by decide) h1 h2);replace hs:=hs.le pP.le;replace hb:=hb.le pP.le;replace dB:=dB.le pP.le;replace j9:=j9.le (by decide) pP.le;replace vE:=vE.le pP.le;replace S:=S.cV pP ix (aO _);replace hM:=pP.lt hM;replace ix:=ze;clear ze;refine ad rfl rfl (ad rfl rfl ?_);refine aW rfl rfl E38 (Gw _ hM (by show _=(((fB p.1).2.2.2).map nq).length;rw[aH];show _=((keysOf p.1).map _).length;rw[aH];rfl) (by have:=Ge p Fg;show(keysOf p.1).length≤_;omega) j9) (fun amu amv hc=>?_);obtain⟨V7,rK⟩:=hc;replace hs:=hs.le rK.le;replace hb:=hb.le rK.le;replace dB:=dB.le rK.le;replace j9:=j9.le (by decide) rK.le;replace vE:=vE.le rK.le;replace fz:=fz.aM rK;replace ix:=ix.aM rK;replace hok:=hok.aM rK;replace hM:=rK.lt hM;have:=S.size;replace S:=S.aB rK;refine eg (A:=(RT.str.sl)) (hn:=by decide) (M:=zf) Tryz.underlying120 zt (by decide) rfl rfl hM (V7) (.inr ⟨rfl,rfl⟩) (fun aiC aiD QK mD=>?_)
     replace hs:=hs.le mD.le;replace hb:=hb.le mD.le;replace dB:=dB.le mD.le;replace j9:=j9.le (by decide) mD.le;replace vE:=vE.le mD.le;replace V7:=V7.le mD.le;replace fz:=fz.aM mD;replace ix:=ix.aM mD;replace hok:=hok.aM mD;replace hM:=mD.lt hM;have:=S.size;replace S:=S.aB mD;refine kx (M:=zf) (base:=w0.heap.size) Tryz.underlying120 zt rfl rfl rfl rfl hok QK (aq _ _) (by simp;omega) (by simp;omega) S.size (fun Sv amw GZ rL aiE=>?_);generalize jh (zf) Sv=amx at GZ rL;replace fz:=fz.step rL (fun b h1 h2=>fz.dx hok (by decide) h1 h2);replace ix:=ix.step rL (fun b h1 h2=>ix.dx hok (by decide) h1 h2);replace hs:=hs.le rL.le;replace hb:=hb.le rL.le;replace dB:=dB.le rL.le;replace j9:=j9.le (by decide) rL.le;replace vE:=vE.le rL.le;replace S:=S.cV rL hok (aO _);replace hM:=rL.lt hM;replace hok:=GZ;clear GZ;refine ah rfl rfl (ah rfl rfl (ah rfl rfl (ab (ae (bD rfl rfl rfl (by omega) (ad rfl rfl (ab ?_)))))));refine⟨rfl,(i+1,v15,v157,Sv),(.cons rfl (.cons rfl (.cons rfl (.cons rfl (.cons rfl (.cons rfl (.cons rfl (.cons rfl (.cons rfl (.cons rfl .nil)))))))))),?_,?_⟩
     ·refine⟨by dsimp only;omega,_,hM,S,hs,hb,dB,?_,?_,?_,B7.symm⟩
      ·dsimp only;rw[b9,show(iU g)[i]? =some (gr p.2)from by unfold iU;rw[bm,lD];rfl];exact fz
      ·dsimp only;rw[b9,show(km g)[i]? =some ((gr p.2).map (sN p.1))from by unfold km;rw[bm,lD];rfl];exact ix
      ·dsimp only;rw[b9,bm,lD];exact hok
     ·dsimp only;omega
  ·refine cI (aj (ae ?_));rw[bc (by unfold iU;rw[aH];omega)]at fz;rw[bc (by unfold km;rw[aH];omega)]at ix;rw[bc (by rw[aH];omega)]at hok;have EK:=ta.symm;refine ad rfl rfl ?_;have kB:=fz.view (hn:=by decide) (by unfold iU;rw[aH];omega);replace hs:=hs.le (eH _ vl _);replace hb:=hb.le (eH _ vl _);replace dB:=dB.le (eH _ vl _);replace ix:=ix.Jz (v:=vl) (fun b hb=>by first|exact ix.dx fz (by decide) hb|exact EK b hb);replace hok:=hok.Jz (v:=vl) (fun b hb=>by first|exact hok.dx fz (by decide) hb|exact V8 b hb);replace hM:Lt (rm M1 vl) _:=fun b hb=>hM b hb.1
   replace S:=S.freeze (v:=vl) (fun b hb=>by have:=(fz.base b hb).1;omega);clear fz;have kH:=ix.view (hn:=by decide) (by unfold km;rw[aH];omega);replace hs:=hs.le (eH _ vs _);replace hb:=hb.le (eH _ vs _);replace dB:=dB.le (eH _ vs _);replace kB:=kB.le (eH _ vs _);replace hok:=hok.Jz (v:=vs) (fun b hb=>by first|exact hok.dx ix (by decide) hb|exact Sw b hb);replace hM:Lt (rm (rm M1 vl) vs) _:=fun b hb=>hM b hb.1
   replace S:=S.freeze (v:=vs) (fun b hb=>by have:=(ix.base b hb).1;omega);clear ix;have ku:=hok.view (hn:=by decide) (by rw[aH];omega);replace hs:=hs.le (eH _ vk _);replace hb:=hb.le (eH _ vk _);replace dB:=dB.le (eH _ vk _);replace kB:=kB.le (eH _ vk _);replace kH:=kH.le (eH _ vk _);replace hM:Lt (rm (rm (rm M1 vl) vs) vk) _:=fun b hb=>hM b hb.1
   replace S:=S.freeze (v:=vk) (fun b hb=>by have:=(hok.base b hb).1;omega);clear hok
   have aaH:∀l∈km g,l.length≤10000:=fun l hl=>by
    obtain⟨p,hp,rfl⟩:=ca.1 hl;rw[aH];have:=vv p.2;have:=Ss p hp;have:=(hg p hp).2;omega
   have ar5:(km g).length=g.length:=by unfold km;rw[aH]
   refine aW rfl rfl E59 (zc hM kH (by omega) (fun l hl=>by have:=aaH l hl;omega) (by have:=QG aaH;have:10000*(km g).length≤10000*1000:=Nat.mul_le_mul_left _ (by omega);omega)) (fun r17 Vh hc=>?_);obtain⟨M17,ar7,vg,vo,RW,rfl,QL⟩:=hc;replace hs:=hs.le vg.le;replace hb:=hb.le vg.le;replace dB:=dB.le vg.le;replace kB:=kB.le vg.le;replace kH:=kH.le vg.le;replace ku:=ku.le vg.le;replace hM:=vg.lt hM;have:=S.size;replace S:=S.aB vg;refine ad rfl rfl (bV rfl rfl rfl (bV rfl rfl rfl (ah rfl rfl (ah rfl rfl (ab (aj (aj (ae (ad rfl rfl (fe rfl rfl rfl (ab ?_)))))))))));refine bN rfl (fun c18=>?_) (fun c18=>?_)
   ·have j4:Eo g:=by
     rcases QL with⟨h1,_,_⟩|⟨_,r,hr,h|⟨out,_,rfl,_⟩⟩
     ·exact absurd (B6 hg) h1
     ·rw[h.1]at hr;exact N8 hg hr
     ·exact absurd rfl c18
    obtain⟨rfl,rfl⟩:RW=5∧vo= .slice none 0 0:=by
     rcases QL with⟨h1,_,_⟩|⟨_,r,hr,h|⟨out,_,rfl,_⟩⟩
     ·exact absurd (B6 hg) h1
     ·exact h.2
     ·exact absurd rfl c18
    refine aj (ae (ad rfl rfl (ah rfl rfl (ah rfl rfl (ab (aQ ?_))))));exact eS rfl rfl rfl ⟨S.back,.inr ⟨j4,rfl⟩⟩
   ·obtain⟨out,aaI,rfl,amy,ho⟩:∃out,re (km g) (some out)∧RW=0∧(dW out).length≤1099511627776∧Own RT.fo 124 M17 Vh w.heap.size vo (dW out):=by
     rcases QL with⟨h1,_,_⟩|⟨_,r,hr,h|⟨out,h1,h2,h3,h4⟩⟩
     ·exact absurd (B6 hg) h1
     ·exact absurd (by rw[h.2.1];decide) c18
     ·exact⟨out,h1▸hr,h2,h3,h4⟩
    clear QL;have Fp:=Z0 hg aaI;have V9:(kn g (dW out)).length=(dW out).length:=by unfold kn;rw[aH]
    have hwz:=S.size
    have hEl:((kn g (dW out)).map (iQ g)).length≤1000000:=by
     have h1:=Fp.V0 Ss;rw[aH];have:g.length*10000≤100*10000:=gu _ VQ;omega
    refine aT (aj (aj (ae (ad rfl rfl (fO eP rfl ho rfl (ad rfl rfl (ab (aZ ?_))))))));refine dn (σ:=Nat) (fun k=>[(0,v0),(7,vl),(8,vk),(15,vo),(81,vo),(82,.int .i64 ((dW out).length:Int)),(83,.int .i64 (k:Int))]) (fun k w=>k≤(dW out).length∧∃M',Lt M' w∧Step M w0 M' w aD∧(((RT.se).ptr).sl).V M' w (g.map fun p=>rH (fB p.1)) v0∧(RT.OB.sl).V M' w bs v1∧pG M' w g bs∧(((RT.int .i64).sl).sl).V M' w (iU g) vl∧(RT.str.sl.sl).V M' w (g.map fun p=>keysOf p.1) vk∧Own RT.fo 124 M' w w0.heap.size vo ((kn g (dW out)).take k++(dW out).drop k)) (fun k=>(dW out).length-k) 0 (.cons rfl (.cons rfl (.cons rfl (.cons rfl (.cons rfl (.cons rfl (.cons rfl .nil))))))) ?_ ?_
    ·exact⟨bG _,_,hM,S,hs,hb,dB,kB,ku,by rw[List.take_zero,fM,List.drop_zero];exact ho.nj (by omega)⟩
    ·clear hM S hs hb dB kB ku ho kH;rintro k w ⟨hk,M2,hM,S,hs,hb,dB,kB,ku,ho⟩;have rY:=fun b hb=>(ho.base b hb).2
     refine aj (ae (cn rfl rfl rfl (ab (aj ?_))));refine bN rfl (fun c21=>?_) (fun c21=>?_)
     ·refine aT (aj (aZ (aj (ae (ad rfl rfl ?_)))));obtain⟨x,hxk⟩:∃x,(dW out)[k]? =some x:=⟨_,au (by omega)⟩;obtain⟨i,q,d,t,rfl,ET,htq,aiF⟩:=V1 hg aaI hxk;have qH:((kn g (dW out)).take k++(dW out).drop k).length=(dW out).length:=by rw[bj,bC,dw,V9];omega
      have hxx:((kn g (dW out)).take k++(dW out).drop k)[k]? =some ((i:Int),(q:Int)):=by rw[List.getElem?_append_right (by rw[bC];omega),bC,xv (by omega),Nat.sub_self,List.getElem?_drop];exact hxk
      obtain⟨go,gc,ar9,fk,hgb,hgM,X4⟩:=ho.uM (ho.BS (by omega));rw[qH]at fk;subst fk;refine vM (size:=2) eP kj rfl rfl rfl (by omega) (q:=k*2) (by omega) ?_;refine dg (M:=fun b=>M2 b∧b≠go) (A:=RT.fo) cx rfl kj (by decide) rfl rfl rfl (ho.ptr hxx) (aq _ _) (fun v22 aiH=>?_);obtain⟨rfl,ra,rb⟩:=qO aiH;refine ek M2 kj rfl (fun H8 aaK amA amB qE ue=>?_);obtain⟨qF,H9⟩:∃M',M'=ins M2 H8:=⟨_,rfl⟩;rw[←H9]at ue;have qP:qF H8:=by rw[H9];exact .inl rfl
      change aaK.heap[H8]? =some (.cells #[.int .i64 0,.int .i64 0] _ _)at qE;replace hs:=hs.le ue.le;replace hb:=hb.le ue.le;replace dB:=dB.le ue.le;replace kB:=kB.le ue.le;replace ku:=ku.le ue.le;replace ho:=ho.aM ue;replace hM:=ue.lt hM;have:=S.size;replace S:=S.aB ue;refine ah rfl rfl ?_;refine dY (M:=qF) (vs:=[.int .i64 (i:Int),.int .i64 (q:Int)]) kj rfl rfl (by intro u hu;simp only[cd,eF,or_false]at hu;rcases hu with rfl|rfl<;>rfl) rfl rfl qE qP (fun ws gs ss=>?_);have:=ak qE;replace qP:=(ss.mem _ this).2 qP;replace hs:=hs.le ss.le;replace hb:=hb.le ss.le;replace dB:=dB.le ss.le;replace kB:=kB.le ss.le;replace ku:=ku.le ss.le;replace ho:=ho.step ss (fun b hb hk=>by have hk:b=H8:=hk;have:=rY b hb;omega);replace hM:=ss.lt hM;have:=S.size;replace S:=S.trans ss (fun k hk h=>by have h:_=_:=h;subst h;first|(exfalso;omega)|(show _≤_;omega)|exact⟨by first|omega|assumption,(S.mem _ hk).1 ((ss.mem _ (ak qE)).1 qP)⟩|exact .inl rfl|exact .inr rfl|exact .inr (.inl rfl)|exact .inr (.inr rfl)|exact .inr (.inr (.inl rfl))|exact rfl);have Oa:=gs;clear qE;have qE:=Oa;clear Oa;refine ab ?_;apply T.Kp 13 mixed rfl rfl rfl rfl rfl;intro asa aiI;have zY:=aiI qF;have:=ak qE;replace qP:=(zY.mem _ this).2 qP;replace qE:=zY.aK qE;replace hs:=hs.le zY.le;replace hb:=hb.le zY.le;replace dB:=dB.le zY.le;replace kB:=kB.le zY.le;replace ku:=ku.le zY.le;replace ho:=ho.aM zY;replace hM:=zY.lt hM;have:=S.size;replace S:=S.aB zY;refine ad rfl rfl ?_;refine ab ⟨rfl,rfl,rfl,?_⟩;refine ad rfl rfl ?_;refine ab ⟨rfl,rfl,rfl,?_⟩;refine ad rfl rfl ?_;refine ab ⟨rfl,rfl,rfl,?_⟩;refine xh (len:=2) cx I3 rfl rfl rfl (by omega) ?_;refine ab ⟨rfl,rfl,rfl,?_⟩;refine aP ax rfl rfl rfl qE rfl (aU (v':= .int .i64 (i:Int)) rfl ?_)
      refine ab ⟨rfl,rfl,rfl,?_⟩;have Il:(iU g).length=g.length:=by unfold iU;rw[aH]
      have ot:=(ao.1 ET).1;refine cE (M:=qF) cL j7 rfl rfl rfl kB (aq _ _) (by omega) (fun u23 x_ kE aiJ=>?_);rw[ay]at kE;obtain rfl:=aI (ET.symm.trans kE);refine ab ⟨rfl,rfl,rfl,?_⟩;refine bT (M:=qF) an rfl rfl rfl rfl rfl aiJ (aq _ _) (fun v23 aiK=>?_);refine ab ⟨rfl,rfl,rfl,?_⟩;refine xh (len:=2) cx I3 rfl rfl rfl (by omega) ?_;refine ab ⟨rfl,rfl,rfl,?_⟩;refine aP ax rfl rfl rfl qE rfl (aU (v':= .int .i64 (q:Int)) rfl ?_);refine ab ⟨rfl,rfl,rfl,?_⟩;have hql:=(ao.1 htq).1;refine cE (M:=qF) an I3 rfl rfl rfl aiK (aq _ _) (by omega) (fun asb x_ kE aaL=>?_);rw[ay]at kE;obtain rfl:=aI (htq.symm.trans kE);refine ab ⟨rfl,rfl,rfl,?_⟩;refine bT (M:=qF) ax rfl rfl rfl rfl rfl aaL (aq _ _) (fun amC Wa=>?_);obtain⟨rfl,hrd⟩:=xy.1 Wa;refine ab ⟨rfl,rfl,rfl,?_⟩;refine vM (size:=2) eP kj rfl rfl rfl (by omega) (q:=k*2) (by omega) ?_;refine ab ⟨rfl,rfl,rfl,?_⟩;refine Rg.Qu (o:=k*2) (len:=2) cx I3 rfl rfl rfl (by omega) ?_;refine ab ⟨rfl,rfl,rfl,?_⟩;refine eQ ?_;obtain⟨cur,Ei,Qp,hfo,SK,⟨u0,dq,Q0⟩,aaM⟩:=ho.Z4 hxx;refine cu (M:=qF) I3 rfl rfl Ei dq rfl Qp (fun amD aaN wG=>?_);have fS:=aaM _ _ _ hrd aaN ((wG.mem _ (ak Ei)).2 Qp);replace hs:=hs.le wG.le;replace hb:=hb.le wG.le;replace dB:=dB.le wG.le;replace kB:=kB.le wG.le;replace ku:=ku.le wG.le;replace S:=S.cf wG (fun b hb=>by have hb:b=go:=hb;omega);replace hM:=wG.lt hM;replace ho:=fS;clear fS;refine ab (ae (bD rfl rfl rfl (by omega) (ad rfl rfl (ab ?_))));refine⟨rfl,k+1,(.cons rfl (.cons rfl (.cons rfl (.cons rfl (.cons rfl (.cons rfl (.cons rfl .nil))))))),?_,?_⟩
      ·refine⟨by omega,_,hM,S,hs,hb,dB,kB,ku,?_⟩;rw[QH V9 hxx aiF]at ho;exact ho
      ·omega
     ·refine cI (aj (ae ?_));refine ek M2 Cr rfl (fun fc aaO amE amF Ob ug=>?_);obtain⟨G0,Ia⟩:∃M',M'=ins M2 fc:=⟨_,rfl⟩;rw[←Ia]at ug;have B8:G0 fc:=by rw[Ia];exact .inl rfl
      change aaO.heap[fc]? =some (.cells #[.slice none 0 0,.slice none 0 0,.slice none 0 0,.slice none 0 0] _ _)at Ob;replace hs:=hs.le ug.le;replace hb:=hb.le ug.le;replace dB:=dB.le ug.le;replace kB:=kB.le ug.le;replace ku:=ku.le ug.le;replace ho:=ho.aM ug;replace hM:=ug.lt hM;have:=S.size;replace S:=S.aB ug;refine ab (aj (aj (ae ?_)));have aiL:(kn g (dW out)).take k++(dW out).drop k=(kn g (dW out)):=by rw[bc (by omega),gV (by omega),fP]
      rw[aiL]at ho;refine ad rfl rfl ?_;have fk:=ho.view (hn:=by decide) (by rw[V9];omega);replace B8:rm G0 vo _:=⟨B8,by first|exact ho.eM Ob (by decide)|(intro h;have:=(ho.base _ h).1;omega)⟩;replace hs:=hs.le (eH _ vo _);replace hb:=hb.le (eH _ vo _);replace dB:=dB.le (eH _ vo _);replace kB:=kB.le (eH _ vo _);replace ku:=ku.le (eH _ vo _);replace hM:Lt (rm G0 vo) _:=fun b hb=>hM b hb.1
      replace S:=S.freeze (v:=vo) (fun b hb=>by have:=(ho.base b hb).1;omega);clear ho;refine bR eP rfl fk rfl (ad rfl rfl (ab (aZ ?_)));refine dn (σ:=Nat×Value×Value) (fun q=>[(0,v0),(8,vk),(15,vo),(19,.pointer (some ⟨fc,0,none⟩)),(102,vo),(103,.int .i64 ((kn g (dW out)).length:Int)),(104,.int .i64 (q.1:Int))]) (fun q w=>q.1≤(kn g (dW out)).length∧∃M',Lt M' w∧Step M w0 M' w aD∧(((RT.se).ptr).sl).V M' w (g.map fun p=>rH (fB p.1)) v0∧(RT.OB.sl).V M' w bs v1∧pG M' w g bs∧(RT.str.sl.sl).V M' w (g.map fun p=>keysOf p.1) vk∧(RT.fo.sl).V M' w (kn g (dW out)) vo∧w.heap[fc]? =some (.cells #[q.2.1,q.2.2,.slice none 0 0,.slice none 0 0] 72 (0,0))∧M' fc∧Own (RT.int .i64) 3 M' w w0.heap.size q.2.1 ((((kn g (dW out)).map (iQ g)).take q.1).map (·.1.1))∧Own (RT.int .i64) 3 M' w w0.heap.size q.2.2 ((((kn g (dW out)).map (iQ g)).take q.1).map (·.2))∧gN q.2.1 q.2.2) (fun q=>(kn g (dW out)).length-q.1) (0,.slice none 0 0,.slice none 0 0) (.cons rfl (.cons rfl (.cons rfl (.cons rfl (.cons rfl (.cons rfl (.cons rfl .nil))))))) ?_ ?_
      ·exact⟨bG _,_,hM,S,hs,hb,dB,ku,fk,Ob,B8,dz _ _ _ _ _,dz _ _ _ _ _,gN.nil _⟩
      ·clear hM S hs hb dB kB ku fk;rintro⟨k,vi,vq⟩ w ⟨hk,M3,hM,S,hs,hb,dB,ku,fk,gp,eI,eo,fy,ta⟩;dsimp only at hk gp eo fy ta ⊢;have hbz:=ak gp;have uh:=fun b hb=>(eo.base b hb).2
       have uj:=fun b hb=>(fy.base b hb).2
       refine aj (ae (cn rfl rfl rfl (ab (aj ?_))));refine bN rfl (fun c27=>?_) (fun c27=>?_)
       ·refine aT (aj (aZ (aj (ae ?_))));obtain⟨x,hxk⟩:∃x,(kn g (dW out))[k]? =some x:=⟨_,au (by omega)⟩;obtain⟨i,d,e,rfl,hek,L,a,lD,hld,had⟩:=Fp.at_ k x hxk;have IY:(g.map fun p=>rH (fB p.1))[i]? =some (rH (fB L)):=by rw[bm,lD];rfl
        have ot:=(ao.1 lD).1;refine cE (M:=M3) eP kj rfl rfl rfl fk (aq _ _) (by omega) (fun u28 x_ kE aiM=>?_);rw[ay]at kE;obtain rfl:=aI (hxk.symm.trans kE);refine dg (M:=M3) (A:=RT.fo) cx rfl kj (by decide) rfl rfl rfl aiM (aq _ _) (fun v28 aiN=>?_);obtain⟨rfl,ra,rb⟩:=qO aiN;refine ek M3 kj rfl (fun uk aaP amH amI fF pH=>?_);obtain⟨nz,Ib⟩:∃M',M'=ins M3 uk:=⟨_,rfl⟩;rw[←Ib]at pH;have gK:nz uk:=by rw[Ib];exact .inl rfl
        change aaP.heap[uk]? =some (.cells #[.int .i64 0,.int .i64 0] _ _)at fF;have:=ak gp;replace eI:=(pH.mem _ this).2 eI;replace gp:=pH.aK gp;replace hs:=hs.le pH.le;replace hb:=hb.le pH.le;replace dB:=dB.le pH.le;replace ku:=ku.le pH.le;replace fk:=fk.le pH.le;replace eo:=eo.aM pH;replace fy:=fy.aM pH;replace hM:=pH.lt hM;have:=S.size;replace S:=S.aB pH;refine dY (M:=nz) (vs:=[.int .i64 (i:Int),.int .i64 (d:Int)]) kj rfl rfl (by intro u hu;simp only[cd,eF,or_false]at hu;rcases hu with rfl|rfl<;>rfl) rfl rfl fF gK (fun ws gs ss=>?_);have:=ak gp;replace eI:=(ss.mem _ this).2 eI;replace gp:=ss.keep gp (fun hk=>by have hk:_=_:=hk;omega);have:=ak fF;replace gK:=(ss.mem _ this).2 gK;replace hs:=hs.le ss.le;replace hb:=hb.le ss.le;replace dB:=dB.le ss.le;replace ku:=ku.le ss.le;replace fk:=fk.le ss.le;replace eo:=eo.step ss (fun c hc h=>by first|exact eo.eM gp (by decide) ((show c=fc from h)▸hc)|(have h:c=uk:=h;have:=uh c hc;omega));replace fy:=fy.step ss (fun c hc h=>by first|exact fy.eM gp (by decide) ((show c=fc from h)▸hc)|(have h:c=uk:=h;have:=uj c hc;omega));replace hM:=ss.lt hM;have:=S.size;replace S:=S.trans ss (fun k hk h=>by have h:_=_:=h;subst h;first|(exfalso;omega)|(show _≤_;omega)|exact⟨by first|omega|assumption,(S.mem _ hk).1 ((ss.mem _ (ak fF)).1 gK)⟩|exact .inl rfl|exact .inr rfl|exact .inr (.inl rfl)|exact .inr (.inr rfl)|exact .inr (.inr (.inl rfl))|exact rfl);have Oc:=gs;clear fF;have fF:=Oc;clear Oc;refine ab ?_;apply T.VZ 24 [0,1,2,3,4,5,6,7,8,12,13,14,15,16,17,18,19,20,24,9,10,11,21,22,23,25,26,27] 19 [0,1,9,10,11,12,13,14,15,16,17,18] 6 (fun b=>fC vi b∨fC vq b) mixed
        ·simp+decide only[loose,zd,xL,sf,eR,jY,jb,jc,fq,db,im,pR,cond_true,cond_false,Nat.reduceBEq,Nat.reduceAdd,beq_self_eq_true];rfl
        ·rfl
        ·rfl
        ·rfl
        ·rfl
        ·rfl
        ·rfl
        ·rfl
        intro aiO aiP;have vF:=aiP nz;have:=ak gp;replace eI:=(vF.mem _ this).2 eI;replace gp:=vF.aK gp;have:=ak fF;replace gK:=(vF.mem _ this).2 gK;replace fF:=vF.aK fF;replace hs:=hs.le vF.le;replace hb:=hb.le vF.le;replace dB:=dB.le vF.le;replace ku:=ku.le vF.le;replace fk:=fk.le vF.le;replace eo:=eo.aM vF;replace fy:=fy.aM vF;replace hM:=vF.lt hM;have:=S.size;replace S:=S.aB vF;refine bO (o':=0) bF rfl rfl j7 (by decide) rfl rfl ?_;refine ab ⟨rfl,rfl,rfl,?_⟩;refine aP an rfl rfl rfl gp rfl (aU (v':=vi) rfl ?_);refine ab ⟨rfl,rfl,rfl,?_⟩;refine ad rfl rfl ?_;refine ab ⟨rfl,rfl,rfl,?_⟩;refine xh (len:=2) cx I3 rfl rfl rfl (by omega) ?_;refine ab ⟨rfl,rfl,rfl,?_⟩;refine aP ax rfl rfl rfl fF rfl (aU (v':= .int .i64 (i:Int)) rfl ?_);refine ab ⟨rfl,rfl,rfl,?_⟩;refine cE (M:=nz) fg OK rfl rfl rfl hs (aq _ _) (by omega) (fun ase x_ kE aaQ=>?_);rw[ay]at kE;obtain rfl:=aI (IY.symm.trans kE);refine ab ⟨rfl,rfl,rfl,?_⟩;refine bT (M:=nz) jg rfl rfl rfl rfl rfl aaQ (aq _ _) (fun asf aaR=>?_);have EL:=mA.1 aaR;obtain⟨asg,rfl⟩:=EL.gO;refine ab ⟨rfl,rfl,rfl,?_⟩;refine xh (len:=2) cx I3 rfl rfl rfl (by omega) ?_;refine ab ⟨rfl,rfl,rfl,?_⟩;refine aP ax rfl rfl rfl fF rfl (aU (v':= .int .i64 (d:Int)) rfl ?_);refine ab ⟨rfl,rfl,rfl,?_⟩;refine bO (o':=1) bF rfl rfl j7 (by decide) rfl rfl ?_;refine ab ⟨rfl,rfl,rfl,?_⟩;refine aP an rfl rfl rfl gp rfl (aU (v':=vq) rfl ?_);refine ab ⟨rfl,rfl,rfl,?_⟩;refine ad rfl rfl ?_;refine ab ⟨rfl,rfl,rfl,?_⟩;refine xh (len:=2) cx I3 rfl rfl rfl (by omega) ?_;refine ab ⟨rfl,rfl,rfl,?_⟩
        refine aP ax rfl rfl rfl fF rfl (aU (v':= .int .i64 (i:Int)) rfl ?_);refine ab ⟨rfl,rfl,rfl,?_⟩;refine cE (M:=nz) fg OK rfl rfl rfl hs (aq _ _) (by omega) (fun amJ x_ kE Od=>?_);rw[ay]at kE;obtain rfl:=aI (IY.symm.trans kE);refine ab ⟨rfl,rfl,rfl,?_⟩;refine bT (M:=nz) jg rfl rfl rfl rfl rfl Od (aq _ _) (fun amK Wb=>?_);have o7:=mA.1 Wb;obtain⟨amL,rfl⟩:=o7.gO;refine ab ⟨rfl,rfl,rfl,?_⟩;refine xh (len:=2) cx I3 rfl rfl rfl (by omega) ?_;refine ab ⟨rfl,rfl,rfl,?_⟩;refine aP ax rfl rfl rfl fF rfl (aU (v':= .int .i64 (d:Int)) rfl ?_);refine ab ⟨rfl,rfl,rfl,?_⟩;refine bO (o':=0) bF rfl rfl j7 (by decide) rfl rfl ?_;refine ab ⟨rfl,rfl,rfl,?_⟩;refine eQ ?_;obtain⟨bb,oo,cs_,ee_,fr_,rfl,k8,hnM⟩:=Od.float;refine⟨iH ⟨iF bF rfl j7 (by decide),⟨eC rfl gp (fun h=>h.elim (eo.eM gp (by decide)) (fy.eM gp (by decide))),⟨iF bF rfl j7 (by decide),⟨eC rfl gp (fun h=>h.elim (eo.eM gp (by decide)) (fy.eM gp (by decide))),⟨gX,⟨bX.idx,⟨eC rfl fF (fun h=>h.elim (fun h=>by have:=uh _ h;omega) (fun h=>by have:=uj _ h;omega)),⟨bX.idx,⟨eC rfl k8 (fun h=>hnM (h.elim (eo.mut_ _) (fy.mut_ _))),⟨bX.idx,⟨eC rfl fF (fun h=>h.elim (fun h=>by have:=uh _ h;omega) (fun h=>by have:=uj _ h;omega)),⟨iF bF rfl j7 (by decide),trivial⟩⟩⟩⟩⟩⟩⟩⟩⟩⟩⟩⟩,?_⟩;have kp:=jC (fun b=>fC vi b∨fC vq b) aiO;have aiQ:=(GW EL).1;refine aW rfl rfl E60 (No _ EL) (fun asl asm hc=>?_);obtain⟨rfl,rfl⟩:=hc;refine aU (v':= .int .i64 e.1.1) (congrArg (Value.int .i64) (Nn (by show(L.map _)[d]? =_;rw[bm,hld];rfl))) ?_;refine(fun(kp:eJ _ _ _)=>ab ⟨rfl,rfl,fun _=>kp,?_⟩) (by first|exact kp|exact kp.qV (by assumption)|exact kp.goN (by assumption)|exact kp.go (by assumption) (fun _ _ h=>by first|exact h|exact h.elim))
        refine eg (A:=RT.int .i64) (hn:=by decide) (M:=nz) an I3 (by decide) rfl rfl hM (fI (aiQ _ (by show _∈L.map _;exact ca.2 ⟨e,az hld,rfl⟩))) (.inr ⟨rfl,rfl⟩) (fun aiR aiS QM jS=>?_);have:=ak gp;replace eI:=(jS.mem _ this).2 eI;replace gp:=jS.aK gp;have:=ak fF;replace gK:=(jS.mem _ this).2 gK;replace fF:=jS.aK fF;replace hs:=hs.le jS.le;replace hb:=hb.le jS.le;replace dB:=dB.le jS.le;replace ku:=ku.le jS.le;replace fk:=fk.le jS.le;replace EL:=EL.le (by decide) jS.le;replace o7:=o7.le (by decide) jS.le;replace eo:=eo.aM jS;replace fy:=fy.aM jS;replace hM:=jS.lt hM;have:=S.size;replace S:=S.aB jS;refine(fun(kp:eJ _ _ _)=>ab ⟨rfl,rfl,fun _=>kp,?_⟩) (by first|exact kp|exact kp.qV (by assumption)|exact kp.goN (by assumption)|exact kp.go (by assumption) (fun _ _ h=>by first|exact h|exact h.elim));refine kx (M:=nz) (base:=w0.heap.size) an I3 rfl rfl rfl rfl eo QM (aq _ _) (by simp;omega) (by simp;omega) S.size (fun AZ amN G1 mE Wc=>?_);generalize jh (nz) AZ=Oe at G1 mE;have Ic:gN AZ vq:=ta.grown Wc (fun b hb=>(fy.base b hb).2);replace fy:=fy.step mE (fun b hb h=>ta b h hb);replace eI:=(mE.mem _ (ak gp)).2 eI;replace gp:=mE.keep gp (fun h=>by first|exact eo.eM gp (by decide) h|(have:=(eo.base _ h).2;omega));replace gK:=(mE.mem _ (ak fF)).2 gK;replace fF:=mE.keep fF (fun h=>by first|exact eo.eM fF (by decide) h|(have:=(eo.base _ h).2;omega));replace hs:=hs.le mE.le;replace hb:=hb.le mE.le;replace dB:=dB.le mE.le;replace ku:=ku.le mE.le;replace fk:=fk.le mE.le;replace o7:=o7.le (by decide) mE.le;replace S:=S.cV mE eo (aO _);replace hM:=mE.lt hM;replace eo:=G1
        clear G1;refine(fun(kp:eJ _ _ _)=>ab ⟨rfl,rfl,fun _=>kp,?_⟩) (kp.go mE (fun b hb h=> .inl h));have aiT:=(GW o7).2;refine aW rfl rfl E58 (AR _ o7) (fun amO amP hc=>?_);obtain⟨rfl,rfl⟩:=hc;refine aU (v':= .int .i64 e.2) (congrArg (Value.int .i64) (Nn (by show(L.map _)[d]? =_;rw[bm,hld];rfl))) ?_;refine(fun(kp:eJ _ _ _)=>ab ⟨rfl,rfl,fun _=>kp,?_⟩) (by first|exact kp|exact kp.qV (by assumption)|exact kp.goN (by assumption)|exact kp.go (by assumption) (fun _ _ h=>by first|exact h|exact h.elim));refine eg (A:=RT.int .i64) (hn:=by decide) (M:=Oe) an I3 (by decide) rfl rfl hM (fI (aiT _ (by show _∈L.map _;exact ca.2 ⟨e,az hld,rfl⟩))) (.inr ⟨rfl,rfl⟩) (fun aiU aiV QN ko=>?_);have:=ak gp;replace eI:=(ko.mem _ this).2 eI;replace gp:=ko.aK gp;have:=ak fF;replace gK:=(ko.mem _ this).2 gK;replace fF:=ko.aK fF;replace hs:=hs.le ko.le;replace hb:=hb.le ko.le;replace dB:=dB.le ko.le;replace ku:=ku.le ko.le;replace fk:=fk.le ko.le;replace o7:=o7.le (by decide) ko.le;replace eo:=eo.aM ko;replace fy:=fy.aM ko;replace hM:=ko.lt hM;have:=S.size;replace S:=S.aB ko;refine(fun(kp:eJ _ _ _)=>ab ⟨rfl,rfl,fun _=>kp,?_⟩) (by first|exact kp|exact kp.qV (by assumption)|exact kp.goN (by assumption)|exact kp.go (by assumption) (fun _ _ h=>by first|exact h|exact h.elim));refine kx (M:=Oe) (base:=w0.heap.size) an I3 rfl rfl rfl rfl fy QN (aq _ _) (by simp;omega) (by simp;omega) S.size (fun Ie amQ G2 nf Wd=>?_);generalize jh (Oe) Ie=Sx at G2 nf;have QO:gN Ie AZ:=Ic.symm.grown Wd (fun b hb=>(eo.base b hb).2);replace eo:=eo.step nf (fun b hb h=>Ic.symm b h hb);replace eI:=(nf.mem _ (ak gp)).2 eI;replace gp:=nf.keep gp (fun h=>by first|exact fy.eM gp (by decide) h|(have:=(fy.base _ h).2;omega))
        replace gK:=(nf.mem _ (ak fF)).2 gK;replace fF:=nf.keep fF (fun h=>by first|exact fy.eM fF (by decide) h|(have:=(fy.base _ h).2;omega));replace hs:=hs.le nf.le;replace hb:=hb.le nf.le;replace dB:=dB.le nf.le;replace ku:=ku.le nf.le;replace fk:=fk.le nf.le;replace S:=S.cV nf fy (aO _);replace hM:=nf.lt hM;replace fy:=G2;clear G2;refine(fun(kp:eJ _ _ _)=>ab ⟨rfl,rfl,fun _=>kp,?_⟩) (kp.go nf (fun b hb h=> .inr h));refine cu (M:=Sx) j7 rfl rfl gp rfl (by obtain⟨_,_,he,_⟩:=eo.isSlice;rw[he];rfl) eI (fun We Of kT=>?_);change We.heap[_]? =some (Obj.cells #[AZ,vq,.slice none 0 0,.slice none 0 0] _ _)at Of;have:=ak gp;replace eI:=(kT.mem _ this).2 eI;have:=ak fF;replace gK:=(kT.mem _ this).2 gK;replace fF:=kT.keep fF (fun hk=>by have hk:_=_:=hk;omega);replace hs:=hs.le kT.le;replace hb:=hb.le kT.le;replace dB:=dB.le kT.le;replace ku:=ku.le kT.le;replace fk:=fk.le kT.le;replace eo:=eo.step kT (fun c hc h=>by first|exact eo.eM gp (by decide) ((show c=fc from h)▸hc)|(have h:c=uk:=h;have:=uh c hc;omega));replace fy:=fy.step kT (fun c hc h=>by first|exact fy.eM gp (by decide) ((show c=fc from h)▸hc)|(have h:c=uk:=h;have:=uj c hc;omega));replace hM:=kT.lt hM;have:=S.size;replace S:=S.trans kT (fun k hk h=>by have h:_=_:=h;subst h;first|(exfalso;omega)|(show _≤_;omega)|exact⟨by first|omega|assumption,(S.mem _ hk).1 ((kT.mem _ (ak gp)).1 eI)⟩|exact .inl rfl|exact .inr rfl|exact .inr (.inl rfl)|exact .inr (.inr rfl)|exact .inr (.inr (.inl rfl))|exact rfl);have gp_:=Of;clear gp;have gp:=gp_;clear gp_;refine ab ⟨rfl,rfl,fun h=>absurd rfl h,?_⟩;refine bO (o':=1) bF rfl rfl j7 (by decide) rfl rfl ?_;refine ab ⟨rfl,rfl,fun h=>absurd rfl h,?_⟩;refine cu (M:=Sx) j7 rfl rfl gp rfl (by obtain⟨_,_,he,_⟩:=fy.isSlice;rw[he];rfl) eI (fun Wf Og kU=>?_)
        change Wf.heap[_]? =some (Obj.cells #[AZ,Ie,.slice none 0 0,.slice none 0 0] _ _)at Og;have:=ak gp;replace eI:=(kU.mem _ this).2 eI;have:=ak fF;replace gK:=(kU.mem _ this).2 gK;replace fF:=kU.keep fF (fun hk=>by have hk:_=_:=hk;omega);replace hs:=hs.le kU.le;replace hb:=hb.le kU.le;replace dB:=dB.le kU.le;replace ku:=ku.le kU.le;replace fk:=fk.le kU.le;replace eo:=eo.step kU (fun c hc h=>by first|exact eo.eM gp (by decide) ((show c=fc from h)▸hc)|(have h:c=uk:=h;have:=uh c hc;omega));replace fy:=fy.step kU (fun c hc h=>by first|exact fy.eM gp (by decide) ((show c=fc from h)▸hc)|(have h:c=uk:=h;have:=uj c hc;omega));replace hM:=kU.lt hM;have:=S.size;replace S:=S.trans kU (fun k hk h=>by have h:_=_:=h;subst h;first|(exfalso;omega)|(show _≤_;omega)|exact⟨by first|omega|assumption,(S.mem _ hk).1 ((kU.mem _ (ak gp)).1 eI)⟩|exact .inl rfl|exact .inr rfl|exact .inr (.inl rfl)|exact .inr (.inr rfl)|exact .inr (.inr (.inl rfl))|exact rfl);have gp_:=Og;clear gp;have gp:=gp_;clear gp_;refine ab ⟨rfl,rfl,fun h=>absurd rfl h,?_⟩;refine mH (ae (bD rfl rfl rfl (by omega) (ad rfl rfl (ab ?_))));refine⟨rfl,(k+1,AZ,Ie),(.cons rfl (.cons rfl (.cons rfl (.cons rfl (.cons rfl (.cons rfl (.cons rfl .nil))))))),?_,?_⟩
        ·refine⟨by dsimp only;omega,_,hM,S,hs,hb,dB,ku,fk,gp,eI,?_,?_,QO.symm⟩
         ·dsimp only;rw[b9,hek,cK,dF];exact eo
         ·dsimp only;rw[b9,hek,cK,dF];exact fy
        ·dsimp only;omega
       ·refine cI (aj (ae ?_));have Cx:((kn g (dW out)).map (iQ g)).length=(kn g (dW out)).length:=by rw[aH]
        rw[bc (by omega)]at eo fy;refine ad rfl rfl (bR fg rfl hs rfl (aU (v':= .int .i64 (g.length:Int)) (by rw[nk]) ?_));refine Rg.mk0 (len:=g.length) (M3) cL j7 rfl rfl rfl rfl (by omega) (by omega) (fun G3 wto zto asp gto J6=>?_);obtain⟨Mto,aaT⟩:∃M',M'=ins (M3) G3:=⟨_,rfl⟩;rw[←aaT]at J6
        have A0:Own ((RT.int .i64).sl) 37 Mto wto w0.heap.size (.slice (some ⟨G3,0,none⟩) g.length g.length) (List.replicate g.length []):=by
         refine⟨⟨List.replicate g.length (.slice none 0 0),⟨by rw[ck,ck];exact(eK _).symm,.inr ⟨G3,g.length,_,by rw[ck],by have:=S.size;omega,gto,by rw[ck];exact aO _,by unfold maxLen;omega,by rw[List.size_toArray,ck];exact(eK _).symm,by rw[ck];show(List.replicate _ _).toArray.toList.take (g.length*1)=_;rw[List.toList_toArray,eK,bc (by rw[ck];exact aO _)]⟩⟩,AY _⟩,fun b hb=>by cases hb;rw[aaT];exact .inl rfl⟩
        clear gto;have:=ak gp;replace eI:=(J6.mem _ this).2 eI;replace gp:=J6.aK gp;replace hs:=hs.le J6.le;replace hb:=hb.le J6.le;replace dB:=dB.le J6.le;replace ku:=ku.le J6.le;replace fk:=fk.le J6.le;replace eo:=eo.aM J6;replace fy:=fy.aM J6;replace hM:=J6.lt hM;have:=S.size;replace S:=S.aB J6;refine ah rfl rfl (ab (aj (aj (ae (ad rfl rfl (bR fg rfl hs rfl (aU (v':= .int .i64 (g.length:Int)) (by rw[nk]) (ad rfl rfl (ab (aZ ?_))))))))));refine dn (σ:=Nat) (fun i=>[(0,v0),(8,vk),(15,vo),(19,.pointer (some ⟨fc,0,none⟩)),(22,.slice (some ⟨G3,0,none⟩) g.length g.length),(138,v0),(139,.int .i64 (g.length:Int)),(140,.int .i64 (i:Int))]) (fun i w=>i≤g.length∧∃M',Lt M' w∧Step M w0 M' w aD∧(((RT.se).ptr).sl).V M' w (g.map fun p=>rH (fB p.1)) v0∧(RT.OB.sl).V M' w bs v1∧pG M' w g bs∧(RT.str.sl.sl).V M' w (g.map fun p=>keysOf p.1) vk∧(RT.fo.sl).V M' w (kn g (dW out)) vo∧w.heap[fc]? =some (.cells #[vi,vq,.slice none 0 0,.slice none 0 0] 72 (0,0))∧M' fc∧Own (RT.int .i64) 3 M' w w0.heap.size vi (((kn g (dW out)).map (iQ g)).map (·.1.1))∧Own (RT.int .i64) 3 M' w w0.heap.size vq (((kn g (dW out)).map (iQ g)).map (·.2))∧(∃tos:List (List Int),tos.length=g.length∧(∀(j:Nat) (p:List En×List Bool),j<i→g[j]? =some p→Plc (kn g (dW out)) j p.1.length (tos.getD j []))∧Own ((RT.int .i64).sl) 37 M' w w0.heap.size (.slice (some ⟨G3,0,none⟩) g.length g.length) tos)) (fun i=>g.length-i) 0 (.cons rfl (.cons rfl (.cons rfl (.cons rfl (.cons rfl (.cons rfl (.cons rfl (.cons rfl .nil)))))))) ?_ ?_
        ·exact⟨bG _,_,hM,S,hs,hb,dB,ku,fk,gp,eI,eo,fy,_,ck ..,(fun j p h=>by omega),A0⟩
        ·clear hM S hs hb dB ku fk gp eI eo fy A0;rintro i w ⟨hi,M4,hM,S,hs,hb,dB,ku,fk,gp,eI,eo,fy,tos,Iu,aaU,A0⟩;refine aj (ae (cn rfl rfl rfl (ab (aj ?_))));refine bN rfl (fun c33=>?_) (fun c33=>?_)
         ·refine aT (aj (aZ (aj (ae (ad rfl rfl ?_)))));obtain⟨p,lD⟩:∃p,g[i]? =some p:=⟨_,au (by omega)⟩;have Fg:=az lD;have IY:(g.map fun p=>rH (fB p.1))[i]? =some (rH (fB p.1)):=by rw[bm,lD];rfl
          obtain⟨QI,sV⟩:=hg p Fg;have OH:=Ss p Fg;refine cE (M:=M4) fg OK rfl rfl rfl hs (aq _ _) (by omega) (fun u34 x_ kE aiW=>?_);rw[ay]at kE;obtain rfl:=aI (IY.symm.trans kE);refine bT (M:=M4) jg rfl rfl rfl rfl rfl aiW (aq _ _) (fun v34 aiX=>?_);have QP:=mA.1 aiX;obtain⟨a34,rfl⟩:=QP.gO;refine ah rfl rfl (ah rfl rfl (ab (ae (ad rfl rfl (ad rfl rfl (ad rfl rfl (ad rfl rfl (ad rfl rfl ?_))))))));refine aW rfl rfl W4 (vr _ QP) (fun ass ast hc=>?_);obtain⟨rfl,rfl⟩:=hc;refine aU (v':= .int .i64 (p.1.length:Int)) (by show Value.int .i64 (((p.1.map _).length:Nat):Int)=_;rw[aH]) ?_;refine aW rfl rfl E61 (Eh (i:=(i:Int)) hM fk (n:=p.1.length) (by omega)) (fun asu asv hc=>?_);obtain⟨asw,xs,Oh,aiY,_,aiZ⟩:=hc;obtain⟨qX,oh⟩:=aiY.GA (hn:=by decide) H3 aiZ (aO _) hM (by rw[Oh.1];omega);have:=ak gp;replace eI:=(oh.mem _ this).2 eI;replace gp:=oh.aK gp;replace hs:=hs.le oh.le;replace hb:=hb.le oh.le;replace dB:=dB.le oh.le;replace ku:=ku.le oh.le;replace fk:=fk.le oh.le;replace QP:=QP.le (by decide) oh.le;replace eo:=eo.aM oh;replace fy:=fy.aM oh;replace A0:=A0.aM oh;replace hM:=oh.lt hM;have:=S.size;replace S:=S.aB oh;refine vM (size:=1) cL j7 rfl rfl rfl (by omega) (q:=i) (by omega) ?_;refine Rg.VF (A:=((RT.int .i64).sl)) (M:=M4) ⟨rfl,rfl⟩ j7 rfl rfl A0 (by omega) qX (fun asx aaV zi=>?_);have ai0:∀c,vi.ownBlock=some c→¬c=G3:=fun c hc h=>(eo.dx A0 (by decide) hc) (by rw[h];rfl)
          have ai1:∀c,vq.ownBlock=some c→¬c=G3:=fun c hc h=>(fy.dx A0 (by decide) hc) (by rw[h];rfl)
          replace eo:=eo.step zi ai0;replace fy:=fy.step zi ai1;replace eI:=(zi.mem _ (ak gp)).2 eI;replace gp:=zi.keep gp (fun h=>A0.eM gp (by decide) (by rw[show fc=G3 from h];rfl));replace hs:=hs.le zi.le;replace hb:=hb.le zi.le;replace dB:=dB.le zi.le;replace ku:=ku.le zi.le;replace fk:=fk.le zi.le;have asy:=(A0.base G3 rfl).1;replace S:=S.cf zi (fun b hb=>by have hb:b=G3:=hb;omega);replace hM:=zi.lt hM;replace A0:=aaV;clear aaV;refine ab (ae (bD rfl rfl rfl (by omega) (ad rfl rfl (ab ?_))));refine⟨rfl,i+1,(.cons rfl (.cons rfl (.cons rfl (.cons rfl (.cons rfl (.cons rfl (.cons rfl (.cons rfl .nil)))))))),?_,?_⟩
          ·refine⟨by omega,_,hM,S,hs,hb,dB,ku,fk,gp,eI,eo,fy,_,by rw[fm];exact Iu,fun j p' hj Xw=>?_,A0⟩;rw[aA,dr];rcases cy j i with h|h
           ·rw[if_neg (by omega),←aA];exact aaU j p' h Xw
           ·obtain rfl:i=j:=by omega
            rw[lD]at Xw;cases Xw;rw[if_pos rfl,if_pos (by omega)];exact Oh
          ·omega
         ·refine cI (aj (aj (ae ?_)));have Ig:Ek g (kn g (dW out)) tos:=⟨Iu,fun j p h=>aaU j p (by have:=(ao.1 h).1;omega) h⟩;obtain⟨OM,aaW⟩:∃v,v=Value.slice (some ⟨G3,0,none⟩) g.length g.length:=⟨_,rfl⟩;rw[←aaW]at A0;refine ad rfl rfl ?_;have ow:=A0.view (hn:=by decide) (by rw[Iu];omega);replace eI:rm M4 OM _:=⟨eI,by first|exact A0.eM gp (by decide)|(intro h;have:=(A0.base _ h).1;omega)⟩;replace hs:=hs.le (eH _ OM _);replace hb:=hb.le (eH _ OM _);replace dB:=dB.le (eH _ OM _);replace ku:=ku.le (eH _ OM _);replace fk:=fk.le (eH _ OM _);replace eo:=eo.Jz (v:=OM) (fun b hb=>by first|exact eo.dx A0 (by decide) hb|exact Wg b hb);replace fy:=fy.Jz (v:=OM) (fun b hb=>by first|exact fy.dx A0 (by decide) hb|exact Wh b hb);replace hM:Lt (rm M4 OM) _:=fun b hb=>hM b hb.1
          replace S:=S.freeze (v:=OM) (fun b hb=>by have:=(A0.base b hb).1;omega);clear A0;subst aaW;have Ci:=H6 (ks:=g.map fun p=>keysOf p.1) (a:=100000) (fun l hl=>by obtain⟨p,hp,rfl⟩:=ca.1 hl;exact Ge p hp);rw[aH]at Ci;have asz:100000*g.length≤100000*1000:=Nat.mul_le_mul_left _ (show g.length≤1000 by omega);have wT:=JE (g.map fun p=>keysOf p.1);obtain⟨hJu,hJm⟩:=y8 (g.map fun p=>keysOf p.1);refine aW rfl rfl E62 (JI _ hM ku (by omega)) (fun rJ w37 hc=>?_);obtain⟨M37,hoJ,_,s37⟩:=hc;obtain⟨sT,xe⟩:=hoJ.GA (hn:=by decide) na s37 (aO _) hM (by omega);have:=ak gp;replace eI:=(xe.mem _ this).2 eI;replace gp:=xe.aK gp;replace hs:=hs.le xe.le;replace hb:=hb.le xe.le;replace dB:=dB.le xe.le;replace ku:=ku.le xe.le;replace fk:=fk.le xe.le;replace ow:=ow.le xe.le;replace eo:=eo.aM xe;replace fy:=fy.aM xe;replace hM:=xe.lt hM;have:=S.size;replace S:=S.aB xe;refine bR aS rfl sT rfl (ad rfl rfl (ab (aZ ?_)));refine dn (σ:=Nat×Value×Value) (fun q=>[(0,v0),(19,.pointer (some ⟨fc,0,none⟩)),(22,.slice (some ⟨G3,0,none⟩) g.length g.length),(155,rJ),(156,.int .i64 ((jt (g.map fun p=>keysOf p.1)).length:Int)),(157,.int .i64 (q.1:Int))]) (fun q w=>q.1≤(jt (g.map fun p=>keysOf p.1)).length∧∃M',Lt M' w∧Step M w0 M' w aD∧(((RT.se).ptr).sl).V M' w (g.map fun p=>rH (fB p.1)) v0∧(RT.str.sl).V M' w (jt (g.map fun p=>keysOf p.1)) rJ∧(((RT.int .i64).sl).sl).V M' w tos (.slice (some ⟨G3,0,none⟩) g.length g.length)∧w.heap[fc]? =some (.cells #[vi,vq,q.2.1,q.2.2] 72 (0,0))∧M' fc∧Own (RT.int .i64) 3 M' w w0.heap.size vi (((kn g (dW out)).map (iQ g)).map (·.1.1))∧Own (RT.int .i64) 3 M' w w0.heap.size vq (((kn g (dW out)).map (iQ g)).map (·.2))∧Own RT.str 9 M' w w0.heap.size q.2.1 (((jt (g.map fun p=>keysOf p.1)).take q.1).filter (fun k=> !(pk ((kn g (dW out)).map (iQ g)) k).isEmpty))∧Own (RT.po.sl) 80 M' w w0.heap.size q.2.2 ((((jt (g.map fun p=>keysOf p.1)).take q.1).filter (fun k=> !(pk ((kn g (dW out)).map (iQ g)) k).isEmpty)).map (pk ((kn g (dW out)).map (iQ g))))) (fun q=>(jt (g.map fun p=>keysOf p.1)).length-q.1) (0,.slice none 0 0,.slice none 0 0) (.cons rfl (.cons rfl (.cons rfl (.cons rfl (.cons rfl (.cons rfl .nil)))))) ?_ ?_
          ·exact⟨bG _,_,hM,S,hs,sT,ow,gp,eI,eo,fy,dz _ _ _ _ _,dz _ _ _ _ _⟩
          ·clear hM S hs hb dB ku fk sT ow gp eI eo fy;rintro⟨qk,Ct,Wi⟩ w ⟨hq,M5,hM,S,hs,sT,ow,gp,eI,eo,fy,hok,fz⟩;dsimp only at hq gp hok fz ⊢;refine aj (ae (cn rfl rfl rfl (ab (aj ?_))));refine bN rfl (fun c38=>?_) (fun c38=>?_)
           ·refine aT (aj (aZ (aj (ae ?_))));obtain⟨key,hkq⟩:∃x,(jt (g.map fun p=>keysOf p.1))[qk]? =some x:=⟨_,au (by omega)⟩;refine cE (M:=M5) aS I9 rfl rfl rfl sT (aq _ _) (by omega) (fun u39 x_ kE ai2=>?_);rw[ay]at kE;obtain rfl:=aI (hkq.symm.trans kE);refine bT (M:=M5) aJ rfl rfl rfl rfl rfl ai2 (aq _ _) (fun asF aaY=>?_);obtain⟨rfl,Fb⟩:=kA.1 aaY;refine ah rfl rfl (ab (aj (ae (ah rfl rfl (ab (aj (aj (ae (ad rfl rfl (bR fg rfl hs rfl (aU (v':= .int .i64 (g.length:Int)) (by rw[nk]) ?_)))))))))));refine ad rfl rfl (ab (aZ ?_));refine dn (σ:=Nat×Value) (fun q=>[(0,v0),(19,.pointer (some ⟨fc,0,none⟩)),(22,.slice (some ⟨G3,0,none⟩) g.length g.length),(155,rJ),(156,.int .i64 ((jt (g.map fun p=>keysOf p.1)).length:Int)),(157,.int .i64 (qk:Int)),(26,.string ⟨key.toArray⟩),(27,q.2),(161,v0),(162,.int .i64 (g.length:Int)),(163,.int .i64 (q.1:Int))]) (fun q w=>q.1≤g.length∧∃M',Lt M' w∧Step M w0 M' w aD∧(((RT.se).ptr).sl).V M' w (g.map fun p=>rH (fB p.1)) v0∧(RT.str.sl).V M' w (jt (g.map fun p=>keysOf p.1)) rJ∧(((RT.int .i64).sl).sl).V M' w tos (.slice (some ⟨G3,0,none⟩) g.length g.length)∧w.heap[fc]? =some (.cells #[vi,vq,Ct,Wi] 72 (0,0))∧M' fc∧Own (RT.int .i64) 3 M' w w0.heap.size vi (((kn g (dW out)).map (iQ g)).map (·.1.1))∧Own (RT.int .i64) 3 M' w w0.heap.size vq (((kn g (dW out)).map (iQ g)).map (·.2))∧Own RT.str 9 M' w w0.heap.size Ct (((jt (g.map fun p=>keysOf p.1)).take qk).filter (fun k=> !(pk ((kn g (dW out)).map (iQ g)) k).isEmpty))∧Own (RT.po.sl) 80 M' w w0.heap.size Wi ((((jt (g.map fun p=>keysOf p.1)).take qk).filter (fun k=> !(pk ((kn g (dW out)).map (iQ g)) k).isEmpty)).map (pk ((kn g (dW out)).map (iQ g))))∧Own RT.po 83 M' w w0.heap.size q.2 (xb g tos key q.1)) (fun q=>g.length-q.1) (0,.slice none 0 0) (.cons rfl (.cons rfl (.cons rfl (.cons rfl (.cons rfl (.cons rfl (.cons rfl (.cons rfl (.cons rfl (.cons rfl (.cons rfl .nil))))))))))) ?_ ?_
            ·exact⟨bG _,_,hM,S,hs,sT,ow,gp,eI,eo,fy,hok,fz,dz _ _ _ _ _⟩
            ·clear hM S hs sT ow gp eI eo fy hok fz;rintro⟨i,ON⟩ w ⟨hi,M6,hM,S,hs,sT,ow,gp,eI,eo,fy,hok,fz,um⟩;dsimp only at hi um ⊢;have ai3:=EJ (k:=key) (tos:=tos) hg Ss hi;refine aj (ae (cn rfl rfl rfl (ab (aj ?_))));refine bN rfl (fun c42=>?_) (fun c42=>?_)
             ·refine aT (aj (aZ (aj (ae (ad rfl rfl ?_)))));obtain⟨p,lD⟩:∃p,g[i]? =some p:=⟨_,au (by omega)⟩;have Fg:=az lD;have IY:(g.map fun p=>rH (fB p.1))[i]? =some (rH (fB p.1)):=by rw[bm,lD];rfl
              obtain⟨QI,sV⟩:=hg p Fg;have OH:=Ss p Fg;refine cE (M:=M6) fg OK rfl rfl rfl hs (aq _ _) (by omega) (fun u43 x_ kE ai4=>?_);rw[ay]at kE;obtain rfl:=aI (IY.symm.trans kE);refine bT (M:=M6) jg rfl rfl rfl rfl rfl ai4 (aq _ _) (fun v43 ai5=>?_);have zZ:=mA.1 ai5;obtain⟨a43,rfl⟩:=zZ.gO;refine ah rfl rfl (ah rfl rfl (ab ?_));apply T.Kw [0,1,2,4,5,6,7,3,8,9,10] 7 [0,3,4,5,6] 2 aD mixed
              ·simp+decide only[xL,sf,eR,jY,jb,jc,fq,db,im,pR,cond_true,cond_false,Nat.reduceBEq,Nat.reduceAdd,beq_self_eq_true];rfl
              ·rfl
              ·rfl
              ·rfl
              ·rfl
              ·rfl
              ·rfl
              intro ai6 ai7;have vG:=ai7 M6;have:=ak gp;replace eI:=(vG.mem _ this).2 eI;replace gp:=vG.aK gp;replace hs:=hs.le vG.le;replace sT:=sT.le vG.le;replace ow:=ow.le vG.le;replace zZ:=zZ.le (by decide) vG.le;replace eo:=eo.aM vG;replace fy:=fy.aM vG;replace hok:=hok.aM vG;replace fz:=fz.aM vG;replace um:=um.aM vG;replace hM:=vG.lt hM;have:=S.size;replace S:=S.aB vG;refine ad rfl rfl ?_;refine ab ⟨rfl,rfl,rfl,?_⟩;refine ad rfl rfl ?_;refine ab ⟨rfl,rfl,rfl,?_⟩;refine ad rfl rfl ?_;refine ab ⟨rfl,rfl,rfl,?_⟩;refine ad rfl rfl ?_;refine ab ⟨rfl,rfl,rfl,?_⟩;refine ad rfl rfl ?_;refine ab ⟨rfl,rfl,rfl,?_⟩;obtain⟨tt,htt⟩:∃x,tos[i]? =some x:=⟨_,au (by omega)⟩;have htd:tos.getD i []=tt:=by rw[aA,htt];rfl
              have Oh:=Ig.2 i p lD;rw[htd]at Oh;refine cE (M:=M6) cL j7 rfl rfl rfl ow (aq _ _) (by omega) (fun asH x_ kE Sy=>?_);rw[ay]at kE;obtain rfl:=aI (htt.symm.trans kE);refine ab ⟨rfl,rfl,rfl,?_⟩;refine bT (M:=M6) an rfl rfl rfl rfl rfl Sy (aq _ _) (fun asI zj=>?_);refine ab ⟨rfl,rfl,rfl,?_⟩;refine eQ ?_;obtain⟨bb,oo,cs_,ee_,fr_,rfl,k8,hnM⟩:=Sy.float;refine⟨iH ⟨gX,⟨gX,⟨gX,⟨bX.idx,⟨eC rfl k8 (fun h=>h),trivial⟩⟩⟩⟩⟩,?_⟩;have kp:=jC aD ai6;have Wj:=qs key p.1 0 (kh QI);refine aW rfl rfl E36 (GV (ls:=(keysOf p.1).map (pk p.1)) (k:=key) _ hM zZ (kX _) (H7 QI (by omega))) (fun asJ asK hc=>?_);obtain⟨Co,uq⟩:=hc;have ai8:Vw (rH (fB p.1)).2.2.1 ((keysOf p.1).map (pk p.1)) key=pk p.1 key:=Vx _;rw[ai8]at Co;have:=ak gp;replace eI:=(uq.mem _ this).2 eI;replace gp:=uq.aK gp;replace hs:=hs.le uq.le;replace sT:=sT.le uq.le;replace ow:=ow.le uq.le;replace zZ:=zZ.le (by decide) uq.le;replace zj:=zj.le uq.le;replace eo:=eo.aM uq;replace fy:=fy.aM uq;replace hok:=hok.aM uq;replace fz:=fz.aM uq;replace um:=um.aM uq;replace hM:=uq.lt hM;have:=S.size;replace S:=S.aB uq;refine(fun(kp:eJ _ _ _)=>ab ⟨rfl,rfl,fun _=>kp,?_⟩) (by first|exact kp|exact kp.qV (by assumption)|exact kp.goN (by assumption)|exact kp.go (by assumption) (fun _ _ h=>by first|exact h|exact h.elim));refine aW rfl rfl E63 (GQ _ hM Co zj (by have:(pk p.1 key).length≤p.1.length:=Wj.1;omega) (fun x hx=>by have:=Wj.2 x hx;rw[Oh.1];omega)) (fun asL asM hc=>?_);obtain⟨asN,aaZ,_,pQ⟩:=hc;have pZ:=sO tt (pk p.1 key);have asO:(pk p.1 key).length≤p.1.length:=Wj.1;have hmv:=xg (hn:=by decide) hM pQ aaZ (by omega);replace pQ:=pQ.back;have:=ak gp
              replace eI:=(pQ.mem _ this).2 eI;replace gp:=pQ.aK gp;replace hs:=hs.le pQ.le;replace sT:=sT.le pQ.le;replace ow:=ow.le pQ.le;replace zZ:=zZ.le (by decide) pQ.le;replace zj:=zj.le pQ.le;replace Co:=Co.le pQ.le;replace eo:=eo.aM pQ;replace fy:=fy.aM pQ;replace hok:=hok.aM pQ;replace fz:=fz.aM pQ;replace um:=um.aM pQ;replace hM:=pQ.lt hM;have:=S.size;replace S:=S.aB pQ;refine(fun(kp:eJ _ _ _)=>ab ⟨rfl,rfl,fun _=>kp,?_⟩) (by first|exact kp|exact kp.qV (by assumption)|exact kp.goN (by assumption)|exact kp.go (by assumption) (fun _ _ h=>by first|exact h|exact h.elim));refine cX (M:=M6) (base:=w0.heap.size) bI oO rfl rfl rfl rfl um hmv (aq _ _) (by omega) (by omega) (S.size) (fun aa0 amU amV Wk mF=>?_);have:=ak gp;replace eI:=(mF.mem _ this).2 eI;replace gp:=mF.keep gp (fun h=>by first|exact um.ej gp h|exact um.eM gp (by decide) h|(have:=(um.base _ h).1;omega));replace hs:=hs.le mF.le;replace sT:=sT.le mF.le;replace ow:=ow.le mF.le;replace zZ:=zZ.le (by decide) mF.le;replace zj:=zj.le mF.le;replace Co:=Co.le mF.le;replace hmv:=hmv.le mF.le;replace eo:=eo.step mF (fun b h1 h2=>eo.dx um (by decide) h1 h2);replace fy:=fy.step mF (fun b h1 h2=>fy.dx um (by decide) h1 h2);replace hok:=hok.step mF (fun b h1 h2=>hok.dx um (by decide) h1 h2);replace fz:=fz.step mF (fun b h1 h2=>fz.dx um (by decide) h1 h2);replace hM:=mF.lt hM;have:=S.size;replace S:=S.cV mF um (aO _);replace um:=Wk;refine ab ⟨rfl,rfl,fun h=>absurd rfl h,?_⟩;refine ah rfl rfl ?_;refine ab ⟨rfl,rfl,fun h=>absurd rfl h,?_⟩;refine mH (ae (bD rfl rfl rfl (by omega) (ad rfl rfl (ab ?_))));refine⟨rfl,(i+1,aa0),(.cons rfl (.cons rfl (.cons rfl (.cons rfl (.cons rfl (.cons rfl (.cons rfl (.cons rfl (.cons rfl (.cons rfl (.cons rfl .nil))))))))))),?_,?_⟩
              ·refine⟨by dsimp only;omega,_,hM,S,hs,sT,ow,gp,eI,eo,fy,hok,fz,?_⟩;dsimp only;rw[vw,htd,show(g.getD i ([],[]))=p from by rw[aA,lD];rfl];exact um
              ·dsimp only;omega
             ·refine cI (aj (ae ?_));have hig:i=g.length:=by omega
              rw[hig]at um ai3;refine ad rfl rfl (fO bI rfl um rfl (jv rfl rfl rfl (ab ?_)));refine bN rfl (fun c46=>?_) (fun c46=>?_)
              ·refine aj (ae (ad rfl rfl ?_));have aa1:∀p∈g,p.1.length≤1000000:=fun p hp=>by have:=Ss p hp;omega
               have asR:=fun b hb=>um.base b hb
               refine aW rfl rfl E64 (Ev _ um (xq hg aa1 Fp Ig (aO _)) (by omega) (by omega)) (fun r47 QQ hc=>?_);obtain⟨rfl,s5,DR,QB,EM,Oi⟩:=hc;obtain rfl:s5=pk ((kn g (dW out)).map (iQ g)) key:=Em hg aa1 hEl Fp Ig DR QB;replace eo:=eo.step Oi (fun b h1 h2=>eo.dx um (by decide) h1 h2);replace fy:=fy.step Oi (fun b h1 h2=>fy.dx um (by decide) h1 h2);replace hok:=hok.step Oi (fun b h1 h2=>hok.dx um (by decide) h1 h2);replace fz:=fz.step Oi (fun b h1 h2=>fz.dx um (by decide) h1 h2);replace eI:=(Oi.mem _ (ak gp)).2 eI;replace gp:=Oi.keep gp (fun h=>um.eM gp (by decide) h);replace hs:=hs.le Oi.le;replace sT:=sT.le Oi.le;replace ow:=ow.le Oi.le;replace S:=S.cV Oi um (aO _);replace hM:=Oi.lt hM
               have aa3:(fun k=> !(pk ((kn g (dW out)).map (iQ g)) k).isEmpty) key=true:=by
                have h1:=DR.length_eq
                cases hx:pk ((kn g (dW out)).map (iQ g)) key with
                |nil=>rw[hx]at h1;simp at h1;omega
                |cons a b=>simp[hx]
               have asS:(pk ((kn g (dW out)).map (iQ g)) key).length≤1000000:=by have:=DR.length_eq;omega
               have Oj:=EM.view (hn:=by decide) (by omega);obtain⟨nE,B9⟩:∃M',M'=rm (M6) ON:=⟨_,rfl⟩;have lrm:Le (M6) QQ nE QQ:=by rw[B9];exact eH _ _ _
               rw[←B9]at Oj;replace hs:=hs.le lrm;replace sT:=sT.le lrm;replace ow:=ow.le lrm;replace eI:nE fc:=by rw[B9];exact⟨eI,EM.eM gp (by decide)⟩
               have Wl:=eo.Jz (v:=ON) (fun b hb=>eo.dx EM (by decide) hb);rw[←B9]at Wl;clear eo;have eo:=Wl;clear Wl;have Wm:=fy.Jz (v:=ON) (fun b hb=>fy.dx EM (by decide) hb);rw[←B9]at Wm;clear fy;have fy:=Wm;clear Wm;have Wn:=hok.Jz (v:=ON) (fun b hb=>hok.dx EM (by decide) hb);rw[←B9]at Wn;clear hok;have hok:=Wn;clear Wn;have Wo:=fz.Jz (v:=ON) (fun b hb=>fz.dx EM (by decide) hb);rw[←B9]at Wo;clear fz;have fz:=Wo;clear Wo;have hM_:=hM.rm ON;rw[←B9]at hM_;clear hM;have hM:=hM_;have S_:=S.freeze (v:=ON) (fun b hb=>(EM.base b hb).1);rw[←B9]at S_;clear S hM_ um EM lrm;have S:=S_;clear S_;obtain⟨_,_,ajb,_⟩:=iz.1 Oj;refine ab ?_;have asT:(((jt (g.map fun p=>keysOf p.1)).take qk).filter (fun k=> !(pk ((kn g (dW out)).map (iQ g)) k).isEmpty)).length≤(jt (g.map fun p=>keysOf p.1)).length:=eD (jF _ _) (by rw[bC];omega);have gpp:=gp;have BQ:=eo;have Wp:=fy;have SO:=hs;have ajc:=sT;have ajd:=ow;have aa4:=eI;have Ca:=hok;have G4:=fz;have Sp:=S;have hMp:=hM;obtain⟨P4,hP4⟩:∃P4:Value→World→Prop,P4=fun v w'=>Own RT.str 9 (mL v) w' w0.heap.size v ((((jt (g.map fun p=>keysOf p.1)).take qk).filter (fun k=> !(pk ((kn g (dW out)).map (iQ g)) k).isEmpty))++[key])∧(∀c,v.ownBlock=some c→QQ.heap.size≤c∨Ct.ownBlock=some c):=⟨_,rfl⟩
               have h4:∀{v:Value} {w w':World},P4 v w→Step nE w nE w' aD→P4 v w':=fun {v w w'} h s=>by rw[hP4]at h ⊢;exact⟨h.1.Sa na s (fun _ _ h=>h),h.2⟩
               obtain⟨P8,hP8⟩:∃P8:Value→World→Prop,P8=fun v w'=>∃g,v= .slice (some ⟨g,0,none⟩) 1 1∧w'.heap[g]? =some (.cells #[ON] 80 (0,0))∧QQ.heap.size≤g:=⟨_,rfl⟩
               have h8:∀{v:Value} {w w':World} {N:aC},P8 v w→Step nE w nE w' N→(∀b,N b→b<QQ.heap.size)→P8 v w':=fun {v w w' N} h s hN=>by
                rw[hP8]at h ⊢;obtain⟨g,a1,a2,a3⟩:=h;exact⟨g,a1,s.keep a2 (fun h=>by have:=hN g h;omega),a3⟩
               apply T.R0 (M:=nE) [0,1,2,3,4,5,6,7,8,10,9,11,12,13] 10 9 194 (.pointer (some ⟨fc,2,none⟩)) [(4,fC Ct)] [cJ.eq (.pointer (some ⟨fc,2,none⟩)),cJ.eq Ct,cJ.eq (.string ⟨key.toArray⟩),cJ.V (RT.str.sl) [key],(cJ.mk' (fun v w=>P4 v w) (fun h s=>h4 h s)),cJ.eq (.pointer (some ⟨fc,3,none⟩)),cJ.eq Wi,cJ.eq ON,(⟨fun v w=>P8 v w,fun k=>k<QQ.heap.size,fun h s hN=>h8 h s hN⟩:cJ nE),cJ.eq (.pointer (some ⟨fc,2,none⟩))] mixed
               ·simp+decide only[xL,sf,eR,jY,jb,jc,fq,db,im,pR,cond_true,cond_false,Nat.reduceBEq,Nat.reduceAdd,beq_self_eq_true];rfl
               ·rfl
               ·rfl
               ·rfl
               ·rfl
               ·rfl
               ·rfl
               ·rfl
               ·rfl
               ·rfl
               ·rfl
               ·rfl
               ·exact fun ρ w h=>yJ (size:=1) (o:=0) (o':=2) bF rfl rfl zt (by decide) (h (.tmp 19) _ rfl) w
               ·intro p hp b hb;simp only[cd,eF,or_false]at hp;subst hp;exact hok.mut_ b hb
               ·exact fun p hp=>by
                 simp only[cd,eF,or_false]at hp;subst hp;show(4:Nat)≠9;decide
               ·exact uF.st (by exact⟨fun _ _ _ _=>trivial,⟨fun _ _ _ _=>trivial,⟨fun _ _ _ _=>trivial,⟨fun _ _ _ _=>trivial,⟨fun p hp b hb=>(by simp at hp),⟨fun _ _ _ _=>trivial,⟨fun _ _ _ _=>trivial,⟨fun _ _ _ _=>trivial,⟨fun p hp b hb=>(by have h1:=bH.1 (fQ.1 hp).1;subst h1;exact(Ca.base b hb).2),⟨fun _ _ _ _=>trivial,trivial⟩⟩⟩⟩⟩⟩⟩⟩⟩⟩)
               intro ajg ajh;have vH:=ajh nE;have:=ak gp;replace eI:=(vH.mem _ this).2 eI;replace gp:=vH.aK gp;replace hs:=hs.le vH.le;replace sT:=sT.le vH.le;replace ow:=ow.le vH.le;replace eo:=eo.aM vH;replace fy:=fy.aM vH;replace hok:=hok.aM vH;replace fz:=fz.aM vH;replace hM:=vH.lt hM;have:=S.size;replace S:=S.aB vH;have gpR:=gp;have aa5:=hok;have asU:=vH.size;refine⟨?_,?_⟩
               ·refine aF ?_ ?_
                ·intro wD E sD;replace sD:Step nE _ nE wD (fC Ct):=sD;refine bO (o':=2) bF rfl rfl zt (by decide) rfl rfl ?_;exact ab ⟨rfl,rfl,_,rfl,rfl,aw _ _⟩
                refine aF ?_ ?_
                ·intro wD E sD;replace sD:Step nE _ nE wD aD:=sD;refine aR (aP aS rfl rfl rfl (sD.aK gpR) rfl ?_);exact ab ⟨rfl,rfl,_,rfl,rfl,aw _ _⟩
                refine aF ?_ ?_
                ·intro wD E sD;replace sD:Step nE _ nE wD (fC Ct):=sD;refine ad rfl rfl ?_;exact ab ⟨rfl,rfl,_,rfl,rfl,aw _ _⟩
                refine aF ?_ ?_
                ·intro wD E sD;replace sD:Step nE _ nE wD aD:=sD;refine aR ?_;refine eg (A:=RT.str) (hn:=by decide) (M:=nE) aS I9 (by decide) rfl rfl (sD.lt hM) (kA.2 ⟨rfl,Fb⟩) (.inr ⟨rfl,rfl⟩) (fun uS wS hS sS=>?_);exact ab ⟨rfl,rfl,_,rfl,hS,sS⟩
                refine aF ?_ ?_
                ·intro wD E sD;replace sD:Step nE _ nE wD aD:=sD;refine aR ?_;intro v3 zu;replace sD:Step nE ajg nE wD aD:=sD;refine kx (M:=nE) (base:=w0.heap.size) aS I9 rfl rfl rfl rfl (aa5.aM sD) (show(RT.str.sl).V nE wD [key] v3 from zu) (aq _ _) (by rw[dm];omega) (by rw[dm];omega) (by have:=sD.size;have:=S.size;omega) (fun vA wA hoA sA hFA=>?_);exact ab ⟨rfl,rfl,_,rfl,by show P4 vA wA;rw[hP4];exact⟨hoA.R9 na,fun c hc=>(hFA c hc).elim (fun h=> .inl (by have:=sD.size;omega)) .inr⟩,sA.back⟩
                refine aF ?_ ?_
                ·intro wD E sD;replace sD:Step nE _ nE wD (fC Ct):=sD;refine bO (o':=3) bF rfl rfl BM (by decide) rfl rfl ?_;exact ab ⟨rfl,rfl,_,rfl,rfl,aw _ _⟩
                refine aF ?_ ?_
                ·intro wD E sD;replace sD:Step nE _ nE wD (fC Ct):=sD;refine aR (aP fR rfl rfl rfl (sD.keep gpR (fun h=>aa5.eM gpR (by decide) h)) rfl ?_);exact ab ⟨rfl,rfl,_,rfl,rfl,aw _ _⟩
                refine aF ?_ ?_
                ·intro wD E sD;replace sD:Step nE _ nE wD (fC Ct):=sD;refine ad rfl rfl ?_;exact ab ⟨rfl,rfl,_,rfl,rfl,aw _ _⟩
                refine aF ?_ ?_
                ·intro wD E sD;replace sD:Step nE _ nE wD (fC Ct):=sD;refine aR ?_;refine Rg.ahc (M:=nE) fR yB rfl rfl (by rw[ajb];rfl) (fun gS wS zS hS sS=>?_);exact ab ⟨rfl,rfl,_,rfl,by show P8 _ _;rw[hP8];exact⟨gS,rfl,hS,by have:=sD.size;omega⟩,sS⟩
                refine aF ?_ ?_
                ·intro wD E sD;replace sD:Step nE _ nE wD (fC Ct):=sD;refine aR (aR (aR ?_));intro v3 zu;intro v4 pT;refine aR (aR (bO (o':=2) bF rfl rfl zt (by decide) rfl rfl ?_));exact ab ⟨rfl,rfl,_,rfl,rfl,aw _ _⟩
                exact rU
               ·intro JP Wq;replace Wq:Step nE _ nE JP (fC Ct):=Wq;refine aR (aR (aR ?_));intro amW ajj;intro EN Cb;refine aR (aR (aR ?_));intro aa6 Cc;refine aR ?_;replace Cb:P4 EN JP:=Cb;rw[hP4]at Cb;obtain⟨pS,ZR⟩:=Cb;replace Cc:P8 aa6 JP:=Cc;rw[hP8]at Cc;obtain⟨g8,rfl,hg8,zg8⟩:=Cc;have sX:Step nE QQ nE JP (fC Ct):=(vH.cF (fun _ h=>h.elim) (fun b h=>Ca.mut_ b h)).trans Wq (fun b _ h=>h);obtain⟨HK,My⟩:∃M',M'=jh nE EN:=⟨_,rfl⟩;have sY:Step nE QQ HK JP (fC Ct):=by rw[My];exact sX.ZF (fun c hc=>⟨(pS.base c hc).2,(ZR c hc).elim .inl (fun h=> .inr (Ca.mut_ c h))⟩)
                have aa7:=G4.step sY (fun c hc h=>G4.dx Ca (by decide) hc h);have Wr:=Oj.le sY.le
                have Yr:((RT.po.sl).sl).V HK JP [pk ((kn g (dW out)).map (iQ g)) key] (.slice (some ⟨g8,0,none⟩) 1 1):=by
                 refine iz.2 ⟨_,1,rfl,aO _,by simp,.inr ⟨g8,0,rfl,fun h=>?_,fun i x hx=>?_⟩⟩
                 ·rw[My]at h;rcases h with h|h
                  ·exact pS.eM hg8 (by decide) h
                  ·have:=hMp _ h;omega
                 ·cases i with
                  |zero=>
                   simp at hx;subst hx;obtain⟨vs,h1,h2⟩:=Wr;obtain⟨a,cap,rfl,h3⟩:=h1;refine⟨_,⟨a,cap,rfl,h3⟩,fun j u hj=>?_⟩
                   cases j with
                   |zero=>simp at hj;subst hj;rw[show Value.slice a _ cap=ON from h2.symm];exact fA hg8 rfl
                   |succ j=>simp at hj
                  |succ i=>simp at hx
                have asV:((((jt (g.map fun p=>keysOf p.1)).take qk).filter (fun k=> !(pk ((kn g (dW out)).map (iQ g)) k).isEmpty)).map (pk ((kn g (dW out)).map (iQ g)))).length≤(jt (g.map fun p=>keysOf p.1)).length:=by rw[aH];exact eD (jF _ _) (by rw[bC];omega)
                refine kx (M:=HK) (base:=w0.heap.size) fR yB rfl rfl rfl rfl aa7 Yr (aq _ _) (by rw[dm];omega) (by rw[dm];omega) (by have:=Sp.size;have:=sY.size;omega) (fun v12 WI Qj zI Vz=>?_);have ajk:=pS.Sa na zI (fun c hc h=>pS.dx aa7 (by decide) hc h);have sW:Step nE QQ (jh HK v12) WI (fun k=>fC Ct k∨fC Wi k):=(sY.cF (fun _ h=> .inl h) (fun b h=>h.elim (Ca.mut_ b) (G4.mut_ b))).trans zI (fun b _ h=> .inr h);obtain⟨Qk,Jq⟩:∃M',M'=jh HK v12:=⟨_,rfl⟩;rw[←Jq]at sW Qj;have hok:=ajk.Qt na (M':=Qk) (by rw[Jq,My];exact fun b hb=> .inr (.inl hb));have fz:=Qj;have eI:=(sW.mem _ (ak gpp)).2 aa4;have gp:=sW.keep gpp (fun h=>h.elim (Ca.eM gpp (by decide)) (G4.eM gpp (by decide)));have eo:=BQ.step sW (fun b h1 h2=>h2.elim (fun h=>BQ.dx Ca (by decide) h1 h) (fun h=>BQ.dx G4 (by decide) h1 h));have fy:=Wp.step sW (fun b h1 h2=>h2.elim (fun h=>Wp.dx Ca (by decide) h1 h) (fun h=>Wp.dx G4 (by decide) h1 h));have hs:=SO.le sW.le;have sT:=ajc.le sW.le;have ow:=ajd.le sW.le;have S:=Sp.cf sW (fun k hk=>hk.elim (fun h=>(Ca.base k h).1) (fun h=>(G4.base k h).1));have hM:=sW.lt hMp;refine ab ⟨rfl,rfl,fun h=>absurd rfl h,?_⟩;obtain⟨_,_,QR,_⟩:=hok.isSlice;refine cu (M:=Qk) zt rfl rfl gp rfl (by rw[QR];rfl) eI (fun Uk g14 jQ=>?_);replace g14:Uk.heap[fc]? =some (.cells #[vi,vq,EN,Wi] 72 (0,0)):=g14;replace eo:=eo.step jQ (fun c hc (h:c=fc)=>eo.eM gp (by decide) (h▸hc));replace fy:=fy.step jQ (fun c hc (h:c=fc)=>fy.eM gp (by decide) (h▸hc));replace hok:=hok.step jQ (fun c hc (h:c=fc)=>hok.eM gp (by decide) (h▸hc));replace fz:=fz.step jQ (fun c hc (h:c=fc)=>fz.eM gp (by decide) (h▸hc));replace eI:=(jQ.mem _ (ak gp)).2 eI;replace hs:=hs.le jQ.le;replace sT:=sT.le jQ.le;replace ow:=ow.le jQ.le;replace S:=S.cf jQ (fun k (hk:k=fc)=>by rw[hk];omega)
                replace hM:=jQ.lt hM;clear gp;have gp:=g14;refine ab ⟨rfl,rfl,fun h=>absurd rfl h,?_⟩;refine bO (o':=3) bF rfl rfl BM (by decide) rfl rfl ?_;refine ab ⟨rfl,rfl,fun h=>absurd rfl h,?_⟩;obtain⟨_,_,QS,_⟩:=fz.isSlice;refine cu (M:=Qk) BM rfl rfl gp rfl (by rw[QS];rfl) eI (fun WZ g16 AO=>?_);replace g16:WZ.heap[fc]? =some (.cells #[vi,vq,EN,v12] 72 (0,0)):=g16;replace eo:=eo.step AO (fun c hc (h:c=fc)=>eo.eM gp (by decide) (h▸hc));replace fy:=fy.step AO (fun c hc (h:c=fc)=>fy.eM gp (by decide) (h▸hc));replace hok:=hok.step AO (fun c hc (h:c=fc)=>hok.eM gp (by decide) (h▸hc));replace fz:=fz.step AO (fun c hc (h:c=fc)=>fz.eM gp (by decide) (h▸hc));replace eI:=(AO.mem _ (ak gp)).2 eI;replace hs:=hs.le AO.le;replace sT:=sT.le AO.le;replace ow:=ow.le AO.le;replace S:=S.cf AO (fun k (hk:k=fc)=>by rw[hk];omega);replace hM:=AO.lt hM;clear gp;have gp:=g16;refine ab ⟨rfl,rfl,fun h=>absurd rfl h,?_⟩;refine mH (ae (bD rfl rfl rfl (by omega) (ad rfl rfl (ab ?_))));refine⟨rfl,(qk+1,EN,v12),(.cons rfl (.cons rfl (.cons rfl (.cons rfl (.cons rfl (.cons rfl .nil)))))),?_,?_⟩
                ·refine⟨by dsimp only;omega,_,hM,S,hs,sT,ow,gp,eI,eo,fy,?_,?_⟩
                 ·dsimp only;rw[nc hkq,if_pos aa3];exact hok
                 ·dsimp only;rw[nc hkq,if_pos aa3,dF];exact fz
                ·dsimp only;omega
              ·refine aT (ae (bD rfl rfl rfl (by omega) (ad rfl rfl (ab ?_))));refine⟨rfl,(qk+1,Ct,Wi),(.cons rfl (.cons rfl (.cons rfl (.cons rfl (.cons rfl (.cons rfl .nil)))))),?_,?_⟩
               ·have qU:pk ((kn g (dW out)).map (iQ g)) key=[]:=by
                 have h1:=(vz (k:=key) hg (fun p hp=>by have:=Ss p hp;omega) hEl Fp Ig).length_eq;exact cT.1 (by omega)
                refine⟨by dsimp only;omega,_,hM,S,hs,sT,ow,gp,eI,eo,fy,?_,?_⟩
                ·dsimp only;rw[nc hkq,if_neg (by rw[qU];simp)];exact hok
                ·dsimp only;rw[nc hkq,if_neg (by rw[qU];simp)];exact fz
               ·dsimp only;omega
           ·refine cI (aj (ae (iq (vs:=[vi,vq,Ct,Wi]) bF rfl Cr rfl rfl rfl gp ?_)));have aa8:=Jw Fp hJu (fun x=>(hJm x).trans ⟨fun⟨l,hl,hx⟩=>(ca.1 hl).elim fun p hp=>⟨p,hp.1,hp.2▸hx⟩,fun⟨p,hp,hx⟩=>⟨_,ca.2 ⟨p,hp,rfl⟩,hx⟩⟩);rw[bc (by omega),aa8]at hok fz;have hFE:=kh (Fp.ok hg)
            have hkE:(keysOf ((kn g (dW out)).map (iQ g))).length≤1000000000:=by
             rw[←aa8];exact eD (jF _ _) (by omega)
            have PY:RT.pa.V M _ (fB ((kn g (dW out)).map (iQ g))) _:=Uz (x:=fB ((kn g (dW out)).map (iQ g))) (eo.close kr S (by show(List.map _ _).length≤_;rw[aH];omega)) (fy.close kr S (by show(List.map _ _).length≤_;rw[aH];omega)) (hok.close kr S (by show(keysOf _).length≤_;omega)) (fz.close kr S (by show((keysOf _).map _).length≤_;rw[aH];omega));replace S:=S.back;replace hM:=S.lt kr;refine aW rfl rfl E43 (yI (p:=fB ((kn g (dW out)).map (iQ g))) _ hM PY (HR hFE hEl)) (fun asX asY hc=>?_);obtain⟨ajl,NA,_⟩:=hc;obtain⟨sg,rfl,x8⟩:=NA (Nl (Fp.ok hg) hEl);replace S:=S.aB ajl;refine bV rfl rfl rfl (bV rfl rfl rfl (ah rfl rfl (ah rfl rfl (ab (aQ ?_)))));exact eS rfl rfl rfl ⟨S,.inl ⟨_,_,Fp,_,rfl,x8⟩⟩
end Go.K
namespace Go.K
open Go.Proofs
namespace TKBPut
theorem JA:TI Tryz.prog 131 (.slice none 0 0) 1 24:=by unfold TI;kernel_rfl
theorem BU:TI Tryz.prog 190 (.int .u64 0) 1 8:=by unfold TI;kernel_rfl
theorem Z5:Enters Tryz.prog 117:=enters Tryz.func117 rfl (by decide)
theorem VG:Enters Tryz.prog 174:=enters Tryz.func174 rfl (by decide)
theorem Z6:Enters Tryz.prog 175:=enters Tryz.func175 rfl (by decide)
end TKBPut
open TKBPut
set_option maxRecDepth 10000
theorem Ol {M:aC} {w0:World} {n:Nat} {ws:List Nat} {bs bw:Nat} (h:jl 133 190 n ws M w0 bs bw) {i:Int} (hi:0≤i∧i<n) (hf:bit ws i.toNat=false):
  Spec Tryz.prog 117 #[.pointer (some ⟨bs,0,none⟩),.int .i64 i,.bool false] w0 (fun v' w'=>∃EV,jl 133 190 n EV M w' bs bw∧(∀j:Nat,bit EV j=(bit ws j||decide ((j:Int)=i)))∧Step M w0 M w' (fun b=>b=bw)):=by
 have hS:=h.s;have hW:=h.w;have hlen:=h.len;have hok:=h.ok;have SI:=h.nn;have hmw:∀b:Nat,b=bw→M b:=fun b hb=>by rw[hb];exact h.mw
 refine bg (args:=[_,_,_]) (fn:=Tryz.f117) Tryz.func117 rfl (n:=31) Tryz.ntmps117 (aj (ae (ah rfl rfl (ab (aj (aj (ae (ad rfl rfl (ad rfl rfl ?_)))))))));refine aW rfl rfl VG (H0 h) (fun r wc h=>?_);obtain⟨rfl,rfl⟩:=h;refine mJ rfl rfl (aU (v':= .bool (decide (¬(0≤i∧i<n)))) (by rw[decide_not]) (ad rfl rfl ?_));refine aN (g:=11) rfl (fun Qf=>?_) (fun Qf=>?_)
 ·refine ar rfl rfl rfl rfl (ar rfl rfl rfl rfl (ar rfl rfl rfl rfl (ar rfl rfl rfl rfl (ar rfl rfl rfl rfl (aX rfl rfl rfl (ab (lh rfl (aj (ae (ah rfl rfl (ab ?_)))))))))));refine aQ ?_;exfalso
  first
  |omega
  |(apply c1;unfold Pb;rw[hf,Bool.and_false])
  |(unfold Pb at c1;rw[hf,Bool.and_false]at c1;simp at c1)
 ·refine al rfl rfl (ad rfl rfl (al rfl rfl (ad rfl rfl (al rfl rfl ?_))));refine aW rfl rfl Z6 (NK h) (fun r wc h=>?_);obtain⟨rfl,rfl⟩:=h;refine al rfl rfl (ad rfl rfl (al rfl rfl (Rg.bne ey rfl rfl rfl (aE rfl rfl rfl (ab ?_)))));refine bN rfl (fun c1=>?_) (fun c1=>?_)
  ·refine aj (ae (ah rfl rfl (ab (aQ ?_))));exfalso
   first
   |omega
   |(apply c1;unfold Pb;rw[hf,Bool.and_false])
   |(unfold Pb at c1;rw[hf,Bool.and_false]at c1;simp at c1)
  ·refine aT (aj ?_);obtain⟨j,rfl⟩:∃j:Nat,i=j:=⟨i.toNat,by omega⟩;rw[ay]at hf;apply T.Ah (M:=M) mixed [] [cJ.eq _,cJ.eq _,cJ.eq _,cJ.eq (.slice (some ⟨bw,0,none⟩) ws.length ws.length),cJ.eq _,cJ.eq _,cJ.eq (.pointer (some ⟨bw,((j:Int)/64).toNat,none⟩)),cJ.eq (.int .u64 ((ws.getD (j/64) 0:Nat):Int)),cJ.eq _,cJ.eq _,cJ.eq (.int .u64 ((2^(j%64):Nat):Int)),cJ.eq (.int .u64 (((ws.getD (j/64) 0^^^2^(j%64)):Nat):Int)),cJ.eq (.pointer (some ⟨bw,((j:Int)/64).toNat,none⟩))] 13
   ·rfl
   ·rfl
   ·rfl
   ·rfl
   ·rfl
   ·exact fun p hp=>by cases hp
   ·exact uF.none
   ·refine aF ?_ ?_
    ·intro wD E sD;refine ad rfl rfl ?_;exact ab ⟨rfl,rfl,_,rfl,rfl,aw _ _⟩
    refine aF ?_ ?_
    ·intro wD E sD;refine aR (bQ rfl ⟨_,rfl⟩ rfl ?_);exact ab ⟨rfl,rfl,_,rfl,rfl,aw _ _⟩
    refine aF ?_ ?_
    ·intro wD E sD;refine aR (bO rV rfl rfl JA (by decide) rfl rfl ?_);exact ab ⟨rfl,rfl,_,rfl,rfl,aw _ _⟩
    refine aF ?_ ?_
    ·intro wD E sD;refine aR (aP lZ rfl rfl rfl (cZ sD (by assumption)) rfl ?_);exact ab ⟨rfl,rfl,_,rfl,rfl,aw _ _⟩
    refine aF ?_ ?_
    ·intro wD E sD;refine ad rfl rfl ?_;exact ab ⟨rfl,rfl,_,rfl,rfl,aw _ _⟩
    refine aF ?_ ?_
    ·intro wD E sD;refine aR (Rg.wR rfl rfl rfl (by omega) ?_);exact ab ⟨rfl,rfl,_,rfl,rfl,aw _ _⟩
    refine aF ?_ ?_
    ·intro wD E sD;refine aR (aR (Rg.CP lZ BU rfl rfl rfl (by omega) ?_));exact ab ⟨rfl,rfl,_,rfl,rfl,aw _ _⟩
    refine aF ?_ ?_
    ·intro wD E sD;refine aR (aP rS rfl rfl rfl (sD.aK hW) (v:= .int .u64 ((ws.getD (j/64) 0:Nat):Int)) (by rw[show(((j:Int)/64)).toNat=j/64 from by omega];exact oL (by omega)) ?_);exact ab ⟨rfl,rfl,_,rfl,rfl,aw _ _⟩
    refine aF ?_ ?_
    ·intro wD E sD;refine ad rfl rfl ?_;exact ab ⟨rfl,rfl,_,rfl,rfl,aw _ _⟩
    refine aF ?_ ?_
    ·intro wD E sD;refine aR (Rg.zB rfl rfl rfl (by omega) ?_);exact ab ⟨rfl,rfl,_,rfl,rfl,aw _ _⟩
    refine aF ?_ ?_
    ·intro wD E sD;refine aR (Rg.shl rfl rfl rfl (by omega) (aU (v':= .int .u64 ((2^(j%64):Nat):Int)) (congrArg _ (by rw[show((j:Int)%64)=((j%64:Nat):Int)from by omega];exact acO _ (by omega))) ?_));exact ab ⟨rfl,rfl,_,rfl,rfl,aw _ _⟩
    refine aF ?_ ?_
    ·intro wD E sD;refine aR (aR (Rg.xor rfl rfl rfl (aU (v':= .int .u64 (((ws.getD (j/64) 0^^^2^(j%64)):Nat):Int)) (congrArg _ (XA _ _ (hok.get _) (Nat.pow_lt_pow_right (by decide) (by omega)))) ?_)));exact ab ⟨rfl,rfl,_,rfl,rfl,aw _ _⟩
    refine aF ?_ ?_
    ·intro wD E sD;refine aR (aR (aR (aR (aR (aR (aR (aR (aR (aR (aR (aR ?_)))))))))));refine aR (aR (Rg.CP lZ BU rfl rfl rfl (by omega) ?_));exact ab ⟨rfl,rfl,_,rfl,rfl,aw _ _⟩
    exact rU
   ·intro WG pv;refine aR (aR (aR (aR (aR (aR (aR (aR (aR (aR (aR (aR ?_)))))))))));refine aR ?_;refine cu (M:=M) (u:= .int .u64 ((ws.getD (j/64) 0:Nat):Int)) BU rfl rfl (pv.aK hW) (by rw[show((j:Int)/64).toNat=j/64 from by omega];exact oL (by omega)) rfl h.mw (fun w5 hW5 s5=>?_);rw[show((j:Int)/64).toNat=j/64 from by omega,Fs]at hW5;refine ab (aj (ae (ah rfl rfl (ab (aQ ?_)))));have hX:(ws.getD (j/64) 0^^^2^(j%64))<2^64:=Nat.xor_lt_two_pow (hok.get _) (Nat.pow_lt_pow_right (by decide) (by omega));refine aV rfl rfl ⟨ws.set (j/64) (ws.getD (j/64) 0^^^2^(j%64)),(h.step pv (fun h=>h) (fun h=>h)).put s5 (by simp) hW5 (hok.set hX),fun t=>?_,(pv.cF (fun _ h=>h.elim) hmw).trans s5 (fun _ _ h=>h)⟩;rw[KM hok (by omega)];by_cases ht:t=j
    ·subst ht;rw[hf];simp
    ·rw[decide_eq_false ht,Bool.xor_false,decide_eq_false (by omega),Bool.or_false]
theorem A1 {M:aC} {w0:World} {n:Nat} {ws:List Nat} {bs bw:Nat} (h:jl 133 190 n ws M w0 bs bw) {i:Int} (hi:0≤i∧i<n) (hf:bit ws i.toNat=false):
  Spec Tryz.prog 68 #[.pointer (some ⟨bs,0,none⟩),.int .i64 i] w0 (fun v' w'=>∃EV,jl 133 190 n EV M w' bs bw∧(∀j:Nat,bit EV j=(bit ws j||decide ((j:Int)=i)))∧Step M w0 M w' (fun b=>b=bw)):=by
 refine bg (args:=[_,_]) (fn:=Tryz.f68) Tryz.func68 rfl (n:=8) Tryz.ntmps68 (aj (ae (ah rfl rfl (ab (aj (ae (ad rfl rfl (ad rfl rfl ?_))))))));refine aW rfl rfl Z5 (Ol h hi hf) (fun r1 w1 h=>?_);obtain⟨EV,h1,h2,h3⟩:=h;refine ah rfl rfl (ab (aQ ?_));exact aV rfl rfl ⟨EV,h1,h2,h3⟩
theorem jl.ajm {M M' N:aC} {w0 w:World} {n:Nat} {ws:List Nat} {bs bw:Nat} {a:List Bool} (hM:Lt M w0) (h:jl 133 190 n ws M' w bs bw) (z1:w0.heap.size≤bs) (z2:w0.heap.size≤bw) (ha:a.length=n) (hb:∀j,bit ws j=true↔a[j]? =some true):BW M w a bs:=
 ⟨ws,⟨bw,⟨trivial,trivial,h.ne,by rw[ha];exact h.s,h.w,by rw[ha];exact h.len,h.ok,by rw[ha];exact h.nn⟩,fun hb=>by have:=hM _ hb;omega,fun hb=>by have:=hM _ hb;omega⟩,hb⟩
end Go.K
namespace Go.K
open Go.Proofs
namespace TKRef11
theorem kj:TI Tryz.prog 124 (.agg #[(.int .i64 0),(.int .i64 0)]) 2 16:=by unfold TI;kernel_rfl
end TKRef11
open TKRef11
set_option maxRecDepth 10000
end Go.K
namespace Go.K
open Go.Proofs
namespace TKLives11
theorem kj:TI Tryz.prog 124 (.agg #[(.int .i64 0),(.int .i64 0)]) 2 16:=by unfold TI;kernel_rfl
theorem E59:Enters Tryz.prog 59:=enters Tryz.func59 rfl (by decide)
end TKLives11
open TKLives11
set_option maxRecDepth 10000
theorem Cd {M:aC} {w0:World} (hM:Lt M w0):
  Spec Tryz.prog 25 #[] w0 (fun v' w'=>v'= .bool true∧Step M w0 M w' aD):=by
 refine bg (args:=[]) (fn:=Tryz.f25) Tryz.func25 rfl (n:=36) Tryz.ntmps25 (aj (ae (ah rfl rfl (ab (aj (ae ?_))))));refine Rg.Ww (A:=RT.int .i64) (hn:=by decide) (M:=M) (xs:=[1,4]) an I3 rfl (by decide) rfl ⟨1,[4],_,rfl,rfl,rfl,fI (by omega),4,[],_,rfl,rfl,rfl,fI (by omega),rfl⟩ rfl hM (.inr ⟨rfl,rfl⟩) (by decide) (fun u1 w1 Q0 s1=>?_);refine eg (A:=RT.int .i64) (hn:=by decide) (M:=M) an I3 (by decide) rfl rfl (s1.lt hM) (fI (x:=2) (by decide)) (.inr ⟨rfl,rfl⟩) (fun u2 w2 wV s2=>?_);refine Rg.Ww (A:=((RT.int .i64).sl)) (hn:=by decide) (M:=M) (xs:=[[1,4],[2]]) cL j7 rfl (by decide) rfl ⟨_,_,_,rfl,rfl,rfl,Q0.le s2.le,_,_,_,rfl,rfl,rfl,wV,rfl⟩ rfl (s2.lt (s1.lt hM)) (.inr ⟨rfl,rfl⟩) (by decide) (fun u3 w3 RA s3=>?_);have S3:=(s1.aB s2).aB s3;refine aW rfl rfl E59 (EE (S3.lt hM) RA (by decide) (by decide) (by decide)) (fun r4 w4 h=>?_);obtain⟨⟨vo,e,rfl,ho⟩,s4⟩:=h;have S4:=S3.aB s4
 obtain⟨rfl,fk⟩:e=0∧((RT.fo).sl).V M w4 (dW [((1:Int),(0:Int),(0:Int)),(2,1,0),(4,0,1)]) vo:=by
  rcases ho with⟨h,_⟩|⟨_,r,h2,h3⟩
  ·exact absurd NG h
  ·obtain rfl:=h2.un Jv;rcases h3 with⟨h,_⟩|⟨out,h4,h5,h6⟩
   ·cases h
   ·cases h4;exact⟨h5,h6⟩
 replace fk:((RT.fo).sl).V M w4 [((0:Int),(0:Int)),(1,0),(0,1)] vo:=fk;refine ad rfl rfl (bV rfl rfl rfl (bV rfl rfl rfl (ah rfl rfl (ah rfl rfl (ab (aj (aj (ae (ad rfl rfl (bR eP rfl fk rfl (fe rfl rfl rfl ?_)))))))))));refine ab (T.wM rfl ((fun h=>h rfl)) (aT (aj (ae (ad rfl rfl ?_)))));refine cE (M:=M) eP kj rfl rfl rfl (fk) (aq _ _) (by first|omega|decide) (fun Yb ajn aa9 Yo=>?_);obtain rfl:(0,0)=ajn:=du (aI (aa9.symm.trans rfl));refine dg (M:=M) (A:=RT.fo) cx rfl kj (by decide) rfl rfl rfl (by assumption) (aq _ _) (fun va lL=>?_);obtain⟨rfl,_,_⟩:=qO lL;refine Rg.Pc cx kj I3 rfl rfl rfl (Rg.Ft cx ax I3 (by kernel_rfl) (by kernel_rfl) rfl rfl rfl (ad rfl rfl (Rg.Ha (g:=18) rfl (rfl) (al rfl rfl (ad rfl rfl (al rfl rfl ?_))))));refine cE (M:=M) eP kj rfl rfl rfl (fk) (aq _ _) (by first|omega|decide) (fun as0 ajo aba amZ=>?_);obtain rfl:(1,0)=ajo:=du (aI (aba.symm.trans rfl));refine al rfl rfl ?_;refine dg (M:=M) (A:=RT.fo) cx rfl kj (by decide) rfl rfl rfl (by assumption) (aq _ _) (fun va lL=>?_);obtain⟨rfl,_,_⟩:=qO lL;refine al rfl rfl (Rg.Pc cx kj I3 rfl rfl rfl (al rfl rfl (Rg.Ft cx ax I3 (by kernel_rfl) (by kernel_rfl) rfl rfl rfl (aX rfl rfl rfl (ad rfl rfl (Rg.Ha (g:=25) rfl (rfl) (al rfl rfl (ad rfl rfl (al rfl rfl ?_)))))))));refine cE (M:=M) eP kj rfl rfl rfl (fk) (aq _ _) (by first|omega|decide) (fun Zl MU Gl U5=>?_);obtain rfl:(0,1)=MU:=du (aI (Gl.symm.trans rfl));refine al rfl rfl ?_;refine dg (M:=M) (A:=RT.fo) cx rfl kj (by decide) rfl rfl rfl (by assumption) (aq _ _) (fun va lL=>?_)
 obtain⟨rfl,_,_⟩:=qO lL;refine al rfl rfl (Rg.Pc cx kj I3 rfl rfl rfl (al rfl rfl (Rg.Ft cx ax I3 (by kernel_rfl) (by kernel_rfl) rfl rfl rfl (aX rfl rfl rfl (ad rfl rfl (Rg.Ha (g:=32) rfl (rfl) (al rfl rfl (ad rfl rfl (al rfl rfl (tc rfl rfl rfl (aX rfl rfl rfl ?_)))))))))));refine ah rfl rfl (ab (aQ ?_));exact aV rfl rfl ⟨rfl,S4⟩
end Go.K
namespace Go.K
open Go.Proofs
namespace TKNone11
theorem OK:TI Tryz.prog 25 (.pointer none) 1 8:=by unfold TI;kernel_rfl
theorem VH:TI Tryz.prog 47 (.pointer none) 1 8:=by unfold TI;kernel_rfl
theorem E11:Enters Tryz.prog 11:=enters Tryz.func11 rfl (by decide)
theorem E12:Enters Tryz.prog 12:=enters Tryz.func12 rfl (by decide)
theorem E22:Enters Tryz.prog 22:=enters Tryz.func22 rfl (by decide)
theorem E24:Enters Tryz.prog 24:=enters Tryz.func24 rfl (by decide)
theorem E25:Enters Tryz.prog 25:=enters Tryz.func25 rfl (by decide)
theorem W4:Enters Tryz.prog 34:=enters Tryz.func34 rfl (by decide)
theorem E38:Enters Tryz.prog 38:=enters Tryz.func38 rfl (by decide)
end TKNone11
open TKNone11
set_option maxRecDepth 10000
theorem pG.one {M:aC} {w:World} {L:List En} {a:List Bool} {b:Nat} (h:BW M w a b):pG M w [(L,a)] [b]:=⟨rfl,fun i b' p h1 h2=>by
 cases i with
 |zero=>simp only[qG,dK]at h1 h2;subst h1;subst h2;exact h
 |succ i=>simp at h1⟩
theorem JQ {L:List En} (h:sJ (-1) L=true):(keysOf L).length≤500*L.length:=by
 have h1:=(kX L).nodup.length_le_of_subset (l₂:=iL L) (fun x hx=>jr.1 hx);have:=nZ (kh h);omega
theorem ajp {L:List En} {a:List Bool} (h:sJ (-1) L=true) (ha:a.length=L.length):HX [(L,a)]:=fun p hp=>by rw[bH]at hp;subst hp;exact⟨h,ha⟩
theorem EO {M:aC} {L:List En} {a:List Bool} {b:Nat} {v0 v1:Value} {w0:World} (hM:Lt M w0) (hs:(((RT.se).ptr).sl).V M w0 [rH (fB L)] v0) (hb:(RT.OB.sl).V M w0 [b] v1) (dB:BW M w0 a b) (hok:sJ (-1) L=true) (ha:a.length=L.length) (hn:L.length≤100) (h0: ¬M 1) (GK:∃e fr,w0.heap[1]? =some (.cells (IE.map fun(k:Nat)=>Value.int .u8 (k:Int)).toArray e fr)):
  Spec Tryz.prog 22 #[v0,v1] w0 (fun v w=>∃s,v= .tuple #[s,.int .i64 0]∧cP RT.se M w s (rH (fB (qA (L.zip a))))∧Step M w0 M w aD):=by
 have hk:=JQ hok;refine (GX (g:=[(L,a)]) (bs:=[b]) hM hs hb (pG.one dB) (ajp hok ha) (by simp) (fun p hp=>by rw[bH]at hp;subst hp;show L.length≤_;omega) (fun p hp=>by rw[bH]at hp;subst hp;show(keysOf L).length≤_;omega) h0 GK).mono fun v w ⟨s,h⟩=> ?_
 obtain⟨os,E,Fp,sg,rfl,x8⟩:=h.resolve_right (fun h=>GI (yV hok) h.1);obtain rfl:=VE (yV hok) Fp;exact⟨sg,rfl,x8,s⟩
end Go.K
namespace Go.K
open Go.Proofs
set_option maxRecDepth 10000
def lz (l:List Bool):Array Value:=(l.map Value.bool).toArray
theorem zk {l:List Bool} {i:Nat} (h:i<l.length):∃b,(lz l)[i]? =some (.bool b):=by
 unfold lz;exact⟨l[i],by rw[dX,bm,au h];rfl⟩
theorem zm (l:List Bool) (i:Nat) (b:Bool):(lz l).setIfInBounds i (.bool b)=lz (l.set i b):=by
 unfold lz;simp[List.map_set]
theorem QT {M:aC} {w:World} {b:Nat} {e:TypeId} {l:List Bool} (h:w.heap[b]? =some (.cells (lz l) e (0,0))) (hb: ¬M b) (hl:l.length≤140737488355328):(RT.bool.sl).V M w l (.slice (some ⟨b,0,none⟩) l.length l.length):=
 iz.2 ⟨_,_,rfl,aO _,hl,.inr ⟨b,0,rfl,hb,fun i x hx=>⟨[.bool x],rfl,fun j v hj=>by
  cases j with
  |zero=>
   simp at hj;subst hj;refine fA h ?_;show(lz l)[0+i*1+0]? =_;unfold lz;rw[dX,bm,show 0+i*1+0=i by omega,hx];rfl
  |succ j=>simp at hj⟩⟩⟩
end Go.K
namespace Go.K
open Go.Proofs
namespace TKSet11
theorem I4:TI Tryz.prog 4 (.bool false) 1 1:=by unfold TI;kernel_rfl
theorem E24:Enters Tryz.prog 24:=enters Tryz.func24 rfl (by decide)
theorem E68:Enters Tryz.prog 68:=enters Tryz.func68 rfl (by decide)
end TKSet11
open TKSet11
set_option maxRecDepth 10000
def mG (l:List Bool) (n:Nat):List Bool:=(List.range n).map fun i=>(l[i]?).getD true
theorem kq (l:List Bool) (n:Nat):(mG l n).length=n:=by unfold mG;simp
theorem Ce {l:List Bool} {n i:Nat} (h:i<n):(mG l n)[i]? =some ((l[i]?).getD true):=by unfold mG;rw[bm,List.getElem?_range h];rfl
def vI (l:List Bool) (n i:Nat):List Bool:=mG l i++List.replicate (n-i) false
theorem EP {l:List Bool} {n i:Nat} (h:i≤n):(vI l n i).length=n:=by unfold vI;rw[bj,kq,ck];omega
theorem ER {l:List Bool} {n i:Nat} {b:Bool} (h:i<n) (hb:b=(l[i]?).getD true):(vI l n i).set i b=vI l n (i+1):=by
 unfold vI;rw[List.set_append_right _ _ (by rw[kq];omega),kq,Nat.sub_self,show n-i=(n-(i+1))+1 from by omega,List.replicate_succ,List.set_cons_zero,hb];unfold mG;rw[List.range_succ,dF,rM];rfl
theorem Ih {l:List Bool} {n i:Nat}:(vI l n (i+1))[i]? =some ((l[i]?).getD true):=by
 unfold vI;rw[iv (by rw[kq];omega),Ce (by omega)]
theorem G5 {M:aC} {w0:World} {l:List Bool} {v0:Value} {n:Nat} (hM:Lt M w0) (hv:(RT.bool.sl).V M w0 l v0) (hn:n≤1000000):
  Spec Tryz.prog 27 #[v0,.int .i64 (n:Int)] w0 (fun v w=>∃r bs,v= .tuple #[r,.pointer (some ⟨bs,0,none⟩)]∧(RT.bool.sl).V M w (mG l n) r∧BW M w (mG l n) bs∧Step M w0 M w aD):=by
 have kr:=hM;refine bg (args:=[_,_]) (fn:=Tryz.f27) Tryz.func27 rfl (n:=44) Tryz.ntmps27 ?_;have S:Step M w0 M w0 aD:=(aw _ _).cF (fun _ h=>h.elim) (fun _ h=>h.elim);refine aj (ae (ah rfl rfl (ah rfl rfl (ab (aj (ae (ad rfl rfl ?_)))))));refine Rg.mk0 M nH I4 rfl rfl rfl rfl (by omega) (by omega) (fun br w1 z1 z1' J7 s1=>?_);generalize hMq:ins M br=Mq at s1;have Om:Mq br:=by rw[←hMq];exact .inl rfl
 replace hv:=hv.le s1.le;replace hM:=s1.lt hM;have:=S.size;replace S:=S.aB s1;refine ah rfl rfl (ab (aj (ae (ad rfl rfl ?_))));refine aW rfl rfl E24 (JB (M:=Mq) (n:=n) (by omega)) (fun r2 w2 hc=>?_);obtain⟨bs,bw,rfl,z2,z3,s2,hs⟩:=hc;generalize hMn:ins (ins Mq bw) bs=Mn at s2 hs;have abb:=s2.aK J7;have Sz:Mn br:=(s2.mem br (ak J7)).2 Om;clear J7 Om;have J7:=abb;have Om:=Sz;clear abb Sz;have nbs:bs≠br:=by have:=z2;omega
 have R7:bw≠br:=by have:=z3;omega
 replace hv:=hv.le s2.le;replace hM:=s2.lt hM;have:=S.size;replace S:=S.aB s2;refine ah rfl rfl (ab (aj (aj (ae (ah rfl rfl (ab (aZ ?_)))))));refine dn (σ:=Nat×List Nat) (fun q=>[(0,v0),(1,.int .i64 (n:Int)),(6,.slice (some ⟨br,0,none⟩) n n),(7,.pointer (some ⟨bs,0,none⟩)),(8,.int .i64 (q.1:Int))]) (fun q w=>q.1≤n∧Lt Mn w∧Step M w0 Mn w aD∧(RT.bool.sl).V Mn w l v0∧w.heap[br]? =some (.cells (lz (vI l n q.1)) 4 (0,0))∧jl 133 190 n q.2 Mn w bs bw∧∀j,bit q.2 j=true↔j<q.1∧(l[j]?).getD true=true) (fun q=>n-q.1) (0,List.replicate ((n+63)/64) 0) (.cons rfl (.cons rfl (.cons rfl (.cons rfl (.cons rfl .nil))))) ?_ ?_
 ·exact⟨bG _,hM,S,hv,by rw[J7];unfold vI mG lz;simp,hs,fun j=>by rw[KP];constructor<;>intro h<;>(try cases h);omega⟩
 ·clear S hv hM J7 hs;rintro⟨i,ws⟩ w ⟨hi,hM,S,hv,J7,hs,hb⟩;dsimp only at hi J7 hs hb ⊢;refine aj (aj (ae (ad rfl rfl (ad rfl rfl (cn rfl rfl rfl (ab ?_))))));refine bN rfl (fun c4=>?_) (fun c4=>?_)
  ·refine aT (aj (aZ (aj (ae (ad rfl rfl (ad rfl rfl (ad rfl rfl (ad rfl rfl (bR nH rfl hv rfl (dT rfl rfl rfl (ad rfl rfl ?_)))))))))));refine aN (g:=24) rfl (fun TB=>?_) (fun TB=>?_)
   ·refine ar rfl rfl rfl rfl (ar rfl rfl rfl rfl (ar rfl rfl rfl rfl (ar rfl rfl rfl rfl (aX rfl rfl rfl (Rg.CP nH I4 rfl rfl rfl (by omega) ?_)))));obtain⟨bo,Gn⟩:=zk (l:=vI l n i) (i:=i) (by rw[EP (by omega)];omega);refine cu (M:=Mn) (u:= .bool bo) I4 rfl rfl J7 (by rw[ay];exact Gn) rfl Om (fun w6 g6 s6=>?_);rw[ay,zm,ER (by omega) (by first|(rw[dN (by omega)];rfl)|(rw[VS];rfl))]at g6;replace hv:=hv.le s6.le;replace S:=S.cf s6 (fun b (hb:b=br)=>by omega);replace hM:=s6.lt hM;replace hs:=hs.step s6 nbs R7;refine ab (aj (ae (ad rfl rfl (ad rfl rfl (Rg.CP nH I4 rfl rfl rfl (by omega) ?_)))));refine aP ey rfl rfl rfl g6 (v:= .bool ((l[i]?).getD true)) (by rw[ay];unfold lz;rw[dX,bm,Ih];rfl) ?_;generalize hx:(l[i]?).getD true=x;refine aU (v':= .bool (decide (x=true))) (by simp) (ad rfl rfl ?_);refine aN (g:=35) rfl (fun G6=>?_) (fun G6=>?_)
    ·refine al rfl rfl (ad rfl rfl (al rfl rfl (Rg.Ra nG rfl rfl rfl (aU (v':= .bool true) (by simp) (aX rfl rfl rfl (ab (lh rfl (ae (ad rfl rfl (ad rfl rfl ?_))))))))))
     have Nv:bit ws i=false:=by
      cases h:bit ws i with
      |false=>rfl
      |true=>have:=((hb i).1 h).1;omega
     refine aW rfl rfl E68 (A1 (i:=(i:Int)) hs (by omega) (by rw[ay];exact Nv)) (fun r8 w8 hc=>?_);obtain⟨EV,pF,Hc,s8⟩:=hc;have g8:=s8.keep g6 (fun h=>R7 h.symm);replace hv:=hv.le s8.le;replace S:=S.cf s8 (fun b (hb:b=bw)=>by omega);replace hM:=s8.lt hM;refine ab (ae (ad rfl rfl (bD rfl rfl rfl (by omega) (ah rfl rfl (ab ?_)))));refine⟨rfl,(i+1,EV),(.cons rfl (.cons rfl (.cons rfl (.cons rfl (.cons rfl .nil))))),?_,?_⟩
     ·refine⟨by dsimp only;omega,hM,S,hv,g8,pF,fun j=>?_⟩;dsimp only;rw[Hc j,jT,hb j,decide_eq_true_eq];constructor
      ·rintro(⟨h1,h2⟩|h)
       ·exact⟨by omega,h2⟩
       ·obtain rfl:j=i:=by omega
        exact⟨by omega,hx.trans G6⟩
      ·rintro⟨h1,h2⟩;rcases cy j i with h|h
       ·exact .inl ⟨h,h2⟩
       ·exact .inr (by omega)
     ·dsimp only;omega
    ·refine ar rfl rfl rfl rfl (ar rfl rfl rfl rfl (aE rfl rfl rfl (ab (iX rfl (aT (ae (ad rfl rfl (bD rfl rfl rfl (by omega) (ah rfl rfl (ab ?_))))))))));refine⟨rfl,(i+1,ws),(.cons rfl (.cons rfl (.cons rfl (.cons rfl (.cons rfl .nil))))),?_,?_⟩
     ·refine⟨by dsimp only;omega,hM,S,hv,g6,hs,fun j=>?_⟩;dsimp only;rw[hb j];constructor
      ·rintro⟨h1,h2⟩;exact⟨by omega,h2⟩
      ·rintro⟨h1,h2⟩;rcases cy j i with h|h
       ·exact⟨h,h2⟩
       ·obtain rfl:j=i:=by omega
        exact absurd (hx.symm.trans h2) G6
     ·dsimp only;omega
   ·refine al rfl rfl (ad rfl rfl (al rfl rfl (ad rfl rfl (al rfl rfl ?_))));obtain⟨lb,VS⟩:∃b,l[i]? =some b:=⟨_,au (by omega)⟩;refine cE (M:=Mn) nH I4 rfl rfl rfl hv (aq _ _) (by omega) (fun u69 y' kE ajq=>?_);rw[ay]at kE;obtain rfl:=aI (VS.symm.trans kE);refine al rfl rfl ?_;refine bT (M:=Mn) ey rfl rfl rfl rfl rfl ajq (aq _ _) (fun as2 abc=>?_);obtain rfl:=J8.1 abc;refine aE rfl rfl rfl (Rg.CP nH I4 rfl rfl rfl (by omega) ?_);obtain⟨bo,Gn⟩:=zk (l:=vI l n i) (i:=i) (by rw[EP (by omega)];omega);refine cu (M:=Mn) (u:= .bool bo) I4 rfl rfl J7 (by rw[ay];exact Gn) rfl Om (fun w6 g6 s6=>?_);rw[ay,zm,ER (by omega) (by first|(rw[dN (by omega)];rfl)|(rw[VS];rfl))]at g6;replace hv:=hv.le s6.le;replace S:=S.cf s6 (fun b (hb:b=br)=>by omega);replace hM:=s6.lt hM;replace hs:=hs.step s6 nbs R7;refine ab (aj (ae (ad rfl rfl (ad rfl rfl (Rg.CP nH I4 rfl rfl rfl (by omega) ?_)))));refine aP ey rfl rfl rfl g6 (v:= .bool ((l[i]?).getD true)) (by rw[ay];unfold lz;rw[dX,bm,Ih];rfl) ?_;generalize hx:(l[i]?).getD true=x;refine aU (v':= .bool (decide (x=true))) (by simp) (ad rfl rfl ?_);refine aN (g:=35) rfl (fun G6=>?_) (fun G6=>?_)
    ·refine al rfl rfl (ad rfl rfl (al rfl rfl (Rg.Ra nG rfl rfl rfl (aU (v':= .bool true) (by simp) (aX rfl rfl rfl (ab (lh rfl (ae (ad rfl rfl (ad rfl rfl ?_))))))))))
     have Nv:bit ws i=false:=by
      cases h:bit ws i with
      |false=>rfl
      |true=>have:=((hb i).1 h).1;omega
     refine aW rfl rfl E68 (A1 (i:=(i:Int)) hs (by omega) (by rw[ay];exact Nv)) (fun r8 w8 hc=>?_);obtain⟨EV,pF,Hc,s8⟩:=hc;have g8:=s8.keep g6 (fun h=>R7 h.symm);replace hv:=hv.le s8.le;replace S:=S.cf s8 (fun b (hb:b=bw)=>by omega);replace hM:=s8.lt hM;refine ab (ae (ad rfl rfl (bD rfl rfl rfl (by omega) (ah rfl rfl (ab ?_)))));refine⟨rfl,(i+1,EV),(.cons rfl (.cons rfl (.cons rfl (.cons rfl (.cons rfl .nil))))),?_,?_⟩
     ·refine⟨by dsimp only;omega,hM,S,hv,g8,pF,fun j=>?_⟩;dsimp only;rw[Hc j,jT,hb j,decide_eq_true_eq];constructor
      ·rintro(⟨h1,h2⟩|h)
       ·exact⟨by omega,h2⟩
       ·obtain rfl:j=i:=by omega
        exact⟨by omega,hx.trans G6⟩
      ·rintro⟨h1,h2⟩;rcases cy j i with h|h
       ·exact .inl ⟨h,h2⟩
       ·exact .inr (by omega)
     ·dsimp only;omega
    ·refine ar rfl rfl rfl rfl (ar rfl rfl rfl rfl (aE rfl rfl rfl (ab (iX rfl (aT (ae (ad rfl rfl (bD rfl rfl rfl (by omega) (ah rfl rfl (ab ?_))))))))));refine⟨rfl,(i+1,ws),(.cons rfl (.cons rfl (.cons rfl (.cons rfl (.cons rfl .nil))))),?_,?_⟩
     ·refine⟨by dsimp only;omega,hM,S,hv,g6,hs,fun j=>?_⟩;dsimp only;rw[hb j];constructor
      ·rintro⟨h1,h2⟩;exact⟨by omega,h2⟩
      ·rintro⟨h1,h2⟩;rcases cy j i with h|h
       ·exact⟨h,h2⟩
       ·obtain rfl:j=i:=by omega
        exact absurd (hx.symm.trans h2) G6
     ·dsimp only;omega
  ·refine cI (aj (ae (ad rfl rfl (ad rfl rfl (ah rfl rfl (ah rfl rfl (ab (aQ ?_))))))));have e:i=n:=by omega
   subst e;have e2:vI l i i=mG l i:=by unfold vI;rw[Nat.sub_self];simp
   rw[e2]at J7;have hV:=QT (M:=M) J7 (fun h=>by have:=kr _ h;omega) (by rw[kq];omega);rw[kq]at hV
   have hB:=hs.ajm (N:=aD) (a:=mG l i) kr (by omega) (by omega) (kq _ _) (fun j=>by
    rw[hb j];constructor
    ·rintro⟨h1,h2⟩;rw[Ce h1,h2]
    ·intro h;have h1:j<i:=by have:=(ao.1 h).1;rw[kq]at this;exact this
     rw[Ce h1]at h;exact⟨h1,aI h⟩)
   exact eS rfl rfl rfl ⟨_,bs,rfl,hV,hB,S.back⟩
end Go.K
namespace Go.K
open Go.Proofs
namespace TKKeeps11
theorem I4:TI Tryz.prog 4 (.bool false) 1 1:=by unfold TI;kernel_rfl
theorem OK:TI Tryz.prog 25 (.pointer none) 1 8:=by unfold TI;kernel_rfl
theorem VH:TI Tryz.prog 47 (.pointer none) 1 8:=by unfold TI;kernel_rfl
theorem Cr:TI Tryz.prog 72 (.agg #[(.slice none 0 0),(.slice none 0 0),(.slice none 0 0),(.slice none 0 0)]) 4 96:=by unfold TI;kernel_rfl
theorem E11:Enters Tryz.prog 11:=enters Tryz.func11 rfl (by decide)
theorem E12:Enters Tryz.prog 12:=enters Tryz.func12 rfl (by decide)
theorem E22:Enters Tryz.prog 22:=enters Tryz.func22 rfl (by decide)
theorem E25:Enters Tryz.prog 25:=enters Tryz.func25 rfl (by decide)
theorem E27:Enters Tryz.prog 27:=enters Tryz.func27 rfl (by decide)
theorem E32:Enters Tryz.prog 32:=enters Tryz.func32 rfl (by decide)
theorem E33:Enters Tryz.prog 33:=enters Tryz.func33 rfl (by decide)
theorem W4:Enters Tryz.prog 34:=enters Tryz.func34 rfl (by decide)
end TKKeeps11
open TKKeeps11
set_option maxRecDepth 10000
theorem JR {Z:List (En×Bool)} {i:Nat} {e:En} {b:Bool} (h:Z[i]? =some (e,b)):qA (Z.take (i+1))=qA (Z.take i)++if b=true then[e]else[]:=by
 unfold qA;rw[b9,h,cK,List.filter_append,dF]
 cases b<;>simp
theorem ES (Z:List (En×Bool)):(qA Z).length≤Z.length:=by unfold qA;rw[aH];exact jF _ _
theorem QU {L:List En} {a:List Bool} (h:sJ (-1) L=true):sJ (-1) (qA (L.zip a))=true:=
 GH (fun e he=>by obtain⟨d,h1,_⟩:=Ep.1 he;exact tV h e (az h1)) (HZ (yV h))
theorem xf {M:aC} {l:List Dc} {lv:List Bool} {v0 v1:Value} {w0:World} (hM:Lt M w0) (hv:(RT.dc.sl).V M w0 l v0) (qL:(RT.bool.sl).V M w0 lv v1) (h0: ¬M 1) (GK:∃e fr,w0.heap[1]? =some (.cells (IE.map fun(k:Nat)=>Value.int .u8 (k:Int)).toArray e fr)):
  Spec Tryz.prog 6 #[v0,v1] w0 (fun v w=>v= .bool true∧Step M w0 M w aD):=by
 have kr:=hM;obtain⟨etb,ftb,htb⟩:=GK;have VQ:=lV l 0 3 10;obtain⟨hok,_⟩:=Eb l (show(0:Int)≤0 by decide) (show(1:Int)≤3 by decide) 10;have UY:(mG lv (ep l 0 3 10).length).length=(ep l 0 3 10).length:=kq _ _;have hzl:((ep l 0 3 10).zip (mG lv (ep l 0 3 10).length)).length=(ep l 0 3 10).length:=by rw[List.length_zip,UY,Nat.min_self]
 have Ci:=ES ((ep l 0 3 10).zip (mG lv (ep l 0 3 10).length));have ajr:sJ (-1) (qA ((ep l 0 3 10).zip (mG lv (ep l 0 3 10).length)))=true:=QU hok;have okF:=H7 ajr (by omega);refine bg (args:=[_,_]) (fn:=Tryz.f6) Tryz.func6 rfl (n:=95) Tryz.ntmps6 ?_;have S:Step M w0 M w0 aD:=(aw _ _).cF (fun _ h=>h.elim) (fun _ h=>h.elim);refine aj (ae (ah rfl rfl (ab (aj (ae (ad rfl rfl ?_))))));refine aW rfl rfl E12 (FO (most:=10) (a:=0) (s:=3) _ hM hv (by decide) (by decide) (by decide)) (fun r1 w1 hc=>?_);obtain⟨hg,s1⟩:=hc;replace hv:=hv.le s1.le;replace qL:=qL.le s1.le;replace hM:=s1.lt hM;have:=S.size;replace S:=S.aB s1;refine ah rfl rfl (ab (aj (ae (ad rfl rfl ?_))));refine aW rfl rfl E11 (Gx _ hM hg Gz (by omega) hok) (fun rb2 wb2 hc=>?_);obtain⟨sa2,rfl,vN,UZ⟩:=hc;obtain⟨aa2,rfl⟩:=vN.gO;replace qL:=qL.le UZ.le;replace hg:=hg.le UZ.le;replace hM:=UZ.lt hM;have:=S.size;replace S:=S.aB UZ;refine ad rfl rfl (bV rfl rfl rfl (bV rfl rfl rfl (ah rfl rfl (ah rfl rfl (ab (aj (aj (ae (ad rfl rfl (Rg.KE jg rfl rfl rfl (ab ?_)))))))))));refine T.wM rfl ((by simp)) (aT (aj (ae (ad rfl rfl (ad rfl rfl (bR ff rfl hg rfl ?_))))));refine aW rfl rfl E27 (G5 hM qL (n:=(ep l 0 3 10).length) (by omega)) (fun rs ws hc=>?_);obtain⟨r5,b5,rfl,pV,P2,s5⟩:=hc;replace qL:=qL.le s5.le;replace hg:=hg.le s5.le;replace vN:=vN.le (by decide) s5.le;replace hM:=s5.lt hM;have:=S.size;replace S:=S.aB s5;refine ad rfl rfl (bV rfl rfl rfl (bV rfl rfl rfl (ah rfl rfl (ah rfl rfl (ab (aj (ae (ad rfl rfl ?_))))))));refine eg (A:=((RT.se).ptr)) (hn:=by decide) (M:=M) fg OK (by decide) rfl rfl hM (mA.2 vN) (.inr ⟨rfl,rfl⟩) (fun afB as4 AK G7=>?_)
 replace qL:=qL.le G7.le;replace hg:=hg.le G7.le;replace vN:=vN.le (by decide) G7.le;replace pV:=pV.le G7.le;replace P2:=P2.le G7.le;replace hM:=G7.lt hM;have:=S.size;replace S:=S.aB G7;refine ad rfl rfl ?_;refine eg (A:=RT.OB) (hn:=by decide) (M:=M) Tryz.underlying49 VH (by decide) rfl rfl hM (Hn.2 rfl) (.inr ⟨rfl,rfl⟩) (fun as5 Yh On tF=>?_);replace qL:=qL.le tF.le;replace hg:=hg.le tF.le;replace vN:=vN.le (by decide) tF.le;replace pV:=pV.le tF.le;replace P2:=P2.le tF.le;replace AK:=AK.le tF.le;replace hM:=tF.lt hM;have:=S.size;replace S:=S.aB tF;refine aW rfl rfl E22 (EO (L:=(ep l 0 3 10)) (b:=b5) hM AK On P2 hok UY (by omega) (fun hn=>h0 ((S.mem 1 (ak htb)).1 hn)) ⟨etb,ftb,S.aK htb⟩) (fun r6 w6 hc=>?_);obtain⟨sm6,rfl,sU,s6⟩:=hc;obtain⟨am6,rfl⟩:=sU.gO;replace qL:=qL.le s6.le;replace hg:=hg.le s6.le;replace vN:=vN.le (by decide) s6.le;replace pV:=pV.le s6.le;replace P2:=P2.le s6.le;replace AK:=AK.le s6.le;replace On:=On.le s6.le;replace hM:=s6.lt hM;have:=S.size;replace S:=S.aB s6;refine ad rfl rfl (bV rfl rfl rfl (bV rfl rfl rfl (ah rfl rfl (ah rfl rfl (ab (aj (aj (ae (ad rfl rfl (Rg.KE jg rfl rfl rfl (ad rfl rfl ?_)))))))))));refine Rg.E4 (g:=42) rfl ((by simp)) (al rfl rfl (ad rfl rfl (al rfl rfl (fe rfl rfl rfl (aU (v':= .bool false) (by simp) (aE rfl rfl rfl (ab (iX rfl (aT (aj (ae ?_)))))))))));refine ah rfl rfl (ab (aj (ae (ah rfl rfl (ab (aj (aj (ae (ah rfl rfl (ab (aZ ?_)))))))))));refine dn (σ:=Nat×Value×Value) (fun q=>[(0,v0),(5,r1),(8,r5),(10,.pointer (some am6)),(12,q.2.1),(13,q.2.2),(14,.int .i64 (q.1:Int))]) (fun q w=>q.1≤(ep l 0 3 10).length∧∃M1,Lt M1 w∧Step M w0 M1 w aD∧(RT.en.sl).V M1 w (ep l 0 3 10) r1∧(RT.bool.sl).V M1 w (mG lv (ep l 0 3 10).length) r5∧cP RT.se M1 w (.pointer (some am6)) (rH (fB (qA ((ep l 0 3 10).zip (mG lv (ep l 0 3 10).length)))))∧Own (RT.int .i64) 3 M1 w w0.heap.size q.2.1 ((qA (((ep l 0 3 10).zip (mG lv (ep l 0 3 10).length)).take q.1)).map (·.2))∧Own (RT.int .i64) 3 M1 w w0.heap.size q.2.2 ((qA (((ep l 0 3 10).zip (mG lv (ep l 0 3 10).length)).take q.1)).map (·.1.1))∧gN q.2.1 q.2.2) (fun q=>(ep l 0 3 10).length-q.1) (0,.slice none 0 0,.slice none 0 0) (.cons rfl (.cons rfl (.cons rfl (.cons rfl (.cons rfl (.cons rfl (.cons rfl .nil))))))) ?_ ?_
 ·exact⟨bG _,_,hM,S,hg,pV,sU,dz _ _ _ _ _,dz _ _ _ _ _,gN.nil _⟩
 ·clear hM S hg pV sU;rintro⟨i,vq,vi⟩ w ⟨hi,M1,hM,S,hg,pV,sU,fy,eo,ta⟩;dsimp only at hi fy eo ta ⊢;refine aj (aj (ae (ad rfl rfl (ad rfl rfl (bR ff rfl hg rfl (cn rfl rfl rfl (ab ?_)))))));refine bN rfl (fun Pp=>?_) (fun Pp=>?_)
  ·refine aT (aj (aZ (aj (ae (ad rfl rfl (ad rfl rfl ?_))))));obtain⟨e,lD⟩:∃x,(ep l 0 3 10)[i]? =some x:=⟨_,au (by omega)⟩;obtain⟨b,JU⟩:∃x,(mG lv (ep l 0 3 10).length)[i]? =some x:=⟨_,au (by omega)⟩;have hzi:((ep l 0 3 10).zip (mG lv (ep l 0 3 10).length))[i]? =some (e,b):=List.getElem?_zip_eq_some.2 ⟨lD,JU⟩;have hft:=JR hzi;have Nv:=ES (((ep l 0 3 10).zip (mG lv (ep l 0 3 10).length)).take i);rw[bC]at Nv;refine cE (M:=M1) nH I4 rfl rfl rfl pV (aq _ _) (by omega) (fun u14 y' kE VB=>?_);rw[ay]at kE;obtain rfl:=aI (JU.symm.trans kE);refine bT (M:=M1) ey rfl rfl rfl rfl rfl VB (aq _ _) (fun v14 QF=>?_);obtain rfl:=J8.1 QF;refine aU (v':= .bool (decide (b=true))) (by simp) (ab ?_);refine bN rfl (fun Cm=>?_) (fun Cm=>?_)
   ·refine aj (ae (ad rfl rfl (ad rfl rfl (ad rfl rfl ?_))));refine cE (M:=M1) ff EW rfl rfl rfl hg (aq _ _) (by omega) (fun as7 y' kE abd=>?_);rw[ay]at kE;obtain rfl:=aI (lD.symm.trans kE);refine aL (M:=M1) (A:=RT.en) (B:=RT.int .i64) dG rfl rfl I3 (by decide) Yg rfl rfl (by decide) abd (aq _ _) (fun as8 abe=>?_);refine cb (M:=M1) ax rfl rfl abe (aq _ _) (fun Oo=>?_);refine aU (v':= .int .i64 e.2) rfl ?_;refine eg (A:=RT.int .i64) (hn:=by decide) (M:=M1) an I3 (by decide) rfl rfl hM (fI Oo) (.inr ⟨rfl,rfl⟩) (fun HU R4 GY gT=>?_);replace hg:=hg.le gT.le;replace pV:=pV.le gT.le;replace sU:=sU.le (by decide) gT.le;replace fy:=fy.aM gT;replace eo:=eo.aM gT;replace hM:=gT.lt hM;have:=S.size;replace S:=S.aB gT;refine kx (M:=M1) (base:=w0.heap.size) an I3 rfl rfl rfl rfl fy GY (aq _ _) (by rw[aH,dm];omega) (by rw[aH,dm];omega) S.size (fun v157 aiB ze pP N9=>?_);generalize jh (M1) v157=zf at ze pP;have B7:gN v157 vi:=ta.grown N9 (fun b hb=>(eo.base b hb).2);replace eo:=eo.step pP (fun b hb h=>ta b h hb);replace hg:=hg.le pP.le;replace pV:=pV.le pP.le;replace sU:=sU.le (by decide) pP.le;replace S:=S.cV pP fy (aO _);replace hM:=pP.lt hM;replace fy:=ze;clear ze;refine ah rfl rfl (ab (ae (ad rfl rfl (ad rfl rfl (ad rfl rfl ?_)))));refine cE (M:=zf) ff EW rfl rfl rfl hg (aq _ _) (by omega) (fun as9 y' kE abf=>?_);rw[ay]at kE;obtain rfl:=aI (lD.symm.trans kE);refine aL (M:=zf) (A:=RT.en) (B:=RT.dc) dG rfl rfl ou (by decide) WN rfl rfl (by decide) abf (aq _ _) (fun ata abg=>?_)
    refine aL (M:=zf) (A:=RT.dc) (B:=RT.int .i64) a8 rfl rfl I3 (by decide) WM rfl rfl (by decide) abg (aq _ _) (fun atb abh=>?_);refine cb (M:=zf) ax rfl rfl abh (aq _ _) (fun Oq=>?_);refine aU (v':= .int .i64 e.1.1) rfl ?_;refine eg (A:=RT.int .i64) (hn:=by decide) (M:=zf) an I3 (by decide) rfl rfl hM (fI Oq) (.inr ⟨rfl,rfl⟩) (fun am8 am9 Ws zn=>?_);replace hg:=hg.le zn.le;replace pV:=pV.le zn.le;replace sU:=sU.le (by decide) zn.le;replace fy:=fy.aM zn;replace eo:=eo.aM zn;replace hM:=zn.lt hM;have:=S.size;replace S:=S.aB zn;refine kx (M:=zf) (base:=w0.heap.size) an I3 rfl rfl rfl rfl eo Ws (aq _ _) (by rw[aH,dm];omega) (by rw[aH,dm];omega) S.size (fun v168 atc Ot G8 abi=>?_);generalize jh (zf) v168=atd at Ot G8;have Wt:gN v168 v157:=B7.symm.grown abi (fun b hb=>(fy.base b hb).2);replace fy:=fy.step G8 (fun b hb h=>B7.symm b h hb);replace hg:=hg.le G8.le;replace pV:=pV.le G8.le;replace sU:=sU.le (by decide) G8.le;replace S:=S.cV G8 eo (aO _);replace hM:=G8.lt hM;replace eo:=Ot;clear Ot;refine ah rfl rfl (ab (ae (ad rfl rfl (bD rfl rfl rfl (by omega) (ah rfl rfl (ab ?_))))));refine⟨rfl,(i+1,v157,v168),(.cons rfl (.cons rfl (.cons rfl (.cons rfl (.cons rfl (.cons rfl (.cons rfl .nil))))))),?_,?_⟩
    ·refine⟨by dsimp only;omega,_,hM,S,hg,pV,sU,?_,?_,Wt.symm⟩
     ·dsimp only;rw[hft,if_pos Cm,dF];exact fy
     ·dsimp only;rw[hft,if_pos Cm,dF];exact eo
    ·dsimp only;omega
   ·refine aT (ae (ad rfl rfl (bD rfl rfl rfl (by omega) (ah rfl rfl (ab ?_)))));refine⟨rfl,(i+1,vq,vi),(.cons rfl (.cons rfl (.cons rfl (.cons rfl (.cons rfl (.cons rfl (.cons rfl .nil))))))),?_,?_⟩
    ·refine⟨by dsimp only;omega,_,hM,S,hg,pV,sU,?_,?_,ta⟩
     ·dsimp only;rw[hft,if_neg Cm,fP];exact fy
     ·dsimp only;rw[hft,if_neg Cm,fP];exact eo
    ·dsimp only;omega
  ·refine cI (aj (ae ?_));rw[show i=(ep l 0 3 10).length from by omega,bc (by omega)]at fy eo;have G9:=ta.symm;obtain⟨EF,eEF⟩:∃E,E=(qA ((ep l 0 3 10).zip (mG lv (ep l 0 3 10).length))):=⟨_,rfl⟩;rw[←eEF]at fy eo sU okF Ci;clear eEF;refine ad rfl rfl ?_;have Ii:=fy.view (hn:=by decide) (by rw[aH];omega);replace hg:=hg.le (eH _ vq _);replace pV:=pV.le (eH _ vq _);replace sU:=sU.le (by decide) (eH _ vq _);replace eo:=eo.Jz (v:=vq) (fun b hb=>by first|exact eo.dx fy (by decide) hb|exact G9 b hb);replace hM:Lt (rm M1 vq) _:=fun b hb=>hM b hb.1
   replace S:=S.freeze (v:=vq) (fun b hb=>by have:=(fy.base b hb).1;omega);clear fy;have Ou:=eo.view (hn:=by decide) (by rw[aH];omega);replace hg:=hg.le (eH _ vi _);replace pV:=pV.le (eH _ vi _);replace sU:=sU.le (by decide) (eH _ vi _);replace Ii:=Ii.le (eH _ vi _);replace hM:Lt (rm (rm M1 vq) vi) _:=fun b hb=>hM b hb.1
   replace S:=S.freeze (v:=vi) (fun b hb=>by have:=(eo.base b hb).1;omega);clear eo;refine aW rfl rfl E32 (EI _ hM sU okF.hls okF.hdl okF.hn1 okF.hn2 okF.hd6 okF.hok) (fun r17 Vh hc=>?_);obtain⟨PY,vg⟩:=hc;obtain⟨pa,pb,pc,pd,rfl,Cf,Cg,_,_⟩:=UA PY;dsimp only at Cf Cg;replace hg:=hg.le vg.le;replace pV:=pV.le vg.le;replace sU:=sU.le (by decide) vg.le;replace Ii:=Ii.le vg.le;replace Ou:=Ou.le vg.le;replace hM:=vg.lt hM;have:=S.size;replace S:=S.aB vg;refine rR (A:=RT.pa) (M:=rm (rm M1 vq) vi) Cr rfl rfl rfl rfl rfl (by assumption) (aq _ _) hM (fun anb anc vJ ur ane=>?_);replace hg:=hg.le ur.le;replace pV:=pV.le ur.le;replace sU:=sU.le (by decide) ur.le;replace Ii:=Ii.le ur.le;replace Ou:=Ou.le ur.le;replace Cf:=Cf.le ur.le;replace Cg:=Cg.le ur.le;replace hM:=ur.lt hM;have:=S.size;replace S:=S.aB ur;refine ab (aj (ae ?_));refine aL (M:=rm (rm M1 vq) vi) (A:=RT.pa) (B:=(RT.int .i64).sl) bF rfl rfl j7 (by decide) (pa1) rfl rfl (by decide) (by assumption) (by repeat (first|exact aq _ _|refine aY (bu (by assumption)) ?_)) (fun anf Wu=>?_);refine bT (M:=rm (rm M1 vq) vi) an rfl rfl rfl rfl rfl Wu (aq _ _) (fun ate abj=>?_);refine ad rfl rfl ?_;refine aW rfl rfl E33 (AM hM abj Ii) (fun atf atg hc=>?_);obtain⟨rfl,Aa⟩:=hc;refine aU (v':= .bool true) (congrArg Value.bool (decide_eq_true rfl)) ?_;replace hg:=hg.le Aa.le;replace pV:=pV.le Aa.le;replace sU:=sU.le (by decide) Aa.le;replace Ii:=Ii.le Aa.le;replace Ou:=Ou.le Aa.le;replace Cf:=Cf.le Aa.le;replace Cg:=Cg.le Aa.le;replace vJ:=vJ.le (by decide) Aa.le;replace hM:=Aa.lt hM;have:=S.size;replace S:=S.aB Aa;refine ad rfl rfl (al rfl rfl ?_);refine aL (M:=rm (rm M1 vq) vi) (A:=RT.pa) (B:=(RT.int .i64).sl) bF rfl rfl j7 (by decide) (pa0) rfl rfl (by decide) (by assumption) (by repeat (first|exact aq _ _|refine aY (bu (by assumption)) ?_)) (fun ang Wv=>?_)
   refine al rfl rfl ?_;refine bT (M:=rm (rm M1 vq) vi) an rfl rfl rfl rfl rfl Wv (aq _ _) (fun ath abk=>?_);refine al rfl rfl (ad rfl rfl (al rfl rfl ?_));refine aW rfl rfl E33 (AM hM abk Ou) (fun ati atj hc=>?_);obtain⟨rfl,Ab⟩:=hc;refine aU (v':= .bool true) (congrArg Value.bool (decide_eq_true rfl)) ?_;replace hg:=hg.le Ab.le;replace pV:=pV.le Ab.le;replace sU:=sU.le (by decide) Ab.le;replace Ii:=Ii.le Ab.le;replace Ou:=Ou.le Ab.le;replace Cf:=Cf.le Ab.le;replace Cg:=Cg.le Ab.le;replace vJ:=vJ.le (by decide) Ab.le;replace hM:=Ab.lt hM;have:=S.size;replace S:=S.aB Ab;refine aX rfl rfl rfl (ad rfl rfl (al rfl rfl (ad rfl rfl (al rfl rfl ?_))));refine aW rfl rfl W4 (vr _ sU) (fun anh ani hc=>?_);obtain⟨rfl,rfl⟩:=hc;refine al rfl rfl (ad rfl rfl (al rfl rfl (bR an rfl Ii rfl (al rfl rfl (tc rfl rfl rfl (aU (v':= .bool true) (congrArg Value.bool (decide_eq_true (by show(((List.map _ _).length:Nat):Int)=(((List.map _ _).length:Nat):Int);rw[aH,aH]))) (aX rfl rfl rfl (ad rfl rfl (al rfl rfl ?_)))))))));refine aW rfl rfl E25 (Cd hM) (fun rl wl hc=>?_);obtain⟨rfl,sl⟩:=hc;replace hg:=hg.le sl.le;replace pV:=pV.le sl.le;replace sU:=sU.le (by decide) sl.le;replace Ii:=Ii.le sl.le;replace Ou:=Ou.le sl.le;replace Cf:=Cf.le sl.le;replace Cg:=Cg.le sl.le;replace vJ:=vJ.le (by decide) sl.le;replace hM:=sl.lt hM;have:=S.size;replace S:=S.aB sl;refine aX rfl rfl rfl (ah rfl rfl (ab (aQ ?_)));exact aV rfl rfl ⟨rfl,S.back⟩
end Go.K

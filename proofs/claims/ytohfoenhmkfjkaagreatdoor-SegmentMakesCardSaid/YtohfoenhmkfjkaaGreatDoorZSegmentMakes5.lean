/- What the law 'SegmentMakes' needs of walks and plain Lean, part 5: nothing is assumed beyond the texts that it imports. -/
import Derived.KernelRfl
import Derived.Laws.StructEq
import Derived.Test.YtohfoenhmkfjkaaGreatDoorProg
import Derived.Test.YtohfoenhmkfjkaaGreatDoorZSegmentMakes1
import Derived.Test.YtohfoenhmkfjkaaGreatDoorZSegmentMakes2
import Derived.Test.YtohfoenhmkfjkaaGreatDoorZSegmentMakes3
import Derived.Test.YtohfoenhmkfjkaaGreatDoorZSegmentMakes4
set_option linter.unusedVariables false
set_option linter.unusedSimpArgs false
namespace Go.K
open Go.Proofs
namespace TKSegG
theorem E51:Enters Tryz.prog 51:=enters Tryz.func51 rfl (by decide)
theorem R7:Enters Tryz.prog 180:=enters Tryz.func180 rfl (by decide)
end TKSegG
open TKSegG
set_option maxRecDepth 10000
theorem rE {M:aU} {w0:World} {v u:Value} {a b:List Po} (hM:Lt M w0) (hv:((RT.po).sl).V M w0 a v) (hu:((RT.po).sl).V M w0 b u):
  Spec Tryz.prog 85 #[v,u] w0 (fun v' w'=>v'= .bool (decide (a=b))∧Step M w0 M w' aN):=by
 have Ou:=dr hv;have hlb:=dr hu;refine bE (args:=[_,_]) (fn:=Tryz.f85) Tryz.func85 rfl (n:=44) Tryz.ntmps85 (au (ak (al rfl rfl (ae (au (au (ak (aj rfl rfl (bF aC rfl hv rfl (aj rfl rfl (bF aC rfl hu rfl ?_)))))))))));refine eC rfl rfl rfl (ae ?_);refine bW rfl (fun c1=>?_) (fun c1=>?_)
 ·refine au (ak (al rfl rfl (ae (aW ?_))));refine a8 rfl rfl ⟨?_,ah _ _⟩;rw[decide_eq_false];rintro rfl;exact c1 rfl
 ·obtain hlen:a.length=b.length:=by omega
  refine bg (au (au (ak (al rfl rfl (ae (bu ?_))))));refine de (σ:=Nat) (fun s=>[(0,v),(1,u),(5,.int .i64 s)]) (fun s w=>s≤a.length∧a.take s=b.take s∧Step M w0 M w aN) (fun s=>a.length-s) 0 (.cons rfl (.cons rfl (.cons rfl .nil))) ?_ ?_
  ·exact⟨bM _,by simp,ah _ _⟩
  ·rintro k w1 ⟨hk,heq,S⟩;refine au (au (ak (aj rfl rfl (aj rfl rfl (bF aC rfl hv rfl (cu rfl rfl rfl (ae ?_)))))));refine bW rfl (fun c4=>?_) (fun c4=>?_)
   ·refine bg (au (bu (au ?_)));obtain⟨⟨d,ps⟩,hx⟩:∃x,a[k]? =some x:=⟨_,aI (by omega)⟩;obtain⟨⟨e,qs⟩,hy⟩:∃y,b[k]? =some y:=⟨_,aI (by omega)⟩;have hMw:=S.lt hM;apply kA (M:=M) mixed [aV.eq _,aV.eq _,aV.ptr RT.po (d,ps),aV.ptr ((RT.int .i64).sl) ps,aV.V ((RT.int .i64).sl) ps,aV.eq _,aV.eq _,aV.ptr RT.po (e,qs),aV.ptr ((RT.int .i64).sl) qs,aV.V ((RT.int .i64).sl) qs,aV.eq (.bool (decide (ps=qs))),aV.eq _]
    ·rfl
    ·refine an ?_ ?_
     ·intro wD E sD;refine aj rfl rfl ?_;exact ae ⟨rfl,rfl,_,rfl,rfl,ah _ _⟩
     refine an ?_ ?_
     ·intro wD E sD;refine aj rfl rfl ?_;exact ae ⟨rfl,rfl,_,rfl,rfl,ah _ _⟩
     refine an ?_ ?_
     ·intro wD E sD;refine ao (ao ?_);refine bS (M:=M) aC dW rfl rfl rfl (hv.le (S.aE sD).le) (ar _ _) (by omega) (fun ui ai gN ib=>?_);obtain rfl:(d,ps)=ai:=bY (aG (gN.symm.trans (by simpa using hx)));exact ae ⟨rfl,rfl,_,rfl,ib,ah _ _⟩
     refine an ?_ ?_
     ·intro wD E sD;intro v2 kB;refine aA (M:=M) (A:=RT.po) (B:=((RT.int .i64).sl)) aP rfl rfl gT (by decide) zr rfl rfl (by decide) (show bL RT.po M wD v2 (d,ps)from kB) (ar _ _) (fun uf fB=>?_);exact ae ⟨rfl,rfl,_,rfl,fB,ah _ _⟩
     refine an ?_ ?_
     ·intro wD E sD;intro v3 lv;refine aY (M:=M) ay rfl rfl rfl rfl rfl (show bL ((RT.int .i64).sl) M wD v3 ps from lv) (ar _ _) (fun uf fB=>?_);exact ae ⟨rfl,rfl,_,rfl,fB,ah _ _⟩
     refine an ?_ ?_
     ·intro wD E sD;refine aj rfl rfl ?_;exact ae ⟨rfl,rfl,_,rfl,rfl,ah _ _⟩
     refine an ?_ ?_
     ·intro wD E sD;refine aj rfl rfl ?_;exact ae ⟨rfl,rfl,_,rfl,rfl,ah _ _⟩
     refine an ?_ ?_
     ·intro wD E sD;refine ao (ao ?_);refine bS (M:=M) aC dW rfl rfl rfl (hu.le (S.aE sD).le) (ar _ _) (by omega) (fun ui ai gN ib=>?_);obtain rfl:(e,qs)=ai:=bY (aG (gN.symm.trans (by simpa using hy)));exact ae ⟨rfl,rfl,_,rfl,ib,ah _ _⟩
     refine an ?_ ?_
     ·intro wD E sD;intro v7 qH;refine aA (M:=M) (A:=RT.po) (B:=((RT.int .i64).sl)) aP rfl rfl gT (by decide) zr rfl rfl (by decide) (show bL RT.po M wD v7 (e,qs)from qH) (ar _ _) (fun uf fB=>?_);exact ae ⟨rfl,rfl,_,rfl,fB,ah _ _⟩
     refine an ?_ ?_
     ·intro wD E sD;intro v8 tn;refine aY (M:=M) ay rfl rfl rfl rfl rfl (show bL ((RT.int .i64).sl) M wD v8 qs from tn) (ar _ _) (fun uf fB=>?_);exact ae ⟨rfl,rfl,_,rfl,fB,ah _ _⟩
     refine an ?_ ?_
     ·intro wD E sD;intro v4 oQ;intro v9 qi;refine aS rfl rfl E51 (ue (M:=M) (sD.lt hMw) (show((RT.int .i64).sl).V M wD ps v4 from oQ) (show((RT.int .i64).sl).V M wD qs v9 from qi)) (fun r1 w1 h1=>?_);obtain⟨rfl,s1⟩:=h1;exact ae ⟨rfl,rfl,_,rfl,rfl,s1⟩
     refine an ?_ ?_
     ·intro wD E sD;refine ao (ao (ao (ao ?_)));intro v2 kB;intro v3 lv;intro v4 oQ;refine ao (ao ?_);intro v7 qH;intro v8 tn;intro v9 qi;refine ao (al rfl rfl ?_);exact ae ⟨rfl,rfl,_,rfl,rfl,ah _ _⟩
     exact fC
    ·intro WR rJ;refine ao (ao ?_);intro adX WS;intro ang ajm;intro anh ajn;refine ao (ao ?_);intro ani ajo;intro anj ajp;intro ank ajq;refine ao (ao (au ?_));by_cases Dd:d≠e
     ·apply kA (M:=M) mixed [aV.eq _,aV.eq _,aV.ptr RT.po (d,ps),aV.ptr (RT.int .i64) d,aV.eq (.int .i64 d),aV.eq _,aV.eq _,aV.ptr RT.po (e,qs),aV.ptr (RT.int .i64) e,aV.eq (.int .i64 e),aV.eq _,aV.eq (.bool true),aV.eq undef,aV.eq undef,aV.eq _]
      ·rfl
      ·refine an ?_ ?_
       ·intro wD E sD;refine aj rfl rfl ?_;exact ae ⟨rfl,rfl,_,rfl,rfl,ah _ _⟩
       refine an ?_ ?_
       ·intro wD E sD;refine aj rfl rfl ?_;exact ae ⟨rfl,rfl,_,rfl,rfl,ah _ _⟩
       refine an ?_ ?_
       ·intro wD E sD;refine ao (ao ?_);refine bS (M:=M) aC dW rfl rfl rfl (hv.le ((S.aE rJ).aE sD).le) (ar _ _) (by omega) (fun ui ai gN ib=>?_);obtain rfl:(d,ps)=ai:=bY (aG (gN.symm.trans (by simpa using hx)));exact ae ⟨rfl,rfl,_,rfl,ib,ah _ _⟩
       refine an ?_ ?_
       ·intro wD E sD;intro v2 kB;refine aA (M:=M) (A:=RT.po) (B:=RT.int .i64) aP rfl rfl I3 (by decide) na rfl rfl (by decide) (show bL RT.po M wD v2 (d,ps)from kB) (ar _ _) (fun uf fB=>?_);exact ae ⟨rfl,rfl,_,rfl,fB,ah _ _⟩
       refine an ?_ ?_
       ·intro wD E sD;intro v3 lv;refine bK (M:=M) aB rfl rfl (by assumption) (by repeat (first|exact ar _ _|refine aT (bh (by assumption)) ?_)) (fun Xv=>?_);exact ae ⟨rfl,rfl,_,rfl,rfl,ah _ _⟩
       refine an ?_ ?_
       ·intro wD E sD;refine aj rfl rfl ?_;exact ae ⟨rfl,rfl,_,rfl,rfl,ah _ _⟩
       refine an ?_ ?_
       ·intro wD E sD;refine aj rfl rfl ?_;exact ae ⟨rfl,rfl,_,rfl,rfl,ah _ _⟩
       refine an ?_ ?_
       ·intro wD E sD;refine ao (ao ?_);refine bS (M:=M) aC dW rfl rfl rfl (hu.le ((S.aE rJ).aE sD).le) (ar _ _) (by omega) (fun ui ai gN ib=>?_);obtain rfl:(e,qs)=ai:=bY (aG (gN.symm.trans (by simpa using hy)));exact ae ⟨rfl,rfl,_,rfl,ib,ah _ _⟩
       refine an ?_ ?_
       ·intro wD E sD;intro v7 qH;refine aA (M:=M) (A:=RT.po) (B:=RT.int .i64) aP rfl rfl I3 (by decide) na rfl rfl (by decide) (show bL RT.po M wD v7 (e,qs)from qH) (ar _ _) (fun uf fB=>?_);exact ae ⟨rfl,rfl,_,rfl,fB,ah _ _⟩
       refine an ?_ ?_
       ·intro wD E sD;intro v8 tn;refine bK (M:=M) aB rfl rfl (by assumption) (by repeat (first|exact ar _ _|refine aT (bh (by assumption)) ?_)) (fun Xw=>?_);exact ae ⟨rfl,rfl,_,rfl,rfl,ah _ _⟩
       refine an ?_ ?_
       ·intro wD E sD;refine ao (ao (eC rfl rfl rfl ?_));exact ae ⟨rfl,rfl,_,rfl,rfl,ah _ _⟩
       refine an ?_ ?_
       ·intro wD E sD;refine ao (aj rfl rfl ?_);refine ae ⟨rfl,rfl,_,rfl,?_,ah _ _⟩;exact congrArg Value.bool (decide_eq_true Dd)
       refine an ?_ ?_
       ·intro wD E sD;refine ao ?_;exact aw rfl rfl rfl rfl (ae ⟨rfl,rfl,_,rfl,rfl,ah _ _⟩)
       refine an ?_ ?_
       ·intro wD E sD;refine ao (ao ?_);exact aw rfl rfl rfl rfl (ae ⟨rfl,rfl,_,rfl,rfl,ah _ _⟩)
       refine an ?_ ?_
       ·intro wD E sD;refine ao (ao (aR rfl rfl rfl ?_));exact ae ⟨rfl,rfl,_,rfl,rfl,ah _ _⟩
       exact fC
      ·intro T4 zQ;refine ao (ao ?_);intro WZ O4;intro W4 KE;refine ao (ao (ao ?_));intro W0 O5;intro aeV Xx;refine ao (ao (ao (ao (ao (ao (gz rfl (au (ak (al rfl rfl (ae (aW ?_)))))))))));refine a8 rfl rfl ⟨?_,(S.aE rJ).aE zQ⟩;rw[decide_eq_false];rintro rfl;rw[hx]at hy;cases hy;first|exact Dd rfl|exact c7 rfl
     ·apply kA (M:=M) mixed [aV.eq _,aV.eq _,aV.ptr RT.po (d,ps),aV.ptr (RT.int .i64) d,aV.eq (.int .i64 d),aV.eq _,aV.eq _,aV.ptr RT.po (e,qs),aV.ptr (RT.int .i64) e,aV.eq (.int .i64 e),aV.eq _,aV.eq (.bool false),aV.eq _,aV.eq (.bool (decide (¬ps=qs))),aV.eq _]
      ·rfl
      ·refine an ?_ ?_
       ·intro wD E sD;refine aj rfl rfl ?_;exact ae ⟨rfl,rfl,_,rfl,rfl,ah _ _⟩
       refine an ?_ ?_
       ·intro wD E sD;refine aj rfl rfl ?_;exact ae ⟨rfl,rfl,_,rfl,rfl,ah _ _⟩
       refine an ?_ ?_
       ·intro wD E sD;refine ao (ao ?_);refine bS (M:=M) aC dW rfl rfl rfl (hv.le ((S.aE rJ).aE sD).le) (ar _ _) (by omega) (fun ui ai gN ib=>?_);obtain rfl:(d,ps)=ai:=bY (aG (gN.symm.trans (by simpa using hx)));exact ae ⟨rfl,rfl,_,rfl,ib,ah _ _⟩
       refine an ?_ ?_
       ·intro wD E sD;intro v2 kB;refine aA (M:=M) (A:=RT.po) (B:=RT.int .i64) aP rfl rfl I3 (by decide) na rfl rfl (by decide) (show bL RT.po M wD v2 (d,ps)from kB) (ar _ _) (fun uf fB=>?_);exact ae ⟨rfl,rfl,_,rfl,fB,ah _ _⟩
       refine an ?_ ?_
       ·intro wD E sD;intro v3 lv;refine bK (M:=M) aB rfl rfl (by assumption) (by repeat (first|exact ar _ _|refine aT (bh (by assumption)) ?_)) (fun Xv=>?_);exact ae ⟨rfl,rfl,_,rfl,rfl,ah _ _⟩
       refine an ?_ ?_
       ·intro wD E sD;refine aj rfl rfl ?_;exact ae ⟨rfl,rfl,_,rfl,rfl,ah _ _⟩
       refine an ?_ ?_
       ·intro wD E sD;refine aj rfl rfl ?_;exact ae ⟨rfl,rfl,_,rfl,rfl,ah _ _⟩
       refine an ?_ ?_
       ·intro wD E sD;refine ao (ao ?_);refine bS (M:=M) aC dW rfl rfl rfl (hu.le ((S.aE rJ).aE sD).le) (ar _ _) (by omega) (fun ui ai gN ib=>?_);obtain rfl:(e,qs)=ai:=bY (aG (gN.symm.trans (by simpa using hy)));exact ae ⟨rfl,rfl,_,rfl,ib,ah _ _⟩
       refine an ?_ ?_
       ·intro wD E sD;intro v7 qH;refine aA (M:=M) (A:=RT.po) (B:=RT.int .i64) aP rfl rfl I3 (by decide) na rfl rfl (by decide) (show bL RT.po M wD v7 (e,qs)from qH) (ar _ _) (fun uf fB=>?_);exact ae ⟨rfl,rfl,_,rfl,fB,ah _ _⟩
       refine an ?_ ?_
       ·intro wD E sD;intro v8 tn;refine bK (M:=M) aB rfl rfl (by assumption) (by repeat (first|exact ar _ _|refine aT (bh (by assumption)) ?_)) (fun Xw=>?_);exact ae ⟨rfl,rfl,_,rfl,rfl,ah _ _⟩
       refine an ?_ ?_
       ·intro wD E sD;refine ao (ao (eC rfl rfl rfl ?_));exact ae ⟨rfl,rfl,_,rfl,rfl,ah _ _⟩
       refine an ?_ ?_
       ·intro wD E sD;refine ao (aj rfl rfl ?_);refine ae ⟨rfl,rfl,_,rfl,?_,ah _ _⟩;exact congrArg Value.bool (decide_eq_false Dd)
       refine an ?_ ?_
       ·intro wD E sD;refine ao (aq rfl rfl (aj rfl rfl ?_));exact ae ⟨rfl,rfl,_,rfl,rfl,ah _ _⟩
       refine an ?_ ?_
       ·intro wD E sD;refine ao (ao (aq rfl rfl (fP rfl rfl (bO (v':= .bool (decide (¬ps=qs))) (by simp) ?_))));exact ae ⟨rfl,rfl,_,rfl,rfl,ah _ _⟩
       refine an ?_ ?_
       ·intro wD E sD;refine ao (ao (aL rfl rfl rfl ?_));exact ae ⟨rfl,rfl,_,rfl,rfl,ah _ _⟩
       exact fC
      ·intro T4 zQ;refine ao (ao ?_);intro WZ O4;intro W4 KE;refine ao (ao (ao ?_));intro W0 O5;intro aeV Xx;refine ao (ao (ao (ao (ao (ao ?_)))));refine bW rfl (fun c7=>?_) (fun c7=>?_)
       ·refine au (ak (al rfl rfl (ae (aW ?_))));refine a8 rfl rfl ⟨?_,(S.aE rJ).aE zQ⟩;rw[decide_eq_false];rintro rfl;rw[hx]at hy;cases hy;first|exact Dd rfl|exact c7 rfl
       ·refine bg (ak (aj rfl rfl (bQ rfl rfl rfl (by omega) (al rfl rfl (ae ?_)))));refine⟨rfl,k+1,(.cons rfl (.cons rfl (.cons rfl .nil))),?_,?_⟩
        ·refine⟨by omega,?_,(S.aE rJ).aE zQ⟩;obtain⟨_,h1⟩:=aF.1 hx;obtain⟨_,h2⟩:=aF.1 hy;rw[dS (by omega),dS (by omega),heq,h1,h2,cy.1 Dd,cy.1 c7]
        ·show a.length-(k+1)<a.length-k;omega
   ·refine cP (au (ak (al rfl rfl (ae (aW ?_)))));refine a8 rfl rfl ⟨?_,S⟩;rw[decide_eq_true]
    rwa [bm (by omega),bm (by omega)]at heq
theorem EV {M:aU} {w0:World} {v:Value} (hM:Lt M w0):
  Spec Tryz.prog 130 #[v] w0 (fun v' w'=>∃bp,v'= .func (.func 179) [].toArray [.pointer (some ⟨bp,0,none⟩)].toArray∧w'.heap[bp]? =some (.cells v.cells 129 (0,0))∧w0.heap.size≤bp∧Step M w0 M w' aN):=by
 refine bE (args:=[_]) (fn:=Tryz.f130) Tryz.func130 rfl (n:=4) Tryz.ntmps130 (au (ak ?_));refine vr M rfl rfl (fun bp w1 h1 IA hS s1=>?_);refine al rfl rfl (ae (au (ak (jv (xs:=[]) (ys:=[.tmp 1]) rfl rfl rfl (al rfl rfl (ae (aW ?_)))))));exact a8 rfl rfl ⟨bp,rfl,hS,h1,s1.back⟩
theorem De {w0:World} {bp yl:Nat} {v:Value} {l:List Po} {J:Nat→aU→World→Prop} {M:aU} {Jx:World→Prop} (KG:∀i M w,J i M w→w.heap[bp]? =some (.cells #[v] 129 (0,0))∧Lt M w∧bL RT.li M w v (iA l)∧∀w',Step M w M w' aN→J i M w') (jb:dH (-1) l=true) (nY:∀p∈l,p.2.length≤1099511627776) (yZ:(dw (-1) l).length≤1099511627776) (Gz:l.length≤1099511627776) (hy:∀(i:Nat) (M:aU) (w:World) (u:Value),J i M w→i<(l.length+7)/8→((RT.po).sl).V M w ((l.drop (8*i)).take 8) u→wH Tryz.prog yl [u].toArray w (fun r w'=>∃b,r= .bool b∧(b=true→∃M',J (i+1) M' w')∧(b=false→Jx w'))) (h0:J 0 M w0):
  Spec Tryz.prog 179 #[.func (.yield yl) #[] #[],.pointer (some ⟨bp,0,none⟩)] w0 (fun _ w'=>(∃M',J ((l.length+7)/8) M' w')∨Jx w'):=by
 obtain⟨hb0,hM,hp,lg⟩:=KG _ _ _ h0;have LY:(iA l).2.1.length=(l.length+7)/8:=by simp[iA,lM]
 refine bE (args:=[_,_]) (fn:=Tryz.f179) Tryz.func179 rfl (n:=19) Tryz.ntmps179 (au (ak (br cU rfl rfl rfl hb0 rfl (bJ rfl (vK hp) rfl ?_))));refine aA (M:=M) (A:=RT.li) (B:=(RT.bl).sl) dz rfl rfl AI (by decide) (TP) rfl rfl (by decide) (by assumption) (by repeat (first|exact ar _ _|refine aT (bh (by assumption)) ?_)) (fun anl ajr=>?_);refine aY (M:=M) dq rfl rfl rfl rfl rfl (by assumption) (by repeat (first|exact ar _ _|refine aT (bh (by assumption)) ?_)) (fun anm ajs=>?_);refine bF dq rfl (by assumption) rfl (bO (v':= .int .i64 (((l.length+7)/8:Nat):Int)) (by rw[LY]) (aj rfl rfl (ae (bu ?_))));refine de (σ:=Nat) (fun s=>[(0,.func (.yield yl) #[] #[]),(1,.pointer (some ⟨bp,0,none⟩)),(8,.int .i64 (((l.length+7)/8:Nat):Int)),(9,.int .i64 s)]) (fun s w=>(∃M1,J s M1 w)∧s≤(l.length+7)/8) (fun s=>(l.length+7)/8-s) 0 (.cons rfl (.cons rfl (.cons rfl (.cons rfl .nil)))) ?_ ?_
 ·exact⟨⟨_,h0⟩,bM _⟩
 ·rintro k w1 ⟨⟨M1,hJ⟩,hk⟩;refine au (ak (cu rfl rfl rfl (ae (au ?_))));refine bW rfl (fun c1=>?_) (fun c1=>?_)
  ·refine bg (au (bu (au (ak (aj rfl rfl (al rfl rfl (ae (au (ak (aj rfl rfl ?_))))))))));obtain⟨BC,nL,L9,aeW⟩:=KG _ _ _ hJ;refine br cU rfl rfl rfl BC rfl (aj rfl rfl ?_);refine aS rfl rfl R7 (xK (M:=M1) (k:=k) nL L9 jb nY yZ) (fun u w4 h4=>?_);obtain⟨s4,h4⟩:=h4;rw[if_pos (by unfold HR;simp;omega),aK]at h4;refine Rg.yield rfl (vs:=[u]) rfl rfl (hy k M1 _ u (aeW _ s4) (by omega) h4) (fun r4 w5 h5=>?_);obtain⟨b,rfl,Ow,oD⟩:=h5;refine fP rfl rfl (bO (v':= .bool (decide (¬b=true))) (by simp) (ae ?_));refine bW rfl (fun c3=>?_) (fun c3=>?_)
   ·refine aW ?_;exact BJ rfl (.inr (oD (by simpa using c3)))
   ·refine bg (ak (bQ rfl rfl rfl (by omega) (aj rfl rfl (ae ?_))));refine⟨rfl,k+1,(.cons rfl (.cons rfl (.cons rfl (.cons rfl .nil)))),?_,?_⟩
    ·exact⟨Ow (cy.1 c3),by omega⟩
    ·show _-(k+1)<_-k;omega
  ·refine cP ?_;rw[show k=(l.length+7)/8 from by omega]at hJ;change yK Tryz.prog Tryz.f179 (fun _ w'=>(∃M',J ((l.length+7)/8) M' w')∨Jx w') .normal _ [] _;exact l7 rfl (.inl ⟨_,hJ⟩)
end Go.K
namespace Go.K
open Go.Proofs
namespace TKSegH
theorem fX:TI Tryz.prog 107 (.slice none 0 0) 1 24:=by unfold TI;kernel_rfl
theorem aeX:Enters Tryz.prog 130:=enters Tryz.func130 rfl (by decide)
theorem aeY:Enters Tryz.prog 179:=enters Tryz.func179 rfl (by decide)
end TKSegH
open TKSegH
set_option maxRecDepth 10000
structure qL (M:aU) (w0:World) (v:Value) (bo D bp:Nat) (st:Obj) (vo:Value) (xs:List Po) (M1:aU) (w:World):Prop where
 lt:Lt M1 w
 S:Step M w0 M1 w aN
 mo:M1 bo
 md:M1 D
 mr:M1 (D+1)
 o:w.heap[bo]? =some (.cells #[vo] 107 (0,0))
 d:w.heap[D]? =some (.deferred (some []))
 r:w.heap[D+1]? =some st
 p:w.heap[bp]? =some (.cells #[v] 129 (0,0))
 ne:bo<D∧bp<D∧bo≠bp∧w0.heap.size≤bo∧w0.heap.size≤D
 hk:Own RT.po 153 M1 w (D+2) vo xs
section
variable {M M1 M2:aU} {w0 w w':World} {v vo:Value} {bo D bp:Nat} {st:Obj} {xs:List Po}
theorem qL.step (h:qL M w0 v bo D bp st vo xs M1 w) (s:Step M1 w M2 w' aN):qL M w0 v bo D bp st vo xs M2 w':=
 ⟨s.lt h.lt,h.S.aE s,(s.mem _ (h.lt _ h.mo)).2 h.mo,(s.mem _ (h.lt _ h.md)).2 h.md,(s.mem _ (h.lt _ h.mr)).2 h.mr,s.aX h.o,s.aX h.d,s.aX h.r,s.aX h.p,h.ne,h.hk.bC s⟩
theorem qL.mn {st':Obj} (h:qL M w0 v bo D bp st vo xs M1 w):qL M w0 v bo D bp st' vo xs M1 (w.putObj (D+1) st'):=by
 have s:Step M1 w M1 (w.putObj (D+1) st') (fun k=>k=D+1):=ef h.mr;obtain⟨e1,e2,e3,e4,e5⟩:=h.ne;exact⟨s.lt h.lt,h.S.db s (fun k hk=>by subst hk;omega),h.mo,h.md,h.mr,s.b9 h.o (by omega),s.b9 h.d (by omega),vu (av h.r),s.b9 h.p (by omega),h.ne,h.hk.step s (fun k tC hh=>by have:=(h.hk.base k tC).1;omega)⟩
theorem qL.grow {KW:Value} {Pg:List Po} (h:qL M w0 v bo D bp st vo xs M1 w) (s:Step M1 w M2 w' (fun k=>vo.ownBlock=some k)) (hk:Own RT.po 153 M2 w' (D+2) KW Pg):
  (w'.heap[bo]? =some (.cells #[vo] 107 (0,0))∧M2 bo)∧∀{w2:World},Step M2 w' M2 w2 (fun k=>k=bo)→w2.heap[bo]? =some (.cells #[KW] 107 (0,0))→qL M w0 v bo D bp st KW Pg M2 w2:=by
 obtain⟨e1,e2,e3,e4,e5⟩:=h.ne;have hn:∀k,vo.ownBlock=some k→D+2≤k:=fun k hk=>(h.hk.base k hk).1
 have fh:=fun {k:Nat} (hm:M1 k)=>(s.mem k (h.lt k hm)).2 hm
 refine⟨⟨s.b9 h.o (fun hh=>by have:=hn _ hh;omega),fh h.mo⟩,fun {w2} s2 hx=>?_⟩;have S':=h.S.db s (fun k hk=>by have:=hn k hk;omega)
 exact⟨s2.lt (s.lt h.lt),S'.db s2 (fun k hk=>by subst hk;exact e4),fh h.mo,fh h.md,fh h.mr,hx,s2.b9 (s.b9 h.d (fun hh=>by have:=hn _ hh;omega)) (by omega),s2.b9 (s.b9 h.r (fun hh=>by have:=hn _ hh;omega)) (by omega),s2.b9 (s.b9 h.p (fun hh=>by have:=hn _ hh;omega)) (Ne.symm e3),h.ne,
  hk.step s2 (fun k tC hh=>by have:=(hk.base k tC).1;omega)⟩
end
def R8 (M:aU) (w0:World) (l:List Po) (v:Value) (bo D bp:Nat) (st:Obj) (i:Nat) (M1:aU) (w:World):Prop:=
 ∃(vo:Value),qL M w0 v bo D bp st vo (l.take (8*i)) M1 w
theorem Xy {M:aU} {w0 w2 w3:World} {v:Value} {l:List Po} {bo bp:Nat} {st:Obj} (S2:Step M w0 (ins M bo) w2 aN) (s3:Step (ins M bo) w2 (ins M bo) w3 aN) (hM:Lt M w0) (e1:w0.heap.size≤bo) (e2:bo<w2.heap.size) (e3:w2.heap.size≤bp)
  (hO:w2.heap[bo]? =some (.cells #[.slice none 0 0] 107 (0,0))) (hP:w3.heap[bp]? =some (.cells #[v] 129 (0,0))):∃M1,R8 M w0 l v bo w3.heap.size bp st 0 M1 ((w3.alloc (.deferred (some []))).alloc st):=by
 have sA:Step (ins M bo) w3 (ins (ins M bo) w3.heap.size) (w3.alloc (.deferred (some []))) aN:=(dA _ w3 _).own (bw _) (by simp);have sB:Step (ins (ins M bo) w3.heap.size) (w3.alloc (.deferred (some []))) (ins (ins (ins M bo) w3.heap.size) (w3.heap.size+1)) ((w3.alloc (.deferred (some []))).alloc st) aN:=(dA _ _ _).own (by simp) (by simp);have z3:=s3.size;have hp3:=av hP;have S:=((S2.aE s3).aE sA).aE sB;have hD:(w3.alloc (.deferred (some []))).heap[w3.heap.size]? =some (.deferred (some [])):=cO w3 _;have hR:((w3.alloc (.deferred (some []))).alloc st).heap[w3.heap.size+1]? =some st:=by have:=cO (w3.alloc (.deferred (some []))) st;rwa [yH]at this
 have z0:=S2.size;exact⟨_,.slice none 0 0,⟨S.lt hM,S,.inr (.inr (.inl rfl)),.inr (.inl rfl),.inl rfl,sB.aX (sA.aX (s3.aX hO)),sB.aX hD,hR,sB.aX (sA.aX hP),by omega,by rw[Nat.mul_zero,List.take_zero];exact dO _ _ _ _ _⟩⟩
set_option maxHeartbeats 2000000 in
theorem Df {M:aU} {w0:World} {v:Value} {l:List Po} (hM:Lt M w0) (hv:bL RT.li M w0 v (iA l)) (jb:dH (-1) l=true) (nY:∀p∈l,p.2.length≤1099511627776) (yZ:(dw (-1) l).length≤1099511627776) (Gz:l.length≤1099511627776):
  Spec Tryz.prog 79 #[v] w0 (fun v' w'=>((RT.po).sl).V M w' l v'∧Step M w0 M w' aN):=by
 refine nz (args:=[_]) (fn:=Tryz.f79) Tryz.func79 rfl (n:=12) Tryz.ntmps79 (au (ak (al rfl rfl (ae (au (ak ?_))))));refine eu M fX rfl (fun bo w2 Hu Xd hO s2=>?_);refine ae (au (au (ak (aj rfl rfl ?_))));refine aS rfl rfl aeX (EV (M:=ins M bo) (s2.lt hM)) (fun r w3 h3=>?_);obtain⟨bp,rfl,hP,hbp,s3⟩:=h3;rw[show v.cells= #[v]from by obtain⟨q,rfl⟩:=vK hv;rfl]at hP;refine ae (bu ?_);refine T.range (gf:=179) (lb:=[.pointer (some ⟨bp,0,none⟩)].toArray) rfl aeY (fun rec mZ=>?_);obtain⟨D,hD⟩:∃D,D=w3.heap.size:=⟨_,rfl⟩;rw[←hD]at mZ ⊢
 obtain⟨Ms,h0⟩:∃Ms,R8 M w0 l v bo D bp (.loop (rec .ready none)) 0 Ms ((w3.alloc (.deferred (some []))).alloc (.loop (rec .ready none))):=by
  rw[hD]at mZ ⊢;exact Xy s2 s3 hM Hu Xd hbp hO hP
 refine Spec.mono (De (J:=R8 M w0 l v bo D bp (.loop (rec .ready none))) (Jx:=fun _=>False) (fun i M1 w ⟨vo,h⟩=>⟨h.p,h.lt,hv.le (by decide) h.S.le,fun w' s=>⟨vo,h.step s⟩⟩) jb nY yZ Gz (fun i M1 wr u hJ hi hu=>?_) h0) (fun _ w4 h4=>?_)
 ·obtain⟨vo,h⟩:=hJ;refine lT (ps:=[7]) (vs:=[u]) mZ h.r rfl (by decide) (ak (al rfl rfl (ae ?_)));refine⟨rfl,h.r,?_⟩;have sR:Step M1 wr M1 (wr.putObj (D+1) (.loop (rec .busy none))) (fun k=>k=D+1):=ef h.mr;have eW:=hu.le sR.le;have h1:=h.mn (st':= .loop (rec .busy none));generalize wr.putObj (D+1) _=wB at h1 eW ⊢;refine bu (ak (br aC rfl rfl rfl h1.o rfl (aj rfl rfl ?_)));refine cz (M:=M1) (base:=D+2) aC dW rfl rfl rfl rfl h1.hk eW (ar _ _) (by simp;omega) (by simp;omega) (by have:=av h1.r;omega) (fun v3 M3 w4 ud s4=>?_);obtain⟨⟨RE,hm3⟩,HP⟩:=h1.grow s4 ud;refine cw (M:=M3) fX rfl rfl RE rfl (by obtain⟨_,_,he,_⟩:=ud.isSlice;rw[he];rfl) hm3 (fun w5 hX5 s5=>?_);have h5:=(HP s5 hX5).mn (st':= .loop (rec .ready none));have h6:=HP s5 hX5;refine ae ?_;refine⟨h6.r,true,rfl,fun _=>⟨M3,v3,?_⟩,fun h=>by cases h⟩;rw[show 8*(i+1)=8*i+8 from by omega,List.take_add];exact h5
 ·obtain⟨Mz,vo,h⟩:=h4.resolve_right (fun h=>h);left;rw[bm (by omega)]at h;have h5:=h.mn (st':= .loop (rec .exhausted none));refine⟨h.r,?_⟩;generalize w4.putObj (D+1) _=wE at h5 ⊢;refine au (ak (br aC rfl rfl rfl h5.o rfl (al rfl rfl (ae (aW ?_)))));obtain⟨q1,q2,q3,q4,q5⟩:=h5.ne;have sZ:Step Mz wE Mz (wE.putObj D (.deferred none)) (fun k=>k=D):=ef h5.md;have SZ:=h5.S.db sZ (fun k hk=>by subst hk;omega);exact AA rfl rfl h5.d ⟨fQ hM SZ ((h5.hk.step sZ (fun k hk hh=>by have:=(h5.hk.base k hk).1;omega)).lB (by omega)) (by omega),SZ.back⟩
end Go.K
namespace Go.K
open Go.Proofs
namespace TKSegA
theorem Xz:Enters Tryz.prog 120:=enters Tryz.func120 rfl (by decide)
end TKSegA
open TKSegA
set_option maxRecDepth 10000
def EW (xs:List Int) (i:Int):Int:=if 0≤i∧i<xs.length then xs.getD i.toNat 0 else-1
theorem Gf {M:aU} {xs:List Int} {v0:Value} {i:Int} (w0:World) (hv:((RT.int .i64).sl).V M w0 xs v0):
  Spec Tryz.prog 120 #[v0,.int .i64 i] w0 (fun v w=>v= .int .i64 (EW xs i)∧w=w0):=by
 have hlen:=dr hv;refine bE (args:=[_,_]) (fn:=Tryz.f120) Tryz.func120 rfl (n:=17) Tryz.ntmps120 (au (ak (al rfl rfl (ae (au (au (ak (aj rfl rfl (cu rfl rfl rfl (aj rfl rfl ?_))))))))));refine aZ (g:=7) rfl (fun iR=>?_) (fun iR=>?_)
 ·refine aw rfl rfl rfl rfl (aw rfl rfl rfl rfl (aw rfl rfl rfl rfl (aw rfl rfl rfl rfl (aR rfl rfl rfl (ae (gz rfl (au (ak (al rfl rfl (ae (aW ?_)))))))))));have e:EW xs i= -1:=by unfold EW;rw[if_neg (by omega)]
  exact a8 rfl rfl ⟨by rw[e],rfl⟩
 ·refine aq rfl rfl (aj rfl rfl (aq rfl rfl (aj rfl rfl (aq rfl rfl (bF ay rfl hv rfl (aq rfl rfl (dI rfl rfl rfl (aL rfl rfl rfl (ae ?_)))))))));refine bW rfl (fun c1=>?_) (fun c1=>?_)
  ·refine au (ak (al rfl rfl (ae (aW ?_))));have e:EW xs i= -1:=by unfold EW;rw[if_neg (by omega)]
   exact a8 rfl rfl ⟨by rw[e],rfl⟩
  ·refine bg (au (ak (aj rfl rfl (aj rfl rfl ?_))));refine bS (M:=M) ay I3 rfl rfl rfl hv (ar _ _) (by omega) (fun u x hg hu=>?_);refine bK (M:=M) aB rfl rfl hu (ar _ _) (fun jN=>?_);refine al rfl rfl (ae (aW ?_));have e:EW xs i=x:=by unfold EW;rw[if_pos (by omega),dN,hg];rfl
   exact a8 rfl rfl ⟨by rw[e],rfl⟩
theorem zW {M:aU} {s:Se} {v0:Value} (w0:World) (hs:bL RT.se M w0 v0 s):
  Spec Tryz.prog 67 #[v0] w0 (fun v w=>v= .int .i64 (s.1.length:Int)∧w=w0):=by
 refine bE (args:=[_]) (fn:=Tryz.f67) Tryz.func67 rfl (n:=8) Tryz.ntmps67 (au (ak (al rfl rfl (ae (au (ak (aj rfl rfl (bJ rfl hs.fA rfl ?_))))))));refine aA (M:=M) (A:=RT.se) (B:=(RT.int .i64).sl) eH rfl rfl gT (by decide) se0 rfl rfl (by decide) hs (ar _ _) (fun CP mQ=>?_);refine aY (M:=M) ay rfl rfl rfl rfl rfl mQ (ar _ _) (fun Dg mU=>?_);replace mU:((RT.int .i64).sl).V M _ s.1 Dg:=mU;refine bF ay rfl mU rfl (al rfl rfl (ae (aW ?_)));exact a8 rfl rfl ⟨rfl,rfl⟩
theorem Dh {M:aU} {s:Se} {i:Int} {v0:Value} (w0:World) (hs:bL RT.se M w0 v0 s):
  Spec Tryz.prog 69 #[v0,.int .i64 i] w0 (fun v w=>v= .int .i64 (EW s.1 i)∧w=w0):=by
 refine bE (args:=[_,_]) (fn:=Tryz.f69) Tryz.func69 rfl (n:=11) Tryz.ntmps69 (au (ak (al rfl rfl (ae (au (ak (aj rfl rfl (bJ rfl hs.fA rfl ?_))))))));refine aA (M:=M) (A:=RT.se) (B:=(RT.int .i64).sl) eH rfl rfl gT (by decide) se0 rfl rfl (by decide) hs (ar _ _) (fun CP mQ=>?_);refine aY (M:=M) ay rfl rfl rfl rfl rfl mQ (ar _ _) (fun Dg mU=>?_);replace mU:((RT.int .i64).sl).V M _ s.1 Dg:=mU;refine aj rfl rfl ?_;refine aS rfl rfl Xz (Gf _ mU) (fun r wc hc=>?_);obtain⟨rfl,rfl⟩:=hc;refine al rfl rfl (ae (aW ?_));exact a8 rfl rfl ⟨rfl,rfl⟩
theorem zX {M:aU} {s:Se} {i:Int} {v0:Value} (w0:World) (hs:bL RT.se M w0 v0 s):
  Spec Tryz.prog 70 #[v0,.int .i64 i] w0 (fun v w=>v= .int .i64 (EW s.2.1 i)∧w=w0):=by
 refine bE (args:=[_,_]) (fn:=Tryz.f70) Tryz.func70 rfl (n:=11) Tryz.ntmps70 (au (ak (al rfl rfl (ae (au (ak (aj rfl rfl (bJ rfl hs.fA rfl ?_))))))));refine aA (M:=M) (A:=RT.se) (B:=(RT.int .i64).sl) eH rfl rfl gT (by decide) se1 rfl rfl (by decide) hs (ar _ _) (fun CP mQ=>?_);refine aY (M:=M) ay rfl rfl rfl rfl rfl mQ (ar _ _) (fun Dg mU=>?_);replace mU:((RT.int .i64).sl).V M _ s.2.1 Dg:=mU;refine aj rfl rfl ?_;refine aS rfl rfl Xz (Gf _ mU) (fun r wc hc=>?_);obtain⟨rfl,rfl⟩:=hc;refine al rfl rfl (ae (aW ?_));exact a8 rfl rfl ⟨rfl,rfl⟩
theorem xU {α:Type} {p:α→Bool}:∀{xs:List α} {i:Nat},i≤xs.length→(∀(k:Nat) x,k<i→xs[k]? =some x→p x=true)→(∀(k:Nat) x,i≤k→xs[k]? =some x→p x=false)→xs.countP p=i
 |[],i,hi,_,_=>by simp at hi;simp[hi]
 |x::xs,0,_,_,h2=>by
  rw[List.countP_eq_zero.2];intro a ha;obtain⟨k,hk⟩:=cg.1 ha;simp[h2 k a (bM _) hk]
 |x::xs,i+1,hi,h1,h2=>by
  rw[List.countP_cons_of_pos (h1 0 x (by omega) rfl),xU (by simpa using hi) (fun k y hk hy=>h1 (k+1) y (by omega) (by simpa using hy)) (fun k y hk hy=>h2 (k+1) y (by omega) (by simpa using hy))]
end Go.K
namespace Go.K
open Go.Proofs
namespace TKSegB
theorem xM:TI Tryz.prog 188 (.slice none 0 0) 1 24:=by unfold TI;kernel_rfl
theorem aeZ:Enters Tryz.prog 123:=enters Tryz.func123 rfl (by decide)
theorem ae0:Enters Tryz.prog 169:=enters Tryz.func169 rfl (by decide)
theorem ae1:Enters Tryz.prog 170:=enters Tryz.func170 rfl (by decide)
end TKSegB
open TKSegB
set_option maxRecDepth 10000
def HZ (ns:List (List UInt8)) (k:List UInt8):Nat:=ns.countP fun x=>decide (x<k)
theorem XA {ns:List (List UInt8)} (h:vR ns) {i j:Nat} {x y:List UInt8} (jc:i≤j) (hx:ns[i]? =some x) (hy:ns[j]? =some y): ¬y<x:=by
 rcases pq jc with rfl|h1
 ·rw[hx]at hy;cases hy;exact iW x
 ·exact jm (im h hx hy h1)
theorem Bh {ns:List (List UInt8)} (h:vR ns) {k:List UInt8}:(k∈ns→ns[HZ ns k]? =some k)∧∀x,ns[HZ ns k]? =some x→¬x<k:=by
 have key:∀{ns:List (List UInt8)},vR ns→(k∈ns→ns[HZ ns k]? =some k)∧∀x,ns[HZ ns k]? =some x→¬x<k:=by
  intro ns
  induction ns with
  |nil=>exact fun _=>⟨(fun h=>by cases h),fun x h=>by simp at h⟩
  |cons y ns ih=>
   intro h;have h':=fV.1 h;by_cases hy:y<k
   ·have e:HZ (y::ns) k=HZ ns k+1:=by unfold HZ;rw[List.countP_cons_of_pos (by simpa using hy)]
    rw[e];simp only[List.getElem?_cons_succ];refine⟨fun hk=>(ih h'.2).1 ?_,(ih h'.2).2⟩;rcases ew.1 hk with rfl|hk
    ·exact absurd hy (iW _)
    ·exact hk
   ·have lK:∀x∈ns,¬x<k:=fun x hx ek=>hy (j8 (h'.1 x hx) ek)
    have e:HZ (y::ns) k=0:=by
     unfold HZ;rw[List.countP_eq_zero];intro a ha;rcases ew.1 ha with rfl|ha
     ·simpa using hy
     ·simpa using lK a ha
    rw[e];refine⟨fun hk=>?_,fun x hx=>by simp at hx;subst hx;exact hy⟩;rcases ew.1 hk with rfl|hk
    ·rfl
    ·exact absurd (h'.1 k hk) hy
 exact key h
def geN (ns:List (List UInt8)) (k:List UInt8) (i:Nat):Bool:=match ns[i]? with|some x=> !decide (x<k)|none=>true
theorem xV {ns:List (List UInt8)} {k x:List UInt8} {i:Nat} (h:ns[i]? =some x):geN ns k i= !decide (x<k):=by unfold geN;rw[h]
theorem KX {ns:List (List UInt8)} (h:vR ns) {k:List UInt8}:ns[HZ ns k]? =some k↔k∈ns:=⟨fun h=>aQ h,(Bh h).1⟩
theorem EX {M:aU} {n:Nat} {g:FuncId} {cap:List Value} {good:Nat→Bool} (w0:World) (hg:Enters Tryz.prog g) (Ph:∀i j,i≤j→j<n→good i=true→good j=true) (hn:n≤4611686018427387904) (ht:∀(i:Nat) w,i<n→Step M w0 M w aN→Spec Tryz.prog g ([.int .i64 (i:Int)]++cap:List Value).toArray w (fun v w'=>v= .bool (good i)∧Step M w M w' aN)):
  Spec Tryz.prog 169 #[.int .i64 (n:Int),.func (.func g) #[] cap.toArray] w0 (fun v w=>∃m:Nat,v= .int .i64 (m:Int)∧m≤n∧(∀i,i<m→good i=false)∧(∀i,m≤i→i<n→good i=true)∧Step M w0 M w aN):=by
 refine bE (args:=[_,_]) (fn:=Tryz.f169) Tryz.func169 rfl (n:=23) Tryz.ntmps169 (au (ak (al rfl rfl (ae (au (ak (al rfl rfl (ae (au (bu ?_))))))))));refine de (σ:=Nat×Nat) (fun q=>[(0,.int .i64 (q.2:Int)),(1,.func (.func g) #[] cap.toArray),(5,.int .i64 (q.1:Int))]) (fun q w=>Step M w0 M w aN∧q.1≤q.2∧q.2≤n∧(∀i,i<q.1→good i=false)∧(∀i,q.2≤i→i<n→good i=true)) (fun q=>q.2-q.1) (0,n) (.cons rfl (.cons rfl (.cons rfl .nil))) ?_ ?_
 ·exact⟨ah _ _,bM _,bw _,fun i h=>absurd h (j5 _),fun i h h'=>by omega⟩
 ·rintro⟨i,j⟩ w ⟨S,jc,hj,h1,h2⟩;dsimp only at jc hj h1 h2 ⊢;refine au (au (ak (aj rfl rfl (aj rfl rfl (cu rfl rfl rfl (ae ?_))))));refine bW rfl (fun c2=>?_) (fun c2=>?_)
  ·refine bg (bu (au (ak (aj rfl rfl (aj rfl rfl (aj rfl rfl (eJ rfl rfl rfl (by omega) (Rg.BL rfl rfl rfl (by omega) (bQ rfl rfl rfl (by omega) (bO (v':= .int .i64 ((i+(j-i)/2:Nat):Int)) (congrArg _ (by omega)) (al rfl rfl ?_)))))))))));refine ae (au (ak (aj rfl rfl (aj rfl rfl ?_))));refine Rg.rM (first:=[]) (captured:=cap) (xs:=[.tmp 17]) rfl rfl rfl hg (vs:=[.int .i64 ((i+(j-i)/2:Nat):Int)]) (ht (i+(j-i)/2) _ (by omega) S) (fun r4 w4 hc=>?_);obtain⟨rfl,s4⟩:=hc;refine bO (v':= .bool (decide (good (i+(j-i)/2)=true))) (by simp) ?_;replace S:=S.aE s4;refine ae ?_;refine bW rfl (fun c4=>?_) (fun c4=>?_)
   ·refine ak (aj rfl rfl (al rfl rfl (ae ?_)));refine⟨rfl,(i,i+(j-i)/2),(.cons rfl (.cons rfl (.cons rfl .nil))),?_,?_⟩
    ·exact⟨S,by dsimp only;omega,by dsimp only;omega,h1,fun k hk T1=>Ph _ _ hk T1 c4⟩
    ·dsimp only;omega
   ·refine ak (aj rfl rfl (bQ rfl rfl rfl (by omega) (al rfl rfl (ae ?_))));refine⟨rfl,(i+(j-i)/2+1,j),(.cons rfl (.cons rfl (.cons rfl .nil))),?_,?_⟩
    ·exact⟨S,by dsimp only;omega,hj,fun k hk=>by
      cases h:good k with
      |false=>rfl
      |true=>exact absurd (Ph k (i+(j-i)/2) (by dsimp only at hk;omega) (by omega) h) c4,h2⟩
    ·dsimp only;omega
  ·refine cP (au (ak (aj rfl rfl (al rfl rfl (ae (aW ?_))))));have e:i=j:=by omega
   subst e;exact a8 rfl rfl ⟨i,rfl,hj,h1,h2,S⟩
theorem Dj {M:aU} {d:Di} {v0:Value} {i bd bk:Nat} {k x:List UInt8} (w0:World) (hd:bL RT.di M w0 v0 d) (gd:w0.heap[bd]? =some (.cells #[v0] 123 (0,0))) (gk:w0.heap[bk]? =some (.cells #[sv k] 9 (0,0))) (hx:d.1[i]? =some x):
  Spec Tryz.prog 170 #[.int .i64 (i:Int),.pointer (some ⟨bd,0,none⟩),.pointer (some ⟨bk,0,none⟩)] w0 (fun v w=>v= .bool (!decide (x<k))∧Step M w0 M w aN):=by
 have hM:True:=trivial;refine bE (args:=[_,_,_]) (fn:=Tryz.f170) Tryz.func170 rfl (n:=14) Tryz.ntmps170 (au (ak (al rfl rfl (ae (au ?_)))));apply kz mixed rfl rfl;intro BE MV;have lr:=MV M;replace gd:=lr.aX gd;replace gk:=lr.aX gk;replace hd:=hd.le (by decide) lr.le;refine br eI rfl rfl rfl gd rfl (bO (v':=v0) rfl ?_);refine ae ⟨rfl,rfl,rfl,?_⟩;refine bJ rfl hd.fA rfl ?_;refine ae ⟨rfl,rfl,rfl,?_⟩;refine aA (M:=M) (A:=RT.di) (B:=RT.str.sl) jZ rfl rfl ph (by decide) T0 rfl rfl (by decide) hd (ar _ _) (fun pn Ua=>?_);refine ae ⟨rfl,rfl,rfl,?_⟩;refine aY (M:=M) aJ rfl rfl rfl rfl rfl Ua (ar _ _) (fun vn tj=>?_);replace tj:(RT.str.sl).V M _ d.1 vn:=tj;refine ae ⟨rfl,rfl,rfl,?_⟩;refine aj rfl rfl ?_;refine ae ⟨rfl,rfl,rfl,?_⟩;have nq:=(aF.1 hx).1;refine bS (M:=M) aJ I9 rfl rfl rfl tj (ar _ _) (by omega) (fun u a hg hu=>?_);obtain rfl:x=a:=aG (hx.symm.trans (by simpa using hg));refine ae ⟨rfl,rfl,rfl,?_⟩;refine aY (M:=M) aM rfl rfl rfl rfl rfl hu (ar _ _) (fun vx tS=>?_);obtain rfl:=dQ tS;refine ae ⟨rfl,rfl,rfl,?_⟩;refine br aM rfl rfl rfl gk rfl (bO (v':=sv k) rfl ?_);refine ae ⟨rfl,rfl,rfl,?_⟩;refine Rg.JP rfl rfl rfl ?_;refine ae ⟨rfl,rfl,rfl,?_⟩;refine al rfl rfl ?_;refine ae ⟨rfl,rfl,rfl,?_⟩;refine dv (aW ?_);exact a8 rfl rfl ⟨by rw[decide_not],lr⟩
theorem EY {M:aU} {d:Di} {v0:Value} {k:List UInt8} (w0:World) (hM:Lt M w0) (hd:bL RT.di M w0 v0 d) (nP:vR d.1):
  Spec Tryz.prog 123 #[v0,sv k] w0 (fun v w=>v= .tuple #[.int .i64 (HZ d.1 k:Int),.bool (decide (k∈d.1))]∧Step M w0 M w aN):=by
 refine bE (args:=[_,_]) (fn:=Tryz.f123) Tryz.func123 rfl (n:=33) Tryz.ntmps123 ?_;have S:Step M w0 M w0 aN:=(ah _ _).cD (fun _ h=>h.elim) (fun _ h=>h.elim);refine au (ak ?_);refine vr M rfl rfl (fun nh mH XB XC mz sK=>?_);replace mz:mH.heap[nh]? =some (.cells #[v0] 123 (0,0)):=by rw[qn hd]at mz;exact mz
 obtain⟨gD,xW⟩:∃M',M'=ins M nh:=⟨_,rfl⟩;rw[←xW]at sK;have ni:gD nh:=by rw[xW];exact .inl rfl
 replace hd:=hd.le (by decide) sK.le;replace hM:=sK.lt hM;have:=S.size;replace S:=S.aE sK;refine vr gD rfl rfl (fun iS nd G8 G9 eN ja=>?_);obtain⟨dR,jj⟩:∃M',M'=ins gD iS:=⟨_,rfl⟩;rw[←jj]at ja;have ed:dR iS:=by rw[jj];exact .inl rfl
 change nd.heap[iS]? =some (.cells #[sv k] _ _)at eN;have:=av mz;replace ni:=(ja.mem _ this).2 ni;replace mz:=ja.aX mz;replace hd:=hd.le (by decide) ja.le;replace hM:=ja.lt hM;have:=S.size;replace S:=S.aE ja;refine al rfl rfl (al rfl rfl (ae (au (ak (br eI rfl rfl rfl mz rfl (bO (v':=v0) rfl (bJ rfl hd.fA rfl ?_)))))));refine aA (M:=dR) (A:=RT.di) (B:=RT.str.sl) jZ rfl rfl ph (by decide) T0 rfl rfl (by decide) hd (ar _ _) (fun pn Ua=>?_);refine aY (M:=dR) aJ rfl rfl rfl rfl rfl Ua (ar _ _) (fun vn tj=>?_);replace tj:(RT.str.sl).V dR _ d.1 vn:=tj;have TT:=dr tj;refine bF aJ rfl tj rfl (jv (xs:=[]) (ys:=[.tmp 2,.tmp 3]) rfl rfl rfl ?_)
 refine aS rfl rfl ae0 (EX (M:=dR) (n:=d.1.length) (cap:=[.pointer (some ⟨nh,0,none⟩),.pointer (some ⟨iS,0,none⟩)]) (good:=geN d.1 k) _ ae1 (fun i j jc hj h=>by
  have hi:=aI (show i<d.1.length by omega);have uB:=aI hj;rw[xV hi]at h;rw[xV uB];simp only[qV,decide_eq_false_iff_not]at h ⊢;intro ek;rcases lP d.1[i] d.1[j]with h1|h1|h1
  ·exact h (j8 h1 ek)
  ·rw[h1]at h;exact h ek
  ·exact XA nP jc hi uB h1) (by omega) (fun i w hi s=>by
  have hx:=aI hi;rw[xV hx];exact Dj w (hd.le (by decide) s.le) (s.aX mz) (s.aX eN) hx)) (fun r1 w1 hc=>?_)
 obtain⟨m,rfl,hm,GP,DY,s1⟩:=hc;have em:HZ d.1 k=m:=xU hm (fun i x hi hx=>by have:=GP i hi;rw[xV hx]at this;simpa using this) (fun i x hi hx=>by have:=DY i hi (aF.1 hx).1;rw[xV hx]at this;simpa using this);have:=av mz;replace ni:=(s1.mem _ this).2 ni;replace mz:=s1.aX mz;have:=av eN;replace ed:=(s1.mem _ this).2 ed;replace eN:=s1.aX eN;replace hd:=hd.le (by decide) s1.le;replace hM:=s1.lt hM;have:=S.size;replace S:=S.aE s1;refine al rfl rfl (ae (au ?_));apply kz mixed rfl rfl;intro wD2 sA2;have H0:=sA2 dR;have:=av mz;replace ni:=(H0.mem _ this).2 ni;replace mz:=H0.aX mz;have:=av eN;replace ed:=(H0.mem _ this).2 ed;replace eN:=H0.aX eN;replace hd:=hd.le (by decide) H0.le;replace hM:=H0.lt hM;have:=S.size;replace S:=S.aE H0;refine aj rfl rfl ?_;refine ae ⟨rfl,rfl,rfl,?_⟩;refine aj rfl rfl ?_;refine ae ⟨rfl,rfl,rfl,?_⟩;refine br eI rfl rfl rfl mz rfl (bO (v':=v0) rfl ?_);refine ae ⟨rfl,rfl,rfl,?_⟩;refine bJ rfl hd.fA rfl ?_;refine ae ⟨rfl,rfl,rfl,?_⟩;refine aA (M:=dR) (A:=RT.di) (B:=RT.str.sl) jZ rfl rfl ph (by decide) T0 rfl rfl (by decide) hd (ar _ _) (fun pn2 ae5=>?_);refine ae ⟨rfl,rfl,rfl,?_⟩;refine aY (M:=dR) aJ rfl rfl rfl rfl rfl ae5 (ar _ _) (fun vn2 R9=>?_);replace R9:(RT.str.sl).V dR _ d.1 vn2:=R9;refine ae ⟨rfl,rfl,rfl,?_⟩;refine bF aJ rfl R9 rfl ?_;refine ae ⟨rfl,rfl,rfl,?_⟩;refine cu rfl rfl rfl ?_;refine ae ⟨rfl,rfl,rfl,?_⟩;refine aj rfl rfl ?_;refine ae ⟨rfl,rfl,rfl,?_⟩;refine aZ (g:=22) rfl (fun NR=>?_) (fun NR=>?_)
 ·refine aq rfl rfl (br eI rfl rfl rfl mz rfl (bO (v':=v0) rfl ?_));refine ae ⟨rfl,rfl,rfl,?_⟩;refine aq rfl rfl (bJ rfl hd.fA rfl ?_);refine ae ⟨rfl,rfl,rfl,?_⟩;refine aq rfl rfl ?_;refine aA (M:=dR) (A:=RT.di) (B:=RT.str.sl) jZ rfl rfl ph (by decide) T0 rfl rfl (by decide) hd (ar _ _) (fun pn3 ae6=>?_);refine ae ⟨rfl,rfl,rfl,?_⟩;refine aq rfl rfl ?_;refine aY (M:=dR) aJ rfl rfl rfl rfl rfl ae6 (ar _ _) (fun vn3 Sa=>?_);replace Sa:(RT.str.sl).V dR _ d.1 vn3:=Sa;refine ae ⟨rfl,rfl,rfl,?_⟩;refine aq rfl rfl (aj rfl rfl ?_);refine ae ⟨rfl,rfl,rfl,?_⟩;refine aq rfl rfl ?_;refine bS (M:=dR) aJ I9 rfl rfl rfl Sa (ar _ _) (by omega) (fun u2 x hg2 kg=>?_);rw[aK]at hg2;refine ae ⟨rfl,rfl,rfl,?_⟩;refine aq rfl rfl ?_;refine aY (M:=dR) aM rfl rfl rfl rfl rfl kg (ar _ _) (fun vx tS=>?_);obtain rfl:=dQ tS;refine ae ⟨rfl,rfl,rfl,?_⟩;refine aq rfl rfl (br aM rfl rfl rfl eN rfl (bO (v':=sv k) rfl ?_));refine ae ⟨rfl,rfl,rfl,?_⟩;refine aq rfl rfl (Rg.rL rfl rfl rfl ?_);refine ae ⟨rfl,rfl,rfl,?_⟩;refine aR rfl rfl rfl ?_;refine ae ⟨rfl,rfl,rfl,?_⟩;refine al rfl rfl ?_;refine ae ⟨rfl,rfl,rfl,?_⟩;refine al rfl rfl ?_;refine ae ⟨rfl,rfl,rfl,?_⟩;refine dv (aW ?_);rw[←em]at*
  first
  |(have e:decide (x=k)=decide (k∈d.1):=decide_eq_decide.2 (by rw[←KX nP,hg2];simp)
    exact fw rfl rfl rfl ⟨by rw[e],S.back⟩)
  |(have e:k∉d.1:=fun h=>by have:=(Bh nP).1 h;have:=(aF.1 this).1;omega
    exact fw rfl rfl rfl ⟨by rw[decide_eq_false e],S.back⟩)
 ·refine aw rfl rfl rfl rfl ?_;refine ae ⟨rfl,rfl,rfl,?_⟩;refine aw rfl rfl rfl rfl ?_;refine ae ⟨rfl,rfl,rfl,?_⟩;refine aw rfl rfl rfl rfl ?_;refine ae ⟨rfl,rfl,rfl,?_⟩;refine aw rfl rfl rfl rfl ?_;refine ae ⟨rfl,rfl,rfl,?_⟩;refine aw rfl rfl rfl rfl ?_;refine ae ⟨rfl,rfl,rfl,?_⟩;refine aw rfl rfl rfl rfl ?_;refine ae ⟨rfl,rfl,rfl,?_⟩;refine aw rfl rfl rfl rfl ?_;refine ae ⟨rfl,rfl,rfl,?_⟩;refine aw rfl rfl rfl rfl ?_;refine ae ⟨rfl,rfl,rfl,?_⟩;refine aw rfl rfl rfl rfl ?_;refine ae ⟨rfl,rfl,rfl,?_⟩;refine aL rfl rfl rfl ?_;refine ae ⟨rfl,rfl,rfl,?_⟩;refine al rfl rfl ?_;refine ae ⟨rfl,rfl,rfl,?_⟩;refine al rfl rfl ?_;refine ae ⟨rfl,rfl,rfl,?_⟩;refine dv (aW ?_);rw[←em]at*
  first
  |(have e:decide (x=k)=decide (k∈d.1):=decide_eq_decide.2 (by rw[←KX nP,hg2];simp)
    exact fw rfl rfl rfl ⟨by rw[e],S.back⟩)
  |(have e:k∉d.1:=fun h=>by have:=(Bh nP).1 h;have:=(aF.1 this).1;omega
    exact fw rfl rfl rfl ⟨by rw[decide_eq_false e],S.back⟩)
theorem find_spec {M:aU} {d:Di} {v0:Value} {k:List UInt8} (w0:World) (hM:Lt M w0) (hd:bL RT.di M w0 v0 d) (nP:vR d.1) (hl:d.1.length=d.2.length):
  Spec Tryz.prog 73 #[v0,sv k] w0 (fun v w=>Step M w0 M w aN∧((∃(j:Nat) (p:Value) (t:Li),v= .tuple #[p,.bool true]∧d.1[j]? =some k∧d.2[j]? =some t∧bL RT.li M w p t)∨(v= .tuple #[.pointer none,.bool false]∧k∉d.1))):=by
 refine bE (args:=[_,_]) (fn:=Tryz.f73) Tryz.func73 rfl (n:=25) Tryz.ntmps73 ?_;have S:Step M w0 M w0 aN:=(ah _ _).cD (fun _ h=>h.elim) (fun _ h=>h.elim);refine au (ak (al rfl rfl (al rfl rfl (ae (au (ak (aj rfl rfl (aj rfl rfl ?_))))))));refine aS rfl rfl aeZ (EY _ hM hd nP) (fun r1 w1 hc=>?_);obtain⟨rfl,s1⟩:=hc;replace hd:=hd.le (by decide) s1.le;replace hM:=s1.lt hM;have:=S.size;replace S:=S.aE s1;refine aj rfl rfl (b5 rfl rfl rfl (b5 rfl rfl rfl (al rfl rfl (al rfl rfl (ae (au (au (ak (aj rfl rfl (fP rfl rfl (bO (v':= .bool (decide (k∉d.1))) (by simp) ?_)))))))))));refine ae ?_;refine bW rfl (fun c2=>?_) (fun c2=>?_)
 ·refine au (ak (al rfl rfl (ae (au (ak (aj rfl rfl (al rfl rfl (al rfl rfl (ae (aW ?_))))))))));exact fw rfl rfl rfl ⟨S,.inr ⟨rfl,c2⟩⟩
 ·refine bg (au (ak (aj rfl rfl (bJ rfl hd.fA rfl ?_))));refine aA (M:=M) (A:=RT.di) (B:=((RT.li).ptr).sl) jZ rfl rfl xM (by decide) di1 rfl rfl (by decide) hd (ar _ _) (fun pt Ur=>?_);refine aY (M:=M) dp rfl rfl rfl rfl rfl Ur (ar _ _) (fun vt KY=>?_);replace KY:(((RT.li).ptr).sl).V M _ d.2 vt:=KY;refine aj rfl rfl ?_;have hk:=(Bh nP).1 (cy.1 c2);have HQ:=(aF.1 hk).1;refine bS (M:=M) dp oZ rfl rfl rfl KY (ar _ _) (by omega) (fun u5 t GZ gV=>?_);rw[aK]at GZ;refine aY (M:=M) cU rfl rfl rfl rfl rfl gV (ar _ _) (fun vp XD=>?_);have ae8:=pW.1 XD;refine al rfl rfl (al rfl rfl (ae (aW ?_)));exact fw rfl rfl rfl ⟨S,.inl ⟨_,_,t,rfl,hk,GZ,ae8⟩⟩
end Go.K
namespace Go.K
open Go.Proofs
namespace TKSegC
theorem xM:TI Tryz.prog 188 (.slice none 0 0) 1 24:=by unfold TI;kernel_rfl
end TKSegC
open TKSegC
set_option maxRecDepth 10000
theorem rF {M:aU} {d:Di} {vd:Value} {bi bd yl:Nat} {wv:World} {J:Nat→World→Prop} {Jx:World→Prop} (w0:World) (hd:bL RT.di M wv vd d) (hl:d.1.length=d.2.length) (lg:∀i w w',J i w→Step aN w aN w' aN→J i w') (KG:∀i w,J i w→w.heap[bi]? =some (.cells #[.int .i64 0] 3 (0,0))∧w.heap[bd]? =some (.cells #[vd] 123 (0,0))∧Le M wv M w) (hy:∀(i:Nat) (w:World) x t vt,J i w→d.1[i]? =some x→d.2[i]? =some t→bL RT.li M w vt t→wH Tryz.prog yl [sv x,vt].toArray w (fun r w'=>∃b,r= .bool b∧(b=true→J (i+1) w')∧(b=false→Jx w'))) (h0:J 0 w0):
  Spec Tryz.prog 129 #[.func (.yield yl) #[] #[],.pointer (some ⟨bi,0,none⟩),.pointer (some ⟨bd,0,none⟩)] w0 (fun _ w=>J d.1.length w∨Jx w):=by
 refine bE (args:=[_,_,_]) (fn:=Tryz.f129) Tryz.func129 rfl (n:=33) Tryz.ntmps129 (au (ak (br aB rfl rfl rfl (KG _ _ h0).1 rfl (bO (v':= .int .i64 0) rfl (Rg.max2 rfl rfl rfl (al rfl rfl (ae (bu ?_))))))));refine de (σ:=Nat) (fun s=>[(0,.func (.yield yl) #[] #[]),(1,.pointer (some ⟨bi,0,none⟩)),(2,.pointer (some ⟨bd,0,none⟩)),(4,.int .i64 (s:Int))]) (fun s w=>J s w∧s≤d.1.length) (fun s=>d.1.length-s) 0 (.cons rfl (.cons rfl (.cons rfl (.cons rfl .nil)))) ?_ ?_
 ·exact⟨h0,bM _⟩
 ·rintro k w ⟨hJ,hk⟩;obtain⟨gi,gd,hle⟩:=KG _ _ hJ;have hdl:d.1.length≤140737488355328:=by obtain⟨b,o,vs,_,_,⟨va,vb,_,⟨a,cap,_,_,h,_⟩,_⟩,_⟩:=hd;exact h
  refine au (au (ak (aj rfl rfl (br eI rfl rfl rfl gd rfl (bO (v':=vd) rfl (bJ rfl hd.fA rfl ?_))))));refine aA (M:=M) (A:=RT.di) (B:=RT.str.sl) jZ rfl rfl ph (by decide) T0 rfl rfl (by decide) hd hle (fun pn Ua=>?_);refine aY (M:=M) aJ rfl rfl rfl rfl rfl Ua (ar _ _) (fun vn tj=>?_);replace tj:(RT.str.sl).V M _ d.1 vn:=tj;refine bF aJ rfl tj rfl (cu rfl rfl rfl (ae ?_));refine bW rfl (fun c1=>?_) (fun c1=>?_)
  ·refine bg (au (bu (au ?_)));apply T.FD 15 mixed rfl rfl rfl rfl rfl;intro Qr L5;have lI:=L5 M;refine aj rfl rfl ?_;refine ae ⟨rfl,rfl,rfl,?_⟩;replace hJ:=lg _ _ _ hJ (L5 aN);clear gi gd hle;obtain⟨gi,gd,hle⟩:=KG _ _ hJ;refine br eI rfl rfl rfl gd rfl (bO (v':=vd) rfl ?_);refine ae ⟨rfl,rfl,rfl,?_⟩;refine bJ rfl hd.fA rfl ?_;refine ae ⟨rfl,rfl,rfl,?_⟩;refine aA (M:=M) (A:=RT.di) (B:=RT.str.sl) jZ rfl rfl ph (by decide) T0 rfl rfl (by decide) hd hle (fun pm UL=>?_);refine ae ⟨rfl,rfl,rfl,?_⟩;refine aY (M:=M) aJ rfl rfl rfl rfl rfl UL (ar _ _) (fun vm hvm=>?_);replace hvm:(RT.str.sl).V M _ d.1 vm:=hvm;refine ae ⟨rfl,rfl,rfl,?_⟩;refine aj rfl rfl ?_;refine ae ⟨rfl,rfl,rfl,?_⟩;refine bS (M:=M) aJ I9 rfl rfl rfl hvm (ar _ _) (by omega) (fun u3 x L6 jH=>?_);rw[aK]at L6;refine ae ⟨rfl,rfl,rfl,?_⟩;refine aY (M:=M) aM rfl rfl rfl rfl rfl jH (ar _ _) (fun vx tS=>?_);obtain rfl:=dQ tS;refine ae ⟨rfl,rfl,rfl,?_⟩;refine br eI rfl rfl rfl gd rfl (bO (v':=vd) rfl ?_);refine ae ⟨rfl,rfl,rfl,?_⟩;refine bJ rfl hd.fA rfl ?_;refine ae ⟨rfl,rfl,rfl,?_⟩;refine aA (M:=M) (A:=RT.di) (B:=((RT.li).ptr).sl) jZ rfl rfl xM (by decide) di1 rfl rfl (by decide) hd hle (fun pt Ur=>?_);refine ae ⟨rfl,rfl,rfl,?_⟩;refine aY (M:=M) dp rfl rfl rfl rfl rfl Ur (ar _ _) (fun vt KY=>?_);replace KY:(((RT.li).ptr).sl).V M _ d.2 vt:=KY;refine ae ⟨rfl,rfl,rfl,?_⟩;refine aj rfl rfl ?_;refine ae ⟨rfl,rfl,rfl,?_⟩;refine bS (M:=M) dp oZ rfl rfl rfl KY (ar _ _) (by omega) (fun u4 t BD iM=>?_);rw[aK]at BD;refine ae ⟨rfl,rfl,rfl,?_⟩;refine aY (M:=M) cU rfl rfl rfl rfl rfl iM (ar _ _) (fun vp XD=>?_)
   refine ae ⟨rfl,rfl,rfl,?_⟩;refine dv ?_;refine Rg.yield rfl (vs:=[sv x,vp]) rfl rfl (hy k _ x t vp hJ L6 BD (pW.1 XD)) (fun r5 w5 h5=>?_);obtain⟨b,rfl,Ow,oD⟩:=h5;refine fP rfl rfl (bO (v':= .bool (decide (¬b=true))) (by simp) (ae ?_));refine bW rfl (fun c3=>?_) (fun c3=>?_)
   ·refine aW ?_;exact BJ rfl (.inr (oD (by simpa using c3)))
   ·refine bg (ak (aj rfl rfl (bQ rfl rfl rfl (by omega) (al rfl rfl (ae ?_)))));refine⟨rfl,k+1,(.cons rfl (.cons rfl (.cons rfl (.cons rfl .nil)))),?_,?_⟩
    ·exact⟨Ow (cy.1 c3),by omega⟩
    ·omega
  ·refine cP ?_
   first|refine ig.nil ?_|simp+decide only[Am,nW,if_true,if_false]|skip
   have e:k=d.1.length:=by omega
   subst e;exact l7 rfl (.inl hJ)
theorem uh {M:aU} {d:Di} {vd:Value} (w0:World) (hM:Lt M w0) (hd:bL RT.di M w0 vd d):
  Spec Tryz.prog 78 #[vd,.int .i64 0] w0 (fun v w=>∃bi bd,v= .func (.func 129) #[] [.pointer (some ⟨bi,0,none⟩),.pointer (some ⟨bd,0,none⟩)].toArray∧w.heap[bi]? =some (.cells #[.int .i64 0] 3 (0,0))∧w.heap[bd]? =some (.cells #[vd] 123 (0,0))∧w0.heap.size≤bi∧w0.heap.size≤bd∧Step M w0 M w aN):=by
 refine bE (args:=[_,_]) (fn:=Tryz.f78) Tryz.func78 rfl (n:=6) Tryz.ntmps78 (au (ak ?_));refine vr M rfl rfl (fun bd w1 p1 q1 g1 s1=>?_);rw[qn hd]at g1;replace s1:=s1.back;refine vr M rfl rfl (fun bi w2 p2 q2 g2 s2=>?_);replace s2:=s2.back;replace g2:w2.heap[bi]? =some (.cells #[.int .i64 0] 3 (0,0)):=g2;refine al rfl rfl (ae (au (ak (jv (xs:=[]) (ys:=[.tmp 3,.tmp 2]) rfl rfl rfl (al rfl rfl (ae (aW ?_)))))));exact a8 rfl rfl ⟨bi,bd,rfl,g2,s2.aX g1,by have:=s1.size;omega,p1,s1.aE s2⟩
end Go.K
namespace Go.K
open Go.Proofs
namespace TKSegD
theorem vF:TI Tryz.prog 123 (.pointer none) 1 8:=by unfold TI;kernel_rfl
theorem E77:Enters Tryz.prog 77:=enters Tryz.func77 rfl (by decide)
theorem XE:Enters Tryz.prog 78:=enters Tryz.func78 rfl (by decide)
theorem KZ:Enters Tryz.prog 129:=enters Tryz.func129 rfl (by decide)
end TKSegD
open TKSegD
set_option maxRecDepth 10000
theorem K0 {M:aU} {w:World} {xs:List (List UInt8)} {v:Value} (h:(RT.str.sl).V M w xs v):∀x∈xs,x.length≤140737488355328:=fun x hx=>by
 obtain⟨a,cap,_,_,_,hs⟩:=iZ.1 h;rcases hs with rfl|⟨b,o,_,_,he⟩
 ·cases hx
 ·obtain⟨i,hi⟩:=cg.1 hx;obtain⟨vs,⟨_,h1⟩,_⟩:=he i x hi;exact h1
theorem K1 {M:aU} {w:World} {v:Value} {d:Di} (h:bL RT.di M w v d):(∀x∈d.1,x.length≤140737488355328)∧d.1.length≤140737488355328:=by
 obtain⟨b,o,vs,_,_,⟨va,vb,_,h1,_⟩,_⟩:=h;have hv:(RT.str.sl).V M w d.1 ((RT.str.sl).val va):=⟨va,h1,rfl⟩;exact⟨K0 hv,dr hv⟩
structure K2 {α:Type} (A:RT α) (e T:TypeId) (M:aU) (w0:World) (bo bi bd D:Nat) (vd:Value) (st:Loop) (vo:Value) (xs:List α) (M':aU) (w:World):Prop where
 lt:Lt M' w
 S:Step M w0 M' w aN
 o:w.heap[bo]? =some (.cells #[vo] T (0,0))
 mo:M' bo
 r:w.heap[D+1]? =some (.loop st)
 mr:M' (D+1)
 d:w.heap[D]? =some (.deferred (some []))
 md:M' D
 own:Own A e M' w w0.heap.size vo xs
 gi:w.heap[bi]? =some (.cells #[.int .i64 0] 3 (0,0))
 gd:w.heap[bd]? =some (.cells #[vd] 123 (0,0))
 fi: ¬M' bi
 fd: ¬M' bd
 z:w0.heap.size≤bo∧w0.heap.size≤D
section
variable {α:Type} {A:RT α} {e T:TypeId} {M M1 M2 N:aU} {w0 w w':World} {bo bi bd D:Nat} {vd:Value} {st:Loop} {vo:Value} {xs:List α}
theorem K2.bC (h:K2 A e T M w0 bo bi bd D vd st vo xs M1 w) (s:Step M1 w M2 w' aN):K2 A e T M w0 bo bi bd D vd st vo xs M2 w':=
 ⟨s.lt h.lt,h.S.aE s,s.aX h.o,(s.mem _ (av h.o)).2 h.mo,s.aX h.r,(s.mem _ (av h.r)).2 h.mr,s.aX h.d,(s.mem _ (av h.d)).2 h.md,h.own.bC s,s.aX h.gi,s.aX h.gd,fun hn=>h.fi ((s.mem _ (av h.gi)).1 hn),fun hn=>h.fd ((s.mem _ (av h.gd)).1 hn),h.z⟩
theorem K2.mn {st':Loop} (h:K2 A e T M w0 bo bi bd D vd st vo xs M1 w):K2 A e T M w0 bo bi bd D vd st' vo xs M1 (w.putObj (D+1) (.loop st')):=by
 have s:Step M1 w M1 (w.putObj (D+1) (.loop st')) (fun k=>k=D+1):=ef h.mr;obtain⟨z1,z2⟩:=h.z;refine⟨s.lt h.lt,h.S.db s (fun k (hk:k=D+1)=>by omega),s.b9 h.o (fun(hn:bo=D+1)=>by have h1:=h.o;rw[hn,h.r]at h1;cases h1),h.mo,vu (av h.r),h.mr,s.b9 h.d (fun(hn:D=D+1)=>by omega),h.md,h.own.step s (fun b hb (hn:b=D+1)=>?_),s.b9 h.gi (fun(hn:bi=D+1)=>by have h1:=h.gi;rw[hn,h.r]at h1;cases h1),s.b9 h.gd (fun(hn:bd=D+1)=>by have h1:=h.gd;rw[hn,h.r]at h1;cases h1),h.fi,h.fd,h.z⟩;obtain⟨cs,hc⟩:=h.own.isCells hb;rw[hn,h.r]at hc;cases hc
theorem K2.grow {KW:Value} {Pg:List α} (hT:T≠e) (h:K2 A e T M w0 bo bi bd D vd st vo xs M1 w) (s:Step M1 w M2 w' (kb vo)) (ho:Own A e M2 w' w0.heap.size KW Pg):
  (w'.heap[bo]? =some (.cells #[vo] T (0,0))∧M2 bo)∧∀{w2:World},Step M2 w' M2 w2 (fun k=>k=bo)→w2.heap[bo]? =some (.cells #[KW] T (0,0))→K2 A e T M w0 bo bi bd D vd st KW Pg M2 w2:=by
 obtain⟨z1,z2⟩:=h.z
 have EZ:∀{b:Nat} {o:Obj},w.heap[b]? =some o→(∀cs fr,o≠ .cells cs e fr)→¬kb vo b:=fun {b o} hb fE hn=>by
  obtain⟨⟨C,h1,_⟩,_⟩:=h.own;rcases h1.2 with h3|⟨g,cap,cur,h3,h4,h5,_⟩
  ·unfold kb at hn;rw[h3.1]at hn;cases hn
  ·unfold kb at hn;rw[h3]at hn;cases hn;rw[hb]at h5;exact fE _ _ (aG h5)
 have nM:∀{b:Nat},¬M1 b→¬kb vo b:=fun hb hn=>hb (h.own.mut_ _ hn)
 have ic:=s.b9 h.o (EZ h.o (fun cs fr hc=>by injection hc with _ h1 _;exact hT h1));have hr:=s.b9 h.r (EZ h.r (fun cs fr hc=>by cases hc));have hd:=s.b9 h.d (EZ h.d (fun cs fr hc=>by cases hc));have gN:=s.b9 h.gi (nM h.fi);have tR:=s.b9 h.gd (nM h.fd);have XF: ¬M2 bi:=fun hn=>h.fi ((s.mem _ (av h.gi)).1 hn)
 have H6: ¬M2 bd:=fun hn=>h.fd ((s.mem _ (av h.gd)).1 hn)
 have HW:=(s.mem _ (av h.o)).2 h.mo;refine⟨⟨ic,HW⟩,fun {w2} s2 hx=>⟨s2.lt (s.lt h.lt),(h.S.cJ s h.own (bw _)).db s2 (fun k (hk:k=bo)=>by omega),hx,HW,s2.b9 hr (fun(hn:D+1=bo)=>by rw[hn,ic]at hr;cases hr),(s.mem _ (av h.r)).2 h.mr,s2.b9 hd (fun(hn:D=bo)=>by rw[hn,ic]at hd;cases hd),(s.mem _ (av h.d)).2 h.md,ho.step s2 (fun b hb (hn:b=bo)=>ho.fc ic hT (by rw[←hn];exact hb)),s2.b9 gN (fun(hn:bi=bo)=>XF (by rw[hn];exact HW)),s2.b9 tR (fun(hn:bd=bo)=>H6 (by rw[hn];exact HW)),XF,H6,h.z⟩⟩
end
theorem afb {α:Type} {A:RT α} {e T:TypeId} {M M1:aU} {w0 w:World} {bo bi bd:Nat} {vd:Value} {st:Loop} (hM:Lt M1 w) (S:Step M w0 M1 w aN) (go:w.heap[bo]? =some (.cells #[.slice none 0 0] T (0,0))) (mo:M1 bo) (gi:w.heap[bi]? =some (.cells #[.int .i64 0] 3 (0,0))) (gd:w.heap[bd]? =some (.cells #[vd] 123 (0,0))) (fi: ¬M1 bi) (fd: ¬M1 bd) (Hu:w0.heap.size≤bo):
  ∃M',K2 A e T M w0 bo bi bd w.heap.size vd st (.slice none 0 0) [] M' ((w.alloc (.deferred (some []))).alloc (.loop st)):=by
 have sA:Step M1 w (ins M1 w.heap.size) (w.alloc (.deferred (some []))) aN:=(dA M1 w _).own (bw _) (by simp);have sB:Step (ins M1 w.heap.size) (w.alloc (.deferred (some []))) (ins (ins M1 w.heap.size) (w.heap.size+1)) ((w.alloc (.deferred (some []))).alloc (.loop st)) aN:=(dA _ _ _).own (by simp) (by simp);have hD:(w.alloc (.deferred (some []))).heap[w.heap.size]? =some (.deferred (some [])):=cO w _;have hR:((w.alloc (.deferred (some []))).alloc (.loop st)).heap[w.heap.size+1]? =some (.loop st):=by have:=cO (w.alloc (.deferred (some []))) (.loop st);rwa [yH]at this
 have SS:=(S.aE sA).aE sB;have hi:=av gi;have hd:=av gd;refine⟨_,sB.lt (sA.lt hM),SS,sB.aX (sA.aX go),.inr (.inr mo),hR,.inl rfl,sB.aX hD,.inr (.inl rfl),dO _ _ _ _ _,sB.aX (sA.aX gi),sB.aX (sA.aX gd),?_,?_,Hu,S.size⟩
 ·rintro(h|h|h)
  ·omega
  ·omega
  ·exact fi h
 ·rintro(h|h|h)
  ·omega
  ·omega
  ·exact fd h
theorem xX {M:aU} {d:Di} {v0:Value} (w0:World) (hM:Lt M w0) (hd:bL RT.di M w0 v0 d) (hdl:d.1.length=d.2.length) (hd6:d.1.length≤1000000000):
  Spec Tryz.prog 77 #[v0] w0 (fun v w=>(RT.str.sl).V M w d.1 v∧Step M w0 M w aN):=by
 have fZ:=hM;obtain⟨Gr,_⟩:=K1 hd;refine nz (args:=[_]) (fn:=Tryz.f77) Tryz.func77 rfl (n:=14) Tryz.ntmps77 ?_;have S:Step M w0 M w0 aN:=(ah _ _).cD (fun _ h=>h.elim) (fun _ h=>h.elim);refine au (ak (al rfl rfl (ae (au (ak ?_)))));refine eu M ph rfl (fun fv vz G1 I6 fU jQ=>?_);obtain⟨eY,ji⟩:∃M',M'=ins M fv:=⟨_,rfl⟩;rw[←ji]at jQ;have eL:eY fv:=by rw[ji];exact .inl rfl
 change vz.heap[fv]? =some (.cells #[.slice none 0 0] _ _)at fU;replace hM:=jQ.lt hM;have:=S.size;replace S:=S.aE jQ;refine ae (au (au (ak (aj rfl rfl ?_))));refine aS rfl rfl XE (uh (M:=eY) _ hM (hd.le (by decide) jQ.le)) (fun r2 w2 hc=>?_);obtain⟨bi,bd,rfl,gi,gd,hbi,hbd,s2⟩:=hc;have fi: ¬eY bi:=fun h=>by have:=hM _ h;omega
 have fd: ¬eY bd:=fun h=>by have:=hM _ h;omega
 replace fi: ¬eY bi:=fi;have:=av fU;replace eL:=(s2.mem _ this).2 eL;replace fU:=s2.aX fU;replace hM:=s2.lt hM;have:=S.size;replace S:=S.aE s2;refine ae (bu ?_);refine T.range (gf:=129) (lb:=[.pointer (some ⟨bi,0,none⟩),.pointer (some ⟨bd,0,none⟩)].toArray) rfl KZ (fun rec mZ=>?_);obtain⟨D,hD⟩:∃D,D=w2.heap.size:=⟨_,rfl⟩;obtain⟨Mr,h0⟩:=afb (A:=RT.str) (e:=9) (st:=rec .ready none) hM S fU eL gi gd fi fd (by omega);rw[←hD]at mZ h0 ⊢;refine Spec.mono (rF (wv:=w0) (M:=M) (J:=fun i w=>∃M' vo,K2 (RT.str) 9 55 M w0 fv bi bd D v0 (rec .ready none) vo (d.1.take i) M' w) (Jx:=fun _=>False) _ hd hdl (fun i w w' ⟨M',vo,h⟩ s=>⟨M',vo,h.bC (s.any M')⟩) (fun i w ⟨M',vo,h⟩=>⟨h.gi,h.gd,h.S.back.le⟩) (fun i wr x t vt hJ hx ht hp=>?_) ⟨Mr,_,h0⟩) (fun _ w3 h3=>?_)
 ·obtain⟨M',vo,h⟩:=hJ;refine lT (ps:=[7,8]) (vs:=[sv x,vt]) mZ h.r rfl (by decide) (ak (al rfl rfl (ae ?_)));refine⟨rfl,h.r,?_⟩;have h4:=h.mn (st':=rec .busy none);have s4:Step M' wr M' (wr.putObj (D+1) (.loop (rec .busy none))) (fun k=>k=D+1):=ef h.mr;generalize wr.putObj (D+1) _=w4 at h4 s4 ⊢;refine bu (ak (br aJ rfl rfl rfl h4.o rfl (bO (v':=vo) rfl (aj rfl rfl ?_))));refine ez (A:=RT.str) (hn:=by decide) (M:=M') aJ I9 (by decide) rfl rfl h4.lt (jM.2 ⟨rfl,Gr x (aQ hx)⟩) (.inr ⟨rfl,rfl⟩) (fun u5 w5 gV s5=>?_);have h6:=h4.bC s5;have nq:=(aF.1 hx).1;refine cz (M:=M') (base:=w0.heap.size) aJ I9 rfl rfl rfl rfl h6.own gV (ar _ _) (by simp;omega) (by simp;omega) h6.S.size (fun v6 M6 w6 uJ s6=>?_);obtain⟨⟨go6,mo6⟩,HP⟩:=h6.grow (by decide) s6 uJ;refine cw (M:=M6) ph rfl rfl go6 rfl (by obtain⟨_,_,he,_⟩:=uJ.isSlice;rw[he];rfl) mo6 (fun w7 g7 s7=>?_);refine ae ?_;have h8:=(HP s7 g7).mn (st':=rec .ready none);exact⟨(HP s7 g7).r,true,rfl,fun _=>⟨M6,v6,by rw[bX,hx,cq];exact h8⟩,fun h=>by cases h⟩
 ·obtain⟨M',vo,h⟩:=h3.resolve_right id;left;refine⟨h.r,?_⟩;have h5:=h.mn (st':=rec .exhausted none);generalize w3.putObj (D+1) _=wE at h5 ⊢;refine au (ak (br aJ rfl rfl rfl h5.o rfl (bO (v':=vo) rfl (al rfl rfl (ae (aW ?_))))));have sE:Step M' wE M' (wE.putObj D (.deferred none)) (fun k=>k=D):=ef h5.md;have hz:=h5.z;have hS:=h5.S.db sE (fun k (hk:k=D)=>by omega)
  have ho:=h5.own.step sE (fun b hb (hn:b=D)=>by
   obtain⟨cs,hc⟩:=h5.own.isCells hb;rw[hn,h5.d]at hc;cases hc)
  rw[bm (bw _)]at ho;exact AA rfl rfl h5.d ⟨ho.close fZ hS (by omega),hS.back⟩
theorem xY {M:aU} {s:Se} {v0:Value} (w0:World) (hM:Lt M w0) (hdl:s.2.2.1.length=s.2.2.2.length) (hd6:s.2.2.1.length≤1000000000) (hs:bL RT.se M w0 v0 s):
  Spec Tryz.prog 68 #[v0] w0 (fun v w=>(RT.str.sl).V M w s.2.2.1 v∧Step M w0 M w aN):=by
 refine bE (args:=[_]) (fn:=Tryz.f68) Tryz.func68 rfl (n:=8) Tryz.ntmps68 (au (ak (al rfl rfl (ae (au (ak (aj rfl rfl (bJ rfl hs.fA rfl ?_))))))));refine aA (M:=M) (A:=RT.se) (B:=(RT.di).ptr) eH rfl rfl vF (by decide) Q1 rfl rfl (by decide) hs (ar _ _) (fun CP mQ=>?_);refine aY (M:=M) eI rfl rfl rfl rfl rfl mQ (ar _ _) (fun vd K3=>?_);refine aS rfl rfl E77 (xX _ hM (pW.1 K3) hdl hd6) (fun r wc hc=>?_);obtain hc:=hc;refine al rfl rfl (ae (aW ?_));exact a8 rfl rfl hc
end Go.K
namespace Go.K
open Go.Proofs
namespace TKSegE
theorem vF:TI Tryz.prog 123 (.pointer none) 1 8:=by unfold TI;kernel_rfl
theorem XG:Enters Tryz.prog 73:=enters Tryz.func73 rfl (by decide)
theorem E75:Enters Tryz.prog 75:=enters Tryz.func75 rfl (by decide)
end TKSegE
open TKSegE
set_option maxRecDepth 10000
def sL (ns:List (List UInt8)) (ls:List (List Po)) (k:List UInt8):List Po:=match (ns.zip ls).find? (fun p=>decide (p.1=k))with|some p=>p.2|none=>[]
theorem uj {ns:List (List UInt8)} (hn:ns.Nodup) {ls:List (List Po)} {k:List UInt8} {j:Nat} {l:List Po} (h:ns[j]? =some k) (hl:ls[j]? =some l):sL ns ls k=l:=by
 have:∀{ns:List (List UInt8)} {ls:List (List Po)} {j:Nat},ns.Nodup→ns[j]? =some k→ls[j]? =some l→(ns.zip ls).find? (fun p=>decide (p.1=k))=some (k,l):=by
  intro ns
  induction ns with
  |nil=>intro ls j _ h;simp at h
  |cons x ns ih=>
   intro ls j hn h hl
   cases ls with
   |nil=>simp at hl
   |cons y ls=>
    cases j with
    |zero=>simp at h hl;subst h;subst hl;simp
    |succ j=>
     have OL:=List.nodup_cons.1 hn;have hk:k∈ns:=aQ (by simpa using h);have hx:x≠k:=fun e=>OL.1 (by rw[e];exact hk)
     rw[List.zip_cons_cons,List.find?_cons_of_neg (by simpa using hx)];exact ih OL.2 (by simpa using h) (by simpa using hl)
 unfold sL;rw[this hn h hl]
theorem p6 {ns:List (List UInt8)} {ls:List (List Po)} {k:List UInt8} (h:k∉ns):sL ns ls k=[]:=by
 unfold sL;rw[List.find?_eq_none.2 fun p hp=>by have:=List.of_mem_zip hp;simp;intro e;exact h (e▸this.1)]
theorem K4 {L:List En} (k:List UInt8):sL (keysOf L) ((keysOf L).map (pk L)) k=pk L k:=by
 by_cases h:k∈keysOf L
 ·obtain⟨j,hj⟩:=cg.1 h;exact uj (k9 L).nodup hj (by rw[gG,hj];rfl)
 ·rw[p6 h];exact(F5 0 (fun h'=>h (jS.2 h'))).symm
theorem Sb (l:List Po):ri (iA l).2.1=(l.length:Int):=by
 show ri (lM l ((l.length+7)/8))=_;rw[zw];congr 1;omega
def mV (d:Di) (k:List UInt8) (M:aU) (v:Value) (w:World):Prop:=(∃(j:Nat) (t:Li),d.1[j]? =some k∧d.2[j]? =some t∧bL RT.li M w v t)∨(v= .pointer none∧k∉d.1)
theorem mV.step {d:Di} {k:List UInt8} {M M':aU} {v:Value} {w w':World} (h:mV d k M v w) (s:Step M w M' w' aN):mV d k M' v w':=h.imp (fun⟨j,t,h1,h2,h3⟩=>⟨j,t,h1,h2,h3.le (by decide) s.le⟩) id
theorem zY {M:aU} {t:Fd} (w0:World) (hM:Lt M w0) (h1:t.1.length≤140737488355328) (h2:t.2.length≤140737488355328):
  Spec Tryz.prog 74 #[kv t] w0 (fun v w=>v= .string ⟨(dm t).toArray⟩∧Step M w0 M w aN):=by
 refine bE (args:=[_]) (fn:=Tryz.f74) Tryz.func74 rfl (n:=9) Tryz.ntmps74 ?_;have S:Step M w0 M w0 aN:=(ah _ _).cD (fun _ h=>h.elim) (fun _ h=>h.elim);refine au (ak ?_);refine eG (A:=RT.fd) rfl rfl hM (ru (by omega) (by omega)) rfl (fun u0 w1 cQ s0 _=>?_);replace hM:=s0.lt hM;have:=S.size;replace S:=S.aE s0;refine al rfl rfl (ae (au (ak ?_)));refine aA (M:=M) (A:=RT.fd) (B:=RT.str) bG rfl rfl I9 (by decide) (G3) rfl rfl (by decide) (by assumption) (by repeat (first|exact ar _ _|refine aT (bh (by assumption)) ?_)) (fun tU jR=>?_);refine aY (M:=M) aM rfl rfl rfl rfl rfl jR (ar _ _) (fun v1 ti=>?_);obtain rfl:=dQ ti;refine Rg.cat (p:=t.1) (q:=[0]) rfl rfl rfl (by simp;omega) ?_;refine aA (M:=M) (A:=RT.fd) (B:=RT.str) bG rfl rfl I9 (by decide) (Oz) rfl rfl (by decide) (by assumption) (by repeat (first|exact ar _ _|refine aT (bh (by assumption)) ?_)) (fun G0 jh=>?_);refine aY (M:=M) aM rfl rfl rfl rfl rfl jh (ar _ _) (fun v4 oQ=>?_);obtain rfl:=dQ oQ;refine Rg.cat (p:=t.1++[0]) (q:=t.2) rfl rfl rfl (by simp;omega) (al rfl rfl (ae (aW ?_)));exact a8 rfl rfl ⟨rfl,S⟩
theorem uT {M:aU} {s:Se} {ls:List (List Po)} {t:Fd} {v0:Value} (w0:World) (hM:Lt M w0) (hs:bL RT.se M w0 v0 s) (nP:vR s.2.2.1) (hls:s.2.2.2=ls.map iA) (hdl:s.2.2.1.length=ls.length) (h1:t.1.length≤140737488355328) (h2:t.2.length≤140737488355328):
  Spec Tryz.prog 25 #[v0,kv t] w0 (fun v w=>v= .int .i64 ((sL s.2.2.1 ls (dm t)).length:Int)∧Step M w0 M w aN):=by
 refine bE (args:=[_,_]) (fn:=Tryz.f25) Tryz.func25 rfl (n:=21) Tryz.ntmps25 ?_;have S:Step M w0 M w0 aN:=(ah _ _).cD (fun _ h=>h.elim) (fun _ h=>h.elim);refine au (ak ?_);refine eG (A:=RT.fd) rfl rfl hM (ru (by omega) (by omega)) rfl (fun u0 w1 cQ s0 _=>?_);replace hs:=hs.le (by decide) s0.le;replace hM:=s0.lt hM;have:=S.size;replace S:=S.aE s0;refine al rfl rfl (ae (au ?_));apply kA (M:=M) mixed [aV.eq v0,aV.eq v0,aV.ptr ((RT.di).ptr) s.2.2,aV.ptr RT.di s.2.2,aV.eq (kv t),aV.eq (sv (dm t)),(aV.mk' (fun v w=>∃p,v= .tuple #[p,.bool (decide (dm t∈s.2.2.1))]∧mV s.2.2 (dm t) M p w) (fun⟨p,h1,h2⟩ s=>⟨p,h1,h2.step s⟩)),(aV.mk' (fun v w=>∃p,v= .tuple #[p,.bool (decide (dm t∈s.2.2.1))]∧mV s.2.2 (dm t) M p w) (fun⟨p,h1,h2⟩ s=>⟨p,h1,h2.step s⟩)),(aV.mk' (fun v w=>mV s.2.2 (dm t) M v w) (fun h s=>h.step s)),aV.eq (.bool (decide (dm t∈s.2.2.1))),(aV.mk' (fun v w=>mV s.2.2 (dm t) M v w) (fun h s=>h.step s)),aV.eq (.bool (decide (dm t∈s.2.2.1)))]
 ·rfl
 ·refine an ?_ ?_
  ·intro wD E sD;refine aj rfl rfl ?_;exact ae ⟨rfl,rfl,_,rfl,rfl,ah _ _⟩
  refine an ?_ ?_
  ·intro wD E sD;refine ao (bJ rfl hs.fA rfl ?_);exact ae ⟨rfl,rfl,_,rfl,rfl,ah _ _⟩
  refine an ?_ ?_
  ·intro wD E sD;refine ao ?_;refine aA (M:=M) (A:=RT.se) (B:=(RT.di).ptr) eH rfl rfl vF (by decide) Q1 rfl rfl (by decide) hs sD.le (fun uf fB=>?_);exact ae ⟨rfl,rfl,_,rfl,fB,ah _ _⟩
  refine an ?_ ?_
  ·intro wD E sD;intro v2 kB;refine aY (M:=M) eI rfl rfl rfl rfl rfl (show bL ((RT.di).ptr) M wD v2 s.2.2 from kB) (ar _ _) (fun vd K3=>?_);exact ae ⟨rfl,rfl,_,rfl,pW.1 K3,ah _ _⟩
  refine an ?_ ?_
  ·intro wD E sD;refine cc (M:=M) (A:=RT.fd) bG rfl jW (by decide) rfl rfl rfl cQ sD.le (fun vt KY=>?_);obtain rfl:=iB KY;exact ae ⟨rfl,rfl,_,rfl,rfl,ah _ _⟩
  refine an ?_ ?_
  ·intro wD E sD;refine ao ?_;refine aS rfl rfl UX (zY (t:=t) _ (sD.lt hM) h1 h2) (fun r5 w5 hc=>?_);obtain⟨rfl,s5⟩:=hc;exact ae ⟨rfl,rfl,_,rfl,rfl,s5⟩
  refine an ?_ ?_
  ·intro wD E sD;intro v3 lv;refine ao (ao ?_);refine aS rfl rfl XG (find_spec (k:=dm t) _ (sD.lt hM) (show bL RT.di M wD v3 s.2.2 from lv) nP (by rw[hls,cr];exact hdl)) (fun r6 w6 hc=>?_);obtain⟨s6,hr⟩:=hc;refine ae ⟨rfl,rfl,_,rfl,?_,s6⟩;rcases hr with⟨j,p,tl,rfl,h3,h4,h5⟩|⟨rfl,h3⟩
   ·exact⟨p,by rw[decide_eq_true (aQ h3)],.inl ⟨j,tl,h3,h4,h5⟩⟩
   ·exact⟨_,by rw[decide_eq_false h3],.inr ⟨rfl,h3⟩⟩
  refine an ?_ ?_
  ·intro wD E sD;intro v6 nS;refine aj rfl rfl ?_;exact ae ⟨rfl,rfl,_,rfl,nS,ah _ _⟩
  refine an ?_ ?_
  ·intro wD E sD;intro v7 qH;obtain⟨p,rfl,hp⟩:=qH;refine b5 rfl rfl rfl ?_;exact ae ⟨rfl,rfl,_,rfl,hp,ah _ _⟩
  refine an ?_ ?_
  ·intro wD E sD;intro v7 qH;obtain⟨p,rfl,hp⟩:=qH;refine b5 rfl rfl rfl ?_;exact ae ⟨rfl,rfl,_,rfl,rfl,ah _ _⟩
  refine an ?_ ?_
  ·intro wD E sD;intro v8 tn;intro v6 nS;refine ao (ao ?_);intro v2 kB;intro v3 lv;refine ao (ao ?_);intro v6 nS;intro v7 qH;intro v8 tn;refine al rfl rfl ?_;exact ae ⟨rfl,rfl,_,rfl,tn,ah _ _⟩
  refine an ?_ ?_
  ·intro wD E sD;refine ao ?_;intro v10 iU;refine ao (ao ?_);intro v2 kB;intro v3 lv;refine ao (ao ?_);intro v6 nS;intro v7 qH;intro v8 tn;refine ao ?_;intro v10 iU;refine al rfl rfl ?_;exact ae ⟨rfl,rfl,_,rfl,rfl,ah _ _⟩
  exact fC
 ·intro BE lr;refine ao (ao ?_);intro Dg mU;intro JW xB;refine ao (ao ?_);intro afc XH;intro RA Ky;intro XI Pj;refine ao ?_;intro K5 rG;refine ao ?_;replace rG:mV s.2.2 (dm t) M K5 BE:=rG;have hF:=rG;replace hM:=lr.lt hM;replace S:=S.aE lr;replace hs:=hs.le (by decide) lr.le;replace cQ:=cQ.le (by decide) lr.le;refine au (au (ak (aj rfl rfl (fP rfl rfl (bO (v':= .bool (decide (dm t∉s.2.2.1))) (by simp) (ae ?_))))));refine bW rfl (fun c2=>?_) (fun c2=>?_)
  ·refine au (ak (al rfl rfl (ae (aW ?_))));have e:sL s.2.2.1 ls (dm t)=[]:=p6 c2;exact a8 rfl rfl ⟨by rw[e];rfl,S⟩
  ·refine bg (au (ak (aj rfl rfl ?_)));obtain⟨j,tl,L3,uB,FF⟩:=hF.resolve_right (fun h=>h.2 (cy.1 c2));rw[hls,gG]at uB;obtain⟨l,MB,rfl⟩:=lz.1 uB;refine aS rfl rfl E75 (KB FF hM (GN _ _)) (fun r4 w4 hc=>?_);obtain⟨rfl,s4⟩:=hc;replace hs:=hs.le (by decide) s4.le;replace cQ:=cQ.le (by decide) s4.le;replace hM:=s4.lt hM;have:=S.size;replace S:=S.aE s4;refine al rfl rfl (ae (aW ?_));have e:sL s.2.2.1 ls (dm t)=l:=uj nP.nodup L3 MB;exact a8 rfl rfl ⟨by rw[e,Sb],S⟩
end Go.K
namespace Go.K
open Go.Proofs
namespace TKCursor
theorem Sc:TI Tryz.prog 216 (.agg #[(.pointer none),(.int .i64 0),(.slice none 0 0),(.int .i64 0),(.int .i64 0)]) 5 56:=by unfold TI;kernel_rfl
theorem Sd:placesOf Tryz.prog 216=[(0,1),(1,1),(2,1),(3,1),(4,1)].map some:=by kernel_rfl
end TKCursor
open TKCursor
set_option maxRecDepth 10000
theorem uU {l:List Po} {j:Nat} {p:Po} (h:l[j]? =some p):(lC l (j:Int))[0]? =some p:=by
 unfold lC;rw[if_neg (by omega),aK,eE,if_pos (by omega),List.getElem?_drop];simpa using h
theorem E0 {l:List Po} {i:Int} (h:(l.length:Int)≤i):lC l i=[]:=by
 unfold lC;rw[if_neg (by omega),dy (by omega),List.take_nil]
theorem Hz {M:aU} {w0:World} {q:Addr} {l:List Po} (hv:bL RT.li M w0 (.pointer (some q)) (iA l)):
  Spec Tryz.prog 140 #[.pointer (some q)] w0 (fun v' w'=>∃bc,v'= .pointer (some ⟨bc,0,none⟩)∧w0.heap.size≤bc∧Step M w0 (ins M bc) w' aN∧Cu 216 l (-1) (ins M bc) w' bc):=by
 refine bE (args:=[_]) (fn:=Tryz.f140) Tryz.func140 rfl (n:=12) Tryz.ntmps140 (au (ak (al rfl rfl (ae (au (au (ak (aj rfl rfl (Rg.Iw (v:= .pointer (some q)) cU rfl ⟨_,rfl⟩ rfl rfl (bO (v':= .bool (decide False)) rfl (ae ?_)))))))))));refine T.BI rfl ((fun h=>h)) (bg (au (ak (aj rfl rfl (eF (places:=[(0,1),(1,1),(2,1),(3,1),(4,1)]) cf Sc Sd rfl ⟨_,_,rfl,rfl,_,_,rfl,rfl,_,_,rfl,rfl,rfl⟩ (out:=[_,_,.slice none 0 0,_,.int .i64 0]) ⟨0,[_],rfl,rfl,by simp[Value.cells],1,[_],rfl,rfl,by simp[Value.cells],3,[_],rfl,rfl,by simp[Value.cells],rfl⟩ ?_)))));refine vr M rfl rfl (fun bc w1 h1 IA hS s1=>?_);refine al rfl rfl (ae (aW ?_));exact a8 rfl rfl ⟨bc,rfl,h1,s1,.pointer (some q),.slice none 0 0,-1,0,.inl rfl,hS,hv.le (by decide) s1.le,jD,by omega,by omega,fun _=>rfl,fun h=>by omega⟩
def sM (l:List Po) (i:Int):Int:=if i<l.length then i+1 else i
theorem K6 {l:List Po} (hm:dH (-1) l=true) {i:Int} (hi: -1≤i∧i≤l.length):tK l i (min (gY l i+1) 2147483648)=sM l i:=by
 unfold tK sM;rcases mO l i with⟨h0,h,_⟩|⟨j,d,ps,rfl,hx,h,_⟩|⟨h0,h,_⟩
 ·rw[h,if_neg (by omega),if_pos (by omega)];rw[idx_eq (i:=0) (fun j hj=>absurd hj (j5 _)) (fun p hp=>by have:=vP hm (i:=0) (d:=p.1) (ps:=p.2) hp;omega) (bM _)];omega
 ·have hr:=vP hm hx;have hj:=(aF.1 hx).1;rw[h,if_neg (by omega),if_pos (by omega)];rw[idx_eq (i:=j+1) (fun t ht p hp=>?_) (fun p hp=>?_) (by omega)]
  ·omega
  ·rcases eT t j with h1|h1
   ·have:=FH hm hp hx h1;simp only at this;omega
   ·rw[show t=j from by omega,hx]at hp;cases hp;simp only;omega
  ·have h1:=FH hm hx hp (by omega);have h2:=vP hm (i:=j+1) (d:=p.1) (ps:=p.2) hp;simp only at h1;omega
 ·rw[h,if_pos (by omega),if_neg (by omega)]
end Go.K
namespace Go.K
open Go.Proofs
namespace TKIdx
theorem afd:Enters Tryz.prog 186:=enters Tryz.func186 rfl (by decide)
end TKIdx
open TKIdx
set_option maxRecDepth 10000
theorem HA {M:aU} {w0:World} {x:Value} {d to:Int} {bt:Nat} (hM:Lt M w0) (hb:w0.heap[bt]? =some (.cells #[.int .i64 to] 3 (0,0))):
  Spec Tryz.prog 186 #[.agg #[.int .i64 d,x],.pointer (some ⟨bt,0,none⟩)] w0 (fun v' w'=>v'= .bool (decide (to≤d))∧Step M w0 M w' aN):=by
 refine bE (args:=[_,_]) (fn:=Tryz.f186) Tryz.func186 rfl (n:=8) Tryz.ntmps186 (au (ak ?_));refine vr M rfl rfl (fun bx w1 h1 IA hS s1=>?_);change w1.heap[bx]? =some (.cells #[.int .i64 d,x] _ _)at hS;have BC:=s1.aX hb;refine al rfl rfl (ae (au (ak (bI aP rfl rfl I3 (by decide) rfl rfl (br aB rfl rfl rfl (by assumption) rfl (br aB rfl rfl rfl (by assumption) rfl (dI rfl rfl rfl (al rfl rfl (ae (aW ?_))))))))));exact a8 rfl rfl ⟨rfl,s1.back⟩
set_option maxHeartbeats 2000000 in
theorem sN {M:aU} {w0:World} {v:Value} {lf:List Po} {to:Int} {bt:Nat} (hM:Lt M w0) (hv:((RT.po).sl).V M w0 lf v) (hb:w0.heap[bt]? =some (.cells #[.int .i64 to] 3 (0,0))):
  Spec Tryz.prog 185 #[v,.func (.func 186) #[] #[.pointer (some ⟨bt,0,none⟩)]] w0 (fun v' w'=>v'= .int .i64 (if idx lf to<lf.length then(idx lf to:Int)else-1)∧Step M w0 M w' aN):=by
 have hlen:=dr hv;refine bE (args:=[_,_]) (fn:=Tryz.f185) Tryz.func185 rfl (n:=19) Tryz.ntmps185 (au (ak (al rfl rfl (ae (au (au (ak (aj rfl rfl (bF aC rfl hv rfl (aj rfl rfl (ae ?_)))))))))));refine bu ?_;refine de (σ:=Nat) (fun s=>[(0,v),(1,.func (.func 186) #[] #[.pointer (some ⟨bt,0,none⟩)]),(7,.int .i64 lf.length),(8,.int .i64 s)]) (fun s w=>s≤lf.length∧Step M w0 M w aN∧∀j,j<s→∀p,lf[j]? =some p→p.1<to) (fun s=>lf.length-s) 0 (.cons rfl (.cons rfl (.cons rfl (.cons rfl .nil)))) ?_ ?_
 ·exact⟨bM _,ah _ _,fun j hj=>absurd hj (j5 _)⟩
 ·rintro k w1 ⟨hk,S,ek⟩;refine au (ak (cu rfl rfl rfl (ae (au ?_))));refine bW rfl (fun c2=>?_) (fun c2=>?_)
  ·refine bg (au (bu (au (ak (aj rfl rfl (al rfl rfl (ae (au (ak (aj rfl rfl (aj rfl rfl ?_)))))))))));refine aj rfl rfl ?_;obtain⟨⟨d,ps⟩,hx⟩:∃x,(lf)[k]? =some x:=⟨_,aI (by omega)⟩;refine bS (M:=M) aC dW rfl rfl rfl (hv.le S.le) (ar _ _) (by first|omega|decide) (fun Qg afe XJ XK=>?_);obtain rfl:(d,ps)=afe:=bY (aG (XJ.symm.trans (by simpa using hx)));refine cc (M:=M) (A:=RT.po) aP rfl dW (by decide) rfl rfl rfl (by assumption) (by repeat (first|exact ar _ _|refine aT (bh (by assumption)) ?_)) (fun XL Dk=>?_);obtain⟨x4,rfl,_,_⟩:=P8 Dk;refine Rg.rM (first:=[]) (captured:=[.pointer (some ⟨bt,0,none⟩)]) (xs:=[.tmp 15]) rfl rfl rfl afd (HA (M:=M) (d:=d) (x:=x4) (S.lt hM) (S.aX hb)) (fun r w2 h2=>?_);obtain⟨rfl,s2⟩:=h2;refine ae ?_;refine bW rfl (fun c4=>?_) (fun c4=>?_)
   ·refine au (ak (aj rfl rfl (al rfl rfl (ae (aW ?_)))));have he:idx lf to=k:=idx_eq ek (fun p hp=>by rw[hx]at hp;cases hp;exact c4) hk;exact a8 rfl rfl ⟨by rw[he,if_pos (by omega)],S.aE s2⟩
   ·refine bg (ak (bQ rfl rfl rfl (by omega) (aj rfl rfl (ae ?_))));refine⟨rfl,k+1,(.cons rfl (.cons rfl (.cons rfl (.cons rfl .nil)))),?_,?_⟩
    ·refine⟨by omega,S.aE s2,fun j hj p hp=>?_⟩;rcases eT j k with hjk|hjk
     ·exact ek j hjk p hp
     ·rw[show j=k from by omega,hx]at hp;cases hp;simp only;omega
    ·show _-(k+1)<_-k;omega
  ·refine cP (au (ak (al rfl rfl (ae (aW ?_)))))
   have he:idx lf to=lf.length:=by
    obtain rfl:k=lf.length:=by omega
    exact idx_eq ek (fun p hp=>by simp at hp) (bw _)
   exact a8 rfl rfl ⟨by rw[he,if_neg (by omega)],S⟩
end Go.K
namespace Go.K
open Go.Proofs
namespace TKAdv
theorem fX:TI Tryz.prog 107 (.slice none 0 0) 1 24:=by unfold TI;kernel_rfl
theorem aff:Enters Tryz.prog 141:=enters Tryz.func141 rfl (by decide)
theorem R7:Enters Tryz.prog 180:=enters Tryz.func180 rfl (by decide)
theorem NS:Enters Tryz.prog 183:=enters Tryz.func183 rfl (by decide)
theorem afg:Enters Tryz.prog 184:=enters Tryz.func184 rfl (by decide)
theorem XM:Enters Tryz.prog 185:=enters Tryz.func185 rfl (by decide)
end TKAdv
open TKAdv
set_option maxRecDepth 10000
set_option maxHeartbeats 2000000 in
theorem Bi {M:aU} {w0:World} {bc:Nat} {l:List Po} {i to:Int} (h:Cu 216 l i M w0 bc) (hM:Lt M w0) (hm:dH (-1) l=true) (nY:∀p∈l,p.2.length≤1099511627776) (yZ:(dw (-1) l).length≤1099511627776) (Gz:l.length≤1099511627776) (UN: -9223372036854775808≤to∧to≤9223372036854775807):
  Spec Tryz.prog 141 #[.pointer (some ⟨bc,0,none⟩),.int .i64 to] w0 (fun v' w'=>v'= .int .i64 (gY l (tK l i to))∧Step M w0 M w' (fun b=>b=bc)∧Cu 216 l (tK l i to) M w' bc):=by
 obtain⟨p,u,k,GR,Ub,hb,hp,hu,hi,hk,MG,th⟩:=id h;have LY:(iA l).2.1.length=(l.length+7)/8:=by simp[iA,lM]
 have Bz:∀b:Nat,b=bc→M b:=fun b hb=>by rw[hb];exact Ub
 have Rz:=zx hm i;refine bE (args:=[_,_]) (fn:=Tryz.f141) Tryz.func141 rfl (n:=107) Tryz.ntmps141 (au (ak ?_));refine vr M rfl rfl (fun bt w1 ht ht' hT s1=>?_);change w1.heap[bt]? =some (.cells #[.int .i64 to] _ _)at hT;have KM:bt≠bc:=by have:=av hb;omega
 have BC:=s1.aX hb;generalize ant:ins M bt=M1 at s1;have nL:=s1.lt hM;have L9:=hp.le (by decide) s1.le;have eW:=hu.le s1.le;have y9:=(s1.mem bc (av hb)).2 Ub;have hcM:∀b:Nat,b=bc→M1 b:=fun b h=>by rw[h];exact y9
 refine al rfl rfl (ae (au (au ?_)));apply kA (M:=M1) mixed [aV.eq _,aV.eq _,aV.eq _,aV.eq _,aV.eq _,aV.eq _]
 ·rfl
 ·refine an ?_ ?_
  ·intro wD E sD;refine br aB rfl rfl rfl (cI sD (by assumption)) rfl ?_;exact ae ⟨rfl,rfl,_,rfl,rfl,ah _ _⟩
  refine an ?_ ?_
  ·intro wD E sD;refine aj rfl rfl ?_;exact ae ⟨rfl,rfl,_,rfl,rfl,ah _ _⟩
  refine an ?_ ?_
  ·intro wD E sD;refine ao (bJ rfl ⟨_,rfl⟩ rfl ?_);exact ae ⟨rfl,rfl,_,rfl,rfl,ah _ _⟩
  refine an ?_ ?_
  ·intro wD E sD;refine ao (bI cf rfl rfl I3 (by decide) rfl rfl ?_);exact ae ⟨rfl,rfl,_,rfl,rfl,ah _ _⟩
  refine an ?_ ?_
  ·intro wD E sD;refine ao (br aB rfl rfl rfl (cI sD (by assumption)) rfl ?_);exact ae ⟨rfl,rfl,_,rfl,rfl,ah _ _⟩
  refine an ?_ ?_
  ·intro wD E sD;refine ao (ao (fo rfl rfl rfl ?_));exact ae ⟨rfl,rfl,_,rfl,rfl,ah _ _⟩
  exact fC
 ·intro BE lr;refine ao (ao (ao (ao (ao (ao ?_)))));have LX:=lr.aX BC;refine bW rfl (fun c1=>?_) (fun c1=>?_)
  ·refine au (ak (aj rfl rfl (bJ rfl ⟨_,rfl⟩ rfl (bI cf rfl rfl I3 (by decide) rfl rfl (br aB rfl rfl rfl (by assumption) rfl (al rfl rfl (ae (aW ?_))))))));have he:tK l i to=i:=by unfold tK;rw[if_pos c1]
   rw[he];have S:=s1.aE lr;exact a8 rfl rfl ⟨rfl,S.back.cD (fun _ h=>h.elim) Bz,h.step S.back (fun h=>h)⟩
  ·refine bg (au (ak (aj rfl rfl (bJ rfl ⟨_,rfl⟩ rfl (bI cf rfl rfl I3 (by decide) rfl rfl (br aB rfl rfl rfl (by assumption) rfl (Rg.max2 rfl rfl rfl (al rfl rfl (ae (au (bu ?_)))))))))));refine de (σ:=Nat) (fun s=>[(0,.pointer (some ⟨bc,0,none⟩)),(3,.pointer (some ⟨bt,0,none⟩)),(5,.int .i64 s)]) (fun s w=>s≤(l.length+7)/8∧cH (-1) (l.take (8*s))<to∧Step M1 w1 M1 w aN) (fun s=>(l.length+7)/8-s) (max k 0).toNat (.cons rfl (.cons rfl (.cons (by rw[show(((max k 0).toNat:Nat):Int)=max k 0 from by omega];rfl) .nil))) ?_ ?_
   ·exact⟨by omega,GQ hm hi hk MG th (by omega),lr⟩
   ·rintro n w4 ⟨hn,GP,S4⟩;have NK:=S4.aX BC;have Uc:=S4.aX hT;have BH:=L9.le (by decide) S4.le;refine au (au ?_);by_cases XN:(n:Int)<(((l.length+7)/8:Nat):Int)
    ·apply kA (M:=M1) mixed [aV.eq _,aV.eq _,aV.eq _,aV.eq _,aV.eq _,aV.eq _,aV.eq _,aV.eq (.bool true),aV.eq _,aV.eq _,aV.eq _,aV.eq _,aV.eq _,aV.eq _,aV.eq _,aV.eq _,aV.eq _]
     ·rfl
     ·refine an ?_ ?_
      ·intro wD E sD;refine aj rfl rfl ?_;exact ae ⟨rfl,rfl,_,rfl,rfl,ah _ _⟩
      refine an ?_ ?_
      ·intro wD E sD;refine aj rfl rfl ?_;exact ae ⟨rfl,rfl,_,rfl,rfl,ah _ _⟩
      refine an ?_ ?_
      ·intro wD E sD;refine ao (bJ rfl ⟨_,rfl⟩ rfl ?_);exact ae ⟨rfl,rfl,_,rfl,rfl,ah _ _⟩
      refine an ?_ ?_
      ·intro wD E sD;refine ao (bI cf rfl rfl oZ (by decide) rfl rfl ?_);exact ae ⟨rfl,rfl,_,rfl,rfl,ah _ _⟩
      refine an ?_ ?_
      ·intro wD E sD;refine ao (br cU rfl rfl rfl (cI sD (by assumption)) rfl ?_);exact ae ⟨rfl,rfl,_,rfl,rfl,ah _ _⟩
      refine an ?_ ?_
      ·intro wD E sD;refine ao ?_;refine aS rfl rfl NS (mS (M:=M1) (BH.le (by decide) sD.le)) (fun r wc h=>?_);obtain⟨rfl,rfl⟩:=h;exact ae ⟨rfl,rfl,_,rfl,congrArg (fun n:Nat=>Value.int .i64 n) LY,ah _ _⟩
      refine an ?_ ?_
      ·intro wD E sD;refine ao (ao (cu rfl rfl rfl ?_));exact ae ⟨rfl,rfl,_,rfl,rfl,ah _ _⟩
      refine an ?_ ?_
      ·intro wD E sD;refine ao (ao (aj rfl rfl ?_));refine ae ⟨rfl,rfl,_,rfl,?_,ah _ _⟩;exact congrArg Value.bool (decide_eq_true XN)
      refine an ?_ ?_
      ·intro wD E sD;refine ao (aq rfl rfl (aj rfl rfl ?_));exact ae ⟨rfl,rfl,_,rfl,rfl,ah _ _⟩
      refine an ?_ ?_
      ·intro wD E sD;refine ao (ao (aq rfl rfl (bJ rfl ⟨_,rfl⟩ rfl ?_)));exact ae ⟨rfl,rfl,_,rfl,rfl,ah _ _⟩
      refine an ?_ ?_
      ·intro wD E sD;refine ao (ao (aq rfl rfl (bI cf rfl rfl oZ (by decide) rfl rfl ?_)));exact ae ⟨rfl,rfl,_,rfl,rfl,ah _ _⟩
      refine an ?_ ?_
      ·intro wD E sD;refine ao (ao (aq rfl rfl (br cU rfl rfl rfl (cI sD (by assumption)) rfl ?_)));exact ae ⟨rfl,rfl,_,rfl,rfl,ah _ _⟩
      refine an ?_ ?_
      ·intro wD E sD;refine ao (aq rfl rfl (aj rfl rfl ?_));exact ae ⟨rfl,rfl,_,rfl,rfl,ah _ _⟩
      refine an ?_ ?_
      ·intro wD E sD;refine ao (ao (ao (ao (aq rfl rfl ?_))));refine aS rfl rfl afg (Ht (k:=n) (BH.le (by decide) sD.le)) (fun r wc h=>?_);obtain⟨rfl,rfl⟩:=h;exact ae ⟨rfl,rfl,_,rfl,rfl,ah _ _⟩
      refine an ?_ ?_
      ·intro wD E sD;refine ao (aq rfl rfl (br aB rfl rfl rfl (cI sD (by assumption)) rfl ?_));exact ae ⟨rfl,rfl,_,rfl,rfl,ah _ _⟩
      refine an ?_ ?_
      ·intro wD E sD;refine ao (ao (ao (aq rfl rfl (cu rfl rfl rfl ?_))));exact ae ⟨rfl,rfl,_,rfl,rfl,ah _ _⟩
      refine an ?_ ?_
      ·intro wD E sD;refine ao (ao (aR rfl rfl rfl ?_));exact ae ⟨rfl,rfl,_,rfl,rfl,ah _ _⟩
      exact fC
     ·intro HX lE;refine ao (ao (ao (ao (ao (ao (ao (ao (ao (ao (ao (ao ?_)))))))))));refine ao (ao (ao (ao (ao ?_))));replace S4:=S4.aE lE;replace NK:=lE.aX NK;replace Uc:=lE.aX Uc;replace BH:=BH.le (by decide) lE.le;have Xj:=S4.lt nL;refine bW rfl (fun c4=>?_) (fun c4=>?_)
      ·refine bg (bu (ak (aj rfl rfl (bQ rfl rfl rfl (by omega) (al rfl rfl (ae ?_))))));refine⟨rfl,n+1,(.cons rfl (.cons rfl (.cons rfl .nil))),?_,?_⟩
       ·have uA:=B2 (g:=l) (k:=n) (by omega);refine⟨by omega,?_,S4⟩;rw[show 8*(n+1)=8*n+8 from by omega,←uA];exact c4
       ·show _-(n+1)<_-n;omega
      ·refine cP (au (au (ak (aj rfl rfl (aj rfl rfl (bJ rfl ⟨_,rfl⟩ rfl (bI cf rfl rfl oZ (by decide) rfl rfl (br cU rfl rfl rfl (by assumption) rfl ?_))))))));refine aS rfl rfl NS (mS (M:=M1) BH) (fun r wc h=>?_);obtain⟨rfl,rfl⟩:=h;refine bO (v':= .int .i64 (((l.length+7)/8:Nat):Int)) (congrArg (fun n:Nat=>Value.int .i64 n) LY) (iE rfl rfl rfl (ae ?_));refine bW rfl (fun c6=>?_) (fun c6=>?_)
       ·exfalso;omega
       ·have hnk:n<(l.length+7)/8:=by omega
        have DY:to≤cH (-1) (l.take (8*n+8)):=by
         first
         |(exfalso;omega)
         |(have:=B2 (g:=l) (k:=n) (by omega);omega)
        refine bg (au (au (ak (aj rfl rfl (aj rfl rfl (bJ rfl ⟨_,rfl⟩ rfl (bI cf rfl rfl I3 (by decide) rfl rfl (br aB rfl rfl rfl (by assumption) rfl (eC rfl rfl rfl (ae ?_))))))))));refine bW rfl (fun c9=>?_) (fun c9=>?_)
        ·refine au (ak (aj rfl rfl (aj rfl rfl (aj rfl rfl (aj rfl rfl (bJ rfl ⟨_,rfl⟩ rfl (bI cf rfl rfl oZ (by decide) rfl rfl (br cU rfl rfl rfl (by assumption) rfl (aj rfl rfl ?_)))))))));refine aS rfl rfl R7 (xK (M:=M1) (k:=n) Xj BH hm nY yZ) (fun OC w10 h=>?_);obtain⟨sk,Hr⟩:=h;rw[if_pos (by unfold HR;simp;omega),aK]at Hr;have afh:=sk.aX NK;refine bJ rfl ⟨_,rfl⟩ rfl (bI cf rfl rfl I3 (by decide) rfl rfl ?_);refine cw (M:=M1) I3 rfl rfl afh rfl rfl y9 (fun w11 XO tq=>?_);change w11.heap[bc]? =some (.cells #[p,.int .i64 n,u,.int .i64 (gY l i),.int .i64 GR] 216 (0,0))at XO;refine bJ rfl ⟨_,rfl⟩ rfl (bI cf rfl rfl fX (by decide) rfl rfl ?_);refine cw (M:=M1) fX rfl rfl XO rfl (iV Hr rfl rfl) y9 (fun TU NT xh=>?_);change TU.heap[bc]? =some (.cells #[p,.int .i64 n,OC,.int .i64 (gY l i),.int .i64 GR] 216 (0,0))at NT;refine ae (ak (aj rfl rfl (bJ rfl ⟨_,rfl⟩ rfl (bI cf rfl rfl I3 (by decide) rfl rfl (br aB rfl rfl rfl (by assumption) rfl (Rg.An rfl rfl rfl (bJ rfl ⟨_,rfl⟩ rfl (bI cf rfl rfl I3 (by decide) rfl rfl ?_))))))));refine cw (M:=M1) I3 rfl rfl NT rfl rfl y9 (fun Ws Sf y5=>?_);change Ws.heap[bc]? =some (.cells #[p,.int .i64 n,OC,.int .i64 (gY l i),.int .i64 (IntKind.i64.wrap (GR+1))] 216 (0,0))at Sf;obtain⟨lf,uX,cX,s,wX,hwX,hbX,XP,P7,Ic,DO,XQ,hs4,hpX,hTX,SX⟩:∃lf uX cX s wX,wX=Ws∧wX.heap[bc]? =some (.cells #[p,.int .i64 n,uX,.int .i64 (gY l i),.int .i64 cX] 216 (0,0))∧((RT.po).sl).V M1 wX lf uX∧lf=(l.drop s).take (8*n+8-s)∧8*n≤s∧s<8*n+8∧s<l.length∧cH (-1) (l.take s)<to∧bL RT.li M1 wX p (iA l)∧wX.heap[bt]? =some (.cells #[.int .i64 to] 3 (0,0))∧Step M1 w1 M1 wX (fun b=>b=bc):=⟨_,OC,_,8*n,Ws,rfl,Sf,((Hr.le tq.le).le xh.le).le y5.le,by rw[show 8*n+8-8*n=8 from by omega],by omega,by omega,by omega,GP,(((BH.le (by decide) sk.le).le (by decide) tq.le).le (by decide) xh.le).le (by decide) y5.le,y5.b9 (xh.b9 (tq.b9 (sk.aX Uc) KM) KM) KM,((((S4.cD (fun _ h=>h.elim) hcM).aE sk).trans tq (fun _ _ h=>h)).trans xh (fun _ _ h=>h)).trans y5 (fun _ _ h=>h)⟩
         subst hwX;clear Sf;refine ae (au ?_);obtain⟨ha1,TN,ha3,ha4,ha5⟩:=zz hm Ic DO XQ hs4 DY P7;have hMX:=SX.lt nL;obtain⟨⟨d,ps⟩,hx⟩:∃x,l[idx l to]? =some x:=⟨_,aI ha3⟩;have hh:=uU hx;have hhl:=(aF.1 hh).1;apply T.Im (M:=M1) mixed [] [aV.eq _,aV.eq _,aV.eq _,aV.eq _,aV.eq uX,aV.eq _,aV.eq _,aV.eq _,aV.eq uX,aV.eq _,aV.eq _,aV.V ((RT.po).sl) (lC l (idx l to:Nat))] 12
         ·rfl
         ·rfl
         ·rfl
         ·rfl
         ·rfl
         ·exact fun p hp=>by cases hp
         ·exact vM.none
         ·refine bB ?_ ?_
          ·intro wD E sD;refine aj rfl rfl ?_;exact ae ⟨rfl,rfl,_,rfl,rfl,ah _ _⟩
          refine bB ?_ ?_
          ·intro wD E sD;refine aj rfl rfl ?_;exact ae ⟨rfl,rfl,_,rfl,rfl,ah _ _⟩
          refine bB ?_ ?_
          ·intro wD E sD;refine ao (bJ rfl ⟨_,rfl⟩ rfl ?_);exact ae ⟨rfl,rfl,_,rfl,rfl,ah _ _⟩
          refine bB ?_ ?_
          ·intro wD E sD;refine ao (bI cf rfl rfl fX (by decide) rfl rfl ?_);exact ae ⟨rfl,rfl,_,rfl,rfl,ah _ _⟩
          refine bB ?_ ?_
          ·intro wD E sD;refine ao (br aC rfl rfl rfl (cI sD (by assumption)) rfl ?_);exact ae ⟨rfl,rfl,_,rfl,rfl,ah _ _⟩
          refine bB ?_ ?_
          ·intro wD E sD;refine aj rfl rfl ?_;exact ae ⟨rfl,rfl,_,rfl,rfl,ah _ _⟩
          refine bB ?_ ?_
          ·intro wD E sD;refine ao (bJ rfl ⟨_,rfl⟩ rfl ?_);exact ae ⟨rfl,rfl,_,rfl,rfl,ah _ _⟩
          refine bB ?_ ?_
          ·intro wD E sD;refine ao (bI cf rfl rfl fX (by decide) rfl rfl ?_);exact ae ⟨rfl,rfl,_,rfl,rfl,ah _ _⟩
          refine bB ?_ ?_
          ·intro wD E sD;refine ao (br aC rfl rfl rfl (cI sD (by assumption)) rfl ?_);exact ae ⟨rfl,rfl,_,rfl,rfl,ah _ _⟩
          refine bB ?_ ?_
          ·intro wD E sD;refine jv (xs:=[]) (ys:=[.tmp 3]) rfl rfl rfl ?_;exact ae ⟨rfl,rfl,_,rfl,rfl,ah _ _⟩
          refine bB ?_ ?_
          ·intro wD E sD;refine ao (ao ?_);refine aS rfl rfl XM (sN (M:=M1) (sD.lt hMX) (XP.le sD.le) (sD.aX hTX)) (fun r wi h=>?_);obtain⟨rfl,s⟩:=h;refine bO (v':= .int .i64 ((idx lf to:Nat):Int)) (by rw[if_pos TN]) ?_;exact ae ⟨rfl,rfl,_,rfl,rfl,s⟩
          refine bB ?_ ?_
          ·intro wD E sD;refine ao (ao ?_);refine Rg.nX (A:=RT.po) (hn:=by decide) aC dW rfl rfl rfl (XP.le sD.le) (by omega) (fun u hu=>?_);rw[aK,ha5]at hu;exact ae ⟨rfl,rfl,_,rfl,hu,ah _ _⟩
          exact cx.nil
         ·intro KI xL;refine ao (ao (ao (ao (ao (ao (ao (ao (ao (ao (ao ?_))))))))));intro oH Bj;have Sg:=xL.aX hbX;have kq:((RT.po).sl).V M1 KI (lC l (idx l to:Nat)) oH:=Bj;have S14:=SX.aE xL;refine bJ rfl ⟨_,rfl⟩ rfl (bI cf rfl rfl fX (by decide) rfl rfl ?_);refine cw (M:=M1) fX rfl rfl Sg rfl (iV kq rfl rfl) y9 (fun VQ K7 AW=>?_);change VQ.heap[bc]? =some (.cells #[p,.int .i64 n,oH,.int .i64 (gY l i),.int .i64 cX] 216 (0,0))at K7;replace kq:=kq.le AW.le;refine ae (au (ak (aj rfl rfl (aj rfl rfl (bJ rfl ⟨_,rfl⟩ rfl (bI cf rfl rfl fX (by decide) rfl rfl (br aC rfl rfl rfl (by assumption) rfl ?_)))))));refine bS (M:=M1) aC dW rfl rfl rfl (kq) (ar _ _) (by first|omega|decide) (fun XR K8 E1 Sh=>?_);obtain rfl:(d,ps)=K8:=bY (aG (E1.symm.trans (by simpa using hh)));refine aA (M:=M1) (A:=RT.po) (B:=RT.int .i64) aP rfl rfl I3 (by decide) (na) rfl rfl (by decide) (by assumption) (by repeat (first|exact ar _ _|refine aT (bh (by assumption)) ?_)) (fun OH Jk=>?_);refine bK (M:=M1) aB rfl rfl (by assumption) (by repeat (first|exact ar _ _|refine aT (bh (by assumption)) ?_)) (fun xZ=>?_);refine bO (v':= .int .i64 (d)) rfl ?_;replace xZ: -9223372036854775808≤(d:Int)∧d≤9223372036854775807:=xZ;refine bJ rfl ⟨_,rfl⟩ rfl (bI cf rfl rfl I3 (by decide) rfl rfl ?_);refine cw (M:=M1) I3 rfl rfl K7 rfl rfl y9 (fun Pc K9 EN=>?_);change Pc.heap[bc]? =some (.cells #[p,.int .i64 n,oH,.int .i64 d,.int .i64 cX] 216 (0,0))at K9;replace kq:=kq.le EN.le;refine ae (au (ak (aj rfl rfl (bJ rfl ⟨_,rfl⟩ rfl (bI cf rfl rfl I3 (by decide) rfl rfl (br aB rfl rfl rfl (by assumption) rfl (al rfl rfl (ae (aW ?_)))))))))
          have he:tK l i to=(idx l to:Int):=by unfold tK;rw[if_neg c1]
          rw[he];have S7:=((s1.cD (fun _ h=>h.elim) Bz).trans ((S14.trans AW (fun _ _ h=>h)).trans EN (fun _ _ h=>h)) (fun _ _ h=>h));exact a8 rfl rfl ⟨by rw[kP hx];rfl,S7.back,p,oH,n,cX,Ub,by rw[kP hx];exact K9,(hp.le (by decide) S7.back.le),kq.le (ly hM S7),by omega,by omega,fun h=>by omega,fun _ h=>by omega⟩
        ·have anx:=(j0 l (-1) hm (by decide) (8*n+8)).2
         obtain⟨ZU,yE⟩:0≤i∧i<l.length:=by
          rcases mO l i with⟨h0,_⟩|⟨j,d,ps,rfl,hx,_⟩|⟨h0,h1,_⟩
          ·have:=MG h0;omega
          ·have:=(aF.1 hx).1;omega
          ·omega
         have Mu:=th ZU yE;obtain⟨j,jc⟩:∃j:Nat,i=j:=⟨i.toNat,by omega⟩;obtain⟨⟨dj,pj⟩,hxj⟩:∃x,l[j]? =some x:=⟨_,aI (by omega)⟩;have hdj:=kP hxj;rw[←jc]at hdj;have TM:=(l9 hm hxj).1;obtain rfl:(n:Int)=k:=by omega
         have iM:=eW.le S4.le;obtain⟨lf,uX,cX,s,wX,hwX,hbX,XP,P7,Ic,DO,XQ,hs4,hpX,hTX,SX⟩:∃lf uX cX s wX,wX=_∧wX.heap[bc]? =some (.cells #[p,.int .i64 n,uX,.int .i64 (gY l i),.int .i64 cX] 216 (0,0))∧((RT.po).sl).V M1 wX lf uX∧lf=(l.drop s).take (8*n+8-s)∧8*n≤s∧s<8*n+8∧s<l.length∧cH (-1) (l.take s)<to∧bL RT.li M1 wX p (iA l)∧wX.heap[bt]? =some (.cells #[.int .i64 to] 3 (0,0))∧Step M1 w1 M1 wX (fun b=>b=bc):=⟨_,u,GR,j,_,rfl,NK,iM,by rw[jc];unfold lC;rw[if_neg (by omega),aK,show 8*n+8-j=8-j%8 from by omega],by omega,by omega,by omega,by omega,BH,Uc,S4.cD (fun _ h=>h.elim) hcM⟩;subst hwX;clear NK;refine bg (au ?_);obtain⟨ha1,TN,ha3,ha4,ha5⟩:=zz hm Ic DO XQ hs4 DY P7;have hMX:=SX.lt nL;obtain⟨⟨d,ps⟩,hx⟩:∃x,l[idx l to]? =some x:=⟨_,aI ha3⟩;have hh:=uU hx;have hhl:=(aF.1 hh).1;apply T.Im (M:=M1) mixed [] [aV.eq _,aV.eq _,aV.eq _,aV.eq _,aV.eq uX,aV.eq _,aV.eq _,aV.eq _,aV.eq uX,aV.eq _,aV.eq _,aV.V ((RT.po).sl) (lC l (idx l to:Nat))] 12
         ·rfl
         ·rfl
         ·rfl
         ·rfl
         ·rfl
         ·exact fun p hp=>by cases hp
         ·exact vM.none
         ·refine bB ?_ ?_
          ·intro wD E sD;refine aj rfl rfl ?_;exact ae ⟨rfl,rfl,_,rfl,rfl,ah _ _⟩
          refine bB ?_ ?_
          ·intro wD E sD;refine aj rfl rfl ?_;exact ae ⟨rfl,rfl,_,rfl,rfl,ah _ _⟩
          refine bB ?_ ?_
          ·intro wD E sD;refine ao (bJ rfl ⟨_,rfl⟩ rfl ?_);exact ae ⟨rfl,rfl,_,rfl,rfl,ah _ _⟩
          refine bB ?_ ?_
          ·intro wD E sD;refine ao (bI cf rfl rfl fX (by decide) rfl rfl ?_);exact ae ⟨rfl,rfl,_,rfl,rfl,ah _ _⟩
          refine bB ?_ ?_
          ·intro wD E sD;refine ao (br aC rfl rfl rfl (cI sD (by assumption)) rfl ?_);exact ae ⟨rfl,rfl,_,rfl,rfl,ah _ _⟩
          refine bB ?_ ?_
          ·intro wD E sD;refine aj rfl rfl ?_;exact ae ⟨rfl,rfl,_,rfl,rfl,ah _ _⟩
          refine bB ?_ ?_
          ·intro wD E sD;refine ao (bJ rfl ⟨_,rfl⟩ rfl ?_);exact ae ⟨rfl,rfl,_,rfl,rfl,ah _ _⟩
          refine bB ?_ ?_
          ·intro wD E sD;refine ao (bI cf rfl rfl fX (by decide) rfl rfl ?_);exact ae ⟨rfl,rfl,_,rfl,rfl,ah _ _⟩
          refine bB ?_ ?_
          ·intro wD E sD;refine ao (br aC rfl rfl rfl (cI sD (by assumption)) rfl ?_);exact ae ⟨rfl,rfl,_,rfl,rfl,ah _ _⟩
          refine bB ?_ ?_
          ·intro wD E sD;refine jv (xs:=[]) (ys:=[.tmp 3]) rfl rfl rfl ?_;exact ae ⟨rfl,rfl,_,rfl,rfl,ah _ _⟩
          refine bB ?_ ?_
          ·intro wD E sD;refine ao (ao ?_);refine aS rfl rfl XM (sN (M:=M1) (sD.lt hMX) (XP.le sD.le) (sD.aX hTX)) (fun r wi h=>?_);obtain⟨rfl,s⟩:=h;refine bO (v':= .int .i64 ((idx lf to:Nat):Int)) (by rw[if_pos TN]) ?_;exact ae ⟨rfl,rfl,_,rfl,rfl,s⟩
          refine bB ?_ ?_
          ·intro wD E sD;refine ao (ao ?_);refine Rg.nX (A:=RT.po) (hn:=by decide) aC dW rfl rfl rfl (XP.le sD.le) (by omega) (fun u hu=>?_);rw[aK,ha5]at hu;exact ae ⟨rfl,rfl,_,rfl,hu,ah _ _⟩
          exact cx.nil
         ·intro KI xL;refine ao (ao (ao (ao (ao (ao (ao (ao (ao (ao (ao ?_))))))))));intro oH Bj;have Sg:=xL.aX hbX;have kq:((RT.po).sl).V M1 KI (lC l (idx l to:Nat)) oH:=Bj;have S14:=SX.aE xL;refine bJ rfl ⟨_,rfl⟩ rfl (bI cf rfl rfl fX (by decide) rfl rfl ?_);refine cw (M:=M1) fX rfl rfl Sg rfl (iV kq rfl rfl) y9 (fun VQ K7 AW=>?_);change VQ.heap[bc]? =some (.cells #[p,.int .i64 n,oH,.int .i64 (gY l i),.int .i64 cX] 216 (0,0))at K7;replace kq:=kq.le AW.le;refine ae (au (ak (aj rfl rfl (aj rfl rfl (bJ rfl ⟨_,rfl⟩ rfl (bI cf rfl rfl fX (by decide) rfl rfl (br aC rfl rfl rfl (by assumption) rfl ?_)))))));refine bS (M:=M1) aC dW rfl rfl rfl (kq) (ar _ _) (by first|omega|decide) (fun XR K8 E1 Sh=>?_);obtain rfl:(d,ps)=K8:=bY (aG (E1.symm.trans (by simpa using hh)));refine aA (M:=M1) (A:=RT.po) (B:=RT.int .i64) aP rfl rfl I3 (by decide) (na) rfl rfl (by decide) (by assumption) (by repeat (first|exact ar _ _|refine aT (bh (by assumption)) ?_)) (fun OH Jk=>?_);refine bK (M:=M1) aB rfl rfl (by assumption) (by repeat (first|exact ar _ _|refine aT (bh (by assumption)) ?_)) (fun xZ=>?_);refine bO (v':= .int .i64 (d)) rfl ?_;replace xZ: -9223372036854775808≤(d:Int)∧d≤9223372036854775807:=xZ;refine bJ rfl ⟨_,rfl⟩ rfl (bI cf rfl rfl I3 (by decide) rfl rfl ?_);refine cw (M:=M1) I3 rfl rfl K7 rfl rfl y9 (fun Pc K9 EN=>?_);change Pc.heap[bc]? =some (.cells #[p,.int .i64 n,oH,.int .i64 d,.int .i64 cX] 216 (0,0))at K9;replace kq:=kq.le EN.le;refine ae (au (ak (aj rfl rfl (bJ rfl ⟨_,rfl⟩ rfl (bI cf rfl rfl I3 (by decide) rfl rfl (br aB rfl rfl rfl (by assumption) rfl (al rfl rfl (ae (aW ?_)))))))))
          have he:tK l i to=(idx l to:Int):=by unfold tK;rw[if_neg c1]
          rw[he];have S7:=((s1.cD (fun _ h=>h.elim) Bz).trans ((S14.trans AW (fun _ _ h=>h)).trans EN (fun _ _ h=>h)) (fun _ _ h=>h));exact a8 rfl rfl ⟨by rw[kP hx];rfl,S7.back,p,oH,n,cX,Ub,by rw[kP hx];exact K9,(hp.le (by decide) S7.back.le),kq.le (ly hM S7),by omega,by omega,fun h=>by omega,fun _ h=>by omega⟩
    ·apply kA (M:=M1) mixed [aV.eq _,aV.eq _,aV.eq _,aV.eq _,aV.eq _,aV.eq _,aV.eq _,aV.eq (.bool false),aV.eq undef,aV.eq undef,aV.eq undef,aV.eq undef,aV.eq undef,aV.eq undef,aV.eq undef,aV.eq undef,aV.eq _]
     ·rfl
     ·refine an ?_ ?_
      ·intro wD E sD;refine aj rfl rfl ?_;exact ae ⟨rfl,rfl,_,rfl,rfl,ah _ _⟩
      refine an ?_ ?_
      ·intro wD E sD;refine aj rfl rfl ?_;exact ae ⟨rfl,rfl,_,rfl,rfl,ah _ _⟩
      refine an ?_ ?_
      ·intro wD E sD;refine ao (bJ rfl ⟨_,rfl⟩ rfl ?_);exact ae ⟨rfl,rfl,_,rfl,rfl,ah _ _⟩
      refine an ?_ ?_
      ·intro wD E sD;refine ao (bI cf rfl rfl oZ (by decide) rfl rfl ?_);exact ae ⟨rfl,rfl,_,rfl,rfl,ah _ _⟩
      refine an ?_ ?_
      ·intro wD E sD;refine ao (br cU rfl rfl rfl (cI sD (by assumption)) rfl ?_);exact ae ⟨rfl,rfl,_,rfl,rfl,ah _ _⟩
      refine an ?_ ?_
      ·intro wD E sD;refine ao ?_;refine aS rfl rfl NS (mS (M:=M1) (BH.le (by decide) sD.le)) (fun r wc h=>?_);obtain⟨rfl,rfl⟩:=h;exact ae ⟨rfl,rfl,_,rfl,congrArg (fun n:Nat=>Value.int .i64 n) LY,ah _ _⟩
      refine an ?_ ?_
      ·intro wD E sD;refine ao (ao (cu rfl rfl rfl ?_));exact ae ⟨rfl,rfl,_,rfl,rfl,ah _ _⟩
      refine an ?_ ?_
      ·intro wD E sD;refine ao (ao (aj rfl rfl ?_));refine ae ⟨rfl,rfl,_,rfl,?_,ah _ _⟩;exact congrArg Value.bool (decide_eq_false XN)
      refine an ?_ ?_
      ·intro wD E sD;refine ao ?_;exact aw rfl rfl rfl rfl (ae ⟨rfl,rfl,_,rfl,rfl,ah _ _⟩)
      refine an ?_ ?_
      ·intro wD E sD;refine ao (ao ?_);exact aw rfl rfl rfl rfl (ae ⟨rfl,rfl,_,rfl,rfl,ah _ _⟩)
      refine an ?_ ?_
      ·intro wD E sD;refine ao (ao ?_);exact aw rfl rfl rfl rfl (ae ⟨rfl,rfl,_,rfl,rfl,ah _ _⟩)
      refine an ?_ ?_
      ·intro wD E sD;refine ao (ao ?_);exact aw rfl rfl rfl rfl (ae ⟨rfl,rfl,_,rfl,rfl,ah _ _⟩)
      refine an ?_ ?_
      ·intro wD E sD;refine ao ?_;exact aw rfl rfl rfl rfl (ae ⟨rfl,rfl,_,rfl,rfl,ah _ _⟩)
      refine an ?_ ?_
      ·intro wD E sD;refine ao (ao (ao (ao ?_)));exact aw rfl rfl rfl rfl (ae ⟨rfl,rfl,_,rfl,rfl,ah _ _⟩)
      refine an ?_ ?_
      ·intro wD E sD;refine ao ?_;exact aw rfl rfl rfl rfl (ae ⟨rfl,rfl,_,rfl,rfl,ah _ _⟩)
      refine an ?_ ?_
      ·intro wD E sD;refine ao (ao (ao ?_));exact aw rfl rfl rfl rfl (ae ⟨rfl,rfl,_,rfl,rfl,ah _ _⟩)
      refine an ?_ ?_
      ·intro wD E sD;refine ao (ao (aL rfl rfl rfl ?_));exact ae ⟨rfl,rfl,_,rfl,rfl,ah _ _⟩
      exact fC
     ·intro HX lE;refine ao (ao (ao (ao (ao (ao (ao (ao (ao (ao (ao (ao ?_)))))))))));refine ao (ao (ao (ao (ao ?_))));replace S4:=S4.aE lE;replace NK:=lE.aX NK;replace Uc:=lE.aX Uc;replace BH:=BH.le (by decide) lE.le;have Xj:=S4.lt nL;refine ir rfl (cP (au (au (ak (aj rfl rfl (aj rfl rfl (bJ rfl ⟨_,rfl⟩ rfl (bI cf rfl rfl oZ (by decide) rfl rfl (br cU rfl rfl rfl (by assumption) rfl ?_)))))))));refine aS rfl rfl NS (mS (M:=M1) BH) (fun r wc h=>?_);obtain⟨rfl,rfl⟩:=h;refine bO (v':= .int .i64 (((l.length+7)/8:Nat):Int)) (congrArg (fun n:Nat=>Value.int .i64 n) LY) (iE rfl rfl rfl (ae ?_));refine bW rfl (fun c6=>?_) (fun c6=>?_)
      ·refine au (ak (aj rfl rfl (aj rfl rfl (bJ rfl ⟨_,rfl⟩ rfl (bI cf rfl rfl fX (by decide) rfl rfl ?_)))));refine cw (M:=M1) fX rfl rfl NK rfl rfl y9 (fun w7 hb7 s7=>?_);change w7.heap[bc]? =some (.cells #[p,.int .i64 k,.slice none 0 0,.int .i64 (gY l i),.int .i64 GR] 216 (0,0))at hb7;refine bJ rfl ⟨_,rfl⟩ rfl (bI cf rfl rfl I3 (by decide) rfl rfl ?_);refine cw (M:=M1) I3 rfl rfl hb7 rfl rfl y9 (fun w8 hb8 s8=>?_);change w8.heap[bc]? =some (.cells #[p,.int .i64 k,.slice none 0 0,.int .i64 2147483648,.int .i64 GR] 216 (0,0))at hb8;refine ae (au (ak (al rfl rfl (ae (aW ?_)))));have he:tK l i to=(l.length:Int):=by unfold tK;rw[if_neg c1,MF hm (n:=8*n) (by omega) GP]
       rw[he];have S7:=((s1.aE S4).cD (fun _ h=>h.elim) Bz).trans ((s7.trans s8 (fun _ _ h=>h))) (fun _ _ h=>h);exact a8 rfl rfl ⟨by rw[qf (Int.le_refl _)],S7.back,p,.slice none 0 0,k,GR,Ub,by rw[qf (Int.le_refl _)];exact hb8,(hp.le (by decide) S7.back.le),by rw[E0 (Int.le_refl _)];exact jD,by omega,hk,fun h=>by omega,fun _ h=>by omega⟩
      ·exfalso;omega
theorem zZ {M:aU} {w0:World} {bc:Nat} {l:List Po} {i:Int} (h:Cu 216 l i M w0 bc) (hM:Lt M w0) (hm:dH (-1) l=true) (nY:∀p∈l,p.2.length≤1099511627776) (yZ:(dw (-1) l).length≤1099511627776) (Gz:l.length≤1099511627776):
  Spec Tryz.prog 96 #[.pointer (some ⟨bc,0,none⟩)] w0 (fun v' w'=>v'= .int .i64 (gY l (sM l i))∧Step M w0 M w' (fun b=>b=bc)∧Cu 216 l (sM l i) M w' bc):=by
 obtain⟨p,u,k,GR,Ub,hb,hp,hu,hi,hk,MG,th⟩:=id h;have Rz:=zx hm i;refine bE (args:=[_]) (fn:=Tryz.f96) Tryz.func96 rfl (n:=11) Tryz.ntmps96 (au (ak (al rfl rfl (ae (au (ak (aj rfl rfl (aj rfl rfl (bJ rfl ⟨_,rfl⟩ rfl (bI cf rfl rfl I3 (by decide) rfl rfl (br aB rfl rfl rfl (by assumption) rfl ?_)))))))))));refine bQ rfl rfl rfl (by omega) (Rg.min2 rfl rfl rfl ?_);have hn:tK l i (min (gY l i+1) 2147483648)=sM l i:=K6 hm hi;refine aS rfl rfl aff (Bi (to:=min (gY l i+1) 2147483648) h hM hm nY yZ Gz (by omega)) (fun r w1 h1=>?_);rw[hn]at h1;obtain⟨rfl,s1,h1⟩:=h1;refine al rfl rfl (ae (aW ?_));exact a8 rfl rfl ⟨rfl,s1,h1⟩
end Go.K
namespace Go.K
open Go.Proofs
namespace TKErsA
theorem vF:TI Tryz.prog 123 (.pointer none) 1 8:=by unfold TI;kernel_rfl
theorem Sc:TI Tryz.prog 216 (.agg #[(.pointer none),(.int .i64 0),(.slice none 0 0),(.int .i64 0),(.int .i64 0)]) 5 56:=by unfold TI;kernel_rfl
theorem Sd:placesOf Tryz.prog 216=[(0,1),(1,1),(2,1),(3,1),(4,1)].map some:=by kernel_rfl
theorem XG:Enters Tryz.prog 73:=enters Tryz.func73 rfl (by decide)
theorem Hv:Enters Tryz.prog 126:=enters Tryz.func126 rfl (by decide)
theorem afq:Enters Tryz.prog 140:=enters Tryz.func140 rfl (by decide)
end TKErsA
open TKErsA
set_option maxRecDepth 10000
theorem Dl {M:aU} (w0:World) (hM:Lt M w0):
  Spec Tryz.prog 140 #[.pointer none] w0 (fun v' w'=>∃bc,v'= .pointer (some ⟨bc,0,none⟩)∧w0.heap.size≤bc∧Step M w0 (ins M bc) w' aN∧Cu 216 [] (-1) (ins M bc) w' bc):=by
 refine bE (args:=[_]) (fn:=Tryz.f140) Tryz.func140 rfl (n:=12) Tryz.ntmps140 (au (ak (al rfl rfl (ae (au (au (ak (aj rfl rfl (Rg.wL cU rfl rfl rfl (ae (T.aaH rfl (rfl) ?_)))))))))));refine ak ?_;refine aS rfl rfl Hv (ug (l:=[]) hM jD (fun p h=>by cases h) (by decide) (by decide) (by decide)) (fun r2 w2 hc=>?_);obtain⟨s2,hok,_⟩:=hc;obtain⟨p,rfl,hp⟩:=hok rfl;obtain⟨q,rfl⟩:=hp.fA;refine aj rfl rfl (b5 rfl rfl rfl (b5 rfl rfl rfl (al rfl rfl (ae (au (ak (aj rfl rfl (eF (places:=[(0,1),(1,1),(2,1),(3,1),(4,1)]) cf Sc Sd rfl ⟨_,_,rfl,rfl,_,_,rfl,rfl,_,_,rfl,rfl,rfl⟩ (out:=[_,_,.slice none 0 0,_,.int .i64 0]) ⟨0,[_],rfl,rfl,by simp[Value.cells],1,[_],rfl,rfl,by simp[Value.cells],3,[_],rfl,rfl,by simp[Value.cells],rfl⟩ ?_))))))));refine vr M rfl rfl (fun bc w3 h1 IA hS s3=>?_);refine al rfl rfl (ae (aW ?_));exact a8 rfl rfl ⟨bc,rfl,by have:=s2.size;omega,s2.aE s3,.pointer (some q),.slice none 0 0,-1,0,.inl rfl,hS,hp.le (by decide) s3.le,jD,by decide,by decide,fun _=>rfl,fun h=>by omega⟩
theorem Dm {M:aU} {v:Value} {l:List Po} (w0:World) (hM:Lt M w0) (h:bL RT.li M w0 v (iA l)∨(v= .pointer none∧l=[])):Spec Tryz.prog 140 #[v] w0 (fun v' w'=>∃bc,v'= .pointer (some ⟨bc,0,none⟩)∧w0.heap.size≤bc∧Step M w0 (ins M bc) w' aN∧Cu 216 l (-1) (ins M bc) w' bc):=by
 rcases h with h|⟨rfl,rfl⟩
 ·obtain⟨q,rfl⟩:=h.fA;exact Hz h
 ·exact Dl w0 hM
theorem Bk {M:aU} {s:Se} {ls:List (List Po)} {t:Fd} {v0:Value} (w0:World) (hM:Lt M w0) (hs:bL RT.se M w0 v0 s) (nP:vR s.2.2.1) (hls:s.2.2.2=ls.map iA) (hdl:s.2.2.1.length=ls.length) (h1:t.1.length≤140737488355328) (h2:t.2.length≤140737488355328):
  Spec Tryz.prog 95 #[v0,kv t] w0 (fun v' w'=>∃bc,v'= .pointer (some ⟨bc,0,none⟩)∧w0.heap.size≤bc∧Step M w0 (ins M bc) w' aN∧Cu 216 (sL s.2.2.1 ls (dm t)) (-1) (ins M bc) w' bc):=by
 refine bE (args:=[_,_]) (fn:=Tryz.f95) Tryz.func95 rfl (n:=19) Tryz.ntmps95 ?_;have S:Step M w0 M w0 aN:=(ah _ _).cD (fun _ h=>h.elim) (fun _ h=>h.elim);refine au (ak ?_);refine eG (A:=RT.fd) rfl rfl hM (ru h1 h2) rfl (fun u0 w1 cQ s0 _=>?_);replace hs:=hs.le (by decide) s0.le;replace hM:=s0.lt hM;have:=S.size;replace S:=S.aE s0;refine al rfl rfl (ae (au ?_));apply kA (M:=M) mixed [aV.eq v0,aV.eq v0,aV.ptr ((RT.di).ptr) s.2.2,aV.ptr RT.di s.2.2,aV.eq (kv t),aV.eq (sv (dm t)),(aV.mk' (fun v w=>∃p,v= .tuple #[p,.bool (decide (dm t∈s.2.2.1))]∧mV s.2.2 (dm t) M p w) (fun⟨p,h1,h2⟩ s=>⟨p,h1,h2.step s⟩)),(aV.mk' (fun v w=>∃p,v= .tuple #[p,.bool (decide (dm t∈s.2.2.1))]∧mV s.2.2 (dm t) M p w) (fun⟨p,h1,h2⟩ s=>⟨p,h1,h2.step s⟩)),(aV.mk' (fun v w=>mV s.2.2 (dm t) M v w) (fun h s=>h.step s)),aV.eq (.bool (decide (dm t∈s.2.2.1))),(aV.mk' (fun v w=>mV s.2.2 (dm t) M v w) (fun h s=>h.step s)),aV.eq (.bool (decide (dm t∈s.2.2.1)))]
 ·rfl
 ·refine an ?_ ?_
  ·intro wD E sD;refine aj rfl rfl ?_;exact ae ⟨rfl,rfl,_,rfl,rfl,ah _ _⟩
  refine an ?_ ?_
  ·intro wD E sD;refine ao (bJ rfl hs.fA rfl ?_);exact ae ⟨rfl,rfl,_,rfl,rfl,ah _ _⟩
  refine an ?_ ?_
  ·intro wD E sD;refine ao ?_;refine aA (M:=M) (A:=RT.se) (B:=(RT.di).ptr) eH rfl rfl vF (by decide) Q1 rfl rfl (by decide) hs sD.le (fun uf fB=>?_);exact ae ⟨rfl,rfl,_,rfl,fB,ah _ _⟩
  refine an ?_ ?_
  ·intro wD E sD;intro v2 kB;refine aY (M:=M) eI rfl rfl rfl rfl rfl (show bL ((RT.di).ptr) M wD v2 s.2.2 from kB) (ar _ _) (fun vd K3=>?_);exact ae ⟨rfl,rfl,_,rfl,pW.1 K3,ah _ _⟩
  refine an ?_ ?_
  ·intro wD E sD;refine cc (M:=M) (A:=RT.fd) bG rfl jW (by decide) rfl rfl rfl cQ sD.le (fun vt KY=>?_);obtain rfl:=iB KY;exact ae ⟨rfl,rfl,_,rfl,rfl,ah _ _⟩
  refine an ?_ ?_
  ·intro wD E sD;refine ao ?_;refine aS rfl rfl UX (zY (t:=t) _ (sD.lt hM) h1 h2) (fun r5 w5 hc=>?_);obtain⟨rfl,s5⟩:=hc;exact ae ⟨rfl,rfl,_,rfl,rfl,s5⟩
  refine an ?_ ?_
  ·intro wD E sD;intro v3 lv;refine ao (ao ?_);refine aS rfl rfl XG (find_spec (k:=dm t) _ (sD.lt hM) (show bL RT.di M wD v3 s.2.2 from lv) nP (by rw[hls,cr];exact hdl)) (fun r6 w6 hc=>?_);obtain⟨s6,hr⟩:=hc;refine ae ⟨rfl,rfl,_,rfl,?_,s6⟩;rcases hr with⟨j,p,tl,rfl,h3,h4,h5⟩|⟨rfl,h3⟩
   ·exact⟨p,by rw[decide_eq_true (aQ h3)],.inl ⟨j,tl,h3,h4,h5⟩⟩
   ·exact⟨_,by rw[decide_eq_false h3],.inr ⟨rfl,h3⟩⟩
  refine an ?_ ?_
  ·intro wD E sD;intro v6 nS;refine aj rfl rfl ?_;exact ae ⟨rfl,rfl,_,rfl,nS,ah _ _⟩
  refine an ?_ ?_
  ·intro wD E sD;intro v7 qH;obtain⟨p,rfl,hp⟩:=qH;refine b5 rfl rfl rfl ?_;exact ae ⟨rfl,rfl,_,rfl,hp,ah _ _⟩
  refine an ?_ ?_
  ·intro wD E sD;intro v7 qH;obtain⟨p,rfl,hp⟩:=qH;refine b5 rfl rfl rfl ?_;exact ae ⟨rfl,rfl,_,rfl,rfl,ah _ _⟩
  refine an ?_ ?_
  ·intro wD E sD;intro v8 tn;intro v6 nS;refine ao (ao ?_);intro v2 kB;intro v3 lv;refine ao (ao ?_);intro v6 nS;intro v7 qH;intro v8 tn;refine al rfl rfl ?_;exact ae ⟨rfl,rfl,_,rfl,tn,ah _ _⟩
  refine an ?_ ?_
  ·intro wD E sD;refine ao ?_;intro v10 iU;refine ao (ao ?_);intro v2 kB;intro v3 lv;refine ao (ao ?_);intro v6 nS;intro v7 qH;intro v8 tn;refine ao ?_;intro v10 iU;refine al rfl rfl ?_;exact ae ⟨rfl,rfl,_,rfl,rfl,ah _ _⟩
  exact fC
 ·intro BE lr;refine ao (ao ?_);intro Dg mU;intro JW xB;refine ao (ao ?_);intro afc XH;intro RA Ky;intro XI Pj;refine ao ?_;intro K5 rG;refine ao ?_;replace rG:mV s.2.2 (dm t) M K5 BE:=rG;have hF:=rG;replace hM:=lr.lt hM;replace S:=S.aE lr;replace hs:=hs.le (by decide) lr.le;replace cQ:=cQ.le (by decide) lr.le;refine au (ak (aj rfl rfl ?_))
  refine aS rfl rfl afq (Dm (l:=sL s.2.2.1 ls (dm t)) _ hM (by
   rcases hF with⟨j,tl,L3,uB,FF⟩|⟨h,jU⟩
   ·rw[hls,gG]at uB;obtain⟨l,MB,rfl⟩:=lz.1 uB;exact .inl (by rw[uj nP.nodup L3 MB];exact FF)
   ·exact .inr ⟨h,p6 jU⟩)) (fun r2 w2 hc=>?_)
  obtain⟨bc,rfl,hbc,s2,hcu⟩:=hc;refine al rfl rfl (ae (aW ?_));exact a8 rfl rfl ⟨bc,rfl,by have:=S.size;omega,S.aE s2,hcu⟩
end Go.K
namespace Go.K
open Go.Proofs
namespace TKErsB
theorem E70:Enters Tryz.prog 70:=enters Tryz.func70 rfl (by decide)
theorem E95:Enters Tryz.prog 95:=enters Tryz.func95 rfl (by decide)
theorem E96:Enters Tryz.prog 96:=enters Tryz.func96 rfl (by decide)
end TKErsB
open TKErsB
set_option maxRecDepth 10000
structure Ud (l:List Po):Prop where
 may:dH (-1) l=true
 ps:∀p∈l,p.2.length≤1099511627776
 by_:(dw (-1) l).length≤1099511627776
 ln:l.length≤1099511627776
theorem Si {L:List En} (hF:∀e∈L,iT e.1) (hn:L.length≤1000000) (k:List UInt8):Ud (pk L k):=by
 have h1:=nf k L 0 hF;have jb:dH (-1) (pk L k)=true:=qm k L 0 (-1) hF (by omega) (by omega);have nY:∀p∈pk L k,p.2.length≤500:=fun p hp=>(h1.2 p hp).2.2
 obtain⟨h2,h3⟩:=nJ (pk L k) (-1) 500 (by omega) jb nY (by omega);have hl:(pk L k).length≤L.length:=h1.1;exact⟨jb,fun p hp=>by have:=nY p hp;omega,by omega,by omega⟩
end Go.K
namespace Go.K
open Go.Proofs
namespace TKBldJ
theorem my:TI Tryz.prog 56 (.slice none 0 0) 1 24:=by unfold TI;kernel_rfl
theorem y7:TI Tryz.prog 58 (.agg #[(.slice none 0 0),(.slice none 0 0),(.slice none 0 0),(.slice none 0 0)]) 4 96:=by unfold TI;kernel_rfl
theorem fX:TI Tryz.prog 107 (.slice none 0 0) 1 24:=by unfold TI;kernel_rfl
theorem Ue:Enters Tryz.prog 27:=enters Tryz.func27 rfl (by decide)
theorem E56:Enters Tryz.prog 56:=enters Tryz.func56 rfl (by decide)
theorem E57:Enters Tryz.prog 57:=enters Tryz.func57 rfl (by decide)
theorem E58:Enters Tryz.prog 58:=enters Tryz.func58 rfl (by decide)
theorem E59:Enters Tryz.prog 59:=enters Tryz.func59 rfl (by decide)
end TKBldJ
open TKBldJ
set_option maxRecDepth 10000
set_option maxHeartbeats 4000000 in
theorem x5 {M:aU} {L:List En} {v0:Value} (w0:World) (hM:Lt M w0) (hv:(RT.en.sl).V M w0 L v0) (hl:∀e∈L,∀f∈e.1.2,f.1.length≤900000∧f.2.length≤900000) (hn:L.length≤100000) (hok:zT (-1) L=true):
  Spec Tryz.prog 15 #[v0] w0 (fun v w=>∃s,v= .tuple #[s,.int .i64 0]∧bL RT.se M w s (BG (jo L))∧Step M w0 M w aN):=by
 have fZ:=hM;have hF:=jT hok
 have T1:(keysOf L).length≤500000000:=by
  have h1:=(k9 L).nodup.length_le_of_subset (l₂:=gZ L) (fun x hx=>jS.1 hx);have:=kT hF;omega
 have Nr:∀k∈keysOf L,k.length≤43:=fun k hk=>uP hF k (jS.1 hk)
 refine bE (args:=[_]) (fn:=Tryz.f15) Tryz.func15 rfl (n:=63) Tryz.ntmps15 ?_;have S:Step M w0 M w0 aN:=(ah _ _).cD (fun _ h=>h.elim) (fun _ h=>h.elim);refine au (ak (al rfl rfl (al rfl rfl (ae (au (ak ?_))))));refine aS rfl rfl E56 (Kb (Z:=fun k=>w0.heap.size≤k) (B:=w0.heap.size) _ hM (bw _) (fun k hk=>hk)) (fun r1 w1 hc=>?_);obtain⟨M1,b1,rfl,_,gO,s1⟩:=hc;replace gO:=gO.Hq (Z':=fun k=>w0.heap.size≤k∧k<w1.heap.size) (fun c hc ek=>⟨hc,ek⟩);replace hv:=hv.le s1.le;replace hM:=s1.lt hM;have:=S.size;replace S:=S.aE s1;refine al rfl rfl (ae (au (ak ?_)));refine eu M1 y7 rfl (fun gA Qs ack acm Cf xe=>?_);obtain⟨I7,xf⟩:∃M',M'=ins M1 gA:=⟨_,rfl⟩;rw[←xf]at xe;have xg:I7 gA:=by rw[xf];exact .inl rfl
 change Qs.heap[gA]? =some (.cells #[.slice none 0 0,.slice none 0 0,.slice none 0 0,.slice none 0 0] _ _)at Cf;replace hv:=hv.le xe.le;replace gO:=gO.bC xe;replace hM:=xe.lt hM;have:=S.size;replace S:=S.aE xe;refine ae (au (au (ak (aj rfl rfl (bF dK rfl hv rfl (aj rfl rfl (ae (bu ?_))))))));refine de (σ:=Nat×Value×Value) (fun q=>[(4,.pointer (some ⟨b1,0,none⟩)),(5,.pointer (some ⟨gA,0,none⟩)),(12,v0),(13,.int .i64 (L.length:Int)),(14,.int .i64 (q.1:Int))]) (fun q w=>∃M' words,Lt M' w∧Step M w0 M' w aN∧(RT.en.sl).V M' w L v0∧nK (ZP w0.heap.size gA q.2.1 q.2.2) M' w w0.heap.size b1 (L.take q.1) words (mT (-1) (L.take q.1))∧w.heap[gA]? =some (.cells #[q.2.1,q.2.2,.slice none 0 0,.slice none 0 0] 58 (0,0))∧M' gA∧Own (RT.int .i64) 3 M' w w0.heap.size q.2.1 ((L.take q.1).map (·.1.1))∧Own (RT.int .i64) 3 M' w w0.heap.size q.2.2 ((L.take q.1).map (·.2))∧jE q.2.1 q.2.2∧0≤words∧words≤500*(q.1:Int)∧q.1≤L.length) (fun q=>L.length-q.1) (0,.slice none 0 0,.slice none 0 0) (.cons rfl (.cons rfl (.cons rfl (.cons rfl (.cons rfl .nil))))) ?_ ?_
 ·exact⟨_,0,hM,S,hv,gO.Hq (Z':=ZP w0.heap.size gA (.slice none 0 0) (.slice none 0 0)) (fun c hc ek=>⟨hc.1,(fun h=>by have:=hc.2;omega),(fun h=>by cases h),(fun h=>by cases h)⟩),Cf,xg,dO _ _ _ _ _,dO _ _ _ _ _,jE.nil _,by omega,by omega,bM _⟩
 ·clear hM S hv gO;rintro⟨i,vi,vs⟩ w ⟨M2,words,hM,S,hv,gO,g2,cB,gB,gE,Hg,hw1,hw2,hi⟩;dsimp only at gO g2 gB gE Hg hw2 hi ⊢;refine au (ak (cu rfl rfl rfl (ae (au ?_))));refine bW rfl (fun c4=>?_) (fun c4=>?_)
  ·refine bg (au (bu (au (ak ?_))));refine bS (M:=M2) dK yO rfl rfl rfl hv (ar _ _) (by omega) (fun u5 e GZ gV=>?_);rw[aK]at GZ;obtain⟨Pk,Sj⟩:=KV hok GZ;have hem:=aQ GZ;refine cc (M:=M2) (A:=RT.en) cV rfl yO (by decide) rfl rfl rfl gV (ar _ _) (fun v5 oz=>?_);obtain⟨Uf,BN⟩:=R6 oz;refine mG (A:=RT.en) (M:=M2) yO rfl rfl rfl rfl rfl (by assumption) (ar _ _) hM (fun Ry anG pZ Dn anH=>?_);have:=av g2;replace cB:=(Dn.mem _ this).2 cB;replace g2:=Dn.aX g2;replace hv:=hv.le Dn.le;replace gB:=gB.bC Dn;replace gE:=gE.bC Dn;replace gO:=gO.bC Dn;replace hM:=Dn.lt hM;have:=S.size;replace S:=S.aE Dn;refine ae (au (au (ak (aj rfl rfl ?_))));refine cc (M:=M2) (A:=RT.en) cV rfl yO (by decide) rfl rfl rfl pZ (ar _ _) (fun v6 nS=>?_);refine aS rfl rfl E57 (Kd (Z:=ZP w0.heap.size gA vi vs) _ hM (fun k hk=>⟨by have:=S.size;omega,fun h=>by have:=av g2;omega,fun h=>by have:=(gB.base k h).2;omega,fun h=>by have:=(gE.base k h).2;omega⟩) gO (by have:=S.size;omega) nS (hl e hem) (fun x hx=>hF x (mX hx)) (by simp;omega) (by omega)) (fun r6 w6 hc=>?_);obtain⟨M6,HY,s6,rfl,_,PX⟩:=hc;replace gO:=PX Pk;have OR:(mP e).length≤500:=(hF e hem).many;refine bO (v':= .int .i64 0) (by rw[Pk]) ?_;replace gB:=gB.step s6 (fun c hc h=>h.1.2.2.1 hc);replace gE:=gE.step s6 (fun c hc h=>h.1.2.2.2 hc);replace cB:=(s6.mem _ (av g2)).2 cB;replace g2:=s6.b9 g2 (fun h=>h.1.2.1 rfl);replace hv:=hv.le s6.le;replace pZ:=pZ.le (by decide) s6.le;replace S:=S.db s6 (fun k hk=>hk.1.1);replace hM:=HY;rw[Sj.symm]at gO;refine al rfl rfl (ae (au (ak (aj rfl rfl (eC rfl rfl rfl (ae (T.BI rfl ((fun h=>h rfl)) (bg ?_))))))));have g2p:=g2;have XS:=cB
   have XD:=hv;have XT:=gO;have La:=gB;have Lb:=gE;have hMp:=hM;have Sp:=S;obtain⟨P6,hP6⟩:∃P6:Value→World→Prop,P6=fun v w'=>Own (RT.int .i64) 3 (qw v) w' w0.heap.size v ((L.take i).map (·.1.1)++[e.1.1])∧(∀c,v.ownBlock=some c→w6.heap.size≤c∨vi.ownBlock=some c):=⟨_,rfl⟩
   have h6:∀{v:Value} {w w':World},P6 v w→Step M6 w M6 w' aN→P6 v w':=fun {v w w'} h s=>by rw[hP6]at h ⊢;exact⟨h.1.Pf s (fun _ _ h=>h),h.2⟩
   apply T.Xu (M:=M6) [0,1,2,3,4,5,6,7,8,9,10,11,13,12,14,15,16] 13 12 37 (.pointer (some ⟨gA,0,none⟩)) [(6,kb vi)] [aV.eq (.pointer (some ⟨gA,0,none⟩)),aV.eq vi,aV.ptr RT.dc e.1,aV.ptr (RT.int .i64) e.1.1,aV.eq (.int .i64 e.1.1),aV.V ((RT.int .i64).sl) [e.1.1],(aV.mk' (fun v w=>P6 v w) (fun h s=>h6 h s)),aV.eq (.pointer (some ⟨gA,1,none⟩)),aV.eq vs,aV.ptr (RT.int .i64) e.2,aV.eq (.int .i64 e.2),aV.V ((RT.int .i64).sl) [e.2],aV.eq (.pointer (some ⟨gA,0,none⟩))] mixed
   ·simp+decide only[wC,qv,eO,qW,iX,iY,kK,eZ,iO,lJ,cond_true,cond_false,Nat.reduceBEq,Nat.reduceAdd,beq_self_eq_true];rfl
   ·rfl
   ·rfl
   ·rfl
   ·rfl
   ·rfl
   ·rfl
   ·rfl
   ·rfl
   ·rfl
   ·rfl
   ·rfl
   ·exact fun ρ w h=>ET (size:=1) (o:=0) (o':=0) bR rfl rfl gT (by decide) (h (.tmp 5) _ rfl) w
   ·intro p hp b hb;simp only[ew,List.not_mem_nil,or_false]at hp;subst hp;exact gB.mut_ b hb
   ·exact fun p hp=>by
     simp only[ew,List.not_mem_nil,or_false]at hp;subst hp;show(6:Nat)≠12;decide
   ·exact vM.st (by exact⟨fun _ _ _ _=>trivial,⟨fun _ _ _ _=>trivial,⟨fun _ _ _ _=>trivial,⟨fun _ _ _ _=>trivial,⟨fun _ _ _ _=>trivial,⟨fun _ _ _ _=>trivial,⟨fun p hp b hb=>(by simp at hp),⟨fun _ _ _ _=>trivial,⟨fun _ _ _ _=>trivial,⟨fun _ _ _ _=>trivial,⟨fun _ _ _ _=>trivial,⟨fun _ _ _ _=>trivial,⟨fun _ _ _ _=>trivial,trivial⟩⟩⟩⟩⟩⟩⟩⟩⟩⟩⟩⟩⟩)
   intro wR9 XU;have Lc:=XU M6;have:=av g2;replace cB:=(Lc.mem _ this).2 cB;replace g2:=Lc.aX g2;replace hv:=hv.le Lc.le;replace pZ:=pZ.le (by decide) Lc.le;replace gB:=gB.bC Lc;replace gE:=gE.bC Lc;replace gO:=gO.bC Lc;replace hM:=Lc.lt hM;have:=S.size;replace S:=S.aE Lc;have g2R:=g2;have XV:=gB;have anK:=gE;have hz6:=Lc.size;refine⟨?_,?_⟩
   ·refine bB ?_ ?_
    ·intro wD E sD;replace sD:Step M6 _ M6 wD (kb vi):=sD;refine bI (o':=0) bR rfl rfl gT (by decide) rfl rfl ?_;exact ae ⟨rfl,rfl,_,rfl,rfl,ah _ _⟩
    refine bB ?_ ?_
    ·intro wD E sD;replace sD:Step M6 _ M6 wD aN:=sD;refine ao (br ay rfl rfl rfl (sD.aX g2R) rfl ?_);exact ae ⟨rfl,rfl,_,rfl,rfl,ah _ _⟩
    refine bB ?_ ?_
    ·intro wD E sD;replace sD:Step M6 _ M6 wD (kb vi):=sD;refine aA (M:=M6) (A:=RT.en) (B:=RT.dc) cV rfl rfl lN (by decide) MY rfl rfl (by decide) pZ sD.le (fun uf fB=>?_);exact ae ⟨rfl,rfl,_,rfl,fB,ah _ _⟩
    refine bB ?_ ?_
    ·intro wD E sD;replace sD:Step M6 _ M6 wD (kb vi):=sD;intro v2 kB;refine aA (M:=M6) (A:=RT.dc) (B:=RT.int .i64) a7 rfl rfl I3 (by decide) TW rfl rfl (by decide) (show bL RT.dc M6 wD v2 e.1 from kB) (ar _ _) (fun uf fB=>?_);exact ae ⟨rfl,rfl,_,rfl,fB,ah _ _⟩
    refine bB ?_ ?_
    ·intro wD E sD;replace sD:Step M6 _ M6 wD (kb vi):=sD;intro v3 lv;refine bK (M:=M6) aB rfl rfl (show bL (RT.int .i64) M6 wD v3 e.1.1 from lv) (ar _ _) (fun jN=>?_);exact ae ⟨rfl,rfl,_,rfl,rfl,ah _ _⟩
    refine bB ?_ ?_
    ·intro wD E sD;replace sD:Step M6 _ M6 wD aN:=sD;refine ao ?_;refine ez (A:=RT.int .i64) (hn:=by decide) (M:=M6) ay I3 (by decide) rfl rfl (sD.lt hM) (ie Uf) (.inr ⟨rfl,rfl⟩) (fun uS wS hS sS=>?_);exact ae ⟨rfl,rfl,_,rfl,hS,sS⟩
    refine bB ?_ ?_
    ·intro wD E sD;replace sD:Step M6 _ M6 wD aN:=sD;refine ao ?_;intro v5 oz;replace sD:Step M6 wR9 M6 wD aN:=sD;refine Rg.kY (M:=M6) (base:=w0.heap.size) ay I3 rfl rfl rfl rfl (XV.bC sD) (show((RT.int .i64).sl).V M6 wD [e.1.1] v5 from oz) (ar _ _) (by simp;omega) (by simp;omega) (by have:=sD.size;have:=S.size;omega) (fun vA wA hoA sA hFA=>?_);exact ae ⟨rfl,rfl,_,rfl,by show P6 vA wA;rw[hP6];exact⟨hoA.lone,fun c hc=>(hFA c hc).elim (fun h=> .inl (by have:=sD.size;omega)) .inr⟩,sA.back⟩
    refine bB ?_ ?_
    ·intro wD E sD;replace sD:Step M6 _ M6 wD (kb vi):=sD;refine bI (o':=1) bR rfl rfl gT (by decide) rfl rfl ?_;exact ae ⟨rfl,rfl,_,rfl,rfl,ah _ _⟩
    refine bB ?_ ?_
    ·intro wD E sD;replace sD:Step M6 _ M6 wD (kb vi):=sD;refine ao (br ay rfl rfl rfl (sD.b9 g2R (fun h=>XV.fc g2R (by decide) h)) rfl ?_);exact ae ⟨rfl,rfl,_,rfl,rfl,ah _ _⟩
    refine bB ?_ ?_
    ·intro wD E sD;replace sD:Step M6 _ M6 wD (kb vi):=sD;refine aA (M:=M6) (A:=RT.en) (B:=RT.int .i64) cV rfl rfl I3 (by decide) VF rfl rfl (by decide) pZ sD.le (fun uf fB=>?_);exact ae ⟨rfl,rfl,_,rfl,fB,ah _ _⟩
    refine bB ?_ ?_
    ·intro wD E sD;replace sD:Step M6 _ M6 wD (kb vi):=sD;intro v9 qi;refine bK (M:=M6) aB rfl rfl (show bL (RT.int .i64) M6 wD v9 e.2 from qi) (ar _ _) (fun jN=>?_);exact ae ⟨rfl,rfl,_,rfl,rfl,ah _ _⟩
    refine bB ?_ ?_
    ·intro wD E sD;replace sD:Step M6 _ M6 wD (kb vi):=sD;refine ao ?_;refine ez (A:=RT.int .i64) (hn:=by decide) (M:=M6) ay I3 (by decide) rfl rfl (sD.lt hM) (ie BN) (.inr ⟨rfl,rfl⟩) (fun uS wS hS sS=>?_);exact ae ⟨rfl,rfl,_,rfl,hS,sS⟩
    refine bB ?_ ?_
    ·intro wD E sD;replace sD:Step M6 _ M6 wD (kb vi):=sD;refine ao (ao ?_);intro v2 kB;intro v3 lv;refine ao ?_;intro v5 oz;intro v6 nS;refine ao (ao (bI (o':=0) bR rfl rfl gT (by decide) rfl rfl ?_));exact ae ⟨rfl,rfl,_,rfl,rfl,ah _ _⟩
    exact cx.nil
   ·intro O7 Bd;replace Bd:Step M6 _ M6 O7 (kb vi):=Bd;refine ao (ao ?_);intro adl Kg;intro anN ajC;refine ao ?_;intro NU uV;intro Bm Gg;refine ao (ao ?_);intro anO ajD;refine ao ?_;intro XW E2;refine ao ?_;replace Gg:P6 Bm O7:=Gg;rw[hP6]at Gg;obtain⟨uJ,hb9⟩:=Gg;replace E2:((RT.int .i64).sl).V M6 O7 [e.2] XW:=E2;have sX:Step M6 w6 M6 O7 (kb vi):=(Lc.cD (fun _ h=>h.elim) (fun b h=>La.mut_ b h)).trans Bd (fun b _ h=>h);have afv:=Lb.step sX (fun c hc h=>Hg c h hc);refine Rg.kY (M:=M6) (base:=w0.heap.size) ay I3 rfl rfl rfl rfl afv E2 (ar _ _) (by simp;omega) (by simp;omega) (by have:=Sp.size;have:=sX.size;omega) (fun v12 TU afw xh XX=>?_)
    have Ev:∀c,Bm.ownBlock=some c→vs.ownBlock≠some c:=fun c hc hv=>by
     rcases hb9 c hc with h|h
     ·have:=(Lb.base c hv).2;omega
     ·exact Hg c h hv
    have XY:=uJ.Pf xh (fun c hc h=>Ev c hc h)
    have XZ:jE v12 Bm:=fun c hc hc6=>by
     rcases XX c hc with h|h
     ·have:=(uJ.base c hc6).2;omega
     ·exact Ev c hc6 h
    have NT:∀c,v12.ownBlock=some c→w6.heap.size≤c∨vs.ownBlock=some c:=fun c hc=>(XX c hc).elim (fun h=> .inl (by have:=sX.size;omega)) .inr
    have sZ:Step M6 w6 (lA M6 v12) TU (fun k=>kb vi k∨kb vs k):=(sX.cD (fun _ h=> .inl h) (fun b h=>h.elim (La.mut_ b) (Lb.mut_ b))).trans xh (fun b _ h=> .inr h);obtain⟨X0,Sk⟩:∃M',M'=lA (lA M6 v12) Bm:=⟨_,rfl⟩;have sW:Step M6 w6 X0 TU (fun k=>kb vi k∨kb vs k):=by rw[Sk];exact sZ.aeU (fun c hc=>⟨(XY.base c hc).2,(hb9 c hc).elim .inl (fun h=> .inr (.inr (La.mut_ c h)))⟩)
    have gB:=XY.MH (M':=X0) (by rw[Sk];exact fun b hb=> .inl hb);have gE:=afw.MH (M':=X0) (by rw[Sk];exact fun b hb=> .inr (.inl hb));have cB:=(sW.mem _ (av g2p)).2 XS;have g2:=sW.b9 g2p (fun h=>h.elim (La.fc g2p (by decide)) (Lb.fc g2p (by decide)));have gO:=((XT.Hq (Z':=fun k=>ZP w0.heap.size gA vi vs k∧ZP w0.heap.size gA Bm v12 k) (fun c hc ek=>⟨hc,hc.1,hc.2.1,fun h=>(hb9 c h).elim (fun h=>by omega) hc.2.2.1,fun h=>(NT c h).elim (fun h=>by omega) hc.2.2.2⟩)).step sW (fun k hk hz=>hk.elim hz.1.2.2.1 hz.1.2.2.2)).Hq (Z':=ZP w0.heap.size gA Bm v12) (fun c hc _=>hc.2);have hv:=XD.le sW.le;have S:=Sp.db sW (fun k hk=>hk.elim (fun h=>(La.base k h).1) (fun h=>(Lb.base k h).1));have hM:=sW.lt hMp;refine ae ⟨rfl,rfl,fun h=>absurd rfl h,?_⟩;refine cw (M:=X0) gT rfl rfl g2 rfl (by obtain⟨_,_,he,_⟩:=gB.isSlice;rw[he];rfl) cB (fun VX g14 lu=>?_);replace g14:VX.heap[gA]? =some (.cells #[Bm,vs,.slice none 0 0,.slice none 0 0] 58 (0,0)):=g14;replace gB:=gB.step lu (fun c hc (h:c=gA)=>gB.fc g2 (by decide) (h▸hc));replace gE:=gE.step lu (fun c hc (h:c=gA)=>gE.fc g2 (by decide) (h▸hc));replace cB:=(lu.mem _ (av g2)).2 cB;replace gO:=gO.step lu (fun k (hk:k=gA) hz=>hz.2.1 hk);replace hv:=hv.le lu.le;replace S:=S.db lu (fun k (hk:k=gA)=>by rw[hk];omega);replace hM:=lu.lt hM;clear g2;have g2:=g14;refine ae ⟨rfl,rfl,fun h=>absurd rfl h,?_⟩;refine bI (o':=1) bR rfl rfl gT (by decide) rfl rfl ?_;refine ae ⟨rfl,rfl,fun h=>absurd rfl h,?_⟩;refine cw (M:=X0) gT rfl rfl g2 rfl (by obtain⟨_,_,he,_⟩:=gE.isSlice;rw[he];rfl) cB (fun Pc g16 EN=>?_);replace g16:Pc.heap[gA]? =some (.cells #[Bm,v12,.slice none 0 0,.slice none 0 0] 58 (0,0)):=g16;replace gB:=gB.step EN (fun c hc (h:c=gA)=>gB.fc g2 (by decide) (h▸hc));replace gE:=gE.step EN (fun c hc (h:c=gA)=>gE.fc g2 (by decide) (h▸hc));replace cB:=(EN.mem _ (av g2)).2 cB
    replace gO:=gO.step EN (fun k (hk:k=gA) hz=>hz.2.1 hk);replace hv:=hv.le EN.le;replace S:=S.db EN (fun k (hk:k=gA)=>by rw[hk];omega);replace hM:=EN.lt hM;clear g2;have g2:=g16;refine ae ⟨rfl,rfl,fun h=>absurd rfl h,?_⟩;refine gX (ak (bQ rfl rfl rfl (by omega) (aj rfl rfl (ae ?_))));have et:L.take (i+1)=L.take i++[e]:=by rw[bX,GZ,cq]
    rw[et]at gO;refine⟨rfl,(i+1,Bm,v12),(.cons rfl (.cons rfl (.cons rfl (.cons rfl (.cons rfl .nil))))),?_,?_⟩
    ·exact⟨_,_,hM,S,hv,by rw[et];exact gO,g2,cB,by rw[et,dF];exact gB,by rw[et,dF];exact gE,XZ.symm,by omega,by dsimp only;omega,by dsimp only;omega⟩
    ·dsimp only;omega
  ·refine cP (au (ak ?_));have hLi:L.take i=L:=bm (by omega);rw[hLi]at gO gB gE;refine aj rfl rfl ?_;refine aS rfl rfl E58 (EF _ hM gO hF (by omega)) (fun rk w11 hc=>?_);obtain⟨nQ,tq⟩:=hc;have:=av g2;replace cB:=(tq.mem _ this).2 cB;replace g2:=tq.aX g2;replace hv:=hv.le tq.le;replace gB:=gB.bC tq;replace gE:=gE.bC tq;replace gO:=gO.bC tq;replace hM:=tq.lt hM;have:=S.size;replace S:=S.aE tq;refine bI (o':=2) bR rfl rfl ph (by decide) rfl rfl ?_;refine cw (M:=M2) ph rfl rfl g2 rfl (iV nQ rfl rfl) cB (fun Cs dd fI=>?_);change Cs.heap[_]? =some (Obj.cells #[vi,vs,rk,.slice none 0 0] _ _)at dd;have:=av g2;replace cB:=(fI.mem _ this).2 cB;replace hv:=hv.le fI.le;replace nQ:=nQ.le fI.le;replace gB:=gB.step fI (fun c hc (h:c=gA)=>gB.fc g2 (by decide) (h▸hc));replace gE:=gE.step fI (fun c hc (h:c=gA)=>gE.fc g2 (by decide) (h▸hc));replace gO:=gO.stepT fI (by first|exact fun k hk=>by(obtain⟨cs,hc⟩:=ix.isCells hk;exact⟨cs,_,hc,by decide,by decide,by decide⟩)|exact fun k (hk:k=gA)=>⟨_,_,hk▸g2,by decide,by decide,by decide⟩);replace hM:=fI.lt hM;have:=S.size;replace S:=S.trans fI (fun k hk h=>by have h:_=_:=h;subst h;first|(exfalso;omega)|(show _≤_;omega)|exact⟨by first|omega|assumption,(S.mem _ hk).1 ((fI.mem _ (av g2)).1 cB)⟩|exact .inl rfl|exact .inr rfl|exact .inr (.inl rfl)|exact .inr (.inr rfl)|exact rfl);have so:=dd;clear g2;have g2:=so;clear so;refine ae (au (au (ak (bI (o':=2) bR rfl rfl ph (by decide) rfl rfl (br aJ rfl rfl rfl g2 rfl (bO (v':=rk) rfl (bF aJ rfl nQ rfl (aj rfl rfl (ae (bu ?_))))))))));refine de (σ:=Nat×Value) (fun q=>[(4,.pointer (some ⟨b1,0,none⟩)),(5,.pointer (some ⟨gA,0,none⟩)),(44,rk),(45,.int .i64 ((keysOf L).length:Int)),(46,.int .i64 (q.1:Int))]) (fun q w=>∃M',Lt M' w∧Step M w0 M' w aN∧nK (ZP w0.heap.size gA vi vs) M' w w0.heap.size b1 L words (mT (-1) L)∧w.heap[gA]? =some (.cells #[vi,vs,rk,q.2] 58 (0,0))∧M' gA∧Own (RT.int .i64) 3 M' w w0.heap.size vi (L.map (·.1.1))∧Own (RT.int .i64) 3 M' w w0.heap.size vs (L.map (·.2))∧Own ((RT.po).sl) 107 M' w w0.heap.size q.2 (((keysOf L).take q.1).map (pk L))∧(RT.str.sl).V M' w (keysOf L) rk∧q.1≤(keysOf L).length) (fun q=>(keysOf L).length-q.1) (0,.slice none 0 0) (.cons rfl (.cons rfl (.cons rfl (.cons rfl (.cons rfl .nil))))) ?_ ?_
   ·exact⟨_,hM,S,gO,g2,cB,gB,gE,dO _ _ _ _ _,nQ,bM _⟩
   ·clear hM S gO g2 cB gB gE nQ hv;rintro⟨i3,vl⟩ w ⟨M3,hM,S,gO,g2,cB,gB,gE,ix,nQ,hi3⟩;dsimp only at g2 ix hi3 ⊢;refine au (ak (cu rfl rfl rfl (ae (au ?_))));refine bW rfl (fun Nd=>?_) (fun Nd=>?_)
    ·refine bg (au (bu (au (ak ?_))));refine bS (M:=M3) aJ I9 rfl rfl rfl nQ (ar _ _) (by omega) (fun u14 k Sm afy=>?_);rw[aK]at Sm;refine aY (M:=M3) aM rfl rfl rfl rfl rfl afy (ar _ _) (fun vk hvk=>?_);obtain rfl:=dQ hvk;refine al rfl rfl (ae ?_);apply nr 4 [0,1] 2 aN mixed rfl rfl rfl rfl;intro Rs Kw;have pb:=Kw M3;have:=av g2;replace cB:=(pb.mem _ this).2 cB;replace g2:=pb.aX g2;replace nQ:=nQ.le pb.le;replace gB:=gB.bC pb;replace gE:=gE.bC pb;replace ix:=ix.bC pb;replace gO:=gO.bC pb;replace hM:=pb.lt hM;have:=S.size;replace S:=S.aE pb;refine bI (o':=3) bR rfl rfl my (by decide) rfl rfl ?_;refine ae ⟨rfl,rfl,rfl,?_⟩;refine br bH rfl rfl rfl (by first|assumption|exact cI pb (by assumption)) rfl ?_;refine ae ⟨rfl,rfl,rfl,?_⟩;refine aj rfl rfl ?_;refine ae ⟨rfl,rfl,rfl,?_⟩;refine aj rfl rfl ?_;refine ae ⟨rfl,rfl,rfl,?_⟩;refine dv ?_;refine⟨eA ⟨eM bR rfl my (by decide),⟨dx rfl g2 (fun h=>h),trivial⟩⟩,?_⟩;have kp:=eX aN Rs;refine aS rfl rfl E59 (EG (k:=k) _ hM gO hF (by omega) (by have:=Nr k (aQ Sm);omega)) (fun r15 VQ hc=>?_);obtain⟨vE,AW⟩:=hc;have:=av g2;replace cB:=(AW.mem _ this).2 cB;replace g2:=AW.aX g2;replace nQ:=nQ.le AW.le;replace gB:=gB.bC AW;replace gE:=gE.bC AW;replace ix:=ix.bC AW;replace gO:=gO.bC AW;replace hM:=AW.lt hM;have:=S.size;replace S:=S.aE AW;refine(fun(kp:eg _ _ _)=>ae ⟨rfl,rfl,fun _=>kp,?_⟩) (by first|exact kp|exact kp.mY (by assumption)|exact kp.goN (by assumption)|exact kp.go (by assumption) (fun _ _ h=>by first|exact h|exact h.elim));refine ez (A:=((RT.po).sl)) (hn:=by decide) (M:=M3) bH fX (by decide) rfl rfl hM (vE) (.inr ⟨rfl,rfl⟩) (fun ajF OZ x7 j9=>?_)
     have:=av g2;replace cB:=(j9.mem _ this).2 cB;replace g2:=j9.aX g2;replace nQ:=nQ.le j9.le;replace vE:=vE.le j9.le;replace gB:=gB.bC j9;replace gE:=gE.bC j9;replace ix:=ix.bC j9;replace gO:=gO.bC j9;replace hM:=j9.lt hM;have:=S.size;replace S:=S.aE j9;refine(fun(kp:eg _ _ _)=>ae ⟨rfl,rfl,fun _=>kp,?_⟩) (by first|exact kp|exact kp.mY (by assumption)|exact kp.goN (by assumption)|exact kp.go (by assumption) (fun _ _ h=>by first|exact h|exact h.elim));refine cz (M:=M3) (base:=w0.heap.size) bH fX rfl rfl rfl rfl ix x7 (ar _ _) (by simp;omega) (by simp;omega) (S.size) (fun Pl X1 ajG Sn qM=>?_);have:=av g2;replace cB:=(qM.mem _ this).2 cB;replace g2:=qM.b9 g2 (fun h=>by first|exact ix.dZ g2 h|exact ix.fc g2 (by decide) h|(have:=(ix.base _ h).1;omega));replace nQ:=nQ.le qM.le;replace vE:=vE.le qM.le;replace x7:=x7.le qM.le;replace gB:=gB.step qM (fun b h1 h2=>gB.jg ix (by decide) h1 h2);replace gE:=gE.step qM (fun b h1 h2=>gE.jg ix (by decide) h1 h2);replace gO:=gO.stepT qM (by first|exact fun k hk=>by(obtain⟨cs,hc⟩:=ix.isCells hk;exact⟨cs,_,hc,by decide,by decide,by decide⟩)|exact fun k (hk:k=gA)=>⟨_,_,hk▸g2,by decide,by decide,by decide⟩);replace hM:=qM.lt hM;have:=S.size;replace S:=S.cJ qM ix (bw _);replace ix:=Sn;refine ae ⟨rfl,rfl,fun h=>absurd rfl h,?_⟩;refine bI (o':=3) bR rfl rfl my (by decide) rfl rfl ?_;refine ae ⟨rfl,rfl,fun h=>absurd rfl h,?_⟩;refine cw (M:=X1) my rfl rfl g2 rfl (by obtain⟨_,_,he,_⟩:=ix.isSlice;rw[he];rfl) cB (fun X2 Pm p8=>?_);change X2.heap[_]? =some (Obj.cells #[vi,vs,rk,Pl] _ _)at Pm;have:=av g2;replace cB:=(p8.mem _ this).2 cB;replace nQ:=nQ.le p8.le;replace vE:=vE.le p8.le;replace x7:=x7.le p8.le;replace gB:=gB.step p8 (fun c hc (h:c=gA)=>gB.fc g2 (by decide) (h▸hc))
     replace gE:=gE.step p8 (fun c hc (h:c=gA)=>gE.fc g2 (by decide) (h▸hc));replace ix:=ix.step p8 (fun c hc (h:c=gA)=>ix.fc g2 (by decide) (h▸hc));replace gO:=gO.stepT p8 (by first|exact fun k hk=>by(obtain⟨cs,hc⟩:=ix.isCells hk;exact⟨cs,_,hc,by decide,by decide,by decide⟩)|exact fun k (hk:k=gA)=>⟨_,_,hk▸g2,by decide,by decide,by decide⟩);replace hM:=p8.lt hM;have:=S.size;replace S:=S.trans p8 (fun k hk h=>by have h:_=_:=h;subst h;first|(exfalso;omega)|(show _≤_;omega)|exact⟨by first|omega|assumption,(S.mem _ hk).1 ((p8.mem _ (av g2)).1 cB)⟩|exact .inl rfl|exact .inr rfl|exact .inr (.inl rfl)|exact .inr (.inr rfl)|exact rfl);have so:=Pm;clear g2;have g2:=so;clear so;refine ae ⟨rfl,rfl,fun h=>absurd rfl h,?_⟩;refine gX (ak (bQ rfl rfl rfl (by omega) (aj rfl rfl (ae ?_))));refine⟨rfl,(i3+1,Pl),(.cons rfl (.cons rfl (.cons rfl (.cons rfl (.cons rfl .nil))))),?_,?_⟩
     ·exact⟨_,hM,S,gO,g2,cB,gB,gE,by rw[bX,Sm,cq,dF];exact ix,nQ,by dsimp only;omega⟩
     ·dsimp only;omega
    ·refine cP (au (ak (gQ (vs:=[vi,vs,rk,vl]) bR rfl y7 rfl rfl rfl g2 ?_)));rw[bm (by omega)]at ix;have Wu:RT.pa.V M _ (jo L) _:=Hm (x:=jo L) (gB.close fZ S (by show(L.map _).length≤_;rw[cr];omega)) (gE.close fZ S (by show(L.map _).length≤_;rw[cr];omega)) (nQ.le (ly fZ S)) (ix.close fZ S (by show((keysOf L).map _).length≤_;rw[cr];omega));replace S:=S.back;replace hM:=S.lt fZ;refine aS rfl rfl Ue (rD (p:=jo L) _ hM Wu (Bg hF (by omega))) (fun r17 w17 hc=>?_);obtain⟨Ma,X3,_⟩:=hc;obtain⟨sg,rfl,yG⟩:=X3 (EU hok (by omega));replace S:=S.aE Ma;refine b5 rfl rfl rfl (b5 rfl rfl rfl (al rfl rfl (al rfl rfl (ae (aW ?_)))));exact fw rfl rfl rfl ⟨sg,rfl,yG,S⟩
end Go.K
namespace Go.K
open Go.Proofs
namespace TKSegF
theorem X4:placesOf Tryz.prog 127=[(0,1),(1,1)].map some:=by kernel_rfl
theorem Ug:Enters Tryz.prog 15:=enters Tryz.func15 rfl (by decide)
theorem E25:Enters Tryz.prog 25:=enters Tryz.func25 rfl (by decide)
theorem E67:Enters Tryz.prog 67:=enters Tryz.func67 rfl (by decide)
theorem E68:Enters Tryz.prog 68:=enters Tryz.func68 rfl (by decide)
theorem E69:Enters Tryz.prog 69:=enters Tryz.func69 rfl (by decide)
theorem E70:Enters Tryz.prog 70:=enters Tryz.func70 rfl (by decide)
end TKSegF
open TKSegF
set_option maxRecDepth 10000
theorem uk {id:Int}:∀(fs:List Fd) (i:Nat) (out:List Fd),nc (id,out)=0→nc (id,nG id i out fs)=0
 |[],_,_,h=>h
 |x::fs,i,out,h=>by
  unfold nG
  split
  ·split
   ·rename_i h1;exact uk fs _ _ h1
   ·exact uk fs _ _ h
  ·exact h
theorem oI {id:Int}:∀(fs:List Fd) (i:Nat) (out:List Fd),rp out→rp (nG id i out fs)
 |[],_,_,h=>h
 |x::fs,i,out,h=>by
  unfold nG
  split
  ·rename_i hi
   split
   ·exact oI fs _ _ (h.snoc (xm x hi))
   ·exact oI fs _ _ h
  ·exact h
theorem HB (d:Dc):nc (oR d)=0:=uk d.2 0 [] rfl
theorem Dp (d:Dc):rp (oR d).2:=oI d.2 0 [] (fun x h=>by cases h)
theorem Dq {e:En}:∀{L:List En} {last:Int},zT last (L++[e])=(zT last L&&decide (mu (mT last L) e=0))
 |[],last=>by show(decide (mu last e=0)&&true)=(true&&decide (mu last e=0));rw[Bool.and_true,eP]
 |x::L,last=>by rw[kG];show(decide (mu last x=0)&&zT x.2 (L++[e]))=(decide (mu last x=0)&&zT x.2 L&&decide (mu (mT x.2 L) e=0));rw[Dq (L:=L),Bool.and_assoc]
theorem x8 {e:En}:∀{L:List En} {last:Int},mT last (L++[e])=e.2
 |[],_=>rfl
 |x::L,last=>by simp only[kG,mT];exact x8
theorem Dr (l:List Dc) {a s:Int} (ha:0≤a) (hs:1≤s):∀k,zT (-1) (jG l a s k)=true∧mT (-1) (jG l a s k)<a+s*(k:Int)
 |0=>⟨rfl,by show(-1:Int)<_;simp;omega⟩
 |k+1=>by
  obtain⟨h1,h2⟩:=Dr l ha hs k;have e1:a+s*((k+1:Nat):Int)=a+s*(k:Int)+s:=by rw[Int.natCast_add,Int.mul_add];simp;omega
  cases h:l[k]? with
  |none=>rw[xp (List.getElem?_eq_none_iff.1 h),e1];exact⟨h1,by omega⟩
  |some d=>
   rw[xo h,Dq,x8,h1,e1]
   have:mu (mT (-1) (jG l a s k)) (oR d,a+s*(k:Int))=0:=by
    unfold mu;rw[if_neg (fun h=>h (HB d)),if_neg (by show¬(a+s*(k:Int)≤_);omega)]
   exact⟨by rw[this];rfl,by show a+s*(k:Int)<_;omega⟩
theorem Aa {l:List Dc} {a s:Int}:∀{k:Nat} {e:En},e∈jG l a s k→∃d,e.1=oR d
 |0,e,h=>by cases h
 |k+1,e,h=>by
  rw[jG]at h;rcases dE.1 h with h|h
  ·exact Aa h
  ·split at h
   ·rename_i d _;rw[cT.1 h];exact⟨d,rfl⟩
   ·cases h
theorem x9 {l:List Dc} {a s:Int} {k:Nat}:∀e∈jG l a s k,∀f∈e.1.2,f.1.length≤900000∧f.2.length≤900000:=fun e he f hf=>by
 obtain⟨d,hd⟩:=Aa he;rw[hd]at hf;have:=Dp d f hf;omega
abbrev Ld:List En:=[((4,[([116],[97])]),7)]
theorem Ds:words [97]=[[97]]:=by
 have h:fu [97]=[97]:=by rw[om (by simp)];simp[dec,B3,kd,j7,qg]
 unfold words;rw[h];simp[fT];rfl
theorem X5:zT (-1) Ld=true:=by
 have h:mu (-1) ((4,[([116],[97])]),7)=0:=by
  unfold mu nc;simp only[xk,Ds];decide
 show(decide (mu (-1) ((4,[([116],[97])]),7)=0)&&true)=true;rw[h];rfl
theorem Lg:ck [([116],[97])]=[(([116],[97]),0)]:=by
 show gx ([116],[97])++[]=_;unfold gx;rw[Ds];rfl
theorem X6:(pk Ld (dm ([116],[97]))).length=1:=by
 show(F3 0 (ck [([116],[97])]) (dm ([116],[97]))++[]).length=1;rw[Lg];decide
theorem sO {M:aU} (w0:World) (hM:Lt M w0):
  Spec Tryz.prog 23 #[] w0 (fun v w=>v= .bool true∧Step M w0 M w aN):=by
 refine bE (args:=[]) (fn:=Tryz.f23) Tryz.func23 rfl (n:=57) Tryz.ntmps23 ?_;have S:Step M w0 M w0 aN:=(ah _ _).cD (fun _ h=>h.elim) (fun _ h=>h.elim);refine au (ak (al rfl rfl (ae (au (ak ?_)))));refine aS rfl rfl Ug (x5 (L:=[]) _ hM jD (fun e h=>by cases h) (by decide) rfl) (fun r1 w1 hc=>?_);obtain⟨sa,rfl,HC,s1⟩:=hc;obtain⟨aa,rfl⟩:=HC.fA;replace hM:=s1.lt hM;have:=S.size;replace S:=S.aE s1;refine aj rfl rfl (b5 rfl rfl rfl (b5 rfl rfl rfl (al rfl rfl (al rfl rfl (ae (au (ak (eF (places:=[(0,1),(1,1)]) cv jz X4 rfl ⟨_,_,rfl,rfl,_,_,rfl,rfl,rfl⟩ (out:=[_,_]) ⟨0,[_],rfl,rfl,by simp[Value.cells],1,[_],rfl,rfl,by simp[Value.cells],rfl⟩ ?_))))))));refine ez (A:=RT.fd) (hn:=by decide) (M:=M) bj jz (by decide) rfl rfl hM (ru (t:=([116],[97])) (by decide) (by decide)) (.inl rfl) (fun X7 aca qN D8=>?_);replace HC:=HC.le (by decide) D8.le;replace hM:=D8.lt hM;have:=S.size;replace S:=S.aE D8;refine eF (places:=[(0,1),(1,1)]) a7 lN UU rfl ⟨_,_,rfl,rfl,_,_,rfl,rfl,rfl⟩ (out:=[_,_]) ⟨0,[_],rfl,rfl,by simp[Value.cells],1,[_],rfl,fg qN,by simp[Value.cells],rfl⟩ ?_;have UI:RT.dc.V M _ (4,[([116],[97])]) (.agg #[.int .i64 4,X7]):=eS (ie (by decide)) qN rfl rfl rfl rfl;refine eF (places:=[(0,2),(2,1)]) cV yO B43 rfl ⟨_,_,rfl,rfl,_,_,rfl,rfl,rfl⟩ (out:=[_,_,_]) ⟨0,[_,_],rfl,rfl,by simp[Value.cells],2,[_],rfl,rfl,by simp[Value.cells],rfl⟩ ?_;have hen:RT.en.V M _ ((4,[([116],[97])]),7) (.agg [.int .i64 4,X7,.int .i64 7].toArray):=Je UI (by decide);refine ez (A:=RT.en) (hn:=by decide) (M:=M) dK yO (by decide) rfl rfl hM (hen) (.inl rfl) (fun anQ Hw ya jn=>?_);replace HC:=HC.le (by decide) jn.le;replace qN:=qN.le jn.le;replace hM:=jn.lt hM;have:=S.size;replace S:=S.aE jn;refine aS rfl rfl Ug (x5 (L:=Ld) _ hM ya (fun e he f hf=>by simp only[Ld,cT]at he;subst he;simp only[cT]at hf;subst hf;decide) (by decide) X5) (fun r2 w2 hc=>?_)
 obtain⟨sb,rfl,Pn,s2⟩:=hc;obtain⟨ab,rfl⟩:=Pn.fA;replace HC:=HC.le (by decide) s2.le;replace qN:=qN.le s2.le;replace ya:=ya.le s2.le;replace hM:=s2.lt hM;have:=S.size;replace S:=S.aE s2;refine aj rfl rfl (b5 rfl rfl rfl (b5 rfl rfl rfl (al rfl rfl (al rfl rfl (ae (au (au (ak (aj rfl rfl (Rg.wL ux rfl rfl rfl (aj rfl rfl ?_)))))))))));refine Rg.DM (g:=20) rfl ((by simp)) (aq rfl rfl (aj rfl rfl (aq rfl rfl (Rg.wL ux rfl rfl rfl (aL rfl rfl rfl (ae (T.BI rfl ((by simp)) (bg (au (ak (aj rfl rfl ?_)))))))))));refine iE rfl rfl rfl (aj rfl rfl (Rg.pw (g:=26) rfl (rfl) (aq rfl rfl (aj rfl rfl (aq rfl rfl ?_)))));refine aS rfl rfl E67 (zW _ HC) (fun r wc hc=>?_);obtain⟨rfl,rfl⟩:=hc;refine aq rfl rfl (iE rfl rfl rfl (aR rfl rfl rfl (aj rfl rfl (Rg.pw (g:=31) rfl (rfl) (aq rfl rfl (aj rfl rfl (aq rfl rfl ?_)))))));refine aS rfl rfl E68 (xY _ hM rfl (by decide) HC) (fun r9 w9 hc=>?_);obtain⟨hk9,s9⟩:=hc;replace HC:=HC.le (by decide) s9.le;replace qN:=qN.le s9.le;replace ya:=ya.le s9.le;replace Pn:=Pn.le (by decide) s9.le;replace hM:=s9.lt hM;have:=S.size;replace S:=S.aE s9;refine aq rfl rfl (bF aJ rfl hk9 rfl (aq rfl rfl (iE rfl rfl rfl (aR rfl rfl rfl (aj rfl rfl (Rg.pw (g:=37) rfl (rfl) (aq rfl rfl (aj rfl rfl (aq rfl rfl (iE rfl rfl rfl (aR rfl rfl rfl ?_)))))))))));refine aj rfl rfl (Rg.pw (g:=41) rfl (rfl) (aq rfl rfl (aj rfl rfl (aq rfl rfl ?_))));refine aS rfl rfl E69 (Dh _ Pn) (fun r wc hc=>?_);obtain⟨rfl,rfl⟩:=hc;refine aq rfl rfl (iE rfl rfl rfl (aR rfl rfl rfl (aj rfl rfl (Rg.pw (g:=46) rfl (rfl) (aq rfl rfl (aj rfl rfl (aq rfl rfl ?_)))))));refine aS rfl rfl E70 (zX _ Pn) (fun r wc hc=>?_)
 obtain⟨rfl,rfl⟩:=hc;refine aq rfl rfl (iE rfl rfl rfl (aR rfl rfl rfl (aj rfl rfl (Rg.pw (g:=51) rfl (rfl) (aq rfl rfl (aj rfl rfl (aq rfl rfl (eF (places:=[(0,1),(1,1)]) bG jW TQ rfl ⟨_,_,rfl,rfl,_,_,rfl,rfl,rfl⟩ (out:=[_,_]) ⟨0,[_],rfl,rfl,by simp[Value.cells],1,[_],rfl,rfl,by simp[Value.cells],rfl⟩ (aq rfl rfl ?_)))))))));refine aS rfl rfl E25 (uT (ls:=(keysOf Ld).map (pk Ld)) (t:=([116],[97])) _ hM Pn (k9 Ld) rfl (by rw[cr];rfl) (by decide) (by decide)) (fun r30 w30 hc=>?_);obtain⟨rfl,Uh⟩:=hc;replace HC:=HC.le (by decide) Uh.le;replace qN:=qN.le Uh.le;replace ya:=ya.le Uh.le;replace Pn:=Pn.le (by decide) Uh.le;replace hM:=Uh.lt hM;have:=S.size;replace S:=S.aE Uh;refine aq rfl rfl (iE rfl rfl rfl (aR rfl rfl rfl (al rfl rfl (ae (aW ?_)))));have e:(sL (BG (jo Ld)).2.2.1 ((keysOf Ld).map (pk Ld)) (dm ([116],[97]))).length=1:=(congrArg List.length (K4 (L:=Ld) _)).trans X6;exact a8 rfl rfl ⟨by rw[e];rfl,S⟩
end Go.K
namespace Go.K
open Go.Proofs
namespace TKErsD
theorem X4:placesOf Tryz.prog 127=[(0,1),(1,1)].map some:=by kernel_rfl
theorem Ug:Enters Tryz.prog 15:=enters Tryz.func15 rfl (by decide)
end TKErsD
open TKErsD
set_option maxRecDepth 10000
end Go.K
namespace Go.K
open Go.Proofs
namespace TKPlc
theorem Sq:Enters Tryz.prog 148:=enters Tryz.func148 rfl (by decide)
end TKPlc
open TKPlc
set_option maxRecDepth 10000
def fY (fs:List Fd) (k:List UInt8):List (List UInt8):=match fs.find? (fun f=>decide (f.1=k))with|some f=>words f.2|none=>[]
theorem p9 {fs:List Fd} {k:List UInt8} {i:Nat} {x:Fd} (h:fs[i]? =some x) (hx:x.1=k) (jU:∀(j:Nat) y,j<i→fs[j]? =some y→y.1≠k):fY fs k=words x.2:=by
 have:fs.find? (fun f=>decide (f.1=k))=some x:=by
  induction fs generalizing i with
  |nil=>simp at h
  |cons y fs ih=>
   cases i with
   |zero=>simp at h;subst h;simp[hx]
   |succ i=>
    rw[List.find?_cons_of_neg (by simpa using jU 0 y (by omega) rfl)];exact ih (by simpa using h) (fun j z hj hz=>jU (j+1) z (by omega) (by simpa using hz))
 unfold fY;rw[this]
theorem Dt {fs:List Fd} {k:List UInt8} (h:∀f∈fs,f.1.length≤900000∧f.2.length≤900000):(fY fs k).length≤900001:=by
 unfold fY
 split
 ·rename_i f hf
  have:=lV f.2;have:=(h f (List.mem_of_find?_eq_some hf)).2;omega
 ·simp
theorem Bn {fs:List Fd} {k:List UInt8} (jU:∀y∈fs,y.1≠k):fY fs k=[]:=by
 unfold fY;rw[List.find?_eq_none.2 fun y hy=>by simpa using jU y hy]
def za (ws:List (List UInt8)) (x:List UInt8):List Int:=(ws.zipIdx.filter fun p=>decide (p.1=x)).map fun p=>(p.2:Int)
theorem Ab {ws:List (List UInt8)} {x y:List UInt8} {i:Nat} (h:ws[i]? =some y):za (ws.take (i+1)) x=if y=x then za (ws.take i) x++[(i:Int)]else za (ws.take i) x:=by
 have hi:=(aF.1 h).1;unfold za;rw[bX,h,cq,List.zipIdx_append,List.filter_append,dF];simp only[bU,Nat.min_eq_left (Nat.le_of_lt hi),Nat.zero_add,List.zipIdx_cons,List.zipIdx_nil];by_cases e:y=x
 ·rw[if_pos e];simp[e]
 ·rw[if_neg e];simp[e]
theorem yb (ws:List (List UInt8)) (x:List UInt8):(za ws x).length≤ws.length:=by
 unfold za;rw[cr];exact dJ (List.length_filter_le _ _) (by simp)
theorem uW {M:aU} {d:Dc} {k:List UInt8} {v0:Value} (w0:World) (hM:Lt M w0) (hd:RT.dc.V M w0 d v0) (hlen:∀f∈d.2,f.1.length≤900000∧f.2.length≤900000) (hdl:d.2.length≤1000000):
  Spec Tryz.prog 148 #[v0,sv k] w0 (fun v w=>(RT.str.sl).V M w (fY d.2 k) v∧Step M w0 M w aN):=by
 have fZ:=hM;refine bE (args:=[_,_]) (fn:=Tryz.f148) Tryz.func148 rfl (n:=28) Tryz.ntmps148 ?_;have S:Step M w0 M w0 aN:=(ah _ _).cD (fun _ h=>h.elim) (fun _ h=>h.elim);refine au (ak ?_);refine eG (A:=RT.dc) (a:=d) rfl rfl hM hd rfl (fun u0 w1 cQ s0 _=>?_);replace hM:=s0.lt hM;have:=S.size;replace S:=S.aE s0;refine al rfl rfl (ae (au (au (ak (al rfl rfl (ae (bu ?_)))))));refine de (σ:=Nat) (fun i=>[(1,sv k),(2,u0),(5,.int .i64 (i:Int))]) (fun i w=>Step M w0 M w aN∧bL RT.dc M w u0 d∧i≤d.2.length∧(∀(j:Nat) y,j<i→d.2[j]? =some y→y.1≠k)) (fun i=>d.2.length-i) 0 (.cons rfl (.cons rfl (.cons rfl .nil))) ?_ ?_
 ·exact⟨S,cQ,bM _,fun j y h=>absurd h (j5 _)⟩
 ·clear S cQ hM;rintro i w ⟨S,cQ,hi,jU⟩;have hM:=S.lt fZ;refine au (au (ak (aj rfl rfl ?_)));refine aA (M:=M) (A:=RT.dc) (B:=(RT.fd).sl) a7 rfl rfl qx (by decide) AU rfl rfl (by decide) cQ (ar _ _) (fun u21 Lh=>?_);refine aY (M:=M) bj rfl rfl rfl rfl rfl Lh (ar _ _) (fun v22 HD=>?_);refine bF bj rfl HD rfl (cu rfl rfl rfl (ae ?_));refine bW rfl (fun c2=>?_) (fun c2=>?_)
  ·refine bg (au (bu (au (ak ?_))));obtain⟨fx,jt⟩:∃x,d.2[i]? =some x:=⟨_,aI (by omega)⟩;have zg:=hlen _ (aQ jt);refine aA (M:=M) (A:=RT.dc) (B:=(RT.fd).sl) a7 rfl rfl qx (by decide) AU rfl rfl (by decide) cQ (ar _ _) (fun u40 Sr=>?_);refine aY (M:=M) bj rfl rfl rfl rfl rfl Sr (ar _ _) (fun v41 Ss=>?_);refine aj rfl rfl ?_;refine bS (M:=M) bj jz rfl rfl rfl Ss (ar _ _) (by omega) (fun u43 x fy St=>?_);rw[aK]at fy;obtain rfl:=aG (jt.symm.trans fy);refine aA (M:=M) (A:=RT.fd) (B:=RT.str) cv rfl rfl I9 (by decide) G3 rfl rfl (by decide) St (ar _ _) (fun u44 afC=>?_);refine aY (M:=M) aM rfl rfl rfl rfl rfl afC (ar _ _) (fun v45 afD=>?_);obtain rfl:=dQ afD;refine aj rfl rfl (Rg.rL rfl rfl rfl (ae ?_));refine bW rfl (fun c4=>?_) (fun c4=>?_)
   ·refine au (ak ?_);refine aA (M:=M) (A:=RT.dc) (B:=(RT.fd).sl) a7 rfl rfl qx (by decide) AU rfl rfl (by decide) cQ (ar _ _) (fun u50 Su=>?_);refine aY (M:=M) bj rfl rfl rfl rfl rfl Su (ar _ _) (fun v51 Sv=>?_);refine aj rfl rfl ?_;refine bS (M:=M) bj jz rfl rfl rfl Sv (ar _ _) (by omega) (fun X8 x fy vG=>?_);rw[aK]at fy;obtain rfl:=aG (jt.symm.trans fy);refine aA (M:=M) (A:=RT.fd) (B:=RT.str) cv rfl rfl I9 (by decide) Oz rfl rfl (by decide) vG (ar _ _) (fun u54 Lj=>?_);refine aY (M:=M) aM rfl rfl rfl rfl rfl Lj (ar _ _) (fun v55 Lk=>?_);obtain rfl:=dQ Lk;refine aS rfl rfl U2 (uH _ hM zg.2) (fun r6 w6 hc=>?_);obtain⟨hr6,s6⟩:=hc;replace cQ:=cQ.le (by decide) s6.le;replace hM:=s6.lt hM;have:=S.size;replace S:=S.aE s6;refine al rfl rfl (ae (aW ?_));exact a8 rfl rfl ⟨by rw[p9 jt c4 jU];exact hr6,S⟩
   ·refine bg (ak (aj rfl rfl (bQ rfl rfl rfl (by omega) (al rfl rfl (ae ?_)))));refine⟨rfl,i+1,(.cons rfl (.cons rfl (.cons rfl .nil))),?_,?_⟩
    ·exact⟨S,cQ,by omega,fun j y hj hy=>by
      rcases eT j i with h|h
      ·exact jU j y h hy
      ·rw[show j=i by omega,jt]at hy;cases hy;exact c4⟩
    ·omega
  ·refine cP (au (ak (al rfl rfl (ae (aW ?_)))));exact a8 rfl rfl ⟨by rw[Bn (fun y hy=>by obtain⟨j,hj⟩:=cg.1 hy;exact jU j y (by have:=(aF.1 hj).1;omega) hj)];exact jD,S⟩
theorem Du {M:aU} {d:Dc} {t:Fd} {v0 v1:Value} (w0:World) (hM:Lt M w0) (hd:RT.dc.V M w0 d v0) (hlen:∀f∈d.2,f.1.length≤900000∧f.2.length≤900000) (hdl:d.2.length≤1000000) (ht:RT.fd.V M w0 t v1):
  Spec Tryz.prog 104 #[v0,v1] w0 (fun v w=>((RT.int .i64).sl).V M w (za (fY d.2 t.1) t.2) v∧Step M w0 M w aN):=by
 have fZ:=hM;have FF:=tT ht;refine bE (args:=[_,_]) (fn:=Tryz.f104) Tryz.func104 rfl (n:=30) Tryz.ntmps104 ?_;have S:Step M w0 M w0 aN:=(ah _ _).cD (fun _ h=>h.elim) (fun _ h=>h.elim);refine au (ak ?_);refine eG (A:=RT.dc) (a:=d) rfl rfl hM hd rfl (fun u0 w1 cQ s0 _=>?_);replace hd:=hd.le s0.le;replace ht:=ht.le s0.le;replace hM:=s0.lt hM;have:=S.size;replace S:=S.aE s0;refine eG (A:=RT.fd) (a:=t) rfl rfl hM ht rfl (fun u1 w2 eW s1 _=>?_);replace ht:=ht.le s1.le;replace cQ:=cQ.le (by decide) s1.le;replace hM:=s1.lt hM;have:=S.size;replace S:=S.aE s1;refine al rfl rfl (ae (au (ak (al rfl rfl (ae (au (ak ?_)))))));refine cc (M:=M) (A:=RT.dc) a7 rfl lN (by decide) rfl rfl rfl cQ (ar _ _) (fun v20 yc=>?_);refine aA (M:=M) (A:=RT.fd) (B:=RT.str) bG rfl rfl I9 (by decide) G3 rfl rfl (by decide) eW (ar _ _) (fun u21 Lh=>?_);refine aY (M:=M) aM rfl rfl rfl rfl rfl Lh (ar _ _) (fun v22 HD=>?_);obtain rfl:=dQ HD;refine aS rfl rfl Sq (uW _ hM yc hlen hdl) (fun r2 w2' hc=>?_);obtain⟨BN,s2⟩:=hc;have Z7:=Dt (k:=t.1) hlen;replace cQ:=cQ.le (by decide) s2.le;replace eW:=eW.le (by decide) s2.le;replace hM:=s2.lt hM;have:=S.size;replace S:=S.aE s2;refine al rfl rfl (ae (au (au (ak (al rfl rfl (ae (bu ?_)))))));refine de (σ:=Nat×Value) (fun q=>[(3,u1),(5,q.2),(6,r2),(7,.int .i64 (q.1:Int))]) (fun q w=>∃M',Lt M' w∧Step M w0 M' w aN∧Own (RT.int .i64) 3 M' w w0.heap.size q.2 (za ((fY d.2 t.1).take q.1) t.2)∧(RT.str.sl).V M' w (fY d.2 t.1) r2∧bL RT.fd M' w u1 t∧q.1≤(fY d.2 t.1).length) (fun q=>(fY d.2 t.1).length-q.1) (0,.slice none 0 0) (.cons rfl (.cons rfl (.cons rfl (.cons rfl .nil)))) ?_ ?_
 ·exact⟨M,hM,S,dO _ _ _ _ _,BN,eW,bM _⟩
 ·clear S cQ eW BN hM;rintro⟨i,u⟩ w ⟨M1,hM,S,ho,BN,eW,hi⟩;dsimp only at ho hi ⊢;refine au (au (ak (aj rfl rfl (aj rfl rfl (bF aJ rfl BN rfl (cu rfl rfl rfl (ae ?_)))))));refine bW rfl (fun c4=>?_) (fun c4=>?_)
  ·refine bg (au (bu (au ?_)));apply kz mixed rfl rfl;intro WR X9;have rJ:=X9 M1;replace BN:=BN.le rJ.le;replace eW:=eW.le (by decide) rJ.le;replace ho:=ho.bC rJ;replace hM:=rJ.lt hM;have:=S.size;replace S:=S.aE rJ;refine aj rfl rfl ?_;refine ae ⟨rfl,rfl,rfl,?_⟩;refine aj rfl rfl ?_;refine ae ⟨rfl,rfl,rfl,?_⟩;obtain⟨y,jt⟩:∃y,(fY d.2 t.1)[i]? =some y:=⟨_,aI (by omega)⟩;refine bS (M:=M1) aJ I9 rfl rfl rfl BN (ar _ _) (by omega) (fun u62 y' fy Sw=>?_);rw[aK]at fy;obtain rfl:=aG (jt.symm.trans fy);refine ae ⟨rfl,rfl,rfl,?_⟩;refine aY (M:=M1) aM rfl rfl rfl rfl rfl Sw (ar _ _) (fun v63 Ll=>?_);obtain rfl:=dQ Ll;refine ae ⟨rfl,rfl,rfl,?_⟩;refine aA (M:=M1) (A:=RT.fd) (B:=RT.str) bG rfl rfl I9 (by decide) Oz rfl rfl (by decide) eW (ar _ _) (fun u64 Sx=>?_);refine ae ⟨rfl,rfl,rfl,?_⟩;refine aY (M:=M1) aM rfl rfl rfl rfl rfl Sx (ar _ _) (fun v65 afE=>?_);obtain rfl:=dQ afE;refine ae ⟨rfl,rfl,rfl,?_⟩;refine Rg.rL rfl rfl rfl ?_;refine ae ⟨rfl,rfl,rfl,?_⟩;refine dv ?_;refine bW rfl (fun c6=>?_) (fun c6=>?_)
   ·refine ak (aj rfl rfl (aj rfl rfl ?_));refine ez (A:=RT.int .i64) (hn:=by decide) (M:=M1) ay I3 (by decide) rfl rfl hM (ie (by omega)) (.inr ⟨rfl,rfl⟩) (fun Q7 ac7 oV uc=>?_);replace BN:=BN.le uc.le;replace eW:=eW.le (by decide) uc.le;replace ho:=ho.bC uc;replace hM:=uc.lt hM;have:=S.size;replace S:=S.aE uc;refine cz (M:=M1) (base:=w0.heap.size) ay I3 rfl rfl rfl rfl ho oV (ar _ _) (by have:=yb ((fY d.2 t.1).take i) t.2;rw[bU]at this;simp;omega) (by have:=yb ((fY d.2 t.1).take i) t.2;rw[bU]at this;simp;omega) (S.size) (fun VN afF Ya Yb sT=>?_);replace BN:=BN.le sT.le;replace eW:=eW.le (by decide) sT.le;replace oV:=oV.le sT.le;replace hM:=sT.lt hM;have:=S.size;replace S:=S.cJ sT ho (bw _);replace ho:=Yb;refine al rfl rfl (ae (ak (aj rfl rfl (bQ rfl rfl rfl (by omega) (al rfl rfl (ae ?_))))));refine⟨rfl,(i+1,VN),(.cons rfl (.cons rfl (.cons rfl (.cons rfl .nil)))),?_,?_⟩
    ·exact⟨afF,hM,S,by dsimp only;rw[Ab jt,if_pos c6];exact ho,BN,eW,by dsimp only;omega⟩
    ·dsimp only;omega
   ·refine bg (ak (aj rfl rfl (bQ rfl rfl rfl (by omega) (al rfl rfl (ae ?_)))));refine⟨rfl,(i+1,u),(.cons rfl (.cons rfl (.cons rfl (.cons rfl .nil)))),?_,?_⟩
    ·exact⟨M1,hM,S,by dsimp only;rw[Ab jt,if_neg c6];exact ho,BN,eW,by dsimp only;omega⟩
    ·dsimp only;omega
  ·refine cP (au (ak (aj rfl rfl (al rfl rfl (ae (aW ?_))))));rw[bm (by omega)]at ho;exact a8 rfl rfl ⟨ho.close fZ S (by have:=yb (fY d.2 t.1) t.2;omega),S.back⟩
end Go.K
namespace Go.K
open Go.Proofs
set_option maxRecDepth 10000
theorem yd {M:aU} {a b:List (List UInt8)} {v u:Value} (w0:World) (hM:Lt M w0) (hv:((RT.str).sl).V M w0 a v) (hu:((RT.str).sl).V M w0 b u):
  Spec Tryz.prog 84 #[v,u] w0 (fun v' w'=>v'= .bool (decide (a=b))∧Step M w0 M w' aN):=by
 have fZ:=hM;have Ou:=dr hv;have hlb:=dr hu;refine bE (args:=[_,_]) (fn:=Tryz.f84) Tryz.func84 rfl (n:=26) Tryz.ntmps84 ?_;have S:Step M w0 M w0 aN:=(ah _ _).cD (fun _ h=>h.elim) (fun _ h=>h.elim);refine au (ak (al rfl rfl (ae (au (au (ak (aj rfl rfl (bF aJ rfl hv rfl (aj rfl rfl (bF aJ rfl hu rfl (eC rfl rfl rfl ?_)))))))))));refine ae ?_;refine bW rfl (fun c1=>?_) (fun c1=>?_)
 ·refine au (ak (al rfl rfl (ae (aW ?_))));exact a8 rfl rfl ⟨congrArg Value.bool (decide_eq_false (fun e=>by subst e;exact c1 rfl)).symm,S⟩
 ·have hlen:a.length=b.length:=by omega
  refine bg (au (au (ak (al rfl rfl (ae (bu ?_))))));refine de (σ:=Nat) (fun k=>[(0,v),(1,u),(5,.int .i64 (k:Int))]) (fun k w=>Step M w0 M w aN∧((RT.str).sl).V M w a v∧((RT.str).sl).V M w b u∧k≤a.length∧a.take k=b.take k) (fun k=>a.length-k) 0 (.cons rfl (.cons rfl (.cons rfl .nil))) ?_ ?_
  ·exact⟨S,hv,hu,bM _,rfl⟩
  ·clear S hv hu hM;rintro k w ⟨S,hv,hu,hk,heq⟩;have hM:=S.lt fZ;refine au (au (ak (aj rfl rfl (aj rfl rfl (bF aJ rfl hv rfl (cu rfl rfl rfl (ae ?_)))))));refine bW rfl (fun c4=>?_) (fun c4=>?_)
   ·refine bg (au (bu (au ?_)));apply kz mixed rfl rfl;intro WR X9;have rJ:=X9 M;replace hv:=hv.le rJ.le;replace hu:=hu.le rJ.le;replace hM:=rJ.lt hM;have:=S.size;replace S:=S.aE rJ;refine aj rfl rfl ?_;refine ae ⟨rfl,rfl,rfl,?_⟩;refine aj rfl rfl ?_;refine ae ⟨rfl,rfl,rfl,?_⟩;obtain⟨x,ow⟩:∃x,a[k]? =some x:=⟨_,aI (by omega)⟩;obtain⟨y,qG⟩:∃y,b[k]? =some y:=⟨_,aI (by omega)⟩;refine bS (M:=M) aJ I9 rfl rfl rfl hv (ar _ _) (by omega) (fun u62 x_ fy Sw=>?_);rw[aK]at fy;obtain rfl:=aG (ow.symm.trans fy);refine ae ⟨rfl,rfl,rfl,?_⟩;refine aY (M:=M) aM rfl rfl rfl rfl rfl Sw (ar _ _) (fun v63 Ll=>?_);obtain rfl:=dQ Ll;refine ae ⟨rfl,rfl,rfl,?_⟩;refine aj rfl rfl ?_;refine ae ⟨rfl,rfl,rfl,?_⟩;refine aj rfl rfl ?_;refine ae ⟨rfl,rfl,rfl,?_⟩;refine bS (M:=M) aJ I9 rfl rfl rfl hu (ar _ _) (by omega) (fun u66 x_ fy afG=>?_);rw[aK]at fy;obtain rfl:=aG (qG.symm.trans fy);refine ae ⟨rfl,rfl,rfl,?_⟩;refine aY (M:=M) aM rfl rfl rfl rfl rfl afG (ar _ _) (fun v67 afH=>?_);obtain rfl:=dQ afH;refine ae ⟨rfl,rfl,rfl,?_⟩;refine Rg.Of rfl rfl rfl ?_;refine ae ⟨rfl,rfl,rfl,?_⟩;refine dv ?_;refine bW rfl (fun c6=>?_) (fun c6=>?_)
    ·refine au (ak (al rfl rfl (ae (aW ?_))));exact a8 rfl rfl ⟨congrArg Value.bool (decide_eq_false (fun e=>by subst e;rw[ow]at qG;cases qG;exact c6 rfl)).symm,S⟩
    ·refine bg (ak (aj rfl rfl (bQ rfl rfl rfl (by omega) (al rfl rfl (ae ?_)))));refine⟨rfl,k+1,(.cons rfl (.cons rfl (.cons rfl .nil))),?_,?_⟩
     ·exact⟨S,hv,hu,by omega,by rw[bX,bX,heq,ow,qG,cy.1 c6]⟩
     ·omega
   ·refine cP (au (ak (al rfl rfl (ae (aW ?_)))));rw[bm (by omega),bm (by omega)]at heq;exact a8 rfl rfl ⟨congrArg Value.bool (decide_eq_true heq).symm,S⟩
end Go.K
namespace Go.K
open Go.Proofs
namespace TKSegJ
theorem fX:TI Tryz.prog 107 (.slice none 0 0) 1 24:=by unfold TI;kernel_rfl
end TKSegJ
open TKSegJ
set_option maxRecDepth 10000
end Go.K
namespace Go.K
section
variable {P:Program} {r:Option Nat} {n:Nat} {L:Sl} {ds:List Deferred} {w:World} {K:Kt} {ops:Array Oper} {rest:List Oper} {d:Nat} {x y:Operand} {ty:TypeId} {pos:String} {af:Array Edge}
theorem lQ {t:TypeId} (ht:P.underlying t=some .string) {cs:Array Value} {off:Nat} {v:Value} (hv:cs[off]? =some v):(part t cs off).run P w= .ok v w:=by
 have H5:(isAgg t).run P w= .ok false w:=by
  unfold isAgg;rw[cR,run_underlying ht w];simp
 unfold part;rw[cR,H5];simp[hv]
theorem Dv {t:TypeId} {f g:Field} {k:Nat} {xs ys:Array Value} {a b a' b':Value} {c e:Bool} (ht:P.underlying t=some (.struct #[f,g])) (hp:P.stoodInHeld t=false) (hn:f.name≠ "_") (OL:g.name≠ "_")
  (p1:(part f.type xs f.offset).run P w= .ok a w) (p2:(part f.type ys f.offset).run P w= .ok b w) (p3:(part g.type xs g.offset).run P w= .ok a' w) (p4:(part g.type ys g.offset).run P w= .ok b' w)
  (h1:(Op.equalIn k f.type a b).run P w= .ok c w) (h2:(Op.equalIn k g.type a' b').run P w= .ok e w):(Op.equalIn (k+1) t (.agg xs) (.agg ys)).run P w= .ok (c&&e) w:=by
 have UK:P.fieldsOf t= #[f,g]:=by simp[Program.fieldsOf,ht]
 rw[run_equalIn_struct (P:=P) w k t xs ys (by rw[UK];exact ht) hp,UK];simp only[Op.eqFields,hn,OL,ne_eq,not_false_eq_true,if_true,cR,p1,p2,p3,p4,h1,h2,dD]
 cases c
 ·simp
 ·simp only[Bool.not_true,Bool.false_eq_true,if_false,cR,p3,p4,h2,dD]
  cases e<;>simp
theorem Gh (a b:List UInt8):((⟨a.toArray⟩:ByteArray).toList==(⟨b.toArray⟩:ByteArray).toList)=decide (a=b):=by
 rw[ByteArray.toList_eq,ByteArray.toList_eq];show(a==b)=_;by_cases h:a=b
 ·subst h;simp
 ·simp[h]
end
end Go.K
namespace Go.K
section
variable {P:Program} {r:Option Nat} {n:Nat} {L:Sl} {ds:List Deferred} {w:World} {K:Kt} {ops:Array Oper} {rest:List Oper} {d:Nat} {x y:Operand} {ty:TypeId} {pos:String} {af:Array Edge}
theorem HE {t:TypeId} {f' g':Field} (hu:P.underlying t=some (.struct #[f',g'])) (hpu:P.stoodInHeld t=false) (hm:f'.name≠ "_") (vv:g'.name≠ "_")
  (o3:f'.offset=0) (o4:g'.offset=1) (s1:P.underlying f'.type=some .string) (s2:P.underlying g'.type=some .string) (a b a' b':List UInt8):
  (Op.equalIn 10000 t (.agg #[.string ⟨a.toArray⟩,.string ⟨b.toArray⟩]) (.agg #[.string ⟨a'.toArray⟩,.string ⟨b'.toArray⟩])).run P w= .ok (decide ((a,b)=(a',b'))) w:=by
 have h1:(Op.equalIn (9999+1) t (.agg #[.string ⟨a.toArray⟩,.string ⟨b.toArray⟩]) (.agg #[.string ⟨a'.toArray⟩,.string ⟨b'.toArray⟩])).run P w= .ok (decide (a=a')&&decide (b=b')) w:=
  Dv (k:=9998+1) (a:= .string ⟨a.toArray⟩) (b:= .string ⟨a'.toArray⟩) (a':= .string ⟨b.toArray⟩) (b':= .string ⟨b'.toArray⟩) hu hpu hm vv (lQ s1 (by rw[o3];rfl)) (lQ s1 (by rw[o3];rfl)) (lQ s2 (by rw[o4];rfl)) (lQ s2 (by rw[o4];rfl))
   (by rw[run_equalIn_string w 9998 _ _ _ s1,Gh]) (by rw[run_equalIn_string w 9998 _ _ _ s2,Gh])
 rw[show(10000:Nat)=9999+1 from rfl,h1];congr 1;by_cases e1:a=a'<;>by_cases e2:b=b'<;>simp[e1,e2]
theorem Rg.afJ {t t':TypeId} {f' g':Field} {p q:List UInt8×List UInt8} (hu:P.underlying t=some (.struct #[f',g'])) (hpu:P.stoodInHeld t=false) (hq:P.eqGuardType P.depth t=false) (hm:f'.name≠ "_") (vv:g'.name≠ "_")
  (o3:f'.offset=0) (o4:g'.offset=1) (s1:P.underlying f'.type=some .string) (s2:P.underlying g'.type=some .string)
  (hx:ev L x=some (.agg #[.string ⟨p.1.toArray⟩,.string ⟨p.2.toArray⟩])) (hy:ev L y=some (.agg #[.string ⟨q.1.toArray⟩,.string ⟨q.2.toArray⟩])) (hd:Nat.blt d n=true)
  (k:Rg P r n ops rest ((d,.bool (decide (p=q)))::L) ds w K):
  Rg P r n ops ({dst:=some d,op:= .binOp .eql t x y t',type:=ty,pos,after:=af,guard:=none}::rest) L ds w K:=
 .op (fun _ h=>by cases h) rfl rfl hd _ w (fun ρ h=>by
  have he:(Op.equalIn 10000 t (.agg #[.string ⟨p.1.toArray⟩,.string ⟨p.2.toArray⟩]) (.agg #[.string ⟨q.1.toArray⟩,.string ⟨q.2.toArray⟩])).run P w= .ok (decide (p=q)) w:=HE (P:=P) (w:=w) hu hpu hm vv o3 o4 s1 s2 p.1 p.2 q.1 q.2;simp only[execOp];rw[h x _ hx,h y _ hy];rw[cR,cR,run_eqGuard_agg (P:=P) w .eql t x y _ _ hq];simp only[run_eql_struct,he,dD,cR,Sem.run_pure]) k
variable {N:aU} {wd:World} {dst:Option Nat} {gd:Option (Nat×Bool)}
theorem bT.Pp {t:TypeId} (hx:ev L x=some undef):bT P N wd L {dst,op:= .load t x,type:=ty,pos,after:=af,guard:=gd}:= .free fun ρ hρ=>by
 simp only[execOp,hρ x _ hx,undef];exact .halt fun P w a w' h=>by simp[Instr.loadAt,Instr.sureAddr,cR,stuck,Sem.run,Result.andThen]at h
theorem bT.Yc {t t':TypeId} (hx:ev L x=some undef):bT P N wd L {dst,op:= .binOp .sub t x y t',type:=ty,pos,after:=af,guard:=gd}:= .free fun ρ hρ=>by
 simp only[execOp,hρ x _ hx,undef];refine Loc.val (Loc.bind (.pure _) fun _=>?_)
 cases ρ y<;>exact .stuck _
end
end Go.K
namespace Go.K
open Go.Proofs
namespace TKPutA
theorem Pq:Enters Tryz.prog 94:=enters Tryz.func94 rfl (by decide)
end TKPutA
open TKPutA
set_option maxRecDepth 10000
theorem um {α:Type} [DecidableEq α] {key:α→List UInt8} {t:α}:∀{l:List α} {i:Nat},tZ key l→l[i]? =some t→jI key t l=l
 |[],_,_,h=>by simp at h
 |u::l,0,h,hi=>by
  simp at hi;subst hi;rw[jI,if_neg (iW _),if_pos rfl]
 |u::l,i+1,h,hi=>by
  obtain⟨h1,h2⟩:=fV.1 h;have ia:l[i]? =some t:=by simpa using hi
  have ek:=h1 t (aQ ia);rw[jI,if_neg (jm ek),if_neg (fun e=>by subst e;exact iW _ ek),um h2 ia]
theorem jq {α:Type} [DecidableEq α] {key:α→List UInt8} {t:α}:∀{l:List α} {k:Nat},(∀x∈l.drop k,key t<key x)→(∀x∈l.take k,¬key t<key x∧x≠t)→jI key t l=l.take k++t::l.drop k
 |[],_,_,_=>by simp[jI]
 |u::l,0,h,_=>by rw[jI,if_pos (h u (cn ..))];rfl
 |u::l,k+1,h,h'=>by
  obtain⟨h1,h2⟩:=h' u (by simp);rw[jI,if_neg h1,if_neg h2,jq (k:=k) (fun x hx=>h x (by simpa using hx)) (fun x hx=>h' x (by simp[hx]))];simp
theorem qp {α:Type} {key:α→List UInt8} {t y:α} {l:List α} {k:Nat} (h:tZ key l) (hk:k≠0) (hy:l[k-1]? =some y) (h1: ¬key t<key y) (h2:y≠t):∀x∈l.take k,¬key t<key x∧x≠t:=fun x hx=>by
 obtain⟨i,hi,rfl⟩:=List.mem_iff_getElem.1 hx;rw[List.getElem_take];rw[bU]at hi;obtain⟨hy1,rfl⟩:=aF.1 hy;rcases eT i (k-1)with ek|jt
 ·have:=List.pairwise_iff_getElem.1 h i (k-1) (by omega) hy1 ek;exact⟨fun hh=>h1 (j8 hh this),fun e=>h1 (e▸this)⟩
 ·have e:i=k-1:=by omega
  subst e;exact⟨h1,h2⟩
theorem Ln {l:List Fd} (h:∀t∈l,Hi t∧t.1.length≤12∧t.2.length≤30):tZ dm (allBy dm l)∧(∀t∈allBy dm l,t.1.length≤1000000∧t.2.length≤1000000)∧(allBy dm l).length≤l.length:=by
 have h1:=oB (key:=dm) (S:=Hi) (fun a b=>sw) l [] (fun x hx=>(h x hx).1) (fun x hx=>by cases hx) List.Pairwise.nil
 have hm:∀t∈allBy dm l,t∈l:=fun t ht=>by
  have:=(h1.2 t).1 ht;simpa using this
 refine⟨h1.1,fun t ht=>?_,h1.1.nodup.length_le_of_subset hm⟩;have:=h t (hm t ht);omega
def nR (fs:List Fd) (x:Fd) (k:Nat):List Fd:=(ck fs).map (·.1)++((words x.2).take k).map fun y=>(x.1,y)
theorem Ac (x:Fd):(gx x).map (·.1)=(words x.2).map fun y=>(x.1,y):=by
 unfold gx;rw[yI];show(words x.2).zipIdx.map ((fun y=>(x.1,y))∘Prod.fst)=_;rw[←yI,List.zipIdx_map_fst]
theorem Ad {fs:List Fd} {x:Fd} {i:Nat} (h:fs[i]? =some x):nR (fs.take i) x (words x.2).length=(ck (fs.take (i+1))).map (·.1):=by
 unfold nR;rw[bX,h,cq,tt];unfold ck;rw[List.flatMap_append,dF,←Ac];simp
theorem Ae {fs:List Fd} {x:Fd} {k:Nat} {y:List UInt8} (h:(words x.2)[k]? =some y):nR fs x (k+1)=nR fs x k++[(x.1,y)]:=by
 unfold nR;rw[bX,h,cq,dF,fm];rfl
theorem Gi {d:Dc} (hf:iT d) {i:Nat} {x:Fd} (h:d.2[i]? =some x) (k:Nat):(∀t∈nR (d.2.take i) x k,Hi t∧t.1.length≤12∧t.2.length≤30)∧(nR (d.2.take i) x k).length≤500:=by
 have Mg:∀t∈nR (d.2.take i) x k,∃p∈ck d.2,p.1=t:=fun t ht=>by
  rcases dE.1 ht with ht|ht
  ·obtain⟨p,hp,rfl⟩:=cL.1 ht;obtain⟨z,hz,hp⟩:=List.mem_flatMap.1 hp;exact⟨p,List.mem_flatMap.2 ⟨z,mX hz,hp⟩,rfl⟩
  ·obtain⟨y,hy,rfl⟩:=cL.1 ht;have hx:(x.1,y)∈(gx x).map (·.1):=by rw[Ac];exact cL.2 ⟨y,mX hy,rfl⟩
   obtain⟨p,hp,e⟩:=cL.1 hx;exact⟨p,List.mem_flatMap.2 ⟨x,aQ h,hp⟩,e⟩
 refine⟨fun t ht=>?_,?_⟩
 ·obtain⟨p,hp,rfl⟩:=Mg t ht;exact⟨hf.Hl p hp,hf.small p hp⟩
 ·have h1:(nR (d.2.take i) x k).length≤(nR (d.2.take i) x (words x.2).length).length:=by unfold nR;simp;omega
  rw[Ad h,cr]at h1
  have h2:(ck (d.2.take (i+1))).length≤(ck d.2).length:=by
   have e:ck d.2=ck (d.2.take (i+1))++ck (d.2.drop (i+1)):=by unfold ck;rw[←List.flatMap_append,td]
   rw[e,bP];omega
  have:=hf.many;omega
theorem HF {d:Dc} (hf:iT d) {i:Nat} {x:Fd} (h:d.2[i]? =some x):fY d.2 x.1=words x.2:=
 p9 h rfl fun j y hj hy e=>by
  obtain⟨h1,h2⟩:=aF.1 h;obtain⟨h3,h4⟩:=aF.1 hy;have:=List.pairwise_iff_getElem.1 hf.once j i (by simpa using h3) (by simpa using h1) hj;rw[List.getElem_map,List.getElem_map,h2,h4]at this;exact this e
theorem Lo {fs:List Fd} (h:(fs.map (·.1)).Nodup) (t:Fd):za (fY fs t.1) t.2=posOf (ck fs) t:=by
 induction fs with
 |nil=>rfl
 |cons x fs ih=>
  have h':=List.nodup_cons.1 h;have e:posOf (ck (x::fs)) t=posOf (gx x) t++posOf (ck fs) t:=by show posOf (gx x++ck fs) t=_;rw[oC]
  by_cases hx:x.1=t.1
  ·rw[e,ua fun y hy e=>h'.1 (by have h9:y.1∈fs.map (·.1):=fH hy;rw[e,←hx]at h9;exact h9),iP];rw[p9 (i:=0) (x:=x) rfl hx (fun j y hj=>absurd hj (j5 _))];unfold za posOf gx;rw[List.filter_map,yI];congr 1;refine List.filter_congr fun p _=> ?_
   show decide (p.1=t.2)=decide ((x.1,p.1)=t);refine decide_eq_decide.2 ⟨fun e=>?_,fun e=>?_⟩
   ·rw[hx,e]
   ·rw[←e]
  ·rw[e,rv hx,fz,←ih h'.2];congr 1;unfold fY;rw[List.find?_cons_of_neg (by simpa using hx)]
theorem Bo {M:aU} {l:List Fd} {t:Fd} {v0 v1:Value} (w0:World) (hM:Lt M w0) (hv:(RT.fd.sl).V M w0 l v0) (ht:RT.fd.V M w0 t v1) (nP:tZ dm l) (hlen:∀x∈l,x.1.length≤1000000∧x.2.length≤1000000) (FF:t.1.length≤1000000∧t.2.length≤1000000) (hl:l.length≤1000000):
  Spec Tryz.prog 181 #[v0,v1] w0 (fun v w=>(RT.fd.sl).V M w (jI dm t l) v∧Step M w0 M w aN):=by
 have fZ:=hM;refine bE (args:=[_,_]) (fn:=Tryz.f181) Tryz.func181 rfl (n:=50) Tryz.ntmps181 ?_;have S:Step M w0 M w0 aN:=(ah _ _).cD (fun _ h=>h.elim) (fun _ h=>h.elim);refine au (ak ?_);refine eG (A:=RT.fd) (a:=t) rfl rfl hM ht rfl (fun u3 w1 jH s0 _=>?_);replace hv:=hv.le s0.le;replace ht:=ht.le s0.le;replace hM:=s0.lt hM;have:=S.size;replace S:=S.aE s0;refine al rfl rfl (ae (au (ak (aj rfl rfl (bF cb rfl hv rfl (al rfl rfl (ae (au (bu ?_)))))))));refine de (σ:=Nat) (fun k=>[(0,v0),(3,u3),(5,.int .i64 (k:Int))]) (fun k w=>Step M w0 M w aN∧(RT.fd.sl).V M w l v0∧bL RT.fd M w u3 t∧k≤l.length∧∀x∈l.drop k,dm t<dm x) (fun k=>k) l.length (.cons rfl (.cons rfl (.cons rfl .nil))) ?_ ?_
 ·exact⟨S,hv,jH,bw _,fun x h=>by simp at h⟩
 ·clear S hv jH hM;rintro k w ⟨S,hv,jH,hk,DY⟩;have hM:=S.lt fZ;refine au (au ?_);apply T.zn [0,1,2,3,5,6,7,8,9,4,10,11,12] 9 [4,5,6,7,8] 1 aN mixed
  ·simp+decide only[wC,qv,eO,qW,iX,iY,kK,eZ,iO,lJ,cond_true,cond_false,Nat.reduceBEq,Nat.reduceAdd,beq_self_eq_true];rfl
  ·rfl
  ·rfl
  ·rfl
  ·rfl
  ·rfl
  ·rfl
  intro wD2 sA2;have H0:=sA2 M;replace hv:=hv.le H0.le;replace jH:=jH.le (by decide) H0.le;replace hM:=H0.lt hM;have:=S.size;replace S:=S.aE H0;refine aj rfl rfl ?_;refine ae ⟨rfl,rfl,rfl,?_⟩;refine hY rfl rfl rfl ?_;refine ae ⟨rfl,rfl,rfl,?_⟩;refine aj rfl rfl ?_;refine ae ⟨rfl,rfl,rfl,?_⟩;refine aZ (g:=11) rfl (fun afK=>?_) (fun afK=>?_)
  ·refine aq rfl rfl ?_;refine cc (M:=M) (A:=RT.fd) bG rfl jW (by decide) rfl rfl rfl jH (ar _ _) (fun v23 Lq=>?_);refine ae ⟨rfl,rfl,rfl,?_⟩;refine aq rfl rfl (aj rfl rfl ?_);refine ae ⟨rfl,rfl,rfl,?_⟩;refine aq rfl rfl (aj rfl rfl ?_);refine ae ⟨rfl,rfl,rfl,?_⟩;refine aq rfl rfl (eJ rfl rfl rfl (by omega) ?_);refine ae ⟨rfl,rfl,rfl,?_⟩;refine aq rfl rfl ?_;obtain⟨x,jt⟩:∃x,l[k-1]? =some x:=⟨_,aI (by omega)⟩;have wk:=hlen _ (aQ jt);refine bS (M:=M) cb jW rfl rfl rfl hv (ar _ _) (by omega) (fun u28 x_ fy Sy=>?_);rw[show((k:Int)-1).toNat=k-1 from by omega]at fy;obtain rfl:=aG (jt.symm.trans fy);refine ae ⟨rfl,rfl,rfl,?_⟩;refine aq rfl rfl ?_;refine cc (M:=M) (A:=RT.fd) bG rfl jW (by decide) rfl rfl rfl Sy (ar _ _) (fun v29 afL=>?_);refine ae ⟨rfl,rfl,rfl,?_⟩;refine dv ?_
   try (obtain⟨bb,oo,cs,ee,fr,rfl,kr,_⟩:=Sy.float)
   refine⟨eA ⟨eU,⟨eU,⟨(by first|exact bT.Yc rfl|exact bT.bin rfl rfl),⟨bT.idx,⟨(by first|exact dx rfl kr (fun h=>h)|exact bT.Pp rfl),trivial⟩⟩⟩⟩⟩,?_⟩;have kp:=eX aN wD2;refine aq rfl rfl ?_;obtain rfl:v23=kv t:=iB Lq;refine aS rfl rfl Pq (qj (t:=t) _ hM (by omega) (by omega)) (fun r24 ajJ hc=>?_);obtain⟨rfl,s24⟩:=hc;replace hv:=hv.le s24.le;replace jH:=jH.le (by decide) s24.le;replace hM:=s24.lt hM;have:=S.size;replace S:=S.aE s24;refine(fun(kp:eg _ _ _)=>ae ⟨rfl,rfl,fun _=>kp,?_⟩) (by first|exact kp|exact kp.mY (by assumption)|exact kp.goN (by assumption)|exact kp.go (by assumption) (fun _ _ h=>by first|exact h|exact h.elim));refine aq rfl rfl ?_;obtain rfl:v29=kv x:=iB afL;refine aS rfl rfl Pq (qj (t:=x) _ hM (by omega) (by omega)) (fun anY afM hc=>?_);obtain⟨rfl,NV⟩:=hc;replace hv:=hv.le NV.le;replace jH:=jH.le (by decide) NV.le;replace hM:=NV.lt hM;have:=S.size;replace S:=S.aE NV;refine ae ⟨rfl,rfl,fun h=>absurd rfl h,?_⟩;refine aq rfl rfl (Rg.QY rfl rfl rfl ?_);refine ae ⟨rfl,rfl,fun h=>absurd rfl h,?_⟩;refine aR rfl rfl rfl ?_;refine ae ⟨rfl,rfl,fun h=>absurd rfl h,?_⟩;refine gX ?_;refine bW rfl (fun c2=>?_) (fun c2=>?_)
   ·refine bg (bu (ak (aj rfl rfl (eJ rfl rfl rfl (by omega) (al rfl rfl (ae ?_))))));refine⟨rfl,k-1,(.cons rfl (.cons rfl (.cons (congrArg (fun z=>some (Value.int .i64 z)) (by omega)) .nil))),?_,?_⟩
    ·exact⟨S,hv,jH,by omega,fun z hz=>by
      rw[show l.drop (k-1)=x::l.drop k from by rw[dV (by omega),(aF.1 jt).2,show k-1+1=k from by omega]]at hz;rcases ew.1 hz with rfl|hz
      ·exact c2
      ·exact DY z hz⟩
    ·omega
   ·refine cP (au (au ?_));apply kz mixed rfl rfl;intro HX Ke;have lE:=Ke M;replace hv:=hv.le lE.le;replace jH:=jH.le (by decide) lE.le;replace hM:=lE.lt hM;have:=S.size;replace S:=S.aE lE;refine aj rfl rfl ?_;refine ae ⟨rfl,rfl,rfl,?_⟩;refine hY rfl rfl rfl ?_;refine ae ⟨rfl,rfl,rfl,?_⟩;refine aj rfl rfl ?_;refine ae ⟨rfl,rfl,rfl,?_⟩;refine aZ (g:=26) rfl (fun qA=>?_) (fun qA=>?_)
    ·refine aq rfl rfl (aj rfl rfl ?_);refine ae ⟨rfl,rfl,rfl,?_⟩;refine aq rfl rfl (aj rfl rfl ?_);refine ae ⟨rfl,rfl,rfl,?_⟩;refine aq rfl rfl (eJ rfl rfl rfl (by omega) ?_);refine ae ⟨rfl,rfl,rfl,?_⟩;refine aq rfl rfl ?_;refine bS (M:=M) cb jW rfl rfl rfl hv (ar _ _) (by omega) (fun u46 x_ fy afN=>?_);rw[show((k:Int)-1).toNat=k-1 from by omega]at fy;obtain rfl:=aG (jt.symm.trans fy);refine ae ⟨rfl,rfl,rfl,?_⟩;refine aq rfl rfl ?_;refine cc (M:=M) (A:=RT.fd) bG rfl jW (by decide) rfl rfl rfl afN (ar _ _) (fun v47 afO=>?_);obtain rfl:v47=kv x:=iB afO;refine ae ⟨rfl,rfl,rfl,?_⟩;refine aq rfl rfl ?_;refine cc (M:=M) (A:=RT.fd) bG rfl jW (by decide) rfl rfl rfl jH (ar _ _) (fun Ui E3=>?_);obtain rfl:Ui=kv t:=iB E3;refine ae ⟨rfl,rfl,rfl,?_⟩;refine aq rfl rfl (Rg.afJ (p:=x) (q:=t) bG (by kernel_rfl) (by kernel_rfl) (by decide) (by decide) rfl rfl aM aM rfl rfl rfl ?_);refine ae ⟨rfl,rfl,rfl,?_⟩;refine aR rfl rfl rfl ?_;refine ae ⟨rfl,rfl,rfl,?_⟩;refine dv ?_;refine bW rfl (fun c4=>?_) (fun c4=>?_)
     ·refine au (ak (aj rfl rfl (al rfl rfl (ae (aW ?_)))));exact a8 rfl rfl ⟨by rw[um nP (c4▸jt)];exact hv,S⟩
     ·refine bg (au (ak (al rfl rfl (ae (au (ak (aj rfl rfl (aj rfl rfl (aj rfl rfl ?_)))))))));refine Rg.mJ (M:=M) cb jW rfl rfl rfl hv (by omega) (fun u73 ye=>?_);rw[aK]at ye;refine cz (M:=M) (base:=w0.heap.size) (xs:=[]) cb jW rfl rfl rfl rfl (dO _ _ _ _ _) ye (ar _ _) (by simp;omega) (by simp;omega) S.size (fun v7 M7 w7 ho s7=>?_);replace s7:=s7.cD (N':=aN) (fun b hb=>by unfold kb at hb;cases hb) (fun b h=>h.elim);replace hv:=hv.le s7.le;replace jH:=jH.le (by decide) s7.le;replace hM:=s7.lt hM;have:=S.size;replace S:=S.aE s7;refine al rfl rfl (ae (au (ak (aj rfl rfl ?_))));refine cc (M:=M7) (A:=RT.fd) bG rfl jW (by decide) rfl rfl rfl jH (ar _ _) (fun v81 E4=>?_);refine ez (A:=RT.fd) (hn:=by decide) (M:=M7) cb jW (by decide) rfl rfl hM (E4) (.inl rfl) (fun Yd Ye lp qa=>?_);replace hv:=hv.le qa.le;replace jH:=jH.le (by decide) qa.le;replace ho:=ho.bC qa;replace hM:=qa.lt hM;have:=S.size;replace S:=S.aE qa;refine cz (M:=M7) (base:=w0.heap.size) cb jW rfl rfl rfl rfl ho lp (ar _ _) (by simp;omega) (by simp;omega) (S.size) (fun Yf Dw Yg Dx qb=>?_);replace hv:=hv.le qb.le;replace jH:=jH.le (by decide) qb.le;replace lp:=lp.le qb.le;replace hM:=qb.lt hM;have:=S.size;replace S:=S.cJ qb ho (bw _);replace ho:=Dx;refine al rfl rfl (ae (au (ak (aj rfl rfl (aj rfl rfl (aj rfl rfl ?_))))));refine Rg.nX (M:=Dw) cb jW rfl rfl rfl hv (by omega) (fun u93 vH=>?_);rw[aK]at vH;refine cz (M:=Dw) (base:=w0.heap.size) cb jW rfl rfl rfl rfl ho vH (ar _ _) (by simp;omega) (by simp;omega) (S.size) (fun D5 MR MS wZ kC=>?_);replace hv:=hv.le kC.le;replace jH:=jH.le (by decide) kC.le
      replace lp:=lp.le kC.le;replace hM:=kC.lt hM;have:=S.size;replace S:=S.cJ kC ho (bw _);replace ho:=wZ;refine al rfl rfl (ae (aW ?_));rw[fz,fm,List.singleton_append]at ho;rw[←jq DY (by first|exact qp nP (by omega) jt c2 c4|exact fun x hx=>by rw[show k=0 by omega]at hx;cases hx)]at ho;exact a8 rfl rfl ⟨fQ (hn:=by decide) fZ S ho (by rw[jq DY (by first|exact qp nP (by omega) jt c2 c4|exact fun x hx=>by rw[show k=0 by omega]at hx;cases hx)];simp;omega),S.back⟩
    ·refine aw rfl rfl rfl rfl ?_;refine ae ⟨rfl,rfl,rfl,?_⟩;refine aw rfl rfl rfl rfl ?_;refine ae ⟨rfl,rfl,rfl,?_⟩;refine aw rfl rfl rfl rfl ?_;refine ae ⟨rfl,rfl,rfl,?_⟩;refine aw rfl rfl rfl rfl ?_;refine ae ⟨rfl,rfl,rfl,?_⟩;refine aw rfl rfl rfl rfl ?_;refine ae ⟨rfl,rfl,rfl,?_⟩;refine aw rfl rfl rfl rfl ?_;refine ae ⟨rfl,rfl,rfl,?_⟩;refine aw rfl rfl rfl rfl ?_;refine ae ⟨rfl,rfl,rfl,?_⟩;refine aL rfl rfl rfl ?_;refine ae ⟨rfl,rfl,rfl,?_⟩;refine dv (ir rfl (bg (au (ak (al rfl rfl (ae (au (ak (aj rfl rfl (aj rfl rfl (aj rfl rfl ?_)))))))))));refine Rg.mJ (M:=M) cb jW rfl rfl rfl hv (by omega) (fun u73 ye=>?_);rw[aK]at ye;refine cz (M:=M) (base:=w0.heap.size) (xs:=[]) cb jW rfl rfl rfl rfl (dO _ _ _ _ _) ye (ar _ _) (by simp;omega) (by simp;omega) S.size (fun v7 M7 w7 ho s7=>?_);replace s7:=s7.cD (N':=aN) (fun b hb=>by unfold kb at hb;cases hb) (fun b h=>h.elim);replace hv:=hv.le s7.le;replace jH:=jH.le (by decide) s7.le;replace hM:=s7.lt hM;have:=S.size;replace S:=S.aE s7;refine al rfl rfl (ae (au (ak (aj rfl rfl ?_))));refine cc (M:=M7) (A:=RT.fd) bG rfl jW (by decide) rfl rfl rfl jH (ar _ _) (fun v81 E4=>?_);refine ez (A:=RT.fd) (hn:=by decide) (M:=M7) cb jW (by decide) rfl rfl hM (E4) (.inl rfl) (fun Yd Ye lp qa=>?_);replace hv:=hv.le qa.le;replace jH:=jH.le (by decide) qa.le;replace ho:=ho.bC qa;replace hM:=qa.lt hM;have:=S.size;replace S:=S.aE qa;refine cz (M:=M7) (base:=w0.heap.size) cb jW rfl rfl rfl rfl ho lp (ar _ _) (by simp;omega) (by simp;omega) (S.size) (fun Yf Dw Yg Dx qb=>?_);replace hv:=hv.le qb.le;replace jH:=jH.le (by decide) qb.le;replace lp:=lp.le qb.le;replace hM:=qb.lt hM
     have:=S.size;replace S:=S.cJ qb ho (bw _);replace ho:=Dx;refine al rfl rfl (ae (au (ak (aj rfl rfl (aj rfl rfl (aj rfl rfl ?_))))));refine Rg.nX (M:=Dw) cb jW rfl rfl rfl hv (by omega) (fun u93 vH=>?_);rw[aK]at vH;refine cz (M:=Dw) (base:=w0.heap.size) cb jW rfl rfl rfl rfl ho vH (ar _ _) (by simp;omega) (by simp;omega) (S.size) (fun D5 MR MS wZ kC=>?_);replace hv:=hv.le kC.le;replace jH:=jH.le (by decide) kC.le;replace lp:=lp.le kC.le;replace hM:=kC.lt hM;have:=S.size;replace S:=S.cJ kC ho (bw _);replace ho:=wZ;refine al rfl rfl (ae (aW ?_));rw[fz,fm,List.singleton_append]at ho;rw[←jq DY (by first|exact qp nP (by omega) jt c2 c4|exact fun x hx=>by rw[show k=0 by omega]at hx;cases hx)]at ho;exact a8 rfl rfl ⟨fQ (hn:=by decide) fZ S ho (by rw[jq DY (by first|exact qp nP (by omega) jt c2 c4|exact fun x hx=>by rw[show k=0 by omega]at hx;cases hx)];simp;omega),S.back⟩
  ·refine aw rfl rfl rfl rfl ?_;refine ae ⟨rfl,rfl,rfl,?_⟩;refine aw rfl rfl rfl rfl ?_;refine ae ⟨rfl,rfl,rfl,?_⟩;refine aw rfl rfl rfl rfl ?_;refine ae ⟨rfl,rfl,rfl,?_⟩;refine aw rfl rfl rfl rfl ?_;refine ae ⟨rfl,rfl,rfl,?_⟩;refine aw rfl rfl rfl rfl ?_;refine ae ⟨rfl,rfl,rfl,?_⟩;refine aw rfl rfl rfl rfl ?_;refine ae ⟨rfl,rfl,rfl,?_⟩;refine dv ?_
   try (obtain⟨bb,oo,cs,ee,fr,rfl,kr,_⟩:=Sy.float)
   refine⟨eA ⟨eU,⟨eU,⟨(by first|exact bT.Yc rfl|exact bT.bin rfl rfl),⟨bT.idx,⟨(by first|exact dx rfl kr (fun h=>h)|exact bT.Pp rfl),trivial⟩⟩⟩⟩⟩,?_⟩;have kp:=eX aN wD2;refine aw rfl rfl rfl rfl ?_;refine(fun(kp:eg _ _ _)=>ae ⟨rfl,rfl,fun _=>kp,?_⟩) (by first|exact kp|exact kp.mY (by assumption)|exact kp.goN (by assumption)|exact kp.go (by assumption) (fun _ _ h=>by first|exact h|exact h.elim));refine aw rfl rfl rfl rfl ?_;refine ae ⟨rfl,rfl,fun h=>absurd rfl h,?_⟩;refine aw rfl rfl rfl rfl ?_;refine ae ⟨rfl,rfl,fun h=>absurd rfl h,?_⟩;refine aL rfl rfl rfl ?_;refine ae ⟨rfl,rfl,fun h=>absurd rfl h,?_⟩;refine gX (ir rfl (cP (au (au ?_))));apply kz mixed rfl rfl;intro HX Ke;have lE:=Ke M;replace hv:=hv.le lE.le;replace jH:=jH.le (by decide) lE.le;replace hM:=lE.lt hM;have:=S.size;replace S:=S.aE lE;refine aj rfl rfl ?_;refine ae ⟨rfl,rfl,rfl,?_⟩;refine hY rfl rfl rfl ?_;refine ae ⟨rfl,rfl,rfl,?_⟩;refine aj rfl rfl ?_;refine ae ⟨rfl,rfl,rfl,?_⟩;refine aZ (g:=26) rfl (fun qA=>?_) (fun qA=>?_)
   ·omega
   ·refine aw rfl rfl rfl rfl ?_;refine ae ⟨rfl,rfl,rfl,?_⟩;refine aw rfl rfl rfl rfl ?_;refine ae ⟨rfl,rfl,rfl,?_⟩;refine aw rfl rfl rfl rfl ?_;refine ae ⟨rfl,rfl,rfl,?_⟩;refine aw rfl rfl rfl rfl ?_;refine ae ⟨rfl,rfl,rfl,?_⟩;refine aw rfl rfl rfl rfl ?_;refine ae ⟨rfl,rfl,rfl,?_⟩;refine aw rfl rfl rfl rfl ?_;refine ae ⟨rfl,rfl,rfl,?_⟩;refine aw rfl rfl rfl rfl ?_;refine ae ⟨rfl,rfl,rfl,?_⟩;refine aL rfl rfl rfl ?_;refine ae ⟨rfl,rfl,rfl,?_⟩;refine dv (ir rfl (bg (au (ak (al rfl rfl (ae (au (ak (aj rfl rfl (aj rfl rfl (aj rfl rfl ?_)))))))))));refine Rg.mJ (M:=M) cb jW rfl rfl rfl hv (by omega) (fun u73 ye=>?_);rw[aK]at ye;refine cz (M:=M) (base:=w0.heap.size) (xs:=[]) cb jW rfl rfl rfl rfl (dO _ _ _ _ _) ye (ar _ _) (by simp;omega) (by simp;omega) S.size (fun v7 M7 w7 ho s7=>?_);replace s7:=s7.cD (N':=aN) (fun b hb=>by unfold kb at hb;cases hb) (fun b h=>h.elim);replace hv:=hv.le s7.le;replace jH:=jH.le (by decide) s7.le;replace hM:=s7.lt hM;have:=S.size;replace S:=S.aE s7;refine al rfl rfl (ae (au (ak (aj rfl rfl ?_))));refine cc (M:=M7) (A:=RT.fd) bG rfl jW (by decide) rfl rfl rfl jH (ar _ _) (fun v81 E4=>?_);refine ez (A:=RT.fd) (hn:=by decide) (M:=M7) cb jW (by decide) rfl rfl hM (E4) (.inl rfl) (fun Yd Ye lp qa=>?_);replace hv:=hv.le qa.le;replace jH:=jH.le (by decide) qa.le;replace ho:=ho.bC qa;replace hM:=qa.lt hM;have:=S.size;replace S:=S.aE qa;refine cz (M:=M7) (base:=w0.heap.size) cb jW rfl rfl rfl rfl ho lp (ar _ _) (by simp;omega) (by simp;omega) (S.size) (fun Yf Dw Yg Dx qb=>?_);replace hv:=hv.le qb.le;replace jH:=jH.le (by decide) qb.le;replace lp:=lp.le qb.le;replace hM:=qb.lt hM;have:=S.size
    replace S:=S.cJ qb ho (bw _);replace ho:=Dx;refine al rfl rfl (ae (au (ak (aj rfl rfl (aj rfl rfl (aj rfl rfl ?_))))));refine Rg.nX (M:=Dw) cb jW rfl rfl rfl hv (by omega) (fun u93 vH=>?_);rw[aK]at vH;refine cz (M:=Dw) (base:=w0.heap.size) cb jW rfl rfl rfl rfl ho vH (ar _ _) (by simp;omega) (by simp;omega) (S.size) (fun D5 MR MS wZ kC=>?_);replace hv:=hv.le kC.le;replace jH:=jH.le (by decide) kC.le;replace lp:=lp.le kC.le;replace hM:=kC.lt hM;have:=S.size;replace S:=S.cJ kC ho (bw _);replace ho:=wZ;refine al rfl rfl (ae (aW ?_));rw[fz,fm,List.singleton_append]at ho;rw[←jq DY (by first|exact qp nP (by omega) jt c2 c4|exact fun x hx=>by rw[show k=0 by omega]at hx;cases hx)]at ho;exact a8 rfl rfl ⟨fQ (hn:=by decide) fZ S ho (by rw[jq DY (by first|exact qp nP (by omega) jt c2 c4|exact fun x hx=>by rw[show k=0 by omega]at hx;cases hx)];simp;omega),S.back⟩
end Go.K
namespace Go.K
open Go.Proofs
namespace TKPutB
theorem Sq:Enters Tryz.prog 148:=enters Tryz.func148 rfl (by decide)
theorem afR:Enters Tryz.prog 181:=enters Tryz.func181 rfl (by decide)
end TKPutB
open TKPutB
set_option maxRecDepth 10000
theorem uY {M:aU} {d:Dc} {v0:Value} (w0:World) (hM:Lt M w0) (hd:RT.dc.V M w0 d v0) (hf:iT d) (hlen:∀f∈d.2,f.1.length≤900000∧f.2.length≤900000):
  Spec Tryz.prog 133 #[v0] w0 (fun v w=>(RT.fd.sl).V M w (cC (ck d.2)) v∧Step M w0 M w aN):=by
 have fZ:=hM;have hdl:d.2.length≤1000000:=by have:=hf.few;omega
 refine bE (args:=[_]) (fn:=Tryz.f133) Tryz.func133 rfl (n:=42) Tryz.ntmps133 ?_;have S:Step M w0 M w0 aN:=(ah _ _).cD (fun _ h=>h.elim) (fun _ h=>h.elim);refine au (ak ?_);refine eG (A:=RT.dc) (a:=d) rfl rfl hM hd rfl (fun u1 w1 eW s0 _=>?_);replace hd:=hd.le s0.le;replace hM:=s0.lt hM;have:=S.size;replace S:=S.aE s0;refine al rfl rfl (ae (au (ak (al rfl rfl (ae (au (au (ak (al rfl rfl (ae (bu ?_)))))))))));refine de (σ:=Nat×Value) (fun q=>[(1,u1),(3,q.2),(4,.int .i64 (q.1:Int))]) (fun q w=>Step M w0 M w aN∧bL RT.dc M w u1 d∧(RT.fd.sl).V M w (allBy dm ((ck (d.2.take q.1)).map (·.1))) q.2∧q.1≤d.2.length) (fun q=>d.2.length-q.1) (0,.slice none 0 0) (.cons rfl (.cons rfl (.cons rfl .nil))) ?_ ?_
 ·exact⟨S,eW,jD,bM _⟩
 ·clear S eW hM;rintro⟨i,u⟩ w ⟨S,eW,hu,hi⟩;dsimp only at hu hi ⊢;have hM:=S.lt fZ;refine au (au (ak (aj rfl rfl ?_)));refine aA (M:=M) (A:=RT.dc) (B:=(RT.fd).sl) a7 rfl rfl qx (by decide) AU rfl rfl (by decide) eW (ar _ _) (fun u31 afS=>?_);refine aY (M:=M) bj rfl rfl rfl rfl rfl afS (ar _ _) (fun v32 afT=>?_);refine bF bj rfl afT rfl (cu rfl rfl rfl (ae ?_));refine bW rfl (fun c3=>?_) (fun c3=>?_)
  ·refine bg (au (bu (au ?_)));apply T.FD 7 mixed rfl rfl rfl rfl rfl;intro EH Ro;have mw:=Ro M;replace eW:=eW.le (by decide) mw.le;replace hu:=hu.le mw.le;replace hM:=mw.lt hM;have:=S.size;replace S:=S.aE mw;obtain⟨x,jt⟩:∃x,d.2[i]? =some x:=⟨_,aI (by omega)⟩;refine cc (M:=M) (A:=RT.dc) a7 rfl lN (by decide) rfl rfl rfl eW (ar _ _) (fun v50 Lr=>?_);refine ae ⟨rfl,rfl,rfl,?_⟩;refine aA (M:=M) (A:=RT.dc) (B:=(RT.fd).sl) a7 rfl rfl qx (by decide) AU rfl rfl (by decide) eW (ar _ _) (fun u51 Sz=>?_);refine ae ⟨rfl,rfl,rfl,?_⟩;refine aY (M:=M) bj rfl rfl rfl rfl rfl Sz (ar _ _) (fun v52 NW=>?_);refine ae ⟨rfl,rfl,rfl,?_⟩;refine aj rfl rfl ?_;refine ae ⟨rfl,rfl,rfl,?_⟩;refine bS (M:=M) bj jz rfl rfl rfl NW (ar _ _) (by omega) (fun u54 x_ fy Lj=>?_);rw[aK]at fy;obtain rfl:=aG (jt.symm.trans fy);refine ae ⟨rfl,rfl,rfl,?_⟩;refine aA (M:=M) (A:=RT.fd) (B:=RT.str) cv rfl rfl I9 (by decide) G3 rfl rfl (by decide) Lj (ar _ _) (fun u55 SB=>?_);refine ae ⟨rfl,rfl,rfl,?_⟩;refine aY (M:=M) aM rfl rfl rfl rfl rfl SB (ar _ _) (fun v56 afU=>?_);obtain rfl:=dQ afU;refine ae ⟨rfl,rfl,rfl,?_⟩;refine dv ?_;refine aS rfl rfl Sq (uW _ hM Lr hlen hdl) (fun r5 w5 hc=>?_);obtain⟨mI,s5⟩:=hc;rw[HF hf jt]at mI;have Z7:=lV x.2;have wk:=hlen _ (aQ jt);replace eW:=eW.le (by decide) s5.le;replace hu:=hu.le s5.le;replace hM:=s5.lt hM;have:=S.size;replace S:=S.aE s5;refine al rfl rfl (ae (au (ak (al rfl rfl (ae (bu ?_))))));refine de (σ:=Nat×Value) (fun q=>[(1,u1),(3,q.2),(4,.int .i64 (i:Int)),(5,r5),(6,.int .i64 (q.1:Int))]) (fun q w=>Step M w0 M w aN∧bL RT.dc M w u1 d∧(RT.fd.sl).V M w (allBy dm (nR (d.2.take i) x q.1)) q.2∧(RT.str.sl).V M w (words x.2) r5∧q.1≤(words x.2).length) (fun q=>(words x.2).length-q.1) (0,u) (.cons rfl (.cons rfl (.cons rfl (.cons rfl (.cons rfl .nil))))) ?_ ?_
   ·exact⟨S,eW,by unfold nR;simpa using hu,mI,bM _⟩
   ·clear S eW hM mI hu;rintro⟨k,u2⟩ w ⟨S,eW,hu,mI,hk⟩;dsimp only at hu hk ⊢;have hM:=S.lt fZ;refine au (au (ak (aj rfl rfl (aj rfl rfl (bF aJ rfl mI rfl (cu rfl rfl rfl (ae ?_)))))));refine bW rfl (fun c7=>?_) (fun c7=>?_)
    ·refine bg (au (bu ?_));apply T.FD 12 mixed rfl rfl rfl rfl rfl;intro O7 XU;have Bd:=XU M;replace eW:=eW.le (by decide) Bd.le;replace hu:=hu.le Bd.le;replace mI:=mI.le Bd.le;replace hM:=Bd.lt hM;have:=S.size;replace S:=S.aE Bd;refine aj rfl rfl ?_;refine ae ⟨rfl,rfl,rfl,?_⟩;obtain⟨y,qG⟩:∃y,(words x.2)[k]? =some y:=⟨_,aI (by omega)⟩;refine aA (M:=M) (A:=RT.dc) (B:=(RT.fd).sl) a7 rfl rfl qx (by decide) AU rfl rfl (by decide) eW (ar _ _) (fun u91 SC=>?_);refine ae ⟨rfl,rfl,rfl,?_⟩;refine aY (M:=M) bj rfl rfl rfl rfl rfl SC (ar _ _) (fun v92 NX=>?_);refine ae ⟨rfl,rfl,rfl,?_⟩;refine aj rfl rfl ?_;refine ae ⟨rfl,rfl,rfl,?_⟩;refine bS (M:=M) bj jz rfl rfl rfl NX (ar _ _) (by omega) (fun u94 x_ fy afV=>?_);rw[aK]at fy;obtain rfl:=aG (jt.symm.trans fy);refine ae ⟨rfl,rfl,rfl,?_⟩;refine aA (M:=M) (A:=RT.fd) (B:=RT.str) cv rfl rfl I9 (by decide) G3 rfl rfl (by decide) afV (ar _ _) (fun u95 SD=>?_);refine ae ⟨rfl,rfl,rfl,?_⟩;refine aY (M:=M) aM rfl rfl rfl rfl rfl SD (ar _ _) (fun v96 SE=>?_);obtain rfl:=dQ SE;refine ae ⟨rfl,rfl,rfl,?_⟩;refine aj rfl rfl ?_;refine ae ⟨rfl,rfl,rfl,?_⟩;refine aj rfl rfl ?_;refine ae ⟨rfl,rfl,rfl,?_⟩;refine bS (M:=M) aJ I9 rfl rfl rfl mI (ar _ _) (by omega) (fun u99 x_ fy afW=>?_);rw[aK]at fy;obtain rfl:=aG (qG.symm.trans fy);refine ae ⟨rfl,rfl,rfl,?_⟩;refine aY (M:=M) aM rfl rfl rfl rfl rfl afW (ar _ _) (fun an7 Yh=>?_);obtain rfl:=dQ Yh;refine ae ⟨rfl,rfl,rfl,?_⟩;refine eF (places:=[(0,1),(1,1)]) bG jW TQ rfl ⟨_,_,rfl,rfl,_,_,rfl,rfl,rfl⟩ (out:=[_,_]) ⟨0,[_],rfl,rfl,by simp[Value.cells],1,[_],rfl,rfl,by simp[Value.cells],rfl⟩ ?_
     refine ae ⟨rfl,rfl,rfl,?_⟩;refine dv ?_;obtain⟨lK,hal⟩:=Gi hf jt k;obtain⟨nP,Ar,hle⟩:=Ln lK;obtain⟨_,hn1,hn2⟩:=(Gi hf jt (k+1)).1 (x.1,y) (by rw[Ae qG];simp);have htv:RT.fd.V M O7 (x.1,y) (kv (x.1,y)):=eS (jM.2 ⟨rfl,by dsimp only at hn1;omega⟩) (jM.2 ⟨rfl,by dsimp only at hn2;omega⟩) rfl rfl rfl rfl;refine aS rfl rfl afR (Bo (t:=(x.1,y)) _ hM hu htv nP Ar ⟨by omega,by omega⟩ (by omega)) (fun r9 w9 hc=>?_);obtain⟨Yi,s9⟩:=hc;rw[←xy,←Ae qG]at Yi;replace eW:=eW.le (by decide) s9.le;replace hu:=hu.le s9.le;replace mI:=mI.le s9.le;replace hM:=s9.lt hM;have:=S.size;replace S:=S.aE s9;refine al rfl rfl (ae (ak (aj rfl rfl (bQ rfl rfl rfl (by omega) (al rfl rfl (ae ?_))))));refine⟨rfl,(k+1,r9),(.cons rfl (.cons rfl (.cons rfl (.cons rfl (.cons rfl .nil))))),?_,?_⟩
     ·exact⟨S,eW,Yi,mI,by dsimp only;omega⟩
     ·dsimp only;omega
    ·refine cP (ak (aj rfl rfl (bQ rfl rfl rfl (by omega) (al rfl rfl (ae ?_)))));refine⟨rfl,(i+1,u2),(.cons rfl (.cons rfl (.cons rfl .nil))),?_,?_⟩
     ·exact⟨S,eW,by dsimp only;rw[←Ad jt,←show k=(words x.2).length by omega];exact hu,by dsimp only;omega⟩
     ·dsimp only;omega
  ·refine cP (au (ak (aj rfl rfl (al rfl rfl (ae (aW ?_))))));rw[bm (by omega)]at hu;exact a8 rfl rfl ⟨hu,S⟩
end Go.K
namespace Go.K
open Go.Proofs
namespace TKPutC
theorem afX:Enters Tryz.prog 182:=enters Tryz.func182 rfl (by decide)
end TKPutC
open TKPutC
set_option maxRecDepth 10000
theorem Ls (l:List (List UInt8)):vR (allBy id l)∧(allBy id l).length≤l.length∧∀k,k∈allBy id l↔k∈l:=by
 have h1:=oB (key:=id) (S:=fun _=>True) (fun a b _ _ h=>h) l [] (fun _ _=>trivial) (fun _ _=>trivial) List.Pairwise.nil
 have hm:∀t,t∈allBy id l↔t∈l:=fun t=>by
  have:=h1.2 t;unfold allBy;simpa using this
 have hu:vR (allBy id l):=h1.1;exact⟨hu,hu.nodup.length_le_of_subset (fun t ht=>(hm t).1 ht),hm⟩
theorem Dy {M:aU} {l:List (List UInt8)} {k:List UInt8} {v0:Value} (w0:World) (hM:Lt M w0) (hv:(RT.str.sl).V M w0 l v0) (hl:l.length≤1000000000):
  Spec Tryz.prog 182 #[v0,sv k] w0 (fun v w=>(∃i:Nat,v= .tuple #[.int .i64 (i:Int),.bool (decide (l[i]? =some k))]∧i≤l.length∧(∀x∈l.take i,x<k)∧∀x,l[i]? =some x→¬x<k)∧Step M w0 M w aN):=by
 have fZ:=hM;refine bE (args:=[_,_]) (fn:=Tryz.f182) Tryz.func182 rfl (n:=28) Tryz.ntmps182 ?_;have S:Step M w0 M w0 aN:=(ah _ _).cD (fun _ h=>h.elim) (fun _ h=>h.elim);refine au (ak (al rfl rfl (al rfl rfl (ae (au (au (ak (al rfl rfl (ae (bu ?_))))))))));refine de (σ:=Nat) (fun i=>[(0,v0),(1,sv k),(6,.int .i64 (i:Int))]) (fun i w=>Step M w0 M w aN∧(RT.str.sl).V M w l v0∧i≤l.length∧∀x∈l.take i,x<k) (fun i=>l.length-i) 0 (.cons rfl (.cons rfl (.cons rfl .nil))) ?_ ?_
 ·exact⟨S,hv,bM _,fun x h=>by simp at h⟩
 ·clear S hv hM;rintro i w ⟨S,hv,hi,GP⟩;have hM:=S.lt fZ;refine au (au (ak (aj rfl rfl (aj rfl rfl (bF aJ rfl hv rfl (cu rfl rfl rfl (ae ?_)))))));refine bW rfl (fun c2=>?_) (fun c2=>?_)
  ·refine bg (au (bu (au (ak (aj rfl rfl (aj rfl rfl ?_))))));obtain⟨x,jt⟩:∃x,l[i]? =some x:=⟨_,aI (by omega)⟩;refine bS (M:=M) aJ I9 rfl rfl rfl hv (ar _ _) (by omega) (fun u42 x_ fy SF=>?_);rw[aK]at fy;obtain rfl:=aG (jt.symm.trans fy);refine aY (M:=M) aM rfl rfl rfl rfl rfl SF (ar _ _) (fun v43 SG=>?_);obtain rfl:=dQ SG;refine aj rfl rfl (Rg.JP rfl rfl rfl (ae ?_));refine bW rfl (fun c4=>?_) (fun c4=>?_)
   ·refine au ?_;apply kz mixed rfl rfl;intro EH Ro;have mw:=Ro M;replace hv:=hv.le mw.le;replace hM:=mw.lt hM;have:=S.size;replace S:=S.aE mw;refine aj rfl rfl ?_;refine ae ⟨rfl,rfl,rfl,?_⟩;refine aj rfl rfl ?_;refine ae ⟨rfl,rfl,rfl,?_⟩;refine aj rfl rfl ?_;refine ae ⟨rfl,rfl,rfl,?_⟩;refine bS (M:=M) aJ I9 rfl rfl rfl hv (ar _ _) (by omega) (fun X8 x_ fy vG=>?_);rw[aK]at fy;obtain rfl:=aG (jt.symm.trans fy);refine ae ⟨rfl,rfl,rfl,?_⟩;refine aY (M:=M) aM rfl rfl rfl rfl rfl vG (ar _ _) (fun v54 yf=>?_);obtain rfl:=dQ yf;refine ae ⟨rfl,rfl,rfl,?_⟩;refine aj rfl rfl ?_;refine ae ⟨rfl,rfl,rfl,?_⟩;refine Rg.rL rfl rfl rfl ?_;refine ae ⟨rfl,rfl,rfl,?_⟩;refine al rfl rfl ?_;refine ae ⟨rfl,rfl,rfl,?_⟩;refine al rfl rfl ?_;refine ae ⟨rfl,rfl,rfl,?_⟩;refine dv (aW ?_);exact fw rfl rfl rfl ⟨⟨i,by rw[jt];first|rfl|simp,by omega,GP,fun z hz=>by rw[jt]at hz;cases hz;exact c4⟩,S⟩
   ·refine bg (ak (aj rfl rfl (bQ rfl rfl rfl (by omega) (al rfl rfl (ae ?_)))));refine⟨rfl,i+1,(.cons rfl (.cons rfl (.cons rfl .nil))),?_,?_⟩
    ·exact⟨S,hv,by omega,fun z hz=>by
      rw[bX,jt,cq]at hz;rcases dE.1 hz with hz|hz
      ·exact GP z hz
      ·rw[cT.1 hz];exact cy.1 c4⟩
    ·omega
  ·refine cP (au (ak (aj rfl rfl (bF aJ rfl hv rfl (al rfl rfl (al rfl rfl (ae (aW ?_))))))));exact fw rfl rfl rfl ⟨⟨l.length,by rw[fL (bw _)];rfl,bw _,by rw[bm (by omega)]at GP;rwa [bm (bw _)],fun z hz=>by rw[fL (bw _)]at hz;cases hz⟩,S⟩
theorem HG {M:aU} {l:List (List UInt8)} {k:List UInt8} {v0:Value} (w0:World) (hM:Lt M w0) (hv:(RT.str.sl).V M w0 l v0) (nP:vR l) (hk:k.length≤140737488355328) (hl:l.length≤1000000000):
  Spec Tryz.prog 134 #[v0,sv k] w0 (fun v w=>(RT.str.sl).V M w (jI id k l) v∧Step M w0 M w aN):=by
 have fZ:=hM;refine bE (args:=[_,_]) (fn:=Tryz.f134) Tryz.func134 rfl (n:=30) Tryz.ntmps134 ?_;have S:Step M w0 M w0 aN:=(ah _ _).cD (fun _ h=>h.elim) (fun _ h=>h.elim);refine au (ak (al rfl rfl (ae (au (ak (aj rfl rfl (aj rfl rfl ?_)))))));refine aS rfl rfl afX (Dy _ hM hv hl) (fun r1 w1 hc=>?_);obtain⟨⟨i,rfl,hi,GP,DY⟩,s1⟩:=hc;replace hv:=hv.le s1.le;replace hM:=s1.lt hM;have:=S.size;replace S:=S.aE s1;refine aj rfl rfl (b5 rfl rfl rfl (b5 rfl rfl rfl (al rfl rfl (al rfl rfl (ae (au (au (ak (aj rfl rfl (ae ?_))))))))));refine bW rfl (fun c2=>?_) (fun c2=>?_)
 ·refine au (ak (aj rfl rfl (al rfl rfl (ae (aW ?_)))));exact a8 rfl rfl ⟨by rw[um (key:=id) nP c2];exact hv,S⟩
 ·refine bg (au (ak (al rfl rfl (ae (au (ak (aj rfl rfl (aj rfl rfl (aj rfl rfl ?_)))))))));refine Rg.mJ (M:=M) aJ I9 rfl rfl rfl hv (by omega) (fun X8 vG=>?_);rw[aK]at vG;refine cz (M:=M) (base:=w0.heap.size) (xs:=[]) aJ I9 rfl rfl rfl rfl (dO _ _ _ _ _) vG (ar _ _) (by simp;omega) (by simp;omega) S.size (fun v5 M5 w5 ho s5=>?_);replace s5:=s5.cD (N':=aN) (fun b hb=>by unfold kb at hb;cases hb) (fun b h=>h.elim);replace hv:=hv.le s5.le;replace hM:=s5.lt hM;have:=S.size;replace S:=S.aE s5;refine al rfl rfl (ae (au (ak (aj rfl rfl (aj rfl rfl ?_)))));refine ez (A:=RT.str) (hn:=by decide) (M:=M5) aJ I9 (by decide) rfl rfl hM (jM.2 ⟨rfl,hk⟩) (.inr ⟨rfl,rfl⟩) (fun MX aob sG NY=>?_);replace hv:=hv.le NY.le;replace ho:=ho.bC NY;replace hM:=NY.lt hM;have:=S.size;replace S:=S.aE NY;refine cz (M:=M5) (base:=w0.heap.size) aJ I9 rfl rfl rfl rfl ho sG (ar _ _) (by simp;omega) (by simp;omega) (S.size) (fun aoc Yj VH Yk yQ=>?_);replace hv:=hv.le yQ.le;replace sG:=sG.le yQ.le;replace hM:=yQ.lt hM;have:=S.size;replace S:=S.cJ yQ ho (bw _);replace ho:=Yk;refine al rfl rfl (ae (au (ak (aj rfl rfl (aj rfl rfl (aj rfl rfl ?_))))));refine Rg.nX (M:=Yj) aJ I9 rfl rfl rfl hv (by omega) (fun u73 ye=>?_);rw[aK]at ye;refine cz (M:=Yj) (base:=w0.heap.size) aJ I9 rfl rfl rfl rfl ho ye (ar _ _) (by simp;omega) (by simp;omega) (S.size) (fun VO aod aoe Yl NZ=>?_);replace hv:=hv.le NZ.le;replace sG:=sG.le NZ.le;replace hM:=NZ.lt hM;have:=S.size;replace S:=S.cJ NZ ho (bw _);replace ho:=Yl;refine al rfl rfl (ae (aW ?_))
  have e:jI id k l=l.take i++k::l.drop i:=jq (key:=id) (fun x hx=>by
   have h9:∀y,l[i]? =some y→k<y:=fun y hy=>by
    rcases lP k y with h|h|h
    ·exact h
    ·subst h;exact absurd hy c2
    ·exact absurd h (DY y hy)
   obtain⟨j,hj,rfl⟩:=List.mem_iff_getElem.1 hx;rw[dh]at hj;rw[List.getElem_drop];have h8:=h9 l[i] (aI (by omega))
   cases j with
   |zero=>exact h8
   |succ j=>exact j8 h8 (List.pairwise_iff_getElem.1 nP i (i+(j+1)) (by omega) (by omega) (by omega))) (fun x hx=>⟨jm (GP x hx),fun h=>by subst h;exact iW _ (GP _ hx)⟩)
  rw[fz,fm,List.singleton_append,←e]at ho;exact a8 rfl rfl ⟨fQ (hn:=by decide) fZ S ho (by rw[e];simp;omega),S.back⟩
end Go.K
namespace Go.K
open Go.Proofs
namespace TKPutD
theorem Pq:Enters Tryz.prog 94:=enters Tryz.func94 rfl (by decide)
theorem afY:Enters Tryz.prog 104:=enters Tryz.func104 rfl (by decide)
theorem Ym:Enters Tryz.prog 133:=enters Tryz.func133 rfl (by decide)
theorem afZ:Enters Tryz.prog 134:=enters Tryz.func134 rfl (by decide)
end TKPutD
open TKPutD
set_option maxRecDepth 10000
def qO (L:List En) (e:En) (k:Nat):List (List UInt8):=gZ L++((cC (mP e)).take k).map dm
theorem E5 {L:List En} {e:En} {i:Nat} (h:L[i]? =some e):qO (L.take i) e (cC (mP e)).length=gZ (L.take (i+1)):=by
 unfold qO;rw[bX,h,cq,xA,tt]
theorem E6 {L:List En} {e:En} {k:Nat} {t:Fd} (h:(cC (mP e))[k]? =some t):qO L e (k+1)=qO L e k++[dm t]:=by
 unfold qO;rw[bX,h,cq,dF,fm];rfl
theorem sU {d:Dc} (hf:iT d):(∀t∈cC (ck d.2),t.1.length≤12∧t.2.length≤30)∧(cC (ck d.2)).length≤500:=by
 refine⟨fun t ht=>?_,?_⟩
 ·obtain⟨p,hp,rfl⟩:=cL.1 ((jB hf.Hl).1 ht);exact hf.small p hp
 ·have:=(pV hf.Hl).nodup.length_le_of_subset (l₂:=(ck d.2).map (·.1)) (fun t ht=>(jB hf.Hl).1 ht);rw[cr]at this;have:=hf.many;omega
theorem HH {L:List En} (hF:∀e∈L,iT e.1) {e:En} {i k:Nat} (h:L[i]? =some e) (hl:L.length≤1000000):(qO (L.take i) e k).length≤500000500:=by
 have h1:=kT (L:=L.take i) (fun x hx=>hF x (mX hx));have h2:=(sU (hF e (aQ h))).2;unfold qO;rw[bP,cr,bU];rw[bU]at h1;have h3:(cC (mP e)).length≤500:=h2;omega
theorem Lu (t:Fd):(dm t).length=t.1.length+1+t.2.length:=by unfold dm;simp;omega
theorem E7 {M:aU} {L:List En} {v0:Value} (w0:World) (hM:Lt M w0) (hv:(RT.en.sl).V M w0 L v0) (hF:∀e∈L,iT e.1) (hlen:∀e∈L,∀f∈e.1.2,f.1.length≤900000∧f.2.length≤900000) (hl:L.length≤1000000):
  Spec Tryz.prog 86 #[v0] w0 (fun v w=>(RT.str.sl).V M w (keysOf L) v∧Step M w0 M w aN):=by
 have fZ:=hM;refine bE (args:=[_]) (fn:=Tryz.f86) Tryz.func86 rfl (n:=33) Tryz.ntmps86 ?_;have S:Step M w0 M w0 aN:=(ah _ _).cD (fun _ h=>h.elim) (fun _ h=>h.elim);refine au (ak (al rfl rfl (ae (au (ak (al rfl rfl (ae (au (au (ak (al rfl rfl ?_)))))))))));refine ae (bu ?_);refine de (σ:=Nat×Value) (fun q=>[(0,v0),(3,q.2),(4,.int .i64 (q.1:Int))]) (fun q w=>Step M w0 M w aN∧(RT.en.sl).V M w L v0∧(RT.str.sl).V M w (allBy id (gZ (L.take q.1))) q.2∧q.1≤L.length) (fun q=>L.length-q.1) (0,.slice none 0 0) (.cons rfl (.cons rfl (.cons rfl .nil))) ?_ ?_
 ·exact⟨S,hv,jD,bM _⟩
 ·clear S hv hM;rintro⟨i,u⟩ w ⟨S,hv,hu,hi⟩;dsimp only at hu hi ⊢;have hM:=S.lt fZ;refine au (au (ak (aj rfl rfl (aj rfl rfl (bF dK rfl hv rfl (cu rfl rfl rfl (ae ?_)))))));refine bW rfl (fun c3=>?_) (fun c3=>?_)
  ·refine bg (au (bu (au (ak (aj rfl rfl (aj rfl rfl ?_))))));obtain⟨e,jt⟩:∃x,L[i]? =some x:=⟨_,aI (by omega)⟩;have SH:=hF e (aQ jt);have hle:=hlen e (aQ jt);obtain⟨DT,htn⟩:=sU SH;refine bS (M:=M) dK yO rfl rfl rfl hv (ar _ _) (by omega) (fun u52 x_ fy SI=>?_);rw[aK]at fy;obtain rfl:=aG (jt.symm.trans fy);refine aA (M:=M) (A:=RT.en) (B:=RT.dc) cV rfl rfl lN (by decide) MY rfl rfl (by decide) SI (ar _ _) (fun X8 vG=>?_);refine cc (M:=M) (A:=RT.dc) a7 rfl lN (by decide) rfl rfl rfl vG (ar _ _) (fun v54 yf=>?_);refine aS rfl rfl Ym (uY _ hM yf SH hle) (fun r5 w5 hc=>?_);obtain⟨mI,s5⟩:=hc;replace hv:=hv.le s5.le;replace hu:=hu.le s5.le;replace hM:=s5.lt hM;have:=S.size;replace S:=S.aE s5;refine al rfl rfl (ae (au (ak (al rfl rfl (ae (bu ?_))))));refine de (σ:=Nat×Value) (fun q=>[(0,v0),(3,q.2),(4,.int .i64 (i:Int)),(5,r5),(6,.int .i64 (q.1:Int))]) (fun q w=>Step M w0 M w aN∧(RT.en.sl).V M w L v0∧(RT.str.sl).V M w (allBy id (qO (L.take i) e q.1)) q.2∧(RT.fd.sl).V M w (cC (ck e.1.2)) r5∧q.1≤(cC (ck e.1.2)).length) (fun q=>(cC (ck e.1.2)).length-q.1) (0,u) (.cons rfl (.cons rfl (.cons rfl (.cons rfl (.cons rfl .nil))))) ?_ ?_
   ·exact⟨S,hv,by unfold qO;simpa using hu,mI,bM _⟩
   ·clear S hv hM mI hu;rintro⟨k,u2⟩ w ⟨S,hv,hu,mI,hk⟩;dsimp only at hu hk ⊢;have hM:=S.lt fZ;refine au (au (ak (aj rfl rfl (aj rfl rfl (bF cb rfl mI rfl (cu rfl rfl rfl (ae ?_)))))));refine bW rfl (fun c7=>?_) (fun c7=>?_)
    ·refine bg (au (bu (ak (aj rfl rfl (aj rfl rfl (aj rfl rfl ?_))))));obtain⟨t,N0⟩:∃x,(cC (ck e.1.2))[k]? =some x:=⟨_,aI (by omega)⟩;obtain⟨TY,I8⟩:=DT t (aQ N0);refine bS (M:=M) cb jW rfl rfl rfl mI (ar _ _) (by omega) (fun u93 x_ fy vH=>?_);rw[aK]at fy;obtain rfl:=aG (N0.symm.trans fy);refine cc (M:=M) (A:=RT.fd) bG rfl jW (by decide) rfl rfl rfl vH (ar _ _) (fun v94 SJ=>?_);obtain rfl:v94=kv t:=iB SJ;refine aS rfl rfl Pq (qj (t:=t) _ hM (by omega) (by omega)) (fun r95 w95 hc=>?_);obtain⟨rfl,Yn⟩:=hc;replace hv:=hv.le Yn.le;replace hu:=hu.le Yn.le;replace mI:=mI.le Yn.le;replace hM:=Yn.lt hM;have:=S.size;replace S:=S.aE Yn;obtain⟨nP,zk,_⟩:=Ls (qO (L.take i) e k);have Ua:=HH (k:=k) hF jt hl;refine aS rfl rfl afZ (HG (k:=dm t) _ hM hu nP (by rw[Lu];omega) (by omega)) (fun r9 w9 hc=>?_);obtain⟨Yi,s9⟩:=hc;rw[←xy,←E6 N0]at Yi;replace hv:=hv.le s9.le;replace hu:=hu.le s9.le;replace mI:=mI.le s9.le;replace hM:=s9.lt hM;have:=S.size;replace S:=S.aE s9;refine al rfl rfl (ae (ak (aj rfl rfl (bQ rfl rfl rfl (by omega) (al rfl rfl (ae ?_))))));refine⟨rfl,(k+1,r9),(.cons rfl (.cons rfl (.cons rfl (.cons rfl (.cons rfl .nil))))),?_,?_⟩
     ·exact⟨S,hv,Yi,mI,by dsimp only;omega⟩
     ·dsimp only;omega
    ·refine cP (ak (aj rfl rfl (bQ rfl rfl rfl (by omega) (al rfl rfl (ae ?_)))));refine⟨rfl,(i+1,u2),(.cons rfl (.cons rfl (.cons rfl .nil))),?_,?_⟩
     ·exact⟨S,hv,by dsimp only;rw[←E5 jt,show(cC (mP e)).length=k from bY (show k=(cC (ck e.1.2)).length by omega)];exact hu,by dsimp only;omega⟩
     ·dsimp only;omega
  ·refine cP (au (ak (aj rfl rfl (al rfl rfl (ae (aW ?_))))));rw[bm (by omega)]at hu;exact a8 rfl rfl ⟨hu,S⟩
def H2 (L:List En) (key:List UInt8) (i:Nat) (e:En) (k:Nat):List Po:=A4 key 0 (L.take i)++((((cC (mP e)).take k).filter fun t=>decide (dm t=key)).map fun t=>((i:Int),posOf (mP e) t))
theorem Lv {L:List En} {key:List UInt8} {i:Nat} {e:En} (h:L[i]? =some e):H2 L key i e (cC (mP e)).length=A4 key 0 (L.take (i+1)):=by
 have hi:=(aF.1 h).1;unfold H2;rw[bX,h,cq,xz,tt,bU,Nat.min_eq_left (Nat.le_of_lt hi),Nat.zero_add];rfl
theorem N1 {L:List En} {key:List UInt8} {i:Nat} {e:En} {k:Nat} {t:Fd} (h:(cC (mP e))[k]? =some t) (hk:dm t=key):H2 L key i e (k+1)=H2 L key i e k++[((i:Int),posOf (mP e) t)]:=by
 unfold H2;rw[bX,h,cq,List.filter_append,qc (by simpa using hk),List.filter_nil,dF,fm];rfl
theorem Lw {L:List En} {key:List UInt8} {i:Nat} {e:En} {k:Nat} {t:Fd} (h:(cC (mP e))[k]? =some t) (hk: ¬dm t=key):H2 L key i e (k+1)=H2 L key i e k:=by
 unfold H2;rw[bX,h,cq,List.filter_append,List.filter_cons_of_neg (by simpa using hk),List.filter_nil,iP]
theorem Gj {L:List En} {key:List UInt8} {i:Nat} {e:En} {k:Nat} (hF:∀e∈L,iT e.1) (h:L[i]? =some e):(H2 L key i e k).length≤L.length+500:=by
 have h1:=(nf key (L.take i) 0 (fun e he=>hF e (mX he))).1;have h2:(cC (mP e)).length≤500:=(sU (hF e (aQ h))).2;have h3:=List.length_filter_le (fun t=>decide (dm t=key)) ((cC (mP e)).take k);unfold H2;rw[bP,cr];rw[bU]at h1 h3;omega
theorem E8 {M:aU} {L:List En} {key:List UInt8} {v0:Value} (w0:World) (hM:Lt M w0) (hv:(RT.en.sl).V M w0 L v0) (hF:∀e∈L,iT e.1) (hlen:∀e∈L,∀f∈e.1.2,f.1.length≤900000∧f.2.length≤900000) (hl:L.length≤1000000):
  Spec Tryz.prog 87 #[v0,sv key] w0 (fun v w=>(RT.po.sl).V M w (pk L key) v∧Step M w0 M w aN):=by
 have fZ:=hM;refine bE (args:=[_,_]) (fn:=Tryz.f87) Tryz.func87 rfl (n:=50) Tryz.ntmps87 ?_;have S:Step M w0 M w0 aN:=(ah _ _).cD (fun _ h=>h.elim) (fun _ h=>h.elim);refine au (ak (al rfl rfl (ae (au (ak (al rfl rfl (ae (au (au (ak (al rfl rfl ?_)))))))))));refine ae (bu ?_);refine de (σ:=Nat×Value) (fun q=>[(0,v0),(1,sv key),(5,q.2),(6,.int .i64 (q.1:Int))]) (fun q w=>∃M',Lt M' w∧Step M w0 M' w aN∧(RT.en.sl).V M' w L v0∧Own RT.po 153 M' w w0.heap.size q.2 (A4 key 0 (L.take q.1))∧q.1≤L.length) (fun q=>L.length-q.1) (0,.slice none 0 0) (.cons rfl (.cons rfl (.cons rfl (.cons rfl .nil)))) ?_ ?_
 ·exact⟨M,hM,S,hv,dO _ _ _ _ _,bM _⟩
 ·clear S hv hM;rintro⟨i,u⟩ w ⟨M1,hM,S,hv,ho,hi⟩;dsimp only at ho hi ⊢;refine au (au (ak (aj rfl rfl (aj rfl rfl (bF dK rfl hv rfl (cu rfl rfl rfl (ae ?_)))))));refine bW rfl (fun c3=>?_) (fun c3=>?_)
  ·refine bg (au (bu (au (ak (aj rfl rfl (aj rfl rfl ?_))))));obtain⟨e,jt⟩:∃x,L[i]? =some x:=⟨_,aI (by omega)⟩;have SH:=hF e (aQ jt);have hle:=hlen e (aQ jt);obtain⟨DT,htn⟩:=sU SH;refine bS (M:=M1) dK yO rfl rfl rfl hv (ar _ _) (by omega) (fun u52 x_ fy SI=>?_);rw[aK]at fy;obtain rfl:=aG (jt.symm.trans fy);refine aA (M:=M1) (A:=RT.en) (B:=RT.dc) cV rfl rfl lN (by decide) MY rfl rfl (by decide) SI (ar _ _) (fun X8 vG=>?_);refine cc (M:=M1) (A:=RT.dc) a7 rfl lN (by decide) rfl rfl rfl vG (ar _ _) (fun v54 yf=>?_);refine aS rfl rfl Ym (uY _ hM yf SH hle) (fun r5 w5 hc=>?_);obtain⟨mI,s5⟩:=hc;replace hv:=hv.le s5.le;replace ho:=ho.bC s5;replace hM:=s5.lt hM;have:=S.size;replace S:=S.aE s5;refine al rfl rfl (ae (au (ak (al rfl rfl (ae (bu ?_))))));refine de (σ:=Nat×Value) (fun q=>[(0,v0),(1,sv key),(5,q.2),(6,.int .i64 (i:Int)),(7,r5),(8,.int .i64 (q.1:Int))]) (fun q w=>∃M',Lt M' w∧Step M w0 M' w aN∧(RT.en.sl).V M' w L v0∧Own RT.po 153 M' w w0.heap.size q.2 (H2 L key i e q.1)∧(RT.fd.sl).V M' w (cC (ck e.1.2)) r5∧q.1≤(cC (ck e.1.2)).length) (fun q=>(cC (ck e.1.2)).length-q.1) (0,u) (.cons rfl (.cons rfl (.cons rfl (.cons rfl (.cons rfl (.cons rfl .nil)))))) ?_ ?_
   ·exact⟨_,hM,S,hv,by unfold H2;simpa using ho,mI,bM _⟩
   ·clear S hv hM mI ho;rintro⟨k,u2⟩ w ⟨M2,hM,S,hv,ho,mI,hk⟩;dsimp only at ho hk ⊢;refine au (au (ak (aj rfl rfl (aj rfl rfl (bF cb rfl mI rfl (cu rfl rfl rfl (ae ?_)))))));refine bW rfl (fun c7=>?_) (fun c7=>?_)
    ·refine bg (au (bu (au (ak (aj rfl rfl (aj rfl rfl ?_))))));obtain⟨t,N0⟩:∃x,(cC (ck e.1.2))[k]? =some x:=⟨_,aI (by omega)⟩;obtain⟨TY,I8⟩:=DT t (aQ N0);refine bS (M:=M2) cb jW rfl rfl rfl mI (ar _ _) (by omega) (fun u92 x_ fy af0=>?_);rw[aK]at fy;obtain rfl:=aG (N0.symm.trans fy);refine cc (M:=M2) (A:=RT.fd) bG rfl jW (by decide) rfl rfl rfl af0 (ar _ _) (fun v93 af1=>?_);obtain rfl:v93=kv t:=iB af1;refine aS rfl rfl Pq (qj (t:=t) _ hM (by omega) (by omega)) (fun r94 w94 hc=>?_);obtain⟨rfl,Yo⟩:=hc;replace hv:=hv.le Yo.le;replace mI:=mI.le Yo.le;replace ho:=ho.bC Yo;replace hM:=Yo.lt hM;have:=S.size;replace S:=S.aE Yo;refine aj rfl rfl (Rg.rL rfl rfl rfl (ae ?_));refine bW rfl (fun c9=>?_) (fun c9=>?_)
     ·subst c9;apply nr 11 [0,1] 3 aN mixed rfl rfl rfl rfl;intro Yp SK;have zb:=SK M2;replace hv:=hv.le zb.le;replace mI:=mI.le zb.le;replace ho:=ho.bC zb;replace hM:=zb.lt hM;have:=S.size;replace S:=S.aE zb;refine aj rfl rfl ?_;refine ae ⟨rfl,rfl,rfl,?_⟩;refine aj rfl rfl ?_;refine ae ⟨rfl,rfl,rfl,?_⟩;refine aj rfl rfl ?_;refine ae ⟨rfl,rfl,rfl,?_⟩;refine aj rfl rfl ?_;refine ae ⟨rfl,rfl,rfl,?_⟩;refine bS (M:=M2) dK yO rfl rfl rfl hv (ar _ _) (by omega) (fun af3 x_ fy Lx=>?_);rw[aK]at fy;obtain rfl:=aG (jt.symm.trans fy);refine ae ⟨rfl,rfl,rfl,?_⟩;refine aA (M:=M2) (A:=RT.en) (B:=RT.dc) cV rfl rfl lN (by decide) MY rfl rfl (by decide) Lx (ar _ _) (fun aoh Yq=>?_);refine ae ⟨rfl,rfl,rfl,?_⟩;refine cc (M:=M2) (A:=RT.dc) a7 rfl lN (by decide) rfl rfl rfl Yq (ar _ _) (fun aoi Yr=>?_);refine ae ⟨rfl,rfl,rfl,?_⟩;refine aj rfl rfl ?_;refine ae ⟨rfl,rfl,rfl,?_⟩;refine aj rfl rfl ?_;refine ae ⟨rfl,rfl,rfl,?_⟩;refine bS (M:=M2) cb jW rfl rfl rfl mI (ar _ _) (by omega) (fun aoj x_ fy Ys=>?_);rw[aK]at fy;obtain rfl:=aG (N0.symm.trans fy);refine ae ⟨rfl,rfl,rfl,?_⟩;refine cc (M:=M2) (A:=RT.fd) bG rfl jW (by decide) rfl rfl rfl Ys (ar _ _) (fun ajL SL=>?_);refine ae ⟨rfl,rfl,rfl,?_⟩;refine dv ?_;refine⟨eA ⟨eU,⟨eU,trivial⟩⟩,?_⟩;have kp:=eX aN Yp;refine aS rfl rfl afY (Du (t:=t) _ hM Yr hle (by have:=SH.few;omega) SL) (fun r10 w10 hc=>?_);obtain⟨E9,sk⟩:=hc;rw[Lo SH.once]at E9;obtain⟨ap,cp,rfl,af4⟩:=iZ.1 E9;clear af4;replace hv:=hv.le sk.le;replace mI:=mI.le sk.le;replace ho:=ho.bC sk;replace hM:=sk.lt hM;have:=S.size;replace S:=S.aE sk;refine(fun(kp:eg _ _ _)=>ae ⟨rfl,rfl,fun _=>kp,?_⟩) (by first|exact kp|exact kp.mY (by assumption)|exact kp.goN (by assumption)|exact kp.go (by assumption) (fun _ _ h=>by first|exact h|exact h.elim))
      refine eF (places:=[(0,1),(1,1)]) aP dW IL rfl ⟨_,_,rfl,rfl,_,_,rfl,rfl,rfl⟩ (out:=[_,_]) ⟨0,[_],rfl,rfl,by simp[Value.cells],1,[_],rfl,rfl,by simp[Value.cells],rfl⟩ ?_;refine(fun(kp:eg _ _ _)=>ae ⟨rfl,rfl,fun _=>kp,?_⟩) (by first|exact kp|exact kp.mY (by assumption)|exact kp.goN (by assumption)|exact kp.go (by assumption) (fun _ _ h=>by first|exact h|exact h.elim));refine ez (A:=RT.po) (hn:=by decide) (M:=M2) aC dW (by decide) rfl rfl hM (eS (ie (x:=(i:Int)) (by omega)) E9 rfl rfl rfl rfl) (.inl rfl) (fun af5 af6 Bp uq=>?_);replace hv:=hv.le uq.le;replace mI:=mI.le uq.le;replace E9:=E9.le uq.le;replace ho:=ho.bC uq;replace hM:=uq.lt hM;have:=S.size;replace S:=S.aE uq;refine(fun(kp:eg _ _ _)=>ae ⟨rfl,rfl,fun _=>kp,?_⟩) (by first|exact kp|exact kp.mY (by assumption)|exact kp.goN (by assumption)|exact kp.go (by assumption) (fun _ _ h=>by first|exact h|exact h.elim));refine cz (M:=M2) (base:=w0.heap.size) aC dW rfl rfl rfl rfl ho Bp (ar _ _) (by have:=Gj (key:=dm t) (k:=k) hF jt;simp;omega) (by have:=Gj (key:=dm t) (k:=k) hF jt;simp;omega) (S.size) (fun SM af7 af8 N2 ur=>?_);replace hv:=hv.le ur.le;replace mI:=mI.le ur.le;replace E9:=E9.le ur.le;replace Bp:=Bp.le ur.le;replace hM:=ur.lt hM;have:=S.size;replace S:=S.cJ ur ho (bw _);replace ho:=N2;refine ae ⟨rfl,rfl,fun h=>absurd rfl h,?_⟩;refine al rfl rfl ?_;refine ae ⟨rfl,rfl,fun h=>absurd rfl h,?_⟩;refine gX (ak (aj rfl rfl (bQ rfl rfl rfl (by omega) (al rfl rfl (ae ?_)))));refine⟨rfl,(k+1,SM),(.cons rfl (.cons rfl (.cons rfl (.cons rfl (.cons rfl (.cons rfl .nil)))))),?_,?_⟩
      ·exact⟨_,hM,S,hv,by dsimp only;rw[N1 N0 rfl];exact ho,mI,by dsimp only;omega⟩
      ·dsimp only;omega
     ·refine bg (ak (aj rfl rfl (bQ rfl rfl rfl (by omega) (al rfl rfl (ae ?_)))));refine⟨rfl,(k+1,u2),(.cons rfl (.cons rfl (.cons rfl (.cons rfl (.cons rfl (.cons rfl .nil)))))),?_,?_⟩
      ·exact⟨_,hM,S,hv,by dsimp only;rw[Lw N0 c9];exact ho,mI,by dsimp only;omega⟩
      ·dsimp only;omega
    ·refine cP (ak (aj rfl rfl (bQ rfl rfl rfl (by omega) (al rfl rfl (ae ?_)))));refine⟨rfl,(i+1,u2),(.cons rfl (.cons rfl (.cons rfl (.cons rfl .nil)))),?_,?_⟩
     ·exact⟨_,hM,S,hv,by dsimp only;rw[←Lv jt,show(cC (mP e)).length=k from bY (show k=(cC (ck e.1.2)).length by omega)];exact ho,by dsimp only;omega⟩
     ·dsimp only;omega
  ·refine cP (au (ak (aj rfl rfl (al rfl rfl (ae (aW ?_))))));rw[bm (by omega)]at ho;exact a8 rfl rfl ⟨fQ (hn:=by decide) fZ S ho (by show(A4 key 0 L).length≤_;have:=(nf key L 0 hF).1;omega),S.back⟩
end Go.K
namespace Go.K
open Go.Proofs
namespace TKSegL
theorem my:TI Tryz.prog 56 (.slice none 0 0) 1 24:=by unfold TI;kernel_rfl
theorem fX:TI Tryz.prog 107 (.slice none 0 0) 1 24:=by unfold TI;kernel_rfl
theorem E51:Enters Tryz.prog 51:=enters Tryz.func51 rfl (by decide)
theorem E84:Enters Tryz.prog 84:=enters Tryz.func84 rfl (by decide)
theorem E85:Enters Tryz.prog 85:=enters Tryz.func85 rfl (by decide)
end TKSegL
open TKSegL
set_option maxRecDepth 10000
def Ly (p q:Pa):Bool:=decide (p.1=q.1)&&decide (p.2.1=q.2.1)&&decide (p.2.2.1=q.2.2.1)&&decide (p.2.2.2=q.2.2.2)
theorem yg {p q:Pa}:Ly p q=true↔p=q:=by
 simp only[Ly,bZ,decide_eq_true_eq];exact⟨fun h=>qQ h.1.1.1 (qQ h.1.1.2 (qQ h.1.2 h.2)),fun h=>by subst h;exact⟨⟨⟨rfl,rfl⟩,rfl⟩,rfl⟩⟩
theorem gP {p q:Pa} (h:p≠q):Ly p q=false:=fp.2 fun e=>h (yg.1 e)
theorem Dz {M:aU} {p q:Pa} {v u:Value} (w0:World) (hM:Lt M w0) (hp:RT.pa.V M w0 p v) (hq:RT.pa.V M w0 q u):
  Spec Tryz.prog 30 #[v,u] w0 (fun v' w'=>v'= .bool (Ly p q)∧Step M w0 M w' aN):=by
 have fZ:=hM;refine bE (args:=[_,_]) (fn:=Tryz.f30) Tryz.func30 rfl (n:=64) Tryz.ntmps30 ?_;have S:Step M w0 M w0 aN:=(ah _ _).cD (fun _ h=>h.elim) (fun _ h=>h.elim);refine au (ak ?_);refine eG (A:=RT.pa) (a:=p) rfl rfl hM hp rfl (fun u2 Pr kg oJ _=>?_);replace hp:=hp.le oJ.le;replace hq:=hq.le oJ.le;replace hM:=oJ.lt hM;have:=S.size;replace S:=S.aE oJ;refine eG (A:=RT.pa) (a:=q) rfl rfl hM hq rfl (fun u3 wb1 jH Md _=>?_);replace hq:=hq.le Md.le;replace kg:=kg.le (by decide) Md.le;replace hM:=Md.lt hM;have:=S.size;replace S:=S.aE Md;refine al rfl rfl (ae (au (ak ?_)));refine aA (M:=M) (A:=RT.pa) (B:=((RT.int .i64).sl)) aO rfl rfl gT (by decide) DL rfl rfl (by decide) kg (ar _ _) (fun OC yR=>?_);refine aY (M:=M) ay rfl rfl rfl rfl rfl yR (ar _ _) (fun v11 sH=>?_);refine aA (M:=M) (A:=RT.pa) (B:=((RT.int .i64).sl)) aO rfl rfl gT (by decide) DL rfl rfl (by decide) jH (ar _ _) (fun u12 Lz=>?_);refine aY (M:=M) ay rfl rfl rfl rfl rfl Lz (ar _ _) (fun F7 uu=>?_);refine aS rfl rfl E51 (ue hM sH uu) (fun r1 wr1 hc=>?_);obtain⟨rfl,sr1⟩:=hc;replace kg:=kg.le (by decide) sr1.le;replace jH:=jH.le (by decide) sr1.le;replace hM:=sr1.lt hM;have:=S.size;replace S:=S.aE sr1;refine al rfl rfl (ae (au (ak ?_)));refine aA (M:=M) (A:=RT.pa) (B:=((RT.int .i64).sl)) aO rfl rfl gT (by decide) Ey rfl rfl (by decide) kg (ar _ _) (fun u20 LA=>?_);refine aY (M:=M) ay rfl rfl rfl rfl rfl LA (ar _ _) (fun v21 uv=>?_);refine aA (M:=M) (A:=RT.pa) (B:=((RT.int .i64).sl)) aO rfl rfl gT (by decide) Ey rfl rfl (by decide) jH (ar _ _) (fun u22 SN=>?_);refine aY (M:=M) ay rfl rfl rfl rfl rfl SN (ar _ _) (fun v23 Lq=>?_);refine aS rfl rfl E51 (ue hM uv Lq) (fun r2 wr2 hc=>?_)
 obtain⟨rfl,sr2⟩:=hc;replace kg:=kg.le (by decide) sr2.le;replace jH:=jH.le (by decide) sr2.le;replace hM:=sr2.lt hM;have:=S.size;replace S:=S.aE sr2;refine al rfl rfl (ae (au (ak ?_)));refine aA (M:=M) (A:=RT.pa) (B:=(RT.str.sl)) aO rfl rfl ph (by decide) Ez rfl rfl (by decide) kg (ar _ _) (fun u30 LB=>?_);refine aY (M:=M) aJ rfl rfl rfl rfl rfl LB (ar _ _) (fun v31 LC=>?_);refine aA (M:=M) (A:=RT.pa) (B:=(RT.str.sl)) aO rfl rfl ph (by decide) Ez rfl rfl (by decide) jH (ar _ _) (fun u32 SO=>?_);refine aY (M:=M) aJ rfl rfl rfl rfl rfl SO (ar _ _) (fun v33 SP=>?_);refine aS rfl rfl E84 (yd _ hM LC SP) (fun r3 wr3 hc=>?_);obtain⟨rfl,sr3⟩:=hc;replace kg:=kg.le (by decide) sr3.le;replace jH:=jH.le (by decide) sr3.le;replace hM:=sr3.lt hM;have:=S.size;replace S:=S.aE sr3;refine al rfl rfl (ae (au (au (ak (aj rfl rfl (fP rfl rfl (bO (v':= .bool (decide (p.1≠q.1))) (by simp) (aj rfl rfl ?_))))))));refine aZ (g:=27) rfl (fun qA=>?_) (fun qA=>?_)
 ·refine aw rfl rfl rfl rfl (aw rfl rfl rfl rfl (aR rfl rfl rfl (aj rfl rfl (aw rfl rfl rfl rfl (aw rfl rfl rfl rfl (aR rfl rfl rfl (aj rfl rfl (aw rfl rfl rfl rfl (aw rfl rfl rfl rfl (aw rfl rfl rfl rfl (aw rfl rfl rfl rfl ?_)))))))))));refine aw rfl rfl rfl rfl (aw rfl rfl rfl rfl (aw rfl rfl rfl rfl (aR rfl rfl rfl (ae (gz rfl (au (ak (al rfl rfl (ae (aW ?_))))))))))
  first
  |(exact a8 rfl rfl ⟨congrArg Value.bool (gP (fun e=>c4 (by rw[e]))).symm,S⟩)
  |(exact a8 rfl rfl ⟨congrArg Value.bool (gP (fun e=>Af (by rw[e]))).symm,S⟩)
  |(exact a8 rfl rfl ⟨congrArg Value.bool (gP (fun e=>C5 (by rw[e]))).symm,S⟩)
  |(exact a8 rfl rfl ⟨congrArg Value.bool (gP (fun e=>qA (by rw[e]))).symm,S⟩)
 ·refine aq rfl rfl (aj rfl rfl (aq rfl rfl (fP rfl rfl (bO (v':= .bool (decide (p.2.1≠q.2.1))) (by simp) (aL rfl rfl rfl (aj rfl rfl ?_))))));refine aZ (g:=31) rfl (fun C5=>?_) (fun C5=>?_)
  ·refine aw rfl rfl rfl rfl (aw rfl rfl rfl rfl (aR rfl rfl rfl (aj rfl rfl (aw rfl rfl rfl rfl (aw rfl rfl rfl rfl (aw rfl rfl rfl rfl (aw rfl rfl rfl rfl (aw rfl rfl rfl rfl (aw rfl rfl rfl rfl (aw rfl rfl rfl rfl (aR rfl rfl rfl ?_)))))))))));refine ae (gz rfl (au (ak (al rfl rfl (ae (aW ?_))))))
   first
   |(exact a8 rfl rfl ⟨congrArg Value.bool (gP (fun e=>c4 (by rw[e]))).symm,S⟩)
   |(exact a8 rfl rfl ⟨congrArg Value.bool (gP (fun e=>Af (by rw[e]))).symm,S⟩)
   |(exact a8 rfl rfl ⟨congrArg Value.bool (gP (fun e=>C5 (by rw[e]))).symm,S⟩)
   |(exact a8 rfl rfl ⟨congrArg Value.bool (gP (fun e=>qA (by rw[e]))).symm,S⟩)
  ·refine aq rfl rfl (aj rfl rfl (aq rfl rfl (fP rfl rfl (bO (v':= .bool (decide (p.2.2.1≠q.2.2.1))) (by simp) (aL rfl rfl rfl (aj rfl rfl ?_))))));refine aZ (g:=35) rfl (fun Af=>?_) (fun Af=>?_)
   ·refine aw rfl rfl rfl rfl (aw rfl rfl rfl rfl (aw rfl rfl rfl rfl (aw rfl rfl rfl rfl (aw rfl rfl rfl rfl (aw rfl rfl rfl rfl (aw rfl rfl rfl rfl (aR rfl rfl rfl (ae (gz rfl (au (ak ?_)))))))))));refine al rfl rfl (ae (aW ?_))
    first
    |(exact a8 rfl rfl ⟨congrArg Value.bool (gP (fun e=>c4 (by rw[e]))).symm,S⟩)
    |(exact a8 rfl rfl ⟨congrArg Value.bool (gP (fun e=>Af (by rw[e]))).symm,S⟩)
    |(exact a8 rfl rfl ⟨congrArg Value.bool (gP (fun e=>C5 (by rw[e]))).symm,S⟩)
    |(exact a8 rfl rfl ⟨congrArg Value.bool (gP (fun e=>qA (by rw[e]))).symm,S⟩)
   ·refine aq rfl rfl ?_;refine aA (M:=M) (A:=RT.pa) (B:=(((RT.po).sl).sl)) aO rfl rfl my (by decide) A5 rfl rfl (by decide) kg (ar _ _) (fun aom Yt=>?_);refine aq rfl rfl ?_;refine aY (M:=M) bH rfl rfl rfl rfl rfl Yt (ar _ _) (fun aon Yu=>?_);refine aq rfl rfl (bF bH rfl Yu rfl (aq rfl rfl ?_));refine aA (M:=M) (A:=RT.pa) (B:=(((RT.po).sl).sl)) aO rfl rfl my (by decide) A5 rfl rfl (by decide) jH (ar _ _) (fun aoo Yv=>?_);refine aq rfl rfl ?_;refine aY (M:=M) bH rfl rfl rfl rfl rfl Yv (ar _ _) (fun aop Yw=>?_);refine aq rfl rfl (bF bH rfl Yw rfl (aq rfl rfl (eC rfl rfl rfl (aL rfl rfl rfl (ae ?_)))));refine bW rfl (fun c4=>?_) (fun c4=>?_)
    ·refine au (ak (al rfl rfl (ae (aW ?_))))
     first
     |(exact a8 rfl rfl ⟨congrArg Value.bool (gP (fun e=>c4 (by rw[e]))).symm,S⟩)
     |(exact a8 rfl rfl ⟨congrArg Value.bool (gP (fun e=>Af (by rw[e]))).symm,S⟩)
     |(exact a8 rfl rfl ⟨congrArg Value.bool (gP (fun e=>C5 (by rw[e]))).symm,S⟩)
     |(exact a8 rfl rfl ⟨congrArg Value.bool (gP (fun e=>qA (by rw[e]))).symm,S⟩)
    ·have hlen:p.2.2.2.length=q.2.2.2.length:=by omega
     refine bg (au (au (ak (al rfl rfl (ae (bu ?_))))));refine de (σ:=Nat) (fun k=>[(2,u2),(3,u3),(8,.int .i64 (k:Int))]) (fun k w=>Step M w0 M w aN∧bL RT.pa M w u2 p∧bL RT.pa M w u3 q∧k≤p.2.2.2.length∧p.2.2.2.take k=q.2.2.2.take k) (fun k=>p.2.2.2.length-k) 0 (.cons rfl (.cons rfl (.cons rfl .nil))) ?_ ?_
     ·exact⟨S,kg,jH,bM _,rfl⟩
     ·clear S kg jH hM;rintro k w ⟨S,kg,jH,hk,heq⟩;have hM:=S.lt fZ;refine au (au (ak (aj rfl rfl ?_)));refine aA (M:=M) (A:=RT.pa) (B:=(((RT.po).sl).sl)) aO rfl rfl my (by decide) A5 rfl rfl (by decide) kg (ar _ _) (fun u71 aga=>?_);refine aY (M:=M) bH rfl rfl rfl rfl rfl aga (ar _ _) (fun v72 Yx=>?_);have ZZ:=dr Yx;refine bF bH rfl Yx rfl (cu rfl rfl rfl (ae ?_));refine bW rfl (fun c7=>?_) (fun c7=>?_)
      ·refine bg (au (bu (au ?_)));apply T.FD 10 mixed rfl rfl rfl rfl rfl;intro O7 XU;have Bd:=XU M;replace kg:=kg.le (by decide) Bd.le;replace jH:=jH.le (by decide) Bd.le;replace hM:=Bd.lt hM;have:=S.size;replace S:=S.aE Bd;obtain⟨x,ow⟩:∃x,p.2.2.2[k]? =some x:=⟨_,aI (by omega)⟩;obtain⟨y,qG⟩:∃y,q.2.2.2[k]? =some y:=⟨_,aI (by omega)⟩;refine aA (M:=M) (A:=RT.pa) (B:=(((RT.po).sl).sl)) aO rfl rfl my (by decide) A5 rfl rfl (by decide) kg (ar _ _) (fun u90 agb=>?_);refine ae ⟨rfl,rfl,rfl,?_⟩;refine aY (M:=M) bH rfl rfl rfl rfl rfl agb (ar _ _) (fun v91 agc=>?_);refine ae ⟨rfl,rfl,rfl,?_⟩;refine aj rfl rfl ?_;refine ae ⟨rfl,rfl,rfl,?_⟩;refine bS (M:=M) bH fX rfl rfl rfl agc (ar _ _) (by omega) (fun u93 x_ fy vH=>?_);rw[aK]at fy;obtain rfl:=aG (ow.symm.trans fy);refine ae ⟨rfl,rfl,rfl,?_⟩;refine aY (M:=M) aC rfl rfl rfl rfl rfl vH (ar _ _) (fun v94 SJ=>?_);refine ae ⟨rfl,rfl,rfl,?_⟩;refine aA (M:=M) (A:=RT.pa) (B:=(((RT.po).sl).sl)) aO rfl rfl my (by decide) A5 rfl rfl (by decide) jH (ar _ _) (fun u95 SD=>?_);refine ae ⟨rfl,rfl,rfl,?_⟩;refine aY (M:=M) bH rfl rfl rfl rfl rfl SD (ar _ _) (fun v96 SE=>?_);refine ae ⟨rfl,rfl,rfl,?_⟩;refine aj rfl rfl ?_;refine ae ⟨rfl,rfl,rfl,?_⟩;refine bS (M:=M) bH fX rfl rfl rfl SE (ar _ _) (by omega) (fun u98 x_ fy agd=>?_);rw[aK]at fy;obtain rfl:=aG (qG.symm.trans fy);refine ae ⟨rfl,rfl,rfl,?_⟩;refine aY (M:=M) aC rfl rfl rfl rfl rfl agd (ar _ _) (fun v99 age=>?_);refine ae ⟨rfl,rfl,rfl,?_⟩;refine dv ?_;refine aS rfl rfl E85 (rE hM SJ age) (fun r9 w9 hc=>?_);obtain⟨rfl,s9⟩:=hc;replace kg:=kg.le (by decide) s9.le
       replace jH:=jH.le (by decide) s9.le;replace hM:=s9.lt hM;have:=S.size;replace S:=S.aE s9;refine al rfl rfl (ae (au (ak (aj rfl rfl (fP rfl rfl (bO (v':= .bool (decide (x≠y))) (by simp) (ae ?_)))))));refine bW rfl (fun HS=>?_) (fun HS=>?_)
       ·refine au (ak (al rfl rfl (ae (aW ?_))));exact a8 rfl rfl ⟨congrArg Value.bool (gP (fun e=>by subst e;rw[ow]at qG;cases qG;exact HS rfl)).symm,S⟩
       ·refine bg (ak (aj rfl rfl (bQ rfl rfl rfl (by omega) (al rfl rfl (ae ?_)))));refine⟨rfl,k+1,(.cons rfl (.cons rfl (.cons rfl .nil))),?_,?_⟩
        ·exact⟨S,kg,jH,by omega,by rw[bX,bX,heq,ow,qG,cy.1 HS]⟩
        ·omega
      ·refine cP (au (ak (al rfl rfl (ae (aW ?_)))));rw[bm (by omega),bm (by omega)]at heq;exact a8 rfl rfl ⟨congrArg Value.bool (yg.2 (qQ (cy.1 qA) (qQ (cy.1 C5) (qQ (cy.1 Af) heq)))).symm,S⟩
end Go.K
namespace Go.K
variable {P:Program} {r:Option Nat} {n:Nat} {L:Sl} {ds:List Deferred} {w:World} {K:Kt} {ops:Array Oper} {rest:List Oper} {d:Nat} {x y:Operand} {ty:TypeId} {pos:String} {af:Array Edge} {α:Type} {A:RT α}
def agf {α:Type} (A:RT α):Prop:=∀(M M':aU) (w w':World) (x:α) (vs:List Value),A.R M w x vs→A.R M' w' x vs
end Go.K
namespace Go.K
theorem N4 {P:Program} {L:Sl} {w:World} {fn:Func} {Q:Value→World→Prop} {c t b D:Nat} {vs:List Value} {fs:TypeDesc} {e:TypeId} {fr:Nat×Nat} {zv:Value} {size bytes:Nat} (hr:fn.results= #[.cell c t]) (hc:lk L c=some (.pointer (some ⟨b,0,none⟩))) (hu:P.underlying t=some fs) (hf:fs.isRow=true) (hi:TI P t zv size bytes) (hl:vs.length=size)
  (hD:w.heap[D]? =some (.deferred (some []))) (hb:(w.putObj D (.deferred none)).heap[b]? =some (.cells vs.toArray e fr)) (h:Q (.agg vs.toArray) (w.putObj D (.deferred none))):BX P fn Q .ret L [mark D] w:=
 ⟨_,tF hD,fun a ha=>⟨_,by
  obtain⟨i,yE,_,Bx,_⟩:=hi.get;have Iz:(w.putObj D (.deferred none)).rangeAt b 0 vs:=fun j v hj=>jx hb (by simpa using hj)
  have:=run_loadVar_mid (P:=P) (w.putObj D (.deferred none)) b 0 t vs fs Iz hu hf (by simp[yE,Bx,hl]);simp[results,hr,ha _ _ hc,asAddr,this,cR],h⟩⟩
theorem LD {α:Type} {A:RT α} {hn:0<A.n} (hA:agf A) {M:aU} {w:World} {xs:List α} {v:Value} {b:Nat} {cs:Array Value} {e:TypeId} {fr:Nat×Nat} (hb:w.heap[b]? =some (.cells cs e fr)) (fE:∀M w x vs,A.R M w x vs→∃c r,vs=c::r∧∀j:Nat,cs[j]? ≠some c) (h:(A.sl hn).V M w xs v):(A.sl hn).V (ins M b) w xs v:=by
 obtain⟨a,cap,h1,h2,h3,hs⟩:=iZ.1 h;refine iZ.2 ⟨a,cap,h1,h2,h3,?_⟩;rcases hs with hs|⟨b',o,ha,hm,he⟩
 ·exact .inl hs
 ·cases xs with
  |nil=>exact .inl rfl
  |cons x xs=>
   refine .inr ⟨b',o,ha,?_,fun i y hy=>by obtain⟨vs,h4,h5⟩:=he i y hy;exact⟨vs,hA _ _ _ _ _ _ h4,h5⟩⟩;rintro(rfl|vv)
   ·obtain⟨vs,h4,h5⟩:=he 0 x rfl;obtain⟨c,r,rfl,hc⟩:=fE _ _ _ _ h4;have:=h5 0 c rfl;simp[World.cell?,hb]at this;exact hc _ this
   ·exact hm vv
end Go.K
namespace Go.K
open Go.Proofs
namespace TKSegK
theorem my:TI Tryz.prog 56 (.slice none 0 0) 1 24:=by unfold TI;kernel_rfl
theorem y7:TI Tryz.prog 58 (.agg #[(.slice none 0 0),(.slice none 0 0),(.slice none 0 0),(.slice none 0 0)]) 4 96:=by unfold TI;kernel_rfl
theorem fX:TI Tryz.prog 107 (.slice none 0 0) 1 24:=by unfold TI;kernel_rfl
theorem vF:TI Tryz.prog 123 (.pointer none) 1 8:=by unfold TI;kernel_rfl
theorem B58:placesOf Tryz.prog 58=[(0,1),(1,1),(2,1),(3,1)].map some:=by kernel_rfl
theorem L7:Enters Tryz.prog 63:=enters Tryz.func63 rfl (by decide)
theorem E77:Enters Tryz.prog 77:=enters Tryz.func77 rfl (by decide)
theorem XE:Enters Tryz.prog 78:=enters Tryz.func78 rfl (by decide)
theorem E79:Enters Tryz.prog 79:=enters Tryz.func79 rfl (by decide)
theorem KZ:Enters Tryz.prog 129:=enters Tryz.func129 rfl (by decide)
end TKSegK
open TKSegK
set_option maxRecDepth 10000
structure LF {α:Type} (A:RT α) (e T:TypeId) (X:aU→World→Prop) (F:Value→Array Value) (M:aU) (w0:World) (bo bi bd D:Nat) (vd:Value) (st:Loop) (vo:Value) (xs:List α) (M':aU) (w:World):Prop where
 lt:Lt M' w
 S:Step M w0 M' w aN
 o:w.heap[bo]? =some (.cells (F vo) T (0,0))
 mo:M' bo
 r:w.heap[D+1]? =some (.loop st)
 mr:M' (D+1)
 d:w.heap[D]? =some (.deferred (some []))
 md:M' D
 own:Own A e M' w w0.heap.size vo xs
 gi:w.heap[bi]? =some (.cells #[.int .i64 0] 3 (0,0))
 gd:w.heap[bd]? =some (.cells #[vd] 123 (0,0))
 fi: ¬M' bi
 fd: ¬M' bd
 z:w0.heap.size≤bo∧w0.heap.size≤D
 k:X M' w
section
variable {α:Type} {A:RT α} {e T:TypeId} {X:aU→World→Prop} {F:Value→Array Value} {M M1 M2 N:aU} {w0 w w':World} {bo bi bd D:Nat} {vd:Value} {st:Loop} {vo:Value} {xs:List α}
theorem LF.bC (hX:∀{M w M' w'},X M w→Le M w M' w'→X M' w') (h:LF A e T X F M w0 bo bi bd D vd st vo xs M1 w) (s:Step M1 w M2 w' aN):LF A e T X F M w0 bo bi bd D vd st vo xs M2 w':=
 ⟨s.lt h.lt,h.S.aE s,s.aX h.o,(s.mem _ (av h.o)).2 h.mo,s.aX h.r,(s.mem _ (av h.r)).2 h.mr,s.aX h.d,(s.mem _ (av h.d)).2 h.md,h.own.bC s,s.aX h.gi,s.aX h.gd,fun hn=>h.fi ((s.mem _ (av h.gi)).1 hn),fun hn=>h.fd ((s.mem _ (av h.gd)).1 hn),h.z,hX h.k s.le⟩
theorem LF.mn {st':Loop} (hX:∀{M w M' w'},X M w→Le M w M' w'→X M' w') (h:LF A e T X F M w0 bo bi bd D vd st vo xs M1 w):LF A e T X F M w0 bo bi bd D vd st' vo xs M1 (w.putObj (D+1) (.loop st')):=by
 have s:Step M1 w M1 (w.putObj (D+1) (.loop st')) (fun k=>k=D+1):=ef h.mr;obtain⟨z1,z2⟩:=h.z;refine⟨s.lt h.lt,h.S.db s (fun k (hk:k=D+1)=>by omega),s.b9 h.o (fun(hn:bo=D+1)=>by have h1:=h.o;rw[hn,h.r]at h1;cases h1),h.mo,vu (av h.r),h.mr,s.b9 h.d (fun(hn:D=D+1)=>by omega),h.md,h.own.step s (fun b hb (hn:b=D+1)=>?_),s.b9 h.gi (fun(hn:bi=D+1)=>by have h1:=h.gi;rw[hn,h.r]at h1;cases h1),s.b9 h.gd (fun(hn:bd=D+1)=>by have h1:=h.gd;rw[hn,h.r]at h1;cases h1),h.fi,h.fd,h.z,hX h.k s.le⟩;obtain⟨cs,hc⟩:=h.own.isCells hb;rw[hn,h.r]at hc;cases hc
theorem LF.grow {KW:Value} {Pg:List α} (hX:∀{M w M' w'},X M w→Le M w M' w'→X M' w') (hT:T≠e) (h:LF A e T X F M w0 bo bi bd D vd st vo xs M1 w) (s:Step M1 w M2 w' (kb vo)) (ho:Own A e M2 w' w0.heap.size KW Pg):
  (w'.heap[bo]? =some (.cells (F vo) T (0,0))∧M2 bo)∧∀{w2:World},Step M2 w' M2 w2 (fun k=>k=bo)→w2.heap[bo]? =some (.cells (F KW) T (0,0))→LF A e T X F M w0 bo bi bd D vd st KW Pg M2 w2:=by
 obtain⟨z1,z2⟩:=h.z
 have EZ:∀{b:Nat} {o:Obj},w.heap[b]? =some o→(∀cs fr,o≠ .cells cs e fr)→¬kb vo b:=fun {b o} hb fE hn=>by
  obtain⟨⟨C,h1,_⟩,_⟩:=h.own;rcases h1.2 with h3|⟨g,cap,cur,h3,h4,h5,_⟩
  ·unfold kb at hn;rw[h3.1]at hn;cases hn
  ·unfold kb at hn;rw[h3]at hn;cases hn;rw[hb]at h5;exact fE _ _ (aG h5)
 have nM:∀{b:Nat},¬M1 b→¬kb vo b:=fun hb hn=>hb (h.own.mut_ _ hn)
 have ic:=s.b9 h.o (EZ h.o (fun cs fr hc=>by injection hc with _ h1 _;exact hT h1));have hr:=s.b9 h.r (EZ h.r (fun cs fr hc=>by cases hc));have hd:=s.b9 h.d (EZ h.d (fun cs fr hc=>by cases hc));have gN:=s.b9 h.gi (nM h.fi);have tR:=s.b9 h.gd (nM h.fd);have XF: ¬M2 bi:=fun hn=>h.fi ((s.mem _ (av h.gi)).1 hn)
 have H6: ¬M2 bd:=fun hn=>h.fd ((s.mem _ (av h.gd)).1 hn)
 have HW:=(s.mem _ (av h.o)).2 h.mo;refine⟨⟨ic,HW⟩,fun {w2} s2 hx=>⟨s2.lt (s.lt h.lt),(h.S.cJ s h.own (bw _)).db s2 (fun k (hk:k=bo)=>by omega),hx,HW,s2.b9 hr (fun(hn:D+1=bo)=>by rw[hn,ic]at hr;cases hr),(s.mem _ (av h.r)).2 h.mr,s2.b9 hd (fun(hn:D=bo)=>by rw[hn,ic]at hd;cases hd),(s.mem _ (av h.d)).2 h.md,ho.step s2 (fun b hb (hn:b=bo)=>ho.fc ic hT (by rw[←hn];exact hb)),s2.b9 gN (fun(hn:bi=bo)=>XF (by rw[hn];exact HW)),s2.b9 tR (fun(hn:bd=bo)=>H6 (by rw[hn];exact HW)),XF,H6,h.z,hX (hX h.k s.le) s2.le⟩⟩
end
theorem agj {α:Type} {A:RT α} {e T:TypeId} {X:aU→World→Prop} {F:Value→Array Value} (hX:∀{M w M' w'},X M w→Le M w M' w'→X M' w') {M M1:aU} {w0 w:World} {bo bi bd:Nat} {vd:Value} {st:Loop} (hk:X M1 w) (hM:Lt M1 w) (S:Step M w0 M1 w aN) (go:w.heap[bo]? =some (.cells (F (.slice none 0 0)) T (0,0))) (mo:M1 bo) (gi:w.heap[bi]? =some (.cells #[.int .i64 0] 3 (0,0))) (gd:w.heap[bd]? =some (.cells #[vd] 123 (0,0))) (fi: ¬M1 bi) (fd: ¬M1 bd) (Hu:w0.heap.size≤bo):
  ∃M',LF A e T X F M w0 bo bi bd w.heap.size vd st (.slice none 0 0) [] M' ((w.alloc (.deferred (some []))).alloc (.loop st)):=by
 have sA:Step M1 w (ins M1 w.heap.size) (w.alloc (.deferred (some []))) aN:=(dA M1 w _).own (bw _) (by simp);have sB:Step (ins M1 w.heap.size) (w.alloc (.deferred (some []))) (ins (ins M1 w.heap.size) (w.heap.size+1)) ((w.alloc (.deferred (some []))).alloc (.loop st)) aN:=(dA _ _ _).own (by simp) (by simp);have hD:(w.alloc (.deferred (some []))).heap[w.heap.size]? =some (.deferred (some [])):=cO w _;have hR:((w.alloc (.deferred (some []))).alloc (.loop st)).heap[w.heap.size+1]? =some (.loop st):=by have:=cO (w.alloc (.deferred (some []))) (.loop st);rwa [yH]at this
 have SS:=(S.aE sA).aE sB;have hi:=av gi;have hd:=av gd;refine⟨_,sB.lt (sA.lt hM),SS,sB.aX (sA.aX go),.inr (.inr mo),hR,.inl rfl,sB.aX hD,.inr (.inl rfl),dO _ _ _ _ _,sB.aX (sA.aX gi),sB.aX (sA.aX gd),?_,?_,⟨Hu,S.size⟩,hX (hX hk sA.le) sB.le⟩
 ·rintro(h|h|h)
  ·omega
  ·omega
  ·exact fi h
 ·rintro(h|h|h)
  ·omega
  ·omega
  ·exact fd h
theorem Le.out {MQ M':aU} {wQ w:World} (h:Le MQ wQ M' w):Le (fun b=>MQ b∨wQ.heap.size≤b) w M' w:=fun b _ hm=>⟨(h b (Nat.lt_of_not_le fun hh=>hm (.inr hh)) (fun hh=>hm (.inl hh))).1,rfl⟩
theorem Le.fixed {MQ M':aU} {wQ w:World} (h:Le MQ wQ M' w):Le (fun b=>MQ b∨wQ.heap.size≤b) wQ (fun b=>MQ b∨wQ.heap.size≤b) w:=fun b hb hm=>⟨hm,(h b hb (fun hh=>hm (.inl hh))).2⟩
theorem Le.wide (MQ:aU) (wQ:World):Le MQ wQ (fun b=>MQ b∨wQ.heap.size≤b) wQ:=fun b hb hm=>⟨fun hh=>hh.elim hm (fun h=>by omega),rfl⟩
def Gk (s:Se) (va vb vc:Value) (MQ:aU) (wQ:World) (M:aU) (w:World):Prop:=((RT.int .i64).sl).V M w s.1 va∧((RT.int .i64).sl).V M w s.2.1 vb∧(RT.str.sl).V M w s.2.2.1 vc∧Le MQ wQ M w
theorem Gk.le {s:Se} {va vb vc:Value} {MQ:aU} {wQ:World}:∀{M:aU} {w:World} {M':aU} {w':World},Gk s va vb vc MQ wQ M w→Le M w M' w'→Gk s va vb vc MQ wQ M' w':=fun h l=>⟨h.1.le l,h.2.1.le l,h.2.2.1.le l,h.2.2.2.trans l⟩
theorem DA {M:aU} {s:Se} {ls:List (List Po)} {v0:Value} (w0:World) (hM:Lt M w0) (hs:bL RT.se M w0 v0 s) (hls:s.2.2.2=ls.map iA) (hdl:s.2.2.1.length=ls.length) (hn1:s.1.length≤1000000) (hn2:s.2.1.length≤1000000) (hd6:s.2.2.1.length≤1000000000) (hok:∀l∈ls,dH (-1) l=true∧(∀p∈l,p.2.length≤1099511627776)∧(dw (-1) l).length≤1099511627776∧l.length≤1099511627776):
  Spec Tryz.prog 28 #[v0] w0 (fun v w=>RT.pa.V M w (s.1,s.2.1,s.2.2.1,ls) v∧Step M w0 M w aN):=by
 have fZ:=hM;refine nz (args:=[_]) (fn:=Tryz.f28) Tryz.func28 rfl (n:=37) Tryz.ntmps28 ?_;have S:Step M w0 M w0 aN:=(ah _ _).cD (fun _ h=>h.elim) (fun _ h=>h.elim);refine au (ak ?_);refine eu M y7 rfl (fun nh mH XB XC mz sK=>?_);obtain⟨gD,xW⟩:∃M',M'=ins M nh:=⟨_,rfl⟩;rw[←xW]at sK;have ni:gD nh:=by rw[xW];exact .inl rfl
 change mH.heap[nh]? =some (.cells #[.slice none 0 0,.slice none 0 0,.slice none 0 0,.slice none 0 0] _ _)at mz;replace hM:=sK.lt hM;have:=S.size;replace S:=S.aE sK;refine ae (au ?_);have Ps:=hM;have SQ:bL RT.se gD mH v0 s:=hs.le (by decide) sK.le;apply T.Im (M:=gD) mixed [] [aV.eq _,aV.eq v0,aV.ptr (((RT.int .i64).sl)) s.1,aV.V ((RT.int .i64).sl) s.1,aV.V ((RT.int .i64).sl) s.1,aV.eq _,aV.eq v0,aV.ptr (((RT.int .i64).sl)) s.2.1,aV.V ((RT.int .i64).sl) s.2.1,aV.V ((RT.int .i64).sl) s.2.1,aV.eq _,aV.eq v0,aV.ptr ((RT.di).ptr) s.2.2,aV.V ((RT.di).ptr) s.2.2,aV.V (RT.str.sl) s.2.2.1,aV.mk' (fun v w'=>∃a b c,v= .agg [a,b,c,.slice none 0 0].toArray∧((RT.int .i64).sl).V gD w' s.1 a∧((RT.int .i64).sl).V gD w' s.2.1 b∧(RT.str.sl).V gD w' s.2.2.1 c) (fun⟨a,b,c,h1,h2,h3,h4⟩ s=>⟨a,b,c,h1,h2.le s.le,h3.le s.le,h4.le s.le⟩),aV.mk' (fun p w'=>∃bq,p= .pointer (some ⟨bq,0,none⟩)∧mH.heap.size≤bq∧w'.heap[bq]? =some (.cells #[.slice none 0 0,.slice none 0 0,.slice none 0 0,.slice none 0 0] 58 (0,0))) (fun⟨bq,h1,h2,h3⟩ s=>⟨bq,h1,h2,s.aX h3⟩)] 17
 ·rfl
 ·rfl
 ·rfl
 ·rfl
 ·rfl
 ·exact fun p hp=>by cases hp
 ·exact vM.none
 ·refine bB ?_ ?_
  ·intro wD E sD;refine aj rfl rfl ?_;exact ae ⟨rfl,rfl,_,rfl,rfl,ah _ _⟩
  refine bB ?_ ?_
  ·intro wD E sD;refine ao (bJ rfl SQ.fA rfl ?_);exact ae ⟨rfl,rfl,_,rfl,rfl,ah _ _⟩
  refine bB ?_ ?_
  ·intro wD E sD;refine ao ?_;refine aA (M:=gD) (A:=RT.se) (B:=((RT.int .i64).sl)) eH rfl rfl gT (by decide) se0 rfl rfl (by decide) SQ sD.le (fun uf fB=>?_);exact ae ⟨rfl,rfl,_,rfl,fB,ah _ _⟩
  refine bB ?_ ?_
  ·intro wD E sD;intro v2 kB;refine aY (M:=gD) ay rfl rfl rfl rfl rfl (show bL (((RT.int .i64).sl)) gD wD v2 s.1 from kB) (ar _ _) (fun va ke=>?_);exact ae ⟨rfl,rfl,_,rfl,ke,ah _ _⟩
  refine bB ?_ ?_
  ·intro wD E sD;intro v3 lv;refine aS rfl rfl L7 (mq (M:=gD) (sD.lt Ps) (show((RT.int .i64).sl).V gD wD s.1 v3 from lv) (by omega)) (fun r1 w1 h1=>?_);exact ae ⟨rfl,rfl,_,rfl,h1.1,h1.2⟩
  refine bB ?_ ?_
  ·intro wD E sD;refine aj rfl rfl ?_;exact ae ⟨rfl,rfl,_,rfl,rfl,ah _ _⟩
  refine bB ?_ ?_
  ·intro wD E sD;refine ao (bJ rfl SQ.fA rfl ?_);exact ae ⟨rfl,rfl,_,rfl,rfl,ah _ _⟩
  refine bB ?_ ?_
  ·intro wD E sD;refine ao ?_;refine aA (M:=gD) (A:=RT.se) (B:=((RT.int .i64).sl)) eH rfl rfl gT (by decide) se1 rfl rfl (by decide) SQ sD.le (fun uf fB=>?_);exact ae ⟨rfl,rfl,_,rfl,fB,ah _ _⟩
  refine bB ?_ ?_
  ·intro wD E sD;intro v7 qH;refine aY (M:=gD) ay rfl rfl rfl rfl rfl (show bL (((RT.int .i64).sl)) gD wD v7 s.2.1 from qH) (ar _ _) (fun va ke=>?_);exact ae ⟨rfl,rfl,_,rfl,ke,ah _ _⟩
  refine bB ?_ ?_
  ·intro wD E sD;intro v8 tn;intro v4 oQ;refine aS rfl rfl L7 (mq (M:=gD) (sD.lt Ps) (show((RT.int .i64).sl).V gD wD s.2.1 v8 from tn) (by omega)) (fun r1 w1 h1=>?_);exact ae ⟨rfl,rfl,_,rfl,h1.1,h1.2⟩
  refine bB ?_ ?_
  ·intro wD E sD;refine aj rfl rfl ?_;exact ae ⟨rfl,rfl,_,rfl,rfl,ah _ _⟩
  refine bB ?_ ?_
  ·intro wD E sD;refine ao (bJ rfl SQ.fA rfl ?_);exact ae ⟨rfl,rfl,_,rfl,rfl,ah _ _⟩
  refine bB ?_ ?_
  ·intro wD E sD;refine ao ?_;refine aA (M:=gD) (A:=RT.se) (B:=(RT.di).ptr) eH rfl rfl vF (by decide) Q1 rfl rfl (by decide) SQ sD.le (fun uf fB=>?_);exact ae ⟨rfl,rfl,_,rfl,fB,ah _ _⟩
  refine bB ?_ ?_
  ·intro wD E sD;intro v12 yh;refine aY (M:=gD) eI rfl rfl rfl rfl rfl (show bL ((RT.di).ptr) gD wD v12 s.2.2 from yh) (ar _ _) (fun va ke=>?_);exact ae ⟨rfl,rfl,_,rfl,ke,ah _ _⟩
  refine bB ?_ ?_
  ·intro wD E sD;intro F7 uu;intro v9 qi;refine aS rfl rfl E77 (xX (M:=gD) _ (sD.lt Ps) (pW.1 (show((RT.di).ptr).V gD wD s.2.2 F7 from uu)) (by rw[hls,cr];exact hdl) hd6) (fun r1 w1 h1=>?_);exact ae ⟨rfl,rfl,_,rfl,h1.1,h1.2⟩
  refine bB ?_ ?_
  ·intro wD E sD;intro v4 oQ;intro v9 qi;intro v14 Yy;refine eF (places:=[(0,1),(1,1),(2,1),(3,1)]) bR y7 B58 rfl ⟨_,_,rfl,rfl,_,_,rfl,rfl,_,_,rfl,rfl,rfl⟩ (out:=[v4,v9,v14,.slice none 0 0]) ⟨0,[_],rfl,fg oQ,by simp[Value.cells],1,[_],rfl,fg qi,by simp[Value.cells],2,[_],rfl,fg Yy,by simp[Value.cells],rfl⟩ ?_;exact ae ⟨rfl,rfl,_,rfl,⟨v4,v9,v14,rfl,oQ,qi,Yy⟩,ah _ _⟩
  refine bB ?_ ?_
  ·intro wD E sD;refine eu gD y7 rfl (fun bq wq e1 e2 e3 s=>?_);exact ae ⟨rfl,rfl,_,rfl,⟨bq,rfl,dJ sD.size e1,e3⟩,s.back⟩
  exact cx.nil
 ·intro BE lr;refine ao (ao ?_);intro Dg mU;intro JW xB;intro aoq ajQ;refine ao (ao ?_);intro RA Ky;intro XI Pj;intro aor ajR;refine ao (ao ?_);intro ajS agk;intro ajT agl;intro ajU agm;intro ajV SR;intro ajW SU;obtain⟨va,vb,vc,rfl,ke,L8,Yz⟩:=SR;obtain⟨bo,rfl,Hu,gq⟩:=SU;obtain⟨MP,YA⟩:∃M',M'=ins gD bo:=⟨_,rfl⟩;have sW:Step gD mH MP BE aN:=by rw[YA];exact lr.own Hu (av gq)
  replace ke:((RT.int .i64).sl).V MP BE s.1 va:=by rw[YA];exact LD (fun _ _ _ _ _ _ h=>h) gq (fun M w x vs (h:vs=_∧_)=>⟨_,[],h.1,fun j hj=>by rcases j with _|_|_|_|j<;>simp at hj⟩) ke
  replace L8:((RT.int .i64).sl).V MP BE s.2.1 vb:=by rw[YA];exact LD (fun _ _ _ _ _ _ h=>h) gq (fun M w x vs (h:vs=_∧_)=>⟨_,[],h.1,fun j hj=>by rcases j with _|_|_|_|j<;>simp at hj⟩) L8
  replace Yz:(RT.str.sl).V MP BE s.2.2.1 vc:=by rw[YA];exact LD (fun _ _ _ _ _ _ h=>h) gq (fun M w x vs (h:vs=_∧_)=>⟨_,[],h.1,fun j hj=>by rcases j with _|_|_|_|j<;>simp at hj⟩) Yz
  have Uj:MP bo:=by rw[YA];exact .inl rfl
  refine eB (M:=MP) (vs:=[va,vb,vc,.slice none 0 0]) y7 rfl rfl (by intro u hu;simp at hu;rcases hu with rfl|rfl|rfl|rfl<;>first|rfl|exact iV (by assumption) rfl rfl) rfl rfl gq Uj (fun w17 g17 Ma=>?_);replace ke:=ke.le Ma.le;replace L8:=L8.le Ma.le;replace Yz:=Yz.le Ma.le;replace Uj:=(Ma.mem _ (av gq)).2 Uj;have YB:bL RT.se MP w17 v0 s:=(SQ.le (by decide) sW.le).le (by decide) Ma.le;have SA:=S;clear S hM gq;have gq:=g17;have S:Step gD mH MP w17 aN:=sW.db Ma (fun k (hk:k=bo)=>by omega);have hM:=S.lt Ps;refine ae (au (au (ak (aj rfl rfl (bJ rfl YB.fA rfl ?_)))));refine aA (M:=MP) (A:=RT.se) (B:=(RT.di).ptr) eH rfl rfl vF (by decide) Q1 rfl rfl (by decide) YB (ar _ _) (fun KC hG=>?_);refine aY (M:=MP) eI rfl rfl rfl rfl rfl hG (ar _ _) (fun vd K3=>?_);have YC:=pW.1 K3;refine aS rfl rfl XE (uh (M:=MP) _ hM YC) (fun r2 w2 hc=>?_);obtain⟨bi,bd,rfl,gi,gd,hbi,hbd,s2⟩:=hc;have fi: ¬MP bi:=fun h=>by have:=hM _ h;omega
  have fd: ¬MP bd:=fun h=>by have:=hM _ h;omega
  replace hM:=s2.lt hM;have:=S.size;replace S:=S.aE s2;refine ae (bu ?_);refine T.range (gf:=129) (lb:=[.pointer (some ⟨bi,0,none⟩),.pointer (some ⟨bd,0,none⟩)].toArray) rfl KZ (fun rec mZ=>?_);obtain⟨D,hD⟩:∃D,D=w2.heap.size:=⟨_,rfl⟩;obtain⟨Mr,h0⟩:=agj (A:=(RT.po).sl) (e:=107) (X:=(Gk s va vb vc MP w2)) (F:=(fun vo=> #[va,vb,vc,vo])) Gk.le (st:=rec .ready none) ⟨ke.le s2.le,L8.le s2.le,Yz.le s2.le,ar _ _⟩ hM S (s2.aX gq) ((s2.mem _ (av gq)).2 Uj) gi gd fi fd Hu;rw[←hD]at mZ h0 ⊢;have Gr:bL RT.di (fun b=>MP b∨w2.heap.size≤b) w2 vd s.2.2:=(YC.le (by decide) s2.le).le (by decide) (Le.wide MP w2);refine Spec.mono (rF (wv:=w2) (M:=fun b=>MP b∨w2.heap.size≤b) (J:=fun i w=>∃M' vo,LF ((RT.po).sl) 107 58 (Gk s va vb vc MP w2) (fun vo=> #[va,vb,vc,vo]) gD mH bo bi bd D vd (rec .ready none) vo (ls.take i) M' w) (Jx:=fun _=>False) _ Gr (by rw[hls,cr];exact hdl) (fun i w w' ⟨M',vo,h⟩ s=>⟨M',vo,h.bC Gk.le (s.any M')⟩) (fun i w ⟨M',vo,h⟩=>⟨h.gi,h.gd,h.k.2.2.2.fixed⟩) (fun i wr x t vt hJ hx ht hp=>?_) ⟨Mr,_,h0⟩) (fun _ w3 h3=>?_)
  ·obtain⟨M',vo,h⟩:=hJ;obtain⟨l,Fa,rfl⟩:∃l,ls[i]? =some l∧iA l=t:=by rw[hls,gG]at ht;exact lz.1 ht
   have nq:=(aF.1 Fa).1;obtain⟨jb,YD,hrb,DB⟩:=hok l (aQ Fa);refine lT (ps:=[27,28]) (vs:=[sv x,vt]) mZ h.r rfl (by decide) (ak (al rfl rfl (ae ?_)));refine⟨rfl,h.r,?_⟩;have h4:=h.mn Gk.le (st':=rec .busy none);have s4:Step M' wr M' (wr.putObj (D+1) (.loop (rec .busy none))) (fun k=>k=D+1):=ef h.mr;have BH:=(hp.le (by decide) h.k.2.2.2.out).le (by decide) s4.le;generalize wr.putObj (D+1) _=w4 at h4 s4 BH ⊢;have hM:=h4.lt;have S:=h4.S;refine bu ?_;apply nr 3 [0,1] 2 aN mixed rfl rfl rfl rfl;intro HX Ke;have lE:=Ke (M');replace hM:=lE.lt hM;have:=S.size;replace S:=S.aE lE;replace h4:=h4.bC Gk.le lE;refine bI bR rfl rfl my (by decide) rfl rfl ?_;refine ae ⟨rfl,rfl,rfl,?_⟩;refine br bH rfl rfl rfl h4.o rfl (bO (v':=vo) rfl ?_);refine ae ⟨rfl,rfl,rfl,?_⟩;refine aj rfl rfl ?_;refine ae ⟨rfl,rfl,rfl,?_⟩;refine dv ?_;refine⟨eA ⟨eM bR rfl my (by decide),⟨dx rfl h4.o (fun h=>h),trivial⟩⟩,?_⟩;have kp:=eX aN HX;refine aS rfl rfl E79 (Df h4.lt (BH.le (by decide) lE.le) jb YD hrb DB) (fun r5 w5 hc=>?_);obtain⟨mI,s5⟩:=hc;replace h4:=h4.bC Gk.le s5;refine(fun(kp:eg _ _ _)=>ae ⟨rfl,rfl,fun _=>kp,?_⟩) (by first|exact kp|exact kp.mY (by assumption)|exact kp.goN (by assumption)|exact kp.go (by assumption) (fun _ _ h=>by first|exact h|exact h.elim));refine ez (A:=(RT.po).sl) (hn:=by decide) (M:=M') bH fX (by decide) rfl rfl h4.lt mI (.inr ⟨rfl,rfl⟩) (fun u6 w6 MW s6=>?_);have h6:=h4.bC Gk.le s6;refine(fun(kp:eg _ _ _)=>ae ⟨rfl,rfl,fun _=>kp,?_⟩) (by first|exact kp|exact kp.mY (by assumption)|exact kp.goN (by assumption)|exact kp.go (by assumption) (fun _ _ h=>by first|exact h|exact h.elim));refine cz (M:=M') (base:=mH.heap.size) bH fX rfl rfl rfl rfl h6.own MW (ar _ _) (by simp;omega) (by simp;omega) h6.S.size (fun v7 M7 w7 tQ s7=>?_)
   obtain⟨⟨go7,mo7⟩,HP⟩:=h6.grow Gk.le (by decide) s7 tQ;refine ae ⟨rfl,rfl,fun h=>absurd rfl h,?_⟩;refine bI bR rfl rfl my (by decide) rfl rfl ?_;refine ae ⟨rfl,rfl,fun h=>absurd rfl h,?_⟩;refine cw (M:=M7) my rfl rfl go7 rfl (by obtain⟨_,_,he,_⟩:=tQ.isSlice;rw[he];rfl) mo7 (fun w8 g8 s8=>?_);replace g8:w8.heap[bo]? =some (.cells ((fun vo=> #[va,vb,vc,vo]) v7) 58 (0,0)):=g8;refine ae ⟨rfl,rfl,fun h=>absurd rfl h,?_⟩;refine gX ?_;have h8:=(HP s8 g8).mn Gk.le (st':=rec .ready none);exact⟨(HP s8 g8).r,true,rfl,fun _=>⟨M7,v7,by rw[bX,Fa,cq];exact h8⟩,fun h=>by cases h⟩
  ·obtain⟨M',vo,h⟩:=h3.resolve_right id;left;refine⟨h.r,?_⟩;have h5:=h.mn Gk.le (st':=rec .exhausted none);generalize w3.putObj (D+1) _=wE at h5 ⊢;refine au (ak (gQ (vs:=[va,vb,vc,vo]) bR rfl y7 rfl rfl rfl h5.o ?_));obtain⟨hka,hkb,hkc,_⟩:=h5.k;obtain⟨_,_,heo,_⟩:=h5.own.isSlice;have gR:=h5.S.aX mz;have mR:=(h5.S.mem _ (av mz)).2 ni;refine eB (M:=M') (vs:=[va,vb,vc,vo]) y7 rfl rfl (by intro u hu;simp at hu;rcases hu with rfl|rfl|rfl|rfl<;>first|exact iV (by assumption) rfl rfl|(rw[heo];rfl)) rfl rfl gR mR (fun wF gF sF=>?_);refine ae (aW ?_);have hDF:=sF.b9 h5.d (fun(hn:D=nh)=>by have h1:=h5.d;rw[hn,gR]at h1;cases h1);have sZ:Step M' wF M' (wF.putObj D (.deferred none)) (fun k=>k=D):=ef h5.md;have hz:=h5.z;have Fb:=SA.size;have SS:=((SA.aE h5.S).db sF (fun k (hk:k=nh)=>by omega)).db sZ (fun k (hk:k=D)=>by omega)
   have ho:=(h5.own.step sF (fun b hb (hn:b=nh)=>h5.own.fc gR (by decide) (hn▸hb))).step sZ (fun b hb (hn:b=D)=>by
    obtain⟨cs,hc⟩:=h5.own.isCells hb;rw[hn,h5.d]at hc;cases hc)
   rw[bm (Nat.le_of_eq hdl.symm)]at ho;have MB:ls.length≤1000000000:=by omega
   have lc:=(sF.le.trans sZ.le).trans (ly fZ SS);refine N4 (vs:=[va,vb,vc,vo]) rfl rfl bR rfl y7 rfl hDF (sZ.b9 gF (fun(hn:nh=D)=>by rw[hn,h5.d]at gR;cases gR)) ⟨Hm (x:=(s.1,s.2.1,s.2.2.1,ls)) (hka.le lc) (hkb.le lc) (hkc.le lc) (fQ (hn:=by decide) fZ SS (ho.lB (by omega)) (by show ls.length≤_;omega)),SS.back⟩
end Go.K
namespace Go.K
open Go.Proofs
namespace TKSegM
theorem my:TI Tryz.prog 56 (.slice none 0 0) 1 24:=by unfold TI;kernel_rfl
theorem y7:TI Tryz.prog 58 (.agg #[(.slice none 0 0),(.slice none 0 0),(.slice none 0 0),(.slice none 0 0)]) 4 96:=by unfold TI;kernel_rfl
theorem E28:Enters Tryz.prog 28:=enters Tryz.func28 rfl (by decide)
end TKSegM
open TKSegM
set_option maxRecDepth 10000
structure N5 (s:Se) (ls:List (List Po)):Prop where
 hls:s.2.2.2=ls.map iA
 hdl:s.2.2.1.length=ls.length
 hn1:s.1.length≤1000000
 hn2:s.2.1.length≤1000000
 hd6:s.2.2.1.length≤1000000000
 hok:∀l∈ls,dH (-1) l=true∧(∀p∈l,p.2.length≤1099511627776)∧(dw (-1) l).length≤1099511627776∧l.length≤1099511627776
def partsOf (s:Se) (ls:List (List Po)):Pa:=(s.1,s.2.1,s.2.2.1,ls)
end Go.K

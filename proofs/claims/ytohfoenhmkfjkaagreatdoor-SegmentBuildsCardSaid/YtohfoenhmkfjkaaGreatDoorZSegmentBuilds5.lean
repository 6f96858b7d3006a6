/- What the law 'SegmentBuilds' needs of walks and plain Lean, part 5: nothing is assumed beyond the texts that it imports. -/
import Derived.KernelRfl
import Derived.Laws.StructEq
import Derived.Test.YtohfoenhmkfjkaaGreatDoorProg
import Derived.Test.YtohfoenhmkfjkaaGreatDoorZSegmentBuilds1
import Derived.Test.YtohfoenhmkfjkaaGreatDoorZSegmentBuilds2
import Derived.Test.YtohfoenhmkfjkaaGreatDoorZSegmentBuilds3
import Derived.Test.YtohfoenhmkfjkaaGreatDoorZSegmentBuilds4
set_option linter.unusedVariables false
set_option linter.unusedSimpArgs false
namespace Go.K
open Go.Proofs
namespace TKSegB
theorem BI:TI Tryz.prog 188 (.slice none 0 0) 1 24:=by unfold TI;kernel_rfl
theorem abE:Enters Tryz.prog 123:=enters Tryz.func123 rfl (by decide)
theorem abF:Enters Tryz.prog 169:=enters Tryz.func169 rfl (by decide)
theorem abG:Enters Tryz.prog 170:=enters Tryz.func170 rfl (by decide)
end TKSegB
open TKSegB
set_option maxRecDepth 10000
def FX (ns:List (List UInt8)) (k:List UInt8):Nat:=ns.countP fun x=>decide (x<k)
theorem UF {ns:List (List UInt8)} (h:xa ns) {i j:Nat} {x y:List UInt8} (iy:i≤j) (hx:ns[i]? =some x) (hy:ns[j]? =some y): ¬y<x:=by
 rcases fy iy with rfl|h1
 ·rw[hx]at hy;cases hy;exact ig x
 ·exact iF (gI h hx hy h1)
theorem zB {ns:List (List UInt8)} (h:xa ns) {k:List UInt8}:(k∈ns→ns[FX ns k]? =some k)∧∀x,ns[FX ns k]? =some x→¬x<k:=by
 have key:∀{ns:List (List UInt8)},xa ns→(k∈ns→ns[FX ns k]? =some k)∧∀x,ns[FX ns k]? =some x→¬x<k:=by
  intro ns
  induction ns with
  |nil=>exact fun _=>⟨(fun h=>by cases h),fun x h=>by simp at h⟩
  |cons y ns ih=>
   intro h;have h':=iT.1 h;by_cases hy:y<k
   ·have e:FX (y::ns) k=FX ns k+1:=by unfold FX;rw[List.countP_cons_of_pos (by simpa using hy)]
    rw[e];simp only[List.getElem?_cons_succ];refine⟨fun hk=>(ih h'.2).1 ?_,(ih h'.2).2⟩;rcases dN.1 hk with rfl|hk
    ·exact absurd hy (ig _)
    ·exact hk
   ·have kO:∀x∈ns,¬x<k:=fun x hx dW=>hy (j7 (h'.1 x hx) dW)
    have e:FX (y::ns) k=0:=by
     unfold FX;rw[List.countP_eq_zero];intro a ha;rcases dN.1 ha with rfl|ha
     ·simpa using hy
     ·simpa using kO a ha
    rw[e];refine⟨fun hk=>?_,fun x hx=>by simp at hx;subst hx;exact hy⟩;rcases dN.1 hk with rfl|hk
    ·rfl
    ·exact absurd (h'.1 k hk) hy
 exact key h
def geN (ns:List (List UInt8)) (k:List UInt8) (i:Nat):Bool:=match ns[i]? with|some x=> !decide (x<k)|none=>true
theorem wk {ns:List (List UInt8)} {k x:List UInt8} {i:Nat} (h:ns[i]? =some x):geN ns k i= !decide (x<k):=by unfold geN;rw[h]
theorem IU {ns:List (List UInt8)} (h:xa ns) {k:List UInt8}:ns[FX ns k]? =some k↔k∈ns:=⟨fun h=>aG h,(zB h).1⟩
theorem Dg {M:aL} {n:Nat} {g:FuncId} {cap:List Value} {good:Nat→Bool} (w0:World) (hg:Enters Tryz.prog g) (MS:∀i j,i≤j→j<n→good i=true→good j=true) (hn:n≤4611686018427387904) (ht:∀(i:Nat) w,i<n→Step M w0 M w aE→Spec Tryz.prog g ([.int .i64 (i:Int)]++cap:List Value).toArray w (fun v w'=>v= .bool (good i)∧Step M w M w' aE)):
  Spec Tryz.prog 169 #[.int .i64 (n:Int),.func (.func g) #[] cap.toArray] w0 (fun v w=>∃m:Nat,v= .int .i64 (m:Int)∧m≤n∧(∀i,i<m→good i=false)∧(∀i,m≤i→i<n→good i=true)∧Step M w0 M w aE):=by
 refine bu (args:=[_,_]) (fn:=Tryz.f169) Tryz.func169 rfl (n:=23) Tryz.ntmps169 (al (aj (ak rfl rfl (ae (al (aj (ak rfl rfl (ae (al (bh ?_))))))))));refine dz (σ:=Nat×Nat) (fun q=>[(0,.int .i64 (q.2:Int)),(1,.func (.func g) #[] cap.toArray),(5,.int .i64 (q.1:Int))]) (fun q w=>Step M w0 M w aE∧q.1≤q.2∧q.2≤n∧(∀i,i<q.1→good i=false)∧(∀i,q.2≤i→i<n→good i=true)) (fun q=>q.2-q.1) (0,n) (.cons rfl (.cons rfl (.cons rfl .nil))) ?_ ?_
 ·exact⟨ar _ _,bH _,aT _,fun i h=>absurd h (jn _),fun i h h'=>by omega⟩
 ·rintro⟨i,j⟩ w ⟨S,iy,hj,h1,h2⟩;dsimp only at iy hj h1 h2 ⊢;refine al (al (aj (ah rfl rfl (ah rfl rfl (cz rfl rfl rfl (ae ?_))))));refine bQ rfl (fun c2=>?_) (fun c2=>?_)
  ·refine aZ (bh (al (aj (ah rfl rfl (ah rfl rfl (ah rfl rfl (gJ rfl rfl rfl (by omega) (Rg.Ac rfl rfl rfl (by omega) (bI rfl rfl rfl (by omega) (bO (v':= .int .i64 ((i+(j-i)/2:Nat):Int)) (congrArg _ (by omega)) (ak rfl rfl ?_)))))))))));refine ae (al (aj (ah rfl rfl (ah rfl rfl ?_))));refine Rg.qK (first:=[]) (captured:=cap) (xs:=[.tmp 17]) rfl rfl rfl hg (vs:=[.int .i64 ((i+(j-i)/2:Nat):Int)]) (ht (i+(j-i)/2) _ (by omega) S) (fun r4 w4 hc=>?_);obtain⟨rfl,s4⟩:=hc;refine bO (v':= .bool (decide (good (i+(j-i)/2)=true))) (by simp) ?_;replace S:=S.aB s4;refine ae ?_;refine bQ rfl (fun c4=>?_) (fun c4=>?_)
   ·refine aj (ah rfl rfl (ak rfl rfl (ae ?_)));refine⟨rfl,(i,i+(j-i)/2),(.cons rfl (.cons rfl (.cons rfl .nil))),?_,?_⟩
    ·exact⟨S,by dsimp only;omega,by dsimp only;omega,h1,fun k hk QD=>MS _ _ hk QD c4⟩
    ·dsimp only;omega
   ·refine aj (ah rfl rfl (bI rfl rfl rfl (by omega) (ak rfl rfl (ae ?_))));refine⟨rfl,(i+(j-i)/2+1,j),(.cons rfl (.cons rfl (.cons rfl .nil))),?_,?_⟩
    ·exact⟨S,by dsimp only;omega,hj,fun k hk=>by
      cases h:good k with
      |false=>rfl
      |true=>exact absurd (MS k (i+(j-i)/2) (by dsimp only at hk;omega) (by omega) h) c4,h2⟩
    ·dsimp only;omega
  ·refine cY (al (aj (ah rfl rfl (ak rfl rfl (ae (aQ ?_))))));have e:i=j:=by omega
   subst e;exact aV rfl rfl ⟨i,rfl,hj,h1,h2,S⟩
theorem BR {M:aL} {d:Di} {v0:Value} {i bd bk:Nat} {k x:List UInt8} (w0:World) (hd:cc RT.di M w0 v0 d) (gd:w0.heap[bd]? =some (.cells #[v0] 123 (0,0))) (gk:w0.heap[bk]? =some (.cells #[sv k] 9 (0,0))) (hx:d.1[i]? =some x):
  Spec Tryz.prog 170 #[.int .i64 (i:Int),.pointer (some ⟨bd,0,none⟩),.pointer (some ⟨bk,0,none⟩)] w0 (fun v w=>v= .bool (!decide (x<k))∧Step M w0 M w aE):=by
 have hM:True:=trivial;refine bu (args:=[_,_,_]) (fn:=Tryz.f170) Tryz.func170 rfl (n:=14) Tryz.ntmps170 (al (aj (ak rfl rfl (ae (al ?_)))));apply T.jh mixed rfl rfl;intro zU Ky;have kz:=Ky M;replace gd:=kz.aM gd;replace gk:=kz.aM gk;replace hd:=hd.le (by decide) kz.le;refine aX eo rfl rfl rfl gd rfl (bO (v':=v0) rfl ?_);refine ae ⟨rfl,rfl,rfl,?_⟩;refine bm rfl hd.fk rfl ?_;refine ae ⟨rfl,rfl,rfl,?_⟩;refine ay (M:=M) (A:=RT.di) (B:=RT.str.sl) je rfl rfl tR (by decide) QU rfl rfl (by decide) hd (ao _ _) (fun pn Q1=>?_);refine ae ⟨rfl,rfl,rfl,?_⟩;refine bg (M:=M) aF rfl rfl rfl rfl rfl Q1 (ao _ _) (fun vn rL=>?_);replace rL:(RT.str.sl).V M _ d.1 vn:=rL;refine ae ⟨rfl,rfl,rfl,?_⟩;refine ah rfl rfl ?_;refine ae ⟨rfl,rfl,rfl,?_⟩;have nR:=(aw.1 hx).1;refine cu (M:=M) aF I9 rfl rfl rfl rL (ao _ _) (by omega) (fun u a hg hu=>?_);obtain rfl:x=a:=aN (hx.symm.trans (by simpa using hg));refine ae ⟨rfl,rfl,rfl,?_⟩;refine bg (M:=M) aD rfl rfl rfl rfl rfl hu (ao _ _) (fun vx tT=>?_);obtain rfl:=dP tT;refine ae ⟨rfl,rfl,rfl,?_⟩;refine aX aD rfl rfl rfl gk rfl (bO (v':=sv k) rfl ?_);refine ae ⟨rfl,rfl,rfl,?_⟩;refine Rg.HY rfl rfl rfl ?_;refine ae ⟨rfl,rfl,rfl,?_⟩;refine ak rfl rfl ?_;refine ae ⟨rfl,rfl,rfl,?_⟩;refine dU (aQ ?_);exact aV rfl rfl ⟨by rw[decide_not],kz⟩
theorem Dh {M:aL} {d:Di} {v0:Value} {k:List UInt8} (w0:World) (hM:Lt M w0) (hd:cc RT.di M w0 v0 d) (mW:xa d.1):
  Spec Tryz.prog 123 #[v0,sv k] w0 (fun v w=>v= .tuple #[.int .i64 (FX d.1 k:Int),.bool (decide (k∈d.1))]∧Step M w0 M w aE):=by
 refine bu (args:=[_,_]) (fn:=Tryz.f123) Tryz.func123 rfl (n:=33) Tryz.ntmps123 ?_;have S:Step M w0 M w0 aE:=(ar _ _).cw (fun _ h=>h.elim) (fun _ h=>h.elim);refine al (aj ?_);refine tO M rfl rfl (fun mz lY UG UH lR rA=>?_);replace lR:lY.heap[mz]? =some (.cells #[v0] 123 (0,0)):=by rw[sT hd]at lR;exact lR
 obtain⟨fS,wo⟩:∃M',M'=ins M mz:=⟨_,rfl⟩;rw[←wo]at rA;have mA:fS mz:=by rw[wo];exact .inl rfl
 replace hd:=hd.le (by decide) rA.le;replace hM:=rA.lt hM;have:=S.size;replace S:=S.aB rA;refine tO fS rfl rfl (fun lJ zj KF KG eX kx=>?_);obtain⟨ef,jM⟩:∃M',M'=ins fS lJ:=⟨_,rfl⟩;rw[←jM]at kx;have ep:ef lJ:=by rw[jM];exact .inl rfl
 change zj.heap[lJ]? =some (.cells #[sv k] _ _)at eX;have:=an lR;replace mA:=(kx.mem _ this).2 mA;replace lR:=kx.aM lR;replace hd:=hd.le (by decide) kx.le;replace hM:=kx.lt hM;have:=S.size;replace S:=S.aB kx;refine ak rfl rfl (ak rfl rfl (ae (al (aj (aX eo rfl rfl rfl lR rfl (bO (v':=v0) rfl (bm rfl hd.fk rfl ?_)))))));refine ay (M:=ef) (A:=RT.di) (B:=RT.str.sl) je rfl rfl tR (by decide) QU rfl rfl (by decide) hd (ao _ _) (fun pn Q1=>?_);refine bg (M:=ef) aF rfl rfl rfl rfl rfl Q1 (ao _ _) (fun vn rL=>?_);replace rL:(RT.str.sl).V ef _ d.1 vn:=rL;have QM:=dK rL;refine bK aF rfl rL rfl (jF (xs:=[]) (ys:=[.tmp 2,.tmp 3]) rfl rfl rfl ?_)
 refine aP rfl rfl abF (Dg (M:=ef) (n:=d.1.length) (cap:=[.pointer (some ⟨mz,0,none⟩),.pointer (some ⟨lJ,0,none⟩)]) (good:=geN d.1 k) _ abG (fun i j iy hj h=>by
  have hi:=av (show i<d.1.length by omega);have tp:=av hj;rw[wk hi]at h;rw[wk tp];simp only[gX,decide_eq_false_iff_not]at h ⊢;intro dW;rcases kT d.1[i] d.1[j]with h1|h1|h1
  ·exact h (j7 h1 dW)
  ·rw[h1]at h;exact h dW
  ·exact UF mW iy hi tp h1) (by omega) (fun i w hi s=>by
  have hx:=av hi;rw[wk hx];exact BR w (hd.le (by decide) s.le) (s.aM lR) (s.aM eX) hx)) (fun r1 w1 hc=>?_)
 obtain⟨m,rfl,hm,EP,Cq,s1⟩:=hc;have em:FX d.1 k=m:=wh hm (fun i x hi hx=>by have:=EP i hi;rw[wk hx]at this;simpa using this) (fun i x hi hx=>by have:=Cq i hi (aw.1 hx).1;rw[wk hx]at this;simpa using this);have:=an lR;replace mA:=(s1.mem _ this).2 mA;replace lR:=s1.aM lR;have:=an eX;replace ep:=(s1.mem _ this).2 ep;replace eX:=s1.aM eX;replace hd:=hd.le (by decide) s1.le;replace hM:=s1.lt hM;have:=S.size;replace S:=S.aB s1;refine ak rfl rfl (ae (al ?_));apply T.jh mixed rfl rfl;intro wD2 sA2;have FY:=sA2 ef;have:=an lR;replace mA:=(FY.mem _ this).2 mA;replace lR:=FY.aM lR;have:=an eX;replace ep:=(FY.mem _ this).2 ep;replace eX:=FY.aM eX;replace hd:=hd.le (by decide) FY.le;replace hM:=FY.lt hM;have:=S.size;replace S:=S.aB FY;refine ah rfl rfl ?_;refine ae ⟨rfl,rfl,rfl,?_⟩;refine ah rfl rfl ?_;refine ae ⟨rfl,rfl,rfl,?_⟩;refine aX eo rfl rfl rfl lR rfl (bO (v':=v0) rfl ?_);refine ae ⟨rfl,rfl,rfl,?_⟩;refine bm rfl hd.fk rfl ?_;refine ae ⟨rfl,rfl,rfl,?_⟩;refine ay (M:=ef) (A:=RT.di) (B:=RT.str.sl) je rfl rfl tR (by decide) QU rfl rfl (by decide) hd (ao _ _) (fun pn2 abK=>?_);refine ae ⟨rfl,rfl,rfl,?_⟩;refine bg (M:=ef) aF rfl rfl rfl rfl rfl abK (ao _ _) (fun vn2 PM=>?_);replace PM:(RT.str.sl).V ef _ d.1 vn2:=PM;refine ae ⟨rfl,rfl,rfl,?_⟩;refine bK aF rfl PM rfl ?_;refine ae ⟨rfl,rfl,rfl,?_⟩;refine cz rfl rfl rfl ?_;refine ae ⟨rfl,rfl,rfl,?_⟩;refine ah rfl rfl ?_;refine ae ⟨rfl,rfl,rfl,?_⟩;refine aR (g:=22) rfl (fun abL=>?_) (fun abL=>?_)
 ·refine aq rfl rfl (aX eo rfl rfl rfl lR rfl (bO (v':=v0) rfl ?_));refine ae ⟨rfl,rfl,rfl,?_⟩;refine aq rfl rfl (bm rfl hd.fk rfl ?_);refine ae ⟨rfl,rfl,rfl,?_⟩;refine aq rfl rfl ?_;refine ay (M:=ef) (A:=RT.di) (B:=RT.str.sl) je rfl rfl tR (by decide) QU rfl rfl (by decide) hd (ao _ _) (fun pn3 abM=>?_);refine ae ⟨rfl,rfl,rfl,?_⟩;refine aq rfl rfl ?_;refine bg (M:=ef) aF rfl rfl rfl rfl rfl abM (ao _ _) (fun vn3 PN=>?_);replace PN:(RT.str.sl).V ef _ d.1 vn3:=PN;refine ae ⟨rfl,rfl,rfl,?_⟩;refine aq rfl rfl (ah rfl rfl ?_);refine ae ⟨rfl,rfl,rfl,?_⟩;refine aq rfl rfl ?_;refine cu (M:=ef) aF I9 rfl rfl rfl PN (ao _ _) (by omega) (fun u2 x hg2 jP=>?_);rw[aC]at hg2;refine ae ⟨rfl,rfl,rfl,?_⟩;refine aq rfl rfl ?_;refine bg (M:=ef) aD rfl rfl rfl rfl rfl jP (ao _ _) (fun vx tT=>?_);obtain rfl:=dP tT;refine ae ⟨rfl,rfl,rfl,?_⟩;refine aq rfl rfl (aX aD rfl rfl rfl eX rfl (bO (v':=sv k) rfl ?_));refine ae ⟨rfl,rfl,rfl,?_⟩;refine aq rfl rfl (Rg.qJ rfl rfl rfl ?_);refine ae ⟨rfl,rfl,rfl,?_⟩;refine aW rfl rfl rfl ?_;refine ae ⟨rfl,rfl,rfl,?_⟩;refine ak rfl rfl ?_;refine ae ⟨rfl,rfl,rfl,?_⟩;refine ak rfl rfl ?_;refine ae ⟨rfl,rfl,rfl,?_⟩;refine dU (aQ ?_);rw[←em]at*
  first
  |(have e:decide (x=k)=decide (k∈d.1):=decide_eq_decide.2 (by rw[←IU mW,hg2];simp)
    exact fa rfl rfl rfl ⟨by rw[e],S.back⟩)
  |(have e:k∉d.1:=fun h=>by have:=(zB mW).1 h;have:=(aw.1 this).1;omega
    exact fa rfl rfl rfl ⟨by rw[decide_eq_false e],S.back⟩)
 ·refine au rfl rfl rfl rfl ?_;refine ae ⟨rfl,rfl,rfl,?_⟩;refine au rfl rfl rfl rfl ?_;refine ae ⟨rfl,rfl,rfl,?_⟩;refine au rfl rfl rfl rfl ?_;refine ae ⟨rfl,rfl,rfl,?_⟩;refine au rfl rfl rfl rfl ?_;refine ae ⟨rfl,rfl,rfl,?_⟩;refine au rfl rfl rfl rfl ?_;refine ae ⟨rfl,rfl,rfl,?_⟩;refine au rfl rfl rfl rfl ?_;refine ae ⟨rfl,rfl,rfl,?_⟩;refine au rfl rfl rfl rfl ?_;refine ae ⟨rfl,rfl,rfl,?_⟩;refine au rfl rfl rfl rfl ?_;refine ae ⟨rfl,rfl,rfl,?_⟩;refine au rfl rfl rfl rfl ?_;refine ae ⟨rfl,rfl,rfl,?_⟩;refine aJ rfl rfl rfl ?_;refine ae ⟨rfl,rfl,rfl,?_⟩;refine ak rfl rfl ?_;refine ae ⟨rfl,rfl,rfl,?_⟩;refine ak rfl rfl ?_;refine ae ⟨rfl,rfl,rfl,?_⟩;refine dU (aQ ?_);rw[←em]at*
  first
  |(have e:decide (x=k)=decide (k∈d.1):=decide_eq_decide.2 (by rw[←IU mW,hg2];simp)
    exact fa rfl rfl rfl ⟨by rw[e],S.back⟩)
  |(have e:k∉d.1:=fun h=>by have:=(zB mW).1 h;have:=(aw.1 this).1;omega
    exact fa rfl rfl rfl ⟨by rw[decide_eq_false e],S.back⟩)
theorem find_spec {M:aL} {d:Di} {v0:Value} {k:List UInt8} (w0:World) (hM:Lt M w0) (hd:cc RT.di M w0 v0 d) (mW:xa d.1) (hl:d.1.length=d.2.length):
  Spec Tryz.prog 73 #[v0,sv k] w0 (fun v w=>Step M w0 M w aE∧((∃(j:Nat) (p:Value) (t:Li),v= .tuple #[p,.bool true]∧d.1[j]? =some k∧d.2[j]? =some t∧cc RT.li M w p t)∨(v= .tuple #[.pointer none,.bool false]∧k∉d.1))):=by
 refine bu (args:=[_,_]) (fn:=Tryz.f73) Tryz.func73 rfl (n:=25) Tryz.ntmps73 ?_;have S:Step M w0 M w0 aE:=(ar _ _).cw (fun _ h=>h.elim) (fun _ h=>h.elim);refine al (aj (ak rfl rfl (ak rfl rfl (ae (al (aj (ah rfl rfl (ah rfl rfl ?_))))))));refine aP rfl rfl abE (Dh _ hM hd mW) (fun r1 w1 hc=>?_);obtain⟨rfl,s1⟩:=hc;replace hd:=hd.le (by decide) s1.le;replace hM:=s1.lt hM;have:=S.size;replace S:=S.aB s1;refine ah rfl rfl (bZ rfl rfl rfl (bZ rfl rfl rfl (ak rfl rfl (ak rfl rfl (ae (al (al (aj (ah rfl rfl (jN rfl rfl (bO (v':= .bool (decide (k∉d.1))) (by simp) ?_)))))))))));refine ae ?_;refine bQ rfl (fun c2=>?_) (fun c2=>?_)
 ·refine al (aj (ak rfl rfl (ae (al (aj (ah rfl rfl (ak rfl rfl (ak rfl rfl (ae (aQ ?_))))))))));exact fa rfl rfl rfl ⟨S,.inr ⟨rfl,c2⟩⟩
 ·refine aZ (al (aj (ah rfl rfl (bm rfl hd.fk rfl ?_))));refine ay (M:=M) (A:=RT.di) (B:=((RT.li).ptr).sl) je rfl rfl BI (by decide) di1 rfl rfl (by decide) hd (ao _ _) (fun pt Rf=>?_);refine bg (M:=M) dV rfl rfl rfl rfl rfl Rf (ao _ _) (fun vt IV=>?_);replace IV:(((RT.li).ptr).sl).V M _ d.2 vt:=IV;refine ah rfl rfl ?_;have hk:=(zB mW).1 (cU.1 c2);have FP:=(aw.1 hk).1;refine cu (M:=M) dV pH rfl rfl rfl IV (ao _ _) (by omega) (fun u5 t EY gU=>?_);rw[aC]at EY;refine bg (M:=M) cO rfl rfl rfl rfl rfl gU (ao _ _) (fun vp UI=>?_);have abO:=oY.1 UI;refine ak rfl rfl (ak rfl rfl (ae (aQ ?_)));exact fa rfl rfl rfl ⟨S,.inl ⟨_,_,t,rfl,hk,EY,abO⟩⟩
end Go.K
namespace Go.K
open Go.Proofs
namespace TKSegC
theorem BI:TI Tryz.prog 188 (.slice none 0 0) 1 24:=by unfold TI;kernel_rfl
end TKSegC
open TKSegC
set_option maxRecDepth 10000
theorem qC {M:aL} {d:Di} {vd:Value} {bi bd yl:Nat} {wv:World} {J:Nat→World→Prop} {Jx:World→Prop} (w0:World) (hd:cc RT.di M wv vd d) (hl:d.1.length=d.2.length) (km:∀i w w',J i w→Step aE w aE w' aE→J i w') (Iy:∀i w,J i w→w.heap[bi]? =some (.cells #[.int .i64 0] 3 (0,0))∧w.heap[bd]? =some (.cells #[vd] 123 (0,0))∧Le M wv M w) (hy:∀(i:Nat) (w:World) x t vt,J i w→d.1[i]? =some x→d.2[i]? =some t→cc RT.li M w vt t→uI Tryz.prog yl [sv x,vt].toArray w (fun r w'=>∃b,r= .bool b∧(b=true→J (i+1) w')∧(b=false→Jx w'))) (h0:J 0 w0):
  Spec Tryz.prog 129 #[.func (.yield yl) #[] #[],.pointer (some ⟨bi,0,none⟩),.pointer (some ⟨bd,0,none⟩)] w0 (fun _ w=>J d.1.length w∨Jx w):=by
 refine bu (args:=[_,_,_]) (fn:=Tryz.f129) Tryz.func129 rfl (n:=33) Tryz.ntmps129 (al (aj (aX az rfl rfl rfl (Iy _ _ h0).1 rfl (bO (v':= .int .i64 0) rfl (Rg.max2 rfl rfl rfl (ak rfl rfl (ae (bh ?_))))))));refine dz (σ:=Nat) (fun s=>[(0,.func (.yield yl) #[] #[]),(1,.pointer (some ⟨bi,0,none⟩)),(2,.pointer (some ⟨bd,0,none⟩)),(4,.int .i64 (s:Int))]) (fun s w=>J s w∧s≤d.1.length) (fun s=>d.1.length-s) 0 (.cons rfl (.cons rfl (.cons rfl (.cons rfl .nil)))) ?_ ?_
 ·exact⟨h0,bH _⟩
 ·rintro k w ⟨hJ,hk⟩;obtain⟨gi,gd,hle⟩:=Iy _ _ hJ;have hdl:d.1.length≤140737488355328:=by obtain⟨b,o,vs,_,_,⟨va,vb,_,⟨a,cap,_,_,h,_⟩,_⟩,_⟩:=hd;exact h
  refine al (al (aj (ah rfl rfl (aX eo rfl rfl rfl gd rfl (bO (v':=vd) rfl (bm rfl hd.fk rfl ?_))))));refine ay (M:=M) (A:=RT.di) (B:=RT.str.sl) je rfl rfl tR (by decide) QU rfl rfl (by decide) hd hle (fun pn Q1=>?_);refine bg (M:=M) aF rfl rfl rfl rfl rfl Q1 (ao _ _) (fun vn rL=>?_);replace rL:(RT.str.sl).V M _ d.1 vn:=rL;refine bK aF rfl rL rfl (cz rfl rfl rfl (ae ?_));refine bQ rfl (fun c1=>?_) (fun c1=>?_)
  ·refine aZ (al (bh (al ?_)));apply T.DK 15 mixed rfl rfl rfl rfl rfl;intro QL L9;have na:=L9 M;refine ah rfl rfl ?_;refine ae ⟨rfl,rfl,rfl,?_⟩;replace hJ:=km _ _ _ hJ (L9 aE);clear gi gd hle;obtain⟨gi,gd,hle⟩:=Iy _ _ hJ;refine aX eo rfl rfl rfl gd rfl (bO (v':=vd) rfl ?_);refine ae ⟨rfl,rfl,rfl,?_⟩;refine bm rfl hd.fk rfl ?_;refine ae ⟨rfl,rfl,rfl,?_⟩;refine ay (M:=M) (A:=RT.di) (B:=RT.str.sl) je rfl rfl tR (by decide) QU rfl rfl (by decide) hd hle (fun pm R9=>?_);refine ae ⟨rfl,rfl,rfl,?_⟩;refine bg (M:=M) aF rfl rfl rfl rfl rfl R9 (ao _ _) (fun vm hvm=>?_);replace hvm:(RT.str.sl).V M _ d.1 vm:=hvm;refine ae ⟨rfl,rfl,rfl,?_⟩;refine ah rfl rfl ?_;refine ae ⟨rfl,rfl,rfl,?_⟩;refine cu (M:=M) aF I9 rfl rfl rfl hvm (ao _ _) (by omega) (fun u3 x JI iQ=>?_);rw[aC]at JI;refine ae ⟨rfl,rfl,rfl,?_⟩;refine bg (M:=M) aD rfl rfl rfl rfl rfl iQ (ao _ _) (fun vx tT=>?_);obtain rfl:=dP tT;refine ae ⟨rfl,rfl,rfl,?_⟩;refine aX eo rfl rfl rfl gd rfl (bO (v':=vd) rfl ?_);refine ae ⟨rfl,rfl,rfl,?_⟩;refine bm rfl hd.fk rfl ?_;refine ae ⟨rfl,rfl,rfl,?_⟩;refine ay (M:=M) (A:=RT.di) (B:=((RT.li).ptr).sl) je rfl rfl BI (by decide) di1 rfl rfl (by decide) hd hle (fun pt Rf=>?_);refine ae ⟨rfl,rfl,rfl,?_⟩;refine bg (M:=M) dV rfl rfl rfl rfl rfl Rf (ao _ _) (fun vt IV=>?_);replace IV:(((RT.li).ptr).sl).V M _ d.2 vt:=IV;refine ae ⟨rfl,rfl,rfl,?_⟩;refine ah rfl rfl ?_;refine ae ⟨rfl,rfl,rfl,?_⟩;refine cu (M:=M) dV pH rfl rfl rfl IV (ao _ _) (by omega) (fun u4 t zT hY=>?_);rw[aC]at zT;refine ae ⟨rfl,rfl,rfl,?_⟩;refine bg (M:=M) cO rfl rfl rfl rfl rfl hY (ao _ _) (fun vp UI=>?_)
   refine ae ⟨rfl,rfl,rfl,?_⟩;refine dU ?_;refine Rg.yield rfl (vs:=[sv x,vp]) rfl rfl (hy k _ x t vp hJ JI zT (oY.1 UI)) (fun r5 w5 h5=>?_);obtain⟨b,rfl,L7,o0⟩:=h5;refine jN rfl rfl (bO (v':= .bool (decide (¬b=true))) (by simp) (ae ?_));refine bQ rfl (fun c3=>?_) (fun c3=>?_)
   ·refine aQ ?_;exact Aa rfl (.inr (o0 (by simpa using c3)))
   ·refine aZ (aj (ah rfl rfl (bI rfl rfl rfl (by omega) (ak rfl rfl (ae ?_)))));refine⟨rfl,k+1,(.cons rfl (.cons rfl (.cons rfl (.cons rfl .nil)))),?_,?_⟩
    ·exact⟨L7 (cU.1 c3),by omega⟩
    ·omega
  ·refine cY ?_
   first|refine gD.nil ?_|simp+decide only[yC,nd,if_true,if_false]|skip
   have e:k=d.1.length:=by omega
   subst e;exact lj rfl (.inl hJ)
theorem sV {M:aL} {d:Di} {vd:Value} (w0:World) (hM:Lt M w0) (hd:cc RT.di M w0 vd d):
  Spec Tryz.prog 78 #[vd,.int .i64 0] w0 (fun v w=>∃bi bd,v= .func (.func 129) #[] [.pointer (some ⟨bi,0,none⟩),.pointer (some ⟨bd,0,none⟩)].toArray∧w.heap[bi]? =some (.cells #[.int .i64 0] 3 (0,0))∧w.heap[bd]? =some (.cells #[vd] 123 (0,0))∧w0.heap.size≤bi∧w0.heap.size≤bd∧Step M w0 M w aE):=by
 refine bu (args:=[_,_]) (fn:=Tryz.f78) Tryz.func78 rfl (n:=6) Tryz.ntmps78 (al (aj ?_));refine tO M rfl rfl (fun bd w1 p1 q1 g1 s1=>?_);rw[sT hd]at g1;replace s1:=s1.back;refine tO M rfl rfl (fun bi w2 p2 q2 g2 s2=>?_);replace s2:=s2.back;replace g2:w2.heap[bi]? =some (.cells #[.int .i64 0] 3 (0,0)):=g2;refine ak rfl rfl (ae (al (aj (jF (xs:=[]) (ys:=[.tmp 3,.tmp 2]) rfl rfl rfl (ak rfl rfl (ae (aQ ?_)))))));exact aV rfl rfl ⟨bi,bd,rfl,g2,s2.aM g1,by have:=s1.size;omega,p1,s1.aB s2⟩
end Go.K
namespace Go.K
open Go.Proofs
namespace TKSegD
theorem tZ:TI Tryz.prog 123 (.pointer none) 1 8:=by unfold TI;kernel_rfl
theorem E77:Enters Tryz.prog 77:=enters Tryz.func77 rfl (by decide)
theorem UJ:Enters Tryz.prog 78:=enters Tryz.func78 rfl (by decide)
theorem IW:Enters Tryz.prog 129:=enters Tryz.func129 rfl (by decide)
end TKSegD
open TKSegD
set_option maxRecDepth 10000
theorem IX {M:aL} {w:World} {xs:List (List UInt8)} {v:Value} (h:(RT.str.sl).V M w xs v):∀x∈xs,x.length≤140737488355328:=fun x hx=>by
 obtain⟨a,cap,_,_,_,hs⟩:=ix.1 h;rcases hs with rfl|⟨b,o,_,_,he⟩
 ·cases hx
 ·obtain⟨i,hi⟩:=bN.1 hx;obtain⟨vs,⟨_,h1⟩,_⟩:=he i x hi;exact h1
theorem IY {M:aL} {w:World} {v:Value} {d:Di} (h:cc RT.di M w v d):(∀x∈d.1,x.length≤140737488355328)∧d.1.length≤140737488355328:=by
 obtain⟨b,o,vs,_,_,⟨va,vb,_,h1,_⟩,_⟩:=h;have hv:(RT.str.sl).V M w d.1 ((RT.str.sl).val va):=⟨va,h1,rfl⟩;exact⟨IX hv,dK hv⟩
structure IZ {α:Type} (A:RT α) (e T:TypeId) (M:aL) (w0:World) (bo bi bd D:Nat) (vd:Value) (st:Loop) (vo:Value) (xs:List α) (M':aL) (w:World):Prop where
 lt:Lt M' w
 S:Step M w0 M' w aE
 o:w.heap[bo]? =some (.cells #[vo] T (0,0))
 mo:M' bo
 r:w.heap[D+1]? =some (.loop st)
 mr:M' (D+1)
 d:w.heap[D]? =some (.deferred (some []))
 md:M' D
 own:Own A e M' w w0.heap.size vo xs
 gi:w.heap[bi]? =some (.cells #[.int .i64 0] 3 (0,0))
 gd:w.heap[bd]? =some (.cells #[vd] 123 (0,0))
 fi: ¬M' bi
 fd: ¬M' bd
 z:w0.heap.size≤bo∧w0.heap.size≤D
section
variable {α:Type} {A:RT α} {e T:TypeId} {M M1 M2 N:aL} {w0 w w':World} {bo bi bd D:Nat} {vd:Value} {st:Loop} {vo:Value} {xs:List α}
theorem IZ.a8 (h:IZ A e T M w0 bo bi bd D vd st vo xs M1 w) (s:Step M1 w M2 w' aE):IZ A e T M w0 bo bi bd D vd st vo xs M2 w':=
 ⟨s.lt h.lt,h.S.aB s,s.aM h.o,(s.mem _ (an h.o)).2 h.mo,s.aM h.r,(s.mem _ (an h.r)).2 h.mr,s.aM h.d,(s.mem _ (an h.d)).2 h.md,h.own.a8 s,s.aM h.gi,s.aM h.gd,fun hn=>h.fi ((s.mem _ (an h.gi)).1 hn),fun hn=>h.fd ((s.mem _ (an h.gd)).1 hn),h.z⟩
theorem IZ.lM {st':Loop} (h:IZ A e T M w0 bo bi bd D vd st vo xs M1 w):IZ A e T M w0 bo bi bd D vd st' vo xs M1 (w.putObj (D+1) (.loop st')):=by
 have s:Step M1 w M1 (w.putObj (D+1) (.loop st')) (fun k=>k=D+1):=dM h.mr;obtain⟨z1,z2⟩:=h.z;refine⟨s.lt h.lt,h.S.cW s (fun k (hk:k=D+1)=>by omega),s.bS h.o (fun(hn:bo=D+1)=>by have h1:=h.o;rw[hn,h.r]at h1;cases h1),h.mo,tP (an h.r),h.mr,s.bS h.d (fun(hn:D=D+1)=>by omega),h.md,h.own.step s (fun b hb (hn:b=D+1)=>?_),s.bS h.gi (fun(hn:bi=D+1)=>by have h1:=h.gi;rw[hn,h.r]at h1;cases h1),s.bS h.gd (fun(hn:bd=D+1)=>by have h1:=h.gd;rw[hn,h.r]at h1;cases h1),h.fi,h.fd,h.z⟩;obtain⟨cs,hc⟩:=h.own.isCells hb;rw[hn,h.r]at hc;cases hc
theorem IZ.grow {IT:Value} {MR:List α} (hT:T≠e) (h:IZ A e T M w0 bo bi bd D vd st vo xs M1 w) (s:Step M1 w M2 w' (jC vo)) (ho:Own A e M2 w' w0.heap.size IT MR):
  (w'.heap[bo]? =some (.cells #[vo] T (0,0))∧M2 bo)∧∀{w2:World},Step M2 w' M2 w2 (fun k=>k=bo)→w2.heap[bo]? =some (.cells #[IT] T (0,0))→IZ A e T M w0 bo bi bd D vd st IT MR M2 w2:=by
 obtain⟨z1,z2⟩:=h.z
 have Dj:∀{b:Nat} {o:Obj},w.heap[b]? =some o→(∀cs fr,o≠ .cells cs e fr)→¬jC vo b:=fun {b o} hb fg hn=>by
  obtain⟨⟨C,h1,_⟩,_⟩:=h.own;rcases h1.2 with h3|⟨g,cap,cur,h3,h4,h5,_⟩
  ·unfold jC at hn;rw[h3.1]at hn;cases hn
  ·unfold jC at hn;rw[h3]at hn;cases hn;rw[hb]at h5;exact fg _ _ (aN h5)
 have nM:∀{b:Nat},¬M1 b→¬jC vo b:=fun hb hn=>hb (h.own.mut_ _ hn)
 have gA:=s.bS h.o (Dj h.o (fun cs fr hc=>by injection hc with _ h1 _;exact hT h1));have hr:=s.bS h.r (Dj h.r (fun cs fr hc=>by cases hc));have hd:=s.bS h.d (Dj h.d (fun cs fr hc=>by cases hc));have Dd:=s.bS h.gi (nM h.fi);have sH:=s.bS h.gd (nM h.fd);have UK: ¬M2 bi:=fun hn=>h.fi ((s.mem _ (an h.gi)).1 hn)
 have F3: ¬M2 bd:=fun hn=>h.fd ((s.mem _ (an h.gd)).1 hn)
 have FV:=(s.mem _ (an h.o)).2 h.mo;refine⟨⟨gA,FV⟩,fun {w2} s2 hx=>⟨s2.lt (s.lt h.lt),(h.S.cF s h.own (aT _)).cW s2 (fun k (hk:k=bo)=>by omega),hx,FV,s2.bS hr (fun(hn:D+1=bo)=>by rw[hn,gA]at hr;cases hr),(s.mem _ (an h.r)).2 h.mr,s2.bS hd (fun(hn:D=bo)=>by rw[hn,gA]at hd;cases hd),(s.mem _ (an h.d)).2 h.md,ho.step s2 (fun b hb (hn:b=bo)=>ho.eW gA hT (by rw[←hn];exact hb)),s2.bS Dd (fun(hn:bi=bo)=>UK (by rw[hn];exact FV)),s2.bS sH (fun(hn:bd=bo)=>F3 (by rw[hn];exact FV)),UK,F3,h.z⟩⟩
end
theorem abR {α:Type} {A:RT α} {e T:TypeId} {M M1:aL} {w0 w:World} {bo bi bd:Nat} {vd:Value} {st:Loop} (hM:Lt M1 w) (S:Step M w0 M1 w aE) (go:w.heap[bo]? =some (.cells #[.slice none 0 0] T (0,0))) (mo:M1 bo) (gi:w.heap[bi]? =some (.cells #[.int .i64 0] 3 (0,0))) (gd:w.heap[bd]? =some (.cells #[vd] 123 (0,0))) (fi: ¬M1 bi) (fd: ¬M1 bd) (Fv:w0.heap.size≤bo):
  ∃M',IZ A e T M w0 bo bi bd w.heap.size vd st (.slice none 0 0) [] M' ((w.alloc (.deferred (some []))).alloc (.loop st)):=by
 have sA:Step M1 w (ins M1 w.heap.size) (w.alloc (.deferred (some []))) aE:=(dv M1 w _).own (aT _) (by simp);have sB:Step (ins M1 w.heap.size) (w.alloc (.deferred (some []))) (ins (ins M1 w.heap.size) (w.heap.size+1)) ((w.alloc (.deferred (some []))).alloc (.loop st)) aE:=(dv _ _ _).own (by simp) (by simp);have hD:(w.alloc (.deferred (some []))).heap[w.heap.size]? =some (.deferred (some [])):=cJ w _;have hR:((w.alloc (.deferred (some []))).alloc (.loop st)).heap[w.heap.size+1]? =some (.loop st):=by have:=cJ (w.alloc (.deferred (some []))) (.loop st);rwa [xd]at this
 have SS:=(S.aB sA).aB sB;have hi:=an gi;have hd:=an gd;refine⟨_,sB.lt (sA.lt hM),SS,sB.aM (sA.aM go),.inr (.inr mo),hR,.inl rfl,sB.aM hD,.inr (.inl rfl),dQ _ _ _ _ _,sB.aM (sA.aM gi),sB.aM (sA.aM gd),?_,?_,Fv,S.size⟩
 ·rintro(h|h|h)
  ·omega
  ·omega
  ·exact fi h
 ·rintro(h|h|h)
  ·omega
  ·omega
  ·exact fd h
theorem wu {M:aL} {d:Di} {v0:Value} (w0:World) (hM:Lt M w0) (hd:cc RT.di M w0 v0 d) (hdl:d.1.length=d.2.length) (hd6:d.1.length≤1000000000):
  Spec Tryz.prog 77 #[v0] w0 (fun v w=>(RT.str.sl).V M w d.1 v∧Step M w0 M w aE):=by
 have gB:=hM;obtain⟨Er,_⟩:=IY hd;refine mE (args:=[_]) (fn:=Tryz.f77) Tryz.func77 rfl (n:=14) Tryz.ntmps77 ?_;have S:Step M w0 M w0 aE:=(ar _ _).cw (fun _ h=>h.elim) (fun _ h=>h.elim);refine al (aj (ak rfl rfl (ae (al (aj ?_)))));refine eG M tR rfl (fun gu xn Hi Kz ic j2=>?_);obtain⟨gw,jL⟩:∃M',M'=ins M gu:=⟨_,rfl⟩;rw[←jL]at j2;have fz:gw gu:=by rw[jL];exact .inl rfl
 change xn.heap[gu]? =some (.cells #[.slice none 0 0] _ _)at ic;replace hM:=j2.lt hM;have:=S.size;replace S:=S.aB j2;refine ae (al (al (aj (ah rfl rfl ?_))));refine aP rfl rfl UJ (sV (M:=gw) _ hM (hd.le (by decide) j2.le)) (fun r2 w2 hc=>?_);obtain⟨bi,bd,rfl,gi,gd,YO,hbd,s2⟩:=hc;have fi: ¬gw bi:=fun h=>by have:=hM _ h;omega
 have fd: ¬gw bd:=fun h=>by have:=hM _ h;omega
 replace fi: ¬gw bi:=fi;have:=an ic;replace fz:=(s2.mem _ this).2 fz;replace ic:=s2.aM ic;replace hM:=s2.lt hM;have:=S.size;replace S:=S.aB s2;refine ae (bh ?_);refine T.range (gf:=129) (lb:=[.pointer (some ⟨bi,0,none⟩),.pointer (some ⟨bd,0,none⟩)].toArray) rfl IW (fun rec mj=>?_);obtain⟨D,hD⟩:∃D,D=w2.heap.size:=⟨_,rfl⟩;obtain⟨Mr,h0⟩:=abR (A:=RT.str) (e:=9) (st:=rec .ready none) hM S ic fz gi gd fi fd (by omega);rw[←hD]at mj h0 ⊢;refine Spec.mono (qC (wv:=w0) (M:=M) (J:=fun i w=>∃M' vo,IZ (RT.str) 9 55 M w0 gu bi bd D v0 (rec .ready none) vo (d.1.take i) M' w) (Jx:=fun _=>False) _ hd hdl (fun i w w' ⟨M',vo,h⟩ s=>⟨M',vo,h.a8 (s.any M')⟩) (fun i w ⟨M',vo,h⟩=>⟨h.gi,h.gd,h.S.back.le⟩) (fun i wr x t vt hJ hx ht hp=>?_) ⟨Mr,_,h0⟩) (fun _ w3 h3=>?_)
 ·obtain⟨M',vo,h⟩:=hJ;refine kY (ps:=[7,8]) (vs:=[sv x,vt]) mj h.r rfl (by decide) (aj (ak rfl rfl (ae ?_)));refine⟨rfl,h.r,?_⟩;have h4:=h.lM (st':=rec .busy none);have s4:Step M' wr M' (wr.putObj (D+1) (.loop (rec .busy none))) (fun k=>k=D+1):=dM h.mr;generalize wr.putObj (D+1) _=w4 at h4 s4 ⊢;refine bh (aj (aX aF rfl rfl rfl h4.o rfl (bO (v':=vo) rfl (ah rfl rfl ?_))));refine eA (A:=RT.str) (hn:=by decide) (M:=M') aF I9 (by decide) rfl rfl h4.lt (jG.2 ⟨rfl,Er x (aG hx)⟩) (.inr ⟨rfl,rfl⟩) (fun u5 w5 gU s5=>?_);have h6:=h4.a8 s5;have nR:=(aw.1 hx).1;refine cv (M:=M') (base:=w0.heap.size) aF I9 rfl rfl rfl rfl h6.own gU (ao _ _) (by simp;omega) (by simp;omega) h6.S.size (fun v6 M6 w6 tt s6=>?_);obtain⟨⟨go6,mo6⟩,FO⟩:=h6.grow (by decide) s6 tt;refine ck (M:=M6) tR rfl rfl go6 rfl (by obtain⟨_,_,he,_⟩:=tt.isSlice;rw[he];rfl) mo6 (fun w7 g7 s7=>?_);refine ae ?_;have h8:=(FO s7 g7).lM (st':=rec .ready none);exact⟨(FO s7 g7).r,true,rfl,fun _=>⟨M6,v6,by rw[bP,hx,cn];exact h8⟩,fun h=>by cases h⟩
 ·obtain⟨M',vo,h⟩:=h3.resolve_right id;left;refine⟨h.r,?_⟩;have h5:=h.lM (st':=rec .exhausted none);generalize w3.putObj (D+1) _=wE at h5 ⊢;refine al (aj (aX aF rfl rfl rfl h5.o rfl (bO (v':=vo) rfl (ak rfl rfl (ae (aQ ?_))))));have sE:Step M' wE M' (wE.putObj D (.deferred none)) (fun k=>k=D):=dM h5.md;have hz:=h5.z;have hS:=h5.S.cW sE (fun k (hk:k=D)=>by omega)
  have ho:=h5.own.step sE (fun b hb (hn:b=D)=>by
   obtain⟨cs,hc⟩:=h5.own.isCells hb;rw[hn,h5.d]at hc;cases hc)
  rw[a7 (aT _)]at ho;exact yL rfl rfl h5.d ⟨ho.close gB hS (by omega),hS.back⟩
theorem wx {M:aL} {s:Se} {v0:Value} (w0:World) (hM:Lt M w0) (hdl:s.2.2.1.length=s.2.2.2.length) (hd6:s.2.2.1.length≤1000000000) (hs:cc RT.se M w0 v0 s):
  Spec Tryz.prog 68 #[v0] w0 (fun v w=>(RT.str.sl).V M w s.2.2.1 v∧Step M w0 M w aE):=by
 refine bu (args:=[_]) (fn:=Tryz.f68) Tryz.func68 rfl (n:=8) Tryz.ntmps68 (al (aj (ak rfl rfl (ae (al (aj (ah rfl rfl (bm rfl hs.fk rfl ?_))))))));refine ay (M:=M) (A:=RT.se) (B:=(RT.di).ptr) eH rfl rfl tZ (by decide) O1 rfl rfl (by decide) hs (ao _ _) (fun AF l6=>?_);refine bg (M:=M) eo rfl rfl rfl rfl rfl l6 (ao _ _) (fun vd I0=>?_);refine aP rfl rfl E77 (wu _ hM (oY.1 I0) hdl hd6) (fun r wc hc=>?_);obtain hc:=hc;refine ak rfl rfl (ae (aQ ?_));exact aV rfl rfl hc
end Go.K
namespace Go.K
open Go.Proofs
namespace TKSegE
theorem tZ:TI Tryz.prog 123 (.pointer none) 1 8:=by unfold TI;kernel_rfl
theorem UL:Enters Tryz.prog 73:=enters Tryz.func73 rfl (by decide)
theorem E75:Enters Tryz.prog 75:=enters Tryz.func75 rfl (by decide)
end TKSegE
open TKSegE
set_option maxRecDepth 10000
def ua (ns:List (List UInt8)) (ls:List (List Po)) (k:List UInt8):List Po:=match (ns.zip ls).find? (fun p=>decide (p.1=k))with|some p=>p.2|none=>[]
theorem sY {ns:List (List UInt8)} (hn:ns.Nodup) {ls:List (List Po)} {k:List UInt8} {j:Nat} {l:List Po} (h:ns[j]? =some k) (hl:ls[j]? =some l):ua ns ls k=l:=by
 have:∀{ns:List (List UInt8)} {ls:List (List Po)} {j:Nat},ns.Nodup→ns[j]? =some k→ls[j]? =some l→(ns.zip ls).find? (fun p=>decide (p.1=k))=some (k,l):=by
  intro ns
  induction ns with
  |nil=>intro ls j _ h;simp at h
  |cons x ns ih=>
   intro ls j hn h hl
   cases ls with
   |nil=>simp at hl
   |cons y ls=>
    cases j with
    |zero=>simp at h hl;subst h;subst hl;simp
    |succ j=>
     have Mp:=List.nodup_cons.1 hn;have hk:k∈ns:=aG (by simpa using h);have hx:x≠k:=fun e=>Mp.1 (by rw[e];exact hk)
     rw[List.zip_cons_cons,List.find?_cons_of_neg (by simpa using hx)];exact ih Mp.2 (by simpa using h) (by simpa using hl)
 unfold ua;rw[this hn h hl]
theorem o2 {ns:List (List UInt8)} {ls:List (List Po)} {k:List UInt8} (h:k∉ns):ua ns ls k=[]:=by
 unfold ua;rw[List.find?_eq_none.2 fun p hp=>by have:=List.of_mem_zip hp;simp;intro e;exact h (e▸this.1)]
theorem I1 {L:List En} (k:List UInt8):ua (keysOf L) ((keysOf L).map (pk L)) k=pk L k:=by
 by_cases h:k∈keysOf L
 ·obtain⟨j,hj⟩:=bN.1 h;exact sY (kh L).nodup hj (by rw[ff,hj];rfl)
 ·rw[o2 h];exact(Ec 0 (fun h'=>h (iZ.2 h'))).symm
theorem PO (l:List Po):qo (ir l).2.1=(l.length:Int):=by
 show qo (kR l ((l.length+7)/8))=_;rw[xQ];congr 1;omega
def mf (d:Di) (k:List UInt8) (M:aL) (v:Value) (w:World):Prop:=(∃(j:Nat) (t:Li),d.1[j]? =some k∧d.2[j]? =some t∧cc RT.li M w v t)∨(v= .pointer none∧k∉d.1)
theorem mf.step {d:Di} {k:List UInt8} {M M':aL} {v:Value} {w w':World} (h:mf d k M v w) (s:Step M w M' w' aE):mf d k M' v w':=h.imp (fun⟨j,t,h1,h2,h3⟩=>⟨j,t,h1,h2,h3.le (by decide) s.le⟩) id
theorem yr {M:aL} {t:Fd} (w0:World) (hM:Lt M w0) (h1:t.1.length≤140737488355328) (h2:t.2.length≤140737488355328):
  Spec Tryz.prog 74 #[kv t] w0 (fun v w=>v= .string ⟨(dm t).toArray⟩∧Step M w0 M w aE):=by
 refine bu (args:=[_]) (fn:=Tryz.f74) Tryz.func74 rfl (n:=9) Tryz.ntmps74 ?_;have S:Step M w0 M w0 aE:=(ar _ _).cw (fun _ h=>h.elim) (fun _ h=>h.elim);refine al (aj ?_);refine iw (A:=RT.fd) rfl rfl hM (tW (by omega) (by omega)) rfl (fun u0 w1 cV s0 _=>?_);replace hM:=s0.lt hM;have:=S.size;replace S:=S.aB s0;refine ak rfl rfl (ae (al (aj ?_)));refine ay (M:=M) (A:=RT.fd) (B:=RT.str) bw rfl rfl I9 (by decide) (E2) rfl rfl (by decide) (by assumption) (by repeat (first|exact ao _ _|refine aU (br (by assumption)) ?_)) (fun tU jw=>?_);refine bg (M:=M) aD rfl rfl rfl rfl rfl jw (ao _ _) (fun v1 tu=>?_);obtain rfl:=dP tu;refine Rg.cat (p:=t.1) (q:=[0]) rfl rfl rfl (by simp;omega) ?_;refine ay (M:=M) (A:=RT.fd) (B:=RT.str) bw rfl rfl I9 (by decide) (Md) rfl rfl (by decide) (by assumption) (by repeat (first|exact ao _ _|refine aU (br (by assumption)) ?_)) (fun EZ iC=>?_);refine bg (M:=M) aD rfl rfl rfl rfl rfl iC (ao _ _) (fun v4 nX=>?_);obtain rfl:=dP nX;refine Rg.cat (p:=t.1++[0]) (q:=t.2) rfl rfl rfl (by simp;omega) (ak rfl rfl (ae (aQ ?_)));exact aV rfl rfl ⟨rfl,S⟩
theorem tJ {M:aL} {s:Se} {ls:List (List Po)} {t:Fd} {v0:Value} (w0:World) (hM:Lt M w0) (hs:cc RT.se M w0 v0 s) (mW:xa s.2.2.1) (hls:s.2.2.2=ls.map ir) (hdl:s.2.2.1.length=ls.length) (h1:t.1.length≤140737488355328) (h2:t.2.length≤140737488355328):
  Spec Tryz.prog 25 #[v0,kv t] w0 (fun v w=>v= .int .i64 ((ua s.2.2.1 ls (dm t)).length:Int)∧Step M w0 M w aE):=by
 refine bu (args:=[_,_]) (fn:=Tryz.f25) Tryz.func25 rfl (n:=21) Tryz.ntmps25 ?_;have S:Step M w0 M w0 aE:=(ar _ _).cw (fun _ h=>h.elim) (fun _ h=>h.elim);refine al (aj ?_);refine iw (A:=RT.fd) rfl rfl hM (tW (by omega) (by omega)) rfl (fun u0 w1 cV s0 _=>?_);replace hs:=hs.le (by decide) s0.le;replace hM:=s0.lt hM;have:=S.size;replace S:=S.aB s0;refine ak rfl rfl (ae (al ?_));apply T.draw (M:=M) mixed [bW.eq v0,bW.eq v0,bW.ptr ((RT.di).ptr) s.2.2,bW.ptr RT.di s.2.2,bW.eq (kv t),bW.eq (sv (dm t)),(bW.mk' (fun v w=>∃p,v= .tuple #[p,.bool (decide (dm t∈s.2.2.1))]∧mf s.2.2 (dm t) M p w) (fun⟨p,h1,h2⟩ s=>⟨p,h1,h2.step s⟩)),(bW.mk' (fun v w=>∃p,v= .tuple #[p,.bool (decide (dm t∈s.2.2.1))]∧mf s.2.2 (dm t) M p w) (fun⟨p,h1,h2⟩ s=>⟨p,h1,h2.step s⟩)),(bW.mk' (fun v w=>mf s.2.2 (dm t) M v w) (fun h s=>h.step s)),bW.eq (.bool (decide (dm t∈s.2.2.1))),(bW.mk' (fun v w=>mf s.2.2 (dm t) M v w) (fun h s=>h.step s)),bW.eq (.bool (decide (dm t∈s.2.2.1)))]
 ·rfl
 ·refine aH ?_ ?_
  ·intro wD E sD;refine ah rfl rfl ?_;exact ae ⟨rfl,rfl,_,rfl,rfl,ar _ _⟩
  refine aH ?_ ?_
  ·intro wD E sD;refine aA (bm rfl hs.fk rfl ?_);exact ae ⟨rfl,rfl,_,rfl,rfl,ar _ _⟩
  refine aH ?_ ?_
  ·intro wD E sD;refine aA ?_;refine ay (M:=M) (A:=RT.se) (B:=(RT.di).ptr) eH rfl rfl tZ (by decide) O1 rfl rfl (by decide) hs sD.le (fun uf mw=>?_);exact ae ⟨rfl,rfl,_,rfl,mw,ar _ _⟩
  refine aH ?_ ?_
  ·intro wD E sD;intro v2 nq;refine bg (M:=M) eo rfl rfl rfl rfl rfl (show cc ((RT.di).ptr) M wD v2 s.2.2 from nq) (ao _ _) (fun vd I0=>?_);exact ae ⟨rfl,rfl,_,rfl,oY.1 I0,ar _ _⟩
  refine aH ?_ ?_
  ·intro wD E sD;refine ch (M:=M) (A:=RT.fd) bw rfl jr (by decide) rfl rfl rfl cV sD.le (fun vt IV=>?_);obtain rfl:=gN IV;exact ae ⟨rfl,rfl,_,rfl,rfl,ar _ _⟩
  refine aH ?_ ?_
  ·intro wD E sD;refine aA ?_;refine aP rfl rfl Rz (yr (t:=t) _ (sD.lt hM) h1 h2) (fun r5 w5 hc=>?_);obtain⟨rfl,s5⟩:=hc;exact ae ⟨rfl,rfl,_,rfl,rfl,s5⟩
  refine aH ?_ ?_
  ·intro wD E sD;intro v3 px;refine aA (aA ?_);refine aP rfl rfl UL (find_spec (k:=dm t) _ (sD.lt hM) (show cc RT.di M wD v3 s.2.2 from px) mW (by rw[hls,cj];exact hdl)) (fun r6 w6 hc=>?_);obtain⟨s6,hr⟩:=hc;refine ae ⟨rfl,rfl,_,rfl,?_,s6⟩;rcases hr with⟨j,p,tl,rfl,h3,h4,h5⟩|⟨rfl,h3⟩
   ·exact⟨p,by rw[decide_eq_true (aG h3)],.inl ⟨j,tl,h3,h4,h5⟩⟩
   ·exact⟨_,by rw[decide_eq_false h3],.inr ⟨rfl,h3⟩⟩
  refine aH ?_ ?_
  ·intro wD E sD;intro v6 oI;refine ah rfl rfl ?_;exact ae ⟨rfl,rfl,_,rfl,oI,ar _ _⟩
  refine aH ?_ ?_
  ·intro wD E sD;intro v7 pT;obtain⟨p,rfl,hp⟩:=pT;refine bZ rfl rfl rfl ?_;exact ae ⟨rfl,rfl,_,rfl,hp,ar _ _⟩
  refine aH ?_ ?_
  ·intro wD E sD;intro v7 pT;obtain⟨p,rfl,hp⟩:=pT;refine bZ rfl rfl rfl ?_;exact ae ⟨rfl,rfl,_,rfl,rfl,ar _ _⟩
  refine aH ?_ ?_
  ·intro wD E sD;intro v8 rK;intro v6 oI;refine aA (aA ?_);intro v2 nq;intro v3 px;refine aA (aA ?_);intro v6 oI;intro v7 pT;intro v8 rK;refine ak rfl rfl ?_;exact ae ⟨rfl,rfl,_,rfl,rK,ar _ _⟩
  refine aH ?_ ?_
  ·intro wD E sD;refine aA ?_;intro v10 tY;refine aA (aA ?_);intro v2 nq;intro v3 px;refine aA (aA ?_);intro v6 oI;intro v7 pT;intro v8 rK;refine aA ?_;intro v10 tY;refine ak rfl rfl ?_;exact ae ⟨rfl,rfl,_,rfl,rfl,ar _ _⟩
  exact rO
 ·intro zU kz;refine aA (aA ?_);intro BP me;intro GQ uT;refine aA (aA ?_);intro abS UM;intro NZ GP;intro UN MT;refine aA ?_;intro I2 qD;refine aA ?_;replace qD:mf s.2.2 (dm t) M I2 zU:=qD;have hF:=qD;replace hM:=kz.lt hM;replace S:=S.aB kz;replace hs:=hs.le (by decide) kz.le;replace cV:=cV.le (by decide) kz.le;refine al (al (aj (ah rfl rfl (jN rfl rfl (bO (v':= .bool (decide (dm t∉s.2.2.1))) (by simp) (ae ?_))))));refine bQ rfl (fun c2=>?_) (fun c2=>?_)
  ·refine al (aj (ak rfl rfl (ae (aQ ?_))));have e:ua s.2.2.1 ls (dm t)=[]:=o2 c2;exact aV rfl rfl ⟨by rw[e];rfl,S⟩
  ·refine aZ (al (aj (ah rfl rfl ?_)));obtain⟨j,tl,JH,tp,DM⟩:=hF.resolve_right (fun h=>h.2 (cU.1 c2));rw[hls,ff]at tp;obtain⟨l,JZ,rfl⟩:=iv.1 tp;refine aP rfl rfl E75 (GU DM hM (EH _ _)) (fun r4 w4 hc=>?_);obtain⟨rfl,s4⟩:=hc;replace hs:=hs.le (by decide) s4.le;replace cV:=cV.le (by decide) s4.le;replace hM:=s4.lt hM;have:=S.size;replace S:=S.aB s4;refine ak rfl rfl (ae (aQ ?_));have e:ua s.2.2.1 ls (dm t)=l:=sY mW.nodup JH JZ;exact aV rfl rfl ⟨by rw[e,PO],S⟩
end Go.K
namespace Go.K
open Go.Proofs
namespace TKCursor
theorem PQ:TI Tryz.prog 216 (.agg #[(.pointer none),(.int .i64 0),(.slice none 0 0),(.int .i64 0),(.int .i64 0)]) 5 56:=by unfold TI;kernel_rfl
theorem PR:placesOf Tryz.prog 216=[(0,1),(1,1),(2,1),(3,1),(4,1)].map some:=by kernel_rfl
end TKCursor
open TKCursor
set_option maxRecDepth 10000
theorem tK {l:List Po} {j:Nat} {p:Po} (h:l[j]? =some p):(kE l (j:Int))[0]? =some p:=by
 unfold kE;rw[if_neg (by omega),aC,de,if_pos (by omega),oA];simpa using h
theorem Dk {l:List Po} {i:Int} (h:(l.length:Int)≤i):kE l i=[]:=by
 unfold kE;rw[if_neg (by omega),ec (by omega),List.take_nil]
theorem Fy {M:aL} {w0:World} {q:Addr} {l:List Po} (hv:cc RT.li M w0 (.pointer (some q)) (ir l)):
  Spec Tryz.prog 140 #[.pointer (some q)] w0 (fun v' w'=>∃bc,v'= .pointer (some ⟨bc,0,none⟩)∧w0.heap.size≤bc∧Step M w0 (ins M bc) w' aE∧Cu 216 l (-1) (ins M bc) w' bc):=by
 refine bu (args:=[_]) (fn:=Tryz.f140) Tryz.func140 rfl (n:=12) Tryz.ntmps140 (al (aj (ak rfl rfl (ae (al (al (aj (ah rfl rfl (Rg.Gj (v:= .pointer (some q)) cO rfl ⟨_,rfl⟩ rfl rfl (bO (v':= .bool (decide False)) rfl (ae ?_)))))))))));refine T.zZ rfl ((fun h=>h)) (aZ (al (aj (ah rfl rfl (eT (places:=[(0,1),(1,1),(2,1),(3,1),(4,1)]) bU PQ PR rfl ⟨_,_,rfl,rfl,_,_,rfl,rfl,_,_,rfl,rfl,rfl⟩ (out:=[_,_,.slice none 0 0,_,.int .i64 0]) ⟨0,[_],rfl,rfl,by simp[Value.cells],1,[_],rfl,rfl,by simp[Value.cells],3,[_],rfl,rfl,by simp[Value.cells],rfl⟩ ?_)))));refine tO M rfl rfl (fun bc w1 h1 Gm hS s1=>?_);refine ak rfl rfl (ae (aQ ?_));exact aV rfl rfl ⟨bc,rfl,h1,s1,.pointer (some q),.slice none 0 0,-1,0,.inl rfl,hS,hv.le (by decide) s1.le,iO,by omega,by omega,fun _=>rfl,fun h=>by omega⟩
def rB (l:List Po) (i:Int):Int:=if i<l.length then i+1 else i
theorem I4 {l:List Po} (hm:ej (-1) l=true) {i:Int} (hi: -1≤i∧i≤l.length):sr l i (min (gv l i+1) 2147483648)=rB l i:=by
 unfold sr rB;rcases l7 l i with⟨h0,h,_⟩|⟨j,d,ps,rfl,hx,h,_⟩|⟨h0,h,_⟩
 ·rw[h,if_neg (by omega),if_pos (by omega)];rw[idx_eq (i:=0) (fun j hj=>absurd hj (jn _)) (fun p hp=>by have:=um hm (i:=0) (d:=p.1) (ps:=p.2) hp;omega) (bH _)];omega
 ·have hr:=um hm hx;have hj:=(aw.1 hx).1;rw[h,if_neg (by omega),if_pos (by omega)];rw[idx_eq (i:=j+1) (fun t ht p hp=>?_) (fun p hp=>?_) (by omega)]
  ·omega
  ·rcases db t j with h1|h1
   ·have:=DS hm hp hx h1;simp only at this;omega
   ·rw[show t=j from by omega,hx]at hp;cases hp;simp only;omega
  ·have h1:=DS hm hx hp (by omega);have h2:=um hm (i:=j+1) (d:=p.1) (ps:=p.2) hp;simp only at h1;omega
 ·rw[h,if_pos (by omega),if_neg (by omega)]
end Go.K
namespace Go.K
open Go.Proofs
namespace TKIdx
theorem abT:Enters Tryz.prog 186:=enters Tryz.func186 rfl (by decide)
end TKIdx
open TKIdx
set_option maxRecDepth 10000
theorem Fz {M:aL} {w0:World} {x:Value} {d to:Int} {bt:Nat} (hM:Lt M w0) (hb:w0.heap[bt]? =some (.cells #[.int .i64 to] 3 (0,0))):
  Spec Tryz.prog 186 #[.agg #[.int .i64 d,x],.pointer (some ⟨bt,0,none⟩)] w0 (fun v' w'=>v'= .bool (decide (to≤d))∧Step M w0 M w' aE):=by
 refine bu (args:=[_,_]) (fn:=Tryz.f186) Tryz.func186 rfl (n:=8) Tryz.ntmps186 (al (aj ?_));refine tO M rfl rfl (fun bx w1 h1 Gm hS s1=>?_);change w1.heap[bx]? =some (.cells #[.int .i64 d,x] _ _)at hS;have zS:=s1.aM hb;refine ak rfl rfl (ae (al (aj (bz bA rfl rfl I3 (by decide) rfl rfl (aX az rfl rfl rfl (by assumption) rfl (aX az rfl rfl rfl (by assumption) rfl (ek rfl rfl rfl (ak rfl rfl (ae (aQ ?_))))))))));exact aV rfl rfl ⟨rfl,s1.back⟩
set_option maxHeartbeats 2000000 in
theorem rC {M:aL} {w0:World} {v:Value} {lf:List Po} {to:Int} {bt:Nat} (hM:Lt M w0) (hv:((RT.po).sl).V M w0 lf v) (hb:w0.heap[bt]? =some (.cells #[.int .i64 to] 3 (0,0))):
  Spec Tryz.prog 185 #[v,.func (.func 186) #[] #[.pointer (some ⟨bt,0,none⟩)]] w0 (fun v' w'=>v'= .int .i64 (if idx lf to<lf.length then(idx lf to:Int)else-1)∧Step M w0 M w' aE):=by
 have hlen:=dK hv;refine bu (args:=[_,_]) (fn:=Tryz.f185) Tryz.func185 rfl (n:=19) Tryz.ntmps185 (al (aj (ak rfl rfl (ae (al (al (aj (ah rfl rfl (bK aK rfl hv rfl (ah rfl rfl (ae ?_)))))))))));refine bh ?_;refine dz (σ:=Nat) (fun s=>[(0,v),(1,.func (.func 186) #[] #[.pointer (some ⟨bt,0,none⟩)]),(7,.int .i64 lf.length),(8,.int .i64 s)]) (fun s w=>s≤lf.length∧Step M w0 M w aE∧∀j,j<s→∀p,lf[j]? =some p→p.1<to) (fun s=>lf.length-s) 0 (.cons rfl (.cons rfl (.cons rfl (.cons rfl .nil)))) ?_ ?_
 ·exact⟨bH _,ar _ _,fun j hj=>absurd hj (jn _)⟩
 ·rintro k w1 ⟨hk,S,dW⟩;refine al (aj (cz rfl rfl rfl (ae (al ?_))));refine bQ rfl (fun c2=>?_) (fun c2=>?_)
  ·refine aZ (al (bh (al (aj (ah rfl rfl (ak rfl rfl (ae (al (aj (ah rfl rfl (ah rfl rfl ?_)))))))))));refine ah rfl rfl ?_;obtain⟨⟨d,ps⟩,hx⟩:∃x,(lf)[k]? =some x:=⟨_,av (by omega)⟩;refine cu (M:=M) aK fv rfl rfl rfl (hv.le S.le) (ao _ _) (by first|omega|decide) (fun SH abU UO af9=>?_);obtain rfl:(d,ps)=abU:=dL (aN (UO.symm.trans (by simpa using hx)));refine ch (M:=M) (A:=RT.po) bA rfl fv (by decide) rfl rfl rfl (by assumption) (by repeat (first|exact ao _ _|refine aU (br (by assumption)) ?_)) (fun aj8 UP=>?_);obtain⟨x4,rfl,_,_⟩:=Oa UP;refine Rg.qK (first:=[]) (captured:=[.pointer (some ⟨bt,0,none⟩)]) (xs:=[.tmp 15]) rfl rfl rfl abT (Fz (M:=M) (d:=d) (x:=x4) (S.lt hM) (S.aM hb)) (fun r w2 h2=>?_);obtain⟨rfl,s2⟩:=h2;refine ae ?_;refine bQ rfl (fun c4=>?_) (fun c4=>?_)
   ·refine al (aj (ah rfl rfl (ak rfl rfl (ae (aQ ?_)))));have he:idx lf to=k:=idx_eq dW (fun p hp=>by rw[hx]at hp;cases hp;exact c4) hk;exact aV rfl rfl ⟨by rw[he,if_pos (by omega)],S.aB s2⟩
   ·refine aZ (aj (bI rfl rfl rfl (by omega) (ah rfl rfl (ae ?_))));refine⟨rfl,k+1,(.cons rfl (.cons rfl (.cons rfl (.cons rfl .nil)))),?_,?_⟩
    ·refine⟨by omega,S.aB s2,fun j hj p hp=>?_⟩;rcases db j k with hjk|hjk
     ·exact dW j hjk p hp
     ·rw[show j=k from by omega,hx]at hp;cases hp;simp only;omega
    ·show _-(k+1)<_-k;omega
  ·refine cY (al (aj (ak rfl rfl (ae (aQ ?_)))))
   have he:idx lf to=lf.length:=by
    obtain rfl:k=lf.length:=by omega
    exact idx_eq dW (fun p hp=>by simp at hp) (aT _)
   exact aV rfl rfl ⟨by rw[he,if_neg (by omega)],S⟩
end Go.K
namespace Go.K
open Go.Proofs
namespace TKAdv
theorem gz:TI Tryz.prog 107 (.slice none 0 0) 1 24:=by unfold TI;kernel_rfl
theorem abV:Enters Tryz.prog 141:=enters Tryz.func141 rfl (by decide)
theorem PJ:Enters Tryz.prog 180:=enters Tryz.func180 rfl (by decide)
theorem Lr:Enters Tryz.prog 183:=enters Tryz.func183 rfl (by decide)
theorem abW:Enters Tryz.prog 184:=enters Tryz.func184 rfl (by decide)
theorem UQ:Enters Tryz.prog 185:=enters Tryz.func185 rfl (by decide)
end TKAdv
open TKAdv
set_option maxRecDepth 10000
set_option maxHeartbeats 2000000 in
theorem zC {M:aL} {w0:World} {bc:Nat} {l:List Po} {i to:Int} (h:Cu 216 l i M w0 bc) (hM:Lt M w0) (hm:ej (-1) l=true) (ox:∀p∈l,p.2.length≤1099511627776) (xk:(dA (-1) l).length≤1099511627776) (Gf:l.length≤1099511627776) (Sb: -9223372036854775808≤to∧to≤9223372036854775807):
  Spec Tryz.prog 141 #[.pointer (some ⟨bc,0,none⟩),.int .i64 to] w0 (fun v' w'=>v'= .int .i64 (gv l (sr l i to))∧Step M w0 M w' (fun b=>b=bc)∧Cu 216 l (sr l i to) M w' bc):=by
 obtain⟨p,u,k,ES,Q2,hb,hp,hu,hi,hk,Sx,rJ⟩:=id h;have JA:(ir l).2.1.length=(l.length+7)/8:=by simp[ir,kR]
 have zP:∀b:Nat,b=bc→M b:=fun b hb=>by rw[hb];exact Q2
 have NQ:=xX hm i;refine bu (args:=[_,_]) (fn:=Tryz.f141) Tryz.func141 rfl (n:=107) Tryz.ntmps141 (al (aj ?_));refine tO M rfl rfl (fun bt w1 ht ht' hT s1=>?_);change w1.heap[bt]? =some (.cells #[.int .i64 to] _ _)at hT;have Lh:bt≠bc:=by have:=an hb;omega
 have zS:=s1.aM hb;generalize aj9:ins M bt=M1 at s1;have mI:=s1.lt hM;have JE:=hp.le (by decide) s1.le;have kq:=hu.le s1.le;have xD:=(s1.mem bc (an hb)).2 Q2;have hcM:∀b:Nat,b=bc→M1 b:=fun b h=>by rw[h];exact xD
 refine ak rfl rfl (ae (al (al ?_)));apply T.draw (M:=M1) mixed [bW.eq _,bW.eq _,bW.eq _,bW.eq _,bW.eq _,bW.eq _]
 ·rfl
 ·refine aH ?_ ?_
  ·intro wD E sD;refine aX az rfl rfl rfl (cC sD (by assumption)) rfl ?_;exact ae ⟨rfl,rfl,_,rfl,rfl,ar _ _⟩
  refine aH ?_ ?_
  ·intro wD E sD;refine ah rfl rfl ?_;exact ae ⟨rfl,rfl,_,rfl,rfl,ar _ _⟩
  refine aH ?_ ?_
  ·intro wD E sD;refine aA (bm rfl ⟨_,rfl⟩ rfl ?_);exact ae ⟨rfl,rfl,_,rfl,rfl,ar _ _⟩
  refine aH ?_ ?_
  ·intro wD E sD;refine aA (bz bU rfl rfl I3 (by decide) rfl rfl ?_);exact ae ⟨rfl,rfl,_,rfl,rfl,ar _ _⟩
  refine aH ?_ ?_
  ·intro wD E sD;refine aA (aX az rfl rfl rfl (cC sD (by assumption)) rfl ?_);exact ae ⟨rfl,rfl,_,rfl,rfl,ar _ _⟩
  refine aH ?_ ?_
  ·intro wD E sD;refine aA (aA (fq rfl rfl rfl ?_));exact ae ⟨rfl,rfl,_,rfl,rfl,ar _ _⟩
  exact rO
 ·intro zU kz;refine aA (aA (aA (aA (aA (aA ?_)))));have Jz:=kz.aM zS;refine bQ rfl (fun c1=>?_) (fun c1=>?_)
  ·refine al (aj (ah rfl rfl (bm rfl ⟨_,rfl⟩ rfl (bz bU rfl rfl I3 (by decide) rfl rfl (aX az rfl rfl rfl (by assumption) rfl (ak rfl rfl (ae (aQ ?_))))))));have he:sr l i to=i:=by unfold sr;rw[if_pos c1]
   rw[he];have S:=s1.aB kz;exact aV rfl rfl ⟨rfl,S.back.cw (fun _ h=>h.elim) zP,h.step S.back (fun h=>h)⟩
  ·refine aZ (al (aj (ah rfl rfl (bm rfl ⟨_,rfl⟩ rfl (bz bU rfl rfl I3 (by decide) rfl rfl (aX az rfl rfl rfl (by assumption) rfl (Rg.max2 rfl rfl rfl (ak rfl rfl (ae (al (bh ?_)))))))))));refine dz (σ:=Nat) (fun s=>[(0,.pointer (some ⟨bc,0,none⟩)),(3,.pointer (some ⟨bt,0,none⟩)),(5,.int .i64 s)]) (fun s w=>s≤(l.length+7)/8∧cy (-1) (l.take (8*s))<to∧Step M1 w1 M1 w aE) (fun s=>(l.length+7)/8-s) (max k 0).toNat (.cons rfl (.cons rfl (.cons (by rw[show(((max k 0).toNat:Nat):Int)=max k 0 from by omega];rfl) .nil))) ?_ ?_
   ·exact⟨by omega,ER hm hi hk Sx rJ (by omega),kz⟩
   ·rintro n w4 ⟨hn,EP,S4⟩;have K8:=S4.aM zS;have Q3:=S4.aM hT;have zX:=JE.le (by decide) S4.le;refine al (al ?_);by_cases UR:(n:Int)<(((l.length+7)/8:Nat):Int)
    ·apply T.draw (M:=M1) mixed [bW.eq _,bW.eq _,bW.eq _,bW.eq _,bW.eq _,bW.eq _,bW.eq _,bW.eq (.bool true),bW.eq _,bW.eq _,bW.eq _,bW.eq _,bW.eq _,bW.eq _,bW.eq _,bW.eq _,bW.eq _]
     ·rfl
     ·refine aH ?_ ?_
      ·intro wD E sD;refine ah rfl rfl ?_;exact ae ⟨rfl,rfl,_,rfl,rfl,ar _ _⟩
      refine aH ?_ ?_
      ·intro wD E sD;refine ah rfl rfl ?_;exact ae ⟨rfl,rfl,_,rfl,rfl,ar _ _⟩
      refine aH ?_ ?_
      ·intro wD E sD;refine aA (bm rfl ⟨_,rfl⟩ rfl ?_);exact ae ⟨rfl,rfl,_,rfl,rfl,ar _ _⟩
      refine aH ?_ ?_
      ·intro wD E sD;refine aA (bz bU rfl rfl pH (by decide) rfl rfl ?_);exact ae ⟨rfl,rfl,_,rfl,rfl,ar _ _⟩
      refine aH ?_ ?_
      ·intro wD E sD;refine aA (aX cO rfl rfl rfl (cC sD (by assumption)) rfl ?_);exact ae ⟨rfl,rfl,_,rfl,rfl,ar _ _⟩
      refine aH ?_ ?_
      ·intro wD E sD;refine aA ?_;refine aP rfl rfl Lr (l5 (M:=M1) (zX.le (by decide) sD.le)) (fun r wc h=>?_);obtain⟨rfl,rfl⟩:=h;exact ae ⟨rfl,rfl,_,rfl,congrArg (fun n:Nat=>Value.int .i64 n) JA,ar _ _⟩
      refine aH ?_ ?_
      ·intro wD E sD;refine aA (aA (cz rfl rfl rfl ?_));exact ae ⟨rfl,rfl,_,rfl,rfl,ar _ _⟩
      refine aH ?_ ?_
      ·intro wD E sD;refine aA (aA (ah rfl rfl ?_));refine ae ⟨rfl,rfl,_,rfl,?_,ar _ _⟩;exact congrArg Value.bool (decide_eq_true UR)
      refine aH ?_ ?_
      ·intro wD E sD;refine aA (aq rfl rfl (ah rfl rfl ?_));exact ae ⟨rfl,rfl,_,rfl,rfl,ar _ _⟩
      refine aH ?_ ?_
      ·intro wD E sD;refine aA (aA (aq rfl rfl (bm rfl ⟨_,rfl⟩ rfl ?_)));exact ae ⟨rfl,rfl,_,rfl,rfl,ar _ _⟩
      refine aH ?_ ?_
      ·intro wD E sD;refine aA (aA (aq rfl rfl (bz bU rfl rfl pH (by decide) rfl rfl ?_)));exact ae ⟨rfl,rfl,_,rfl,rfl,ar _ _⟩
      refine aH ?_ ?_
      ·intro wD E sD;refine aA (aA (aq rfl rfl (aX cO rfl rfl rfl (cC sD (by assumption)) rfl ?_)));exact ae ⟨rfl,rfl,_,rfl,rfl,ar _ _⟩
      refine aH ?_ ?_
      ·intro wD E sD;refine aA (aq rfl rfl (ah rfl rfl ?_));exact ae ⟨rfl,rfl,_,rfl,rfl,ar _ _⟩
      refine aH ?_ ?_
      ·intro wD E sD;refine aA (aA (aA (aA (aq rfl rfl ?_))));refine aP rfl rfl abW (EN (k:=n) (zX.le (by decide) sD.le)) (fun r wc h=>?_);obtain⟨rfl,rfl⟩:=h;exact ae ⟨rfl,rfl,_,rfl,rfl,ar _ _⟩
      refine aH ?_ ?_
      ·intro wD E sD;refine aA (aq rfl rfl (aX az rfl rfl rfl (cC sD (by assumption)) rfl ?_));exact ae ⟨rfl,rfl,_,rfl,rfl,ar _ _⟩
      refine aH ?_ ?_
      ·intro wD E sD;refine aA (aA (aA (aq rfl rfl (cz rfl rfl rfl ?_))));exact ae ⟨rfl,rfl,_,rfl,rfl,ar _ _⟩
      refine aH ?_ ?_
      ·intro wD E sD;refine aA (aA (aW rfl rfl rfl ?_));exact ae ⟨rfl,rfl,_,rfl,rfl,ar _ _⟩
      exact rO
     ·intro Gw lv;refine aA (aA (aA (aA (aA (aA (aA (aA (aA (aA (aA (aA ?_)))))))))));refine aA (aA (aA (aA (aA ?_))));replace S4:=S4.aB lv;replace K8:=lv.aM K8;replace Q3:=lv.aM Q3;replace zX:=zX.le (by decide) lv.le;have Uq:=S4.lt mI;refine bQ rfl (fun c4=>?_) (fun c4=>?_)
      ·refine aZ (bh (aj (ah rfl rfl (bI rfl rfl rfl (by omega) (ak rfl rfl (ae ?_))))));refine⟨rfl,n+1,(.cons rfl (.cons rfl (.cons rfl .nil))),?_,?_⟩
       ·have ti:=As (g:=l) (k:=n) (by omega);refine⟨by omega,?_,S4⟩;rw[show 8*(n+1)=8*n+8 from by omega,←ti];exact c4
       ·show _-(n+1)<_-n;omega
      ·refine cY (al (al (aj (ah rfl rfl (ah rfl rfl (bm rfl ⟨_,rfl⟩ rfl (bz bU rfl rfl pH (by decide) rfl rfl (aX cO rfl rfl rfl (by assumption) rfl ?_))))))));refine aP rfl rfl Lr (l5 (M:=M1) zX) (fun r wc h=>?_);obtain⟨rfl,rfl⟩:=h;refine bO (v':= .int .i64 (((l.length+7)/8:Nat):Int)) (congrArg (fun n:Nat=>Value.int .i64 n) JA) (mB rfl rfl rfl (ae ?_));refine bQ rfl (fun c6=>?_) (fun c6=>?_)
       ·exfalso;omega
       ·have hnk:n<(l.length+7)/8:=by omega
        have Cq:to≤cy (-1) (l.take (8*n+8)):=by
         first
         |(exfalso;omega)
         |(have:=As (g:=l) (k:=n) (by omega);omega)
        refine aZ (al (al (aj (ah rfl rfl (ah rfl rfl (bm rfl ⟨_,rfl⟩ rfl (bz bU rfl rfl I3 (by decide) rfl rfl (aX az rfl rfl rfl (by assumption) rfl (eS rfl rfl rfl (ae ?_))))))))));refine bQ rfl (fun c9=>?_) (fun c9=>?_)
        ·refine al (aj (ah rfl rfl (ah rfl rfl (ah rfl rfl (ah rfl rfl (bm rfl ⟨_,rfl⟩ rfl (bz bU rfl rfl pH (by decide) rfl rfl (aX cO rfl rfl rfl (by assumption) rfl (ah rfl rfl ?_)))))))));refine aP rfl rfl PJ (uV (M:=M1) (k:=n) Uq zX hm ox xk) (fun QQ Zn h=>?_);obtain⟨rj,Fp⟩:=h;rw[if_pos (by unfold FQ;simp;omega),aC]at Fp;have abX:=rj.aM K8;refine bm rfl ⟨_,rfl⟩ rfl (bz bU rfl rfl I3 (by decide) rfl rfl ?_);refine ck (M:=M1) I3 rfl rfl abX rfl rfl xD (fun WV US rM=>?_);change WV.heap[bc]? =some (.cells #[p,.int .i64 n,u,.int .i64 (gv l i),.int .i64 ES] 216 (0,0))at US;refine bm rfl ⟨_,rfl⟩ rfl (bz bU rfl rfl gz (by decide) rfl rfl ?_);refine ck (M:=M1) gz rfl rfl US rfl (jq Fp rfl rfl) xD (fun QN Ls vE=>?_);change QN.heap[bc]? =some (.cells #[p,.int .i64 n,QQ,.int .i64 (gv l i),.int .i64 ES] 216 (0,0))at Ls;refine ae (aj (ah rfl rfl (bm rfl ⟨_,rfl⟩ rfl (bz bU rfl rfl I3 (by decide) rfl rfl (aX az rfl rfl rfl (by assumption) rfl (Rg.yD rfl rfl rfl (bm rfl ⟨_,rfl⟩ rfl (bz bU rfl rfl I3 (by decide) rfl rfl ?_))))))));refine ck (M:=M1) I3 rfl rfl Ls rfl rfl xD (fun T6 PS xA=>?_);change T6.heap[bc]? =some (.cells #[p,.int .i64 n,QQ,.int .i64 (gv l i),.int .i64 (IntKind.i64.wrap (ES+1))] 216 (0,0))at PS;obtain⟨lf,uX,cX,s,wX,hwX,hbX,UT,N9,F9,Cc,UU,hs4,hpX,hTX,SX⟩:∃lf uX cX s wX,wX=T6∧wX.heap[bc]? =some (.cells #[p,.int .i64 n,uX,.int .i64 (gv l i),.int .i64 cX] 216 (0,0))∧((RT.po).sl).V M1 wX lf uX∧lf=(l.drop s).take (8*n+8-s)∧8*n≤s∧s<8*n+8∧s<l.length∧cy (-1) (l.take s)<to∧cc RT.li M1 wX p (ir l)∧wX.heap[bt]? =some (.cells #[.int .i64 to] 3 (0,0))∧Step M1 w1 M1 wX (fun b=>b=bc):=⟨_,QQ,_,8*n,T6,rfl,PS,((Fp.le rM.le).le vE.le).le xA.le,by rw[show 8*n+8-8*n=8 from by omega],by omega,by omega,by omega,EP,(((zX.le (by decide) rj.le).le (by decide) rM.le).le (by decide) vE.le).le (by decide) xA.le,xA.bS (vE.bS (rM.bS (rj.aM Q3) Lh) Lh) Lh,((((S4.cw (fun _ h=>h.elim) hcM).aB rj).trans rM (fun _ _ h=>h)).trans vE (fun _ _ h=>h)).trans xA (fun _ _ h=>h)⟩
         subst hwX;clear PS;refine ae (al ?_);obtain⟨XA,QA,ha3,ha4,ha5⟩:=xZ hm F9 Cc UU hs4 Cq N9;have hMX:=SX.lt mI;obtain⟨⟨d,ps⟩,hx⟩:∃x,l[idx l to]? =some x:=⟨_,av ha3⟩;have hh:=tK hx;have hhl:=(aw.1 hh).1;apply T.Gh (M:=M1) mixed [] [bW.eq _,bW.eq _,bW.eq _,bW.eq _,bW.eq uX,bW.eq _,bW.eq _,bW.eq _,bW.eq uX,bW.eq _,bW.eq _,bW.V ((RT.po).sl) (kE l (idx l to:Nat))] 12
         ·rfl
         ·rfl
         ·rfl
         ·rfl
         ·rfl
         ·exact fun p hp=>by cases hp
         ·exact uj.none
         ·refine aY ?_ ?_
          ·intro wD E sD;refine ah rfl rfl ?_;exact ae ⟨rfl,rfl,_,rfl,rfl,ar _ _⟩
          refine aY ?_ ?_
          ·intro wD E sD;refine ah rfl rfl ?_;exact ae ⟨rfl,rfl,_,rfl,rfl,ar _ _⟩
          refine aY ?_ ?_
          ·intro wD E sD;refine aA (bm rfl ⟨_,rfl⟩ rfl ?_);exact ae ⟨rfl,rfl,_,rfl,rfl,ar _ _⟩
          refine aY ?_ ?_
          ·intro wD E sD;refine aA (bz bU rfl rfl gz (by decide) rfl rfl ?_);exact ae ⟨rfl,rfl,_,rfl,rfl,ar _ _⟩
          refine aY ?_ ?_
          ·intro wD E sD;refine aA (aX aK rfl rfl rfl (cC sD (by assumption)) rfl ?_);exact ae ⟨rfl,rfl,_,rfl,rfl,ar _ _⟩
          refine aY ?_ ?_
          ·intro wD E sD;refine ah rfl rfl ?_;exact ae ⟨rfl,rfl,_,rfl,rfl,ar _ _⟩
          refine aY ?_ ?_
          ·intro wD E sD;refine aA (bm rfl ⟨_,rfl⟩ rfl ?_);exact ae ⟨rfl,rfl,_,rfl,rfl,ar _ _⟩
          refine aY ?_ ?_
          ·intro wD E sD;refine aA (bz bU rfl rfl gz (by decide) rfl rfl ?_);exact ae ⟨rfl,rfl,_,rfl,rfl,ar _ _⟩
          refine aY ?_ ?_
          ·intro wD E sD;refine aA (aX aK rfl rfl rfl (cC sD (by assumption)) rfl ?_);exact ae ⟨rfl,rfl,_,rfl,rfl,ar _ _⟩
          refine aY ?_ ?_
          ·intro wD E sD;refine jF (xs:=[]) (ys:=[.tmp 3]) rfl rfl rfl ?_;exact ae ⟨rfl,rfl,_,rfl,rfl,ar _ _⟩
          refine aY ?_ ?_
          ·intro wD E sD;refine aA (aA ?_);refine aP rfl rfl UQ (rC (M:=M1) (sD.lt hMX) (UT.le sD.le) (sD.aM hTX)) (fun r wi h=>?_);obtain⟨rfl,s⟩:=h;refine bO (v':= .int .i64 ((idx lf to:Nat):Int)) (by rw[if_pos QA]) ?_;exact ae ⟨rfl,rfl,_,rfl,rfl,s⟩
          refine aY ?_ ?_
          ·intro wD E sD;refine aA (aA ?_);refine Rg.nf (A:=RT.po) (hn:=by decide) aK fv rfl rfl rfl (UT.le sD.le) (by omega) (fun u hu=>?_);rw[aC,ha5]at hu;exact ae ⟨rfl,rfl,_,rfl,hu,ar _ _⟩
          exact cf.nil
         ·intro IA wg;refine aA (aA (aA (aA (aA (aA (aA (aA (aA (aA (aA ?_))))))))));intro nK zD;have PT:=wg.aM hbX;have lz:((RT.po).sl).V M1 IA (kE l (idx l to:Nat)) nK:=zD;have S14:=SX.aB wg;refine bm rfl ⟨_,rfl⟩ rfl (bz bU rfl rfl gz (by decide) rfl rfl ?_);refine ck (M:=M1) gz rfl rfl PT rfl (jq lz rfl rfl) xD (fun Ts I6 zi=>?_);change Ts.heap[bc]? =some (.cells #[p,.int .i64 n,nK,.int .i64 (gv l i),.int .i64 cX] 216 (0,0))at I6;replace lz:=lz.le zi.le;refine ae (al (aj (ah rfl rfl (ah rfl rfl (bm rfl ⟨_,rfl⟩ rfl (bz bU rfl rfl gz (by decide) rfl rfl (aX aK rfl rfl rfl (by assumption) rfl ?_)))))));refine cu (M:=M1) aK fv rfl rfl rfl (lz) (ao _ _) (by first|omega|decide) (fun UW I7 Dl PU=>?_);obtain rfl:(d,ps)=I7:=dL (aN (Dl.symm.trans (by simpa using hh)));refine ay (M:=M1) (A:=RT.po) (B:=RT.int .i64) bA rfl rfl I3 (by decide) (Ao) rfl rfl (by decide) (by assumption) (by repeat (first|exact ao _ _|refine aU (br (by assumption)) ?_)) (fun Mk Hu=>?_);refine cr (M:=M1) az rfl rfl (by assumption) (by repeat (first|exact ao _ _|refine aU (br (by assumption)) ?_)) (fun wy=>?_);refine bO (v':= .int .i64 (d)) rfl ?_;replace wy: -9223372036854775808≤(d:Int)∧d≤9223372036854775807:=wy;refine bm rfl ⟨_,rfl⟩ rfl (bz bU rfl rfl I3 (by decide) rfl rfl ?_);refine ck (M:=M1) I3 rfl rfl I6 rfl rfl xD (fun MJ I8 C6=>?_);change MJ.heap[bc]? =some (.cells #[p,.int .i64 n,nK,.int .i64 d,.int .i64 cX] 216 (0,0))at I8;replace lz:=lz.le C6.le;refine ae (al (aj (ah rfl rfl (bm rfl ⟨_,rfl⟩ rfl (bz bU rfl rfl I3 (by decide) rfl rfl (aX az rfl rfl rfl (by assumption) rfl (ak rfl rfl (ae (aQ ?_)))))))))
          have he:sr l i to=(idx l to:Int):=by unfold sr;rw[if_neg c1]
          rw[he];have S7:=((s1.cw (fun _ h=>h.elim) zP).trans ((S14.trans zi (fun _ _ h=>h)).trans C6 (fun _ _ h=>h)) (fun _ _ h=>h));exact aV rfl rfl ⟨by rw[j1 hx];rfl,S7.back,p,nK,n,cX,Q2,by rw[j1 hx];exact I8,(hp.le (by decide) S7.back.le),lz.le (pD hM S7),by omega,by omega,fun h=>by omega,fun _ h=>by omega⟩
        ·have akd:=(jf l (-1) hm (by decide) (8*n+8)).2
         obtain⟨Wu,wZ⟩:0≤i∧i<l.length:=by
          rcases l7 l i with⟨h0,_⟩|⟨j,d,ps,rfl,hx,_⟩|⟨h0,h1,_⟩
          ·have:=Sx h0;omega
          ·have:=(aw.1 hx).1;omega
          ·omega
         have J8:=rJ Wu wZ;obtain⟨j,iy⟩:∃j:Nat,i=j:=⟨i.toNat,by omega⟩;obtain⟨⟨dj,pj⟩,hxj⟩:∃x,l[j]? =some x:=⟨_,av (by omega)⟩;have hdj:=j1 hxj;rw[←iy]at hdj;have Qz:=(mn hm hxj).1;obtain rfl:(n:Int)=k:=by omega
         have hY:=kq.le S4.le;obtain⟨lf,uX,cX,s,wX,hwX,hbX,UT,N9,F9,Cc,UU,hs4,hpX,hTX,SX⟩:∃lf uX cX s wX,wX=_∧wX.heap[bc]? =some (.cells #[p,.int .i64 n,uX,.int .i64 (gv l i),.int .i64 cX] 216 (0,0))∧((RT.po).sl).V M1 wX lf uX∧lf=(l.drop s).take (8*n+8-s)∧8*n≤s∧s<8*n+8∧s<l.length∧cy (-1) (l.take s)<to∧cc RT.li M1 wX p (ir l)∧wX.heap[bt]? =some (.cells #[.int .i64 to] 3 (0,0))∧Step M1 w1 M1 wX (fun b=>b=bc):=⟨_,u,ES,j,_,rfl,K8,hY,by rw[iy];unfold kE;rw[if_neg (by omega),aC,show 8*n+8-j=8-j%8 from by omega],by omega,by omega,by omega,by omega,zX,Q3,S4.cw (fun _ h=>h.elim) hcM⟩;subst hwX;clear K8;refine aZ (al ?_);obtain⟨XA,QA,ha3,ha4,ha5⟩:=xZ hm F9 Cc UU hs4 Cq N9;have hMX:=SX.lt mI;obtain⟨⟨d,ps⟩,hx⟩:∃x,l[idx l to]? =some x:=⟨_,av ha3⟩;have hh:=tK hx;have hhl:=(aw.1 hh).1;apply T.Gh (M:=M1) mixed [] [bW.eq _,bW.eq _,bW.eq _,bW.eq _,bW.eq uX,bW.eq _,bW.eq _,bW.eq _,bW.eq uX,bW.eq _,bW.eq _,bW.V ((RT.po).sl) (kE l (idx l to:Nat))] 12
         ·rfl
         ·rfl
         ·rfl
         ·rfl
         ·rfl
         ·exact fun p hp=>by cases hp
         ·exact uj.none
         ·refine aY ?_ ?_
          ·intro wD E sD;refine ah rfl rfl ?_;exact ae ⟨rfl,rfl,_,rfl,rfl,ar _ _⟩
          refine aY ?_ ?_
          ·intro wD E sD;refine ah rfl rfl ?_;exact ae ⟨rfl,rfl,_,rfl,rfl,ar _ _⟩
          refine aY ?_ ?_
          ·intro wD E sD;refine aA (bm rfl ⟨_,rfl⟩ rfl ?_);exact ae ⟨rfl,rfl,_,rfl,rfl,ar _ _⟩
          refine aY ?_ ?_
          ·intro wD E sD;refine aA (bz bU rfl rfl gz (by decide) rfl rfl ?_);exact ae ⟨rfl,rfl,_,rfl,rfl,ar _ _⟩
          refine aY ?_ ?_
          ·intro wD E sD;refine aA (aX aK rfl rfl rfl (cC sD (by assumption)) rfl ?_);exact ae ⟨rfl,rfl,_,rfl,rfl,ar _ _⟩
          refine aY ?_ ?_
          ·intro wD E sD;refine ah rfl rfl ?_;exact ae ⟨rfl,rfl,_,rfl,rfl,ar _ _⟩
          refine aY ?_ ?_
          ·intro wD E sD;refine aA (bm rfl ⟨_,rfl⟩ rfl ?_);exact ae ⟨rfl,rfl,_,rfl,rfl,ar _ _⟩
          refine aY ?_ ?_
          ·intro wD E sD;refine aA (bz bU rfl rfl gz (by decide) rfl rfl ?_);exact ae ⟨rfl,rfl,_,rfl,rfl,ar _ _⟩
          refine aY ?_ ?_
          ·intro wD E sD;refine aA (aX aK rfl rfl rfl (cC sD (by assumption)) rfl ?_);exact ae ⟨rfl,rfl,_,rfl,rfl,ar _ _⟩
          refine aY ?_ ?_
          ·intro wD E sD;refine jF (xs:=[]) (ys:=[.tmp 3]) rfl rfl rfl ?_;exact ae ⟨rfl,rfl,_,rfl,rfl,ar _ _⟩
          refine aY ?_ ?_
          ·intro wD E sD;refine aA (aA ?_);refine aP rfl rfl UQ (rC (M:=M1) (sD.lt hMX) (UT.le sD.le) (sD.aM hTX)) (fun r wi h=>?_);obtain⟨rfl,s⟩:=h;refine bO (v':= .int .i64 ((idx lf to:Nat):Int)) (by rw[if_pos QA]) ?_;exact ae ⟨rfl,rfl,_,rfl,rfl,s⟩
          refine aY ?_ ?_
          ·intro wD E sD;refine aA (aA ?_);refine Rg.nf (A:=RT.po) (hn:=by decide) aK fv rfl rfl rfl (UT.le sD.le) (by omega) (fun u hu=>?_);rw[aC,ha5]at hu;exact ae ⟨rfl,rfl,_,rfl,hu,ar _ _⟩
          exact cf.nil
         ·intro IA wg;refine aA (aA (aA (aA (aA (aA (aA (aA (aA (aA (aA ?_))))))))));intro nK zD;have PT:=wg.aM hbX;have lz:((RT.po).sl).V M1 IA (kE l (idx l to:Nat)) nK:=zD;have S14:=SX.aB wg;refine bm rfl ⟨_,rfl⟩ rfl (bz bU rfl rfl gz (by decide) rfl rfl ?_);refine ck (M:=M1) gz rfl rfl PT rfl (jq lz rfl rfl) xD (fun Ts I6 zi=>?_);change Ts.heap[bc]? =some (.cells #[p,.int .i64 n,nK,.int .i64 (gv l i),.int .i64 cX] 216 (0,0))at I6;replace lz:=lz.le zi.le;refine ae (al (aj (ah rfl rfl (ah rfl rfl (bm rfl ⟨_,rfl⟩ rfl (bz bU rfl rfl gz (by decide) rfl rfl (aX aK rfl rfl rfl (by assumption) rfl ?_)))))));refine cu (M:=M1) aK fv rfl rfl rfl (lz) (ao _ _) (by first|omega|decide) (fun UW I7 Dl PU=>?_);obtain rfl:(d,ps)=I7:=dL (aN (Dl.symm.trans (by simpa using hh)));refine ay (M:=M1) (A:=RT.po) (B:=RT.int .i64) bA rfl rfl I3 (by decide) (Ao) rfl rfl (by decide) (by assumption) (by repeat (first|exact ao _ _|refine aU (br (by assumption)) ?_)) (fun Mk Hu=>?_);refine cr (M:=M1) az rfl rfl (by assumption) (by repeat (first|exact ao _ _|refine aU (br (by assumption)) ?_)) (fun wy=>?_);refine bO (v':= .int .i64 (d)) rfl ?_;replace wy: -9223372036854775808≤(d:Int)∧d≤9223372036854775807:=wy;refine bm rfl ⟨_,rfl⟩ rfl (bz bU rfl rfl I3 (by decide) rfl rfl ?_);refine ck (M:=M1) I3 rfl rfl I6 rfl rfl xD (fun MJ I8 C6=>?_);change MJ.heap[bc]? =some (.cells #[p,.int .i64 n,nK,.int .i64 d,.int .i64 cX] 216 (0,0))at I8;replace lz:=lz.le C6.le;refine ae (al (aj (ah rfl rfl (bm rfl ⟨_,rfl⟩ rfl (bz bU rfl rfl I3 (by decide) rfl rfl (aX az rfl rfl rfl (by assumption) rfl (ak rfl rfl (ae (aQ ?_)))))))))
          have he:sr l i to=(idx l to:Int):=by unfold sr;rw[if_neg c1]
          rw[he];have S7:=((s1.cw (fun _ h=>h.elim) zP).trans ((S14.trans zi (fun _ _ h=>h)).trans C6 (fun _ _ h=>h)) (fun _ _ h=>h));exact aV rfl rfl ⟨by rw[j1 hx];rfl,S7.back,p,nK,n,cX,Q2,by rw[j1 hx];exact I8,(hp.le (by decide) S7.back.le),lz.le (pD hM S7),by omega,by omega,fun h=>by omega,fun _ h=>by omega⟩
    ·apply T.draw (M:=M1) mixed [bW.eq _,bW.eq _,bW.eq _,bW.eq _,bW.eq _,bW.eq _,bW.eq _,bW.eq (.bool false),bW.eq undef,bW.eq undef,bW.eq undef,bW.eq undef,bW.eq undef,bW.eq undef,bW.eq undef,bW.eq undef,bW.eq _]
     ·rfl
     ·refine aH ?_ ?_
      ·intro wD E sD;refine ah rfl rfl ?_;exact ae ⟨rfl,rfl,_,rfl,rfl,ar _ _⟩
      refine aH ?_ ?_
      ·intro wD E sD;refine ah rfl rfl ?_;exact ae ⟨rfl,rfl,_,rfl,rfl,ar _ _⟩
      refine aH ?_ ?_
      ·intro wD E sD;refine aA (bm rfl ⟨_,rfl⟩ rfl ?_);exact ae ⟨rfl,rfl,_,rfl,rfl,ar _ _⟩
      refine aH ?_ ?_
      ·intro wD E sD;refine aA (bz bU rfl rfl pH (by decide) rfl rfl ?_);exact ae ⟨rfl,rfl,_,rfl,rfl,ar _ _⟩
      refine aH ?_ ?_
      ·intro wD E sD;refine aA (aX cO rfl rfl rfl (cC sD (by assumption)) rfl ?_);exact ae ⟨rfl,rfl,_,rfl,rfl,ar _ _⟩
      refine aH ?_ ?_
      ·intro wD E sD;refine aA ?_;refine aP rfl rfl Lr (l5 (M:=M1) (zX.le (by decide) sD.le)) (fun r wc h=>?_);obtain⟨rfl,rfl⟩:=h;exact ae ⟨rfl,rfl,_,rfl,congrArg (fun n:Nat=>Value.int .i64 n) JA,ar _ _⟩
      refine aH ?_ ?_
      ·intro wD E sD;refine aA (aA (cz rfl rfl rfl ?_));exact ae ⟨rfl,rfl,_,rfl,rfl,ar _ _⟩
      refine aH ?_ ?_
      ·intro wD E sD;refine aA (aA (ah rfl rfl ?_));refine ae ⟨rfl,rfl,_,rfl,?_,ar _ _⟩;exact congrArg Value.bool (decide_eq_false UR)
      refine aH ?_ ?_
      ·intro wD E sD;refine aA ?_;exact au rfl rfl rfl rfl (ae ⟨rfl,rfl,_,rfl,rfl,ar _ _⟩)
      refine aH ?_ ?_
      ·intro wD E sD;refine aA (aA ?_);exact au rfl rfl rfl rfl (ae ⟨rfl,rfl,_,rfl,rfl,ar _ _⟩)
      refine aH ?_ ?_
      ·intro wD E sD;refine aA (aA ?_);exact au rfl rfl rfl rfl (ae ⟨rfl,rfl,_,rfl,rfl,ar _ _⟩)
      refine aH ?_ ?_
      ·intro wD E sD;refine aA (aA ?_);exact au rfl rfl rfl rfl (ae ⟨rfl,rfl,_,rfl,rfl,ar _ _⟩)
      refine aH ?_ ?_
      ·intro wD E sD;refine aA ?_;exact au rfl rfl rfl rfl (ae ⟨rfl,rfl,_,rfl,rfl,ar _ _⟩)
      refine aH ?_ ?_
      ·intro wD E sD;refine aA (aA (aA (aA ?_)));exact au rfl rfl rfl rfl (ae ⟨rfl,rfl,_,rfl,rfl,ar _ _⟩)
      refine aH ?_ ?_
      ·intro wD E sD;refine aA ?_;exact au rfl rfl rfl rfl (ae ⟨rfl,rfl,_,rfl,rfl,ar _ _⟩)
      refine aH ?_ ?_
      ·intro wD E sD;refine aA (aA (aA ?_));exact au rfl rfl rfl rfl (ae ⟨rfl,rfl,_,rfl,rfl,ar _ _⟩)
      refine aH ?_ ?_
      ·intro wD E sD;refine aA (aA (aJ rfl rfl rfl ?_));exact ae ⟨rfl,rfl,_,rfl,rfl,ar _ _⟩
      exact rO
     ·intro Gw lv;refine aA (aA (aA (aA (aA (aA (aA (aA (aA (aA (aA (aA ?_)))))))))));refine aA (aA (aA (aA (aA ?_))));replace S4:=S4.aB lv;replace K8:=lv.aM K8;replace Q3:=lv.aM Q3;replace zX:=zX.le (by decide) lv.le;have Uq:=S4.lt mI;refine iY rfl (cY (al (al (aj (ah rfl rfl (ah rfl rfl (bm rfl ⟨_,rfl⟩ rfl (bz bU rfl rfl pH (by decide) rfl rfl (aX cO rfl rfl rfl (by assumption) rfl ?_)))))))));refine aP rfl rfl Lr (l5 (M:=M1) zX) (fun r wc h=>?_);obtain⟨rfl,rfl⟩:=h;refine bO (v':= .int .i64 (((l.length+7)/8:Nat):Int)) (congrArg (fun n:Nat=>Value.int .i64 n) JA) (mB rfl rfl rfl (ae ?_));refine bQ rfl (fun c6=>?_) (fun c6=>?_)
      ·refine al (aj (ah rfl rfl (ah rfl rfl (bm rfl ⟨_,rfl⟩ rfl (bz bU rfl rfl gz (by decide) rfl rfl ?_)))));refine ck (M:=M1) gz rfl rfl K8 rfl rfl xD (fun w7 hb7 s7=>?_);change w7.heap[bc]? =some (.cells #[p,.int .i64 k,.slice none 0 0,.int .i64 (gv l i),.int .i64 ES] 216 (0,0))at hb7;refine bm rfl ⟨_,rfl⟩ rfl (bz bU rfl rfl I3 (by decide) rfl rfl ?_);refine ck (M:=M1) I3 rfl rfl hb7 rfl rfl xD (fun w8 hb8 s8=>?_);change w8.heap[bc]? =some (.cells #[p,.int .i64 k,.slice none 0 0,.int .i64 2147483648,.int .i64 ES] 216 (0,0))at hb8;refine ae (al (aj (ak rfl rfl (ae (aQ ?_)))));have he:sr l i to=(l.length:Int):=by unfold sr;rw[if_neg c1,Ki hm (n:=8*n) (by omega) EP]
       rw[he];have S7:=((s1.aB S4).cw (fun _ h=>h.elim) zP).trans ((s7.trans s8 (fun _ _ h=>h))) (fun _ _ h=>h);exact aV rfl rfl ⟨by rw[pq (Int.le_refl _)],S7.back,p,.slice none 0 0,k,ES,Q2,by rw[pq (Int.le_refl _)];exact hb8,(hp.le (by decide) S7.back.le),by rw[Dk (Int.le_refl _)];exact iO,by omega,hk,fun h=>by omega,fun _ h=>by omega⟩
      ·exfalso;omega
theorem yt {M:aL} {w0:World} {bc:Nat} {l:List Po} {i:Int} (h:Cu 216 l i M w0 bc) (hM:Lt M w0) (hm:ej (-1) l=true) (ox:∀p∈l,p.2.length≤1099511627776) (xk:(dA (-1) l).length≤1099511627776) (Gf:l.length≤1099511627776):
  Spec Tryz.prog 96 #[.pointer (some ⟨bc,0,none⟩)] w0 (fun v' w'=>v'= .int .i64 (gv l (rB l i))∧Step M w0 M w' (fun b=>b=bc)∧Cu 216 l (rB l i) M w' bc):=by
 obtain⟨p,u,k,ES,Q2,hb,hp,hu,hi,hk,Sx,rJ⟩:=id h;have NQ:=xX hm i;refine bu (args:=[_]) (fn:=Tryz.f96) Tryz.func96 rfl (n:=11) Tryz.ntmps96 (al (aj (ak rfl rfl (ae (al (aj (ah rfl rfl (ah rfl rfl (bm rfl ⟨_,rfl⟩ rfl (bz bU rfl rfl I3 (by decide) rfl rfl (aX az rfl rfl rfl (by assumption) rfl ?_)))))))))));refine bI rfl rfl rfl (by omega) (Rg.min2 rfl rfl rfl ?_);have hn:sr l i (min (gv l i+1) 2147483648)=rB l i:=I4 hm hi;refine aP rfl rfl abV (zC (to:=min (gv l i+1) 2147483648) h hM hm ox xk Gf (by omega)) (fun r w1 h1=>?_);rw[hn]at h1;obtain⟨rfl,s1,h1⟩:=h1;refine ak rfl rfl (ae (aQ ?_));exact aV rfl rfl ⟨rfl,s1,h1⟩
end Go.K
namespace Go.K
open Go.Proofs
namespace TKErsA
theorem tZ:TI Tryz.prog 123 (.pointer none) 1 8:=by unfold TI;kernel_rfl
theorem PQ:TI Tryz.prog 216 (.agg #[(.pointer none),(.int .i64 0),(.slice none 0 0),(.int .i64 0),(.int .i64 0)]) 5 56:=by unfold TI;kernel_rfl
theorem PR:placesOf Tryz.prog 216=[(0,1),(1,1),(2,1),(3,1),(4,1)].map some:=by kernel_rfl
theorem UL:Enters Tryz.prog 73:=enters Tryz.func73 rfl (by decide)
theorem Lc:Enters Tryz.prog 126:=enters Tryz.func126 rfl (by decide)
theorem ab6:Enters Tryz.prog 140:=enters Tryz.func140 rfl (by decide)
end TKErsA
open TKErsA
set_option maxRecDepth 10000
theorem BS {M:aL} (w0:World) (hM:Lt M w0):
  Spec Tryz.prog 140 #[.pointer none] w0 (fun v' w'=>∃bc,v'= .pointer (some ⟨bc,0,none⟩)∧w0.heap.size≤bc∧Step M w0 (ins M bc) w' aE∧Cu 216 [] (-1) (ins M bc) w' bc):=by
 refine bu (args:=[_]) (fn:=Tryz.f140) Tryz.func140 rfl (n:=12) Tryz.ntmps140 (al (aj (ak rfl rfl (ae (al (al (aj (ah rfl rfl (Rg.xW cO rfl rfl rfl (ae (T.Xe rfl (rfl) ?_)))))))))));refine aj ?_;refine aP rfl rfl Lc (sU (l:=[]) hM iO (fun p h=>by cases h) (by decide) (by decide) (by decide)) (fun r2 w2 hc=>?_);obtain⟨s2,hok,_⟩:=hc;obtain⟨p,rfl,hp⟩:=hok rfl;obtain⟨q,rfl⟩:=hp.fk;refine ah rfl rfl (bZ rfl rfl rfl (bZ rfl rfl rfl (ak rfl rfl (ae (al (aj (ah rfl rfl (eT (places:=[(0,1),(1,1),(2,1),(3,1),(4,1)]) bU PQ PR rfl ⟨_,_,rfl,rfl,_,_,rfl,rfl,_,_,rfl,rfl,rfl⟩ (out:=[_,_,.slice none 0 0,_,.int .i64 0]) ⟨0,[_],rfl,rfl,by simp[Value.cells],1,[_],rfl,rfl,by simp[Value.cells],3,[_],rfl,rfl,by simp[Value.cells],rfl⟩ ?_))))))));refine tO M rfl rfl (fun bc w3 h1 Gm hS s3=>?_);refine ak rfl rfl (ae (aQ ?_));exact aV rfl rfl ⟨bc,rfl,by have:=s2.size;omega,s2.aB s3,.pointer (some q),.slice none 0 0,-1,0,.inl rfl,hS,hp.le (by decide) s3.le,iO,by decide,by decide,fun _=>rfl,fun h=>by omega⟩
theorem BT {M:aL} {v:Value} {l:List Po} (w0:World) (hM:Lt M w0) (h:cc RT.li M w0 v (ir l)∨(v= .pointer none∧l=[])):Spec Tryz.prog 140 #[v] w0 (fun v' w'=>∃bc,v'= .pointer (some ⟨bc,0,none⟩)∧w0.heap.size≤bc∧Step M w0 (ins M bc) w' aE∧Cu 216 l (-1) (ins M bc) w' bc):=by
 rcases h with h|⟨rfl,rfl⟩
 ·obtain⟨q,rfl⟩:=h.fk;exact Fy h
 ·exact BS w0 hM
theorem zE {M:aL} {s:Se} {ls:List (List Po)} {t:Fd} {v0:Value} (w0:World) (hM:Lt M w0) (hs:cc RT.se M w0 v0 s) (mW:xa s.2.2.1) (hls:s.2.2.2=ls.map ir) (hdl:s.2.2.1.length=ls.length) (h1:t.1.length≤140737488355328) (h2:t.2.length≤140737488355328):
  Spec Tryz.prog 95 #[v0,kv t] w0 (fun v' w'=>∃bc,v'= .pointer (some ⟨bc,0,none⟩)∧w0.heap.size≤bc∧Step M w0 (ins M bc) w' aE∧Cu 216 (ua s.2.2.1 ls (dm t)) (-1) (ins M bc) w' bc):=by
 refine bu (args:=[_,_]) (fn:=Tryz.f95) Tryz.func95 rfl (n:=19) Tryz.ntmps95 ?_;have S:Step M w0 M w0 aE:=(ar _ _).cw (fun _ h=>h.elim) (fun _ h=>h.elim);refine al (aj ?_);refine iw (A:=RT.fd) rfl rfl hM (tW h1 h2) rfl (fun u0 w1 cV s0 _=>?_);replace hs:=hs.le (by decide) s0.le;replace hM:=s0.lt hM;have:=S.size;replace S:=S.aB s0;refine ak rfl rfl (ae (al ?_));apply T.draw (M:=M) mixed [bW.eq v0,bW.eq v0,bW.ptr ((RT.di).ptr) s.2.2,bW.ptr RT.di s.2.2,bW.eq (kv t),bW.eq (sv (dm t)),(bW.mk' (fun v w=>∃p,v= .tuple #[p,.bool (decide (dm t∈s.2.2.1))]∧mf s.2.2 (dm t) M p w) (fun⟨p,h1,h2⟩ s=>⟨p,h1,h2.step s⟩)),(bW.mk' (fun v w=>∃p,v= .tuple #[p,.bool (decide (dm t∈s.2.2.1))]∧mf s.2.2 (dm t) M p w) (fun⟨p,h1,h2⟩ s=>⟨p,h1,h2.step s⟩)),(bW.mk' (fun v w=>mf s.2.2 (dm t) M v w) (fun h s=>h.step s)),bW.eq (.bool (decide (dm t∈s.2.2.1))),(bW.mk' (fun v w=>mf s.2.2 (dm t) M v w) (fun h s=>h.step s)),bW.eq (.bool (decide (dm t∈s.2.2.1)))]
 ·rfl
 ·refine aH ?_ ?_
  ·intro wD E sD;refine ah rfl rfl ?_;exact ae ⟨rfl,rfl,_,rfl,rfl,ar _ _⟩
  refine aH ?_ ?_
  ·intro wD E sD;refine aA (bm rfl hs.fk rfl ?_);exact ae ⟨rfl,rfl,_,rfl,rfl,ar _ _⟩
  refine aH ?_ ?_
  ·intro wD E sD;refine aA ?_;refine ay (M:=M) (A:=RT.se) (B:=(RT.di).ptr) eH rfl rfl tZ (by decide) O1 rfl rfl (by decide) hs sD.le (fun uf mw=>?_);exact ae ⟨rfl,rfl,_,rfl,mw,ar _ _⟩
  refine aH ?_ ?_
  ·intro wD E sD;intro v2 nq;refine bg (M:=M) eo rfl rfl rfl rfl rfl (show cc ((RT.di).ptr) M wD v2 s.2.2 from nq) (ao _ _) (fun vd I0=>?_);exact ae ⟨rfl,rfl,_,rfl,oY.1 I0,ar _ _⟩
  refine aH ?_ ?_
  ·intro wD E sD;refine ch (M:=M) (A:=RT.fd) bw rfl jr (by decide) rfl rfl rfl cV sD.le (fun vt IV=>?_);obtain rfl:=gN IV;exact ae ⟨rfl,rfl,_,rfl,rfl,ar _ _⟩
  refine aH ?_ ?_
  ·intro wD E sD;refine aA ?_;refine aP rfl rfl Rz (yr (t:=t) _ (sD.lt hM) h1 h2) (fun r5 w5 hc=>?_);obtain⟨rfl,s5⟩:=hc;exact ae ⟨rfl,rfl,_,rfl,rfl,s5⟩
  refine aH ?_ ?_
  ·intro wD E sD;intro v3 px;refine aA (aA ?_);refine aP rfl rfl UL (find_spec (k:=dm t) _ (sD.lt hM) (show cc RT.di M wD v3 s.2.2 from px) mW (by rw[hls,cj];exact hdl)) (fun r6 w6 hc=>?_);obtain⟨s6,hr⟩:=hc;refine ae ⟨rfl,rfl,_,rfl,?_,s6⟩;rcases hr with⟨j,p,tl,rfl,h3,h4,h5⟩|⟨rfl,h3⟩
   ·exact⟨p,by rw[decide_eq_true (aG h3)],.inl ⟨j,tl,h3,h4,h5⟩⟩
   ·exact⟨_,by rw[decide_eq_false h3],.inr ⟨rfl,h3⟩⟩
  refine aH ?_ ?_
  ·intro wD E sD;intro v6 oI;refine ah rfl rfl ?_;exact ae ⟨rfl,rfl,_,rfl,oI,ar _ _⟩
  refine aH ?_ ?_
  ·intro wD E sD;intro v7 pT;obtain⟨p,rfl,hp⟩:=pT;refine bZ rfl rfl rfl ?_;exact ae ⟨rfl,rfl,_,rfl,hp,ar _ _⟩
  refine aH ?_ ?_
  ·intro wD E sD;intro v7 pT;obtain⟨p,rfl,hp⟩:=pT;refine bZ rfl rfl rfl ?_;exact ae ⟨rfl,rfl,_,rfl,rfl,ar _ _⟩
  refine aH ?_ ?_
  ·intro wD E sD;intro v8 rK;intro v6 oI;refine aA (aA ?_);intro v2 nq;intro v3 px;refine aA (aA ?_);intro v6 oI;intro v7 pT;intro v8 rK;refine ak rfl rfl ?_;exact ae ⟨rfl,rfl,_,rfl,rK,ar _ _⟩
  refine aH ?_ ?_
  ·intro wD E sD;refine aA ?_;intro v10 tY;refine aA (aA ?_);intro v2 nq;intro v3 px;refine aA (aA ?_);intro v6 oI;intro v7 pT;intro v8 rK;refine aA ?_;intro v10 tY;refine ak rfl rfl ?_;exact ae ⟨rfl,rfl,_,rfl,rfl,ar _ _⟩
  exact rO
 ·intro zU kz;refine aA (aA ?_);intro BP me;intro GQ uT;refine aA (aA ?_);intro abS UM;intro NZ GP;intro UN MT;refine aA ?_;intro I2 qD;refine aA ?_;replace qD:mf s.2.2 (dm t) M I2 zU:=qD;have hF:=qD;replace hM:=kz.lt hM;replace S:=S.aB kz;replace hs:=hs.le (by decide) kz.le;replace cV:=cV.le (by decide) kz.le;refine al (aj (ah rfl rfl ?_))
  refine aP rfl rfl ab6 (BT (l:=ua s.2.2.1 ls (dm t)) _ hM (by
   rcases hF with⟨j,tl,JH,tp,DM⟩|⟨h,jQ⟩
   ·rw[hls,ff]at tp;obtain⟨l,JZ,rfl⟩:=iv.1 tp;exact .inl (by rw[sY mW.nodup JH JZ];exact DM)
   ·exact .inr ⟨h,o2 jQ⟩)) (fun r2 w2 hc=>?_)
  obtain⟨bc,rfl,hbc,s2,hcu⟩:=hc;refine ak rfl rfl (ae (aQ ?_));exact aV rfl rfl ⟨bc,rfl,by have:=S.size;omega,S.aB s2,hcu⟩
end Go.K
namespace Go.K
open Go.Proofs
namespace TKErsB
theorem WZ:Enters Tryz.prog 70:=enters Tryz.func70 rfl (by decide)
theorem E95:Enters Tryz.prog 95:=enters Tryz.func95 rfl (by decide)
theorem E96:Enters Tryz.prog 96:=enters Tryz.func96 rfl (by decide)
end TKErsB
open TKErsB
set_option maxRecDepth 10000
structure W0 (l:List Po):Prop where
 may:ej (-1) l=true
 ps:∀p∈l,p.2.length≤1099511627776
 by_:(dA (-1) l).length≤1099511627776
 ln:l.length≤1099511627776
theorem PV {L:List En} (hF:∀e∈L,ie e.1) (hn:L.length≤1000000) (k:List UInt8):W0 (pk L k):=by
 have h1:=mu k L 0 hF;have iV:ej (-1) (pk L k)=true:=pB k L 0 (-1) hF (by omega) (by omega);have ox:∀p∈pk L k,p.2.length≤500:=fun p hp=>(h1.2 p hp).2.2
 obtain⟨h2,h3⟩:=mU (pk L k) (-1) 500 (by omega) iV ox (by omega);have hl:(pk L k).length≤L.length:=h1.1;exact⟨iV,fun p hp=>by have:=ox p hp;omega,by omega,by omega⟩
end Go.K
namespace Go.K
open Go.Proofs
namespace TKBldJ
theorem qA:TI Tryz.prog 56 (.slice none 0 0) 1 24:=by unfold TI;kernel_rfl
theorem Fw:TI Tryz.prog 58 (.agg #[(.slice none 0 0),(.slice none 0 0),(.slice none 0 0),(.slice none 0 0)]) 4 96:=by unfold TI;kernel_rfl
theorem gz:TI Tryz.prog 107 (.slice none 0 0) 1 24:=by unfold TI;kernel_rfl
theorem E27:Enters Tryz.prog 27:=enters Tryz.func27 rfl (by decide)
theorem E56:Enters Tryz.prog 56:=enters Tryz.func56 rfl (by decide)
theorem E57:Enters Tryz.prog 57:=enters Tryz.func57 rfl (by decide)
theorem E58:Enters Tryz.prog 58:=enters Tryz.func58 rfl (by decide)
theorem E59:Enters Tryz.prog 59:=enters Tryz.func59 rfl (by decide)
end TKBldJ
open TKBldJ
set_option maxRecDepth 10000
set_option maxHeartbeats 4000000 in
theorem qE {M:aL} {L:List En} {v0:Value} (w0:World) (hM:Lt M w0) (hv:(RT.en.sl).V M w0 L v0) (hl:∀e∈L,∀f∈e.1.2,f.1.length≤900000∧f.2.length≤900000) (hn:L.length≤100000) (hok:ym (-1) L=true):
  Spec Tryz.prog 15 #[v0] w0 (fun v w=>∃s,v= .tuple #[s,.int .i64 0]∧cc RT.se M w s (IF (iX L))∧Step M w0 M w aE):=by
 have gB:=hM;have hF:=lQ hok
 have QD:(keysOf L).length≤500000000:=by
  have h1:=(kh L).nodup.length_le_of_subset (l₂:=gx L) (fun x hx=>iZ.1 hx);have:=j8 hF;omega
 have KQ:∀k∈keysOf L,k.length≤43:=fun k hk=>tG hF k (iZ.1 hk)
 refine bu (args:=[_]) (fn:=Tryz.f15) Tryz.func15 rfl (n:=63) Tryz.ntmps15 ?_;have S:Step M w0 M w0 aE:=(ar _ _).cw (fun _ h=>h.elim) (fun _ h=>h.elim);refine al (aj (ak rfl rfl (ak rfl rfl (ae (al (aj ?_))))));refine aP rfl rfl E56 (Im (Z:=fun k=>w0.heap.size≤k) (B:=w0.heap.size) _ hM (aT _) (fun k hk=>hk)) (fun r1 w1 hc=>?_);obtain⟨M1,b1,rfl,_,gg,s1⟩:=hc;replace gg:=gg.Fo (Z':=fun k=>w0.heap.size≤k∧k<w1.heap.size) (fun c hc dW=>⟨hc,dW⟩);replace hv:=hv.le s1.le;replace hM:=s1.lt hM;have:=S.size;replace S:=S.aB s1;refine ak rfl rfl (ae (al (aj ?_)));refine eG M1 Fw rfl (fun fO Ot Zc Zd AU vB=>?_);obtain⟨Hj,vC⟩:∃M',M'=ins M1 fO:=⟨_,rfl⟩;rw[←vC]at vB;have vD:Hj fO:=by rw[vC];exact .inl rfl
 change Ot.heap[fO]? =some (.cells #[.slice none 0 0,.slice none 0 0,.slice none 0 0,.slice none 0 0] _ _)at AU;replace hv:=hv.le vB.le;replace gg:=gg.a8 vB;replace hM:=vB.lt hM;have:=S.size;replace S:=S.aB vB;refine ae (al (al (aj (ah rfl rfl (bK dD rfl hv rfl (ah rfl rfl (ae (bh ?_))))))));refine dz (σ:=Nat×Value×Value) (fun q=>[(4,.pointer (some ⟨b1,0,none⟩)),(5,.pointer (some ⟨fO,0,none⟩)),(12,v0),(13,.int .i64 (L.length:Int)),(14,.int .i64 (q.1:Int))]) (fun q w=>∃M' words,Lt M' w∧Step M w0 M' w aE∧(RT.en.sl).V M' w L v0∧mV (ZP w0.heap.size fO q.2.1 q.2.2) M' w w0.heap.size b1 (L.take q.1) words (mc (-1) (L.take q.1))∧w.heap[fO]? =some (.cells #[q.2.1,q.2.2,.slice none 0 0,.slice none 0 0] 58 (0,0))∧M' fO∧Own (RT.int .i64) 3 M' w w0.heap.size q.2.1 ((L.take q.1).map (·.1.1))∧Own (RT.int .i64) 3 M' w w0.heap.size q.2.2 ((L.take q.1).map (·.2))∧iP q.2.1 q.2.2∧0≤words∧words≤500*(q.1:Int)∧q.1≤L.length) (fun q=>L.length-q.1) (0,.slice none 0 0,.slice none 0 0) (.cons rfl (.cons rfl (.cons rfl (.cons rfl (.cons rfl .nil))))) ?_ ?_
 ·exact⟨_,0,hM,S,hv,gg.Fo (Z':=ZP w0.heap.size fO (.slice none 0 0) (.slice none 0 0)) (fun c hc dW=>⟨hc.1,(fun h=>by have:=hc.2;omega),(fun h=>by cases h),(fun h=>by cases h)⟩),AU,vD,dQ _ _ _ _ _,dQ _ _ _ _ _,iP.nil _,by omega,by omega,bH _⟩
 ·clear hM S hv gg;rintro⟨i,vi,vs⟩ w ⟨M2,words,hM,S,hv,gg,g2,cE,fP,fT,Fe,hw1,hw2,hi⟩;dsimp only at gg g2 fP fT Fe hw2 hi ⊢;refine al (aj (cz rfl rfl rfl (ae (al ?_))));refine bQ rfl (fun c4=>?_) (fun c4=>?_)
  ·refine aZ (al (bh (al (aj ?_))));refine cu (M:=M2) dD xh rfl rfl rfl hv (ao _ _) (by omega) (fun u5 e EY gU=>?_);rw[aC]at EY;obtain⟨MU,PW⟩:=IP hok EY;have hem:=aG EY;refine ch (M:=M2) (A:=RT.en) cP rfl xh (by decide) rfl rfl rfl gU (ao _ _) (fun v5 pW=>?_);obtain⟨hr1,Af⟩:=PI pW;refine ug (A:=RT.en) (M:=M2) xh rfl rfl rfl rfl rfl (by assumption) (ao _ _) hM (fun NO akm oJ BU akn=>?_);have:=an g2;replace cE:=(BU.mem _ this).2 cE;replace g2:=BU.aM g2;replace hv:=hv.le BU.le;replace fP:=fP.a8 BU;replace fT:=fT.a8 BU;replace gg:=gg.a8 BU;replace hM:=BU.lt hM;have:=S.size;replace S:=S.aB BU;refine ae (al (al (aj (ah rfl rfl ?_))));refine ch (M:=M2) (A:=RT.en) cP rfl xh (by decide) rfl rfl rfl oJ (ao _ _) (fun v6 oI=>?_);refine aP rfl rfl E57 (Ip (Z:=ZP w0.heap.size fO vi vs) _ hM (fun k hk=>⟨by have:=S.size;omega,fun h=>by have:=an g2;omega,fun h=>by have:=(fP.base k h).2;omega,fun h=>by have:=(fT.base k h).2;omega⟩) gg (by have:=S.size;omega) oI (hl e hem) (fun x hx=>hF x (mg hx)) (by simp;omega) (by omega)) (fun r6 w6 hc=>?_);obtain⟨M6,GI,s6,rfl,_,NT⟩:=hc;replace gg:=NT MU;have LZ:(ma e).length≤500:=(hF e hem).many;refine bO (v':= .int .i64 0) (by rw[MU]) ?_;replace fP:=fP.step s6 (fun c hc h=>h.1.2.2.1 hc);replace fT:=fT.step s6 (fun c hc h=>h.1.2.2.2 hc);replace cE:=(s6.mem _ (an g2)).2 cE;replace g2:=s6.bS g2 (fun h=>h.1.2.1 rfl);replace hv:=hv.le s6.le;replace oJ:=oJ.le (by decide) s6.le;replace S:=S.cW s6 (fun k hk=>hk.1.1);replace hM:=GI;rw[PW.symm]at gg;refine ak rfl rfl (ae (al (aj (ah rfl rfl (eS rfl rfl rfl (ae (T.zZ rfl ((fun h=>h rfl)) (aZ ?_))))))));have W2:=g2;have UX:=cE
   have UI:=hv;have UY:=gg;have Ja:=fP;have Jb:=fT;have hMp:=hM;have Sp:=S;obtain⟨P6,hP6⟩:∃P6:Value→World→Prop,P6=fun v w'=>Own (RT.int .i64) 3 (pM v) w' w0.heap.size v ((L.take i).map (·.1.1)++[e.1.1])∧(∀c,v.ownBlock=some c→w6.heap.size≤c∨vi.ownBlock=some c):=⟨_,rfl⟩
   have h6:∀{v:Value} {w w':World},P6 v w→Step M6 w M6 w' aE→P6 v w':=fun {v w w'} h s=>by rw[hP6]at h ⊢;exact⟨h.1.MM s (fun _ _ h=>h),h.2⟩
   apply T.Ux (M:=M6) [0,1,2,3,4,5,6,7,8,9,10,11,13,12,14,15,16] 13 12 37 (.pointer (some ⟨fO,0,none⟩)) [(6,jC vi)] [bW.eq (.pointer (some ⟨fO,0,none⟩)),bW.eq vi,bW.ptr RT.dc e.1,bW.ptr (RT.int .i64) e.1.1,bW.eq (.int .i64 e.1.1),bW.V ((RT.int .i64).sl) [e.1.1],(bW.mk' (fun v w=>P6 v w) (fun h s=>h6 h s)),bW.eq (.pointer (some ⟨fO,1,none⟩)),bW.eq vs,bW.ptr (RT.int .i64) e.2,bW.eq (.int .i64 e.2),bW.V ((RT.int .i64).sl) [e.2],bW.eq (.pointer (some ⟨fO,0,none⟩))] mixed
   ·simp+decide only[uN,pI,fo,qg,im,iq,jW,dx,ia,kL,cond_true,cond_false,Nat.reduceBEq,Nat.reduceAdd,beq_self_eq_true];rfl
   ·rfl
   ·rfl
   ·rfl
   ·rfl
   ·rfl
   ·rfl
   ·rfl
   ·rfl
   ·rfl
   ·rfl
   ·rfl
   ·exact fun ρ w h=>Db (size:=1) (o:=0) (o':=0) cd rfl rfl jR (by decide) (h (.tmp 5) _ rfl) w
   ·intro p hp b hb;simp only[dN,List.not_mem_nil,or_false]at hp;subst hp;exact fP.mut_ b hb
   ·exact fun p hp=>by
     simp only[dN,List.not_mem_nil,or_false]at hp;subst hp;show(6:Nat)≠12;decide
   ·exact uj.st (by exact⟨fun _ _ _ _=>trivial,⟨fun _ _ _ _=>trivial,⟨fun _ _ _ _=>trivial,⟨fun _ _ _ _=>trivial,⟨fun _ _ _ _=>trivial,⟨fun _ _ _ _=>trivial,⟨fun p hp b hb=>(by simp at hp),⟨fun _ _ _ _=>trivial,⟨fun _ _ _ _=>trivial,⟨fun _ _ _ _=>trivial,⟨fun _ _ _ _=>trivial,⟨fun _ _ _ _=>trivial,⟨fun _ _ _ _=>trivial,trivial⟩⟩⟩⟩⟩⟩⟩⟩⟩⟩⟩⟩⟩)
   intro wR9 UZ;have Jc:=UZ M6;have:=an g2;replace cE:=(Jc.mem _ this).2 cE;replace g2:=Jc.aM g2;replace hv:=hv.le Jc.le;replace oJ:=oJ.le (by decide) Jc.le;replace fP:=fP.a8 Jc;replace fT:=fT.a8 Jc;replace gg:=gg.a8 Jc;replace hM:=Jc.lt hM;have:=S.size;replace S:=S.aB Jc;have g2R:=g2;have U0:=fP;have akq:=fT;have hz6:=Jc.size;refine⟨?_,?_⟩
   ·refine aY ?_ ?_
    ·intro wD E sD;replace sD:Step M6 _ M6 wD (jC vi):=sD;refine bz (o':=0) cd rfl rfl jR (by decide) rfl rfl ?_;exact ae ⟨rfl,rfl,_,rfl,rfl,ar _ _⟩
    refine aY ?_ ?_
    ·intro wD E sD;replace sD:Step M6 _ M6 wD aE:=sD;refine aA (aX ax rfl rfl rfl (sD.aM g2R) rfl ?_);exact ae ⟨rfl,rfl,_,rfl,rfl,ar _ _⟩
    refine aY ?_ ?_
    ·intro wD E sD;replace sD:Step M6 _ M6 wD (jC vi):=sD;refine ay (M:=M6) (A:=RT.en) (B:=RT.dc) cP rfl rfl kQ (by decide) KB rfl rfl (by decide) oJ sD.le (fun uf mw=>?_);exact ae ⟨rfl,rfl,_,rfl,mw,ar _ _⟩
    refine aY ?_ ?_
    ·intro wD E sD;replace sD:Step M6 _ M6 wD (jC vi):=sD;intro v2 nq;refine ay (M:=M6) (A:=RT.dc) (B:=RT.int .i64) aO rfl rfl I3 (by decide) QP rfl rfl (by decide) (show cc RT.dc M6 wD v2 e.1 from nq) (ao _ _) (fun uf mw=>?_);exact ae ⟨rfl,rfl,_,rfl,mw,ar _ _⟩
    refine aY ?_ ?_
    ·intro wD E sD;replace sD:Step M6 _ M6 wD (jC vi):=sD;intro v3 px;refine cr (M:=M6) az rfl rfl (show cc (RT.int .i64) M6 wD v3 e.1.1 from px) (ao _ _) (fun nV=>?_);exact ae ⟨rfl,rfl,_,rfl,rfl,ar _ _⟩
    refine aY ?_ ?_
    ·intro wD E sD;replace sD:Step M6 _ M6 wD aE:=sD;refine aA ?_;refine eA (A:=RT.int .i64) (hn:=by decide) (M:=M6) ax I3 (by decide) rfl rfl (sD.lt hM) (gC hr1) (.inr ⟨rfl,rfl⟩) (fun uS wS hS sS=>?_);exact ae ⟨rfl,rfl,_,rfl,hS,sS⟩
    refine aY ?_ ?_
    ·intro wD E sD;replace sD:Step M6 _ M6 wD aE:=sD;refine aA ?_;intro v5 pW;replace sD:Step M6 wR9 M6 wD aE:=sD;refine Rg.kc (M:=M6) (base:=w0.heap.size) ax I3 rfl rfl rfl rfl (U0.a8 sD) (show((RT.int .i64).sl).V M6 wD [e.1.1] v5 from pW) (ao _ _) (by simp;omega) (by simp;omega) (by have:=sD.size;have:=S.size;omega) (fun vA wA hoA sA hFA=>?_);exact ae ⟨rfl,rfl,_,rfl,by show P6 vA wA;rw[hP6];exact⟨hoA.lone,fun c hc=>(hFA c hc).elim (fun h=> .inl (by have:=sD.size;omega)) .inr⟩,sA.back⟩
    refine aY ?_ ?_
    ·intro wD E sD;replace sD:Step M6 _ M6 wD (jC vi):=sD;refine bz (o':=1) cd rfl rfl jR (by decide) rfl rfl ?_;exact ae ⟨rfl,rfl,_,rfl,rfl,ar _ _⟩
    refine aY ?_ ?_
    ·intro wD E sD;replace sD:Step M6 _ M6 wD (jC vi):=sD;refine aA (aX ax rfl rfl rfl (sD.bS g2R (fun h=>U0.eW g2R (by decide) h)) rfl ?_);exact ae ⟨rfl,rfl,_,rfl,rfl,ar _ _⟩
    refine aY ?_ ?_
    ·intro wD E sD;replace sD:Step M6 _ M6 wD (jC vi):=sD;refine ay (M:=M6) (A:=RT.en) (B:=RT.int .i64) cP rfl rfl I3 (by decide) Ti rfl rfl (by decide) oJ sD.le (fun uf mw=>?_);exact ae ⟨rfl,rfl,_,rfl,mw,ar _ _⟩
    refine aY ?_ ?_
    ·intro wD E sD;replace sD:Step M6 _ M6 wD (jC vi):=sD;intro v9 zV;refine cr (M:=M6) az rfl rfl (show cc (RT.int .i64) M6 wD v9 e.2 from zV) (ao _ _) (fun nV=>?_);exact ae ⟨rfl,rfl,_,rfl,rfl,ar _ _⟩
    refine aY ?_ ?_
    ·intro wD E sD;replace sD:Step M6 _ M6 wD (jC vi):=sD;refine aA ?_;refine eA (A:=RT.int .i64) (hn:=by decide) (M:=M6) ax I3 (by decide) rfl rfl (sD.lt hM) (gC Af) (.inr ⟨rfl,rfl⟩) (fun uS wS hS sS=>?_);exact ae ⟨rfl,rfl,_,rfl,hS,sS⟩
    refine aY ?_ ?_
    ·intro wD E sD;replace sD:Step M6 _ M6 wD (jC vi):=sD;refine aA (aA ?_);intro v2 nq;intro v3 px;refine aA ?_;intro v5 pW;intro v6 oI;refine aA (aA (bz (o':=0) cd rfl rfl jR (by decide) rfl rfl ?_));exact ae ⟨rfl,rfl,_,rfl,rfl,ar _ _⟩
    exact cf.nil
   ·intro L5 yY;replace yY:Step M6 _ M6 L5 (jC vi):=yY;refine aA (aA ?_);intro aab Iq;intro akt agj;refine aA ?_;intro Lq tI;intro zF Ei;refine aA (aA ?_);intro aku agk;refine aA ?_;intro U1 Dm;refine aA ?_;replace Ei:P6 zF L5:=Ei;rw[hP6]at Ei;obtain⟨tt,hb9⟩:=Ei;replace Dm:((RT.int .i64).sl).V M6 L5 [e.2] U1:=Dm;have sX:Step M6 w6 M6 L5 (jC vi):=(Jc.cw (fun _ h=>h.elim) (fun b h=>Ja.mut_ b h)).trans yY (fun b _ h=>h);have acb:=Jb.step sX (fun c hc h=>Fe c h hc);refine Rg.kc (M:=M6) (base:=w0.heap.size) ax I3 rfl rfl rfl rfl acb Dm (ao _ _) (by simp;omega) (by simp;omega) (by have:=Sp.size;have:=sX.size;omega) (fun v12 QN acd vE U2=>?_)
    have CU:∀c,zF.ownBlock=some c→vs.ownBlock≠some c:=fun c hc hv=>by
     rcases hb9 c hc with h|h
     ·have:=(Jb.base c hv).2;omega
     ·exact Fe c h hv
    have U3:=tt.MM vE (fun c hc h=>CU c hc h)
    have U4:iP v12 zF:=fun c hc hc6=>by
     rcases U2 c hc with h|h
     ·have:=(tt.base c hc6).2;omega
     ·exact CU c hc6 h
    have Ls:∀c,v12.ownBlock=some c→w6.heap.size≤c∨vs.ownBlock=some c:=fun c hc=>(U2 c hc).elim (fun h=> .inl (by have:=sX.size;omega)) .inr
    have sZ:Step M6 w6 (kD M6 v12) QN (fun k=>jC vi k∨jC vs k):=(sX.cw (fun _ h=> .inl h) (fun b h=>h.elim (Ja.mut_ b) (Jb.mut_ b))).trans vE (fun b _ h=> .inr h);obtain⟨U5,PX⟩:∃M',M'=kD (kD M6 v12) zF:=⟨_,rfl⟩;have sW:Step M6 w6 U5 QN (fun k=>jC vi k∨jC vs k):=by rw[PX];exact sZ.abx (fun c hc=>⟨(U3.base c hc).2,(hb9 c hc).elim .inl (fun h=> .inr (.inr (Ja.mut_ c h)))⟩)
    have fP:=U3.Kj (M':=U5) (by rw[PX];exact fun b hb=> .inl hb);have fT:=acd.Kj (M':=U5) (by rw[PX];exact fun b hb=> .inr (.inl hb));have cE:=(sW.mem _ (an W2)).2 UX;have g2:=sW.bS W2 (fun h=>h.elim (Ja.eW W2 (by decide)) (Jb.eW W2 (by decide)));have gg:=((UY.Fo (Z':=fun k=>ZP w0.heap.size fO vi vs k∧ZP w0.heap.size fO zF v12 k) (fun c hc dW=>⟨hc,hc.1,hc.2.1,fun h=>(hb9 c h).elim (fun h=>by omega) hc.2.2.1,fun h=>(Ls c h).elim (fun h=>by omega) hc.2.2.2⟩)).step sW (fun k hk hz=>hk.elim hz.1.2.2.1 hz.1.2.2.2)).Fo (Z':=ZP w0.heap.size fO zF v12) (fun c hc _=>hc.2);have hv:=UI.le sW.le;have S:=Sp.cW sW (fun k hk=>hk.elim (fun h=>(Ja.base k h).1) (fun h=>(Jb.base k h).1));have hM:=sW.lt hMp;refine ae ⟨rfl,rfl,fun h=>absurd rfl h,?_⟩;refine ck (M:=U5) jR rfl rfl g2 rfl (by obtain⟨_,_,he,_⟩:=fP.isSlice;rw[he];rfl) cE (fun Tz g14 kA=>?_);replace g14:Tz.heap[fO]? =some (.cells #[zF,vs,.slice none 0 0,.slice none 0 0] 58 (0,0)):=g14;replace fP:=fP.step kA (fun c hc (h:c=fO)=>fP.eW g2 (by decide) (h▸hc));replace fT:=fT.step kA (fun c hc (h:c=fO)=>fT.eW g2 (by decide) (h▸hc));replace cE:=(kA.mem _ (an g2)).2 cE;replace gg:=gg.step kA (fun k (hk:k=fO) hz=>hz.2.1 hk);replace hv:=hv.le kA.le;replace S:=S.cW kA (fun k (hk:k=fO)=>by rw[hk];omega);replace hM:=kA.lt hM;clear g2;have g2:=g14;refine ae ⟨rfl,rfl,fun h=>absurd rfl h,?_⟩;refine bz (o':=1) cd rfl rfl jR (by decide) rfl rfl ?_;refine ae ⟨rfl,rfl,fun h=>absurd rfl h,?_⟩;refine ck (M:=U5) jR rfl rfl g2 rfl (by obtain⟨_,_,he,_⟩:=fT.isSlice;rw[he];rfl) cE (fun MJ g16 C6=>?_);replace g16:MJ.heap[fO]? =some (.cells #[zF,v12,.slice none 0 0,.slice none 0 0] 58 (0,0)):=g16;replace fP:=fP.step C6 (fun c hc (h:c=fO)=>fP.eW g2 (by decide) (h▸hc));replace fT:=fT.step C6 (fun c hc (h:c=fO)=>fT.eW g2 (by decide) (h▸hc));replace cE:=(C6.mem _ (an g2)).2 cE
    replace gg:=gg.step C6 (fun k (hk:k=fO) hz=>hz.2.1 hk);replace hv:=hv.le C6.le;replace S:=S.cW C6 (fun k (hk:k=fO)=>by rw[hk];omega);replace hM:=C6.lt hM;clear g2;have g2:=g16;refine ae ⟨rfl,rfl,fun h=>absurd rfl h,?_⟩;refine gY (aj (bI rfl rfl rfl (by omega) (ah rfl rfl (ae ?_))));have et:L.take (i+1)=L.take i++[e]:=by rw[bP,EY,cn]
    rw[et]at gg;refine⟨rfl,(i+1,zF,v12),(.cons rfl (.cons rfl (.cons rfl (.cons rfl (.cons rfl .nil))))),?_,?_⟩
    ·exact⟨_,_,hM,S,hv,by rw[et];exact gg,g2,cE,by rw[et,dH];exact fP,by rw[et,dH];exact fT,U4.symm,by omega,by dsimp only;omega,by dsimp only;omega⟩
    ·dsimp only;omega
  ·refine cY (al (aj ?_));have hLi:L.take i=L:=a7 (by omega);rw[hLi]at gg fP fT;refine ah rfl rfl ?_;refine aP rfl rfl E58 (C2 _ hM gg hF (by omega)) (fun rk WV hc=>?_);obtain⟨mX,rM⟩:=hc;have:=an g2;replace cE:=(rM.mem _ this).2 cE;replace g2:=rM.aM g2;replace hv:=hv.le rM.le;replace fP:=fP.a8 rM;replace fT:=fT.a8 rM;replace gg:=gg.a8 rM;replace hM:=rM.lt hM;have:=S.size;replace S:=S.aB rM;refine bz (o':=2) cd rfl rfl tR (by decide) rfl rfl ?_;refine ck (M:=M2) tR rfl rfl g2 rfl (jq mX rfl rfl) cE (fun A7 cT fc=>?_);change A7.heap[_]? =some (Obj.cells #[vi,vs,rk,.slice none 0 0] _ _)at cT;have:=an g2;replace cE:=(fc.mem _ this).2 cE;replace hv:=hv.le fc.le;replace mX:=mX.le fc.le;replace fP:=fP.step fc (fun c hc (h:c=fO)=>fP.eW g2 (by decide) (h▸hc));replace fT:=fT.step fc (fun c hc (h:c=fO)=>fT.eW g2 (by decide) (h▸hc));replace gg:=gg.stepT fc (by first|exact fun k hk=>by(obtain⟨cs,hc⟩:=j3.isCells hk;exact⟨cs,_,hc,by decide,by decide,by decide⟩)|exact fun k (hk:k=fO)=>⟨_,_,hk▸g2,by decide,by decide,by decide⟩);replace hM:=fc.lt hM;have:=S.size;replace S:=S.trans fc (fun k hk h=>by have h:_=_:=h;subst h;first|(exfalso;omega)|(show _≤_;omega)|exact⟨by first|omega|assumption,(S.mem _ hk).1 ((fc.mem _ (an g2)).1 cE)⟩|exact .inl rfl|exact .inr rfl|exact .inr (.inl rfl)|exact .inr (.inr rfl)|exact rfl);have vN:=cT;clear g2;have g2:=vN;clear vN;refine ae (al (al (aj (bz (o':=2) cd rfl rfl tR (by decide) rfl rfl (aX aF rfl rfl rfl g2 rfl (bO (v':=rk) rfl (bK aF rfl mX rfl (ah rfl rfl (ae (bh ?_))))))))));refine dz (σ:=Nat×Value) (fun q=>[(4,.pointer (some ⟨b1,0,none⟩)),(5,.pointer (some ⟨fO,0,none⟩)),(44,rk),(45,.int .i64 ((keysOf L).length:Int)),(46,.int .i64 (q.1:Int))]) (fun q w=>∃M',Lt M' w∧Step M w0 M' w aE∧mV (ZP w0.heap.size fO vi vs) M' w w0.heap.size b1 L words (mc (-1) L)∧w.heap[fO]? =some (.cells #[vi,vs,rk,q.2] 58 (0,0))∧M' fO∧Own (RT.int .i64) 3 M' w w0.heap.size vi (L.map (·.1.1))∧Own (RT.int .i64) 3 M' w w0.heap.size vs (L.map (·.2))∧Own ((RT.po).sl) 107 M' w w0.heap.size q.2 (((keysOf L).take q.1).map (pk L))∧(RT.str.sl).V M' w (keysOf L) rk∧q.1≤(keysOf L).length) (fun q=>(keysOf L).length-q.1) (0,.slice none 0 0) (.cons rfl (.cons rfl (.cons rfl (.cons rfl (.cons rfl .nil))))) ?_ ?_
   ·exact⟨_,hM,S,gg,g2,cE,fP,fT,dQ _ _ _ _ _,mX,bH _⟩
   ·clear hM S gg g2 cE fP fT mX hv;rintro⟨i3,vl⟩ w ⟨M3,hM,S,gg,g2,cE,fP,fT,j3,mX,Xh⟩;dsimp only at g2 j3 Xh ⊢;refine al (aj (cz rfl rfl rfl (ae (al ?_))));refine bQ rfl (fun Kd=>?_) (fun Kd=>?_)
    ·refine aZ (al (bh (al (aj ?_))));refine cu (M:=M3) aF I9 rfl rfl rfl mX (ao _ _) (by omega) (fun u14 k PY acf=>?_);rw[aC]at PY;refine bg (M:=M3) aD rfl rfl rfl rfl rfl acf (ao _ _) (fun vk hvk=>?_);obtain rfl:=dP hvk;refine ak rfl rfl (ae ?_);apply qf 4 [0,1] 2 aE mixed rfl rfl rfl rfl;intro NY GO;have og:=GO M3;have:=an g2;replace cE:=(og.mem _ this).2 cE;replace g2:=og.aM g2;replace mX:=mX.le og.le;replace fP:=fP.a8 og;replace fT:=fT.a8 og;replace j3:=j3.a8 og;replace gg:=gg.a8 og;replace hM:=og.lt hM;have:=S.size;replace S:=S.aB og;refine bz (o':=3) cd rfl rfl qA (by decide) rfl rfl ?_;refine ae ⟨rfl,rfl,rfl,?_⟩;refine aX b9 rfl rfl rfl (by first|assumption|exact cC og (by assumption)) rfl ?_;refine ae ⟨rfl,rfl,rfl,?_⟩;refine ah rfl rfl ?_;refine ae ⟨rfl,rfl,rfl,?_⟩;refine ah rfl rfl ?_;refine ae ⟨rfl,rfl,rfl,?_⟩;refine dU ?_;refine⟨ew ⟨fj cd rfl qA (by decide),⟨dC rfl g2 (fun h=>h),trivial⟩⟩,?_⟩;have kp:=eU aE NY;refine aP rfl rfl E59 (C3 (k:=k) _ hM gg hF (by omega) (by have:=KQ k (aG PY);omega)) (fun r15 Ts hc=>?_);obtain⟨zy,zi⟩:=hc;have:=an g2;replace cE:=(zi.mem _ this).2 cE;replace g2:=zi.aM g2;replace mX:=mX.le zi.le;replace fP:=fP.a8 zi;replace fT:=fT.a8 zi;replace j3:=j3.a8 zi;replace gg:=gg.a8 zi;replace hM:=zi.lt hM;have:=S.size;replace S:=S.aB zi;refine(fun(kp:dX _ _ _)=>ae ⟨rfl,rfl,fun _=>kp,?_⟩) (by first|exact kp|exact kp.mZ (by assumption)|exact kp.goN (by assumption)|exact kp.go (by assumption) (fun _ _ h=>by first|exact h|exact h.elim));refine eA (A:=((RT.po).sl)) (hn:=by decide) (M:=M3) b9 gz (by decide) rfl rfl hM (zy) (.inr ⟨rfl,rfl⟩) (fun agm MF wz jy=>?_)
     have:=an g2;replace cE:=(jy.mem _ this).2 cE;replace g2:=jy.aM g2;replace mX:=mX.le jy.le;replace zy:=zy.le jy.le;replace fP:=fP.a8 jy;replace fT:=fT.a8 jy;replace j3:=j3.a8 jy;replace gg:=gg.a8 jy;replace hM:=jy.lt hM;have:=S.size;replace S:=S.aB jy;refine(fun(kp:dX _ _ _)=>ae ⟨rfl,rfl,fun _=>kp,?_⟩) (by first|exact kp|exact kp.mZ (by assumption)|exact kp.goN (by assumption)|exact kp.go (by assumption) (fun _ _ h=>by first|exact h|exact h.elim));refine cv (M:=M3) (base:=w0.heap.size) b9 gz rfl rfl rfl rfl j3 wz (ao _ _) (by simp;omega) (by simp;omega) (S.size) (fun MV U6 agn PZ p6=>?_);have:=an g2;replace cE:=(p6.mem _ this).2 cE;replace g2:=p6.bS g2 (fun h=>by first|exact j3.dZ g2 h|exact j3.eW g2 (by decide) h|(have:=(j3.base _ h).1;omega));replace mX:=mX.le p6.le;replace zy:=zy.le p6.le;replace wz:=wz.le p6.le;replace fP:=fP.step p6 (fun b h1 h2=>fP.iW j3 (by decide) h1 h2);replace fT:=fT.step p6 (fun b h1 h2=>fT.iW j3 (by decide) h1 h2);replace gg:=gg.stepT p6 (by first|exact fun k hk=>by(obtain⟨cs,hc⟩:=j3.isCells hk;exact⟨cs,_,hc,by decide,by decide,by decide⟩)|exact fun k (hk:k=fO)=>⟨_,_,hk▸g2,by decide,by decide,by decide⟩);replace hM:=p6.lt hM;have:=S.size;replace S:=S.cF p6 j3 (aT _);replace j3:=PZ;refine ae ⟨rfl,rfl,fun h=>absurd rfl h,?_⟩;refine bz (o':=3) cd rfl rfl qA (by decide) rfl rfl ?_;refine ae ⟨rfl,rfl,fun h=>absurd rfl h,?_⟩;refine ck (M:=U6) qA rfl rfl g2 rfl (by obtain⟨_,_,he,_⟩:=j3.isSlice;rw[he];rfl) cE (fun U7 MW o5=>?_);change U7.heap[_]? =some (Obj.cells #[vi,vs,rk,MV] _ _)at MW;have:=an g2;replace cE:=(o5.mem _ this).2 cE;replace mX:=mX.le o5.le;replace zy:=zy.le o5.le;replace wz:=wz.le o5.le;replace fP:=fP.step o5 (fun c hc (h:c=fO)=>fP.eW g2 (by decide) (h▸hc))
     replace fT:=fT.step o5 (fun c hc (h:c=fO)=>fT.eW g2 (by decide) (h▸hc));replace j3:=j3.step o5 (fun c hc (h:c=fO)=>j3.eW g2 (by decide) (h▸hc));replace gg:=gg.stepT o5 (by first|exact fun k hk=>by(obtain⟨cs,hc⟩:=j3.isCells hk;exact⟨cs,_,hc,by decide,by decide,by decide⟩)|exact fun k (hk:k=fO)=>⟨_,_,hk▸g2,by decide,by decide,by decide⟩);replace hM:=o5.lt hM;have:=S.size;replace S:=S.trans o5 (fun k hk h=>by have h:_=_:=h;subst h;first|(exfalso;omega)|(show _≤_;omega)|exact⟨by first|omega|assumption,(S.mem _ hk).1 ((o5.mem _ (an g2)).1 cE)⟩|exact .inl rfl|exact .inr rfl|exact .inr (.inl rfl)|exact .inr (.inr rfl)|exact rfl);have vN:=MW;clear g2;have g2:=vN;clear vN;refine ae ⟨rfl,rfl,fun h=>absurd rfl h,?_⟩;refine gY (aj (bI rfl rfl rfl (by omega) (ah rfl rfl (ae ?_))));refine⟨rfl,(i3+1,MV),(.cons rfl (.cons rfl (.cons rfl (.cons rfl (.cons rfl .nil))))),?_,?_⟩
     ·exact⟨_,hM,S,gg,g2,cE,fP,fT,by rw[bP,PY,cn,dH];exact j3,mX,by dsimp only;omega⟩
     ·dsimp only;omega
    ·refine cY (al (aj (gO (vs:=[vi,vs,rk,vl]) cd rfl Fw rfl rfl rfl g2 ?_)));rw[a7 (by omega)]at j3;have T8:RT.pa.V M _ (iX L) _:=KT (x:=iX L) (fP.close gB S (by show(L.map _).length≤_;rw[cj];omega)) (fT.close gB S (by show(L.map _).length≤_;rw[cj];omega)) (mX.le (pD gB S)) (j3.close gB S (by show((keysOf L).map _).length≤_;rw[cj];omega));replace S:=S.back;replace hM:=S.lt gB;refine aP rfl rfl E27 (C9 (p:=iX L) _ hM T8 (Lo hF (by omega))) (fun r17 WW hc=>?_);obtain⟨JK,U8,_⟩:=hc;obtain⟨sg,rfl,y5⟩:=U8 (PH hok (by omega));replace S:=S.aB JK;refine bZ rfl rfl rfl (bZ rfl rfl rfl (ak rfl rfl (ak rfl rfl (ae (aQ ?_)))));exact fa rfl rfl rfl ⟨sg,rfl,y5,S⟩
end Go.K
namespace Go.K
open Go.Proofs
namespace TKSegF
theorem U9:placesOf Tryz.prog 127=[(0,1),(1,1)].map some:=by kernel_rfl
theorem P0:Enters Tryz.prog 15:=enters Tryz.func15 rfl (by decide)
theorem W3:Enters Tryz.prog 25:=enters Tryz.func25 rfl (by decide)
theorem E67:Enters Tryz.prog 67:=enters Tryz.func67 rfl (by decide)
theorem E68:Enters Tryz.prog 68:=enters Tryz.func68 rfl (by decide)
theorem E69:Enters Tryz.prog 69:=enters Tryz.func69 rfl (by decide)
theorem WZ:Enters Tryz.prog 70:=enters Tryz.func70 rfl (by decide)
end TKSegF
open TKSegF
set_option maxRecDepth 10000
theorem ta {id:Int}:∀(fs:List Fd) (i:Nat) (out:List Fd),mq (id,out)=0→mq (id,mQ id i out fs)=0
 |[],_,_,h=>h
 |x::fs,i,out,h=>by
  unfold mQ
  split
  ·split
   ·rename_i h1;exact ta fs _ _ h1
   ·exact ta fs _ _ h
  ·exact h
theorem nL {id:Int}:∀(fs:List Fd) (i:Nat) (out:List Fd),qw out→qw (mQ id i out fs)
 |[],_,_,h=>h
 |x::fs,i,out,h=>by
  unfold mQ
  split
  ·rename_i hi
   split
   ·exact nL fs _ _ (h.snoc (vJ x hi))
   ·exact nL fs _ _ h
  ·exact h
theorem FA (d:Dc):mq (nY d)=0:=ta d.2 0 [] rfl
theorem BV (d:Dc):qw (nY d).2:=nL d.2 0 [] (fun x h=>by cases h)
theorem BW {e:En}:∀{L:List En} {last:Int},ym last (L++[e])=(ym last L&&decide (lN (mc last L) e=0))
 |[],last=>by show(decide (lN last e=0)&&true)=(true&&decide (lN last e=0));rw[Bool.and_true,fQ]
 |x::L,last=>by rw[List.cons_append];show(decide (lN last x=0)&&ym x.2 (L++[e]))=(decide (lN last x=0)&&ym x.2 L&&decide (lN (mc x.2 L) e=0));rw[BW (L:=L),Bool.and_assoc]
theorem wC {e:En}:∀{L:List En} {last:Int},mc last (L++[e])=e.2
 |[],_=>rfl
 |x::L,last=>by simp only[List.cons_append,mc];exact wC
theorem BX (l:List Dc) {a s:Int} (ha:0≤a) (hs:1≤s):∀k,ym (-1) (jx l a s k)=true∧mc (-1) (jx l a s k)<a+s*(k:Int)
 |0=>⟨rfl,by show(-1:Int)<_;simp;omega⟩
 |k+1=>by
  obtain⟨h1,h2⟩:=BX l ha hs k;have e1:a+s*((k+1:Nat):Int)=a+s*(k:Int)+s:=by rw[Int.natCast_add,Int.mul_add];simp;omega
  cases h:l[k]? with
  |none=>rw[vQ (List.getElem?_eq_none_iff.1 h),e1];exact⟨h1,by omega⟩
  |some d=>
   rw[vP h,BW,wC,h1,e1]
   have:lN (mc (-1) (jx l a s k)) (nY d,a+s*(k:Int))=0:=by
    unfold lN;rw[if_neg (fun h=>h (FA d)),if_neg (by show¬(a+s*(k:Int)≤_);omega)]
   exact⟨by rw[this];rfl,by show a+s*(k:Int)<_;omega⟩
theorem yu {l:List Dc} {a s:Int}:∀{k:Nat} {e:En},e∈jx l a s k→∃d,e.1=nY d
 |0,e,h=>by cases h
 |k+1,e,h=>by
  rw[jx]at h;rcases dy.1 h with h|h
  ·exact yu h
  ·split at h
   ·rename_i d _;rw[cI.1 h];exact⟨d,rfl⟩
   ·cases h
theorem wG {l:List Dc} {a s:Int} {k:Nat}:∀e∈jx l a s k,∀f∈e.1.2,f.1.length≤900000∧f.2.length≤900000:=fun e he f hf=>by
 obtain⟨d,hd⟩:=yu he;rw[hd]at hf;have:=BV d f hf;omega
abbrev Jd:List En:=[((4,[([116],[97])]),7)]
theorem BY:words [97]=[[97]]:=by
 have h:eR [97]=[97]:=by rw[nw (by simp)];simp[dec,AI,jE,jv,pv]
 unfold words;rw[h];simp[fw];rfl
theorem Va:ym (-1) Jd=true:=by
 have h:lN (-1) ((4,[([116],[97])]),7)=0:=by
  unfold lN mq;simp only[vH,BY];decide
 show(decide (lN (-1) ((4,[([116],[97])]),7)=0)&&true)=true;rw[h];rfl
theorem Je:bX [([116],[97])]=[(([116],[97]),0)]:=by
 show fL ([116],[97])++[]=_;unfold fL;rw[BY];rfl
theorem Vb:(pk Jd (dm ([116],[97]))).length=1:=by
 show(Ea 0 (bX [([116],[97])]) (dm ([116],[97]))++[]).length=1;rw[Je];decide
theorem zG {M:aL} (w0:World) (hM:Lt M w0):
  Spec Tryz.prog 23 #[] w0 (fun v w=>v= .bool true∧Step M w0 M w aE):=by
 refine bu (args:=[]) (fn:=Tryz.f23) Tryz.func23 rfl (n:=57) Tryz.ntmps23 ?_;have S:Step M w0 M w0 aE:=(ar _ _).cw (fun _ h=>h.elim) (fun _ h=>h.elim);refine al (aj (ak rfl rfl (ae (al (aj ?_)))));refine aP rfl rfl P0 (qE (L:=[]) _ hM iO (fun e h=>by cases h) (by decide) rfl) (fun r1 w1 hc=>?_);obtain⟨sa,rfl,FB,s1⟩:=hc;obtain⟨aa,rfl⟩:=FB.fk;replace hM:=s1.lt hM;have:=S.size;replace S:=S.aB s1;refine ah rfl rfl (bZ rfl rfl rfl (bZ rfl rfl rfl (ak rfl rfl (ak rfl rfl (ae (al (aj (eT (places:=[(0,1),(1,1)]) ca iK U9 rfl ⟨_,_,rfl,rfl,_,_,rfl,rfl,rfl⟩ (out:=[_,_]) ⟨0,[_],rfl,rfl,by simp[Value.cells],1,[_],rfl,rfl,by simp[Value.cells],rfl⟩ ?_))))))));refine eA (A:=RT.fd) (hn:=by decide) (M:=M) aS iK (by decide) rfl rfl hM (tW (t:=([116],[97])) (by decide) (by decide)) (.inl rfl) (fun Vc Y3 p8 CA=>?_);replace FB:=FB.le (by decide) CA.le;replace hM:=CA.lt hM;have:=S.size;replace S:=S.aB CA;refine eT (places:=[(0,1),(1,1)]) aO kQ Rx rfl ⟨_,_,rfl,rfl,_,_,rfl,rfl,rfl⟩ (out:=[_,_]) ⟨0,[_],rfl,rfl,by simp[Value.cells],1,[_],rfl,fM p8,by simp[Value.cells],rfl⟩ ?_;have Ru:RT.dc.V M _ (4,[([116],[97])]) (.agg #[.int .i64 4,Vc]):=eC (gC (by decide)) p8 rfl rfl rfl rfl;refine eT (places:=[(0,2),(2,1)]) cP xh XF rfl ⟨_,_,rfl,rfl,_,_,rfl,rfl,rfl⟩ (out:=[_,_,_]) ⟨0,[_,_],rfl,rfl,by simp[Value.cells],2,[_],rfl,rfl,by simp[Value.cells],rfl⟩ ?_;have hen:RT.en.V M _ ((4,[([116],[97])]),7) (.agg [.int .i64 4,Vc,.int .i64 7].toArray):=Hp Ru (by decide);refine eA (A:=RT.en) (hn:=by decide) (M:=M) dD xh (by decide) rfl rfl hM (hen) (.inl rfl) (fun akw Lg wH kH=>?_);replace FB:=FB.le (by decide) kH.le;replace p8:=p8.le kH.le;replace hM:=kH.lt hM;have:=S.size;replace S:=S.aB kH;refine aP rfl rfl P0 (qE (L:=Jd) _ hM wH (fun e he f hf=>by simp only[Jd,cI]at he;subst he;simp only[cI]at hf;subst hf;decide) (by decide) Va) (fun r2 w2 hc=>?_)
 obtain⟨sb,rfl,MX,s2⟩:=hc;obtain⟨ab,rfl⟩:=MX.fk;replace FB:=FB.le (by decide) s2.le;replace p8:=p8.le s2.le;replace wH:=wH.le s2.le;replace hM:=s2.lt hM;have:=S.size;replace S:=S.aB s2;refine ah rfl rfl (bZ rfl rfl rfl (bZ rfl rfl rfl (ak rfl rfl (ak rfl rfl (ae (al (al (aj (ah rfl rfl (Rg.xW Tryz.underlying25 rfl rfl rfl (ah rfl rfl ?_)))))))))));refine Rg.Cb (g:=20) rfl ((by simp)) (aq rfl rfl (ah rfl rfl (aq rfl rfl (Rg.xW Tryz.underlying25 rfl rfl rfl (aJ rfl rfl rfl (ae (T.zZ rfl ((by simp)) (aZ (al (aj (ah rfl rfl ?_)))))))))));refine mB rfl rfl rfl (ah rfl rfl (Rg.pP (g:=26) rfl (rfl) (aq rfl rfl (ah rfl rfl (aq rfl rfl ?_)))));refine aP rfl rfl E67 (yp _ FB) (fun r wc hc=>?_);obtain⟨rfl,rfl⟩:=hc;refine aq rfl rfl (mB rfl rfl rfl (aW rfl rfl rfl (ah rfl rfl (Rg.pP (g:=31) rfl (rfl) (aq rfl rfl (ah rfl rfl (aq rfl rfl ?_)))))));refine aP rfl rfl E68 (wx _ hM rfl (by decide) FB) (fun r9 w9 hc=>?_);obtain⟨hk9,s9⟩:=hc;replace FB:=FB.le (by decide) s9.le;replace p8:=p8.le s9.le;replace wH:=wH.le s9.le;replace MX:=MX.le (by decide) s9.le;replace hM:=s9.lt hM;have:=S.size;replace S:=S.aB s9;refine aq rfl rfl (bK aF rfl hk9 rfl (aq rfl rfl (mB rfl rfl rfl (aW rfl rfl rfl (ah rfl rfl (Rg.pP (g:=37) rfl (rfl) (aq rfl rfl (ah rfl rfl (aq rfl rfl (mB rfl rfl rfl (aW rfl rfl rfl ?_)))))))))));refine ah rfl rfl (Rg.pP (g:=41) rfl (rfl) (aq rfl rfl (ah rfl rfl (aq rfl rfl ?_))));refine aP rfl rfl E69 (BQ _ MX) (fun r wc hc=>?_);obtain⟨rfl,rfl⟩:=hc;refine aq rfl rfl (mB rfl rfl rfl (aW rfl rfl rfl (ah rfl rfl (Rg.pP (g:=46) rfl (rfl) (aq rfl rfl (ah rfl rfl (aq rfl rfl ?_)))))));refine aP rfl rfl WZ (yq _ MX) (fun r wc hc=>?_)
 obtain⟨rfl,rfl⟩:=hc;refine aq rfl rfl (mB rfl rfl rfl (aW rfl rfl rfl (ah rfl rfl (Rg.pP (g:=51) rfl (rfl) (aq rfl rfl (ah rfl rfl (aq rfl rfl (eT (places:=[(0,1),(1,1)]) bw jr XG rfl ⟨_,_,rfl,rfl,_,_,rfl,rfl,rfl⟩ (out:=[_,_]) ⟨0,[_],rfl,rfl,by simp[Value.cells],1,[_],rfl,rfl,by simp[Value.cells],rfl⟩ (aq rfl rfl ?_)))))))));refine aP rfl rfl W3 (tJ (ls:=(keysOf Jd).map (pk Jd)) (t:=([116],[97])) _ hM MX (kh Jd) rfl (by rw[cj];rfl) (by decide) (by decide)) (fun r30 w30 hc=>?_);obtain⟨rfl,Q4⟩:=hc;replace FB:=FB.le (by decide) Q4.le;replace p8:=p8.le Q4.le;replace wH:=wH.le Q4.le;replace MX:=MX.le (by decide) Q4.le;replace hM:=Q4.lt hM;have:=S.size;replace S:=S.aB Q4;refine aq rfl rfl (mB rfl rfl rfl (aW rfl rfl rfl (ak rfl rfl (ae (aQ ?_)))));have e:(ua (IF (iX Jd)).2.2.1 ((keysOf Jd).map (pk Jd)) (dm ([116],[97]))).length=1:=(congrArg List.length (I1 (L:=Jd) _)).trans Vb;exact aV rfl rfl ⟨by rw[e];rfl,S⟩
end Go.K
namespace Go.K
open Go.Proofs
namespace TKErsD
theorem U9:placesOf Tryz.prog 127=[(0,1),(1,1)].map some:=by kernel_rfl
theorem P0:Enters Tryz.prog 15:=enters Tryz.func15 rfl (by decide)
end TKErsD
open TKErsD
set_option maxRecDepth 10000
end Go.K
namespace Go.K
open Go.Proofs
namespace TKPlc
theorem P1:Enters Tryz.prog 148:=enters Tryz.func148 rfl (by decide)
end TKPlc
open TKPlc
set_option maxRecDepth 10000
def fB (fs:List Fd) (k:List UInt8):List (List UInt8):=match fs.find? (fun f=>decide (f.1=k))with|some f=>words f.2|none=>[]
theorem o6 {fs:List Fd} {k:List UInt8} {i:Nat} {x:Fd} (h:fs[i]? =some x) (hx:x.1=k) (jQ:∀(j:Nat) y,j<i→fs[j]? =some y→y.1≠k):fB fs k=words x.2:=by
 have:fs.find? (fun f=>decide (f.1=k))=some x:=by
  induction fs generalizing i with
  |nil=>simp at h
  |cons y fs ih=>
   cases i with
   |zero=>simp at h;subst h;simp[hx]
   |succ i=>
    rw[List.find?_cons_of_neg (by simpa using jQ 0 y (by omega) rfl)];exact ih (by simpa using h) (fun j z hj hz=>jQ (j+1) z (by omega) (by simpa using hz))
 unfold fB;rw[this]
theorem BZ {fs:List Fd} {k:List UInt8} (h:∀f∈fs,f.1.length≤900000∧f.2.length≤900000):(fB fs k).length≤900001:=by
 unfold fB
 split
 ·rename_i f hf
  have:=k3 f.2;have:=(h f (List.mem_of_find?_eq_some hf)).2;omega
 ·simp
theorem zH {fs:List Fd} {k:List UInt8} (jQ:∀y∈fs,y.1≠k):fB fs k=[]:=by
 unfold fB;rw[List.find?_eq_none.2 fun y hy=>by simpa using jQ y hy]
def xE (ws:List (List UInt8)) (x:List UInt8):List Int:=(ws.zipIdx.filter fun p=>decide (p.1=x)).map fun p=>(p.2:Int)
theorem yv {ws:List (List UInt8)} {x y:List UInt8} {i:Nat} (h:ws[i]? =some y):xE (ws.take (i+1)) x=if y=x then xE (ws.take i) x++[(i:Int)]else xE (ws.take i) x:=by
 have hi:=(aw.1 h).1;unfold xE;rw[bP,h,cn,List.zipIdx_append,List.filter_append,dH];simp only[bG,Nat.min_eq_left (Nat.le_of_lt hi),Nat.zero_add,List.zipIdx_cons,List.zipIdx_nil];by_cases e:y=x
 ·rw[if_pos e];simp[e]
 ·rw[if_neg e];simp[e]
theorem wI (ws:List (List UInt8)) (x:List UInt8):(xE ws x).length≤ws.length:=by
 unfold xE;rw[cj];exact dT (List.length_filter_le _ _) (by simp)
theorem tL {M:aL} {d:Dc} {k:List UInt8} {v0:Value} (w0:World) (hM:Lt M w0) (hd:RT.dc.V M w0 d v0) (hlen:∀f∈d.2,f.1.length≤900000∧f.2.length≤900000) (hdl:d.2.length≤1000000):
  Spec Tryz.prog 148 #[v0,sv k] w0 (fun v w=>(RT.str.sl).V M w (fB d.2 k) v∧Step M w0 M w aE):=by
 have gB:=hM;refine bu (args:=[_,_]) (fn:=Tryz.f148) Tryz.func148 rfl (n:=28) Tryz.ntmps148 ?_;have S:Step M w0 M w0 aE:=(ar _ _).cw (fun _ h=>h.elim) (fun _ h=>h.elim);refine al (aj ?_);refine iw (A:=RT.dc) (a:=d) rfl rfl hM hd rfl (fun u0 w1 cV s0 _=>?_);replace hM:=s0.lt hM;have:=S.size;replace S:=S.aB s0;refine ak rfl rfl (ae (al (al (aj (ak rfl rfl (ae (bh ?_)))))));refine dz (σ:=Nat) (fun i=>[(1,sv k),(2,u0),(5,.int .i64 (i:Int))]) (fun i w=>Step M w0 M w aE∧cc RT.dc M w u0 d∧i≤d.2.length∧(∀(j:Nat) y,j<i→d.2[j]? =some y→y.1≠k)) (fun i=>d.2.length-i) 0 (.cons rfl (.cons rfl (.cons rfl .nil))) ?_ ?_
 ·exact⟨S,cV,bH _,fun j y h=>absurd h (jn _)⟩
 ·clear S cV hM;rintro i w ⟨S,cV,hi,jQ⟩;have hM:=S.lt gB;refine al (al (aj (ah rfl rfl ?_)));refine ay (M:=M) (A:=RT.dc) (B:=(RT.fd).sl) aO rfl rfl pG (by decide) zf rfl rfl (by decide) cV (ao _ _) (fun u21 Jf=>?_);refine bg (M:=M) aS rfl rfl rfl rfl rfl Jf (ao _ _) (fun v22 FC=>?_);refine bK aS rfl FC rfl (cz rfl rfl rfl (ae ?_));refine bQ rfl (fun c2=>?_) (fun c2=>?_)
  ·refine aZ (al (bh (al (aj ?_))));obtain⟨fx,iH⟩:∃x,d.2[i]? =some x:=⟨_,av (by omega)⟩;have DH:=hlen _ (aG iH);refine ay (M:=M) (A:=RT.dc) (B:=(RT.fd).sl) aO rfl rfl pG (by decide) zf rfl rfl (by decide) cV (ao _ _) (fun u40 P2=>?_);refine bg (M:=M) aS rfl rfl rfl rfl rfl P2 (ao _ _) (fun v41 P3=>?_);refine ah rfl rfl ?_;refine cu (M:=M) aS iK rfl rfl rfl P3 (ao _ _) (by omega) (fun u43 x fU P4=>?_);rw[aC]at fU;obtain rfl:=aN (iH.symm.trans fU);refine ay (M:=M) (A:=RT.fd) (B:=RT.str) ca rfl rfl I9 (by decide) E2 rfl rfl (by decide) P4 (ao _ _) (fun u44 acj=>?_);refine bg (M:=M) aD rfl rfl rfl rfl rfl acj (ao _ _) (fun v45 ack=>?_);obtain rfl:=dP ack;refine ah rfl rfl (Rg.qJ rfl rfl rfl (ae ?_));refine bQ rfl (fun c4=>?_) (fun c4=>?_)
   ·refine al (aj ?_);refine ay (M:=M) (A:=RT.dc) (B:=(RT.fd).sl) aO rfl rfl pG (by decide) zf rfl rfl (by decide) cV (ao _ _) (fun u50 P5=>?_);refine bg (M:=M) aS rfl rfl rfl rfl rfl P5 (ao _ _) (fun v51 P7=>?_);refine ah rfl rfl ?_;refine cu (M:=M) aS iK rfl rfl rfl P7 (ao _ _) (by omega) (fun Vd x fU uc=>?_);rw[aC]at fU;obtain rfl:=aN (iH.symm.trans fU);refine ay (M:=M) (A:=RT.fd) (B:=RT.str) ca rfl rfl I9 (by decide) Md rfl rfl (by decide) uc (ao _ _) (fun u54 Jg=>?_);refine bg (M:=M) aD rfl rfl rfl rfl rfl Jg (ao _ _) (fun v55 zI=>?_);obtain rfl:=dP zI;refine aP rfl rfl RD (tx _ hM DH.2) (fun r6 w6 hc=>?_);obtain⟨hr6,s6⟩:=hc;replace cV:=cV.le (by decide) s6.le;replace hM:=s6.lt hM;have:=S.size;replace S:=S.aB s6;refine ak rfl rfl (ae (aQ ?_));exact aV rfl rfl ⟨by rw[o6 iH c4 jQ];exact hr6,S⟩
   ·refine aZ (aj (ah rfl rfl (bI rfl rfl rfl (by omega) (ak rfl rfl (ae ?_)))));refine⟨rfl,i+1,(.cons rfl (.cons rfl (.cons rfl .nil))),?_,?_⟩
    ·exact⟨S,cV,by omega,fun j y hj hy=>by
      rcases db j i with h|h
      ·exact jQ j y h hy
      ·rw[show j=i by omega,iH]at hy;cases hy;exact c4⟩
    ·omega
  ·refine cY (al (aj (ak rfl rfl (ae (aQ ?_)))));exact aV rfl rfl ⟨by rw[zH (fun y hy=>by obtain⟨j,hj⟩:=bN.1 hy;exact jQ j y (by have:=(aw.1 hj).1;omega) hj)];exact iO,S⟩
theorem B0 {M:aL} {d:Dc} {t:Fd} {v0 v1:Value} (w0:World) (hM:Lt M w0) (hd:RT.dc.V M w0 d v0) (hlen:∀f∈d.2,f.1.length≤900000∧f.2.length≤900000) (hdl:d.2.length≤1000000) (ht:RT.fd.V M w0 t v1):
  Spec Tryz.prog 104 #[v0,v1] w0 (fun v w=>((RT.int .i64).sl).V M w (xE (fB d.2 t.1) t.2) v∧Step M w0 M w aE):=by
 have gB:=hM;have DM:=zg ht;refine bu (args:=[_,_]) (fn:=Tryz.f104) Tryz.func104 rfl (n:=30) Tryz.ntmps104 ?_;have S:Step M w0 M w0 aE:=(ar _ _).cw (fun _ h=>h.elim) (fun _ h=>h.elim);refine al (aj ?_);refine iw (A:=RT.dc) (a:=d) rfl rfl hM hd rfl (fun u0 w1 cV s0 _=>?_);replace hd:=hd.le s0.le;replace ht:=ht.le s0.le;replace hM:=s0.lt hM;have:=S.size;replace S:=S.aB s0;refine iw (A:=RT.fd) (a:=t) rfl rfl hM ht rfl (fun u1 w2 kq s1 _=>?_);replace ht:=ht.le s1.le;replace cV:=cV.le (by decide) s1.le;replace hM:=s1.lt hM;have:=S.size;replace S:=S.aB s1;refine ak rfl rfl (ae (al (aj (ak rfl rfl (ae (al (aj ?_)))))));refine ch (M:=M) (A:=RT.dc) aO rfl kQ (by decide) rfl rfl rfl cV (ao _ _) (fun v20 acm=>?_);refine ay (M:=M) (A:=RT.fd) (B:=RT.str) bw rfl rfl I9 (by decide) E2 rfl rfl (by decide) kq (ao _ _) (fun u21 Jf=>?_);refine bg (M:=M) aD rfl rfl rfl rfl rfl Jf (ao _ _) (fun v22 FC=>?_);obtain rfl:=dP FC;refine aP rfl rfl P1 (tL _ hM acm hlen hdl) (fun r2 w2' hc=>?_);obtain⟨Af,s2⟩:=hc;have WI:=BZ (k:=t.1) hlen;replace cV:=cV.le (by decide) s2.le;replace kq:=kq.le (by decide) s2.le;replace hM:=s2.lt hM;have:=S.size;replace S:=S.aB s2;refine ak rfl rfl (ae (al (al (aj (ak rfl rfl (ae (bh ?_)))))));refine dz (σ:=Nat×Value) (fun q=>[(3,u1),(5,q.2),(6,r2),(7,.int .i64 (q.1:Int))]) (fun q w=>∃M',Lt M' w∧Step M w0 M' w aE∧Own (RT.int .i64) 3 M' w w0.heap.size q.2 (xE ((fB d.2 t.1).take q.1) t.2)∧(RT.str.sl).V M' w (fB d.2 t.1) r2∧cc RT.fd M' w u1 t∧q.1≤(fB d.2 t.1).length) (fun q=>(fB d.2 t.1).length-q.1) (0,.slice none 0 0) (.cons rfl (.cons rfl (.cons rfl (.cons rfl .nil)))) ?_ ?_
 ·exact⟨M,hM,S,dQ _ _ _ _ _,Af,kq,bH _⟩
 ·clear S cV kq Af hM;rintro⟨i,u⟩ w ⟨M1,hM,S,ho,Af,kq,hi⟩;dsimp only at ho hi ⊢;refine al (al (aj (ah rfl rfl (ah rfl rfl (bK aF rfl Af rfl (cz rfl rfl rfl (ae ?_)))))));refine bQ rfl (fun c4=>?_) (fun c4=>?_)
  ·refine aZ (al (bh (al ?_)));apply T.jh mixed rfl rfl;intro RU Ve;have qH:=Ve M1;replace Af:=Af.le qH.le;replace kq:=kq.le (by decide) qH.le;replace ho:=ho.a8 qH;replace hM:=qH.lt hM;have:=S.size;replace S:=S.aB qH;refine ah rfl rfl ?_;refine ae ⟨rfl,rfl,rfl,?_⟩;refine ah rfl rfl ?_;refine ae ⟨rfl,rfl,rfl,?_⟩;obtain⟨y,iH⟩:∃y,(fB d.2 t.1)[i]? =some y:=⟨_,av (by omega)⟩;refine cu (M:=M1) aF I9 rfl rfl rfl Af (ao _ _) (by omega) (fun u62 y' fU P8=>?_);rw[aC]at fU;obtain rfl:=aN (iH.symm.trans fU);refine ae ⟨rfl,rfl,rfl,?_⟩;refine bg (M:=M1) aD rfl rfl rfl rfl rfl P8 (ao _ _) (fun v63 P9=>?_);obtain rfl:=dP P9;refine ae ⟨rfl,rfl,rfl,?_⟩;refine ay (M:=M1) (A:=RT.fd) (B:=RT.str) bw rfl rfl I9 (by decide) Md rfl rfl (by decide) kq (ao _ _) (fun u64 Qa=>?_);refine ae ⟨rfl,rfl,rfl,?_⟩;refine bg (M:=M1) aD rfl rfl rfl rfl rfl Qa (ao _ _) (fun v65 acn=>?_);obtain rfl:=dP acn;refine ae ⟨rfl,rfl,rfl,?_⟩;refine Rg.qJ rfl rfl rfl ?_;refine ae ⟨rfl,rfl,rfl,?_⟩;refine dU ?_;refine bQ rfl (fun c6=>?_) (fun c6=>?_)
   ·refine aj (ah rfl rfl (ah rfl rfl ?_));refine eA (A:=RT.int .i64) (hn:=by decide) (M:=M1) ax I3 (by decide) rfl rfl hM (gC (by omega)) (.inr ⟨rfl,rfl⟩) (fun NP Z0 nT sO=>?_);replace Af:=Af.le sO.le;replace kq:=kq.le (by decide) sO.le;replace ho:=ho.a8 sO;replace hM:=sO.lt hM;have:=S.size;replace S:=S.aB sO;refine cv (M:=M1) (base:=w0.heap.size) ax I3 rfl rfl rfl rfl ho nT (ao _ _) (by have:=wI ((fB d.2 t.1).take i) t.2;rw[bG]at this;simp;omega) (by have:=wI ((fB d.2 t.1).take i) t.2;rw[bG]at this;simp;omega) (S.size) (fun Tp aco Vf Vg rD=>?_);replace Af:=Af.le rD.le;replace kq:=kq.le (by decide) rD.le;replace nT:=nT.le rD.le;replace hM:=rD.lt hM;have:=S.size;replace S:=S.cF rD ho (aT _);replace ho:=Vg;refine ak rfl rfl (ae (aj (ah rfl rfl (bI rfl rfl rfl (by omega) (ak rfl rfl (ae ?_))))));refine⟨rfl,(i+1,Tp),(.cons rfl (.cons rfl (.cons rfl (.cons rfl .nil)))),?_,?_⟩
    ·exact⟨aco,hM,S,by dsimp only;rw[yv iH,if_pos c6];exact ho,Af,kq,by dsimp only;omega⟩
    ·dsimp only;omega
   ·refine aZ (aj (ah rfl rfl (bI rfl rfl rfl (by omega) (ak rfl rfl (ae ?_)))));refine⟨rfl,(i+1,u),(.cons rfl (.cons rfl (.cons rfl (.cons rfl .nil)))),?_,?_⟩
    ·exact⟨M1,hM,S,by dsimp only;rw[yv iH,if_neg c6];exact ho,Af,kq,by dsimp only;omega⟩
    ·dsimp only;omega
  ·refine cY (al (aj (ah rfl rfl (ak rfl rfl (ae (aQ ?_))))));rw[a7 (by omega)]at ho;exact aV rfl rfl ⟨ho.close gB S (by have:=wI (fB d.2 t.1) t.2;omega),S.back⟩
end Go.K
namespace Go.K
open Go.Proofs
set_option maxRecDepth 10000
theorem wJ {M:aL} {a b:List (List UInt8)} {v u:Value} (w0:World) (hM:Lt M w0) (hv:((RT.str).sl).V M w0 a v) (hu:((RT.str).sl).V M w0 b u):
  Spec Tryz.prog 84 #[v,u] w0 (fun v' w'=>v'= .bool (decide (a=b))∧Step M w0 M w' aE):=by
 have gB:=hM;have LR:=dK hv;have hlb:=dK hu;refine bu (args:=[_,_]) (fn:=Tryz.f84) Tryz.func84 rfl (n:=26) Tryz.ntmps84 ?_;have S:Step M w0 M w0 aE:=(ar _ _).cw (fun _ h=>h.elim) (fun _ h=>h.elim);refine al (aj (ak rfl rfl (ae (al (al (aj (ah rfl rfl (bK aF rfl hv rfl (ah rfl rfl (bK aF rfl hu rfl (eS rfl rfl rfl ?_)))))))))));refine ae ?_;refine bQ rfl (fun c1=>?_) (fun c1=>?_)
 ·refine al (aj (ak rfl rfl (ae (aQ ?_))));exact aV rfl rfl ⟨congrArg Value.bool (decide_eq_false (fun e=>by subst e;exact c1 rfl)).symm,S⟩
 ·have hlen:a.length=b.length:=by omega
  refine aZ (al (al (aj (ak rfl rfl (ae (bh ?_))))));refine dz (σ:=Nat) (fun k=>[(0,v),(1,u),(5,.int .i64 (k:Int))]) (fun k w=>Step M w0 M w aE∧((RT.str).sl).V M w a v∧((RT.str).sl).V M w b u∧k≤a.length∧a.take k=b.take k) (fun k=>a.length-k) 0 (.cons rfl (.cons rfl (.cons rfl .nil))) ?_ ?_
  ·exact⟨S,hv,hu,bH _,rfl⟩
  ·clear S hv hu hM;rintro k w ⟨S,hv,hu,hk,heq⟩;have hM:=S.lt gB;refine al (al (aj (ah rfl rfl (ah rfl rfl (bK aF rfl hv rfl (cz rfl rfl rfl (ae ?_)))))));refine bQ rfl (fun c4=>?_) (fun c4=>?_)
   ·refine aZ (al (bh (al ?_)));apply T.jh mixed rfl rfl;intro RU Ve;have qH:=Ve M;replace hv:=hv.le qH.le;replace hu:=hu.le qH.le;replace hM:=qH.lt hM;have:=S.size;replace S:=S.aB qH;refine ah rfl rfl ?_;refine ae ⟨rfl,rfl,rfl,?_⟩;refine ah rfl rfl ?_;refine ae ⟨rfl,rfl,rfl,?_⟩;obtain⟨x,xo⟩:∃x,a[k]? =some x:=⟨_,av (by omega)⟩;obtain⟨y,xp⟩:∃y,b[k]? =some y:=⟨_,av (by omega)⟩;refine cu (M:=M) aF I9 rfl rfl rfl hv (ao _ _) (by omega) (fun u62 x_ fU P8=>?_);rw[aC]at fU;obtain rfl:=aN (xo.symm.trans fU);refine ae ⟨rfl,rfl,rfl,?_⟩;refine bg (M:=M) aD rfl rfl rfl rfl rfl P8 (ao _ _) (fun v63 P9=>?_);obtain rfl:=dP P9;refine ae ⟨rfl,rfl,rfl,?_⟩;refine ah rfl rfl ?_;refine ae ⟨rfl,rfl,rfl,?_⟩;refine ah rfl rfl ?_;refine ae ⟨rfl,rfl,rfl,?_⟩;refine cu (M:=M) aF I9 rfl rfl rfl hu (ao _ _) (by omega) (fun u66 x_ fU acp=>?_);rw[aC]at fU;obtain rfl:=aN (xp.symm.trans fU);refine ae ⟨rfl,rfl,rfl,?_⟩;refine bg (M:=M) aD rfl rfl rfl rfl rfl acp (ao _ _) (fun v67 acq=>?_);obtain rfl:=dP acq;refine ae ⟨rfl,rfl,rfl,?_⟩;refine Rg.LI rfl rfl rfl ?_;refine ae ⟨rfl,rfl,rfl,?_⟩;refine dU ?_;refine bQ rfl (fun c6=>?_) (fun c6=>?_)
    ·refine al (aj (ak rfl rfl (ae (aQ ?_))));exact aV rfl rfl ⟨congrArg Value.bool (decide_eq_false (fun e=>by subst e;rw[xo]at xp;cases xp;exact c6 rfl)).symm,S⟩
    ·refine aZ (aj (ah rfl rfl (bI rfl rfl rfl (by omega) (ak rfl rfl (ae ?_)))));refine⟨rfl,k+1,(.cons rfl (.cons rfl (.cons rfl .nil))),?_,?_⟩
     ·exact⟨S,hv,hu,by omega,by rw[bP,bP,heq,xo,xp,cU.1 c6]⟩
     ·omega
   ·refine cY (al (aj (ak rfl rfl (ae (aQ ?_)))));rw[a7 (by omega),a7 (by omega)]at heq;exact aV rfl rfl ⟨congrArg Value.bool (decide_eq_true heq).symm,S⟩
end Go.K
namespace Go.K
open Go.Proofs
namespace TKSegJ
theorem gz:TI Tryz.prog 107 (.slice none 0 0) 1 24:=by unfold TI;kernel_rfl
end TKSegJ
open TKSegJ
set_option maxRecDepth 10000
end Go.K
namespace Go.K
section
variable {P:Program} {r:Option Nat} {n:Nat} {L:Sl} {ds:List Deferred} {w:World} {K:Kt} {ops:Array Oper} {rest:List Oper} {d:Nat} {x y:Operand} {ty:TypeId} {pos:String} {af:Array Edge}
theorem kU {t:TypeId} (ht:P.underlying t=some .string) {cs:Array Value} {off:Nat} {v:Value} (hv:cs[off]? =some v):(part t cs off).run P w= .ok v w:=by
 have F2:(isAgg t).run P w= .ok false w:=by
  unfold isAgg;rw[bL,run_underlying ht w];simp
 unfold part;rw[bL,F2];simp[hv]
theorem B1 {t:TypeId} {f g:Field} {k:Nat} {xs ys:Array Value} {a b a' b':Value} {c e:Bool} (ht:P.underlying t=some (.struct #[f,g])) (hp:P.stoodInHeld t=false) (hn:f.name≠ "_") (Mp:g.name≠ "_")
  (p1:(part f.type xs f.offset).run P w= .ok a w) (p2:(part f.type ys f.offset).run P w= .ok b w) (p3:(part g.type xs g.offset).run P w= .ok a' w) (p4:(part g.type ys g.offset).run P w= .ok b' w)
  (h1:(Op.equalIn k f.type a b).run P w= .ok c w) (h2:(Op.equalIn k g.type a' b').run P w= .ok e w):(Op.equalIn (k+1) t (.agg xs) (.agg ys)).run P w= .ok (c&&e) w:=by
 have R8:P.fieldsOf t= #[f,g]:=by simp[Program.fieldsOf,ht]
 rw[run_equalIn_struct (P:=P) w k t xs ys (by rw[R8];exact ht) hp,R8];simp only[Op.eqFields,hn,Mp,ne_eq,not_false_eq_true,if_true,bL,p1,p2,p3,p4,h1,h2,cA]
 cases c
 ·simp
 ·simp only[kV,kB,if_false,bL,p3,p4,h2,cA]
  cases e<;>simp
theorem Ej (a b:List UInt8):((⟨a.toArray⟩:ByteArray).toList==(⟨b.toArray⟩:ByteArray).toList)=decide (a=b):=by
 rw[ByteArray.toList_eq,ByteArray.toList_eq];show(a==b)=_;by_cases h:a=b
 ·subst h;simp
 ·simp[h]
end
end Go.K
namespace Go.K
section
variable {P:Program} {r:Option Nat} {n:Nat} {L:Sl} {ds:List Deferred} {w:World} {K:Kt} {ops:Array Oper} {rest:List Oper} {d:Nat} {x y:Operand} {ty:TypeId} {pos:String} {af:Array Edge}
theorem FD {t:TypeId} {f' g':Field} (hu:P.underlying t=some (.struct #[f',g'])) (hpu:P.stoodInHeld t=false) (hm:f'.name≠ "_") (tQ:g'.name≠ "_")
  (o3:f'.offset=0) (o4:g'.offset=1) (s1:P.underlying f'.type=some .string) (s2:P.underlying g'.type=some .string) (a b a' b':List UInt8):
  (Op.equalIn 10000 t (.agg #[.string ⟨a.toArray⟩,.string ⟨b.toArray⟩]) (.agg #[.string ⟨a'.toArray⟩,.string ⟨b'.toArray⟩])).run P w= .ok (decide ((a,b)=(a',b'))) w:=by
 have h1:(Op.equalIn (9999+1) t (.agg #[.string ⟨a.toArray⟩,.string ⟨b.toArray⟩]) (.agg #[.string ⟨a'.toArray⟩,.string ⟨b'.toArray⟩])).run P w= .ok (decide (a=a')&&decide (b=b')) w:=
  B1 (k:=9998+1) (a:= .string ⟨a.toArray⟩) (b:= .string ⟨a'.toArray⟩) (a':= .string ⟨b.toArray⟩) (b':= .string ⟨b'.toArray⟩) hu hpu hm tQ (kU s1 (by rw[o3];rfl)) (kU s1 (by rw[o3];rfl)) (kU s2 (by rw[o4];rfl)) (kU s2 (by rw[o4];rfl))
   (by rw[run_equalIn_string w 9998 _ _ _ s1,Ej]) (by rw[run_equalIn_string w 9998 _ _ _ s2,Ej])
 rw[show(10000:Nat)=9999+1 from rfl,h1];congr 1;by_cases e1:a=a'<;>by_cases e2:b=b'<;>simp[e1,e2]
theorem Rg.acs {t t':TypeId} {f' g':Field} {p q:List UInt8×List UInt8} (hu:P.underlying t=some (.struct #[f',g'])) (hpu:P.stoodInHeld t=false) (hq:P.eqGuardType P.depth t=false) (hm:f'.name≠ "_") (tQ:g'.name≠ "_")
  (o3:f'.offset=0) (o4:g'.offset=1) (s1:P.underlying f'.type=some .string) (s2:P.underlying g'.type=some .string)
  (hx:ev L x=some (.agg #[.string ⟨p.1.toArray⟩,.string ⟨p.2.toArray⟩])) (hy:ev L y=some (.agg #[.string ⟨q.1.toArray⟩,.string ⟨q.2.toArray⟩])) (hd:Nat.blt d n=true)
  (k:Rg P r n ops rest ((d,.bool (decide (p=q)))::L) ds w K):
  Rg P r n ops ({dst:=some d,op:= .binOp .eql t x y t',type:=ty,pos,after:=af,guard:=none}::rest) L ds w K:=
 .op (fun _ h=>by cases h) rfl rfl hd _ w (fun ρ h=>by
  have he:(Op.equalIn 10000 t (.agg #[.string ⟨p.1.toArray⟩,.string ⟨p.2.toArray⟩]) (.agg #[.string ⟨q.1.toArray⟩,.string ⟨q.2.toArray⟩])).run P w= .ok (decide (p=q)) w:=FD (P:=P) (w:=w) hu hpu hm tQ o3 o4 s1 s2 p.1 p.2 q.1 q.2;simp only[execOp];rw[h x _ hx,h y _ hy];rw[bL,bL,run_eqGuard_agg (P:=P) w .eql t x y _ _ hq];simp only[run_eql_struct,he,cA,bL,dS]) k
variable {N:aL} {wd:World} {dst:Option Nat} {gd:Option (Nat×Bool)}
theorem bF.MY {t:TypeId} (hx:ev L x=some undef):bF P N wd L {dst,op:= .load t x,type:=ty,pos,after:=af,guard:=gd}:= .free fun ρ hρ=>by
 simp only[execOp,hρ x _ hx,undef];exact .halt fun P w a w' h=>by simp[Instr.loadAt,Instr.sureAddr,bL,stuck,Sem.run,Result.andThen]at h
theorem bF.Vh {t t':TypeId} (hx:ev L x=some undef):bF P N wd L {dst,op:= .binOp .sub t x y t',type:=ty,pos,after:=af,guard:=gd}:= .free fun ρ hρ=>by
 simp only[execOp,hρ x _ hx,undef];refine Loc.val (Loc.bind (.pure _) fun _=>?_)
 cases ρ y<;>exact .stuck _
end
end Go.K
namespace Go.K
open Go.Proofs
namespace TKPutA
theorem MZ:Enters Tryz.prog 94:=enters Tryz.func94 rfl (by decide)
end TKPutA
open TKPutA
set_option maxRecDepth 10000
theorem tb {α:Type} [DecidableEq α] {key:α→List UInt8} {t:α}:∀{l:List α} {i:Nat},sM key l→l[i]? =some t→iR key t l=l
 |[],_,_,h=>by simp at h
 |u::l,0,h,hi=>by
  simp at hi;subst hi;rw[iR,if_neg (ig _),if_pos rfl]
 |u::l,i+1,h,hi=>by
  obtain⟨h1,h2⟩:=iT.1 h;have gy:l[i]? =some t:=by simpa using hi
  have dW:=h1 t (aG gy);rw[iR,if_neg (iF dW),if_neg (fun e=>by subst e;exact ig _ dW),tb h2 gy]
theorem iG {α:Type} [DecidableEq α] {key:α→List UInt8} {t:α}:∀{l:List α} {k:Nat},(∀x∈l.drop k,key t<key x)→(∀x∈l.take k,¬key t<key x∧x≠t)→iR key t l=l.take k++t::l.drop k
 |[],_,_,_=>by simp[iR]
 |u::l,0,h,_=>by rw[iR,if_pos (h u (cx ..))];rfl
 |u::l,k+1,h,h'=>by
  obtain⟨h1,h2⟩:=h' u (by simp);rw[iR,if_neg h1,if_neg h2,iG (k:=k) (fun x hx=>h x (by simpa using hx)) (fun x hx=>h' x (by simp[hx]))];simp
theorem pC {α:Type} {key:α→List UInt8} {t y:α} {l:List α} {k:Nat} (h:sM key l) (hk:k≠0) (hy:l[k-1]? =some y) (h1: ¬key t<key y) (h2:y≠t):∀x∈l.take k,¬key t<key x∧x≠t:=fun x hx=>by
 obtain⟨i,hi,rfl⟩:=List.mem_iff_getElem.1 hx;rw[List.getElem_take];rw[bG]at hi;obtain⟨hy1,rfl⟩:=aw.1 hy;rcases db i (k-1)with dW|iH
 ·have:=List.pairwise_iff_getElem.1 h i (k-1) (by omega) hy1 dW;exact⟨fun hh=>h1 (j7 hh this),fun e=>h1 (e▸this)⟩
 ·have e:i=k-1:=by omega
  subst e;exact⟨h1,h2⟩
theorem Jh {l:List Fd} (h:∀t∈l,Fg t∧t.1.length≤12∧t.2.length≤30):sM dm (allBy dm l)∧(∀t∈allBy dm l,t.1.length≤1000000∧t.2.length≤1000000)∧(allBy dm l).length≤l.length:=by
 have h1:=nE (key:=dm) (S:=Fg) (fun a b=>rr) l [] (fun x hx=>(h x hx).1) (fun x hx=>by cases hx) List.Pairwise.nil
 have hm:∀t∈allBy dm l,t∈l:=fun t ht=>by
  have:=(h1.2 t).1 ht;simpa using this
 refine⟨h1.1,fun t ht=>?_,h1.1.nodup.length_le_of_subset hm⟩;have:=h t (hm t ht);omega
def mY (fs:List Fd) (x:Fd) (k:Nat):List Fd:=(bX fs).map (·.1)++((words x.2).take k).map fun y=>(x.1,y)
theorem yw (x:Fd):(fL x).map (·.1)=(words x.2).map fun y=>(x.1,y):=by
 unfold fL;rw[qa];show(words x.2).zipIdx.map ((fun y=>(x.1,y))∘Prod.fst)=_;rw[←qa,List.zipIdx_map_fst]
theorem yx {fs:List Fd} {x:Fd} {i:Nat} (h:fs[i]? =some x):mY (fs.take i) x (words x.2).length=(bX (fs.take (i+1))).map (·.1):=by
 unfold mY;rw[bP,h,cn,rQ];unfold bX;rw[List.flatMap_append,dH,←yw];simp
theorem yy {fs:List Fd} {x:Fd} {k:Nat} {y:List UInt8} (h:(words x.2)[k]? =some y):mY fs x (k+1)=mY fs x k++[(x.1,y)]:=by
 unfold mY;rw[bP,h,cn,dH,gZ];rfl
theorem Ek {d:Dc} (hf:ie d) {i:Nat} {x:Fd} (h:d.2[i]? =some x) (k:Nat):(∀t∈mY (d.2.take i) x k,Fg t∧t.1.length≤12∧t.2.length≤30)∧(mY (d.2.take i) x k).length≤500:=by
 have JM:∀t∈mY (d.2.take i) x k,∃p∈bX d.2,p.1=t:=fun t ht=>by
  rcases dy.1 ht with ht|ht
  ·obtain⟨p,hp,rfl⟩:=cg.1 ht;obtain⟨z,hz,hp⟩:=rN.1 hp;exact⟨p,rN.2 ⟨z,mg hz,hp⟩,rfl⟩
  ·obtain⟨y,hy,rfl⟩:=cg.1 ht;have hx:(x.1,y)∈(fL x).map (·.1):=by rw[yw];exact cg.2 ⟨y,mg hy,rfl⟩
   obtain⟨p,hp,e⟩:=cg.1 hx;exact⟨p,rN.2 ⟨x,aG h,hp⟩,e⟩
 refine⟨fun t ht=>?_,?_⟩
 ·obtain⟨p,hp,rfl⟩:=JM t ht;exact⟨hf.Fj p hp,hf.small p hp⟩
 ·have h1:(mY (d.2.take i) x k).length≤(mY (d.2.take i) x (words x.2).length).length:=by unfold mY;simp;omega
  rw[yx h,cj]at h1
  have h2:(bX (d.2.take (i+1))).length≤(bX d.2).length:=by
   have e:bX d.2=bX (d.2.take (i+1))++bX (d.2.drop (i+1)):=by unfold bX;rw[←List.flatMap_append,rF]
   rw[e,bM];omega
  have:=hf.many;omega
theorem FE {d:Dc} (hf:ie d) {i:Nat} {x:Fd} (h:d.2[i]? =some x):fB d.2 x.1=words x.2:=
 o6 h rfl fun j y hj hy e=>by
  obtain⟨h1,h2⟩:=aw.1 h;obtain⟨h3,h4⟩:=aw.1 hy;have:=List.pairwise_iff_getElem.1 hf.once j i (by simpa using h3) (by simpa using h1) hj;rw[List.getElem_map,List.getElem_map,h2,h4]at this;exact this e
theorem Ji {fs:List Fd} (h:(fs.map (·.1)).Nodup) (t:Fd):xE (fB fs t.1) t.2=posOf (bX fs) t:=by
 induction fs with
 |nil=>rfl
 |cons x fs ih=>
  have h':=List.nodup_cons.1 h;have e:posOf (bX (x::fs)) t=posOf (fL x) t++posOf (bX fs) t:=by show posOf (fL x++bX fs) t=_;rw[nF]
  by_cases hx:x.1=t.1
  ·rw[e,sN fun y hy e=>h'.1 (by have h9:y.1∈fs.map (·.1):=eZ hy;rw[e,←hx]at h9;exact h9),kK];rw[o6 (i:=0) (x:=x) rfl hx (fun j y hj=>absurd hj (jn _))];unfold xE posOf fL;rw[List.filter_map,qa];congr 1;refine List.filter_congr fun p _=> ?_
   show decide (p.1=t.2)=decide ((x.1,p.1)=t);refine decide_eq_decide.2 ⟨fun e=>?_,fun e=>?_⟩
   ·rw[hx,e]
   ·rw[←e]
  ·rw[e,qz hx,gm,←ih h'.2];congr 1;unfold fB;rw[List.find?_cons_of_neg (by simpa using hx)]
theorem zJ {M:aL} {l:List Fd} {t:Fd} {v0 v1:Value} (w0:World) (hM:Lt M w0) (hv:(RT.fd.sl).V M w0 l v0) (ht:RT.fd.V M w0 t v1) (mW:sM dm l) (hlen:∀x∈l,x.1.length≤1000000∧x.2.length≤1000000) (DM:t.1.length≤1000000∧t.2.length≤1000000) (hl:l.length≤1000000):
  Spec Tryz.prog 181 #[v0,v1] w0 (fun v w=>(RT.fd.sl).V M w (iR dm t l) v∧Step M w0 M w aE):=by
 have gB:=hM;refine bu (args:=[_,_]) (fn:=Tryz.f181) Tryz.func181 rfl (n:=50) Tryz.ntmps181 ?_;have S:Step M w0 M w0 aE:=(ar _ _).cw (fun _ h=>h.elim) (fun _ h=>h.elim);refine al (aj ?_);refine iw (A:=RT.fd) (a:=t) rfl rfl hM ht rfl (fun u3 w1 iQ s0 _=>?_);replace hv:=hv.le s0.le;replace ht:=ht.le s0.le;replace hM:=s0.lt hM;have:=S.size;replace S:=S.aB s0;refine ak rfl rfl (ae (al (aj (ah rfl rfl (bK bR rfl hv rfl (ak rfl rfl (ae (al (bh ?_)))))))));refine dz (σ:=Nat) (fun k=>[(0,v0),(3,u3),(5,.int .i64 (k:Int))]) (fun k w=>Step M w0 M w aE∧(RT.fd.sl).V M w l v0∧cc RT.fd M w u3 t∧k≤l.length∧∀x∈l.drop k,dm t<dm x) (fun k=>k) l.length (.cons rfl (.cons rfl (.cons rfl .nil))) ?_ ?_
 ·exact⟨S,hv,iQ,aT _,fun x h=>by simp at h⟩
 ·clear S hv iQ hM;rintro k w ⟨S,hv,iQ,hk,Cq⟩;have hM:=S.lt gB;refine al (al ?_);apply T.xU [0,1,2,3,5,6,7,8,9,4,10,11,12] 9 [4,5,6,7,8] 1 aE mixed
  ·simp+decide only[uN,pI,fo,qg,im,iq,jW,dx,ia,kL,cond_true,cond_false,Nat.reduceBEq,Nat.reduceAdd,beq_self_eq_true];rfl
  ·rfl
  ·rfl
  ·rfl
  ·rfl
  ·rfl
  ·rfl
  intro wD2 sA2;have FY:=sA2 M;replace hv:=hv.le FY.le;replace iQ:=iQ.le (by decide) FY.le;replace hM:=FY.lt hM;have:=S.size;replace S:=S.aB FY;refine ah rfl rfl ?_;refine ae ⟨rfl,rfl,rfl,?_⟩;refine lW rfl rfl rfl ?_;refine ae ⟨rfl,rfl,rfl,?_⟩;refine ah rfl rfl ?_;refine ae ⟨rfl,rfl,rfl,?_⟩;refine aR (g:=11) rfl (fun acu=>?_) (fun acu=>?_)
  ·refine aq rfl rfl ?_;refine ch (M:=M) (A:=RT.fd) bw rfl jr (by decide) rfl rfl rfl iQ (ao _ _) (fun v23 Qb=>?_);refine ae ⟨rfl,rfl,rfl,?_⟩;refine aq rfl rfl (ah rfl rfl ?_);refine ae ⟨rfl,rfl,rfl,?_⟩;refine aq rfl rfl (ah rfl rfl ?_);refine ae ⟨rfl,rfl,rfl,?_⟩;refine aq rfl rfl (gJ rfl rfl rfl (by omega) ?_);refine ae ⟨rfl,rfl,rfl,?_⟩;refine aq rfl rfl ?_;obtain⟨x,iH⟩:∃x,l[k-1]? =some x:=⟨_,av (by omega)⟩;have yI:=hlen _ (aG iH);refine cu (M:=M) bR jr rfl rfl rfl hv (ao _ _) (by omega) (fun u28 x_ fU Qd=>?_);rw[show((k:Int)-1).toNat=k-1 from by omega]at fU;obtain rfl:=aN (iH.symm.trans fU);refine ae ⟨rfl,rfl,rfl,?_⟩;refine aq rfl rfl ?_;refine ch (M:=M) (A:=RT.fd) bw rfl jr (by decide) rfl rfl rfl Qd (ao _ _) (fun v29 acv=>?_);refine ae ⟨rfl,rfl,rfl,?_⟩;refine dU ?_
   try (obtain⟨bb,oo,cs,ee,fr,rfl,ku,_⟩:=Qd.float)
   refine⟨ew ⟨eE,⟨eE,⟨(by first|exact bF.Vh rfl|exact bF.bin rfl rfl),⟨bF.idx,⟨(by first|exact dC rfl ku (fun h=>h)|exact bF.MY rfl),trivial⟩⟩⟩⟩⟩,?_⟩;have kp:=eU aE wD2;refine aq rfl rfl ?_;obtain rfl:v23=kv t:=gN Qb;refine aP rfl rfl MZ (py (t:=t) _ hM (by omega) (by omega)) (fun r24 agq hc=>?_);obtain⟨rfl,W4⟩:=hc;replace hv:=hv.le W4.le;replace iQ:=iQ.le (by decide) W4.le;replace hM:=W4.lt hM;have:=S.size;replace S:=S.aB W4;refine(fun(kp:dX _ _ _)=>ae ⟨rfl,rfl,fun _=>kp,?_⟩) (by first|exact kp|exact kp.mZ (by assumption)|exact kp.goN (by assumption)|exact kp.go (by assumption) (fun _ _ h=>by first|exact h|exact h.elim));refine aq rfl rfl ?_;obtain rfl:v29=kv x:=gN acv;refine aP rfl rfl MZ (py (t:=x) _ hM (by omega) (by omega)) (fun akE acw hc=>?_);obtain⟨rfl,Lu⟩:=hc;replace hv:=hv.le Lu.le;replace iQ:=iQ.le (by decide) Lu.le;replace hM:=Lu.lt hM;have:=S.size;replace S:=S.aB Lu;refine ae ⟨rfl,rfl,fun h=>absurd rfl h,?_⟩;refine aq rfl rfl (Rg.OX rfl rfl rfl ?_);refine ae ⟨rfl,rfl,fun h=>absurd rfl h,?_⟩;refine aW rfl rfl rfl ?_;refine ae ⟨rfl,rfl,fun h=>absurd rfl h,?_⟩;refine gY ?_;refine bQ rfl (fun c2=>?_) (fun c2=>?_)
   ·refine aZ (bh (aj (ah rfl rfl (gJ rfl rfl rfl (by omega) (ak rfl rfl (ae ?_))))));refine⟨rfl,k-1,(.cons rfl (.cons rfl (.cons (congrArg (fun z=>some (Value.int .i64 z)) (by omega)) .nil))),?_,?_⟩
    ·exact⟨S,hv,iQ,by omega,fun z hz=>by
      rw[show l.drop (k-1)=x::l.drop k from by rw[eB (by omega),(aw.1 iH).2,show k-1+1=k from by omega]]at hz;rcases dN.1 hz with rfl|hz
      ·exact c2
      ·exact Cq z hz⟩
    ·omega
   ·refine cY (al (al ?_));apply T.jh mixed rfl rfl;intro Gw K4;have lv:=K4 M;replace hv:=hv.le lv.le;replace iQ:=iQ.le (by decide) lv.le;replace hM:=lv.lt hM;have:=S.size;replace S:=S.aB lv;refine ah rfl rfl ?_;refine ae ⟨rfl,rfl,rfl,?_⟩;refine lW rfl rfl rfl ?_;refine ae ⟨rfl,rfl,rfl,?_⟩;refine ah rfl rfl ?_;refine ae ⟨rfl,rfl,rfl,?_⟩;refine aR (g:=26) rfl (fun pN=>?_) (fun pN=>?_)
    ·refine aq rfl rfl (ah rfl rfl ?_);refine ae ⟨rfl,rfl,rfl,?_⟩;refine aq rfl rfl (ah rfl rfl ?_);refine ae ⟨rfl,rfl,rfl,?_⟩;refine aq rfl rfl (gJ rfl rfl rfl (by omega) ?_);refine ae ⟨rfl,rfl,rfl,?_⟩;refine aq rfl rfl ?_;refine cu (M:=M) bR jr rfl rfl rfl hv (ao _ _) (by omega) (fun u46 x_ fU acx=>?_);rw[show((k:Int)-1).toNat=k-1 from by omega]at fU;obtain rfl:=aN (iH.symm.trans fU);refine ae ⟨rfl,rfl,rfl,?_⟩;refine aq rfl rfl ?_;refine ch (M:=M) (A:=RT.fd) bw rfl jr (by decide) rfl rfl rfl acx (ao _ _) (fun v47 acy=>?_);obtain rfl:v47=kv x:=gN acy;refine ae ⟨rfl,rfl,rfl,?_⟩;refine aq rfl rfl ?_;refine ch (M:=M) (A:=RT.fd) bw rfl jr (by decide) rfl rfl rfl iQ (ao _ _) (fun v48 acz=>?_);obtain rfl:v48=kv t:=gN acz;refine ae ⟨rfl,rfl,rfl,?_⟩;refine aq rfl rfl (Rg.acs (p:=x) (q:=t) bw (by kernel_rfl) (by kernel_rfl) (by decide) (by decide) rfl rfl aD aD rfl rfl rfl ?_);refine ae ⟨rfl,rfl,rfl,?_⟩;refine aW rfl rfl rfl ?_;refine ae ⟨rfl,rfl,rfl,?_⟩;refine dU ?_;refine bQ rfl (fun c4=>?_) (fun c4=>?_)
     ·refine al (aj (ah rfl rfl (ak rfl rfl (ae (aQ ?_)))));exact aV rfl rfl ⟨by rw[tb mW (c4▸iH)];exact hv,S⟩
     ·refine aZ (al (aj (ak rfl rfl (ae (al (aj (ah rfl rfl (ah rfl rfl (ah rfl rfl ?_)))))))));refine Rg.qN (M:=M) bR jr rfl rfl rfl hv (by omega) (fun u73 wK=>?_);rw[aC]at wK;refine cv (M:=M) (base:=w0.heap.size) (xs:=[]) bR jr rfl rfl rfl rfl (dQ _ _ _ _ _) wK (ao _ _) (by simp;omega) (by simp;omega) S.size (fun v7 M7 w7 ho s7=>?_);replace s7:=s7.cw (N':=aE) (fun b hb=>by unfold jC at hb;cases hb) (fun b h=>h.elim);replace hv:=hv.le s7.le;replace iQ:=iQ.le (by decide) s7.le;replace hM:=s7.lt hM;have:=S.size;replace S:=S.aB s7;refine ak rfl rfl (ae (al (aj (ah rfl rfl ?_))));refine ch (M:=M7) (A:=RT.fd) bw rfl jr (by decide) rfl rfl rfl iQ (ao _ _) (fun v81 Jj=>?_);refine eA (A:=RT.fd) (hn:=by decide) (M:=M7) bR jr (by decide) rfl rfl hM (Jj) (.inl rfl) (fun Vi Vj ky o9=>?_);replace hv:=hv.le o9.le;replace iQ:=iQ.le (by decide) o9.le;replace ho:=ho.a8 o9;replace hM:=o9.lt hM;have:=S.size;replace S:=S.aB o9;refine cv (M:=M7) (base:=w0.heap.size) bR jr rfl rfl rfl rfl ho ky (ao _ _) (by simp;omega) (by simp;omega) (S.size) (fun Vk B2 Vl B3 pb=>?_);replace hv:=hv.le pb.le;replace iQ:=iQ.le (by decide) pb.le;replace ky:=ky.le pb.le;replace hM:=pb.lt hM;have:=S.size;replace S:=S.cF pb ho (aT _);replace ho:=B3;refine ak rfl rfl (ae (al (aj (ah rfl rfl (ah rfl rfl (ah rfl rfl ?_))))));refine Rg.nf (M:=B2) bR jr rfl rfl rfl hv (by omega) (fun W5 ud=>?_);rw[aC]at ud;refine cv (M:=B2) (base:=w0.heap.size) bR jr rfl rfl rfl rfl ho ud (ao _ _) (by simp;omega) (by simp;omega) (S.size) (fun Cx Ks Ku vu jO=>?_);replace hv:=hv.le jO.le;replace iQ:=iQ.le (by decide) jO.le
      replace ky:=ky.le jO.le;replace hM:=jO.lt hM;have:=S.size;replace S:=S.cF jO ho (aT _);replace ho:=vu;refine ak rfl rfl (ae (aQ ?_));rw[gm,gZ,k5]at ho;rw[←iG Cq (by first|exact pC mW (by omega) iH c2 c4|exact fun x hx=>by rw[show k=0 by omega]at hx;cases hx)]at ho;exact aV rfl rfl ⟨il (hn:=by decide) gB S ho (by rw[iG Cq (by first|exact pC mW (by omega) iH c2 c4|exact fun x hx=>by rw[show k=0 by omega]at hx;cases hx)];simp;omega),S.back⟩
    ·refine au rfl rfl rfl rfl ?_;refine ae ⟨rfl,rfl,rfl,?_⟩;refine au rfl rfl rfl rfl ?_;refine ae ⟨rfl,rfl,rfl,?_⟩;refine au rfl rfl rfl rfl ?_;refine ae ⟨rfl,rfl,rfl,?_⟩;refine au rfl rfl rfl rfl ?_;refine ae ⟨rfl,rfl,rfl,?_⟩;refine au rfl rfl rfl rfl ?_;refine ae ⟨rfl,rfl,rfl,?_⟩;refine au rfl rfl rfl rfl ?_;refine ae ⟨rfl,rfl,rfl,?_⟩;refine au rfl rfl rfl rfl ?_;refine ae ⟨rfl,rfl,rfl,?_⟩;refine aJ rfl rfl rfl ?_;refine ae ⟨rfl,rfl,rfl,?_⟩;refine dU (iY rfl (aZ (al (aj (ak rfl rfl (ae (al (aj (ah rfl rfl (ah rfl rfl (ah rfl rfl ?_)))))))))));refine Rg.qN (M:=M) bR jr rfl rfl rfl hv (by omega) (fun u73 wK=>?_);rw[aC]at wK;refine cv (M:=M) (base:=w0.heap.size) (xs:=[]) bR jr rfl rfl rfl rfl (dQ _ _ _ _ _) wK (ao _ _) (by simp;omega) (by simp;omega) S.size (fun v7 M7 w7 ho s7=>?_);replace s7:=s7.cw (N':=aE) (fun b hb=>by unfold jC at hb;cases hb) (fun b h=>h.elim);replace hv:=hv.le s7.le;replace iQ:=iQ.le (by decide) s7.le;replace hM:=s7.lt hM;have:=S.size;replace S:=S.aB s7;refine ak rfl rfl (ae (al (aj (ah rfl rfl ?_))));refine ch (M:=M7) (A:=RT.fd) bw rfl jr (by decide) rfl rfl rfl iQ (ao _ _) (fun v81 Jj=>?_);refine eA (A:=RT.fd) (hn:=by decide) (M:=M7) bR jr (by decide) rfl rfl hM (Jj) (.inl rfl) (fun Vi Vj ky o9=>?_);replace hv:=hv.le o9.le;replace iQ:=iQ.le (by decide) o9.le;replace ho:=ho.a8 o9;replace hM:=o9.lt hM;have:=S.size;replace S:=S.aB o9;refine cv (M:=M7) (base:=w0.heap.size) bR jr rfl rfl rfl rfl ho ky (ao _ _) (by simp;omega) (by simp;omega) (S.size) (fun Vk B2 Vl B3 pb=>?_);replace hv:=hv.le pb.le;replace iQ:=iQ.le (by decide) pb.le;replace ky:=ky.le pb.le;replace hM:=pb.lt hM
     have:=S.size;replace S:=S.cF pb ho (aT _);replace ho:=B3;refine ak rfl rfl (ae (al (aj (ah rfl rfl (ah rfl rfl (ah rfl rfl ?_))))));refine Rg.nf (M:=B2) bR jr rfl rfl rfl hv (by omega) (fun W5 ud=>?_);rw[aC]at ud;refine cv (M:=B2) (base:=w0.heap.size) bR jr rfl rfl rfl rfl ho ud (ao _ _) (by simp;omega) (by simp;omega) (S.size) (fun Cx Ks Ku vu jO=>?_);replace hv:=hv.le jO.le;replace iQ:=iQ.le (by decide) jO.le;replace ky:=ky.le jO.le;replace hM:=jO.lt hM;have:=S.size;replace S:=S.cF jO ho (aT _);replace ho:=vu;refine ak rfl rfl (ae (aQ ?_));rw[gm,gZ,k5]at ho;rw[←iG Cq (by first|exact pC mW (by omega) iH c2 c4|exact fun x hx=>by rw[show k=0 by omega]at hx;cases hx)]at ho;exact aV rfl rfl ⟨il (hn:=by decide) gB S ho (by rw[iG Cq (by first|exact pC mW (by omega) iH c2 c4|exact fun x hx=>by rw[show k=0 by omega]at hx;cases hx)];simp;omega),S.back⟩
  ·refine au rfl rfl rfl rfl ?_;refine ae ⟨rfl,rfl,rfl,?_⟩;refine au rfl rfl rfl rfl ?_;refine ae ⟨rfl,rfl,rfl,?_⟩;refine au rfl rfl rfl rfl ?_;refine ae ⟨rfl,rfl,rfl,?_⟩;refine au rfl rfl rfl rfl ?_;refine ae ⟨rfl,rfl,rfl,?_⟩;refine au rfl rfl rfl rfl ?_;refine ae ⟨rfl,rfl,rfl,?_⟩;refine au rfl rfl rfl rfl ?_;refine ae ⟨rfl,rfl,rfl,?_⟩;refine dU ?_
   try (obtain⟨bb,oo,cs,ee,fr,rfl,ku,_⟩:=Qd.float)
   refine⟨ew ⟨eE,⟨eE,⟨(by first|exact bF.Vh rfl|exact bF.bin rfl rfl),⟨bF.idx,⟨(by first|exact dC rfl ku (fun h=>h)|exact bF.MY rfl),trivial⟩⟩⟩⟩⟩,?_⟩;have kp:=eU aE wD2;refine au rfl rfl rfl rfl ?_;refine(fun(kp:dX _ _ _)=>ae ⟨rfl,rfl,fun _=>kp,?_⟩) (by first|exact kp|exact kp.mZ (by assumption)|exact kp.goN (by assumption)|exact kp.go (by assumption) (fun _ _ h=>by first|exact h|exact h.elim));refine au rfl rfl rfl rfl ?_;refine ae ⟨rfl,rfl,fun h=>absurd rfl h,?_⟩;refine au rfl rfl rfl rfl ?_;refine ae ⟨rfl,rfl,fun h=>absurd rfl h,?_⟩;refine aJ rfl rfl rfl ?_;refine ae ⟨rfl,rfl,fun h=>absurd rfl h,?_⟩;refine gY (iY rfl (cY (al (al ?_))));apply T.jh mixed rfl rfl;intro Gw K4;have lv:=K4 M;replace hv:=hv.le lv.le;replace iQ:=iQ.le (by decide) lv.le;replace hM:=lv.lt hM;have:=S.size;replace S:=S.aB lv;refine ah rfl rfl ?_;refine ae ⟨rfl,rfl,rfl,?_⟩;refine lW rfl rfl rfl ?_;refine ae ⟨rfl,rfl,rfl,?_⟩;refine ah rfl rfl ?_;refine ae ⟨rfl,rfl,rfl,?_⟩;refine aR (g:=26) rfl (fun pN=>?_) (fun pN=>?_)
   ·omega
   ·refine au rfl rfl rfl rfl ?_;refine ae ⟨rfl,rfl,rfl,?_⟩;refine au rfl rfl rfl rfl ?_;refine ae ⟨rfl,rfl,rfl,?_⟩;refine au rfl rfl rfl rfl ?_;refine ae ⟨rfl,rfl,rfl,?_⟩;refine au rfl rfl rfl rfl ?_;refine ae ⟨rfl,rfl,rfl,?_⟩;refine au rfl rfl rfl rfl ?_;refine ae ⟨rfl,rfl,rfl,?_⟩;refine au rfl rfl rfl rfl ?_;refine ae ⟨rfl,rfl,rfl,?_⟩;refine au rfl rfl rfl rfl ?_;refine ae ⟨rfl,rfl,rfl,?_⟩;refine aJ rfl rfl rfl ?_;refine ae ⟨rfl,rfl,rfl,?_⟩;refine dU (iY rfl (aZ (al (aj (ak rfl rfl (ae (al (aj (ah rfl rfl (ah rfl rfl (ah rfl rfl ?_)))))))))));refine Rg.qN (M:=M) bR jr rfl rfl rfl hv (by omega) (fun u73 wK=>?_);rw[aC]at wK;refine cv (M:=M) (base:=w0.heap.size) (xs:=[]) bR jr rfl rfl rfl rfl (dQ _ _ _ _ _) wK (ao _ _) (by simp;omega) (by simp;omega) S.size (fun v7 M7 w7 ho s7=>?_);replace s7:=s7.cw (N':=aE) (fun b hb=>by unfold jC at hb;cases hb) (fun b h=>h.elim);replace hv:=hv.le s7.le;replace iQ:=iQ.le (by decide) s7.le;replace hM:=s7.lt hM;have:=S.size;replace S:=S.aB s7;refine ak rfl rfl (ae (al (aj (ah rfl rfl ?_))));refine ch (M:=M7) (A:=RT.fd) bw rfl jr (by decide) rfl rfl rfl iQ (ao _ _) (fun v81 Jj=>?_);refine eA (A:=RT.fd) (hn:=by decide) (M:=M7) bR jr (by decide) rfl rfl hM (Jj) (.inl rfl) (fun Vi Vj ky o9=>?_);replace hv:=hv.le o9.le;replace iQ:=iQ.le (by decide) o9.le;replace ho:=ho.a8 o9;replace hM:=o9.lt hM;have:=S.size;replace S:=S.aB o9;refine cv (M:=M7) (base:=w0.heap.size) bR jr rfl rfl rfl rfl ho ky (ao _ _) (by simp;omega) (by simp;omega) (S.size) (fun Vk B2 Vl B3 pb=>?_);replace hv:=hv.le pb.le;replace iQ:=iQ.le (by decide) pb.le;replace ky:=ky.le pb.le;replace hM:=pb.lt hM;have:=S.size
    replace S:=S.cF pb ho (aT _);replace ho:=B3;refine ak rfl rfl (ae (al (aj (ah rfl rfl (ah rfl rfl (ah rfl rfl ?_))))));refine Rg.nf (M:=B2) bR jr rfl rfl rfl hv (by omega) (fun W5 ud=>?_);rw[aC]at ud;refine cv (M:=B2) (base:=w0.heap.size) bR jr rfl rfl rfl rfl ho ud (ao _ _) (by simp;omega) (by simp;omega) (S.size) (fun Cx Ks Ku vu jO=>?_);replace hv:=hv.le jO.le;replace iQ:=iQ.le (by decide) jO.le;replace ky:=ky.le jO.le;replace hM:=jO.lt hM;have:=S.size;replace S:=S.cF jO ho (aT _);replace ho:=vu;refine ak rfl rfl (ae (aQ ?_));rw[gm,gZ,k5]at ho;rw[←iG Cq (by first|exact pC mW (by omega) iH c2 c4|exact fun x hx=>by rw[show k=0 by omega]at hx;cases hx)]at ho;exact aV rfl rfl ⟨il (hn:=by decide) gB S ho (by rw[iG Cq (by first|exact pC mW (by omega) iH c2 c4|exact fun x hx=>by rw[show k=0 by omega]at hx;cases hx)];simp;omega),S.back⟩
end Go.K
namespace Go.K
open Go.Proofs
namespace TKPutB
theorem P1:Enters Tryz.prog 148:=enters Tryz.func148 rfl (by decide)
theorem acB:Enters Tryz.prog 181:=enters Tryz.func181 rfl (by decide)
end TKPutB
open TKPutB
set_option maxRecDepth 10000
theorem tM {M:aL} {d:Dc} {v0:Value} (w0:World) (hM:Lt M w0) (hd:RT.dc.V M w0 d v0) (hf:ie d) (hlen:∀f∈d.2,f.1.length≤900000∧f.2.length≤900000):
  Spec Tryz.prog 133 #[v0] w0 (fun v w=>(RT.fd.sl).V M w (cq (bX d.2)) v∧Step M w0 M w aE):=by
 have gB:=hM;have hdl:d.2.length≤1000000:=by have:=hf.few;omega
 refine bu (args:=[_]) (fn:=Tryz.f133) Tryz.func133 rfl (n:=42) Tryz.ntmps133 ?_;have S:Step M w0 M w0 aE:=(ar _ _).cw (fun _ h=>h.elim) (fun _ h=>h.elim);refine al (aj ?_);refine iw (A:=RT.dc) (a:=d) rfl rfl hM hd rfl (fun u1 w1 kq s0 _=>?_);replace hd:=hd.le s0.le;replace hM:=s0.lt hM;have:=S.size;replace S:=S.aB s0;refine ak rfl rfl (ae (al (aj (ak rfl rfl (ae (al (al (aj (ak rfl rfl (ae (bh ?_)))))))))));refine dz (σ:=Nat×Value) (fun q=>[(1,u1),(3,q.2),(4,.int .i64 (q.1:Int))]) (fun q w=>Step M w0 M w aE∧cc RT.dc M w u1 d∧(RT.fd.sl).V M w (allBy dm ((bX (d.2.take q.1)).map (·.1))) q.2∧q.1≤d.2.length) (fun q=>d.2.length-q.1) (0,.slice none 0 0) (.cons rfl (.cons rfl (.cons rfl .nil))) ?_ ?_
 ·exact⟨S,kq,iO,bH _⟩
 ·clear S kq hM;rintro⟨i,u⟩ w ⟨S,kq,hu,hi⟩;dsimp only at hu hi ⊢;have hM:=S.lt gB;refine al (al (aj (ah rfl rfl ?_)));refine ay (M:=M) (A:=RT.dc) (B:=(RT.fd).sl) aO rfl rfl pG (by decide) zf rfl rfl (by decide) kq (ao _ _) (fun u31 acC=>?_);refine bg (M:=M) aS rfl rfl rfl rfl rfl acC (ao _ _) (fun v32 acD=>?_);refine bK aS rfl acD rfl (cz rfl rfl rfl (ae ?_));refine bQ rfl (fun c3=>?_) (fun c3=>?_)
  ·refine aZ (al (bh (al ?_)));apply T.DK 7 mixed rfl rfl rfl rfl rfl;intro L3 K7;have pL:=K7 M;replace kq:=kq.le (by decide) pL.le;replace hu:=hu.le pL.le;replace hM:=pL.lt hM;have:=S.size;replace S:=S.aB pL;obtain⟨x,iH⟩:∃x,d.2[i]? =some x:=⟨_,av (by omega)⟩;refine ch (M:=M) (A:=RT.dc) aO rfl kQ (by decide) rfl rfl rfl kq (ao _ _) (fun v50 acE=>?_);refine ae ⟨rfl,rfl,rfl,?_⟩;refine ay (M:=M) (A:=RT.dc) (B:=(RT.fd).sl) aO rfl rfl pG (by decide) zf rfl rfl (by decide) kq (ao _ _) (fun u51 acF=>?_);refine ae ⟨rfl,rfl,rfl,?_⟩;refine bg (M:=M) aS rfl rfl rfl rfl rfl acF (ao _ _) (fun v52 acG=>?_);refine ae ⟨rfl,rfl,rfl,?_⟩;refine ah rfl rfl ?_;refine ae ⟨rfl,rfl,rfl,?_⟩;refine cu (M:=M) aS iK rfl rfl rfl acG (ao _ _) (by omega) (fun u54 x_ fU Jg=>?_);rw[aC]at fU;obtain rfl:=aN (iH.symm.trans fU);refine ae ⟨rfl,rfl,rfl,?_⟩;refine ay (M:=M) (A:=RT.fd) (B:=RT.str) ca rfl rfl I9 (by decide) E2 rfl rfl (by decide) Jg (ao _ _) (fun u55 Qe=>?_);refine ae ⟨rfl,rfl,rfl,?_⟩;refine bg (M:=M) aD rfl rfl rfl rfl rfl Qe (ao _ _) (fun v56 acH=>?_);obtain rfl:=dP acH;refine ae ⟨rfl,rfl,rfl,?_⟩;refine dU ?_;refine aP rfl rfl P1 (tL _ hM acE hlen hdl) (fun r5 w5 hc=>?_);obtain⟨lZ,s5⟩:=hc;rw[FE hf iH]at lZ;have WI:=k3 x.2;have yI:=hlen _ (aG iH);replace kq:=kq.le (by decide) s5.le;replace hu:=hu.le s5.le;replace hM:=s5.lt hM;have:=S.size;replace S:=S.aB s5;refine ak rfl rfl (ae (al (aj (ak rfl rfl (ae (bh ?_))))));refine dz (σ:=Nat×Value) (fun q=>[(1,u1),(3,q.2),(4,.int .i64 (i:Int)),(5,r5),(6,.int .i64 (q.1:Int))]) (fun q w=>Step M w0 M w aE∧cc RT.dc M w u1 d∧(RT.fd.sl).V M w (allBy dm (mY (d.2.take i) x q.1)) q.2∧(RT.str.sl).V M w (words x.2) r5∧q.1≤(words x.2).length) (fun q=>(words x.2).length-q.1) (0,u) (.cons rfl (.cons rfl (.cons rfl (.cons rfl (.cons rfl .nil))))) ?_ ?_
   ·exact⟨S,kq,by unfold mY;simpa using hu,lZ,bH _⟩
   ·clear S kq hM lZ hu;rintro⟨k,u2⟩ w ⟨S,kq,hu,lZ,hk⟩;dsimp only at hu hk ⊢;have hM:=S.lt gB;refine al (al (aj (ah rfl rfl (ah rfl rfl (bK aF rfl lZ rfl (cz rfl rfl rfl (ae ?_)))))));refine bQ rfl (fun c7=>?_) (fun c7=>?_)
    ·refine aZ (al (bh ?_));apply T.DK 12 mixed rfl rfl rfl rfl rfl;intro L5 UZ;have yY:=UZ M;replace kq:=kq.le (by decide) yY.le;replace hu:=hu.le yY.le;replace lZ:=lZ.le yY.le;replace hM:=yY.lt hM;have:=S.size;replace S:=S.aB yY;refine ah rfl rfl ?_;refine ae ⟨rfl,rfl,rfl,?_⟩;obtain⟨y,xp⟩:∃y,(words x.2)[k]? =some y:=⟨_,av (by omega)⟩;refine ay (M:=M) (A:=RT.dc) (B:=(RT.fd).sl) aO rfl rfl pG (by decide) zf rfl rfl (by decide) kq (ao _ _) (fun u91 acI=>?_);refine ae ⟨rfl,rfl,rfl,?_⟩;refine bg (M:=M) aS rfl rfl rfl rfl rfl acI (ao _ _) (fun v92 acJ=>?_);refine ae ⟨rfl,rfl,rfl,?_⟩;refine ah rfl rfl ?_;refine ae ⟨rfl,rfl,rfl,?_⟩;refine cu (M:=M) aS iK rfl rfl rfl acJ (ao _ _) (by omega) (fun u94 x_ fU acK=>?_);rw[aC]at fU;obtain rfl:=aN (iH.symm.trans fU);refine ae ⟨rfl,rfl,rfl,?_⟩;refine ay (M:=M) (A:=RT.fd) (B:=RT.str) ca rfl rfl I9 (by decide) E2 rfl rfl (by decide) acK (ao _ _) (fun u95 Qf=>?_);refine ae ⟨rfl,rfl,rfl,?_⟩;refine bg (M:=M) aD rfl rfl rfl rfl rfl Qf (ao _ _) (fun v96 Qg=>?_);obtain rfl:=dP Qg;refine ae ⟨rfl,rfl,rfl,?_⟩;refine ah rfl rfl ?_;refine ae ⟨rfl,rfl,rfl,?_⟩;refine ah rfl rfl ?_;refine ae ⟨rfl,rfl,rfl,?_⟩;refine cu (M:=M) aF I9 rfl rfl rfl lZ (ao _ _) (by omega) (fun u99 x_ fU acL=>?_);rw[aC]at fU;obtain rfl:=aN (xp.symm.trans fU);refine ae ⟨rfl,rfl,rfl,?_⟩;refine bg (M:=M) aD rfl rfl rfl rfl rfl acL (ao _ _) (fun akK Vm=>?_);obtain rfl:=dP Vm;refine ae ⟨rfl,rfl,rfl,?_⟩;refine eT (places:=[(0,1),(1,1)]) bw jr XG rfl ⟨_,_,rfl,rfl,_,_,rfl,rfl,rfl⟩ (out:=[_,_]) ⟨0,[_],rfl,rfl,by simp[Value.cells],1,[_],rfl,rfl,by simp[Value.cells],rfl⟩ ?_
     refine ae ⟨rfl,rfl,rfl,?_⟩;refine dU ?_;obtain⟨kO,WD⟩:=Ek hf iH k;obtain⟨mW,yG,hle⟩:=Jh kO;obtain⟨_,hn1,hn2⟩:=(Ek hf iH (k+1)).1 (x.1,y) (by rw[yy xp];simp);have htv:RT.fd.V M L5 (x.1,y) (kv (x.1,y)):=eC (jG.2 ⟨rfl,by dsimp only at hn1;omega⟩) (jG.2 ⟨rfl,by dsimp only at hn2;omega⟩) rfl rfl rfl rfl;refine aP rfl rfl acB (zJ (t:=(x.1,y)) _ hM hu htv mW yG ⟨by omega,by omega⟩ (by omega)) (fun r9 w9 hc=>?_);obtain⟨Vn,s9⟩:=hc;rw[←vV,←yy xp]at Vn;replace kq:=kq.le (by decide) s9.le;replace hu:=hu.le s9.le;replace lZ:=lZ.le s9.le;replace hM:=s9.lt hM;have:=S.size;replace S:=S.aB s9;refine ak rfl rfl (ae (aj (ah rfl rfl (bI rfl rfl rfl (by omega) (ak rfl rfl (ae ?_))))));refine⟨rfl,(k+1,r9),(.cons rfl (.cons rfl (.cons rfl (.cons rfl (.cons rfl .nil))))),?_,?_⟩
     ·exact⟨S,kq,Vn,lZ,by dsimp only;omega⟩
     ·dsimp only;omega
    ·refine cY (aj (ah rfl rfl (bI rfl rfl rfl (by omega) (ak rfl rfl (ae ?_)))));refine⟨rfl,(i+1,u2),(.cons rfl (.cons rfl (.cons rfl .nil))),?_,?_⟩
     ·exact⟨S,kq,by dsimp only;rw[←yx iH,←show k=(words x.2).length by omega];exact hu,by dsimp only;omega⟩
     ·dsimp only;omega
  ·refine cY (al (aj (ah rfl rfl (ak rfl rfl (ae (aQ ?_))))));rw[a7 (by omega)]at hu;exact aV rfl rfl ⟨hu,S⟩
end Go.K
namespace Go.K
open Go.Proofs
namespace TKPutC
theorem acM:Enters Tryz.prog 182:=enters Tryz.func182 rfl (by decide)
end TKPutC
open TKPutC
set_option maxRecDepth 10000
theorem Jk (l:List (List UInt8)):xa (allBy id l)∧(allBy id l).length≤l.length∧∀k,k∈allBy id l↔k∈l:=by
 have h1:=nE (key:=id) (S:=fun _=>True) (fun a b _ _ h=>h) l [] (fun _ _=>trivial) (fun _ _=>trivial) List.Pairwise.nil
 have hm:∀t,t∈allBy id l↔t∈l:=fun t=>by
  have:=h1.2 t;unfold allBy;simpa using this
 have hu:xa (allBy id l):=h1.1;exact⟨hu,hu.nodup.length_le_of_subset (fun t ht=>(hm t).1 ht),hm⟩
theorem B4 {M:aL} {l:List (List UInt8)} {k:List UInt8} {v0:Value} (w0:World) (hM:Lt M w0) (hv:(RT.str.sl).V M w0 l v0) (hl:l.length≤1000000000):
  Spec Tryz.prog 182 #[v0,sv k] w0 (fun v w=>(∃i:Nat,v= .tuple #[.int .i64 (i:Int),.bool (decide (l[i]? =some k))]∧i≤l.length∧(∀x∈l.take i,x<k)∧∀x,l[i]? =some x→¬x<k)∧Step M w0 M w aE):=by
 have gB:=hM;refine bu (args:=[_,_]) (fn:=Tryz.f182) Tryz.func182 rfl (n:=28) Tryz.ntmps182 ?_;have S:Step M w0 M w0 aE:=(ar _ _).cw (fun _ h=>h.elim) (fun _ h=>h.elim);refine al (aj (ak rfl rfl (ak rfl rfl (ae (al (al (aj (ak rfl rfl (ae (bh ?_))))))))));refine dz (σ:=Nat) (fun i=>[(0,v0),(1,sv k),(6,.int .i64 (i:Int))]) (fun i w=>Step M w0 M w aE∧(RT.str.sl).V M w l v0∧i≤l.length∧∀x∈l.take i,x<k) (fun i=>l.length-i) 0 (.cons rfl (.cons rfl (.cons rfl .nil))) ?_ ?_
 ·exact⟨S,hv,bH _,fun x h=>by simp at h⟩
 ·clear S hv hM;rintro i w ⟨S,hv,hi,EP⟩;have hM:=S.lt gB;refine al (al (aj (ah rfl rfl (ah rfl rfl (bK aF rfl hv rfl (cz rfl rfl rfl (ae ?_)))))));refine bQ rfl (fun c2=>?_) (fun c2=>?_)
  ·refine aZ (al (bh (al (aj (ah rfl rfl (ah rfl rfl ?_))))));obtain⟨x,iH⟩:∃x,l[i]? =some x:=⟨_,av (by omega)⟩;refine cu (M:=M) aF I9 rfl rfl rfl hv (ao _ _) (by omega) (fun u42 x_ fU acN=>?_);rw[aC]at fU;obtain rfl:=aN (iH.symm.trans fU);refine bg (M:=M) aD rfl rfl rfl rfl rfl acN (ao _ _) (fun v43 acO=>?_);obtain rfl:=dP acO;refine ah rfl rfl (Rg.HY rfl rfl rfl (ae ?_));refine bQ rfl (fun c4=>?_) (fun c4=>?_)
   ·refine al ?_;apply T.jh mixed rfl rfl;intro L3 K7;have pL:=K7 M;replace hv:=hv.le pL.le;replace hM:=pL.lt hM;have:=S.size;replace S:=S.aB pL;refine ah rfl rfl ?_;refine ae ⟨rfl,rfl,rfl,?_⟩;refine ah rfl rfl ?_;refine ae ⟨rfl,rfl,rfl,?_⟩;refine ah rfl rfl ?_;refine ae ⟨rfl,rfl,rfl,?_⟩;refine cu (M:=M) aF I9 rfl rfl rfl hv (ao _ _) (by omega) (fun Vd x_ fU uc=>?_);rw[aC]at fU;obtain rfl:=aN (iH.symm.trans fU);refine ae ⟨rfl,rfl,rfl,?_⟩;refine bg (M:=M) aD rfl rfl rfl rfl rfl uc (ao _ _) (fun v54 Dn=>?_);obtain rfl:=dP Dn;refine ae ⟨rfl,rfl,rfl,?_⟩;refine ah rfl rfl ?_;refine ae ⟨rfl,rfl,rfl,?_⟩;refine Rg.qJ rfl rfl rfl ?_;refine ae ⟨rfl,rfl,rfl,?_⟩;refine ak rfl rfl ?_;refine ae ⟨rfl,rfl,rfl,?_⟩;refine ak rfl rfl ?_;refine ae ⟨rfl,rfl,rfl,?_⟩;refine dU (aQ ?_);exact fa rfl rfl rfl ⟨⟨i,by rw[iH];first|rfl|simp,by omega,EP,fun z hz=>by rw[iH]at hz;cases hz;exact c4⟩,S⟩
   ·refine aZ (aj (ah rfl rfl (bI rfl rfl rfl (by omega) (ak rfl rfl (ae ?_)))));refine⟨rfl,i+1,(.cons rfl (.cons rfl (.cons rfl .nil))),?_,?_⟩
    ·exact⟨S,hv,by omega,fun z hz=>by
      rw[bP,iH,cn]at hz;rcases dy.1 hz with hz|hz
      ·exact EP z hz
      ·rw[cI.1 hz];exact cU.1 c4⟩
    ·omega
  ·refine cY (al (aj (ah rfl rfl (bK aF rfl hv rfl (ak rfl rfl (ak rfl rfl (ae (aQ ?_))))))));exact fa rfl rfl rfl ⟨⟨l.length,by rw[eM (aT _)];rfl,aT _,by rw[a7 (by omega)]at EP;rwa [a7 (aT _)],fun z hz=>by rw[eM (aT _)]at hz;cases hz⟩,S⟩
theorem FF {M:aL} {l:List (List UInt8)} {k:List UInt8} {v0:Value} (w0:World) (hM:Lt M w0) (hv:(RT.str.sl).V M w0 l v0) (mW:xa l) (hk:k.length≤140737488355328) (hl:l.length≤1000000000):
  Spec Tryz.prog 134 #[v0,sv k] w0 (fun v w=>(RT.str.sl).V M w (iR id k l) v∧Step M w0 M w aE):=by
 have gB:=hM;refine bu (args:=[_,_]) (fn:=Tryz.f134) Tryz.func134 rfl (n:=30) Tryz.ntmps134 ?_;have S:Step M w0 M w0 aE:=(ar _ _).cw (fun _ h=>h.elim) (fun _ h=>h.elim);refine al (aj (ak rfl rfl (ae (al (aj (ah rfl rfl (ah rfl rfl ?_)))))));refine aP rfl rfl acM (B4 _ hM hv hl) (fun r1 w1 hc=>?_);obtain⟨⟨i,rfl,hi,EP,Cq⟩,s1⟩:=hc;replace hv:=hv.le s1.le;replace hM:=s1.lt hM;have:=S.size;replace S:=S.aB s1;refine ah rfl rfl (bZ rfl rfl rfl (bZ rfl rfl rfl (ak rfl rfl (ak rfl rfl (ae (al (al (aj (ah rfl rfl (ae ?_))))))))));refine bQ rfl (fun c2=>?_) (fun c2=>?_)
 ·refine al (aj (ah rfl rfl (ak rfl rfl (ae (aQ ?_)))));exact aV rfl rfl ⟨by rw[tb (key:=id) mW c2];exact hv,S⟩
 ·refine aZ (al (aj (ak rfl rfl (ae (al (aj (ah rfl rfl (ah rfl rfl (ah rfl rfl ?_)))))))));refine Rg.qN (M:=M) aF I9 rfl rfl rfl hv (by omega) (fun Vd uc=>?_);rw[aC]at uc;refine cv (M:=M) (base:=w0.heap.size) (xs:=[]) aF I9 rfl rfl rfl rfl (dQ _ _ _ _ _) uc (ao _ _) (by simp;omega) (by simp;omega) S.size (fun v5 M5 w5 ho s5=>?_);replace s5:=s5.cw (N':=aE) (fun b hb=>by unfold jC at hb;cases hb) (fun b h=>h.elim);replace hv:=hv.le s5.le;replace hM:=s5.lt hM;have:=S.size;replace S:=S.aB s5;refine ak rfl rfl (ae (al (aj (ah rfl rfl (ah rfl rfl ?_)))));refine eA (A:=RT.str) (hn:=by decide) (M:=M5) aF I9 (by decide) rfl rfl hM (jG.2 ⟨rfl,hk⟩) (.inr ⟨rfl,rfl⟩) (fun J6 akM qW Lv=>?_);replace hv:=hv.le Lv.le;replace ho:=ho.a8 Lv;replace hM:=Lv.lt hM;have:=S.size;replace S:=S.aB Lv;refine cv (M:=M5) (base:=w0.heap.size) aF I9 rfl rfl rfl rfl ho qW (ao _ _) (by simp;omega) (by simp;omega) (S.size) (fun akN Vo Tk Vp xr=>?_);replace hv:=hv.le xr.le;replace qW:=qW.le xr.le;replace hM:=xr.lt hM;have:=S.size;replace S:=S.cF xr ho (aT _);replace ho:=Vp;refine ak rfl rfl (ae (al (aj (ah rfl rfl (ah rfl rfl (ah rfl rfl ?_))))));refine Rg.nf (M:=Vo) aF I9 rfl rfl rfl hv (by omega) (fun u73 wK=>?_);rw[aC]at wK;refine cv (M:=Vo) (base:=w0.heap.size) aF I9 rfl rfl rfl rfl ho wK (ao _ _) (by simp;omega) (by simp;omega) (S.size) (fun Tq akO akP Vq Lw=>?_);replace hv:=hv.le Lw.le;replace qW:=qW.le Lw.le;replace hM:=Lw.lt hM;have:=S.size;replace S:=S.cF Lw ho (aT _);replace ho:=Vq;refine ak rfl rfl (ae (aQ ?_))
  have e:iR id k l=l.take i++k::l.drop i:=iG (key:=id) (fun x hx=>by
   have h9:∀y,l[i]? =some y→k<y:=fun y hy=>by
    rcases kT k y with h|h|h
    ·exact h
    ·subst h;exact absurd hy c2
    ·exact absurd h (Cq y hy)
   obtain⟨j,hj,rfl⟩:=List.mem_iff_getElem.1 hx;rw[dq]at hj;rw[List.getElem_drop];have h8:=h9 l[i] (av (by omega))
   cases j with
   |zero=>exact h8
   |succ j=>exact j7 h8 (List.pairwise_iff_getElem.1 mW i (i+(j+1)) (by omega) (by omega) (by omega))) (fun x hx=>⟨iF (EP x hx),fun h=>by subst h;exact ig _ (EP _ hx)⟩)
  rw[gm,gZ,k5,←e]at ho;exact aV rfl rfl ⟨il (hn:=by decide) gB S ho (by rw[e];simp;omega),S.back⟩
end Go.K
namespace Go.K
open Go.Proofs
namespace TKPutD
theorem MZ:Enters Tryz.prog 94:=enters Tryz.func94 rfl (by decide)
theorem acP:Enters Tryz.prog 104:=enters Tryz.func104 rfl (by decide)
theorem Vr:Enters Tryz.prog 133:=enters Tryz.func133 rfl (by decide)
theorem acQ:Enters Tryz.prog 134:=enters Tryz.func134 rfl (by decide)
end TKPutD
open TKPutD
set_option maxRecDepth 10000
def p9 (L:List En) (e:En) (k:Nat):List (List UInt8):=gx L++((cq (ma e)).take k).map dm
theorem Dp {L:List En} {e:En} {i:Nat} (h:L[i]? =some e):p9 (L.take i) e (cq (ma e)).length=gx (L.take (i+1)):=by
 unfold p9;rw[bP,h,cn,vX,rQ]
theorem Dq {L:List En} {e:En} {k:Nat} {t:Fd} (h:(cq (ma e))[k]? =some t):p9 L e (k+1)=p9 L e k++[dm t]:=by
 unfold p9;rw[bP,h,cn,dH,gZ];rfl
theorem rE {d:Dc} (hf:ie d):(∀t∈cq (bX d.2),t.1.length≤12∧t.2.length≤30)∧(cq (bX d.2)).length≤500:=by
 refine⟨fun t ht=>?_,?_⟩
 ·obtain⟨p,hp,rfl⟩:=cg.1 ((iN hf.Fj).1 ht);exact hf.small p hp
 ·have:=(oX hf.Fj).nodup.length_le_of_subset (l₂:=(bX d.2).map (·.1)) (fun t ht=>(iN hf.Fj).1 ht);rw[cj]at this;have:=hf.many;omega
theorem FG {L:List En} (hF:∀e∈L,ie e.1) {e:En} {i k:Nat} (h:L[i]? =some e) (hl:L.length≤1000000):(p9 (L.take i) e k).length≤500000500:=by
 have h1:=j8 (L:=L.take i) (fun x hx=>hF x (mg hx));have h2:=(rE (hF e (aG h))).2;unfold p9;rw[bM,cj,bG];rw[bG]at h1;have h3:(cq (ma e)).length≤500:=h2;omega
theorem Jl (t:Fd):(dm t).length=t.1.length+1+t.2.length:=by unfold dm;simp;omega
theorem Dr {M:aL} {L:List En} {v0:Value} (w0:World) (hM:Lt M w0) (hv:(RT.en.sl).V M w0 L v0) (hF:∀e∈L,ie e.1) (hlen:∀e∈L,∀f∈e.1.2,f.1.length≤900000∧f.2.length≤900000) (hl:L.length≤1000000):
  Spec Tryz.prog 86 #[v0] w0 (fun v w=>(RT.str.sl).V M w (keysOf L) v∧Step M w0 M w aE):=by
 have gB:=hM;refine bu (args:=[_]) (fn:=Tryz.f86) Tryz.func86 rfl (n:=33) Tryz.ntmps86 ?_;have S:Step M w0 M w0 aE:=(ar _ _).cw (fun _ h=>h.elim) (fun _ h=>h.elim);refine al (aj (ak rfl rfl (ae (al (aj (ak rfl rfl (ae (al (al (aj (ak rfl rfl ?_)))))))))));refine ae (bh ?_);refine dz (σ:=Nat×Value) (fun q=>[(0,v0),(3,q.2),(4,.int .i64 (q.1:Int))]) (fun q w=>Step M w0 M w aE∧(RT.en.sl).V M w L v0∧(RT.str.sl).V M w (allBy id (gx (L.take q.1))) q.2∧q.1≤L.length) (fun q=>L.length-q.1) (0,.slice none 0 0) (.cons rfl (.cons rfl (.cons rfl .nil))) ?_ ?_
 ·exact⟨S,hv,iO,bH _⟩
 ·clear S hv hM;rintro⟨i,u⟩ w ⟨S,hv,hu,hi⟩;dsimp only at hu hi ⊢;have hM:=S.lt gB;refine al (al (aj (ah rfl rfl (ah rfl rfl (bK dD rfl hv rfl (cz rfl rfl rfl (ae ?_)))))));refine bQ rfl (fun c3=>?_) (fun c3=>?_)
  ·refine aZ (al (bh (al (aj (ah rfl rfl (ah rfl rfl ?_))))));obtain⟨e,iH⟩:∃x,L[i]? =some x:=⟨_,av (by omega)⟩;have Qh:=hF e (aG iH);have hle:=hlen e (aG iH);obtain⟨Cl,htn⟩:=rE Qh;refine cu (M:=M) dD xh rfl rfl rfl hv (ao _ _) (by omega) (fun u52 x_ fU Qi=>?_);rw[aC]at fU;obtain rfl:=aN (iH.symm.trans fU);refine ay (M:=M) (A:=RT.en) (B:=RT.dc) cP rfl rfl kQ (by decide) KB rfl rfl (by decide) Qi (ao _ _) (fun Vd uc=>?_);refine ch (M:=M) (A:=RT.dc) aO rfl kQ (by decide) rfl rfl rfl uc (ao _ _) (fun v54 Dn=>?_);refine aP rfl rfl Vr (tM _ hM Dn Qh hle) (fun r5 w5 hc=>?_);obtain⟨lZ,s5⟩:=hc;replace hv:=hv.le s5.le;replace hu:=hu.le s5.le;replace hM:=s5.lt hM;have:=S.size;replace S:=S.aB s5;refine ak rfl rfl (ae (al (aj (ak rfl rfl (ae (bh ?_))))));refine dz (σ:=Nat×Value) (fun q=>[(0,v0),(3,q.2),(4,.int .i64 (i:Int)),(5,r5),(6,.int .i64 (q.1:Int))]) (fun q w=>Step M w0 M w aE∧(RT.en.sl).V M w L v0∧(RT.str.sl).V M w (allBy id (p9 (L.take i) e q.1)) q.2∧(RT.fd.sl).V M w (cq (bX e.1.2)) r5∧q.1≤(cq (bX e.1.2)).length) (fun q=>(cq (bX e.1.2)).length-q.1) (0,u) (.cons rfl (.cons rfl (.cons rfl (.cons rfl (.cons rfl .nil))))) ?_ ?_
   ·exact⟨S,hv,by unfold p9;simpa using hu,lZ,bH _⟩
   ·clear S hv hM lZ hu;rintro⟨k,u2⟩ w ⟨S,hv,hu,lZ,hk⟩;dsimp only at hu hk ⊢;have hM:=S.lt gB;refine al (al (aj (ah rfl rfl (ah rfl rfl (bK bR rfl lZ rfl (cz rfl rfl rfl (ae ?_)))))));refine bQ rfl (fun c7=>?_) (fun c7=>?_)
    ·refine aZ (al (bh (aj (ah rfl rfl (ah rfl rfl (ah rfl rfl ?_))))));obtain⟨t,Lx⟩:∃x,(cq (bX e.1.2))[k]? =some x:=⟨_,av (by omega)⟩;obtain⟨QS,Hk⟩:=Cl t (aG Lx);refine cu (M:=M) bR jr rfl rfl rfl lZ (ao _ _) (by omega) (fun W5 x_ fU ud=>?_);rw[aC]at fU;obtain rfl:=aN (Lx.symm.trans fU);refine ch (M:=M) (A:=RT.fd) bw rfl jr (by decide) rfl rfl rfl ud (ao _ _) (fun v94 Qj=>?_);obtain rfl:v94=kv t:=gN Qj;refine aP rfl rfl MZ (py (t:=t) _ hM (by omega) (by omega)) (fun r95 w95 hc=>?_);obtain⟨rfl,Vs⟩:=hc;replace hv:=hv.le Vs.le;replace hu:=hu.le Vs.le;replace lZ:=lZ.le Vs.le;replace hM:=Vs.lt hM;have:=S.size;replace S:=S.aB Vs;obtain⟨mW,yM,_⟩:=Jk (p9 (L.take i) e k);have Q1:=FG (k:=k) hF iH hl;refine aP rfl rfl acQ (FF (k:=dm t) _ hM hu mW (by rw[Jl];omega) (by omega)) (fun r9 w9 hc=>?_);obtain⟨Vn,s9⟩:=hc;rw[←vV,←Dq Lx]at Vn;replace hv:=hv.le s9.le;replace hu:=hu.le s9.le;replace lZ:=lZ.le s9.le;replace hM:=s9.lt hM;have:=S.size;replace S:=S.aB s9;refine ak rfl rfl (ae (aj (ah rfl rfl (bI rfl rfl rfl (by omega) (ak rfl rfl (ae ?_))))));refine⟨rfl,(k+1,r9),(.cons rfl (.cons rfl (.cons rfl (.cons rfl (.cons rfl .nil))))),?_,?_⟩
     ·exact⟨S,hv,Vn,lZ,by dsimp only;omega⟩
     ·dsimp only;omega
    ·refine cY (aj (ah rfl rfl (bI rfl rfl rfl (by omega) (ak rfl rfl (ae ?_)))));refine⟨rfl,(i+1,u2),(.cons rfl (.cons rfl (.cons rfl .nil))),?_,?_⟩
     ·exact⟨S,hv,by dsimp only;rw[←Dp iH,show(cq (ma e)).length=k from dL (show k=(cq (bX e.1.2)).length by omega)];exact hu,by dsimp only;omega⟩
     ·dsimp only;omega
  ·refine cY (al (aj (ah rfl rfl (ak rfl rfl (ae (aQ ?_))))));rw[a7 (by omega)]at hu;exact aV rfl rfl ⟨hu,S⟩
def FZ (L:List En) (key:List UInt8) (i:Nat) (e:En) (k:Nat):List Po:=zt key 0 (L.take i)++((((cq (ma e)).take k).filter fun t=>decide (dm t=key)).map fun t=>((i:Int),posOf (ma e) t))
theorem Jm {L:List En} {key:List UInt8} {i:Nat} {e:En} (h:L[i]? =some e):FZ L key i e (cq (ma e)).length=zt key 0 (L.take (i+1)):=by
 have hi:=(aw.1 h).1;unfold FZ;rw[bP,h,cn,vW,rQ,bG,Nat.min_eq_left (Nat.le_of_lt hi),Nat.zero_add];rfl
theorem Ly {L:List En} {key:List UInt8} {i:Nat} {e:En} {k:Nat} {t:Fd} (h:(cq (ma e))[k]? =some t) (hk:dm t=key):FZ L key i e (k+1)=FZ L key i e k++[((i:Int),posOf (ma e) t)]:=by
 unfold FZ;rw[bP,h,cn,List.filter_append,pf (by simpa using hk),List.filter_nil,dH,gZ];rfl
theorem Jn {L:List En} {key:List UInt8} {i:Nat} {e:En} {k:Nat} {t:Fd} (h:(cq (ma e))[k]? =some t) (hk: ¬dm t=key):FZ L key i e (k+1)=FZ L key i e k:=by
 unfold FZ;rw[bP,h,cn,List.filter_append,List.filter_cons_of_neg (by simpa using hk),List.filter_nil,kK]
theorem El {L:List En} {key:List UInt8} {i:Nat} {e:En} {k:Nat} (hF:∀e∈L,ie e.1) (h:L[i]? =some e):(FZ L key i e k).length≤L.length+500:=by
 have h1:=(mu key (L.take i) 0 (fun e he=>hF e (mg he))).1;have h2:(cq (ma e)).length≤500:=(rE (hF e (aG h))).2;have h3:=List.length_filter_le (fun t=>decide (dm t=key)) ((cq (ma e)).take k);unfold FZ;rw[bM,cj];rw[bG]at h1 h3;omega
theorem Ds {M:aL} {L:List En} {key:List UInt8} {v0:Value} (w0:World) (hM:Lt M w0) (hv:(RT.en.sl).V M w0 L v0) (hF:∀e∈L,ie e.1) (hlen:∀e∈L,∀f∈e.1.2,f.1.length≤900000∧f.2.length≤900000) (hl:L.length≤1000000):
  Spec Tryz.prog 87 #[v0,sv key] w0 (fun v w=>(RT.po.sl).V M w (pk L key) v∧Step M w0 M w aE):=by
 have gB:=hM;refine bu (args:=[_,_]) (fn:=Tryz.f87) Tryz.func87 rfl (n:=50) Tryz.ntmps87 ?_;have S:Step M w0 M w0 aE:=(ar _ _).cw (fun _ h=>h.elim) (fun _ h=>h.elim);refine al (aj (ak rfl rfl (ae (al (aj (ak rfl rfl (ae (al (al (aj (ak rfl rfl ?_)))))))))));refine ae (bh ?_);refine dz (σ:=Nat×Value) (fun q=>[(0,v0),(1,sv key),(5,q.2),(6,.int .i64 (q.1:Int))]) (fun q w=>∃M',Lt M' w∧Step M w0 M' w aE∧(RT.en.sl).V M' w L v0∧Own RT.po 153 M' w w0.heap.size q.2 (zt key 0 (L.take q.1))∧q.1≤L.length) (fun q=>L.length-q.1) (0,.slice none 0 0) (.cons rfl (.cons rfl (.cons rfl (.cons rfl .nil)))) ?_ ?_
 ·exact⟨M,hM,S,hv,dQ _ _ _ _ _,bH _⟩
 ·clear S hv hM;rintro⟨i,u⟩ w ⟨M1,hM,S,hv,ho,hi⟩;dsimp only at ho hi ⊢;refine al (al (aj (ah rfl rfl (ah rfl rfl (bK dD rfl hv rfl (cz rfl rfl rfl (ae ?_)))))));refine bQ rfl (fun c3=>?_) (fun c3=>?_)
  ·refine aZ (al (bh (al (aj (ah rfl rfl (ah rfl rfl ?_))))));obtain⟨e,iH⟩:∃x,L[i]? =some x:=⟨_,av (by omega)⟩;have Qh:=hF e (aG iH);have hle:=hlen e (aG iH);obtain⟨Cl,htn⟩:=rE Qh;refine cu (M:=M1) dD xh rfl rfl rfl hv (ao _ _) (by omega) (fun u52 x_ fU Qi=>?_);rw[aC]at fU;obtain rfl:=aN (iH.symm.trans fU);refine ay (M:=M1) (A:=RT.en) (B:=RT.dc) cP rfl rfl kQ (by decide) KB rfl rfl (by decide) Qi (ao _ _) (fun Vd uc=>?_);refine ch (M:=M1) (A:=RT.dc) aO rfl kQ (by decide) rfl rfl rfl uc (ao _ _) (fun v54 Dn=>?_);refine aP rfl rfl Vr (tM _ hM Dn Qh hle) (fun r5 w5 hc=>?_);obtain⟨lZ,s5⟩:=hc;replace hv:=hv.le s5.le;replace ho:=ho.a8 s5;replace hM:=s5.lt hM;have:=S.size;replace S:=S.aB s5;refine ak rfl rfl (ae (al (aj (ak rfl rfl (ae (bh ?_))))));refine dz (σ:=Nat×Value) (fun q=>[(0,v0),(1,sv key),(5,q.2),(6,.int .i64 (i:Int)),(7,r5),(8,.int .i64 (q.1:Int))]) (fun q w=>∃M',Lt M' w∧Step M w0 M' w aE∧(RT.en.sl).V M' w L v0∧Own RT.po 153 M' w w0.heap.size q.2 (FZ L key i e q.1)∧(RT.fd.sl).V M' w (cq (bX e.1.2)) r5∧q.1≤(cq (bX e.1.2)).length) (fun q=>(cq (bX e.1.2)).length-q.1) (0,u) (.cons rfl (.cons rfl (.cons rfl (.cons rfl (.cons rfl (.cons rfl .nil)))))) ?_ ?_
   ·exact⟨_,hM,S,hv,by unfold FZ;simpa using ho,lZ,bH _⟩
   ·clear S hv hM lZ ho;rintro⟨k,u2⟩ w ⟨M2,hM,S,hv,ho,lZ,hk⟩;dsimp only at ho hk ⊢;refine al (al (aj (ah rfl rfl (ah rfl rfl (bK bR rfl lZ rfl (cz rfl rfl rfl (ae ?_)))))));refine bQ rfl (fun c7=>?_) (fun c7=>?_)
    ·refine aZ (al (bh (al (aj (ah rfl rfl (ah rfl rfl ?_))))));obtain⟨t,Lx⟩:∃x,(cq (bX e.1.2))[k]? =some x:=⟨_,av (by omega)⟩;obtain⟨QS,Hk⟩:=Cl t (aG Lx);refine cu (M:=M2) bR jr rfl rfl rfl lZ (ao _ _) (by omega) (fun u92 x_ fU acR=>?_);rw[aC]at fU;obtain rfl:=aN (Lx.symm.trans fU);refine ch (M:=M2) (A:=RT.fd) bw rfl jr (by decide) rfl rfl rfl acR (ao _ _) (fun v93 acS=>?_);obtain rfl:v93=kv t:=gN acS;refine aP rfl rfl MZ (py (t:=t) _ hM (by omega) (by omega)) (fun r94 w94 hc=>?_);obtain⟨rfl,Vt⟩:=hc;replace hv:=hv.le Vt.le;replace lZ:=lZ.le Vt.le;replace ho:=ho.a8 Vt;replace hM:=Vt.lt hM;have:=S.size;replace S:=S.aB Vt;refine ah rfl rfl (Rg.qJ rfl rfl rfl (ae ?_));refine bQ rfl (fun c9=>?_) (fun c9=>?_)
     ·subst c9;apply qf 11 [0,1] 3 aE mixed rfl rfl rfl rfl;intro acT acU;have Jo:=acU M2;replace hv:=hv.le Jo.le;replace lZ:=lZ.le Jo.le;replace ho:=ho.a8 Jo;replace hM:=Jo.lt hM;have:=S.size;replace S:=S.aB Jo;refine ah rfl rfl ?_;refine ae ⟨rfl,rfl,rfl,?_⟩;refine ah rfl rfl ?_;refine ae ⟨rfl,rfl,rfl,?_⟩;refine ah rfl rfl ?_;refine ae ⟨rfl,rfl,rfl,?_⟩;refine ah rfl rfl ?_;refine ae ⟨rfl,rfl,rfl,?_⟩;refine cu (M:=M2) dD xh rfl rfl rfl hv (ao _ _) (by omega) (fun acV x_ fU Jp=>?_);rw[aC]at fU;obtain rfl:=aN (iH.symm.trans fU);refine ae ⟨rfl,rfl,rfl,?_⟩;refine ay (M:=M2) (A:=RT.en) (B:=RT.dc) cP rfl rfl kQ (by decide) KB rfl rfl (by decide) Jp (ao _ _) (fun akS Vu=>?_);refine ae ⟨rfl,rfl,rfl,?_⟩;refine ch (M:=M2) (A:=RT.dc) aO rfl kQ (by decide) rfl rfl rfl Vu (ao _ _) (fun akT Vv=>?_);refine ae ⟨rfl,rfl,rfl,?_⟩;refine ah rfl rfl ?_;refine ae ⟨rfl,rfl,rfl,?_⟩;refine ah rfl rfl ?_;refine ae ⟨rfl,rfl,rfl,?_⟩;refine cu (M:=M2) bR jr rfl rfl rfl lZ (ao _ _) (by omega) (fun akU x_ fU Vw=>?_);rw[aC]at fU;obtain rfl:=aN (Lx.symm.trans fU);refine ae ⟨rfl,rfl,rfl,?_⟩;refine ch (M:=M2) (A:=RT.fd) bw rfl jr (by decide) rfl rfl rfl Vw (ao _ _) (fun agt Qk=>?_);refine ae ⟨rfl,rfl,rfl,?_⟩;refine dU ?_;refine⟨ew ⟨eE,⟨eE,trivial⟩⟩,?_⟩;have kp:=eU aE acT;refine aP rfl rfl acP (B0 (t:=t) _ hM Vv hle (by have:=Qh.few;omega) Qk) (fun r10 Zn hc=>?_);obtain⟨Dt,rj⟩:=hc;rw[Ji Qh.once]at Dt;obtain⟨ap,cp,rfl,acW⟩:=ix.1 Dt;clear acW;replace hv:=hv.le rj.le;replace lZ:=lZ.le rj.le;replace ho:=ho.a8 rj;replace hM:=rj.lt hM;have:=S.size;replace S:=S.aB rj;refine(fun(kp:dX _ _ _)=>ae ⟨rfl,rfl,fun _=>kp,?_⟩) (by first|exact kp|exact kp.mZ (by assumption)|exact kp.goN (by assumption)|exact kp.go (by assumption) (fun _ _ h=>by first|exact h|exact h.elim))
      refine eT (places:=[(0,1),(1,1)]) bA fv Gp rfl ⟨_,_,rfl,rfl,_,_,rfl,rfl,rfl⟩ (out:=[_,_]) ⟨0,[_],rfl,rfl,by simp[Value.cells],1,[_],rfl,rfl,by simp[Value.cells],rfl⟩ ?_;refine(fun(kp:dX _ _ _)=>ae ⟨rfl,rfl,fun _=>kp,?_⟩) (by first|exact kp|exact kp.mZ (by assumption)|exact kp.goN (by assumption)|exact kp.go (by assumption) (fun _ _ h=>by first|exact h|exact h.elim));refine eA (A:=RT.po) (hn:=by decide) (M:=M2) aK fv (by decide) rfl rfl hM (eC (gC (x:=(i:Int)) (by omega)) Dt rfl rfl rfl rfl) (.inl rfl) (fun acX acY zK tc=>?_);replace hv:=hv.le tc.le;replace lZ:=lZ.le tc.le;replace Dt:=Dt.le tc.le;replace ho:=ho.a8 tc;replace hM:=tc.lt hM;have:=S.size;replace S:=S.aB tc;refine(fun(kp:dX _ _ _)=>ae ⟨rfl,rfl,fun _=>kp,?_⟩) (by first|exact kp|exact kp.mZ (by assumption)|exact kp.goN (by assumption)|exact kp.go (by assumption) (fun _ _ h=>by first|exact h|exact h.elim));refine cv (M:=M2) (base:=w0.heap.size) aK fv rfl rfl rfl rfl ho zK (ao _ _) (by have:=El (key:=dm t) (k:=k) hF iH;simp;omega) (by have:=El (key:=dm t) (k:=k) hF iH;simp;omega) (S.size) (fun Ql acZ ac0 Lz td=>?_);replace hv:=hv.le td.le;replace lZ:=lZ.le td.le;replace Dt:=Dt.le td.le;replace zK:=zK.le td.le;replace hM:=td.lt hM;have:=S.size;replace S:=S.cF td ho (aT _);replace ho:=Lz;refine ae ⟨rfl,rfl,fun h=>absurd rfl h,?_⟩;refine ak rfl rfl ?_;refine ae ⟨rfl,rfl,fun h=>absurd rfl h,?_⟩;refine gY (aj (ah rfl rfl (bI rfl rfl rfl (by omega) (ak rfl rfl (ae ?_)))));refine⟨rfl,(k+1,Ql),(.cons rfl (.cons rfl (.cons rfl (.cons rfl (.cons rfl (.cons rfl .nil)))))),?_,?_⟩
      ·exact⟨_,hM,S,hv,by dsimp only;rw[Ly Lx rfl];exact ho,lZ,by dsimp only;omega⟩
      ·dsimp only;omega
     ·refine aZ (aj (ah rfl rfl (bI rfl rfl rfl (by omega) (ak rfl rfl (ae ?_)))));refine⟨rfl,(k+1,u2),(.cons rfl (.cons rfl (.cons rfl (.cons rfl (.cons rfl (.cons rfl .nil)))))),?_,?_⟩
      ·exact⟨_,hM,S,hv,by dsimp only;rw[Jn Lx c9];exact ho,lZ,by dsimp only;omega⟩
      ·dsimp only;omega
    ·refine cY (aj (ah rfl rfl (bI rfl rfl rfl (by omega) (ak rfl rfl (ae ?_)))));refine⟨rfl,(i+1,u2),(.cons rfl (.cons rfl (.cons rfl (.cons rfl .nil)))),?_,?_⟩
     ·exact⟨_,hM,S,hv,by dsimp only;rw[←Jm iH,show(cq (ma e)).length=k from dL (show k=(cq (bX e.1.2)).length by omega)];exact ho,by dsimp only;omega⟩
     ·dsimp only;omega
  ·refine cY (al (aj (ah rfl rfl (ak rfl rfl (ae (aQ ?_))))));rw[a7 (by omega)]at ho;exact aV rfl rfl ⟨il (hn:=by decide) gB S ho (by show(zt key 0 L).length≤_;have:=(mu key L 0 hF).1;omega),S.back⟩
end Go.K
namespace Go.K
open Go.Proofs
namespace TKSegL
theorem qA:TI Tryz.prog 56 (.slice none 0 0) 1 24:=by unfold TI;kernel_rfl
theorem gz:TI Tryz.prog 107 (.slice none 0 0) 1 24:=by unfold TI;kernel_rfl
theorem WY:Enters Tryz.prog 51:=enters Tryz.func51 rfl (by decide)
theorem E84:Enters Tryz.prog 84:=enters Tryz.func84 rfl (by decide)
theorem W6:Enters Tryz.prog 85:=enters Tryz.func85 rfl (by decide)
end TKSegL
open TKSegL
set_option maxRecDepth 10000
def Jq (p q:Pa):Bool:=decide (p.1=q.1)&&decide (p.2.1=q.2.1)&&decide (p.2.2.1=q.2.2.1)&&decide (p.2.2.2=q.2.2.2)
theorem wL {p q:Pa}:Jq p q=true↔p=q:=by
 simp only[Jq,bT,decide_eq_true_eq];exact⟨fun h=>Prod.ext h.1.1.1 (Prod.ext h.1.1.2 (Prod.ext h.1.2 h.2)),fun h=>by subst h;exact⟨⟨⟨rfl,rfl⟩,rfl⟩,rfl⟩⟩
theorem gh {p q:Pa} (h:p≠q):Jq p q=false:=eQ.2 fun e=>h (wL.1 e)
theorem B5 {M:aL} {p q:Pa} {v u:Value} (w0:World) (hM:Lt M w0) (hp:RT.pa.V M w0 p v) (hq:RT.pa.V M w0 q u):
  Spec Tryz.prog 30 #[v,u] w0 (fun v' w'=>v'= .bool (Jq p q)∧Step M w0 M w' aE):=by
 have gB:=hM;refine bu (args:=[_,_]) (fn:=Tryz.f30) Tryz.func30 rfl (n:=64) Tryz.ntmps30 ?_;have S:Step M w0 M w0 aE:=(ar _ _).cw (fun _ h=>h.elim) (fun _ h=>h.elim);refine al (aj ?_);refine iw (A:=RT.pa) (a:=p) rfl rfl hM hp rfl (fun u2 wb0 jP zY _=>?_);replace hp:=hp.le zY.le;replace hq:=hq.le zY.le;replace hM:=zY.lt hM;have:=S.size;replace S:=S.aB zY;refine iw (A:=RT.pa) (a:=q) rfl rfl hM hq rfl (fun u3 wb1 iQ Du _=>?_);replace hq:=hq.le Du.le;replace jP:=jP.le (by decide) Du.le;replace hM:=Du.lt hM;have:=S.size;replace S:=S.aB Du;refine ak rfl rfl (ae (al (aj ?_)));refine ay (M:=M) (A:=RT.pa) (B:=((RT.int .i64).sl)) bC rfl rfl jR (by decide) KS rfl rfl (by decide) jP (ao _ _) (fun QQ E6=>?_);refine bg (M:=M) ax rfl rfl rfl rfl rfl E6 (ao _ _) (fun v11 Cj=>?_);refine ay (M:=M) (A:=RT.pa) (B:=((RT.int .i64).sl)) bC rfl rfl jR (by decide) KS rfl rfl (by decide) iQ (ao _ _) (fun u12 Qm=>?_);refine bg (M:=M) ax rfl rfl rfl rfl rfl Qm (ao _ _) (fun JJ B6=>?_);refine aP rfl rfl WY (sm hM Cj B6) (fun r1 wr1 hc=>?_);obtain⟨rfl,W7⟩:=hc;replace jP:=jP.le (by decide) W7.le;replace iQ:=iQ.le (by decide) W7.le;replace hM:=W7.lt hM;have:=S.size;replace S:=S.aB W7;refine ak rfl rfl (ae (al (aj ?_)));refine ay (M:=M) (A:=RT.pa) (B:=((RT.int .i64).sl)) bC rfl rfl jR (by decide) O2 rfl rfl (by decide) jP (ao _ _) (fun u20 ac3=>?_);refine bg (M:=M) ax rfl rfl rfl rfl rfl ac3 (ao _ _) (fun v21 ac4=>?_);refine ay (M:=M) (A:=RT.pa) (B:=((RT.int .i64).sl)) bC rfl rfl jR (by decide) O2 rfl rfl (by decide) iQ (ao _ _) (fun u22 ac5=>?_);refine bg (M:=M) ax rfl rfl rfl rfl rfl ac5 (ao _ _) (fun v23 Qb=>?_);refine aP rfl rfl WY (sm hM ac4 Qb) (fun r2 wr2 hc=>?_)
 obtain⟨rfl,W8⟩:=hc;replace jP:=jP.le (by decide) W8.le;replace iQ:=iQ.le (by decide) W8.le;replace hM:=W8.lt hM;have:=S.size;replace S:=S.aB W8;refine ak rfl rfl (ae (al (aj ?_)));refine ay (M:=M) (A:=RT.pa) (B:=(RT.str.sl)) bC rfl rfl tR (by decide) Mu rfl rfl (by decide) jP (ao _ _) (fun u30 ac6=>?_);refine bg (M:=M) aF rfl rfl rfl rfl rfl ac6 (ao _ _) (fun v31 ac7=>?_);refine ay (M:=M) (A:=RT.pa) (B:=(RT.str.sl)) bC rfl rfl tR (by decide) Mu rfl rfl (by decide) iQ (ao _ _) (fun u32 ac8=>?_);refine bg (M:=M) aF rfl rfl rfl rfl rfl ac8 (ao _ _) (fun v33 ac9=>?_);refine aP rfl rfl E84 (wJ _ hM ac7 ac9) (fun r3 wr3 hc=>?_);obtain⟨rfl,W9⟩:=hc;replace jP:=jP.le (by decide) W9.le;replace iQ:=iQ.le (by decide) W9.le;replace hM:=W9.lt hM;have:=S.size;replace S:=S.aB W9;refine ak rfl rfl (ae (al (al (aj (ah rfl rfl (jN rfl rfl (bO (v':= .bool (decide (p.1≠q.1))) (by simp) (ah rfl rfl ?_))))))));refine aR (g:=27) rfl (fun pN=>?_) (fun pN=>?_)
 ·refine au rfl rfl rfl rfl (au rfl rfl rfl rfl (aW rfl rfl rfl (ah rfl rfl (au rfl rfl rfl rfl (au rfl rfl rfl rfl (aW rfl rfl rfl (ah rfl rfl (au rfl rfl rfl rfl (au rfl rfl rfl rfl (au rfl rfl rfl rfl (au rfl rfl rfl rfl ?_)))))))))));refine au rfl rfl rfl rfl (au rfl rfl rfl rfl (au rfl rfl rfl rfl (aW rfl rfl rfl (ae (kW rfl (al (aj (ak rfl rfl (ae (aQ ?_))))))))))
  first
  |(exact aV rfl rfl ⟨congrArg Value.bool (gh (fun e=>c4 (by rw[e]))).symm,S⟩)
  |(exact aV rfl rfl ⟨congrArg Value.bool (gh (fun e=>yz (by rw[e]))).symm,S⟩)
  |(exact aV rfl rfl ⟨congrArg Value.bool (gh (fun e=>BG (by rw[e]))).symm,S⟩)
  |(exact aV rfl rfl ⟨congrArg Value.bool (gh (fun e=>pN (by rw[e]))).symm,S⟩)
 ·refine aq rfl rfl (ah rfl rfl (aq rfl rfl (jN rfl rfl (bO (v':= .bool (decide (p.2.1≠q.2.1))) (by simp) (aJ rfl rfl rfl (ah rfl rfl ?_))))));refine aR (g:=31) rfl (fun BG=>?_) (fun BG=>?_)
  ·refine au rfl rfl rfl rfl (au rfl rfl rfl rfl (aW rfl rfl rfl (ah rfl rfl (au rfl rfl rfl rfl (au rfl rfl rfl rfl (au rfl rfl rfl rfl (au rfl rfl rfl rfl (au rfl rfl rfl rfl (au rfl rfl rfl rfl (au rfl rfl rfl rfl (aW rfl rfl rfl ?_)))))))))));refine ae (kW rfl (al (aj (ak rfl rfl (ae (aQ ?_))))))
   first
   |(exact aV rfl rfl ⟨congrArg Value.bool (gh (fun e=>c4 (by rw[e]))).symm,S⟩)
   |(exact aV rfl rfl ⟨congrArg Value.bool (gh (fun e=>yz (by rw[e]))).symm,S⟩)
   |(exact aV rfl rfl ⟨congrArg Value.bool (gh (fun e=>BG (by rw[e]))).symm,S⟩)
   |(exact aV rfl rfl ⟨congrArg Value.bool (gh (fun e=>pN (by rw[e]))).symm,S⟩)
  ·refine aq rfl rfl (ah rfl rfl (aq rfl rfl (jN rfl rfl (bO (v':= .bool (decide (p.2.2.1≠q.2.2.1))) (by simp) (aJ rfl rfl rfl (ah rfl rfl ?_))))));refine aR (g:=35) rfl (fun yz=>?_) (fun yz=>?_)
   ·refine au rfl rfl rfl rfl (au rfl rfl rfl rfl (au rfl rfl rfl rfl (au rfl rfl rfl rfl (au rfl rfl rfl rfl (au rfl rfl rfl rfl (au rfl rfl rfl rfl (aW rfl rfl rfl (ae (kW rfl (al (aj ?_)))))))))));refine ak rfl rfl (ae (aQ ?_))
    first
    |(exact aV rfl rfl ⟨congrArg Value.bool (gh (fun e=>c4 (by rw[e]))).symm,S⟩)
    |(exact aV rfl rfl ⟨congrArg Value.bool (gh (fun e=>yz (by rw[e]))).symm,S⟩)
    |(exact aV rfl rfl ⟨congrArg Value.bool (gh (fun e=>BG (by rw[e]))).symm,S⟩)
    |(exact aV rfl rfl ⟨congrArg Value.bool (gh (fun e=>pN (by rw[e]))).symm,S⟩)
   ·refine aq rfl rfl ?_;refine ay (M:=M) (A:=RT.pa) (B:=(((RT.po).sl).sl)) bC rfl rfl qA (by decide) H4 rfl rfl (by decide) jP (ao _ _) (fun akW Vx=>?_);refine aq rfl rfl ?_;refine bg (M:=M) b9 rfl rfl rfl rfl rfl Vx (ao _ _) (fun akX Vy=>?_);refine aq rfl rfl (bK b9 rfl Vy rfl (aq rfl rfl ?_));refine ay (M:=M) (A:=RT.pa) (B:=(((RT.po).sl).sl)) bC rfl rfl qA (by decide) H4 rfl rfl (by decide) iQ (ao _ _) (fun akY Vz=>?_);refine aq rfl rfl ?_;refine bg (M:=M) b9 rfl rfl rfl rfl rfl Vz (ao _ _) (fun akZ VA=>?_);refine aq rfl rfl (bK b9 rfl VA rfl (aq rfl rfl (eS rfl rfl rfl (aJ rfl rfl rfl (ae ?_)))));refine bQ rfl (fun c4=>?_) (fun c4=>?_)
    ·refine al (aj (ak rfl rfl (ae (aQ ?_))))
     first
     |(exact aV rfl rfl ⟨congrArg Value.bool (gh (fun e=>c4 (by rw[e]))).symm,S⟩)
     |(exact aV rfl rfl ⟨congrArg Value.bool (gh (fun e=>yz (by rw[e]))).symm,S⟩)
     |(exact aV rfl rfl ⟨congrArg Value.bool (gh (fun e=>BG (by rw[e]))).symm,S⟩)
     |(exact aV rfl rfl ⟨congrArg Value.bool (gh (fun e=>pN (by rw[e]))).symm,S⟩)
    ·have hlen:p.2.2.2.length=q.2.2.2.length:=by omega
     refine aZ (al (al (aj (ak rfl rfl (ae (bh ?_))))));refine dz (σ:=Nat) (fun k=>[(2,u2),(3,u3),(8,.int .i64 (k:Int))]) (fun k w=>Step M w0 M w aE∧cc RT.pa M w u2 p∧cc RT.pa M w u3 q∧k≤p.2.2.2.length∧p.2.2.2.take k=q.2.2.2.take k) (fun k=>p.2.2.2.length-k) 0 (.cons rfl (.cons rfl (.cons rfl .nil))) ?_ ?_
     ·exact⟨S,jP,iQ,bH _,rfl⟩
     ·clear S jP iQ hM;rintro k w ⟨S,jP,iQ,hk,heq⟩;have hM:=S.lt gB;refine al (al (aj (ah rfl rfl ?_)));refine ay (M:=M) (A:=RT.pa) (B:=(((RT.po).sl).sl)) bC rfl rfl qA (by decide) H4 rfl rfl (by decide) jP (ao _ _) (fun u71 ada=>?_);refine bg (M:=M) b9 rfl rfl rfl rfl rfl ada (ao _ _) (fun v72 VB=>?_);have Xz:=dK VB;refine bK b9 rfl VB rfl (cz rfl rfl rfl (ae ?_));refine bQ rfl (fun c7=>?_) (fun c7=>?_)
      ·refine aZ (al (bh (al ?_)));apply T.DK 10 mixed rfl rfl rfl rfl rfl;intro L5 UZ;have yY:=UZ M;replace jP:=jP.le (by decide) yY.le;replace iQ:=iQ.le (by decide) yY.le;replace hM:=yY.lt hM;have:=S.size;replace S:=S.aB yY;obtain⟨x,xo⟩:∃x,p.2.2.2[k]? =some x:=⟨_,av (by omega)⟩;obtain⟨y,xp⟩:∃y,q.2.2.2[k]? =some y:=⟨_,av (by omega)⟩;refine ay (M:=M) (A:=RT.pa) (B:=(((RT.po).sl).sl)) bC rfl rfl qA (by decide) H4 rfl rfl (by decide) jP (ao _ _) (fun u90 adb=>?_);refine ae ⟨rfl,rfl,rfl,?_⟩;refine bg (M:=M) b9 rfl rfl rfl rfl rfl adb (ao _ _) (fun v91 ade=>?_);refine ae ⟨rfl,rfl,rfl,?_⟩;refine ah rfl rfl ?_;refine ae ⟨rfl,rfl,rfl,?_⟩;refine cu (M:=M) b9 gz rfl rfl rfl ade (ao _ _) (by omega) (fun W5 x_ fU ud=>?_);rw[aC]at fU;obtain rfl:=aN (xo.symm.trans fU);refine ae ⟨rfl,rfl,rfl,?_⟩;refine bg (M:=M) aK rfl rfl rfl rfl rfl ud (ao _ _) (fun v94 Qj=>?_);refine ae ⟨rfl,rfl,rfl,?_⟩;refine ay (M:=M) (A:=RT.pa) (B:=(((RT.po).sl).sl)) bC rfl rfl qA (by decide) H4 rfl rfl (by decide) iQ (ao _ _) (fun u95 Qf=>?_);refine ae ⟨rfl,rfl,rfl,?_⟩;refine bg (M:=M) b9 rfl rfl rfl rfl rfl Qf (ao _ _) (fun v96 Qg=>?_);refine ae ⟨rfl,rfl,rfl,?_⟩;refine ah rfl rfl ?_;refine ae ⟨rfl,rfl,rfl,?_⟩;refine cu (M:=M) b9 gz rfl rfl rfl Qg (ao _ _) (by omega) (fun u98 x_ fU adf=>?_);rw[aC]at fU;obtain rfl:=aN (xp.symm.trans fU);refine ae ⟨rfl,rfl,rfl,?_⟩;refine bg (M:=M) aK rfl rfl rfl rfl rfl adf (ao _ _) (fun v99 adg=>?_);refine ae ⟨rfl,rfl,rfl,?_⟩;refine dU ?_;refine aP rfl rfl W6 (qB hM Qj adg) (fun r9 w9 hc=>?_);obtain⟨rfl,s9⟩:=hc;replace jP:=jP.le (by decide) s9.le
       replace iQ:=iQ.le (by decide) s9.le;replace hM:=s9.lt hM;have:=S.size;replace S:=S.aB s9;refine ak rfl rfl (ae (al (aj (ah rfl rfl (jN rfl rfl (bO (v':= .bool (decide (x≠y))) (by simp) (ae ?_)))))));refine bQ rfl (fun Kv=>?_) (fun Kv=>?_)
       ·refine al (aj (ak rfl rfl (ae (aQ ?_))));exact aV rfl rfl ⟨congrArg Value.bool (gh (fun e=>by subst e;rw[xo]at xp;cases xp;exact Kv rfl)).symm,S⟩
       ·refine aZ (aj (ah rfl rfl (bI rfl rfl rfl (by omega) (ak rfl rfl (ae ?_)))));refine⟨rfl,k+1,(.cons rfl (.cons rfl (.cons rfl .nil))),?_,?_⟩
        ·exact⟨S,jP,iQ,by omega,by rw[bP,bP,heq,xo,xp,cU.1 Kv]⟩
        ·omega
      ·refine cY (al (aj (ak rfl rfl (ae (aQ ?_)))));rw[a7 (by omega),a7 (by omega)]at heq;exact aV rfl rfl ⟨congrArg Value.bool (wL.2 (Prod.ext (cU.1 pN) (Prod.ext (cU.1 BG) (Prod.ext (cU.1 yz) heq)))).symm,S⟩
end Go.K
namespace Go.K
variable {P:Program} {r:Option Nat} {n:Nat} {L:Sl} {ds:List Deferred} {w:World} {K:Kt} {ops:Array Oper} {rest:List Oper} {d:Nat} {x y:Operand} {ty:TypeId} {pos:String} {af:Array Edge} {α:Type} {A:RT α}
def adh {α:Type} (A:RT α):Prop:=∀(M M':aL) (w w':World) (x:α) (vs:List Value),A.R M w x vs→A.R M' w' x vs
end Go.K
namespace Go.K
theorem LA {P:Program} {L:Sl} {w:World} {fn:Func} {Q:Value→World→Prop} {c t b D:Nat} {vs:List Value} {fs:TypeDesc} {e:TypeId} {fr:Nat×Nat} {zv:Value} {size bytes:Nat} (hr:fn.results= #[.cell c t]) (hc:lk L c=some (.pointer (some ⟨b,0,none⟩))) (hu:P.underlying t=some fs) (hf:fs.isRow=true) (hi:TI P t zv size bytes) (hl:vs.length=size)
  (hD:w.heap[D]? =some (.deferred (some []))) (hb:(w.putObj D (.deferred none)).heap[b]? =some (.cells vs.toArray e fr)) (h:Q (.agg vs.toArray) (w.putObj D (.deferred none))):Ak P fn Q .ret L [mark D] w:=
 ⟨_,sc hD,fun a ha=>⟨_,by
  obtain⟨i,wZ,_,zN,_⟩:=hi.get;have Gl:(w.putObj D (.deferred none)).rangeAt b 0 vs:=fun j v hj=>iJ hb (by simpa using hj)
  have:=run_loadVar_mid (P:=P) (w.putObj D (.deferred none)) b 0 t vs fs Gl hu hf (by simp[wZ,zN,hl]);simp[results,hr,ha _ _ hc,asAddr,this,bL],h⟩⟩
theorem Jr {α:Type} {A:RT α} {hn:0<A.n} (hA:adh A) {M:aL} {w:World} {xs:List α} {v:Value} {b:Nat} {cs:Array Value} {e:TypeId} {fr:Nat×Nat} (hb:w.heap[b]? =some (.cells cs e fr)) (fg:∀M w x vs,A.R M w x vs→∃c r,vs=c::r∧∀j:Nat,cs[j]? ≠some c) (h:(A.sl hn).V M w xs v):(A.sl hn).V (ins M b) w xs v:=by
 obtain⟨a,cap,h1,h2,h3,hs⟩:=ix.1 h;refine ix.2 ⟨a,cap,h1,h2,h3,?_⟩;rcases hs with hs|⟨b',o,ha,hm,he⟩
 ·exact .inl hs
 ·cases xs with
  |nil=>exact .inl rfl
  |cons x xs=>
   refine .inr ⟨b',o,ha,?_,fun i y hy=>by obtain⟨vs,h4,h5⟩:=he i y hy;exact⟨vs,hA _ _ _ _ _ _ h4,h5⟩⟩;rintro(rfl|tQ)
   ·obtain⟨vs,h4,h5⟩:=he 0 x rfl;obtain⟨c,r,rfl,hc⟩:=fg _ _ _ _ h4;have:=h5 0 c rfl;simp[World.cell?,hb]at this;exact hc _ this
   ·exact hm tQ
end Go.K
namespace Go.K
open Go.Proofs
namespace TKSegK
theorem qA:TI Tryz.prog 56 (.slice none 0 0) 1 24:=by unfold TI;kernel_rfl
theorem Fw:TI Tryz.prog 58 (.agg #[(.slice none 0 0),(.slice none 0 0),(.slice none 0 0),(.slice none 0 0)]) 4 96:=by unfold TI;kernel_rfl
theorem gz:TI Tryz.prog 107 (.slice none 0 0) 1 24:=by unfold TI;kernel_rfl
theorem tZ:TI Tryz.prog 123 (.pointer none) 1 8:=by unfold TI;kernel_rfl
theorem B58:placesOf Tryz.prog 58=[(0,1),(1,1),(2,1),(3,1)].map some:=by kernel_rfl
theorem Pn:Enters Tryz.prog 63:=enters Tryz.func63 rfl (by decide)
theorem E77:Enters Tryz.prog 77:=enters Tryz.func77 rfl (by decide)
theorem UJ:Enters Tryz.prog 78:=enters Tryz.func78 rfl (by decide)
theorem E79:Enters Tryz.prog 79:=enters Tryz.func79 rfl (by decide)
theorem IW:Enters Tryz.prog 129:=enters Tryz.func129 rfl (by decide)
end TKSegK
open TKSegK
set_option maxRecDepth 10000
structure Js {α:Type} (A:RT α) (e T:TypeId) (X:aL→World→Prop) (F:Value→Array Value) (M:aL) (w0:World) (bo bi bd D:Nat) (vd:Value) (st:Loop) (vo:Value) (xs:List α) (M':aL) (w:World):Prop where
 lt:Lt M' w
 S:Step M w0 M' w aE
 o:w.heap[bo]? =some (.cells (F vo) T (0,0))
 mo:M' bo
 r:w.heap[D+1]? =some (.loop st)
 mr:M' (D+1)
 d:w.heap[D]? =some (.deferred (some []))
 md:M' D
 own:Own A e M' w w0.heap.size vo xs
 gi:w.heap[bi]? =some (.cells #[.int .i64 0] 3 (0,0))
 gd:w.heap[bd]? =some (.cells #[vd] 123 (0,0))
 fi: ¬M' bi
 fd: ¬M' bd
 z:w0.heap.size≤bo∧w0.heap.size≤D
 k:X M' w
section
variable {α:Type} {A:RT α} {e T:TypeId} {X:aL→World→Prop} {F:Value→Array Value} {M M1 M2 N:aL} {w0 w w':World} {bo bi bd D:Nat} {vd:Value} {st:Loop} {vo:Value} {xs:List α}
theorem Js.a8 (hX:∀{M w M' w'},X M w→Le M w M' w'→X M' w') (h:Js A e T X F M w0 bo bi bd D vd st vo xs M1 w) (s:Step M1 w M2 w' aE):Js A e T X F M w0 bo bi bd D vd st vo xs M2 w':=
 ⟨s.lt h.lt,h.S.aB s,s.aM h.o,(s.mem _ (an h.o)).2 h.mo,s.aM h.r,(s.mem _ (an h.r)).2 h.mr,s.aM h.d,(s.mem _ (an h.d)).2 h.md,h.own.a8 s,s.aM h.gi,s.aM h.gd,fun hn=>h.fi ((s.mem _ (an h.gi)).1 hn),fun hn=>h.fd ((s.mem _ (an h.gd)).1 hn),h.z,hX h.k s.le⟩
theorem Js.lM {st':Loop} (hX:∀{M w M' w'},X M w→Le M w M' w'→X M' w') (h:Js A e T X F M w0 bo bi bd D vd st vo xs M1 w):Js A e T X F M w0 bo bi bd D vd st' vo xs M1 (w.putObj (D+1) (.loop st')):=by
 have s:Step M1 w M1 (w.putObj (D+1) (.loop st')) (fun k=>k=D+1):=dM h.mr;obtain⟨z1,z2⟩:=h.z;refine⟨s.lt h.lt,h.S.cW s (fun k (hk:k=D+1)=>by omega),s.bS h.o (fun(hn:bo=D+1)=>by have h1:=h.o;rw[hn,h.r]at h1;cases h1),h.mo,tP (an h.r),h.mr,s.bS h.d (fun(hn:D=D+1)=>by omega),h.md,h.own.step s (fun b hb (hn:b=D+1)=>?_),s.bS h.gi (fun(hn:bi=D+1)=>by have h1:=h.gi;rw[hn,h.r]at h1;cases h1),s.bS h.gd (fun(hn:bd=D+1)=>by have h1:=h.gd;rw[hn,h.r]at h1;cases h1),h.fi,h.fd,h.z,hX h.k s.le⟩;obtain⟨cs,hc⟩:=h.own.isCells hb;rw[hn,h.r]at hc;cases hc
theorem Js.grow {IT:Value} {MR:List α} (hX:∀{M w M' w'},X M w→Le M w M' w'→X M' w') (hT:T≠e) (h:Js A e T X F M w0 bo bi bd D vd st vo xs M1 w) (s:Step M1 w M2 w' (jC vo)) (ho:Own A e M2 w' w0.heap.size IT MR):
  (w'.heap[bo]? =some (.cells (F vo) T (0,0))∧M2 bo)∧∀{w2:World},Step M2 w' M2 w2 (fun k=>k=bo)→w2.heap[bo]? =some (.cells (F IT) T (0,0))→Js A e T X F M w0 bo bi bd D vd st IT MR M2 w2:=by
 obtain⟨z1,z2⟩:=h.z
 have Dj:∀{b:Nat} {o:Obj},w.heap[b]? =some o→(∀cs fr,o≠ .cells cs e fr)→¬jC vo b:=fun {b o} hb fg hn=>by
  obtain⟨⟨C,h1,_⟩,_⟩:=h.own;rcases h1.2 with h3|⟨g,cap,cur,h3,h4,h5,_⟩
  ·unfold jC at hn;rw[h3.1]at hn;cases hn
  ·unfold jC at hn;rw[h3]at hn;cases hn;rw[hb]at h5;exact fg _ _ (aN h5)
 have nM:∀{b:Nat},¬M1 b→¬jC vo b:=fun hb hn=>hb (h.own.mut_ _ hn)
 have gA:=s.bS h.o (Dj h.o (fun cs fr hc=>by injection hc with _ h1 _;exact hT h1));have hr:=s.bS h.r (Dj h.r (fun cs fr hc=>by cases hc));have hd:=s.bS h.d (Dj h.d (fun cs fr hc=>by cases hc));have Dd:=s.bS h.gi (nM h.fi);have sH:=s.bS h.gd (nM h.fd);have UK: ¬M2 bi:=fun hn=>h.fi ((s.mem _ (an h.gi)).1 hn)
 have F3: ¬M2 bd:=fun hn=>h.fd ((s.mem _ (an h.gd)).1 hn)
 have FV:=(s.mem _ (an h.o)).2 h.mo;refine⟨⟨gA,FV⟩,fun {w2} s2 hx=>⟨s2.lt (s.lt h.lt),(h.S.cF s h.own (aT _)).cW s2 (fun k (hk:k=bo)=>by omega),hx,FV,s2.bS hr (fun(hn:D+1=bo)=>by rw[hn,gA]at hr;cases hr),(s.mem _ (an h.r)).2 h.mr,s2.bS hd (fun(hn:D=bo)=>by rw[hn,gA]at hd;cases hd),(s.mem _ (an h.d)).2 h.md,ho.step s2 (fun b hb (hn:b=bo)=>ho.eW gA hT (by rw[←hn];exact hb)),s2.bS Dd (fun(hn:bi=bo)=>UK (by rw[hn];exact FV)),s2.bS sH (fun(hn:bd=bo)=>F3 (by rw[hn];exact FV)),UK,F3,h.z,hX (hX h.k s.le) s2.le⟩⟩
end
theorem adj {α:Type} {A:RT α} {e T:TypeId} {X:aL→World→Prop} {F:Value→Array Value} (hX:∀{M w M' w'},X M w→Le M w M' w'→X M' w') {M M1:aL} {w0 w:World} {bo bi bd:Nat} {vd:Value} {st:Loop} (hk:X M1 w) (hM:Lt M1 w) (S:Step M w0 M1 w aE) (go:w.heap[bo]? =some (.cells (F (.slice none 0 0)) T (0,0))) (mo:M1 bo) (gi:w.heap[bi]? =some (.cells #[.int .i64 0] 3 (0,0))) (gd:w.heap[bd]? =some (.cells #[vd] 123 (0,0))) (fi: ¬M1 bi) (fd: ¬M1 bd) (Fv:w0.heap.size≤bo):
  ∃M',Js A e T X F M w0 bo bi bd w.heap.size vd st (.slice none 0 0) [] M' ((w.alloc (.deferred (some []))).alloc (.loop st)):=by
 have sA:Step M1 w (ins M1 w.heap.size) (w.alloc (.deferred (some []))) aE:=(dv M1 w _).own (aT _) (by simp);have sB:Step (ins M1 w.heap.size) (w.alloc (.deferred (some []))) (ins (ins M1 w.heap.size) (w.heap.size+1)) ((w.alloc (.deferred (some []))).alloc (.loop st)) aE:=(dv _ _ _).own (by simp) (by simp);have hD:(w.alloc (.deferred (some []))).heap[w.heap.size]? =some (.deferred (some [])):=cJ w _;have hR:((w.alloc (.deferred (some []))).alloc (.loop st)).heap[w.heap.size+1]? =some (.loop st):=by have:=cJ (w.alloc (.deferred (some []))) (.loop st);rwa [xd]at this
 have SS:=(S.aB sA).aB sB;have hi:=an gi;have hd:=an gd;refine⟨_,sB.lt (sA.lt hM),SS,sB.aM (sA.aM go),.inr (.inr mo),hR,.inl rfl,sB.aM hD,.inr (.inl rfl),dQ _ _ _ _ _,sB.aM (sA.aM gi),sB.aM (sA.aM gd),?_,?_,⟨Fv,S.size⟩,hX (hX hk sA.le) sB.le⟩
 ·rintro(h|h|h)
  ·omega
  ·omega
  ·exact fi h
 ·rintro(h|h|h)
  ·omega
  ·omega
  ·exact fd h
theorem Le.out {MQ M':aL} {wQ w:World} (h:Le MQ wQ M' w):Le (fun b=>MQ b∨wQ.heap.size≤b) w M' w:=fun b _ hm=>⟨(h b (Nat.lt_of_not_le fun hh=>hm (.inr hh)) (fun hh=>hm (.inl hh))).1,rfl⟩
theorem Le.fixed {MQ M':aL} {wQ w:World} (h:Le MQ wQ M' w):Le (fun b=>MQ b∨wQ.heap.size≤b) wQ (fun b=>MQ b∨wQ.heap.size≤b) w:=fun b hb hm=>⟨hm,(h b hb (fun hh=>hm (.inl hh))).2⟩
theorem Le.wide (MQ:aL) (wQ:World):Le MQ wQ (fun b=>MQ b∨wQ.heap.size≤b) wQ:=fun b hb hm=>⟨fun hh=>hh.elim hm (fun h=>by omega),rfl⟩
def Em (s:Se) (va vb vc:Value) (MQ:aL) (wQ:World) (M:aL) (w:World):Prop:=((RT.int .i64).sl).V M w s.1 va∧((RT.int .i64).sl).V M w s.2.1 vb∧(RT.str.sl).V M w s.2.2.1 vc∧Le MQ wQ M w
theorem Em.le {s:Se} {va vb vc:Value} {MQ:aL} {wQ:World}:∀{M:aL} {w:World} {M':aL} {w':World},Em s va vb vc MQ wQ M w→Le M w M' w'→Em s va vb vc MQ wQ M' w':=fun h l=>⟨h.1.le l,h.2.1.le l,h.2.2.1.le l,h.2.2.2.trans l⟩
theorem B7 {M:aL} {s:Se} {ls:List (List Po)} {v0:Value} (w0:World) (hM:Lt M w0) (hs:cc RT.se M w0 v0 s) (hls:s.2.2.2=ls.map ir) (hdl:s.2.2.1.length=ls.length) (hn1:s.1.length≤1000000) (hn2:s.2.1.length≤1000000) (hd6:s.2.2.1.length≤1000000000) (hok:∀l∈ls,ej (-1) l=true∧(∀p∈l,p.2.length≤1099511627776)∧(dA (-1) l).length≤1099511627776∧l.length≤1099511627776):
  Spec Tryz.prog 28 #[v0] w0 (fun v w=>RT.pa.V M w (s.1,s.2.1,s.2.2.1,ls) v∧Step M w0 M w aE):=by
 have gB:=hM;refine mE (args:=[_]) (fn:=Tryz.f28) Tryz.func28 rfl (n:=37) Tryz.ntmps28 ?_;have S:Step M w0 M w0 aE:=(ar _ _).cw (fun _ h=>h.elim) (fun _ h=>h.elim);refine al (aj ?_);refine eG M Fw rfl (fun mz lY UG UH lR rA=>?_);obtain⟨fS,wo⟩:∃M',M'=ins M mz:=⟨_,rfl⟩;rw[←wo]at rA;have mA:fS mz:=by rw[wo];exact .inl rfl
 change lY.heap[mz]? =some (.cells #[.slice none 0 0,.slice none 0 0,.slice none 0 0,.slice none 0 0] _ _)at lR;replace hM:=rA.lt hM;have:=S.size;replace S:=S.aB rA;refine ae (al ?_);have Q5:=hM;have Qn:cc RT.se fS lY v0 s:=hs.le (by decide) rA.le;apply T.Gh (M:=fS) mixed [] [bW.eq _,bW.eq v0,bW.ptr (((RT.int .i64).sl)) s.1,bW.V ((RT.int .i64).sl) s.1,bW.V ((RT.int .i64).sl) s.1,bW.eq _,bW.eq v0,bW.ptr (((RT.int .i64).sl)) s.2.1,bW.V ((RT.int .i64).sl) s.2.1,bW.V ((RT.int .i64).sl) s.2.1,bW.eq _,bW.eq v0,bW.ptr ((RT.di).ptr) s.2.2,bW.V ((RT.di).ptr) s.2.2,bW.V (RT.str.sl) s.2.2.1,bW.mk' (fun v w'=>∃a b c,v= .agg [a,b,c,.slice none 0 0].toArray∧((RT.int .i64).sl).V fS w' s.1 a∧((RT.int .i64).sl).V fS w' s.2.1 b∧(RT.str.sl).V fS w' s.2.2.1 c) (fun⟨a,b,c,h1,h2,h3,h4⟩ s=>⟨a,b,c,h1,h2.le s.le,h3.le s.le,h4.le s.le⟩),bW.mk' (fun p w'=>∃bq,p= .pointer (some ⟨bq,0,none⟩)∧lY.heap.size≤bq∧w'.heap[bq]? =some (.cells #[.slice none 0 0,.slice none 0 0,.slice none 0 0,.slice none 0 0] 58 (0,0))) (fun⟨bq,h1,h2,h3⟩ s=>⟨bq,h1,h2,s.aM h3⟩)] 17
 ·rfl
 ·rfl
 ·rfl
 ·rfl
 ·rfl
 ·exact fun p hp=>by cases hp
 ·exact uj.none
 ·refine aY ?_ ?_
  ·intro wD E sD;refine ah rfl rfl ?_;exact ae ⟨rfl,rfl,_,rfl,rfl,ar _ _⟩
  refine aY ?_ ?_
  ·intro wD E sD;refine aA (bm rfl Qn.fk rfl ?_);exact ae ⟨rfl,rfl,_,rfl,rfl,ar _ _⟩
  refine aY ?_ ?_
  ·intro wD E sD;refine aA ?_;refine ay (M:=fS) (A:=RT.se) (B:=((RT.int .i64).sl)) eH rfl rfl jR (by decide) ZU rfl rfl (by decide) Qn sD.le (fun uf mw=>?_);exact ae ⟨rfl,rfl,_,rfl,mw,ar _ _⟩
  refine aY ?_ ?_
  ·intro wD E sD;intro v2 nq;refine bg (M:=fS) ax rfl rfl rfl rfl rfl (show cc (((RT.int .i64).sl)) fS wD v2 s.1 from nq) (ao _ _) (fun va mM=>?_);exact ae ⟨rfl,rfl,_,rfl,mM,ar _ _⟩
  refine aY ?_ ?_
  ·intro wD E sD;intro v3 px;refine aP rfl rfl Pn (oZ (M:=fS) (sD.lt Q5) (show((RT.int .i64).sl).V fS wD s.1 v3 from px) (by omega)) (fun r1 w1 h1=>?_);exact ae ⟨rfl,rfl,_,rfl,h1.1,h1.2⟩
  refine aY ?_ ?_
  ·intro wD E sD;refine ah rfl rfl ?_;exact ae ⟨rfl,rfl,_,rfl,rfl,ar _ _⟩
  refine aY ?_ ?_
  ·intro wD E sD;refine aA (bm rfl Qn.fk rfl ?_);exact ae ⟨rfl,rfl,_,rfl,rfl,ar _ _⟩
  refine aY ?_ ?_
  ·intro wD E sD;refine aA ?_;refine ay (M:=fS) (A:=RT.se) (B:=((RT.int .i64).sl)) eH rfl rfl jR (by decide) se1 rfl rfl (by decide) Qn sD.le (fun uf mw=>?_);exact ae ⟨rfl,rfl,_,rfl,mw,ar _ _⟩
  refine aY ?_ ?_
  ·intro wD E sD;intro v7 pT;refine bg (M:=fS) ax rfl rfl rfl rfl rfl (show cc (((RT.int .i64).sl)) fS wD v7 s.2.1 from pT) (ao _ _) (fun va mM=>?_);exact ae ⟨rfl,rfl,_,rfl,mM,ar _ _⟩
  refine aY ?_ ?_
  ·intro wD E sD;intro v8 rK;intro v4 nX;refine aP rfl rfl Pn (oZ (M:=fS) (sD.lt Q5) (show((RT.int .i64).sl).V fS wD s.2.1 v8 from rK) (by omega)) (fun r1 w1 h1=>?_);exact ae ⟨rfl,rfl,_,rfl,h1.1,h1.2⟩
  refine aY ?_ ?_
  ·intro wD E sD;refine ah rfl rfl ?_;exact ae ⟨rfl,rfl,_,rfl,rfl,ar _ _⟩
  refine aY ?_ ?_
  ·intro wD E sD;refine aA (bm rfl Qn.fk rfl ?_);exact ae ⟨rfl,rfl,_,rfl,rfl,ar _ _⟩
  refine aY ?_ ?_
  ·intro wD E sD;refine aA ?_;refine ay (M:=fS) (A:=RT.se) (B:=(RT.di).ptr) eH rfl rfl tZ (by decide) O1 rfl rfl (by decide) Qn sD.le (fun uf mw=>?_);exact ae ⟨rfl,rfl,_,rfl,mw,ar _ _⟩
  refine aY ?_ ?_
  ·intro wD E sD;intro v12 FH;refine bg (M:=fS) eo rfl rfl rfl rfl rfl (show cc ((RT.di).ptr) fS wD v12 s.2.2 from FH) (ao _ _) (fun va mM=>?_);exact ae ⟨rfl,rfl,_,rfl,mM,ar _ _⟩
  refine aY ?_ ?_
  ·intro wD E sD;intro JJ B6;intro v9 zV;refine aP rfl rfl E77 (wu (M:=fS) _ (sD.lt Q5) (oY.1 (show((RT.di).ptr).V fS wD s.2.2 JJ from B6)) (by rw[hls,cj];exact hdl) hd6) (fun r1 w1 h1=>?_);exact ae ⟨rfl,rfl,_,rfl,h1.1,h1.2⟩
  refine aY ?_ ?_
  ·intro wD E sD;intro v4 nX;intro v9 zV;intro v14 VC;refine eT (places:=[(0,1),(1,1),(2,1),(3,1)]) cd Fw B58 rfl ⟨_,_,rfl,rfl,_,_,rfl,rfl,_,_,rfl,rfl,rfl⟩ (out:=[v4,v9,v14,.slice none 0 0]) ⟨0,[_],rfl,fM nX,by simp[Value.cells],1,[_],rfl,fM zV,by simp[Value.cells],2,[_],rfl,fM VC,by simp[Value.cells],rfl⟩ ?_;exact ae ⟨rfl,rfl,_,rfl,⟨v4,v9,v14,rfl,nX,zV,VC⟩,ar _ _⟩
  refine aY ?_ ?_
  ·intro wD E sD;refine eG fS Fw rfl (fun bq wq e1 e2 e3 s=>?_);exact ae ⟨rfl,rfl,_,rfl,⟨bq,rfl,dT sD.size e1,e3⟩,s.back⟩
  exact cf.nil
 ·intro zU kz;refine aA (aA ?_);intro BP me;intro GQ uT;intro ak1 agw;refine aA (aA ?_);intro NZ GP;intro UN MT;intro ak2 agx;refine aA (aA ?_);intro agy adk;intro agz adl;intro agA adm;intro agB Qo;intro agC Qp;obtain⟨va,vb,vc,rfl,mM,JF,VD⟩:=Qo;obtain⟨bo,rfl,Fv,gq⟩:=Qp;obtain⟨MP,VE⟩:∃M',M'=ins fS bo:=⟨_,rfl⟩;have sW:Step fS lY MP zU aE:=by rw[VE];exact kz.own Fv (an gq)
  replace mM:((RT.int .i64).sl).V MP zU s.1 va:=by rw[VE];exact Jr (fun _ _ _ _ _ _ h=>h) gq (fun M w x vs (h:vs=_∧_)=>⟨_,[],h.1,fun j hj=>by rcases j with _|_|_|_|j<;>simp at hj⟩) mM
  replace JF:((RT.int .i64).sl).V MP zU s.2.1 vb:=by rw[VE];exact Jr (fun _ _ _ _ _ _ h=>h) gq (fun M w x vs (h:vs=_∧_)=>⟨_,[],h.1,fun j hj=>by rcases j with _|_|_|_|j<;>simp at hj⟩) JF
  replace VD:(RT.str.sl).V MP zU s.2.2.1 vc:=by rw[VE];exact Jr (fun _ _ _ _ _ _ h=>h) gq (fun M w x vs (h:vs=_∧_)=>⟨_,[],h.1,fun j hj=>by rcases j with _|_|_|_|j<;>simp at hj⟩) VD
  have Q6:MP bo:=by rw[VE];exact .inl rfl
  refine eD (M:=MP) (vs:=[va,vb,vc,.slice none 0 0]) Fw rfl rfl (by intro u hu;simp at hu;rcases hu with rfl|rfl|rfl|rfl<;>first|rfl|exact jq (by assumption) rfl rfl) rfl rfl gq Q6 (fun WW g17 JK=>?_);replace mM:=mM.le JK.le;replace JF:=JF.le JK.le;replace VD:=VD.le JK.le;replace Q6:=(JK.mem _ (an gq)).2 Q6;have VF:cc RT.se MP WW v0 s:=(Qn.le (by decide) sW.le).le (by decide) JK.le;have SA:=S;clear S hM gq;have gq:=g17;have S:Step fS lY MP WW aE:=sW.cW JK (fun k (hk:k=bo)=>by omega);have hM:=S.lt Q5;refine ae (al (al (aj (ah rfl rfl (bm rfl VF.fk rfl ?_)))));refine ay (M:=MP) (A:=RT.se) (B:=(RT.di).ptr) eH rfl rfl tZ (by decide) O1 rfl rfl (by decide) VF (ao _ _) (fun Kf ju=>?_);refine bg (M:=MP) eo rfl rfl rfl rfl rfl ju (ao _ _) (fun vd I0=>?_);have VG:=oY.1 I0;refine aP rfl rfl UJ (sV (M:=MP) _ hM VG) (fun r2 w2 hc=>?_);obtain⟨bi,bd,rfl,gi,gd,YO,hbd,s2⟩:=hc;have fi: ¬MP bi:=fun h=>by have:=hM _ h;omega
  have fd: ¬MP bd:=fun h=>by have:=hM _ h;omega
  replace hM:=s2.lt hM;have:=S.size;replace S:=S.aB s2;refine ae (bh ?_);refine T.range (gf:=129) (lb:=[.pointer (some ⟨bi,0,none⟩),.pointer (some ⟨bd,0,none⟩)].toArray) rfl IW (fun rec mj=>?_);obtain⟨D,hD⟩:∃D,D=w2.heap.size:=⟨_,rfl⟩;obtain⟨Mr,h0⟩:=adj (A:=(RT.po).sl) (e:=107) (X:=(Em s va vb vc MP w2)) (F:=(fun vo=> #[va,vb,vc,vo])) Em.le (st:=rec .ready none) ⟨mM.le s2.le,JF.le s2.le,VD.le s2.le,ao _ _⟩ hM S (s2.aM gq) ((s2.mem _ (an gq)).2 Q6) gi gd fi fd Fv;rw[←hD]at mj h0 ⊢;have Er:cc RT.di (fun b=>MP b∨w2.heap.size≤b) w2 vd s.2.2:=(VG.le (by decide) s2.le).le (by decide) (Le.wide MP w2);refine Spec.mono (qC (wv:=w2) (M:=fun b=>MP b∨w2.heap.size≤b) (J:=fun i w=>∃M' vo,Js ((RT.po).sl) 107 58 (Em s va vb vc MP w2) (fun vo=> #[va,vb,vc,vo]) fS lY bo bi bd D vd (rec .ready none) vo (ls.take i) M' w) (Jx:=fun _=>False) _ Er (by rw[hls,cj];exact hdl) (fun i w w' ⟨M',vo,h⟩ s=>⟨M',vo,h.a8 Em.le (s.any M')⟩) (fun i w ⟨M',vo,h⟩=>⟨h.gi,h.gd,h.k.2.2.2.fixed⟩) (fun i wr x t vt hJ hx ht hp=>?_) ⟨Mr,_,h0⟩) (fun _ w3 h3=>?_)
  ·obtain⟨M',vo,h⟩:=hJ;obtain⟨l,Dv,rfl⟩:∃l,ls[i]? =some l∧ir l=t:=by rw[hls,ff]at ht;exact iv.1 ht
   have nR:=(aw.1 Dv).1;obtain⟨iV,VH,Xa,Xb⟩:=hok l (aG Dv);refine kY (ps:=[27,28]) (vs:=[sv x,vt]) mj h.r rfl (by decide) (aj (ak rfl rfl (ae ?_)));refine⟨rfl,h.r,?_⟩;have h4:=h.lM Em.le (st':=rec .busy none);have s4:Step M' wr M' (wr.putObj (D+1) (.loop (rec .busy none))) (fun k=>k=D+1):=dM h.mr;have zX:=(hp.le (by decide) h.k.2.2.2.out).le (by decide) s4.le;generalize wr.putObj (D+1) _=w4 at h4 s4 zX ⊢;have hM:=h4.lt;have S:=h4.S;refine bh ?_;apply qf 3 [0,1] 2 aE mixed rfl rfl rfl rfl;intro Gw K4;have lv:=K4 (M');replace hM:=lv.lt hM;have:=S.size;replace S:=S.aB lv;replace h4:=h4.a8 Em.le lv;refine bz cd rfl rfl qA (by decide) rfl rfl ?_;refine ae ⟨rfl,rfl,rfl,?_⟩;refine aX b9 rfl rfl rfl h4.o rfl (bO (v':=vo) rfl ?_);refine ae ⟨rfl,rfl,rfl,?_⟩;refine ah rfl rfl ?_;refine ae ⟨rfl,rfl,rfl,?_⟩;refine dU ?_;refine⟨ew ⟨fj cd rfl qA (by decide),⟨dC rfl h4.o (fun h=>h),trivial⟩⟩,?_⟩;have kp:=eU aE Gw;refine aP rfl rfl E79 (BO h4.lt (zX.le (by decide) lv.le) iV VH Xa Xb) (fun r5 w5 hc=>?_);obtain⟨lZ,s5⟩:=hc;replace h4:=h4.a8 Em.le s5;refine(fun(kp:dX _ _ _)=>ae ⟨rfl,rfl,fun _=>kp,?_⟩) (by first|exact kp|exact kp.mZ (by assumption)|exact kp.goN (by assumption)|exact kp.go (by assumption) (fun _ _ h=>by first|exact h|exact h.elim));refine eA (A:=(RT.po).sl) (hn:=by decide) (M:=M') b9 gz (by decide) rfl rfl h4.lt lZ (.inr ⟨rfl,rfl⟩) (fun u6 w6 KA s6=>?_);have h6:=h4.a8 Em.le s6;refine(fun(kp:dX _ _ _)=>ae ⟨rfl,rfl,fun _=>kp,?_⟩) (by first|exact kp|exact kp.mZ (by assumption)|exact kp.goN (by assumption)|exact kp.go (by assumption) (fun _ _ h=>by first|exact h|exact h.elim));refine cv (M:=M') (base:=lY.heap.size) b9 gz rfl rfl rfl rfl h6.own KA (ao _ _) (by simp;omega) (by simp;omega) h6.S.size (fun v7 M7 w7 sG s7=>?_)
   obtain⟨⟨go7,mo7⟩,FO⟩:=h6.grow Em.le (by decide) s7 sG;refine ae ⟨rfl,rfl,fun h=>absurd rfl h,?_⟩;refine bz cd rfl rfl qA (by decide) rfl rfl ?_;refine ae ⟨rfl,rfl,fun h=>absurd rfl h,?_⟩;refine ck (M:=M7) qA rfl rfl go7 rfl (by obtain⟨_,_,he,_⟩:=sG.isSlice;rw[he];rfl) mo7 (fun w8 g8 s8=>?_);replace g8:w8.heap[bo]? =some (.cells ((fun vo=> #[va,vb,vc,vo]) v7) 58 (0,0)):=g8;refine ae ⟨rfl,rfl,fun h=>absurd rfl h,?_⟩;refine gY ?_;have h8:=(FO s8 g8).lM Em.le (st':=rec .ready none);exact⟨(FO s8 g8).r,true,rfl,fun _=>⟨M7,v7,by rw[bP,Dv,cn];exact h8⟩,fun h=>by cases h⟩
  ·obtain⟨M',vo,h⟩:=h3.resolve_right id;left;refine⟨h.r,?_⟩;have h5:=h.lM Em.le (st':=rec .exhausted none);generalize w3.putObj (D+1) _=wE at h5 ⊢;refine al (aj (gO (vs:=[va,vb,vc,vo]) cd rfl Fw rfl rfl rfl h5.o ?_));obtain⟨hka,hkb,hkc,_⟩:=h5.k;obtain⟨_,_,heo,_⟩:=h5.own.isSlice;have gR:=h5.S.aM lR;have mR:=(h5.S.mem _ (an lR)).2 mA;refine eD (M:=M') (vs:=[va,vb,vc,vo]) Fw rfl rfl (by intro u hu;simp at hu;rcases hu with rfl|rfl|rfl|rfl<;>first|exact jq (by assumption) rfl rfl|(rw[heo];rfl)) rfl rfl gR mR (fun wF gF sF=>?_);refine ae (aQ ?_);have hDF:=sF.bS h5.d (fun(hn:D=mz)=>by have h1:=h5.d;rw[hn,gR]at h1;cases h1);have sZ:Step M' wF M' (wF.putObj D (.deferred none)) (fun k=>k=D):=dM h5.md;have hz:=h5.z;have LB:=SA.size;have SS:=((SA.aB h5.S).cW sF (fun k (hk:k=mz)=>by omega)).cW sZ (fun k (hk:k=D)=>by omega)
   have ho:=(h5.own.step sF (fun b hb (hn:b=mz)=>h5.own.eW gR (by decide) (hn▸hb))).step sZ (fun b hb (hn:b=D)=>by
    obtain⟨cs,hc⟩:=h5.own.isCells hb;rw[hn,h5.d]at hc;cases hc)
   rw[a7 (Nat.le_of_eq hdl.symm)]at ho;have JZ:ls.length≤1000000000:=by omega
   have lc:=(sF.le.trans sZ.le).trans (pD gB SS);refine LA (vs:=[va,vb,vc,vo]) rfl rfl cd rfl Fw rfl hDF (sZ.bS gF (fun(hn:mz=D)=>by rw[hn,h5.d]at gR;cases gR)) ⟨KT (x:=(s.1,s.2.1,s.2.2.1,ls)) (hka.le lc) (hkb.le lc) (hkc.le lc) (il (hn:=by decide) gB SS (ho.mi (by omega)) (by show ls.length≤_;omega)),SS.back⟩
end Go.K
namespace Go.K
open Go.Proofs
namespace TKSegM
theorem qA:TI Tryz.prog 56 (.slice none 0 0) 1 24:=by unfold TI;kernel_rfl
theorem Fw:TI Tryz.prog 58 (.agg #[(.slice none 0 0),(.slice none 0 0),(.slice none 0 0),(.slice none 0 0)]) 4 96:=by unfold TI;kernel_rfl
theorem E28:Enters Tryz.prog 28:=enters Tryz.func28 rfl (by decide)
end TKSegM
open TKSegM
set_option maxRecDepth 10000
structure LC (s:Se) (ls:List (List Po)):Prop where
 hls:s.2.2.2=ls.map ir
 hdl:s.2.2.1.length=ls.length
 hn1:s.1.length≤1000000
 hn2:s.2.1.length≤1000000
 hd6:s.2.2.1.length≤1000000000
 hok:∀l∈ls,ej (-1) l=true∧(∀p∈l,p.2.length≤1099511627776)∧(dA (-1) l).length≤1099511627776∧l.length≤1099511627776
def partsOf (s:Se) (ls:List (List Po)):Pa:=(s.1,s.2.1,s.2.2.1,ls)
end Go.K
namespace Go.K
open Go.Proofs
namespace TKSegN
theorem qA:TI Tryz.prog 56 (.slice none 0 0) 1 24:=by unfold TI;kernel_rfl
theorem FI:TI Tryz.prog 62 (.agg #[(.slice none 0 0),(.slice none 0 0),(.slice none 0 0),(.slice none 0 0)]) 4 96:=by unfold TI;kernel_rfl
theorem gz:TI Tryz.prog 107 (.slice none 0 0) 1 24:=by unfold TI;kernel_rfl
theorem E86:Enters Tryz.prog 86:=enters Tryz.func86 rfl (by decide)
theorem E87:Enters Tryz.prog 87:=enters Tryz.func87 rfl (by decide)
end TKSegN
open TKSegN
set_option maxRecDepth 10000
theorem zL {M:aL} {L:List En} {v0:Value} (w0:World) (hM:Lt M w0) (hv:(RT.en.sl).V M w0 L v0) (hF:∀e∈L,ie e.1) (hlen:∀e∈L,∀f∈e.1.2,f.1.length≤900000∧f.2.length≤900000) (hn:L.length≤100000):
  Spec Tryz.prog 31 #[v0] w0 (fun v w=>RT.pa.V M w (iX L) v∧Step M w0 M w aE):=by
 have gB:=hM
 have QD:(keysOf L).length≤500000000:=by
  have h1:=(kh L).nodup.length_le_of_subset (l₂:=gx L) (fun x hx=>iZ.1 hx);have:=j8 hF;omega
 refine bu (args:=[_]) (fn:=Tryz.f31) Tryz.func31 rfl (n:=56) Tryz.ntmps31 ?_;have S:Step M w0 M w0 aE:=(ar _ _).cw (fun _ h=>h.elim) (fun _ h=>h.elim);refine al (aj ?_);refine eG M FI rfl (fun mz lY UG UH lR rA=>?_);obtain⟨MA,eMA⟩:∃M',M'=ins M mz:=⟨_,rfl⟩;rw[←eMA]at rA;have mA:MA mz:=by rw[eMA];exact .inl rfl
 replace hv:=hv.le rA.le;have Q5:=rA.lt hM;have SA:=S.aB rA;clear hM S;have hM:=Q5;have S:Step MA lY MA lY aE:=ar _ _;refine ae (al (aj ?_));refine eG MA FI rfl (fun gu xn Hi Kz ic j2=>?_);obtain⟨gw,jL⟩:∃M',M'=ins MA gu:=⟨_,rfl⟩;rw[←jL]at j2;have fz:gw gu:=by rw[jL];exact .inl rfl
 change xn.heap[gu]? =some (.cells #[.slice none 0 0,.slice none 0 0,.slice none 0 0,.slice none 0 0] _ _)at ic;replace hv:=hv.le j2.le;replace hM:=j2.lt hM;have:=S.size;replace S:=S.aB j2;refine ae (al (al (aj (ak rfl rfl (ae (bh ?_))))));refine dz (σ:=Nat×Value×Value) (fun q=>[(0,v0),(2,.pointer (some ⟨mz,0,none⟩)),(3,.pointer (some ⟨gu,0,none⟩)),(4,.int .i64 (q.1:Int))]) (fun q w=>∃M',Lt M' w∧Step MA lY M' w aE∧(RT.en.sl).V M' w L v0∧w.heap[gu]? =some (.cells #[q.2.1,q.2.2,.slice none 0 0,.slice none 0 0] 62 (0,0))∧M' gu∧Own (RT.int .i64) 3 M' w lY.heap.size q.2.1 ((L.take q.1).map (·.1.1))∧Own (RT.int .i64) 3 M' w lY.heap.size q.2.2 ((L.take q.1).map (·.2))∧iP q.2.1 q.2.2∧q.1≤L.length) (fun q=>L.length-q.1) (0,.slice none 0 0,.slice none 0 0) (.cons rfl (.cons rfl (.cons rfl (.cons rfl .nil)))) ?_ ?_
 ·exact⟨_,hM,S,hv,ic,fz,dQ _ _ _ _ _,dQ _ _ _ _ _,iP.nil _,bH _⟩
 ·clear hM S hv;rintro⟨i,vi,vs⟩ w ⟨M2,hM,S,hv,g2,cE,fP,fT,Fe,hi⟩;dsimp only at g2 fP fT Fe hi ⊢;refine al (al (aj (ah rfl rfl (ah rfl rfl (bK dD rfl hv rfl (cz rfl rfl rfl (ae ?_)))))));refine bQ rfl (fun c3=>?_) (fun c3=>?_)
  ·refine aZ (al (bh (al ?_)));apply qf 8 [0,1] 1 aE mixed rfl rfl rfl rfl;intro L3 K7;have pL:=K7 M2;have:=an g2;replace cE:=(pL.mem _ this).2 cE;replace g2:=pL.aM g2;replace hv:=hv.le pL.le;replace fP:=fP.a8 pL;replace fT:=fT.a8 pL;replace hM:=pL.lt hM;have:=S.size;replace S:=S.aB pL;refine bz (o':=0) bC rfl rfl jR (by decide) rfl rfl ?_;refine ae ⟨rfl,rfl,rfl,?_⟩;refine aX ax rfl rfl rfl (by first|assumption|exact cC pL (by assumption)) rfl ?_;refine ae ⟨rfl,rfl,rfl,?_⟩;refine ah rfl rfl ?_;refine ae ⟨rfl,rfl,rfl,?_⟩;refine ah rfl rfl ?_;refine ae ⟨rfl,rfl,rfl,?_⟩;obtain⟨e,iH⟩:∃x,L[i]? =some x:=⟨_,av (by omega)⟩;refine cu (M:=M2) dD xh rfl rfl rfl hv (ao _ _) (by omega) (fun u54 x_ fU Jg=>?_);rw[aC]at fU;obtain rfl:=aN (iH.symm.trans fU);refine ae ⟨rfl,rfl,rfl,?_⟩;refine ay (M:=M2) (A:=RT.en) (B:=RT.dc) cP rfl rfl kQ (by decide) KB rfl rfl (by decide) Jg (ao _ _) (fun u55 Qe=>?_);refine ae ⟨rfl,rfl,rfl,?_⟩;refine ay (M:=M2) (A:=RT.dc) (B:=RT.int .i64) aO rfl rfl I3 (by decide) QP rfl rfl (by decide) Qe (ao _ _) (fun u56 ado=>?_);refine ae ⟨rfl,rfl,rfl,?_⟩;refine cr (M:=M2) az rfl rfl ado (ao _ _) (fun VI=>?_);refine bO (v':= .int .i64 e.1.1) rfl ?_;refine ae ⟨rfl,rfl,rfl,?_⟩;refine dU ?_;refine⟨ew ⟨fj bC rfl jR (by decide),⟨dC rfl g2 (fun h=>h),trivial⟩⟩,?_⟩;have kp:=eU aE L3;refine eA (A:=RT.int .i64) (hn:=by decide) (M:=M2) ax I3 (by decide) rfl rfl hM (gC (x:=e.1.1) VI) (.inr ⟨rfl,rfl⟩) (fun Ua aaA VJ ry=>?_);have:=an g2;replace cE:=(ry.mem _ this).2 cE;replace g2:=ry.aM g2;replace hv:=hv.le ry.le;replace fP:=fP.a8 ry
   replace fT:=fT.a8 ry;replace hM:=ry.lt hM;have:=S.size;replace S:=S.aB ry;refine(fun(kp:dX _ _ _)=>ae ⟨rfl,rfl,fun _=>kp,?_⟩) (by first|exact kp|exact kp.mZ (by assumption)|exact kp.goN (by assumption)|exact kp.go (by assumption) (fun _ _ h=>by first|exact h|exact h.elim));refine Rg.kc (M:=M2) (base:=lY.heap.size) ax I3 rfl rfl rfl rfl fP VJ (ao _ _) (by simp;omega) (by simp;omega) S.size (fun v5 w5 Q0 s5 hF5=>?_);generalize kD M2 v5=M5 at Q0 s5;have VK:iP v5 vs:=Fe.grown hF5 (fun b hb=>(fT.base b hb).2);replace fT:=fT.step s5 (fun b hb h=>Fe b h hb);replace cE:=(s5.mem _ (an g2)).2 cE;replace g2:=s5.bS g2 (fun h=>fP.eW g2 (by decide) h);replace hv:=hv.le s5.le;replace S:=S.cF s5 fP (aT _);replace hM:=s5.lt hM;replace fP:=Q0;refine ae ⟨rfl,rfl,fun h=>absurd rfl h,?_⟩;refine bz (o':=0) bC rfl rfl jR (by decide) rfl rfl ?_;refine ae ⟨rfl,rfl,fun h=>absurd rfl h,?_⟩;refine ck (M:=M5) jR rfl rfl g2 rfl (by obtain⟨_,_,he,_⟩:=fP.isSlice;rw[he];rfl) cE (fun VL M8 wM=>?_);change VL.heap[_]? =some (Obj.cells #[v5,vs,.slice none 0 0,.slice none 0 0] _ _)at M8;have:=an g2;replace cE:=(wM.mem _ this).2 cE;replace hv:=hv.le wM.le;replace fP:=fP.step wM (fun c hc (h:c=gu)=>fP.eW g2 (by decide) (h▸hc));replace fT:=fT.step wM (fun c hc (h:c=gu)=>fT.eW g2 (by decide) (h▸hc));replace hM:=wM.lt hM;have:=S.size;replace S:=S.trans wM (fun k hk h=>by have h:_=_:=h;subst h;first|(exfalso;omega)|(show _≤_;omega)|exact⟨by first|omega|assumption,(S.mem _ hk).1 ((wM.mem _ (an g2)).1 cE)⟩|exact .inl rfl|exact .inr rfl|exact .inr (.inl rfl)|exact .inr (.inr rfl)|exact rfl);have vN:=M8;clear g2;have g2:=vN;clear vN;refine ae ⟨rfl,rfl,fun h=>absurd rfl h,?_⟩;refine gY ?_;apply qf 7 [0,1] 1 aE mixed rfl rfl rfl rfl;intro RU Ve;have qH:=Ve M5;have:=an g2;replace cE:=(qH.mem _ this).2 cE
   replace g2:=qH.aM g2;replace hv:=hv.le qH.le;replace fP:=fP.a8 qH;replace fT:=fT.a8 qH;replace hM:=qH.lt hM;have:=S.size;replace S:=S.aB qH;refine bz (o':=1) bC rfl rfl jR (by decide) rfl rfl ?_;refine ae ⟨rfl,rfl,rfl,?_⟩;refine aX ax rfl rfl rfl (by first|assumption|exact cC qH (by assumption)) rfl ?_;refine ae ⟨rfl,rfl,rfl,?_⟩;refine ah rfl rfl ?_;refine ae ⟨rfl,rfl,rfl,?_⟩;refine ah rfl rfl ?_;refine ae ⟨rfl,rfl,rfl,?_⟩;refine cu (M:=M5) dD xh rfl rfl rfl hv (ao _ _) (by omega) (fun u64 x_ fU Qa=>?_);rw[aC]at fU;obtain rfl:=aN (iH.symm.trans fU);refine ae ⟨rfl,rfl,rfl,?_⟩;refine ay (M:=M5) (A:=RT.en) (B:=RT.int .i64) cP rfl rfl I3 (by decide) Ti rfl rfl (by decide) Qa (ao _ _) (fun u65 adp=>?_);refine ae ⟨rfl,rfl,rfl,?_⟩;refine cr (M:=M5) az rfl rfl adp (ao _ _) (fun VM=>?_);refine bO (v':= .int .i64 e.2) rfl ?_;refine ae ⟨rfl,rfl,rfl,?_⟩;refine dU ?_;refine⟨ew ⟨fj bC rfl jR (by decide),⟨dC rfl g2 (fun h=>h),trivial⟩⟩,?_⟩;have kp:=eU aE RU;refine eA (A:=RT.int .i64) (hn:=by decide) (M:=M5) ax I3 (by decide) rfl rfl hM (gC (x:=e.2) VM) (.inr ⟨rfl,rfl⟩) (fun ald ale VN Dw=>?_);have:=an g2;replace cE:=(Dw.mem _ this).2 cE;replace g2:=Dw.aM g2;replace hv:=hv.le Dw.le;replace fP:=fP.a8 Dw;replace fT:=fT.a8 Dw;replace hM:=Dw.lt hM;have:=S.size;replace S:=S.aB Dw;refine(fun(kp:dX _ _ _)=>ae ⟨rfl,rfl,fun _=>kp,?_⟩) (by first|exact kp|exact kp.mZ (by assumption)|exact kp.goN (by assumption)|exact kp.go (by assumption) (fun _ _ h=>by first|exact h|exact h.elim));refine Rg.kc (M:=M5) (base:=lY.heap.size) ax I3 rfl rfl rfl rfl fT VN (ao _ _) (by simp;omega) (by simp;omega) S.size (fun v6 w6 tt s6 hF6=>?_)
   generalize kD M5 v6=M6 at tt s6;have CU:iP v5 v6:=(VK.symm.grown hF6 (fun b hb=>(fP.base b hb).2)).symm;replace fP:=fP.step s6 (fun b hb h=>VK b hb h);replace cE:=(s6.mem _ (an g2)).2 cE;replace g2:=s6.bS g2 (fun h=>fT.eW g2 (by decide) h);replace hv:=hv.le s6.le;replace S:=S.cF s6 fT (aT _);replace hM:=s6.lt hM;replace fT:=tt;refine ae ⟨rfl,rfl,fun h=>absurd rfl h,?_⟩;refine bz (o':=1) bC rfl rfl jR (by decide) rfl rfl ?_;refine ae ⟨rfl,rfl,fun h=>absurd rfl h,?_⟩;refine ck (M:=M6) jR rfl rfl g2 rfl (by obtain⟨_,_,he,_⟩:=fT.isSlice;rw[he];rfl) cE (fun VO Na wN=>?_);change VO.heap[_]? =some (Obj.cells #[v5,v6,.slice none 0 0,.slice none 0 0] _ _)at Na;have:=an g2;replace cE:=(wN.mem _ this).2 cE;replace hv:=hv.le wN.le;replace fP:=fP.step wN (fun c hc (h:c=gu)=>fP.eW g2 (by decide) (h▸hc));replace fT:=fT.step wN (fun c hc (h:c=gu)=>fT.eW g2 (by decide) (h▸hc));replace hM:=wN.lt hM;have:=S.size;replace S:=S.trans wN (fun k hk h=>by have h:_=_:=h;subst h;first|(exfalso;omega)|(show _≤_;omega)|exact⟨by first|omega|assumption,(S.mem _ hk).1 ((wN.mem _ (an g2)).1 cE)⟩|exact .inl rfl|exact .inr rfl|exact .inr (.inl rfl)|exact .inr (.inr rfl)|exact rfl);have vN:=Na;clear g2;have g2:=vN;clear vN;refine ae ⟨rfl,rfl,fun h=>absurd rfl h,?_⟩;refine gY (aj (ah rfl rfl (bI rfl rfl rfl (by omega) (ak rfl rfl (ae ?_)))));have et:L.take (i+1)=L.take i++[e]:=by rw[bP,iH,cn]
   refine⟨rfl,(i+1,v5,v6),(.cons rfl (.cons rfl (.cons rfl (.cons rfl .nil)))),?_,?_⟩
   ·exact⟨_,hM,S,hv,g2,cE,by rw[et,dH];exact fP,by rw[et,dH];exact fT,CU,by dsimp only;omega⟩
   ·dsimp only;omega
  ·refine cY (al (aj ?_));have hLi:L.take i=L:=a7 (by omega);rw[hLi]at fP fT;refine ah rfl rfl ?_;refine aP rfl rfl E86 (Dr _ hM hv hF hlen (by omega)) (fun rk w7 hc=>?_);obtain⟨mX,s7⟩:=hc;have:=an g2;replace cE:=(s7.mem _ this).2 cE;replace g2:=s7.aM g2;replace hv:=hv.le s7.le;replace fP:=fP.a8 s7;replace fT:=fT.a8 s7;replace hM:=s7.lt hM;have:=S.size;replace S:=S.aB s7;refine bz (o':=2) bC rfl rfl tR (by decide) rfl rfl ?_;refine ck (M:=M2) tR rfl rfl g2 rfl (jq mX rfl rfl) cE (fun Vf VP rD=>?_);change Vf.heap[_]? =some (Obj.cells #[vi,vs,rk,.slice none 0 0] _ _)at VP;have:=an g2;replace cE:=(rD.mem _ this).2 cE;replace hv:=hv.le rD.le;replace mX:=mX.le rD.le;replace fP:=fP.step rD (fun c hc (h:c=gu)=>fP.eW g2 (by decide) (h▸hc));replace fT:=fT.step rD (fun c hc (h:c=gu)=>fT.eW g2 (by decide) (h▸hc));replace hM:=rD.lt hM;have:=S.size;replace S:=S.trans rD (fun k hk h=>by have h:_=_:=h;subst h;first|(exfalso;omega)|(show _≤_;omega)|exact⟨by first|omega|assumption,(S.mem _ hk).1 ((rD.mem _ (an g2)).1 cE)⟩|exact .inl rfl|exact .inr rfl|exact .inr (.inl rfl)|exact .inr (.inr rfl)|exact rfl);have vN:=VP;clear g2;have g2:=vN;clear vN;refine ae (al (al (aj (ak rfl rfl (ae (bh ?_))))));refine dz (σ:=Nat×Value) (fun q=>[(0,v0),(2,.pointer (some ⟨mz,0,none⟩)),(3,.pointer (some ⟨gu,0,none⟩)),(5,.int .i64 (q.1:Int))]) (fun q w=>∃M',Lt M' w∧Step MA lY M' w aE∧(RT.en.sl).V M' w L v0∧w.heap[gu]? =some (.cells #[vi,vs,rk,q.2] 62 (0,0))∧M' gu∧Own (RT.int .i64) 3 M' w lY.heap.size vi (L.map (·.1.1))∧Own (RT.int .i64) 3 M' w lY.heap.size vs (L.map (·.2))∧Own ((RT.po).sl) 107 M' w lY.heap.size q.2 (((keysOf L).take q.1).map (pk L))∧(RT.str.sl).V M' w (keysOf L) rk∧q.1≤(keysOf L).length) (fun q=>(keysOf L).length-q.1) (0,.slice none 0 0) (.cons rfl (.cons rfl (.cons rfl (.cons rfl .nil)))) ?_ ?_
   ·exact⟨_,hM,S,hv,g2,cE,fP,fT,dQ _ _ _ _ _,mX,bH _⟩
   ·clear hM S hv g2 cE fP fT mX;rintro⟨j,vl⟩ w ⟨M3,hM,S,hv,g2,cE,fP,fT,j3,mX,hj⟩;dsimp only at g2 j3 hj ⊢;refine al (al (aj (ah rfl rfl (bz (o':=2) bC rfl rfl tR (by decide) rfl rfl (aX aF rfl rfl rfl g2 rfl (bO (v':=rk) rfl (bK aF rfl mX rfl (cz rfl rfl rfl (ae ?_)))))))));refine bQ rfl (fun c9=>?_) (fun c9=>?_)
    ·refine aZ (al (bh ?_));apply qf 8 [0,1] 2 aE mixed rfl rfl rfl rfl;intro Fq Is;have iu:=Is M3;have:=an g2;replace cE:=(iu.mem _ this).2 cE;replace g2:=iu.aM g2;replace hv:=hv.le iu.le;replace mX:=mX.le iu.le;replace fP:=fP.a8 iu;replace fT:=fT.a8 iu;replace j3:=j3.a8 iu;replace hM:=iu.lt hM;have:=S.size;replace S:=S.aB iu;refine bz (o':=3) bC rfl rfl qA (by decide) rfl rfl ?_;refine ae ⟨rfl,rfl,rfl,?_⟩;refine aX b9 rfl rfl rfl (by first|assumption|exact cC iu (by assumption)) rfl ?_;refine ae ⟨rfl,rfl,rfl,?_⟩;refine ah rfl rfl ?_;refine ae ⟨rfl,rfl,rfl,?_⟩;refine bz (o':=2) bC rfl rfl tR (by decide) rfl rfl ?_;refine ae ⟨rfl,rfl,rfl,?_⟩;refine aX aF rfl rfl rfl g2 rfl (bO (v':=rk) rfl ?_);refine ae ⟨rfl,rfl,rfl,?_⟩;refine ah rfl rfl ?_;refine ae ⟨rfl,rfl,rfl,?_⟩;obtain⟨k,VQ⟩:∃x,(keysOf L)[j]? =some x:=⟨_,av (by omega)⟩;refine cu (M:=M3) aF I9 rfl rfl rfl mX (ao _ _) (by omega) (fun alg x_ fU VR=>?_);rw[aC]at fU;obtain rfl:=aN (VQ.symm.trans fU);refine ae ⟨rfl,rfl,rfl,?_⟩;refine bg (M:=M3) aD rfl rfl rfl rfl rfl VR (ao _ _) (fun v117 VS=>?_);obtain rfl:=dP VS;refine ae ⟨rfl,rfl,rfl,?_⟩;refine dU ?_;refine⟨ew ⟨fj bC rfl qA (by decide),⟨dC rfl g2 (fun h=>h),trivial⟩⟩,?_⟩;have kp:=eU aE Fq;refine aP rfl rfl E87 (Ds (key:=k) _ hM hv hF hlen (by omega)) (fun r11 WV hc=>?_);obtain⟨zy,rM⟩:=hc;have:=an g2;replace cE:=(rM.mem _ this).2 cE;replace g2:=rM.aM g2;replace hv:=hv.le rM.le;replace mX:=mX.le rM.le;replace fP:=fP.a8 rM;replace fT:=fT.a8 rM;replace j3:=j3.a8 rM;replace hM:=rM.lt hM;have:=S.size;replace S:=S.aB rM
     refine(fun(kp:dX _ _ _)=>ae ⟨rfl,rfl,fun _=>kp,?_⟩) (by first|exact kp|exact kp.mZ (by assumption)|exact kp.goN (by assumption)|exact kp.go (by assumption) (fun _ _ h=>by first|exact h|exact h.elim));refine eA (A:=((RT.po).sl)) (hn:=by decide) (M:=M3) b9 gz (by decide) rfl rfl hM (zy) (.inr ⟨rfl,rfl⟩) (fun SL SM nz lF=>?_);have:=an g2;replace cE:=(lF.mem _ this).2 cE;replace g2:=lF.aM g2;replace hv:=hv.le lF.le;replace mX:=mX.le lF.le;replace zy:=zy.le lF.le;replace fP:=fP.a8 lF;replace fT:=fT.a8 lF;replace j3:=j3.a8 lF;replace hM:=lF.lt hM;have:=S.size;replace S:=S.aB lF;refine(fun(kp:dX _ _ _)=>ae ⟨rfl,rfl,fun _=>kp,?_⟩) (by first|exact kp|exact kp.mZ (by assumption)|exact kp.goN (by assumption)|exact kp.go (by assumption) (fun _ _ h=>by first|exact h|exact h.elim));refine cv (M:=M3) (base:=lY.heap.size) b9 gz rfl rfl rfl rfl j3 nz (ao _ _) (by simp;omega) (by simp;omega) (S.size) (fun y6 Cy Og y7 ji=>?_);have:=an g2;replace cE:=(ji.mem _ this).2 cE;replace g2:=ji.bS g2 (fun h=>by first|exact j3.dZ g2 h|exact j3.eW g2 (by decide) h|(have:=(j3.base _ h).1;omega));replace hv:=hv.le ji.le;replace mX:=mX.le ji.le;replace zy:=zy.le ji.le;replace nz:=nz.le ji.le;replace fP:=fP.step ji (fun b h1 h2=>fP.iW j3 (by decide) h1 h2);replace fT:=fT.step ji (fun b h1 h2=>fT.iW j3 (by decide) h1 h2);replace hM:=ji.lt hM;have:=S.size;replace S:=S.cF ji j3 (aT _);replace j3:=y7;refine ae ⟨rfl,rfl,fun h=>absurd rfl h,?_⟩;refine bz (o':=3) bC rfl rfl qA (by decide) rfl rfl ?_;refine ae ⟨rfl,rfl,fun h=>absurd rfl h,?_⟩;refine ck (M:=Cy) qA rfl rfl g2 rfl (by obtain⟨_,_,he,_⟩:=j3.isSlice;rw[he];rfl) cE (fun Qq Jt lS=>?_);change Qq.heap[_]? =some (Obj.cells #[vi,vs,rk,y6] _ _)at Jt
     have:=an g2;replace cE:=(lS.mem _ this).2 cE;replace hv:=hv.le lS.le;replace mX:=mX.le lS.le;replace zy:=zy.le lS.le;replace nz:=nz.le lS.le;replace fP:=fP.step lS (fun c hc (h:c=gu)=>fP.eW g2 (by decide) (h▸hc));replace fT:=fT.step lS (fun c hc (h:c=gu)=>fT.eW g2 (by decide) (h▸hc));replace j3:=j3.step lS (fun c hc (h:c=gu)=>j3.eW g2 (by decide) (h▸hc));replace hM:=lS.lt hM;have:=S.size;replace S:=S.trans lS (fun k hk h=>by have h:_=_:=h;subst h;first|(exfalso;omega)|(show _≤_;omega)|exact⟨by first|omega|assumption,(S.mem _ hk).1 ((lS.mem _ (an g2)).1 cE)⟩|exact .inl rfl|exact .inr rfl|exact .inr (.inl rfl)|exact .inr (.inr rfl)|exact rfl);have vN:=Jt;clear g2;have g2:=vN;clear vN;refine ae ⟨rfl,rfl,fun h=>absurd rfl h,?_⟩;refine gY (aj (ah rfl rfl (bI rfl rfl rfl (by omega) (ak rfl rfl (ae ?_)))));refine⟨rfl,(j+1,y6),(.cons rfl (.cons rfl (.cons rfl (.cons rfl .nil)))),?_,?_⟩
     ·exact⟨_,hM,S,hv,g2,cE,fP,fT,by rw[bP,VQ,cn,dH];exact j3,mX,by dsimp only;omega⟩
     ·dsimp only;omega
    ·refine cY (al (aj (gO (vs:=[vi,vs,rk,vl]) bC rfl FI rfl rfl rfl g2 ?_)));rw[a7 (by omega)]at j3;obtain⟨_,_,hea,_⟩:=fP.isSlice;obtain⟨_,_,heb,_⟩:=fT.isSlice;obtain⟨_,_,hec,_⟩:=j3.isSlice;have gR:=S.aM lR;have mR:=(S.mem _ (an lR)).2 mA;refine eD (M:=M3) (vs:=[vi,vs,rk,vl]) FI rfl rfl (by intro u hu;simp at hu;rcases hu with rfl|rfl|rfl|rfl<;>first|exact jq (by assumption) rfl rfl|(rw[hea];rfl)|(rw[heb];rfl)|(rw[hec];rfl)) rfl rfl gR mR (fun wF gF sF=>?_);refine ae (aQ ?_);have LB:=SA.size;have SS:=(SA.aB S).cW sF (fun k (hk:k=mz)=>by omega);have fg:∀b,M3 b→True:=fun _ _=>trivial
     have adq:=fP.step sF (fun b hb (hn:b=mz)=>fP.eW gR (by decide) (hn▸hb));have adr:=fT.step sF (fun b hb (hn:b=mz)=>fT.eW gR (by decide) (hn▸hb));have ads:=j3.step sF (fun b hb (hn:b=mz)=>j3.eW gR (by decide) (hn▸hb));exact su (vs:=[vi,vs,rk,vl]) rfl rfl bC rfl FI rfl gF ⟨KT (x:=iX L) (il (hn:=by decide) gB SS (adq.mi LB) (by show(L.map _).length≤_;rw[cj];omega)) (il (hn:=by decide) gB SS (adr.mi LB) (by show(L.map _).length≤_;rw[cj];omega)) ((mX.le sF.le).le (pD gB SS)) (il (hn:=by decide) gB SS (ads.mi LB) (by show((keysOf L).map _).length≤_;rw[cj];omega)),SS.back⟩
end Go.K
namespace Go.K
open Go.Proofs
namespace TKSegP
theorem tZ:TI Tryz.prog 123 (.pointer none) 1 8:=by unfold TI;kernel_rfl
theorem UJ:Enters Tryz.prog 78:=enters Tryz.func78 rfl (by decide)
theorem IW:Enters Tryz.prog 129:=enters Tryz.func129 rfl (by decide)
theorem adt:Enters Tryz.prog 142:=enters Tryz.func142 rfl (by decide)
end TKSegP
open TKSegP
set_option maxRecDepth 10000
structure Ju (T:TypeId) (M:aL) (w0:World) (bo bi bd D:Nat) (vd:Value) (MQ:aL) (wQ:World) (st:Loop) (n:Int) (M':aL) (w:World):Prop where
 lt:Lt M' w
 S:Step M w0 M' w aE
 o:w.heap[bo]? =some (.cells #[.int .i64 n] T (0,0))
 mo:M' bo
 r:w.heap[D+1]? =some (.loop st)
 mr:M' (D+1)
 d:w.heap[D]? =some (.deferred (some []))
 md:M' D
 gi:w.heap[bi]? =some (.cells #[.int .i64 0] 3 (0,0))
 gd:w.heap[bd]? =some (.cells #[vd] 123 (0,0))
 fi: ¬M' bi
 fd: ¬M' bd
 z:w0.heap.size≤bo∧w0.heap.size≤D
 k:Le MQ wQ M' w
section
variable {T:TypeId} {M M1 M2 MQ:aL} {w0 w w' wQ:World} {bo bi bd D:Nat} {vd:Value} {st:Loop} {n:Int}
theorem Ju.a8 (h:Ju T M w0 bo bi bd D vd MQ wQ st n M1 w) (s:Step M1 w M2 w' aE):Ju T M w0 bo bi bd D vd MQ wQ st n M2 w':=
 ⟨s.lt h.lt,h.S.aB s,s.aM h.o,(s.mem _ (an h.o)).2 h.mo,s.aM h.r,(s.mem _ (an h.r)).2 h.mr,s.aM h.d,(s.mem _ (an h.d)).2 h.md,s.aM h.gi,s.aM h.gd,fun hn=>h.fi ((s.mem _ (an h.gi)).1 hn),fun hn=>h.fd ((s.mem _ (an h.gd)).1 hn),h.z,h.k.trans s.le⟩
theorem Ju.lM {st':Loop} (h:Ju T M w0 bo bi bd D vd MQ wQ st n M1 w):Ju T M w0 bo bi bd D vd MQ wQ st' n M1 (w.putObj (D+1) (.loop st')):=by
 have s:Step M1 w M1 (w.putObj (D+1) (.loop st')) (fun k=>k=D+1):=dM h.mr;obtain⟨z1,z2⟩:=h.z;exact⟨s.lt h.lt,h.S.cW s (fun k (hk:k=D+1)=>by omega),s.bS h.o (fun(hn:bo=D+1)=>by have h1:=h.o;rw[hn,h.r]at h1;cases h1),h.mo,tP (an h.r),h.mr,s.bS h.d (fun(hn:D=D+1)=>by omega),h.md,s.bS h.gi (fun(hn:bi=D+1)=>by have h1:=h.gi;rw[hn,h.r]at h1;cases h1),s.bS h.gd (fun(hn:bd=D+1)=>by have h1:=h.gd;rw[hn,h.r]at h1;cases h1),h.fi,h.fd,h.z,h.k.trans s.le⟩
theorem Ju.put {n':Int} (h:Ju T M w0 bo bi bd D vd MQ wQ st n M1 w) (s:Step M1 w M1 w' (fun k=>k=bo)) (hx:w'.heap[bo]? =some (.cells #[.int .i64 n'] T (0,0))):Ju T M w0 bo bi bd D vd MQ wQ st n' M1 w':=by
 obtain⟨z1,z2⟩:=h.z;exact⟨s.lt h.lt,h.S.cW s (fun k (hk:k=bo)=>by omega),hx,h.mo,s.bS h.r (fun(hn:D+1=bo)=>by have h1:=h.o;rw[←hn,h.r]at h1;cases h1),h.mr,s.bS h.d (fun(hn:D=bo)=>by have h1:=h.o;rw[←hn,h.d]at h1;cases h1),h.md,s.bS h.gi (fun(hn:bi=bo)=>h.fi (hn▸h.mo)),s.bS h.gd (fun(hn:bd=bo)=>h.fd (hn▸h.mo)),h.fi,h.fd,h.z,h.k.trans s.le⟩
end
theorem adu {T:TypeId} {M M1:aL} {w0 w:World} {bo bi bd:Nat} {vd:Value} {st:Loop} (hM:Lt M1 w) (S:Step M w0 M1 w aE) (go:w.heap[bo]? =some (.cells #[.int .i64 0] T (0,0))) (mo:M1 bo) (gi:w.heap[bi]? =some (.cells #[.int .i64 0] 3 (0,0))) (gd:w.heap[bd]? =some (.cells #[vd] 123 (0,0))) (fi: ¬M1 bi) (fd: ¬M1 bd) (Fv:w0.heap.size≤bo):
  ∃M',Ju T M w0 bo bi bd w.heap.size vd M1 w st 0 M' ((w.alloc (.deferred (some []))).alloc (.loop st)):=by
 have sA:Step M1 w (ins M1 w.heap.size) (w.alloc (.deferred (some []))) aE:=(dv M1 w _).own (aT _) (by simp);have sB:Step (ins M1 w.heap.size) (w.alloc (.deferred (some []))) (ins (ins M1 w.heap.size) (w.heap.size+1)) ((w.alloc (.deferred (some []))).alloc (.loop st)) aE:=(dv _ _ _).own (by simp) (by simp);have hD:(w.alloc (.deferred (some []))).heap[w.heap.size]? =some (.deferred (some [])):=cJ w _;have hR:((w.alloc (.deferred (some []))).alloc (.loop st)).heap[w.heap.size+1]? =some (.loop st):=by have:=cJ (w.alloc (.deferred (some []))) (.loop st);rwa [xd]at this
 have SS:=(S.aB sA).aB sB;have hi:=an gi;have hd:=an gd;refine⟨_,sB.lt (sA.lt hM),SS,sB.aM (sA.aM go),.inr (.inr mo),hR,.inl rfl,sB.aM hD,.inr (.inl rfl),sB.aM (sA.aM gi),sB.aM (sA.aM gd),?_,?_,⟨Fv,S.size⟩,sA.le.trans sB.le⟩
 ·rintro(h|h|h)
  ·omega
  ·omega
  ·exact fi h
 ·rintro(h|h|h)
  ·omega
  ·omega
  ·exact fd h
def kI (ls:List (List Po)):Int:=(ls.map fun l=>((dA (-1) l).length:Int)).sum
theorem yA {ls:List (List Po)} {i:Nat} {l:List Po} (h:ls[i]? =some l):kI (ls.take (i+1))=kI (ls.take i)+((dA (-1) l).length:Int):=by
 unfold kI;rw[bP,h,cn,dH,List.sum_append];simp
theorem ur:∀ls:List (List Po),0≤kI ls
 |[]=>by simp[kI]
 |l::ls=>by have:=ur ls;unfold kI at this ⊢;rw[fo,List.sum_cons];omega
theorem yB (ls:List (List Po)) (i:Nat):kI (ls.take i)≤kI ls:=by
 have e:kI ls=kI (ls.take i)+kI (ls.drop i):=by unfold kI;rw[←List.sum_append,←dH,rF]
 have:=ur (ls.drop i);omega
theorem B8 {M:aL} {s:Se} {ls:List (List Po)} {v0:Value} (w0:World) (hM:Lt M w0) (hs:cc RT.se M w0 v0 s) (ok:LC s ls) (VT:kI ls≤4611686018427387904):
  Spec Tryz.prog 97 #[v0] w0 (fun v w=>v= .int .i64 (kI ls)∧Step M w0 M w aE):=by
 have gB:=hM;refine mE (args:=[_]) (fn:=Tryz.f97) Tryz.func97 rfl (n:=19) Tryz.ntmps97 ?_;have S:Step M w0 M w0 aE:=(ar _ _).cw (fun _ h=>h.elim) (fun _ h=>h.elim);refine al (aj (ak rfl rfl (ae (al (aj ?_)))));refine eG M I3 rfl (fun gu xn Hi Kz ic j2=>?_);obtain⟨gw,jL⟩:∃M',M'=ins M gu:=⟨_,rfl⟩;rw[←jL]at j2;have fz:gw gu:=by rw[jL];exact .inl rfl
 change xn.heap[gu]? =some (.cells #[.int .i64 0] _ _)at ic;replace hM:=j2.lt hM;have:=S.size;replace S:=S.aB j2;refine ck (M:=gw) I3 rfl rfl ic rfl (rfl) fz (fun E8 sK ot=>?_);change E8.heap[_]? =some (Obj.cells #[.int .i64 0] _ _)at sK;have:=an ic;replace fz:=(ot.mem _ this).2 fz;replace hM:=ot.lt hM;have:=S.size;replace S:=S.trans ot (fun k hk h=>by have h:_=_:=h;subst h;first|(exfalso;omega)|(show _≤_;omega)|exact⟨by first|omega|assumption,(S.mem _ hk).1 ((ot.mem _ (an ic)).1 fz)⟩|exact .inl rfl|exact .inr rfl|exact .inr (.inl rfl)|exact .inr (.inr rfl)|exact rfl);have Bh:=sK;clear ic;have ic:=Bh;clear Bh;refine ae (al (al (aj ?_)));have VF:cc RT.se gw E8 v0 s:=(hs.le (by decide) j2.le).le (by decide) ot.le;have gq:=ic;have Q6:=fz;have Fv:=Hi;clear ic fz;refine ah rfl rfl (bm rfl VF.fk rfl ?_);refine ay (M:=gw) (A:=RT.se) (B:=(RT.di).ptr) eH rfl rfl tZ (by decide) O1 rfl rfl (by decide) VF (ao _ _) (fun Kf ju=>?_);refine bg (M:=gw) eo rfl rfl rfl rfl rfl ju (ao _ _) (fun vd I0=>?_);have VG:=oY.1 I0;refine aP rfl rfl UJ (sV (M:=gw) _ hM VG) (fun r2 w2 hc=>?_);obtain⟨bi,bd,rfl,gi,gd,YO,hbd,s2⟩:=hc;have fi: ¬gw bi:=fun h=>by have:=hM _ h;omega
 have fd: ¬gw bd:=fun h=>by have:=hM _ h;omega
 replace gq:=s2.aM gq;replace hM:=s2.lt hM;have:=S.size;replace S:=S.aB s2;refine ae (bh ?_);refine T.range (gf:=129) (lb:=[.pointer (some ⟨bi,0,none⟩),.pointer (some ⟨bd,0,none⟩)].toArray) rfl IW (fun rec mj=>?_);obtain⟨D,hD⟩:∃D,D=w2.heap.size:=⟨_,rfl⟩;obtain⟨Mr,h0⟩:=adu (st:=rec .ready none) hM S gq Q6 gi gd fi fd Fv;rw[←hD]at mj h0 ⊢;have Er:cc RT.di (fun b=>gw b∨w2.heap.size≤b) w2 vd s.2.2:=(VG.le (by decide) s2.le).le (by decide) (Le.wide gw w2);refine Spec.mono (qC (wv:=w2) (M:=fun b=>gw b∨w2.heap.size≤b) (J:=fun i w=>∃M',Ju 3 M w0 gu bi bd D vd gw w2 (rec .ready none) (kI (ls.take i)) M' w) (Jx:=fun _=>False) _ Er (by rw[ok.hls,cj];exact ok.hdl) (fun i w w' ⟨M',h⟩ s=>⟨M',h.a8 (s.any M')⟩) (fun i w ⟨M',h⟩=>⟨h.gi,h.gd,h.k.fixed⟩) (fun i wr x t vt hJ hx ht hp=>?_) ⟨Mr,h0⟩) (fun _ w3 h3=>?_)
 ·obtain⟨M',h⟩:=hJ;obtain⟨l,Dv,rfl⟩:∃l,ls[i]? =some l∧ir l=t:=by rw[ok.hls,ff]at ht;exact iv.1 ht
  refine kY (ps:=[11,12]) (vs:=[sv x,vt]) mj h.r rfl (by decide) (aj (ak rfl rfl (ae ?_)));refine⟨rfl,h.r,?_⟩;have h4:=h.lM (st':=rec .busy none);have s4:Step M' wr M' (wr.putObj (D+1) (.loop (rec .busy none))) (fun k=>k=D+1):=dM h.mr;have zX:=(hp.le (by decide) h.k.out).le (by decide) s4.le;generalize wr.putObj (D+1) _=w4 at h4 s4 zX ⊢;have hM:=h4.lt;have S:=h4.S;have F9:=yA Dv;have Cc:=yB ls (i+1);have UU:=ur (ls.take i);refine bh ?_;apply qf 2 [0] 2 aE mixed rfl rfl rfl rfl;intro Gw K4;have lv:=K4 (M');replace hM:=lv.lt hM;have:=S.size;replace S:=S.aB lv;replace h4:=h4.a8 lv;refine aX az rfl rfl rfl h4.o rfl (bO (v':= .int .i64 (kI (ls.take i))) rfl ?_);refine ae ⟨rfl,rfl,rfl,?_⟩;refine ah rfl rfl ?_;refine ae ⟨rfl,rfl,rfl,?_⟩;refine dU ?_;refine⟨ew ⟨dC rfl h4.o (fun h=>h),trivial⟩,?_⟩;have kp:=eU aE Gw;refine aP rfl rfl adt (Cn (M:=M') (zX.le (by decide) lv.le) h4.lt) (fun r5 w5 hc=>?_);obtain⟨lZ,s5⟩:=hc;replace h4:=h4.a8 s5;refine(fun(kp:dX _ _ _)=>ae ⟨rfl,rfl,fun _=>kp,?_⟩) (by first|exact kp|exact kp.mZ (by assumption)|exact kp.goN (by assumption)|exact kp.go (by assumption) (fun _ _ h=>by first|exact h|exact h.elim));refine bK bj rfl lZ rfl (bO (v':= .int .i64 ((dA (-1) l).length:Int)) rfl ?_);refine(fun(kp:dX _ _ _)=>ae ⟨rfl,rfl,fun _=>kp,?_⟩) (by first|exact kp|exact kp.mZ (by assumption)|exact kp.goN (by assumption)|exact kp.go (by assumption) (fun _ _ h=>by first|exact h|exact h.elim));refine bI rfl rfl rfl (by omega) ?_;refine ae ⟨rfl,rfl,fun h=>absurd rfl h,?_⟩;refine ck (M:=M') I3 rfl rfl h4.o rfl rfl h4.mo (fun w8 g8 s8=>?_);replace g8:w8.heap[gu]? =some (.cells #[.int .i64 (kI (ls.take i)+((dA (-1) l).length:Int))] 3 (0,0)):=g8;refine ae ⟨rfl,rfl,fun h=>absurd rfl h,?_⟩;refine gY ?_;have h8:=(h4.put s8 g8).lM (st':=rec .ready none)
  exact⟨(h4.put s8 g8).r,true,rfl,fun _=>⟨M',by rw[F9];exact h8⟩,fun h=>by cases h⟩
 ·obtain⟨M',h⟩:=h3.resolve_right id;left;refine⟨h.r,?_⟩;have h5:=h.lM (st':=rec .exhausted none);generalize w3.putObj (D+1) _=wE at h5 ⊢;refine al (aj ?_);rw[a7 (Nat.le_of_eq ok.hdl.symm)]at h5;refine aX az rfl rfl rfl h5.o rfl (bO (v':= .int .i64 (kI ls)) rfl (ak rfl rfl (ae (aQ ?_))));have sZ:Step M' wE M' (wE.putObj D (.deferred none)) (fun k=>k=D):=dM h5.md;have hz:=h5.z;have hS:=h5.S.cW sZ (fun k (hk:k=D)=>by omega);exact yL rfl rfl h5.d ⟨rfl,hS.back⟩
end Go.K

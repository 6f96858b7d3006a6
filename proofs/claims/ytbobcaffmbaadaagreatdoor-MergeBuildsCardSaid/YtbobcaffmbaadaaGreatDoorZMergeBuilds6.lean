/- What the law 'MergeBuilds' needs of walks and plain Lean, part 6: nothing is assumed beyond the texts that it imports. -/
import Derived.KernelRfl
import Derived.Test.YtbobcaffmbaadaaGreatDoorProg
import Derived.Test.YtbobcaffmbaadaaGreatDoorZMergeBuilds1
import Derived.Test.YtbobcaffmbaadaaGreatDoorZMergeBuilds2
import Derived.Test.YtbobcaffmbaadaaGreatDoorZMergeBuilds3
import Derived.Test.YtbobcaffmbaadaaGreatDoorZMergeBuilds4
import Derived.Test.YtbobcaffmbaadaaGreatDoorZMergeBuilds5
set_option linter.unusedVariables false
set_option linter.unusedSimpArgs false
namespace Go.K
open Go.Proofs
set_option maxRecDepth 10000
theorem Xb {M:aD} {a b:List (List UInt8)} {v u:Value} (w0:World) (hM:Lt M w0) (hv:((RT.str).sl).V M w0 a v) (hu:((RT.str).sl).V M w0 b u):
  Spec Tryz.prog 74 #[v,u] w0 (fun v' w'=>v'= .bool (decide (a=b))∧Step M w0 M w' aC):=by
 have jO:=hM;have YY:=dD hv;have Yv:=dD hu;refine bg (args:=[_,_]) (fn:=Tryz.f74) Tryz.func74 rfl (n:=26) Tryz.ntmps74 ?_;have S:Step M w0 M w0 aC:=(au _ _).cB (fun _ h=>h.elim) (fun _ h=>h.elim);refine aj (ae (ah rfl rfl (ab (aj (aj (ae (ad rfl rfl (bN aJ rfl hv rfl (ad rfl rfl (bN aJ rfl hu rfl (eM rfl rfl rfl ?_)))))))))));refine ab ?_;refine bM rfl (fun c1=>?_) (fun c1=>?_)
 ·refine aj (ae (ah rfl rfl (ab (aP ?_))));exact aV rfl rfl ⟨congrArg Value.bool (decide_eq_false (fun e=>by subst e;exact c1 rfl)).symm,S⟩
 ·have hlen:a.length=b.length:=by omega
  refine aT (aj (aj (ae (ah rfl rfl (ab (aY ?_))))));refine dh (σ:=Nat) (fun k=>[(0,v),(1,u),(5,.int .i64 (k:Int))]) (fun k w=>Step M w0 M w aC∧((RT.str).sl).V M w a v∧((RT.str).sl).V M w b u∧k≤a.length∧a.take k=b.take k) (fun k=>a.length-k) 0 (.cons rfl (.cons rfl (.cons rfl .nil))) ?_ ?_
  ·exact⟨S,hv,hu,bD _,rfl⟩
  ·clear S hv hu hM;rintro k w ⟨S,hv,hu,hk,heq⟩;have hM:=S.lt jO;refine aj (aj (ae (ad rfl rfl (ad rfl rfl (bN aJ rfl hv rfl (cg rfl rfl rfl (ab ?_)))))));refine bM rfl (fun c4=>?_) (fun c4=>?_)
   ·refine aT (aj (aY (aj ?_)));apply nq mixed rfl rfl;intro wD6 RL;have tW:=RL M;replace hv:=hv.le tW.le;replace hu:=hu.le tW.le;replace hM:=tW.lt hM;have:=S.size;replace S:=S.aB tW;refine ad rfl rfl ?_;refine ab ⟨rfl,rfl,rfl,?_⟩;refine ad rfl rfl ?_;refine ab ⟨rfl,rfl,rfl,?_⟩;obtain⟨x,xq⟩:∃x,a[k]? =some x:=⟨_,ar (by omega)⟩;obtain⟨y,vJ⟩:∃y,b[k]? =some y:=⟨_,ar (by omega)⟩;refine cv (M:=M) aJ I9 rfl rfl rfl hv (aq _ _) (by omega) (fun u62 x_ iw Dd=>?_);rw[ay]at iw;obtain rfl:=aF (xq.symm.trans iw);refine ab ⟨rfl,rfl,rfl,?_⟩;refine bU (M:=M) aK rfl rfl rfl rfl rfl Dd (aq _ _) (fun v63 re=>?_);obtain rfl:=gm re;refine ab ⟨rfl,rfl,rfl,?_⟩;refine ad rfl rfl ?_;refine ab ⟨rfl,rfl,rfl,?_⟩;refine ad rfl rfl ?_;refine ab ⟨rfl,rfl,rfl,?_⟩;refine cv (M:=M) aJ I9 rfl rfl rfl hu (aq _ _) (by omega) (fun u66 x_ iw Pc=>?_);rw[ay]at iw;obtain rfl:=aF (vJ.symm.trans iw);refine ab ⟨rfl,rfl,rfl,?_⟩;refine bU (M:=M) aK rfl rfl rfl rfl rfl Pc (aq _ _) (fun v67 Xc=>?_);obtain rfl:=gm Xc;refine ab ⟨rfl,rfl,rfl,?_⟩;refine Rg.Lk rfl rfl rfl ?_;refine ab ⟨rfl,rfl,rfl,?_⟩;refine eD ?_;refine bM rfl (fun c6=>?_) (fun c6=>?_)
    ·refine aj (ae (ah rfl rfl (ab (aP ?_))));exact aV rfl rfl ⟨congrArg Value.bool (decide_eq_false (fun e=>by subst e;rw[xq]at vJ;cases vJ;exact c6 rfl)).symm,S⟩
    ·refine aT (ae (ad rfl rfl (bG rfl rfl rfl (by omega) (ah rfl rfl (ab ?_)))));refine⟨rfl,k+1,(.cons rfl (.cons rfl (.cons rfl .nil))),?_,?_⟩
     ·exact⟨S,hv,hu,by omega,by rw[bI,bI,heq,xq,vJ,cP.1 c6]⟩
     ·omega
   ·refine cH (aj (ae (ah rfl rfl (ab (aP ?_)))));rw[aW (by omega),aW (by omega)]at heq;exact aV rfl rfl ⟨congrArg Value.bool (decide_eq_true heq).symm,S⟩
theorem Ax {M:aD} {a b:List Int} {v u:Value} (w0:World) (hM:Lt M w0) (hv:((RT.int .i64).sl).V M w0 a v) (hu:((RT.int .i64).sl).V M w0 b u):
  Spec Tryz.prog 82 #[v,u] w0 (fun v' w'=>v'= .bool (decide (a=b))∧Step M w0 M w' aC):=by
 have jO:=hM;have YY:=dD hv;have Yv:=dD hu;refine bg (args:=[_,_]) (fn:=Tryz.f82) Tryz.func82 rfl (n:=26) Tryz.ntmps82 ?_;have S:Step M w0 M w0 aC:=(au _ _).cB (fun _ h=>h.elim) (fun _ h=>h.elim);refine aj (ae (ah rfl rfl (ab (aj (aj (ae (ad rfl rfl (bN ao rfl hv rfl (ad rfl rfl (bN ao rfl hu rfl (eM rfl rfl rfl ?_)))))))))));refine ab ?_;refine bM rfl (fun c1=>?_) (fun c1=>?_)
 ·refine aj (ae (ah rfl rfl (ab (aP ?_))));exact aV rfl rfl ⟨congrArg Value.bool (decide_eq_false (fun e=>by subst e;exact c1 rfl)).symm,S⟩
 ·have hlen:a.length=b.length:=by omega
  refine aT (aj (aj (ae (ad rfl rfl (bN ao rfl hv rfl (ad rfl rfl (ab (aY ?_))))))));refine dh (σ:=Nat) (fun k=>[(0,v),(1,u),(12,.int .i64 (a.length:Int)),(13,.int .i64 (k:Int))]) (fun k w=>Step M w0 M w aC∧((RT.int .i64).sl).V M w a v∧((RT.int .i64).sl).V M w b u∧k≤a.length∧a.take k=b.take k) (fun k=>a.length-k) 0 (.cons rfl (.cons rfl (.cons rfl (.cons rfl .nil)))) ?_ ?_
  ·exact⟨S,hv,hu,bD _,rfl⟩
  ·clear S hv hu hM;rintro k w ⟨S,hv,hu,hk,heq⟩;have hM:=S.lt jO;refine aj (ae (cg rfl rfl rfl (ab (aj ?_))));refine bM rfl (fun c4=>?_) (fun c4=>?_)
   ·refine aT (aj (aY (aj (ae (ad rfl rfl (ah rfl rfl (ab (aj ?_))))))));apply nq mixed rfl rfl;intro wD6 RL;have tW:=RL M;replace hv:=hv.le tW.le;replace hu:=hu.le tW.le;replace hM:=tW.lt hM;have:=S.size;replace S:=S.aB tW;refine ad rfl rfl ?_;refine ab ⟨rfl,rfl,rfl,?_⟩;refine ad rfl rfl ?_;refine ab ⟨rfl,rfl,rfl,?_⟩;obtain⟨x,xq⟩:∃x,a[k]? =some x:=⟨_,ar (by omega)⟩;obtain⟨y,vJ⟩:∃y,b[k]? =some y:=⟨_,ar (by omega)⟩;refine cv (M:=M) ao I3 rfl rfl rfl hv (aq _ _) (by omega) (fun u62 x_ iw Dd=>?_);rw[ay]at iw;obtain rfl:=aF (xq.symm.trans iw);refine ab ⟨rfl,rfl,rfl,?_⟩;refine cd (M:=M) ax rfl rfl Dd (aq _ _) (fun adM=>?_);refine aU (v':= .int .i64 x) rfl ?_;refine ab ⟨rfl,rfl,rfl,?_⟩;refine ad rfl rfl ?_;refine ab ⟨rfl,rfl,rfl,?_⟩;refine ad rfl rfl ?_;refine ab ⟨rfl,rfl,rfl,?_⟩;refine cv (M:=M) ao I3 rfl rfl rfl hu (aq _ _) (by omega) (fun u66 x_ iw Pc=>?_);rw[ay]at iw;obtain rfl:=aF (vJ.symm.trans iw);refine ab ⟨rfl,rfl,rfl,?_⟩;refine cd (M:=M) ax rfl rfl Pc (aq _ _) (fun adN=>?_);refine aU (v':= .int .i64 y) rfl ?_;refine ab ⟨rfl,rfl,rfl,?_⟩;refine eM rfl rfl rfl ?_;refine ab ⟨rfl,rfl,rfl,?_⟩;refine eD ?_;refine bM rfl (fun c6=>?_) (fun c6=>?_)
    ·refine aj (ae (ah rfl rfl (ab (aP ?_))));exact aV rfl rfl ⟨congrArg Value.bool (decide_eq_false (fun e=>by subst e;rw[xq]at vJ;cases vJ;exact c6 rfl)).symm,S⟩
    ·refine aT (ae (bG rfl rfl rfl (by omega) (ad rfl rfl (ab ?_))));refine⟨rfl,k+1,(.cons rfl (.cons rfl (.cons rfl (.cons rfl .nil)))),?_,?_⟩
     ·exact⟨S,hv,hu,by omega,by rw[bI,bI,heq,xq,vJ,cP.1 c6]⟩
     ·omega
   ·refine cH (aj (ae (ah rfl rfl (ab (aP ?_)))));rw[aW (by omega),aW (by omega)]at heq;exact aV rfl rfl ⟨congrArg Value.bool (decide_eq_true heq).symm,S⟩
theorem Pd {M:aD} {a b:List (List UInt8)} {v u:Value} (w0:World) (hM:Lt M w0) (hv:((RT.str).sl).V M w0 a v) (hu:((RT.str).sl).V M w0 b u):
  Spec Tryz.prog 83 #[v,u] w0 (fun v' w'=>v'= .bool (decide (a=b))∧Step M w0 M w' aC):=by
 have jO:=hM;have YY:=dD hv;have Yv:=dD hu;refine bg (args:=[_,_]) (fn:=Tryz.f83) Tryz.func83 rfl (n:=26) Tryz.ntmps83 ?_;have S:Step M w0 M w0 aC:=(au _ _).cB (fun _ h=>h.elim) (fun _ h=>h.elim);refine aj (ae (ah rfl rfl (ab (aj (aj (ae (ad rfl rfl (bN aJ rfl hv rfl (ad rfl rfl (bN aJ rfl hu rfl (eM rfl rfl rfl ?_)))))))))));refine ab ?_;refine bM rfl (fun c1=>?_) (fun c1=>?_)
 ·refine aj (ae (ah rfl rfl (ab (aP ?_))));exact aV rfl rfl ⟨congrArg Value.bool (decide_eq_false (fun e=>by subst e;exact c1 rfl)).symm,S⟩
 ·have hlen:a.length=b.length:=by omega
  refine aT (aj (aj (ae (ad rfl rfl (bN aJ rfl hv rfl (ad rfl rfl (ab (aY ?_))))))));refine dh (σ:=Nat) (fun k=>[(0,v),(1,u),(12,.int .i64 (a.length:Int)),(13,.int .i64 (k:Int))]) (fun k w=>Step M w0 M w aC∧((RT.str).sl).V M w a v∧((RT.str).sl).V M w b u∧k≤a.length∧a.take k=b.take k) (fun k=>a.length-k) 0 (.cons rfl (.cons rfl (.cons rfl (.cons rfl .nil)))) ?_ ?_
  ·exact⟨S,hv,hu,bD _,rfl⟩
  ·clear S hv hu hM;rintro k w ⟨S,hv,hu,hk,heq⟩;have hM:=S.lt jO;refine aj (ae (cg rfl rfl rfl (ab (aj ?_))));refine bM rfl (fun c4=>?_) (fun c4=>?_)
   ·refine aT (aj (aY (aj (ae (ad rfl rfl (ah rfl rfl (ab (aj ?_))))))));apply nq mixed rfl rfl;intro wD6 RL;have tW:=RL M;replace hv:=hv.le tW.le;replace hu:=hu.le tW.le;replace hM:=tW.lt hM;have:=S.size;replace S:=S.aB tW;refine ad rfl rfl ?_;refine ab ⟨rfl,rfl,rfl,?_⟩;refine ad rfl rfl ?_;refine ab ⟨rfl,rfl,rfl,?_⟩;obtain⟨x,xq⟩:∃x,a[k]? =some x:=⟨_,ar (by omega)⟩;obtain⟨y,vJ⟩:∃y,b[k]? =some y:=⟨_,ar (by omega)⟩;refine cv (M:=M) aJ I9 rfl rfl rfl hv (aq _ _) (by omega) (fun u62 x_ iw Dd=>?_);rw[ay]at iw;obtain rfl:=aF (xq.symm.trans iw);refine ab ⟨rfl,rfl,rfl,?_⟩;refine bU (M:=M) aK rfl rfl rfl rfl rfl Dd (aq _ _) (fun v63 re=>?_);obtain rfl:=gm re;refine ab ⟨rfl,rfl,rfl,?_⟩;refine ad rfl rfl ?_;refine ab ⟨rfl,rfl,rfl,?_⟩;refine ad rfl rfl ?_;refine ab ⟨rfl,rfl,rfl,?_⟩;refine cv (M:=M) aJ I9 rfl rfl rfl hu (aq _ _) (by omega) (fun u66 x_ iw Pc=>?_);rw[ay]at iw;obtain rfl:=aF (vJ.symm.trans iw);refine ab ⟨rfl,rfl,rfl,?_⟩;refine bU (M:=M) aK rfl rfl rfl rfl rfl Pc (aq _ _) (fun v67 Xc=>?_);obtain rfl:=gm Xc;refine ab ⟨rfl,rfl,rfl,?_⟩;refine Rg.Lk rfl rfl rfl ?_;refine ab ⟨rfl,rfl,rfl,?_⟩;refine eD ?_;refine bM rfl (fun c6=>?_) (fun c6=>?_)
    ·refine aj (ae (ah rfl rfl (ab (aP ?_))));exact aV rfl rfl ⟨congrArg Value.bool (decide_eq_false (fun e=>by subst e;rw[xq]at vJ;cases vJ;exact c6 rfl)).symm,S⟩
    ·refine aT (ae (bG rfl rfl rfl (by omega) (ad rfl rfl (ab ?_))));refine⟨rfl,k+1,(.cons rfl (.cons rfl (.cons rfl (.cons rfl .nil)))),?_,?_⟩
     ·exact⟨S,hv,hu,by omega,by rw[bI,bI,heq,xq,vJ,cP.1 c6]⟩
     ·omega
   ·refine cH (aj (ae (ah rfl rfl (ab (aP ?_)))));rw[aW (by omega),aW (by omega)]at heq;exact aV rfl rfl ⟨congrArg Value.bool (decide_eq_true heq).symm,S⟩
end Go.K
namespace Go.K
open Go.Proofs
namespace TKSegJ
theorem x7:TI Tryz.prog 80 (.slice none 0 0) 1 24:=by unfold TI;kernel_rfl
theorem E82:Enters Tryz.prog 82:=enters Tryz.func82 rfl (by decide)
theorem E85:Enters Tryz.prog 85:=enters Tryz.func85 rfl (by decide)
theorem aj3:Enters Tryz.prog 126:=enters Tryz.func126 rfl (by decide)
theorem aj4:Enters Tryz.prog 127:=enters Tryz.func127 rfl (by decide)
end TKSegJ
open TKSegJ
set_option maxRecDepth 10000
theorem FX {M:aD} {x y:Po} {v u:Value} (w0:World) (hM:Lt M w0) (hx:RT.po.V M w0 x v) (hy:RT.po.V M w0 y u):
  Spec Tryz.prog 127 #[v,u] w0 (fun v' w'=>v'= .bool (decide (x=y))∧Step M w0 M w' aC):=by
 refine bg (args:=[_,_]) (fn:=Tryz.f127) Tryz.func127 rfl (n:=17) Tryz.ntmps127 ?_;have S:Step M w0 M w0 aC:=(au _ _).cB (fun _ h=>h.elim) (fun _ h=>h.elim);refine aj (ae ?_);refine qs (A:=RT.po) (a:=x) rfl rfl hM hx rfl (fun u2 wb0 sw sb0 _=>?_);replace hx:=hx.le sb0.le;replace hy:=hy.le sb0.le;replace hM:=sb0.lt hM;have:=S.size;replace S:=S.aB sb0;refine qs (A:=RT.po) (a:=y) rfl rfl hM hy rfl (fun u3 wb1 J6 sb1 _=>?_);replace hy:=hy.le sb1.le;replace sw:=sw.le (by decide) sb1.le;replace hM:=sb1.lt hM;have:=S.size;replace S:=S.aB sb1;refine ah rfl rfl (ab (aj (ae ?_)));refine aQ (M:=M) (A:=RT.po) (B:=RT.int .i64) bK rfl rfl I3 (by decide) PO rfl rfl (by decide) sw (aq _ _) (fun u10 QI=>?_);refine cd (M:=M) ax rfl rfl QI (aq _ _) (fun adR=>?_);refine aU (v':= .int .i64 x.1) rfl ?_;refine aQ (M:=M) (A:=RT.po) (B:=RT.int .i64) bK rfl rfl I3 (by decide) PO rfl rfl (by decide) J6 (aq _ _) (fun u12 Xd=>?_);refine cd (M:=M) ax rfl rfl Xd (aq _ _) (fun adS=>?_);refine aU (v':= .int .i64 y.1) rfl (tY rfl rfl rfl (ad rfl rfl ?_));refine aS (g:=10) rfl (fun pF=>?_) (fun pF=>?_)
 ·refine al rfl rfl ?_;refine aQ (M:=M) (A:=RT.po) (B:=((RT.int .i64).sl)) bK rfl rfl jY (by decide) UP rfl rfl (by decide) sw (aq _ _) (fun u16 aj5=>?_);refine al rfl rfl ?_;refine bU (M:=M) ao rfl rfl rfl rfl rfl aj5 (aq _ _) (fun v17 aj6=>?_);refine al rfl rfl ?_;refine aQ (M:=M) (A:=RT.po) (B:=((RT.int .i64).sl)) bK rfl rfl jY (by decide) UP rfl rfl (by decide) J6 (aq _ _) (fun u18 V5=>?_);refine al rfl rfl ?_;refine bU (M:=M) ao rfl rfl rfl rfl rfl V5 (aq _ _) (fun v19 Ra=>?_);refine al rfl rfl ?_;refine aX rfl rfl E82 (Ax _ hM aj6 Ra) (fun r10 w10 hc=>?_);obtain⟨rfl,zr⟩:=hc;replace sw:=sw.le (by decide) zr.le;replace J6:=J6.le (by decide) zr.le;replace hM:=zr.lt hM;have:=S.size;replace S:=S.aB zr;refine aZ rfl rfl rfl (ah rfl rfl (ab (aP ?_)))
  first
  |exact aV rfl rfl ⟨congrArg Value.bool (decide_eq_decide.2 ⟨fun h=>xK pF h,fun h=>by rw[h]⟩),S⟩
  |exact aV rfl rfl ⟨congrArg Value.bool (decide_eq_false (fun h=>pF (by rw[h]))).symm,S⟩
 ·refine aw rfl rfl rfl rfl (aw rfl rfl rfl rfl (aw rfl rfl rfl rfl (aw rfl rfl rfl rfl (aw rfl rfl rfl rfl (aE rfl rfl rfl (ah rfl rfl (ab (aP ?_))))))))
  first
  |exact aV rfl rfl ⟨congrArg Value.bool (decide_eq_decide.2 ⟨fun h=>xK pF h,fun h=>by rw[h]⟩),S⟩
  |exact aV rfl rfl ⟨congrArg Value.bool (decide_eq_false (fun h=>pF (by rw[h]))).symm,S⟩
theorem KR {M:aD} {a b:List Po} {v u:Value} (w0:World) (hM:Lt M w0) (hv:((RT.po).sl).V M w0 a v) (hu:((RT.po).sl).V M w0 b u):
  Spec Tryz.prog 126 #[v,u,.func (.func 127) #[] #[]] w0 (fun v' w'=>v'= .bool (decide (a=b))∧Step M w0 M w' aC):=by
 have jO:=hM;have YY:=dD hv;have Yv:=dD hu;refine bg (args:=[_,_,_]) (fn:=Tryz.f126) Tryz.func126 rfl (n:=32) Tryz.ntmps126 ?_;have S:Step M w0 M w0 aC:=(au _ _).cB (fun _ h=>h.elim) (fun _ h=>h.elim);refine aj (ae (ah rfl rfl (ab (aj (aj (ae (ad rfl rfl (bN bA rfl hv rfl (ad rfl rfl (bN bA rfl hu rfl (eM rfl rfl rfl ?_)))))))))));refine ab ?_;refine bM rfl (fun c1=>?_) (fun c1=>?_)
 ·refine aj (ae (ah rfl rfl (ab (aP ?_))));exact aV rfl rfl ⟨congrArg Value.bool (decide_eq_false (fun e=>by subst e;exact c1 rfl)).symm,S⟩
 ·have hlen:a.length=b.length:=by omega
  refine aT (aj (aj (ae (ad rfl rfl (bN bA rfl hv rfl (ad rfl rfl (ab (aY ?_))))))));refine dh (σ:=Nat) (fun k=>[(0,v),(1,u),(2,.func (.func 127) #[] #[]),(15,v),(16,.int .i64 (a.length:Int)),(17,.int .i64 (k:Int))]) (fun k w=>∃M1,Lt M1 w∧Step M w0 M1 w aC∧((RT.po).sl).V M1 w a v∧((RT.po).sl).V M1 w b u∧k≤a.length∧a.take k=b.take k) (fun k=>a.length-k) 0 (.cons rfl (.cons rfl (.cons rfl (.cons rfl (.cons rfl (.cons rfl .nil)))))) ?_ ?_
  ·exact⟨_,hM,S,hv,hu,bD _,rfl⟩
  ·clear S hv hu hM;rintro k w ⟨M1,hM,S,hv,hu,hk,heq⟩;refine aj (ae (cg rfl rfl rfl (ab (aj ?_))));refine bM rfl (fun c4=>?_) (fun c4=>?_)
   ·refine aT (aj (aY (aj (ae (ad rfl rfl ?_)))));obtain⟨x,xq⟩:∃x,a[k]? =some x:=⟨_,ar (by omega)⟩;obtain⟨y,vJ⟩:∃y,b[k]? =some y:=⟨_,ar (by omega)⟩;refine cv (M:=M1) bA l4 rfl rfl rfl hv (aq _ _) (by omega) (fun u51 x_ iw Xe=>?_);rw[ay]at iw;obtain rfl:=aF (xq.symm.trans iw);refine cT (M:=M1) (A:=RT.po) bK rfl l4 (by decide) rfl rfl rfl Xe (aq _ _) (fun v52 rf=>?_);obtain⟨ux,rfl,_,_⟩:=LS (d:=x.1) (ps:=x.2) rf;refine dU M1 l4 rfl (fun Xf Zr atP atQ rZ xY=>?_);obtain⟨B4,Pe⟩:∃M',M'=ins M1 Xf:=⟨_,rfl⟩;rw[←Pe]at xY;have oc:B4 Xf:=by rw[Pe];exact .inl rfl
    change Zr.heap[Xf]? =some (.cells #[.int .i64 0,.slice none 0 0] _ _)at rZ;replace hv:=hv.le xY.le;replace hu:=hu.le xY.le;replace rf:=rf.le xY.le;replace hM:=xY.lt hM;have:=S.size;replace S:=S.aB xY;refine ah rfl rfl ?_;refine dI (M:=B4) (vs:=[.int .i64 x.1,ux]) l4 rfl rfl (wJ rfl rf) rfl rfl rZ oc (fun ws5 gs5 Xg=>?_);have:=ak rZ;replace oc:=(Xg.mem _ this).2 oc;replace hv:=hv.le Xg.le;replace hu:=hu.le Xg.le;replace rf:=rf.le Xg.le;replace hM:=Xg.lt hM;have:=S.size;replace S:=S.trans Xg (fun k hk h=>by have h:_=_:=h;subst h;first|(exfalso;omega)|(show _≤_;omega)|exact⟨by first|omega|assumption,(S.mem _ hk).1 ((Xg.mem _ (ak rZ)).1 oc)⟩|exact .inl rfl|exact .inr rfl|exact .inr (.inl rfl)|exact .inr (.inr rfl)|exact .inr (.inr (.inl rfl))|exact rfl);have T8:=gs5;clear rZ;have rZ:=T8;clear T8;refine ab (aj (ae (ad rfl rfl (ad rfl rfl ?_))));refine cv (M:=B4) bA l4 rfl rfl rfl hu (aq _ _) (by omega) (fun u62 x_ iw Dd=>?_);rw[ay]at iw;obtain rfl:=aF (vJ.symm.trans iw);refine cT (M:=B4) (A:=RT.po) bK rfl l4 (by decide) rfl rfl rfl Dd (aq _ _) (fun v63 re=>?_);obtain⟨uy,rfl,_,_⟩:=LS (d:=y.1) (ps:=y.2) re;refine dU B4 l4 rfl (fun Xh aj7 atT atU A8 De=>?_);obtain⟨T9,Pf⟩:∃M',M'=ins B4 Xh:=⟨_,rfl⟩;rw[←Pf]at De;have wW:T9 Xh:=by rw[Pf];exact .inl rfl
    change aj7.heap[Xh]? =some (.cells #[.int .i64 0,.slice none 0 0] _ _)at A8;have:=ak rZ;replace oc:=(De.mem _ this).2 oc;replace rZ:=De.aL rZ;replace hv:=hv.le De.le;replace hu:=hu.le De.le;replace rf:=rf.le De.le;replace re:=re.le De.le;replace hM:=De.lt hM;have:=S.size;replace S:=S.aB De;refine dI (M:=T9) (vs:=[.int .i64 y.1,uy]) l4 rfl rfl (wJ rfl re) rfl rfl A8 wW (fun ws6 gs6 PZ=>?_);have:=ak rZ;replace oc:=(PZ.mem _ this).2 oc;replace rZ:=PZ.keep rZ (fun hk=>by have hk:_=_:=hk;omega);have:=ak A8;replace wW:=(PZ.mem _ this).2 wW;replace hv:=hv.le PZ.le;replace hu:=hu.le PZ.le;replace rf:=rf.le PZ.le;replace re:=re.le PZ.le;replace hM:=PZ.lt hM;have:=S.size;replace S:=S.trans PZ (fun k hk h=>by have h:_=_:=h;subst h;first|(exfalso;omega)|(show _≤_;omega)|exact⟨by first|omega|assumption,(S.mem _ hk).1 ((PZ.mem _ (ak A8)).1 wW)⟩|exact .inl rfl|exact .inr rfl|exact .inr (.inl rfl)|exact .inr (.inr rfl)|exact .inr (.inr (.inl rfl))|exact rfl);have Ua:=gs6;clear A8;have A8:=Ua;clear Ua;refine ab (aj (ae (ad rfl rfl (fL (vs:=[.int .i64 x.1,ux]) bK rfl l4 rfl rfl rfl rZ (fL (vs:=[.int .i64 y.1,uy]) bK rfl l4 rfl rfl rfl A8 ?_)))));refine rO (first:=[]) (captured:=[]) (xs:=[.tmp 27,.tmp 28]) rfl rfl rfl aj4 (FX (x:=x) (y:=y) _ hM rf re) (fun r7 w7 hc=>?_);obtain⟨rfl,s7⟩:=hc;have:=ak rZ;replace oc:=(s7.mem _ this).2 oc;replace rZ:=s7.aL rZ;have:=ak A8;replace wW:=(s7.mem _ this).2 wW;replace A8:=s7.aL A8;replace hv:=hv.le s7.le;replace hu:=hu.le s7.le;replace rf:=rf.le s7.le;replace re:=re.le s7.le;replace hM:=s7.lt hM;have:=S.size;replace S:=S.aB s7;refine lY rfl rfl (aU (v':= .bool (decide (x≠y))) (by simp) (ab ?_));refine bM rfl (fun c7=>?_) (fun c7=>?_)
    ·refine aj (ae (ah rfl rfl (ab (aP ?_))));exact aV rfl rfl ⟨congrArg Value.bool (decide_eq_false (fun e=>by subst e;rw[xq]at vJ;cases vJ;exact c7 rfl)).symm,S.back⟩
    ·refine aT (ae (bG rfl rfl rfl (by omega) (ad rfl rfl (ab ?_))));refine⟨rfl,k+1,(.cons rfl (.cons rfl (.cons rfl (.cons rfl (.cons rfl (.cons rfl .nil)))))),?_,?_⟩
     ·exact⟨_,hM,S,hv,hu,by omega,by rw[bI,bI,heq,xq,vJ,cP.1 c7]⟩
     ·omega
   ·refine cH (aj (ae (ah rfl rfl (ab (aP ?_)))));rw[aW (by omega),aW (by omega)]at heq;exact aV rfl rfl ⟨congrArg Value.bool (decide_eq_true heq).symm,S.back⟩
theorem H8 {M:aD} {a b:List Po} {v u:Value} (w0:World) (hM:Lt M w0) (hv:((RT.po).sl).V M w0 a v) (hu:((RT.po).sl).V M w0 b u):
  Spec Tryz.prog 85 #[v,u] w0 (fun v' w'=>v'= .bool (decide (a=b))∧Step M w0 M w' aC):=by
 refine bg (args:=[_,_]) (fn:=Tryz.f85) Tryz.func85 rfl (n:=8) Tryz.ntmps85 ?_;have S:Step M w0 M w0 aC:=(au _ _).cB (fun _ h=>h.elim) (fun _ h=>h.elim);refine aj (ae (ah rfl rfl (ab (aj (ae (ad rfl rfl (ad rfl rfl ?_)))))));refine aX rfl rfl aj3 (KR _ hM hv hu) (fun r1 w1 hc=>?_);obtain⟨rfl,s1⟩:=hc;replace hM:=s1.lt hM;have:=S.size;replace S:=S.aB s1;refine ah rfl rfl (ab (aP ?_));exact aV rfl rfl ⟨rfl,S⟩
theorem KS {M:aD} {a b:List (List Po)} {v u:Value} (w0:World) (hM:Lt M w0) (hv:(((RT.po).sl).sl).V M w0 a v) (hu:(((RT.po).sl).sl).V M w0 b u):
  Spec Tryz.prog 84 #[v,u,.func (.func 85) #[] #[]] w0 (fun v' w'=>v'= .bool (decide (a=b))∧Step M w0 M w' aC):=by
 have jO:=hM;have YY:=dD hv;have Yv:=dD hu;refine bg (args:=[_,_,_]) (fn:=Tryz.f84) Tryz.func84 rfl (n:=32) Tryz.ntmps84 ?_;have S:Step M w0 M w0 aC:=(au _ _).cB (fun _ h=>h.elim) (fun _ h=>h.elim);refine aj (ae (ah rfl rfl (ab (aj (aj (ae (ad rfl rfl (bN dF rfl hv rfl (ad rfl rfl (bN dF rfl hu rfl (eM rfl rfl rfl ?_)))))))))));refine ab ?_;refine bM rfl (fun c1=>?_) (fun c1=>?_)
 ·refine aj (ae (ah rfl rfl (ab (aP ?_))));exact aV rfl rfl ⟨congrArg Value.bool (decide_eq_false (fun e=>by subst e;exact c1 rfl)).symm,S⟩
 ·have hlen:a.length=b.length:=by omega
  refine aT (aj (aj (ae (ad rfl rfl (bN dF rfl hv rfl (ad rfl rfl (ab (aY ?_))))))));refine dh (σ:=Nat) (fun k=>[(0,v),(1,u),(2,.func (.func 85) #[] #[]),(15,v),(16,.int .i64 (a.length:Int)),(17,.int .i64 (k:Int))]) (fun k w=>Step M w0 M w aC∧(((RT.po).sl).sl).V M w a v∧(((RT.po).sl).sl).V M w b u∧k≤a.length∧a.take k=b.take k) (fun k=>a.length-k) 0 (.cons rfl (.cons rfl (.cons rfl (.cons rfl (.cons rfl (.cons rfl .nil)))))) ?_ ?_
  ·exact⟨S,hv,hu,bD _,rfl⟩
  ·clear S hv hu hM;rintro k w ⟨S,hv,hu,hk,heq⟩;have hM:=S.lt jO;refine aj (ae (cg rfl rfl rfl (ab (aj ?_))));refine bM rfl (fun c4=>?_) (fun c4=>?_)
   ·refine aT (aj (aY (aj (ae (ad rfl rfl ?_)))));obtain⟨x,xq⟩:∃x,a[k]? =some x:=⟨_,ar (by omega)⟩;obtain⟨y,vJ⟩:∃y,b[k]? =some y:=⟨_,ar (by omega)⟩;refine cv (M:=M) dF x7 rfl rfl rfl hv (aq _ _) (by omega) (fun u51 x_ iw Xe=>?_);rw[ay]at iw;obtain rfl:=aF (xq.symm.trans iw);refine bU (M:=M) bA rfl rfl rfl rfl rfl Xe (aq _ _) (fun v52 rf=>?_);refine ah rfl rfl (ah rfl rfl (ab (aj (ae (ad rfl rfl (ad rfl rfl ?_))))));refine cv (M:=M) dF x7 rfl rfl rfl hu (aq _ _) (by omega) (fun u62 x_ iw Dd=>?_);rw[ay]at iw;obtain rfl:=aF (vJ.symm.trans iw);refine bU (M:=M) bA rfl rfl rfl rfl rfl Dd (aq _ _) (fun v63 re=>?_);refine ah rfl rfl (ab (aj (ae (ad rfl rfl (ad rfl rfl (ad rfl rfl ?_))))));refine rO (first:=[]) (captured:=[]) (xs:=[.tmp 27,.tmp 28]) rfl rfl rfl E85 (H8 (a:=x) (b:=y) _ hM rf re) (fun r7 w7 hc=>?_);obtain⟨rfl,s7⟩:=hc;replace hv:=hv.le s7.le;replace hu:=hu.le s7.le;replace rf:=rf.le s7.le;replace re:=re.le s7.le;replace hM:=s7.lt hM;have:=S.size;replace S:=S.aB s7;refine lY rfl rfl (aU (v':= .bool (decide (x≠y))) (by simp) (ab ?_));refine bM rfl (fun c7=>?_) (fun c7=>?_)
    ·refine aj (ae (ah rfl rfl (ab (aP ?_))));exact aV rfl rfl ⟨congrArg Value.bool (decide_eq_false (fun e=>by subst e;rw[xq]at vJ;cases vJ;exact c7 rfl)).symm,S⟩
    ·refine aT (ae (bG rfl rfl rfl (by omega) (ad rfl rfl (ab ?_))));refine⟨rfl,k+1,(.cons rfl (.cons rfl (.cons rfl (.cons rfl (.cons rfl (.cons rfl .nil)))))),?_,?_⟩
     ·exact⟨S,hv,hu,by omega,by rw[bI,bI,heq,xq,vJ,cP.1 c7]⟩
     ·omega
   ·refine cH (aj (ae (ah rfl rfl (ab (aP ?_)))));rw[aW (by omega),aW (by omega)]at heq;exact aV rfl rfl ⟨congrArg Value.bool (decide_eq_true heq).symm,S⟩
end Go.K
namespace Go.K
open Go.Proofs
namespace TKSegL
theorem A3:TI Tryz.prog 58 (.slice none 0 0) 1 24:=by unfold TI;kernel_rfl
theorem x7:TI Tryz.prog 80 (.slice none 0 0) 1 24:=by unfold TI;kernel_rfl
end TKSegL
open TKSegL
set_option maxRecDepth 10000
def A9 (p q:Pa):Bool:=decide (p.1=q.1)&&decide (p.2.1=q.2.1)&&decide (p.2.2.1=q.2.2.1)&&decide (p.2.2.2=q.2.2.2)
theorem Pg {p q:Pa}:A9 p q=true↔p=q:=by
 simp only[A9,bX,decide_eq_true_eq];exact⟨fun h=>xK h.1.1.1 (xK h.1.1.2 (xK h.1.2 h.2)),fun h=>by subst h;exact⟨⟨⟨rfl,rfl⟩,rfl⟩,rfl⟩⟩
theorem j0 {p q:Pa} (h:p≠q):A9 p q=false:=dd.2 fun e=>h (Pg.1 e)
end Go.K
namespace Go.K
theorem RS {P:Program} {L:Sl} {w:World} {fn:Func} {Q:Value→World→Prop} {c t b D:Nat} {vs:List Value} {fs:TypeDesc} {e:TypeId} {fr:Nat×Nat} {zv:Value} {size bytes:Nat} (hr:fn.results= #[.cell c t]) (hc:lk L c=some (.pointer (some ⟨b,0,none⟩))) (hu:P.underlying t=some fs) (hf:fs.isRow=true) (hi:TI P t zv size bytes) (hl:vs.length=size)
  (hD:w.heap[D]? =some (.deferred (some []))) (hb:(w.putObj D (.deferred none)).heap[b]? =some (.cells vs.toArray e fr)) (h:Q (.agg vs.toArray) (w.putObj D (.deferred none))):DR P fn Q .ret L [mark D] w:=
 ⟨_,vX hD,fun a ha=>⟨_,by
  obtain⟨i,yi,_,AG,_⟩:=hi.get;have LN:(w.putObj D (.deferred none)).rangeAt b 0 vs:=fun j v hj=>fG hb (by simpa using hj)
  have:=run_loadVar_mid (P:=P) (w.putObj D (.deferred none)) b 0 t vs fs LN hu hf (by simp[yi,AG,hl]);simp[results,hr,ha _ _ hc,asAddr,this,cq],h⟩⟩
theorem Ph {α:Type} {A:RT α} {hn:0<A.n} (hA:A5 A) {M:aD} {w:World} {xs:List α} {v:Value} {b:Nat} {cs:Array Value} {e:TypeId} {fr:Nat×Nat} (hb:w.heap[b]? =some (.cells cs e fr)) (eN:∀M w x vs,A.R M w x vs→∃c r,vs=c::r∧∀j:Nat,cs[j]? ≠some c) (h:(A.sl hn).V M w xs v):(A.sl hn).V (ins M b) w xs v:=by
 obtain⟨a,cap,h1,h2,h3,hs⟩:=iz.1 h;refine iz.2 ⟨a,cap,h1,h2,h3,?_⟩;rcases hs with hs|⟨b',o,ha,hm,he⟩
 ·exact .inl hs
 ·cases xs with
  |nil=>exact .inl rfl
  |cons x xs=>
   refine .inr ⟨b',o,ha,?_,fun i y hy=>by obtain⟨vs,h4,h5⟩:=he i y hy;exact⟨vs,hA _ _ _ _ _ _ h4,h5⟩⟩;rintro(rfl|yh)
   ·obtain⟨vs,h4,h5⟩:=he 0 x rfl;obtain⟨c,r,rfl,hc⟩:=eN _ _ _ _ h4;have:=h5 0 c rfl;simp[World.cell?,hb]at this;exact hc _ this
   ·exact hm yh
end Go.K
namespace Go.K
open Go.Proofs
namespace TKSegK
theorem A3:TI Tryz.prog 58 (.slice none 0 0) 1 24:=by unfold TI;kernel_rfl
theorem A4:TI Tryz.prog 72 (.agg #[(.slice none 0 0),(.slice none 0 0),(.slice none 0 0),(.slice none 0 0)]) 4 96:=by unfold TI;kernel_rfl
theorem x7:TI Tryz.prog 80 (.slice none 0 0) 1 24:=by unfold TI;kernel_rfl
theorem Fe:TI Tryz.prog 139 (.pointer none) 1 8:=by unfold TI;kernel_rfl
theorem B72:placesOf Tryz.prog 72=[(0,1),(1,1),(2,1),(3,1)].map some:=by kernel_rfl
theorem Re:Enters Tryz.prog 51:=enters Tryz.func51 rfl (by decide)
theorem E76:Enters Tryz.prog 76:=enters Tryz.func76 rfl (by decide)
theorem E77:Enters Tryz.prog 77:=enters Tryz.func77 rfl (by decide)
theorem E78:Enters Tryz.prog 78:=enters Tryz.func78 rfl (by decide)
theorem WQ:Enters Tryz.prog 123:=enters Tryz.func123 rfl (by decide)
end TKSegK
open TKSegK
set_option maxRecDepth 10000
structure Pj {α:Type} (A:RT α) (e T:TypeId) (X:aD→World→Prop) (F:Value→Array Value) (M:aD) (w0:World) (bo bi bd D:Nat) (vd:Value) (st:Loop) (vo:Value) (xs:List α) (M':aD) (w:World):Prop where
 lt:Lt M' w
 S:Step M w0 M' w aC
 o:w.heap[bo]? =some (.cells (F vo) T (0,0))
 mo:M' bo
 r:w.heap[D+1]? =some (.loop st)
 mr:M' (D+1)
 d:w.heap[D]? =some (.deferred (some []))
 md:M' D
 own:Own A e M' w w0.heap.size vo xs
 gi:w.heap[bi]? =some (.cells #[.int .i64 0] 3 (0,0))
 gd:w.heap[bd]? =some (.cells #[vd] 139 (0,0))
 fi: ¬M' bi
 fd: ¬M' bd
 z:w0.heap.size≤bo∧w0.heap.size≤D
 k:X M' w
section
variable {α:Type} {A:RT α} {e T:TypeId} {X:aD→World→Prop} {F:Value→Array Value} {M M1 M2 N:aD} {w0 w w':World} {bo bi bd D:Nat} {vd:Value} {st:Loop} {vo:Value} {xs:List α}
theorem Pj.aO (hX:∀{M w M' w'},X M w→Le M w M' w'→X M' w') (h:Pj A e T X F M w0 bo bi bd D vd st vo xs M1 w) (s:Step M1 w M2 w' aC):Pj A e T X F M w0 bo bi bd D vd st vo xs M2 w':=
 ⟨s.lt h.lt,h.S.aB s,s.aL h.o,(s.mem _ (ak h.o)).2 h.mo,s.aL h.r,(s.mem _ (ak h.r)).2 h.mr,s.aL h.d,(s.mem _ (ak h.d)).2 h.md,h.own.aO s,s.aL h.gi,s.aL h.gd,fun hn=>h.fi ((s.mem _ (ak h.gi)).1 hn),fun hn=>h.fd ((s.mem _ (ak h.gd)).1 hn),h.z,hX h.k s.le⟩
theorem Pj.na {st':Loop} (hX:∀{M w M' w'},X M w→Le M w M' w'→X M' w') (h:Pj A e T X F M w0 bo bi bd D vd st vo xs M1 w):Pj A e T X F M w0 bo bi bd D vd st' vo xs M1 (w.putObj (D+1) (.loop st')):=by
 have s:Step M1 w M1 (w.putObj (D+1) (.loop st')) (fun k=>k=D+1):=dZ h.mr;obtain⟨z1,z2⟩:=h.z;refine⟨s.lt h.lt,h.S.cf s (fun k (hk:k=D+1)=>by omega),s.keep h.o (fun(hn:bo=D+1)=>by have h1:=h.o;rw[hn,h.r]at h1;cases h1),h.mo,xN (ak h.r),h.mr,s.keep h.d (fun(hn:D=D+1)=>by omega),h.md,h.own.step s (fun b hb (hn:b=D+1)=>?_),s.keep h.gi (fun(hn:bi=D+1)=>by have h1:=h.gi;rw[hn,h.r]at h1;cases h1),s.keep h.gd (fun(hn:bd=D+1)=>by have h1:=h.gd;rw[hn,h.r]at h1;cases h1),h.fi,h.fd,h.z,hX h.k s.le⟩;obtain⟨cs,hc⟩:=h.own.isCells hb;rw[hn,h.r]at hc;cases hc
theorem Pj.grow {HN:Value} {OF:List α} (hX:∀{M w M' w'},X M w→Le M w M' w'→X M' w') (hT:T≠e) (h:Pj A e T X F M w0 bo bi bd D vd st vo xs M1 w) (s:Step M1 w M2 w' (fD vo)) (ho:Own A e M2 w' w0.heap.size HN OF):
  (w'.heap[bo]? =some (.cells (F vo) T (0,0))∧M2 bo)∧∀{w2:World},Step M2 w' M2 w2 (fun k=>k=bo)→w2.heap[bo]? =some (.cells (F HN) T (0,0))→Pj A e T X F M w0 bo bi bd D vd st HN OF M2 w2:=by
 obtain⟨z1,z2⟩:=h.z
 have zY:∀{b:Nat} {o:Obj},w.heap[b]? =some o→(∀cs fr,o≠ .cells cs e fr)→¬fD vo b:=fun {b o} hb eN hn=>by
  obtain⟨⟨C,h1,_⟩,_⟩:=h.own;rcases h1.2 with h3|⟨g,cap,cur,h3,h4,h5,_⟩
  ·unfold fD at hn;rw[h3.1]at hn;cases hn
  ·unfold fD at hn;rw[h3]at hn;cases hn;rw[hb]at h5;exact eN _ _ (aF h5)
 have nM:∀{b:Nat},¬M1 b→¬fD vo b:=fun hb hn=>hb (h.own.mut_ _ hn)
 have fV:=s.keep h.o (zY h.o (fun cs fr hc=>by injection hc with _ h1 _;exact hT h1));have hr:=s.keep h.r (zY h.r (fun cs fr hc=>by cases hc));have hd:=s.keep h.d (zY h.d (fun cs fr hc=>by cases hc));have l8:=s.keep h.gi (nM h.fi);have pH:=s.keep h.gd (nM h.fd);have hfi: ¬M2 bi:=fun hn=>h.fi ((s.mem _ (ak h.gi)).1 hn)
 have Ll: ¬M2 bd:=fun hn=>h.fd ((s.mem _ (ak h.gd)).1 hn)
 have Hl:=(s.mem _ (ak h.o)).2 h.mo;refine⟨⟨fV,Hl⟩,fun {w2} s2 hx=>⟨s2.lt (s.lt h.lt),(h.S.cX s h.own (aR _)).cf s2 (fun k (hk:k=bo)=>by omega),hx,Hl,s2.keep hr (fun(hn:D+1=bo)=>by rw[hn,fV]at hr;cases hr),(s.mem _ (ak h.r)).2 h.mr,s2.keep hd (fun(hn:D=bo)=>by rw[hn,fV]at hd;cases hd),(s.mem _ (ak h.d)).2 h.md,ho.step s2 (fun b hb (hn:b=bo)=>ho.eS fV hT (by rw[←hn];exact hb)),s2.keep l8 (fun(hn:bi=bo)=>hfi (by rw[hn];exact Hl)),s2.keep pH (fun(hn:bd=bo)=>Ll (by rw[hn];exact Hl)),hfi,Ll,h.z,hX (hX h.k s.le) s2.le⟩⟩
end
theorem aj9 {α:Type} {A:RT α} {e T:TypeId} {X:aD→World→Prop} {F:Value→Array Value} (hX:∀{M w M' w'},X M w→Le M w M' w'→X M' w') {M M1:aD} {w0 w:World} {bo bi bd:Nat} {vd:Value} {st:Loop} (hk:X M1 w) (hM:Lt M1 w) (S:Step M w0 M1 w aC) (go:w.heap[bo]? =some (.cells (F (.slice none 0 0)) T (0,0))) (mo:M1 bo) (gi:w.heap[bi]? =some (.cells #[.int .i64 0] 3 (0,0))) (gd:w.heap[bd]? =some (.cells #[vd] 139 (0,0))) (fi: ¬M1 bi) (fd: ¬M1 bd) (Of:w0.heap.size≤bo):
  ∃M',Pj A e T X F M w0 bo bi bd w.heap.size vd st (.slice none 0 0) [] M' ((w.alloc (.deferred (some []))).alloc (.loop st)):=by
 have sA:Step M1 w (ins M1 w.heap.size) (w.alloc (.deferred (some []))) aC:=(cW M1 w _).own (aR _) (by simp);have sB:Step (ins M1 w.heap.size) (w.alloc (.deferred (some []))) (ins (ins M1 w.heap.size) (w.heap.size+1)) ((w.alloc (.deferred (some []))).alloc (.loop st)) aC:=(cW _ _ _).own (by simp) (by simp);have hD:(w.alloc (.deferred (some []))).heap[w.heap.size]? =some (.deferred (some [])):=cj w _;have hR:((w.alloc (.deferred (some []))).alloc (.loop st)).heap[w.heap.size+1]? =some (.loop st):=by have:=cj (w.alloc (.deferred (some []))) (.loop st);rwa [AJ]at this
 have SS:=(S.aB sA).aB sB;have hi:=ak gi;have hd:=ak gd;refine⟨_,sB.lt (sA.lt hM),SS,sB.aL (sA.aL go),.inr (.inr mo),hR,.inl rfl,sB.aL hD,.inr (.inl rfl),dz _ _ _ _ _,sB.aL (sA.aL gi),sB.aL (sA.aL gd),?_,?_,⟨Of,S.size⟩,hX (hX hk sA.le) sB.le⟩
 ·rintro(h|h|h)
  ·omega
  ·omega
  ·exact fi h
 ·rintro(h|h|h)
  ·omega
  ·omega
  ·exact fd h
theorem Le.out {MQ M':aD} {wQ w:World} (h:Le MQ wQ M' w):Le (fun b=>MQ b∨wQ.heap.size≤b) w M' w:=fun b _ hm=>⟨(h b (Nat.lt_of_not_le fun hh=>hm (.inr hh)) (fun hh=>hm (.inl hh))).1,rfl⟩
theorem Le.fixed {MQ M':aD} {wQ w:World} (h:Le MQ wQ M' w):Le (fun b=>MQ b∨wQ.heap.size≤b) wQ (fun b=>MQ b∨wQ.heap.size≤b) w:=fun b hb hm=>⟨hm,(h b hb (fun hh=>hm (.inl hh))).2⟩
theorem Le.wide (MQ:aD) (wQ:World):Le MQ wQ (fun b=>MQ b∨wQ.heap.size≤b) wQ:=fun b hb hm=>⟨fun hh=>hh.elim hm (fun h=>by omega),rfl⟩
def Jk (s:Se) (va vb vc:Value) (MQ:aD) (wQ:World) (M:aD) (w:World):Prop:=((RT.int .i64).sl).V M w s.1 va∧((RT.int .i64).sl).V M w s.2.1 vb∧(RT.str.sl).V M w s.2.2.1 vc∧Le MQ wQ M w
theorem Jk.le {s:Se} {va vb vc:Value} {MQ:aD} {wQ:World}:∀{M:aD} {w:World} {M':aD} {w':World},Jk s va vb vc MQ wQ M w→Le M w M' w'→Jk s va vb vc MQ wQ M' w':=fun h l=>⟨h.1.le l,h.2.1.le l,h.2.2.1.le l,h.2.2.2.trans l⟩
theorem xG {M:aD} {s:Se} {ls:List (List Po)} {v0:Value} (w0:World) (hM:Lt M w0) (hs:cO RT.se M w0 v0 s) (hls:s.2.2.2=ls.map nV) (hdl:s.2.2.1.length=ls.length) (hn1:s.1.length≤1000000) (hn2:s.2.1.length≤1000000) (hd6:s.2.2.1.length≤1000000000) (hok:∀l∈ls,fN (-1) l=true∧(∀p∈l,p.2.length≤1099511627776)∧(eh (-1) l).length≤1099511627776∧l.length≤1099511627776):
  Spec Tryz.prog 32 #[v0] w0 (fun v w=>RT.pa.V M w (s.1,s.2.1,s.2.2.1,ls) v∧Step M w0 M w aC):=by
 have jO:=hM;refine oH (args:=[_]) (fn:=Tryz.f32) Tryz.func32 rfl (n:=37) Tryz.ntmps32 ?_;have S:Step M w0 M w0 aC:=(au _ _).cB (fun _ h=>h.elim) (fun _ h=>h.elim);refine aj (ae ?_);refine dU M A4 rfl (fun x9 CS ain aio oV CT=>?_);obtain⟨gV,zW⟩:∃M',M'=ins M x9:=⟨_,rfl⟩;rw[←zW]at CT;have qU:gV x9:=by rw[zW];exact .inl rfl
 change CS.heap[x9]? =some (.cells #[.slice none 0 0,.slice none 0 0,.slice none 0 0,.slice none 0 0] _ _)at oV;replace hM:=CT.lt hM;have:=S.size;replace S:=S.aB CT;refine ab (aj ?_);have hMA:=hM;have Xi:cO RT.se gV CS v0 s:=hs.le (by decide) CT.le;apply T.Bk (M:=gV) mixed [] [cG.eq _,cG.eq v0,cG.ptr (((RT.int .i64).sl)) s.1,cG.V ((RT.int .i64).sl) s.1,cG.V ((RT.int .i64).sl) s.1,cG.eq _,cG.eq v0,cG.ptr (((RT.int .i64).sl)) s.2.1,cG.V ((RT.int .i64).sl) s.2.1,cG.V ((RT.int .i64).sl) s.2.1,cG.eq _,cG.eq v0,cG.ptr ((RT.di).ptr) s.2.2,cG.V ((RT.di).ptr) s.2.2,cG.V (RT.str.sl) s.2.2.1,cG.mk' (fun v w'=>∃a b c,v= .agg [a,b,c,.slice none 0 0].toArray∧((RT.int .i64).sl).V gV w' s.1 a∧((RT.int .i64).sl).V gV w' s.2.1 b∧(RT.str.sl).V gV w' s.2.2.1 c) (fun⟨a,b,c,h1,h2,h3,h4⟩ s=>⟨a,b,c,h1,h2.le s.le,h3.le s.le,h4.le s.le⟩),cG.mk' (fun p w'=>∃bq,p= .pointer (some ⟨bq,0,none⟩)∧CS.heap.size≤bq∧w'.heap[bq]? =some (.cells #[.slice none 0 0,.slice none 0 0,.slice none 0 0,.slice none 0 0] 72 (0,0))) (fun⟨bq,h1,h2,h3⟩ s=>⟨bq,h1,h2,s.aL h3⟩)] 17
 ·rfl
 ·rfl
 ·rfl
 ·rfl
 ·rfl
 ·exact fun p hp=>by cases hp
 ·exact vT.none
 ·refine aG ?_ ?_
  ·intro wD E sD;refine ad rfl rfl ?_;exact ab ⟨rfl,rfl,_,rfl,rfl,au _ _⟩
  refine aG ?_ ?_
  ·intro wD E sD;refine aM (bT rfl Xi.fH rfl ?_);exact ab ⟨rfl,rfl,_,rfl,rfl,au _ _⟩
  refine aG ?_ ?_
  ·intro wD E sD;refine aM ?_;refine aQ (M:=gV) (A:=RT.se) (B:=((RT.int .i64).sl)) iS rfl rfl jY (by decide) se0 rfl rfl (by decide) Xi sD.le (fun uf zQ=>?_);exact ab ⟨rfl,rfl,_,rfl,zQ,au _ _⟩
  refine aG ?_ ?_
  ·intro wD E sD;intro v2 Bv;refine bU (M:=gV) ao rfl rfl rfl rfl rfl (show cO (((RT.int .i64).sl)) gV wD v2 s.1 from Bv) (aq _ _) (fun va lG=>?_);exact ab ⟨rfl,rfl,_,rfl,lG,au _ _⟩
  refine aG ?_ ?_
  ·intro wD E sD;intro v3 xr;refine aX rfl rfl Re (qS (M:=gV) (sD.lt hMA) (show((RT.int .i64).sl).V gV wD s.1 v3 from xr) (by omega)) (fun r1 w1 h1=>?_);exact ab ⟨rfl,rfl,_,rfl,h1.1,h1.2⟩
  refine aG ?_ ?_
  ·intro wD E sD;refine ad rfl rfl ?_;exact ab ⟨rfl,rfl,_,rfl,rfl,au _ _⟩
  refine aG ?_ ?_
  ·intro wD E sD;refine aM (bT rfl Xi.fH rfl ?_);exact ab ⟨rfl,rfl,_,rfl,rfl,au _ _⟩
  refine aG ?_ ?_
  ·intro wD E sD;refine aM ?_;refine aQ (M:=gV) (A:=RT.se) (B:=((RT.int .i64).sl)) iS rfl rfl jY (by decide) se1 rfl rfl (by decide) Xi sD.le (fun uf zQ=>?_);exact ab ⟨rfl,rfl,_,rfl,zQ,au _ _⟩
  refine aG ?_ ?_
  ·intro wD E sD;intro v7 Hb;refine bU (M:=gV) ao rfl rfl rfl rfl rfl (show cO (((RT.int .i64).sl)) gV wD v7 s.2.1 from Hb) (aq _ _) (fun va lG=>?_);exact ab ⟨rfl,rfl,_,rfl,lG,au _ _⟩
  refine aG ?_ ?_
  ·intro wD E sD;intro v8 IX;intro v4 nv;refine aX rfl rfl Re (qS (M:=gV) (sD.lt hMA) (show((RT.int .i64).sl).V gV wD s.2.1 v8 from IX) (by omega)) (fun r1 w1 h1=>?_);exact ab ⟨rfl,rfl,_,rfl,h1.1,h1.2⟩
  refine aG ?_ ?_
  ·intro wD E sD;refine ad rfl rfl ?_;exact ab ⟨rfl,rfl,_,rfl,rfl,au _ _⟩
  refine aG ?_ ?_
  ·intro wD E sD;refine aM (bT rfl Xi.fH rfl ?_);exact ab ⟨rfl,rfl,_,rfl,rfl,au _ _⟩
  refine aG ?_ ?_
  ·intro wD E sD;refine aM ?_;refine aQ (M:=gV) (A:=RT.se) (B:=(RT.di).ptr) iS rfl rfl Fe (by decide) se2 rfl rfl (by decide) Xi sD.le (fun uf zQ=>?_);exact ab ⟨rfl,rfl,_,rfl,zQ,au _ _⟩
  refine aG ?_ ?_
  ·intro wD E sD;intro v12 FY;refine bU (M:=gV) gG rfl rfl rfl rfl rfl (show cO ((RT.di).ptr) gV wD v12 s.2.2 from FY) (aq _ _) (fun va lG=>?_);exact ab ⟨rfl,rfl,_,rfl,lG,au _ _⟩
  refine aG ?_ ?_
  ·intro wD E sD;intro K8 Au;intro v9 Er;refine aX rfl rfl E76 (zZ (M:=gV) _ (sD.lt hMA) (lX.1 (show((RT.di).ptr).V gV wD s.2.2 K8 from Au)) (by rw[hls,aH];exact hdl) hd6) (fun r1 w1 h1=>?_);exact ab ⟨rfl,rfl,_,rfl,h1.1,h1.2⟩
  refine aG ?_ ?_
  ·intro wD E sD;intro v4 nv;intro v9 Er;intro v14 KT;refine iM (places:=[(0,1),(1,1),(2,1),(3,1)]) bu A4 B72 rfl ⟨_,_,rfl,rfl,_,_,rfl,rfl,_,_,rfl,rfl,rfl⟩ (out:=[v4,v9,v14,.slice none 0 0]) ⟨0,[_],rfl,jE nv,by simp[Value.cells],1,[_],rfl,jE Er,by simp[Value.cells],2,[_],rfl,jE KT,by simp[Value.cells],rfl⟩ ?_;exact ab ⟨rfl,rfl,_,rfl,⟨v4,v9,v14,rfl,nv,Er,KT⟩,au _ _⟩
  refine aG ?_ ?_
  ·intro wD E sD;refine dU gV A4 rfl (fun bq wq e1 e2 e3 s=>?_);exact ab ⟨rfl,rfl,_,rfl,⟨bq,rfl,ez sD.size e1,e3⟩,s.back⟩
  exact ti
 ·intro Gf mj;refine aM (aM ?_);intro Ku qg;intro agE Tn;intro ajK ab1;refine aM (aM ?_);intro aaF TA;intro atX aom;intro atY aon;refine aM (aM ?_);intro aoo aka;intro aop akb;intro aoq akc;intro aor Xj;intro aos Xk;obtain⟨va,vb,vc,rfl,lG,tV,hvc⟩:=Xj;obtain⟨bo,rfl,Of,gq⟩:=Xk;obtain⟨MP,eMP⟩:∃M',M'=ins gV bo:=⟨_,rfl⟩;have sW:Step gV CS MP Gf aC:=by rw[eMP];exact mj.own Of (ak gq)
  replace lG:((RT.int .i64).sl).V MP Gf s.1 va:=by rw[eMP];exact Ph (fun _ _ _ _ _ _ h=>h) gq (fun M w x vs (h:vs=_∧_)=>⟨_,[],h.1,fun j hj=>by rcases j with _|_|_|_|j<;>simp at hj⟩) lG
  replace tV:((RT.int .i64).sl).V MP Gf s.2.1 vb:=by rw[eMP];exact Ph (fun _ _ _ _ _ _ h=>h) gq (fun M w x vs (h:vs=_∧_)=>⟨_,[],h.1,fun j hj=>by rcases j with _|_|_|_|j<;>simp at hj⟩) tV
  replace hvc:(RT.str.sl).V MP Gf s.2.2.1 vc:=by rw[eMP];exact Ph (fun _ _ _ _ _ _ h=>h) gq (fun M w x vs (h:vs=_∧_)=>⟨_,[],h.1,fun j hj=>by rcases j with _|_|_|_|j<;>simp at hj⟩) hvc
  have mbo:MP bo:=by rw[eMP];exact .inl rfl
  refine dI (M:=MP) (vs:=[va,vb,vc,.slice none 0 0]) A4 rfl rfl (by intro u hu;simp at hu;rcases hu with rfl|rfl|rfl|rfl<;>first|rfl|exact lW (by assumption) rfl rfl) rfl rfl gq mbo (fun Yr g17 CQ=>?_);replace lG:=lG.le CQ.le;replace tV:=tV.le CQ.le;replace hvc:=hvc.le CQ.le;replace mbo:=(CQ.mem _ (ak gq)).2 mbo;have hsQ:cO RT.se MP Yr v0 s:=(Xi.le (by decide) sW.le).le (by decide) CQ.le;have SA:=S;clear S hM gq;have gq:=g17;have S:Step gV CS MP Yr aC:=sW.cf CQ (fun k (hk:k=bo)=>by omega);have hM:=S.lt hMA;refine ab (aj (aj (ae (ad rfl rfl (bT rfl hsQ.fH rfl ?_)))));refine aQ (M:=MP) (A:=RT.se) (B:=(RT.di).ptr) iS rfl rfl Fe (by decide) se2 rfl rfl (by decide) hsQ (aq _ _) (fun aa1 lH=>?_);refine bU (M:=MP) gG rfl rfl rfl rfl rfl lH (aq _ _) (fun vd hvd=>?_);have hdp:=lX.1 hvd;refine aX rfl rfl E77 (BV (M:=MP) _ hM hdp) (fun r2 w2 hc=>?_);obtain⟨bi,bd,rfl,gi,gd,QB,hbd,s2⟩:=hc;have fi: ¬MP bi:=fun h=>by have:=hM _ h;omega
  have fd: ¬MP bd:=fun h=>by have:=hM _ h;omega
  replace hM:=s2.lt hM;have:=S.size;replace S:=S.aB s2;refine ab (aY ?_);refine T.range (gf:=123) (lb:=[.pointer (some ⟨bi,0,none⟩),.pointer (some ⟨bd,0,none⟩)].toArray) rfl WQ (fun rec nU=>?_);obtain⟨D,hD⟩:∃D,D=w2.heap.size:=⟨_,rfl⟩;obtain⟨Mr,h0⟩:=aj9 (A:=(RT.po).sl) (e:=80) (X:=(Jk s va vb vc MP w2)) (F:=(fun vo=> #[va,vb,vc,vo])) Jk.le (st:=rec .ready none) ⟨lG.le s2.le,tV.le s2.le,hvc.le s2.le,aq _ _⟩ hM S (s2.aL gq) ((s2.mem _ (ak gq)).2 mbo) gi gd fi fd Of;rw[←hD]at nU h0 ⊢;have Jv:cO RT.di (fun b=>MP b∨w2.heap.size≤b) w2 vd s.2.2:=(hdp.le (by decide) s2.le).le (by decide) (Le.wide MP w2);refine Spec.mono (zX (wv:=w2) (M:=fun b=>MP b∨w2.heap.size≤b) (J:=fun i w=>∃M' vo,Pj ((RT.po).sl) 80 72 (Jk s va vb vc MP w2) (fun vo=> #[va,vb,vc,vo]) gV CS bo bi bd D vd (rec .ready none) vo (ls.take i) M' w) (Jx:=fun _=>False) _ Jv (by rw[hls,aH];exact hdl) (fun i w w' ⟨M',vo,h⟩ s=>⟨M',vo,h.aO Jk.le (s.any M')⟩) (fun i w ⟨M',vo,h⟩=>⟨h.gi,h.gd,h.k.2.2.2.fixed⟩) (fun i wr x t vt hJ hx ht hp=>?_) ⟨Mr,_,h0⟩) (fun _ w3 h3=>?_)
  ·obtain⟨M',vo,h⟩:=hJ;obtain⟨l,T4,rfl⟩:∃l,ls[i]? =some l∧nV l=t:=by rw[hls,bj]at ht;exact Option.map_eq_some_iff.1 ht
   have ou:=(an.1 T4).1;obtain⟨ny,hrp,hrb,hrl⟩:=hok l (az T4);refine mg (ps:=[27,28]) (vs:=[sv x,vt]) nU h.r rfl (by decide) (ae (ah rfl rfl (ab ?_)));refine⟨rfl,h.r,?_⟩;have h4:=h.na Jk.le (st':=rec .busy none);have s4:Step M' wr M' (wr.putObj (D+1) (.loop (rec .busy none))) (fun k=>k=D+1):=dZ h.mr;have hp4:=(hp.le (by decide) h.k.2.2.2.out).le (by decide) s4.le;generalize wr.putObj (D+1) _=w4 at h4 s4 hp4 ⊢;have hM:=h4.lt;have S:=h4.S;refine aY ?_;apply T.oG 3 [0,1] 2 aC mixed rfl rfl rfl rfl;intro wD4 sA4;have BN:=sA4 (M');replace hM:=BN.lt hM;have:=S.size;replace S:=S.aB BN;replace h4:=h4.aO Jk.le BN;refine bJ bu rfl rfl A3 (by decide) rfl rfl ?_;refine ab ⟨rfl,rfl,rfl,?_⟩;refine aN dF rfl rfl rfl h4.o rfl (aU (v':=vo) rfl ?_);refine ab ⟨rfl,rfl,rfl,?_⟩;refine ad rfl rfl ?_;refine ab ⟨rfl,rfl,rfl,?_⟩;refine eD ?_;refine⟨ik ⟨iJ bu rfl A3 (by decide),⟨ey rfl h4.o (fun h=>h),trivial⟩⟩,?_⟩;have kp:=jl aC wD4;refine aX rfl rfl E78 (FV h4.lt (hp4.le (by decide) BN.le) ny hrp hrb hrl) (fun r5 w5 hc=>?_);obtain⟨hr5,s5⟩:=hc;replace h4:=h4.aO Jk.le s5;refine(fun(kp:eJ _ _ _)=>ab ⟨rfl,rfl,fun _=>kp,?_⟩) (by first|exact kp|exact kp.ry (by assumption)|exact kp.goN (by assumption)|exact kp.go (by assumption) (fun _ _ h=>by first|exact h|exact h.elim));refine eu (A:=(RT.po).sl) (hn:=by decide) (M:=M') dF x7 (by decide) rfl rfl h4.lt hr5 (.inr ⟨rfl,rfl⟩) (fun u6 w6 GZ s6=>?_);have h6:=h4.aO Jk.le s6;refine(fun(kp:eJ _ _ _)=>ab ⟨rfl,rfl,fun _=>kp,?_⟩) (by first|exact kp|exact kp.ry (by assumption)|exact kp.goN (by assumption)|exact kp.go (by assumption) (fun _ _ h=>by first|exact h|exact h.elim));refine cV (M:=M') (base:=CS.heap.size) dF x7 rfl rfl rfl rfl h6.own GZ (aq _ _) (by simp;omega) (by simp;omega) h6.S.size (fun v7 M7 w7 nE s7=>?_)
   obtain⟨⟨go7,mo7⟩,Gw⟩:=h6.grow Jk.le (by decide) s7 nE;refine ab ⟨rfl,rfl,fun h=>absurd rfl h,?_⟩;refine bJ bu rfl rfl A3 (by decide) rfl rfl ?_;refine ab ⟨rfl,rfl,fun h=>absurd rfl h,?_⟩;refine cw (M:=M7) A3 rfl rfl go7 rfl (by obtain⟨_,_,he,_⟩:=nE.isSlice;rw[he];rfl) mo7 (fun w8 g8 s8=>?_);replace g8:w8.heap[bo]? =some (.cells ((fun vo=> #[va,vb,vc,vo]) v7) 72 (0,0)):=g8;refine ab ⟨rfl,rfl,fun h=>absurd rfl h,?_⟩;refine lJ ?_;have h8:=(Gw s8 g8).na Jk.le (st':=rec .ready none);exact⟨(Gw s8 g8).r,true,rfl,fun _=>⟨M7,v7,by rw[bI,T4,cJ];exact h8⟩,fun h=>by cases h⟩
  ·obtain⟨M',vo,h⟩:=h3.resolve_right id;left;refine⟨h.r,?_⟩;have h5:=h.na Jk.le (st':=rec .exhausted none);generalize w3.putObj (D+1) _=wE at h5 ⊢;refine aj (ae (fL (vs:=[va,vb,vc,vo]) bu rfl A4 rfl rfl rfl h5.o ?_));obtain⟨hka,hkb,PY,_⟩:=h5.k;obtain⟨_,_,heo,_⟩:=h5.own.isSlice;have gR:=h5.S.aL oV;have mR:=(h5.S.mem _ (ak oV)).2 qU;refine dI (M:=M') (vs:=[va,vb,vc,vo]) A4 rfl rfl (by intro u hu;simp at hu;rcases hu with rfl|rfl|rfl|rfl<;>first|exact lW (by assumption) rfl rfl|(rw[heo];rfl)) rfl rfl gR mR (fun wF gF sF=>?_);refine ab (aP ?_);have hDF:=sF.keep h5.d (fun(hn:D=x9)=>by have h1:=h5.d;rw[hn,gR]at h1;cases h1);have sZ:Step M' wF M' (wF.putObj D (.deferred none)) (fun k=>k=D):=dZ h5.md;have hz:=h5.z;have at6:=SA.size;have SS:=((SA.aB h5.S).cf sF (fun k (hk:k=x9)=>by omega)).cf sZ (fun k (hk:k=D)=>by omega)
   have ho:=(h5.own.step sF (fun b hb (hn:b=x9)=>h5.own.eS gR (by decide) (hn▸hb))).step sZ (fun b hb (hn:b=D)=>by
    obtain⟨cs,hc⟩:=h5.own.isCells hb;rw[hn,h5.d]at hc;cases hc)
   rw[aW (Nat.le_of_eq hdl.symm)]at ho;have Sy:ls.length≤1000000000:=by omega
   have lc:=(sF.le.trans sZ.le).trans (Le.close jO SS);refine RS (vs:=[va,vb,vc,vo]) rfl rfl bu rfl A4 rfl hDF (sZ.keep gF (fun(hn:x9=D)=>by rw[hn,h5.d]at gR;cases gR)) ⟨VV (x:=(s.1,s.2.1,s.2.2.1,ls)) (hka.le lc) (hkb.le lc) (PY.le lc) (ye (hn:=by decide) jO SS (ho.nS (by omega)) (by show ls.length≤_;omega)),SS.back⟩
end Go.K
namespace Go.K
open Go.Proofs
namespace TKSegM
theorem A3:TI Tryz.prog 58 (.slice none 0 0) 1 24:=by unfold TI;kernel_rfl
theorem A4:TI Tryz.prog 72 (.agg #[(.slice none 0 0),(.slice none 0 0),(.slice none 0 0),(.slice none 0 0)]) 4 96:=by unfold TI;kernel_rfl
theorem E32:Enters Tryz.prog 32:=enters Tryz.func32 rfl (by decide)
theorem E82:Enters Tryz.prog 82:=enters Tryz.func82 rfl (by decide)
theorem E83:Enters Tryz.prog 83:=enters Tryz.func83 rfl (by decide)
end TKSegM
open TKSegM
set_option maxRecDepth 10000
structure RU (s:Se) (ls:List (List Po)):Prop where
 hls:s.2.2.2=ls.map nV
 hdl:s.2.2.1.length=ls.length
 hn1:s.1.length≤1000000
 hn2:s.2.1.length≤1000000
 hd6:s.2.2.1.length≤1000000000
 hok:∀l∈ls,fN (-1) l=true∧(∀p∈l,p.2.length≤1099511627776)∧(eh (-1) l).length≤1099511627776∧l.length≤1099511627776
def partsOf (s:Se) (ls:List (List Po)):Pa:=(s.1,s.2.1,s.2.2.1,ls)
set_option maxRecDepth 100000 in
theorem Xl:Enters Tryz.prog 84:=enters Tryz.func84 rfl (by decide)
theorem xH {M:aD} {s t:Se} {ls lt:List (List Po)} {o p:Addr} (w0:World) (hM:Lt M w0) (hs:cO RT.se M w0 (.pointer (some o)) s) (ht:cO RT.se M w0 (.pointer (some p)) t) (Yw:RU s ls) (Yx:RU t lt):
  Spec Tryz.prog 37 #[.pointer (some o),.pointer (some p)] w0 (fun v w=>v= .bool (A9 (partsOf s ls) (partsOf t lt))∧Step M w0 M w aC):=by
 refine bg (args:=[_,_]) (fn:=Tryz.f37) Tryz.func37 rfl (n:=46) Tryz.ntmps37 ?_;have S:Step M w0 M w0 aC:=(au _ _).cB (fun _ h=>h.elim) (fun _ h=>h.elim);refine aj (ae (ah rfl rfl (ab (aj (aj (ae (ad rfl rfl (Rg.Br eF rfl rfl rfl (ad rfl rfl (Rg.yC (g:=9) rfl ((by simp)) (al rfl rfl ?_)))))))))));refine ad rfl rfl (al rfl rfl (Rg.Br eF rfl rfl rfl (aE rfl rfl rfl (ab (T.vP rfl ((by simp)) (aT (aj (ae (ad rfl rfl ?_)))))))));refine aX rfl rfl E32 (xG _ hM hs Yw.hls Yw.hdl Yw.hn1 Yw.hn2 Yw.hd6 Yw.hok) (fun r1 w1 hc=>?_);obtain⟨akh,sp1⟩:=hc;obtain⟨a1,b1,c1,d1,rfl,xX,mP,wx,yr⟩:=Nu akh;dsimp only at xX mP wx yr;replace hs:=hs.le (by decide) sp1.le;replace ht:=ht.le (by decide) sp1.le;replace hM:=sp1.lt hM;have:=S.size;replace S:=S.aB sp1;refine ad rfl rfl ?_;refine aX rfl rfl E32 (xG _ hM ht Yx.hls Yx.hdl Yx.hn1 Yx.hn2 Yx.hd6 Yx.hok) (fun r2 w2 hc=>?_);obtain⟨aki,Ub⟩:=hc;obtain⟨a2,b2,c2,d2,rfl,yL,oC,tT,Ag⟩:=Nu aki;dsimp only at yL oC tT Ag;replace hs:=hs.le (by decide) Ub.le;replace ht:=ht.le (by decide) Ub.le;replace xX:=xX.le Ub.le;replace mP:=mP.le Ub.le;replace wx:=wx.le Ub.le;replace yr:=yr.le Ub.le;replace hM:=Ub.lt hM;have:=S.size;replace S:=S.aB Ub;refine dU M A4 rfl (fun Xm Zv aua aub kq nu=>?_);obtain⟨Pk,Pl⟩:∃M',M'=ins M Xm:=⟨_,rfl⟩;rw[←Pl]at nu;have jQ:Pk Xm:=by rw[Pl];exact .inl rfl
 change Zv.heap[Xm]? =some (.cells #[.slice none 0 0,.slice none 0 0,.slice none 0 0,.slice none 0 0] _ _)at kq;replace hs:=hs.le (by decide) nu.le;replace ht:=ht.le (by decide) nu.le;replace xX:=xX.le nu.le;replace mP:=mP.le nu.le;replace wx:=wx.le nu.le;replace yr:=yr.le nu.le;replace yL:=yL.le nu.le;replace oC:=oC.le nu.le;replace tT:=tT.le nu.le;replace Ag:=Ag.le nu.le;replace hM:=nu.lt hM;have:=S.size;replace S:=S.aB nu;refine dU Pk A4 rfl (fun Xn Vf auc aud kP lO=>?_);obtain⟨Pm,Pn⟩:∃M',M'=ins Pk Xn:=⟨_,rfl⟩;rw[←Pn]at lO;have kJ:Pm Xn:=by rw[Pn];exact .inl rfl
 change Vf.heap[Xn]? =some (.cells #[.slice none 0 0,.slice none 0 0,.slice none 0 0,.slice none 0 0] _ _)at kP;have:=ak kq;replace jQ:=(lO.mem _ this).2 jQ;replace kq:=lO.aL kq;replace hs:=hs.le (by decide) lO.le;replace ht:=ht.le (by decide) lO.le;replace xX:=xX.le lO.le;replace mP:=mP.le lO.le;replace wx:=wx.le lO.le;replace yr:=yr.le lO.le;replace yL:=yL.le lO.le;replace oC:=oC.le lO.le;replace tT:=tT.le lO.le;replace Ag:=Ag.le lO.le;replace hM:=lO.lt hM;have:=S.size;replace S:=S.aB lO;refine dI (M:=Pm) (vs:=[a1,b1,c1,d1]) A4 rfl rfl (by intro u hu;simp at hu;rcases hu with rfl|rfl|rfl|rfl<;>exact lW (by assumption) rfl rfl) rfl rfl kq jQ (fun ws1 gs1 Gk=>?_);have:=ak kq;replace jQ:=(Gk.mem _ this).2 jQ;have:=ak kP;replace kJ:=(Gk.mem _ this).2 kJ;replace kP:=Gk.keep kP (fun hk=>by have hk:_=_:=hk;omega);replace hs:=hs.le (by decide) Gk.le;replace ht:=ht.le (by decide) Gk.le;replace xX:=xX.le Gk.le;replace mP:=mP.le Gk.le;replace wx:=wx.le Gk.le;replace yr:=yr.le Gk.le;replace yL:=yL.le Gk.le;replace oC:=oC.le Gk.le;replace tT:=tT.le Gk.le;replace Ag:=Ag.le Gk.le;replace hM:=Gk.lt hM;have:=S.size;replace S:=S.trans Gk (fun k hk h=>by have h:_=_:=h;subst h;first|(exfalso;omega)|(show _≤_;omega)|exact⟨by first|omega|assumption,(S.mem _ hk).1 ((Gk.mem _ (ak kq)).1 jQ)⟩|exact .inl rfl|exact .inr rfl|exact .inr (.inl rfl)|exact .inr (.inr rfl)|exact .inr (.inr (.inl rfl))|exact rfl);have Uc:=gs1;clear kq;have kq:=Uc;clear Uc;refine dI (M:=Pm) (vs:=[a2,b2,c2,d2]) A4 rfl rfl (by intro u hu;simp at hu;rcases hu with rfl|rfl|rfl|rfl<;>exact lW (by assumption) rfl rfl) rfl rfl kP kJ (fun ws2 gs2 Gl=>?_);have:=ak kq;replace jQ:=(Gl.mem _ this).2 jQ;replace kq:=Gl.keep kq (fun hk=>by have hk:_=_:=hk;omega);have:=ak kP;replace kJ:=(Gl.mem _ this).2 kJ
 replace hs:=hs.le (by decide) Gl.le;replace ht:=ht.le (by decide) Gl.le;replace xX:=xX.le Gl.le;replace mP:=mP.le Gl.le;replace wx:=wx.le Gl.le;replace yr:=yr.le Gl.le;replace yL:=yL.le Gl.le;replace oC:=oC.le Gl.le;replace tT:=tT.le Gl.le;replace Ag:=Ag.le Gl.le;replace hM:=Gl.lt hM;have:=S.size;replace S:=S.trans Gl (fun k hk h=>by have h:_=_:=h;subst h;first|(exfalso;omega)|(show _≤_;omega)|exact⟨by first|omega|assumption,(S.mem _ hk).1 ((Gl.mem _ (ak kP)).1 kJ)⟩|exact .inl rfl|exact .inr rfl|exact .inr (.inl rfl)|exact .inr (.inr rfl)|exact .inr (.inr (.inl rfl))|exact rfl);have Ud:=gs2;clear kP;have kP:=Ud;clear Ud;refine ab (aj (ae (bJ bu rfl rfl jY (by decide) rfl rfl (aN ao rfl rfl rfl kq rfl (aU (v':=a1) rfl (bJ bu rfl rfl jY (by decide) rfl rfl (aN ao rfl rfl rfl kP rfl (aU (v':=a2) rfl ?_))))))));refine aX rfl rfl E82 (Ax _ hM xX yL) (fun rr4 wr4 hc=>?_);obtain⟨rfl,Gm⟩:=hc;have:=ak kq;replace jQ:=(Gm.mem _ this).2 jQ;replace kq:=Gm.aL kq;have:=ak kP;replace kJ:=(Gm.mem _ this).2 kJ;replace kP:=Gm.aL kP;replace hs:=hs.le (by decide) Gm.le;replace ht:=ht.le (by decide) Gm.le;replace xX:=xX.le Gm.le;replace mP:=mP.le Gm.le;replace wx:=wx.le Gm.le;replace yr:=yr.le Gm.le;replace yL:=yL.le Gm.le;replace oC:=oC.le Gm.le;replace tT:=tT.le Gm.le;replace Ag:=Ag.le Gm.le;replace hM:=Gm.lt hM;have:=S.size;replace S:=S.aB Gm;refine ad rfl rfl ?_;refine aS (g:=25) rfl (fun wz=>?_) (fun wz=>?_)
 ·refine al rfl rfl (bJ bu rfl rfl jY (by decide) rfl rfl (al rfl rfl (aN ao rfl rfl rfl kq rfl (aU (v':=b1) rfl (al rfl rfl (bJ bu rfl rfl jY (by decide) rfl rfl (al rfl rfl (aN ao rfl rfl rfl kP rfl (aU (v':=b2) rfl (al rfl rfl ?_))))))))));refine aX rfl rfl E82 (Ax _ hM mP oC) (fun aug auh hc=>?_);obtain⟨rfl,sd⟩:=hc;have:=ak kq;replace jQ:=(sd.mem _ this).2 jQ;replace kq:=sd.aL kq;have:=ak kP;replace kJ:=(sd.mem _ this).2 kJ;replace kP:=sd.aL kP;replace hs:=hs.le (by decide) sd.le;replace ht:=ht.le (by decide) sd.le;replace xX:=xX.le sd.le;replace mP:=mP.le sd.le;replace wx:=wx.le sd.le;replace yr:=yr.le sd.le;replace yL:=yL.le sd.le;replace oC:=oC.le sd.le;replace tT:=tT.le sd.le;replace Ag:=Ag.le sd.le;replace hM:=sd.lt hM;have:=S.size;replace S:=S.aB sd;refine aZ rfl rfl rfl (ad rfl rfl ?_);refine aS (g:=32) rfl (fun vr=>?_) (fun vr=>?_)
  ·refine al rfl rfl (bJ bu rfl rfl yo (by decide) rfl rfl (al rfl rfl (aN aJ rfl rfl rfl kq rfl (aU (v':=c1) rfl (al rfl rfl (bJ bu rfl rfl yo (by decide) rfl rfl (al rfl rfl (aN aJ rfl rfl rfl kP rfl (aU (v':=c2) rfl (al rfl rfl ?_))))))))));refine aX rfl rfl E83 (Pd _ hM wx tT) (fun aui auj hc=>?_);obtain⟨rfl,sf⟩:=hc;have:=ak kq;replace jQ:=(sf.mem _ this).2 jQ;replace kq:=sf.aL kq;have:=ak kP;replace kJ:=(sf.mem _ this).2 kJ;replace kP:=sf.aL kP;replace hs:=hs.le (by decide) sf.le;replace ht:=ht.le (by decide) sf.le;replace xX:=xX.le sf.le;replace mP:=mP.le sf.le;replace wx:=wx.le sf.le;replace yr:=yr.le sf.le;replace yL:=yL.le sf.le;replace oC:=oC.le sf.le;replace tT:=tT.le sf.le;replace Ag:=Ag.le sf.le;replace hM:=sf.lt hM;have:=S.size;replace S:=S.aB sf;refine aZ rfl rfl rfl (ad rfl rfl ?_);refine aS (g:=39) rfl (fun vu=>?_) (fun vu=>?_)
   ·refine al rfl rfl (bJ bu rfl rfl A3 (by decide) rfl rfl (al rfl rfl (aN dF rfl rfl rfl kq rfl (aU (v':=d1) rfl (al rfl rfl (bJ bu rfl rfl A3 (by decide) rfl rfl (al rfl rfl (aN dF rfl rfl rfl kP rfl (aU (v':=d2) rfl (al rfl rfl ?_))))))))));refine aX rfl rfl Xl (KS _ hM yr Ag) (fun auk aul hc=>?_);obtain⟨rfl,si⟩:=hc;have:=ak kq;replace jQ:=(si.mem _ this).2 jQ;replace kq:=si.aL kq;have:=ak kP;replace kJ:=(si.mem _ this).2 kJ;replace kP:=si.aL kP;replace hs:=hs.le (by decide) si.le;replace ht:=ht.le (by decide) si.le;replace xX:=xX.le si.le;replace mP:=mP.le si.le;replace wx:=wx.le si.le;replace yr:=yr.le si.le;replace yL:=yL.le si.le;replace oC:=oC.le si.le;replace tT:=tT.le si.le;replace Ag:=Ag.le si.le;replace hM:=si.lt hM;have:=S.size;replace S:=S.aB si;refine aZ rfl rfl rfl (ah rfl rfl (ab (aP ?_)));refine aV rfl rfl ⟨congrArg Value.bool ?_,S.back⟩
    first
    |exact(by unfold A9 partsOf;dsimp only;rw[decide_eq_true wz,decide_eq_true vr,decide_eq_true vu];simp)
    |exact(j0 (fun e=>vu (congrArg (fun p:Pa=>p.2.2.1) e))).symm
    |exact(j0 (fun e=>vr (congrArg (fun p:Pa=>p.2.1) e))).symm
    |exact(j0 (fun e=>wz (congrArg (fun p:Pa=>p.1) e))).symm
   ·refine aw rfl rfl rfl rfl (aw rfl rfl rfl rfl (aw rfl rfl rfl rfl (aw rfl rfl rfl rfl (aw rfl rfl rfl rfl (aE rfl rfl rfl (ah rfl rfl (ab (aP ?_))))))));refine aV rfl rfl ⟨congrArg Value.bool ?_,S.back⟩
    first
    |exact(by unfold A9 partsOf;dsimp only;rw[decide_eq_true wz,decide_eq_true vr,decide_eq_true vu];simp)
    |exact(j0 (fun e=>vu (congrArg (fun p:Pa=>p.2.2.1) e))).symm
    |exact(j0 (fun e=>vr (congrArg (fun p:Pa=>p.2.1) e))).symm
    |exact(j0 (fun e=>wz (congrArg (fun p:Pa=>p.1) e))).symm
  ·refine aw rfl rfl rfl rfl (aw rfl rfl rfl rfl (aw rfl rfl rfl rfl (aw rfl rfl rfl rfl (aw rfl rfl rfl rfl (aE rfl rfl rfl (ad rfl rfl (aw rfl rfl rfl rfl (aw rfl rfl rfl rfl (aw rfl rfl rfl rfl (aw rfl rfl rfl rfl (aw rfl rfl rfl rfl ?_)))))))))));refine aE rfl rfl rfl (ah rfl rfl (ab (aP ?_)));refine aV rfl rfl ⟨congrArg Value.bool ?_,S.back⟩
   first
   |exact(by unfold A9 partsOf;dsimp only;rw[decide_eq_true wz,decide_eq_true vr,decide_eq_true vu];simp)
   |exact(j0 (fun e=>vu (congrArg (fun p:Pa=>p.2.2.1) e))).symm
   |exact(j0 (fun e=>vr (congrArg (fun p:Pa=>p.2.1) e))).symm
   |exact(j0 (fun e=>wz (congrArg (fun p:Pa=>p.1) e))).symm
 ·refine aw rfl rfl rfl rfl (aw rfl rfl rfl rfl (aw rfl rfl rfl rfl (aw rfl rfl rfl rfl (aw rfl rfl rfl rfl (aE rfl rfl rfl (ad rfl rfl (aw rfl rfl rfl rfl (aw rfl rfl rfl rfl (aw rfl rfl rfl rfl (aw rfl rfl rfl rfl (aw rfl rfl rfl rfl ?_)))))))))));refine aE rfl rfl rfl (ad rfl rfl (aw rfl rfl rfl rfl (aw rfl rfl rfl rfl (aw rfl rfl rfl rfl (aw rfl rfl rfl rfl (aw rfl rfl rfl rfl (aE rfl rfl rfl (ah rfl rfl (ab (aP ?_))))))))));refine aV rfl rfl ⟨congrArg Value.bool ?_,S.back⟩
  first
  |exact(by unfold A9 partsOf;dsimp only;rw[decide_eq_true wz,decide_eq_true vr,decide_eq_true vu];simp)
  |exact(j0 (fun e=>vu (congrArg (fun p:Pa=>p.2.2.1) e))).symm
  |exact(j0 (fun e=>vr (congrArg (fun p:Pa=>p.2.1) e))).symm
  |exact(j0 (fun e=>wz (congrArg (fun p:Pa=>p.1) e))).symm
end Go.K
namespace Go.K
open Go.Proofs
namespace TKSegN
theorem A3:TI Tryz.prog 58 (.slice none 0 0) 1 24:=by unfold TI;kernel_rfl
theorem x7:TI Tryz.prog 80 (.slice none 0 0) 1 24:=by unfold TI;kernel_rfl
end TKSegN
open TKSegN
set_option maxRecDepth 10000
end Go.K
namespace Go.K
open Go.Proofs
namespace TKSegQ
theorem A3:TI Tryz.prog 58 (.slice none 0 0) 1 24:=by unfold TI;kernel_rfl
theorem x7:TI Tryz.prog 80 (.slice none 0 0) 1 24:=by unfold TI;kernel_rfl
theorem Fe:TI Tryz.prog 139 (.pointer none) 1 8:=by unfold TI;kernel_rfl
theorem E78:Enters Tryz.prog 78:=enters Tryz.func78 rfl (by decide)
theorem E79:Enters Tryz.prog 79:=enters Tryz.func79 rfl (by decide)
end TKSegQ
open TKSegQ
set_option maxRecDepth 10000
theorem H9 {M:aD} {s:Se} {ls:List (List Po)} {k:List UInt8} {v0:Value} (w0:World) (hM:Lt M w0) (hs:cO RT.se M w0 v0 s) (DA:EH s.2.2.1) (ok:RU s ls):
  Spec Tryz.prog 36 #[v0,sv k] w0 (fun v w=>(RT.po.sl).V M w (WR s.2.2.1 ls k) v∧Step M w0 M w aC):=by
 refine bg (args:=[_,_]) (fn:=Tryz.f36) Tryz.func36 rfl (n:=20) Tryz.ntmps36 ?_;have S:Step M w0 M w0 aC:=(au _ _).cB (fun _ h=>h.elim) (fun _ h=>h.elim);refine aj (ae (ah rfl rfl (ab (aj (ae (ad rfl rfl (bT rfl hs.fH rfl ?_)))))));refine aQ (M:=M) (A:=RT.se) (B:=(RT.di).ptr) iS rfl rfl Fe (by decide) se2 rfl rfl (by decide) hs (aq _ _) (fun Hr oR=>?_);refine bU (M:=M) gG rfl rfl rfl rfl rfl oR (aq _ _) (fun vd hvd=>?_);refine ad rfl rfl ?_;refine aX rfl rfl E79 (find_spec (k:=k) _ hM (lX.1 hvd) DA (by rw[ok.hls,aH];exact ok.hdl)) (fun r6 w6 hc=>?_);obtain⟨s6,hr⟩:=hc
 obtain⟨p,rfl,hF⟩:∃p,r6= .tuple #[p,.bool (decide (k∈s.2.2.1))]∧abg s.2.2 k M p w6:=by
  rcases hr with⟨j,p,tl,rfl,h3,h4,h5⟩|⟨rfl,h3⟩
  ·exact⟨p,by rw[decide_eq_true (az h3)],.inl ⟨j,tl,h3,h4,h5⟩⟩
  ·exact⟨_,by rw[decide_eq_false h3],.inr ⟨rfl,h3⟩⟩
 replace hM:=s6.lt hM;have:=S.size;replace S:=S.aB s6;refine ad rfl rfl (bW rfl rfl rfl (bW rfl rfl rfl (ah rfl rfl (ah rfl rfl (ab (aj (aj (ae (ad rfl rfl (lY rfl rfl (aU (v':= .bool (decide (k∉s.2.2.1))) (by simp) ?_)))))))))));refine ab ?_;refine bM rfl (fun c2=>?_) (fun c2=>?_)
 ·refine aj (ae (ah rfl rfl (ab (aP ?_))));exact aV rfl rfl ⟨by rw[Ff c2];exact pW,S⟩
 ·refine aT (aj (ae (ad rfl rfl ?_)));obtain⟨j,tl,ZB,uq,Is⟩:=hF.resolve_right (fun h=>h.2 (cP.1 c2));rw[ok.hls,bj]at uq;obtain⟨l,Sy,rfl⟩:=Option.map_eq_some_iff.1 uq;obtain⟨ny,hrp,hrb,hrl⟩:=ok.hok l (az Sy);refine aX rfl rfl E78 (FV hM Is ny hrp hrb hrl) (fun r4 w4 hc=>?_);obtain⟨hr4,s4⟩:=hc;replace hM:=s4.lt hM;have:=S.size;replace S:=S.aB s4;refine ah rfl rfl (ab (aP ?_));exact aV rfl rfl ⟨by rw[OG DA.nodup ZB Sy];exact hr4,S⟩
end Go.K
namespace Go.K
open Go.Proofs
set_option maxRecDepth 10000
theorem Xo (L:List En):(lx (ew L)).2.2.1.length=((keysOf L).map (pk L)).length:=by rw[aH];rfl
end Go.K
namespace Go.K
section
variable {P:Program} {r:Option Nat} {n:Nat} {L:Sl} {ds:List Deferred} {w:World} {K:Kt}
def Ay (o:Oper):Oper:=⟨o.dst,o.op,o.type,o.pos,#[],o.guard⟩
def loose:Nat→List Oper→List Oper
 |_,[]=>[]
 |0,o::l=>Ay o::l
 |q+1,o::l=>o::loose q l
theorem mu:∀(q:Nat) (l:List Oper),(loose q l).length=l.length
 |_,[]=>by cases ‹Nat› <;>rfl
 |0,o::l=>rfl
 |q+1,o::l=>by show(loose q l).length+1=_;rw[mu q l];rfl
def Alike (o o2:Oper):Prop:=(o2=o∨o2=Ay o)
theorem o0:∀{q:Nat} {l:List Oper} {j:Nat} {o:Oper},l[j]? =some o→∃o2,(loose q l)[j]? =some o2∧Alike o o2
 |_,[],j,o,h=>by simp at h
 |0,x::l,0,o,h=>⟨Ay x,rfl,by simp at h;subst h;exact .inr rfl⟩
 |0,x::l,j+1,o,h=>⟨o,by simpa[loose]using h,.inl rfl⟩
 |q+1,x::l,0,o,h=>⟨x,rfl,by simp at h;subst h;exact .inl rfl⟩
 |q+1,x::l,j+1,o,h=>by
  obtain⟨o2,h1,h2⟩:=o0 (q:=q) (l:=l) (j:=j) (o:=o) (by simpa using h);exact⟨o2,by simpa[loose]using h1,h2⟩
theorem KU {q:Nat} {l:List Oper} {j:Nat} {o2:Oper} (h:(loose q l)[j]? =some o2):∃o,l[j]? =some o∧Alike o o2:=by
 have hj:=(an.1 h).1;rw[mu]at hj;obtain⟨o3,h1,h2⟩:=o0 (q:=q) (ar hj);rw[h]at h1;cases h1;exact⟨_,ar hj,h2⟩
theorem Alike.cy {o o2:Oper} (h:Alike o o2):∀k∈cy o2,k∈Go.K.cy o:=fun k hk=>by
 rcases h with rfl|rfl
 ·exact hk
 ·simp[Go.K.cy,Ay]at hk
theorem Ba {q:Nat} {l:List Oper} (tmps:Array Value) (j:Nat):yielded (loose q l).toArray tmps j=yielded l.toArray tmps j:=by
 unfold yielded
 have:((loose q l).toArray[j]?).bind (·.dst)=(l.toArray[j]?).bind (·.dst):=by
  simp only[eI]
  cases ho:l[j]? with
  |some o=>obtain⟨o2,h1,h2⟩:=o0 (q:=q) ho;rw[h1];rcases h2 with rfl|rfl<;>rfl
  |none=>rw[du (by rw[mu];exact List.getElem?_eq_none_iff.1 ho)]
 rw[this]
theorem Df {q:Nat} {l:List Oper} (tmps:Array Value) {o o2:Oper} (h:Alike o o2):Region.wanted o2 (yielded (loose q l).toArray tmps)=Region.wanted o (yielded l.toArray tmps):=by
 have hg:o2.guard=o.guard:=by rcases h with rfl|rfl<;>rfl
 unfold Region.wanted;rw[hg]
 cases o.guard with
 |none=>rfl
 |some g=>simp only[Ba]
theorem KV {q:Nat} {l:List Oper} {Q:Exit→Act→World→Prop} {j:Nat} {o:Oper} {rest:List Nat} {a:Act} (ho:l[j]? =some o)
  (h:wpOpsIn (FW r) 0 P (loose q l).toArray (fun e a w=>match e with| .normal=>wpOpsIn (FW r) 0 P l.toArray Q rest a w|e=>Q e a w) [j] a w):wpOpsIn (FW r) 0 P l.toArray Q (j::rest) a w:=by
 obtain⟨o2,tM,hA⟩:=o0 (q:=q) ho;simp only[wpOpsIn,eI,ho,tM,Df _ hA]at h ⊢
 split at h
 ·rename_i hw
  rw[if_pos hw];have h':Oper.wpIn (FW r) 0 P o a w (fun x x_1=>wpOpsIn (FW r) 0 P l.toArray Q rest x x_1) (fun e a w=>match e with| .normal=>wpOpsIn (FW r) 0 P l.toArray Q rest a w|e=>Q e a w):=by rcases hA with rfl|rfl<;>exact h
  clear h tM hA;refine⟨h'.1,?_⟩;have h2:=h'.2;generalize (Oper.semAt (FW r).round a.eval o).run P w=res at h2 ⊢
  cases res with
  |ok nx w'=>
   cases nx with
   |enter f args=>exact⟨h2.1,h2.2.mono fun e xV he=>by cases e<;>exact he⟩
   |round l f tmps su body=>exact⟨h2.1,h2.2.mono fun e xV he=>by cases e<;>exact he⟩
   |_=>exact h2
  |halt x w'=>cases x<;>exact h2
 ·rename_i hw
  rw[if_neg hw];rcases hA with rfl|rfl<;>exact⟨h.1,h.2⟩
theorem il.loose (q:Nat) {l:List Oper} {wd:World} (h:il P r n (Go.K.loose q l) L ds wd K):il P r n l L ds wd K:=by
 intro a ha;obtain⟨J,h1,h2,h3,h4⟩:=h a ha;rw[mu]at h1 h3;refine⟨J,h1,fun Q D a w j o rest hj ho pY hp lL hJ hk=>?_,h3,h4⟩;obtain⟨o2,tM,hA⟩:=o0 (q:=q) ho;refine KV (q:=q) ho (h2 _ D a w j o2 [] (by rw[mu];exact hj) tM pY (fun k hk=>hp k (hA.cy k hk)) (fun i o' fV hD k hk=>?_) hJ fun a' w' Uq=>hk _ _ Uq);obtain⟨o3,h5,h6⟩:=KU fV;exact lL i o3 h5 hD k (h6.cy k hk)
theorem T.Xp {id:Nat} {l l':List Oper} (q:Nat) (π:List Nat) (m:Nat) (fl:List Nat) (c:Nat) (N:aD) (hm:P.follows .mixedOrders=true) (GD:yP π (loose q l)=l') (sy:eK l 0=true) (acb:eK (loose q l) 0=true) (hπ:lM π l.length=true) (qy:Nat.blt m l'.length=true) (dr:eK l' 0=true) (nT:kC l' m=true) (Gb:lB l' m fl c=true)
  (h:∀wD,(∀M,Step M w M wD aC)→kN P r n l'.toArray (l'.take m) L ds wD (fun L'=>(∀j o,j∈fl→l'[j]? =some o→bZ P N wD L' o)∧sx P r n l'.toArray N wD K c (l'.drop m) L' ds wD)):T P r n (.region id l.toArray true) L ds w K:=by
 subst GD;exact il.t hm sy fun wD hD=> .loose q (.perm π (by rw[mu];exact hπ) acb (yO m fl c N qy dr nT Gb (h wD hD)))
end
end Go.K
namespace Go.K
open Go.Proofs
namespace TKMerge
theorem HY:TI Tryz.prog 25 (.pointer none) 1 8:=by unfold TI;kernel_rfl
theorem Lc:TI Tryz.prog 47 (.pointer none) 1 8:=by unfold TI;kernel_rfl
theorem A3:TI Tryz.prog 58 (.slice none 0 0) 1 24:=by unfold TI;kernel_rfl
theorem A4:TI Tryz.prog 72 (.agg #[(.slice none 0 0),(.slice none 0 0),(.slice none 0 0),(.slice none 0 0)]) 4 96:=by unfold TI;kernel_rfl
theorem x7:TI Tryz.prog 80 (.slice none 0 0) 1 24:=by unfold TI;kernel_rfl
theorem kG:TI Tryz.prog 124 (.agg #[(.int .i64 0),(.int .i64 0)]) 2 16:=by unfold TI;kernel_rfl
theorem TW:Enters Tryz.prog 34:=enters Tryz.func34 rfl (by decide)
theorem E36:Enters Tryz.prog 36:=enters Tryz.func36 rfl (by decide)
theorem E38:Enters Tryz.prog 38:=enters Tryz.func38 rfl (by decide)
theorem E43:Enters Tryz.prog 43:=enters Tryz.func43 rfl (by decide)
theorem E56:Enters Tryz.prog 56:=enters Tryz.func56 rfl (by decide)
theorem E57:Enters Tryz.prog 57:=enters Tryz.func57 rfl (by decide)
theorem E58:Enters Tryz.prog 58:=enters Tryz.func58 rfl (by decide)
theorem E59:Enters Tryz.prog 59:=enters Tryz.func59 rfl (by decide)
theorem E60:Enters Tryz.prog 60:=enters Tryz.func60 rfl (by decide)
theorem E61:Enters Tryz.prog 61:=enters Tryz.func61 rfl (by decide)
theorem E62:Enters Tryz.prog 62:=enters Tryz.func62 rfl (by decide)
theorem E63:Enters Tryz.prog 63:=enters Tryz.func63 rfl (by decide)
theorem E64:Enters Tryz.prog 64:=enters Tryz.func64 rfl (by decide)
end TKMerge
open TKMerge
set_option maxRecDepth 10000
def iI (M:aD) (w:World) (g:Gs) (bs:List Nat):Prop:=bs.length=g.length∧∀(i b:Nat) (p:List En×List Bool),bs[i]? =some b→g[i]? =some p→uX M w p.2 b
theorem iI.le {M M':aD} {w w':World} {g:Gs} {bs:List Nat} (hl:Le M w M' w') (h:iI M w g bs):iI M' w' g bs:=⟨h.1,fun i b p h1 h2=>(h.2 i b p h1 h2).le hl⟩
theorem Pp {M:aD} {w:World} {xs:List Int} {v:Value} (h:((RT.int .i64).sl).V M w xs v):∀x∈xs,-9223372036854775808≤x∧x≤9223372036854775807:=fun x hx=>by
 obtain⟨a,cap,_,_,_,hs⟩:=iz.1 h;rcases hs with rfl|⟨b,o,_,_,h3⟩
 ·cases hx
 ·obtain⟨i,hi⟩:=bz.1 hx;obtain⟨vs,hr,_⟩:=h3 i x hi;exact hr.2
theorem Ia {M:aD} {w:World} {s:Se} {v:Value} (h:cO RT.se M w v s):(∀x∈s.1,-9223372036854775808≤x∧x≤9223372036854775807)∧∀x∈s.2.1,-9223372036854775808≤x∧x≤9223372036854775807:=by
 obtain⟨b,o,vs,_,_,⟨va,vb,rfl,h1,vc,vd,rfl,h2,h3⟩,_⟩:=h;exact⟨Pp (v:=(RT.int .i64).sl.val va) ⟨va,h1,rfl⟩,Pp (v:=(RT.int .i64).sl.val vc) ⟨vc,h2,rfl⟩⟩
theorem Pq {L:List En} {a:List Bool} {d:Int} (h:d∈gz a) (hl:a.length=L.length):Ks (lx (ew L)).2.1 d=tN L d:=by
 obtain⟨k,rfl,hk⟩:=lh.1 h;have h1:=(an.1 hk).1;unfold Ks tN;rw[if_pos ⟨by omega,by show(k:Int)<(L.map _).length;rw[aH];omega⟩];rfl
theorem Pr {L:List En} {a:List Bool} {d:Int} (h:d∈gz a) (hl:a.length=L.length):tN L d∈(lx (ew L)).2.1:=by
 obtain⟨k,rfl,hk⟩:=lh.1 h;have h1:k<(L.map (·.2)).length:=by rw[aH];have:=(an.1 hk).1;omega
 unfold tN;rw[ay,aA,ar h1];exact vM _
theorem RV {ls:List (List Int)} {a:Nat} (h:∀l∈ls,l.length≤a):sG ls≤a*ls.length:=by
 have key:∀n,n≤ls.length→Ae (qY ls) n≤a*n:=by
  intro n
  induction n with
  |zero=>intro _;exact bD _
  |succ n ih=>
   intro hn;have h1:=ih (by omega)
   have h2:qY ls n≤a:=by
    unfold qY;rw[aA,ar (by omega)];exact h _ (vM _)
   unfold Ae;rw[Nat.mul_add];omega
 exact key ls.length (aR _)
theorem Dg {g:Gs} (hg:Jd g):Up (kH g):=fun l hl=>by
 obtain⟨p,hp,rfl⟩:=bV.1 hl;obtain⟨h1,h2⟩:=hg p hp;have hu:=lj h1
 have N6:∀d∈gz p.2,∃(k:Nat) (hk:k<p.1.length),d=k∧tN p.1 d=(p.1[k]'hk).2:=fun d hd=>by
  obtain⟨k,rfl,hk⟩:=lh.1 hd;have uk:k<p.1.length:=by have:=(an.1 hk).1;omega
  refine⟨k,uk,rfl,?_⟩;unfold tN;rw[ay,aA,bj,ar uk];rfl
 refine zI (fun x hx=>?_) (cx.2 ((uU p.2).imp_of_mem fun {a b} ha hb Yu=>?_))
 ·obtain⟨d,hd,rfl⟩:=bV.1 hx;obtain⟨k,hk,rfl,e⟩:=N6 d hd;rw[e];exact(rK h1 _ (vM _)).1
 ·obtain⟨k,hk,rfl,e⟩:=N6 a ha;obtain⟨k',uj,rfl,e'⟩:=N6 b hb;rw[e,e'];exact(cn.1 hu) k k' hk uj (by omega)
theorem RW {o os:List Fo} {k:Nat} {x y:Fo} (hl:os.length=o.length) (hx:(os.take k++o.drop k)[k]? =some x) (hy:os[k]? =some y):(os.take k++o.drop k).set k y=os.take (k+1)++o.drop (k+1):=by
 have hk:k<os.length:=(an.1 hy).1;rw[List.set_append_right _ _ (by rw[br];omega),br,yz (by omega),Nat.sub_self,bI,hy,cJ,List.append_assoc];congr 1;rw[dH (by omega:k<o.length)];rfl
theorem B5 {M:aD} {w:World}:∀n:Nat,eg ((RT.int .i64).sl) M w (List.replicate n []) (List.replicate n (.slice none 0 0))
 |0=>rfl
 |n+1=>⟨[.slice none 0 0],_,rfl,⟨none,0,rfl,bD _,bD _,.inl rfl⟩,B5 n⟩
theorem Mg.Xq {g:Gs} {os:List Fo} {E:List En} (h:Mg g os E) (hn:∀p∈g,p.1.length≤10000):os.length≤g.length*10000:=by
 have h1:=h.nd.length_le_of_subset (l₂:=(List.range g.length).flatMap fun(i:Nat)=>(List.range 10000).map fun(d:Nat)=>(((i:Int),(d:Int)):Fo)) (fun x hx=>by
  obtain⟨k,hk⟩:=bz.1 hx;obtain⟨i,d,e,rfl,_,L,a,a1,a2,_⟩:=h.at_ k x hk;have h3:=hn _ (az a1);have h4:=(an.1 a2).1;exact vN.2 ⟨i,tj.2 (an.1 a1).1,bV.2 ⟨d,tj.2 (by simp only at h3;omega),rfl⟩⟩)
 have h2:∀n:Nat,((List.range n).flatMap fun(i:Nat)=>(List.range 10000).map fun(d:Nat)=>(((i:Int),(d:Int)):Fo)).length=n*10000:=fun n=>by
  rw[List.length_flatMap];simp only[aH,List.length_range,List.map_const'];rw[List.sum_replicate_nat]
 rw[h2]at h1;exact h1
theorem Jl {a:Nat}:∀{ks:List (List (List UInt8))},(∀l∈ks,l.length≤a)→ks.flatten.length≤a*ks.length
 |[],_=>by simp
 |l::ks,h=>by
  have h1:=h l (bH ..);have h2:=Jl (ks:=ks) fun x hx=>h x (b9 _ hx)
  rw[List.flatten_cons,a8,cI,Nat.mul_add];omega
theorem FZ {g:Gs} {tos:List (List Int)} {k:List UInt8} (hg:Jd g) (hn:∀p∈g,p.1.length≤10000):∀{n:Nat},n≤g.length→(ya g tos k n).length≤n*10000
 |0,_=>by simp[ya]
 |n+1,h=>by
  have h1:=FZ (k:=k) (tos:=tos) hg hn (n:=n) (by omega);have l8:g[n]? =some g[n]:=ar (by omega);have h2:=tO (tos.getD n []) (pk (g.getD n ([],[])).1 k);rw[show g.getD n ([],[])=g[n]from by rw[aA,l8];rfl]at h2;have h3:(pk g[n].1 k).length≤g[n].1.length:=(qR k g[n].1 0 (kF (hg _ (az l8)).1)).1;have h4:=hn _ (az l8);rw[wO,a8,show g.getD n ([],[])=g[n]from by rw[aA,l8];rfl];omega
theorem nL {α:Type} {f:α→Bool} {l:List α} {q:Nat} {x:α} (h:l[q]? =some x):(l.take (q+1)).filter f=if f x=true then(l.take q).filter f++[x]else(l.take q).filter f:=by
 rw[bI,h,cJ,List.filter_append]
 split<;>rename_i h1<;>simp[h1]
theorem vv {L:List En} (h:pR (-1) L=true) (hn:L.length≤100000):RU (lx (ew L)) ((keysOf L).map (pk L)):=by
 have hF:=kF h
 have hk:(keysOf L).length≤50000000:=by
  have h1:=(lv L).nodup.length_le_of_subset (l₂:=iO L) (fun x hx=>jA.1 hx);have:=oT hF;omega
 refine⟨rfl,Xo L,by show(L.map _).length≤_;rw[aH];omega,by show(L.map _).length≤_;rw[aH];omega,by show(keysOf L).length≤_;omega,fun l hl=>?_⟩;obtain⟨k,_,rfl⟩:=bV.1 hl;have h1:=qR k L 0 hF;have ny:fN (-1) (pk L k)=true:=uQ k L 0 (-1) hF (by omega) (by omega);have ky:∀p∈pk L k,p.2.length≤500:=fun p hp=>(h1.2 p hp).2.2
 obtain⟨h2,h3⟩:=wI (pk L k) (-1) 500 (by omega) ny ky (by omega);have hl:(pk L k).length≤L.length:=h1.1;exact⟨ny,fun p hp=>by have:=ky p hp;omega,by omega,by omega⟩
theorem Ps {g:Gs} (hg:Jd g) (h:rX (kH g) none):Fy g:=by
 obtain⟨i,k,i',k',n,eN,h1,h2⟩:=h;obtain⟨d,e,a1,a2,a3,a4,a5⟩:=yt hg h1;obtain⟨d',e',b1,b2,b3,b4,b5⟩:=yt hg h2;refine⟨i,d,i',d',e,e',a1,b1,fun⟨hi,hd⟩=>eN ⟨hi,?_⟩,by rw[←a3,←b3]⟩;subst hi;subst hd;obtain⟨L,a,c1,_⟩:=a1;have RB:(jb g).getD i []=gz a:=by unfold jb;rw[aA,bj,c1];rfl
 rw[RB]at a5 b5;have o6:(gz a).Nodup:=(uU a).imp fun h e=>by omega
 obtain⟨p1,p2⟩:=an.1 a5;obtain⟨q1,q2⟩:=an.1 b5;exact(List.getElem_inj (h₀:=p1) (h₁:=q1) o6).1 (p2.trans q2.symm)
theorem Xr {g:Gs} (hg:Jd g) {out:List Hd} (h:rX (kH g) (some out)) {k:Nat} {x:Fo} (hk:(ed out)[k]? =some x):∃(i q d:Nat) (t:List Int),x=((i:Int),(q:Int))∧(jb g)[i]? =some t∧t[q]? =some (d:Int)∧(kI g (ed out))[k]? =some ((i:Int),(d:Int)):=by
 unfold ed at hk;rw[bj]at hk
 cases ho:out[k]? with
 |none=>rw[ho]at hk;simp at hk
 |some o=>
  rw[ho]at hk;obtain⟨i,q,e1,e2⟩:=h.2.1 o (az ho);obtain rfl:o.2=x:=by simpa using hk
  obtain⟨d,e,a1,a2,a3,a4,a5⟩:=yt hg e2;have hx:o.2=((i:Int),(q:Int)):=by rw[e1]
  have dY:=(an.1 a5);obtain⟨L,a,c1,_⟩:=a1;have RB:(jb g)[i]? =some (gz a):=by unfold jb;rw[bj,c1];rfl
  have pH:(jb g).getD i []=gz a:=by rw[aA,RB];rfl
  rw[pH]at a5 a2;refine⟨i,q,d,gz a,hx,RB,a5,?_⟩;unfold kI ed;rw[bj,bj,ho,cY,cY,hx];show some ((i:Int),((jb g).getD (i:Int).toNat []).getD (q:Int).toNat 0)=_;rw[ay,ay,pH,a2]
set_option maxHeartbeats 4000000 in
theorem Ib {M:aD} {g:Gs} {bs:List Nat} {v0 v1:Value} {w0:World} (hM:Lt M w0) (hs:(((RT.se).ptr).sl).V M w0 (g.map fun p=>lx (ew p.1)) v0) (hb:(RT.D1.sl).V M w0 bs v1) (cF:iI M w0 g bs) (hg:Jd g) (T4:g.length≤100) (Ue:∀p∈g,p.1.length≤10000) (Hz:∀p∈g,(keysOf p.1).length≤100000) (h0: ¬M 1) (FE:∃e fr,w0.heap[1]? =some (.cells (Iw.map fun(k:Nat)=>Value.int .u8 (k:Int)).toArray e fr)):
  Spec Tryz.prog 22 #[v0,v1] w0 (fun v w=>Step M w0 M w aC∧((∃os E,Mg g os E∧∃s,v= .tuple #[s,.int .i64 0]∧cO RT.se M w s (lx (ew E)))∨(Fy g∧v= .tuple #[.pointer none,.int .i64 5]))):=by
 have jO:=hM;obtain⟨etb,ftb,RX⟩:=FE;have nT:(g.map fun p=>lx (ew p.1)).length=g.length:=aH ..;have auv:=cF.1;refine bg (args:=[_,_]) (fn:=Tryz.f22) Tryz.func22 rfl (n:=201) Tryz.ntmps22 ?_;have S:Step M w0 M w0 aC:=(au _ _).cB (fun _ h=>h.elim) (fun _ h=>h.elim);refine aj (ae (ah rfl rfl (ah rfl rfl (ab (aj (aj (ae (ad rfl rfl (ad rfl rfl ?_)))))))));refine aX rfl rfl E56 (H2 (ns:=g.map fun p=>p.1.length) w0 hs hb (by rw[cF.1,nT]) (by rw[aH,nT]) (fun i b n h1 h2=>?_)) (fun r1 w1 hc=>?_)
 ·rw[bj]at h2
  cases l8:g[i]? with
  |none=>rw[l8]at h2;simp at h2
  |some p=>
   rw[l8]at h2;obtain rfl:p.1.length=n:=by simpa using h2
   obtain⟨ws,h3,_⟩:=cF.2 i b p h1 l8;rw[(hg p (az l8)).2]at h3;exact⟨ws,h3⟩
 obtain⟨rfl,e1⟩:=hc;obtain rfl:w0=w1:=e1.symm;refine aU (v':= .bool true) (congrArg Value.bool (decide_eq_true (by rw[List.map_map];apply List.map_congr_left;intro p _;show(p.1.map _).length=_;rw[aH]))) (lY rfl rfl (aU (v':= .bool false) rfl (ab (jD rfl (aT (aj (ae (ah rfl rfl (ah rfl rfl (ab (aj ?_)))))))))));refine ae (ah rfl rfl (ab (aj (aj (ae (ad rfl rfl (bN dW rfl hs rfl (aU (v':= .int .i64 (g.length:Int)) (by rw[nT]) (ad rfl rfl (ab (aY ?_)))))))))));refine dh (σ:=Nat×Value×Value×Value) (fun q=>[(0,v0),(1,v1),(4,.pointer none),(5,.int .i64 0),(6,q.2.2.1),(7,q.2.1),(8,q.2.2.2),(34,v0),(35,.int .i64 (g.length:Int)),(36,.int .i64 (q.1:Int))]) (fun q w=>q.1≤g.length∧∃M',Lt M' w∧Step M w0 M' w aC∧(((RT.se).ptr).sl).V M' w (g.map fun p=>lx (ew p.1)) v0∧(RT.D1.sl).V M' w bs v1∧iI M' w g bs∧Own ((RT.int .i64).sl) 37 M' w w0.heap.size q.2.1 ((jb g).take q.1)∧Own ((RT.int .i64).sl) 37 M' w w0.heap.size q.2.2.1 ((kH g).take q.1)∧Own (RT.str.sl) 57 M' w w0.heap.size q.2.2.2 ((g.map fun p=>keysOf p.1).take q.1)∧ix q.2.1 q.2.2.1) (fun q=>g.length-q.1) (0,.slice none 0 0,.slice none 0 0,.slice none 0 0) (.cons rfl (.cons rfl (.cons rfl (.cons rfl (.cons rfl (.cons rfl (.cons rfl (.cons rfl (.cons rfl (.cons rfl .nil)))))))))) ?_ ?_
 ·exact⟨bD _,_,hM,S,hs,hb,cF,dz _ _ _ _ _,dz _ _ _ _ _,dz _ _ _ _ _,ix.nil _⟩
 ·clear hM S hs hb cF;rintro⟨i,vl,vs,vk⟩ w ⟨hi,M1,hM,S,hs,hb,cF,fE,iB,hok,tU⟩;dsimp only at hi fE iB hok tU ⊢;refine aj (ae (cg rfl rfl rfl (ab (aj ?_))));refine bM rfl (fun c6=>?_) (fun c6=>?_)
  ·refine aT (aj (aY (aj (ae (ad rfl rfl ?_)))));obtain⟨p,l8⟩:∃p,g[i]? =some p:=⟨_,ar (by omega)⟩;have GB:=az l8;have J4:(g.map fun p=>lx (ew p.1))[i]? =some (lx (ew p.1)):=by rw[bj,l8];rfl
   obtain⟨RY,tS⟩:=hg p GB;have PV:=Ue p GB;refine cv (M:=M1) dW HY rfl rfl rfl hs (aq _ _) (by omega) (fun u7 x_ iw hu7=>?_);rw[ay]at iw;obtain rfl:=aF (J4.symm.trans iw);refine bU (M:=M1) eF rfl rfl rfl rfl rfl hu7 (aq _ _) (fun v7 Hb=>?_);have ky:=lX.1 Hb;obtain⟨a7,rfl⟩:=ky.fH;refine ah rfl rfl (ah rfl rfl (ab (aj (ae (ad rfl rfl (ad rfl rfl ?_))))));obtain⟨b8,QB⟩:∃b,bs[i]? =some b:=⟨_,ar (by rw[cF.1];omega)⟩;have kQ:=cF.1;refine cv (M:=M1) kR Lc rfl rfl rfl hb (aq _ _) (by omega) (fun u8 x_ iw hu8=>?_);rw[ay]at iw;obtain rfl:=aF (QB.symm.trans iw);refine bU (M:=M1) xe rfl rfl rfl rfl rfl hu8 (aq _ _) (fun vb tV=>?_);obtain rfl:=yZ.1 tV;have akk:=S.aL RX;refine aX rfl rfl E57 (FG hM (cF.2 i b8 p QB l8) (fun h=>h0 ((S.mem 1 (ak RX)).1 h)) ⟨etb,ftb,akk⟩) (fun r8 w8 hc=>?_);obtain⟨wX,s8⟩:=hc;replace hs:=hs.le s8.le;replace hb:=hb.le s8.le;replace cF:=cF.le s8.le;replace ky:=ky.le (by decide) s8.le;replace fE:=fE.aO s8;replace iB:=iB.aO s8;replace hok:=hok.aO s8;replace hM:=s8.lt hM;have:=S.size;replace S:=S.aB s8;refine ah rfl rfl (ab (aj (ae (ah rfl rfl (ab (aj (aj (ae (ad rfl rfl ?_)))))))));have Is:=wN p.2;refine bN ao rfl wX rfl (ad rfl rfl (ab (aY ?_)));refine dh (σ:=Nat×Value) (fun q=>[(0,v0),(1,v1),(4,.pointer none),(5,.int .i64 0),(6,vs),(7,vl),(8,vk),(34,v0),(35,.int .i64 (g.length:Int)),(36,.int .i64 (i:Int)),(9,.int .i64 (i:Int)),(10,.pointer (some a7)),(11,r8),(12,q.2),(46,r8),(47,.int .i64 ((gz p.2).length:Int)),(48,.int .i64 (q.1:Int))]) (fun q w=>q.1≤(gz p.2).length∧∃M',Lt M' w∧Step M w0 M' w aC∧(((RT.se).ptr).sl).V M' w (g.map fun p=>lx (ew p.1)) v0∧(RT.D1.sl).V M' w bs v1∧iI M' w g bs∧cO RT.se M' w (.pointer (some a7)) (lx (ew p.1))∧((RT.int .i64).sl).V M' w (gz p.2) r8∧Own ((RT.int .i64).sl) 37 M' w w0.heap.size vl ((jb g).take i)∧Own ((RT.int .i64).sl) 37 M' w w0.heap.size vs ((kH g).take i)∧Own (RT.str.sl) 57 M' w w0.heap.size vk ((g.map fun p=>keysOf p.1).take i)∧Own (RT.int .i64) 3 M' w w0.heap.size q.2 (((gz p.2).take q.1).map (tN p.1))) (fun q=>(gz p.2).length-q.1) (0,.slice none 0 0) (.cons rfl (.cons rfl (.cons rfl (.cons rfl (.cons rfl (.cons rfl (.cons rfl (.cons rfl (.cons rfl (.cons rfl (.cons rfl (.cons rfl (.cons rfl (.cons rfl (.cons rfl (.cons rfl (.cons rfl .nil))))))))))))))))) ?_ ?_
   ·exact⟨bD _,_,hM,S,hs,hb,cF,ky,wX,fE,iB,hok,dz _ _ _ _ _⟩
   ·clear hM S hs hb cF ky wX fE iB hok;rintro⟨k,vn⟩ w ⟨Gj,M2,hM,S,hs,hb,cF,ky,wX,fE,iB,hok,AI⟩;dsimp only at Gj AI ⊢;refine aj (ae (cg rfl rfl rfl (ab (aj ?_))));refine bM rfl (fun GV=>?_) (fun GV=>?_)
    ·refine aT (aj (aY (aj (ae ?_))));obtain⟨d,hk⟩:∃d,(gz p.2)[k]? =some d:=⟨_,ar (by omega)⟩;have hdm:=az hk;refine cv (M:=M2) ao I3 rfl rfl rfl wX (aq _ _) (by omega) (fun u12 x_ iw Xd=>?_);rw[ay]at iw;obtain rfl:=aF (hk.symm.trans iw);refine bU (M:=M2) ax rfl rfl rfl rfl rfl Xd (aq _ _) (fun v12 FY=>?_);obtain⟨rfl,_,_⟩:=yD.1 FY;refine ah rfl rfl (ab (ae (ad rfl rfl (ad rfl rfl (ad rfl rfl ?_)))));have Qh:=(Ia ky).2 _ (Pr hdm tS);refine aX rfl rfl E58 (BU _ ky) (fun r13 w13 hc=>?_);obtain⟨rfl,rfl⟩:=hc;refine aU (v':= .int .i64 (tN p.1 d)) (congrArg (Value.int .i64) (Pq hdm tS)) ?_;refine eu (A:=RT.int .i64) (hn:=by decide) (M:=M2) ao I3 (by decide) rfl rfl hM (gv (by omega)) (.inr ⟨rfl,rfl⟩) (fun fW Td zt fj=>?_);replace hs:=hs.le fj.le;replace hb:=hb.le fj.le;replace cF:=cF.le fj.le;replace ky:=ky.le (by decide) fj.le;replace wX:=wX.le fj.le;replace fE:=fE.aO fj;replace iB:=iB.aO fj;replace hok:=hok.aO fj;replace AI:=AI.aO fj;replace hM:=fj.lt hM;have:=S.size;replace S:=S.aB fj;refine cV (M:=M2) (base:=w0.heap.size) ao I3 rfl rfl rfl rfl AI zt (aq _ _) (by rw[aH,br,cK];omega) (by rw[aH,br,cK];omega) (S.size) (fun acf aoy aoz Xs rh=>?_);replace hs:=hs.le rh.le;replace hb:=hb.le rh.le;replace cF:=cF.le rh.le;replace ky:=ky.le (by decide) rh.le;replace wX:=wX.le rh.le;replace zt:=zt.le rh.le;replace fE:=fE.step rh (fun b h1 h2=>fE.dw AI (by decide) h1 h2);replace iB:=iB.step rh (fun b h1 h2=>iB.dw AI (by decide) h1 h2);replace hok:=hok.step rh (fun b h1 h2=>hok.dw AI (by decide) h1 h2)
     replace hM:=rh.lt hM;have:=S.size;replace S:=S.cX rh AI (aR _);replace AI:=Xs;refine ah rfl rfl (ab (ae (bG rfl rfl rfl (by omega) (ad rfl rfl (ab ?_)))));refine⟨rfl,(k+1,acf),(.cons rfl (.cons rfl (.cons rfl (.cons rfl (.cons rfl (.cons rfl (.cons rfl (.cons rfl (.cons rfl (.cons rfl (.cons rfl (.cons rfl (.cons rfl (.cons rfl (.cons rfl (.cons rfl (.cons rfl .nil))))))))))))))))),?_,?_⟩
     ·exact⟨by dsimp only;omega,_,hM,S,hs,hb,cF,ky,wX,fE,iB,hok,by dsimp only;rw[bI,hk,cJ,ec];exact AI⟩
     ·dsimp only;omega
    ·refine cH (ae ?_);rw[aW (by omega)]at AI;refine ad rfl rfl (ad rfl rfl ?_);refine eu (A:=((RT.int .i64).sl)) (hn:=by decide) (M:=M2) cQ jY (by decide) rfl rfl hM (wX) (.inr ⟨rfl,rfl⟩) (fun aoA aoB Xt ri=>?_);replace hs:=hs.le ri.le;replace hb:=hb.le ri.le;replace cF:=cF.le ri.le;replace ky:=ky.le (by decide) ri.le;replace wX:=wX.le ri.le;replace fE:=fE.aO ri;replace iB:=iB.aO ri;replace hok:=hok.aO ri;replace AI:=AI.aO ri;replace hM:=ri.lt hM;have:=S.size;replace S:=S.aB ri;refine l0 (M:=M2) (base:=w0.heap.size) cQ jY rfl rfl rfl rfl fE Xt (aq _ _) (by simp;omega) (by simp;omega) S.size (fun v15 w15 Xu xZ akl=>?_);generalize jF (M2) v15=M15 at Xu xZ;have Uf:ix v15 vs:=tU.grown akl (fun b hb=>(iB.base b hb).2);replace iB:=iB.step xZ (fun b hb h=>tU b h hb);replace hok:=hok.step xZ (fun b h1 h2=>hok.dw fE (by decide) h1 h2);replace AI:=AI.step xZ (fun b h1 h2=>AI.dw fE (by decide) h1 h2);replace hs:=hs.le xZ.le;replace hb:=hb.le xZ.le;replace cF:=cF.le xZ.le;replace ky:=ky.le (by decide) xZ.le;replace wX:=wX.le xZ.le;replace S:=S.cX xZ fE (aR _);replace hM:=xZ.lt hM;replace fE:=Xu;clear Xu;refine ad rfl rfl (ad rfl rfl ?_);have sJ:=AI.view (hn:=by decide) (by rw[aH];omega);replace hs:=hs.le (eO _ vn _);replace hb:=hb.le (eO _ vn _);replace cF:=cF.le (eO _ vn _);replace ky:=ky.le (by decide) (eO _ vn _);replace wX:=wX.le (eO _ vn _);replace fE:=fE.KD (v:=vn) (fun b hb=>by first|exact fE.dw AI (by decide) hb|exact Xv b hb);replace iB:=iB.KD (v:=vn) (fun b hb=>by first|exact iB.dw AI (by decide) hb|exact Ug b hb);replace hok:=hok.KD (v:=vn) (fun b hb=>by first|exact hok.dw AI (by decide) hb|exact Xw b hb);replace hM:Lt (rm M15 vn) _:=fun b hb=>hM b hb.1
     replace S:=S.freeze (v:=vn) (fun b hb=>by have:=(AI.base b hb).1;omega);clear AI;refine eu (A:=((RT.int .i64).sl)) (hn:=by decide) (M:=rm M15 vn) cQ jY (by decide) rfl rfl hM (sJ) (.inr ⟨rfl,rfl⟩) (fun OK abr Xx jH=>?_);replace hs:=hs.le jH.le;replace hb:=hb.le jH.le;replace cF:=cF.le jH.le;replace ky:=ky.le (by decide) jH.le;replace wX:=wX.le jH.le;replace sJ:=sJ.le jH.le;replace fE:=fE.aO jH;replace iB:=iB.aO jH;replace hok:=hok.aO jH;replace hM:=jH.lt hM;have:=S.size;replace S:=S.aB jH;refine l0 (M:=rm M15 vn) (base:=w0.heap.size) cQ jY rfl rfl rfl rfl iB Xx (aq _ _) (by simp;omega) (by simp;omega) S.size (fun v157 auy Pt Bb acg=>?_);generalize jF (rm M15 vn) v157=Xy at Pt Bb;have Xz:ix v157 v15:=Uf.symm.grown acg (fun b hb=>(fE.base b hb).2);replace fE:=fE.step Bb (fun b hb h=>Uf.symm b h hb);replace hok:=hok.step Bb (fun b h1 h2=>hok.dw iB (by decide) h1 h2);replace hs:=hs.le Bb.le;replace hb:=hb.le Bb.le;replace cF:=cF.le Bb.le;replace ky:=ky.le (by decide) Bb.le;replace wX:=wX.le Bb.le;replace S:=S.cX Bb iB (aR _);replace hM:=Bb.lt hM;replace iB:=Pt;clear Pt;refine ad rfl rfl (ad rfl rfl ?_);refine aX rfl rfl E38 (HO _ hM (by show _=(((ew p.1).2.2.2).map nV).length;rw[aH];show _=((keysOf p.1).map _).length;rw[aH];rfl) (by have:=Hz p GB;show(keysOf p.1).length≤_;omega) ky) (fun aoC aoD hc=>?_);obtain⟨XA,sT⟩:=hc;replace hs:=hs.le sT.le;replace hb:=hb.le sT.le;replace cF:=cF.le sT.le;replace ky:=ky.le (by decide) sT.le;replace wX:=wX.le sT.le;replace fE:=fE.aO sT;replace iB:=iB.aO sT;replace hok:=hok.aO sT;replace hM:=sT.lt hM;have:=S.size;replace S:=S.aB sT;refine eu (A:=(RT.str.sl)) (hn:=by decide) (M:=Xy) Tryz.underlying120 yo (by decide) rfl rfl hM (XA) (.inr ⟨rfl,rfl⟩) (fun akm akn RZ nh=>?_)
     replace hs:=hs.le nh.le;replace hb:=hb.le nh.le;replace cF:=cF.le nh.le;replace ky:=ky.le (by decide) nh.le;replace wX:=wX.le nh.le;replace XA:=XA.le nh.le;replace fE:=fE.aO nh;replace iB:=iB.aO nh;replace hok:=hok.aO nh;replace hM:=nh.lt hM;have:=S.size;replace S:=S.aB nh;refine l0 (M:=Xy) (base:=w0.heap.size) Tryz.underlying120 yo rfl rfl rfl rfl hok RZ (aq _ _) (by simp;omega) (by simp;omega) S.size (fun Uh aoE Ic sU ako=>?_);generalize jF (Xy) Uh=aoF at Ic sU;replace fE:=fE.step sU (fun b h1 h2=>fE.dw hok (by decide) h1 h2);replace iB:=iB.step sU (fun b h1 h2=>iB.dw hok (by decide) h1 h2);replace hs:=hs.le sU.le;replace hb:=hb.le sU.le;replace cF:=cF.le sU.le;replace ky:=ky.le (by decide) sU.le;replace wX:=wX.le sU.le;replace S:=S.cX sU hok (aR _);replace hM:=sU.lt hM;replace hok:=Ic;clear Ic;refine ah rfl rfl (ah rfl rfl (ah rfl rfl (ab (ae (bG rfl rfl rfl (by omega) (ad rfl rfl (ab ?_)))))));refine⟨rfl,(i+1,v15,v157,Uh),(.cons rfl (.cons rfl (.cons rfl (.cons rfl (.cons rfl (.cons rfl (.cons rfl (.cons rfl (.cons rfl (.cons rfl .nil)))))))))),?_,?_⟩
     ·refine⟨by dsimp only;omega,_,hM,S,hs,hb,cF,?_,?_,?_,Xz.symm⟩
      ·dsimp only;rw[bI,show(jb g)[i]? =some (gz p.2)from by unfold jb;rw[bj,l8];rfl];exact fE
      ·dsimp only;rw[bI,show(kH g)[i]? =some ((gz p.2).map (tN p.1))from by unfold kH;rw[bj,l8];rfl];exact iB
      ·dsimp only;rw[bI,bj,l8];exact hok
     ·dsimp only;omega
  ·refine cH (aj (ae ?_));rw[aW (by unfold jb;rw[aH];omega)]at fE;rw[aW (by unfold kH;rw[aH];omega)]at iB;rw[aW (by rw[aH];omega)]at hok;have F0:=tU.symm;refine ad rfl rfl ?_;have j7:=fE.view (hn:=by decide) (by unfold jb;rw[aH];omega);replace hs:=hs.le (eO _ vl _);replace hb:=hb.le (eO _ vl _);replace cF:=cF.le (eO _ vl _);replace iB:=iB.KD (v:=vl) (fun b hb=>by first|exact iB.dw fE (by decide) hb|exact F0 b hb);replace hok:=hok.KD (v:=vl) (fun b hb=>by first|exact hok.dw fE (by decide) hb|exact XB b hb);replace hM:Lt (rm M1 vl) _:=fun b hb=>hM b hb.1
   replace S:=S.freeze (v:=vl) (fun b hb=>by have:=(fE.base b hb).1;omega);clear fE;have jd:=iB.view (hn:=by decide) (by unfold kH;rw[aH];omega);replace hs:=hs.le (eO _ vs _);replace hb:=hb.le (eO _ vs _);replace cF:=cF.le (eO _ vs _);replace j7:=j7.le (eO _ vs _);replace hok:=hok.KD (v:=vs) (fun b hb=>by first|exact hok.dw iB (by decide) hb|exact Ui b hb);replace hM:Lt (rm (rm M1 vl) vs) _:=fun b hb=>hM b hb.1
   replace S:=S.freeze (v:=vs) (fun b hb=>by have:=(iB.base b hb).1;omega);clear iB;have jP:=hok.view (hn:=by decide) (by rw[aH];omega);replace hs:=hs.le (eO _ vk _);replace hb:=hb.le (eO _ vk _);replace cF:=cF.le (eO _ vk _);replace j7:=j7.le (eO _ vk _);replace jd:=jd.le (eO _ vk _);replace hM:Lt (rm (rm (rm M1 vl) vs) vk) _:=fun b hb=>hM b hb.1
   replace S:=S.freeze (v:=vk) (fun b hb=>by have:=(hok.base b hb).1;omega);clear hok
   have ach:∀l∈kH g,l.length≤10000:=fun l hl=>by
    obtain⟨p,hp,rfl⟩:=bV.1 hl;rw[aH];have:=wN p.2;have:=Ue p hp;have:=(hg p hp).2;omega
   have auz:(kH g).length=g.length:=by unfold kH;rw[aH]
   refine aX rfl rfl E59 (Aw hM jd (by omega) (fun l hl=>by have:=ach l hl;omega) (by have:=RV ach;have:10000*(kH g).length≤10000*1000:=Nat.mul_le_mul_left _ (by omega);omega)) (fun r17 Yr hc=>?_);obtain⟨M17,auB,CQ,vo,TE,rfl,R0⟩:=hc;replace hs:=hs.le CQ.le;replace hb:=hb.le CQ.le;replace cF:=cF.le CQ.le;replace j7:=j7.le CQ.le;replace jd:=jd.le CQ.le;replace jP:=jP.le CQ.le;replace hM:=CQ.lt hM;have:=S.size;replace S:=S.aB CQ;refine ad rfl rfl (bW rfl rfl rfl (bW rfl rfl rfl (ah rfl rfl (ah rfl rfl (ab (aj (aj (ae (ad rfl rfl (eM rfl rfl rfl (ab ?_)))))))))));refine bM rfl (fun c18=>?_) (fun c18=>?_)
   ·have ko:Fy g:=by
     rcases R0 with⟨h1,_,_⟩|⟨_,r,hr,h|⟨out,_,rfl,_⟩⟩
     ·exact absurd (Dg hg) h1
     ·rw[h.1]at hr;exact Ps hg hr
     ·exact absurd rfl c18
    obtain⟨rfl,rfl⟩:TE=5∧vo= .slice none 0 0:=by
     rcases R0 with⟨h1,_,_⟩|⟨_,r,hr,h|⟨out,_,rfl,_⟩⟩
     ·exact absurd (Dg hg) h1
     ·exact h.2
     ·exact absurd rfl c18
    refine aj (ae (ad rfl rfl (ah rfl rfl (ah rfl rfl (ab (aP ?_))))));exact fp rfl rfl rfl ⟨S.back,.inr ⟨ko,rfl⟩⟩
   ·obtain⟨out,aci,rfl,aoG,ho⟩:∃out,rX (kH g) (some out)∧TE=0∧(ed out).length≤1099511627776∧Own RT.fo 124 M17 Yr w.heap.size vo (ed out):=by
     rcases R0 with⟨h1,_,_⟩|⟨_,r,hr,h|⟨out,h1,h2,h3,h4⟩⟩
     ·exact absurd (Dg hg) h1
     ·exact absurd (by rw[h.2.1];decide) c18
     ·exact⟨out,h1▸hr,h2,h3,h4⟩
    clear R0;have Gd:=abx hg aci;have XC:(kI g (ed out)).length=(ed out).length:=by unfold kI;rw[aH]
    have hwz:=S.size
    have hEl:((kI g (ed out)).map (iW g)).length≤1000000:=by
     have h1:=Gd.Xq Ue;rw[aH];have:g.length*10000≤100*10000:=gA _ T4;omega
    refine aT (aj (aj (ae (ad rfl rfl (fS fa rfl ho rfl (ad rfl rfl (ab (aY ?_))))))));refine dh (σ:=Nat) (fun k=>[(0,v0),(7,vl),(8,vk),(15,vo),(81,vo),(82,.int .i64 ((ed out).length:Int)),(83,.int .i64 (k:Int))]) (fun k w=>k≤(ed out).length∧∃M',Lt M' w∧Step M w0 M' w aC∧(((RT.se).ptr).sl).V M' w (g.map fun p=>lx (ew p.1)) v0∧(RT.D1.sl).V M' w bs v1∧iI M' w g bs∧(((RT.int .i64).sl).sl).V M' w (jb g) vl∧(RT.str.sl.sl).V M' w (g.map fun p=>keysOf p.1) vk∧Own RT.fo 124 M' w w0.heap.size vo ((kI g (ed out)).take k++(ed out).drop k)) (fun k=>(ed out).length-k) 0 (.cons rfl (.cons rfl (.cons rfl (.cons rfl (.cons rfl (.cons rfl (.cons rfl .nil))))))) ?_ ?_
    ·exact⟨bD _,_,hM,S,hs,hb,cF,j7,jP,by rw[List.take_zero,fQ,List.drop_zero];exact ho.nS (by omega)⟩
    ·clear hM S hs hb cF j7 jP ho jd;rintro k w ⟨hk,M2,hM,S,hs,hb,cF,j7,jP,ho⟩;have kZ:=fun b hb=>(ho.base b hb).2
     refine aj (ae (cg rfl rfl rfl (ab (aj ?_))));refine bM rfl (fun c21=>?_) (fun c21=>?_)
     ·refine aT (aj (aY (aj (ae (ad rfl rfl ?_)))));obtain⟨x,hxk⟩:∃x,(ed out)[k]? =some x:=⟨_,ar (by omega)⟩;obtain⟨i,q,d,t,rfl,Ca,htq,akp⟩:=Xr hg aci hxk;have ru:((kI g (ed out)).take k++(ed out).drop k).length=(ed out).length:=by rw[a8,br,dC,XC];omega
      have hxx:((kI g (ed out)).take k++(ed out).drop k)[k]? =some ((i:Int),(q:Int)):=by rw[jI (by rw[br];omega),br,yz (by omega),Nat.sub_self,List.getElem?_drop];exact hxk
      obtain⟨go,gc,auD,fy,hgb,hgM,ZA⟩:=ho.we (ho.CW (by omega));rw[ru]at fy;subst fy;refine xd (size:=2) fa kG rfl rfl rfl (by omega) (q:=k*2) (by omega) ?_;refine cT (M:=fun b=>M2 b∧b≠go) (A:=RT.fo) cA rfl kG (by decide) rfl rfl rfl (ho.ptr hxx) (aq _ _) (fun v22 akr=>?_);obtain⟨rfl,ra,rb⟩:=rI akr;refine dU M2 kG rfl (fun Jm ack aoI aoJ rj vw=>?_);obtain⟨rq,Jn⟩:∃M',M'=ins M2 Jm:=⟨_,rfl⟩;rw[←Jn]at vw;have rM:rq Jm:=by rw[Jn];exact .inl rfl
      change ack.heap[Jm]? =some (.cells #[.int .i64 0,.int .i64 0] _ _)at rj;replace hs:=hs.le vw.le;replace hb:=hb.le vw.le;replace cF:=cF.le vw.le;replace j7:=j7.le vw.le;replace jP:=jP.le vw.le;replace ho:=ho.aO vw;replace hM:=vw.lt hM;have:=S.size;replace S:=S.aB vw;refine ah rfl rfl ?_;refine dI (M:=rq) (vs:=[.int .i64 (i:Int),.int .i64 (q:Int)]) kG rfl rfl (by intro u hu;simp only[ca,dR,or_false]at hu;rcases hu with rfl|rfl<;>rfl) rfl rfl rj rM (fun ws gs ss=>?_);have:=ak rj;replace rM:=(ss.mem _ this).2 rM;replace hs:=hs.le ss.le;replace hb:=hb.le ss.le;replace cF:=cF.le ss.le;replace j7:=j7.le ss.le;replace jP:=jP.le ss.le;replace ho:=ho.step ss (fun b hb hk=>by have hk:b=Jm:=hk;have:=kZ b hb;omega);replace hM:=ss.lt hM;have:=S.size;replace S:=S.trans ss (fun k hk h=>by have h:_=_:=h;subst h;first|(exfalso;omega)|(show _≤_;omega)|exact⟨by first|omega|assumption,(S.mem _ hk).1 ((ss.mem _ (ak rj)).1 rM)⟩|exact .inl rfl|exact .inr rfl|exact .inr (.inl rfl)|exact .inr (.inr rfl)|exact .inr (.inr (.inl rfl))|exact rfl);have Pu:=gs;clear rj;have rj:=Pu;clear Pu;refine ab ?_;apply T.LD 13 mixed rfl rfl rfl rfl rfl;intro auE aks;have Bc:=aks rq;have:=ak rj;replace rM:=(Bc.mem _ this).2 rM;replace rj:=Bc.aL rj;replace hs:=hs.le Bc.le;replace hb:=hb.le Bc.le;replace cF:=cF.le Bc.le;replace j7:=j7.le Bc.le;replace jP:=jP.le Bc.le;replace ho:=ho.aO Bc;replace hM:=Bc.lt hM;have:=S.size;replace S:=S.aB Bc;refine ad rfl rfl ?_;refine ab ⟨rfl,rfl,rfl,?_⟩;refine ad rfl rfl ?_;refine ab ⟨rfl,rfl,rfl,?_⟩;refine ad rfl rfl ?_;refine ab ⟨rfl,rfl,rfl,?_⟩;refine yg (len:=2) cA I3 rfl rfl rfl (by omega) ?_;refine ab ⟨rfl,rfl,rfl,?_⟩;refine aN ax rfl rfl rfl rj rfl (aU (v':= .int .i64 (i:Int)) rfl ?_)
      refine ab ⟨rfl,rfl,rfl,?_⟩;have Jy:(jb g).length=g.length:=by unfold jb;rw[aH]
      have ou:=(an.1 Ca).1;refine cv (M:=rq) cQ jY rfl rfl rfl j7 (aq _ _) (by omega) (fun u23 x_ iw akt=>?_);rw[ay]at iw;obtain rfl:=aF (Ca.symm.trans iw);refine ab ⟨rfl,rfl,rfl,?_⟩;refine bU (M:=rq) ao rfl rfl rfl rfl rfl akt (aq _ _) (fun v23 aku=>?_);refine ab ⟨rfl,rfl,rfl,?_⟩;refine yg (len:=2) cA I3 rfl rfl rfl (by omega) ?_;refine ab ⟨rfl,rfl,rfl,?_⟩;refine aN ax rfl rfl rfl rj rfl (aU (v':= .int .i64 (q:Int)) rfl ?_);refine ab ⟨rfl,rfl,rfl,?_⟩;have hql:=(an.1 htq).1;refine cv (M:=rq) ao I3 rfl rfl rfl aku (aq _ _) (by omega) (fun auF x_ iw acm=>?_);rw[ay]at iw;obtain rfl:=aF (htq.symm.trans iw);refine ab ⟨rfl,rfl,rfl,?_⟩;refine bU (M:=rq) ax rfl rfl rfl rfl rfl acm (aq _ _) (fun aoK XD=>?_);obtain⟨rfl,hrd⟩:=yD.1 XD;refine ab ⟨rfl,rfl,rfl,?_⟩;refine xd (size:=2) fa kG rfl rfl rfl (by omega) (q:=k*2) (by omega) ?_;refine ab ⟨rfl,rfl,rfl,?_⟩;refine Rg.RG (o:=k*2) (len:=2) cA I3 rfl rfl rfl (by omega) ?_;refine ab ⟨rfl,rfl,rfl,?_⟩;refine eD ?_;obtain⟨cur,Ft,RA,hfo,Ux,⟨u0,dx,Ss⟩,acn⟩:=ho.abC hxx;refine cw (M:=rq) I3 rfl rfl Ft dx rfl RA (fun aoL aco xI=>?_);have fV:=acn _ _ _ hrd aco ((xI.mem _ (ak Ft)).2 RA);replace hs:=hs.le xI.le;replace hb:=hb.le xI.le;replace cF:=cF.le xI.le;replace j7:=j7.le xI.le;replace jP:=jP.le xI.le;replace S:=S.cf xI (fun b hb=>by have hb:b=go:=hb;omega);replace hM:=xI.lt hM;replace ho:=fV;clear fV;refine ab (ae (bG rfl rfl rfl (by omega) (ad rfl rfl (ab ?_))));refine⟨rfl,k+1,(.cons rfl (.cons rfl (.cons rfl (.cons rfl (.cons rfl (.cons rfl (.cons rfl .nil))))))),?_,?_⟩
      ·refine⟨by omega,_,hM,S,hs,hb,cF,j7,jP,?_⟩;rw[RW XC hxx akp]at ho;exact ho
      ·omega
     ·refine cH (aj (ae ?_));refine dU M2 A4 rfl (fun fu acp aoM aoN Pv vz=>?_);obtain⟨Ie,Jo⟩:∃M',M'=ins M2 fu:=⟨_,rfl⟩;rw[←Jo]at vz;have Dh:Ie fu:=by rw[Jo];exact .inl rfl
      change acp.heap[fu]? =some (.cells #[.slice none 0 0,.slice none 0 0,.slice none 0 0,.slice none 0 0] _ _)at Pv;replace hs:=hs.le vz.le;replace hb:=hb.le vz.le;replace cF:=cF.le vz.le;replace j7:=j7.le vz.le;replace jP:=jP.le vz.le;replace ho:=ho.aO vz;replace hM:=vz.lt hM;have:=S.size;replace S:=S.aB vz;refine ab (aj (aj (ae ?_)));have akv:(kI g (ed out)).take k++(ed out).drop k=(kI g (ed out)):=by rw[aW (by omega),gX (by omega),fT]
      rw[akv]at ho;refine ad rfl rfl ?_;have fy:=ho.view (hn:=by decide) (by rw[XC];omega);replace Dh:rm Ie vo _:=⟨Dh,by first|exact ho.eS Pv (by decide)|(intro h;have:=(ho.base _ h).1;omega)⟩;replace hs:=hs.le (eO _ vo _);replace hb:=hb.le (eO _ vo _);replace cF:=cF.le (eO _ vo _);replace j7:=j7.le (eO _ vo _);replace jP:=jP.le (eO _ vo _);replace hM:Lt (rm Ie vo) _:=fun b hb=>hM b hb.1
      replace S:=S.freeze (v:=vo) (fun b hb=>by have:=(ho.base b hb).1;omega);clear ho;refine bN fa rfl fy rfl (ad rfl rfl (ab (aY ?_)));refine dh (σ:=Nat×Value×Value) (fun q=>[(0,v0),(8,vk),(15,vo),(19,.pointer (some ⟨fu,0,none⟩)),(102,vo),(103,.int .i64 ((kI g (ed out)).length:Int)),(104,.int .i64 (q.1:Int))]) (fun q w=>q.1≤(kI g (ed out)).length∧∃M',Lt M' w∧Step M w0 M' w aC∧(((RT.se).ptr).sl).V M' w (g.map fun p=>lx (ew p.1)) v0∧(RT.D1.sl).V M' w bs v1∧iI M' w g bs∧(RT.str.sl.sl).V M' w (g.map fun p=>keysOf p.1) vk∧(RT.fo.sl).V M' w (kI g (ed out)) vo∧w.heap[fu]? =some (.cells #[q.2.1,q.2.2,.slice none 0 0,.slice none 0 0] 72 (0,0))∧M' fu∧Own (RT.int .i64) 3 M' w w0.heap.size q.2.1 ((((kI g (ed out)).map (iW g)).take q.1).map (·.1.1))∧Own (RT.int .i64) 3 M' w w0.heap.size q.2.2 ((((kI g (ed out)).map (iW g)).take q.1).map (·.2))∧ix q.2.1 q.2.2) (fun q=>(kI g (ed out)).length-q.1) (0,.slice none 0 0,.slice none 0 0) (.cons rfl (.cons rfl (.cons rfl (.cons rfl (.cons rfl (.cons rfl (.cons rfl .nil))))))) ?_ ?_
      ·exact⟨bD _,_,hM,S,hs,hb,cF,jP,fy,Pv,Dh,dz _ _ _ _ _,dz _ _ _ _ _,ix.nil _⟩
      ·clear hM S hs hb cF j7 jP fy;rintro⟨k,vi,vq⟩ w ⟨hk,M3,hM,S,hs,hb,cF,jP,fy,gp,eP,eX,hY,tU⟩;dsimp only at hk gp eX hY tU ⊢;have hbz:=ak gp;have vB:=fun b hb=>(eX.base b hb).2
       have vC:=fun b hb=>(hY.base b hb).2
       refine aj (ae (cg rfl rfl rfl (ab (aj ?_))));refine bM rfl (fun c27=>?_) (fun c27=>?_)
       ·refine aT (aj (aY (aj (ae ?_))));obtain⟨x,hxk⟩:∃x,(kI g (ed out))[k]? =some x:=⟨_,ar (by omega)⟩;obtain⟨i,d,e,rfl,hek,L,a,l8,hld,had⟩:=Gd.at_ k x hxk;have J4:(g.map fun p=>lx (ew p.1))[i]? =some (lx (ew L)):=by rw[bj,l8];rfl
        have ou:=(an.1 l8).1;refine cv (M:=M3) fa kG rfl rfl rfl fy (aq _ _) (by omega) (fun u28 x_ iw akw=>?_);rw[ay]at iw;obtain rfl:=aF (hxk.symm.trans iw);refine cT (M:=M3) (A:=RT.fo) cA rfl kG (by decide) rfl rfl rfl akw (aq _ _) (fun v28 akx=>?_);obtain⟨rfl,ra,rb⟩:=rI akx;refine dU M3 kG rfl (fun vD acq aoP aoQ fJ qh=>?_);obtain⟨od,Jp⟩:∃M',M'=ins M3 vD:=⟨_,rfl⟩;rw[←Jp]at qh;have gP:od vD:=by rw[Jp];exact .inl rfl
        change acq.heap[vD]? =some (.cells #[.int .i64 0,.int .i64 0] _ _)at fJ;have:=ak gp;replace eP:=(qh.mem _ this).2 eP;replace gp:=qh.aL gp;replace hs:=hs.le qh.le;replace hb:=hb.le qh.le;replace cF:=cF.le qh.le;replace jP:=jP.le qh.le;replace fy:=fy.le qh.le;replace eX:=eX.aO qh;replace hY:=hY.aO qh;replace hM:=qh.lt hM;have:=S.size;replace S:=S.aB qh;refine dI (M:=od) (vs:=[.int .i64 (i:Int),.int .i64 (d:Int)]) kG rfl rfl (by intro u hu;simp only[ca,dR,or_false]at hu;rcases hu with rfl|rfl<;>rfl) rfl rfl fJ gP (fun ws gs ss=>?_);have:=ak gp;replace eP:=(ss.mem _ this).2 eP;replace gp:=ss.keep gp (fun hk=>by have hk:_=_:=hk;omega);have:=ak fJ;replace gP:=(ss.mem _ this).2 gP;replace hs:=hs.le ss.le;replace hb:=hb.le ss.le;replace cF:=cF.le ss.le;replace jP:=jP.le ss.le;replace fy:=fy.le ss.le;replace eX:=eX.step ss (fun c hc h=>by first|exact eX.eS gp (by decide) ((show c=fu from h)▸hc)|(have h:c=vD:=h;have:=vB c hc;omega));replace hY:=hY.step ss (fun c hc h=>by first|exact hY.eS gp (by decide) ((show c=fu from h)▸hc)|(have h:c=vD:=h;have:=vC c hc;omega));replace hM:=ss.lt hM;have:=S.size;replace S:=S.trans ss (fun k hk h=>by have h:_=_:=h;subst h;first|(exfalso;omega)|(show _≤_;omega)|exact⟨by first|omega|assumption,(S.mem _ hk).1 ((ss.mem _ (ak fJ)).1 gP)⟩|exact .inl rfl|exact .inr rfl|exact .inr (.inl rfl)|exact .inr (.inr rfl)|exact .inr (.inr (.inl rfl))|exact rfl);have Pw:=gs;clear fJ;have fJ:=Pw;clear Pw;refine ab ?_;apply T.Xp 24 [0,1,2,3,4,5,6,7,8,12,13,14,15,16,17,18,19,20,24,9,10,11,21,22,23,25,26,27] 19 [0,1,9,10,11,12,13,14,15,16,17,18] 6 (fun b=>fD vi b∨fD vq b) mixed
        ·simp+decide only[loose,Ay,yP,tu,eQ,jr,jm,jn,fe,cY,iu,qt,cond_true,cond_false,Nat.reduceBEq,Nat.reduceAdd,beq_self_eq_true];rfl
        ·rfl
        ·rfl
        ·rfl
        ·rfl
        ·rfl
        ·rfl
        ·rfl
        intro aky akz;have wY:=akz od;have:=ak gp;replace eP:=(wY.mem _ this).2 eP;replace gp:=wY.aL gp;have:=ak fJ;replace gP:=(wY.mem _ this).2 gP;replace fJ:=wY.aL fJ;replace hs:=hs.le wY.le;replace hb:=hb.le wY.le;replace cF:=cF.le wY.le;replace jP:=jP.le wY.le;replace fy:=fy.le wY.le;replace eX:=eX.aO wY;replace hY:=hY.aO wY;replace hM:=wY.lt hM;have:=S.size;replace S:=S.aB wY;refine bJ (o':=0) bu rfl rfl jY (by decide) rfl rfl ?_;refine ab ⟨rfl,rfl,rfl,?_⟩;refine aN ao rfl rfl rfl gp rfl (aU (v':=vi) rfl ?_);refine ab ⟨rfl,rfl,rfl,?_⟩;refine ad rfl rfl ?_;refine ab ⟨rfl,rfl,rfl,?_⟩;refine yg (len:=2) cA I3 rfl rfl rfl (by omega) ?_;refine ab ⟨rfl,rfl,rfl,?_⟩;refine aN ax rfl rfl rfl fJ rfl (aU (v':= .int .i64 (i:Int)) rfl ?_);refine ab ⟨rfl,rfl,rfl,?_⟩;refine cv (M:=od) dW HY rfl rfl rfl hs (aq _ _) (by omega) (fun auI x_ iw acr=>?_);rw[ay]at iw;obtain rfl:=aF (J4.symm.trans iw);refine ab ⟨rfl,rfl,rfl,?_⟩;refine bU (M:=od) eF rfl rfl rfl rfl rfl acr (aq _ _) (fun auJ acs=>?_);have F1:=lX.1 acs;obtain⟨auK,rfl⟩:=F1.fH;refine ab ⟨rfl,rfl,rfl,?_⟩;refine yg (len:=2) cA I3 rfl rfl rfl (by omega) ?_;refine ab ⟨rfl,rfl,rfl,?_⟩;refine aN ax rfl rfl rfl fJ rfl (aU (v':= .int .i64 (d:Int)) rfl ?_);refine ab ⟨rfl,rfl,rfl,?_⟩;refine bJ (o':=1) bu rfl rfl jY (by decide) rfl rfl ?_;refine ab ⟨rfl,rfl,rfl,?_⟩;refine aN ao rfl rfl rfl gp rfl (aU (v':=vq) rfl ?_);refine ab ⟨rfl,rfl,rfl,?_⟩;refine ad rfl rfl ?_;refine ab ⟨rfl,rfl,rfl,?_⟩;refine yg (len:=2) cA I3 rfl rfl rfl (by omega) ?_;refine ab ⟨rfl,rfl,rfl,?_⟩
        refine aN ax rfl rfl rfl fJ rfl (aU (v':= .int .i64 (i:Int)) rfl ?_);refine ab ⟨rfl,rfl,rfl,?_⟩;refine cv (M:=od) dW HY rfl rfl rfl hs (aq _ _) (by omega) (fun aoR x_ iw Px=>?_);rw[ay]at iw;obtain rfl:=aF (J4.symm.trans iw);refine ab ⟨rfl,rfl,rfl,?_⟩;refine bU (M:=od) eF rfl rfl rfl rfl rfl Px (aq _ _) (fun aoS XE=>?_);have pV:=lX.1 XE;obtain⟨aoT,rfl⟩:=pV.fH;refine ab ⟨rfl,rfl,rfl,?_⟩;refine yg (len:=2) cA I3 rfl rfl rfl (by omega) ?_;refine ab ⟨rfl,rfl,rfl,?_⟩;refine aN ax rfl rfl rfl fJ rfl (aU (v':= .int .i64 (d:Int)) rfl ?_);refine ab ⟨rfl,rfl,rfl,?_⟩;refine bJ (o':=0) bu rfl rfl jY (by decide) rfl rfl ?_;refine ab ⟨rfl,rfl,rfl,?_⟩;refine eD ?_;obtain⟨bb,oo,cs_,ee_,fr_,rfl,lC,hnM⟩:=Px.float;refine⟨ik ⟨iJ bu rfl jY (by decide),⟨ey rfl gp (fun h=>h.elim (eX.eS gp (by decide)) (hY.eS gp (by decide))),⟨iJ bu rfl jY (by decide),⟨ey rfl gp (fun h=>h.elim (eX.eS gp (by decide)) (hY.eS gp (by decide))),⟨eW,⟨bZ.idx,⟨ey rfl fJ (fun h=>h.elim (fun h=>by have:=vB _ h;omega) (fun h=>by have:=vC _ h;omega)),⟨bZ.idx,⟨ey rfl lC (fun h=>hnM (h.elim (eX.mut_ _) (hY.mut_ _))),⟨bZ.idx,⟨ey rfl fJ (fun h=>h.elim (fun h=>by have:=vB _ h;omega) (fun h=>by have:=vC _ h;omega)),⟨iJ bu rfl jY (by decide),trivial⟩⟩⟩⟩⟩⟩⟩⟩⟩⟩⟩⟩,?_⟩;have kp:=jl (fun b=>fD vi b∨fD vq b) aky;have akA:=(Ia F1).1;refine aX rfl rfl E60 (OA _ F1) (fun auO auP hc=>?_);obtain⟨rfl,rfl⟩:=hc;refine aU (v':= .int .i64 e.1.1) (congrArg (Value.int .i64) (Oz (by show(L.map _)[d]? =_;rw[bj,hld];rfl))) ?_;refine(fun(kp:eJ _ _ _)=>ab ⟨rfl,rfl,fun _=>kp,?_⟩) (by first|exact kp|exact kp.ry (by assumption)|exact kp.goN (by assumption)|exact kp.go (by assumption) (fun _ _ h=>by first|exact h|exact h.elim))
        refine eu (A:=RT.int .i64) (hn:=by decide) (M:=od) ao I3 (by decide) rfl rfl hM (gv (akA _ (by show _∈L.map _;exact bV.2 ⟨e,az hld,rfl⟩))) (.inr ⟨rfl,rfl⟩) (fun akB akC R1 kd=>?_);have:=ak gp;replace eP:=(kd.mem _ this).2 eP;replace gp:=kd.aL gp;have:=ak fJ;replace gP:=(kd.mem _ this).2 gP;replace fJ:=kd.aL fJ;replace hs:=hs.le kd.le;replace hb:=hb.le kd.le;replace cF:=cF.le kd.le;replace jP:=jP.le kd.le;replace fy:=fy.le kd.le;replace F1:=F1.le (by decide) kd.le;replace pV:=pV.le (by decide) kd.le;replace eX:=eX.aO kd;replace hY:=hY.aO kd;replace hM:=kd.lt hM;have:=S.size;replace S:=S.aB kd;refine(fun(kp:eJ _ _ _)=>ab ⟨rfl,rfl,fun _=>kp,?_⟩) (by first|exact kp|exact kp.ry (by assumption)|exact kp.goN (by assumption)|exact kp.go (by assumption) (fun _ _ h=>by first|exact h|exact h.elim));refine l0 (M:=od) (base:=w0.heap.size) ao I3 rfl rfl rfl rfl eX R1 (aq _ _) (by simp;omega) (by simp;omega) S.size (fun B6 aoV Ig ni XF=>?_);generalize jF (od) B6=Py at Ig ni;have Jq:ix B6 vq:=tU.grown XF (fun b hb=>(hY.base b hb).2);replace hY:=hY.step ni (fun b hb h=>tU b h hb);replace eP:=(ni.mem _ (ak gp)).2 eP;replace gp:=ni.keep gp (fun h=>by first|exact eX.eS gp (by decide) h|(have:=(eX.base _ h).2;omega));replace gP:=(ni.mem _ (ak fJ)).2 gP;replace fJ:=ni.keep fJ (fun h=>by first|exact eX.eS fJ (by decide) h|(have:=(eX.base _ h).2;omega));replace hs:=hs.le ni.le;replace hb:=hb.le ni.le;replace cF:=cF.le ni.le;replace jP:=jP.le ni.le;replace fy:=fy.le ni.le;replace pV:=pV.le (by decide) ni.le;replace S:=S.cX ni eX (aR _);replace hM:=ni.lt hM;replace eX:=Ig
        clear Ig;refine(fun(kp:eJ _ _ _)=>ab ⟨rfl,rfl,fun _=>kp,?_⟩) (kp.go ni (fun b hb h=> .inl h));have akD:=(Ia pV).2;refine aX rfl rfl E58 (BU _ pV) (fun aoW aoX hc=>?_);obtain⟨rfl,rfl⟩:=hc;refine aU (v':= .int .i64 e.2) (congrArg (Value.int .i64) (Oz (by show(L.map _)[d]? =_;rw[bj,hld];rfl))) ?_;refine(fun(kp:eJ _ _ _)=>ab ⟨rfl,rfl,fun _=>kp,?_⟩) (by first|exact kp|exact kp.ry (by assumption)|exact kp.goN (by assumption)|exact kp.go (by assumption) (fun _ _ h=>by first|exact h|exact h.elim));refine eu (A:=RT.int .i64) (hn:=by decide) (M:=Py) ao I3 (by decide) rfl rfl hM (gv (akD _ (by show _∈L.map _;exact bV.2 ⟨e,az hld,rfl⟩))) (.inr ⟨rfl,rfl⟩) (fun akE akF R2 kK=>?_);have:=ak gp;replace eP:=(kK.mem _ this).2 eP;replace gp:=kK.aL gp;have:=ak fJ;replace gP:=(kK.mem _ this).2 gP;replace fJ:=kK.aL fJ;replace hs:=hs.le kK.le;replace hb:=hb.le kK.le;replace cF:=cF.le kK.le;replace jP:=jP.le kK.le;replace fy:=fy.le kK.le;replace pV:=pV.le (by decide) kK.le;replace eX:=eX.aO kK;replace hY:=hY.aO kK;replace hM:=kK.lt hM;have:=S.size;replace S:=S.aB kK;refine(fun(kp:eJ _ _ _)=>ab ⟨rfl,rfl,fun _=>kp,?_⟩) (by first|exact kp|exact kp.ry (by assumption)|exact kp.goN (by assumption)|exact kp.go (by assumption) (fun _ _ h=>by first|exact h|exact h.elim));refine l0 (M:=Py) (base:=w0.heap.size) ao I3 rfl rfl rfl rfl hY R2 (aq _ _) (by simp;omega) (by simp;omega) S.size (fun Jr aoY Ih nN XG=>?_);generalize jF (Py) Jr=Uj at Ih nN;have R3:ix Jr B6:=Jq.symm.grown XG (fun b hb=>(eX.base b hb).2);replace eX:=eX.step nN (fun b hb h=>Jq.symm b h hb);replace eP:=(nN.mem _ (ak gp)).2 eP;replace gp:=nN.keep gp (fun h=>by first|exact hY.eS gp (by decide) h|(have:=(hY.base _ h).2;omega))
        replace gP:=(nN.mem _ (ak fJ)).2 gP;replace fJ:=nN.keep fJ (fun h=>by first|exact hY.eS fJ (by decide) h|(have:=(hY.base _ h).2;omega));replace hs:=hs.le nN.le;replace hb:=hb.le nN.le;replace cF:=cF.le nN.le;replace jP:=jP.le nN.le;replace fy:=fy.le nN.le;replace S:=S.cX nN hY (aR _);replace hM:=nN.lt hM;replace hY:=Ih;clear Ih;refine(fun(kp:eJ _ _ _)=>ab ⟨rfl,rfl,fun _=>kp,?_⟩) (kp.go nN (fun b hb h=> .inr h));refine cw (M:=Uj) jY rfl rfl gp rfl (by obtain⟨_,_,he,_⟩:=eX.isSlice;rw[he];rfl) eP (fun XH Pz lp=>?_);change XH.heap[_]? =some (Obj.cells #[B6,vq,.slice none 0 0,.slice none 0 0] _ _)at Pz;have:=ak gp;replace eP:=(lp.mem _ this).2 eP;have:=ak fJ;replace gP:=(lp.mem _ this).2 gP;replace fJ:=lp.keep fJ (fun hk=>by have hk:_=_:=hk;omega);replace hs:=hs.le lp.le;replace hb:=hb.le lp.le;replace cF:=cF.le lp.le;replace jP:=jP.le lp.le;replace fy:=fy.le lp.le;replace eX:=eX.step lp (fun c hc h=>by first|exact eX.eS gp (by decide) ((show c=fu from h)▸hc)|(have h:c=vD:=h;have:=vB c hc;omega));replace hY:=hY.step lp (fun c hc h=>by first|exact hY.eS gp (by decide) ((show c=fu from h)▸hc)|(have h:c=vD:=h;have:=vC c hc;omega));replace hM:=lp.lt hM;have:=S.size;replace S:=S.trans lp (fun k hk h=>by have h:_=_:=h;subst h;first|(exfalso;omega)|(show _≤_;omega)|exact⟨by first|omega|assumption,(S.mem _ hk).1 ((lp.mem _ (ak gp)).1 eP)⟩|exact .inl rfl|exact .inr rfl|exact .inr (.inl rfl)|exact .inr (.inr rfl)|exact .inr (.inr (.inl rfl))|exact rfl);have gp_:=Pz;clear gp;have gp:=gp_;clear gp_;refine ab ⟨rfl,rfl,fun h=>absurd rfl h,?_⟩;refine bJ (o':=1) bu rfl rfl jY (by decide) rfl rfl ?_;refine ab ⟨rfl,rfl,fun h=>absurd rfl h,?_⟩;refine cw (M:=Uj) jY rfl rfl gp rfl (by obtain⟨_,_,he,_⟩:=hY.isSlice;rw[he];rfl) eP (fun XI PA lr=>?_)
        change XI.heap[_]? =some (Obj.cells #[B6,Jr,.slice none 0 0,.slice none 0 0] _ _)at PA;have:=ak gp;replace eP:=(lr.mem _ this).2 eP;have:=ak fJ;replace gP:=(lr.mem _ this).2 gP;replace fJ:=lr.keep fJ (fun hk=>by have hk:_=_:=hk;omega);replace hs:=hs.le lr.le;replace hb:=hb.le lr.le;replace cF:=cF.le lr.le;replace jP:=jP.le lr.le;replace fy:=fy.le lr.le;replace eX:=eX.step lr (fun c hc h=>by first|exact eX.eS gp (by decide) ((show c=fu from h)▸hc)|(have h:c=vD:=h;have:=vB c hc;omega));replace hY:=hY.step lr (fun c hc h=>by first|exact hY.eS gp (by decide) ((show c=fu from h)▸hc)|(have h:c=vD:=h;have:=vC c hc;omega));replace hM:=lr.lt hM;have:=S.size;replace S:=S.trans lr (fun k hk h=>by have h:_=_:=h;subst h;first|(exfalso;omega)|(show _≤_;omega)|exact⟨by first|omega|assumption,(S.mem _ hk).1 ((lr.mem _ (ak gp)).1 eP)⟩|exact .inl rfl|exact .inr rfl|exact .inr (.inl rfl)|exact .inr (.inr rfl)|exact .inr (.inr (.inl rfl))|exact rfl);have gp_:=PA;clear gp;have gp:=gp_;clear gp_;refine ab ⟨rfl,rfl,fun h=>absurd rfl h,?_⟩;refine lJ (ae (bG rfl rfl rfl (by omega) (ad rfl rfl (ab ?_))));refine⟨rfl,(k+1,B6,Jr),(.cons rfl (.cons rfl (.cons rfl (.cons rfl (.cons rfl (.cons rfl (.cons rfl .nil))))))),?_,?_⟩
        ·refine⟨by dsimp only;omega,_,hM,S,hs,hb,cF,jP,fy,gp,eP,?_,?_,R3.symm⟩
         ·dsimp only;rw[bI,hek,cJ,ec];exact eX
         ·dsimp only;rw[bI,hek,cJ,ec];exact hY
        ·dsimp only;omega
       ·refine cH (aj (ae ?_));have DF:((kI g (ed out)).map (iW g)).length=(kI g (ed out)).length:=by rw[aH]
        rw[aW (by omega)]at eX hY;refine ad rfl rfl (bN dW rfl hs rfl (aU (v':= .int .i64 (g.length:Int)) (by rw[nT]) ?_));refine Rg.mk0 (len:=g.length) (M3) cQ jY rfl rfl rfl rfl (by omega) (by omega) (fun Ii wto zto auR gto Lh=>?_);obtain⟨Mto,acv⟩:∃M',M'=ins (M3) Ii:=⟨_,rfl⟩;rw[←acv]at Lh
        have B7:Own ((RT.int .i64).sl) 37 Mto wto w0.heap.size (.slice (some ⟨Ii,0,none⟩) g.length g.length) (List.replicate g.length []):=by
         refine⟨⟨List.replicate g.length (.slice none 0 0),⟨by rw[ch,ch];exact(eU _).symm,.inr ⟨Ii,g.length,_,by rw[ch],by have:=S.size;omega,gto,by rw[ch];exact aR _,by unfold maxLen;omega,by rw[List.size_toArray,ch];exact(eU _).symm,by rw[ch];show(List.replicate _ _).toArray.toList.take (g.length*1)=_;rw[List.toList_toArray,eU,aW (by rw[ch];exact aR _)]⟩⟩,B5 _⟩,fun b hb=>by cases hb;rw[acv];exact .inl rfl⟩
        clear gto;have:=ak gp;replace eP:=(Lh.mem _ this).2 eP;replace gp:=Lh.aL gp;replace hs:=hs.le Lh.le;replace hb:=hb.le Lh.le;replace cF:=cF.le Lh.le;replace jP:=jP.le Lh.le;replace fy:=fy.le Lh.le;replace eX:=eX.aO Lh;replace hY:=hY.aO Lh;replace hM:=Lh.lt hM;have:=S.size;replace S:=S.aB Lh;refine ah rfl rfl (ab (aj (aj (ae (ad rfl rfl (bN dW rfl hs rfl (aU (v':= .int .i64 (g.length:Int)) (by rw[nT]) (ad rfl rfl (ab (aY ?_))))))))));refine dh (σ:=Nat) (fun i=>[(0,v0),(8,vk),(15,vo),(19,.pointer (some ⟨fu,0,none⟩)),(22,.slice (some ⟨Ii,0,none⟩) g.length g.length),(138,v0),(139,.int .i64 (g.length:Int)),(140,.int .i64 (i:Int))]) (fun i w=>i≤g.length∧∃M',Lt M' w∧Step M w0 M' w aC∧(((RT.se).ptr).sl).V M' w (g.map fun p=>lx (ew p.1)) v0∧(RT.D1.sl).V M' w bs v1∧iI M' w g bs∧(RT.str.sl.sl).V M' w (g.map fun p=>keysOf p.1) vk∧(RT.fo.sl).V M' w (kI g (ed out)) vo∧w.heap[fu]? =some (.cells #[vi,vq,.slice none 0 0,.slice none 0 0] 72 (0,0))∧M' fu∧Own (RT.int .i64) 3 M' w w0.heap.size vi (((kI g (ed out)).map (iW g)).map (·.1.1))∧Own (RT.int .i64) 3 M' w w0.heap.size vq (((kI g (ed out)).map (iW g)).map (·.2))∧(∃tos:List (List Int),tos.length=g.length∧(∀(j:Nat) (p:List En×List Bool),j<i→g[j]? =some p→Plc (kI g (ed out)) j p.1.length (tos.getD j []))∧Own ((RT.int .i64).sl) 37 M' w w0.heap.size (.slice (some ⟨Ii,0,none⟩) g.length g.length) tos)) (fun i=>g.length-i) 0 (.cons rfl (.cons rfl (.cons rfl (.cons rfl (.cons rfl (.cons rfl (.cons rfl (.cons rfl .nil)))))))) ?_ ?_
        ·exact⟨bD _,_,hM,S,hs,hb,cF,jP,fy,gp,eP,eX,hY,_,ch ..,(fun j p h=>by omega),B7⟩
        ·clear hM S hs hb cF jP fy gp eP eX hY B7;rintro i w ⟨hi,M4,hM,S,hs,hb,cF,jP,fy,gp,eP,eX,hY,tos,Is,acw,B7⟩;refine aj (ae (cg rfl rfl rfl (ab (aj ?_))));refine bM rfl (fun c33=>?_) (fun c33=>?_)
         ·refine aT (aj (aY (aj (ae (ad rfl rfl ?_)))));obtain⟨p,l8⟩:∃p,g[i]? =some p:=⟨_,ar (by omega)⟩;have GB:=az l8;have J4:(g.map fun p=>lx (ew p.1))[i]? =some (lx (ew p.1)):=by rw[bj,l8];rfl
          obtain⟨RY,tS⟩:=hg p GB;have PV:=Ue p GB;refine cv (M:=M4) dW HY rfl rfl rfl hs (aq _ _) (by omega) (fun u34 x_ iw akG=>?_);rw[ay]at iw;obtain rfl:=aF (J4.symm.trans iw);refine bU (M:=M4) eF rfl rfl rfl rfl rfl akG (aq _ _) (fun v34 akH=>?_);have R4:=lX.1 akH;obtain⟨a34,rfl⟩:=R4.fH;refine ah rfl rfl (ah rfl rfl (ab (ae (ad rfl rfl (ad rfl rfl (ad rfl rfl (ad rfl rfl (ad rfl rfl ?_))))))));refine aX rfl rfl TW (rG _ R4) (fun auU auV hc=>?_);obtain⟨rfl,rfl⟩:=hc;refine aU (v':= .int .i64 (p.1.length:Int)) (by show Value.int .i64 (((p.1.map _).length:Nat):Int)=_;rw[aH]) ?_;refine aX rfl rfl E61 (Fs (i:=(i:Int)) hM fy (n:=p.1.length) (by omega)) (fun auW auX hc=>?_);obtain⟨auY,xs,PB,akI,_,akJ⟩:=hc;obtain⟨rV,o5⟩:=akI.HQ (hn:=by decide) Ji akJ (aR _) hM (by rw[PB.1];omega);have:=ak gp;replace eP:=(o5.mem _ this).2 eP;replace gp:=o5.aL gp;replace hs:=hs.le o5.le;replace hb:=hb.le o5.le;replace cF:=cF.le o5.le;replace jP:=jP.le o5.le;replace fy:=fy.le o5.le;replace R4:=R4.le (by decide) o5.le;replace eX:=eX.aO o5;replace hY:=hY.aO o5;replace B7:=B7.aO o5;replace hM:=o5.lt hM;have:=S.size;replace S:=S.aB o5;refine xd (size:=1) cQ jY rfl rfl rfl (by omega) (q:=i) (by omega) ?_;refine Rg.WZ (A:=((RT.int .i64).sl)) (M:=M4) ⟨rfl,rfl⟩ jY rfl rfl B7 (by omega) rV (fun auZ acx Az=>?_);have akK:∀c,vi.ownBlock=some c→¬c=Ii:=fun c hc h=>(eX.dw B7 (by decide) hc) (by rw[h];rfl)
          have akL:∀c,vq.ownBlock=some c→¬c=Ii:=fun c hc h=>(hY.dw B7 (by decide) hc) (by rw[h];rfl)
          replace eX:=eX.step Az akK;replace hY:=hY.step Az akL;replace eP:=(Az.mem _ (ak gp)).2 eP;replace gp:=Az.keep gp (fun h=>B7.eS gp (by decide) (by rw[show fu=Ii from h];rfl));replace hs:=hs.le Az.le;replace hb:=hb.le Az.le;replace cF:=cF.le Az.le;replace jP:=jP.le Az.le;replace fy:=fy.le Az.le;have au0:=(B7.base Ii rfl).1;replace S:=S.cf Az (fun b hb=>by have hb:b=Ii:=hb;omega);replace hM:=Az.lt hM;replace B7:=acx;clear acx;refine ab (ae (bG rfl rfl rfl (by omega) (ad rfl rfl (ab ?_))));refine⟨rfl,i+1,(.cons rfl (.cons rfl (.cons rfl (.cons rfl (.cons rfl (.cons rfl (.cons rfl (.cons rfl .nil)))))))),?_,?_⟩
          ·refine⟨by omega,_,hM,S,hs,hb,cF,jP,fy,gp,eP,eX,hY,_,by rw[eY];exact Is,fun j p' hj YX=>?_,B7⟩;rw[aA,dp];rcases cE j i with h|h
           ·rw[if_neg (by omega),←aA];exact acw j p' h YX
           ·obtain rfl:i=j:=by omega
            rw[l8]at YX;cases YX;rw[if_pos rfl,if_pos (by omega)];exact PB
          ·omega
         ·refine cH (aj (aj (ae ?_)));have Js:Fv g (kI g (ed out)) tos:=⟨Is,fun j p h=>acw j p (by have:=(an.1 h).1;omega) h⟩;obtain⟨P0,acy⟩:∃v,v=Value.slice (some ⟨Ii,0,none⟩) g.length g.length:=⟨_,rfl⟩;rw[←acy]at B7;refine ad rfl rfl ?_;have o7:=B7.view (hn:=by decide) (by rw[Is];omega);replace eP:rm M4 P0 _:=⟨eP,by first|exact B7.eS gp (by decide)|(intro h;have:=(B7.base _ h).1;omega)⟩;replace hs:=hs.le (eO _ P0 _);replace hb:=hb.le (eO _ P0 _);replace cF:=cF.le (eO _ P0 _);replace jP:=jP.le (eO _ P0 _);replace fy:=fy.le (eO _ P0 _);replace eX:=eX.KD (v:=P0) (fun b hb=>by first|exact eX.dw B7 (by decide) hb|exact XJ b hb);replace hY:=hY.KD (v:=P0) (fun b hb=>by first|exact hY.dw B7 (by decide) hb|exact XK b hb);replace hM:Lt (rm M4 P0) _:=fun b hb=>hM b hb.1
          replace S:=S.freeze (v:=P0) (fun b hb=>by have:=(B7.base b hb).1;omega);clear B7;subst acy;have Gb:=Jl (ks:=g.map fun p=>keysOf p.1) (a:=100000) (fun l hl=>by obtain⟨p,hp,rfl⟩:=bV.1 hl;exact Hz p hp);rw[aH]at Gb;have au1:100000*g.length≤100000*1000:=Nat.mul_le_mul_left _ (show g.length≤1000 by omega);have xU:=KI (g.map fun p=>keysOf p.1);obtain⟨hJu,hJm⟩:=As (g.map fun p=>keysOf p.1);refine aX rfl rfl E62 (KM _ hM jP (by omega)) (fun rJ w37 hc=>?_);obtain⟨M37,hoJ,_,s37⟩:=hc;obtain⟨tP,yd⟩:=hoJ.HQ (hn:=by decide) nK s37 (aR _) hM (by omega);have:=ak gp;replace eP:=(yd.mem _ this).2 eP;replace gp:=yd.aL gp;replace hs:=hs.le yd.le;replace hb:=hb.le yd.le;replace cF:=cF.le yd.le;replace jP:=jP.le yd.le;replace fy:=fy.le yd.le;replace o7:=o7.le yd.le;replace eX:=eX.aO yd;replace hY:=hY.aO yd;replace hM:=yd.lt hM;have:=S.size;replace S:=S.aB yd;refine bN aJ rfl tP rfl (ad rfl rfl (ab (aY ?_)));refine dh (σ:=Nat×Value×Value) (fun q=>[(0,v0),(19,.pointer (some ⟨fu,0,none⟩)),(22,.slice (some ⟨Ii,0,none⟩) g.length g.length),(155,rJ),(156,.int .i64 ((jB (g.map fun p=>keysOf p.1)).length:Int)),(157,.int .i64 (q.1:Int))]) (fun q w=>q.1≤(jB (g.map fun p=>keysOf p.1)).length∧∃M',Lt M' w∧Step M w0 M' w aC∧(((RT.se).ptr).sl).V M' w (g.map fun p=>lx (ew p.1)) v0∧(RT.str.sl).V M' w (jB (g.map fun p=>keysOf p.1)) rJ∧(((RT.int .i64).sl).sl).V M' w tos (.slice (some ⟨Ii,0,none⟩) g.length g.length)∧w.heap[fu]? =some (.cells #[vi,vq,q.2.1,q.2.2] 72 (0,0))∧M' fu∧Own (RT.int .i64) 3 M' w w0.heap.size vi (((kI g (ed out)).map (iW g)).map (·.1.1))∧Own (RT.int .i64) 3 M' w w0.heap.size vq (((kI g (ed out)).map (iW g)).map (·.2))∧Own RT.str 9 M' w w0.heap.size q.2.1 (((jB (g.map fun p=>keysOf p.1)).take q.1).filter (fun k=> !(pk ((kI g (ed out)).map (iW g)) k).isEmpty))∧Own (RT.po.sl) 80 M' w w0.heap.size q.2.2 ((((jB (g.map fun p=>keysOf p.1)).take q.1).filter (fun k=> !(pk ((kI g (ed out)).map (iW g)) k).isEmpty)).map (pk ((kI g (ed out)).map (iW g))))) (fun q=>(jB (g.map fun p=>keysOf p.1)).length-q.1) (0,.slice none 0 0,.slice none 0 0) (.cons rfl (.cons rfl (.cons rfl (.cons rfl (.cons rfl (.cons rfl .nil)))))) ?_ ?_
          ·exact⟨bD _,_,hM,S,hs,tP,o7,gp,eP,eX,hY,dz _ _ _ _ _,dz _ _ _ _ _⟩
          ·clear hM S hs hb cF jP fy tP o7 gp eP eX hY;rintro⟨qk,DB,XL⟩ w ⟨hq,M5,hM,S,hs,tP,o7,gp,eP,eX,hY,hok,fE⟩;dsimp only at hq gp hok fE ⊢;refine aj (ae (cg rfl rfl rfl (ab (aj ?_))));refine bM rfl (fun c38=>?_) (fun c38=>?_)
           ·refine aT (aj (aY (aj (ae ?_))));obtain⟨key,hkq⟩:∃x,(jB (g.map fun p=>keysOf p.1))[qk]? =some x:=⟨_,ar (by omega)⟩;refine cv (M:=M5) aJ I9 rfl rfl rfl tP (aq _ _) (by omega) (fun u39 x_ iw akM=>?_);rw[ay]at iw;obtain rfl:=aF (hkq.symm.trans iw);refine bU (M:=M5) aK rfl rfl rfl rfl rfl akM (aq _ _) (fun au7 acA=>?_);obtain⟨rfl,Dw⟩:=kS.1 acA;refine ah rfl rfl (ab (aj (ae (ah rfl rfl (ab (aj (aj (ae (ad rfl rfl (bN dW rfl hs rfl (aU (v':= .int .i64 (g.length:Int)) (by rw[nT]) ?_)))))))))));refine ad rfl rfl (ab (aY ?_));refine dh (σ:=Nat×Value) (fun q=>[(0,v0),(19,.pointer (some ⟨fu,0,none⟩)),(22,.slice (some ⟨Ii,0,none⟩) g.length g.length),(155,rJ),(156,.int .i64 ((jB (g.map fun p=>keysOf p.1)).length:Int)),(157,.int .i64 (qk:Int)),(26,.string ⟨key.toArray⟩),(27,q.2),(161,v0),(162,.int .i64 (g.length:Int)),(163,.int .i64 (q.1:Int))]) (fun q w=>q.1≤g.length∧∃M',Lt M' w∧Step M w0 M' w aC∧(((RT.se).ptr).sl).V M' w (g.map fun p=>lx (ew p.1)) v0∧(RT.str.sl).V M' w (jB (g.map fun p=>keysOf p.1)) rJ∧(((RT.int .i64).sl).sl).V M' w tos (.slice (some ⟨Ii,0,none⟩) g.length g.length)∧w.heap[fu]? =some (.cells #[vi,vq,DB,XL] 72 (0,0))∧M' fu∧Own (RT.int .i64) 3 M' w w0.heap.size vi (((kI g (ed out)).map (iW g)).map (·.1.1))∧Own (RT.int .i64) 3 M' w w0.heap.size vq (((kI g (ed out)).map (iW g)).map (·.2))∧Own RT.str 9 M' w w0.heap.size DB (((jB (g.map fun p=>keysOf p.1)).take qk).filter (fun k=> !(pk ((kI g (ed out)).map (iW g)) k).isEmpty))∧Own (RT.po.sl) 80 M' w w0.heap.size XL ((((jB (g.map fun p=>keysOf p.1)).take qk).filter (fun k=> !(pk ((kI g (ed out)).map (iW g)) k).isEmpty)).map (pk ((kI g (ed out)).map (iW g))))∧Own RT.po 83 M' w w0.heap.size q.2 (ya g tos key q.1)) (fun q=>g.length-q.1) (0,.slice none 0 0) (.cons rfl (.cons rfl (.cons rfl (.cons rfl (.cons rfl (.cons rfl (.cons rfl (.cons rfl (.cons rfl (.cons rfl (.cons rfl .nil))))))))))) ?_ ?_
            ·exact⟨bD _,_,hM,S,hs,tP,o7,gp,eP,eX,hY,hok,fE,dz _ _ _ _ _⟩
            ·clear hM S hs tP o7 gp eP eX hY hok fE;rintro⟨i,P1⟩ w ⟨hi,M6,hM,S,hs,tP,o7,gp,eP,eX,hY,hok,fE,vE⟩;dsimp only at hi vE ⊢;have akN:=FZ (k:=key) (tos:=tos) hg Ue hi;refine aj (ae (cg rfl rfl rfl (ab (aj ?_))));refine bM rfl (fun c42=>?_) (fun c42=>?_)
             ·refine aT (aj (aY (aj (ae (ad rfl rfl ?_)))));obtain⟨p,l8⟩:∃p,g[i]? =some p:=⟨_,ar (by omega)⟩;have GB:=az l8;have J4:(g.map fun p=>lx (ew p.1))[i]? =some (lx (ew p.1)):=by rw[bj,l8];rfl
              obtain⟨RY,tS⟩:=hg p GB;have PV:=Ue p GB;refine cv (M:=M6) dW HY rfl rfl rfl hs (aq _ _) (by omega) (fun u43 x_ iw akO=>?_);rw[ay]at iw;obtain rfl:=aF (J4.symm.trans iw);refine bU (M:=M6) eF rfl rfl rfl rfl rfl akO (aq _ _) (fun v43 akP=>?_);have Bd:=lX.1 akP;obtain⟨a43,rfl⟩:=Bd.fH;refine ah rfl rfl (ah rfl rfl (ab ?_));apply T.LK [0,1,2,4,5,6,7,3,8,9,10] 7 [0,3,4,5,6] 2 aC mixed
              ·simp+decide only[yP,tu,eQ,jr,jm,jn,fe,cY,iu,qt,cond_true,cond_false,Nat.reduceBEq,Nat.reduceAdd,beq_self_eq_true];rfl
              ·rfl
              ·rfl
              ·rfl
              ·rfl
              ·rfl
              ·rfl
              intro akQ akR;have wZ:=akR M6;have:=ak gp;replace eP:=(wZ.mem _ this).2 eP;replace gp:=wZ.aL gp;replace hs:=hs.le wZ.le;replace tP:=tP.le wZ.le;replace o7:=o7.le wZ.le;replace Bd:=Bd.le (by decide) wZ.le;replace eX:=eX.aO wZ;replace hY:=hY.aO wZ;replace hok:=hok.aO wZ;replace fE:=fE.aO wZ;replace vE:=vE.aO wZ;replace hM:=wZ.lt hM;have:=S.size;replace S:=S.aB wZ;refine ad rfl rfl ?_;refine ab ⟨rfl,rfl,rfl,?_⟩;refine ad rfl rfl ?_;refine ab ⟨rfl,rfl,rfl,?_⟩;refine ad rfl rfl ?_;refine ab ⟨rfl,rfl,rfl,?_⟩;refine ad rfl rfl ?_;refine ab ⟨rfl,rfl,rfl,?_⟩;refine ad rfl rfl ?_;refine ab ⟨rfl,rfl,rfl,?_⟩;obtain⟨tt,htt⟩:∃x,tos[i]? =some x:=⟨_,ar (by omega)⟩;have htd:tos.getD i []=tt:=by rw[aA,htt];rfl
              have PB:=Js.2 i p l8;rw[htd]at PB;refine cv (M:=M6) cQ jY rfl rfl rfl o7 (aq _ _) (by omega) (fun au9 x_ iw Uk=>?_);rw[ay]at iw;obtain rfl:=aF (htt.symm.trans iw);refine ab ⟨rfl,rfl,rfl,?_⟩;refine bU (M:=M6) ao rfl rfl rfl rfl rfl Uk (aq _ _) (fun ava AA=>?_);refine ab ⟨rfl,rfl,rfl,?_⟩;refine eD ?_;obtain⟨bb,oo,cs_,ee_,fr_,rfl,lC,hnM⟩:=Uk.float;refine⟨ik ⟨eW,⟨eW,⟨eW,⟨bZ.idx,⟨ey rfl lC (fun h=>h),trivial⟩⟩⟩⟩⟩,?_⟩;have kp:=jl aC akQ;have XM:=qR key p.1 0 (kF RY);refine aX rfl rfl E36 (H9 (ls:=(keysOf p.1).map (pk p.1)) (k:=key) _ hM Bd (lv _) (vv RY (by omega))) (fun avb avc hc=>?_);obtain⟨Dz,vF⟩:=hc;have akS:WR (lx (ew p.1)).2.2.1 ((keysOf p.1).map (pk p.1)) key=pk p.1 key:=WS _;rw[akS]at Dz;have:=ak gp;replace eP:=(vF.mem _ this).2 eP;replace gp:=vF.aL gp;replace hs:=hs.le vF.le;replace tP:=tP.le vF.le;replace o7:=o7.le vF.le;replace Bd:=Bd.le (by decide) vF.le;replace AA:=AA.le vF.le;replace eX:=eX.aO vF;replace hY:=hY.aO vF;replace hok:=hok.aO vF;replace fE:=fE.aO vF;replace vE:=vE.aO vF;replace hM:=vF.lt hM;have:=S.size;replace S:=S.aB vF;refine(fun(kp:eJ _ _ _)=>ab ⟨rfl,rfl,fun _=>kp,?_⟩) (by first|exact kp|exact kp.ry (by assumption)|exact kp.goN (by assumption)|exact kp.go (by assumption) (fun _ _ h=>by first|exact h|exact h.elim));refine aX rfl rfl E63 (H3 _ hM Dz AA (by have:(pk p.1 key).length≤p.1.length:=XM.1;omega) (fun x hx=>by have:=XM.2 x hx;rw[PB.1];omega)) (fun avd ave hc=>?_);obtain⟨avf,acB,_,qp⟩:=hc;have qy:=tO tt (pk p.1 key);have avg:(pk p.1 key).length≤p.1.length:=XM.1;have hmv:=ye (hn:=by decide) hM qp acB (by omega);replace qp:=qp.back;have:=ak gp
              replace eP:=(qp.mem _ this).2 eP;replace gp:=qp.aL gp;replace hs:=hs.le qp.le;replace tP:=tP.le qp.le;replace o7:=o7.le qp.le;replace Bd:=Bd.le (by decide) qp.le;replace AA:=AA.le qp.le;replace Dz:=Dz.le qp.le;replace eX:=eX.aO qp;replace hY:=hY.aO qp;replace hok:=hok.aO qp;replace fE:=fE.aO qp;replace vE:=vE.aO qp;replace hM:=qp.lt hM;have:=S.size;replace S:=S.aB qp;refine(fun(kp:eJ _ _ _)=>ab ⟨rfl,rfl,fun _=>kp,?_⟩) (by first|exact kp|exact kp.ry (by assumption)|exact kp.goN (by assumption)|exact kp.go (by assumption) (fun _ _ h=>by first|exact h|exact h.elim));refine cV (M:=M6) (base:=w0.heap.size) bA l4 rfl rfl rfl rfl vE hmv (aq _ _) (by omega) (by omega) (S.size) (fun acC ao2 ao3 XN nj=>?_);have:=ak gp;replace eP:=(nj.mem _ this).2 eP;replace gp:=nj.keep gp (fun h=>by first|exact vE.ep gp h|exact vE.eS gp (by decide) h|(have:=(vE.base _ h).1;omega));replace hs:=hs.le nj.le;replace tP:=tP.le nj.le;replace o7:=o7.le nj.le;replace Bd:=Bd.le (by decide) nj.le;replace AA:=AA.le nj.le;replace Dz:=Dz.le nj.le;replace hmv:=hmv.le nj.le;replace eX:=eX.step nj (fun b h1 h2=>eX.dw vE (by decide) h1 h2);replace hY:=hY.step nj (fun b h1 h2=>hY.dw vE (by decide) h1 h2);replace hok:=hok.step nj (fun b h1 h2=>hok.dw vE (by decide) h1 h2);replace fE:=fE.step nj (fun b h1 h2=>fE.dw vE (by decide) h1 h2);replace hM:=nj.lt hM;have:=S.size;replace S:=S.cX nj vE (aR _);replace vE:=XN;refine ab ⟨rfl,rfl,fun h=>absurd rfl h,?_⟩;refine ah rfl rfl ?_;refine ab ⟨rfl,rfl,fun h=>absurd rfl h,?_⟩;refine lJ (ae (bG rfl rfl rfl (by omega) (ad rfl rfl (ab ?_))));refine⟨rfl,(i+1,acC),(.cons rfl (.cons rfl (.cons rfl (.cons rfl (.cons rfl (.cons rfl (.cons rfl (.cons rfl (.cons rfl (.cons rfl (.cons rfl .nil))))))))))),?_,?_⟩
              ·refine⟨by dsimp only;omega,_,hM,S,hs,tP,o7,gp,eP,eX,hY,hok,fE,?_⟩;dsimp only;rw[wO,htd,show(g.getD i ([],[]))=p from by rw[aA,l8];rfl];exact vE
              ·dsimp only;omega
             ·refine cH (aj (ae ?_));have hig:i=g.length:=by omega
              rw[hig]at vE akN;refine ad rfl rfl (fS bA rfl vE rfl (jk rfl rfl rfl (ab ?_)));refine bM rfl (fun c46=>?_) (fun c46=>?_)
              ·refine aj (ae (ad rfl rfl ?_));have acD:∀p∈g,p.1.length≤1000000:=fun p hp=>by have:=Ue p hp;omega
               have avj:=fun b hb=>vE.base b hb
               refine aX rfl rfl E64 (FJ _ vE (yu hg acD Gd Js (aR _)) (by omega) (by omega)) (fun r47 R5 hc=>?_);obtain⟨rfl,s5,EY,RP,F2,PC⟩:=hc;obtain rfl:s5=pk ((kI g (ed out)).map (iW g)) key:=Fx hg acD hEl Gd Js EY RP;replace eX:=eX.step PC (fun b h1 h2=>eX.dw vE (by decide) h1 h2);replace hY:=hY.step PC (fun b h1 h2=>hY.dw vE (by decide) h1 h2);replace hok:=hok.step PC (fun b h1 h2=>hok.dw vE (by decide) h1 h2);replace fE:=fE.step PC (fun b h1 h2=>fE.dw vE (by decide) h1 h2);replace eP:=(PC.mem _ (ak gp)).2 eP;replace gp:=PC.keep gp (fun h=>vE.eS gp (by decide) h);replace hs:=hs.le PC.le;replace tP:=tP.le PC.le;replace o7:=o7.le PC.le;replace S:=S.cX PC vE (aR _);replace hM:=PC.lt hM
               have acE:(fun k=> !(pk ((kI g (ed out)).map (iW g)) k).isEmpty) key=true:=by
                have h1:=EY.length_eq
                cases hx:pk ((kI g (ed out)).map (iW g)) key with
                |nil=>rw[hx]at h1;simp at h1;omega
                |cons a b=>simp[hx]
               have avk:(pk ((kI g (ed out)).map (iW g)) key).length≤1000000:=by have:=EY.length_eq;omega
               have PD:=F2.view (hn:=by decide) (by omega);obtain⟨oz,Dj⟩:∃M',M'=rm (M6) P1:=⟨_,rfl⟩;have lrm:Le (M6) R5 oz R5:=by rw[Dj];exact eO _ _ _
               rw[←Dj]at PD;replace hs:=hs.le lrm;replace tP:=tP.le lrm;replace o7:=o7.le lrm;replace eP:oz fu:=by rw[Dj];exact⟨eP,F2.eS gp (by decide)⟩
               have XO:=eX.KD (v:=P1) (fun b hb=>eX.dw F2 (by decide) hb);rw[←Dj]at XO;clear eX;have eX:=XO;clear XO;have XP:=hY.KD (v:=P1) (fun b hb=>hY.dw F2 (by decide) hb);rw[←Dj]at XP;clear hY;have hY:=XP;clear XP;have XQ:=hok.KD (v:=P1) (fun b hb=>hok.dw F2 (by decide) hb);rw[←Dj]at XQ;clear hok;have hok:=XQ;clear XQ;have XR:=fE.KD (v:=P1) (fun b hb=>fE.dw F2 (by decide) hb);rw[←Dj]at XR;clear fE;have fE:=XR;clear XR;have hM_:=hM.rm P1;rw[←Dj]at hM_;clear hM;have hM:=hM_;have S_:=S.freeze (v:=P1) (fun b hb=>(F2.base b hb).1);rw[←Dj]at S_;clear S hM_ vE F2 lrm;have S:=S_;clear S_;obtain⟨_,_,akV,_⟩:=iz.1 PD;refine ab ?_;have avl:(((jB (g.map fun p=>keysOf p.1)).take qk).filter (fun k=> !(pk ((kI g (ed out)).map (iW g)) k).isEmpty)).length≤(jB (g.map fun p=>keysOf p.1)).length:=ez (jT _ _) (by rw[br];omega);have gpp:=gp;have CU:=eX;have XS:=hY;have UB:=hs;have akW:=tP;have akX:=o7;have acF:=eP;have Dk:=hok;have Ij:=fE;have Sp:=S;have hMp:=hM;obtain⟨P4,hP4⟩:∃P4:Value→World→Prop,P4=fun v w'=>Own RT.str 9 (nt v) w' w0.heap.size v ((((jB (g.map fun p=>keysOf p.1)).take qk).filter (fun k=> !(pk ((kI g (ed out)).map (iW g)) k).isEmpty))++[key])∧(∀c,v.ownBlock=some c→R5.heap.size≤c∨DB.ownBlock=some c):=⟨_,rfl⟩
               have h4:∀{v:Value} {w w':World},P4 v w→Step oz w oz w' aC→P4 v w':=fun {v w w'} h s=>by rw[hP4]at h ⊢;exact⟨h.1.TV nK s (fun _ _ h=>h),h.2⟩
               obtain⟨P8,hP8⟩:∃P8:Value→World→Prop,P8=fun v w'=>∃g,v= .slice (some ⟨g,0,none⟩) 1 1∧w'.heap[g]? =some (.cells #[P1] 80 (0,0))∧R5.heap.size≤g:=⟨_,rfl⟩
               have h8:∀{v:Value} {w w':World} {N:aD},P8 v w→Step oz w oz w' N→(∀b,N b→b<R5.heap.size)→P8 v w':=fun {v w w' N} h s hN=>by
                rw[hP8]at h ⊢;obtain⟨g,a1,a2,a3⟩:=h;exact⟨g,a1,s.keep a2 (fun h=>by have:=hN g h;omega),a3⟩
               apply T.TL (M:=oz) [0,1,2,3,4,5,6,7,8,10,9,11,12,13] 10 9 194 (.pointer (some ⟨fu,2,none⟩)) [(4,fD DB)] [cG.eq (.pointer (some ⟨fu,2,none⟩)),cG.eq DB,cG.eq (.string ⟨key.toArray⟩),cG.V (RT.str.sl) [key],(cG.mk' (fun v w=>P4 v w) (fun h s=>h4 h s)),cG.eq (.pointer (some ⟨fu,3,none⟩)),cG.eq XL,cG.eq P1,(⟨fun v w=>P8 v w,fun k=>k<R5.heap.size,fun h s hN=>h8 h s hN⟩:cG oz),cG.eq (.pointer (some ⟨fu,2,none⟩))] mixed
               ·simp+decide only[yP,tu,eQ,jr,jm,jn,fe,cY,iu,qt,cond_true,cond_false,Nat.reduceBEq,Nat.reduceAdd,beq_self_eq_true];rfl
               ·rfl
               ·rfl
               ·rfl
               ·rfl
               ·rfl
               ·rfl
               ·rfl
               ·rfl
               ·rfl
               ·rfl
               ·rfl
               ·exact fun ρ w h=>zT (size:=1) (o:=0) (o':=2) bu rfl rfl yo (by decide) (h (.tmp 19) _ rfl) w
               ·intro p hp b hb;simp only[ca,dR,or_false]at hp;subst hp;exact hok.mut_ b hb
               ·exact fun p hp=>by
                 simp only[ca,dR,or_false]at hp;subst hp;show(4:Nat)≠9;decide
               ·exact vT.st (by exact⟨fun _ _ _ _=>trivial,⟨fun _ _ _ _=>trivial,⟨fun _ _ _ _=>trivial,⟨fun _ _ _ _=>trivial,⟨fun p hp b hb=>(by simp at hp),⟨fun _ _ _ _=>trivial,⟨fun _ _ _ _=>trivial,⟨fun _ _ _ _=>trivial,⟨fun p hp b hb=>(by have h1:=bS.1 (fU.1 hp).1;subst h1;exact(Dk.base b hb).2),⟨fun _ _ _ _=>trivial,trivial⟩⟩⟩⟩⟩⟩⟩⟩⟩⟩)
               intro ak0 ak1;have xa:=ak1 oz;have:=ak gp;replace eP:=(xa.mem _ this).2 eP;replace gp:=xa.aL gp;replace hs:=hs.le xa.le;replace tP:=tP.le xa.le;replace o7:=o7.le xa.le;replace eX:=eX.aO xa;replace hY:=hY.aO xa;replace hok:=hok.aO xa;replace fE:=fE.aO xa;replace hM:=xa.lt hM;have:=S.size;replace S:=S.aB xa;have gpR:=gp;have acG:=hok;have avm:=xa.size;refine⟨?_,?_⟩
               ·refine aG ?_ ?_
                ·intro wD E sD;replace sD:Step oz _ oz wD (fD DB):=sD;refine bJ (o':=2) bu rfl rfl yo (by decide) rfl rfl ?_;exact ab ⟨rfl,rfl,_,rfl,rfl,au _ _⟩
                refine aG ?_ ?_
                ·intro wD E sD;replace sD:Step oz _ oz wD aC:=sD;refine aM (aN aJ rfl rfl rfl (sD.aL gpR) rfl ?_);exact ab ⟨rfl,rfl,_,rfl,rfl,au _ _⟩
                refine aG ?_ ?_
                ·intro wD E sD;replace sD:Step oz _ oz wD (fD DB):=sD;refine ad rfl rfl ?_;exact ab ⟨rfl,rfl,_,rfl,rfl,au _ _⟩
                refine aG ?_ ?_
                ·intro wD E sD;replace sD:Step oz _ oz wD aC:=sD;refine aM ?_;refine eu (A:=RT.str) (hn:=by decide) (M:=oz) aJ I9 (by decide) rfl rfl (sD.lt hM) (kS.2 ⟨rfl,Dw⟩) (.inr ⟨rfl,rfl⟩) (fun uS wS hS sS=>?_);exact ab ⟨rfl,rfl,_,rfl,hS,sS⟩
                refine aG ?_ ?_
                ·intro wD E sD;replace sD:Step oz _ oz wD aC:=sD;refine aM ?_;intro v3 xr;replace sD:Step oz ak0 oz wD aC:=sD;refine l0 (M:=oz) (base:=w0.heap.size) aJ I9 rfl rfl rfl rfl (acG.aO sD) (show(RT.str.sl).V oz wD [key] v3 from xr) (aq _ _) (by rw[cK];omega) (by rw[cK];omega) (by have:=sD.size;have:=S.size;omega) (fun vA wA hoA sA hFA=>?_);exact ab ⟨rfl,rfl,_,rfl,by show P4 vA wA;rw[hP4];exact⟨hoA.TU nK,fun c hc=>(hFA c hc).elim (fun h=> .inl (by have:=sD.size;omega)) .inr⟩,sA.back⟩
                refine aG ?_ ?_
                ·intro wD E sD;replace sD:Step oz _ oz wD (fD DB):=sD;refine bJ (o':=3) bu rfl rfl A3 (by decide) rfl rfl ?_;exact ab ⟨rfl,rfl,_,rfl,rfl,au _ _⟩
                refine aG ?_ ?_
                ·intro wD E sD;replace sD:Step oz _ oz wD (fD DB):=sD;refine aM (aN dF rfl rfl rfl (sD.keep gpR (fun h=>acG.eS gpR (by decide) h)) rfl ?_);exact ab ⟨rfl,rfl,_,rfl,rfl,au _ _⟩
                refine aG ?_ ?_
                ·intro wD E sD;replace sD:Step oz _ oz wD (fD DB):=sD;refine ad rfl rfl ?_;exact ab ⟨rfl,rfl,_,rfl,rfl,au _ _⟩
                refine aG ?_ ?_
                ·intro wD E sD;replace sD:Step oz _ oz wD (fD DB):=sD;refine aM ?_;refine Rg.aiR (M:=oz) dF x7 rfl rfl (by rw[akV];rfl) (fun gS wS zS hS sS=>?_);exact ab ⟨rfl,rfl,_,rfl,by show P8 _ _;rw[hP8];exact⟨gS,rfl,hS,by have:=sD.size;omega⟩,sS⟩
                refine aG ?_ ?_
                ·intro wD E sD;replace sD:Step oz _ oz wD (fD DB):=sD;refine aM (aM (aM ?_));intro v3 xr;intro v4 nv;refine aM (aM (bJ (o':=2) bu rfl rfl yo (by decide) rfl rfl ?_));exact ab ⟨rfl,rfl,_,rfl,rfl,au _ _⟩
                exact ti
               ·intro KW XT;replace XT:Step oz _ oz KW (fD DB):=XT;refine aM (aM (aM ?_));intro ao4 ak3;intro F3 Dl;refine aM (aM (aM ?_));intro acH Dm;refine aM ?_;replace Dl:P4 F3 KW:=Dl;rw[hP4]at Dl;obtain⟨qu,hb9⟩:=Dl;replace Dm:P8 acH KW:=Dm;rw[hP8]at Dm;obtain⟨g8,rfl,hg8,zg8⟩:=Dm;have sX:Step oz R5 oz KW (fD DB):=(xa.cB (fun _ h=>h.elim) (fun b h=>Dk.mut_ b h)).trans XT (fun b _ h=>h);obtain⟨IY,NU⟩:∃M',M'=jF oz F3:=⟨_,rfl⟩;have sY:Step oz R5 IY KW (fD DB):=by rw[NU];exact sX.aba (fun c hc=>⟨(qu.base c hc).2,(hb9 c hc).elim .inl (fun h=> .inr (Dk.mut_ c h))⟩)
                have acI:=Ij.step sY (fun c hc h=>Ij.dw Dk (by decide) hc h);have XU:=PD.le sY.le
                have ZX:((RT.po.sl).sl).V IY KW [pk ((kI g (ed out)).map (iW g)) key] (.slice (some ⟨g8,0,none⟩) 1 1):=by
                 refine iz.2 ⟨_,1,rfl,aR _,by simp,.inr ⟨g8,0,rfl,fun h=>?_,fun i x hx=>?_⟩⟩
                 ·rw[NU]at h;rcases h with h|h
                  ·exact qu.eS hg8 (by decide) h
                  ·have:=hMp _ h;omega
                 ·cases i with
                  |zero=>
                   simp at hx;subst hx;obtain⟨vs,h1,h2⟩:=XU;obtain⟨a,cap,rfl,h3⟩:=h1;refine⟨_,⟨a,cap,rfl,h3⟩,fun j u hj=>?_⟩
                   cases j with
                   |zero=>simp at hj;subst hj;rw[show Value.slice a _ cap=P1 from h2.symm];exact fG hg8 rfl
                   |succ j=>simp at hj
                  |succ i=>simp at hx
                have avn:((((jB (g.map fun p=>keysOf p.1)).take qk).filter (fun k=> !(pk ((kI g (ed out)).map (iW g)) k).isEmpty)).map (pk ((kI g (ed out)).map (iW g)))).length≤(jB (g.map fun p=>keysOf p.1)).length:=by rw[aH];exact ez (jT _ _) (by rw[br];omega)
                refine l0 (M:=IY) (base:=w0.heap.size) dF x7 rfl rfl rfl rfl acI ZX (aq _ _) (by rw[cK];omega) (by rw[cK];omega) (by have:=Sp.size;have:=sY.size;omega) (fun v12 Yd Ru AS WU=>?_);have ak4:=qu.TV nK AS (fun c hc h=>qu.dw acI (by decide) hc h);have sW:Step oz R5 (jF IY v12) Yd (fun k=>fD DB k∨fD XL k):=(sY.cB (fun _ h=> .inl h) (fun b h=>h.elim (Dk.mut_ b) (Ij.mut_ b))).trans AS (fun b _ h=> .inr h);obtain⟨Rv,Kw⟩:∃M',M'=jF IY v12:=⟨_,rfl⟩;rw[←Kw]at sW Ru;have hok:=ak4.RF nK (M':=Rv) (by rw[Kw,NU];exact fun b hb=> .inr (.inl hb));have fE:=Ru;have eP:=(sW.mem _ (ak gpp)).2 acF;have gp:=sW.keep gpp (fun h=>h.elim (Dk.eS gpp (by decide)) (Ij.eS gpp (by decide)));have eX:=CU.step sW (fun b h1 h2=>h2.elim (fun h=>CU.dw Dk (by decide) h1 h) (fun h=>CU.dw Ij (by decide) h1 h));have hY:=XS.step sW (fun b h1 h2=>h2.elim (fun h=>XS.dw Dk (by decide) h1 h) (fun h=>XS.dw Ij (by decide) h1 h));have hs:=UB.le sW.le;have tP:=akW.le sW.le;have o7:=akX.le sW.le;have S:=Sp.cf sW (fun k hk=>hk.elim (fun h=>(Dk.base k h).1) (fun h=>(Ij.base k h).1));have hM:=sW.lt hMp;refine ab ⟨rfl,rfl,fun h=>absurd rfl h,?_⟩;obtain⟨_,_,R6,_⟩:=hok.isSlice;refine cw (M:=Rv) yo rfl rfl gp rfl (by rw[R6];rfl) eP (fun VH g14 ka=>?_);replace g14:VH.heap[fu]? =some (.cells #[vi,vq,F3,XL] 72 (0,0)):=g14;replace eX:=eX.step ka (fun c hc (h:c=fu)=>eX.eS gp (by decide) (h▸hc));replace hY:=hY.step ka (fun c hc (h:c=fu)=>hY.eS gp (by decide) (h▸hc));replace hok:=hok.step ka (fun c hc (h:c=fu)=>hok.eS gp (by decide) (h▸hc));replace fE:=fE.step ka (fun c hc (h:c=fu)=>fE.eS gp (by decide) (h▸hc));replace eP:=(ka.mem _ (ak gp)).2 eP;replace hs:=hs.le ka.le;replace tP:=tP.le ka.le;replace o7:=o7.le ka.le;replace S:=S.cf ka (fun k (hk:k=fu)=>by rw[hk];omega)
                replace hM:=ka.lt hM;clear gp;have gp:=g14;refine ab ⟨rfl,rfl,fun h=>absurd rfl h,?_⟩;refine bJ (o':=3) bu rfl rfl A3 (by decide) rfl rfl ?_;refine ab ⟨rfl,rfl,fun h=>absurd rfl h,?_⟩;obtain⟨_,_,R7,_⟩:=fE.isSlice;refine cw (M:=Rv) A3 rfl rfl gp rfl (by rw[R7];rfl) eP (fun Yp g16 BQ=>?_);replace g16:Yp.heap[fu]? =some (.cells #[vi,vq,F3,v12] 72 (0,0)):=g16;replace eX:=eX.step BQ (fun c hc (h:c=fu)=>eX.eS gp (by decide) (h▸hc));replace hY:=hY.step BQ (fun c hc (h:c=fu)=>hY.eS gp (by decide) (h▸hc));replace hok:=hok.step BQ (fun c hc (h:c=fu)=>hok.eS gp (by decide) (h▸hc));replace fE:=fE.step BQ (fun c hc (h:c=fu)=>fE.eS gp (by decide) (h▸hc));replace eP:=(BQ.mem _ (ak gp)).2 eP;replace hs:=hs.le BQ.le;replace tP:=tP.le BQ.le;replace o7:=o7.le BQ.le;replace S:=S.cf BQ (fun k (hk:k=fu)=>by rw[hk];omega);replace hM:=BQ.lt hM;clear gp;have gp:=g16;refine ab ⟨rfl,rfl,fun h=>absurd rfl h,?_⟩;refine lJ (ae (bG rfl rfl rfl (by omega) (ad rfl rfl (ab ?_))));refine⟨rfl,(qk+1,F3,v12),(.cons rfl (.cons rfl (.cons rfl (.cons rfl (.cons rfl (.cons rfl .nil)))))),?_,?_⟩
                ·refine⟨by dsimp only;omega,_,hM,S,hs,tP,o7,gp,eP,eX,hY,?_,?_⟩
                 ·dsimp only;rw[nL hkq,if_pos acE];exact hok
                 ·dsimp only;rw[nL hkq,if_pos acE,ec];exact fE
                ·dsimp only;omega
              ·refine aT (ae (bG rfl rfl rfl (by omega) (ad rfl rfl (ab ?_))));refine⟨rfl,(qk+1,DB,XL),(.cons rfl (.cons rfl (.cons rfl (.cons rfl (.cons rfl (.cons rfl .nil)))))),?_,?_⟩
               ·have rT:pk ((kI g (ed out)).map (iW g)) key=[]:=by
                 have h1:=(wR (k:=key) hg (fun p hp=>by have:=Ue p hp;omega) hEl Gd Js).length_eq;exact cZ.1 (by omega)
                refine⟨by dsimp only;omega,_,hM,S,hs,tP,o7,gp,eP,eX,hY,?_,?_⟩
                ·dsimp only;rw[nL hkq,if_neg (by rw[rT];simp)];exact hok
                ·dsimp only;rw[nL hkq,if_neg (by rw[rT];simp)];exact fE
               ·dsimp only;omega
           ·refine cH (aj (ae (fL (vs:=[vi,vq,DB,XL]) bu rfl A4 rfl rfl rfl gp ?_)));have acJ:=KC Gd hJu (fun x=>(hJm x).trans ⟨fun⟨l,hl,hx⟩=>(bV.1 hl).elim fun p hp=>⟨p,hp.1,hp.2▸hx⟩,fun⟨p,hp,hx⟩=>⟨_,bV.2 ⟨p,hp,rfl⟩,hx⟩⟩);rw[aW (by omega),acJ]at hok fE;have hFE:=kF (Gd.ok hg)
            have hkE:(keysOf ((kI g (ed out)).map (iW g))).length≤1000000000:=by
             rw[←acJ];exact ez (jT _ _) (by omega)
            have Wg:RT.pa.V M _ (ew ((kI g (ed out)).map (iW g))) _:=VV (x:=ew ((kI g (ed out)).map (iW g))) (eX.close jO S (by show(List.map _ _).length≤_;rw[aH];omega)) (hY.close jO S (by show(List.map _ _).length≤_;rw[aH];omega)) (hok.close jO S (by show(keysOf _).length≤_;omega)) (fE.close jO S (by show((keysOf _).map _).length≤_;rw[aH];omega));replace S:=S.back;replace hM:=S.lt jO;refine aX rfl rfl E43 (zR (p:=ew ((kI g (ed out)).map (iW g))) _ hM Wg (I7 hFE hEl)) (fun avp avq hc=>?_);obtain⟨ak5,OL,_⟩:=hc;obtain⟨sg,rfl,ze⟩:=OL (Oy (Gd.ok hg) hEl);replace S:=S.aB ak5;refine bW rfl rfl rfl (bW rfl rfl rfl (ah rfl rfl (ah rfl rfl (ab (aP ?_)))));exact fp rfl rfl rfl ⟨S,.inl ⟨_,_,Gd,_,rfl,ze⟩⟩
end Go.K
namespace Go.K
open Go.Proofs
namespace TKBPut
theorem FD:TI Tryz.prog 131 (.slice none 0 0) 1 24:=by unfold TI;kernel_rfl
theorem Am:TI Tryz.prog 190 (.int .u64 0) 1 8:=by unfold TI;kernel_rfl
end TKBPut
open TKBPut
set_option maxRecDepth 10000
theorem jU.ak6 {M M' N:aD} {w0 w:World} {n:Nat} {ws:List Nat} {bs bw:Nat} {a:List Bool} (hM:Lt M w0) (h:jU 133 190 n ws M' w bs bw) (z1:w0.heap.size≤bs) (z2:w0.heap.size≤bw) (ha:a.length=n) (hb:∀j,bit ws j=true↔a[j]? =some true):uX M w a bs:=
 ⟨ws,⟨bw,⟨trivial,trivial,h.ne,by rw[ha];exact h.s,h.w,by rw[ha];exact h.len,h.ok,by rw[ha];exact h.nn⟩,fun hb=>by have:=hM _ hb;omega,fun hb=>by have:=hM _ hb;omega⟩,hb⟩
theorem AB {M:aD} {w0:World} {n:Nat} (hM:Lt M w0) (hn:n≤1099511627776):Spec Tryz.prog 23 #[.int .i64 n] w0 (fun v w=>∃bs,v= .pointer (some ⟨bs,0,none⟩)∧uX M w (List.replicate n true) bs∧Step M w0 M w aC):=
 (KH (M:=M) hn).mono fun v w ⟨bs,bw,ws,M',h1,z1,z2,s,h,hb⟩=>⟨bs,h1,h.ak6 (N:=aC) hM z1 z2 (ch ..) (fun j=>by
  rw[hb,kY];constructor
  ·intro h;rw[if_pos (by simpa using h)]
  ·intro h;split at h
   ·rename_i h1;simpa using h1
   ·cases h),s.back⟩
end Go.K
namespace Go.K
open Go.Proofs
namespace TKRef11
theorem kG:TI Tryz.prog 124 (.agg #[(.int .i64 0),(.int .i64 0)]) 2 16:=by unfold TI;kernel_rfl
end TKRef11
open TKRef11
set_option maxRecDepth 10000
end Go.K
namespace Go.K
open Go.Proofs
namespace TKLives11
theorem kG:TI Tryz.prog 124 (.agg #[(.int .i64 0),(.int .i64 0)]) 2 16:=by unfold TI;kernel_rfl
theorem E59:Enters Tryz.prog 59:=enters Tryz.func59 rfl (by decide)
end TKLives11
open TKLives11
set_option maxRecDepth 10000
theorem Dn {M:aD} {w0:World} (hM:Lt M w0):
  Spec Tryz.prog 25 #[] w0 (fun v' w'=>v'= .bool true∧Step M w0 M w' aC):=by
 refine bg (args:=[]) (fn:=Tryz.f25) Tryz.func25 rfl (n:=36) Tryz.ntmps25 (aj (ae (ah rfl rfl (ab (aj (ae ?_))))));refine Rg.Sk (A:=RT.int .i64) (hn:=by decide) (M:=M) (xs:=[1,4]) ao I3 rfl (by decide) rfl ⟨1,[4],_,rfl,rfl,rfl,gv (by omega),4,[],_,rfl,rfl,rfl,gv (by omega),rfl⟩ rfl hM (.inr ⟨rfl,rfl⟩) (by decide) (fun u1 w1 Ss s1=>?_);refine eu (A:=RT.int .i64) (hn:=by decide) (M:=M) ao I3 (by decide) rfl rfl (s1.lt hM) (gv (x:=2) (by decide)) (.inr ⟨rfl,rfl⟩) (fun u2 w2 sw s2=>?_);refine Rg.Sk (A:=((RT.int .i64).sl)) (hn:=by decide) (M:=M) (xs:=[[1,4],[2]]) cQ jY rfl (by decide) rfl ⟨_,_,_,rfl,rfl,rfl,Ss.le s2.le,_,_,_,rfl,rfl,rfl,sw,rfl⟩ rfl (s2.lt (s1.lt hM)) (.inr ⟨rfl,rfl⟩) (by decide) (fun u3 w3 J6 s3=>?_);have S3:=(s1.aB s2).aB s3;refine aX rfl rfl E59 (FT (S3.lt hM) J6 (by decide) (by decide) (by decide)) (fun r4 w4 h=>?_);obtain⟨⟨vo,e,rfl,ho⟩,s4⟩:=h;have S4:=S3.aB s4
 obtain⟨rfl,fy⟩:e=0∧((RT.fo).sl).V M w4 (ed [((1:Int),(0:Int),(0:Int)),(2,1,0),(4,0,1)]) vo:=by
  rcases ho with⟨h,_⟩|⟨_,r,h2,h3⟩
  ·exact absurd OP h
  ·obtain rfl:=h2.un KB;rcases h3 with⟨h,_⟩|⟨out,h4,h5,h6⟩
   ·cases h
   ·cases h4;exact⟨h5,h6⟩
 replace fy:((RT.fo).sl).V M w4 [((0:Int),(0:Int)),(1,0),(0,1)] vo:=fy;refine ad rfl rfl (bW rfl rfl rfl (bW rfl rfl rfl (ah rfl rfl (ah rfl rfl (ab (aj (aj (ae (ad rfl rfl (bN fa rfl fy rfl (eM rfl rfl rfl ?_)))))))))));refine ab (T.vP rfl ((fun h=>h rfl)) (aT (aj (ae (ad rfl rfl ?_)))));refine cv (M:=M) fa kG rfl rfl rfl (fy) (aq _ _) (by first|omega|decide) (fun ZH ak7 acK ZU=>?_);obtain rfl:(0,0)=ak7:=dJ (aF (acK.symm.trans rfl));refine cT (M:=M) (A:=RT.fo) cA rfl kG (by decide) rfl rfl rfl (by assumption) (aq _ _) (fun va lG=>?_);obtain⟨rfl,_,_⟩:=rI lG;refine Rg.Qs cA kG I3 rfl rfl rfl (Rg.GM cA ax I3 (by kernel_rfl) (by kernel_rfl) rfl rfl rfl (ad rfl rfl (Rg.Il (g:=18) rfl (rfl) (al rfl rfl (ad rfl rfl (al rfl rfl ?_))))));refine cv (M:=M) fa kG rfl rfl rfl (fy) (aq _ _) (by first|omega|decide) (fun avr ak8 acL ao6=>?_);obtain rfl:(1,0)=ak8:=dJ (aF (acL.symm.trans rfl));refine al rfl rfl ?_;refine cT (M:=M) (A:=RT.fo) cA rfl kG (by decide) rfl rfl rfl (by assumption) (aq _ _) (fun va lG=>?_);obtain⟨rfl,_,_⟩:=rI lG;refine al rfl rfl (Rg.Qs cA kG I3 rfl rfl rfl (al rfl rfl (Rg.GM cA ax I3 (by kernel_rfl) (by kernel_rfl) rfl rfl rfl (aZ rfl rfl rfl (ad rfl rfl (Rg.Il (g:=25) rfl (rfl) (al rfl rfl (ad rfl rfl (al rfl rfl ?_)))))))));refine cv (M:=M) fa kG rfl rfl rfl (fy) (aq _ _) (by first|omega|decide) (fun aaN Od HG Wn=>?_);obtain rfl:(0,1)=Od:=dJ (aF (HG.symm.trans rfl));refine al rfl rfl ?_;refine cT (M:=M) (A:=RT.fo) cA rfl kG (by decide) rfl rfl rfl (by assumption) (aq _ _) (fun va lG=>?_)
 obtain⟨rfl,_,_⟩:=rI lG;refine al rfl rfl (Rg.Qs cA kG I3 rfl rfl rfl (al rfl rfl (Rg.GM cA ax I3 (by kernel_rfl) (by kernel_rfl) rfl rfl rfl (aZ rfl rfl rfl (ad rfl rfl (Rg.Il (g:=32) rfl (rfl) (al rfl rfl (ad rfl rfl (al rfl rfl (tY rfl rfl rfl (aZ rfl rfl rfl ?_)))))))))));refine ah rfl rfl (ab (aP ?_));exact aV rfl rfl ⟨rfl,S4⟩
end Go.K
namespace Go.K
open Go.Proofs
namespace TKNone11
theorem HY:TI Tryz.prog 25 (.pointer none) 1 8:=by unfold TI;kernel_rfl
theorem Lc:TI Tryz.prog 47 (.pointer none) 1 8:=by unfold TI;kernel_rfl
theorem E11:Enters Tryz.prog 11:=enters Tryz.func11 rfl (by decide)
theorem E12:Enters Tryz.prog 12:=enters Tryz.func12 rfl (by decide)
theorem E22:Enters Tryz.prog 22:=enters Tryz.func22 rfl (by decide)
theorem E23:Enters Tryz.prog 23:=enters Tryz.func23 rfl (by decide)
theorem E24:Enters Tryz.prog 24:=enters Tryz.func24 rfl (by decide)
theorem E25:Enters Tryz.prog 25:=enters Tryz.func25 rfl (by decide)
theorem TW:Enters Tryz.prog 34:=enters Tryz.func34 rfl (by decide)
theorem E37:Enters Tryz.prog 37:=enters Tryz.func37 rfl (by decide)
theorem E38:Enters Tryz.prog 38:=enters Tryz.func38 rfl (by decide)
end TKNone11
open TKNone11
set_option maxRecDepth 10000
theorem iI.one {M:aD} {w:World} {L:List En} {a:List Bool} {b:Nat} (h:uX M w a b):iI M w [(L,a)] [b]:=⟨rfl,fun i b' p h1 h2=>by
 cases i with
 |zero=>simp only[kW,dy]at h1 h2;subst h1;subst h2;exact h
 |succ i=>simp at h1⟩
theorem iI.cons {M:aD} {w:World} {g:Gs} {bs:List Nat} {L:List En} {a:List Bool} {b:Nat} (h:uX M w a b) (h':iI M w g bs):iI M w ((L,a)::g) (b::bs):=⟨by rw[cI,cI,h'.1],fun i b' p h1 h2=>by
 cases i with
 |zero=>simp only[kW,dy]at h1 h2;subst h1;subst h2;exact h
 |succ i=>simp only[List.getElem?_cons_succ]at h1 h2;exact h'.2 i b' p h1 h2⟩
theorem KX {L:List En} (h:pR (-1) L=true):(keysOf L).length≤500*L.length:=by
 have h1:=(lv L).nodup.length_le_of_subset (l₂:=iO L) (fun x hx=>jA.1 hx);have:=oT (kF h);omega
theorem AD {L:List En}:A9 (partsOf (lx (ew L)) ((keysOf L).map (pk L))) (partsOf (lx (ew L)) ((keysOf L).map (pk L)))=true:=by simp[A9]
end Go.K
namespace Go.K
open Go.Proofs
namespace TKSet11
theorem E24:Enters Tryz.prog 24:=enters Tryz.func24 rfl (by decide)
end TKSet11
open TKSet11
set_option maxRecDepth 10000
end Go.K
namespace Go.K
open Go.Proofs
namespace TKKeeps11
theorem HY:TI Tryz.prog 25 (.pointer none) 1 8:=by unfold TI;kernel_rfl
theorem Lc:TI Tryz.prog 47 (.pointer none) 1 8:=by unfold TI;kernel_rfl
theorem A4:TI Tryz.prog 72 (.agg #[(.slice none 0 0),(.slice none 0 0),(.slice none 0 0),(.slice none 0 0)]) 4 96:=by unfold TI;kernel_rfl
theorem E11:Enters Tryz.prog 11:=enters Tryz.func11 rfl (by decide)
theorem E12:Enters Tryz.prog 12:=enters Tryz.func12 rfl (by decide)
theorem E22:Enters Tryz.prog 22:=enters Tryz.func22 rfl (by decide)
theorem E25:Enters Tryz.prog 25:=enters Tryz.func25 rfl (by decide)
theorem E32:Enters Tryz.prog 32:=enters Tryz.func32 rfl (by decide)
theorem TW:Enters Tryz.prog 34:=enters Tryz.func34 rfl (by decide)
end TKKeeps11
open TKKeeps11
set_option maxRecDepth 10000
theorem F4 (Z:List (En×Bool)):(Fz Z).length≤Z.length:=by unfold Fz;rw[aH];exact jT _ _
theorem R8 {L:List En} {a:List Bool} (h:pR (-1) L=true):pR (-1) (Fz (L.zip a))=true:=
 CX (fun e he=>by obtain⟨d,h1,_⟩:=FA.1 he;exact rK h e (az h1)) (CZ (lj h))
end Go.K
namespace Go.K
open Go.Proofs
namespace TKDeal11
theorem K7:TI Tryz.prog 29 (.slice none 0 0) 1 24:=by unfold TI;kernel_rfl
end TKDeal11
open TKDeal11
set_option maxRecDepth 10000
theorem Dp {M:aD} {w:World} {xs:List Int} {v:Value} (h:((RT.int .i64).sl).V M w xs v) (i:Nat): -9223372036854775808≤xs.getD i 0∧xs.getD i 0≤9223372036854775807:=by
 obtain⟨a,cap,_,_,_,hs⟩:=iz.1 h;rw[aA];rcases hs with rfl|⟨b,o,_,_,h3⟩
 ·simp
 ·cases hi:xs[i]? with
  |none=>exact⟨by decide,by decide⟩
  |some x=>obtain⟨vs,hr,_⟩:=h3 i x hi;exact hr.2
theorem XV {α:Type} {A:RT α} {hn:0<A.n} {M:aD} {w:World} {b:Nat} {e:TypeId} {vs:List Value} {ls:List (List α)} (h:w.heap[b]? =some (.cells vs.toArray e (0,0))) (hb: ¬M b) (hl:vs.length=ls.length) (hx:∀(j:Nat) (v:Value) (l:List α),vs[j]? =some v→ls[j]? =some l→(A.sl hn).V M w l v) (hm:ls.length≤140737488355328):((A.sl hn).sl (hn:=Nat.one_pos)).V M w ls (.slice (some ⟨b,0,none⟩) ls.length ls.length):=
 iz.2 ⟨_,_,rfl,aR _,hm,.inr ⟨b,0,rfl,hb,fun i l hi=>by
  obtain⟨v,hv⟩:∃v,vs[i]? =some v:=⟨_,ar (by rw[hl];exact(an.1 hi).1)⟩;obtain⟨us,⟨a,cap,rfl,h3⟩,h2⟩:=hx i v l hv hi;refine⟨_,⟨a,cap,rfl,h3⟩,fun j u hj=>?_⟩
  cases j with
  |zero=>
   simp at hj;subst hj;refine fG h ?_;show vs.toArray[0+i*1+0]? =_;rw[eI,show 0+i*1+0=i by omega,hv];exact congrArg some h2
  |succ j=>simp at hj⟩⟩
structure oe (M:aD) (w:World) (base:Nat) (vs:List Value) (f:Nat→List En):Prop where
 own:∀(j:Nat) (v:Value),vs[j]? =some v→Own RT.en 71 M w base v (f j)
 apart:∀(j j':Nat) (v v':Value),vs[j]? =some v→vs[j']? =some v'→j≠j'→ix v v'
theorem oe.step {M M' N:aD} {w w':World} {base:Nat} {vs:List Value} {f:Nat→List En} (h:oe M w base vs f) (s:Step M w M' w' N) (hn:∀(j:Nat) (v:Value) (c:Nat),vs[j]? =some v→v.ownBlock=some c→¬N c):oe M' w' base vs f:=
 ⟨fun j v hv=>(h.own j v hv).step s (fun c hc=>hn j v c hv hc),h.apart⟩
theorem oe.aO {M M':aD} {w w':World} {base:Nat} {vs:List Value} {f:Nat→List En} (h:oe M w base vs f) (s:Step M w M' w' aC):oe M' w' base vs f:=h.step s fun _ _ _ _ _ h=>h
theorem oe.grow {M M':aD} {w w':World} {base k:Nat} {vs:List Value} {f f':Nat→List En} {v v':Value} (h:oe M w base vs f) (hk:vs[k]? =some v) (s:Step M w M' w' (fD v)) (ho:Own RT.en 71 M' w' base v' (f' k)) (hF:∀b,v'.ownBlock=some b→w.heap.size≤b∨v.ownBlock=some b) (hf:∀j,j≠k→f' j=f j):oe M' w' base (vs.set k v') f':=by
 have Dw:=(an.1 hk).1
 have hg:∀j u,(vs.set k v')[j]? =some u→(j=k∧u=v')∨(j≠k∧vs[j]? =some u):=fun j u hj=>by
  rw[dp]at hj;by_cases e:k=j
  ·rw[if_pos e,if_pos (by omega)]at hj;exact .inl ⟨e.symm,(aF hj).symm⟩
  ·rw[if_neg e]at hj;exact .inr ⟨fun h=>e h.symm,hj⟩
 refine⟨fun j u hj=>?_,fun j j' u u' hj SB eN=>?_⟩
 ·rcases hg j u hj with⟨rfl,rfl⟩|⟨h1,h2⟩
  ·exact ho
  ·rw[hf j h1];exact(h.own j u h2).step s (fun c hc hb=>h.apart j k u v h2 hk h1 c hc hb)
 ·rcases hg j u hj with⟨rfl,rfl⟩|⟨h1,h2⟩<;>rcases hg j' u' SB with⟨rfl,rfl⟩|⟨h3,h4⟩
  ·exact absurd rfl eN
  ·exact(h.apart j j' v u' hk h4 eN).grown hF (fun b hb=>((h.own j' u' h4).base b hb).2)
  ·exact((h.apart j' j v u hk h2 (fun e=>eN e.symm)).grown hF (fun b hb=>((h.own j u h2).base b hb).2)).symm
  ·exact h.apart j j' u u' h2 h4 eN
theorem F5 {M:aD} {w0:World} {g:List En} {to:List Int} {m:Nat} {v0 v1:Value} (hM:Lt M w0) (hv:(RT.en.sl).V M w0 g v0) (ht:((RT.int .i64).sl).V M w0 to v1) (hm:0<m∧m≤1000) (T4:g.length≤100000):
  Spec Tryz.prog 26 #[v0,v1,.int .i64 (m:Int)] w0 (fun v w=>((RT.en.sl).sl).V M w (yv g (fX to m) m) v∧Step M w0 M w aC):=by
 have jO:=hM;have Is:=dD ht;refine bg (args:=[_,_,_]) (fn:=Tryz.f26) Tryz.func26 rfl (n:=48) Tryz.ntmps26 ?_;have S:Step M w0 M w0 aC:=(au _ _).cB (fun _ h=>h.elim) (fun _ h=>h.elim);refine aj (ae (ah rfl rfl (ab (aj (ae (ad rfl rfl ?_))))));refine Rg.mk0 M Tryz.underlying51 K7 rfl rfl rfl rfl (by omega) (by omega) (fun bo w1 z1 z1' og s1=>?_);generalize hMq:ins M bo=Mq at s1;have kL:Mq bo:=by rw[←hMq];exact .inl rfl
 replace hv:=hv.le s1.le;replace ht:=ht.le s1.le;replace hM:=s1.lt hM;have:=S.size;replace S:=S.aB s1;refine ah rfl rfl (ab (aj (aj (ae (ah rfl rfl (ab (aY ?_)))))));refine dh (σ:=Nat×List Value) (fun q=>[(0,v0),(1,v1),(2,.int .i64 (m:Int)),(7,.slice (some ⟨bo,0,none⟩) m m),(8,.int .i64 (q.1:Int))]) (fun q w=>q.1≤g.length∧q.2.length=m∧∃M1,Lt M1 w∧Step M w0 M1 w aC∧(RT.en.sl).V M1 w g v0∧((RT.int .i64).sl).V M1 w to v1∧M1 bo∧w.heap[bo]? =some (.cells q.2.toArray 29 (0,0))∧oe M1 w w0.heap.size q.2 (fun j=>uV g (fX to m) j q.1)) (fun q=>g.length-q.1) (0,List.replicate m (.slice none 0 0)) (.cons rfl (.cons rfl (.cons rfl (.cons rfl (.cons rfl .nil))))) ?_ ?_
 ·refine⟨bD _,ch ..,_,hM,S,hv,ht,kL,og,fun j v hj=>?_,fun j j' v v' hj SB _=>?_⟩
  ·obtain rfl:=iL (az hj);exact dz _ _ _ _ _
  ·obtain rfl:=iL (az SB);exact ix.nil _
 ·clear S hv ht hM og kL;rintro⟨i,vs⟩ w ⟨hi,j7,M1,hM,S,hv,ht,kL,og,iA⟩;dsimp only at hi j7 og iA ⊢;refine aj (aj (ae (ad rfl rfl (ad rfl rfl (bN eE rfl hv rfl (cg rfl rfl rfl (ab ?_)))))));refine bM rfl (fun c3=>?_) (fun c3=>?_)
  ·refine aT (aj (aY (aj (ae (ah rfl rfl (ab ?_))))));refine T.ym [(0,v0),(1,v1),(2,.int .i64 (m:Int)),(7,.slice (some ⟨bo,0,none⟩) m m),(8,.int .i64 (i:Int)),(9,.int .i64 (to.getD i 0))] ?_ ?_
   ·refine aj (ae (ad rfl rfl (ad rfl rfl ?_)));have hrx:=Dp ht i;refine bN ao rfl ht rfl (cg rfl rfl rfl (ab ?_));refine bM rfl (fun c6=>?_) (fun c6=>?_)
    ·refine ae (ad rfl rfl (ad rfl rfl ?_));obtain⟨x,Ca⟩:∃x,to[i]? =some x:=⟨_,ar (by omega)⟩;refine cv (M:=M1) ao I3 rfl rfl rfl ht (aq _ _) (by omega) (fun u72 y' iw ald=>?_);rw[ay]at iw;obtain rfl:=aF (Ca.symm.trans iw);refine cd (M:=M1) ax rfl rfl ald (aq _ _) (fun ale=>?_);refine aU (v':= .int .i64 (to.getD i 0)) (by rw[aA,Ca];rfl) ?_;refine ah rfl rfl (ab ?_);exact⟨rfl,rfl,rfl,.cons rfl (.cons rfl (.cons rfl (.cons rfl (.cons rfl (.cons (by first|rfl|exact congrArg (fun z=>some (Value.int .i64 z)) (by rw[aA,du (by omega)];rfl)) (.nil))))))⟩
    ·refine aT ?_;exact⟨rfl,rfl,rfl,.cons rfl (.cons rfl (.cons rfl (.cons rfl (.cons rfl (.cons (by first|rfl|exact congrArg (fun z=>some (Value.int .i64 z)) (by rw[aA,du (by omega)];rfl)) (.nil))))))⟩
   ·refine T.ym [(0,v0),(1,v1),(2,.int .i64 (m:Int)),(7,.slice (some ⟨bo,0,none⟩) m m),(8,.int .i64 (i:Int)),(9,.int .i64 (if to.getD i 0<0 then-(to.getD i 0+1)else to.getD i 0))] ?_ ?_
    ·refine aj (ae ?_);have hrx:=Dp ht i;refine ad rfl rfl (cg rfl rfl rfl (ab ?_));refine bM rfl (fun c8=>?_) (fun c8=>?_)
     ·refine ae (ad rfl rfl (bG rfl rfl rfl (by omega) (Rg.neg rfl rfl (by omega) (ah rfl rfl (ab ?_)))));exact⟨rfl,rfl,rfl,.cons rfl (.cons rfl (.cons rfl (.cons rfl (.cons rfl (.cons (by first|exact congrArg (fun z=>some (Value.int .i64 z)) (if_pos c8).symm|exact congrArg (fun z=>some (Value.int .i64 z)) (if_neg c8).symm) (.nil))))))⟩
     ·refine aT ?_;exact⟨rfl,rfl,rfl,.cons rfl (.cons rfl (.cons rfl (.cons rfl (.cons rfl (.cons (by first|exact congrArg (fun z=>some (Value.int .i64 z)) (if_pos c8).symm|exact congrArg (fun z=>some (Value.int .i64 z)) (if_neg c8).symm) (.nil))))))⟩
    ·refine aj (ae ?_);have hrx:=Dp ht i;refine ad rfl rfl (ad rfl rfl (Rg.AM rfl rfl rfl (by split<;>omega) ?_));have Dw:=Jg (to:=to) hm.1 i;obtain⟨k,hk⟩:∃k:Nat,fX to m i=k:=⟨_,rfl⟩;rw[hk]at Dw;refine aU (v':= .int .i64 (k:Int)) (congrArg (Value.int .i64) (by rw[←hk];unfold fX;exact(pb (Int.emod_nonneg _ (by omega))).symm)) ?_;obtain⟨vk,jP⟩:∃v,vs[k]? =some v:=⟨_,ar (by omega)⟩;refine ah rfl rfl (ab ?_);apply T.oG 10 [0,1,2,3,4,5] 2 (fun b=>fD vk b) mixed rfl rfl rfl rfl;intro Hu Hv;have iq:=Hv M1;have:=ak og;replace kL:=(iq.mem _ this).2 kL;replace og:=iq.aL og;replace hv:=hv.le iq.le;replace ht:=ht.le iq.le;replace iA:=iA.aO iq;replace hM:=iq.lt hM;have:=S.size;replace S:=S.aB iq;refine ad rfl rfl ?_;refine ab ⟨rfl,rfl,rfl,?_⟩;refine ad rfl rfl ?_;refine ab ⟨rfl,rfl,rfl,?_⟩;refine ad rfl rfl ?_;refine ab ⟨rfl,rfl,rfl,?_⟩;refine ad rfl rfl ?_;refine ab ⟨rfl,rfl,rfl,?_⟩;refine Rg.GL Tryz.underlying51 K7 rfl rfl rfl (by omega) ?_;refine ab ⟨rfl,rfl,rfl,?_⟩;refine aN eE rfl rfl rfl og (v:=vk) (by rw[ay,eI];exact jP) ?_;refine ab ⟨rfl,rfl,rfl,?_⟩;refine ad rfl rfl ?_;refine ab ⟨rfl,rfl,rfl,?_⟩;refine ad rfl rfl ?_;refine ab ⟨rfl,rfl,rfl,?_⟩;obtain⟨x,l8⟩:∃x,g[i]? =some x:=⟨_,ar (by omega)⟩;refine cv (M:=M1) eE Dx rfl rfl rfl hv (aq _ _) (by omega) (fun avt y' iw Ul=>?_);rw[ay]at iw;obtain rfl:=aF (l8.symm.trans iw);refine ab ⟨rfl,rfl,rfl,?_⟩;refine cT (M:=M1) (A:=RT.en) dV rfl Dx (by decide) rfl rfl rfl Ul (aq _ _) (fun avu Um=>?_);refine ab ⟨rfl,rfl,rfl,?_⟩;refine eD ?_;refine⟨ik ⟨eW,⟨eW,⟨eW,⟨eW,⟨bZ.idx,⟨ey rfl og (fun h=>(iA.own k vk jP).eS og (by decide) h),trivial⟩⟩⟩⟩⟩⟩,?_⟩
     have kp:=jl (fun b=>fD vk b) Hu;refine eu (A:=RT.en) (hn:=by decide) (M:=M1) eE Dx (by decide) rfl rfl hM (Um) (.inl rfl) (fun Mf U4 Jt lN=>?_);have:=ak og;replace kL:=(lN.mem _ this).2 kL;replace og:=lN.aL og;replace hv:=hv.le lN.le;replace ht:=ht.le lN.le;replace iA:=iA.aO lN;replace hM:=lN.lt hM;have:=S.size;replace S:=S.aB lN;refine(fun(kp:eJ _ _ _)=>ab ⟨rfl,rfl,fun _=>kp,?_⟩) (by first|exact kp|exact kp.ry (by assumption)|exact kp.goN (by assumption)|exact kp.go (by assumption) (fun _ _ h=>by first|exact h|exact h.elim));have hdl:=rL (g:=g) (kof:=fX to m) (j:=k) i;refine l0 (M:=M1) (base:=w0.heap.size) eE Dx rfl rfl rfl rfl (iA.own k vk jP) Jt (aq _ _) (by rw[cK];omega) (by rw[cK];omega) S.size (fun va wa hoa sa hFa=>?_);have PE:=iA.grow (f':=fun j=>uV g (fX to m) j (i+1)) jP sa (by show Own _ _ _ _ _ _ (uV g (fX to m) k i++_);rw[if_pos hk,l8];exact hoa) hFa (fun j hj=>by show uV g (fX to m) j i++_=_;rw[if_neg (by omega),fT]);have ngo:=fun c (hc:vk.ownBlock=some c)=>((iA.own k vk jP).base c hc).1
     replace kL:=(sa.mem _ (ak og)).2 kL;replace og:=sa.keep og (fun h=>(iA.own k vk jP).eS og (by decide) h);replace hv:=hv.le sa.le;replace ht:=ht.le sa.le;replace S:=S.cX sa (iA.own k vk jP) (aR _);replace hM:=sa.lt hM;generalize jF (M1) va=Ma at PE kL hv ht S hM hoa sa;clear iA Ul Um Jt;have iA:=PE;clear PE;refine(fun(kp:eJ _ _ _)=>ab ⟨rfl,rfl,fun _=>kp,?_⟩) (kp.go sa (fun b hb h=>h));refine Rg.GL Tryz.underlying51 K7 rfl rfl rfl (by omega) ?_;refine ab ⟨rfl,rfl,fun h=>absurd rfl h,?_⟩;obtain⟨_,_,acN,_⟩:=hoa.isSlice;refine cw (M:=Ma) (u:=vk) K7 rfl rfl og (by rw[ay,eI];exact jP) (by rw[acN];rfl) kL (fun wb gb sb=>?_);rw[ay,List.setIfInBounds_toArray]at gb;replace iA:=iA.step sb (fun j v c hj hc (hb:c=bo)=>(iA.own j v hj).eS og (by decide) (hb▸hc));replace hv:=hv.le sb.le;replace ht:=ht.le sb.le;replace kL:=(sb.mem _ (ak og)).2 kL;replace S:=S.cf sb (fun b (hb:b=bo)=>by omega);replace hM:=sb.lt hM;refine ab ⟨rfl,rfl,fun h=>absurd rfl h,?_⟩;refine lJ (ae (ad rfl rfl (bG rfl rfl rfl (by omega) (ah rfl rfl (ab ?_)))));refine⟨rfl,(i+1,vs.set k va),(.cons rfl (.cons rfl (.cons rfl (.cons rfl (.cons rfl .nil))))),?_,?_⟩
     ·exact⟨by dsimp only;omega,by dsimp only;rw[eY];exact j7,_,hM,S,hv,ht,kL,gb,iA⟩
     ·dsimp only;omega
  ·refine cH (aj (ae (ad rfl rfl (ah rfl rfl (ab (aP ?_))))));have e:i=g.length:=by omega
   subst e;have hlen:(yv g (fX to m) m).length=m:=by unfold yv;rw[aH,List.length_range]
   have hV:=XV (A:=RT.en) (hn:=by decide) (M:=M) og (fun h=>by have:=jO _ h;omega) (by rw[hlen];exact j7) (fun j v l hj hl=>by
    have Bj:j<m:=by rw[←hlen];exact(an.1 hl).1
    rw[Jf Bj]at hl;obtain rfl:=aF hl;exact(iA.own j v hj).close jO S (by have:=rL (g:=g) (kof:=fX to m) (j:=j) g.length;omega)) (by rw[hlen];omega)
   rw[hlen]at hV;exact aV rfl rfl ⟨hV,S.back⟩
end Go.K
namespace Go.K
open Go.Proofs
set_option maxRecDepth 10000
theorem iI.snoc {M:aD} {w:World} {g:Gs} {bs:List Nat} {L:List En} {a:List Bool} {b:Nat} (h:iI M w g bs) (hb:uX M w a b):iI M w (g++[(L,a)]) (bs++[b]):=⟨by rw[a8,a8,h.1];rfl,fun i b' p h1 h2=>by
 have hl:=h.1;rcases cE i g.length with hi|hi
 ·rw[fF (by omega)]at h1;rw[fF hi]at h2;exact h.2 i b' p h1 h2
 ·rw[jI (by omega)]at h1;rw[jI hi]at h2
  have h0:i-g.length=0:=by
   rcases Nat.eq_zero_or_pos (i-g.length)with h|h
   ·exact h
   ·rw[du (by rw[cK];exact h)]at h2;cases h2
  rw[hl,h0]at h1;rw[h0]at h2;simp only[kW,dy]at h1 h2;subst h1;subst h2;exact hb⟩
theorem iI.take {M:aD} {w:World} {g:Gs} {bs:List Nat} (h:iI M w g bs) (n:Nat):iI M w (g.take n) (bs.take n):=⟨by rw[br,br,h.1],fun i b p h1 h2=>by
 rw[ck]at h1 h2
 split at h1
 ·rename_i hi;rw[if_pos hi]at h2;exact h.2 i b p h1 h2
 ·cases h1⟩
theorem iI.nil {M:aD} {w:World}:iI M w [] []:=⟨rfl,fun i b p h1 _=>by simp at h1⟩
theorem j3 (Ls:List (List En)):(xE Ls).length=Ls.length:=by unfold xE;rw[aH]
theorem F6 (Ls:List (List En)) (L:List En):xE (Ls++[L])=xE Ls++[(L,List.replicate L.length true)]:=by unfold xE;rw[ec];rfl
theorem F7 (Ls:List (List En)) (n:Nat):xE (Ls.take n)=(xE Ls).take n:=by unfold xE;exact List.map_take
theorem R9 (Ls:List (List En)):(xE Ls).map (·.1)=Ls:=by unfold xE;rw[List.map_map];exact List.map_id Ls
theorem PF {Ls:List (List En)} {i:Nat} {L:List En} (h:Ls[i]? =some L):(xE Ls)[i]? =some (L,List.replicate L.length true):=by unfold xE;rw[bj,h];rfl
theorem XW {g:List En} {kof:Nat→Nat} {m:Nat} (h:pR (-1) g=true):∀L∈yv g kof m,pR (-1) L=true∧L.length≤g.length∧∀e∈L,e∈g:=fun L hL=>by
 unfold yv at hL;obtain⟨j,_,rfl⟩:=bV.1 hL;exact⟨OU h _,rL _,fun e he=>by obtain⟨i,_,_,h3⟩:=jj.1 he;exact az h3⟩
theorem Sa (g:List En) (kof:Nat→Nat) (m:Nat):(yv g kof m).length=m:=by unfold yv;rw[aH,List.length_range]
def nk (g:List En) (kof:Nat→Nat) (m:Nat):List En:=Fz (g.zip ((List.range g.length).map fun i=>decide (kof i<m)))
theorem vG {g:List En} {kof:Nat→Nat} {m:Nat} {e:En}:e∈nk g kof m↔∃i,kof i<m∧g[i]? =some e:=by
 unfold nk;rw[FA];constructor
 ·rintro⟨d,h1,h2⟩;rw[bj,List.getElem?_range (an.1 h1).1]at h2;exact⟨d,by simpa using h2,h1⟩
 ·rintro⟨d,h1,h2⟩;exact⟨d,h2,by rw[bj,List.getElem?_range (an.1 h2).1];simpa using h1⟩
theorem PG {g:List En} {kof:Nat→Nat} {e:En}:(∃L∈(yv g kof 3).take 2,e∈L)↔e∈nk g kof 2:=by
 rw[vG];have e1:(yv g kof 3).take 2=[uV g kof 0 g.length,uV g kof 1 g.length]:=rfl;rw[e1];constructor
 ·rintro⟨L,h1,h2⟩;simp only[ca,dR,or_false]at h1;rcases h1 with rfl|rfl<;>(obtain⟨i,_,h3,h4⟩:=jj.1 h2;exact⟨i,by omega,h4⟩)
 ·rintro⟨i,h1,h2⟩;have hi:=(an.1 h2).1;rcases(show kof i=0∨kof i=1 by omega)with h|h
  ·exact⟨_,bH ..,jj.2 ⟨i,hi,h,h2⟩⟩
  ·exact⟨_,b9 _ (bH ..),jj.2 ⟨i,hi,h,h2⟩⟩
theorem PH {g:List En} {kof:Nat→Nat} (hk:∀i,kof i<3) {e:En}:(∃L∈[uV g kof 2 g.length,nk g kof 2],e∈L)↔e∈g:=by
 constructor
 ·rintro⟨L,h1,h2⟩;simp only[ca,dR,or_false]at h1;rcases h1 with rfl|rfl
  ·obtain⟨i,_,_,h4⟩:=jj.1 h2;exact az h4
  ·obtain⟨i,_,h4⟩:=vG.1 h2;exact az h4
 ·intro h;obtain⟨i,hi⟩:=bz.1 h;have ou:=(an.1 hi).1;rcases cE (kof i) 2 with h|h
  ·exact⟨_,b9 _ (bH ..),vG.2 ⟨i,h,hi⟩⟩
  ·exact⟨_,bH ..,jj.2 ⟨i,ou,by have:=hk i;omega,hi⟩⟩
theorem Sb {g:List En} {kof:Nat→Nat} (hu:g.Pairwise fun a b=>a.2<b.2):([uV g kof 2 g.length,nk g kof 2]:List (List En)).flatten.Pairwise fun x y=>x.2≠y.2:=by
 rw[List.flatten_cons,List.flatten_cons,List.flatten_nil,fT];refine iP.2 ⟨(C0 hu _).imp fun h e=>by omega,(CZ hu).imp fun h e=>by omega,fun x hx y hy e=>?_⟩;obtain⟨i,_,h2,h3⟩:=jj.1 hx;obtain⟨i',xT,X9⟩:=vG.1 hy;have:=OT hu h3 X9 e;subst this;omega
def Sd (M:aD) (E:List En):cG M:=cG.mk' (fun v w=>∃s,v= .tuple #[.pointer (some s),.int .i64 0]∧cO RT.se M w (.pointer (some s)) (lx (ew E))) (fun⟨s,h1,h2⟩ st=>⟨s,h1,h2.le (by decide) st.le⟩)
def alg (M:aD) (a:List Bool):cG M:=cG.mk' (fun v w=>∃b,v= .pointer (some ⟨b,0,none⟩)∧uX M w a b) (fun⟨b,h1,h2⟩ st=>⟨b,h1,h2.le st.le⟩)
def acO (M:aD) (b0:Nat) (a:List Bool):cG M:=cG.mk' (fun v w=>∃b,(RT.D1.sl).V M w [b0,b] v∧uX M w a b) (fun⟨b,h1,h2⟩ st=>⟨b,h1.le st.le,h2.le st.le⟩)
theorem rr {M:aD} {Ls:List (List En)} {bs:List Nat} {v0 v1:Value} {w0:World} (hM:Lt M w0) (hs:(((RT.se).ptr).sl).V M w0 ((xE Ls).map fun p=>lx (ew p.1)) v0) (hb:(RT.D1.sl).V M w0 bs v1) (cF:iI M w0 (xE Ls) bs) (hok:∀L∈Ls,pR (-1) L=true) (hn:∀L∈Ls,L.length≤100) (hl:Ls.length≤100) (tU:Ls.flatten.Pairwise fun x y=>x.2≠y.2) (h0: ¬M 1) (FE:∃e fr,w0.heap[1]? =some (.cells (Iw.map fun(k:Nat)=>Value.int .u8 (k:Int)).toArray e fr)):
  Spec Tryz.prog 22 #[v0,v1] w0 (fun v w=>∃s E,v= .tuple #[s,.int .i64 0]∧cO RT.se M w s (lx (ew E))∧pR (-1) E=true∧(∀e,e∈E↔∃L∈Ls,e∈L)∧Step M w0 M w aC):=by
 refine(Ib (g:=xE Ls) (bs:=bs) hM hs hb cF (TT hok) (by rw[j3];exact hl) (fun p hp=>?_) (fun p hp=>?_) h0 FE).mono fun v w ⟨s,h⟩=>?_
 ·unfold xE at hp;obtain⟨L,hL,rfl⟩:=bV.1 hp;exact ez (hn L hL) (by decide)
 ·unfold xE at hp;obtain⟨L,hL,rfl⟩:=bV.1 hp;have h1:=KX (hok L hL);have h2:=hn L hL;show(keysOf L).length≤_;omega
 ·obtain⟨os,E,Gd,sg,rfl,ze⟩:=h.resolve_right (fun h=>B0 (by rw[R9];exact tU) h.1);exact⟨sg,E,rfl,ze,Gd.ok (TT hok),fun e=>RD Gd,s⟩
theorem Ju {g:List En} {kof:Nat→Nat} (h:pR (-1) g=true):∀L∈[uV g kof 2 g.length,nk g kof 2],pR (-1) L=true∧L.length≤g.length:=fun L hL=>by
 simp only[ca,dR,or_false]at hL;rcases hL with rfl|rfl
 ·exact⟨OU h _,rL _⟩
 ·refine⟨R8 h,?_⟩;have:=F4 (g.zip ((List.range g.length).map fun i=>decide (kof i<2)));rw[List.length_zip]at this;unfold nk;omega
theorem F8 {M:aD} {L E':List En} {b b':Nat} {v0 v1:Value} {w0:World} (hM:Lt M w0) (hs:(((RT.se).ptr).sl).V M w0 [lx (ew L),lx (ew E')] v0) (hb:(RT.D1.sl).V M w0 [b,b'] v1) (h1:uX M w0 (List.replicate L.length true) b) (h2:uX M w0 (List.replicate E'.length true) b') (hok:∀L'∈[L,E'],pR (-1) L'=true) (hn:∀L'∈[L,E'],L'.length≤100) (tU: [L,E'].flatten.Pairwise fun x y=>x.2≠y.2) (h0: ¬M 1) (FE:∃e fr,w0.heap[1]? =some (.cells (Iw.map fun(k:Nat)=>Value.int .u8 (k:Int)).toArray e fr)):
  Spec Tryz.prog 22 #[v0,v1] w0 (fun v w=>∃s E,v= .tuple #[s,.int .i64 0]∧cO RT.se M w s (lx (ew E))∧pR (-1) E=true∧(∀e,e∈E↔∃L'∈[L,E'],e∈L')∧Step M w0 M w aC):=
 rr (Ls:=[L,E']) (bs:=[b,b']) hM hs hb (iI.cons h1 (iI.one h2)) hok hn (by simp) tU h0 FE
end Go.K
namespace Go.K
open Go.Proofs
namespace TKBuilds11
theorem HY:TI Tryz.prog 25 (.pointer none) 1 8:=by unfold TI;kernel_rfl
theorem K7:TI Tryz.prog 29 (.slice none 0 0) 1 24:=by unfold TI;kernel_rfl
theorem Lc:TI Tryz.prog 47 (.pointer none) 1 8:=by unfold TI;kernel_rfl
theorem E11:Enters Tryz.prog 11:=enters Tryz.func11 rfl (by decide)
theorem E12:Enters Tryz.prog 12:=enters Tryz.func12 rfl (by decide)
theorem E13:Enters Tryz.prog 13:=enters Tryz.func13 rfl (by decide)
theorem E22:Enters Tryz.prog 22:=enters Tryz.func22 rfl (by decide)
theorem E23:Enters Tryz.prog 23:=enters Tryz.func23 rfl (by decide)
theorem E25:Enters Tryz.prog 25:=enters Tryz.func25 rfl (by decide)
theorem E26:Enters Tryz.prog 26:=enters Tryz.func26 rfl (by decide)
theorem TW:Enters Tryz.prog 34:=enters Tryz.func34 rfl (by decide)
theorem E37:Enters Tryz.prog 37:=enters Tryz.func37 rfl (by decide)
end TKBuilds11
open TKBuilds11
set_option maxRecDepth 10000
set_option maxHeartbeats 4000000 in
theorem xb {M:aD} {l:List Dc} {to:List Int} {v0 v1:Value} {w0:World} (hM:Lt M w0) (hv:(RT.dc.sl).V M w0 l v0) (ht:((RT.int .i64).sl).V M w0 to v1) (h0: ¬M 1) (FE:∃e fr,w0.heap[1]? =some (.cells (Iw.map fun(k:Nat)=>Value.int .u8 (k:Int)).toArray e fr)):
  Spec Tryz.prog 8 #[v0,v1] w0 (fun v w=>v= .bool true∧Step M w0 M w aC):=by
 have jO:=hM;obtain⟨etb,ftb,RX⟩:=FE;have T4:=mn l 5 1 10;obtain⟨hok,_⟩:=Fj l (show(0:Int)≤5 by decide) (show(1:Int)≤1 by decide) 10;have hku:=fun i=>Jg (to:=to) (show 0<3 by decide) i
 have hLs:=XW (kof:=fX to 3) (m:=3) hok;have hLl:=Sa (dn l 5 1 10) (fX to 3) 3;have tU:(yv (dn l 5 1 10) (fX to 3) 3).flatten.Pairwise fun x y=>x.2≠y.2:=FB (lj hok) (List.range 3) List.nodup_range
 have alh:((yv (dn l 5 1 10) (fX to 3) 3).take 2).flatten.Pairwise fun x y=>x.2≠y.2:=FB (lj hok) [0,1] (by decide)
 refine bg (args:=[_,_]) (fn:=Tryz.f8) Tryz.func8 rfl (n:=117) Tryz.ntmps8 ?_;have S:Step M w0 M w0 aC:=(au _ _).cB (fun _ h=>h.elim) (fun _ h=>h.elim);refine aj (ae (ah rfl rfl (ab (aj (ae (ad rfl rfl ?_))))));refine aX rfl rfl E12 (G8 (most:=10) (a:=5) (s:=1) _ hM hv (by decide) (by decide) (by decide)) (fun r1 w1 hc=>?_);obtain⟨hg,s1⟩:=hc;replace hv:=hv.le s1.le;replace ht:=ht.le s1.le;replace hM:=s1.lt hM;have:=S.size;replace S:=S.aB s1;refine ah rfl rfl (ab (aj (ae (ad rfl rfl (ad rfl rfl ?_)))));refine aX rfl rfl E26 (F5 hM hg ht (m:=3) (by decide) (by omega)) (fun r2 w2 hc=>?_);obtain⟨mz,s2⟩:=hc;replace ht:=ht.le s2.le;replace hg:=hg.le s2.le;replace hM:=s2.lt hM;have:=S.size;replace S:=S.aB s2;refine ah rfl rfl (ab (aj (ae (ah rfl rfl (ab (aj (ae (ah rfl rfl (ab (aj (aj ?_)))))))))));refine ae (ah rfl rfl (ab (aY ?_)));refine dh (σ:=Nat×Value×Value×List Nat) (fun q=>[(0,v0),(1,v1),(5,r1),(6,r2),(7,q.2.1),(8,q.2.2.1),(9,.int .i64 (q.1:Int))]) (fun q w=>q.1≤3∧∃M1,Lt M1 w∧Step M w0 M1 w aC∧(RT.en.sl).V M1 w (dn l 5 1 10) r1∧((RT.en.sl).sl).V M1 w (yv (dn l 5 1 10) (fX to 3) 3) r2∧iI M1 w (xE ((yv (dn l 5 1 10) (fX to 3) 3).take q.1)) q.2.2.2∧Own ((RT.se).ptr) 25 M1 w w0.heap.size q.2.1 ((xE ((yv (dn l 5 1 10) (fX to 3) 3).take q.1)).map fun p=>lx (ew p.1))∧Own RT.D1 47 M1 w w0.heap.size q.2.2.1 q.2.2.2) (fun q=>3-q.1) (0,.slice none 0 0,.slice none 0 0,[]) (.cons rfl (.cons rfl (.cons rfl (.cons rfl (.cons rfl (.cons rfl (.cons rfl .nil))))))) ?_ ?_
 ·exact⟨bD _,_,hM,S,hg,mz,iI.nil,dz _ _ _ _ _,dz _ _ _ _ _⟩
 ·clear hM S hg mz;rintro⟨i,vs,vb,bs⟩ w ⟨hi,M1,hM,S,hg,mz,cF,jV,kZ⟩;dsimp only at hi cF jV kZ ⊢;have kQ:=cF.1;refine aj (aj (ae (ad rfl rfl (cg rfl rfl rfl (ab ?_)))));refine bM rfl (fun c6=>?_) (fun c6=>?_)
  ·refine aT (aj (aY (aj (ae (ad rfl rfl (ad rfl rfl ?_))))));obtain⟨L,Yt⟩:∃L,(yv (dn l 5 1 10) (fX to 3) 3)[i]? =some L:=⟨_,ar (by omega)⟩;obtain⟨hL1,hL2,hL3⟩:=hLs L (az Yt);refine cv (M:=M1) Tryz.underlying51 K7 rfl rfl rfl mz (aq _ _) (by omega) (fun u82 x_ iw acQ=>?_);rw[ay]at iw;obtain rfl:=aF (Yt.symm.trans iw);refine bU (M:=M1) eE rfl rfl rfl rfl rfl acQ (aq _ _) (fun v83 acR=>?_);refine aX rfl rfl E11 (Aa _ hM acR (fun e he f hf=>Ad e (hL3 e he) f hf) (by omega) hL1) (fun rb8 wb8 hc=>?_);obtain⟨sa8,rfl,H6,XX⟩:=hc;obtain⟨aa8,rfl⟩:=H6.fH;clear acQ acR;replace hg:=hg.le XX.le;replace mz:=mz.le XX.le;replace cF:=cF.le XX.le;replace jV:=jV.aO XX;replace kZ:=kZ.aO XX;replace hM:=XX.lt hM;have:=S.size;replace S:=S.aB XX;refine ad rfl rfl (bW rfl rfl rfl (bW rfl rfl rfl (ah rfl rfl (ah rfl rfl (ab (aj (aj (ae (ad rfl rfl (Rg.Br eF rfl rfl rfl (ab ?_)))))))))));refine T.vP rfl ((by simp)) (aT (aj (ae (ad rfl rfl (ad rfl rfl ?_)))));refine eu (A:=((RT.se).ptr)) (hn:=by decide) (M:=M1) dW HY (by decide) rfl rfl hM (lX.2 H6) (.inr ⟨rfl,rfl⟩) (fun aa5 ao9 ng xJ=>?_);replace hg:=hg.le xJ.le;replace mz:=mz.le xJ.le;replace cF:=cF.le xJ.le;replace H6:=H6.le (by decide) xJ.le;replace jV:=jV.aO xJ;replace kZ:=kZ.aO xJ;replace hM:=xJ.lt hM;have:=S.size;replace S:=S.aB xJ;refine cV (M:=M1) (base:=w0.heap.size) dW HY rfl rfl rfl rfl jV ng (aq _ _) (by rw[aH,j3,br,cK];omega) (by rw[aH,j3,br,cK];omega) (S.size) (fun acS Un Bz XY eT=>?_);replace hg:=hg.le eT.le
   replace mz:=mz.le eT.le;replace cF:=cF.le eT.le;replace H6:=H6.le (by decide) eT.le;replace ng:=ng.le eT.le;replace kZ:=kZ.step eT (fun b h1 h2=>kZ.dw jV (by decide) h1 h2);replace hM:=eT.lt hM;have:=S.size;replace S:=S.cX eT jV (aR _);replace jV:=XY;refine ah rfl rfl (ab (ae (ad rfl rfl (ad rfl rfl ?_))));refine aX rfl rfl TW (rG _ H6) (fun avz avA hc=>?_);obtain⟨rfl,rfl⟩:=hc;refine aU (v':= .int .i64 (L.length:Int)) (by show Value.int .i64 (((L.map _).length:Nat):Int)=_;rw[aH]) ?_;refine aX rfl rfl E23 (AB hM (n:=L.length) (by omega)) (fun avB avC hc=>?_);obtain⟨acT,rfl,F9,Dq⟩:=hc;replace hg:=hg.le Dq.le;replace mz:=mz.le Dq.le;replace cF:=cF.le Dq.le;replace H6:=H6.le (by decide) Dq.le;replace ng:=ng.le Dq.le;replace jV:=jV.aO Dq;replace kZ:=kZ.aO Dq;replace hM:=Dq.lt hM;have:=S.size;replace S:=S.aB Dq;refine eu (A:=RT.D1) (hn:=by decide) (M:=Un) kR Lc (by decide) rfl rfl hM (yZ.2 rfl) (.inr ⟨rfl,rfl⟩) (fun xp IC Ik ek=>?_);replace hg:=hg.le ek.le;replace mz:=mz.le ek.le;replace cF:=cF.le ek.le;replace H6:=H6.le (by decide) ek.le;replace ng:=ng.le ek.le;replace F9:=F9.le ek.le;replace jV:=jV.aO ek;replace kZ:=kZ.aO ek;replace hM:=ek.lt hM;have:=S.size;replace S:=S.aB ek;refine cV (M:=Un) (base:=w0.heap.size) kR Lc rfl rfl rfl rfl kZ Ik (aq _ _) (by rw[kQ,j3,br,cK];omega) (by rw[kQ,j3,br,cK];omega) (S.size) (fun acU apa apb XZ sV=>?_);replace hg:=hg.le sV.le;replace mz:=mz.le sV.le;replace cF:=cF.le sV.le;replace H6:=H6.le (by decide) sV.le;replace ng:=ng.le sV.le;replace F9:=F9.le sV.le;replace Ik:=Ik.le sV.le
   replace jV:=jV.step sV (fun b h1 h2=>jV.dw kZ (by decide) h1 h2);replace hM:=sV.lt hM;have:=S.size;replace S:=S.cX sV kZ (aR _);replace kZ:=XZ;refine ah rfl rfl (ab (ae (ad rfl rfl (bG rfl rfl rfl (by omega) (ah rfl rfl (ab ?_))))));refine⟨rfl,(i+1,acS,acU,bs++[acT]),(.cons rfl (.cons rfl (.cons rfl (.cons rfl (.cons rfl (.cons rfl (.cons rfl .nil))))))),?_,?_⟩
   ·refine⟨by dsimp only;omega,_,hM,S,hg,mz,?_,?_,kZ⟩
    ·dsimp only;rw[bI,Yt,cJ,F6];exact cF.snoc F9
    ·dsimp only;rw[bI,Yt,cJ,F6,ec];exact jV
   ·dsimp only;omega
  ·refine cH (aj (ae ?_));have e3:i=3:=by omega
   subst e3;rw[aW (by omega)]at cF jV;refine ad rfl rfl ?_;have jd:=jV.view (hn:=by decide) (by rw[aH,j3];omega);replace hg:=hg.le (eO _ vs _);replace mz:=mz.le (eO _ vs _);replace cF:=cF.le (eO _ vs _);replace kZ:=kZ.KD (v:=vs) (fun b hb=>by first|exact kZ.dw jV (by decide) hb|exact X0 b hb);replace hM:Lt (rm M1 vs) _:=fun b hb=>hM b hb.1
   replace S:=S.freeze (v:=vs) (fun b hb=>by have:=(jV.base b hb).1;omega);clear jV;have tV:=kZ.view (hn:=by decide) (by rw[cF.1,j3];omega);replace hg:=hg.le (eO _ vb _);replace mz:=mz.le (eO _ vb _);replace cF:=cF.le (eO _ vb _);replace jd:=jd.le (eO _ vb _);replace hM:Lt (rm (rm M1 vs) vb) _:=fun b hb=>hM b hb.1
   replace S:=S.freeze (v:=vb) (fun b hb=>by have:=(kZ.base b hb).1;omega);clear kZ;generalize rm (rm M1 vs) vb=Mx at hM S hg mz cF jd tV;refine ad rfl rfl ?_;refine aX rfl rfl E22 (rr (Ls:=(yv (dn l 5 1 10) (fX to 3) 3)) hM jd tV cF (fun L hL=>(hLs L hL).1) (fun L hL=>by have:=(hLs L hL).2.1;omega) (by omega) tU (fun hn=>h0 ((S.mem 1 (ak RX)).1 hn)) ⟨etb,ftb,S.aL RX⟩) (fun r13 w13 hc=>?_);obtain⟨avD,E13,rfl,tQ,alj,Wc,xy⟩:=hc;obtain rfl:E13=(dn l 5 1 10):=CY (lj alj) (lj hok) (fun e=>(Wc e).trans (RE hku));obtain⟨avE,rfl⟩:=tQ.fH;replace hg:=hg.le xy.le;replace mz:=mz.le xy.le;replace cF:=cF.le xy.le;replace jd:=jd.le xy.le;replace tV:=tV.le xy.le;replace hM:=xy.lt hM;have:=S.size;replace S:=S.aB xy;refine ad rfl rfl (bW rfl rfl rfl (bW rfl rfl rfl (ah rfl rfl (ah rfl rfl (ab (aj ?_))))));apply T.draw (M:=Mx) mixed [cG.eq _,cG.V (((RT.se).ptr).sl) (((xE (yv (dn l 5 1 10) (fX to 3) 3)).map fun p=>lx (ew p.1)).take 2),cG.eq _,cG.V (RT.D1.sl) (bs.take 2),Sd Mx (nk (dn l 5 1 10) (fX to 3) 2),Sd Mx (nk (dn l 5 1 10) (fX to 3) 2),cG.ptr RT.se (lx (ew (nk (dn l 5 1 10) (fX to 3) 2))),cG.eq (.int .i64 0),cG.ptr RT.se (lx (ew (nk (dn l 5 1 10) (fX to 3) 2))),cG.eq (.int .i64 0)]
   ·rfl
   ·refine bQ ?_ ?_
    ·intro wD E sD;refine ad rfl rfl ?_;exact ab ⟨rfl,rfl,_,rfl,rfl,au _ _⟩
    refine bQ ?_ ?_
    ·intro wD E sD;refine aM ?_;refine Rg.Cb (M:=Mx) dW HY rfl rfl rfl (jd.le sD.le) (by rw[aH,j3];omega) (fun avF acV=>?_);exact ab ⟨rfl,rfl,_,rfl,acV,au _ _⟩
    refine bQ ?_ ?_
    ·intro wD E sD;refine ad rfl rfl ?_;exact ab ⟨rfl,rfl,_,rfl,rfl,au _ _⟩
    refine bQ ?_ ?_
    ·intro wD E sD;refine aM ?_;refine Rg.Cb (M:=Mx) kR Lc rfl rfl rfl (tV.le sD.le) (by rw[cF.1,j3];omega) (fun avG acW=>?_);exact ab ⟨rfl,rfl,_,rfl,acW,au _ _⟩
    refine bQ ?_ ?_
    ·intro wD E sD;intro v1 vK;intro v3 xr;refine aX rfl rfl E22 (rr (Ls:=(yv (dn l 5 1 10) (fX to 3) 3).take 2) (sD.lt hM) (by rw[F7,List.map_take];exact vK) xr (by rw[F7];exact(cF.le sD.le).take 2) (fun L hL=>(hLs L (List.mem_of_mem_take hL)).1) (fun L hL=>by have:=(hLs L (List.mem_of_mem_take hL)).2.1;omega) (by rw[br];omega) alh (fun hn=>h0 (((S.aB sD).mem 1 (ak RX)).1 hn)) ⟨etb,ftb,(S.aB sD).aL RX⟩) (fun r1 w1 hc=>?_);obtain⟨sm,E,rfl,hm,hE,hF,s⟩:=hc;obtain rfl:E=(nk (dn l 5 1 10) (fX to 3) 2):=CY (lj hE) (CZ (lj hok)) (fun e=>(hF e).trans PG);obtain⟨am,rfl⟩:=hm.fH;exact ab ⟨rfl,rfl,_,rfl,⟨am,rfl,hm⟩,s⟩
    refine bQ ?_ ?_
    ·intro wD E sD;intro v4 nv;refine ad rfl rfl ?_;exact ab ⟨rfl,rfl,_,rfl,nv,au _ _⟩
    refine bQ ?_ ?_
    ·intro wD E sD;intro v5 ox;obtain⟨s_,rfl,hs_⟩:=ox;refine bW rfl rfl rfl ?_;exact ab ⟨rfl,rfl,_,rfl,hs_,au _ _⟩
    refine bQ ?_ ?_
    ·intro wD E sD;intro v5 ox;obtain⟨s_,rfl,hs_⟩:=ox;refine bW rfl rfl rfl ?_;exact ab ⟨rfl,rfl,_,rfl,rfl,au _ _⟩
    refine bQ ?_ ?_
    ·intro wD E sD;intro v6 rD;intro v4 nv;refine aM ?_;intro v1 vK;refine aM ?_;intro v3 xr;intro v4 nv;intro v5 ox;intro v6 rD;refine ah rfl rfl ?_;exact ab ⟨rfl,rfl,_,rfl,rD,au _ _⟩
    refine bQ ?_ ?_
    ·intro wD E sD;refine aM ?_;intro v8 IX;refine aM ?_;intro v1 vK;refine aM ?_;intro v3 xr;intro v4 nv;intro v5 ox;intro v6 rD;refine aM ?_;intro v8 IX;refine ah rfl rfl ?_;exact ab ⟨rfl,rfl,_,rfl,rfl,au _ _⟩
    exact dA.nil
   ·intro NW lR;refine aM ?_;intro apc alk;refine aM ?_;intro apd alm;intro ape aln;intro aas NY;intro apf alo;refine aM ?_;intro acY Dr;refine aM ?_;have S:=S.aB lR;have hM:=lR.lt hM;replace hg:=hg.le lR.le;replace mz:=mz.le lR.le;replace cF:=cF.le lR.le;replace jd:=jd.le lR.le;replace tV:=tV.le lR.le;replace tQ:=tQ.le (by decide) lR.le;replace Dr:cO RT.se Mx NW acY (lx (ew (nk (dn l 5 1 10) (fX to 3) 2))):=Dr;obtain⟨avH,rfl⟩:=Dr.fH;have Sf:=Dr;have hL2:(yv (dn l 5 1 10) (fX to 3) 3)[2]? =some (uV (dn l 5 1 10) (fX to 3) 2 (dn l 5 1 10).length):=Jf (by decide);have alp:((xE (yv (dn l 5 1 10) (fX to 3) 3)).map fun p=>lx (ew p.1))[2]? =some (lx (ew (uV (dn l 5 1 10) (fX to 3) 2 (dn l 5 1 10).length))):=by rw[bj,PF hL2];rfl
    obtain⟨b2,oC⟩:∃b,bs[2]? =some b:=⟨_,ar (by rw[cF.1,j3];omega)⟩;have hB2:=cF.2 2 b2 _ oC (PF hL2);have avJ:(nk (dn l 5 1 10) (fX to 3) 2).length≤10:=by have:=F4 ((dn l 5 1 10).zip ((List.range (dn l 5 1 10).length).map fun i=>decide (fX to 3 i<2)));rw[List.length_zip]at this;unfold nk;omega
    have avK:(uV (dn l 5 1 10) (fX to 3) 2 (dn l 5 1 10).length).length≤10:=by have:=rL (g:=(dn l 5 1 10)) (kof:=fX to 3) (j:=2) (dn l 5 1 10).length;omega
    refine aj (aj (ae (ad rfl rfl (Rg.Br eF rfl rfl rfl (ad rfl rfl (Rg.yC (g:=65) rfl ((by simp)) (al rfl rfl (ad rfl rfl (al rfl rfl (Rg.Br eF rfl rfl rfl (aE rfl rfl rfl ?_)))))))))));refine ad rfl rfl (Rg.yC (g:=69) rfl ((by simp)) (al rfl rfl (ad rfl rfl (al rfl rfl (eM rfl rfl rfl (aU (v':= .bool false) (by simp) (aE rfl rfl rfl (ad rfl rfl (al rfl rfl (ad rfl rfl (al rfl rfl ?_)))))))))));refine eM rfl rfl rfl (aU (v':= .bool false) (by simp) (aE rfl rfl rfl (ab (jD rfl (aT (aj ?_))))));apply T.draw (M:=Mx) mixed [cG.eq _,cG.ptr ((RT.se).ptr) (lx (ew (uV (dn l 5 1 10) (fX to 3) 2 (dn l 5 1 10).length))),cG.V ((RT.se).ptr) (lx (ew (uV (dn l 5 1 10) (fX to 3) 2 (dn l 5 1 10).length))),cG.eq _,cG.V (((RT.se).ptr).sl) [lx (ew (uV (dn l 5 1 10) (fX to 3) 2 (dn l 5 1 10).length)),lx (ew (nk (dn l 5 1 10) (fX to 3) 2))],cG.eq _,cG.ptr RT.D1 b2,cG.eq (.pointer (some ⟨b2,0,none⟩)),cG.eq _,cG.eq (.int .i64 ((nk (dn l 5 1 10) (fX to 3) 2).length:Int)),alg Mx (List.replicate (nk (dn l 5 1 10) (fX to 3) 2).length true),acO Mx b2 (List.replicate (nk (dn l 5 1 10) (fX to 3) 2).length true),Sd Mx (dn l 5 1 10),Sd Mx (dn l 5 1 10),cG.ptr RT.se (lx (ew (dn l 5 1 10))),cG.eq (.int .i64 0),cG.ptr RT.se (lx (ew (dn l 5 1 10))),cG.eq (.int .i64 0)]
    ·rfl
    ·refine bQ ?_ ?_
     ·intro wD E sD;refine ad rfl rfl ?_;exact ab ⟨rfl,rfl,_,rfl,rfl,au _ _⟩
     refine bQ ?_ ?_
     ·intro wD E sD;refine aM ?_;refine cv (M:=Mx) dW HY rfl rfl rfl (jd.le sD.le) (aq _ _) (by rw[aH,j3];omega) (fun uf x_ iw zQ=>?_);obtain rfl:=aF (alp.symm.trans iw);exact ab ⟨rfl,rfl,_,rfl,zQ,au _ _⟩
     refine bQ ?_ ?_
     ·intro wD E sD;intro v1 vK;refine bU (M:=Mx) eF rfl rfl rfl rfl rfl (show cO ((RT.se).ptr) Mx wD v1 (lx (ew (uV (dn l 5 1 10) (fX to 3) 2 (dn l 5 1 10).length)))from vK) (aq _ _) (fun va lG=>?_);exact ab ⟨rfl,rfl,_,rfl,lG,au _ _⟩
     refine bQ ?_ ?_
     ·intro wD E sD;refine ad rfl rfl ?_;exact ab ⟨rfl,rfl,_,rfl,rfl,au _ _⟩
     refine bQ ?_ ?_
     ·intro wD E sD;intro v2 Bv;refine aM ?_;refine Rg.Sk (A:=((RT.se).ptr)) (hn:=by decide) (M:=Mx) (xs:=[lx (ew (uV (dn l 5 1 10) (fX to 3) 2 (dn l 5 1 10).length)),lx (ew (nk (dn l 5 1 10) (fX to 3) 2))]) dW HY rfl (by decide) rfl ⟨_,_,_,rfl,rfl,rfl,Bv,_,_,_,rfl,rfl,rfl,lX.2 (Sf.le (by decide) sD.le),rfl⟩ rfl (sD.lt hM) (.inr ⟨rfl,rfl⟩) (by decide) (fun us ws xS ss=>?_);exact ab ⟨rfl,rfl,_,rfl,xS,ss⟩
     refine bQ ?_ ?_
     ·intro wD E sD;refine ad rfl rfl ?_;exact ab ⟨rfl,rfl,_,rfl,rfl,au _ _⟩
     refine bQ ?_ ?_
     ·intro wD E sD;refine aM ?_;refine cv (M:=Mx) kR Lc rfl rfl rfl (tV.le sD.le) (aq _ _) (by rw[cF.1,j3];omega) (fun uf x_ iw zQ=>?_);obtain rfl:=aF (oC.symm.trans iw);exact ab ⟨rfl,rfl,_,rfl,zQ,au _ _⟩
     refine bQ ?_ ?_
     ·intro wD E sD;intro v6 rD;refine bU (M:=Mx) xe rfl rfl rfl rfl rfl (show cO RT.D1 Mx wD v6 b2 from rD) (aq _ _) (fun va lG=>?_);obtain rfl:=yZ.1 lG;exact ab ⟨rfl,rfl,_,rfl,rfl,au _ _⟩
     refine bQ ?_ ?_
     ·intro wD E sD;refine ad rfl rfl ?_;exact ab ⟨rfl,rfl,_,rfl,rfl,au _ _⟩
     refine bQ ?_ ?_
     ·intro wD E sD;refine aM ?_;refine aX rfl rfl TW (rG _ (Sf.le (by decide) sD.le)) (fun r1 w1 h1=>?_);obtain⟨rfl,rfl⟩:=h1;refine aU (v':= .int .i64 ((nk (dn l 5 1 10) (fX to 3) 2).length:Int)) (by show Value.int .i64 (((List.map _ (nk (dn l 5 1 10) (fX to 3) 2)).length:Nat):Int)=_;rw[aH]) ?_;exact ab ⟨rfl,rfl,_,rfl,rfl,au _ _⟩
     refine bQ ?_ ?_
     ·intro wD E sD;refine aM (aM ?_);refine aX rfl rfl E23 (AB (sD.lt hM) (n:=(nk (dn l 5 1 10) (fX to 3) 2).length) (by omega)) (fun r1 w1 hc=>?_);obtain⟨b_,rfl,hB_,s_⟩:=hc;exact ab ⟨rfl,rfl,_,rfl,⟨b_,rfl,hB_⟩,s_⟩
     refine bQ ?_ ?_
     ·intro wD E sD;refine aM ?_;intro v10 Kp;obtain⟨b_,rfl,hB_⟩:=Kp;refine Rg.Sk (A:=RT.D1) (hn:=by decide) (M:=Mx) (xs:=[b2,b_]) kR Lc rfl (by decide) rfl ⟨_,_,_,rfl,rfl,rfl,yZ.2 rfl,_,_,_,rfl,rfl,rfl,yZ.2 rfl,rfl⟩ rfl (sD.lt hM) (.inr ⟨rfl,rfl⟩) (by decide) (fun us ws xS ss=>?_);exact ab ⟨rfl,rfl,_,rfl,⟨b_,xS,hB_.le ss.le⟩,ss⟩
     refine bQ ?_ ?_
     ·intro wD E sD;intro v4 nv;intro v11 X1;intro v10 Kp;obtain⟨b_,alq,hB_⟩:=X1;refine aX rfl rfl E22 (F8 (sD.lt hM) nv alq (hB2.le sD.le) hB_ (fun L hL=>(Ju hok L hL).1) (fun L hL=>by have:=(Ju hok L hL).2;omega) (Sb (lj hok)) (fun hn=>h0 (((S.aB sD).mem 1 (ak RX)).1 hn)) ⟨etb,ftb,(S.aB sD).aL RX⟩) (fun r1 w1 hc=>?_);obtain⟨sm,E,rfl,hm,hE,hF,s⟩:=hc;obtain rfl:E=(dn l 5 1 10):=CY (lj hE) (lj hok) (fun e=>(hF e).trans (PH hku));obtain⟨am,rfl⟩:=hm.fH;exact ab ⟨rfl,rfl,_,rfl,⟨am,rfl,hm⟩,s⟩
     refine bQ ?_ ?_
     ·intro wD E sD;intro v12 FY;refine ad rfl rfl ?_;exact ab ⟨rfl,rfl,_,rfl,FY,au _ _⟩
     refine bQ ?_ ?_
     ·intro wD E sD;intro K8 Au;obtain⟨s_,rfl,hs_⟩:=Au;refine bW rfl rfl rfl ?_;exact ab ⟨rfl,rfl,_,rfl,hs_,au _ _⟩
     refine bQ ?_ ?_
     ·intro wD E sD;intro K8 Au;obtain⟨s_,rfl,hs_⟩:=Au;refine bW rfl rfl rfl ?_;exact ab ⟨rfl,rfl,_,rfl,rfl,au _ _⟩
     refine bQ ?_ ?_
     ·intro wD E sD;intro v14 KT;intro v12 FY;refine aM ?_;intro v1 vK;intro v2 Bv;refine aM ?_;intro v4 nv;refine aM ?_;intro v6 rD;refine aM (aM (aM ?_));intro v10 Kp;intro v11 X1;intro v12 FY;intro K8 Au;intro v14 KT;refine ah rfl rfl ?_;exact ab ⟨rfl,rfl,_,rfl,KT,au _ _⟩
     refine bQ ?_ ?_
     ·intro wD E sD;refine aM ?_;intro v16 alr;refine aM ?_;intro v1 vK;intro v2 Bv;refine aM ?_;intro v4 nv;refine aM ?_;intro v6 rD;refine aM (aM (aM ?_));intro v10 Kp;intro v11 X1;intro v12 FY;intro K8 Au;intro v14 KT;refine aM ?_;intro v16 alr;refine ah rfl rfl ?_;exact ab ⟨rfl,rfl,_,rfl,rfl,au _ _⟩
     exact dA.nil
    ·intro Wy x8;refine aM ?_;intro apg als;intro aph alu;refine aM ?_;intro api alv;refine aM ?_;intro aa0 Wz;refine aM (aM (aM ?_));intro alw ad4;intro alx ad5;intro aly ad6;intro alz ad7;intro alA ad8;refine aM ?_;intro X2 yy;refine aM ?_;have S:=S.aB x8;have hM:=x8.lt hM;replace hg:=hg.le x8.le;replace mz:=mz.le x8.le;replace cF:=cF.le x8.le;replace jd:=jd.le x8.le;replace tV:=tV.le x8.le;replace tQ:=tQ.le (by decide) x8.le;replace Sf:=Sf.le (by decide) x8.le;replace yy:cO RT.se Mx Wy X2 (lx (ew (dn l 5 1 10))):=yy;obtain⟨avM,rfl⟩:=yy.fH;have Ds:=yy;refine aj (ae (ad rfl rfl ?_));refine aX rfl rfl E11 (Aa _ hM hg Ad (by omega) hok) (fun avN avO hc=>?_);obtain⟨avP,rfl,Ga,Dt⟩:=hc;obtain⟨avQ,rfl⟩:=Ga.fH;replace hg:=hg.le Dt.le;replace mz:=mz.le Dt.le;replace cF:=cF.le Dt.le;replace jd:=jd.le Dt.le;replace tV:=tV.le Dt.le;replace tQ:=tQ.le (by decide) Dt.le;replace Ds:=Ds.le (by decide) Dt.le;replace hM:=Dt.lt hM;have:=S.size;replace S:=S.aB Dt;refine ad rfl rfl (bW rfl rfl rfl (bW rfl rfl rfl (ah rfl rfl (ah rfl rfl (ab (aj (ae (ad rfl rfl (tY rfl rfl rfl (aU (v':= .bool true) (by simp) (ad rfl rfl ?_)))))))))));refine al rfl rfl (ad rfl rfl (al rfl rfl (ad rfl rfl (al rfl rfl ?_))));refine aX rfl rfl E37 (xH _ hM tQ Ds (vv hok (by omega)) (vv hok (by omega))) (fun apj apk hc=>?_);obtain⟨rfl,ta⟩:=hc;refine aU (v':= .bool true) (congrArg Value.bool AD) ?_;replace hg:=hg.le ta.le;replace mz:=mz.le ta.le;replace cF:=cF.le ta.le;replace jd:=jd.le ta.le;replace tV:=tV.le ta.le;replace tQ:=tQ.le (by decide) ta.le;replace Ds:=Ds.le (by decide) ta.le
     replace Ga:=Ga.le (by decide) ta.le;replace hM:=ta.lt hM;have:=S.size;replace S:=S.aB ta;refine aZ rfl rfl rfl (ad rfl rfl (al rfl rfl (ad rfl rfl (al rfl rfl (ad rfl rfl (al rfl rfl ?_))))));refine aX rfl rfl E37 (xH _ hM tQ Ga (vv hok (by omega)) (vv hok (by omega))) (fun alB alC hc=>?_);obtain⟨rfl,oh⟩:=hc;refine aU (v':= .bool true) (congrArg Value.bool AD) ?_;replace hg:=hg.le oh.le;replace mz:=mz.le oh.le;replace cF:=cF.le oh.le;replace jd:=jd.le oh.le;replace tV:=tV.le oh.le;replace tQ:=tQ.le (by decide) oh.le;replace Ds:=Ds.le (by decide) oh.le;replace Ga:=Ga.le (by decide) oh.le;replace hM:=oh.lt hM;have:=S.size;replace S:=S.aB oh;refine aZ rfl rfl rfl (ad rfl rfl (al rfl rfl (ad rfl rfl (al rfl rfl (Rg.Y0 eF rfl rfl rfl (aU (v':= .bool true) (by simp) (aZ rfl rfl rfl (ad rfl rfl (al rfl rfl ?_)))))))));refine aX rfl rfl E25 (Dn hM) (fun rl wl hc=>?_);obtain⟨rfl,sl⟩:=hc;replace hg:=hg.le sl.le;replace mz:=mz.le sl.le;replace cF:=cF.le sl.le;replace jd:=jd.le sl.le;replace tV:=tV.le sl.le;replace tQ:=tQ.le (by decide) sl.le;replace Ds:=Ds.le (by decide) sl.le;replace Ga:=Ga.le (by decide) sl.le;replace hM:=sl.lt hM;have:=S.size;replace S:=S.aB sl;refine aZ rfl rfl rfl (ah rfl rfl (ab (aP ?_)));exact aV rfl rfl ⟨rfl,S.back⟩
end Go.K

/- What the law 'MergeNone' needs of walks and plain Lean, part 6: nothing is assumed beyond the texts that it imports. -/
import Derived.KernelRfl
import Derived.Test.YtbobcaffmbaadaaGreatDoorProg
import Derived.Test.YtbobcaffmbaadaaGreatDoorZMergeNone1
import Derived.Test.YtbobcaffmbaadaaGreatDoorZMergeNone2
import Derived.Test.YtbobcaffmbaadaaGreatDoorZMergeNone3
import Derived.Test.YtbobcaffmbaadaaGreatDoorZMergeNone4
import Derived.Test.YtbobcaffmbaadaaGreatDoorZMergeNone5
set_option linter.unusedVariables false
set_option linter.unusedSimpArgs false
namespace Go.K
open Go.Proofs
namespace TKSegJ
theorem xy:TI Tryz.prog 80 (.slice none 0 0) 1 24:=by unfold TI;kernel_rfl
theorem E82:Enters Tryz.prog 82:=enters Tryz.func82 rfl (by decide)
theorem E85:Enters Tryz.prog 85:=enters Tryz.func85 rfl (by decide)
theorem aiN:Enters Tryz.prog 126:=enters Tryz.func126 rfl (by decide)
theorem aiO:Enters Tryz.prog 127:=enters Tryz.func127 rfl (by decide)
end TKSegJ
open TKSegJ
set_option maxRecDepth 10000
theorem Fe {M:aD} {x y:Po} {v u:Value} (w0:World) (hM:Lt M w0) (hx:RT.po.V M w0 x v) (hy:RT.po.V M w0 y u):
  Spec Tryz.prog 127 #[v,u] w0 (fun v' w'=>v'= .bool (decide (x=y))∧Step M w0 M w' aC):=by
 refine bc (args:=[_,_]) (fn:=Tryz.f127) Tryz.func127 rfl (n:=17) Tryz.ntmps127 ?_;have S:Step M w0 M w0 aC:=(aw _ _).cA (fun _ h=>h.elim) (fun _ h=>h.elim);refine aj (ae ?_);refine qc (A:=RT.po) (a:=x) rfl rfl hM hx rfl (fun u2 wb0 rT sb0 _=>?_);replace hx:=hx.le sb0.le;replace hy:=hy.le sb0.le;replace hM:=sb0.lt hM;have:=S.size;replace S:=S.aB sb0;refine qc (A:=RT.po) (a:=y) rfl rfl hM hy rfl (fun u3 wb1 Jk sb1 _=>?_);replace hy:=hy.le sb1.le;replace rT:=rT.le (by decide) sb1.le;replace hM:=sb1.lt hM;have:=S.size;replace S:=S.aB sb1;refine ah rfl rfl (ab (aj (ae ?_)));refine aN (M:=M) (A:=RT.po) (B:=RT.int .i64) bI rfl rfl I3 (by decide) O0 rfl rfl (by decide) rT (aq _ _) (fun u10 PV=>?_);refine cb (M:=M) ax rfl rfl PV (aq _ _) (fun acu=>?_);refine aV (v':= .int .i64 x.1) rfl ?_;refine aN (M:=M) (A:=RT.po) (B:=RT.int .i64) bI rfl rfl I3 (by decide) O0 rfl rfl (by decide) Jk (aq _ _) (fun u12 Wc=>?_);refine cb (M:=M) ax rfl rfl Wc (aq _ _) (fun acv=>?_);refine aV (v':= .int .i64 y.1) rfl (nX rfl rfl rfl (ad rfl rfl ?_));refine aQ (g:=10) rfl (fun o7=>?_) (fun o7=>?_)
 ·refine al rfl rfl ?_;refine aN (M:=M) (A:=RT.po) (B:=((RT.int .i64).sl)) bI rfl rfl jL (by decide) TO rfl rfl (by decide) rT (aq _ _) (fun u16 aiP=>?_);refine al rfl rfl ?_;refine bT (M:=M) an rfl rfl rfl rfl rfl aiP (aq _ _) (fun v17 aiQ=>?_);refine al rfl rfl ?_;refine aN (M:=M) (A:=RT.po) (B:=((RT.int .i64).sl)) bI rfl rfl jL (by decide) TO rfl rfl (by decide) Jk (aq _ _) (fun u18 U6=>?_);refine al rfl rfl ?_;refine bT (M:=M) an rfl rfl rfl rfl rfl U6 (aq _ _) (fun v19 Qq=>?_);refine al rfl rfl ?_;refine aX rfl rfl E82 (zQ _ hM aiQ Qq) (fun r10 w10 hc=>?_);obtain⟨rfl,yP⟩:=hc;replace rT:=rT.le (by decide) yP.le;replace Jk:=Jk.le (by decide) yP.le;replace hM:=yP.lt hM;have:=S.size;replace S:=S.aB yP;refine aY rfl rfl rfl (ah rfl rfl (ab (aO ?_)))
  first
  |exact aS rfl rfl ⟨congrArg Value.bool (decide_eq_decide.2 ⟨fun h=>xh o7 h,fun h=>by rw[h]⟩),S⟩
  |exact aS rfl rfl ⟨congrArg Value.bool (decide_eq_false (fun h=>o7 (by rw[h]))).symm,S⟩
 ·refine au rfl rfl rfl rfl (au rfl rfl rfl rfl (au rfl rfl rfl rfl (au rfl rfl rfl rfl (au rfl rfl rfl rfl (aE rfl rfl rfl (ah rfl rfl (ab (aO ?_))))))))
  first
  |exact aS rfl rfl ⟨congrArg Value.bool (decide_eq_decide.2 ⟨fun h=>xh o7 h,fun h=>by rw[h]⟩),S⟩
  |exact aS rfl rfl ⟨congrArg Value.bool (decide_eq_false (fun h=>o7 (by rw[h]))).symm,S⟩
theorem J4 {M:aD} {a b:List Po} {v u:Value} (w0:World) (hM:Lt M w0) (hv:((RT.po).sl).V M w0 a v) (hu:((RT.po).sl).V M w0 b u):
  Spec Tryz.prog 126 #[v,u,.func (.func 127) #[] #[]] w0 (fun v' w'=>v'= .bool (decide (a=b))∧Step M w0 M w' aC):=by
 have jM:=hM;have XW:=dy hv;have Xu:=dy hu;refine bc (args:=[_,_,_]) (fn:=Tryz.f126) Tryz.func126 rfl (n:=32) Tryz.ntmps126 ?_;have S:Step M w0 M w0 aC:=(aw _ _).cA (fun _ h=>h.elim) (fun _ h=>h.elim);refine aj (ae (ah rfl rfl (ab (aj (aj (ae (ad rfl rfl (bM br rfl hv rfl (ad rfl rfl (bM br rfl hu rfl (eM rfl rfl rfl ?_)))))))))));refine ab ?_;refine bN rfl (fun c1=>?_) (fun c1=>?_)
 ·refine aj (ae (ah rfl rfl (ab (aO ?_))));exact aS rfl rfl ⟨congrArg Value.bool (decide_eq_false (fun e=>by subst e;exact c1 rfl)).symm,S⟩
 ·have hlen:a.length=b.length:=by omega
  refine aU (aj (aj (ae (ad rfl rfl (bM br rfl hv rfl (ad rfl rfl (ab (aZ ?_))))))));refine de (σ:=Nat) (fun k=>[(0,v),(1,u),(2,.func (.func 127) #[] #[]),(15,v),(16,.int .i64 (a.length:Int)),(17,.int .i64 (k:Int))]) (fun k w=>∃M1,Lt M1 w∧Step M w0 M1 w aC∧((RT.po).sl).V M1 w a v∧((RT.po).sl).V M1 w b u∧k≤a.length∧a.take k=b.take k) (fun k=>a.length-k) 0 (.cons rfl (.cons rfl (.cons rfl (.cons rfl (.cons rfl (.cons rfl .nil)))))) ?_ ?_
  ·exact⟨_,hM,S,hv,hu,bE _,rfl⟩
  ·clear S hv hu hM;rintro k w ⟨M1,hM,S,hv,hu,hk,heq⟩;refine aj (ae (cj rfl rfl rfl (ab (aj ?_))));refine bN rfl (fun c4=>?_) (fun c4=>?_)
   ·refine aU (aj (aZ (aj (ae (ad rfl rfl ?_)))));obtain⟨x,wR⟩:∃x,a[k]? =some x:=⟨_,ar (by omega)⟩;obtain⟨y,uR⟩:∃y,b[k]? =some y:=⟨_,ar (by omega)⟩;refine cy (M:=M1) br lM rfl rfl rfl hv (aq _ _) (by omega) (fun u51 x_ jc Wd=>?_);rw[ay]at jc;obtain rfl:=aH (wR.symm.trans jc);refine cX (M:=M1) (A:=RT.po) bI rfl lM (by decide) rfl rfl rfl Wd (aq _ _) (fun v52 qP=>?_);obtain⟨ux,rfl,_,_⟩:=K0 (d:=x.1) (ps:=x.2) qP;refine dP M1 lM rfl (fun We Yo arW arX rK xu=>?_);obtain⟨By,Ot⟩:∃M',M'=ins M1 We:=⟨_,rfl⟩;rw[←Ot]at xu;have nL:By We:=by rw[Ot];exact .inl rfl
    change Yo.heap[We]? =some (.cells #[.int .i64 0,.slice none 0 0] _ _)at rK;replace hv:=hv.le xu.le;replace hu:=hu.le xu.le;replace qP:=qP.le xu.le;replace hM:=xu.lt hM;have:=S.size;replace S:=S.aB xu;refine ah rfl rfl ?_;refine dC (M:=By) (vs:=[.int .i64 x.1,ux]) lM rfl rfl (vN rfl qP) rfl rfl rK nL (fun ws5 gs5 Wf=>?_);have:=ak rK;replace nL:=(Wf.mem _ this).2 nL;replace hv:=hv.le Wf.le;replace hu:=hu.le Wf.le;replace qP:=qP.le Wf.le;replace hM:=Wf.lt hM;have:=S.size;replace S:=S.trans Wf (fun k hk h=>by have h:_=_:=h;subst h;first|(exfalso;omega)|(show _≤_;omega)|exact⟨by first|omega|assumption,(S.mem _ hk).1 ((Wf.mem _ (ak rK)).1 nL)⟩|exact .inl rfl|exact .inr rfl|exact .inr (.inl rfl)|exact .inr (.inr rfl)|exact .inr (.inr (.inl rfl))|exact rfl);have SN:=gs5;clear rK;have rK:=SN;clear SN;refine ab (aj (ae (ad rfl rfl (ad rfl rfl ?_))));refine cy (M:=By) br lM rfl rfl rfl hu (aq _ _) (by omega) (fun u62 x_ jc CE=>?_);rw[ay]at jc;obtain rfl:=aH (uR.symm.trans jc);refine cX (M:=By) (A:=RT.po) bI rfl lM (by decide) rfl rfl rfl CE (aq _ _) (fun v63 qO=>?_);obtain⟨uy,rfl,_,_⟩:=K0 (d:=y.1) (ps:=y.2) qO;refine dP By lM rfl (fun Wg aiR arZ ar0 AG CF=>?_);obtain⟨SO,Ou⟩:∃M',M'=ins By Wg:=⟨_,rfl⟩;rw[←Ou]at CF;have we:SO Wg:=by rw[Ou];exact .inl rfl
    change aiR.heap[Wg]? =some (.cells #[.int .i64 0,.slice none 0 0] _ _)at AG;have:=ak rK;replace nL:=(CF.mem _ this).2 nL;replace rK:=CF.aK rK;replace hv:=hv.le CF.le;replace hu:=hu.le CF.le;replace qP:=qP.le CF.le;replace qO:=qO.le CF.le;replace hM:=CF.lt hM;have:=S.size;replace S:=S.aB CF;refine dC (M:=SO) (vs:=[.int .i64 y.1,uy]) lM rfl rfl (vN rfl qO) rfl rfl AG we (fun ws6 gs6 Pc=>?_);have:=ak rK;replace nL:=(Pc.mem _ this).2 nL;replace rK:=Pc.keep rK (fun hk=>by have hk:_=_:=hk;omega);have:=ak AG;replace we:=(Pc.mem _ this).2 we;replace hv:=hv.le Pc.le;replace hu:=hu.le Pc.le;replace qP:=qP.le Pc.le;replace qO:=qO.le Pc.le;replace hM:=Pc.lt hM;have:=S.size;replace S:=S.trans Pc (fun k hk h=>by have h:_=_:=h;subst h;first|(exfalso;omega)|(show _≤_;omega)|exact⟨by first|omega|assumption,(S.mem _ hk).1 ((Pc.mem _ (ak AG)).1 we)⟩|exact .inl rfl|exact .inr rfl|exact .inr (.inl rfl)|exact .inr (.inr rfl)|exact .inr (.inr (.inl rfl))|exact rfl);have SP:=gs6;clear AG;have AG:=SP;clear SP;refine ab (aj (ae (ad rfl rfl (fE (vs:=[.int .i64 x.1,ux]) bI rfl lM rfl rfl rfl rK (fE (vs:=[.int .i64 y.1,uy]) bI rfl lM rfl rfl rfl AG ?_)))));refine rr (first:=[]) (captured:=[]) (xs:=[.tmp 27,.tmp 28]) rfl rfl rfl aiO (Fe (x:=x) (y:=y) _ hM qP qO) (fun r7 w7 hc=>?_);obtain⟨rfl,s7⟩:=hc;have:=ak rK;replace nL:=(s7.mem _ this).2 nL;replace rK:=s7.aK rK;have:=ak AG;replace we:=(s7.mem _ this).2 we;replace AG:=s7.aK AG;replace hv:=hv.le s7.le;replace hu:=hu.le s7.le;replace qP:=qP.le s7.le;replace qO:=qO.le s7.le;replace hM:=s7.lt hM;have:=S.size;replace S:=S.aB s7;refine lH rfl rfl (aV (v':= .bool (decide (x≠y))) (by simp) (ab ?_));refine bN rfl (fun c7=>?_) (fun c7=>?_)
    ·refine aj (ae (ah rfl rfl (ab (aO ?_))));exact aS rfl rfl ⟨congrArg Value.bool (decide_eq_false (fun e=>by subst e;rw[wR]at uR;cases uR;exact c7 rfl)).symm,S.back⟩
    ·refine aU (ae (bF rfl rfl rfl (by omega) (ad rfl rfl (ab ?_))));refine⟨rfl,k+1,(.cons rfl (.cons rfl (.cons rfl (.cons rfl (.cons rfl (.cons rfl .nil)))))),?_,?_⟩
     ·exact⟨_,hM,S,hv,hu,by omega,by rw[bK,bK,heq,wR,uR,cJ.1 c7]⟩
     ·omega
   ·refine cG (aj (ae (ah rfl rfl (ab (aO ?_)))));rw[aW (by omega),aW (by omega)]at heq;exact aS rfl rfl ⟨congrArg Value.bool (decide_eq_true heq).symm,S.back⟩
theorem Hn {M:aD} {a b:List Po} {v u:Value} (w0:World) (hM:Lt M w0) (hv:((RT.po).sl).V M w0 a v) (hu:((RT.po).sl).V M w0 b u):
  Spec Tryz.prog 85 #[v,u] w0 (fun v' w'=>v'= .bool (decide (a=b))∧Step M w0 M w' aC):=by
 refine bc (args:=[_,_]) (fn:=Tryz.f85) Tryz.func85 rfl (n:=8) Tryz.ntmps85 ?_;have S:Step M w0 M w0 aC:=(aw _ _).cA (fun _ h=>h.elim) (fun _ h=>h.elim);refine aj (ae (ah rfl rfl (ab (aj (ae (ad rfl rfl (ad rfl rfl ?_)))))));refine aX rfl rfl aiN (J4 _ hM hv hu) (fun r1 w1 hc=>?_);obtain⟨rfl,s1⟩:=hc;replace hM:=s1.lt hM;have:=S.size;replace S:=S.aB s1;refine ah rfl rfl (ab (aO ?_));exact aS rfl rfl ⟨rfl,S⟩
theorem J5 {M:aD} {a b:List (List Po)} {v u:Value} (w0:World) (hM:Lt M w0) (hv:(((RT.po).sl).sl).V M w0 a v) (hu:(((RT.po).sl).sl).V M w0 b u):
  Spec Tryz.prog 84 #[v,u,.func (.func 85) #[] #[]] w0 (fun v' w'=>v'= .bool (decide (a=b))∧Step M w0 M w' aC):=by
 have jM:=hM;have XW:=dy hv;have Xu:=dy hu;refine bc (args:=[_,_,_]) (fn:=Tryz.f84) Tryz.func84 rfl (n:=32) Tryz.ntmps84 ?_;have S:Step M w0 M w0 aC:=(aw _ _).cA (fun _ h=>h.elim) (fun _ h=>h.elim);refine aj (ae (ah rfl rfl (ab (aj (aj (ae (ad rfl rfl (bM dw rfl hv rfl (ad rfl rfl (bM dw rfl hu rfl (eM rfl rfl rfl ?_)))))))))));refine ab ?_;refine bN rfl (fun c1=>?_) (fun c1=>?_)
 ·refine aj (ae (ah rfl rfl (ab (aO ?_))));exact aS rfl rfl ⟨congrArg Value.bool (decide_eq_false (fun e=>by subst e;exact c1 rfl)).symm,S⟩
 ·have hlen:a.length=b.length:=by omega
  refine aU (aj (aj (ae (ad rfl rfl (bM dw rfl hv rfl (ad rfl rfl (ab (aZ ?_))))))));refine de (σ:=Nat) (fun k=>[(0,v),(1,u),(2,.func (.func 85) #[] #[]),(15,v),(16,.int .i64 (a.length:Int)),(17,.int .i64 (k:Int))]) (fun k w=>Step M w0 M w aC∧(((RT.po).sl).sl).V M w a v∧(((RT.po).sl).sl).V M w b u∧k≤a.length∧a.take k=b.take k) (fun k=>a.length-k) 0 (.cons rfl (.cons rfl (.cons rfl (.cons rfl (.cons rfl (.cons rfl .nil)))))) ?_ ?_
  ·exact⟨S,hv,hu,bE _,rfl⟩
  ·clear S hv hu hM;rintro k w ⟨S,hv,hu,hk,heq⟩;have hM:=S.lt jM;refine aj (ae (cj rfl rfl rfl (ab (aj ?_))));refine bN rfl (fun c4=>?_) (fun c4=>?_)
   ·refine aU (aj (aZ (aj (ae (ad rfl rfl ?_)))));obtain⟨x,wR⟩:∃x,a[k]? =some x:=⟨_,ar (by omega)⟩;obtain⟨y,uR⟩:∃y,b[k]? =some y:=⟨_,ar (by omega)⟩;refine cy (M:=M) dw xy rfl rfl rfl hv (aq _ _) (by omega) (fun u51 x_ jc Wd=>?_);rw[ay]at jc;obtain rfl:=aH (wR.symm.trans jc);refine bT (M:=M) br rfl rfl rfl rfl rfl Wd (aq _ _) (fun v52 qP=>?_);refine ah rfl rfl (ah rfl rfl (ab (aj (ae (ad rfl rfl (ad rfl rfl ?_))))));refine cy (M:=M) dw xy rfl rfl rfl hu (aq _ _) (by omega) (fun u62 x_ jc CE=>?_);rw[ay]at jc;obtain rfl:=aH (uR.symm.trans jc);refine bT (M:=M) br rfl rfl rfl rfl rfl CE (aq _ _) (fun v63 qO=>?_);refine ah rfl rfl (ab (aj (ae (ad rfl rfl (ad rfl rfl (ad rfl rfl ?_))))));refine rr (first:=[]) (captured:=[]) (xs:=[.tmp 27,.tmp 28]) rfl rfl rfl E85 (Hn (a:=x) (b:=y) _ hM qP qO) (fun r7 w7 hc=>?_);obtain⟨rfl,s7⟩:=hc;replace hv:=hv.le s7.le;replace hu:=hu.le s7.le;replace qP:=qP.le s7.le;replace qO:=qO.le s7.le;replace hM:=s7.lt hM;have:=S.size;replace S:=S.aB s7;refine lH rfl rfl (aV (v':= .bool (decide (x≠y))) (by simp) (ab ?_));refine bN rfl (fun c7=>?_) (fun c7=>?_)
    ·refine aj (ae (ah rfl rfl (ab (aO ?_))));exact aS rfl rfl ⟨congrArg Value.bool (decide_eq_false (fun e=>by subst e;rw[wR]at uR;cases uR;exact c7 rfl)).symm,S⟩
    ·refine aU (ae (bF rfl rfl rfl (by omega) (ad rfl rfl (ab ?_))));refine⟨rfl,k+1,(.cons rfl (.cons rfl (.cons rfl (.cons rfl (.cons rfl (.cons rfl .nil)))))),?_,?_⟩
     ·exact⟨S,hv,hu,by omega,by rw[bK,bK,heq,wR,uR,cJ.1 c7]⟩
     ·omega
   ·refine cG (aj (ae (ah rfl rfl (ab (aO ?_)))));rw[aW (by omega),aW (by omega)]at heq;exact aS rfl rfl ⟨congrArg Value.bool (decide_eq_true heq).symm,S⟩
end Go.K
namespace Go.K
open Go.Proofs
namespace TKSegL
theorem AA:TI Tryz.prog 58 (.slice none 0 0) 1 24:=by unfold TI;kernel_rfl
theorem xy:TI Tryz.prog 80 (.slice none 0 0) 1 24:=by unfold TI;kernel_rfl
end TKSegL
open TKSegL
set_option maxRecDepth 10000
def AH (p q:Pa):Bool:=decide (p.1=q.1)&&decide (p.2.1=q.2.1)&&decide (p.2.2.1=q.2.2.1)&&decide (p.2.2.2=q.2.2.2)
theorem Ov {p q:Pa}:AH p q=true↔p=q:=by
 simp only[AH,bU,decide_eq_true_eq];exact⟨fun h=>xh h.1.1.1 (xh h.1.1.2 (xh h.1.2 h.2)),fun h=>by subst h;exact⟨⟨⟨rfl,rfl⟩,rfl⟩,rfl⟩⟩
theorem jO {p q:Pa} (h:p≠q):AH p q=false:=cV.2 fun e=>h (Ov.1 e)
end Go.K
namespace Go.K
theorem Q4 {P:Program} {L:Sl} {w:World} {fn:Func} {Q:Value→World→Prop} {c t b D:Nat} {vs:List Value} {fs:TypeDesc} {e:TypeId} {fr:Nat×Nat} {zv:Value} {size bytes:Nat} (hr:fn.results= #[.cell c t]) (hc:lk L c=some (.pointer (some ⟨b,0,none⟩))) (hu:P.underlying t=some fs) (hf:fs.isRow=true) (hi:TI P t zv size bytes) (hl:vs.length=size)
  (hD:w.heap[D]? =some (.deferred (some []))) (hb:(w.putObj D (.deferred none)).heap[b]? =some (.cells vs.toArray e fr)) (h:Q (.agg vs.toArray) (w.putObj D (.deferred none))):De P fn Q .ret L [mark D] w:=
 ⟨_,vv hD,fun a ha=>⟨_,by
  obtain⟨i,xJ,_,Ab,_⟩:=hi.get;have KV:(w.putObj D (.deferred none)).rangeAt b 0 vs:=fun j v hj=>fG hb (by simpa using hj)
  have:=run_loadVar_mid (P:=P) (w.putObj D (.deferred none)) b 0 t vs fs KV hu hf (by simp[xJ,Ab,hl]);simp[results,hr,ha _ _ hc,asAddr,this,ck],h⟩⟩
theorem Ow {α:Type} {A:RT α} {hn:0<A.n} (hA:AB A) {M:aD} {w:World} {xs:List α} {v:Value} {b:Nat} {cs:Array Value} {e:TypeId} {fr:Nat×Nat} (hb:w.heap[b]? =some (.cells cs e fr)) (eK:∀M w x vs,A.R M w x vs→∃c r,vs=c::r∧∀j:Nat,cs[j]? ≠some c) (h:(A.sl hn).V M w xs v):(A.sl hn).V (ins M b) w xs v:=by
 obtain⟨a,cap,h1,h2,h3,hs⟩:=iD.1 h;refine iD.2 ⟨a,cap,h1,h2,h3,?_⟩;rcases hs with hs|⟨b',o,ha,hm,he⟩
 ·exact .inl hs
 ·cases xs with
  |nil=>exact .inl rfl
  |cons x xs=>
   refine .inr ⟨b',o,ha,?_,fun i y hy=>by obtain⟨vs,h4,h5⟩:=he i y hy;exact⟨vs,hA _ _ _ _ _ _ h4,h5⟩⟩;rintro(rfl|xI)
   ·obtain⟨vs,h4,h5⟩:=he 0 x rfl;obtain⟨c,r,rfl,hc⟩:=eK _ _ _ _ h4;have:=h5 0 c rfl;simp[World.cell?,hb]at this;exact hc _ this
   ·exact hm xI
end Go.K
namespace Go.K
open Go.Proofs
namespace TKSegK
theorem AA:TI Tryz.prog 58 (.slice none 0 0) 1 24:=by unfold TI;kernel_rfl
theorem Bn:TI Tryz.prog 72 (.agg #[(.slice none 0 0),(.slice none 0 0),(.slice none 0 0),(.slice none 0 0)]) 4 96:=by unfold TI;kernel_rfl
theorem xy:TI Tryz.prog 80 (.slice none 0 0) 1 24:=by unfold TI;kernel_rfl
theorem EB:TI Tryz.prog 139 (.pointer none) 1 8:=by unfold TI;kernel_rfl
theorem B72:placesOf Tryz.prog 72=[(0,1),(1,1),(2,1),(3,1)].map some:=by kernel_rfl
theorem Qt:Enters Tryz.prog 51:=enters Tryz.func51 rfl (by decide)
theorem E76:Enters Tryz.prog 76:=enters Tryz.func76 rfl (by decide)
theorem E77:Enters Tryz.prog 77:=enters Tryz.func77 rfl (by decide)
theorem E78:Enters Tryz.prog 78:=enters Tryz.func78 rfl (by decide)
theorem VO:Enters Tryz.prog 123:=enters Tryz.func123 rfl (by decide)
end TKSegK
open TKSegK
set_option maxRecDepth 10000
structure Ox {α:Type} (A:RT α) (e T:TypeId) (X:aD→World→Prop) (F:Value→Array Value) (M:aD) (w0:World) (bo bi bd D:Nat) (vd:Value) (st:Loop) (vo:Value) (xs:List α) (M':aD) (w:World):Prop where
 lt:Lt M' w
 S:Step M w0 M' w aC
 o:w.heap[bo]? =some (.cells (F vo) T (0,0))
 mo:M' bo
 r:w.heap[D+1]? =some (.loop st)
 mr:M' (D+1)
 d:w.heap[D]? =some (.deferred (some []))
 md:M' D
 own:Own A e M' w w0.heap.size vo xs
 gi:w.heap[bi]? =some (.cells #[.int .i64 0] 3 (0,0))
 gd:w.heap[bd]? =some (.cells #[vd] 139 (0,0))
 fi: ¬M' bi
 fd: ¬M' bd
 z:w0.heap.size≤bo∧w0.heap.size≤D
 k:X M' w
section
variable {α:Type} {A:RT α} {e T:TypeId} {X:aD→World→Prop} {F:Value→Array Value} {M M1 M2 N:aD} {w0 w w':World} {bo bi bd D:Nat} {vd:Value} {st:Loop} {vo:Value} {xs:List α}
theorem Ox.aP (hX:∀{M w M' w'},X M w→Le M w M' w'→X M' w') (h:Ox A e T X F M w0 bo bi bd D vd st vo xs M1 w) (s:Step M1 w M2 w' aC):Ox A e T X F M w0 bo bi bd D vd st vo xs M2 w':=
 ⟨s.lt h.lt,h.S.aB s,s.aK h.o,(s.mem _ (ak h.o)).2 h.mo,s.aK h.r,(s.mem _ (ak h.r)).2 h.mr,s.aK h.d,(s.mem _ (ak h.d)).2 h.md,h.own.aP s,s.aK h.gi,s.aK h.gd,fun hn=>h.fi ((s.mem _ (ak h.gi)).1 hn),fun hn=>h.fd ((s.mem _ (ak h.gd)).1 hn),h.z,hX h.k s.le⟩
theorem Ox.mH {st':Loop} (hX:∀{M w M' w'},X M w→Le M w M' w'→X M' w') (h:Ox A e T X F M w0 bo bi bd D vd st vo xs M1 w):Ox A e T X F M w0 bo bi bd D vd st' vo xs M1 (w.putObj (D+1) (.loop st')):=by
 have s:Step M1 w M1 (w.putObj (D+1) (.loop st')) (fun k=>k=D+1):=dS h.mr;obtain⟨z1,z2⟩:=h.z;refine⟨s.lt h.lt,h.S.cd s (fun k (hk:k=D+1)=>by omega),s.keep h.o (fun(hn:bo=D+1)=>by have h1:=h.o;rw[hn,h.r]at h1;cases h1),h.mo,xk (ak h.r),h.mr,s.keep h.d (fun(hn:D=D+1)=>by omega),h.md,h.own.step s (fun b hb (hn:b=D+1)=>?_),s.keep h.gi (fun(hn:bi=D+1)=>by have h1:=h.gi;rw[hn,h.r]at h1;cases h1),s.keep h.gd (fun(hn:bd=D+1)=>by have h1:=h.gd;rw[hn,h.r]at h1;cases h1),h.fi,h.fd,h.z,hX h.k s.le⟩;obtain⟨cs,hc⟩:=h.own.isCells hb;rw[hn,h.r]at hc;cases hc
theorem Ox.grow {G1:Value} {NQ:List α} (hX:∀{M w M' w'},X M w→Le M w M' w'→X M' w') (hT:T≠e) (h:Ox A e T X F M w0 bo bi bd D vd st vo xs M1 w) (s:Step M1 w M2 w' (fz vo)) (ho:Own A e M2 w' w0.heap.size G1 NQ):
  (w'.heap[bo]? =some (.cells (F vo) T (0,0))∧M2 bo)∧∀{w2:World},Step M2 w' M2 w2 (fun k=>k=bo)→w2.heap[bo]? =some (.cells (F G1) T (0,0))→Ox A e T X F M w0 bo bi bd D vd st G1 NQ M2 w2:=by
 obtain⟨z1,z2⟩:=h.z
 have zr:∀{b:Nat} {o:Obj},w.heap[b]? =some o→(∀cs fr,o≠ .cells cs e fr)→¬fz vo b:=fun {b o} hb eK hn=>by
  obtain⟨⟨C,h1,_⟩,_⟩:=h.own;rcases h1.2 with h3|⟨g,cap,cur,h3,h4,h5,_⟩
  ·unfold fz at hn;rw[h3.1]at hn;cases hn
  ·unfold fz at hn;rw[h3]at hn;cases hn;rw[hb]at h5;exact eK _ _ (aH h5)
 have nM:∀{b:Nat},¬M1 b→¬fz vo b:=fun hb hn=>hb (h.own.mut_ _ hn)
 have fO:=s.keep h.o (zr h.o (fun cs fr hc=>by injection hc with _ h1 _;exact hT h1));have hr:=s.keep h.r (zr h.r (fun cs fr hc=>by cases hc));have hd:=s.keep h.d (zr h.d (fun cs fr hc=>by cases hc));have mO:=s.keep h.gi (nM h.fi);have o9:=s.keep h.gd (nM h.fd);have hfi: ¬M2 bi:=fun hn=>h.fi ((s.mem _ (ak h.gi)).1 hn)
 have Ky: ¬M2 bd:=fun hn=>h.fd ((s.mem _ (ak h.gd)).1 hn)
 have Gy:=(s.mem _ (ak h.o)).2 h.mo;refine⟨⟨fO,Gy⟩,fun {w2} s2 hx=>⟨s2.lt (s.lt h.lt),(h.S.dg s h.own (aT _)).cd s2 (fun k (hk:k=bo)=>by omega),hx,Gy,s2.keep hr (fun(hn:D+1=bo)=>by rw[hn,fO]at hr;cases hr),(s.mem _ (ak h.r)).2 h.mr,s2.keep hd (fun(hn:D=bo)=>by rw[hn,fO]at hd;cases hd),(s.mem _ (ak h.d)).2 h.md,ho.step s2 (fun b hb (hn:b=bo)=>ho.eI fO hT (by rw[←hn];exact hb)),s2.keep mO (fun(hn:bi=bo)=>hfi (by rw[hn];exact Gy)),s2.keep o9 (fun(hn:bd=bo)=>Ky (by rw[hn];exact Gy)),hfi,Ky,h.z,hX (hX h.k s.le) s2.le⟩⟩
end
theorem aiT {α:Type} {A:RT α} {e T:TypeId} {X:aD→World→Prop} {F:Value→Array Value} (hX:∀{M w M' w'},X M w→Le M w M' w'→X M' w') {M M1:aD} {w0 w:World} {bo bi bd:Nat} {vd:Value} {st:Loop} (hk:X M1 w) (hM:Lt M1 w) (S:Step M w0 M1 w aC) (go:w.heap[bo]? =some (.cells (F (.slice none 0 0)) T (0,0))) (mo:M1 bo) (gi:w.heap[bi]? =some (.cells #[.int .i64 0] 3 (0,0))) (gd:w.heap[bd]? =some (.cells #[vd] 139 (0,0))) (fi: ¬M1 bi) (fd: ¬M1 bd) (Nr:w0.heap.size≤bo):
  ∃M',Ox A e T X F M w0 bo bi bd w.heap.size vd st (.slice none 0 0) [] M' ((w.alloc (.deferred (some []))).alloc (.loop st)):=by
 have sA:Step M1 w (ins M1 w.heap.size) (w.alloc (.deferred (some []))) aC:=(cQ M1 w _).own (aT _) (by simp);have sB:Step (ins M1 w.heap.size) (w.alloc (.deferred (some []))) (ins (ins M1 w.heap.size) (w.heap.size+1)) ((w.alloc (.deferred (some []))).alloc (.loop st)) aC:=(cQ _ _ _).own (by simp) (by simp);have hD:(w.alloc (.deferred (some []))).heap[w.heap.size]? =some (.deferred (some [])):=cg w _;have hR:((w.alloc (.deferred (some []))).alloc (.loop st)).heap[w.heap.size+1]? =some (.loop st):=by have:=cg (w.alloc (.deferred (some []))) (.loop st);rwa [Af]at this
 have SS:=(S.aB sA).aB sB;have hi:=ak gi;have hd:=ak gd;refine⟨_,sB.lt (sA.lt hM),SS,sB.aK (sA.aK go),.inr (.inr mo),hR,.inl rfl,sB.aK hD,.inr (.inl rfl),dF _ _ _ _ _,sB.aK (sA.aK gi),sB.aK (sA.aK gd),?_,?_,⟨Nr,S.size⟩,hX (hX hk sA.le) sB.le⟩
 ·rintro(h|h|h)
  ·omega
  ·omega
  ·exact fi h
 ·rintro(h|h|h)
  ·omega
  ·omega
  ·exact fd h
theorem Le.out {MQ M':aD} {wQ w:World} (h:Le MQ wQ M' w):Le (fun b=>MQ b∨wQ.heap.size≤b) w M' w:=fun b _ hm=>⟨(h b (Nat.lt_of_not_le fun hh=>hm (.inr hh)) (fun hh=>hm (.inl hh))).1,rfl⟩
theorem Le.fixed {MQ M':aD} {wQ w:World} (h:Le MQ wQ M' w):Le (fun b=>MQ b∨wQ.heap.size≤b) wQ (fun b=>MQ b∨wQ.heap.size≤b) w:=fun b hb hm=>⟨hm,(h b hb (fun hh=>hm (.inl hh))).2⟩
theorem Le.wide (MQ:aD) (wQ:World):Le MQ wQ (fun b=>MQ b∨wQ.heap.size≤b) wQ:=fun b hb hm=>⟨fun hh=>hh.elim hm (fun h=>by omega),rfl⟩
def It (s:Se) (va vb vc:Value) (MQ:aD) (wQ:World) (M:aD) (w:World):Prop:=((RT.int .i64).sl).V M w s.1 va∧((RT.int .i64).sl).V M w s.2.1 vb∧(RT.str.sl).V M w s.2.2.1 vc∧Le MQ wQ M w
theorem It.le {s:Se} {va vb vc:Value} {MQ:aD} {wQ:World}:∀{M:aD} {w:World} {M':aD} {w':World},It s va vb vc MQ wQ M w→Le M w M' w'→It s va vb vc MQ wQ M' w':=fun h l=>⟨h.1.le l,h.2.1.le l,h.2.2.1.le l,h.2.2.2.trans l⟩
theorem xe {M:aD} {s:Se} {ls:List (List Po)} {v0:Value} (w0:World) (hM:Lt M w0) (hs:cN RT.se M w0 v0 s) (hls:s.2.2.2=ls.map mU) (hdl:s.2.2.1.length=ls.length) (hn1:s.1.length≤1000000) (hn2:s.2.1.length≤1000000) (hd6:s.2.2.1.length≤1000000000) (hok:∀l∈ls,fH (-1) l=true∧(∀p∈l,p.2.length≤1099511627776)∧(dY (-1) l).length≤1099511627776∧l.length≤1099511627776):
  Spec Tryz.prog 32 #[v0] w0 (fun v w=>RT.pa.V M w (s.1,s.2.1,s.2.2.1,ls) v∧Step M w0 M w aC):=by
 have jM:=hM;refine oc (args:=[_]) (fn:=Tryz.f32) Tryz.func32 rfl (n:=37) Tryz.ntmps32 ?_;have S:Step M w0 M w0 aC:=(aw _ _).cA (fun _ h=>h.elim) (fun _ h=>h.elim);refine aj (ae ?_);refine dP M Bn rfl (fun xz Co ag6 ag7 oD Cp=>?_);obtain⟨gN,zp⟩:∃M',M'=ins M xz:=⟨_,rfl⟩;rw[←zp]at Cp;have qI:gN xz:=by rw[zp];exact .inl rfl
 change Co.heap[xz]? =some (.cells #[.slice none 0 0,.slice none 0 0,.slice none 0 0,.slice none 0 0] _ _)at oD;replace hM:=Cp.lt hM;have:=S.size;replace S:=S.aB Cp;refine ab (aj ?_);have hMA:=hM;have Wh:cN RT.se gN Co v0 s:=hs.le (by decide) Cp.le;apply T.AR (M:=gN) mixed [] [cL.eq _,cL.eq v0,cL.ptr (((RT.int .i64).sl)) s.1,cL.V ((RT.int .i64).sl) s.1,cL.V ((RT.int .i64).sl) s.1,cL.eq _,cL.eq v0,cL.ptr (((RT.int .i64).sl)) s.2.1,cL.V ((RT.int .i64).sl) s.2.1,cL.V ((RT.int .i64).sl) s.2.1,cL.eq _,cL.eq v0,cL.ptr ((RT.di).ptr) s.2.2,cL.V ((RT.di).ptr) s.2.2,cL.V (RT.str.sl) s.2.2.1,cL.mk' (fun v w'=>∃a b c,v= .agg [a,b,c,.slice none 0 0].toArray∧((RT.int .i64).sl).V gN w' s.1 a∧((RT.int .i64).sl).V gN w' s.2.1 b∧(RT.str.sl).V gN w' s.2.2.1 c) (fun⟨a,b,c,h1,h2,h3,h4⟩ s=>⟨a,b,c,h1,h2.le s.le,h3.le s.le,h4.le s.le⟩),cL.mk' (fun p w'=>∃bq,p= .pointer (some ⟨bq,0,none⟩)∧Co.heap.size≤bq∧w'.heap[bq]? =some (.cells #[.slice none 0 0,.slice none 0 0,.slice none 0 0,.slice none 0 0] 72 (0,0))) (fun⟨bq,h1,h2,h3⟩ s=>⟨bq,h1,h2,s.aK h3⟩)] 17
 ·rfl
 ·rfl
 ·rfl
 ·rfl
 ·rfl
 ·exact fun p hp=>by cases hp
 ·exact vg.none
 ·refine aF ?_ ?_
  ·intro wD E sD;refine ad rfl rfl ?_;exact ab ⟨rfl,rfl,_,rfl,rfl,aw _ _⟩
  refine aF ?_ ?_
  ·intro wD E sD;refine aR (bS rfl Wh.gz rfl ?_);exact ab ⟨rfl,rfl,_,rfl,rfl,aw _ _⟩
  refine aF ?_ ?_
  ·intro wD E sD;refine aR ?_;refine aN (M:=gN) (A:=RT.se) (B:=((RT.int .i64).sl)) iI rfl rfl jL (by decide) se0 rfl rfl (by decide) Wh sD.le (fun uf Cl=>?_);exact ab ⟨rfl,rfl,_,rfl,Cl,aw _ _⟩
  refine aF ?_ ?_
  ·intro wD E sD;intro v2 Fu;refine bT (M:=gN) an rfl rfl rfl rfl rfl (show cN (((RT.int .i64).sl)) gN wD v2 s.1 from Fu) (aq _ _) (fun va lP=>?_);exact ab ⟨rfl,rfl,_,rfl,lP,aw _ _⟩
  refine aF ?_ ?_
  ·intro wD E sD;intro v3 Ac;refine aX rfl rfl Qt (qG (M:=gN) (sD.lt hMA) (show((RT.int .i64).sl).V gN wD s.1 v3 from Ac) (by omega)) (fun r1 w1 h1=>?_);exact ab ⟨rfl,rfl,_,rfl,h1.1,h1.2⟩
  refine aF ?_ ?_
  ·intro wD E sD;refine ad rfl rfl ?_;exact ab ⟨rfl,rfl,_,rfl,rfl,aw _ _⟩
  refine aF ?_ ?_
  ·intro wD E sD;refine aR (bS rfl Wh.gz rfl ?_);exact ab ⟨rfl,rfl,_,rfl,rfl,aw _ _⟩
  refine aF ?_ ?_
  ·intro wD E sD;refine aR ?_;refine aN (M:=gN) (A:=RT.se) (B:=((RT.int .i64).sl)) iI rfl rfl jL (by decide) se1 rfl rfl (by decide) Wh sD.le (fun uf Cl=>?_);exact ab ⟨rfl,rfl,_,rfl,Cl,aw _ _⟩
  refine aF ?_ ?_
  ·intro wD E sD;intro v7 Gp;refine bT (M:=gN) an rfl rfl rfl rfl rfl (show cN (((RT.int .i64).sl)) gN wD v7 s.2.1 from Gp) (aq _ _) (fun va lP=>?_);exact ab ⟨rfl,rfl,_,rfl,lP,aw _ _⟩
  refine aF ?_ ?_
  ·intro wD E sD;intro v8 Kn;intro v4 qf;refine aX rfl rfl Qt (qG (M:=gN) (sD.lt hMA) (show((RT.int .i64).sl).V gN wD s.2.1 v8 from Kn) (by omega)) (fun r1 w1 h1=>?_);exact ab ⟨rfl,rfl,_,rfl,h1.1,h1.2⟩
  refine aF ?_ ?_
  ·intro wD E sD;refine ad rfl rfl ?_;exact ab ⟨rfl,rfl,_,rfl,rfl,aw _ _⟩
  refine aF ?_ ?_
  ·intro wD E sD;refine aR (bS rfl Wh.gz rfl ?_);exact ab ⟨rfl,rfl,_,rfl,rfl,aw _ _⟩
  refine aF ?_ ?_
  ·intro wD E sD;refine aR ?_;refine aN (M:=gN) (A:=RT.se) (B:=(RT.di).ptr) iI rfl rfl EB (by decide) se2 rfl rfl (by decide) Wh sD.le (fun uf Cl=>?_);exact ab ⟨rfl,rfl,_,rfl,Cl,aw _ _⟩
  refine aF ?_ ?_
  ·intro wD E sD;intro v12 Wi;refine bT (M:=gN) gy rfl rfl rfl rfl rfl (show cN ((RT.di).ptr) gN wD v12 s.2.2 from Wi) (aq _ _) (fun va lP=>?_);exact ab ⟨rfl,rfl,_,rfl,lP,aw _ _⟩
  refine aF ?_ ?_
  ·intro wD E sD;intro Sd Ob;intro v9 DM;refine aX rfl rfl E76 (zt (M:=gN) _ (sD.lt hMA) (lF.1 (show((RT.di).ptr).V gN wD s.2.2 Sd from Ob)) (by rw[hls,aL];exact hdl) hd6) (fun r1 w1 h1=>?_);exact ab ⟨rfl,rfl,_,rfl,h1.1,h1.2⟩
  refine aF ?_ ?_
  ·intro wD E sD;intro v4 qf;intro v9 DM;intro v14 aa4;refine iC (places:=[(0,1),(1,1),(2,1),(3,1)]) bm Bn B72 rfl ⟨_,_,rfl,rfl,_,_,rfl,rfl,_,_,rfl,rfl,rfl⟩ (out:=[v4,v9,v14,.slice none 0 0]) ⟨0,[_],rfl,ju qf,by simp[Value.cells],1,[_],rfl,ju DM,by simp[Value.cells],2,[_],rfl,ju aa4,by simp[Value.cells],rfl⟩ ?_;exact ab ⟨rfl,rfl,_,rfl,⟨v4,v9,v14,rfl,qf,DM,aa4⟩,aw _ _⟩
  refine aF ?_ ?_
  ·intro wD E sD;refine dP gN Bn rfl (fun bq wq e1 e2 e3 s=>?_);exact ab ⟨rfl,rfl,_,rfl,⟨bq,rfl,ez sD.size e1,e3⟩,s.back⟩
  exact sH
 ·intro Fv lY;refine aR (aR ?_);intro JH pS;intro afh R3;intro aiu aaW;refine aR (aR ?_);intro ZD Si;intro ar3 amH;intro ar4 amI;refine aR (aR ?_);intro amJ aiU;intro amK aiV;intro amL aiW;intro amM Wj;intro amN Wk;obtain⟨va,vb,vc,rfl,lP,Nc,hvc⟩:=Wj;obtain⟨bo,rfl,Nr,gq⟩:=Wk;obtain⟨MP,eMP⟩:∃M',M'=ins gN bo:=⟨_,rfl⟩;have sW:Step gN Co MP Fv aC:=by rw[eMP];exact lY.own Nr (ak gq)
  replace lP:((RT.int .i64).sl).V MP Fv s.1 va:=by rw[eMP];exact Ow (fun _ _ _ _ _ _ h=>h) gq (fun M w x vs (h:vs=_∧_)=>⟨_,[],h.1,fun j hj=>by rcases j with _|_|_|_|j<;>simp at hj⟩) lP
  replace Nc:((RT.int .i64).sl).V MP Fv s.2.1 vb:=by rw[eMP];exact Ow (fun _ _ _ _ _ _ h=>h) gq (fun M w x vs (h:vs=_∧_)=>⟨_,[],h.1,fun j hj=>by rcases j with _|_|_|_|j<;>simp at hj⟩) Nc
  replace hvc:(RT.str.sl).V MP Fv s.2.2.1 vc:=by rw[eMP];exact Ow (fun _ _ _ _ _ _ h=>h) gq (fun M w x vs (h:vs=_∧_)=>⟨_,[],h.1,fun j hj=>by rcases j with _|_|_|_|j<;>simp at hj⟩) hvc
  have mbo:MP bo:=by rw[eMP];exact .inl rfl
  refine dC (M:=MP) (vs:=[va,vb,vc,.slice none 0 0]) Bn rfl rfl (by intro u hu;simp at hu;rcases hu with rfl|rfl|rfl|rfl<;>first|rfl|exact lE (by assumption) rfl rfl) rfl rfl gq mbo (fun Xr g17 Cm=>?_);replace lP:=lP.le Cm.le;replace Nc:=Nc.le Cm.le;replace hvc:=hvc.le Cm.le;replace mbo:=(Cm.mem _ (ak gq)).2 mbo;have hsQ:cN RT.se MP Xr v0 s:=(Wh.le (by decide) sW.le).le (by decide) Cm.le;have SA:=S;clear S hM gq;have gq:=g17;have S:Step gN Co MP Xr aC:=sW.cd Cm (fun k (hk:k=bo)=>by omega);have hM:=S.lt hMA;refine ab (aj (aj (ae (ad rfl rfl (bS rfl hsQ.gz rfl ?_)))));refine aN (M:=MP) (A:=RT.se) (B:=(RT.di).ptr) iI rfl rfl EB (by decide) se2 rfl rfl (by decide) hsQ (aq _ _) (fun ZZ lj=>?_);refine bT (M:=MP) gy rfl rfl rfl rfl rfl lj (aq _ _) (fun vd hvd=>?_);have hdp:=lF.1 hvd;refine aX rfl rfl E77 (Br (M:=MP) _ hM hdp) (fun r2 w2 hc=>?_);obtain⟨bi,bd,rfl,gi,gd,PN,hbd,s2⟩:=hc;have fi: ¬MP bi:=fun h=>by have:=hM _ h;omega
  have fd: ¬MP bd:=fun h=>by have:=hM _ h;omega
  replace hM:=s2.lt hM;have:=S.size;replace S:=S.aB s2;refine ab (aZ ?_);refine T.range (gf:=123) (lb:=[.pointer (some ⟨bi,0,none⟩),.pointer (some ⟨bd,0,none⟩)].toArray) rfl VO (fun rec nD=>?_);obtain⟨D,hD⟩:∃D,D=w2.heap.size:=⟨_,rfl⟩;obtain⟨Mr,h0⟩:=aiT (A:=(RT.po).sl) (e:=80) (X:=(It s va vb vc MP w2)) (F:=(fun vo=> #[va,vb,vc,vo])) It.le (st:=rec .ready none) ⟨lP.le s2.le,Nc.le s2.le,hvc.le s2.le,aq _ _⟩ hM S (s2.aK gq) ((s2.mem _ (ak gq)).2 mbo) gi gd fi fd Nr;rw[←hD]at nD h0 ⊢;have IC:cN RT.di (fun b=>MP b∨w2.heap.size≤b) w2 vd s.2.2:=(hdp.le (by decide) s2.le).le (by decide) (Le.wide MP w2);refine Spec.mono (zq (wv:=w2) (M:=fun b=>MP b∨w2.heap.size≤b) (J:=fun i w=>∃M' vo,Ox ((RT.po).sl) 80 72 (It s va vb vc MP w2) (fun vo=> #[va,vb,vc,vo]) gN Co bo bi bd D vd (rec .ready none) vo (ls.take i) M' w) (Jx:=fun _=>False) _ IC (by rw[hls,aL];exact hdl) (fun i w w' ⟨M',vo,h⟩ s=>⟨M',vo,h.aP It.le (s.any M')⟩) (fun i w ⟨M',vo,h⟩=>⟨h.gi,h.gd,h.k.2.2.2.fixed⟩) (fun i wr x t vt hJ hx ht hp=>?_) ⟨Mr,_,h0⟩) (fun _ w3 h3=>?_)
  ·obtain⟨M',vo,h⟩:=hJ;obtain⟨l,V7,rfl⟩:∃l,ls[i]? =some l∧mU l=t:=by rw[hls,bC]at ht;exact Option.map_eq_some_iff.1 ht
   have oK:=(ao.1 V7).1;obtain⟨mY,hrp,hrb,hrl⟩:=hok l (aA V7);refine lW (ps:=[27,28]) (vs:=[sv x,vt]) nD h.r rfl (by decide) (ae (ah rfl rfl (ab ?_)));refine⟨rfl,h.r,?_⟩;have h4:=h.mH It.le (st':=rec .busy none);have s4:Step M' wr M' (wr.putObj (D+1) (.loop (rec .busy none))) (fun k=>k=D+1):=dS h.mr;have hp4:=(hp.le (by decide) h.k.2.2.2.out).le (by decide) s4.le;generalize wr.putObj (D+1) _=w4 at h4 s4 hp4 ⊢;have hM:=h4.lt;have S:=h4.S;refine aZ ?_;apply T.pJ 3 [0,1] 2 aC mixed rfl rfl rfl rfl;intro wD4 Zn;have Bi:=Zn (M');replace hM:=Bi.lt hM;have:=S.size;replace S:=S.aB Bi;replace h4:=h4.aP It.le Bi;refine bG bm rfl rfl AA (by decide) rfl rfl ?_;refine ab ⟨rfl,rfl,rfl,?_⟩;refine aM dw rfl rfl rfl h4.o rfl (aV (v':=vo) rfl ?_);refine ab ⟨rfl,rfl,rfl,?_⟩;refine ad rfl rfl ?_;refine ab ⟨rfl,rfl,rfl,?_⟩;refine ew ?_;refine⟨iB ⟨iz bm rfl AA (by decide),⟨ey rfl h4.o (fun h=>h),trivial⟩⟩,?_⟩;have kp:=jF aC wD4;refine aX rfl rfl E78 (Fc h4.lt (hp4.le (by decide) Bi.le) mY hrp hrb hrl) (fun r5 w5 hc=>?_);obtain⟨hr5,s5⟩:=hc;replace h4:=h4.aP It.le s5;refine(fun(kp:eF _ _ _)=>ab ⟨rfl,rfl,fun _=>kp,?_⟩) (by first|exact kp|exact kp.rB (by assumption)|exact kp.goN (by assumption)|exact kp.go (by assumption) (fun _ _ h=>by first|exact h|exact h.elim));refine ed (A:=(RT.po).sl) (hn:=by decide) (M:=M') dw xy (by decide) rfl rfl h4.lt hr5 (.inr ⟨rfl,rfl⟩) (fun u6 w6 Gc s6=>?_);have h6:=h4.aP It.le s6;refine(fun(kp:eF _ _ _)=>ab ⟨rfl,rfl,fun _=>kp,?_⟩) (by first|exact kp|exact kp.rB (by assumption)|exact kp.goN (by assumption)|exact kp.go (by assumption) (fun _ _ h=>by first|exact h|exact h.elim));refine cZ (M:=M') (base:=Co.heap.size) dw xy rfl rfl rfl rfl h6.own Gc (aq _ _) (by simp;omega) (by simp;omega) h6.S.size (fun v7 M7 w7 nh s7=>?_)
   obtain⟨⟨go7,mo7⟩,FJ⟩:=h6.grow It.le (by decide) s7 nh;refine ab ⟨rfl,rfl,fun h=>absurd rfl h,?_⟩;refine bG bm rfl rfl AA (by decide) rfl rfl ?_;refine ab ⟨rfl,rfl,fun h=>absurd rfl h,?_⟩;refine cu (M:=M7) AA rfl rfl go7 rfl (by obtain⟨_,_,he,_⟩:=nh.isSlice;rw[he];rfl) mo7 (fun w8 g8 s8=>?_);replace g8:w8.heap[bo]? =some (.cells ((fun vo=> #[va,vb,vc,vo]) v7) 72 (0,0)):=g8;refine ab ⟨rfl,rfl,fun h=>absurd rfl h,?_⟩;refine mN ?_;have h8:=(FJ s8 g8).mH It.le (st':=rec .ready none);exact⟨(FJ s8 g8).r,true,rfl,fun _=>⟨M7,v7,by rw[bK,V7,cT];exact h8⟩,fun h=>by cases h⟩
  ·obtain⟨M',vo,h⟩:=h3.resolve_right id;left;refine⟨h.r,?_⟩;have h5:=h.mH It.le (st':=rec .exhausted none);generalize w3.putObj (D+1) _=wE at h5 ⊢;refine aj (ae (fE (vs:=[va,vb,vc,vo]) bm rfl Bn rfl rfl rfl h5.o ?_));obtain⟨hka,hkb,Pb,_⟩:=h5.k;obtain⟨_,_,heo,_⟩:=h5.own.isSlice;have gR:=h5.S.aK oD;have mR:=(h5.S.mem _ (ak oD)).2 qI;refine dC (M:=M') (vs:=[va,vb,vc,vo]) Bn rfl rfl (by intro u hu;simp at hu;rcases hu with rfl|rfl|rfl|rfl<;>first|exact lE (by assumption) rfl rfl|(rw[heo];rfl)) rfl rfl gR mR (fun wF gF sF=>?_);refine ab (aO ?_);have hDF:=sF.keep h5.d (fun(hn:D=xz)=>by have h1:=h5.d;rw[hn,gR]at h1;cases h1);have sZ:Step M' wF M' (wF.putObj D (.deferred none)) (fun k=>k=D):=dS h5.md;have hz:=h5.z;have asc:=SA.size;have SS:=((SA.aB h5.S).cd sF (fun k (hk:k=xz)=>by omega)).cd sZ (fun k (hk:k=D)=>by omega)
   have ho:=(h5.own.step sF (fun b hb (hn:b=xz)=>h5.own.eI gR (by decide) (hn▸hb))).step sZ (fun b hb (hn:b=D)=>by
    obtain⟨cs,hc⟩:=h5.own.isCells hb;rw[hn,h5.d]at hc;cases hc)
   rw[aW (Nat.le_of_eq hdl.symm)]at ho;have Rx:ls.length≤1000000000:=by omega
   have lc:=(sF.le.trans sZ.le).trans (Le.close jM SS);refine Q4 (vs:=[va,vb,vc,vo]) rfl rfl bm rfl Bn rfl hDF (sZ.keep gF (fun(hn:xz=D)=>by rw[hn,h5.d]at gR;cases gR)) ⟨UW (x:=(s.1,s.2.1,s.2.2.1,ls)) (hka.le lc) (hkb.le lc) (Pb.le lc) (xF (hn:=by decide) jM SS (ho.nB (by omega)) (by show ls.length≤_;omega)),SS.back⟩
end Go.K
namespace Go.K
open Go.Proofs
namespace TKSegM
theorem AA:TI Tryz.prog 58 (.slice none 0 0) 1 24:=by unfold TI;kernel_rfl
theorem Bn:TI Tryz.prog 72 (.agg #[(.slice none 0 0),(.slice none 0 0),(.slice none 0 0),(.slice none 0 0)]) 4 96:=by unfold TI;kernel_rfl
theorem E32:Enters Tryz.prog 32:=enters Tryz.func32 rfl (by decide)
theorem E82:Enters Tryz.prog 82:=enters Tryz.func82 rfl (by decide)
theorem E83:Enters Tryz.prog 83:=enters Tryz.func83 rfl (by decide)
end TKSegM
open TKSegM
set_option maxRecDepth 10000
structure Q5 (s:Se) (ls:List (List Po)):Prop where
 hls:s.2.2.2=ls.map mU
 hdl:s.2.2.1.length=ls.length
 hn1:s.1.length≤1000000
 hn2:s.2.1.length≤1000000
 hd6:s.2.2.1.length≤1000000000
 hok:∀l∈ls,fH (-1) l=true∧(∀p∈l,p.2.length≤1099511627776)∧(dY (-1) l).length≤1099511627776∧l.length≤1099511627776
def partsOf (s:Se) (ls:List (List Po)):Pa:=(s.1,s.2.1,s.2.2.1,ls)
set_option maxRecDepth 100000 in
theorem Wl:Enters Tryz.prog 84:=enters Tryz.func84 rfl (by decide)
theorem Ff {M:aD} {s t:Se} {ls lt:List (List Po)} {o p:Addr} (w0:World) (hM:Lt M w0) (hs:cN RT.se M w0 (.pointer (some o)) s) (ht:cN RT.se M w0 (.pointer (some p)) t) (Xv:Q5 s ls) (Xw:Q5 t lt):
  Spec Tryz.prog 37 #[.pointer (some o),.pointer (some p)] w0 (fun v w=>v= .bool (AH (partsOf s ls) (partsOf t lt))∧Step M w0 M w aC):=by
 refine bc (args:=[_,_]) (fn:=Tryz.f37) Tryz.func37 rfl (n:=46) Tryz.ntmps37 ?_;have S:Step M w0 M w0 aC:=(aw _ _).cA (fun _ h=>h.elim) (fun _ h=>h.elim);refine aj (ae (ah rfl rfl (ab (aj (aj (ae (ad rfl rfl (Rg.AX ff rfl rfl rfl (ad rfl rfl (Rg.BC (g:=9) rfl ((by simp)) (al rfl rfl ?_)))))))))));refine ad rfl rfl (al rfl rfl (Rg.AX ff rfl rfl rfl (aE rfl rfl rfl (ab (T.tF rfl ((by simp)) (aU (aj (ae (ad rfl rfl ?_)))))))));refine aX rfl rfl E32 (xe _ hM hs Xv.hls Xv.hdl Xv.hn1 Xv.hn2 Xv.hd6 Xv.hok) (fun r1 w1 hc=>?_);obtain⟨ai0,sp1⟩:=hc;obtain⟨a1,b1,c1,d1,rfl,xr,mv,vG,xS⟩:=Mt ai0;dsimp only at xr mv vG xS;replace hs:=hs.le (by decide) sp1.le;replace ht:=ht.le (by decide) sp1.le;replace hM:=sp1.lt hM;have:=S.size;replace S:=S.aB sp1;refine ad rfl rfl ?_;refine aX rfl rfl E32 (xe _ hM ht Xw.hls Xw.hdl Xw.hn1 Xw.hn2 Xw.hd6 Xw.hok) (fun r2 w2 hc=>?_);obtain⟨ai1,SQ⟩:=hc;obtain⟨a2,b2,c2,d2,rfl,yf,pD,tA,zA⟩:=Mt ai1;dsimp only at yf pD tA zA;replace hs:=hs.le (by decide) SQ.le;replace ht:=ht.le (by decide) SQ.le;replace xr:=xr.le SQ.le;replace mv:=mv.le SQ.le;replace vG:=vG.le SQ.le;replace xS:=xS.le SQ.le;replace hM:=SQ.lt hM;have:=S.size;replace S:=S.aB SQ;refine dP M Bn rfl (fun Wm Ys ase asf ka mW=>?_);obtain⟨Oy,Oz⟩:∃M',M'=ins M Wm:=⟨_,rfl⟩;rw[←Oz]at mW;have jD:Oy Wm:=by rw[Oz];exact .inl rfl
 change Ys.heap[Wm]? =some (.cells #[.slice none 0 0,.slice none 0 0,.slice none 0 0,.slice none 0 0] _ _)at ka;replace hs:=hs.le (by decide) mW.le;replace ht:=ht.le (by decide) mW.le;replace xr:=xr.le mW.le;replace mv:=mv.le mW.le;replace vG:=vG.le mW.le;replace xS:=xS.le mW.le;replace yf:=yf.le mW.le;replace pD:=pD.le mW.le;replace tA:=tA.le mW.le;replace zA:=zA.le mW.le;replace hM:=mW.lt hM;have:=S.size;replace S:=S.aB mW;refine dP Oy Bn rfl (fun Wn Ue asg ash kF ly=>?_);obtain⟨OA,OB⟩:∃M',M'=ins Oy Wn:=⟨_,rfl⟩;rw[←OB]at ly;have kA:OA Wn:=by rw[OB];exact .inl rfl
 change Ue.heap[Wn]? =some (.cells #[.slice none 0 0,.slice none 0 0,.slice none 0 0,.slice none 0 0] _ _)at kF;have:=ak ka;replace jD:=(ly.mem _ this).2 jD;replace ka:=ly.aK ka;replace hs:=hs.le (by decide) ly.le;replace ht:=ht.le (by decide) ly.le;replace xr:=xr.le ly.le;replace mv:=mv.le ly.le;replace vG:=vG.le ly.le;replace xS:=xS.le ly.le;replace yf:=yf.le ly.le;replace pD:=pD.le ly.le;replace tA:=tA.le ly.le;replace zA:=zA.le ly.le;replace hM:=ly.lt hM;have:=S.size;replace S:=S.aB ly;refine dC (M:=OA) (vs:=[a1,b1,c1,d1]) Bn rfl rfl (by intro u hu;simp at hu;rcases hu with rfl|rfl|rfl|rfl<;>exact lE (by assumption) rfl rfl) rfl rfl ka jD (fun ws1 gs1 FA=>?_);have:=ak ka;replace jD:=(FA.mem _ this).2 jD;have:=ak kF;replace kA:=(FA.mem _ this).2 kA;replace kF:=FA.keep kF (fun hk=>by have hk:_=_:=hk;omega);replace hs:=hs.le (by decide) FA.le;replace ht:=ht.le (by decide) FA.le;replace xr:=xr.le FA.le;replace mv:=mv.le FA.le;replace vG:=vG.le FA.le;replace xS:=xS.le FA.le;replace yf:=yf.le FA.le;replace pD:=pD.le FA.le;replace tA:=tA.le FA.le;replace zA:=zA.le FA.le;replace hM:=FA.lt hM;have:=S.size;replace S:=S.trans FA (fun k hk h=>by have h:_=_:=h;subst h;first|(exfalso;omega)|(show _≤_;omega)|exact⟨by first|omega|assumption,(S.mem _ hk).1 ((FA.mem _ (ak ka)).1 jD)⟩|exact .inl rfl|exact .inr rfl|exact .inr (.inl rfl)|exact .inr (.inr rfl)|exact .inr (.inr (.inl rfl))|exact rfl);have SR:=gs1;clear ka;have ka:=SR;clear SR;refine dC (M:=OA) (vs:=[a2,b2,c2,d2]) Bn rfl rfl (by intro u hu;simp at hu;rcases hu with rfl|rfl|rfl|rfl<;>exact lE (by assumption) rfl rfl) rfl rfl kF kA (fun ws2 gs2 FB=>?_);have:=ak ka;replace jD:=(FB.mem _ this).2 jD;replace ka:=FB.keep ka (fun hk=>by have hk:_=_:=hk;omega);have:=ak kF;replace kA:=(FB.mem _ this).2 kA
 replace hs:=hs.le (by decide) FB.le;replace ht:=ht.le (by decide) FB.le;replace xr:=xr.le FB.le;replace mv:=mv.le FB.le;replace vG:=vG.le FB.le;replace xS:=xS.le FB.le;replace yf:=yf.le FB.le;replace pD:=pD.le FB.le;replace tA:=tA.le FB.le;replace zA:=zA.le FB.le;replace hM:=FB.lt hM;have:=S.size;replace S:=S.trans FB (fun k hk h=>by have h:_=_:=h;subst h;first|(exfalso;omega)|(show _≤_;omega)|exact⟨by first|omega|assumption,(S.mem _ hk).1 ((FB.mem _ (ak kF)).1 kA)⟩|exact .inl rfl|exact .inr rfl|exact .inr (.inl rfl)|exact .inr (.inr rfl)|exact .inr (.inr (.inl rfl))|exact rfl);have SU:=gs2;clear kF;have kF:=SU;clear SU;refine ab (aj (ae (bG bm rfl rfl jL (by decide) rfl rfl (aM an rfl rfl rfl ka rfl (aV (v':=a1) rfl (bG bm rfl rfl jL (by decide) rfl rfl (aM an rfl rfl rfl kF rfl (aV (v':=a2) rfl ?_))))))));refine aX rfl rfl E82 (zQ _ hM xr yf) (fun rr4 wr4 hc=>?_);obtain⟨rfl,FC⟩:=hc;have:=ak ka;replace jD:=(FC.mem _ this).2 jD;replace ka:=FC.aK ka;have:=ak kF;replace kA:=(FC.mem _ this).2 kA;replace kF:=FC.aK kF;replace hs:=hs.le (by decide) FC.le;replace ht:=ht.le (by decide) FC.le;replace xr:=xr.le FC.le;replace mv:=mv.le FC.le;replace vG:=vG.le FC.le;replace xS:=xS.le FC.le;replace yf:=yf.le FC.le;replace pD:=pD.le FC.le;replace tA:=tA.le FC.le;replace zA:=zA.le FC.le;replace hM:=FC.lt hM;have:=S.size;replace S:=S.aB FC;refine ad rfl rfl ?_;refine aQ (g:=25) rfl (fun vI=>?_) (fun vI=>?_)
 ·refine al rfl rfl (bG bm rfl rfl jL (by decide) rfl rfl (al rfl rfl (aM an rfl rfl rfl ka rfl (aV (v':=b1) rfl (al rfl rfl (bG bm rfl rfl jL (by decide) rfl rfl (al rfl rfl (aM an rfl rfl rfl kF rfl (aV (v':=b2) rfl (al rfl rfl ?_))))))))));refine aX rfl rfl E82 (zQ _ hM mv pD) (fun asl asm hc=>?_);obtain⟨rfl,rL⟩:=hc;have:=ak ka;replace jD:=(rL.mem _ this).2 jD;replace ka:=rL.aK ka;have:=ak kF;replace kA:=(rL.mem _ this).2 kA;replace kF:=rL.aK kF;replace hs:=hs.le (by decide) rL.le;replace ht:=ht.le (by decide) rL.le;replace xr:=xr.le rL.le;replace mv:=mv.le rL.le;replace vG:=vG.le rL.le;replace xS:=xS.le rL.le;replace yf:=yf.le rL.le;replace pD:=pD.le rL.le;replace tA:=tA.le rL.le;replace zA:=zA.le rL.le;replace hM:=rL.lt hM;have:=S.size;replace S:=S.aB rL;refine aY rfl rfl rfl (ad rfl rfl ?_);refine aQ (g:=32) rfl (fun uF=>?_) (fun uF=>?_)
  ·refine al rfl rfl (bG bm rfl rfl xN (by decide) rfl rfl (al rfl rfl (aM aI rfl rfl rfl ka rfl (aV (v':=c1) rfl (al rfl rfl (bG bm rfl rfl xN (by decide) rfl rfl (al rfl rfl (aM aI rfl rfl rfl kF rfl (aV (v':=c2) rfl (al rfl rfl ?_))))))))));refine aX rfl rfl E83 (Oq _ hM vG tA) (fun aso asp hc=>?_);obtain⟨rfl,rM⟩:=hc;have:=ak ka;replace jD:=(rM.mem _ this).2 jD;replace ka:=rM.aK ka;have:=ak kF;replace kA:=(rM.mem _ this).2 kA;replace kF:=rM.aK kF;replace hs:=hs.le (by decide) rM.le;replace ht:=ht.le (by decide) rM.le;replace xr:=xr.le rM.le;replace mv:=mv.le rM.le;replace vG:=vG.le rM.le;replace xS:=xS.le rM.le;replace yf:=yf.le rM.le;replace pD:=pD.le rM.le;replace tA:=tA.le rM.le;replace zA:=zA.le rM.le;replace hM:=rM.lt hM;have:=S.size;replace S:=S.aB rM;refine aY rfl rfl rfl (ad rfl rfl ?_);refine aQ (g:=39) rfl (fun uG=>?_) (fun uG=>?_)
   ·refine al rfl rfl (bG bm rfl rfl AA (by decide) rfl rfl (al rfl rfl (aM dw rfl rfl rfl ka rfl (aV (v':=d1) rfl (al rfl rfl (bG bm rfl rfl AA (by decide) rfl rfl (al rfl rfl (aM dw rfl rfl rfl kF rfl (aV (v':=d2) rfl (al rfl rfl ?_))))))))));refine aX rfl rfl Wl (J5 _ hM xS zA) (fun asq asr hc=>?_);obtain⟨rfl,rN⟩:=hc;have:=ak ka;replace jD:=(rN.mem _ this).2 jD;replace ka:=rN.aK ka;have:=ak kF;replace kA:=(rN.mem _ this).2 kA;replace kF:=rN.aK kF;replace hs:=hs.le (by decide) rN.le;replace ht:=ht.le (by decide) rN.le;replace xr:=xr.le rN.le;replace mv:=mv.le rN.le;replace vG:=vG.le rN.le;replace xS:=xS.le rN.le;replace yf:=yf.le rN.le;replace pD:=pD.le rN.le;replace tA:=tA.le rN.le;replace zA:=zA.le rN.le;replace hM:=rN.lt hM;have:=S.size;replace S:=S.aB rN;refine aY rfl rfl rfl (ah rfl rfl (ab (aO ?_)));refine aS rfl rfl ⟨congrArg Value.bool ?_,S.back⟩
    first
    |exact(by unfold AH partsOf;dsimp only;rw[decide_eq_true vI,decide_eq_true uF,decide_eq_true uG];simp)
    |exact(jO (fun e=>uG (congrArg (fun p:Pa=>p.2.2.1) e))).symm
    |exact(jO (fun e=>uF (congrArg (fun p:Pa=>p.2.1) e))).symm
    |exact(jO (fun e=>vI (congrArg (fun p:Pa=>p.1) e))).symm
   ·refine au rfl rfl rfl rfl (au rfl rfl rfl rfl (au rfl rfl rfl rfl (au rfl rfl rfl rfl (au rfl rfl rfl rfl (aE rfl rfl rfl (ah rfl rfl (ab (aO ?_))))))));refine aS rfl rfl ⟨congrArg Value.bool ?_,S.back⟩
    first
    |exact(by unfold AH partsOf;dsimp only;rw[decide_eq_true vI,decide_eq_true uF,decide_eq_true uG];simp)
    |exact(jO (fun e=>uG (congrArg (fun p:Pa=>p.2.2.1) e))).symm
    |exact(jO (fun e=>uF (congrArg (fun p:Pa=>p.2.1) e))).symm
    |exact(jO (fun e=>vI (congrArg (fun p:Pa=>p.1) e))).symm
  ·refine au rfl rfl rfl rfl (au rfl rfl rfl rfl (au rfl rfl rfl rfl (au rfl rfl rfl rfl (au rfl rfl rfl rfl (aE rfl rfl rfl (ad rfl rfl (au rfl rfl rfl rfl (au rfl rfl rfl rfl (au rfl rfl rfl rfl (au rfl rfl rfl rfl (au rfl rfl rfl rfl ?_)))))))))));refine aE rfl rfl rfl (ah rfl rfl (ab (aO ?_)));refine aS rfl rfl ⟨congrArg Value.bool ?_,S.back⟩
   first
   |exact(by unfold AH partsOf;dsimp only;rw[decide_eq_true vI,decide_eq_true uF,decide_eq_true uG];simp)
   |exact(jO (fun e=>uG (congrArg (fun p:Pa=>p.2.2.1) e))).symm
   |exact(jO (fun e=>uF (congrArg (fun p:Pa=>p.2.1) e))).symm
   |exact(jO (fun e=>vI (congrArg (fun p:Pa=>p.1) e))).symm
 ·refine au rfl rfl rfl rfl (au rfl rfl rfl rfl (au rfl rfl rfl rfl (au rfl rfl rfl rfl (au rfl rfl rfl rfl (aE rfl rfl rfl (ad rfl rfl (au rfl rfl rfl rfl (au rfl rfl rfl rfl (au rfl rfl rfl rfl (au rfl rfl rfl rfl (au rfl rfl rfl rfl ?_)))))))))));refine aE rfl rfl rfl (ad rfl rfl (au rfl rfl rfl rfl (au rfl rfl rfl rfl (au rfl rfl rfl rfl (au rfl rfl rfl rfl (au rfl rfl rfl rfl (aE rfl rfl rfl (ah rfl rfl (ab (aO ?_))))))))));refine aS rfl rfl ⟨congrArg Value.bool ?_,S.back⟩
  first
  |exact(by unfold AH partsOf;dsimp only;rw[decide_eq_true vI,decide_eq_true uF,decide_eq_true uG];simp)
  |exact(jO (fun e=>uG (congrArg (fun p:Pa=>p.2.2.1) e))).symm
  |exact(jO (fun e=>uF (congrArg (fun p:Pa=>p.2.1) e))).symm
  |exact(jO (fun e=>vI (congrArg (fun p:Pa=>p.1) e))).symm
end Go.K
namespace Go.K
open Go.Proofs
namespace TKSegN
theorem AA:TI Tryz.prog 58 (.slice none 0 0) 1 24:=by unfold TI;kernel_rfl
theorem xy:TI Tryz.prog 80 (.slice none 0 0) 1 24:=by unfold TI;kernel_rfl
end TKSegN
open TKSegN
set_option maxRecDepth 10000
end Go.K
namespace Go.K
open Go.Proofs
namespace TKSegQ
theorem AA:TI Tryz.prog 58 (.slice none 0 0) 1 24:=by unfold TI;kernel_rfl
theorem xy:TI Tryz.prog 80 (.slice none 0 0) 1 24:=by unfold TI;kernel_rfl
theorem EB:TI Tryz.prog 139 (.pointer none) 1 8:=by unfold TI;kernel_rfl
theorem E78:Enters Tryz.prog 78:=enters Tryz.func78 rfl (by decide)
theorem E79:Enters Tryz.prog 79:=enters Tryz.func79 rfl (by decide)
end TKSegQ
open TKSegQ
set_option maxRecDepth 10000
theorem Ho {M:aD} {s:Se} {ls:List (List Po)} {k:List UInt8} {v0:Value} (w0:World) (hM:Lt M w0) (hs:cN RT.se M w0 v0 s) (CW:D4 s.2.2.1) (ok:Q5 s ls):
  Spec Tryz.prog 36 #[v0,sv k] w0 (fun v w=>(RT.po.sl).V M w (VP s.2.2.1 ls k) v∧Step M w0 M w aC):=by
 refine bc (args:=[_,_]) (fn:=Tryz.f36) Tryz.func36 rfl (n:=20) Tryz.ntmps36 ?_;have S:Step M w0 M w0 aC:=(aw _ _).cA (fun _ h=>h.elim) (fun _ h=>h.elim);refine aj (ae (ah rfl rfl (ab (aj (ae (ad rfl rfl (bS rfl hs.gz rfl ?_)))))));refine aN (M:=M) (A:=RT.se) (B:=(RT.di).ptr) iI rfl rfl EB (by decide) se2 rfl rfl (by decide) hs (aq _ _) (fun GF oz=>?_);refine bT (M:=M) gy rfl rfl rfl rfl rfl oz (aq _ _) (fun vd hvd=>?_);refine ad rfl rfl ?_;refine aX rfl rfl E79 (find_spec (k:=k) _ hM (lF.1 hvd) CW (by rw[ok.hls,aL];exact ok.hdl)) (fun r6 w6 hc=>?_);obtain⟨s6,hr⟩:=hc
 obtain⟨p,rfl,hF⟩:∃p,r6= .tuple #[p,.bool (decide (k∈s.2.2.1))]∧aac s.2.2 k M p w6:=by
  rcases hr with⟨j,p,tl,rfl,h3,h4,h5⟩|⟨rfl,h3⟩
  ·exact⟨p,by rw[decide_eq_true (aA h3)],.inl ⟨j,tl,h3,h4,h5⟩⟩
  ·exact⟨_,by rw[decide_eq_false h3],.inr ⟨rfl,h3⟩⟩
 replace hM:=s6.lt hM;have:=S.size;replace S:=S.aB s6;refine ad rfl rfl (bW rfl rfl rfl (bW rfl rfl rfl (ah rfl rfl (ah rfl rfl (ab (aj (aj (ae (ad rfl rfl (lH rfl rfl (aV (v':= .bool (decide (k∉s.2.2.1))) (by simp) ?_)))))))))));refine ab ?_;refine bN rfl (fun c2=>?_) (fun c2=>?_)
 ·refine aj (ae (ah rfl rfl (ab (aO ?_))));exact aS rfl rfl ⟨by rw[EC c2];exact pE,S⟩
 ·refine aU (aj (ae (ad rfl rfl ?_)));obtain⟨j,tl,Yy,tN,IN⟩:=hF.resolve_right (fun h=>h.2 (cJ.1 c2));rw[ok.hls,bC]at tN;obtain⟨l,Rx,rfl⟩:=Option.map_eq_some_iff.1 tN;obtain⟨mY,hrp,hrb,hrl⟩:=ok.hok l (aA Rx);refine aX rfl rfl E78 (Fc hM IN mY hrp hrb hrl) (fun r4 w4 hc=>?_);obtain⟨hr4,s4⟩:=hc;replace hM:=s4.lt hM;have:=S.size;replace S:=S.aB s4;refine ah rfl rfl (ab (aO ?_));exact aS rfl rfl ⟨by rw[NR CW.nodup Yy Rx];exact hr4,S⟩
end Go.K
namespace Go.K
open Go.Proofs
set_option maxRecDepth 10000
theorem Wo (L:List En):(rG (fx L)).2.2.1.length=((keysOf L).map (pk L)).length:=by rw[aL];rfl
end Go.K
namespace Go.K
section
variable {P:Program} {r:Option Nat} {n:Nat} {L:Sl} {ds:List Deferred} {w:World} {K:Kt}
def zR (o:Oper):Oper:=⟨o.dst,o.op,o.type,o.pos,#[],o.guard⟩
def loose:Nat→List Oper→List Oper
 |_,[]=>[]
 |0,o::l=>zR o::l
 |q+1,o::l=>o::loose q l
theorem l1:∀(q:Nat) (l:List Oper),(loose q l).length=l.length
 |_,[]=>by cases ‹Nat› <;>rfl
 |0,o::l=>rfl
 |q+1,o::l=>by show(loose q l).length+1=_;rw[l1 q l];rfl
def Alike (o o2:Oper):Prop:=(o2=o∨o2=zR o)
theorem oH:∀{q:Nat} {l:List Oper} {j:Nat} {o:Oper},l[j]? =some o→∃o2,(loose q l)[j]? =some o2∧Alike o o2
 |_,[],j,o,h=>by simp at h
 |0,x::l,0,o,h=>⟨zR x,rfl,by simp at h;subst h;exact .inr rfl⟩
 |0,x::l,j+1,o,h=>⟨o,by simpa[loose]using h,.inl rfl⟩
 |q+1,x::l,0,o,h=>⟨x,rfl,by simp at h;subst h;exact .inl rfl⟩
 |q+1,x::l,j+1,o,h=>by
  obtain⟨o2,h1,h2⟩:=oH (q:=q) (l:=l) (j:=j) (o:=o) (by simpa using h);exact⟨o2,by simpa[loose]using h1,h2⟩
theorem J6 {q:Nat} {l:List Oper} {j:Nat} {o2:Oper} (h:(loose q l)[j]? =some o2):∃o,l[j]? =some o∧Alike o o2:=by
 have hj:=(ao.1 h).1;rw[l1]at hj;obtain⟨o3,h1,h2⟩:=oH (q:=q) (ar hj);rw[h]at h1;cases h1;exact⟨_,ar hj,h2⟩
theorem Alike.cr {o o2:Oper} (h:Alike o o2):∀k∈cr o2,k∈Go.K.cr o:=fun k hk=>by
 rcases h with rfl|rfl
 ·exact hk
 ·simp[Go.K.cr,zR]at hk
theorem AI {q:Nat} {l:List Oper} (tmps:Array Value) (j:Nat):yielded (loose q l).toArray tmps j=yielded l.toArray tmps j:=by
 unfold yielded
 have:((loose q l).toArray[j]?).bind (·.dst)=(l.toArray[j]?).bind (·.dst):=by
  simp only[il]
  cases ho:l[j]? with
  |some o=>obtain⟨o2,h1,h2⟩:=oH (q:=q) ho;rw[h1];rcases h2 with rfl|rfl<;>rfl
  |none=>rw[dU (by rw[l1];exact List.getElem?_eq_none_iff.1 ho)]
 rw[this]
theorem CG {q:Nat} {l:List Oper} (tmps:Array Value) {o o2:Oper} (h:Alike o o2):Region.wanted o2 (yielded (loose q l).toArray tmps)=Region.wanted o (yielded l.toArray tmps):=by
 have hg:o2.guard=o.guard:=by rcases h with rfl|rfl<;>rfl
 unfold Region.wanted;rw[hg]
 cases o.guard with
 |none=>rfl
 |some g=>simp only[AI]
theorem J7 {q:Nat} {l:List Oper} {Q:Exit→Act→World→Prop} {j:Nat} {o:Oper} {rest:List Nat} {a:Act} (ho:l[j]? =some o)
  (h:wpOpsIn (FW r) 0 P (loose q l).toArray (fun e a w=>match e with| .normal=>wpOpsIn (FW r) 0 P l.toArray Q rest a w|e=>Q e a w) [j] a w):wpOpsIn (FW r) 0 P l.toArray Q (j::rest) a w:=by
 obtain⟨o2,tq,hA⟩:=oH (q:=q) ho;simp only[wpOpsIn,il,ho,tq,CG _ hA]at h ⊢
 split at h
 ·rename_i hw
  rw[if_pos hw];have h':Oper.wpIn (FW r) 0 P o a w (fun x x_1=>wpOpsIn (FW r) 0 P l.toArray Q rest x x_1) (fun e a w=>match e with| .normal=>wpOpsIn (FW r) 0 P l.toArray Q rest a w|e=>Q e a w):=by rcases hA with rfl|rfl<;>exact h
  clear h tq hA;refine⟨h'.1,?_⟩;have h2:=h'.2;generalize (Oper.semAt (FW r).round a.eval o).run P w=res at h2 ⊢
  cases res with
  |ok nx w'=>
   cases nx with
   |enter f args=>exact⟨h2.1,h2.2.mono fun e xp he=>by cases e<;>exact he⟩
   |round l f tmps rS body=>exact⟨h2.1,h2.2.mono fun e xp he=>by cases e<;>exact he⟩
   |_=>exact h2
  |halt x w'=>cases x<;>exact h2
 ·rename_i hw
  rw[if_neg hw];rcases hA with rfl|rfl<;>exact⟨h.1,h.2⟩
theorem ia.loose (q:Nat) {l:List Oper} {wd:World} (h:ia P r n (Go.K.loose q l) L ds wd K):ia P r n l L ds wd K:=by
 intro a ha;obtain⟨J,h1,h2,h3,h4⟩:=h a ha;rw[l1]at h1 h3;refine⟨J,h1,fun Q D a w j o rest hj ho pG hp lv hJ hk=>?_,h3,h4⟩;obtain⟨o2,tq,hA⟩:=oH (q:=q) ho;refine J7 (q:=q) ho (h2 _ D a w j o2 [] (by rw[l1];exact hj) tq pG (fun k hk=>hp k (hA.cr k hk)) (fun i o' fO hD k hk=>?_) hJ fun a' w' Ti=>hk _ _ Ti);obtain⟨o3,h5,h6⟩:=J6 fO;exact lv i o3 h5 hD k (h6.cr k hk)
theorem T.Wp {id:Nat} {l l':List Oper} (q:Nat) (π:List Nat) (m:Nat) (fl:List Nat) (c:Nat) (N:aD) (hm:P.follows .mixedOrders=true) (FR:yj π (loose q l)=l') (rU:eB l 0=true) (aa7:eB (loose q l) 0=true) (hπ:lx π l.length=true) (ql:Nat.blt m l'.length=true) (dm:eB l' 0=true) (nC:km l' m=true) (Fq:k8 l' m fl c=true)
  (h:∀wD,(∀M,Step M w M wD aC)→kH P r n l'.toArray (l'.take m) L ds wD (fun L'=>(∀j o,j∈fl→l'[j]? =some o→bX P N wD L' o)∧sM P r n l'.toArray N wD K c (l'.drop m) L' ds wD)):T P r n (.region id l.toArray true) L ds w K:=by
 subst FR;exact ia.t hm rU fun wD hD=> .loose q (.perm π (by rw[l1];exact hπ) aa7 (yi m fl c N ql dm nC Fq (h wD hD)))
end
end Go.K
namespace Go.K
open Go.Proofs
namespace TKMerge
theorem O9:TI Tryz.prog 25 (.pointer none) 1 8:=by unfold TI;kernel_rfl
theorem VY:TI Tryz.prog 47 (.pointer none) 1 8:=by unfold TI;kernel_rfl
theorem AA:TI Tryz.prog 58 (.slice none 0 0) 1 24:=by unfold TI;kernel_rfl
theorem Bn:TI Tryz.prog 72 (.agg #[(.slice none 0 0),(.slice none 0 0),(.slice none 0 0),(.slice none 0 0)]) 4 96:=by unfold TI;kernel_rfl
theorem xy:TI Tryz.prog 80 (.slice none 0 0) 1 24:=by unfold TI;kernel_rfl
theorem kx:TI Tryz.prog 124 (.agg #[(.int .i64 0),(.int .i64 0)]) 2 16:=by unfold TI;kernel_rfl
theorem E34:Enters Tryz.prog 34:=enters Tryz.func34 rfl (by decide)
theorem E36:Enters Tryz.prog 36:=enters Tryz.func36 rfl (by decide)
theorem E38:Enters Tryz.prog 38:=enters Tryz.func38 rfl (by decide)
theorem E43:Enters Tryz.prog 43:=enters Tryz.func43 rfl (by decide)
theorem E56:Enters Tryz.prog 56:=enters Tryz.func56 rfl (by decide)
theorem E57:Enters Tryz.prog 57:=enters Tryz.func57 rfl (by decide)
theorem E58:Enters Tryz.prog 58:=enters Tryz.func58 rfl (by decide)
theorem E59:Enters Tryz.prog 59:=enters Tryz.func59 rfl (by decide)
theorem E60:Enters Tryz.prog 60:=enters Tryz.func60 rfl (by decide)
theorem E61:Enters Tryz.prog 61:=enters Tryz.func61 rfl (by decide)
theorem E62:Enters Tryz.prog 62:=enters Tryz.func62 rfl (by decide)
theorem E63:Enters Tryz.prog 63:=enters Tryz.func63 rfl (by decide)
theorem E64:Enters Tryz.prog 64:=enters Tryz.func64 rfl (by decide)
end TKMerge
open TKMerge
set_option maxRecDepth 10000
def pT (M:aD) (w:World) (g:Gs) (bs:List Nat):Prop:=bs.length=g.length∧∀(i b:Nat) (p:List En×List Bool),bs[i]? =some b→g[i]? =some p→AE M w p.2 b
theorem pT.le {M M':aD} {w w':World} {g:Gs} {bs:List Nat} (hl:Le M w M' w') (h:pT M w g bs):pT M' w' g bs:=⟨h.1,fun i b p h1 h2=>(h.2 i b p h1 h2).le hl⟩
theorem OC {M:aD} {w:World} {xs:List Int} {v:Value} (h:((RT.int .i64).sl).V M w xs v):∀x∈xs,-9223372036854775808≤x∧x≤9223372036854775807:=fun x hx=>by
 obtain⟨a,cap,_,_,_,hs⟩:=iD.1 h;rcases hs with rfl|⟨b,o,_,_,h3⟩
 ·cases hx
 ·obtain⟨i,hi⟩:=bB.1 hx;obtain⟨vs,hr,_⟩:=h3 i x hi;exact hr.2
theorem Hp {M:aD} {w:World} {s:Se} {v:Value} (h:cN RT.se M w v s):(∀x∈s.1,-9223372036854775808≤x∧x≤9223372036854775807)∧∀x∈s.2.1,-9223372036854775808≤x∧x≤9223372036854775807:=by
 obtain⟨b,o,vs,_,_,⟨va,vb,rfl,h1,vc,vd,rfl,h2,h3⟩,_⟩:=h;exact⟨OC (v:=(RT.int .i64).sl.val va) ⟨va,h1,rfl⟩,OC (v:=(RT.int .i64).sl.val vc) ⟨vc,h2,rfl⟩⟩
theorem OD {L:List En} {a:List Bool} {d:Int} (h:d∈fZ a) (hl:a.length=L.length):JG (rG (fx L)).2.1 d=tu L d:=by
 obtain⟨k,rfl,hk⟩:=kU.1 h;have h1:=(ao.1 hk).1;unfold JG tu;rw[if_pos ⟨by omega,by show(k:Int)<(L.map _).length;rw[aL];omega⟩];rfl
theorem OE {L:List En} {a:List Bool} {d:Int} (h:d∈fZ a) (hl:a.length=L.length):tu L d∈(rG (fx L)).2.1:=by
 obtain⟨k,rfl,hk⟩:=kU.1 h;have h1:k<(L.map (·.2)).length:=by rw[aL];have:=(ao.1 hk).1;omega
 unfold tu;rw[ay,az,ar h1];exact uV _
theorem Q6 {ls:List (List Int)} {a:Nat} (h:∀l∈ls,l.length≤a):rW ls≤a*ls.length:=by
 have key:∀n,n≤ls.length→zy (qM ls) n≤a*n:=by
  intro n
  induction n with
  |zero=>intro _;exact bE _
  |succ n ih=>
   intro hn;have h1:=ih (by omega)
   have h2:qM ls n≤a:=by
    unfold qM;rw[az,ar (by omega)];exact h _ (uV _)
   unfold zy;rw[Nat.mul_add];omega
 exact key ls.length (aT _)
theorem CH {g:Gs} (hg:Il g):Up (ky g):=fun l hl=>by
 obtain⟨p,hp,rfl⟩:=ca.1 hl;obtain⟨h1,h2⟩:=hg p hp;have hu:=zC h1
 have Nh:∀d∈fZ p.2,∃(k:Nat) (hk:k<p.1.length),d=k∧tu p.1 d=(p.1[k]'hk).2:=fun d hd=>by
  obtain⟨k,rfl,hk⟩:=kU.1 hd;have tL:k<p.1.length:=by have:=(ao.1 hk).1;omega
  refine⟨k,tL,rfl,?_⟩;unfold tu;rw[ay,az,bC,ar tL];rfl
 refine y8 (fun x hx=>?_) (cz.2 ((uz p.2).imp_of_mem fun {a b} ha hb Xt=>?_))
 ·obtain⟨d,hd,rfl⟩:=ca.1 hx;obtain⟨k,hk,rfl,e⟩:=Nh d hd;rw[e];exact(xU h1 _ (uV _)).1
 ·obtain⟨k,hk,rfl,e⟩:=Nh a ha;obtain⟨k',tK,rfl,e'⟩:=Nh b hb;rw[e,e'];exact(cC.1 hu) k k' hk tK (by omega)
theorem Q7 {o os:List Fo} {k:Nat} {x y:Fo} (hl:os.length=o.length) (hx:(os.take k++o.drop k)[k]? =some x) (hy:os[k]? =some y):(os.take k++o.drop k).set k y=os.take (k+1)++o.drop (k+1):=by
 have hk:k<os.length:=(ao.1 hy).1;rw[List.set_append_right _ _ (by rw[bH];omega),bH,xY (by omega),Nat.sub_self,bK,hy,cT,List.append_assoc];congr 1;rw[dB (by omega:k<o.length)];rfl
theorem Bz {M:aD} {w:World}:∀n:Nat,dX ((RT.int .i64).sl) M w (List.replicate n []) (List.replicate n (.slice none 0 0))
 |0=>rfl
 |n+1=>⟨[.slice none 0 0],_,rfl,⟨none,0,rfl,bE _,bE _,.inl rfl⟩,Bz n⟩
theorem Mg.Wq {g:Gs} {os:List Fo} {E:List En} (h:Mg g os E) (hn:∀p∈g,p.1.length≤10000):os.length≤g.length*10000:=by
 have h1:=h.nd.length_le_of_subset (l₂:=(List.range g.length).flatMap fun(i:Nat)=>(List.range 10000).map fun(d:Nat)=>(((i:Int),(d:Int)):Fo)) (fun x hx=>by
  obtain⟨k,hk⟩:=bB.1 hx;obtain⟨i,d,e,rfl,_,L,a,a1,a2,_⟩:=h.at_ k x hk;have h3:=hn _ (aA a1);have h4:=(ao.1 a2).1;exact uW.2 ⟨i,List.mem_range.2 (ao.1 a1).1,ca.2 ⟨d,List.mem_range.2 (by simp only at h3;omega),rfl⟩⟩)
 have h2:∀n:Nat,((List.range n).flatMap fun(i:Nat)=>(List.range 10000).map fun(d:Nat)=>(((i:Int),(d:Int)):Fo)).length=n*10000:=fun n=>by
  rw[List.length_flatMap];simp only[aL,List.length_range,List.map_const'];rw[List.sum_replicate_nat]
 rw[h2]at h1;exact h1
theorem Iu {a:Nat}:∀{ks:List (List (List UInt8))},(∀l∈ks,l.length≤a)→ks.flatten.length≤a*ks.length
 |[],_=>by simp
 |l::ks,h=>by
  have h1:=h l (bP ..);have h2:=Iu (ks:=ks) fun x hx=>h x (b9 _ hx)
  rw[List.flatten_cons,bj,cM,Nat.mul_add];omega
theorem Fg {g:Gs} {tos:List (List Int)} {k:List UInt8} (hg:Il g) (hn:∀p∈g,p.1.length≤10000):∀{n:Nat},n≤g.length→(xA g tos k n).length≤n*10000
 |0,_=>by simp[xA]
 |n+1,h=>by
  have h1:=Fg (k:=k) (tos:=tos) hg hn (n:=n) (by omega);have mO:g[n]? =some g[n]:=ar (by omega);have h2:=tv (tos.getD n []) (pk (g.getD n ([],[])).1 k);rw[show g.getD n ([],[])=g[n]from by rw[az,mO];rfl]at h2;have h3:(pk g[n].1 k).length≤g[n].1.length:=(qF k g[n].1 0 (ku (hg _ (aA mO)).1)).1;have h4:=hn _ (aA mO);rw[vU,bj,show g.getD n ([],[])=g[n]from by rw[az,mO];rfl];omega
theorem nu {α:Type} {f:α→Bool} {l:List α} {q:Nat} {x:α} (h:l[q]? =some x):(l.take (q+1)).filter f=if f x=true then(l.take q).filter f++[x]else(l.take q).filter f:=by
 rw[bK,h,cT,List.filter_append]
 split<;>rename_i h1<;>simp[h1]
theorem CI {L:List En} (h:uT (-1) L=true) (hn:L.length≤100000):Q5 (rG (fx L)) ((keysOf L).map (pk L)):=by
 have hF:=ku h
 have hk:(keysOf L).length≤50000000:=by
  have h1:=(kZ L).nodup.length_le_of_subset (l₂:=iy L) (fun x hx=>iS.1 hx);have:=oB hF;omega
 refine⟨rfl,Wo L,by show(L.map _).length≤_;rw[aL];omega,by show(L.map _).length≤_;rw[aL];omega,by show(keysOf L).length≤_;omega,fun l hl=>?_⟩;obtain⟨k,_,rfl⟩:=ca.1 hl;have h1:=qF k L 0 hF;have mY:fH (-1) (pk L k)=true:=uu k L 0 (-1) hF (by omega) (by omega);have kf:∀p∈pk L k,p.2.length≤500:=fun p hp=>(h1.2 p hp).2.2
 obtain⟨h2,h3⟩:=vM (pk L k) (-1) 500 (by omega) mY kf (by omega);have hl:(pk L k).length≤L.length:=h1.1;exact⟨mY,fun p hp=>by have:=kf p hp;omega,by omega,by omega⟩
theorem OF {g:Gs} (hg:Il g) (h:rH (ky g) none):ET g:=by
 obtain⟨i,k,i',k',n,eK,h1,h2⟩:=h;obtain⟨d,e,a1,a2,a3,a4,a5⟩:=xT hg h1;obtain⟨d',e',b1,b2,b3,b4,b5⟩:=xT hg h2;refine⟨i,d,i',d',e,e',a1,b1,fun⟨hi,hd⟩=>eK ⟨hi,?_⟩,by rw[←a3,←b3]⟩;subst hi;subst hd;obtain⟨L,a,c1,_⟩:=a1;have QQ:(iT g).getD i []=fZ a:=by unfold iT;rw[az,bC,c1];rfl
 rw[QQ]at a5 b5;have oJ:(fZ a).Nodup:=(uz a).imp fun h e=>by omega
 obtain⟨p1,p2⟩:=ao.1 a5;obtain⟨q1,q2⟩:=ao.1 b5;exact(List.getElem_inj (h₀:=p1) (h₁:=q1) oJ).1 (p2.trans q2.symm)
theorem Wr {g:Gs} (hg:Il g) {out:List Hd} (h:rH (ky g) (some out)) {k:Nat} {x:Fo} (hk:(dT out)[k]? =some x):∃(i q d:Nat) (t:List Int),x=((i:Int),(q:Int))∧(iT g)[i]? =some t∧t[q]? =some (d:Int)∧(kz g (dT out))[k]? =some ((i:Int),(d:Int)):=by
 unfold dT at hk;rw[bC]at hk
 cases ho:out[k]? with
 |none=>rw[ho]at hk;simp at hk
 |some o=>
  rw[ho]at hk;obtain⟨i,q,e1,e2⟩:=h.2.1 o (aA ho);obtain rfl:o.2=x:=by simpa using hk
  obtain⟨d,e,a1,a2,a3,a4,a5⟩:=xT hg e2;have hx:o.2=((i:Int),(q:Int)):=by rw[e1]
  have dR:=(ao.1 a5);obtain⟨L,a,c1,_⟩:=a1;have QQ:(iT g)[i]? =some (fZ a):=by unfold iT;rw[bC,c1];rfl
  have o9:(iT g).getD i []=fZ a:=by rw[az,QQ];rfl
  rw[o9]at a5 a2;refine⟨i,q,d,fZ a,hx,QQ,a5,?_⟩;unfold kz dT;rw[bC,bC,ho,dd,dd,hx];show some ((i:Int),((iT g).getD (i:Int).toNat []).getD (q:Int).toNat 0)=_;rw[ay,ay,o9,a2]
set_option maxHeartbeats 4000000 in
theorem Hq {M:aD} {g:Gs} {bs:List Nat} {v0 v1:Value} {w0:World} (hM:Lt M w0) (hs:(((RT.se).ptr).sl).V M w0 (g.map fun p=>rG (fx p.1)) v0) (hb:(RT.Lc.sl).V M w0 bs v1) (dA:pT M w0 g bs) (hg:Il g) (V7:g.length≤100) (SV:∀p∈g,p.1.length≤10000) (GM:∀p∈g,(keysOf p.1).length≤100000) (h0: ¬M 1) (Hc:∃e fr,w0.heap[1]? =some (.cells (IY.map fun(k:Nat)=>Value.int .u8 (k:Int)).toArray e fr)):
  Spec Tryz.prog 22 #[v0,v1] w0 (fun v w=>Step M w0 M w aC∧((∃os E,Mg g os E∧∃s,v= .tuple #[s,.int .i64 0]∧cN RT.se M w s (rG (fx E)))∨(ET g∧v= .tuple #[.pointer none,.int .i64 5]))):=by
 have jM:=hM;obtain⟨etb,ftb,Ws⟩:=Hc;have nC:(g.map fun p=>rG (fx p.1)).length=g.length:=aL ..;have asB:=dA.1;refine bc (args:=[_,_]) (fn:=Tryz.f22) Tryz.func22 rfl (n:=201) Tryz.ntmps22 ?_;have S:Step M w0 M w0 aC:=(aw _ _).cA (fun _ h=>h.elim) (fun _ h=>h.elim);refine aj (ae (ah rfl rfl (ah rfl rfl (ab (aj (aj (ae (ad rfl rfl (ad rfl rfl ?_)))))))));refine aX rfl rfl E56 (Hi (ns:=g.map fun p=>p.1.length) w0 hs hb (by rw[dA.1,nC]) (by rw[aL,nC]) (fun i b n h1 h2=>?_)) (fun r1 w1 hc=>?_)
 ·rw[bC]at h2
  cases mO:g[i]? with
  |none=>rw[mO]at h2;simp at h2
  |some p=>
   rw[mO]at h2;obtain rfl:p.1.length=n:=by simpa using h2
   obtain⟨ws,h3,_⟩:=dA.2 i b p h1 mO;rw[(hg p (aA mO)).2]at h3;exact⟨ws,h3⟩
 obtain⟨rfl,e1⟩:=hc;obtain rfl:w0=w1:=e1.symm;refine aV (v':= .bool true) (congrArg Value.bool (decide_eq_true (by rw[List.map_map];apply List.map_congr_left;intro p _;show(p.1.map _).length=_;rw[aL]))) (lH rfl rfl (aV (v':= .bool false) rfl (ab (jE rfl (aU (aj (ae (ah rfl rfl (ah rfl rfl (ab (aj ?_)))))))))));refine ae (ah rfl rfl (ab (aj (aj (ae (ad rfl rfl (bM eJ rfl hs rfl (aV (v':= .int .i64 (g.length:Int)) (by rw[nC]) (ad rfl rfl (ab (aZ ?_)))))))))));refine de (σ:=Nat×Value×Value×Value) (fun q=>[(0,v0),(1,v1),(4,.pointer none),(5,.int .i64 0),(6,q.2.2.1),(7,q.2.1),(8,q.2.2.2),(34,v0),(35,.int .i64 (g.length:Int)),(36,.int .i64 (q.1:Int))]) (fun q w=>q.1≤g.length∧∃M',Lt M' w∧Step M w0 M' w aC∧(((RT.se).ptr).sl).V M' w (g.map fun p=>rG (fx p.1)) v0∧(RT.Lc.sl).V M' w bs v1∧pT M' w g bs∧Own ((RT.int .i64).sl) 37 M' w w0.heap.size q.2.1 ((iT g).take q.1)∧Own ((RT.int .i64).sl) 37 M' w w0.heap.size q.2.2.1 ((ky g).take q.1)∧Own (RT.str.sl) 57 M' w w0.heap.size q.2.2.2 ((g.map fun p=>keysOf p.1).take q.1)∧iE q.2.1 q.2.2.1) (fun q=>g.length-q.1) (0,.slice none 0 0,.slice none 0 0,.slice none 0 0) (.cons rfl (.cons rfl (.cons rfl (.cons rfl (.cons rfl (.cons rfl (.cons rfl (.cons rfl (.cons rfl (.cons rfl .nil)))))))))) ?_ ?_
 ·exact⟨bE _,_,hM,S,hs,hb,dA,dF _ _ _ _ _,dF _ _ _ _ _,dF _ _ _ _ _,iE.nil _⟩
 ·clear hM S hs hb dA;rintro⟨i,vl,vs,vk⟩ w ⟨hi,M1,hM,S,hs,hb,dA,fy,iq,hok,xQ⟩;dsimp only at hi fy iq hok xQ ⊢;refine aj (ae (cj rfl rfl rfl (ab (aj ?_))));refine bN rfl (fun c6=>?_) (fun c6=>?_)
  ·refine aU (aj (aZ (aj (ae (ad rfl rfl ?_)))));obtain⟨p,mO⟩:∃p,g[i]? =some p:=⟨_,ar (by omega)⟩;have FP:=aA mO;have Ji:(g.map fun p=>rG (fx p.1))[i]? =some (rG (fx p.1)):=by rw[bC,mO];rfl
   obtain⟨Q8,tz⟩:=hg p FP;have O6:=SV p FP;refine cy (M:=M1) eJ O9 rfl rfl rfl hs (aq _ _) (by omega) (fun u7 x_ jc hu7=>?_);rw[ay]at jc;obtain rfl:=aH (Ji.symm.trans jc);refine bT (M:=M1) ff rfl rfl rfl rfl rfl hu7 (aq _ _) (fun v7 Gp=>?_);have kf:=lF.1 Gp;obtain⟨a7,rfl⟩:=kf.gz;refine ah rfl rfl (ah rfl rfl (ab (aj (ae (ad rfl rfl (ad rfl rfl ?_))))));obtain⟨b8,PN⟩:∃b,bs[i]? =some b:=⟨_,ar (by rw[dA.1];omega)⟩;have k3:=dA.1;refine cy (M:=M1) Tryz.underlying49 VY rfl rfl rfl hb (aq _ _) (by omega) (fun u8 x_ jc hu8=>?_);rw[ay]at jc;obtain rfl:=aH (PN.symm.trans jc);refine bT (M:=M1) Tryz.underlying47 rfl rfl rfl rfl rfl hu8 (aq _ _) (fun vb Nc=>?_);obtain rfl:=Dn.1 Nc;have ai4:=S.aK Ws;refine aX rfl rfl E57 (EY hM (dA.2 i b8 p PN mO) (fun h=>h0 ((S.mem 1 (ak Ws)).1 h)) ⟨etb,ftb,ai4⟩) (fun r8 w8 hc=>?_);obtain⟨wi,s8⟩:=hc;replace hs:=hs.le s8.le;replace hb:=hb.le s8.le;replace dA:=dA.le s8.le;replace kf:=kf.le (by decide) s8.le;replace fy:=fy.aP s8;replace iq:=iq.aP s8;replace hok:=hok.aP s8;replace hM:=s8.lt hM;have:=S.size;replace S:=S.aB s8;refine ah rfl rfl (ab (aj (ae (ah rfl rfl (ab (aj (aj (ae (ad rfl rfl ?_)))))))));have IN:=vT p.2;refine bM an rfl wi rfl (ad rfl rfl (ab (aZ ?_)));refine de (σ:=Nat×Value) (fun q=>[(0,v0),(1,v1),(4,.pointer none),(5,.int .i64 0),(6,vs),(7,vl),(8,vk),(34,v0),(35,.int .i64 (g.length:Int)),(36,.int .i64 (i:Int)),(9,.int .i64 (i:Int)),(10,.pointer (some a7)),(11,r8),(12,q.2),(46,r8),(47,.int .i64 ((fZ p.2).length:Int)),(48,.int .i64 (q.1:Int))]) (fun q w=>q.1≤(fZ p.2).length∧∃M',Lt M' w∧Step M w0 M' w aC∧(((RT.se).ptr).sl).V M' w (g.map fun p=>rG (fx p.1)) v0∧(RT.Lc.sl).V M' w bs v1∧pT M' w g bs∧cN RT.se M' w (.pointer (some a7)) (rG (fx p.1))∧((RT.int .i64).sl).V M' w (fZ p.2) r8∧Own ((RT.int .i64).sl) 37 M' w w0.heap.size vl ((iT g).take i)∧Own ((RT.int .i64).sl) 37 M' w w0.heap.size vs ((ky g).take i)∧Own (RT.str.sl) 57 M' w w0.heap.size vk ((g.map fun p=>keysOf p.1).take i)∧Own (RT.int .i64) 3 M' w w0.heap.size q.2 (((fZ p.2).take q.1).map (tu p.1))) (fun q=>(fZ p.2).length-q.1) (0,.slice none 0 0) (.cons rfl (.cons rfl (.cons rfl (.cons rfl (.cons rfl (.cons rfl (.cons rfl (.cons rfl (.cons rfl (.cons rfl (.cons rfl (.cons rfl (.cons rfl (.cons rfl (.cons rfl (.cons rfl (.cons rfl .nil))))))))))))))))) ?_ ?_
   ·exact⟨bE _,_,hM,S,hs,hb,dA,kf,wi,fy,iq,hok,dF _ _ _ _ _⟩
   ·clear hM S hs hb dA kf wi fy iq hok;rintro⟨k,vn⟩ w ⟨Fz,M2,hM,S,hs,hb,dA,kf,wi,fy,iq,hok,Ae⟩;dsimp only at Fz Ae ⊢;refine aj (ae (cj rfl rfl rfl (ab (aj ?_))));refine bN rfl (fun F8=>?_) (fun F8=>?_)
    ·refine aU (aj (aZ (aj (ae ?_))));obtain⟨d,hk⟩:∃d,(fZ p.2)[k]? =some d:=⟨_,ar (by omega)⟩;have hdm:=aA hk;refine cy (M:=M2) an I3 rfl rfl rfl wi (aq _ _) (by omega) (fun u12 x_ jc Wc=>?_);rw[ay]at jc;obtain rfl:=aH (hk.symm.trans jc);refine bT (M:=M2) ax rfl rfl rfl rfl rfl Wc (aq _ _) (fun v12 Wi=>?_);obtain⟨rfl,_,_⟩:=x5.1 Wi;refine ah rfl rfl (ab (ae (ad rfl rfl (ad rfl rfl (ad rfl rfl ?_)))));have Pt:=(Hp kf).2 _ (OE hdm tz);refine aX rfl rfl E58 (Bq _ kf) (fun r13 w13 hc=>?_);obtain⟨rfl,rfl⟩:=hc;refine aV (v':= .int .i64 (tu p.1 d)) (congrArg (Value.int .i64) (OD hdm tz)) ?_;refine ed (A:=RT.int .i64) (hn:=by decide) (M:=M2) an I3 (by decide) rfl rfl hM (fV (by omega)) (.inr ⟨rfl,rfl⟩) (fun fP RW yQ eV=>?_);replace hs:=hs.le eV.le;replace hb:=hb.le eV.le;replace dA:=dA.le eV.le;replace kf:=kf.le (by decide) eV.le;replace wi:=wi.le eV.le;replace fy:=fy.aP eV;replace iq:=iq.aP eV;replace hok:=hok.aP eV;replace Ae:=Ae.aP eV;replace hM:=eV.lt hM;have:=S.size;replace S:=S.aB eV;refine cZ (M:=M2) (base:=w0.heap.size) an I3 rfl rfl rfl rfl Ae yQ (aq _ _) (by rw[aL,bH,eu];omega) (by rw[aL,bH,eu];omega) (S.size) (fun aa8 amT amU Wt qQ=>?_);replace hs:=hs.le qQ.le;replace hb:=hb.le qQ.le;replace dA:=dA.le qQ.le;replace kf:=kf.le (by decide) qQ.le;replace wi:=wi.le qQ.le;replace yQ:=yQ.le qQ.le;replace fy:=fy.step qQ (fun b h1 h2=>fy.dz Ae (by decide) h1 h2);replace iq:=iq.step qQ (fun b h1 h2=>iq.dz Ae (by decide) h1 h2);replace hok:=hok.step qQ (fun b h1 h2=>hok.dz Ae (by decide) h1 h2)
     replace hM:=qQ.lt hM;have:=S.size;replace S:=S.dg qQ Ae (aT _);replace Ae:=Wt;refine ah rfl rfl (ab (ae (bF rfl rfl rfl (by omega) (ad rfl rfl (ab ?_)))));refine⟨rfl,(k+1,aa8),(.cons rfl (.cons rfl (.cons rfl (.cons rfl (.cons rfl (.cons rfl (.cons rfl (.cons rfl (.cons rfl (.cons rfl (.cons rfl (.cons rfl (.cons rfl (.cons rfl (.cons rfl (.cons rfl (.cons rfl .nil))))))))))))))))),?_,?_⟩
     ·exact⟨by dsimp only;omega,_,hM,S,hs,hb,dA,kf,wi,fy,iq,hok,by dsimp only;rw[bK,hk,cT,eA];exact Ae⟩
     ·dsimp only;omega
    ·refine cG (ae ?_);rw[aW (by omega)]at Ae;refine ad rfl rfl (ad rfl rfl ?_);refine ed (A:=((RT.int .i64).sl)) (hn:=by decide) (M:=M2) cK jL (by decide) rfl rfl hM (wi) (.inr ⟨rfl,rfl⟩) (fun amV amW Wu qR=>?_);replace hs:=hs.le qR.le;replace hb:=hb.le qR.le;replace dA:=dA.le qR.le;replace kf:=kf.le (by decide) qR.le;replace wi:=wi.le qR.le;replace fy:=fy.aP qR;replace iq:=iq.aP qR;replace hok:=hok.aP qR;replace Ae:=Ae.aP qR;replace hM:=qR.lt hM;have:=S.size;replace S:=S.aB qR;refine nY (M:=M2) (base:=w0.heap.size) cK jL rfl rfl rfl rfl fy Wu (aq _ _) (by simp;omega) (by simp;omega) S.size (fun v15 w15 Wv xv ai5=>?_);generalize jz (M2) v15=M15 at Wv xv;have SX:iE v15 vs:=xQ.grown ai5 (fun b hb=>(iq.base b hb).2);replace iq:=iq.step xv (fun b hb h=>xQ b h hb);replace hok:=hok.step xv (fun b h1 h2=>hok.dz fy (by decide) h1 h2);replace Ae:=Ae.step xv (fun b h1 h2=>Ae.dz fy (by decide) h1 h2);replace hs:=hs.le xv.le;replace hb:=hb.le xv.le;replace dA:=dA.le xv.le;replace kf:=kf.le (by decide) xv.le;replace wi:=wi.le xv.le;replace S:=S.dg xv fy (aT _);replace hM:=xv.lt hM;replace fy:=Wv;clear Wv;refine ad rfl rfl (ad rfl rfl ?_);have rZ:=Ae.view (hn:=by decide) (by rw[aL];omega);replace hs:=hs.le (fg _ vn _);replace hb:=hb.le (fg _ vn _);replace dA:=dA.le (fg _ vn _);replace kf:=kf.le (by decide) (fg _ vn _);replace wi:=wi.le (fg _ vn _);replace fy:=fy.Kq (v:=vn) (fun b hb=>by first|exact fy.dz Ae (by decide) hb|exact Ww b hb);replace iq:=iq.Kq (v:=vn) (fun b hb=>by first|exact iq.dz Ae (by decide) hb|exact SY b hb);replace hok:=hok.Kq (v:=vn) (fun b hb=>by first|exact hok.dz Ae (by decide) hb|exact Wx b hb);replace hM:Lt (rm M15 vn) _:=fun b hb=>hM b hb.1
     replace S:=S.freeze (v:=vn) (fun b hb=>by have:=(Ae.base b hb).1;omega);clear Ae;refine ed (A:=((RT.int .i64).sl)) (hn:=by decide) (M:=rm M15 vn) cK jL (by decide) rfl rfl hM (rZ) (.inr ⟨rfl,rfl⟩) (fun NV aan Wy jw=>?_);replace hs:=hs.le jw.le;replace hb:=hb.le jw.le;replace dA:=dA.le jw.le;replace kf:=kf.le (by decide) jw.le;replace wi:=wi.le jw.le;replace rZ:=rZ.le jw.le;replace fy:=fy.aP jw;replace iq:=iq.aP jw;replace hok:=hok.aP jw;replace hM:=jw.lt hM;have:=S.size;replace S:=S.aB jw;refine nY (M:=rm M15 vn) (base:=w0.heap.size) cK jL rfl rfl rfl rfl iq Wy (aq _ _) (by simp;omega) (by simp;omega) S.size (fun v157 asC OG AJ aa9=>?_);generalize jz (rm M15 vn) v157=Wz at OG AJ;have WA:iE v157 v15:=SX.symm.grown aa9 (fun b hb=>(fy.base b hb).2);replace fy:=fy.step AJ (fun b hb h=>SX.symm b h hb);replace hok:=hok.step AJ (fun b h1 h2=>hok.dz iq (by decide) h1 h2);replace hs:=hs.le AJ.le;replace hb:=hb.le AJ.le;replace dA:=dA.le AJ.le;replace kf:=kf.le (by decide) AJ.le;replace wi:=wi.le AJ.le;replace S:=S.dg AJ iq (aT _);replace hM:=AJ.lt hM;replace iq:=OG;clear OG;refine ad rfl rfl (ad rfl rfl ?_);refine aX rfl rfl E38 (zu _ hM (by show _=(((fx p.1).2.2.2).map mU).length;rw[aL];show _=((keysOf p.1).map _).length;rw[aL];rfl) (by have:=GM p FP;show(keysOf p.1).length≤_;omega) kf) (fun amX amY hc=>?_);obtain⟨WB,so⟩:=hc;replace hs:=hs.le so.le;replace hb:=hb.le so.le;replace dA:=dA.le so.le;replace kf:=kf.le (by decide) so.le;replace wi:=wi.le so.le;replace fy:=fy.aP so;replace iq:=iq.aP so;replace hok:=hok.aP so;replace hM:=so.lt hM;have:=S.size;replace S:=S.aB so;refine ed (A:=(RT.str.sl)) (hn:=by decide) (M:=Wz) Tryz.underlying120 xN (by decide) rfl rfl hM (WB) (.inr ⟨rfl,rfl⟩) (fun ai6 ai7 Q9 mK=>?_)
     replace hs:=hs.le mK.le;replace hb:=hb.le mK.le;replace dA:=dA.le mK.le;replace kf:=kf.le (by decide) mK.le;replace wi:=wi.le mK.le;replace WB:=WB.le mK.le;replace fy:=fy.aP mK;replace iq:=iq.aP mK;replace hok:=hok.aP mK;replace hM:=mK.lt hM;have:=S.size;replace S:=S.aB mK;refine nY (M:=Wz) (base:=w0.heap.size) Tryz.underlying120 xN rfl rfl rfl rfl hok Q9 (aq _ _) (by simp;omega) (by simp;omega) S.size (fun S0 amZ Hr sr ai8=>?_);generalize jz (Wz) S0=am0 at Hr sr;replace fy:=fy.step sr (fun b h1 h2=>fy.dz hok (by decide) h1 h2);replace iq:=iq.step sr (fun b h1 h2=>iq.dz hok (by decide) h1 h2);replace hs:=hs.le sr.le;replace hb:=hb.le sr.le;replace dA:=dA.le sr.le;replace kf:=kf.le (by decide) sr.le;replace wi:=wi.le sr.le;replace S:=S.dg sr hok (aT _);replace hM:=sr.lt hM;replace hok:=Hr;clear Hr;refine ah rfl rfl (ah rfl rfl (ah rfl rfl (ab (ae (bF rfl rfl rfl (by omega) (ad rfl rfl (ab ?_)))))));refine⟨rfl,(i+1,v15,v157,S0),(.cons rfl (.cons rfl (.cons rfl (.cons rfl (.cons rfl (.cons rfl (.cons rfl (.cons rfl (.cons rfl (.cons rfl .nil)))))))))),?_,?_⟩
     ·refine⟨by dsimp only;omega,_,hM,S,hs,hb,dA,?_,?_,?_,WA.symm⟩
      ·dsimp only;rw[bK,show(iT g)[i]? =some (fZ p.2)from by unfold iT;rw[bC,mO];rfl];exact fy
      ·dsimp only;rw[bK,show(ky g)[i]? =some ((fZ p.2).map (tu p.1))from by unfold ky;rw[bC,mO];rfl];exact iq
      ·dsimp only;rw[bK,bC,mO];exact hok
     ·dsimp only;omega
  ·refine cG (aj (ae ?_));rw[aW (by unfold iT;rw[aL];omega)]at fy;rw[aW (by unfold ky;rw[aL];omega)]at iq;rw[aW (by rw[aL];omega)]at hok;have Fh:=xQ.symm;refine ad rfl rfl ?_;have kn:=fy.view (hn:=by decide) (by unfold iT;rw[aL];omega);replace hs:=hs.le (fg _ vl _);replace hb:=hb.le (fg _ vl _);replace dA:=dA.le (fg _ vl _);replace iq:=iq.Kq (v:=vl) (fun b hb=>by first|exact iq.dz fy (by decide) hb|exact Fh b hb);replace hok:=hok.Kq (v:=vl) (fun b hb=>by first|exact hok.dz fy (by decide) hb|exact WC b hb);replace hM:Lt (rm M1 vl) _:=fun b hb=>hM b hb.1
   replace S:=S.freeze (v:=vl) (fun b hb=>by have:=(fy.base b hb).1;omega);clear fy;have lp:=iq.view (hn:=by decide) (by unfold ky;rw[aL];omega);replace hs:=hs.le (fg _ vs _);replace hb:=hb.le (fg _ vs _);replace dA:=dA.le (fg _ vs _);replace kn:=kn.le (fg _ vs _);replace hok:=hok.Kq (v:=vs) (fun b hb=>by first|exact hok.dz iq (by decide) hb|exact Tc b hb);replace hM:Lt (rm (rm M1 vl) vs) _:=fun b hb=>hM b hb.1
   replace S:=S.freeze (v:=vs) (fun b hb=>by have:=(iq.base b hb).1;omega);clear iq;have kC:=hok.view (hn:=by decide) (by rw[aL];omega);replace hs:=hs.le (fg _ vk _);replace hb:=hb.le (fg _ vk _);replace dA:=dA.le (fg _ vk _);replace kn:=kn.le (fg _ vk _);replace lp:=lp.le (fg _ vk _);replace hM:Lt (rm (rm (rm M1 vl) vs) vk) _:=fun b hb=>hM b hb.1
   replace S:=S.freeze (v:=vk) (fun b hb=>by have:=(hok.base b hb).1;omega);clear hok
   have aba:∀l∈ky g,l.length≤10000:=fun l hl=>by
    obtain⟨p,hp,rfl⟩:=ca.1 hl;rw[aL];have:=vT p.2;have:=SV p hp;have:=(hg p hp).2;omega
   have asD:(ky g).length=g.length:=by unfold ky;rw[aL]
   refine aX rfl rfl E59 (zP hM lp (by omega) (fun l hl=>by have:=aba l hl;omega) (by have:=Q6 aba;have:10000*(ky g).length≤10000*1000:=Nat.mul_le_mul_left _ (by omega);omega)) (fun r17 Xr hc=>?_);obtain⟨M17,asF,Cm,vo,Sn,rfl,Ra⟩:=hc;replace hs:=hs.le Cm.le;replace hb:=hb.le Cm.le;replace dA:=dA.le Cm.le;replace kn:=kn.le Cm.le;replace lp:=lp.le Cm.le;replace kC:=kC.le Cm.le;replace hM:=Cm.lt hM;have:=S.size;replace S:=S.aB Cm;refine ad rfl rfl (bW rfl rfl rfl (bW rfl rfl rfl (ah rfl rfl (ah rfl rfl (ab (aj (aj (ae (ad rfl rfl (eM rfl rfl rfl (ab ?_)))))))))));refine bN rfl (fun c18=>?_) (fun c18=>?_)
   ·have j9:ET g:=by
     rcases Ra with⟨h1,_,_⟩|⟨_,r,hr,h|⟨out,_,rfl,_⟩⟩
     ·exact absurd (CH hg) h1
     ·rw[h.1]at hr;exact OF hg hr
     ·exact absurd rfl c18
    obtain⟨rfl,rfl⟩:Sn=5∧vo= .slice none 0 0:=by
     rcases Ra with⟨h1,_,_⟩|⟨_,r,hr,h|⟨out,_,rfl,_⟩⟩
     ·exact absurd (CH hg) h1
     ·exact h.2
     ·exact absurd rfl c18
    refine aj (ae (ad rfl rfl (ah rfl rfl (ah rfl rfl (ab (aO ?_))))));exact eY rfl rfl rfl ⟨S.back,.inr ⟨j9,rfl⟩⟩
   ·obtain⟨out,abb,rfl,am1,ho⟩:∃out,rH (ky g) (some out)∧Sn=0∧(dT out).length≤1099511627776∧Own RT.fo 124 M17 Xr w.heap.size vo (dT out):=by
     rcases Ra with⟨h1,_,_⟩|⟨_,r,hr,h|⟨out,h1,h2,h3,h4⟩⟩
     ·exact absurd (CH hg) h1
     ·exact absurd (by rw[h.2.1];decide) c18
     ·exact⟨out,h1▸hr,h2,h3,h4⟩
    clear Ra;have FY:=aas hg abb;have WD:(kz g (dT out)).length=(dT out).length:=by unfold kz;rw[aL]
    have hwz:=S.size
    have hEl:((kz g (dT out)).map (iN g)).length≤1000000:=by
     have h1:=FY.Wq SV;rw[aL];have:g.length*10000≤100*10000:=gj _ V7;omega
    refine aU (aj (aj (ae (ad rfl rfl (fM eO rfl ho rfl (ad rfl rfl (ab (aZ ?_))))))));refine de (σ:=Nat) (fun k=>[(0,v0),(7,vl),(8,vk),(15,vo),(81,vo),(82,.int .i64 ((dT out).length:Int)),(83,.int .i64 (k:Int))]) (fun k w=>k≤(dT out).length∧∃M',Lt M' w∧Step M w0 M' w aC∧(((RT.se).ptr).sl).V M' w (g.map fun p=>rG (fx p.1)) v0∧(RT.Lc.sl).V M' w bs v1∧pT M' w g bs∧(((RT.int .i64).sl).sl).V M' w (iT g) vl∧(RT.str.sl.sl).V M' w (g.map fun p=>keysOf p.1) vk∧Own RT.fo 124 M' w w0.heap.size vo ((kz g (dT out)).take k++(dT out).drop k)) (fun k=>(dT out).length-k) 0 (.cons rfl (.cons rfl (.cons rfl (.cons rfl (.cons rfl (.cons rfl (.cons rfl .nil))))))) ?_ ?_
    ·exact⟨bE _,_,hM,S,hs,hb,dA,kn,kC,by rw[List.take_zero,fK,List.drop_zero];exact ho.nB (by omega)⟩
    ·clear hM S hs hb dA kn kC ho lp;rintro k w ⟨hk,M2,hM,S,hs,hb,dA,kn,kC,ho⟩;have sK:=fun b hb=>(ho.base b hb).2
     refine aj (ae (cj rfl rfl rfl (ab (aj ?_))));refine bN rfl (fun c21=>?_) (fun c21=>?_)
     ·refine aU (aj (aZ (aj (ae (ad rfl rfl ?_)))));obtain⟨x,hxk⟩:∃x,(dT out)[k]? =some x:=⟨_,ar (by omega)⟩;obtain⟨i,q,d,t,rfl,Fp,htq,ai9⟩:=Wr hg abb hxk;have qV:((kz g (dT out)).take k++(dT out).drop k).length=(dT out).length:=by rw[bj,bH,du,WD];omega
      have hxx:((kz g (dT out)).take k++(dT out).drop k)[k]? =some ((i:Int),(q:Int)):=by rw[List.getElem?_append_right (by rw[bH];omega),bH,xY (by omega),Nat.sub_self,List.getElem?_drop];exact hxk
      obtain⟨go,gc,asH,fk,hgb,hgM,Yx⟩:=ho.vB (ho.Cs (by omega));rw[qV]at fk;subst fk;refine wz (size:=2) eO kx rfl rfl rfl (by omega) (q:=k*2) (by omega) ?_;refine cX (M:=fun b=>M2 b∧b≠go) (A:=RT.fo) cw rfl kx (by decide) rfl rfl rfl (ho.ptr hxx) (aq _ _) (fun v22 ajb=>?_);obtain⟨rfl,ra,rb⟩:=ri ajb;refine dP M2 kx rfl (fun Iv abd am3 am4 qS uH=>?_);obtain⟨qT,Iw⟩:∃M',M'=ins M2 Iv:=⟨_,rfl⟩;rw[←Iw]at uH;have rj:qT Iv:=by rw[Iw];exact .inl rfl
      change abd.heap[Iv]? =some (.cells #[.int .i64 0,.int .i64 0] _ _)at qS;replace hs:=hs.le uH.le;replace hb:=hb.le uH.le;replace dA:=dA.le uH.le;replace kn:=kn.le uH.le;replace kC:=kC.le uH.le;replace ho:=ho.aP uH;replace hM:=uH.lt hM;have:=S.size;replace S:=S.aB uH;refine ah rfl rfl ?_;refine dC (M:=qT) (vs:=[.int .i64 (i:Int),.int .i64 (q:Int)]) kx rfl rfl (by intro u hu;simp only[cf,eC,or_false]at hu;rcases hu with rfl|rfl<;>rfl) rfl rfl qS rj (fun ws gs ss=>?_);have:=ak qS;replace rj:=(ss.mem _ this).2 rj;replace hs:=hs.le ss.le;replace hb:=hb.le ss.le;replace dA:=dA.le ss.le;replace kn:=kn.le ss.le;replace kC:=kC.le ss.le;replace ho:=ho.step ss (fun b hb hk=>by have hk:b=Iv:=hk;have:=sK b hb;omega);replace hM:=ss.lt hM;have:=S.size;replace S:=S.trans ss (fun k hk h=>by have h:_=_:=h;subst h;first|(exfalso;omega)|(show _≤_;omega)|exact⟨by first|omega|assumption,(S.mem _ hk).1 ((ss.mem _ (ak qS)).1 rj)⟩|exact .inl rfl|exact .inr rfl|exact .inr (.inl rfl)|exact .inr (.inr rfl)|exact .inr (.inr (.inl rfl))|exact rfl);have OH:=gs;clear qS;have qS:=OH;clear OH;refine ab ?_;apply T.KM 13 mixed rfl rfl rfl rfl rfl;intro asI ajc;have AK:=ajc qT;have:=ak qS;replace rj:=(AK.mem _ this).2 rj;replace qS:=AK.aK qS;replace hs:=hs.le AK.le;replace hb:=hb.le AK.le;replace dA:=dA.le AK.le;replace kn:=kn.le AK.le;replace kC:=kC.le AK.le;replace ho:=ho.aP AK;replace hM:=AK.lt hM;have:=S.size;replace S:=S.aB AK;refine ad rfl rfl ?_;refine ab ⟨rfl,rfl,rfl,?_⟩;refine ad rfl rfl ?_;refine ab ⟨rfl,rfl,rfl,?_⟩;refine ad rfl rfl ?_;refine ab ⟨rfl,rfl,rfl,?_⟩;refine xH (len:=2) cw I3 rfl rfl rfl (by omega) ?_;refine ab ⟨rfl,rfl,rfl,?_⟩;refine aM ax rfl rfl rfl qS rfl (aV (v':= .int .i64 (i:Int)) rfl ?_)
      refine ab ⟨rfl,rfl,rfl,?_⟩;have IE:(iT g).length=g.length:=by unfold iT;rw[aL]
      have oK:=(ao.1 Fp).1;refine cy (M:=qT) cK jL rfl rfl rfl kn (aq _ _) (by omega) (fun u23 x_ jc ajd=>?_);rw[ay]at jc;obtain rfl:=aH (Fp.symm.trans jc);refine ab ⟨rfl,rfl,rfl,?_⟩;refine bT (M:=qT) an rfl rfl rfl rfl rfl ajd (aq _ _) (fun v23 aje=>?_);refine ab ⟨rfl,rfl,rfl,?_⟩;refine xH (len:=2) cw I3 rfl rfl rfl (by omega) ?_;refine ab ⟨rfl,rfl,rfl,?_⟩;refine aM ax rfl rfl rfl qS rfl (aV (v':= .int .i64 (q:Int)) rfl ?_);refine ab ⟨rfl,rfl,rfl,?_⟩;have hql:=(ao.1 htq).1;refine cy (M:=qT) an I3 rfl rfl rfl aje (aq _ _) (by omega) (fun asJ x_ jc abe=>?_);rw[ay]at jc;obtain rfl:=aH (htq.symm.trans jc);refine ab ⟨rfl,rfl,rfl,?_⟩;refine bT (M:=qT) ax rfl rfl rfl rfl rfl abe (aq _ _) (fun am5 WE=>?_);obtain⟨rfl,hrd⟩:=x5.1 WE;refine ab ⟨rfl,rfl,rfl,?_⟩;refine wz (size:=2) eO kx rfl rfl rfl (by omega) (q:=k*2) (by omega) ?_;refine ab ⟨rfl,rfl,rfl,?_⟩;refine Rg.QT (o:=k*2) (len:=2) cw I3 rfl rfl rfl (by omega) ?_;refine ab ⟨rfl,rfl,rfl,?_⟩;refine ew ?_;obtain⟨cur,EN,QP,hfo,Tq,⟨u0,dn,Rr⟩,abf⟩:=ho.aaw hxx;refine cu (M:=qT) I3 rfl rfl EN dn rfl QP (fun am6 abg xf=>?_);have fO:=abf _ _ _ hrd abg ((xf.mem _ (ak EN)).2 QP);replace hs:=hs.le xf.le;replace hb:=hb.le xf.le;replace dA:=dA.le xf.le;replace kn:=kn.le xf.le;replace kC:=kC.le xf.le;replace S:=S.cd xf (fun b hb=>by have hb:b=go:=hb;omega);replace hM:=xf.lt hM;replace ho:=fO;clear fO;refine ab (ae (bF rfl rfl rfl (by omega) (ad rfl rfl (ab ?_))));refine⟨rfl,k+1,(.cons rfl (.cons rfl (.cons rfl (.cons rfl (.cons rfl (.cons rfl (.cons rfl .nil))))))),?_,?_⟩
      ·refine⟨by omega,_,hM,S,hs,hb,dA,kn,kC,?_⟩;rw[Q7 WD hxx ai9]at ho;exact ho
      ·omega
     ·refine cG (aj (ae ?_));refine dP M2 Bn rfl (fun fc abh am7 am8 OI uI=>?_);obtain⟨Hs,Ix⟩:∃M',M'=ins M2 fc:=⟨_,rfl⟩;rw[←Ix]at uI;have CJ:Hs fc:=by rw[Ix];exact .inl rfl
      change abh.heap[fc]? =some (.cells #[.slice none 0 0,.slice none 0 0,.slice none 0 0,.slice none 0 0] _ _)at OI;replace hs:=hs.le uI.le;replace hb:=hb.le uI.le;replace dA:=dA.le uI.le;replace kn:=kn.le uI.le;replace kC:=kC.le uI.le;replace ho:=ho.aP uI;replace hM:=uI.lt hM;have:=S.size;replace S:=S.aB uI;refine ab (aj (aj (ae ?_)));have ajf:(kz g (dT out)).take k++(dT out).drop k=(kz g (dT out)):=by rw[aW (by omega),gO (by omega),iW]
      rw[ajf]at ho;refine ad rfl rfl ?_;have fk:=ho.view (hn:=by decide) (by rw[WD];omega);replace CJ:rm Hs vo _:=⟨CJ,by first|exact ho.eI OI (by decide)|(intro h;have:=(ho.base _ h).1;omega)⟩;replace hs:=hs.le (fg _ vo _);replace hb:=hb.le (fg _ vo _);replace dA:=dA.le (fg _ vo _);replace kn:=kn.le (fg _ vo _);replace kC:=kC.le (fg _ vo _);replace hM:Lt (rm Hs vo) _:=fun b hb=>hM b hb.1
      replace S:=S.freeze (v:=vo) (fun b hb=>by have:=(ho.base b hb).1;omega);clear ho;refine bM eO rfl fk rfl (ad rfl rfl (ab (aZ ?_)));refine de (σ:=Nat×Value×Value) (fun q=>[(0,v0),(8,vk),(15,vo),(19,.pointer (some ⟨fc,0,none⟩)),(102,vo),(103,.int .i64 ((kz g (dT out)).length:Int)),(104,.int .i64 (q.1:Int))]) (fun q w=>q.1≤(kz g (dT out)).length∧∃M',Lt M' w∧Step M w0 M' w aC∧(((RT.se).ptr).sl).V M' w (g.map fun p=>rG (fx p.1)) v0∧(RT.Lc.sl).V M' w bs v1∧pT M' w g bs∧(RT.str.sl.sl).V M' w (g.map fun p=>keysOf p.1) vk∧(RT.fo.sl).V M' w (kz g (dT out)) vo∧w.heap[fc]? =some (.cells #[q.2.1,q.2.2,.slice none 0 0,.slice none 0 0] 72 (0,0))∧M' fc∧Own (RT.int .i64) 3 M' w w0.heap.size q.2.1 ((((kz g (dT out)).map (iN g)).take q.1).map (·.1.1))∧Own (RT.int .i64) 3 M' w w0.heap.size q.2.2 ((((kz g (dT out)).map (iN g)).take q.1).map (·.2))∧iE q.2.1 q.2.2) (fun q=>(kz g (dT out)).length-q.1) (0,.slice none 0 0,.slice none 0 0) (.cons rfl (.cons rfl (.cons rfl (.cons rfl (.cons rfl (.cons rfl (.cons rfl .nil))))))) ?_ ?_
      ·exact⟨bE _,_,hM,S,hs,hb,dA,kC,fk,OI,CJ,dF _ _ _ _ _,dF _ _ _ _ _,iE.nil _⟩
      ·clear hM S hs hb dA kn kC fk;rintro⟨k,vi,vq⟩ w ⟨hk,M3,hM,S,hs,hb,dA,kC,fk,gp,eE,eL,gV,xQ⟩;dsimp only at hk gp eL gV xQ ⊢;have hbz:=ak gp;have uJ:=fun b hb=>(eL.base b hb).2
       have uK:=fun b hb=>(gV.base b hb).2
       refine aj (ae (cj rfl rfl rfl (ab (aj ?_))));refine bN rfl (fun c27=>?_) (fun c27=>?_)
       ·refine aU (aj (aZ (aj (ae ?_))));obtain⟨x,hxk⟩:∃x,(kz g (dT out))[k]? =some x:=⟨_,ar (by omega)⟩;obtain⟨i,d,e,rfl,hek,L,a,mO,hld,had⟩:=FY.at_ k x hxk;have Ji:(g.map fun p=>rG (fx p.1))[i]? =some (rG (fx L)):=by rw[bC,mO];rfl
        have oK:=(ao.1 mO).1;refine cy (M:=M3) eO kx rfl rfl rfl fk (aq _ _) (by omega) (fun u28 x_ jc ajg=>?_);rw[ay]at jc;obtain rfl:=aH (hxk.symm.trans jc);refine cX (M:=M3) (A:=RT.fo) cw rfl kx (by decide) rfl rfl rfl ajg (aq _ _) (fun v28 ajh=>?_);obtain⟨rfl,ra,rb⟩:=ri ajh;refine dP M3 kx rfl (fun uL abi ana anb fC pU=>?_);obtain⟨nN,Iy⟩:∃M',M'=ins M3 uL:=⟨_,rfl⟩;rw[←Iy]at pU;have gJ:nN uL:=by rw[Iy];exact .inl rfl
        change abi.heap[uL]? =some (.cells #[.int .i64 0,.int .i64 0] _ _)at fC;have:=ak gp;replace eE:=(pU.mem _ this).2 eE;replace gp:=pU.aK gp;replace hs:=hs.le pU.le;replace hb:=hb.le pU.le;replace dA:=dA.le pU.le;replace kC:=kC.le pU.le;replace fk:=fk.le pU.le;replace eL:=eL.aP pU;replace gV:=gV.aP pU;replace hM:=pU.lt hM;have:=S.size;replace S:=S.aB pU;refine dC (M:=nN) (vs:=[.int .i64 (i:Int),.int .i64 (d:Int)]) kx rfl rfl (by intro u hu;simp only[cf,eC,or_false]at hu;rcases hu with rfl|rfl<;>rfl) rfl rfl fC gJ (fun ws gs ss=>?_);have:=ak gp;replace eE:=(ss.mem _ this).2 eE;replace gp:=ss.keep gp (fun hk=>by have hk:_=_:=hk;omega);have:=ak fC;replace gJ:=(ss.mem _ this).2 gJ;replace hs:=hs.le ss.le;replace hb:=hb.le ss.le;replace dA:=dA.le ss.le;replace kC:=kC.le ss.le;replace fk:=fk.le ss.le;replace eL:=eL.step ss (fun c hc h=>by first|exact eL.eI gp (by decide) ((show c=fc from h)▸hc)|(have h:c=uL:=h;have:=uJ c hc;omega));replace gV:=gV.step ss (fun c hc h=>by first|exact gV.eI gp (by decide) ((show c=fc from h)▸hc)|(have h:c=uL:=h;have:=uK c hc;omega));replace hM:=ss.lt hM;have:=S.size;replace S:=S.trans ss (fun k hk h=>by have h:_=_:=h;subst h;first|(exfalso;omega)|(show _≤_;omega)|exact⟨by first|omega|assumption,(S.mem _ hk).1 ((ss.mem _ (ak fC)).1 gJ)⟩|exact .inl rfl|exact .inr rfl|exact .inr (.inl rfl)|exact .inr (.inr rfl)|exact .inr (.inr (.inl rfl))|exact rfl);have OJ:=gs;clear fC;have fC:=OJ;clear OJ;refine ab ?_;apply T.Wp 24 [0,1,2,3,4,5,6,7,8,12,13,14,15,16,17,18,19,20,24,9,10,11,21,22,23,25,26,27] 19 [0,1,9,10,11,12,13,14,15,16,17,18] 6 (fun b=>fz vi b∨fz vq b) mixed
        ·simp+decide only[loose,zR,yj,sN,eQ,j5,je,jf,fq,dd,ie,qd,cond_true,cond_false,Nat.reduceBEq,Nat.reduceAdd,beq_self_eq_true];rfl
        ·rfl
        ·rfl
        ·rfl
        ·rfl
        ·rfl
        ·rfl
        ·rfl
        intro aji ajj;have wk:=ajj nN;have:=ak gp;replace eE:=(wk.mem _ this).2 eE;replace gp:=wk.aK gp;have:=ak fC;replace gJ:=(wk.mem _ this).2 gJ;replace fC:=wk.aK fC;replace hs:=hs.le wk.le;replace hb:=hb.le wk.le;replace dA:=dA.le wk.le;replace kC:=kC.le wk.le;replace fk:=fk.le wk.le;replace eL:=eL.aP wk;replace gV:=gV.aP wk;replace hM:=wk.lt hM;have:=S.size;replace S:=S.aB wk;refine bG (o':=0) bm rfl rfl jL (by decide) rfl rfl ?_;refine ab ⟨rfl,rfl,rfl,?_⟩;refine aM an rfl rfl rfl gp rfl (aV (v':=vi) rfl ?_);refine ab ⟨rfl,rfl,rfl,?_⟩;refine ad rfl rfl ?_;refine ab ⟨rfl,rfl,rfl,?_⟩;refine xH (len:=2) cw I3 rfl rfl rfl (by omega) ?_;refine ab ⟨rfl,rfl,rfl,?_⟩;refine aM ax rfl rfl rfl fC rfl (aV (v':= .int .i64 (i:Int)) rfl ?_);refine ab ⟨rfl,rfl,rfl,?_⟩;refine cy (M:=nN) eJ O9 rfl rfl rfl hs (aq _ _) (by omega) (fun asM x_ jc abj=>?_);rw[ay]at jc;obtain rfl:=aH (Ji.symm.trans jc);refine ab ⟨rfl,rfl,rfl,?_⟩;refine bT (M:=nN) ff rfl rfl rfl rfl rfl abj (aq _ _) (fun asN abk=>?_);have Fi:=lF.1 abk;obtain⟨asO,rfl⟩:=Fi.gz;refine ab ⟨rfl,rfl,rfl,?_⟩;refine xH (len:=2) cw I3 rfl rfl rfl (by omega) ?_;refine ab ⟨rfl,rfl,rfl,?_⟩;refine aM ax rfl rfl rfl fC rfl (aV (v':= .int .i64 (d:Int)) rfl ?_);refine ab ⟨rfl,rfl,rfl,?_⟩;refine bG (o':=1) bm rfl rfl jL (by decide) rfl rfl ?_;refine ab ⟨rfl,rfl,rfl,?_⟩;refine aM an rfl rfl rfl gp rfl (aV (v':=vq) rfl ?_);refine ab ⟨rfl,rfl,rfl,?_⟩;refine ad rfl rfl ?_;refine ab ⟨rfl,rfl,rfl,?_⟩;refine xH (len:=2) cw I3 rfl rfl rfl (by omega) ?_;refine ab ⟨rfl,rfl,rfl,?_⟩
        refine aM ax rfl rfl rfl fC rfl (aV (v':= .int .i64 (i:Int)) rfl ?_);refine ab ⟨rfl,rfl,rfl,?_⟩;refine cy (M:=nN) eJ O9 rfl rfl rfl hs (aq _ _) (by omega) (fun anc x_ jc OK=>?_);rw[ay]at jc;obtain rfl:=aH (Ji.symm.trans jc);refine ab ⟨rfl,rfl,rfl,?_⟩;refine bT (M:=nN) ff rfl rfl rfl rfl rfl OK (aq _ _) (fun ane WG=>?_);have pB:=lF.1 WG;obtain⟨anf,rfl⟩:=pB.gz;refine ab ⟨rfl,rfl,rfl,?_⟩;refine xH (len:=2) cw I3 rfl rfl rfl (by omega) ?_;refine ab ⟨rfl,rfl,rfl,?_⟩;refine aM ax rfl rfl rfl fC rfl (aV (v':= .int .i64 (d:Int)) rfl ?_);refine ab ⟨rfl,rfl,rfl,?_⟩;refine bG (o':=0) bm rfl rfl jL (by decide) rfl rfl ?_;refine ab ⟨rfl,rfl,rfl,?_⟩;refine ew ?_;obtain⟨bb,oo,cs_,ee_,fr_,rfl,k9,hnM⟩:=OK.float;refine⟨iB ⟨iz bm rfl jL (by decide),⟨ey rfl gp (fun h=>h.elim (eL.eI gp (by decide)) (gV.eI gp (by decide))),⟨iz bm rfl jL (by decide),⟨ey rfl gp (fun h=>h.elim (eL.eI gp (by decide)) (gV.eI gp (by decide))),⟨gP,⟨bX.idx,⟨ey rfl fC (fun h=>h.elim (fun h=>by have:=uJ _ h;omega) (fun h=>by have:=uK _ h;omega)),⟨bX.idx,⟨ey rfl k9 (fun h=>hnM (h.elim (eL.mut_ _) (gV.mut_ _))),⟨bX.idx,⟨ey rfl fC (fun h=>h.elim (fun h=>by have:=uJ _ h;omega) (fun h=>by have:=uK _ h;omega)),⟨iz bm rfl jL (by decide),trivial⟩⟩⟩⟩⟩⟩⟩⟩⟩⟩⟩⟩,?_⟩;have kp:=jF (fun b=>fz vi b∨fz vq b) aji;have ajk:=(Hp Fi).1;refine aX rfl rfl E60 (NL _ Fi) (fun asS asT hc=>?_);obtain⟨rfl,rfl⟩:=hc;refine aV (v':= .int .i64 e.1.1) (congrArg (Value.int .i64) (NK (by show(L.map _)[d]? =_;rw[bC,hld];rfl))) ?_;refine(fun(kp:eF _ _ _)=>ab ⟨rfl,rfl,fun _=>kp,?_⟩) (by first|exact kp|exact kp.rB (by assumption)|exact kp.goN (by assumption)|exact kp.go (by assumption) (fun _ _ h=>by first|exact h|exact h.elim))
        refine ed (A:=RT.int .i64) (hn:=by decide) (M:=nN) an I3 (by decide) rfl rfl hM (fV (ajk _ (by show _∈L.map _;exact ca.2 ⟨e,aA hld,rfl⟩))) (.inr ⟨rfl,rfl⟩) (fun ajl ajm Rb jY=>?_);have:=ak gp;replace eE:=(jY.mem _ this).2 eE;replace gp:=jY.aK gp;have:=ak fC;replace gJ:=(jY.mem _ this).2 gJ;replace fC:=jY.aK fC;replace hs:=hs.le jY.le;replace hb:=hb.le jY.le;replace dA:=dA.le jY.le;replace kC:=kC.le jY.le;replace fk:=fk.le jY.le;replace Fi:=Fi.le (by decide) jY.le;replace pB:=pB.le (by decide) jY.le;replace eL:=eL.aP jY;replace gV:=gV.aP jY;replace hM:=jY.lt hM;have:=S.size;replace S:=S.aB jY;refine(fun(kp:eF _ _ _)=>ab ⟨rfl,rfl,fun _=>kp,?_⟩) (by first|exact kp|exact kp.rB (by assumption)|exact kp.goN (by assumption)|exact kp.go (by assumption) (fun _ _ h=>by first|exact h|exact h.elim));refine nY (M:=nN) (base:=w0.heap.size) an I3 rfl rfl rfl rfl eL Rb (aq _ _) (by simp;omega) (by simp;omega) S.size (fun BA anh Ht mL WH=>?_);generalize jz (nN) BA=OL at Ht mL;have Iz:iE BA vq:=xQ.grown WH (fun b hb=>(gV.base b hb).2);replace gV:=gV.step mL (fun b hb h=>xQ b h hb);replace eE:=(mL.mem _ (ak gp)).2 eE;replace gp:=mL.keep gp (fun h=>by first|exact eL.eI gp (by decide) h|(have:=(eL.base _ h).2;omega));replace gJ:=(mL.mem _ (ak fC)).2 gJ;replace fC:=mL.keep fC (fun h=>by first|exact eL.eI fC (by decide) h|(have:=(eL.base _ h).2;omega));replace hs:=hs.le mL.le;replace hb:=hb.le mL.le;replace dA:=dA.le mL.le;replace kC:=kC.le mL.le;replace fk:=fk.le mL.le;replace pB:=pB.le (by decide) mL.le;replace S:=S.dg mL eL (aT _);replace hM:=mL.lt hM;replace eL:=Ht
        clear Ht;refine(fun(kp:eF _ _ _)=>ab ⟨rfl,rfl,fun _=>kp,?_⟩) (kp.go mL (fun b hb h=> .inl h));have ajn:=(Hp pB).2;refine aX rfl rfl E58 (Bq _ pB) (fun ani anj hc=>?_);obtain⟨rfl,rfl⟩:=hc;refine aV (v':= .int .i64 e.2) (congrArg (Value.int .i64) (NK (by show(L.map _)[d]? =_;rw[bC,hld];rfl))) ?_;refine(fun(kp:eF _ _ _)=>ab ⟨rfl,rfl,fun _=>kp,?_⟩) (by first|exact kp|exact kp.rB (by assumption)|exact kp.goN (by assumption)|exact kp.go (by assumption) (fun _ _ h=>by first|exact h|exact h.elim));refine ed (A:=RT.int .i64) (hn:=by decide) (M:=OL) an I3 (by decide) rfl rfl hM (fV (ajn _ (by show _∈L.map _;exact ca.2 ⟨e,aA hld,rfl⟩))) (.inr ⟨rfl,rfl⟩) (fun ajo ajp Rc kB=>?_);have:=ak gp;replace eE:=(kB.mem _ this).2 eE;replace gp:=kB.aK gp;have:=ak fC;replace gJ:=(kB.mem _ this).2 gJ;replace fC:=kB.aK fC;replace hs:=hs.le kB.le;replace hb:=hb.le kB.le;replace dA:=dA.le kB.le;replace kC:=kC.le kB.le;replace fk:=fk.le kB.le;replace pB:=pB.le (by decide) kB.le;replace eL:=eL.aP kB;replace gV:=gV.aP kB;replace hM:=kB.lt hM;have:=S.size;replace S:=S.aB kB;refine(fun(kp:eF _ _ _)=>ab ⟨rfl,rfl,fun _=>kp,?_⟩) (by first|exact kp|exact kp.rB (by assumption)|exact kp.goN (by assumption)|exact kp.go (by assumption) (fun _ _ h=>by first|exact h|exact h.elim));refine nY (M:=OL) (base:=w0.heap.size) an I3 rfl rfl rfl rfl gV Rc (aq _ _) (by simp;omega) (by simp;omega) S.size (fun IA ank Hu nv WI=>?_);generalize jz (OL) IA=Td at Hu nv;have Re:iE IA BA:=Iz.symm.grown WI (fun b hb=>(eL.base b hb).2);replace eL:=eL.step nv (fun b hb h=>Iz.symm b h hb);replace eE:=(nv.mem _ (ak gp)).2 eE;replace gp:=nv.keep gp (fun h=>by first|exact gV.eI gp (by decide) h|(have:=(gV.base _ h).2;omega))
        replace gJ:=(nv.mem _ (ak fC)).2 gJ;replace fC:=nv.keep fC (fun h=>by first|exact gV.eI fC (by decide) h|(have:=(gV.base _ h).2;omega));replace hs:=hs.le nv.le;replace hb:=hb.le nv.le;replace dA:=dA.le nv.le;replace kC:=kC.le nv.le;replace fk:=fk.le nv.le;replace S:=S.dg nv gV (aT _);replace hM:=nv.lt hM;replace gV:=Hu;clear Hu;refine(fun(kp:eF _ _ _)=>ab ⟨rfl,rfl,fun _=>kp,?_⟩) (kp.go nv (fun b hb h=> .inr h));refine cu (M:=Td) jL rfl rfl gp rfl (by obtain⟨_,_,he,_⟩:=eL.isSlice;rw[he];rfl) eE (fun WK OM kW=>?_);change WK.heap[_]? =some (Obj.cells #[BA,vq,.slice none 0 0,.slice none 0 0] _ _)at OM;have:=ak gp;replace eE:=(kW.mem _ this).2 eE;have:=ak fC;replace gJ:=(kW.mem _ this).2 gJ;replace fC:=kW.keep fC (fun hk=>by have hk:_=_:=hk;omega);replace hs:=hs.le kW.le;replace hb:=hb.le kW.le;replace dA:=dA.le kW.le;replace kC:=kC.le kW.le;replace fk:=fk.le kW.le;replace eL:=eL.step kW (fun c hc h=>by first|exact eL.eI gp (by decide) ((show c=fc from h)▸hc)|(have h:c=uL:=h;have:=uJ c hc;omega));replace gV:=gV.step kW (fun c hc h=>by first|exact gV.eI gp (by decide) ((show c=fc from h)▸hc)|(have h:c=uL:=h;have:=uK c hc;omega));replace hM:=kW.lt hM;have:=S.size;replace S:=S.trans kW (fun k hk h=>by have h:_=_:=h;subst h;first|(exfalso;omega)|(show _≤_;omega)|exact⟨by first|omega|assumption,(S.mem _ hk).1 ((kW.mem _ (ak gp)).1 eE)⟩|exact .inl rfl|exact .inr rfl|exact .inr (.inl rfl)|exact .inr (.inr rfl)|exact .inr (.inr (.inl rfl))|exact rfl);have gp_:=OM;clear gp;have gp:=gp_;clear gp_;refine ab ⟨rfl,rfl,fun h=>absurd rfl h,?_⟩;refine bG (o':=1) bm rfl rfl jL (by decide) rfl rfl ?_;refine ab ⟨rfl,rfl,fun h=>absurd rfl h,?_⟩;refine cu (M:=Td) jL rfl rfl gp rfl (by obtain⟨_,_,he,_⟩:=gV.isSlice;rw[he];rfl) eE (fun WL ON kX=>?_)
        change WL.heap[_]? =some (Obj.cells #[BA,IA,.slice none 0 0,.slice none 0 0] _ _)at ON;have:=ak gp;replace eE:=(kX.mem _ this).2 eE;have:=ak fC;replace gJ:=(kX.mem _ this).2 gJ;replace fC:=kX.keep fC (fun hk=>by have hk:_=_:=hk;omega);replace hs:=hs.le kX.le;replace hb:=hb.le kX.le;replace dA:=dA.le kX.le;replace kC:=kC.le kX.le;replace fk:=fk.le kX.le;replace eL:=eL.step kX (fun c hc h=>by first|exact eL.eI gp (by decide) ((show c=fc from h)▸hc)|(have h:c=uL:=h;have:=uJ c hc;omega));replace gV:=gV.step kX (fun c hc h=>by first|exact gV.eI gp (by decide) ((show c=fc from h)▸hc)|(have h:c=uL:=h;have:=uK c hc;omega));replace hM:=kX.lt hM;have:=S.size;replace S:=S.trans kX (fun k hk h=>by have h:_=_:=h;subst h;first|(exfalso;omega)|(show _≤_;omega)|exact⟨by first|omega|assumption,(S.mem _ hk).1 ((kX.mem _ (ak gp)).1 eE)⟩|exact .inl rfl|exact .inr rfl|exact .inr (.inl rfl)|exact .inr (.inr rfl)|exact .inr (.inr (.inl rfl))|exact rfl);have gp_:=ON;clear gp;have gp:=gp_;clear gp_;refine ab ⟨rfl,rfl,fun h=>absurd rfl h,?_⟩;refine mN (ae (bF rfl rfl rfl (by omega) (ad rfl rfl (ab ?_))));refine⟨rfl,(k+1,BA,IA),(.cons rfl (.cons rfl (.cons rfl (.cons rfl (.cons rfl (.cons rfl (.cons rfl .nil))))))),?_,?_⟩
        ·refine⟨by dsimp only;omega,_,hM,S,hs,hb,dA,kC,fk,gp,eE,?_,?_,Re.symm⟩
         ·dsimp only;rw[bK,hek,cT,eA];exact eL
         ·dsimp only;rw[bK,hek,cT,eA];exact gV
        ·dsimp only;omega
       ·refine cG (aj (ae ?_));have C1:((kz g (dT out)).map (iN g)).length=(kz g (dT out)).length:=by rw[aL]
        rw[aW (by omega)]at eL gV;refine ad rfl rfl (bM eJ rfl hs rfl (aV (v':= .int .i64 (g.length:Int)) (by rw[nC]) ?_));refine Rg.mk0 (len:=g.length) (M3) cK jL rfl rfl rfl rfl (by omega) (by omega) (fun Hv wto zto asV gto Kv=>?_);obtain⟨Mto,abm⟩:∃M',M'=ins (M3) Hv:=⟨_,rfl⟩;rw[←abm]at Kv
        have BB:Own ((RT.int .i64).sl) 37 Mto wto w0.heap.size (.slice (some ⟨Hv,0,none⟩) g.length g.length) (List.replicate g.length []):=by
         refine⟨⟨List.replicate g.length (.slice none 0 0),⟨by rw[bY,bY];exact(eG _).symm,.inr ⟨Hv,g.length,_,by rw[bY],by have:=S.size;omega,gto,by rw[bY];exact aT _,by unfold maxLen;omega,by rw[List.size_toArray,bY];exact(eG _).symm,by rw[bY];show(List.replicate _ _).toArray.toList.take (g.length*1)=_;rw[List.toList_toArray,eG,aW (by rw[bY];exact aT _)]⟩⟩,Bz _⟩,fun b hb=>by cases hb;rw[abm];exact .inl rfl⟩
        clear gto;have:=ak gp;replace eE:=(Kv.mem _ this).2 eE;replace gp:=Kv.aK gp;replace hs:=hs.le Kv.le;replace hb:=hb.le Kv.le;replace dA:=dA.le Kv.le;replace kC:=kC.le Kv.le;replace fk:=fk.le Kv.le;replace eL:=eL.aP Kv;replace gV:=gV.aP Kv;replace hM:=Kv.lt hM;have:=S.size;replace S:=S.aB Kv;refine ah rfl rfl (ab (aj (aj (ae (ad rfl rfl (bM eJ rfl hs rfl (aV (v':= .int .i64 (g.length:Int)) (by rw[nC]) (ad rfl rfl (ab (aZ ?_))))))))));refine de (σ:=Nat) (fun i=>[(0,v0),(8,vk),(15,vo),(19,.pointer (some ⟨fc,0,none⟩)),(22,.slice (some ⟨Hv,0,none⟩) g.length g.length),(138,v0),(139,.int .i64 (g.length:Int)),(140,.int .i64 (i:Int))]) (fun i w=>i≤g.length∧∃M',Lt M' w∧Step M w0 M' w aC∧(((RT.se).ptr).sl).V M' w (g.map fun p=>rG (fx p.1)) v0∧(RT.Lc.sl).V M' w bs v1∧pT M' w g bs∧(RT.str.sl.sl).V M' w (g.map fun p=>keysOf p.1) vk∧(RT.fo.sl).V M' w (kz g (dT out)) vo∧w.heap[fc]? =some (.cells #[vi,vq,.slice none 0 0,.slice none 0 0] 72 (0,0))∧M' fc∧Own (RT.int .i64) 3 M' w w0.heap.size vi (((kz g (dT out)).map (iN g)).map (·.1.1))∧Own (RT.int .i64) 3 M' w w0.heap.size vq (((kz g (dT out)).map (iN g)).map (·.2))∧(∃tos:List (List Int),tos.length=g.length∧(∀(j:Nat) (p:List En×List Bool),j<i→g[j]? =some p→Plc (kz g (dT out)) j p.1.length (tos.getD j []))∧Own ((RT.int .i64).sl) 37 M' w w0.heap.size (.slice (some ⟨Hv,0,none⟩) g.length g.length) tos)) (fun i=>g.length-i) 0 (.cons rfl (.cons rfl (.cons rfl (.cons rfl (.cons rfl (.cons rfl (.cons rfl (.cons rfl .nil)))))))) ?_ ?_
        ·exact⟨bE _,_,hM,S,hs,hb,dA,kC,fk,gp,eE,eL,gV,_,bY ..,(fun j p h=>by omega),BB⟩
        ·clear hM S hs hb dA kC fk gp eE eL gV BB;rintro i w ⟨hi,M4,hM,S,hs,hb,dA,kC,fk,gp,eE,eL,gV,tos,IN,abn,BB⟩;refine aj (ae (cj rfl rfl rfl (ab (aj ?_))));refine bN rfl (fun c33=>?_) (fun c33=>?_)
         ·refine aU (aj (aZ (aj (ae (ad rfl rfl ?_)))));obtain⟨p,mO⟩:∃p,g[i]? =some p:=⟨_,ar (by omega)⟩;have FP:=aA mO;have Ji:(g.map fun p=>rG (fx p.1))[i]? =some (rG (fx p.1)):=by rw[bC,mO];rfl
          obtain⟨Q8,tz⟩:=hg p FP;have O6:=SV p FP;refine cy (M:=M4) eJ O9 rfl rfl rfl hs (aq _ _) (by omega) (fun u34 x_ jc ajq=>?_);rw[ay]at jc;obtain rfl:=aH (Ji.symm.trans jc);refine bT (M:=M4) ff rfl rfl rfl rfl rfl ajq (aq _ _) (fun v34 ajr=>?_);have Rf:=lF.1 ajr;obtain⟨a34,rfl⟩:=Rf.gz;refine ah rfl rfl (ah rfl rfl (ab (ae (ad rfl rfl (ad rfl rfl (ad rfl rfl (ad rfl rfl (ad rfl rfl ?_))))))));refine aX rfl rfl E34 (vR _ Rf) (fun asY asZ hc=>?_);obtain⟨rfl,rfl⟩:=hc;refine aV (v':= .int .i64 (p.1.length:Int)) (by show Value.int .i64 (((p.1.map _).length:Nat):Int)=_;rw[aL]) ?_;refine aX rfl rfl E61 (EM (i:=(i:Int)) hM fk (n:=p.1.length) (by omega)) (fun as0 as1 hc=>?_);obtain⟨as2,xs,OO,ajs,_,ajt⟩:=hc;obtain⟨rD,oI⟩:=ajs.G5 (hn:=by decide) Ir ajt (aT _) hM (by rw[OO.1];omega);have:=ak gp;replace eE:=(oI.mem _ this).2 eE;replace gp:=oI.aK gp;replace hs:=hs.le oI.le;replace hb:=hb.le oI.le;replace dA:=dA.le oI.le;replace kC:=kC.le oI.le;replace fk:=fk.le oI.le;replace Rf:=Rf.le (by decide) oI.le;replace eL:=eL.aP oI;replace gV:=gV.aP oI;replace BB:=BB.aP oI;replace hM:=oI.lt hM;have:=S.size;replace S:=S.aB oI;refine wz (size:=1) cK jL rfl rfl rfl (by omega) (q:=i) (by omega) ?_;refine Rg.VX (A:=((RT.int .i64).sl)) (M:=M4) ⟨rfl,rfl⟩ jL rfl rfl BB (by omega) rD (fun as3 abo zT=>?_);have aju:∀c,vi.ownBlock=some c→¬c=Hv:=fun c hc h=>(eL.dz BB (by decide) hc) (by rw[h];rfl)
          have ajv:∀c,vq.ownBlock=some c→¬c=Hv:=fun c hc h=>(gV.dz BB (by decide) hc) (by rw[h];rfl)
          replace eL:=eL.step zT aju;replace gV:=gV.step zT ajv;replace eE:=(zT.mem _ (ak gp)).2 eE;replace gp:=zT.keep gp (fun h=>BB.eI gp (by decide) (by rw[show fc=Hv from h];rfl));replace hs:=hs.le zT.le;replace hb:=hb.le zT.le;replace dA:=dA.le zT.le;replace kC:=kC.le zT.le;replace fk:=fk.le zT.le;have as4:=(BB.base Hv rfl).1;replace S:=S.cd zT (fun b hb=>by have hb:b=Hv:=hb;omega);replace hM:=zT.lt hM;replace BB:=abo;clear abo;refine ab (ae (bF rfl rfl rfl (by omega) (ad rfl rfl (ab ?_))));refine⟨rfl,i+1,(.cons rfl (.cons rfl (.cons rfl (.cons rfl (.cons rfl (.cons rfl (.cons rfl (.cons rfl .nil)))))))),?_,?_⟩
          ·refine⟨by omega,_,hM,S,hs,hb,dA,kC,fk,gp,eE,eL,gV,_,by rw[fm];exact IN,fun j p' hj XV=>?_,BB⟩;rw[az,dp];rcases cI j i with h|h
           ·rw[if_neg (by omega),←az];exact abn j p' h XV
           ·obtain rfl:i=j:=by omega
            rw[mO]at XV;cases XV;rw[if_pos rfl,if_pos (by omega)];exact OO
          ·omega
         ·refine cG (aj (aj (ae ?_)));have IB:EP g (kz g (dT out)) tos:=⟨IN,fun j p h=>abn j p (by have:=(ao.1 h).1;omega) h⟩;obtain⟨Pd,abp⟩:∃v,v=Value.slice (some ⟨Hv,0,none⟩) g.length g.length:=⟨_,rfl⟩;rw[←abp]at BB;refine ad rfl rfl ?_;have oL:=BB.view (hn:=by decide) (by rw[IN];omega);replace eE:rm M4 Pd _:=⟨eE,by first|exact BB.eI gp (by decide)|(intro h;have:=(BB.base _ h).1;omega)⟩;replace hs:=hs.le (fg _ Pd _);replace hb:=hb.le (fg _ Pd _);replace dA:=dA.le (fg _ Pd _);replace kC:=kC.le (fg _ Pd _);replace fk:=fk.le (fg _ Pd _);replace eL:=eL.Kq (v:=Pd) (fun b hb=>by first|exact eL.dz BB (by decide) hb|exact WM b hb);replace gV:=gV.Kq (v:=Pd) (fun b hb=>by first|exact gV.dz BB (by decide) hb|exact WN b hb);replace hM:Lt (rm M4 Pd) _:=fun b hb=>hM b hb.1
          replace S:=S.freeze (v:=Pd) (fun b hb=>by have:=(BB.base b hb).1;omega);clear BB;subst abp;have Fq:=Iu (ks:=g.map fun p=>keysOf p.1) (a:=100000) (fun l hl=>by obtain⟨p,hp,rfl⟩:=ca.1 hl;exact GM p hp);rw[aL]at Fq;have as5:100000*g.length≤100000*1000:=Nat.mul_le_mul_left _ (show g.length≤1000 by omega);have xo:=JV (g.map fun p=>keysOf p.1);obtain⟨hJu,hJm⟩:=zN (g.map fun p=>keysOf p.1);refine aX rfl rfl E62 (JZ _ hM kC (by omega)) (fun rJ w37 hc=>?_);obtain⟨M37,hoJ,_,s37⟩:=hc;obtain⟨tw,xD⟩:=hoJ.G5 (hn:=by decide) nt s37 (aT _) hM (by omega);have:=ak gp;replace eE:=(xD.mem _ this).2 eE;replace gp:=xD.aK gp;replace hs:=hs.le xD.le;replace hb:=hb.le xD.le;replace dA:=dA.le xD.le;replace kC:=kC.le xD.le;replace fk:=fk.le xD.le;replace oL:=oL.le xD.le;replace eL:=eL.aP xD;replace gV:=gV.aP xD;replace hM:=xD.lt hM;have:=S.size;replace S:=S.aB xD;refine bM aI rfl tw rfl (ad rfl rfl (ab (aZ ?_)));refine de (σ:=Nat×Value×Value) (fun q=>[(0,v0),(19,.pointer (some ⟨fc,0,none⟩)),(22,.slice (some ⟨Hv,0,none⟩) g.length g.length),(155,rJ),(156,.int .i64 ((jr (g.map fun p=>keysOf p.1)).length:Int)),(157,.int .i64 (q.1:Int))]) (fun q w=>q.1≤(jr (g.map fun p=>keysOf p.1)).length∧∃M',Lt M' w∧Step M w0 M' w aC∧(((RT.se).ptr).sl).V M' w (g.map fun p=>rG (fx p.1)) v0∧(RT.str.sl).V M' w (jr (g.map fun p=>keysOf p.1)) rJ∧(((RT.int .i64).sl).sl).V M' w tos (.slice (some ⟨Hv,0,none⟩) g.length g.length)∧w.heap[fc]? =some (.cells #[vi,vq,q.2.1,q.2.2] 72 (0,0))∧M' fc∧Own (RT.int .i64) 3 M' w w0.heap.size vi (((kz g (dT out)).map (iN g)).map (·.1.1))∧Own (RT.int .i64) 3 M' w w0.heap.size vq (((kz g (dT out)).map (iN g)).map (·.2))∧Own RT.str 9 M' w w0.heap.size q.2.1 (((jr (g.map fun p=>keysOf p.1)).take q.1).filter (fun k=> !(pk ((kz g (dT out)).map (iN g)) k).isEmpty))∧Own (RT.po.sl) 80 M' w w0.heap.size q.2.2 ((((jr (g.map fun p=>keysOf p.1)).take q.1).filter (fun k=> !(pk ((kz g (dT out)).map (iN g)) k).isEmpty)).map (pk ((kz g (dT out)).map (iN g))))) (fun q=>(jr (g.map fun p=>keysOf p.1)).length-q.1) (0,.slice none 0 0,.slice none 0 0) (.cons rfl (.cons rfl (.cons rfl (.cons rfl (.cons rfl (.cons rfl .nil)))))) ?_ ?_
          ·exact⟨bE _,_,hM,S,hs,tw,oL,gp,eE,eL,gV,dF _ _ _ _ _,dF _ _ _ _ _⟩
          ·clear hM S hs hb dA kC fk tw oL gp eE eL gV;rintro⟨qk,CX,WO⟩ w ⟨hq,M5,hM,S,hs,tw,oL,gp,eE,eL,gV,hok,fy⟩;dsimp only at hq gp hok fy ⊢;refine aj (ae (cj rfl rfl rfl (ab (aj ?_))));refine bN rfl (fun c38=>?_) (fun c38=>?_)
           ·refine aU (aj (aZ (aj (ae ?_))));obtain⟨key,hkq⟩:∃x,(jr (g.map fun p=>keysOf p.1))[qk]? =some x:=⟨_,ar (by omega)⟩;refine cy (M:=M5) aI I9 rfl rfl rfl tw (aq _ _) (by omega) (fun u39 x_ jc ajw=>?_);rw[ay]at jc;obtain rfl:=aH (hkq.symm.trans jc);refine bT (M:=M5) aJ rfl rfl rfl rfl rfl ajw (aq _ _) (fun atb abr=>?_);obtain⟨rfl,FK⟩:=kG.1 abr;refine ah rfl rfl (ab (aj (ae (ah rfl rfl (ab (aj (aj (ae (ad rfl rfl (bM eJ rfl hs rfl (aV (v':= .int .i64 (g.length:Int)) (by rw[nC]) ?_)))))))))));refine ad rfl rfl (ab (aZ ?_));refine de (σ:=Nat×Value) (fun q=>[(0,v0),(19,.pointer (some ⟨fc,0,none⟩)),(22,.slice (some ⟨Hv,0,none⟩) g.length g.length),(155,rJ),(156,.int .i64 ((jr (g.map fun p=>keysOf p.1)).length:Int)),(157,.int .i64 (qk:Int)),(26,.string ⟨key.toArray⟩),(27,q.2),(161,v0),(162,.int .i64 (g.length:Int)),(163,.int .i64 (q.1:Int))]) (fun q w=>q.1≤g.length∧∃M',Lt M' w∧Step M w0 M' w aC∧(((RT.se).ptr).sl).V M' w (g.map fun p=>rG (fx p.1)) v0∧(RT.str.sl).V M' w (jr (g.map fun p=>keysOf p.1)) rJ∧(((RT.int .i64).sl).sl).V M' w tos (.slice (some ⟨Hv,0,none⟩) g.length g.length)∧w.heap[fc]? =some (.cells #[vi,vq,CX,WO] 72 (0,0))∧M' fc∧Own (RT.int .i64) 3 M' w w0.heap.size vi (((kz g (dT out)).map (iN g)).map (·.1.1))∧Own (RT.int .i64) 3 M' w w0.heap.size vq (((kz g (dT out)).map (iN g)).map (·.2))∧Own RT.str 9 M' w w0.heap.size CX (((jr (g.map fun p=>keysOf p.1)).take qk).filter (fun k=> !(pk ((kz g (dT out)).map (iN g)) k).isEmpty))∧Own (RT.po.sl) 80 M' w w0.heap.size WO ((((jr (g.map fun p=>keysOf p.1)).take qk).filter (fun k=> !(pk ((kz g (dT out)).map (iN g)) k).isEmpty)).map (pk ((kz g (dT out)).map (iN g))))∧Own RT.po 83 M' w w0.heap.size q.2 (xA g tos key q.1)) (fun q=>g.length-q.1) (0,.slice none 0 0) (.cons rfl (.cons rfl (.cons rfl (.cons rfl (.cons rfl (.cons rfl (.cons rfl (.cons rfl (.cons rfl (.cons rfl (.cons rfl .nil))))))))))) ?_ ?_
            ·exact⟨bE _,_,hM,S,hs,tw,oL,gp,eE,eL,gV,hok,fy,dF _ _ _ _ _⟩
            ·clear hM S hs tw oL gp eE eL gV hok fy;rintro⟨i,Pe⟩ w ⟨hi,M6,hM,S,hs,tw,oL,gp,eE,eL,gV,hok,fy,uM⟩;dsimp only at hi uM ⊢;have ajx:=Fg (k:=key) (tos:=tos) hg SV hi;refine aj (ae (cj rfl rfl rfl (ab (aj ?_))));refine bN rfl (fun c42=>?_) (fun c42=>?_)
             ·refine aU (aj (aZ (aj (ae (ad rfl rfl ?_)))));obtain⟨p,mO⟩:∃p,g[i]? =some p:=⟨_,ar (by omega)⟩;have FP:=aA mO;have Ji:(g.map fun p=>rG (fx p.1))[i]? =some (rG (fx p.1)):=by rw[bC,mO];rfl
              obtain⟨Q8,tz⟩:=hg p FP;have O6:=SV p FP;refine cy (M:=M6) eJ O9 rfl rfl rfl hs (aq _ _) (by omega) (fun u43 x_ jc ajy=>?_);rw[ay]at jc;obtain rfl:=aH (Ji.symm.trans jc);refine bT (M:=M6) ff rfl rfl rfl rfl rfl ajy (aq _ _) (fun v43 ajz=>?_);have AL:=lF.1 ajz;obtain⟨a43,rfl⟩:=AL.gz;refine ah rfl rfl (ah rfl rfl (ab ?_));apply T.KS [0,1,2,4,5,6,7,3,8,9,10] 7 [0,3,4,5,6] 2 aC mixed
              ·simp+decide only[yj,sN,eQ,j5,je,jf,fq,dd,ie,qd,cond_true,cond_false,Nat.reduceBEq,Nat.reduceAdd,beq_self_eq_true];rfl
              ·rfl
              ·rfl
              ·rfl
              ·rfl
              ·rfl
              ·rfl
              intro ajA ajB;have wo:=ajB M6;have:=ak gp;replace eE:=(wo.mem _ this).2 eE;replace gp:=wo.aK gp;replace hs:=hs.le wo.le;replace tw:=tw.le wo.le;replace oL:=oL.le wo.le;replace AL:=AL.le (by decide) wo.le;replace eL:=eL.aP wo;replace gV:=gV.aP wo;replace hok:=hok.aP wo;replace fy:=fy.aP wo;replace uM:=uM.aP wo;replace hM:=wo.lt hM;have:=S.size;replace S:=S.aB wo;refine ad rfl rfl ?_;refine ab ⟨rfl,rfl,rfl,?_⟩;refine ad rfl rfl ?_;refine ab ⟨rfl,rfl,rfl,?_⟩;refine ad rfl rfl ?_;refine ab ⟨rfl,rfl,rfl,?_⟩;refine ad rfl rfl ?_;refine ab ⟨rfl,rfl,rfl,?_⟩;refine ad rfl rfl ?_;refine ab ⟨rfl,rfl,rfl,?_⟩;obtain⟨tt,htt⟩:∃x,tos[i]? =some x:=⟨_,ar (by omega)⟩;have htd:tos.getD i []=tt:=by rw[az,htt];rfl
              have OO:=IB.2 i p mO;rw[htd]at OO;refine cy (M:=M6) cK jL rfl rfl rfl oL (aq _ _) (by omega) (fun atd x_ jc Tf=>?_);rw[ay]at jc;obtain rfl:=aH (htt.symm.trans jc);refine ab ⟨rfl,rfl,rfl,?_⟩;refine bT (M:=M6) an rfl rfl rfl rfl rfl Tf (aq _ _) (fun ate zU=>?_);refine ab ⟨rfl,rfl,rfl,?_⟩;refine ew ?_;obtain⟨bb,oo,cs_,ee_,fr_,rfl,k9,hnM⟩:=Tf.float;refine⟨iB ⟨gP,⟨gP,⟨gP,⟨bX.idx,⟨ey rfl k9 (fun h=>h),trivial⟩⟩⟩⟩⟩,?_⟩;have kp:=jF aC ajA;have WQ:=qF key p.1 0 (ku Q8);refine aX rfl rfl E36 (Ho (ls:=(keysOf p.1).map (pk p.1)) (k:=key) _ hM AL (kZ _) (CI Q8 (by omega))) (fun atf atg hc=>?_);obtain⟨CU,uN⟩:=hc;have ajC:VP (rG (fx p.1)).2.2.1 ((keysOf p.1).map (pk p.1)) key=pk p.1 key:=VQ _;rw[ajC]at CU;have:=ak gp;replace eE:=(uN.mem _ this).2 eE;replace gp:=uN.aK gp;replace hs:=hs.le uN.le;replace tw:=tw.le uN.le;replace oL:=oL.le uN.le;replace AL:=AL.le (by decide) uN.le;replace zU:=zU.le uN.le;replace eL:=eL.aP uN;replace gV:=gV.aP uN;replace hok:=hok.aP uN;replace fy:=fy.aP uN;replace uM:=uM.aP uN;replace hM:=uN.lt hM;have:=S.size;replace S:=S.aB uN;refine(fun(kp:eF _ _ _)=>ab ⟨rfl,rfl,fun _=>kp,?_⟩) (by first|exact kp|exact kp.rB (by assumption)|exact kp.goN (by assumption)|exact kp.go (by assumption) (fun _ _ h=>by first|exact h|exact h.elim));refine aX rfl rfl E63 (Hj _ hM CU zU (by have:(pk p.1 key).length≤p.1.length:=WQ.1;omega) (fun x hx=>by have:=WQ.2 x hx;rw[OO.1];omega)) (fun ath ati hc=>?_);obtain⟨atj,abt,_,p9⟩:=hc;have ql:=tv tt (pk p.1 key);have atk:(pk p.1 key).length≤p.1.length:=WQ.1;have hmv:=xF (hn:=by decide) hM p9 abt (by omega);replace p9:=p9.back;have:=ak gp
              replace eE:=(p9.mem _ this).2 eE;replace gp:=p9.aK gp;replace hs:=hs.le p9.le;replace tw:=tw.le p9.le;replace oL:=oL.le p9.le;replace AL:=AL.le (by decide) p9.le;replace zU:=zU.le p9.le;replace CU:=CU.le p9.le;replace eL:=eL.aP p9;replace gV:=gV.aP p9;replace hok:=hok.aP p9;replace fy:=fy.aP p9;replace uM:=uM.aP p9;replace hM:=p9.lt hM;have:=S.size;replace S:=S.aB p9;refine(fun(kp:eF _ _ _)=>ab ⟨rfl,rfl,fun _=>kp,?_⟩) (by first|exact kp|exact kp.rB (by assumption)|exact kp.goN (by assumption)|exact kp.go (by assumption) (fun _ _ h=>by first|exact h|exact h.elim));refine cZ (M:=M6) (base:=w0.heap.size) br lM rfl rfl rfl rfl uM hmv (aq _ _) (by omega) (by omega) (S.size) (fun abu ano anp WR mM=>?_);have:=ak gp;replace eE:=(mM.mem _ this).2 eE;replace gp:=mM.keep gp (fun h=>by first|exact uM.eg gp h|exact uM.eI gp (by decide) h|(have:=(uM.base _ h).1;omega));replace hs:=hs.le mM.le;replace tw:=tw.le mM.le;replace oL:=oL.le mM.le;replace AL:=AL.le (by decide) mM.le;replace zU:=zU.le mM.le;replace CU:=CU.le mM.le;replace hmv:=hmv.le mM.le;replace eL:=eL.step mM (fun b h1 h2=>eL.dz uM (by decide) h1 h2);replace gV:=gV.step mM (fun b h1 h2=>gV.dz uM (by decide) h1 h2);replace hok:=hok.step mM (fun b h1 h2=>hok.dz uM (by decide) h1 h2);replace fy:=fy.step mM (fun b h1 h2=>fy.dz uM (by decide) h1 h2);replace hM:=mM.lt hM;have:=S.size;replace S:=S.dg mM uM (aT _);replace uM:=WR;refine ab ⟨rfl,rfl,fun h=>absurd rfl h,?_⟩;refine ah rfl rfl ?_;refine ab ⟨rfl,rfl,fun h=>absurd rfl h,?_⟩;refine mN (ae (bF rfl rfl rfl (by omega) (ad rfl rfl (ab ?_))));refine⟨rfl,(i+1,abu),(.cons rfl (.cons rfl (.cons rfl (.cons rfl (.cons rfl (.cons rfl (.cons rfl (.cons rfl (.cons rfl (.cons rfl (.cons rfl .nil))))))))))),?_,?_⟩
              ·refine⟨by dsimp only;omega,_,hM,S,hs,tw,oL,gp,eE,eL,gV,hok,fy,?_⟩;dsimp only;rw[vU,htd,show(g.getD i ([],[]))=p from by rw[az,mO];rfl];exact uM
              ·dsimp only;omega
             ·refine cG (aj (ae ?_));have hig:i=g.length:=by omega
              rw[hig]at uM ajx;refine ad rfl rfl (fM br rfl uM rfl (jd rfl rfl rfl (ab ?_)));refine bN rfl (fun c46=>?_) (fun c46=>?_)
              ·refine aj (ae (ad rfl rfl ?_));have abv:∀p∈g,p.1.length≤1000000:=fun p hp=>by have:=SV p hp;omega
               have atn:=fun b hb=>uM.base b hb
               refine aX rfl rfl E64 (E1 _ uM (xV hg abv FY IB (aT _)) (by omega) (by omega)) (fun r47 Rh hc=>?_);obtain⟨rfl,s5,Ek,Q1,Fj,OP⟩:=hc;obtain rfl:s5=pk ((kz g (dT out)).map (iN g)) key:=ES hg abv hEl FY IB Ek Q1;replace eL:=eL.step OP (fun b h1 h2=>eL.dz uM (by decide) h1 h2);replace gV:=gV.step OP (fun b h1 h2=>gV.dz uM (by decide) h1 h2);replace hok:=hok.step OP (fun b h1 h2=>hok.dz uM (by decide) h1 h2);replace fy:=fy.step OP (fun b h1 h2=>fy.dz uM (by decide) h1 h2);replace eE:=(OP.mem _ (ak gp)).2 eE;replace gp:=OP.keep gp (fun h=>uM.eI gp (by decide) h);replace hs:=hs.le OP.le;replace tw:=tw.le OP.le;replace oL:=oL.le OP.le;replace S:=S.dg OP uM (aT _);replace hM:=OP.lt hM
               have abw:(fun k=> !(pk ((kz g (dT out)).map (iN g)) k).isEmpty) key=true:=by
                have h1:=Ek.length_eq
                cases hx:pk ((kz g (dT out)).map (iN g)) key with
                |nil=>rw[hx]at h1;simp at h1;omega
                |cons a b=>simp[hx]
               have ato:(pk ((kz g (dT out)).map (iN g)) key).length≤1000000:=by have:=Ek.length_eq;omega
               have OQ:=Fj.view (hn:=by decide) (by omega);obtain⟨nU,CK⟩:∃M',M'=rm (M6) Pe:=⟨_,rfl⟩;have lrm:Le (M6) Rh nU Rh:=by rw[CK];exact fg _ _ _
               rw[←CK]at OQ;replace hs:=hs.le lrm;replace tw:=tw.le lrm;replace oL:=oL.le lrm;replace eE:nU fc:=by rw[CK];exact⟨eE,Fj.eI gp (by decide)⟩
               have WS:=eL.Kq (v:=Pe) (fun b hb=>eL.dz Fj (by decide) hb);rw[←CK]at WS;clear eL;have eL:=WS;clear WS;have WT:=gV.Kq (v:=Pe) (fun b hb=>gV.dz Fj (by decide) hb);rw[←CK]at WT;clear gV;have gV:=WT;clear WT;have WU:=hok.Kq (v:=Pe) (fun b hb=>hok.dz Fj (by decide) hb);rw[←CK]at WU;clear hok;have hok:=WU;clear WU;have WV:=fy.Kq (v:=Pe) (fun b hb=>fy.dz Fj (by decide) hb);rw[←CK]at WV;clear fy;have fy:=WV;clear WV;have hM_:=hM.rm Pe;rw[←CK]at hM_;clear hM;have hM:=hM_;have S_:=S.freeze (v:=Pe) (fun b hb=>(Fj.base b hb).1);rw[←CK]at S_;clear S hM_ uM Fj lrm;have S:=S_;clear S_;obtain⟨_,_,ajF,_⟩:=iD.1 OQ;refine ab ?_;have atp:(((jr (g.map fun p=>keysOf p.1)).take qk).filter (fun k=> !(pk ((kz g (dT out)).map (iN g)) k).isEmpty)).length≤(jr (g.map fun p=>keysOf p.1)).length:=ez (l3 _ _) (by rw[bH];omega);have gpp:=gp;have Cq:=eL;have WW:=gV;have Tx:=hs;have ajG:=tw;have ajH:=oL;have abx:=eE;have CL:=hok;have Hw:=fy;have Sp:=S;have hMp:=hM;obtain⟨P4,hP4⟩:∃P4:Value→World→Prop,P4=fun v w'=>Own RT.str 9 (mV v) w' w0.heap.size v ((((jr (g.map fun p=>keysOf p.1)).take qk).filter (fun k=> !(pk ((kz g (dT out)).map (iN g)) k).isEmpty))++[key])∧(∀c,v.ownBlock=some c→Rh.heap.size≤c∨CX.ownBlock=some c):=⟨_,rfl⟩
               have h4:∀{v:Value} {w w':World},P4 v w→Step nU w nU w' aC→P4 v w':=fun {v w w'} h s=>by rw[hP4]at h ⊢;exact⟨h.1.SC nt s (fun _ _ h=>h),h.2⟩
               obtain⟨P8,hP8⟩:∃P8:Value→World→Prop,P8=fun v w'=>∃g,v= .slice (some ⟨g,0,none⟩) 1 1∧w'.heap[g]? =some (.cells #[Pe] 80 (0,0))∧Rh.heap.size≤g:=⟨_,rfl⟩
               have h8:∀{v:Value} {w w':World} {N:aD},P8 v w→Step nU w nU w' N→(∀b,N b→b<Rh.heap.size)→P8 v w':=fun {v w w' N} h s hN=>by
                rw[hP8]at h ⊢;obtain⟨g,a1,a2,a3⟩:=h;exact⟨g,a1,s.keep a2 (fun h=>by have:=hN g h;omega),a3⟩
               apply T.St (M:=nU) [0,1,2,3,4,5,6,7,8,10,9,11,12,13] 10 9 194 (.pointer (some ⟨fc,2,none⟩)) [(4,fz CX)] [cL.eq (.pointer (some ⟨fc,2,none⟩)),cL.eq CX,cL.eq (.string ⟨key.toArray⟩),cL.V (RT.str.sl) [key],(cL.mk' (fun v w=>P4 v w) (fun h s=>h4 h s)),cL.eq (.pointer (some ⟨fc,3,none⟩)),cL.eq WO,cL.eq Pe,(⟨fun v w=>P8 v w,fun k=>k<Rh.heap.size,fun h s hN=>h8 h s hN⟩:cL nU),cL.eq (.pointer (some ⟨fc,2,none⟩))] mixed
               ·simp+decide only[yj,sN,eQ,j5,je,jf,fq,dd,ie,qd,cond_true,cond_false,Nat.reduceBEq,Nat.reduceAdd,beq_self_eq_true];rfl
               ·rfl
               ·rfl
               ·rfl
               ·rfl
               ·rfl
               ·rfl
               ·rfl
               ·rfl
               ·rfl
               ·rfl
               ·rfl
               ·exact fun ρ w h=>zm (size:=1) (o:=0) (o':=2) bm rfl rfl xN (by decide) (h (.tmp 19) _ rfl) w
               ·intro p hp b hb;simp only[cf,eC,or_false]at hp;subst hp;exact hok.mut_ b hb
               ·exact fun p hp=>by
                 simp only[cf,eC,or_false]at hp;subst hp;show(4:Nat)≠9;decide
               ·exact vg.st (by exact⟨fun _ _ _ _=>trivial,⟨fun _ _ _ _=>trivial,⟨fun _ _ _ _=>trivial,⟨fun _ _ _ _=>trivial,⟨fun p hp b hb=>(by simp at hp),⟨fun _ _ _ _=>trivial,⟨fun _ _ _ _=>trivial,⟨fun _ _ _ _=>trivial,⟨fun p hp b hb=>(by have h1:=bJ.1 (fN.1 hp).1;subst h1;exact(CL.base b hb).2),⟨fun _ _ _ _=>trivial,trivial⟩⟩⟩⟩⟩⟩⟩⟩⟩⟩)
               intro ajK ajL;have wu:=ajL nU;have:=ak gp;replace eE:=(wu.mem _ this).2 eE;replace gp:=wu.aK gp;replace hs:=hs.le wu.le;replace tw:=tw.le wu.le;replace oL:=oL.le wu.le;replace eL:=eL.aP wu;replace gV:=gV.aP wu;replace hok:=hok.aP wu;replace fy:=fy.aP wu;replace hM:=wu.lt hM;have:=S.size;replace S:=S.aB wu;have gpR:=gp;have aby:=hok;have atq:=wu.size;refine⟨?_,?_⟩
               ·refine aF ?_ ?_
                ·intro wD E sD;replace sD:Step nU _ nU wD (fz CX):=sD;refine bG (o':=2) bm rfl rfl xN (by decide) rfl rfl ?_;exact ab ⟨rfl,rfl,_,rfl,rfl,aw _ _⟩
                refine aF ?_ ?_
                ·intro wD E sD;replace sD:Step nU _ nU wD aC:=sD;refine aR (aM aI rfl rfl rfl (sD.aK gpR) rfl ?_);exact ab ⟨rfl,rfl,_,rfl,rfl,aw _ _⟩
                refine aF ?_ ?_
                ·intro wD E sD;replace sD:Step nU _ nU wD (fz CX):=sD;refine ad rfl rfl ?_;exact ab ⟨rfl,rfl,_,rfl,rfl,aw _ _⟩
                refine aF ?_ ?_
                ·intro wD E sD;replace sD:Step nU _ nU wD aC:=sD;refine aR ?_;refine ed (A:=RT.str) (hn:=by decide) (M:=nU) aI I9 (by decide) rfl rfl (sD.lt hM) (kG.2 ⟨rfl,FK⟩) (.inr ⟨rfl,rfl⟩) (fun uS wS hS sS=>?_);exact ab ⟨rfl,rfl,_,rfl,hS,sS⟩
                refine aF ?_ ?_
                ·intro wD E sD;replace sD:Step nU _ nU wD aC:=sD;refine aR ?_;intro v3 Ac;replace sD:Step nU ajK nU wD aC:=sD;refine nY (M:=nU) (base:=w0.heap.size) aI I9 rfl rfl rfl rfl (aby.aP sD) (show(RT.str.sl).V nU wD [key] v3 from Ac) (aq _ _) (by rw[eu];omega) (by rw[eu];omega) (by have:=sD.size;have:=S.size;omega) (fun vA wA hoA sA hFA=>?_);exact ab ⟨rfl,rfl,_,rfl,by show P4 vA wA;rw[hP4];exact⟨hoA.SB nt,fun c hc=>(hFA c hc).elim (fun h=> .inl (by have:=sD.size;omega)) .inr⟩,sA.back⟩
                refine aF ?_ ?_
                ·intro wD E sD;replace sD:Step nU _ nU wD (fz CX):=sD;refine bG (o':=3) bm rfl rfl AA (by decide) rfl rfl ?_;exact ab ⟨rfl,rfl,_,rfl,rfl,aw _ _⟩
                refine aF ?_ ?_
                ·intro wD E sD;replace sD:Step nU _ nU wD (fz CX):=sD;refine aR (aM dw rfl rfl rfl (sD.keep gpR (fun h=>aby.eI gpR (by decide) h)) rfl ?_);exact ab ⟨rfl,rfl,_,rfl,rfl,aw _ _⟩
                refine aF ?_ ?_
                ·intro wD E sD;replace sD:Step nU _ nU wD (fz CX):=sD;refine ad rfl rfl ?_;exact ab ⟨rfl,rfl,_,rfl,rfl,aw _ _⟩
                refine aF ?_ ?_
                ·intro wD E sD;replace sD:Step nU _ nU wD (fz CX):=sD;refine aR ?_;refine Rg.ahA (M:=nU) dw xy rfl rfl (by rw[ajF];rfl) (fun gS wS zS hS sS=>?_);exact ab ⟨rfl,rfl,_,rfl,by show P8 _ _;rw[hP8];exact⟨gS,rfl,hS,by have:=sD.size;omega⟩,sS⟩
                refine aF ?_ ?_
                ·intro wD E sD;replace sD:Step nU _ nU wD (fz CX):=sD;refine aR (aR (aR ?_));intro v3 Ac;intro v4 qf;refine aR (aR (bG (o':=2) bm rfl rfl xN (by decide) rfl rfl ?_));exact ab ⟨rfl,rfl,_,rfl,rfl,aw _ _⟩
                exact sH
               ·intro J8 WX;replace WX:Step nU _ nU J8 (fz CX):=WX;refine aR (aR (aR ?_));intro anq ajN;intro Fk CM;refine aR (aR (aR ?_));intro abz CN;refine aR ?_;replace CM:P4 Fk J8:=CM;rw[hP4]at CM;obtain⟨qe,hb9⟩:=CM;replace CN:P8 abz J8:=CN;rw[hP8]at CN;obtain⟨g8,rfl,hg8,zg8⟩:=CN;have sX:Step nU Rh nU J8 (fz CX):=(wu.cA (fun _ h=>h.elim) (fun b h=>CL.mut_ b h)).trans WX (fun b _ h=>h);obtain⟨H7,MW⟩:∃M',M'=jz nU Fk:=⟨_,rfl⟩;have sY:Step nU Rh H7 J8 (fz CX):=by rw[MW];exact sX.Z6 (fun c hc=>⟨(qe.base c hc).2,(hb9 c hc).elim .inl (fun h=> .inr (CL.mut_ c h))⟩)
                have abA:=Hw.step sY (fun c hc h=>Hw.dz CL (by decide) hc h);have WY:=OQ.le sY.le
                have YV:((RT.po.sl).sl).V H7 J8 [pk ((kz g (dT out)).map (iN g)) key] (.slice (some ⟨g8,0,none⟩) 1 1):=by
                 refine iD.2 ⟨_,1,rfl,aT _,by simp,.inr ⟨g8,0,rfl,fun h=>?_,fun i x hx=>?_⟩⟩
                 ·rw[MW]at h;rcases h with h|h
                  ·exact qe.eI hg8 (by decide) h
                  ·have:=hMp _ h;omega
                 ·cases i with
                  |zero=>
                   simp at hx;subst hx;obtain⟨vs,h1,h2⟩:=WY;obtain⟨a,cap,rfl,h3⟩:=h1;refine⟨_,⟨a,cap,rfl,h3⟩,fun j u hj=>?_⟩
                   cases j with
                   |zero=>simp at hj;subst hj;rw[show Value.slice a _ cap=Pe from h2.symm];exact fG hg8 rfl
                   |succ j=>simp at hj
                  |succ i=>simp at hx
                have atr:((((jr (g.map fun p=>keysOf p.1)).take qk).filter (fun k=> !(pk ((kz g (dT out)).map (iN g)) k).isEmpty)).map (pk ((kz g (dT out)).map (iN g)))).length≤(jr (g.map fun p=>keysOf p.1)).length:=by rw[aL];exact ez (l3 _ _) (by rw[bH];omega)
                refine nY (M:=H7) (base:=w0.heap.size) dw xy rfl rfl rfl rfl abA YV (aq _ _) (by rw[eu];omega) (by rw[eu];omega) (by have:=Sp.size;have:=sY.size;omega) (fun v12 Xc QI Ao VS=>?_);have ajO:=qe.SC nt Ao (fun c hc h=>qe.dz abA (by decide) hc h);have sW:Step nU Rh (jz H7 v12) Xc (fun k=>fz CX k∨fz WO k):=(sY.cA (fun _ h=> .inl h) (fun b h=>h.elim (CL.mut_ b) (Hw.mut_ b))).trans Ao (fun b _ h=> .inr h);obtain⟨QK,JJ⟩:∃M',M'=jz H7 v12:=⟨_,rfl⟩;rw[←JJ]at sW QI;have hok:=ajO.QS nt (M':=QK) (by rw[JJ,MW];exact fun b hb=> .inr (.inl hb));have fy:=QI;have eE:=(sW.mem _ (ak gpp)).2 abx;have gp:=sW.keep gpp (fun h=>h.elim (CL.eI gpp (by decide)) (Hw.eI gpp (by decide)));have eL:=Cq.step sW (fun b h1 h2=>h2.elim (fun h=>Cq.dz CL (by decide) h1 h) (fun h=>Cq.dz Hw (by decide) h1 h));have gV:=WW.step sW (fun b h1 h2=>h2.elim (fun h=>WW.dz CL (by decide) h1 h) (fun h=>WW.dz Hw (by decide) h1 h));have hs:=Tx.le sW.le;have tw:=ajG.le sW.le;have oL:=ajH.le sW.le;have S:=Sp.cd sW (fun k hk=>hk.elim (fun h=>(CL.base k h).1) (fun h=>(Hw.base k h).1));have hM:=sW.lt hMp;refine ab ⟨rfl,rfl,fun h=>absurd rfl h,?_⟩;obtain⟨_,_,Ri,_⟩:=hok.isSlice;refine cu (M:=QK) xN rfl rfl gp rfl (by rw[Ri];rfl) eE (fun UH g14 jW=>?_);replace g14:UH.heap[fc]? =some (.cells #[vi,vq,Fk,WO] 72 (0,0)):=g14;replace eL:=eL.step jW (fun c hc (h:c=fc)=>eL.eI gp (by decide) (h▸hc));replace gV:=gV.step jW (fun c hc (h:c=fc)=>gV.eI gp (by decide) (h▸hc));replace hok:=hok.step jW (fun c hc (h:c=fc)=>hok.eI gp (by decide) (h▸hc));replace fy:=fy.step jW (fun c hc (h:c=fc)=>fy.eI gp (by decide) (h▸hc));replace eE:=(jW.mem _ (ak gp)).2 eE;replace hs:=hs.le jW.le;replace tw:=tw.le jW.le;replace oL:=oL.le jW.le;replace S:=S.cd jW (fun k (hk:k=fc)=>by rw[hk];omega)
                replace hM:=jW.lt hM;clear gp;have gp:=g14;refine ab ⟨rfl,rfl,fun h=>absurd rfl h,?_⟩;refine bG (o':=3) bm rfl rfl AA (by decide) rfl rfl ?_;refine ab ⟨rfl,rfl,fun h=>absurd rfl h,?_⟩;obtain⟨_,_,Rj,_⟩:=fy.isSlice;refine cu (M:=QK) AA rfl rfl gp rfl (by rw[Rj];rfl) eE (fun Xp g16 Bm=>?_);replace g16:Xp.heap[fc]? =some (.cells #[vi,vq,Fk,v12] 72 (0,0)):=g16;replace eL:=eL.step Bm (fun c hc (h:c=fc)=>eL.eI gp (by decide) (h▸hc));replace gV:=gV.step Bm (fun c hc (h:c=fc)=>gV.eI gp (by decide) (h▸hc));replace hok:=hok.step Bm (fun c hc (h:c=fc)=>hok.eI gp (by decide) (h▸hc));replace fy:=fy.step Bm (fun c hc (h:c=fc)=>fy.eI gp (by decide) (h▸hc));replace eE:=(Bm.mem _ (ak gp)).2 eE;replace hs:=hs.le Bm.le;replace tw:=tw.le Bm.le;replace oL:=oL.le Bm.le;replace S:=S.cd Bm (fun k (hk:k=fc)=>by rw[hk];omega);replace hM:=Bm.lt hM;clear gp;have gp:=g16;refine ab ⟨rfl,rfl,fun h=>absurd rfl h,?_⟩;refine mN (ae (bF rfl rfl rfl (by omega) (ad rfl rfl (ab ?_))));refine⟨rfl,(qk+1,Fk,v12),(.cons rfl (.cons rfl (.cons rfl (.cons rfl (.cons rfl (.cons rfl .nil)))))),?_,?_⟩
                ·refine⟨by dsimp only;omega,_,hM,S,hs,tw,oL,gp,eE,eL,gV,?_,?_⟩
                 ·dsimp only;rw[nu hkq,if_pos abw];exact hok
                 ·dsimp only;rw[nu hkq,if_pos abw,eA];exact fy
                ·dsimp only;omega
              ·refine aU (ae (bF rfl rfl rfl (by omega) (ad rfl rfl (ab ?_))));refine⟨rfl,(qk+1,CX,WO),(.cons rfl (.cons rfl (.cons rfl (.cons rfl (.cons rfl (.cons rfl .nil)))))),?_,?_⟩
               ·have rA:pk ((kz g (dT out)).map (iN g)) key=[]:=by
                 have h1:=(vV (k:=key) hg (fun p hp=>by have:=SV p hp;omega) hEl FY IB).length_eq;exact cR.1 (by omega)
                refine⟨by dsimp only;omega,_,hM,S,hs,tw,oL,gp,eE,eL,gV,?_,?_⟩
                ·dsimp only;rw[nu hkq,if_neg (by rw[rA];simp)];exact hok
                ·dsimp only;rw[nu hkq,if_neg (by rw[rA];simp)];exact fy
               ·dsimp only;omega
           ·refine cG (aj (ae (fE (vs:=[vi,vq,CX,WO]) bm rfl Bn rfl rfl rfl gp ?_)));have abB:=JP FY hJu (fun x=>(hJm x).trans ⟨fun⟨l,hl,hx⟩=>(ca.1 hl).elim fun p hp=>⟨p,hp.1,hp.2▸hx⟩,fun⟨p,hp,hx⟩=>⟨_,ca.2 ⟨p,hp,rfl⟩,hx⟩⟩);rw[aW (by omega),abB]at hok fy;have hFE:=ku (FY.ok hg)
            have hkE:(keysOf ((kz g (dT out)).map (iN g))).length≤1000000000:=by
             rw[←abB];exact ez (l3 _ _) (by omega)
            have Vi:RT.pa.V M _ (fx ((kz g (dT out)).map (iN g))) _:=UW (x:=fx ((kz g (dT out)).map (iN g))) (eL.close jM S (by show(List.map _ _).length≤_;rw[aL];omega)) (gV.close jM S (by show(List.map _ _).length≤_;rw[aL];omega)) (hok.close jM S (by show(keysOf _).length≤_;omega)) (fy.close jM S (by show((keysOf _).map _).length≤_;rw[aL];omega));replace S:=S.back;replace hM:=S.lt jM;refine aX rfl rfl E43 (zk (p:=fx ((kz g (dT out)).map (iN g))) _ hM Vi (Ig hFE hEl)) (fun atu atv hc=>?_);obtain⟨ajP,NW,_⟩:=hc;obtain⟨sg,rfl,yE⟩:=NW (NJ (FY.ok hg) hEl);replace S:=S.aB ajP;refine bW rfl rfl rfl (bW rfl rfl rfl (ah rfl rfl (ah rfl rfl (ab (aO ?_)))));exact eY rfl rfl rfl ⟨S,.inl ⟨_,_,FY,_,rfl,yE⟩⟩
end Go.K
namespace Go.K
open Go.Proofs
namespace TKBPut
theorem EW:TI Tryz.prog 131 (.slice none 0 0) 1 24:=by unfold TI;kernel_rfl
theorem zI:TI Tryz.prog 190 (.int .u64 0) 1 8:=by unfold TI;kernel_rfl
end TKBPut
open TKBPut
set_option maxRecDepth 10000
theorem jJ.abC {M M' N:aD} {w0 w:World} {n:Nat} {ws:List Nat} {bs bw:Nat} {a:List Bool} (hM:Lt M w0) (h:jJ 133 190 n ws M' w bs bw) (z1:w0.heap.size≤bs) (z2:w0.heap.size≤bw) (ha:a.length=n) (hb:∀j,bit ws j=true↔a[j]? =some true):AE M w a bs:=
 ⟨ws,⟨bw,⟨trivial,trivial,h.ne,by rw[ha];exact h.s,h.w,by rw[ha];exact h.len,h.ok,by rw[ha];exact h.nn⟩,fun hb=>by have:=hM _ hb;omega,fun hb=>by have:=hM _ hb;omega⟩,hb⟩
theorem J9 {M:aD} {w0:World} {n:Nat} (hM:Lt M w0) (hn:n≤1099511627776):Spec Tryz.prog 24 #[.int .i64 n] w0 (fun v w=>∃bs,v= .pointer (some ⟨bs,0,none⟩)∧AE M w (List.replicate n false) bs∧Step M w0 M w aC):=
 (vW (M:=M) hn).mono fun v w ⟨bs,bw,h1,z1,z2,s,h⟩=>⟨bs,h1,h.abC (N:=aC) hM z1 z2 (bY ..) (fun j=>by
  rw[yu,gr];constructor
  ·intro h;cases h
  ·intro h;split at h<;>simp at h),s.back⟩
theorem Hx {M:aD} {w0:World} {n:Nat} (hM:Lt M w0) (hn:n≤1099511627776):Spec Tryz.prog 23 #[.int .i64 n] w0 (fun v w=>∃bs,v= .pointer (some ⟨bs,0,none⟩)∧AE M w (List.replicate n true) bs∧Step M w0 M w aC):=
 (JU (M:=M) hn).mono fun v w ⟨bs,bw,ws,M',h1,z1,z2,s,h,hb⟩=>⟨bs,h1,h.abC (N:=aC) hM z1 z2 (bY ..) (fun j=>by
  rw[hb,gr];constructor
  ·intro h;rw[if_pos (by simpa using h)]
  ·intro h;split at h
   ·rename_i h1;simpa using h1
   ·cases h),s.back⟩
end Go.K
namespace Go.K
open Go.Proofs
namespace TKRef11
theorem kx:TI Tryz.prog 124 (.agg #[(.int .i64 0),(.int .i64 0)]) 2 16:=by unfold TI;kernel_rfl
end TKRef11
open TKRef11
set_option maxRecDepth 10000
end Go.K
namespace Go.K
open Go.Proofs
namespace TKLives11
theorem kx:TI Tryz.prog 124 (.agg #[(.int .i64 0),(.int .i64 0)]) 2 16:=by unfold TI;kernel_rfl
theorem E59:Enters Tryz.prog 59:=enters Tryz.func59 rfl (by decide)
end TKLives11
open TKLives11
set_option maxRecDepth 10000
theorem CO {M:aD} {w0:World} (hM:Lt M w0):
  Spec Tryz.prog 25 #[] w0 (fun v' w'=>v'= .bool true∧Step M w0 M w' aC):=by
 refine bc (args:=[]) (fn:=Tryz.f25) Tryz.func25 rfl (n:=36) Tryz.ntmps25 (aj (ae (ah rfl rfl (ab (aj (ae ?_))))));refine Rg.W2 (A:=RT.int .i64) (hn:=by decide) (M:=M) (xs:=[1,4]) an I3 rfl (by decide) rfl ⟨1,[4],_,rfl,rfl,rfl,fV (by omega),4,[],_,rfl,rfl,rfl,fV (by omega),rfl⟩ rfl hM (.inr ⟨rfl,rfl⟩) (by decide) (fun u1 w1 Rr s1=>?_);refine ed (A:=RT.int .i64) (hn:=by decide) (M:=M) an I3 (by decide) rfl rfl (s1.lt hM) (fV (x:=2) (by decide)) (.inr ⟨rfl,rfl⟩) (fun u2 w2 rT s2=>?_);refine Rg.W2 (A:=((RT.int .i64).sl)) (hn:=by decide) (M:=M) (xs:=[[1,4],[2]]) cK jL rfl (by decide) rfl ⟨_,_,_,rfl,rfl,rfl,Rr.le s2.le,_,_,_,rfl,rfl,rfl,rT,rfl⟩ rfl (s2.lt (s1.lt hM)) (.inr ⟨rfl,rfl⟩) (by decide) (fun u3 w3 Jk s3=>?_);have S3:=(s1.aB s2).aB s3;refine aX rfl rfl E59 (Fa (S3.lt hM) Jk (by decide) (by decide) (by decide)) (fun r4 w4 h=>?_);obtain⟨⟨vo,e,rfl,ho⟩,s4⟩:=h;have S4:=S3.aB s4
 obtain⟨rfl,fk⟩:e=0∧((RT.fo).sl).V M w4 (dT [((1:Int),(0:Int),(0:Int)),(2,1,0),(4,0,1)]) vo:=by
  rcases ho with⟨h,_⟩|⟨_,r,h2,h3⟩
  ·exact absurd N0 h
  ·obtain rfl:=h2.un JO;rcases h3 with⟨h,_⟩|⟨out,h4,h5,h6⟩
   ·cases h
   ·cases h4;exact⟨h5,h6⟩
 replace fk:((RT.fo).sl).V M w4 [((0:Int),(0:Int)),(1,0),(0,1)] vo:=fk;refine ad rfl rfl (bW rfl rfl rfl (bW rfl rfl rfl (ah rfl rfl (ah rfl rfl (ab (aj (aj (ae (ad rfl rfl (bM eO rfl fk rfl (eM rfl rfl rfl ?_)))))))))));refine ab (T.tF rfl ((fun h=>h rfl)) (aU (aj (ae (ad rfl rfl ?_)))));refine cy (M:=M) eO kx rfl rfl rfl (fk) (aq _ _) (by first|omega|decide) (fun YE ajQ abD YR=>?_);obtain rfl:(0,0)=ajQ:=dD (aH (abD.symm.trans rfl));refine cX (M:=M) (A:=RT.fo) cw rfl kx (by decide) rfl rfl rfl (by assumption) (aq _ _) (fun va lP=>?_);obtain⟨rfl,_,_⟩:=ri lP;refine Rg.PE cw kx I3 rfl rfl rfl (Rg.F0 cw ax I3 (by kernel_rfl) (by kernel_rfl) rfl rfl rfl (ad rfl rfl (Rg.Hz (g:=18) rfl (rfl) (al rfl rfl (ad rfl rfl (al rfl rfl ?_))))));refine cy (M:=M) eO kx rfl rfl rfl (fk) (aq _ _) (by first|omega|decide) (fun atw ajR abE ans=>?_);obtain rfl:(1,0)=ajR:=dD (aH (abE.symm.trans rfl));refine al rfl rfl ?_;refine cX (M:=M) (A:=RT.fo) cw rfl kx (by decide) rfl rfl rfl (by assumption) (aq _ _) (fun va lP=>?_);obtain⟨rfl,_,_⟩:=ri lP;refine al rfl rfl (Rg.PE cw kx I3 rfl rfl rfl (al rfl rfl (Rg.F0 cw ax I3 (by kernel_rfl) (by kernel_rfl) rfl rfl rfl (aY rfl rfl rfl (ad rfl rfl (Rg.Hz (g:=25) rfl (rfl) (al rfl rfl (ad rfl rfl (al rfl rfl ?_)))))))));refine cy (M:=M) eO kx rfl rfl rfl (fk) (aq _ _) (by first|omega|decide) (fun ZL Np GU Vp=>?_);obtain rfl:(0,1)=Np:=dD (aH (GU.symm.trans rfl));refine al rfl rfl ?_;refine cX (M:=M) (A:=RT.fo) cw rfl kx (by decide) rfl rfl rfl (by assumption) (aq _ _) (fun va lP=>?_)
 obtain⟨rfl,_,_⟩:=ri lP;refine al rfl rfl (Rg.PE cw kx I3 rfl rfl rfl (al rfl rfl (Rg.F0 cw ax I3 (by kernel_rfl) (by kernel_rfl) rfl rfl rfl (aY rfl rfl rfl (ad rfl rfl (Rg.Hz (g:=32) rfl (rfl) (al rfl rfl (ad rfl rfl (al rfl rfl (nX rfl rfl rfl (aY rfl rfl rfl ?_)))))))))));refine ah rfl rfl (ab (aO ?_));exact aS rfl rfl ⟨rfl,S4⟩
end Go.K
namespace Go.K
open Go.Proofs
namespace TKNone11
theorem O9:TI Tryz.prog 25 (.pointer none) 1 8:=by unfold TI;kernel_rfl
theorem VY:TI Tryz.prog 47 (.pointer none) 1 8:=by unfold TI;kernel_rfl
theorem E11:Enters Tryz.prog 11:=enters Tryz.func11 rfl (by decide)
theorem E12:Enters Tryz.prog 12:=enters Tryz.func12 rfl (by decide)
theorem E22:Enters Tryz.prog 22:=enters Tryz.func22 rfl (by decide)
theorem E23:Enters Tryz.prog 23:=enters Tryz.func23 rfl (by decide)
theorem E24:Enters Tryz.prog 24:=enters Tryz.func24 rfl (by decide)
theorem E25:Enters Tryz.prog 25:=enters Tryz.func25 rfl (by decide)
theorem E34:Enters Tryz.prog 34:=enters Tryz.func34 rfl (by decide)
theorem E37:Enters Tryz.prog 37:=enters Tryz.func37 rfl (by decide)
theorem E38:Enters Tryz.prog 38:=enters Tryz.func38 rfl (by decide)
end TKNone11
open TKNone11
set_option maxRecDepth 10000
theorem pT.one {M:aD} {w:World} {L:List En} {a:List Bool} {b:Nat} (h:AE M w a b):pT M w [(L,a)] [b]:=⟨rfl,fun i b' p h1 h2=>by
 cases i with
 |zero=>simp only[qU,dL]at h1 h2;subst h1;subst h2;exact h
 |succ i=>simp at h1⟩
theorem Ka {L:List En} (h:uT (-1) L=true):(keysOf L).length≤500*L.length:=by
 have h1:=(kZ L).nodup.length_le_of_subset (l₂:=iy L) (fun x hx=>iS.1 hx);have:=oB (ku h);omega
theorem keys_nil:keysOf []=[]:=List.eq_nil_iff_forall_not_mem.2 fun x hx=>by have:=iS.1 hx;simp[iy]at this
theorem ajS {L:List En} {a:List Bool} (h:uT (-1) L=true) (ha:a.length=L.length):Il [(L,a)]:=fun p hp=>by rw[bJ]at hp;subst hp;exact⟨h,ha⟩
theorem Hy {L:List En}:AH (partsOf (rG (fx L)) ((keysOf L).map (pk L))) (partsOf (rG (fx L)) ((keysOf L).map (pk L)))=true:=by simp[AH]
theorem xg {M:aD} {L:List En} {a:List Bool} {b:Nat} {v0 v1:Value} {w0:World} (hM:Lt M w0) (hs:(((RT.se).ptr).sl).V M w0 [rG (fx L)] v0) (hb:(RT.Lc.sl).V M w0 [b] v1) (dA:AE M w0 a b) (hok:uT (-1) L=true) (ha:a.length=L.length) (hn:L.length≤100) (h0: ¬M 1) (Hc:∃e fr,w0.heap[1]? =some (.cells (IY.map fun(k:Nat)=>Value.int .u8 (k:Int)).toArray e fr)):
  Spec Tryz.prog 22 #[v0,v1] w0 (fun v w=>∃s,v= .tuple #[s,.int .i64 0]∧cN RT.se M w s (rG (fx (EU (L.zip a))))∧Step M w0 M w aC):=by
 have hk:=Ka hok;refine (Hq (g:=[(L,a)]) (bs:=[b]) hM hs hb (pT.one dA) (ajS hok ha) (by simp) (fun p hp=>by rw[bJ]at hp;subst hp;show L.length≤_;omega) (fun p hp=>by rw[bJ]at hp;subst hp;show(keysOf L).length≤_;omega) h0 Hc).mono fun v w ⟨s,h⟩=> ?_
 obtain⟨os,E,FY,sg,rfl,yE⟩:=h.resolve_right (fun h=>Hb (zC hok) h.1);obtain rfl:=VW (zC hok) FY;exact⟨sg,rfl,yE,s⟩
theorem Kb {L:List En} {n:Nat}:EU (L.zip (List.replicate n false))=[]:=List.eq_nil_iff_forall_not_mem.2 fun e he=>by
 obtain⟨d,_,h⟩:=zG.1 he;rw[gr]at h
 split at h<;>simp at h
theorem OR {L:List En} (hu:L.Pairwise fun x y=>x.2<y.2):EU (L.zip (List.replicate L.length true))=L:=Im (Ip hu) hu fun e=>by
 rw[zG];constructor
 ·rintro⟨d,h,_⟩;exact aA h
 ·intro h;obtain⟨d,hd⟩:=bB.1 h;exact⟨d,hd,by rw[gr,if_pos (ao.1 hd).1]⟩
theorem zV {M:aD} {l:List Dc} {v0:Value} {w0:World} (hM:Lt M w0) (hv:(RT.dc.sl).V M w0 l v0) (h0: ¬M 1) (Hc:∃e fr,w0.heap[1]? =some (.cells (IY.map fun(k:Nat)=>Value.int .u8 (k:Int)).toArray e fr)):
  Spec Tryz.prog 9 #[v0] w0 (fun v w=>v= .bool true∧Step M w0 M w aC):=by
 have jM:=hM;obtain⟨etb,ftb,Ws⟩:=Hc;have V7:=lZ l 0 1 8;obtain⟨hok,_⟩:=EG l (show(0:Int)≤0 by decide) (show(1:Int)≤1 by decide) 8;refine bc (args:=[_]) (fn:=Tryz.f9) Tryz.func9 rfl (n:=70) Tryz.ntmps9 ?_;have S:Step M w0 M w0 aC:=(aw _ _).cA (fun _ h=>h.elim) (fun _ h=>h.elim);refine aj (ae (ah rfl rfl (ab (aj (ae (ad rfl rfl ?_))))));refine aX rfl rfl E12 (Gl (most:=8) (a:=0) (s:=1) _ hM hv (by decide) (by decide) (by decide)) (fun r1 w1 hc=>?_);obtain⟨hg,s1⟩:=hc;replace hv:=hv.le s1.le;replace hM:=s1.lt hM;have:=S.size;replace S:=S.aB s1;refine ah rfl rfl (ab (aj (ae (ad rfl rfl ?_))));refine aX rfl rfl E11 (G2 _ hM hg G4 (by omega) hok) (fun rb2 wb2 hc=>?_);obtain⟨sa2,rfl,nR,Xi⟩:=hc;obtain⟨aa2,rfl⟩:=nR.gz;replace hg:=hg.le Xi.le;replace hM:=Xi.lt hM;have:=S.size;replace S:=S.aB Xi;refine ad rfl rfl (bW rfl rfl rfl (bW rfl rfl rfl (ah rfl rfl (ah rfl rfl (ab (aj (aj (ae (ad rfl rfl (Rg.AX ff rfl rfl rfl (ab ?_)))))))))));refine T.tF rfl ((by simp)) (aU (aj (ae (ad rfl rfl ?_))));refine ed (A:=((RT.se).ptr)) (hn:=by decide) (M:=M) eJ O9 (by decide) rfl rfl hM (lF.2 nR) (.inr ⟨rfl,rfl⟩) (fun YN atD iZ Rk=>?_);replace hg:=hg.le Rk.le;replace nR:=nR.le (by decide) Rk.le;replace hM:=Rk.lt hM;have:=S.size;replace S:=S.aB Rk;refine ad rfl rfl (bM ik rfl hg rfl ?_);refine aX rfl rfl E24 (J9 hM (n:=(ja l 0 1 8).length) (by omega)) (fun r54 w54 hc=>?_);obtain⟨ajT,rfl,pC,s54⟩:=hc;replace hg:=hg.le s54.le;replace nR:=nR.le (by decide) s54.le;replace iZ:=iZ.le s54.le;replace hM:=s54.lt hM;have:=S.size;replace S:=S.aB s54;refine ed (A:=RT.Lc) (hn:=by decide) (M:=M) Tryz.underlying49 VY (by decide) rfl rfl hM (Dn.2 rfl) (.inr ⟨rfl,rfl⟩) (fun agf atE kr Kc=>?_)
 replace hg:=hg.le Kc.le;replace nR:=nR.le (by decide) Kc.le;replace iZ:=iZ.le Kc.le;replace pC:=pC.le Kc.le;replace hM:=Kc.lt hM;have:=S.size;replace S:=S.aB Kc;refine aX rfl rfl E22 (xg (L:=(ja l 0 1 8)) (b:=ajT) hM iZ kr pC hok (bY ..) (by omega) (fun hn=>h0 ((S.mem 1 (ak Ws)).1 hn)) ⟨etb,ftb,S.aK Ws⟩) (fun r56 w56 hc=>?_);obtain⟨atF,rfl,qa,WZ⟩:=hc;rw[Kb]at qa;obtain⟨atG,rfl⟩:=qa.gz;replace hg:=hg.le WZ.le;replace nR:=nR.le (by decide) WZ.le;replace iZ:=iZ.le WZ.le;replace pC:=pC.le WZ.le;replace kr:=kr.le WZ.le;replace hM:=WZ.lt hM;have:=S.size;replace S:=S.aB WZ;refine ad rfl rfl (bW rfl rfl rfl (bW rfl rfl rfl (ah rfl rfl (ah rfl rfl (ab (aj (ae (ad rfl rfl ?_))))))));refine ed (A:=((RT.se).ptr)) (hn:=by decide) (M:=M) eJ O9 (by decide) rfl rfl hM (lF.2 nR) (.inr ⟨rfl,rfl⟩) (fun af0 atH nq Fl=>?_);replace hg:=hg.le Fl.le;replace nR:=nR.le (by decide) Fl.le;replace iZ:=iZ.le Fl.le;replace pC:=pC.le Fl.le;replace kr:=kr.le Fl.le;replace qa:=qa.le (by decide) Fl.le;replace hM:=Fl.lt hM;have:=S.size;replace S:=S.aB Fl;refine ad rfl rfl (bM ik rfl hg rfl ?_);refine aX rfl rfl E23 (Hx hM (n:=(ja l 0 1 8).length) (by omega)) (fun r64 w64 hc=>?_);obtain⟨ajU,rfl,zW,Rl⟩:=hc;replace hg:=hg.le Rl.le;replace nR:=nR.le (by decide) Rl.le;replace iZ:=iZ.le Rl.le;replace pC:=pC.le Rl.le;replace kr:=kr.le Rl.le;replace qa:=qa.le (by decide) Rl.le;replace nq:=nq.le Rl.le;replace hM:=Rl.lt hM;have:=S.size;replace S:=S.aB Rl;refine ed (A:=RT.Lc) (hn:=by decide) (M:=M) Tryz.underlying49 VY (by decide) rfl rfl hM (Dn.2 rfl) (.inr ⟨rfl,rfl⟩) (fun atI YU uO nH=>?_);replace hg:=hg.le nH.le;replace nR:=nR.le (by decide) nH.le
 replace iZ:=iZ.le nH.le;replace pC:=pC.le nH.le;replace kr:=kr.le nH.le;replace qa:=qa.le (by decide) nH.le;replace nq:=nq.le nH.le;replace zW:=zW.le nH.le;replace hM:=nH.lt hM;have:=S.size;replace S:=S.aB nH;refine aX rfl rfl E22 (xg (L:=(ja l 0 1 8)) (b:=ajU) hM nq uO zW hok (bY ..) (by omega) (fun hn=>h0 ((S.mem 1 (ak Ws)).1 hn)) ⟨etb,ftb,S.aK Ws⟩) (fun r66 w66 hc=>?_);obtain⟨atJ,rfl,CP,OS⟩:=hc;rw[OR (zC hok)]at CP;obtain⟨atL,rfl⟩:=CP.gz;replace hg:=hg.le OS.le;replace nR:=nR.le (by decide) OS.le;replace iZ:=iZ.le OS.le;replace pC:=pC.le OS.le;replace kr:=kr.le OS.le;replace qa:=qa.le (by decide) OS.le;replace nq:=nq.le OS.le;replace zW:=zW.le OS.le;replace uO:=uO.le OS.le;replace hM:=OS.lt hM;have:=S.size;replace S:=S.aB OS;refine ad rfl rfl (bW rfl rfl rfl (bW rfl rfl rfl (ah rfl rfl (ah rfl rfl (ab (aj (aj (ae (ad rfl rfl (Rg.AX ff rfl rfl rfl (ad rfl rfl ?_)))))))))));refine Rg.BC (g:=41) rfl ((by simp)) (al rfl rfl (ad rfl rfl (al rfl rfl (Rg.AX ff rfl rfl rfl (aE rfl rfl rfl (ab (T.tF rfl ((by simp)) (aU (aj (ae (ad rfl rfl ?_)))))))))));refine nX rfl rfl rfl (aV (v':= .bool true) (by simp) (ad rfl rfl (al rfl rfl (ad rfl rfl (al rfl rfl (nX rfl rfl rfl (aV (v':= .bool true) (by simp) (aY rfl rfl rfl (ad rfl rfl (al rfl rfl (ad rfl rfl ?_)))))))))));refine al rfl rfl ?_;refine aX rfl rfl E34 (vR _ qa) (fun r98 w98 hc=>?_);obtain⟨rfl,rfl⟩:=hc;refine al rfl rfl (nX rfl rfl rfl (aV (v':= .bool true) rfl (aY rfl rfl rfl (ad rfl rfl (al rfl rfl (ad rfl rfl (al rfl rfl ?_)))))));refine aX rfl rfl E38 (zu _ hM (by show(keysOf []).length=(((keysOf []).map (pk [])).map mU).length;rw[aL,aL]) (by show(keysOf []).length≤_;rw[keys_nil];decide) qa) (fun atM atN hc=>?_)
 obtain⟨Fm,xE⟩:=hc;replace hg:=hg.le xE.le;replace nR:=nR.le (by decide) xE.le;replace iZ:=iZ.le xE.le;replace pC:=pC.le xE.le;replace kr:=kr.le xE.le;replace qa:=qa.le (by decide) xE.le;replace nq:=nq.le xE.le;replace zW:=zW.le xE.le;replace uO:=uO.le xE.le;replace CP:=CP.le (by decide) xE.le;replace hM:=xE.lt hM;have:=S.size;replace S:=S.aB xE;refine al rfl rfl (bM aI rfl Fm rfl (al rfl rfl (nX rfl rfl rfl (aV (v':= .bool true) (congrArg Value.bool (decide_eq_true (by show((keysOf []).length:Int)=0;rw[keys_nil];rfl))) (aY rfl rfl rfl (ad rfl rfl (al rfl rfl (ad rfl rfl (al rfl rfl (ad rfl rfl (al rfl rfl ?_)))))))))));refine aX rfl rfl E37 (Ff _ hM CP nR (CI hok (by omega)) (CI hok (by omega))) (fun atO atP hc=>?_);obtain⟨rfl,wx⟩:=hc;refine aV (v':= .bool true) (congrArg Value.bool Hy) ?_;replace hg:=hg.le wx.le;replace nR:=nR.le (by decide) wx.le;replace iZ:=iZ.le wx.le;replace pC:=pC.le wx.le;replace kr:=kr.le wx.le;replace qa:=qa.le (by decide) wx.le;replace nq:=nq.le wx.le;replace zW:=zW.le wx.le;replace uO:=uO.le wx.le;replace CP:=CP.le (by decide) wx.le;replace Fm:=Fm.le wx.le;replace hM:=wx.lt hM;have:=S.size;replace S:=S.aB wx;refine aY rfl rfl rfl (ad rfl rfl (al rfl rfl ?_));refine aX rfl rfl E25 (CO hM) (fun rl wl hc=>?_);obtain⟨rfl,sl⟩:=hc;replace hg:=hg.le sl.le;replace nR:=nR.le (by decide) sl.le;replace iZ:=iZ.le sl.le;replace pC:=pC.le sl.le;replace kr:=kr.le sl.le;replace qa:=qa.le (by decide) sl.le;replace nq:=nq.le sl.le;replace zW:=zW.le sl.le;replace uO:=uO.le sl.le;replace CP:=CP.le (by decide) sl.le;replace Fm:=Fm.le sl.le;replace hM:=sl.lt hM;have:=S.size;replace S:=S.aB sl;refine aY rfl rfl rfl (ah rfl rfl (ab (aO ?_)))
 exact aS rfl rfl ⟨rfl,S.back⟩
end Go.K

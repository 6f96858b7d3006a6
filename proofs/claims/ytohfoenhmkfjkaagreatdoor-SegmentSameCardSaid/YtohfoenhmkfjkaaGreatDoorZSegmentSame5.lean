/- What the law 'SegmentSame' needs of walks and plain Lean, part 5: nothing is assumed beyond the texts that it imports. -/
import Derived.KernelRfl
import Derived.Laws.StructEq
import Derived.Test.YtohfoenhmkfjkaaGreatDoorProg
import Derived.Test.YtohfoenhmkfjkaaGreatDoorZSegmentSame1
import Derived.Test.YtohfoenhmkfjkaaGreatDoorZSegmentSame2
import Derived.Test.YtohfoenhmkfjkaaGreatDoorZSegmentSame3
import Derived.Test.YtohfoenhmkfjkaaGreatDoorZSegmentSame4
set_option linter.unusedVariables false
set_option linter.unusedSimpArgs false
namespace Go.K
open Go.Proofs
namespace TKSegJ
theorem jQ:TI Tryz.prog 107 (.slice none 0 0) 1 24:=by unfold TI;kernel_rfl
theorem TS:Enters Tryz.prog 80:=enters Tryz.func80 rfl (by decide)
theorem E83:Enters Tryz.prog 83:=enters Tryz.func83 rfl (by decide)
theorem Y9:Enters Tryz.prog 131:=enters Tryz.func131 rfl (by decide)
theorem Za:Enters Tryz.prog 132:=enters Tryz.func132 rfl (by decide)
end TKSegJ
open TKSegJ
set_option maxRecDepth 10000
theorem As {M:aI} {x y:Po} {v u:Value} (w0:World) (hM:Lt M w0) (hx:RT.po.V M w0 x v) (hy:RT.po.V M w0 y u):
  Spec Tryz.prog 132 #[v,u] w0 (fun v' w'=>v'= .bool (decide (x=y))∧Step M w0 M w' aD):=by
 refine bh (args:=[_,_]) (fn:=Tryz.f132) Tryz.func132 rfl (n:=17) Tryz.ntmps132 ?_;have S:Step M w0 M w0 aD:=(ar _ _).b9 (fun _ h=>h.elim) (fun _ h=>h.elim);refine ak (aj ?_);refine gp (A:=RT.po) (a:=x) rfl rfl hM hx rfl (fun u2 wb0 jB Jh _=>?_);replace hx:=hx.le Jh.le;replace hy:=hy.le Jh.le;replace hM:=Jh.lt hM;have:=S.size;replace S:=S.aw Jh;refine gp (A:=RT.po) (a:=y) rfl rfl hM hy rfl (fun u3 wb1 gy Ji _=>?_);replace hy:=hy.le Ji.le;replace jB:=jB.le (by decide) Ji.le;replace hM:=Ji.lt hM;have:=S.size;replace S:=S.aw Ji;refine ah rfl rfl (ad (ak (aj ?_)));refine ax (M:=M) (A:=RT.po) (B:=RT.int .i64) bm rfl rfl I3 (by decide) B6 rfl rfl (by decide) jB (ao _ _) (fun u10 Dh=>?_);refine b4 (M:=M) ay rfl rfl Dh (ao _ _) (fun TT=>?_);refine bI (v':= .int .i64 x.1) rfl ?_;refine ax (M:=M) (A:=RT.po) (B:=RT.int .i64) bm rfl rfl I3 (by decide) B6 rfl rfl (by decide) gy (ao _ _) (fun u12 NG=>?_);refine b4 (M:=M) ay rfl rfl NG (ao _ _) (fun TU=>?_);refine bI (v':= .int .i64 y.1) rfl (rT rfl rfl rfl (ae rfl rfl ?_));refine aL (g:=10) rfl (fun mh=>?_) (fun mh=>?_)
 ·refine an rfl rfl ?_;refine ax (M:=M) (A:=RT.po) (B:=((RT.int .i64).sl)) bm rfl rfl jE (by decide) H2 rfl rfl (by decide) jB (ao _ _) (fun u16 Zb=>?_);refine an rfl rfl ?_;refine bw (M:=M) au rfl rfl rfl rfl rfl Zb (ao _ _) (fun v17 Zc=>?_);refine an rfl rfl ?_;refine ax (M:=M) (A:=RT.po) (B:=((RT.int .i64).sl)) bm rfl rfl jE (by decide) H2 rfl rfl (by decide) gy (ao _ _) (fun u18 Mp=>?_);refine an rfl rfl ?_;refine bw (M:=M) au rfl rfl rfl rfl rfl Mp (ao _ _) (fun v19 IS=>?_);refine an rfl rfl ?_;refine aT rfl rfl TS (uL _ hM Zc IS) (fun VY VZ hc=>?_);obtain⟨rfl,p8⟩:=hc;replace jB:=jB.le (by decide) p8.le;replace gy:=gy.le (by decide) p8.le;replace hM:=p8.lt hM;have:=S.size;replace S:=S.aw p8;refine aP rfl rfl rfl (ah rfl rfl (ad (aM ?_)))
  first
  |exact aS rfl rfl ⟨congrArg Value.bool (decide_eq_decide.2 ⟨fun h=>la mh h,fun h=>by rw[h]⟩),S⟩
  |exact aS rfl rfl ⟨congrArg Value.bool (decide_eq_false (fun h=>mh (by rw[h]))).symm,S⟩
 ·refine aq rfl rfl rfl rfl (aq rfl rfl rfl rfl (aq rfl rfl rfl rfl (aq rfl rfl rfl rfl (aq rfl rfl rfl rfl (aE rfl rfl rfl (ah rfl rfl (ad (aM ?_))))))))
  first
  |exact aS rfl rfl ⟨congrArg Value.bool (decide_eq_decide.2 ⟨fun h=>la mh h,fun h=>by rw[h]⟩),S⟩
  |exact aS rfl rfl ⟨congrArg Value.bool (decide_eq_false (fun h=>mh (by rw[h]))).symm,S⟩
theorem DL {M:aI} {a b:List Po} {v u:Value} (w0:World) (hM:Lt M w0) (hv:((RT.po).sl).V M w0 a v) (hu:((RT.po).sl).V M w0 b u):
  Spec Tryz.prog 131 #[v,u,.func (.func 132) #[] #[]] w0 (fun v' w'=>v'= .bool (decide (a=b))∧Step M w0 M w' aD):=by
 have fR:=hM;have K5:=dd hv;have Ov:=dd hu;refine bh (args:=[_,_,_]) (fn:=Tryz.f131) Tryz.func131 rfl (n:=32) Tryz.ntmps131 ?_;have S:Step M w0 M w0 aD:=(ar _ _).b9 (fun _ h=>h.elim) (fun _ h=>h.elim);refine ak (aj (ah rfl rfl (ad (ak (ak (aj (ae rfl rfl (bz aR rfl hv rfl (ae rfl rfl (bz aR rfl hu rfl (dW rfl rfl rfl ?_)))))))))));refine ad ?_;refine bK rfl (fun c1=>?_) (fun c1=>?_)
 ·refine ak (aj (ah rfl rfl (ad (aM ?_))));exact aS rfl rfl ⟨congrArg Value.bool (decide_eq_false (fun e=>by subst e;exact c1 rfl)).symm,S⟩
 ·have hlen:a.length=b.length:=by omega
  refine aU (ak (ak (aj (ae rfl rfl (bz aR rfl hv rfl (ae rfl rfl (ad (aW ?_))))))));refine cX (σ:=Nat) (fun k=>[(0,v),(1,u),(2,.func (.func 132) #[] #[]),(15,v),(16,.int .i64 (a.length:Int)),(17,.int .i64 (k:Int))]) (fun k w=>∃M1,Lt M1 w∧Step M w0 M1 w aD∧((RT.po).sl).V M1 w a v∧((RT.po).sl).V M1 w b u∧k≤a.length∧a.take k=b.take k) (fun k=>a.length-k) 0 (.cons rfl (.cons rfl (.cons rfl (.cons rfl (.cons rfl (.cons rfl .nil)))))) ?_ ?_
  ·exact⟨_,hM,S,hv,hu,bC _,rfl⟩
  ·clear S hv hu hM;rintro k w ⟨M1,hM,S,hv,hu,hk,heq⟩;refine ak (aj (cj rfl rfl rfl (ad (ak ?_))));refine bK rfl (fun c4=>?_) (fun c4=>?_)
   ·refine aU (ak (aW (ak (aj (ae rfl rfl ?_)))));obtain⟨x,pD⟩:∃x,a[k]? =some x:=⟨_,aF (by omega)⟩;obtain⟨y,mY⟩:∃y,b[k]? =some y:=⟨_,aF (by omega)⟩;refine cb (M:=M1) aR eN rfl rfl rfl hv (ao _ _) (by omega) (fun u51 x_ fu Hb=>?_);rw[aB]at fu;obtain rfl:=aQ (pD.symm.trans fu);refine b7 (M:=M1) (A:=RT.po) bm rfl eN (by decide) rfl rfl rfl Hb (ao _ _) (fun v52 mI=>?_);obtain⟨ux,rfl,_,_⟩:=EE (d:=x.1) (ps:=x.2) mI;refine dL M1 eN rfl (fun NH PE agH agI oB rY=>?_);obtain⟨xm,Hc⟩:∃M',M'=ins M1 NH:=⟨_,rfl⟩;rw[←Hc]at rY;have lB:xm NH:=by rw[Hc];exact .inl rfl
    change PE.heap[NH]? =some (.cells #[.int .i64 0,.slice none 0 0] _ _)at oB;replace hv:=hv.le rY.le;replace hu:=hu.le rY.le;replace mI:=mI.le rY.le;replace hM:=rY.lt hM;have:=S.size;replace S:=S.aw rY;refine ah rfl rfl ?_;refine dx (M:=xm) (vs:=[.int .i64 x.1,ux]) eN rfl rfl (uh rfl mI) rfl rfl oB lB (fun ws5 gs5 NI=>?_);have:=al oB;replace lB:=(NI.mem _ this).2 lB;replace hv:=hv.le NI.le;replace hu:=hu.le NI.le;replace mI:=mI.le NI.le;replace hM:=NI.lt hM;have:=S.size;replace S:=S.trans NI (fun k hk h=>by have h:_=_:=h;subst h;first|(exfalso;omega)|(show _≤_;omega)|exact⟨by first|omega|assumption,(S.mem _ hk).1 ((NI.mem _ (al oB)).1 lB)⟩|exact .inl rfl|exact .inr rfl|exact .inr (.inl rfl)|exact .inr (.inr rfl)|exact rfl);have Kr:=gs5;clear oB;have oB:=Kr;clear Kr;refine ad (ak (aj (ae rfl rfl (ae rfl rfl ?_))));refine cb (M:=xm) aR eN rfl rfl rfl hu (ao _ _) (by omega) (fun Sb x_ fu uK=>?_);rw[aB]at fu;obtain rfl:=aQ (mY.symm.trans fu);refine b7 (M:=xm) (A:=RT.po) bm rfl eN (by decide) rfl rfl rfl uK (ao _ _) (fun v63 mH=>?_);obtain⟨uy,rfl,_,_⟩:=EE (d:=y.1) (ps:=y.2) mH;refine dL xm eN rfl (fun NJ Zd agK agL vW yk=>?_);obtain⟨Ks,Hd⟩:∃M',M'=ins xm NJ:=⟨_,rfl⟩;rw[←Hd]at yk;have re:Ks NJ:=by rw[Hd];exact .inl rfl
    change Zd.heap[NJ]? =some (.cells #[.int .i64 0,.slice none 0 0] _ _)at vW;have:=al oB;replace lB:=(yk.mem _ this).2 lB;replace oB:=yk.aN oB;replace hv:=hv.le yk.le;replace hu:=hu.le yk.le;replace mI:=mI.le yk.le;replace mH:=mH.le yk.le;replace hM:=yk.lt hM;have:=S.size;replace S:=S.aw yk;refine dx (M:=Ks) (vs:=[.int .i64 y.1,uy]) eN rfl rfl (uh rfl mH) rfl rfl vW re (fun ws6 gs6 HF=>?_);have:=al oB;replace lB:=(HF.mem _ this).2 lB;replace oB:=HF.bM oB (fun hk=>by have hk:_=_:=hk;omega);have:=al vW;replace re:=(HF.mem _ this).2 re;replace hv:=hv.le HF.le;replace hu:=hu.le HF.le;replace mI:=mI.le HF.le;replace mH:=mH.le HF.le;replace hM:=HF.lt hM;have:=S.size;replace S:=S.trans HF (fun k hk h=>by have h:_=_:=h;subst h;first|(exfalso;omega)|(show _≤_;omega)|exact⟨by first|omega|assumption,(S.mem _ hk).1 ((HF.mem _ (al vW)).1 re)⟩|exact .inl rfl|exact .inr rfl|exact .inr (.inl rfl)|exact .inr (.inr rfl)|exact rfl);have Ku:=gs6;clear vW;have vW:=Ku;clear Ku;refine ad (ak (aj (ae rfl rfl (eX (vs:=[.int .i64 x.1,ux]) bm rfl eN rfl rfl rfl oB (eX (vs:=[.int .i64 y.1,uy]) bm rfl eN rfl rfl rfl vW ?_)))));refine Rg.oH (first:=[]) (captured:=[]) (xs:=[.tmp 27,.tmp 28]) rfl rfl rfl Za (As (x:=x) (y:=y) _ hM mI mH) (fun r7 w7 hc=>?_);obtain⟨rfl,s7⟩:=hc;have:=al oB;replace lB:=(s7.mem _ this).2 lB;replace oB:=s7.aN oB;have:=al vW;replace re:=(s7.mem _ this).2 re;replace vW:=s7.aN vW;replace hv:=hv.le s7.le;replace hu:=hu.le s7.le;replace mI:=mI.le s7.le;replace mH:=mH.le s7.le;replace hM:=s7.lt hM;have:=S.size;replace S:=S.aw s7;refine jx rfl rfl (bI (v':= .bool (decide (x≠y))) (by simp) (ad ?_));refine bK rfl (fun c7=>?_) (fun c7=>?_)
    ·refine ak (aj (ah rfl rfl (ad (aM ?_))));exact aS rfl rfl ⟨congrArg Value.bool (decide_eq_false (fun e=>by subst e;rw[pD]at mY;cases mY;exact c7 rfl)).symm,S.back⟩
    ·refine aU (aj (bE rfl rfl rfl (by omega) (ae rfl rfl (ad ?_))));refine⟨rfl,k+1,(.cons rfl (.cons rfl (.cons rfl (.cons rfl (.cons rfl (.cons rfl .nil)))))),?_,?_⟩
     ·exact⟨_,hM,S,hv,hu,by omega,by rw[bc,bc,heq,pD,mY,b5.1 c7]⟩
     ·omega
   ·refine cK (ak (aj (ah rfl rfl (ad (aM ?_)))));rw[aK (by omega),aK (by omega)]at heq;exact aS rfl rfl ⟨congrArg Value.bool (decide_eq_true heq).symm,S.back⟩
theorem BR {M:aI} {a b:List Po} {v u:Value} (w0:World) (hM:Lt M w0) (hv:((RT.po).sl).V M w0 a v) (hu:((RT.po).sl).V M w0 b u):
  Spec Tryz.prog 83 #[v,u] w0 (fun v' w'=>v'= .bool (decide (a=b))∧Step M w0 M w' aD):=by
 refine bh (args:=[_,_]) (fn:=Tryz.f83) Tryz.func83 rfl (n:=8) Tryz.ntmps83 ?_;have S:Step M w0 M w0 aD:=(ar _ _).b9 (fun _ h=>h.elim) (fun _ h=>h.elim);refine ak (aj (ah rfl rfl (ad (ak (aj (ae rfl rfl (ae rfl rfl ?_)))))));refine aT rfl rfl Y9 (DL _ hM hv hu) (fun r1 w1 hc=>?_);obtain⟨rfl,s1⟩:=hc;replace hM:=s1.lt hM;have:=S.size;replace S:=S.aw s1;refine ah rfl rfl (ad (aM ?_));exact aS rfl rfl ⟨rfl,S⟩
theorem DM {M:aI} {a b:List (List Po)} {v u:Value} (w0:World) (hM:Lt M w0) (hv:(((RT.po).sl).sl).V M w0 a v) (hu:(((RT.po).sl).sl).V M w0 b u):
  Spec Tryz.prog 82 #[v,u,.func (.func 83) #[] #[]] w0 (fun v' w'=>v'= .bool (decide (a=b))∧Step M w0 M w' aD):=by
 have fR:=hM;have K5:=dd hv;have Ov:=dd hu;refine bh (args:=[_,_,_]) (fn:=Tryz.f82) Tryz.func82 rfl (n:=32) Tryz.ntmps82 ?_;have S:Step M w0 M w0 aD:=(ar _ _).b9 (fun _ h=>h.elim) (fun _ h=>h.elim);refine ak (aj (ah rfl rfl (ad (ak (ak (aj (ae rfl rfl (bz bS rfl hv rfl (ae rfl rfl (bz bS rfl hu rfl (dW rfl rfl rfl ?_)))))))))));refine ad ?_;refine bK rfl (fun c1=>?_) (fun c1=>?_)
 ·refine ak (aj (ah rfl rfl (ad (aM ?_))));exact aS rfl rfl ⟨congrArg Value.bool (decide_eq_false (fun e=>by subst e;exact c1 rfl)).symm,S⟩
 ·have hlen:a.length=b.length:=by omega
  refine aU (ak (ak (aj (ae rfl rfl (bz bS rfl hv rfl (ae rfl rfl (ad (aW ?_))))))));refine cX (σ:=Nat) (fun k=>[(0,v),(1,u),(2,.func (.func 83) #[] #[]),(15,v),(16,.int .i64 (a.length:Int)),(17,.int .i64 (k:Int))]) (fun k w=>Step M w0 M w aD∧(((RT.po).sl).sl).V M w a v∧(((RT.po).sl).sl).V M w b u∧k≤a.length∧a.take k=b.take k) (fun k=>a.length-k) 0 (.cons rfl (.cons rfl (.cons rfl (.cons rfl (.cons rfl (.cons rfl .nil)))))) ?_ ?_
  ·exact⟨S,hv,hu,bC _,rfl⟩
  ·clear S hv hu hM;rintro k w ⟨S,hv,hu,hk,heq⟩;have hM:=S.lt fR;refine ak (aj (cj rfl rfl rfl (ad (ak ?_))));refine bK rfl (fun c4=>?_) (fun c4=>?_)
   ·refine aU (ak (aW (ak (aj (ae rfl rfl ?_)))));obtain⟨x,pD⟩:∃x,a[k]? =some x:=⟨_,aF (by omega)⟩;obtain⟨y,mY⟩:∃y,b[k]? =some y:=⟨_,aF (by omega)⟩;refine cb (M:=M) bS jQ rfl rfl rfl hv (ao _ _) (by omega) (fun u51 x_ fu Hb=>?_);rw[aB]at fu;obtain rfl:=aQ (pD.symm.trans fu);refine bw (M:=M) aR rfl rfl rfl rfl rfl Hb (ao _ _) (fun v52 mI=>?_);refine ah rfl rfl (ah rfl rfl (ad (ak (aj (ae rfl rfl (ae rfl rfl ?_))))));refine cb (M:=M) bS jQ rfl rfl rfl hu (ao _ _) (by omega) (fun Sb x_ fu uK=>?_);rw[aB]at fu;obtain rfl:=aQ (mY.symm.trans fu);refine bw (M:=M) aR rfl rfl rfl rfl rfl uK (ao _ _) (fun v63 mH=>?_);refine ah rfl rfl (ad (ak (aj (ae rfl rfl (ae rfl rfl (ae rfl rfl ?_))))));refine Rg.oH (first:=[]) (captured:=[]) (xs:=[.tmp 27,.tmp 28]) rfl rfl rfl E83 (BR (a:=x) (b:=y) _ hM mI mH) (fun r7 w7 hc=>?_);obtain⟨rfl,s7⟩:=hc;replace hv:=hv.le s7.le;replace hu:=hu.le s7.le;replace mI:=mI.le s7.le;replace mH:=mH.le s7.le;replace hM:=s7.lt hM;have:=S.size;replace S:=S.aw s7;refine jx rfl rfl (bI (v':= .bool (decide (x≠y))) (by simp) (ad ?_));refine bK rfl (fun c7=>?_) (fun c7=>?_)
    ·refine ak (aj (ah rfl rfl (ad (aM ?_))));exact aS rfl rfl ⟨congrArg Value.bool (decide_eq_false (fun e=>by subst e;rw[pD]at mY;cases mY;exact c7 rfl)).symm,S⟩
    ·refine aU (aj (bE rfl rfl rfl (by omega) (ae rfl rfl (ad ?_))));refine⟨rfl,k+1,(.cons rfl (.cons rfl (.cons rfl (.cons rfl (.cons rfl (.cons rfl .nil)))))),?_,?_⟩
     ·exact⟨S,hv,hu,by omega,by rw[bc,bc,heq,pD,mY,b5.1 c7]⟩
     ·omega
   ·refine cK (ak (aj (ah rfl rfl (ad (aM ?_)))));rw[aK (by omega),aK (by omega)]at heq;exact aS rfl rfl ⟨congrArg Value.bool (decide_eq_true heq).symm,S⟩
end Go.K
namespace Go.K
section
variable {P:Program} {r:Option Nat} {n:Nat} {L:Sl} {ds:List Deferred} {w:World} {K:Kt} {ops:Array Oper} {rest:List Oper} {d:Nat} {x y:Operand} {ty:TypeId} {pos:String} {af:Array Edge}
theorem jZ {t:TypeId} (ht:P.underlying t=some .string) {cs:Array Value} {off:Nat} {v:Value} (hv:cs[off]? =some v):(part t cs off).run P w= .ok v w:=by
 have D8:(isAgg t).run P w= .ok false w:=by
  unfold isAgg;rw[cr,run_underlying ht w];simp
 unfold part;rw[cr,D8];simp[hv]
theorem Au {t:TypeId} {f g:Field} {k:Nat} {xs ys:Array Value} {a b a' b':Value} {c e:Bool} (ht:P.underlying t=some (.struct #[f,g])) (hp:P.stoodInHeld t=false) (hn:f.name≠ "_") (JU:g.name≠ "_")
  (p1:(part f.type xs f.offset).run P w= .ok a w) (p2:(part f.type ys f.offset).run P w= .ok b w) (p3:(part g.type xs g.offset).run P w= .ok a' w) (p4:(part g.type ys g.offset).run P w= .ok b' w)
  (h1:(Op.equalIn k f.type a b).run P w= .ok c w) (h2:(Op.equalIn k g.type a' b').run P w= .ok e w):(Op.equalIn (k+1) t (.agg xs) (.agg ys)).run P w= .ok (c&&e) w:=by
 have O4:P.fieldsOf t= #[f,g]:=by simp[Program.fieldsOf,ht]
 rw[run_equalIn_struct (P:=P) w k t xs ys (by rw[O4];exact ht) hp,O4];simp only[Op.eqFields,hn,JU,ne_eq,not_false_eq_true,if_true,cr,p1,p2,p3,p4,h1,h2,cV]
 cases c
 ·simp
 ·simp only[Bool.not_true,Bool.false_eq_true,if_false,cr,p3,p4,h2,cV]
  cases e<;>simp
theorem CB (a b:List UInt8):((⟨a.toArray⟩:ByteArray).toList==(⟨b.toArray⟩:ByteArray).toList)=decide (a=b):=by
 rw[ByteArray.toList_eq,ByteArray.toList_eq];show(a==b)=_;by_cases h:a=b
 ·subst h;simp
 ·simp[h]
end
end Go.K
namespace Go.K
section
variable {P:Program} {r:Option Nat} {n:Nat} {L:Sl} {ds:List Deferred} {w:World} {K:Kt} {ops:Array Oper} {rest:List Oper} {d:Nat} {x y:Operand} {ty:TypeId} {pos:String} {af:Array Edge}
theorem DN {t:TypeId} {f' g':Field} (hu:P.underlying t=some (.struct #[f',g'])) (Ze:P.stoodInHeld t=false) (hm:f'.name≠ "_") (rU:g'.name≠ "_")
  (o3:f'.offset=0) (o4:g'.offset=1) (s1:P.underlying f'.type=some .string) (s2:P.underlying g'.type=some .string) (a b a' b':List UInt8):
  (Op.equalIn 10000 t (.agg #[.string ⟨a.toArray⟩,.string ⟨b.toArray⟩]) (.agg #[.string ⟨a'.toArray⟩,.string ⟨b'.toArray⟩])).run P w= .ok (decide ((a,b)=(a',b'))) w:=by
 have h1:(Op.equalIn (9999+1) t (.agg #[.string ⟨a.toArray⟩,.string ⟨b.toArray⟩]) (.agg #[.string ⟨a'.toArray⟩,.string ⟨b'.toArray⟩])).run P w= .ok (decide (a=a')&&decide (b=b')) w:=
  Au (k:=9998+1) (a:= .string ⟨a.toArray⟩) (b:= .string ⟨a'.toArray⟩) (a':= .string ⟨b.toArray⟩) (b':= .string ⟨b'.toArray⟩) hu Ze hm rU (jZ s1 (by rw[o3];rfl)) (jZ s1 (by rw[o3];rfl)) (jZ s2 (by rw[o4];rfl)) (jZ s2 (by rw[o4];rfl))
   (by rw[run_equalIn_string w 9998 _ _ _ s1,CB]) (by rw[run_equalIn_string w 9998 _ _ _ s2,CB])
 rw[show(10000:Nat)=9999+1 from rfl,h1];congr 1;by_cases e1:a=a'<;>by_cases e2:b=b'<;>simp[e1,e2]
theorem Rg.Zf {t t':TypeId} {f' g':Field} {p q:List UInt8×List UInt8} (hu:P.underlying t=some (.struct #[f',g'])) (Ze:P.stoodInHeld t=false) (hq:P.eqGuardType P.depth t=false) (hm:f'.name≠ "_") (rU:g'.name≠ "_")
  (o3:f'.offset=0) (o4:g'.offset=1) (s1:P.underlying f'.type=some .string) (s2:P.underlying g'.type=some .string)
  (hx:ev L x=some (.agg #[.string ⟨p.1.toArray⟩,.string ⟨p.2.toArray⟩])) (hy:ev L y=some (.agg #[.string ⟨q.1.toArray⟩,.string ⟨q.2.toArray⟩])) (hd:Nat.blt d n=true)
  (k:Rg P r n ops rest ((d,.bool (decide (p=q)))::L) ds w K):
  Rg P r n ops ({dst:=some d,op:= .binOp .eql t x y t',type:=ty,pos,after:=af,guard:=none}::rest) L ds w K:=
 .op (fun _ h=>by cases h) rfl rfl hd _ w (fun ρ h=>by
  have he:(Op.equalIn 10000 t (.agg #[.string ⟨p.1.toArray⟩,.string ⟨p.2.toArray⟩]) (.agg #[.string ⟨q.1.toArray⟩,.string ⟨q.2.toArray⟩])).run P w= .ok (decide (p=q)) w:=DN (P:=P) (w:=w) hu Ze hm rU o3 o4 s1 s2 p.1 p.2 q.1 q.2;simp only[execOp];rw[h x _ hx,h y _ hy];rw[cr,cr,run_eqGuard_agg (P:=P) w .eql t x y _ _ hq];simp only[run_eql_struct,he,cV,cr,Sem.run_pure]) k
variable {N:aI} {wd:World} {dst:Option Nat} {gd:Option (Nat×Bool)}
theorem bJ.Kv {t:TypeId} (hx:ev L x=some undef):bJ P N wd L {dst,op:= .load t x,type:=ty,pos,after:=af,guard:=gd}:= .free fun ρ hρ=>by
 simp only[execOp,hρ x _ hx,undef];exact .halt fun P w a w' h=>by simp[Instr.loadAt,Instr.sureAddr,cr,stuck,Sem.run,Result.andThen]at h
theorem bJ.Sf {t t':TypeId} (hx:ev L x=some undef):bJ P N wd L {dst,op:= .binOp .sub t x y t',type:=ty,pos,after:=af,guard:=gd}:= .free fun ρ hρ=>by
 simp only[execOp,hρ x _ hx,undef];refine Loc.val (Loc.bind (.pure _) fun _=>?_)
 cases ρ y<;>exact .stuck _
end
end Go.K
namespace Go.K
open Go.Proofs
namespace TKPutA
theorem Sg:Enters Tryz.prog 94:=enters Tryz.func94 rfl (by decide)
end TKPutA
open TKPutA
set_option maxRecDepth 10000
theorem rf {α:Type} [DecidableEq α] {key:α→List UInt8} {t:α}:∀{l:List α} {i:Nat},qU key l→l[i]? =some t→hG key t l=l
 |[],_,_,h=>by simp at h
 |u::l,0,h,hi=>by
  simp at hi;subst hi;rw[hG,if_neg (gx _),if_pos rfl]
 |u::l,i+1,h,hi=>by
  obtain⟨h1,h2⟩:=hU.1 h;have fM:l[i]? =some t:=by simpa using hi
  have dD:=h1 t (aH fM);rw[hG,if_neg (gL dD),if_neg (fun e=>by subst e;exact gx _ dD),rf h2 fM]
theorem gM {α:Type} [DecidableEq α] {key:α→List UInt8} {t:α}:∀{l:List α} {k:Nat},(∀x∈l.drop k,key t<key x)→(∀x∈l.take k,¬key t<key x∧x≠t)→hG key t l=l.take k++t::l.drop k
 |[],_,_,_=>by simp[hG]
 |u::l,0,h,_=>by rw[hG,if_pos (h u (bX ..))];rfl
 |u::l,k+1,h,h'=>by
  obtain⟨h1,h2⟩:=h' u (by simp);rw[hG,if_neg h1,if_neg h2,gM (k:=k) (fun x hx=>h x (by simpa using hx)) (fun x hx=>h' x (by simp[hx]))];simp
theorem oh {α:Type} {key:α→List UInt8} {t y:α} {l:List α} {k:Nat} (h:qU key l) (hk:k≠0) (hy:l[k-1]? =some y) (h1: ¬key t<key y) (h2:y≠t):∀x∈l.take k,¬key t<key x∧x≠t:=fun x hx=>by
 obtain⟨i,hi,rfl⟩:=List.mem_iff_getElem.1 hx;rw[List.getElem_take];rw[bF]at hi;obtain⟨hy1,rfl⟩:=av.1 hy;rcases fw i (k-1)with dD|il
 ·have:=List.pairwise_iff_getElem.1 h i (k-1) (by omega) hy1 dD;exact⟨fun hh=>h1 (jq hh this),fun e=>h1 (e▸this)⟩
 ·have e:i=k-1:=by omega
  subst e;exact⟨h1,h2⟩
theorem He {l:List Fd} (h:∀t∈l,Ds t∧t.1.length≤12∧t.2.length≤30):qU dp (allBy dp l)∧(∀t∈allBy dp l,t.1.length≤1000000∧t.2.length≤1000000)∧(allBy dp l).length≤l.length:=by
 have h1:=my (key:=dp) (S:=Ds) (fun a b=>qd) l [] (fun x hx=>(h x hx).1) (fun x hx=>by cases hx) List.Pairwise.nil
 have hm:∀t∈allBy dp l,t∈l:=fun t ht=>by
  have:=(h1.2 t).1 ht;simpa using this
 refine⟨h1.1,fun t ht=>?_,h1.1.nodup.length_le_of_subset hm⟩;have:=h t (hm t ht);omega
def lW (fs:List Fd) (x:Fd) (k:Nat):List Fd:=(bP fs).map (·.1)++((words x.2).take k).map fun y=>(x.1,y)
theorem xn (x:Fd):(fg x).map (·.1)=(words x.2).map fun y=>(x.1,y):=by
 unfold fg;rw[vr];show(words x.2).zipIdx.map ((fun y=>(x.1,y))∘Prod.fst)=_;rw[←vr,List.zipIdx_map_fst]
theorem xo {fs:List Fd} {x:Fd} {i:Nat} (h:fs[i]? =some x):lW (fs.take i) x (words x.2).length=(bP (fs.take (i+1))).map (·.1):=by
 unfold lW;rw[bc,h,bY,qx];unfold bP;rw[List.flatMap_append,dF,←xn];simp
theorem xp {fs:List Fd} {x:Fd} {k:Nat} {y:List UInt8} (h:(words x.2)[k]? =some y):lW fs x (k+1)=lW fs x k++[(x.1,y)]:=by
 unfold lW;rw[bc,h,bY,dF,fv];rfl
theorem CC {d:Dc} (hf:gz d) {i:Nat} {x:Fd} (h:d.2[i]? =some x) (k:Nat):(∀t∈lW (d.2.take i) x k,Ds t∧t.1.length≤12∧t.2.length≤30)∧(lW (d.2.take i) x k).length≤500:=by
 have HH:∀t∈lW (d.2.take i) x k,∃p∈bP d.2,p.1=t:=fun t ht=>by
  rcases cY.1 ht with ht|ht
  ·obtain⟨p,hp,rfl⟩:=cq.1 ht;obtain⟨z,hz,hp⟩:=List.mem_flatMap.1 hp;exact⟨p,List.mem_flatMap.2 ⟨z,lg hz,hp⟩,rfl⟩
  ·obtain⟨y,hy,rfl⟩:=cq.1 ht;have hx:(x.1,y)∈(fg x).map (·.1):=by rw[xn];exact cq.2 ⟨y,lg hy,rfl⟩
   obtain⟨p,hp,e⟩:=cq.1 hx;exact⟨p,List.mem_flatMap.2 ⟨x,aH h,hp⟩,e⟩
 refine⟨fun t ht=>?_,?_⟩
 ·obtain⟨p,hp,rfl⟩:=HH t ht;exact⟨hf.Dv p hp,hf.small p hp⟩
 ·have h1:(lW (d.2.take i) x k).length≤(lW (d.2.take i) x (words x.2).length).length:=by unfold lW;simp;omega
  rw[xo h,cx]at h1
  have h2:(bP (d.2.take (i+1))).length≤(bP d.2).length:=by
   have e:bP d.2=bP (d.2.take (i+1))++bP (d.2.drop (i+1)):=by unfold bP;rw[←List.flatMap_append,List.take_append_drop]
   rw[e,bO];omega
  have:=hf.many;omega
theorem DO {d:Dc} (hf:gz d) {i:Nat} {x:Fd} (h:d.2[i]? =some x):eQ d.2 x.1=words x.2:=
 nT h rfl fun j y hj hy e=>by
  obtain⟨h1,h2⟩:=av.1 h;obtain⟨h3,h4⟩:=av.1 hy;have:=List.pairwise_iff_getElem.1 hf.once j i (by simpa using h3) (by simpa using h1) hj;rw[List.getElem_map,List.getElem_map,h2,h4]at this;exact this e
theorem Hf {fs:List Fd} (h:(fs.map (·.1)).Nodup) (t:Fd):vU (eQ fs t.1) t.2=posOf (bP fs) t:=by
 induction fs with
 |nil=>rfl
 |cons x fs ih=>
  have h':=List.nodup_cons.1 h;have e:posOf (bP (x::fs)) t=posOf (fg x) t++posOf (bP fs) t:=by show posOf (fg x++bP fs) t=_;rw[mz]
  by_cases hx:x.1=t.1
  ·rw[e,qV fun y hy e=>h'.1 (by have h9:y.1∈fs.map (·.1):=ez hy;rw[e,←hx]at h9;exact h9),jT];rw[nT (i:=0) (x:=x) rfl hx (fun j y hj=>absurd hj (sK _))];unfold vU posOf fg;rw[List.filter_map,vr];congr 1;refine List.filter_congr fun p _=> ?_
   show decide (p.1=t.2)=decide ((x.1,p.1)=t);refine decide_eq_decide.2 ⟨fun e=>?_,fun e=>?_⟩
   ·rw[hx,e]
   ·rw[←e]
  ·rw[e,pA hx,eu,←ih h'.2];congr 1;unfold eQ;rw[List.find?_cons_of_neg (by simpa using hx)]
theorem ym {M:aI} {l:List Fd} {t:Fd} {v0 v1:Value} (w0:World) (hM:Lt M w0) (hv:(RT.fd.sl).V M w0 l v0) (ht:RT.fd.V M w0 t v1) (rM:qU dp l) (hlen:∀x∈l,x.1.length≤1000000∧x.2.length≤1000000) (Hx:t.1.length≤1000000∧t.2.length≤1000000) (hl:l.length≤1000000):
  Spec Tryz.prog 181 #[v0,v1] w0 (fun v w=>(RT.fd.sl).V M w (hG dp t l) v∧Step M w0 M w aD):=by
 have fR:=hM;refine bh (args:=[_,_]) (fn:=Tryz.f181) Tryz.func181 rfl (n:=50) Tryz.ntmps181 ?_;have S:Step M w0 M w0 aD:=(ar _ _).b9 (fun _ h=>h.elim) (fun _ h=>h.elim);refine ak (aj ?_);refine gp (A:=RT.fd) (a:=t) rfl rfl hM ht rfl (fun u3 w1 gy s0 _=>?_);replace hv:=hv.le s0.le;replace ht:=ht.le s0.le;replace hM:=s0.lt hM;have:=S.size;replace S:=S.aw s0;refine ah rfl rfl (ad (ak (aj (ae rfl rfl (bz bG rfl hv rfl (ah rfl rfl (ad (ak (aW ?_)))))))));refine cX (σ:=Nat) (fun k=>[(0,v0),(3,u3),(5,.int .i64 (k:Int))]) (fun k w=>Step M w0 M w aD∧(RT.fd.sl).V M w l v0∧cf RT.fd M w u3 t∧k≤l.length∧∀x∈l.drop k,dp t<dp x) (fun k=>k) l.length (.cons rfl (.cons rfl (.cons rfl .nil))) ?_ ?_
 ·exact⟨S,hv,gy,a8 _,fun x h=>by simp at h⟩
 ·clear S hv gy hM;rintro k w ⟨S,hv,gy,hk,GY⟩;have hM:=S.lt fR;refine ak (ak ?_);apply T.Ev [0,1,2,3,5,6,7,8,9,4,10,11,12] 9 [4,5,6,7,8] 1 aD mixed
  ·simp+decide only[wz,qH,gN,List.map_nil,uR,uT,List.map_toArray,fI,ni,List.idxOf_cons,cond_true,cond_false,Nat.reduceBEq,Nat.reduceAdd,beq_self_eq_true];rfl
  ·rfl
  ·rfl
  ·rfl
  ·rfl
  ·rfl
  ·rfl
  intro YE YF;have D2:=YF M;replace hv:=hv.le D2.le;replace gy:=gy.le (by decide) D2.le;replace hM:=D2.lt hM;have:=S.size;replace S:=S.aw D2;refine ae rfl rfl ?_;refine ad ⟨rfl,rfl,rfl,?_⟩;refine lF rfl rfl rfl ?_;refine ad ⟨rfl,rfl,rfl,?_⟩;refine ae rfl rfl ?_;refine ad ⟨rfl,rfl,rfl,?_⟩;refine aL (g:=11) rfl (fun Zg=>?_) (fun Zg=>?_)
  ·refine an rfl rfl ?_;refine b7 (M:=M) (A:=RT.fd) bA rfl ja (by decide) rfl rfl rfl gy (ao _ _) (fun v23 NK=>?_);refine ad ⟨rfl,rfl,rfl,?_⟩;refine an rfl rfl (ae rfl rfl ?_);refine ad ⟨rfl,rfl,rfl,?_⟩;refine an rfl rfl (ae rfl rfl ?_);refine ad ⟨rfl,rfl,rfl,?_⟩;refine an rfl rfl (ic rfl rfl rfl (by omega) ?_);refine ad ⟨rfl,rfl,rfl,?_⟩;refine an rfl rfl ?_;obtain⟨x,il⟩:∃x,l[k-1]? =some x:=⟨_,aF (by omega)⟩;have xz:=hlen _ (aH il);refine cb (M:=M) bG ja rfl rfl rfl hv (ao _ _) (by omega) (fun u28 x_ fu NL=>?_);rw[show((k:Int)-1).toNat=k-1 from by omega]at fu;obtain rfl:=aQ (il.symm.trans fu);refine ad ⟨rfl,rfl,rfl,?_⟩;refine an rfl rfl ?_;refine b7 (M:=M) (A:=RT.fd) bA rfl ja (by decide) rfl rfl rfl NL (ao _ _) (fun v29 Zh=>?_);refine ad ⟨rfl,rfl,rfl,?_⟩;refine dr ?_
   try (obtain⟨bb,oo,cs,ee,fr,rfl,kf,_⟩:=NL.float)
   refine⟨eV ⟨fy,⟨fy,⟨(by first|exact bJ.Sf rfl|exact bJ.bin rfl rfl),⟨bJ.idx,⟨(by first|exact dS rfl kf (fun h=>h)|exact bJ.Kv rfl),trivial⟩⟩⟩⟩⟩,?_⟩;have kp:=fY aD YE;refine an rfl rfl ?_;obtain rfl:v23=kv t:=iS NK;refine aT rfl rfl Sg (od (t:=t) _ hM (by omega) (by omega)) (fun r24 acE hc=>?_);obtain⟨rfl,TV⟩:=hc;replace hv:=hv.le TV.le;replace gy:=gy.le (by decide) TV.le;replace hM:=TV.lt hM;have:=S.size;replace S:=S.aw TV;refine(fun(kp:dO _ _ _)=>ad ⟨rfl,rfl,fun _=>kp,?_⟩) (by first|exact kp|exact kp.nZ (by assumption)|exact kp.goN (by assumption)|exact kp.go (by assumption) (fun _ _ h=>by first|exact h|exact h.elim));refine an rfl rfl ?_;obtain rfl:v29=kv x:=iS Zh;refine aT rfl rfl Sg (od (t:=x) _ hM (by omega) (by omega)) (fun agO Zi hc=>?_);obtain⟨rfl,Jj⟩:=hc;replace hv:=hv.le Jj.le;replace gy:=gy.le (by decide) Jj.le;replace hM:=Jj.lt hM;have:=S.size;replace S:=S.aw Jj;refine ad ⟨rfl,rfl,fun h=>absurd rfl h,?_⟩;refine an rfl rfl (Rg.Ma rfl rfl rfl ?_);refine ad ⟨rfl,rfl,fun h=>absurd rfl h,?_⟩;refine aP rfl rfl rfl ?_;refine ad ⟨rfl,rfl,fun h=>absurd rfl h,?_⟩;refine jJ ?_;refine bK rfl (fun c2=>?_) (fun c2=>?_)
   ·refine aU (aW (aj (ae rfl rfl (ic rfl rfl rfl (by omega) (ah rfl rfl (ad ?_))))));refine⟨rfl,k-1,(.cons rfl (.cons rfl (.cons (congrArg (fun z=>some (Value.int .i64 z)) (by omega)) .nil))),?_,?_⟩
    ·exact⟨S,hv,gy,by omega,fun z hz=>by
      rw[show l.drop (k-1)=x::l.drop k from by rw[dm (by omega),(av.1 il).2,show k-1+1=k from by omega]]at hz;rcases dP.1 hz with rfl|hz
      ·exact c2
      ·exact GY z hz⟩
    ·omega
   ·refine cK (ak (ak ?_));apply jK mixed rfl rfl;intro TA Mo;have sh:=Mo M;replace hv:=hv.le sh.le;replace gy:=gy.le (by decide) sh.le;replace hM:=sh.lt hM;have:=S.size;replace S:=S.aw sh;refine ae rfl rfl ?_;refine ad ⟨rfl,rfl,rfl,?_⟩;refine lF rfl rfl rfl ?_;refine ad ⟨rfl,rfl,rfl,?_⟩;refine ae rfl rfl ?_;refine ad ⟨rfl,rfl,rfl,?_⟩;refine aL (g:=26) rfl (fun oA=>?_) (fun oA=>?_)
    ·refine an rfl rfl (ae rfl rfl ?_);refine ad ⟨rfl,rfl,rfl,?_⟩;refine an rfl rfl (ae rfl rfl ?_);refine ad ⟨rfl,rfl,rfl,?_⟩;refine an rfl rfl (ic rfl rfl rfl (by omega) ?_);refine ad ⟨rfl,rfl,rfl,?_⟩;refine an rfl rfl ?_;refine cb (M:=M) bG ja rfl rfl rfl hv (ao _ _) (by omega) (fun u46 x_ fu Zj=>?_);rw[show((k:Int)-1).toNat=k-1 from by omega]at fu;obtain rfl:=aQ (il.symm.trans fu);refine ad ⟨rfl,rfl,rfl,?_⟩;refine an rfl rfl ?_;refine b7 (M:=M) (A:=RT.fd) bA rfl ja (by decide) rfl rfl rfl Zj (ao _ _) (fun v47 Zk=>?_);obtain rfl:v47=kv x:=iS Zk;refine ad ⟨rfl,rfl,rfl,?_⟩;refine an rfl rfl ?_;refine b7 (M:=M) (A:=RT.fd) bA rfl ja (by decide) rfl rfl rfl gy (ao _ _) (fun v48 Zl=>?_);obtain rfl:v48=kv t:=iS Zl;refine ad ⟨rfl,rfl,rfl,?_⟩;refine an rfl rfl (Rg.Zf (p:=x) (q:=t) bA (by kernel_rfl) (by kernel_rfl) (by decide) (by decide) rfl rfl aA aA rfl rfl rfl ?_);refine ad ⟨rfl,rfl,rfl,?_⟩;refine aP rfl rfl rfl ?_;refine ad ⟨rfl,rfl,rfl,?_⟩;refine dr ?_;refine bK rfl (fun c4=>?_) (fun c4=>?_)
     ·refine ak (aj (ae rfl rfl (ah rfl rfl (ad (aM ?_)))));exact aS rfl rfl ⟨by rw[rf rM (c4▸il)];exact hv,S⟩
     ·refine aU (ak (aj (ah rfl rfl (ad (ak (aj (ae rfl rfl (ae rfl rfl (ae rfl rfl ?_)))))))));refine Rg.pJ (M:=M) bG ja rfl rfl rfl hv (by omega) (fun Zm uM=>?_);rw[aB]at uM;refine ch (M:=M) (base:=w0.heap.size) (xs:=[]) bG ja rfl rfl rfl rfl (dw _ _ _ _ _) uM (ao _ _) (by simp;omega) (by simp;omega) S.size (fun v7 M7 w7 ho s7=>?_);replace s7:=s7.b9 (N':=aD) (fun b hb=>by unfold iH at hb;cases hb) (fun b h=>h.elim);replace hv:=hv.le s7.le;replace gy:=gy.le (by decide) s7.le;replace hM:=s7.lt hM;have:=S.size;replace S:=S.aw s7;refine ah rfl rfl (ad (ak (aj (ae rfl rfl ?_))));refine b7 (M:=M7) (A:=RT.fd) bA rfl ja (by decide) rfl rfl rfl gy (ao _ _) (fun v81 Hg=>?_);refine dQ (A:=RT.fd) (hn:=by decide) (M:=M7) bG ja (by decide) rfl rfl hM (Hg) (.inl rfl) (fun Sh Si jF nU=>?_);replace hv:=hv.le nU.le;replace gy:=gy.le (by decide) nU.le;replace ho:=ho.a7 nU;replace hM:=nU.lt hM;have:=S.size;replace S:=S.aw nU;refine ch (M:=M7) (base:=w0.heap.size) bG ja rfl rfl rfl rfl ho jF (ao _ _) (by simp;omega) (by simp;omega) (S.size) (fun Sj Av Sk Aw nV=>?_);replace hv:=hv.le nV.le;replace gy:=gy.le (by decide) nV.le;replace jF:=jF.le nV.le;replace hM:=nV.lt hM;have:=S.size;replace S:=S.cF nV ho (a8 _);replace ho:=Aw;refine ah rfl rfl (ad (ak (aj (ae rfl rfl (ae rfl rfl (ae rfl rfl ?_))))));refine Rg.pK (M:=Av) bG ja rfl rfl rfl hv (by omega) (fun TW sk=>?_);rw[aB]at sk;refine ch (M:=Av) (base:=w0.heap.size) bG ja rfl rfl rfl rfl ho sk (ao _ _) (by simp;omega) (by simp;omega) (S.size) (fun EO Ic Ie tD iW=>?_);replace hv:=hv.le iW.le;replace gy:=gy.le (by decide) iW.le
      replace jF:=jF.le iW.le;replace hM:=iW.lt hM;have:=S.size;replace S:=S.cF iW ho (a8 _);replace ho:=tD;refine ah rfl rfl (ad (aM ?_));rw[eu,fv,List.singleton_append]at ho;rw[←gM GY (by first|exact oh rM (by omega) il c2 c4|exact fun x hx=>by rw[show k=0 by omega]at hx;cases hx)]at ho;exact aS rfl rfl ⟨ig (hn:=by decide) fR S ho (by rw[gM GY (by first|exact oh rM (by omega) il c2 c4|exact fun x hx=>by rw[show k=0 by omega]at hx;cases hx)];simp;omega),S.back⟩
    ·refine aq rfl rfl rfl rfl ?_;refine ad ⟨rfl,rfl,rfl,?_⟩;refine aq rfl rfl rfl rfl ?_;refine ad ⟨rfl,rfl,rfl,?_⟩;refine aq rfl rfl rfl rfl ?_;refine ad ⟨rfl,rfl,rfl,?_⟩;refine aq rfl rfl rfl rfl ?_;refine ad ⟨rfl,rfl,rfl,?_⟩;refine aq rfl rfl rfl rfl ?_;refine ad ⟨rfl,rfl,rfl,?_⟩;refine aq rfl rfl rfl rfl ?_;refine ad ⟨rfl,rfl,rfl,?_⟩;refine aq rfl rfl rfl rfl ?_;refine ad ⟨rfl,rfl,rfl,?_⟩;refine aE rfl rfl rfl ?_;refine ad ⟨rfl,rfl,rfl,?_⟩;refine dr (iV rfl (aU (ak (aj (ah rfl rfl (ad (ak (aj (ae rfl rfl (ae rfl rfl (ae rfl rfl ?_)))))))))));refine Rg.pJ (M:=M) bG ja rfl rfl rfl hv (by omega) (fun Zm uM=>?_);rw[aB]at uM;refine ch (M:=M) (base:=w0.heap.size) (xs:=[]) bG ja rfl rfl rfl rfl (dw _ _ _ _ _) uM (ao _ _) (by simp;omega) (by simp;omega) S.size (fun v7 M7 w7 ho s7=>?_);replace s7:=s7.b9 (N':=aD) (fun b hb=>by unfold iH at hb;cases hb) (fun b h=>h.elim);replace hv:=hv.le s7.le;replace gy:=gy.le (by decide) s7.le;replace hM:=s7.lt hM;have:=S.size;replace S:=S.aw s7;refine ah rfl rfl (ad (ak (aj (ae rfl rfl ?_))));refine b7 (M:=M7) (A:=RT.fd) bA rfl ja (by decide) rfl rfl rfl gy (ao _ _) (fun v81 Hg=>?_);refine dQ (A:=RT.fd) (hn:=by decide) (M:=M7) bG ja (by decide) rfl rfl hM (Hg) (.inl rfl) (fun Sh Si jF nU=>?_);replace hv:=hv.le nU.le;replace gy:=gy.le (by decide) nU.le;replace ho:=ho.a7 nU;replace hM:=nU.lt hM;have:=S.size;replace S:=S.aw nU;refine ch (M:=M7) (base:=w0.heap.size) bG ja rfl rfl rfl rfl ho jF (ao _ _) (by simp;omega) (by simp;omega) (S.size) (fun Sj Av Sk Aw nV=>?_);replace hv:=hv.le nV.le;replace gy:=gy.le (by decide) nV.le;replace jF:=jF.le nV.le;replace hM:=nV.lt hM
     have:=S.size;replace S:=S.cF nV ho (a8 _);replace ho:=Aw;refine ah rfl rfl (ad (ak (aj (ae rfl rfl (ae rfl rfl (ae rfl rfl ?_))))));refine Rg.pK (M:=Av) bG ja rfl rfl rfl hv (by omega) (fun TW sk=>?_);rw[aB]at sk;refine ch (M:=Av) (base:=w0.heap.size) bG ja rfl rfl rfl rfl ho sk (ao _ _) (by simp;omega) (by simp;omega) (S.size) (fun EO Ic Ie tD iW=>?_);replace hv:=hv.le iW.le;replace gy:=gy.le (by decide) iW.le;replace jF:=jF.le iW.le;replace hM:=iW.lt hM;have:=S.size;replace S:=S.cF iW ho (a8 _);replace ho:=tD;refine ah rfl rfl (ad (aM ?_));rw[eu,fv,List.singleton_append]at ho;rw[←gM GY (by first|exact oh rM (by omega) il c2 c4|exact fun x hx=>by rw[show k=0 by omega]at hx;cases hx)]at ho;exact aS rfl rfl ⟨ig (hn:=by decide) fR S ho (by rw[gM GY (by first|exact oh rM (by omega) il c2 c4|exact fun x hx=>by rw[show k=0 by omega]at hx;cases hx)];simp;omega),S.back⟩
  ·refine aq rfl rfl rfl rfl ?_;refine ad ⟨rfl,rfl,rfl,?_⟩;refine aq rfl rfl rfl rfl ?_;refine ad ⟨rfl,rfl,rfl,?_⟩;refine aq rfl rfl rfl rfl ?_;refine ad ⟨rfl,rfl,rfl,?_⟩;refine aq rfl rfl rfl rfl ?_;refine ad ⟨rfl,rfl,rfl,?_⟩;refine aq rfl rfl rfl rfl ?_;refine ad ⟨rfl,rfl,rfl,?_⟩;refine aq rfl rfl rfl rfl ?_;refine ad ⟨rfl,rfl,rfl,?_⟩;refine dr ?_
   try (obtain⟨bb,oo,cs,ee,fr,rfl,kf,_⟩:=NL.float)
   refine⟨eV ⟨fy,⟨fy,⟨(by first|exact bJ.Sf rfl|exact bJ.bin rfl rfl),⟨bJ.idx,⟨(by first|exact dS rfl kf (fun h=>h)|exact bJ.Kv rfl),trivial⟩⟩⟩⟩⟩,?_⟩;have kp:=fY aD YE;refine aq rfl rfl rfl rfl ?_;refine(fun(kp:dO _ _ _)=>ad ⟨rfl,rfl,fun _=>kp,?_⟩) (by first|exact kp|exact kp.nZ (by assumption)|exact kp.goN (by assumption)|exact kp.go (by assumption) (fun _ _ h=>by first|exact h|exact h.elim));refine aq rfl rfl rfl rfl ?_;refine ad ⟨rfl,rfl,fun h=>absurd rfl h,?_⟩;refine aq rfl rfl rfl rfl ?_;refine ad ⟨rfl,rfl,fun h=>absurd rfl h,?_⟩;refine aE rfl rfl rfl ?_;refine ad ⟨rfl,rfl,fun h=>absurd rfl h,?_⟩;refine jJ (iV rfl (cK (ak (ak ?_))));apply jK mixed rfl rfl;intro TA Mo;have sh:=Mo M;replace hv:=hv.le sh.le;replace gy:=gy.le (by decide) sh.le;replace hM:=sh.lt hM;have:=S.size;replace S:=S.aw sh;refine ae rfl rfl ?_;refine ad ⟨rfl,rfl,rfl,?_⟩;refine lF rfl rfl rfl ?_;refine ad ⟨rfl,rfl,rfl,?_⟩;refine ae rfl rfl ?_;refine ad ⟨rfl,rfl,rfl,?_⟩;refine aL (g:=26) rfl (fun oA=>?_) (fun oA=>?_)
   ·omega
   ·refine aq rfl rfl rfl rfl ?_;refine ad ⟨rfl,rfl,rfl,?_⟩;refine aq rfl rfl rfl rfl ?_;refine ad ⟨rfl,rfl,rfl,?_⟩;refine aq rfl rfl rfl rfl ?_;refine ad ⟨rfl,rfl,rfl,?_⟩;refine aq rfl rfl rfl rfl ?_;refine ad ⟨rfl,rfl,rfl,?_⟩;refine aq rfl rfl rfl rfl ?_;refine ad ⟨rfl,rfl,rfl,?_⟩;refine aq rfl rfl rfl rfl ?_;refine ad ⟨rfl,rfl,rfl,?_⟩;refine aq rfl rfl rfl rfl ?_;refine ad ⟨rfl,rfl,rfl,?_⟩;refine aE rfl rfl rfl ?_;refine ad ⟨rfl,rfl,rfl,?_⟩;refine dr (iV rfl (aU (ak (aj (ah rfl rfl (ad (ak (aj (ae rfl rfl (ae rfl rfl (ae rfl rfl ?_)))))))))));refine Rg.pJ (M:=M) bG ja rfl rfl rfl hv (by omega) (fun Zm uM=>?_);rw[aB]at uM;refine ch (M:=M) (base:=w0.heap.size) (xs:=[]) bG ja rfl rfl rfl rfl (dw _ _ _ _ _) uM (ao _ _) (by simp;omega) (by simp;omega) S.size (fun v7 M7 w7 ho s7=>?_);replace s7:=s7.b9 (N':=aD) (fun b hb=>by unfold iH at hb;cases hb) (fun b h=>h.elim);replace hv:=hv.le s7.le;replace gy:=gy.le (by decide) s7.le;replace hM:=s7.lt hM;have:=S.size;replace S:=S.aw s7;refine ah rfl rfl (ad (ak (aj (ae rfl rfl ?_))));refine b7 (M:=M7) (A:=RT.fd) bA rfl ja (by decide) rfl rfl rfl gy (ao _ _) (fun v81 Hg=>?_);refine dQ (A:=RT.fd) (hn:=by decide) (M:=M7) bG ja (by decide) rfl rfl hM (Hg) (.inl rfl) (fun Sh Si jF nU=>?_);replace hv:=hv.le nU.le;replace gy:=gy.le (by decide) nU.le;replace ho:=ho.a7 nU;replace hM:=nU.lt hM;have:=S.size;replace S:=S.aw nU;refine ch (M:=M7) (base:=w0.heap.size) bG ja rfl rfl rfl rfl ho jF (ao _ _) (by simp;omega) (by simp;omega) (S.size) (fun Sj Av Sk Aw nV=>?_);replace hv:=hv.le nV.le;replace gy:=gy.le (by decide) nV.le;replace jF:=jF.le nV.le;replace hM:=nV.lt hM;have:=S.size
    replace S:=S.cF nV ho (a8 _);replace ho:=Aw;refine ah rfl rfl (ad (ak (aj (ae rfl rfl (ae rfl rfl (ae rfl rfl ?_))))));refine Rg.pK (M:=Av) bG ja rfl rfl rfl hv (by omega) (fun TW sk=>?_);rw[aB]at sk;refine ch (M:=Av) (base:=w0.heap.size) bG ja rfl rfl rfl rfl ho sk (ao _ _) (by simp;omega) (by simp;omega) (S.size) (fun EO Ic Ie tD iW=>?_);replace hv:=hv.le iW.le;replace gy:=gy.le (by decide) iW.le;replace jF:=jF.le iW.le;replace hM:=iW.lt hM;have:=S.size;replace S:=S.cF iW ho (a8 _);replace ho:=tD;refine ah rfl rfl (ad (aM ?_));rw[eu,fv,List.singleton_append]at ho;rw[←gM GY (by first|exact oh rM (by omega) il c2 c4|exact fun x hx=>by rw[show k=0 by omega]at hx;cases hx)]at ho;exact aS rfl rfl ⟨ig (hn:=by decide) fR S ho (by rw[gM GY (by first|exact oh rM (by omega) il c2 c4|exact fun x hx=>by rw[show k=0 by omega]at hx;cases hx)];simp;omega),S.back⟩
end Go.K
namespace Go.K
open Go.Proofs
namespace TKPutB
theorem NA:Enters Tryz.prog 148:=enters Tryz.func148 rfl (by decide)
theorem Zn:Enters Tryz.prog 181:=enters Tryz.func181 rfl (by decide)
end TKPutB
open TKPutB
set_option maxRecDepth 10000
theorem rR {M:aI} {d:Dc} {v0:Value} (w0:World) (hM:Lt M w0) (hd:RT.dc.V M w0 d v0) (hf:gz d) (hlen:∀f∈d.2,f.1.length≤900000∧f.2.length≤900000):
  Spec Tryz.prog 133 #[v0] w0 (fun v w=>(RT.fd.sl).V M w (bV (bP d.2)) v∧Step M w0 M w aD):=by
 have fR:=hM;have hdl:d.2.length≤1000000:=by have:=hf.few;omega
 refine bh (args:=[_]) (fn:=Tryz.f133) Tryz.func133 rfl (n:=42) Tryz.ntmps133 ?_;have S:Step M w0 M w0 aD:=(ar _ _).b9 (fun _ h=>h.elim) (fun _ h=>h.elim);refine ak (aj ?_);refine gp (A:=RT.dc) (a:=d) rfl rfl hM hd rfl (fun u1 w1 lE s0 _=>?_);replace hd:=hd.le s0.le;replace hM:=s0.lt hM;have:=S.size;replace S:=S.aw s0;refine ah rfl rfl (ad (ak (aj (ah rfl rfl (ad (ak (ak (aj (ah rfl rfl (ad (aW ?_)))))))))));refine cX (σ:=Nat×Value) (fun q=>[(1,u1),(3,q.2),(4,.int .i64 (q.1:Int))]) (fun q w=>Step M w0 M w aD∧cf RT.dc M w u1 d∧(RT.fd.sl).V M w (allBy dp ((bP (d.2.take q.1)).map (·.1))) q.2∧q.1≤d.2.length) (fun q=>d.2.length-q.1) (0,.slice none 0 0) (.cons rfl (.cons rfl (.cons rfl .nil))) ?_ ?_
 ·exact⟨S,lE,j5,bC _⟩
 ·clear S lE hM;rintro⟨i,u⟩ w ⟨S,lE,hu,hi⟩;dsimp only at hu hi ⊢;have hM:=S.lt fR;refine ak (ak (aj (ae rfl rfl ?_)));refine ax (M:=M) (A:=RT.dc) (B:=(RT.fd).sl) aJ rfl rfl ow (by decide) xV rfl rfl (by decide) lE (ao _ _) (fun u31 Zo=>?_);refine bw (M:=M) aO rfl rfl rfl rfl rfl Zo (ao _ _) (fun v32 Zp=>?_);refine bz aO rfl Zp rfl (cj rfl rfl rfl (ad ?_));refine bK rfl (fun c3=>?_) (fun c3=>?_)
  ·refine aU (ak (aW (ak ?_)));apply T.B3 7 mixed rfl rfl rfl rfl rfl;intro Oq MG;have qY:=MG M;replace lE:=lE.le (by decide) qY.le;replace hu:=hu.le qY.le;replace hM:=qY.lt hM;have:=S.size;replace S:=S.aw qY;obtain⟨x,il⟩:∃x,d.2[i]? =some x:=⟨_,aF (by omega)⟩;refine b7 (M:=M) (A:=RT.dc) aJ rfl jW (by decide) rfl rfl rfl lE (ao _ _) (fun v50 Zq=>?_);refine ad ⟨rfl,rfl,rfl,?_⟩;refine ax (M:=M) (A:=RT.dc) (B:=(RT.fd).sl) aJ rfl rfl ow (by decide) xV rfl rfl (by decide) lE (ao _ _) (fun u51 Hb=>?_);refine ad ⟨rfl,rfl,rfl,?_⟩;refine bw (M:=M) aO rfl rfl rfl rfl rfl Hb (ao _ _) (fun v52 mI=>?_);refine ad ⟨rfl,rfl,rfl,?_⟩;refine ae rfl rfl ?_;refine ad ⟨rfl,rfl,rfl,?_⟩;refine cb (M:=M) aO gU rfl rfl rfl mI (ao _ _) (by omega) (fun u54 x_ fu G8=>?_);rw[aB]at fu;obtain rfl:=aQ (il.symm.trans fu);refine ad ⟨rfl,rfl,rfl,?_⟩;refine ax (M:=M) (A:=RT.fd) (B:=RT.str) bQ rfl rfl I9 (by decide) DY rfl rfl (by decide) G8 (ao _ _) (fun u55 NM=>?_);refine ad ⟨rfl,rfl,rfl,?_⟩;refine bw (M:=M) aA rfl rfl rfl rfl rfl NM (ao _ _) (fun v56 Zr=>?_);obtain rfl:=dB Zr;refine ad ⟨rfl,rfl,rfl,?_⟩;refine dr ?_;refine aT rfl rfl NA (rQ _ hM Zq hlen hdl) (fun r5 w5 hc=>?_);obtain⟨lC,s5⟩:=hc;rw[DO hf il]at lC;have Tq:=j2 x.2;have xz:=hlen _ (aH il);replace lE:=lE.le (by decide) s5.le;replace hu:=hu.le s5.le;replace hM:=s5.lt hM;have:=S.size;replace S:=S.aw s5;refine ah rfl rfl (ad (ak (aj (ah rfl rfl (ad (aW ?_))))));refine cX (σ:=Nat×Value) (fun q=>[(1,u1),(3,q.2),(4,.int .i64 (i:Int)),(5,r5),(6,.int .i64 (q.1:Int))]) (fun q w=>Step M w0 M w aD∧cf RT.dc M w u1 d∧(RT.fd.sl).V M w (allBy dp (lW (d.2.take i) x q.1)) q.2∧(RT.str.sl).V M w (words x.2) r5∧q.1≤(words x.2).length) (fun q=>(words x.2).length-q.1) (0,u) (.cons rfl (.cons rfl (.cons rfl (.cons rfl (.cons rfl .nil))))) ?_ ?_
   ·exact⟨S,lE,by unfold lW;simpa using hu,lC,bC _⟩
   ·clear S lE hM lC hu;rintro⟨k,u2⟩ w ⟨S,lE,hu,lC,hk⟩;dsimp only at hu hk ⊢;have hM:=S.lt fR;refine ak (ak (aj (ae rfl rfl (ae rfl rfl (bz aC rfl lC rfl (cj rfl rfl rfl (ad ?_)))))));refine bK rfl (fun c7=>?_) (fun c7=>?_)
    ·refine aU (ak (aW ?_));apply T.B3 12 mixed rfl rfl rfl rfl rfl;intro Kd RX;have yf:=RX M;replace lE:=lE.le (by decide) yf.le;replace hu:=hu.le yf.le;replace lC:=lC.le yf.le;replace hM:=yf.lt hM;have:=S.size;replace S:=S.aw yf;refine ae rfl rfl ?_;refine ad ⟨rfl,rfl,rfl,?_⟩;obtain⟨y,mY⟩:∃y,(words x.2)[k]? =some y:=⟨_,aF (by omega)⟩;refine ax (M:=M) (A:=RT.dc) (B:=(RT.fd).sl) aJ rfl rfl ow (by decide) xV rfl rfl (by decide) lE (ao _ _) (fun u91 Zs=>?_);refine ad ⟨rfl,rfl,rfl,?_⟩;refine bw (M:=M) aO rfl rfl rfl rfl rfl Zs (ao _ _) (fun v92 Zt=>?_);refine ad ⟨rfl,rfl,rfl,?_⟩;refine ae rfl rfl ?_;refine ad ⟨rfl,rfl,rfl,?_⟩;refine cb (M:=M) aO gU rfl rfl rfl Zt (ao _ _) (by omega) (fun u94 x_ fu Zu=>?_);rw[aB]at fu;obtain rfl:=aQ (il.symm.trans fu);refine ad ⟨rfl,rfl,rfl,?_⟩;refine ax (M:=M) (A:=RT.fd) (B:=RT.str) bQ rfl rfl I9 (by decide) DY rfl rfl (by decide) Zu (ao _ _) (fun u95 NN=>?_);refine ad ⟨rfl,rfl,rfl,?_⟩;refine bw (M:=M) aA rfl rfl rfl rfl rfl NN (ao _ _) (fun v96 NO=>?_);obtain rfl:=dB NO;refine ad ⟨rfl,rfl,rfl,?_⟩;refine ae rfl rfl ?_;refine ad ⟨rfl,rfl,rfl,?_⟩;refine ae rfl rfl ?_;refine ad ⟨rfl,rfl,rfl,?_⟩;refine cb (M:=M) aC I9 rfl rfl rfl lC (ao _ _) (by omega) (fun u99 x_ fu Zv=>?_);rw[aB]at fu;obtain rfl:=aQ (mY.symm.trans fu);refine ad ⟨rfl,rfl,rfl,?_⟩;refine bw (M:=M) aA rfl rfl rfl rfl rfl Zv (ao _ _) (fun agU Sm=>?_);obtain rfl:=dB Sm;refine ad ⟨rfl,rfl,rfl,?_⟩;refine eM (places:=[(0,1),(1,1)]) bA ja UH rfl ⟨_,_,rfl,rfl,_,_,rfl,rfl,rfl⟩ (out:=[_,_]) ⟨0,[_],rfl,rfl,by simp[Value.cells],1,[_],rfl,rfl,by simp[Value.cells],rfl⟩ ?_
     refine ad ⟨rfl,rfl,rfl,?_⟩;refine dr ?_;obtain⟨kO,TC⟩:=CC hf il k;obtain⟨rM,xx,hle⟩:=He kO;obtain⟨_,hn1,hn2⟩:=(CC hf il (k+1)).1 (x.1,y) (by rw[xp mY];simp);have htv:RT.fd.V M Kd (x.1,y) (kv (x.1,y)):=dR (iM.2 ⟨rfl,by dsimp only at hn1;omega⟩) (iM.2 ⟨rfl,by dsimp only at hn2;omega⟩) rfl rfl rfl rfl;refine aT rfl rfl Zn (ym (t:=(x.1,y)) _ hM hu htv rM xx ⟨by omega,by omega⟩ (by omega)) (fun r9 w9 hc=>?_);obtain⟨Sn,s9⟩:=hc;rw[←ud,←xp mY]at Sn;replace lE:=lE.le (by decide) s9.le;replace hu:=hu.le s9.le;replace lC:=lC.le s9.le;replace hM:=s9.lt hM;have:=S.size;replace S:=S.aw s9;refine ah rfl rfl (ad (aj (ae rfl rfl (bE rfl rfl rfl (by omega) (ah rfl rfl (ad ?_))))));refine⟨rfl,(k+1,r9),(.cons rfl (.cons rfl (.cons rfl (.cons rfl (.cons rfl .nil))))),?_,?_⟩
     ·exact⟨S,lE,Sn,lC,by dsimp only;omega⟩
     ·dsimp only;omega
    ·refine cK (aj (ae rfl rfl (bE rfl rfl rfl (by omega) (ah rfl rfl (ad ?_)))));refine⟨rfl,(i+1,u2),(.cons rfl (.cons rfl (.cons rfl .nil))),?_,?_⟩
     ·exact⟨S,lE,by dsimp only;rw[←xo il,←show k=(words x.2).length by omega];exact hu,by dsimp only;omega⟩
     ·dsimp only;omega
  ·refine cK (ak (aj (ae rfl rfl (ah rfl rfl (ad (aM ?_))))));rw[aK (by omega)]at hu;exact aS rfl rfl ⟨hu,S⟩
end Go.K
namespace Go.K
open Go.Proofs
namespace TKPutC
theorem Zw:Enters Tryz.prog 182:=enters Tryz.func182 rfl (by decide)
end TKPutC
open TKPutC
set_option maxRecDepth 10000
theorem Hh (l:List (List UInt8)):yy (allBy id l)∧(allBy id l).length≤l.length∧∀k,k∈allBy id l↔k∈l:=by
 have h1:=my (key:=id) (S:=fun _=>True) (fun a b _ _ h=>h) l [] (fun _ _=>trivial) (fun _ _=>trivial) List.Pairwise.nil
 have hm:∀t,t∈allBy id l↔t∈l:=fun t=>by
  have:=h1.2 t;unfold allBy;simpa using this
 have hu:yy (allBy id l):=h1.1;exact⟨hu,hu.nodup.length_le_of_subset (fun t ht=>(hm t).1 ht),hm⟩
theorem Ax {M:aI} {l:List (List UInt8)} {k:List UInt8} {v0:Value} (w0:World) (hM:Lt M w0) (hv:(RT.str.sl).V M w0 l v0) (hl:l.length≤1000000000):
  Spec Tryz.prog 182 #[v0,sv k] w0 (fun v w=>(∃i:Nat,v= .tuple #[.int .i64 (i:Int),.bool (decide (l[i]? =some k))]∧i≤l.length∧(∀x∈l.take i,x<k)∧∀x,l[i]? =some x→¬x<k)∧Step M w0 M w aD):=by
 have fR:=hM;refine bh (args:=[_,_]) (fn:=Tryz.f182) Tryz.func182 rfl (n:=28) Tryz.ntmps182 ?_;have S:Step M w0 M w0 aD:=(ar _ _).b9 (fun _ h=>h.elim) (fun _ h=>h.elim);refine ak (aj (ah rfl rfl (ah rfl rfl (ad (ak (ak (aj (ah rfl rfl (ad (aW ?_))))))))));refine cX (σ:=Nat) (fun i=>[(0,v0),(1,sv k),(6,.int .i64 (i:Int))]) (fun i w=>Step M w0 M w aD∧(RT.str.sl).V M w l v0∧i≤l.length∧∀x∈l.take i,x<k) (fun i=>l.length-i) 0 (.cons rfl (.cons rfl (.cons rfl .nil))) ?_ ?_
 ·exact⟨S,hv,bC _,fun x h=>by simp at h⟩
 ·clear S hv hM;rintro i w ⟨S,hv,hi,Km⟩;have hM:=S.lt fR;refine ak (ak (aj (ae rfl rfl (ae rfl rfl (bz aC rfl hv rfl (cj rfl rfl rfl (ad ?_)))))));refine bK rfl (fun c2=>?_) (fun c2=>?_)
  ·refine aU (ak (aW (ak (aj (ae rfl rfl (ae rfl rfl ?_))))));obtain⟨x,il⟩:∃x,l[i]? =some x:=⟨_,aF (by omega)⟩;refine cb (M:=M) aC I9 rfl rfl rfl hv (ao _ _) (by omega) (fun u42 x_ fu Zx=>?_);rw[aB]at fu;obtain rfl:=aQ (il.symm.trans fu);refine bw (M:=M) aA rfl rfl rfl rfl rfl Zx (ao _ _) (fun v43 Zy=>?_);obtain rfl:=dB Zy;refine ae rfl rfl (Rg.FK rfl rfl rfl (ad ?_));refine bK rfl (fun c4=>?_) (fun c4=>?_)
   ·refine ak ?_;apply jK mixed rfl rfl;intro Oq MG;have qY:=MG M;replace hv:=hv.le qY.le;replace hM:=qY.lt hM;have:=S.size;replace S:=S.aw qY;refine ae rfl rfl ?_;refine ad ⟨rfl,rfl,rfl,?_⟩;refine ae rfl rfl ?_;refine ad ⟨rfl,rfl,rfl,?_⟩;refine ae rfl rfl ?_;refine ad ⟨rfl,rfl,rfl,?_⟩;refine cb (M:=M) aC I9 rfl rfl rfl hv (ao _ _) (by omega) (fun TP x_ fu vV=>?_);rw[aB]at fu;obtain rfl:=aQ (il.symm.trans fu);refine ad ⟨rfl,rfl,rfl,?_⟩;refine bw (M:=M) aA rfl rfl rfl rfl rfl vV (ao _ _) (fun v54 Hi=>?_);obtain rfl:=dB Hi;refine ad ⟨rfl,rfl,rfl,?_⟩;refine ae rfl rfl ?_;refine ad ⟨rfl,rfl,rfl,?_⟩;refine Rg.rn rfl rfl rfl ?_;refine ad ⟨rfl,rfl,rfl,?_⟩;refine ah rfl rfl ?_;refine ad ⟨rfl,rfl,rfl,?_⟩;refine ah rfl rfl ?_;refine ad ⟨rfl,rfl,rfl,?_⟩;refine dr (aM ?_);exact eA rfl rfl rfl ⟨⟨i,by rw[il];first|rfl|simp,by omega,Km,fun z hz=>by rw[il]at hz;cases hz;exact c4⟩,S⟩
   ·refine aU (aj (ae rfl rfl (bE rfl rfl rfl (by omega) (ah rfl rfl (ad ?_)))));refine⟨rfl,i+1,(.cons rfl (.cons rfl (.cons rfl .nil))),?_,?_⟩
    ·exact⟨S,hv,by omega,fun z hz=>by
      rw[bc,il,bY]at hz;rcases cY.1 hz with hz|hz
      ·exact Km z hz
      ·rw[cD.1 hz];exact b5.1 c4⟩
    ·omega
  ·refine cK (ak (aj (ae rfl rfl (bz aC rfl hv rfl (ah rfl rfl (ah rfl rfl (ad (aM ?_))))))));exact eA rfl rfl rfl ⟨⟨l.length,by rw[ij (a8 _)];rfl,a8 _,by rw[aK (by omega)]at Km;rwa [aK (a8 _)],fun z hz=>by rw[ij (a8 _)]at hz;cases hz⟩,S⟩
theorem DP {M:aI} {l:List (List UInt8)} {k:List UInt8} {v0:Value} (w0:World) (hM:Lt M w0) (hv:(RT.str.sl).V M w0 l v0) (rM:yy l) (hk:k.length≤140737488355328) (hl:l.length≤1000000000):
  Spec Tryz.prog 134 #[v0,sv k] w0 (fun v w=>(RT.str.sl).V M w (hG id k l) v∧Step M w0 M w aD):=by
 have fR:=hM;refine bh (args:=[_,_]) (fn:=Tryz.f134) Tryz.func134 rfl (n:=30) Tryz.ntmps134 ?_;have S:Step M w0 M w0 aD:=(ar _ _).b9 (fun _ h=>h.elim) (fun _ h=>h.elim);refine ak (aj (ah rfl rfl (ad (ak (aj (ae rfl rfl (ae rfl rfl ?_)))))));refine aT rfl rfl Zw (Ax _ hM hv hl) (fun r1 w1 hc=>?_);obtain⟨⟨i,rfl,hi,Km,GY⟩,s1⟩:=hc;replace hv:=hv.le s1.le;replace hM:=s1.lt hM;have:=S.size;replace S:=S.aw s1;refine ae rfl rfl (bR rfl rfl rfl (bR rfl rfl rfl (ah rfl rfl (ah rfl rfl (ad (ak (ak (aj (ae rfl rfl (ad ?_))))))))));refine bK rfl (fun c2=>?_) (fun c2=>?_)
 ·refine ak (aj (ae rfl rfl (ah rfl rfl (ad (aM ?_)))));exact aS rfl rfl ⟨by rw[rf (key:=id) rM c2];exact hv,S⟩
 ·refine aU (ak (aj (ah rfl rfl (ad (ak (aj (ae rfl rfl (ae rfl rfl (ae rfl rfl ?_)))))))));refine Rg.pJ (M:=M) aC I9 rfl rfl rfl hv (by omega) (fun TP vV=>?_);rw[aB]at vV;refine ch (M:=M) (base:=w0.heap.size) (xs:=[]) aC I9 rfl rfl rfl rfl (dw _ _ _ _ _) vV (ao _ _) (by simp;omega) (by simp;omega) S.size (fun v5 M5 w5 ho s5=>?_);replace s5:=s5.b9 (N':=aD) (fun b hb=>by unfold iH at hb;cases hb) (fun b h=>h.elim);replace hv:=hv.le s5.le;replace hM:=s5.lt hM;have:=S.size;replace S:=S.aw s5;refine ah rfl rfl (ad (ak (aj (ae rfl rfl (ae rfl rfl ?_)))));refine dQ (A:=RT.str) (hn:=by decide) (M:=M5) aC I9 (by decide) rfl rfl hM (iM.2 ⟨rfl,hk⟩) (.inr ⟨rfl,rfl⟩) (fun Ik agW qh Jk=>?_);replace hv:=hv.le Jk.le;replace ho:=ho.a7 Jk;replace hM:=Jk.lt hM;have:=S.size;replace S:=S.aw Jk;refine ch (M:=M5) (base:=w0.heap.size) aC I9 rfl rfl rfl rfl ho qh (ao _ _) (by simp;omega) (by simp;omega) (S.size) (fun agX Sq PZ Sr vG=>?_);replace hv:=hv.le vG.le;replace qh:=qh.le vG.le;replace hM:=vG.lt hM;have:=S.size;replace S:=S.cF vG ho (a8 _);replace ho:=Sr;refine ah rfl rfl (ad (ak (aj (ae rfl rfl (ae rfl rfl (ae rfl rfl ?_))))));refine Rg.pK (M:=Sq) aC I9 rfl rfl rfl hv (by omega) (fun Zm uM=>?_);rw[aB]at uM;refine ch (M:=Sq) (base:=w0.heap.size) aC I9 rfl rfl rfl rfl ho uM (ao _ _) (by simp;omega) (by simp;omega) (S.size) (fun V2 agY agZ Ss Jl=>?_);replace hv:=hv.le Jl.le;replace qh:=qh.le Jl.le;replace hM:=Jl.lt hM;have:=S.size;replace S:=S.cF Jl ho (a8 _);replace ho:=Ss;refine ah rfl rfl (ad (aM ?_))
  have e:hG id k l=l.take i++k::l.drop i:=gM (key:=id) (fun x hx=>by
   have h9:∀y,l[i]? =some y→k<y:=fun y hy=>by
    rcases jY k y with h|h|h
    ·exact h
    ·subst h;exact absurd hy c2
    ·exact absurd h (GY y hy)
   obtain⟨j,hj,rfl⟩:=List.mem_iff_getElem.1 hx;rw[cP]at hj;rw[List.getElem_drop];have h8:=h9 l[i] (aF (by omega))
   cases j with
   |zero=>exact h8
   |succ j=>exact jq h8 (List.pairwise_iff_getElem.1 rM i (i+(j+1)) (by omega) (by omega) (by omega))) (fun x hx=>⟨gL (Km x hx),fun h=>by subst h;exact gx _ (Km _ hx)⟩)
  rw[eu,fv,List.singleton_append,←e]at ho;exact aS rfl rfl ⟨ig (hn:=by decide) fR S ho (by rw[e];simp;omega),S.back⟩
end Go.K
namespace Go.K
open Go.Proofs
namespace TKPutD
theorem Sg:Enters Tryz.prog 94:=enters Tryz.func94 rfl (by decide)
theorem Zz:Enters Tryz.prog 104:=enters Tryz.func104 rfl (by decide)
theorem St:Enters Tryz.prog 133:=enters Tryz.func133 rfl (by decide)
theorem ZA:Enters Tryz.prog 134:=enters Tryz.func134 rfl (by decide)
end TKPutD
open TKPutD
set_option maxRecDepth 10000
def oV (L:List En) (e:En) (k:Nat):List (List UInt8):=fU L++((bV (k7 e)).take k).map dp
theorem BS {L:List En} {e:En} {i:Nat} (h:L[i]? =some e):oV (L.take i) e (bV (k7 e)).length=fU (L.take (i+1)):=by
 unfold oV;rw[bc,h,bY,ug,qx]
theorem BT {L:List En} {e:En} {k:Nat} {t:Fd} (h:(bV (k7 e))[k]? =some t):oV L e (k+1)=oV L e k++[dp t]:=by
 unfold oV;rw[bc,h,bY,dF,fv];rfl
theorem ql {d:Dc} (hf:gz d):(∀t∈bV (bP d.2),t.1.length≤12∧t.2.length≤30)∧(bV (bP d.2)).length≤500:=by
 refine⟨fun t ht=>?_,?_⟩
 ·obtain⟨p,hp,rfl⟩:=cq.1 ((gV hf.Dv).1 ht);exact hf.small p hp
 ·have:=(nN hf.Dv).nodup.length_le_of_subset (l₂:=(bP d.2).map (·.1)) (fun t ht=>(gV hf.Dv).1 ht);rw[cx]at this;have:=hf.many;omega
theorem DQ {L:List En} (hF:∀e∈L,gz e.1) {e:En} {i k:Nat} (h:L[i]? =some e) (hl:L.length≤1000000):(oV (L.take i) e k).length≤500000500:=by
 have h1:=j3 (L:=L.take i) (fun x hx=>hF x (lg hx));have h2:=(ql (hF e (aH h))).2;unfold oV;rw[bO,cx,bF];rw[bF]at h1;have h3:(bV (k7 e)).length≤500:=h2;omega
theorem Hj (t:Fd):(dp t).length=t.1.length+1+t.2.length:=by unfold dp;simp;omega
theorem BU {M:aI} {L:List En} {v0:Value} (w0:World) (hM:Lt M w0) (hv:(RT.en.sl).V M w0 L v0) (hF:∀e∈L,gz e.1) (hlen:∀e∈L,∀f∈e.1.2,f.1.length≤900000∧f.2.length≤900000) (hl:L.length≤1000000):
  Spec Tryz.prog 86 #[v0] w0 (fun v w=>(RT.str.sl).V M w (keysOf L) v∧Step M w0 M w aD):=by
 have fR:=hM;refine bh (args:=[_]) (fn:=Tryz.f86) Tryz.func86 rfl (n:=33) Tryz.ntmps86 ?_;have S:Step M w0 M w0 aD:=(ar _ _).b9 (fun _ h=>h.elim) (fun _ h=>h.elim);refine ak (aj (ah rfl rfl (ad (ak (aj (ah rfl rfl (ad (ak (ak (aj (ah rfl rfl ?_)))))))))));refine ad (aW ?_);refine cX (σ:=Nat×Value) (fun q=>[(0,v0),(3,q.2),(4,.int .i64 (q.1:Int))]) (fun q w=>Step M w0 M w aD∧(RT.en.sl).V M w L v0∧(RT.str.sl).V M w (allBy id (fU (L.take q.1))) q.2∧q.1≤L.length) (fun q=>L.length-q.1) (0,.slice none 0 0) (.cons rfl (.cons rfl (.cons rfl .nil))) ?_ ?_
 ·exact⟨S,hv,j5,bC _⟩
 ·clear S hv hM;rintro⟨i,u⟩ w ⟨S,hv,hu,hi⟩;dsimp only at hu hi ⊢;have hM:=S.lt fR;refine ak (ak (aj (ae rfl rfl (ae rfl rfl (bz cZ rfl hv rfl (cj rfl rfl rfl (ad ?_)))))));refine bK rfl (fun c3=>?_) (fun c3=>?_)
  ·refine aU (ak (aW (ak (aj (ae rfl rfl (ae rfl rfl ?_))))));obtain⟨e,il⟩:∃x,L[i]? =some x:=⟨_,aF (by omega)⟩;have NP:=hF e (aH il);have hle:=hlen e (aH il);obtain⟨Er,htn⟩:=ql NP;refine cb (M:=M) cZ vD rfl rfl rfl hv (ao _ _) (by omega) (fun u52 x_ fu NQ=>?_);rw[aB]at fu;obtain rfl:=aQ (il.symm.trans fu);refine ax (M:=M) (A:=RT.en) (B:=RT.dc) cA rfl rfl jW (by decide) Il rfl rfl (by decide) NQ (ao _ _) (fun TP vV=>?_);refine b7 (M:=M) (A:=RT.dc) aJ rfl jW (by decide) rfl rfl rfl vV (ao _ _) (fun v54 Hi=>?_);refine aT rfl rfl St (rR _ hM Hi NP hle) (fun r5 w5 hc=>?_);obtain⟨lC,s5⟩:=hc;replace hv:=hv.le s5.le;replace hu:=hu.le s5.le;replace hM:=s5.lt hM;have:=S.size;replace S:=S.aw s5;refine ah rfl rfl (ad (ak (aj (ah rfl rfl (ad (aW ?_))))));refine cX (σ:=Nat×Value) (fun q=>[(0,v0),(3,q.2),(4,.int .i64 (i:Int)),(5,r5),(6,.int .i64 (q.1:Int))]) (fun q w=>Step M w0 M w aD∧(RT.en.sl).V M w L v0∧(RT.str.sl).V M w (allBy id (oV (L.take i) e q.1)) q.2∧(RT.fd.sl).V M w (bV (bP e.1.2)) r5∧q.1≤(bV (bP e.1.2)).length) (fun q=>(bV (bP e.1.2)).length-q.1) (0,u) (.cons rfl (.cons rfl (.cons rfl (.cons rfl (.cons rfl .nil))))) ?_ ?_
   ·exact⟨S,hv,by unfold oV;simpa using hu,lC,bC _⟩
   ·clear S hv hM lC hu;rintro⟨k,u2⟩ w ⟨S,hv,hu,lC,hk⟩;dsimp only at hu hk ⊢;have hM:=S.lt fR;refine ak (ak (aj (ae rfl rfl (ae rfl rfl (bz bG rfl lC rfl (cj rfl rfl rfl (ad ?_)))))));refine bK rfl (fun c7=>?_) (fun c7=>?_)
    ·refine aU (ak (aW (aj (ae rfl rfl (ae rfl rfl (ae rfl rfl ?_))))));obtain⟨t,Jm⟩:∃x,(bV (bP e.1.2))[k]? =some x:=⟨_,aF (by omega)⟩;obtain⟨Oj,E1⟩:=Er t (aH Jm);refine cb (M:=M) bG ja rfl rfl rfl lC (ao _ _) (by omega) (fun TW x_ fu sk=>?_);rw[aB]at fu;obtain rfl:=aQ (Jm.symm.trans fu);refine b7 (M:=M) (A:=RT.fd) bA rfl ja (by decide) rfl rfl rfl sk (ao _ _) (fun v94 NR=>?_);obtain rfl:v94=kv t:=iS NR;refine aT rfl rfl Sg (od (t:=t) _ hM (by omega) (by omega)) (fun r95 w95 hc=>?_);obtain⟨rfl,Su⟩:=hc;replace hv:=hv.le Su.le;replace hu:=hu.le Su.le;replace lC:=lC.le Su.le;replace hM:=Su.lt hM;have:=S.size;replace S:=S.aw Su;obtain⟨rM,yv,_⟩:=Hh (oV (L.take i) e k);have OD:=DQ (k:=k) hF il hl;refine aT rfl rfl ZA (DP (k:=dp t) _ hM hu rM (by rw[Hj];omega) (by omega)) (fun r9 w9 hc=>?_);obtain⟨Sn,s9⟩:=hc;rw[←ud,←BT Jm]at Sn;replace hv:=hv.le s9.le;replace hu:=hu.le s9.le;replace lC:=lC.le s9.le;replace hM:=s9.lt hM;have:=S.size;replace S:=S.aw s9;refine ah rfl rfl (ad (aj (ae rfl rfl (bE rfl rfl rfl (by omega) (ah rfl rfl (ad ?_))))));refine⟨rfl,(k+1,r9),(.cons rfl (.cons rfl (.cons rfl (.cons rfl (.cons rfl .nil))))),?_,?_⟩
     ·exact⟨S,hv,Sn,lC,by dsimp only;omega⟩
     ·dsimp only;omega
    ·refine cK (aj (ae rfl rfl (bE rfl rfl rfl (by omega) (ah rfl rfl (ad ?_)))));refine⟨rfl,(i+1,u2),(.cons rfl (.cons rfl (.cons rfl .nil))),?_,?_⟩
     ·exact⟨S,hv,by dsimp only;rw[←BS il,show(bV (k7 e)).length=k from ei (show k=(bV (bP e.1.2)).length by omega)];exact hu,by dsimp only;omega⟩
     ·dsimp only;omega
  ·refine cK (ak (aj (ae rfl rfl (ah rfl rfl (ad (aM ?_))))));rw[aK (by omega)]at hu;exact aS rfl rfl ⟨hu,S⟩
def D3 (L:List En) (key:List UInt8) (i:Nat) (e:En) (k:Nat):List Po:=x8 key 0 (L.take i)++((((bV (k7 e)).take k).filter fun t=>decide (dp t=key)).map fun t=>((i:Int),posOf (k7 e) t))
theorem Hk {L:List En} {key:List UInt8} {i:Nat} {e:En} (h:L[i]? =some e):D3 L key i e (bV (k7 e)).length=x8 key 0 (L.take (i+1)):=by
 have hi:=(av.1 h).1;unfold D3;rw[bc,h,bY,ue,qx,bF,Nat.min_eq_left (Nat.le_of_lt hi),Nat.zero_add];rfl
theorem Jn {L:List En} {key:List UInt8} {i:Nat} {e:En} {k:Nat} {t:Fd} (h:(bV (k7 e))[k]? =some t) (hk:dp t=key):D3 L key i e (k+1)=D3 L key i e k++[((i:Int),posOf (k7 e) t)]:=by
 unfold D3;rw[bc,h,bY,List.filter_append,nX (by simpa using hk),List.filter_nil,dF,fv];rfl
theorem Hl {L:List En} {key:List UInt8} {i:Nat} {e:En} {k:Nat} {t:Fd} (h:(bV (k7 e))[k]? =some t) (hk: ¬dp t=key):D3 L key i e (k+1)=D3 L key i e k:=by
 unfold D3;rw[bc,h,bY,List.filter_append,List.filter_cons_of_neg (by simpa using hk),List.filter_nil,jT]
theorem CD {L:List En} {key:List UInt8} {i:Nat} {e:En} {k:Nat} (hF:∀e∈L,gz e.1) (h:L[i]? =some e):(D3 L key i e k).length≤L.length+500:=by
 have h1:=(nP key (L.take i) 0 (fun e he=>hF e (lg he))).1;have h2:(bV (k7 e)).length≤500:=(ql (hF e (aH h))).2;have h3:=List.length_filter_le (fun t=>decide (dp t=key)) ((bV (k7 e)).take k);unfold D3;rw[bO,cx];rw[bF]at h1 h3;omega
theorem BV {M:aI} {L:List En} {key:List UInt8} {v0:Value} (w0:World) (hM:Lt M w0) (hv:(RT.en.sl).V M w0 L v0) (hF:∀e∈L,gz e.1) (hlen:∀e∈L,∀f∈e.1.2,f.1.length≤900000∧f.2.length≤900000) (hl:L.length≤1000000):
  Spec Tryz.prog 87 #[v0,sv key] w0 (fun v w=>(RT.po.sl).V M w (pk L key) v∧Step M w0 M w aD):=by
 have fR:=hM;refine bh (args:=[_,_]) (fn:=Tryz.f87) Tryz.func87 rfl (n:=50) Tryz.ntmps87 ?_;have S:Step M w0 M w0 aD:=(ar _ _).b9 (fun _ h=>h.elim) (fun _ h=>h.elim);refine ak (aj (ah rfl rfl (ad (ak (aj (ah rfl rfl (ad (ak (ak (aj (ah rfl rfl ?_)))))))))));refine ad (aW ?_);refine cX (σ:=Nat×Value) (fun q=>[(0,v0),(1,sv key),(5,q.2),(6,.int .i64 (q.1:Int))]) (fun q w=>∃M',Lt M' w∧Step M w0 M' w aD∧(RT.en.sl).V M' w L v0∧Own RT.po 153 M' w w0.heap.size q.2 (x8 key 0 (L.take q.1))∧q.1≤L.length) (fun q=>L.length-q.1) (0,.slice none 0 0) (.cons rfl (.cons rfl (.cons rfl (.cons rfl .nil)))) ?_ ?_
 ·exact⟨M,hM,S,hv,dw _ _ _ _ _,bC _⟩
 ·clear S hv hM;rintro⟨i,u⟩ w ⟨M1,hM,S,hv,ho,hi⟩;dsimp only at ho hi ⊢;refine ak (ak (aj (ae rfl rfl (ae rfl rfl (bz cZ rfl hv rfl (cj rfl rfl rfl (ad ?_)))))));refine bK rfl (fun c3=>?_) (fun c3=>?_)
  ·refine aU (ak (aW (ak (aj (ae rfl rfl (ae rfl rfl ?_))))));obtain⟨e,il⟩:∃x,L[i]? =some x:=⟨_,aF (by omega)⟩;have NP:=hF e (aH il);have hle:=hlen e (aH il);obtain⟨Er,htn⟩:=ql NP;refine cb (M:=M1) cZ vD rfl rfl rfl hv (ao _ _) (by omega) (fun u52 x_ fu NQ=>?_);rw[aB]at fu;obtain rfl:=aQ (il.symm.trans fu);refine ax (M:=M1) (A:=RT.en) (B:=RT.dc) cA rfl rfl jW (by decide) Il rfl rfl (by decide) NQ (ao _ _) (fun TP vV=>?_);refine b7 (M:=M1) (A:=RT.dc) aJ rfl jW (by decide) rfl rfl rfl vV (ao _ _) (fun v54 Hi=>?_);refine aT rfl rfl St (rR _ hM Hi NP hle) (fun r5 w5 hc=>?_);obtain⟨lC,s5⟩:=hc;replace hv:=hv.le s5.le;replace ho:=ho.a7 s5;replace hM:=s5.lt hM;have:=S.size;replace S:=S.aw s5;refine ah rfl rfl (ad (ak (aj (ah rfl rfl (ad (aW ?_))))));refine cX (σ:=Nat×Value) (fun q=>[(0,v0),(1,sv key),(5,q.2),(6,.int .i64 (i:Int)),(7,r5),(8,.int .i64 (q.1:Int))]) (fun q w=>∃M',Lt M' w∧Step M w0 M' w aD∧(RT.en.sl).V M' w L v0∧Own RT.po 153 M' w w0.heap.size q.2 (D3 L key i e q.1)∧(RT.fd.sl).V M' w (bV (bP e.1.2)) r5∧q.1≤(bV (bP e.1.2)).length) (fun q=>(bV (bP e.1.2)).length-q.1) (0,u) (.cons rfl (.cons rfl (.cons rfl (.cons rfl (.cons rfl (.cons rfl .nil)))))) ?_ ?_
   ·exact⟨_,hM,S,hv,by unfold D3;simpa using ho,lC,bC _⟩
   ·clear S hv hM lC ho;rintro⟨k,u2⟩ w ⟨M2,hM,S,hv,ho,lC,hk⟩;dsimp only at ho hk ⊢;refine ak (ak (aj (ae rfl rfl (ae rfl rfl (bz bG rfl lC rfl (cj rfl rfl rfl (ad ?_)))))));refine bK rfl (fun c7=>?_) (fun c7=>?_)
    ·refine aU (ak (aW (ak (aj (ae rfl rfl (ae rfl rfl ?_))))));obtain⟨t,Jm⟩:∃x,(bV (bP e.1.2))[k]? =some x:=⟨_,aF (by omega)⟩;obtain⟨Oj,E1⟩:=Er t (aH Jm);refine cb (M:=M2) bG ja rfl rfl rfl lC (ao _ _) (by omega) (fun u92 x_ fu ZB=>?_);rw[aB]at fu;obtain rfl:=aQ (Jm.symm.trans fu);refine b7 (M:=M2) (A:=RT.fd) bA rfl ja (by decide) rfl rfl rfl ZB (ao _ _) (fun v93 ZC=>?_);obtain rfl:v93=kv t:=iS ZC;refine aT rfl rfl Sg (od (t:=t) _ hM (by omega) (by omega)) (fun r94 w94 hc=>?_);obtain⟨rfl,Sv⟩:=hc;replace hv:=hv.le Sv.le;replace lC:=lC.le Sv.le;replace ho:=ho.a7 Sv;replace hM:=Sv.lt hM;have:=S.size;replace S:=S.aw Sv;refine ae rfl rfl (Rg.rn rfl rfl rfl (ad ?_));refine bK rfl (fun c9=>?_) (fun c9=>?_)
     ·subst c9;apply vq 11 [0,1] 3 aD mixed rfl rfl rfl rfl;intro ZD ZE;have Hm:=ZE M2;replace hv:=hv.le Hm.le;replace lC:=lC.le Hm.le;replace ho:=ho.a7 Hm;replace hM:=Hm.lt hM;have:=S.size;replace S:=S.aw Hm;refine ae rfl rfl ?_;refine ad ⟨rfl,rfl,rfl,?_⟩;refine ae rfl rfl ?_;refine ad ⟨rfl,rfl,rfl,?_⟩;refine ae rfl rfl ?_;refine ad ⟨rfl,rfl,rfl,?_⟩;refine ae rfl rfl ?_;refine ad ⟨rfl,rfl,rfl,?_⟩;refine cb (M:=M2) cZ vD rfl rfl rfl hv (ao _ _) (by omega) (fun ag2 x_ fu Sw=>?_);rw[aB]at fu;obtain rfl:=aQ (il.symm.trans fu);refine ad ⟨rfl,rfl,rfl,?_⟩;refine ax (M:=M2) (A:=RT.en) (B:=RT.dc) cA rfl rfl jW (by decide) Il rfl rfl (by decide) Sw (ao _ _) (fun ag3 Sx=>?_);refine ad ⟨rfl,rfl,rfl,?_⟩;refine b7 (M:=M2) (A:=RT.dc) aJ rfl jW (by decide) rfl rfl rfl Sx (ao _ _) (fun ag4 Sy=>?_);refine ad ⟨rfl,rfl,rfl,?_⟩;refine ae rfl rfl ?_;refine ad ⟨rfl,rfl,rfl,?_⟩;refine ae rfl rfl ?_;refine ad ⟨rfl,rfl,rfl,?_⟩;refine cb (M:=M2) bG ja rfl rfl rfl lC (ao _ _) (by omega) (fun ag5 x_ fu Sz=>?_);rw[aB]at fu;obtain rfl:=aQ (Jm.symm.trans fu);refine ad ⟨rfl,rfl,rfl,?_⟩;refine b7 (M:=M2) (A:=RT.fd) bA rfl ja (by decide) rfl rfl rfl Sz (ao _ _) (fun acH NS=>?_);refine ad ⟨rfl,rfl,rfl,?_⟩;refine dr ?_;refine⟨eV ⟨fy,⟨fy,trivial⟩⟩,?_⟩;have kp:=fY aD ZD;refine aT rfl rfl Zz (Ar (t:=t) _ hM Sy hle (by have:=NP.few;omega) NS) (fun VY VZ hc=>?_);obtain⟨BW,p8⟩:=hc;rw[Hf NP.once]at BW;obtain⟨ap,cp,rfl,ZF⟩:=gO.1 BW;clear ZF;replace hv:=hv.le p8.le;replace lC:=lC.le p8.le;replace ho:=ho.a7 p8;replace hM:=p8.lt hM;have:=S.size;replace S:=S.aw p8;refine(fun(kp:dO _ _ _)=>ad ⟨rfl,rfl,fun _=>kp,?_⟩) (by first|exact kp|exact kp.nZ (by assumption)|exact kp.goN (by assumption)|exact kp.go (by assumption) (fun _ _ h=>by first|exact h|exact h.elim))
      refine eM (places:=[(0,1),(1,1)]) bm eN EH rfl ⟨_,_,rfl,rfl,_,_,rfl,rfl,rfl⟩ (out:=[_,_]) ⟨0,[_],rfl,rfl,by simp[Value.cells],1,[_],rfl,rfl,by simp[Value.cells],rfl⟩ ?_;refine(fun(kp:dO _ _ _)=>ad ⟨rfl,rfl,fun _=>kp,?_⟩) (by first|exact kp|exact kp.nZ (by assumption)|exact kp.goN (by assumption)|exact kp.go (by assumption) (fun _ _ h=>by first|exact h|exact h.elim));refine dQ (A:=RT.po) (hn:=by decide) (M:=M2) aR eN (by decide) rfl rfl hM (dR (fO (x:=(i:Int)) (by omega)) BW rfl rfl rfl rfl) (.inl rfl) (fun ZG ZH yn rh=>?_);replace hv:=hv.le rh.le;replace lC:=lC.le rh.le;replace BW:=BW.le rh.le;replace ho:=ho.a7 rh;replace hM:=rh.lt hM;have:=S.size;replace S:=S.aw rh;refine(fun(kp:dO _ _ _)=>ad ⟨rfl,rfl,fun _=>kp,?_⟩) (by first|exact kp|exact kp.nZ (by assumption)|exact kp.goN (by assumption)|exact kp.go (by assumption) (fun _ _ h=>by first|exact h|exact h.elim));refine ch (M:=M2) (base:=w0.heap.size) aR eN rfl rfl rfl rfl ho yn (ao _ _) (by have:=CD (key:=dp t) (k:=k) hF il;simp;omega) (by have:=CD (key:=dp t) (k:=k) hF il;simp;omega) (S.size) (fun NT ZI ZJ Jo ri=>?_);replace hv:=hv.le ri.le;replace lC:=lC.le ri.le;replace BW:=BW.le ri.le;replace yn:=yn.le ri.le;replace hM:=ri.lt hM;have:=S.size;replace S:=S.cF ri ho (a8 _);replace ho:=Jo;refine ad ⟨rfl,rfl,fun h=>absurd rfl h,?_⟩;refine ah rfl rfl ?_;refine ad ⟨rfl,rfl,fun h=>absurd rfl h,?_⟩;refine jJ (aj (ae rfl rfl (bE rfl rfl rfl (by omega) (ah rfl rfl (ad ?_)))));refine⟨rfl,(k+1,NT),(.cons rfl (.cons rfl (.cons rfl (.cons rfl (.cons rfl (.cons rfl .nil)))))),?_,?_⟩
      ·exact⟨_,hM,S,hv,by dsimp only;rw[Jn Jm rfl];exact ho,lC,by dsimp only;omega⟩
      ·dsimp only;omega
     ·refine aU (aj (ae rfl rfl (bE rfl rfl rfl (by omega) (ah rfl rfl (ad ?_)))));refine⟨rfl,(k+1,u2),(.cons rfl (.cons rfl (.cons rfl (.cons rfl (.cons rfl (.cons rfl .nil)))))),?_,?_⟩
      ·exact⟨_,hM,S,hv,by dsimp only;rw[Hl Jm c9];exact ho,lC,by dsimp only;omega⟩
      ·dsimp only;omega
    ·refine cK (aj (ae rfl rfl (bE rfl rfl rfl (by omega) (ah rfl rfl (ad ?_)))));refine⟨rfl,(i+1,u2),(.cons rfl (.cons rfl (.cons rfl (.cons rfl .nil)))),?_,?_⟩
     ·exact⟨_,hM,S,hv,by dsimp only;rw[←Hk il,show(bV (k7 e)).length=k from ei (show k=(bV (bP e.1.2)).length by omega)];exact ho,by dsimp only;omega⟩
     ·dsimp only;omega
  ·refine cK (ak (aj (ae rfl rfl (ah rfl rfl (ad (aM ?_))))));rw[aK (by omega)]at ho;exact aS rfl rfl ⟨ig (hn:=by decide) fR S ho (by show(x8 key 0 L).length≤_;have:=(nP key L 0 hF).1;omega),S.back⟩
end Go.K
namespace Go.K
open Go.Proofs
namespace TKSegL
theorem si:TI Tryz.prog 56 (.slice none 0 0) 1 24:=by unfold TI;kernel_rfl
theorem jQ:TI Tryz.prog 107 (.slice none 0 0) 1 24:=by unfold TI;kernel_rfl
theorem TN:Enters Tryz.prog 51:=enters Tryz.func51 rfl (by decide)
theorem E84:Enters Tryz.prog 84:=enters Tryz.func84 rfl (by decide)
theorem E85:Enters Tryz.prog 85:=enters Tryz.func85 rfl (by decide)
end TKSegL
open TKSegL
set_option maxRecDepth 10000
def vX (p q:Pa):Bool:=decide (p.1=q.1)&&decide (p.2.1=q.2.1)&&decide (p.2.2.1=q.2.2.1)&&decide (p.2.2.2=q.2.2.2)
theorem uN {p q:Pa}:vX p q=true↔p=q:=by
 simp only[vX,bU,decide_eq_true_eq];exact⟨fun h=>la h.1.1.1 (la h.1.1.2 (la h.1.2 h.2)),fun h=>by subst h;exact⟨⟨⟨rfl,rfl⟩,rfl⟩,rfl⟩⟩
theorem dI {p q:Pa} (h:p≠q):vX p q=false:=ef.2 fun e=>h (uN.1 e)
theorem Ay {M:aI} {p q:Pa} {v u:Value} (w0:World) (hM:Lt M w0) (hp:RT.pa.V M w0 p v) (hq:RT.pa.V M w0 q u):
  Spec Tryz.prog 30 #[v,u] w0 (fun v' w'=>v'= .bool (vX p q)∧Step M w0 M w' aD):=by
 have fR:=hM;refine bh (args:=[_,_]) (fn:=Tryz.f30) Tryz.func30 rfl (n:=64) Tryz.ntmps30 ?_;have S:Step M w0 M w0 aD:=(ar _ _).b9 (fun _ h=>h.elim) (fun _ h=>h.elim);refine ak (aj ?_);refine gp (A:=RT.pa) (a:=p) rfl rfl hM hp rfl (fun u2 wb0 jB Jh _=>?_);replace hp:=hp.le Jh.le;replace hq:=hq.le Jh.le;replace hM:=Jh.lt hM;have:=S.size;replace S:=S.aw Jh;refine gp (A:=RT.pa) (a:=q) rfl rfl hM hq rfl (fun u3 wb1 gy Ji _=>?_);replace hq:=hq.le Ji.le;replace jB:=jB.le (by decide) Ji.le;replace hM:=Ji.lt hM;have:=S.size;replace S:=S.aw Ji;refine ah rfl rfl (ad (ak (aj ?_)));refine ax (M:=M) (A:=RT.pa) (B:=((RT.int .i64).sl)) b8 rfl rfl jE (by decide) Ty rfl rfl (by decide) jB (ao _ _) (fun u10 Dh=>?_);refine bw (M:=M) au rfl rfl rfl rfl rfl Dh (ao _ _) (fun v11 ZK=>?_);refine ax (M:=M) (A:=RT.pa) (B:=((RT.int .i64).sl)) b8 rfl rfl jE (by decide) Ty rfl rfl (by decide) gy (ao _ _) (fun u12 NG=>?_);refine bw (M:=M) au rfl rfl rfl rfl rfl NG (ao _ _) (fun Oo NU=>?_);refine aT rfl rfl TN (ra hM ZK NU) (fun r1 wr1 hc=>?_);obtain⟨rfl,TX⟩:=hc;replace jB:=jB.le (by decide) TX.le;replace gy:=gy.le (by decide) TX.le;replace hM:=TX.lt hM;have:=S.size;replace S:=S.aw TX;refine ah rfl rfl (ad (ak (aj ?_)));refine ax (M:=M) (A:=RT.pa) (B:=((RT.int .i64).sl)) b8 rfl rfl jE (by decide) Qz rfl rfl (by decide) jB (ao _ _) (fun u20 ZL=>?_);refine bw (M:=M) au rfl rfl rfl rfl rfl ZL (ao _ _) (fun v21 ZM=>?_);refine ax (M:=M) (A:=RT.pa) (B:=((RT.int .i64).sl)) b8 rfl rfl jE (by decide) Qz rfl rfl (by decide) gy (ao _ _) (fun u22 ZN=>?_);refine bw (M:=M) au rfl rfl rfl rfl rfl ZN (ao _ _) (fun v23 NK=>?_);refine aT rfl rfl TN (ra hM ZM NK) (fun r2 wr2 hc=>?_)
 obtain⟨rfl,TY⟩:=hc;replace jB:=jB.le (by decide) TY.le;replace gy:=gy.le (by decide) TY.le;replace hM:=TY.lt hM;have:=S.size;replace S:=S.aw TY;refine ah rfl rfl (ad (ak (aj ?_)));refine ax (M:=M) (A:=RT.pa) (B:=(RT.str.sl)) b8 rfl rfl uY (by decide) Wz rfl rfl (by decide) jB (ao _ _) (fun u30 ZO=>?_);refine bw (M:=M) aC rfl rfl rfl rfl rfl ZO (ao _ _) (fun v31 ZQ=>?_);refine ax (M:=M) (A:=RT.pa) (B:=(RT.str.sl)) b8 rfl rfl uY (by decide) Wz rfl rfl (by decide) gy (ao _ _) (fun u32 ZR=>?_);refine bw (M:=M) aC rfl rfl rfl rfl rfl ZR (ao _ _) (fun v33 ZS=>?_);refine aT rfl rfl E84 (BQ _ hM ZQ ZS) (fun r3 wr3 hc=>?_);obtain⟨rfl,TZ⟩:=hc;replace jB:=jB.le (by decide) TZ.le;replace gy:=gy.le (by decide) TZ.le;replace hM:=TZ.lt hM;have:=S.size;replace S:=S.aw TZ;refine ah rfl rfl (ad (ak (ak (aj (ae rfl rfl (jx rfl rfl (bI (v':= .bool (decide (p.1≠q.1))) (by simp) (ae rfl rfl ?_))))))));refine aL (g:=27) rfl (fun oA=>?_) (fun oA=>?_)
 ·refine aq rfl rfl rfl rfl (aq rfl rfl rfl rfl (aP rfl rfl rfl (ae rfl rfl (aq rfl rfl rfl rfl (aq rfl rfl rfl rfl (aP rfl rfl rfl (ae rfl rfl (aq rfl rfl rfl rfl (aq rfl rfl rfl rfl (aq rfl rfl rfl rfl (aq rfl rfl rfl rfl ?_)))))))))));refine aq rfl rfl rfl rfl (aq rfl rfl rfl rfl (aq rfl rfl rfl rfl (aP rfl rfl rfl (ad (jH rfl (ak (aj (ah rfl rfl (ad (aM ?_))))))))))
  first
  |(exact aS rfl rfl ⟨congrArg Value.bool (dI (fun e=>c4 (by rw[e]))).symm,S⟩)
  |(exact aS rfl rfl ⟨congrArg Value.bool (dI (fun e=>xq (by rw[e]))).symm,S⟩)
  |(exact aS rfl rfl ⟨congrArg Value.bool (dI (fun e=>zY (by rw[e]))).symm,S⟩)
  |(exact aS rfl rfl ⟨congrArg Value.bool (dI (fun e=>oA (by rw[e]))).symm,S⟩)
 ·refine an rfl rfl (ae rfl rfl (an rfl rfl (jx rfl rfl (bI (v':= .bool (decide (p.2.1≠q.2.1))) (by simp) (aE rfl rfl rfl (ae rfl rfl ?_))))));refine aL (g:=31) rfl (fun zY=>?_) (fun zY=>?_)
  ·refine aq rfl rfl rfl rfl (aq rfl rfl rfl rfl (aP rfl rfl rfl (ae rfl rfl (aq rfl rfl rfl rfl (aq rfl rfl rfl rfl (aq rfl rfl rfl rfl (aq rfl rfl rfl rfl (aq rfl rfl rfl rfl (aq rfl rfl rfl rfl (aq rfl rfl rfl rfl (aP rfl rfl rfl ?_)))))))))));refine ad (jH rfl (ak (aj (ah rfl rfl (ad (aM ?_))))))
   first
   |(exact aS rfl rfl ⟨congrArg Value.bool (dI (fun e=>c4 (by rw[e]))).symm,S⟩)
   |(exact aS rfl rfl ⟨congrArg Value.bool (dI (fun e=>xq (by rw[e]))).symm,S⟩)
   |(exact aS rfl rfl ⟨congrArg Value.bool (dI (fun e=>zY (by rw[e]))).symm,S⟩)
   |(exact aS rfl rfl ⟨congrArg Value.bool (dI (fun e=>oA (by rw[e]))).symm,S⟩)
  ·refine an rfl rfl (ae rfl rfl (an rfl rfl (jx rfl rfl (bI (v':= .bool (decide (p.2.2.1≠q.2.2.1))) (by simp) (aE rfl rfl rfl (ae rfl rfl ?_))))));refine aL (g:=35) rfl (fun xq=>?_) (fun xq=>?_)
   ·refine aq rfl rfl rfl rfl (aq rfl rfl rfl rfl (aq rfl rfl rfl rfl (aq rfl rfl rfl rfl (aq rfl rfl rfl rfl (aq rfl rfl rfl rfl (aq rfl rfl rfl rfl (aP rfl rfl rfl (ad (jH rfl (ak (aj ?_)))))))))));refine ah rfl rfl (ad (aM ?_))
    first
    |(exact aS rfl rfl ⟨congrArg Value.bool (dI (fun e=>c4 (by rw[e]))).symm,S⟩)
    |(exact aS rfl rfl ⟨congrArg Value.bool (dI (fun e=>xq (by rw[e]))).symm,S⟩)
    |(exact aS rfl rfl ⟨congrArg Value.bool (dI (fun e=>zY (by rw[e]))).symm,S⟩)
    |(exact aS rfl rfl ⟨congrArg Value.bool (dI (fun e=>oA (by rw[e]))).symm,S⟩)
   ·refine an rfl rfl ?_;refine ax (M:=M) (A:=RT.pa) (B:=(((RT.po).sl).sl)) b8 rfl rfl si (by decide) On rfl rfl (by decide) jB (ao _ _) (fun ag8 SB=>?_);refine an rfl rfl ?_;refine bw (M:=M) bS rfl rfl rfl rfl rfl SB (ao _ _) (fun ag9 SC=>?_);refine an rfl rfl (bz bS rfl SC rfl (an rfl rfl ?_));refine ax (M:=M) (A:=RT.pa) (B:=(((RT.po).sl).sl)) b8 rfl rfl si (by decide) On rfl rfl (by decide) gy (ao _ _) (fun aha SD=>?_);refine an rfl rfl ?_;refine bw (M:=M) bS rfl rfl rfl rfl rfl SD (ao _ _) (fun ahb SE=>?_);refine an rfl rfl (bz bS rfl SE rfl (an rfl rfl (dW rfl rfl rfl (aE rfl rfl rfl (ad ?_)))));refine bK rfl (fun c4=>?_) (fun c4=>?_)
    ·refine ak (aj (ah rfl rfl (ad (aM ?_))))
     first
     |(exact aS rfl rfl ⟨congrArg Value.bool (dI (fun e=>c4 (by rw[e]))).symm,S⟩)
     |(exact aS rfl rfl ⟨congrArg Value.bool (dI (fun e=>xq (by rw[e]))).symm,S⟩)
     |(exact aS rfl rfl ⟨congrArg Value.bool (dI (fun e=>zY (by rw[e]))).symm,S⟩)
     |(exact aS rfl rfl ⟨congrArg Value.bool (dI (fun e=>oA (by rw[e]))).symm,S⟩)
    ·have hlen:p.2.2.2.length=q.2.2.2.length:=by omega
     refine aU (ak (ak (aj (ah rfl rfl (ad (aW ?_))))));refine cX (σ:=Nat) (fun k=>[(2,u2),(3,u3),(8,.int .i64 (k:Int))]) (fun k w=>Step M w0 M w aD∧cf RT.pa M w u2 p∧cf RT.pa M w u3 q∧k≤p.2.2.2.length∧p.2.2.2.take k=q.2.2.2.take k) (fun k=>p.2.2.2.length-k) 0 (.cons rfl (.cons rfl (.cons rfl .nil))) ?_ ?_
     ·exact⟨S,jB,gy,bC _,rfl⟩
     ·clear S jB gy hM;rintro k w ⟨S,jB,gy,hk,heq⟩;have hM:=S.lt fR;refine ak (ak (aj (ae rfl rfl ?_)));refine ax (M:=M) (A:=RT.pa) (B:=(((RT.po).sl).sl)) b8 rfl rfl si (by decide) On rfl rfl (by decide) jB (ao _ _) (fun u71 ZT=>?_);refine bw (M:=M) bS rfl rfl rfl rfl rfl ZT (ao _ _) (fun v72 SF=>?_);have hln:=dd SF;refine bz bS rfl SF rfl (cj rfl rfl rfl (ad ?_));refine bK rfl (fun c7=>?_) (fun c7=>?_)
      ·refine aU (ak (aW (ak ?_)));apply T.B3 10 mixed rfl rfl rfl rfl rfl;intro Kd RX;have yf:=RX M;replace jB:=jB.le (by decide) yf.le;replace gy:=gy.le (by decide) yf.le;replace hM:=yf.lt hM;have:=S.size;replace S:=S.aw yf;obtain⟨x,pD⟩:∃x,p.2.2.2[k]? =some x:=⟨_,aF (by omega)⟩;obtain⟨y,mY⟩:∃y,q.2.2.2[k]? =some y:=⟨_,aF (by omega)⟩;refine ax (M:=M) (A:=RT.pa) (B:=(((RT.po).sl).sl)) b8 rfl rfl si (by decide) On rfl rfl (by decide) jB (ao _ _) (fun u90 ZU=>?_);refine ad ⟨rfl,rfl,rfl,?_⟩;refine bw (M:=M) bS rfl rfl rfl rfl rfl ZU (ao _ _) (fun v91 ZV=>?_);refine ad ⟨rfl,rfl,rfl,?_⟩;refine ae rfl rfl ?_;refine ad ⟨rfl,rfl,rfl,?_⟩;refine cb (M:=M) bS jQ rfl rfl rfl ZV (ao _ _) (by omega) (fun TW x_ fu sk=>?_);rw[aB]at fu;obtain rfl:=aQ (pD.symm.trans fu);refine ad ⟨rfl,rfl,rfl,?_⟩;refine bw (M:=M) aR rfl rfl rfl rfl rfl sk (ao _ _) (fun v94 NR=>?_);refine ad ⟨rfl,rfl,rfl,?_⟩;refine ax (M:=M) (A:=RT.pa) (B:=(((RT.po).sl).sl)) b8 rfl rfl si (by decide) On rfl rfl (by decide) gy (ao _ _) (fun u95 NN=>?_);refine ad ⟨rfl,rfl,rfl,?_⟩;refine bw (M:=M) bS rfl rfl rfl rfl rfl NN (ao _ _) (fun v96 NO=>?_);refine ad ⟨rfl,rfl,rfl,?_⟩;refine ae rfl rfl ?_;refine ad ⟨rfl,rfl,rfl,?_⟩;refine cb (M:=M) bS jQ rfl rfl rfl NO (ao _ _) (by omega) (fun u98 x_ fu ZW=>?_);rw[aB]at fu;obtain rfl:=aQ (mY.symm.trans fu);refine ad ⟨rfl,rfl,rfl,?_⟩;refine bw (M:=M) aR rfl rfl rfl rfl rfl ZW (ao _ _) (fun v99 ZX=>?_);refine ad ⟨rfl,rfl,rfl,?_⟩;refine dr ?_;refine aT rfl rfl E85 (BF hM NR ZX) (fun r9 w9 hc=>?_);obtain⟨rfl,s9⟩:=hc;replace jB:=jB.le (by decide) s9.le
       replace gy:=gy.le (by decide) s9.le;replace hM:=s9.lt hM;have:=S.size;replace S:=S.aw s9;refine ah rfl rfl (ad (ak (aj (ae rfl rfl (jx rfl rfl (bI (v':= .bool (decide (x≠y))) (by simp) (ad ?_)))))));refine bK rfl (fun Lh=>?_) (fun Lh=>?_)
       ·refine ak (aj (ah rfl rfl (ad (aM ?_))));exact aS rfl rfl ⟨congrArg Value.bool (dI (fun e=>by subst e;rw[pD]at mY;cases mY;exact Lh rfl)).symm,S⟩
       ·refine aU (aj (ae rfl rfl (bE rfl rfl rfl (by omega) (ah rfl rfl (ad ?_)))));refine⟨rfl,k+1,(.cons rfl (.cons rfl (.cons rfl .nil))),?_,?_⟩
        ·exact⟨S,jB,gy,by omega,by rw[bc,bc,heq,pD,mY,b5.1 Lh]⟩
        ·omega
      ·refine cK (ak (aj (ah rfl rfl (ad (aM ?_)))));rw[aK (by omega),aK (by omega)]at heq;exact aS rfl rfl ⟨congrArg Value.bool (uN.2 (la (b5.1 oA) (la (b5.1 zY) (la (b5.1 xq) heq)))).symm,S⟩
end Go.K
namespace Go.K
variable {P:Program} {r:Option Nat} {n:Nat} {L:Sl} {ds:List Deferred} {w:World} {K:Kt} {ops:Array Oper} {rest:List Oper} {d:Nat} {x y:Operand} {ty:TypeId} {pos:String} {af:Array Edge} {α:Type} {A:RT α}
def ZY {α:Type} (A:RT α):Prop:=∀(M M':aI) (w w':World) (x:α) (vs:List Value),A.R M w x vs→A.R M' w' x vs
end Go.K
namespace Go.K
theorem Jp {P:Program} {L:Sl} {w:World} {fn:Func} {Q:Value→World→Prop} {c t b D:Nat} {vs:List Value} {fs:TypeDesc} {e:TypeId} {fr:Nat×Nat} {zv:Value} {size bytes:Nat} (hr:fn.results= #[.cell c t]) (hc:lk L c=some (.pointer (some ⟨b,0,none⟩))) (hu:P.underlying t=some fs) (hf:fs.isRow=true) (hi:TI P t zv size bytes) (hl:vs.length=size)
  (hD:w.heap[D]? =some (.deferred (some []))) (hb:(w.putObj D (.deferred none)).heap[b]? =some (.cells vs.toArray e fr)) (h:Q (.agg vs.toArray) (w.putObj D (.deferred none))):yQ P fn Q .ret L [mark D] w:=
 ⟨_,qI hD,fun a ha=>⟨_,by
  obtain⟨i,wg,_,yq,_⟩:=hi.get;have Ez:(w.putObj D (.deferred none)).rangeAt b 0 vs:=fun j v hj=>gQ hb (by simpa using hj)
  have:=run_loadVar_mid (P:=P) (w.putObj D (.deferred none)) b 0 t vs fs Ez hu hf (by simp[wg,yq,hl]);simp[results,hr,ha _ _ hc,asAddr,this,cr],h⟩⟩
theorem Hn {α:Type} {A:RT α} {hn:0<A.n} (hA:ZY A) {M:aI} {w:World} {xs:List α} {v:Value} {b:Nat} {cs:Array Value} {e:TypeId} {fr:Nat×Nat} (hb:w.heap[b]? =some (.cells cs e fr)) (eE:∀M w x vs,A.R M w x vs→∃c r,vs=c::r∧∀j:Nat,cs[j]? ≠some c) (h:(A.sl hn).V M w xs v):(A.sl hn).V (ins M b) w xs v:=by
 obtain⟨a,cap,h1,h2,h3,hs⟩:=gO.1 h;refine gO.2 ⟨a,cap,h1,h2,h3,?_⟩;rcases hs with hs|⟨b',o,ha,hm,he⟩
 ·exact .inl hs
 ·cases xs with
  |nil=>exact .inl rfl
  |cons x xs=>
   refine .inr ⟨b',o,ha,?_,fun i y hy=>by obtain⟨vs,h4,h5⟩:=he i y hy;exact⟨vs,hA _ _ _ _ _ _ h4,h5⟩⟩;rintro(rfl|rU)
   ·obtain⟨vs,h4,h5⟩:=he 0 x rfl;obtain⟨c,r,rfl,hc⟩:=eE _ _ _ _ h4;have:=h5 0 c rfl;simp[World.cell?,hb]at this;exact hc _ this
   ·exact hm rU
theorem Rg.Ho {P:Program} {r:Option Nat} {n:Nat} {L:Sl} {ds:List Deferred} {w:World} {K:Kt} {ops:Array Oper} {rest:List Oper} {d:Nat} {x y:Operand} {ty:TypeId} {pos:String} {af:Array Edge} {t t' e:TypeId} {o p:Option Addr} (hn:o=none∨p=none) (ht:P.underlying t=some (.pointer e)) (hx:ev L x=some (.pointer o)) (hy:ev L y=some (.pointer p)) (hd:Nat.blt d n=true)
  (k:Rg P r n ops rest ((d,.bool (decide (o=p)))::L) ds w K):
  Rg P r n ops ({dst:=some d,op:= .binOp .eql t x y t',type:=ty,pos,after:=af,guard:=none}::rest) L ds w K:=
 .op (fun _ h=>by cases h) rfl rfl hd _ w (fun ρ h=>by
  have UD:P.underlying t=some (.pointer (P.pointee t)):=by simp[Program.pointee,ht]
  simp only[execOp];rw[h x _ hx,h y _ hy];rcases hn with rfl|rfl
  ·have he:(Op.equal t (.pointer none) (.pointer p)).run P w= .ok (decide (none=p)) w:=by
    have hi:∀k,(Op.equalIn (k+1) t (.pointer none) (.pointer p)).run P w= .ok (decide (none=p)) w:=fun k=>by
     cases p<;>simp[Op.equalIn,run_underlying ht]
    exact hi 9999
   cases p<;>simp[eqGuard,binOp,run_underlying ht,he]
  ·have he:=run_equal_pointer_nil (P:=P) w t o UD
   cases o<;>simp[eqGuard,binOp,run_underlying ht,he]) k
end Go.K
namespace Go.K
open Go.Proofs
namespace TKSegK
theorem si:TI Tryz.prog 56 (.slice none 0 0) 1 24:=by unfold TI;kernel_rfl
theorem Ae:TI Tryz.prog 58 (.agg #[(.slice none 0 0),(.slice none 0 0),(.slice none 0 0),(.slice none 0 0)]) 4 96:=by unfold TI;kernel_rfl
theorem jQ:TI Tryz.prog 107 (.slice none 0 0) 1 24:=by unfold TI;kernel_rfl
theorem BL:TI Tryz.prog 123 (.pointer none) 1 8:=by unfold TI;kernel_rfl
theorem B58:placesOf Tryz.prog 58=[(0,1),(1,1),(2,1),(3,1)].map some:=by kernel_rfl
theorem MF:Enters Tryz.prog 63:=enters Tryz.func63 rfl (by decide)
theorem YL:Enters Tryz.prog 77:=enters Tryz.func77 rfl (by decide)
theorem YM:Enters Tryz.prog 78:=enters Tryz.func78 rfl (by decide)
theorem E79:Enters Tryz.prog 79:=enters Tryz.func79 rfl (by decide)
theorem Nr:Enters Tryz.prog 129:=enters Tryz.func129 rfl (by decide)
end TKSegK
open TKSegK
set_option maxRecDepth 10000
structure Hp {α:Type} (A:RT α) (e T:TypeId) (X:aI→World→Prop) (F:Value→Array Value) (M:aI) (w0:World) (bo bi bd D:Nat) (vd:Value) (st:Loop) (vo:Value) (xs:List α) (M':aI) (w:World):Prop where
 lt:Lt M' w
 S:Step M w0 M' w aD
 o:w.heap[bo]? =some (.cells (F vo) T (0,0))
 mo:M' bo
 r:w.heap[D+1]? =some (.loop st)
 mr:M' (D+1)
 d:w.heap[D]? =some (.deferred (some []))
 md:M' D
 own:Own A e M' w w0.heap.size vo xs
 gi:w.heap[bi]? =some (.cells #[.int .i64 0] 3 (0,0))
 gd:w.heap[bd]? =some (.cells #[vd] 123 (0,0))
 fi: ¬M' bi
 fd: ¬M' bd
 z:w0.heap.size≤bo∧w0.heap.size≤D
 k:X M' w
section
variable {α:Type} {A:RT α} {e T:TypeId} {X:aI→World→Prop} {F:Value→Array Value} {M M1 M2 N:aI} {w0 w w':World} {bo bi bd D:Nat} {vd:Value} {st:Loop} {vo:Value} {xs:List α}
theorem Hp.a7 (hX:∀{M w M' w'},X M w→Le M w M' w'→X M' w') (h:Hp A e T X F M w0 bo bi bd D vd st vo xs M1 w) (s:Step M1 w M2 w' aD):Hp A e T X F M w0 bo bi bd D vd st vo xs M2 w':=
 ⟨s.lt h.lt,h.S.aw s,s.aN h.o,(s.mem _ (al h.o)).2 h.mo,s.aN h.r,(s.mem _ (al h.r)).2 h.mr,s.aN h.d,(s.mem _ (al h.d)).2 h.md,h.own.a7 s,s.aN h.gi,s.aN h.gd,fun hn=>h.fi ((s.mem _ (al h.gi)).1 hn),fun hn=>h.fd ((s.mem _ (al h.gd)).1 hn),h.z,hX h.k s.le⟩
theorem Hp.mv {st':Loop} (hX:∀{M w M' w'},X M w→Le M w M' w'→X M' w') (h:Hp A e T X F M w0 bo bi bd D vd st vo xs M1 w):Hp A e T X F M w0 bo bi bd D vd st' vo xs M1 (w.putObj (D+1) (.loop st')):=by
 have s:Step M1 w M1 (w.putObj (D+1) (.loop st')) (fun k=>k=D+1):=dK h.mr;obtain⟨z1,z2⟩:=h.z;refine⟨s.lt h.lt,h.S.cR s (fun k (hk:k=D+1)=>by omega),s.bM h.o (fun(hn:bo=D+1)=>by have h1:=h.o;rw[hn,h.r]at h1;cases h1),h.mo,World.putObj_heap_same (al h.r),h.mr,s.bM h.d (fun(hn:D=D+1)=>by omega),h.md,h.own.step s (fun b hb (hn:b=D+1)=>?_),s.bM h.gi (fun(hn:bi=D+1)=>by have h1:=h.gi;rw[hn,h.r]at h1;cases h1),s.bM h.gd (fun(hn:bd=D+1)=>by have h1:=h.gd;rw[hn,h.r]at h1;cases h1),h.fi,h.fd,h.z,hX h.k s.le⟩;obtain⟨cs,hc⟩:=h.own.isCells hb;rw[hn,h.r]at hc;cases hc
theorem Hp.grow {GU:Value} {Kj:List α} (hX:∀{M w M' w'},X M w→Le M w M' w'→X M' w') (hT:T≠e) (h:Hp A e T X F M w0 bo bi bd D vd st vo xs M1 w) (s:Step M1 w M2 w' (iH vo)) (ho:Own A e M2 w' w0.heap.size GU Kj):
  (w'.heap[bo]? =some (.cells (F vo) T (0,0))∧M2 bo)∧∀{w2:World},Step M2 w' M2 w2 (fun k=>k=bo)→w2.heap[bo]? =some (.cells (F GU) T (0,0))→Hp A e T X F M w0 bo bi bd D vd st GU Kj M2 w2:=by
 obtain⟨z1,z2⟩:=h.z
 have BM:∀{b:Nat} {o:Obj},w.heap[b]? =some o→(∀cs fr,o≠ .cells cs e fr)→¬iH vo b:=fun {b o} hb eE hn=>by
  obtain⟨⟨C,h1,_⟩,_⟩:=h.own;rcases h1.2 with h3|⟨g,cap,cur,h3,h4,h5,_⟩
  ·unfold iH at hn;rw[h3.1]at hn;cases hn
  ·unfold iH at hn;rw[h3]at hn;cases hn;rw[hb]at h5;exact eE _ _ (aQ h5)
 have nM:∀{b:Nat},¬M1 b→¬iH vo b:=fun hb hn=>hb (h.own.mut_ _ hn)
 have fN:=s.bM h.o (BM h.o (fun cs fr hc=>by injection hc with _ h1 _;exact hT h1));have hr:=s.bM h.r (BM h.r (fun cs fr hc=>by cases hc));have hd:=s.bM h.d (BM h.d (fun cs fr hc=>by cases hc));have BG:=s.bM h.gi (nM h.fi);have qP:=s.bM h.gd (nM h.fd);have RQ: ¬M2 bi:=fun hn=>h.fi ((s.mem _ (al h.gi)).1 hn)
 have Ea: ¬M2 bd:=fun hn=>h.fd ((s.mem _ (al h.gd)).1 hn)
 have D0:=(s.mem _ (al h.o)).2 h.mo;refine⟨⟨fN,D0⟩,fun {w2} s2 hx=>⟨s2.lt (s.lt h.lt),(h.S.cF s h.own (a8 _)).cR s2 (fun k (hk:k=bo)=>by omega),hx,D0,s2.bM hr (fun(hn:D+1=bo)=>by rw[hn,fN]at hr;cases hr),(s.mem _ (al h.r)).2 h.mr,s2.bM hd (fun(hn:D=bo)=>by rw[hn,fN]at hd;cases hd),(s.mem _ (al h.d)).2 h.md,ho.step s2 (fun b hb (hn:b=bo)=>ho.ep fN hT (by rw[←hn];exact hb)),s2.bM BG (fun(hn:bi=bo)=>RQ (by rw[hn];exact D0)),s2.bM qP (fun(hn:bd=bo)=>Ea (by rw[hn];exact D0)),RQ,Ea,h.z,hX (hX h.k s.le) s2.le⟩⟩
end
theorem ZZ {α:Type} {A:RT α} {e T:TypeId} {X:aI→World→Prop} {F:Value→Array Value} (hX:∀{M w M' w'},X M w→Le M w M' w'→X M' w') {M M1:aI} {w0 w:World} {bo bi bd:Nat} {vd:Value} {st:Loop} (hk:X M1 w) (hM:Lt M1 w) (S:Step M w0 M1 w aD) (go:w.heap[bo]? =some (.cells (F (.slice none 0 0)) T (0,0))) (mo:M1 bo) (gi:w.heap[bi]? =some (.cells #[.int .i64 0] 3 (0,0))) (gd:w.heap[bd]? =some (.cells #[vd] 123 (0,0))) (fi: ¬M1 bi) (fd: ¬M1 bd) (IZ:w0.heap.size≤bo):
  ∃M',Hp A e T X F M w0 bo bi bd w.heap.size vd st (.slice none 0 0) [] M' ((w.alloc (.deferred (some []))).alloc (.loop st)):=by
 have sA:Step M1 w (ins M1 w.heap.size) (w.alloc (.deferred (some []))) aD:=(db M1 w _).own (a8 _) (by simp);have sB:Step (ins M1 w.heap.size) (w.alloc (.deferred (some []))) (ins (ins M1 w.heap.size) (w.heap.size+1)) ((w.alloc (.deferred (some []))).alloc (.loop st)) aD:=(db _ _ _).own (by simp) (by simp);have hD:(w.alloc (.deferred (some []))).heap[w.heap.size]? =some (.deferred (some [])):=cz w _;have hR:((w.alloc (.deferred (some []))).alloc (.loop st)).heap[w.heap.size+1]? =some (.loop st):=by have:=cz (w.alloc (.deferred (some []))) (.loop st);rwa [World.size_alloc]at this
 have SS:=(S.aw sA).aw sB;have hi:=al gi;have hd:=al gd;refine⟨_,sB.lt (sA.lt hM),SS,sB.aN (sA.aN go),.inr (.inr mo),hR,.inl rfl,sB.aN hD,.inr (.inl rfl),dw _ _ _ _ _,sB.aN (sA.aN gi),sB.aN (sA.aN gd),?_,?_,⟨IZ,S.size⟩,hX (hX hk sA.le) sB.le⟩
 ·rintro(h|h|h)
  ·omega
  ·omega
  ·exact fi h
 ·rintro(h|h|h)
  ·omega
  ·omega
  ·exact fd h
theorem Le.out {MQ M':aI} {wQ w:World} (h:Le MQ wQ M' w):Le (fun b=>MQ b∨wQ.heap.size≤b) w M' w:=fun b _ hm=>⟨(h b (Nat.lt_of_not_le fun hh=>hm (.inr hh)) (fun hh=>hm (.inl hh))).1,rfl⟩
theorem Le.fixed {MQ M':aI} {wQ w:World} (h:Le MQ wQ M' w):Le (fun b=>MQ b∨wQ.heap.size≤b) wQ (fun b=>MQ b∨wQ.heap.size≤b) w:=fun b hb hm=>⟨hm,(h b hb (fun hh=>hm (.inl hh))).2⟩
theorem Le.wide (MQ:aI) (wQ:World):Le MQ wQ (fun b=>MQ b∨wQ.heap.size≤b) wQ:=fun b hb hm=>⟨fun hh=>hh.elim hm (fun h=>by omega),rfl⟩
def CE (s:Se) (va vb vc:Value) (MQ:aI) (wQ:World) (M:aI) (w:World):Prop:=((RT.int .i64).sl).V M w s.1 va∧((RT.int .i64).sl).V M w s.2.1 vb∧(RT.str.sl).V M w s.2.2.1 vc∧Le MQ wQ M w
theorem CE.le {s:Se} {va vb vc:Value} {MQ:aI} {wQ:World}:∀{M:aI} {w:World} {M':aI} {w':World},CE s va vb vc MQ wQ M w→Le M w M' w'→CE s va vb vc MQ wQ M' w':=fun h l=>⟨h.1.le l,h.2.1.le l,h.2.2.1.le l,h.2.2.2.trans l⟩
theorem nW {M:aI} {s:Se} {ls:List (List Po)} {v0:Value} (w0:World) (hM:Lt M w0) (hs:cf RT.se M w0 v0 s) (hls:s.2.2.2=ls.map kP) (hdl:s.2.2.1.length=ls.length) (hn1:s.1.length≤1000000) (hn2:s.2.1.length≤1000000) (hd6:s.2.2.1.length≤1000000000) (hok:∀l∈ls,eR (-1) l=true∧(∀p∈l,p.2.length≤1099511627776)∧(dy (-1) l).length≤1099511627776∧l.length≤1099511627776):
  Spec Tryz.prog 28 #[v0] w0 (fun v w=>RT.pa.V M w (s.1,s.2.1,s.2.2.1,ls) v∧Step M w0 M w aD):=by
 have fR:=hM;refine nv (args:=[_]) (fn:=Tryz.f28) Tryz.func28 rfl (n:=37) Tryz.ntmps28 ?_;have S:Step M w0 M w0 aD:=(ar _ _).b9 (fun _ h=>h.elim) (fun _ h=>h.elim);refine ak (aj ?_);refine dL M Ae rfl (fun lz kT RN RO kI qj=>?_);obtain⟨fp,uC⟩:∃M',M'=ins M lz:=⟨_,rfl⟩;rw[←uC]at qj;have lA:fp lz:=by rw[uC];exact .inl rfl
 change kT.heap[lz]? =some (.cells #[.slice none 0 0,.slice none 0 0,.slice none 0 0,.slice none 0 0] _ _)at kI;replace hM:=qj.lt hM;have:=S.size;replace S:=S.aw qj;refine ad (ak ?_);have OF:=hM;have NV:cf RT.se fp kT v0 s:=hs.le (by decide) qj.le;apply T.OY (M:=fp) mixed [] [cH.eq _,cH.eq v0,cH.ptr (((RT.int .i64).sl)) s.1,cH.V ((RT.int .i64).sl) s.1,cH.V ((RT.int .i64).sl) s.1,cH.eq _,cH.eq v0,cH.ptr (((RT.int .i64).sl)) s.2.1,cH.V ((RT.int .i64).sl) s.2.1,cH.V ((RT.int .i64).sl) s.2.1,cH.eq _,cH.eq v0,cH.ptr ((RT.di).ptr) s.2.2,cH.V ((RT.di).ptr) s.2.2,cH.V (RT.str.sl) s.2.2.1,cH.mk' (fun v w'=>∃a b c,v= .agg [a,b,c,.slice none 0 0].toArray∧((RT.int .i64).sl).V fp w' s.1 a∧((RT.int .i64).sl).V fp w' s.2.1 b∧(RT.str.sl).V fp w' s.2.2.1 c) (fun⟨a,b,c,h1,h2,h3,h4⟩ s=>⟨a,b,c,h1,h2.le s.le,h3.le s.le,h4.le s.le⟩),cH.mk' (fun p w'=>∃bq,p= .pointer (some ⟨bq,0,none⟩)∧kT.heap.size≤bq∧w'.heap[bq]? =some (.cells #[.slice none 0 0,.slice none 0 0,.slice none 0 0,.slice none 0 0] 58 (0,0))) (fun⟨bq,h1,h2,h3⟩ s=>⟨bq,h1,h2,s.aN h3⟩)] 17
 ·rfl
 ·rfl
 ·rfl
 ·rfl
 ·rfl
 ·exact fun p hp=>by cases hp
 ·exact uV.none
 ·refine bu ?_ ?_
  ·intro wD E sD;refine ae rfl rfl ?_;exact ad ⟨rfl,rfl,_,rfl,rfl,ar _ _⟩
  refine bu ?_ ?_
  ·intro wD E sD;refine aZ (bZ rfl NV.fL rfl ?_);exact ad ⟨rfl,rfl,_,rfl,rfl,ar _ _⟩
  refine bu ?_ ?_
  ·intro wD E sD;refine aZ ?_;refine ax (M:=fp) (A:=RT.se) (B:=((RT.int .i64).sl)) gg rfl rfl jE (by decide) Wy rfl rfl (by decide) NV sD.le (fun uf nf=>?_);exact ad ⟨rfl,rfl,_,rfl,nf,ar _ _⟩
  refine bu ?_ ?_
  ·intro wD E sD;intro v2 qu;refine bw (M:=fp) au rfl rfl rfl rfl rfl (show cf (((RT.int .i64).sl)) fp wD v2 s.1 from qu) (ao _ _) (fun va oy=>?_);exact ad ⟨rfl,rfl,_,rfl,oy,ar _ _⟩
  refine bu ?_ ?_
  ·intro wD E sD;intro v3 qw;refine aT rfl rfl MF (nQ (M:=fp) (sD.lt OF) (show((RT.int .i64).sl).V fp wD s.1 v3 from qw) (by omega)) (fun r1 w1 h1=>?_);exact ad ⟨rfl,rfl,_,rfl,h1.1,h1.2⟩
  refine bu ?_ ?_
  ·intro wD E sD;refine ae rfl rfl ?_;exact ad ⟨rfl,rfl,_,rfl,rfl,ar _ _⟩
  refine bu ?_ ?_
  ·intro wD E sD;refine aZ (bZ rfl NV.fL rfl ?_);exact ad ⟨rfl,rfl,_,rfl,rfl,ar _ _⟩
  refine bu ?_ ?_
  ·intro wD E sD;refine aZ ?_;refine ax (M:=fp) (A:=RT.se) (B:=((RT.int .i64).sl)) gg rfl rfl jE (by decide) se1 rfl rfl (by decide) NV sD.le (fun uf nf=>?_);exact ad ⟨rfl,rfl,_,rfl,nf,ar _ _⟩
  refine bu ?_ ?_
  ·intro wD E sD;intro v7 sy;refine bw (M:=fp) au rfl rfl rfl rfl rfl (show cf (((RT.int .i64).sl)) fp wD v7 s.2.1 from sy) (ao _ _) (fun va oy=>?_);exact ad ⟨rfl,rfl,_,rfl,oy,ar _ _⟩
  refine bu ?_ ?_
  ·intro wD E sD;intro v8 vQ;intro v4 nk;refine aT rfl rfl MF (nQ (M:=fp) (sD.lt OF) (show((RT.int .i64).sl).V fp wD s.2.1 v8 from vQ) (by omega)) (fun r1 w1 h1=>?_);exact ad ⟨rfl,rfl,_,rfl,h1.1,h1.2⟩
  refine bu ?_ ?_
  ·intro wD E sD;refine ae rfl rfl ?_;exact ad ⟨rfl,rfl,_,rfl,rfl,ar _ _⟩
  refine bu ?_ ?_
  ·intro wD E sD;refine aZ (bZ rfl NV.fL rfl ?_);exact ad ⟨rfl,rfl,_,rfl,rfl,ar _ _⟩
  refine bu ?_ ?_
  ·intro wD E sD;refine aZ ?_;refine ax (M:=fp) (A:=RT.se) (B:=(RT.di).ptr) gg rfl rfl BL (by decide) Tx rfl rfl (by decide) NV sD.le (fun uf nf=>?_);exact ad ⟨rfl,rfl,_,rfl,nf,ar _ _⟩
  refine bu ?_ ?_
  ·intro wD E sD;intro v12 Z0;refine bw (M:=fp) eY rfl rfl rfl rfl rfl (show cf ((RT.di).ptr) fp wD v12 s.2.2 from Z0) (ao _ _) (fun va oy=>?_);exact ad ⟨rfl,rfl,_,rfl,oy,ar _ _⟩
  refine bu ?_ ?_
  ·intro wD E sD;intro Oo NU;intro v9 Az;refine aT rfl rfl YL (uE (M:=fp) _ (sD.lt OF) (rE.1 (show((RT.di).ptr).V fp wD s.2.2 Oo from NU)) (by rw[hls,cx];exact hdl) hd6) (fun r1 w1 h1=>?_);exact ad ⟨rfl,rfl,_,rfl,h1.1,h1.2⟩
  refine bu ?_ ?_
  ·intro wD E sD;intro v4 nk;intro v9 Az;intro v14 SG;refine eM (places:=[(0,1),(1,1),(2,1),(3,1)]) bL Ae B58 rfl ⟨_,_,rfl,rfl,_,_,rfl,rfl,_,_,rfl,rfl,rfl⟩ (out:=[v4,v9,v14,.slice none 0 0]) ⟨0,[_],rfl,gw nk,by simp[Value.cells],1,[_],rfl,gw Az,by simp[Value.cells],2,[_],rfl,gw SG,by simp[Value.cells],rfl⟩ ?_;exact ad ⟨rfl,rfl,_,rfl,⟨v4,v9,v14,rfl,nk,Az,SG⟩,ar _ _⟩
  refine bu ?_ ?_
  ·intro wD E sD;refine dL fp Ae rfl (fun bq wq e1 e2 e3 s=>?_);exact ad ⟨rfl,rfl,_,rfl,⟨bq,rfl,eJ sD.size e1,e3⟩,s.back⟩
  exact cg.nil
 ·intro A1 lr;refine aZ (aZ ?_);intro BI lU;intro QB FT;intro ahe acJ;refine aZ (aZ ?_);intro Ra Kb;intro YO RS;intro ahf acK;refine aZ (aZ ?_);intro acL Z1;intro acM Z2;intro acN Z3;intro acO NW;intro acP NX;obtain⟨va,vb,vc,rfl,oy,HC,SH⟩:=NW;obtain⟨bo,rfl,IZ,gq⟩:=NX;obtain⟨MP,SI⟩:∃M',M'=ins fp bo:=⟨_,rfl⟩;have sW:Step fp kT MP A1 aD:=by rw[SI];exact lr.own IZ (al gq)
  replace oy:((RT.int .i64).sl).V MP A1 s.1 va:=by rw[SI];exact Hn (fun _ _ _ _ _ _ h=>h) gq (fun M w x vs (h:vs=_∧_)=>⟨_,[],h.1,fun j hj=>by rcases j with _|_|_|_|j<;>simp at hj⟩) oy
  replace HC:((RT.int .i64).sl).V MP A1 s.2.1 vb:=by rw[SI];exact Hn (fun _ _ _ _ _ _ h=>h) gq (fun M w x vs (h:vs=_∧_)=>⟨_,[],h.1,fun j hj=>by rcases j with _|_|_|_|j<;>simp at hj⟩) HC
  replace SH:(RT.str.sl).V MP A1 s.2.2.1 vc:=by rw[SI];exact Hn (fun _ _ _ _ _ _ h=>h) gq (fun M w x vs (h:vs=_∧_)=>⟨_,[],h.1,fun j hj=>by rcases j with _|_|_|_|j<;>simp at hj⟩) SH
  have T0:MP bo:=by rw[SI];exact .inl rfl
  refine dx (M:=MP) (vs:=[va,vb,vc,.slice none 0 0]) Ae rfl rfl (by intro u hu;simp at hu;rcases hu with rfl|rfl|rfl|rfl<;>first|rfl|exact iZ (by assumption) rfl rfl) rfl rfl gq T0 (fun TL g17 HD=>?_);replace oy:=oy.le HD.le;replace HC:=HC.le HD.le;replace SH:=SH.le HD.le;replace T0:=(HD.mem _ (al gq)).2 T0;have hsQ:cf RT.se MP TL v0 s:=(NV.le (by decide) sW.le).le (by decide) HD.le;have SA:=S;clear S hM gq;have gq:=g17;have S:Step fp kT MP TL aD:=sW.cR HD (fun k (hk:k=bo)=>by omega);have hM:=S.lt OF;refine ad (ak (ak (aj (ae rfl rfl (bZ rfl hsQ.fL rfl ?_)))));refine ax (M:=MP) (A:=RT.se) (B:=(RT.di).ptr) gg rfl rfl BL (by decide) Tx rfl rfl (by decide) hsQ (ao _ _) (fun MM jd=>?_);refine bw (M:=MP) eY rfl rfl rfl rfl rfl jd (ao _ _) (fun vd RR=>?_);have hdp:=rE.1 RR;refine aT rfl rfl YM (xj (M:=MP) _ hM hdp) (fun r2 w2 hc=>?_);obtain⟨bi,bd,rfl,gi,gd,hbi,hbd,s2⟩:=hc;have fi: ¬MP bi:=fun h=>by have:=hM _ h;omega
  have fd: ¬MP bd:=fun h=>by have:=hM _ h;omega
  replace hM:=s2.lt hM;have:=S.size;replace S:=S.aw s2;refine ad (aW ?_);refine T.range (gf:=129) (lb:=[.pointer (some ⟨bi,0,none⟩),.pointer (some ⟨bd,0,none⟩)].toArray) rfl Nr (fun rec mX=>?_);obtain⟨D,hD⟩:∃D,D=w2.heap.size:=⟨_,rfl⟩;obtain⟨Mr,h0⟩:=ZZ (A:=(RT.po).sl) (e:=107) (X:=(CE s va vb vc MP w2)) (F:=(fun vo=> #[va,vb,vc,vo])) CE.le (st:=rec .ready none) ⟨oy.le s2.le,HC.le s2.le,SH.le s2.le,ao _ _⟩ hM S (s2.aN gq) ((s2.mem _ (al gq)).2 T0) gi gd fi fd IZ;rw[←hD]at mX h0 ⊢;have D4:cf RT.di (fun b=>MP b∨w2.heap.size≤b) w2 vd s.2.2:=(hdp.le (by decide) s2.le).le (by decide) (Le.wide MP w2);refine Spec.mono (uD (wv:=w2) (M:=fun b=>MP b∨w2.heap.size≤b) (J:=fun i w=>∃M' vo,Hp ((RT.po).sl) 107 58 (CE s va vb vc MP w2) (fun vo=> #[va,vb,vc,vo]) fp kT bo bi bd D vd (rec .ready none) vo (ls.take i) M' w) (Jx:=fun _=>False) _ D4 (by rw[hls,cx];exact hdl) (fun i w w' ⟨M',vo,h⟩ s=>⟨M',vo,h.a7 CE.le (s.any M')⟩) (fun i w ⟨M',vo,h⟩=>⟨h.gi,h.gd,h.k.2.2.2.fixed⟩) (fun i wr x t vt hJ hx ht hp=>?_) ⟨Mr,_,h0⟩) (fun _ w3 h3=>?_)
  ·obtain⟨M',vo,h⟩:=hJ;obtain⟨l,T1,rfl⟩:∃l,ls[i]? =some l∧kP l=t:=by rw[hls,o2]at ht;exact Option.map_eq_some_iff.1 ht
   have mM:=(av.1 T1).1;obtain⟨lT,hrp,hrb,hrl⟩:=hok l (aH T1);refine lK (ps:=[27,28]) (vs:=[sv x,vt]) mX h.r rfl (by decide) (aj (ah rfl rfl (ad ?_)));refine⟨rfl,h.r,?_⟩;have h4:=h.mv CE.le (st':=rec .busy none);have s4:Step M' wr M' (wr.putObj (D+1) (.loop (rec .busy none))) (fun k=>k=D+1):=dK h.mr;have hp4:=(hp.le (by decide) h.k.2.2.2.out).le (by decide) s4.le;generalize wr.putObj (D+1) _=w4 at h4 s4 hp4 ⊢;have hM:=h4.lt;have S:=h4.S;refine aW ?_;apply vq 3 [0,1] 2 aD mixed rfl rfl rfl rfl;intro TA Mo;have sh:=Mo (M');replace hM:=sh.lt hM;have:=S.size;replace S:=S.aw sh;replace h4:=h4.a7 CE.le sh;refine bH bL rfl rfl si (by decide) rfl rfl ?_;refine ad ⟨rfl,rfl,rfl,?_⟩;refine aX bS rfl rfl rfl h4.o rfl (bI (v':=vo) rfl ?_);refine ad ⟨rfl,rfl,rfl,?_⟩;refine ae rfl rfl ?_;refine ad ⟨rfl,rfl,rfl,?_⟩;refine dr ?_;refine⟨eV ⟨fV bL rfl si (by decide),⟨dS rfl h4.o (fun h=>h),trivial⟩⟩,?_⟩;have kp:=fY aD TA;refine aT rfl rfl E79 (GV h4.lt (hp4.le (by decide) sh.le) lT hrp hrb hrl) (fun r5 w5 hc=>?_);obtain⟨lC,s5⟩:=hc;replace h4:=h4.a7 CE.le s5;refine(fun(kp:dO _ _ _)=>ad ⟨rfl,rfl,fun _=>kp,?_⟩) (by first|exact kp|exact kp.nZ (by assumption)|exact kp.goN (by assumption)|exact kp.go (by assumption) (fun _ _ h=>by first|exact h|exact h.elim));refine dQ (A:=(RT.po).sl) (hn:=by decide) (M:=M') bS jQ (by decide) rfl rfl h4.lt lC (.inr ⟨rfl,rfl⟩) (fun u6 w6 Ij s6=>?_);have h6:=h4.a7 CE.le s6;refine(fun(kp:dO _ _ _)=>ad ⟨rfl,rfl,fun _=>kp,?_⟩) (by first|exact kp|exact kp.nZ (by assumption)|exact kp.goN (by assumption)|exact kp.go (by assumption) (fun _ _ h=>by first|exact h|exact h.elim));refine ch (M:=M') (base:=kT.heap.size) bS jQ rfl rfl rfl rfl h6.own Ij (ao _ _) (by simp;omega) (by simp;omega) h6.S.size (fun v7 M7 w7 qO s7=>?_)
   obtain⟨⟨go7,mo7⟩,DT⟩:=h6.grow CE.le (by decide) s7 qO;refine ad ⟨rfl,rfl,fun h=>absurd rfl h,?_⟩;refine bH bL rfl rfl si (by decide) rfl rfl ?_;refine ad ⟨rfl,rfl,fun h=>absurd rfl h,?_⟩;refine cu (M:=M7) si rfl rfl go7 rfl (by obtain⟨_,_,he,_⟩:=qO.isSlice;rw[he];rfl) mo7 (fun w8 g8 s8=>?_);replace g8:w8.heap[bo]? =some (.cells ((fun vo=> #[va,vb,vc,vo]) v7) 58 (0,0)):=g8;refine ad ⟨rfl,rfl,fun h=>absurd rfl h,?_⟩;refine jJ ?_;have h8:=(DT s8 g8).mv CE.le (st':=rec .ready none);exact⟨(DT s8 g8).r,true,rfl,fun _=>⟨M7,v7,by rw[bc,T1,bY];exact h8⟩,fun h=>by cases h⟩
  ·obtain⟨M',vo,h⟩:=h3.resolve_right id;left;refine⟨h.r,?_⟩;have h5:=h.mv CE.le (st':=rec .exhausted none);generalize w3.putObj (D+1) _=wE at h5 ⊢;refine ak (aj (eX (vs:=[va,vb,vc,vo]) bL rfl Ae rfl rfl rfl h5.o ?_));obtain⟨hka,hkb,hkc,_⟩:=h5.k;obtain⟨_,_,heo,_⟩:=h5.own.isSlice;have gR:=h5.S.aN kI;have mR:=(h5.S.mem _ (al kI)).2 lA;refine dx (M:=M') (vs:=[va,vb,vc,vo]) Ae rfl rfl (by intro u hu;simp at hu;rcases hu with rfl|rfl|rfl|rfl<;>first|exact iZ (by assumption) rfl rfl|(rw[heo];rfl)) rfl rfl gR mR (fun wF gF sF=>?_);refine ad (aM ?_);have hDF:=sF.bM h5.d (fun(hn:D=lz)=>by have h1:=h5.d;rw[hn,gR]at h1;cases h1);have sZ:Step M' wF M' (wF.putObj D (.deferred none)) (fun k=>k=D):=dK h5.md;have hz:=h5.z;have Jq:=SA.size;have SS:=((SA.aw h5.S).cR sF (fun k (hk:k=lz)=>by omega)).cR sZ (fun k (hk:k=D)=>by omega)
   have ho:=(h5.own.step sF (fun b hb (hn:b=lz)=>h5.own.ep gR (by decide) (hn▸hb))).step sZ (fun b hb (hn:b=D)=>by
    obtain⟨cs,hc⟩:=h5.own.isCells hb;rw[hn,h5.d]at hc;cases hc)
   rw[aK (Nat.le_of_eq hdl.symm)]at ho;have Ti:ls.length≤1000000000:=by omega
   have lc:=(sF.le.trans sZ.le).trans (Le.close fR SS);refine Jp (vs:=[va,vb,vc,vo]) rfl rfl bL rfl Ae rfl hDF (sZ.bM gF (fun(hn:lz=D)=>by rw[hn,h5.d]at gR;cases gR)) ⟨Mf (x:=(s.1,s.2.1,s.2.2.1,ls)) (hka.le lc) (hkb.le lc) (hkc.le lc) (ig (hn:=by decide) fR SS (ho.lj (by omega)) (by show ls.length≤_;omega)),SS.back⟩
end Go.K
namespace Go.K
open Go.Proofs
namespace TKSegM
theorem si:TI Tryz.prog 56 (.slice none 0 0) 1 24:=by unfold TI;kernel_rfl
theorem Ae:TI Tryz.prog 58 (.agg #[(.slice none 0 0),(.slice none 0 0),(.slice none 0 0),(.slice none 0 0)]) 4 96:=by unfold TI;kernel_rfl
theorem T2:Enters Tryz.prog 28:=enters Tryz.func28 rfl (by decide)
theorem TS:Enters Tryz.prog 80:=enters Tryz.func80 rfl (by decide)
theorem E81:Enters Tryz.prog 81:=enters Tryz.func81 rfl (by decide)
end TKSegM
open TKSegM
set_option maxRecDepth 10000
structure NY (s:Se) (ls:List (List Po)):Prop where
 hls:s.2.2.2=ls.map kP
 hdl:s.2.2.1.length=ls.length
 hn1:s.1.length≤1000000
 hn2:s.2.1.length≤1000000
 hd6:s.2.2.1.length≤1000000000
 hok:∀l∈ls,eR (-1) l=true∧(∀p∈l,p.2.length≤1099511627776)∧(dy (-1) l).length≤1099511627776∧l.length≤1099511627776
def partsOf (s:Se) (ls:List (List Po)):Pa:=(s.1,s.2.1,s.2.2.1,ls)
set_option maxRecDepth 100000 in
theorem NZ:Enters Tryz.prog 82:=enters Tryz.func82 rfl (by decide)
theorem rS {M:aI} {s t:Se} {ls lt:List (List Po)} {o p:Addr} (w0:World) (hM:Lt M w0) (hs:cf RT.se M w0 (.pointer (some o)) s) (ht:cf RT.se M w0 (.pointer (some p)) t) (AD:NY s ls) (Kw:NY t lt):
  Spec Tryz.prog 29 #[.pointer (some o),.pointer (some p)] w0 (fun v w=>v= .bool (vX (partsOf s ls) (partsOf t lt))∧Step M w0 M w aD):=by
 refine bh (args:=[_,_]) (fn:=Tryz.f29) Tryz.func29 rfl (n:=46) Tryz.ntmps29 ?_;have S:Step M w0 M w0 aD:=(ar _ _).b9 (fun _ h=>h.elim) (fun _ h=>h.elim);refine ak (aj (ah rfl rfl (ad (ak (ak (aj (ae rfl rfl (Rg.pS fK rfl rfl rfl (ae rfl rfl (Rg.xv (g:=9) rfl ((by simp)) (an rfl rfl ?_)))))))))));refine ae rfl rfl (an rfl rfl (Rg.pS fK rfl rfl rfl (aE rfl rfl rfl (ad (T.D6 rfl ((by simp)) (aU (ak (aj (ae rfl rfl ?_)))))))));refine aT rfl rfl T2 (nW _ hM hs AD.hls AD.hdl AD.hn1 AD.hn2 AD.hd6 AD.hok) (fun r1 w1 hc=>?_);obtain⟨Z4,T3⟩:=hc;obtain⟨a1,b1,c1,d1,rfl,uX,nA,rX,xr⟩:=FP Z4;dsimp only at uX nA rX xr;replace hs:=hs.le (by decide) T3.le;replace ht:=ht.le (by decide) T3.le;replace hM:=T3.lt hM;have:=S.size;replace S:=S.aw T3;refine ae rfl rfl ?_;refine aT rfl rfl T2 (nW _ hM ht Kw.hls Kw.hdl Kw.hn1 Kw.hn2 Kw.hd6 Kw.hok) (fun r2 w2 hc=>?_);obtain⟨Z5,Kx⟩:=hc;obtain⟨a2,b2,c2,d2,rfl,vB,qt,pW,yA⟩:=FP Z5;dsimp only at vB qt pW yA;replace hs:=hs.le (by decide) Kx.le;replace ht:=ht.le (by decide) Kx.le;replace uX:=uX.le Kx.le;replace nA:=nA.le Kx.le;replace rX:=rX.le Kx.le;replace xr:=xr.le Kx.le;replace hM:=Kx.lt hM;have:=S.size;replace S:=S.aw Kx;refine dL M Ae rfl (fun N0 PI ahr ahs iK kQ=>?_);obtain⟨Hq,Hr⟩:∃M',M'=ins M N0:=⟨_,rfl⟩;rw[←Hr]at kQ;have ib:Hq N0:=by rw[Hr];exact .inl rfl
 change PI.heap[N0]? =some (.cells #[.slice none 0 0,.slice none 0 0,.slice none 0 0,.slice none 0 0] _ _)at iK;replace hs:=hs.le (by decide) kQ.le;replace ht:=ht.le (by decide) kQ.le;replace uX:=uX.le kQ.le;replace nA:=nA.le kQ.le;replace rX:=rX.le kQ.le;replace xr:=xr.le kQ.le;replace vB:=vB.le kQ.le;replace qt:=qt.le kQ.le;replace pW:=pW.le kQ.le;replace yA:=yA.le kQ.le;replace hM:=kQ.lt hM;have:=S.size;replace S:=S.aw kQ;refine dL Hq Ae rfl (fun N1 Lv aht ahu iX jN=>?_);obtain⟨Hs,Ht⟩:∃M',M'=ins Hq N1:=⟨_,rfl⟩;rw[←Ht]at jN;have iU:Hs N1:=by rw[Ht];exact .inl rfl
 change Lv.heap[N1]? =some (.cells #[.slice none 0 0,.slice none 0 0,.slice none 0 0,.slice none 0 0] _ _)at iX;have:=al iK;replace ib:=(jN.mem _ this).2 ib;replace iK:=jN.aN iK;replace hs:=hs.le (by decide) jN.le;replace ht:=ht.le (by decide) jN.le;replace uX:=uX.le jN.le;replace nA:=nA.le jN.le;replace rX:=rX.le jN.le;replace xr:=xr.le jN.le;replace vB:=vB.le jN.le;replace qt:=qt.le jN.le;replace pW:=pW.le jN.le;replace yA:=yA.le jN.le;replace hM:=jN.lt hM;have:=S.size;replace S:=S.aw jN;refine dx (M:=Hs) (vs:=[a1,b1,c1,d1]) Ae rfl rfl (by intro u hu;simp at hu;rcases hu with rfl|rfl|rfl|rfl<;>exact iZ (by assumption) rfl rfl) rfl rfl iK ib (fun ws1 gs1 AE=>?_);have:=al iK;replace ib:=(AE.mem _ this).2 ib;have:=al iX;replace iU:=(AE.mem _ this).2 iU;replace iX:=AE.bM iX (fun hk=>by have hk:_=_:=hk;omega);replace hs:=hs.le (by decide) AE.le;replace ht:=ht.le (by decide) AE.le;replace uX:=uX.le AE.le;replace nA:=nA.le AE.le;replace rX:=rX.le AE.le;replace xr:=xr.le AE.le;replace vB:=vB.le AE.le;replace qt:=qt.le AE.le;replace pW:=pW.le AE.le;replace yA:=yA.le AE.le;replace hM:=AE.lt hM;have:=S.size;replace S:=S.trans AE (fun k hk h=>by have h:_=_:=h;subst h;first|(exfalso;omega)|(show _≤_;omega)|exact⟨by first|omega|assumption,(S.mem _ hk).1 ((AE.mem _ (al iK)).1 ib)⟩|exact .inl rfl|exact .inr rfl|exact .inr (.inl rfl)|exact .inr (.inr rfl)|exact rfl);have Ky:=gs1;clear iK;have iK:=Ky;clear Ky;refine dx (M:=Hs) (vs:=[a2,b2,c2,d2]) Ae rfl rfl (by intro u hu;simp at hu;rcases hu with rfl|rfl|rfl|rfl<;>exact iZ (by assumption) rfl rfl) rfl rfl iX iU (fun ws2 gs2 AF=>?_);have:=al iK;replace ib:=(AF.mem _ this).2 ib;replace iK:=AF.bM iK (fun hk=>by have hk:_=_:=hk;omega);have:=al iX;replace iU:=(AF.mem _ this).2 iU
 replace hs:=hs.le (by decide) AF.le;replace ht:=ht.le (by decide) AF.le;replace uX:=uX.le AF.le;replace nA:=nA.le AF.le;replace rX:=rX.le AF.le;replace xr:=xr.le AF.le;replace vB:=vB.le AF.le;replace qt:=qt.le AF.le;replace pW:=pW.le AF.le;replace yA:=yA.le AF.le;replace hM:=AF.lt hM;have:=S.size;replace S:=S.trans AF (fun k hk h=>by have h:_=_:=h;subst h;first|(exfalso;omega)|(show _≤_;omega)|exact⟨by first|omega|assumption,(S.mem _ hk).1 ((AF.mem _ (al iX)).1 iU)⟩|exact .inl rfl|exact .inr rfl|exact .inr (.inl rfl)|exact .inr (.inr rfl)|exact rfl);have Kz:=gs2;clear iX;have iX:=Kz;clear Kz;refine ad (ak (aj (bH bL rfl rfl jE (by decide) rfl rfl (aX au rfl rfl rfl iK rfl (bI (v':=a1) rfl (bH bL rfl rfl jE (by decide) rfl rfl (aX au rfl rfl rfl iX rfl (bI (v':=a2) rfl ?_))))))));refine aT rfl rfl TS (uL _ hM uX vB) (fun rr4 wr4 hc=>?_);obtain⟨rfl,AG⟩:=hc;have:=al iK;replace ib:=(AG.mem _ this).2 ib;replace iK:=AG.aN iK;have:=al iX;replace iU:=(AG.mem _ this).2 iU;replace iX:=AG.aN iX;replace hs:=hs.le (by decide) AG.le;replace ht:=ht.le (by decide) AG.le;replace uX:=uX.le AG.le;replace nA:=nA.le AG.le;replace rX:=rX.le AG.le;replace xr:=xr.le AG.le;replace vB:=vB.le AG.le;replace qt:=qt.le AG.le;replace pW:=pW.le AG.le;replace yA:=yA.le AG.le;replace hM:=AG.lt hM;have:=S.size;replace S:=S.aw AG;refine ae rfl rfl ?_;refine aL (g:=25) rfl (fun qQ=>?_) (fun qQ=>?_)
 ·refine an rfl rfl (bH bL rfl rfl jE (by decide) rfl rfl (an rfl rfl (aX au rfl rfl rfl iK rfl (bI (v':=b1) rfl (an rfl rfl (bH bL rfl rfl jE (by decide) rfl rfl (an rfl rfl (aX au rfl rfl rfl iX rfl (bI (v':=b2) rfl (an rfl rfl ?_))))))))));refine aT rfl rfl TS (uL _ hM nA qt) (fun ahx ahy hc=>?_);obtain⟨rfl,oC⟩:=hc;have:=al iK;replace ib:=(oC.mem _ this).2 ib;replace iK:=oC.aN iK;have:=al iX;replace iU:=(oC.mem _ this).2 iU;replace iX:=oC.aN iX;replace hs:=hs.le (by decide) oC.le;replace ht:=ht.le (by decide) oC.le;replace uX:=uX.le oC.le;replace nA:=nA.le oC.le;replace rX:=rX.le oC.le;replace xr:=xr.le oC.le;replace vB:=vB.le oC.le;replace qt:=qt.le oC.le;replace pW:=pW.le oC.le;replace yA:=yA.le oC.le;replace hM:=oC.lt hM;have:=S.size;replace S:=S.aw oC;refine aP rfl rfl rfl (ae rfl rfl ?_);refine aL (g:=32) rfl (fun qm=>?_) (fun qm=>?_)
  ·refine an rfl rfl (bH bL rfl rfl uY (by decide) rfl rfl (an rfl rfl (aX aC rfl rfl rfl iK rfl (bI (v':=c1) rfl (an rfl rfl (bH bL rfl rfl uY (by decide) rfl rfl (an rfl rfl (aX aC rfl rfl rfl iX rfl (bI (v':=c2) rfl (an rfl rfl ?_))))))))));refine aT rfl rfl E81 (Ha _ hM rX pW) (fun ahz ahA hc=>?_);obtain⟨rfl,oD⟩:=hc;have:=al iK;replace ib:=(oD.mem _ this).2 ib;replace iK:=oD.aN iK;have:=al iX;replace iU:=(oD.mem _ this).2 iU;replace iX:=oD.aN iX;replace hs:=hs.le (by decide) oD.le;replace ht:=ht.le (by decide) oD.le;replace uX:=uX.le oD.le;replace nA:=nA.le oD.le;replace rX:=rX.le oD.le;replace xr:=xr.le oD.le;replace vB:=vB.le oD.le;replace qt:=qt.le oD.le;replace pW:=pW.le oD.le;replace yA:=yA.le oD.le;replace hM:=oD.lt hM;have:=S.size;replace S:=S.aw oD;refine aP rfl rfl rfl (ae rfl rfl ?_);refine aL (g:=39) rfl (fun qn=>?_) (fun qn=>?_)
   ·refine an rfl rfl (bH bL rfl rfl si (by decide) rfl rfl (an rfl rfl (aX bS rfl rfl rfl iK rfl (bI (v':=d1) rfl (an rfl rfl (bH bL rfl rfl si (by decide) rfl rfl (an rfl rfl (aX bS rfl rfl rfl iX rfl (bI (v':=d2) rfl (an rfl rfl ?_))))))))));refine aT rfl rfl NZ (DM _ hM xr yA) (fun ahB ahC hc=>?_);obtain⟨rfl,oE⟩:=hc;have:=al iK;replace ib:=(oE.mem _ this).2 ib;replace iK:=oE.aN iK;have:=al iX;replace iU:=(oE.mem _ this).2 iU;replace iX:=oE.aN iX;replace hs:=hs.le (by decide) oE.le;replace ht:=ht.le (by decide) oE.le;replace uX:=uX.le oE.le;replace nA:=nA.le oE.le;replace rX:=rX.le oE.le;replace xr:=xr.le oE.le;replace vB:=vB.le oE.le;replace qt:=qt.le oE.le;replace pW:=pW.le oE.le;replace yA:=yA.le oE.le;replace hM:=oE.lt hM;have:=S.size;replace S:=S.aw oE;refine aP rfl rfl rfl (ah rfl rfl (ad (aM ?_)));refine aS rfl rfl ⟨congrArg Value.bool ?_,S.back⟩
    first
    |exact(by unfold vX partsOf;dsimp only;rw[decide_eq_true qQ,decide_eq_true qm,decide_eq_true qn];simp)
    |exact(dI (fun e=>qn (congrArg (fun p:Pa=>p.2.2.1) e))).symm
    |exact(dI (fun e=>qm (congrArg (fun p:Pa=>p.2.1) e))).symm
    |exact(dI (fun e=>qQ (congrArg (fun p:Pa=>p.1) e))).symm
   ·refine aq rfl rfl rfl rfl (aq rfl rfl rfl rfl (aq rfl rfl rfl rfl (aq rfl rfl rfl rfl (aq rfl rfl rfl rfl (aE rfl rfl rfl (ah rfl rfl (ad (aM ?_))))))));refine aS rfl rfl ⟨congrArg Value.bool ?_,S.back⟩
    first
    |exact(by unfold vX partsOf;dsimp only;rw[decide_eq_true qQ,decide_eq_true qm,decide_eq_true qn];simp)
    |exact(dI (fun e=>qn (congrArg (fun p:Pa=>p.2.2.1) e))).symm
    |exact(dI (fun e=>qm (congrArg (fun p:Pa=>p.2.1) e))).symm
    |exact(dI (fun e=>qQ (congrArg (fun p:Pa=>p.1) e))).symm
  ·refine aq rfl rfl rfl rfl (aq rfl rfl rfl rfl (aq rfl rfl rfl rfl (aq rfl rfl rfl rfl (aq rfl rfl rfl rfl (aE rfl rfl rfl (ae rfl rfl (aq rfl rfl rfl rfl (aq rfl rfl rfl rfl (aq rfl rfl rfl rfl (aq rfl rfl rfl rfl (aq rfl rfl rfl rfl ?_)))))))))));refine aE rfl rfl rfl (ah rfl rfl (ad (aM ?_)));refine aS rfl rfl ⟨congrArg Value.bool ?_,S.back⟩
   first
   |exact(by unfold vX partsOf;dsimp only;rw[decide_eq_true qQ,decide_eq_true qm,decide_eq_true qn];simp)
   |exact(dI (fun e=>qn (congrArg (fun p:Pa=>p.2.2.1) e))).symm
   |exact(dI (fun e=>qm (congrArg (fun p:Pa=>p.2.1) e))).symm
   |exact(dI (fun e=>qQ (congrArg (fun p:Pa=>p.1) e))).symm
 ·refine aq rfl rfl rfl rfl (aq rfl rfl rfl rfl (aq rfl rfl rfl rfl (aq rfl rfl rfl rfl (aq rfl rfl rfl rfl (aE rfl rfl rfl (ae rfl rfl (aq rfl rfl rfl rfl (aq rfl rfl rfl rfl (aq rfl rfl rfl rfl (aq rfl rfl rfl rfl (aq rfl rfl rfl rfl ?_)))))))))));refine aE rfl rfl rfl (ae rfl rfl (aq rfl rfl rfl rfl (aq rfl rfl rfl rfl (aq rfl rfl rfl rfl (aq rfl rfl rfl rfl (aq rfl rfl rfl rfl (aE rfl rfl rfl (ah rfl rfl (ad (aM ?_))))))))));refine aS rfl rfl ⟨congrArg Value.bool ?_,S.back⟩
  first
  |exact(by unfold vX partsOf;dsimp only;rw[decide_eq_true qQ,decide_eq_true qm,decide_eq_true qn];simp)
  |exact(dI (fun e=>qn (congrArg (fun p:Pa=>p.2.2.1) e))).symm
  |exact(dI (fun e=>qm (congrArg (fun p:Pa=>p.2.1) e))).symm
  |exact(dI (fun e=>qQ (congrArg (fun p:Pa=>p.1) e))).symm
theorem pC {o p:Option Addr} (w0:World) (h:o=none∨p=none):
  Spec Tryz.prog 29 #[.pointer o,.pointer p] w0 (fun v w=>v= .bool (decide (o=p))∧w=w0):=by
 refine bh (args:=[_,_]) (fn:=Tryz.f29) Tryz.func29 rfl (n:=46) Tryz.ntmps29 (ak (aj (ah rfl rfl (ad (ak (ak (aj (ae rfl rfl (Rg.pS fK rfl rfl rfl (ae rfl rfl ?_))))))))));refine aL (g:=9) rfl (fun fX=>?_) (fun fX=>?_)
 ·refine aq rfl rfl rfl rfl (aq rfl rfl rfl rfl (aP rfl rfl rfl (ad (jH rfl (ak (aj (ae rfl rfl (ae rfl rfl (Rg.Ho h fK rfl rfl rfl (ah rfl rfl (ad ?_)))))))))));refine aM ?_;exact aS rfl rfl ⟨rfl,rfl⟩
 ·refine an rfl rfl (ae rfl rfl (an rfl rfl (Rg.pS fK rfl rfl rfl (aE rfl rfl rfl (ad (T.T7 rfl ((by first|exact h.resolve_left fX|assumption)) (ak (aj (ae rfl rfl (ae rfl rfl (Rg.Ho h fK rfl rfl rfl ?_)))))))))));refine ah rfl rfl (ad (aM ?_));exact aS rfl rfl ⟨rfl,rfl⟩
end Go.K
namespace Go.K
open Go.Proofs
namespace TKSegN
theorem si:TI Tryz.prog 56 (.slice none 0 0) 1 24:=by unfold TI;kernel_rfl
theorem SJ:TI Tryz.prog 62 (.agg #[(.slice none 0 0),(.slice none 0 0),(.slice none 0 0),(.slice none 0 0)]) 4 96:=by unfold TI;kernel_rfl
theorem jQ:TI Tryz.prog 107 (.slice none 0 0) 1 24:=by unfold TI;kernel_rfl
theorem E86:Enters Tryz.prog 86:=enters Tryz.func86 rfl (by decide)
theorem E87:Enters Tryz.prog 87:=enters Tryz.func87 rfl (by decide)
end TKSegN
open TKSegN
set_option maxRecDepth 10000
theorem qo {M:aI} {L:List En} {v0:Value} (w0:World) (hM:Lt M w0) (hv:(RT.en.sl).V M w0 L v0) (hF:∀e∈L,gz e.1) (hlen:∀e∈L,∀f∈e.1.2,f.1.length≤900000∧f.2.length≤900000) (hn:L.length≤100000):
  Spec Tryz.prog 31 #[v0] w0 (fun v w=>RT.pa.V M w (iq L) v∧Step M w0 M w aD):=by
 have fR:=hM
 have TB:(keysOf L).length≤500000000:=by
  have h1:=(k8 L).nodup.length_le_of_subset (l₂:=fU L) (fun x hx=>iT.1 hx);have:=j3 hF;omega
 refine bh (args:=[_]) (fn:=Tryz.f31) Tryz.func31 rfl (n:=56) Tryz.ntmps31 ?_;have S:Step M w0 M w0 aD:=(ar _ _).b9 (fun _ h=>h.elim) (fun _ h=>h.elim);refine ak (aj ?_);refine dL M SJ rfl (fun lz kT RN RO kI qj=>?_);obtain⟨MA,eMA⟩:∃M',M'=ins M lz:=⟨_,rfl⟩;rw[←eMA]at qj;have lA:MA lz:=by rw[eMA];exact .inl rfl
 replace hv:=hv.le qj.le;have OF:=qj.lt hM;have SA:=S.aw qj;clear hM S;have hM:=OF;have S:Step MA kT MA kT aD:=ar _ _;refine ad (ak (aj ?_));refine dL MA SJ rfl (fun gv y6 Lw Lx iY kR=>?_);obtain⟨kx,ky⟩:∃M',M'=ins MA gv:=⟨_,rfl⟩;rw[←ky]at kR;have gI:kx gv:=by rw[ky];exact .inl rfl
 change y6.heap[gv]? =some (.cells #[.slice none 0 0,.slice none 0 0,.slice none 0 0,.slice none 0 0] _ _)at iY;replace hv:=hv.le kR.le;replace hM:=kR.lt hM;have:=S.size;replace S:=S.aw kR;refine ad (ak (ak (aj (ah rfl rfl (ad (aW ?_))))));refine cX (σ:=Nat×Value×Value) (fun q=>[(0,v0),(2,.pointer (some ⟨lz,0,none⟩)),(3,.pointer (some ⟨gv,0,none⟩)),(4,.int .i64 (q.1:Int))]) (fun q w=>∃M',Lt M' w∧Step MA kT M' w aD∧(RT.en.sl).V M' w L v0∧w.heap[gv]? =some (.cells #[q.2.1,q.2.2,.slice none 0 0,.slice none 0 0] 62 (0,0))∧M' gv∧Own (RT.int .i64) 3 M' w kT.heap.size q.2.1 ((L.take q.1).map (·.1.1))∧Own (RT.int .i64) 3 M' w kT.heap.size q.2.2 ((L.take q.1).map (·.2))∧gX q.2.1 q.2.2∧q.1≤L.length) (fun q=>L.length-q.1) (0,.slice none 0 0,.slice none 0 0) (.cons rfl (.cons rfl (.cons rfl (.cons rfl .nil)))) ?_ ?_
 ·exact⟨_,hM,S,hv,iY,gI,dw _ _ _ _ _,dw _ _ _ _ _,gX.nil _,bC _⟩
 ·clear hM S hv;rintro⟨i,vi,vs⟩ w ⟨M2,hM,S,hv,g2,cc,fk,fq,Dq,hi⟩;dsimp only at g2 fk fq Dq hi ⊢;refine ak (ak (aj (ae rfl rfl (ae rfl rfl (bz cZ rfl hv rfl (cj rfl rfl rfl (ad ?_)))))));refine bK rfl (fun c3=>?_) (fun c3=>?_)
  ·refine aU (ak (aW (ak ?_)));apply vq 8 [0,1] 1 aD mixed rfl rfl rfl rfl;intro Oq MG;have qY:=MG M2;have:=al g2;replace cc:=(qY.mem _ this).2 cc;replace g2:=qY.aN g2;replace hv:=hv.le qY.le;replace fk:=fk.a7 qY;replace fq:=fq.a7 qY;replace hM:=qY.lt hM;have:=S.size;replace S:=S.aw qY;refine bH (o':=0) b8 rfl rfl jE (by decide) rfl rfl ?_;refine ad ⟨rfl,rfl,rfl,?_⟩;refine aX au rfl rfl rfl (by first|assumption|exact cQ qY (by assumption)) rfl ?_;refine ad ⟨rfl,rfl,rfl,?_⟩;refine ae rfl rfl ?_;refine ad ⟨rfl,rfl,rfl,?_⟩;refine ae rfl rfl ?_;refine ad ⟨rfl,rfl,rfl,?_⟩;obtain⟨e,il⟩:∃x,L[i]? =some x:=⟨_,aF (by omega)⟩;refine cb (M:=M2) cZ vD rfl rfl rfl hv (ao _ _) (by omega) (fun u54 x_ fu G8=>?_);rw[aB]at fu;obtain rfl:=aQ (il.symm.trans fu);refine ad ⟨rfl,rfl,rfl,?_⟩;refine ax (M:=M2) (A:=RT.en) (B:=RT.dc) cA rfl rfl jW (by decide) Il rfl rfl (by decide) G8 (ao _ _) (fun u55 NM=>?_);refine ad ⟨rfl,rfl,rfl,?_⟩;refine ax (M:=M2) (A:=RT.dc) (B:=RT.int .i64) aJ rfl rfl I3 (by decide) Oh rfl rfl (by decide) NM (ao _ _) (fun u56 Z6=>?_);refine ad ⟨rfl,rfl,rfl,?_⟩;refine b4 (M:=M2) ay rfl rfl Z6 (ao _ _) (fun SK=>?_);refine bI (v':= .int .i64 e.1.1) rfl ?_;refine ad ⟨rfl,rfl,rfl,?_⟩;refine dr ?_;refine⟨eV ⟨fV b8 rfl jE (by decide),⟨dS rfl g2 (fun h=>h),trivial⟩⟩,?_⟩;have kp:=fY aD Oq;refine dQ (A:=RT.int .i64) (hn:=by decide) (M:=M2) au I3 (by decide) rfl rfl hM (fO (x:=e.1.1) SK) (.inr ⟨rfl,rfl⟩) (fun QR Xj SL qg=>?_);have:=al g2;replace cc:=(qg.mem _ this).2 cc;replace g2:=qg.aN g2;replace hv:=hv.le qg.le;replace fk:=fk.a7 qg
   replace fq:=fq.a7 qg;replace hM:=qg.lt hM;have:=S.size;replace S:=S.aw qg;refine(fun(kp:dO _ _ _)=>ad ⟨rfl,rfl,fun _=>kp,?_⟩) (by first|exact kp|exact kp.nZ (by assumption)|exact kp.goN (by assumption)|exact kp.go (by assumption) (fun _ _ h=>by first|exact h|exact h.elim));refine Rg.ju (M:=M2) (base:=kT.heap.size) au I3 rfl rfl rfl rfl fk SL (ao _ _) (by simp;omega) (by simp;omega) S.size (fun v5 w5 ho5 s5 hF5=>?_);generalize jL M2 v5=M5 at ho5 s5;have SM:gX v5 vs:=Dq.grown hF5 (fun b hb=>(fq.base b hb).2);replace fq:=fq.step s5 (fun b hb h=>Dq b h hb);replace cc:=(s5.mem _ (al g2)).2 cc;replace g2:=s5.bM g2 (fun h=>fk.ep g2 (by decide) h);replace hv:=hv.le s5.le;replace S:=S.cF s5 fk (a8 _);replace hM:=s5.lt hM;replace fk:=ho5;refine ad ⟨rfl,rfl,fun h=>absurd rfl h,?_⟩;refine bH (o':=0) b8 rfl rfl jE (by decide) rfl rfl ?_;refine ad ⟨rfl,rfl,fun h=>absurd rfl h,?_⟩;refine cu (M:=M5) jE rfl rfl g2 rfl (by obtain⟨_,_,he,_⟩:=fk.isSlice;rw[he];rfl) cc (fun SN KA uO=>?_);change SN.heap[_]? =some (Obj.cells #[v5,vs,.slice none 0 0,.slice none 0 0] _ _)at KA;have:=al g2;replace cc:=(uO.mem _ this).2 cc;replace hv:=hv.le uO.le;replace fk:=fk.step uO (fun c hc (h:c=gv)=>fk.ep g2 (by decide) (h▸hc));replace fq:=fq.step uO (fun c hc (h:c=gv)=>fq.ep g2 (by decide) (h▸hc));replace hM:=uO.lt hM;have:=S.size;replace S:=S.trans uO (fun k hk h=>by have h:_=_:=h;subst h;first|(exfalso;omega)|(show _≤_;omega)|exact⟨by first|omega|assumption,(S.mem _ hk).1 ((uO.mem _ (al g2)).1 cc)⟩|exact .inl rfl|exact .inr rfl|exact .inr (.inl rfl)|exact .inr (.inr rfl)|exact rfl);have tU:=KA;clear g2;have g2:=tU;clear tU;refine ad ⟨rfl,rfl,fun h=>absurd rfl h,?_⟩;refine jJ ?_;apply vq 7 [0,1] 1 aD mixed rfl rfl rfl rfl;intro ML Jg;have lX:=Jg M5;have:=al g2;replace cc:=(lX.mem _ this).2 cc
   replace g2:=lX.aN g2;replace hv:=hv.le lX.le;replace fk:=fk.a7 lX;replace fq:=fq.a7 lX;replace hM:=lX.lt hM;have:=S.size;replace S:=S.aw lX;refine bH (o':=1) b8 rfl rfl jE (by decide) rfl rfl ?_;refine ad ⟨rfl,rfl,rfl,?_⟩;refine aX au rfl rfl rfl (by first|assumption|exact cQ lX (by assumption)) rfl ?_;refine ad ⟨rfl,rfl,rfl,?_⟩;refine ae rfl rfl ?_;refine ad ⟨rfl,rfl,rfl,?_⟩;refine ae rfl rfl ?_;refine ad ⟨rfl,rfl,rfl,?_⟩;refine cb (M:=M5) cZ vD rfl rfl rfl hv (ao _ _) (by omega) (fun u64 x_ fu ND=>?_);rw[aB]at fu;obtain rfl:=aQ (il.symm.trans fu);refine ad ⟨rfl,rfl,rfl,?_⟩;refine ax (M:=M5) (A:=RT.en) (B:=RT.int .i64) cA rfl rfl I3 (by decide) PX rfl rfl (by decide) ND (ao _ _) (fun u65 Z7=>?_);refine ad ⟨rfl,rfl,rfl,?_⟩;refine b4 (M:=M5) ay rfl rfl Z7 (ao _ _) (fun SO=>?_);refine bI (v':= .int .i64 e.2) rfl ?_;refine ad ⟨rfl,rfl,rfl,?_⟩;refine dr ?_;refine⟨eV ⟨fV b8 rfl jE (by decide),⟨dS rfl g2 (fun h=>h),trivial⟩⟩,?_⟩;have kp:=fY aD ML;refine dQ (A:=RT.int .i64) (hn:=by decide) (M:=M5) au I3 (by decide) rfl rfl hM (fO (x:=e.2) SO) (.inr ⟨rfl,rfl⟩) (fun ahG ahH SP BX=>?_);have:=al g2;replace cc:=(BX.mem _ this).2 cc;replace g2:=BX.aN g2;replace hv:=hv.le BX.le;replace fk:=fk.a7 BX;replace fq:=fq.a7 BX;replace hM:=BX.lt hM;have:=S.size;replace S:=S.aw BX;refine(fun(kp:dO _ _ _)=>ad ⟨rfl,rfl,fun _=>kp,?_⟩) (by first|exact kp|exact kp.nZ (by assumption)|exact kp.goN (by assumption)|exact kp.go (by assumption) (fun _ _ h=>by first|exact h|exact h.elim));refine Rg.ju (M:=M5) (base:=kT.heap.size) au I3 rfl rfl rfl rfl fq SP (ao _ _) (by simp;omega) (by simp;omega) S.size (fun v6 w6 rC s6 hF6=>?_)
   generalize jL M5 v6=M6 at rC s6;have Bm:gX v5 v6:=(SM.symm.grown hF6 (fun b hb=>(fk.base b hb).2)).symm;replace fk:=fk.step s6 (fun b hb h=>SM b hb h);replace cc:=(s6.mem _ (al g2)).2 cc;replace g2:=s6.bM g2 (fun h=>fq.ep g2 (by decide) h);replace hv:=hv.le s6.le;replace S:=S.cF s6 fq (a8 _);replace hM:=s6.lt hM;replace fq:=rC;refine ad ⟨rfl,rfl,fun h=>absurd rfl h,?_⟩;refine bH (o':=1) b8 rfl rfl jE (by decide) rfl rfl ?_;refine ad ⟨rfl,rfl,fun h=>absurd rfl h,?_⟩;refine cu (M:=M6) jE rfl rfl g2 rfl (by obtain⟨_,_,he,_⟩:=fq.isSlice;rw[he];rfl) cc (fun SQ KB uP=>?_);change SQ.heap[_]? =some (Obj.cells #[v5,v6,.slice none 0 0,.slice none 0 0] _ _)at KB;have:=al g2;replace cc:=(uP.mem _ this).2 cc;replace hv:=hv.le uP.le;replace fk:=fk.step uP (fun c hc (h:c=gv)=>fk.ep g2 (by decide) (h▸hc));replace fq:=fq.step uP (fun c hc (h:c=gv)=>fq.ep g2 (by decide) (h▸hc));replace hM:=uP.lt hM;have:=S.size;replace S:=S.trans uP (fun k hk h=>by have h:_=_:=h;subst h;first|(exfalso;omega)|(show _≤_;omega)|exact⟨by first|omega|assumption,(S.mem _ hk).1 ((uP.mem _ (al g2)).1 cc)⟩|exact .inl rfl|exact .inr rfl|exact .inr (.inl rfl)|exact .inr (.inr rfl)|exact rfl);have tU:=KB;clear g2;have g2:=tU;clear tU;refine ad ⟨rfl,rfl,fun h=>absurd rfl h,?_⟩;refine jJ (aj (ae rfl rfl (bE rfl rfl rfl (by omega) (ah rfl rfl (ad ?_)))));have et:L.take (i+1)=L.take i++[e]:=by rw[bc,il,bY]
   refine⟨rfl,(i+1,v5,v6),(.cons rfl (.cons rfl (.cons rfl (.cons rfl .nil)))),?_,?_⟩
   ·exact⟨_,hM,S,hv,g2,cc,by rw[et,dF];exact fk,by rw[et,dF];exact fq,Bm,by dsimp only;omega⟩
   ·dsimp only;omega
  ·refine cK (ak (aj ?_));have YW:L.take i=L:=aK (by omega);rw[YW]at fk fq;refine ae rfl rfl ?_;refine aT rfl rfl E86 (BU _ hM hv hF hlen (by omega)) (fun rk w7 hc=>?_);obtain⟨lV,s7⟩:=hc;have:=al g2;replace cc:=(s7.mem _ this).2 cc;replace g2:=s7.aN g2;replace hv:=hv.le s7.le;replace fk:=fk.a7 s7;replace fq:=fq.a7 s7;replace hM:=s7.lt hM;have:=S.size;replace S:=S.aw s7;refine bH (o':=2) b8 rfl rfl uY (by decide) rfl rfl ?_;refine cu (M:=M2) uY rfl rfl g2 rfl (iZ lV rfl rfl) cc (fun Sc SR qk=>?_);change Sc.heap[_]? =some (Obj.cells #[vi,vs,rk,.slice none 0 0] _ _)at SR;have:=al g2;replace cc:=(qk.mem _ this).2 cc;replace hv:=hv.le qk.le;replace lV:=lV.le qk.le;replace fk:=fk.step qk (fun c hc (h:c=gv)=>fk.ep g2 (by decide) (h▸hc));replace fq:=fq.step qk (fun c hc (h:c=gv)=>fq.ep g2 (by decide) (h▸hc));replace hM:=qk.lt hM;have:=S.size;replace S:=S.trans qk (fun k hk h=>by have h:_=_:=h;subst h;first|(exfalso;omega)|(show _≤_;omega)|exact⟨by first|omega|assumption,(S.mem _ hk).1 ((qk.mem _ (al g2)).1 cc)⟩|exact .inl rfl|exact .inr rfl|exact .inr (.inl rfl)|exact .inr (.inr rfl)|exact rfl);have tU:=SR;clear g2;have g2:=tU;clear tU;refine ad (ak (ak (aj (ah rfl rfl (ad (aW ?_))))));refine cX (σ:=Nat×Value) (fun q=>[(0,v0),(2,.pointer (some ⟨lz,0,none⟩)),(3,.pointer (some ⟨gv,0,none⟩)),(5,.int .i64 (q.1:Int))]) (fun q w=>∃M',Lt M' w∧Step MA kT M' w aD∧(RT.en.sl).V M' w L v0∧w.heap[gv]? =some (.cells #[vi,vs,rk,q.2] 62 (0,0))∧M' gv∧Own (RT.int .i64) 3 M' w kT.heap.size vi (L.map (·.1.1))∧Own (RT.int .i64) 3 M' w kT.heap.size vs (L.map (·.2))∧Own ((RT.po).sl) 107 M' w kT.heap.size q.2 (((keysOf L).take q.1).map (pk L))∧(RT.str.sl).V M' w (keysOf L) rk∧q.1≤(keysOf L).length) (fun q=>(keysOf L).length-q.1) (0,.slice none 0 0) (.cons rfl (.cons rfl (.cons rfl (.cons rfl .nil)))) ?_ ?_
   ·exact⟨_,hM,S,hv,g2,cc,fk,fq,dw _ _ _ _ _,lV,bC _⟩
   ·clear hM S hv g2 cc fk fq lV;rintro⟨j,vl⟩ w ⟨M3,hM,S,hv,g2,cc,fk,fq,jk,lV,hj⟩;dsimp only at g2 jk hj ⊢;refine ak (ak (aj (ae rfl rfl (bH (o':=2) b8 rfl rfl uY (by decide) rfl rfl (aX aC rfl rfl rfl g2 rfl (bI (v':=rk) rfl (bz aC rfl lV rfl (cj rfl rfl rfl (ad ?_)))))))));refine bK rfl (fun c9=>?_) (fun c9=>?_)
    ·refine aU (ak (aW ?_));apply vq 8 [0,1] 2 aD mixed rfl rfl rfl rfl;intro DA Gf;have gA:=Gf M3;have:=al g2;replace cc:=(gA.mem _ this).2 cc;replace g2:=gA.aN g2;replace hv:=hv.le gA.le;replace lV:=lV.le gA.le;replace fk:=fk.a7 gA;replace fq:=fq.a7 gA;replace jk:=jk.a7 gA;replace hM:=gA.lt hM;have:=S.size;replace S:=S.aw gA;refine bH (o':=3) b8 rfl rfl si (by decide) rfl rfl ?_;refine ad ⟨rfl,rfl,rfl,?_⟩;refine aX bS rfl rfl rfl (by first|assumption|exact cQ gA (by assumption)) rfl ?_;refine ad ⟨rfl,rfl,rfl,?_⟩;refine ae rfl rfl ?_;refine ad ⟨rfl,rfl,rfl,?_⟩;refine bH (o':=2) b8 rfl rfl uY (by decide) rfl rfl ?_;refine ad ⟨rfl,rfl,rfl,?_⟩;refine aX aC rfl rfl rfl g2 rfl (bI (v':=rk) rfl ?_);refine ad ⟨rfl,rfl,rfl,?_⟩;refine ae rfl rfl ?_;refine ad ⟨rfl,rfl,rfl,?_⟩;obtain⟨k,hgk⟩:∃x,(keysOf L)[j]? =some x:=⟨_,aF (by omega)⟩;refine cb (M:=M3) aC I9 rfl rfl rfl lV (ao _ _) (by omega) (fun ahJ x_ fu SU=>?_);rw[aB]at fu;obtain rfl:=aQ (hgk.symm.trans fu);refine ad ⟨rfl,rfl,rfl,?_⟩;refine bw (M:=M3) aA rfl rfl rfl rfl rfl SU (ao _ _) (fun v117 SV=>?_);obtain rfl:=dB SV;refine ad ⟨rfl,rfl,rfl,?_⟩;refine dr ?_;refine⟨eV ⟨fV b8 rfl si (by decide),⟨dS rfl g2 (fun h=>h),trivial⟩⟩,?_⟩;have kp:=fY aD DA;refine aT rfl rfl E87 (BV (key:=k) _ hM hv hF hlen (by omega)) (fun r11 w11 hc=>?_);obtain⟨yc,uw⟩:=hc;have:=al g2;replace cc:=(uw.mem _ this).2 cc;replace g2:=uw.aN g2;replace hv:=hv.le uw.le;replace lV:=lV.le uw.le;replace fk:=fk.a7 uw;replace fq:=fq.a7 uw;replace jk:=jk.a7 uw;replace hM:=uw.lt hM;have:=S.size;replace S:=S.aw uw
     refine(fun(kp:dO _ _ _)=>ad ⟨rfl,rfl,fun _=>kp,?_⟩) (by first|exact kp|exact kp.nZ (by assumption)|exact kp.goN (by assumption)|exact kp.go (by assumption) (fun _ _ h=>by first|exact h|exact h.elim));refine dQ (A:=((RT.po).sl)) (hn:=by decide) (M:=M3) bS jQ (by decide) rfl rfl hM (yc) (.inr ⟨rfl,rfl⟩) (fun PB PC mi kr=>?_);have:=al g2;replace cc:=(kr.mem _ this).2 cc;replace g2:=kr.aN g2;replace hv:=hv.le kr.le;replace lV:=lV.le kr.le;replace yc:=yc.le kr.le;replace fk:=fk.a7 kr;replace fq:=fq.a7 kr;replace jk:=jk.a7 kr;replace hM:=kr.lt hM;have:=S.size;replace S:=S.aw kr;refine(fun(kp:dO _ _ _)=>ad ⟨rfl,rfl,fun _=>kp,?_⟩) (by first|exact kp|exact kp.nZ (by assumption)|exact kp.goN (by assumption)|exact kp.go (by assumption) (fun _ _ h=>by first|exact h|exact h.elim));refine ch (M:=M3) (base:=kT.heap.size) bS jQ rfl rfl rfl rfl jk mi (ao _ _) (by simp;omega) (by simp;omega) (S.size) (fun xM AY Lj xN iz=>?_);have:=al g2;replace cc:=(iz.mem _ this).2 cc;replace g2:=iz.bM g2 (fun h=>by first|exact jk.dE g2 h|exact jk.ep g2 (by decide) h|(have:=(jk.base _ h).1;omega));replace hv:=hv.le iz.le;replace lV:=lV.le iz.le;replace yc:=yc.le iz.le;replace mi:=mi.le iz.le;replace fk:=fk.step iz (fun b h1 h2=>fk.ia jk (by decide) h1 h2);replace fq:=fq.step iz (fun b h1 h2=>fq.ia jk (by decide) h1 h2);replace hM:=iz.lt hM;have:=S.size;replace S:=S.cF iz jk (a8 _);replace jk:=xN;refine ad ⟨rfl,rfl,fun h=>absurd rfl h,?_⟩;refine bH (o':=3) b8 rfl rfl si (by decide) rfl rfl ?_;refine ad ⟨rfl,rfl,fun h=>absurd rfl h,?_⟩;refine cu (M:=AY) si rfl rfl g2 rfl (by obtain⟨_,_,he,_⟩:=jk.isSlice;rw[he];rfl) cc (fun N2 Hu kJ=>?_);change N2.heap[_]? =some (Obj.cells #[vi,vs,rk,xM] _ _)at Hu
     have:=al g2;replace cc:=(kJ.mem _ this).2 cc;replace hv:=hv.le kJ.le;replace lV:=lV.le kJ.le;replace yc:=yc.le kJ.le;replace mi:=mi.le kJ.le;replace fk:=fk.step kJ (fun c hc (h:c=gv)=>fk.ep g2 (by decide) (h▸hc));replace fq:=fq.step kJ (fun c hc (h:c=gv)=>fq.ep g2 (by decide) (h▸hc));replace jk:=jk.step kJ (fun c hc (h:c=gv)=>jk.ep g2 (by decide) (h▸hc));replace hM:=kJ.lt hM;have:=S.size;replace S:=S.trans kJ (fun k hk h=>by have h:_=_:=h;subst h;first|(exfalso;omega)|(show _≤_;omega)|exact⟨by first|omega|assumption,(S.mem _ hk).1 ((kJ.mem _ (al g2)).1 cc)⟩|exact .inl rfl|exact .inr rfl|exact .inr (.inl rfl)|exact .inr (.inr rfl)|exact rfl);have tU:=Hu;clear g2;have g2:=tU;clear tU;refine ad ⟨rfl,rfl,fun h=>absurd rfl h,?_⟩;refine jJ (aj (ae rfl rfl (bE rfl rfl rfl (by omega) (ah rfl rfl (ad ?_)))));refine⟨rfl,(j+1,xM),(.cons rfl (.cons rfl (.cons rfl (.cons rfl .nil)))),?_,?_⟩
     ·exact⟨_,hM,S,hv,g2,cc,fk,fq,by rw[bc,hgk,bY,dF];exact jk,lV,by dsimp only;omega⟩
     ·dsimp only;omega
    ·refine cK (ak (aj (eX (vs:=[vi,vs,rk,vl]) b8 rfl SJ rfl rfl rfl g2 ?_)));rw[aK (by omega)]at jk;obtain⟨_,_,hea,_⟩:=fk.isSlice;obtain⟨_,_,heb,_⟩:=fq.isSlice;obtain⟨_,_,hec,_⟩:=jk.isSlice;have gR:=S.aN kI;have mR:=(S.mem _ (al kI)).2 lA;refine dx (M:=M3) (vs:=[vi,vs,rk,vl]) SJ rfl rfl (by intro u hu;simp at hu;rcases hu with rfl|rfl|rfl|rfl<;>first|exact iZ (by assumption) rfl rfl|(rw[hea];rfl)|(rw[heb];rfl)|(rw[hec];rfl)) rfl rfl gR mR (fun wF gF sF=>?_);refine ad (aM ?_);have Jq:=SA.size;have SS:=(SA.aw S).cR sF (fun k (hk:k=lz)=>by omega);have eE:∀b,M3 b→True:=fun _ _=>trivial
     have Z8:=fk.step sF (fun b hb (hn:b=lz)=>fk.ep gR (by decide) (hn▸hb));have Z9:=fq.step sF (fun b hb (hn:b=lz)=>fq.ep gR (by decide) (hn▸hb));have aaa:=jk.step sF (fun b hb (hn:b=lz)=>jk.ep gR (by decide) (hn▸hb));exact tq (vs:=[vi,vs,rk,vl]) rfl rfl b8 rfl SJ rfl gF ⟨Mf (x:=iq L) (ig (hn:=by decide) fR SS (Z8.lj Jq) (by show(L.map _).length≤_;rw[cx];omega)) (ig (hn:=by decide) fR SS (Z9.lj Jq) (by show(L.map _).length≤_;rw[cx];omega)) ((lV.le sF.le).le (Le.close fR SS)) (ig (hn:=by decide) fR SS (aaa.lj Jq) (by show((keysOf L).map _).length≤_;rw[cx];omega)),SS.back⟩
end Go.K
namespace Go.K
open Go.Proofs
namespace TKLater
theorem Nz:Enters Tryz.prog 15:=enters Tryz.func15 rfl (by decide)
theorem E21:Enters Tryz.prog 21:=enters Tryz.func21 rfl (by decide)
theorem E25:Enters Tryz.prog 25:=enters Tryz.func25 rfl (by decide)
end TKLater
open TKLater
set_option maxRecDepth 10000
theorem N4 (L:List En):(I8 (iq L)).2.2.1.length=((keysOf L).map (pk L)).length:=by rw[cx];rfl
end Go.K
namespace Go.K
open Go.Proofs
namespace TKSame10
theorem Nz:Enters Tryz.prog 15:=enters Tryz.func15 rfl (by decide)
theorem E21:Enters Tryz.prog 21:=enters Tryz.func21 rfl (by decide)
theorem E23:Enters Tryz.prog 23:=enters Tryz.func23 rfl (by decide)
theorem YP:Enters Tryz.prog 27:=enters Tryz.func27 rfl (by decide)
theorem T2:Enters Tryz.prog 28:=enters Tryz.func28 rfl (by decide)
theorem SX:Enters Tryz.prog 29:=enters Tryz.func29 rfl (by decide)
theorem E30:Enters Tryz.prog 30:=enters Tryz.func30 rfl (by decide)
theorem E31:Enters Tryz.prog 31:=enters Tryz.func31 rfl (by decide)
end TKSame10
open TKSame10
set_option maxRecDepth 10000
theorem CF {L:List En} (h:Af (-1) L=true) (hn:L.length≤100000):NY (I8 (iq L)) ((keysOf L).map (pk L)):=by
 have hF:=kH h
 have hk:(keysOf L).length≤50000000:=by
  have h1:=(k8 L).nodup.length_le_of_subset (l₂:=fU L) (fun x hx=>iT.1 hx);have:=j3 hF;omega
 refine⟨rfl,N4 L,by show(L.map _).length≤_;rw[cx];omega,by show(L.map _).length≤_;rw[cx];omega,by show(keysOf L).length≤_;omega,fun l hl=>?_⟩;obtain⟨k,_,rfl⟩:=cq.1 hl;have h1:=nP k L 0 hF;have lT:eR (-1) (pk L k)=true:=sC k L 0 (-1) hF (by omega) (by omega);have so:∀p∈pk L k,p.2.length≤500:=fun p hp=>(h1.2 p hp).2.2
 obtain⟨h2,h3⟩:=qW (pk L k) (-1) 500 (by omega) lT so (by omega);have hl:(pk L k).length≤L.length:=h1.1;exact⟨lT,fun p hp=>by have:=so p hp;omega,by omega,by omega⟩
theorem Hv (L:List En):partsOf (I8 (iq L)) ((keysOf L).map (pk L))=iq L:=rfl
theorem DR (p:Pa):vX p p=true:=uN.2 rfl
theorem rj {M:aI} {l l2:List Dc} {v0 v1:Value} {w0:World} (hM:Lt M w0) (hv:(RT.dc.sl).V M w0 l v0) (pE:(RT.dc.sl).V M w0 l2 v1):
  Spec Tryz.prog 6 #[v0,v1] w0 (fun v w=>v= .bool true∧Step M w0 M w aD):=by
 have fR:=hM;have T1:=jm l 0 1 5;have ahP:=jm l2 0 1 5;obtain⟨Hw,_⟩:=uH l (show(0:Int)≤0 by decide) (show(1:Int)≤1 by decide) 5;obtain⟨N5,_⟩:=uH l2 (show(0:Int)≤0 by decide) (show(1:Int)≤1 by decide) 5;have AD:=CF Hw (by omega);have Kw:=CF N5 (by omega);refine bh (args:=[_,_]) (fn:=Tryz.f6) Tryz.func6 rfl (n:=73) Tryz.ntmps6 ?_;have S:Step M w0 M w0 aD:=(ar _ _).b9 (fun _ h=>h.elim) (fun _ h=>h.elim);refine ak (aj (ah rfl rfl (ad (ak (aj (ae rfl rfl ?_))))));refine aT rfl rfl E21 (tX (most:=5) (a:=0) (s:=1) _ hM hv (by decide) (by decide) (by decide)) (fun r1 w1 hc=>?_);obtain⟨sG,s1⟩:=hc;replace hv:=hv.le s1.le;replace pE:=pE.le s1.le;replace hM:=s1.lt hM;have:=S.size;replace S:=S.aw s1;refine ah rfl rfl (ad (ak (aj (ae rfl rfl ?_))));refine aT rfl rfl E21 (tX (most:=5) (a:=0) (s:=1) _ hM pE (by decide) (by decide) (by decide)) (fun r2 w2 hc=>?_);obtain⟨rN,s2⟩:=hc;replace pE:=pE.le s2.le;replace sG:=sG.le s2.le;replace hM:=s2.lt hM;have:=S.size;replace S:=S.aw s2;refine ah rfl rfl (ad (ak (aj (ae rfl rfl ?_))));refine aT rfl rfl Nz (mE _ hM sG mG (by omega) Hw) (fun rb3 wb3 hc=>?_);obtain⟨sa3,rfl,vg,T4⟩:=hc;obtain⟨a3,rfl⟩:=vg.fL;replace sG:=sG.le T4.le;replace rN:=rN.le T4.le;replace hM:=T4.lt hM;have:=S.size;replace S:=S.aw T4;refine ae rfl rfl (bR rfl rfl rfl (bR rfl rfl rfl (ah rfl rfl (ah rfl rfl (ad (ak (aj (ae rfl rfl ?_))))))));refine aT rfl rfl Nz (mE _ hM rN mG (by omega) N5) (fun rb4 wb4 hc=>?_);obtain⟨sa4,rfl,yB,SY⟩:=hc;obtain⟨a4,rfl⟩:=yB.fL;replace sG:=sG.le SY.le;replace rN:=rN.le SY.le;replace vg:=vg.le (by decide) SY.le;replace hM:=SY.lt hM;have:=S.size;replace S:=S.aw SY;refine ae rfl rfl (bR rfl rfl rfl (bR rfl rfl rfl (ah rfl rfl (ah rfl rfl (ad (ak (ak (aj (ae rfl rfl (Rg.pS fK rfl rfl rfl (ae rfl rfl ?_)))))))))))
 refine Rg.xv (g:=29) rfl ((by simp)) (an rfl rfl (ae rfl rfl (an rfl rfl (Rg.pS fK rfl rfl rfl (aE rfl rfl rfl (ad (T.D6 rfl ((by simp)) (aU (ak (aj (ae rfl rfl ?_)))))))))));refine aT rfl rfl T2 (nW _ hM vg AD.hls AD.hdl AD.hn1 AD.hn2 AD.hd6 AD.hok) (fun r7 w7 hc=>?_);obtain⟨um,s7⟩:=hc;replace um:RT.pa.V M w7 (iq (gZ l 0 1 5)) r7:=um;replace sG:=sG.le s7.le;replace rN:=rN.le s7.le;replace vg:=vg.le (by decide) s7.le;replace yB:=yB.le (by decide) s7.le;replace hM:=s7.lt hM;have:=S.size;replace S:=S.aw s7;refine aT rfl rfl YP (uz (p:=iq (gZ l 0 1 5)) _ hM um (Cy (kH Hw) (by omega))) (fun r72 w72 hc=>?_);obtain⟨N6,S0,_⟩:=hc;obtain⟨sz,rfl,gS⟩:=S0 (GR Hw (by omega));obtain⟨az,rfl⟩:=gS.fL;replace sG:=sG.le N6.le;replace rN:=rN.le N6.le;replace vg:=vg.le (by decide) N6.le;replace yB:=yB.le (by decide) N6.le;replace um:=um.le N6.le;replace hM:=N6.lt hM;have:=S.size;replace S:=S.aw N6;refine ae rfl rfl (bR rfl rfl rfl (bR rfl rfl rfl (ah rfl rfl (ah rfl rfl (ad (ak (aj (ae rfl rfl (ae rfl rfl ?_)))))))));refine aT rfl rfl SX (rS _ hM vg yB AD Kw) (fun r82 w82 hc=>?_);obtain⟨rfl,KC⟩:=hc;replace sG:=sG.le KC.le;replace rN:=rN.le KC.le;replace vg:=vg.le (by decide) KC.le;replace yB:=yB.le (by decide) KC.le;replace um:=um.le KC.le;replace gS:=gS.le (by decide) KC.le;replace hM:=KC.lt hM;have:=S.size;replace S:=S.aw KC;refine ae rfl rfl ?_;refine aT rfl rfl E31 (qo _ hM sG (kH Hw) mG (by omega)) (fun r84 w84 hc=>?_);obtain⟨yz,KD⟩:=hc;replace sG:=sG.le KD.le;replace rN:=rN.le KD.le;replace vg:=vg.le (by decide) KD.le;replace yB:=yB.le (by decide) KD.le;replace um:=um.le KD.le;replace gS:=gS.le (by decide) KD.le;replace hM:=KD.lt hM;have:=S.size
 replace S:=S.aw KD;refine ae rfl rfl ?_;refine aT rfl rfl E31 (qo _ hM rN (kH N5) mG (by omega)) (fun r86 w86 hc=>?_);obtain⟨CX,Jr⟩:=hc;replace sG:=sG.le Jr.le;replace rN:=rN.le Jr.le;replace vg:=vg.le (by decide) Jr.le;replace yB:=yB.le (by decide) Jr.le;replace um:=um.le Jr.le;replace gS:=gS.le (by decide) Jr.le;replace yz:=yz.le Jr.le;replace hM:=Jr.lt hM;have:=S.size;replace S:=S.aw Jr;refine aT rfl rfl E30 (Ay _ hM yz CX) (fun r87 w87 hc=>?_);obtain⟨rfl,HG⟩:=hc;replace sG:=sG.le HG.le;replace rN:=rN.le HG.le;replace vg:=vg.le (by decide) HG.le;replace yB:=yB.le (by decide) HG.le;replace um:=um.le HG.le;replace gS:=gS.le (by decide) HG.le;replace yz:=yz.le HG.le;replace CX:=CX.le HG.le;replace hM:=HG.lt hM;have:=S.size;replace S:=S.aw HG;refine Rg.beq jS rfl rfl rfl (bI (v':= .bool true) (by simp[Hv]) (ae rfl rfl (an rfl rfl (ae rfl rfl (an rfl rfl (rT rfl rfl rfl (bI (v':= .bool true) (by simp) (aP rfl rfl rfl (ae rfl rfl (an rfl rfl (ae rfl rfl ?_)))))))))));refine an rfl rfl (ae rfl rfl (an rfl rfl ?_));refine aT rfl rfl SX (rS _ hM vg gS AD AD) (fun ahQ ahR hc=>?_);obtain⟨rfl,vY⟩:=hc;refine bI (v':= .bool true) (by rw[DR]) ?_;replace sG:=sG.le vY.le;replace rN:=rN.le vY.le;replace vg:=vg.le (by decide) vY.le;replace yB:=yB.le (by decide) vY.le;replace um:=um.le vY.le;replace gS:=gS.le (by decide) vY.le;replace yz:=yz.le vY.le;replace CX:=CX.le vY.le;replace hM:=vY.lt hM;have:=S.size;replace S:=S.aw vY;refine aP rfl rfl rfl (ae rfl rfl (an rfl rfl ?_));refine aT rfl rfl SX (pC _ (by simp)) (fun ahS ahT hc=>?_);obtain⟨rfl,rfl⟩:=hc;refine bI (v':= .bool true) (by simp) (aP rfl rfl rfl (ae rfl rfl (an rfl rfl (ae rfl rfl (an rfl rfl ?_)))))
 refine aT rfl rfl SX (pC _ (by simp)) (fun ahU ahV hc=>?_);obtain⟨rfl,rfl⟩:=hc;refine bI (v':= .bool false) (by simp) (an rfl rfl (jx rfl rfl (bI (v':= .bool true) (by simp) (aP rfl rfl rfl (ae rfl rfl (an rfl rfl (ae rfl rfl (an rfl rfl ?_))))))));refine aT rfl rfl SX (pC _ (by simp)) (fun ahW ahX hc=>?_);obtain⟨rfl,rfl⟩:=hc;refine bI (v':= .bool false) (by simp) (an rfl rfl (jx rfl rfl (bI (v':= .bool true) (by simp) (aP rfl rfl rfl (ae rfl rfl (an rfl rfl ?_))))));refine aT rfl rfl E23 (yi _ hM) (fun ahY ahZ hc=>?_);obtain⟨rfl,vZ⟩:=hc;replace sG:=sG.le vZ.le;replace rN:=rN.le vZ.le;replace vg:=vg.le (by decide) vZ.le;replace yB:=yB.le (by decide) vZ.le;replace um:=um.le vZ.le;replace gS:=gS.le (by decide) vZ.le;replace yz:=yz.le vZ.le;replace CX:=CX.le vZ.le;replace hM:=vZ.lt hM;have:=S.size;replace S:=S.aw vZ;refine aP rfl rfl rfl (ah rfl rfl (ad (aM ?_)));exact aS rfl rfl ⟨rfl,S⟩
end Go.K

/- What the law 'SegmentSame' needs of walks and plain Lean, part 3: nothing is assumed beyond the texts that it imports. -/
import Derived.Deep.Draws
import Derived.DeepKeys4
import Derived.Ground.GgzProg
import Derived.Ground.SlgmProg
import Derived.Ground.SlsfProg
import Derived.KernelRfl
import Derived.Lib.Bytealg
import Derived.Shelf.SlGeneric
import Derived.Shelf.SlIter.Nil
import Derived.Shelf.SlIterI.Nil
import Derived.Shelf.SlSortCmp.NoneTotal
import Derived.Shelf.SortM.Plain
import Derived.Shelf.SortM.SortNone
import Derived.Sort.Grow
import Derived.Sort.KeysCollected
import Derived.Sort.Walk0
import Derived.Test.YtohfoenhmkfjkaaGreatDoorProg
import Derived.Test.YtohfoenhmkfjkaaGreatDoorZSegmentSame1
import Derived.Test.YtohfoenhmkfjkaaGreatDoorZSegmentSame2
set_option linter.unusedVariables false
set_option linter.unusedSimpArgs false
theorem gp:type_of% @Go.K.Rg.iR:=@Go.K.Rg.iR
namespace Go.K
open Go.Proofs
set_option maxRecDepth 10000
def gZ (l:List Dc) (from_ step:Int):Nat→List En
 |0=>[]
 |k+1=>gZ l from_ step k++(match l[k]? with|some d=>[(mQ d,from_+step*(k:Int))]|none=>[])
theorem jm (l:List Dc) (a s:Int):∀k,(gZ l a s k).length=min k l.length
 |0=>by simp[gZ]
 |k+1=>by
  rw[gZ,bO,jm l a s k]
  cases h:l[k]? with
  |none=>have:=List.getElem?_eq_none_iff.1 h;simp;omega
  |some d=>have:=(av.1 h).1;simp;omega
theorem tV {l:List Dc} {a s:Int} {k:Nat} {d:Dc} (h:l[k]? =some d):gZ l a s (k+1)=gZ l a s k++[(mQ d,a+s*(k:Int))]:=by rw[gZ,h]
theorem tW {l:List Dc} {a s:Int} {k:Nat} (h:l.length≤k):gZ l a s (k+1)=gZ l a s k:=by
 rw[gZ,List.getElem?_eq_none_iff.2 h];simp
theorem zo {l:List Dc} {a s:Int} {n i:Nat} (h:l.length≤i∨n≤i) (h1:i≤n):gZ l a s i=gZ l a s n:=by
 induction n with
 |zero=>have:i=0:=by omega
        rw[this]
 |succ n ih=>
  rcases np h1 with e|dD
  ·rw[e]
  ·rcases h with h|h
   ·rw[tW (by omega)];exact ih (.inl h) (by omega)
   ·omega
theorem It {s k:Int} (h:0≤s∧s≤1000) (hk:0≤k∧k≤100):0≤s*k∧s*k≤100000:=
 ⟨Int.mul_nonneg h.1 hk.1,Int.le_trans (Int.mul_le_mul h.2 hk.2 hk.1 (by omega)) (by omega)⟩
theorem tX {M:aI} {l:List Dc} {v0:Value} {most:Nat} {a s:Int} (w0:World) (hM:Lt M w0) (hv:(RT.dc.sl).V M w0 l v0) (hm:most≤100) (ha:0≤a∧a≤1000000) (hs:0≤s∧s≤1000):
  Spec Tryz.prog 21 #[v0,.int .i64 (most:Int),.int .i64 a,.int .i64 s] w0 (fun v w=>(RT.en.sl).V M w (gZ l a s most) v∧Step M w0 M w aD):=by
 have fR:=hM;refine bh (args:=[_,_,_,_]) (fn:=Tryz.f21) Tryz.func21 rfl (n:=37) Tryz.ntmps21 ?_;have S:Step M w0 M w0 aD:=(ar _ _).b9 (fun _ h=>h.elim) (fun _ h=>h.elim);refine ak (aj (ah rfl rfl (ad (ak (aj (ah rfl rfl (ad (ak (ak (aj (ah rfl rfl ?_)))))))))));refine ad (aW ?_);refine cX (σ:=Nat×Value) (fun q=>[(0,v0),(1,.int .i64 (most:Int)),(2,.int .i64 a),(3,.int .i64 s),(9,q.2),(10,.int .i64 (q.1:Int))]) (fun q w=>∃M',Lt M' w∧Step M w0 M' w aD∧Own RT.en 43 M' w w0.heap.size q.2 (gZ l a s q.1)∧(RT.dc.sl).V M' w l v0∧q.1≤most∧q.1≤l.length) (fun q=>most-q.1) (0,.slice none 0 0) (.cons rfl (.cons rfl (.cons rfl (.cons rfl (.cons rfl (.cons rfl .nil)))))) ?_ ?_
 ·exact⟨M,hM,S,dw _ _ _ _ _,hv,bC _,bC _⟩
 ·rintro⟨i,u⟩ w ⟨M1,hM,S,ho,hv,hi,mM⟩;dsimp only at ho hi mM ⊢;refine ak (ak (aj (ae rfl rfl (ae rfl rfl (bz Tryz.underlying36 rfl hv rfl (cj rfl rfl rfl (ae rfl rfl ?_)))))));refine aL (g:=15) rfl (fun iK=>?_) (fun iK=>?_)
  ·refine an rfl rfl (ae rfl rfl (an rfl rfl (ae rfl rfl (an rfl rfl (cj rfl rfl rfl (aP rfl rfl rfl (ad ?_)))))));refine bK rfl (fun c3=>?_) (fun c3=>?_)
   ·refine aU (ak (aW (aj (ae rfl rfl (ae rfl rfl (ae rfl rfl ?_))))));refine cb (M:=M1) Tryz.underlying36 jW rfl rfl rfl hv (ao _ _) (by omega) (fun u5 d C9 Da=>?_);rw[aB]at C9;have hsi:=It (k:=(i:Int)) hs (by omega);refine b7 (M:=M1) (A:=RT.dc) aJ rfl jW (by decide) rfl rfl rfl Da (ao _ _) (fun v5 oN=>?_);refine aT rfl rfl E65 (Dk _ hM oN) (fun r5 w5 hc=>?_);obtain⟨qP,s5⟩:=hc;replace hv:=hv.le s5.le;replace ho:=ho.a7 s5;replace hM:=s5.lt hM;have:=S.size;replace S:=S.aw s5;refine ae rfl rfl (ae rfl rfl (ae rfl rfl (Rg.KJ rfl rfl rfl (by omega) (bE rfl rfl rfl (by omega) ?_))));obtain⟨uf,rfl⟩:=E6 qP;refine eM (places:=[(0,2),(2,1)]) cA vD UG rfl ⟨_,_,rfl,rfl,_,_,rfl,rfl,rfl⟩ (out:=[_,_,_]) ⟨0,[_,_],rfl,rfl,by simp[Value.cells],2,[_],rfl,rfl,by simp[Value.cells],rfl⟩ ?_;refine dQ (A:=RT.en) (hn:=by decide) (M:=M1) cZ vD (by decide) rfl rfl hM (show RT.en.V _ _ (mQ d,a+s*(i:Int)) _ from E7 qP (by omega)) (.inl rfl) (fun aaM aaN Bb zp=>?_);replace hv:=hv.le zp.le;replace qP:=qP.le zp.le;replace ho:=ho.a7 zp;replace hM:=zp.lt hM;have:=S.size;replace S:=S.aw zp;refine ch (M:=M1) (base:=w0.heap.size) cZ vD rfl rfl rfl rfl ho Bb (ao _ _) (by have:=jm l a s i;simp;omega) (by have:=jm l a s i;simp;omega) (S.size) (fun Qj Qk aaO LY zq=>?_);replace hv:=hv.le zq.le;replace qP:=qP.le zq.le;replace Bb:=Bb.le zq.le;replace hM:=zq.lt hM;have:=S.size;replace S:=S.cF zq ho (a8 _);replace ho:=LY;refine ah rfl rfl (ad (aj (ae rfl rfl (bE rfl rfl rfl (by omega) (ah rfl rfl (ad ?_))))));refine⟨rfl,(i+1,Qj),(.cons rfl (.cons rfl (.cons rfl (.cons rfl (.cons rfl (.cons rfl .nil)))))),?_,?_⟩
    ·exact⟨Qk,hM,S,by rw[tV C9];exact ho,hv,by dsimp only;omega,by dsimp only;omega⟩
    ·dsimp only;omega
   ·refine cK (ak (aj (ae rfl rfl (ah rfl rfl (ad (aM ?_))))));rw[←zo (i:=i) (n:=most) (by omega) hi];exact aS rfl rfl ⟨ho.close fR S (by have:=jm l a s i;omega),S.back⟩
  ·refine aq rfl rfl rfl rfl (aq rfl rfl rfl rfl (aq rfl rfl rfl rfl (aE rfl rfl rfl (ad (iV rfl (cK (ak (aj (ae rfl rfl (ah rfl rfl (ad ?_)))))))))));refine aM ?_;rw[←zo (i:=i) (n:=most) (by omega) hi];exact aS rfl rfl ⟨ho.close fR S (by have:=jm l a s i;omega),S.back⟩
end Go.K
namespace Go.K
open Go.Maps (Keyed)
structure eD (P:Program) (kt:TypeId) (w:World) (b:Nat) (es:List MapEntry) (clock:Nat):Prop where
 at_:w.heap[b]? =some (.map es.toArray clock)
 born:es.Pairwise fun x y=>x.born≠y.born
 lt:∀e∈es,e.born<clock
 keys:es.Pairwise fun x y=>x.key≠y.key
 ok:∀e∈es,∃l,keyOf P kt e.key=some l
def dH (zv:Value) (es:List MapEntry) (key v:Value):Prop:=(∃e∈es,e.key=key∧v=e.val)∨((∀e∈es,e.key≠key)∧v=zv)
section
variable {P:Program} {kt:TypeId} {w:World} {b clock:Nat} {es:List MapEntry}
theorem eD.step {M M' N:aI} {w':World} (h:eD P kt w b es clock) (s:Step M w M' w' N) (hn: ¬N b):eD P kt w' b es clock:=⟨s.bM h.at_ hn,h.born,h.lt,h.keys,h.ok⟩
theorem eD.a7 {M M':aI} {w':World} (h:eD P kt w b es clock) (s:Step M w M' w' aD):eD P kt w' b es clock:=h.step s fun h=>h
theorem fT {α:Type} {R:α→α→Prop} {l:List α} (h:l.Pairwise R) {i j:Nat} {x y:α} (hi:l[i]? =some x) (hj:l[j]? =some y) (gY:i<j):R x y:=by
 obtain⟨h1,h2⟩:=av.1 hi;obtain⟨h3,h4⟩:=av.1 hj;have:=List.pairwise_iff_getElem.1 h i j h1 h3 gY
 rwa [h2,h4]at this
theorem eD.Cg (h:eD P kt w b es clock) {x y:MapEntry} (hx:x∈es) (hy:y∈es) (e:x.key=y.key):x=y:=by
 obtain⟨i,hi⟩:=bT.1 hx;obtain⟨j,hj⟩:=bT.1 hy;rcases oZ i j with h1|h1|h1
 ·exact absurd e (fT h.keys hi hj h1)
 ·subst h1;rw[hi]at hj;exact aQ hj
 ·exact absurd e.symm (fT h.keys hj hi h1)
theorem eD.zr (h:eD P kt w b es clock) {i j:Nat} {x y:MapEntry} (hi:es[i]? =some x) (hj:es[j]? =some y) (e:x.born=y.born):i=j:=by
 rcases oZ i j with h1|h1|h1
 ·exact absurd e (fT h.born hi hj h1)
 ·exact h1
 ·exact absurd e.symm (fT h.born hj hi h1)
theorem eD.val_one (h:eD P kt w b es clock) {zv key v v':Value} (h1:dH zv es key v) (h2:dH zv es key v'):v=v':=by
 rcases h1 with⟨e,he,hk,hv⟩|⟨hn,hv⟩
 ·rcases h2 with⟨e',nI,qF,oI⟩|⟨JU,_⟩
  ·have:=h.Cg he nI (hk.trans qF.symm);rw[hv,oI,this]
  ·exact absurd hk (JU e he)
 ·rcases h2 with⟨e',nI,qF,_⟩|⟨_,oI⟩
  ·exact absurd qF (hn e' nI)
  ·rw[hv,oI]
theorem dj {r:Nat} {a:Array MapEntry} {c:Nat} (hb:w.heap[r]? =some (.map a c)):(getObj r).run P w= .ok (.map a c) w:=by simp[getObj,Sem.run,hb]
theorem run_setObj_map {r:Nat} {a:Array MapEntry} {c:Nat} {o:Obj} (hb:w.heap[r]? =some (.map a c)):(setObj r o).run P w= .ok () {w with heap:=w.heap.setIfInBounds r o}:=by simp[setObj,Sem.run,hb]
theorem eD.push (h:eD P kt w b es clock) {key v:Value} {kl:Lit} (jP:keyOf P kt key=some kl) (hn:∀e∈es,e.key≠key) {w':World} (hw:w'.heap[b]? =some (.map (es++([⟨key,v,clock⟩]:List MapEntry)).toArray (clock+1))):eD P kt w' b (es++[⟨key,v,clock⟩]) (clock+1):=
 ⟨hw,List.pairwise_append.2 ⟨h.born,List.pairwise_singleton _ _,fun x hx y hy=>by rw[cD.1 hy];have:=h.lt x hx;show x.born≠clock;omega⟩,(fun e he=>by
  rcases cY.1 he with he|he
  ·have:=h.lt e he;omega
  ·rw[cD.1 he];exact Nat.lt_succ_self _),List.pairwise_append.2 ⟨h.keys,List.pairwise_singleton _ _,fun x hx y hy=>by rw[cD.1 hy];exact hn x hx⟩,(fun e he=>by
  rcases cY.1 he with he|he
  ·exact h.ok e he
  ·rw[cD.1 he];exact⟨kl,jP⟩)⟩
theorem dH.push {zv key:Value} {s:Nat} (hn:∀e∈es,e.key≠key) (gK v':Value):dH zv (es++[⟨key,zv,s⟩]) gK v'↔dH zv es gK v':=by
 constructor
 ·rintro(⟨e,he,hk,hv⟩|⟨h1,h2⟩)
  ·rcases cY.1 he with he|he
   ·exact .inl ⟨e,he,hk,hv⟩
   ·rw[cD.1 he]at hk hv;exact .inr ⟨fun e he=>by rw[←hk];exact hn e he,hv⟩
  ·exact .inr ⟨fun e he=>h1 e (lf _ he),h2⟩
 ·rintro(⟨e,he,hk,hv⟩|⟨h1,h2⟩)
  ·exact .inl ⟨e,lf _ he,hk,hv⟩
  ·by_cases hk:key=gK
   ·exact .inl ⟨⟨key,zv,s⟩,by simp,hk,h2⟩
   ·exact .inr ⟨fun e he=>by
     rcases cY.1 he with he|he
     ·exact h1 e he
     ·rw[cD.1 he];exact hk,h2⟩
end
section
variable {P:Program} {r:Option Nat} {n:Nat} {L:Sl} {ds:List Deferred} {w:World} {K:Kt} {ops:Array Oper} {rest:List Oper} {d:Nat} {x y z:Operand} {ty:TypeId} {pos:String} {af:Array Edge}
variable {kt:TypeId} {M:aI} {b clock:Nat} {es:List MapEntry}
theorem Rg.zt {t e:TypeId} (M:aI) (ht:P.underlying t=some (.map kt e)) (hd:Nat.blt d n=true)
  (k:∀b w',w.heap.size≤b→b<w'.heap.size→eD P kt w' b [] 0→Step M w (ins M b) w' aD→Rg P r n ops rest ((d,.map (some b))::L) ds w' K):
  Rg P r n ops ({dst:=some d,op:= .makeMap t none,type:=ty,pos,after:=af,guard:=none}::rest) L ds w K:=by
 refine .op (fun _ h=>by cases h) rfl rfl hd (.map (some w.heap.size)) (w.alloc (.map #[] 0)) (fun ρ hρ=>?_) (k w.heap.size _ (a8 _) (by simp) ⟨cz w _,List.Pairwise.nil,(fun e he=>by cases he),List.Pairwise.nil,(fun e he=>by cases he)⟩ ((db M w _).own (a8 _) (by simp)));simp only[execOp];simp[Instr.makeMap,newObj,Sem.run,run_underlying ht]
theorem Rg.mapEntry {t e:TypeId} {zv key:Value} {size bytes:Nat} {kl:Lit} (ht:P.underlying t=some (.map kt e)) (Kk:Keyed P kt) (hi:TI P e zv size bytes) (hx:ev L x=some (.map (some b))) (hy:ev L y=some key) (hd:Nat.blt d n=true) (jP:keyOf P kt key=some kl) (h:eD P kt w b es clock) (hm:M b)
  (k:∀w' mS Bc v s,eD P kt w' b mS Bc→dH zv es key v→(⟨key,v,s⟩:MapEntry)∈mS→(∀gK v',dH zv mS gK v'↔dH zv es gK v')→((mS.map (·.key)=es.map (·.key)∧∃e∈es,e.key=key)∨(mS.map (·.key)=es.map (·.key)++[key]∧∀e∈es,e.key≠key))→Step M w M w' (fun k=>k=b)→Rg P r n ops rest ((d,.tuple #[v,.int .i64 (s:Nat)])::L) ds w' K):
  Rg P r n ops ({dst:=some d,op:= .mapEntry t x y,type:=ty,pos,after:=af,guard:=none}::rest) L ds w K:=by
 have dD:=al h.at_;rcases Kk.find w jP es h.ok with⟨h1,h2⟩|⟨j,e0,h1,h2,h3⟩
 ·obtain⟨inf,i1,i2,_,_⟩:=hi.get;have hz:(zeroValue e).run P w= .ok zv w:=by simp[zeroValue,typeInfo,i1,i2]
  have hw:({w with heap:=w.heap.setIfInBounds b (.map (es.toArray.push ⟨key,zv,clock⟩) (clock+1))}:World).heap[b]? =some (.map (es++([⟨key,zv,clock⟩]:List MapEntry)).toArray (clock+1)):=by
   simp[cU,dD]
  refine .op (fun _ h=>by cases h) rfl rfl hd _ _ (fun ρ hρ=>?_) (k _ _ _ zv clock (h.push jP h2 hw) (Or.inr ⟨h2,rfl⟩) (by simp) (dH.push h2) (Or.inr ⟨by simp,h2⟩) (gH M hm));simp only[execOp,hρ x _ hx,hρ y _ hy,Instr.mapEntry,cr,run_underlying ht,cV,dj h.at_,Kk.check w false jP,h1,hz,run_setObj_map h.at_];simp[goInt]
 ·have he:e0∈es:=aH h2
  have Fv:es.toArray.modify j (fun e=>{e with key:=key})=es.toArray:=by
   apply Array.ext_getElem?;intro i;rw[qq]
   split
   ·rename_i Ql
    subst Ql;simp only[qp,h2,fI];rw[←h3]
   ·rfl
  have hw:({w with heap:=w.heap.setIfInBounds b (.map es.toArray clock)}:World).heap[b]? =some (.map es.toArray clock):=by simp[cU,dD]
  have hj:es.toArray[j]? =some e0:=by simpa using h2
  have jz:(Instr.keyThatStays ((Option.map (fun(e:MapEntry)=>e.key) es.toArray[j]?).getD key) key).run P w= .ok key w:=by
   rw[hj];simp only[fI,Option.getD_some,h3];exact Kk.stays w jP
  refine .op (fun _ h=>by cases h) rfl rfl hd _ _ (fun ρ hρ=>?_) (k _ es clock e0.val e0.born ⟨hw,h.born,h.lt,h.keys,h.ok⟩ (Or.inl ⟨e0,he,h3,rfl⟩) (by rw[←h3];exact he) (fun _ _=>Iff.rfl) (Or.inl ⟨rfl,e0,he,h3⟩) (gH M hm));simp only[execOp,hρ x _ hx,hρ y _ hy,Instr.mapEntry,cr,run_underlying ht,cV,dj h.at_,Kk.check w false jP,h1,jz,Fv,run_setObj_map h.at_];simp[goInt,hj]
theorem Rg.entryStore {t:TypeId} {key v0 val:Value} {s:Nat} (hx:ev L x=some (.map (some b))) (hy:ev L y=some (.int .i64 (s:Int))) (hz:ev L z=some val) (h:eD P kt w b es clock) (hm:M b) (mO:(⟨key,v0,s⟩:MapEntry)∈es)
  (k:∀w' mS,eD P kt w' b mS clock→mS.map (·.key)=es.map (·.key)→(∀zv gK v',dH zv mS gK v'↔(gK=key∧v'=val)∨(gK≠key∧dH zv es gK v'))→Step M w M w' (fun k=>k=b)→Rg P r n ops rest L ds w' K):
  Rg P r n ops ({dst:=none,op:= .entryStore t x y z,type:=ty,pos,after:=af,guard:=none}::rest) L ds w K:=by
 have dD:=al h.at_;obtain⟨i,hi⟩:=bT.1 mO;have mM:=(av.1 hi).1
 have Wl:es.toArray.findIdx? (fun e=>(e.born:Int)==(s:Int))=some i:=by
  rw[List.findIdx?_toArray,List.findIdx?_eq_some_iff_getElem];refine⟨mM,by rw[(av.1 hi).2];simp,fun j hj=>?_⟩;have sr:j<es.length:=by omega
  have:=fun e=>h.zr (aF sr) hi e
  simp only[Bool.not_eq_true,beq_eq_false_iff_ne,ne_eq];intro e;have e2:((es[j]).born:Int)=(s:Int):=by simpa using e
  have:=this (by show(es[j]).born=s;omega);omega
 obtain⟨mS,qR⟩:∃mS,mS=es.set i ⟨key,val,s⟩:=⟨_,rfl⟩
 have Fv:es.toArray.modify i (fun e=>{e with val:=val})=mS.toArray:=by
  apply Array.ext_getElem?;intro j;rw[qq,qR];simp only[qp,eg]
  split
  ·rename_i Ql
   subst Ql;rw[hi];simp
  ·rfl
 have gD:∀j e',mS[j]? =some e'→(j=i∧e'=⟨key,val,s⟩)∨(j≠i∧es[j]? =some e'):=fun j e' hj=>by
  rw[qR,eg]at hj
  split at hj
  ·rename_i gY
   left;exact⟨gY.symm,by simpa[mM]using hj.symm⟩
  ·rename_i gY
   exact .inr ⟨fun e=>gY e.symm,hj⟩
 have mT:mS.map (·.key)=es.map (·.key):=by
  rw[qR,List.map_set];apply kL;intro j;rw[eg]
  split
  ·rename_i gY
   subst gY;have e:=(av.1 hi).2;simp[mM,e]
  ·rfl
 have Fw:mS.map (·.born)=es.map (·.born):=by
  rw[qR,List.map_set];apply kL;intro j;rw[eg]
  split
  ·rename_i gY
   subst gY;have e:=(av.1 hi).2;simp[mM,e]
  ·rfl
 have hw:({w with heap:=w.heap.setIfInBounds b (.map mS.toArray clock)}:World).heap[b]? =some (.map mS.toArray clock):=by simp[cU,dD]
 have dZ:∀e'∈mS,(e'=⟨key,val,s⟩)∨(e'∈es∧e'.key≠key):=fun e' nI=>by
  obtain⟨j,hj⟩:=bT.1 nI;rcases gD j e' hj with⟨_,e⟩|⟨eE,xF⟩
  ·exact .inl e
  ·refine .inr ⟨aH xF,fun e=>eE ?_⟩;rcases oZ j i with h1|h1|h1
   ·exact absurd e (fT h.keys xF hi h1)
   ·exact h1
   ·exact absurd e.symm (fT h.keys hi xF h1)
 have Fx:(⟨key,val,s⟩:MapEntry)∈mS:=aH (i:=i) (by rw[qR,eg];simp[mM])
 have hold:∀e'∈es,e'.key≠key→e'∈mS:=fun e' nI eE=>by
  obtain⟨j,hj⟩:=bT.1 nI;refine aH (i:=j) ?_;rw[qR,eg,if_neg]
  ·exact hj
  ·rintro rfl;rw[hi]at hj;cases hj;exact eE rfl
 have hW:eD P kt {w with heap:=w.heap.setIfInBounds b (.map mS.toArray clock)} b mS clock:=by
  refine⟨hw,?_,fun e' nI=>?_,?_,fun e' nI=>?_⟩
  ·have:=du.2 h.born;rw[←Fw]at this;exact du.1 this
  ·rcases dZ e' nI with e|⟨h1,_⟩
   ·rw[e];exact(h.lt _ mO:s<clock)
   ·exact h.lt _ h1
  ·have:=du.2 h.keys;rw[←mT]at this;exact du.1 this
  ·rcases dZ e' nI with e|⟨h1,_⟩
   ·rw[e];exact(h.ok _ mO:∃l,keyOf P kt key=some l)
   ·exact h.ok _ h1
 refine .OH (fun _ h=>by cases h) rfl rfl _ (fun ρ hρ=>?_) (k _ mS hW mT (fun zv gK v'=>?_) (gH M hm))
 ·simp only[execOp,hρ x _ hx,hρ y _ hy,hρ z _ hz,Instr.entryStore,cr,dj h.at_,cV,asInt,asIntOf,Sem.run_pure,Wl,Fv,run_setObj_map h.at_]
 ·constructor
  ·rintro(⟨e',nI,hk,hv⟩|⟨h1,h2⟩)
   ·rcases dZ e' nI with e|⟨h3,h4⟩
    ·subst e;exact .inl ⟨hk.symm,hv⟩
    ·exact .inr ⟨by rw[←hk];exact h4,.inl ⟨e',h3,hk,hv⟩⟩
   ·have eE:gK≠key:=fun e=>h1 _ Fx e.symm
    exact .inr ⟨eE,.inr ⟨fun e' nI=>fun e=>by
     by_cases h5:e'.key=key
     ·exact eE (e.symm.trans h5)
     ·exact h1 e' (hold e' nI h5) e,h2⟩⟩
  ·rintro(⟨rfl,rfl⟩|⟨eE,⟨e',nI,hk,hv⟩|⟨h1,h2⟩⟩)
   ·exact .inl ⟨_,Fx,rfl,rfl⟩
   ·exact .inl ⟨e',hold e' nI (by rw[hk];exact eE),hk,hv⟩
   ·exact .inr ⟨fun e' nI=>by
     rcases dZ e' nI with e|⟨h3,_⟩
     ·rw[e];exact fun e=>eE e.symm
     ·exact h1 e' h3,h2⟩
theorem Rg.qa {t e:TypeId} {zv key:Value} {size bytes:Nat} {kl:Lit} (ht:P.underlying t=some (.map kt e)) (Kk:Keyed P kt) (hi:TI P e zv size bytes) (hx:ev L x=some (.map (some b))) (hy:ev L y=some key) (hd:Nat.blt d n=true) (jP:keyOf P kt key=some kl) (h:eD P kt w b es clock)
  (k:∀v,dH zv es key v→Rg P r n ops rest ((d,v)::L) ds w K):
  Rg P r n ops ({dst:=some d,op:= .lookup t x y false,type:=ty,pos,after:=af,guard:=none}::rest) L ds w K:=by
 rcases Kk.find w jP es h.ok with⟨h1,h2⟩|⟨j,e0,h1,h2,h3⟩
 ·obtain⟨inf,i1,i2,_,_⟩:=hi.get;have hz:(zeroValue e).run P w= .ok zv w:=by simp[zeroValue,typeInfo,i1,i2]
  refine .op (fun _ h=>by cases h) rfl rfl hd zv w (fun ρ hρ=>?_) (k zv (Or.inr ⟨h2,rfl⟩));simp only[execOp,hρ x _ hx,hρ y _ hy,Instr.lookup,cr,run_underlying ht,cV,dj h.at_,Sem.run_pure,Kk.check w _ jP,h1,hz];simp
 ·refine .op (fun _ h=>by cases h) rfl rfl hd e0.val w (fun ρ hρ=>?_) (k e0.val (Or.inl ⟨e0,aH h2,h3,rfl⟩));simp only[execOp,hρ x _ hx,hρ y _ hy,Instr.lookup,cr,run_underlying ht,cV,dj h.at_,Sem.run_pure,Kk.check w _ jP,h1];simp
end
end Go.K
namespace Go.K
open Go.Proofs
set_option maxRecDepth 10000
open Go.Maps (Keyed)
def kv (t:Fd):Value:= .agg #[.string ⟨t.1.toArray⟩,.string ⟨t.2.toArray⟩]
theorem qS {a b:Fd} (h:kv a=kv b):a=b:=by
 unfold kv at h;simp only[Value.agg.injEq,Array.mk.injEq,List.cons.injEq,Value.string.injEq,ByteArray.mk.injEq,and_true]at h;exact la h.1 h.2
theorem Fy:laidOutB Tryz.prog=true:=by kernel_rfl
theorem Fz:Tryz.prog.types.size=356:=by kernel_rfl
theorem wT:Keyed Tryz.prog 47:=Keyed.of_law (deep_law_laid Fy (m:=2) (k:=47) (by omega) (by rw[Fz];decide) (by kernel_rfl) (by kernel_rfl))
theorem Qm:Tryz.prog.keyType 47=true:=by kernel_rfl
theorem Ch:Tryz.prog.cellsOf 47=2:=by kernel_rfl
theorem Iu:Tryz.prog.cellsOf 9=1:=by kernel_rfl
theorem FA (t:Fd) (h1:t.1.length≤140737488355328) (h2:t.2.length≤140737488355328):∃l,keyOf Tryz.prog 47 (kv t)=some l:=by
 have e1:(⟨t.1.toArray⟩:ByteArray).size=t.1.length:=by simp[ByteArray.size]
 have e2:(⟨t.2.toArray⟩:ByteArray).size=t.2.length:=by simp[ByteArray.size]
 have hs:∀(s:ByteArray),s.size≤maxLen→Tryz.prog.keyLits 356 9 [.string s]=some [.string s.data.toList]:=fun s hs=>by
  show(match Tryz.prog.underlying 9,[Value.string s]with|_,_=>_)=_;rw[aA];exact if_pos hs
 unfold keyOf kv;rw[bA];simp only[Qm,Value.formed,bA,Ch,Fz]
 have key:∃ls,Tryz.prog.keyLits (356+1) 47 [.string ⟨t.1.toArray⟩,.string ⟨t.2.toArray⟩]=some ls:=by
  unfold Program.keyLits;simp only[bA];rw[if_pos ⟨by rw[Ch];rfl,by kernel_rfl⟩];simp only[List.mapM_cons,List.mapM_nil,Iu];have g1:=hs ⟨t.1.toArray⟩ (by rw[e1];unfold maxLen;omega);have g2:=hs ⟨t.2.toArray⟩ (by rw[e2];unfold maxLen;omega);refine⟨[.string (⟨t.1.toArray⟩:ByteArray).data.toList,.string (⟨t.2.toArray⟩:ByteArray).data.toList],?_⟩;simp only[List.drop_zero,List.drop_succ_cons,lY,List.take_zero,g1,g2];rfl
 obtain⟨ls,hls⟩:=key;exact⟨.string (keyBytes ls),by rw[if_pos (by simp)];show Option.map _ (Tryz.prog.keyLits (356+1) 47 [.string ⟨t.1.toArray⟩,.string ⟨t.2.toArray⟩])=_;rw[hls];rfl⟩
end Go.K
namespace Go.K
open Go.Proofs
set_option maxRecDepth 10000
def fg (x:Fd):List (Fd×Nat):=(words x.2).zipIdx.map fun p=>((x.1,p.1),p.2)
def bP (l:List Fd):List (Fd×Nat):=l.flatMap fg
theorem lQ (x:Fd):(fg x).length=(words x.2).length:=by simp[fg]
theorem FB {x:Fd} {k:Nat} {y:List UInt8} (h:(words x.2)[k]? =some y):(fg x)[k]? =some ((x.1,y),k):=by
 simp[fg,List.getElem?_zipIdx,h]
theorem pz {fs:List Fd} {i:Nat} {x:Fd} (h:fs[i]? =some x):bP (fs.take (i+1))=bP (fs.take i)++fg x:=by
 rw[bc,h];simp[bP]
structure LZ (P:Program) (g:FuncId) (cap:List Value) (B:Nat) (J:List (Fd×Nat)→aI→World→Prop):Prop where
 enters:Enters P g
 step:∀ts M w M' w',J ts M w→Step M w M' w' aD→J ts M' w'
 tell:∀ts M w (t:Fd) (i:Nat),J ts M w→Lt M w→t.1.length≤900000→t.2.length≤140737488355328→i≤1000000→ts.length≤10000000→Spec P g ([kv t,.int .i64 (i:Int)]++cap).toArray w (fun _ w'=>∃M',Lt M' w'∧J (ts++[(t,i)]) M' w'∧Step M w M' w' (jU M B))
theorem wU {M:aI} {d:Dc} {v0:Value} {g:FuncId} {cap:List Value} {B:Nat} {J:List (Fd×Nat)→aI→World→Prop} (w0:World) (hM:Lt M w0) (hv:RT.dc.V M w0 d v0) (hl:∀f∈d.2,f.1.length≤900000∧f.2.length≤900000) (Tr:d.2.length≤8) (hT:LZ Tryz.prog g cap B J) (hJ:J [] M w0):
  Spec Tryz.prog 154 #[v0,.func (.func g) #[] cap.toArray] w0 (fun v w=>∃M',Lt M' w∧J (bP d.2) M' w∧Step M w0 M' w (jU M B)):=by
 refine bh (args:=[_,_]) (fn:=Tryz.f154) Tryz.func154 rfl (n:=33) Tryz.ntmps154 ?_;have S:Step M w0 M w0 (jU M B):=(ar _ _).b9 (fun _ h=>h.elim) (fun _ h=>h.2);refine ak (aj ?_);refine gp (A:=RT.dc) rfl rfl hM hv rfl (fun u0 w1 cG s0 _=>?_);replace hJ:=hT.step _ _ _ _ _ hJ s0;replace hM:=s0.lt hM;have:=S.size;replace S:=S.aw s0;refine ad (ak (aj ?_));refine ax (M:=M) (A:=RT.dc) (B:=(RT.fd).sl) aJ rfl rfl ow (by decide) (xV) rfl rfl (by decide) (by assumption) (by repeat (first|exact ao _ _|refine aV (br (by assumption)) ?_)) (fun tP jc=>?_);refine bw (M:=M) aO rfl rfl rfl rfl rfl (by assumption) (by repeat (first|exact ao _ _|refine aV (br (by assumption)) ?_)) (fun vF k4=>?_);refine bz aO rfl k4 rfl (ae rfl rfl (ad (aW ?_)));refine cX (σ:=Nat) (fun i=>[(1,.func (.func g) #[] cap.toArray),(9,vF),(10,.int .i64 (d.2.length:Int)),(11,.int .i64 (i:Int))]) (fun i w=>∃M',Lt M' w∧Step M w0 M' w (jU M B)∧(RT.fd.sl).V M' w d.2 vF∧J (bP (d.2.take i)) M' w∧i≤d.2.length∧(bP (d.2.take i)).length≤900001*i) (fun i=>d.2.length-i) 0 (.cons rfl (.cons rfl (.cons rfl (.cons rfl .nil)))) ?_ ?_
 ·exact⟨_,hM,S,k4,hJ,bC _,a8 _⟩
 ·rintro i w ⟨M1,hM,S,mJ,hJ,hi,Hx⟩;refine ak (aj (cj rfl rfl rfl (ad (ak ?_))));refine bK rfl (fun c2=>?_) (fun c2=>?_)
  ·refine aU (ak (aW (ak (aj ?_))));refine cb (M:=M1) aO gU rfl rfl rfl mJ (ao _ _) (by omega) (fun u3 x HA gy=>?_);rw[aB]at HA;have xz:=hl _ (aH HA);refine b7 (M:=M1) (A:=RT.fd) bQ rfl gU (by decide) rfl rfl rfl gy (ao _ _) (fun v3 qw=>?_);refine sm (A:=RT.fd) (M:=M1) gU rfl rfl rfl rfl rfl (by assumption) (ao _ _) hM (fun L0 ad6 wV Iv ad7=>?_);replace mJ:=mJ.le Iv.le;replace hJ:=hT.step _ _ _ _ _ hJ Iv;replace hM:=Iv.lt hM;have:=S.size;replace S:=S.aw Iv;refine ad (ak (aj ?_));refine ax (M:=M1) (A:=RT.fd) (B:=RT.str) bQ rfl rfl I9 (by decide) (LF) rfl rfl (by decide) (by assumption) (by repeat (first|exact ao _ _|refine aV (br (by assumption)) ?_)) (fun Io zc=>?_);refine bw (M:=M1) aA rfl rfl rfl rfl rfl zc (ao _ _) (fun v4 nk=>?_);obtain rfl:=dB nk;refine aT rfl rfl Pk (tH (l:=x.2) _ hM xz.2) (fun v5 w5 hc=>?_);obtain⟨Qn,s5⟩:=hc;replace mJ:=mJ.le s5.le;replace wV:=wV.le (by decide) s5.le;replace hJ:=hT.step _ _ _ _ _ hJ s5;replace hM:=s5.lt hM;have:=S.size;replace S:=S.aw s5;have Tq:=j2 x.2;refine bz aC rfl Qn rfl (ae rfl rfl (ad (aW ?_)));refine cX (σ:=Nat) (fun k=>[(1,.func (.func g) #[] cap.toArray),(5,L0),(9,vF),(10,.int .i64 (d.2.length:Int)),(11,.int .i64 (i:Int)),(17,v5),(18,.int .i64 ((words x.2).length:Int)),(19,.int .i64 (k:Int))]) (fun k w=>∃M',Lt M' w∧Step M w0 M' w (jU M B)∧(RT.fd.sl).V M' w d.2 vF∧cf RT.fd M' w L0 x∧(RT.str.sl).V M' w (words x.2) v5∧J (bP (d.2.take i)++(fg x).take k) M' w∧k≤(words x.2).length) (fun k=>(words x.2).length-k) 0 (.cons rfl (.cons rfl (.cons rfl (.cons rfl (.cons rfl (.cons rfl (.cons rfl (.cons rfl .nil)))))))) ?_ ?_
   ·exact⟨_,hM,S,mJ,wV,Qn,by rw[List.take_zero,jT];exact hJ,bC _⟩
   ·rintro k w ⟨M2,hM,S,mJ,wV,Qn,hJ,hk⟩;refine ak (aj (cj rfl rfl rfl (ad (ak ?_))));refine bK rfl (fun c5=>?_) (fun c5=>?_)
    ·refine aU (ak (aW (ak (aj (ae rfl rfl ?_)))));refine cb (M:=M2) aC I9 rfl rfl rfl Qn (ao _ _) (by omega) (fun u6 y DW Ij=>?_);rw[aB]at DW;refine bw (M:=M2) aA rfl rfl rfl rfl rfl Ij (ao _ _) (fun v6 pF=>?_);have Ob:=(iM.1 pF).2;obtain rfl:=dB pF;refine ah rfl rfl (ah rfl rfl (ad (aj (ae rfl rfl ?_))));refine ax (M:=M2) (A:=RT.fd) (B:=RT.str) bQ rfl rfl I9 (by decide) (DY) rfl rfl (by decide) (by assumption) (by repeat (first|exact ao _ _|refine aV (br (by assumption)) ?_)) (fun ad8 Qo=>?_);refine bw (M:=M2) aA rfl rfl rfl rfl rfl Qo (ao _ _) (fun v7 sy=>?_);obtain rfl:=dB sy;refine ae rfl rfl (eM (places:=[(0,1),(1,1)]) bA ja UH rfl ⟨_,_,rfl,rfl,_,_,rfl,rfl,rfl⟩ (out:=[_,_]) ⟨0,[_],rfl,rfl,by simp[Value.cells],1,[_],rfl,rfl,by simp[Value.cells],rfl⟩ (ae rfl rfl ?_));refine Rg.oH (first:=[]) (captured:=cap) (xs:=[.tmp 28,.tmp 29]) rfl rfl rfl hT.enters (hT.tell _ _ _ (x.1,y) k hJ hM xz.1 Ob (by omega) (by rw[bO,bF,lQ];omega)) (fun r7 w7 hc=>?_);obtain⟨M7,hM7,hJ7,s7⟩:=hc;refine ad (aj (bE rfl rfl rfl (by omega) (ae rfl rfl (ad ?_))));refine⟨rfl,k+1,(.cons rfl (.cons rfl (.cons rfl (.cons rfl (.cons rfl (.cons rfl (.cons rfl (.cons rfl .nil)))))))),?_,?_⟩
     ·exact⟨M7,hM7,S.trans s7 (fun b hb h=>⟨h.1,(S.mem b hb).1 h.2⟩),mJ.le s7.le,wV.le (by decide) s7.le,Qn.le s7.le,by rw[bc,FB DW,bY,←fv];exact hJ7,by omega⟩
     ·omega
    ·refine cK (aj (bE rfl rfl rfl (by omega) (ae rfl rfl (ad ?_))));refine⟨rfl,i+1,(.cons rfl (.cons rfl (.cons rfl (.cons rfl .nil)))),?_,?_⟩
     ·exact⟨_,hM,S,mJ,by rw[pz HA];have e:(fg x).take k=fg x:=aK (by rw[lQ];omega);rw[e]at hJ;exact hJ,by omega,by rw[pz HA,bO,lQ];omega⟩
     ·omega
  ·refine cK ?_
   first|refine fP.nil ?_|simp+decide only[xu,l0,if_true,if_false]|skip
   have e:d.2.take i=d.2:=aK (by omega);rw[e]at hJ;exact kh rfl ⟨_,hM,hJ,S⟩
theorem vI {M:aI} {w:World} {t:Fd} (h1:t.1.length≤140737488355328) (h2:t.2.length≤140737488355328):RT.fd.V M w t (kv t):=dR (iM.2 ⟨rfl,h1⟩) (iM.2 ⟨rfl,h2⟩) rfl rfl rfl rfl
def WJ (b B:Nat) (ts:List (Fd×Nat)) (M:aI) (w:World):Prop:=w.heap[b]? =some (.cells #[.int .i64 (ts.length:Int)] 3 (0,0))∧M b∧B≤b
theorem xY {M:aI} {b B:Nat} {ts:List (Fd×Nat)} {t:Fd} {i:Nat} (w0:World) (hM:Lt M w0) (h1:t.1.length≤900000) (h2:t.2.length≤140737488355328) (Er:ts.length≤10000000) (hJ:WJ b B ts M w0):
  Spec Tryz.prog 161 #[kv t,.int .i64 (i:Int),.pointer (some ⟨b,0,none⟩)] w0 (fun v w=>∃M',Lt M' w∧WJ b B (ts++[(t,i)]) M' w∧Step M w0 M' w (jU M B)):=by
 obtain⟨gb,dC,hB⟩:=hJ;refine bh (args:=[_,_,_]) (fn:=Tryz.f161) Tryz.func161 rfl (n:=7) Tryz.ntmps161 ?_;have S:Step M w0 M w0 (jU M B):=(ar _ _).b9 (fun _ h=>h.elim) (fun _ h=>h.2);refine ak (aj ?_);refine gp (A:=RT.fd) rfl rfl hM (vI (by omega) h2) rfl (fun u0 w1 cG s0 _=>?_);have:=al gb;replace dC:=(s0.mem _ this).2 dC;replace gb:=s0.aN gb;replace hM:=s0.lt hM;have:=S.size;replace S:=S.aw s0;refine ad (aj (aX ay rfl rfl rfl (by assumption) rfl (bE rfl rfl rfl (by omega) ?_)));refine cu (M:=M) I3 rfl rfl gb rfl (rfl) dC (fun Iw fX na=>?_);change Iw.heap[_]? =some (Obj.cells #[.int .i64 ((ts.length:Int)+1)] _ _)at fX;have:=al gb;replace dC:=(na.mem _ this).2 dC;replace hM:=na.lt hM;have:=S.size;replace S:=S.trans na (fun k hk h=>by have h:_=_:=h;subst h;first|(exfalso;omega)|(show _≤_;omega)|exact⟨by first|omega|assumption,(S.mem _ hk).1 ((na.mem _ (al gb)).1 dC)⟩|exact .inl rfl|exact .inr rfl|exact .inr (.inl rfl)|exact .inr (.inr rfl)|exact rfl);have FC:=fX;clear gb;have gb:=FC;clear FC;refine ad ?_
 first|refine fP.nil ?_|simp+decide only[xu,l0,if_true,if_false]|skip
 exact kh rfl ⟨_,hM,⟨by rw[bO];exact gb,dC,hB⟩,S⟩
theorem zu {b B:Nat}:LZ Tryz.prog 161 [.pointer (some ⟨b,0,none⟩)] B (WJ b B):=
 ⟨UR,fun ts M w M' w' ⟨h1,h2,h3⟩ s=>⟨s.aN h1,(s.mem _ (al h1)).2 h2,h3⟩,fun ts M w t i hJ hM h1 h2 _ h4=>xY w hM h1 h2 h4 hJ⟩
theorem zw {M:aI} {d:Dc} {v0:Value} (w0:World) (hM:Lt M w0) (hv:RT.dc.V M w0 d v0) (hl:∀f∈d.2,f.1.length≤900000∧f.2.length≤900000) (Tr:d.2.length≤8):
  Spec Tryz.prog 110 #[v0] w0 (fun v w=>v= .int .i64 ((bP d.2).length:Int)∧Step M w0 M w aD):=by
 refine bh (args:=[_]) (fn:=Tryz.f110) Tryz.func110 rfl (n:=8) Tryz.ntmps110 ?_;have S:Step M w0 M w0 aD:=(ar _ _).b9 (fun _ h=>h.elim) (fun _ h=>h.elim);refine ak (aj ?_);refine gp (A:=RT.dc) rfl rfl hM hv rfl (fun u0 w1 cG s0 _=>?_);replace hM:=s0.lt hM;have:=S.size;replace S:=S.aw s0;refine ah rfl rfl (ad (ak (aj ?_)));refine dL M I3 rfl (fun gv y6 Lw Lx iY kR=>?_);obtain⟨kx,ky⟩:∃M',M'=ins M gv:=⟨_,rfl⟩;rw[←ky]at kR;have gI:kx gv:=by rw[ky];exact .inl rfl
 change y6.heap[gv]? =some (.cells #[.int .i64 0] _ _)at iY;replace cG:=cG.le (by decide) kR.le;replace hM:=kR.lt hM;have:=S.size;replace S:=S.aw kR;refine cu (M:=kx) I3 rfl rfl iY rfl (rfl) gI (fun L3 vJ sd=>?_);change L3.heap[_]? =some (Obj.cells #[.int .i64 0] _ _)at vJ;have:=al iY;replace gI:=(sd.mem _ this).2 gI;replace cG:=cG.le (by decide) sd.le;replace hM:=sd.lt hM;have:=S.size;replace S:=S.trans sd (fun k hk h=>by have h:_=_:=h;subst h;first|(exfalso;omega)|(show _≤_;omega)|exact⟨by first|omega|assumption,(S.mem _ hk).1 ((sd.mem _ (al iY)).1 gI)⟩|exact .inl rfl|exact .inr rfl|exact .inr (.inl rfl)|exact .inr (.inr rfl)|exact rfl);have JV:=vJ;clear iY;have iY:=JV;clear JV;refine ad (ak (aj ?_));refine b7 (M:=kx) (A:=RT.dc) aJ rfl jW (by decide) rfl rfl rfl cG (ao _ _) (fun v2 qu=>?_);refine lD (xs:=[]) (ys:=[.tmp 3]) rfl rfl rfl ?_;refine aT rfl rfl Ph (wU (cap:=[.pointer (some ⟨gv,0,none⟩)]) (B:=w0.heap.size) _ hM qu hl Tr zu ⟨iY,gI,by omega⟩) (fun r2 w2 hc=>?_);obtain⟨M2,Lz,⟨g2,_,_⟩,s2⟩:=hc;replace S:=S.j7 s2 (a8 _);refine ad (ak (aj (aX ay rfl rfl rfl g2 rfl (ah rfl rfl (ad (aM ?_))))));exact aS rfl rfl ⟨rfl,S.back⟩
end Go.K
namespace Go.K
section
variable {P:Program} {r:Option Nat} {n:Nat} {L:Sl} {ds:List Deferred} {w:World} {K:Kt} {ops:Array Oper} {rest:List Oper} {d:Nat} {x y z:Operand} {ty:TypeId} {pos:String} {af:Array Edge}
variable {kt:TypeId} {M:aI} {b mb clock:Nat} {es:List MapEntry} {sn:Array Nat}
theorem Rg.rangeMap {t e:TypeId} (M:aI) (ht:P.underlying t=some (.map kt e)) (hx:ev L x=some (.map (some mb))) (hd:Nat.blt d n=true) (h:eD P kt w mb es clock)
  (k:∀b w',w.heap.size≤b→b<w'.heap.size→w'.heap[b]? =some (.mapIter (some mb) clock #[] clock)→Step M w (ins M b) w' aD→Rg P r n ops rest ((d,.pointer (some ⟨b,0,none⟩))::L) ds w' K):
  Rg P r n ops ({dst:=some d,op:= .range t x,type:=ty,pos,after:=af,guard:=none}::rest) L ds w K:=by
 refine .op (fun _ h=>by cases h) rfl rfl hd (.pointer (some ⟨w.heap.size,0,none⟩)) (w.alloc (.mapIter (some mb) clock #[] clock)) (fun ρ hρ=>?_) (k w.heap.size _ (a8 _) (by simp) (cz w _) ((db M w _).own (a8 _) (by simp)));simp only[execOp,hρ x _ hx];simp[Instr.range,cr,run_underlying ht,dj h.at_,newObj,Sem.run]
theorem mU {sb:Option Nat} {s c:Nat} (hb:w.heap[b]? =some (.mapIter sb s sn c)):(getObj b).run P w= .ok (.mapIter sb s sn c) w:=by simp[getObj,Sem.run,hb]
theorem Bd (h:eD P kt w mb es clock) (seen:Array Nat):(!seen.isEmpty&& !es.toArray.isEmpty&&es.toArray.all (fun x=>decide (x.born≥clock)))=false:=by
 cases es with
 |nil=>simp
 |cons e l=>
  have:=h.lt e (by simp);simp only[Bool.and_eq_false_iff];right;rw[ef];intro h2;rw[Array.all_eq_true_iff_forall_mem]at h2;have:=h2 e (by simp);simp at this;omega
theorem zx (k:Nat) (hk:0<k):∃j w1,j<k∧(∀M,Step M w M w1 aD)∧w1.heap=w.heap∧(choose (Question.mapNext k)).run P w= .ok j w1:=by
 by_cases hf:k≤1
 ·exact⟨0,w,hk,fun M=>ar M w,rfl,by simp[choose,Sem.run,Question.forced,hf]⟩
 ·exact⟨_,w.drew,Nat.mod_lt _ hk,fun M=>lG M w,rfl,by
   simp only[choose,Sem.run,Question.forced,decide_eq_true_eq,hf,if_false,Question.cut];rfl⟩
theorem FD (h:eD P kt w mb es clock) (hb:w.heap[b]? =some (.mapIter (some mb) clock sn clock)) (hm:M b):
  ((∀e∈es,e.born∈sn)∧(Instr.next (.pointer (some ⟨b,0,none⟩)) false ty).run P w= .ok (.tuple #[.bool false]) w)∨
  ∃e w',e∈es∧e.born∉sn∧w'.heap[b]? =some (.mapIter (some mb) clock (sn.push e.born) clock)∧Step M w M w' (fun k=>k=b)∧(Instr.next (.pointer (some ⟨b,0,none⟩)) false ty).run P w= .ok (.tuple #[.bool true,e.key,e.val]) w':=by
 have dD:=al hb;simp only[Instr.next,cr,mU hb,cV,dj h.at_,Bd h sn,Bool.false_eq_true,if_false];have hL:∀e∈es.toArray.filter (fun e=> !sn.contains e.born),e.born<clock:=fun e he=>h.lt e (by simpa using(Array.mem_filter.1 he).1)
 have mO:∀e,e∈es.toArray.filter (fun e=> !sn.contains e.born)↔e∈es∧e.born∉sn:=fun e=>by simp[Array.mem_filter]
 generalize es.toArray.filter (fun e=> !sn.contains e.born)=Lf at hL mO ⊢;have e1:Lf.filter (fun x=>decide (x.born<clock))=Lf:=Array.filter_eq_self.2 fun x hx=>by simpa using hL x hx
 have e2:Lf.filter (fun x=>decide (x.born≥clock))= #[]:=by
  rw[Array.filter_eq_empty_iff];intro x hx;have:=hL x hx;simp;omega
 simp only[e1,e2,Array.append_empty];by_cases h0:Lf.size=0
 ·left;have tb:Lf= #[]:=Array.eq_empty_of_size_eq_zero h0;subst tb;refine⟨fun e he=>?_,by simp[choose,Sem.run,Question.forced]⟩;by_cases hs:e.born∈sn
  ·exact hs
  ·exact absurd ((mO e).2 ⟨he,hs⟩) (by simp)
 ·right;have eE:Lf.isEmpty=false:=by simp[Array.isEmpty,h0]
  simp only[eE,Bool.false_eq_true,if_false,Array.empty_append,Array.size_map];obtain⟨j,w1,hj,Uj,hh1,gj⟩:=zx (P:=P) (w:=w) Lf.size (by omega);have nA:w1.heap[b]? =some (.mapIter (some mb) clock sn clock):=by rw[hh1];exact hb
  have dZ:=(mO Lf[j]).1 (by simp);refine⟨Lf[j],{w1 with heap:=w1.heap.setIfInBounds b (.mapIter (some mb) clock (sn.push Lf[j].born) clock)},dZ.1,dZ.2,by simp[cU,hh1,dD],?_,?_⟩
  ·exact((Uj M).b9 (fun _ h=>h.elim) (fun k hk=>by subst hk;exact hm)).trans (gH M hm) (fun _ _ h=>h)
  ·simp only[gj,cV,Array.getElem?_map,Array.getElem?_eq_getElem hj,fI,cr];simp[setObj,Sem.run,nA]
theorem Rg.Ix (hx:ev L x=some (.pointer (some ⟨b,0,none⟩))) (hb:w.heap[b]? =some (.mapIter (some mb) clock sn clock)) (hm:M b) (h:eD P kt w mb es clock) (hd:Nat.blt d n=true)
  (k1:∀e w',e∈es→e.born∉sn→w'.heap[b]? =some (.mapIter (some mb) clock (sn.push e.born) clock)→Step M w M w' (fun k=>k=b)→Rg P r n ops rest ((d,.tuple #[.bool true,e.key,e.val])::L) ds w' K)
  (k2:(∀e∈es,e.born∈sn)→Rg P r n ops rest ((d,.tuple #[.bool false])::L) ds w K):
  Rg P r n ops ({dst:=some d,op:= .next x false,type:=ty,pos,after:=af,guard:=none}::rest) L ds w K:=by
 rcases FD (ty:=ty) h hb hm with⟨h1,h2⟩|⟨e,w',h1,h2,h3,h4,h5⟩
 ·refine .op (fun _ h=>by cases h) rfl rfl hd _ w (fun ρ hρ=>?_) (k2 h1);simp only[execOp,hρ x _ hx];simp[h2]
 ·refine .op (fun _ h=>by cases h) rfl rfl hd _ w' (fun ρ hρ=>?_) (k1 e w' h1 h2 h3 h4);simp only[execOp,hρ x _ hx];simp[h5]
theorem Rg.entry {e:MapEntry} {sn':Array Nat} (hx:ev L x=some (.pointer (some ⟨b,0,none⟩))) (hb:w.heap[b]? =some (.mapIter (some mb) clock (sn'.push e.born) clock)) (h:eD P kt w mb es clock) (he:e∈es) (hd:Nat.blt d n=true)
  (k:Rg P r n ops rest ((d,.tuple #[e.key,e.val])::L) ds w K):
  Rg P r n ops ({dst:=some d,op:= .entry x,type:=ty,pos,after:=af,guard:=none}::rest) L ds w K:=by
 have hf:es.find? (fun x=>x.born==e.born)=some e:=by
  rw[List.find?_eq_some_iff_getElem];obtain⟨i,hi⟩:=bT.1 he;obtain⟨h1,h2⟩:=av.1 hi;refine⟨by simp,i,h1,h2,fun j hj=>?_⟩;have sr:j<es.length:=by omega
  have:=fun q=>h.zr (aF sr) hi q
  simp only[o0,beq_eq_false_iff_ne,ne_eq];intro q;have:=this q;omega
 refine .op (fun _ h=>by cases h) rfl rfl hd _ w (fun ρ hρ=>?_) k;simp only[execOp,hρ x _ hx,Instr.entry,cr,mU hb,cV,dj h.at_];simp[hf,cr,dj h.at_]
end
end Go.K
namespace Go.K
open Go.Proofs
set_option maxRecDepth 10000
theorem filter_lt {α:Type} {p q:α→Bool} {a:α}:∀{l:List α},(∀x∈l,q x=true→p x=true)→a∈l→p a=true→q a=false→(l.filter q).length<(l.filter p).length
 |[],_,ha,_,_=>by cases ha
 |x::l,h,ha,hp,hq=>by
  have hle:(l.filter q).length≤(l.filter p).length:=by
   rw[←List.countP_eq_length_filter,←List.countP_eq_length_filter];exact List.countP_mono_left fun y hy=>h y (cv _ hy)
  rcases dP.1 ha with rfl|ha
  ·rw[nX hp,List.filter_cons_of_neg (by simp[hq])];simp;omega
  ·have:=filter_lt (fun y hy=>h y (cv _ hy)) ha hp hq;by_cases hx:q x=true
   ·rw[nX hx,nX (h x (bX ..) hx)];simp;omega
   ·rw[List.filter_cons_of_neg hx];by_cases hx2:p x=true
    ·rw[nX hx2];simp;omega
    ·rw[List.filter_cons_of_neg hx2];omega
theorem eD.L4 {P:Program} {kt:TypeId} {w:World} {b clock:Nat} {es:List MapEntry} (h:eD P kt w b es clock) {x y:MapEntry} (hx:x∈es) (hy:y∈es) (hk:x.key=y.key):x=y:=by
 obtain⟨i,hi⟩:=bT.1 hx;obtain⟨j,hj⟩:=bT.1 hy;rcases oZ i j with gY|rfl|gY
 ·exact absurd hk (fT h.keys hi hj gY)
 ·exact aQ (hi.symm.trans hj)
 ·exact absurd hk.symm (fT h.keys hj hi gY)
theorem eD.Iy {P:Program} {kt:TypeId} {w:World} {b clock:Nat} {es:List MapEntry} (h:eD P kt w b es clock) {x y:MapEntry} (hx:x∈es) (hy:y∈es) (hk:x.born=y.born):x=y:=by
 obtain⟨i,hi⟩:=bT.1 hx;obtain⟨j,hj⟩:=bT.1 hy;rcases oZ i j with gY|rfl|gY
 ·exact absurd hk (fT h.born hi hj gY)
 ·exact aQ (hi.symm.trans hj)
 ·exact absurd hk.symm (fT h.born hj hi gY)
def Be (w:World) (k:Nat):Prop:=∃m s sn c,w.heap[k]? =some (.mapIter m s sn c)
def Ci (es:List MapEntry):Prop:=∀e∈es,∃t:Fd,e.key=kv t∧t.1.length≤140737488355328∧t.2.length≤140737488355328
theorem Bf {yl bs mb clock:Nat} {es:List MapEntry} {J:List Fd→World→Prop} (w0:World) (hk:Ci es) (Wm:∀ts w w' N,J ts w→Step allM w allM w' N→(∀k,k<w.heap.size→N k→w0.heap.size≤k∧Be w k)→J ts w') (Tu:∀ts w,J ts w→w.heap[bs]? =some (.cells #[.map (some mb)] 227 (0,0))∧eD Tryz.prog 47 w mb es clock) (hy:∀ts w (t:Fd),J ts w→(∃e∈es,e.key=kv t)→t∉ts→ts.length<es.length→tf Tryz.prog yl [kv t].toArray w (fun r w'=>r= .bool true∧J (ts++[t]) w'∧∃N,Step allM w allM w' N∧∀k,N k→¬Be w k)) (h0:J [] w0):
  Spec Tryz.prog 197 #[.func (.yield yl) #[] #[],.pointer (some ⟨bs,0,none⟩)] w0 (fun v w=>∃ts,J ts w∧ts.Nodup∧∀t,t∈ts↔∃e∈es,e.key=kv t):=by
 obtain⟨gb,hW⟩:=Tu _ _ h0;have hJ:=h0;clear h0;refine bh (args:=[_,_]) (fn:=Tryz.f197) Tryz.func197 rfl (n:=14) Tryz.ntmps197 ?_;have S:Step allM w0 allM w0 allM:=(ar _ _).b9 (fun _ h=>h.elim) (fun _ _=>trivial);refine ak (aj (aX j4 rfl rfl rfl (by assumption) rfl ?_));refine Rg.rangeMap allM j4 rfl rfl hW (fun bi w1 nA qt gi s1=>?_);replace s1:=s1.all;have:=al gb;replace gb:=s1.aN gb;replace hJ:=Wm _ _ _ _ hJ s1 (fun _ _ h=>h.elim);have:=S.size;replace S:=S.aw s1;refine ad (aW ?_);refine cX (σ:=List Fd×Array Nat) (fun s=>[(0,.func (.yield yl) #[] #[]),(1,.pointer (some ⟨bs,0,none⟩)),(5,.pointer (some ⟨bi,0,none⟩))]) (fun s w=>J s.1 w∧Step allM w0 allM w allM∧w.heap[bi]? =some (.mapIter (some mb) clock s.2 clock)∧s.1.Nodup∧(∀e∈es,e.born∈s.2↔∃t∈s.1,e.key=kv t)∧(∀t∈s.1,∃e∈es,e.key=kv t)) (fun s=>(es.filter fun e=>decide (e.born∉s.2)).length) ([],#[]) (.cons rfl (.cons rfl (.cons rfl .nil))) ?_ ?_
 ·exact⟨hJ,S,gi,List.nodup_nil,fun e _=>by simp,fun t h=>by cases h⟩
 ·rintro⟨ts,sn⟩ w ⟨hJ,S,gi,ot,Tv,mO⟩;dsimp only at hJ gi ot Tv mO ⊢;obtain⟨gb,hW⟩:=Tu _ _ hJ;refine ak (aj ?_);refine Rg.Ix (M:=allM) rfl gi trivial hW rfl (fun L5 y6 qb JW iY kR=>?_) (fun Wn=>?_)
  ·have gi0:=gi;replace gb:=kR.bM gb (fun hk=>by have hk:_=_:=hk;omega);replace hJ:=Wm _ _ _ _ hJ kR (fun k hk h=>by have h:k=bi:=h;subst h;exact⟨nA,_,_,_,_,gi0⟩);have:=S.size;replace S:=S.trans kR (fun k hk h=>by have h:_=_:=h;subst h;first|(exfalso;omega)|(show _≤_;omega)|exact .inl rfl|exact .inr rfl|exact .inr (.inl rfl)|exact .inr (.inr rfl)|exact rfl);have gi_:=iY;clear gi;have gi:=gi_;clear gi_;refine bR rfl rfl rfl (ad (ak (jH rfl (aU (aW (ak (aj (Rg.entry rfl gi (Tu _ _ hJ).2 qb rfl ?_))))))));obtain⟨t,Iz,Oj,E1⟩:=hk _ qb;have KT:t∉ts:=fun h=>JW ((Tv _ qb).2 ⟨t,h,Iz⟩)
   have dD:ts.length<es.length:=by
    have h1:((t::ts).map kv).Nodup:=du.2 ((List.nodup_cons.2 ⟨KT,ot⟩).imp fun h e=>h (qS e))
    have h2:=h1.length_le_of_subset (l₂:=es.map (·.key)) (fun x hx=>by
     obtain⟨u,hu,rfl⟩:=cq.1 hx;rcases dP.1 hu with rfl|hu
     ·rw[←Iz];exact ez qb
     ·obtain⟨e,he,h⟩:=mO u hu;rw[←h];exact ez he)
    simp at h2;omega
   rw[Iz];refine bR rfl rfl rfl ?_;refine sm (A:=RT.fd) (M:=aD) ja rfl rfl rfl rfl rfl (vI Oj E1) (ao _ _) (Lt.none _) (fun u2 w2 jB s2 z2=>?_);replace s2:=s2.all;have:=al gb;replace gb:=s2.aN gb;have:=al gi;replace gi:=s2.aN gi;replace hJ:=Wm _ _ _ _ hJ s2 (fun _ _ h=>h.elim);have:=S.size;replace S:=S.aw s2
   skip
   refine ad (ak (aj (ae rfl rfl ?_)));refine b7 (M:=aD) (A:=RT.fd) bA rfl ja (by decide) rfl rfl rfl jB (ao _ _) (fun v3 qw=>?_);obtain rfl:=iS qw;refine Rg.yield (vs:=[kv t]) rfl rfl rfl (hy _ _ t hJ ⟨_,qb,Iz⟩ KT dD) (fun r3 w3 hc=>?_);obtain⟨rfl,Qp,N3,s3,hN3⟩:=hc;clear iY;replace gi:=s3.bM gi (fun h=>hN3 _ h ⟨_,_,_,_,gi⟩);replace hJ:=Qp;clear Qp;obtain⟨gb,-⟩:=Tu _ _ hJ;replace S:=S.trans s3 (fun _ _ _=>trivial);refine jx rfl rfl (bI (v':= .bool false) rfl (ad (iV rfl (aU ?_))));refine⟨rfl,(ts++[t],sn.push L5.born),(.cons rfl (.cons rfl (.cons rfl .nil))),?_,?_⟩
   ·have qC:∀e∈es,e.born=L5.born↔e.key=kv t:=fun e he=>by
     constructor
     ·intro h;rw[eD.Iy hW he qb h,Iz]
     ·intro h;rw[eD.L4 hW he qb (h.trans Iz.symm)]
    refine⟨hJ,S,gi,List.nodup_append.2 ⟨ot,by simp,fun a ha b hb h=>by simp at hb;subst hb;subst h;exact KT ha⟩,fun e he=>?_,fun u hu=>?_⟩
    ·rw[Array.mem_push,Tv e he,qC e he];constructor
     ·rintro(⟨u,h1,h2⟩|h)
      ·exact⟨u,lf _ h1,h2⟩
      ·exact⟨t,by simp,h⟩
     ·rintro⟨u,h1,h2⟩;rcases cY.1 h1 with h1|h1
      ·exact .inl ⟨u,h1,h2⟩
      ·simp at h1;subst h1;exact .inr h2
    ·rcases cY.1 hu with hu|hu
     ·exact mO u hu
     ·simp at hu;subst hu;exact⟨_,qb,Iz⟩
   ·exact filter_lt (a:=L5) (fun e _ h=>by simp only[decide_eq_true_eq,Array.mem_push,not_or]at h ⊢;exact h.1) qb (by simpa using JW) (by simp)
  ·refine bR rfl rfl rfl (ad (ak (iV rfl (cK ?_))))
   first|refine fP.nil ?_|simp+decide only[xu,l0,if_true,if_false]|skip
   exact kh rfl ⟨ts,hJ,ot,fun t=>⟨mO t,fun⟨e,he,Iz⟩=>by obtain⟨t',h1,h2⟩:=(Tv e he).1 (Wn e he);rw[←qS (h2.symm.trans Iz)];exact h1⟩⟩
end Go.K
namespace Go.K
open Go.Proofs
set_option maxRecDepth 10000
theorem eK.any {α:Type} {A:RT α} (hA:∀M w M' w' x vs,A.R M w x vs→A.R M' w' x vs) {M M':aI} {w w':World}:∀{xs:List α} {C:List Value},eK A M w xs C→eK A M' w' xs C
 |[],_,h=>h
 |x::xs,C,h=>by
  obtain⟨vs,r,h1,h2,h3⟩:=h;exact⟨vs,r,h1,hA _ _ _ _ _ _ h2,eK.any hA h3⟩
theorem xZ (M:aI) (w:World) (M':aI) (w':World) (x:Fd) (vs:List Value) (h:RT.fd.R M w x vs):RT.fd.R M' w' x vs:=h
theorem Own.Cj {α:Type} {A:RT α} (hA:∀M w M' w' x vs,A.R M w x vs→A.R M' w' x vs) {e:TypeId} {M N:aI} {w w':World} {base:Nat} {v:Value} {xs:List α} (h:Own A e M w base v xs) (s:Step allM w allM w' N) (hn:∀b,v.ownBlock=some b→¬N b):Own A e (ov v) w' base v xs:=by
 obtain⟨⟨C,h1,h2⟩,_⟩:=h;refine⟨⟨C,⟨h1.1,?_⟩,eK.any hA h2⟩,fun _ h=>h⟩;rcases h1.2 with h3|⟨g,cap,cur,h3,h4,h5,h6,h7,h8⟩
 ·exact .inl h3
 ·exact .inr ⟨g,cap,cur,h3,h4,by rw[s.same g (al h5) (hn g (by rw[h3];rfl))];exact h5,h6,h7,h8⟩
theorem Own.isCells {α:Type} {A:RT α} {e:TypeId} {M:aI} {w:World} {base b:Nat} {v:Value} {xs:List α} (h:Own A e M w base v xs) (hb:v.ownBlock=some b):∃cs,w.heap[b]? =some (.cells cs e (0,0)):=by
 obtain⟨⟨C,h1,_⟩,_⟩:=h;rcases h1.2 with h3|⟨g,cap,cur,h3,h4,h5,_⟩
 ·rw[h3.1]at hb;cases hb
 ·rw[h3]at hb;cases hb;exact⟨_,h5⟩
structure Aq (w0:World) (bt D:Nat) (st:Loop) (v:Value) (ts:List Fd) (w:World):Prop where
 S:Step allM w0 allM w aD
 c:w.heap[bt]? =some (.cells #[v] 98 (0,0))
 o:Own RT.fd 47 (ov v) w w0.heap.size v ts
 d:w.heap[D]? =some (.deferred (some []))
 r:w.heap[D+1]? =some (.loop st)
 hb:w0.heap.size≤bt
 hD:w0.heap.size≤D
theorem Aq.step {w0 w w':World} {bt D:Nat} {st:Loop} {v:Value} {ts:List Fd} {N:aI} (h:Aq w0 bt D st v ts w) (s:Step allM w allM w' N) (hN:∀k,k<w.heap.size→N k→w0.heap.size≤k∧Be w k):Aq w0 bt D st v ts w':=by
 have no:∀{k o},w.heap[k]? =some o→(∀m s sn c,o≠ .mapIter m s sn c)→¬N k:=fun hk ho hn=>by
  obtain⟨_,m,s,sn,c,h'⟩:=hN _ (al hk) hn;rw[hk]at h';exact ho m s sn c (aQ h')
 refine⟨h.S.trans s (fun k hk hn=>?_),s.bM h.c (no h.c (by intros;simp)),h.o.Cj xZ s (fun b hb=>?_),s.bM h.d (no h.d (by intros;simp)),s.bM h.r (no h.r (by intros;simp)),h.hb,h.hD⟩
 ·have:=(hN k (Nat.lt_of_lt_of_le hk h.S.size) hn).1;omega
 ·obtain⟨cs,hc⟩:=h.o.isCells hb;exact no hc (by intros;simp)
theorem Aq.mv {w0 w:World} {bt D:Nat} {st st':Loop} {v:Value} {ts:List Fd} (h:Aq w0 bt D st v ts w):Aq w0 bt D st' v ts (w.putObj (D+1) (.loop st')):=by
 have s:Step allM w allM (w.putObj (D+1) (.loop st')) (fun k=>k=D+1):=dK trivial;have hD:=h.hD;refine⟨h.S.trans s (fun k hk hn=>by have hn:k=D+1:=hn;omega),s.bM h.c (fun hn=>by have hn:bt=D+1:=hn;have h1:=h.c;rw[hn,h.r]at h1;cases h1),h.o.Cj xZ s (fun b hb hn=>?_),s.bM h.d (fun hn=>by have hn:D=D+1:=hn;omega),by have:=al h.r;simp[World.putObj,cU,this],h.hb,h.hD⟩;have hn:b=D+1:=hn;obtain⟨cs,hc⟩:=h.o.isCells hb;rw[hn,h.r]at hc;cases hc
theorem zy {bs mb clock:Nat} {es:List MapEntry} (w0:World) (hk:Ci es) (Tw:es.length≤100000000) (L6:w0.heap[bs]? =some (.cells #[.map (some mb)] 227 (0,0))) (hW:eD Tryz.prog 47 w0 mb es clock):
  Spec Tryz.prog 233 #[.slice none 0 0,.func (.func 197) #[] [.pointer (some ⟨bs,0,none⟩)].toArray] w0 (fun v w=>∃ts:List Fd,ts.Nodup∧(∀t,t∈ts↔∃e∈es,e.key=kv t)∧Own RT.fd 47 (ov v) w w0.heap.size v ts∧Step allM w0 allM w aD):=by
 refine nv (args:=[_,_]) (fn:=Tryz.f233) Tryz.func233 rfl (n:=13) Tryz.ntmps233 (ak (aj ?_));refine Rg.box allM rfl rfl (fun bt w1 nA aee gt s1=>?_);change w1.heap[bt]? =some (.cells #[.slice none 0 0] 98 (0,0))at gt;replace s1:=s1.all;refine ah rfl rfl (ad (ak (ak (aj (ae rfl rfl (ad (aW ?_)))))));refine T.range (gf:=197) (lb:=[.pointer (some ⟨bs,0,none⟩)].toArray) rfl U1 (fun rec mX=>?_);obtain⟨D,hD⟩:∃D,D=w1.heap.size:=⟨_,rfl⟩;have sA:Step allM w1 allM ((w1.alloc (.deferred (some []))).alloc (.loop (rec .ready none))) aD:=(db _ _ _).aw (db _ _ _)
 have h0:Aq w0 bt D (rec .ready none) (.slice none 0 0) [] ((w1.alloc (.deferred (some []))).alloc (.loop (rec .ready none))):=by
  refine⟨s1.aw sA,sA.aN gt,dw _ _ _ _ _,?_,?_,nA,by rw[hD];exact s1.size⟩
  ·rw[hD];exact(db allM (w1.alloc _) _).aN (cz w1 _)
  ·rw[hD];have:=cz (w1.alloc (.deferred (some []))) (.loop (rec .ready none));rwa [World.size_alloc]at this
 rw[←hD]at mX ⊢;have hz:=h0.S.size;refine Spec.mono (Bf (J:=fun ts w=>∃v,Aq w0 bt D (rec .ready none) v ts w) _ hk (fun ts w w' N ⟨v,h⟩ s hN=>⟨v,h.step s (fun k hk hn=>⟨eJ hz (hN k hk hn).1,(hN k hk hn).2⟩)⟩) (fun ts w ⟨v,h⟩=>⟨h.S.aN L6,hW.a7 h.S⟩) (fun ts wr t hJ mO KT dD=>?_) ⟨_,h0⟩) (fun _ w3 h3=>?_)
 ·obtain⟨v,h⟩:=hJ;obtain⟨e,he,Wo⟩:=mO;obtain⟨t',Wp,Oj,E1⟩:=hk e he;obtain rfl:=qS (Wo.symm.trans Wp);have hzr:=al h.r;refine lK (ps:=[7]) (vs:=[kv t]) mX h.r rfl (by decide) (aj ?_);refine sm (A:=RT.fd) (M:=fun k=>k=D+1) ja rfl rfl rfl rfl rfl (vI Oj E1) (ao _ _) (fun k hk=>by have hk:k=D+1:=hk;omega) (fun u2 w2 jB s2 z2=>?_);replace s2:=s2.all
  skip
  refine ad ?_;refine⟨rfl,s2.aN h.r,?_⟩;have h4:=(h.step s2 (fun _ _ h=>h.elim)).mv (st':=rec .busy none);have Wq:Step (fun k=>k=D+1) w2 (fun k=>k=D+1) (w2.putObj (D+1) (.loop (rec .busy none))) (fun k=>k=D+1):=dK rfl;have s3:=Wq.all;have Hz:=jB.le (by decide) Wq.le;clear Wq;generalize w2.putObj (D+1) _=w4 at h4 s3 Hz ⊢;refine aW (aj (aX bG rfl rfl rfl h4.c rfl ?_));refine b7 (M:=fun k=>k=D+1) (A:=RT.fd) bA rfl ja (by decide) rfl rfl rfl Hz (ao _ _) (fun v3 qw=>?_);obtain rfl:=iS qw;refine dQ (A:=RT.fd) (hn:=by decide) (M:=ov v) bG ja (by decide) rfl rfl (fun b hb=>(h4.o.base b hb).2) (vI Oj E1) (.inl rfl) (fun u5 w5 Da s5=>?_);refine ch (M:=ov v) (base:=w0.heap.size) bG ja rfl rfl rfl rfl (h4.o.a7 s5) Da (ao _ _) (by simp;omega) (by simp;omega) (eJ h4.S.size s5.size) (fun v6 M6 w6 rC s6=>?_);have gc:=s6.all.bM (s5.all.aN h4.c) (fun hn=>h4.o.ep h4.c (by decide) hn);refine cu (M:=allM) I98 rfl rfl gc rfl (by obtain⟨_,_,he,_⟩:=rC.isSlice;rw[he];rfl) trivial (fun w7 gc7 s7=>?_);refine ad ?_
  have Wr:∀k,ov v k→¬Be wr k:=fun k hk ⟨_,_,_,_,h9⟩=>by
   obtain⟨cs,hc⟩:=h.o.isCells hk;rw[hc]at h9;cases h9
  have pr:∀k,k<wr.heap.size→k=D+1→¬Be wr k:=fun k _ hk ⟨_,_,_,_,h9⟩=>by subst hk;rw[h.r]at h9;cases h9
  have pc:∀k,k<wr.heap.size→k=bt→¬Be wr k:=fun k _ hk ⟨_,_,_,_,h9⟩=>by subst hk;rw[h.c]at h9;cases h9
  have h7:Aq w0 bt D (rec .busy none) v6 (ts++[t]) w7:=by
   have nb:∀b,v6.ownBlock=some b→b≠bt:=fun b hb hn=>by subst hn;exact rC.ep gc (by decide) hb
   refine⟨?_,gc7,rC.Cj xZ s7 nb,?_,?_,h.hb,h.hD⟩
   ·refine((h4.S.aw s5.all).trans s6.all (fun k hk hn=>?_)).trans s7 (fun k hk hn=>?_)
    ·have:=(h4.o.base k hn).1;omega
    ·have hn:k=bt:=hn;have:=h.hb;omega
   ·exact s7.bM (s6.all.bM (s5.all.aN h4.d) (fun hn=>by obtain⟨cs,hc⟩:=h4.o.isCells hn;rw[h4.d]at hc;cases hc)) (fun hn=>by have hn:D=bt:=hn;have h1:=h.c;rw[←hn,h.d]at h1;cases h1)
   ·exact s7.bM (s6.all.bM (s5.all.aN h4.r) (fun hn=>by obtain⟨cs,hc⟩:=h4.o.isCells hn;rw[h4.r]at hc;cases hc)) (fun hn=>by have hn:D+1=bt:=hn;have h1:=h.c;rw[←hn,h.r]at h1;cases h1)
  have s8:Step allM w7 allM (w7.putObj (D+1) (.loop (rec .ready none))) (fun k=>k=D+1):=dK trivial;exact⟨h7.r,rfl,⟨v6,h7.mv⟩,fun k=>¬Be wr k,(((((s2.b9 (fun _ h=>h.elim) (fun _ _=>trivial)).trans s3 pr).aw s5.all).trans s6.all (fun k _ hn=>Wr k hn)).trans s7 pc).trans s8 pr,fun _ h=>h⟩
 ·obtain⟨ts,⟨v,h⟩,ot,mO⟩:=h3;left;refine⟨h.r,?_⟩;have h5:=h.mv (st':=rec .exhausted none);generalize w3.putObj (D+1) _=wE at h5 ⊢;refine ak (aj (aX bG rfl rfl rfl h5.c rfl (ah rfl rfl (ad (aM ?_)))));have sE:Step allM wE allM (wE.putObj D (.deferred none)) (fun k=>k=D):=dK trivial;have hDD:=h.hD;exact AO rfl rfl h5.d ⟨ts,ot,mO,h5.o.Cj xZ sE (fun b hb hn=>by have hn:b=D:=hn;obtain⟨cs,hc⟩:=h5.o.isCells hb;rw[hn,h5.d]at hc;cases hc),h5.S.trans sE (fun k hk hn=>by have hn:k=D:=hn;omega)⟩
end Go.K
namespace Go.K
open Go.Proofs
set_option maxRecDepth 10000
theorem x2 {bs mb clock:Nat} {es:List MapEntry} (w0:World) (hk:Ci es) (Tw:es.length≤100000000) (L6:w0.heap[bs]? =some (.cells #[.map (some mb)] 227 (0,0))) (hW:eD Tryz.prog 47 w0 mb es clock):
  Spec Tryz.prog 195 #[.func (.func 197) #[] [.pointer (some ⟨bs,0,none⟩)].toArray] w0 (fun v w=>∃ts:List Fd,ts.Nodup∧(∀t,t∈ts↔∃e∈es,e.key=kv t)∧Own RT.fd 47 (ov v) w w0.heap.size v ts∧Step allM w0 allM w aD):=by
 refine bh (args:=[_]) (fn:=Tryz.f195) Tryz.func195 rfl (n:=5) Tryz.ntmps195 (ak (aj (ah rfl rfl (ad (ak (aj (ae rfl rfl ?_)))))));refine aT rfl rfl Vd (zy _ hk Tw L6 hW) (fun r w1 hc=>?_);refine ah rfl rfl (ad (aM ?_));exact aS rfl rfl hc
def dp (t:Fd):List UInt8:=t.1++[0]++t.2
theorem FE {M:aI} {t:Fd} (w0:World) (hM:Lt M w0) (h1:t.1.length≤1000000) (h2:t.2.length≤1000000):
  Spec Tryz.prog 74 #[kv t] w0 (fun v w=>v= .string ⟨(dp t).toArray⟩∧Step M w0 M w aD):=by
 refine bh (args:=[_]) (fn:=Tryz.f74) Tryz.func74 rfl (n:=9) Tryz.ntmps74 ?_;have S:Step M w0 M w0 aD:=(ar _ _).b9 (fun _ h=>h.elim) (fun _ h=>h.elim);refine ak (aj ?_);refine gp (A:=RT.fd) rfl rfl hM (vI (by omega) (by omega)) rfl (fun u0 w1 cG s0 _=>?_);replace hM:=s0.lt hM;have:=S.size;replace S:=S.aw s0;refine ah rfl rfl (ad (ak (aj ?_)));refine ax (M:=M) (A:=RT.fd) (B:=RT.str) bA rfl rfl I9 (by decide) (DY) rfl rfl (by decide) (by assumption) (by repeat (first|exact ao _ _|refine aV (br (by assumption)) ?_)) (fun tP jc=>?_);refine bw (M:=M) aA rfl rfl rfl rfl rfl jc (ao _ _) (fun v1 pE=>?_);obtain rfl:=dB pE;refine Rg.cat (p:=t.1) (q:=[0]) rfl rfl rfl (by simp;omega) ?_;refine ax (M:=M) (A:=RT.fd) (B:=RT.str) bA rfl rfl I9 (by decide) (LF) rfl rfl (by decide) (by assumption) (by repeat (first|exact ao _ _|refine aV (br (by assumption)) ?_)) (fun EV im=>?_);refine bw (M:=M) aA rfl rfl rfl rfl rfl im (ao _ _) (fun v4 nk=>?_);obtain rfl:=dB nk;refine Rg.cat (p:=t.1++[0]) (q:=t.2) rfl rfl rfl (by simp;omega) (ah rfl rfl (ad (aM ?_)));exact aS rfl rfl ⟨rfl,S⟩
theorem od {M:aI} {t:Fd} (w0:World) (hM:Lt M w0) (h1:t.1.length≤1000000) (h2:t.2.length≤1000000):
  Spec Tryz.prog 94 #[kv t] w0 (fun v w=>v= .string ⟨(dp t).toArray⟩∧Step M w0 M w aD):=by
 refine bh (args:=[_]) (fn:=Tryz.f94) Tryz.func94 rfl (n:=9) Tryz.ntmps94 ?_;have S:Step M w0 M w0 aD:=(ar _ _).b9 (fun _ h=>h.elim) (fun _ h=>h.elim);refine ak (aj ?_);refine gp (A:=RT.fd) rfl rfl hM (vI (by omega) (by omega)) rfl (fun u0 w1 cG s0 _=>?_);replace hM:=s0.lt hM;have:=S.size;replace S:=S.aw s0;refine ah rfl rfl (ad (ak (aj ?_)));refine ax (M:=M) (A:=RT.fd) (B:=RT.str) bA rfl rfl I9 (by decide) (DY) rfl rfl (by decide) (by assumption) (by repeat (first|exact ao _ _|refine aV (br (by assumption)) ?_)) (fun tP jc=>?_);refine bw (M:=M) aA rfl rfl rfl rfl rfl jc (ao _ _) (fun v1 pE=>?_);obtain rfl:=dB pE;refine Rg.cat (p:=t.1) (q:=[0]) rfl rfl rfl (by simp;omega) ?_;refine ax (M:=M) (A:=RT.fd) (B:=RT.str) bA rfl rfl I9 (by decide) (LF) rfl rfl (by decide) (by assumption) (by repeat (first|exact ao _ _|refine aV (br (by assumption)) ?_)) (fun EV im=>?_);refine bw (M:=M) aA rfl rfl rfl rfl rfl im (ao _ _) (fun v4 nk=>?_);obtain rfl:=dB nk;refine Rg.cat (p:=t.1++[0]) (q:=t.2) rfl rfl rfl (by simp;omega) (ah rfl rfl (ad (aM ?_)));exact aS rfl rfl ⟨rfl,S⟩
end Go.K
namespace Go.K
open Go.Proofs
set_option maxRecDepth 10000
theorem x4 (a b:List UInt8) (w:World):Spec Tryz.prog 159 #[.string ⟨a.toArray⟩,.string ⟨b.toArray⟩] w (fun v w'=>v= .int .i64 (Lib.compareBytes a b)∧w'=w):=(Any.strings_Compare Tryz.H9 ⟨a.toArray⟩ ⟨b.toArray⟩ w).mono fun e w' ⟨h1,h2⟩=>⟨_,h1,rfl,h2⟩
end Go.K
namespace Go.K
section
variable {P:Program} {r:Option Nat} {n:Nat} {L:Sl} {ds:List Deferred} {w:World} {K:Kt} {ops:Array Oper} {rest:List Oper} {d:Nat} {x:Operand} {ty:TypeId} {pos:String} {af:Array Edge}
theorem gT.tE {id:Nat} {l:List Oper} (hm:P.follows .mixedOrders=true) (cN:dU l 0=true) (h:gT P r n l L ds (w.drewN 1) K):T P r n (.region id l.toArray true) L ds w K:=by
 refine⟨fun a ha=>wpIn_region_draw fun t=>?_⟩;simp only[Region.schedule,hm,Bool.true_or,if_true,Region.linearise];obtain⟨J,h1,h2,h3,h4⟩:=h a ha;refine l4 (J:=J) cN (fun {D D' a w} hi hD=>h1 D D' a w hi hD) (fun {D a' w' j o rest} hj ho nj hp kW hi hk=>h2 _ _ _ _ _ _ _ hj ho nj hp kW hi hk) h3 _ t _ a _ (by simp) (by simp[List.countP_replicate]) (fun i o h1 h2=>?_) (h1 _ _ _ _ h4 fun i _=>?_)
 ·simp[Array.getElem?_replicate]at h2
 ·simp[Array.getElem?_replicate]
theorem T.L7 {id:Nat} {l l':List Oper} (π:List Nat) (m:Nat) (fl:List Nat) (c:Nat) (N:aI) (hm:P.follows .mixedOrders=true) (Ew:wz π l=l') (ru:dU l 0=true) (hπ:kg π l.length=true) (qB:Nat.blt m l'.length=true) (cN:dU l' 0=true) (ou:jw l' m=true) (B1:kd l' m fl c=true)
  (h:iL P r n l'.toArray (l'.take m) L ds (w.drewN 1) (fun L'=>(∀j o,j∈fl→l'[j]? =some o→bJ P N (w.drewN 1) L' o)∧pb P r n l'.toArray N (w.drewN 1) K c (l'.drop m) L' ds (w.drewN 1))):T P r n (.region id l.toArray true) L ds w K:=by
 subst Ew;exact gT.tE hm ru (.perm π hπ ru (yO m fl c N qB cN ou B1 h))
theorem Rg.L8 {e:TypeId} {v:Value} (hx:ev L x=some v) (hd:Nat.blt d n=true) (k:Rg P r n ops rest ((d,.pointer (some ⟨w.heap.size,0,none⟩))::L) ds (w.alloc (.cells v.cells e (0,0))) K):
  Rg P r n ops ({dst:=some d,op:= .box e x,type:=ty,pos,after:=af,guard:=none}::rest) L ds w K:=by
 refine .op (fun _ h=>by cases h) rfl rfl hd _ (w.alloc (.cells v.cells e (0,0))) (fun ρ hρ=>?_) k;simp only[execOp,hρ x _ hx];simp[Instr.box,newVar,newRow,newObj,Sem.run]
theorem Bg (w:World) (o:Obj):w.alloc o=Go.Sort.grow w #[o]:=by
 unfold World.alloc Go.Sort.grow;congr 1
theorem Bh (w:World) (os:Array Obj) (q:Nat):(Go.Sort.grow w os).drewN q=Go.Sort.grow (w.drewN q) os:=rfl
end
end Go.K
namespace Go.K
open Go.Proofs
set_option maxRecDepth 10000
abbrev eU (t:Fd):Obj:= .cells #[.string ⟨t.1.toArray⟩,.string ⟨t.2.toArray⟩] 47 (0,0)
theorem FF {t:Fd} (w0:World) (h1:t.1.length≤1000000) (h2:t.2.length≤1000000):
  Spec Tryz.prog 74 #[kv t] w0 (fun v w=>v= .string ⟨(dp t).toArray⟩∧w=w0.alloc (eU t)):=by
 refine bh (args:=[_]) (fn:=Tryz.f74) Tryz.func74 rfl (n:=9) Tryz.ntmps74 (ak (aj (Rg.L8 rfl rfl ?_)));have gb:=cz w0 (eU t);change Rg _ _ _ _ _ _ _ (w0.alloc (eU t)) _;generalize hw:w0.alloc (eU t)=w1 at gb ⊢;refine ah rfl rfl (ad (ak (aj (bH (o':=0) bA rfl rfl I9 (by decide) rfl rfl (aX aA rfl rfl rfl gb rfl (Rg.cat (p:=t.1) (q:=[0]) rfl rfl rfl (by simp;omega) (bH (o':=1) bA rfl rfl I9 (by decide) rfl rfl (aX aA rfl rfl rfl gb rfl (Rg.cat (p:=t.1++[0]) (q:=t.2) rfl rfl rfl (by simp;omega) (ah rfl rfl (ad ?_)))))))))));refine aM ?_;exact aS rfl rfl ⟨rfl,rfl⟩
theorem IA {s t:Fd} (w0:World) (h1:s.1.length≤1000000) (h2:s.2.length≤1000000) (h3:t.1.length≤1000000) (h4:t.2.length≤1000000):
  Spec Tryz.prog 158 #[kv s,kv t] w0 (fun v w=>v= .int .i64 (Lib.compareBytes (dp s) (dp t))∧w=((((w0.alloc (eU s)).alloc (eU t)).drewN 1).alloc (eU s)).alloc (eU t)):=by
 refine bh (args:=[_,_]) (fn:=Tryz.f158) Tryz.func158 rfl (n:=10) Tryz.ntmps158 (ak (aj (Rg.L8 rfl rfl ?_)));change Rg _ _ _ _ _ _ _ (w0.alloc (eU s)) _;refine Rg.L8 rfl rfl ?_;change Rg _ _ _ _ _ _ _ ((w0.alloc (eU s)).alloc (eU t)) _;have g1:((w0.alloc (eU s)).alloc (eU t)).heap[w0.heap.size]? =some (eU s):=(db aD _ _).aN (cz w0 _);have g2:=cz (w0.alloc (eU s)) (eU t);have kp:=fY aD (((w0.alloc (eU s)).alloc (eU t)).drewN 1);refine ah rfl rfl (ad (ak ?_));apply T.L7 [0,2,1,3,4,5] 2 [1] 1 aD mixed
 ·simp+decide only[wz,qH,gN,List.map_nil,uR,uT,List.map_toArray,fI,ni,List.idxOf_cons,cond_true,cond_false,Nat.reduceBEq,Nat.reduceAdd,beq_self_eq_true];rfl
 ·rfl
 ·rfl
 ·rfl
 ·rfl
 ·rfl
 ·rfl
 have g1':(((w0.alloc (eU s)).alloc (eU t)).drewN 1).heap[w0.heap.size]? =some (eU s):=g1;have g2':(((w0.alloc (eU s)).alloc (eU t)).drewN 1).heap[(w0.alloc (eU s)).heap.size]? =some (eU t):=g2;refine eX (vs:=[.string ⟨s.1.toArray⟩,.string ⟨s.2.toArray⟩]) bA rfl ja rfl rfl rfl g1' ?_;refine ad ⟨rfl,rfl,rfl,?_⟩;refine eX (vs:=[.string ⟨t.1.toArray⟩,.string ⟨t.2.toArray⟩]) bA rfl ja rfl rfl rfl g2' ?_;refine ad ⟨rfl,rfl,rfl,?_⟩;refine dr ?_;refine⟨eV ⟨dS rfl (by assumption) (by first|assumption|exact fun h=>h|(intro h;have h:_=_:=h;omega)),trivial⟩,?_⟩;replace kp:=kp.nZ (db aD (((w0.alloc (eU s)).alloc (eU t)).drewN 1) (eU s));refine aT rfl rfl Tn (FF (t:=s) _ h1 h2) (fun r5 w5 hc=>?_);obtain⟨rfl,rfl⟩:=hc;refine(fun(kp:dO _ _ _)=>ad ⟨rfl,rfl,fun _=>kp,?_⟩) (by first|exact kp|exact kp.nZ (by assumption)|exact kp.goN (by assumption)|exact kp.go (by assumption) (fun _ _ h=>by first|exact h|exact h.elim));refine aT rfl rfl Tn (FF (t:=t) _ h3 h4) (fun r6 w6 hc=>?_);obtain⟨rfl,rfl⟩:=hc;refine ad ⟨rfl,rfl,fun h=>absurd rfl h,?_⟩;refine aT rfl rfl UP (x4 _ _ _) (fun r7 w7 hc=>?_);obtain⟨rfl,rfl⟩:=hc;refine ad ⟨rfl,rfl,fun h=>absurd rfl h,?_⟩;refine ah rfl rfl ?_;refine ad ⟨rfl,rfl,fun h=>absurd rfl h,?_⟩;refine jJ (aM ?_);exact aS rfl rfl ⟨rfl,rfl⟩
end Go.K
namespace Go.K
open Go.Lib (compareBytes)
theorem lR (a b:UInt8) (x y:List UInt8):compareBytes (a::x) (b::y)=if a.toNat<b.toNat then-1 else if b.toNat<a.toNat then 1 else compareBytes x y:=by
 rw[compareBytes];simp only[UInt8.lt_iff_toNat_lt]
theorem tY:∀a,compareBytes a a=0
 |[]=>rfl
 |a::x=>by rw[lR,if_neg (mW _),if_neg (mW _)];exact tY x
theorem nJ:∀{a b},compareBytes a b=0→a=b
 |[],[],_=>rfl
 |[],_::_,h=>by simp[compareBytes]at h
 |_::_,[],h=>by simp[compareBytes]at h
 |a::x,b::y,h=>by
  rw[lR]at h
  split at h
  ·omega
  ·split at h
   ·omega
   ·rw[nJ h,UInt8.toNat_inj.1 (show a.toNat=b.toNat by omega)]
theorem mw:∀a b,compareBytes a b= -compareBytes b a
 |[],[]=>rfl
 |[],_::_=>rfl
 |_::_,[]=>rfl
 |a::x,b::y=>by
  rw[lR,lR,mw x y]
  split<;>split<;>first|omega|rfl
theorem oe:∀{a b c},compareBytes a b<0→compareBytes b c<0→compareBytes a c<0
 |[],[],_,h,_=>by simp[compareBytes]at h
 |_::_,[],_,h,_=>by simp[compareBytes]at h
 |_,_::_,[],_,h=>by simp[compareBytes]at h
 |[],_::_,_::_,_,_=>by simp[compareBytes]
 |a::x,b::y,c::z,h1,h2=>by
  rw[lR]at h1 h2 ⊢
  split at h1
  ·split at h2
   ·rw[if_pos (by omega)];omega
   ·split at h2
    ·omega
    ·rw[if_pos (by omega)];omega
  ·split at h1
   ·omega
   ·split at h2
    ·rw[if_pos (by omega)];omega
    ·split at h2
     ·omega
     ·rw[if_neg (by omega),if_neg (by omega)];exact oe h1 h2
theorem Ck {α:Type} (f:α→List UInt8):Go.Sort.SWO (Go.Proofs.ltOf fun x y=>compareBytes (f x) (f y)) where
 irrefl x:=by simp[Go.Proofs.ltOf,tY]
 trans x y z h1 h2:=by
  simp only[Go.Proofs.ltOf,decide_eq_true_eq]at*
  exact oe h1 h2
 ntrans x y z h1 h2:=by
  simp only[Go.Proofs.ltOf,decide_eq_false_iff_not]at*
  intro h3;by_cases e1:compareBytes (f x) (f y)=0
  ·rw[nJ e1]at h3;exact h2 h3
  ·by_cases e2:compareBytes (f y) (f z)=0
   ·rw[nJ e2]at h1;exact h1 h3
   ·have n1:=mw (f x) (f y);have n2:=mw (f y) (f z);have n3:=mw (f x) (f z);have:compareBytes (f z) (f x)<0:=oe (b:=f y) (by omega) (by omega);omega
end Go.K
namespace Go.Proofs
open Go.Shelf
def Tryz.Bi:Go.Shelf.Ren:=⟨fun|6=>196|15=>166|14=>234|28=>210|29=>211|20=>261|21=>262|22=>263|23=>264|24=>265|25=>266|26=>267|27=>268|46=>281|47=>246|48=>247|49=>282|50=>283|57=>290|n=>n,fun|22=>98|24=>47|25=>235|3=>3|39=>183|0=>0|53=>273|55=>165|4=>4|46=>267|45=>266|50=>121|5=>5|9=>9|66=>295|70=>299|76=>327|77=>305|n=>n,fun|n=>n⟩
theorem Tryz.FG:Go.Proofs.SlLaysF0.n6 Tryz.prog Tryz.Bi:={
 mixed:=by kernel_rfl
 f6:=⟨Tryz.f196.name,by decide,Tryz.func196.trans (congrArg some (by kernel_rfl))⟩
 f14:=⟨Tryz.f234.name,by decide,Tryz.func234.trans (congrArg some (by kernel_rfl))⟩
 f15:=Tryz.func166.trans (congrArg some (by kernel_rfl))
 f20:=⟨Tryz.f261.name,by decide,Tryz.func261.trans (congrArg some (by kernel_rfl))⟩
 f21:=⟨Tryz.f262.name,by decide,Tryz.func262.trans (congrArg some (by kernel_rfl))⟩
 f22:=⟨Tryz.f263.name,by decide,Tryz.func263.trans (congrArg some (by kernel_rfl))⟩
 f23:=⟨Tryz.f264.name,by decide,Tryz.func264.trans (congrArg some (by kernel_rfl))⟩
 f24:=⟨Tryz.f265.name,by decide,Tryz.func265.trans (congrArg some (by kernel_rfl))⟩
 f25:=⟨Tryz.f266.name,by decide,Tryz.func266.trans (congrArg some (by kernel_rfl))⟩
 f26:=⟨Tryz.f267.name,by decide,Tryz.func267.trans (congrArg some (by kernel_rfl))⟩
 f27:=⟨Tryz.f268.name,by decide,Tryz.func268.trans (congrArg some (by kernel_rfl))⟩
 f28:=Tryz.func210.trans (congrArg some (by kernel_rfl))
 f29:=Tryz.func211.trans (congrArg some (by kernel_rfl))
 f46:=⟨Tryz.f281.name,by decide,Tryz.func281.trans (congrArg some (by kernel_rfl))⟩
 f47:=Tryz.func246.trans (congrArg some (by kernel_rfl))
 f48:=Tryz.func247.trans (congrArg some (by kernel_rfl))
 f49:=⟨Tryz.f282.name,by decide,Tryz.func282.trans (congrArg some (by kernel_rfl))⟩
 f50:=⟨Tryz.f283.name,by decide,Tryz.func283.trans (congrArg some (by kernel_rfl))⟩
 f57:=⟨Tryz.f290.name,by decide,Tryz.func290.trans (congrArg some (by kernel_rfl))⟩
 t0:=iw
 a0:=sH
 z0:=oW
 v0:=jf
 t3:=ay
 a3:=sI
 z3:=oX
 v3:=jg
 t4:=jS
 a4:=Tryz.isAgg4
 z4:=Tryz.sizeOf4
 v4:=pG
 t5:=cw
 a5:=Tryz.isAgg5
 z5:=Tryz.sizeOf5
 v5:=Tryz.zeroValue5
 t9:=aA
 a9:=sJ
 z9:=oY
 v9:=jh
 t22:=bG
 a22:=Tryz.isAgg98
 z22:=Tryz.sizeOf98
 v22:=Tryz.zeroValue98
 t25:=Tryz.underlying235
 a25:=Tryz.isAgg235
 z25:=Tryz.sizeOf235
 v25:=Tryz.zeroValue235
 t39:=Tryz.underlying183
 a39:=Tryz.isAgg183
 z39:=Tryz.sizeOf183
 v39:=Tryz.zeroValue183
 t45:=Tryz.underlying266
 a45:=Tryz.isAgg266
 z45:=Tryz.sizeOf266
 v45:=Tryz.zeroValue266
 t46:=Tryz.underlying267
 a46:=Tryz.isAgg267
 z46:=Tryz.sizeOf267
 v46:=Tryz.zeroValue267
 t50:=Tryz.underlying121
 a50:=Tryz.isAgg121
 z50:=Tryz.sizeOf121
 v50:=Tryz.zeroValue121
 t53:=Tryz.underlying273
 a53:=Tryz.isAgg273
 z53:=Tryz.sizeOf273
 v53:=Tryz.zeroValue273
 t55:=Tryz.underlying165
 a55:=Tryz.isAgg165
 z55:=Tryz.sizeOf165
 v55:=Tryz.zeroValue165
 t66:=Tryz.underlying295
 a66:=Tryz.isAgg295
 z66:=Tryz.sizeOf295
 v66:=Tryz.zeroValue295
 t70:=Tryz.underlying299
 a70:=Tryz.isAgg299
 z70:=Tryz.sizeOf299
 v70:=Tryz.zeroValue299
 t76:=Tryz.underlying327
 a76:=Tryz.isAgg327
 z76:=Tryz.sizeOf327
 v76:=Tryz.zeroValue327
 t77:=Tryz.underlying305
 a77:=Tryz.isAgg305
 z77:=Tryz.sizeOf305
 v77:=Tryz.zeroValue305}
end Go.Proofs
namespace Go.K
open Go.Proofs
set_option maxRecDepth 10000
open Go.Proofs Go.Sort
abbrev TK:Type:={t:Fd // (0:UInt8)∉t.1∧t.1.length≤1000000∧t.2.length≤1000000}
instance aaS:Inhabited TK:=⟨⟨([],[]),by simp,by simp,by simp⟩⟩
def vK (x:TK):List Value:=[.string ⟨x.1.1.toArray⟩,.string ⟨x.1.2.toArray⟩]
def DZ (x y:TK):Int:=Lib.compareBytes (dp x.1) (dp y.1)
theorem tZ:∀{a b x y:List UInt8},(0:UInt8)∉a→(0:UInt8)∉b→a++[0]++x=b++[0]++y→a=b∧x=y
 |[],[],_,_,_,_,h=>⟨rfl,by simpa using h⟩
 |[],c::b,_,_,_,hb,h=>by
  simp at h;exact absurd (by rw[←h.1];exact bX ..) hb
 |c::a,[],_,_,ha,_,h=>by
  simp at h;exact absurd (by rw[h.1];exact bX ..) ha
 |c::a,e::b,x,y,ha,hb,h=>by
  simp only[je,List.cons.injEq]at h;obtain⟨h1,h2⟩:=tZ (fun h=>ha (cv _ h)) (fun h=>hb (cv _ h)) h.2;exact⟨by rw[h.1,h1],h2⟩
theorem Ws (w:World):(isAgg 47).run Tryz.prog w= .ok true w:=by simp[isAgg,cr,run_underlying bA]
theorem Qq (w:World):(Go.sizeOf 47).run Tryz.prog w= .ok 2 w:=by
 obtain⟨i,h1,_,h2,_⟩:=ja.get;simp[Go.sizeOf,typeInfo,cr,program,Sem.run,h1,h2]
theorem FH (iH off size:Nat) (w:World):CmpLays Tryz.prog 158 #[] vK 2 DZ iH off size w:=fun m os dk hs x y=>
 (show Calls Tryz.prog 158 #[kv x.1,kv y.1] (sortWorldK vK 2 w iH off m dk os) (fun e w'=>∃v,e= .returned v∧_∧_)from IA (s:=x.1) (t:=y.1) _ x.2.2.1 x.2.2.2 y.2.2.1 y.2.2.2).mono fun e w' ⟨v,h1,h2,h3⟩=>⟨by rw[h1,h2];rfl,1,#[eU x.1,eU y.1,eU x.1,eU y.1],by rw[h3];simp only[Bg,Bh,Go.Sort.grow_grow];rfl⟩
theorem Qr (iH off cap:Nat) (d:Array TK) (w:World) (hH:HoldsK vK 2 w iH off d) (hblk:iH<w.heap.size) (gS:d.size<4611686018427387904):
  Spec Tryz.prog 196 #[.slice (some ⟨iH,off,none⟩) d.size cap,.func (.func 158) #[] #[]] w (fun v w'=>v= .tuple #[]∧∃n os,w'=sortWorldK vK 2 w iH off n (d.toList.mergeSort fun x y=> !(Go.Proofs.ltOf DZ) y x).toArray os):=by
 exact(Go.Proofs.AnyQ.slices_SortFunc_total Tryz.FG 2 Ws Qq vK (fun _=>rfl) (fun x v hv=>by simp[vK]at hv;rcases hv with rfl|rfl<;>rfl) DZ (Ck _) 158 #[] iH off cap d w UO (FH iH off d.size w) hH hblk gS (fun x y h1 h2=>by
  have h0:DZ x y=0:=by
   have:=mw (dp x.1) (dp y.1);simp only[Go.Proofs.ltOf,decide_eq_false_iff_not]at h1 h2;unfold DZ at h1 h2 ⊢;omega
  have h3:=nJ h0;obtain⟨h4,h5⟩:=tZ x.2.1 y.2.1 h3;exact Subtype.ext (la h4 h5))).mono fun e w' ⟨h1,h2⟩=>⟨_,h1,rfl,h2⟩
end Go.K
namespace Go.K
set_option linter.unusedSectionVars false
open Go.Sort Go.Proofs
section
variable {α:Type} [Inhabited α] {enc:α→List Value} {k:Nat}
theorem rD (hk:∀x,(enc x).length=k) (h0:0<k):∀(l:List α) (t:Nat),(l.flatMap enc)[t]? =(l[t/k]?).bind fun x=>(enc x)[t%k]?
 |[],t=>by simp
 |x::l,t=>by
  rw[List.flatMap_cons];rcases fw t k with h|h
  ·rw[List.getElem?_append_left (by rw[hk];exact h),Nat.div_eq_of_lt h,Nat.mod_eq_of_lt h];rfl
  ·rw[List.getElem?_append_right (by rw[hk];exact h),hk,rD hk h0 l];have e1:t/k=(t-k)/k+1:=by rw[Nat.div_eq t k,if_pos ⟨h0,h⟩]
   have e2:(t-k)%k=t%k:=by rw[Nat.mod_eq t k,if_pos ⟨h0,h⟩]
   rw[e1,e2,List.getElem?_cons_succ]
theorem nK (hk:∀x,(enc x).length=k):∀l:List α,(l.flatMap enc).length=l.length*k
 |[]=>by simp
 |x::l=>by rw[List.flatMap_cons,bO,hk,nK hk l,cM,Nat.add_mul];omega
theorem ua (hk:∀x,(enc x).length=k) (h0:0<k) (d:Array α) {t:Nat} (ht:t<d.size*k):(d.toList.flatMap enc)[t]? =some (flatK enc k d)[t]! :=by
 have h1:t/k<d.size:=Nat.div_lt_of_lt_mul (by rw[Nat.mul_comm];exact ht);have h2:t%k<k:=Nat.mod_lt _ h0;rw[rD hk h0,get_flatK _ _ _ _ ht];have e:d.toList[t/k]? =some d[t/k]! :=by simp[h1]
 rw[e];simp[hk,h2]
theorem Dl {w:World} {g:Nat} {cur:Array Value} {e:TypeId} {d:Array α} (hk:∀x,(enc x).length=k) (h0:0<k) (hg:w.heap[g]? =some (.cells cur e (0,0))) (hC:cur.toList.take (d.size*k)=d.toList.flatMap enc):HoldsK enc k w g 0 d:=fun j hj=>by
 rw[size_flatK]at hj;have h1:=ua hk h0 d hj;rw[←hC,eo,if_pos hj,Array.getElem?_toList]at h1;constructor
 ·simp[World.cell?,hg,h1]
 ·simp[World.frozen?,hg]
theorem vL {w:World} {g n:Nat} {cur:Array Value} {e:TypeId} {d:Array α} {os:Array Obj} (hg:w.heap[g]? =some (.cells cur e (0,0))):(sortWorldK enc k w g 0 n d os).heap[g]? =some (.cells (putCells id 0 (flatK enc k d) cur) e (0,0)):=by
 have dD:g<w.heap.size:=al hg
 have h1:(w.heap.modify g (onCells (putCells id 0 (flatK enc k d))))[g]? =some (.cells (putCells id 0 (flatK enc k d) cur) e (0,0)):=by
  rw[qq,if_pos rfl,hg];rfl
 show((w.heap.modify g (onCells (putCells id 0 (flatK enc k d))))++os)[g]? =_;rw[Array.getElem?_append_left (by simpa using dD)];exact h1
theorem sf {w:World} {g n:Nat} {d:Array α} {os:Array Obj}:Step allM w allM (sortWorldK enc k w g 0 n d os) (fun b=>b=g):=
 ⟨fun h=>absurd (h w.heap.size trivial) (mW _),rfl,rfl,rfl,by show _≤((w.heap.modify g _)++os).size;simp,fun _ _=>Iff.rfl,fun b hb hn=>by
  have hn: ¬b=g:=hn;show((w.heap.modify g (onCells (putCells id 0 (flatK enc k d))))++os)[b]? =_;rw[Array.getElem?_append_left (by simpa using hb),qq,if_neg (fun h=>hn h.symm)],fun _ _=>trivial⟩
theorem vM {F cur:Array Value} (h:F.size≤cur.size):(putCells id 0 F cur).toList.take F.size=F.toList:=by
 apply kL;intro j;rw[eo];by_cases hj:j<F.size
 ·rw[if_pos hj];simp[putCells,hj,Nat.lt_of_lt_of_le hj h]
 ·rw[if_neg hj,ij (by simpa using hj)]
theorem x5 (hk:∀x,(enc x).length=k) (h0:0<k) (d:Array α):(flatK enc k d).toList=d.toList.flatMap enc:=by
 apply kL;intro j;by_cases hj:j<d.size*k
 ·rw[ua hk h0 d hj];have:j<(flatK enc k d).size:=by rw[size_flatK];exact hj
  rw[Array.getElem?_toList,getElem!_pos _ j this];exact Array.getElem?_eq_getElem this
 ·rw[ij (by rw[Array.length_toList,size_flatK];omega),ij (by rw[nK hk,Array.length_toList];omega)]
end
end Go.K
namespace Go.K
open Go.Proofs
set_option maxRecDepth 10000
open Go.Proofs Go.Sort
theorem Cl:∀{ts:List Fd} {C:List Value} {M:aI} {w:World},eK RT.fd M w ts C→C=ts.flatMap fun t=>[.string ⟨t.1.toArray⟩,.string ⟨t.2.toArray⟩]
 |[],C,_,_,h=>h
 |t::ts,C,_,_,⟨vs,r,h1,h2,h3⟩=>by
  obtain⟨va,vb,rfl,h4,h5⟩:=h2;rw[h1,Cl h3,h4.1,h5.1];rfl
theorem zz {M:aI} {w:World}:∀{ts:List Fd},(∀t∈ts,t.1.length≤1000000∧t.2.length≤1000000)→eK RT.fd M w ts (ts.flatMap fun t=>[.string ⟨t.1.toArray⟩,.string ⟨t.2.toArray⟩])
 |[],_=>rfl
 |t::ts,h=>by
  obtain⟨h1,h2⟩:=h t (bX ..);exact⟨_,_,rfl,⟨_,_,rfl,⟨rfl,by omega⟩,⟨rfl,by omega⟩⟩,zz fun u hu=>h u (cv _ hu)⟩
def FI (us:List Fd):Prop:=us.Pairwise fun a b=>¬Lib.compareBytes (dp b) (dp a)<0
theorem vN {base:Nat} {v:Value} {ts:List Fd} (w0:World) (ho:Own RT.fd 47 (ov v) w0 base v ts) (hT:∀t∈ts,(0:UInt8)∉t.1∧t.1.length≤1000000∧t.2.length≤1000000) (hl:ts.length≤100000000):
  Spec Tryz.prog 196 #[v,.func (.func 158) #[] #[]] w0 (fun r w=>r= .tuple #[]∧∃us:List Fd,us.Perm ts∧FI us∧Own RT.fd 47 (ov v) w base v us∧Step allM w0 allM w (ov v)):=by
 obtain⟨⟨C,⟨hC,hr⟩,hA⟩,hm⟩:=ho;rcases hr with⟨rfl,h0⟩|⟨g,cap,cur,rfl,hb,hg,hle,hmx,hcz,CN⟩
 ·have Er:ts=[]:=gr.1 h0;subst Er;exact(AnyF.slices_SortFunc_none Tryz.FG none 0 _ w0).mono fun e w' ⟨h1,h2⟩=>⟨_,h1,rfl,[],.refl _,List.Pairwise.nil,dw _ _ _ _ _,by rw[h2];exact(ar allM w0).b9 (fun _ h=>h.elim) (fun _ _=>trivial)⟩
 ·obtain⟨d,hd⟩:∃d:Array TK,d.toList.map (·.1)=ts:=⟨(ts.attach.map fun x=>(⟨x.1,hT x.1 x.2⟩:TK)).toArray,by rw[List.toList_toArray,vr];exact List.attach_map_subtype_val ts⟩;have gS:d.size=ts.length:=by rw[←hd];simp
  have hk:∀x:TK,(vK x).length=2:=fun _=>rfl
  have L9:∀l:List TK,(l.map (·.1)).flatMap (fun t:Fd=>[Value.string ⟨t.1.toArray⟩,.string ⟨t.2.toArray⟩])=l.flatMap vK:=fun l=>by rw[List.flatMap_map];rfl
  have hH:HoldsK vK 2 w0 g 0 d:=Dl hk (by omega) hg (by
   have e2:RT.fd.n=2:=rfl;rw[e2]at CN;rw[gS,CN,Cl hA,←hd,L9])
  have hs:=Qr g 0 cap d w0 hH (al hg) (by omega);rw[gS]at hs;refine hs.mono fun r w' ⟨h1,n,os,h2⟩=>⟨h1,(d.toList.mergeSort fun x y=> !(ltOf DZ) y x).map (·.1),?_,?_,?_,?_⟩
  ·rw[←hd];exact(List.mergeSort_perm _ _).map _
  ·refine du.2 ((List.pairwise_mergeSort (fun a b c h1 h2=>?_) (fun a b=>?_) _).imp fun h=>?_)
   ·simp only[ltOf,o0,decide_eq_false_iff_not]at*
    have:=(Ck fun x:TK=>dp x.1).ntrans c b a (by simpa[ltOf,DZ]using h2) (by simpa[ltOf,DZ]using h1);simpa[ltOf,DZ]using this
   ·simp only[ltOf,Bool.or_eq_true,o0,decide_eq_false_iff_not];have:=mw (dp a.1) (dp b.1);unfold DZ;omega
   ·rw[o0]at h;exact of_decide_eq_false h
  ·have hp:=List.mergeSort_perm d.toList fun x y=> !(ltOf DZ) y x
   rw[h2];generalize (d.toList.mergeSort fun x y=> !(ltOf DZ) y x)=us at hp;have Qs:(us.map (·.1)).length=ts.length:=by rw[cx,hp.length_eq,Array.length_toList,gS]
   have yp:us.toArray.size*2=ts.length*2:=by rw[←Qs];simp
   have e2:RT.fd.n=2:=rfl;refine⟨⟨(us.map (·.1)).flatMap (fun t:Fd=>[Value.string ⟨t.1.toArray⟩,.string ⟨t.2.toArray⟩]),⟨?_,.inr ⟨g,cap,_,by rw[Qs],hb,vL hg,by rw[Qs];exact hle,hmx,by rw[←hcz];simp[putCells],?_⟩⟩,zz fun t ht=>?_⟩,hm⟩
   ·rw[L9,nK hk,cx,e2]
   ·rw[L9,Qs,e2,←yp,←size_flatK vK,vM (by rw[size_flatK,yp,hcz,e2];omega),x5 hk (by omega)]
   ·obtain⟨x,_,rfl⟩:=cq.1 ht;exact x.2.2
  ·rw[h2];exact sf.b9 (fun b hb=>by have hb:b=g:=hb;subst hb;rfl) (fun _ _=>trivial)
end Go.K
namespace Go.K
open Go.Proofs
set_option maxRecDepth 10000
theorem zA {bs mb clock:Nat} {es:List MapEntry} (w0:World) (hk:Ci es) (hT:∀e∈es,∀t,e.key=kv t→(0:UInt8)∉t.1∧t.1.length≤1000000∧t.2.length≤1000000) (Tw:es.length≤100000000) (hlen:∀ts:List Fd,ts.Nodup→(∀t∈ts,∃e∈es,e.key=kv t)→ts.length≤100000000) (L6:w0.heap[bs]? =some (.cells #[.map (some mb)] 227 (0,0))) (hW:eD Tryz.prog 47 w0 mb es clock):
  Spec Tryz.prog 156 #[.func (.func 197) #[] [.pointer (some ⟨bs,0,none⟩)].toArray,.func (.func 158) #[] #[]] w0 (fun v w=>∃us:List Fd,us.Nodup∧(∀t,t∈us↔∃e∈es,e.key=kv t)∧FI us∧Own RT.fd 47 (ov v) w w0.heap.size v us∧Step allM w0 allM w aD):=by
 refine bh (args:=[_,_]) (fn:=Tryz.f156) Tryz.func156 rfl (n:=12) Tryz.ntmps156 (ak (aj (ah rfl rfl (ad (ak (aj (ae rfl rfl ?_)))))));refine aT rfl rfl UZ (x2 _ hk Tw L6 hW) (fun v1 w1 hc=>?_);obtain⟨ts,ot,mO,ho,s1⟩:=hc;refine ah rfl rfl (ad (ak (aj (ae rfl rfl (ae rfl rfl ?_)))));refine aT rfl rfl U0 (vN _ ho (fun t ht=>by obtain⟨e,he,Wo⟩:=(mO t).1 ht;exact hT e he t Wo) (hlen ts ot fun t ht=>(mO t).1 ht)) (fun r2 w2 hc=>?_);obtain⟨rfl,us,hp,KP,Qt,s2⟩:=hc;refine ad (ak (aj (ae rfl rfl (ah rfl rfl (ad (aM ?_))))));exact aS rfl rfl ⟨us,hp.nodup_iff.2 ot,fun t=>hp.mem_iff.trans (mO t),KP,Qt,s1.trans s2 (fun k hk hn=>by have:=(ho.base k hn).1;omega)⟩
theorem Bj {mb:Nat} (w0:World):
  Spec Tryz.prog 157 #[.map (some mb)] w0 (fun v w=>∃bs,v= .func (.func 197) #[] [.pointer (some ⟨bs,0,none⟩)].toArray∧w.heap[bs]? =some (.cells #[.map (some mb)] 227 (0,0))∧w0.heap.size≤bs∧Step allM w0 allM w aD):=by
 refine bh (args:=[_]) (fn:=Tryz.f157) Tryz.func157 rfl (n:=4) Tryz.ntmps157 (ak (aj ?_));refine Rg.box allM rfl rfl (fun bs w1 nA qt gs s1=>?_);change w1.heap[bs]? =some (.cells #[.map (some mb)] 227 (0,0))at gs;replace s1:=s1.all;refine ah rfl rfl (ad (ak (aj (lD (xs:=[]) (ys:=[.tmp 1]) rfl rfl rfl (ah rfl rfl (ad (aM ?_)))))));exact aS rfl rfl ⟨bs,rfl,gs,nA,s1⟩
end Go.K
namespace Go.K
open Go.Proofs
set_option maxRecDepth 10000
def posOf (ts:List (Fd×Nat)) (t:Fd):List Int:=(ts.filter fun p=>decide (p.1=t)).map fun p=>(p.2:Int)
def seen (ts:List (Fd×Nat)):List Fd:=ts.foldl (fun l p=>if p.1∈l then l else l++[p.1]) []
theorem Dm (ts:List (Fd×Nat)) (t:Fd) (i:Nat):seen (ts++[(t,i)])=if t∈seen ts then seen ts else seen ts++[t]:=by unfold seen;rw[kK];rfl
theorem uc (ts:List (Fd×Nat)) (t t':Fd) (i:Nat):posOf (ts++[(t,i)]) t'=if t=t' then posOf ts t'++[(i:Int)]else posOf ts t':=by
 unfold posOf;rw[List.filter_append];by_cases h:t=t'<;>simp[h]
theorem qT (ts:List (Fd×Nat)) (t:Fd):(posOf ts t).length≤ts.length:=by
 unfold posOf;rw[cx];exact List.length_filter_le _ _
abbrev jn:Value:= .slice none 0 0
structure Dn (M:aI) (w:World) (B:Nat) (ts:List (Fd×Nat)) (es:List MapEntry):Prop where
 o:∀t v,dH jn es (kv t) v→Own (RT.int .i64) 3 M w B v (posOf ts t)
 a:∀t t' v v',t≠t'→dH jn es (kv t) v→dH jn es (kv t') v'→gX v v'
 k:es.map (·.key)=(seen ts).map kv
theorem Dn.a7 {M M':aI} {w w':World} {B:Nat} {ts:List (Fd×Nat)} {es:List MapEntry} (h:Dn M w B ts es) (s:Step M w M' w' aD):Dn M' w' B ts es:=⟨fun t v hv=>(h.o t v hv).a7 s,h.a,h.k⟩
def IJ (bt mb B:Nat) (ts:List (Fd×Nat)) (M:aI) (w:World):Prop:=w.heap[bt]? =some (.cells #[.map (some mb)] 227 (0,0))∧M bt∧M mb∧B≤bt∧B≤mb∧∃es clock,eD Tryz.prog 47 w mb es clock∧Dn M w B ts es
theorem Own.jo {α:Type} {A:RT α} {e:TypeId} {M:aI} {w:World} {base b c:Nat} {a:Array MapEntry} {v:Value} {xs:List α} (h:Own A e M w base v xs) (hb:w.heap[b]? =some (.map a c)):v.ownBlock≠some b:=fun hv=>by
 obtain⟨⟨C,h1,_⟩,_⟩:=h;rcases h1.2 with⟨h2,_⟩|⟨g,cap,cur,h2,_,h3,_⟩
 ·rw[h2]at hv;cases hv
 ·rw[h2]at hv;cases hv;rw[h3]at hb;cases hb
theorem qc {ts:List (Fd×Nat)} {es:List MapEntry} {t:Fd} (hk:es.map (·.key)=(seen ts).map kv):(∃e∈es,e.key=kv t)↔t∈seen ts:=by
 constructor
 ·rintro⟨e,he,h⟩;have:kv t∈(seen ts).map kv:=by rw[←hk,←h];exact ez he
  obtain⟨t',h1,h2⟩:=cq.1 this;rw[←qS h2];exact h1
 ·intro h;have:kv t∈es.map (·.key):=by rw[hk];exact ez h
  obtain⟨e,h1,h2⟩:=cq.1 this;exact⟨e,h1,h2⟩
theorem Dp {M:aI} {bt mb B:Nat} {ts:List (Fd×Nat)} {t:Fd} {i:Nat} (w0:World) (hM:Lt M w0) (h1:t.1.length≤900000) (h2:t.2.length≤140737488355328) (hi:i≤1000000) (Er:ts.length≤10000000) (hJ:IJ bt mb B ts M w0):
  Spec Tryz.prog 155 #[kv t,.int .i64 (i:Int),.pointer (some ⟨bt,0,none⟩)] w0 (fun v w=>∃M',Lt M' w∧IJ bt mb B (ts++[(t,i)]) M' w∧Step M w0 M' w (jU M B)):=by
 obtain⟨gb,dC,ed,hB,Cm,es,clock,hW,hI⟩:=hJ;refine bh (args:=[_,_,_]) (fn:=Tryz.f155) Tryz.func155 rfl (n:=13) Tryz.ntmps155 ?_;have S:Step M w0 M w0 (jU M B):=(ar _ _).b9 (fun _ h=>h.elim) (fun _ h=>h.2);refine ak (aj ?_);refine gp (A:=RT.fd) rfl rfl hM (vI (by omega) h2) rfl (fun u0 w1 cG s0 _=>?_);have:=al gb;replace dC:=(s0.mem _ this).2 dC;replace gb:=s0.aN gb;replace ed:=(s0.mem _ (al hW.at_)).2 ed;replace hW:=hW.a7 s0;replace hI:=hI.a7 s0;replace hM:=s0.lt hM;have:=S.size;replace S:=S.aw s0;refine ad (aj (aX j4 rfl rfl rfl (by assumption) rfl ?_));refine b7 (M:=M) (A:=RT.fd) bA rfl ja (by decide) rfl rfl rfl cG (ao _ _) (fun v1 pE=>?_);obtain rfl:=iS pE;refine ae rfl rfl ?_;refine dQ (A:=RT.int .i64) (hn:=by decide) (M:=M) au I3 (by decide) rfl rfl hM (fO (by omega)) (.inr ⟨rfl,rfl⟩) (fun EV Db im s1_3=>?_);have:=al gb;replace dC:=(s1_3.mem _ this).2 dC;replace gb:=s1_3.aN gb;replace cG:=cG.le (by decide) s1_3.le;replace ed:=(s1_3.mem _ (al hW.at_)).2 ed;replace hW:=hW.a7 s1_3;replace hI:=hI.a7 s1_3;replace hM:=s1_3.lt hM;have:=S.size;replace S:=S.aw s1_3;obtain⟨kl,DV⟩:=FA t (by omega) h2;refine Rg.mapEntry (M:=M) (zv:=jn) j4 wT jE rfl rfl rfl DV hW ed (fun w4 es4 cl4 v s Ol hv mO Bk KV s4=>?_);have D0:∀t v,dH jn es (kv t) v→v.ownBlock≠some mb:=fun t v h=>(hI.o t v h).jo hW.at_
 have JX:bt≠mb:=fun e=>by subst e;have:=hW.at_;rw[gb]at this;cases this
 replace hI:Dn M w4 B ts es:=⟨fun t v hv=>(hI.o t v hv).step s4 (fun b hb hk=>D0 t v hv (by have hk:b=mb:=hk;rw[←hk];exact hb)),hI.a,hI.k⟩;have Qu:=(s4.mem _ (al hW.at_)).2 ed;replace dC:=(s4.mem _ (al gb)).2 dC;replace gb:=s4.bM gb JX;replace im:=im.le s4.le;replace hM:=s4.lt hM;have hmM:∀b,b<w0.heap.size→M b→M b:=fun b hb h=>(S.mem b hb).1 h
 have hz0:=S.size;replace S:=S.trans s4 (fun k hk h=>by have h:k=mb:=h;subst h;exact⟨Cm,hmM k hk ed⟩);have oO:=hI.o t v hv;have yv:=qT ts t;refine bR rfl rfl rfl ?_;refine Rg.ju (M:=M) (base:=B) au I3 rfl rfl rfl rfl oO im (ao _ _) (by simp;omega) (by simp;omega) (by have:=al gb;omega) (fun v6 w6 rC s6 hF=>?_);have hblk:∀b,iH v b→B≤b∧M b:=fun b h=>⟨(oO.base b h).1,oO.mut_ b h⟩
 have Dq:∀t' v',t'≠t→dH jn es (kv t') v'→gX v' v:=fun t' v' eE oI=>hI.a t' t v' v eE oI hv
 have IB:∀t' v',t'≠t→dH jn es (kv t') v'→Own (RT.int .i64) 3 (jL M v6) w6 B v' (posOf ts t'):=fun t' v' eE oI=>(hI.o t' v' oI).step s6 (fun b hb hk=>Dq t' v' eE oI b hb hk)
 have gS:∀t' v',dH jn es (kv t') v'→∀b,v'.ownBlock=some b→b<w4.heap.size:=fun t' v' oI b hb=>((hI.o t' v' oI).base b hb).2
 have Bm:∀t' v',t'≠t→dH jn es (kv t') v'→gX v6 v':=fun t' v' eE oI=>(Dq t' v' eE oI).symm.grown hF (gS t' v' oI)
 have Wt:v.ownBlock≠some mb:=oO.jo Ol.at_;have FJ:=(s6.mem _ (al Ol.at_)).2 Qu;replace Ol:=Ol.step s6 Wt;replace dC:=(s6.mem _ (al gb)).2 dC;replace gb:=s6.bM gb (fun h=>oO.ep gb (by decide) h);replace hM:=s6.lt hM;have Wu:∀b,b<w0.heap.size→M b→M b:=fun b hb h=>(S.mem b hb).1 h
 replace S:=S.trans s6 (fun k hk h=>⟨(hblk k h).1,Wu k hk (hblk k h).2⟩);refine bR rfl rfl rfl ?_;have Qv:=Ol.at_;refine Rg.entryStore rfl rfl rfl Ol FJ mO (fun w8 es8 hW8 mT Qw s8=>?_);have hm8:v6.ownBlock≠some mb:=rC.jo Qv;replace rC:=rC.step s8 (fun b hb hk=>hm8 (by have hk:b=mb:=hk;rw[←hk];exact hb));have Qx:∀t' v',t'≠t→dH jn es (kv t') v'→Own (RT.int .i64) 3 _ w8 B v' (posOf ts t'):=fun t' v' eE oI=>(IB t' v' eE oI).step s8 (fun b hb hk=>D0 t' v' oI (by have hk:b=mb:=hk;rw[←hk];exact hb))
 have Qy:=(s8.mem _ (al Qv)).2 FJ;refine ad ?_
 first|refine fP.nil ?_|simp+decide only[xu,l0,if_true,if_false]|skip
 replace dC:=(s8.mem _ (al gb)).2 dC;replace gb:=s8.bM gb JX;replace hM:=s8.lt hM;replace S:=S.trans s8 (fun k hk h=>by have h:k=mb:=h;subst h;exact⟨Cm,(S.mem k hk).1 FJ⟩)
 have oP:∀t1 v1,dH jn es8 (kv t1) v1→(t1=t∧v1=v6)∨(t1≠t∧dH jn es (kv t1) v1):=fun t1 v1 pE=>by
  rcases(Qw jn (kv t1) v1).1 pE with⟨h3,h4⟩|⟨h3,h4⟩
  ·exact .inl ⟨qS h3,h4⟩
  ·exact .inr ⟨fun e=>h3 (by rw[e];rfl),(Bk (kv t1) v1).1 h4⟩
 refine kh rfl ⟨_,hM,⟨gb,dC,Qy,hB,Cm,es8,_,hW8,⟨fun t1 v1 pE=>?_,fun t1 t2 v1 v2 eE pE qu=>?_,?_⟩⟩,S⟩
 ·rcases oP t1 v1 pE with⟨rfl,rfl⟩|⟨h3,h4⟩
  ·rw[uc,if_pos rfl];exact rC
  ·rw[uc,if_neg (fun e=>h3 e.symm)];exact Qx t1 v1 h3 h4
 ·rcases oP t1 v1 pE with⟨rfl,rfl⟩|⟨h3,h4⟩
  ·rcases oP t2 v2 qu with⟨rfl,_⟩|⟨h5,h6⟩
   ·exact absurd rfl eE
   ·exact Bm t2 v2 h5 h6
  ·rcases oP t2 v2 qu with⟨rfl,rfl⟩|⟨h5,h6⟩
   ·exact(Bm t1 v1 h3 h4).symm
   ·exact hI.a t1 t2 v1 v2 eE h4 h6
 ·rw[mT,Dm];rcases KV with⟨h3,h4⟩|⟨h3,h4⟩
  ·rw[h3,hI.k,if_pos ((qc hI.k).1 h4)]
  ·rw[h3,hI.k,if_neg (fun h=>by obtain⟨e,he,hk⟩:=(qc hI.k).2 h;exact h4 e he hk)];simp[kv]
end Go.K
namespace Go.K
open Go.Maps (Keyed)
open Go.Lib (compareBytes)
theorem zB:∀a b:List UInt8,Op.bytesLess a b=decide (compareBytes a b<0)
 |[],[]=>by simp[Op.bytesLess,compareBytes]
 |_::_,[]=>by simp[Op.bytesLess,compareBytes]
 |[],_::_=>by simp[Op.bytesLess,compareBytes]
 |a::x,b::y=>by
  rw[Op.bytesLess,zB x y,lR];by_cases h1:a.toNat<b.toNat
  ·simp[UInt8.lt_iff_toNat_lt,h1]
  ·by_cases h2:b.toNat<a.toNat
   ·have: ¬a=b:=fun e=>by subst e;omega
    simp[UInt8.lt_iff_toNat_lt,h1,h2,this]
   ·have:a=b:=UInt8.toNat_inj.1 (by omega);simp[UInt8.lt_iff_toNat_lt,h1,h2,this]
theorem nL (a b:List UInt8):compareBytes a b<0↔a<b:=by
 have h:=zB a b;rw[Go.Proofs.bytesLess_eq]at h;exact(decide_eq_decide.1 h).symm
theorem gx (a:List UInt8): ¬a<a:=fun h=>by have:=(nL a a).2 h;rw[tY]at this;omega
theorem jq {a b c:List UInt8} (h:a<b) (h':b<c):a<c:=(nL _ _).1 (oe ((nL _ _).2 h) ((nL _ _).2 h'))
theorem jY (a b:List UInt8):a<b∨a=b∨b<a:=by
 rcases Int.lt_trichotomy (compareBytes a b) 0 with h|h|h
 ·exact .inl ((nL _ _).1 h)
 ·exact .inr (.inl (nJ h))
 ·exact .inr (.inr ((nL _ _).1 (by rw[mw];omega)))
theorem gL {a b:List UInt8} (h:a<b): ¬b<a:=fun h'=>gx a (jq h h')
theorem Bn {a b:List UInt8}:a≤b↔¬b<a:=Iff.rfl
section
variable {P:Program} {r:Option Nat} {n:Nat} {L:Sl} {ds:List Deferred} {w:World} {K:Kt} {ops:Array Oper} {rest:List Oper} {d:Nat} {x y:Operand} {ty:TypeId} {pos:String} {af:Array Edge}
theorem Rg.Ma {t t':TypeId} {p q:List UInt8} (hx:ev L x=some (.string ⟨p.toArray⟩)) (hy:ev L y=some (.string ⟨q.toArray⟩)) (hd:Nat.blt d n=true)
  (k:Rg P r n ops rest ((d,.bool (decide (p<q)))::L) ds w K):
  Rg P r n ops ({dst:=some d,op:= .binOp .lss t x y t',type:=ty,pos,after:=af,guard:=none}::rest) L ds w K:=
 .op (fun _ h=>by cases h) rfl rfl hd _ w (fun ρ h=>by
  simp only[execOp];rw[h x _ hx,h y _ hy];simp[eqGuard,binOp,Op.stringOp,gP,Go.Proofs.bytesLess_eq]) k
theorem Rg.Wv {t t':TypeId} {p q:List UInt8} (hx:ev L x=some (.string ⟨p.toArray⟩)) (hy:ev L y=some (.string ⟨q.toArray⟩)) (hd:Nat.blt d n=true)
  (k:Rg P r n ops rest ((d,.bool (decide (q<p)))::L) ds w K):
  Rg P r n ops ({dst:=some d,op:= .binOp .gtr t x y t',type:=ty,pos,after:=af,guard:=none}::rest) L ds w K:=
 .op (fun _ h=>by cases h) rfl rfl hd _ w (fun ρ h=>by
  have e:(!(decide (p<q)||p==q))=decide (q<p):=by
   rcases jY p q with h|h|h
   ·simp[h,gL h]
   ·subst h;simp[gx]
   ·have: ¬p=q:=fun e=>by subst e;exact gx p h
    simp[h,gL h,this]
  simp only[execOp];rw[h x _ hx,h y _ hy];simp only[binOp,Op.stringOp,gP,Go.Proofs.bytesLess_eq,e];simp[eqGuard]) k
theorem Rg.FK {t t':TypeId} {p q:List UInt8} (hx:ev L x=some (.string ⟨p.toArray⟩)) (hy:ev L y=some (.string ⟨q.toArray⟩)) (hd:Nat.blt d n=true)
  (k:Rg P r n ops rest ((d,.bool (decide (¬p<q)))::L) ds w K):
  Rg P r n ops ({dst:=some d,op:= .binOp .geq t x y t',type:=ty,pos,after:=af,guard:=none}::rest) L ds w K:=
 .op (fun _ h=>by cases h) rfl rfl hd _ w (fun ρ h=>by
  have e:(!decide (p<q))=decide (¬p<q):=by by_cases h:p<q<;>simp[h]
  simp only[execOp];rw[h x _ hx,h y _ hy];simp only[binOp,Op.stringOp,gP,Go.Proofs.bytesLess_eq,e];simp[eqGuard]) k
theorem Rg.Mc {t t':TypeId} {p q:List UInt8} (hx:ev L x=some (.string ⟨p.toArray⟩)) (hy:ev L y=some (.string ⟨q.toArray⟩)) (hd:Nat.blt d n=true)
  (k:Rg P r n ops rest ((d,.bool (decide (¬q<p)))::L) ds w K):
  Rg P r n ops ({dst:=some d,op:= .binOp .leq t x y t',type:=ty,pos,after:=af,guard:=none}::rest) L ds w K:=
 .op (fun _ h=>by cases h) rfl rfl hd _ w (fun ρ h=>by
  have e:(decide (p<q)||p==q)=decide (¬q<p):=by
   rcases jY p q with h|h|h
   ·simp[h,gL h]
   ·subst h;simp[gx]
   ·have: ¬p=q:=fun e=>by subst e;exact gx p h
    simp[h,gL h,this]
  simp only[execOp];rw[h x _ hx,h y _ hy];simp only[binOp,Op.stringOp,gP,Go.Proofs.bytesLess_eq,e];simp[eqGuard]) k
end
abbrev yy (l:List (List UInt8)):Prop:=l.Pairwise (· < ·)
theorem Dr {ss:List (List UInt8)} (h:ss.Nodup):yy (ss.mergeSort fun x y=>decide (x≤y)):=by
 have h1:(ss.mergeSort fun x y=>decide (x≤y)).Pairwise (fun x y=>decide (x≤y)=true):=List.pairwise_mergeSort (fun a b c h1 h2=>by
  simp only[decide_eq_true_eq,Bn]at h1 h2 ⊢;intro h3;rcases jY a b with h|h|h
  ·exact h2 (jq h3 h)
  ·subst h;exact h2 h3
  ·exact h1 h) (fun a b=>by
  simp only[Bool.or_eq_true,decide_eq_true_eq,Bn];rcases jY a b with h|h|h
  ·exact .inl (gL h)
  ·subst h;exact .inl (gx a)
  ·exact .inr (gL h)) ss
 have h2:(ss.mergeSort fun x y=>decide (x≤y)).Nodup:=(List.mergeSort_perm ss _).nodup_iff.2 h;refine (h1.and h2).imp ?_;rintro a b ⟨h3,h4⟩;simp only[decide_eq_true_eq,Bn]at h3;rcases jY a b with h|h|h
 ·exact h
 ·exact absurd h h4
 ·exact absurd h h3
theorem yy.nodup {l:List (List UInt8)} (h:yy l):l.Nodup:=h.imp fun {a b} h e=>by subst e;exact gx a h
theorem FL {α:Type} {R:α→α→Prop} (hR:∀a b,R a b→R b a→a=b) {l l':List α} (h:l.Pairwise R) (h':l'.Pairwise R) (hn:l.Nodup) (JU:l'.Nodup) (hm:∀x,x∈l↔x∈l'):l=l':=
 List.Perm.eq_of_pairwise (fun a b _ _ h1 h2=>hR a b h1 h2) h h' ((List.perm_ext_iff_of_nodup hn JU).2 hm)
theorem Md {l l':List (List UInt8)} (h:yy l) (h':yy l') (hm:∀x,x∈l↔x∈l'):l=l':=
 FL (fun a b h1 h2=>absurd h2 (gL h1)) h h' h.nodup h'.nodup hm
abbrev sv (k:List UInt8):Value:= .string ⟨k.toArray⟩
theorem x7 {a b:List UInt8} (h:sv a=sv b):a=b:=by simpa[sv]using h
def Bo:Value→Option (DU×List MemPlace):=fun _=>some (.nil,[])
theorem eD.Ww {P:Program} {kt:TypeId} {M:aI} {w:World} {b:Nat} {es:List MapEntry} {clock:Nat} (hk:P.underlying kt=some .string) (h:eD P kt w b es clock) (hm:M b) (hl:es.length≤maxLen) (ks:List (List UInt8)) (IC:es.map (·.key)=ks.map sv):
  ∃m:List (Lit×DU),K6 P kt Bo M w b m∧(strKeys (DataW.map m)).Perm ks∧m.length=ks.length:=by
 have hF:Go.WideElems.Fit P kt Bo es.toArray clock:=by
  refine⟨by simpa using hl,⟨fun x hx=>h.lt x (by simpa using hx),?_,?_⟩,fun x hx=>?_⟩
  ·simpa[List.Nodup,du]using h.born
  ·simpa[List.Nodup,du]using h.keys
  ·obtain⟨l,hl⟩:=h.ok x (by simpa using hx);exact⟨(l,.nil),by simp[Go.WideElems.rd,hl,Bo]⟩
 have hp:=Go.WideShapes.sorted_perm (es.toArray.toList.map (Go.WideElems.rg P kt Bo));have hlen:(List.foldr DataW.insert [] (es.toArray.toList.map (Go.WideElems.rg P kt Bo))).length=es.length:=by rw[hp.length_eq];simp
 refine⟨_,⟨hm,es.toArray,clock,h.at_,hF,by rw[hlen];simp,rfl⟩,?_,?_⟩
 ·refine (hp.map fun p=>strOf p.1).trans ?_;rw[vr]
  have e:es.toArray.toList.map ((fun p=>strOf p.1)∘Go.WideElems.rg (H:=Unit) P kt Bo)=ks:=by
   refine kL fun i=>?_
   have hi:=congrArg (·[i]?) IC;simp only[o2]at hi ⊢
   cases he:es[i]? with
   |none=>
    rw[he]at hi
    cases Wx:ks[i]? with
    |none=>simp[he]
    |some a=>rw[Wx]at hi;cases hi
   |some e=>
    rw[he]at hi;obtain⟨l,hl⟩:=h.ok e (aH he);obtain⟨s,hs,h1⟩:=Option.map_eq_some_iff.1 hi.symm;obtain⟨z,hz1,hz2,_⟩:=Maps.keyOf_str hk hl;have:z=s:=x7 (hz1.symm.trans (by simpa using h1.symm));subst this;simp[he,hs,Go.WideElems.rg,Go.WideElems.rd,hl,Bo,hz2,strOf]
  rw[e]
 ·rw[hlen];have:=congrArg List.length IC;simpa using this
end Go.K
namespace Go.K
open Go.Lib (compareBytes)
def hG {α:Type} [DecidableEq α] (key:α→List UInt8) (t:α):List α→List α
 |[]=>[t]
 |u::l=>if key t<key u then t::u::l else if u=t then u::l else u::hG key t l
theorem og {α:Type} [DecidableEq α] {key:α→List UInt8} {t x:α}:∀{l:List α},x∈hG key t l↔x=t∨x∈l
 |[]=>by simp[hG]
 |u::l=>by
  unfold hG
  split
  ·simp
  ·split
   ·rename_i h;subst h;simp
   ·rw[dP,og (l:=l),dP];constructor
    ·rintro(h|h|h)
     ·exact .inr (.inl h)
     ·exact .inl h
     ·exact .inr (.inr h)
    ·rintro(h|h|h)
     ·exact .inr (.inl h)
     ·exact .inl h
     ·exact .inr (.inr h)
abbrev qU {α:Type} (key:α→List UInt8) (l:List α):Prop:=l.Pairwise fun a b=>key a<key b
theorem zC {α:Type} [DecidableEq α] {key:α→List UInt8} {t:α}:∀{l:List α},(∀u∈l,key u=key t→u=t)→qU key l→qU key (hG key t l)
 |[],_,_=>by simp[hG]
 |u::l,hi,h=>by
  have h':=hU.1 h;unfold hG
  split
  ·rename_i dD
   refine hU.2 ⟨fun x hx=>?_,h⟩;rcases dP.1 hx with rfl|hx
   ·exact dD
   ·exact jq dD (h'.1 x hx)
  ·rename_i dD
   split
   ·exact h
   ·rename_i eE
    have hut:key u<key t:=by
     rcases jY (key u) (key t)with h1|h1|h1
     ·exact h1
     ·exact absurd (hi u (bX ..) h1) eE
     ·exact absurd h1 dD
    refine hU.2 ⟨fun x hx=>?_,zC (fun v hv=>hi v (cv _ hv)) h'.2⟩;rcases og.1 hx with rfl|hx
    ·exact hut
    ·exact h'.1 x hx
def allBy {α:Type} [DecidableEq α] (key:α→List UInt8) (l:List α):List α:=l.foldl (fun a t=>hG key t a) []
theorem ud {α:Type} [DecidableEq α] (key:α→List UInt8) (l:List α) (t:α):allBy key (l++[t])=hG key t (allBy key l):=by unfold allBy;rw[kK];rfl
theorem my {α:Type} [DecidableEq α] {key:α→List UInt8} {S:α→Prop} (hS:∀a b,S a→S b→key a=key b→a=b):∀(l a:List α),(∀x∈l,S x)→(∀x∈a,S x)→qU key a→
  qU key (l.foldl (fun a t=>hG key t a) a)∧∀x,x∈l.foldl (fun a t=>hG key t a) a↔x∈a∨x∈l
 |[],a,_,_,h=>⟨h,fun x=>by simp⟩
 |t::l,a,hl,ha,h=>by
  have ht:=hl t (bX ..)
  obtain⟨h1,h2⟩:=my hS l (hG key t a) (fun x hx=>hl x (cv _ hx)) (fun x hx=>by
   rcases og.1 hx with rfl|hx
   ·exact ht
   ·exact ha x hx) (zC (fun u hu e=>hS _ _ (ha u hu) ht e) h)
  refine⟨h1,fun x=>?_⟩;rw[List.foldl_cons,h2,og,dP];constructor
  ·rintro((h|h)|h)
   ·exact .inr (.inl h)
   ·exact .inl h
   ·exact .inr (.inr h)
  ·rintro(h|h|h)
   ·exact .inl (.inr h)
   ·exact .inl (.inl h)
   ·exact .inr h
theorem qU.nodup {α:Type} {key:α→List UInt8} {l:List α} (h:qU key l):l.Nodup:=h.imp fun {a b} h e=>by subst e;exact gx _ h
abbrev Ds (t:Fd):Prop:=(0:UInt8)∉t.1
theorem qd {a b:Fd} (ha:Ds a) (hb:Ds b) (h:dp a=dp b):a=b:=by
 obtain⟨h1,h2⟩:=tZ ha hb h;exact la h1 h2
def bV (tl:List (Fd×Nat)):List Fd:=allBy dp (tl.map (·.1))
theorem nN {tl:List (Fd×Nat)} (hz:∀p∈tl,Ds p.1):qU dp (bV tl):=
 (my (S:=Ds) (fun _ _=>qd) _ [] (fun x hx=>by obtain⟨p,hp,rfl⟩:=cq.1 hx;exact hz p hp) (fun x h=>by cases h) List.Pairwise.nil).1
theorem gV {tl:List (Fd×Nat)} (hz:∀p∈tl,Ds p.1) {t:Fd}:t∈bV tl↔t∈tl.map (·.1):=by
 have:=(my (S:=Ds) (key:=dp) (fun _ _=>qd) (tl.map (·.1)) [] (fun x hx=>by obtain⟨p,hp,rfl⟩:=cq.1 hx;exact hz p hp) (fun x h=>by cases h) List.Pairwise.nil).2 t;simpa[bV,allBy]using this
theorem Cn (t:Fd):∀(ts:List (Fd×Nat)) (l:List Fd),t∈ts.foldl (fun l p=>if p.1∈l then l else l++[p.1]) l↔t∈l∨t∈ts.map (·.1)
 |[],l=>by simp
 |p::ts,l=>by
  rw[List.foldl_cons,Cn t ts,gN,dP]
  split
  ·rename_i h
   constructor
   ·rintro(h1|h1)
    ·exact .inl h1
    ·exact .inr (.inr h1)
   ·rintro(h1|h1|h1)
    ·exact .inl h1
    ·exact .inl (by rw[h1];exact h)
    ·exact .inr h1
  ·rw[cY,cD];constructor
   ·rintro((h1|h1)|h1)
    ·exact .inl h1
    ·exact .inr (.inl h1)
    ·exact .inr (.inr h1)
   ·rintro(h1|h1|h1)
    ·exact .inl (.inl h1)
    ·exact .inl (.inr h1)
    ·exact .inr h1
theorem qe {tl:List (Fd×Nat)} {t:Fd}:t∈seen tl↔t∈tl.map (·.1):=by unfold seen;rw[Cn];simp
theorem zD {tl:List (Fd×Nat)} {us:List Fd} (hz:∀p∈tl,Ds p.1) (ot:us.Nodup) (mO:∀t,t∈us↔t∈seen tl) (KP:FI us):us=bV tl:=by
 have hm:∀t,t∈us↔t∈bV tl:=fun t=>by rw[mO,qe,gV hz]
 have jM:∀t∈bV tl,Ds t:=fun t ht=>by obtain⟨p,hp,rfl⟩:=cq.1 ((gV hz).1 ht);exact hz p hp
 refine List.Perm.eq_of_pairwise (le:=fun a b=>¬compareBytes (dp b) (dp a)<0) (fun a b ha hb h1 h2=>?_) KP ((nN hz).imp fun {a b} h h'=>gL h ((nL _ _).1 h')) ((List.perm_ext_iff_of_nodup ot (nN hz).nodup).2 hm);rw[nL]at h1 h2;rcases jY (dp a) (dp b)with h|h|h
 ·exact absurd h h2
 ·exact qd (jM a ((hm a).1 ha)) (jM b hb) h
 ·exact absurd h h1
theorem mz (a b:List (Fd×Nat)) (t:Fd):posOf (a++b) t=posOf a t++posOf b t:=by simp[posOf]
theorem FM {tl:List (Fd×Nat)} {t:Fd} (h:t∈tl.map (·.1)):posOf tl t≠[]:=by
 obtain⟨p,hp,rfl⟩:=cq.1 h;intro e;have:p∈tl.filter fun q=>decide (q.1=p.1):=List.mem_filter.2 ⟨hp,by simp⟩
 rw[List.map_eq_nil_iff.1 e]at this;cases this
theorem Dt {tl:List (Fd×Nat)} {t:Fd} (h:t∉tl.map (·.1)):posOf tl t=[]:=by
 unfold posOf;rw[List.filter_eq_nil_iff.2 fun p hp=>by simp;intro e;exact h (cq.2 ⟨p,hp,e⟩)];rfl
theorem zE (x:Fd) (t:Fd):(posOf (fg x) t).Sublist ((List.range' 0 (words x.2).length).map fun(i:Nat)=>(i:Int)):=by
 have e:(fg x).map (fun p=>(p.2:Int))=(List.range' 0 (words x.2).length).map fun(i:Nat)=>(i:Int):=by
  rw[←List.zipIdx_map_snd 0 (words x.2),vr];unfold fg;rw[vr];rfl
 rw[←e];exact List.filter_sublist.map _
theorem Du (x:Fd) (t:Fd):(posOf (fg x) t).Pairwise (· < ·)∧∀i∈posOf (fg x) t,0≤i∧i<(words x.2).length:=by
 refine⟨List.Pairwise.sublist (zE x t) (du.2 ((List.pairwise_lt_range' (s:=0) (n:=(words x.2).length)).imp fun h=>by omega)),fun i hi=>?_⟩;have:=(zE x t).subset hi;obtain⟨k,hk,rfl⟩:=cq.1 this;have:=List.mem_range'_1.1 hk;omega
theorem wW {x:Fd} {p:Fd×Nat} (h:p∈fg x):p.1.1=x.1∧p.1.2∈words x.2:=by
 obtain⟨q,hq,rfl⟩:=cq.1 h;have:=List.mem_zipIdx hq;exact⟨rfl,by simp only;rw[this.2.2];exact List.getElem_mem _⟩
theorem wX {fs:List Fd} {p:Fd×Nat} (h:p∈bP fs):∃x∈fs,p.1.1=x.1∧p.1.2∈words x.2:=by
 obtain⟨x,hx,hp⟩:=List.mem_flatMap.1 h;exact⟨x,hx,wW hp⟩
theorem pA {x t:Fd} (h:x.1≠t.1):posOf (fg x) t=[]:=Dt fun hm=>by
 obtain⟨p,hp,rfl⟩:=cq.1 hm;exact h (wW hp).1.symm
theorem qV {t:Fd}:∀{fs:List Fd},(∀x∈fs,x.1≠t.1)→posOf (bP fs) t=[]
 |[],_=>rfl
 |x::fs,h=>by
  show posOf (fg x++bP fs) t=[];rw[mz,pA (h x (bX ..)),qV fun y hy=>h y (cv _ hy)];rfl
theorem zF {t:Fd}:∀{fs:List Fd},(fs.map (·.1)).Nodup→posOf (bP fs) t=[]∨∃x∈fs,posOf (bP fs) t=posOf (fg x) t
 |[],_=> .inl rfl
 |x::fs,h=>by
  have h':=List.nodup_cons.1 h;have e:posOf (bP (x::fs)) t=posOf (fg x) t++posOf (bP fs) t:=by show posOf (fg x++bP fs) t=_;rw[mz]
  by_cases hx:x.1=t.1
  ·refine .inr ⟨x,bX ..,?_⟩;rw[e,qV fun y hy e=>h'.1 (by have h9:y.1∈fs.map (·.1):=ez hy;rw[e,←hx]at h9;exact h9),jT]
  ·rw[e,pA hx,eu];rcases zF (t:=t) h'.2 with h1|⟨y,hy,h1⟩
   ·exact .inl h1
   ·exact .inr ⟨y,cv _ hy,h1⟩
theorem zG:∀{l:List Int} {last:Int},(∀x∈l,last<x)→l.Pairwise (· < ·)→eG last l=true
 |[],_,_,_=>rfl
 |x::l,last,h1,h2=>by
  have xy:=hU.1 h2;simp only[eG,bU,decide_eq_true_eq];exact⟨h1 x (bX ..),zG xy.1 xy.2⟩
structure gz (d:Dc):Prop where
 names:∀f∈d.2,eS f.1=true
 once:(d.2.map (·.1)).Nodup
 toks:∀f∈d.2,kz 0 (words f.2)=0
 many:(bP d.2).length≤500
 few:d.2.length≤8
theorem wY:∀{fs sn:List Fd} {n:Nat},tN sn fs n=0→(∀f∈fs,eS f.1=true∧kz 0 (words f.2)=0∧∀g∈sn,g.1≠f.1)∧(fs.map (·.1)).Nodup∧n+(bP fs).length≤500
 |[],sn,n,h=>by
  refine⟨(fun f hf=>by cases hf),List.nodup_nil,?_⟩;simp only[tN]at h
  split at h
  ·cases h
  ·simp[bP];omega
 |f::fs,sn,n,h=>by
  simp only[tN]at h
  split at h
  ·cases h
  ·rename_i h1
   split at h
   ·cases h
   ·rename_i h2
    split at h
    ·exact absurd h (by assumption)
    ·rename_i h3
     obtain⟨h4,h5,h6⟩:=wY h;have h7:∀g∈sn,g.1≠f.1:=fun g hg e=>h2 (qy.2 ⟨g,hg,by simp[e]⟩)
     refine⟨fun x hx=>?_,List.nodup_cons.2 ⟨fun hm=>?_,h5⟩,?_⟩
     ·rcases dP.1 hx with rfl|hx
      ·exact⟨by simpa using h1,by simpa using h3,h7⟩
      ·obtain⟨a,b,c⟩:=h4 x hx;exact⟨a,b,fun g hg=>c g (lf _ hg)⟩
     ·obtain⟨y,hy,e⟩:=cq.1 hm;exact(h4 y hy).2.2 f (List.mem_append_right _ (cD.2 rfl)) e.symm
     ·have:(bP (f::fs)).length=(fg f).length+(bP fs).length:=by show(fg f++bP fs).length=_;rw[bO]
      rw[this,lQ];omega
theorem Co {d:Dc} (h:lu d=0):gz d:=by
 unfold lu at h
 split at h
 ·cases h
 ·obtain⟨h1,h2,h3⟩:=wY h;exact⟨fun f hf=>(h1 f hf).1,h2,fun f hf=>(h1 f hf).2.1,by omega,by omega⟩
theorem wZ:∀{ws:List (List UInt8)} {i:Nat},kz i ws=0→∀x∈ws,x.length≤30
 |[],_,_,x,hx=>by cases hx
 |a::ws,i,h,x,hx=>by
  simp only[kz]at h
  split at h
  ·cases h
  ·split at h
   ·cases h
   ·rcases dP.1 hx with rfl|hx
    ·omega
    ·exact wZ h x hx
theorem FN {s:List UInt8} (h:eS s=true):(0:UInt8)∉s:=fun h0=>by
 simp only[eS,bU,ew]at h;have:=h.2 0 h0
 revert this;decide
theorem gz.Dv {d:Dc} (h:gz d):∀p∈bP d.2,Ds p.1:=fun p hp=>by
 obtain⟨x,hx,h1,_⟩:=wX hp;show(0:UInt8)∉p.1.1;rw[h1];exact FN (h.names x hx)
theorem gz.small {d:Dc} (h:gz d):∀p∈bP d.2,p.1.1.length≤12∧p.1.2.length≤30:=fun p hp=>by
 obtain⟨x,hx,h1,h2⟩:=wX hp;exact⟨by rw[h1];exact zg (h.names x hx),wZ (h.toks x hx) _ h2⟩
theorem gz.pos {d:Dc} (h:gz d) (t:Fd):(posOf (bP d.2) t).Pairwise (· < ·)∧(∀i∈posOf (bP d.2) t,0≤i∧i<500)∧(posOf (bP d.2) t).length≤500:=by
 have hl:=qT (bP d.2) t;have hm:=h.many;rcases zF (t:=t) h.once with h1|⟨x,hx,h1⟩
 ·rw[h1];exact⟨List.Pairwise.nil,(fun i hi=>by cases hi),by simp⟩
 ·obtain⟨h2,h3⟩:=Du x t
  have xz:(words x.2).length≤500:=by
   have:(fg x).length≤(bP d.2).length:=by
    obtain⟨i,hi⟩:=bT.1 hx;have:=pz hi
    have h5:(bP (d.2.take (i+1))).length≤(bP d.2).length:=by
     have:bP d.2=bP (d.2.take (i+1))++bP (d.2.drop (i+1)):=by unfold bP;rw[←List.flatMap_append,List.take_append_drop]
     rw[this,bO];omega
    rw[this,bO]at h5;omega
   rw[lQ]at this;omega
  rw[h1]at hl ⊢;exact⟨h2,fun i hi=>⟨(h3 i hi).1,by have:=(h3 i hi).2;omega⟩,by omega⟩
theorem gz.eG {d:Dc} (h:gz d) (t:Fd):l9 (posOf (bP d.2) t)=true:=by
 obtain⟨h1,h2,_⟩:=h.pos t;exact ma.2 ⟨zG (fun x hx=>by have:=(h2 x hx).1;omega) h1,fun x hx=>by have:=(h2 x hx).2;omega⟩
abbrev k7 (e:En):List (Fd×Nat):=bP e.1.2
def Cp (i:Nat) (tl:List (Fd×Nat)) (k:List UInt8):List Po:=((bV tl).filter fun t=>decide (dp t=k)).map fun t=>((i:Int),posOf tl t)
def x8 (k:List UInt8):Nat→List En→List Po
 |_,[]=>[]
 |i,e::L=>Cp i (k7 e) k++x8 k (i+1) L
def pk (L:List En) (k:List UInt8):List Po:=x8 k 0 L
theorem ue (k:List UInt8) (e:En):∀(L:List En) (i:Nat),x8 k i (L++[e])=x8 k i L++Cp (i+L.length) (k7 e) k
 |[],i=>by simp[x8]
 |x::L,i=>by
  simp only[je,x8,ue k e L (i+1),fv,cM];rw[show i+1+L.length=i+(L.length+1) by omega]
theorem ID (L:List En) (e:En) (k:List UInt8):pk (L++[e]) k=pk L k++Cp L.length (k7 e) k:=by
 unfold pk;rw[ue];simp
def fU (L:List En):List (List UInt8):=L.flatMap fun e=>(bV (k7 e)).map dp
theorem ug (L:List En) (e:En):fU (L++[e])=fU L++(bV (k7 e)).map dp:=by simp[fU]
def keysOf (L:List En):List (List UInt8):=allBy id (fU L)
theorem k8 (L:List En):yy (keysOf L):=(my (key:=id) (S:=fun _=>True) (fun a b _ _ h=>h) _ [] (fun _ _=>trivial) (fun _ _=>trivial) List.Pairwise.nil).1
theorem iT {L:List En} {k:List UInt8}:k∈keysOf L↔k∈fU L:=by
 have:=(my (key:=id) (S:=fun _=>True) (fun a b _ _ h=>h) (fU L) [] (fun _ _=>trivial) (fun _ _=>trivial) List.Pairwise.nil).2 k;simpa[keysOf,allBy]using this
theorem filter_one {α:Type} {key:α→List UInt8} {l:List α} (h:qU key l) (k:List UInt8):l.filter (fun t=>decide (key t=k))=[]∨∃t∈l,key t=k∧l.filter (fun t=>decide (key t=k))=[t]:=by
 have h1:qU key (l.filter fun t=>decide (key t=k)):=List.Pairwise.sublist List.filter_sublist h;have h2:∀x∈l.filter (fun t=>decide (key t=k)),x∈l∧key x=k:=fun x hx=>by simpa using List.mem_filter.1 hx
 revert h1 h2
 generalize l.filter (fun t=>decide (key t=k))=m;intro h1 h2
 match m,h1,h2 with
 |[],_,_=>exact .inl rfl
 |[t],_,h2=>exact .inr ⟨t,(h2 t (bX ..)).1,(h2 t (bX ..)).2,rfl⟩
 |t::u::m,h1,h2=>
  have:=(hU.1 h1).1 u (bX ..);rw[(h2 t (bX ..)).2,(h2 u (by simp)).2]at this;exact absurd this (gx k)
theorem Cq {d:Dc} (h:gz d) (i:Nat) (k:List UInt8):Cp i (bP d.2) k=[]∨∃t∈bV (bP d.2),dp t=k∧Cp i (bP d.2) k=[((i:Int),posOf (bP d.2) t)]:=by
 rcases filter_one (nN h.Dv) k with h1|⟨t,ht,hk,h1⟩
 ·exact .inl (by unfold Cp;rw[h1];rfl)
 ·exact .inr ⟨t,ht,hk,by unfold Cp;rw[h1];rfl⟩
theorem Me {tl:List (Fd×Nat)} {i:Nat} {t:Fd} (h:t∈bV tl):Cp i tl (dp t)≠[]:=fun e=>by
 have:t∈(bV tl).filter fun u=>decide (dp u=dp t):=List.mem_filter.2 ⟨h,by simp⟩
 rw[List.map_eq_nil_iff.1 e]at this;cases this
theorem sC (k:List UInt8):∀(L:List En) (i:Nat) (last:Int),(∀e∈L,gz e.1)→last<i→i+L.length≤2147483648→eR last (x8 k i L)=true
 |[],_,_,_,_,_=>rfl
 |e::L,i,last,hF,h1,h2=>by
  have hf:=hF e (bX ..);have hr:=fun last h=>sC k L (i+1) last (fun x hx=>hF x (cv _ hx)) h (by simp at h2;omega)
  simp only[x8];rcases Cq hf i k with h3|⟨t,ht,hk,h3⟩
  ·rw[show Cp i (k7 e) k=[]from h3];exact hr last (by omega)
  ·rw[show Cp i (k7 e) k=_ from h3]
   have eE:(posOf (bP e.1.2) t).isEmpty=false:=by
    have:=FM ((gV hf.Dv).1 ht)
    cases h:posOf (bP e.1.2) t with
    |nil=>exact absurd h this
    |cons a b=>rfl
   simp only[je,eu,eR,eE,hf.eG t,hr i (by omega),Bool.and_true,Bool.not_false,bU,decide_eq_true_eq];simp at h2;omega
theorem nP (k:List UInt8):∀(L:List En) (i:Nat),(∀e∈L,gz e.1)→(x8 k i L).length≤L.length∧∀p∈x8 k i L,(i:Int)≤p.1∧p.1<i+L.length∧p.2.length≤500
 |[],_,_=>⟨a8 _,fun p h=>by cases h⟩
 |e::L,i,hF=>by
  have hf:=hF e (bX ..);obtain⟨h1,h2⟩:=nP k L (i+1) (fun x hx=>hF x (cv _ hx));simp only[x8,cM];rcases Cq hf i k with h3|⟨t,ht,hk,h3⟩
  ·rw[show Cp i (k7 e) k=[]from h3];exact⟨by simpa using Nat.le_succ_of_le h1,fun p hp=>by have:=h2 p (by simpa using hp);exact⟨by omega,by omega,this.2.2⟩⟩
  ·rw[show Cp i (k7 e) k=_ from h3];refine⟨by simp;omega,fun p hp=>?_⟩;rcases dP.1 hp with rfl|hp
   ·exact⟨Int.le_refl _,by simp only;omega,(hf.pos t).2.2⟩
   ·have:=h2 p (by simpa using hp);exact⟨by omega,by omega,this.2.2⟩
theorem qW:∀(l:List Po) (last:Int) (m:Nat),-1≤last→eR last l=true→(∀p∈l,p.2.length≤m)→m≤1000000→(dy last l).length≤(18+9*m)*l.length∧gG l≤m*l.length
 |[],_,_,_,_,_,_=>⟨by simp[dy],by simp[gG]⟩
 |(d,ps)::l,last,m,h0,hm,hs,hmm=>by
  simp only[eR,bU,decide_eq_true_eq]at hm;obtain⟨⟨⟨⟨h1,h2⟩,h3⟩,h4⟩,h5⟩:=hm;obtain⟨h6,h7⟩:=ma.1 h4;have so:=hs _ (bX ..);simp only at so;obtain⟨i1,i2⟩:=qW l d m (by omega) h5 (fun p hp=>hs p (cv _ hp)) hmm;have a1:=th ps (-1) (by omega) (fun x hx=>by have:=h7 x hx;omega) h6;have a3:=jD (n:=(d-last-1).toNat) (by omega);have a4:=jD (n:=ps.length) (by omega);have e1:9*ps.length≤9*m:=by omega
  constructor
  ·simp only[dy,dM,bO,cM,Nat.mul_add,Nat.mul_one];omega
  ·simp only[gG,gN,List.sum_cons,cM]at i2 ⊢;rw[Int.natCast_add,Int.mul_add];omega
theorem FO {k:List UInt8}:∀{L:List En} (i:Nat),k∈fU L→x8 k i L≠[]
 |[],_,h=>by cases h
 |e::L,i,h=>by
  simp only[x8];intro hn;obtain⟨h1,h2⟩:=List.append_eq_nil_iff.1 hn;have h:k∈(bV (k7 e)).map dp++fU L:=h;rcases cY.1 h with h|h
  ·obtain⟨t,ht,rfl⟩:=cq.1 h;exact Me ht h1
  ·exact FO (i+1) h h2
theorem Cr {k:List UInt8}:∀{L:List En} (i:Nat),k∉fU L→x8 k i L=[]
 |[],_,_=>rfl
 |e::L,i,h=>by
  have h:k∉(bV (k7 e)).map dp++fU L:=h;rw[cY,not_or]at h;simp only[x8];rw[Cr (i+1) h.2,jT];unfold Cp;rw[List.filter_eq_nil_iff.2 fun t ht=>by simp;intro e';exact h.1 (cq.2 ⟨t,ht,e'⟩)];rfl
end Go.K
namespace Go.K
def RT.ptr {α:Type} (A:RT α) (hn:0<A.n:=by decide):RT α where
 n:=1
 agg:=false
 R:=fun M w x vs=>∃b o us,vs=[.pointer (some ⟨b,o,none⟩)]∧¬M b∧A.R M w x us∧w.rangeAt b o us
 len:=by rintro _ _ x vs ⟨b,o,us,rfl,_⟩;rfl
 one:=by rintro _ _ x vs ⟨b,o,us,rfl,_⟩ v hv;simp at hv;subst hv;rfl
 le:=by
  rintro M w M' w' x vs hl ⟨b,o,us,h1,h2,h3,h4⟩;have hp:0<us.length:=by rw[A.len h3];exact hn
  have hc:=h4 0 (us[0]'hp) (aF hp);exact⟨b,o,us,h1,(hl b (World.block_lt_of_cell? w _ hc) h2).1,A.le hl h3,o6 hl h2 h4⟩
theorem rE {α:Type} {A:RT α} {hn:0<A.n} {M:aI} {w:World} {x:α} {v:Value}:(A.ptr hn).V M w x v↔cf A M w v x:=
 ⟨fun⟨vs,⟨b,o,us,h1,h2,h3,h4⟩,h5⟩=>⟨b,o,us,by subst h1;exact h5,h2,h3,h4⟩,fun⟨b,o,us,h1,h2,h3,h4⟩=>⟨[v],⟨b,o,us,by rw[h1],h2,h3,h4⟩,rfl⟩⟩
abbrev Di:=List (List UInt8)×List Li
abbrev Se:=List Int×List Int×Di
abbrev RT.di:RT Di:=RT.pair (RT.str.sl) (((RT.li).ptr).sl)
abbrev RT.se:RT Se:=RT.pair ((RT.int .i64).sl) (RT.pair ((RT.int .i64).sl) ((RT.di).ptr))
theorem Om:Part RT.di (RT.str.sl) (fun p=>p.1) 0:=om _ _
theorem di1:Part RT.di (((RT.li).ptr).sl) (fun p=>p.2) 1:=iv _ _
theorem Wy:Part RT.se ((RT.int .i64).sl) (fun p=>p.1) 0:=om _ _
theorem se1:Part RT.se ((RT.int .i64).sl) (fun p=>p.2.1) 1:=(iv ((RT.int .i64).sl) (RT.pair ((RT.int .i64).sl) ((RT.di).ptr))).trans (om _ _)
theorem Tx:Part RT.se ((RT.di).ptr) (fun p=>p.2.2) 2:=(iv ((RT.int .i64).sl) (RT.pair ((RT.int .i64).sl) ((RT.di).ptr))).trans (iv ((RT.int .i64).sl) ((RT.di).ptr))
abbrev Pa:=List Int×List Int×List (List UInt8)×List (List Po)
abbrev RT.pa:RT Pa:=RT.pair ((RT.int .i64).sl) (RT.pair ((RT.int .i64).sl) (RT.pair (RT.str.sl) (((RT.po).sl).sl)))
theorem Ty:Part RT.pa ((RT.int .i64).sl) (fun p=>p.1) 0:=om _ _
theorem Qz:Part RT.pa ((RT.int .i64).sl) (fun p=>p.2.1) 1:=(iv ((RT.int .i64).sl) (RT.pair ((RT.int .i64).sl) (RT.pair (RT.str.sl) (((RT.po).sl).sl)))).trans (om _ _)
theorem Wz:Part RT.pa (RT.str.sl) (fun p=>p.2.2.1) 2:=((iv ((RT.int .i64).sl) (RT.pair ((RT.int .i64).sl) (RT.pair (RT.str.sl) (((RT.po).sl).sl)))).trans (iv ((RT.int .i64).sl) (RT.pair (RT.str.sl) (((RT.po).sl).sl)))).trans (om _ _)
theorem On:Part RT.pa (((RT.po).sl).sl) (fun p=>p.2.2.2) 3:=((iv ((RT.int .i64).sl) (RT.pair ((RT.int .i64).sl) (RT.pair (RT.str.sl) (((RT.po).sl).sl)))).trans (iv ((RT.int .i64).sl) (RT.pair (RT.str.sl) (((RT.po).sl).sl)))).trans (iv _ _)
theorem WA {M:aI} {w:World} {x:Se} {a b c:Value} (h0:((RT.int .i64).sl).V M w x.1 a) (h1:((RT.int .i64).sl).V M w x.2.1 b) (h2:cf RT.di M w c x.2.2):RT.se.V M w x (.agg [a,b,c].toArray):=
 ⟨[a,b,c],⟨[a],[b,c],rfl,km h0 rfl rfl,[b],[c],rfl,km h1 rfl rfl,km (rE.2 h2) rfl rfl⟩,rfl⟩
theorem Mf {M:aI} {w:World} {x:Pa} {a b c d:Value} (h0:((RT.int .i64).sl).V M w x.1 a) (h1:((RT.int .i64).sl).V M w x.2.1 b) (h2:(RT.str.sl).V M w x.2.2.1 c) (h3:(((RT.po).sl).sl).V M w x.2.2.2 d):RT.pa.V M w x (.agg [a,b,c,d].toArray):=
 ⟨[a,b,c,d],⟨[a],[b,c,d],rfl,km h0 rfl rfl,[b],[c,d],rfl,km h1 rfl rfl,[c],[d],rfl,km h2 rfl rfl,km h3 rfl rfl⟩,rfl⟩
theorem FP {M:aI} {w:World} {x:Pa} {v:Value} (h:RT.pa.V M w x v):∃a b c d,v= .agg [a,b,c,d].toArray∧((RT.int .i64).sl).V M w x.1 a∧((RT.int .i64).sl).V M w x.2.1 b∧(RT.str.sl).V M w x.2.2.1 c∧(((RT.po).sl).sl).V M w x.2.2.2 d:=by
 obtain⟨vs,⟨va,vb,rfl,h1,vc,vd,rfl,h2,ve,vf,rfl,h3,h4⟩,rfl⟩:=h;have e1:=(RT.sl (RT.int .i64)).len h1;have e2:=(RT.sl (RT.int .i64)).len h2;have e3:=(RT.sl RT.str).len h3;have e4:=(RT.sl (RT.sl RT.po)).len h4
 match va,vc,ve,vf,e1,e2,e3,e4,h1,h2,h3,h4 with
 |[a],[b],[c],[d],_,_,_,_,h1,h2,h3,h4=>exact⟨a,b,c,d,rfl,⟨_,h1,rfl⟩,⟨_,h2,rfl⟩,⟨_,h3,rfl⟩,⟨_,h4,rfl⟩⟩
theorem uh {α:Type} {A:RT α} (hg:A.agg=true) {M:aI} {w:World} {x:α} {vs:List Value} (h:A.V M w x (.agg vs.toArray)):∀u∈vs,u.oneCell'=true:=by
 obtain⟨us,h1,h2⟩:=h
 have:vs=us:=by
  unfold RT.val at h2;rw[if_pos hg]at h2;injection h2 with h2
  simpa using congrArg Array.toList h2
 subst this;exact A.one h1
theorem eK.free {α:Type} {A:RT α} (hA:∀M w M' w' x vs,A.R M w x vs→A.R M' w' x vs) {M M':aI} {w w':World}:∀{xs:List α} {C:List Value},eK A M w xs C→eK A M' w' xs C
 |[],_,h=>h
 |x::xs,C,h=>by
  obtain⟨vs,r,h1,h2,h3⟩:=h;exact⟨vs,r,h1,hA _ _ _ _ _ _ h2,eK.free hA h3⟩
theorem Own.tell {α:Type} {A:RT α} {hn:0<A.n} (hA:∀M w M' w' x vs,A.R M w x vs→A.R M' w' x vs) {e:TypeId} {M M0:aI} {w:World} {base:Nat} {v:Value} {xs:List α} (h:Own A e M w base v xs) (hb:∀b,v.ownBlock=some b→¬M0 b) (hlen:xs.length≤140737488355328):(A.sl hn).V M0 w xs v:=by
 obtain⟨⟨C,hr,ha⟩,hm⟩:=h;have h':Own A e (fun b=>v.ownBlock=some b∨M0 b) w base v xs:=⟨⟨C,hr,eK.free hA ha⟩,fun b hb=> .inl hb⟩;exact h'.sl (fun b _ hn=>⟨fun h=>hn (.inr h),rfl⟩) hb hlen
end Go.K
namespace Go.K
open Go.Maps (Keyed)
section
variable {P:Program} {r:Option Nat} {n:Nat} {L:Sl} {ds:List Deferred} {w:World} {K:Kt} {ops:Array Oper} {rest:List Oper} {d:Nat} {x y z:Operand} {ty:TypeId} {pos:String} {af:Array Edge}
variable {kt:TypeId} {M:aI} {b clock:Nat} {es:List MapEntry}
theorem eD.Mg (h:eD P kt w b es clock) {i s:Nat} {key v0 val:Value} (hi:es[i]? =some ⟨key,v0,s⟩) {w':World} (hw:w'.heap[b]? =some (.map (es.set i ⟨key,val,s⟩).toArray clock)):
  eD P kt w' b (es.set i ⟨key,val,s⟩) clock∧(es.set i ⟨key,val,s⟩).map (·.key)=es.map (·.key)∧∀zv gK v',dH zv (es.set i ⟨key,val,s⟩) gK v'↔(gK=key∧v'=val)∨(gK≠key∧dH zv es gK v'):=by
 have mM:=(av.1 hi).1;have mO:(⟨key,v0,s⟩:MapEntry)∈es:=aH hi;obtain⟨mS,qR⟩:∃mS,mS=es.set i ⟨key,val,s⟩:=⟨_,rfl⟩;rw[←qR]at hw ⊢
 have gD:∀j e',mS[j]? =some e'→(j=i∧e'=⟨key,val,s⟩)∨(j≠i∧es[j]? =some e'):=fun j e' hj=>by
  rw[qR,eg]at hj
  split at hj
  ·rename_i gY
   left;exact⟨gY.symm,by simpa[mM]using hj.symm⟩
  ·rename_i gY
   exact .inr ⟨fun e=>gY e.symm,hj⟩
 have mT:mS.map (·.key)=es.map (·.key):=by
  rw[qR,List.map_set];apply kL;intro j;rw[eg]
  split
  ·rename_i gY
   subst gY;have e:=(av.1 hi).2;simp[mM,e]
  ·rfl
 have Fw:mS.map (·.born)=es.map (·.born):=by
  rw[qR,List.map_set];apply kL;intro j;rw[eg]
  split
  ·rename_i gY
   subst gY;have e:=(av.1 hi).2;simp[mM,e]
  ·rfl
 have dZ:∀e'∈mS,(e'=⟨key,val,s⟩)∨(e'∈es∧e'.key≠key):=fun e' nI=>by
  obtain⟨j,hj⟩:=bT.1 nI;rcases gD j e' hj with⟨_,e⟩|⟨eE,xF⟩
  ·exact .inl e
  ·refine .inr ⟨aH xF,fun e=>eE ?_⟩;rcases oZ j i with h1|h1|h1
   ·exact absurd e (fT h.keys xF hi h1)
   ·exact h1
   ·exact absurd e.symm (fT h.keys hi xF h1)
 have Fx:(⟨key,val,s⟩:MapEntry)∈mS:=aH (i:=i) (by rw[qR,eg];simp[mM])
 have hold:∀e'∈es,e'.key≠key→e'∈mS:=fun e' nI eE=>by
  obtain⟨j,hj⟩:=bT.1 nI;refine aH (i:=j) ?_;rw[qR,eg,if_neg]
  ·exact hj
  ·rintro rfl;rw[hi]at hj;cases hj;exact eE rfl
 refine⟨⟨hw,?_,fun e' nI=>?_,?_,fun e' nI=>?_⟩,mT,fun zv gK v'=>?_⟩
 ·have:=du.2 h.born;rw[←Fw]at this;exact du.1 this
 ·rcases dZ e' nI with e|⟨h1,_⟩
  ·rw[e];exact(h.lt _ mO:s<clock)
  ·exact h.lt _ h1
 ·have:=du.2 h.keys;rw[←mT]at this;exact du.1 this
 ·rcases dZ e' nI with e|⟨h1,_⟩
  ·rw[e];exact(h.ok _ mO:∃l,keyOf P kt key=some l)
  ·exact h.ok _ h1
 ·constructor
  ·rintro(⟨e',nI,hk,hv⟩|⟨h1,h2⟩)
   ·rcases dZ e' nI with e|⟨h3,h4⟩
    ·subst e;exact .inl ⟨hk.symm,hv⟩
    ·exact .inr ⟨by rw[←hk];exact h4,.inl ⟨e',h3,hk,hv⟩⟩
   ·have eE:gK≠key:=fun e=>h1 _ Fx e.symm
    exact .inr ⟨eE,.inr ⟨fun e' nI=>fun e=>by
     by_cases h5:e'.key=key
     ·exact eE (e.symm.trans h5)
     ·exact h1 e' (hold e' nI h5) e,h2⟩⟩
  ·rintro(⟨rfl,rfl⟩|⟨eE,⟨e',nI,hk,hv⟩|⟨h1,h2⟩⟩)
   ·exact .inl ⟨_,Fx,rfl,rfl⟩
   ·exact .inl ⟨e',hold e' nI (by rw[hk];exact eE),hk,hv⟩
   ·exact .inr ⟨fun e' nI=>by
     rcases dZ e' nI with e|⟨h3,_⟩
     ·rw[e];exact fun e=>eE e.symm
     ·exact h1 e' h3,h2⟩
theorem dH.put {key val:Value} {s:Nat} (hn:∀e∈es,e.key≠key) (zv gK v':Value):dH zv (es++[⟨key,val,s⟩]) gK v'↔(gK=key∧v'=val)∨(gK≠key∧dH zv es gK v'):=by
 constructor
 ·rintro(⟨e,he,hk,hv⟩|⟨h1,h2⟩)
  ·rcases cY.1 he with he|he
   ·exact .inr ⟨by rw[←hk];exact hn e he,.inl ⟨e,he,hk,hv⟩⟩
   ·obtain rfl:=cD.1 he;exact .inl ⟨hk.symm,hv⟩
  ·exact .inr ⟨fun e=>h1 ⟨key,val,s⟩ (by simp) e.symm,.inr ⟨fun e he=>h1 e (lf _ he),h2⟩⟩
 ·rintro(⟨rfl,rfl⟩|⟨eE,⟨e,he,hk,hv⟩|⟨h1,h2⟩⟩)
  ·exact .inl ⟨⟨_,_,s⟩,by simp,rfl,rfl⟩
  ·exact .inl ⟨e,lf _ he,hk,hv⟩
  ·refine .inr ⟨fun e he=>?_,h2⟩;rcases cY.1 he with he|he
   ·exact h1 e he
   ·obtain rfl:=cD.1 he;exact fun e=>eE e.symm
theorem Rg.IE {t e:TypeId} {key val:Value} {kl:Lit} (ht:P.underlying t=some (.map kt e)) (Kk:Keyed P kt) (hx:ev L x=some (.map (some b))) (hy:ev L y=some key) (hz:ev L z=some val) (jP:keyOf P kt key=some kl) (h:eD P kt w b es clock) (hm:M b)
  (k:∀w' mS Bc,eD P kt w' b mS Bc→((mS.map (·.key)=es.map (·.key)∧∃e∈es,e.key=key)∨(mS.map (·.key)=es.map (·.key)++[key]∧∀e∈es,e.key≠key))→(∀zv gK v',dH zv mS gK v'↔(gK=key∧v'=val)∨(gK≠key∧dH zv es gK v'))→Step M w M w' (fun k=>k=b)→Rg P r n ops rest L ds w' K):
  Rg P r n ops ({dst:=none,op:= .mapUpdate t x y z,type:=ty,pos,after:=af,guard:=none}::rest) L ds w K:=by
 have dD:=al h.at_;rcases Kk.find w jP es h.ok with⟨h1,h2⟩|⟨j,e0,h1,h2,h3⟩
 ·have hw:({w with heap:=w.heap.setIfInBounds b (.map (es.toArray.push ⟨key,val,clock⟩) (clock+1))}:World).heap[b]? =some (.map (es++([⟨key,val,clock⟩]:List MapEntry)).toArray (clock+1)):=by
   simp[cU,dD]
  refine .OH (fun _ h=>by cases h) rfl rfl _ (fun ρ hρ=>?_) (k _ _ _ (h.push jP h2 hw) (Or.inr ⟨by simp,h2⟩) (dH.put h2) (gH M hm));simp only[execOp,hρ x _ hx,hρ y _ hy,hρ z _ hz,Instr.mapUpdate,cr,run_underlying ht,cV,dj h.at_,Kk.check w false jP,h1,run_setObj_map h.at_];simp
 ·have he:e0∈es:=aH h2;obtain⟨k0,v0,s0⟩:=e0;simp only at h3;subst h3;have hj:es.toArray[j]? =some ⟨k0,v0,s0⟩:=by simpa using h2
  have Fv:es.toArray.modify j (fun e=>{e with key:=k0,val:=val})=(es.set j ⟨k0,val,s0⟩).toArray:=by
   apply Array.ext_getElem?;intro i;rw[qq];simp only[qp,eg]
   split
   ·rename_i Ql
    subst Ql;have:=(av.1 h2).1;rw[h2];simp[this]
   ·rfl
  have hw:({w with heap:=w.heap.setIfInBounds b (.map (es.set j ⟨k0,val,s0⟩).toArray clock)}:World).heap[b]? =some (.map (es.set j ⟨k0,val,s0⟩).toArray clock):=by simp[cU,dD]
  obtain⟨hW,uW,pE⟩:=h.Mg h2 hw
  have jz:(Instr.keyThatStays ((Option.map (fun(e:MapEntry)=>e.key) es.toArray[j]?).getD k0) k0).run P w= .ok k0 w:=by
   rw[hj];simp only[fI,Option.getD_some];exact Kk.stays w jP
  refine .OH (fun _ h=>by cases h) rfl rfl _ (fun ρ hρ=>?_) (k _ _ clock hW (Or.inl ⟨uW,_,he,rfl⟩) pE (gH M hm));simp only[execOp,hρ x _ hx,hρ y _ hy,hρ z _ hz,Instr.mapUpdate,cr,run_underlying ht,cV,dj h.at_,Kk.check w false jP,h1,jz,Fv,run_setObj_map h.at_];simp
theorem zH {t e:TypeId} {zv key:Value} {size bytes:Nat} {kl:Lit} (ht:P.underlying t=some (.map kt e)) (Kk:Keyed P kt) (hi:TI P e zv size bytes) (jP:keyOf P kt key=some kl) (h:eD P kt w b es clock):
  ∃v,dH zv es key v∧∀(w:World) (ρ:Operand→Value) (dst:Option Tmp) (gd:Option (Nat×Bool)),ρ x= .map (some b)→ρ y=key→eD P kt w b es clock→(execOp ρ {dst,op:= .lookup t x y false,type:=ty,pos,after:=af,guard:=gd}).run P w= .ok (.value v) w:=by
 rcases Kk.find w jP es h.ok with⟨h1,h2⟩|⟨j,e0,h1,h2,h3⟩
 ·refine⟨zv,Or.inr ⟨h2,rfl⟩,fun w ρ dst gd hx hy h=>?_⟩;obtain⟨inf,i1,i2,_,_⟩:=hi.get;have hz:(zeroValue e).run P w= .ok zv w:=by simp[zeroValue,typeInfo,i1,i2]
  rcases Kk.find w jP es h.ok with⟨h1,_⟩|⟨j,e0,_,g2,g3⟩
  ·simp only[execOp,hx,hy,Instr.lookup,cr,run_underlying ht,cV,dj h.at_,Sem.run_pure,Kk.check w _ jP,h1,hz];simp
  ·exact absurd g3 (h2 e0 (aH g2))
 ·refine⟨e0.val,Or.inl ⟨e0,aH h2,h3,rfl⟩,fun w ρ dst gd hx hy h=>?_⟩;rcases Kk.find w jP es h.ok with⟨_,g2⟩|⟨j',e1,g1,g2,g3⟩
  ·exact absurd h3 (g2 e0 (aH h2))
  ·have:e1=e0:=h.Cg (aH g2) (aH h2) (g3.trans h3.symm);subst this;simp only[execOp,hx,hy,Instr.lookup,cr,run_underlying ht,cV,dj h.at_,Sem.run_pure,Kk.check w _ jP,g1];simp
theorem bJ.qa {N:aI} {t e:TypeId} {zv key:Value} {size bytes:Nat} {kl:Lit} {dst:Option Tmp} {gd:Option (Nat×Bool)} (ht:P.underlying t=some (.map kt e)) (Kk:Keyed P kt) (hi:TI P e zv size bytes) (hx:ev L x=some (.map (some b))) (hy:ev L y=some key) (jP:keyOf P kt key=some kl) (h:eD P kt w b es clock) (hn: ¬N b):
  bJ P N w L {dst,op:= .lookup t x y false,type:=ty,pos,after:=af,guard:=gd}:=fun ρ hρ v w' hk hr=>by
 obtain⟨v0,_,gj⟩:=zH (x:=x) (y:=y) (ty:=ty) (pos:=pos) (af:=af) ht Kk hi jP h;have h':eD P kt w' b es clock:=⟨(hk.2 b (al h.at_) hn).trans h.at_,h.born,h.lt,h.keys,h.ok⟩;rw[gj w ρ dst gd (hρ x _ hx) (hρ y _ hy) h]at hr;rw[gj w' ρ dst gd (hρ x _ hx) (hρ y _ hy) h'];injection hr with h1 h2
 rw[h1]
end
end Go.K
namespace Go.Proofs
open Go.Shelf
def Tryz.xa:Go.Shelf.Ren:=⟨fun|7=>62|10=>114|n=>n,fun|23=>100|26=>3|3=>109|28=>116|0=>0|27=>115|33=>158|4=>4|n=>n,fun|n=>n⟩
theorem Tryz.QA:Go.Proofs.SlLaysZI.n7 Tryz.prog Tryz.xa:={
 mixed:=by kernel_rfl
 f7:=⟨Tryz.f62.name,by decide,Tryz.func62.trans (congrArg some (by kernel_rfl))⟩
 f10:=⟨Tryz.f114.name,by decide,Tryz.func114.trans (congrArg some (by kernel_rfl))⟩
 t0:=iw
 a0:=sH
 z0:=oW
 v0:=jf
 t4:=jS
 a4:=Tryz.isAgg4
 z4:=Tryz.sizeOf4
 v4:=pG
 t23:=Tryz.underlying100
 a23:=Tryz.isAgg100
 z23:=Tryz.sizeOf100
 v23:=Tryz.zeroValue100
 t26:=ay
 a26:=sI
 z26:=oX
 v26:=jg
 t27:=Tryz.underlying115
 a27:=Tryz.isAgg115
 z27:=Tryz.sizeOf115
 v27:=Tryz.zeroValue115
 t28:=Tryz.underlying116
 a28:=Tryz.isAgg116
 z28:=Tryz.sizeOf116
 v28:=Tryz.zeroValue116
 t33:=Tryz.underlying158
 a33:=Tryz.isAgg158
 z33:=Tryz.sizeOf158
 v33:=Tryz.zeroValue158}
def Tryz.rF:Go.Shelf.Ren:=⟨fun|6=>61|8=>71|9=>113|11=>121|13=>166|12=>165|23=>210|24=>211|14=>202|15=>203|16=>204|17=>205|18=>206|19=>207|20=>118|21=>208|22=>209|25=>245|26=>246|27=>247|28=>248|29=>249|30=>168|31=>273|n=>n,fun|26=>3|28=>116|24=>32|0=>0|3=>3|37=>183|48=>273|50=>165|4=>4|40=>267|39=>266|45=>121|5=>5|9=>9|51=>295|55=>299|57=>327|58=>305|33=>158|n=>n,fun|n=>n⟩
theorem Tryz.IF:Go.Proofs.SlLaysZI.n6 Tryz.prog Tryz.rF:={
 mixed:=by kernel_rfl
 f6:=⟨Tryz.f61.name,by decide,Tryz.func61.trans (congrArg some (by kernel_rfl))⟩
 f8:=⟨Tryz.f71.name,by decide,Tryz.func71.trans (congrArg some (by kernel_rfl))⟩
 f11:=⟨Tryz.f121.name,by decide,Tryz.func121.trans (congrArg some (by kernel_rfl))⟩
 t0:=iw
 a0:=sH
 z0:=oW
 v0:=jf
 t24:=au
 a24:=Tryz.isAgg32
 z24:=Tryz.sizeOf32
 v24:=Tryz.zeroValue32
 t26:=ay
 a26:=sI
 z26:=oX
 v26:=jg
 t28:=Tryz.underlying116
 a28:=Tryz.isAgg116
 z28:=Tryz.sizeOf116
 v28:=Tryz.zeroValue116
 i26:=by kernel_rfl}
def Tryz.Dw:Go.Shelf.Ren:=⟨fun|5=>113|8=>166|7=>165|19=>210|20=>211|10=>202|11=>203|12=>204|13=>205|14=>206|15=>207|16=>118|17=>208|18=>209|30=>245|31=>246|32=>247|33=>248|34=>249|35=>168|40=>273|n=>n,fun|23=>32|25=>3|3=>3|32=>183|22=>32|0=>0|44=>273|46=>165|4=>4|36=>267|35=>266|41=>121|5=>5|9=>9|53=>295|57=>299|63=>327|64=>305|n=>n,fun|n=>n⟩
theorem Tryz.JY:Go.Proofs.SlLaysM.n5 Tryz.prog Tryz.Dw:={
 mixed:=by kernel_rfl
 f5:=⟨Tryz.f113.name,by decide,Tryz.func113.trans (congrArg some (by kernel_rfl))⟩
 f7:=⟨Tryz.f165.name,by decide,Tryz.func165.trans (congrArg some (by kernel_rfl))⟩
 f8:=Tryz.func166.trans (congrArg some (by kernel_rfl))
 f10:=⟨Tryz.f202.name,by decide,Tryz.func202.trans (congrArg some (by kernel_rfl))⟩
 f11:=⟨Tryz.f203.name,by decide,Tryz.func203.trans (congrArg some (by kernel_rfl))⟩
 f12:=⟨Tryz.f204.name,by decide,Tryz.func204.trans (congrArg some (by kernel_rfl))⟩
 f13:=⟨Tryz.f205.name,by decide,Tryz.func205.trans (congrArg some (by kernel_rfl))⟩
 f14:=⟨Tryz.f206.name,by decide,Tryz.func206.trans (congrArg some (by kernel_rfl))⟩
 f15:=⟨Tryz.f207.name,by decide,Tryz.func207.trans (congrArg some (by kernel_rfl))⟩
 f16:=⟨Tryz.f118.name,by decide,Tryz.func118.trans (congrArg some (by kernel_rfl))⟩
 f17:=⟨Tryz.f208.name,by decide,Tryz.func208.trans (congrArg some (by kernel_rfl))⟩
 f18:=⟨Tryz.f209.name,by decide,Tryz.func209.trans (congrArg some (by kernel_rfl))⟩
 f19:=Tryz.func210.trans (congrArg some (by kernel_rfl))
 f20:=Tryz.func211.trans (congrArg some (by kernel_rfl))
 f30:=⟨Tryz.f245.name,by decide,Tryz.func245.trans (congrArg some (by kernel_rfl))⟩
 f31:=Tryz.func246.trans (congrArg some (by kernel_rfl))
 f32:=Tryz.func247.trans (congrArg some (by kernel_rfl))
 f33:=⟨Tryz.f248.name,by decide,Tryz.func248.trans (congrArg some (by kernel_rfl))⟩
 f34:=⟨Tryz.f249.name,by decide,Tryz.func249.trans (congrArg some (by kernel_rfl))⟩
 f35:=⟨Tryz.f168.name,by decide,Tryz.func168.trans (congrArg some (by kernel_rfl))⟩
 f40:=⟨Tryz.f273.name,by decide,Tryz.func273.trans (congrArg some (by kernel_rfl))⟩
 t0:=iw
 a0:=sH
 z0:=oW
 v0:=jf
 t3:=ay
 a3:=sI
 z3:=oX
 v3:=jg
 t4:=jS
 a4:=Tryz.isAgg4
 z4:=Tryz.sizeOf4
 v4:=pG
 t5:=cw
 a5:=Tryz.isAgg5
 z5:=Tryz.sizeOf5
 v5:=Tryz.zeroValue5
 t9:=aA
 a9:=sJ
 z9:=oY
 v9:=jh
 t22:=au
 a22:=Tryz.isAgg32
 z22:=Tryz.sizeOf32
 v22:=Tryz.zeroValue32
 t23:=au
 a23:=Tryz.isAgg32
 z23:=Tryz.sizeOf32
 v23:=Tryz.zeroValue32
 t25:=ay
 a25:=sI
 z25:=oX
 v25:=jg
 t32:=Tryz.underlying183
 a32:=Tryz.isAgg183
 z32:=Tryz.sizeOf183
 v32:=Tryz.zeroValue183
 t35:=Tryz.underlying266
 a35:=Tryz.isAgg266
 z35:=Tryz.sizeOf266
 v35:=Tryz.zeroValue266
 t36:=Tryz.underlying267
 a36:=Tryz.isAgg267
 z36:=Tryz.sizeOf267
 v36:=Tryz.zeroValue267
 t41:=Tryz.underlying121
 a41:=Tryz.isAgg121
 z41:=Tryz.sizeOf121
 v41:=Tryz.zeroValue121
 t44:=Tryz.underlying273
 a44:=Tryz.isAgg273
 z44:=Tryz.sizeOf273
 v44:=Tryz.zeroValue273
 t46:=Tryz.underlying165
 a46:=Tryz.isAgg165
 z46:=Tryz.sizeOf165
 v46:=Tryz.zeroValue165
 t53:=Tryz.underlying295
 a53:=Tryz.isAgg295
 z53:=Tryz.sizeOf295
 v53:=Tryz.zeroValue295
 t57:=Tryz.underlying299
 a57:=Tryz.isAgg299
 z57:=Tryz.sizeOf299
 v57:=Tryz.zeroValue299
 t63:=Tryz.underlying327
 a63:=Tryz.isAgg327
 z63:=Tryz.sizeOf327
 v63:=Tryz.zeroValue327
 t64:=Tryz.underlying305
 a64:=Tryz.isAgg305
 z64:=Tryz.sizeOf305
 v64:=Tryz.zeroValue305}
def Tryz.xb:Go.Shelf.Ren:=⟨fun|7=>112|10=>164|n=>n,fun|23=>167|26=>9|3=>107|28=>178|0=>0|27=>177|33=>182|4=>4|n=>n,fun|n=>n⟩
theorem Tryz.Cs:Go.Proofs.SlLaysZ.n7 Tryz.prog Tryz.xb:={
 mixed:=by kernel_rfl
 f7:=⟨Tryz.f112.name,by decide,Tryz.func112.trans (congrArg some (by kernel_rfl))⟩
 f10:=⟨Tryz.f164.name,by decide,Tryz.func164.trans (congrArg some (by kernel_rfl))⟩
 t0:=iw
 a0:=sH
 z0:=oW
 v0:=jf
 t4:=jS
 a4:=Tryz.isAgg4
 z4:=Tryz.sizeOf4
 v4:=pG
 t23:=ga
 a23:=Tryz.isAgg167
 z23:=Tryz.sizeOf167
 v23:=Tryz.zeroValue167
 t26:=aA
 a26:=sJ
 z26:=oY
 v26:=jh
 t27:=Tryz.underlying177
 a27:=Tryz.isAgg177
 z27:=Tryz.sizeOf177
 v27:=Tryz.zeroValue177
 t28:=Tryz.underlying178
 a28:=Tryz.isAgg178
 z28:=Tryz.sizeOf178
 v28:=Tryz.zeroValue178
 t33:=Tryz.underlying182
 a33:=Tryz.isAgg182
 z33:=Tryz.sizeOf182
 v33:=Tryz.zeroValue182}
def Tryz.rG:Go.Shelf.Ren:=⟨fun|6=>111|8=>162|9=>163|11=>200|13=>166|12=>201|23=>210|24=>211|14=>236|15=>237|16=>238|17=>239|18=>240|19=>241|20=>242|21=>243|22=>244|25=>269|26=>246|27=>247|28=>270|29=>271|30=>272|31=>284|n=>n,fun|26=>9|28=>178|24=>55|0=>0|3=>3|37=>183|48=>273|50=>165|4=>4|40=>267|39=>266|45=>121|5=>5|9=>9|51=>295|55=>299|57=>327|58=>305|33=>182|n=>n,fun|n=>n⟩
theorem Tryz.IG:Go.Proofs.SlLaysZ.n6 Tryz.prog Tryz.rG:={
 mixed:=by kernel_rfl
 f6:=⟨Tryz.f111.name,by decide,Tryz.func111.trans (congrArg some (by kernel_rfl))⟩
 f8:=⟨Tryz.f162.name,by decide,Tryz.func162.trans (congrArg some (by kernel_rfl))⟩
 f11:=⟨Tryz.f200.name,by decide,Tryz.func200.trans (congrArg some (by kernel_rfl))⟩
 t0:=iw
 a0:=sH
 z0:=oW
 v0:=jf
 t24:=aC
 a24:=Tryz.isAgg55
 z24:=Tryz.sizeOf55
 v24:=Tryz.zeroValue55
 t26:=aA
 a26:=sJ
 z26:=oY
 v26:=jh
 t28:=Tryz.underlying178
 a28:=Tryz.isAgg178
 z28:=Tryz.sizeOf178
 v28:=Tryz.zeroValue178
 i26:=by kernel_rfl}
def Tryz.Dx:Go.Shelf.Ren:=⟨fun|6=>163|8=>166|9=>201|19=>210|20=>211|21=>236|22=>237|23=>238|24=>239|25=>240|26=>241|27=>242|28=>243|29=>244|36=>269|31=>246|32=>247|37=>270|38=>271|39=>272|41=>284|n=>n,fun|27=>55|29=>9|3=>3|32=>183|26=>55|0=>0|44=>273|46=>165|4=>4|36=>267|35=>266|41=>121|5=>5|9=>9|53=>295|57=>299|63=>327|64=>305|n=>n,fun|n=>n⟩
theorem Tryz.JZ:Go.Proofs.SlLaysM.n6 Tryz.prog Tryz.Dx:={
 mixed:=by kernel_rfl
 f6:=⟨Tryz.f163.name,by decide,Tryz.func163.trans (congrArg some (by kernel_rfl))⟩
 f8:=Tryz.func166.trans (congrArg some (by kernel_rfl))
 f9:=⟨Tryz.f201.name,by decide,Tryz.func201.trans (congrArg some (by kernel_rfl))⟩
 f19:=Tryz.func210.trans (congrArg some (by kernel_rfl))
 f20:=Tryz.func211.trans (congrArg some (by kernel_rfl))
 f21:=⟨Tryz.f236.name,by decide,Tryz.func236.trans (congrArg some (by kernel_rfl))⟩
 f22:=⟨Tryz.f237.name,by decide,Tryz.func237.trans (congrArg some (by kernel_rfl))⟩
 f23:=⟨Tryz.f238.name,by decide,Tryz.func238.trans (congrArg some (by kernel_rfl))⟩
 f24:=⟨Tryz.f239.name,by decide,Tryz.func239.trans (congrArg some (by kernel_rfl))⟩
 f25:=⟨Tryz.f240.name,by decide,Tryz.func240.trans (congrArg some (by kernel_rfl))⟩
 f26:=⟨Tryz.f241.name,by decide,Tryz.func241.trans (congrArg some (by kernel_rfl))⟩
 f27:=⟨Tryz.f242.name,by decide,Tryz.func242.trans (congrArg some (by kernel_rfl))⟩
 f28:=⟨Tryz.f243.name,by decide,Tryz.func243.trans (congrArg some (by kernel_rfl))⟩
 f29:=⟨Tryz.f244.name,by decide,Tryz.func244.trans (congrArg some (by kernel_rfl))⟩
 f31:=Tryz.func246.trans (congrArg some (by kernel_rfl))
 f32:=Tryz.func247.trans (congrArg some (by kernel_rfl))
 f36:=⟨Tryz.f269.name,by decide,Tryz.func269.trans (congrArg some (by kernel_rfl))⟩
 f37:=⟨Tryz.f270.name,by decide,Tryz.func270.trans (congrArg some (by kernel_rfl))⟩
 f38:=⟨Tryz.f271.name,by decide,Tryz.func271.trans (congrArg some (by kernel_rfl))⟩
 f39:=⟨Tryz.f272.name,by decide,Tryz.func272.trans (congrArg some (by kernel_rfl))⟩
 f41:=⟨Tryz.f284.name,by decide,Tryz.func284.trans (congrArg some (by kernel_rfl))⟩
 t0:=iw
 a0:=sH
 z0:=oW
 v0:=jf
 t3:=ay
 a3:=sI
 z3:=oX
 v3:=jg
 t4:=jS
 a4:=Tryz.isAgg4
 z4:=Tryz.sizeOf4
 v4:=pG
 t5:=cw
 a5:=Tryz.isAgg5
 z5:=Tryz.sizeOf5
 v5:=Tryz.zeroValue5
 t9:=aA
 a9:=sJ
 z9:=oY
 v9:=jh
 t26:=aC
 a26:=Tryz.isAgg55
 z26:=Tryz.sizeOf55
 v26:=Tryz.zeroValue55
 t27:=aC
 a27:=Tryz.isAgg55
 z27:=Tryz.sizeOf55
 v27:=Tryz.zeroValue55
 t29:=aA
 a29:=sJ
 z29:=oY
 v29:=jh
 t32:=Tryz.underlying183
 a32:=Tryz.isAgg183
 z32:=Tryz.sizeOf183
 v32:=Tryz.zeroValue183
 t35:=Tryz.underlying266
 a35:=Tryz.isAgg266
 z35:=Tryz.sizeOf266
 v35:=Tryz.zeroValue266
 t36:=Tryz.underlying267
 a36:=Tryz.isAgg267
 z36:=Tryz.sizeOf267
 v36:=Tryz.zeroValue267
 t41:=Tryz.underlying121
 a41:=Tryz.isAgg121
 z41:=Tryz.sizeOf121
 v41:=Tryz.zeroValue121
 t44:=Tryz.underlying273
 a44:=Tryz.isAgg273
 z44:=Tryz.sizeOf273
 v44:=Tryz.zeroValue273
 t46:=Tryz.underlying165
 a46:=Tryz.isAgg165
 z46:=Tryz.sizeOf165
 v46:=Tryz.zeroValue165
 t53:=Tryz.underlying295
 a53:=Tryz.isAgg295
 z53:=Tryz.sizeOf295
 v53:=Tryz.zeroValue295
 t57:=Tryz.underlying299
 a57:=Tryz.isAgg299
 z57:=Tryz.sizeOf299
 v57:=Tryz.zeroValue299
 t63:=Tryz.underlying327
 a63:=Tryz.isAgg327
 z63:=Tryz.sizeOf327
 v63:=Tryz.zeroValue327
 t64:=Tryz.underlying305
 a64:=Tryz.isAgg305
 z64:=Tryz.sizeOf305
 v64:=Tryz.zeroValue305}
end Go.Proofs
namespace Go.K
open Go.Proofs
set_option maxRecDepth 10000
open Go.RowKit Go.Maps Go.Sort Go.Shelf
theorem Mh (m:Nat):AnyZI.SortsIn Tryz.prog Tryz.rF Fence.wide m:=
 ⟨fun iH off cap ss W hH hblk gS=>callsIn_wide.2 (AnyM.slices_Sort_int Tryz.JY iH off cap ss W hH hblk gS),
  fun p cap W=>callsIn_wide.2 (AnyM.slices_Sort_int_none Tryz.JY p cap W)⟩
theorem IH {R:Value→Option (DU×List MemPlace)} {M:aI} {w:World} {b bb:Nat} {m:List (Lit×DU)} (h:K6 Tryz.prog 3 R M w b m) (J0:w.cell? ⟨bb,0,none⟩=some (.map (some b))) (hl:m.length≤1099511627776):
  Spec Tryz.prog 61 #[.func (.func 114) #[] #[.pointer (some ⟨bb,0,none⟩)]] w (fun v w'=>(∃ss:List Int,ss.Perm (intKeys (DataW.map m))∧w'.ownsRow w.heap.size 3 1 v ss.length ((ss.mergeSort (fun x y=>decide (x≤y))).map encZ)∧(v= .slice none 0 0↔ss=[]))∧Step M w M w' aD):=by
 have Mi:SeqGives Fence.wide 2 Tryz.prog 114 #[.pointer (some ⟨bb,0,none⟩)] encZ (fun ss=>ss.Perm (intKeys (DataW.map m))) (Maps.size (DataW.map m)) w:=
  AnyZI.keys_gives (ρ:=Tryz.xa) {Tryz.QA with} Fence.wide _ trivial rfl (by omega) bb b m.length (DataW.map m) _ (World.block_lt_of_cell? w _ J0) J0 h.own
 have gS:Maps.size (DataW.map m)=m.length:=rfl;have cS:=AnyZI.sorted_in Tryz.IF Fence.wide 5 trivial trivial trivial trivial rfl (by omega) (Mh _) (enters_of Tryz.func113 (by kernel_rfl) rfl) 114 #[.pointer (some ⟨bb,0,none⟩)] trivial (enters_of Tryz.func114 (by kernel_rfl) rfl) _ _ (by rw[gS];unfold maxLen;omega) (by rw[gS];omega) _ Mi;exact(callsIn_wide (n:=5)).1 (cS.mono fun e w' ⟨v,ss,h1,h2,h3,h4,h5⟩=>⟨v,h1,⟨ss,h2,h3,h4⟩,.tt h5 M⟩)
theorem Mj (m:Nat):AnyZ.SortsIn Tryz.prog Tryz.rG Fence.wide m:=
 ⟨fun iH off cap ss W hH hblk gS=>callsIn_wide.2 (AnyM.slices_Sort_string Tryz.JZ iH off cap ss W hH hblk gS),
  fun p cap W=>callsIn_wide.2 (AnyM.slices_Sort_string_none Tryz.JZ p cap W)⟩
theorem Bp (mb:Option Nat) (w:World):Spec Tryz.prog 112 #[.map mb] w (fun v w'=>v= .func (.func 164) #[] #[.pointer (some ⟨w.heap.size,0,none⟩)]∧w'=w.alloc (.cells #[.map mb] 167)):=
 (callsIn_wide (n:=5)).1 ((AnyZ.keys_in Tryz.Cs Fence.wide 5 trivial rfl mb w).mono fun e w' ⟨h1,h2⟩=>⟨_,h1,rfl,h2⟩)
theorem x9 {R:Value→Option (DU×List MemPlace)} {M:aI} {w:World} {b bb:Nat} {m:List (Lit×DU)} (h:K6 Tryz.prog 9 R M w b m) (J0:w.cell? ⟨bb,0,none⟩=some (.map (some b))) (hl:m.length≤1099511627776):
  Spec Tryz.prog 111 #[.func (.func 164) #[] #[.pointer (some ⟨bb,0,none⟩)]] w (fun v w'=>(∃ss:List (List UInt8),ss.Perm (strKeys (DataW.map m))∧w'.ownsRow w.heap.size 9 1 v ss.length ((ss.mergeSort (fun x y=>decide (x≤y))).map encStr)∧(v= .slice none 0 0↔ss=[]))∧Step M w M w' aD):=by
 have Mi:SeqGives Fence.wide 2 Tryz.prog 164 #[.pointer (some ⟨bb,0,none⟩)] encStr (fun ss=>ss.Perm (strKeys (DataW.map m))) (Maps.size (DataW.map m)) w:=
  AnyZ.keys_gives (ρ:=Tryz.xb) {Tryz.Cs with} Fence.wide _ trivial rfl (by omega) bb b m.length (DataW.map m) _ (World.block_lt_of_cell? w _ J0) J0 h.own
 have gS:Maps.size (DataW.map m)=m.length:=rfl;have cS:=AnyZ.sorted_in Tryz.IG Fence.wide 5 trivial trivial trivial trivial rfl (by omega) (Mj _) (enters_of Tryz.func163 (by kernel_rfl) rfl) 164 #[.pointer (some ⟨bb,0,none⟩)] trivial (enters_of Tryz.func164 (by kernel_rfl) rfl) _ _ (by rw[gS];unfold maxLen;omega) (by rw[gS];omega) _ Mi;exact(callsIn_wide (n:=5)).1 (cS.mono fun e w' ⟨v,ss,h1,h2,h3,h4,h5⟩=>⟨v,h1,⟨ss,h2,h3,h4⟩,.tt h5 M⟩)
theorem vP {w w':World} {v:Value} {t:TypeId} (h:w'=w.alloc (.cells #[v] t)):w'.cell? ⟨w.heap.size,0,none⟩=some v:=by
 subst h;exact gQ (cz w _) rfl
end Go.K
namespace Go.K
open Go.Proofs
set_option maxRecDepth 10000
theorem II {M:aI} {w0:World} {v:Value} {b:List Fd} (hM:Lt M w0) (hv:(RT.fd.sl).V M w0 b v) (AA:b.length≤1099511627776):
  Spec Tryz.prog 199 #[v] w0 (fun v' w'=>(RT.fd.sl).V M w' b v'∧Step M w0 M w' aD):=by
 obtain⟨a,cap,oy,hc,hl,hs⟩:=gO.1 hv;refine bh (args:=[_]) (fn:=Tryz.f199) Tryz.func199 rfl (n:=8) Tryz.ntmps199 (ak (aj (ah rfl rfl (ad (ak (ak (aj (ae rfl rfl (bI (v':= .slice a b.length cap) oy (Rg.sw aO rfl rfl rfl (ad ?_)))))))))));refine bK rfl (fun c1=>?_) (fun c1=>?_)
 ·refine ak (aj (ah rfl rfl (ad (aM ?_))))
  have hb:b=[]:=by
   rcases hs with h|⟨_,_,h,_⟩
   ·exact h
   ·rw[c1]at h;cases h
  exact aS rfl rfl ⟨by rw[hb];exact j5,ar _ _⟩
 ·refine aU (ak (aj ?_));refine Rg.Tj aO gU M rfl (fun a0 w1 s1=>?_);refine ae rfl rfl ?_;refine Rg.n0 (A:=RT.fd) (hn:=by decide) (M:=M) aO gU rfl rfl rfl rfl hv s1.le (s1.lt hM) (by omega) (fun u2 w2 jB s2=>?_);refine ah rfl rfl (ad (aM ?_));exact aS rfl rfl ⟨jB,s1.aw s2⟩
theorem nQ {M:aI} {w0:World} {v:Value} {b:List Int} (hM:Lt M w0) (hv:((RT.int .i64).sl).V M w0 b v) (AA:b.length≤1099511627776):
  Spec Tryz.prog 63 #[v] w0 (fun v' w'=>((RT.int .i64).sl).V M w' b v'∧Step M w0 M w' aD):=by
 obtain⟨a,cap,oy,hc,hl,hs⟩:=gO.1 hv;refine bh (args:=[_]) (fn:=Tryz.f63) Tryz.func63 rfl (n:=8) Tryz.ntmps63 (ak (aj (ah rfl rfl (ad (ak (ak (aj (ae rfl rfl (bI (v':= .slice a b.length cap) oy (Rg.sw au rfl rfl rfl (ad ?_)))))))))));refine bK rfl (fun c1=>?_) (fun c1=>?_)
 ·refine ak (aj (ah rfl rfl (ad (aM ?_))))
  have hb:b=[]:=by
   rcases hs with h|⟨_,_,h,_⟩
   ·exact h
   ·rw[c1]at h;cases h
  exact aS rfl rfl ⟨by rw[hb];exact j5,ar _ _⟩
 ·refine aU (ak (aj ?_));refine Rg.Tj au I3 M rfl (fun a0 w1 s1=>?_);refine ae rfl rfl ?_;refine Rg.n0 (A:=(RT.int .i64)) (hn:=by decide) (M:=M) au I3 rfl rfl rfl rfl hv s1.le (s1.lt hM) (by omega) (fun u2 w2 jB s2=>?_);refine ah rfl rfl (ad (aM ?_));exact aS rfl rfl ⟨jB,s1.aw s2⟩
theorem FQ {M:aI} {w0:World} {v:Value} {b:List (List UInt8)} (hM:Lt M w0) (hv:(RT.str.sl).V M w0 b v) (AA:b.length≤1099511627776):
  Spec Tryz.prog 177 #[v] w0 (fun v' w'=>(RT.str.sl).V M w' b v'∧Step M w0 M w' aD):=by
 obtain⟨a,cap,oy,hc,hl,hs⟩:=gO.1 hv;refine bh (args:=[_]) (fn:=Tryz.f177) Tryz.func177 rfl (n:=8) Tryz.ntmps177 (ak (aj (ah rfl rfl (ad (ak (ak (aj (ae rfl rfl (bI (v':= .slice a b.length cap) oy (Rg.sw aC rfl rfl rfl (ad ?_)))))))))));refine bK rfl (fun c1=>?_) (fun c1=>?_)
 ·refine ak (aj (ah rfl rfl (ad (aM ?_))))
  have hb:b=[]:=by
   rcases hs with h|⟨_,_,h,_⟩
   ·exact h
   ·rw[c1]at h;cases h
  exact aS rfl rfl ⟨by rw[hb];exact j5,ar _ _⟩
 ·refine aU (ak (aj ?_));refine Rg.Tj aC I9 M rfl (fun a0 w1 s1=>?_);refine ae rfl rfl ?_;refine Rg.n0 (A:=RT.str) (hn:=by decide) (M:=M) aC I9 rfl rfl rfl rfl hv s1.le (s1.lt hM) (by omega) (fun u2 w2 jB s2=>?_);refine ah rfl rfl (ad (aM ?_));exact aS rfl rfl ⟨jB,s1.aw s2⟩
theorem IK {M:aI} {w0:World} {v:Value} {b:List Li} (hM:Lt M w0) (hv:(((RT.li).ptr).sl).V M w0 b v) (AA:b.length≤1099511627776):
  Spec Tryz.prog 178 #[v] w0 (fun v' w'=>(((RT.li).ptr).sl).V M w' b v'∧Step M w0 M w' aD):=by
 obtain⟨a,cap,oy,hc,hl,hs⟩:=gO.1 hv;refine bh (args:=[_]) (fn:=Tryz.f178) Tryz.func178 rfl (n:=8) Tryz.ntmps178 (ak (aj (ah rfl rfl (ad (ak (ak (aj (ae rfl rfl (bI (v':= .slice a b.length cap) oy (Rg.sw dz rfl rfl rfl (ad ?_)))))))))));refine bK rfl (fun c1=>?_) (fun c1=>?_)
 ·refine ak (aj (ah rfl rfl (ad (aM ?_))))
  have hb:b=[]:=by
   rcases hs with h|⟨_,_,h,_⟩
   ·exact h
   ·rw[c1]at h;cases h
  exact aS rfl rfl ⟨by rw[hb];exact j5,ar _ _⟩
 ·refine aU (ak (aj ?_));refine Rg.Tj dz vE M rfl (fun a0 w1 s1=>?_);refine ae rfl rfl ?_;refine Rg.n0 (A:=((RT.li).ptr)) (hn:=by decide) (M:=M) dz vE rfl rfl rfl rfl hv s1.le (s1.lt hM) (by omega) (fun u2 w2 jB s2=>?_);refine ah rfl rfl (ad (aM ?_));exact aS rfl rfl ⟨jB,s1.aw s2⟩
theorem zI {M:aI} {d:Dc} {v0:Value} (w0:World) (hM:Lt M w0) (hv:RT.dc.V M w0 d v0) (hl:d.2.length≤1099511627776):
  Spec Tryz.prog 160 #[v0] w0 (fun v w=>RT.dc.V M w d v∧Step M w0 M w aD):=by
 have fR:=hM;refine bh (args:=[_]) (fn:=Tryz.f160) Tryz.func160 rfl (n:=9) Tryz.ntmps160 ?_;have S:Step M w0 M w0 aD:=(ar _ _).b9 (fun _ h=>h.elim) (fun _ h=>h.elim);refine ak (aj ?_);refine gp (A:=RT.dc) rfl rfl hM hv rfl (fun u0 w1 cG s0 _=>?_);replace hM:=s0.lt hM;have:=S.size;replace S:=S.aw s0;refine dL M jW rfl (fun mq A9 LQ LR eP lv=>?_);obtain⟨ej,kB⟩:∃M',M'=ins M mq:=⟨_,rfl⟩;rw[←kB]at lv;have ec:ej mq:=by rw[kB];exact .inl rfl
 change A9.heap[mq]? =some (.cells #[.int .i64 0,.slice none 0 0] _ _)at eP;replace cG:=cG.le (by decide) lv.le;replace hM:=lv.lt hM;have:=S.size;replace S:=S.aw lv;refine ad (ak ?_);apply vq 4 [0,1] 1 aD mixed rfl rfl rfl rfl;intro A1 Ii;have lr:=Ii ej;have:=al eP;replace ec:=(lr.mem _ this).2 ec;replace eP:=lr.aN eP;replace cG:=cG.le (by decide) lr.le;replace hM:=lr.lt hM;have:=S.size;replace S:=S.aw lr;refine ax (M:=ej) (A:=RT.dc) (B:=RT.int .i64) aJ rfl rfl I3 (by decide) (Oh) rfl rfl (by decide) (by assumption) (by repeat (first|exact ao _ _|refine aV (br (by assumption)) ?_)) (fun tP jc=>?_);refine ad ⟨rfl,rfl,rfl,?_⟩;refine b4 (M:=ej) ay rfl rfl (by assumption) (by repeat (first|exact ao _ _|refine aV (br (by assumption)) ?_)) (fun JQ=>?_);refine ad ⟨rfl,rfl,rfl,?_⟩;refine ax (M:=ej) (A:=RT.dc) (B:=(RT.fd).sl) aJ rfl rfl ow (by decide) (xV) rfl rfl (by decide) (by assumption) (by repeat (first|exact ao _ _|refine aV (br (by assumption)) ?_)) (fun FR oQ=>?_);refine ad ⟨rfl,rfl,rfl,?_⟩;refine bw (M:=ej) aO rfl rfl rfl rfl rfl (by assumption) (by repeat (first|exact ao _ _|refine aV (br (by assumption)) ?_)) (fun QB FT=>?_);refine ad ⟨rfl,rfl,rfl,?_⟩;refine dr ?_;obtain⟨bb,oo,cs,ee,fr,rfl,kf,_⟩:=jc.float;refine⟨eV ⟨fV aJ rfl I3 (by decide),⟨dS rfl kf (fun h=>h),trivial⟩⟩,?_⟩;have kp:=fY aD A1;refine aT rfl rfl U2 (II hM FT hl) (fun v4 w4 hc=>?_);obtain⟨nk,s4⟩:=hc;have:=al eP;replace ec:=(s4.mem _ this).2 ec;replace eP:=s4.aN eP;replace cG:=cG.le (by decide) s4.le;replace hM:=s4.lt hM;have:=S.size;replace S:=S.aw s4;refine(fun(kp:dO _ _ _)=>ad ⟨rfl,rfl,fun _=>kp,?_⟩) (by first|exact kp|exact kp.nZ (by assumption)|exact kp.goN (by assumption)|exact kp.go (by assumption) (fun _ _ h=>by first|exact h|exact h.elim))
 refine eM (places:=[(0,1),(1,1)]) aJ jW Pd rfl ⟨_,_,rfl,rfl,_,_,rfl,rfl,rfl⟩ (out:=[_,_]) ⟨0,[_],rfl,rfl,by simp[Value.cells],1,[_],rfl,gw nk,by simp[Value.cells],rfl⟩ ?_;refine ad ⟨rfl,rfl,fun h=>absurd rfl h,?_⟩;have hd:RT.dc.V ej w4 d (.agg [.int .i64 d.1,v4].toArray):=dR (fO JQ) nk rfl rfl rfl rfl;refine dx (M:=ej) (vs:=[.int .i64 d.1,v4]) jW rfl rfl (uh rfl hd) rfl rfl eP ec (fun w6 g6 s6=>?_);have:=al eP;replace ec:=(s6.mem _ this).2 ec;replace cG:=cG.le (by decide) s6.le;replace nk:=nk.le s6.le;replace hd:=hd.le s6.le;replace hM:=s6.lt hM;have:=S.size;replace S:=S.trans s6 (fun k hk h=>by have h:_=_:=h;subst h;first|(exfalso;omega)|(show _≤_;omega)|exact⟨by first|omega|assumption,(S.mem _ hk).1 ((s6.mem _ (al eP)).1 ec)⟩|exact .inl rfl|exact .inr rfl|exact .inr (.inl rfl)|exact .inr (.inr rfl)|exact rfl);have zJ:=g6;clear eP;have eP:=zJ;clear zJ;refine ad ⟨rfl,rfl,fun h=>absurd rfl h,?_⟩;refine jJ (aM ?_);exact tq (vs:=[.int .i64 d.1,v4]) rfl rfl aJ rfl jW rfl eP ⟨hd.le (Le.close fR S),S.back⟩
theorem FU {M:aI} {e:En} {v0:Value} (w0:World) (hM:Lt M w0) (hv:RT.en.V M w0 e v0) (hl:e.1.2.length≤1099511627776):
  Spec Tryz.prog 109 #[v0] w0 (fun v w=>RT.en.V M w e v∧Step M w0 M w aD):=by
 have fR:=hM;refine bh (args:=[_]) (fn:=Tryz.f109) Tryz.func109 rfl (n:=9) Tryz.ntmps109 ?_;have S:Step M w0 M w0 aD:=(ar _ _).b9 (fun _ h=>h.elim) (fun _ h=>h.elim);refine ak (aj ?_);refine gp (A:=RT.en) rfl rfl hM hv rfl (fun u0 w1 cG s0 _=>?_);replace hM:=s0.lt hM;have:=S.size;replace S:=S.aw s0;refine dL M vD rfl (fun mq A9 LQ LR eP lv=>?_);obtain⟨ej,kB⟩:∃M',M'=ins M mq:=⟨_,rfl⟩;rw[←kB]at lv;have ec:ej mq:=by rw[kB];exact .inl rfl
 change A9.heap[mq]? =some (.cells #[.int .i64 0,.slice none 0 0,.int .i64 0] _ _)at eP;replace cG:=cG.le (by decide) lv.le;replace hM:=lv.lt hM;have:=S.size;replace S:=S.aw lv;refine ad (ak ?_);apply T.Ev [0,1,3,4,2,5,6] 4 [2,3] 1 aD mixed
 ·simp+decide only[wz,qH,gN,List.map_nil,uR,uT,List.map_toArray,fI,ni,List.idxOf_cons,cond_true,cond_false,Nat.reduceBEq,Nat.reduceAdd,beq_self_eq_true];rfl
 ·rfl
 ·rfl
 ·rfl
 ·rfl
 ·rfl
 ·rfl
 intro A1 Ii;have lr:=Ii ej;have:=al eP;replace ec:=(lr.mem _ this).2 ec;replace eP:=lr.aN eP;replace cG:=cG.le (by decide) lr.le;replace hM:=lr.lt hM;have:=S.size;replace S:=S.aw lr;refine ax (M:=ej) (A:=RT.en) (B:=RT.dc) cA rfl rfl jW (by decide) Il rfl rfl (by decide) cG (ao _ _) (fun tP jc=>?_);refine ad ⟨rfl,rfl,rfl,?_⟩;refine b7 (M:=ej) (A:=RT.dc) aJ rfl jW (by decide) rfl rfl rfl jc (ao _ _) (fun vF k4=>?_);refine ad ⟨rfl,rfl,rfl,?_⟩;refine ax (M:=ej) (A:=RT.en) (B:=RT.int .i64) cA rfl rfl I3 (by decide) PX rfl rfl (by decide) cG (ao _ _) (fun FR oQ=>?_);refine ad ⟨rfl,rfl,rfl,?_⟩;refine b4 (M:=ej) ay rfl rfl (by assumption) (by repeat (first|exact ao _ _|refine aV (br (by assumption)) ?_)) (fun FV=>?_);refine bI (v':= .int .i64 (e.2)) rfl ?_;replace FV: -9223372036854775808≤(e.2:Int)∧e.2≤9223372036854775807:=FV;refine ad ⟨rfl,rfl,rfl,?_⟩;refine dr ?_;obtain⟨bb,oo,cs,ee,fr,rfl,kf,_⟩:=oQ.float;refine⟨eV ⟨fV cA rfl I3 (by decide),⟨dS rfl kf (fun h=>h),trivial⟩⟩,?_⟩;have kp:=fY aD A1;refine aT rfl rfl UQ (zI _ hM k4 hl) (fun v4 w4 hc=>?_);obtain⟨nk,s4⟩:=hc;obtain⟨uf,rfl⟩:=E6 nk;have:=al eP;replace ec:=(s4.mem _ this).2 ec;replace eP:=s4.aN eP;replace cG:=cG.le (by decide) s4.le;replace hM:=s4.lt hM;have:=S.size;replace S:=S.aw s4;refine(fun(kp:dO _ _ _)=>ad ⟨rfl,rfl,fun _=>kp,?_⟩) (by first|exact kp|exact kp.nZ (by assumption)|exact kp.goN (by assumption)|exact kp.go (by assumption) (fun _ _ h=>by first|exact h|exact h.elim));refine eM (places:=[(0,2),(2,1)]) cA vD UG rfl ⟨_,_,rfl,rfl,_,_,rfl,rfl,rfl⟩ (out:=[_,_,_]) ⟨0,[_,_],rfl,rfl,by simp[Value.cells],2,[_],rfl,rfl,by simp[Value.cells],rfl⟩ ?_
 refine ad ⟨rfl,rfl,fun h=>absurd rfl h,?_⟩;have hd:RT.en.V ej w4 e (.agg [.int .i64 e.1.1,uf,.int .i64 e.2].toArray):=E7 (p:=e.1) nk FV;refine dx (M:=ej) (vs:=[.int .i64 e.1.1,uf,.int .i64 e.2]) vD rfl rfl (uh rfl hd) rfl rfl eP ec (fun w6 g6 s6=>?_);have:=al eP;replace ec:=(s6.mem _ this).2 ec;replace cG:=cG.le (by decide) s6.le;replace nk:=nk.le s6.le;replace hd:=hd.le s6.le;replace hM:=s6.lt hM;have:=S.size;replace S:=S.trans s6 (fun k hk h=>by have h:_=_:=h;subst h;first|(exfalso;omega)|(show _≤_;omega)|exact⟨by first|omega|assumption,(S.mem _ hk).1 ((s6.mem _ (al eP)).1 ec)⟩|exact .inl rfl|exact .inr rfl|exact .inr (.inl rfl)|exact .inr (.inr rfl)|exact rfl);have zJ:=g6;clear eP;have eP:=zJ;clear zJ;refine ad ⟨rfl,rfl,fun h=>absurd rfl h,?_⟩;refine jJ (aM ?_);exact tq (vs:=[.int .i64 e.1.1,uf,.int .i64 e.2]) rfl rfl cA rfl vD rfl eP ⟨hd.le (Le.close fR S),S.back⟩
end Go.K
namespace Go.K
open Go.Proofs
namespace TKBldB
theorem QC:TI Tryz.prog 227 (.map none) 1 8:=by unfold TI;kernel_rfl
theorem WB:Enters Tryz.prog 155:=enters Tryz.func155 rfl (by decide)
theorem WC:Enters Tryz.prog 156:=enters Tryz.func156 rfl (by decide)
theorem WD:Enters Tryz.prog 157:=enters Tryz.func157 rfl (by decide)
end TKBldB
open TKBldB
set_option maxRecDepth 10000
theorem IJ.a7 {bt mb B:Nat} {ts:List (Fd×Nat)} {M M':aI} {w w':World} (h:IJ bt mb B ts M w) (s:Step M w M' w' aD):IJ bt mb B ts M' w':=by
 obtain⟨gb,dC,ed,hB,Cm,es,clock,hW,hI⟩:=h;exact⟨s.aN gb,(s.mem _ (al gb)).2 dC,(s.mem _ (al hW.at_)).2 ed,hB,Cm,es,clock,hW.a7 s,hI.a7 s⟩
theorem FX {bt mb B:Nat}:LZ Tryz.prog 155 [.pointer (some ⟨bt,0,none⟩)] B (IJ bt mb B):=
 ⟨WB,fun ts M w M' w' h s=>h.a7 s,fun ts M w t i hJ hM h1 h2 hi h4=>Dp w hM h1 h2 hi h4 hJ⟩
theorem FY (M:aI) (w:World) (B:Nat):Dn M w B [] [] where
 o t v hv:=by
  rcases hv with⟨e,he,_⟩|⟨_,rfl⟩
  ·cases he
  ·exact dw _ _ _ _ _
 a t t' v v' _ hv _:=by
  rcases hv with⟨e,he,_⟩|⟨_,rfl⟩
  ·cases he
  ·exact(gX.nil v').symm
 k:=rfl
theorem zK:∀(ts:List (Fd×Nat)) (l:List Fd),(ts.foldl (fun l p=>if p.1∈l then l else l++[p.1]) l).length≤l.length+ts.length
 |[],l=>by simp
 |p::ts,l=>by
  rw[List.foldl_cons,cM];refine eJ (zK ts _) ?_
  split
  ·omega
  ·rw[bO];simp;omega
theorem IL (M:aI) (w:World) (M':aI) (w':World) (x:Fd) (vs:List Value) (h:RT.fd.R M w x vs):RT.fd.R M' w' x vs:=h
theorem zL {M:aI} {d:Dc} {v0:Value} (w0:World) (hM:Lt M w0) (hv:RT.dc.V M w0 d v0) (hF:gz d) (hl:∀f∈d.2,f.1.length≤900000∧f.2.length≤900000):
  Spec Tryz.prog 108 #[v0] w0 (fun v w=>∃a b,v= .tuple #[a,b]∧(RT.fd.sl).V M w (bV (bP d.2)) a∧(((RT.int .i64).sl).sl).V M w ((bV (bP d.2)).map (posOf (bP d.2))) b∧Step M w0 M w aD):=by
 have fR:=hM;have J1:=hF.many;refine bh (args:=[_]) (fn:=Tryz.f108) Tryz.func108 rfl (n:=31) Tryz.ntmps108 ?_;have S:Step M w0 M w0 aD:=(ar _ _).b9 (fun _ h=>h.elim) (fun _ h=>h.elim);refine ak (aj ?_);refine gp (A:=RT.dc) rfl rfl hM hv rfl (fun u0 w1 cG s0 _=>?_);replace hM:=s0.lt hM;have:=S.size;replace S:=S.aw s0;refine ah rfl rfl (ah rfl rfl (ad (ak (aj ?_))));refine Rg.zt M j4 rfl (fun mb w1m p1 q1 gW s1=>?_);obtain⟨Mk,FZ⟩:∃M',M'=ins M mb:=⟨_,rfl⟩;rw[←FZ]at s1;have ya:Mk mb:=by rw[FZ];exact .inl rfl
 replace cG:=cG.le (by decide) s1.le;replace hM:=s1.lt hM;have:=S.size;replace S:=S.aw s1;refine dL Mk QC rfl (fun Dy L3 aeq aer vJ sd=>?_);obtain⟨F0,F1⟩:∃M',M'=ins Mk Dy:=⟨_,rfl⟩;rw[←F1]at sd;have uj:F0 Dy:=by rw[F1];exact .inl rfl
 change L3.heap[Dy]? =some (.cells #[.map none] _ _)at vJ;replace cG:=cG.le (by decide) sd.le;replace ya:=(sd.mem _ (al gW.at_)).2 ya;replace gW:=gW.a7 sd;replace hM:=sd.lt hM;have:=S.size;replace S:=S.aw sd;refine cu (M:=F0) QC rfl rfl vJ rfl (rfl) uj (fun Iw fX na=>?_)
 try simp only[List.setIfInBounds_toArray,List.set_cons_zero,List.set_cons_succ]at fX
 have:=al vJ;replace uj:=(na.mem _ this).2 uj;replace cG:=cG.le (by decide) na.le;replace ya:=(na.mem _ (al gW.at_)).2 ya;replace gW:=gW.step na (by show¬(_=_);omega);replace hM:=na.lt hM;have:=S.size;replace S:=S.trans na (fun k hk h=>by have h:_=_:=h;subst h;first|(exfalso;omega)|(show _≤_;omega)|exact⟨by first|omega|assumption,(S.mem _ hk).1 ((na.mem _ (al vJ)).1 uj)⟩|exact .inl rfl|exact .inr rfl|exact .inr (.inl rfl)|exact .inr (.inr rfl)|exact rfl);have J2:=fX;clear vJ;have vJ:=J2;clear J2;refine ad (ak (aj ?_));refine b7 (M:=F0) (A:=RT.dc) aJ rfl jW (by decide) rfl rfl rfl (by assumption) (by repeat (first|exact ao _ _|refine aV (br (by assumption)) ?_)) (fun aes QD=>?_);refine lD (xs:=[]) (ys:=[.tmp 4]) rfl rfl rfl ?_;refine aT rfl rfl Ph (wU (cap:=[.pointer (some ⟨Dy,0,none⟩)]) (B:=w0.heap.size) _ hM QD hl hF.few (FX (mb:=mb)) ⟨vJ,uj,ya,by omega,by omega,[],0,gW,FY _ _ _⟩) (fun r2 w2 hc=>?_);obtain⟨M2,Lz,⟨gb,_,_,_,_,es,clock,hW,hI⟩,s2⟩:=hc;replace S:=S.j7 s2 (a8 _);have nc:∀t v,dH jn es (kv t) v→(((RT.int .i64).sl)).V M w2 (posOf (bP d.2) t) v:=fun t v h=>(hI.o t v h).close fR S (by have:=qT (bP d.2) t;omega)
 replace S:=S.back;replace hM:=S.lt fR
 have QE:∀e∈es,∃t∈seen (bP d.2),e.key=kv t:=fun e he=>by
  have:e.key∈(seen (bP d.2)).map kv:=by rw[←hI.k];exact ez he
  obtain⟨t,h1,h2⟩:=cq.1 this;exact⟨t,h1,h2.symm⟩
 have xx:∀t∈seen (bP d.2),Ds t∧t.1.length≤12∧t.2.length≤30:=fun t ht=>by
  obtain⟨p,hp,rfl⟩:=cq.1 (qe.1 ht);exact⟨hF.Dv p hp,hF.small p hp⟩
 have ou:(seen (bP d.2)).length≤500:=eJ (zK _ _) (by simp;omega);have CI:es.length≤500:=by have:=congrArg List.length hI.k;simp at this;omega
 refine ad (ak (aj (aX j4 rfl rfl rfl gb rfl ?_)));refine aT rfl rfl WD (Bj _) (fun r3 w3 hc=>?_);obtain⟨bs,rfl,L6,_,s3⟩:=hc;replace s3:=s3.toAny M;replace hW:=hW.a7 s3;replace gb:=s3.aN gb;replace nc:=fun t v h=>(nc t v h).le s3.le
 replace hM:=s3.lt hM;have:=S.size;replace S:=S.aw s3
 refine aT rfl rfl WC (zA _ (fun e he=>by
  obtain⟨t,h1,h2⟩:=QE e he;exact⟨t,h2,by have:=(xx t h1).2;omega,by have:=(xx t h1).2;omega⟩) (fun e he t ht=>by
  obtain⟨t',h1,h2⟩:=QE e he;obtain rfl:=qS (ht.symm.trans h2);exact⟨(xx _ h1).1,by have:=(xx _ h1).2;omega,by have:=(xx _ h1).2;omega⟩) (by omega) (fun ts ot mO=>by
  have:=ot.length_le_of_subset (l₂:=seen (bP d.2)) (fun t ht=>(qc hI.k).1 (mO t ht));omega) L6 hW) (fun r4 w4 hc=>?_)
 obtain⟨us,ot,mO,KP,Qt,s4⟩:=hc;obtain rfl:=zD hF.Dv ot (fun t=>(mO t).trans (qc hI.k)) KP;have Qs:(bV (bP d.2)).length≤500:=eJ (ot.length_le_of_subset (l₂:=seen (bP d.2)) (fun t ht=>qe.2 ((gV hF.Dv).1 ht))) ou;replace s4:=s4.toAny M;have yp:(RT.fd.sl).V M w4 (bV (bP d.2)) r4:=Qt.tell IL (fun b hb h=>by have:=(Qt.base b hb).1;have:=hM b h;omega) (by omega);clear Qt;replace hW:=hW.a7 s4;replace gb:=s4.aN gb;replace nc:=fun t v h=>(nc t v h).le s4.le
 replace hM:=s4.lt hM;have:=S.size;replace S:=S.aw s4;refine ah rfl rfl (ad (ak (aj (ah rfl rfl (ad (ak (ak (aj (ae rfl rfl (bz bG rfl yp rfl (ae rfl rfl ?_)))))))))));refine ad (aW ?_);refine cX (σ:=Nat×Value) (fun q=>[(4,.pointer (some ⟨Dy,0,none⟩)),(5,r4),(6,q.2),(16,r4),(17,.int .i64 ((bV (bP d.2)).length:Int)),(18,.int .i64 (q.1:Int))]) (fun q w=>∃M',Lt M' w∧Step M w0 M' w aD∧Own ((RT.int .i64).sl) 32 M' w w0.heap.size q.2 (((bV (bP d.2)).take q.1).map (posOf (bP d.2)))∧(RT.fd.sl).V M' w (bV (bP d.2)) r4∧eD Tryz.prog 47 w mb es clock∧w.heap[Dy]? =some (.cells #[.map (some mb)] 227 (0,0))∧(∀t v,dH jn es (kv t) v→(((RT.int .i64).sl)).V M' w (posOf (bP d.2) t) v)∧q.1≤(bV (bP d.2)).length) (fun q=>(bV (bP d.2)).length-q.1) (0,.slice none 0 0) (.cons rfl (.cons rfl (.cons rfl (.cons rfl (.cons rfl (.cons rfl .nil)))))) ?_ ?_
 ·exact⟨M,hM,S,dw _ _ _ _ _,yp,hW,gb,nc,bC _⟩
 ·clear hM yp hW gb nc S;rintro⟨i,u⟩ w ⟨M1,hM,S,ho,yp,hW,gb,nc,hi⟩;dsimp only at ho hi ⊢;refine ak (aj (cj rfl rfl rfl (ad (ak ?_))));refine bK rfl (fun c6=>?_) (fun c6=>?_)
  ·refine aU (ak (aW (ak (aj ?_))));refine cb (M:=M1) bG ja rfl rfl rfl yp (ao _ _) (by omega) (fun P4 t WE Cf=>?_);rw[aB]at WE;have HX:=aH WE;have Er:=xx t (qe.2 ((gV hF.Dv).1 HX));refine b7 (M:=M1) (A:=RT.fd) bA rfl ja (by decide) rfl rfl rfl Cf (ao _ _) (fun V1 JN=>?_);refine sm (A:=RT.fd) (M:=M1) ja rfl rfl rfl rfl rfl (by assumption) (ao _ _) hM (fun QF WG oR qX aet=>?_);replace yp:=yp.le qX.le;replace ho:=ho.a7 qX;replace hW:=hW.a7 qX;replace gb:=qX.aN gb;replace nc:=fun t v h=>(nc t v h).le qX.le
   replace hM:=qX.lt hM;have:=S.size;replace S:=S.aw qX;refine ad (aj (ae rfl rfl (aX j4 rfl rfl rfl gb rfl ?_)));refine b7 (M:=M1) (A:=RT.fd) bA rfl ja (by decide) rfl rfl rfl oR (ao _ _) (fun aeu QG=>?_);obtain rfl:=iS QG;obtain⟨kl,DV⟩:=FA t (by omega) (by omega);refine Rg.qa j4 wT jE rfl rfl rfl DV hW (fun v8 oy=>?_);have vQ:=nc _ _ oy;clear oy;refine dQ (A:=((RT.int .i64).sl)) (hn:=by decide) (M:=M1) Tryz.underlying171 jE (by decide) rfl rfl hM (vQ) (.inr ⟨rfl,rfl⟩) (fun aev aew F2 zM=>?_);replace yp:=yp.le zM.le;replace oR:=oR.le (by decide) zM.le;replace ho:=ho.a7 zM;replace hW:=hW.a7 zM;replace gb:=zM.aN gb;replace nc:=fun t v h=>(nc t v h).le zM.le
   replace hM:=zM.lt hM;have:=S.size;replace S:=S.aw zM;refine ch (M:=M1) (base:=w0.heap.size) Tryz.underlying171 jE rfl rfl rfl rfl ho F2 (ao _ _) (by simp;omega) (by simp;omega) (S.size) (fun WH WI aex QH zN=>?_);replace yp:=yp.le zN.le;replace oR:=oR.le (by decide) zN.le;replace F2:=F2.le zN.le;replace hW:=hW.step zN (fun h=>ho.jo hW.at_ h);replace gb:=zN.bM gb (fun h=>ho.ep gb (by decide) h);replace nc:=fun t v h=>(nc t v h).le zN.le
   replace hM:=zN.lt hM;have:=S.size;replace S:=S.cF zN ho (a8 _);replace ho:=QH;refine ah rfl rfl (ad (aj (bE rfl rfl rfl (by omega) (ae rfl rfl (ad ?_)))));refine⟨rfl,(i+1,WH),(.cons rfl (.cons rfl (.cons rfl (.cons rfl (.cons rfl (.cons rfl .nil)))))),?_,?_⟩
   ·exact⟨WI,hM,S,by rw[bc,WE,bY,dF];exact ho,yp,hW,gb,nc,by dsimp only;omega⟩
   ·dsimp only;omega
  ·refine cK (ak (aj (ae rfl rfl (ae rfl rfl (ah rfl rfl (ah rfl rfl (ad (aM ?_))))))));have e:(bV (bP d.2)).take i=bV (bP d.2):=aK (by omega);rw[e]at ho;exact eA rfl rfl rfl ⟨_,_,rfl,yp.le (Le.close fR S),ho.close fR S (by simp;omega),S.back⟩
end Go.K
namespace Go.K
def J3 {α:Type} (A:RT α) (M:aI) (w:World) (v:Value) (x:α):Prop:=∃b o vs,v= .pointer (some ⟨b,o,none⟩)∧A.R M w x vs∧w.rangeAt b o vs
theorem Own.elem {α:Type} {A:RT α} {e:TypeId} {M:aI} {w:World} {base:Nat} {v:Value} {xs:List α} (h:Own A e M w base v xs) (hA:0<A.n) {i:Nat} {x:α} (hx:xs[i]? =some x):
  ∃g cap vs,v= .slice (some ⟨g,0,none⟩) xs.length cap∧M g∧A.R M w x vs∧w.rangeAt g (i*A.n) vs:=by
 obtain⟨⟨C,hr,ha⟩,hm⟩:=h;rcases hr.2 with⟨h1,h2⟩|⟨g,cap,cur,h1,h2,h3,h4,h5,h6,h7⟩
 ·have:xs=[]:=List.eq_nil_of_length_eq_zero h2;subst this;simp at hx
 ·obtain⟨vs,hv,hj⟩:=ha.at_ i x hx;refine⟨g,cap,vs,h1,hm g (by rw[h1];rfl),hv,fun j u hu=>?_⟩;have h8:=hj j u hu;rw[←h7,eo]at h8
  split at h8
  ·simp only[World.cell?,h3];simpa using h8
  ·cases h8
section
variable {P:Program} {r:Option Nat} {n:Nat} {L:Sl} {ds:List Deferred} {w:World} {K:Kt} {ops:Array Oper} {rest:List Oper} {d:Nat} {x y:Operand} {ty:TypeId} {pos:String} {af:Array Edge} {α:Type} {A:RT α}
theorem Rg.WK {t e e':TypeId} {i:Operand} {κ:IntKind} {j:Int} {M:aI} {base:Nat} {xs:List α} {v zv:Value} {bytes:Nat} (ht:P.underlying t=some (.slice e)) (hi:TI P e zv A.n bytes) (hA:0<A.n)
  (hx:ev L x=some v) (KK:ev L i=some (.int κ j)) (hd:Nat.blt d n=true) (ho:Own A e' M w base v xs) (hj:0≤j∧j<xs.length)
  (k:∀u a,xs[j.toNat]? =some a→J3 A M w u a→Rg P r n ops rest ((d,u)::L) ds w K):
  Rg P r n ops ({dst:=some d,op:= .indexAddr t x i,type:=ty,pos,after:=af,guard:=none}::rest) L ds w K:=by
 have dD:j.toNat<xs.length:=by omega
 obtain⟨g,cap,vs,rfl,hm,h1,h2⟩:=ho.elem hA (aF dD);refine .op (fun _ h=>by cases h) rfl rfl hd (.pointer (some ⟨g,0+j.toNat*A.n,none⟩)) w (fun ρ h=>?_) (k _ xs[j.toNat] (aF dD) ⟨g,_,vs,rfl,h1,by rw[Nat.zero_add];exact h2⟩);simp only[execOp,h x _ hx,h i _ KK];simp[Instr.indexAt,run_underlying ht,asIntOf,hj,hi.sizeOf,Addr.add_mid]
theorem Rg.F3 {t:TypeId} {fs:TypeDesc} {zv:Value} {bytes:Nat} {M:aI} {p:Value} {a:α} (hu:P.underlying t=some fs) (hf:fs.isRow=true) (hi:TI P t zv A.n bytes) (hg:A.agg=true)
  (hx:ev L x=some p) (hd:Nat.blt d n=true) (hp:J3 A M w p a) (k:∀v,A.V M w a v→Rg P r n ops rest ((d,v)::L) ds w K):
  Rg P r n ops ({dst:=some d,op:= .load t x,type:=ty,pos,after:=af,guard:=none}::rest) L ds w K:=by
 obtain⟨b,o,vs,rfl,h1,h2⟩:=hp;refine .op (fun _ h=>by cases h) rfl rfl hd (.agg vs.toArray) w (fun ρ h=>?_) (k _ ⟨vs,h1,by simp[RT.val,hg]⟩);simp only[execOp,h x _ hx];obtain⟨i,wg,_,yq,_⟩:=hi.get;have:=run_loadAt_mid (P:=P) w b o t vs fs h2 hu hf (by simp[wg,yq,A.len h1]);simp[this]
end
end Go.K
namespace Go.K
open Go.Proofs
namespace TKBldC
theorem WL:TI Tryz.prog 169 (.agg #[(.slice none 0 0),(.map none),(.int .i64 0),(.int .i64 0)]) 4 48:=by unfold TI;kernel_rfl
theorem WM:placesOf Tryz.prog 169=[(0,1),(1,1),(2,1),(3,1)].map some:=by kernel_rfl
end TKBldC
open TKBldC
set_option maxRecDepth 10000
open Go.Maps (Keyed)
theorem qf:Keyed Tryz.prog 9:=Go.Maps.string_keyed aA
theorem F4 (k:List UInt8) (h:k.length≤140737488355328):∃l,keyOf Tryz.prog 9 (sv k)=some l:=by
 have e1:(⟨k.toArray⟩:ByteArray).size=k.length:=by simp[ByteArray.size]
 exact⟨_,Go.WideMaps.keyOf_string_mk aA (by rw[e1];unfold maxLen;omega)⟩
structure zO (Z:aI) (M:aI) (w:World) (B:Nat) (f:List UInt8→List Po) (K:List UInt8→Prop) (es:List MapEntry):Prop where
 o:∀k v,dH jn es (sv k) v→Own RT.po 153 M w B v (f k)
 a:∀k k' v v',k≠k'→dH jn es (sv k) v→dH jn es (sv k') v'→gX v v'
 k:∀x,(∃e∈es,e.key=sv x)↔K x
 z:∀k v c,dH jn es (sv k) v→v.ownBlock=some c→Z c
theorem zO.step {Z M M' N:aI} {w w':World} {B:Nat} {f:List UInt8→List Po} {K:List UInt8→Prop} {es:List MapEntry} (h:zO Z M w B f K es) (s:Step M w M' w' N) (hn:∀k v b,dH jn es (sv k) v→v.ownBlock=some b→¬N b):zO Z M' w' B f K es:=
 ⟨fun k v hv=>(h.o k v hv).step s fun b hb=>hn k v b hv hb,h.a,h.k,h.z⟩
theorem zO.a7 {Z M M':aI} {w w':World} {B:Nat} {f:List UInt8→List Po} {K:List UInt8→Prop} {es:List MapEntry} (h:zO Z M w B f K es) (s:Step M w M' w' aD):zO Z M' w' B f K es:=h.step s fun _ _ _ _ _ h=>h
theorem zO.congr {Z M:aI} {w:World} {B:Nat} {f f':List UInt8→List Po} {K K':List UInt8→Prop} {es:List MapEntry} (h:zO Z M w B f K es) (hf:∀k,f' k=f k) (hK:∀k,K' k↔K k):zO Z M w B f' K' es:=
 ⟨fun k v hv=>by rw[hf];exact h.o k v hv,h.a,fun x=>(h.k x).trans (hK x).symm,h.z⟩
theorem zO.Dz {Z Z' M:aI} {w:World} {B:Nat} {f:List UInt8→List Po} {K:List UInt8→Prop} {es:List MapEntry} (h:zO Z M w B f K es) (hz:∀c,Z c→c<w.heap.size→Z' c):zO Z' M w B f K es:=
 ⟨h.o,h.a,h.k,fun k v c hv hc=>hz c (h.z k v c hv hc) ((h.o k v hv).base c hc).2⟩
theorem zO.put {Z M M2:aI} {w w1 w2:World} {B mb c:Nat} {mes:Array MapEntry} {f:List UInt8→List Po} {K:List UInt8→Prop} {es Ml:List MapEntry} {k0:List UInt8} {v0 v1:Value} {ps:List Po} (h:zO Z M w B f K es) (hZ:∀c,w.heap.size≤c→Z c) (Jv:dH jn es (sv k0) v0)
  (Tz:Own RT.po 153 (jL M v1) w1 B v1 (f k0++ps)) (s1:Step M w (jL M v1) w1 (iH v0)) (hF:∀b,v1.ownBlock=some b→w.heap.size≤b∨v0.ownBlock=some b) (hmb:w1.heap[mb]? =some (.map mes c)) (s2:Step (jL M v1) w1 M2 w2 (fun k=>k=mb))
  (Bk:∀zv gK v',dH zv Ml gK v'↔(gK=sv k0∧v'=v1)∨(gK≠sv k0∧dH zv es gK v')) (mT:(Ml.map (·.key)=es.map (·.key)∧∃e∈es,e.key=sv k0)∨(Ml.map (·.key)=es.map (·.key)++[sv k0]∧∀e∈es,e.key≠sv k0)):
  zO Z M2 w2 B (fun k=>if k=k0 then f k0++ps else f k) (fun x=>K x∨x=k0) Ml:=by
 have oP:∀k v,dH jn Ml (sv k) v→(k=k0∧v=v1)∨(k≠k0∧dH jn es (sv k) v):=fun k v hv=>by
  rcases(Bk jn (sv k) v).1 hv with⟨h3,h4⟩|⟨h3,h4⟩
  ·exact .inl ⟨x7 h3,h4⟩
  ·exact .inr ⟨fun e=>h3 (by rw[e]),h4⟩
 have Dq:∀k v,k≠k0→dH jn es (sv k) v→gX v1 v:=fun k v eE hv=>(h.a k k0 v v0 eE hv Jv).symm.grown hF (fun b hb=>((h.o k v hv).base b hb).2)
 have IB:∀k v,k≠k0→dH jn es (sv k) v→Own RT.po 153 (jL M v1) w1 B v (f k):=fun k v eE hv=>(h.o k v hv).step s1 (fun b hb hk=>h.a k k0 v v0 eE hv Jv b hb hk)
 have hnm:∀{v:Value} {xs:List Po},Own RT.po 153 (jL M v1) w1 B v xs→∀b,v.ownBlock=some b→¬b=mb:=fun ho b hb e=>ho.jo hmb (by rw[←e];exact hb)
 refine⟨fun k v hv=>?_,fun k k' v v' eE hv oI=>?_,fun x=>?_,fun k v c hv hc=>?_⟩
 ·rcases oP k v hv with⟨rfl,rfl⟩|⟨h3,h4⟩
  ·rw[if_pos rfl];exact Tz.step s2 (hnm Tz)
  ·rw[if_neg h3];exact(IB k v h3 h4).step s2 (hnm (IB k v h3 h4))
 ·rcases oP k v hv with⟨rfl,rfl⟩|⟨h3,h4⟩
  ·rcases oP k' v' oI with⟨rfl,_⟩|⟨h5,h6⟩
   ·exact absurd rfl eE
   ·exact Dq k' v' h5 h6
  ·rcases oP k' v' oI with⟨rfl,rfl⟩|⟨h5,h6⟩
   ·exact(Dq k v h3 h4).symm
   ·exact h.a k k' v v' eE h4 h6
 ·have mO:(∃e∈Ml,e.key=sv x)↔sv x∈Ml.map (·.key):=by simp
  have WN:(∃e∈es,e.key=sv x)↔sv x∈es.map (·.key):=by simp
  rw[mO,←h.k x,WN];rcases mT with⟨h3,e,he,hk⟩|⟨h3,_⟩
  ·rw[h3];constructor
   ·exact .inl
   ·rintro(h4|rfl)
    ·exact h4
    ·rw[←hk];exact ez he
  ·rw[h3,cY,cD];constructor
   ·rintro(h4|h4)
    ·exact .inl h4
    ·exact .inr (x7 h4)
   ·rintro(h4|rfl)
    ·exact .inl h4
    ·exact .inr rfl
 ·rcases oP k v hv with⟨rfl,rfl⟩|⟨h3,h4⟩
  ·rcases hF c hc with h5|h5
   ·exact hZ c h5
   ·exact h.z _ _ c Jv h5
  ·exact h.z k v c h4 hc
theorem IM (Z M:aI) (w:World) (B:Nat):zO Z M w B (pk []) (fun x=>x∈fU []) [] where
 o k v hv:=by
  rcases hv with⟨e,he,_⟩|⟨_,rfl⟩
  ·cases he
  ·exact dw _ _ _ _ _
 a k k' v v' _ hv _:=by
  rcases hv with⟨e,he,_⟩|⟨_,rfl⟩
  ·cases he
  ·exact(gX.nil v').symm
 k x:=by simp[fU]
 z k v c hv hc:=by
  rcases hv with⟨e,he,_⟩|⟨_,rfl⟩
  ·cases he
  ·cases hc
structure Buf (Z M:aI) (w:World) (B b mb:Nat) (vl:Value) (L:List En) (words last:Int) (f:List UInt8→List Po) (K:List UInt8→Prop) (es:List MapEntry) (clock:Nat):Prop where
 at_:w.heap[b]? =some (.cells #[vl,.map (some mb),.int .i64 words,.int .i64 last] 169 (0,0))
 m:M b
 mm:M mb
 hb:Z b
 hmb:Z mb
 l:Own RT.en 43 M w B vl L
 map:eD Tryz.prog 9 w mb es clock
 rows:zO Z M w B f K es
 zl:∀c,vl.ownBlock=some c→Z c
def lS (Z M:aI) (w:World) (B b:Nat) (L:List En) (words last:Int):Prop:=∃mb vl es clock,Buf Z M w B b mb vl L words last (pk L) (fun x=>x∈fU L) es clock
theorem lS.a7 {Z M M':aI} {w w':World} {B b:Nat} {L:List En} {words last:Int} (h:lS Z M w B b L words last) (s:Step M w M' w' aD):lS Z M' w' B b L words last:=by
 obtain⟨mb,vl,es,clock,h1,h2,h3,h4,h5,h6,h7,h8,h9⟩:=h;exact⟨mb,vl,es,clock,s.aN h1,(s.mem _ (al h1)).2 h2,(s.mem _ (al h7.at_)).2 h3,h4,h5,h6.a7 s,h7.a7 s,h8.a7 s,h9⟩
theorem lS.Dz {Z Z' M:aI} {w:World} {B b:Nat} {L:List En} {words last:Int} (h:lS Z M w B b L words last) (hz:∀c,Z c→c<w.heap.size→Z' c):lS Z' M w B b L words last:=by
 obtain⟨mb,vl,es,clock,h1,h2,h3,h4,h5,h6,h7,h8,h9⟩:=h;exact⟨mb,vl,es,clock,h1,h2,h3,hz _ h4 (al h1),hz _ h5 (al h7.at_),h6,h7,h8.Dz hz,fun c hc=>hz c (h9 c hc) (h6.base c hc).2⟩
theorem lS.step {Z M M' N:aI} {w w':World} {B b:Nat} {L:List En} {words last:Int} (h:lS Z M w B b L words last) (s:Step M w M' w' N) (hn:∀k,N k→¬Z k):lS Z M' w' B b L words last:=by
 obtain⟨mb,vl,es,clock,h1,h2,h3,h4,h5,h6,h7,h8,h9⟩:=h;exact⟨mb,vl,es,clock,s.bM h1 (fun hk=>hn _ hk h4),(s.mem _ (al h1)).2 h2,(s.mem _ (al h7.at_)).2 h3,h4,h5,h6.step s (fun c hc hk=>hn _ hk (h9 c hc)),h7.step s (fun hk=>hn _ hk h5),h8.step s (fun k v c hv hc hk=>hn _ hk (h8.z k v c hv hc)),h9⟩
theorem lS.stepT {Z M M' N:aI} {w w':World} {B b:Nat} {L:List En} {words last:Int} (h:lS Z M w B b L words last) (s:Step M w M' w' N) (hn:∀k,N k→∃cs t,w.heap[k]? =some (.cells cs t (0,0))∧t≠169∧t≠43∧t≠153):lS Z M' w' B b L words last:=by
 obtain⟨mb,vl,es,clock,h1,h2,h3,h4,h5,h6,h7,h8,hz⟩:=h;refine⟨mb,vl,es,clock,s.bM h1 (fun hk=>?_),(s.mem _ (al h1)).2 h2,(s.mem _ (al h7.at_)).2 h3,h4,h5,h6.step s (fun c hc hk=>?_),h7.step s (fun hk=>?_),h8.step s (fun k v c hv hc hk=>?_),hz⟩
 ·obtain⟨cs,t,h9,IN,_⟩:=hn _ hk;rw[h1]at h9;simp at h9;exact IN h9.2.symm
 ·obtain⟨cs,t,h9,_,IN,_⟩:=hn _ hk;exact h6.ep h9 IN hc
 ·obtain⟨cs,t,h9,_⟩:=hn _ hk;rw[h7.at_]at h9;cases h9
 ·obtain⟨cs,t,h9,_,_,IN⟩:=hn _ hk;exact(h8.o k v hv).ep h9 IN hc
def F5 (M Z:aI):aI:=fun k=>Z k∧M k
theorem dH.ex (zv:Value) (es:List MapEntry) (key:Value):∃v,dH zv es key v:=by
 by_cases h:∃e∈es,e.key=key
 ·obtain⟨e,he,hk⟩:=h;exact⟨e.val,.inl ⟨e,he,hk,rfl⟩⟩
 ·exact⟨zv,.inr ⟨fun e he hk=>h ⟨e,he,hk⟩,rfl⟩⟩
def kE (last:Int) (e:En):Int:=if lu e.1≠0 then lu e.1 else if e.2≤last then 12 else 0
def F6 (L:List En) (tl:List (Fd×Nat)) (i:Nat) (k:List UInt8):List Po:=pk L k++(((bV tl).take i).filter fun t=>decide (dp t=k)).map fun t=>((L.length:Int),posOf tl t)
theorem F7 (L:List En) (tl:List (Fd×Nat)) (k:List UInt8):F6 L tl 0 k=pk L k:=by simp[F6]
theorem F8 {L:List En} {tl:List (Fd×Nat)} {i:Nat} {t:Fd} (h:(bV tl)[i]? =some t) (k:List UInt8):F6 L tl (i+1) k=if k=dp t then F6 L tl i (dp t)++[((L.length:Int),posOf tl t)]else F6 L tl i k:=by
 unfold F6;rw[bc,h,bY,List.filter_append,dF]
 split
 ·rename_i e;subst e;simp
 ·rename_i e
  have: ¬dp t=k:=fun h=>e h.symm
  simp[this]
theorem IP {L:List En} {e:En} {i:Nat} (h:(bV (k7 e)).length≤i) (k:List UInt8):F6 L (k7 e) i k=pk (L++[e]) k:=by
 unfold F6;rw[ID,aK h];rfl
theorem IQ {L:List En} (hF:∀x∈L,gz x.1) (tl:List (Fd×Nat)) (i:Nat) (k:List UInt8):(F6 L tl i k).length≤L.length+(bV tl).length:=by
 unfold F6;have h1:=(nP k L 0 hF).1;have h2:=List.length_filter_le (fun t=>decide (dp t=k)) ((bV tl).take i);have h3:=List.length_take_le i (bV tl);have h4:(pk L k).length≤L.length:=h1;simp only[bO,cx,bF]at*;omega
theorem xc {d:Dc} (hF:gz d):(bV (bP d.2)).length≤500:=by
 have h1:=(nN hF.Dv).nodup.length_le_of_subset (l₂:=(bP d.2).map (·.1)) (fun t ht=>(gV hF.Dv).1 ht);have:=hF.many;simp at h1;omega
theorem gz.term {d:Dc} (hF:gz d) {t:Fd} (h:t∈bV (bP d.2)):t.1.length≤12∧t.2.length≤30:=by
 obtain⟨p,hp,rfl⟩:=cq.1 ((gV hF.Dv).1 h);exact hF.small p hp
theorem F9 {Z M:aI} {B:Nat} (w0:World) (hM:Lt M w0) (hB:B≤w0.heap.size) (hZ:∀k,w0.heap.size≤k→Z k):
  Spec Tryz.prog 56 #[] w0 (fun v w=>∃M' b,v= .pointer (some ⟨b,0,none⟩)∧Lt M' w∧lS Z M' w B b [] 0 (-1)∧Step M w0 M' w aD):=by
 refine bh (args:=[]) (fn:=Tryz.f56) Tryz.func56 rfl (n:=4) Tryz.ntmps56 ?_;have S:Step M w0 M w0 aD:=(ar _ _).b9 (fun _ h=>h.elim) (fun _ h=>h.elim);refine ak (aj (ah rfl rfl (ad (ak (aj ?_)))));refine Rg.zt M ga rfl (fun mb w1m p1 q1 gW s1=>?_);obtain⟨Mk,FZ⟩:∃M',M'=ins M mb:=⟨_,rfl⟩;rw[←FZ]at s1;have ya:Mk mb:=by rw[FZ];exact .inl rfl
 replace hM:=s1.lt hM;have:=S.size;replace S:=S.aw s1;refine eM (places:=[(0,1),(1,1),(2,1),(3,1)]) dn WL WM rfl ⟨_,_,rfl,rfl,_,_,rfl,rfl,rfl⟩ (out:=[.slice none 0 0,_,.int .i64 0,_]) ⟨1,[_],rfl,rfl,by simp[Value.cells],3,[_],rfl,rfl,by simp[Value.cells],rfl⟩ ?_;refine Rg.box Mk rfl rfl (fun Mm Iw aez aeA fX na=>?_);obtain⟨QI,Ga⟩:∃M',M'=ins Mk Mm:=⟨_,rfl⟩;rw[←Ga]at na;have Mn:QI Mm:=by rw[Ga];exact .inl rfl
 change Iw.heap[Mm]? =some (.cells #[.slice none 0 0,.map (some mb),.int .i64 0,.int .i64 (-1)] _ _)at fX;replace ya:=(na.mem _ (al gW.at_)).2 ya;replace gW:=gW.a7 na;replace hM:=na.lt hM;have:=S.size;replace S:=S.aw na;refine ah rfl rfl (ad (aM ?_));exact aS rfl rfl ⟨_,_,rfl,hM,⟨mb,_,[],0,fX,Mn,ya,hZ _ (by omega),hZ _ (by omega),dw _ _ _ _ _,gW,IM _ _ _ _,fun c hc=>by cases hc⟩,S⟩
end Go.K
namespace Go.K
open Go.Proofs
namespace TKBldD
theorem QK:TI Tryz.prog 37 (.slice none 0 0) 1 24:=by unfold TI;kernel_rfl
theorem jQ:TI Tryz.prog 107 (.slice none 0 0) 1 24:=by unfold TI;kernel_rfl
theorem Bq:TI Tryz.prog 167 (.map none) 1 8:=by unfold TI;kernel_rfl
theorem WO:Enters Tryz.prog 107:=enters Tryz.func107 rfl (by decide)
theorem WQ:Enters Tryz.prog 108:=enters Tryz.func108 rfl (by decide)
theorem WR:Enters Tryz.prog 109:=enters Tryz.func109 rfl (by decide)
theorem WS:Enters Tryz.prog 110:=enters Tryz.func110 rfl (by decide)
end TKBldD
open TKBldD
set_option maxRecDepth 10000
set_option maxHeartbeats 4000000 in
theorem Gb {Z M:aI} {B b:Nat} {L:List En} {words last:Int} {e:En} {v0:Value} (w0:World) (hM:Lt M w0) (hZ:∀k,w0.heap.size≤k→Z k) (hb:lS Z M w0 B b L words last) (hBw:B≤w0.heap.size) (hv:RT.en.V M w0 e v0) (hl:∀f∈e.1.2,f.1.length≤900000∧f.2.length≤900000) (hLF:∀x∈L,gz x.1) (hLn:L.length≤1000000) (hw:0≤words∧words≤1000000000):
  Spec Tryz.prog 57 #[.pointer (some ⟨b,0,none⟩),v0] w0 (fun v w=>∃M',Lt M' w∧Step M w0 M' w (F5 M Z)∧v= .int .i64 (kE last e)∧(kE last e≠0→lS Z M' w B b L words last)∧(kE last e=0→lS Z M' w B b (L++[e]) (words+((k7 e).length:Int)) e.2)):=by
 obtain⟨mb,vl,es,clock,gb,dC,ed,hB,Cm,ho,hW,hR,zl⟩:=hb;have JX:b≠mb:=fun h=>by have:=hW.at_;rw[←h,gb]at this;cases this
 refine bh (args:=[_,_]) (fn:=Tryz.f57) Tryz.func57 rfl (n:=89) Tryz.ntmps57 ?_;have S:Step M w0 M w0 (F5 M Z):=(ar _ _).b9 (fun _ h=>h.elim) (fun _ h=>h.2);refine ak (aj ?_);refine gp (A:=RT.en) rfl rfl hM hv rfl (fun u0 w1 cG s0 _=>?_);have:=al gb;replace dC:=(s0.mem _ this).2 dC;replace gb:=s0.aN gb;replace ho:=ho.a7 s0;replace ed:=(s0.mem _ (al hW.at_)).2 ed;replace hW:=hW.a7 s0;replace hR:=hR.a7 s0;replace hM:=s0.lt hM;have:=S.size;replace S:=S.aw s0;refine ah rfl rfl (ad (ak (ak (aj ?_))));refine ax (M:=M) (A:=RT.en) (B:=RT.dc) cA rfl rfl jW (by decide) Il rfl rfl (by decide) cG (ao _ _) (fun tP jc=>?_);refine b7 (M:=M) (A:=RT.dc) aJ rfl jW (by decide) rfl rfl rfl jc (ao _ _) (fun vF k4=>?_);refine aT rfl rfl WO (Fa _ hM k4 hl) (fun r2 w2 hc=>?_);obtain⟨rfl,s2⟩:=hc;have:=al gb;replace dC:=(s2.mem _ this).2 dC;replace gb:=s2.aN gb;replace cG:=cG.le (by decide) s2.le;replace ho:=ho.a7 s2;replace ed:=(s2.mem _ (al hW.at_)).2 ed;replace hW:=hW.a7 s2;replace hR:=hR.a7 s2;replace hM:=s2.lt hM;have:=S.size;replace S:=S.aw s2;refine ah rfl rfl (ad (ak (aj (ae rfl rfl (dW rfl rfl rfl (ad ?_))))));refine bK rfl (fun c2=>?_) (fun c2=>?_)
 ·refine ak (aj (ae rfl rfl (ah rfl rfl (ad (aM ?_)))));have ea:kE last e=lu e.1:=if_pos c2;exact aS rfl rfl ⟨_,hM,S,by rw[ea],fun _=>⟨mb,vl,es,clock,gb,dC,ed,hB,Cm,ho,hW,hR,zl⟩,fun h=>absurd (ea▸h) c2⟩
 ·have hF:gz e.1:=Co (by simpa using c2);refine aU (ak (ak ?_));apply jK mixed rfl rfl;intro TA Mo;have sh:=Mo M;have:=al gb;replace dC:=(sh.mem _ this).2 dC;replace gb:=sh.aN gb;replace cG:=cG.le (by decide) sh.le;replace ho:=ho.a7 sh;replace ed:=(sh.mem _ (al hW.at_)).2 ed;replace hW:=hW.a7 sh;replace hR:=hR.a7 sh;replace hM:=sh.lt hM;have:=S.size;replace S:=S.aw sh;refine ax (M:=M) (A:=RT.en) (B:=RT.int .i64) cA rfl rfl I3 (by decide) PX rfl rfl (by decide) cG (ao _ _) (fun Io zc=>?_);refine ad ⟨rfl,rfl,rfl,?_⟩;refine b4 (M:=M) ay rfl rfl (by assumption) (by repeat (first|exact ao _ _|refine aV (br (by assumption)) ?_)) (fun J4=>?_);refine bI (v':= .int .i64 (e.2)) rfl ?_;replace J4: -9223372036854775808≤(e.2:Int)∧e.2≤9223372036854775807:=J4;refine ad ⟨rfl,rfl,rfl,?_⟩;refine ae rfl rfl ?_;refine ad ⟨rfl,rfl,rfl,?_⟩;refine bZ rfl ⟨_,rfl⟩ rfl ?_;refine ad ⟨rfl,rfl,rfl,?_⟩;refine bH (o':=3) dn rfl rfl I3 (by decide) rfl rfl ?_;refine ad ⟨rfl,rfl,rfl,?_⟩;refine aX ay rfl rfl rfl (by first|assumption|exact cQ sh (by assumption)) rfl ?_;refine ad ⟨rfl,rfl,rfl,?_⟩;refine fh rfl rfl rfl ?_;refine ad ⟨rfl,rfl,rfl,?_⟩;refine dr ?_;refine bK rfl (fun c4=>?_) (fun c4=>?_)
  ·refine ak (aj (ah rfl rfl (ad (aM ?_))));have ea:kE last e=12:=by unfold kE;rw[if_neg (fun h=>h (by simpa using c2)),if_pos c4]
   exact aS rfl rfl ⟨_,hM,S,by rw[ea],fun _=>⟨mb,vl,es,clock,gb,dC,ed,hB,Cm,ho,hW,hR,zl⟩,fun h=>absurd (ea▸h) (by decide)⟩
  ·refine aU (ak (aj ?_));refine ax (M:=M) (A:=RT.en) (B:=RT.dc) cA rfl rfl jW (by decide) Il rfl rfl (by decide) cG (ao _ _) (fun Qa Fj=>?_);refine b7 (M:=M) (A:=RT.dc) aJ rfl jW (by decide) rfl rfl rfl Fj (ao _ _) (fun LU tS=>?_);refine aT rfl rfl WQ (zL _ hM tS hF hl) (fun r6 w6 hc=>?_);obtain⟨a6,b6,rfl,ha,nR,s6⟩:=hc;have:=al gb;replace dC:=(s6.mem _ this).2 dC;replace gb:=s6.aN gb;replace cG:=cG.le (by decide) s6.le;replace ho:=ho.a7 s6;replace ed:=(s6.mem _ (al hW.at_)).2 ed;replace hW:=hW.a7 s6;replace hR:=hR.a7 s6;replace hM:=s6.lt hM;have:=S.size;replace S:=S.aw s6;refine ae rfl rfl (bR rfl rfl rfl (bR rfl rfl rfl (ah rfl rfl (ah rfl rfl (ad (ak (ak (aj (ae rfl rfl (bz bG rfl ha rfl (ae rfl rfl ?_)))))))))));refine ad (aW ?_);refine cX (σ:=Nat) (fun q=>[(0,.pointer (some ⟨b,0,none⟩)),(3,u0),(7,b6),(30,a6),(31,.int .i64 ((bV (k7 e)).length:Int)),(32,.int .i64 (q:Int))]) (fun q w=>∃M' es clock,Lt M' w∧Step M w0 M' w (F5 M Z)∧cf RT.en M' w u0 e∧(RT.fd.sl).V M' w (bV (k7 e)) a6∧(((RT.int .i64).sl).sl).V M' w ((bV (k7 e)).map (posOf (k7 e))) b6∧Buf Z M' w B b mb vl L words last (F6 L (k7 e) q) (fun x=>x∈fU L∨x∈((bV (k7 e)).take q).map dp) es clock∧q≤(bV (k7 e)).length) (fun q=>(bV (k7 e)).length-q) 0 (.cons rfl (.cons rfl (.cons rfl (.cons rfl (.cons rfl (.cons rfl .nil)))))) ?_ ?_
   ·exact⟨_,es,clock,hM,S,cG,ha,nR,⟨gb,dC,ed,hB,Cm,ho,hW,hR.congr (fun k=>F7 _ _ _) (fun k=>by simp),zl⟩,bC _⟩
   ·clear hM S cG ha nR gb dC ed ho hW hR;rintro i w ⟨M1,es,clock,hM,S,cG,ha,nR,⟨gb,dC,ed,_,_,ho,hW,hR,_⟩,hi⟩;refine ak (aj (cj rfl rfl rfl (ad (ak ?_))));refine bK rfl (fun c8=>?_) (fun c8=>?_)
    ·refine aU (ak (aW (ak (aj (ae rfl rfl ?_)))));refine cb (M:=M1) bG ja rfl rfl rfl ha (ao _ _) (by omega) (fun WT t JS Gc=>?_);rw[aB]at JS;have HX:=aH JS;have Er:=hF.term HX;refine b7 (M:=M1) (A:=RT.fd) bA rfl ja (by decide) rfl rfl rfl Gc (ao _ _) (fun WU Gd=>?_);obtain rfl:=iS Gd;refine dL M1 ja rfl (fun uk PA aeC aeD mA nC=>?_);obtain⟨rH,Ge⟩:∃M',M'=ins M1 uk:=⟨_,rfl⟩;rw[←Ge]at nC;have yb:rH uk:=by rw[Ge];exact .inl rfl
     change PA.heap[uk]? =some (.cells #[.string ⟨#[]⟩,.string ⟨#[]⟩] _ _)at mA;have:=al gb;replace dC:=(nC.mem _ this).2 dC;replace gb:=nC.aN gb;replace cG:=cG.le (by decide) nC.le;replace ha:=ha.le nC.le;replace nR:=nR.le nC.le;replace ho:=ho.a7 nC;replace ed:=(nC.mem _ (al hW.at_)).2 ed;replace hW:=hW.a7 nC;replace hR:=hR.a7 nC;replace hM:=nC.lt hM;have:=S.size;replace S:=S.aw nC;refine ah rfl rfl ?_;refine dx (M:=rH) (vs:=[.string ⟨t.1.toArray⟩,.string ⟨t.2.toArray⟩]) ja rfl rfl (uh rfl Gd) rfl rfl mA yb (fun w9 g9 s9=>?_);have:=al gb;replace dC:=(s9.mem _ this).2 dC;replace gb:=s9.bM gb (fun hk=>by have hk:_=_:=hk;omega);have:=al mA;replace yb:=(s9.mem _ this).2 yb;replace cG:=cG.le (by decide) s9.le;replace ha:=ha.le s9.le;replace nR:=nR.le s9.le;replace ho:=ho.step s9 (fun c hc (h:_=_)=>by first|exact ho.ep gb (by decide) (h▸hc)|exact ho.ep mA (by decide) (h▸hc));replace ed:=(s9.mem _ (al hW.at_)).2 ed;replace hW:=hW.step s9 (by first|exact fun h=>ho.jo hW.at_ h|exact fun(h:mb=b)=>JX h.symm|exact fun(h:mb=uk)=>by have h9:=hW.at_;rw[h,mA]at h9;cases h9);replace hR:=hR.step s9 (by first|exact fun k v c hv hc h=>(hR.o k v hv).ia ho (by decide) hc h|exact fun k v c hv hc (h:c=b)=>(hR.o k v hv).ep gb (by decide) (h▸hc)|exact fun k v c hv hc (h:c=uk)=>(hR.o k v hv).ep mA (by decide) (h▸hc));replace hM:=s9.lt hM;have:=S.size;replace S:=S.trans s9 (fun k hk h=>by have h:_=_:=h;subst h;first|(exfalso;omega)|(show _≤_;omega)|exact⟨by first|omega|assumption,(S.mem _ hk).1 ((s9.mem _ (al mA)).1 yb)⟩|exact .inl rfl|exact .inr rfl|exact .inr (.inl rfl)|exact .inr (.inr rfl)|exact rfl);have J5:=g9;clear mA;have mA:=J5;clear J5;refine ad (ak (aj (eX (vs:=[.string ⟨t.1.toArray⟩,.string ⟨t.2.toArray⟩]) bA rfl ja rfl rfl rfl mA ?_)));refine aT rfl rfl Tn (FE (t:=t) _ hM (by omega) (by omega)) (fun VY VZ hc=>?_)
     obtain⟨rfl,p8⟩:=hc;have:=al gb;replace dC:=(p8.mem _ this).2 dC;replace gb:=p8.aN gb;replace cG:=cG.le (by decide) p8.le;replace ha:=ha.le p8.le;replace nR:=nR.le p8.le;replace ho:=ho.a7 p8;replace ed:=(p8.mem _ (al hW.at_)).2 ed;replace hW:=hW.a7 p8;replace hR:=hR.a7 p8;replace hM:=p8.lt hM;have:=S.size;replace S:=S.aw p8;refine ah rfl rfl (ad ?_);obtain⟨v10,oy⟩:=dH.ex jn es (sv (dp t));apply vq 21 [0,1,2,3,4,5,6,7,8,9,10] 2 (iH v10) mixed rfl rfl rfl rfl;intro DA Gf;have gA:=Gf rH;have:=al gb;replace dC:=(gA.mem _ this).2 dC;replace gb:=gA.aN gb;replace cG:=cG.le (by decide) gA.le;replace ha:=ha.le gA.le;replace nR:=nR.le gA.le;replace ho:=ho.a7 gA;replace ed:=(gA.mem _ (al hW.at_)).2 ed;replace hW:=hW.a7 gA;replace hR:=hR.a7 gA;replace hM:=gA.lt hM;have:=S.size;replace S:=S.aw gA;refine ae rfl rfl ?_;refine ad ⟨rfl,rfl,rfl,?_⟩;refine bZ rfl ⟨_,rfl⟩ rfl ?_;refine ad ⟨rfl,rfl,rfl,?_⟩;refine bH (o':=1) dn rfl rfl Bq (by decide) rfl rfl ?_;refine ad ⟨rfl,rfl,rfl,?_⟩;refine aX ga rfl rfl rfl (by first|assumption|exact cQ gA (by assumption)) rfl ?_;refine ad ⟨rfl,rfl,rfl,?_⟩;refine ae rfl rfl ?_;refine ad ⟨rfl,rfl,rfl,?_⟩;refine ae rfl rfl ?_;refine ad ⟨rfl,rfl,rfl,?_⟩;refine bZ rfl ⟨_,rfl⟩ rfl ?_;refine ad ⟨rfl,rfl,rfl,?_⟩;refine bH (o':=1) dn rfl rfl Bq (by decide) rfl rfl ?_;refine ad ⟨rfl,rfl,rfl,?_⟩;refine aX ga rfl rfl rfl (by first|assumption|exact cQ gA (by assumption)) rfl ?_;refine ad ⟨rfl,rfl,rfl,?_⟩;refine ae rfl rfl ?_;refine ad ⟨rfl,rfl,rfl,?_⟩;obtain⟨kl,DV⟩:=F4 (dp t) (by unfold dp;simp;omega);refine Rg.qa ga qf jQ rfl rfl rfl DV hW (fun WV WW=>?_);obtain rfl:v10=WV:=hW.val_one oy WW
     have yv:=IQ hLF (k7 e) i (dp t);have Hx:(bV (k7 e)).length≤500:=xc hF;refine ad ⟨rfl,rfl,rfl,?_⟩;refine ae rfl rfl ?_;refine ad ⟨rfl,rfl,rfl,?_⟩;refine bZ rfl ⟨_,rfl⟩ rfl ?_;refine ad ⟨rfl,rfl,rfl,?_⟩;refine bH (o':=0) dn rfl rfl QK (by decide) rfl rfl ?_;refine ad ⟨rfl,rfl,rfl,?_⟩;refine aX cZ rfl rfl rfl (by first|assumption|exact cQ gA (by assumption)) rfl ?_;refine ad ⟨rfl,rfl,rfl,?_⟩;refine ie cZ rfl ho rfl ?_;refine ad ⟨rfl,rfl,rfl,?_⟩;refine ae rfl rfl ?_;refine ad ⟨rfl,rfl,rfl,?_⟩;refine ae rfl rfl ?_;refine ad ⟨rfl,rfl,rfl,?_⟩;refine cb (M:=rH) Tryz.underlying171 jE rfl rfl rfl nR (ao _ _) (by simp;omega) (fun u18 ps QL Mp=>?_);rw[aB,o2,JS]at QL;obtain rfl:=aQ QL;refine ad ⟨rfl,rfl,rfl,?_⟩;refine bw (M:=rH) au rfl rfl rfl rfl rfl Mp (ao _ _) (fun v19 IS=>?_);refine ad ⟨rfl,rfl,rfl,?_⟩;refine eM (places:=[(0,1),(1,1)]) bm eN EH rfl ⟨_,_,rfl,rfl,_,_,rfl,rfl,rfl⟩ (out:=[_,_]) ⟨0,[_],rfl,rfl,by simp[Value.cells],1,[_],rfl,gw IS,by simp[Value.cells],rfl⟩ ?_;have yc:RT.po.V rH _ ((L.length:Int),posOf (k7 e) t) _:=dR (fO (by omega)) IS rfl rfl rfl rfl;refine ad ⟨rfl,rfl,rfl,?_⟩;refine dr ?_;have oO:=hR.o _ _ oy;refine⟨eV ⟨fy,⟨bJ.nilCheck rfl,⟨fV dn rfl Bq (by decide),⟨dS rfl gb (fun h=>oO.ep gb (by decide) h),⟨fy,⟨fy,⟨bJ.nilCheck rfl,⟨fV dn rfl Bq (by decide),⟨dS rfl gb (fun h=>oO.ep gb (by decide) h),⟨fy,⟨bJ.qa ga qf jQ rfl rfl DV hW (fun h=>oO.jo hW.at_ h),trivial⟩⟩⟩⟩⟩⟩⟩⟩⟩⟩⟩,?_⟩;have kp:=fY (iH v10) DA;refine dQ (A:=RT.po) (hn:=by decide) (M:=rH) aR eN (by decide) rfl rfl hM (yc) (.inl rfl) (fun WX WY IT kF=>?_)
     have:=al gb;replace dC:=(kF.mem _ this).2 dC;replace gb:=kF.aN gb;replace cG:=cG.le (by decide) kF.le;replace ha:=ha.le kF.le;replace nR:=nR.le kF.le;replace ho:=ho.a7 kF;replace ed:=(kF.mem _ (al hW.at_)).2 ed;replace hW:=hW.a7 kF;replace hR:=hR.a7 kF;replace hM:=kF.lt hM;have:=S.size;replace S:=S.aw kF;refine(fun(kp:dO _ _ _)=>ad ⟨rfl,rfl,fun _=>kp,?_⟩) (by first|exact kp|exact kp.nZ (by assumption)|exact kp.goN (by assumption)|exact kp.go (by assumption) (fun _ _ h=>by first|exact h|exact h.elim));refine Rg.ju (M:=rH) (base:=B) aR eN rfl rfl rfl rfl (hR.o _ _ oy) IT (ao _ _) (by simp;omega) (by simp;omega) (by have:=S.size;omega) (fun v22 w22 WZ Gg W0=>?_);have oO:=hR.o _ _ oy;have aa1:=hW.at_;have QM:v10.ownBlock≠some mb:=oO.jo hW.at_;have J6:=ho.step Gg (fun c hc h=>ho.ia oO (by decide) hc h);have Br:=(Gg.mem _ (al hW.at_)).2 ed;have IU:=hW.step Gg QM;have QN:=Gg.bM gb (fun h=>oO.ep gb (by decide) h);have Mq:=(Gg.mem _ (al gb)).2 dC;have S22:=S.trans Gg (fun k hk h=>⟨hR.z _ _ k oy h,(S.mem k hk).1 (oO.mut_ k h)⟩);have W2:=Gg.lt hM;replace cG:=cG.le (by decide) Gg.le;replace ha:=ha.le Gg.le;replace nR:=nR.le Gg.le;refine(fun(kp:dO _ _ _)=>ad ⟨rfl,rfl,fun _=>kp,?_⟩) (by first|exact kp|exact kp.nZ (by assumption)|exact kp.goN (by assumption)|exact kp.go (by assumption) (fun _ _ h=>by first|exact h|exact h.elim));refine Rg.IE ga qf rfl rfl rfl DV IU Br (fun w23 W3 W4 W5 W6 Mt HB=>?_);have W7:=hR.put (fun c hc=>hZ c (by have:=S.size;omega)) oy WZ Gg W0 IU.at_ HB Mt W6;replace cG:=cG.le (by decide) HB.le;replace ha:=ha.le HB.le;replace nR:=nR.le HB.le;have W8:=J6.step HB (fun c hc (h:c=mb)=>J6.jo IU.at_ (h▸hc));have W9:=HB.bM QN JX;have Mu:=(HB.mem _ (al QN)).2 Mq
     have Mv:=(HB.mem _ (al IU.at_)).2 Br;have Xa:=HB.lt W2;have S23:=S22.trans HB (fun k hk (h:k=mb)=>⟨by rw[h];exact Cm,(S22.mem k hk).1 (by rw[h];exact Br)⟩);refine ad ⟨rfl,rfl,fun h=>absurd rfl h,?_⟩;refine jJ (aj (bE rfl rfl rfl (by omega) (ae rfl rfl (ad ?_))));refine⟨rfl,i+1,(.cons rfl (.cons rfl (.cons rfl (.cons rfl (.cons rfl (.cons rfl .nil)))))),?_,?_⟩
     ·exact⟨_,W3,W4,Xa,S23,cG,ha,nR,⟨W9,Mu,Mv,hB,Cm,W8,W5,W7.congr (fun k=>F8 JS k) (fun k=>by rw[bc,JS,bY,dF,cY,or_assoc];simp),zl⟩,by omega⟩
     ·omega
    ·refine cK (ak ?_);apply vq 6 [0,1,2,3,4] 3 (iH vl) mixed rfl rfl rfl rfl;intro LI LJ;have mn:=LJ M1;have:=al gb;replace dC:=(mn.mem _ this).2 dC;replace gb:=mn.aN gb;replace cG:=cG.le (by decide) mn.le;replace ha:=ha.le mn.le;replace nR:=nR.le mn.le;replace ho:=ho.a7 mn;replace ed:=(mn.mem _ (al hW.at_)).2 ed;replace hW:=hW.a7 mn;replace hR:=hR.a7 mn;replace hM:=mn.lt hM;have:=S.size;replace S:=S.aw mn;refine ae rfl rfl ?_;refine ad ⟨rfl,rfl,rfl,?_⟩;refine ae rfl rfl ?_;refine ad ⟨rfl,rfl,rfl,?_⟩;refine bZ rfl ⟨_,rfl⟩ rfl ?_;refine ad ⟨rfl,rfl,rfl,?_⟩;refine bH (o':=0) dn rfl rfl QK (by decide) rfl rfl ?_;refine ad ⟨rfl,rfl,rfl,?_⟩;refine aX cZ rfl rfl rfl gb rfl (bI (v':=vl) rfl ?_);refine ad ⟨rfl,rfl,rfl,?_⟩;refine b7 (M:=M1) (A:=RT.en) cA rfl vD (by decide) rfl rfl rfl cG (ao _ _) (fun JP xW=>?_);refine ad ⟨rfl,rfl,rfl,?_⟩;refine dr ?_;refine⟨eV ⟨fy,⟨fy,⟨bJ.nilCheck rfl,⟨fV dn rfl QK (by decide),⟨dS rfl gb (fun h=>ho.ep gb (by decide) h),trivial⟩⟩⟩⟩⟩,?_⟩;have kp:=fY (iH vl) LI;refine aT rfl rfl WR (FU _ hM xW (by have:=hF.few;omega)) (fun aa3 w13 hc=>?_);obtain⟨Bs,AB⟩:=hc;have:=al gb;replace dC:=(AB.mem _ this).2 dC;replace gb:=AB.aN gb;replace cG:=cG.le (by decide) AB.le;replace ha:=ha.le AB.le;replace nR:=nR.le AB.le;replace ho:=ho.a7 AB;replace ed:=(AB.mem _ (al hW.at_)).2 ed;replace hW:=hW.a7 AB;replace hR:=hR.a7 AB;replace hM:=AB.lt hM;have:=S.size;replace S:=S.aw AB;refine(fun(kp:dO _ _ _)=>ad ⟨rfl,rfl,fun _=>kp,?_⟩) (by first|exact kp|exact kp.nZ (by assumption)|exact kp.goN (by assumption)|exact kp.go (by assumption) (fun _ _ h=>by first|exact h|exact h.elim));refine dQ (A:=RT.en) (hn:=by decide) (M:=M1) cZ vD (by decide) rfl rfl hM (Bs) (.inl rfl) (fun aa4 aa5 Mw mV=>?_)
     have:=al gb;replace dC:=(mV.mem _ this).2 dC;replace gb:=mV.aN gb;replace cG:=cG.le (by decide) mV.le;replace ha:=ha.le mV.le;replace nR:=nR.le mV.le;replace Bs:=Bs.le mV.le;replace ho:=ho.a7 mV;replace ed:=(mV.mem _ (al hW.at_)).2 ed;replace hW:=hW.a7 mV;replace hR:=hR.a7 mV;replace hM:=mV.lt hM;have:=S.size;replace S:=S.aw mV;refine(fun(kp:dO _ _ _)=>ad ⟨rfl,rfl,fun _=>kp,?_⟩) (by first|exact kp|exact kp.nZ (by assumption)|exact kp.goN (by assumption)|exact kp.go (by assumption) (fun _ _ h=>by first|exact h|exact h.elim));refine Rg.ju (M:=M1) (base:=B) cZ vD rfl rfl rfl rfl ho Mw (ao _ _) (by simp;omega) (by simp;omega) (by have:=S.size;omega) (fun zP aa6 Mx rI Xb=>?_);replace dC:=(rI.mem _ (al gb)).2 dC
     have zl':∀c,zP.ownBlock=some c→Z c:=fun c hc=>by
      rcases Xb c hc with h|h
      ·exact hZ c (by have:=S.size;omega)
      ·exact zl c h
     replace hR:=hR.step rI (fun k v c hv hc h=>(hR.o k v hv).ia ho (by decide) hc h);replace ed:=(rI.mem _ (al hW.at_)).2 ed;replace hW:=hW.step rI (fun h=>ho.jo hW.at_ h);replace gb:=rI.bM gb (fun h=>ho.ep gb (by decide) h);replace cG:=cG.le (by decide) rI.le;replace S:=S.trans rI (fun k hk h=>⟨zl k h,(S.mem k hk).1 (ho.mut_ k h)⟩);replace hM:=rI.lt hM;replace ho:=Mx;obtain⟨J7,Xc⟩:∃M',M'=jL M1 zP:=⟨_,rfl⟩;rw[←Xc]at hR ed cG S hM ho dC;refine(fun(kp:dO _ _ _)=>ad ⟨rfl,rfl,fun _=>kp,?_⟩) (by first|exact kp|exact kp.nZ (by assumption)|exact kp.goN (by assumption)|exact kp.go (by assumption) (fun _ _ h=>by first|exact h|exact h.elim));refine bZ rfl ⟨_,rfl⟩ rfl ?_;refine ad ⟨rfl,rfl,fun h=>absurd rfl h,?_⟩;refine bH (o':=0) dn rfl rfl QK (by decide) rfl rfl ?_;refine ad ⟨rfl,rfl,fun h=>absurd rfl h,?_⟩;refine cu (M:=J7) QK rfl rfl gb rfl (by obtain⟨_,_,he,_⟩:=ho.isSlice;rw[he];rfl) dC (fun My Gh mB=>?_);change My.heap[_]? =some (Obj.cells #[zP,.map (some mb),.int .i64 words,.int .i64 last] _ _)at Gh;have:=al gb;replace dC:=(mB.mem _ this).2 dC;replace cG:=cG.le (by decide) mB.le;replace ho:=ho.step mB (fun c hc (h:_=_)=>by first|exact ho.ep gb (by decide) (h▸hc)|exact ho.ep mA (by decide) (h▸hc));replace ed:=(mB.mem _ (al hW.at_)).2 ed;replace hW:=hW.step mB (by first|exact fun h=>ho.jo hW.at_ h|exact fun(h:mb=b)=>JX h.symm|exact fun(h:mb=uk)=>by have h9:=hW.at_;rw[h,mA]at h9;cases h9);replace hR:=hR.step mB (by first|exact fun k v c hv hc h=>(hR.o k v hv).ia ho (by decide) hc h|exact fun k v c hv hc (h:c=b)=>(hR.o k v hv).ep gb (by decide) (h▸hc)|exact fun k v c hv hc (h:c=uk)=>(hR.o k v hv).ep mA (by decide) (h▸hc));replace hM:=mB.lt hM;have:=S.size;replace S:=S.trans mB (fun k hk h=>by have h:_=_:=h;subst h;first|(exfalso;omega)|(show _≤_;omega)|exact⟨by first|omega|assumption,(S.mem _ hk).1 ((mB.mem _ (al gb)).1 dC)⟩|exact .inl rfl|exact .inr rfl|exact .inr (.inl rfl)|exact .inr (.inr rfl)|exact rfl)
     have FC:=Gh;clear gb;have gb:=FC;clear FC;refine ad ⟨rfl,rfl,fun h=>absurd rfl h,?_⟩;refine jJ (ak ?_);apply vq 6 [0,1,2,3] 1 aD mixed rfl rfl rfl rfl;intro MB Gi;have oz:=Gi J7;have:=al gb;replace dC:=(oz.mem _ this).2 dC;replace gb:=oz.aN gb;replace cG:=cG.le (by decide) oz.le;replace ho:=ho.a7 oz;replace ed:=(oz.mem _ (al hW.at_)).2 ed;replace hW:=hW.a7 oz;replace hR:=hR.a7 oz;replace hM:=oz.lt hM;have:=S.size;replace S:=S.aw oz;refine ae rfl rfl ?_;refine ad ⟨rfl,rfl,rfl,?_⟩;refine bZ rfl ⟨_,rfl⟩ rfl ?_;refine ad ⟨rfl,rfl,rfl,?_⟩;refine bH (o':=2) dn rfl rfl I3 (by decide) rfl rfl ?_;refine ad ⟨rfl,rfl,rfl,?_⟩;refine aX ay rfl rfl rfl (by first|assumption|exact cQ oz (by assumption)) rfl ?_;refine ad ⟨rfl,rfl,rfl,?_⟩;refine ax (M:=J7) (A:=RT.en) (B:=RT.dc) cA rfl rfl jW (by decide) Il rfl rfl (by decide) cG (ao _ _) (fun aa7 MC=>?_);refine ad ⟨rfl,rfl,rfl,?_⟩;refine b7 (M:=J7) (A:=RT.dc) aJ rfl jW (by decide) rfl rfl rfl MC (ao _ _) (fun aa8 MD=>?_);refine ad ⟨rfl,rfl,rfl,?_⟩;refine dr ?_;refine⟨eV ⟨fy,⟨bJ.nilCheck rfl,⟨fV dn rfl I3 (by decide),⟨dS rfl gb (fun h=>h),trivial⟩⟩⟩⟩,?_⟩;have kp:=fY aD MB;refine aT rfl rfl WS (zw _ hM MD hl hF.few) (fun r14 Qh hc=>?_);obtain⟨rfl,jG⟩:=hc;have:=al gb;replace dC:=(jG.mem _ this).2 dC;replace gb:=jG.aN gb;replace cG:=cG.le (by decide) jG.le;replace ho:=ho.a7 jG;replace ed:=(jG.mem _ (al hW.at_)).2 ed;replace hW:=hW.a7 jG;replace hR:=hR.a7 jG;replace hM:=jG.lt hM;have:=S.size;replace S:=S.aw jG;refine(fun(kp:dO _ _ _)=>ad ⟨rfl,rfl,fun _=>kp,?_⟩) (by first|exact kp|exact kp.nZ (by assumption)|exact kp.goN (by assumption)|exact kp.go (by assumption) (fun _ _ h=>by first|exact h|exact h.elim))
     have:=hF.many;refine bE rfl rfl rfl (by omega) ?_;refine ad ⟨rfl,rfl,fun h=>absurd rfl h,?_⟩;refine bZ rfl ⟨_,rfl⟩ rfl ?_;refine ad ⟨rfl,rfl,fun h=>absurd rfl h,?_⟩;refine bH (o':=2) dn rfl rfl I3 (by decide) rfl rfl ?_;refine ad ⟨rfl,rfl,fun h=>absurd rfl h,?_⟩;refine cu (M:=J7) I3 rfl rfl gb rfl (rfl) dC (fun ME Gj mC=>?_);change ME.heap[_]? =some (Obj.cells #[zP,.map (some mb),.int .i64 (words+((k7 e).length:Int)),.int .i64 last] _ _)at Gj;have:=al gb;replace dC:=(mC.mem _ this).2 dC;replace cG:=cG.le (by decide) mC.le;replace ho:=ho.step mC (fun c hc (h:_=_)=>by first|exact ho.ep gb (by decide) (h▸hc)|exact ho.ep mA (by decide) (h▸hc));replace ed:=(mC.mem _ (al hW.at_)).2 ed;replace hW:=hW.step mC (by first|exact fun h=>ho.jo hW.at_ h|exact fun(h:mb=b)=>JX h.symm|exact fun(h:mb=uk)=>by have h9:=hW.at_;rw[h,mA]at h9;cases h9);replace hR:=hR.step mC (by first|exact fun k v c hv hc h=>(hR.o k v hv).ia ho (by decide) hc h|exact fun k v c hv hc (h:c=b)=>(hR.o k v hv).ep gb (by decide) (h▸hc)|exact fun k v c hv hc (h:c=uk)=>(hR.o k v hv).ep mA (by decide) (h▸hc));replace hM:=mC.lt hM;have:=S.size;replace S:=S.trans mC (fun k hk h=>by have h:_=_:=h;subst h;first|(exfalso;omega)|(show _≤_;omega)|exact⟨by first|omega|assumption,(S.mem _ hk).1 ((mC.mem _ (al gb)).1 dC)⟩|exact .inl rfl|exact .inr rfl|exact .inr (.inl rfl)|exact .inr (.inr rfl)|exact rfl);have FC:=Gj;clear gb;have gb:=FC;clear FC;refine ad ⟨rfl,rfl,fun h=>absurd rfl h,?_⟩;refine jJ (ak (aj (ae rfl rfl ?_)));refine ax (M:=J7) (A:=RT.en) (B:=RT.int .i64) cA rfl rfl I3 (by decide) PX rfl rfl (by decide) cG (ao _ _) (fun aa9 Xd=>?_);refine b4 (M:=J7) ay rfl rfl (by assumption) (by repeat (first|exact ao _ _|refine aV (br (by assumption)) ?_)) (fun Gk=>?_)
     refine bI (v':= .int .i64 (e.2)) rfl ?_;replace Gk: -9223372036854775808≤(e.2:Int)∧e.2≤9223372036854775807:=Gk;refine bZ rfl ⟨_,rfl⟩ rfl (bH (o':=3) dn rfl rfl I3 (by decide) rfl rfl ?_);refine cu (M:=J7) I3 rfl rfl gb rfl (rfl) dC (fun J8 J9 iF=>?_);change J8.heap[_]? =some (Obj.cells #[zP,.map (some mb),.int .i64 (words+((k7 e).length:Int)),.int .i64 e.2] _ _)at J9;have:=al gb;replace dC:=(iF.mem _ this).2 dC;replace cG:=cG.le (by decide) iF.le;replace ho:=ho.step iF (fun c hc (h:_=_)=>by first|exact ho.ep gb (by decide) (h▸hc)|exact ho.ep mA (by decide) (h▸hc));replace ed:=(iF.mem _ (al hW.at_)).2 ed;replace hW:=hW.step iF (by first|exact fun h=>ho.jo hW.at_ h|exact fun(h:mb=b)=>JX h.symm|exact fun(h:mb=uk)=>by have h9:=hW.at_;rw[h,mA]at h9;cases h9);replace hR:=hR.step iF (by first|exact fun k v c hv hc h=>(hR.o k v hv).ia ho (by decide) hc h|exact fun k v c hv hc (h:c=b)=>(hR.o k v hv).ep gb (by decide) (h▸hc)|exact fun k v c hv hc (h:c=uk)=>(hR.o k v hv).ep mA (by decide) (h▸hc));replace hM:=iF.lt hM;have:=S.size;replace S:=S.trans iF (fun k hk h=>by have h:_=_:=h;subst h;first|(exfalso;omega)|(show _≤_;omega)|exact⟨by first|omega|assumption,(S.mem _ hk).1 ((iF.mem _ (al gb)).1 dC)⟩|exact .inl rfl|exact .inr rfl|exact .inr (.inl rfl)|exact .inr (.inr rfl)|exact rfl);have FC:=J9;clear gb;have gb:=FC;clear FC;refine ad (ak (aj (ah rfl rfl (ad (aM ?_)))));have ea:kE last e=0:=by unfold kE;rw[if_neg (fun h=>h (by simpa using c2)),if_neg c4]
     exact aS rfl rfl ⟨_,hM,S,by rw[ea],fun h=>absurd ea h,fun _=>⟨mb,_,es,clock,gb,dC,ed,hB,Cm,ho,hW,hR.congr (fun k=>(IP (by omega) k).symm) (fun k=>by rw[ug,cY,aK (by omega)]),zl'⟩⟩
end Go.K
namespace Go.K
open Go.Proofs
namespace TKBldE
theorem jQ:TI Tryz.prog 107 (.slice none 0 0) 1 24:=by unfold TI;kernel_rfl
theorem Bq:TI Tryz.prog 167 (.map none) 1 8:=by unfold TI;kernel_rfl
theorem MF:Enters Tryz.prog 63:=enters Tryz.func63 rfl (by decide)
theorem Xe:Enters Tryz.prog 111:=enters Tryz.func111 rfl (by decide)
theorem Xf:Enters Tryz.prog 112:=enters Tryz.func112 rfl (by decide)
end TKBldE
open TKBldE
set_option maxRecDepth 10000
theorem eD.Cs {P:Program} {kt:TypeId} {w:World} {b clock:Nat} {es:List MapEntry} (hk:P.underlying kt=some .string) (h:eD P kt w b es clock):∃ks:List (List UInt8),es.map (·.key)=ks.map sv∧ks.Nodup:=by
 have key:∀es:List MapEntry,(∀e∈es,∃l,keyOf P kt e.key=some l)→∃ks:List (List UInt8),es.map (·.key)=ks.map sv:=by
  intro es
  induction es with
  |nil=>exact fun _=>⟨[],rfl⟩
  |cons e es ih=>
   intro h;obtain⟨ks,h1⟩:=ih fun x hx=>h x (cv _ hx)
   obtain⟨l,hl⟩:=h e (bX ..);obtain⟨x,h3,_,h4⟩:=Maps.keyOf_str hk hl;exact⟨x::ks,by simp only[gN,h1,h3]⟩
 obtain⟨ks,h1⟩:=key es h.ok;refine⟨ks,h1,?_⟩;have h3:=du.2 h.keys;rw[h1]at h3;exact(du.1 h3).imp fun h e=>h (by rw[e])
theorem zQ {M:aI} {w:World}:∀{l:List (List UInt8)},(∀x∈l,x.length≤140737488355328)→eK RT.str M w l (l.map Go.Proofs.encStr)
 |[],_=>rfl
 |x::l,h=>⟨[.string ⟨x.toArray⟩],_,rfl,⟨rfl,h x (bX ..)⟩,zQ fun y hy=>h y (cv _ hy)⟩
theorem Gl (M:aI) (w:World) (M':aI) (w':World) (x:List UInt8) (vs:List Value) (h:RT.str.R M w x vs):RT.str.R M' w' x vs:=h
theorem rJ {L:List En} (hF:∀x∈L,gz x.1):∀k∈fU L,k.length≤43:=fun k hk=>by
 obtain⟨e,he,h1⟩:=List.mem_flatMap.1 hk;obtain⟨t,ht,rfl⟩:=cq.1 h1;have:=(hF e he).term ht;unfold dp;simp;omega
theorem j3 {L:List En} (hF:∀x∈L,gz x.1):(fU L).length≤500*L.length:=by
 induction L with
 |nil=>simp[fU]
 |cons e L ih=>
  have h1:=ih fun x hx=>hF x (cv _ hx)
  have h2:=xc (hF e (bX ..));show((bV (k7 e)).map dp++fU L).length≤_;rw[bO,cx,cM];have h2:(bV (k7 e)).length≤500:=h2;omega
theorem Bt {Z M:aI} {B b:Nat} {L:List En} {words last:Int} (w0:World) (hM:Lt M w0) (hb:lS Z M w0 B b L words last) (hF:∀x∈L,gz x.1) (hLn:L.length≤1000000):
  Spec Tryz.prog 58 #[.pointer (some ⟨b,0,none⟩)] w0 (fun v w=>(RT.str.sl).V M w (keysOf L) v∧Step M w0 M w aD):=by
 obtain⟨mb,vl,es,clock,gb,dC,ed,hB,Cm,ho,hW,hR,zl⟩:=hb;obtain⟨ks,IC,ot⟩:=hW.Cs aA
 have dZ:∀x,x∈ks↔x∈fU L:=fun x=>by
  rw[←hR.k x];constructor
  ·intro hx;have:sv x∈es.map (·.key):=by rw[IC];exact ez hx
   obtain⟨e,he,h⟩:=cq.1 this;exact⟨e,he,h⟩
  ·rintro⟨e,he,h⟩;have:sv x∈ks.map sv:=by rw[←IC,←h];exact ez he
   obtain⟨y,hy,h1⟩:=cq.1 this;rw[←x7 h1];exact hy
 have TB:ks.length≤500000000:=by
  have h1:=ot.length_le_of_subset (l₂:=fU L) (fun x hx=>(dZ x).1 hx);have h2:=j3 hF;omega
 have hen:es.length=ks.length:=by have:=congrArg List.length IC;simpa using this
 refine bh (args:=[_]) (fn:=Tryz.f58) Tryz.func58 rfl (n:=9) Tryz.ntmps58 ?_;have S:Step M w0 M w0 aD:=(ar _ _).b9 (fun _ h=>h.elim) (fun _ h=>h.elim);refine ak (aj (ah rfl rfl (ad (ak (aj (ae rfl rfl (bZ rfl ⟨_,rfl⟩ rfl (bH (o':=1) dn rfl rfl Bq (by decide) rfl rfl (aX ga rfl rfl rfl gb rfl (bI (v':= .map (some mb)) rfl ?_))))))))));refine aT rfl rfl Xf (Bp _ _) (fun r w1 hc=>?_);obtain⟨rfl,Xg⟩:=hc;have s1:Step M w0 M w1 aD:=by rw[Xg];exact db _ w0 _
 have J0:=vP Xg;have:=al gb;replace dC:=(s1.mem _ this).2 dC;replace gb:=s1.aN gb;replace ed:=(s1.mem _ (al hW.at_)).2 ed;replace hW:=hW.a7 s1;replace hM:=s1.lt hM;have:=S.size;replace S:=S.aw s1;obtain⟨m,hO,QO,qB⟩:=hW.Ww aA ed (by unfold maxLen;omega) ks IC;refine aT rfl rfl Xe (x9 hO J0 (by omega)) (fun r2 w2 hc=>?_);obtain⟨⟨ss,hss,nc,_⟩,s2⟩:=hc;have OQ:ss.Perm ks:=hss.trans QO;have Ub:=List.mergeSort_perm ss fun x y=>decide (x≤y)
 have mT:(ss.mergeSort fun x y=>decide (x≤y))=keysOf L:=Md (Dr (OQ.nodup_iff.2 ot)) (k8 L) fun x=>by rw[Ub.mem_iff,OQ.mem_iff,dZ,iT]
 have hlen:ss.length=(keysOf L).length:=by rw[←mT,List.length_mergeSort]
 rw[mT,hlen]at nc;have Xh:∀x∈keysOf L,x.length≤140737488355328:=fun x hx=>by have:=rJ hF x (iT.1 hx);omega
 have qE:Own RT.str 9 (ov r2) w2 w1.heap.size r2 (keysOf L):=⟨⟨_,nc,zQ Xh⟩,fun b hb=>hb⟩;have qu:(RT.str.sl).V M w2 (keysOf L) r2:=qE.tell Gl (fun b hb h=>by have:=(qE.base b hb).1;have:=hM b h;omega) (by have:=OQ.length_eq;omega);have:=al gb;replace dC:=(s2.mem _ this).2 dC;replace gb:=s2.aN gb;replace ed:=(s2.mem _ (al hW.at_)).2 ed;replace hW:=hW.a7 s2;replace hM:=s2.lt hM;have:=S.size;replace S:=S.aw s2;refine ah rfl rfl (ad (aM ?_));exact aS rfl rfl ⟨qu,S⟩
theorem Bu {Z M:aI} {B b:Nat} {L:List En} {words last:Int} {k:List UInt8} (w0:World) (hM:Lt M w0) (hb:lS Z M w0 B b L words last) (hF:∀x∈L,gz x.1) (hLn:L.length≤1000000) (DV:k.length≤140737488355328):
  Spec Tryz.prog 59 #[.pointer (some ⟨b,0,none⟩),sv k] w0 (fun v w=>(RT.po.sl).V M w (pk L k) v∧Step M w0 M w aD):=by
 have fR:=hM;obtain⟨mb,vl,es,clock,gb,dC,ed,hB,Cm,ho,hW,hR,zl⟩:=hb;obtain⟨kl,KV⟩:=F4 k DV;obtain⟨yv,um⟩:=nP k L 0 hF;replace yv:(pk L k).length≤L.length:=yv;replace um:∀p∈pk L k,_:=um;refine bh (args:=[_,_]) (fn:=Tryz.f59) Tryz.func59 rfl (n:=30) Tryz.ntmps59 ?_;have S:Step M w0 M w0 aD:=(ar _ _).b9 (fun _ h=>h.elim) (fun _ h=>h.elim);refine ak (aj (ah rfl rfl (ad (ak (aj (ah rfl rfl (ad (ak (ak (aj (ae rfl rfl ?_)))))))))));refine bZ rfl ⟨_,rfl⟩ rfl (bH (o':=1) dn rfl rfl Bq (by decide) rfl rfl (aX ga rfl rfl rfl gb rfl (bI (v':= .map (some mb)) rfl (ae rfl rfl ?_))));refine Rg.qa ga qf jQ rfl rfl rfl KV hW (fun Oo oy=>?_);have oO:=hR.o _ _ oy;have HC:∀c,Oo.ownBlock=some c→c<w0.heap.size:=fun c hc=>(oO.base c hc).2
 clear hR hW ho;refine ie aR rfl oO rfl (ae rfl rfl (ad (aW ?_)));refine cX (σ:=Nat×Value) (fun q=>[(5,q.2),(13,Oo),(14,.int .i64 ((pk L k).length:Int)),(15,.int .i64 (q.1:Int))]) (fun q w=>∃M',Lt M' w∧Step M w0 M' w aD∧Own RT.po 153 M' w w0.heap.size q.2 ((pk L k).take q.1)∧Own RT.po 153 M' w B Oo (pk L k)∧q.1≤(pk L k).length) (fun q=>(pk L k).length-q.1) (0,.slice none 0 0) (.cons rfl (.cons rfl (.cons rfl (.cons rfl .nil)))) ?_ ?_
 ·exact⟨M,hM,S,dw _ _ _ _ _,oO,bC _⟩
 ·clear hM S oO;rintro⟨i,u⟩ w ⟨M1,hM,S,hu,oO,hi⟩;dsimp only at hu hi ⊢;refine ak (aj (cj rfl rfl rfl (ad (ak ?_))));refine bK rfl (fun c3=>?_) (fun c3=>?_)
  ·refine aU (ak (aW (ak (aj ?_))));refine Rg.WK aR eN (by decide) rfl rfl rfl oO (by omega) (fun u4 p yw Hz=>?_);rw[aB]at yw;have hp:=um p (aH yw);refine Rg.F3 (A:=RT.po) bm rfl eN rfl rfl rfl Hz (fun v4 nk=>?_);refine sm (A:=RT.po) (M:=M1) eN rfl rfl rfl rfl rfl (by assumption) (ao _ _) hM (fun Lb Lc k3 ox QP=>?_);replace hu:=hu.a7 ox;replace oO:=oO.a7 ox;replace hM:=ox.lt hM;have:=S.size;replace S:=S.aw ox;refine ad ?_;apply vq 5 [0,1,2] 3 aD mixed rfl rfl rfl rfl;intro Oq MG;have qY:=MG M1;replace k3:=k3.le (by decide) qY.le;replace hu:=hu.a7 qY;replace oO:=oO.a7 qY;replace hM:=qY.lt hM;have:=S.size;replace S:=S.aw qY;refine ae rfl rfl ?_;refine ad ⟨rfl,rfl,rfl,?_⟩;refine ax (M:=M1) (A:=RT.po) (B:=RT.int .i64) bm rfl rfl I3 (by decide) (B6) rfl rfl (by decide) (by assumption) (by repeat (first|exact ao _ _|refine aV (br (by assumption)) ?_)) (fun P3 Fe=>?_);refine ad ⟨rfl,rfl,rfl,?_⟩;refine b4 (M:=M1) ay rfl rfl (by assumption) (by repeat (first|exact ao _ _|refine aV (br (by assumption)) ?_)) (fun Ka=>?_);refine ad ⟨rfl,rfl,rfl,?_⟩;refine ax (M:=M1) (A:=RT.po) (B:=(RT.int .i64).sl) bm rfl rfl jE (by decide) (H2) rfl rfl (by decide) (by assumption) (by repeat (first|exact ao _ _|refine aV (br (by assumption)) ?_)) (fun VH Ca=>?_);refine ad ⟨rfl,rfl,rfl,?_⟩;refine bw (M:=M1) au rfl rfl rfl rfl rfl (by assumption) (by repeat (first|exact ao _ _|refine aV (br (by assumption)) ?_)) (fun aeK QQ=>?_);refine ad ⟨rfl,rfl,rfl,?_⟩;refine dr ?_;obtain⟨bb,oo,cs,ee,fr,rfl,kf,_⟩:=Fe.float;refine⟨eV ⟨fy,⟨fV bm rfl I3 (by decide),⟨dS rfl kf (fun h=>h),trivial⟩⟩⟩,?_⟩
   have kp:=fY aD Oq;refine aT rfl rfl MF (nQ hM QQ (by omega)) (fun v5 w5 hc=>?_);obtain⟨oN,s5⟩:=hc;replace k3:=k3.le (by decide) s5.le;replace hu:=hu.a7 s5;replace oO:=oO.a7 s5;replace hM:=s5.lt hM;have:=S.size;replace S:=S.aw s5;refine(fun(kp:dO _ _ _)=>ad ⟨rfl,rfl,fun _=>kp,?_⟩) (by first|exact kp|exact kp.nZ (by assumption)|exact kp.goN (by assumption)|exact kp.go (by assumption) (fun _ _ h=>by first|exact h|exact h.elim));refine eM (places:=[(0,1),(1,1)]) bm eN EH rfl ⟨_,_,rfl,rfl,_,_,rfl,rfl,rfl⟩ (out:=[_,_]) ⟨0,[_],rfl,rfl,by simp[Value.cells],1,[_],rfl,gw oN,by simp[Value.cells],rfl⟩ ?_;have yc:RT.po.V M1 _ p _:=dR (fO Ka) oN rfl rfl rfl rfl;refine(fun(kp:dO _ _ _)=>ad ⟨rfl,rfl,fun _=>kp,?_⟩) (by first|exact kp|exact kp.nZ (by assumption)|exact kp.goN (by assumption)|exact kp.go (by assumption) (fun _ _ h=>by first|exact h|exact h.elim));refine dQ (A:=RT.po) (hn:=by decide) (M:=M1) aR eN (by decide) rfl rfl hM (yc) (.inl rfl) (fun aeL aeM Gm DB=>?_);replace k3:=k3.le (by decide) DB.le;replace oN:=oN.le DB.le;replace hu:=hu.a7 DB;replace oO:=oO.a7 DB;replace hM:=DB.lt hM;have:=S.size;replace S:=S.aw DB;refine(fun(kp:dO _ _ _)=>ad ⟨rfl,rfl,fun _=>kp,?_⟩) (by first|exact kp|exact kp.nZ (by assumption)|exact kp.goN (by assumption)|exact kp.go (by assumption) (fun _ _ h=>by first|exact h|exact h.elim));refine ch (M:=M1) (base:=w0.heap.size) aR eN rfl rfl rfl rfl hu Gm (ao _ _) (by simp;omega) (by simp;omega) (S.size) (fun QR Xi Xj QS qg=>?_);replace k3:=k3.le (by decide) qg.le;replace oN:=oN.le qg.le;replace Gm:=Gm.le qg.le;replace oO:=oO.step qg (fun c hc h=>by have:=HC c hc;have:=(hu.base c h).1;omega);replace hM:=qg.lt hM;have:=S.size;replace S:=S.cF qg hu (a8 _);replace hu:=QS;refine ad ⟨rfl,rfl,fun h=>absurd rfl h,?_⟩
   refine ah rfl rfl ?_;refine ad ⟨rfl,rfl,fun h=>absurd rfl h,?_⟩;refine jJ (aj (bE rfl rfl rfl (by omega) (ae rfl rfl (ad ?_))));refine⟨rfl,(i+1,QR),(.cons rfl (.cons rfl (.cons rfl (.cons rfl .nil)))),?_,?_⟩
   ·exact⟨Xi,hM,S,by rw[bc,yw,bY];exact hu,oO,by dsimp only;omega⟩
   ·dsimp only;omega
  ·refine cK (ak (aj (ae rfl rfl (ah rfl rfl (ad (aM ?_))))));rw[aK (by omega)]at hu;exact aS rfl rfl ⟨hu.close fR S (by omega),S.back⟩
end Go.K
namespace Go.K
open Go.Proofs
namespace TKBldF
theorem Xk:TI Tryz.prog 190 (.agg #[(.slice none 0 0),(.slice none 0 0)]) 2 48:=by unfold TI;kernel_rfl
theorem Xl:placesOf Tryz.prog 190=[(0,1),(1,1)].map some:=by kernel_rfl
theorem Xm:Enters Tryz.prog 176:=enters Tryz.func176 rfl (by decide)
theorem Xn:Enters Tryz.prog 177:=enters Tryz.func177 rfl (by decide)
theorem Xo:Enters Tryz.prog 178:=enters Tryz.func178 rfl (by decide)
end TKBldF
open TKBldF
set_option maxRecDepth 10000
def zR:Option (List UInt8)→List (List UInt8)→Bool
 |_,[]=>true
 |o,x::l=>(match o with|none=>true|some a=>decide (a<x))&&zR (some x) l
theorem uq {l:List (List UInt8)} {k:Nat} {x:List UInt8} (h:l[k]? =some x) (o:Option (List UInt8)):zR o (l.drop k)=((match o with|none=>true|some a=>decide (a<x))&&zR (some x) (l.drop (k+1))):=by
 obtain⟨dD,he⟩:=av.1 h;rw[dm dD,he];rfl
theorem zS {a:List UInt8}:∀{l:List (List UInt8)},yy (a::l)→zR (some a) l=true
 |[],_=>rfl
 |x::l,h=>by
  have h':=hU.1 h;simp only[zR,bU,decide_eq_true_eq];exact⟨h'.1 x (bX ..),zS h'.2⟩
theorem MH:∀{l:List (List UInt8)},yy l→zR none l=true
 |[],_=>rfl
 |x::l,h=>by simp only[zR,fm];exact zS h
theorem DC {M:aI} {v:Value} {l:List Int} (w0:World) (hv:((RT.int .i64).sl).V M w0 l v):
  Spec Tryz.prog 124 #[v] w0 (fun v' w'=>v'= .bool (eG (-1) l)∧w'=w0):=by
 have hlen:=dd hv;refine bh (args:=[_]) (fn:=Tryz.f124) Tryz.func124 rfl (n:=28) Tryz.ntmps124 (ak (aj (ah rfl rfl (ad (ak (ak (aj (ae rfl rfl (bz au rfl hv rfl (ae rfl rfl (ad ?_)))))))))));refine aW ?_;refine cX (σ:=Nat×Int) (fun s=>[(0,v),(5,v),(6,.int .i64 l.length),(7,.int .i64 s.1)]) (fun s w=>w=w0∧s.1≤l.length∧eG (-1) l=eG s.2 (l.drop s.1)∧ -1≤s.2∧(s.1=0→s.2= -1)∧(0<s.1→l[s.1-1]? =some s.2)) (fun s=>l.length-s.1) (0,-1) (.cons rfl (.cons rfl (.cons rfl (.cons rfl .nil)))) ?_ ?_
 ·exact⟨rfl,bC _,rfl,by decide,fun _=>rfl,fun h=>absurd h (mW 0)⟩
 ·rintro⟨k,last⟩ w1 ⟨rfl,hk,hr,QT,h0,h1⟩;dsimp only at hk hr QT h0 h1 ⊢;refine ak (aj (cj rfl rfl rfl (ad (ak ?_))));refine bK rfl (fun c2=>?_) (fun c2=>?_)
  ·refine aU (ak (aW (ak (aj (ae rfl rfl ?_)))));obtain⟨x,hx⟩:∃x,l[k]? =some x:=⟨_,aF (by omega)⟩;refine cb (M:=M) au I3 rfl rfl rfl hv (ao _ _) (by omega) (fun u a hg hu=>?_);obtain rfl:x=a:=ei (aQ (hg.symm.trans (by simpa using hx)));refine b4 (M:=M) ay rfl rfl hu (ao _ _) (fun inx=>?_);refine ah rfl rfl (ah rfl rfl (ad (ak (aj (ae rfl rfl (cj rfl rfl rfl (ae rfl rfl ?_)))))));refine aL (g:=14) rfl (fun oA=>?_) (fun oA=>?_)
   ·refine aq rfl rfl rfl rfl (aq rfl rfl rfl rfl (aq rfl rfl rfl rfl (ck rfl rfl rfl (ck rfl rfl rfl (ck rfl rfl rfl (ck rfl rfl rfl (ck rfl rfl rfl (ck rfl rfl rfl (ck rfl rfl rfl (aq rfl rfl rfl rfl (aP rfl rfl rfl ?_)))))))))));refine ad (jH rfl (ak (aj (ah rfl rfl (ad (aM ?_))))));refine aS rfl rfl ⟨congrArg Value.bool (ei ?_),rfl⟩;rw[hr,fa hx,decide_eq_false (show¬last<x by omega),Bool.false_and]
   ·refine an rfl rfl (ae rfl rfl (an rfl rfl (lF rfl rfl rfl (an rfl rfl (ae rfl rfl ?_)))));refine aL (g:=17) rfl (fun qQ=>?_) (fun qQ=>?_)
    ·refine an rfl rfl (ae rfl rfl (an rfl rfl (ae rfl rfl (an rfl rfl (ae rfl rfl (an rfl rfl (ic rfl rfl rfl (by omega) (an rfl rfl ?_))))))));refine cb (M:=M) au I3 rfl rfl rfl hv (ao _ _) (by omega) (fun u2 a hg jB=>?_);obtain rfl:last=a:=ei (aQ (hg.symm.trans (by rw[show((k:Int)-1).toNat=k-1 from by omega];exact h1 (by omega))));refine an rfl rfl ?_;refine b4 (M:=M) ay rfl rfl jB (ao _ _) (fun inl=>?_);refine an rfl rfl (fh rfl rfl rfl (an rfl rfl (aP rfl rfl rfl (aE rfl rfl rfl (ad ?_)))));refine bK rfl (fun c4=>?_) (fun c4=>?_)
     ·refine ak (aj (ah rfl rfl (ad (aM ?_))));refine aS rfl rfl ⟨congrArg Value.bool (ei ?_),rfl⟩;rw[hr,fa hx,decide_eq_false (show¬last<x by omega),Bool.false_and]
     ·refine aU (aj (bE rfl rfl rfl (by omega) (ae rfl rfl (ad ?_))));refine⟨rfl,(k+1,x),(.cons rfl (.cons rfl (.cons rfl (.cons rfl .nil)))),?_,?_⟩
      ·refine⟨rfl,by simp only;omega,?_,by simp only;omega,fun h=>by simp at h,fun _=>by simpa using hx⟩;rw[hr,fa hx,decide_eq_true (show last<x by omega),fm]
      ·simp only;omega
    ·refine aq rfl rfl rfl rfl (aq rfl rfl rfl rfl (aq rfl rfl rfl rfl (aq rfl rfl rfl rfl (aq rfl rfl rfl rfl (aq rfl rfl rfl rfl (aq rfl rfl rfl rfl (an rfl rfl (aE rfl rfl rfl (aE rfl rfl rfl (ad (iV rfl ?_)))))))))));refine aU (aj (bE rfl rfl rfl (by omega) (ae rfl rfl (ad ?_))));refine⟨rfl,(k+1,x),(.cons rfl (.cons rfl (.cons rfl (.cons rfl .nil)))),?_,?_⟩
     ·refine⟨rfl,by simp only;omega,?_,by simp only;omega,fun h=>by simp at h,fun _=>by simpa using hx⟩;rw[hr,fa hx,decide_eq_true (show last<x by omega),fm]
     ·simp only;omega
  ·refine cK (ak (aj (ah rfl rfl (ad (aM ?_)))));refine aS rfl rfl ⟨congrArg Value.bool (ei ?_),rfl⟩;rw[hr,fz (by omega)];rfl
theorem zT {M:aI} {v:Value} {l:List (List UInt8)} (w0:World) (hv:(RT.str.sl).V M w0 l v):
  Spec Tryz.prog 176 #[v] w0 (fun v' w'=>v'= .bool (zR none l)∧w'=w0):=by
 have hlen:=dd hv;refine bh (args:=[_]) (fn:=Tryz.f176) Tryz.func176 rfl (n:=24) Tryz.ntmps176 (ak (aj (ah rfl rfl (ad (ak (ak (aj (ae rfl rfl (bz aC rfl hv rfl (ae rfl rfl (ad ?_)))))))))));refine aW ?_;refine cX (σ:=Nat×Option (List UInt8)) (fun s=>[(0,v),(5,v),(6,.int .i64 l.length),(7,.int .i64 s.1)]) (fun s w=>w=w0∧s.1≤l.length∧zR none l=zR s.2 (l.drop s.1)∧(s.1=0→s.2=none)∧(0<s.1→∃a,s.2=some a∧l[s.1-1]? =some a)) (fun s=>l.length-s.1) (0,none) (.cons rfl (.cons rfl (.cons rfl (.cons rfl .nil)))) ?_ ?_
 ·exact⟨rfl,bC _,rfl,fun _=>rfl,fun h=>absurd h (mW 0)⟩
 ·rintro⟨k,o⟩ w1 ⟨rfl,hk,hr,h0,h1⟩;dsimp only at hk hr h0 h1 ⊢;refine ak (aj (cj rfl rfl rfl (ad (ak ?_))));refine bK rfl (fun c2=>?_) (fun c2=>?_)
  ·refine aU (ak (aW (ak (aj (ae rfl rfl ?_)))));obtain⟨x,hx⟩:∃x,l[k]? =some x:=⟨_,aF (by omega)⟩;refine cb (M:=M) aC I9 rfl rfl rfl hv (ao _ _) (by omega) (fun u a hg hu=>?_);obtain rfl:x=a:=ei (aQ (hg.symm.trans (by simpa using hx)));refine bw (M:=M) aA rfl rfl rfl rfl rfl hu (ao _ _) (fun vx rZ=>?_);obtain rfl:=dB rZ;refine ah rfl rfl (ah rfl rfl (ad (ak (aj (ae rfl rfl (lF rfl rfl rfl (ae rfl rfl ?_)))))));refine aL (g:=14) rfl (fun oA=>?_) (fun oA=>?_)
   ·refine an rfl rfl (ae rfl rfl (an rfl rfl (ae rfl rfl (an rfl rfl (ae rfl rfl (an rfl rfl (ic rfl rfl rfl (by omega) (an rfl rfl ?_))))))));obtain⟨last,rfl,iP⟩:=h1 (by omega);refine cb (M:=M) aC I9 rfl rfl rfl hv (ao _ _) (by omega) (fun u2 a hg jB=>?_);obtain rfl:last=a:=ei (aQ (hg.symm.trans (by rw[show((k:Int)-1).toNat=k-1 from by omega];exact iP)));refine an rfl rfl ?_;refine bw (M:=M) aA rfl rfl rfl rfl rfl jB (ao _ _) (fun vl o8=>?_);obtain rfl:=dB o8;refine an rfl rfl (Rg.Mc rfl rfl rfl (aP rfl rfl rfl (ad ?_)));refine bK rfl (fun c4=>?_) (fun c4=>?_)
    ·refine ak (aj (ah rfl rfl (ad (aM ?_))));refine aS rfl rfl ⟨congrArg Value.bool (ei ?_),rfl⟩;rw[hr,uq hx];simp[c4]
    ·refine aU (aj (bE rfl rfl rfl (by omega) (ae rfl rfl (ad ?_))));refine⟨rfl,(k+1,some x),(.cons rfl (.cons rfl (.cons rfl (.cons rfl .nil)))),?_,?_⟩
     ·refine⟨rfl,by simp only;omega,?_,fun h=>by simp at h,fun _=>⟨x,rfl,by simpa using hx⟩⟩;rw[hr,uq hx]
      first
      |(rw[h0 (by omega)];simp;done)
      |(have Xp:=b5.1 c4;simp[Xp];done)
     ·simp only;omega
   ·refine aq rfl rfl rfl rfl (aq rfl rfl rfl rfl (aq rfl rfl rfl rfl (aq rfl rfl rfl rfl (aq rfl rfl rfl rfl (aq rfl rfl rfl rfl (aq rfl rfl rfl rfl (aE rfl rfl rfl (ad (iV rfl (aU (aj ?_)))))))))));refine bE rfl rfl rfl (by omega) (ae rfl rfl (ad ?_));refine⟨rfl,(k+1,some x),(.cons rfl (.cons rfl (.cons rfl (.cons rfl .nil)))),?_,?_⟩
    ·refine⟨rfl,by simp only;omega,?_,fun h=>by simp at h,fun _=>⟨x,rfl,by simpa using hx⟩⟩;rw[hr,uq hx]
     first
     |(rw[h0 (by omega)];simp;done)
     |(have Xp:=b5.1 c4;simp[Xp];done)
    ·simp only;omega
  ·refine cK (ak (aj (ah rfl rfl (ad (aM ?_)))));refine aS rfl rfl ⟨congrArg Value.bool (ei ?_),rfl⟩;rw[hr,fz (by omega)];rfl
theorem qZ {α:Type} {A:RT α} {M:aI} {w:World} {v:Value} {x:α} (h:cf A M w v x):v.cells= #[v]:=by
 obtain⟨b,o,vs,rfl,_⟩:=h;rfl
theorem Bv {M:aI} {v0 v1:Value} {ns:List (List UInt8)} {ts:List Li} (w0:World) (hM:Lt M w0) (hn:(RT.str.sl).V M w0 ns v0) (ht:(((RT.li).ptr).sl).V M w0 ts v1) (hl:ns.length≤1099511627776) (HP:ts.length≤1099511627776):
  Spec Tryz.prog 128 #[v0,v1] w0 (fun v w=>∃p,v= .tuple #[p,.int .i64 (if ns.length=ts.length∧zR none ns=true then 0 else 1)]∧(ns.length=ts.length→zR none ns=true→cf RT.di M w p (ns,ts))∧Step M w0 M w aD):=by
 refine bh (args:=[_,_]) (fn:=Tryz.f128) Tryz.func128 rfl (n:=22) Tryz.ntmps128 ?_;have S:Step M w0 M w0 aD:=(ar _ _).b9 (fun _ h=>h.elim) (fun _ h=>h.elim);refine ak (aj (ah rfl rfl (ah rfl rfl (ad (ak (ak (aj (ae rfl rfl (bz aC rfl hn rfl (ae rfl rfl (bz dz rfl ht rfl ?_)))))))))));refine dW rfl rfl rfl (ae rfl rfl ?_);refine aL (g:=11) rfl (fun mh=>?_) (fun mh=>?_)
 ·refine aq rfl rfl rfl rfl (aq rfl rfl rfl rfl (aq rfl rfl rfl rfl (aP rfl rfl rfl (ad (jH rfl (ak (aj (ah rfl rfl (ah rfl rfl (ad (aM ?_)))))))))))
  first
  |exact eA rfl rfl rfl ⟨_,by rw[if_neg (fun h=>mh (by omega))],fun h=>absurd (by omega) mh,S⟩
  |exact eA rfl rfl rfl ⟨_,by rw[if_neg (fun h=>c1 h.2)],fun _ h=>absurd h c1,S⟩
 ·refine an rfl rfl (ae rfl rfl (an rfl rfl ?_));refine aT rfl rfl Xm (zT _ hn) (fun r wc hc=>?_);obtain⟨rfl,rfl⟩:=hc;refine an rfl rfl (jx rfl rfl (bI (v':= .bool (decide (¬zR none ns=true))) (by simp) (aE rfl rfl rfl (ad ?_))));refine bK rfl (fun c1=>?_) (fun c1=>?_)
  ·refine ak (aj (ah rfl rfl (ah rfl rfl (ad (aM ?_)))))
   first
   |exact eA rfl rfl rfl ⟨_,by rw[if_neg (fun h=>mh (by omega))],fun h=>absurd (by omega) mh,S⟩
   |exact eA rfl rfl rfl ⟨_,by rw[if_neg (fun h=>c1 h.2)],fun _ h=>absurd h c1,S⟩
  ·refine aU (ak (aj (ae rfl rfl ?_)));refine aT rfl rfl Xn (FQ hM hn hl) (fun v3 w3 hc=>?_);obtain⟨qw,s3⟩:=hc;replace hn:=hn.le s3.le;replace ht:=ht.le s3.le;replace hM:=s3.lt hM;have:=S.size;replace S:=S.aw s3;refine ae rfl rfl ?_;refine aT rfl rfl Xo (IK hM ht HP) (fun v4 w4 hc=>?_);obtain⟨nk,s4⟩:=hc;replace hn:=hn.le s4.le;replace ht:=ht.le s4.le;replace qw:=qw.le s4.le;replace hM:=s4.lt hM;have:=S.size;replace S:=S.aw s4;refine eM (places:=[(0,1),(1,1)]) ix Xk Xl rfl ⟨_,_,rfl,rfl,_,_,rfl,rfl,rfl⟩ (out:=[_,_]) ⟨0,[_],rfl,gw qw,by simp[Value.cells],1,[_],rfl,gw nk,by simp[Value.cells],rfl⟩ ?_;refine gp (A:=RT.di) (a:=(ns,ts)) rfl rfl hM (dR qw nk rfl rfl rfl rfl) rfl (fun u5 w5 Da s5 _=>?_);replace hn:=hn.le s5.le;replace ht:=ht.le s5.le;replace qw:=qw.le s5.le;replace nk:=nk.le s5.le;replace hM:=s5.lt hM;have:=S.size;replace S:=S.aw s5;refine ah rfl rfl (ah rfl rfl (ad (aM ?_)));exact eA rfl rfl rfl ⟨_,by rw[if_pos ⟨by omega,b5.1 c1⟩],fun _ _=>Da,S⟩
end Go.K
namespace Go.K
theorem Bw (n:Nat):IntKind.u8.wrap (n:Int)=((UInt8.ofNat n).toNat:Int):=by
 rw[IntKind.wrap_u8];simp[UInt8.toNat_ofNat]
theorem QU:∀m:Nat,m<256→(BitVec.ofInt 8 (m:Int)|||BitVec.ofInt 8 128).toNat=128+m%128:=by decide+kernel
theorem IV (n:Nat):IntKind.u8.wrap ((BitVec.ofInt IntKind.u8.bits (IntKind.u8.wrap (n:Int))|||BitVec.ofInt IntKind.u8.bits 128).toNat:Int)=((UInt8.ofNat (128+n%128)).toNat:Int):=by
 have h1:IntKind.u8.wrap (n:Int)=((n%256:Nat):Int):=by rw[IntKind.wrap_u8];omega
 rw[h1];show IntKind.u8.wrap ((BitVec.ofInt 8 ((n%256:Nat):Int)|||BitVec.ofInt 8 128).toNat:Int)=_;rw[QU (n%256) (by omega),IntKind.wrap_u8,show n%256%128=n%128 from by omega];simp[UInt8.toNat_ofNat]
theorem Xq (n:Nat):((n:Int)).fdiv (2^min (Int.toNat 7) IntKind.i64.bits)=((n/128:Nat):Int):=by
 show((n:Int)).fdiv 128=_;rw[Int.fdiv_eq_ediv_of_nonneg _ (by decide)];rfl
theorem Bx:∀m:Nat,m<256→(BitVec.ofInt 8 (m:Int)&&& ~~~ BitVec.ofInt 8 128).toNat=m%128:=by decide+kernel
theorem zU (c:UInt8):IntKind.u8.wrap ((BitVec.ofInt IntKind.u8.bits (c.toNat:Int)&&& ~~~ BitVec.ofInt IntKind.u8.bits 128).toNat:Int)=((c.toNat%128:Nat):Int):=by
 show IntKind.u8.wrap ((BitVec.ofInt 8 (c.toNat:Int)&&& ~~~ BitVec.ofInt 8 128).toNat:Int)=_;rw[Bx c.toNat (by have:=c.toNat_lt;omega),IntKind.wrap_u8];omega
theorem Gn (k n x:Nat) (hk:k≤8) (hn:n<128^k) (hx:x<128):
  IntKind.i64.wrap ((BitVec.ofInt IntKind.i64.bits (n:Int)|||BitVec.ofInt IntKind.i64.bits (IntKind.i64.wrap ((x:Int)*2^min (Int.toNat (7*(k:Int))) IntKind.i64.bits))).toNat:Int)=((n+x*128^k:Nat):Int):=by
 have e7:Int.toNat (7*(k:Int))=7*k:=by omega
 have e1:min (7*k) 64=7*k:=by omega
 have e2:(128:Nat)^k=2^(7*k):=by rw[Nat.pow_mul]
 have hp:2^(7*k)≤2^56:=Nat.pow_le_pow_right (by decide) (by omega);have hb:x*2^(7*k)≤127*2^(7*k):=Nat.mul_le_mul_right _ (by omega);rw[e2]at hn ⊢;show IntKind.i64.wrap ((BitVec.ofInt 64 (n:Int)|||BitVec.ofInt 64 (IntKind.i64.wrap ((x:Int)*2^min (Int.toNat (7*(k:Int))) 64))).toNat:Int)=_;rw[e7,e1];have e3:((x:Int)*2^(7*k))=((x*2^(7*k):Nat):Int):=by simp
 have e5:n|||x*2^(7*k)=n+x*2^(7*k):=by
  rw[Nat.or_comm,Nat.mul_comm x,←Nat.two_pow_add_eq_or_of_lt hn x,Nat.add_comm]
 rw[e3];generalize x*2^(7*k)=y at*
 generalize 2^(7*k)=z at*
 have e4:∀m:Nat,m<2^64→(BitVec.ofInt 64 (m:Int))=BitVec.ofNat 64 m:=fun m _=>by simp
 rw[iG (y:Int) (by omega),e4 n (by omega),e4 y (by omega),BitVec.toNat_or,BitVec.toNat_ofNat,BitVec.toNat_ofNat,Nat.mod_eq_of_lt (by omega),Nat.mod_eq_of_lt (by omega),e5,iG _ (by omega)]
theorem pB (x:Int): -9223372036854775808≤IntKind.i64.wrap x∧IntKind.i64.wrap x≤9223372036854775807:=by rw[IntKind.wrap_i64];omega
end Go.K
namespace Go.K
open Go.Proofs
set_option maxRecDepth 10000
theorem yd {M:aI} {w0:World} {v:Value} {b:List UInt8} {n:Nat} (hM:Lt M w0) (hv:(RT.u8.sl).V M w0 b v) (hb:b.length≤70368744177664) (hn:n≤9223372036854775807):
  Spec Tryz.prog 173 #[v,.int .i64 n] w0 (fun v' w'=>∃M',Step M w0 M' w' aD∧Own RT.u8 5 M' w' w0.heap.size v' (b++put n)):=by
 have h9:=jD hn;refine bh (args:=[_,_]) (fn:=Tryz.f173) Tryz.func173 rfl (n:=26) Tryz.ntmps173 (ak (aj (ah rfl rfl (ad (ak (aj (ae rfl rfl (ae rfl rfl ?_))))))))
 first|refine bz bD rfl (by assumption) rfl ?_|refine ie bD rfl (by assumption) rfl ?_
 refine ae rfl rfl ?_
 first|refine bz bD rfl (by assumption) rfl ?_|refine ie bD rfl (by assumption) rfl ?_
 refine Rg.AJ bD I5 rfl rfl rfl rfl hv ⟨rfl,rfl⟩ (fun a oy yG=>?_);refine ah rfl rfl (ad (ak (aW ?_)));refine cX (σ:=Nat×Value×List UInt8) (fun s=>[(0,s.2.1),(1,.int .i64 s.1)]) (fun s w=>s.2.2++put s.1=b++put n∧∃M1,Lt M1 w∧Step M w0 M1 w aD∧Grow RT.u8 (by decide) 5 M1 w w0.heap.size s.2.1 s.2.2) (fun s=>s.1) (n,_,b) (.cons rfl (.cons rfl .nil)) ?_ ?_
 ·exact⟨rfl,M,hM,ar _ _,.inr ⟨a,rfl,yG,oy⟩⟩
 ·rintro⟨k,u0,acc⟩ w1 ⟨vz,M1,xd,s1,hg⟩;dsimp only at vz hg ⊢;have hlen:=congrArg List.length vz;have AH:=HZ k;simp only[bO]at hlen;refine ak (ak (aj (ae rfl rfl (dN rfl rfl rfl (ad ?_)))));refine bK rfl (fun c2=>?_) (fun c2=>?_)
  ·refine aU (aW (ak (aj (ae rfl rfl (ae rfl rfl (vh ay cw rfl rfl (Rg.or rfl rfl rfl (bI (congrArg _ (IV _)) ?_))))))));refine dQ (A:=RT.u8) (hn:=by decide) (M:=M1) bD I5 (by decide) rfl rfl xd (KI.2 rfl) (.inr ⟨rfl,rfl⟩) (fun u w2 hu s2=>?_);refine Rg.BZ (M:=M1) (base:=w0.heap.size) bD I5 rfl rfl rfl rfl (hg.le s2) hu (ao _ _) (by simp) (by simp;omega) (by simp;omega) (eJ s1.size s2.size) (fun v3 M3 w3 DD s3=>?_);refine ah rfl rfl (ad (aj (ae rfl rfl (Rg.shr rfl rfl rfl (by omega) (bI (congrArg _ (Xq _)) (ah rfl rfl (ad ?_)))))));refine⟨rfl,(k/128,v3,acc++[UInt8.ofNat (128+k%128)]),(.cons rfl (.cons rfl .nil)),?_,?_⟩
   ·exact⟨by rw[←vz,AQ (n:=k) (by omega)];simp,M3,s3.lt (s2.lt xd),(s1.aw s2).j7 s3 (a8 _),.inl DD⟩
   ·show k/128<k;omega
  ·refine cK (ak (aj (ae rfl rfl (ae rfl rfl (vh ay cw rfl rfl (bI (congrArg _ (Bw _)) ?_))))));refine dQ (A:=RT.u8) (hn:=by decide) (M:=M1) bD I5 (by decide) rfl rfl xd (KI.2 rfl) (.inr ⟨rfl,rfl⟩) (fun u w2 hu s2=>?_);refine Rg.BZ (M:=M1) (base:=w0.heap.size) bD I5 rfl rfl rfl rfl (hg.le s2) hu (ao _ _) (by simp) (by simp;omega) (by simp;omega) (eJ s1.size s2.size) (fun v3 M3 w3 DD s3=>?_);refine ah rfl rfl (ad (aM ?_));refine aS rfl rfl ⟨M3,(s1.aw s2).j7 s3 (a8 _),?_⟩;rw[←vz,tg (n:=k) (by omega)];exact DD
theorem Gp {M:aI} {w0:World} {v:Value} {b:List UInt8} {n:Nat} (hM:Lt M w0) (hv:(RT.u8.sl).V M w0 b v) (hb:b.length≤70368744177664) (hn:n≤9223372036854775807):
  Spec Tryz.prog 173 #[v,.int .i64 n] w0 (fun v' w'=>Step M w0 M w' aD∧(RT.u8.sl).V M w' (b++put n) v'):=
 (yd hM hv hb hn).mono fun _ _ ⟨_,s,ho⟩=>⟨s.back,ig hM s ho (by have:=jD hn;simp;omega)⟩
theorem zV {M:aI} {w0:World} {v:Value} {b:List UInt8} {at_:Int} (hv:(RT.u8.sl).V M w0 b v) (Ot: -9223372036854775808≤at_∧at_≤9223372036854775807):
  Spec Tryz.prog 250 #[v,.int .i64 at_] w0 (fun v' w'=>v'= .tuple #[.int .i64 (get b at_).1,.int .i64 (get b at_).2.1,.int .i64 (get b at_).2.2]∧w0=w'):=by
 have hlen:=dd hv;refine bh (args:=[_,_]) (fn:=Tryz.f250) Tryz.func250 rfl (n:=54) Tryz.ntmps250 (ak (aj (ah rfl rfl (ah rfl rfl (ah rfl rfl (ad (ak (ak (aj (ae rfl rfl (cj rfl rfl rfl ?_)))))))))));refine ae rfl rfl ?_;refine aL (g:=12) rfl (fun fX=>?_) (fun fX=>?_)
 ·obtain MI:at_<0∨(b.length:Int)<at_:= .inl fX;refine aq rfl rfl rfl rfl (aq rfl rfl rfl rfl (aq rfl rfl rfl rfl (aq rfl rfl rfl rfl (aP rfl rfl rfl (ad (jH rfl (ak (aj (ah rfl rfl (ah rfl rfl (ah rfl rfl ?_)))))))))));refine ad (aM ?_);have gD:get b at_=(0,0,1):=by unfold get;rw[if_pos MI]
  exact oG rfl rfl rfl rfl ⟨by rw[gD],rfl⟩
 ·refine an rfl rfl (ae rfl rfl (an rfl rfl (ae rfl rfl (an rfl rfl ?_))))
  first|refine bz bD rfl (by assumption) rfl ?_|refine ie bD rfl (by assumption) rfl ?_
  refine an rfl rfl (lF rfl rfl rfl (aE rfl rfl rfl (ad ?_)));refine bK rfl (fun c1=>?_) (fun c1=>?_)
  ·obtain MI:at_<0∨(b.length:Int)<at_:= .inr c1;refine ak (aj (ah rfl rfl (ah rfl rfl (ah rfl rfl (ad (aM ?_))))));have gD:get b at_=(0,0,1):=by unfold get;rw[if_pos MI]
   exact oG rfl rfl rfl rfl ⟨by rw[gD],rfl⟩
  ·refine aU (ak (aj (ah rfl rfl (ad (ak (ak (aj (ae rfl rfl (ae rfl rfl (ae rfl rfl ?_))))))))))
   first|refine bz bD rfl (by assumption) rfl ?_|refine ie bD rfl (by assumption) rfl ?_
   refine ae rfl rfl (bE rfl rfl rfl (by omega) (Rg.min2 rfl rfl rfl ?_));refine Rg.Eb bD I5 rfl rfl rfl rfl hv (by omega) (fun u hu=>?_);rw[show(min (b.length:Int) (at_+9)).toNat=min b.length (at_.toNat+9)from by omega,K4]at hu;have gD:get b at_=match lL ((b.drop at_.toNat).take 9) 0 0 with|some (n,k)=>((n:Int),at_+k,0)|none=>(0,0,2):=by unfold get;rw[if_neg (by omega)];rfl
   have AA:((b.drop at_.toNat).take 9).length≤9:=by rw[bF];omega
   generalize (b.drop at_.toNat).take 9=bs at hu gD AA
   first|refine bz bD rfl (by assumption) rfl ?_|refine ie bD rfl (by assumption) rfl ?_
   refine ae rfl rfl (ad (aW ?_));refine cX (σ:=Nat×Nat) (fun s=>[(1,.int .i64 at_),(25,u),(26,.int .i64 bs.length),(27,.int .i64 s.1),(7,.int .i64 s.2)]) (fun s w=>w0=w∧s.1≤bs.length∧s.2<128^s.1∧lL (bs.drop s.1) s.1 s.2=lL bs 0 0) (fun s=>bs.length-s.1) (0,0) (.cons rfl (.cons rfl (.cons rfl (.cons rfl (.cons rfl .nil))))) ?_ ?_
   ·exact⟨rfl,bC _,by decide,rfl⟩
   ·rintro⟨k,m⟩ w1 ⟨rfl,hk,hm,hg⟩;dsimp only at hk hm hg ⊢;refine ak (aj (cj rfl rfl rfl (ad (ak ?_))));refine bK rfl (fun c5=>?_) (fun c5=>?_)
    ·refine aU (ak (aW (ak (aj (ae rfl rfl ?_)))));refine cb (M:=M) bD I5 rfl rfl rfl (by assumption) (by repeat (first|exact ao _ _|refine aV (br (by assumption)) ?_)) (by omega) (fun aeN IW zW abb=>?_);refine Rg.KL (M:=M) cw rfl rfl (by assumption) (by repeat (first|exact ao _ _|refine aV (br (by assumption)) ?_)) ?_;refine ah rfl rfl (ah rfl rfl (ad (ak (aj (ae rfl rfl (ae rfl rfl (Rg.andNot rfl rfl rfl (bI (congrArg _ (zU _)) (Rg.xw cw ay rfl rfl (by omega) (ae rfl rfl (Rg.KJ rfl rfl rfl (by omega) ?_)))))))))));refine Rg.shl rfl rfl rfl (by omega) (Rg.or rfl rfl rfl (bI (congrArg _ (Gn k m _ (by omega) hm (by omega))) (ah rfl rfl (ad (ak (aj (ae rfl rfl (cj rfl rfl rfl (ad ?_)))))))));refine bK rfl (fun c8=>?_) (fun c8=>?_)
     ·refine ak (ak (aj (ae rfl rfl (rT rfl rfl rfl (ae rfl rfl ?_)))));refine aL (g:=44) rfl (fun ye=>?_) (fun ye=>?_)
      ·refine an rfl rfl (ae rfl rfl (an rfl rfl (lF rfl rfl rfl (aP rfl rfl rfl (ad ?_)))));refine bK rfl (fun c9=>?_) (fun c9=>?_)
       ·refine cK (ak (aj (ah rfl rfl (ah rfl rfl (ah rfl rfl (ad (aM ?_)))))))
        have hr:lL bs 0 0=none:=by
         rw[←hg]
         first
         |(rw[lM (by simpa using zW),if_pos (by omega),if_pos (by omega)])
         |(rw[fz (by omega)];rfl)
        exact oG rfl rfl rfl rfl ⟨by rw[gD,hr],rfl⟩
       ·refine aU (ak (aj (ae rfl rfl (ae rfl rfl (ae rfl rfl (bE rfl rfl rfl (by omega) (bE rfl rfl rfl (by omega) (ah rfl rfl (ah rfl rfl (ah rfl rfl (ad ?_)))))))))));refine aM ?_;have hr:lL bs 0 0=some (m+IW.toNat%128*128^k,k+1):=by rw[←hg,lM (by simpa using zW),if_pos (by omega),if_neg (by omega)]
        exact oG rfl rfl rfl rfl ⟨by rw[gD,hr];simp;omega,rfl⟩
      ·refine aq rfl rfl rfl rfl (aq rfl rfl rfl rfl (aE rfl rfl rfl (ad (iV rfl (aU (ak (aj (ae rfl rfl (ae rfl rfl (ae rfl rfl (bE rfl rfl rfl (by omega) ?_)))))))))));refine bE rfl rfl rfl (by omega) (ah rfl rfl (ah rfl rfl (ah rfl rfl (ad (aM ?_)))));have hr:lL bs 0 0=some (m+IW.toNat%128*128^k,k+1):=by rw[←hg,lM (by simpa using zW),if_pos (by omega),if_neg (by omega)]
       exact oG rfl rfl rfl rfl ⟨by rw[gD,hr];simp;omega,rfl⟩
     ·refine aU (aj (bE rfl rfl rfl (by omega) (ae rfl rfl (ad ?_))));refine⟨rfl,(k+1,m+IW.toNat%128*128^k),(.cons rfl (.cons rfl (.cons rfl (.cons rfl (.cons rfl .nil))))),?_,?_⟩
      ·refine⟨rfl,by simp only;omega,?_,?_⟩
       ·have:=Nat.mul_le_mul_right (128^k) (show IW.toNat%128≤127 from by omega);simp only[Nat.pow_succ];omega
       ·rw[lM (by simpa using zW),if_neg (by omega)]at hg;exact hg
      ·simp only;omega
    ·refine cK (ak (aj (ah rfl rfl (ah rfl rfl (ah rfl rfl (ad (aM ?_)))))))
     have hr:lL bs 0 0=none:=by
      rw[←hg]
      first
      |(rw[lM (by simpa using zW),if_pos (by omega),if_pos (by omega)])
      |(rw[fz (by omega)];rfl)
     exact oG rfl rfl rfl rfl ⟨by rw[gD,hr],rfl⟩
theorem vR {M:aI} {w0:World} {v u:Value} {b:List UInt8} {l:List Int} (hM:Lt M w0) (hv:(RT.u8.sl).V M w0 b v) (hu:((RT.int .i64).sl).V M w0 l u) (hb:b.length+9*(l.length+1)≤70368744177664):
  Spec Tryz.prog 174 #[v,u] w0 (fun v' w'=>∃M' x,Step M w0 M' w' aD∧v'= .tuple #[x,.int .i64 (if eG (-1) l then 0 else 1)]∧Own RT.u8 5 M' w' w0.heap.size x (if eG (-1) l then b++dM l else[])):=by
 have yv:=jD (n:=l.length) (by omega);refine bh (args:=[_,_]) (fn:=Tryz.f174) Tryz.func174 rfl (n:=31) Tryz.ntmps174 (ak (aj (ah rfl rfl (ah rfl rfl (ad (ak (aj (ae rfl rfl (ae rfl rfl (bz au rfl hu rfl ?_))))))))));refine aT rfl rfl K7 (yd (M:=M) hM hv (by omega) (by omega)) (fun ub wb qt=>?_);obtain⟨Mb,sb,rr⟩:=qt;refine ah rfl rfl (ad (ak (aj (ah rfl rfl (ad (ak (ak (aj (ae rfl rfl (bz au rfl hu rfl (ae rfl rfl ?_)))))))))));refine ad (aW ?_);refine cX (σ:=Nat×Int×Value×List UInt8) (fun s=>[(0,s.2.2.1),(6,.int .i64 s.2.1),(13,u),(14,.int .i64 l.length),(15,.int .i64 s.1)]) (fun s w=>eG (-1) l=eG s.2.1 (l.drop s.1)∧(eG (-1) l=true→s.2.2.2++jV s.2.1 (l.drop s.1)=b++dM l)∧s.1≤l.length∧ -1≤s.2.1∧s.2.2.2.length≤b.length+9*(s.1+1)∧∃M1,Lt M1 w∧Step M w0 M1 w aD∧Own RT.u8 5 M1 w w0.heap.size s.2.2.1 s.2.2.2) (fun s=>l.length-s.1) (0,-1,_,b++put l.length) (.cons rfl (.cons rfl (.cons rfl (.cons rfl (.cons rfl .nil))))) ?_ ?_
 ·exact⟨rfl,fun _=>by simp[dM],bC _,by simp only;omega,by simp;omega,Mb,sb.lt hM,sb,rr⟩
 ·rintro⟨k,last,u0,acc⟩ w1 ⟨hr,vz,hk,QT,TC,M1,xd,s1,ho⟩;dsimp only at hr vz hk QT TC ho ⊢;refine ak (aj (cj rfl rfl rfl (ad (ak ?_))));refine bK rfl (fun c4=>?_) (fun c4=>?_)
  ·refine aU (ak (aW (ak (aj ?_))));obtain⟨x,hx⟩:∃x,l[k]? =some x:=⟨_,aF (by omega)⟩;have hxr:=D9 hu hx;refine cb (M:=M) au I3 rfl rfl rfl (hu.le (s1.back).le) (ao _ _) (by omega) (fun QV Gq QW Ct=>?_);obtain rfl:Gq=x:=aQ (QW.symm.trans (by simpa using hx));refine b4 (M:=M) ay rfl rfl Ct (ao _ _) (fun _=>?_);refine ah rfl rfl (ad (ak (ak (aj (ae rfl rfl (ae rfl rfl (fh rfl rfl rfl (ad ?_))))))));refine bK rfl (fun c6=>?_) (fun c6=>?_)
   ·refine ak (aj (ah rfl rfl (ah rfl rfl (ad (aM ?_)))));have hrf:eG (-1) l=false:=by rw[hr,fa hx,decide_eq_false (by omega),Bool.false_and]
    exact eA rfl rfl rfl ⟨M1,_,s1,by rw[hrf];rfl,by rw[hrf];exact dw _ _ _ _ _⟩
   ·refine aU (ak (aj (ae rfl rfl (ae rfl rfl (ae rfl rfl (Rg.OJ rfl rfl rfl (Rg.OJ rfl rfl rfl ?_)))))));have hpx:=jD (n:=(Gq-last-1).toNat) (by omega);refine bI (v':= .int .i64 (((Gq-last-1).toNat:Nat):Int)) (by rw[IntKind.wrap_i64,IntKind.wrap_i64];congr 1;omega) ?_;have hfz:=s1.freeze (v:=u0) (fun b hb=>(ho.base b hb).1);refine aT rfl rfl K7 (yd (M:=rm M1 u0) (xd.rm u0) (ho.view (by omega)) (by omega) (by omega)) (fun ub wb qt=>?_);obtain⟨Mb2,sb2,Xr⟩:=qt;refine ah rfl rfl (ad (aj (ae rfl rfl (ah rfl rfl (ad (aj (bE rfl rfl rfl (by omega) (ae rfl rfl (ad ?_)))))))));refine⟨rfl,(k+1,Gq,ub,acc++put (Gq-last-1).toNat),(.cons rfl (.cons rfl (.cons rfl (.cons rfl (.cons rfl .nil))))),?_,?_⟩
    ·refine⟨?_,fun h=>?_,by simp only;omega,by simp only;omega,by simp only[bO];omega,Mb2,sb2.lt (xd.rm u0),hfz.aw sb2,Xr.lj s1.size⟩
     ·rw[hr,fa hx,decide_eq_true (by omega),fm]
     ·rw[←vz h,CZ hx];simp
    ·simp only;omega
  ·refine cK (ak (aj (ae rfl rfl (ah rfl rfl (ah rfl rfl (ad (aM ?_)))))));have Xs:eG (-1) l=true:=by rw[hr,fz (by omega)];rfl
   have ha:=vz Xs;rw[fz (by omega),jV,jT]at ha;exact eA rfl rfl rfl ⟨M1,_,s1,by rw[Xs];rfl,by rw[Xs,←ha];exact ho⟩
theorem ur {M:aI} {w0:World} {v u:Value} {b:List UInt8} {l:List Int} (hM:Lt M w0) (hv:(RT.u8.sl).V M w0 b v) (hu:((RT.int .i64).sl).V M w0 l u) (hb:b.length+9*(l.length+1)≤70368744177664):
  Spec Tryz.prog 174 #[v,u] w0 (fun v' w'=>∃x,Step M w0 M w' aD∧v'= .tuple #[x,.int .i64 (if eG (-1) l then 0 else 1)]∧(RT.u8.sl).V M w' (if eG (-1) l then b++dM l else[]) x):=
 (vR hM hv hu hb).mono fun _ _ ⟨_,x,s,h,ho⟩=>⟨x,s.back,h,ig hM s ho (by
  split
  next hr=>
   have yv:=jD (n:=l.length) (by omega);have kO:∀x∈l,x≤9223372036854775807:=fun x hx=>by obtain⟨i,hi⟩:=bT.1 hx;exact(D9 hu hi).2
   have:=th l (-1) (by decide) kO hr;simp only[dM,bO];omega
  next=>simp)⟩
theorem xe {M:aI} {w0:World} {be bb ba:Nat} {v:Value} {b:List UInt8} {at_:Int} (he:w0.heap[be]? =some (.cells #[.int .i64 0] 26 (0,0))) (hb:w0.heap[bb]? =some (.cells #[v] 147 (0,0))) (ha:w0.heap[ba]? =some (.cells #[.int .i64 at_] 3 (0,0))) (eE:be≠ba) (MJ:M be) (Ou:M ba) (hv:(RT.u8.sl).V M w0 b v) (Ot: -9223372036854775808≤at_∧at_≤9223372036854775807):
  Spec Tryz.prog 274 #[.pointer (some ⟨be,0,none⟩),.pointer (some ⟨bb,0,none⟩),.pointer (some ⟨ba,0,none⟩)] w0 (fun v' w'=>v'= .int .i64 (get b at_).1∧w'.heap[be]? =some (.cells #[.int .i64 (get b at_).2.2] 26 (0,0))∧w'.heap[ba]? =some (.cells #[.int .i64 (get b at_).2.1] 3 (0,0))∧Step M w0 M w' (fun k=>k=be∨k=ba)):=by
 refine bh (args:=[_,_,_]) (fn:=Tryz.f274) Tryz.func274 rfl (n:=15) Tryz.ntmps274 (ak (aj (ah rfl rfl (ad (ak (ak (aj (aX rl rfl rfl rfl (by assumption) rfl (dW rfl rfl rfl (ad ?_))))))))));refine bK rfl (fun c1=>?_) (fun c1=>?_)
 ·exact absurd rfl c1
 ·refine aU (ak (aj (ah rfl rfl (ad (ak (aj (aX bD rfl rfl rfl (by assumption) rfl (aX ay rfl rfl rfl (by assumption) rfl ?_))))))));refine aT rfl rfl Pq (zV hv Ot) (fun r w1 h1=>?_);obtain⟨rfl,rfl⟩:=h1;refine ae rfl rfl (bR rfl rfl rfl (bR rfl rfl rfl (bR rfl rfl rfl (ah rfl rfl ?_))));refine cu (M:=M) I3 rfl rfl ha rfl rfl Ou (fun w1 h1 s1=>?_);refine cu (M:=M) Tl rfl rfl (s1.bM he eE) rfl rfl MJ (fun w2 h2 s2=>?_);refine ad (ak (aj (ae rfl rfl (ah rfl rfl (ad (aM ?_))))));refine aS rfl rfl ⟨rfl,h2,s2.bM h1 (Ne.symm eE),?_⟩;exact(s1.b9 (fun b hb=> .inr hb) (fun b hb=>by rcases hb with rfl|rfl<;>assumption)).trans s2 (fun b _ hb=> .inl hb)
theorem uu {M:aI} {w0:World} {v:Value} {b:List UInt8} {at_:Int} (hM:Lt M w0) (hv:(RT.u8.sl).V M w0 b v) (Ot: -9223372036854775808≤at_∧at_≤9223372036854775807) (AA:b.length≤1099511627776):
  Spec Tryz.prog 251 #[v,.int .i64 at_] w0 (fun v' w'=>∃x,v'= .tuple #[x,.int .i64 (fB b at_).2.2,.int .i64 (fB b at_).1]∧((RT.int .i64).sl).V M w' (fB b at_).2.1 x∧Step M w0 M w' aD):=by
 refine bh (args:=[_,_]) (fn:=Tryz.f251) Tryz.func251 rfl (n:=48) Tryz.ntmps251 (ak (aj ?_));refine Rg.box M rfl rfl (fun bb w1 J0 aeP hB s1=>?_);rw[gw hv]at hB;refine Rg.box (ins M bb) rfl rfl (fun ba w2 hba aeQ hA s2=>?_);refine ah rfl rfl (ah rfl rfl (ah rfl rfl (ad (ak (aj ?_)))));refine dL (ins (ins M bb) ba) Tl rfl (fun be w3 hbe aeR hE s3=>?_);refine cu (M:=ins (ins (ins M bb) ba) be) Tl rfl rfl hE rfl rfl (.inl rfl) (fun w4 hE4 s4=>?_);have z1:=s1.size;have z2:=s2.size;have z3:=s3.size;have z4:=s4.size;have S4:Step M w0 (ins (ins (ins M bb) ba) be) w4 aD:=((s1.aw s2).aw s3).cR s4 (fun k hk=>by subst hk;omega);have TD:=s4.bM (s3.aN (s2.aN hB)) (show bb≠be by omega);have hA4:=s4.bM (s3.aN hA) (show ba≠be by omega);refine ad (ak (aj (lD (xs:=[]) rfl rfl rfl (ah rfl rfl (ad (ak (aj (ah rfl rfl (ad (ak (aj ?_)))))))))));refine ah rfl rfl (ad (ak (ak (aj (ae rfl rfl ?_)))));refine Rg.oH (first:=[]) (xs:=[]) rfl rfl rfl Pr (xe (M:=ins (ins (ins M bb) ba) be) hE4 TD hA4 (by omega) (.inl rfl) (.inr (.inl rfl)) (hv.le S4.le) Ot) (fun r w5 h5=>?_);obtain⟨rfl,hE5,hA5,s5⟩:=h5;have z5:=s5.size;have S5:=S4.cR s5 (fun k hk=>by omega);have hB5:=s5.bM TD (by omega);obtain⟨Xt,hn1,hn2,hn3⟩:=l8 b at_;refine bI (v':= .int .i64 (((get b at_).1.toNat:Nat):Int)) (by rw[uQ Xt]) (ah rfl rfl (ad (aW ?_)));refine cX (σ:=Nat×Int×Value×List Int×Int×Int) (fun s=>[(7,.pointer (some ⟨be,0,none⟩)),(3,.pointer (some ⟨ba,0,none⟩)),(8,.func (.func 274) [].toArray [.pointer (some ⟨be,0,none⟩),.pointer (some ⟨bb,0,none⟩),.pointer (some ⟨ba,0,none⟩)].toArray),(9,s.2.2.1),(10,.int .i64 s.2.1),(11,.int .i64 s.1)]) (fun s w=>(s.1:Int)≤9223372036854775807∧(s.2.2.2.2.1=0→fB b at_=andThen s.2.2.2.1 (fZ b s.1 s.2.2.2.2.2 s.2.1))∧(s.2.2.2.2.1≠0→fB b at_=(s.2.2.2.2.1,[],0))∧(s.2.2.2.2.1=0→ -1≤s.2.1∧s.2.1≤4611686018427387904∧(s.2.2.2.1.length:Int)≤s.2.2.2.2.2∧s.2.2.2.2.2≤b.length)∧s.2.2.2.1.length≤b.length+1∧∃M1,Lt M1 w∧Step M w0 M1 w aD∧w4.heap.size≤w.heap.size∧M1 be∧M1 ba∧Own (RT.int .i64) 3 M1 w w4.heap.size s.2.2.1 s.2.2.2.1∧w.heap[be]? =some (.cells #[.int .i64 s.2.2.2.2.1] 26 (0,0))∧w.heap[ba]? =some (.cells #[.int .i64 s.2.2.2.2.2] 3 (0,0))∧w.heap[bb]? =some (.cells #[v] 147 (0,0))) (fun s=>s.1) ((get b at_).1.toNat,-1,_,[],(get b at_).2.2,(get b at_).2.1) (.cons rfl (.cons rfl (.cons rfl (.cons rfl (.cons rfl (.cons rfl .nil)))))) ?_ ?_
 ·refine⟨by have:=wG b at_;simp only;omega,fun h=>?_,fun h=>?_,fun h=>?_,by simp,_,S5.lt hM,S5,z5,.inl rfl,.inr (.inl rfl),dw _ _ _ _ _,hE5,hA5,hB5⟩
  ·unfold fB;rw[if_neg (by simpa using h)];exact(yS _ (C0 b _ _ _)).symm
  ·unfold fB;rw[if_pos h]
  ·have:=qJ h;simp only[iC];omega
 ·rintro⟨many,last,u0,acc,e,a1⟩ wl ⟨hmb,yz,CX,hok,TC,M1,xd,S,zl,MJ,Ou,ho,hE,hA,hB⟩;dsimp only at hmb yz CX hok TC ho hE hA hB ⊢;refine ak (ak (aj (ae rfl rfl (lF rfl rfl rfl (ae rfl rfl ?_)))));refine aL (g:=18) rfl (fun Lg=>?_) (fun Lg=>?_)
  ·refine an rfl rfl (aX rl rfl rfl rfl (by assumption) rfl (an rfl rfl (rT rfl rfl rfl (aP rfl rfl rfl (ad ?_)))));refine bK rfl (fun c6=>?_) (fun c6=>?_)
   ·refine aU (ak (aW (ak (aj (ae rfl rfl ?_)))));refine Rg.oH (first:=[]) (xs:=[]) rfl rfl rfl Pr (xe (M:=M1) (by rw[c6]at hE;exact hE) hB hA (by omega) MJ Ou (hv.le S.le) (by have:=hok c6;omega)) (fun r w6 h6=>?_);obtain⟨rfl,QX,QY,s6⟩:=h6;have z6:=s6.size;have S6:=S.cR s6 (fun k hk=>by omega);have QZ:=s6.bM hB (by omega);have rC:=ho.step s6 (fun k hk h=>by have:=(ho.base k hk).1;omega);have Gr:=s6.lt xd;obtain⟨Xt,hn1,hn2,hn3⟩:=l8 b a1;obtain⟨uW,CP,hk3,hk4⟩:=hok c6;refine ah rfl rfl (ad (ak (ak (aj (aX rl rfl rfl rfl (by assumption) rfl (rT rfl rfl rfl (ae rfl rfl ?_)))))));refine aL (g:=28) rfl (fun ye=>?_) (fun ye=>?_)
    ·refine an rfl rfl (ae rfl rfl (an rfl rfl (ae rfl rfl (an rfl rfl (ic rfl rfl rfl (by omega) (an rfl rfl (ic rfl rfl rfl (by omega) (an rfl rfl (lF rfl rfl rfl (aP rfl rfl rfl (ad ?_)))))))))));refine bK rfl (fun c9=>?_) (fun c9=>?_)
     ·refine aj ?_;refine cu (M:=M1) Tl rfl rfl QX rfl rfl MJ (fun w7 hE7 s7=>?_);have z7:=s7.size;replace S6:=S6.cR s7 (fun k hk=>by subst hk;omega);replace QZ:=s7.bM QZ (show bb≠be by omega);replace QY:=s7.bM QY (show ba≠be by omega);replace rC:=rC.step s7 (fun k hk h=>by have:=(ho.base k hk).1;omega);replace Gr:=s7.lt Gr;replace QX:=hE7;refine ad (ak (aj (ae rfl rfl (ae rfl rfl (Rg.yD rfl rfl rfl (Rg.yD rfl rfl rfl (ah rfl rfl (ad (aj (ae rfl rfl (ae rfl rfl ?_)))))))))));refine dQ (A:=RT.int .i64) (hn:=by decide) (M:=M1) au I3 (by decide) rfl rfl Gr (fO (pB _)) (.inr ⟨rfl,rfl⟩) (fun u w8 hu s8=>?_);refine ch (M:=M1) (base:=w4.heap.size) au I3 rfl rfl rfl rfl (rC.a7 s8) hu (ao _ _) (by simp;omega) (by simp;omega) (by have:=s8.size;omega) (fun v9 M9 w9 Q0 s9=>?_);have z8:=s8.size;have z9:=s9.size;have jM:∀k,k<w4.heap.size→¬iH u0 k:=fun k hk h=>by have:=(ho.base k h).1;omega
      have Gs:=s9.bM (s8.aN QX) (jM be (by omega));have Q1:=s9.bM (s8.aN QY) (jM ba (by omega));have Q2:=s9.bM (s8.aN QZ) (jM bb (by omega));have S9:=(S6.aw s8).cF s9 (rC.a7 s8) (by omega);have Q3:=s9.lt (s8.lt Gr);have Gt:M9 be:=(s9.mem be (by omega)).2 MJ;have Gu:M9 ba:=(s9.mem ba (by omega)).2 Ou;refine ah rfl rfl (ad (aj (ae rfl rfl (ic rfl rfl rfl (by omega) (ah rfl rfl (ad ?_))))));refine⟨rfl,(many-1,(IntKind.i64.wrap (last+IntKind.i64.wrap ((get b a1).1+1))),v9,acc++[(IntKind.i64.wrap (last+IntKind.i64.wrap ((get b a1).1+1)))],(if(get b a1).2.2=0∧4611686018427387904-last-1<(get b a1).1 then 2 else(get b a1).2.2),(get b a1).2.1),(.cons rfl (.cons rfl (.cons rfl (.cons rfl (.cons rfl (.cons (show some (Value.int .i64 ((many:Int)-1))=some (Value.int .i64 ((many-1:Nat):Int))from by congr 2;omega) .nil)))))),?_,?_⟩
      ·have hx:(get b a1).2.2=0→¬4611686018427387904-last-1<(get b a1).1→(IntKind.i64.wrap (last+IntKind.i64.wrap ((get b a1).1+1)))=last+1+(get b a1).1:=fun h1 h2=>by rw[iG ((get b a1).1+1) (by omega),iG _ (by omega)];omega
       have N7:many=(many-1)+1:=by omega
       have uv:=yz c6;rw[N7]at uv;refine⟨by simp only;omega,fun h=>?_,fun h=>?_,fun h=>?_,by have:=hok c6;simp only[bO,cM,iC];omega,M9,Q3,S9,by omega,Gt,Gu,Q0,?_,Q1,Q2⟩
       ·dsimp only at h ⊢;have h3:(get b a1).2.2=0∧¬4611686018427387904-last-1<(get b a1).1:=by split at h<;>omega
        rw[uv,l7 acc h3.1 h3.2,hx h3.1 h3.2]
       ·dsimp only at h ⊢;rw[uv]
        split
        ·rename_i h4;rw[qK h4.1 h4.2];rfl
        ·rename_i h4
         have h5:(get b a1).2.2≠0:=by intro h6;rw[if_neg h4]at h;exact h h6
         rw[pg h5];unfold andThen;rw[if_pos h5]
       ·dsimp only at h ⊢;have h3:(get b a1).2.2=0∧¬4611686018427387904-last-1<(get b a1).1:=by split at h<;>omega
        have:=qJ h3.1;rw[hx h3.1 h3.2];simp only[bO,cM,iC];omega
       ·dsimp only
        first
        |(rw[if_pos ⟨ye,c9⟩];exact Gs)
        |(rw[if_neg (fun h=>c9 h.2)];exact Gs)
        |(rw[if_neg (fun h=>ye h.1)];exact Gs)
      ·simp only;omega
     ·refine aU (ak (aj (ae rfl rfl (ae rfl rfl (Rg.yD rfl rfl rfl (Rg.yD rfl rfl rfl (ah rfl rfl (ad (aj (ae rfl rfl (ae rfl rfl ?_)))))))))));refine dQ (A:=RT.int .i64) (hn:=by decide) (M:=M1) au I3 (by decide) rfl rfl Gr (fO (pB _)) (.inr ⟨rfl,rfl⟩) (fun u w8 hu s8=>?_);refine ch (M:=M1) (base:=w4.heap.size) au I3 rfl rfl rfl rfl (rC.a7 s8) hu (ao _ _) (by simp;omega) (by simp;omega) (by have:=s8.size;omega) (fun v9 M9 w9 Q0 s9=>?_);have z8:=s8.size;have z9:=s9.size;have jM:∀k,k<w4.heap.size→¬iH u0 k:=fun k hk h=>by have:=(ho.base k h).1;omega
      have Gs:=s9.bM (s8.aN QX) (jM be (by omega));have Q1:=s9.bM (s8.aN QY) (jM ba (by omega));have Q2:=s9.bM (s8.aN QZ) (jM bb (by omega));have S9:=(S6.aw s8).cF s9 (rC.a7 s8) (by omega);have Q3:=s9.lt (s8.lt Gr);have Gt:M9 be:=(s9.mem be (by omega)).2 MJ;have Gu:M9 ba:=(s9.mem ba (by omega)).2 Ou;refine ah rfl rfl (ad (aj (ae rfl rfl (ic rfl rfl rfl (by omega) (ah rfl rfl (ad ?_))))));refine⟨rfl,(many-1,(IntKind.i64.wrap (last+IntKind.i64.wrap ((get b a1).1+1))),v9,acc++[(IntKind.i64.wrap (last+IntKind.i64.wrap ((get b a1).1+1)))],(if(get b a1).2.2=0∧4611686018427387904-last-1<(get b a1).1 then 2 else(get b a1).2.2),(get b a1).2.1),(.cons rfl (.cons rfl (.cons rfl (.cons rfl (.cons rfl (.cons (show some (Value.int .i64 ((many:Int)-1))=some (Value.int .i64 ((many-1:Nat):Int))from by congr 2;omega) .nil)))))),?_,?_⟩
      ·have hx:(get b a1).2.2=0→¬4611686018427387904-last-1<(get b a1).1→(IntKind.i64.wrap (last+IntKind.i64.wrap ((get b a1).1+1)))=last+1+(get b a1).1:=fun h1 h2=>by rw[iG ((get b a1).1+1) (by omega),iG _ (by omega)];omega
       have N7:many=(many-1)+1:=by omega
       have uv:=yz c6;rw[N7]at uv;refine⟨by simp only;omega,fun h=>?_,fun h=>?_,fun h=>?_,by have:=hok c6;simp only[bO,cM,iC];omega,M9,Q3,S9,by omega,Gt,Gu,Q0,?_,Q1,Q2⟩
       ·dsimp only at h ⊢;have h3:(get b a1).2.2=0∧¬4611686018427387904-last-1<(get b a1).1:=by split at h<;>omega
        rw[uv,l7 acc h3.1 h3.2,hx h3.1 h3.2]
       ·dsimp only at h ⊢;rw[uv]
        split
        ·rename_i h4;rw[qK h4.1 h4.2];rfl
        ·rename_i h4
         have h5:(get b a1).2.2≠0:=by intro h6;rw[if_neg h4]at h;exact h h6
         rw[pg h5];unfold andThen;rw[if_pos h5]
       ·dsimp only at h ⊢;have h3:(get b a1).2.2=0∧¬4611686018427387904-last-1<(get b a1).1:=by split at h<;>omega
        have:=qJ h3.1;rw[hx h3.1 h3.2];simp only[bO,cM,iC];omega
       ·dsimp only
        first
        |(rw[if_pos ⟨ye,c9⟩];exact Gs)
        |(rw[if_neg (fun h=>c9 h.2)];exact Gs)
        |(rw[if_neg (fun h=>ye h.1)];exact Gs)
      ·simp only;omega
    ·refine aq rfl rfl rfl rfl (aq rfl rfl rfl rfl (aq rfl rfl rfl rfl (aq rfl rfl rfl rfl (aq rfl rfl rfl rfl (aE rfl rfl rfl (ad (iV rfl (aU (ak (aj (ae rfl rfl ?_)))))))))));refine ae rfl rfl (Rg.yD rfl rfl rfl (Rg.yD rfl rfl rfl (ah rfl rfl (ad (aj (ae rfl rfl (ae rfl rfl ?_)))))));refine dQ (A:=RT.int .i64) (hn:=by decide) (M:=M1) au I3 (by decide) rfl rfl Gr (fO (pB _)) (.inr ⟨rfl,rfl⟩) (fun u w8 hu s8=>?_);refine ch (M:=M1) (base:=w4.heap.size) au I3 rfl rfl rfl rfl (rC.a7 s8) hu (ao _ _) (by simp;omega) (by simp;omega) (by have:=s8.size;omega) (fun v9 M9 w9 Q0 s9=>?_);have z8:=s8.size;have z9:=s9.size;have jM:∀k,k<w4.heap.size→¬iH u0 k:=fun k hk h=>by have:=(ho.base k h).1;omega
     have Gs:=s9.bM (s8.aN QX) (jM be (by omega));have Q1:=s9.bM (s8.aN QY) (jM ba (by omega));have Q2:=s9.bM (s8.aN QZ) (jM bb (by omega));have S9:=(S6.aw s8).cF s9 (rC.a7 s8) (by omega);have Q3:=s9.lt (s8.lt Gr);have Gt:M9 be:=(s9.mem be (by omega)).2 MJ;have Gu:M9 ba:=(s9.mem ba (by omega)).2 Ou;refine ah rfl rfl (ad (aj (ae rfl rfl (ic rfl rfl rfl (by omega) (ah rfl rfl (ad ?_))))));refine⟨rfl,(many-1,(IntKind.i64.wrap (last+IntKind.i64.wrap ((get b a1).1+1))),v9,acc++[(IntKind.i64.wrap (last+IntKind.i64.wrap ((get b a1).1+1)))],(if(get b a1).2.2=0∧4611686018427387904-last-1<(get b a1).1 then 2 else(get b a1).2.2),(get b a1).2.1),(.cons rfl (.cons rfl (.cons rfl (.cons rfl (.cons rfl (.cons (show some (Value.int .i64 ((many:Int)-1))=some (Value.int .i64 ((many-1:Nat):Int))from by congr 2;omega) .nil)))))),?_,?_⟩
     ·have hx:(get b a1).2.2=0→¬4611686018427387904-last-1<(get b a1).1→(IntKind.i64.wrap (last+IntKind.i64.wrap ((get b a1).1+1)))=last+1+(get b a1).1:=fun h1 h2=>by rw[iG ((get b a1).1+1) (by omega),iG _ (by omega)];omega
      have N7:many=(many-1)+1:=by omega
      have uv:=yz c6;rw[N7]at uv;refine⟨by simp only;omega,fun h=>?_,fun h=>?_,fun h=>?_,by have:=hok c6;simp only[bO,cM,iC];omega,M9,Q3,S9,by omega,Gt,Gu,Q0,?_,Q1,Q2⟩
      ·dsimp only at h ⊢;have h3:(get b a1).2.2=0∧¬4611686018427387904-last-1<(get b a1).1:=by split at h<;>omega
       rw[uv,l7 acc h3.1 h3.2,hx h3.1 h3.2]
      ·dsimp only at h ⊢;rw[uv]
       split
       ·rename_i h4;rw[qK h4.1 h4.2];rfl
       ·rename_i h4
        have h5:(get b a1).2.2≠0:=by intro h6;rw[if_neg h4]at h;exact h h6
        rw[pg h5];unfold andThen;rw[if_pos h5]
      ·dsimp only at h ⊢;have h3:(get b a1).2.2=0∧¬4611686018427387904-last-1<(get b a1).1:=by split at h<;>omega
       have:=qJ h3.1;rw[hx h3.1 h3.2];simp only[bO,cM,iC];omega
      ·dsimp only
       first
       |(rw[if_pos ⟨ye,c9⟩];exact Gs)
       |(rw[if_neg (fun h=>c9 h.2)];exact Gs)
       |(rw[if_neg (fun h=>ye h.1)];exact Gs)
     ·simp only;omega
   ·refine cK (ak (ak (aj (aX rl rfl rfl rfl (by assumption) rfl (dW rfl rfl rfl (ad ?_))))));refine bK rfl (fun Is=>?_) (fun Is=>?_)
    ·refine ak ?_;apply jK mixed rfl rfl;intro MB Gi;have oz:=Gi M1;refine aX rl rfl rfl rfl (by first|assumption|exact cQ oz (by assumption)) rfl ?_;refine ad ⟨rfl,rfl,rfl,?_⟩;refine ah rfl rfl ?_;refine ad ⟨rfl,rfl,rfl,?_⟩;refine ah rfl rfl ?_;refine ad ⟨rfl,rfl,rfl,?_⟩;refine ah rfl rfl ?_;refine ad ⟨rfl,rfl,rfl,?_⟩;refine dr (aM ?_);have hr:=CX Is;exact oG rfl rfl rfl rfl ⟨_,by rw[hr]<;>rfl,by rw[hr];exact j5,(S.aw oz).back⟩
    ·refine aU (ak ?_);apply jK mixed rfl rfl;intro MK Gv;have nd:=Gv M1;refine ae rfl rfl ?_;refine ad ⟨rfl,rfl,rfl,?_⟩;refine aX ay rfl rfl rfl (by first|assumption|exact cQ nd (by assumption)) rfl ?_;refine ad ⟨rfl,rfl,rfl,?_⟩;refine ah rfl rfl ?_;refine ad ⟨rfl,rfl,rfl,?_⟩;refine ah rfl rfl ?_;refine ad ⟨rfl,rfl,rfl,?_⟩;refine ah rfl rfl ?_;refine ad ⟨rfl,rfl,rfl,?_⟩;refine dr (aM ?_);have hz:many=0:=by omega
     have hr:=yz (by omega);rw[hz,ti]at hr;simp only[andThen,ne_eq,not_true_eq_false,if_false,jT]at hr;have Q4:=S.aw nd;refine oG rfl rfl rfl rfl ⟨_,by rw[hr]<;>rfl,?_,Q4.back⟩;rw[hr];exact ig hM Q4 ((ho.a7 nd).lj (by omega)) (by simp only;omega)
  ·refine aq rfl rfl rfl rfl (aq rfl rfl rfl rfl (aE rfl rfl rfl (ad (iV rfl (cK (ak (ak (aj (aX rl rfl rfl rfl (by assumption) rfl (dW rfl rfl rfl (ad ?_)))))))))));refine bK rfl (fun Is=>?_) (fun Is=>?_)
   ·refine ak ?_;apply jK mixed rfl rfl;intro MB Gi;have oz:=Gi M1;refine aX rl rfl rfl rfl (by first|assumption|exact cQ oz (by assumption)) rfl ?_;refine ad ⟨rfl,rfl,rfl,?_⟩;refine ah rfl rfl ?_;refine ad ⟨rfl,rfl,rfl,?_⟩;refine ah rfl rfl ?_;refine ad ⟨rfl,rfl,rfl,?_⟩;refine ah rfl rfl ?_;refine ad ⟨rfl,rfl,rfl,?_⟩;refine dr (aM ?_);have hr:=CX Is;exact oG rfl rfl rfl rfl ⟨_,by rw[hr]<;>rfl,by rw[hr];exact j5,(S.aw oz).back⟩
   ·refine aU (ak ?_);apply jK mixed rfl rfl;intro MK Gv;have nd:=Gv M1;refine ae rfl rfl ?_;refine ad ⟨rfl,rfl,rfl,?_⟩;refine aX ay rfl rfl rfl (by first|assumption|exact cQ nd (by assumption)) rfl ?_;refine ad ⟨rfl,rfl,rfl,?_⟩;refine ah rfl rfl ?_;refine ad ⟨rfl,rfl,rfl,?_⟩;refine ah rfl rfl ?_;refine ad ⟨rfl,rfl,rfl,?_⟩;refine ah rfl rfl ?_;refine ad ⟨rfl,rfl,rfl,?_⟩;refine dr (aM ?_);have hz:many=0:=by omega
    have hr:=yz (by omega);rw[hz,ti]at hr;simp only[andThen,ne_eq,not_true_eq_false,if_false,jT]at hr;have Q4:=S.aw nd;refine oG rfl rfl rfl rfl ⟨_,by rw[hr]<;>rfl,?_,Q4.back⟩;rw[hr];exact ig hM Q4 ((ho.a7 nd).lj (by omega)) (by simp only;omega)
end Go.K

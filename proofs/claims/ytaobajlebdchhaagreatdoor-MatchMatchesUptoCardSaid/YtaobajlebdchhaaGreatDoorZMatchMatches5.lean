/- What the law 'MatchMatches' needs of walks and plain Lean, part 5: nothing is assumed beyond the texts that it imports. -/
import Derived.KernelRfl
import Derived.Laws.StructEq
import Derived.Test.YtaobajlebdchhaaGreatDoorProg
import Derived.Test.YtaobajlebdchhaaGreatDoorZMatchMatches1
import Derived.Test.YtaobajlebdchhaaGreatDoorZMatchMatches2
import Derived.Test.YtaobajlebdchhaaGreatDoorZMatchMatches3
import Derived.Test.YtaobajlebdchhaaGreatDoorZMatchMatches4
set_option linter.unusedVariables false
set_option linter.unusedSimpArgs false
namespace Go.K
open Go.Proofs
namespace TKPlc
theorem ZY:Enters Tryz.prog 124:=enters Tryz.func124 rfl Tg
end TKPlc
open TKPlc
set_option maxRecDepth 10000
def cZ (fs:List Fd) (k:List UInt8):List (List UInt8):=match fs.find? (λf=>decide (f.1=k))with|some f=>words f.2|none=>[]
theorem x7 {fs:List Fd} {k:List UInt8} {i:Nat} {x:Fd} (h:fs[i]? =some x) (hx:x.1=k) (jt:∀(j:Nat) y,j<i->fs[j]? =some y->y.1≠k):cZ fs k=words x.2:=by
 have:fs.find? (λf=>decide (f.1=k))=some x:=by
  induction fs generalizing i with
  |nil=>simp at h
  |cons y fs ih=>
   cases i with
   |zero=>simp at h;subst h;simp[hx]
   |succ i=>
    rw[List.find?_cons_of_neg (by simpa using jt 0 y q0 rfl)];exact ih a86 (λj z hj hz=>jt (j+1) z q0 (by simpa using hz))
 unfold cZ;rw[this]
theorem x8 {fs:List Fd} {k:List UInt8} (h:∀f∈fs,f.1.length<=900000/\f.2.length<=900000):(cZ fs k).length<=900001:=by
 unfold cZ
 split
 ·rename_i f hf
  have:=l4 f.2;have:=(h f (List.mem_of_find?_eq_some hf)).2;omega
 ·simp
theorem D8 {fs:List Fd} {k:List UInt8} (jt:∀y∈fs,y.1≠k):cZ fs k=[]:=by
 unfold cZ;rw[List.find?_eq_none.2 λy hy=>by simpa using jt y hy]
def ji (ws:List (List UInt8)) (x:List UInt8):List Int:=(ws.zipIdx.filter λp=>decide (p.1=x)).map λp=>(p.2:Int)
theorem xi {ws:List (List UInt8)} {x y:List UInt8} {i:Nat} (h:ws[i]? =some y):ji (ws.take (i+1)) x=if y=x then ji (ws.take i) x++[(i:Int)]else ji (ws.take i) x:=by
 have hi:=(an.1 h).1;unfold ji;rw[bY,h,dp,List.zipIdx_append,eE,dU];simp only[a7,yT (Nat.le_of_lt hi),nQ,List.zipIdx_cons,List.zipIdx_nil];by_cases e:y=x
 ·rw[if_pos e];simp[e]
 ·rw[if_neg e];simp[e]
theorem re (ws:List (List UInt8)) (x:List UInt8):(ji ws x).length<=ws.length:=by
 unfold ji;rw[bW];exact dz (eu _ _) (by simp)
theorem x9 {M:aM} {d:Dc} {k:List UInt8} {v0:Value} (w0:World) (hM:Lt M w0) (hd:RT.dc.V M w0 d v0) (hlen:∀f∈d.2,f.1.length<=900000/\f.2.length<=900000) (xg:d.2.length<=1000000):
  Spec Tryz.prog 124 #[v0,sv k] w0 (λv w=>(RT.str.sl).V M w (cZ d.2 k) v/\Step M w0 M w aC):=by
 have gv:=hM;refine bh (args:=[_,_]) (fn:=Tryz.f124) Tryz.func124 G (n:=28) Tryz.ntmps124 ?_;have S:Step M w0 M w0 aC:=aV;refine T.aQ ?_;refine ef (A:=RT.dc) (a:=d) G G hM hd G (λu0 w1 dG s0 _=>?_);replace hM:=s0.lt hM;have:=S.size;replace S:=S.aw s0;refine Rg.aZ G G (aL (T.aQ (Rg.aZ G G (aX ?_))));refine dd (σ:=Nat) (λi=>[(1,sv k),(2,u0),(5,.int .i64 (i:Int))]) (λi w=>Step M w0 M w aC/\cO RT.dc M w u0 d/\i<=d.2.length/\(∀(j:Nat) y,j<i->d.2[j]? =some y->y.1≠k)) (λi=>d.2.length-i) 0 a07 ?_ ?_
 ·exact⟨S,dG,a8 _,λj y h=>absurd h (ec _)⟩
 ·clear S dG hM;rintro i w ⟨S,dG,hi,jt⟩;have hM:=S.lt gv;refine aL (T.aQ (ab G G ?_));refine ao (A:=RT.dc) (B:=(RT.fd).sl) aW G G tO Tg Hw G G Tg dG bS (λu21 Q5=>?_);refine bB bG G G G G G Q5 bS (λv22 ZZ=>?_);refine bC bG G ZZ G (cx G G G (ad ?_));refine bE G (λc2=>?_) (λc2=>?_)
  ·refine aS (aL (aX (T.aQ ?_)));obtain⟨fx,tS⟩:∃x,d.2[i]? =some x:=⟨_,aq q0⟩;have yH:=hlen _ (av tS);refine ao (A:=RT.dc) (B:=(RT.fd).sl) aW G G tO Tg Hw G G Tg dG bS (λu40 I2=>?_);refine bB bG G G G G G I2 bS (λv41 Z0=>?_);refine ab G G ?_;refine cC bG kf G G G Z0 bS q0 (λu43 x gp Q6=>?_);rw[ar]at gp;obtain rfl:=aI (tS.symm.trans gp);refine ao (A:=RT.fd) (B:=RT.str) cK G G I9 Tg EF G G Tg Q6 bS (λu44 anu=>?_);refine bB aA G G G G G anu bS (λv45 anv=>?_);obtain rfl:=dS anv;refine ab G G (Rg.tT G G G (ad ?_));refine bE G (λc4=>?_) (λc4=>?_)
   ·refine T.aQ ?_;refine ao (A:=RT.dc) (B:=(RT.fd).sl) aW G G tO Tg Hw G G Tg dG bS (λu50 Q7=>?_);refine bB bG G G G G G Q7 bS (λv51 Z1=>?_);refine ab G G ?_;refine cC bG kf G G G Z1 bS q0 (λu53 x gp anw=>?_);rw[ar]at gp;obtain rfl:=aI (tS.symm.trans gp);refine ao (A:=RT.fd) (B:=RT.str) cK G G I9 Tg Lz G G Tg anw bS (λu54 I6=>?_);refine bB aA G G G G G I6 bS (λv55 I7=>?_);obtain rfl:=dS I7;refine aP G G acB (xQ _ hM yH.2) (λr6 w6 hc=>?_);obtain⟨hr6,s6⟩:=hc;replace dG:=dG.le Tg s6.le;replace hM:=s6.lt hM;have:=S.size;replace S:=S.aw s6;refine Rg.aZ G G (aJ ?_);exact aK rfl rfl ⟨by rw[x7 tS c4 jt];exact hr6,S⟩
   ·refine aS (aH (ab G G (bu G G G q0 (Rg.aZ G G ?_))));refine⟨G,i+1,a07,?_,?_⟩
    ·exact⟨S,dG,by omega,λj y hj hy=>by
      rcases cH j i with h|h
      ·exact jt j y h hy
      ·rw[show j=i by omega,tS]at hy;cases hy;exact c4⟩
    ·omega
  ·refine cN (T.aQ (Rg.aZ G G (aJ ?_)));exact aK rfl rfl ⟨by rw[D8 (λy hy=>by obtain⟨j,hj⟩:=bK.1 hy;exact jt j y aa7 hj)];exact gZ,S⟩
theorem ya {M:aM} {d:Dc} {t:Fd} {v0 v1:Value} (w0:World) (hM:Lt M w0) (hd:RT.dc.V M w0 d v0) (hlen:∀f∈d.2,f.1.length<=900000/\f.2.length<=900000) (xg:d.2.length<=1000000) (ht:RT.fd.V M w0 t v1):
  Spec Tryz.prog 78 #[v0,v1] w0 (λv w=>((RT.int .i64).sl).V M w (ji (cZ d.2 t.1) t.2) v/\Step M w0 M w aC):=by
 have gv:=hM;have rW:=O5 ht;refine bh (args:=[_,_]) (fn:=Tryz.f78) Tryz.func78 G (n:=30) Tryz.ntmps78 ?_;have S:Step M w0 M w0 aC:=aV;refine T.aQ ?_;refine ef (A:=RT.dc) (a:=d) G G hM hd G (λu0 w1 dG s0 _=>?_);replace hd:=hd.le s0.le;replace ht:=ht.le s0.le;replace hM:=s0.lt hM;have:=S.size;replace S:=S.aw s0;refine ef (A:=RT.fd) (a:=t) G G hM ht G (λu1 w2 gh s1 _=>?_);replace ht:=ht.le s1.le;replace dG:=dG.le Tg s1.le;replace hM:=s1.lt hM;have:=S.size;replace S:=S.aw s1;refine Rg.aZ G G (T.aQ (Rg.aZ G G (T.aQ ?_)));refine bN (A:=RT.dc) aW G lD Tg G G G dG bS (λv20 Q8=>?_);refine ao (A:=RT.fd) (B:=RT.str) br G G I9 Tg EF G G Tg gh bS (λu21 Q5=>?_);refine bB aA G G G G G Q5 bS (λv22 ZZ=>?_);obtain rfl:=dS ZZ;refine aP G G ZY (x9 _ hM Q8 hlen xg) (λr2 w2' hc=>?_);obtain⟨Bu,s2⟩:=hc;have H5:=x8 (k:=t.1) hlen;replace dG:=dG.le Tg s2.le;replace gh:=gh.le Tg s2.le;replace hM:=s2.lt hM;have:=S.size;replace S:=S.aw s2;refine Rg.aZ G G (aL (T.aQ (Rg.aZ G G (aX ?_))));refine dd (σ:=Nat×Value) (λq=>[(3,u1),(5,q.2),(6,r2),(7,.int .i64 (q.1:Int))]) (λq w=>∃M',Lt M' w/\Step M w0 M' w aC/\Own (RT.int .i64) 3 M' w w0.heap.size q.2 (ji ((cZ d.2 t.1).take q.1) t.2)/\(RT.str.sl).V M' w (cZ d.2 t.1) r2/\cO RT.fd M' w u1 t/\q.1<=(cZ d.2 t.1).length) (λq=>(cZ d.2 t.1).length-q.1) (0,.slice none 0 0) a00 ?_ ?_
 ·exact⟨M,hM,S,eL _ _ _ _ _,Bu,gh,a8 _⟩
 ·clear S dG gh Bu hM;rintro⟨i,u⟩ w ⟨M1,hM,S,ho,Bu,gh,hi⟩;dsimp only at ho hi ⊢;refine aL (T.aQ (ab G G (ab G G (bC ax G Bu G (cx G G G (ad ?_))))));refine bE G (λc4=>?_) (λc4=>?_)
  ·refine aS (aL (aX (aL ?_)));apply vV mixed rfl rfl;intro wD6 sA6;have tR:=sA6 M1;replace Bu:=Bu.le tR.le;replace gh:=gh.le Tg tR.le;replace ho:=ho.bP tR;replace hM:=tR.lt hM;have:=S.size;replace S:=S.aw tR;refine ab G G (Rg.dh (ab G G (Rg.dh ?_)));obtain⟨y,tS⟩:∃y,(cZ d.2 t.1)[i]? =some y:=⟨_,aq q0⟩;refine cC ax I9 G G G Bu bS q0 (λu62 y' gp I8=>?_);rw[ar]at gp;obtain rfl:=aI (tS.symm.trans gp);refine Rg.dh ?_;refine bB aA G G G G G I8 bS (λv63 uY=>?_);obtain rfl:=dS uY;refine Rg.dh ?_;refine ao (A:=RT.fd) (B:=RT.str) br G G I9 Tg Lz G G Tg gh bS (λu64 anA=>?_);refine Rg.dh ?_;refine bB aA G G G G G anA bS (λv65 anB=>?_);obtain rfl:=dS anB;refine Rg.dh (Rg.tT G G G (Rg.dh (fL ?_)));refine bE G (λc6=>?_) (λc6=>?_)
   ·refine aH (ab G G (ab G G ?_));refine fz (A:=RT.int .i64) (hn:=by decide) (M:=M1) az I3 Tg G G hM (hU q0) (.inr ⟨G,G⟩) (λadU alr su wZ=>?_);replace Bu:=Bu.le wZ.le;replace gh:=gh.le Tg wZ.le;replace ho:=ho.bP wZ;replace hM:=wZ.lt hM;have:=S.size;replace S:=S.aw wZ;refine dJ (M:=M1) (base:=w0.heap.size) az I3 G G G G ho su bS (by have:=re ((cZ d.2 t.1).take i) t.2;rw[a7]at this;simp;omega) (by have:=re ((cZ d.2 t.1).take i) t.2;rw[a7]at this;simp;omega) (S.size) (λadn anC axg afd Q9=>?_);replace Bu:=Bu.le Q9.le;replace gh:=gh.le Tg Q9.le;replace su:=su.le Q9.le;replace hM:=Q9.lt hM;have:=S.size;replace S:=S.dX Q9 ho (bz _);replace ho:=afd;refine Rg.aZ G G (aH (ab G G (bu G G G q0 (Rg.aZ G G ?_))));refine⟨G,(i+1,adn),a00,?_,?_⟩
    ·exact⟨anC,hM,S,by dsimp only;rw[xi tS,if_pos c6];exact ho,Bu,gh,by dsimp only;omega⟩
    ·dsimp only;omega
   ·refine aS (aH (ab G G (bu G G G q0 (Rg.aZ G G ?_))));refine⟨G,(i+1,u),a00,?_,?_⟩
    ·exact⟨M1,hM,S,by dsimp only;rw[xi tS,if_neg c6];exact ho,Bu,gh,by dsimp only;omega⟩
    ·dsimp only;omega
  ·refine cN (T.aQ (ab G G (Rg.aZ G G (aJ ?_))));rw[bp q0]at ho;exact aK G G ⟨ho.close gv S (by have:=re (cZ d.2 t.1) t.2;omega),S.back⟩
end Go.K
namespace Go.K
section
variable {P:Program} {r:Option Nat} {n:Nat} {L:Sl} {ds:List Deferred} {w:World} {K:Kt} {ops:Array Oper} {rest:List Oper} {d:Nat} {x y:Operand} {ty:TypeId} {pos:String} {af:Array Edge}
theorem lZ {t:TypeId} (ht:P.underlying t=some .string) {cs:Array Value} {off:Nat} {v:Value} (hv:cs[off]? =some v):(part t cs off).run P w= .ok v w:=by
 have HC:(isAgg t).run P w= .ok false w:=by
  unfold isAgg;rw[cn,run_underlying ht w];simp
 unfold part;rw[cn,HC];simp[hv]
theorem GK {t:TypeId} {f g:Field} {k:Nat} {xs ys:Array Value} {a b a' b':Value} {c e:Bool} (ht:P.underlying t=some (.struct #[f,g])) (hp:P.stoodInHeld t=false) (hn:f.name≠ "_") (Nu:g.name≠ "_")
  (p1:(part f.type xs f.offset).run P w= .ok a w) (p2:(part f.type ys f.offset).run P w= .ok b w) (p3:(part g.type xs g.offset).run P w= .ok a' w) (p4:(part g.type ys g.offset).run P w= .ok b' w)
  (h1:(Op.equalIn k f.type a b).run P w= .ok c w) (h2:(Op.equalIn k g.type a' b').run P w= .ok e w):(Op.equalIn (k+1) t (.agg xs) (.agg ys)).run P w= .ok (c&&e) w:=by
 have EC:P.fieldsOf t= #[f,g]:=by simp[Program.fieldsOf,ht]
 rw[run_equalIn_struct (P:=P) w k t xs ys (by rw[EC];exact ht) hp,EC];simp only[Op.eqFields,hn,Nu,ne_eq,not_false_eq_true,if_true,cn,p1,p2,p3,p4,h1,h2,cF]
 cases c
 ·simp
 ·simp only[Bool.not_true,Bool.false_eq_true,if_false,cn,p3,p4,h2,cF]
  cases e<;>simp
theorem KF (a b:List UInt8):((⟨a.toArray⟩:ByteArray).toList==(⟨b.toArray⟩:ByteArray).toList)=decide (a=b):=by
 rw[ByteArray.toList_eq,ByteArray.toList_eq];show(a==b)=_;by_cases h:a=b
 ·subst h;simp
 ·simp[h]
end
open Go.Proofs
namespace TKTak15
theorem E78:Enters Tryz.prog 78:=enters Tryz.func78 rfl Tg
end TKTak15
open TKTak15
set_option maxRecDepth 10000
end Go.K
namespace Go.K
open Go.Proofs
namespace TKLive15
theorem I4:TI Tryz.prog 4 (.bool false) 1 1:=by unfold TI;kernel_rfl
end TKLive15
open TKLive15
set_option maxRecDepth 10000
def nI (l:List Bool):Array Value:=(l.map Value.bool).toArray
theorem AH {l:List Bool} {i:Nat} (h:i<l.length):∃b,(nI l)[i]? =some (.bool b):=by
 unfold nI;exact⟨l[i],by rw[iy,ek,aq h];rfl⟩
theorem AI (l:List Bool) (i:Nat) (b:Bool):(nI l).setIfInBounds i (.bool b)=nI (l.set i b):=by
 unfold nI;simp[List.map_set]
theorem UZ {M:aM} {w:World} {b:Nat} {e:TypeId} {l:List Bool} (h:w.heap[b]? =some (.cells (nI l) e (0,0))) (hb: ¬M b) (hl:l.length<=140737488355328):(RT.bool.sl).V M w l (.slice (some ⟨b,0,none⟩) l.length l.length):=
 iV.2 ⟨_,_,rfl,bz _,hl,.inr ⟨b,0,rfl,hb,λi x hx=>⟨[.bool x],rfl,λj v hj=>by
  cases j with
  |zero=>
   simp at hj;subst hj;refine gM h ?_;show(nI l)[0+i*1+0]? =_;unfold nI;rw[iy,ek,show 0+i*1+0=i by omega,hx];rfl
  |succ j=>simp at hj⟩⟩⟩
end Go.K
namespace Go.K
open Go.Proofs
namespace TKSet
theorem AJ:TI Tryz.prog 126 (.slice none 0 0) 1 24:=by unfold TI;kernel_rfl
theorem anE:TI Tryz.prog 128 (.agg #[(.int .i64 0),(.slice none 0 0)]) 2 32:=by unfold TI;kernel_rfl
theorem ql:TI Tryz.prog 205 (.int .u64 0) 1 8:=by unfold TI;kernel_rfl
theorem anF:placesOf Tryz.prog 128=[(0,1),(1,1)].map some:=by kernel_rfl
theorem E61:Enters Tryz.prog 61:=enters Tryz.func61 rfl Tg
theorem E64:Enters Tryz.prog 64:=enters Tryz.func64 rfl Tg
theorem U0:Enters Tryz.prog 114:=enters Tryz.func114 rfl Tg
end TKSet
open TKSet
set_option maxRecDepth 10000
theorem BZ {w0:World} {k m x:Nat} (tab:∃e fr,w0.heap[1]? =some (.cells (Hv.map fun(k:Nat)=>Value.int .u8 (k:Int)).toArray e fr)) (hx:x=2^k*(2*m+1)) (hl:x<2^64):
  Spec Tryz.prog 274 #[.int .u64 x] w0 (λv' w'=>v'= .int .i64 k/\w0=w'):=by
 obtain⟨et,ft,tab⟩:=tab;have hp:=Nat.two_pow_pos k;have yZ:0<x:=by rw[hx];exact Nat.mul_pos hp q0
 have WM:2^k<=x:=by rw[hx];exact Nat.le_mul_of_pos_right _ q0
 have hk:k<64:=by
  rcases cH k 64 with h2|h2
  ·exact h2
  ·have:=yn (n:=2) Tg h2;omega
 obtain⟨hd1,hd2⟩:=XR k hk;have oc:((Hv.map fun(k:Nat)=>Value.int .u8 (k:Int)).toArray)[(2^k*285870213051353865)%2^64/2^58]? =some (.int .u8 (k:Int)):=by rw[iy,ek,hd2];rfl
 refine bh (args:=[_]) (fn:=Tryz.f274) Tryz.func274 G (n:=14) Tryz.ntmps274 (T.aQ (Rg.aZ G G (aL (T.aQ (ab G G (fe G G G (ad (T.NR G (q0) ?_))))))));refine aS (T.aQ (ab rfl rfl (ab rfl rfl (Rg.ajn rfl rfl (bg (v':= .int .u64 ((2^64-x:Nat):Int)) (by rw[show(0:Int)-(x:Int)=((2^64-x:Nat):Int)-18446744073709551616 from by omega];simp[IntKind.wrap,IntKind.bits,IntKind.signed];omega) (Rg.and rfl rfl rfl (bg (v':= .int .u64 ((2^k:Nat):Int)) (by rw[HM x (2^64-x) hl q0,hx,TH q0]) (Rg.aiX rfl rfl rfl (bg (v':= .int .u64 (((2^k*285870213051353865)%2^64:Nat):Int)) (congrArg _ (by rw[show((2^k:Nat):Int)*285870213051353865=((2^k*285870213051353865:Nat):Int)from by rw[Int.natCast_mul];rfl];exact Dt _)) (Rg.shr G G G Tg ?_))))))))));refine bg (v':= .int .u64 (((2^k*285870213051353865)%2^64/2^58:Nat):Int)) (congrArg _ (XS _ 58 Tg)) (Rg.XQ (len:=64) Tryz.underlying389 I5 G G G q0 (aR (v:= .int .u8 (k:Int)) db rfl rfl rfl tab (by rw[ar];exact oc) (Rg.wa db al G G q0 (Rg.aZ G G (aJ ?_)))));exact am3
theorem D9 {M:aM} {w0:World} {n:Nat} {ws:List Nat} {bs bw:Nat} (h:gH 128 205 n ws M w0 bs bw) {i:Int}:
  Spec Tryz.prog 114 #[.pointer (some ⟨bs,0,none⟩),.int .i64 i] w0 (λv' w'=>v'= .bool (decide (0<=i/\i<n))/\w0=w'):=by
 have hS:=h.s;have hW:=h.w;have hlen:=h.len;have fa:=h.ok;have Tn:=h.nn;refine bh (args:=[_,_]) (fn:=Tryz.f114) Tryz.func114 G (n:=15) Tryz.ntmps114 (T.aQ (Rg.aZ G G (T.aQ (ab G G (eB G G G (ab G G ?_))))));refine aO (g:=7) G (λiO=>?_) (λiO=>?_)
 ·refine ah G G (ab G G (ah G G (ab G G (ah G G (bm G ⟨_,G⟩ G (ah G G (aY fD G G I3 Tg G G (ah G G (aR al G G G Xf G (ah G G (cx G G G ?_)))))))))));refine aU G G G (Rg.aZ G G (aJ ?_))
  first
  |exact a74
  |exact a73
 ·refine aj G G G G (aj G G G G (aj G G G G (aj G G G G (aj G G G G (aj G G G G (aB G G G (Rg.aZ G G (aJ ?_))))))))
  first
  |exact a74
  |exact a73
theorem AK {M:aM} {w0:World} {n:Nat} {ws:List Nat} {bs bw:Nat} (h:gH 128 205 n ws M w0 bs bw) {i:Int}:
  Spec Tryz.prog 64 #[.pointer (some ⟨bs,0,none⟩),.int .i64 i] w0 (λv' w'=>v'= .bool (J0 n ws i)/\w0=w'):=by
 have hS:=h.s;have hW:=h.w;have hlen:=h.len;have fa:=h.ok;have Tn:=h.nn;refine bh (args:=[_,_]) (fn:=Tryz.f64) Tryz.func64 G (n:=23) Tryz.ntmps64 (T.aQ (Rg.aZ G G (T.aQ (ab G G (ab G G ?_)))));refine aP G G U0 (D9 h) (λr wc h=>?_);obtain⟨rfl,rfl⟩:=h;refine ab G G ?_;refine aO (g:=8) G (λju=>?_) (λju=>?_)
 ·obtain⟨j,rfl⟩:∃j:Nat,i=j:=⟨i.toNat,by omega⟩;refine ah G G (ab G G (ah G G (bm G ⟨_,G⟩ G (ah G G (aY fD G G AJ Tg G G (ah G G (aR dx G G G Xf G (ah G G (ab G G (ah G G (Rg.yq G G G q0 ?_)))))))))));refine ah G G (Rg.wG dx ql G G G q0 (ah rfl rfl (aR l8 rfl rfl rfl hW (v:= .int .u64 ((ws.getD (j/64) 0:Nat):Int)) ag3 (ah G G (ab G G (ah G G (Rg.vZ G G G q0 (ah G G (Rg.shr G G G q0 (bg (v':= .int .u64 ((ws.getD (j/64) 0/2^(j%64):Nat):Int)) (congrArg _ (by rw[show((j:Int)%64)=((j%64:Nat):Int)from by omega];exact XS _ _ q0)) (ah G G ?_)))))))))));refine Rg.and G G G (bg (v':= .int .u64 ((ws.getD (j/64) 0/2^(j%64)%2:Nat):Int)) (congrArg _ (by have:=HM (ws.getD (j/64) 0/2^(j%64)) 1 (Nat.lt_of_le_of_lt (Nat.div_le_self _ _) (fa.get _)) Tg;rw[Nat.and_one_is_mod]at this;exact this)) (ah G G (fe G G G (aU G G G (Rg.aZ G G (aJ ?_))))))
  first
  |exact aK G G ⟨congrArg Value.bool ai1,G⟩
  |exact aK G G ⟨congrArg Value.bool (by unfold J0;rw[decide_eq_false ju,eD]),rfl⟩
 ·refine aj G G G G (aj G G G G (aj G G G G (aj G G G G (aj G G G G (aj G G G G (aj G G G G (aj G G G G (aj G G G G (aj G G G G (aj G G G G (aj G G G G ?_)))))))))));refine aj G G G G (aB G G G (Rg.aZ G G (aJ ?_)))
  first
  |exact aK G G ⟨congrArg Value.bool ai1,G⟩
  |exact aK G G ⟨congrArg Value.bool (by unfold J0;rw[decide_eq_false ju,eD]),rfl⟩
theorem Ra {M:aM} {w0:World} {n:Nat} {ws:List Nat} {bs bw:Nat} (h:gH 128 205 n ws M w0 bs bw) {i:Int} (hb:∀j,bit ws j=true->j<n):
  Spec Tryz.prog 61 #[.pointer (some ⟨bs,0,none⟩),.int .i64 i,.bool true] w0 (λv' w'=>∃rY,gH 128 205 n rY M w' bs bw/\(∀j:Nat,bit rY j=(bit ws j&&decide ((j:Int)≠i)))/\Step M w0 M w' (λb=>b=bw)):=by
 have hS:=h.s;have hW:=h.w;have hlen:=h.len;have fa:=h.ok;have Tn:=h.nn;have hmw:∀b:Nat,b=bw->M b:=λb hb=>by rw[hb];exact h.mw
 refine bh (args:=[_,_,_]) (fn:=Tryz.f61) Tryz.func61 G (n:=31) Tryz.ntmps61 (T.aQ (Rg.aZ G G (aL (T.aQ (ab G G (ab G G ?_))))));refine aP G G U0 (D9 h) (λr wc h=>?_);obtain⟨rfl,rfl⟩:=h;refine fV G G (bg (v':= .bool (decide (¬(0<=i/\i<n)))) am5 (ab G G ?_));refine aO (g:=11) G (λMl=>?_) (λMl=>?_)
 ·refine aj G G G G (aj G G G G (aj G G G G (aj G G G G (aj G G G G (aU G G G (ad (kD G (T.aQ (Rg.aZ G G ?_)))))))));refine aJ ?_
  have Nr:bit ws i.toNat=false\/i<0:=by
   by_cases h0:i<0
   ·exact .inr h0
   ·left
    cases X7:bit ws i.toNat with
    |false=>rfl
    |true=>
     have:=hb _ X7
     first
     |omega
     |(exfalso;apply c1;unfold J0;rw[X7,decide_eq_true q0];rfl)
  refine aK G G ⟨ws,h,λj=>?_,(aV).eI a30 hmw⟩;by_cases hj:(j:Int)=i
  ·rw[decide_eq_false (λh=>h hj),kI];rcases Nr with h1|h1
   ·rw[show i.toNat=j from by omega]at h1;exact h1
   ·omega
  ·rw[decide_eq_true hj,l1]
 ·refine ah G G (ab G G (ah G G (ab G G (ah G G ?_))));refine aP G G E64 (AK h) (λr wc h=>?_);obtain⟨rfl,rfl⟩:=h;refine ah G G (ab G G (ah G G (Rg.bne gQ G G G (aB G G G (ad ?_)))));refine bE G (λc1=>?_) (λc1=>?_)
  ·refine T.aQ (Rg.aZ G G (aJ ?_))
   have Nr:bit ws i.toNat=false\/i<0:=by
    by_cases h0:i<0
    ·exact .inr h0
    ·left
     cases X7:bit ws i.toNat with
     |false=>rfl
     |true=>
      have:=hb _ X7
      first
      |omega
      |(exfalso;apply c1;unfold J0;rw[X7,decide_eq_true q0];rfl)
   refine aK G G ⟨ws,h,λj=>?_,(aV).eI a30 hmw⟩;by_cases hj:(j:Int)=i
   ·rw[decide_eq_false (λh=>h hj),kI];rcases Nr with h1|h1
    ·rw[show i.toNat=j from by omega]at h1;exact h1
    ·omega
   ·rw[decide_eq_true hj,l1]
  ·refine aS (aL ?_);obtain⟨j,rfl⟩:∃j:Nat,i=j:=⟨i.toNat,by omega⟩;apply T.qD (M:=M) mixed [] [cj.eq _,cj.eq _,cj.eq _,cj.eq (.slice (some ⟨bw,0,none⟩) ws.length ws.length),cj.eq _,cj.eq _,cj.eq (.pointer (some ⟨bw,((j:Int)/64).toNat,none⟩)),cj.eq (.int .u64 ((ws.getD (j/64) 0:Nat):Int)),cj.eq _,cj.eq _,cj.eq (.int .u64 ((2^(j%64):Nat):Int)),cj.eq (.int .u64 (((ws.getD (j/64) 0^^^2^(j%64)):Nat):Int)),cj.eq (.pointer (some ⟨bw,((j:Int)/64).toNat,none⟩))] 13
   ·rfl
   ·rfl
   ·rfl
   ·rfl
   ·rfl
   ·exact a88
   ·exact oT
   ·refine ay ?_ ?_
    ·intro wD E sD;refine ab G G ?_;exact a01
    refine ay ?_ ?_
    ·intro wD E sD;refine au (bm G ⟨_,G⟩ G ?_);exact a01
    refine ay ?_ ?_
    ·intro wD E sD;refine au (aY fD G G AJ Tg G G ?_);exact a01
    refine ay ?_ ?_
    ·intro wD E sD;refine au (aR dx G G G (ch sD Xf) G ?_);exact a01
    refine ay ?_ ?_
    ·intro wD E sD;refine ab G G ?_;exact a01
    refine ay ?_ ?_
    ·intro wD E sD;refine au (Rg.yq G G G q0 ?_);exact a01
    refine ay ?_ ?_
    ·intro wD E sD;refine au (au (Rg.wG dx ql G G G q0 ?_));exact a01
    refine ay ?_ ?_
    ·intro wD E sD;refine au (aR l8 rfl rfl rfl (sD.aF hW) (v:= .int .u64 ((ws.getD (j/64) 0:Nat):Int)) ag3 ?_);exact a01
    refine ay ?_ ?_
    ·intro wD E sD;refine ab G G ?_;exact a01
    refine ay ?_ ?_
    ·intro wD E sD;refine au (Rg.vZ G G G q0 ?_);exact a01
    refine ay ?_ ?_
    ·intro wD E sD;refine au (Rg.shl G G G q0 (bg (v':= .int .u64 ((2^(j%64):Nat):Int)) (congrArg _ (by rw[show((j:Int)%64)=((j%64:Nat):Int)from by omega];exact XT _ q0)) ?_));exact a01
    refine ay ?_ ?_
    ·intro wD E sD;refine au (au (Rg.xor G G G (bg (v':= .int .u64 (((ws.getD (j/64) 0^^^2^(j%64)):Nat):Int)) (congrArg _ (VX _ _ (fa.get _) (nD Tg q0))) ?_)));exact a01
    refine ay ?_ ?_
    ·intro wD E sD;refine au (au (au (au (au (au (au (au (au (au (au (au ?_)))))))))));refine au (au (Rg.wG dx ql G G G q0 ?_));exact a01
    exact jS
   ·intro wD3 oy;refine au (au (au (au (au (au (au (au (au (au (au (au ?_)))))))))));refine au ?_;refine cv (M:=M) (u:= .int .u64 ((ws.getD (j/64) 0:Nat):Int)) ql rfl rfl (oy.aF hW) (by rw[show((j:Int)/64).toNat=j/64 from by omega];exact il q0) G h.mw (λw5 WN s5=>?_);rw[show((j:Int)/64).toNat=j/64 from by omega,pb]at WN;refine ad (T.aQ (Rg.aZ G G (aJ ?_)));have hX:(ws.getD (j/64) 0^^^2^(j%64))<2^64:=Nat.xor_lt_two_pow (fa.get _) (nD Tg q0);refine aK G G ⟨ws.set (j/64) (ws.getD (j/64) 0^^^2^(j%64)),(h.step oy (λh=>h) (λh=>h)).put s5 (by simp) WN (fa.set hX),λt=>?_,(oy.eI a30 hmw).trans s5 (λ_ _ h=>h)⟩
    have anH:bit ws j=true:=by
     have:=ck.1 c1;unfold J0 at this;rw[ar,cz]at this;exact this.2
    rw[E9 fa q0];by_cases ht:t=j
    ·subst ht;rw[anH];simp
    ·rw[decide_eq_false ht,Bool.xor_false,decide_eq_true q0,l1]
theorem Rb {M:aM} {w0:World} {n:Nat} {ws:List Nat} {bs bw:Nat} (h:gH 128 205 n ws M w0 bs bw) {i:Int} (hb:∀j,bit ws j=true->j<n):
  Spec Tryz.prog 119 #[.pointer (some ⟨bs,0,none⟩),.int .i64 i] w0 (λv' w'=>∃rY,gH 128 205 n rY M w' bs bw/\(∀j:Nat,bit rY j=(bit ws j&&decide ((j:Int)≠i)))/\Step M w0 M w' (λb=>b=bw)):=by
 refine bh (args:=[_,_]) (fn:=Tryz.f119) Tryz.func119 G (n:=8) Tryz.ntmps119 (T.aQ (Rg.aZ G G (T.aQ (ab G G (ab G G ?_)))));refine aP G G E61 (Ra h hb) (λr1 w1 h=>?_);obtain⟨rY,h1,h2,h3⟩:=h;refine Rg.aZ G G (aJ ?_);exact aK G G ⟨rY,h1,h2,h3⟩
theorem xj {M:aM} {w0:World} {n:Nat} (hn:n<=1099511627776):
  Spec Tryz.prog 20 #[.int .i64 n] w0 (λv' w'=>∃bs bw,v'= .pointer (some ⟨bs,0,none⟩)/\w0.heap.size<=bs/\w0.heap.size<=bw/\Step M w0 (ins (ins M bw) bs) w' aC/\gH 128 205 n (List.replicate ((n+63)/64) 0) (ins (ins M bw) bs) w' bs bw):=by
 refine bh (args:=[_]) (fn:=Tryz.f20) Tryz.func20 G (n:=13) Tryz.ntmps20 (T.aQ (Rg.aZ G G (T.aQ (ab G G (Rg.max2 G G G (bg (v':= .int .i64 n) (congrArg _ q0) (Rg.aZ G G ?_)))))));refine T.aQ (ab G G (ab G G (bu G G G q0 (jR G G G q0 (Rg.yq G G G q0 (bg (v':= .int .i64 (((n+63)/64:Nat):Int)) (congrArg _ q0) ?_))))));refine Rg.mk0 M dx ql G G G G q0 q0 (λbw w1 z1 z1' h1 s1=>?_);refine dw (places:=[(0,1),(1,1)]) fD anE anF rfl ⟨_,_,rfl,rfl,_,_,rfl,rfl,rfl⟩ (out:=[_,_]) ⟨0,[_],rfl,rfl,by simp[Value.cells],1,[_],rfl,rfl,by simp[Value.cells],rfl⟩ ?_;refine nS (ins M bw) G G (λbs w2 z2 z2' h2 s2=>?_);have y1:=s1.size;refine Rg.aZ G G (aJ ?_);refine aK rfl rfl ⟨bs,bw,rfl,by omega,z1,s1.aw s2,.inl rfl,.inr (.inl rfl),by omega,by rw[List.length_replicate];exact h2,?_,by simp,λx hx=>by rw[List.eq_of_mem_replicate hx];decide,hn⟩;have:=s2.aF h1;rw[this];simp[qJ]
end Go.K
namespace Go.K
open Go.Proofs
namespace TKSet3
theorem AJ:TI Tryz.prog 126 (.slice none 0 0) 1 24:=by unfold TI;kernel_rfl
theorem ql:TI Tryz.prog 205 (.int .u64 0) 1 8:=by unfold TI;kernel_rfl
theorem afg:Enters Tryz.prog 227:=enters Tryz.func227 rfl Tg
theorem anJ:Enters Tryz.prog 274:=enters Tryz.func274 rfl Tg
end TKSet3
open TKSet3
set_option maxRecDepth 10000
theorem AL {M:aM} {w0:World} {n:Nat} {ws:List Nat} {bs bw:Nat} (h:gH 128 205 n ws M w0 bs bw) {i:Int} (hi: -1<=i/\i<=1099511627776) (hb:∀j,bit ws j=true->j<n) (tab:∃e fr,w0.heap[1]? =some (.cells (Hv.map fun(k:Nat)=>Value.int .u8 (k:Int)).toArray e fr)):
  Spec Tryz.prog 227 #[.pointer (some ⟨bs,0,none⟩),.int .i64 i] w0 (λv' w'=>(∃r,v'= .int .i64 r/\VY ws i.toNat r/\ -1<=r/\r<=1099511627776)/\w0=w'):=by
 have hS:=h.s;have hW:=h.w;have hlen:=h.len;have fa:=h.ok;have Tn:=h.nn;refine bh (args:=[_,_]) (fn:=Tryz.f227) Tryz.func227 G (n:=36) Tryz.ntmps227 (T.aQ (Rg.aZ G G (T.aQ (ab G G (Rg.max2 G G G (bg (v':= .int .i64 (i.toNat:Int)) (congrArg _ q0) (Rg.aZ G G ?_)))))));refine aL (aX ?_);refine dd (σ:=Nat) (λs=>[(0,.pointer (some ⟨bs,0,none⟩)),(1,.int .i64 s)]) (λs w=>w0=w/\i.toNat<=s/\(∀t,i.toNat<=t->t<s->bit ws t=false)/\s<=1099511627840) (λs=>n+64-s) i.toNat a71 ?_ ?_
 ·exact⟨G,bz _,λt h1 h2=>by omega,by omega⟩
 ·rintro p w1 ⟨rfl,hp,jt,sO⟩;refine aL (T.aQ (ab G G (ab G G (bm G ⟨_,G⟩ G (aY fD G G I3 Tg G G (aR al G G G Xf G (cx G G G (ad ?_))))))));refine bE G (λc2=>?_) (λc2=>?_)
  ·refine aS (aX (aL (T.aQ (ab G G (bm G ⟨_,G⟩ G (aY fD G G AJ Tg G G (aR dx G G G Xf G (ab G G (Rg.yq G G G q0 (Rg.wG dx ql G G G q0 ?_))))))))));refine aR l8 rfl rfl rfl hW (v:= .int .u64 ((ws.getD (p/64) 0:Nat):Int)) (by rw[show(((p:Int)/64)).toNat=p/64 from by omega];exact il q0) (ab G G (Rg.vZ G G G q0 (Rg.shr G G G q0 (bg (v':= .int .u64 ((ws.getD (p/64) 0/2^(p%64):Nat):Int)) (congrArg _ (by rw[show((p:Int)%64)=((p%64:Nat):Int)from by omega];exact XS _ _ q0)) (Rg.aZ G G (T.aQ (ab G G (fm G G G (ad ?_)))))))));refine bE G (λc4=>?_) (λc4=>?_)
   ·refine T.aQ (ab G G (ab G G ?_));obtain⟨k,m,HH⟩:=Ou (ws.getD (p/64) 0/2^(p%64)) (Nat.pos_of_ne_zero λh=>c4 (by rw[h];rfl));have Df:=Fb (fa.get _) (show p%64<64 by omega) HH;have anK:ws.getD (p/64) 0/2^(p%64)<2^64:=Nat.lt_of_le_of_lt (Nat.div_le_self _ _) (fa.get _);refine aP G G anJ (BZ (k:=k) (m:=m) tab HH anK) (λr wc h=>?_);obtain⟨rfl,rfl⟩:=h;refine bu G G G q0 (Rg.aZ G G (aJ ?_));have hlb:=λt ht=>(Ds (k:=k) (m:=m)).2 t ht
    have hbk:bit ws (p+k)=true:=by rw[zw Df,HH];exact Ds.1
    have:=hb _ hbk
    exact aK G G ⟨⟨_,G,.inl ⟨p+k,by omega,by omega,hbk,λt h1 h2=>by
     rcases cH t p with h|h
     ·exact jt t h1 h
     ·have h3:=zw (ws:=ws) (i:=p) (t:=t-p) q0;rw[show p+(t-p)=t from by omega]at h3;rw[h3,HH];exact hlb _ q0⟩,by omega,by omega⟩,rfl⟩
   ·have hz0:ws.getD (p/64) 0/2^(p%64)=0:=by
     have:=ck.1 c4;exact Int.ofNat.inj this
    refine aS (aH (ab G G (ab G G (Rg.vZ G G G q0 (jR G G G q0 (bu G G G q0 (Rg.aZ G G ?_)))))));refine⟨rfl,p+(64-p%64),(.cons rfl (.cons (by rw[show((p+(64-p%64):Nat):Int)=(p:Int)+(64-(p:Int)%64)from by omega];rfl) .nil)),?_,?_⟩
    ·refine⟨G,by omega,λt h1 h2=>?_,by omega⟩;rcases cH t p with h|h
     ·exact jt t h1 h
     ·have h3:=zw (ws:=ws) (i:=p) (t:=t-p) q0;rw[show p+(t-p)=t from by omega]at h3;rw[h3,hz0];simp
    ·show n+64-(p+(64-p%64))<n+64-p;omega
  ·refine cN (T.aQ (Rg.aZ G G (aJ ?_)))
   exact aK G G ⟨⟨_,G,.inr ⟨G,λt h1=>by
    rcases cH t p with h|h
    ·exact jt t h1 h
    ·cases QG:bit ws t with
     |false=>rfl
     |true=>have:=hb t QG;omega⟩,by omega,by omega⟩,rfl⟩
theorem Mw {M:aM} {w0:World} {bs:Nat} (hM:Lt M w0):
  Spec Tryz.prog 168 #[.pointer (some ⟨bs,0,none⟩)] w0 (λv' w'=>∃bl,v'= .func (.func 226) #[] #[.pointer (some ⟨bl,0,none⟩)]/\w'.heap[bl]? =some (.cells #[.pointer (some ⟨bs,0,none⟩)] 49 (0,0))/\w0.heap.size<=bl/\Step M w0 M w' aC):=by
 refine bh (args:=[_]) (fn:=Tryz.f168) Tryz.func168 G (n:=4) Tryz.ntmps168 (T.aQ ?_);refine nS M G G (λbl w1 h1 TB hS s1=>?_);change w1.heap[bl]? =some (.cells #[.pointer (some ⟨bs,0,none⟩)] _ _)at hS;refine Rg.aZ G G (T.aQ (iS (xs:=[]) (ys:=[.tmp 1]) G G G (Rg.aZ G G (aJ ?_))));exact aK G G ⟨bl,G,hS,h1,s1.back⟩
theorem Ja {w0:World} {n:Nat} {ws:List Nat} {bs bw bl yl:Nat} {J:Nat->aM->World->Prop} {M:aM} {Jx:World->Prop} (hb:∀j,bit ws j=true->j<n) (UD:∀p M w,J p M w->w.heap[bl]? =some (.cells #[.pointer (some ⟨bs,0,none⟩)] 49 (0,0))/\gH 128 205 n ws M w bs bw/\(∃e fr,w.heap[1]? =some (.cells (Hv.map fun(k:Nat)=>Value.int .u8 (k:Int)).toArray e fr))) (hy:∀(p j:Nat) (M:aM) (w:World),J p M w->p<=j->bit ws j=true->(∀t,p<=t->t<j->bit ws t=false)->zj Tryz.prog yl [.int .i64 j].toArray w (λr w'=>∃c,r= .bool c/\(c=true->∃M',J (j+1) M' w')/\(c=false->Jx w'))) (h0:J 0 M w0):
  Spec Tryz.prog 226 #[.func (.yield yl) #[] #[],.pointer (some ⟨bl,0,none⟩)] w0 (λ_ w'=>(∃p M',J p M' w'∧∀t,p<=t->bit ws t=false)\/Jx w'):=by
 obtain⟨Uy,Ys,anL⟩:=UD _ _ _ h0;refine bh (args:=[_,_]) (fn:=Tryz.f226) Tryz.func226 G (n:=17) Tryz.ntmps226 (T.aQ (aR Tryz.underlying49 G G G Xf G ?_));refine aP G G afg (AL Ys (i:=0) q0 hb anL) (λr wc h=>?_);obtain⟨⟨r,rfl,hr,hr1,Bu⟩,rfl⟩:=h;refine Rg.aZ G G (aX ?_);refine dd (σ:=Nat×Int) (λs=>[(0,.func (.yield yl) #[] #[]),(1,.pointer (some ⟨bl,0,none⟩)),(3,.int .i64 s.2)]) (λs w=>(∃M1,J s.1 M1 w)/\VY ws s.1 s.2/\ -1<=s.2/\s.2<=1099511627776/\s.1<=n) (λs=>n+1-s.1) (0,r) a07 ?_ ?_
 ·exact⟨⟨M,h0⟩,hr,hr1,Bu,a8 _⟩
 ·clear hr hr1 Bu;rintro⟨p,r⟩ w1 ⟨⟨M1,hJ⟩,hr,hr1,Bu,UQ⟩;dsimp only at hJ hr hr1 Bu UQ ⊢;refine aL (T.aQ (ab G G (eB G G G (ab G G ?_))));refine aO (g:=8) G (λiO=>?_) (λiO=>?_)
  ·refine ah G G (ab G G (ah G G (ab G G (ah G G ?_))))
   have hrj:∃j:Nat,r=j/\p<=j/\bit ws j=true/\∀t,p<=t->t<j->bit ws t=false:=by
    rcases hr with h|h
    ·exact h
    ·omega
   obtain⟨j,rfl,hpj,Jb,jt⟩:=hrj;have hjn:=hb j Jb;refine Rg.yield G (vs:=[.int .i64 j]) G G (hy p j M1 _ hJ hpj Jb jt) (λr4 w5 h5=>?_);obtain⟨c,rfl,hc5,UY⟩:=h5;refine bg (v':= .bool (decide (c=true))) (by simp) (aU G G G (ad ?_));refine bE G (λc1=>?_) (λc1=>?_)
   ·obtain⟨M2,hJ2⟩:=hc5 c1;obtain⟨Ht,B6,anN⟩:=UD _ _ _ hJ2;refine aS (aL (aX (aS (aH (aR Tryz.underlying49 G G G Xf G (ab G G (bu G G G q0 ?_)))))));refine aP G G afg (AL B6 (i:=(j:Int)+1) (by have:=B6.nn;omega) hb anN) (λr wc h=>?_);obtain⟨⟨r2,rfl,afj,hr3,hr4⟩,rfl⟩:=h;refine Rg.aZ G G ?_;refine⟨G,(j+1,r2),a07,?_,?_⟩
    ·refine⟨⟨M2,hJ2⟩,?_,hr3,hr4,by simp only;omega⟩;rw[show((j:Int)+1).toNat=j+1 from by omega]at afj;exact afj
    ·simp only;omega
   ·refine cN ?_;change yp Tryz.prog Tryz.f226 (λ_ w'=>(∃p M',J p M' w'∧∀t,p<=t->bit ws t=false)\/Jx w') .normal _ [] _
    first
    |exact kr G (.inr (UY (by simpa using c1)))
    |(have tV:∀t,p<=t->bit ws t=false:=by
       rcases hr with⟨j,h,_⟩|h
       ·omega
       ·exact h.2
      exact kr G (.inl ⟨p,M1,hJ,tV⟩))
  ·refine aj G G G G (aj G G G G (aj G G G G (aB G G G (ad (jF G (cN ?_))))));change yp Tryz.prog Tryz.f226 (λ_ w'=>(∃p M',J p M' w'∧∀t,p<=t->bit ws t=false)\/Jx w') .normal _ [] _
   first
   |exact kr G (.inr (UY (by simpa using c1)))
   |(have tV:∀t,p<=t->bit ws t=false:=by
      rcases hr with⟨j,h,_⟩|h
      ·omega
      ·exact h.2
     exact kr G (.inl ⟨p,M1,hJ,tV⟩))
end Go.K
namespace Go.K
open Go.Proofs
namespace TKSet2
theorem AJ:TI Tryz.prog 126 (.slice none 0 0) 1 24:=by unfold TI;kernel_rfl
theorem ql:TI Tryz.prog 205 (.int .u64 0) 1 8:=by unfold TI;kernel_rfl
theorem E20:Enters Tryz.prog 20:=enters Tryz.func20 rfl Tg
theorem anO:Enters Tryz.prog 174:=enters Tryz.func174 rfl Tg
end TKSet2
open TKSet2
set_option maxRecDepth 10000
theorem CM {ws vs:List Nat} {n:Nat} (hl:ws.length=(n+63)/64) (hv:vs.length=(n+63)/64) (hr:0<n%64) (h1:∀j,j<64*ws.length->bit vs j= !bit ws j) (j:Nat):bit (vs.set (vs.length-1) (vs.getD (vs.length-1) 0%2^(n%64))) j=(decide (j<n)&& !bit ws j):=by
 rw[Du _ q0];by_cases hj:j/64=vs.length-1
 ·rw[if_pos hj,Nat.testBit_mod_two_pow];have h2:=h1 j q0;have h3:(vs.getD (vs.length-1) 0).testBit (j%64)=bit vs j:=by unfold bit;rw[hj]
  rw[h3,h2];congr 1;exact decide_eq_decide.2 q0
 ·rw[if_neg hj];by_cases wu:j<n
  ·rw[h1 j q0,decide_eq_true wu,dr]
  ·rw[decide_eq_false wu,eD,TL q0]
theorem GL {ws vs:List Nat} {n:Nat} (hl:ws.length=(n+63)/64) (hr:n%64=0) (h1:∀j,j<64*ws.length->bit vs j= !bit ws j) (h2:∀j,64*ws.length<=j->bit vs j=false) (j:Nat):bit vs j=(decide (j<n)&& !bit ws j):=by
 by_cases wu:j<n
 ·rw[h1 j q0,decide_eq_true wu,dr]
 ·rw[decide_eq_false wu,eD,h2 j q0]
theorem Mx {M:aM} {w0:World} {n:Nat} {ws:List Nat} {bs bw:Nat} (h:gH 128 205 n ws M w0 bs bw):
  Spec Tryz.prog 174 #[.pointer (some ⟨bs,0,none⟩)] w0 (λv' w'=>∃os ow rY,v'= .pointer (some ⟨os,0,none⟩)/\w0.heap.size<=os/\w0.heap.size<=ow/\Step M w0 (ins (ins M ow) os) w' aC/\gH 128 205 n rY (ins (ins M ow) os) w' os ow/\∀j,bit rY j=(decide (j<n)&& !bit ws j)):=by
 have hS:=h.s;have hW:=h.w;have hlen:=h.len;have fa:=h.ok;have Tn:=h.nn;refine bh (args:=[_]) (fn:=Tryz.f174) Tryz.func174 G (n:=56) Tryz.ntmps174 (T.aQ (Rg.aZ G G (T.aQ (ab G G (bm G ⟨_,G⟩ G (aY fD G G I3 Tg G G (aR al G G G Xf G ?_)))))));refine aP G G E20 (xj (M:=M) Tn) (λr1 w1 h=>?_);obtain⟨os,ow,rfl,z1,z2,s1,hO1⟩:=h;obtain⟨M1,BX⟩:∃M1,M1=ins (ins M ow) os:=⟨_,rfl⟩;rw[<-BX]at s1 hO1;have h1:=h.step s1 (λh=>h) (λh=>h);have hS1:=h1.s;have lbs:=ae hS;have lbw:=ae hW;refine Rg.aZ G G (aL (T.aQ (ab G G (bm G ⟨_,G⟩ G (aY fD G G AJ Tg G G (aR dx G G G Xf G (Rg.tg dx G G (ab G G (ad ?_)))))))));refine aX ?_;refine dd (σ:=Nat×List Nat) (λs=>[(0,.pointer (some ⟨bs,0,none⟩)),(3,.pointer (some ⟨os,0,none⟩)),(15,.slice (some ⟨bw,0,none⟩) ws.length ws.length),(16,.int .i64 ws.length),(17,.int .i64 s.1)]) (λs w=>s.1<=ws.length/\gH 128 205 n ws M1 w bs bw/\gH 128 205 n s.2 M1 w os ow/\(∀j,j<64*s.1->bit s.2 j= !bit ws j)/\(∀j,64*s.1<=j->bit s.2 j=false)/\Step M1 w1 M1 w (λb=>b=ow)) (λs=>ws.length-s.1) (0,List.replicate ((n+63)/64) 0) a56 ?_ ?_
 ·exact⟨a8 _,h1,hO1,λj hj=>by omega,λj hj=>zu _ _,(aV).eI a30 (λb hb=>by rw[hb];exact hO1.mw)⟩
 ·rintro⟨k,vs⟩ w2 ⟨hk,h2,Ea,wK,EL,S2⟩;dsimp only at hk Ea wK EL ⊢;have hS2:=h2.s;have hOS:=Ea.s;have lG:=Ea.len;refine T.aQ (cx G G G (ad (aL ?_)));refine bE G (λc3=>?_) (λc3=>?_)
  ·refine aS (aL (aX (T.aQ (ab G G (Rg.wG dx ql G G G q0 (aR l8 rfl rfl rfl h2.w (v:= .int .u64 ((ws.getD (k) 0:Nat):Int)) (by rw[show((k:Int)).toNat=k from by omega];exact il q0) (aN G G (Rg.aZ G G (aH ?_)))))))));refine ab G G (bm G ⟨_,G⟩ G (aY fD G G AJ Tg G G (aR dx G G G Xf G (ab G G (ab G G (Rg.acs G G (fa.get _) (Rg.wG dx ql G G G q0 ?_)))))));refine cv (M:=M1) (u:= .int .u64 ((vs.getD k 0:Nat):Int)) ql rfl rfl Ea.w (by rw[ar];exact il q0) G Ea.mw (λw5 WN s5=>?_);rw[ar,pb]at WN;refine ad (aH (bu G G G q0 (ab G G (ad ?_))));refine⟨G,(k+1,vs.set k (2^64-1-ws.getD k 0)),a56,?_,?_⟩
   ·refine⟨by simp only;omega,h2.step s5 q0 q0,Ea.put s5 (by simp) WN (Ea.ok.set q0),λj hj=>?_,λj hj=>?_,S2.trans s5 (λ_ _ h=>h)⟩
    ·simp only at hj ⊢;rw[Du _ q0];by_cases hjk:j/64=k
     ·rw[if_pos hjk,Ow (fa.get _) q0];unfold bit;rw[hjk]
     ·rw[if_neg hjk];exact wK j q0
    ·simp only at hj ⊢;rw[Du _ q0,if_neg q0];exact EL j q0
   ·simp only;omega
  ·refine cN (aL (T.aQ (ab G G (bm G ⟨_,G⟩ G (aY fD G G I3 Tg G G (aR al G G G Xf G (Rg.vZ G G G q0 (bg (v':= .int .i64 ((n%64:Nat):Int)) (congrArg _ q0) (Rg.aZ G G ?_)))))))));refine T.aQ (ab G G (eR G G G (ad ?_)));refine bE G (λc8=>?_) (λc8=>?_)
   ·have VV:=Nat.two_pow_pos (n%64);have hp3:2^(n%64)<2^64:=nD Tg q0;apply T.qD (M:=M1) mixed [] [cj.eq _,cj.eq _,cj.eq _,cj.eq (.slice (some ⟨ow,0,none⟩) vs.length vs.length),cj.eq _,cj.eq _,cj.eq _,cj.eq (.slice (some ⟨ow,0,none⟩) vs.length vs.length),cj.eq (.int .i64 vs.length),cj.eq (.int .i64 ((vs.length-1:Nat):Int)),cj.eq (.pointer (some ⟨ow,((vs.length-1:Nat):Int).toNat,none⟩)),cj.eq (.int .u64 ((vs.getD (vs.length-1) 0:Nat):Int)),cj.eq _,cj.eq (.int .u64 ((2^(n%64):Nat):Int)),cj.eq (.int .u64 ((2^(n%64)-1:Nat):Int)),cj.eq (.int .u64 (((vs.getD (vs.length-1) 0%2^(n%64)):Nat):Int)),cj.eq (.pointer (some ⟨ow,((vs.length-1:Nat):Int).toNat,none⟩))] 17
    ·rfl
    ·rfl
    ·rfl
    ·rfl
    ·rfl
    ·exact a88
    ·exact oT
    ·refine ay ?_ ?_
     ·intro wD E sD;refine ab G G ?_;exact a01
     refine ay ?_ ?_
     ·intro wD E sD;refine au (bm G ⟨_,G⟩ G ?_);exact a01
     refine ay ?_ ?_
     ·intro wD E sD;refine au (aY fD G G AJ Tg G G ?_);exact a01
     refine ay ?_ ?_
     ·intro wD E sD;refine au (aR dx G G G (ch sD Xf) G ?_);exact a01
     refine ay ?_ ?_
     ·intro wD E sD;refine ab G G ?_;exact a01
     refine ay ?_ ?_
     ·intro wD E sD;refine au (bm G ⟨_,G⟩ G ?_);exact a01
     refine ay ?_ ?_
     ·intro wD E sD;refine au (aY fD G G AJ Tg G G ?_);exact a01
     refine ay ?_ ?_
     ·intro wD E sD;refine au (aR dx G G G (ch sD Xf) G ?_);exact a01
     refine ay ?_ ?_
     ·intro wD E sD;refine au (Rg.tg dx G G ?_);exact a01
     refine ay ?_ ?_
     ·intro wD E sD;refine au (jR G G G q0 (bg (v':= .int .i64 ((vs.length-1:Nat):Int)) (congrArg _ q0) ?_));exact a01
     refine ay ?_ ?_
     ·intro wD E sD;refine au (au (Rg.wG dx ql G G G q0 ?_));exact a01
     refine ay ?_ ?_
     ·intro wD E sD;refine au (aR l8 rfl rfl rfl (sD.aF Ea.w) (v:= .int .u64 ((vs.getD (vs.length-1) 0:Nat):Int)) (by rw[ar];exact il q0) ?_);exact a01
     refine ay ?_ ?_
     ·intro wD E sD;refine ab G G ?_;exact a01
     refine ay ?_ ?_
     ·intro wD E sD;refine au (Rg.shl G G G q0 (bg (v':= .int .u64 ((2^(n%64):Nat):Int)) (congrArg _ (XT _ q0)) ?_));exact a01
     refine ay ?_ ?_
     ·intro wD E sD;refine au (Rg.Xn rfl rfl rfl (bg (v':= .int .u64 ((2^(n%64)-1:Nat):Int)) (congrArg _ (by rw[show((2^(n%64):Nat):Int)-1=((2^(n%64)-1:Nat):Int)from by omega,Dt,Nat.mod_eq_of_lt q0])) ?_));exact a01
     refine ay ?_ ?_
     ·intro wD E sD;refine au (au (Rg.and G G G (bg (v':= .int .u64 (((vs.getD (vs.length-1) 0%2^(n%64)):Nat):Int)) (congrArg _ (by rw[HM _ _ (Ea.ok.get _) q0,Nat.and_two_pow_sub_one_eq_mod])) ?_)));exact a01
     refine ay ?_ ?_
     ·intro wD E sD;refine au (au (au (au (au (au (au (au (au (au (au (au ?_)))))))))));refine au (au (au (au (au (au (Rg.wG dx ql G G G q0 ?_))))));exact a01
     exact jS
    ·intro Wt BT;refine au (au (au (au (au (au (au (au (au (au (au (au ?_)))))))))));refine au (au (au (au (au ?_))));refine cv (M:=M1) (u:= .int .u64 ((vs.getD (vs.length-1) 0:Nat):Int)) ql rfl rfl (BT.aF Ea.w) (by rw[ar];exact il q0) G Ea.mw (λw9 hW9 s9=>?_);rw[ar,pb]at hW9;refine ad (T.aQ (ab G G (Rg.aZ G G (aJ ?_))));have EX:k=ws.length:=by omega
     first
     |exact aK rfl rfl ⟨os,ow,vs.set (vs.length-1) (vs.getD (vs.length-1) 0%2^(n%64)),rfl,z1,z2,by rw[<-BX];exact(s1.cr S2 (λb hb=>by omega)).aw BT |>.cr s9 (λb hb=>by omega),by rw[<-BX];exact(Ea.step BT (λh=>h) (λh=>h)).put s9 (by simp) hW9 (Ea.ok.set (Nat.lt_of_le_of_lt (Nat.mod_le _ _) (Ea.ok.get _))),λj=>CM hlen lG q0 (by rw[<-EX];exact wK) j⟩
     |exact aK rfl rfl ⟨os,ow,vs,rfl,z1,z2,by rw[<-BX];exact s1.cr S2 (λb hb=>by omega),by rw[<-BX];exact Ea,λj=>GL hlen q0 (by rw[<-EX];exact wK) (by rw[<-EX];exact EL) j⟩
   ·refine aS (T.aQ (ab G G (Rg.aZ G G (aJ ?_))));have EX:k=ws.length:=by omega
    first
    |exact aK rfl rfl ⟨os,ow,vs.set (vs.length-1) (vs.getD (vs.length-1) 0%2^(n%64)),rfl,z1,z2,by rw[<-BX];exact(s1.cr S2 (λb hb=>by omega)).aw BT |>.cr s9 (λb hb=>by omega),by rw[<-BX];exact(Ea.step BT (λh=>h) (λh=>h)).put s9 (by simp) hW9 (Ea.ok.set (Nat.lt_of_le_of_lt (Nat.mod_le _ _) (Ea.ok.get _))),λj=>CM hlen lG q0 (by rw[<-EX];exact wK) j⟩
    |exact aK rfl rfl ⟨os,ow,vs,rfl,z1,z2,by rw[<-BX];exact s1.cr S2 (λb hb=>by omega),by rw[<-BX];exact Ea,λj=>GL hlen q0 (by rw[<-EX];exact wK) (by rw[<-EX];exact EL) j⟩
theorem My {M:aM} {w0:World} {n:Nat} (hn:n<=1099511627776):
  Spec Tryz.prog 118 #[.int .i64 n] w0 (λv' w'=>∃os ow rY M',v'= .pointer (some ⟨os,0,none⟩)/\w0.heap.size<=os/\w0.heap.size<=ow/\Step M w0 M' w' aC/\gH 128 205 n rY M' w' os ow/\∀j,bit rY j=decide (j<n)):=by
 refine bh (args:=[_]) (fn:=Tryz.f118) Tryz.func118 G (n:=6) Tryz.ntmps118 (T.aQ (Rg.aZ G G (T.aQ (ab G G ?_))));refine aP G G E20 (xj (M:=M) hn) (λr1 w1 h=>?_);obtain⟨bs,bw,rfl,z1,z2,s1,h1⟩:=h;refine aP G G anO (Mx h1) (λr2 w2 h=>?_);obtain⟨os,ow,rY,rfl,z3,z4,s2,h2,hb⟩:=h;have y1:=s1.size;refine Rg.aZ G G (aJ ?_);exact aK rfl rfl ⟨os,ow,rY,_,rfl,by omega,by omega,s1.aw s2,h2,λj=>by rw[hb j,zu];simp⟩
end Go.K
namespace Go.K
open Go.Proofs
namespace TKLiveB
theorem afk:Enters Tryz.prog 108:=enters Tryz.func108 rfl Tg
theorem afl:Enters Tryz.prog 118:=enters Tryz.func118 rfl Tg
theorem afm:Enters Tryz.prog 119:=enters Tryz.func119 rfl Tg
end TKLiveB
open TKLiveB
set_option maxRecDepth 10000
end Go.K
namespace Go.K
open Go.Proofs
set_option maxRecDepth 10000
theorem Rc {r:Int} (h:1<=r):∀x∈Lib.encodeRuneZ r,1<=x/\x<=255:=by
 intro x hx;unfold Lib.encodeRuneZ at hx
 split at hx
 ·simp at hx;omega
 ·split at hx
  ·simp at hx;omega
  ·split at hx
   ·simp at hx;omega
   ·split at hx
    ·simp at hx;omega
    ·simp at hx;omega
theorem Z2 {r:Int} (h:1<=r):(0:UInt8)∉Lib.encodeRune r:=λhm=>by
 unfold Lib.encodeRune at hm;obtain⟨x,hx,wg⟩:=cA.1 hm;obtain⟨h1,h2⟩:=Rc h x hx;have:=congrArg UInt8.toNat wg;simp at this;omega
theorem U1 {c:Int} (h:1<=c):1<=rB c:=by unfold rB;split<;>omega
theorem Re {l:List Int} (h:∀c∈l,1<=c):(0:UInt8)∉ic l:=λhm=>by
 unfold ic at hm;obtain⟨c,hc,hx⟩:=List.mem_flatMap.1 hm;exact Z2 (U1 (h c hc)) hx
theorem MA {c:Int} (h:fO c=true\/mG c=true):1<=ez c:=by
 have:1<=c:=by
  rcases h with h|h
  ·unfold fO at h;simp at h;omega
  ·unfold mG at h;simp at h;omega
 unfold ez;split<;>omega
theorem U2 (l:List Int):∀p:List Int×List (List UInt8),(∀c∈p.1,1<=c)->(∀w∈p.2,(0:UInt8)∉w)->(∀c∈(l.foldl eU p).1,1<=c)/\∀w∈(l.foldl eU p).2,(0:UInt8)∉w:=by
 induction l with
 |nil=>intro p h1 h2;exact⟨h1,h2⟩
 |cons c l ih=>
  intro p h1 h2;rw[qq];refine ih _ ?_ ?_
  ·unfold eU
   split
   ·rename_i hc
    intro x hx;rcases dI.1 hx with hx|hx
    ·exact h1 x hx
    ·rw[dn.1 hx];exact MA hc
   ·split<;>(intro x hx;cases hx)
  ·unfold eU
   split
   ·exact h2
   ·split
    ·intro w hw;rcases dI.1 hw with hw|hw
     ·exact h2 w hw
     ·rw[dn.1 hw];exact Re h1
    ·exact h2
theorem GM (l:List UInt8):∀w∈words l,(0:UInt8)∉w:=(U2 _ ([],[]) (λc h=>by cases h) (λw h=>by cases h)).2
theorem GN {a b:Fd} (ha:NA a) (SO:(0:UInt8)∉a.2) (h:dv a=dv b):a=b:=by
 have h1:(dv a).count 0=1:=by
  unfold dv;rw[List.count_append,List.count_append,List.count_eq_zero.2 ha,List.count_eq_zero.2 SO];simp
 have h2:(dv b).count 0=b.1.count 0+1+b.2.count 0:=by
  unfold dv;rw[List.count_append,List.count_append];simp
 rw[h]at h1;exact uI ha (show NA b from List.count_eq_zero.1 q0) h
theorem tC {fs:List Fd} {t:Fd}:t∈(cL fs).map (·.1)↔∃f∈fs,f.1=t.1/\t.2∈words f.2:=by
 unfold cL gP;constructor
 ·intro h;obtain⟨p,hp,rfl⟩:=cA.1 h;obtain⟨f,hf,hp⟩:=List.mem_flatMap.1 hp;obtain⟨q,hq,rfl⟩:=cA.1 hp;exact⟨f,hf,G,(List.mem_zipIdx hq).2.2▸List.getElem_mem _⟩
 ·rintro⟨f,hf,h1,h2⟩;obtain⟨i,hi,he⟩:=List.mem_iff_getElem.1 h2;refine cA.2 ⟨((f.1,t.2),i),List.mem_flatMap.2 ⟨f,hf,cA.2 ⟨(t.2,i),?_,rfl⟩⟩,by rw[h1]⟩;rw[List.mem_zipIdx_iff_getElem?];simp[hi,he]
theorem CN {ws:List (List UInt8)} {x:List UInt8}:0<(ji ws x).length↔x∈ws:=by
 unfold ji;rw[bW,List.length_pos_iff_exists_mem];constructor
 ·rintro⟨p,hp⟩;obtain⟨h1,h2⟩:=gq.1 hp;have h2:p.1=x:=by simpa using h2
  rw[<-h2];rw[List.mem_zipIdx_iff_getElem?]at h1;exact av h1
 ·intro h;obtain⟨i,hi⟩:=bK.1 h;exact⟨(x,i),gq.2 ⟨by rw[List.mem_zipIdx_iff_getElem?];exact hi,by simp⟩⟩
theorem GO {d:Dc} (h:iQ d) {k x:List UInt8}:x∈cZ d.2 k↔∃f∈d.2,f.1=k/\x∈words f.2:=by
 unfold cZ;constructor
 ·intro hx
  split at hx
  ·rename_i f hf
   exact⟨f,List.mem_of_find?_eq_some hf,by simpa using List.find?_some hf,hx⟩
  ·cases hx
 ·rintro⟨f,hf,h1,h2⟩
  split
  ·rename_i g hg
   have hg1:=List.mem_of_find?_eq_some hg;have hg2:g.1=k:=by simpa using List.find?_some hg
   have:g=f:=by
    obtain⟨i,hi⟩:=bK.1 hg1;obtain⟨j,hj⟩:=bK.1 hf
    have jr:i=j:=by
     refine(List.getElem?_inj (by rw[bW];exact(an.1 hi).1) h.once).1 ?_;rw[ek,ek,hi,hj];simp[hg2,h1]
    subst jr;rw[hi]at hj;exact aI hj
   rw[this];exact h2
  ·rename_i hn
   rw[List.find?_eq_none]at hn;exact absurd h1 (by simpa using hn f hf)
theorem Rf {d:Dc} (h:iQ d) (i:Nat) (t:Fd):F4 i (cL d.2) (dv t)≠[]↔0<(ji (cZ d.2 t.1) t.2).length:=by
 rw[CN,GO h];constructor
 ·intro fw;rcases yN h i (dv t)with h1|⟨u,hu,hk,_⟩
  ·exact absurd h1 fw
  ·have Ld:=(jc h.Kp).1 hu;obtain⟨f,hf,K8,Oh⟩:=tC.1 Ld;have e:u=t:=GN (by obtain⟨p,hp,rfl⟩:=cA.1 Ld;exact h.Kp p hp) (GM _ _ Oh) hk;rw[<-e];exact⟨f,hf,K8,Oh⟩
 ·rintro⟨f,hf,h1,h2⟩;exact PN ((jc h.Kp).2 (tC.2 ⟨f,hf,h1,h2⟩))
section
variable {P:Program} {r:Option Nat} {n:Nat} {L:Sl} {ds:List Deferred} {w:World} {K:Kt} {ops:Array Oper} {rest:List Oper} {d:Nat} {x y:Operand} {ty:TypeId} {pos:String} {af:Array Edge}
theorem MB {t:TypeId} {f' g':Field} (hu:P.underlying t=some (.struct #[f',g'])) (hpu:P.stoodInHeld t=false) (hm:f'.name≠ "_") (yY:g'.name≠ "_")
  (o3:f'.offset=0) (o4:g'.offset=1) (s1:P.underlying f'.type=some .string) (s2:P.underlying g'.type=some .string) (a b a' b':List UInt8):
  (Op.equalIn 10000 t (.agg #[.string ⟨a.toArray⟩,.string ⟨b.toArray⟩]) (.agg #[.string ⟨a'.toArray⟩,.string ⟨b'.toArray⟩])).run P w= .ok (decide ((a,b)=(a',b'))) w:=by
 have h1:(Op.equalIn (9999+1) t (.agg #[.string ⟨a.toArray⟩,.string ⟨b.toArray⟩]) (.agg #[.string ⟨a'.toArray⟩,.string ⟨b'.toArray⟩])).run P w= .ok (decide (a=a')&&decide (b=b')) w:=
  GK (k:=9998+1) (a:= .string ⟨a.toArray⟩) (b:= .string ⟨a'.toArray⟩) (a':= .string ⟨b.toArray⟩) (b':= .string ⟨b'.toArray⟩) hu hpu hm yY (lZ s1 (by rw[o3];rfl)) (lZ s1 (by rw[o3];rfl)) (lZ s2 (by rw[o4];rfl)) (lZ s2 (by rw[o4];rfl))
   (by rw[run_equalIn_string w 9998 _ _ _ s1,KF]) (by rw[run_equalIn_string w 9998 _ _ _ s2,KF])
 rw[show(10000:Nat)=9999+1 from rfl,h1];congr 1;by_cases e1:a=a'<;>by_cases e2:b=b'<;>simp[e1,e2]
theorem Rg.anS {t t':TypeId} {f' g':Field} {p q:List UInt8×List UInt8} (hu:P.underlying t=some (.struct #[f',g'])) (hpu:P.stoodInHeld t=false) (hq:P.eqGuardType P.depth t=false) (hm:f'.name≠ "_") (yY:g'.name≠ "_")
  (o3:f'.offset=0) (o4:g'.offset=1) (s1:P.underlying f'.type=some .string) (s2:P.underlying g'.type=some .string)
  (hx:ev L x=some (.agg #[.string ⟨p.1.toArray⟩,.string ⟨p.2.toArray⟩])) (hy:ev L y=some (.agg #[.string ⟨q.1.toArray⟩,.string ⟨q.2.toArray⟩])) (hd:Nat.blt d n=true)
  (k:Rg P r n ops rest ((d,.bool (decide (p=q)))::L) ds w K):
  Rg P r n ops ({dst:=some d,op:= .binOp .eql t x y t',type:=ty,pos,after:=af,guard:=none}::rest) L ds w K:=
 .op a05 rfl rfl hd _ w (λρ h=>by
  have he:(Op.equalIn 10000 t (.agg #[.string ⟨p.1.toArray⟩,.string ⟨p.2.toArray⟩]) (.agg #[.string ⟨q.1.toArray⟩,.string ⟨q.2.toArray⟩])).run P w= .ok (decide (p=q)) w:=MB (P:=P) (w:=w) hu hpu hm yY o3 o4 s1 s2 p.1 p.2 q.1 q.2;simp only[execOp];rw[h x _ hx,h y _ hy];rw[cn,cn,run_eqGuard_agg (P:=P) w .eql t x y _ _ hq];simp only[run_eql_struct,he,cF,cn,nd]) k
variable {N:aM} {wd:World} {dst:Option Nat} {gd:Option (Nat×Bool)}
end
theorem Rh {fs:List Fd} (h:(fs.map (·.1)).Nodup) (t:Fd):ji (cZ fs t.1) t.2=posOf (cL fs) t:=by
 induction fs with
 |nil=>rfl
 |cons x fs ih=>
  have h':=List.nodup_cons.1 h;have e:posOf (cL (x::fs)) t=posOf (gP x) t++posOf (cL fs) t:=by show posOf (gP x++cL fs) t=_;rw[pC]
  by_cases hx:x.1=t.1
  ·rw[e,wV λy hy e=>h'.1 (by have h9:y.1∈fs.map (·.1):=fX hy;rw[e,<-hx]at h9;exact h9),eX];rw[x7 (i:=0) (x:=x) rfl hx (λj y hj=>absurd hj (ec _))];unfold ji posOf gP;rw[List.filter_map,List.map_map];congr 1;refine List.filter_congr λp _=> ?_
   show decide (p.1=t.2)=decide ((x.1,p.1)=t);refine decide_eq_decide.2 ⟨λe=>?_,λe=>?_⟩
   ·rw[hx,e]
   ·rw[<-e]
  ·rw[e,tA hx,jd,<-ih h'.2];congr 1;unfold cZ;rw[List.find?_cons_of_neg ad8]
def E7 (a b:List Fo) (d:Int):Int:=(if th a d then 1 else 0)+(if th b d then 1 else 0)
def Eb (d:Int):Int:=if d<0 then-(d+1)else d
def WO (l:List Int):Prop:=l.Pairwise (· < ·)/\(∀x∈l,0<=x/\x<1000000)/\l.length<=1000
def Ri (tl:List (List Int)) (x:Int) (n:Nat):Bool:=(List.range n).all λk=>(tl.getD k []).contains (x+1+k)
theorem uZ (tl:List (List Int)) (x:Int) (n:Nat):Ri tl x (n+1)=(Ri tl x n&&(tl.getD n []).contains (x+1+n)):=by simp[Ri,qp]
def B0 (tl:List (List Int)) (l:List Int) (n:Nat):Nat:=((l.take n).filter λx=>Ri tl x tl.length).length
def KG:List (List Int)->Nat
 |[]=>0
 |l::tl=>B0 tl l l.length
theorem rF {tl:List (List Int)} {l:List Int} {n:Nat} {x:Int} (h:l[n]? =some x):B0 tl l (n+1)=B0 tl l n+if Ri tl x tl.length then 1 else 0:=by
 obtain⟨h1,h2⟩:=an.1 h;unfold B0;rw[eQ h1,h2,eE,bM];congr 1;by_cases hx:Ri tl x tl.length=true
 ·rw[if_pos hx];simp[List.filter,hx]
 ·rw[if_neg hx];simp[List.filter,hx]
theorem U3 (tl:List (List Int)) (l:List Int) (n:Nat):B0 tl l n<=n:=by
 unfold B0;refine dz (eu _ _) ?_;rw[a7];omega
theorem anT (n:Nat):((n:Int)).fdiv (2^min (Int.toNat 1) IntKind.u64.bits)=((n/2:Nat):Int):=by
 change Int.fdiv (n:Int) 2=_;rw[Int.fdiv_eq_ediv_of_nonneg _ Tg];omega
theorem Ec {l:List Int} (h:l.Pairwise (· < ·)) {i j:Nat} {x y:Int} (hx:l[i]? =some x) (hy:l[j]? =some y) (jr:i<j):x<y:=by
 obtain⟨h1,h2⟩:=an.1 hx;obtain⟨h3,h4⟩:=an.1 hy;rw[<-h2,<-h4];exact(List.pairwise_iff_getElem.1 h) i j h1 h3 jr
theorem Jc {l:List Int} (h:l.Pairwise (· < ·)) {x:Int} {i:Nat} (h1:∀t y,t<i->l[t]? =some y->y<x) (h2:∀t y,i<=t->l[t]? =some y->x<=y):l.contains x=decide (l[i]? =some x):=by
 rw[j6,gj,decide_eq_true_iff];constructor
 ·intro hm;obtain⟨t,ht⟩:=bK.1 hm;rcases ff t i with h3|h3|h3
  ·have:=h1 t x h3 ht;omega
  ·rw[<-h3];exact ht
  ·have hl:=(an.1 ht).1;obtain⟨y,hy⟩:∃y,l[i]? =some y:=⟨_,aq q0⟩;have:=Ec h hy ht h3;have:=h2 i y (bz _) hy;omega
 ·exact λhm=>av hm
theorem Ed {M:aM} {w:World} {d s:Int} {v:Value} (h:RT.fo.V M w (d,s) v):v= .agg #[.int .i64 d,.int .i64 s]:=by
 obtain⟨vs,⟨va,vb,rfl,⟨rfl,hd⟩,⟨rfl,hb⟩⟩,rfl⟩:=h;rfl
section
variable {P:Program} {r:Option Nat} {n:Nat} {L:Sl} {ds:List Deferred} {w:World} {K:Kt} {ops:Array Oper} {rest:List Oper} {d:Nat} {x y:Operand} {ty:TypeId} {pos:String} {af:Array Edge}
theorem Rg.afn {t t':TypeId} {a b:Value} {c:Bool} (hg:∀w,(eqGuard .eql t x y a b).run P w= .ok () w) (he:∀w,(binOp .eql t a b).run P w= .ok (.bool c) w) (hx:ev L x=some a) (hy:ev L y=some b) (hd:Nat.blt d n=true)
  (k:Rg P r n ops rest ((d,.bool c)::L) ds w K):
  Rg P r n ops ({dst:=some d,op:= .binOp .eql t x y t',type:=ty,pos,after:=af,guard:=none}::rest) L ds w K:=
 .op a05 rfl rfl hd _ w (λρ h=>by
  simp only[execOp];rw[h x _ hx,h y _ hy];rw[cn,cn,hg];simp[he]) k
end
def iq (f:En->Option Int):Nat->List En->List Fo
 |_,[]=>[]
 |i,e::L=>match f e with
  |some s=>((i:Int),s)::iq f (i+1) L
  |none=>iq f (i+1) L
theorem yQ {f:En->Option Int} {p:Fo}:∀{L:List En} {i:Nat},p∈iq f i L↔∃(d:Nat) (e:En),L[d]? =some e/\p.1=((i+d:Nat):Int)/\f e=some p.2
 |[],i=>by simp[iq]
 |e::L,i=>by
  have key:p∈iq f i (e::L)↔(p.1=(i:Int)/\f e=some p.2)\/p∈iq f (i+1) L:=by
   rw[iq]
   cases he:f e with
   |none=>simp
   |some s=>
    rw[du];constructor
    ·rintro(h|h)
     ·exact .inl ⟨by rw[h],by rw[h]⟩
     ·exact .inr h
    ·rintro(⟨h1,h2⟩|h)
     ·exact .inl (Prod.ext h1 (by simpa using h2.symm))
     ·exact .inr h
  rw[key,yQ (L:=L)];constructor
  ·rintro(⟨h1,h2⟩|⟨d,x,h1,h2,h3⟩)
   ·exact⟨0,e,G,h1,h2⟩
   ·exact⟨d+1,x,by simpa using h1,by rw[h2];congr 1;omega,h3⟩
  ·rintro⟨d,x,h1,h2,h3⟩
   cases d with
   |zero=>simp at h1;subst h1;exact .inl ⟨h2,h3⟩
   |succ d=>exact .inr ⟨d,x,by simpa using h1,by rw[h2];congr 1;omega,h3⟩
theorem nC {f:En->Option Int} {L:List En} {i:Nat} {p:Fo} (h:p∈iq f i L):(i:Int)<=p.1/\p.1<i+L.length:=by
 obtain⟨d,e,h1,h2,_⟩:=yQ.1 h;have:=(an.1 h1).1;omega
theorem Rj {f:En->Option Int}:∀(L:List En) (i:Nat),(iq f i L).Pairwise λa b=>a.1<b.1
 |[],_=>List.Pairwise.nil
 |e::L,i=>by
  rw[iq]
  split
  ·refine jO.2 ⟨λp hp=>?_,Rj L (i+1)⟩;have:=nC hp;simp only;omega
  ·exact Rj L (i+1)
theorem kC {f:En->Option Int}:∀(L:List En) (i:Nat),(iq f i L).length<=L.length
 |[],_=>bz _
 |e::L,i=>by
  have:=kC (f:=f) L (i+1);rw[iq]
  split<;>simp only[cJ]<;>omega
theorem kW {f g:En->Option Int}:∀{L:List En} {i:Nat},(∀e∈L,f e=g e)->iq f i L=iq g i L
 |[],_,_=>rfl
 |e::L,i,h=>by rw[iq,iq,h e (bO ..),kW (L:=L) λx hx=>h x (cu _ hx)]
def Ee (f:En->Option Int) (i:Nat) (e:En):List Fo:=match f e with
 |some s=>[((i:Int),s)]
 |none=>[]
theorem AM {f:En->Option Int} {e:En}:∀(L:List En) (i:Nat),iq f i (L++[e])=iq f i L++Ee f (i+L.length) e
 |[],i=>by
  show iq f i [e]=[]++_;rw[iq,iq,Ee];cases f e<;>simp
 |x::L,i=>by
  rw[vW,iq,iq,AM L (i+1),show i+1+L.length=i+(x::L).length by simp only[cJ];omega]
  cases f x<;>simp
theorem oM {f:En->Option Int} {L:List En} {i:Nat} {e:En} (h:L[i]? =some e):iq f 0 (L.take (i+1))=iq f 0 (L.take i)++Ee f i e:=by
 have hi:=(an.1 h).1;rw[bY,h,dp,AM,a7,yT (Nat.le_of_lt hi),nQ]
theorem afo {l:List Fo} {x i:Int} (h:∀p∈l,i<=p.1) (hx:i<=x):i<=mn l x:=by
 unfold mn
 cases l with
 |nil=>exact hx
 |cons p l=>have:=h p (bO ..);simp only;omega
theorem KH {l:List Fo} {x:Int} (h:∀p∈l,x<=p.1):mn l x=x:=by
 unfold mn
 cases l with
 |nil=>rfl
 |cons p l=>have:=h p (bO ..);simp only;omega
theorem Rk {l:List Fo} {x:Int} (h:∀p∈l,x<p.1):hit l x=false:=by
 unfold hit
 cases l with
 |nil=>rfl
 |cons p l=>have:=h p (bO ..);simp only[decide_eq_false_iff_not];omega
theorem KI {l:List Fo} {x:Int} (h:hit l x=false):fU l x=l:=by unfold fU;rw[h];rfl
theorem yR {x:Int} (h:0<=x/\x<=9223372036854775807):IntKind.i64.wrap x=x:=by
 show(if(true&&decide (x%18446744073709551616>=9223372036854775808))=true then x%18446744073709551616-18446744073709551616 else x%18446744073709551616)=x;rw[Int.emod_eq_of_lt h.1 q0,if_neg a11]
def Rl (a b:Option Int):Option Int:=match a,b with
 |some x,some y=>some (x+y)
 |_,_=>none
def orO (a b:Option Int):Option Int:=match a,b with
 |none,none=>none
 |a,b=>some (a.getD 0+b.getD 0)
def oN (least:Int) (a b:Option Int):Option Int:=if least<=1 then orO a b else Rl a b
theorem KJ {least:Int} (hl:least=1\/least=2) {f g:En->Option Int}:∀(L:List En) (i:Nat),i+L.length<=2147483648->(∀e∈L,∀s,(f e=some s\/g e=some s)->0<=s/\s<=4611686018427387903)->EE least (iq f i L) (iq g i L)=iq (λe=>oN least (f e) (g e)) i L
 |[],i,_,_=>rfl
 |e::L,i,hi,hb=>by
  have ih:=KJ hl (f:=f) (g:=g) L (i+1) (by simp only[cJ]at hi;omega) λx hx=>hb x (cu _ hx)
  simp only[cJ]at hi;have ra:∀p∈iq f (i+1) L,(i:Int)<p.1:=λp hp=>by have:=nC hp;omega
  have rb:∀p∈iq g (i+1) L,(i:Int)<p.1:=λp hp=>by have:=nC hp;omega
  have oa:sd (iq f (i+1) L):=λp hp=>by have:=nC hp;omega
  have ob:sd (iq g (i+1) L):=λp hp=>by have:=nC hp;omega
  have hbe:=hb e (bO ..);rw[iq,iq,iq];generalize iq f (i+1) L=a at ih ra oa;generalize iq g (i+1) L=b at ih rb ob
  have ca:∀x:Int,sd (((i:Int),x)::a):=λx p hp=>by
   rcases du.1 hp with rfl|hp
   ·simp only;omega
   ·exact oa p hp
  have cb:∀x:Int,sd (((i:Int),x)::b):=λx p hp=>by
   rcases du.1 hp with rfl|hp
   ·simp only;omega
   ·exact ob p hp
  have la:=λx hx=>afo (l:=a) (x:=x) (i:=(i:Int)) (λp hp=>by have:=ra p hp;omega) hx
  have na:=Rk ra;have nb:=Rk rb;have h0:mn a (i:Int)=i:=KH λp hp=>by have:=ra p hp;omega
  have h1:mn b (i:Int)=i:=KH λp hp=>by have:=rb p hp;omega
  have hc:∀(x:Int) (l:List Fo),hit (((i:Int),x)::l) i=true:=λx l=>by simp[hit]
  have hr:∀(x:Int) (l:List Fo),fU (((i:Int),x)::l) i=l:=λx l=>by unfold fU;rw[hc];rfl
  have m0:min (2147483648:Int) (i:Int)=i:=by omega
  cases hf:f e with
  |none=>
   cases hg:g e with
   |none=>
    have:oN least none none=none:=by unfold oN;split<;>rfl
    simp only[this];exact ih
   |some y=>
    have hy:=hbe y (.inr hg)
    have hx:jv a (((i:Int),y)::b)=i:=by
     show min (mn a 2147483648) (i:Int)=i;have:=la 2147483648 q0;omega
    have hm:rZ a (((i:Int),y)::b) 2=1:=by simp[rZ,ou,hx,na,hc]
    have hs:sa a (((i:Int),y)::b) 2=y:=by
     simp only[sa,ot,hx,na,hc];simp;exact yR q0
    show EE least a (((i:Int),y)::b)=_;rw[uq oa (cb y) (.inr (by simp)),hx,hm,hs,KI na,hr,ih];rcases hl with rfl|rfl
    ·simp[oN,orO]
    ·simp[oN,Rl]
  |some x=>
   have Pk:=hbe x (.inl hf)
   cases hg:g e with
   |none=>
    have hx:jv (((i:Int),x)::a) b=i:=by
     show mn b (min 2147483648 (i:Int))=i;rw[m0,h1]
    have hm:rZ (((i:Int),x)::a) b 2=1:=by simp[rZ,ou,hx,nb,hc]
    have hs:sa (((i:Int),x)::a) b 2=x:=by
     simp only[sa,ot,hx,nb,hc];simp;exact yR q0
    show EE least (((i:Int),x)::a) b=_;rw[uq (ca x) ob (.inl (by simp)),hx,hm,hs,KI nb,hr,ih];rcases hl with rfl|rfl
    ·simp[oN,orO]
    ·simp[oN,Rl]
   |some y=>
    have hy:=hbe y (.inr hg)
    have hx:jv (((i:Int),x)::a) (((i:Int),y)::b)=i:=by
     show min (min 2147483648 (i:Int)) (i:Int)=i;omega
    have hm:rZ (((i:Int),x)::a) (((i:Int),y)::b) 2=2:=by simp[rZ,ou,hx,hc]
    have hs:sa (((i:Int),x)::a) (((i:Int),y)::b) 2=x+y:=by
     simp only[sa,ot,hx,hc];simp;rw[yR (x:=x) q0,yR q0]
    show EE least (((i:Int),x)::a) (((i:Int),y)::b)=_;rw[uq (ca x) (cb y) (.inl (by simp)),hx,hm,hs,hr,hr,ih];rcases hl with rfl|rfl
    ·simp[oN,orO]
    ·simp[oN,Rl]
def U4 (a:Option Int):Option Int:=match a with
 |some _=>none
 |none=>some 0
theorem Rm {f:En->Option Int} {L:List En} {d:Nat} {e:En} (h:L[d]? =some e):th (iq f 0 L) (d:Int)=(f e).isSome:=by
 rw[j6];unfold th;rw[jG];constructor
 ·rintro⟨p,hp,hd⟩;obtain⟨d',x,h1,h2,h3⟩:=yQ.1 hp;have hd:p.1=(d:Int):=by simpa using hd
  obtain rfl:d'=d:=by omega
  rw[h]at h1;cases h1;rw[h3];rfl
 ·intro hs;obtain⟨s,hs⟩:=Option.isSome_iff_exists.1 hs;exact⟨((d:Int),s),yQ.2 ⟨d,e,h,by simp,hs⟩,by simp⟩
theorem CO {f:En->Option Int} {L:List En}:∀k,k<=L.length->qK (iq f 0 L) k=iq (λe=>U4 (f e)) 0 (L.take k)
 |0,_=>by simp[qK,iq]
 |k+1,hk=>by
  obtain⟨e,he⟩:∃e,L[k]? =some e:=⟨_,aq q0⟩;have ih:=CO (f:=f) (L:=L) k q0;rw[oM he,<-ih];unfold qK;rw[qp,eE,dU];congr 1;rw[List.filter_cons,Rm he,Ee]
  cases f e<;>simp[U4]
theorem Rn {f:En->Option Int} {L:List En}:qK (iq f 0 L) L.length=iq (λe=>U4 (f e)) 0 L:=by
 rw[CO _ (bz _),bp (bz _)]
theorem pQ (ws:List (List UInt8)) (x:List UInt8):ji ws x=((List.range ws.length).filter λi=>decide (ws[i]? =some x)).map fun(i:Nat)=>(i:Int):=by
 have key:∀k,k<=ws.length->ji (ws.take k) x=((List.range k).filter λi=>decide (ws[i]? =some x)).map fun(i:Nat)=>(i:Int):=by
  intro k
  induction k with
  |zero=>intro _;simp[ji]
  |succ k ih=>
   intro hk;obtain⟨y,hy⟩:∃y,ws[k]? =some y:=⟨_,aq q0⟩;rw[xi hy,ih q0,qp,eE,dU];by_cases e:y=x
   ·subst e;rw[if_pos rfl];simp[List.filter,hy]
   ·rw[if_neg e];simp[hy,e]
 have:=key ws.length (bz _)
 rwa [bp (bz _)]at this
theorem GP {ws:List (List UInt8)} {x:List UInt8} {i:Nat}:(ji ws x).contains (i:Int)=decide (ws[i]? =some x):=by
 rw[j6,gj,pQ,decide_eq_true_iff];constructor
 ·intro h;obtain⟨j,hj,e⟩:=cA.1 h;have:=(gq.1 hj).2;obtain rfl:j=i:=by omega
  simpa using this
 ·intro h;exact cA.2 ⟨i,gq.2 ⟨List.mem_range.2 (an.1 h).1,by simpa using h⟩,rfl⟩
def vm (ws xs:List (List UInt8)) (n:Nat):Nat:=((List.range n).filter λi=>decide ((ws.drop i).take xs.length=xs)).length
def qm (ws xs:List (List UInt8)):Nat:=if xs=[]then 0 else vm ws xs ws.length
theorem xm (ws xs:List (List UInt8)) (n:Nat):vm ws xs (n+1)=vm ws xs n+if(ws.drop n).take xs.length=xs then 1 else 0:=by
 unfold vm;rw[qp,eE,bM];by_cases h:(ws.drop n).take xs.length=xs
 ·rw[if_pos h];simp[List.filter,h]
 ·rw[if_neg h];simp[List.filter,h]
theorem KK (ws xs:List (List UInt8)) (n:Nat):vm ws xs n<=n:=by
 unfold vm;exact dz (eu _ _) (by simp)
theorem KL (ws xs:List (List UInt8)):qm ws xs<=ws.length:=by
 unfold qm;split
 ·exact a8 _
 ·exact KK _ _ _
theorem CP {ws xs:List (List UInt8)} {n:Nat} (h0:0<xs.length) (hn:ws.length<n+xs.length):∀k,vm ws xs (n+k)=vm ws xs n
 |0=>rfl
 |k+1=>by
  have jt: ¬(ws.drop (n+k)).take xs.length=xs:=λh=>by
   have:=congrArg List.length h;rw[a7,cW]at this;omega
  rw[<-Nat.add_assoc,xm,CP h0 hn k,if_neg jt,Nat.add_zero]
theorem GQ {ws xs:List (List UInt8)} {n:Nat} (hx:xs≠[]) (hn:ws.length<n+xs.length) (hl:n<=ws.length):qm ws xs=vm ws xs n:=by
 unfold qm;rw[if_neg hx];have:=CP (dC.2 hx) hn (ws.length-n)
 rwa [show n+(ws.length-n)=ws.length by omega]at this
theorem Z3 {ws:List (List UInt8)} {x:List UInt8} {tl:List (List UInt8)} {i:Nat}:(ws.drop i).take (x::tl).length=x::tl↔ws[i]? =some x/\∀k,k<tl.length->ws[i+1+k]? =tl[k]? :=by
 have hg:∀j,j<(x::tl).length->((ws.drop i).take (x::tl).length)[j]? =ws[i+j]? :=λj hj=>by rw[dm,if_pos hj,iB]
 constructor
 ·intro h;refine⟨?_,λk hk=>?_⟩
  ·have:=hg 0 (by simp);rw[h]at this;simpa using this.symm
  ·have:=hg (k+1) (by simpa using hk);rw[h]at this;rw[show i+1+k=i+(k+1) by omega,<-this];simp
 ·rintro⟨h1,h2⟩;apply ja;intro j;rcases cH j (x::tl).length with hj|hj
  ·rw[hg j hj]
   cases j with
   |zero=>simpa using h1
   |succ j=>rw[show i+(j+1)=i+1+j by omega,h2 j a97];simp
  ·rw[cM hj,cM (by rw[a7];omega)]
theorem Ro {ws:List (List UInt8)} {tl:List (List UInt8)} {i:Nat}:Ri (tl.map (ji ws)) (i:Int) (tl.map (ji ws)).length=true↔∀k,k<tl.length->ws[i+1+k]? =tl[k]? :=by
 unfold Ri;rw[dZ,bW];constructor
 ·intro h k hk;have:=h k (List.mem_range.2 hk);have qa:tl[k]? =some tl[k]:=aq hk;rw[cg,ek,qa,show(i:Int)+1+(k:Int)=((i+1+k:Nat):Int) by omega]at this;simp only[eY,Option.getD_some]at this;rw[GP,decide_eq_true_iff]at this;rw[qa];exact this
 ·intro h k hk;have hk:=List.mem_range.1 hk;have qa:tl[k]? =some tl[k]:=aq hk;rw[cg,ek,qa,show(i:Int)+1+(k:Int)=((i+1+k:Nat):Int) by omega];simp only[eY,Option.getD_some];rw[GP,decide_eq_true_iff,h k hk,qa]
theorem Rp (ws:List (List UInt8)) (x:List UInt8) (tl:List (List UInt8)):KG ((x::tl).map (ji ws))=qm ws (x::tl):=by
 rw[eV];show B0 _ _ _=_;unfold qm B0 vm;rw[if_neg (by simp),bp (bz _)]
 conv=>lhs;rw[pQ ws x]
 rw[List.filter_map,bW,List.filter_filter];congr 1;refine List.filter_congr λi _=> ?_
 rw[j6];simp only[Function.comp,cz,decide_eq_true_iff];rw[Ro,Z3];exact⟨λh=>⟨h.2,h.1⟩,λh=>⟨h.2,h.1⟩⟩
def rR (n:Nat):Option Int:=if 0<n then some (n:Int)else none
def ly (l:List (Option Int)):Int:=(l.map λo=>o.getD 0).sum
mutual
def eF (fs:List Fd):Qy->Option Int
 |.mk k t ws ks=>
  if k=1 then rR (ji (cZ fs t.1) t.2).length
  else if k=5 then rR (qm (cZ fs t.1) ws)
  else if k=2 then(if(vq fs ks).all Option.isSome=true then some (ly (vq fs ks))else none)
  else if k=3 then(if(vq fs ks).any Option.isSome=true then some (ly (vq fs ks))else none)
  else(if(vq fs ks).any Option.isSome=true then none else some 0)
def vq (fs:List Fd):List Qy->List (Option Int)
 |[]=>[]
 |q::ks=>eF fs q::vq fs ks
end
theorem AN (fs:List Fd):∀ks,vq fs ks=ks.map (eF fs)
 |[]=>by rw[vq];rfl
 |q::ks=>by rw[vq,AN fs ks];rfl
def cR (w:List UInt8):Bool:=decide (words w=[w]/\w.length<=30)
def iR (k:Int) (t:Fd) (ws:List (List UInt8)) (n:Nat):Int:=
 if k<1\/5<k then 9
 else if 2<=k/\k<=4 then(if¬t=([],[])\/¬ws=[]\/n=0 then 9 else if 8<n\/(k=4/\1<n)then 7 else 0)
 else if 0<n\/(k=1/\¬ws=[])\/(k=5/\¬t.2=[])then 9
 else if eA t.1=false then 4
 else if k=1 then(if cR t.2=true then 0 else 9)
 else if ws=[]then 9 else if ws.all cR=false then 9 else if 6<ws.length then 7 else 0
mutual
def fP:Qy->Nat->Int
 |.mk k t ws ks,deep=>if 6<deep then 8 else if¬iR k t ws ks.length=0 then iR k t ws ks.length else vu ks (deep+1)
def vu:List Qy->Nat->Int
 |[],_=>0
 |q::ks,deep=>if¬fP q deep=0 then fP q deep else vu ks deep
end
def fI (k:Int):Int:=1+Eb k%5
def fi (s:List UInt8):List UInt8:=if eA s=true then s else[116]
def KM (t:Fd):Qy:= .mk 1 (fi t.1,if cR t.2=true then t.2 else[97]) [] []
def jQ (ws:List (List UInt8)):List (List UInt8):=(ws.take 3).filter cR
mutual
def fk:Qy->Nat->Qy
 |.mk k t ws ks,deep=>
  if(2<=fI k/\fI k<=4)/\deep<4/\¬ks=[]then .mk (fI k) ([],[]) [] ((pR ks (deep+1)).take (if fI k=4 then 1 else 3))
  else if fI k=5/\¬jQ ws=[]then .mk 5 (fi t.1,[]) (jQ ws) []
  else KM t
def pR:List Qy->Nat->List Qy
 |[],_=>[]
 |q::ks,deep=>fk q deep::pR ks deep
end
theorem tD:∀(ks:List Qy) (deep:Nat),pR ks deep=ks.map λq=>fk q deep
 |[],_=>by rw[pR];rfl
 |q::ks,deep=>by rw[pR,tD ks deep];rfl
theorem AO:∀{ks:List Qy} {deep:Nat},vu ks deep=0↔∀q∈ks,fP q deep=0
 |[],_=>by rw[vu];simp
 |q::ks,deep=>by
  rw[vu,List.forall_mem_cons,<-AO (ks:=ks)];by_cases h:fP q deep=0
  ·rw[if_neg (λh'=>h' h)];simp[h]
  ·rw[if_pos h];simp[h]
theorem pS {k:Int} {t:Fd} {ws:List (List UInt8)} {ks:List Qy} {deep:Nat}:fP (.mk k t ws ks) deep=0↔deep<=6/\iR k t ws ks.length=0/\∀q∈ks,fP q (deep+1)=0:=by
 rw[fP,<-AO];by_cases h:6<deep
 ·rw[if_pos h];constructor
  ·intro h';cases h'
  ·rintro⟨h',_⟩;omega
 ·rw[if_neg h];by_cases h2:iR k t ws ks.length=0
  ·rw[if_neg (λh'=>h' h2)];exact⟨λh3=>⟨by omega,h2,h3⟩,λh3=>h3.2.2⟩
  ·rw[if_pos h2];exact⟨λh3=>absurd h3 h2,λh3=>h3.2.1⟩
theorem tF {k:Int} {t:Fd} {ws:List (List UInt8)} {n:Nat} (h:iR k t ws n=0):(k=1/\n=0/\eA t.1=true/\cR t.2=true)\/(k=5/\n=0/\eA t.1=true/\¬ws=[]/\ws.all cR=true/\ws.length<=6)\/((k=2\/k=3)/\0<n/\n<=8)\/(k=4/\n=1):=by
 unfold iR at h;by_cases h1:k<1\/5<k
 ·rw[if_pos h1]at h;cases h
 rw[if_neg h1]at h;by_cases h2:2<=k/\k<=4
 ·rw[if_pos h2]at h;by_cases h3: ¬t=([],[])\/¬ws=[]\/n=0
  ·rw[if_pos h3]at h;cases h
  rw[if_neg h3]at h;by_cases h4:8<n\/(k=4/\1<n)
  ·rw[if_pos h4]at h;cases h
  have h5: ¬n=0:=λe=>h3 (.inr (.inr e))
  by_cases h6:k=4
  ·exact .inr (.inr (.inr ⟨h6,by omega⟩))
  ·exact .inr (.inr (.inl ⟨by omega,by omega,by omega⟩))
 ·rw[if_neg h2]at h;by_cases h3:0<n\/(k=1/\¬ws=[])\/(k=5/\¬t.2=[])
  ·rw[if_pos h3]at h;cases h
  rw[if_neg h3]at h
  have hn:n=0:=by
   rcases Nat.eq_zero_or_pos n with h4|h4
   ·exact h4
   ·exact absurd (.inl h4) h3
  cases h4:eA t.1 with
  |false=>rw[if_pos h4]at h;cases h
  |true=>
   rw[if_neg (by rw[h4];decide)]at h;by_cases h5:k=1
   ·rw[if_pos h5]at h;by_cases h6:cR t.2=true
    ·exact .inl ⟨h5,hn,G,h6⟩
    ·rw[if_neg h6]at h;cases h
   ·rw[if_neg h5]at h;by_cases h6:ws=[]
    ·rw[if_pos h6]at h;cases h
    rw[if_neg h6]at h;by_cases h7:ws.all cR=false
    ·rw[if_pos h7]at h;cases h
    rw[if_neg h7]at h;by_cases h8:6<ws.length
    ·rw[if_pos h8]at h;cases h
    exact .inr (.inl ⟨by omega,hn,rfl,h6,by simpa using h7,by omega⟩)
def tG (deep:Nat):Int:=500*8^(7-deep)
theorem AP {l:List (Option Int)} {B:Int} (hB:0<=B) (h:∀o∈l,∀s,o=some s->0<=s/\s<=B):0<=ly l/\ly l<=l.length*B:=by
 unfold ly
 induction l with
 |nil=>simp
 |cons o l ih=>
  obtain⟨h1,h2⟩:=ih λx hx=>h x (cu _ hx)
  have h3:0<=o.getD 0/\o.getD 0<=B:=by
   cases o with
   |none=>exact⟨rl _,hB⟩
   |some s=>exact h _ (bO ..) s rfl
  have h4:((o::l).length:Int)*B=l.length*B+B:=by
   simp only[cJ];rw[show((l.length+1:Nat):Int)=(l.length:Int)+1 by omega,Int.add_mul,Int.one_mul]
  rw[eV,List.sum_cons,h4];omega
theorem GR (deep:Nat):0<=tG deep:=by unfold tG;exact Int.mul_nonneg Tg (Int.pow_nonneg Tg)
theorem MC {deep:Nat} (h:deep<=6):tG deep=8*tG (deep+1):=by
 unfold tG;obtain⟨n,hn⟩:∃n,7-deep=n+1:=⟨7-deep-1,by omega⟩;rw[show 7-(deep+1)=n by omega,hn,Int.pow_succ];omega
theorem Jd {deep:Nat}:500<=tG deep:=by
 unfold tG;have:(0:Int)<8^(7-deep):=Int.pow_pos Tg;omega
theorem xn {deep:Nat} (h:1<=deep):tG deep<=131072000:=by
 unfold tG;have:deep=1\/deep=2\/deep=3\/deep=4\/deep=5\/deep=6\/7<=deep:=by omega
 rcases this with rfl|rfl|rfl|rfl|rfl|rfl|h
 all_goals try decide
 rw[show 7-deep=0 by omega];decide
mutual
theorem rf (fs:List Fd) (hw:∀k,(cZ fs k).length<=500):∀(q:Qy) (deep:Nat),fP q deep=0->∀s,eF fs q=some s->0<=s/\s<=tG deep
 |.mk k t ws ks,deep,hm,s,hs=>by
  obtain⟨h1,h2,h3⟩:=pS.1 hm;have hc:=Jd (deep:=deep);have h4:=GS fs hw ks (deep+1) h3;have h5:(vq fs ks).length=ks.length:=by rw[AN,bW]
  have VI:=MC h1;have hcp:=GR (deep+1);have h6:=AP hcp h4;rw[eF]at hs
  have hcn:∀n:Nat,n<=500->rR n=some s->0<=s/\s<=tG deep:=λn hn h=>by
   unfold rR at h
   split at h
   ·cases h;omega
   ·cases h
  have Wz:(k=2\/k=3)->ks.length<=8:=λhk=>by
   rcases tF h2 with⟨h,_⟩|⟨h,_⟩|⟨_,_,h⟩|⟨h,_⟩
   ·omega
   ·omega
   ·exact h
   ·omega
  have afq:ks.length<=8->ly (vq fs ks)<=tG deep:=λh=>by
   rw[h5]at h6;have:=Int.mul_le_mul_of_nonneg_right (show(ks.length:Int)<=8 by omega) hcp;omega
  split at hs
  ·exact hcn _ (dz (re _ _) (hw _)) hs
  ·split at hs
   ·exact hcn _ (dz (KL _ _) (hw _)) hs
   ·split at hs
    ·rename_i hk
     split at hs
     ·cases hs;exact⟨h6.1,afq (Wz (.inl hk))⟩
     ·cases hs
    ·split at hs
     ·rename_i hk
      split at hs
      ·cases hs;exact⟨h6.1,afq (Wz (.inr hk))⟩
      ·cases hs
     ·split at hs
      ·cases hs
      ·cases hs;omega
theorem GS (fs:List Fd) (hw:∀k,(cZ fs k).length<=500):∀(ks:List Qy) (deep:Nat),(∀q∈ks,fP q deep=0)->∀o∈vq fs ks,∀s,o=some s->0<=s/\s<=tG deep
 |[],_,_,o,ho,_,_=>by rw[vq]at ho;cases ho
 |q::ks,deep,hm,o,ho,s,hs=>by
  rw[vq]at ho;rcases du.1 ho with h|h
  ·exact rf fs hw q deep (hm q (bO ..)) s (by rw[<-h];exact hs)
  ·exact GS fs hw ks deep (λx hx=>hm x (cu _ hx)) o h s hs
end
theorem w97:cR [97]=true:=by
 unfold cR;rw[decide_eq_true_iff];refine⟨?_,by decide⟩;have:=Q4;simpa using this
theorem U5:eA [116]=true:=by decide
theorem CQ (s:List UInt8):eA (fi s)=true:=by
 unfold fi
 split
 ·assumption
 ·exact U5
theorem MD (ws:List (List UInt8)):(jQ ws).all cR=true/\(jQ ws).length<=3:=by
 unfold jQ;refine⟨by simp,dz (eu _ _) (by rw[a7];omega)⟩
theorem CR (k:Int):1<=fI k/\fI k<=5:=by
 unfold fI;have h1:=Int.emod_nonneg (Eb k) (show(5:Int)≠0 by decide);have h2:=Int.emod_lt_of_pos (Eb k) (show(0:Int)<5 by decide);omega
theorem ME (t:Fd) {deep:Nat} (h:deep<=6):fP (KM t) deep=0:=by
 unfold KM;refine pS.2 ⟨h,?_,λq hq=>by cases hq⟩;unfold iR
 have hw:cR (if cR t.2=true then t.2 else[97])=true:=by
  split
  ·assumption
  ·exact w97
 rw[if_neg q0,if_neg q0,if_neg (by simp),if_neg (by rw[CQ];decide),if_pos rfl,if_pos hw]
mutual
theorem CS:∀(q:Qy) (deep:Nat),deep<=4->fP (fk q deep) deep=0
 |.mk k t ws ks,deep,hd=>by
  have hk:=CR k;rw[fk]
  split
  ·rename_i h
   obtain⟨h1,h2,h3⟩:=h;have hm:=AQ ks (deep+1) q0;have hl:(pR ks (deep+1)).length=ks.length:=by rw[tD,bW]
   have hp:0<ks.length:=dC.2 h3;refine pS.2 ⟨by omega,?_,λq hq=>hm q (yo hq)⟩;unfold iR;rw[if_neg q0,if_pos h1];by_cases h4:fI k=4
   ·rw[if_pos h4,a7,hl,if_neg a11,if_neg q0]
   ·rw[if_neg h4,a7,hl,if_neg a11,if_neg q0]
  ·split
   ·rename_i h
    obtain⟨h1,h2⟩:=h;obtain⟨h3,h4⟩:=MD ws;refine pS.2 ⟨by omega,?_,λq hq=>by cases hq⟩;unfold iR;rw[if_neg q0,if_neg q0,if_neg (by simp),if_neg (by rw[CQ];decide),if_neg Tg,if_neg h2,if_neg (by rw[h3];decide),if_neg q0]
   ·exact ME t q0
theorem AQ:∀(ks:List Qy) (deep:Nat),deep<=4->∀q∈pR ks deep,fP q deep=0
 |[],_,_,q,hq=>by rw[pR]at hq;cases hq
 |x::ks,deep,hd,q,hq=>by
  rw[pR]at hq;rcases du.1 hq with h|h
  ·rw[h];exact CS x deep hd
  ·exact AQ ks deep hd q h
end
theorem CT {d:Dc} (h:iQ d) (i:Nat) (t:Fd):F4 i (cL d.2) (dv t)=if 0<(ji (cZ d.2 t.1) t.2).length then[((i:Int),ji (cZ d.2 t.1) t.2)]else[]:=by
 have hp:=Rf h i t;rcases yN h i (dv t)with h1|⟨u,hu,hk,h1⟩
 ·rw[h1,if_neg (λhn=>(hp.2 hn) h1)]
 ·rw[h1,if_pos (hp.1 (by rw[h1];simp))];have Ld:=(jc h.Kp).1 hu;obtain⟨f,hf,K8,Oh⟩:=tC.1 Ld;have e:u=t:=GN (by obtain⟨p,hp,rfl⟩:=cA.1 Ld;exact h.Kp p hp) (GM _ _ Oh) hk;rw[e,Rh h.once]
def GU (t:Fd) (e:En):Option Int:=rR (ji (cZ e.1.2 t.1) t.2).length
theorem Rq (t:Fd):∀(L:List En) (i:Nat),(∀e∈L,iQ e.1)->(Cz (dv t) i L).map (λp=>((p.1:Int),((p.2.length:Nat):Int)))=iq (GU t) i L
 |[],_,_=>rfl
 |e::L,i,hF=>by
  show(F4 i (cL e.1.2) (dv t)++Cz (dv t) (i+1) L).map _=_;rw[dU,CT (hF e (by simp)) i t,Rq t L (i+1) (λe' he=>hF e' (by simp[he])),iq,GU,rR];by_cases h:0<(ji (cZ e.1.2 t.1) t.2).length
  ·rw[if_pos h,if_pos h];rfl
  ·rw[if_neg h,if_neg h];rfl
theorem Rr {L:List En} (hF:∀e∈L,iQ e.1) {t:Fd} {p:Po}:p∈pk L (dv t)↔∃(d:Nat) (e:En),L[d]? =some e/\p=((d:Int),ji (cZ e.1.2 t.1) t.2)/\0<(ji (cZ e.1.2 t.1) t.2).length:=by
 have key:∀(L:List En) (i:Nat),(∀e∈L,iQ e.1)->(p∈Cz (dv t) i L↔∃(d:Nat) (e:En),L[d]? =some e/\p=(((i+d:Nat):Int),ji (cZ e.1.2 t.1) t.2)/\0<(ji (cZ e.1.2 t.1) t.2).length):=by
  intro L
  induction L with
  |nil=>intro i _;simp[Cz]
  |cons e L ih=>
   intro i hF;show p∈F4 i (cL e.1.2) (dv t)++Cz (dv t) (i+1) L↔_;rw[dI,ih (i+1) (λx hx=>hF x (cu _ hx)),CT (hF e (bO ..)) i t];constructor
   ·rintro(h|⟨d,x,h1,h2,h3⟩)
    ·split at h
     ·rename_i hc
      exact⟨0,e,rfl,by simpa using h,hc⟩
     ·cases h
    ·exact⟨d+1,x,by simpa using h1,by rw[h2];congr 2;omega,h3⟩
   ·rintro⟨d,x,h1,h2,h3⟩
    cases d with
    |zero=>simp at h1;subst h1;exact .inl (by rw[if_pos h3,h2];simp)
    |succ d=>exact .inr ⟨d,x,by simpa using h1,by rw[h2];congr 2;omega,h3⟩
 have:=key L 0 hF;simpa[pk]using this
theorem rh {d:Dc} (h:iQ d) (k:List UInt8):(cZ d.2 k).length<=500:=by
 unfold cZ
 split
 ·rename_i f hf
  have hm:=List.mem_of_find?_eq_some hf
  have:(words f.2).length<=(cL d.2).length:=by
   obtain⟨i,hi⟩:=bK.1 hm
   have e:cL d.2=cL (d.2.take i)++(gP f++cL (d.2.drop (i+1))):=by
    obtain⟨h1,h2⟩:=an.1 hi
    have:d.2=d.2.take i++(f::d.2.drop (i+1)):=by
     conv=>lhs;rw[<-iw i d.2,fp h1,h2]
    conv=>lhs;rw[this]
    unfold cL;rw[List.flatMap_append,sH]
   rw[e,bM,bM];have:(gP f).length=(words f.2).length:=by unfold gP;simp
   omega
  have:=h.many;omega
 ·simp
end Go.K
namespace Go.K
open Go.Proofs
set_option maxRecDepth 10000
theorem Je {M:aM} {a b:List (List UInt8)} {v u:Value} (w0:World) (hM:Lt M w0) (hv:((RT.str).sl).V M w0 a v) (hu:((RT.str).sl).V M w0 b u):
  Spec Tryz.prog 125 #[v,u] w0 (λv' w'=>v'= .bool (decide (a=b))/\Step M w0 M w' aC):=by
 have gv:=hM;have hla:=cU hv;have hlb:=cU hu;refine bh (args:=[_,_]) (fn:=Tryz.f125) Tryz.func125 G (n:=26) Tryz.ntmps125 ?_;have S:Step M w0 M w0 aC:=aV;refine T.aQ (Rg.aZ G G (aL (T.aQ (ab G G (bC ax G hv G (ab G G (bC ax G hu G (fm G G G ?_))))))));refine ad ?_;refine bE G (λc1=>?_) (λc1=>?_)
 ·refine T.aQ (Rg.aZ G G (aJ ?_));exact aK rfl rfl ⟨congrArg Value.bool (decide_eq_false (λe=>by subst e;exact c1 G)).symm,S⟩
 ·have hlen:a.length=b.length:=by omega
  refine aS (aL (T.aQ (Rg.aZ G G (aX ?_))));refine dd (σ:=Nat) (λk=>[(0,v),(1,u),(5,.int .i64 (k:Int))]) (λk w=>Step M w0 M w aC/\((RT.str).sl).V M w a v/\((RT.str).sl).V M w b u/\k<=a.length/\a.take k=b.take k) (λk=>a.length-k) 0 a07 ?_ ?_
  ·exact⟨S,hv,hu,a8 _,G⟩
  ·clear S hv hu hM;rintro k w ⟨S,hv,hu,hk,heq⟩;have hM:=S.lt gv;refine aL (T.aQ (ab G G (ab G G (bC ax G hv G (cx G G G (ad ?_))))));refine bE G (λc4=>?_) (λc4=>?_)
   ·refine aS (aL (aX (aL ?_)));apply vV mixed rfl rfl;intro wD6 sA6;have tR:=sA6 M;replace hv:=hv.le tR.le;replace hu:=hu.le tR.le;replace hM:=tR.lt hM;have:=S.size;replace S:=S.aw tR;refine ab G G (Rg.dh (ab G G (Rg.dh ?_)));obtain⟨x,Ka⟩:∃x,a[k]? =some x:=⟨_,aq q0⟩;obtain⟨y,LN⟩:∃y,b[k]? =some y:=⟨_,aq q0⟩;refine cC ax I9 G G G hv bS q0 (λu62 x_ gp I8=>?_);rw[ar]at gp;obtain rfl:=aI (Ka.symm.trans gp);refine Rg.dh ?_;refine bB aA G G G G G I8 bS (λv63 uY=>?_);obtain rfl:=dS uY;refine Rg.dh (ab G G (Rg.dh (ab G G (Rg.dh ?_))));refine cC ax I9 G G G hu bS q0 (λu66 x_ gp MF=>?_);rw[ar]at gp;obtain rfl:=aI (LN.symm.trans gp);refine Rg.dh ?_;refine bB aA G G G G G MF bS (λv67 Z4=>?_);obtain rfl:=dS Z4;refine Rg.dh (Rg.EM G G G (Rg.dh (fL ?_)));refine bE G (λc6=>?_) (λc6=>?_)
    ·refine T.aQ (Rg.aZ G G (aJ ?_));exact aK rfl rfl ⟨congrArg Value.bool (decide_eq_false (λe=>by subst e;rw[Ka]at LN;cases LN;exact c6 G)).symm,S⟩
    ·refine aS (aH (ab G G (bu G G G q0 (Rg.aZ G G ?_))));refine⟨G,k+1,a07,?_,?_⟩
     ·exact⟨S,hv,hu,by omega,by rw[bY,bY,heq,Ka,LN,ck.1 c6]⟩
     ·omega
   ·refine cN (T.aQ (Rg.aZ G G (aJ ?_)));rw[bp q0,bp q0]at heq;exact aK G G ⟨congrArg Value.bool (decide_eq_true heq).symm,S⟩
theorem Rs {M:aM} {a b:List (List UInt8)} {v u:Value} (w0:World) (hM:Lt M w0) (hv:((RT.str).sl).V M w0 a v) (hu:((RT.str).sl).V M w0 b u):
  Spec Tryz.prog 216 #[v,u] w0 (λv' w'=>v'= .bool (decide (a=b))/\Step M w0 M w' aC):=by
 have gv:=hM;have hla:=cU hv;have hlb:=cU hu;refine bh (args:=[_,_]) (fn:=Tryz.f216) Tryz.func216 G (n:=26) Tryz.ntmps216 ?_;have S:Step M w0 M w0 aC:=aV;refine T.aQ (Rg.aZ G G (aL (T.aQ (ab G G (bC ax G hv G (ab G G (bC ax G hu G (fm G G G ?_))))))));refine ad ?_;refine bE G (λc1=>?_) (λc1=>?_)
 ·refine T.aQ (Rg.aZ G G (aJ ?_));exact aK rfl rfl ⟨congrArg Value.bool (decide_eq_false (λe=>by subst e;exact c1 G)).symm,S⟩
 ·have hlen:a.length=b.length:=by omega
  refine aS (aL (T.aQ (ab G G (bC ax G hv G (ab G G (ad (aX ?_)))))));refine dd (σ:=Nat) (λk=>[(0,v),(1,u),(12,.int .i64 (a.length:Int)),(13,.int .i64 (k:Int))]) (λk w=>Step M w0 M w aC/\((RT.str).sl).V M w a v/\((RT.str).sl).V M w b u/\k<=a.length/\a.take k=b.take k) (λk=>a.length-k) 0 a00 ?_ ?_
  ·exact⟨S,hv,hu,a8 _,G⟩
  ·clear S hv hu hM;rintro k w ⟨S,hv,hu,hk,heq⟩;have hM:=S.lt gv;refine T.aQ (cx G G G (ad (aL ?_)));refine bE G (λc4=>?_) (λc4=>?_)
   ·refine aS (aL (aX (T.aQ (ab G G (Rg.aZ G G (aL ?_))))));apply vV mixed rfl rfl;intro wD6 sA6;have tR:=sA6 M;replace hv:=hv.le tR.le;replace hu:=hu.le tR.le;replace hM:=tR.lt hM;have:=S.size;replace S:=S.aw tR;refine ab G G (Rg.dh (ab G G (Rg.dh ?_)));obtain⟨x,Ka⟩:∃x,a[k]? =some x:=⟨_,aq q0⟩;obtain⟨y,LN⟩:∃y,b[k]? =some y:=⟨_,aq q0⟩;refine cC ax I9 G G G hv bS q0 (λu62 x_ gp I8=>?_);rw[ar]at gp;obtain rfl:=aI (Ka.symm.trans gp);refine Rg.dh ?_;refine bB aA G G G G G I8 bS (λv63 uY=>?_);obtain rfl:=dS uY;refine Rg.dh (ab G G (Rg.dh (ab G G (Rg.dh ?_))));refine cC ax I9 G G G hu bS q0 (λu66 x_ gp MF=>?_);rw[ar]at gp;obtain rfl:=aI (LN.symm.trans gp);refine Rg.dh ?_;refine bB aA G G G G G MF bS (λv67 Z4=>?_);obtain rfl:=dS Z4;refine Rg.dh (Rg.EM G G G (Rg.dh (fL ?_)));refine bE G (λc6=>?_) (λc6=>?_)
    ·refine T.aQ (Rg.aZ G G (aJ ?_));exact aK rfl rfl ⟨congrArg Value.bool (decide_eq_false (λe=>by subst e;rw[Ka]at LN;cases LN;exact c6 G)).symm,S⟩
    ·refine aS (aH (bu G G G q0 (ab G G (ad ?_))));refine⟨G,k+1,a00,?_,?_⟩
     ·exact⟨S,hv,hu,by omega,by rw[bY,bY,heq,Ka,LN,ck.1 c6]⟩
     ·omega
   ·refine cN (T.aQ (Rg.aZ G G (aJ ?_)));rw[bp q0,bp q0]at heq;exact aK G G ⟨congrArg Value.bool (decide_eq_true heq).symm,S⟩
namespace TKQSame
theorem rG:TI Tryz.prog 26 (.slice none 0 0) 1 24:=by unfold TI;kernel_rfl
theorem gg:TI Tryz.prog 28 (.agg #[(.int .i64 0),(.string ⟨#[]⟩),(.string ⟨#[]⟩),(.slice none 0 0),(.slice none 0 0)]) 5 88:=by unfold TI;kernel_rfl
theorem Z5:Enters Tryz.prog 162:=enters Tryz.func162 rfl Tg
theorem anU:Enters Tryz.prog 216:=enters Tryz.func216 rfl Tg
theorem anV:Enters Tryz.prog 217:=enters Tryz.func217 rfl Tg
end TKQSame
open TKQSame
set_option maxRecDepth 10000
theorem MG {M:aM} {n:Nat} {a b:List Qy} {v u:Value} (w0:World) (hM:Lt M w0) (hv:((RT.qy n).sl (aG n)).V M w0 a v) (hu:((RT.qy n).sl (aG n)).V M w0 b u) (ih:∀x∈a,∀y∈b,∀(M:aM) (w:World) (v u:Value),Lt M w->(RT.qy n).V M w x v->(RT.qy n).V M w y u->Spec Tryz.prog 162 #[v,u] w (λv' w'=>v'= .bool (decide (x=y))/\Step M w M w' aC)):
  Spec Tryz.prog 217 #[v,u,.func (.func 162) #[] #[]] w0 (λv' w'=>v'= .bool (decide (a=b))/\Step M w0 M w' aC):=by
 have hla:=cU hv;have hlb:=cU hu;refine bh (args:=[_,_,_]) (fn:=Tryz.f217) Tryz.func217 G (n:=32) Tryz.ntmps217 ?_;have S:Step M w0 M w0 aC:=aV;refine T.aQ (Rg.aZ G G (aL (T.aQ (ab G G (bC (A:=RT.qy n) (hn:=aG _) bD G hv G (ab G G (bC (A:=RT.qy n) (hn:=aG _) bD G hu G (fm G G G ?_))))))));refine ad ?_;refine bE G (λc1=>?_) (λc1=>?_)
 ·refine T.aQ (Rg.aZ G G (aJ ?_));exact aK rfl rfl ⟨congrArg Value.bool (decide_eq_false (λe=>by subst e;exact c1 G)).symm,S.back⟩
 ·have hlen:a.length=b.length:=by omega
  refine aS (aL (T.aQ (ab G G (bC (A:=RT.qy n) (hn:=aG _) bD G hv G (ab G G (ad (aX ?_)))))));refine dd (σ:=Nat) (λk=>[(0,v),(1,u),(2,.func (.func 162) #[] #[]),(15,v),(16,.int .i64 (a.length:Int)),(17,.int .i64 (k:Int))]) (λk w=>∃M1,Lt M1 w/\Step M w0 M1 w aC/\((RT.qy n).sl (aG n)).V M1 w a v/\((RT.qy n).sl (aG n)).V M1 w b u/\k<=a.length/\a.take k=b.take k) (λk=>a.length-k) 0 a14 ?_ ?_
  ·exact⟨_,hM,S,hv,hu,a8 _,G⟩
  ·clear S hv hu hM;rintro k w ⟨M1,hM,S,hv,hu,hk,heq⟩;refine T.aQ (cx G G G (ad (aL ?_)));refine bE G (λc4=>?_) (λc4=>?_)
   ·refine aS (aL (aX (T.aQ (ab G G ?_))));obtain⟨x,hx⟩:∃x,(a)[k]? =some x:=⟨_,aq q0⟩;refine cC (A:=RT.qy n) (hn:=aG _) (M:=M1) bD (IQ gg _) G G G hv bS q0 (λu51 x_ gp Jf=>?_);rw[ar]at gp;obtain rfl:=aI (hx.symm.trans gp);refine bN (A:=RT.qy (n)) ak G (IQ gg _) (aG _) (dK _) G G Jf bS (λv52 vv=>?_);obtain⟨xw,xk,rfl,xr,xl,hxw,hxk⟩:=mF (kx vv);refine ew M1 gg G (λZ6 acX axp axq qn yu=>?_);obtain⟨GV,Rt⟩:∃M',M'=ins M1 Z6:=⟨_,rfl⟩;rw[<-Rt]at yu;have nJ:GV Z6:=by rw[Rt];exact .inl G
    change acX.heap[Z6]? =some (.cells #[.int .i64 0,.string ⟨#[]⟩,.string ⟨#[]⟩,.slice none 0 0,.slice none 0 0] _ _)at qn;replace hv:=hv.le yu.le;replace hu:=hu.le yu.le;replace vv:=vv.le yu.le;replace hM:=yu.lt hM;have:=S.size;replace S:=S.aw yu;refine aN G G ?_;refine cY (M:=GV) (vs:=[.int .i64 x.kind,.string ⟨x.term.1.toArray⟩,.string ⟨x.term.2.toArray⟩,xw,xk]) gg G G (Dz hxw hxk) G G qn nJ (λwq5 gq5 Z7=>?_);have:=ae qn;replace nJ:=(Z7.mem _ this).2 nJ;replace hv:=hv.le Z7.le;replace hu:=hu.le Z7.le;replace vv:=vv.le Z7.le;replace hM:=Z7.lt hM;have:=S.size;replace S:=S.trans Z7 (λk hk h=>by have h:_=_:=h;subst h;first|(exfalso;omega)|(show _<=_;omega)|exact⟨by first|omega|assumption,(S.mem _ hk).1 ((Z7.mem _ (ae qn)).1 nJ)⟩|exact .inl rfl|exact .inr rfl|exact .inr (.inl rfl)|exact .inr (.inr rfl)|exact .inr (.inr (.inl rfl))|exact rfl);have WQ:=gq5;clear qn;have qn:=WQ;clear WQ;refine ad (T.aQ (ab G G (ab G G ?_)));obtain⟨y,hy⟩:∃x,(b)[k]? =some x:=⟨_,aq q0⟩;refine cC (A:=RT.qy n) (hn:=aG _) (M:=GV) bD (IQ gg _) G G G hu bS q0 (λu62 x_ gp I8=>?_);rw[ar]at gp;obtain rfl:=aI (hy.symm.trans gp);refine bN (A:=RT.qy (n)) ak G (IQ gg _) (aG _) (dK _) G G I8 bS (λv63 uY=>?_);obtain⟨yw,yk,rfl,yr,yl,hyw,hyk⟩:=mF (kx uY);refine ew GV gg G (λZ8 anY axu axv B1 Ef=>?_);obtain⟨WR,Ru⟩:∃M',M'=ins GV Z8:=⟨_,rfl⟩;rw[<-Ru]at Ef;have xp:WR Z8:=by rw[Ru];exact .inl G
    change anY.heap[Z8]? =some (.cells #[.int .i64 0,.string ⟨#[]⟩,.string ⟨#[]⟩,.slice none 0 0,.slice none 0 0] _ _)at B1;have:=ae qn;replace nJ:=(Ef.mem _ this).2 nJ;replace qn:=Ef.aF qn;replace hv:=hv.le Ef.le;replace hu:=hu.le Ef.le;replace vv:=vv.le Ef.le;replace uY:=uY.le Ef.le;replace hM:=Ef.lt hM;have:=S.size;replace S:=S.aw Ef;refine cY (M:=WR) (vs:=[.int .i64 y.kind,.string ⟨y.term.1.toArray⟩,.string ⟨y.term.2.toArray⟩,yw,yk]) gg G G (Dz hyw hyk) G G B1 xp (λwq6 gq6 Ta=>?_);have:=ae qn;replace nJ:=(Ta.mem _ this).2 nJ;replace qn:=Ta.bU qn a04;have:=ae B1;replace xp:=(Ta.mem _ this).2 xp;replace hv:=hv.le Ta.le;replace hu:=hu.le Ta.le;replace vv:=vv.le Ta.le;replace uY:=uY.le Ta.le;replace hM:=Ta.lt hM;have:=S.size;replace S:=S.trans Ta (λk hk h=>by have h:_=_:=h;subst h;first|(exfalso;omega)|(show _<=_;omega)|exact⟨by first|omega|assumption,(S.mem _ hk).1 ((Ta.mem _ (ae B1)).1 xp)⟩|exact .inl rfl|exact .inr rfl|exact .inr (.inl rfl)|exact .inr (.inr rfl)|exact .inr (.inr (.inl rfl))|exact rfl);have WS:=gq6;clear B1;have B1:=WS;clear WS;refine ad (T.aQ (ab G G (eC (vs:=[.int .i64 x.kind,.string ⟨x.term.1.toArray⟩,.string ⟨x.term.2.toArray⟩,xw,xk]) ak G gg G G G qn (eC (vs:=[.int .i64 y.kind,.string ⟨y.term.1.toArray⟩,.string ⟨y.term.2.toArray⟩,yw,yk]) ak G gg G G G B1 ?_))));refine oS (first:=[]) (captured:=[]) (xs:=[.tmp 27,.tmp 28]) G G G Z5 (ih x (av hx) y (av hy) _ _ _ _ hM vv uY) (λr7 w7 hc=>?_);obtain⟨rfl,s7⟩:=hc;have:=ae qn;replace nJ:=(s7.mem _ this).2 nJ;replace qn:=s7.aF qn;have:=ae B1;replace xp:=(s7.mem _ this).2 xp;replace B1:=s7.aF B1;replace hv:=hv.le s7.le
    replace hu:=hu.le s7.le;replace vv:=vv.le s7.le;replace uY:=uY.le s7.le;replace hM:=s7.lt hM;have:=S.size;replace S:=S.aw s7;refine fV G G (bg (v':= .bool (decide (¬x=y))) (by simp) (ad ?_));refine bE G (λc7=>?_) (λc7=>?_)
    ·refine T.aQ (Rg.aZ G G (aJ ?_));exact aK rfl rfl ⟨congrArg Value.bool (decide_eq_false (λe=>by subst e;rw[hx]at hy;cases hy;exact c7 G)).symm,S.back⟩
    ·refine aS (aH (bu G G G q0 (ab G G (ad ?_))));refine⟨G,k+1,a14,?_,?_⟩
     ·exact⟨_,hM,S,hv,hu,by omega,by rw[bY,bY,heq,hx,hy,ck.1 c7]⟩
     ·omega
   ·refine cN (T.aQ (Rg.aZ G G (aJ ?_)));rw[bp q0,bp q0]at heq;exact aK G G ⟨congrArg Value.bool (decide_eq_true heq).symm,S.back⟩
theorem AR {M:aM} {n:Nat} {a b:Qy} {v u:Value} (w0:World) (hM:Lt M w0) (hv:(RT.qy (n+1)).V M w0 a v) (hu:(RT.qy (n+1)).V M w0 b u) (ih:∀x∈a.kids,∀y∈b.kids,∀(M:aM) (w:World) (v u:Value),Lt M w->(RT.qy n).V M w x v->(RT.qy n).V M w y u->Spec Tryz.prog 162 #[v,u] w (λv' w'=>v'= .bool (decide (x=y))/\Step M w M w' aC)):
  Spec Tryz.prog 162 #[v,u] w0 (λv' w'=>v'= .bool (decide (a=b))/\Step M w0 M w' aC):=by
 refine bh (args:=[_,_]) (fn:=Tryz.f162) Tryz.func162 G (n:=31) Tryz.ntmps162 ?_;have S:Step M w0 M w0 aC:=aV;refine T.aQ ?_;refine ef (A:=RT.qy (n+1)) (a:=a) G G hM hv (dK _) (λu2 Eg dY iA _=>?_);replace hv:=hv.le iA.le;replace hu:=hu.le iA.le;replace hM:=iA.lt hM;have:=S.size;replace S:=S.aw iA;refine ef (A:=RT.qy (n+1)) (a:=b) G G hM hu (dK _) (λu3 wb1 gY NH _=>?_);replace hu:=hu.le NH.le;replace dY:=dY.le (aG _) NH.le;replace hM:=NH.lt hM;have:=S.size;replace S:=S.aw NH;refine Rg.aZ G G (T.aQ ?_);refine ao (A:=RT.qy (n+1)) (B:=RT.int .i64) ak G G I3 Tg (yK n) G G (aG _) dY bS (λH4 lY=>?_);refine bV al G G lY bS (λvz=>?_);refine bg (v':= .int .i64 a.kind) G ?_;refine ao (A:=RT.qy (n+1)) (B:=RT.int .i64) ak G G I3 Tg (yK n) G G (aG _) gY bS (λu12 Jg=>?_);refine bV al G G Jg bS (λair=>?_);refine bg (v':= .int .i64 b.kind) G (fe G G G (ab G G ?_));refine aO (g:=10) G (λlL=>?_) (λlL=>?_)
 ·refine ah G G ?_;refine ao (A:=RT.qy (n+1)) (B:=RT.fd) ak G G kF Tg (BG n) G G (aG _) dY bS (λu16 Z9=>?_);refine ah G G ?_;refine bN (A:=RT.fd) br G kF Tg G G G Z9 bS (λv17 MH=>?_);obtain rfl:=kQ MH;refine ah G G ?_;refine ao (A:=RT.qy (n+1)) (B:=RT.fd) ak G G kF Tg (BG n) G G (aG _) gY bS (λu18 Y3=>?_);refine ah G G ?_;refine bN (A:=RT.fd) br G kF Tg G G G Y3 bS (λv19 Uu=>?_);obtain rfl:=kQ Uu;refine ah G G (Rg.anS (p:=a.term) (q:=b.term) br ai6 ai6 Tg Tg G G aA aA G G G (aU G G G (ab G G ?_)));refine aO (g:=17) G (λvB=>?_) (λvB=>?_)
  ·refine ah G G ?_;refine ao (A:=RT.qy (n+1)) (B:=(RT.str.sl)) ak G G rA Tg (EG n) G G (aG _) dY bS (λaxy afs=>?_);refine ah G G ?_;refine bB ax G G G G G afs bS (λaxz aft=>?_);refine ah G G ?_;refine ao (A:=RT.qy (n+1)) (B:=(RT.str.sl)) ak G G rA Tg (EG n) G G (aG _) gY bS (λaxA afu=>?_);refine ah G G ?_;refine bB ax G G G G G afu bS (λaxB afv=>?_);refine ah G G ?_;refine aP G G anU (Rs _ hM aft afv) (λaxC axD hc=>?_);obtain⟨rfl,U6⟩:=hc;replace dY:=dY.le (aG _) U6.le;replace gY:=gY.le (aG _) U6.le;replace hM:=U6.lt hM;have:=S.size;replace S:=S.aw U6;refine aU G G G (ab G G ?_);refine aO (g:=24) G (λvC=>?_) (λvC=>?_)
   ·refine ah G G ?_;refine ao (A:=RT.qy (n+1)) (B:=((RT.qy n).sl (aG n))) ak G G rG Nat.one_pos (Bv n) G G (aG _) dY bS (λan0 Rv=>?_);refine ah G G ?_;refine bB bD G G G G G Rv bS (λaxE afw=>?_);refine ah G G ?_;refine ao (A:=RT.qy (n+1)) (B:=((RT.qy n).sl (aG n))) ak G G rG Nat.one_pos (Bv n) G G (aG _) gY bS (λaxF afx=>?_);refine ah G G ?_;refine bB bD G G G G G afx bS (λaxG afy=>?_);refine ah G G ?_;refine aP G G anV (MG _ hM afw afy ih) (λaxH axI hc=>?_);obtain⟨rfl,U7⟩:=hc;replace dY:=dY.le (aG _) U7.le;replace gY:=gY.le (aG _) U7.le;replace hM:=U7.lt hM;have:=S.size;replace S:=S.aw U7;refine aU G G G (Rg.aZ G G (aJ ?_))
    first
    |exact a65
    |exact a89
    |exact a90
    |exact a92
   ·refine aj G G G G (aj G G G G (aj G G G G (aj G G G G (aj G G G G (aB G G G (Rg.aZ G G (aJ ?_)))))))
    first
    |exact a65
    |exact a89
    |exact a90
    |exact a92
  ·refine aj G G G G (aj G G G G (aj G G G G (aj G G G G (aj G G G G (aB G G G (ab G G (aj G G G G (aj G G G G (aj G G G G (aj G G G G (aj G G G G ?_)))))))))));refine aB G G G (Rg.aZ G G (aJ ?_))
   first
   |exact a65
   |exact a89
   |exact a90
   |exact a92
 ·refine aj G G G G (aj G G G G (aj G G G G (aj G G G G (aj G G G G (aB G G G (ab G G (aj G G G G (aj G G G G (aj G G G G (aj G G G G (aj G G G G ?_)))))))))));refine aB G G G (ab G G (aj G G G G (aj G G G G (aj G G G G (aj G G G G (aj G G G G (aB G G G (Rg.aZ G G (aJ ?_)))))))))
  first
  |exact a65
  |exact a89
  |exact a90
  |exact a92
theorem AS:∀(n:Nat) {M:aM} {a b:Qy} {v u:Value} (w0:World) (hM:Lt M w0) (hv:(RT.qy n).V M w0 a v) (hu:(RT.qy n).V M w0 b u),Spec Tryz.prog 162 #[v,u] w0 (λv' w'=>v'= .bool (decide (a=b))/\Step M w0 M w' aC)
 |0,M,a,b,v,u,w0,hM,hv,hu=>AR (n:=0) w0 hM (kx hv) (kx hu) λx hx=>by
  obtain⟨vs,⟨_,_,_,_,_,_,_,_,_,_,_,_,hk,_⟩,_⟩:=hv;have hk:a.kids=[]:=hk;rw[hk]at hx;cases hx
 |n+1,M,a,b,v,u,w0,hM,hv,hu=>AR w0 hM hv hu λx _ y _ M w v u hM hv hu=>AS n w hM hv hu
end Go.K
namespace Go.K
open Go.Proofs
namespace TKQKind
theorem rG:TI Tryz.prog 26 (.slice none 0 0) 1 24:=by unfold TI;kernel_rfl
theorem gg:TI Tryz.prog 28 (.agg #[(.int .i64 0),(.string ⟨#[]⟩),(.string ⟨#[]⟩),(.slice none 0 0),(.slice none 0 0)]) 5 88:=by unfold TI;kernel_rfl
theorem Eh:TI Tryz.prog 267 (.agg #[(.string ⟨#[]⟩),.nilFunc,.nilFunc,.nilFunc]) 4 40:=by unfold TI;kernel_rfl
theorem Tb:placesOf Tryz.prog 28=[(0,1),(1,2),(3,1),(4,1)].map some:=by kernel_rfl
theorem Rw:placesOf Tryz.prog 267=[(0,1),(1,1),(2,1),(3,1)].map some:=by kernel_rfl
theorem aaa:Enters Tryz.prog 211:=enters Tryz.func211 rfl Tg
end TKQKind
open TKQKind
set_option maxRecDepth 10000
def kH:Qy->Qy
 |.mk k t ws ks=>if k=1 then .mk k t [] []else if k=5 then .mk k (t.1,[]) ws []else .mk k ([],[]) [] ks
def KV (k:Int) (v:Value) (w:World):Prop:=
 (k=1/\v= .agg #[.string ⟨#[]⟩,.func (.func 203) #[] #[],.func (.func 204) #[] #[],.func (.func 205) #[] #[]])\/
 (k=5/\v= .agg #[.string ⟨#[]⟩,.func (.func 207) #[] #[],.func (.func 208) #[] #[],.func (.func 209) #[] #[]])\/
 ((k=2\/k=3\/k=4)/\∃b wd fv,v= .agg #[.string wd,.func (.func 202) #[] #[],.func (.func 269) #[] #[.pointer (some ⟨b,0,none⟩)],.func (.func fv) #[] #[]]/\w.heap[b]? =some (.cells #[.int .i64 (if k=4 then 1 else 8)] 3 (0,0)))\/
 ((k<1\/5<k)/\v= .agg #[.string ⟨#[]⟩,.nilFunc,.nilFunc,.nilFunc])
theorem KV.step {k:Int} {v:Value} {M M' N:aM} {w w':World} (h:KV k v w) (s:Step M w M' w' N) (hN:∀b,N b->∀cs,w.heap[b]? ≠some (.cells cs 3 (0,0))):KV k v w':=by
 rcases h with h|h|⟨h1,b,wd,fv,h2,h3⟩|h
 ·exact .inl h
 ·exact .inr (.inl h)
 ·exact .inr (.inr (.inl ⟨h1,b,wd,fv,h2,s.bU h3 λhn=>hN b hn _ h3⟩))
 ·exact .inr (.inr (.inr h))
theorem KV.cells {k:Int} {v:Value} {w:World} (h:KV k v w):∃a b c d,v= .agg #[a,b,c,d]/\a.oneCell'=true/\b.oneCell'=true/\c.oneCell'=true/\d.oneCell'=true:=by
 rcases h with⟨_,h⟩|⟨_,h⟩|⟨_,b,wd,fv,h,_⟩|⟨_,h⟩
 all_goals exact⟨_,_,_,_,h,rfl,rfl,rfl,rfl⟩
theorem xq {M:aM} {k:Int} (w0:World) (hM:Lt M w0):
  Spec Tryz.prog 211 #[.int .i64 k] w0 (λv w=>∃b,v= .func (.func 269) #[] #[.pointer (some ⟨b,0,none⟩)]/\w0.heap.size<=b/\w.heap[b]? =some (.cells #[.int .i64 k] 3 (0,0))/\Step M w0 M w aC):=by
 refine bh (args:=[_]) (fn:=Tryz.f211) Tryz.func211 G (n:=4) Tryz.ntmps211 (T.aQ ?_);refine nS M G G (λb1 w1 p1 q1 g1 s1=>?_);change w1.heap[b1]? =some (.cells #[.int .i64 k] _ _)at g1;refine Rg.aZ G G (T.aQ (iS (xs:=[]) (ys:=[.tmp 1]) G G G (Rg.aZ G G (aJ ?_))));exact aK G G ⟨b1,G,p1,g1,s1.back⟩
set_option maxHeartbeats 2000000 in
theorem Jh {M:aM} (w0:World) (hM:Lt M w0):
  Spec Tryz.prog 161 #[] w0 (λv w=>∃mb es clock,v= .map (some mb)/\w.heap[mb]? =some (.map (es:List MapEntry).toArray clock)/\(∀(k:Int),∃o,Instr.findNow (.int .i64) (.int .i64 k) es 0=some o/\o.isSome=decide (1<=k/\k<=5)/\KV k ((o.map Prod.snd).getD (.agg #[.string ⟨#[]⟩,.nilFunc,.nilFunc,.nilFunc])) w)/\Step M w0 M w aC):=by
 refine bh (args:=[]) (fn:=Tryz.f161) Tryz.func161 G (n:=15) Tryz.ntmps161 (T.aQ (Rg.aZ G G (T.aQ (Rg.aZ G G (T.aQ ?_)))));refine Rg.zy M sK G (λmb wk hmb _ hW S=>?_);have gk:=hW.at_;obtain⟨Mk,hMk⟩:∃Mk,Mk=ins M mb:=⟨_,rfl⟩;have mk:Mk mb:=by rw[hMk];exact .inl G
 rw[<-hMk]at S;replace hM:=S.lt hM;clear hW;refine dw (places:=[(0,1),(1,1),(2,1),(3,1)]) sL Eh Rw rfl ⟨_,_,rfl,rfl,_,_,rfl,rfl,_,_,rfl,rfl,_,_,rfl,rfl,rfl⟩ (out:=[_,_,_,_]) ⟨0,[_],rfl,rfl,by simp[Value.cells],1,[_],rfl,rfl,by simp[Value.cells],2,[_],rfl,rfl,by simp[Value.cells],3,[_],rfl,rfl,by simp[Value.cells],rfl⟩ ?_;refine Rg.uu (es:=[]) (M:=Mk) sK al G G G gk G mk (λw1 g1 s1=>?_);replace S:=S.cr s1 (λq hq=>by have hq:q=mb:=hq;omega);replace hM:=s1.lt hM;replace mk:=(s1.mem _ (ae gk)).2 mk;refine dw (places:=[(0,1),(1,1),(2,1),(3,1)]) sL Eh Rw rfl ⟨_,_,rfl,rfl,_,_,rfl,rfl,_,_,rfl,rfl,_,_,rfl,rfl,rfl⟩ (out:=[_,_,_,_]) ⟨0,[_],rfl,rfl,by simp[Value.cells],1,[_],rfl,rfl,by simp[Value.cells],2,[_],rfl,rfl,by simp[Value.cells],3,[_],rfl,rfl,by simp[Value.cells],rfl⟩ ?_;refine Rg.uu (es:=[_]) (M:=Mk) sK al G G G g1 G mk (λw5 g5 s5=>?_);replace S:=S.cr s5 (λq hq=>by have hq:q=mb:=hq;omega);replace hM:=s5.lt hM;replace mk:=(s5.mem _ (ae g1)).2 mk;refine ab G G ?_;refine aP G G aaa (xq (M:=Mk) (k:=8) _ hM) (λrm2 wm2 hc=>?_);obtain⟨bm2,rfl,pm2,Rx,sm2⟩:=hc;have nb2:bm2≠mb:=by have:=ae g5;omega
 replace S:=S.aw sm2;replace hM:=sm2.lt hM;replace mk:=(sm2.mem _ (ae g5)).2 mk;replace g5:=sm2.aF g5;refine dw (places:=[(0,1),(1,1),(2,1),(3,1)]) sL Eh Rw rfl ⟨_,_,rfl,rfl,_,_,rfl,rfl,_,_,rfl,rfl,_,_,rfl,rfl,rfl⟩ (out:=[_,_,_,_]) ⟨0,[_],rfl,rfl,by simp[Value.cells],1,[_],rfl,rfl,by simp[Value.cells],2,[_],rfl,rfl,by simp[Value.cells],3,[_],rfl,rfl,by simp[Value.cells],rfl⟩ ?_;refine Rg.uu (es:=[_,_]) (M:=Mk) sK al G G G g5 G mk (λw2 g2 s2=>?_);replace S:=S.cr s2 (λq hq=>by have hq:q=mb:=hq;omega);replace hM:=s2.lt hM;replace mk:=(s2.mem _ (ae g5)).2 mk;replace Rx:=s2.bU Rx nb2;refine ab G G ?_;refine aP G G aaa (xq (M:=Mk) (k:=8) _ hM) (λrm3 wm3 hc=>?_);obtain⟨bm3,rfl,pm3,gm3,sm3⟩:=hc;have nb3:bm3≠mb:=by have:=ae g2;omega
 replace S:=S.aw sm3;replace hM:=sm3.lt hM;replace mk:=(sm3.mem _ (ae g2)).2 mk;replace g2:=sm3.aF g2;replace Rx:=sm3.aF Rx;refine dw (places:=[(0,1),(1,1),(2,1),(3,1)]) sL Eh Rw rfl ⟨_,_,rfl,rfl,_,_,rfl,rfl,_,_,rfl,rfl,_,_,rfl,rfl,rfl⟩ (out:=[_,_,_,_]) ⟨0,[_],rfl,rfl,by simp[Value.cells],1,[_],rfl,rfl,by simp[Value.cells],2,[_],rfl,rfl,by simp[Value.cells],3,[_],rfl,rfl,by simp[Value.cells],rfl⟩ ?_;refine Rg.uu (es:=[_,_,_]) (M:=Mk) sK al G G G g2 G mk (λw3 g3 s3=>?_);replace S:=S.cr s3 (λq hq=>by have hq:q=mb:=hq;omega);replace hM:=s3.lt hM;replace mk:=(s3.mem _ (ae g2)).2 mk;replace Rx:=s3.bU Rx nb2;replace gm3:=s3.bU gm3 nb3;refine ab G G ?_;refine aP G G aaa (xq (M:=Mk) (k:=1) _ hM) (λrm4 wm4 hc=>?_);obtain⟨bm4,rfl,pm4,gm4,sm4⟩:=hc;have nb4:bm4≠mb:=by have:=ae g3;omega
 replace S:=S.aw sm4;replace hM:=sm4.lt hM;replace mk:=(sm4.mem _ (ae g3)).2 mk;replace g3:=sm4.aF g3;replace Rx:=sm4.aF Rx;replace gm3:=sm4.aF gm3;refine dw (places:=[(0,1),(1,1),(2,1),(3,1)]) sL Eh Rw rfl ⟨_,_,rfl,rfl,_,_,rfl,rfl,_,_,rfl,rfl,_,_,rfl,rfl,rfl⟩ (out:=[_,_,_,_]) ⟨0,[_],rfl,rfl,by simp[Value.cells],1,[_],rfl,rfl,by simp[Value.cells],2,[_],rfl,rfl,by simp[Value.cells],3,[_],rfl,rfl,by simp[Value.cells],rfl⟩ ?_;refine Rg.uu (es:=[_,_,_,_]) (M:=Mk) sK al G G G g3 G mk (λw4 g4 s4=>?_);replace S:=S.cr s4 (λq hq=>by have hq:q=mb:=hq;omega);replace hM:=s4.lt hM;replace mk:=(s4.mem _ (ae g3)).2 mk;replace Rx:=s4.bU Rx nb2;replace gm3:=s4.bU gm3 nb3;replace gm4:=s4.bU gm4 nb4;refine ab G G (Rg.aZ G G (aJ ?_));refine aK G G ⟨mb,_,_,G,g4,λk=>?_,S.back⟩;have fw:∀a b:Int,¬a=b->(a==b)=false:=λa b h=>by simpa using h
 by_cases h1:k=1
 ·subst h1;exact⟨_,G,G,.inl ⟨G,G⟩⟩
 by_cases h5:k=5
 ·subst h5;exact⟨_,G,G,.inr (.inl ⟨G,G⟩)⟩
 by_cases h2:k=2
 ·subst h2;exact⟨_,G,G,.inr (.inr (.inl ⟨.inl G,bm2,_,_,G,Rx⟩))⟩
 by_cases h3:k=3
 ·subst h3;exact⟨_,G,G,.inr (.inr (.inl ⟨.inr (.inl G),bm3,_,_,G,gm3⟩))⟩
 by_cases h4:k=4
 ·subst h4;exact⟨_,G,G,.inr (.inr (.inl ⟨.inr (.inr G),bm4,_,_,G,gm4⟩))⟩
 refine⟨none,?_,?_,.inr (.inr (.inr ⟨by omega,rfl⟩))⟩
 ·simp[Instr.findNow,Instr.sameNow,fw _ _ h1,fw _ _ h2,fw _ _ h3,fw _ _ h4,fw _ _ h5]
 ·exact(decide_eq_false q0).symm
theorem MI {M:aM} {n:Nat} {q:Qy} {v:Value} (w0:World) (hM:Lt M w0) (hv:(RT.qy (n+1)).V M w0 q v) (hk:q.kind=2\/q.kind=3\/q.kind=4):
  Spec Tryz.prog 202 #[v] w0 (λv w=>(RT.qy (n+1)).V M w (kH q) v/\Step M w0 M w aC):=by
 have gv:=hM;obtain⟨_,_,_,hkr,rW,_,_⟩:=mF hv
 have hqb:kH q= .mk q.kind ([],[]) [] q.kids:=by
  obtain⟨k,t,ws,ks⟩:=q
  first
  |exact if_pos hk
  |exact(if_neg (by show¬k=1;have hk:k=5:=hk;omega)).trans (if_pos hk)
  |exact(if_neg ak2).trans (if_neg ak5)
 refine bh (args:=[_]) (fn:=Tryz.f202) Tryz.func202 G (n:=8) Tryz.ntmps202 ?_;have S:Step M w0 M w0 aC:=aV;refine T.aQ ?_;refine ef (A:=RT.qy (n+1)) (a:=q) G G hM hv (dK _) (λu1 Eg gh iA _=>?_);replace hv:=hv.le iA.le;replace hM:=iA.lt hM;have:=S.size;replace S:=S.aw iA;refine ew M gg G (λgu tv H8 H9 cG iG=>?_);obtain⟨fu,gI⟩:∃M',M'=ins M gu:=⟨_,rfl⟩;rw[<-gI]at iG;have b9:fu gu:=by rw[gI];exact .inl G
 change tv.heap[gu]? =some (.cells #[.int .i64 0,.string ⟨#[]⟩,.string ⟨#[]⟩,.slice none 0 0,.slice none 0 0] _ _)at cG;replace gh:=gh.le (aG _) iG.le;replace hM:=iG.lt hM;have:=S.size;replace S:=S.aw iG;refine ad (T.aQ ?_);refine ao (A:=RT.qy (n+1)) (B:=RT.int .i64) ak G G I3 Tg (yK n) G G (aG _) gh bS (λH4 lY=>?_);refine bV al G G lY bS (λvz=>?_);refine bg (v':= .int .i64 q.kind) G ?_;refine ao (A:=RT.qy (n+1)) (B:=((RT.qy n).sl (aG n))) ak G G rG Nat.one_pos (Bv n) G G (aG _) gh bS (λu12 Jg=>?_);refine bB bD G G G G G Jg bS (λZf GW=>?_);refine dw (places:=[(0,1),(1,2),(3,1),(4,1)]) ak gg Tb rfl ⟨_,_,rfl,rfl,_,_,rfl,rfl,rfl⟩ (out:=[_,.string ⟨#[]⟩,.string ⟨#[]⟩,.slice none 0 0,_]) ⟨0,[_],rfl,rfl,by simp[Value.cells],4,[_],rfl,jl GW,by simp[Value.cells],rfl⟩ ?_;refine cY (M:=fu) (vs:=[.int .i64 q.kind,.string ⟨#[]⟩,.string ⟨#[]⟩,.slice none 0 0,Zf]) gg G G aa6 rfl rfl cG b9 (λw5 g5 s5=>?_);have:=ae cG;replace b9:=(s5.mem _ this).2 b9;replace gh:=gh.le (aG _) s5.le;replace GW:=GW.le s5.le;replace hM:=s5.lt hM;have:=S.size;replace S:=S.trans s5 (λk hk h=>by have h:_=_:=h;subst h;first|(exfalso;omega)|(show _<=_;omega)|exact⟨by first|omega|assumption,(S.mem _ hk).1 ((s5.mem _ (ae cG)).1 b9)⟩|exact .inl rfl|exact .inr rfl|exact .inr (.inl rfl)|exact .inr (.inr rfl)|exact .inr (.inr (.inl rfl))|exact rfl);have ga:=g5;clear cG;have cG:=ga;clear ga;refine ad (aJ ?_);rw[hqb];exact ku G G ak G gg G g5 ⟨Fi hkr ⟨by decide,by decide⟩ gZ (GW.le (lE gv S)),S.back⟩
theorem MJ {M:aM} {n:Nat} {q:Qy} {v:Value} (w0:World) (hM:Lt M w0) (hv:(RT.qy (n+1)).V M w0 q v) (hk:q.kind=1):
  Spec Tryz.prog 203 #[v] w0 (λv w=>(RT.qy (n+1)).V M w (kH q) v/\Step M w0 M w aC):=by
 have gv:=hM;obtain⟨_,_,_,hkr,rW,_,_⟩:=mF hv
 have hqb:kH q= .mk q.kind q.term [] []:=by
  obtain⟨k,t,ws,ks⟩:=q
  first
  |exact if_pos hk
  |exact(if_neg (by show¬k=1;have hk:k=5:=hk;omega)).trans (if_pos hk)
  |exact(if_neg ak2).trans (if_neg ak5)
 refine bh (args:=[_]) (fn:=Tryz.f203) Tryz.func203 G (n:=8) Tryz.ntmps203 ?_;have S:Step M w0 M w0 aC:=aV;refine T.aQ ?_;refine ef (A:=RT.qy (n+1)) (a:=q) G G hM hv (dK _) (λu1 Eg gh iA _=>?_);replace hv:=hv.le iA.le;replace hM:=iA.lt hM;have:=S.size;replace S:=S.aw iA;refine ew M gg G (λgu tv H8 H9 cG iG=>?_);obtain⟨fu,gI⟩:∃M',M'=ins M gu:=⟨_,rfl⟩;rw[<-gI]at iG;have b9:fu gu:=by rw[gI];exact .inl G
 change tv.heap[gu]? =some (.cells #[.int .i64 0,.string ⟨#[]⟩,.string ⟨#[]⟩,.slice none 0 0,.slice none 0 0] _ _)at cG;replace gh:=gh.le (aG _) iG.le;replace hM:=iG.lt hM;have:=S.size;replace S:=S.aw iG;refine ad (T.aQ ?_);refine ao (A:=RT.qy (n+1)) (B:=RT.int .i64) ak G G I3 Tg (yK n) G G (aG _) gh bS (λH4 lY=>?_);refine bV al G G lY bS (λvz=>?_);refine bg (v':= .int .i64 q.kind) G ?_;refine ao (A:=RT.qy (n+1)) (B:=RT.fd) ak G G kF Tg (BG n) G G (aG _) gh bS (λu12 Jg=>?_);refine bN (A:=RT.fd) br G kF Tg G G G Jg bS (λZf GW=>?_);obtain rfl:=kQ GW;refine dw (places:=[(0,1),(1,2),(3,1),(4,1)]) ak gg Tb rfl ⟨_,_,rfl,rfl,_,_,rfl,rfl,rfl⟩ (out:=[_,_,_,.slice none 0 0,.slice none 0 0]) ⟨0,[_],rfl,rfl,by simp[Value.cells],1,[_,_],rfl,rfl,by simp[Value.cells],rfl⟩ ?_;refine cY (M:=fu) (vs:=[.int .i64 q.kind,.string ⟨q.term.1.toArray⟩,.string ⟨q.term.2.toArray⟩,.slice none 0 0,.slice none 0 0]) gg G G aa6 rfl rfl cG b9 (λw5 g5 s5=>?_);have:=ae cG;replace b9:=(s5.mem _ this).2 b9;replace gh:=gh.le (aG _) s5.le;replace hM:=s5.lt hM;have:=S.size;replace S:=S.trans s5 (λk hk h=>by have h:_=_:=h;subst h;first|(exfalso;omega)|(show _<=_;omega)|exact⟨by first|omega|assumption,(S.mem _ hk).1 ((s5.mem _ (ae cG)).1 b9)⟩|exact .inl rfl|exact .inr rfl|exact .inr (.inl rfl)|exact .inr (.inr rfl)|exact .inr (.inr (.inl rfl))|exact rfl);have ga:=g5;clear cG;have cG:=ga;clear ga;refine ad (aJ ?_);rw[hqb];exact ku G G ak G gg G g5 ⟨Fi hkr rW gZ gZ,S.back⟩
theorem GX {M:aM} {n:Nat} {q:Qy} {v:Value} (w0:World) (hM:Lt M w0) (hv:(RT.qy (n+1)).V M w0 q v) (hk:q.kind=5):
  Spec Tryz.prog 207 #[v] w0 (λv w=>(RT.qy (n+1)).V M w (kH q) v/\Step M w0 M w aC):=by
 have gv:=hM;obtain⟨_,_,_,hkr,rW,_,_⟩:=mF hv
 have hqb:kH q= .mk q.kind (q.term.1,[]) q.words []:=by
  obtain⟨k,t,ws,ks⟩:=q
  first
  |exact if_pos hk
  |exact(if_neg (by show¬k=1;have hk:k=5:=hk;omega)).trans (if_pos hk)
  |exact(if_neg ak2).trans (if_neg ak5)
 refine bh (args:=[_]) (fn:=Tryz.f207) Tryz.func207 G (n:=12) Tryz.ntmps207 ?_;have S:Step M w0 M w0 aC:=aV;refine T.aQ ?_;refine ef (A:=RT.qy (n+1)) (a:=q) G G hM hv (dK _) (λu1 Eg gh iA _=>?_);replace hv:=hv.le iA.le;replace hM:=iA.lt hM;have:=S.size;replace S:=S.aw iA;refine ew M gg G (λgu tv H8 H9 cG iG=>?_);obtain⟨fu,gI⟩:∃M',M'=ins M gu:=⟨_,rfl⟩;rw[<-gI]at iG;have b9:fu gu:=by rw[gI];exact .inl G
 change tv.heap[gu]? =some (.cells #[.int .i64 0,.string ⟨#[]⟩,.string ⟨#[]⟩,.slice none 0 0,.slice none 0 0] _ _)at cG;replace gh:=gh.le (aG _) iG.le;replace hM:=iG.lt hM;have:=S.size;replace S:=S.aw iG;refine ad (T.aQ ?_);refine ao (A:=RT.qy (n+1)) (B:=RT.int .i64) ak G G I3 Tg (yK n) G G (aG _) gh bS (λH4 lY=>?_);refine bV al G G lY bS (λvz=>?_);refine bg (v':= .int .i64 q.kind) G ?_;refine ao (A:=RT.qy (n+1)) (B:=RT.fd) ak G G kF Tg (BG n) G G (aG _) gh bS (λu12 Jg=>?_);refine ao (A:=RT.fd) (B:=RT.str) br G G I9 Tg EF G G Tg Jg bS (λu13 aad=>?_);refine bB aA G G G G G aad bS (λv14 aae=>?_);obtain rfl:=dS aae;refine dw (places:=[(0,1),(1,1)]) br kF XZ rfl ⟨_,_,rfl,rfl,rfl⟩ (out:=[_,.string ⟨#[]⟩]) ⟨0,[_],rfl,rfl,by simp[Value.cells],rfl⟩ ?_;refine ao (A:=RT.qy (n+1)) (B:=(RT.str.sl)) ak G G rA Tg (EG n) G G (aG _) gh bS (λu16 Z9=>?_);refine bB ax G G G G G Z9 bS (λv17 MH=>?_);refine dw (places:=[(0,1),(1,2),(3,1),(4,1)]) ak gg Tb rfl ⟨_,_,rfl,rfl,_,_,rfl,rfl,_,_,rfl,rfl,rfl⟩ (out:=[_,_,_,_,.slice none 0 0]) ⟨0,[_],rfl,rfl,by simp[Value.cells],1,[_,_],rfl,rfl,by simp[Value.cells],3,[_],rfl,jl MH,by simp[Value.cells],rfl⟩ ?_;refine cY (M:=fu) (vs:=[.int .i64 q.kind,.string ⟨q.term.1.toArray⟩,.string ⟨#[]⟩,v17,.slice none 0 0]) gg G G aa6 rfl rfl cG b9 (λw5 g5 s5=>?_);have:=ae cG;replace b9:=(s5.mem _ this).2 b9;replace gh:=gh.le (aG _) s5.le;replace MH:=MH.le s5.le;replace hM:=s5.lt hM;have:=S.size
 replace S:=S.trans s5 (λk hk h=>by have h:_=_:=h;subst h;first|(exfalso;omega)|(show _<=_;omega)|exact⟨by first|omega|assumption,(S.mem _ hk).1 ((s5.mem _ (ae cG)).1 b9)⟩|exact .inl rfl|exact .inr rfl|exact .inr (.inl rfl)|exact .inr (.inr rfl)|exact .inr (.inr (.inl rfl))|exact rfl);have ga:=g5;clear cG;have cG:=ga;clear ga;refine ad (aJ ?_);rw[hqb];exact ku G G ak G gg G g5 ⟨Fi hkr ⟨rW.1,a8 _⟩ (MH.le (lE gv S)) gZ,S.back⟩
end Go.K
namespace Go.K
open Go.Proofs
namespace TKWMay
theorem an3:Enters Tryz.prog 299:=enters Tryz.func299 rfl Tg
end TKWMay
open TKWMay
set_option maxRecDepth 10000
theorem l6 {l x:List UInt8} (h1:(words l).length=1) (hx:(words l)[0]? =some x):cR l=(decide (x=l)&&decide (l.length<=30)):=by
 obtain⟨y,hy⟩:∃y,words l=[y]:=List.length_eq_one_iff.1 h1;rw[hy]at hx;have hx:y=x:=by simpa using hx
 unfold cR;rw[hy,hx,j6];simp
theorem xu {l:List UInt8} (h1: ¬(words l).length=1):cR l=false:=by
 unfold cR;rw[decide_eq_false_iff_not];rintro⟨h,_⟩;rw[h]at h1;exact h1 G
def kX (p:List Int×List (List UInt8)):Nat:=(ic p.1).length+(p.2.map List.length).sum
theorem Ry {p:List Int×List (List UInt8)} {c:Int} (h:ph c=true):kX (eU p c)=kX p+(Lib.encodeRune (rB (ez c))).length:=by
 rw[zT h];unfold kX;simp only[];rw[kO,bM];omega
theorem CU {p:List Int×List (List UInt8)} {c:Int} (h:ph c=false):kX (eU p c)=kX p:=by
 rw[kP h];unfold kX;by_cases h0:0<p.1.length
 ·rw[if_pos h0];simp[ic];omega
 ·have:p.1=[]:=cB.1 q0;rw[if_neg h0];simp[ic,this]
theorem Rz {l:List UInt8} (h1:128<=(dec l).1) (h2:(dec l).1≠65533):2<=(dec l).2:=by
 unfold dec Dx at*
 split at h1
 ·rename_i h;rw[if_pos h]at h2;simp only at h1;omega
 ·rename_i h;rw[if_neg h]at h2 ⊢
  split
  ·rename_i h3;rw[if_pos h3]at h2
   split
   ·simp only;omega
   ·rename_i h4;rw[if_neg h4]at h2;exact absurd G h2
  ·rename_i h3;rw[if_neg h3]at h2
   split
   ·rename_i h5;rw[if_pos h5]at h2
    split
    ·simp only;omega
    ·rename_i h4;rw[if_neg h4]at h2;exact absurd G h2
   ·rename_i h5;rw[if_neg h5]at h2
    split
    ·rename_i h6;rw[if_pos h6]at h2
     split
     ·simp only;omega
     ·rename_i h4;rw[if_neg h4]at h2;exact absurd G h2
    ·rename_i h6;rw[if_neg h6]at h2;exact absurd G h2
theorem RA {c:Int} (h:ph c=true):(0<=c/\c<128/\0<=ez c/\ez c<128)\/(128<=c/\c<2048/\128<=ez c/\ez c<2048):=by
 have h1:fO c=true\/mG c=true:=by simpa[ph]using h
 simp only[fO,mG,decide_eq_true_eq]at h1;unfold ez
 split<;>omega
theorem CV {c:Int} (h:0<=c/\c<2048):rB c=c:=ox q0
theorem MK {l:List UInt8} (hl:l≠[]) (h:ph ((dec l).1:Int)=true):(Lib.encodeRune (rB (ez ((dec l).1:Int)))).length<=(dec l).2:=by
 have hw:=(jJ hl).1;rcases RA h with⟨h1,h2,h3,h4⟩|⟨h1,h2,h3,h4⟩
 ·rw[CV q0,acR ⟨h3,h4⟩];exact hw
 ·rw[CV q0,acS ⟨h3,h4⟩];exact Rz q0 q0
theorem Ji:∀(n:Nat) (l:List UInt8),l.length=n->∀p,kX ((dN l).foldl eU p)<=kX p+l.length/\(kX ((dN l).foldl eU p)=kX p+l.length->∀c∈dN l,ph c=true):=by
 intro n
 induction n using Nat.strongRecOn with
 |_ n ih=>
  intro l hn p;by_cases hl:l=[]
  ·subst hl;rw[l3];exact⟨bz _,λ_ c hc=>by cases hc⟩
  ·have hw:=jJ hl;have hd:(l.drop (dec l).2).length=l.length-(dec l).2:=cW ..;obtain⟨h1,h2⟩:=ih (l.drop (dec l).2).length q0 _ rfl (eU p ((dec l).1:Int));rw[kN hl,qq]
   cases lJ:ph ((dec l).1:Int)with
   |true=>
    have h3:=Ry (p:=p) lJ;have h4:=MK hl lJ;refine ⟨by omega,λe c hc=> ?_⟩;rcases du.1 hc with rfl|hc
    ·exact lJ
    ·exact h2 q0 c hc
   |false=>
    have h3:=CU (p:=p) lJ;exact⟨by omega,λe=>by omega⟩
theorem KN:∀(sg:List Int) (p:List Int×List (List UInt8)),(∀c∈sg,ph c=true)->sg.foldl eU p=(p.1++sg.map ez,p.2)
 |[],p,_=>by simp
 |c::sg,p,h=>by
  rw[qq,KN sg _ (λx hx=>h x (cu _ hx)),zT (h c (bO ..))];simp
theorem GY {l:List UInt8} (h:∀c∈dN l,ph c=true) (hn:dN l≠[]):words l=[ic ((dN l).map ez)]:=by
 unfold words;rw[jb,KN _ _ h];show(eU _ 32).2=_;rw[kP O0,if_pos (by simp;exact dC.2 hn)];simp
theorem AT (l:List UInt8):cR l=true↔dN l≠[]/\l.length<=30/\ic ((dN l).map ez)=l/\∀c∈dN l,ph c=true:=by
 unfold cR;rw[decide_eq_true_iff];constructor
 ·rintro⟨h1,h2⟩
  have gD:∀c∈dN l,ph c=true:=by
   refine (Ji l.length l G ([],[])).2 ?_
   have h3:kX ((dN l++[32]).foldl eU ([],[]))=kX ((dN l).foldl eU ([],[])):=by
    rw[jb];exact CU O0
   have h4:((dN l++[32]).foldl eU ([],[])).2=[l]:=h1
   have h5:((dN l++[32]).foldl eU ([],[])).1=[]:=by
    rw[jb];show(eU _ 32).1=[];rw[kP O0];split<;>rfl
   rw[<-h3];unfold kX;rw[h4,h5];simp[ic]
  have fw:dN l≠[]:=λe=>by
   have:words l=[]:=by unfold words;rw[e];rfl
   rw[this]at h1;cases h1
  refine⟨fw,h2,?_,gD⟩;have:=GY gD fw;rw[this]at h1;simpa using h1
 ·rintro⟨h1,h2,h3,h4⟩;exact⟨by rw[GY h4 h1,h3],h2⟩
theorem ir {l:List UInt8} (h: ¬(dN l≠[]/\l.length<=30/\ic ((dN l).map ez)=l/\∀c∈dN l,ph c=true)):cR l=false:=fh.2 λe=>h ((AT l).1 e)
theorem ML {M:aM} {l:List UInt8} (w0:World) (hM:Lt M w0) (hl:l.length<=3900000):
  Spec Tryz.prog 299 #[.string ⟨l.toArray⟩] w0 (λv w=>v= .bool (cR l)/\Step M w0 M w aC):=by
 refine bh (args:=[_]) (fn:=Tryz.f299) Tryz.func299 G (n:=21) Tryz.ntmps299 ?_;have S:Step M w0 M w0 aC:=aV;refine T.aQ (Rg.aZ G G (T.aQ (ab G G ?_)));refine aP G G X4 (xO _ hM hl) (λr1 w1 hc=>?_);obtain⟨hr,s1⟩:=hc;replace hM:=s1.lt hM;have:=S.size;replace S:=S.aw s1;refine Rg.aZ G G (T.aQ (ab G G ?_));have H5:=l4 l;refine bC ax G hr G (fe G G G (ab G G ?_));refine aO (g:=9) G (λU8=>?_) (λU8=>?_)
 ·refine ah G G (ab G G (ah G G ?_));obtain⟨x,hx⟩:∃x,(words l)[0]? =some x:=⟨_,aq q0⟩;refine cC ax I9 G G G hr bS q0 (λu25 x_ gp an4=>?_);obtain rfl:=aI (hx.symm.trans gp);refine ah G G ?_;refine bB aA G G G G G an4 bS (λv26 aaf=>?_);obtain rfl:=dS aaf;refine ah G G (ab G G (ah G G (Rg.tT G G G (aU G G G (ab G G ?_)))));refine aO (g:=16) G (λAU=>?_) (λAU=>?_)
  ·refine ah G G (ab G G (ah G G (sI aA G G (bg (v':= .int .i64 (l.length:Int)) a84 (ah G G (fM G G G (aU G G G (Rg.aZ G G (aJ ?_)))))))))
   first
   |exact aK rfl rfl ⟨congrArg Value.bool af4,S⟩
   |exact aK G G ⟨congrArg Value.bool (by rw[l6 q0 hx,decide_eq_false AU,eD]),S⟩
   |exact aK G G ⟨congrArg Value.bool (by rw[xu q0]),S⟩
  ·refine aj G G G G (aj G G G G (aj G G G G (aB G G G (Rg.aZ G G (aJ ?_)))))
   first
   |exact aK rfl rfl ⟨congrArg Value.bool af4,S⟩
   |exact aK G G ⟨congrArg Value.bool (by rw[l6 q0 hx,decide_eq_false AU,eD]),S⟩
   |exact aK G G ⟨congrArg Value.bool (by rw[xu q0]),S⟩
 ·refine aj G G G G (aj G G G G (aj G G G G (aj G G G G (aj G G G G (aB G G G (ab G G (aj G G G G (aj G G G G (aj G G G G (aB G G G (aN G G ?_)))))))))));refine ad (aJ ?_)
  first
  |exact aK rfl rfl ⟨congrArg Value.bool af4,S⟩
  |exact aK G G ⟨congrArg Value.bool (by rw[l6 q0 hx,decide_eq_false AU,eD]),S⟩
  |exact aK G G ⟨congrArg Value.bool (by rw[xu q0]),S⟩
theorem WT {M:aM} {l:List UInt8} (w0:World) (hM:Lt M w0) (hl:l.length<=3900000):
  Spec Tryz.prog 266 #[.string ⟨l.toArray⟩] w0 (λv w=>v= .bool (!cR l)/\Step M w0 M w aC):=by
 refine bh (args:=[_]) (fn:=Tryz.f266) Tryz.func266 G (n:=6) Tryz.ntmps266 (T.aQ (Rg.aZ G G (T.aQ (ab G G ?_))));refine aP G G an3 (ML _ hM hl) (λr1 w1 hc=>?_);obtain⟨rfl,s1⟩:=hc;refine fV G G (Rg.aZ G G (aJ ?_));exact aK G G ⟨G,s1⟩
end Go.K
namespace Go.K
open Go.Proofs
namespace TKQOwn
theorem rG:TI Tryz.prog 26 (.slice none 0 0) 1 24:=by unfold TI;kernel_rfl
theorem an5:Enters Tryz.prog 202:=enters Tryz.func202 rfl Tg
theorem an6:Enters Tryz.prog 203:=enters Tryz.func203 rfl Tg
theorem an7:Enters Tryz.prog 204:=enters Tryz.func204 rfl Tg
theorem an8:Enters Tryz.prog 207:=enters Tryz.func207 rfl Tg
theorem an9:Enters Tryz.prog 208:=enters Tryz.func208 rfl Tg
theorem afB:Enters Tryz.prog 266:=enters Tryz.func266 rfl Tg
theorem aoa:Enters Tryz.prog 268:=enters Tryz.func268 rfl Tg
theorem aob:Enters Tryz.prog 269:=enters Tryz.func269 rfl Tg
theorem aoc:Enters Tryz.prog 300:=enters Tryz.func300 rfl Tg
end TKQOwn
open TKQOwn
set_option maxRecDepth 10000
theorem Jj {M:aM} {l:List (List UInt8)} {v:Value} (w0:World) (hM:Lt M w0) (hv:(RT.str.sl).V M w0 l v) (hb:∀x∈l,x.length<=3900000):
  Spec Tryz.prog 300 #[v,.func (.func 266) #[] #[]] w0 (λv' w=>∃k:Int,v'= .int .i64 k/\ -1<=k/\(0<=k↔l.all cR=false)/\Step M w0 M w aC):=by
 have hlen:=cU hv;refine bh (args:=[_,_]) (fn:=Tryz.f300) Tryz.func300 G (n:=19) Tryz.ntmps300 ?_;have S:Step M w0 M w0 aC:=aV;refine T.aQ (Rg.aZ G G (aL (T.aQ (ab G G (bC ax G hv G (ab G G (ad (aX ?_))))))));refine dd (σ:=Nat) (λi=>[(0,v),(1,.func (.func 266) #[] #[]),(7,.int .i64 (l.length:Int)),(8,.int .i64 (i:Int))]) (λi w=>i<=l.length/\Lt M w/\Step M w0 M w aC/\(RT.str.sl).V M w l v/\∀(j:Nat) x,j<i->l[j]? =some x->cR x=true) (λi=>l.length-i) 0 a00 ?_ ?_
 ·exact⟨a8 _,hM,S,hv,λj x h=>absurd h (ec _)⟩
 ·clear hM S hv;rintro i w ⟨hi,hM,S,hv,gD⟩;refine T.aQ (cx G G G (ad (aL ?_)));refine bE G (λc2=>?_) (λc2=>?_)
  ·refine aS (aL (aX (T.aQ (ab G G (Rg.aZ G G (T.aQ (ab G G (ab G G ?_))))))));refine ab G G ?_;obtain⟨x,hx⟩:∃x,l[i]? =some x:=⟨_,aq q0⟩;have Pk:=hb x (av hx);refine cC ax I9 G G G hv bS q0 (λu43 x_ gp Q6=>?_);rw[ar]at gp;obtain rfl:=aI (hx.symm.trans gp);refine bB aA G G G G G Q6 bS (λv44 aag=>?_);obtain rfl:=dS aag;refine oS (first:=[]) (captured:=[]) (xs:=[.tmp 15]) G G G afB (WT (l:=x) _ hM Pk) (λr4 w4 hc=>?_);obtain⟨rfl,s4⟩:=hc;refine bg (v':= .bool (decide (cR x=false))) (by cases cR x<;>rfl) ?_;replace hv:=hv.le s4.le;replace hM:=s4.lt hM;have:=S.size;replace S:=S.aw s4;refine ad ?_;refine bE G (λc4=>?_) (λc4=>?_)
   ·refine T.aQ (ab G G (Rg.aZ G G (aJ ?_)));exact aK rfl rfl ⟨_,rfl,by omega,⟨λ_=>List.all_eq_false.2 ⟨x,av hx,by rw[c4];decide⟩,λ_=>by omega⟩,S⟩
   ·refine aS (aH (bu G G G q0 (ab G G (ad ?_))));refine⟨G,i+1,a00,?_,?_⟩
    ·refine ⟨by omega,hM,S,hv,λj y hj hy=> ?_⟩;rcases cH j i with h|h
     ·exact gD j y h hy
     ·obtain rfl:j=i:=by omega
      rw[hx]at hy;cases hy;simpa using c4
    ·omega
  ·refine cN (T.aQ (Rg.aZ G G (aJ ?_)))
   exact aK G G ⟨-1,G,by omega,⟨λh=>by omega,λh=>by
    obtain⟨x,hx,hn⟩:=List.all_eq_false.1 h;obtain⟨j,hj⟩:=bK.1 hx;exact absurd (gD j x aa7 hj) hn⟩,S⟩
theorem GZ {M:aM} {l:List (List UInt8)} {v:Value} (w0:World) (hM:Lt M w0) (hv:(RT.str.sl).V M w0 l v) (hb:∀x∈l,x.length<=3900000):
  Spec Tryz.prog 268 #[v,.func (.func 266) #[] #[]] w0 (λv' w=>v'= .bool (decide (l.all cR=false))/\Step M w0 M w aC):=by
 refine bh (args:=[_,_]) (fn:=Tryz.f268) Tryz.func268 G (n:=9) Tryz.ntmps268 (T.aQ (Rg.aZ G G (T.aQ (ab G G (ab G G ?_)))));refine aP G G aoc (Jj _ hM hv hb) (λr1 w1 hc=>?_);obtain⟨k,rfl,qt,Dh,s1⟩:=hc;refine eB G G G (Rg.aZ G G (aJ ?_));exact aK G G ⟨congrArg Value.bool (decide_eq_decide.2 Dh),s1⟩
theorem Jk {M:aM} {n:Nat} {q:Qy} {v:Value} (w0:World) (hM:Lt M w0) (hv:(RT.qy (n+1)).V M w0 q v) (hb:q.term.2.length<=3900000):
  Spec Tryz.prog 204 #[v] w0 (λv w=>v= .int .i64 (if eA q.term.1=false then 4 else if cR q.term.2=true then 0 else 9)/\Step M w0 M w aC):=by
 have qA:=hv;refine bh (args:=[_]) (fn:=Tryz.f204) Tryz.func204 G (n:=14) Tryz.ntmps204 ?_;have S:Step M w0 M w0 aC:=aV;refine T.aQ ?_;refine ef (A:=RT.qy (n+1)) (a:=q) G G hM hv (dK _) (λu1 Eg gh iA _=>?_);replace hv:=hv.le iA.le;replace hM:=iA.lt hM;have:=S.size;replace S:=S.aw iA;refine Rg.aZ G G (aL (aX (T.aQ ?_)));refine ao (A:=RT.qy (n+1)) (B:=RT.fd) ak G G kF Tg (BG n) G G (aG _) gh bS (λH4 lY=>?_);refine ao (A:=RT.fd) (B:=RT.str) br G G I9 Tg EF G G Tg lY bS (λu11 Jl=>?_);refine bB aA G G G G G Jl bS (λv12 Ei=>?_);obtain rfl:=dS Ei;obtain⟨_,_,_,_,rW,_,_⟩:=mF qA;refine aP G G X2 (wO q.term.1 rW.1 _) (λr13 Wp hc=>?_);obtain⟨rfl,aah⟩:=hc;have uM:=aah M;replace gh:=gh.le (aG _) uM.le;replace hM:=uM.lt hM;have:=S.size;replace S:=S.aw uM;refine fV rfl rfl (bg (v':= .bool (decide (eA q.term.1=false))) (by cases eA q.term.1<;>rfl) (Rg.aZ rfl rfl ?_));refine bE G (λc1=>?_) (λc1=>?_)
 ·refine T.aQ (Rg.aZ G G (aJ ?_));exact aK rfl rfl ⟨by rw[if_pos c1],S⟩
 ·refine T.aQ ?_;refine ao (A:=RT.qy (n+1)) (B:=RT.fd) ak G G kF Tg (BG n) G G (aG _) gh bS (λu30 RB=>?_);refine ao (A:=RT.fd) (B:=RT.str) br G G I9 Tg Lz G G Tg RB bS (λu31 RC=>?_);refine bB aA G G G G G RC bS (λv32 RD=>?_);obtain rfl:=dS RD;refine aP G G afB (WT _ hM hb) (λr33 w33 hc=>?_);obtain⟨rfl,sx⟩:=hc;refine bg (v':= .bool (decide (cR q.term.2=false))) ai2 ?_;replace gh:=gh.le (aG _) sx.le;replace hM:=sx.lt hM;have:=S.size;replace S:=S.aw sx;refine Rg.aZ G G ?_;refine bE G (λc3=>?_) (λc3=>?_)
  ·refine T.aQ (Rg.aZ G G (aJ ?_));exact aK rfl rfl ⟨by rw[if_neg c1,if_neg (by rw[c3];decide)],S⟩
  ·refine aS (T.aQ (Rg.aZ G G (aJ ?_)));exact aK rfl rfl ⟨by rw[if_neg c1,if_pos (by simpa using c3)],S⟩
theorem Ej {M:aM} {n:Nat} {q:Qy} {v:Value} (w0:World) (hM:Lt M w0) (hv:(RT.qy (n+1)).V M w0 q v) (hb:∀x∈q.words,x.length<=3900000):
  Spec Tryz.prog 208 #[v] w0 (λv w=>v= .int .i64 (if eA q.term.1=false then 4 else if q.words=[]then 9 else if q.words.all cR=false then 9 else if 6<q.words.length then 7 else 0)/\Step M w0 M w aC):=by
 have qA:=hv;refine bh (args:=[_]) (fn:=Tryz.f208) Tryz.func208 G (n:=24) Tryz.ntmps208 ?_;have S:Step M w0 M w0 aC:=aV;refine T.aQ ?_;refine ef (A:=RT.qy (n+1)) (a:=q) G G hM hv (dK _) (λu1 Eg gh iA _=>?_);replace hv:=hv.le iA.le;replace hM:=iA.lt hM;have:=S.size;replace S:=S.aw iA;refine Rg.aZ G G (aL (aX (T.aQ ?_)));refine ao (A:=RT.qy (n+1)) (B:=RT.fd) ak G G kF Tg (BG n) G G (aG _) gh bS (λH4 lY=>?_);refine ao (A:=RT.fd) (B:=RT.str) br G G I9 Tg EF G G Tg lY bS (λu11 Jl=>?_);refine bB aA G G G G G Jl bS (λv12 Ei=>?_);obtain rfl:=dS Ei;obtain⟨_,_,_,_,rW,_,_⟩:=mF qA;refine aP G G X2 (wO q.term.1 rW.1 _) (λr13 Wp hc=>?_);obtain⟨rfl,aah⟩:=hc;have uM:=aah M;replace gh:=gh.le (aG _) uM.le;replace hM:=uM.lt hM;have:=S.size;replace S:=S.aw uM;refine fV rfl rfl (bg (v':= .bool (decide (eA q.term.1=false))) (by cases eA q.term.1<;>rfl) (Rg.aZ rfl rfl ?_));refine bE G (λc1=>?_) (λc1=>?_)
 ·refine T.aQ (Rg.aZ G G (aJ ?_));exact aK rfl rfl ⟨by rw[if_pos c1],S⟩
 ·refine T.aQ ?_;refine ao (A:=RT.qy (n+1)) (B:=(RT.str.sl)) ak G G rA Tg (EG n) G G (aG _) gh bS (λu30 RB=>?_);refine bB ax G G G G G RB bS (λv31 MM=>?_);have H5:=cU MM;refine bC ax G MM G (fe G G G (ab G G ?_));refine aO (g:=14) G (λLV=>?_) (λLV=>?_)
  ·refine aj G G G G (aj G G G G (aj G G G G (aU G G G (Rg.aZ G G (kD G (T.aQ (Rg.aZ G G (aJ ?_))))))))
   first
   |exact aK rfl rfl ⟨by rw[if_neg c1,if_pos (cB.1 q0)],S⟩
   |exact aK rfl rfl ⟨by rw[if_neg c1,if_neg (λe=>LV ak0),if_pos c3],S⟩
  ·refine ah G G ?_;refine ao (A:=RT.qy (n+1)) (B:=(RT.str.sl)) ak G G rA Tg (EG n) G G (aG _) gh bS (λu35 aoe=>?_);refine ah G G ?_;refine bB ax G G G G G aoe bS (λv36 aof=>?_);refine ah G G ?_;refine aP G G aoa (GZ _ hM aof hb) (λr37 w37 hc=>?_);obtain⟨rfl,s37⟩:=hc;replace gh:=gh.le (aG _) s37.le;replace hM:=s37.lt hM;have:=S.size;replace S:=S.aw s37;refine aB G G G (Rg.aZ G G ?_);refine bE G (λc3=>?_) (λc3=>?_)
   ·refine T.aQ (Rg.aZ G G (aJ ?_))
    first
    |exact aK rfl rfl ⟨by rw[if_neg c1,if_pos (cB.1 q0)],S⟩
    |exact aK rfl rfl ⟨by rw[if_neg c1,if_neg (λe=>LV ak0),if_pos c3],S⟩
   ·have fw: ¬q.words=[]:=λe=>LV ak0
    refine T.aQ ?_;refine ao (A:=RT.qy (n+1)) (B:=(RT.str.sl)) ak G G rA Tg (EG n) G G (aG _) gh bS (λu50 Q7=>?_);refine bB ax G G G G G Q7 bS (λv51 Z1=>?_);refine bC ax G Z1 G (eR G G G (Rg.aZ G G ?_));refine bE G (λc5=>?_) (λc5=>?_)
    ·refine T.aQ (Rg.aZ G G (aJ ?_));exact aK rfl rfl ⟨by rw[if_neg c1,if_neg fw,if_neg c3,if_pos q0],S⟩
    ·refine aS (T.aQ (Rg.aZ G G (aJ ?_)));exact aK rfl rfl ⟨by rw[if_neg c1,if_neg fw,if_neg c3,if_neg q0],S⟩
theorem Jm {M:aM} {n:Nat} {q:Qy} {v:Value} (w0:World) (hM:Lt M w0) (hv:(RT.qy (n+1)).V M w0 q v) {b:Nat} {most:Int} (hb:w0.heap[b]? =some (.cells #[.int .i64 most] 3 (0,0))):
  Spec Tryz.prog 269 #[v,.pointer (some ⟨b,0,none⟩)] w0 (λv w=>v= .int .i64 (if q.kids.length=0 then 9 else if most<q.kids.length then 7 else 0)/\Step M w0 M w aC):=by
 refine bh (args:=[_,_]) (fn:=Tryz.f269) Tryz.func269 G (n:=15) Tryz.ntmps269 ?_;have S:Step M w0 M w0 aC:=aV;refine T.aQ ?_;refine ef (A:=RT.qy (n+1)) (a:=q) G G hM hv (dK _) (λu2 Eg dY iA _=>?_);replace hv:=hv.le iA.le;replace hM:=iA.lt hM;have:=S.size;replace S:=S.aw iA;refine Rg.aZ G G (aL (T.aQ ?_));refine ao (A:=RT.qy (n+1)) (B:=((RT.qy n).sl (aG n))) ak G G rG Nat.one_pos (Bv n) G G (aG _) dY bS (λH4 lY=>?_);refine bB bD G G G G G lY bS (λv11 Ek=>?_);have zg:=cU Ek;refine bC (A:=RT.qy n) (hn:=aG _) bD G Ek G (Rg.aZ G G (aX (T.aQ (ab G G (fe G G G (Rg.aZ G G ?_))))));refine bE G (λc2=>?_) (λc2=>?_)
 ·refine T.aQ (Rg.aZ G G (aJ ?_));exact aK rfl rfl ⟨by rw[if_pos q0],S⟩
 ·refine T.aQ (ab G G (aR al G G G (S.aF hb) G (bg (v':= .int .i64 most) G (eR G G G (Rg.aZ G G ?_)))));refine bE G (λc4=>?_) (λc4=>?_)
  ·refine T.aQ (Rg.aZ G G (aJ ?_));exact aK rfl rfl ⟨by rw[if_neg q0,if_pos q0],S⟩
  ·refine aS (T.aQ (Rg.aZ G G (aJ ?_)));exact aK rfl rfl ⟨by rw[if_neg q0,if_neg q0],S⟩
structure SzO (t:Fd) (ws:List (List UInt8)):Prop where
 t2:t.2.length<=3900000
 w:∀x∈ws,x.length<=3900000
mutual
def CW:Qy->Prop
 |.mk _ t ws ks=>SzO t ws/\MN ks
def MN:List Qy->Prop
 |[]=>True
 |q::ks=>CW q/\MN ks
end
theorem RE {ks:List Qy}:MN ks↔∀q∈ks,CW q:=by
 induction ks with
 |nil=>simp[MN]
 |cons q ks ih=>rw[MN,ih,List.forall_mem_cons]
theorem WU {q:Qy}:CW q↔SzO q.term q.words/\∀x∈q.kids,CW x:=by
 obtain⟨k,t,ws,ks⟩:=q;rw[CW,RE];rfl
theorem KO {k:Int} {t:Fd} {ws:List (List UInt8)} {ks:List Qy} (hk:1<=k/\k<=5) (h: ¬Qy.mk k t ws ks=kH (.mk k t ws ks)):iR k t ws ks.length=9:=by
 unfold iR;rw[if_neg q0];rw[kH]at h;by_cases h1:k=1
 ·rw[if_pos h1]at h;rw[if_neg q0,if_pos];by_cases hk:ks=[]
  ·exact .inr (.inl ⟨h1,λhw=>h (by rw[hk,hw])⟩)
  ·exact .inl (dC.2 hk)
 rw[if_neg h1]at h;by_cases h5:k=5
 ·rw[if_pos h5]at h;rw[if_neg q0,if_pos];by_cases hk:ks=[]
  ·exact .inr (.inr ⟨h5,λhw=>h (by rw[hk,<-hw])⟩)
  ·exact .inl (dC.2 hk)
 rw[if_neg h5]at h;rw[if_pos q0,if_pos];by_cases ht:t=([],[])
 ·exact .inr (.inl λhw=>h (by rw[ht,hw]))
 ·exact .inl ht
theorem KP {k:Int} {t:Fd} {ws:List (List UInt8)} {n:Nat} (hk: ¬(1<=k/\k<=5)):iR k t ws n=9:=by
 unfold iR;rw[if_pos q0]
theorem RF {k:Int} {t:Fd} {ws:List (List UInt8)} {ks:List Qy} (hk:k=1) (h:Qy.mk k t ws ks=kH (.mk k t ws ks)):iR k t ws ks.length=if eA t.1=false then 4 else if cR t.2=true then 0 else 9:=by
 rw[kH]at h;rw[if_pos hk]at h;injection h with _ _ h1 h2
 subst h1 h2;unfold iR;rw[if_neg q0,if_neg q0,if_neg a11,if_pos hk]
theorem Jn {k:Int} {t:Fd} {ws:List (List UInt8)} {ks:List Qy} (hk:k=5) (h:Qy.mk k t ws ks=kH (.mk k t ws ks)):iR k t ws ks.length=if eA t.1=false then 4 else if ws=[]then 9 else if ws.all cR=false then 9 else if 6<ws.length then 7 else 0:=by
 rw[kH]at h;rw[if_neg q0,if_pos hk]at h;injection h with _ h0 _ h2
 subst h2;have h0:t.2=[]:=congrArg Prod.snd h0;unfold iR;rw[if_neg q0,if_neg q0,if_neg (by simp[h0];omega),if_neg (show¬k=1 by omega)]
theorem RG {k:Int} {t:Fd} {ws:List (List UInt8)} {ks:List Qy} (hk:k=2\/k=3\/k=4) (h:Qy.mk k t ws ks=kH (.mk k t ws ks)):iR k t ws ks.length=if ks.length=0 then 9 else if(if k=4 then 1 else 8:Int)<ks.length then 7 else 0:=by
 rw[kH]at h;rw[if_neg q0,if_neg q0]at h;injection h with _ h0 h1 _
 subst h0 h1;unfold iR;rw[if_neg q0,if_pos q0];by_cases h2:ks.length=0
 ·rw[if_pos (.inr (.inr h2)),if_pos h2]
 ·rw[if_neg (by simp;exact λe=>h2 ak0),if_neg h2];by_cases h4:k=4
  ·rw[if_pos h4];by_cases h5:(1:Int)<ks.length
   ·rw[if_pos h5,if_pos (.inr ⟨h4,by omega⟩)]
   ·rw[if_neg h5,if_neg q0]
  ·rw[if_neg h4];by_cases h5:(8:Int)<ks.length
   ·rw[if_pos h5,if_pos (.inl q0)]
   ·rw[if_neg h5,if_neg q0]
theorem KV.use {q:Qy} {a b c d:Value} {w0:World} (hK:KV q.kind (.agg #[a,b,c,d]) w0) (hk:1<=q.kind/\q.kind<=5) (hs:SzO q.term q.words):∃bf mf cap,b= .func (.func bf) #[] #[]/\c= .func (.func mf) #[] (cap:List Value).toArray/\Enters Tryz.prog bf/\Enters Tryz.prog mf/\
  (∀{M:aM} {n:Nat} {w:World} {v:Value},Lt M w->(RT.qy (n+1)).V M w q v->Spec Tryz.prog bf #[v] w (λr w'=>(RT.qy (n+1)).V M w' (kH q) r/\Step M w M w' aC))/\
  (∀{M:aM} {n:Nat} {w:World} {v:Value},Lt M w->(RT.qy (n+1)).V M w q v->KV q.kind (.agg #[a,b,c,d]) w->q=kH q->Spec Tryz.prog mf (v::cap).toArray w (λr w'=>r= .int .i64 (iR q.kind q.term q.words q.kids.length)/\Step M w M w' aC)):=by
 obtain⟨k,t,ws,ks⟩:=q;have B6:t.2.length<=3900000:=hs.t2;have hsw:∀x∈ws,x.length<=3900000:=hs.w;have hk:1<=k/\k<=5:=hk;rcases hK with⟨h1,h2⟩|⟨h1,h2⟩|⟨h1,b',wd,fv,h2,h3⟩|⟨h1,h2⟩
 ·simp only[Value.agg.injEq,Array.mk.injEq,yV]at h2;obtain⟨rfl,rfl,rfl,rfl,_⟩:=h2;exact⟨_,_,[],G,G,an6,an7,λhM hv=>MJ _ hM hv h1,λhM hv _ e=>(Jk _ hM hv B6).mono λr w' h=>⟨h.1.trans (congrArg _ (RF h1 e).symm),h.2⟩⟩
 ·simp only[Value.agg.injEq,Array.mk.injEq,yV]at h2;obtain⟨rfl,rfl,rfl,rfl,_⟩:=h2;exact⟨_,_,[],G,G,an8,an9,λhM hv=>GX _ hM hv h1,λhM hv _ e=>(Ej _ hM hv hsw).mono λr w' h=>⟨h.1.trans (congrArg _ (Jn h1 e).symm),h.2⟩⟩
 ·simp only[Value.agg.injEq,Array.mk.injEq,yV]at h2;obtain⟨rfl,rfl,rfl,rfl,_⟩:=h2;refine ⟨_,_,[.pointer (some ⟨b',0,none⟩)],G,G,an5,aob,λhM hv=>MI _ hM hv h1,λhM hv NO e=> ?_⟩;have h1:k=2\/k=3\/k=4:=h1;rcases NO with⟨h4,_⟩|⟨h4,_⟩|⟨_,b2,wd2,fv2,h4,h5⟩|⟨h4,_⟩
  ·have h4:k=1:=h4;omega
  ·have h4:k=5:=h4;omega
  ·simp only[Value.agg.injEq,Array.mk.injEq,yV,Value.func.injEq,Value.pointer.injEq,Option.some.injEq,Addr.mk.injEq]at h4;obtain⟨_,_,⟨_,_,⟨rfl,_⟩,_⟩,_⟩:=h4;exact(Jm _ hM hv h5).mono λr w' h=>⟨h.1.trans (congrArg _ (RG h1 e).symm),h.2⟩
  ·have h4:k<1\/5<k:=h4;omega
 ·have h1:k<1\/5<k:=h1;omega
end Go.K
namespace Go.K
open Go.Proofs
set_option maxRecDepth 10000
mutual
theorem WV:∀q,BH 1048576 q->CW q
 |.mk k t ws ks,h=>WU.2 ⟨⟨by have:=h.1.2.1;show t.2.length<=3900000;omega,λx hx=>by have:=h.1.2.2 x hx;omega⟩,RH ks h.2⟩
theorem RH:∀ks,Cl 1048576 ks->∀x∈ks,CW x
 |[],_=>λx hx=>by cases hx
 |q::ks,h=>λx hx=>by
  rcases du.1 hx with e|e
  ·rw[e];exact WV q h.1
  ·exact RH ks h.2 x e
end
end Go.K
namespace Go.K
open Go.Proofs
namespace TKSearch
theorem aeJ:Enters Tryz.prog 159:=enters Tryz.func159 rfl Tg
theorem aeK:Enters Tryz.prog 160:=enters Tryz.func160 rfl Tg
theorem aeL:Enters Tryz.prog 201:=enters Tryz.func201 rfl Tg
end TKSearch
open TKSearch
set_option maxRecDepth 10000
theorem Jo {w0:World} {x:Int}:
  Spec Tryz.prog 160 #[.int .i64 x] w0 (λv' w'=>v'= .bool (decide False)/\w0=w'):=by
 refine bh (args:=[_]) (fn:=Tryz.f160) Tryz.func160 G (n:=6) Tryz.ntmps160 (T.aQ (Rg.aZ G G (T.aQ (ab G G (ab G G (fm G G G (Rg.aZ G G ?_)))))));refine aJ ?_;exact aK rfl rfl ⟨by simp,rfl⟩
theorem El {w0:World} {x:Int}:
  Spec Tryz.prog 201 #[.int .i64 x] w0 (λv' w'=>v'= .bool (decide False)/\w0=w'):=by
 refine bh (args:=[_]) (fn:=Tryz.f201) Tryz.func201 G (n:=6) Tryz.ntmps201 (T.aQ (Rg.aZ G G (T.aQ (ab G G (ab G G (fm G G G (Rg.aZ G G ?_)))))));refine aJ ?_;exact aK rfl rfl ⟨by simp,rfl⟩
theorem MO {w0:World} {x y:Int}:
  Spec Tryz.prog 159 #[.int .i64 x,.int .i64 y] w0 (λv' w'=>v'= .bool (decide (x<y))/\w0=w'):=by
 refine bh (args:=[_,_]) (fn:=Tryz.f159) Tryz.func159 G (n:=17) Tryz.ntmps159 (T.aQ (Rg.aZ G G (T.aQ (ab G G ?_))));refine aP G G aeL (El) (λr wc h=>?_);obtain⟨rfl,rfl⟩:=h;refine ab G G (Rg.Dd (g:=7) G ((λh=>h)) (aj G G G G (aj G G G G (aj G G G G (aB G G G (ab G G (ah G G (ab G G (ah G G (ab G G (ah G G ?_)))))))))));refine cx G G G (aB G G G (Rg.aZ G G (aJ ?_)));exact am3
theorem G0 {M:aM} {w0:World} {v:Value} {l:List Int} {x:Int} (hv:((RT.int .i64).sl).V M w0 l v) (hr:l.Pairwise (· < ·)):
  Spec Tryz.prog 103 #[v,.int .i64 x] w0 (λv' w'=>∃i:Int,v'= .tuple #[.int .i64 i,.bool (l.contains x)]/\w0=w'):=by
 have hlen:=cU hv;refine bh (args:=[_,_]) (fn:=Tryz.f103) Tryz.func103 G (n:=54) Tryz.ntmps103 (T.aQ (aN G G (Rg.aZ G G (T.aQ (ab G G (bC az G hv G (Rg.aZ G G ?_)))))));refine T.aQ (ab G G (aN G G (Rg.aZ G G (aL (aX ?_)))));refine dd (σ:=Nat×Nat) (λs=>[(0,v),(1,.int .i64 x),(6,.int .i64 l.length),(7,.int .i64 s.1),(8,.int .i64 s.2)]) (λs w=>w0=w/\s.1<=s.2/\s.2<=l.length/\(∀t y,t<s.1->l[t]? =some y->y<x)/\(∀t y,s.2<=t->l[t]? =some y->x<=y)) (λs=>s.2-s.1) (0,l.length) a56 ?_ ?_
 ·exact⟨G,a8 _,bz _,λt y h=>absurd h (ec _),λt y h hy=>by have:=(an.1 hy).1;simp only at h;omega⟩
 ·rintro⟨i,j⟩ w1 ⟨rfl,jr,hj,h1,h2⟩;dsimp only at jr hj h1 h2 ⊢;refine aL (T.aQ (ab G G (ab G G (cx G G G (ad ?_)))));refine bE G (λc3=>?_) (λc3=>?_)
  ·refine aS (aX (T.aQ (ab G G (ab G G (bu G G G q0 (xD al Tryz.underlying262 rfl rfl (bg (v':= .int .u64 ((i+j:Nat):Int)) (congrArg _ (by rw[IntWalk.u64_in _ q0];omega)) (Rg.shr rfl rfl rfl q0 (bg (v':= .int .u64 (((i+j)/2:Nat):Int)) (congrArg _ (anT _)) (Rg.wa Tryz.underlying262 al rfl rfl q0 ?_))))))))));refine Rg.aZ G G (T.aQ (ab G G (ab G G ?_)));obtain⟨y,hy⟩:∃y,l[(i+j)/2]? =some y:=⟨_,aq q0⟩;refine cC az I3 G G G (hv) bS a52 (λaeq aoh afE uP=>?_);obtain rfl:y=aoh:=cD (aI (afE.symm.trans (by rw[ar];exact hy)));refine bV (M:=M) al G G Xf (by repeat (first|exact bQ _ _|refine bA (bR Xf) ?_)) (λQw=>?_);refine bg (v':= .int .i64 (y)) G ?_;replace Qw: -9223372036854775808<=(y:Int)/\y<=9223372036854775807:=Qw;refine ab G G ?_;refine aP G G aeJ (MO) (λr wc h=>?_);obtain⟨rfl,rfl⟩:=h;refine ad ?_;refine bE G (λc5=>?_) (λc5=>?_)
   ·refine aH (ab G G (bu G G G q0 (Rg.aZ G G ?_)));refine⟨G,((i+j)/2+1,j),a56,?_,?_⟩
    ·refine⟨rfl,by simp only;omega,hj,λt z ht hz=>?_,h2⟩;rcases cH t ((i+j)/2)with h|h
     ·have:=Ec hr hz hy h;omega
     ·rw[show t=(i+j)/2 from by simp only at ht;omega,hy]at hz;cases hz;exact c5
    ·simp only;omega
   ·refine aH (ab G G (Rg.aZ G G ?_));refine⟨G,(i,(i+j)/2),a56,?_,?_⟩
    ·refine ⟨rfl,by simp only;omega,by simp only;omega,h1,λt z ht hz=> ?_⟩;rcases cH ((i+j)/2) t with h|h
     ·have:=Ec hr hy hz h;omega
     ·rw[show t=(i+j)/2 from by simp only at ht;omega,hy]at hz;cases hz;omega
    ·simp only;omega
  ·refine cN (T.aQ (ab G G (ab G G (ab G G (cx G G G (ab G G ?_))))));refine aO (g:=35) G (λaai=>?_) (λaai=>?_)
   ·refine ah G G (ab G G (ah G G (ab G G (ah G G ?_))));obtain⟨y,hy⟩:∃y,l[i]? =some y:=⟨_,aq q0⟩;refine cC az I3 G G G (hv) bS a52 (λaxM aoi afF asG=>?_);obtain rfl:y=aoi:=cD (aI (afF.symm.trans (by rw[ar];exact hy)));refine ah G G ?_;refine bV (M:=M) al G G Xf (by repeat (first|exact bQ _ _|refine bA (bR Xf) ?_)) (λWW=>?_);refine bg (v':= .int .i64 (y)) G ?_;replace WW: -9223372036854775808<=(y:Int)/\y<=9223372036854775807:=WW;refine ah G G (ab G G (ah G G (fe G G G (ah G G (ab G G ?_)))));refine aO (g:=42) G (λAV=>?_) (λAV=>?_)
    ·refine aj G G G G (aj G G G G (aj G G G G (aj G G G G (aj G G G G (aj G G G G (cp G G G (cp G G G (aj G G G G (ah G G (aU G G G (aU G G G ?_)))))))))));refine aN G G (Rg.aZ G G (aJ ?_));have RI:=Jc hr h1 (λt y ht hy=>h2 t y q0 hy)
     first
     |exact ah9
     |exact af8
     |exact fA rfl rfl rfl ⟨_,by rw[RI,cM q0,decide_eq_false (by simp)],G⟩
    ·refine ah G G (ab G G (ah G G (ab G G (ah G G ?_))));refine cC az I3 G G G (hv) bS a52 (λasH afG aaj aoj=>?_);obtain rfl:y=afG:=cD (aI (aaj.symm.trans (by rw[ar];exact hy)));refine ah G G ?_;refine bV (M:=M) al G G Xf (by repeat (first|exact bQ _ _|refine bA (bR Xf) ?_)) (λRJ=>?_);refine bg (v':= .int .i64 (y)) G ?_;replace RJ: -9223372036854775808<=(y:Int)/\y<=9223372036854775807:=RJ;refine ah G G ?_;refine aP G G aeK (Jo) (λr wc h=>?_);obtain⟨rfl,rfl⟩:=h;refine ah G G (ab G G (Rg.Dd (g:=48) G ((λh=>h)) (aj G G G G (aj G G G G (ah G G (aB G G G (ah G G (aB G G G (aU G G G (aN G G (aN G G ?_)))))))))));refine ad (aJ ?_);have RI:=Jc hr h1 (λt y ht hy=>h2 t y q0 hy)
     first
     |exact ah9
     |exact af8
     |exact fA rfl rfl rfl ⟨_,by rw[RI,cM q0,decide_eq_false (by simp)],G⟩
   ·refine aj G G G G (aj G G G G (aj G G G G (aj G G G G (aj G G G G (aj G G G G (aj G G G G (cp G G G (cp G G G (cp G G G (cp G G G (cp G G G ?_)))))))))));refine cp G G G (cp G G G (cp G G G (cp G G G (aj G G G G (aB G G G (aN G G (Rg.aZ G G (aJ ?_))))))));have RI:=Jc hr h1 (λt y ht hy=>h2 t y q0 hy)
    first
    |exact ah9
    |exact af8
    |exact fA rfl rfl rfl ⟨_,by rw[RI,cM q0,decide_eq_false (by simp)],G⟩
end Go.K
namespace Go.K
open Go.Proofs
namespace TKSides2
theorem aok:Enters Tryz.prog 103:=enters Tryz.func103 rfl Tg
end TKSides2
open TKSides2
set_option maxRecDepth 10000
theorem CX {M:aM} {w0:World} {v:Value} {ls:List (List Int)} (hv:(((RT.int .i64).sl).sl).V M w0 ls v) (hg:∀l∈ls,WO l) (N4:ls.length<=1000):
  Spec Tryz.prog 54 #[v] w0 (λv' w'=>v'= .int .i64 (KG ls)/\w0=w'):=by
 have hlen:=cU hv;refine bh (args:=[_]) (fn:=Tryz.f54) Tryz.func54 G (n:=49) Tryz.ntmps54 (T.aQ (Rg.aZ G G (aL (T.aQ (ab G G (bC gF G hv G (fe G G G (ad ?_))))))));refine bE G (λc1=>?_) (λc1=>?_)
 ·refine T.aQ (Rg.aZ G G (aJ ?_));have:ls=[]:=cB.1 q0;subst this;exact am3
 ·obtain⟨l0,tl,rfl⟩:∃l0 tl,ls=l0::tl:=by
   cases ls with
   |nil=>simp at c1
   |cons a b=>exact⟨a,b,rfl⟩
  have rW:tl.length<=1000:=by simp only[cJ]at N4;omega
  have hlc:(l0::tl).length=tl.length+1:=rfl;refine aS (T.aQ (Rg.aZ G G (aL (T.aQ (ab G G ?_)))));refine cC gF qc G G G (hv) bS a52 (λadb aol afH Wd=>?_);obtain rfl:l0=aol:=cD (aI (afH.symm.trans rfl));refine bB az G G G G G Wd bS (λv16 G1=>?_);replace G1:((RT.int .i64).sl).V M w0 l0 v16:=G1;have Uy:=hg l0 (bO ..);have axN:=Uy.2.2;refine bC az G G1 G (ab G G (ad (aX ?_)));refine dd (σ:=Nat) (λs=>[(0,v),(3,.int .i64 (B0 tl l0 s)),(16,v16),(17,.int .i64 l0.length),(18,.int .i64 s)]) (λs w=>w0=w/\s<=l0.length) (λs=>l0.length-s) 0 a56 ?_ ?_
  ·exact⟨G,a8 _⟩
  ·rintro i w1 ⟨rfl,hi⟩;refine T.aQ (cx G G G (ad (aL ?_)));refine bE G (λc5=>?_) (λc5=>?_)
   ·refine aS (aL (aX (T.aQ ?_)));obtain⟨at_,hx⟩:∃x,l0[i]? =some x:=⟨_,aq q0⟩;refine cC az I3 G G G (G1) bS a52 (λYD aom afI FH=>?_);obtain rfl:at_=aom:=cD (aI (afI.symm.trans (by rw[ar];exact hx)));have NC:=Uy.2.1 at_ (av hx);refine bV al G G FH bS (λ_=>?_);refine bg (v':= .int .i64 at_) G (Rg.aZ G G (T.aQ (Rg.aZ G G (aL (T.aQ (ab G G ?_))))));refine Rg.oW (A:=(RT.int .i64).sl) (hn:=by decide) gF qc rfl rfl rfl hv (by simp only[cJ];omega) (λu23 MP=>?_);replace MP:(((RT.int .i64).sl).sl).V M w0 tl u23:=MP;refine bC gF G MP G (ab G G (ad (aX ?_)));refine dd (σ:=Nat) (λs=>[(0,v),(3,.int .i64 (B0 tl l0 i)),(5,.int .i64 at_),(6,.bool (Ri tl at_ s)),(16,v16),(17,.int .i64 l0.length),(18,.int .i64 i),(23,u23),(24,.int .i64 tl.length),(25,.int .i64 s)]) (λs w=>w0=w/\s<=tl.length) (λs=>tl.length-s) 0 (.cons G (.cons G (.cons G a94))) ?_ ?_
    ·exact⟨G,a8 _⟩
    ·rintro k w2 ⟨rfl,hk⟩;refine T.aQ (cx G G G (ad (aL ?_)));refine bE G (λc9=>?_) (λc9=>?_)
     ·refine aS (aL (aX (T.aQ (ab G G ?_))));obtain⟨lk,nh⟩:∃x,tl[k]? =some x:=⟨_,aq q0⟩;refine cC gF qc G G G (MP) bS a52 (λasI afJ aal aam=>?_);obtain rfl:lk=afJ:=cD (aI (aal.symm.trans (by rw[ar];exact nh)));refine bB az G G G G G aam bS (λv8 EH=>?_);replace EH:((RT.int .i64).sl).V M w0 lk v8:=EH;have hgk:=hg lk (cu _ (av nh));have xR:tl.getD k []=lk:=by rw[cg,nh];rfl
      refine aN G G (Rg.aZ G G (T.aQ (ab G G (ab G G (bu G G G q0 (ab G G (bu G G G q0 ?_)))))));refine aP G G aok (G0 (x:=at_+1+k) EH hgk.1) (λr wc h=>?_);obtain⟨i5,rfl,rfl⟩:=h;refine ab G G (cI G G G (cI G G G (aN G G (Rg.aZ G G (aH (ab G G (ab G G (bg (v':= .bool (decide (Ri tl at_ k=true))) (by simp) ?_))))))));refine aO (g:=40) G (λG2=>?_) (λG2=>?_)
      ·refine ah G G (ab G G (aU G G G (Rg.aZ G G (aH (bu G G G q0 (ab G G (ad ?_)))))));refine⟨rfl,k+1,a99,?_,?_⟩
       ·exact⟨G,by omega⟩
       ·show _-(k+1)<_-k;omega
      ·refine aj G G G G (aB G G G (Rg.aZ G G (aH (bu G G G q0 (ab G G (ad ?_))))));refine⟨rfl,k+1,a99,?_,?_⟩
       ·exact⟨G,by omega⟩
       ·show _-(k+1)<_-k;omega
     ·refine cN (T.aQ ?_);obtain rfl:k=tl.length:=by omega
      refine ab G G (bg (v':= .bool (decide (Ri tl at_ tl.length=true))) (by simp) (ad ?_));refine bE G (λLU=>?_) (λLU=>?_)
      ·refine aH (ab G G ?_);have km:=U3 tl l0 i;refine bu G G G q0 (Rg.aZ G G (aH (bu G G G q0 (ab G G (ad ?_)))));refine⟨rfl,i+1,ah8,?_,?_⟩
       ·exact⟨G,by omega⟩
       ·show _-(i+1)<_-i;omega
      ·refine aS (aH (bu G G G q0 (ab G G (ad ?_))));refine⟨rfl,i+1,ah8,?_,?_⟩
       ·exact⟨G,by omega⟩
       ·show _-(i+1)<_-i;omega
   ·refine cN (T.aQ (ab G G (Rg.aZ G G (aJ ?_))));obtain rfl:i=l0.length:=by omega
    exact am3
end Go.K
namespace Go.K
open Go.Proofs
namespace TKMTerm
theorem ki:TI Tryz.prog 45 (.agg #[(.int .i64 0),(.int .i64 0)]) 2 16:=by unfold TI;kernel_rfl
theorem HA:placesOf Tryz.prog 45=[(0,1),(1,1)].map some:=by kernel_rfl
theorem UX:Enters Tryz.prog 163:=enters Tryz.func163 rfl Tg
theorem IZ:Enters Tryz.prog 164:=enters Tryz.func164 rfl Tg
theorem aoo:Enters Tryz.prog 165:=enters Tryz.func165 rfl Tg
end TKMTerm
open TKMTerm
set_option maxRecDepth 10000
theorem Jp {M:aM} {L:List En} {t:Fd} {v0:Value} (w0:World) (hM:Lt M w0) (hs:cO RT.se M w0 v0 (Gu (jB L))) (fa:BW (-1) L=true) (hn:L.length<=100000) (h1:t.1.length<=140737488355328) (h2:t.2.length<=140737488355328):
  Spec Tryz.prog 105 #[v0,kv t] w0 (λv w=>∃M',Lt M' w/\Step M w0 M' w aC/\Own RT.fo 45 M' w w0.heap.size v (iq (GU t) 0 L)):=by
 have gv:=hM;have hF:=kB fa;have MQ:=Q0 hF q0 (dv t);have yI:(pk L (dv t)).length<=1099511627776:=MQ.ln;have hPF:((pk L (dv t)).map λp=>(p.1,((p.2.length:Nat):Int)))=iq (GU t) 0 L:=Rq t L 0 hF;refine bh (args:=[_,_]) (fn:=Tryz.f105) Tryz.func105 G (n:=25) Tryz.ntmps105 ?_;have S:Step M w0 M w0 aC:=aV;refine T.aQ ?_;refine ef (A:=RT.fd) G G hM (DO h1 h2) G (λu3 w1 gY sb _=>?_);replace hs:=hs.le Tg sb.le;replace hM:=sb.lt hM;have:=S.size;replace S:=S.aw sb;refine Rg.aZ G G (T.aQ (Rg.aZ G G (T.aQ (ab G G ?_))));refine bN (A:=RT.fd) br G kF Tg G G G gY bS (λv21 aan=>?_);obtain rfl:=kQ aan;refine aP rfl rfl UX (uW (ls:=(keysOf L).map (pk L)) (t:=t) _ hM hs (pD L) rfl (by rw[bW];rfl) h1 h2) (λr22 w22 hc=>?_);obtain⟨bc,rfl,hz,yP,hC⟩:=hc;have hz0:=S.size;generalize ins M bc=Mc at yP hC;replace hC:Cu 323 (pk L (dv t)) (-1) Mc w22 bc:=by have h:=hC;rw[show UR (Gu (jB L)).2.2.1 ((keysOf L).map (pk L)) (dv t)=(pk L (dv t))from QU _]at h;exact h
 replace hs:=hs.le Tg yP.le;replace gY:=gY.le Tg yP.le;replace hM:=yP.lt hM;have:=S.size;replace S:=S.aw yP;refine Rg.aZ G G (aL (T.aQ (ab G G ?_)));obtain⟨_,_,_,_,_,CY,_⟩:=id hC;refine aP G G IZ (oL hC hM MQ.may MQ.ps MQ.by_ MQ.ln) (λr31 w31 hc=>?_);obtain⟨rfl,s31,hC⟩:=hc;have LL:mS (pk L (dv t)) (-1)=((0:Nat):Int):=by unfold mS;rw[if_pos q0];omega
 rw[LL]at hC ⊢;replace S:=S.cr s31 (λb (hb:b=bc)=>by omega);replace hM:=s31.lt hM;refine Rg.aZ G G (aX ?_);refine dd (σ:=Nat×Value) (λq=>[(5,q.2),(6,.pointer (some ⟨bc,0,none⟩)),(7,.int .i64 (eW (pk L (dv t)) (q.1:Int)))]) (λq w=>q.1<=(pk L (dv t)).length/\∃M2,Lt M2 w/\Step M w0 M2 w aC/\Cu 323 (pk L (dv t)) (q.1:Int) M2 w bc/\Own RT.fo 45 M2 w w0.heap.size q.2 (((pk L (dv t)).map λp=>(p.1,((p.2.length:Nat):Int))).take q.1)) (λq=>(pk L (dv t)).length-q.1) (0,.slice none 0 0) a07 ?_ ?_
 ·exact⟨a8 _,_,hM,S,hC,eL _ _ _ _ _⟩
 ·clear hM S hC;rintro⟨i,vo⟩ w ⟨hi,M2,hM,S,hC,iT⟩;dsimp only at hi hC iT ⊢;refine aL (T.aQ (ab G G (cx G G G (ad ?_))));refine bE G (λc4=>?_) (λc4=>?_)
  ·have rL:i<(pk L (dv t)).length:=Nat.lt_of_not_le λh=>by rw[rv q0]at c4;exact absurd c4 Tg
   refine aS (aL (aX (aH ?_)));obtain⟨⟨pd,ps⟩,hgp⟩:∃x,(pk L (dv t))[i]? =some x:=⟨_,aq q0⟩;have hdg:=jI hgp;have hdr:=lU MQ.may hgp;have hpg:gr (pk L (dv t)) (i:Int)=ps:=by unfold gr;rw[if_neg q0,ar,hgp]
   have aop:=MQ.ps _ (av hgp);dsimp only at aop;refine ab G G (ab G G (ab G G ?_));refine aP G G aoo (GA hC MQ.may) (λr63 w63 hc=>?_);obtain⟨rfl,rfl⟩:=hc;rw[hpg,hdg];obtain⟨_,_,_,_,_,axV,_⟩:=id hC;refine dw (places:=[(0,1),(1,1)]) cQ ki HA rfl ⟨_,_,rfl,rfl,_,_,rfl,rfl,rfl⟩ (out:=[_,_]) ⟨0,[_],rfl,rfl,by simp[Value.cells],1,[_],rfl,rfl,by simp[Value.cells],rfl⟩ ?_;refine fz (A:=RT.fo) (hn:=by decide) (M:=M2) aT ki Tg G G hM (Dv q0 q0) (.inl G) (λaxW adt RL tw=>?_);replace iT:=iT.bP tw;replace hC:=hC.step tw (λh=>h);replace hM:=tw.lt hM;have:=S.size;replace S:=S.aw tw;refine dJ (M:=M2) (base:=w0.heap.size) aT ki rfl rfl rfl rfl iT RL bS (by rw[a7,bW,dW];omega) (by rw[a7,bW,dW];omega) (S.size) (λaoq axX axY afL U9=>?_);replace RL:=RL.le U9.le;replace hC:=hC.step U9 (λh=>by obtain⟨_,_,_,_,_,CY,_⟩:=id hC;exact iT.fK CY Tg h);replace hM:=U9.lt hM;have:=S.size;replace S:=S.dX U9 iT (bz _);replace iT:=afL;refine Rg.aZ G G (aH (ab G G ?_));obtain⟨_,_,_,_,_,CY,_⟩:=id hC;refine aP G G IZ (oL hC hM MQ.may MQ.ps MQ.by_ MQ.ln) (λr51 w51 hc=>?_);obtain⟨rfl,s51,hC⟩:=hc;have LL:mS (pk L (dv t)) (i:Int)=((i+1:Nat):Int):=by unfold mS;rw[if_pos q0];omega
   rw[LL]at hC ⊢;replace iT:=iT.step s51 (λc hc (h:c=bc)=>iT.fK CY Tg (h▸hc));replace S:=S.cr s51 (λb (hb:b=bc)=>by omega);replace hM:=s51.lt hM;refine Rg.aZ G G ?_;refine⟨G,(i+1,aoq),a07,?_,?_⟩
   ·exact⟨by omega,_,hM,S,hC,by rw[bY,ek,hgp];exact iT⟩
   ·dsimp only;omega
  ·have rL:(pk L (dv t)).length<=i:=Nat.le_of_not_lt λh=>by have:=(E6 (l:=(pk L (dv t))) MQ.may (i:=(i:Int))).2 ⟨by omega,by omega⟩;omega
   refine cN (T.aQ (ab G G (Rg.aZ G G (aJ (aK G G ⟨_,hM,S,?_⟩)))));rw[bp (by rw[bW];omega),hPF]at iT;exact iT
end Go.K
namespace Go.K
open Go.Proofs
namespace TKMPhr
theorem ki:TI Tryz.prog 45 (.agg #[(.int .i64 0),(.int .i64 0)]) 2 16:=by unfold TI;kernel_rfl
theorem G3:TI Tryz.prog 272 (.pointer none) 1 8:=by unfold TI;kernel_rfl
theorem HA:placesOf Tryz.prog 45=[(0,1),(1,1)].map some:=by kernel_rfl
theorem E54:Enters Tryz.prog 54:=enters Tryz.func54 rfl Tg
theorem UX:Enters Tryz.prog 163:=enters Tryz.func163 rfl Tg
theorem IZ:Enters Tryz.prog 164:=enters Tryz.func164 rfl Tg
theorem US:Enters Tryz.prog 166:=enters Tryz.func166 rfl Tg
theorem aot:Enters Tryz.prog 167:=enters Tryz.func167 rfl Tg
end TKMPhr
open TKMPhr
set_option maxRecDepth 10000
def rS (k:List UInt8) (xs:List (List UInt8)) (e:En):Option Int:=rR (qm (cZ e.1.2 k) xs)
theorem Va {ws xs:List (List UInt8)} (h:0<qm ws xs) {x:List UInt8} (hx:x∈xs):0<(ji ws x).length:=by
 unfold qm at h
 split at h
 ·omega
 ·unfold vm at h;obtain⟨i,hi⟩:=List.length_pos_iff_exists_mem.1 h;have h2:=of_decide_eq_true (gq.1 hi).2;rw[<-h2]at hx;exact CN.2 (List.mem_of_mem_drop (yo hx))
theorem vD {L:List En} (hF:∀e∈L,iQ e.1) {k:List UInt8} {xs:List (List UInt8)} {i:Nat} {e:En} (h:L[i]? =some e) (hp:rS k xs e≠none) {x:List UInt8} (hx:x∈xs):((i:Int),ji (cZ e.1.2 k) x)∈pk L (dv (k,x)):=by
 have h0:0<qm (cZ e.1.2 k) xs:=by
  unfold rS rR at hp
  split at hp
  ·assumption
  ·exact absurd G hp
 exact(Rr hF).2 ⟨i,e,h,G,Va h0 hx⟩
theorem Jq {P:List Po} (hm:eP (-1) P=true) {p:Po} (hp:p∈P) {d:Int} (hd:d<=p.1):eW P (idx P d:Nat)<=p.1:=by
 obtain⟨t,ht⟩:=bK.1 hp;have h1:=Dq ht hd;have rW:=(an.1 ht).1;obtain⟨q,hq⟩:∃q,P[idx P d]? =some q:=⟨_,aq q0⟩;rw[jI (d:=q.1) (ps:=q.2) hq];rcases cH (idx P d) t with h|h
 ·have:=nu hm hq ht h;omega
 ·have e:idx P d=t:=by omega
  rw[e,ht]at hq;cases hq;exact rl _
theorem RM {P:List Po} (hm:eP (-1) P=true) {p:Po} (hp:p∈P) {i:Nat} {d:Int} {ps:List Int} (hi:P[i]? =some (d,ps)) (hd:d<p.1):eW P ((i+1:Nat):Int)<=p.1:=by
 obtain⟨t,ht⟩:=bK.1 hp;have rW:=(an.1 ht).1
 have hit:i<t:=by
  rcases ff t i with h|h|h
  ·have:=nu hm ht hi h;simp only at this;omega
  ·subst h;rw[hi]at ht;cases ht;simp only at hd;omega
  ·exact h
 obtain⟨q,hq⟩:∃q,P[i+1]? =some q:=⟨_,aq q0⟩;rw[jI (d:=q.1) (ps:=q.2) hq];rcases cH (i+1) t with h|h
 ·have:=nu hm hq ht h;omega
 ·have e:i+1=t:=by omega
  rw[e,ht]at hq;cases hq;exact rl _
theorem KQ {f:En->Option Int} {L:List En} {m:Nat}:∀n,(∀i e,m<=i->i<m+n->L[i]? =some e->f e=none)->iq f 0 (L.take (m+n))=iq f 0 (L.take m)
 |0,_=>rfl
 |n+1,h=>by
  rw[<-KQ n λi e h1 h2=>h i e h1 q0,<-Nat.add_assoc]
  cases hL:L[m+n]? with
  |some e=>rw[oM hL];unfold Ee;rw[h _ e q0 q0 hL,eX]
  |none=>rw[bY,hL];simp
theorem vE {f:En->Option Int} {L:List En} {m n:Nat} (hmn:m<=n) (h:∀i e,m<=i->i<n->L[i]? =some e->f e=none):iq f 0 (L.take n)=iq f 0 (L.take m):=by
 obtain⟨c,rfl⟩:∃c,n=m+c:=⟨n-m,by omega⟩;exact KQ c h
theorem CZ {m:List Po} {j x:Int} (hj: -1<=j/\j<=m.length) (hx:0<=x) (eZ:∀(t:Nat) p,(t:Int)<j->m[t]? =some p->p.1<x):tf m j x=idx m x:=by
 unfold tf
 split
 ·rename_i h
  rcases fj m j with⟨h0,h1,_⟩|⟨t,d,ps,rfl,ht,h1,_⟩|⟨h0,h1,_⟩
  ·omega
  ·rw[idx_eq (i:=t) (λa ha p hp=>eZ a p q0 hp) (λp hp=>by rw[ht]at hp;cases hp;simp only;omega) q0]
  ·rw[idx_eq (i:=m.length) (λa ha p hp=>eZ a p q0 hp) (λp hp=>by simp at hp) (bz _)];omega
 ·rfl
theorem AW {m:List Po} {x:Int} (hx:x<=2147483648):x<=eW m (idx m x:Nat):=by
 rcases fj m (idx m x:Nat)with⟨h0,h1,_⟩|⟨t,d,ps,he,ht,h1,_⟩|⟨h0,h1,_⟩
 ·omega
 ·obtain rfl:idx m x=t:=by omega
  have:=zt ht;simp only at this;omega
 ·omega
theorem oO {P:List Po} (hm:eP (-1) P=true) {i:Int} (hi:0<=i):∃D:Nat,eW P i=(D:Int)/\D<=2147483648:=by
 have h:=wF hm i
 have h0:0<=eW P i:=by
  rcases fj P i with⟨h1,_⟩|⟨j,d,ps,rfl,hx,h2,_⟩|⟨_,h2,_⟩
  ·omega
  ·have:=lU hm hx;omega
  ·omega
 exact⟨(eW P i).toNat,by omega,by omega⟩
theorem WX {L:List En} (hF:∀e∈L,iQ e.1) {t:Fd} {i:Int} {D:Nat} (h:eW (pk L (dv t)) i=(D:Int)) (hD:D<2147483648):∃e,L[D]? =some e/\gr (pk L (dv t)) i=ji (cZ e.1.2 t.1) t.2/\∃j:Nat,∃ps,i=j/\(pk L (dv t))[j]? =some ((D:Int),ps):=by
 rcases fj (pk L (dv t)) i with⟨_,h1,_⟩|⟨j,d,ps,rfl,hx,h2,h3⟩|⟨_,h1,_⟩
 ·omega
 ·obtain⟨d',e,h4,h5,_⟩:=(Rr hF).1 (av hx)
  cases h5;have:d'=D:=by omega
  subst this;exact⟨e,h4,h3,j,_,G,hx⟩
 ·omega
theorem Jr {ws:List (List UInt8)} (h:ws.length<=500) (x:List UInt8):WO (ji ws x):=by
 have hl:=re ws x;refine⟨?_,?_,by omega⟩
 ·rw[pQ];exact eo.2 ((List.pairwise_lt_range.sublist List.filter_sublist).imp λh=>by omega)
 ·rw[pQ];intro y hy;obtain⟨i,hi,rfl⟩:=cA.1 hy;have:=List.mem_range.1 (gq.1 hi).1;omega
theorem RN {P:List Po} (hm:eP (-1) P=true):idx P 0=0:=idx_eq (λj h=>absurd h (ec _)) (λp hp=>(lU hm (d:=p.1) (ps:=p.2) hp).1) (a8 _)
theorem AX {P:List Po} (hm:eP (-1) P=true) {i:Nat} {d:Int} {ps:List Int} (hi:P[i]? =some (d,ps)):d<eW P ((i+1:Nat):Int):=by
 have hd:=lU hm hi;rcases fj P ((i+1:Nat):Int)with⟨h0,_⟩|⟨j,d',ps',he,hx,h1,_⟩|⟨_,h1,_⟩
 ·omega
 ·have:=nu hm hi hx q0;simp only at this;omega
 ·omega
theorem xv {f:En->Option Int} {e:En} {s:Int} (h:f e=some s) (i:Nat):Ee f i e=[((i:Int),s)]:=by unfold Ee;rw[h]
theorem C0 {f:En->Option Int} {e:En} (h:f e=none) (i:Nat):Ee f i e=[]:=by unfold Ee;rw[h]
def tH (L:List En) (k:List UInt8) (xs:List (List UInt8)) (bs:List Nat) (pos:Nat->Int) (M:aM) (w:World):Prop:=∀(j:Nat) b x,bs[j]? =some b->xs[j]? =some x->Cu 323 (pk L (dv (k,x))) (pos j) M w b
theorem tH.step {L:List En} {k:List UInt8} {xs:List (List UInt8)} {bs:List Nat} {pos:Nat->Int} {M M' N:aM} {w w':World} (h:tH L k xs bs pos M w) (s:Step M w M' w' N) (hn:∀b∈bs,¬N b):tH L k xs bs pos M' w':=λj b x hb hx=>(h j b x hb hx).step s (hn b (av hb))
theorem tH.RO {L:List En} {k:List UInt8} {xs:List (List UInt8)} {bs:List Nat} {pos:Nat->Int} {M M':aM} {w w':World} (h:tH L k xs bs pos M w) (mY:bs.Nodup) {j b:Nat} {x:List UInt8} {i:Int} (hb:bs[j]? =some b) (hx:xs[j]? =some x) (s:Step M w M' w' (λc=>c=b)) (hc:Cu 323 (pk L (dv (k,x))) i M' w' b):tH L k xs bs (λj'=>if j'=j then i else pos j') M' w':=by
 intro j' b' x' Ev RP;by_cases e:j'=j
 ·subst e;rw[hb]at Ev;rw[hx]at RP
  cases Ev;cases RP;dsimp only;rw[if_pos rfl];exact hc
 ·dsimp only;rw[if_neg e];refine (h j' b' x' Ev RP).step s λOH=>e ?_
  obtain⟨h1,h2⟩:=an.1 hb;obtain⟨h3,h4⟩:=an.1 Ev;rcases ff j' j with h|h|h
  ·exact absurd (h4.trans (OH.trans h2.symm)) (List.pairwise_iff_getElem.1 mY _ _ h3 h1 h)
  ·exact h
  ·exact absurd (h2.trans (OH.symm.trans h4.symm)) (List.pairwise_iff_getElem.1 mY _ _ h1 h3 h)
theorem tH.cell {L:List En} {k:List UInt8} {xs:List (List UInt8)} {bs:List Nat} {pos:Nat->Int} {M:aM} {w:World} (h:tH L k xs bs pos M w) (hl:bs.length<=xs.length) {b:Nat} (hb:b∈bs):∃cs,w.heap[b]? =some (.cells cs 323 (0,0)):=by
 obtain⟨j,hj⟩:=bK.1 hb;have oX:=(an.1 hj).1;obtain⟨_,_,_,_,_,hc,_⟩:=h j b _ hj (aq q0);exact⟨_,hc⟩
theorem tH.snoc {L:List En} {k:List UInt8} {xs:List (List UInt8)} {bs:List Nat} {M:aM} {w:World} (h:tH L k xs bs (λ_=> -1) M w) {b:Nat} {x:List UInt8} (hx:xs[bs.length]? =some x) (hc:Cu 323 (pk L (dv (k,x))) (-1) M w b):tH L k xs (bs++[b]) (λ_=> -1) M w:=by
 intro j b' x' Ev RP;rcases ff j bs.length with h1|h1|h1
 ·rw[oP h1]at Ev;exact h j b' x' Ev RP
 ·subst h1;rw[jN (bz _)]at Ev;rw[hx]at RP;simp at Ev;subst Ev;cases RP;exact hc
 ·rw[cM a11]at Ev;cases Ev
def xx (L:List En) (k:List UInt8) (xs:List (List UInt8)) (pos:Nat->Int) (d:Nat):Prop:=∀(j:Nat) x,xs[j]? =some x->∀(t:Nat) p,(t:Int)<pos j->(pk L (dv (k,x)))[t]? =some p->p.1<(d:Int)
theorem xx.RO {L:List En} {k:List UInt8} {xs:List (List UInt8)} {pos:Nat->Int} {d d':Nat} (h:xx L k xs pos d) (hd:d<=d') {j:Nat} {i:Int} (hi:∀x,xs[j]? =some x->∀(t:Nat) p,(t:Int)<i->(pk L (dv (k,x)))[t]? =some p->p.1<(d':Int)):xx L k xs (λj'=>if j'=j then i else pos j') d':=by
 intro j' x hx t p ht hp;dsimp only at ht;by_cases e:j'=j
 ·subst e;rw[if_pos rfl]at ht;exact hi x hx t p ht hp
 ·rw[if_neg e]at ht;have:=h j' x hx t p ht hp;omega
set_option maxHeartbeats 4000000 in
theorem Em {M:aM} {L:List En} {k:List UInt8} {xs:List (List UInt8)} {v0 vx:Value} (w0:World) (hM:Lt M w0) (hs:cO RT.se M w0 v0 (Gu (jB L))) (fa:BW (-1) L=true) (hn:L.length<=100000) (hx:(RT.str.sl).V M w0 xs vx) (hk:k.length<=140737488355328) (hxs:∀x∈xs,x.length<=140737488355328) (fw:xs≠[]) (hx6:xs.length<=1000):
  Spec Tryz.prog 106 #[v0,sv k,vx] w0 (λv w=>∃M',Lt M' w/\Step M w0 M' w aC/\Own RT.fo 45 M' w w0.heap.size v (iq (rS k xs) 0 L)):=by
 have gv:=hM;have hF:=kB fa;have hOK:∀x∈xs,OkC (pk L (dv (k,x))):=λx _=>Q0 hF q0 _
 obtain⟨x0,wg⟩:∃x,xs[0]? =some x:=⟨_,aq (dC.2 fw)⟩;have hm0:x0∈xs:=av wg;have vT:=hOK x0 hm0;have hlp:=dC.2 fw;refine bh (args:=[_,_,_]) (fn:=Tryz.f106) Tryz.func106 G (n:=88) Tryz.ntmps106 ?_;have S:Step M w0 M w0 aC:=aV;refine T.aQ (Rg.aZ G G (T.aQ (Rg.aZ G G (aL (T.aQ (ab G G ?_))))));have xF:=cU hx;refine bC ax G hx G (ab G G (ad (aX ?_)));refine dd (σ:=Nat×Value×List Nat) (λq=>[(0,v0),(1,sv k),(7,q.2.1),(19,vx),(20,.int .i64 (xs.length:Int)),(21,.int .i64 (q.1:Int))]) (λq w=>q.1<=xs.length/\q.2.2.length=q.1/\q.2.2.Nodup/\(∀b∈q.2.2,w0.heap.size<=b)/\∃M2,Lt M2 w/\Step M w0 M2 w aC/\cO RT.se M2 w v0 (Gu (jB L))/\(RT.str.sl).V M2 w xs vx/\tH L k xs q.2.2 (λ_=> -1) M2 w/\Own RT.ED 272 M2 w w0.heap.size q.2.1 q.2.2) (λq=>xs.length-q.1) (0,.slice none 0 0,[]) a14 ?_ ?_
 ·exact⟨a8 _,rfl,List.nodup_nil,λb h=>by(cases h),_,hM,S,hs,hx,λj b x h=>by(simp at h),eL _ _ _ _ _⟩
 ·clear hM S hs hx;rintro⟨i,vb,bs⟩ w ⟨hi,tN,mY,hbz,M2,hM,S,hs,hx,kh,hY⟩;dsimp only at hi tN mY hbz kh hY ⊢;refine T.aQ (cx G G G (ad (aL ?_)));refine bE G (λc3=>?_) (λc3=>?_)
  ·refine aS (aL (aX (T.aQ ?_)));obtain⟨x,VM⟩:∃x,xs[i]? =some x:=⟨_,aq q0⟩;refine cC ax I9 G G G hx bS q0 (λu40 x_ gp I2=>?_);rw[ar]at gp;obtain rfl:=aI (VM.symm.trans gp);refine bB aA G G G G G I2 bS (λv41 Z0=>?_);obtain rfl:=dS Z0;refine Rg.aZ rfl rfl (aH (ab rfl rfl (ab rfl rfl (ab rfl rfl (ab rfl rfl (dw (places:=[(0,1),(1,1)]) br kF XZ rfl ⟨_,_,rfl,rfl,_,_,rfl,rfl,rfl⟩ (out:=[_,_]) ⟨0,[_],rfl,rfl,by simp[Value.cells],1,[_],rfl,rfl,by simp[Value.cells],rfl⟩ ?_))))));refine aP rfl rfl UX (uW (ls:=(keysOf L).map (pk L)) (t:=(k,x)) _ hM hs (pD L) rfl (by rw[bW];rfl) hk (hxs x (av VM))) (λr55 w55 hc=>?_);obtain⟨bc,rfl,hz,s55,hC⟩:=hc;have hz0:=S.size;have UB:∀b∈bs,b<bc:=λb hb=>by obtain⟨_,h⟩:=kh.cell q0 hb;have:=ae h;omega
   generalize ins M2 bc=Mc at s55 hC;replace hC:Cu 323 (pk L (dv (k,x))) (-1) Mc w55 bc:=by have h:=hC;rw[show UR (Gu (jB L)).2.2.1 ((keysOf L).map (pk L)) (dv (k,x))=(pk L (dv (k,x)))from QU _]at h;exact h
   replace hs:=hs.le Tg s55.le;replace hx:=hx.le s55.le;replace hY:=hY.bP s55;replace kh:=kh.step s55 (λb hb h=>h);replace hM:=s55.lt hM;have:=S.size;replace S:=S.aw s55;refine fz (A:=RT.ED) (hn:=by decide) (M:=Mc) iL G3 Tg G G hM (om.2 G) (.inr ⟨G,G⟩) (λax1 ax2 RQ Js=>?_);replace hs:=hs.le Tg Js.le;replace hx:=hx.le Js.le;replace hY:=hY.bP Js;replace kh:=kh.step Js (λb hb h=>h);replace hC:=hC.step Js (λh=>h);replace hM:=Js.lt hM;have:=S.size;replace S:=S.aw Js;refine dJ (M:=Mc) (base:=w0.heap.size) iL G3 rfl rfl rfl rfl hY RQ bS (by rw[dW];omega) (by rw[dW];omega) (S.size) (λaec ax3 alS afM uN=>?_);replace hs:=hs.le Tg uN.le;replace hx:=hx.le uN.le;replace RQ:=RQ.le uN.le;replace kh:=kh.step uN (λb hb h=>by obtain⟨_,km⟩:=kh.cell q0 hb;first|exact hY.fK km Tg h|exact iT.fK km Tg h|exact G4.fK km Tg h);replace hC:=hC.step uN (λh=>by obtain⟨_,_,_,_,_,CY,_⟩:=id hC;exact hY.fK CY Tg h);replace hM:=uN.lt hM;have:=S.size;replace S:=S.dX uN hY (bz _);replace hY:=afM;refine Rg.aZ G G (aH (bu G G G q0 (ab G G (ad ?_))));refine⟨G,(i+1,aec,bs++[bc]),a14,?_,?_⟩
   ·exact⟨by omega,by rw[bM,dW];omega,List.nodup_append.2 ⟨mY,by simp,λa ha b hb=>by simp at hb;subst hb;have:=UB a ha;omega⟩,λb hb=>by rcases dI.1 hb with h|h;exact hbz b h;simp at h;subst h;omega,_,hM,S,hs,hx,kh.snoc (by rw[tN];exact VM) hC,hY⟩
   ·dsimp only;omega
  ·refine cN (T.aQ ?_);have X7:bs.length=xs.length:=by omega
   obtain⟨b0,zH⟩:∃b,bs[0]? =some b:=⟨_,aq q0⟩;refine Rg.aZ G G (aL (T.aQ (ab G G ?_)));have afN:=hY.close (hn:=by decide) gv S q0;refine cC (A:=RT.ED) (hn:=by decide) iL G3 G G G afN bS q0 (λu81 x_ gp RR=>?_);obtain rfl:=aI ((show bs[0]? =some b0 from zH).symm.trans gp);refine bB Tryz.underlying272 G G G G G RR bS (λv81 aou=>?_);obtain rfl:=om.1 aou;obtain⟨_,_,_,_,_,CY,_⟩:=id (kh 0 _ _ zH wg);refine aP G G IZ (oL (kh 0 _ _ zH wg) hM vT.may vT.ps vT.by_ vT.ln) (λr83 w83 hc=>?_);obtain⟨rfl,s83,hC⟩:=hc;have LL:mS (pk L (dv (k,x0))) (-1)=0:=by unfold mS;rw[if_pos q0];omega
   rw[LL]at hC ⊢;obtain⟨D,hD,K7⟩:=oO vT.may (i:=0) (rl _);rw[hD];replace kh:=kh.RO mY zH wg s83 hC;replace hY:=hY.step s83 (λc hc (h:c=b0)=>hY.fK CY Tg (h▸hc));replace S:=S.cr s83 (λc (h:c=b0)=>by have:=hbz b0 (av zH);omega);replace hM:=s83.lt hM;refine Rg.aZ G G (aX ?_);refine dd (σ:=Nat×Value) (λq=>[(7,vb),(10,q.2),(11,.int .i64 (q.1:Int))]) (λq w=>q.1<=2147483648/\∃M2 pos,Lt M2 w/\Step M w0 M2 w aC/\tH L k xs bs pos M2 w/\xx L k xs pos q.1/\eW (pk L (dv (k,x0))) (pos 0)=(q.1:Int)/\Own RT.ED 272 M2 w w0.heap.size vb bs/\Own RT.fo 45 M2 w w0.heap.size q.2 (iq (rS k xs) 0 (L.take q.1))) (λq=>2147483648-q.1) (D,.slice none 0 0) a07 ?_ ?_
   ·refine ⟨K7,_,_,hM,S,kh,(show xx L k xs (λ_=> -1) 0 from λj x hx t p h=>by dsimp only at h;omega).RO (a8 _) (λx hx t p h=>by omega),by dsimp only;rw[if_pos rfl];exact hD,hY,?_⟩;rw[show iq (rS k xs) 0 (L.take D)=[]from vE (m:=0) (a8 _) λi e _ h2 h3=>iu λhp=>by have:=Jq vT.may (vD hF h3 hp hm0) (d:=0) ak8;rw[RN vT.may,show eW (pk L (dv (k,x0))) ((0:Nat):Int)=(D:Int)from hD]at this;simp only at this;omega];exact eL _ _ _ _ _
   ·clear hM S kh hY hD hC;rintro⟨D,vo⟩ w ⟨K7,M2,pos,hM,S,kh,Tc,hD,hY,iT⟩;dsimp only at K7 Tc hD iT ⊢;refine aL (T.aQ (ab G G (cx G G G (ad ?_))));refine bE G (λc9=>?_) (λc9=>?_)
    ·have ax4:D<2147483648:=by omega
     refine aS (aX (T.aQ (ab G G (Rg.aZ G G (aL (T.aQ (ab G G ?_)))))));have aar:=hY.close (hn:=by decide) gv S q0;refine bC (A:=RT.ED) (hn:=by decide) iL G aar G (ab G G (ad (aX ?_)));refine dd (σ:=Nat×Nat) (λq=>[(7,vb),(10,vo),(11,.int .i64 (D:Int)),(12,.int .i64 (q.2:Int)),(41,vb),(42,.int .i64 (bs.length:Int)),(43,.int .i64 (q.1:Int))]) (λq w=>q.1<=bs.length/\D<=q.2/\q.2<=2147483648/\∃M2 pos,Lt M2 w/\Step M w0 M2 w aC/\tH L k xs bs pos M2 w/\xx L k xs pos D/\(∀(j:Nat) x,j<q.1->xs[j]? =some x->pos j=((idx (pk L (dv (k,x))) D:Nat):Int)/\eW (pk L (dv (k,x))) ((idx (pk L (dv (k,x))) D:Nat):Int)<=(q.2:Int))/\(q.2=D\/∃x∈xs,(q.2:Int)=eW (pk L (dv (k,x))) ((idx (pk L (dv (k,x))) D:Nat):Int))/\Own RT.ED 272 M2 w w0.heap.size vb bs/\Own RT.fo 45 M2 w w0.heap.size vo (iq (rS k xs) 0 (L.take D))) (λq=>bs.length-q.1) (0,D) a94 ?_ ?_
     ·exact⟨a8 _,bz _,K7,_,_,hM,S,kh,Tc,λj x h=>by(exact absurd h (ec _)),.inl G,hY,iT⟩
     ·clear hM S kh Tc hY iT;rintro⟨j,at_⟩ w ⟨hj,hDa,hal,M2,pos,hM,S,kh,Tc,NC,hmx,hY,iT⟩;dsimp only at hj hDa hal NC hmx ⊢;refine T.aQ (cx G G G (ad (aL ?_)));refine bE G (λFs=>?_) (λFs=>?_)
      ·refine aS (aL (aX (T.aQ ?_)));obtain⟨bj,Jb⟩:∃x,bs[j]? =some x:=⟨_,aq q0⟩;obtain⟨x,GB⟩:∃x,xs[j]? =some x:=⟨_,aq q0⟩;have WY:=hOK x (av GB);have afO:=hY.close (hn:=by decide) gv S q0;refine cC (A:=RT.ED) (hn:=by decide) iL G3 G G G afO bS q0 (λu13 x_ gp aad=>?_);rw[ar]at gp;obtain rfl:=aI ((show bs[j]? =some bj from Jb).symm.trans gp);refine bB Tryz.underlying272 G G G G G aad bS (λZf GW=>?_);obtain rfl:=om.1 GW;refine Rg.aZ G G (aH (ab G G (ab G G (ab G G ?_))));obtain⟨_,_,_,_,_,CY,_⟩:=id (kh j _ _ Jb GB);refine aP G G US (pN (kh j _ _ Jb GB) hM WY.may WY.ps WY.by_ WY.ln q0) (λaov aow hc=>?_);obtain⟨rfl,RS,hC⟩:=hc;have hjr:=(kh j _ _ Jb GB).rng;rw[CZ hjr q0 (Tc j x GB)]at hC ⊢;obtain⟨A,hA,hAl⟩:=oO WY.may (i:=((idx (pk L (dv (k,x))) D:Nat):Int)) q0;rw[hA];replace kh:=kh.RO mY Jb GB RS hC;replace hY:=hY.step RS (λc hc (h:c=bj)=>hY.fK CY Tg (h▸hc));replace iT:=iT.step RS (λc hc (h:c=bj)=>iT.fK CY Tg (h▸hc));replace S:=S.cr RS (λc (h:c=bj)=>by have:=hbz bj (av Jb);omega);replace hM:=RS.lt hM;refine Rg.max2 G G G (bg (v':= .int .i64 ((max at_ A:Nat):Int)) (by congr 1;omega) (Rg.aZ rfl rfl (aH (bu rfl rfl rfl q0 (ab rfl rfl (ad ?_))))));refine⟨G,(j+1,max at_ A),a94,?_,?_⟩
       ·refine⟨by omega,by omega,by omega,_,_,hM,S,kh,Tc.RO (bz _) (λy hy t p h1 h2=>by rw[GB]at hy;cases hy;exact zr (Int.ofNat_lt.1 h1) h2),λj' y hj' hy=>?_,?_,hY,iT⟩
        ·dsimp only at hj' ⊢;by_cases e:j'=j
         ·subst e;rw[GB]at hy;cases hy;rw[if_pos rfl];exact⟨G,by omega⟩
         ·rw[if_neg e];obtain⟨h1,h2⟩:=NC j' y q0 hy;exact⟨h1,by omega⟩
        ·dsimp only;rcases Nat.le_total A at_ with h|h
         ·rw[Nat.max_eq_left h];exact hmx
         ·rw[Nat.max_eq_right h];exact .inr ⟨x,av GB,hA.symm⟩
       ·dsimp only;omega
      ·refine cN (aL (T.aQ (ab G G (ab G G (eR G G G (ad ?_))))));refine bE G (λHy=>?_) (λHy=>?_)
       ·have hgA:∀D2:Nat,eW (pk L (dv (k,x0))) ((idx (pk L (dv (k,x0))) at_:Nat):Int)=(D2:Int)->∀(i:Nat) e,D<=i->i<D2->L[i]? =some e->rS k xs e=none:=λD2 MR i e h1 h2 h3=>by
         rcases hmx with h|⟨y,hy,h⟩
         ·omega
         ·refine iu λhp=> ?_
          have q1:=Jq (hOK y hy).may (vD hF h3 hp hy) (d:=(D:Int)) ak8;have q2:=Jq vT.may (vD hF h3 hp hm0) (d:=(at_:Int)) (by simp only at q1 ⊢;omega);simp only at q1 q2;omega
        refine T.aQ (ab G G ?_);have aas:=hY.close (hn:=by decide) gv S q0;refine cC (A:=RT.ED) (hn:=by decide) iL G3 G G G aas bS q0 (λax7 x_ gp afP=>?_);obtain rfl:=aI ((show bs[0]? =some b0 from zH).symm.trans gp);refine bB Tryz.underlying272 G G G G G afP bS (λv171 afQ=>?_);obtain rfl:=om.1 afQ;refine ab G G ?_;obtain⟨_,_,_,_,_,CY,_⟩:=id (kh 0 _ _ zH wg);refine aP G G US (pN (kh 0 _ _ zH wg) hM vT.may vT.ps vT.by_ vT.ln (to:=(at_:Int)) q0) (λax8 ax9 hc=>?_);obtain⟨rfl,RU,hC⟩:=hc;have hjr:=(kh 0 _ _ zH wg).rng;rw[CZ hjr q0 (λt p h1 h2=>by have:=Tc 0 x0 wg t p h1 h2;omega)]at hC ⊢;obtain⟨D2,MR,RV⟩:=oO vT.may (i:=((idx (pk L (dv (k,x0))) at_:Nat):Int)) q0;rw[MR];have tS:=AW (m:=(pk L (dv (k,x0)))) (x:=(at_:Int)) q0;replace kh:=kh.RO mY zH wg RU hC;replace hY:=hY.step RU (λc hc (h:c=b0)=>hY.fK CY Tg (h▸hc));replace iT:=iT.step RU (λc hc (h:c=b0)=>iT.fK CY Tg (h▸hc));replace S:=S.cr RU (λc (h:c=b0)=>by have:=hbz b0 (av zH);omega);replace hM:=RU.lt hM;refine Rg.aZ G G (cN ?_);refine⟨G,(D2,vo),a07,?_,?_⟩
        ·exact⟨RV,_,_,hM,S,kh,Tc.RO q0 (λx hx t p h1 h2=>by rw[wg]at hx;cases hx;have:=zr (Int.ofNat_lt.1 h1) h2;omega),by dsimp only;rw[if_pos rfl];exact MR,hY,by rw[vE (m:=D) q0 (hgA D2 MR)];exact iT⟩
        ·dsimp only;omega
       ·have haD:at_=D:=by omega
        have afR:∀(j':Nat) y,xs[j']? =some y->pos j'=((idx (pk L (dv (k,y))) D:Nat):Int)/\eW (pk L (dv (k,y))) (pos j')=(D:Int):=λj' y hy=>by
         obtain⟨h1,h2⟩:=NC j' y (by have:=(an.1 hy).1;omega) hy;have h3:=AW (m:=(pk L (dv (k,y)))) (x:=(D:Int)) q0;exact⟨h1,by rw[h1];omega⟩
        obtain⟨e,hLe,_,t0,ps0,ht0,G5⟩:=WX hF (afR 0 x0 wg).2 q0
        have yI:∀y j',xs[j']? =some y->gr (pk L (dv (k,y))) (pos j')=ji (cZ e.1.2 k) y:=λy j' hy=>by
         obtain⟨e',h1,h2,_⟩:=WX hF (afR j' y hy).2 q0;rw[hLe]at h1;cases h1;exact h2
        have hwf:(cZ e.1.2 k).length<=500:=rh (hF e (av hLe)) k;have UQ:=KL (cZ e.1.2 k) xs
        have hsd:KG (xs.map (ji (cZ e.1.2 k)))=qm (cZ e.1.2 k) xs:=by
         cases hxe:xs with
         |nil=>exact absurd hxe fw
         |cons a tl=>exact Rp _ a tl
        have rW:=(an.1 G5).1
        have hgB:∀D2:Nat,eW (pk L (dv (k,x0))) ((t0+1:Nat):Int)=(D2:Int)->∀(i:Nat) e',D+1<=i->i<D2->L[i]? =some e'→rS k xs e'=none:=λD2 MR i e' h1 h2 h3=>by
         refine iu λhp=> ?_
         have q2:=RM vT.may (vD hF h3 hp hm0) G5 ak8;simp only at q2;omega
        clear NC hmx;refine aS (T.aQ (Rg.aZ G G (aL (T.aQ (ab G G ?_)))));have aar:=hY.close (hn:=by decide) gv S q0;refine bC (A:=RT.ED) (hn:=by decide) iL G aar G (ab G G (ad (aX ?_)));refine dd (σ:=Nat×Value) (λq=>[(7,vb),(10,vo),(11,.int .i64 (D:Int)),(15,q.2),(61,vb),(62,.int .i64 (bs.length:Int)),(63,.int .i64 (q.1:Int))]) (λq w=>q.1<=bs.length/\∃M2,Lt M2 w/\Step M w0 M2 w aC/\tH L k xs bs pos M2 w/\Own RT.ED 272 M2 w w0.heap.size vb bs/\Own RT.fo 45 M2 w w0.heap.size vo (iq (rS k xs) 0 (L.take D))/\Own ((RT.int .i64).sl) 61 M2 w w0.heap.size q.2 ((xs.take q.1).map (ji (cZ e.1.2 k)))) (λq=>bs.length-q.1) (0,.slice none 0 0) a94 ?_ ?_
        ·exact⟨a8 _,_,hM,S,kh,hY,iT,eL _ _ _ _ _⟩
        ·clear hM S kh hY iT;rintro⟨j,vr⟩ w ⟨hj,M2,hM,S,kh,hY,iT,G4⟩;dsimp only at hj G4 ⊢;refine T.aQ (cx G G G (ad (aL ?_)));refine bE G (λc20=>?_) (λc20=>?_)
         ·refine aS (aL (aX (T.aQ ?_)));obtain⟨bj,Jb⟩:∃x,bs[j]? =some x:=⟨_,aq q0⟩;obtain⟨x,GB⟩:∃x,xs[j]? =some x:=⟨_,aq q0⟩;have WY:=hOK x (av GB);have afS:=hY.close (hn:=by decide) gv S q0;refine cC (A:=RT.ED) (hn:=by decide) iL G3 G G G afS bS q0 (λu21 x_ gp Q5=>?_);rw[ar]at gp;obtain rfl:=aI ((show bs[j]? =some bj from Jb).symm.trans gp);refine bB Tryz.underlying272 G G G G G Q5 bS (λv21 aan=>?_);obtain rfl:=om.1 aan;refine Rg.aZ G G (aH (ab G G (ab G G ?_)));refine aP G G aot (D5 (kh j _ _ Jb GB) WY.may WY.ps hM) (λr22 w22 hc=>?_);obtain⟨MS,yP⟩:=hc;rw[(yI x j GB)]at MS;replace hY:=hY.bP yP;replace iT:=iT.bP yP;replace G4:=G4.bP yP;replace kh:=kh.step yP (λb hb h=>h);replace hM:=yP.lt hM;have:=S.size;replace S:=S.aw yP;refine fz (A:=((RT.int .i64).sl)) (hn:=by decide) (M:=M2) gF qc Tg G G hM (MS) (.inr ⟨G,G⟩) (λasL asM Jt AY=>?_);replace MS:=MS.le AY.le;replace hY:=hY.bP AY;replace iT:=iT.bP AY;replace G4:=G4.bP AY;replace kh:=kh.step AY (λb hb h=>h);replace hM:=AY.lt hM;have:=S.size;replace S:=S.aw AY;refine dJ (M:=M2) (base:=w0.heap.size) gF qc rfl rfl rfl rfl G4 Jt bS (by rw[bW,a7,dW];omega) (by rw[bW,a7,dW];omega) (S.size) (λafT asN asO aat AZ=>?_);replace MS:=MS.le AZ.le;replace Jt:=Jt.le AZ.le;replace hY:=hY.step AZ (λb h1 h2=>hY.jy G4 Tg h1 h2);replace iT:=iT.step AZ (λb h1 h2=>iT.jy G4 Tg h1 h2);replace kh:=kh.step AZ (λb hb h=>by obtain⟨_,km⟩:=kh.cell q0 hb;first|exact hY.fK km Tg h|exact iT.fK km Tg h|exact G4.fK km Tg h)
          replace hM:=AZ.lt hM;have:=S.size;replace S:=S.dX AZ G4 (bz _);replace G4:=aat;refine Rg.aZ G G (aH (bu G G G q0 (ab G G (ad ?_))));refine⟨G,(j+1,afT),a94,?_,?_⟩
          ·exact⟨by omega,_,hM,S,kh,hY,iT,by rw[bY,GB,dp,dU];exact G4⟩
          ·dsimp only;omega
         ·refine cN (aL (T.aQ (ab G G ?_)));have hrc:=G4.close (hn:=by decide) gv S (by rw[bW,a7];omega);rw[bp q0]at hrc;refine aP rfl rfl E54 (CX (M:=M) hrc (λl hl=>by obtain⟨x,_,rfl⟩:=cA.1 hl;exact Jr hwf x) (by rw[bW];omega)) (λr24 w24 hc=>?_);obtain⟨rfl,rfl⟩:=hc;refine bg (v':= .int .i64 (qm (cZ e.1.2 k) xs:Int)) (by rw[hsd]) (Rg.aZ G G (T.aQ (ab G G (eR G G G (ad ?_)))));refine bE G (λX8=>?_) (λX8=>?_)
          ·have hph:rS k xs e=some (qm (cZ e.1.2 k) xs:Int):=by unfold rS rR;rw[if_pos q0]
           refine aH (ab rfl rfl (ab rfl rfl (ab rfl rfl (dw (places:=[(0,1),(1,1)]) cQ ki HA rfl ⟨_,_,rfl,rfl,_,_,rfl,rfl,rfl⟩ (out:=[_,_]) ⟨0,[_],rfl,rfl,by simp[Value.cells],1,[_],rfl,rfl,by simp[Value.cells],rfl⟩ ?_))));refine fz (A:=RT.fo) (hn:=by decide) (M:=M2) aT ki Tg G G hM (Dv q0 q0) (.inl G) (λasQ asR Ju G6=>?_);replace hY:=hY.bP G6;replace iT:=iT.bP G6;replace kh:=kh.step G6 (λb hb h=>h);replace hM:=G6.lt hM;have:=S.size;replace S:=S.aw G6;refine dJ (M:=M2) (base:=w0.heap.size) aT ki G G G G iT Ju bS (by have:=kC (f:=rS k xs) (L.take D) 0;rw[a7]at this;rw[dW];omega) (by have:=kC (f:=rS k xs) (L.take D) 0;rw[a7]at this;rw[dW];omega) (S.size) (λafU asS asT aau G7=>?_);replace Ju:=Ju.le G7.le;replace hY:=hY.step G7 (λb h1 h2=>hY.jy iT Tg h1 h2);replace kh:=kh.step G7 (λb hb h=>by obtain⟨_,km⟩:=kh.cell q0 hb;first|exact hY.fK km Tg h|exact iT.fK km Tg h|exact G4.fK km Tg h);replace hM:=G7.lt hM;have:=S.size;replace S:=S.dX G7 iT (bz _);replace iT:=aau;refine Rg.aZ G G (aH (ab G G ?_));have Jv:=hY.close (hn:=by decide) gv S q0;refine cC (A:=RT.ED) (hn:=by decide) iL G3 G G G Jv bS q0 (λaoA x_ gp RW=>?_);obtain rfl:=aI ((show bs[0]? =some b0 from zH).symm.trans gp);refine bB Tryz.underlying272 G G G G G RW bS (λaoB RX=>?_);obtain rfl:=om.1 RX;obtain⟨_,_,_,_,_,CY,_⟩:=id (kh 0 _ _ zH wg);refine aP G G IZ (oL (kh 0 _ _ zH wg) hM vT.may vT.ps vT.by_ vT.ln) (λaoC aoD hc=>?_);obtain⟨rfl,A0,hC⟩:=hc;have LL:mS (pk L (dv (k,x0))) (pos 0)=((t0+1:Nat):Int):=by unfold mS;rw[ht0,if_pos q0];omega
           rw[LL]at hC ⊢;obtain⟨D2,MR,RV⟩:=oO vT.may (i:=((t0+1:Nat):Int)) q0;rw[MR];have hDD:D<D2:=by have:=AX vT.may G5;omega
           have hB0:∀x,xs[0]? =some x->∀(t:Nat) p,(t:Int)<((t0+1:Nat):Int)->(pk L (dv (k,x)))[t]? =some p->p.1<(D2:Int):=λx hx t p h1 h2=>by
            rw[wg]at hx;cases hx;rcases cH t t0 with h|h
            ·have:=nu vT.may h2 G5 h;simp only at this;omega
            ·obtain rfl:t=t0:=by omega
             rw[G5]at h2;cases h2;simp only;omega
           replace kh:=kh.RO mY zH wg A0 hC;replace hY:=hY.step A0 (λc hc (h:c=b0)=>hY.fK CY Tg (h▸hc));replace iT:=iT.step A0 (λc hc (h:c=b0)=>iT.fK CY Tg (h▸hc));replace S:=S.cr A0 (λc (h:c=b0)=>by have:=hbz b0 (av zH);omega);replace hM:=A0.lt hM;refine Rg.aZ G G ?_;refine⟨G,(D2,afU),a07,?_,?_⟩
           ·exact⟨RV,_,_,hM,S,kh,Tc.RO q0 hB0,by dsimp only;rw[if_pos rfl];exact MR,hY,by rw[vE (m:=D+1) q0 (hgB D2 MR),oM hLe,xv hph _];exact iT⟩
           ·dsimp only;omega
          ·have hph:rS k xs e=none:=by unfold rS rR;rw[if_neg q0]
           refine aS (aH (ab G G ?_));have Jv:=hY.close (hn:=by decide) gv S q0;refine cC (A:=RT.ED) (hn:=by decide) iL G3 G G G Jv bS q0 (λaoA x_ gp RW=>?_);obtain rfl:=aI ((show bs[0]? =some b0 from zH).symm.trans gp);refine bB Tryz.underlying272 G G G G G RW bS (λaoB RX=>?_);obtain rfl:=om.1 RX;obtain⟨_,_,_,_,_,CY,_⟩:=id (kh 0 _ _ zH wg);refine aP G G IZ (oL (kh 0 _ _ zH wg) hM vT.may vT.ps vT.by_ vT.ln) (λaoC aoD hc=>?_);obtain⟨rfl,A0,hC⟩:=hc;have LL:mS (pk L (dv (k,x0))) (pos 0)=((t0+1:Nat):Int):=by unfold mS;rw[ht0,if_pos q0];omega
           rw[LL]at hC ⊢;obtain⟨D2,MR,RV⟩:=oO vT.may (i:=((t0+1:Nat):Int)) q0;rw[MR];have hDD:D<D2:=by have:=AX vT.may G5;omega
           have hB0:∀x,xs[0]? =some x->∀(t:Nat) p,(t:Int)<((t0+1:Nat):Int)->(pk L (dv (k,x)))[t]? =some p->p.1<(D2:Int):=λx hx t p h1 h2=>by
            rw[wg]at hx;cases hx;rcases cH t t0 with h|h
            ·have:=nu vT.may h2 G5 h;simp only at this;omega
            ·obtain rfl:t=t0:=by omega
             rw[G5]at h2;cases h2;simp only;omega
           replace kh:=kh.RO mY zH wg A0 hC;replace hY:=hY.step A0 (λc hc (h:c=b0)=>hY.fK CY Tg (h▸hc));replace iT:=iT.step A0 (λc hc (h:c=b0)=>iT.fK CY Tg (h▸hc));replace S:=S.cr A0 (λc (h:c=b0)=>by have:=hbz b0 (av zH);omega);replace hM:=A0.lt hM;refine Rg.aZ G G ?_;refine⟨G,(D2,vo),a07,?_,?_⟩
           ·exact⟨RV,_,_,hM,S,kh,Tc.RO q0 hB0,by dsimp only;rw[if_pos rfl];exact MR,hY,by rw[vE (m:=D+1) q0 (hgB D2 MR),oM hLe,C0 hph _,eX];exact iT⟩
           ·dsimp only;omega
    ·refine cN (T.aQ (ab G G (Rg.aZ G G (aJ (aK G G ⟨_,hM,S,?_⟩)))));rw[bp q0]at iT;exact iT
end Go.K
namespace Go.K
open Go.Proofs
namespace TKSide
theorem NI:TI Tryz.prog 36 (.slice none 0 0) 1 24:=by unfold TI;kernel_rfl
theorem ki:TI Tryz.prog 45 (.agg #[(.int .i64 0),(.int .i64 0)]) 2 16:=by unfold TI;kernel_rfl
theorem A4:TI Tryz.prog 261 (.agg #[(.int .i64 0),(.int .i64 0),(.int .i64 0)]) 3 24:=by unfold TI;kernel_rfl
theorem Vb:TI Tryz.prog 313 (.pointer none) 1 8:=by unfold TI;kernel_rfl
theorem afV:placesOf Tryz.prog 261=[(0,1),(1,1),(2,1)].map some:=by kernel_rfl
end TKSide
open TKSide
set_option maxRecDepth 10000
theorem C1 {M2:aM} {w6:World} {ba bb bx k:Nat} {a' b':List Fo} {v0 v1:Value} (hk:k<2) (fw:ba≠bb) (hxa:bx≠ba) (Pk:bx≠bb) (ND:M2 ba) (yC:M2 bb) (Kw:w6.heap[ba]? =some (.cells #[v0] 36 (0,0))) (qA:((RT.fo).sl).V M2 w6 (lK a' (jv a' b') (decide (0<k))) v0) (Kx:w6.heap[bb]? =some (.cells #[v1] 36 (0,0))) (kg:((RT.fo).sl).V M2 w6 (lK b' (jv a' b') (decide (1<k))) v1):
  ∃pk lk vk,[ba,bb][k]? =some pk/\[a',b'][k]? =some lk/\w6.heap[pk]? =some (.cells #[vk] 36 (0,0))/\((RT.fo).sl).V M2 w6 lk vk/\M2 pk/\(pk=ba\/pk=bb)/\pk≠bx/\(∀(w':World) (v':Value),(∀q o,q≠pk->q≠bx->w6.heap[q]? =some o->w'.heap[q]? =some o)->(∀l v,((RT.fo).sl).V M2 w6 l v->((RT.fo).sl).V M2 w' l v)->w'.heap[pk]? =some (.cells #[v'] 36 (0,0))->((RT.fo).sl).V M2 w' (fU lk (jv a' b')) v'→
   ∃v0 v1,w'.heap[ba]? =some (.cells #[v0] 36 (0,0))/\((RT.fo).sl).V M2 w' (lK a' (jv a' b') (decide (0<k+1))) v0/\w'.heap[bb]? =some (.cells #[v1] 36 (0,0))/\((RT.fo).sl).V M2 w' (lK b' (jv a' b') (decide (1<k+1))) v1):=by
 match k with
 |0=>exact⟨ba,a',v0,rfl,rfl,Kw,qA,ND,.inl rfl,λh=>hxa h.symm,λw' v' h1 h2 h3 h4=>⟨v',v1,h3,h4,h1 bb _ (λh=>fw h.symm) (λh=>Pk h.symm) Kx,h2 _ _ kg⟩⟩
 |1=>exact⟨bb,b',v1,rfl,rfl,Kx,kg,yC,.inr rfl,λh=>Pk h.symm,λw' v' h1 h2 h3 h4=>⟨v0,v',h1 ba _ fw (λh=>hxa h.symm) Kw,h2 _ _ qA,h3,h4⟩⟩
 |k+2=>omega
theorem MT {M:aM} {w0:World} {va vb:Value} {a b:List Fo} (hM:Lt M w0) (ha:((RT.fo).sl).V M w0 a va) (hb:((RT.fo).sl).V M w0 b vb):
  Spec Tryz.prog 158 #[va,vb] w0 (λv' w'=>∃ba bb,v'= .func (.func 200) #[] #[.pointer (some ⟨ba,0,none⟩),.pointer (some ⟨bb,0,none⟩)]/\w'.heap[ba]? =some (.cells #[va] 36 (0,0))/\w'.heap[bb]? =some (.cells #[vb] 36 (0,0))/\ba≠bb/\w0.heap.size<=ba/\w0.heap.size<=bb/\Step M w0 (ins (ins M ba) bb) w' aC):=by
 refine bh (args:=[_,_]) (fn:=Tryz.f158) Tryz.func158 G (n:=6) Tryz.ntmps158 (T.aQ ?_);refine nS M G G (λba w1 h1 TB hA s1=>?_);rw[jl ha]at hA;refine nS (ins M ba) G G (λbb w2 h2 Hs hB s2=>?_);rw[jl hb]at hB;have hA2:=s2.aF hA;have z1:=s1.size;refine Rg.aZ G G (T.aQ (iS (xs:=[]) (ys:=[.tmp 2,.tmp 3]) G G G (Rg.aZ G G (aJ ?_))));exact aK G G ⟨ba,bb,G,hA2,hB,by omega,h1,by omega,s1.aw s2⟩
set_option maxHeartbeats 2000000 in
theorem Jw {w0:World} {ba bb yl:Nat} {a b:List Fo} {va vb:Value} {J:List Fo->List Fo->aM->World->Prop} {M:aM} {Jx:World->Prop} (fw:ba≠bb) (UD:∀a b M w,J a b M w->Lt M w/\M ba/\M bb) (jT:∀a b M w M' w',J a b M w->Step M w M' w' (λj=>j=ba\/j=bb)->J a b M' w') (hy:∀(a b:List Fo) (M:aM) (w:World),J a b M w->sd a->sd b->(a≠[]\/b≠[])->zj Tryz.prog yl [.agg #[.int .i64 (jv a b),.int .i64 (rZ a b 2),.int .i64 (sa a b 2)]].toArray w (λr w'=>∃c,r= .bool c/\(c=true->∃M' N,J (fU a (jv a b)) (fU b (jv a b)) M' w'∧Step M w M' w' N/\∀k,N k->k≠ba/\k≠bb)/\(c=false->Jx w'))) (ha:w0.heap[ba]? =some (.cells #[va] 36 (0,0))) (hb:w0.heap[bb]? =some (.cells #[vb] 36 (0,0))) (k8:((RT.fo).sl).V M w0 a va) (NB:((RT.fo).sl).V M w0 b vb) (oa:sd a) (ob:sd b) (h0:J a b M w0):
  Spec Tryz.prog 200 #[.func (.yield yl) #[] #[],.pointer (some ⟨ba,0,none⟩),.pointer (some ⟨bb,0,none⟩)] w0 (λ_ w'=>(∃M',J [] [] M' w')\/Jx w'):=by
 refine bh (args:=[_,_,_]) (fn:=Tryz.f200) Tryz.func200 G (n:=85) Tryz.ntmps200 (aX ?_);refine dd (σ:=List Fo×List Fo) (λs=>[(0,.func (.yield yl) #[] #[]),(1,.pointer (some ⟨ba,0,none⟩)),(2,.pointer (some ⟨bb,0,none⟩))]) (λs w=>sd s.1/\sd s.2/\∃va vb M1,J s.1 s.2 M1 w/\w.heap[ba]? =some (.cells #[va] 36 (0,0))/\w.heap[bb]? =some (.cells #[vb] 36 (0,0))/\((RT.fo).sl).V M1 w s.1 va/\((RT.fo).sl).V M1 w s.2 vb) (λs=>s.1.length+s.2.length) (a,b) a07 ?_ ?_
 ·exact⟨oa,ob,va,vb,M,h0,ha,hb,k8,NB⟩
 ·rintro⟨a',b'⟩ w1 ⟨Td,Te,va1,vb1,M1,hJ,V3,hB1,MU,MV⟩;dsimp only at Td Te hJ MU MV ⊢;obtain⟨pH,Vc,Vd⟩:=UD _ _ _ _ hJ;refine aL (T.aQ (aR aT G G G Xf G (bC aT G MU G (eR G G G (ab G G ?_)))));refine aO (g:=12) G (λVe=>?_) (λVe=>?_)
  ·have RY:a'≠[]\/b'≠[]:= .inl (by intro h;rw[h]at Ve;simp at Ve);refine aj rfl rfl rfl rfl (aj rfl rfl rfl rfl (aj rfl rfl rfl rfl (aU rfl rfl rfl (ad (kD rfl (aS (aX (T.aQ (dw (places:=[(0,1),(1,1),(2,1)]) dy A4 afV rfl ⟨_,_,rfl,rfl,rfl⟩ (out:=[_,.int .i64 0,.int .i64 0]) ⟨0,[_],rfl,rfl,by simp[Value.cells],rfl⟩ ?_)))))))));refine ew M1 A4 G (λbx w2 z2 z2' hX0 s2=>?_);obtain⟨M2,yD⟩:∃M2,M2=ins M1 bx:=⟨_,rfl⟩;have Vf:M2 bx:=by rw[yD];exact .inl G
   have ND:M2 ba:=by rw[yD];exact .inr Vc
   have yC:M2 bb:=by rw[yD];exact .inr Vd
   have hxa:bx≠ba:=by have:=ae V3;omega
   have Pk:bx≠bb:=by have:=ae hB1;omega
   rw[<-yD]at s2;refine cY (M:=M2) A4 G G ah7 rfl rfl hX0 Vf (λw3 hX3 s3=>?_);change w3.heap[bx]? =some (.cells #[.int .i64 2147483648,.int .i64 0,.int .i64 0] 261 (0,0))at hX3;have S3:=s2.cr s3 (λj hj=>by subst hj;exact z2);have hA3:=S3.aF V3;have hB3:=S3.aF hB1;have RZ:=MU.le S3.le;have R0:=MV.le S3.le;have Qz:=S3.lt pH;refine ad (aL (T.aQ (aR aT G G G Xf G (aR aT G G G Xf G ?_))));refine Rg.NW (A:=(RT.fo).sl) (hn:=by decide) (M:=M2) (xs:=[a',b']) Tryz.underlying312 NI G Tg G ⟨_,_,_,G,G,G,RZ,_,_,_,G,G,G,R0,G⟩ G Qz (.inr ⟨G,G⟩) Tg (λu20 w4 Jy s4=>?_);refine bC Tryz.underlying312 G Jy G (ab G G (ad (aX ?_)));refine dd (σ:=Nat) (λs=>[(0,.func (.yield yl) #[] #[]),(1,.pointer (some ⟨ba,0,none⟩)),(2,.pointer (some ⟨bb,0,none⟩)),(4,.pointer (some ⟨bx,0,none⟩)),(20,u20),(21,.int .i64 2),(22,.int .i64 s)]) (λs w=>s<=2/\Step M1 w1 M2 w aC/\w.heap[bx]? =some (.cells #[.int .i64 (SQ a' b' s),.int .i64 0,.int .i64 0] 261 (0,0))/\(((RT.fo).sl).sl).V M2 w [a',b'] u20) (λs=>2-s) 0 a94 ?_ ?_
   ·exact⟨a8 _,S3.aw s4,s4.aF hX3,Jy⟩
   ·rintro k w5 ⟨Dh,S5,MW,lP⟩;refine T.aQ (cx G G G (ad (aL ?_)));refine bE G (λc3=>?_) (λc3=>?_)
    ·refine aS (aL (aX (T.aQ ?_)))
     obtain⟨lk,nh⟩:∃x,[a',b'][k]? =some x:=by
      have aav:k<[a',b'].length:=by simp;omega
      exact⟨_,aq aav⟩
     have Ht:([a',b']:List (List Fo)).length=2:=rfl;refine cC Tryz.underlying312 NI G G G (lP) bS a52 (λLQ IC Av si=>?_);obtain rfl:lk=IC:=cD (aI (Av.symm.trans (by rw[ar];exact nh)));refine bB aT G G G G G si bS (λH2 oB=>?_);replace oB:((RT.fo).sl).V M2 _ lk H2:=oB;refine Rg.aZ G G (T.aQ (ab G G (bC aT G oB G (eR G G G (ad ?_)))));refine bE G (λc5=>?_) (λc5=>?_)
     ·obtain⟨⟨d,s⟩,tl,rfl⟩:∃p tl,lk=p::tl:=by
       cases lk with
       |nil=>simp at c5
       |cons p tl=>exact⟨p,tl,rfl⟩
      apply T.qD (M:=M2) mixed [] [cj.eq _,cj.eq (.int .i64 (SQ a' b' k)),cj.eq _,cj.ptr (RT.fo) (d,s),cj.ptr (RT.int .i64) d,cj.eq (.int .i64 d),cj.eq _] 7
      ·rfl
      ·rfl
      ·rfl
      ·rfl
      ·rfl
      ·exact a88
      ·exact oT
      ·refine ay ?_ ?_
       ·intro wD E sD;refine aY dy G G I3 Tg G G ?_;exact a01
       refine ay ?_ ?_
       ·intro wD E sD;refine au (aR al G G G (ch sD Xf) G ?_);exact a01
       refine ay ?_ ?_
       ·intro wD E sD;refine ab G G ?_;exact a01
       refine ay ?_ ?_
       ·intro wD E sD;refine au ?_;refine cC aT ki G G G (oB.le sD.le) bS q0 (λui ai G8 Jz=>?_);obtain rfl:(d,s)=ai:=cD (aI (G8.symm.trans rfl));exact ag7
       refine ay ?_ ?_
       ·intro wD E sD;intro v3 uE;refine ao (A:=RT.fo) (B:=RT.int .i64) cQ G G I3 Tg (fo0) G G Tg (show cO (RT.fo) M2 wD v3 (d,s)from uE) bS (λuf uR=>?_);exact a83
       refine ay ?_ ?_
       ·intro wD E sD;intro v4 qu;refine bV al G G (show cO (RT.int .i64) M2 wD v4 d from qu) bS (λlJ=>?_);exact a01
       refine ay ?_ ?_
       ·intro wD E sD;refine au (au (Rg.min2 G G G ?_));exact a01
       exact jS
      ·intro wD6 tR;refine au (au (au ?_));intro afY WZ;intro afZ KR;refine au (au (aY dy G G I3 Tg G G ?_));refine cv (M:=M2) I3 G G (tR.aF MW) G G Vf (λw7 hX7 s7=>?_);change w7.heap[bx]? =some (.cells #[.int .i64 (min (SQ a' b' k) d),.int .i64 0,.int .i64 0] 261 (0,0))at hX7;refine ad (aH (bu G G G q0 (ab G G (ad ?_))));refine⟨G,k+1,a94,?_,?_⟩
       ·first
        |exact⟨by omega,(S5.aw tR).cr s7 (λj hj=>by subst hj;exact z2),by rw[lu nh];exact hX7,(lP.le tR.le).le s7.le⟩
        |exact⟨by omega,S5,by rw[lu nh,nX];exact MW,lP⟩
       ·show 2-(k+1)<2-k;omega
     ·have nX:lk=[]:=by
       cases lk with
       |nil=>rfl
       |cons p tl=>simp at c5
      refine aS (aH (bu G G G q0 (ab G G (ad ?_))));refine⟨G,k+1,a94,?_,?_⟩
      ·first
       |exact⟨by omega,(S5.aw tR).cr s7 (λj hj=>by subst hj;exact z2),by rw[lu nh];exact hX7,(lP.le tR.le).le s7.le⟩
       |exact⟨by omega,S5,by rw[lu nh,nX];exact MW,lP⟩
      ·show 2-(k+1)<2-k;omega
    ·refine cN (aL (T.aQ ?_));obtain rfl:k=2:=by omega
     replace MW:w5.heap[bx]? =some (.cells #[.int .i64 (jv a' b'),.int .i64 0,.int .i64 0] 261 (0,0)):=MW;have hM5:=S5.lt pH;refine Rg.NW (A:=RT.ED) (hn:=by decide) (M:=M2) (xs:=[ba,bb]) Tryz.underlying314 Vb G Tg G ⟨_,_,_,G,G,G,om.2 G,_,_,_,G,G,G,om.2 G,G⟩ G hM5 (.inr ⟨G,G⟩) Tg (λu38 w8 R1 s8=>?_);refine bC Tryz.underlying314 G R1 G (ab G G (ad (aX ?_)));refine dd (σ:=Nat) (λs=>[(0,.func (.yield yl) #[] #[]),(1,.pointer (some ⟨ba,0,none⟩)),(2,.pointer (some ⟨bb,0,none⟩)),(4,.pointer (some ⟨bx,0,none⟩)),(38,u38),(39,.int .i64 2),(40,.int .i64 s)]) (λs w=>s<=2/\((RT.ED).sl).V M2 w [ba,bb] u38/\Step M1 w1 M2 w (λj=>j=ba\/j=bb)/\w.heap[bx]? =some (.cells #[.int .i64 (jv a' b'),.int .i64 (rZ a' b' s),.int .i64 (sa a' b' s)] 261 (0,0))/\∃v0 v1,w.heap[ba]? =some (.cells #[v0] 36 (0,0))/\((RT.fo).sl).V M2 w (lK a' (jv a' b') (decide (0<s))) v0/\w.heap[bb]? =some (.cells #[v1] 36 (0,0))/\((RT.fo).sl).V M2 w (lK b' (jv a' b') (decide (1<s))) v1) (λs=>2-s) 0 a94 ?_ ?_
     ·exact⟨a8 _,R1,(S5.aw s8).eI a30 (λj hj=>by rcases hj with rfl|rfl;exact Vc;exact Vd),s8.aF MW,va1,vb1,s8.aF (S5.aF V3),(MU.le S5.le).le s8.le,s8.aF (S5.aF hB1),(MV.le S5.le).le s8.le⟩
     ·rintro k w6 ⟨Dh,uz,S6,IF,v0,v1,Kw,qA,Kx,kg⟩;have hmy:=J1 a' b' k;refine T.aQ (cx G G G (ad (aL ?_)));refine bE G (λc9=>?_) (λc9=>?_)
      ·refine aS (aL (aX (T.aQ ?_)));obtain⟨pk,lk,vk,hpk,nh,R2,JA,hkM,hkN,WM,kY⟩:=C1 (show k<2 by omega) fw hxa Pk ND yC Kw qA Kx kg;have hl3:([ba,bb]:List Nat).length=2:=rfl;refine cC Tryz.underlying314 Vb G G G (uz) bS a52 (λO9 Gq Aw zY=>?_);obtain rfl:pk=Gq:=cD (aI (Aw.symm.trans (by rw[ar];exact hpk)));refine bB Tryz.underlying313 G G G G G zY bS (λv10 pJ=>?_);obtain rfl:=om.1 pJ;refine Rg.aZ G G (aL ?_);by_cases vF:((lk.length:Nat):Int)>0
       ·obtain⟨⟨d,s⟩,tl,rfl⟩:∃p tl,lk=p::tl:=by
         cases lk with
         |nil=>simp at vF
         |cons p tl=>exact⟨p,tl,rfl⟩
        apply T.draw (M:=M2) mixed [cj.eq _,cj.eq _,cj.eq vk,cj.eq _,cj.eq _,cj.eq (.bool true),cj.eq _,cj.eq _,cj.eq vk,cj.ptr (RT.fo) (d,s),cj.ptr (RT.int .i64) d,cj.eq (.int .i64 d),cj.eq _,cj.eq (.int .i64 (jv a' b')),cj.eq _,cj.eq _]
        ·rfl
        ·refine aE ?_ ?_
         ·intro wD E sD;refine ab G G ?_;exact a01
         refine aE ?_ ?_
         ·intro wD E sD;refine au (bm G ⟨_,G⟩ G ?_);exact a01
         refine aE ?_ ?_
         ·intro wD E sD;refine au (aR aT G G G (ch sD Xf) G ?_);exact a01
         refine aE ?_ ?_
         ·intro wD E sD;refine au (bC aT G (JA.le sD.le) G ?_);exact a01
         refine aE ?_ ?_
         ·intro wD E sD;refine au (eR G G G ?_);exact a01
         refine aE ?_ ?_
         ·intro wD E sD;refine au (ab G G ?_);refine ad ⟨G,G,_,G,?_,aV⟩;exact congrArg Value.bool (decide_eq_true vF)
         refine aE ?_ ?_
         ·intro wD E sD;refine au (ah G G (ab G G ?_));exact a01
         refine aE ?_ ?_
         ·intro wD E sD;refine au (au (ah G G (bm G ⟨_,G⟩ G ?_)));exact a01
         refine aE ?_ ?_
         ·intro wD E sD;refine au (au (ah G G (aR aT G G G (ch sD Xf) G ?_)));exact a01
         refine aE ?_ ?_
         ·intro wD E sD;refine au (au (ah G G ?_));refine cC aT ki G G G (JA.le sD.le) bS q0 (λui ai G8 Jz=>?_);obtain rfl:(d,s)=ai:=cD (aI (G8.symm.trans rfl));exact ag7
         refine aE ?_ ?_
         ·intro wD E sD;intro v9 LS;refine au (ah G G ?_);refine ao (A:=RT.fo) (B:=RT.int .i64) cQ G G I3 Tg (fo0) G G Tg (show cO (RT.fo) M2 wD v9 (d,s)from LS) bS (λuf uR=>?_);exact a83
         refine aE ?_ ?_
         ·intro wD E sD;intro v10 pJ;refine au (ah G G ?_);refine bV al G G (show cO (RT.int .i64) M2 wD v10 d from pJ) bS (λlJ=>?_);exact a01
         refine aE ?_ ?_
         ·intro wD E sD;refine au (ah G G (aY dy G G I3 Tg G G ?_));exact a01
         refine aE ?_ ?_
         ·intro wD E sD;refine au (au (ah G G (aR al G G G (ch sD Xf) G ?_)));exact a01
         refine aE ?_ ?_
         ·intro wD E sD;refine au (au (au (ah G G (fe G G G ?_))));exact a01
         refine aE ?_ ?_
         ·intro wD E sD;refine au (au (aU G G G ?_));exact a01
         exact rI
        ·intro Ge ej;refine au (au (au (au (au (au (au (au (au ?_))))))));intro af1 aay;intro IG pK;refine au (au (au (au (au ?_))));have D3:=ej.aF IF;have G9:=ej.aF R2;refine bE G (λux=>?_) (λux=>?_)
         ·refine T.aQ (aY dy G G I3 Tg G G (aR al G G G D3 G (bg (v':= .int .i64 (rZ a' b' k)) G (bu G G G q0 (aY dy G G I3 Tg G G ?_)))));refine cv (M:=M2) I3 G G D3 G G Vf (λLK II lW=>?_);change LK.heap[bx]? =some (.cells #[.int .i64 (jv a' b'),.int .i64 (rZ a' b' k+1),.int .i64 (sa a' b' k)] 261 (0,0))at II;have R3:=lW.bU G9 WM;have Ha:=(JA.le ej.le).le lW.le;refine ad (aL ?_);apply T.qD (M:=M2) mixed [] [cj.eq _,cj.eq (.int .i64 (sa a' b' k)),cj.eq _,cj.eq _,cj.eq vk,cj.ptr (RT.fo) (d,s),cj.ptr (RT.int .i64) s,cj.eq (.int .i64 s),cj.eq _] 9
          ·rfl
          ·rfl
          ·rfl
          ·rfl
          ·rfl
          ·exact a88
          ·exact oT
          ·refine ay ?_ ?_
           ·intro wD E sD;refine aY dy G G I3 Tg G G ?_;exact a01
           refine ay ?_ ?_
           ·intro wD E sD;refine au (aR al G G G (ch sD Xf) G ?_);exact a01
           refine ay ?_ ?_
           ·intro wD E sD;refine ab G G ?_;exact a01
           refine ay ?_ ?_
           ·intro wD E sD;refine au (bm G ⟨_,G⟩ G ?_);exact a01
           refine ay ?_ ?_
           ·intro wD E sD;refine au (aR aT G G G (ch sD Xf) G ?_);exact a01
           refine ay ?_ ?_
           ·intro wD E sD;refine au ?_;refine cC aT ki G G G (Ha.le sD.le) bS q0 (λui ai G8 Jz=>?_);obtain rfl:(d,s)=ai:=cD (aI (G8.symm.trans rfl));exact ag7
           refine ay ?_ ?_
           ·intro wD E sD;intro v5 pA;refine ao (A:=RT.fo) (B:=RT.int .i64) cQ G G I3 Tg (fo1) G G Tg (show cO (RT.fo) M2 wD v5 (d,s)from pA) bS (λuf uR=>?_);exact a83
           refine ay ?_ ?_
           ·intro wD E sD;intro v6 oC;refine bV al G G (show cO (RT.int .i64) M2 wD v6 s from oC) bS (λlJ=>?_);exact a01
           refine ay ?_ ?_
           ·intro wD E sD;refine au (au (Rg.y4 G G G ?_));exact a01
           exact jS
          ·intro Pc jh;refine au (au (au (au (au ?_))));intro Kf wR;intro Wo Ao;refine au (au (aY dy G G I3 Tg G G ?_));have QD:=jh.aF II;refine cv (M:=M2) I3 G G QD G G Vf (λNy R4 jD=>?_);change Ny.heap[bx]? =some (.cells #[.int .i64 (jv a' b'),.int .i64 (rZ a' b' k+1),.int .i64 (IntKind.i64.wrap (sa a' b' k+s))] 261 (0,0))at R4;have Hb:=jD.bU (jh.aF R3) WM;have R5:=(Ha.le jh.le).le jD.le;refine ad (aH (ab G G (ab G G (bm G ⟨_,G⟩ G (aR aT G G G Hb G (bg (v':=vk) G ?_))))));refine Rg.oW (A:=RT.fo) (hn:=by decide) aT ki rfl rfl rfl R5 (by simp only[cJ];omega) (λMu qY=>?_);replace qY:((RT.fo).sl).V M2 Ny tl Mu:=qY;refine bm G ⟨_,G⟩ G ?_;refine cv (M:=M2) NI G G Hb G (jL qY G G) hkM (λH7 vG py=>?_);change H7.heap[pk]? =some (.cells #[Mu] 36 (0,0))at vG;have JB:=py.bU R4 (λh=>WM h.symm);have tI:hit ((d,s)::tl) (jv a' b')=true:=wH ux;have R6:fU ((d,s)::tl) (jv a' b')=tl:=by unfold fU;rw[if_pos tI];rfl
           have SK:=((((S6.aw ej).cr lW (λj hj=>by subst hj;omega)).aw jh).cr jD (λj hj=>by subst hj;omega)).trans py (λj _ hj=>by subst hj;exact hkN);have MX:=bA (bA (bA (bA ej.le lW.le) jh.le) jD.le) py.le;refine ad (aH (bu G G G q0 (ab G G (ad ?_))));refine⟨G,k+1,a94,?_,?_⟩
           ·first
            |exact⟨by omega,uz.le MX,SK,by rw[iX nh,iY nh];unfold ou ot;rw[if_pos tI,if_pos tI];exact JB,kY H7 Mu (λq o h1 h2 h3=>py.bU (jD.bU (jh.aF (lW.bU (ej.aF h3) h2)) h2) h1) (λl v h=>h.le MX) vG af0⟩
            |exact⟨by omega,uz.le ej.le,S6.aw ej,by rw[iX nh,iY nh];unfold ou ot;rw[if_neg ab3,if_neg ab3];exact ej.aF IF,kY _ vk (λq o h1 h2 h3=>ej.aF h3) (λl v h=>h.le ej.le) (ej.aF R2) a68⟩
           ·show 2-(k+1)<2-k;omega
         ·have B2:hit ((d,s)::tl) (jv a' b')=false:=decide_eq_false ux;refine aS (aH (bu G G G q0 (ab G G (ad ?_))));refine⟨G,k+1,a94,?_,?_⟩
          ·first
           |exact⟨by omega,uz.le MX,SK,by rw[iX nh,iY nh];unfold ou ot;rw[if_pos tI,if_pos tI];exact JB,kY H7 Mu (λq o h1 h2 h3=>py.bU (jD.bU (jh.aF (lW.bU (ej.aF h3) h2)) h2) h1) (λl v h=>h.le MX) vG af0⟩
           |exact⟨by omega,uz.le ej.le,S6.aw ej,by rw[iX nh,iY nh];unfold ou ot;rw[if_neg ab3,if_neg ab3];exact ej.aF IF,kY _ vk (λq o h1 h2 h3=>ej.aF h3) (λl v h=>h.le ej.le) (ej.aF R2) a68⟩
          ·show 2-(k+1)<2-k;omega
       ·have B2:hit lk (jv a' b')=false:=by
         cases lk with
         |nil=>rfl
         |cons p tl=>simp at vF
        apply T.draw (M:=M2) mixed [cj.eq _,cj.eq _,cj.eq vk,cj.eq _,cj.eq _,cj.eq (.bool false),cj.eq undef,cj.eq undef,cj.eq undef,cj.eq undef,cj.eq undef,cj.eq undef,cj.eq undef,cj.eq undef,cj.eq undef,cj.eq _]
        ·rfl
        ·refine aE ?_ ?_
         ·intro wD E sD;refine ab G G ?_;exact a01
         refine aE ?_ ?_
         ·intro wD E sD;refine au (bm G ⟨_,G⟩ G ?_);exact a01
         refine aE ?_ ?_
         ·intro wD E sD;refine au (aR aT G G G (ch sD Xf) G ?_);exact a01
         refine aE ?_ ?_
         ·intro wD E sD;refine au (bC aT G (JA.le sD.le) G ?_);exact a01
         refine aE ?_ ?_
         ·intro wD E sD;refine au (eR G G G ?_);exact a01
         refine aE ?_ ?_
         ·intro wD E sD;refine au (ab G G ?_);refine ad ⟨G,G,_,G,?_,aV⟩;exact congrArg Value.bool (decide_eq_false vF)
         refine aE ?_ ?_
         ·intro wD E sD;refine au ?_;exact a13
         refine aE ?_ ?_
         ·intro wD E sD;refine au (au ?_);exact a13
         refine aE ?_ ?_
         ·intro wD E sD;refine au (au ?_);exact a13
         refine aE ?_ ?_
         ·intro wD E sD;refine au (au ?_);exact a13
         refine aE ?_ ?_
         ·intro wD E sD;refine au (au ?_);exact a13
         refine aE ?_ ?_
         ·intro wD E sD;refine au (au ?_);exact a13
         refine aE ?_ ?_
         ·intro wD E sD;refine au ?_;exact a13
         refine aE ?_ ?_
         ·intro wD E sD;refine au (au ?_);exact a13
         refine aE ?_ ?_
         ·intro wD E sD;refine au (au (au ?_));exact a13
         refine aE ?_ ?_
         ·intro wD E sD;refine au (au (aB G G G ?_));exact a01
         exact rI
        ·intro Ge ej;refine au (au (au (au (au (au (au (au (au (au (au (au ?_)))))))))));refine au (au (au (au ?_)));have D3:=ej.aF IF;have G9:=ej.aF R2;refine jF G (aS (aH (bu G G G q0 (ab G G (ad ?_)))));refine⟨G,k+1,a94,?_,?_⟩
         ·first
          |exact⟨by omega,uz.le MX,SK,by rw[iX nh,iY nh];unfold ou ot;rw[if_pos tI,if_pos tI];exact JB,kY H7 Mu (λq o h1 h2 h3=>py.bU (jD.bU (jh.aF (lW.bU (ej.aF h3) h2)) h2) h1) (λl v h=>h.le MX) vG af0⟩
          |exact⟨by omega,uz.le ej.le,S6.aw ej,by rw[iX nh,iY nh];unfold ou ot;rw[if_neg ab3,if_neg ab3];exact ej.aF IF,kY _ vk (λq o h1 h2 h3=>ej.aF h3) (λl v h=>h.le ej.le) (ej.aF R2) a68⟩
         ·show 2-(k+1)<2-k;omega
      ·refine cN (T.aQ (ab G G ?_));obtain rfl:k=2:=by omega
       refine eC (vs:=[.int .i64 (jv a' b'),.int .i64 (rZ a' b' 2),.int .i64 (sa a' b' 2)]) dy G A4 G G G IF ?_;have hJ7:=jT _ _ _ _ _ _ hJ S6;refine Rg.yield G (vs:=[.agg #[.int .i64 (jv a' b'),.int .i64 (rZ a' b' 2),.int .i64 (sa a' b' 2)]]) G G (hy a' b' M2 _ hJ7 Td Te RY) (λr9 w9 h9=>?_);obtain⟨c,rfl,hc5,UY⟩:=h9;refine fV G G (bg (v':= .bool (decide (¬c=true))) (by simp) (ad ?_));refine bE G (λHy=>?_) (λHy=>?_)
       ·refine aJ ?_;exact EK G (.inr (UY (by simpa using Hy)))
       ·obtain⟨M9,N9,hJ9,s9,hN9⟩:=hc5 (ck.1 Hy);refine aS ?_;refine⟨G,(fU a' (jv a' b'),fU b' (jv a' b')),a07,?_,?_⟩
        ·exact⟨Td.rest _,Te.rest _,v0,v1,M9,hJ9,s9.bU Kw (λh=>(hN9 _ h).1 rfl),s9.bU Kx (λh=>(hN9 _ h).2 rfl),qA.le s9.le,kg.le s9.le⟩
        ·exact ry Td Te RY
  ·refine ah G G (aR aT G G G Xf G (ah G G (bC aT G MV G (ah G G (eR G G G (aB G G G (ad ?_)))))));refine bE G (λc0=>?_) (λc0=>?_)
   ·have RY:a'≠[]\/b'≠[]:= .inr (by intro h;rw[h]at c0;simp at c0);refine aS (aX (T.aQ (dw (places:=[(0,1),(1,1),(2,1)]) dy A4 afV rfl ⟨_,_,rfl,rfl,rfl⟩ (out:=[_,.int .i64 0,.int .i64 0]) ⟨0,[_],rfl,rfl,by simp[Value.cells],rfl⟩ ?_)));refine ew M1 A4 G (λbx w2 z2 z2' hX0 s2=>?_);obtain⟨M2,yD⟩:∃M2,M2=ins M1 bx:=⟨_,rfl⟩;have Vf:M2 bx:=by rw[yD];exact .inl G
    have ND:M2 ba:=by rw[yD];exact .inr Vc
    have yC:M2 bb:=by rw[yD];exact .inr Vd
    have hxa:bx≠ba:=by have:=ae V3;omega
    have Pk:bx≠bb:=by have:=ae hB1;omega
    rw[<-yD]at s2;refine cY (M:=M2) A4 G G ah7 rfl rfl hX0 Vf (λw3 hX3 s3=>?_);change w3.heap[bx]? =some (.cells #[.int .i64 2147483648,.int .i64 0,.int .i64 0] 261 (0,0))at hX3;have S3:=s2.cr s3 (λj hj=>by subst hj;exact z2);have hA3:=S3.aF V3;have hB3:=S3.aF hB1;have RZ:=MU.le S3.le;have R0:=MV.le S3.le;have Qz:=S3.lt pH;refine ad (aL (T.aQ (aR aT G G G Xf G (aR aT G G G Xf G ?_))));refine Rg.NW (A:=(RT.fo).sl) (hn:=by decide) (M:=M2) (xs:=[a',b']) Tryz.underlying312 NI G Tg G ⟨_,_,_,G,G,G,RZ,_,_,_,G,G,G,R0,G⟩ G Qz (.inr ⟨G,G⟩) Tg (λu20 w4 Jy s4=>?_);refine bC Tryz.underlying312 G Jy G (ab G G (ad (aX ?_)));refine dd (σ:=Nat) (λs=>[(0,.func (.yield yl) #[] #[]),(1,.pointer (some ⟨ba,0,none⟩)),(2,.pointer (some ⟨bb,0,none⟩)),(4,.pointer (some ⟨bx,0,none⟩)),(20,u20),(21,.int .i64 2),(22,.int .i64 s)]) (λs w=>s<=2/\Step M1 w1 M2 w aC/\w.heap[bx]? =some (.cells #[.int .i64 (SQ a' b' s),.int .i64 0,.int .i64 0] 261 (0,0))/\(((RT.fo).sl).sl).V M2 w [a',b'] u20) (λs=>2-s) 0 a94 ?_ ?_
    ·exact⟨a8 _,S3.aw s4,s4.aF hX3,Jy⟩
    ·rintro k w5 ⟨Dh,S5,MW,lP⟩;refine T.aQ (cx G G G (ad (aL ?_)));refine bE G (λc3=>?_) (λc3=>?_)
     ·refine aS (aL (aX (T.aQ ?_)))
      obtain⟨lk,nh⟩:∃x,[a',b'][k]? =some x:=by
       have aav:k<[a',b'].length:=by simp;omega
       exact⟨_,aq aav⟩
      have Ht:([a',b']:List (List Fo)).length=2:=rfl;refine cC Tryz.underlying312 NI G G G (lP) bS a52 (λLQ IC Av si=>?_);obtain rfl:lk=IC:=cD (aI (Av.symm.trans (by rw[ar];exact nh)));refine bB aT G G G G G si bS (λH2 oB=>?_);replace oB:((RT.fo).sl).V M2 _ lk H2:=oB;refine Rg.aZ G G (T.aQ (ab G G (bC aT G oB G (eR G G G (ad ?_)))));refine bE G (λc5=>?_) (λc5=>?_)
      ·obtain⟨⟨d,s⟩,tl,rfl⟩:∃p tl,lk=p::tl:=by
        cases lk with
        |nil=>simp at c5
        |cons p tl=>exact⟨p,tl,rfl⟩
       apply T.qD (M:=M2) mixed [] [cj.eq _,cj.eq (.int .i64 (SQ a' b' k)),cj.eq _,cj.ptr (RT.fo) (d,s),cj.ptr (RT.int .i64) d,cj.eq (.int .i64 d),cj.eq _] 7
       ·rfl
       ·rfl
       ·rfl
       ·rfl
       ·rfl
       ·exact a88
       ·exact oT
       ·refine ay ?_ ?_
        ·intro wD E sD;refine aY dy G G I3 Tg G G ?_;exact a01
        refine ay ?_ ?_
        ·intro wD E sD;refine au (aR al G G G (ch sD Xf) G ?_);exact a01
        refine ay ?_ ?_
        ·intro wD E sD;refine ab G G ?_;exact a01
        refine ay ?_ ?_
        ·intro wD E sD;refine au ?_;refine cC aT ki G G G (oB.le sD.le) bS q0 (λui ai G8 Jz=>?_);obtain rfl:(d,s)=ai:=cD (aI (G8.symm.trans rfl));exact ag7
        refine ay ?_ ?_
        ·intro wD E sD;intro v3 uE;refine ao (A:=RT.fo) (B:=RT.int .i64) cQ G G I3 Tg (fo0) G G Tg (show cO (RT.fo) M2 wD v3 (d,s)from uE) bS (λuf uR=>?_);exact a83
        refine ay ?_ ?_
        ·intro wD E sD;intro v4 qu;refine bV al G G (show cO (RT.int .i64) M2 wD v4 d from qu) bS (λlJ=>?_);exact a01
        refine ay ?_ ?_
        ·intro wD E sD;refine au (au (Rg.min2 G G G ?_));exact a01
        exact jS
       ·intro wD6 tR;refine au (au (au ?_));intro afY WZ;intro afZ KR;refine au (au (aY dy G G I3 Tg G G ?_));refine cv (M:=M2) I3 G G (tR.aF MW) G G Vf (λw7 hX7 s7=>?_);change w7.heap[bx]? =some (.cells #[.int .i64 (min (SQ a' b' k) d),.int .i64 0,.int .i64 0] 261 (0,0))at hX7;refine ad (aH (bu G G G q0 (ab G G (ad ?_))));refine⟨G,k+1,a94,?_,?_⟩
        ·first
         |exact⟨by omega,(S5.aw tR).cr s7 (λj hj=>by subst hj;exact z2),by rw[lu nh];exact hX7,(lP.le tR.le).le s7.le⟩
         |exact⟨by omega,S5,by rw[lu nh,nX];exact MW,lP⟩
        ·show 2-(k+1)<2-k;omega
      ·have nX:lk=[]:=by
        cases lk with
        |nil=>rfl
        |cons p tl=>simp at c5
       refine aS (aH (bu G G G q0 (ab G G (ad ?_))));refine⟨G,k+1,a94,?_,?_⟩
       ·first
        |exact⟨by omega,(S5.aw tR).cr s7 (λj hj=>by subst hj;exact z2),by rw[lu nh];exact hX7,(lP.le tR.le).le s7.le⟩
        |exact⟨by omega,S5,by rw[lu nh,nX];exact MW,lP⟩
       ·show 2-(k+1)<2-k;omega
     ·refine cN (aL (T.aQ ?_));obtain rfl:k=2:=by omega
      replace MW:w5.heap[bx]? =some (.cells #[.int .i64 (jv a' b'),.int .i64 0,.int .i64 0] 261 (0,0)):=MW;have hM5:=S5.lt pH;refine Rg.NW (A:=RT.ED) (hn:=by decide) (M:=M2) (xs:=[ba,bb]) Tryz.underlying314 Vb G Tg G ⟨_,_,_,G,G,G,om.2 G,_,_,_,G,G,G,om.2 G,G⟩ G hM5 (.inr ⟨G,G⟩) Tg (λu38 w8 R1 s8=>?_);refine bC Tryz.underlying314 G R1 G (ab G G (ad (aX ?_)));refine dd (σ:=Nat) (λs=>[(0,.func (.yield yl) #[] #[]),(1,.pointer (some ⟨ba,0,none⟩)),(2,.pointer (some ⟨bb,0,none⟩)),(4,.pointer (some ⟨bx,0,none⟩)),(38,u38),(39,.int .i64 2),(40,.int .i64 s)]) (λs w=>s<=2/\((RT.ED).sl).V M2 w [ba,bb] u38/\Step M1 w1 M2 w (λj=>j=ba\/j=bb)/\w.heap[bx]? =some (.cells #[.int .i64 (jv a' b'),.int .i64 (rZ a' b' s),.int .i64 (sa a' b' s)] 261 (0,0))/\∃v0 v1,w.heap[ba]? =some (.cells #[v0] 36 (0,0))/\((RT.fo).sl).V M2 w (lK a' (jv a' b') (decide (0<s))) v0/\w.heap[bb]? =some (.cells #[v1] 36 (0,0))/\((RT.fo).sl).V M2 w (lK b' (jv a' b') (decide (1<s))) v1) (λs=>2-s) 0 a94 ?_ ?_
      ·exact⟨a8 _,R1,(S5.aw s8).eI a30 (λj hj=>by rcases hj with rfl|rfl;exact Vc;exact Vd),s8.aF MW,va1,vb1,s8.aF (S5.aF V3),(MU.le S5.le).le s8.le,s8.aF (S5.aF hB1),(MV.le S5.le).le s8.le⟩
      ·rintro k w6 ⟨Dh,uz,S6,IF,v0,v1,Kw,qA,Kx,kg⟩;have hmy:=J1 a' b' k;refine T.aQ (cx G G G (ad (aL ?_)));refine bE G (λc9=>?_) (λc9=>?_)
       ·refine aS (aL (aX (T.aQ ?_)));obtain⟨pk,lk,vk,hpk,nh,R2,JA,hkM,hkN,WM,kY⟩:=C1 (show k<2 by omega) fw hxa Pk ND yC Kw qA Kx kg;have hl3:([ba,bb]:List Nat).length=2:=rfl;refine cC Tryz.underlying314 Vb G G G (uz) bS a52 (λO9 Gq Aw zY=>?_);obtain rfl:pk=Gq:=cD (aI (Aw.symm.trans (by rw[ar];exact hpk)));refine bB Tryz.underlying313 G G G G G zY bS (λv10 pJ=>?_);obtain rfl:=om.1 pJ;refine Rg.aZ G G (aL ?_);by_cases vF:((lk.length:Nat):Int)>0
        ·obtain⟨⟨d,s⟩,tl,rfl⟩:∃p tl,lk=p::tl:=by
          cases lk with
          |nil=>simp at vF
          |cons p tl=>exact⟨p,tl,rfl⟩
         apply T.draw (M:=M2) mixed [cj.eq _,cj.eq _,cj.eq vk,cj.eq _,cj.eq _,cj.eq (.bool true),cj.eq _,cj.eq _,cj.eq vk,cj.ptr (RT.fo) (d,s),cj.ptr (RT.int .i64) d,cj.eq (.int .i64 d),cj.eq _,cj.eq (.int .i64 (jv a' b')),cj.eq _,cj.eq _]
         ·rfl
         ·refine aE ?_ ?_
          ·intro wD E sD;refine ab G G ?_;exact a01
          refine aE ?_ ?_
          ·intro wD E sD;refine au (bm G ⟨_,G⟩ G ?_);exact a01
          refine aE ?_ ?_
          ·intro wD E sD;refine au (aR aT G G G (ch sD Xf) G ?_);exact a01
          refine aE ?_ ?_
          ·intro wD E sD;refine au (bC aT G (JA.le sD.le) G ?_);exact a01
          refine aE ?_ ?_
          ·intro wD E sD;refine au (eR G G G ?_);exact a01
          refine aE ?_ ?_
          ·intro wD E sD;refine au (ab G G ?_);refine ad ⟨G,G,_,G,?_,aV⟩;exact congrArg Value.bool (decide_eq_true vF)
          refine aE ?_ ?_
          ·intro wD E sD;refine au (ah G G (ab G G ?_));exact a01
          refine aE ?_ ?_
          ·intro wD E sD;refine au (au (ah G G (bm G ⟨_,G⟩ G ?_)));exact a01
          refine aE ?_ ?_
          ·intro wD E sD;refine au (au (ah G G (aR aT G G G (ch sD Xf) G ?_)));exact a01
          refine aE ?_ ?_
          ·intro wD E sD;refine au (au (ah G G ?_));refine cC aT ki G G G (JA.le sD.le) bS q0 (λui ai G8 Jz=>?_);obtain rfl:(d,s)=ai:=cD (aI (G8.symm.trans rfl));exact ag7
          refine aE ?_ ?_
          ·intro wD E sD;intro v9 LS;refine au (ah G G ?_);refine ao (A:=RT.fo) (B:=RT.int .i64) cQ G G I3 Tg (fo0) G G Tg (show cO (RT.fo) M2 wD v9 (d,s)from LS) bS (λuf uR=>?_);exact a83
          refine aE ?_ ?_
          ·intro wD E sD;intro v10 pJ;refine au (ah G G ?_);refine bV al G G (show cO (RT.int .i64) M2 wD v10 d from pJ) bS (λlJ=>?_);exact a01
          refine aE ?_ ?_
          ·intro wD E sD;refine au (ah G G (aY dy G G I3 Tg G G ?_));exact a01
          refine aE ?_ ?_
          ·intro wD E sD;refine au (au (ah G G (aR al G G G (ch sD Xf) G ?_)));exact a01
          refine aE ?_ ?_
          ·intro wD E sD;refine au (au (au (ah G G (fe G G G ?_))));exact a01
          refine aE ?_ ?_
          ·intro wD E sD;refine au (au (aU G G G ?_));exact a01
          exact rI
         ·intro Ge ej;refine au (au (au (au (au (au (au (au (au ?_))))))));intro af1 aay;intro IG pK;refine au (au (au (au (au ?_))));have D3:=ej.aF IF;have G9:=ej.aF R2;refine bE G (λux=>?_) (λux=>?_)
          ·refine T.aQ (aY dy G G I3 Tg G G (aR al G G G D3 G (bg (v':= .int .i64 (rZ a' b' k)) G (bu G G G q0 (aY dy G G I3 Tg G G ?_)))));refine cv (M:=M2) I3 G G D3 G G Vf (λLK II lW=>?_);change LK.heap[bx]? =some (.cells #[.int .i64 (jv a' b'),.int .i64 (rZ a' b' k+1),.int .i64 (sa a' b' k)] 261 (0,0))at II;have R3:=lW.bU G9 WM;have Ha:=(JA.le ej.le).le lW.le;refine ad (aL ?_);apply T.qD (M:=M2) mixed [] [cj.eq _,cj.eq (.int .i64 (sa a' b' k)),cj.eq _,cj.eq _,cj.eq vk,cj.ptr (RT.fo) (d,s),cj.ptr (RT.int .i64) s,cj.eq (.int .i64 s),cj.eq _] 9
           ·rfl
           ·rfl
           ·rfl
           ·rfl
           ·rfl
           ·exact a88
           ·exact oT
           ·refine ay ?_ ?_
            ·intro wD E sD;refine aY dy G G I3 Tg G G ?_;exact a01
            refine ay ?_ ?_
            ·intro wD E sD;refine au (aR al G G G (ch sD Xf) G ?_);exact a01
            refine ay ?_ ?_
            ·intro wD E sD;refine ab G G ?_;exact a01
            refine ay ?_ ?_
            ·intro wD E sD;refine au (bm G ⟨_,G⟩ G ?_);exact a01
            refine ay ?_ ?_
            ·intro wD E sD;refine au (aR aT G G G (ch sD Xf) G ?_);exact a01
            refine ay ?_ ?_
            ·intro wD E sD;refine au ?_;refine cC aT ki G G G (Ha.le sD.le) bS q0 (λui ai G8 Jz=>?_);obtain rfl:(d,s)=ai:=cD (aI (G8.symm.trans rfl));exact ag7
            refine ay ?_ ?_
            ·intro wD E sD;intro v5 pA;refine ao (A:=RT.fo) (B:=RT.int .i64) cQ G G I3 Tg (fo1) G G Tg (show cO (RT.fo) M2 wD v5 (d,s)from pA) bS (λuf uR=>?_);exact a83
            refine ay ?_ ?_
            ·intro wD E sD;intro v6 oC;refine bV al G G (show cO (RT.int .i64) M2 wD v6 s from oC) bS (λlJ=>?_);exact a01
            refine ay ?_ ?_
            ·intro wD E sD;refine au (au (Rg.y4 G G G ?_));exact a01
            exact jS
           ·intro Pc jh;refine au (au (au (au (au ?_))));intro Kf wR;intro Wo Ao;refine au (au (aY dy G G I3 Tg G G ?_));have QD:=jh.aF II;refine cv (M:=M2) I3 G G QD G G Vf (λNy R4 jD=>?_);change Ny.heap[bx]? =some (.cells #[.int .i64 (jv a' b'),.int .i64 (rZ a' b' k+1),.int .i64 (IntKind.i64.wrap (sa a' b' k+s))] 261 (0,0))at R4;have Hb:=jD.bU (jh.aF R3) WM;have R5:=(Ha.le jh.le).le jD.le;refine ad (aH (ab G G (ab G G (bm G ⟨_,G⟩ G (aR aT G G G Hb G (bg (v':=vk) G ?_))))));refine Rg.oW (A:=RT.fo) (hn:=by decide) aT ki rfl rfl rfl R5 (by simp only[cJ];omega) (λMu qY=>?_);replace qY:((RT.fo).sl).V M2 Ny tl Mu:=qY;refine bm G ⟨_,G⟩ G ?_;refine cv (M:=M2) NI G G Hb G (jL qY G G) hkM (λH7 vG py=>?_);change H7.heap[pk]? =some (.cells #[Mu] 36 (0,0))at vG;have JB:=py.bU R4 (λh=>WM h.symm);have tI:hit ((d,s)::tl) (jv a' b')=true:=wH ux;have R6:fU ((d,s)::tl) (jv a' b')=tl:=by unfold fU;rw[if_pos tI];rfl
            have SK:=((((S6.aw ej).cr lW (λj hj=>by subst hj;omega)).aw jh).cr jD (λj hj=>by subst hj;omega)).trans py (λj _ hj=>by subst hj;exact hkN);have MX:=bA (bA (bA (bA ej.le lW.le) jh.le) jD.le) py.le;refine ad (aH (bu G G G q0 (ab G G (ad ?_))));refine⟨G,k+1,a94,?_,?_⟩
            ·first
             |exact⟨by omega,uz.le MX,SK,by rw[iX nh,iY nh];unfold ou ot;rw[if_pos tI,if_pos tI];exact JB,kY H7 Mu (λq o h1 h2 h3=>py.bU (jD.bU (jh.aF (lW.bU (ej.aF h3) h2)) h2) h1) (λl v h=>h.le MX) vG af0⟩
             |exact⟨by omega,uz.le ej.le,S6.aw ej,by rw[iX nh,iY nh];unfold ou ot;rw[if_neg ab3,if_neg ab3];exact ej.aF IF,kY _ vk (λq o h1 h2 h3=>ej.aF h3) (λl v h=>h.le ej.le) (ej.aF R2) a68⟩
            ·show 2-(k+1)<2-k;omega
          ·have B2:hit ((d,s)::tl) (jv a' b')=false:=decide_eq_false ux;refine aS (aH (bu G G G q0 (ab G G (ad ?_))));refine⟨G,k+1,a94,?_,?_⟩
           ·first
            |exact⟨by omega,uz.le MX,SK,by rw[iX nh,iY nh];unfold ou ot;rw[if_pos tI,if_pos tI];exact JB,kY H7 Mu (λq o h1 h2 h3=>py.bU (jD.bU (jh.aF (lW.bU (ej.aF h3) h2)) h2) h1) (λl v h=>h.le MX) vG af0⟩
            |exact⟨by omega,uz.le ej.le,S6.aw ej,by rw[iX nh,iY nh];unfold ou ot;rw[if_neg ab3,if_neg ab3];exact ej.aF IF,kY _ vk (λq o h1 h2 h3=>ej.aF h3) (λl v h=>h.le ej.le) (ej.aF R2) a68⟩
           ·show 2-(k+1)<2-k;omega
        ·have B2:hit lk (jv a' b')=false:=by
          cases lk with
          |nil=>rfl
          |cons p tl=>simp at vF
         apply T.draw (M:=M2) mixed [cj.eq _,cj.eq _,cj.eq vk,cj.eq _,cj.eq _,cj.eq (.bool false),cj.eq undef,cj.eq undef,cj.eq undef,cj.eq undef,cj.eq undef,cj.eq undef,cj.eq undef,cj.eq undef,cj.eq undef,cj.eq _]
         ·rfl
         ·refine aE ?_ ?_
          ·intro wD E sD;refine ab G G ?_;exact a01
          refine aE ?_ ?_
          ·intro wD E sD;refine au (bm G ⟨_,G⟩ G ?_);exact a01
          refine aE ?_ ?_
          ·intro wD E sD;refine au (aR aT G G G (ch sD Xf) G ?_);exact a01
          refine aE ?_ ?_
          ·intro wD E sD;refine au (bC aT G (JA.le sD.le) G ?_);exact a01
          refine aE ?_ ?_
          ·intro wD E sD;refine au (eR G G G ?_);exact a01
          refine aE ?_ ?_
          ·intro wD E sD;refine au (ab G G ?_);refine ad ⟨G,G,_,G,?_,aV⟩;exact congrArg Value.bool (decide_eq_false vF)
          refine aE ?_ ?_
          ·intro wD E sD;refine au ?_;exact a13
          refine aE ?_ ?_
          ·intro wD E sD;refine au (au ?_);exact a13
          refine aE ?_ ?_
          ·intro wD E sD;refine au (au ?_);exact a13
          refine aE ?_ ?_
          ·intro wD E sD;refine au (au ?_);exact a13
          refine aE ?_ ?_
          ·intro wD E sD;refine au (au ?_);exact a13
          refine aE ?_ ?_
          ·intro wD E sD;refine au (au ?_);exact a13
          refine aE ?_ ?_
          ·intro wD E sD;refine au ?_;exact a13
          refine aE ?_ ?_
          ·intro wD E sD;refine au (au ?_);exact a13
          refine aE ?_ ?_
          ·intro wD E sD;refine au (au (au ?_));exact a13
          refine aE ?_ ?_
          ·intro wD E sD;refine au (au (aB G G G ?_));exact a01
          exact rI
         ·intro Ge ej;refine au (au (au (au (au (au (au (au (au (au (au (au ?_)))))))))));refine au (au (au (au ?_)));have D3:=ej.aF IF;have G9:=ej.aF R2;refine jF G (aS (aH (bu G G G q0 (ab G G (ad ?_)))));refine⟨G,k+1,a94,?_,?_⟩
          ·first
           |exact⟨by omega,uz.le MX,SK,by rw[iX nh,iY nh];unfold ou ot;rw[if_pos tI,if_pos tI];exact JB,kY H7 Mu (λq o h1 h2 h3=>py.bU (jD.bU (jh.aF (lW.bU (ej.aF h3) h2)) h2) h1) (λl v h=>h.le MX) vG af0⟩
           |exact⟨by omega,uz.le ej.le,S6.aw ej,by rw[iX nh,iY nh];unfold ou ot;rw[if_neg ab3,if_neg ab3];exact ej.aF IF,kY _ vk (λq o h1 h2 h3=>ej.aF h3) (λl v h=>h.le ej.le) (ej.aF R2) a68⟩
          ·show 2-(k+1)<2-k;omega
       ·refine cN (T.aQ (ab G G ?_));obtain rfl:k=2:=by omega
        refine eC (vs:=[.int .i64 (jv a' b'),.int .i64 (rZ a' b' 2),.int .i64 (sa a' b' 2)]) dy G A4 G G G IF ?_;have hJ7:=jT _ _ _ _ _ _ hJ S6;refine Rg.yield G (vs:=[.agg #[.int .i64 (jv a' b'),.int .i64 (rZ a' b' 2),.int .i64 (sa a' b' 2)]]) G G (hy a' b' M2 _ hJ7 Td Te RY) (λr9 w9 h9=>?_);obtain⟨c,rfl,hc5,UY⟩:=h9;refine fV G G (bg (v':= .bool (decide (¬c=true))) (by simp) (ad ?_));refine bE G (λHy=>?_) (λHy=>?_)
        ·refine aJ ?_;exact EK G (.inr (UY (by simpa using Hy)))
        ·obtain⟨M9,N9,hJ9,s9,hN9⟩:=hc5 (ck.1 Hy);refine aS ?_;refine⟨G,(fU a' (jv a' b'),fU b' (jv a' b')),a07,?_,?_⟩
         ·exact⟨Td.rest _,Te.rest _,v0,v1,M9,hJ9,s9.bU Kw (λh=>(hN9 _ h).1 rfl),s9.bU Kx (λh=>(hN9 _ h).2 rfl),qA.le s9.le,kg.le s9.le⟩
         ·exact ry Td Te RY
   ·refine cN ?_
    have rJ:a'=[]:=by
     cases a' with
     |nil=>rfl
     |cons p tl=>simp at Ve
    have Ev:b'=[]:=by
     cases b' with
     |nil=>rfl
     |cons p tl=>simp at c0
    subst rJ;subst Ev;change yp Tryz.prog Tryz.f200 (λ_ w'=>(∃M',J [] [] M' w')\/Jx w') .normal _ [] _;exact kr G (.inl ⟨_,hJ⟩)
end Go.K

/- What the law 'MatchRefuses' needs of walks and plain Lean, part 5: nothing is assumed beyond the texts that it imports. -/
import Derived.KernelRfl
import Derived.Laws.StructEq
import Derived.Test.YtaobajlebdchhaaGreatDoorProg
import Derived.Test.YtaobajlebdchhaaGreatDoorZMatchRefuses1
import Derived.Test.YtaobajlebdchhaaGreatDoorZMatchRefuses2
import Derived.Test.YtaobajlebdchhaaGreatDoorZMatchRefuses3
import Derived.Test.YtaobajlebdchhaaGreatDoorZMatchRefuses4
set_option linter.unusedVariables false
set_option linter.unusedSimpArgs false
namespace Go.K
open Go.Proofs
namespace TKPlc
theorem XQ:Enters Tryz.prog 124:=enters Tryz.func124 rfl QZ
end TKPlc
open TKPlc
set_option maxRecDepth 10000
def cT (fs:List Fd) (k:List UInt8):List (List UInt8):=match fs.find? (λf=>decide (f.1=k))with|some f=>words f.2|none=>[]
theorem wY {fs:List Fd} {k:List UInt8} {i:Nat} {x:Fd} (h:fs[i]? =some x) (hx:x.1=k) (jz:∀(j:Nat) y,j<i->fs[j]? =some y->y.1≠k):cT fs k=words x.2:=by
 have:fs.find? (λf=>decide (f.1=k))=some x:=by
  induction fs generalizing i with
  |nil=>simp at h
  |cons y fs ih=>
   cases i with
   |zero=>simp at h;subst h;simp[hx]
   |succ i=>
    rw[List.find?_cons_of_neg (by simpa using jz 0 y q0 rfl)];exact ih a84 (λj z hj hz=>jz (j+1) z q0 (by simpa using hz))
 unfold cT;rw[this]
theorem wZ {fs:List Fd} {k:List UInt8} (h:∀f∈fs,f.1.length<=900000/\f.2.length<=900000):(cT fs k).length<=900001:=by
 unfold cT
 split
 ·rename_i f hf
  have:=lC f.2;have:=(h f (List.mem_of_find?_eq_some hf)).2;omega
 ·simp
theorem C0 {fs:List Fd} {k:List UInt8} (jz:∀y∈fs,y.1≠k):cT fs k=[]:=by
 unfold cT;rw[List.find?_eq_none.2 λy hy=>by simpa using jz y hy]
def iN (ws:List (List UInt8)) (x:List UInt8):List Int:=(ws.zipIdx.filter λp=>decide (p.1=x)).map λp=>(p.2:Int)
theorem vU {ws:List (List UInt8)} {x y:List UInt8} {i:Nat} (h:ws[i]? =some y):iN (ws.take (i+1)) x=if y=x then iN (ws.take i) x++[(i:Int)]else iN (ws.take i) x:=by
 have hi:=(al.1 h).1;unfold iN;rw[b7,h,dH,List.zipIdx_append,fC,dM];simp only[bJ,xR (Nat.le_of_lt hi),rC,List.zipIdx_cons,List.zipIdx_nil];by_cases e:y=x
 ·rw[if_pos e];simp[e]
 ·rw[if_neg e];simp[e]
theorem qm (ws:List (List UInt8)) (x:List UInt8):(iN ws x).length<=ws.length:=by
 unfold iN;rw[b9];exact dm (gU _ _) (by simp)
theorem xc {M:aL} {d:Dc} {k:List UInt8} {v0:Value} (w0:World) (hM:Lt M w0) (hd:RT.dc.V M w0 d v0) (hlen:∀f∈d.2,f.1.length<=900000/\f.2.length<=900000) (xC:d.2.length<=1000000):
  Spec Tryz.prog 124 #[v0,sv k] w0 (λv w=>(RT.str.sl).V M w (cT d.2 k) v/\Step M w0 M w aD):=by
 have gX:=hM;refine a7 (args:=[_,_]) (fn:=Tryz.f124) Tryz.func124 G (n:=28) Tryz.ntmps124 ?_;have S:Step M w0 M w0 aD:=aW;refine T.aP ?_;refine ej (A:=RT.dc) (a:=d) G G hM hd G (λu0 w1 du s0 _=>?_);replace hM:=s0.lt hM;have:=S.size;replace S:=S.av s0;refine Rg.aZ G G (aK (T.aP (Rg.aZ G G (aX ?_))));refine cY (σ:=Nat) (λi=>[(1,sv k),(2,u0),(5,.int .i64 (i:Int))]) (λi w=>Step M w0 M w aD/\cM RT.dc M w u0 d/\i<=d.2.length/\(∀(j:Nat) y,j<i->d.2[j]? =some y->y.1≠k)) (λi=>d.2.length-i) 0 a00 ?_ ?_
 ·exact⟨S,du,bp _,λj y h=>absurd h (eC _)⟩
 ·clear S du hM;rintro i w ⟨S,du,hi,jz⟩;have hM:=S.lt gX;refine aK (T.aP (ab G G ?_));refine ao (A:=RT.dc) (B:=(RT.fd).sl) aT G G sN QZ F6 G G QZ du bU (λu21 Pf=>?_);refine bD bA G G G G G Pf bU (λv22 XR=>?_);refine bz bA G XR G (cy G G G (ad ?_));refine bF G (λc2=>?_) (λc2=>?_)
  ·refine aR (aK (aX (T.aP ?_)));obtain⟨fx,sV⟩:∃x,d.2[i]? =some x:=⟨_,an q0⟩;have Dj:=hlen _ (au sV);refine ao (A:=RT.dc) (B:=(RT.fd).sl) aT G G sN QZ F6 G G QZ du bU (λu40 Hx=>?_);refine bD bA G G G G G Hx bU (λv41 XS=>?_);refine ab G G ?_;refine cB bA jW G G G XS bU q0 (λu43 x gD XT=>?_);rw[ar]at gD;obtain rfl:=aJ (sV.symm.trans gD);refine ao (A:=RT.fd) (B:=RT.str) cE G G I9 QZ DZ G G QZ XT bU (λu44 akv=>?_);refine bD az G G G G G akv bU (λv45 akw=>?_);obtain rfl:=dS akw;refine ab G G (Rg.sY G G G (ad ?_));refine bF G (λc4=>?_) (λc4=>?_)
   ·refine T.aP ?_;refine ao (A:=RT.dc) (B:=(RT.fd).sl) aT G G sN QZ F6 G G QZ du bU (λu50 XU=>?_);refine bD bA G G G G G XU bU (λv51 XV=>?_);refine ab G G ?_;refine cB bA jW G G G XV bU q0 (λu53 x gD akx=>?_);rw[ar]at gD;obtain rfl:=aJ (sV.symm.trans gD);refine ao (A:=RT.fd) (B:=RT.str) cE G G I9 QZ QO G G QZ akx bU (λu54 Hy=>?_);refine bD az G G G G G Hy bU (λv55 Hz=>?_);obtain rfl:=dS Hz;refine aQ G G aae (wK _ hM Dj.2) (λr6 w6 hc=>?_);obtain⟨hr6,s6⟩:=hc;replace du:=du.le QZ s6.le;replace hM:=s6.lt hM;have:=S.size;replace S:=S.av s6;refine Rg.aZ G G (aI ?_);exact aF rfl rfl ⟨by rw[wY sV c4 jz];exact hr6,S⟩
   ·refine aR (aM (ab G G (bC G G G q0 (Rg.aZ G G ?_))));refine⟨G,i+1,a00,?_,?_⟩
    ·exact⟨S,du,by omega,λj y hj hy=>by
      rcases cI j i with h|h
      ·exact jz j y h hy
      ·rw[show j=i by omega,sV]at hy;cases hy;exact c4⟩
    ·omega
  ·refine cN (T.aP (Rg.aZ G G (aI ?_)));exact aF rfl rfl ⟨by rw[C0 (λy hy=>by obtain⟨j,hj⟩:=bK.1 hy;exact jz j y ac7 hj)];exact iQ,S⟩
theorem xd {M:aL} {d:Dc} {t:Fd} {v0 v1:Value} (w0:World) (hM:Lt M w0) (hd:RT.dc.V M w0 d v0) (hlen:∀f∈d.2,f.1.length<=900000/\f.2.length<=900000) (xC:d.2.length<=1000000) (ht:RT.fd.V M w0 t v1):
  Spec Tryz.prog 78 #[v0,v1] w0 (λv w=>((RT.int .i64).sl).V M w (iN (cT d.2 t.1) t.2) v/\Step M w0 M w aD):=by
 have gX:=hM;have sL:=Nc ht;refine a7 (args:=[_,_]) (fn:=Tryz.f78) Tryz.func78 G (n:=30) Tryz.ntmps78 ?_;have S:Step M w0 M w0 aD:=aW;refine T.aP ?_;refine ej (A:=RT.dc) (a:=d) G G hM hd G (λu0 w1 du s0 _=>?_);replace hd:=hd.le s0.le;replace ht:=ht.le s0.le;replace hM:=s0.lt hM;have:=S.size;replace S:=S.av s0;refine ej (A:=RT.fd) (a:=t) G G hM ht G (λu1 w2 fR s1 _=>?_);replace ht:=ht.le s1.le;replace du:=du.le QZ s1.le;replace hM:=s1.lt hM;have:=S.size;replace S:=S.av s1;refine Rg.aZ G G (T.aP (Rg.aZ G G (T.aP ?_)));refine bR (A:=RT.dc) aT G kU QZ G G G du bU (λv20 XW=>?_);refine ao (A:=RT.fd) (B:=RT.str) bI G G I9 QZ DZ G G QZ fR bU (λu21 Pf=>?_);refine bD az G G G G G Pf bU (λv22 XR=>?_);obtain rfl:=dS XR;refine aQ G G XQ (xc _ hM XW hlen xC) (λr2 w2' hc=>?_);obtain⟨Ao,s2⟩:=hc;have Nj:=wZ (k:=t.1) hlen;replace du:=du.le QZ s2.le;replace fR:=fR.le QZ s2.le;replace hM:=s2.lt hM;have:=S.size;replace S:=S.av s2;refine Rg.aZ G G (aK (T.aP (Rg.aZ G G (aX ?_))));refine cY (σ:=Nat×Value) (λq=>[(3,u1),(5,q.2),(6,r2),(7,.int .i64 (q.1:Int))]) (λq w=>∃M',Lt M' w/\Step M w0 M' w aD/\Own (RT.int .i64) 3 M' w w0.heap.size q.2 (iN ((cT d.2 t.1).take q.1) t.2)/\(RT.str.sl).V M' w (cT d.2 t.1) r2/\cM RT.fd M' w u1 t/\q.1<=(cT d.2 t.1).length) (λq=>(cT d.2 t.1).length-q.1) (0,.slice none 0 0) a38 ?_ ?_
 ·exact⟨M,hM,S,eJ _ _ _ _ _,Ao,fR,bp _⟩
 ·clear S du fR Ao hM;rintro⟨i,u⟩ w ⟨M1,hM,S,ho,Ao,fR,hi⟩;dsimp only at ho hi ⊢;refine aK (T.aP (ab G G (ab G G (bz aB G Ao G (cy G G G (ad ?_))))));refine bF G (λc4=>?_) (λc4=>?_)
  ·refine aR (aK (aX (aK ?_)));apply uJ mixed rfl rfl;intro wD6 sA6;have sU:=sA6 M1;replace Ao:=Ao.le sU.le;replace fR:=fR.le QZ sU.le;replace ho:=ho.bQ sU;replace hM:=sU.lt hM;have:=S.size;replace S:=S.av sU;refine ab G G (Rg.de (ab G G (Rg.de ?_)));obtain⟨y,sV⟩:∃y,(cT d.2 t.1)[i]? =some y:=⟨_,an q0⟩;refine cB aB I9 G G G Ao bU q0 (λu62 y' gD HA=>?_);rw[ar]at gD;obtain rfl:=aJ (sV.symm.trans gD);refine Rg.de ?_;refine bD az G G G G G HA bU (λv63 ua=>?_);obtain rfl:=dS ua;refine Rg.de ?_;refine ao (A:=RT.fd) (B:=RT.str) bI G G I9 QZ QO G G QZ fR bU (λu64 akA=>?_);refine Rg.de ?_;refine bD az G G G G G akA bU (λv65 akB=>?_);obtain rfl:=dS akB;refine Rg.de (Rg.sY G G G (Rg.de (fF ?_)));refine bF G (λc6=>?_) (λc6=>?_)
   ·refine aM (ab G G (ab G G ?_));refine fw (A:=RT.int .i64) (hn:=by decide) (M:=M1) ax I3 QZ G G hM (gJ q0) (.inr ⟨G,G⟩) (λabv ais ry vN=>?_);replace Ao:=Ao.le vN.le;replace fR:=fR.le QZ vN.le;replace ho:=ho.bQ vN;replace hM:=vN.lt hM;have:=S.size;replace S:=S.av vN;refine dF (M:=M1) (base:=w0.heap.size) ax I3 G G G G ho ry bU (by have:=qm ((cT d.2 t.1).take i) t.2;rw[bJ]at this;simp;omega) (by have:=qm ((cT d.2 t.1).take i) t.2;rw[bJ]at this;simp;omega) (S.size) (λaaY akC atQ acS Pg=>?_);replace Ao:=Ao.le Pg.le;replace fR:=fR.le QZ Pg.le;replace ry:=ry.le Pg.le;replace hM:=Pg.lt hM;have:=S.size;replace S:=S.dU Pg ho (bu _);replace ho:=acS;refine Rg.aZ G G (aM (ab G G (bC G G G q0 (Rg.aZ G G ?_))));refine⟨G,(i+1,aaY),a38,?_,?_⟩
    ·exact⟨akC,hM,S,by dsimp only;rw[vU sV,if_pos c6];exact ho,Ao,fR,by dsimp only;omega⟩
    ·dsimp only;omega
   ·refine aR (aM (ab G G (bC G G G q0 (Rg.aZ G G ?_))));refine⟨G,(i+1,u),a38,?_,?_⟩
    ·exact⟨M1,hM,S,by dsimp only;rw[vU sV,if_neg c6];exact ho,Ao,fR,by dsimp only;omega⟩
    ·dsimp only;omega
  ·refine cN (T.aP (ab G G (Rg.aZ G G (aI ?_))));rw[bm q0]at ho;exact aF G G ⟨ho.close gX S (by have:=qm (cT d.2 t.1) t.2;omega),S.back⟩
end Go.K
namespace Go.K
section
variable {P:Program} {r:Option Nat} {n:Nat} {L:Sl} {ds:List Deferred} {w:World} {K:Kt} {ops:Array Oper} {rest:List Oper} {d:Nat} {x y:Operand} {ty:TypeId} {pos:String} {af:Array Edge}
theorem lx {t:TypeId} (ht:P.underlying t=some .string) {cs:Array Value} {off:Nat} {v:Value} (hv:cs[off]? =some v):(part t cs off).run P w= .ok v w:=by
 have Gb:(isAgg t).run P w= .ok false w:=by
  unfold isAgg;rw[cj,run_underlying ht w];simp
 unfold part;rw[cj,Gb];simp[hv]
theorem Fl {t:TypeId} {f g:Field} {k:Nat} {xs ys:Array Value} {a b a' b':Value} {c e:Bool} (ht:P.underlying t=some (.struct #[f,g])) (hp:P.stoodInHeld t=false) (hn:f.name≠ "_") (Lr:g.name≠ "_")
  (p1:(part f.type xs f.offset).run P w= .ok a w) (p2:(part f.type ys f.offset).run P w= .ok b w) (p3:(part g.type xs g.offset).run P w= .ok a' w) (p4:(part g.type ys g.offset).run P w= .ok b' w)
  (h1:(Op.equalIn k f.type a b).run P w= .ok c w) (h2:(Op.equalIn k g.type a' b').run P w= .ok e w):(Op.equalIn (k+1) t (.agg xs) (.agg ys)).run P w= .ok (c&&e) w:=by
 have TO:P.fieldsOf t= #[f,g]:=by simp[Program.fieldsOf,ht]
 rw[run_equalIn_struct (P:=P) w k t xs ys (by rw[TO];exact ht) hp,TO];simp only[Op.eqFields,hn,Lr,ne_eq,not_false_eq_true,if_true,cj,p1,p2,p3,p4,h1,h2,cA]
 cases c
 ·simp
 ·simp only[Bool.not_true,Bool.false_eq_true,if_false,cj,p3,p4,h2,cA]
  cases e<;>simp
theorem Jf (a b:List UInt8):((⟨a.toArray⟩:ByteArray).toList==(⟨b.toArray⟩:ByteArray).toList)=decide (a=b):=by
 rw[ByteArray.toList_eq,ByteArray.toList_eq];show(a==b)=_;by_cases h:a=b
 ·subst h;simp
 ·simp[h]
end
open Go.Proofs
namespace TKTak15
theorem E78:Enters Tryz.prog 78:=enters Tryz.func78 rfl QZ
end TKTak15
open TKTak15
set_option maxRecDepth 10000
end Go.K
namespace Go.K
open Go.Proofs
namespace TKLive15
theorem I4:TI Tryz.prog 4 (.bool false) 1 1:=by unfold TI;kernel_rfl
end TKLive15
open TKLive15
set_option maxRecDepth 10000
def nd (l:List Bool):Array Value:=(l.map Value.bool).toArray
theorem zG {l:List Bool} {i:Nat} (h:i<l.length):∃b,(nd l)[i]? =some (.bool b):=by
 unfold nd;exact⟨l[i],by rw[gV,ei,an h];rfl⟩
theorem zH (l:List Bool) (i:Nat) (b:Bool):(nd l).setIfInBounds i (.bool b)=nd (l.set i b):=by
 unfold nd;simp[List.map_set]
theorem SM {M:aL} {w:World} {b:Nat} {e:TypeId} {l:List Bool} (h:w.heap[b]? =some (.cells (nd l) e (0,0))) (hb: ¬M b) (hl:l.length<=140737488355328):(RT.bool.sl).V M w l (.slice (some ⟨b,0,none⟩) l.length l.length):=
 iW.2 ⟨_,_,rfl,bu _,hl,.inr ⟨b,0,rfl,hb,λi x hx=>⟨[.bool x],rfl,λj v hj=>by
  cases j with
  |zero=>
   simp at hj;subst hj;refine iS h ?_;show(nd l)[0+i*1+0]? =_;unfold nd;rw[gV,ei,show 0+i*1+0=i by omega,hx];rfl
  |succ j=>simp at hj⟩⟩⟩
end Go.K
namespace Go.K
open Go.Proofs
namespace TKSet
theorem C1:TI Tryz.prog 126 (.slice none 0 0) 1 24:=by unfold TI;kernel_rfl
theorem akE:TI Tryz.prog 128 (.agg #[(.int .i64 0),(.slice none 0 0)]) 2 32:=by unfold TI;kernel_rfl
theorem uc:TI Tryz.prog 205 (.int .u64 0) 1 8:=by unfold TI;kernel_rfl
theorem akF:placesOf Tryz.prog 128=[(0,1),(1,1)].map some:=by kernel_rfl
theorem E61:Enters Tryz.prog 61:=enters Tryz.func61 rfl QZ
theorem E64:Enters Tryz.prog 64:=enters Tryz.func64 rfl QZ
theorem acT:Enters Tryz.prog 114:=enters Tryz.func114 rfl QZ
end TKSet
open TKSet
set_option maxRecDepth 10000
theorem AU {w0:World} {k m x:Nat} (tab:∃e fr,w0.heap[1]? =some (.cells (Gn.map fun(k:Nat)=>Value.int .u8 (k:Int)).toArray e fr)) (hx:x=2^k*(2*m+1)) (hl:x<2^64):
  Spec Tryz.prog 274 #[.int .u64 x] w0 (λv' w'=>v'= .int .i64 k/\w0=w'):=by
 obtain⟨et,ft,tab⟩:=tab;have hp:=Nat.two_pow_pos k;have xX:0<x:=by rw[hx];exact Nat.mul_pos hp q0
 have UG:2^k<=x:=by rw[hx];exact Nat.le_mul_of_pos_right _ q0
 have hk:k<64:=by
  rcases cI k 64 with h2|h2
  ·exact h2
  ·have:=xh (n:=2) QZ h2;omega
 obtain⟨hd1,hd2⟩:=VG k hk;have ny:((Gn.map fun(k:Nat)=>Value.int .u8 (k:Int)).toArray)[(2^k*285870213051353865)%2^64/2^58]? =some (.int .u8 (k:Int)):=by rw[gV,ei,hd2];rfl
 refine a7 (args:=[_]) (fn:=Tryz.f274) Tryz.func274 G (n:=14) Tryz.ntmps274 (T.aP (Rg.aZ G G (aK (T.aP (ab G G (fi G G G (ad (T.LJ G (q0) ?_))))))));refine aR (T.aP (ab rfl rfl (ab rfl rfl (Rg.agk rfl rfl (br (v':= .int .u64 ((2^64-x:Nat):Int)) (by rw[show(0:Int)-(x:Int)=((2^64-x:Nat):Int)-18446744073709551616 from by omega];simp[IntKind.wrap,IntKind.bits,IntKind.signed];omega) (Rg.and rfl rfl rfl (br (v':= .int .u64 ((2^k:Nat):Int)) (by rw[Gm x (2^64-x) hl q0,hx,Rp q0]) (Rg.afR rfl rfl rfl (br (v':= .int .u64 (((2^k*285870213051353865)%2^64:Nat):Int)) (congrArg _ (by rw[show((2^k:Nat):Int)*285870213051353865=((2^k*285870213051353865:Nat):Int)from by rw[Int.natCast_mul];rfl];exact Cm _)) (Rg.shr G G G QZ ?_))))))))));refine br (v':= .int .u64 (((2^k*285870213051353865)%2^64/2^58:Nat):Int)) (congrArg _ (VH _ 58 QZ)) (Rg.VF (len:=64) Tryz.underlying389 I5 G G G q0 (aN (v:= .int .u8 (k:Int)) cU rfl rfl rfl tab (by rw[ar];exact ny) (Rg.uO cU ak G G q0 (Rg.aZ G G (aI ?_)))));exact ak2
theorem Jg {M:aL} {w0:World} {n:Nat} {ws:List Nat} {bs bw:Nat} (h:ju 128 205 n ws M w0 bs bw) {i:Int}:
  Spec Tryz.prog 114 #[.pointer (some ⟨bs,0,none⟩),.int .i64 i] w0 (λv' w'=>v'= .bool (decide (0<=i/\i<n))/\w0=w'):=by
 have hS:=h.s;have hW:=h.w;have hlen:=h.len;have fY:=h.ok;have TD:=h.nn;refine a7 (args:=[_,_]) (fn:=Tryz.f114) Tryz.func114 G (n:=15) Tryz.ntmps114 (T.aP (Rg.aZ G G (T.aP (ab G G (ek G G G (ab G G ?_))))));refine aO (g:=7) G (λiw=>?_) (λiw=>?_)
 ·refine ae G G (ab G G (ae G G (ab G G (ae G G (a8 G ⟨_,G⟩ G (ae G G (aY fH G G I3 QZ G G (ae G G (aN ak G G G U3 G (ae G G (cy G G G ?_)))))))))));refine aU G G G (Rg.aZ G G (aI ?_))
  first
  |exact a71
  |exact a69
 ·refine aj G G G G (aj G G G G (aj G G G G (aj G G G G (aj G G G G (aj G G G G (aA G G G (Rg.aZ G G (aI ?_))))))))
  first
  |exact a71
  |exact a69
theorem Ph {M:aL} {w0:World} {n:Nat} {ws:List Nat} {bs bw:Nat} (h:ju 128 205 n ws M w0 bs bw) {i:Int}:
  Spec Tryz.prog 64 #[.pointer (some ⟨bs,0,none⟩),.int .i64 i] w0 (λv' w'=>v'= .bool (TT n ws i)/\w0=w'):=by
 have hS:=h.s;have hW:=h.w;have hlen:=h.len;have fY:=h.ok;have TD:=h.nn;refine a7 (args:=[_,_]) (fn:=Tryz.f64) Tryz.func64 G (n:=23) Tryz.ntmps64 (T.aP (Rg.aZ G G (T.aP (ab G G (ab G G ?_)))));refine aQ G G acT (Jg h) (λr wc h=>?_);obtain⟨rfl,rfl⟩:=h;refine ab G G ?_;refine aO (g:=8) G (λiY=>?_) (λiY=>?_)
 ·obtain⟨j,rfl⟩:∃j:Nat,i=j:=⟨i.toNat,by omega⟩;refine ae G G (ab G G (ae G G (a8 G ⟨_,G⟩ G (ae G G (aY fH G G C1 QZ G G (ae G G (aN dK G G G U3 G (ae G G (ab G G (ae G G (Rg.xZ G G G q0 ?_)))))))))));refine ae G G (Rg.yu dK uc G G G q0 (ae rfl rfl (aN rI rfl rfl rfl hW (v:= .int .u64 ((ws.getD (j/64) 0:Nat):Int)) (by rw[show(((j:Int)/64)).toNat=j/64 from by omega];exact je q0) (ae G G (ab G G (ae G G (Rg.x7 G G G q0 (ae G G (Rg.shr G G G q0 (br (v':= .int .u64 ((ws.getD (j/64) 0/2^(j%64):Nat):Int)) (congrArg _ (by rw[show((j:Int)%64)=((j%64:Nat):Int)from by omega];exact VH _ _ q0)) (ae G G ?_)))))))))));refine Rg.and G G G (br (v':= .int .u64 ((ws.getD (j/64) 0/2^(j%64)%2:Nat):Int)) (congrArg _ (by have:=Gm (ws.getD (j/64) 0/2^(j%64)) 1 (Nat.lt_of_le_of_lt (Nat.div_le_self _ _) (fY.get _)) QZ;rw[Nat.and_one_is_mod]at this;exact this)) (ae G G (fi G G G (aU G G G (Rg.aZ G G (aI ?_))))))
  first
  |exact aF G G ⟨congrArg Value.bool af8,G⟩
  |exact aF G G ⟨congrArg Value.bool (by unfold TT;rw[decide_eq_false iY,eP]),rfl⟩
 ·refine aj G G G G (aj G G G G (aj G G G G (aj G G G G (aj G G G G (aj G G G G (aj G G G G (aj G G G G (aj G G G G (aj G G G G (aj G G G G (aj G G G G ?_)))))))))));refine aj G G G G (aA G G G (Rg.aZ G G (aI ?_)))
  first
  |exact aF G G ⟨congrArg Value.bool af8,G⟩
  |exact aF G G ⟨congrArg Value.bool (by unfold TT;rw[decide_eq_false iY,eP]),rfl⟩
theorem Pj {M:aL} {w0:World} {n:Nat} {ws:List Nat} {bs bw:Nat} (h:ju 128 205 n ws M w0 bs bw) {i:Int} (hb:∀j,bit ws j=true->j<n):
  Spec Tryz.prog 61 #[.pointer (some ⟨bs,0,none⟩),.int .i64 i,.bool true] w0 (λv' w'=>∃xH,ju 128 205 n xH M w' bs bw/\(∀j:Nat,bit xH j=(bit ws j&&decide ((j:Int)≠i)))/\Step M w0 M w' (λb=>b=bw)):=by
 have hS:=h.s;have hW:=h.w;have hlen:=h.len;have fY:=h.ok;have TD:=h.nn;have hmw:∀b:Nat,b=bw->M b:=λb hb=>by rw[hb];exact h.mw
 refine a7 (args:=[_,_,_]) (fn:=Tryz.f61) Tryz.func61 G (n:=31) Tryz.ntmps61 (T.aP (Rg.aZ G G (aK (T.aP (ab G G (ab G G ?_))))));refine aQ G G acT (Jg h) (λr wc h=>?_);obtain⟨rfl,rfl⟩:=h;refine ib G G (br (v':= .bool (decide (¬(0<=i/\i<n)))) (by rw[decide_not]) (ab G G ?_));refine aO (g:=11) G (λSx=>?_) (λSx=>?_)
 ·refine aj G G G G (aj G G G G (aj G G G G (aj G G G G (aj G G G G (aU G G G (ad (kA G (T.aP (Rg.aZ G G ?_)))))))));refine aI ?_
  have Lo:bit ws i.toNat=false\/i<0:=by
   by_cases h0:i<0
   ·exact .inr h0
   ·left
    cases VU:bit ws i.toNat with
    |false=>rfl
    |true=>
     have:=hb _ VU
     first
     |omega
     |(exfalso;apply c1;unfold TT;rw[VU,decide_eq_true q0];rfl)
  refine aF G G ⟨ws,h,λj=>?_,(aW).ew a18 hmw⟩;by_cases hj:(j:Int)=i
  ·rw[decide_eq_false (λh=>h hj),Bool.and_false];rcases Lo with h1|h1
   ·rw[show i.toNat=j from by omega]at h1;exact h1
   ·omega
  ·rw[decide_eq_true hj,ly]
 ·refine ae G G (ab G G (ae G G (ab G G (ae G G ?_))));refine aQ G G E64 (Ph h) (λr wc h=>?_);obtain⟨rfl,rfl⟩:=h;refine ae G G (ab G G (ae G G (Rg.bne jK G G G (aA G G G (ad ?_)))));refine bF G (λc1=>?_) (λc1=>?_)
  ·refine T.aP (Rg.aZ G G (aI ?_))
   have Lo:bit ws i.toNat=false\/i<0:=by
    by_cases h0:i<0
    ·exact .inr h0
    ·left
     cases VU:bit ws i.toNat with
     |false=>rfl
     |true=>
      have:=hb _ VU
      first
      |omega
      |(exfalso;apply c1;unfold TT;rw[VU,decide_eq_true q0];rfl)
   refine aF G G ⟨ws,h,λj=>?_,(aW).ew a18 hmw⟩;by_cases hj:(j:Int)=i
   ·rw[decide_eq_false (λh=>h hj),Bool.and_false];rcases Lo with h1|h1
    ·rw[show i.toNat=j from by omega]at h1;exact h1
    ·omega
   ·rw[decide_eq_true hj,ly]
  ·refine aR (aK ?_);obtain⟨j,rfl⟩:∃j:Nat,i=j:=⟨i.toNat,by omega⟩;apply T.qZ (M:=M) mixed [] [cp.eq _,cp.eq _,cp.eq _,cp.eq (.slice (some ⟨bw,0,none⟩) ws.length ws.length),cp.eq _,cp.eq _,cp.eq (.pointer (some ⟨bw,((j:Int)/64).toNat,none⟩)),cp.eq (.int .u64 ((ws.getD (j/64) 0:Nat):Int)),cp.eq _,cp.eq _,cp.eq (.int .u64 ((2^(j%64):Nat):Int)),cp.eq (.int .u64 (((ws.getD (j/64) 0^^^2^(j%64)):Nat):Int)),cp.eq (.pointer (some ⟨bw,((j:Int)/64).toNat,none⟩))] 13
   ·rfl
   ·rfl
   ·rfl
   ·rfl
   ·rfl
   ·exact a89
   ·exact qH
   ·refine ay ?_ ?_
    ·intro wD E sD;refine ab G G ?_;exact a01
    refine ay ?_ ?_
    ·intro wD E sD;refine aw (a8 G ⟨_,G⟩ G ?_);exact a01
    refine ay ?_ ?_
    ·intro wD E sD;refine aw (aY fH G G C1 QZ G G ?_);exact a01
    refine ay ?_ ?_
    ·intro wD E sD;refine aw (aN dK G G G (cg sD U3) G ?_);exact a01
    refine ay ?_ ?_
    ·intro wD E sD;refine ab G G ?_;exact a01
    refine ay ?_ ?_
    ·intro wD E sD;refine aw (Rg.xZ G G G q0 ?_);exact a01
    refine ay ?_ ?_
    ·intro wD E sD;refine aw (aw (Rg.yu dK uc G G G q0 ?_));exact a01
    refine ay ?_ ?_
    ·intro wD E sD;refine aw (aN rI rfl rfl rfl (sD.aE hW) (v:= .int .u64 ((ws.getD (j/64) 0:Nat):Int)) (by rw[show(((j:Int)/64)).toNat=j/64 from by omega];exact je q0) ?_);exact a01
    refine ay ?_ ?_
    ·intro wD E sD;refine ab G G ?_;exact a01
    refine ay ?_ ?_
    ·intro wD E sD;refine aw (Rg.x7 G G G q0 ?_);exact a01
    refine ay ?_ ?_
    ·intro wD E sD;refine aw (Rg.shl G G G q0 (br (v':= .int .u64 ((2^(j%64):Nat):Int)) (congrArg _ (by rw[show((j:Int)%64)=((j%64:Nat):Int)from by omega];exact Z4 _ q0)) ?_));exact a01
    refine ay ?_ ?_
    ·intro wD E sD;refine aw (aw (Rg.xor G G G (br (v':= .int .u64 (((ws.getD (j/64) 0^^^2^(j%64)):Nat):Int)) (congrArg _ (Z3 _ _ (fY.get _) (Nat.pow_lt_pow_right QZ q0))) ?_)));exact a01
    refine ay ?_ ?_
    ·intro wD E sD;refine aw (aw (aw (aw (aw (aw (aw (aw (aw (aw (aw (aw ?_)))))))))));refine aw (aw (Rg.yu dK uc G G G q0 ?_));exact a01
    exact j0
   ·intro wD3 pq;refine aw (aw (aw (aw (aw (aw (aw (aw (aw (aw (aw (aw ?_)))))))))));refine aw ?_;refine cn (M:=M) (u:= .int .u64 ((ws.getD (j/64) 0:Nat):Int)) uc rfl rfl (pq.aE hW) (by rw[show((j:Int)/64).toNat=j/64 from by omega];exact je q0) G h.mw (λw5 hW5 s5=>?_);rw[show((j:Int)/64).toNat=j/64 from by omega,rY]at hW5;refine ad (T.aP (Rg.aZ G G (aI ?_)));have hX:(ws.getD (j/64) 0^^^2^(j%64))<2^64:=Nat.xor_lt_two_pow (fY.get _) (Nat.pow_lt_pow_right QZ q0);refine aF G G ⟨ws.set (j/64) (ws.getD (j/64) 0^^^2^(j%64)),(h.step pq (λh=>h) (λh=>h)).put s5 (by simp) hW5 (fY.set hX),λt=>?_,(pq.ew a18 hmw).trans s5 (λ_ _ h=>h)⟩
    have akH:bit ws j=true:=by
     have:=cG.1 c1;unfold TT at this;rw[ar,cr]at this;exact this.2
    rw[Mr fY q0];by_cases ht:t=j
    ·subst ht;rw[akH];simp
    ·rw[decide_eq_false ht,Bool.xor_false,decide_eq_true q0,ly]
theorem Pk {M:aL} {w0:World} {n:Nat} {ws:List Nat} {bs bw:Nat} (h:ju 128 205 n ws M w0 bs bw) {i:Int} (hb:∀j,bit ws j=true->j<n):
  Spec Tryz.prog 119 #[.pointer (some ⟨bs,0,none⟩),.int .i64 i] w0 (λv' w'=>∃xH,ju 128 205 n xH M w' bs bw/\(∀j:Nat,bit xH j=(bit ws j&&decide ((j:Int)≠i)))/\Step M w0 M w' (λb=>b=bw)):=by
 refine a7 (args:=[_,_]) (fn:=Tryz.f119) Tryz.func119 G (n:=8) Tryz.ntmps119 (T.aP (Rg.aZ G G (T.aP (ab G G (ab G G ?_)))));refine aQ G G E61 (Pj h hb) (λr1 w1 h=>?_);obtain⟨xH,h1,h2,h3⟩:=h;refine Rg.aZ G G (aI ?_);exact aF G G ⟨xH,h1,h2,h3⟩
theorem BN {M:aL} {w0:World} {n:Nat} (hn:n<=1099511627776):
  Spec Tryz.prog 20 #[.int .i64 n] w0 (λv' w'=>∃bs bw,v'= .pointer (some ⟨bs,0,none⟩)/\w0.heap.size<=bs/\w0.heap.size<=bw/\Step M w0 (ins (ins M bw) bs) w' aD/\ju 128 205 n (List.replicate ((n+63)/64) 0) (ins (ins M bw) bs) w' bs bw):=by
 refine a7 (args:=[_]) (fn:=Tryz.f20) Tryz.func20 G (n:=13) Tryz.ntmps20 (T.aP (Rg.aZ G G (T.aP (ab G G (Rg.max2 G G G (br (v':= .int .i64 n) (congrArg _ q0) (Rg.aZ G G ?_)))))));refine T.aP (ab G G (ab G G (bC G G G q0 (jB G G G q0 (Rg.xZ G G G q0 (br (v':= .int .i64 (((n+63)/64:Nat):Int)) (congrArg _ q0) ?_))))));refine Rg.mk0 M dK uc G G G G q0 q0 (λbw w1 z1 z1' h1 s1=>?_);refine dN (places:=[(0,1),(1,1)]) fH akE akF rfl ⟨_,_,rfl,rfl,_,_,rfl,rfl,rfl⟩ (out:=[_,_]) ⟨0,[_],rfl,rfl,by simp[Value.cells],1,[_],rfl,rfl,by simp[Value.cells],rfl⟩ ?_;refine np (ins M bw) G G (λbs w2 z2 z2' h2 s2=>?_);have y1:=s1.size;refine Rg.aZ G G (aI ?_);refine aF rfl rfl ⟨bs,bw,rfl,by omega,z1,s1.av s2,.inl rfl,.inr (.inl rfl),by omega,by rw[List.length_replicate];exact h2,?_,by simp,λx hx=>by rw[List.eq_of_mem_replicate hx];decide,hn⟩;have:=s2.aE h1;rw[this];simp[pX]
end Go.K
namespace Go.K
open Go.Proofs
namespace TKSet3
theorem C1:TI Tryz.prog 126 (.slice none 0 0) 1 24:=by unfold TI;kernel_rfl
theorem uc:TI Tryz.prog 205 (.int .u64 0) 1 8:=by unfold TI;kernel_rfl
theorem acV:Enters Tryz.prog 227:=enters Tryz.func227 rfl QZ
theorem akJ:Enters Tryz.prog 274:=enters Tryz.func274 rfl QZ
end TKSet3
open TKSet3
set_option maxRecDepth 10000
theorem zI {M:aL} {w0:World} {n:Nat} {ws:List Nat} {bs bw:Nat} (h:ju 128 205 n ws M w0 bs bw) {i:Int} (hi: -1<=i/\i<=1099511627776) (hb:∀j,bit ws j=true->j<n) (tab:∃e fr,w0.heap[1]? =some (.cells (Gn.map fun(k:Nat)=>Value.int .u8 (k:Int)).toArray e fr)):
  Spec Tryz.prog 227 #[.pointer (some ⟨bs,0,none⟩),.int .i64 i] w0 (λv' w'=>(∃r,v'= .int .i64 r/\TU ws i.toNat r/\ -1<=r/\r<=1099511627776)/\w0=w'):=by
 have hS:=h.s;have hW:=h.w;have hlen:=h.len;have fY:=h.ok;have TD:=h.nn;refine a7 (args:=[_,_]) (fn:=Tryz.f227) Tryz.func227 G (n:=36) Tryz.ntmps227 (T.aP (Rg.aZ G G (T.aP (ab G G (Rg.max2 G G G (br (v':= .int .i64 (i.toNat:Int)) (congrArg _ q0) (Rg.aZ G G ?_)))))));refine aK (aX ?_);refine cY (σ:=Nat) (λs=>[(0,.pointer (some ⟨bs,0,none⟩)),(1,.int .i64 s)]) (λs w=>w0=w/\i.toNat<=s/\(∀t,i.toNat<=t->t<s->bit ws t=false)/\s<=1099511627840) (λs=>n+64-s) i.toNat a68 ?_ ?_
 ·exact⟨G,bu _,λt h1 h2=>by omega,by omega⟩
 ·rintro p w1 ⟨rfl,hp,jz,rM⟩;refine aK (T.aP (ab G G (ab G G (a8 G ⟨_,G⟩ G (aY fH G G I3 QZ G G (aN ak G G G U3 G (cy G G G (ad ?_))))))));refine bF G (λc2=>?_) (λc2=>?_)
  ·refine aR (aX (aK (T.aP (ab G G (a8 G ⟨_,G⟩ G (aY fH G G C1 QZ G G (aN dK G G G U3 G (ab G G (Rg.xZ G G G q0 (Rg.yu dK uc G G G q0 ?_))))))))));refine aN rI rfl rfl rfl hW (v:= .int .u64 ((ws.getD (p/64) 0:Nat):Int)) (by rw[show(((p:Int)/64)).toNat=p/64 from by omega];exact je q0) (ab G G (Rg.x7 G G G q0 (Rg.shr G G G q0 (br (v':= .int .u64 ((ws.getD (p/64) 0/2^(p%64):Nat):Int)) (congrArg _ (by rw[show((p:Int)%64)=((p%64:Nat):Int)from by omega];exact VH _ _ q0)) (Rg.aZ G G (T.aP (ab G G (eV G G G (ad ?_)))))))));refine bF G (λc4=>?_) (λc4=>?_)
   ·refine T.aP (ab G G (ab G G ?_));obtain⟨k,m,Gh⟩:=Ms (ws.getD (p/64) 0/2^(p%64)) (Nat.pos_of_ne_zero λh=>c4 (by rw[h];rfl));have Ca:=DR (fY.get _) (show p%64<64 by omega) Gh;have akK:ws.getD (p/64) 0/2^(p%64)<2^64:=Nat.lt_of_le_of_lt (Nat.div_le_self _ _) (fY.get _);refine aQ G G akJ (AU (k:=k) (m:=m) tab Gh akK) (λr wc h=>?_);obtain⟨rfl,rfl⟩:=h;refine bC G G G q0 (Rg.aZ G G (aI ?_));have hlb:=λt ht=>(Cl (k:=k) (m:=m)).2 t ht
    have hbk:bit ws (p+k)=true:=by rw[yv Ca,Gh];exact Cl.1
    have:=hb _ hbk
    exact aF G G ⟨⟨_,G,.inl ⟨p+k,by omega,by omega,hbk,λt h1 h2=>by
     rcases cI t p with h|h
     ·exact jz t h1 h
     ·have h3:=yv (ws:=ws) (i:=p) (t:=t-p) q0;rw[show p+(t-p)=t from by omega]at h3;rw[h3,Gh];exact hlb _ q0⟩,by omega,by omega⟩,rfl⟩
   ·have hz0:ws.getD (p/64) 0/2^(p%64)=0:=by
     have:=cG.1 c4;exact Int.ofNat.inj this
    refine aR (aM (ab G G (ab G G (Rg.x7 G G G q0 (jB G G G q0 (bC G G G q0 (Rg.aZ G G ?_)))))));refine⟨rfl,p+(64-p%64),(.cons rfl (.cons (by rw[show((p+(64-p%64):Nat):Int)=(p:Int)+(64-(p:Int)%64)from by omega];rfl) .nil)),?_,?_⟩
    ·refine⟨G,by omega,λt h1 h2=>?_,by omega⟩;rcases cI t p with h|h
     ·exact jz t h1 h
     ·have h3:=yv (ws:=ws) (i:=p) (t:=t-p) q0;rw[show p+(t-p)=t from by omega]at h3;rw[h3,hz0];simp
    ·show n+64-(p+(64-p%64))<n+64-p;omega
  ·refine cN (T.aP (Rg.aZ G G (aI ?_)))
   exact aF G G ⟨⟨_,G,.inr ⟨G,λt h1=>by
    rcases cI t p with h|h
    ·exact jz t h1 h
    ·cases OR:bit ws t with
     |false=>rfl
     |true=>have:=hb t OR;omega⟩,by omega,by omega⟩,rfl⟩
theorem KJ {M:aL} {w0:World} {bs:Nat} (hM:Lt M w0):
  Spec Tryz.prog 168 #[.pointer (some ⟨bs,0,none⟩)] w0 (λv' w'=>∃bl,v'= .func (.func 226) #[] #[.pointer (some ⟨bl,0,none⟩)]/\w'.heap[bl]? =some (.cells #[.pointer (some ⟨bs,0,none⟩)] 49 (0,0))/\w0.heap.size<=bl/\Step M w0 M w' aD):=by
 refine a7 (args:=[_]) (fn:=Tryz.f168) Tryz.func168 G (n:=4) Tryz.ntmps168 (T.aP ?_);refine np M G G (λbl w1 h1 Rj hS s1=>?_);change w1.heap[bl]? =some (.cells #[.pointer (some ⟨bs,0,none⟩)] _ _)at hS;refine Rg.aZ G G (T.aP (jj (xs:=[]) (ys:=[.tmp 1]) G G G (Rg.aZ G G (aI ?_))));exact aF G G ⟨bl,G,hS,h1,s1.back⟩
theorem HB {w0:World} {n:Nat} {ws:List Nat} {bs bw bl yl:Nat} {J:Nat->aL->World->Prop} {M:aL} {Jx:World->Prop} (hb:∀j,bit ws j=true->j<n) (Sm:∀p M w,J p M w->w.heap[bl]? =some (.cells #[.pointer (some ⟨bs,0,none⟩)] 49 (0,0))/\ju 128 205 n ws M w bs bw/\(∃e fr,w.heap[1]? =some (.cells (Gn.map fun(k:Nat)=>Value.int .u8 (k:Int)).toArray e fr))) (hy:∀(p j:Nat) (M:aL) (w:World),J p M w->p<=j->bit ws j=true->(∀t,p<=t->t<j->bit ws t=false)->yh Tryz.prog yl [.int .i64 j].toArray w (λr w'=>∃c,r= .bool c/\(c=true->∃M',J (j+1) M' w')/\(c=false->Jx w'))) (h0:J 0 M w0):
  Spec Tryz.prog 226 #[.func (.yield yl) #[] #[],.pointer (some ⟨bl,0,none⟩)] w0 (λ_ w'=>(∃p M',J p M' w'∧∀t,p<=t->bit ws t=false)\/Jx w'):=by
 obtain⟨Sf,Wf,akL⟩:=Sm _ _ _ h0;refine a7 (args:=[_,_]) (fn:=Tryz.f226) Tryz.func226 G (n:=17) Tryz.ntmps226 (T.aP (aN Tryz.underlying49 G G G U3 G ?_));refine aQ G G acV (zI Wf (i:=0) q0 hb akL) (λr wc h=>?_);obtain⟨⟨r,rfl,hr,Zk,Ao⟩,rfl⟩:=h;refine Rg.aZ G G (aX ?_);refine cY (σ:=Nat×Int) (λs=>[(0,.func (.yield yl) #[] #[]),(1,.pointer (some ⟨bl,0,none⟩)),(3,.int .i64 s.2)]) (λs w=>(∃M1,J s.1 M1 w)/\TU ws s.1 s.2/\ -1<=s.2/\s.2<=1099511627776/\s.1<=n) (λs=>n+1-s.1) (0,r) a00 ?_ ?_
 ·exact⟨⟨M,h0⟩,hr,Zk,Ao,bp _⟩
 ·clear hr Zk Ao;rintro⟨p,r⟩ w1 ⟨⟨M1,hJ⟩,hr,Zk,Ao,SD⟩;dsimp only at hJ hr Zk Ao SD ⊢;refine aK (T.aP (ab G G (ek G G G (ab G G ?_))));refine aO (g:=8) G (λiw=>?_) (λiw=>?_)
  ·refine ae G G (ab G G (ae G G (ab G G (ae G G ?_))))
   have hrj:∃j:Nat,r=j/\p<=j/\bit ws j=true/\∀t,p<=t->t<j->bit ws t=false:=by
    rcases hr with h|h
    ·exact h
    ·omega
   obtain⟨j,rfl,hpj,HC,jz⟩:=hrj;have hjn:=hb j HC;refine Rg.yield G (vs:=[.int .i64 j]) G G (hy p j M1 _ hJ hpj HC jz) (λr4 w5 h5=>?_);obtain⟨c,rfl,hc5,SL⟩:=h5;refine br (v':= .bool (decide (c=true))) (by simp) (aU G G G (ad ?_));refine bF G (λc1=>?_) (λc1=>?_)
   ·obtain⟨M2,hJ2⟩:=hc5 c1;obtain⟨F4,mW,akN⟩:=Sm _ _ _ hJ2;refine aR (aK (aX (aR (aM (aN Tryz.underlying49 G G G U3 G (ab G G (bC G G G q0 ?_)))))));refine aQ G G acV (zI mW (i:=(j:Int)+1) (by have:=mW.nn;omega) hb akN) (λr wc h=>?_);obtain⟨⟨r2,rfl,acY,hr3,hr4⟩,rfl⟩:=h;refine Rg.aZ G G ?_;refine⟨G,(j+1,r2),a00,?_,?_⟩
    ·refine⟨⟨M2,hJ2⟩,?_,hr3,hr4,by simp only;omega⟩;rw[show((j:Int)+1).toNat=j+1 from by omega]at acY;exact acY
    ·simp only;omega
   ·refine cN ?_;change xj Tryz.prog Tryz.f226 (λ_ w'=>(∃p M',J p M' w'∧∀t,p<=t->bit ws t=false)\/Jx w') .normal _ [] _
    first
    |exact j4 G (.inr (SL (by simpa using c1)))
    |(have tc:∀t,p<=t->bit ws t=false:=by
       rcases hr with⟨j,h,_⟩|h
       ·omega
       ·exact h.2
      exact j4 G (.inl ⟨p,M1,hJ,tc⟩))
  ·refine aj G G G G (aj G G G G (aj G G G G (aA G G G (ad (jJ G (cN ?_))))));change xj Tryz.prog Tryz.f226 (λ_ w'=>(∃p M',J p M' w'∧∀t,p<=t->bit ws t=false)\/Jx w') .normal _ [] _
   first
   |exact j4 G (.inr (SL (by simpa using c1)))
   |(have tc:∀t,p<=t->bit ws t=false:=by
      rcases hr with⟨j,h,_⟩|h
      ·omega
      ·exact h.2
     exact j4 G (.inl ⟨p,M1,hJ,tc⟩))
end Go.K
namespace Go.K
open Go.Proofs
namespace TKSet2
theorem C1:TI Tryz.prog 126 (.slice none 0 0) 1 24:=by unfold TI;kernel_rfl
theorem uc:TI Tryz.prog 205 (.int .u64 0) 1 8:=by unfold TI;kernel_rfl
theorem E20:Enters Tryz.prog 20:=enters Tryz.func20 rfl QZ
theorem akO:Enters Tryz.prog 174:=enters Tryz.func174 rfl QZ
end TKSet2
open TKSet2
set_option maxRecDepth 10000
theorem BO {ws vs:List Nat} {n:Nat} (hl:ws.length=(n+63)/64) (hv:vs.length=(n+63)/64) (hr:0<n%64) (h1:∀j,j<64*ws.length->bit vs j= !bit ws j) (j:Nat):bit (vs.set (vs.length-1) (vs.getD (vs.length-1) 0%2^(n%64))) j=(decide (j<n)&& !bit ws j):=by
 rw[Co _ q0];by_cases hj:j/64=vs.length-1
 ·rw[if_pos hj,Nat.testBit_mod_two_pow];have h2:=h1 j q0;have h3:(vs.getD (vs.length-1) 0).testBit (j%64)=bit vs j:=by unfold bit;rw[hj]
  rw[h3,h2];congr 1;exact decide_eq_decide.2 q0
 ·rw[if_neg hj];by_cases wz:j<n
  ·rw[h1 j q0,decide_eq_true wz,dr]
  ·rw[decide_eq_false wz,eP,Rq q0]
theorem Fm {ws vs:List Nat} {n:Nat} (hl:ws.length=(n+63)/64) (hr:n%64=0) (h1:∀j,j<64*ws.length->bit vs j= !bit ws j) (h2:∀j,64*ws.length<=j->bit vs j=false) (j:Nat):bit vs j=(decide (j<n)&& !bit ws j):=by
 by_cases wz:j<n
 ·rw[h1 j q0,decide_eq_true wz,dr]
 ·rw[decide_eq_false wz,eP,h2 j q0]
theorem KK {M:aL} {w0:World} {n:Nat} {ws:List Nat} {bs bw:Nat} (h:ju 128 205 n ws M w0 bs bw):
  Spec Tryz.prog 174 #[.pointer (some ⟨bs,0,none⟩)] w0 (λv' w'=>∃os ow xH,v'= .pointer (some ⟨os,0,none⟩)/\w0.heap.size<=os/\w0.heap.size<=ow/\Step M w0 (ins (ins M ow) os) w' aD/\ju 128 205 n xH (ins (ins M ow) os) w' os ow/\∀j,bit xH j=(decide (j<n)&& !bit ws j)):=by
 have hS:=h.s;have hW:=h.w;have hlen:=h.len;have fY:=h.ok;have TD:=h.nn;refine a7 (args:=[_]) (fn:=Tryz.f174) Tryz.func174 G (n:=56) Tryz.ntmps174 (T.aP (Rg.aZ G G (T.aP (ab G G (a8 G ⟨_,G⟩ G (aY fH G G I3 QZ G G (aN ak G G G U3 G ?_)))))));refine aQ G G E20 (BN (M:=M) TD) (λr1 w1 h=>?_);obtain⟨os,ow,rfl,z1,z2,s1,hO1⟩:=h;obtain⟨M1,AS⟩:∃M1,M1=ins (ins M ow) os:=⟨_,rfl⟩;rw[<-AS]at s1 hO1;have h1:=h.step s1 (λh=>h) (λh=>h);have hS1:=h1.s;have lbs:=ah hS;have lbw:=ah hW;refine Rg.aZ G G (aK (T.aP (ab G G (a8 G ⟨_,G⟩ G (aY fH G G C1 QZ G G (aN dK G G G U3 G (Rg.Cn dK G G (ab G G (ad ?_)))))))));refine aX ?_;refine cY (σ:=Nat×List Nat) (λs=>[(0,.pointer (some ⟨bs,0,none⟩)),(3,.pointer (some ⟨os,0,none⟩)),(15,.slice (some ⟨bw,0,none⟩) ws.length ws.length),(16,.int .i64 ws.length),(17,.int .i64 s.1)]) (λs w=>s.1<=ws.length/\ju 128 205 n ws M1 w bs bw/\ju 128 205 n s.2 M1 w os ow/\(∀j,j<64*s.1->bit s.2 j= !bit ws j)/\(∀j,64*s.1<=j->bit s.2 j=false)/\Step M1 w1 M1 w (λb=>b=ow)) (λs=>ws.length-s.1) (0,List.replicate ((n+63)/64) 0) a05 ?_ ?_
 ·exact⟨bp _,h1,hO1,λj hj=>by omega,λj hj=>DQ _ _,(aW).ew a18 (λb hb=>by rw[hb];exact hO1.mw)⟩
 ·rintro⟨k,vs⟩ w2 ⟨hk,h2,C2,vB,Dt,S2⟩;dsimp only at hk C2 vB Dt ⊢;have hS2:=h2.s;have hOS:=C2.s;have k7:=C2.len;refine T.aP (cy G G G (ad (aK ?_)));refine bF G (λc3=>?_) (λc3=>?_)
  ·refine aR (aK (aX (T.aP (ab G G (Rg.yu dK uc G G G q0 (aN rI rfl rfl rfl h2.w (v:= .int .u64 ((ws.getD (k) 0:Nat):Int)) (by rw[show((k:Int)).toNat=k from by omega];exact je q0) (aG G G (Rg.aZ G G (aM ?_)))))))));refine ab G G (a8 G ⟨_,G⟩ G (aY fH G G C1 QZ G G (aN dK G G G U3 G (ab G G (ab G G (Rg.Z2 G G (fY.get _) (Rg.yu dK uc G G G q0 ?_)))))));refine cn (M:=M1) (u:= .int .u64 ((vs.getD k 0:Nat):Int)) uc rfl rfl C2.w (by rw[ar];exact je q0) G C2.mw (λw5 hW5 s5=>?_);rw[ar,rY]at hW5;refine ad (aM (bC G G G q0 (ab G G (ad ?_))));refine⟨G,(k+1,vs.set k (2^64-1-ws.getD k 0)),a05,?_,?_⟩
   ·refine⟨by simp only;omega,h2.step s5 q0 q0,C2.put s5 (by simp) hW5 (C2.ok.set q0),λj hj=>?_,λj hj=>?_,S2.trans s5 (λ_ _ h=>h)⟩
    ·simp only at hj ⊢;rw[Co _ q0];by_cases Zi:j/64=k
     ·rw[if_pos Zi,Mu (fY.get _) q0];unfold bit;rw[Zi]
     ·rw[if_neg Zi];exact vB j q0
    ·simp only at hj ⊢;rw[Co _ q0,if_neg q0];exact Dt j q0
   ·simp only;omega
  ·refine cN (aK (T.aP (ab G G (a8 G ⟨_,G⟩ G (aY fH G G I3 QZ G G (aN ak G G G U3 G (Rg.x7 G G G q0 (br (v':= .int .i64 ((n%64:Nat):Int)) (congrArg _ q0) (Rg.aZ G G ?_)))))))));refine T.aP (ab G G (eN G G G (ad ?_)));refine bF G (λc8=>?_) (λc8=>?_)
   ·have Y3:=Nat.two_pow_pos (n%64);have hp3:2^(n%64)<2^64:=Nat.pow_lt_pow_right QZ q0;apply T.qZ (M:=M1) mixed [] [cp.eq _,cp.eq _,cp.eq _,cp.eq (.slice (some ⟨ow,0,none⟩) vs.length vs.length),cp.eq _,cp.eq _,cp.eq _,cp.eq (.slice (some ⟨ow,0,none⟩) vs.length vs.length),cp.eq (.int .i64 vs.length),cp.eq (.int .i64 ((vs.length-1:Nat):Int)),cp.eq (.pointer (some ⟨ow,((vs.length-1:Nat):Int).toNat,none⟩)),cp.eq (.int .u64 ((vs.getD (vs.length-1) 0:Nat):Int)),cp.eq _,cp.eq (.int .u64 ((2^(n%64):Nat):Int)),cp.eq (.int .u64 ((2^(n%64)-1:Nat):Int)),cp.eq (.int .u64 (((vs.getD (vs.length-1) 0%2^(n%64)):Nat):Int)),cp.eq (.pointer (some ⟨ow,((vs.length-1:Nat):Int).toNat,none⟩))] 17
    ·rfl
    ·rfl
    ·rfl
    ·rfl
    ·rfl
    ·exact a89
    ·exact qH
    ·refine ay ?_ ?_
     ·intro wD E sD;refine ab G G ?_;exact a01
     refine ay ?_ ?_
     ·intro wD E sD;refine aw (a8 G ⟨_,G⟩ G ?_);exact a01
     refine ay ?_ ?_
     ·intro wD E sD;refine aw (aY fH G G C1 QZ G G ?_);exact a01
     refine ay ?_ ?_
     ·intro wD E sD;refine aw (aN dK G G G (cg sD U3) G ?_);exact a01
     refine ay ?_ ?_
     ·intro wD E sD;refine ab G G ?_;exact a01
     refine ay ?_ ?_
     ·intro wD E sD;refine aw (a8 G ⟨_,G⟩ G ?_);exact a01
     refine ay ?_ ?_
     ·intro wD E sD;refine aw (aY fH G G C1 QZ G G ?_);exact a01
     refine ay ?_ ?_
     ·intro wD E sD;refine aw (aN dK G G G (cg sD U3) G ?_);exact a01
     refine ay ?_ ?_
     ·intro wD E sD;refine aw (Rg.Cn dK G G ?_);exact a01
     refine ay ?_ ?_
     ·intro wD E sD;refine aw (jB G G G q0 (br (v':= .int .i64 ((vs.length-1:Nat):Int)) (congrArg _ q0) ?_));exact a01
     refine ay ?_ ?_
     ·intro wD E sD;refine aw (aw (Rg.yu dK uc G G G q0 ?_));exact a01
     refine ay ?_ ?_
     ·intro wD E sD;refine aw (aN rI rfl rfl rfl (sD.aE C2.w) (v:= .int .u64 ((vs.getD (vs.length-1) 0:Nat):Int)) (by rw[ar];exact je q0) ?_);exact a01
     refine ay ?_ ?_
     ·intro wD E sD;refine ab G G ?_;exact a01
     refine ay ?_ ?_
     ·intro wD E sD;refine aw (Rg.shl G G G q0 (br (v':= .int .u64 ((2^(n%64):Nat):Int)) (congrArg _ (Z4 _ q0)) ?_));exact a01
     refine ay ?_ ?_
     ·intro wD E sD;refine aw (Rg.Vc rfl rfl rfl (br (v':= .int .u64 ((2^(n%64)-1:Nat):Int)) (congrArg _ (by rw[show((2^(n%64):Nat):Int)-1=((2^(n%64)-1:Nat):Int)from by omega,Cm,Nat.mod_eq_of_lt q0])) ?_));exact a01
     refine ay ?_ ?_
     ·intro wD E sD;refine aw (aw (Rg.and G G G (br (v':= .int .u64 (((vs.getD (vs.length-1) 0%2^(n%64)):Nat):Int)) (congrArg _ (by rw[Gm _ _ (C2.ok.get _) q0,Nat.and_two_pow_sub_one_eq_mod])) ?_)));exact a01
     refine ay ?_ ?_
     ·intro wD E sD;refine aw (aw (aw (aw (aw (aw (aw (aw (aw (aw (aw (aw ?_)))))))))));refine aw (aw (aw (aw (aw (aw (Rg.yu dK uc G G G q0 ?_))))));exact a01
     exact j0
    ·intro Up AO;refine aw (aw (aw (aw (aw (aw (aw (aw (aw (aw (aw (aw ?_)))))))))));refine aw (aw (aw (aw (aw ?_))));refine cn (M:=M1) (u:= .int .u64 ((vs.getD (vs.length-1) 0:Nat):Int)) uc rfl rfl (AO.aE C2.w) (by rw[ar];exact je q0) G C2.mw (λw9 hW9 s9=>?_);rw[ar,rY]at hW9;refine ad (T.aP (ab G G (Rg.aZ G G (aI ?_))));have DD:k=ws.length:=by omega
     first
     |exact aF rfl rfl ⟨os,ow,vs.set (vs.length-1) (vs.getD (vs.length-1) 0%2^(n%64)),rfl,z1,z2,by rw[<-AS];exact(s1.ck S2 (λb hb=>by omega)).av AO |>.ck s9 (λb hb=>by omega),by rw[<-AS];exact(C2.step AO (λh=>h) (λh=>h)).put s9 (by simp) hW9 (C2.ok.set (Nat.lt_of_le_of_lt (Nat.mod_le _ _) (C2.ok.get _))),λj=>BO hlen k7 q0 (by rw[<-DD];exact vB) j⟩
     |exact aF rfl rfl ⟨os,ow,vs,rfl,z1,z2,by rw[<-AS];exact s1.ck S2 (λb hb=>by omega),by rw[<-AS];exact C2,λj=>Fm hlen q0 (by rw[<-DD];exact vB) (by rw[<-DD];exact Dt) j⟩
   ·refine aR (T.aP (ab G G (Rg.aZ G G (aI ?_))));have DD:k=ws.length:=by omega
    first
    |exact aF rfl rfl ⟨os,ow,vs.set (vs.length-1) (vs.getD (vs.length-1) 0%2^(n%64)),rfl,z1,z2,by rw[<-AS];exact(s1.ck S2 (λb hb=>by omega)).av AO |>.ck s9 (λb hb=>by omega),by rw[<-AS];exact(C2.step AO (λh=>h) (λh=>h)).put s9 (by simp) hW9 (C2.ok.set (Nat.lt_of_le_of_lt (Nat.mod_le _ _) (C2.ok.get _))),λj=>BO hlen k7 q0 (by rw[<-DD];exact vB) j⟩
    |exact aF rfl rfl ⟨os,ow,vs,rfl,z1,z2,by rw[<-AS];exact s1.ck S2 (λb hb=>by omega),by rw[<-AS];exact C2,λj=>Fm hlen q0 (by rw[<-DD];exact vB) (by rw[<-DD];exact Dt) j⟩
theorem KL {M:aL} {w0:World} {n:Nat} (hn:n<=1099511627776):
  Spec Tryz.prog 118 #[.int .i64 n] w0 (λv' w'=>∃os ow xH M',v'= .pointer (some ⟨os,0,none⟩)/\w0.heap.size<=os/\w0.heap.size<=ow/\Step M w0 M' w' aD/\ju 128 205 n xH M' w' os ow/\∀j,bit xH j=decide (j<n)):=by
 refine a7 (args:=[_]) (fn:=Tryz.f118) Tryz.func118 G (n:=6) Tryz.ntmps118 (T.aP (Rg.aZ G G (T.aP (ab G G ?_))));refine aQ G G E20 (BN (M:=M) hn) (λr1 w1 h=>?_);obtain⟨bs,bw,rfl,z1,z2,s1,h1⟩:=h;refine aQ G G akO (KK h1) (λr2 w2 h=>?_);obtain⟨os,ow,xH,rfl,z3,z4,s2,h2,hb⟩:=h;have y1:=s1.size;refine Rg.aZ G G (aI ?_);exact aF rfl rfl ⟨os,ow,xH,_,rfl,by omega,by omega,s1.av s2,h2,λj=>by rw[hb j,DQ];simp⟩
end Go.K
namespace Go.K
open Go.Proofs
namespace TKLiveB
theorem acZ:Enters Tryz.prog 108:=enters Tryz.func108 rfl QZ
theorem ac0:Enters Tryz.prog 118:=enters Tryz.func118 rfl QZ
theorem ac1:Enters Tryz.prog 119:=enters Tryz.func119 rfl QZ
end TKLiveB
open TKLiveB
set_option maxRecDepth 10000
end Go.K
namespace Go.K
open Go.Proofs
set_option maxRecDepth 10000
theorem Pl {r:Int} (h:1<=r):∀x∈Lib.encodeRuneZ r,1<=x/\x<=255:=by
 intro x hx;unfold Lib.encodeRuneZ at hx
 split at hx
 ·simp at hx;omega
 ·split at hx
  ·simp at hx;omega
  ·split at hx
   ·simp at hx;omega
   ·split at hx
    ·simp at hx;omega
    ·simp at hx;omega
theorem XX {r:Int} (h:1<=r):(0:UInt8)∉Lib.encodeRune r:=λhm=>by
 unfold Lib.encodeRune at hm;obtain⟨x,hx,uT⟩:=cx.1 hm;obtain⟨h1,h2⟩:=Pl h x hx;have:=congrArg UInt8.toNat uT;simp at this;omega
theorem SN {c:Int} (h:1<=c):1<=qB c:=by unfold qB;split<;>omega
theorem Pm {l:List Int} (h:∀c∈l,1<=c):(0:UInt8)∉gN l:=λhm=>by
 unfold gN at hm;obtain⟨c,hc,hx⟩:=List.mem_flatMap.1 hm;exact XX (SN (h c hc)) hx
theorem KM {c:Int} (h:fD c=true\/l2 c=true):1<=eh c:=by
 have:1<=c:=by
  rcases h with h|h
  ·unfold fD at h;simp at h;omega
  ·unfold l2 at h;simp at h;omega
 unfold eh;split<;>omega
theorem SO (l:List Int):∀p:List Int×List (List UInt8),(∀c∈p.1,1<=c)->(∀w∈p.2,(0:UInt8)∉w)->(∀c∈(l.foldl eK p).1,1<=c)/\∀w∈(l.foldl eK p).2,(0:UInt8)∉w:=by
 induction l with
 |nil=>intro p h1 h2;exact⟨h1,h2⟩
 |cons c l ih=>
  intro p h1 h2;rw[pI];refine ih _ ?_ ?_
  ·unfold eK
   split
   ·rename_i hc
    intro x hx;rcases dw.1 hx with hx|hx
    ·exact h1 x hx
    ·rw[cW.1 hx];exact KM hc
   ·split<;>(intro x hx;cases hx)
  ·unfold eK
   split
   ·exact h2
   ·split
    ·intro w hw;rcases dw.1 hw with hw|hw
     ·exact h2 w hw
     ·rw[cW.1 hw];exact Pm h1
    ·exact h2
theorem Fp (l:List UInt8):∀w∈words l,(0:UInt8)∉w:=(SO _ ([],[]) (λc h=>by cases h) (λw h=>by cases h)).2
theorem Fq {a b:Fd} (ha:Ly a) (QK:(0:UInt8)∉a.2) (h:cZ a=cZ b):a=b:=by
 have h1:(cZ a).count 0=1:=by
  unfold cZ;rw[List.count_append,List.count_append,List.count_eq_zero.2 ha,List.count_eq_zero.2 QK];simp
 have h2:(cZ b).count 0=b.1.count 0+1+b.2.count 0:=by
  unfold cZ;rw[List.count_append,List.count_append];simp
 rw[h]at h1;exact tO ha (show Ly b from List.count_eq_zero.1 q0) h
theorem sz {fs:List Fd} {t:Fd}:t∈(cF fs).map (·.1)↔∃f∈fs,f.1=t.1/\t.2∈words f.2:=by
 unfold cF gy;constructor
 ·intro h;obtain⟨p,hp,rfl⟩:=cx.1 h;obtain⟨f,hf,hp⟩:=List.mem_flatMap.1 hp;obtain⟨q,hq,rfl⟩:=cx.1 hp;exact⟨f,hf,G,(List.mem_zipIdx hq).2.2▸List.getElem_mem _⟩
 ·rintro⟨f,hf,h1,h2⟩;obtain⟨i,hi,he⟩:=List.mem_iff_getElem.1 h2;refine cx.2 ⟨((f.1,t.2),i),List.mem_flatMap.2 ⟨f,hf,cx.2 ⟨(t.2,i),?_,rfl⟩⟩,by rw[h1]⟩;rw[List.mem_zipIdx_iff_getElem?];simp[hi,he]
theorem BP {ws:List (List UInt8)} {x:List UInt8}:0<(iN ws x).length↔x∈ws:=by
 unfold iN;rw[b9,List.length_pos_iff_exists_mem];constructor
 ·rintro⟨p,hp⟩;obtain⟨h1,h2⟩:=fW.1 hp;have h2:p.1=x:=by simpa using h2
  rw[<-h2];rw[List.mem_zipIdx_iff_getElem?]at h1;exact au h1
 ·intro h;obtain⟨i,hi⟩:=bK.1 h;exact⟨(x,i),fW.2 ⟨by rw[List.mem_zipIdx_iff_getElem?];exact hi,by simp⟩⟩
theorem Fs {d:Dc} (h:iy d) {k x:List UInt8}:x∈cT d.2 k↔∃f∈d.2,f.1=k/\x∈words f.2:=by
 unfold cT;constructor
 ·intro hx
  split at hx
  ·rename_i f hf
   exact⟨f,List.mem_of_find?_eq_some hf,by simpa using List.find?_some hf,hx⟩
  ·cases hx
 ·rintro⟨f,hf,h1,h2⟩
  split
  ·rename_i g hg
   have hg1:=List.mem_of_find?_eq_some hg;have hg2:g.1=k:=by simpa using List.find?_some hg
   have:g=f:=by
    obtain⟨i,hi⟩:=bK.1 hg1;obtain⟨j,hj⟩:=bK.1 hf
    have jl:i=j:=by
     refine(List.getElem?_inj (by rw[b9];exact(al.1 hi).1) h.once).1 ?_;rw[ei,ei,hi,hj];simp[hg2,h1]
    subst jl;rw[hi]at hj;exact aJ hj
   rw[this];exact h2
  ·rename_i hn
   rw[List.find?_eq_none]at hn;exact absurd h1 (by simpa using hn f hf)
theorem Pn {d:Dc} (h:iy d) (i:Nat) (t:Fd):EJ i (cF d.2) (cZ t)≠[]↔0<(iN (cT d.2 t.1) t.2).length:=by
 rw[BP,Fs h];constructor
 ·intro fh;rcases xK h i (cZ t)with h1|⟨u,hu,hk,_⟩
  ·exact absurd h1 fh
  ·have JH:=(iI h.IX).1 hu;obtain⟨f,hf,JC,Me⟩:=sz.1 JH;have e:u=t:=Fq (by obtain⟨p,hp,rfl⟩:=cx.1 JH;exact h.IX p hp) (Fp _ _ Me) hk;rw[<-e];exact⟨f,hf,JC,Me⟩
 ·rintro⟨f,hf,h1,h2⟩;exact NW ((iI h.IX).2 (sz.2 ⟨f,hf,h1,h2⟩))
section
variable {P:Program} {r:Option Nat} {n:Nat} {L:Sl} {ds:List Deferred} {w:World} {K:Kt} {ops:Array Oper} {rest:List Oper} {d:Nat} {x y:Operand} {ty:TypeId} {pos:String} {af:Array Edge}
theorem KN {t:TypeId} {f' g':Field} (hu:P.underlying t=some (.struct #[f',g'])) (hpu:P.stoodInHeld t=false) (hm:f'.name≠ "_") (xW:g'.name≠ "_")
  (o3:f'.offset=0) (o4:g'.offset=1) (s1:P.underlying f'.type=some .string) (s2:P.underlying g'.type=some .string) (a b a' b':List UInt8):
  (Op.equalIn 10000 t (.agg #[.string ⟨a.toArray⟩,.string ⟨b.toArray⟩]) (.agg #[.string ⟨a'.toArray⟩,.string ⟨b'.toArray⟩])).run P w= .ok (decide ((a,b)=(a',b'))) w:=by
 have h1:(Op.equalIn (9999+1) t (.agg #[.string ⟨a.toArray⟩,.string ⟨b.toArray⟩]) (.agg #[.string ⟨a'.toArray⟩,.string ⟨b'.toArray⟩])).run P w= .ok (decide (a=a')&&decide (b=b')) w:=
  Fl (k:=9998+1) (a:= .string ⟨a.toArray⟩) (b:= .string ⟨a'.toArray⟩) (a':= .string ⟨b.toArray⟩) (b':= .string ⟨b'.toArray⟩) hu hpu hm xW (lx s1 (by rw[o3];rfl)) (lx s1 (by rw[o3];rfl)) (lx s2 (by rw[o4];rfl)) (lx s2 (by rw[o4];rfl))
   (by rw[run_equalIn_string w 9998 _ _ _ s1,Jf]) (by rw[run_equalIn_string w 9998 _ _ _ s2,Jf])
 rw[show(10000:Nat)=9999+1 from rfl,h1];congr 1;by_cases e1:a=a'<;>by_cases e2:b=b'<;>simp[e1,e2]
theorem Rg.akS {t t':TypeId} {f' g':Field} {p q:List UInt8×List UInt8} (hu:P.underlying t=some (.struct #[f',g'])) (hpu:P.stoodInHeld t=false) (hq:P.eqGuardType P.depth t=false) (hm:f'.name≠ "_") (xW:g'.name≠ "_")
  (o3:f'.offset=0) (o4:g'.offset=1) (s1:P.underlying f'.type=some .string) (s2:P.underlying g'.type=some .string)
  (hx:ev L x=some (.agg #[.string ⟨p.1.toArray⟩,.string ⟨p.2.toArray⟩])) (hy:ev L y=some (.agg #[.string ⟨q.1.toArray⟩,.string ⟨q.2.toArray⟩])) (hd:Nat.blt d n=true)
  (k:Rg P r n ops rest ((d,.bool (decide (p=q)))::L) ds w K):
  Rg P r n ops ({dst:=some d,op:= .binOp .eql t x y t',type:=ty,pos,after:=af,guard:=none}::rest) L ds w K:=
 .op a04 rfl rfl hd _ w (λρ h=>by
  have he:(Op.equalIn 10000 t (.agg #[.string ⟨p.1.toArray⟩,.string ⟨p.2.toArray⟩]) (.agg #[.string ⟨q.1.toArray⟩,.string ⟨q.2.toArray⟩])).run P w= .ok (decide (p=q)) w:=KN (P:=P) (w:=w) hu hpu hm xW o3 o4 s1 s2 p.1 p.2 q.1 q.2;simp only[execOp];rw[h x _ hx,h y _ hy];rw[cj,cj,run_eqGuard_agg (P:=P) w .eql t x y _ _ hq];simp only[run_eql_struct,he,cA,cj,my]) k
variable {N:aL} {wd:World} {dst:Option Nat} {gd:Option (Nat×Bool)}
end
theorem Pp {fs:List Fd} (h:(fs.map (·.1)).Nodup) (t:Fd):iN (cT fs t.1) t.2=posOf (cF fs) t:=by
 induction fs with
 |nil=>rfl
 |cons x fs ih=>
  have h':=List.nodup_cons.1 h;have e:posOf (cF (x::fs)) t=posOf (gy x) t++posOf (cF fs) t:=by show posOf (gy x++cF fs) t=_;rw[oI]
  by_cases hx:x.1=t.1
  ·rw[e,vK λy hy e=>h'.1 (by have h9:y.1∈fs.map (·.1):=fO hy;rw[e,<-hx]at h9;exact h9),fV];rw[wY (i:=0) (x:=x) rfl hx (λj y hj=>absurd hj (eC _))];unfold iN posOf gy;rw[List.filter_map,List.map_map];congr 1;refine List.filter_congr λp _=> ?_
   show decide (p.1=t.2)=decide ((x.1,p.1)=t);refine decide_eq_decide.2 ⟨λe=>?_,λe=>?_⟩
   ·rw[hx,e]
   ·rw[<-e]
  ·rw[e,sx hx,iJ,<-ih h'.2];congr 1;unfold cT;rw[List.find?_cons_of_neg ae0]
def DN (a b:List Fo) (d:Int):Int:=(if rZ a d then 1 else 0)+(if rZ b d then 1 else 0)
def akT (d:Int):Int:=if d<0 then-(d+1)else d
def UH (l:List Int):Prop:=l.Pairwise (· < ·)/\(∀x∈l,0<=x/\x<1000000)/\l.length<=1000
def Pq (tl:List (List Int)) (x:Int) (n:Nat):Bool:=(List.range n).all λk=>(tl.getD k []).contains (x+1+k)
theorem ud (tl:List (List Int)) (x:Int) (n:Nat):Pq tl x (n+1)=(Pq tl x n&&(tl.getD n []).contains (x+1+n)):=by simp[Pq,pG]
def AV (tl:List (List Int)) (l:List Int) (n:Nat):Nat:=((l.take n).filter λx=>Pq tl x tl.length).length
def Jh:List (List Int)->Nat
 |[]=>0
 |l::tl=>AV tl l l.length
theorem qF {tl:List (List Int)} {l:List Int} {n:Nat} {x:Int} (h:l[n]? =some x):AV tl l (n+1)=AV tl l n+if Pq tl x tl.length then 1 else 0:=by
 obtain⟨h1,h2⟩:=al.1 h;unfold AV;rw[eE h1,h2,fC,bM];congr 1;by_cases hx:Pq tl x tl.length=true
 ·rw[if_pos hx];simp[List.filter,hx]
 ·rw[if_neg hx];simp[List.filter,hx]
theorem SP (tl:List (List Int)) (l:List Int) (n:Nat):AV tl l n<=n:=by
 unfold AV;refine dm (gU _ _) ?_;rw[bJ];omega
theorem akU (n:Nat):((n:Int)).fdiv (2^min (Int.toNat 1) IntKind.u64.bits)=((n/2:Nat):Int):=by
 change Int.fdiv (n:Int) 2=_;rw[Int.fdiv_eq_ediv_of_nonneg _ QZ];omega
theorem C3 {l:List Int} (h:l.Pairwise (· < ·)) {i j:Nat} {x y:Int} (hx:l[i]? =some x) (hy:l[j]? =some y) (jl:i<j):x<y:=by
 obtain⟨h1,h2⟩:=al.1 hx;obtain⟨h3,h4⟩:=al.1 hy;rw[<-h2,<-h4];exact(List.pairwise_iff_getElem.1 h) i j h1 h3 jl
theorem HD {l:List Int} (h:l.Pairwise (· < ·)) {x:Int} {i:Nat} (h1:∀t y,t<i->l[t]? =some y->y<x) (h2:∀t y,i<=t->l[t]? =some y->x<=y):l.contains x=decide (l[i]? =some x):=by
 rw[jR,fS,decide_eq_true_iff];constructor
 ·intro hm;obtain⟨t,ht⟩:=bK.1 hm;rcases fq t i with h3|h3|h3
  ·have:=h1 t x h3 ht;omega
  ·rw[<-h3];exact ht
  ·have hl:=(al.1 ht).1;obtain⟨y,hy⟩:∃y,l[i]? =some y:=⟨_,an q0⟩;have:=C3 h hy ht h3;have:=h2 i y (bu _) hy;omega
 ·exact λhm=>au hm
theorem HE {M:aL} {w:World} {d s:Int} {v:Value} (h:RT.fo.V M w (d,s) v):v= .agg #[.int .i64 d,.int .i64 s]:=by
 obtain⟨vs,⟨va,vb,rfl,⟨rfl,hd⟩,⟨rfl,hb⟩⟩,rfl⟩:=h;rfl
section
variable {P:Program} {r:Option Nat} {n:Nat} {L:Sl} {ds:List Deferred} {w:World} {K:Kt} {ops:Array Oper} {rest:List Oper} {d:Nat} {x y:Operand} {ty:TypeId} {pos:String} {af:Array Edge}
theorem Rg.ac2 {t t':TypeId} {a b:Value} {c:Bool} (hg:∀w,(eqGuard .eql t x y a b).run P w= .ok () w) (he:∀w,(binOp .eql t a b).run P w= .ok (.bool c) w) (hx:ev L x=some a) (hy:ev L y=some b) (hd:Nat.blt d n=true)
  (k:Rg P r n ops rest ((d,.bool c)::L) ds w K):
  Rg P r n ops ({dst:=some d,op:= .binOp .eql t x y t',type:=ty,pos,after:=af,guard:=none}::rest) L ds w K:=
 .op a04 rfl rfl hd _ w (λρ h=>by
  simp only[execOp];rw[h x _ hx,h y _ hy];rw[cj,cj,hg];simp[he]) k
end
def ij (f:En->Option Int):Nat->List En->List Fo
 |_,[]=>[]
 |i,e::L=>match f e with
  |some s=>((i:Int),s)::ij f (i+1) L
  |none=>ij f (i+1) L
theorem xN {f:En->Option Int} {p:Fo}:∀{L:List En} {i:Nat},p∈ij f i L↔∃(d:Nat) (e:En),L[d]? =some e/\p.1=((i+d:Nat):Int)/\f e=some p.2
 |[],i=>by simp[ij]
 |e::L,i=>by
  have key:p∈ij f i (e::L)↔(p.1=(i:Int)/\f e=some p.2)\/p∈ij f (i+1) L:=by
   rw[ij]
   cases he:f e with
   |none=>simp
   |some s=>
    rw[dz];constructor
    ·rintro(h|h)
     ·exact .inl ⟨by rw[h],by rw[h]⟩
     ·exact .inr h
    ·rintro(⟨h1,h2⟩|h)
     ·exact .inl (Prod.ext h1 (by simpa using h2.symm))
     ·exact .inr h
  rw[key,xN (L:=L)];constructor
  ·rintro(⟨h1,h2⟩|⟨d,x,h1,h2,h3⟩)
   ·exact⟨0,e,G,h1,h2⟩
   ·exact⟨d+1,x,by simpa using h1,by rw[h2];congr 1;omega,h3⟩
  ·rintro⟨d,x,h1,h2,h3⟩
   cases d with
   |zero=>simp at h1;subst h1;exact .inl ⟨h2,h3⟩
   |succ d=>exact .inr ⟨d,x,by simpa using h1,by rw[h2];congr 1;omega,h3⟩
theorem oU {f:En->Option Int} {L:List En} {i:Nat} {p:Fo} (h:p∈ij f i L):(i:Int)<=p.1/\p.1<i+L.length:=by
 obtain⟨d,e,h1,h2,_⟩:=xN.1 h;have:=(al.1 h1).1;omega
theorem Pr {f:En->Option Int}:∀(L:List En) (i:Nat),(ij f i L).Pairwise λa b=>a.1<b.1
 |[],_=>List.Pairwise.nil
 |e::L,i=>by
  rw[ij]
  split
  ·refine jx.2 ⟨λp hp=>?_,Pr L (i+1)⟩;have:=oU hp;simp only;omega
  ·exact Pr L (i+1)
theorem kE {f:En->Option Int}:∀(L:List En) (i:Nat),(ij f i L).length<=L.length
 |[],_=>bu _
 |e::L,i=>by
  have:=kE (f:=f) L (i+1);rw[ij]
  split<;>simp only[cH]<;>omega
theorem ku {f g:En->Option Int}:∀{L:List En} {i:Nat},(∀e∈L,f e=g e)->ij f i L=ij g i L
 |[],_,_=>rfl
 |e::L,i,h=>by rw[ij,ij,h e (bP ..),ku (L:=L) λx hx=>h x (cv _ hx)]
def C4 (f:En->Option Int) (i:Nat) (e:En):List Fo:=match f e with
 |some s=>[((i:Int),s)]
 |none=>[]
theorem zJ {f:En->Option Int} {e:En}:∀(L:List En) (i:Nat),ij f i (L++[e])=ij f i L++C4 f (i+L.length) e
 |[],i=>by
  show ij f i [e]=[]++_;rw[ij,ij,C4];cases f e<;>simp
 |x::L,i=>by
  rw[uK,ij,ij,zJ L (i+1),show i+1+L.length=i+(x::L).length by simp only[cH];omega]
  cases f x<;>simp
theorem nV {f:En->Option Int} {L:List En} {i:Nat} {e:En} (h:L[i]? =some e):ij f 0 (L.take (i+1))=ij f 0 (L.take i)++C4 f i e:=by
 have hi:=(al.1 h).1;rw[b7,h,dH,zJ,bJ,xR (Nat.le_of_lt hi),rC]
theorem ac3 {l:List Fo} {x i:Int} (h:∀p∈l,i<=p.1) (hx:i<=x):i<=mn l x:=by
 unfold mn
 cases l with
 |nil=>exact hx
 |cons p l=>have:=h p (bP ..);simp only;omega
theorem Ji {l:List Fo} {x:Int} (h:∀p∈l,x<=p.1):mn l x=x:=by
 unfold mn
 cases l with
 |nil=>rfl
 |cons p l=>have:=h p (bP ..);simp only;omega
theorem Ps {l:List Fo} {x:Int} (h:∀p∈l,x<p.1):hit l x=false:=by
 unfold hit
 cases l with
 |nil=>rfl
 |cons p l=>have:=h p (bP ..);simp only[decide_eq_false_iff_not];omega
theorem Jj {l:List Fo} {x:Int} (h:hit l x=false):fL l x=l:=by unfold fL;rw[h];rfl
theorem xO {x:Int} (h:0<=x/\x<=9223372036854775807):IntKind.i64.wrap x=x:=by
 show(if(true&&decide (x%18446744073709551616>=9223372036854775808))=true then x%18446744073709551616-18446744073709551616 else x%18446744073709551616)=x;rw[Int.emod_eq_of_lt h.1 q0,if_neg a11]
def Pt (a b:Option Int):Option Int:=match a,b with
 |some x,some y=>some (x+y)
 |_,_=>none
def orO (a b:Option Int):Option Int:=match a,b with
 |none,none=>none
 |a,b=>some (a.getD 0+b.getD 0)
def nW (least:Int) (a b:Option Int):Option Int:=if least<=1 then orO a b else Pt a b
theorem Jk {least:Int} (hl:least=1\/least=2) {f g:En->Option Int}:∀(L:List En) (i:Nat),i+L.length<=2147483648->(∀e∈L,∀s,(f e=some s\/g e=some s)->0<=s/\s<=4611686018427387903)->Dq least (ij f i L) (ij g i L)=ij (λe=>nW least (f e) (g e)) i L
 |[],i,_,_=>rfl
 |e::L,i,hi,hb=>by
  have ih:=Jk hl (f:=f) (g:=g) L (i+1) (by simp only[cH]at hi;omega) λx hx=>hb x (cv _ hx)
  simp only[cH]at hi;have ra:∀p∈ij f (i+1) L,(i:Int)<p.1:=λp hp=>by have:=oU hp;omega
  have rb:∀p∈ij g (i+1) L,(i:Int)<p.1:=λp hp=>by have:=oU hp;omega
  have oa:ri (ij f (i+1) L):=λp hp=>by have:=oU hp;omega
  have ob:ri (ij g (i+1) L):=λp hp=>by have:=oU hp;omega
  have hbe:=hb e (bP ..);rw[ij,ij,ij];generalize ij f (i+1) L=a at ih ra oa;generalize ij g (i+1) L=b at ih rb ob
  have ca:∀x:Int,ri (((i:Int),x)::a):=λx p hp=>by
   rcases dz.1 hp with rfl|hp
   ·simp only;omega
   ·exact oa p hp
  have cb:∀x:Int,ri (((i:Int),x)::b):=λx p hp=>by
   rcases dz.1 hp with rfl|hp
   ·simp only;omega
   ·exact ob p hp
  have la:=λx hx=>ac3 (l:=a) (x:=x) (i:=(i:Int)) (λp hp=>by have:=ra p hp;omega) hx
  have na:=Ps ra;have nb:=Ps rb;have h0:mn a (i:Int)=i:=Ji λp hp=>by have:=ra p hp;omega
  have h1:mn b (i:Int)=i:=Ji λp hp=>by have:=rb p hp;omega
  have hc:∀(x:Int) (l:List Fo),hit (((i:Int),x)::l) i=true:=λx l=>by simp[hit]
  have hr:∀(x:Int) (l:List Fo),fL (((i:Int),x)::l) i=l:=λx l=>by unfold fL;rw[hc];rfl
  have m0:min (2147483648:Int) (i:Int)=i:=by omega
  cases hf:f e with
  |none=>
   cases hg:g e with
   |none=>
    have:nW least none none=none:=by unfold nW;split<;>rfl
    simp only[this];exact ih
   |some y=>
    have hy:=hbe y (.inr hg)
    have hx:iZ a (((i:Int),y)::b)=i:=by
     show min (mn a 2147483648) (i:Int)=i;have:=la 2147483648 q0;omega
    have hm:rf a (((i:Int),y)::b) 2=1:=by simp[rf,nE,hx,na,hc]
    have hs:rh a (((i:Int),y)::b) 2=y:=by
     simp only[rh,nD,hx,na,hc];simp;exact xO q0
    show Dq least a (((i:Int),y)::b)=_;rw[tx oa (cb y) (.inr (by simp)),hx,hm,hs,Jj na,hr,ih];rcases hl with rfl|rfl
    ·simp[nW,orO]
    ·simp[nW,Pt]
  |some x=>
   have Nt:=hbe x (.inl hf)
   cases hg:g e with
   |none=>
    have hx:iZ (((i:Int),x)::a) b=i:=by
     show mn b (min 2147483648 (i:Int))=i;rw[m0,h1]
    have hm:rf (((i:Int),x)::a) b 2=1:=by simp[rf,nE,hx,nb,hc]
    have hs:rh (((i:Int),x)::a) b 2=x:=by
     simp only[rh,nD,hx,nb,hc];simp;exact xO q0
    show Dq least (((i:Int),x)::a) b=_;rw[tx (ca x) ob (.inl (by simp)),hx,hm,hs,Jj nb,hr,ih];rcases hl with rfl|rfl
    ·simp[nW,orO]
    ·simp[nW,Pt]
   |some y=>
    have hy:=hbe y (.inr hg)
    have hx:iZ (((i:Int),x)::a) (((i:Int),y)::b)=i:=by
     show min (min 2147483648 (i:Int)) (i:Int)=i;omega
    have hm:rf (((i:Int),x)::a) (((i:Int),y)::b) 2=2:=by simp[rf,nE,hx,hc]
    have hs:rh (((i:Int),x)::a) (((i:Int),y)::b) 2=x+y:=by
     simp only[rh,nD,hx,hc];simp;rw[xO (x:=x) q0,xO q0]
    show Dq least (((i:Int),x)::a) (((i:Int),y)::b)=_;rw[tx (ca x) (cb y) (.inl (by simp)),hx,hm,hs,hr,hr,ih];rcases hl with rfl|rfl
    ·simp[nW,orO]
    ·simp[nW,Pt]
def SQ (a:Option Int):Option Int:=match a with
 |some _=>none
 |none=>some 0
theorem Pu {f:En->Option Int} {L:List En} {d:Nat} {e:En} (h:L[d]? =some e):rZ (ij f 0 L) (d:Int)=(f e).isSome:=by
 rw[jR];unfold rZ;rw[jk];constructor
 ·rintro⟨p,hp,hd⟩;obtain⟨d',x,h1,h2,h3⟩:=xN.1 hp;have hd:p.1=(d:Int):=by simpa using hd
  obtain rfl:d'=d:=by omega
  rw[h]at h1;cases h1;rw[h3];rfl
 ·intro hs;obtain⟨s,hs⟩:=Option.isSome_iff_exists.1 hs;exact⟨((d:Int),s),xN.2 ⟨d,e,h,by simp,hs⟩,by simp⟩
theorem BQ {f:En->Option Int} {L:List En}:∀k,k<=L.length->pY (ij f 0 L) k=ij (λe=>SQ (f e)) 0 (L.take k)
 |0,_=>by simp[pY,ij]
 |k+1,hk=>by
  obtain⟨e,he⟩:∃e,L[k]? =some e:=⟨_,an q0⟩;have ih:=BQ (f:=f) (L:=L) k q0;rw[nV he,<-ih];unfold pY;rw[pG,fC,dM];congr 1;rw[List.filter_cons,Pu he,C4]
  cases f e<;>simp[SQ]
theorem Pv {f:En->Option Int} {L:List En}:pY (ij f 0 L) L.length=ij (λe=>SQ (f e)) 0 L:=by
 rw[BQ _ (bu _),bm (bu _)]
theorem oV (ws:List (List UInt8)) (x:List UInt8):iN ws x=((List.range ws.length).filter λi=>decide (ws[i]? =some x)).map fun(i:Nat)=>(i:Int):=by
 have key:∀k,k<=ws.length->iN (ws.take k) x=((List.range k).filter λi=>decide (ws[i]? =some x)).map fun(i:Nat)=>(i:Int):=by
  intro k
  induction k with
  |zero=>intro _;simp[iN]
  |succ k ih=>
   intro hk;obtain⟨y,hy⟩:∃y,ws[k]? =some y:=⟨_,an q0⟩;rw[vU hy,ih q0,pG,fC,dM];by_cases e:y=x
   ·subst e;rw[if_pos rfl];simp[List.filter,hy]
   ·rw[if_neg e];simp[hy,e]
 have:=key ws.length (bu _)
 rwa [bm (bu _)]at this
theorem Ft {ws:List (List UInt8)} {x:List UInt8} {i:Nat}:(iN ws x).contains (i:Int)=decide (ws[i]? =some x):=by
 rw[jR,fS,oV,decide_eq_true_iff];constructor
 ·intro h;obtain⟨j,hj,e⟩:=cx.1 h;have:=(fW.1 hj).2;obtain rfl:j=i:=by omega
  simpa using this
 ·intro h;exact cx.2 ⟨i,fW.2 ⟨List.mem_range.2 (al.1 h).1,by simpa using h⟩,rfl⟩
def ug (ws xs:List (List UInt8)) (n:Nat):Nat:=((List.range n).filter λi=>decide ((ws.drop i).take xs.length=xs)).length
def pD (ws xs:List (List UInt8)):Nat:=if xs=[]then 0 else ug ws xs ws.length
theorem vV (ws xs:List (List UInt8)) (n:Nat):ug ws xs (n+1)=ug ws xs n+if(ws.drop n).take xs.length=xs then 1 else 0:=by
 unfold ug;rw[pG,fC,bM];by_cases h:(ws.drop n).take xs.length=xs
 ·rw[if_pos h];simp[List.filter,h]
 ·rw[if_neg h];simp[List.filter,h]
theorem Jl (ws xs:List (List UInt8)) (n:Nat):ug ws xs n<=n:=by
 unfold ug;exact dm (gU _ _) (by simp)
theorem Jm (ws xs:List (List UInt8)):pD ws xs<=ws.length:=by
 unfold pD;split
 ·exact bp _
 ·exact Jl _ _ _
theorem BR {ws xs:List (List UInt8)} {n:Nat} (h0:0<xs.length) (hn:ws.length<n+xs.length):∀k,ug ws xs (n+k)=ug ws xs n
 |0=>rfl
 |k+1=>by
  have jz: ¬(ws.drop (n+k)).take xs.length=xs:=λh=>by
   have:=congrArg List.length h;rw[bJ,cP]at this;omega
  rw[<-Nat.add_assoc,vV,BR h0 hn k,if_neg jz,Nat.add_zero]
theorem Fu {ws xs:List (List UInt8)} {n:Nat} (hx:xs≠[]) (hn:ws.length<n+xs.length) (hl:n<=ws.length):pD ws xs=ug ws xs n:=by
 unfold pD;rw[if_neg hx];have:=BR (dI.2 hx) hn (ws.length-n)
 rwa [show n+(ws.length-n)=ws.length by omega]at this
theorem XY {ws:List (List UInt8)} {x:List UInt8} {tl:List (List UInt8)} {i:Nat}:(ws.drop i).take (x::tl).length=x::tl↔ws[i]? =some x/\∀k,k<tl.length->ws[i+1+k]? =tl[k]? :=by
 have hg:∀j,j<(x::tl).length->((ws.drop i).take (x::tl).length)[j]? =ws[i+j]? :=λj hj=>by rw[dG,if_pos hj,gY]
 constructor
 ·intro h;refine⟨?_,λk hk=>?_⟩
  ·have:=hg 0 (by simp);rw[h]at this;simpa using this.symm
  ·have:=hg (k+1) (by simpa using hk);rw[h]at this;rw[show i+1+k=i+(k+1) by omega,<-this];simp
 ·rintro⟨h1,h2⟩;apply iG;intro j;rcases cI j (x::tl).length with hj|hj
  ·rw[hg j hj]
   cases j with
   |zero=>simpa using h1
   |succ j=>rw[show i+(j+1)=i+1+j by omega,h2 j a94];simp
  ·rw[cJ hj,cJ (by rw[bJ];omega)]
theorem Pw {ws:List (List UInt8)} {tl:List (List UInt8)} {i:Nat}:Pq (tl.map (iN ws)) (i:Int) (tl.map (iN ws)).length=true↔∀k,k<tl.length->ws[i+1+k]? =tl[k]? :=by
 unfold Pq;rw[ec,b9];constructor
 ·intro h k hk;have:=h k (List.mem_range.2 hk);have pf:tl[k]? =some tl[k]:=an hk;rw[b4,ei,pf,show(i:Int)+1+(k:Int)=((i+1+k:Nat):Int) by omega]at this;simp only[fe,Option.getD_some]at this;rw[Ft,decide_eq_true_iff]at this;rw[pf];exact this
 ·intro h k hk;have hk:=List.mem_range.1 hk;have pf:tl[k]? =some tl[k]:=an hk;rw[b4,ei,pf,show(i:Int)+1+(k:Int)=((i+1+k:Nat):Int) by omega];simp only[fe,Option.getD_some];rw[Ft,decide_eq_true_iff,h k hk,pf]
theorem Px (ws:List (List UInt8)) (x:List UInt8) (tl:List (List UInt8)):Jh ((x::tl).map (iN ws))=pD ws (x::tl):=by
 rw[eI];show AV _ _ _=_;unfold pD AV ug;rw[if_neg (by simp),bm (bu _)]
 conv=>lhs;rw[oV ws x]
 rw[List.filter_map,b9,List.filter_filter];congr 1;refine List.filter_congr λi _=> ?_
 rw[jR];simp only[Function.comp,cr,decide_eq_true_iff];rw[Pw,XY];exact⟨λh=>⟨h.2,h.1⟩,λh=>⟨h.2,h.1⟩⟩
def qS (n:Nat):Option Int:=if 0<n then some (n:Int)else none
def kQ (l:List (Option Int)):Int:=(l.map λo=>o.getD 0).sum
mutual
def eH (fs:List Fd):Qy->Option Int
 |.mk k t ws ks=>
  if k=1 then qS (iN (cT fs t.1) t.2).length
  else if k=5 then qS (pD (cT fs t.1) ws)
  else if k=2 then(if(uh fs ks).all Option.isSome=true then some (kQ (uh fs ks))else none)
  else if k=3 then(if(uh fs ks).any Option.isSome=true then some (kQ (uh fs ks))else none)
  else(if(uh fs ks).any Option.isSome=true then none else some 0)
def uh (fs:List Fd):List Qy->List (Option Int)
 |[]=>[]
 |q::ks=>eH fs q::uh fs ks
end
theorem zK (fs:List Fd):∀ks,uh fs ks=ks.map (eH fs)
 |[]=>by rw[uh];rfl
 |q::ks=>by rw[uh,zK fs ks];rfl
def eA (w:List UInt8):Bool:=decide (words w=[w]/\w.length<=30)
def jr (k:Int) (t:Fd) (ws:List (List UInt8)) (n:Nat):Int:=
 if k<1\/5<k then 9
 else if 2<=k/\k<=4 then(if¬t=([],[])\/¬ws=[]\/n=0 then 9 else if 8<n\/(k=4/\1<n)then 7 else 0)
 else if 0<n\/(k=1/\¬ws=[])\/(k=5/\¬t.2=[])then 9
 else if ez t.1=false then 4
 else if k=1 then(if eA t.2=true then 0 else 9)
 else if ws=[]then 9 else if ws.all eA=false then 9 else if 6<ws.length then 7 else 0
mutual
def ik:Qy->Nat->Int
 |.mk k t ws ks,deep=>if 6<deep then 8 else if¬jr k t ws ks.length=0 then jr k t ws ks.length else uj ks (deep+1)
def uj:List Qy->Nat->Int
 |[],_=>0
 |q::ks,deep=>if¬ik q deep=0 then ik q deep else uj ks deep
end
def Fv (k:Int):Int:=1+akT k%5
def Py (s:List UInt8):List UInt8:=if ez s=true then s else[116]
def ac5 (t:Fd):Qy:= .mk 1 (Py t.1,if eA t.2=true then t.2 else[97]) [] []
def Pz (ws:List (List UInt8)):List (List UInt8):=(ws.take 3).filter eA
mutual
def UI:Qy->Nat->Qy
 |.mk k t ws ks,deep=>
  if(2<=Fv k/\Fv k<=4)/\deep<4/\¬ks=[]then .mk (Fv k) ([],[]) [] ((zL ks (deep+1)).take (if Fv k=4 then 1 else 3))
  else if Fv k=5/\¬Pz ws=[]then .mk 5 (Py t.1,[]) (Pz ws) []
  else ac5 t
def zL:List Qy->Nat->List Qy
 |[],_=>[]
 |q::ks,deep=>UI q deep::zL ks deep
end
theorem HF:∀(ks:List Qy) (deep:Nat),zL ks deep=ks.map λq=>UI q deep
 |[],_=>by rw[zL];rfl
 |q::ks,deep=>by rw[zL,HF ks deep];rfl
theorem zM:∀{ks:List Qy} {deep:Nat},uj ks deep=0↔∀q∈ks,ik q deep=0
 |[],_=>by rw[uj];simp
 |q::ks,deep=>by
  rw[uj,List.forall_mem_cons,<-zM (ks:=ks)];by_cases h:ik q deep=0
  ·rw[if_neg (λh'=>h' h)];simp[h]
  ·rw[if_pos h];simp[h]
theorem C5 {k:Int} {t:Fd} {ws:List (List UInt8)} {ks:List Qy} {deep:Nat}:ik (.mk k t ws ks) deep=0↔deep<=6/\jr k t ws ks.length=0/\∀q∈ks,ik q (deep+1)=0:=by
 rw[ik,<-zM];by_cases h:6<deep
 ·rw[if_pos h];constructor
  ·intro h';cases h'
  ·rintro⟨h',_⟩;omega
 ·rw[if_neg h];by_cases h2:jr k t ws ks.length=0
  ·rw[if_neg (λh'=>h' h2)];exact⟨λh3=>⟨by omega,h2,h3⟩,λh3=>h3.2.2⟩
  ·rw[if_pos h2];exact⟨λh3=>absurd h3 h2,λh3=>h3.2.1⟩
theorem sF {k:Int} {t:Fd} {ws:List (List UInt8)} {n:Nat} (h:jr k t ws n=0):(k=1/\n=0/\ez t.1=true/\eA t.2=true)\/(k=5/\n=0/\ez t.1=true/\¬ws=[]/\ws.all eA=true/\ws.length<=6)\/((k=2\/k=3)/\0<n/\n<=8)\/(k=4/\n=1):=by
 unfold jr at h;by_cases h1:k<1\/5<k
 ·rw[if_pos h1]at h;cases h
 rw[if_neg h1]at h;by_cases h2:2<=k/\k<=4
 ·rw[if_pos h2]at h;by_cases h3: ¬t=([],[])\/¬ws=[]\/n=0
  ·rw[if_pos h3]at h;cases h
  rw[if_neg h3]at h;by_cases h4:8<n\/(k=4/\1<n)
  ·rw[if_pos h4]at h;cases h
  have h5: ¬n=0:=λe=>h3 (.inr (.inr e))
  by_cases h6:k=4
  ·exact .inr (.inr (.inr ⟨h6,by omega⟩))
  ·exact .inr (.inr (.inl ⟨by omega,by omega,by omega⟩))
 ·rw[if_neg h2]at h;by_cases h3:0<n\/(k=1/\¬ws=[])\/(k=5/\¬t.2=[])
  ·rw[if_pos h3]at h;cases h
  rw[if_neg h3]at h
  have hn:n=0:=by
   rcases Nat.eq_zero_or_pos n with h4|h4
   ·exact h4
   ·exact absurd (.inl h4) h3
  cases h4:ez t.1 with
  |false=>rw[if_pos h4]at h;cases h
  |true=>
   rw[if_neg (by rw[h4];decide)]at h;by_cases h5:k=1
   ·rw[if_pos h5]at h;by_cases h6:eA t.2=true
    ·exact .inl ⟨h5,hn,G,h6⟩
    ·rw[if_neg h6]at h;cases h
   ·rw[if_neg h5]at h;by_cases h6:ws=[]
    ·rw[if_pos h6]at h;cases h
    rw[if_neg h6]at h;by_cases h7:ws.all eA=false
    ·rw[if_pos h7]at h;cases h
    rw[if_neg h7]at h;by_cases h8:6<ws.length
    ·rw[if_pos h8]at h;cases h
    exact .inr (.inl ⟨by omega,hn,rfl,h6,by simpa using h7,by omega⟩)
def sG (deep:Nat):Int:=500*8^(7-deep)
theorem zN {l:List (Option Int)} {B:Int} (hB:0<=B) (h:∀o∈l,∀s,o=some s->0<=s/\s<=B):0<=kQ l/\kQ l<=l.length*B:=by
 unfold kQ
 induction l with
 |nil=>simp
 |cons o l ih=>
  obtain⟨h1,h2⟩:=ih λx hx=>h x (cv _ hx)
  have h3:0<=o.getD 0/\o.getD 0<=B:=by
   cases o with
   |none=>exact⟨qt _,hB⟩
   |some s=>exact h _ (bP ..) s rfl
  have h4:((o::l).length:Int)*B=l.length*B+B:=by
   simp only[cH];rw[show((l.length+1:Nat):Int)=(l.length:Int)+1 by omega,Int.add_mul,Int.one_mul]
  rw[eI,List.sum_cons,h4];omega
theorem Fw (deep:Nat):0<=sG deep:=by unfold sG;exact Int.mul_nonneg QZ (Int.pow_nonneg QZ)
theorem KO {deep:Nat} (h:deep<=6):sG deep=8*sG (deep+1):=by
 unfold sG;obtain⟨n,hn⟩:∃n,7-deep=n+1:=⟨7-deep-1,by omega⟩;rw[show 7-(deep+1)=n by omega,hn,Int.pow_succ];omega
theorem HG {deep:Nat}:500<=sG deep:=by
 unfold sG;have:(0:Int)<8^(7-deep):=Int.pow_pos QZ;omega
theorem vW {deep:Nat} (h:1<=deep):sG deep<=131072000:=by
 unfold sG;have:deep=1\/deep=2\/deep=3\/deep=4\/deep=5\/deep=6\/7<=deep:=by omega
 rcases this with rfl|rfl|rfl|rfl|rfl|rfl|h
 all_goals try decide
 rw[show 7-deep=0 by omega];decide
mutual
theorem qn (fs:List Fd) (hw:∀k,(cT fs k).length<=500):∀(q:Qy) (deep:Nat),ik q deep=0->∀s,eH fs q=some s->0<=s/\s<=sG deep
 |.mk k t ws ks,deep,hm,s,hs=>by
  obtain⟨h1,h2,h3⟩:=C5.1 hm;have hc:=HG (deep:=deep);have h4:=Fx fs hw ks (deep+1) h3;have h5:(uh fs ks).length=ks.length:=by rw[zK,b9]
  have hcs:=KO h1;have hcp:=Fw (deep+1);have h6:=zN hcp h4;rw[eH]at hs
  have hcn:∀n:Nat,n<=500->qS n=some s->0<=s/\s<=sG deep:=λn hn h=>by
   unfold qS at h
   split at h
   ·cases h;omega
   ·cases h
  have Uv:(k=2\/k=3)->ks.length<=8:=λhk=>by
   rcases sF h2 with⟨h,_⟩|⟨h,_⟩|⟨_,_,h⟩|⟨h,_⟩
   ·omega
   ·omega
   ·exact h
   ·omega
  have ac6:ks.length<=8->kQ (uh fs ks)<=sG deep:=λh=>by
   rw[h5]at h6;have:=Int.mul_le_mul_of_nonneg_right (show(ks.length:Int)<=8 by omega) hcp;omega
  split at hs
  ·exact hcn _ (dm (qm _ _) (hw _)) hs
  ·split at hs
   ·exact hcn _ (dm (Jm _ _) (hw _)) hs
   ·split at hs
    ·rename_i hk
     split at hs
     ·cases hs;exact⟨h6.1,ac6 (Uv (.inl hk))⟩
     ·cases hs
    ·split at hs
     ·rename_i hk
      split at hs
      ·cases hs;exact⟨h6.1,ac6 (Uv (.inr hk))⟩
      ·cases hs
     ·split at hs
      ·cases hs
      ·cases hs;omega
theorem Fx (fs:List Fd) (hw:∀k,(cT fs k).length<=500):∀(ks:List Qy) (deep:Nat),(∀q∈ks,ik q deep=0)->∀o∈uh fs ks,∀s,o=some s->0<=s/\s<=sG deep
 |[],_,_,o,ho,_,_=>by rw[uh]at ho;cases ho
 |q::ks,deep,hm,o,ho,s,hs=>by
  rw[uh]at ho;rcases dz.1 ho with h|h
  ·exact qn fs hw q deep (hm q (bP ..)) s (by rw[<-h];exact hs)
  ·exact Fx fs hw ks deep (λx hx=>hm x (cv _ hx)) o h s hs
end
theorem BS {d:Dc} (h:iy d) (i:Nat) (t:Fd):EJ i (cF d.2) (cZ t)=if 0<(iN (cT d.2 t.1) t.2).length then[((i:Int),iN (cT d.2 t.1) t.2)]else[]:=by
 have hp:=Pn h i t;rcases xK h i (cZ t)with h1|⟨u,hu,hk,h1⟩
 ·rw[h1,if_neg (λhn=>(hp.2 hn) h1)]
 ·rw[h1,if_pos (hp.1 (by rw[h1];simp))];have JH:=(iI h.IX).1 hu;obtain⟨f,hf,JC,Me⟩:=sz.1 JH;have e:u=t:=Fq (by obtain⟨p,hp,rfl⟩:=cx.1 JH;exact h.IX p hp) (Fp _ _ Me) hk;rw[e,Pp h.once]
def Fy (t:Fd) (e:En):Option Int:=qS (iN (cT e.1.2 t.1) t.2).length
theorem PA (t:Fd):∀(L:List En) (i:Nat),(∀e∈L,iy e.1)->(Bz (cZ t) i L).map (λp=>((p.1:Int),((p.2.length:Nat):Int)))=ij (Fy t) i L
 |[],_,_=>rfl
 |e::L,i,hF=>by
  show(EJ i (cF e.1.2) (cZ t)++Bz (cZ t) (i+1) L).map _=_;rw[dM,BS (hF e (by simp)) i t,PA t L (i+1) (λe' he=>hF e' (by simp[he])),ij,Fy,qS];by_cases h:0<(iN (cT e.1.2 t.1) t.2).length
  ·rw[if_pos h,if_pos h];rfl
  ·rw[if_neg h,if_neg h];rfl
theorem PB {L:List En} (hF:∀e∈L,iy e.1) {t:Fd} {p:Po}:p∈pk L (cZ t)↔∃(d:Nat) (e:En),L[d]? =some e/\p=((d:Int),iN (cT e.1.2 t.1) t.2)/\0<(iN (cT e.1.2 t.1) t.2).length:=by
 have key:∀(L:List En) (i:Nat),(∀e∈L,iy e.1)->(p∈Bz (cZ t) i L↔∃(d:Nat) (e:En),L[d]? =some e/\p=(((i+d:Nat):Int),iN (cT e.1.2 t.1) t.2)/\0<(iN (cT e.1.2 t.1) t.2).length):=by
  intro L
  induction L with
  |nil=>intro i _;simp[Bz]
  |cons e L ih=>
   intro i hF;show p∈EJ i (cF e.1.2) (cZ t)++Bz (cZ t) (i+1) L↔_;rw[dw,ih (i+1) (λx hx=>hF x (cv _ hx)),BS (hF e (bP ..)) i t];constructor
   ·rintro(h|⟨d,x,h1,h2,h3⟩)
    ·split at h
     ·rename_i hc
      exact⟨0,e,rfl,by simpa using h,hc⟩
     ·cases h
    ·exact⟨d+1,x,by simpa using h1,by rw[h2];congr 2;omega,h3⟩
   ·rintro⟨d,x,h1,h2,h3⟩
    cases d with
    |zero=>simp at h1;subst h1;exact .inl (by rw[if_pos h3,h2];simp)
    |succ d=>exact .inr ⟨d,x,by simpa using h1,by rw[h2];congr 2;omega,h3⟩
 have:=key L 0 hF;simpa[pk]using this
theorem qo {d:Dc} (h:iy d) (k:List UInt8):(cT d.2 k).length<=500:=by
 unfold cT
 split
 ·rename_i f hf
  have hm:=List.mem_of_find?_eq_some hf
  have:(words f.2).length<=(cF d.2).length:=by
   obtain⟨i,hi⟩:=bK.1 hm
   have e:cF d.2=cF (d.2.take i)++(gy f++cF (d.2.drop (i+1))):=by
    obtain⟨h1,h2⟩:=al.1 hi
    have:d.2=d.2.take i++(f::d.2.drop (i+1)):=by
     conv=>lhs;rw[<-gT i d.2,eW h1,h2]
    conv=>lhs;rw[this]
    unfold cF;rw[List.flatMap_append,List.flatMap_cons]
   rw[e,bM,bM];have:(gy f).length=(words f.2).length:=by unfold gy;simp
   omega
  have:=h.many;omega
 ·simp
end Go.K
namespace Go.K
open Go.Proofs
set_option maxRecDepth 10000
theorem HH {M:aL} {a b:List (List UInt8)} {v u:Value} (w0:World) (hM:Lt M w0) (hv:((RT.str).sl).V M w0 a v) (hu:((RT.str).sl).V M w0 b u):
  Spec Tryz.prog 125 #[v,u] w0 (λv' w'=>v'= .bool (decide (a=b))/\Step M w0 M w' aD):=by
 have gX:=hM;have hla:=cQ hv;have hlb:=cQ hu;refine a7 (args:=[_,_]) (fn:=Tryz.f125) Tryz.func125 G (n:=26) Tryz.ntmps125 ?_;have S:Step M w0 M w0 aD:=aW;refine T.aP (Rg.aZ G G (aK (T.aP (ab G G (bz aB G hv G (ab G G (bz aB G hu G (eV G G G ?_))))))));refine ad ?_;refine bF G (λc1=>?_) (λc1=>?_)
 ·refine T.aP (Rg.aZ G G (aI ?_));exact aF rfl rfl ⟨congrArg Value.bool (decide_eq_false (λe=>by subst e;exact c1 G)).symm,S⟩
 ·have hlen:a.length=b.length:=by omega
  refine aR (aK (T.aP (Rg.aZ G G (aX ?_))));refine cY (σ:=Nat) (λk=>[(0,v),(1,u),(5,.int .i64 (k:Int))]) (λk w=>Step M w0 M w aD/\((RT.str).sl).V M w a v/\((RT.str).sl).V M w b u/\k<=a.length/\a.take k=b.take k) (λk=>a.length-k) 0 a00 ?_ ?_
  ·exact⟨S,hv,hu,bp _,G⟩
  ·clear S hv hu hM;rintro k w ⟨S,hv,hu,hk,heq⟩;have hM:=S.lt gX;refine aK (T.aP (ab G G (ab G G (bz aB G hv G (cy G G G (ad ?_))))));refine bF G (λc4=>?_) (λc4=>?_)
   ·refine aR (aK (aX (aK ?_)));apply uJ mixed rfl rfl;intro wD6 sA6;have sU:=sA6 M;replace hv:=hv.le sU.le;replace hu:=hu.le sU.le;replace hM:=sU.lt hM;have:=S.size;replace S:=S.av sU;refine ab G G (Rg.de (ab G G (Rg.de ?_)));obtain⟨x,IE⟩:∃x,a[k]? =some x:=⟨_,an q0⟩;obtain⟨y,J8⟩:∃y,b[k]? =some y:=⟨_,an q0⟩;refine cB aB I9 G G G hv bU q0 (λu62 x_ gD HA=>?_);rw[ar]at gD;obtain rfl:=aJ (IE.symm.trans gD);refine Rg.de ?_;refine bD az G G G G G HA bU (λv63 ua=>?_);obtain rfl:=dS ua;refine Rg.de (ab G G (Rg.de (ab G G (Rg.de ?_))));refine cB aB I9 G G G hu bU q0 (λu66 x_ gD KP=>?_);rw[ar]at gD;obtain rfl:=aJ (J8.symm.trans gD);refine Rg.de ?_;refine bD az G G G G G KP bU (λv67 XZ=>?_);obtain rfl:=dS XZ;refine Rg.de (Rg.Du G G G (Rg.de (fF ?_)));refine bF G (λc6=>?_) (λc6=>?_)
    ·refine T.aP (Rg.aZ G G (aI ?_));exact aF rfl rfl ⟨congrArg Value.bool (decide_eq_false (λe=>by subst e;rw[IE]at J8;cases J8;exact c6 G)).symm,S⟩
    ·refine aR (aM (ab G G (bC G G G q0 (Rg.aZ G G ?_))));refine⟨G,k+1,a00,?_,?_⟩
     ·exact⟨S,hv,hu,by omega,by rw[b7,b7,heq,IE,J8,cG.1 c6]⟩
     ·omega
   ·refine cN (T.aP (Rg.aZ G G (aI ?_)));rw[bm q0,bm q0]at heq;exact aF G G ⟨congrArg Value.bool (decide_eq_true heq).symm,S⟩
theorem PC {M:aL} {a b:List (List UInt8)} {v u:Value} (w0:World) (hM:Lt M w0) (hv:((RT.str).sl).V M w0 a v) (hu:((RT.str).sl).V M w0 b u):
  Spec Tryz.prog 216 #[v,u] w0 (λv' w'=>v'= .bool (decide (a=b))/\Step M w0 M w' aD):=by
 have gX:=hM;have hla:=cQ hv;have hlb:=cQ hu;refine a7 (args:=[_,_]) (fn:=Tryz.f216) Tryz.func216 G (n:=26) Tryz.ntmps216 ?_;have S:Step M w0 M w0 aD:=aW;refine T.aP (Rg.aZ G G (aK (T.aP (ab G G (bz aB G hv G (ab G G (bz aB G hu G (eV G G G ?_))))))));refine ad ?_;refine bF G (λc1=>?_) (λc1=>?_)
 ·refine T.aP (Rg.aZ G G (aI ?_));exact aF rfl rfl ⟨congrArg Value.bool (decide_eq_false (λe=>by subst e;exact c1 G)).symm,S⟩
 ·have hlen:a.length=b.length:=by omega
  refine aR (aK (T.aP (ab G G (bz aB G hv G (ab G G (ad (aX ?_)))))));refine cY (σ:=Nat) (λk=>[(0,v),(1,u),(12,.int .i64 (a.length:Int)),(13,.int .i64 (k:Int))]) (λk w=>Step M w0 M w aD/\((RT.str).sl).V M w a v/\((RT.str).sl).V M w b u/\k<=a.length/\a.take k=b.take k) (λk=>a.length-k) 0 a38 ?_ ?_
  ·exact⟨S,hv,hu,bp _,G⟩
  ·clear S hv hu hM;rintro k w ⟨S,hv,hu,hk,heq⟩;have hM:=S.lt gX;refine T.aP (cy G G G (ad (aK ?_)));refine bF G (λc4=>?_) (λc4=>?_)
   ·refine aR (aK (aX (T.aP (ab G G (Rg.aZ G G (aK ?_))))));apply uJ mixed rfl rfl;intro wD6 sA6;have sU:=sA6 M;replace hv:=hv.le sU.le;replace hu:=hu.le sU.le;replace hM:=sU.lt hM;have:=S.size;replace S:=S.av sU;refine ab G G (Rg.de (ab G G (Rg.de ?_)));obtain⟨x,IE⟩:∃x,a[k]? =some x:=⟨_,an q0⟩;obtain⟨y,J8⟩:∃y,b[k]? =some y:=⟨_,an q0⟩;refine cB aB I9 G G G hv bU q0 (λu62 x_ gD HA=>?_);rw[ar]at gD;obtain rfl:=aJ (IE.symm.trans gD);refine Rg.de ?_;refine bD az G G G G G HA bU (λv63 ua=>?_);obtain rfl:=dS ua;refine Rg.de (ab G G (Rg.de (ab G G (Rg.de ?_))));refine cB aB I9 G G G hu bU q0 (λu66 x_ gD KP=>?_);rw[ar]at gD;obtain rfl:=aJ (J8.symm.trans gD);refine Rg.de ?_;refine bD az G G G G G KP bU (λv67 XZ=>?_);obtain rfl:=dS XZ;refine Rg.de (Rg.Du G G G (Rg.de (fF ?_)));refine bF G (λc6=>?_) (λc6=>?_)
    ·refine T.aP (Rg.aZ G G (aI ?_));exact aF rfl rfl ⟨congrArg Value.bool (decide_eq_false (λe=>by subst e;rw[IE]at J8;cases J8;exact c6 G)).symm,S⟩
    ·refine aR (aM (bC G G G q0 (ab G G (ad ?_))));refine⟨G,k+1,a38,?_,?_⟩
     ·exact⟨S,hv,hu,by omega,by rw[b7,b7,heq,IE,J8,cG.1 c6]⟩
     ·omega
   ·refine cN (T.aP (Rg.aZ G G (aI ?_)));rw[bm q0,bm q0]at heq;exact aF G G ⟨congrArg Value.bool (decide_eq_true heq).symm,S⟩
namespace TKQSame
theorem qT:TI Tryz.prog 26 (.slice none 0 0) 1 24:=by unfold TI;kernel_rfl
theorem jA:TI Tryz.prog 28 (.agg #[(.int .i64 0),(.string ⟨#[]⟩),(.string ⟨#[]⟩),(.slice none 0 0),(.slice none 0 0)]) 5 88:=by unfold TI;kernel_rfl
theorem X0:Enters Tryz.prog 162:=enters Tryz.func162 rfl QZ
theorem akV:Enters Tryz.prog 216:=enters Tryz.func216 rfl QZ
theorem akW:Enters Tryz.prog 217:=enters Tryz.func217 rfl QZ
end TKQSame
open TKQSame
set_option maxRecDepth 10000
theorem KQ {M:aL} {n:Nat} {a b:List Qy} {v u:Value} (w0:World) (hM:Lt M w0) (hv:((RT.qy n).sl (aS n)).V M w0 a v) (hu:((RT.qy n).sl (aS n)).V M w0 b u) (ih:∀x∈a,∀y∈b,∀(M:aL) (w:World) (v u:Value),Lt M w->(RT.qy n).V M w x v->(RT.qy n).V M w y u->Spec Tryz.prog 162 #[v,u] w (λv' w'=>v'= .bool (decide (x=y))/\Step M w M w' aD)):
  Spec Tryz.prog 217 #[v,u,.func (.func 162) #[] #[]] w0 (λv' w'=>v'= .bool (decide (a=b))/\Step M w0 M w' aD):=by
 have hla:=cQ hv;have hlb:=cQ hu;refine a7 (args:=[_,_,_]) (fn:=Tryz.f217) Tryz.func217 G (n:=32) Tryz.ntmps217 ?_;have S:Step M w0 M w0 aD:=aW;refine T.aP (Rg.aZ G G (aK (T.aP (ab G G (bz (A:=RT.qy n) (hn:=aS _) bh G hv G (ab G G (bz (A:=RT.qy n) (hn:=aS _) bh G hu G (eV G G G ?_))))))));refine ad ?_;refine bF G (λc1=>?_) (λc1=>?_)
 ·refine T.aP (Rg.aZ G G (aI ?_));exact aF rfl rfl ⟨congrArg Value.bool (decide_eq_false (λe=>by subst e;exact c1 G)).symm,S.back⟩
 ·have hlen:a.length=b.length:=by omega
  refine aR (aK (T.aP (ab G G (bz (A:=RT.qy n) (hn:=aS _) bh G hv G (ab G G (ad (aX ?_)))))));refine cY (σ:=Nat) (λk=>[(0,v),(1,u),(2,.func (.func 162) #[] #[]),(15,v),(16,.int .i64 (a.length:Int)),(17,.int .i64 (k:Int))]) (λk w=>∃M1,Lt M1 w/\Step M w0 M1 w aD/\((RT.qy n).sl (aS n)).V M1 w a v/\((RT.qy n).sl (aS n)).V M1 w b u/\k<=a.length/\a.take k=b.take k) (λk=>a.length-k) 0 ae1 ?_ ?_
  ·exact⟨_,hM,S,hv,hu,bp _,G⟩
  ·clear S hv hu hM;rintro k w ⟨M1,hM,S,hv,hu,hk,heq⟩;refine T.aP (cy G G G (ad (aK ?_)));refine bF G (λc4=>?_) (λc4=>?_)
   ·refine aR (aK (aX (T.aP (ab G G ?_))));obtain⟨x,hx⟩:∃x,(a)[k]? =some x:=⟨_,an q0⟩;refine cB (A:=RT.qy n) (hn:=aS _) (M:=M1) bh (IQ jA _) G G G hv bU q0 (λu51 x_ gD HI=>?_);rw[ar]at gD;obtain rfl:=aJ (hx.symm.trans gD);refine bR (A:=RT.qy (n)) aq G (IQ jA _) (aS _) (ef _) G G HI bU (λv52 uk=>?_);obtain⟨xw,xk,rfl,xr,xl,hxw,hxk⟩:=l1 (lZ uk);refine eB M1 jA G (λX1 aaA at1 at2 pE xu=>?_);obtain⟨Fz,PD⟩:∃M',M'=ins M1 X1:=⟨_,rfl⟩;rw[<-PD]at xu;have nf:Fz X1:=by rw[PD];exact .inl G
    change aaA.heap[X1]? =some (.cells #[.int .i64 0,.string ⟨#[]⟩,.string ⟨#[]⟩,.slice none 0 0,.slice none 0 0] _ _)at pE;replace hv:=hv.le xu.le;replace hu:=hu.le xu.le;replace uk:=uk.le xu.le;replace hM:=xu.lt hM;have:=S.size;replace S:=S.av xu;refine aG G G ?_;refine dP (M:=Fz) (vs:=[.int .i64 x.kind,.string ⟨x.term.1.toArray⟩,.string ⟨x.term.2.toArray⟩,xw,xk]) jA G G (Cq hxw hxk) G G pE nf (λwq5 gq5 X2=>?_);have:=ah pE;replace nf:=(X2.mem _ this).2 nf;replace hv:=hv.le X2.le;replace hu:=hu.le X2.le;replace uk:=uk.le X2.le;replace hM:=X2.lt hM;have:=S.size;replace S:=S.trans X2 (λk hk h=>by have h:_=_:=h;subst h;first|(exfalso;omega)|(show _<=_;omega)|exact⟨by first|omega|assumption,(S.mem _ hk).1 ((X2.mem _ (ah pE)).1 nf)⟩|exact .inl rfl|exact .inr rfl|exact .inr (.inl rfl)|exact .inr (.inr rfl)|exact .inr (.inr (.inl rfl))|exact rfl);have UJ:=gq5;clear pE;have pE:=UJ;clear UJ;refine ad (T.aP (ab G G (ab G G ?_)));obtain⟨y,hy⟩:∃x,(b)[k]? =some x:=⟨_,an q0⟩;refine cB (A:=RT.qy n) (hn:=aS _) (M:=Fz) bh (IQ jA _) G G G hu bU q0 (λu62 x_ gD HA=>?_);rw[ar]at gD;obtain rfl:=aJ (hy.symm.trans gD);refine bR (A:=RT.qy (n)) aq G (IQ jA _) (aS _) (ef _) G G HA bU (λv63 ua=>?_);obtain⟨yw,yk,rfl,yr,yl,hyw,hyk⟩:=l1 (lZ ua);refine eB Fz jA G (λX3 akZ at6 at7 AW C6=>?_);obtain⟨UK,PE⟩:∃M',M'=ins Fz X3:=⟨_,rfl⟩;rw[<-PE]at C6;have vX:UK X3:=by rw[PE];exact .inl G
    change akZ.heap[X3]? =some (.cells #[.int .i64 0,.string ⟨#[]⟩,.string ⟨#[]⟩,.slice none 0 0,.slice none 0 0] _ _)at AW;have:=ah pE;replace nf:=(C6.mem _ this).2 nf;replace pE:=C6.aE pE;replace hv:=hv.le C6.le;replace hu:=hu.le C6.le;replace uk:=uk.le C6.le;replace ua:=ua.le C6.le;replace hM:=C6.lt hM;have:=S.size;replace S:=S.av C6;refine dP (M:=UK) (vs:=[.int .i64 y.kind,.string ⟨y.term.1.toArray⟩,.string ⟨y.term.2.toArray⟩,yw,yk]) jA G G (Cq hyw hyk) G G AW vX (λwq6 gq6 QU=>?_);have:=ah pE;replace nf:=(QU.mem _ this).2 nf;replace pE:=QU.bW pE a07;have:=ah AW;replace vX:=(QU.mem _ this).2 vX;replace hv:=hv.le QU.le;replace hu:=hu.le QU.le;replace uk:=uk.le QU.le;replace ua:=ua.le QU.le;replace hM:=QU.lt hM;have:=S.size;replace S:=S.trans QU (λk hk h=>by have h:_=_:=h;subst h;first|(exfalso;omega)|(show _<=_;omega)|exact⟨by first|omega|assumption,(S.mem _ hk).1 ((QU.mem _ (ah AW)).1 vX)⟩|exact .inl rfl|exact .inr rfl|exact .inr (.inl rfl)|exact .inr (.inr rfl)|exact .inr (.inr (.inl rfl))|exact rfl);have UL:=gq6;clear AW;have AW:=UL;clear UL;refine ad (T.aP (ab G G (eX (vs:=[.int .i64 x.kind,.string ⟨x.term.1.toArray⟩,.string ⟨x.term.2.toArray⟩,xw,xk]) aq G jA G G G pE (eX (vs:=[.int .i64 y.kind,.string ⟨y.term.1.toArray⟩,.string ⟨y.term.2.toArray⟩,yw,yk]) aq G jA G G G AW ?_))));refine uI (first:=[]) (captured:=[]) (xs:=[.tmp 27,.tmp 28]) G G G X0 (ih x (au hx) y (au hy) _ _ _ _ hM uk ua) (λr7 w7 hc=>?_);obtain⟨rfl,s7⟩:=hc;have:=ah pE;replace nf:=(s7.mem _ this).2 nf;replace pE:=s7.aE pE;have:=ah AW;replace vX:=(s7.mem _ this).2 vX;replace AW:=s7.aE AW;replace hv:=hv.le s7.le
    replace hu:=hu.le s7.le;replace uk:=uk.le s7.le;replace ua:=ua.le s7.le;replace hM:=s7.lt hM;have:=S.size;replace S:=S.av s7;refine ib G G (br (v':= .bool (decide (¬x=y))) (by simp) (ad ?_));refine bF G (λc7=>?_) (λc7=>?_)
    ·refine T.aP (Rg.aZ G G (aI ?_));exact aF rfl rfl ⟨congrArg Value.bool (decide_eq_false (λe=>by subst e;rw[hx]at hy;cases hy;exact c7 G)).symm,S.back⟩
    ·refine aR (aM (bC G G G q0 (ab G G (ad ?_))));refine⟨G,k+1,ae1,?_,?_⟩
     ·exact⟨_,hM,S,hv,hu,by omega,by rw[b7,b7,heq,hx,hy,cG.1 c7]⟩
     ·omega
   ·refine cN (T.aP (Rg.aZ G G (aI ?_)));rw[bm q0,bm q0]at heq;exact aF G G ⟨congrArg Value.bool (decide_eq_true heq).symm,S.back⟩
theorem zO {M:aL} {n:Nat} {a b:Qy} {v u:Value} (w0:World) (hM:Lt M w0) (hv:(RT.qy (n+1)).V M w0 a v) (hu:(RT.qy (n+1)).V M w0 b u) (ih:∀x∈a.kids,∀y∈b.kids,∀(M:aL) (w:World) (v u:Value),Lt M w->(RT.qy n).V M w x v->(RT.qy n).V M w y u->Spec Tryz.prog 162 #[v,u] w (λv' w'=>v'= .bool (decide (x=y))/\Step M w M w' aD)):
  Spec Tryz.prog 162 #[v,u] w0 (λv' w'=>v'= .bool (decide (a=b))/\Step M w0 M w' aD):=by
 refine a7 (args:=[_,_]) (fn:=Tryz.f162) Tryz.func162 G (n:=31) Tryz.ntmps162 ?_;have S:Step M w0 M w0 aD:=aW;refine T.aP ?_;refine ej (A:=RT.qy (n+1)) (a:=a) G G hM hv (ef _) (λu2 FA fm iO _=>?_);replace hv:=hv.le iO.le;replace hu:=hu.le iO.le;replace hM:=iO.lt hM;have:=S.size;replace S:=S.av iO;refine ej (A:=RT.qy (n+1)) (a:=b) G G hM hu (ef _) (λu3 wb1 gI sb1 _=>?_);replace hu:=hu.le sb1.le;replace fm:=fm.le (aS _) sb1.le;replace hM:=sb1.lt hM;have:=S.size;replace S:=S.av sb1;refine Rg.aZ G G (T.aP ?_);refine ao (A:=RT.qy (n+1)) (B:=RT.int .i64) aq G G I3 QZ (yz n) G G (aS _) fm bU (λIH mC=>?_);refine bT ak G G mC bU (λum=>?_);refine br (v':= .int .i64 a.kind) G ?_;refine ao (A:=RT.qy (n+1)) (B:=RT.int .i64) aq G G I3 QZ (yz n) G G (aS _) gI bU (λu12 HJ=>?_);refine bT ak G G HJ bU (λafy=>?_);refine br (v':= .int .i64 b.kind) G (fi G G G (ab G G ?_));refine aO (g:=10) G (λk3=>?_) (λk3=>?_)
 ·refine ae G G ?_;refine ao (A:=RT.qy (n+1)) (B:=RT.fd) aq G G lA QZ (D1 n) G G (aS _) fm bU (λu16 X4=>?_);refine ae G G ?_;refine bR (A:=RT.fd) bI G lA QZ G G G X4 bU (λv17 KR=>?_);obtain rfl:=ki KR;refine ae G G ?_;refine ao (A:=RT.qy (n+1)) (B:=RT.fd) aq G G lA QZ (D1 n) G G (aS _) gI bU (λu18 WT=>?_);refine ae G G ?_;refine bR (A:=RT.fd) bI G lA QZ G G G WT bU (λv19 Sb=>?_);obtain rfl:=ki Sb;refine ae G G (Rg.akS (p:=a.term) (q:=b.term) bI ah2 ah2 QZ QZ G G az az G G G (aU G G G (ab G G ?_)));refine aO (g:=17) G (λuq=>?_) (λuq=>?_)
  ·refine ae G G ?_;refine ao (A:=RT.qy (n+1)) (B:=(RT.str.sl)) aq G G xp QZ (Gr n) G G (aS _) fm bU (λaub ac8=>?_);refine ae G G ?_;refine bD aB G G G G G ac8 bU (λauc ac9=>?_);refine ae G G ?_;refine ao (A:=RT.qy (n+1)) (B:=(RT.str.sl)) aq G G xp QZ (Gr n) G G (aS _) gI bU (λaud ada=>?_);refine ae G G ?_;refine bD aB G G G G G ada bU (λaue adb=>?_);refine ae G G ?_;refine aQ G G akV (PC _ hM ac9 adb) (λauf aug hc=>?_);obtain⟨rfl,SR⟩:=hc;replace fm:=fm.le (aS _) SR.le;replace gI:=gI.le (aS _) SR.le;replace hM:=SR.lt hM;have:=S.size;replace S:=S.av SR;refine aU G G G (ab G G ?_);refine aO (g:=24) G (λur=>?_) (λur=>?_)
   ·refine ae G G ?_;refine ao (A:=RT.qy (n+1)) (B:=((RT.qy n).sl (aS n))) aq G G qT Nat.one_pos (Bj n) G G (aS _) fm bU (λak1 PF=>?_);refine ae G G ?_;refine bD bh G G G G G PF bU (λauh ade=>?_);refine ae G G ?_;refine ao (A:=RT.qy (n+1)) (B:=((RT.qy n).sl (aS n))) aq G G qT Nat.one_pos (Bj n) G G (aS _) gI bU (λaui adf=>?_);refine ae G G ?_;refine bD bh G G G G G adf bU (λauj adg=>?_);refine ae G G ?_;refine aQ G G akW (KQ _ hM ade adg ih) (λauk aul hc=>?_);obtain⟨rfl,SS⟩:=hc;replace fm:=fm.le (aS _) SS.le;replace gI:=gI.le (aS _) SS.le;replace hM:=SS.lt hM;have:=S.size;replace S:=S.av SS;refine aU G G G (Rg.aZ G G (aI ?_))
    first
    |exact a61
    |exact a83
    |exact a86
    |exact a88
   ·refine aj G G G G (aj G G G G (aj G G G G (aj G G G G (aj G G G G (aA G G G (Rg.aZ G G (aI ?_)))))))
    first
    |exact a61
    |exact a83
    |exact a86
    |exact a88
  ·refine aj G G G G (aj G G G G (aj G G G G (aj G G G G (aj G G G G (aA G G G (ab G G (aj G G G G (aj G G G G (aj G G G G (aj G G G G (aj G G G G ?_)))))))))));refine aA G G G (Rg.aZ G G (aI ?_))
   first
   |exact a61
   |exact a83
   |exact a86
   |exact a88
 ·refine aj G G G G (aj G G G G (aj G G G G (aj G G G G (aj G G G G (aA G G G (ab G G (aj G G G G (aj G G G G (aj G G G G (aj G G G G (aj G G G G ?_)))))))))));refine aA G G G (ab G G (aj G G G G (aj G G G G (aj G G G G (aj G G G G (aj G G G G (aA G G G (Rg.aZ G G (aI ?_)))))))))
  first
  |exact a61
  |exact a83
  |exact a86
  |exact a88
theorem zP:∀(n:Nat) {M:aL} {a b:Qy} {v u:Value} (w0:World) (hM:Lt M w0) (hv:(RT.qy n).V M w0 a v) (hu:(RT.qy n).V M w0 b u),Spec Tryz.prog 162 #[v,u] w0 (λv' w'=>v'= .bool (decide (a=b))/\Step M w0 M w' aD)
 |0,M,a,b,v,u,w0,hM,hv,hu=>zO (n:=0) w0 hM (lZ hv) (lZ hu) λx hx=>by
  obtain⟨vs,⟨_,_,_,_,_,_,_,_,_,_,_,_,hk,_⟩,_⟩:=hv;have hk:a.kids=[]:=hk;rw[hk]at hx;cases hx
 |n+1,M,a,b,v,u,w0,hM,hv,hu=>zO w0 hM hv hu λx _ y _ M w v u hM hv hu=>zP n w hM hv hu
end Go.K
namespace Go.K
open Go.Proofs
namespace TKQKind
theorem qT:TI Tryz.prog 26 (.slice none 0 0) 1 24:=by unfold TI;kernel_rfl
theorem jA:TI Tryz.prog 28 (.agg #[(.int .i64 0),(.string ⟨#[]⟩),(.string ⟨#[]⟩),(.slice none 0 0),(.slice none 0 0)]) 5 88:=by unfold TI;kernel_rfl
theorem C7:TI Tryz.prog 267 (.agg #[(.string ⟨#[]⟩),.nilFunc,.nilFunc,.nilFunc]) 4 40:=by unfold TI;kernel_rfl
theorem B28:placesOf Tryz.prog 28=[(0,1),(1,2),(3,1),(4,1)].map some:=by kernel_rfl
theorem PG:placesOf Tryz.prog 267=[(0,1),(1,1),(2,1),(3,1)].map some:=by kernel_rfl
theorem X5:Enters Tryz.prog 211:=enters Tryz.func211 rfl QZ
end TKQKind
open TKQKind
set_option maxRecDepth 10000
def kc:Qy->Qy
 |.mk k t ws ks=>if k=1 then .mk k t [] []else if k=5 then .mk k (t.1,[]) ws []else .mk k ([],[]) [] ks
def KV (k:Int) (v:Value) (w:World):Prop:=
 (k=1/\v= .agg #[.string ⟨#[]⟩,.func (.func 203) #[] #[],.func (.func 204) #[] #[],.func (.func 205) #[] #[]])\/
 (k=5/\v= .agg #[.string ⟨#[]⟩,.func (.func 207) #[] #[],.func (.func 208) #[] #[],.func (.func 209) #[] #[]])\/
 ((k=2\/k=3\/k=4)/\∃b wd fv,v= .agg #[.string wd,.func (.func 202) #[] #[],.func (.func 269) #[] #[.pointer (some ⟨b,0,none⟩)],.func (.func fv) #[] #[]]/\w.heap[b]? =some (.cells #[.int .i64 (if k=4 then 1 else 8)] 3 (0,0)))\/
 ((k<1\/5<k)/\v= .agg #[.string ⟨#[]⟩,.nilFunc,.nilFunc,.nilFunc])
theorem KV.step {k:Int} {v:Value} {M M' N:aL} {w w':World} (h:KV k v w) (s:Step M w M' w' N) (hN:∀b,N b->∀cs,w.heap[b]? ≠some (.cells cs 3 (0,0))):KV k v w':=by
 rcases h with h|h|⟨h1,b,wd,fv,h2,h3⟩|h
 ·exact .inl h
 ·exact .inr (.inl h)
 ·exact .inr (.inr (.inl ⟨h1,b,wd,fv,h2,s.bW h3 λhn=>hN b hn _ h3⟩))
 ·exact .inr (.inr (.inr h))
theorem KV.cells {k:Int} {v:Value} {w:World} (h:KV k v w):∃a b c d,v= .agg #[a,b,c,d]/\a.oneCell'=true/\b.oneCell'=true/\c.oneCell'=true/\d.oneCell'=true:=by
 rcases h with⟨_,h⟩|⟨_,h⟩|⟨_,b,wd,fv,h,_⟩|⟨_,h⟩
 all_goals exact⟨_,_,_,_,h,rfl,rfl,rfl,rfl⟩
theorem vY {M:aL} {k:Int} (w0:World) (hM:Lt M w0):
  Spec Tryz.prog 211 #[.int .i64 k] w0 (λv w=>∃b,v= .func (.func 269) #[] #[.pointer (some ⟨b,0,none⟩)]/\w0.heap.size<=b/\w.heap[b]? =some (.cells #[.int .i64 k] 3 (0,0))/\Step M w0 M w aD):=by
 refine a7 (args:=[_]) (fn:=Tryz.f211) Tryz.func211 G (n:=4) Tryz.ntmps211 (T.aP ?_);refine np M G G (λb1 w1 p1 q1 g1 s1=>?_);change w1.heap[b1]? =some (.cells #[.int .i64 k] _ _)at g1;refine Rg.aZ G G (T.aP (jj (xs:=[]) (ys:=[.tmp 1]) G G G (Rg.aZ G G (aI ?_))));exact aF G G ⟨b1,G,p1,g1,s1.back⟩
set_option maxHeartbeats 2000000 in
theorem HK {M:aL} (w0:World) (hM:Lt M w0):
  Spec Tryz.prog 161 #[] w0 (λv w=>∃mb es clock,v= .map (some mb)/\w.heap[mb]? =some (.map (es:List MapEntry).toArray clock)/\(∀(k:Int),∃o,Instr.findNow (.int .i64) (.int .i64 k) es 0=some o/\o.isSome=decide (1<=k/\k<=5)/\KV k ((o.map Prod.snd).getD (.agg #[.string ⟨#[]⟩,.nilFunc,.nilFunc,.nilFunc])) w)/\Step M w0 M w aD):=by
 refine a7 (args:=[]) (fn:=Tryz.f161) Tryz.func161 G (n:=15) Tryz.ntmps161 (T.aP (Rg.aZ G G (T.aP (Rg.aZ G G (T.aP ?_)))));refine Rg.yy M rJ G (λmb wk hmb _ hW S=>?_);have gk:=hW.at_;obtain⟨Mk,hMk⟩:∃Mk,Mk=ins M mb:=⟨_,rfl⟩;have mk:Mk mb:=by rw[hMk];exact .inl G
 rw[<-hMk]at S;replace hM:=S.lt hM;clear hW;refine dN (places:=[(0,1),(1,1),(2,1),(3,1)]) rK C7 PG rfl ⟨_,_,rfl,rfl,_,_,rfl,rfl,_,_,rfl,rfl,_,_,rfl,rfl,rfl⟩ (out:=[_,_,_,_]) ⟨0,[_],rfl,rfl,by simp[Value.cells],1,[_],rfl,rfl,by simp[Value.cells],2,[_],rfl,rfl,by simp[Value.cells],3,[_],rfl,rfl,by simp[Value.cells],rfl⟩ ?_;refine Rg.tA (es:=[]) (M:=Mk) rJ ak G G G gk G mk (λw1 g1 s1=>?_);replace S:=S.ck s1 (λq hq=>by have hq:q=mb:=hq;omega);replace hM:=s1.lt hM;replace mk:=(s1.mem _ (ah gk)).2 mk;refine dN (places:=[(0,1),(1,1),(2,1),(3,1)]) rK C7 PG rfl ⟨_,_,rfl,rfl,_,_,rfl,rfl,_,_,rfl,rfl,_,_,rfl,rfl,rfl⟩ (out:=[_,_,_,_]) ⟨0,[_],rfl,rfl,by simp[Value.cells],1,[_],rfl,rfl,by simp[Value.cells],2,[_],rfl,rfl,by simp[Value.cells],3,[_],rfl,rfl,by simp[Value.cells],rfl⟩ ?_;refine Rg.tA (es:=[_]) (M:=Mk) rJ ak G G G g1 G mk (λw5 g5 s5=>?_);replace S:=S.ck s5 (λq hq=>by have hq:q=mb:=hq;omega);replace hM:=s5.lt hM;replace mk:=(s5.mem _ (ah g1)).2 mk;refine ab G G ?_;refine aQ G G X5 (vY (M:=Mk) (k:=8) _ hM) (λrm2 wm2 hc=>?_);obtain⟨bm2,rfl,pm2,PH,sm2⟩:=hc;have nb2:bm2≠mb:=by have:=ah g5;omega
 replace S:=S.av sm2;replace hM:=sm2.lt hM;replace mk:=(sm2.mem _ (ah g5)).2 mk;replace g5:=sm2.aE g5;refine dN (places:=[(0,1),(1,1),(2,1),(3,1)]) rK C7 PG rfl ⟨_,_,rfl,rfl,_,_,rfl,rfl,_,_,rfl,rfl,_,_,rfl,rfl,rfl⟩ (out:=[_,_,_,_]) ⟨0,[_],rfl,rfl,by simp[Value.cells],1,[_],rfl,rfl,by simp[Value.cells],2,[_],rfl,rfl,by simp[Value.cells],3,[_],rfl,rfl,by simp[Value.cells],rfl⟩ ?_;refine Rg.tA (es:=[_,_]) (M:=Mk) rJ ak G G G g5 G mk (λw2 g2 s2=>?_);replace S:=S.ck s2 (λq hq=>by have hq:q=mb:=hq;omega);replace hM:=s2.lt hM;replace mk:=(s2.mem _ (ah g5)).2 mk;replace PH:=s2.bW PH nb2;refine ab G G ?_;refine aQ G G X5 (vY (M:=Mk) (k:=8) _ hM) (λrm3 wm3 hc=>?_);obtain⟨bm3,rfl,pm3,X6,sm3⟩:=hc;have nb3:bm3≠mb:=by have:=ah g2;omega
 replace S:=S.av sm3;replace hM:=sm3.lt hM;replace mk:=(sm3.mem _ (ah g2)).2 mk;replace g2:=sm3.aE g2;replace PH:=sm3.aE PH;refine dN (places:=[(0,1),(1,1),(2,1),(3,1)]) rK C7 PG rfl ⟨_,_,rfl,rfl,_,_,rfl,rfl,_,_,rfl,rfl,_,_,rfl,rfl,rfl⟩ (out:=[_,_,_,_]) ⟨0,[_],rfl,rfl,by simp[Value.cells],1,[_],rfl,rfl,by simp[Value.cells],2,[_],rfl,rfl,by simp[Value.cells],3,[_],rfl,rfl,by simp[Value.cells],rfl⟩ ?_;refine Rg.tA (es:=[_,_,_]) (M:=Mk) rJ ak G G G g2 G mk (λw3 g3 s3=>?_);replace S:=S.ck s3 (λq hq=>by have hq:q=mb:=hq;omega);replace hM:=s3.lt hM;replace mk:=(s3.mem _ (ah g2)).2 mk;replace PH:=s3.bW PH nb2;replace X6:=s3.bW X6 nb3;refine ab G G ?_;refine aQ G G X5 (vY (M:=Mk) (k:=1) _ hM) (λrm4 wm4 hc=>?_);obtain⟨bm4,rfl,pm4,gm4,Zl⟩:=hc;have nb4:bm4≠mb:=by have:=ah g3;omega
 replace S:=S.av Zl;replace hM:=Zl.lt hM;replace mk:=(Zl.mem _ (ah g3)).2 mk;replace g3:=Zl.aE g3;replace PH:=Zl.aE PH;replace X6:=Zl.aE X6;refine dN (places:=[(0,1),(1,1),(2,1),(3,1)]) rK C7 PG rfl ⟨_,_,rfl,rfl,_,_,rfl,rfl,_,_,rfl,rfl,_,_,rfl,rfl,rfl⟩ (out:=[_,_,_,_]) ⟨0,[_],rfl,rfl,by simp[Value.cells],1,[_],rfl,rfl,by simp[Value.cells],2,[_],rfl,rfl,by simp[Value.cells],3,[_],rfl,rfl,by simp[Value.cells],rfl⟩ ?_;refine Rg.tA (es:=[_,_,_,_]) (M:=Mk) rJ ak G G G g3 G mk (λw4 g4 s4=>?_);replace S:=S.ck s4 (λq hq=>by have hq:q=mb:=hq;omega);replace hM:=s4.lt hM;replace mk:=(s4.mem _ (ah g3)).2 mk;replace PH:=s4.bW PH nb2;replace X6:=s4.bW X6 nb3;replace gm4:=s4.bW gm4 nb4;refine ab G G (Rg.aZ G G (aI ?_));refine aF G G ⟨mb,_,_,G,g4,λk=>?_,S.back⟩;have fh:∀a b:Int,¬a=b->(a==b)=false:=λa b h=>by simpa using h
 by_cases h1:k=1
 ·subst h1;exact⟨_,G,G,.inl ⟨G,G⟩⟩
 by_cases h5:k=5
 ·subst h5;exact⟨_,G,G,.inr (.inl ⟨G,G⟩)⟩
 by_cases h2:k=2
 ·subst h2;exact⟨_,G,G,.inr (.inr (.inl ⟨.inl G,bm2,_,_,G,PH⟩))⟩
 by_cases h3:k=3
 ·subst h3;exact⟨_,G,G,.inr (.inr (.inl ⟨.inr (.inl G),bm3,_,_,G,X6⟩))⟩
 by_cases h4:k=4
 ·subst h4;exact⟨_,G,G,.inr (.inr (.inl ⟨.inr (.inr G),bm4,_,_,G,gm4⟩))⟩
 refine⟨none,?_,?_,.inr (.inr (.inr ⟨by omega,rfl⟩))⟩
 ·simp[Instr.findNow,Instr.sameNow,fh _ _ h1,fh _ _ h2,fh _ _ h3,fh _ _ h4,fh _ _ h5]
 ·exact(decide_eq_false q0).symm
theorem KS {M:aL} {n:Nat} {q:Qy} {v:Value} (w0:World) (hM:Lt M w0) (hv:(RT.qy (n+1)).V M w0 q v) (hk:q.kind=2\/q.kind=3\/q.kind=4):
  Spec Tryz.prog 202 #[v] w0 (λv w=>(RT.qy (n+1)).V M w (kc q) v/\Step M w0 M w aD):=by
 have gX:=hM;obtain⟨_,_,_,UM,sL,_,_⟩:=l1 hv
 have hqb:kc q= .mk q.kind ([],[]) [] q.kids:=by
  obtain⟨k,t,ws,ks⟩:=q
  first
  |exact if_pos hk
  |exact(if_neg (by show¬k=1;have hk:k=5:=hk;omega)).trans (if_pos hk)
  |exact(if_neg ai3).trans (if_neg ai4)
 refine a7 (args:=[_]) (fn:=Tryz.f202) Tryz.func202 G (n:=8) Tryz.ntmps202 ?_;have S:Step M w0 M w0 aD:=aW;refine T.aP ?_;refine ej (A:=RT.qy (n+1)) (a:=q) G G hM hv (ef _) (λu1 FA fR iO _=>?_);replace hv:=hv.le iO.le;replace hM:=iO.lt hM;have:=S.size;replace S:=S.av iO;refine eB M jA G (λjN vH Kd Ke eO iX=>?_);obtain⟨fM,ia⟩:∃M',M'=ins M jN:=⟨_,rfl⟩;rw[<-ia]at iX;have dX:fM jN:=by rw[ia];exact .inl G
 change vH.heap[jN]? =some (.cells #[.int .i64 0,.string ⟨#[]⟩,.string ⟨#[]⟩,.slice none 0 0,.slice none 0 0] _ _)at eO;replace fR:=fR.le (aS _) iX.le;replace hM:=iX.lt hM;have:=S.size;replace S:=S.av iX;refine ad (T.aP ?_);refine ao (A:=RT.qy (n+1)) (B:=RT.int .i64) aq G G I3 QZ (yz n) G G (aS _) fR bU (λIH mC=>?_);refine bT ak G G mC bU (λum=>?_);refine br (v':= .int .i64 q.kind) G ?_;refine ao (A:=RT.qy (n+1)) (B:=((RT.qy n).sl (aS n))) aq G G qT Nat.one_pos (Bj n) G G (aS _) fR bU (λu12 HJ=>?_);refine bD bh G G G G G HJ bU (λW9 FB=>?_);refine dN (places:=[(0,1),(1,2),(3,1),(4,1)]) aq jA B28 rfl ⟨_,_,rfl,rfl,_,_,rfl,rfl,rfl⟩ (out:=[_,.string ⟨#[]⟩,.string ⟨#[]⟩,.slice none 0 0,_]) ⟨0,[_],rfl,rfl,by simp[Value.cells],4,[_],rfl,iR FB,by simp[Value.cells],rfl⟩ ?_;refine dP (M:=fM) (vs:=[.int .i64 q.kind,.string ⟨#[]⟩,.string ⟨#[]⟩,.slice none 0 0,W9]) jA G G a97 rfl rfl eO dX (λw5 g5 s5=>?_);have:=ah eO;replace dX:=(s5.mem _ this).2 dX;replace fR:=fR.le (aS _) s5.le;replace FB:=FB.le s5.le;replace hM:=s5.lt hM;have:=S.size;replace S:=S.trans s5 (λk hk h=>by have h:_=_:=h;subst h;first|(exfalso;omega)|(show _<=_;omega)|exact⟨by first|omega|assumption,(S.mem _ hk).1 ((s5.mem _ (ah eO)).1 dX)⟩|exact .inl rfl|exact .inr rfl|exact .inr (.inl rfl)|exact .inr (.inr rfl)|exact .inr (.inr (.inl rfl))|exact rfl);have mP:=g5;clear eO;have eO:=mP;clear mP;refine ad (aI ?_);rw[hqb];exact rX G G aq G jA G g5 ⟨Ix UM ⟨by decide,by decide⟩ iQ (FB.le (nY gX S)),S.back⟩
theorem KT {M:aL} {n:Nat} {q:Qy} {v:Value} (w0:World) (hM:Lt M w0) (hv:(RT.qy (n+1)).V M w0 q v) (hk:q.kind=1):
  Spec Tryz.prog 203 #[v] w0 (λv w=>(RT.qy (n+1)).V M w (kc q) v/\Step M w0 M w aD):=by
 have gX:=hM;obtain⟨_,_,_,UM,sL,_,_⟩:=l1 hv
 have hqb:kc q= .mk q.kind q.term [] []:=by
  obtain⟨k,t,ws,ks⟩:=q
  first
  |exact if_pos hk
  |exact(if_neg (by show¬k=1;have hk:k=5:=hk;omega)).trans (if_pos hk)
  |exact(if_neg ai3).trans (if_neg ai4)
 refine a7 (args:=[_]) (fn:=Tryz.f203) Tryz.func203 G (n:=8) Tryz.ntmps203 ?_;have S:Step M w0 M w0 aD:=aW;refine T.aP ?_;refine ej (A:=RT.qy (n+1)) (a:=q) G G hM hv (ef _) (λu1 FA fR iO _=>?_);replace hv:=hv.le iO.le;replace hM:=iO.lt hM;have:=S.size;replace S:=S.av iO;refine eB M jA G (λjN vH Kd Ke eO iX=>?_);obtain⟨fM,ia⟩:∃M',M'=ins M jN:=⟨_,rfl⟩;rw[<-ia]at iX;have dX:fM jN:=by rw[ia];exact .inl G
 change vH.heap[jN]? =some (.cells #[.int .i64 0,.string ⟨#[]⟩,.string ⟨#[]⟩,.slice none 0 0,.slice none 0 0] _ _)at eO;replace fR:=fR.le (aS _) iX.le;replace hM:=iX.lt hM;have:=S.size;replace S:=S.av iX;refine ad (T.aP ?_);refine ao (A:=RT.qy (n+1)) (B:=RT.int .i64) aq G G I3 QZ (yz n) G G (aS _) fR bU (λIH mC=>?_);refine bT ak G G mC bU (λum=>?_);refine br (v':= .int .i64 q.kind) G ?_;refine ao (A:=RT.qy (n+1)) (B:=RT.fd) aq G G lA QZ (D1 n) G G (aS _) fR bU (λu12 HJ=>?_);refine bR (A:=RT.fd) bI G lA QZ G G G HJ bU (λW9 FB=>?_);obtain rfl:=ki FB;refine dN (places:=[(0,1),(1,2),(3,1),(4,1)]) aq jA B28 rfl ⟨_,_,rfl,rfl,_,_,rfl,rfl,rfl⟩ (out:=[_,_,_,.slice none 0 0,.slice none 0 0]) ⟨0,[_],rfl,rfl,by simp[Value.cells],1,[_,_],rfl,rfl,by simp[Value.cells],rfl⟩ ?_;refine dP (M:=fM) (vs:=[.int .i64 q.kind,.string ⟨q.term.1.toArray⟩,.string ⟨q.term.2.toArray⟩,.slice none 0 0,.slice none 0 0]) jA G G a97 rfl rfl eO dX (λw5 g5 s5=>?_);have:=ah eO;replace dX:=(s5.mem _ this).2 dX;replace fR:=fR.le (aS _) s5.le;replace hM:=s5.lt hM;have:=S.size;replace S:=S.trans s5 (λk hk h=>by have h:_=_:=h;subst h;first|(exfalso;omega)|(show _<=_;omega)|exact⟨by first|omega|assumption,(S.mem _ hk).1 ((s5.mem _ (ah eO)).1 dX)⟩|exact .inl rfl|exact .inr rfl|exact .inr (.inl rfl)|exact .inr (.inr rfl)|exact .inr (.inr (.inl rfl))|exact rfl);have mP:=g5;clear eO;have eO:=mP;clear mP;refine ad (aI ?_);rw[hqb];exact rX G G aq G jA G g5 ⟨Ix UM sL iQ iQ,S.back⟩
theorem FC {M:aL} {n:Nat} {q:Qy} {v:Value} (w0:World) (hM:Lt M w0) (hv:(RT.qy (n+1)).V M w0 q v) (hk:q.kind=5):
  Spec Tryz.prog 207 #[v] w0 (λv w=>(RT.qy (n+1)).V M w (kc q) v/\Step M w0 M w aD):=by
 have gX:=hM;obtain⟨_,_,_,UM,sL,_,_⟩:=l1 hv
 have hqb:kc q= .mk q.kind (q.term.1,[]) q.words []:=by
  obtain⟨k,t,ws,ks⟩:=q
  first
  |exact if_pos hk
  |exact(if_neg (by show¬k=1;have hk:k=5:=hk;omega)).trans (if_pos hk)
  |exact(if_neg ai3).trans (if_neg ai4)
 refine a7 (args:=[_]) (fn:=Tryz.f207) Tryz.func207 G (n:=12) Tryz.ntmps207 ?_;have S:Step M w0 M w0 aD:=aW;refine T.aP ?_;refine ej (A:=RT.qy (n+1)) (a:=q) G G hM hv (ef _) (λu1 FA fR iO _=>?_);replace hv:=hv.le iO.le;replace hM:=iO.lt hM;have:=S.size;replace S:=S.av iO;refine eB M jA G (λjN vH Kd Ke eO iX=>?_);obtain⟨fM,ia⟩:∃M',M'=ins M jN:=⟨_,rfl⟩;rw[<-ia]at iX;have dX:fM jN:=by rw[ia];exact .inl G
 change vH.heap[jN]? =some (.cells #[.int .i64 0,.string ⟨#[]⟩,.string ⟨#[]⟩,.slice none 0 0,.slice none 0 0] _ _)at eO;replace fR:=fR.le (aS _) iX.le;replace hM:=iX.lt hM;have:=S.size;replace S:=S.av iX;refine ad (T.aP ?_);refine ao (A:=RT.qy (n+1)) (B:=RT.int .i64) aq G G I3 QZ (yz n) G G (aS _) fR bU (λIH mC=>?_);refine bT ak G G mC bU (λum=>?_);refine br (v':= .int .i64 q.kind) G ?_;refine ao (A:=RT.qy (n+1)) (B:=RT.fd) aq G G lA QZ (D1 n) G G (aS _) fR bU (λu12 HJ=>?_);refine ao (A:=RT.fd) (B:=RT.str) bI G G I9 QZ DZ G G QZ HJ bU (λu13 X7=>?_);refine bD az G G G G G X7 bU (λv14 ak5=>?_);obtain rfl:=dS ak5;refine dN (places:=[(0,1),(1,1)]) bI lA B24 rfl ⟨_,_,rfl,rfl,rfl⟩ (out:=[_,.string ⟨#[]⟩]) ⟨0,[_],rfl,rfl,by simp[Value.cells],rfl⟩ ?_;refine ao (A:=RT.qy (n+1)) (B:=(RT.str.sl)) aq G G xp QZ (Gr n) G G (aS _) fR bU (λu16 X4=>?_);refine bD aB G G G G G X4 bU (λv17 KR=>?_);refine dN (places:=[(0,1),(1,2),(3,1),(4,1)]) aq jA B28 rfl ⟨_,_,rfl,rfl,_,_,rfl,rfl,_,_,rfl,rfl,rfl⟩ (out:=[_,_,_,_,.slice none 0 0]) ⟨0,[_],rfl,rfl,by simp[Value.cells],1,[_,_],rfl,rfl,by simp[Value.cells],3,[_],rfl,iR KR,by simp[Value.cells],rfl⟩ ?_;refine dP (M:=fM) (vs:=[.int .i64 q.kind,.string ⟨q.term.1.toArray⟩,.string ⟨#[]⟩,v17,.slice none 0 0]) jA G G a97 rfl rfl eO dX (λw5 g5 s5=>?_);have:=ah eO;replace dX:=(s5.mem _ this).2 dX;replace fR:=fR.le (aS _) s5.le;replace KR:=KR.le s5.le;replace hM:=s5.lt hM;have:=S.size
 replace S:=S.trans s5 (λk hk h=>by have h:_=_:=h;subst h;first|(exfalso;omega)|(show _<=_;omega)|exact⟨by first|omega|assumption,(S.mem _ hk).1 ((s5.mem _ (ah eO)).1 dX)⟩|exact .inl rfl|exact .inr rfl|exact .inr (.inl rfl)|exact .inr (.inr rfl)|exact .inr (.inr (.inl rfl))|exact rfl);have mP:=g5;clear eO;have eO:=mP;clear mP;refine ad (aI ?_);rw[hqb];exact rX G G aq G jA G g5 ⟨Ix UM ⟨sL.1,bp _⟩ (KR.le (nY gX S)) iQ,S.back⟩
end Go.K
namespace Go.K
open Go.Proofs
namespace TKWMay
theorem ak6:Enters Tryz.prog 299:=enters Tryz.func299 rfl QZ
end TKWMay
open TKWMay
set_option maxRecDepth 10000
theorem lE {l x:List UInt8} (h1:(words l).length=1) (hx:(words l)[0]? =some x):eA l=(decide (x=l)&&decide (l.length<=30)):=by
 obtain⟨y,hy⟩:∃y,words l=[y]:=List.length_eq_one_iff.1 h1;rw[hy]at hx;have hx:y=x:=by simpa using hx
 unfold eA;rw[hy,hx,jR];simp
theorem vZ {l:List UInt8} (h1: ¬(words l).length=1):eA l=false:=by
 unfold eA;rw[decide_eq_false_iff_not];rintro⟨h,_⟩;rw[h]at h1;exact h1 G
def kx (p:List Int×List (List UInt8)):Nat:=(gN p.1).length+(p.2.map List.length).sum
theorem PI {p:List Int×List (List UInt8)} {c:Int} (h:oB c=true):kx (eK p c)=kx p+(Lib.encodeRune (qB (eh c))).length:=by
 rw[yT h];unfold kx;simp only[];rw[kg,bM];omega
theorem BT {p:List Int×List (List UInt8)} {c:Int} (h:oB c=false):kx (eK p c)=kx p:=by
 rw[kh h];unfold kx;by_cases h0:0<p.1.length
 ·rw[if_pos h0];simp[gN];omega
 ·have:p.1=[]:=cL.1 q0;rw[if_neg h0];simp[gN,this]
theorem PJ {l:List UInt8} (h1:128<=(dec l).1) (h2:(dec l).1≠65533):2<=(dec l).2:=by
 unfold dec DY at*
 split at h1
 ·rename_i h;rw[if_pos h]at h2;simp only at h1;omega
 ·rename_i h;rw[if_neg h]at h2 ⊢
  split
  ·rename_i h3;rw[if_pos h3]at h2
   split
   ·simp only;omega
   ·rename_i h4;rw[if_neg h4]at h2;exact absurd G h2
  ·rename_i h3;rw[if_neg h3]at h2
   split
   ·rename_i h5;rw[if_pos h5]at h2
    split
    ·simp only;omega
    ·rename_i h4;rw[if_neg h4]at h2;exact absurd G h2
   ·rename_i h5;rw[if_neg h5]at h2
    split
    ·rename_i h6;rw[if_pos h6]at h2
     split
     ·simp only;omega
     ·rename_i h4;rw[if_neg h4]at h2;exact absurd G h2
    ·rename_i h6;rw[if_neg h6]at h2;exact absurd G h2
theorem PK {c:Int} (h:oB c=true):(0<=c/\c<128/\0<=eh c/\eh c<128)\/(128<=c/\c<2048/\128<=eh c/\eh c<2048):=by
 have h1:fD c=true\/l2 c=true:=by simpa[oB]using h
 simp only[fD,l2,decide_eq_true_eq]at h1;unfold eh
 split<;>omega
theorem BU {c:Int} (h:0<=c/\c<2048):qB c=c:=nH q0
theorem KU {l:List UInt8} (hl:l≠[]) (h:oB ((dec l).1:Int)=true):(Lib.encodeRune (qB (eh ((dec l).1:Int)))).length<=(dec l).2:=by
 have hw:=(jo hl).1;rcases PK h with⟨h1,h2,h3,h4⟩|⟨h1,h2,h3,h4⟩
 ·rw[BU q0,aau ⟨h3,h4⟩];exact hw
 ·rw[BU q0,aav ⟨h3,h4⟩];exact PJ q0 q0
theorem HL:∀(n:Nat) (l:List UInt8),l.length=n->∀p,kx ((dC l).foldl eK p)<=kx p+l.length/\(kx ((dC l).foldl eK p)=kx p+l.length->∀c∈dC l,oB c=true):=by
 intro n
 induction n using Nat.strongRecOn with
 |_ n ih=>
  intro l hn p;by_cases hl:l=[]
  ·subst hl;rw[nF];exact⟨bu _,λ_ c hc=>by cases hc⟩
  ·have hw:=jo hl;have hd:(l.drop (dec l).2).length=l.length-(dec l).2:=cP ..;obtain⟨h1,h2⟩:=ih (l.drop (dec l).2).length q0 _ rfl (eK p ((dec l).1:Int));rw[lY hl,pI]
   cases kZ:oB ((dec l).1:Int)with
   |true=>
    have h3:=PI (p:=p) kZ;have h4:=KU hl kZ;refine ⟨by omega,λe c hc=> ?_⟩;rcases dz.1 hc with rfl|hc
    ·exact kZ
    ·exact h2 q0 c hc
   |false=>
    have h3:=BT (p:=p) kZ;exact⟨by omega,λe=>by omega⟩
theorem Jn:∀(sg:List Int) (p:List Int×List (List UInt8)),(∀c∈sg,oB c=true)->sg.foldl eK p=(p.1++sg.map eh,p.2)
 |[],p,_=>by simp
 |c::sg,p,h=>by
  rw[pI,Jn sg _ (λx hx=>h x (cv _ hx)),yT (h c (bP ..))];simp
theorem FD {l:List UInt8} (h:∀c∈dC l,oB c=true) (hn:dC l≠[]):words l=[gN ((dC l).map eh)]:=by
 unfold words;rw[iH,Jn _ _ h];show(eK _ 32).2=_;rw[kh MZ,if_pos (by simp;exact dI.2 hn)];simp
theorem zQ (l:List UInt8):eA l=true↔dC l≠[]/\l.length<=30/\gN ((dC l).map eh)=l/\∀c∈dC l,oB c=true:=by
 unfold eA;rw[decide_eq_true_iff];constructor
 ·rintro⟨h1,h2⟩
  have gj:∀c∈dC l,oB c=true:=by
   refine (HL l.length l G ([],[])).2 ?_
   have h3:kx ((dC l++[32]).foldl eK ([],[]))=kx ((dC l).foldl eK ([],[])):=by
    rw[iH];exact BT MZ
   have h4:((dC l++[32]).foldl eK ([],[])).2=[l]:=h1
   have h5:((dC l++[32]).foldl eK ([],[])).1=[]:=by
    rw[iH];show(eK _ 32).1=[];rw[kh MZ];split<;>rfl
   rw[<-h3];unfold kx;rw[h4,h5];simp[gN]
  have fh:dC l≠[]:=λe=>by
   have:words l=[]:=by unfold words;rw[e];rfl
   rw[this]at h1;cases h1
  refine⟨fh,h2,?_,gj⟩;have:=FD gj fh;rw[this]at h1;simpa using h1
 ·rintro⟨h1,h2,h3,h4⟩;exact⟨by rw[FD h4 h1,h3],h2⟩
theorem gS {l:List UInt8} (h: ¬(dC l≠[]/\l.length<=30/\gN ((dC l).map eh)=l/\∀c∈dC l,oB c=true)):eA l=false:=fu.2 λe=>h ((zQ l).1 e)
theorem KW {M:aL} {l:List UInt8} (w0:World) (hM:Lt M w0) (hl:l.length<=3900000):
  Spec Tryz.prog 299 #[.string ⟨l.toArray⟩] w0 (λv w=>v= .bool (eA l)/\Step M w0 M w aD):=by
 refine a7 (args:=[_]) (fn:=Tryz.f299) Tryz.func299 G (n:=21) Tryz.ntmps299 ?_;have S:Step M w0 M w0 aD:=aW;refine T.aP (Rg.aZ G G (T.aP (ab G G ?_)));refine aQ G G VR (wJ _ hM hl) (λr1 w1 hc=>?_);obtain⟨hr,s1⟩:=hc;replace hM:=s1.lt hM;have:=S.size;replace S:=S.av s1;refine Rg.aZ G G (T.aP (ab G G ?_));have Nj:=lC l;refine bz aB G hr G (fi G G G (ab G G ?_));refine aO (g:=9) G (λSU=>?_) (λSU=>?_)
 ·refine ae G G (ab G G (ae G G ?_));obtain⟨x,hx⟩:∃x,(words l)[0]? =some x:=⟨_,an q0⟩;refine cB aB I9 G G G hr bU q0 (λu25 x_ gD ak7=>?_);obtain rfl:=aJ (hx.symm.trans gD);refine ae G G ?_;refine bD az G G G G G ak7 bU (λv26 X8=>?_);obtain rfl:=dS X8;refine ae G G (ab G G (ae G G (Rg.sY G G G (aU G G G (ab G G ?_)))));refine aO (g:=16) G (λzR=>?_) (λzR=>?_)
  ·refine ae G G (ab G G (ae G G (rF az G G (br (v':= .int .i64 (l.length:Int)) a81 (ae G G (fN G G G (aU G G G (Rg.aZ G G (aI ?_)))))))))
   first
   |exact aF rfl rfl ⟨congrArg Value.bool ae5,S⟩
   |exact aF G G ⟨congrArg Value.bool (by rw[lE q0 hx,decide_eq_false zR,eP]),S⟩
   |exact aF G G ⟨congrArg Value.bool (by rw[vZ q0]),S⟩
  ·refine aj G G G G (aj G G G G (aj G G G G (aA G G G (Rg.aZ G G (aI ?_)))))
   first
   |exact aF rfl rfl ⟨congrArg Value.bool ae5,S⟩
   |exact aF G G ⟨congrArg Value.bool (by rw[lE q0 hx,decide_eq_false zR,eP]),S⟩
   |exact aF G G ⟨congrArg Value.bool (by rw[vZ q0]),S⟩
 ·refine aj G G G G (aj G G G G (aj G G G G (aj G G G G (aj G G G G (aA G G G (ab G G (aj G G G G (aj G G G G (aj G G G G (aA G G G (aG G G ?_)))))))))));refine ad (aI ?_)
  first
  |exact aF rfl rfl ⟨congrArg Value.bool ae5,S⟩
  |exact aF G G ⟨congrArg Value.bool (by rw[lE q0 hx,decide_eq_false zR,eP]),S⟩
  |exact aF G G ⟨congrArg Value.bool (by rw[vZ q0]),S⟩
theorem UN {M:aL} {l:List UInt8} (w0:World) (hM:Lt M w0) (hl:l.length<=3900000):
  Spec Tryz.prog 266 #[.string ⟨l.toArray⟩] w0 (λv w=>v= .bool (!eA l)/\Step M w0 M w aD):=by
 refine a7 (args:=[_]) (fn:=Tryz.f266) Tryz.func266 G (n:=6) Tryz.ntmps266 (T.aP (Rg.aZ G G (T.aP (ab G G ?_))));refine aQ G G ak6 (KW _ hM hl) (λr1 w1 hc=>?_);obtain⟨rfl,s1⟩:=hc;refine ib G G (Rg.aZ G G (aI ?_));exact aF G G ⟨G,s1⟩
end Go.K
namespace Go.K
open Go.Proofs
namespace TKQOwn
theorem qT:TI Tryz.prog 26 (.slice none 0 0) 1 24:=by unfold TI;kernel_rfl
theorem ak8:Enters Tryz.prog 202:=enters Tryz.func202 rfl QZ
theorem ak9:Enters Tryz.prog 203:=enters Tryz.func203 rfl QZ
theorem ala:Enters Tryz.prog 204:=enters Tryz.func204 rfl QZ
theorem alb:Enters Tryz.prog 207:=enters Tryz.func207 rfl QZ
theorem alc:Enters Tryz.prog 208:=enters Tryz.func208 rfl QZ
theorem adj:Enters Tryz.prog 266:=enters Tryz.func266 rfl QZ
theorem ald:Enters Tryz.prog 268:=enters Tryz.func268 rfl QZ
theorem ale:Enters Tryz.prog 269:=enters Tryz.func269 rfl QZ
theorem alf:Enters Tryz.prog 300:=enters Tryz.func300 rfl QZ
end TKQOwn
open TKQOwn
set_option maxRecDepth 10000
theorem HM {M:aL} {l:List (List UInt8)} {v:Value} (w0:World) (hM:Lt M w0) (hv:(RT.str.sl).V M w0 l v) (hb:∀x∈l,x.length<=3900000):
  Spec Tryz.prog 300 #[v,.func (.func 266) #[] #[]] w0 (λv' w=>∃k:Int,v'= .int .i64 k/\ -1<=k/\(0<=k↔l.all eA=false)/\Step M w0 M w aD):=by
 have hlen:=cQ hv;refine a7 (args:=[_,_]) (fn:=Tryz.f300) Tryz.func300 G (n:=19) Tryz.ntmps300 ?_;have S:Step M w0 M w0 aD:=aW;refine T.aP (Rg.aZ G G (aK (T.aP (ab G G (bz aB G hv G (ab G G (ad (aX ?_))))))));refine cY (σ:=Nat) (λi=>[(0,v),(1,.func (.func 266) #[] #[]),(7,.int .i64 (l.length:Int)),(8,.int .i64 (i:Int))]) (λi w=>i<=l.length/\Lt M w/\Step M w0 M w aD/\(RT.str.sl).V M w l v/\∀(j:Nat) x,j<i->l[j]? =some x->eA x=true) (λi=>l.length-i) 0 a38 ?_ ?_
 ·exact⟨bp _,hM,S,hv,λj x h=>absurd h (eC _)⟩
 ·clear hM S hv;rintro i w ⟨hi,hM,S,hv,gj⟩;refine T.aP (cy G G G (ad (aK ?_)));refine bF G (λc2=>?_) (λc2=>?_)
  ·refine aR (aK (aX (T.aP (ab G G (Rg.aZ G G (T.aP (ab G G (ab G G ?_))))))));refine ab G G ?_;obtain⟨x,hx⟩:∃x,l[i]? =some x:=⟨_,an q0⟩;have Nt:=hb x (au hx);refine cB aB I9 G G G hv bU q0 (λu43 x_ gD XT=>?_);rw[ar]at gD;obtain rfl:=aJ (hx.symm.trans gD);refine bD az G G G G G XT bU (λv44 alg=>?_);obtain rfl:=dS alg;refine uI (first:=[]) (captured:=[]) (xs:=[.tmp 15]) G G G adj (UN (l:=x) _ hM Nt) (λr4 w4 hc=>?_);obtain⟨rfl,s4⟩:=hc;refine br (v':= .bool (decide (eA x=false))) (by cases eA x<;>rfl) ?_;replace hv:=hv.le s4.le;replace hM:=s4.lt hM;have:=S.size;replace S:=S.av s4;refine ad ?_;refine bF G (λc4=>?_) (λc4=>?_)
   ·refine T.aP (ab G G (Rg.aZ G G (aI ?_)));exact aF rfl rfl ⟨_,rfl,by omega,⟨λ_=>List.all_eq_false.2 ⟨x,au hx,by rw[c4];decide⟩,λ_=>by omega⟩,S⟩
   ·refine aR (aM (bC G G G q0 (ab G G (ad ?_))));refine⟨G,i+1,a38,?_,?_⟩
    ·refine ⟨by omega,hM,S,hv,λj y hj hy=> ?_⟩;rcases cI j i with h|h
     ·exact gj j y h hy
     ·obtain rfl:j=i:=by omega
      rw[hx]at hy;cases hy;simpa using c4
    ·omega
  ·refine cN (T.aP (Rg.aZ G G (aI ?_)))
   exact aF G G ⟨-1,G,by omega,⟨λh=>by omega,λh=>by
    obtain⟨x,hx,hn⟩:=List.all_eq_false.1 h;obtain⟨j,hj⟩:=bK.1 hx;exact absurd (gj j x ac7 hj) hn⟩,S⟩
theorem FE {M:aL} {l:List (List UInt8)} {v:Value} (w0:World) (hM:Lt M w0) (hv:(RT.str.sl).V M w0 l v) (hb:∀x∈l,x.length<=3900000):
  Spec Tryz.prog 268 #[v,.func (.func 266) #[] #[]] w0 (λv' w=>v'= .bool (decide (l.all eA=false))/\Step M w0 M w aD):=by
 refine a7 (args:=[_,_]) (fn:=Tryz.f268) Tryz.func268 G (n:=9) Tryz.ntmps268 (T.aP (Rg.aZ G G (T.aP (ab G G (ab G G ?_)))));refine aQ G G alf (HM _ hM hv hb) (λr1 w1 hc=>?_);obtain⟨k,rfl,pJ,Cc,s1⟩:=hc;refine ek G G G (Rg.aZ G G (aI ?_));exact aF G G ⟨congrArg Value.bool (decide_eq_decide.2 Cc),s1⟩
theorem HN {M:aL} {n:Nat} {q:Qy} {v:Value} (w0:World) (hM:Lt M w0) (hv:(RT.qy (n+1)).V M w0 q v) (hb:q.term.2.length<=3900000):
  Spec Tryz.prog 204 #[v] w0 (λv w=>v= .int .i64 (if ez q.term.1=false then 4 else if eA q.term.2=true then 0 else 9)/\Step M w0 M w aD):=by
 have qY:=hv;refine a7 (args:=[_]) (fn:=Tryz.f204) Tryz.func204 G (n:=14) Tryz.ntmps204 ?_;have S:Step M w0 M w0 aD:=aW;refine T.aP ?_;refine ej (A:=RT.qy (n+1)) (a:=q) G G hM hv (ef _) (λu1 FA fR iO _=>?_);replace hv:=hv.le iO.le;replace hM:=iO.lt hM;have:=S.size;replace S:=S.av iO;refine Rg.aZ G G (aK (aX (T.aP ?_)));refine ao (A:=RT.qy (n+1)) (B:=RT.fd) aq G G lA QZ (D1 n) G G (aS _) fR bU (λIH mC=>?_);refine ao (A:=RT.fd) (B:=RT.str) bI G G I9 QZ DZ G G QZ mC bU (λu11 X9=>?_);refine bD az G G G G G X9 bU (λv12 Ya=>?_);obtain rfl:=dS Ya;obtain⟨_,_,_,_,sL,_,_⟩:=l1 qY;refine aQ G G VP (vF q.term.1 sL.1 _) (λr13 W0 hc=>?_);obtain⟨rfl,Yb⟩:=hc;have tS:=Yb M;replace fR:=fR.le (aS _) tS.le;replace hM:=tS.lt hM;have:=S.size;replace S:=S.av tS;refine ib rfl rfl (br (v':= .bool (decide (ez q.term.1=false))) (by cases ez q.term.1<;>rfl) (Rg.aZ rfl rfl ?_));refine bF G (λc1=>?_) (λc1=>?_)
 ·refine T.aP (Rg.aZ G G (aI ?_));exact aF rfl rfl ⟨by rw[if_pos c1],S⟩
 ·refine T.aP ?_;refine ao (A:=RT.qy (n+1)) (B:=RT.fd) aq G G lA QZ (D1 n) G G (aS _) fR bU (λu30 PL=>?_);refine ao (A:=RT.fd) (B:=RT.str) bI G G I9 QZ QO G G QZ PL bU (λu31 PM=>?_);refine bD az G G G G G PM bU (λv32 PN=>?_);obtain rfl:=dS PN;refine aQ G G adj (UN _ hM hb) (λr33 w33 hc=>?_);obtain⟨rfl,UO⟩:=hc;refine br (v':= .bool (decide (eA q.term.2=false))) (by cases eA q.term.2<;>rfl) ?_;replace fR:=fR.le (aS _) UO.le;replace hM:=UO.lt hM;have:=S.size;replace S:=S.av UO;refine Rg.aZ G G ?_;refine bF G (λc3=>?_) (λc3=>?_)
  ·refine T.aP (Rg.aZ G G (aI ?_));exact aF rfl rfl ⟨by rw[if_neg c1,if_neg (by rw[c3];decide)],S⟩
  ·refine aR (T.aP (Rg.aZ G G (aI ?_)));exact aF rfl rfl ⟨by rw[if_neg c1,if_pos (by simpa using c3)],S⟩
theorem C8 {M:aL} {n:Nat} {q:Qy} {v:Value} (w0:World) (hM:Lt M w0) (hv:(RT.qy (n+1)).V M w0 q v) (hb:∀x∈q.words,x.length<=3900000):
  Spec Tryz.prog 208 #[v] w0 (λv w=>v= .int .i64 (if ez q.term.1=false then 4 else if q.words=[]then 9 else if q.words.all eA=false then 9 else if 6<q.words.length then 7 else 0)/\Step M w0 M w aD):=by
 have qY:=hv;refine a7 (args:=[_]) (fn:=Tryz.f208) Tryz.func208 G (n:=24) Tryz.ntmps208 ?_;have S:Step M w0 M w0 aD:=aW;refine T.aP ?_;refine ej (A:=RT.qy (n+1)) (a:=q) G G hM hv (ef _) (λu1 FA fR iO _=>?_);replace hv:=hv.le iO.le;replace hM:=iO.lt hM;have:=S.size;replace S:=S.av iO;refine Rg.aZ G G (aK (aX (T.aP ?_)));refine ao (A:=RT.qy (n+1)) (B:=RT.fd) aq G G lA QZ (D1 n) G G (aS _) fR bU (λIH mC=>?_);refine ao (A:=RT.fd) (B:=RT.str) bI G G I9 QZ DZ G G QZ mC bU (λu11 X9=>?_);refine bD az G G G G G X9 bU (λv12 Ya=>?_);obtain rfl:=dS Ya;obtain⟨_,_,_,_,sL,_,_⟩:=l1 qY;refine aQ G G VP (vF q.term.1 sL.1 _) (λr13 W0 hc=>?_);obtain⟨rfl,Yb⟩:=hc;have tS:=Yb M;replace fR:=fR.le (aS _) tS.le;replace hM:=tS.lt hM;have:=S.size;replace S:=S.av tS;refine ib rfl rfl (br (v':= .bool (decide (ez q.term.1=false))) (by cases ez q.term.1<;>rfl) (Rg.aZ rfl rfl ?_));refine bF G (λc1=>?_) (λc1=>?_)
 ·refine T.aP (Rg.aZ G G (aI ?_));exact aF rfl rfl ⟨by rw[if_pos c1],S⟩
 ·refine T.aP ?_;refine ao (A:=RT.qy (n+1)) (B:=(RT.str.sl)) aq G G xp QZ (Gr n) G G (aS _) fR bU (λu30 PL=>?_);refine bD aB G G G G G PL bU (λv31 KX=>?_);have Nj:=cQ KX;refine bz aB G KX G (fi G G G (ab G G ?_));refine aO (g:=14) G (λKh=>?_) (λKh=>?_)
  ·refine aj G G G G (aj G G G G (aj G G G G (aU G G G (Rg.aZ G G (kA G (T.aP (Rg.aZ G G (aI ?_))))))))
   first
   |exact aF rfl rfl ⟨by rw[if_neg c1,if_pos (cL.1 q0)],S⟩
   |exact aF rfl rfl ⟨by rw[if_neg c1,if_neg (λe=>Kh ai0),if_pos c3],S⟩
  ·refine ae G G ?_;refine ao (A:=RT.qy (n+1)) (B:=(RT.str.sl)) aq G G xp QZ (Gr n) G G (aS _) fR bU (λu35 alh=>?_);refine ae G G ?_;refine bD aB G G G G G alh bU (λv36 ali=>?_);refine ae G G ?_;refine aQ G G ald (FE _ hM ali hb) (λr37 w37 hc=>?_);obtain⟨rfl,s37⟩:=hc;replace fR:=fR.le (aS _) s37.le;replace hM:=s37.lt hM;have:=S.size;replace S:=S.av s37;refine aA G G G (Rg.aZ G G ?_);refine bF G (λc3=>?_) (λc3=>?_)
   ·refine T.aP (Rg.aZ G G (aI ?_))
    first
    |exact aF rfl rfl ⟨by rw[if_neg c1,if_pos (cL.1 q0)],S⟩
    |exact aF rfl rfl ⟨by rw[if_neg c1,if_neg (λe=>Kh ai0),if_pos c3],S⟩
   ·have fh: ¬q.words=[]:=λe=>Kh ai0
    refine T.aP ?_;refine ao (A:=RT.qy (n+1)) (B:=(RT.str.sl)) aq G G xp QZ (Gr n) G G (aS _) fR bU (λu50 XU=>?_);refine bD aB G G G G G XU bU (λv51 XV=>?_);refine bz aB G XV G (eN G G G (Rg.aZ G G ?_));refine bF G (λc5=>?_) (λc5=>?_)
    ·refine T.aP (Rg.aZ G G (aI ?_));exact aF rfl rfl ⟨by rw[if_neg c1,if_neg fh,if_neg c3,if_pos q0],S⟩
    ·refine aR (T.aP (Rg.aZ G G (aI ?_)));exact aF rfl rfl ⟨by rw[if_neg c1,if_neg fh,if_neg c3,if_neg q0],S⟩
theorem HO {M:aL} {n:Nat} {q:Qy} {v:Value} (w0:World) (hM:Lt M w0) (hv:(RT.qy (n+1)).V M w0 q v) {b:Nat} {most:Int} (hb:w0.heap[b]? =some (.cells #[.int .i64 most] 3 (0,0))):
  Spec Tryz.prog 269 #[v,.pointer (some ⟨b,0,none⟩)] w0 (λv w=>v= .int .i64 (if q.kids.length=0 then 9 else if most<q.kids.length then 7 else 0)/\Step M w0 M w aD):=by
 refine a7 (args:=[_,_]) (fn:=Tryz.f269) Tryz.func269 G (n:=15) Tryz.ntmps269 ?_;have S:Step M w0 M w0 aD:=aW;refine T.aP ?_;refine ej (A:=RT.qy (n+1)) (a:=q) G G hM hv (ef _) (λu2 FA fm iO _=>?_);replace hv:=hv.le iO.le;replace hM:=iO.lt hM;have:=S.size;replace S:=S.av iO;refine Rg.aZ G G (aK (T.aP ?_));refine ao (A:=RT.qy (n+1)) (B:=((RT.qy n).sl (aS n))) aq G G qT Nat.one_pos (Bj n) G G (aS _) fm bU (λIH mC=>?_);refine bD bh G G G G G mC bU (λv11 SV=>?_);have Ap:=cQ SV;refine bz (A:=RT.qy n) (hn:=aS _) bh G SV G (Rg.aZ G G (aX (T.aP (ab G G (fi G G G (Rg.aZ G G ?_))))));refine bF G (λc2=>?_) (λc2=>?_)
 ·refine T.aP (Rg.aZ G G (aI ?_));exact aF rfl rfl ⟨by rw[if_pos q0],S⟩
 ·refine T.aP (ab G G (aN ak G G G (S.aE hb) G (br (v':= .int .i64 most) G (eN G G G (Rg.aZ G G ?_)))));refine bF G (λc4=>?_) (λc4=>?_)
  ·refine T.aP (Rg.aZ G G (aI ?_));exact aF rfl rfl ⟨by rw[if_neg q0,if_pos q0],S⟩
  ·refine aR (T.aP (Rg.aZ G G (aI ?_)));exact aF rfl rfl ⟨by rw[if_neg q0,if_neg q0],S⟩
structure SzO (t:Fd) (ws:List (List UInt8)):Prop where
 t2:t.2.length<=3900000
 w:∀x∈ws,x.length<=3900000
mutual
def FF:Qy->Prop
 |.mk _ t ws ks=>SzO t ws/\PO ks
def PO:List Qy->Prop
 |[]=>True
 |q::ks=>FF q/\PO ks
end
theorem alk {ks:List Qy}:PO ks↔∀q∈ks,FF q:=by
 induction ks with
 |nil=>simp[PO]
 |cons q ks ih=>rw[PO,ih,List.forall_mem_cons]
theorem Yc {q:Qy}:FF q↔SzO q.term q.words/\∀x∈q.kids,FF x:=by
 obtain⟨k,t,ws,ks⟩:=q;rw[FF,alk];rfl
theorem Jo {k:Int} {t:Fd} {ws:List (List UInt8)} {ks:List Qy} (hk:1<=k/\k<=5) (h: ¬Qy.mk k t ws ks=kc (.mk k t ws ks)):jr k t ws ks.length=9:=by
 unfold jr;rw[if_neg q0];rw[kc]at h;by_cases h1:k=1
 ·rw[if_pos h1]at h;rw[if_neg q0,if_pos];by_cases hk:ks=[]
  ·exact .inr (.inl ⟨h1,λhw=>h (by rw[hk,hw])⟩)
  ·exact .inl (dI.2 hk)
 rw[if_neg h1]at h;by_cases h5:k=5
 ·rw[if_pos h5]at h;rw[if_neg q0,if_pos];by_cases hk:ks=[]
  ·exact .inr (.inr ⟨h5,λhw=>h (by rw[hk,<-hw])⟩)
  ·exact .inl (dI.2 hk)
 rw[if_neg h5]at h;rw[if_pos q0,if_pos];by_cases ht:t=([],[])
 ·exact .inr (.inl λhw=>h (by rw[ht,hw]))
 ·exact .inl ht
theorem Jp {k:Int} {t:Fd} {ws:List (List UInt8)} {n:Nat} (hk: ¬(1<=k/\k<=5)):jr k t ws n=9:=by
 unfold jr;rw[if_pos q0]
theorem PQ {k:Int} {t:Fd} {ws:List (List UInt8)} {ks:List Qy} (hk:k=1) (h:Qy.mk k t ws ks=kc (.mk k t ws ks)):jr k t ws ks.length=if ez t.1=false then 4 else if eA t.2=true then 0 else 9:=by
 rw[kc]at h;rw[if_pos hk]at h;injection h with _ _ h1 h2
 subst h1 h2;unfold jr;rw[if_neg q0,if_neg q0,if_neg a11,if_pos hk]
theorem HP {k:Int} {t:Fd} {ws:List (List UInt8)} {ks:List Qy} (hk:k=5) (h:Qy.mk k t ws ks=kc (.mk k t ws ks)):jr k t ws ks.length=if ez t.1=false then 4 else if ws=[]then 9 else if ws.all eA=false then 9 else if 6<ws.length then 7 else 0:=by
 rw[kc]at h;rw[if_neg q0,if_pos hk]at h;injection h with _ h0 _ h2
 subst h2;have h0:t.2=[]:=congrArg Prod.snd h0;unfold jr;rw[if_neg q0,if_neg q0,if_neg (by simp[h0];omega),if_neg (show¬k=1 by omega)]
theorem PR {k:Int} {t:Fd} {ws:List (List UInt8)} {ks:List Qy} (hk:k=2\/k=3\/k=4) (h:Qy.mk k t ws ks=kc (.mk k t ws ks)):jr k t ws ks.length=if ks.length=0 then 9 else if(if k=4 then 1 else 8:Int)<ks.length then 7 else 0:=by
 rw[kc]at h;rw[if_neg q0,if_neg q0]at h;injection h with _ h0 h1 _
 subst h0 h1;unfold jr;rw[if_neg q0,if_pos q0];by_cases h2:ks.length=0
 ·rw[if_pos (.inr (.inr h2)),if_pos h2]
 ·rw[if_neg (by simp;exact λe=>h2 ai0),if_neg h2];by_cases h4:k=4
  ·rw[if_pos h4];by_cases h5:(1:Int)<ks.length
   ·rw[if_pos h5,if_pos (.inr ⟨h4,by omega⟩)]
   ·rw[if_neg h5,if_neg q0]
  ·rw[if_neg h4];by_cases h5:(8:Int)<ks.length
   ·rw[if_pos h5,if_pos (.inl q0)]
   ·rw[if_neg h5,if_neg q0]
theorem KV.use {q:Qy} {a b c d:Value} {w0:World} (hK:KV q.kind (.agg #[a,b,c,d]) w0) (hk:1<=q.kind/\q.kind<=5) (hs:SzO q.term q.words):∃bf mf cap,b= .func (.func bf) #[] #[]/\c= .func (.func mf) #[] (cap:List Value).toArray/\Enters Tryz.prog bf/\Enters Tryz.prog mf/\
  (∀{M:aL} {n:Nat} {w:World} {v:Value},Lt M w->(RT.qy (n+1)).V M w q v->Spec Tryz.prog bf #[v] w (λr w'=>(RT.qy (n+1)).V M w' (kc q) r/\Step M w M w' aD))/\
  (∀{M:aL} {n:Nat} {w:World} {v:Value},Lt M w->(RT.qy (n+1)).V M w q v->KV q.kind (.agg #[a,b,c,d]) w->q=kc q->Spec Tryz.prog mf (v::cap).toArray w (λr w'=>r= .int .i64 (jr q.kind q.term q.words q.kids.length)/\Step M w M w' aD)):=by
 obtain⟨k,t,ws,ks⟩:=q;have mW:t.2.length<=3900000:=hs.t2;have hsw:∀x∈ws,x.length<=3900000:=hs.w;have hk:1<=k/\k<=5:=hk;rcases hK with⟨h1,h2⟩|⟨h1,h2⟩|⟨h1,b',wd,fv,h2,h3⟩|⟨h1,h2⟩
 ·simp only[Value.agg.injEq,Array.mk.injEq,xS]at h2;obtain⟨rfl,rfl,rfl,rfl,_⟩:=h2;exact⟨_,_,[],G,G,ak9,ala,λhM hv=>KT _ hM hv h1,λhM hv _ e=>(HN _ hM hv mW).mono λr w' h=>⟨h.1.trans (congrArg _ (PQ h1 e).symm),h.2⟩⟩
 ·simp only[Value.agg.injEq,Array.mk.injEq,xS]at h2;obtain⟨rfl,rfl,rfl,rfl,_⟩:=h2;exact⟨_,_,[],G,G,alb,alc,λhM hv=>FC _ hM hv h1,λhM hv _ e=>(C8 _ hM hv hsw).mono λr w' h=>⟨h.1.trans (congrArg _ (HP h1 e).symm),h.2⟩⟩
 ·simp only[Value.agg.injEq,Array.mk.injEq,xS]at h2;obtain⟨rfl,rfl,rfl,rfl,_⟩:=h2;refine ⟨_,_,[.pointer (some ⟨b',0,none⟩)],G,G,ak8,ale,λhM hv=>KS _ hM hv h1,λhM hv Q0 e=> ?_⟩;have h1:k=2\/k=3\/k=4:=h1;rcases Q0 with⟨h4,_⟩|⟨h4,_⟩|⟨_,b2,wd2,fv2,h4,h5⟩|⟨h4,_⟩
  ·have h4:k=1:=h4;omega
  ·have h4:k=5:=h4;omega
  ·simp only[Value.agg.injEq,Array.mk.injEq,xS,Value.func.injEq,Value.pointer.injEq,Option.some.injEq,Addr.mk.injEq]at h4;obtain⟨_,_,⟨_,_,⟨rfl,_⟩,_⟩,_⟩:=h4;exact(HO _ hM hv h5).mono λr w' h=>⟨h.1.trans (congrArg _ (PR h1 e).symm),h.2⟩
  ·have h4:k<1\/5<k:=h4;omega
 ·have h1:k<1\/5<k:=h1;omega
end Go.K
namespace Go.K
open Go.Proofs
set_option maxRecDepth 10000
mutual
theorem UP:∀q,AD 1048576 q->FF q
 |.mk k t ws ks,h=>Yc.2 ⟨⟨by have:=h.1.2.1;show t.2.length<=3900000;omega,λx hx=>by have:=h.1.2.2 x hx;omega⟩,PS ks h.2⟩
theorem PS:∀ks,Bk 1048576 ks->∀x∈ks,FF x
 |[],_=>λx hx=>by cases hx
 |q::ks,h=>λx hx=>by
  rcases dz.1 hx with e|e
  ·rw[e];exact UP q h.1
  ·exact PS ks h.2 x e
end
end Go.K
namespace Go.K
open Go.Proofs
namespace TKSearch
theorem acn:Enters Tryz.prog 159:=enters Tryz.func159 rfl QZ
theorem aco:Enters Tryz.prog 160:=enters Tryz.func160 rfl QZ
theorem acp:Enters Tryz.prog 201:=enters Tryz.func201 rfl QZ
end TKSearch
open TKSearch
set_option maxRecDepth 10000
theorem HQ {w0:World} {x:Int}:
  Spec Tryz.prog 160 #[.int .i64 x] w0 (λv' w'=>v'= .bool (decide False)/\w0=w'):=by
 refine a7 (args:=[_]) (fn:=Tryz.f160) Tryz.func160 G (n:=6) Tryz.ntmps160 (T.aP (Rg.aZ G G (T.aP (ab G G (ab G G (eV G G G (Rg.aZ G G ?_)))))));refine aI ?_;exact aF rfl rfl ⟨by simp,rfl⟩
theorem C9 {w0:World} {x:Int}:
  Spec Tryz.prog 201 #[.int .i64 x] w0 (λv' w'=>v'= .bool (decide False)/\w0=w'):=by
 refine a7 (args:=[_]) (fn:=Tryz.f201) Tryz.func201 G (n:=6) Tryz.ntmps201 (T.aP (Rg.aZ G G (T.aP (ab G G (ab G G (eV G G G (Rg.aZ G G ?_)))))));refine aI ?_;exact aF rfl rfl ⟨by simp,rfl⟩
theorem KY {w0:World} {x y:Int}:
  Spec Tryz.prog 159 #[.int .i64 x,.int .i64 y] w0 (λv' w'=>v'= .bool (decide (x<y))/\w0=w'):=by
 refine a7 (args:=[_,_]) (fn:=Tryz.f159) Tryz.func159 G (n:=17) Tryz.ntmps159 (T.aP (Rg.aZ G G (T.aP (ab G G ?_))));refine aQ G G acp (C9) (λr wc h=>?_);obtain⟨rfl,rfl⟩:=h;refine ab G G (Rg.Ga (g:=7) G ((λh=>h)) (aj G G G G (aj G G G G (aj G G G G (aA G G G (ab G G (ae G G (ab G G (ae G G (ab G G (ae G G ?_)))))))))));refine cy G G G (aA G G G (Rg.aZ G G (aI ?_)));exact ak2
theorem FG {M:aL} {w0:World} {v:Value} {l:List Int} {x:Int} (hv:((RT.int .i64).sl).V M w0 l v) (hr:l.Pairwise (· < ·)):
  Spec Tryz.prog 103 #[v,.int .i64 x] w0 (λv' w'=>∃i:Int,v'= .tuple #[.int .i64 i,.bool (l.contains x)]/\w0=w'):=by
 have hlen:=cQ hv;refine a7 (args:=[_,_]) (fn:=Tryz.f103) Tryz.func103 G (n:=54) Tryz.ntmps103 (T.aP (aG G G (Rg.aZ G G (T.aP (ab G G (bz ax G hv G (Rg.aZ G G ?_)))))));refine T.aP (ab G G (aG G G (Rg.aZ G G (aK (aX ?_)))));refine cY (σ:=Nat×Nat) (λs=>[(0,v),(1,.int .i64 x),(6,.int .i64 l.length),(7,.int .i64 s.1),(8,.int .i64 s.2)]) (λs w=>w0=w/\s.1<=s.2/\s.2<=l.length/\(∀t y,t<s.1->l[t]? =some y->y<x)/\(∀t y,s.2<=t->l[t]? =some y->x<=y)) (λs=>s.2-s.1) (0,l.length) a05 ?_ ?_
 ·exact⟨G,bp _,bu _,λt y h=>absurd h (eC _),λt y h hy=>by have:=(al.1 hy).1;simp only at h;omega⟩
 ·rintro⟨i,j⟩ w1 ⟨rfl,jl,hj,h1,h2⟩;dsimp only at jl hj h1 h2 ⊢;refine aK (T.aP (ab G G (ab G G (cy G G G (ad ?_)))));refine bF G (λc3=>?_) (λc3=>?_)
  ·refine aR (aX (T.aP (ab G G (ab G G (bC G G G q0 (wh ak Tryz.underlying262 rfl rfl (br (v':= .int .u64 ((i+j:Nat):Int)) (congrArg _ (by rw[IntWalk.u64_in _ q0];omega)) (Rg.shr rfl rfl rfl q0 (br (v':= .int .u64 (((i+j)/2:Nat):Int)) (congrArg _ (akU _)) (Rg.uO Tryz.underlying262 ak rfl rfl q0 ?_))))))))));refine Rg.aZ G G (T.aP (ab G G (ab G G ?_)));obtain⟨y,hy⟩:∃y,l[(i+j)/2]? =some y:=⟨_,an q0⟩;refine cB ax I3 G G G (hv) bU a48 (λab2 alm adk tV=>?_);obtain rfl:y=alm:=cz (aJ (adk.symm.trans (by rw[ar];exact hy)));refine bT (M:=M) ak G G U3 (by repeat (first|exact bN _ _|refine bg (bO U3) ?_)) (λOI=>?_);refine br (v':= .int .i64 (y)) G ?_;replace OI: -9223372036854775808<=(y:Int)/\y<=9223372036854775807:=OI;refine ab G G ?_;refine aQ G G acn (KY) (λr wc h=>?_);obtain⟨rfl,rfl⟩:=h;refine ad ?_;refine bF G (λc5=>?_) (λc5=>?_)
   ·refine aM (ab G G (bC G G G q0 (Rg.aZ G G ?_)));refine⟨G,((i+j)/2+1,j),a05,?_,?_⟩
    ·refine⟨rfl,by simp only;omega,hj,λt z ht hz=>?_,h2⟩;rcases cI t ((i+j)/2)with h|h
     ·have:=C3 hr hz hy h;omega
     ·rw[show t=(i+j)/2 from by simp only at ht;omega,hy]at hz;cases hz;exact c5
    ·simp only;omega
   ·refine aM (ab G G (Rg.aZ G G ?_));refine⟨G,(i,(i+j)/2),a05,?_,?_⟩
    ·refine ⟨rfl,by simp only;omega,by simp only;omega,h1,λt z ht hz=> ?_⟩;rcases cI ((i+j)/2) t with h|h
     ·have:=C3 hr hy hz h;omega
     ·rw[show t=(i+j)/2 from by simp only at ht;omega,hy]at hz;cases hz;omega
    ·simp only;omega
  ·refine cN (T.aP (ab G G (ab G G (ab G G (cy G G G (ab G G ?_))))));refine aO (g:=35) G (λYd=>?_) (λYd=>?_)
   ·refine ae G G (ab G G (ae G G (ab G G (ae G G ?_))));obtain⟨y,hy⟩:∃y,l[i]? =some y:=⟨_,an q0⟩;refine cB ax I3 G G G (hv) bU a48 (λaur aln adl apo=>?_);obtain rfl:y=aln:=cz (aJ (adl.symm.trans (by rw[ar];exact hy)));refine ae G G ?_;refine bT (M:=M) ak G G U3 (by repeat (first|exact bN _ _|refine bg (bO U3) ?_)) (λUQ=>?_);refine br (v':= .int .i64 (y)) G ?_;replace UQ: -9223372036854775808<=(y:Int)/\y<=9223372036854775807:=UQ;refine ae G G (ab G G (ae G G (fi G G G (ae G G (ab G G ?_)))));refine aO (g:=42) G (λzS=>?_) (λzS=>?_)
    ·refine aj G G G G (aj G G G G (aj G G G G (aj G G G G (aj G G G G (aj G G G G (cf G G G (cf G G G (aj G G G G (ae G G (aU G G G (aU G G G ?_)))))))))));refine aG G G (Rg.aZ G G (aI ?_));have PT:=HD hr h1 (λt y ht hy=>h2 t y q0 hy)
     first
     |exact af7
     |exact ae6
     |exact fc rfl rfl rfl ⟨_,by rw[PT,cJ q0,decide_eq_false (by simp)],G⟩
    ·refine ae G G (ab G G (ae G G (ab G G (ae G G ?_))));refine cB ax I3 G G G (hv) bU a48 (λapq adm Ye alo=>?_);obtain rfl:y=adm:=cz (aJ (Ye.symm.trans (by rw[ar];exact hy)));refine ae G G ?_;refine bT (M:=M) ak G G U3 (by repeat (first|exact bN _ _|refine bg (bO U3) ?_)) (λPU=>?_);refine br (v':= .int .i64 (y)) G ?_;replace PU: -9223372036854775808<=(y:Int)/\y<=9223372036854775807:=PU;refine ae G G ?_;refine aQ G G aco (HQ) (λr wc h=>?_);obtain⟨rfl,rfl⟩:=h;refine ae G G (ab G G (Rg.Ga (g:=48) G ((λh=>h)) (aj G G G G (aj G G G G (ae G G (aA G G G (ae G G (aA G G G (aU G G G (aG G G (aG G G ?_)))))))))));refine ad (aI ?_);have PT:=HD hr h1 (λt y ht hy=>h2 t y q0 hy)
     first
     |exact af7
     |exact ae6
     |exact fc rfl rfl rfl ⟨_,by rw[PT,cJ q0,decide_eq_false (by simp)],G⟩
   ·refine aj G G G G (aj G G G G (aj G G G G (aj G G G G (aj G G G G (aj G G G G (aj G G G G (cf G G G (cf G G G (cf G G G (cf G G G (cf G G G ?_)))))))))));refine cf G G G (cf G G G (cf G G G (cf G G G (aj G G G G (aA G G G (aG G G (Rg.aZ G G (aI ?_))))))));have PT:=HD hr h1 (λt y ht hy=>h2 t y q0 hy)
    first
    |exact af7
    |exact ae6
    |exact fc rfl rfl rfl ⟨_,by rw[PT,cJ q0,decide_eq_false (by simp)],G⟩
end Go.K
namespace Go.K
open Go.Proofs
namespace TKSides2
theorem alp:Enters Tryz.prog 103:=enters Tryz.func103 rfl QZ
end TKSides2
open TKSides2
set_option maxRecDepth 10000
theorem BV {M:aL} {w0:World} {v:Value} {ls:List (List Int)} (hv:(((RT.int .i64).sl).sl).V M w0 ls v) (hg:∀l∈ls,UH l) (LW:ls.length<=1000):
  Spec Tryz.prog 54 #[v] w0 (λv' w'=>v'= .int .i64 (Jh ls)/\w0=w'):=by
 have hlen:=cQ hv;refine a7 (args:=[_]) (fn:=Tryz.f54) Tryz.func54 G (n:=49) Tryz.ntmps54 (T.aP (Rg.aZ G G (aK (T.aP (ab G G (bz gp G hv G (fi G G G (ad ?_))))))));refine bF G (λc1=>?_) (λc1=>?_)
 ·refine T.aP (Rg.aZ G G (aI ?_));have:ls=[]:=cL.1 q0;subst this;exact ak2
 ·obtain⟨l0,tl,rfl⟩:∃l0 tl,ls=l0::tl:=by
   cases ls with
   |nil=>simp at c1
   |cons a b=>exact⟨a,b,rfl⟩
  have sL:tl.length<=1000:=by simp only[cH]at LW;omega
  have hlc:(l0::tl).length=tl.length+1:=rfl;refine aR (T.aP (Rg.aZ G G (aK (T.aP (ab G G ?_)))));refine cB gp ph G G G (hv) bU a48 (λaaP alq adn T7=>?_);obtain rfl:l0=alq:=cz (aJ (adn.symm.trans rfl));refine bD ax G G G G G T7 bU (λv16 SY=>?_);replace SY:((RT.int .i64).sl).V M w0 l0 v16:=SY;have Sf:=hg l0 (bP ..);have aus:=Sf.2.2;refine bz ax G SY G (ab G G (ad (aX ?_)));refine cY (σ:=Nat) (λs=>[(0,v),(3,.int .i64 (AV tl l0 s)),(16,v16),(17,.int .i64 l0.length),(18,.int .i64 s)]) (λs w=>w0=w/\s<=l0.length) (λs=>l0.length-s) 0 a05 ?_ ?_
  ·exact⟨G,bp _⟩
  ·rintro i w1 ⟨rfl,hi⟩;refine T.aP (cy G G G (ad (aK ?_)));refine bF G (λc5=>?_) (λc5=>?_)
   ·refine aR (aK (aX (T.aP ?_)));obtain⟨at_,hx⟩:∃x,l0[i]? =some x:=⟨_,an q0⟩;refine cB ax I3 G G G (SY) bU a48 (λWq als ado Em=>?_);obtain rfl:at_=als:=cz (aJ (ado.symm.trans (by rw[ar];exact hx)));have LA:=Sf.2.1 at_ (au hx);refine bT ak G G Em bU (λ_=>?_);refine br (v':= .int .i64 at_) G (Rg.aZ G G (T.aP (Rg.aZ G G (aK (T.aP (ab G G ?_))))));refine Rg.od (A:=(RT.int .i64).sl) (hn:=by decide) gp ph rfl rfl rfl hv (by simp only[cH];omega) (λu23 KZ=>?_);replace KZ:(((RT.int .i64).sl).sl).V M w0 tl u23:=KZ;refine bz gp G KZ G (ab G G (ad (aX ?_)));refine cY (σ:=Nat) (λs=>[(0,v),(3,.int .i64 (AV tl l0 i)),(5,.int .i64 at_),(6,.bool (Pq tl at_ s)),(16,v16),(17,.int .i64 l0.length),(18,.int .i64 i),(23,u23),(24,.int .i64 tl.length),(25,.int .i64 s)]) (λs w=>w0=w/\s<=tl.length) (λs=>tl.length-s) 0 (.cons G (.cons G (.cons G a30))) ?_ ?_
    ·exact⟨G,bp _⟩
    ·rintro k w2 ⟨rfl,hk⟩;refine T.aP (cy G G G (ad (aK ?_)));refine bF G (λc9=>?_) (λc9=>?_)
     ·refine aR (aK (aX (T.aP (ab G G ?_))));obtain⟨lk,mB⟩:∃x,tl[k]? =some x:=⟨_,an q0⟩;refine cB gp ph G G G (KZ) bU a48 (λapr adp Yf Yg=>?_);obtain rfl:lk=adp:=cz (aJ (Yf.symm.trans (by rw[ar];exact mB)));refine bD ax G G G G G Yg bU (λv8 Dr=>?_);replace Dr:((RT.int .i64).sl).V M w0 lk v8:=Dr;have hgk:=hg lk (cv _ (au mB));have wL:tl.getD k []=lk:=by rw[b4,mB];rfl
      refine aG G G (Rg.aZ G G (T.aP (ab G G (ab G G (bC G G G q0 (ab G G (bC G G G q0 ?_)))))));refine aQ G G alp (FG (x:=at_+1+k) Dr hgk.1) (λr wc h=>?_);obtain⟨i5,rfl,rfl⟩:=h;refine ab G G (cD G G G (cD G G G (aG G G (Rg.aZ G G (aM (ab G G (ab G G (br (v':= .bool (decide (Pq tl at_ k=true))) (by simp) ?_))))))));refine aO (g:=40) G (λFH=>?_) (λFH=>?_)
      ·refine ae G G (ab G G (aU G G G (Rg.aZ G G (aM (bC G G G q0 (ab G G (ad ?_)))))));refine⟨rfl,k+1,a95,?_,?_⟩
       ·exact⟨G,by omega⟩
       ·show _-(k+1)<_-k;omega
      ·refine aj G G G G (aA G G G (Rg.aZ G G (aM (bC G G G q0 (ab G G (ad ?_))))));refine⟨rfl,k+1,a95,?_,?_⟩
       ·exact⟨G,by omega⟩
       ·show _-(k+1)<_-k;omega
     ·refine cN (T.aP ?_);obtain rfl:k=tl.length:=by omega
      refine ab G G (br (v':= .bool (decide (Pq tl at_ tl.length=true))) (by simp) (ad ?_));refine bF G (λKg=>?_) (λKg=>?_)
      ·refine aM (ab G G ?_);have jY:=SP tl l0 i;refine bC G G G q0 (Rg.aZ G G (aM (bC G G G q0 (ab G G (ad ?_)))));refine⟨rfl,i+1,af6,?_,?_⟩
       ·exact⟨G,by omega⟩
       ·show _-(i+1)<_-i;omega
      ·refine aR (aM (bC G G G q0 (ab G G (ad ?_))));refine⟨rfl,i+1,af6,?_,?_⟩
       ·exact⟨G,by omega⟩
       ·show _-(i+1)<_-i;omega
   ·refine cN (T.aP (ab G G (Rg.aZ G G (aI ?_))));obtain rfl:i=l0.length:=by omega
    exact ak2
end Go.K
namespace Go.K
open Go.Proofs
namespace TKMTerm
theorem mD:TI Tryz.prog 45 (.agg #[(.int .i64 0),(.int .i64 0)]) 2 16:=by unfold TI;kernel_rfl
theorem HR:placesOf Tryz.prog 45=[(0,1),(1,1)].map some:=by kernel_rfl
theorem SJ:Enters Tryz.prog 163:=enters Tryz.func163 rfl QZ
theorem Hu:Enters Tryz.prog 164:=enters Tryz.func164 rfl QZ
theorem alv:Enters Tryz.prog 165:=enters Tryz.func165 rfl QZ
end TKMTerm
open TKMTerm
set_option maxRecDepth 10000
theorem HS {M:aL} {L:List En} {t:Fd} {v0:Value} (w0:World) (hM:Lt M w0) (hs:cM RT.se M w0 v0 (F9 (jq L))) (fY:BI (-1) L=true) (hn:L.length<=100000) (h1:t.1.length<=140737488355328) (h2:t.2.length<=140737488355328):
  Spec Tryz.prog 105 #[v0,kv t] w0 (λv w=>∃M',Lt M' w/\Step M w0 M' w aD/\Own RT.fo 45 M' w w0.heap.size v (ij (Fy t) 0 L)):=by
 have gX:=hM;have hF:=kP fY;have K0:=Pb hF q0 (cZ t);have xG:(pk L (cZ t)).length<=1099511627776:=K0.ln;have hPF:((pk L (cZ t)).map λp=>(p.1,((p.2.length:Nat):Int)))=ij (Fy t) 0 L:=PA t L 0 hF;refine a7 (args:=[_,_]) (fn:=Tryz.f105) Tryz.func105 G (n:=25) Tryz.ntmps105 ?_;have S:Step M w0 M w0 aD:=aW;refine T.aP ?_;refine ej (A:=RT.fd) G G hM (CF h1 h2) G (λu3 w1 gI sb _=>?_);replace hs:=hs.le QZ sb.le;replace hM:=sb.lt hM;have:=S.size;replace S:=S.av sb;refine Rg.aZ G G (T.aP (Rg.aZ G G (T.aP (ab G G ?_))));refine bR (A:=RT.fd) bI G lA QZ G G G gI bU (λv21 Yh=>?_);obtain rfl:=ki Yh;refine aQ rfl rfl SJ (tZ (ls:=(keysOf L).map (pk L)) (t:=t) _ hM hs (oJ L) rfl (by rw[b9];rfl) h1 h2) (λr22 w22 hc=>?_);obtain⟨bc,rfl,hz,xM,hC⟩:=hc;have hz0:=S.size;generalize ins M bc=Mc at xM hC;replace hC:Cu 323 (pk L (cZ t)) (-1) Mc w22 bc:=by have h:=hC;rw[show SE (F9 (jq L)).2.2.1 ((keysOf L).map (pk L)) (cZ t)=(pk L (cZ t))from O4 _]at h;exact h
 replace hs:=hs.le QZ xM.le;replace gI:=gI.le QZ xM.le;replace hM:=xM.lt hM;have:=S.size;replace S:=S.av xM;refine Rg.aZ G G (aK (T.aP (ab G G ?_)));obtain⟨_,_,_,_,_,BW,_⟩:=id hC;refine aQ G G Hu (nU hC hM K0.may K0.ps K0.by_ K0.ln) (λr31 w31 hc=>?_);obtain⟨rfl,Zm,hC⟩:=hc;have J6:mi (pk L (cZ t)) (-1)=((0:Nat):Int):=by unfold mi;rw[if_pos q0];omega
 rw[J6]at hC ⊢;replace S:=S.ck Zm (λb (hb:b=bc)=>by omega);replace hM:=Zm.lt hM;refine Rg.aZ G G (aX ?_);refine cY (σ:=Nat×Value) (λq=>[(5,q.2),(6,.pointer (some ⟨bc,0,none⟩)),(7,.int .i64 (eL (pk L (cZ t)) (q.1:Int)))]) (λq w=>q.1<=(pk L (cZ t)).length/\∃M2,Lt M2 w/\Step M w0 M2 w aD/\Cu 323 (pk L (cZ t)) (q.1:Int) M2 w bc/\Own RT.fo 45 M2 w w0.heap.size q.2 (((pk L (cZ t)).map λp=>(p.1,((p.2.length:Nat):Int))).take q.1)) (λq=>(pk L (cZ t)).length-q.1) (0,.slice none 0 0) a00 ?_ ?_
 ·exact⟨bp _,_,hM,S,hC,eJ _ _ _ _ _⟩
 ·clear hM S hC;rintro⟨i,vo⟩ w ⟨hi,M2,hM,S,hC,iz⟩;dsimp only at hi hC iz ⊢;refine aK (T.aP (ab G G (cy G G G (ad ?_))));refine bF G (λc4=>?_) (λc4=>?_)
  ·have qM:i<(pk L (cZ t)).length:=Nat.lt_of_not_le λh=>by rw[qx q0]at c4;exact absurd c4 QZ
   refine aR (aK (aX (aM ?_)));obtain⟨⟨pd,ps⟩,hgp⟩:∃x,(pk L (cZ t))[i]? =some x:=⟨_,an q0⟩;have hdg:=jn hgp;have hdr:=lp K0.may hgp;have hpg:fX (pk L (cZ t)) (i:Int)=ps:=by unfold fX;rw[if_neg q0,ar,hgp]
   have alw:=K0.ps _ (au hgp);dsimp only at alw;refine ab G G (ab G G (ab G G ?_));refine aQ G G alv (Fc hC K0.may) (λr63 w63 hc=>?_);obtain⟨rfl,rfl⟩:=hc;rw[hpg,hdg];obtain⟨_,_,_,_,_,auB,_⟩:=id hC;refine dN (places:=[(0,1),(1,1)]) dq mD HR rfl ⟨_,_,rfl,rfl,_,_,rfl,rfl,rfl⟩ (out:=[_,_]) ⟨0,[_],rfl,rfl,by simp[Value.cells],1,[_],rfl,rfl,by simp[Value.cells],rfl⟩ ?_;refine fw (A:=RT.fo) (hn:=by decide) (M:=M2) aV mD QZ G G hM (DW q0 q0) (.inl G) (λauC aa4 PV sq=>?_);replace iz:=iz.bQ sq;replace hC:=hC.step sq (λh=>h);replace hM:=sq.lt hM;have:=S.size;replace S:=S.av sq;refine dF (M:=M2) (base:=w0.heap.size) aV mD rfl rfl rfl rfl iz PV bU (by rw[bJ,b9,eM];omega) (by rw[bJ,b9,eM];omega) (S.size) (λalx auD auE ads Ta=>?_);replace PV:=PV.le Ta.le;replace hC:=hC.step Ta (λh=>by obtain⟨_,_,_,_,_,BW,_⟩:=id hC;exact iz.fA BW QZ h);replace hM:=Ta.lt hM;have:=S.size;replace S:=S.dU Ta iz (bu _);replace iz:=ads;refine Rg.aZ G G (aM (ab G G ?_));obtain⟨_,_,_,_,_,BW,_⟩:=id hC;refine aQ G G Hu (nU hC hM K0.may K0.ps K0.by_ K0.ln) (λr51 w51 hc=>?_);obtain⟨rfl,s51,hC⟩:=hc;have J6:mi (pk L (cZ t)) (i:Int)=((i+1:Nat):Int):=by unfold mi;rw[if_pos q0];omega
   rw[J6]at hC ⊢;replace iz:=iz.step s51 (λc hc (h:c=bc)=>iz.fA BW QZ (h▸hc));replace S:=S.ck s51 (λb (hb:b=bc)=>by omega);replace hM:=s51.lt hM;refine Rg.aZ G G ?_;refine⟨G,(i+1,alx),a00,?_,?_⟩
   ·exact⟨by omega,_,hM,S,hC,by rw[b7,ei,hgp];exact iz⟩
   ·dsimp only;omega
  ·have qM:(pk L (cZ t)).length<=i:=Nat.le_of_not_lt λh=>by have:=(DM (l:=(pk L (cZ t))) K0.may (i:=(i:Int))).2 ⟨by omega,by omega⟩;omega
   refine cN (T.aP (ab G G (Rg.aZ G G (aI (aF G G ⟨_,hM,S,?_⟩)))));rw[bm (by rw[b9];omega),hPF]at iz;exact iz
end Go.K
namespace Go.K
open Go.Proofs
namespace TKMPhr
theorem mD:TI Tryz.prog 45 (.agg #[(.int .i64 0),(.int .i64 0)]) 2 16:=by unfold TI;kernel_rfl
theorem FI:TI Tryz.prog 272 (.pointer none) 1 8:=by unfold TI;kernel_rfl
theorem HR:placesOf Tryz.prog 45=[(0,1),(1,1)].map some:=by kernel_rfl
theorem E54:Enters Tryz.prog 54:=enters Tryz.func54 rfl QZ
theorem SJ:Enters Tryz.prog 163:=enters Tryz.func163 rfl QZ
theorem Hu:Enters Tryz.prog 164:=enters Tryz.func164 rfl QZ
theorem SF:Enters Tryz.prog 166:=enters Tryz.func166 rfl QZ
theorem alA:Enters Tryz.prog 167:=enters Tryz.func167 rfl QZ
end TKMPhr
open TKMPhr
set_option maxRecDepth 10000
def qU (k:List UInt8) (xs:List (List UInt8)) (e:En):Option Int:=qS (pD (cT e.1.2 k) xs)
theorem Tb {ws xs:List (List UInt8)} (h:0<pD ws xs) {x:List UInt8} (hx:x∈xs):0<(iN ws x).length:=by
 unfold pD at h
 split at h
 ·omega
 ·unfold ug at h;obtain⟨i,hi⟩:=List.length_pos_iff_exists_mem.1 h;have h2:=of_decide_eq_true (fW.1 hi).2;rw[<-h2]at hx;exact BP.2 (List.mem_of_mem_drop (xi hx))
theorem uu {L:List En} (hF:∀e∈L,iy e.1) {k:List UInt8} {xs:List (List UInt8)} {i:Nat} {e:En} (h:L[i]? =some e) (hp:qU k xs e≠none) {x:List UInt8} (hx:x∈xs):((i:Int),iN (cT e.1.2 k) x)∈pk L (cZ (k,x)):=by
 have h0:0<pD (cT e.1.2 k) xs:=by
  unfold qU qS at hp
  split at hp
  ·assumption
  ·exact absurd G hp
 exact(PB hF).2 ⟨i,e,h,G,Tb h0 hx⟩
theorem HT {P:List Po} (hm:eD (-1) P=true) {p:Po} (hp:p∈P) {d:Int} (hd:d<=p.1):eL P (idx P d:Nat)<=p.1:=by
 obtain⟨t,ht⟩:=bK.1 hp;have h1:=Cj ht hd;have sL:=(al.1 ht).1;obtain⟨q,hq⟩:∃q,P[idx P d]? =some q:=⟨_,an q0⟩;rw[jn (d:=q.1) (ps:=q.2) hq];rcases cI (idx P d) t with h|h
 ·have:=mL hm hq ht h;omega
 ·have e:idx P d=t:=by omega
  rw[e,ht]at hq;cases hq;exact qt _
theorem PW {P:List Po} (hm:eD (-1) P=true) {p:Po} (hp:p∈P) {i:Nat} {d:Int} {ps:List Int} (hi:P[i]? =some (d,ps)) (hd:d<p.1):eL P ((i+1:Nat):Int)<=p.1:=by
 obtain⟨t,ht⟩:=bK.1 hp;have sL:=(al.1 ht).1
 have hit:i<t:=by
  rcases fq t i with h|h|h
  ·have:=mL hm ht hi h;simp only at this;omega
  ·subst h;rw[hi]at ht;cases ht;simp only at hd;omega
  ·exact h
 obtain⟨q,hq⟩:∃q,P[i+1]? =some q:=⟨_,an q0⟩;rw[jn (d:=q.1) (ps:=q.2) hq];rcases cI (i+1) t with h|h
 ·have:=mL hm hq ht h;omega
 ·have e:i+1=t:=by omega
  rw[e,ht]at hq;cases hq;exact qt _
theorem Jq {f:En->Option Int} {L:List En} {m:Nat}:∀n,(∀i e,m<=i->i<m+n->L[i]? =some e->f e=none)->ij f 0 (L.take (m+n))=ij f 0 (L.take m)
 |0,_=>rfl
 |n+1,h=>by
  rw[<-Jq n λi e h1 h2=>h i e h1 q0,<-Nat.add_assoc]
  cases hL:L[m+n]? with
  |some e=>rw[nV hL];unfold C4;rw[h _ e q0 q0 hL,fV]
  |none=>rw[b7,hL];simp
theorem uv {f:En->Option Int} {L:List En} {m n:Nat} (hmn:m<=n) (h:∀i e,m<=i->i<n->L[i]? =some e->f e=none):ij f 0 (L.take n)=ij f 0 (L.take m):=by
 obtain⟨c,rfl⟩:∃c,n=m+c:=⟨n-m,by omega⟩;exact Jq c h
theorem BX {m:List Po} {j x:Int} (hj: -1<=j/\j<=m.length) (hx:0<=x) (eQ:∀(t:Nat) p,(t:Int)<j->m[t]? =some p->p.1<x):rW m j x=idx m x:=by
 unfold rW
 split
 ·rename_i h
  rcases eU m j with⟨h0,h1,_⟩|⟨t,d,ps,rfl,ht,h1,_⟩|⟨h0,h1,_⟩
  ·omega
  ·rw[idx_eq (i:=t) (λa ha p hp=>eQ a p q0 hp) (λp hp=>by rw[ht]at hp;cases hp;simp only;omega) q0]
  ·rw[idx_eq (i:=m.length) (λa ha p hp=>eQ a p q0 hp) (λp hp=>by simp at hp) (bu _)];omega
 ·rfl
theorem zT {m:List Po} {x:Int} (hx:x<=2147483648):x<=eL m (idx m x:Nat):=by
 rcases eU m (idx m x:Nat)with⟨h0,h1,_⟩|⟨t,d,ps,he,ht,h1,_⟩|⟨h0,h1,_⟩
 ·omega
 ·obtain rfl:idx m x=t:=by omega
  have:=yt ht;simp only at this;omega
 ·omega
theorem nX {P:List Po} (hm:eD (-1) P=true) {i:Int} (hi:0<=i):∃D:Nat,eL P i=(D:Int)/\D<=2147483648:=by
 have h:=vq hm i
 have h0:0<=eL P i:=by
  rcases eU P i with⟨h1,_⟩|⟨j,d,ps,rfl,hx,h2,_⟩|⟨_,h2,_⟩
  ·omega
  ·have:=lp hm hx;omega
  ·omega
 exact⟨(eL P i).toNat,by omega,by omega⟩
theorem UR {L:List En} (hF:∀e∈L,iy e.1) {t:Fd} {i:Int} {D:Nat} (h:eL (pk L (cZ t)) i=(D:Int)) (hD:D<2147483648):∃e,L[D]? =some e/\fX (pk L (cZ t)) i=iN (cT e.1.2 t.1) t.2/\∃j:Nat,∃ps,i=j/\(pk L (cZ t))[j]? =some ((D:Int),ps):=by
 rcases eU (pk L (cZ t)) i with⟨_,h1,_⟩|⟨j,d,ps,rfl,hx,h2,h3⟩|⟨_,h1,_⟩
 ·omega
 ·obtain⟨d',e,h4,h5,_⟩:=(PB hF).1 (au hx)
  cases h5;have:d'=D:=by omega
  subst this;exact⟨e,h4,h3,j,_,G,hx⟩
 ·omega
theorem HU {ws:List (List UInt8)} (h:ws.length<=500) (x:List UInt8):UH (iN ws x):=by
 have hl:=qm ws x;refine⟨?_,?_,by omega⟩
 ·rw[oV];exact dZ.2 ((List.pairwise_lt_range.sublist List.filter_sublist).imp λh=>by omega)
 ·rw[oV];intro y hy;obtain⟨i,hi,rfl⟩:=cx.1 hy;have:=List.mem_range.1 (fW.1 hi).1;omega
theorem PX {P:List Po} (hm:eD (-1) P=true):idx P 0=0:=idx_eq (λj h=>absurd h (eC _)) (λp hp=>(lp hm (d:=p.1) (ps:=p.2) hp).1) (bp _)
theorem zU {P:List Po} (hm:eD (-1) P=true) {i:Nat} {d:Int} {ps:List Int} (hi:P[i]? =some (d,ps)):d<eL P ((i+1:Nat):Int):=by
 have hd:=lp hm hi;rcases eU P ((i+1:Nat):Int)with⟨h0,_⟩|⟨j,d',ps',he,hx,h1,_⟩|⟨_,h1,_⟩
 ·omega
 ·have:=mL hm hi hx q0;simp only at this;omega
 ·omega
theorem wa {f:En->Option Int} {e:En} {s:Int} (h:f e=some s) (i:Nat):C4 f i e=[((i:Int),s)]:=by unfold C4;rw[h]
theorem BY {f:En->Option Int} {e:En} (h:f e=none) (i:Nat):C4 f i e=[]:=by unfold C4;rw[h]
def sH (L:List En) (k:List UInt8) (xs:List (List UInt8)) (bs:List Nat) (pos:Nat->Int) (M:aL) (w:World):Prop:=∀(j:Nat) b x,bs[j]? =some b->xs[j]? =some x->Cu 323 (pk L (cZ (k,x))) (pos j) M w b
theorem sH.step {L:List En} {k:List UInt8} {xs:List (List UInt8)} {bs:List Nat} {pos:Nat->Int} {M M' N:aL} {w w':World} (h:sH L k xs bs pos M w) (s:Step M w M' w' N) (hn:∀b∈bs,¬N b):sH L k xs bs pos M' w':=λj b x hb hx=>(h j b x hb hx).step s (hn b (au hb))
theorem sH.PY {L:List En} {k:List UInt8} {xs:List (List UInt8)} {bs:List Nat} {pos:Nat->Int} {M M':aL} {w w':World} (h:sH L k xs bs pos M w) (mE:bs.Nodup) {j b:Nat} {x:List UInt8} {i:Int} (hb:bs[j]? =some b) (hx:xs[j]? =some x) (s:Step M w M' w' (λc=>c=b)) (hc:Cu 323 (pk L (cZ (k,x))) i M' w' b):sH L k xs bs (λj'=>if j'=j then i else pos j') M' w':=by
 intro j' b' x' Df PZ;by_cases e:j'=j
 ·subst e;rw[hb]at Df;rw[hx]at PZ
  cases Df;cases PZ;dsimp only;rw[if_pos rfl];exact hc
 ·dsimp only;rw[if_neg e];refine (h j' b' x' Df PZ).step s λME=>e ?_
  obtain⟨h1,h2⟩:=al.1 hb;obtain⟨h3,h4⟩:=al.1 Df;rcases fq j' j with h|h|h
  ·exact absurd (h4.trans (ME.trans h2.symm)) (List.pairwise_iff_getElem.1 mE _ _ h3 h1 h)
  ·exact h
  ·exact absurd (h2.trans (ME.symm.trans h4.symm)) (List.pairwise_iff_getElem.1 mE _ _ h1 h3 h)
theorem sH.cell {L:List En} {k:List UInt8} {xs:List (List UInt8)} {bs:List Nat} {pos:Nat->Int} {M:aL} {w:World} (h:sH L k xs bs pos M w) (hl:bs.length<=xs.length) {b:Nat} (hb:b∈bs):∃cs,w.heap[b]? =some (.cells cs 323 (0,0)):=by
 obtain⟨j,hj⟩:=bK.1 hb;have pb:=(al.1 hj).1;obtain⟨_,_,_,_,_,hc,_⟩:=h j b _ hj (an q0);exact⟨_,hc⟩
theorem sH.snoc {L:List En} {k:List UInt8} {xs:List (List UInt8)} {bs:List Nat} {M:aL} {w:World} (h:sH L k xs bs (λ_=> -1) M w) {b:Nat} {x:List UInt8} (hx:xs[bs.length]? =some x) (hc:Cu 323 (pk L (cZ (k,x))) (-1) M w b):sH L k xs (bs++[b]) (λ_=> -1) M w:=by
 intro j b' x' Df PZ;rcases fq j bs.length with h1|h1|h1
 ·rw[List.getElem?_append_left h1]at Df;exact h j b' x' Df PZ
 ·subst h1;rw[mT (bu _)]at Df;rw[hx]at PZ;simp at Df;subst Df;cases PZ;exact hc
 ·rw[cJ a11]at Df;cases Df
def we (L:List En) (k:List UInt8) (xs:List (List UInt8)) (pos:Nat->Int) (d:Nat):Prop:=∀(j:Nat) x,xs[j]? =some x->∀(t:Nat) p,(t:Int)<pos j->(pk L (cZ (k,x)))[t]? =some p->p.1<(d:Int)
theorem we.PY {L:List En} {k:List UInt8} {xs:List (List UInt8)} {pos:Nat->Int} {d d':Nat} (h:we L k xs pos d) (hd:d<=d') {j:Nat} {i:Int} (hi:∀x,xs[j]? =some x->∀(t:Nat) p,(t:Int)<i->(pk L (cZ (k,x)))[t]? =some p->p.1<(d':Int)):we L k xs (λj'=>if j'=j then i else pos j') d':=by
 intro j' x hx t p ht hp;dsimp only at ht;by_cases e:j'=j
 ·subst e;rw[if_pos rfl]at ht;exact hi x hx t p ht hp
 ·rw[if_neg e]at ht;have:=h j' x hx t p ht hp;omega
set_option maxHeartbeats 4000000 in
theorem Da {M:aL} {L:List En} {k:List UInt8} {xs:List (List UInt8)} {v0 vx:Value} (w0:World) (hM:Lt M w0) (hs:cM RT.se M w0 v0 (F9 (jq L))) (fY:BI (-1) L=true) (hn:L.length<=100000) (hx:(RT.str.sl).V M w0 xs vx) (hk:k.length<=140737488355328) (hxs:∀x∈xs,x.length<=140737488355328) (fh:xs≠[]) (hx6:xs.length<=1000):
  Spec Tryz.prog 106 #[v0,sv k,vx] w0 (λv w=>∃M',Lt M' w/\Step M w0 M' w aD/\Own RT.fo 45 M' w w0.heap.size v (ij (qU k xs) 0 L)):=by
 have gX:=hM;have hF:=kP fY;have hOK:∀x∈xs,OkC (pk L (cZ (k,x))):=λx _=>Pb hF q0 _
 obtain⟨x0,uT⟩:∃x,xs[0]? =some x:=⟨_,an (dI.2 fh)⟩;have Yi:x0∈xs:=au uT;have uH:=hOK x0 Yi;have hlp:=dI.2 fh;refine a7 (args:=[_,_,_]) (fn:=Tryz.f106) Tryz.func106 G (n:=88) Tryz.ntmps106 ?_;have S:Step M w0 M w0 aD:=aW;refine T.aP (Rg.aZ G G (T.aP (Rg.aZ G G (aK (T.aP (ab G G ?_))))));have xm:=cQ hx;refine bz aB G hx G (ab G G (ad (aX ?_)));refine cY (σ:=Nat×Value×List Nat) (λq=>[(0,v0),(1,sv k),(7,q.2.1),(19,vx),(20,.int .i64 (xs.length:Int)),(21,.int .i64 (q.1:Int))]) (λq w=>q.1<=xs.length/\q.2.2.length=q.1/\q.2.2.Nodup/\(∀b∈q.2.2,w0.heap.size<=b)/\∃M2,Lt M2 w/\Step M w0 M2 w aD/\cM RT.se M2 w v0 (F9 (jq L))/\(RT.str.sl).V M2 w xs vx/\sH L k xs q.2.2 (λ_=> -1) M2 w/\Own RT.Dp 272 M2 w w0.heap.size q.2.1 q.2.2) (λq=>xs.length-q.1) (0,.slice none 0 0,[]) ae1 ?_ ?_
 ·exact⟨bp _,rfl,List.nodup_nil,λb h=>by(cases h),_,hM,S,hs,hx,λj b x h=>by(simp at h),eJ _ _ _ _ _⟩
 ·clear hM S hs hx;rintro⟨i,vb,bs⟩ w ⟨hi,sM,mE,Yj,M2,hM,S,hs,hx,jX,gK⟩;dsimp only at hi sM mE Yj jX gK ⊢;refine T.aP (cy G G G (ad (aK ?_)));refine bF G (λc3=>?_) (λc3=>?_)
  ·refine aR (aK (aX (T.aP ?_)));obtain⟨x,TF⟩:∃x,xs[i]? =some x:=⟨_,an q0⟩;refine cB aB I9 G G G hx bU q0 (λu40 x_ gD Hx=>?_);rw[ar]at gD;obtain rfl:=aJ (TF.symm.trans gD);refine bD az G G G G G Hx bU (λv41 XS=>?_);obtain rfl:=dS XS;refine Rg.aZ rfl rfl (aM (ab rfl rfl (ab rfl rfl (ab rfl rfl (ab rfl rfl (dN (places:=[(0,1),(1,1)]) bI lA B24 rfl ⟨_,_,rfl,rfl,_,_,rfl,rfl,rfl⟩ (out:=[_,_]) ⟨0,[_],rfl,rfl,by simp[Value.cells],1,[_],rfl,rfl,by simp[Value.cells],rfl⟩ ?_))))));refine aQ rfl rfl SJ (tZ (ls:=(keysOf L).map (pk L)) (t:=(k,x)) _ hM hs (oJ L) rfl (by rw[b9];rfl) hk (hxs x (au TF))) (λr55 w55 hc=>?_);obtain⟨bc,rfl,hz,Yk,hC⟩:=hc;have hz0:=S.size;have Si:∀b∈bs,b<bc:=λb hb=>by obtain⟨_,h⟩:=jX.cell q0 hb;have:=ah h;omega
   generalize ins M2 bc=Mc at Yk hC;replace hC:Cu 323 (pk L (cZ (k,x))) (-1) Mc w55 bc:=by have h:=hC;rw[show SE (F9 (jq L)).2.2.1 ((keysOf L).map (pk L)) (cZ (k,x))=(pk L (cZ (k,x)))from O4 _]at h;exact h
   replace hs:=hs.le QZ Yk.le;replace hx:=hx.le Yk.le;replace gK:=gK.bQ Yk;replace jX:=jX.step Yk (λb hb h=>h);replace hM:=Yk.lt hM;have:=S.size;replace S:=S.av Yk;refine fw (A:=RT.Dp) (hn:=by decide) (M:=Mc) ir FI QZ G G hM (nC.2 G) (.inr ⟨G,G⟩) (λauH auI P0 HV=>?_);replace hs:=hs.le QZ HV.le;replace hx:=hx.le HV.le;replace gK:=gK.bQ HV;replace jX:=jX.step HV (λb hb h=>h);replace hC:=hC.step HV (λh=>h);replace hM:=HV.lt hM;have:=S.size;replace S:=S.av HV;refine dF (M:=Mc) (base:=w0.heap.size) ir FI rfl rfl rfl rfl gK P0 bU (by rw[eM];omega) (by rw[eM];omega) (S.size) (λabN auJ aiS adt tT=>?_);replace hs:=hs.le QZ tT.le;replace hx:=hx.le tT.le;replace P0:=P0.le tT.le;replace jX:=jX.step tT (λb hb h=>by obtain⟨_,jY⟩:=jX.cell q0 hb;first|exact gK.fA jY QZ h|exact iz.fA jY QZ h|exact FJ.fA jY QZ h);replace hC:=hC.step tT (λh=>by obtain⟨_,_,_,_,_,BW,_⟩:=id hC;exact gK.fA BW QZ h);replace hM:=tT.lt hM;have:=S.size;replace S:=S.dU tT gK (bu _);replace gK:=adt;refine Rg.aZ G G (aM (bC G G G q0 (ab G G (ad ?_))));refine⟨G,(i+1,abN,bs++[bc]),ae1,?_,?_⟩
   ·exact⟨by omega,by rw[bM,eM];omega,List.nodup_append.2 ⟨mE,by simp,λa ha b hb=>by simp at hb;subst hb;have:=Si a ha;omega⟩,λb hb=>by rcases dw.1 hb with h|h;exact Yj b h;simp at h;subst h;omega,_,hM,S,hs,hx,jX.snoc (by rw[sM];exact TF) hC,gK⟩
   ·dsimp only;omega
  ·refine cN (T.aP ?_);have VU:bs.length=xs.length:=by omega
   obtain⟨b0,yH⟩:∃b,bs[0]? =some b:=⟨_,an q0⟩;refine Rg.aZ G G (aK (T.aP (ab G G ?_)));have adu:=gK.close (hn:=by decide) gX S q0;refine cB (A:=RT.Dp) (hn:=by decide) ir FI G G G adu bU q0 (λu81 x_ gD P1=>?_);obtain rfl:=aJ ((show bs[0]? =some b0 from yH).symm.trans gD);refine bD Tryz.underlying272 G G G G G P1 bU (λv81 alB=>?_);obtain rfl:=nC.1 alB;obtain⟨_,_,_,_,_,BW,_⟩:=id (jX 0 _ _ yH uT);refine aQ G G Hu (nU (jX 0 _ _ yH uT) hM uH.may uH.ps uH.by_ uH.ln) (λr83 w83 hc=>?_);obtain⟨rfl,s83,hC⟩:=hc;have J6:mi (pk L (cZ (k,x0))) (-1)=0:=by unfold mi;rw[if_pos q0];omega
   rw[J6]at hC ⊢;obtain⟨D,hD,JB⟩:=nX uH.may (i:=0) (qt _);rw[hD];replace jX:=jX.PY mE yH uT s83 hC;replace gK:=gK.step s83 (λc hc (h:c=b0)=>gK.fA BW QZ (h▸hc));replace S:=S.ck s83 (λc (h:c=b0)=>by have:=Yj b0 (au yH);omega);replace hM:=s83.lt hM;refine Rg.aZ G G (aX ?_);refine cY (σ:=Nat×Value) (λq=>[(7,vb),(10,q.2),(11,.int .i64 (q.1:Int))]) (λq w=>q.1<=2147483648/\∃M2 pos,Lt M2 w/\Step M w0 M2 w aD/\sH L k xs bs pos M2 w/\we L k xs pos q.1/\eL (pk L (cZ (k,x0))) (pos 0)=(q.1:Int)/\Own RT.Dp 272 M2 w w0.heap.size vb bs/\Own RT.fo 45 M2 w w0.heap.size q.2 (ij (qU k xs) 0 (L.take q.1))) (λq=>2147483648-q.1) (D,.slice none 0 0) a00 ?_ ?_
   ·refine ⟨JB,_,_,hM,S,jX,(show we L k xs (λ_=> -1) 0 from λj x hx t p h=>by dsimp only at h;omega).PY (bp _) (λx hx t p h=>by omega),by dsimp only;rw[if_pos rfl];exact hD,gK,?_⟩;rw[show ij (qU k xs) 0 (L.take D)=[]from uv (m:=0) (bp _) λi e _ h2 h3=>Decidable.byContradiction λhp=>by have:=HT uH.may (uu hF h3 hp Yi) (d:=0) ai5;rw[PX uH.may,show eL (pk L (cZ (k,x0))) ((0:Nat):Int)=(D:Int)from hD]at this;simp only at this;omega];exact eJ _ _ _ _ _
   ·clear hM S jX gK hD hC;rintro⟨D,vo⟩ w ⟨JB,M2,pos,hM,S,jX,QV,hD,gK,iz⟩;dsimp only at JB QV hD iz ⊢;refine aK (T.aP (ab G G (cy G G G (ad ?_))));refine bF G (λc9=>?_) (λc9=>?_)
    ·have auK:D<2147483648:=by omega
     refine aR (aX (T.aP (ab G G (Rg.aZ G G (aK (T.aP (ab G G ?_)))))));have Yl:=gK.close (hn:=by decide) gX S q0;refine bz (A:=RT.Dp) (hn:=by decide) ir G Yl G (ab G G (ad (aX ?_)));refine cY (σ:=Nat×Nat) (λq=>[(7,vb),(10,vo),(11,.int .i64 (D:Int)),(12,.int .i64 (q.2:Int)),(41,vb),(42,.int .i64 (bs.length:Int)),(43,.int .i64 (q.1:Int))]) (λq w=>q.1<=bs.length/\D<=q.2/\q.2<=2147483648/\∃M2 pos,Lt M2 w/\Step M w0 M2 w aD/\sH L k xs bs pos M2 w/\we L k xs pos D/\(∀(j:Nat) x,j<q.1->xs[j]? =some x->pos j=((idx (pk L (cZ (k,x))) D:Nat):Int)/\eL (pk L (cZ (k,x))) ((idx (pk L (cZ (k,x))) D:Nat):Int)<=(q.2:Int))/\(q.2=D\/∃x∈xs,(q.2:Int)=eL (pk L (cZ (k,x))) ((idx (pk L (cZ (k,x))) D:Nat):Int))/\Own RT.Dp 272 M2 w w0.heap.size vb bs/\Own RT.fo 45 M2 w w0.heap.size vo (ij (qU k xs) 0 (L.take D))) (λq=>bs.length-q.1) (0,D) a30 ?_ ?_
     ·exact⟨bp _,bu _,JB,_,_,hM,S,jX,QV,λj x h=>by(exact absurd h (eC _)),.inl G,gK,iz⟩
     ·clear hM S jX QV gK iz;rintro⟨j,at_⟩ w ⟨hj,hDa,hal,M2,pos,hM,S,jX,QV,LA,Zc,gK,iz⟩;dsimp only at hj hDa hal LA Zc ⊢;refine T.aP (cy G G G (ad (aK ?_)));refine bF G (λMM=>?_) (λMM=>?_)
      ·refine aR (aK (aX (T.aP ?_)));obtain⟨bj,HC⟩:∃x,bs[j]? =some x:=⟨_,an q0⟩;obtain⟨x,Fe⟩:∃x,xs[j]? =some x:=⟨_,an q0⟩;have US:=hOK x (au Fe);have adv:=gK.close (hn:=by decide) gX S q0;refine cB (A:=RT.Dp) (hn:=by decide) ir FI G G G adv bU q0 (λu13 x_ gD X7=>?_);rw[ar]at gD;obtain rfl:=aJ ((show bs[j]? =some bj from HC).symm.trans gD);refine bD Tryz.underlying272 G G G G G X7 bU (λW9 FB=>?_);obtain rfl:=nC.1 FB;refine Rg.aZ G G (aM (ab G G (ab G G (ab G G ?_))));obtain⟨_,_,_,_,_,BW,_⟩:=id (jX j _ _ HC Fe);refine aQ G G SF (oR (jX j _ _ HC Fe) hM US.may US.ps US.by_ US.ln q0) (λalC alD hc=>?_);obtain⟨rfl,P2,hC⟩:=hc;have hjr:=(jX j _ _ HC Fe).rng;rw[BX hjr q0 (QV j x Fe)]at hC ⊢;obtain⟨A,hA,hAl⟩:=nX US.may (i:=((idx (pk L (cZ (k,x))) D:Nat):Int)) q0;rw[hA];replace jX:=jX.PY mE HC Fe P2 hC;replace gK:=gK.step P2 (λc hc (h:c=bj)=>gK.fA BW QZ (h▸hc));replace iz:=iz.step P2 (λc hc (h:c=bj)=>iz.fA BW QZ (h▸hc));replace S:=S.ck P2 (λc (h:c=bj)=>by have:=Yj bj (au HC);omega);replace hM:=P2.lt hM;refine Rg.max2 G G G (br (v':= .int .i64 ((max at_ A:Nat):Int)) (by congr 1;omega) (Rg.aZ rfl rfl (aM (bC rfl rfl rfl q0 (ab rfl rfl (ad ?_))))));refine⟨G,(j+1,max at_ A),a30,?_,?_⟩
       ·refine⟨by omega,by omega,by omega,_,_,hM,S,jX,QV.PY (bu _) (λy hy t p h1 h2=>by rw[Fe]at hy;cases hy;exact yq (Int.ofNat_lt.1 h1) h2),λj' y hj' hy=>?_,?_,gK,iz⟩
        ·dsimp only at hj' ⊢;by_cases e:j'=j
         ·subst e;rw[Fe]at hy;cases hy;rw[if_pos rfl];exact⟨G,by omega⟩
         ·rw[if_neg e];obtain⟨h1,h2⟩:=LA j' y q0 hy;exact⟨h1,by omega⟩
        ·dsimp only;rcases Nat.le_total A at_ with h|h
         ·rw[Nat.max_eq_left h];exact Zc
         ·rw[Nat.max_eq_right h];exact .inr ⟨x,au Fe,hA.symm⟩
       ·dsimp only;omega
      ·refine cN (aK (T.aP (ab G G (ab G G (eN G G G (ad ?_))))));refine bF G (λF8=>?_) (λF8=>?_)
       ·have hgA:∀D2:Nat,eL (pk L (cZ (k,x0))) ((idx (pk L (cZ (k,x0))) at_:Nat):Int)=(D2:Int)->∀(i:Nat) e,D<=i->i<D2->L[i]? =some e->qU k xs e=none:=λD2 K1 i e h1 h2 h3=>by
         rcases Zc with h|⟨y,hy,h⟩
         ·omega
         ·refine Decidable.byContradiction λhp=> ?_
          have q1:=HT (hOK y hy).may (uu hF h3 hp hy) (d:=(D:Int)) ai5;have q2:=HT uH.may (uu hF h3 hp Yi) (d:=(at_:Int)) (by simp only at q1 ⊢;omega);simp only at q1 q2;omega
        refine T.aP (ab G G ?_);have Ym:=gK.close (hn:=by decide) gX S q0;refine cB (A:=RT.Dp) (hn:=by decide) ir FI G G G Ym bU q0 (λauN x_ gD adw=>?_);obtain rfl:=aJ ((show bs[0]? =some b0 from yH).symm.trans gD);refine bD Tryz.underlying272 G G G G G adw bU (λv171 adx=>?_);obtain rfl:=nC.1 adx;refine ab G G ?_;obtain⟨_,_,_,_,_,BW,_⟩:=id (jX 0 _ _ yH uT);refine aQ G G SF (oR (jX 0 _ _ yH uT) hM uH.may uH.ps uH.by_ uH.ln (to:=(at_:Int)) q0) (λauO auP hc=>?_);obtain⟨rfl,P3,hC⟩:=hc;have hjr:=(jX 0 _ _ yH uT).rng;rw[BX hjr q0 (λt p h1 h2=>by have:=QV 0 x0 uT t p h1 h2;omega)]at hC ⊢;obtain⟨D2,K1,P4⟩:=nX uH.may (i:=((idx (pk L (cZ (k,x0))) at_:Nat):Int)) q0;rw[K1];have sV:=zT (m:=(pk L (cZ (k,x0)))) (x:=(at_:Int)) q0;replace jX:=jX.PY mE yH uT P3 hC;replace gK:=gK.step P3 (λc hc (h:c=b0)=>gK.fA BW QZ (h▸hc));replace iz:=iz.step P3 (λc hc (h:c=b0)=>iz.fA BW QZ (h▸hc));replace S:=S.ck P3 (λc (h:c=b0)=>by have:=Yj b0 (au yH);omega);replace hM:=P3.lt hM;refine Rg.aZ G G (cN ?_);refine⟨G,(D2,vo),a00,?_,?_⟩
        ·exact⟨P4,_,_,hM,S,jX,QV.PY q0 (λx hx t p h1 h2=>by rw[uT]at hx;cases hx;have:=yq (Int.ofNat_lt.1 h1) h2;omega),by dsimp only;rw[if_pos rfl];exact K1,gK,by rw[uv (m:=D) q0 (hgA D2 K1)];exact iz⟩
        ·dsimp only;omega
       ·have haD:at_=D:=by omega
        have ady:∀(j':Nat) y,xs[j']? =some y->pos j'=((idx (pk L (cZ (k,y))) D:Nat):Int)/\eL (pk L (cZ (k,y))) (pos j')=(D:Int):=λj' y hy=>by
         obtain⟨h1,h2⟩:=LA j' y (by have:=(al.1 hy).1;omega) hy;have h3:=zT (m:=(pk L (cZ (k,y)))) (x:=(D:Int)) q0;exact⟨h1,by rw[h1];omega⟩
        obtain⟨e,hLe,_,t0,ps0,ht0,FK⟩:=UR hF (ady 0 x0 uT).2 q0
        have xG:∀y j',xs[j']? =some y->fX (pk L (cZ (k,y))) (pos j')=iN (cT e.1.2 k) y:=λy j' hy=>by
         obtain⟨e',h1,h2,_⟩:=UR hF (ady j' y hy).2 q0;rw[hLe]at h1;cases h1;exact h2
        have hwf:(cT e.1.2 k).length<=500:=qo (hF e (au hLe)) k;have SD:=Jm (cT e.1.2 k) xs
        have hsd:Jh (xs.map (iN (cT e.1.2 k)))=pD (cT e.1.2 k) xs:=by
         cases ZF:xs with
         |nil=>exact absurd ZF fh
         |cons a tl=>exact Px _ a tl
        have sL:=(al.1 FK).1
        have hgB:∀D2:Nat,eL (pk L (cZ (k,x0))) ((t0+1:Nat):Int)=(D2:Int)->∀(i:Nat) e',D+1<=i->i<D2->L[i]? =some e'→qU k xs e'=none:=λD2 K1 i e' h1 h2 h3=>by
         refine Decidable.byContradiction λhp=> ?_
         have q2:=PW uH.may (uu hF h3 hp Yi) FK ai5;simp only at q2;omega
        clear LA Zc;refine aR (T.aP (Rg.aZ G G (aK (T.aP (ab G G ?_)))));have Yl:=gK.close (hn:=by decide) gX S q0;refine bz (A:=RT.Dp) (hn:=by decide) ir G Yl G (ab G G (ad (aX ?_)));refine cY (σ:=Nat×Value) (λq=>[(7,vb),(10,vo),(11,.int .i64 (D:Int)),(15,q.2),(61,vb),(62,.int .i64 (bs.length:Int)),(63,.int .i64 (q.1:Int))]) (λq w=>q.1<=bs.length/\∃M2,Lt M2 w/\Step M w0 M2 w aD/\sH L k xs bs pos M2 w/\Own RT.Dp 272 M2 w w0.heap.size vb bs/\Own RT.fo 45 M2 w w0.heap.size vo (ij (qU k xs) 0 (L.take D))/\Own ((RT.int .i64).sl) 61 M2 w w0.heap.size q.2 ((xs.take q.1).map (iN (cT e.1.2 k)))) (λq=>bs.length-q.1) (0,.slice none 0 0) a30 ?_ ?_
        ·exact⟨bp _,_,hM,S,jX,gK,iz,eJ _ _ _ _ _⟩
        ·clear hM S jX gK iz;rintro⟨j,vr⟩ w ⟨hj,M2,hM,S,jX,gK,iz,FJ⟩;dsimp only at hj FJ ⊢;refine T.aP (cy G G G (ad (aK ?_)));refine bF G (λZn=>?_) (λZn=>?_)
         ·refine aR (aK (aX (T.aP ?_)));obtain⟨bj,HC⟩:∃x,bs[j]? =some x:=⟨_,an q0⟩;obtain⟨x,Fe⟩:∃x,xs[j]? =some x:=⟨_,an q0⟩;have US:=hOK x (au Fe);have adz:=gK.close (hn:=by decide) gX S q0;refine cB (A:=RT.Dp) (hn:=by decide) ir FI G G G adz bU q0 (λu21 x_ gD Pf=>?_);rw[ar]at gD;obtain rfl:=aJ ((show bs[j]? =some bj from HC).symm.trans gD);refine bD Tryz.underlying272 G G G G G Pf bU (λv21 Yh=>?_);obtain rfl:=nC.1 Yh;refine Rg.aZ G G (aM (ab G G (ab G G ?_)));refine aQ G G alA (CX (jX j _ _ HC Fe) US.may US.ps hM) (λr22 w22 hc=>?_);obtain⟨K2,xM⟩:=hc;rw[(xG x j Fe)]at K2;replace gK:=gK.bQ xM;replace iz:=iz.bQ xM;replace FJ:=FJ.bQ xM;replace jX:=jX.step xM (λb hb h=>h);replace hM:=xM.lt hM;have:=S.size;replace S:=S.av xM;refine fw (A:=((RT.int .i64).sl)) (hn:=by decide) (M:=M2) gp ph QZ G G hM (K2) (.inr ⟨G,G⟩) (λapu apv HW zV=>?_);replace K2:=K2.le zV.le;replace gK:=gK.bQ zV;replace iz:=iz.bQ zV;replace FJ:=FJ.bQ zV;replace jX:=jX.step zV (λb hb h=>h);replace hM:=zV.lt hM;have:=S.size;replace S:=S.av zV;refine dF (M:=M2) (base:=w0.heap.size) gp ph rfl rfl rfl rfl FJ HW bU (by rw[b9,bJ,eM];omega) (by rw[b9,bJ,eM];omega) (S.size) (λadA apw apx Yn zW=>?_);replace K2:=K2.le zW.le;replace HW:=HW.le zW.le;replace gK:=gK.step zW (λb h1 h2=>gK.jf FJ QZ h1 h2);replace iz:=iz.step zW (λb h1 h2=>iz.jf FJ QZ h1 h2);replace jX:=jX.step zW (λb hb h=>by obtain⟨_,jY⟩:=jX.cell q0 hb;first|exact gK.fA jY QZ h|exact iz.fA jY QZ h|exact FJ.fA jY QZ h)
          replace hM:=zW.lt hM;have:=S.size;replace S:=S.dU zW FJ (bu _);replace FJ:=Yn;refine Rg.aZ G G (aM (bC G G G q0 (ab G G (ad ?_))));refine⟨G,(j+1,adA),a30,?_,?_⟩
          ·exact⟨by omega,_,hM,S,jX,gK,iz,by rw[b7,Fe,dH,dM];exact FJ⟩
          ·dsimp only;omega
         ·refine cN (aK (T.aP (ab G G ?_)));have hrc:=FJ.close (hn:=by decide) gX S (by rw[b9,bJ];omega);rw[bm q0]at hrc;refine aQ rfl rfl E54 (BV (M:=M) hrc (λl hl=>by obtain⟨x,_,rfl⟩:=cx.1 hl;exact HU hwf x) (by rw[b9];omega)) (λr24 w24 hc=>?_);obtain⟨rfl,rfl⟩:=hc;refine br (v':= .int .i64 (pD (cT e.1.2 k) xs:Int)) (by rw[hsd]) (Rg.aZ G G (T.aP (ab G G (eN G G G (ad ?_)))));refine bF G (λc25=>?_) (λc25=>?_)
          ·have hph:qU k xs e=some (pD (cT e.1.2 k) xs:Int):=by unfold qU qS;rw[if_pos q0]
           refine aM (ab rfl rfl (ab rfl rfl (ab rfl rfl (dN (places:=[(0,1),(1,1)]) dq mD HR rfl ⟨_,_,rfl,rfl,_,_,rfl,rfl,rfl⟩ (out:=[_,_]) ⟨0,[_],rfl,rfl,by simp[Value.cells],1,[_],rfl,rfl,by simp[Value.cells],rfl⟩ ?_))));refine fw (A:=RT.fo) (hn:=by decide) (M:=M2) aV mD QZ G G hM (DW q0 q0) (.inl G) (λapz apA HX FL=>?_);replace gK:=gK.bQ FL;replace iz:=iz.bQ FL;replace jX:=jX.step FL (λb hb h=>h);replace hM:=FL.lt hM;have:=S.size;replace S:=S.av FL;refine dF (M:=M2) (base:=w0.heap.size) aV mD G G G G iz HX bU (by have:=kE (f:=qU k xs) (L.take D) 0;rw[bJ]at this;rw[eM];omega) (by have:=kE (f:=qU k xs) (L.take D) 0;rw[bJ]at this;rw[eM];omega) (S.size) (λadB apB apC Yo FM=>?_);replace HX:=HX.le FM.le;replace gK:=gK.step FM (λb h1 h2=>gK.jf iz QZ h1 h2);replace jX:=jX.step FM (λb hb h=>by obtain⟨_,jY⟩:=jX.cell q0 hb;first|exact gK.fA jY QZ h|exact iz.fA jY QZ h|exact FJ.fA jY QZ h);replace hM:=FM.lt hM;have:=S.size;replace S:=S.dU FM iz (bu _);replace iz:=Yo;refine Rg.aZ G G (aM (ab G G ?_));have HY:=gK.close (hn:=by decide) gX S q0;refine cB (A:=RT.Dp) (hn:=by decide) ir FI G G G HY bU q0 (λalH x_ gD P5=>?_);obtain rfl:=aJ ((show bs[0]? =some b0 from yH).symm.trans gD);refine bD Tryz.underlying272 G G G G G P5 bU (λalI P7=>?_);obtain rfl:=nC.1 P7;obtain⟨_,_,_,_,_,BW,_⟩:=id (jX 0 _ _ yH uT);refine aQ G G Hu (nU (jX 0 _ _ yH uT) hM uH.may uH.ps uH.by_ uH.ln) (λalJ alK hc=>?_);obtain⟨rfl,zX,hC⟩:=hc;have J6:mi (pk L (cZ (k,x0))) (pos 0)=((t0+1:Nat):Int):=by unfold mi;rw[ht0,if_pos q0];omega
           rw[J6]at hC ⊢;obtain⟨D2,K1,P4⟩:=nX uH.may (i:=((t0+1:Nat):Int)) q0;rw[K1];have hDD:D<D2:=by have:=zU uH.may FK;omega
           have hB0:∀x,xs[0]? =some x->∀(t:Nat) p,(t:Int)<((t0+1:Nat):Int)->(pk L (cZ (k,x)))[t]? =some p->p.1<(D2:Int):=λx hx t p h1 h2=>by
            rw[uT]at hx;cases hx;rcases cI t t0 with h|h
            ·have:=mL uH.may h2 FK h;simp only at this;omega
            ·obtain rfl:t=t0:=by omega
             rw[FK]at h2;cases h2;simp only;omega
           replace jX:=jX.PY mE yH uT zX hC;replace gK:=gK.step zX (λc hc (h:c=b0)=>gK.fA BW QZ (h▸hc));replace iz:=iz.step zX (λc hc (h:c=b0)=>iz.fA BW QZ (h▸hc));replace S:=S.ck zX (λc (h:c=b0)=>by have:=Yj b0 (au yH);omega);replace hM:=zX.lt hM;refine Rg.aZ G G ?_;refine⟨G,(D2,adB),a00,?_,?_⟩
           ·exact⟨P4,_,_,hM,S,jX,QV.PY q0 hB0,by dsimp only;rw[if_pos rfl];exact K1,gK,by rw[uv (m:=D+1) q0 (hgB D2 K1),nV hLe,wa hph _];exact iz⟩
           ·dsimp only;omega
          ·have hph:qU k xs e=none:=by unfold qU qS;rw[if_neg q0]
           refine aR (aM (ab G G ?_));have HY:=gK.close (hn:=by decide) gX S q0;refine cB (A:=RT.Dp) (hn:=by decide) ir FI G G G HY bU q0 (λalH x_ gD P5=>?_);obtain rfl:=aJ ((show bs[0]? =some b0 from yH).symm.trans gD);refine bD Tryz.underlying272 G G G G G P5 bU (λalI P7=>?_);obtain rfl:=nC.1 P7;obtain⟨_,_,_,_,_,BW,_⟩:=id (jX 0 _ _ yH uT);refine aQ G G Hu (nU (jX 0 _ _ yH uT) hM uH.may uH.ps uH.by_ uH.ln) (λalJ alK hc=>?_);obtain⟨rfl,zX,hC⟩:=hc;have J6:mi (pk L (cZ (k,x0))) (pos 0)=((t0+1:Nat):Int):=by unfold mi;rw[ht0,if_pos q0];omega
           rw[J6]at hC ⊢;obtain⟨D2,K1,P4⟩:=nX uH.may (i:=((t0+1:Nat):Int)) q0;rw[K1];have hDD:D<D2:=by have:=zU uH.may FK;omega
           have hB0:∀x,xs[0]? =some x->∀(t:Nat) p,(t:Int)<((t0+1:Nat):Int)->(pk L (cZ (k,x)))[t]? =some p->p.1<(D2:Int):=λx hx t p h1 h2=>by
            rw[uT]at hx;cases hx;rcases cI t t0 with h|h
            ·have:=mL uH.may h2 FK h;simp only at this;omega
            ·obtain rfl:t=t0:=by omega
             rw[FK]at h2;cases h2;simp only;omega
           replace jX:=jX.PY mE yH uT zX hC;replace gK:=gK.step zX (λc hc (h:c=b0)=>gK.fA BW QZ (h▸hc));replace iz:=iz.step zX (λc hc (h:c=b0)=>iz.fA BW QZ (h▸hc));replace S:=S.ck zX (λc (h:c=b0)=>by have:=Yj b0 (au yH);omega);replace hM:=zX.lt hM;refine Rg.aZ G G ?_;refine⟨G,(D2,vo),a00,?_,?_⟩
           ·exact⟨P4,_,_,hM,S,jX,QV.PY q0 hB0,by dsimp only;rw[if_pos rfl];exact K1,gK,by rw[uv (m:=D+1) q0 (hgB D2 K1),nV hLe,BY hph _,fV];exact iz⟩
           ·dsimp only;omega
    ·refine cN (T.aP (ab G G (Rg.aZ G G (aI (aF G G ⟨_,hM,S,?_⟩)))));rw[bm q0]at iz;exact iz
end Go.K
namespace Go.K
open Go.Proofs
namespace TKSide
theorem LF:TI Tryz.prog 36 (.slice none 0 0) 1 24:=by unfold TI;kernel_rfl
theorem mD:TI Tryz.prog 45 (.agg #[(.int .i64 0),(.int .i64 0)]) 2 16:=by unfold TI;kernel_rfl
theorem zY:TI Tryz.prog 261 (.agg #[(.int .i64 0),(.int .i64 0),(.int .i64 0)]) 3 24:=by unfold TI;kernel_rfl
theorem Tc:TI Tryz.prog 313 (.pointer none) 1 8:=by unfold TI;kernel_rfl
theorem adC:placesOf Tryz.prog 261=[(0,1),(1,1),(2,1)].map some:=by kernel_rfl
end TKSide
open TKSide
set_option maxRecDepth 10000
theorem BZ {M2:aL} {w6:World} {ba bb bx k:Nat} {a' b':List Fo} {v0 v1:Value} (hk:k<2) (fh:ba≠bb) (Zo:bx≠ba) (Nt:bx≠bb) (LB:M2 ba) (xB:M2 bb) (I2:w6.heap[ba]? =some (.cells #[v0] 36 (0,0))) (qY:((RT.fo).sl).V M2 w6 (lK a' (iZ a' b') (decide (0<k))) v0) (I6:w6.heap[bb]? =some (.cells #[v1] 36 (0,0))) (j9:((RT.fo).sl).V M2 w6 (lK b' (iZ a' b') (decide (1<k))) v1):
  ∃pk lk vk,[ba,bb][k]? =some pk/\[a',b'][k]? =some lk/\w6.heap[pk]? =some (.cells #[vk] 36 (0,0))/\((RT.fo).sl).V M2 w6 lk vk/\M2 pk/\(pk=ba\/pk=bb)/\pk≠bx/\(∀(w':World) (v':Value),(∀q o,q≠pk->q≠bx->w6.heap[q]? =some o->w'.heap[q]? =some o)->(∀l v,((RT.fo).sl).V M2 w6 l v->((RT.fo).sl).V M2 w' l v)->w'.heap[pk]? =some (.cells #[v'] 36 (0,0))->((RT.fo).sl).V M2 w' (fL lk (iZ a' b')) v'→
   ∃v0 v1,w'.heap[ba]? =some (.cells #[v0] 36 (0,0))/\((RT.fo).sl).V M2 w' (lK a' (iZ a' b') (decide (0<k+1))) v0/\w'.heap[bb]? =some (.cells #[v1] 36 (0,0))/\((RT.fo).sl).V M2 w' (lK b' (iZ a' b') (decide (1<k+1))) v1):=by
 match k with
 |0=>exact⟨ba,a',v0,rfl,rfl,I2,qY,LB,.inl rfl,λh=>Zo h.symm,λw' v' h1 h2 h3 h4=>⟨v',v1,h3,h4,h1 bb _ (λh=>fh h.symm) (λh=>Nt h.symm) I6,h2 _ _ j9⟩⟩
 |1=>exact⟨bb,b',v1,rfl,rfl,I6,j9,xB,.inr rfl,λh=>Nt h.symm,λw' v' h1 h2 h3 h4=>⟨v0,v',h1 ba _ fh (λh=>Zo h.symm) I2,h2 _ _ qY,h3,h4⟩⟩
 |k+2=>omega
theorem K3 {M:aL} {w0:World} {va vb:Value} {a b:List Fo} (hM:Lt M w0) (ha:((RT.fo).sl).V M w0 a va) (hb:((RT.fo).sl).V M w0 b vb):
  Spec Tryz.prog 158 #[va,vb] w0 (λv' w'=>∃ba bb,v'= .func (.func 200) #[] #[.pointer (some ⟨ba,0,none⟩),.pointer (some ⟨bb,0,none⟩)]/\w'.heap[ba]? =some (.cells #[va] 36 (0,0))/\w'.heap[bb]? =some (.cells #[vb] 36 (0,0))/\ba≠bb/\w0.heap.size<=ba/\w0.heap.size<=bb/\Step M w0 (ins (ins M ba) bb) w' aD):=by
 refine a7 (args:=[_,_]) (fn:=Tryz.f158) Tryz.func158 G (n:=6) Tryz.ntmps158 (T.aP ?_);refine np M G G (λba w1 h1 Rj hA s1=>?_);rw[iR ha]at hA;refine np (ins M ba) G G (λbb w2 h2 F3 hB s2=>?_);rw[iR hb]at hB;have hA2:=s2.aE hA;have z1:=s1.size;refine Rg.aZ G G (T.aP (jj (xs:=[]) (ys:=[.tmp 2,.tmp 3]) G G G (Rg.aZ G G (aI ?_))));exact aF G G ⟨ba,bb,G,hA2,hB,by omega,h1,by omega,s1.av s2⟩
set_option maxHeartbeats 2000000 in
theorem HZ {w0:World} {ba bb yl:Nat} {a b:List Fo} {va vb:Value} {J:List Fo->List Fo->aL->World->Prop} {M:aL} {Jx:World->Prop} (fh:ba≠bb) (Sm:∀a b M w,J a b M w->Lt M w/\M ba/\M bb) (kI:∀a b M w M' w',J a b M w->Step M w M' w' (λj=>j=ba\/j=bb)->J a b M' w') (hy:∀(a b:List Fo) (M:aL) (w:World),J a b M w->ri a->ri b->(a≠[]\/b≠[])->yh Tryz.prog yl [.agg #[.int .i64 (iZ a b),.int .i64 (rf a b 2),.int .i64 (rh a b 2)]].toArray w (λr w'=>∃c,r= .bool c/\(c=true->∃M' N,J (fL a (iZ a b)) (fL b (iZ a b)) M' w'∧Step M w M' w' N/\∀k,N k->k≠ba/\k≠bb)/\(c=false->Jx w'))) (ha:w0.heap[ba]? =some (.cells #[va] 36 (0,0))) (hb:w0.heap[bb]? =some (.cells #[vb] 36 (0,0))) (mv:((RT.fo).sl).V M w0 a va) (Lz:((RT.fo).sl).V M w0 b vb) (oa:ri a) (ob:ri b) (h0:J a b M w0):
  Spec Tryz.prog 200 #[.func (.yield yl) #[] #[],.pointer (some ⟨ba,0,none⟩),.pointer (some ⟨bb,0,none⟩)] w0 (λ_ w'=>(∃M',J [] [] M' w')\/Jx w'):=by
 refine a7 (args:=[_,_,_]) (fn:=Tryz.f200) Tryz.func200 G (n:=85) Tryz.ntmps200 (aX ?_);refine cY (σ:=List Fo×List Fo) (λs=>[(0,.func (.yield yl) #[] #[]),(1,.pointer (some ⟨ba,0,none⟩)),(2,.pointer (some ⟨bb,0,none⟩))]) (λs w=>ri s.1/\ri s.2/\∃va vb M1,J s.1 s.2 M1 w/\w.heap[ba]? =some (.cells #[va] 36 (0,0))/\w.heap[bb]? =some (.cells #[vb] 36 (0,0))/\((RT.fo).sl).V M1 w s.1 va/\((RT.fo).sl).V M1 w s.2 vb) (λs=>s.1.length+s.2.length) (a,b) a00 ?_ ?_
 ·exact⟨oa,ob,va,vb,M,h0,ha,hb,mv,Lz⟩
 ·rintro⟨a',b'⟩ w1 ⟨QW,QX,va1,vb1,M1,hJ,TY,Zp,K4,K5⟩;dsimp only at QW QX hJ K4 K5 ⊢;obtain⟨oN,Td,Te⟩:=Sm _ _ _ _ hJ;refine aK (T.aP (aN aV G G G U3 G (bz aV G K4 G (eN G G G (ab G G ?_)))));refine aO (g:=12) G (λTf=>?_) (λTf=>?_)
  ·have P8:a'≠[]\/b'≠[]:= .inl (by intro h;rw[h]at Tf;simp at Tf);refine aj rfl rfl rfl rfl (aj rfl rfl rfl rfl (aj rfl rfl rfl rfl (aU rfl rfl rfl (ad (kA rfl (aR (aX (T.aP (dN (places:=[(0,1),(1,1),(2,1)]) db zY adC rfl ⟨_,_,rfl,rfl,rfl⟩ (out:=[_,.int .i64 0,.int .i64 0]) ⟨0,[_],rfl,rfl,by simp[Value.cells],rfl⟩ ?_)))))))));refine eB M1 zY G (λbx w2 z2 z2' hX0 s2=>?_);obtain⟨M2,xD⟩:∃M2,M2=ins M1 bx:=⟨_,rfl⟩;have Tg:M2 bx:=by rw[xD];exact .inl G
   have LB:M2 ba:=by rw[xD];exact .inr Td
   have xB:M2 bb:=by rw[xD];exact .inr Te
   have Zo:bx≠ba:=by have:=ah TY;omega
   have Nt:bx≠bb:=by have:=ah Zp;omega
   rw[<-xD]at s2;refine dP (M:=M2) zY G G af4 rfl rfl hX0 Tg (λw3 hX3 s3=>?_);change w3.heap[bx]? =some (.cells #[.int .i64 2147483648,.int .i64 0,.int .i64 0] 261 (0,0))at hX3;have S3:=s2.ck s3 (λj hj=>by subst hj;exact z2);have hA3:=S3.aE TY;have hB3:=S3.aE Zp;have P9:=K4.le S3.le;have Qa:=K5.le S3.le;have OK:=S3.lt oN;refine ad (aK (T.aP (aN aV G G G U3 G (aN aV G G G U3 G ?_))));refine Rg.LP (A:=(RT.fo).sl) (hn:=by decide) (M:=M2) (xs:=[a',b']) Tryz.underlying312 LF G QZ G ⟨_,_,_,G,G,G,P9,_,_,_,G,G,G,Qa,G⟩ G OK (.inr ⟨G,G⟩) QZ (λu20 w4 H0 s4=>?_);refine bz Tryz.underlying312 G H0 G (ab G G (ad (aX ?_)));refine cY (σ:=Nat) (λs=>[(0,.func (.yield yl) #[] #[]),(1,.pointer (some ⟨ba,0,none⟩)),(2,.pointer (some ⟨bb,0,none⟩)),(4,.pointer (some ⟨bx,0,none⟩)),(20,u20),(21,.int .i64 2),(22,.int .i64 s)]) (λs w=>s<=2/\Step M1 w1 M2 w aD/\w.heap[bx]? =some (.cells #[.int .i64 (QN a' b' s),.int .i64 0,.int .i64 0] 261 (0,0))/\(((RT.fo).sl).sl).V M2 w [a',b'] u20) (λs=>2-s) 0 a30 ?_ ?_
   ·exact⟨bp _,S3.av s4,s4.aE hX3,H0⟩
   ·rintro k w5 ⟨Cc,S5,K6,lB⟩;refine T.aP (cy G G G (ad (aK ?_)));refine bF G (λc3=>?_) (λc3=>?_)
    ·refine aR (aK (aX (T.aP ?_)))
     obtain⟨lk,mB⟩:∃x,[a',b'][k]? =some x:=by
      have Yp:k<[a',b'].length:=by simp;omega
      exact⟨_,an Yp⟩
     have F4:([a',b']:List (List Fo)).length=2:=rfl;refine cB Tryz.underlying312 LF G G G (lB) bU a48 (λKb Hc zt rq=>?_);obtain rfl:lk=Hc:=cz (aJ (zt.symm.trans (by rw[ar];exact mB)));refine bD aV G G G G G rq bU (λGH nK=>?_);replace nK:((RT.fo).sl).V M2 _ lk GH:=nK;refine Rg.aZ G G (T.aP (ab G G (bz aV G nK G (eN G G G (ad ?_)))));refine bF G (λc5=>?_) (λc5=>?_)
     ·obtain⟨⟨d,s⟩,tl,rfl⟩:∃p tl,lk=p::tl:=by
       cases lk with
       |nil=>simp at c5
       |cons p tl=>exact⟨p,tl,rfl⟩
      apply T.qZ (M:=M2) mixed [] [cp.eq _,cp.eq (.int .i64 (QN a' b' k)),cp.eq _,cp.ptr (RT.fo) (d,s),cp.ptr (RT.int .i64) d,cp.eq (.int .i64 d),cp.eq _] 7
      ·rfl
      ·rfl
      ·rfl
      ·rfl
      ·rfl
      ·exact a89
      ·exact qH
      ·refine ay ?_ ?_
       ·intro wD E sD;refine aY db G G I3 QZ G G ?_;exact a01
       refine ay ?_ ?_
       ·intro wD E sD;refine aw (aN ak G G G (cg sD U3) G ?_);exact a01
       refine ay ?_ ?_
       ·intro wD E sD;refine ab G G ?_;exact a01
       refine ay ?_ ?_
       ·intro wD E sD;refine aw ?_;refine cB aV mD G G G (nK.le sD.le) bU q0 (λui ai H2 H3=>?_);obtain rfl:(d,s)=ai:=cz (aJ (H2.symm.trans rfl));exact ae7
       refine ay ?_ ?_
       ·intro wD E sD;intro v3 tK;refine ao (A:=RT.fo) (B:=RT.int .i64) dq G G I3 QZ (Z5) G G QZ (show cM (RT.fo) M2 wD v3 (d,s)from tK) bU (λuf tW=>?_);exact a73
       refine ay ?_ ?_
       ·intro wD E sD;intro v4 pK;refine bT ak G G (show cM (RT.int .i64) M2 wD v4 d from pK) bU (λkZ=>?_);exact a01
       refine ay ?_ ?_
       ·intro wD E sD;refine aw (aw (Rg.min2 G G G ?_));exact a01
       exact j0
      ·intro wD6 sU;refine aw (aw (aw ?_));intro adF UT;intro adG Jr;refine aw (aw (aY db G G I3 QZ G G ?_));refine cn (M:=M2) I3 G G (sU.aE K6) G G Tg (λw7 Yq s7=>?_);change w7.heap[bx]? =some (.cells #[.int .i64 (min (QN a' b' k) d),.int .i64 0,.int .i64 0] 261 (0,0))at Yq;refine ad (aM (bC G G G q0 (ab G G (ad ?_))));refine⟨G,k+1,a30,?_,?_⟩
       ·first
        |exact⟨by omega,(S5.av sU).ck s7 (λj hj=>by subst hj;exact z2),by rw[kN mB];exact Yq,(lB.le sU.le).le s7.le⟩
        |exact⟨by omega,S5,by rw[kN mB,uV];exact K6,lB⟩
       ·show 2-(k+1)<2-k;omega
     ·have uV:lk=[]:=by
       cases lk with
       |nil=>rfl
       |cons p tl=>simp at c5
      refine aR (aM (bC G G G q0 (ab G G (ad ?_))));refine⟨G,k+1,a30,?_,?_⟩
      ·first
       |exact⟨by omega,(S5.av sU).ck s7 (λj hj=>by subst hj;exact z2),by rw[kN mB];exact Yq,(lB.le sU.le).le s7.le⟩
       |exact⟨by omega,S5,by rw[kN mB,uV];exact K6,lB⟩
      ·show 2-(k+1)<2-k;omega
    ·refine cN (aK (T.aP ?_));obtain rfl:k=2:=by omega
     replace K6:w5.heap[bx]? =some (.cells #[.int .i64 (iZ a' b'),.int .i64 0,.int .i64 0] 261 (0,0)):=K6;have Yr:=S5.lt oN;refine Rg.LP (A:=RT.Dp) (hn:=by decide) (M:=M2) (xs:=[ba,bb]) Tryz.underlying314 Tc G QZ G ⟨_,_,_,G,G,G,nC.2 G,_,_,_,G,G,G,nC.2 G,G⟩ G Yr (.inr ⟨G,G⟩) QZ (λu38 w8 Qb s8=>?_);refine bz Tryz.underlying314 G Qb G (ab G G (ad (aX ?_)));refine cY (σ:=Nat) (λs=>[(0,.func (.yield yl) #[] #[]),(1,.pointer (some ⟨ba,0,none⟩)),(2,.pointer (some ⟨bb,0,none⟩)),(4,.pointer (some ⟨bx,0,none⟩)),(38,u38),(39,.int .i64 2),(40,.int .i64 s)]) (λs w=>s<=2/\((RT.Dp).sl).V M2 w [ba,bb] u38/\Step M1 w1 M2 w (λj=>j=ba\/j=bb)/\w.heap[bx]? =some (.cells #[.int .i64 (iZ a' b'),.int .i64 (rf a' b' s),.int .i64 (rh a' b' s)] 261 (0,0))/\∃v0 v1,w.heap[ba]? =some (.cells #[v0] 36 (0,0))/\((RT.fo).sl).V M2 w (lK a' (iZ a' b') (decide (0<s))) v0/\w.heap[bb]? =some (.cells #[v1] 36 (0,0))/\((RT.fo).sl).V M2 w (lK b' (iZ a' b') (decide (1<s))) v1) (λs=>2-s) 0 a30 ?_ ?_
     ·exact⟨bp _,Qb,(S5.av s8).ew a18 (λj hj=>by rcases hj with rfl|rfl;exact Td;exact Te),s8.aE K6,va1,vb1,s8.aE (S5.aE TY),(K4.le S5.le).le s8.le,s8.aE (S5.aE Zp),(K5.le S5.le).le s8.le⟩
     ·rintro k w6 ⟨Cc,tF,S6,Hg,v0,v1,I2,qY,I6,j9⟩;have hmy:=It a' b' k;refine T.aP (cy G G G (ad (aK ?_)));refine bF G (λc9=>?_) (λc9=>?_)
      ·refine aR (aK (aX (T.aP ?_)));obtain⟨pk,lk,vk,hpk,mB,Qd,H4,hkM,hkN,UG,ky⟩:=BZ (show k<2 by omega) fh Zo Nt LB xB I2 qY I6 j9;have hl3:([ba,bb]:List Nat).length=2:=rfl;refine cB Tryz.underlying314 Tc G G G (tF) bU a48 (λNh E5 zu yY=>?_);obtain rfl:pk=E5:=cz (aJ (zu.symm.trans (by rw[ar];exact hpk)));refine bD Tryz.underlying313 G G G G G yY bU (λv10 oO=>?_);obtain rfl:=nC.1 oO;refine Rg.aZ G G (aK ?_);by_cases uw:((lk.length:Nat):Int)>0
       ·obtain⟨⟨d,s⟩,tl,rfl⟩:∃p tl,lk=p::tl:=by
         cases lk with
         |nil=>simp at uw
         |cons p tl=>exact⟨p,tl,rfl⟩
        apply T.draw (M:=M2) mixed [cp.eq _,cp.eq _,cp.eq vk,cp.eq _,cp.eq _,cp.eq (.bool true),cp.eq _,cp.eq _,cp.eq vk,cp.ptr (RT.fo) (d,s),cp.ptr (RT.int .i64) d,cp.eq (.int .i64 d),cp.eq _,cp.eq (.int .i64 (iZ a' b')),cp.eq _,cp.eq _]
        ·rfl
        ·refine aH ?_ ?_
         ·intro wD E sD;refine ab G G ?_;exact a01
         refine aH ?_ ?_
         ·intro wD E sD;refine aw (a8 G ⟨_,G⟩ G ?_);exact a01
         refine aH ?_ ?_
         ·intro wD E sD;refine aw (aN aV G G G (cg sD U3) G ?_);exact a01
         refine aH ?_ ?_
         ·intro wD E sD;refine aw (bz aV G (H4.le sD.le) G ?_);exact a01
         refine aH ?_ ?_
         ·intro wD E sD;refine aw (eN G G G ?_);exact a01
         refine aH ?_ ?_
         ·intro wD E sD;refine aw (ab G G ?_);refine ad ⟨G,G,_,G,?_,aW⟩;exact congrArg Value.bool (decide_eq_true uw)
         refine aH ?_ ?_
         ·intro wD E sD;refine aw (ae G G (ab G G ?_));exact a01
         refine aH ?_ ?_
         ·intro wD E sD;refine aw (aw (ae G G (a8 G ⟨_,G⟩ G ?_)));exact a01
         refine aH ?_ ?_
         ·intro wD E sD;refine aw (aw (ae G G (aN aV G G G (cg sD U3) G ?_)));exact a01
         refine aH ?_ ?_
         ·intro wD E sD;refine aw (aw (ae G G ?_));refine cB aV mD G G G (H4.le sD.le) bU q0 (λui ai H2 H3=>?_);obtain rfl:(d,s)=ai:=cz (aJ (H2.symm.trans rfl));exact ae7
         refine aH ?_ ?_
         ·intro wD E sD;intro v9 Kf;refine aw (ae G G ?_);refine ao (A:=RT.fo) (B:=RT.int .i64) dq G G I3 QZ (Z5) G G QZ (show cM (RT.fo) M2 wD v9 (d,s)from Kf) bU (λuf tW=>?_);exact a73
         refine aH ?_ ?_
         ·intro wD E sD;intro v10 oO;refine aw (ae G G ?_);refine bT ak G G (show cM (RT.int .i64) M2 wD v10 d from oO) bU (λkZ=>?_);exact a01
         refine aH ?_ ?_
         ·intro wD E sD;refine aw (ae G G (aY db G G I3 QZ G G ?_));exact a01
         refine aH ?_ ?_
         ·intro wD E sD;refine aw (aw (ae G G (aN ak G G G (cg sD U3) G ?_)));exact a01
         refine aH ?_ ?_
         ·intro wD E sD;refine aw (aw (aw (ae G G (fi G G G ?_))));exact a01
         refine aH ?_ ?_
         ·intro wD E sD;refine aw (aw (aU G G G ?_));exact a01
         exact uL
        ·intro EU dY;refine aw (aw (aw (aw (aw (aw (aw (aw (aw ?_))))))));intro adI Ys;intro Hh oP;refine aw (aw (aw (aw (aw ?_))));have CU:=dY.aE Hg;have FN:=dY.aE Qd;refine bF G (λxq=>?_) (λxq=>?_)
         ·refine T.aP (aY db G G I3 QZ G G (aN ak G G G CU G (br (v':= .int .i64 (rf a' b' k)) G (bC G G G q0 (aY db G G I3 QZ G G ?_)))));refine cn (M:=M2) I3 G G CU G G Tg (λLw Hi lu=>?_);change Lw.heap[bx]? =some (.cells #[.int .i64 (iZ a' b'),.int .i64 (rf a' b' k+1),.int .i64 (rh a' b' k)] 261 (0,0))at Hi;have Qe:=lu.bW FN UG;have FO:=(H4.le dY.le).le lu.le;refine ad (aK ?_);apply T.qZ (M:=M2) mixed [] [cp.eq _,cp.eq (.int .i64 (rh a' b' k)),cp.eq _,cp.eq _,cp.eq vk,cp.ptr (RT.fo) (d,s),cp.ptr (RT.int .i64) s,cp.eq (.int .i64 s),cp.eq _] 9
          ·rfl
          ·rfl
          ·rfl
          ·rfl
          ·rfl
          ·exact a89
          ·exact qH
          ·refine ay ?_ ?_
           ·intro wD E sD;refine aY db G G I3 QZ G G ?_;exact a01
           refine ay ?_ ?_
           ·intro wD E sD;refine aw (aN ak G G G (cg sD U3) G ?_);exact a01
           refine ay ?_ ?_
           ·intro wD E sD;refine ab G G ?_;exact a01
           refine ay ?_ ?_
           ·intro wD E sD;refine aw (a8 G ⟨_,G⟩ G ?_);exact a01
           refine ay ?_ ?_
           ·intro wD E sD;refine aw (aN aV G G G (cg sD U3) G ?_);exact a01
           refine ay ?_ ?_
           ·intro wD E sD;refine aw ?_;refine cB aV mD G G G (FO.le sD.le) bU q0 (λui ai H2 H3=>?_);obtain rfl:(d,s)=ai:=cz (aJ (H2.symm.trans rfl));exact ae7
           refine ay ?_ ?_
           ·intro wD E sD;intro v5 pL;refine ao (A:=RT.fo) (B:=RT.int .i64) dq G G I3 QZ (fo1) G G QZ (show cM (RT.fo) M2 wD v5 (d,s)from pL) bU (λuf tW=>?_);exact a73
           refine ay ?_ ?_
           ·intro wD E sD;intro v6 pw;refine bT ak G G (show cM (RT.int .i64) M2 wD v6 s from pw) bU (λkZ=>?_);exact a01
           refine ay ?_ ?_
           ·intro wD E sD;refine aw (aw (Rg.xY G G G ?_));exact a01
           exact j0
          ·intro Nk iM;refine aw (aw (aw (aw (aw ?_))));intro IL vG;intro Uj zn;refine aw (aw (aY db G G I3 QZ G G ?_));have OO:=iM.aE Hi;refine cn (M:=M2) I3 G G OO G G Tg (λNB Qf jv=>?_);change NB.heap[bx]? =some (.cells #[.int .i64 (iZ a' b'),.int .i64 (rf a' b' k+1),.int .i64 (IntKind.i64.wrap (rh a' b' k+s))] 261 (0,0))at Qf;have FP:=jv.bW (iM.aE Qe) UG;have Qg:=(FO.le iM.le).le jv.le;refine ad (aM (ab G G (ab G G (a8 G ⟨_,G⟩ G (aN aV G G G FP G (br (v':=vk) G ?_))))));refine Rg.od (A:=RT.fo) (hn:=by decide) aV mD rfl rfl rfl Qg (by simp only[cH];omega) (λKH qj=>?_);replace qj:((RT.fo).sl).V M2 NB tl KH:=qj;refine a8 G ⟨_,G⟩ G ?_;refine cn (M:=M2) LF G G FP G (jc qj G G) hkM (λGL ux oF=>?_);change GL.heap[pk]? =some (.cells #[KH] 36 (0,0))at ux;have H5:=oF.bW Qf (λh=>UG h.symm);have sI:hit ((d,s)::tl) (iZ a' b')=true:=vu xq;have Yt:fL ((d,s)::tl) (iZ a' b')=tl:=by unfold fL;rw[if_pos sI];rfl
           have SK:=((((S6.av dY).ck lu (λj hj=>by subst hj;omega)).av iM).ck jv (λj hj=>by subst hj;omega)).trans oF (λj _ hj=>by subst hj;exact hkN);have K7:=bg (bg (bg (bg dY.le lu.le) iM.le) jv.le) oF.le;refine ad (aM (bC G G G q0 (ab G G (ad ?_))));refine⟨G,k+1,a30,?_,?_⟩
           ·first
            |exact⟨by omega,tF.le K7,SK,by rw[iD mB,iE mB];unfold nE nD;rw[if_pos sI,if_pos sI];exact H5,ky GL KH (λq o h1 h2 h3=>oF.bW (jv.bW (iM.aE (lu.bW (dY.aE h3) h2)) h2) h1) (λl v h=>h.le K7) ux ae3⟩
            |exact⟨by omega,tF.le dY.le,S6.av dY,by rw[iD mB,iE mB];unfold nE nD;rw[if_neg a99,if_neg a99];exact dY.aE Hg,ky _ vk (λq o h1 h2 h3=>dY.aE h3) (λl v h=>h.le dY.le) (dY.aE Qd) a62⟩
           ·show 2-(k+1)<2-k;omega
         ·have AX:hit ((d,s)::tl) (iZ a' b')=false:=decide_eq_false xq;refine aR (aM (bC G G G q0 (ab G G (ad ?_))));refine⟨G,k+1,a30,?_,?_⟩
          ·first
           |exact⟨by omega,tF.le K7,SK,by rw[iD mB,iE mB];unfold nE nD;rw[if_pos sI,if_pos sI];exact H5,ky GL KH (λq o h1 h2 h3=>oF.bW (jv.bW (iM.aE (lu.bW (dY.aE h3) h2)) h2) h1) (λl v h=>h.le K7) ux ae3⟩
           |exact⟨by omega,tF.le dY.le,S6.av dY,by rw[iD mB,iE mB];unfold nE nD;rw[if_neg a99,if_neg a99];exact dY.aE Hg,ky _ vk (λq o h1 h2 h3=>dY.aE h3) (λl v h=>h.le dY.le) (dY.aE Qd) a62⟩
          ·show 2-(k+1)<2-k;omega
       ·have AX:hit lk (iZ a' b')=false:=by
         cases lk with
         |nil=>rfl
         |cons p tl=>simp at uw
        apply T.draw (M:=M2) mixed [cp.eq _,cp.eq _,cp.eq vk,cp.eq _,cp.eq _,cp.eq (.bool false),cp.eq undef,cp.eq undef,cp.eq undef,cp.eq undef,cp.eq undef,cp.eq undef,cp.eq undef,cp.eq undef,cp.eq undef,cp.eq _]
        ·rfl
        ·refine aH ?_ ?_
         ·intro wD E sD;refine ab G G ?_;exact a01
         refine aH ?_ ?_
         ·intro wD E sD;refine aw (a8 G ⟨_,G⟩ G ?_);exact a01
         refine aH ?_ ?_
         ·intro wD E sD;refine aw (aN aV G G G (cg sD U3) G ?_);exact a01
         refine aH ?_ ?_
         ·intro wD E sD;refine aw (bz aV G (H4.le sD.le) G ?_);exact a01
         refine aH ?_ ?_
         ·intro wD E sD;refine aw (eN G G G ?_);exact a01
         refine aH ?_ ?_
         ·intro wD E sD;refine aw (ab G G ?_);refine ad ⟨G,G,_,G,?_,aW⟩;exact congrArg Value.bool (decide_eq_false uw)
         refine aH ?_ ?_
         ·intro wD E sD;refine aw ?_;exact a13
         refine aH ?_ ?_
         ·intro wD E sD;refine aw (aw ?_);exact a13
         refine aH ?_ ?_
         ·intro wD E sD;refine aw (aw ?_);exact a13
         refine aH ?_ ?_
         ·intro wD E sD;refine aw (aw ?_);exact a13
         refine aH ?_ ?_
         ·intro wD E sD;refine aw (aw ?_);exact a13
         refine aH ?_ ?_
         ·intro wD E sD;refine aw (aw ?_);exact a13
         refine aH ?_ ?_
         ·intro wD E sD;refine aw ?_;exact a13
         refine aH ?_ ?_
         ·intro wD E sD;refine aw (aw ?_);exact a13
         refine aH ?_ ?_
         ·intro wD E sD;refine aw (aw (aw ?_));exact a13
         refine aH ?_ ?_
         ·intro wD E sD;refine aw (aw (aA G G G ?_));exact a01
         exact uL
        ·intro EU dY;refine aw (aw (aw (aw (aw (aw (aw (aw (aw (aw (aw (aw ?_)))))))))));refine aw (aw (aw (aw ?_)));have CU:=dY.aE Hg;have FN:=dY.aE Qd;refine jJ G (aR (aM (bC G G G q0 (ab G G (ad ?_)))));refine⟨G,k+1,a30,?_,?_⟩
         ·first
          |exact⟨by omega,tF.le K7,SK,by rw[iD mB,iE mB];unfold nE nD;rw[if_pos sI,if_pos sI];exact H5,ky GL KH (λq o h1 h2 h3=>oF.bW (jv.bW (iM.aE (lu.bW (dY.aE h3) h2)) h2) h1) (λl v h=>h.le K7) ux ae3⟩
          |exact⟨by omega,tF.le dY.le,S6.av dY,by rw[iD mB,iE mB];unfold nE nD;rw[if_neg a99,if_neg a99];exact dY.aE Hg,ky _ vk (λq o h1 h2 h3=>dY.aE h3) (λl v h=>h.le dY.le) (dY.aE Qd) a62⟩
         ·show 2-(k+1)<2-k;omega
      ·refine cN (T.aP (ab G G ?_));obtain rfl:k=2:=by omega
       refine eX (vs:=[.int .i64 (iZ a' b'),.int .i64 (rf a' b' 2),.int .i64 (rh a' b' 2)]) db G zY G G G Hg ?_;have hJ7:=kI _ _ _ _ _ _ hJ S6;refine Rg.yield G (vs:=[.agg #[.int .i64 (iZ a' b'),.int .i64 (rf a' b' 2),.int .i64 (rh a' b' 2)]]) G G (hy a' b' M2 _ hJ7 QW QX P8) (λr9 w9 h9=>?_);obtain⟨c,rfl,hc5,SL⟩:=h9;refine ib G G (br (v':= .bool (decide (¬c=true))) (by simp) (ad ?_));refine bF G (λF8=>?_) (λF8=>?_)
       ·refine aI ?_;exact Ds G (.inr (SL (by simpa using F8)))
       ·obtain⟨M9,N9,hJ9,s9,hN9⟩:=hc5 (cG.1 F8);refine aR ?_;refine⟨G,(fL a' (iZ a' b'),fL b' (iZ a' b')),a00,?_,?_⟩
        ·exact⟨QW.rest _,QX.rest _,v0,v1,M9,hJ9,s9.bW I2 (λh=>(hN9 _ h).1 rfl),s9.bW I6 (λh=>(hN9 _ h).2 rfl),qY.le s9.le,j9.le s9.le⟩
        ·exact qz QW QX P8
  ·refine ae G G (aN aV G G G U3 G (ae G G (bz aV G K5 G (ae G G (eN G G G (aA G G G (ad ?_)))))));refine bF G (λc0=>?_) (λc0=>?_)
   ·have P8:a'≠[]\/b'≠[]:= .inr (by intro h;rw[h]at c0;simp at c0);refine aR (aX (T.aP (dN (places:=[(0,1),(1,1),(2,1)]) db zY adC rfl ⟨_,_,rfl,rfl,rfl⟩ (out:=[_,.int .i64 0,.int .i64 0]) ⟨0,[_],rfl,rfl,by simp[Value.cells],rfl⟩ ?_)));refine eB M1 zY G (λbx w2 z2 z2' hX0 s2=>?_);obtain⟨M2,xD⟩:∃M2,M2=ins M1 bx:=⟨_,rfl⟩;have Tg:M2 bx:=by rw[xD];exact .inl G
    have LB:M2 ba:=by rw[xD];exact .inr Td
    have xB:M2 bb:=by rw[xD];exact .inr Te
    have Zo:bx≠ba:=by have:=ah TY;omega
    have Nt:bx≠bb:=by have:=ah Zp;omega
    rw[<-xD]at s2;refine dP (M:=M2) zY G G af4 rfl rfl hX0 Tg (λw3 hX3 s3=>?_);change w3.heap[bx]? =some (.cells #[.int .i64 2147483648,.int .i64 0,.int .i64 0] 261 (0,0))at hX3;have S3:=s2.ck s3 (λj hj=>by subst hj;exact z2);have hA3:=S3.aE TY;have hB3:=S3.aE Zp;have P9:=K4.le S3.le;have Qa:=K5.le S3.le;have OK:=S3.lt oN;refine ad (aK (T.aP (aN aV G G G U3 G (aN aV G G G U3 G ?_))));refine Rg.LP (A:=(RT.fo).sl) (hn:=by decide) (M:=M2) (xs:=[a',b']) Tryz.underlying312 LF G QZ G ⟨_,_,_,G,G,G,P9,_,_,_,G,G,G,Qa,G⟩ G OK (.inr ⟨G,G⟩) QZ (λu20 w4 H0 s4=>?_);refine bz Tryz.underlying312 G H0 G (ab G G (ad (aX ?_)));refine cY (σ:=Nat) (λs=>[(0,.func (.yield yl) #[] #[]),(1,.pointer (some ⟨ba,0,none⟩)),(2,.pointer (some ⟨bb,0,none⟩)),(4,.pointer (some ⟨bx,0,none⟩)),(20,u20),(21,.int .i64 2),(22,.int .i64 s)]) (λs w=>s<=2/\Step M1 w1 M2 w aD/\w.heap[bx]? =some (.cells #[.int .i64 (QN a' b' s),.int .i64 0,.int .i64 0] 261 (0,0))/\(((RT.fo).sl).sl).V M2 w [a',b'] u20) (λs=>2-s) 0 a30 ?_ ?_
    ·exact⟨bp _,S3.av s4,s4.aE hX3,H0⟩
    ·rintro k w5 ⟨Cc,S5,K6,lB⟩;refine T.aP (cy G G G (ad (aK ?_)));refine bF G (λc3=>?_) (λc3=>?_)
     ·refine aR (aK (aX (T.aP ?_)))
      obtain⟨lk,mB⟩:∃x,[a',b'][k]? =some x:=by
       have Yp:k<[a',b'].length:=by simp;omega
       exact⟨_,an Yp⟩
      have F4:([a',b']:List (List Fo)).length=2:=rfl;refine cB Tryz.underlying312 LF G G G (lB) bU a48 (λKb Hc zt rq=>?_);obtain rfl:lk=Hc:=cz (aJ (zt.symm.trans (by rw[ar];exact mB)));refine bD aV G G G G G rq bU (λGH nK=>?_);replace nK:((RT.fo).sl).V M2 _ lk GH:=nK;refine Rg.aZ G G (T.aP (ab G G (bz aV G nK G (eN G G G (ad ?_)))));refine bF G (λc5=>?_) (λc5=>?_)
      ·obtain⟨⟨d,s⟩,tl,rfl⟩:∃p tl,lk=p::tl:=by
        cases lk with
        |nil=>simp at c5
        |cons p tl=>exact⟨p,tl,rfl⟩
       apply T.qZ (M:=M2) mixed [] [cp.eq _,cp.eq (.int .i64 (QN a' b' k)),cp.eq _,cp.ptr (RT.fo) (d,s),cp.ptr (RT.int .i64) d,cp.eq (.int .i64 d),cp.eq _] 7
       ·rfl
       ·rfl
       ·rfl
       ·rfl
       ·rfl
       ·exact a89
       ·exact qH
       ·refine ay ?_ ?_
        ·intro wD E sD;refine aY db G G I3 QZ G G ?_;exact a01
        refine ay ?_ ?_
        ·intro wD E sD;refine aw (aN ak G G G (cg sD U3) G ?_);exact a01
        refine ay ?_ ?_
        ·intro wD E sD;refine ab G G ?_;exact a01
        refine ay ?_ ?_
        ·intro wD E sD;refine aw ?_;refine cB aV mD G G G (nK.le sD.le) bU q0 (λui ai H2 H3=>?_);obtain rfl:(d,s)=ai:=cz (aJ (H2.symm.trans rfl));exact ae7
        refine ay ?_ ?_
        ·intro wD E sD;intro v3 tK;refine ao (A:=RT.fo) (B:=RT.int .i64) dq G G I3 QZ (Z5) G G QZ (show cM (RT.fo) M2 wD v3 (d,s)from tK) bU (λuf tW=>?_);exact a73
        refine ay ?_ ?_
        ·intro wD E sD;intro v4 pK;refine bT ak G G (show cM (RT.int .i64) M2 wD v4 d from pK) bU (λkZ=>?_);exact a01
        refine ay ?_ ?_
        ·intro wD E sD;refine aw (aw (Rg.min2 G G G ?_));exact a01
        exact j0
       ·intro wD6 sU;refine aw (aw (aw ?_));intro adF UT;intro adG Jr;refine aw (aw (aY db G G I3 QZ G G ?_));refine cn (M:=M2) I3 G G (sU.aE K6) G G Tg (λw7 Yq s7=>?_);change w7.heap[bx]? =some (.cells #[.int .i64 (min (QN a' b' k) d),.int .i64 0,.int .i64 0] 261 (0,0))at Yq;refine ad (aM (bC G G G q0 (ab G G (ad ?_))));refine⟨G,k+1,a30,?_,?_⟩
        ·first
         |exact⟨by omega,(S5.av sU).ck s7 (λj hj=>by subst hj;exact z2),by rw[kN mB];exact Yq,(lB.le sU.le).le s7.le⟩
         |exact⟨by omega,S5,by rw[kN mB,uV];exact K6,lB⟩
        ·show 2-(k+1)<2-k;omega
      ·have uV:lk=[]:=by
        cases lk with
        |nil=>rfl
        |cons p tl=>simp at c5
       refine aR (aM (bC G G G q0 (ab G G (ad ?_))));refine⟨G,k+1,a30,?_,?_⟩
       ·first
        |exact⟨by omega,(S5.av sU).ck s7 (λj hj=>by subst hj;exact z2),by rw[kN mB];exact Yq,(lB.le sU.le).le s7.le⟩
        |exact⟨by omega,S5,by rw[kN mB,uV];exact K6,lB⟩
       ·show 2-(k+1)<2-k;omega
     ·refine cN (aK (T.aP ?_));obtain rfl:k=2:=by omega
      replace K6:w5.heap[bx]? =some (.cells #[.int .i64 (iZ a' b'),.int .i64 0,.int .i64 0] 261 (0,0)):=K6;have Yr:=S5.lt oN;refine Rg.LP (A:=RT.Dp) (hn:=by decide) (M:=M2) (xs:=[ba,bb]) Tryz.underlying314 Tc G QZ G ⟨_,_,_,G,G,G,nC.2 G,_,_,_,G,G,G,nC.2 G,G⟩ G Yr (.inr ⟨G,G⟩) QZ (λu38 w8 Qb s8=>?_);refine bz Tryz.underlying314 G Qb G (ab G G (ad (aX ?_)));refine cY (σ:=Nat) (λs=>[(0,.func (.yield yl) #[] #[]),(1,.pointer (some ⟨ba,0,none⟩)),(2,.pointer (some ⟨bb,0,none⟩)),(4,.pointer (some ⟨bx,0,none⟩)),(38,u38),(39,.int .i64 2),(40,.int .i64 s)]) (λs w=>s<=2/\((RT.Dp).sl).V M2 w [ba,bb] u38/\Step M1 w1 M2 w (λj=>j=ba\/j=bb)/\w.heap[bx]? =some (.cells #[.int .i64 (iZ a' b'),.int .i64 (rf a' b' s),.int .i64 (rh a' b' s)] 261 (0,0))/\∃v0 v1,w.heap[ba]? =some (.cells #[v0] 36 (0,0))/\((RT.fo).sl).V M2 w (lK a' (iZ a' b') (decide (0<s))) v0/\w.heap[bb]? =some (.cells #[v1] 36 (0,0))/\((RT.fo).sl).V M2 w (lK b' (iZ a' b') (decide (1<s))) v1) (λs=>2-s) 0 a30 ?_ ?_
      ·exact⟨bp _,Qb,(S5.av s8).ew a18 (λj hj=>by rcases hj with rfl|rfl;exact Td;exact Te),s8.aE K6,va1,vb1,s8.aE (S5.aE TY),(K4.le S5.le).le s8.le,s8.aE (S5.aE Zp),(K5.le S5.le).le s8.le⟩
      ·rintro k w6 ⟨Cc,tF,S6,Hg,v0,v1,I2,qY,I6,j9⟩;have hmy:=It a' b' k;refine T.aP (cy G G G (ad (aK ?_)));refine bF G (λc9=>?_) (λc9=>?_)
       ·refine aR (aK (aX (T.aP ?_)));obtain⟨pk,lk,vk,hpk,mB,Qd,H4,hkM,hkN,UG,ky⟩:=BZ (show k<2 by omega) fh Zo Nt LB xB I2 qY I6 j9;have hl3:([ba,bb]:List Nat).length=2:=rfl;refine cB Tryz.underlying314 Tc G G G (tF) bU a48 (λNh E5 zu yY=>?_);obtain rfl:pk=E5:=cz (aJ (zu.symm.trans (by rw[ar];exact hpk)));refine bD Tryz.underlying313 G G G G G yY bU (λv10 oO=>?_);obtain rfl:=nC.1 oO;refine Rg.aZ G G (aK ?_);by_cases uw:((lk.length:Nat):Int)>0
        ·obtain⟨⟨d,s⟩,tl,rfl⟩:∃p tl,lk=p::tl:=by
          cases lk with
          |nil=>simp at uw
          |cons p tl=>exact⟨p,tl,rfl⟩
         apply T.draw (M:=M2) mixed [cp.eq _,cp.eq _,cp.eq vk,cp.eq _,cp.eq _,cp.eq (.bool true),cp.eq _,cp.eq _,cp.eq vk,cp.ptr (RT.fo) (d,s),cp.ptr (RT.int .i64) d,cp.eq (.int .i64 d),cp.eq _,cp.eq (.int .i64 (iZ a' b')),cp.eq _,cp.eq _]
         ·rfl
         ·refine aH ?_ ?_
          ·intro wD E sD;refine ab G G ?_;exact a01
          refine aH ?_ ?_
          ·intro wD E sD;refine aw (a8 G ⟨_,G⟩ G ?_);exact a01
          refine aH ?_ ?_
          ·intro wD E sD;refine aw (aN aV G G G (cg sD U3) G ?_);exact a01
          refine aH ?_ ?_
          ·intro wD E sD;refine aw (bz aV G (H4.le sD.le) G ?_);exact a01
          refine aH ?_ ?_
          ·intro wD E sD;refine aw (eN G G G ?_);exact a01
          refine aH ?_ ?_
          ·intro wD E sD;refine aw (ab G G ?_);refine ad ⟨G,G,_,G,?_,aW⟩;exact congrArg Value.bool (decide_eq_true uw)
          refine aH ?_ ?_
          ·intro wD E sD;refine aw (ae G G (ab G G ?_));exact a01
          refine aH ?_ ?_
          ·intro wD E sD;refine aw (aw (ae G G (a8 G ⟨_,G⟩ G ?_)));exact a01
          refine aH ?_ ?_
          ·intro wD E sD;refine aw (aw (ae G G (aN aV G G G (cg sD U3) G ?_)));exact a01
          refine aH ?_ ?_
          ·intro wD E sD;refine aw (aw (ae G G ?_));refine cB aV mD G G G (H4.le sD.le) bU q0 (λui ai H2 H3=>?_);obtain rfl:(d,s)=ai:=cz (aJ (H2.symm.trans rfl));exact ae7
          refine aH ?_ ?_
          ·intro wD E sD;intro v9 Kf;refine aw (ae G G ?_);refine ao (A:=RT.fo) (B:=RT.int .i64) dq G G I3 QZ (Z5) G G QZ (show cM (RT.fo) M2 wD v9 (d,s)from Kf) bU (λuf tW=>?_);exact a73
          refine aH ?_ ?_
          ·intro wD E sD;intro v10 oO;refine aw (ae G G ?_);refine bT ak G G (show cM (RT.int .i64) M2 wD v10 d from oO) bU (λkZ=>?_);exact a01
          refine aH ?_ ?_
          ·intro wD E sD;refine aw (ae G G (aY db G G I3 QZ G G ?_));exact a01
          refine aH ?_ ?_
          ·intro wD E sD;refine aw (aw (ae G G (aN ak G G G (cg sD U3) G ?_)));exact a01
          refine aH ?_ ?_
          ·intro wD E sD;refine aw (aw (aw (ae G G (fi G G G ?_))));exact a01
          refine aH ?_ ?_
          ·intro wD E sD;refine aw (aw (aU G G G ?_));exact a01
          exact uL
         ·intro EU dY;refine aw (aw (aw (aw (aw (aw (aw (aw (aw ?_))))))));intro adI Ys;intro Hh oP;refine aw (aw (aw (aw (aw ?_))));have CU:=dY.aE Hg;have FN:=dY.aE Qd;refine bF G (λxq=>?_) (λxq=>?_)
          ·refine T.aP (aY db G G I3 QZ G G (aN ak G G G CU G (br (v':= .int .i64 (rf a' b' k)) G (bC G G G q0 (aY db G G I3 QZ G G ?_)))));refine cn (M:=M2) I3 G G CU G G Tg (λLw Hi lu=>?_);change Lw.heap[bx]? =some (.cells #[.int .i64 (iZ a' b'),.int .i64 (rf a' b' k+1),.int .i64 (rh a' b' k)] 261 (0,0))at Hi;have Qe:=lu.bW FN UG;have FO:=(H4.le dY.le).le lu.le;refine ad (aK ?_);apply T.qZ (M:=M2) mixed [] [cp.eq _,cp.eq (.int .i64 (rh a' b' k)),cp.eq _,cp.eq _,cp.eq vk,cp.ptr (RT.fo) (d,s),cp.ptr (RT.int .i64) s,cp.eq (.int .i64 s),cp.eq _] 9
           ·rfl
           ·rfl
           ·rfl
           ·rfl
           ·rfl
           ·exact a89
           ·exact qH
           ·refine ay ?_ ?_
            ·intro wD E sD;refine aY db G G I3 QZ G G ?_;exact a01
            refine ay ?_ ?_
            ·intro wD E sD;refine aw (aN ak G G G (cg sD U3) G ?_);exact a01
            refine ay ?_ ?_
            ·intro wD E sD;refine ab G G ?_;exact a01
            refine ay ?_ ?_
            ·intro wD E sD;refine aw (a8 G ⟨_,G⟩ G ?_);exact a01
            refine ay ?_ ?_
            ·intro wD E sD;refine aw (aN aV G G G (cg sD U3) G ?_);exact a01
            refine ay ?_ ?_
            ·intro wD E sD;refine aw ?_;refine cB aV mD G G G (FO.le sD.le) bU q0 (λui ai H2 H3=>?_);obtain rfl:(d,s)=ai:=cz (aJ (H2.symm.trans rfl));exact ae7
            refine ay ?_ ?_
            ·intro wD E sD;intro v5 pL;refine ao (A:=RT.fo) (B:=RT.int .i64) dq G G I3 QZ (fo1) G G QZ (show cM (RT.fo) M2 wD v5 (d,s)from pL) bU (λuf tW=>?_);exact a73
            refine ay ?_ ?_
            ·intro wD E sD;intro v6 pw;refine bT ak G G (show cM (RT.int .i64) M2 wD v6 s from pw) bU (λkZ=>?_);exact a01
            refine ay ?_ ?_
            ·intro wD E sD;refine aw (aw (Rg.xY G G G ?_));exact a01
            exact j0
           ·intro Nk iM;refine aw (aw (aw (aw (aw ?_))));intro IL vG;intro Uj zn;refine aw (aw (aY db G G I3 QZ G G ?_));have OO:=iM.aE Hi;refine cn (M:=M2) I3 G G OO G G Tg (λNB Qf jv=>?_);change NB.heap[bx]? =some (.cells #[.int .i64 (iZ a' b'),.int .i64 (rf a' b' k+1),.int .i64 (IntKind.i64.wrap (rh a' b' k+s))] 261 (0,0))at Qf;have FP:=jv.bW (iM.aE Qe) UG;have Qg:=(FO.le iM.le).le jv.le;refine ad (aM (ab G G (ab G G (a8 G ⟨_,G⟩ G (aN aV G G G FP G (br (v':=vk) G ?_))))));refine Rg.od (A:=RT.fo) (hn:=by decide) aV mD rfl rfl rfl Qg (by simp only[cH];omega) (λKH qj=>?_);replace qj:((RT.fo).sl).V M2 NB tl KH:=qj;refine a8 G ⟨_,G⟩ G ?_;refine cn (M:=M2) LF G G FP G (jc qj G G) hkM (λGL ux oF=>?_);change GL.heap[pk]? =some (.cells #[KH] 36 (0,0))at ux;have H5:=oF.bW Qf (λh=>UG h.symm);have sI:hit ((d,s)::tl) (iZ a' b')=true:=vu xq;have Yt:fL ((d,s)::tl) (iZ a' b')=tl:=by unfold fL;rw[if_pos sI];rfl
            have SK:=((((S6.av dY).ck lu (λj hj=>by subst hj;omega)).av iM).ck jv (λj hj=>by subst hj;omega)).trans oF (λj _ hj=>by subst hj;exact hkN);have K7:=bg (bg (bg (bg dY.le lu.le) iM.le) jv.le) oF.le;refine ad (aM (bC G G G q0 (ab G G (ad ?_))));refine⟨G,k+1,a30,?_,?_⟩
            ·first
             |exact⟨by omega,tF.le K7,SK,by rw[iD mB,iE mB];unfold nE nD;rw[if_pos sI,if_pos sI];exact H5,ky GL KH (λq o h1 h2 h3=>oF.bW (jv.bW (iM.aE (lu.bW (dY.aE h3) h2)) h2) h1) (λl v h=>h.le K7) ux ae3⟩
             |exact⟨by omega,tF.le dY.le,S6.av dY,by rw[iD mB,iE mB];unfold nE nD;rw[if_neg a99,if_neg a99];exact dY.aE Hg,ky _ vk (λq o h1 h2 h3=>dY.aE h3) (λl v h=>h.le dY.le) (dY.aE Qd) a62⟩
            ·show 2-(k+1)<2-k;omega
          ·have AX:hit ((d,s)::tl) (iZ a' b')=false:=decide_eq_false xq;refine aR (aM (bC G G G q0 (ab G G (ad ?_))));refine⟨G,k+1,a30,?_,?_⟩
           ·first
            |exact⟨by omega,tF.le K7,SK,by rw[iD mB,iE mB];unfold nE nD;rw[if_pos sI,if_pos sI];exact H5,ky GL KH (λq o h1 h2 h3=>oF.bW (jv.bW (iM.aE (lu.bW (dY.aE h3) h2)) h2) h1) (λl v h=>h.le K7) ux ae3⟩
            |exact⟨by omega,tF.le dY.le,S6.av dY,by rw[iD mB,iE mB];unfold nE nD;rw[if_neg a99,if_neg a99];exact dY.aE Hg,ky _ vk (λq o h1 h2 h3=>dY.aE h3) (λl v h=>h.le dY.le) (dY.aE Qd) a62⟩
           ·show 2-(k+1)<2-k;omega
        ·have AX:hit lk (iZ a' b')=false:=by
          cases lk with
          |nil=>rfl
          |cons p tl=>simp at uw
         apply T.draw (M:=M2) mixed [cp.eq _,cp.eq _,cp.eq vk,cp.eq _,cp.eq _,cp.eq (.bool false),cp.eq undef,cp.eq undef,cp.eq undef,cp.eq undef,cp.eq undef,cp.eq undef,cp.eq undef,cp.eq undef,cp.eq undef,cp.eq _]
         ·rfl
         ·refine aH ?_ ?_
          ·intro wD E sD;refine ab G G ?_;exact a01
          refine aH ?_ ?_
          ·intro wD E sD;refine aw (a8 G ⟨_,G⟩ G ?_);exact a01
          refine aH ?_ ?_
          ·intro wD E sD;refine aw (aN aV G G G (cg sD U3) G ?_);exact a01
          refine aH ?_ ?_
          ·intro wD E sD;refine aw (bz aV G (H4.le sD.le) G ?_);exact a01
          refine aH ?_ ?_
          ·intro wD E sD;refine aw (eN G G G ?_);exact a01
          refine aH ?_ ?_
          ·intro wD E sD;refine aw (ab G G ?_);refine ad ⟨G,G,_,G,?_,aW⟩;exact congrArg Value.bool (decide_eq_false uw)
          refine aH ?_ ?_
          ·intro wD E sD;refine aw ?_;exact a13
          refine aH ?_ ?_
          ·intro wD E sD;refine aw (aw ?_);exact a13
          refine aH ?_ ?_
          ·intro wD E sD;refine aw (aw ?_);exact a13
          refine aH ?_ ?_
          ·intro wD E sD;refine aw (aw ?_);exact a13
          refine aH ?_ ?_
          ·intro wD E sD;refine aw (aw ?_);exact a13
          refine aH ?_ ?_
          ·intro wD E sD;refine aw (aw ?_);exact a13
          refine aH ?_ ?_
          ·intro wD E sD;refine aw ?_;exact a13
          refine aH ?_ ?_
          ·intro wD E sD;refine aw (aw ?_);exact a13
          refine aH ?_ ?_
          ·intro wD E sD;refine aw (aw (aw ?_));exact a13
          refine aH ?_ ?_
          ·intro wD E sD;refine aw (aw (aA G G G ?_));exact a01
          exact uL
         ·intro EU dY;refine aw (aw (aw (aw (aw (aw (aw (aw (aw (aw (aw (aw ?_)))))))))));refine aw (aw (aw (aw ?_)));have CU:=dY.aE Hg;have FN:=dY.aE Qd;refine jJ G (aR (aM (bC G G G q0 (ab G G (ad ?_)))));refine⟨G,k+1,a30,?_,?_⟩
          ·first
           |exact⟨by omega,tF.le K7,SK,by rw[iD mB,iE mB];unfold nE nD;rw[if_pos sI,if_pos sI];exact H5,ky GL KH (λq o h1 h2 h3=>oF.bW (jv.bW (iM.aE (lu.bW (dY.aE h3) h2)) h2) h1) (λl v h=>h.le K7) ux ae3⟩
           |exact⟨by omega,tF.le dY.le,S6.av dY,by rw[iD mB,iE mB];unfold nE nD;rw[if_neg a99,if_neg a99];exact dY.aE Hg,ky _ vk (λq o h1 h2 h3=>dY.aE h3) (λl v h=>h.le dY.le) (dY.aE Qd) a62⟩
          ·show 2-(k+1)<2-k;omega
       ·refine cN (T.aP (ab G G ?_));obtain rfl:k=2:=by omega
        refine eX (vs:=[.int .i64 (iZ a' b'),.int .i64 (rf a' b' 2),.int .i64 (rh a' b' 2)]) db G zY G G G Hg ?_;have hJ7:=kI _ _ _ _ _ _ hJ S6;refine Rg.yield G (vs:=[.agg #[.int .i64 (iZ a' b'),.int .i64 (rf a' b' 2),.int .i64 (rh a' b' 2)]]) G G (hy a' b' M2 _ hJ7 QW QX P8) (λr9 w9 h9=>?_);obtain⟨c,rfl,hc5,SL⟩:=h9;refine ib G G (br (v':= .bool (decide (¬c=true))) (by simp) (ad ?_));refine bF G (λF8=>?_) (λF8=>?_)
        ·refine aI ?_;exact Ds G (.inr (SL (by simpa using F8)))
        ·obtain⟨M9,N9,hJ9,s9,hN9⟩:=hc5 (cG.1 F8);refine aR ?_;refine⟨G,(fL a' (iZ a' b'),fL b' (iZ a' b')),a00,?_,?_⟩
         ·exact⟨QW.rest _,QX.rest _,v0,v1,M9,hJ9,s9.bW I2 (λh=>(hN9 _ h).1 rfl),s9.bW I6 (λh=>(hN9 _ h).2 rfl),qY.le s9.le,j9.le s9.le⟩
         ·exact qz QW QX P8
   ·refine cN ?_
    have qI:a'=[]:=by
     cases a' with
     |nil=>rfl
     |cons p tl=>simp at Tf
    have Df:b'=[]:=by
     cases b' with
     |nil=>rfl
     |cons p tl=>simp at c0
    subst qI;subst Df;change xj Tryz.prog Tryz.f200 (λ_ w'=>(∃M',J [] [] M' w')\/Jx w') .normal _ [] _;exact j4 G (.inl ⟨_,hJ⟩)
end Go.K

/- What the law 'SnapParts' needs of walks and plain Lean, part 6: nothing is assumed beyond the texts that it imports. -/
import Derived.KernelRfl
import Derived.Laws.StructEq
import Derived.Test.YtaobajlebdchhaaGreatDoorProg
import Derived.Test.YtaobajlebdchhaaGreatDoorZSnapParts1
import Derived.Test.YtaobajlebdchhaaGreatDoorZSnapParts2
import Derived.Test.YtaobajlebdchhaaGreatDoorZSnapParts3
import Derived.Test.YtaobajlebdchhaaGreatDoorZSnapParts4
import Derived.Test.YtaobajlebdchhaaGreatDoorZSnapParts5
set_option linter.unusedVariables false
set_option linter.unusedSimpArgs false
namespace Go.K
open Go.Proofs
namespace TKPlc
theorem agX:Enters Tryz.prog 124:=enters Tryz.func124 rfl XT
end TKPlc
open TKPlc
set_option maxRecDepth 10000
def dd (fs:List Fd) (k:List UInt8):List (List UInt8):=match fs.find? (λf=>decide (f.1=k))with|some f=>words f.2|none=>[]
theorem yH {fs:List Fd} {k:List UInt8} {i:Nat} {x:Fd} (h:fs[i]? =some x) (hx:x.1=k) (jj:∀(j:Nat) y,j<i->fs[j]? =some y->y.1≠k):dd fs k=words x.2:=by
 have:fs.find? (λf=>decide (f.1=k))=some x:=by
  induction fs generalizing i with
  |nil=>simp at h
  |cons y fs ih=>
   cases i with
   |zero=>simp at h;subst h;simp[hx]
   |succ i=>
    rw[List.find?_cons_of_neg (by simpa using jj 0 y q0 rfl)];exact ih a68 (λj z hj hz=>jj (j+1) z q0 (by simpa using hz))
 unfold dd;rw[this]
theorem Hr {fs:List Fd} {k:List UInt8} (h:∀f∈fs,f.1.length<=900000/\f.2.length<=900000):(dd fs k).length<=900001:=by
 unfold dd
 split
 ·rename_i f hf
  have:=l6 f.2;have:=(h f (List.mem_of_find?_eq_some hf)).2;omega
 ·simp
theorem ED {fs:List Fd} {k:List UInt8} (jj:∀y∈fs,y.1≠k):dd fs k=[]:=by
 unfold dd;rw[List.find?_eq_none.2 λy hy=>by simpa using jj y hy]
def iM (ws:List (List UInt8)) (x:List UInt8):List Int:=(ws.zipIdx.filter λp=>decide (p.1=x)).map λp=>(p.2:Int)
theorem x7 {ws:List (List UInt8)} {x y:List UInt8} {i:Nat} (h:ws[i]? =some y):iM (ws.take (i+1)) x=if y=x then iM (ws.take i) x++[(i:Int)]else iM (ws.take i) x:=by
 have hi:=(al.1 h).1;unfold iM;rw[bQ,h,cH,List.zipIdx_append,fp,ed];simp only[bF,zt (Nat.le_of_lt hi),Nat.zero_add,List.zipIdx_cons,List.zipIdx_nil];by_cases e:y=x
 ·rw[if_pos e];simp[e]
 ·rw[if_neg e];simp[e]
theorem rG (ws:List (List UInt8)) (x:List UInt8):(iM ws x).length<=ws.length:=by
 unfold iM;rw[bT];exact ep (fI _ _) (by simp)
theorem Hs {M:aE} {d:Dc} {k:List UInt8} {v0:Value} (w0:World) (hM:Lt M w0) (hd:RT.dc.V M w0 d v0) (hlen:∀f∈d.2,f.1.length<=900000/\f.2.length<=900000) (Ic:d.2.length<=1000000):
  Spec Tryz.prog 124 #[v0,sv k] w0 (λv w=>(RT.str.sl).V M w (dd d.2 k) v/\Step M w0 M w ar):=by
 have iz:=hM;refine aS (args:=[_,_]) (fn:=Tryz.f124) Tryz.func124 G (n:=28) Tryz.ntmps124 ?_;have S:Step M w0 M w0 ar:=aV;refine T.aO ?_;refine gR (A:=RT.dc) (a:=d) G G hM hd G (λu0 w1 dB s0 _=>?_);replace hM:=s0.lt hM;have:=S.size;replace S:=S.av s0;refine Rg.aZ G G (aI (T.aO (Rg.aZ G G (aT ?_))));refine cR (σ:=Nat) (λi=>[(1,sv k),(2,u0),(5,.int .i64 (i:Int))]) (λi w=>Step M w0 M w ar/\cG RT.dc M w u0 d/\i<=d.2.length/\(∀(j:Nat) y,j<i->d.2[j]? =some y->y.1≠k)) (λi=>d.2.length-i) 0 a07 ?_ ?_
 ·exact⟨S,dB,bm _,λj y h=>absurd h (eL _)⟩
 ·clear S dB hM;rintro i w ⟨S,dB,hi,jj⟩;have hM:=S.lt iz;refine aI (T.aO (ab G G ?_));refine au (A:=RT.dc) (B:=(RT.fd).sl) bh G G uJ XT H8 G G XT dB b4 (λu21 Sd=>?_);refine bM bu G G G G G Sd b4 (λv22 aa9=>?_);refine bB bu G aa9 G (ck G G G (ad ?_));refine bI G (λc2=>?_) (λc2=>?_)
  ·refine aR (aI (aT (T.aO ?_)));obtain⟨fx,nk⟩:∃x,d.2[i]? =some x:=⟨_,an q0⟩;have Ik:=hlen _ (ax nk);refine au (A:=RT.dc) (B:=(RT.fd).sl) bh G G uJ XT H8 G G XT dB b4 (λu40 Sf=>?_);refine bM bu G G G G G Sf b4 (λv41 Sg=>?_);refine ab G G ?_;refine cx bu ko G G G Sg b4 q0 (λu43 x fV Sh=>?_);rw[aq]at fV;obtain rfl:=aF (nk.symm.trans fV);refine au (A:=RT.fd) (B:=RT.str) cJ G G I9 XT MM G G XT Sh b4 (λu44 aoN=>?_);refine bM aG G G G G G aoN b4 (λv45 aoO=>?_);obtain rfl:=eJ aoO;refine ab G G (Rg.zC G G G (ad ?_));refine bI G (λc4=>?_) (λc4=>?_)
   ·refine T.aO ?_;refine au (A:=RT.dc) (B:=(RT.fd).sl) bh G G uJ XT H8 G G XT dB b4 (λu50 aba=>?_);refine bM bu G G G G G aba b4 (λv51 abb=>?_);refine ab G G ?_;refine cx bu ko G G G abb b4 q0 (λu53 x fV aoP=>?_);rw[aq]at fV;obtain rfl:=aF (nk.symm.trans fV);refine au (A:=RT.fd) (B:=RT.str) cJ G G I9 XT Zk G G XT aoP b4 (λu54 Si=>?_);refine bM aG G G G G G Si b4 (λv55 abc=>?_);obtain rfl:=eJ abc;refine aJ G G adw (yz _ hM Ik.2) (λr6 w6 hc=>?_);obtain⟨hr6,s6⟩:=hc;replace dB:=dB.le XT s6.le;replace hM:=s6.lt hM;have:=S.size;replace S:=S.av s6;refine Rg.aZ G G (aM ?_);exact aP rfl rfl ⟨by rw[yH nk c4 jj];exact hr6,S⟩
   ·refine aR (aN (ab G G (br G G G q0 (Rg.aZ G G ?_))));refine⟨G,i+1,a07,?_,?_⟩
    ·exact⟨S,dB,by omega,λj y hj hy=>by
      rcases cL j i with h|h
      ·exact jj j y h hy
      ·rw[show j=i by omega,nk]at hy;cases hy;exact c4⟩
    ·omega
  ·refine cE (T.aO (Rg.aZ G G (aM ?_)));exact aP rfl rfl ⟨by rw[ED (λy hy=>by obtain⟨j,hj⟩:=bG.1 hy;exact jj j y (by have:=(al.1 hj).1;omega) hj)];exact gC,S⟩
theorem Ht {M:aE} {d:Dc} {t:Fd} {v0 v1:Value} (w0:World) (hM:Lt M w0) (hd:RT.dc.V M w0 d v0) (hlen:∀f∈d.2,f.1.length<=900000/\f.2.length<=900000) (Ic:d.2.length<=1000000) (ht:RT.fd.V M w0 t v1):
  Spec Tryz.prog 78 #[v0,v1] w0 (λv w=>((RT.int .i64).sl).V M w (iM (dd d.2 t.1) t.2) v/\Step M w0 M w ar):=by
 have iz:=hM;have yn:=I2 ht;refine aS (args:=[_,_]) (fn:=Tryz.f78) Tryz.func78 G (n:=30) Tryz.ntmps78 ?_;have S:Step M w0 M w0 ar:=aV;refine T.aO ?_;refine gR (A:=RT.dc) (a:=d) G G hM hd G (λu0 w1 dB s0 _=>?_);replace hd:=hd.le s0.le;replace ht:=ht.le s0.le;replace hM:=s0.lt hM;have:=S.size;replace S:=S.av s0;refine gR (A:=RT.fd) (a:=t) G G hM ht G (λu1 w2 jP s1 _=>?_);replace ht:=ht.le s1.le;replace dB:=dB.le XT s1.le;replace hM:=s1.lt hM;have:=S.size;replace S:=S.av s1;refine Rg.aZ G G (T.aO (Rg.aZ G G (T.aO ?_)));refine bZ (A:=RT.dc) bh G nr XT G G G dB b4 (λv20 aoQ=>?_);refine au (A:=RT.fd) (B:=RT.str) bR G G I9 XT MM G G XT jP b4 (λu21 Sd=>?_);refine bM aG G G G G G Sd b4 (λv22 aa9=>?_);obtain rfl:=eJ aa9;refine aJ G G agX (Hs _ hM aoQ hlen Ic) (λr2 w2' hc=>?_);obtain⟨BI,s2⟩:=hc;have WT:=Hr (k:=t.1) hlen;replace dB:=dB.le XT s2.le;replace jP:=jP.le XT s2.le;replace hM:=s2.lt hM;have:=S.size;replace S:=S.av s2;refine Rg.aZ G G (aI (T.aO (Rg.aZ G G (aT ?_))));refine cR (σ:=Nat×Value) (λq=>[(3,u1),(5,q.2),(6,r2),(7,.int .i64 (q.1:Int))]) (λq w=>∃M',Lt M' w/\Step M w0 M' w ar/\Own (RT.int .i64) 3 M' w w0.heap.size q.2 (iM ((dd d.2 t.1).take q.1) t.2)/\(RT.str.sl).V M' w (dd d.2 t.1) r2/\cG RT.fd M' w u1 t/\q.1<=(dd d.2 t.1).length) (λq=>(dd d.2 t.1).length-q.1) (0,.slice none 0 0) a01 ?_ ?_
 ·exact⟨M,hM,S,eE _ _ _ _ _,BI,jP,bm _⟩
 ·clear S dB jP BI hM;rintro⟨i,u⟩ w ⟨M1,hM,S,ho,BI,jP,hi⟩;dsimp only at ho hi ⊢;refine aI (T.aO (ab G G (ab G G (bB aQ G BI G (ck G G G (ad ?_))))));refine bI G (λc4=>?_) (λc4=>?_)
  ·refine aR (aI (aT (aI ?_)));apply wW mixed rfl rfl;intro wD6 sA6;have xY:=sA6 M1;replace BI:=BI.le xY.le;replace jP:=jP.le XT xY.le;replace ho:=ho.bD xY;replace hM:=xY.lt hM;have:=S.size;replace S:=S.av xY;refine ab G G (Rg.cI (ab G G (Rg.cI ?_)));obtain⟨y,nk⟩:∃y,(dd d.2 t.1)[i]? =some y:=⟨_,an q0⟩;refine cx aQ I9 G G G BI b4 q0 (λu62 y' fV J9=>?_);rw[aq]at fV;obtain rfl:=aF (nk.symm.trans fV);refine Rg.cI ?_;refine bM aG G G G G G J9 b4 (λv63 wo=>?_);obtain rfl:=eJ wo;refine Rg.cI ?_;refine au (A:=RT.fd) (B:=RT.str) bR G G I9 XT Zk G G XT jP b4 (λu64 sI=>?_);refine Rg.cI ?_;refine bM aG G G G G G sI b4 (λv65 aoS=>?_);obtain rfl:=eJ aoS;refine Rg.cI (Rg.zC G G G (Rg.cI (fB ?_)));refine bI G (λc6=>?_) (λc6=>?_)
   ·refine aN (ab G G (ab G G ?_));refine fm (A:=RT.int .i64) (hn:=by decide) (M:=M1) ao I3 XT G G hM (iG q0) (.inr ⟨G,G⟩) (λaeV al6 tj xM=>?_);replace BI:=BI.le xM.le;replace jP:=jP.le XT xM.le;replace ho:=ho.bD xM;replace hM:=xM.lt hM;have:=S.size;replace S:=S.av xM;refine dA (M:=M1) (base:=w0.heap.size) ao I3 G G G G ho tj b4 (by have:=rG ((dd d.2 t.1).take i) t.2;rw[bF]at this;simp;omega) (by have:=rG ((dd d.2 t.1).take i) t.2;rw[bF]at this;simp;omega) (S.size) (λaeq aoT ax5 agZ Sk=>?_);replace BI:=BI.le Sk.le;replace jP:=jP.le XT Sk.le;replace tj:=tj.le Sk.le;replace hM:=Sk.lt hM;have:=S.size;replace S:=S.eg Sk ho (aX _);replace ho:=agZ;refine Rg.aZ G G (aN (ab G G (br G G G q0 (Rg.aZ G G ?_))));refine⟨G,(i+1,aeq),a01,?_,?_⟩
    ·exact⟨aoT,hM,S,by dsimp only;rw[x7 nk,if_pos c6];exact ho,BI,jP,by dsimp only;omega⟩
    ·dsimp only;omega
   ·refine aR (aN (ab G G (br G G G q0 (Rg.aZ G G ?_))));refine⟨G,(i+1,u),a01,?_,?_⟩
    ·exact⟨M1,hM,S,by dsimp only;rw[x7 nk,if_neg c6];exact ho,BI,jP,by dsimp only;omega⟩
    ·dsimp only;omega
  ·refine cE (T.aO (ab G G (Rg.aZ G G (aM ?_))));rw[bg q0]at ho;exact aP G G ⟨ho.close iz S (by have:=rG (dd d.2 t.1) t.2;omega),S.back⟩
end Go.K
namespace Go.K
section
variable {P:Program} {r:Option Nat} {n:Nat} {L:Sl} {ds:List Deferred} {w:World} {K:Kt} {ops:Array Oper} {rest:List Oper} {d:Nat} {x y:Operand} {ty:TypeId} {pos:String} {af:Array Edge}
theorem l2 {t:TypeId} (ht:P.underlying t=some .string) {cs:Array Value} {off:Nat} {v:Value} (hv:cs[off]? =some v):(part t cs off).run P w= .ok v w:=by
 have OD:(isAgg t).run P w= .ok false w:=by
  unfold isAgg;rw[cB,run_underlying ht w];simp
 unfold part;rw[cB,OD];simp[hv]
theorem Hu {t:TypeId} {f g:Field} {k:Nat} {xs ys:Array Value} {a b a' b':Value} {c e:Bool} (ht:P.underlying t=some (.struct #[f,g])) (hp:P.stoodInHeld t=false) (hn:f.name≠ "_") (W3:g.name≠ "_")
  (p1:(part f.type xs f.offset).run P w= .ok a w) (p2:(part f.type ys f.offset).run P w= .ok b w) (p3:(part g.type xs g.offset).run P w= .ok a' w) (p4:(part g.type ys g.offset).run P w= .ok b' w)
  (h1:(Op.equalIn k f.type a b).run P w= .ok c w) (h2:(Op.equalIn k g.type a' b').run P w= .ok e w):(Op.equalIn (k+1) t (.agg xs) (.agg ys)).run P w= .ok (c&&e) w:=by
 have Ip:P.fieldsOf t= #[f,g]:=by simp[Program.fieldsOf,ht]
 rw[run_equalIn_struct (P:=P) w k t xs ys (by rw[Ip];exact ht) hp,Ip];simp only[Op.eqFields,hn,W3,ne_eq,not_false_eq_true,if_true,cB,p1,p2,p3,p4,h1,h2,cW]
 cases c
 ·simp
 ·simp only[Bool.not_true,Bool.false_eq_true,if_false,cB,p3,p4,h2,cW]
  cases e<;>simp
theorem Lz (a b:List UInt8):((⟨a.toArray⟩:ByteArray).toList==(⟨b.toArray⟩:ByteArray).toList)=decide (a=b):=by
 rw[ByteArray.toList_eq,ByteArray.toList_eq];show(a==b)=_;by_cases h:a=b
 ·subst h;simp
 ·simp[h]
end
open Go.Proofs
namespace TKTak15
theorem E78:Enters Tryz.prog 78:=enters Tryz.func78 rfl XT
end TKTak15
open TKTak15
set_option maxRecDepth 10000
def Be (e:Er) (x:En):Bool:=decide (x.2<e.2)&&decide (0<(iM (dd x.1.2 e.1.1) e.1.2).length)
theorem EE {M:aE} {e:Er} {x:En} {v0 v1:Value} (w0:World) (hM:Lt M w0) (he:RT.er.V M w0 e v0) (hx:RT.en.V M w0 x v1) (hlen:∀f∈x.1.2,f.1.length<=900000/\f.2.length<=900000) (Ic:x.1.2.length<=1000000):
  Spec Tryz.prog 70 #[v0,v1] w0 (λv w=>v= .bool (Be e x)/\Step M w0 M w ar):=by
 refine aS (args:=[_,_]) (fn:=Tryz.f70) Tryz.func70 G (n:=19) Tryz.ntmps70 ?_;have S:Step M w0 M w0 ar:=aV;refine T.aO ?_;refine gR (A:=RT.er) (a:=e) G G hM he G (λu0 w1 dB s0 _=>?_);replace he:=he.le s0.le;replace hx:=hx.le s0.le;replace hM:=s0.lt hM;have:=S.size;replace S:=S.av s0;refine gR (A:=RT.en) (a:=x) G G hM hx G (λu1 w2 jP s1 _=>?_);replace hx:=hx.le s1.le;replace dB:=dB.le XT s1.le;replace hM:=s1.lt hM;have:=S.size;replace S:=S.av s1;refine Rg.aZ G G (T.aO ?_);refine au (A:=RT.en) (B:=RT.int .i64) de G G I3 XT Zl G G XT jP b4 (λMQ oS=>?_);refine bV aj G G oS b4 (λwu=>?_);refine aY (v':= .int .i64 x.2) G ?_;refine au (A:=RT.er) (B:=RT.int .i64) Tryz.underlying149 G G I3 XT er1 G G XT dB b4 (λu12 A6=>?_);refine bV aj G G A6 b4 (λVX=>?_);refine aY (v':= .int .i64 e.2) G (ck G G G (ab G G ?_));refine aW (g:=10) G (λj8=>?_) (λj8=>?_)
 ·refine ah G G ?_;refine au (A:=RT.en) (B:=RT.dc) de G G nr XT WO G G XT jP b4 (λu16 Bf=>?_);refine ah G G ?_;refine bZ (A:=RT.dc) bh G nr XT G G G Bf b4 (λv17 Hv=>?_);refine ah G G ?_;refine au (A:=RT.er) (B:=RT.fd) Tryz.underlying149 G G nE XT er0 G G XT dB b4 (λu18 QZ=>?_);refine ah G G ?_;refine bZ (A:=RT.fd) bR G nE XT G G G QZ b4 (λv19 Nh=>?_);refine ah G G ?_;refine aJ G G E78 (Ht _ hM Hv hlen Ic Nh) (λr10 w10 hc=>?_);obtain⟨aoU,oT⟩:=hc;replace dB:=dB.le XT oT.le;replace jP:=jP.le XT oT.le;replace hM:=oT.lt hM;have:=S.size;replace S:=S.av oT;refine ah G G (bB ao G aoU G (ah G G (il G G G (a8 G G G (Rg.aZ G G (aM ?_))))))
  first
  |exact aP G G ⟨congrArg Value.bool (by unfold Be;rw[decide_eq_true j8,cT];exact decide_eq_decide.2 q0),S⟩
  |exact aP G G ⟨congrArg Value.bool (by unfold Be;rw[decide_eq_false j8,ei]),S⟩
 ·refine ak G G G G (ak G G G G (ak G G G G (ak G G G G (ak G G G G (ak G G G G (ak G G G G (aD G G G (Rg.aZ G G (aM ?_)))))))))
  first
  |exact aP G G ⟨congrArg Value.bool (by unfold Be;rw[decide_eq_true j8,cT];exact decide_eq_decide.2 q0),S⟩
  |exact aP G G ⟨congrArg Value.bool (by unfold Be;rw[decide_eq_false j8,ei]),S⟩
def Dj (l:List Bool):List Int:=(l.zipIdx.filter λp=>p.1).map λp=>(p.2:Int)
end Go.K
namespace Go.K
open Go.Proofs
namespace TKLive15
theorem I4:TI Tryz.prog 4 (.bool false) 1 1:=by unfold TI;kernel_rfl
theorem Hw:TI Tryz.prog 149 (.agg #[(.string ⟨#[]⟩),(.string ⟨#[]⟩),(.int .i64 0)]) 3 40:=by unfold TI;kernel_rfl
theorem E70:Enters Tryz.prog 70:=enters Tryz.func70 rfl XT
end TKLive15
open TKLive15
set_option maxRecDepth 10000
def mX (l:List Bool):Array Value:=(l.map Value.bool).toArray
theorem Bg {l:List Bool} {i:Nat} (h:i<l.length):∃b,(mX l)[i]? =some (.bool b):=by
 unfold mX;exact⟨l[i],by rw[fK,cD,an h];rfl⟩
theorem Bh (l:List Bool) (i:Nat) (b:Bool):(mX l).setIfInBounds i (.bool b)=mX (l.set i b):=by
 unfold mX;simp[List.map_set]
theorem VY {M:aE} {w:World} {b:Nat} {e:TypeId} {l:List Bool} (h:w.heap[b]? =some (.cells (mX l) e (0,0))) (hb: ¬M b) (hl:l.length<=140737488355328):(RT.bool.sl).V M w l (.slice (some ⟨b,0,none⟩) l.length l.length):=
 iX.2 ⟨_,_,rfl,aX _,hl,.inr ⟨b,0,rfl,hb,λi x hx=>⟨[.bool x],rfl,λj v hj=>by
  cases j with
  |zero=>
   simp at hj;subst hj;refine im h ?_;show(mX l)[0+i*1+0]? =_;unfold mX;rw[fK,cD,show 0+i*1+0=i by omega,hx];rfl
  |succ j=>simp at hj⟩⟩⟩
def eY (es:List Er) (upto:Int) (x:En):Bool:=decide (x.2<upto)&& !(es.any λe=>decide (e.2<upto)&&Be e x)
theorem uA {es:List Er} {upto:Int} {x:En} {e:Er}:eY (es++[e]) upto x=(eY es upto x&& !(decide (e.2<upto)&&Be e x)):=by
 unfold eY;rw[List.any_append];simp only[List.any_cons,List.any_nil,Bool.or_false,Bool.not_or,Bool.and_assoc]
def y5 (L:List En) (es:List Er) (upto:Int) (i:Nat):List Bool:=(L.take i).map (eY es upto)++List.replicate (L.length-i) false
theorem Hx {L:List En} {es:List Er} {upto:Int} {i:Nat} (h:i<=L.length):(y5 L es upto i).length=L.length:=by unfold y5;simp;omega
theorem Sm {L:List En} {es:List Er} {upto:Int} {i:Nat} {x:En} (h:L[i]? =some x):(y5 L es upto i).set i (eY es upto x)=y5 L es upto (i+1):=by
 have hi:=(al.1 h).1;unfold y5;rw[List.set_append_right _ _ a13,bQ,h,cH,ed,mZ];congr 1;rw[show L.length-i=(L.length-(i+1))+1 by omega,List.replicate_succ];simp[zt (Nat.le_of_lt hi)]
theorem Hy {M:aE} {L:List En} {es:List Er} {upto:Int} {v0 v1:Value} (w0:World) (hM:Lt M w0) (hv:(RT.en.sl).V M w0 L v0) (he:(RT.er.sl).V M w0 es v1) (hlen:∀x∈L,(∀f∈x.1.2,f.1.length<=900000/\f.2.length<=900000)/\x.1.2.length<=1000000) (hL:L.length<=1000000) (zD:es.length<=1000000):
  Spec Tryz.prog 27 #[v0,v1,.int .i64 upto] w0 (λv w=>(RT.bool.sl).V M w (L.map (eY es upto)) v/\Step M w0 M w ar):=by
 have iz:=hM;refine aS (args:=[_,_,_]) (fn:=Tryz.f27) Tryz.func27 G (n:=59) Tryz.ntmps27 ?_;have S:Step M w0 M w0 ar:=aV;refine T.aO (Rg.aZ G G (T.aO (ab G G (bB ef G hv G ?_))));refine Rg.mk0 M Tryz.underlying40 I4 G G G G q0 q0 (λbw w1 z1 z1' Hz s1=>?_);generalize hMq:ins M bw=Mq at s1;have y6:Mq bw:=by rw[<-hMq];exact .inl G
 replace hv:=hv.le s1.le;replace he:=he.le s1.le;replace hM:=s1.lt hM;have:=S.size;replace S:=S.av s1;refine Rg.aZ G G (aI (T.aO (Rg.aZ G G (aT ?_))));refine cR (σ:=Nat) (λi=>[(0,v0),(1,v1),(2,.int .i64 upto),(7,.slice (some ⟨bw,0,none⟩) L.length L.length),(8,.int .i64 (i:Int))]) (λi w=>∃M1,Lt M1 w/\Step M w0 M1 w ar/\(RT.en.sl).V M1 w L v0/\(RT.er.sl).V M1 w es v1/\M1 bw/\w.heap[bw]? =some (.cells (mX (y5 L es upto i)) 4 (0,0))/\i<=L.length) (λi=>L.length-i) 0 a34 ?_ ?_
 ·exact⟨_,hM,S,hv,he,y6,by rw[Hz];unfold y5 mX;simp,bm _⟩
 ·clear S hv he hM Hz y6;rintro i w ⟨M1,hM,S,hv,he,y6,Hz,hi⟩;refine aI (T.aO (ab G G (ab G G (bB ef G hv G (ck G G G (ad ?_))))));refine bI G (λc3=>?_) (λc3=>?_)
  ·refine aR (aI (aT (T.aO (ab G G (ab G G (ab G G (ab G G ?_)))))));obtain⟨x,nk⟩:∃x,L[i]? =some x:=⟨_,an q0⟩;refine cx ef CM G G G hv b4 q0 (λu54 y' fV Si=>?_);rw[aq]at fV;obtain rfl:=aF (nk.symm.trans fV);refine au (A:=RT.en) (B:=RT.int .i64) de G G I3 XT Zl G G XT Si b4 (λu55 aoV=>?_);refine bV aj G G aoV b4 (λai5=>?_);refine aY (v':= .int .i64 x.2) G (ab G G (ck G G G (Rg.zW Tryz.underlying40 I4 G G G q0 ?_)));have hrl:=Hx (es:=es) (upto:=upto) hi;obtain⟨bo,hbo⟩:=Bg (l:=y5 L es upto i) (i:=i) q0;refine ch (M:=M1) (u:= .bool bo) I4 rfl rfl Hz (by rw[aq];exact hbo) G y6 (λw5 gw5 sw5=>?_);rw[aq,Bh]at gw5;replace hv:=hv.le sw5.le;replace he:=he.le sw5.le;replace S:=S.cq sw5 (λb (hb:b=bw)=>by omega);replace hM:=sw5.lt hM;refine ad (T.aO (Rg.aZ G G (aT ?_)));refine cR (σ:=Nat) (λk=>[(0,v0),(1,v1),(2,.int .i64 upto),(7,.slice (some ⟨bw,0,none⟩) L.length L.length),(8,.int .i64 (i:Int)),(9,.int .i64 (k:Int))]) (λk w=>∃M1,Lt M1 w/\Step M w0 M1 w ar/\(RT.en.sl).V M1 w L v0/\(RT.er.sl).V M1 w es v1/\M1 bw/\w.heap[bw]? =some (.cells (mX ((y5 L es upto i).set i (eY (es.take k) upto x))) 4 (0,0))/\k<=es.length) (λk=>es.length-k) 0 a14 ?_ ?_
   ·exact⟨_,hM,S,hv,he,y6,by rw[gw5];unfold eY;simp,bm _⟩
   ·clear S hv he hM Hz gw5 y6 hbo bo;rintro k w ⟨M1,hM,S,hv,he,y6,Hz,hk⟩;refine aI (T.aO (ab G G (ab G G (bB oy G he G (ck G G G (ad ?_))))));refine bI G (λc7=>?_) (λc7=>?_)
    ·refine aR (aI (aT (aI ?_)));apply T.Ww 8 mixed rfl rfl rfl rfl rfl;intro Vo sA9;have wU:=sA9 M1;replace hv:=hv.le wU.le;replace he:=he.le wU.le;replace hM:=wU.lt hM;have:=S.size;replace S:=S.av wU;refine ab G G (Rg.cI (ab G G (Rg.cI ?_)));obtain⟨e,hek⟩:∃e,es[k]? =some e:=⟨_,an q0⟩;obtain⟨hx1,hx2⟩:=hlen x (ax nk);refine cx oy Hw G G G he b4 q0 (λu92 y' fV mY=>?_);rw[aq]at fV;obtain rfl:=aF (hek.symm.trans fV);refine Rg.cI ?_;refine bZ (A:=RT.er) Tryz.underlying149 G Hw XT G G G mY b4 (λv93 aoY=>?_);refine Rg.cI (ab G G (Rg.cI (ab G G (Rg.cI ?_))));refine cx ef CM G G G hv b4 q0 (λu96 y' fV abd=>?_);rw[aq]at fV;obtain rfl:=aF (nk.symm.trans fV);refine Rg.cI ?_;refine bZ (A:=RT.en) de G CM XT G G G abd b4 (λv97 abe=>?_);refine Rg.cI (fB ?_);replace Hz:=wU.ay Hz;refine aJ G G E70 (EE _ hM aoY abe hx1 hx2) (λr98 w98 hc=>?_);obtain⟨rfl,s98⟩:=hc;replace Hz:=s98.ay Hz;refine aY (v':= .bool (decide (Be e x=true))) (by simp) ?_;replace hv:=hv.le s98.le;replace he:=he.le s98.le;replace hM:=s98.lt hM;have:=S.size;replace S:=S.av s98;refine Rg.aZ G G (T.aO (ab G G (ab G G ?_)));refine cx oy Hw G G G he b4 q0 (λayb y' fV ag2=>?_);rw[aq]at fV;obtain rfl:=aF (hek.symm.trans fV);refine au (A:=RT.er) (B:=RT.int .i64) Tryz.underlying149 G G I3 XT er1 G G XT ag2 b4 (λayc ag3=>?_);refine bV aj G G ag3 b4 (λag4=>?_);refine aY (v':= .int .i64 e.2) G (ab G G (ck G G G (ab G G ?_)));refine aW (g:=52) G (λSn=>?_) (λSn=>?_)
     ·refine ah G G (ab G G (a8 G G G (ad ?_)));refine bI G (λMH=>?_) (λMH=>?_)
      ·refine aN (ab G G (ab G G (Rg.zW Tryz.underlying40 I4 G G G q0 ?_)));have ayd:=Hx (es:=es) (upto:=upto) hi;obtain⟨bo,hbo⟩:=Bg (l:=(y5 L es upto i).set i (eY (es.take k) upto x)) (i:=i) (by rw[List.length_set];omega);refine ch (M:=M1) (u:= .bool bo) I4 rfl rfl Hz (by rw[aq];exact hbo) G y6 (λUB ag5 VZ=>?_);rw[aq,Bh]at ag5;replace hv:=hv.le VZ.le;replace he:=he.le VZ.le;replace S:=S.cq VZ (λb (hb:b=bw)=>by omega);replace hM:=VZ.lt hM;refine ad (aN (ab G G (br G G G q0 (Rg.aZ G G ?_))));refine⟨G,k+1,a14,?_,?_⟩
       ·exact⟨M1,hM,S,hv,he,y6,by rw[bQ,hek,cH,uA,decide_eq_true Sn,MH];simpa using ag5,by omega⟩
       ·omega
      ·refine aR (aN (ab G G (br G G G q0 (Rg.aZ G G ?_))));refine⟨G,k+1,a14,?_,?_⟩
       ·exact⟨M1,hM,S,hv,he,y6,by rw[bQ,hek,cH,uA,fj.2 MH];simpa using Hz,by omega⟩
       ·omega
     ·refine ak G G G G (aD G G G (ad (gy G (aR (aN (ab G G (br G G G q0 (Rg.aZ G G ?_))))))));refine⟨G,k+1,a14,?_,?_⟩
      ·exact⟨M1,hM,S,hv,he,y6,by rw[bQ,hek,cH,uA,decide_eq_false Sn];simpa using Hz,by omega⟩
      ·omega
    ·refine cE (aN (ab G G (br G G G q0 (Rg.aZ G G ?_))));refine⟨G,i+1,a34,?_,?_⟩
     ·exact⟨M1,hM,S,hv,he,y6,by rw[<-Sm nk];rw[bg q0]at Hz;exact Hz,by omega⟩
     ·omega
  ·refine cE (T.aO (ab G G (Rg.aZ G G (aM ?_))))
   have e:y5 L es upto i=L.map (eY es upto):=by
    unfold y5;rw[bg q0,show L.length-i=0 by omega];simp
   rw[e]at Hz;have hV:=VY (M:=M) Hz (λh=>by have:=iz _ h;omega) (by rw[bT];omega);rw[bT]at hV;exact aP G G ⟨hV,S.back⟩
end Go.K
namespace Go.K
open Go.Proofs
set_option maxRecDepth 10000
theorem Sq {r:Int} (h:1<=r):∀x∈Lib.encodeRuneZ r,1<=x/\x<=255:=by
 intro x hx;unfold Lib.encodeRuneZ at hx
 split at hx
 ·simp at hx;omega
 ·split at hx
  ·simp at hx;omega
  ·split at hx
   ·simp at hx;omega
   ·split at hx
    ·simp at hx;omega
    ·simp at hx;omega
theorem abf {r:Int} (h:1<=r):(0:UInt8)∉Lib.encodeRune r:=λhm=>by
 unfold Lib.encodeRune at hm;obtain⟨x,hx,uQ⟩:=cu.1 hm;obtain⟨h1,h2⟩:=Sq h x hx;have:=congrArg UInt8.toNat uQ;simp at this;omega
theorem V0 {c:Int} (h:1<=c):1<=ud c:=by unfold ud;split<;>omega
theorem Sr {l:List Int} (h:∀c∈l,1<=c):(0:UInt8)∉kg l:=λhm=>by
 unfold kg at hm;obtain⟨c,hc,hx⟩:=List.mem_flatMap.1 hm;exact abf (V0 (h c hc)) hx
theorem NH {c:Int} (h:gu c=true\/nU c=true):1<=gm c:=by
 have:1<=c:=by
  rcases h with h|h
  ·unfold gu at h;simp at h;omega
  ·unfold nU at h;simp at h;omega
 unfold gm;split<;>omega
theorem V1 (l:List Int):∀p:List Int×List (List UInt8),(∀c∈p.1,1<=c)->(∀w∈p.2,(0:UInt8)∉w)->(∀c∈(l.foldl fU p).1,1<=c)/\∀w∈(l.foldl fU p).2,(0:UInt8)∉w:=by
 induction l with
 |nil=>intro p h1 h2;exact⟨h1,h2⟩
 |cons c l ih=>
  intro p h1 h2;rw[List.foldl_cons];refine ih _ ?_ ?_
  ·unfold fU
   split
   ·rename_i hc
    intro x hx;rcases dN.1 hx with hx|hx
    ·exact h1 x hx
    ·rw[cO.1 hx];exact NH hc
   ·split<;>(intro x hx;cases hx)
  ·unfold fU
   split
   ·exact h2
   ·split
    ·intro w hw;rcases dN.1 hw with hw|hw
     ·exact h2 w hw
     ·rw[cO.1 hw];exact Sr h1
    ·exact h2
theorem HA (l:List UInt8):∀w∈words l,(0:UInt8)∉w:=(V1 _ ([],[]) (λc h=>by cases h) (λw h=>by cases h)).2
theorem HB {a b:Fd} (ha:Om a) (Wu:(0:UInt8)∉a.2) (h:cN a=cN b):a=b:=by
 have h1:(cN a).count 0=1:=by
  unfold cN;rw[List.count_append,List.count_append,List.count_eq_zero.2 ha,List.count_eq_zero.2 Wu];simp
 have h2:(cN b).count 0=b.1.count 0+1+b.2.count 0:=by
  unfold cN;rw[List.count_append,List.count_append];simp
 rw[h]at h1;exact vK ha (show Om b from List.count_eq_zero.1 q0) h
theorem uB {fs:List Fd} {t:Fd}:t∈(cF fs).map (·.1)↔∃f∈fs,f.1=t.1/\t.2∈words f.2:=by
 unfold cF hY;constructor
 ·intro h;obtain⟨p,hp,rfl⟩:=cu.1 h;obtain⟨f,hf,hp⟩:=List.mem_flatMap.1 hp;obtain⟨q,hq,rfl⟩:=cu.1 hp;exact⟨f,hf,G,(List.mem_zipIdx hq).2.2▸List.getElem_mem _⟩
 ·rintro⟨f,hf,h1,h2⟩;obtain⟨i,hi,he⟩:=List.mem_iff_getElem.1 h2;refine cu.2 ⟨((f.1,t.2),i),List.mem_flatMap.2 ⟨f,hf,cu.2 ⟨(t.2,i),?_,rfl⟩⟩,by rw[h1]⟩;rw[ji];simp[hi,he]
theorem Dk {ws:List (List UInt8)} {x:List UInt8}:0<(iM ws x).length↔x∈ws:=by
 unfold iM;rw[bT,List.length_pos_iff_exists_mem];constructor
 ·rintro⟨p,hp⟩;obtain⟨h1,h2⟩:=fy.1 hp;have h2:p.1=x:=by simpa using h2
  rw[<-h2];rw[ji]at h1;exact ax h1
 ·intro h;obtain⟨i,hi⟩:=bG.1 h;exact⟨(x,i),fy.2 ⟨by rw[ji];exact hi,by simp⟩⟩
theorem HC {d:Dc} (h:iQ d) {k x:List UInt8}:x∈dd d.2 k↔∃f∈d.2,f.1=k/\x∈words f.2:=by
 unfold dd;constructor
 ·intro hx
  split at hx
  ·rename_i f hf
   exact⟨f,List.mem_of_find?_eq_some hf,by simpa using List.find?_some hf,hx⟩
  ·cases hx
 ·rintro⟨f,hf,h1,h2⟩
  split
  ·rename_i g hg
   have hg1:=List.mem_of_find?_eq_some hg;have hg2:g.1=k:=by simpa using List.find?_some hg
   have:g=f:=by
    obtain⟨i,hi⟩:=bG.1 hg1;obtain⟨j,hj⟩:=bG.1 hf
    have jt:i=j:=by
     refine(List.getElem?_inj (by rw[bT];exact(al.1 hi).1) h.once).1 ?_;rw[cD,cD,hi,hj];simp[hg2,h1]
    subst jt;rw[hi]at hj;exact aF hj
   rw[this];exact h2
  ·rename_i hn
   rw[List.find?_eq_none]at hn;exact absurd h1 (by simpa using hn f hf)
theorem HD {d:Dc} (h:iQ d) (i:Nat) (t:Fd):Ei i (cF d.2) (cN t)≠[]↔0<(iM (dd d.2 t.1) t.2).length:=by
 rw[Dk,HC h];constructor
 ·intro fw;rcases vN h i (cN t)with h1|⟨u,hu,hk,_⟩
  ·exact absurd h1 fw
  ·have L3:=(jg h.K7).1 hu;obtain⟨f,hf,hf1,hf2⟩:=uB.1 L3;have e:u=t:=HB (by obtain⟨p,hp,rfl⟩:=cu.1 L3;exact h.K7 p hp) (HA _ _ hf2) hk;rw[<-e];exact⟨f,hf,hf1,hf2⟩
 ·rintro⟨f,hf,h1,h2⟩;exact QB ((jg h.K7).2 (uB.2 ⟨f,hf,h1,h2⟩))
def abg (t:Fd) (x:En):Bool:=decide (0<(iM (dd x.1.2 t.1) t.2).length)
theorem Ss {d:Dc} (h:iQ d) (i:Nat) (t:Fd):(Ei i (cF d.2) (cN t)).map (·.1)=if 0<(iM (dd d.2 t.1) t.2).length then[(i:Int)]else[]:=by
 have hp:=HD h i t;rcases vN h i (cN t)with h1|⟨u,_,_,h1⟩
 ·rw[h1,if_neg (λhn=>(hp.2 hn) h1)];rfl
 ·rw[h1,if_pos (hp.1 (by rw[h1];simp))];rfl
theorem LA (t:Fd):∀(L:List En) (i:Nat),(∀e∈L,iQ e.1)->(BJ (cN t) i L).map (·.1)=((L.zipIdx i).filter λp=>abg t p.1).map λp=>(p.2:Int)
 |[],_,_=>rfl
 |e::L,i,hF=>by
  show(Ei i (cF e.1.2) (cN t)++BJ (cN t) (i+1) L).map (·.1)=_;rw[ed,Ss (hF e (by simp)) i t,LA t L (i+1) (λe' he=>hF e' (by simp[he])),List.zipIdx_cons];unfold abg;by_cases h:0<(iM (dd e.1.2 t.1) t.2).length
  ·rw[if_pos h,fP a68];rfl
  ·rw[if_neg h,fO a68];rfl
theorem Dl {T:Int} {f:Int->Int} {g:En->Bool}:∀(L:List En) (i:Nat),(∀p∈L.zipIdx i,f (p.2:Int)=p.1.2)->(L.map (·.2)).Pairwise (· < ·)->(((L.zipIdx i).filter λp=>g p.1).map λp=>(p.2:Int)).takeWhile (λd=>decide (f d<T))=((L.zipIdx i).filter λp=>decide (p.1.2<T)&&g p.1).map λp=>(p.2:Int)
 |[],_,_,_=>rfl
 |e::L,i,hf,hp=>by
  rw[dC,eV]at hp;have ih:=Dl (T:=T) (g:=g) L (i+1) (λp Oy=>hf p (by rw[List.zipIdx_cons];exact cz _ Oy)) hp.2;have h0:f (i:Int)=e.2:=hf (e,i) (by rw[List.zipIdx_cons];exact bK ..);rw[List.zipIdx_cons];by_cases hT:e.2<T
  ·by_cases hg:g e=true
   ·rw[fP (by simpa using hg),fP (by simp[hT,hg]),dC,dC,o8,if_pos (by simp[h0,hT]),ih]
   ·rw[fO (by simpa using hg),fO (by simp[hg]),ih]
  ·have p8:((L.zipIdx (i+1)).filter λp=>decide (p.1.2<T)&&g p.1)=[]:=by
    rw[List.filter_eq_nil_iff];intro p Oy;have:=hp.1 p.1.2 (cu.2 ⟨p.1,(List.mem_zipIdx Oy).2.2▸List.getElem_mem _,rfl⟩);simp;intro;omega
   rw[fO (l:=L.zipIdx (i+1)) (p:=λp:En×Nat=>decide (p.1.2<T)&&g p.1) (by simp[hT]),p8];by_cases hg:g e=true
   ·rw[fP (by simpa using hg),dC,o8,if_neg (by simp[h0,hT])];rfl
   ·rw[fO (by simpa using hg),ih,p8]
theorem NI {α:Type} (f:α->Bool) (L:List α):Dj (L.map f)=((L.zipIdx).filter λp=>f p.1).map λp=>(p.2:Int):=by
 unfold Dj;rw[List.zipIdx_map,List.filter_map,BN];rfl
theorem HE {L:List En} (fN:vW (-1) L=true) (e:Er):vY (pk L (cN e.1)) (L.map (·.2)) e.2=Dj (L.map (Be e)):=by
 rw[NI];unfold vY pk;rw[LA e.1 L 0 (kK fN)]
 have hz:∀p∈L.zipIdx 0,rX (L.map (·.2)) (p.2:Int)=p.1.2:=λp hp=>by
  have h1:L[p.2]? =some p.1:=ji.1 hp;have h2:(L.map (·.2))[p.2]? =some p.1.2:=by rw[cD,h1,dq]
  exact Ep h2
 have h3:=Dl (T:=e.2) (f:=rX (L.map (·.2))) (g:=abg e.1) L 0 hz (GY (xU fN)).2;rw[h3];rfl
theorem NJ {l:List Bool} {j:Nat}:(j:Int)∈Dj l↔l[j]? =some true:=by
 unfold Dj;constructor
 ·intro h;obtain⟨p,hp,he⟩:=cu.1 h;obtain⟨h1,h2⟩:=fy.1 hp;have h3:=ji.1 h1;have:p.2=j:=by omega
  rw[this,h2]at h3;exact h3
 ·intro h;exact cu.2 ⟨(true,j),fy.2 ⟨ji.2 h,G⟩,G⟩
theorem Ka {L:List En} (fN:vW (-1) L=true) (e:Er) {j:Nat} {x:En} (hx:L[j]? =some x):decide ((j:Int)∈rD (uM (gQ L)) ((keysOf L).map (pk L)) e)=Be e x:=by
 have h1:rD (uM (gQ L)) ((keysOf L).map (pk L)) e=Dj (L.map (Be e)):=by
  show vY (qA (keysOf L) ((keysOf L).map (pk L)) (cN e.1)) (L.map (·.2)) e.2=_;rw[Eu];exact HE fN e
 rw[h1,jh,decide_eq_true_eq,NJ,cD,hx];simp
theorem NK {L:List En} (fN:vW (-1) L=true) (es:List Er) (upto:Int) {j:Nat} {x:En} (hx:L[j]? =some x):rE L.length (uM (gQ L)) ((keysOf L).map (pk L)) upto es j=eY es upto x:=by
 have hj:=(al.1 hx).1
 have h2:rX (uM (gQ L)).2.1 (j:Int)=x.2:=by
  show rX (L.map (·.2)) (j:Int)=_;exact Ep (by rw[cD,hx,dq])
 unfold rE eY;rw[decide_eq_true hj,cT,h2];congr 2;exact List.any_congr rfl λe=>by rw[Ka fN e hx]
section
variable {P:Program} {r:Option Nat} {n:Nat} {L:Sl} {ds:List Deferred} {w:World} {K:Kt} {ops:Array Oper} {rest:List Oper} {d:Nat} {x y:Operand} {ty:TypeId} {pos:String} {af:Array Edge}
theorem NL {t:TypeId} {f' g':Field} (hu:P.underlying t=some (.struct #[f',g'])) (hpu:P.stoodInHeld t=false) (hm:f'.name≠ "_") (zz:g'.name≠ "_")
  (o3:f'.offset=0) (o4:g'.offset=1) (s1:P.underlying f'.type=some .string) (s2:P.underlying g'.type=some .string) (a b a' b':List UInt8):
  (Op.equalIn 10000 t (.agg #[.string ⟨a.toArray⟩,.string ⟨b.toArray⟩]) (.agg #[.string ⟨a'.toArray⟩,.string ⟨b'.toArray⟩])).run P w= .ok (decide ((a,b)=(a',b'))) w:=by
 have h1:(Op.equalIn (9999+1) t (.agg #[.string ⟨a.toArray⟩,.string ⟨b.toArray⟩]) (.agg #[.string ⟨a'.toArray⟩,.string ⟨b'.toArray⟩])).run P w= .ok (decide (a=a')&&decide (b=b')) w:=
  Hu (k:=9998+1) (a:= .string ⟨a.toArray⟩) (b:= .string ⟨a'.toArray⟩) (a':= .string ⟨b.toArray⟩) (b':= .string ⟨b'.toArray⟩) hu hpu hm zz (l2 s1 (by rw[o3];rfl)) (l2 s1 (by rw[o3];rfl)) (l2 s2 (by rw[o4];rfl)) (l2 s2 (by rw[o4];rfl))
   (by rw[run_equalIn_string w 9998 _ _ _ s1,Lz]) (by rw[run_equalIn_string w 9998 _ _ _ s2,Lz])
 rw[show(10000:Nat)=9999+1 from rfl,h1];congr 1;by_cases e1:a=a'<;>by_cases e2:b=b'<;>simp[e1,e2]
theorem Rg.ao0 {t t':TypeId} {f' g':Field} {p q:List UInt8×List UInt8} (hu:P.underlying t=some (.struct #[f',g'])) (hpu:P.stoodInHeld t=false) (hq:P.eqGuardType P.depth t=false) (hm:f'.name≠ "_") (zz:g'.name≠ "_")
  (o3:f'.offset=0) (o4:g'.offset=1) (s1:P.underlying f'.type=some .string) (s2:P.underlying g'.type=some .string)
  (hx:ev L x=some (.agg #[.string ⟨p.1.toArray⟩,.string ⟨p.2.toArray⟩])) (hy:ev L y=some (.agg #[.string ⟨q.1.toArray⟩,.string ⟨q.2.toArray⟩])) (hd:Nat.blt d n=true)
  (k:Rg P r n ops rest ((d,.bool (decide (p=q)))::L) ds w K):
  Rg P r n ops ({dst:=some d,op:= .binOp .eql t x y t',type:=ty,pos,after:=af,guard:=none}::rest) L ds w K:=
 .op a06 rfl rfl hd _ w (λρ h=>by
  have he:(Op.equalIn 10000 t (.agg #[.string ⟨p.1.toArray⟩,.string ⟨p.2.toArray⟩]) (.agg #[.string ⟨q.1.toArray⟩,.string ⟨q.2.toArray⟩])).run P w= .ok (decide (p=q)) w:=NL (P:=P) (w:=w) hu hpu hm zz o3 o4 s1 s2 p.1 p.2 q.1 q.2;simp only[execOp];rw[h x _ hx,h y _ hy];rw[cB,cB,run_eqGuard_agg (P:=P) w .eql t x y _ _ hq];simp only[run_eql_struct,he,cW,cB,nc]) k
variable {N:aE} {wd:World} {dst:Option Nat} {gd:Option (Nat×Bool)}
end
theorem Su {fs:List Fd} (h:(fs.map (·.1)).Nodup) (t:Fd):iM (dd fs t.1) t.2=posOf (cF fs) t:=by
 induction fs with
 |nil=>rfl
 |cons x fs ih=>
  have h':=qG.1 h;have e:posOf (cF (x::fs)) t=posOf (hY x) t++posOf (cF fs) t:=by show posOf (hY x++cF fs) t=_;rw[pL]
  by_cases hx:x.1=t.1
  ·rw[e,xJ λy hy e=>h'.1 (by have h9:y.1∈fs.map (·.1):=gw hy;rw[e,<-hx]at h9;exact h9),fS];rw[yH (i:=0) (x:=x) rfl hx (λj y hj=>absurd hj (eL _))];unfold iM posOf hY;rw[List.filter_map,BN];congr 1;refine List.filter_congr λp _=> ?_
   show decide (p.1=t.2)=decide ((x.1,p.1)=t);refine decide_eq_decide.2 ⟨λe=>?_,λe=>?_⟩
   ·rw[hx,e]
   ·rw[<-e]
  ·rw[e,uu hx,kd,<-ih h'.2];congr 1;unfold dd;rw[List.find?_cons_of_neg af1]
def Fv (a b:List Fo) (d:Int):Int:=(if tW a d then 1 else 0)+(if tW b d then 1 else 0)
def ao1 (d:Int):Int:=if d<0 then-(d+1)else d
inductive Qy where
 |mk (kind:Int) (term:Fd) (words:List (List UInt8)) (kids:List Qy)
noncomputable instance as6:DecidableEq Qy:=λa b=>Classical.propDecidable (a=b)
def Qy.kind:Qy->Int| .mk k _ _ _=>k
def Qy.term:Qy->Fd| .mk _ t _ _=>t
def Qy.words:Qy->List (List UInt8)| .mk _ _ ws _=>ws
def Qy.kids:Qy->List Qy| .mk _ _ _ ks=>ks
def Qy.parts (q:Qy):Int×Fd×List (List UInt8)×List Qy:=(q.kind,q.term,q.words,q.kids)
theorem iN {a b:Qy}:a=b↔a.kind=b.kind/\a.term=b.term/\a.words=b.words/\a.kids=b.kids:=by
 constructor
 ·rintro rfl;exact⟨G,G,G,G⟩
 ·obtain⟨k,t,ws,ks⟩:=a;obtain⟨k',t',uH,ks'⟩:=b;rintro⟨h1,h2,h3,h4⟩;have h1:k=k':=h1;have h2:t=t':=h2;have h3:ws=uH:=h3;have h4:ks=ks':=h4;subst h1 h2 h3 h4;rfl
def RT.abh:RT (List Qy) where
 n:=1
 agg:=false
 R:=λ_ _ xs vs=>xs=[]/\∃a c,vs=[.slice a 0 c]
 len:=by rintro _ _ x vs ⟨_,a,c,rfl⟩;rfl
 one:=by rintro _ _ x vs ⟨_,a,c,rfl⟩ v hv;simp at hv;subst hv;rfl
 le:=λ_ h=>h
abbrev RT.ag6 (K:RT (List Qy)):RT Qy:=RT.XX (RT.pair (RT.int .i64) (RT.pair RT.fd (RT.pair (RT.str.sl) K))) Qy.parts
def RT.qyS:Nat->{A:RT Qy // A.n=5/\A.agg=true}
 |0=>⟨RT.ag6 RT.abh,rfl,rfl⟩
 |n+1=>⟨RT.ag6 ((RT.qyS n).1.sl (by rw[(RT.qyS n).2.1];decide)),rfl,rfl⟩
def RT.qy (n:Nat):RT Qy:=(RT.qyS n).1
theorem HF (n:Nat):(RT.qy n).n=5:=(RT.qyS n).2.1
theorem bS (n:Nat):0<(RT.qy n).n:=by rw[HF];decide
theorem eD (n:Nat):(RT.qy n).agg=true:=(RT.qyS n).2.2
theorem XD:∀{n:Nat} {M:aE} {w:World} {q:Qy} {vs:List Value},(RT.qy n).R M w q vs->(RT.qy (n+1)).R M w q vs
 |0,M,w,q,vs,h=>by
  obtain⟨va,vb,rfl,h1,vc,vd,rfl,h2,ve,vf,rfl,h3,hk,a,c,rfl⟩:=h;have hk:q.kids=[]:=hk;refine⟨va,_,G,h1,vc,_,G,h2,ve,_,G,h3,a,c,?_,?_,?_,.inl hk⟩
  ·show _=[Value.slice a q.kids.length c];rw[hk];rfl
  ·show q.kids.length<=c;rw[hk];exact bm _
  ·show q.kids.length<=_;rw[hk];exact bm _
 |n+1,M,w,q,vs,h=>by
  obtain⟨va,vb,rfl,h1,vc,vd,rfl,h2,ve,vf,rfl,h3,a,c,rfl,h4,h5,h6⟩:=h;refine⟨va,_,G,h1,vc,_,G,h2,ve,_,G,h3,a,c,G,h4,h5,h6.imp id fun⟨b,o,e,hb,hx⟩=>⟨b,o,e,hb,λi x hi=>?_⟩⟩;obtain⟨us,g1,g2⟩:=hx i x hi;exact⟨us,XD g1,by rw[(RT.qyS n).2.1]at g2;rw[(RT.qyS (n+1)).2.1];exact g2⟩
theorem n4 {n:Nat} {M:aE} {w:World} {q:Qy} {v:Value} (h:(RT.qy n).V M w q v):(RT.qy (n+1)).V M w q v:=by
 obtain⟨vs,h1,h2⟩:=h;exact⟨vs,XD h1,by rw[h2];unfold RT.val;rw[eD,eD]⟩
theorem XE (n:Nat):Part (RT.qy (n+1)) (RT.int .i64) Qy.kind 0:=Part.XX Qy.parts (kO _ _)
theorem V2 (n:Nat):Part (RT.qy (n+1)) RT.fd Qy.term 1:=Part.XX Qy.parts ((fH _ _).trans (kO _ _))
theorem qp2 (n:Nat):Part (RT.qy (n+1)) (RT.str.sl) Qy.words 3:=Part.XX Qy.parts ((fH _ _).trans ((fH _ _).trans (kO _ _)))
theorem XF (n:Nat):Part (RT.qy (n+1)) ((RT.qy n).sl (bS n)) Qy.kids 4:=Part.XX Qy.parts ((fH _ _).trans ((fH _ _).trans (fH _ _)))
theorem IQ {P:Program} {t:TypeId} {z:Value} {bytes:Nat} (h:TI P t z 5 bytes) (n:Nat):TI P t z (RT.qy n).n bytes:=by rw[HF];exact h
theorem pW {n:Nat} {M:aE} {w:World} {q:Qy} {v:Value} (h:(RT.qy (n+1)).V M w q v):∃vw vk,v= .agg #[.int .i64 q.kind,.string ⟨q.term.1.toArray⟩,.string ⟨q.term.2.toArray⟩,vw,vk]/\(-9223372036854775808<=q.kind/\q.kind<=9223372036854775807)/\(q.term.1.length<=140737488355328/\q.term.2.length<=140737488355328)/\(RT.str.sl).V M w q.words vw/\((RT.qy n).sl (bS n)).V M w q.kids vk:=by
 obtain⟨vs,⟨va,vb,rfl,⟨rfl,h1⟩,vc,vd,rfl,⟨_,_,rfl,⟨rfl,h2⟩,⟨rfl,h3⟩⟩,ve,vf,rfl,h4,h5⟩,rfl⟩:=h;obtain⟨a,c,rfl,h6⟩:=h4;obtain⟨a',c',rfl,h7⟩:=h5;exact⟨_,_,G,h1,⟨h2,h3⟩,iX.2 ⟨a,c,G,h6⟩,iX.2 ⟨a',c',G,h7⟩⟩
theorem HG {n:Nat} {M:aE} {w:World} {k:Int} {t:Fd} {ws:List (List UInt8)} {ks:List Qy} {vw vk:Value} (h1: -9223372036854775808<=k/\k<=9223372036854775807) (h2:t.1.length<=140737488355328/\t.2.length<=140737488355328) (h3:(RT.str.sl).V M w ws vw) (h4:((RT.qy n).sl (bS n)).V M w ks vk):
  (RT.qy (n+1)).V M w (.mk k t ws ks) (.agg #[.int .i64 k,.string ⟨t.1.toArray⟩,.string ⟨t.2.toArray⟩,vw,vk]):=by
 obtain⟨a,c,rfl,h5⟩:=iX.1 h3;obtain⟨a',c',rfl,h6⟩:=iX.1 h4;exact⟨_,⟨_,_,G,⟨G,h1⟩,_,_,G,⟨_,_,G,⟨G,h2.1⟩,⟨G,h2.2⟩⟩,_,_,G,⟨a,c,G,h5⟩,⟨a',c',G,h6⟩⟩,G⟩
theorem abk {M:aE} {w:World} {k:Int} {t:Fd} {ws:List (List UInt8)} {vw:Value} (h1: -9223372036854775808<=k/\k<=9223372036854775807) (h2:t.1.length<=140737488355328/\t.2.length<=140737488355328) (h3:(RT.str.sl).V M w ws vw):
  (RT.qy 0).V M w (.mk k t ws []) (.agg #[.int .i64 k,.string ⟨t.1.toArray⟩,.string ⟨t.2.toArray⟩,vw,.slice none 0 0]):=by
 obtain⟨a,c,rfl,h5⟩:=iX.1 h3;exact⟨_,⟨_,_,G,⟨G,h1⟩,_,_,G,⟨_,_,G,⟨G,h2.1⟩,⟨G,h2.2⟩⟩,_,_,G,⟨a,c,G,h5⟩,G,_,_,G⟩,G⟩
theorem EF {n:Nat} {M M':aE} {w w':World} {k:Int} {a b:ByteArray} {ws:List (List UInt8)} {ks:List Qy} {vw vk:Value} (h:(RT.str.sl).V M w ws vw) (h':((RT.qy n).sl (bS n)).V M' w' ks vk):∀u∈[Value.int .i64 k,.string a,.string b,vw,vk],u.oneCell'=true:=by
 intro u hu;simp only[cU,List.not_mem_nil,or_false]at hu;rcases hu with rfl|rfl|rfl|rfl|rfl
 ·rfl
 ·rfl
 ·rfl
 ·exact jL h G G
 ·exact jL h' G G
section
variable {P:Program} {r:Option Nat} {n:Nat} {L:Sl} {ds:List Deferred} {w:World} {K:Kt} {ops:Array Oper} {rest:List Oper} {d:Nat} {x y z:Operand} {ty:TypeId} {pos:String} {af:Array Edge} {M:aE} {b clock:Nat} {es:List MapEntry} {kt:TypeId}
theorem pX {k:Int} (hk:P.underlying kt=some (.int .i64)) (e:Bool) (w:World):(Instr.checkKey e 10000 kt (.int .i64 k)).run P w= .ok () w:=by
 rw[show(10000:Nat)=9999+1 from rfl,Instr.checkKey,cB,run_underlying hk w];rfl
theorem rH {k:Int} (hk:P.underlying kt=some (.int .i64)) {o:Option (Nat×Value)} (h:Instr.findNow (.int .i64) (.int .i64 k) es 0=some o) (w:World):(Instr.findKey kt (.int .i64 k) es).run P w= .ok o w:=by
 unfold Instr.findKey;rw[cB,run_underlying hk w];simp only[cW,h,nc]
theorem Rg.wx {t e:TypeId} {k:Int} {v:Value} (ht:P.underlying t=some (.map kt e)) (hk:P.underlying kt=some (.int .i64)) (hx:ev L x=some (.map (some b))) (hy:ev L y=some (.int .i64 k)) (hz:ev L z=some v) (hb:w.heap[b]? =some (.map es.toArray clock)) (hf:Instr.findNow (.int .i64) (.int .i64 k) es 0=some none) (hm:M b)
  (c:∀w',w'.heap[b]? =some (.map (es++([⟨.int .i64 k,v,clock⟩]:List MapEntry)).toArray (clock+1))->Step M w M w' (λq=>q=b)->Rg P r n ops rest L ds w' K):
  Rg P r n ops ({dst:=none,op:= .insert t x y z,type:=ty,pos,after:=af,guard:=none}::rest) L ds w K:=by
 have eZ:=ae hb;refine .Wn a06 rfl rfl {w with heap:=w.heap.setIfInBounds b (.map (es.toArray.push ⟨.int .i64 k,v,clock⟩) (clock+1))} (λρ hρ=>?_) (c _ (by simp[dD,eZ]) (iU M hm));simp only[execOp,hρ x _ hx,hρ y _ hy,hρ z _ hz,Instr.mapUpdate,cB,run_underlying ht,cW,dM hb,pX hk,rH hk hf,run_setObj_map hb];simp
theorem Rg.V3 {t e:TypeId} {k:Int} {zv v:Value} {size bytes:Nat} {o:Option (Nat×Value)} (ht:P.underlying t=some (.map kt e)) (hk:P.underlying kt=some (.int .i64)) (hi:TI P e zv size bytes) (hx:ev L x=some (.map (some b))) (hy:ev L y=some (.int .i64 k)) (hd:Nat.blt d n=true) (hb:w.heap[b]? =some (.map es.toArray clock)) (hf:Instr.findNow (.int .i64) (.int .i64 k) es 0=some o)
  (hv:v=(o.map Prod.snd).getD zv)
  (c:Rg P r n ops rest ((d,.tuple #[v,.bool o.isSome])::L) ds w K):
  Rg P r n ops ({dst:=some d,op:= .lookup t x y true,type:=ty,pos,after:=af,guard:=none}::rest) L ds w K:=by
 obtain⟨inf,i1,i2,_,_⟩:=hi.get;have hz:(zeroValue e).run P w= .ok zv w:=by simp[zeroValue,typeInfo,i1,i2]
 refine .op a06 G G hd _ w (λρ hρ=>?_) c
 cases o with
 |none=>
  simp only[execOp,hρ x _ hx,hρ y _ hy,Instr.lookup,cB,run_underlying ht,cW,dM hb,nc,pX hk,rH hk hf,hz];simp[hv]
 |some p=>
  simp only[execOp,hρ x _ hx,hρ y _ hy,Instr.lookup,cB,run_underlying ht,cW,dM hb,nc,pX hk,rH hk hf];simp[hv]
end
def gD (f:En->Option Int):Nat->List En->List Fo
 |_,[]=>[]
 |i,e::L=>match f e with
  |some s=>((i:Int),s)::gD f (i+1) L
  |none=>gD f (i+1) L
theorem zo {f:En->Option Int} {p:Fo}:∀{L:List En} {i:Nat},p∈gD f i L↔∃(d:Nat) (e:En),L[d]? =some e/\p.1=((i+d:Nat):Int)/\f e=some p.2
 |[],i=>by simp[gD]
 |e::L,i=>by
  have key:p∈gD f i (e::L)↔(p.1=(i:Int)/\f e=some p.2)\/p∈gD f (i+1) L:=by
   rw[gD]
   cases he:f e with
   |none=>simp
   |some s=>
    rw[cU];constructor
    ·rintro(h|h)
     ·exact .inl ⟨by rw[h],by rw[h]⟩
     ·exact .inr h
    ·rintro(⟨h1,h2⟩|h)
     ·exact .inl (Prod.ext h1 (by simpa using h2.symm))
     ·exact .inr h
  rw[key,zo (L:=L)];constructor
  ·rintro(⟨h1,h2⟩|⟨d,x,h1,h2,h3⟩)
   ·exact⟨0,e,G,h1,h2⟩
   ·exact⟨d+1,x,by simpa using h1,by rw[h2];congr 1;omega,h3⟩
  ·rintro⟨d,x,h1,h2,h3⟩
   cases d with
   |zero=>simp at h1;subst h1;exact .inl ⟨h2,h3⟩
   |succ d=>exact .inr ⟨d,x,by simpa using h1,by rw[h2];congr 1;omega,h3⟩
theorem rZ {f:En->Option Int} {L:List En} {i:Nat} {p:Fo} (h:p∈gD f i L):(i:Int)<=p.1/\p.1<i+L.length:=by
 obtain⟨d,e,h1,h2,_⟩:=zo.1 h;have:=(al.1 h1).1;omega
theorem Sv {f:En->Option Int}:∀(L:List En) (i:Nat),(gD f i L).Pairwise λa b=>a.1<b.1
 |[],_=>List.Pairwise.nil
 |e::L,i=>by
  rw[gD]
  split
  ·refine eV.2 ⟨λp hp=>?_,Sv L (i+1)⟩;have:=rZ hp;simp only;omega
  ·exact Sv L (i+1)
theorem lp {f:En->Option Int}:∀(L:List En) (i:Nat),(gD f i L).length<=L.length
 |[],_=>aX _
 |e::L,i=>by
  have:=lp (f:=f) L (i+1);rw[gD]
  split<;>simp only[cy]<;>omega
theorem k9 {f g:En->Option Int}:∀{L:List En} {i:Nat},(∀e∈L,f e=g e)->gD f i L=gD g i L
 |[],_,_=>rfl
 |e::L,i,h=>by rw[gD,gD,h e (bK ..),k9 (L:=L) λx hx=>h x (cz _ hx)]
def Bi (f:En->Option Int) (i:Nat) (e:En):List Fo:=match f e with
 |some s=>[((i:Int),s)]
 |none=>[]
theorem uC {f:En->Option Int} {e:En}:∀(L:List En) (i:Nat),gD f i (L++[e])=gD f i L++Bi f (i+L.length) e
 |[],i=>by
  show gD f i [e]=[]++_;rw[gD,gD,Bi];cases f e<;>simp
 |x::L,i=>by
  rw[ov,gD,gD,uC L (i+1),show i+1+L.length=i+(x::L).length by simp only[cy];omega]
  cases f x<;>simp
theorem o5 {f:En->Option Int} {L:List En} {i:Nat} {e:En} (h:L[i]? =some e):gD f 0 (L.take (i+1))=gD f 0 (L.take i)++Bi f i e:=by
 have hi:=(al.1 h).1;rw[bQ,h,cH,uC,bF,zt (Nat.le_of_lt hi),Nat.zero_add]
theorem ag7 {l:List Fo} {x i:Int} (h:∀p∈l,i<=p.1) (hx:i<=x):i<=mn l x:=by
 unfold mn
 cases l with
 |nil=>exact hx
 |cons p l=>have:=h p (bK ..);simp only;omega
theorem LB {l:List Fo} {x:Int} (h:∀p∈l,x<=p.1):mn l x=x:=by
 unfold mn
 cases l with
 |nil=>rfl
 |cons p l=>have:=h p (bK ..);simp only;omega
theorem Sw {l:List Fo} {x:Int} (h:∀p∈l,x<p.1):hit l x=false:=by
 unfold hit
 cases l with
 |nil=>rfl
 |cons p l=>have:=h p (bK ..);simp only[decide_eq_false_iff_not];omega
theorem LC {l:List Fo} {x:Int} (h:hit l x=false):gj l x=l:=by unfold gj;rw[h];rfl
theorem zq {x:Int} (h:0<=x/\x<=9223372036854775807):IntKind.i64.wrap x=x:=by
 show(if(true&&decide (x%18446744073709551616>=9223372036854775808))=true then x%18446744073709551616-18446744073709551616 else x%18446744073709551616)=x;rw[Int.emod_eq_of_lt h.1 q0,if_neg a13]
def Sx (a b:Option Int):Option Int:=match a,b with
 |some x,some y=>some (x+y)
 |_,_=>none
def orO (a b:Option Int):Option Int:=match a,b with
 |none,none=>none
 |a,b=>some (a.getD 0+b.getD 0)
def nM (least:Int) (a b:Option Int):Option Int:=if least<=1 then orO a b else Sx a b
theorem LD {least:Int} (hl:least=1\/least=2) {f g:En->Option Int}:∀(L:List En) (i:Nat),i+L.length<=2147483648->(∀e∈L,∀s,(f e=some s\/g e=some s)->0<=s/\s<=4611686018427387903)->H3 least (gD f i L) (gD g i L)=gD (λe=>nM least (f e) (g e)) i L
 |[],i,_,_=>rfl
 |e::L,i,hi,hb=>by
  have ih:=LD hl (f:=f) (g:=g) L (i+1) (by simp only[cy]at hi;omega) λx hx=>hb x (cz _ hx)
  simp only[cy]at hi;have ra:∀p∈gD f (i+1) L,(i:Int)<p.1:=λp hp=>by have:=rZ hp;omega
  have rb:∀p∈gD g (i+1) L,(i:Int)<p.1:=λp hp=>by have:=rZ hp;omega
  have oa:uI (gD f (i+1) L):=λp hp=>by have:=rZ hp;omega
  have ob:uI (gD g (i+1) L):=λp hp=>by have:=rZ hp;omega
  have hbe:=hb e (bK ..);rw[gD,gD,gD];generalize gD f (i+1) L=a at ih ra oa;generalize gD g (i+1) L=b at ih rb ob
  have ca:∀x:Int,uI (((i:Int),x)::a):=λx p hp=>by
   rcases cU.1 hp with rfl|hp
   ·simp only;omega
   ·exact oa p hp
  have cb:∀x:Int,uI (((i:Int),x)::b):=λx p hp=>by
   rcases cU.1 hp with rfl|hp
   ·simp only;omega
   ·exact ob p hp
  have la:=λx hx=>ag7 (l:=a) (x:=x) (i:=(i:Int)) (λp hp=>by have:=ra p hp;omega) hx
  have na:=Sw ra;have nb:=Sw rb;have h0:mn a (i:Int)=i:=LB λp hp=>by have:=ra p hp;omega
  have h1:mn b (i:Int)=i:=LB λp hp=>by have:=rb p hp;omega
  have hc:∀(x:Int) (l:List Fo),hit (((i:Int),x)::l) i=true:=λx l=>by simp[hit]
  have hr:∀(x:Int) (l:List Fo),gj (((i:Int),x)::l) i=l:=λx l=>by unfold gj;rw[hc];rfl
  have m0:min (2147483648:Int) (i:Int)=i:=by omega
  cases hf:f e with
  |none=>
   cases hg:g e with
   |none=>
    have:nM least none none=none:=by unfold nM;split<;>rfl
    simp only[this];exact ih
   |some y=>
    have hy:=hbe y (.inr hg)
    have hx:jv a (((i:Int),y)::b)=i:=by
     show min (mn a 2147483648) (i:Int)=i;have:=la 2147483648 q0;omega
    have hm:sV a (((i:Int),y)::b) 2=1:=by simp[sV,oM,hx,na,hc]
    have hs:sY a (((i:Int),y)::b) 2=y:=by
     simp only[sY,oL,hx,na,hc];simp;exact zq q0
    show H3 least a (((i:Int),y)::b)=_;rw[vh oa (cb y) (.inr (by simp)),hx,hm,hs,LC na,hr,ih];rcases hl with rfl|rfl
    ·simp[nM,orO]
    ·simp[nM,Sx]
  |some x=>
   have P1:=hbe x (.inl hf)
   cases hg:g e with
   |none=>
    have hx:jv (((i:Int),x)::a) b=i:=by
     show mn b (min 2147483648 (i:Int))=i;rw[m0,h1]
    have hm:sV (((i:Int),x)::a) b 2=1:=by simp[sV,oM,hx,nb,hc]
    have hs:sY (((i:Int),x)::a) b 2=x:=by
     simp only[sY,oL,hx,nb,hc];simp;exact zq q0
    show H3 least (((i:Int),x)::a) b=_;rw[vh (ca x) ob (.inl (by simp)),hx,hm,hs,LC nb,hr,ih];rcases hl with rfl|rfl
    ·simp[nM,orO]
    ·simp[nM,Sx]
   |some y=>
    have hy:=hbe y (.inr hg)
    have hx:jv (((i:Int),x)::a) (((i:Int),y)::b)=i:=by
     show min (min 2147483648 (i:Int)) (i:Int)=i;omega
    have hm:sV (((i:Int),x)::a) (((i:Int),y)::b) 2=2:=by simp[sV,oM,hx,hc]
    have hs:sY (((i:Int),x)::a) (((i:Int),y)::b) 2=x+y:=by
     simp only[sY,oL,hx,hc];simp;rw[zq (x:=x) q0,zq q0]
    show H3 least (((i:Int),x)::a) (((i:Int),y)::b)=_;rw[vh (ca x) (cb y) (.inl (by simp)),hx,hm,hs,hr,hr,ih];rcases hl with rfl|rfl
    ·simp[nM,orO]
    ·simp[nM,Sx]
def Sy (a:Option Int):Option Int:=match a with
 |some _=>none
 |none=>some 0
theorem Sz {f:En->Option Int} {L:List En} {d:Nat} {e:En} (h:L[d]? =some e):tW (gD f 0 L) (d:Int)=(f e).isSome:=by
 rw[jh];unfold tW;rw[ou];constructor
 ·rintro⟨p,hp,hd⟩;obtain⟨d',x,h1,h2,h3⟩:=zo.1 hp;have hd:p.1=(d:Int):=by simpa using hd
  obtain rfl:d'=d:=by omega
  rw[h]at h1;cases h1;rw[h3];rfl
 ·intro hs;obtain⟨s,hs⟩:=Option.isSome_iff_exists.1 hs;exact⟨((d:Int),s),zo.2 ⟨d,e,h,by simp,hs⟩,by simp⟩
theorem Dm {f:En->Option Int} {L:List En}:∀k,k<=L.length->qY (gD f 0 L) k=gD (λe=>Sy (f e)) 0 (L.take k)
 |0,_=>by simp[qY,gD]
 |k+1,hk=>by
  obtain⟨e,he⟩:∃e,L[k]? =some e:=⟨_,an q0⟩;have ih:=Dm (f:=f) (L:=L) k q0;rw[o5 he,<-ih];unfold qY;rw[List.range_succ,fp,ed];congr 1;rw[List.filter_cons,Sz he,Bi]
  cases f e<;>simp[Sy]
theorem SB {f:En->Option Int} {L:List En}:qY (gD f 0 L) L.length=gD (λe=>Sy (f e)) 0 L:=by
 rw[Dm _ (aX _),bg (aX _)]
theorem pY (ws:List (List UInt8)) (x:List UInt8):iM ws x=((List.range ws.length).filter λi=>decide (ws[i]? =some x)).map fun(i:Nat)=>(i:Int):=by
 have key:∀k,k<=ws.length->iM (ws.take k) x=((List.range k).filter λi=>decide (ws[i]? =some x)).map fun(i:Nat)=>(i:Int):=by
  intro k
  induction k with
  |zero=>intro _;simp[iM]
  |succ k ih=>
   intro hk;obtain⟨y,hy⟩:∃y,ws[k]? =some y:=⟨_,an q0⟩;rw[x7 hy,ih q0,List.range_succ,fp,ed];by_cases e:y=x
   ·subst e;rw[if_pos rfl];simp[List.filter,hy]
   ·rw[if_neg e];simp[hy,e]
 have:=key ws.length (aX _)
 rwa [bg (aX _)]at this
theorem HH {ws:List (List UInt8)} {x:List UInt8} {i:Nat}:(iM ws x).contains (i:Int)=decide (ws[i]? =some x):=by
 rw[jh,fJ,pY,decide_eq_true_iff];constructor
 ·intro h;obtain⟨j,hj,e⟩:=cu.1 h;have:=(fy.1 hj).2;obtain rfl:j=i:=by omega
  simpa using this
 ·intro h;exact cu.2 ⟨i,fy.2 ⟨List.mem_range.2 (al.1 h).1,by simpa using h⟩,rfl⟩
def SC (ws xs:List (List UInt8)) (n:Nat):Nat:=((List.range n).filter λi=>decide ((ws.drop i).take xs.length=xs)).length
def x8 (ws xs:List (List UInt8)):Nat:=if xs=[]then 0 else SC ws xs ws.length
theorem V4 (ws xs:List (List UInt8)) (n:Nat):SC ws xs n<=n:=by
 unfold SC;exact ep (fI _ _) (by simp)
theorem LF (ws xs:List (List UInt8)):x8 ws xs<=ws.length:=by
 unfold x8;split
 ·exact bm _
 ·exact V4 _ _ _
theorem abl {ws:List (List UInt8)} {x:List UInt8} {tl:List (List UInt8)} {i:Nat}:(ws.drop i).take (x::tl).length=x::tl↔ws[i]? =some x/\∀k,k<tl.length->ws[i+1+k]? =tl[k]? :=by
 have hg:∀j,j<(x::tl).length->((ws.drop i).take (x::tl).length)[j]? =ws[i+j]? :=λj hj=>by rw[dE,if_pos hj,lF]
 constructor
 ·intro h;refine⟨?_,λk hk=>?_⟩
  ·have:=hg 0 (by simp);rw[h]at this;simpa using this.symm
  ·have:=hg (k+1) (by simpa using hk);rw[h]at this;rw[show i+1+k=i+(k+1) by omega,<-this];simp
 ·rintro⟨h1,h2⟩;apply kn;intro j;rcases cL j (x::tl).length with hj|hj
  ·rw[hg j hj]
   cases j with
   |zero=>simpa using h1
   |succ j=>rw[show i+(j+1)=i+1+j by omega,h2 j a98];simp
  ·rw[dr hj,dr (by rw[bF];omega)]
theorem SD {ws:List (List UInt8)} {tl:List (List UInt8)} {i:Nat}:R4 (tl.map (iM ws)) (i:Int) (tl.map (iM ws)).length=true↔∀k,k<tl.length->ws[i+1+k]? =tl[k]? :=by
 unfold R4;rw[eA,bT];constructor
 ·intro h k hk;have:=h k (List.mem_range.2 hk);have qo:tl[k]? =some tl[k]:=an hk;rw[bY,cD,qo,show(i:Int)+1+(k:Int)=((i+1+k:Nat):Int) by omega]at this;simp only[dq,ot]at this;rw[HH,decide_eq_true_iff]at this;rw[qo];exact this
 ·intro h k hk;have hk:=List.mem_range.1 hk;have qo:tl[k]? =some tl[k]:=an hk;rw[bY,cD,qo,show(i:Int)+1+(k:Int)=((i+1+k:Nat):Int) by omega];simp only[dq,ot];rw[HH,decide_eq_true_iff,h k hk,qo]
theorem SE (ws:List (List UInt8)) (x:List UInt8) (tl:List (List UInt8)):R5 ((x::tl).map (iM ws))=x8 ws (x::tl):=by
 rw[dC];show Cm _ _ _=_;unfold x8 Cm SC;rw[if_neg (by simp),bg (aX _)]
 conv=>lhs;rw[pY ws x]
 rw[List.filter_map,bT,List.filter_filter];congr 1;refine List.filter_congr λi _=> ?_
 rw[jh];simp only[Function.comp,cp,decide_eq_true_iff];rw[SD,abl];exact⟨λh=>⟨h.2,h.1⟩,λh=>⟨h.2,h.1⟩⟩
def y9 (n:Nat):Option Int:=if 0<n then some (n:Int)else none
def qD (l:List (Option Int)):Int:=(l.map λo=>o.getD 0).sum
mutual
def fG (fs:List Fd):Qy->Option Int
 |.mk k t ws ks=>
  if k=1 then y9 (iM (dd fs t.1) t.2).length
  else if k=5 then y9 (x8 (dd fs t.1) ws)
  else if k=2 then(if(wy fs ks).all Option.isSome=true then some (qD (wy fs ks))else none)
  else if k=3 then(if(wy fs ks).any Option.isSome=true then some (qD (wy fs ks))else none)
  else(if(wy fs ks).any Option.isSome=true then none else some 0)
def wy (fs:List Fd):List Qy->List (Option Int)
 |[]=>[]
 |q::ks=>fG fs q::wy fs ks
end
theorem Bj (fs:List Fd):∀ks,wy fs ks=ks.map (fG fs)
 |[]=>by rw[wy];rfl
 |q::ks=>by rw[wy,Bj fs ks];rfl
def fg (w:List UInt8):Bool:=decide (words w=[w]/\w.length<=30)
def kM (k:Int) (t:Fd) (ws:List (List UInt8)) (n:Nat):Int:=
 if k<1\/5<k then 9
 else if 2<=k/\k<=4 then(if¬t=([],[])\/¬ws=[]\/n=0 then 9 else if 8<n\/(k=4/\1<n)then 7 else 0)
 else if 0<n\/(k=1/\¬ws=[])\/(k=5/\¬t.2=[])then 9
 else if fe t.1=false then 4
 else if k=1 then(if fg t.2=true then 0 else 9)
 else if ws=[]then 9 else if ws.all fg=false then 9 else if 6<ws.length then 7 else 0
mutual
def jK:Qy->Nat->Int
 |.mk k t ws ks,deep=>if 6<deep then 8 else if¬kM k t ws ks.length=0 then kM k t ws ks.length else wC ks (deep+1)
def wC:List Qy->Nat->Int
 |[],_=>0
 |q::ks,deep=>if¬jK q deep=0 then jK q deep else wC ks deep
end
def HI (k:Int):Int:=1+ao1 k%5
def SF (s:List UInt8):List UInt8:=if fe s=true then s else[116]
def ag9 (t:Fd):Qy:= .mk 1 (SF t.1,if fg t.2=true then t.2 else[97]) [] []
def SG (ws:List (List UInt8)):List (List UInt8):=(ws.take 3).filter fg
mutual
def XG:Qy->Nat->Qy
 |.mk k t ws ks,deep=>
  if(2<=HI k/\HI k<=4)/\deep<4/\¬ks=[]then .mk (HI k) ([],[]) [] ((Bk ks (deep+1)).take (if HI k=4 then 1 else 3))
  else if HI k=5/\¬SG ws=[]then .mk 5 (SF t.1,[]) (SG ws) []
  else ag9 t
def Bk:List Qy->Nat->List Qy
 |[],_=>[]
 |q::ks,deep=>XG q deep::Bk ks deep
end
theorem Kb:∀(ks:List Qy) (deep:Nat),Bk ks deep=ks.map λq=>XG q deep
 |[],_=>by rw[Bk];rfl
 |q::ks,deep=>by rw[Bk,Kb ks deep];rfl
theorem Bm:∀{ks:List Qy} {deep:Nat},wC ks deep=0↔∀q∈ks,jK q deep=0
 |[],_=>by rw[wC];simp
 |q::ks,deep=>by
  rw[wC,List.forall_mem_cons,<-Bm (ks:=ks)];by_cases h:jK q deep=0
  ·rw[if_neg (λh'=>h' h)];simp[h]
  ·rw[if_pos h];simp[h]
theorem EG {k:Int} {t:Fd} {ws:List (List UInt8)} {ks:List Qy} {deep:Nat}:jK (.mk k t ws ks) deep=0↔deep<=6/\kM k t ws ks.length=0/\∀q∈ks,jK q (deep+1)=0:=by
 rw[jK,<-Bm];by_cases h:6<deep
 ·rw[if_pos h];constructor
  ·intro h';cases h'
  ·rintro⟨h',_⟩;omega
 ·rw[if_neg h];by_cases h2:kM k t ws ks.length=0
  ·rw[if_neg (λh'=>h' h2)];exact⟨λh3=>⟨by omega,h2,h3⟩,λh3=>h3.2.2⟩
  ·rw[if_pos h2];exact⟨λh3=>absurd h3 h2,λh3=>h3.2.1⟩
theorem Bn {k:Int} {t:Fd} {ws:List (List UInt8)} {n:Nat} (h:kM k t ws n=0):(k=1/\n=0/\fe t.1=true/\fg t.2=true)\/(k=5/\n=0/\fe t.1=true/\¬ws=[]/\ws.all fg=true/\ws.length<=6)\/((k=2\/k=3)/\0<n/\n<=8)\/(k=4/\n=1):=by
 unfold kM at h;by_cases h1:k<1\/5<k
 ·rw[if_pos h1]at h;cases h
 rw[if_neg h1]at h;by_cases h2:2<=k/\k<=4
 ·rw[if_pos h2]at h;by_cases h3: ¬t=([],[])\/¬ws=[]\/n=0
  ·rw[if_pos h3]at h;cases h
  rw[if_neg h3]at h;by_cases h4:8<n\/(k=4/\1<n)
  ·rw[if_pos h4]at h;cases h
  have h5: ¬n=0:=λe=>h3 (.inr (.inr e))
  by_cases h6:k=4
  ·exact .inr (.inr (.inr ⟨h6,by omega⟩))
  ·exact .inr (.inr (.inl ⟨by omega,by omega,by omega⟩))
 ·rw[if_neg h2]at h;by_cases h3:0<n\/(k=1/\¬ws=[])\/(k=5/\¬t.2=[])
  ·rw[if_pos h3]at h;cases h
  rw[if_neg h3]at h
  have hn:n=0:=by
   rcases Nat.eq_zero_or_pos n with h4|h4
   ·exact h4
   ·exact absurd (.inl h4) h3
  cases h4:fe t.1 with
  |false=>rw[if_pos h4]at h;cases h
  |true=>
   rw[if_neg (by rw[h4];decide)]at h;by_cases h5:k=1
   ·rw[if_pos h5]at h;by_cases h6:fg t.2=true
    ·exact .inl ⟨h5,hn,G,h6⟩
    ·rw[if_neg h6]at h;cases h
   ·rw[if_neg h5]at h;by_cases h6:ws=[]
    ·rw[if_pos h6]at h;cases h
    rw[if_neg h6]at h;by_cases h7:ws.all fg=false
    ·rw[if_pos h7]at h;cases h
    rw[if_neg h7]at h;by_cases h8:6<ws.length
    ·rw[if_pos h8]at h;cases h
    exact .inr (.inl ⟨by omega,hn,rfl,h6,by simpa using h7,by omega⟩)
def uD (deep:Nat):Int:=500*8^(7-deep)
theorem HJ {l:List (Option Int)} {B:Int} (hB:0<=B) (h:∀o∈l,∀s,o=some s->0<=s/\s<=B):0<=qD l/\qD l<=l.length*B:=by
 unfold qD
 induction l with
 |nil=>simp
 |cons o l ih=>
  obtain⟨h1,h2⟩:=ih λx hx=>h x (cz _ hx)
  have h3:0<=o.getD 0/\o.getD 0<=B:=by
   cases o with
   |none=>exact⟨nP _,hB⟩
   |some s=>exact h _ (bK ..) s rfl
  have h4:((o::l).length:Int)*B=l.length*B+B:=by
   simp only[cy];rw[show((l.length+1:Nat):Int)=(l.length:Int)+1 by omega,Int.add_mul,Int.one_mul]
  rw[dC,List.sum_cons,h4];omega
theorem HK (deep:Nat):0<=uD deep:=by unfold uD;exact Int.mul_nonneg XT (Int.pow_nonneg XT)
theorem NM {deep:Nat} (h:deep<=6):uD deep=8*uD (deep+1):=by
 unfold uD;obtain⟨n,hn⟩:∃n,7-deep=n+1:=⟨7-deep-1,by omega⟩;rw[show 7-(deep+1)=n by omega,hn,Int.pow_succ];omega
theorem Kc {deep:Nat}:500<=uD deep:=by
 unfold uD;have:(0:Int)<8^(7-deep):=Int.pow_pos XT;omega
theorem NN {deep:Nat} (h:1<=deep):uD deep<=131072000:=by
 unfold uD;have:deep=1\/deep=2\/deep=3\/deep=4\/deep=5\/deep=6\/7<=deep:=by omega
 rcases this with rfl|rfl|rfl|rfl|rfl|rfl|h
 all_goals try decide
 rw[show 7-deep=0 by omega];decide
mutual
theorem Bo (fs:List Fd) (hw:∀k,(dd fs k).length<=500):∀(q:Qy) (deep:Nat),jK q deep=0->∀s,fG fs q=some s->0<=s/\s<=uD deep
 |.mk k t ws ks,deep,hm,s,hs=>by
  obtain⟨h1,h2,h3⟩:=EG.1 hm;have hc:=Kc (deep:=deep);have h4:=HL fs hw ks (deep+1) h3;have h5:(wy fs ks).length=ks.length:=by rw[Bj,bT]
  have Wp:=NM h1;have hcp:=HK (deep+1);have h6:=HJ hcp h4;rw[fG]at hs
  have hcn:∀n:Nat,n<=500->y9 n=some s->0<=s/\s<=uD deep:=λn hn h=>by
   unfold y9 at h
   split at h
   ·cases h;omega
   ·cases h
  have hk8:(k=2\/k=3)->ks.length<=8:=λhk=>by
   rcases Bn h2 with⟨h,_⟩|⟨h,_⟩|⟨_,_,h⟩|⟨h,_⟩
   ·omega
   ·omega
   ·exact h
   ·omega
  have aha:ks.length<=8->qD (wy fs ks)<=uD deep:=λh=>by
   rw[h5]at h6;have:=Int.mul_le_mul_of_nonneg_right (show(ks.length:Int)<=8 by omega) hcp;omega
  split at hs
  ·exact hcn _ (ep (rG _ _) (hw _)) hs
  ·split at hs
   ·exact hcn _ (ep (LF _ _) (hw _)) hs
   ·split at hs
    ·rename_i hk
     split at hs
     ·cases hs;exact⟨h6.1,aha (hk8 (.inl hk))⟩
     ·cases hs
    ·split at hs
     ·rename_i hk
      split at hs
      ·cases hs;exact⟨h6.1,aha (hk8 (.inr hk))⟩
      ·cases hs
     ·split at hs
      ·cases hs
      ·cases hs;omega
theorem HL (fs:List Fd) (hw:∀k,(dd fs k).length<=500):∀(ks:List Qy) (deep:Nat),(∀q∈ks,jK q deep=0)->∀o∈wy fs ks,∀s,o=some s->0<=s/\s<=uD deep
 |[],_,_,o,ho,_,_=>by rw[wy]at ho;cases ho
 |q::ks,deep,hm,o,ho,s,hs=>by
  rw[wy]at ho;rcases cU.1 ho with h|h
  ·exact Bo fs hw q deep (hm q (bK ..)) s (by rw[<-h];exact hs)
  ·exact HL fs hw ks deep (λx hx=>hm x (cz _ hx)) o h s hs
end
theorem w97:fg [97]=true:=by
 unfold fg;rw[decide_eq_true_iff];refine⟨?_,by decide⟩;have:=Sc;simpa using this
theorem Dn {d:Dc} (h:iQ d) (i:Nat) (t:Fd):Ei i (cF d.2) (cN t)=if 0<(iM (dd d.2 t.1) t.2).length then[((i:Int),iM (dd d.2 t.1) t.2)]else[]:=by
 have hp:=HD h i t;rcases vN h i (cN t)with h1|⟨u,hu,hk,h1⟩
 ·rw[h1,if_neg (λhn=>(hp.2 hn) h1)]
 ·rw[h1,if_pos (hp.1 (by rw[h1];simp))];have L3:=(jg h.K7).1 hu;obtain⟨f,hf,hf1,hf2⟩:=uB.1 L3;have e:u=t:=HB (by obtain⟨p,hp,rfl⟩:=cu.1 L3;exact h.K7 p hp) (HA _ _ hf2) hk;rw[e,Su h.once]
def HM (t:Fd) (e:En):Option Int:=y9 (iM (dd e.1.2 t.1) t.2).length
theorem SH (t:Fd):∀(L:List En) (i:Nat),(∀e∈L,iQ e.1)->(BJ (cN t) i L).map (λp=>((p.1:Int),((p.2.length:Nat):Int)))=gD (HM t) i L
 |[],_,_=>rfl
 |e::L,i,hF=>by
  show(Ei i (cF e.1.2) (cN t)++BJ (cN t) (i+1) L).map _=_;rw[ed,Dn (hF e (by simp)) i t,SH t L (i+1) (λe' he=>hF e' (by simp[he])),gD,HM,y9];by_cases h:0<(iM (dd e.1.2 t.1) t.2).length
  ·rw[if_pos h,if_pos h];rfl
  ·rw[if_neg h,if_neg h];rfl
theorem SI {L:List En} (hF:∀e∈L,iQ e.1) {t:Fd} {p:Po}:p∈pk L (cN t)↔∃(d:Nat) (e:En),L[d]? =some e/\p=((d:Int),iM (dd e.1.2 t.1) t.2)/\0<(iM (dd e.1.2 t.1) t.2).length:=by
 have key:∀(L:List En) (i:Nat),(∀e∈L,iQ e.1)->(p∈BJ (cN t) i L↔∃(d:Nat) (e:En),L[d]? =some e/\p=(((i+d:Nat):Int),iM (dd e.1.2 t.1) t.2)/\0<(iM (dd e.1.2 t.1) t.2).length):=by
  intro L
  induction L with
  |nil=>intro i _;simp[BJ]
  |cons e L ih=>
   intro i hF;show p∈Ei i (cF e.1.2) (cN t)++BJ (cN t) (i+1) L↔_;rw[dN,ih (i+1) (λx hx=>hF x (cz _ hx)),Dn (hF e (bK ..)) i t];constructor
   ·rintro(h|⟨d,x,h1,h2,h3⟩)
    ·split at h
     ·rename_i hc
      exact⟨0,e,rfl,by simpa using h,hc⟩
     ·cases h
    ·exact⟨d+1,x,by simpa using h1,by rw[h2];congr 2;omega,h3⟩
   ·rintro⟨d,x,h1,h2,h3⟩
    cases d with
    |zero=>simp at h1;subst h1;exact .inl (by rw[if_pos h3,h2];simp)
    |succ d=>exact .inr ⟨d,x,by simpa using h1,by rw[h2];congr 2;omega,h3⟩
 have:=key L 0 hF;simpa[pk]using this
theorem yI {d:Dc} (h:iQ d) (k:List UInt8):(dd d.2 k).length<=500:=by
 unfold dd
 split
 ·rename_i f hf
  have hm:=List.mem_of_find?_eq_some hf
  have:(words f.2).length<=(cF d.2).length:=by
   obtain⟨i,hi⟩:=bG.1 hm
   have e:cF d.2=cF (d.2.take i)++(hY f++cF (d.2.drop (i+1))):=by
    obtain⟨h1,h2⟩:=al.1 hi
    have:d.2=d.2.take i++(f::d.2.drop (i+1)):=by
     conv=>lhs;rw[<-List.take_append_drop i d.2,j0 h1,h2]
    conv=>lhs;rw[this]
    unfold cF;rw[List.flatMap_append,tx]
   rw[e,bU,bU];have:(hY f).length=(words f.2).length:=by unfold hY;simp
   omega
  have:=h.many;omega
 ·simp
end Go.K
namespace Go.K
open Go.Proofs
namespace TKMTerm
theorem lR:TI Tryz.prog 45 (.agg #[(.int .i64 0),(.int .i64 0)]) 2 16:=by unfold TI;kernel_rfl
theorem R3:placesOf Tryz.prog 45=[(0,1),(1,1)].map some:=by kernel_rfl
theorem RJ:Enters Tryz.prog 163:=enters Tryz.func163 rfl XT
theorem Ex:Enters Tryz.prog 164:=enters Tryz.func164 rfl XT
theorem ao2:Enters Tryz.prog 165:=enters Tryz.func165 rfl XT
end TKMTerm
open TKMTerm
set_option maxRecDepth 10000
theorem Kd {M:aE} {L:List En} {t:Fd} {v0:Value} (w0:World) (hM:Lt M w0) (hs:cG RT.se M w0 v0 (uM (gQ L))) (fN:vW (-1) L=true) (hn:L.length<=100000) (h1:t.1.length<=140737488355328) (h2:t.2.length<=140737488355328):
  Spec Tryz.prog 105 #[v0,kv t] w0 (λv w=>∃M',Lt M' w/\Step M w0 M' w ar/\Own RT.fo 45 M' w w0.heap.size v (gD (HM t) 0 L)):=by
 have iz:=hM;have hF:=kK fN;have uN:=JT hF q0 (cN t);have yo:(pk L (cN t)).length<=1099511627776:=uN.ln;have hPF:((pk L (cN t)).map λp=>(p.1,((p.2.length:Nat):Int)))=gD (HM t) 0 L:=SH t L 0 hF;refine aS (args:=[_,_]) (fn:=Tryz.f105) Tryz.func105 G (n:=25) Tryz.ntmps105 ?_;have S:Step M w0 M w0 ar:=aV;refine T.aO ?_;refine gR (A:=RT.fd) G G hM (D9 h1 h2) G (λu3 w1 lE sb _=>?_);replace hs:=hs.le XT sb.le;replace hM:=sb.lt hM;have:=S.size;replace S:=S.av sb;refine Rg.aZ G G (T.aO (Rg.aZ G G (T.aO (ab G G ?_))));refine bZ (A:=RT.fd) bR G nE XT G G G lE b4 (λv21 abm=>?_);obtain rfl:=j9 abm;refine aJ rfl rfl RJ (pT (ls:=(keysOf L).map (pk L)) (t:=t) _ hM hs (nH L) rfl (by rw[bT];rfl) h1 h2) (λr22 w22 hc=>?_);obtain⟨bc,rfl,hz,zm,hC⟩:=hc;have hz0:=S.size;generalize ins M bc=Mc at zm hC;replace hC:Cu 323 (pk L (cN t)) (-1) Mc w22 bc:=by have h:=hC;rw[show qA (uM (gQ L)).2.2.1 ((keysOf L).map (pk L)) (cN t)=(pk L (cN t))from Eu _]at h;exact h
 replace hs:=hs.le XT zm.le;replace lE:=lE.le XT zm.le;replace hM:=zm.lt hM;have:=S.size;replace S:=S.av zm;refine Rg.aZ G G (aI (T.aO (ab G G ?_)));obtain⟨_,_,_,_,_,Dp,_⟩:=id hC;refine aJ G G Ex (k7 hC hM uN.may uN.ps uN.by_ uN.ln) (λr31 w31 hc=>?_);obtain⟨rfl,s31,hC⟩:=hc;have MJ:kL (pk L (cN t)) (-1)=((0:Nat):Int):=by unfold kL;rw[if_pos q0];omega
 rw[MJ]at hC ⊢;replace S:=S.cq s31 (λb (hb:b=bc)=>by omega);replace hM:=s31.lt hM;refine Rg.aZ G G (aT ?_);refine cR (σ:=Nat×Value) (λq=>[(5,q.2),(6,.pointer (some ⟨bc,0,none⟩)),(7,.int .i64 (eB (pk L (cN t)) (q.1:Int)))]) (λq w=>q.1<=(pk L (cN t)).length/\∃M2,Lt M2 w/\Step M w0 M2 w ar/\Cu 323 (pk L (cN t)) (q.1:Int) M2 w bc/\Own RT.fo 45 M2 w w0.heap.size q.2 (((pk L (cN t)).map λp=>(p.1,((p.2.length:Nat):Int))).take q.1)) (λq=>(pk L (cN t)).length-q.1) (0,.slice none 0 0) a07 ?_ ?_
 ·exact⟨bm _,_,hM,S,hC,eE _ _ _ _ _⟩
 ·clear hM S hC;rintro⟨i,vo⟩ w ⟨hi,M2,hM,S,hC,kx⟩;dsimp only at hi hC kx ⊢;refine aI (T.aO (ab G G (ck G G G (ad ?_))));refine bI G (λc4=>?_) (λc4=>?_)
  ·have sk:i<(pk L (cN t)).length:=Nat.lt_of_not_le λh=>by rw[rO q0]at c4;exact absurd c4 XT
   refine aR (aI (aT (aN ?_)));obtain⟨⟨pd,ps⟩,hgp⟩:∃x,(pk L (cN t))[i]? =some x:=⟨_,an q0⟩;have hdg:=iH hgp;have hdr:=kF uN.may hgp;have hpg:gG (pk L (cN t)) (i:Int)=ps:=by unfold gG;rw[if_neg q0,aq,hgp]
   have ao3:=uN.ps _ (ax hgp);dsimp only at ao3;refine ab G G (ab G G (ab G G ?_));refine aJ G G ao2 (G4 hC uN.may) (λr63 w63 hc=>?_);obtain⟨rfl,rfl⟩:=hc;rw[hpg,hdg];obtain⟨_,_,_,_,_,ayl,_⟩:=id hC;refine dp (places:=[(0,1),(1,1)]) dg lR R3 rfl ⟨_,_,rfl,rfl,_,_,rfl,rfl,rfl⟩ (out:=[_,_]) ⟨0,[_],rfl,rfl,by simp[Value.cells],1,[_],rfl,rfl,by simp[Value.cells],rfl⟩ ?_;refine fm (A:=RT.fo) (hn:=by decide) (M:=M2) a7 lR XT G G hM (Pd q0 q0) (.inl G) (λaym aeu SJ uk=>?_);replace kx:=kx.bD uk;replace hC:=hC.step uk (λh=>h);replace hM:=uk.lt hM;have:=S.size;replace S:=S.av uk;refine dA (M:=M2) (base:=w0.heap.size) a7 lR rfl rfl rfl rfl kx SJ b4 (by rw[bF,bT,eF];omega) (by rw[bF,bT,eF];omega) (S.size) (λao4 ayn ayo ahc V5=>?_);replace SJ:=SJ.le V5.le;replace hC:=hC.step V5 (λh=>by obtain⟨_,_,_,_,_,Dp,_⟩:=id hC;exact kx.fk Dp XT h);replace hM:=V5.lt hM;have:=S.size;replace S:=S.eg V5 kx (aX _);replace kx:=ahc;refine Rg.aZ G G (aN (ab G G ?_));obtain⟨_,_,_,_,_,Dp,_⟩:=id hC;refine aJ G G Ex (k7 hC hM uN.may uN.ps uN.by_ uN.ln) (λr51 w51 hc=>?_);obtain⟨rfl,SL,hC⟩:=hc;have MJ:kL (pk L (cN t)) (i:Int)=((i+1:Nat):Int):=by unfold kL;rw[if_pos q0];omega
   rw[MJ]at hC ⊢;replace kx:=kx.step SL (λc hc (h:c=bc)=>kx.fk Dp XT (h▸hc));replace S:=S.cq SL (λb (hb:b=bc)=>by omega);replace hM:=SL.lt hM;refine Rg.aZ G G ?_;refine⟨G,(i+1,ao4),a07,?_,?_⟩
   ·exact⟨by omega,_,hM,S,hC,by rw[bQ,cD,hgp];exact kx⟩
   ·dsimp only;omega
  ·have sk:(pk L (cN t)).length<=i:=Nat.le_of_not_lt λh=>by have:=(Fu (l:=(pk L (cN t))) uN.may (i:=(i:Int))).2 ⟨by omega,by omega⟩;omega
   refine cE (T.aO (ab G G (Rg.aZ G G (aM (aP G G ⟨_,hM,S,?_⟩)))));rw[bg (by rw[bT];omega),hPF]at kx;exact kx
end Go.K
namespace Go.K
open Go.Proofs
namespace TKMPhr
theorem lR:TI Tryz.prog 45 (.agg #[(.int .i64 0),(.int .i64 0)]) 2 16:=by unfold TI;kernel_rfl
theorem HN:TI Tryz.prog 272 (.pointer none) 1 8:=by unfold TI;kernel_rfl
theorem R3:placesOf Tryz.prog 45=[(0,1),(1,1)].map some:=by kernel_rfl
theorem E54:Enters Tryz.prog 54:=enters Tryz.func54 rfl XT
theorem RJ:Enters Tryz.prog 163:=enters Tryz.func163 rfl XT
theorem Ex:Enters Tryz.prog 164:=enters Tryz.func164 rfl XT
theorem VB:Enters Tryz.prog 166:=enters Tryz.func166 rfl XT
theorem ao5:Enters Tryz.prog 167:=enters Tryz.func167 rfl XT
end TKMPhr
open TKMPhr
set_option maxRecDepth 10000
def sJ (k:List UInt8) (xs:List (List UInt8)) (e:En):Option Int:=y9 (x8 (dd e.1.2 k) xs)
theorem V6 {ws xs:List (List UInt8)} (h:0<x8 ws xs) {x:List UInt8} (hx:x∈xs):0<(iM ws x).length:=by
 unfold x8 at h
 split at h
 ·omega
 ·unfold SC at h;obtain⟨i,hi⟩:=List.length_pos_iff_exists_mem.1 h;have h2:=of_decide_eq_true (fy.1 hi).2;rw[<-h2]at hx;exact Dk.2 (List.mem_of_mem_drop (List.mem_of_mem_take hx))
theorem wF {L:List En} (hF:∀e∈L,iQ e.1) {k:List UInt8} {xs:List (List UInt8)} {i:Nat} {e:En} (h:L[i]? =some e) (hp:sJ k xs e≠none) {x:List UInt8} (hx:x∈xs):((i:Int),iM (dd e.1.2 k) x)∈pk L (cN (k,x)):=by
 have h0:0<x8 (dd e.1.2 k) xs:=by
  unfold sJ y9 at hp
  split at hp
  ·assumption
  ·exact absurd G hp
 exact(SI hF).2 ⟨i,e,h,G,V6 h0 hx⟩
theorem Ke {P:List Po} (hm:eN (-1) P=true) {p:Po} (hp:p∈P) {d:Int} (hd:d<=p.1):eB P (idx P d:Nat)<=p.1:=by
 obtain⟨t,ht⟩:=bG.1 hp;have h1:=DH ht hd;have yn:=(al.1 ht).1;obtain⟨q,hq⟩:∃q,P[idx P d]? =some q:=⟨_,an q0⟩;rw[iH (d:=q.1) (ps:=q.2) hq];rcases cL (idx P d) t with h|h
 ·have:=nD hm hq ht h;omega
 ·have e:idx P d=t:=by omega
  rw[e,ht]at hq;cases hq;exact nP _
theorem SM {P:List Po} (hm:eN (-1) P=true) {p:Po} (hp:p∈P) {i:Nat} {d:Int} {ps:List Int} (hi:P[i]? =some (d,ps)) (hd:d<p.1):eB P ((i+1:Nat):Int)<=p.1:=by
 obtain⟨t,ht⟩:=bG.1 hp;have yn:=(al.1 ht).1
 have hit:i<t:=by
  rcases fh t i with h|h|h
  ·have:=nD hm ht hi h;simp only at this;omega
  ·subst h;rw[hi]at ht;cases ht;simp only at hd;omega
  ·exact h
 obtain⟨q,hq⟩:∃q,P[i+1]? =some q:=⟨_,an q0⟩;rw[iH (d:=q.1) (ps:=q.2) hq];rcases cL (i+1) t with h|h
 ·have:=nD hm hq ht h;omega
 ·have e:i+1=t:=by omega
  rw[e,ht]at hq;cases hq;exact nP _
theorem LG {f:En->Option Int} {L:List En} {m:Nat}:∀n,(∀i e,m<=i->i<m+n->L[i]? =some e->f e=none)->gD f 0 (L.take (m+n))=gD f 0 (L.take m)
 |0,_=>rfl
 |n+1,h=>by
  rw[<-LG n λi e h1 h2=>h i e h1 q0,<-Nat.add_assoc]
  cases hL:L[m+n]? with
  |some e=>rw[o5 hL];unfold Bi;rw[h _ e q0 q0 hL,fS]
  |none=>rw[bQ,hL];simp
theorem wG {f:En->Option Int} {L:List En} {m n:Nat} (hmn:m<=n) (h:∀i e,m<=i->i<n->L[i]? =some e->f e=none):gD f 0 (L.take n)=gD f 0 (L.take m):=by
 obtain⟨c,rfl⟩:∃c,n=m+c:=⟨n-m,by omega⟩;exact LG c h
theorem Dq {m:List Po} {j x:Int} (hj: -1<=j/\j<=m.length) (hx:0<=x) (eZ:∀(t:Nat) p,(t:Int)<j->m[t]? =some p->p.1<x):tS m j x=idx m x:=by
 unfold tS
 split
 ·rename_i h
  rcases eX m j with⟨h0,h1,_⟩|⟨t,d,ps,rfl,ht,h1,_⟩|⟨h0,h1,_⟩
  ·omega
  ·rw[idx_eq (i:=t) (λa ha p hp=>eZ a p q0 hp) (λp hp=>by rw[ht]at hp;cases hp;simp only;omega) q0]
  ·rw[idx_eq (i:=m.length) (λa ha p hp=>eZ a p q0 hp) (λp hp=>by simp at hp) (aX _)];omega
 ·rfl
theorem Bp {m:List Po} {x:Int} (hx:x<=2147483648):x<=eB m (idx m x:Nat):=by
 rcases eX m (idx m x:Nat)with⟨h0,h1,_⟩|⟨t,d,ps,he,ht,h1,_⟩|⟨h0,h1,_⟩
 ·omega
 ·obtain rfl:idx m x=t:=by omega
  have:=zV ht;simp only at this;omega
 ·omega
theorem o6 {P:List Po} (hm:eN (-1) P=true) {i:Int} (hi:0<=i):∃D:Nat,eB P i=(D:Int)/\D<=2147483648:=by
 have h:=xi hm i
 have h0:0<=eB P i:=by
  rcases eX P i with⟨h1,_⟩|⟨j,d,ps,rfl,hx,h2,_⟩|⟨_,h2,_⟩
  ·omega
  ·have:=kF hm hx;omega
  ·omega
 exact⟨(eB P i).toNat,by omega,by omega⟩
theorem XH {L:List En} (hF:∀e∈L,iQ e.1) {t:Fd} {i:Int} {D:Nat} (h:eB (pk L (cN t)) i=(D:Int)) (hD:D<2147483648):∃e,L[D]? =some e/\gG (pk L (cN t)) i=iM (dd e.1.2 t.1) t.2/\∃j:Nat,∃ps,i=j/\(pk L (cN t))[j]? =some ((D:Int),ps):=by
 rcases eX (pk L (cN t)) i with⟨_,h1,_⟩|⟨j,d,ps,rfl,hx,h2,h3⟩|⟨_,h1,_⟩
 ·omega
 ·obtain⟨d',e,h4,h5,_⟩:=(SI hF).1 (ax hx)
  cases h5;have:d'=D:=by omega
  subst this;exact⟨e,h4,h3,j,_,G,hx⟩
 ·omega
theorem Kf {ws:List (List UInt8)} (h:ws.length<=500) (x:List UInt8):Xw (iM ws x):=by
 have hl:=rG ws x;refine⟨?_,?_,by omega⟩
 ·rw[pY];exact eu.2 ((List.pairwise_lt_range.sublist List.filter_sublist).imp λh=>by omega)
 ·rw[pY];intro y hy;obtain⟨i,hi,rfl⟩:=cu.1 hy;have:=List.mem_range.1 (fy.1 hi).1;omega
theorem SN {P:List Po} (hm:eN (-1) P=true):idx P 0=0:=idx_eq (λj h=>absurd h (eL _)) (λp hp=>(kF hm (d:=p.1) (ps:=p.2) hp).1) (bm _)
theorem Bq {P:List Po} (hm:eN (-1) P=true) {i:Nat} {d:Int} {ps:List Int} (hi:P[i]? =some (d,ps)):d<eB P ((i+1:Nat):Int):=by
 have hd:=kF hm hi;rcases eX P ((i+1:Nat):Int)with⟨h0,_⟩|⟨j,d',ps',he,hx,h1,_⟩|⟨_,h1,_⟩
 ·omega
 ·have:=nD hm hi hx q0;simp only at this;omega
 ·omega
theorem x9 {f:En->Option Int} {e:En} {s:Int} (h:f e=some s) (i:Nat):Bi f i e=[((i:Int),s)]:=by unfold Bi;rw[h]
theorem NO {f:En->Option Int} {e:En} (h:f e=none) (i:Nat):Bi f i e=[]:=by unfold Bi;rw[h]
def uE (L:List En) (k:List UInt8) (xs:List (List UInt8)) (bs:List Nat) (pos:Nat->Int) (M:aE) (w:World):Prop:=∀(j:Nat) b x,bs[j]? =some b->xs[j]? =some x->Cu 323 (pk L (cN (k,x))) (pos j) M w b
theorem uE.step {L:List En} {k:List UInt8} {xs:List (List UInt8)} {bs:List Nat} {pos:Nat->Int} {M M' N:aE} {w w':World} (h:uE L k xs bs pos M w) (s:Step M w M' w' N) (hn:∀b∈bs,¬N b):uE L k xs bs pos M' w':=λj b x hb hx=>(h j b x hb hx).step s (hn b (ax hb))
theorem uE.SO {L:List En} {k:List UInt8} {xs:List (List UInt8)} {bs:List Nat} {pos:Nat->Int} {M M':aE} {w w':World} (h:uE L k xs bs pos M w) (lU:bs.Nodup) {j b:Nat} {x:List UInt8} {i:Int} (hb:bs[j]? =some b) (hx:xs[j]? =some x) (s:Step M w M' w' (λc=>c=b)) (hc:Cu 323 (pk L (cN (k,x))) i M' w' b):uE L k xs bs (λj'=>if j'=j then i else pos j') M' w':=by
 intro j' b' x' BG JV;by_cases e:j'=j
 ·subst e;rw[hb]at BG;rw[hx]at JV
  cases BG;cases JV;dsimp only;rw[if_pos rfl];exact hc
 ·dsimp only;rw[if_neg e];refine (h j' b' x' BG JV).step s λH4=>e ?_
  obtain⟨h1,h2⟩:=al.1 hb;obtain⟨h3,h4⟩:=al.1 BG;rcases fh j' j with h|h|h
  ·exact absurd (h4.trans (H4.trans h2.symm)) (List.pairwise_iff_getElem.1 lU _ _ h3 h1 h)
  ·exact h
  ·exact absurd (h2.trans (H4.symm.trans h4.symm)) (List.pairwise_iff_getElem.1 lU _ _ h1 h3 h)
theorem uE.cell {L:List En} {k:List UInt8} {xs:List (List UInt8)} {bs:List Nat} {pos:Nat->Int} {M:aE} {w:World} (h:uE L k xs bs pos M w) (hl:bs.length<=xs.length) {b:Nat} (hb:b∈bs):∃cs,w.heap[b]? =some (.cells cs 323 (0,0)):=by
 obtain⟨j,hj⟩:=bG.1 hb;have qn:=(al.1 hj).1;obtain⟨_,_,_,_,_,hc,_⟩:=h j b _ hj (an q0);exact⟨_,hc⟩
theorem uE.snoc {L:List En} {k:List UInt8} {xs:List (List UInt8)} {bs:List Nat} {M:aE} {w:World} (h:uE L k xs bs (λ_=> -1) M w) {b:Nat} {x:List UInt8} (hx:xs[bs.length]? =some x) (hc:Cu 323 (pk L (cN (k,x))) (-1) M w b):uE L k xs (bs++[b]) (λ_=> -1) M w:=by
 intro j b' x' BG JV;rcases fh j bs.length with h1|h1|h1
 ·rw[List.getElem?_append_left h1]at BG;exact h j b' x' BG JV
 ·subst h1;rw[List.getElem?_append_right (aX _)]at BG;rw[hx]at JV;simp at BG;subst BG;cases JV;exact hc
 ·rw[dr a13]at BG;cases BG
def ya (L:List En) (k:List UInt8) (xs:List (List UInt8)) (pos:Nat->Int) (d:Nat):Prop:=∀(j:Nat) x,xs[j]? =some x->∀(t:Nat) p,(t:Int)<pos j->(pk L (cN (k,x)))[t]? =some p->p.1<(d:Int)
theorem ya.SO {L:List En} {k:List UInt8} {xs:List (List UInt8)} {pos:Nat->Int} {d d':Nat} (h:ya L k xs pos d) (hd:d<=d') {j:Nat} {i:Int} (hi:∀x,xs[j]? =some x->∀(t:Nat) p,(t:Int)<i->(pk L (cN (k,x)))[t]? =some p->p.1<(d':Int)):ya L k xs (λj'=>if j'=j then i else pos j') d':=by
 intro j' x hx t p ht hp;dsimp only at ht;by_cases e:j'=j
 ·subst e;rw[if_pos rfl]at ht;exact hi x hx t p ht hp
 ·rw[if_neg e]at ht;have:=h j' x hx t p ht hp;omega
set_option maxHeartbeats 4000000 in
theorem EH {M:aE} {L:List En} {k:List UInt8} {xs:List (List UInt8)} {v0 vx:Value} (w0:World) (hM:Lt M w0) (hs:cG RT.se M w0 v0 (uM (gQ L))) (fN:vW (-1) L=true) (hn:L.length<=100000) (hx:(RT.str.sl).V M w0 xs vx) (hk:k.length<=140737488355328) (hxs:∀x∈xs,x.length<=140737488355328) (fw:xs≠[]) (hx6:xs.length<=1000):
  Spec Tryz.prog 106 #[v0,sv k,vx] w0 (λv w=>∃M',Lt M' w/\Step M w0 M' w ar/\Own RT.fo 45 M' w w0.heap.size v (gD (sJ k xs) 0 L)):=by
 have iz:=hM;have hF:=kK fN;have hOK:∀x∈xs,Xr (pk L (cN (k,x))):=λx _=>JT hF q0 _
 obtain⟨x0,uQ⟩:∃x,xs[0]? =some x:=⟨_,an (gv.2 fw)⟩;have hm0:x0∈xs:=ax uQ;have wV:=hOK x0 hm0;have hlp:=gv.2 fw;refine aS (args:=[_,_,_]) (fn:=Tryz.f106) Tryz.func106 G (n:=88) Tryz.ntmps106 ?_;have S:Step M w0 M w0 ar:=aV;refine T.aO (Rg.aZ G G (T.aO (Rg.aZ G G (aI (T.aO (ab G G ?_))))));have BR:=dW hx;refine bB aQ G hx G (ab G G (ad (aT ?_)));refine cR (σ:=Nat×Value×List Nat) (λq=>[(0,v0),(1,sv k),(7,q.2.1),(19,vx),(20,.int .i64 (xs.length:Int)),(21,.int .i64 (q.1:Int))]) (λq w=>q.1<=xs.length/\q.2.2.length=q.1/\q.2.2.Nodup/\(∀b∈q.2.2,w0.heap.size<=b)/\∃M2,Lt M2 w/\Step M w0 M2 w ar/\cG RT.se M2 w v0 (uM (gQ L))/\(RT.str.sl).V M2 w xs vx/\uE L k xs q.2.2 (λ_=> -1) M2 w/\Own RT.E3 272 M2 w w0.heap.size q.2.1 q.2.2) (λq=>xs.length-q.1) (0,.slice none 0 0,[]) a14 ?_ ?_
 ·exact⟨bm _,rfl,List.nodup_nil,λb h=>by(cases h),_,hM,S,hs,hx,λj b x h=>by(simp at h),eE _ _ _ _ _⟩
 ·clear hM S hs hx;rintro⟨i,vb,bs⟩ w ⟨hi,Cb,lU,hbz,M2,hM,S,hs,hx,kr,iq⟩;dsimp only at hi Cb lU hbz kr iq ⊢;refine T.aO (ck G G G (ad (aI ?_)));refine bI G (λc3=>?_) (λc3=>?_)
  ·refine aR (aI (aT (T.aO ?_)));obtain⟨x,TO⟩:∃x,xs[i]? =some x:=⟨_,an q0⟩;refine cx aQ I9 G G G hx b4 q0 (λu40 x_ fV Sf=>?_);rw[aq]at fV;obtain rfl:=aF (TO.symm.trans fV);refine bM aG G G G G G Sf b4 (λv41 Sg=>?_);obtain rfl:=eJ Sg;refine Rg.aZ rfl rfl (aN (ab rfl rfl (ab rfl rfl (ab rfl rfl (ab rfl rfl (dp (places:=[(0,1),(1,1)]) bR nE B24 rfl ⟨_,_,rfl,rfl,_,_,rfl,rfl,rfl⟩ (out:=[_,_]) ⟨0,[_],rfl,rfl,by simp[Value.cells],1,[_],rfl,rfl,by simp[Value.cells],rfl⟩ ?_))))));refine aJ rfl rfl RJ (pT (ls:=(keysOf L).map (pk L)) (t:=(k,x)) _ hM hs (nH L) rfl (by rw[bT];rfl) hk (hxs x (ax TO))) (λr55 w55 hc=>?_);obtain⟨bc,rfl,hz,s55,hC⟩:=hc;have hz0:=S.size;have Vm:∀b∈bs,b<bc:=λb hb=>by obtain⟨_,h⟩:=kr.cell q0 hb;have:=ae h;omega
   generalize ins M2 bc=Mc at s55 hC;replace hC:Cu 323 (pk L (cN (k,x))) (-1) Mc w55 bc:=by have h:=hC;rw[show qA (uM (gQ L)).2.2.1 ((keysOf L).map (pk L)) (cN (k,x))=(pk L (cN (k,x)))from Eu _]at h;exact h
   replace hs:=hs.le XT s55.le;replace hx:=hx.le s55.le;replace iq:=iq.bD s55;replace kr:=kr.step s55 (λb hb h=>h);replace hM:=s55.lt hM;have:=S.size;replace S:=S.av s55;refine fm (A:=RT.E3) (hn:=by decide) (M:=Mc) iW HN XT G G hM (oK.2 G) (.inr ⟨G,G⟩) (λays ayt SP Kg=>?_);replace hs:=hs.le XT Kg.le;replace hx:=hx.le Kg.le;replace iq:=iq.bD Kg;replace kr:=kr.step Kg (λb hb h=>h);replace hC:=hC.step Kg (λh=>h);replace hM:=Kg.lt hM;have:=S.size;replace S:=S.av Kg;refine dA (M:=Mc) (base:=w0.heap.size) iW HN rfl rfl rfl rfl iq SP b4 (by rw[eF];omega) (by rw[eF];omega) (S.size) (λae8 ayu amy ahd vR=>?_);replace hs:=hs.le XT vR.le;replace hx:=hx.le vR.le;replace SP:=SP.le vR.le;replace kr:=kr.step vR (λb hb h=>by obtain⟨_,ku⟩:=kr.cell q0 hb;first|exact iq.fk ku XT h|exact kx.fk ku XT h|exact uF.fk ku XT h);replace hC:=hC.step vR (λh=>by obtain⟨_,_,_,_,_,Dp,_⟩:=id hC;exact iq.fk Dp XT h);replace hM:=vR.lt hM;have:=S.size;replace S:=S.eg vR iq (aX _);replace iq:=ahd;refine Rg.aZ G G (aN (br G G G q0 (ab G G (ad ?_))));refine⟨G,(i+1,ae8,bs++[bc]),a14,?_,?_⟩
   ·exact⟨by omega,by rw[bU,eF];omega,List.nodup_append.2 ⟨lU,by simp,λa ha b hb=>by simp at hb;subst hb;have:=Vm a ha;omega⟩,λb hb=>by rcases dN.1 hb with h|h;exact hbz b h;simp at h;subst h;omega,_,hM,S,hs,hx,kr.snoc (by rw[Cb];exact TO) hC,iq⟩
   ·dsimp only;omega
  ·refine cE (T.aO ?_);have Y0:bs.length=xs.length:=by omega
   obtain⟨b0,Al⟩:∃b,bs[0]? =some b:=⟨_,an q0⟩;refine Rg.aZ G G (aI (T.aO (ab G G ?_)));have ahe:=iq.close (hn:=by decide) iz S q0;refine cx (A:=RT.E3) (hn:=by decide) iW HN G G G ahe b4 q0 (λu81 x_ fV abp=>?_);obtain rfl:=aF ((show bs[0]? =some b0 from Al).symm.trans fV);refine bM Tryz.underlying272 G G G G G abp b4 (λv81 ao6=>?_);obtain rfl:=oK.1 ao6;obtain⟨_,_,_,_,_,Dp,_⟩:=id (kr 0 _ _ Al uQ);refine aJ G G Ex (k7 (kr 0 _ _ Al uQ) hM wV.may wV.ps wV.by_ wV.ln) (λr83 w83 hc=>?_);obtain⟨rfl,s83,hC⟩:=hc;have MJ:kL (pk L (cN (k,x0))) (-1)=0:=by unfold kL;rw[if_pos q0];omega
   rw[MJ]at hC ⊢;obtain⟨D,hD,LW⟩:=o6 wV.may (i:=0) (nP _);rw[hD];replace kr:=kr.SO lU Al uQ s83 hC;replace iq:=iq.step s83 (λc hc (h:c=b0)=>iq.fk Dp XT (h▸hc));replace S:=S.cq s83 (λc (h:c=b0)=>by have:=hbz b0 (ax Al);omega);replace hM:=s83.lt hM;refine Rg.aZ G G (aT ?_);refine cR (σ:=Nat×Value) (λq=>[(7,vb),(10,q.2),(11,.int .i64 (q.1:Int))]) (λq w=>q.1<=2147483648/\∃M2 pos,Lt M2 w/\Step M w0 M2 w ar/\uE L k xs bs pos M2 w/\ya L k xs pos q.1/\eB (pk L (cN (k,x0))) (pos 0)=(q.1:Int)/\Own RT.E3 272 M2 w w0.heap.size vb bs/\Own RT.fo 45 M2 w w0.heap.size q.2 (gD (sJ k xs) 0 (L.take q.1))) (λq=>2147483648-q.1) (D,.slice none 0 0) a07 ?_ ?_
   ·refine ⟨LW,_,_,hM,S,kr,(show ya L k xs (λ_=> -1) 0 from λj x hx t p h=>by dsimp only at h;omega).SO (bm _) (λx hx t p h=>by omega),by dsimp only;rw[if_pos rfl];exact hD,iq,?_⟩;rw[show gD (sJ k xs) 0 (L.take D)=[]from wG (m:=0) (bm _) λi e _ h2 h3=>iD λhp=>by have:=Ke wV.may (wF hF h3 hp hm0) (d:=0) aq5;rw[SN wV.may,show eB (pk L (cN (k,x0))) ((0:Nat):Int)=(D:Int)from hD]at this;simp only at this;omega];exact eE _ _ _ _ _
   ·clear hM S kr iq hD hC;rintro⟨D,vo⟩ w ⟨LW,M2,pos,hM,S,kr,T2,hD,iq,kx⟩;dsimp only at LW T2 hD kx ⊢;refine aI (T.aO (ab G G (ck G G G (ad ?_))));refine bI G (λc9=>?_) (λc9=>?_)
    ·have ayw:D<2147483648:=by omega
     refine aR (aT (T.aO (ab G G (Rg.aZ G G (aI (T.aO (ab G G ?_)))))));have abq:=iq.close (hn:=by decide) iz S q0;refine bB (A:=RT.E3) (hn:=by decide) iW G abq G (ab G G (ad (aT ?_)));refine cR (σ:=Nat×Nat) (λq=>[(7,vb),(10,vo),(11,.int .i64 (D:Int)),(12,.int .i64 (q.2:Int)),(41,vb),(42,.int .i64 (bs.length:Int)),(43,.int .i64 (q.1:Int))]) (λq w=>q.1<=bs.length/\D<=q.2/\q.2<=2147483648/\∃M2 pos,Lt M2 w/\Step M w0 M2 w ar/\uE L k xs bs pos M2 w/\ya L k xs pos D/\(∀(j:Nat) x,j<q.1->xs[j]? =some x->pos j=((idx (pk L (cN (k,x))) D:Nat):Int)/\eB (pk L (cN (k,x))) ((idx (pk L (cN (k,x))) D:Nat):Int)<=(q.2:Int))/\(q.2=D\/∃x∈xs,(q.2:Int)=eB (pk L (cN (k,x))) ((idx (pk L (cN (k,x))) D:Nat):Int))/\Own RT.E3 272 M2 w w0.heap.size vb bs/\Own RT.fo 45 M2 w w0.heap.size vo (gD (sJ k xs) 0 (L.take D))) (λq=>bs.length-q.1) (0,D) a81 ?_ ?_
     ·exact⟨bm _,aX _,LW,_,_,hM,S,kr,T2,λj x h=>by(exact absurd h (eL _)),.inl G,iq,kx⟩
     ·clear hM S kr T2 iq kx;rintro⟨j,at_⟩ w ⟨hj,hDa,TW,M2,pos,hM,S,kr,T2,C7,hmx,iq,kx⟩;dsimp only at hj hDa TW C7 hmx ⊢;refine T.aO (ck G G G (ad (aI ?_)));refine bI G (λPx=>?_) (λPx=>?_)
      ·refine aR (aI (aT (T.aO ?_)));obtain⟨bj,JX⟩:∃x,bs[j]? =some x:=⟨_,an q0⟩;obtain⟨x,G5⟩:∃x,xs[j]? =some x:=⟨_,an q0⟩;have XI:=hOK x (ax G5);have ahf:=iq.close (hn:=by decide) iz S q0;refine cx (A:=RT.E3) (hn:=by decide) iW HN G G G ahf b4 q0 (λu13 x_ fV abr=>?_);rw[aq]at fV;obtain rfl:=aF ((show bs[j]? =some bj from JX).symm.trans fV);refine bM Tryz.underlying272 G G G G G abr b4 (λZ4 HO=>?_);obtain rfl:=oK.1 HO;refine Rg.aZ G G (aN (ab G G (ab G G (ab G G ?_))));obtain⟨_,_,_,_,_,Dp,_⟩:=id (kr j _ _ JX G5);refine aJ G G VB (pR (kr j _ _ JX G5) hM XI.may XI.ps XI.by_ XI.ln q0) (λao7 ahg hc=>?_);obtain⟨rfl,rI,hC⟩:=hc;have hjr:=(kr j _ _ JX G5).rng;rw[Dq hjr q0 (T2 j x G5)]at hC ⊢;obtain⟨A,hA,hAl⟩:=o6 XI.may (i:=((idx (pk L (cN (k,x))) D:Nat):Int)) q0;rw[hA];replace kr:=kr.SO lU JX G5 rI hC;replace iq:=iq.step rI (λc hc (h:c=bj)=>iq.fk Dp XT (h▸hc));replace kx:=kx.step rI (λc hc (h:c=bj)=>kx.fk Dp XT (h▸hc));replace S:=S.cq rI (λc (h:c=bj)=>by have:=hbz bj (ax JX);omega);replace hM:=rI.lt hM;refine Rg.max2 G G G (aY (v':= .int .i64 ((max at_ A:Nat):Int)) (by congr 1;omega) (Rg.aZ rfl rfl (aN (br rfl rfl rfl q0 (ab rfl rfl (ad ?_))))));refine⟨G,(j+1,max at_ A),a81,?_,?_⟩
       ·refine⟨by omega,by omega,by omega,_,_,hM,S,kr,T2.SO (aX _) (λy hy t p h1 h2=>by rw[G5]at hy;cases hy;exact zU (Int.ofNat_lt.1 h1) h2),λj' y hj' hy=>?_,?_,iq,kx⟩
        ·dsimp only at hj' ⊢;by_cases e:j'=j
         ·subst e;rw[G5]at hy;cases hy;rw[if_pos rfl];exact⟨G,by omega⟩
         ·rw[if_neg e];obtain⟨h1,h2⟩:=C7 j' y q0 hy;exact⟨h1,by omega⟩
        ·dsimp only;rcases Nat.le_total A at_ with h|h
         ·rw[Nat.max_eq_left h];exact hmx
         ·rw[Nat.max_eq_right h];exact .inr ⟨x,ax G5,hA.symm⟩
       ·dsimp only;omega
      ·refine cE (aI (T.aO (ab G G (ab G G (il G G G (ad ?_))))));refine bI G (λH9=>?_) (λH9=>?_)
       ·have hgA:∀D2:Nat,eB (pk L (cN (k,x0))) ((idx (pk L (cN (k,x0))) at_:Nat):Int)=(D2:Int)->∀(i:Nat) e,D<=i->i<D2->L[i]? =some e->sJ k xs e=none:=λD2 NP i e h1 h2 h3=>by
         rcases hmx with h|⟨y,hy,h⟩
         ·omega
         ·refine iD λhp=> ?_
          have q1:=Ke (hOK y hy).may (wF hF h3 hp hy) (d:=(D:Int)) aq5;have q2:=Ke wV.may (wF hF h3 hp hm0) (d:=(at_:Int)) (by simp only at q1 ⊢;omega);simp only at q1 q2;omega
        refine T.aO (ab G G ?_);have abt:=iq.close (hn:=by decide) iz S q0;refine cx (A:=RT.E3) (hn:=by decide) iW HN G G G abt b4 q0 (λayz x_ fV ahh=>?_);obtain rfl:=aF ((show bs[0]? =some b0 from Al).symm.trans fV);refine bM Tryz.underlying272 G G G G G ahh b4 (λv171 ahi=>?_);obtain rfl:=oK.1 ahi;refine ab G G ?_;obtain⟨_,_,_,_,_,Dp,_⟩:=id (kr 0 _ _ Al uQ);refine aJ G G VB (pR (kr 0 _ _ Al uQ) hM wV.may wV.ps wV.by_ wV.ln (to:=(at_:Int)) q0) (λayA ayB hc=>?_);obtain⟨rfl,SQ,hC⟩:=hc;have hjr:=(kr 0 _ _ Al uQ).rng;rw[Dq hjr q0 (λt p h1 h2=>by have:=T2 0 x0 uQ t p h1 h2;omega)]at hC ⊢;obtain⟨D2,NP,SR⟩:=o6 wV.may (i:=((idx (pk L (cN (k,x0))) at_:Nat):Int)) q0;rw[NP];have nk:=Bp (m:=(pk L (cN (k,x0)))) (x:=(at_:Int)) q0;replace kr:=kr.SO lU Al uQ SQ hC;replace iq:=iq.step SQ (λc hc (h:c=b0)=>iq.fk Dp XT (h▸hc));replace kx:=kx.step SQ (λc hc (h:c=b0)=>kx.fk Dp XT (h▸hc));replace S:=S.cq SQ (λc (h:c=b0)=>by have:=hbz b0 (ax Al);omega);replace hM:=SQ.lt hM;refine Rg.aZ G G (cE ?_);refine⟨G,(D2,vo),a07,?_,?_⟩
        ·exact⟨SR,_,_,hM,S,kr,T2.SO q0 (λx hx t p h1 h2=>by rw[uQ]at hx;cases hx;have:=zU (Int.ofNat_lt.1 h1) h2;omega),by dsimp only;rw[if_pos rfl];exact NP,iq,by rw[wG (m:=D) q0 (hgA D2 NP)];exact kx⟩
        ·dsimp only;omega
       ·have haD:at_=D:=by omega
        have ahj:∀(j':Nat) y,xs[j']? =some y->pos j'=((idx (pk L (cN (k,y))) D:Nat):Int)/\eB (pk L (cN (k,y))) (pos j')=(D:Int):=λj' y hy=>by
         obtain⟨h1,h2⟩:=C7 j' y (by have:=(al.1 hy).1;omega) hy;have h3:=Bp (m:=(pk L (cN (k,y)))) (x:=(D:Int)) q0;exact⟨h1,by rw[h1];omega⟩
        obtain⟨e,hLe,_,t0,ps0,ht0,HP⟩:=XH hF (ahj 0 x0 uQ).2 q0
        have yo:∀y j',xs[j']? =some y->gG (pk L (cN (k,y))) (pos j')=iM (dd e.1.2 k) y:=λy j' hy=>by
         obtain⟨e',h1,h2,_⟩:=XH hF (ahj j' y hy).2 q0;rw[hLe]at h1;cases h1;exact h2
        have hwf:(dd e.1.2 k).length<=500:=yI (hF e (ax hLe)) k;have VA:=LF (dd e.1.2 k) xs
        have hsd:R5 (xs.map (iM (dd e.1.2 k)))=x8 (dd e.1.2 k) xs:=by
         cases hxe:xs with
         |nil=>exact absurd hxe fw
         |cons a tl=>exact SE _ a tl
        have yn:=(al.1 HP).1
        have hgB:∀D2:Nat,eB (pk L (cN (k,x0))) ((t0+1:Nat):Int)=(D2:Int)->∀(i:Nat) e',D+1<=i->i<D2->L[i]? =some e'→sJ k xs e'=none:=λD2 NP i e' h1 h2 h3=>by
         refine iD λhp=> ?_
         have q2:=SM wV.may (wF hF h3 hp hm0) HP aq5;simp only at q2;omega
        clear C7 hmx;refine aR (T.aO (Rg.aZ G G (aI (T.aO (ab G G ?_)))));have abq:=iq.close (hn:=by decide) iz S q0;refine bB (A:=RT.E3) (hn:=by decide) iW G abq G (ab G G (ad (aT ?_)));refine cR (σ:=Nat×Value) (λq=>[(7,vb),(10,vo),(11,.int .i64 (D:Int)),(15,q.2),(61,vb),(62,.int .i64 (bs.length:Int)),(63,.int .i64 (q.1:Int))]) (λq w=>q.1<=bs.length/\∃M2,Lt M2 w/\Step M w0 M2 w ar/\uE L k xs bs pos M2 w/\Own RT.E3 272 M2 w w0.heap.size vb bs/\Own RT.fo 45 M2 w w0.heap.size vo (gD (sJ k xs) 0 (L.take D))/\Own ((RT.int .i64).sl) 61 M2 w w0.heap.size q.2 ((xs.take q.1).map (iM (dd e.1.2 k)))) (λq=>bs.length-q.1) (0,.slice none 0 0) a81 ?_ ?_
        ·exact⟨bm _,_,hM,S,kr,iq,kx,eE _ _ _ _ _⟩
        ·clear hM S kr iq kx;rintro⟨j,vr⟩ w ⟨hj,M2,hM,S,kr,iq,kx,uF⟩;dsimp only at hj uF ⊢;refine T.aO (ck G G G (ad (aI ?_)));refine bI G (λc20=>?_) (λc20=>?_)
         ·refine aR (aI (aT (T.aO ?_)));obtain⟨bj,JX⟩:∃x,bs[j]? =some x:=⟨_,an q0⟩;obtain⟨x,G5⟩:∃x,xs[j]? =some x:=⟨_,an q0⟩;have XI:=hOK x (ax G5);have ahk:=iq.close (hn:=by decide) iz S q0;refine cx (A:=RT.E3) (hn:=by decide) iW HN G G G ahk b4 q0 (λu21 x_ fV Sd=>?_);rw[aq]at fV;obtain rfl:=aF ((show bs[j]? =some bj from JX).symm.trans fV);refine bM Tryz.underlying272 G G G G G Sd b4 (λv21 abm=>?_);obtain rfl:=oK.1 abm;refine Rg.aZ G G (aN (ab G G (ab G G ?_)));refine aJ G G ao5 (Ev (kr j _ _ JX G5) XI.may XI.ps hM) (λr22 w22 hc=>?_);obtain⟨NQ,zm⟩:=hc;rw[(yo x j G5)]at NQ;replace iq:=iq.bD zm;replace kx:=kx.bD zm;replace uF:=uF.bD zm;replace kr:=kr.step zm (λb hb h=>h);replace hM:=zm.lt hM;have:=S.size;replace S:=S.av zm;refine fm (A:=((RT.int .i64).sl)) (hn:=by decide) (M:=M2) iV l4 XT G G hM (NQ) (.inr ⟨G,G⟩) (λatc atd Kh Br=>?_);replace NQ:=NQ.le Br.le;replace iq:=iq.bD Br;replace kx:=kx.bD Br;replace uF:=uF.bD Br;replace kr:=kr.step Br (λb hb h=>h);replace hM:=Br.lt hM;have:=S.size;replace S:=S.av Br;refine dA (M:=M2) (base:=w0.heap.size) iV l4 rfl rfl rfl rfl uF Kh b4 (by rw[bT,bF,eF];omega) (by rw[bT,bF,eF];omega) (S.size) (λahl ate atf abu Bs=>?_);replace NQ:=NQ.le Bs.le;replace Kh:=Kh.le Bs.le;replace iq:=iq.step Bs (λb h1 h2=>iq.jE uF XT h1 h2);replace kx:=kx.step Bs (λb h1 h2=>kx.jE uF XT h1 h2);replace kr:=kr.step Bs (λb hb h=>by obtain⟨_,ku⟩:=kr.cell q0 hb;first|exact iq.fk ku XT h|exact kx.fk ku XT h|exact uF.fk ku XT h)
          replace hM:=Bs.lt hM;have:=S.size;replace S:=S.eg Bs uF (aX _);replace uF:=abu;refine Rg.aZ G G (aN (br G G G q0 (ab G G (ad ?_))));refine⟨G,(j+1,ahl),a81,?_,?_⟩
          ·exact⟨by omega,_,hM,S,kr,iq,kx,by rw[bQ,G5,cH,ed];exact uF⟩
          ·dsimp only;omega
         ·refine cE (aI (T.aO (ab G G ?_)));have hrc:=uF.close (hn:=by decide) iz S (by rw[bT,bF];omega);rw[bg q0]at hrc;refine aJ rfl rfl E54 (ND (M:=M) hrc (λl hl=>by obtain⟨x,_,rfl⟩:=cu.1 hl;exact Kf hwf x) (by rw[bT];omega)) (λr24 w24 hc=>?_);obtain⟨rfl,rfl⟩:=hc;refine aY (v':= .int .i64 (x8 (dd e.1.2 k) xs:Int)) (by rw[hsd]) (Rg.aZ G G (T.aO (ab G G (il G G G (ad ?_)))));refine bI G (λc25=>?_) (λc25=>?_)
          ·have hph:sJ k xs e=some (x8 (dd e.1.2 k) xs:Int):=by unfold sJ y9;rw[if_pos q0]
           refine aN (ab rfl rfl (ab rfl rfl (ab rfl rfl (dp (places:=[(0,1),(1,1)]) dg lR R3 rfl ⟨_,_,rfl,rfl,_,_,rfl,rfl,rfl⟩ (out:=[_,_]) ⟨0,[_],rfl,rfl,by simp[Value.cells],1,[_],rfl,rfl,by simp[Value.cells],rfl⟩ ?_))));refine fm (A:=RT.fo) (hn:=by decide) (M:=M2) a7 lR XT G G hM (Pd q0 q0) (.inl G) (λath ati Ki HQ=>?_);replace iq:=iq.bD HQ;replace kx:=kx.bD HQ;replace kr:=kr.step HQ (λb hb h=>h);replace hM:=HQ.lt hM;have:=S.size;replace S:=S.av HQ;refine dA (M:=M2) (base:=w0.heap.size) a7 lR G G G G kx Ki b4 (by have:=lp (f:=sJ k xs) (L.take D) 0;rw[bF]at this;rw[eF];omega) (by have:=lp (f:=sJ k xs) (L.take D) 0;rw[bF]at this;rw[eF];omega) (S.size) (λahm atj atk abv HR=>?_);replace Ki:=Ki.le HR.le;replace iq:=iq.step HR (λb h1 h2=>iq.jE kx XT h1 h2);replace kr:=kr.step HR (λb hb h=>by obtain⟨_,ku⟩:=kr.cell q0 hb;first|exact iq.fk ku XT h|exact kx.fk ku XT h|exact uF.fk ku XT h);replace hM:=HR.lt hM;have:=S.size;replace S:=S.eg HR kx (aX _);replace kx:=abv;refine Rg.aZ G G (aN (ab G G ?_));have Kj:=iq.close (hn:=by decide) iz S q0;refine cx (A:=RT.E3) (hn:=by decide) iW HN G G G Kj b4 q0 (λapa x_ fV SS=>?_);obtain rfl:=aF ((show bs[0]? =some b0 from Al).symm.trans fV);refine bM Tryz.underlying272 G G G G G SS b4 (λapb SU=>?_);obtain rfl:=oK.1 SU;obtain⟨_,_,_,_,_,Dp,_⟩:=id (kr 0 _ _ Al uQ);refine aJ G G Ex (k7 (kr 0 _ _ Al uQ) hM wV.may wV.ps wV.by_ wV.ln) (λapc apd hc=>?_);obtain⟨rfl,Bt,hC⟩:=hc;have MJ:kL (pk L (cN (k,x0))) (pos 0)=((t0+1:Nat):Int):=by unfold kL;rw[ht0,if_pos q0];omega
           rw[MJ]at hC ⊢;obtain⟨D2,NP,SR⟩:=o6 wV.may (i:=((t0+1:Nat):Int)) q0;rw[NP];have hDD:D<D2:=by have:=Bq wV.may HP;omega
           have hB0:∀x,xs[0]? =some x->∀(t:Nat) p,(t:Int)<((t0+1:Nat):Int)->(pk L (cN (k,x)))[t]? =some p->p.1<(D2:Int):=λx hx t p h1 h2=>by
            rw[uQ]at hx;cases hx;rcases cL t t0 with h|h
            ·have:=nD wV.may h2 HP h;simp only at this;omega
            ·obtain rfl:t=t0:=by omega
             rw[HP]at h2;cases h2;simp only;omega
           replace kr:=kr.SO lU Al uQ Bt hC;replace iq:=iq.step Bt (λc hc (h:c=b0)=>iq.fk Dp XT (h▸hc));replace kx:=kx.step Bt (λc hc (h:c=b0)=>kx.fk Dp XT (h▸hc));replace S:=S.cq Bt (λc (h:c=b0)=>by have:=hbz b0 (ax Al);omega);replace hM:=Bt.lt hM;refine Rg.aZ G G ?_;refine⟨G,(D2,ahm),a07,?_,?_⟩
           ·exact⟨SR,_,_,hM,S,kr,T2.SO q0 hB0,by dsimp only;rw[if_pos rfl];exact NP,iq,by rw[wG (m:=D+1) q0 (hgB D2 NP),o5 hLe,x9 hph _];exact kx⟩
           ·dsimp only;omega
          ·have hph:sJ k xs e=none:=by unfold sJ y9;rw[if_neg q0]
           refine aR (aN (ab G G ?_));have Kj:=iq.close (hn:=by decide) iz S q0;refine cx (A:=RT.E3) (hn:=by decide) iW HN G G G Kj b4 q0 (λapa x_ fV SS=>?_);obtain rfl:=aF ((show bs[0]? =some b0 from Al).symm.trans fV);refine bM Tryz.underlying272 G G G G G SS b4 (λapb SU=>?_);obtain rfl:=oK.1 SU;obtain⟨_,_,_,_,_,Dp,_⟩:=id (kr 0 _ _ Al uQ);refine aJ G G Ex (k7 (kr 0 _ _ Al uQ) hM wV.may wV.ps wV.by_ wV.ln) (λapc apd hc=>?_);obtain⟨rfl,Bt,hC⟩:=hc;have MJ:kL (pk L (cN (k,x0))) (pos 0)=((t0+1:Nat):Int):=by unfold kL;rw[ht0,if_pos q0];omega
           rw[MJ]at hC ⊢;obtain⟨D2,NP,SR⟩:=o6 wV.may (i:=((t0+1:Nat):Int)) q0;rw[NP];have hDD:D<D2:=by have:=Bq wV.may HP;omega
           have hB0:∀x,xs[0]? =some x->∀(t:Nat) p,(t:Int)<((t0+1:Nat):Int)->(pk L (cN (k,x)))[t]? =some p->p.1<(D2:Int):=λx hx t p h1 h2=>by
            rw[uQ]at hx;cases hx;rcases cL t t0 with h|h
            ·have:=nD wV.may h2 HP h;simp only at this;omega
            ·obtain rfl:t=t0:=by omega
             rw[HP]at h2;cases h2;simp only;omega
           replace kr:=kr.SO lU Al uQ Bt hC;replace iq:=iq.step Bt (λc hc (h:c=b0)=>iq.fk Dp XT (h▸hc));replace kx:=kx.step Bt (λc hc (h:c=b0)=>kx.fk Dp XT (h▸hc));replace S:=S.cq Bt (λc (h:c=b0)=>by have:=hbz b0 (ax Al);omega);replace hM:=Bt.lt hM;refine Rg.aZ G G ?_;refine⟨G,(D2,vo),a07,?_,?_⟩
           ·exact⟨SR,_,_,hM,S,kr,T2.SO q0 hB0,by dsimp only;rw[if_pos rfl];exact NP,iq,by rw[wG (m:=D+1) q0 (hgB D2 NP),o5 hLe,NO hph _,fS];exact kx⟩
           ·dsimp only;omega
    ·refine cE (T.aO (ab G G (Rg.aZ G G (aM (aP G G ⟨_,hM,S,?_⟩)))));rw[bg q0]at kx;exact kx
end Go.K
namespace Go.K
open Go.Proofs
set_option maxRecDepth 10000
theorem abw {M:aE} {a b:List (List UInt8)} {v u:Value} (w0:World) (hM:Lt M w0) (hv:((RT.str).sl).V M w0 a v) (hu:((RT.str).sl).V M w0 b u):
  Spec Tryz.prog 125 #[v,u] w0 (λv' w'=>v'= .bool (decide (a=b))/\Step M w0 M w' ar):=by
 have iz:=hM;have hla:=dW hv;have hlb:=dW hu;refine aS (args:=[_,_]) (fn:=Tryz.f125) Tryz.func125 G (n:=26) Tryz.ntmps125 ?_;have S:Step M w0 M w0 ar:=aV;refine T.aO (Rg.aZ G G (aI (T.aO (ab G G (bB aQ G hv G (ab G G (bB aQ G hu G (eR G G G ?_))))))));refine ad ?_;refine bI G (λc1=>?_) (λc1=>?_)
 ·refine T.aO (Rg.aZ G G (aM ?_));exact aP rfl rfl ⟨congrArg Value.bool (decide_eq_false (λe=>by subst e;exact c1 G)).symm,S⟩
 ·have hlen:a.length=b.length:=by omega
  refine aR (aI (T.aO (Rg.aZ G G (aT ?_))));refine cR (σ:=Nat) (λk=>[(0,v),(1,u),(5,.int .i64 (k:Int))]) (λk w=>Step M w0 M w ar/\((RT.str).sl).V M w a v/\((RT.str).sl).V M w b u/\k<=a.length/\a.take k=b.take k) (λk=>a.length-k) 0 a07 ?_ ?_
  ·exact⟨S,hv,hu,bm _,G⟩
  ·clear S hv hu hM;rintro k w ⟨S,hv,hu,hk,heq⟩;have hM:=S.lt iz;refine aI (T.aO (ab G G (ab G G (bB aQ G hv G (ck G G G (ad ?_))))));refine bI G (λc4=>?_) (λc4=>?_)
   ·refine aR (aI (aT (aI ?_)));apply wW mixed rfl rfl;intro wD6 sA6;have xY:=sA6 M;replace hv:=hv.le xY.le;replace hu:=hu.le xY.le;replace hM:=xY.lt hM;have:=S.size;replace S:=S.av xY;refine ab G G (Rg.cI (ab G G (Rg.cI ?_)));obtain⟨x,KR⟩:∃x,a[k]? =some x:=⟨_,an q0⟩;obtain⟨y,ML⟩:∃y,b[k]? =some y:=⟨_,an q0⟩;refine cx aQ I9 G G G hv b4 q0 (λu62 x_ fV J9=>?_);rw[aq]at fV;obtain rfl:=aF (KR.symm.trans fV);refine Rg.cI ?_;refine bM aG G G G G G J9 b4 (λv63 wo=>?_);obtain rfl:=eJ wo;refine Rg.cI (ab G G (Rg.cI (ab G G (Rg.cI ?_))));refine cx aQ I9 G G G hu b4 q0 (λu66 x_ fV abx=>?_);rw[aq]at fV;obtain rfl:=aF (ML.symm.trans fV);refine Rg.cI ?_;refine bM aG G G G G G abx b4 (λv67 aby=>?_);obtain rfl:=eJ aby;refine Rg.cI (Rg.OC G G G (Rg.cI (fB ?_)));refine bI G (λc6=>?_) (λc6=>?_)
    ·refine T.aO (Rg.aZ G G (aM ?_));exact aP rfl rfl ⟨congrArg Value.bool (decide_eq_false (λe=>by subst e;rw[KR]at ML;cases ML;exact c6 G)).symm,S⟩
    ·refine aR (aN (ab G G (br G G G q0 (Rg.aZ G G ?_))));refine⟨G,k+1,a07,?_,?_⟩
     ·exact⟨S,hv,hu,by omega,by rw[bQ,bQ,heq,KR,ML,db.1 c6]⟩
     ·omega
   ·refine cE (T.aO (Rg.aZ G G (aM ?_)));rw[bg q0,bg q0]at heq;exact aP G G ⟨congrArg Value.bool (decide_eq_true heq).symm,S⟩
theorem SV {M:aE} {a b:List (List UInt8)} {v u:Value} (w0:World) (hM:Lt M w0) (hv:((RT.str).sl).V M w0 a v) (hu:((RT.str).sl).V M w0 b u):
  Spec Tryz.prog 216 #[v,u] w0 (λv' w'=>v'= .bool (decide (a=b))/\Step M w0 M w' ar):=by
 have iz:=hM;have hla:=dW hv;have hlb:=dW hu;refine aS (args:=[_,_]) (fn:=Tryz.f216) Tryz.func216 G (n:=26) Tryz.ntmps216 ?_;have S:Step M w0 M w0 ar:=aV;refine T.aO (Rg.aZ G G (aI (T.aO (ab G G (bB aQ G hv G (ab G G (bB aQ G hu G (eR G G G ?_))))))));refine ad ?_;refine bI G (λc1=>?_) (λc1=>?_)
 ·refine T.aO (Rg.aZ G G (aM ?_));exact aP rfl rfl ⟨congrArg Value.bool (decide_eq_false (λe=>by subst e;exact c1 G)).symm,S⟩
 ·have hlen:a.length=b.length:=by omega
  refine aR (aI (T.aO (ab G G (bB aQ G hv G (ab G G (ad (aT ?_)))))));refine cR (σ:=Nat) (λk=>[(0,v),(1,u),(12,.int .i64 (a.length:Int)),(13,.int .i64 (k:Int))]) (λk w=>Step M w0 M w ar/\((RT.str).sl).V M w a v/\((RT.str).sl).V M w b u/\k<=a.length/\a.take k=b.take k) (λk=>a.length-k) 0 a01 ?_ ?_
  ·exact⟨S,hv,hu,bm _,G⟩
  ·clear S hv hu hM;rintro k w ⟨S,hv,hu,hk,heq⟩;have hM:=S.lt iz;refine T.aO (ck G G G (ad (aI ?_)));refine bI G (λc4=>?_) (λc4=>?_)
   ·refine aR (aI (aT (T.aO (ab G G (Rg.aZ G G (aI ?_))))));apply wW mixed rfl rfl;intro wD6 sA6;have xY:=sA6 M;replace hv:=hv.le xY.le;replace hu:=hu.le xY.le;replace hM:=xY.lt hM;have:=S.size;replace S:=S.av xY;refine ab G G (Rg.cI (ab G G (Rg.cI ?_)));obtain⟨x,KR⟩:∃x,a[k]? =some x:=⟨_,an q0⟩;obtain⟨y,ML⟩:∃y,b[k]? =some y:=⟨_,an q0⟩;refine cx aQ I9 G G G hv b4 q0 (λu62 x_ fV J9=>?_);rw[aq]at fV;obtain rfl:=aF (KR.symm.trans fV);refine Rg.cI ?_;refine bM aG G G G G G J9 b4 (λv63 wo=>?_);obtain rfl:=eJ wo;refine Rg.cI (ab G G (Rg.cI (ab G G (Rg.cI ?_))));refine cx aQ I9 G G G hu b4 q0 (λu66 x_ fV abx=>?_);rw[aq]at fV;obtain rfl:=aF (ML.symm.trans fV);refine Rg.cI ?_;refine bM aG G G G G G abx b4 (λv67 aby=>?_);obtain rfl:=eJ aby;refine Rg.cI (Rg.OC G G G (Rg.cI (fB ?_)));refine bI G (λc6=>?_) (λc6=>?_)
    ·refine T.aO (Rg.aZ G G (aM ?_));exact aP rfl rfl ⟨congrArg Value.bool (decide_eq_false (λe=>by subst e;rw[KR]at ML;cases ML;exact c6 G)).symm,S⟩
    ·refine aR (aN (br G G G q0 (ab G G (ad ?_))));refine⟨G,k+1,a01,?_,?_⟩
     ·exact⟨S,hv,hu,by omega,by rw[bQ,bQ,heq,KR,ML,db.1 c6]⟩
     ·omega
   ·refine cE (T.aO (Rg.aZ G G (aM ?_)));rw[bg q0,bg q0]at heq;exact aP G G ⟨congrArg Value.bool (decide_eq_true heq).symm,S⟩
namespace TKQSame
theorem Ie:TI Tryz.prog 26 (.slice none 0 0) 1 24:=by unfold TI;kernel_rfl
theorem jH:TI Tryz.prog 28 (.agg #[(.int .i64 0),(.string ⟨#[]⟩),(.string ⟨#[]⟩),(.slice none 0 0),(.slice none 0 0)]) 5 88:=by unfold TI;kernel_rfl
theorem abz:Enters Tryz.prog 162:=enters Tryz.func162 rfl XT
theorem ape:Enters Tryz.prog 216:=enters Tryz.func216 rfl XT
theorem apf:Enters Tryz.prog 217:=enters Tryz.func217 rfl XT
end TKQSame
open TKQSame
set_option maxRecDepth 10000
theorem NR {M:aE} {n:Nat} {a b:List Qy} {v u:Value} (w0:World) (hM:Lt M w0) (hv:((RT.qy n).sl (bS n)).V M w0 a v) (hu:((RT.qy n).sl (bS n)).V M w0 b u) (ih:∀x∈a,∀y∈b,∀(M:aE) (w:World) (v u:Value),Lt M w->(RT.qy n).V M w x v->(RT.qy n).V M w y u->Spec Tryz.prog 162 #[v,u] w (λv' w'=>v'= .bool (decide (x=y))/\Step M w M w' ar)):
  Spec Tryz.prog 217 #[v,u,.func (.func 162) #[] #[]] w0 (λv' w'=>v'= .bool (decide (a=b))/\Step M w0 M w' ar):=by
 have hla:=dW hv;have hlb:=dW hu;refine aS (args:=[_,_,_]) (fn:=Tryz.f217) Tryz.func217 G (n:=32) Tryz.ntmps217 ?_;have S:Step M w0 M w0 ar:=aV;refine T.aO (Rg.aZ G G (aI (T.aO (ab G G (bB (A:=RT.qy n) (hn:=bS _) dh G hv G (ab G G (bB (A:=RT.qy n) (hn:=bS _) dh G hu G (eR G G G ?_))))))));refine ad ?_;refine bI G (λc1=>?_) (λc1=>?_)
 ·refine T.aO (Rg.aZ G G (aM ?_));exact aP rfl rfl ⟨congrArg Value.bool (decide_eq_false (λe=>by subst e;exact c1 G)).symm,S.back⟩
 ·have hlen:a.length=b.length:=by omega
  refine aR (aI (T.aO (ab G G (bB (A:=RT.qy n) (hn:=bS _) dh G hv G (ab G G (ad (aT ?_)))))));refine cR (σ:=Nat) (λk=>[(0,v),(1,u),(2,.func (.func 162) #[] #[]),(15,v),(16,.int .i64 (a.length:Int)),(17,.int .i64 (k:Int))]) (λk w=>∃M1,Lt M1 w/\Step M w0 M1 w ar/\((RT.qy n).sl (bS n)).V M1 w a v/\((RT.qy n).sl (bS n)).V M1 w b u/\k<=a.length/\a.take k=b.take k) (λk=>a.length-k) 0 a14 ?_ ?_
  ·exact⟨_,hM,S,hv,hu,bm _,G⟩
  ·clear S hv hu hM;rintro k w ⟨M1,hM,S,hv,hu,hk,heq⟩;refine T.aO (ck G G G (ad (aI ?_)));refine bI G (λc4=>?_) (λc4=>?_)
   ·refine aR (aI (aT (T.aO (ab G G ?_))));obtain⟨x,hx⟩:∃x,(a)[k]? =some x:=⟨_,an q0⟩;refine cx (A:=RT.qy n) (hn:=bS _) (M:=M1) dh (IQ jH _) G G G hv b4 q0 (λu51 x_ fV abA=>?_);rw[aq]at fV;obtain rfl:=aF (hx.symm.trans fV);refine bZ (A:=RT.qy (n)) aU G (IQ jH _) (bS _) (eD _) G G abA b4 (λv52 ze=>?_);obtain⟨xw,xk,rfl,xr,xl,hxw,hxk⟩:=pW (n4 ze);refine ek M1 jH G (λabB ad2 ayJ ayK sK yR=>?_);obtain⟨HS,SY⟩:∃M',M'=ins M1 abB:=⟨_,rfl⟩;rw[<-SY]at yR;have oc:HS abB:=by rw[SY];exact .inl G
    change ad2.heap[abB]? =some (.cells #[.int .i64 0,.string ⟨#[]⟩,.string ⟨#[]⟩,.slice none 0 0,.slice none 0 0] _ _)at sK;replace hv:=hv.le yR.le;replace hu:=hu.le yR.le;replace ze:=ze.le yR.le;replace hM:=yR.lt hM;have:=S.size;replace S:=S.av yR;refine aB G G ?_;refine dX (M:=HS) (vs:=[.int .i64 x.kind,.string ⟨x.term.1.toArray⟩,.string ⟨x.term.2.toArray⟩,xw,xk]) jH G G (EF hxw hxk) G G sK oc (λwq5 gq5 sq5=>?_);have:=ae sK;replace oc:=(sq5.mem _ this).2 oc;replace hv:=hv.le sq5.le;replace hu:=hu.le sq5.le;replace ze:=ze.le sq5.le;replace hM:=sq5.lt hM;have:=S.size;replace S:=S.trans sq5 (λk hk h=>by have h:_=_:=h;subst h;first|(exfalso;omega)|(show _<=_;omega)|exact⟨by first|omega|assumption,(S.mem _ hk).1 ((sq5.mem _ (ae sK)).1 oc)⟩|exact .inl rfl|exact .inr rfl|exact .inr (.inl rfl)|exact .inr (.inr rfl)|exact .inr (.inr (.inl rfl))|exact rfl);have XJ:=gq5;clear sK;have sK:=XJ;clear XJ;refine ad (T.aO (ab G G (ab G G ?_)));obtain⟨y,hy⟩:∃x,(b)[k]? =some x:=⟨_,an q0⟩;refine cx (A:=RT.qy n) (hn:=bS _) (M:=HS) dh (IQ jH _) G G G hu b4 q0 (λu62 x_ fV J9=>?_);rw[aq]at fV;obtain rfl:=aF (hy.symm.trans fV);refine bZ (A:=RT.qy (n)) aU G (IQ jH _) (bS _) (eD _) G G J9 b4 (λv63 wo=>?_);obtain⟨yw,yk,rfl,yr,yl,hyw,hyk⟩:=pW (n4 wo);refine ek HS jH G (λabD api ayO ayP Co EI=>?_);obtain⟨XK,Ta⟩:∃M',M'=ins HS abD:=⟨_,rfl⟩;rw[<-Ta]at EI;have yb:XK abD:=by rw[Ta];exact .inl G
    change api.heap[abD]? =some (.cells #[.int .i64 0,.string ⟨#[]⟩,.string ⟨#[]⟩,.slice none 0 0,.slice none 0 0] _ _)at Co;have:=ae sK;replace oc:=(EI.mem _ this).2 oc;replace sK:=EI.ay sK;replace hv:=hv.le EI.le;replace hu:=hu.le EI.le;replace ze:=ze.le EI.le;replace wo:=wo.le EI.le;replace hM:=EI.lt hM;have:=S.size;replace S:=S.av EI;refine dX (M:=XK) (vs:=[.int .i64 y.kind,.string ⟨y.term.1.toArray⟩,.string ⟨y.term.2.toArray⟩,yw,yk]) jH G G (EF hyw hyk) G G Co yb (λwq6 gq6 T3=>?_);have:=ae sK;replace oc:=(T3.mem _ this).2 oc;replace sK:=T3.bL sK a05;have:=ae Co;replace yb:=(T3.mem _ this).2 yb;replace hv:=hv.le T3.le;replace hu:=hu.le T3.le;replace ze:=ze.le T3.le;replace wo:=wo.le T3.le;replace hM:=T3.lt hM;have:=S.size;replace S:=S.trans T3 (λk hk h=>by have h:_=_:=h;subst h;first|(exfalso;omega)|(show _<=_;omega)|exact⟨by first|omega|assumption,(S.mem _ hk).1 ((T3.mem _ (ae Co)).1 yb)⟩|exact .inl rfl|exact .inr rfl|exact .inr (.inl rfl)|exact .inr (.inr rfl)|exact .inr (.inr (.inl rfl))|exact rfl);have XL:=gq6;clear Co;have Co:=XL;clear XL;refine ad (T.aO (ab G G (eQ (vs:=[.int .i64 x.kind,.string ⟨x.term.1.toArray⟩,.string ⟨x.term.2.toArray⟩,xw,xk]) aU G jH G G G sK (eQ (vs:=[.int .i64 y.kind,.string ⟨y.term.1.toArray⟩,.string ⟨y.term.2.toArray⟩,yw,yk]) aU G jH G G G Co ?_))));refine ng (first:=[]) (captured:=[]) (xs:=[.tmp 27,.tmp 28]) G G G abz (ih x (ax hx) y (ax hy) _ _ _ _ hM ze wo) (λr7 w7 hc=>?_);obtain⟨rfl,s7⟩:=hc;have:=ae sK;replace oc:=(s7.mem _ this).2 oc;replace sK:=s7.ay sK;have:=ae Co;replace yb:=(s7.mem _ this).2 yb;replace Co:=s7.ay Co;replace hv:=hv.le s7.le
    replace hu:=hu.le s7.le;replace ze:=ze.le s7.le;replace wo:=wo.le s7.le;replace hM:=s7.lt hM;have:=S.size;replace S:=S.av s7;refine gM G G (aY (v':= .bool (decide (¬x=y))) (by simp) (ad ?_));refine bI G (λc7=>?_) (λc7=>?_)
    ·refine T.aO (Rg.aZ G G (aM ?_));exact aP rfl rfl ⟨congrArg Value.bool (decide_eq_false (λe=>by subst e;rw[hx]at hy;cases hy;exact c7 G)).symm,S.back⟩
    ·refine aR (aN (br G G G q0 (ab G G (ad ?_))));refine⟨G,k+1,a14,?_,?_⟩
     ·exact⟨_,hM,S,hv,hu,by omega,by rw[bQ,bQ,heq,hx,hy,db.1 c7]⟩
     ·omega
   ·refine cE (T.aO (Rg.aZ G G (aM ?_)));rw[bg q0,bg q0]at heq;exact aP G G ⟨congrArg Value.bool (decide_eq_true heq).symm,S.back⟩
theorem Bu {M:aE} {n:Nat} {a b:Qy} {v u:Value} (w0:World) (hM:Lt M w0) (hv:(RT.qy (n+1)).V M w0 a v) (hu:(RT.qy (n+1)).V M w0 b u) (ih:∀x∈a.kids,∀y∈b.kids,∀(M:aE) (w:World) (v u:Value),Lt M w->(RT.qy n).V M w x v->(RT.qy n).V M w y u->Spec Tryz.prog 162 #[v,u] w (λv' w'=>v'= .bool (decide (x=y))/\Step M w M w' ar)):
  Spec Tryz.prog 162 #[v,u] w0 (λv' w'=>v'= .bool (decide (a=b))/\Step M w0 M w' ar):=by
 refine aS (args:=[_,_]) (fn:=Tryz.f162) Tryz.func162 G (n:=31) Tryz.ntmps162 ?_;have S:Step M w0 M w0 ar:=aV;refine T.aO ?_;refine gR (A:=RT.qy (n+1)) (a:=a) G G hM hv (eD _) (λu2 Ov j3 lg _=>?_);replace hv:=hv.le lg.le;replace hu:=hu.le lg.le;replace hM:=lg.lt hM;have:=S.size;replace S:=S.av lg;refine gR (A:=RT.qy (n+1)) (a:=b) G G hM hu (eD _) (λu3 wb1 lE Ow _=>?_);replace hu:=hu.le Ow.le;replace j3:=j3.le (bS _) Ow.le;replace hM:=Ow.lt hM;have:=S.size;replace S:=S.av Ow;refine Rg.aZ G G (T.aO ?_);refine au (A:=RT.qy (n+1)) (B:=RT.int .i64) aU G G I3 XT (XE n) G G (bS _) j3 b4 (λMQ oS=>?_);refine bV aj G G oS b4 (λwu=>?_);refine aY (v':= .int .i64 a.kind) G ?_;refine au (A:=RT.qy (n+1)) (B:=RT.int .i64) aU G G I3 XT (XE n) G G (bS _) lE b4 (λu12 A6=>?_);refine bV aj G G A6 b4 (λVX=>?_);refine aY (v':= .int .i64 b.kind) G (gN G G G (ab G G ?_));refine aW (g:=10) G (λj8=>?_) (λj8=>?_)
 ·refine ah G G ?_;refine au (A:=RT.qy (n+1)) (B:=RT.fd) aU G G nE XT (V2 n) G G (bS _) j3 b4 (λu16 Bf=>?_);refine ah G G ?_;refine bZ (A:=RT.fd) bR G nE XT G G G Bf b4 (λv17 Hv=>?_);obtain rfl:=j9 Hv;refine ah G G ?_;refine au (A:=RT.qy (n+1)) (B:=RT.fd) aU G G nE XT (V2 n) G G (bS _) lE b4 (λu18 QZ=>?_);refine ah G G ?_;refine bZ (A:=RT.fd) bR G nE XT G G G QZ b4 (λv19 Nh=>?_);obtain rfl:=j9 Nh;refine ah G G (Rg.ao0 (p:=a.term) (q:=b.term) bR (by kernel_rfl) (by kernel_rfl) XT XT G G aG aG G G G (a8 G G G (ab G G ?_)));refine aW (g:=17) G (λwH=>?_) (λwH=>?_)
  ·refine ah G G ?_;refine au (A:=RT.qy (n+1)) (B:=(RT.str.sl)) aU G G BW XT (qp2 n) G G (bS _) j3 b4 (λayS ahn=>?_);refine ah G G ?_;refine bM aQ G G G G G ahn b4 (λayT aho=>?_);refine ah G G ?_;refine au (A:=RT.qy (n+1)) (B:=(RT.str.sl)) aU G G BW XT (qp2 n) G G (bS _) lE b4 (λayU ahp=>?_);refine ah G G ?_;refine bM aQ G G G G G ahp b4 (λayV ahq=>?_);refine ah G G ?_;refine aJ G G ape (SV _ hM aho ahq) (λayW ayX hc=>?_);obtain⟨rfl,V7⟩:=hc;replace j3:=j3.le (bS _) V7.le;replace lE:=lE.le (bS _) V7.le;replace hM:=V7.lt hM;have:=S.size;replace S:=S.av V7;refine a8 G G G (ab G G ?_);refine aW (g:=24) G (λwI=>?_) (λwI=>?_)
   ·refine ah G G ?_;refine au (A:=RT.qy (n+1)) (B:=((RT.qy n).sl (bS n))) aU G G Ie Nat.one_pos (XF n) G G (bS _) j3 b4 (λapj Tb=>?_);refine ah G G ?_;refine bM dh G G G G G Tb b4 (λaoh RP=>?_);refine ah G G ?_;refine au (A:=RT.qy (n+1)) (B:=((RT.qy n).sl (bS n))) aU G G Ie Nat.one_pos (XF n) G G (bS _) lE b4 (λayY ahr=>?_);refine ah G G ?_;refine bM dh G G G G G ahr b4 (λayZ ahs=>?_);refine ah G G ?_;refine aJ G G apf (NR _ hM RP ahs ih) (λay0 ay1 hc=>?_);obtain⟨rfl,V8⟩:=hc;replace j3:=j3.le (bS _) V8.le;replace lE:=lE.le (bS _) V8.le;replace hM:=V8.lt hM;have:=S.size;replace S:=S.av V8;refine a8 G G G (Rg.aZ G G (aM ?_))
    first
    |exact a61
    |exact a83
    |exact a88
    |exact a89
   ·refine ak G G G G (ak G G G G (ak G G G G (ak G G G G (ak G G G G (aD G G G (Rg.aZ G G (aM ?_)))))))
    first
    |exact a61
    |exact a83
    |exact a88
    |exact a89
  ·refine ak G G G G (ak G G G G (ak G G G G (ak G G G G (ak G G G G (aD G G G (ab G G (ak G G G G (ak G G G G (ak G G G G (ak G G G G (ak G G G G ?_)))))))))));refine aD G G G (Rg.aZ G G (aM ?_))
   first
   |exact a61
   |exact a83
   |exact a88
   |exact a89
 ·refine ak G G G G (ak G G G G (ak G G G G (ak G G G G (ak G G G G (aD G G G (ab G G (ak G G G G (ak G G G G (ak G G G G (ak G G G G (ak G G G G ?_)))))))))));refine aD G G G (ab G G (ak G G G G (ak G G G G (ak G G G G (ak G G G G (ak G G G G (aD G G G (Rg.aZ G G (aM ?_)))))))))
  first
  |exact a61
  |exact a83
  |exact a88
  |exact a89
theorem Bv:∀(n:Nat) {M:aE} {a b:Qy} {v u:Value} (w0:World) (hM:Lt M w0) (hv:(RT.qy n).V M w0 a v) (hu:(RT.qy n).V M w0 b u),Spec Tryz.prog 162 #[v,u] w0 (λv' w'=>v'= .bool (decide (a=b))/\Step M w0 M w' ar)
 |0,M,a,b,v,u,w0,hM,hv,hu=>Bu (n:=0) w0 hM (n4 hv) (n4 hu) λx hx=>by
  obtain⟨vs,⟨_,_,_,_,_,_,_,_,_,_,_,_,hk,_⟩,_⟩:=hv;have hk:a.kids=[]:=hk;rw[hk]at hx;cases hx
 |n+1,M,a,b,v,u,w0,hM,hv,hu=>Bu w0 hM hv hu λx _ y _ M w v u hM hv hu=>Bv n w hM hv hu
end Go.K
namespace Go.K
open Go.Proofs
namespace TKQKind
theorem Ie:TI Tryz.prog 26 (.slice none 0 0) 1 24:=by unfold TI;kernel_rfl
theorem jH:TI Tryz.prog 28 (.agg #[(.int .i64 0),(.string ⟨#[]⟩),(.string ⟨#[]⟩),(.slice none 0 0),(.slice none 0 0)]) 5 88:=by unfold TI;kernel_rfl
theorem EJ:TI Tryz.prog 267 (.agg #[(.string ⟨#[]⟩),.nilFunc,.nilFunc,.nilFunc]) 4 40:=by unfold TI;kernel_rfl
theorem V9:placesOf Tryz.prog 28=[(0,1),(1,2),(3,1),(4,1)].map some:=by kernel_rfl
theorem Tc:placesOf Tryz.prog 267=[(0,1),(1,1),(2,1),(3,1)].map some:=by kernel_rfl
theorem abE:Enters Tryz.prog 211:=enters Tryz.func211 rfl XT
end TKQKind
open TKQKind
set_option maxRecDepth 10000
def kS:Qy->Qy
 |.mk k t ws ks=>if k=1 then .mk k t [] []else if k=5 then .mk k (t.1,[]) ws []else .mk k ([],[]) [] ks
def KV (k:Int) (v:Value) (w:World):Prop:=
 (k=1/\v= .agg #[.string ⟨#[]⟩,.func (.func 203) #[] #[],.func (.func 204) #[] #[],.func (.func 205) #[] #[]])\/
 (k=5/\v= .agg #[.string ⟨#[]⟩,.func (.func 207) #[] #[],.func (.func 208) #[] #[],.func (.func 209) #[] #[]])\/
 ((k=2\/k=3\/k=4)/\∃b wd fv,v= .agg #[.string wd,.func (.func 202) #[] #[],.func (.func 269) #[] #[.pointer (some ⟨b,0,none⟩)],.func (.func fv) #[] #[]]/\w.heap[b]? =some (.cells #[.int .i64 (if k=4 then 1 else 8)] 3 (0,0)))\/
 ((k<1\/5<k)/\v= .agg #[.string ⟨#[]⟩,.nilFunc,.nilFunc,.nilFunc])
theorem KV.step {k:Int} {v:Value} {M M' N:aE} {w w':World} (h:KV k v w) (s:Step M w M' w' N) (hN:∀b,N b->∀cs,w.heap[b]? ≠some (.cells cs 3 (0,0))):KV k v w':=by
 rcases h with h|h|⟨h1,b,wd,fv,h2,h3⟩|h
 ·exact .inl h
 ·exact .inr (.inl h)
 ·exact .inr (.inr (.inl ⟨h1,b,wd,fv,h2,s.bL h3 λhn=>hN b hn _ h3⟩))
 ·exact .inr (.inr (.inr h))
theorem KV.cells {k:Int} {v:Value} {w:World} (h:KV k v w):∃a b c d,v= .agg #[a,b,c,d]/\a.oneCell'=true/\b.oneCell'=true/\c.oneCell'=true/\d.oneCell'=true:=by
 rcases h with⟨_,h⟩|⟨_,h⟩|⟨_,b,wd,fv,h,_⟩|⟨_,h⟩
 all_goals exact⟨_,_,_,_,h,rfl,rfl,rfl,rfl⟩
theorem yc {M:aE} {k:Int} (w0:World) (hM:Lt M w0):
  Spec Tryz.prog 211 #[.int .i64 k] w0 (λv w=>∃b,v= .func (.func 269) #[] #[.pointer (some ⟨b,0,none⟩)]/\w0.heap.size<=b/\w.heap[b]? =some (.cells #[.int .i64 k] 3 (0,0))/\Step M w0 M w ar):=by
 refine aS (args:=[_]) (fn:=Tryz.f211) Tryz.func211 G (n:=4) Tryz.ntmps211 (T.aO ?_);refine iP M G G (λb1 w1 p1 q1 g1 s1=>?_);change w1.heap[b1]? =some (.cells #[.int .i64 k] _ _)at g1;refine Rg.aZ G G (T.aO (gz (xs:=[]) (ys:=[.tmp 1]) G G G (Rg.aZ G G (aM ?_))));exact aP G G ⟨b1,G,p1,g1,s1.back⟩
set_option maxHeartbeats 2000000 in
theorem Kl {M:aE} (w0:World) (hM:Lt M w0):
  Spec Tryz.prog 161 #[] w0 (λv w=>∃mb es clock,v= .map (some mb)/\w.heap[mb]? =some (.map (es:List MapEntry).toArray clock)/\(∀(k:Int),∃o,Instr.findNow (.int .i64) (.int .i64 k) es 0=some o/\o.isSome=decide (1<=k/\k<=5)/\KV k ((o.map Prod.snd).getD (.agg #[.string ⟨#[]⟩,.nilFunc,.nilFunc,.nilFunc])) w)/\Step M w0 M w ar):=by
 refine aS (args:=[]) (fn:=Tryz.f161) Tryz.func161 G (n:=15) Tryz.ntmps161 (T.aO (Rg.aZ G G (T.aO (Rg.aZ G G (T.aO ?_)))));refine Rg.AI M tB G (λmb wk hmb _ hW S=>?_);have gk:=hW.at_;obtain⟨Mk,hMk⟩:∃Mk,Mk=ins M mb:=⟨_,rfl⟩;have mk:Mk mb:=by rw[hMk];exact .inl G
 rw[<-hMk]at S;replace hM:=S.lt hM;clear hW;refine dp (places:=[(0,1),(1,1),(2,1),(3,1)]) tC EJ Tc rfl ⟨_,_,rfl,rfl,_,_,rfl,rfl,_,_,rfl,rfl,_,_,rfl,rfl,rfl⟩ (out:=[_,_,_,_]) ⟨0,[_],rfl,rfl,by simp[Value.cells],1,[_],rfl,rfl,by simp[Value.cells],2,[_],rfl,rfl,by simp[Value.cells],3,[_],rfl,rfl,by simp[Value.cells],rfl⟩ ?_;refine Rg.wx (es:=[]) (M:=Mk) tB aj G G G gk G mk (λw1 g1 s1=>?_);replace S:=S.cq s1 (λq hq=>by have hq:q=mb:=hq;omega);replace hM:=s1.lt hM;replace mk:=(s1.mem _ (ae gk)).2 mk;refine dp (places:=[(0,1),(1,1),(2,1),(3,1)]) tC EJ Tc rfl ⟨_,_,rfl,rfl,_,_,rfl,rfl,_,_,rfl,rfl,_,_,rfl,rfl,rfl⟩ (out:=[_,_,_,_]) ⟨0,[_],rfl,rfl,by simp[Value.cells],1,[_],rfl,rfl,by simp[Value.cells],2,[_],rfl,rfl,by simp[Value.cells],3,[_],rfl,rfl,by simp[Value.cells],rfl⟩ ?_;refine Rg.wx (es:=[_]) (M:=Mk) tB aj G G G g1 G mk (λw5 g5 s5=>?_);replace S:=S.cq s5 (λq hq=>by have hq:q=mb:=hq;omega);replace hM:=s5.lt hM;replace mk:=(s5.mem _ (ae g1)).2 mk;refine ab G G ?_;refine aJ G G abE (yc (M:=Mk) (k:=8) _ hM) (λrm2 wm2 hc=>?_);obtain⟨bm2,rfl,pm2,Td,sm2⟩:=hc;have nb2:bm2≠mb:=by have:=ae g5;omega
 replace S:=S.av sm2;replace hM:=sm2.lt hM;replace mk:=(sm2.mem _ (ae g5)).2 mk;replace g5:=sm2.ay g5;refine dp (places:=[(0,1),(1,1),(2,1),(3,1)]) tC EJ Tc rfl ⟨_,_,rfl,rfl,_,_,rfl,rfl,_,_,rfl,rfl,_,_,rfl,rfl,rfl⟩ (out:=[_,_,_,_]) ⟨0,[_],rfl,rfl,by simp[Value.cells],1,[_],rfl,rfl,by simp[Value.cells],2,[_],rfl,rfl,by simp[Value.cells],3,[_],rfl,rfl,by simp[Value.cells],rfl⟩ ?_;refine Rg.wx (es:=[_,_]) (M:=Mk) tB aj G G G g5 G mk (λw2 g2 s2=>?_);replace S:=S.cq s2 (λq hq=>by have hq:q=mb:=hq;omega);replace hM:=s2.lt hM;replace mk:=(s2.mem _ (ae g5)).2 mk;replace Td:=s2.bL Td nb2;refine ab G G ?_;refine aJ G G abE (yc (M:=Mk) (k:=8) _ hM) (λrm3 wm3 hc=>?_);obtain⟨bm3,rfl,pm3,gm3,sm3⟩:=hc;have nb3:bm3≠mb:=by have:=ae g2;omega
 replace S:=S.av sm3;replace hM:=sm3.lt hM;replace mk:=(sm3.mem _ (ae g2)).2 mk;replace g2:=sm3.ay g2;replace Td:=sm3.ay Td;refine dp (places:=[(0,1),(1,1),(2,1),(3,1)]) tC EJ Tc rfl ⟨_,_,rfl,rfl,_,_,rfl,rfl,_,_,rfl,rfl,_,_,rfl,rfl,rfl⟩ (out:=[_,_,_,_]) ⟨0,[_],rfl,rfl,by simp[Value.cells],1,[_],rfl,rfl,by simp[Value.cells],2,[_],rfl,rfl,by simp[Value.cells],3,[_],rfl,rfl,by simp[Value.cells],rfl⟩ ?_;refine Rg.wx (es:=[_,_,_]) (M:=Mk) tB aj G G G g2 G mk (λw3 g3 s3=>?_);replace S:=S.cq s3 (λq hq=>by have hq:q=mb:=hq;omega);replace hM:=s3.lt hM;replace mk:=(s3.mem _ (ae g2)).2 mk;replace Td:=s3.bL Td nb2;replace gm3:=s3.bL gm3 nb3;refine ab G G ?_;refine aJ G G abE (yc (M:=Mk) (k:=1) _ hM) (λrm4 wm4 hc=>?_);obtain⟨bm4,rfl,pm4,gm4,sm4⟩:=hc;have nb4:bm4≠mb:=by have:=ae g3;omega
 replace S:=S.av sm4;replace hM:=sm4.lt hM;replace mk:=(sm4.mem _ (ae g3)).2 mk;replace g3:=sm4.ay g3;replace Td:=sm4.ay Td;replace gm3:=sm4.ay gm3;refine dp (places:=[(0,1),(1,1),(2,1),(3,1)]) tC EJ Tc rfl ⟨_,_,rfl,rfl,_,_,rfl,rfl,_,_,rfl,rfl,_,_,rfl,rfl,rfl⟩ (out:=[_,_,_,_]) ⟨0,[_],rfl,rfl,by simp[Value.cells],1,[_],rfl,rfl,by simp[Value.cells],2,[_],rfl,rfl,by simp[Value.cells],3,[_],rfl,rfl,by simp[Value.cells],rfl⟩ ?_;refine Rg.wx (es:=[_,_,_,_]) (M:=Mk) tB aj G G G g3 G mk (λw4 g4 s4=>?_);replace S:=S.cq s4 (λq hq=>by have hq:q=mb:=hq;omega);replace hM:=s4.lt hM;replace mk:=(s4.mem _ (ae g3)).2 mk;replace Td:=s4.bL Td nb2;replace gm3:=s4.bL gm3 nb3;replace gm4:=s4.bL gm4 nb4;refine ab G G (Rg.aZ G G (aM ?_));refine aP G G ⟨mb,_,_,G,g4,λk=>?_,S.back⟩;have fw:∀a b:Int,¬a=b->(a==b)=false:=λa b h=>by simpa using h
 by_cases h1:k=1
 ·subst h1;exact⟨_,G,G,.inl ⟨G,G⟩⟩
 by_cases h5:k=5
 ·subst h5;exact⟨_,G,G,.inr (.inl ⟨G,G⟩)⟩
 by_cases h2:k=2
 ·subst h2;exact⟨_,G,G,.inr (.inr (.inl ⟨.inl G,bm2,_,_,G,Td⟩))⟩
 by_cases h3:k=3
 ·subst h3;exact⟨_,G,G,.inr (.inr (.inl ⟨.inr (.inl G),bm3,_,_,G,gm3⟩))⟩
 by_cases h4:k=4
 ·subst h4;exact⟨_,G,G,.inr (.inr (.inl ⟨.inr (.inr G),bm4,_,_,G,gm4⟩))⟩
 refine⟨none,?_,?_,.inr (.inr (.inr ⟨by omega,rfl⟩))⟩
 ·simp[Instr.findNow,Instr.sameNow,fw _ _ h1,fw _ _ h2,fw _ _ h3,fw _ _ h4,fw _ _ h5]
 ·exact(decide_eq_false q0).symm
theorem NS {M:aE} {n:Nat} {q:Qy} {v:Value} (w0:World) (hM:Lt M w0) (hv:(RT.qy (n+1)).V M w0 q v) (hk:q.kind=2\/q.kind=3\/q.kind=4):
  Spec Tryz.prog 202 #[v] w0 (λv w=>(RT.qy (n+1)).V M w (kS q) v/\Step M w0 M w ar):=by
 have iz:=hM;obtain⟨_,_,_,hkr,yn,_,_⟩:=pW hv
 have hqb:kS q= .mk q.kind ([],[]) [] q.kids:=by
  obtain⟨k,t,ws,ks⟩:=q
  first
  |exact if_pos hk
  |exact(if_neg (by show¬k=1;have hk:k=5:=hk;omega)).trans (if_pos hk)
  |exact(if_neg ap1).trans (if_neg ap7)
 refine aS (args:=[_]) (fn:=Tryz.f202) Tryz.func202 G (n:=8) Tryz.ntmps202 ?_;have S:Step M w0 M w0 ar:=aV;refine T.aO ?_;refine gR (A:=RT.qy (n+1)) (a:=q) G G hM hv (eD _) (λu1 Ov jP lg _=>?_);replace hv:=hv.le lg.le;replace hM:=lg.lt hM;have:=S.size;replace S:=S.av lg;refine ek M jH G (λka xE MS MT fc ju=>?_);obtain⟨gq,iK⟩:∃M',M'=ins M ka:=⟨_,rfl⟩;rw[<-iK]at ju;have eo:gq ka:=by rw[iK];exact .inl G
 change xE.heap[ka]? =some (.cells #[.int .i64 0,.string ⟨#[]⟩,.string ⟨#[]⟩,.slice none 0 0,.slice none 0 0] _ _)at fc;replace jP:=jP.le (bS _) ju.le;replace hM:=ju.lt hM;have:=S.size;replace S:=S.av ju;refine ad (T.aO ?_);refine au (A:=RT.qy (n+1)) (B:=RT.int .i64) aU G G I3 XT (XE n) G G (bS _) jP b4 (λMQ oS=>?_);refine bV aj G G oS b4 (λwu=>?_);refine aY (v':= .int .i64 q.kind) G ?_;refine au (A:=RT.qy (n+1)) (B:=((RT.qy n).sl (bS n))) aU G G Ie Nat.one_pos (XF n) G G (bS _) jP b4 (λu12 A6=>?_);refine bM dh G G G G G A6 b4 (λZ4 HO=>?_);refine dp (places:=[(0,1),(1,2),(3,1),(4,1)]) aU jH V9 rfl ⟨_,_,rfl,rfl,_,_,rfl,rfl,rfl⟩ (out:=[_,.string ⟨#[]⟩,.string ⟨#[]⟩,.slice none 0 0,_]) ⟨0,[_],rfl,rfl,by simp[Value.cells],4,[_],rfl,iF HO,by simp[Value.cells],rfl⟩ ?_;refine dX (M:=gq) (vs:=[.int .i64 q.kind,.string ⟨#[]⟩,.string ⟨#[]⟩,.slice none 0 0,Z4]) jH G G a97 rfl rfl fc eo (λw5 g5 s5=>?_);have:=ae fc;replace eo:=(s5.mem _ this).2 eo;replace jP:=jP.le (bS _) s5.le;replace HO:=HO.le s5.le;replace hM:=s5.lt hM;have:=S.size;replace S:=S.trans s5 (λk hk h=>by have h:_=_:=h;subst h;first|(exfalso;omega)|(show _<=_;omega)|exact⟨by first|omega|assumption,(S.mem _ hk).1 ((s5.mem _ (ae fc)).1 eo)⟩|exact .inl rfl|exact .inr rfl|exact .inr (.inl rfl)|exact .inr (.inr rfl)|exact .inr (.inr (.inl rfl))|exact rfl);have nI:=g5;clear fc;have fc:=nI;clear nI;refine ad (aM ?_);rw[hqb];exact tT G G aU G jH G g5 ⟨HG hkr ⟨by decide,by decide⟩ gC (HO.le (ni iz S)),S.back⟩
theorem NT {M:aE} {n:Nat} {q:Qy} {v:Value} (w0:World) (hM:Lt M w0) (hv:(RT.qy (n+1)).V M w0 q v) (hk:q.kind=1):
  Spec Tryz.prog 203 #[v] w0 (λv w=>(RT.qy (n+1)).V M w (kS q) v/\Step M w0 M w ar):=by
 have iz:=hM;obtain⟨_,_,_,hkr,yn,_,_⟩:=pW hv
 have hqb:kS q= .mk q.kind q.term [] []:=by
  obtain⟨k,t,ws,ks⟩:=q
  first
  |exact if_pos hk
  |exact(if_neg (by show¬k=1;have hk:k=5:=hk;omega)).trans (if_pos hk)
  |exact(if_neg ap1).trans (if_neg ap7)
 refine aS (args:=[_]) (fn:=Tryz.f203) Tryz.func203 G (n:=8) Tryz.ntmps203 ?_;have S:Step M w0 M w0 ar:=aV;refine T.aO ?_;refine gR (A:=RT.qy (n+1)) (a:=q) G G hM hv (eD _) (λu1 Ov jP lg _=>?_);replace hv:=hv.le lg.le;replace hM:=lg.lt hM;have:=S.size;replace S:=S.av lg;refine ek M jH G (λka xE MS MT fc ju=>?_);obtain⟨gq,iK⟩:∃M',M'=ins M ka:=⟨_,rfl⟩;rw[<-iK]at ju;have eo:gq ka:=by rw[iK];exact .inl G
 change xE.heap[ka]? =some (.cells #[.int .i64 0,.string ⟨#[]⟩,.string ⟨#[]⟩,.slice none 0 0,.slice none 0 0] _ _)at fc;replace jP:=jP.le (bS _) ju.le;replace hM:=ju.lt hM;have:=S.size;replace S:=S.av ju;refine ad (T.aO ?_);refine au (A:=RT.qy (n+1)) (B:=RT.int .i64) aU G G I3 XT (XE n) G G (bS _) jP b4 (λMQ oS=>?_);refine bV aj G G oS b4 (λwu=>?_);refine aY (v':= .int .i64 q.kind) G ?_;refine au (A:=RT.qy (n+1)) (B:=RT.fd) aU G G nE XT (V2 n) G G (bS _) jP b4 (λu12 A6=>?_);refine bZ (A:=RT.fd) bR G nE XT G G G A6 b4 (λZ4 HO=>?_);obtain rfl:=j9 HO;refine dp (places:=[(0,1),(1,2),(3,1),(4,1)]) aU jH V9 rfl ⟨_,_,rfl,rfl,_,_,rfl,rfl,rfl⟩ (out:=[_,_,_,.slice none 0 0,.slice none 0 0]) ⟨0,[_],rfl,rfl,by simp[Value.cells],1,[_,_],rfl,rfl,by simp[Value.cells],rfl⟩ ?_;refine dX (M:=gq) (vs:=[.int .i64 q.kind,.string ⟨q.term.1.toArray⟩,.string ⟨q.term.2.toArray⟩,.slice none 0 0,.slice none 0 0]) jH G G a97 rfl rfl fc eo (λw5 g5 s5=>?_);have:=ae fc;replace eo:=(s5.mem _ this).2 eo;replace jP:=jP.le (bS _) s5.le;replace hM:=s5.lt hM;have:=S.size;replace S:=S.trans s5 (λk hk h=>by have h:_=_:=h;subst h;first|(exfalso;omega)|(show _<=_;omega)|exact⟨by first|omega|assumption,(S.mem _ hk).1 ((s5.mem _ (ae fc)).1 eo)⟩|exact .inl rfl|exact .inr rfl|exact .inr (.inl rfl)|exact .inr (.inr rfl)|exact .inr (.inr (.inl rfl))|exact rfl);have nI:=g5;clear fc;have fc:=nI;clear nI;refine ad (aM ?_);rw[hqb];exact tT G G aU G jH G g5 ⟨HG hkr yn gC gC,S.back⟩
theorem HT {M:aE} {n:Nat} {q:Qy} {v:Value} (w0:World) (hM:Lt M w0) (hv:(RT.qy (n+1)).V M w0 q v) (hk:q.kind=5):
  Spec Tryz.prog 207 #[v] w0 (λv w=>(RT.qy (n+1)).V M w (kS q) v/\Step M w0 M w ar):=by
 have iz:=hM;obtain⟨_,_,_,hkr,yn,_,_⟩:=pW hv
 have hqb:kS q= .mk q.kind (q.term.1,[]) q.words []:=by
  obtain⟨k,t,ws,ks⟩:=q
  first
  |exact if_pos hk
  |exact(if_neg (by show¬k=1;have hk:k=5:=hk;omega)).trans (if_pos hk)
  |exact(if_neg ap1).trans (if_neg ap7)
 refine aS (args:=[_]) (fn:=Tryz.f207) Tryz.func207 G (n:=12) Tryz.ntmps207 ?_;have S:Step M w0 M w0 ar:=aV;refine T.aO ?_;refine gR (A:=RT.qy (n+1)) (a:=q) G G hM hv (eD _) (λu1 Ov jP lg _=>?_);replace hv:=hv.le lg.le;replace hM:=lg.lt hM;have:=S.size;replace S:=S.av lg;refine ek M jH G (λka xE MS MT fc ju=>?_);obtain⟨gq,iK⟩:∃M',M'=ins M ka:=⟨_,rfl⟩;rw[<-iK]at ju;have eo:gq ka:=by rw[iK];exact .inl G
 change xE.heap[ka]? =some (.cells #[.int .i64 0,.string ⟨#[]⟩,.string ⟨#[]⟩,.slice none 0 0,.slice none 0 0] _ _)at fc;replace jP:=jP.le (bS _) ju.le;replace hM:=ju.lt hM;have:=S.size;replace S:=S.av ju;refine ad (T.aO ?_);refine au (A:=RT.qy (n+1)) (B:=RT.int .i64) aU G G I3 XT (XE n) G G (bS _) jP b4 (λMQ oS=>?_);refine bV aj G G oS b4 (λwu=>?_);refine aY (v':= .int .i64 q.kind) G ?_;refine au (A:=RT.qy (n+1)) (B:=RT.fd) aU G G nE XT (V2 n) G G (bS _) jP b4 (λu12 A6=>?_);refine au (A:=RT.fd) (B:=RT.str) bR G G I9 XT MM G G XT A6 b4 (λu13 abr=>?_);refine bM aG G G G G G abr b4 (λv14 abG=>?_);obtain rfl:=eJ abG;refine dp (places:=[(0,1),(1,1)]) bR nE B24 rfl ⟨_,_,rfl,rfl,rfl⟩ (out:=[_,.string ⟨#[]⟩]) ⟨0,[_],rfl,rfl,by simp[Value.cells],rfl⟩ ?_;refine au (A:=RT.qy (n+1)) (B:=(RT.str.sl)) aU G G BW XT (qp2 n) G G (bS _) jP b4 (λu16 Bf=>?_);refine bM aQ G G G G G Bf b4 (λv17 Hv=>?_);refine dp (places:=[(0,1),(1,2),(3,1),(4,1)]) aU jH V9 rfl ⟨_,_,rfl,rfl,_,_,rfl,rfl,_,_,rfl,rfl,rfl⟩ (out:=[_,_,_,_,.slice none 0 0]) ⟨0,[_],rfl,rfl,by simp[Value.cells],1,[_,_],rfl,rfl,by simp[Value.cells],3,[_],rfl,iF Hv,by simp[Value.cells],rfl⟩ ?_;refine dX (M:=gq) (vs:=[.int .i64 q.kind,.string ⟨q.term.1.toArray⟩,.string ⟨#[]⟩,v17,.slice none 0 0]) jH G G a97 rfl rfl fc eo (λw5 g5 s5=>?_);have:=ae fc;replace eo:=(s5.mem _ this).2 eo;replace jP:=jP.le (bS _) s5.le;replace Hv:=Hv.le s5.le;replace hM:=s5.lt hM;have:=S.size
 replace S:=S.trans s5 (λk hk h=>by have h:_=_:=h;subst h;first|(exfalso;omega)|(show _<=_;omega)|exact⟨by first|omega|assumption,(S.mem _ hk).1 ((s5.mem _ (ae fc)).1 eo)⟩|exact .inl rfl|exact .inr rfl|exact .inr (.inl rfl)|exact .inr (.inr rfl)|exact .inr (.inr (.inl rfl))|exact rfl);have nI:=g5;clear fc;have fc:=nI;clear nI;refine ad (aM ?_);rw[hqb];exact tT G G aU G jH G g5 ⟨HG hkr ⟨yn.1,bm _⟩ (Hv.le (ni iz S)) gC,S.back⟩
end Go.K
namespace Go.K
open Go.Proofs
namespace TKWMay
theorem apm:Enters Tryz.prog 299:=enters Tryz.func299 rfl XT
end TKWMay
open TKWMay
set_option maxRecDepth 10000
theorem l9 {l x:List UInt8} (h1:(words l).length=1) (hx:(words l)[0]? =some x):fg l=(decide (x=l)&&decide (l.length<=30)):=by
 obtain⟨y,hy⟩:∃y,words l=[y]:=List.length_eq_one_iff.1 h1;rw[hy]at hx;have hx:y=x:=by simpa using hx
 unfold fg;rw[hy,hx,jh];simp
theorem yd {l:List UInt8} (h1: ¬(words l).length=1):fg l=false:=by
 unfold fg;rw[decide_eq_false_iff_not];rintro⟨h,_⟩;rw[h]at h1;exact h1 G
theorem NU {M:aE} {l:List UInt8} (w0:World) (hM:Lt M w0) (hl:l.length<=3900000):
  Spec Tryz.prog 299 #[.string ⟨l.toArray⟩] w0 (λv w=>v= .bool (fg l)/\Step M w0 M w ar):=by
 refine aS (args:=[_]) (fn:=Tryz.f299) Tryz.func299 G (n:=21) Tryz.ntmps299 ?_;have S:Step M w0 M w0 ar:=aV;refine T.aO (Rg.aZ G G (T.aO (ab G G ?_)));refine aJ G G YA (yy _ hM hl) (λr1 w1 hc=>?_);obtain⟨hr,s1⟩:=hc;replace hM:=s1.lt hM;have:=S.size;replace S:=S.av s1;refine Rg.aZ G G (T.aO (ab G G ?_));have WT:=l6 l;refine bB aQ G hr G (gN G G G (ab G G ?_));refine aW (g:=9) G (λapn=>?_) (λapn=>?_)
 ·refine ah G G (ab G G (ah G G ?_));obtain⟨x,hx⟩:∃x,(words l)[0]? =some x:=⟨_,an q0⟩;refine cx aQ I9 G G G hr b4 q0 (λu25 x_ fV apo=>?_);obtain rfl:=aF (hx.symm.trans fV);refine ah G G ?_;refine bM aG G G G G G apo b4 (λv26 apq=>?_);obtain rfl:=eJ apq;refine ah G G (ab G G (ah G G (Rg.zC G G G (a8 G G G (ab G G ?_)))));refine aW (g:=16) G (λBw=>?_) (λBw=>?_)
  ·refine ah G G (ab G G (ah G G (zg aG G G (aY (v':= .int .i64 (l.length:Int)) a86 (ah G G (gF G G G (a8 G G G (Rg.aZ G G (aM ?_)))))))))
   first
   |exact aP rfl rfl ⟨congrArg Value.bool ag8,S⟩
   |exact aP G G ⟨congrArg Value.bool (by rw[l9 q0 hx,decide_eq_false Bw,ei]),S⟩
   |exact aP G G ⟨congrArg Value.bool (by rw[yd q0]),S⟩
  ·refine ak G G G G (ak G G G G (ak G G G G (aD G G G (Rg.aZ G G (aM ?_)))))
   first
   |exact aP rfl rfl ⟨congrArg Value.bool ag8,S⟩
   |exact aP G G ⟨congrArg Value.bool (by rw[l9 q0 hx,decide_eq_false Bw,ei]),S⟩
   |exact aP G G ⟨congrArg Value.bool (by rw[yd q0]),S⟩
 ·refine ak G G G G (ak G G G G (ak G G G G (ak G G G G (ak G G G G (aD G G G (ab G G (ak G G G G (ak G G G G (ak G G G G (aD G G G (aB G G ?_)))))))))));refine ad (aM ?_)
  first
  |exact aP rfl rfl ⟨congrArg Value.bool ag8,S⟩
  |exact aP G G ⟨congrArg Value.bool (by rw[l9 q0 hx,decide_eq_false Bw,ei]),S⟩
  |exact aP G G ⟨congrArg Value.bool (by rw[yd q0]),S⟩
theorem XM {M:aE} {l:List UInt8} (w0:World) (hM:Lt M w0) (hl:l.length<=3900000):
  Spec Tryz.prog 266 #[.string ⟨l.toArray⟩] w0 (λv w=>v= .bool (!fg l)/\Step M w0 M w ar):=by
 refine aS (args:=[_]) (fn:=Tryz.f266) Tryz.func266 G (n:=6) Tryz.ntmps266 (T.aO (Rg.aZ G G (T.aO (ab G G ?_))));refine aJ G G apm (NU _ hM hl) (λr1 w1 hc=>?_);obtain⟨rfl,s1⟩:=hc;refine gM G G (Rg.aZ G G (aM ?_));exact aP G G ⟨G,s1⟩
end Go.K
namespace Go.K
open Go.Proofs
namespace TKQOwn
theorem Ie:TI Tryz.prog 26 (.slice none 0 0) 1 24:=by unfold TI;kernel_rfl
theorem apr:Enters Tryz.prog 202:=enters Tryz.func202 rfl XT
theorem aps:Enters Tryz.prog 203:=enters Tryz.func203 rfl XT
theorem apt:Enters Tryz.prog 204:=enters Tryz.func204 rfl XT
theorem apu:Enters Tryz.prog 207:=enters Tryz.func207 rfl XT
theorem apv:Enters Tryz.prog 208:=enters Tryz.func208 rfl XT
theorem ahv:Enters Tryz.prog 266:=enters Tryz.func266 rfl XT
theorem apw:Enters Tryz.prog 268:=enters Tryz.func268 rfl XT
theorem apx:Enters Tryz.prog 269:=enters Tryz.func269 rfl XT
theorem apy:Enters Tryz.prog 300:=enters Tryz.func300 rfl XT
end TKQOwn
open TKQOwn
set_option maxRecDepth 10000
theorem Km {M:aE} {l:List (List UInt8)} {v:Value} (w0:World) (hM:Lt M w0) (hv:(RT.str.sl).V M w0 l v) (hb:∀x∈l,x.length<=3900000):
  Spec Tryz.prog 300 #[v,.func (.func 266) #[] #[]] w0 (λv' w=>∃k:Int,v'= .int .i64 k/\ -1<=k/\(0<=k↔l.all fg=false)/\Step M w0 M w ar):=by
 have hlen:=dW hv;refine aS (args:=[_,_]) (fn:=Tryz.f300) Tryz.func300 G (n:=19) Tryz.ntmps300 ?_;have S:Step M w0 M w0 ar:=aV;refine T.aO (Rg.aZ G G (aI (T.aO (ab G G (bB aQ G hv G (ab G G (ad (aT ?_))))))));refine cR (σ:=Nat) (λi=>[(0,v),(1,.func (.func 266) #[] #[]),(7,.int .i64 (l.length:Int)),(8,.int .i64 (i:Int))]) (λi w=>i<=l.length/\Lt M w/\Step M w0 M w ar/\(RT.str.sl).V M w l v/\∀(j:Nat) x,j<i->l[j]? =some x->fg x=true) (λi=>l.length-i) 0 a01 ?_ ?_
 ·exact⟨bm _,hM,S,hv,λj x h=>absurd h (eL _)⟩
 ·clear hM S hv;rintro i w ⟨hi,hM,S,hv,jA⟩;refine T.aO (ck G G G (ad (aI ?_)));refine bI G (λc2=>?_) (λc2=>?_)
  ·refine aR (aI (aT (T.aO (ab G G (Rg.aZ G G (T.aO (ab G G (ab G G ?_))))))));refine ab G G ?_;obtain⟨x,hx⟩:∃x,l[i]? =some x:=⟨_,an q0⟩;have P1:=hb x (ax hx);refine cx aQ I9 G G G hv b4 q0 (λu43 x_ fV Sh=>?_);rw[aq]at fV;obtain rfl:=aF (hx.symm.trans fV);refine bM aG G G G G G Sh b4 (λv44 abH=>?_);obtain rfl:=eJ abH;refine ng (first:=[]) (captured:=[]) (xs:=[.tmp 15]) G G G ahv (XM (l:=x) _ hM P1) (λr4 w4 hc=>?_);obtain⟨rfl,s4⟩:=hc;refine aY (v':= .bool (decide (fg x=false))) (by cases fg x<;>rfl) ?_;replace hv:=hv.le s4.le;replace hM:=s4.lt hM;have:=S.size;replace S:=S.av s4;refine ad ?_;refine bI G (λc4=>?_) (λc4=>?_)
   ·refine T.aO (ab G G (Rg.aZ G G (aM ?_)));exact aP rfl rfl ⟨_,rfl,by omega,⟨λ_=>List.all_eq_false.2 ⟨x,ax hx,by rw[c4];decide⟩,λ_=>by omega⟩,S⟩
   ·refine aR (aN (br G G G q0 (ab G G (ad ?_))));refine⟨G,i+1,a01,?_,?_⟩
    ·refine ⟨by omega,hM,S,hv,λj y hj hy=> ?_⟩;rcases cL j i with h|h
     ·exact jA j y h hy
     ·obtain rfl:j=i:=by omega
      rw[hx]at hy;cases hy;simpa using c4
    ·omega
  ·refine cE (T.aO (Rg.aZ G G (aM ?_)))
   exact aP G G ⟨-1,G,by omega,⟨λh=>by omega,λh=>by
    obtain⟨x,hx,hn⟩:=List.all_eq_false.1 h;obtain⟨j,hj⟩:=bG.1 hx;exact absurd (jA j x (by have:=(al.1 hj).1;omega) hj) hn⟩,S⟩
theorem HU {M:aE} {l:List (List UInt8)} {v:Value} (w0:World) (hM:Lt M w0) (hv:(RT.str.sl).V M w0 l v) (hb:∀x∈l,x.length<=3900000):
  Spec Tryz.prog 268 #[v,.func (.func 266) #[] #[]] w0 (λv' w=>v'= .bool (decide (l.all fg=false))/\Step M w0 M w ar):=by
 refine aS (args:=[_,_]) (fn:=Tryz.f268) Tryz.func268 G (n:=9) Tryz.ntmps268 (T.aO (Rg.aZ G G (T.aO (ab G G (ab G G ?_)))));refine aJ G G apy (Km _ hM hv hb) (λr1 w1 hc=>?_);obtain⟨k,rfl,qJ,DB,s1⟩:=hc;refine eh G G G (Rg.aZ G G (aM ?_));exact aP G G ⟨congrArg Value.bool (decide_eq_decide.2 DB),s1⟩
theorem Kn {M:aE} {n:Nat} {q:Qy} {v:Value} (w0:World) (hM:Lt M w0) (hv:(RT.qy (n+1)).V M w0 q v) (hb:q.term.2.length<=3900000):
  Spec Tryz.prog 204 #[v] w0 (λv w=>v= .int .i64 (if fe q.term.1=false then 4 else if fg q.term.2=true then 0 else 9)/\Step M w0 M w ar):=by
 have wO:=hv;refine aS (args:=[_]) (fn:=Tryz.f204) Tryz.func204 G (n:=14) Tryz.ntmps204 ?_;have S:Step M w0 M w0 ar:=aV;refine T.aO ?_;refine gR (A:=RT.qy (n+1)) (a:=q) G G hM hv (eD _) (λu1 Ov jP lg _=>?_);replace hv:=hv.le lg.le;replace hM:=lg.lt hM;have:=S.size;replace S:=S.av lg;refine Rg.aZ G G (aI (aT (T.aO ?_)));refine au (A:=RT.qy (n+1)) (B:=RT.fd) aU G G nE XT (V2 n) G G (bS _) jP b4 (λMQ oS=>?_);refine au (A:=RT.fd) (B:=RT.str) bR G G I9 XT MM G G XT oS b4 (λu11 Te=>?_);refine bM aG G G G G G Te b4 (λv12 abI=>?_);obtain rfl:=eJ abI;obtain⟨_,_,_,_,yn,_,_⟩:=pW wO;refine aJ G G Yz (xB q.term.1 yn.1 _) (λr13 Vi hc=>?_);obtain⟨rfl,abJ⟩:=hc;have oh:=abJ M;replace jP:=jP.le (bS _) oh.le;replace hM:=oh.lt hM;have:=S.size;replace S:=S.av oh;refine gM rfl rfl (aY (v':= .bool (decide (fe q.term.1=false))) (by cases fe q.term.1<;>rfl) (Rg.aZ rfl rfl ?_));refine bI G (λc1=>?_) (λc1=>?_)
 ·refine T.aO (Rg.aZ G G (aM ?_));exact aP rfl rfl ⟨by rw[if_pos c1],S⟩
 ·refine T.aO ?_;refine au (A:=RT.qy (n+1)) (B:=RT.fd) aU G G nE XT (V2 n) G G (bS _) jP b4 (λu30 abK=>?_);refine au (A:=RT.fd) (B:=RT.str) bR G G I9 XT Zk G G XT abK b4 (λu31 abL=>?_);refine bM aG G G G G G abL b4 (λv32 abM=>?_);obtain rfl:=eJ abM;refine aJ G G ahv (XM _ hM hb) (λr33 w33 hc=>?_);obtain⟨rfl,s33⟩:=hc;refine aY (v':= .bool (decide (fg q.term.2=false))) (by cases fg q.term.2<;>rfl) ?_;replace jP:=jP.le (bS _) s33.le;replace hM:=s33.lt hM;have:=S.size;replace S:=S.av s33;refine Rg.aZ G G ?_;refine bI G (λc3=>?_) (λc3=>?_)
  ·refine T.aO (Rg.aZ G G (aM ?_));exact aP rfl rfl ⟨by rw[if_neg c1,if_neg (by rw[c3];decide)],S⟩
  ·refine aR (T.aO (Rg.aZ G G (aM ?_)));exact aP rfl rfl ⟨by rw[if_neg c1,if_pos (by simpa using c3)],S⟩
theorem EK {M:aE} {n:Nat} {q:Qy} {v:Value} (w0:World) (hM:Lt M w0) (hv:(RT.qy (n+1)).V M w0 q v) (hb:∀x∈q.words,x.length<=3900000):
  Spec Tryz.prog 208 #[v] w0 (λv w=>v= .int .i64 (if fe q.term.1=false then 4 else if q.words=[]then 9 else if q.words.all fg=false then 9 else if 6<q.words.length then 7 else 0)/\Step M w0 M w ar):=by
 have wO:=hv;refine aS (args:=[_]) (fn:=Tryz.f208) Tryz.func208 G (n:=24) Tryz.ntmps208 ?_;have S:Step M w0 M w0 ar:=aV;refine T.aO ?_;refine gR (A:=RT.qy (n+1)) (a:=q) G G hM hv (eD _) (λu1 Ov jP lg _=>?_);replace hv:=hv.le lg.le;replace hM:=lg.lt hM;have:=S.size;replace S:=S.av lg;refine Rg.aZ G G (aI (aT (T.aO ?_)));refine au (A:=RT.qy (n+1)) (B:=RT.fd) aU G G nE XT (V2 n) G G (bS _) jP b4 (λMQ oS=>?_);refine au (A:=RT.fd) (B:=RT.str) bR G G I9 XT MM G G XT oS b4 (λu11 Te=>?_);refine bM aG G G G G G Te b4 (λv12 abI=>?_);obtain rfl:=eJ abI;obtain⟨_,_,_,_,yn,_,_⟩:=pW wO;refine aJ G G Yz (xB q.term.1 yn.1 _) (λr13 Vi hc=>?_);obtain⟨rfl,abJ⟩:=hc;have oh:=abJ M;replace jP:=jP.le (bS _) oh.le;replace hM:=oh.lt hM;have:=S.size;replace S:=S.av oh;refine gM rfl rfl (aY (v':= .bool (decide (fe q.term.1=false))) (by cases fe q.term.1<;>rfl) (Rg.aZ rfl rfl ?_));refine bI G (λc1=>?_) (λc1=>?_)
 ·refine T.aO (Rg.aZ G G (aM ?_));exact aP rfl rfl ⟨by rw[if_pos c1],S⟩
 ·refine T.aO ?_;refine au (A:=RT.qy (n+1)) (B:=(RT.str.sl)) aU G G BW XT (qp2 n) G G (bS _) jP b4 (λu30 abK=>?_);refine bM aQ G G G G G abK b4 (λv31 Wa=>?_);have WT:=dW Wa;refine bB aQ G Wa G (gN G G G (ab G G ?_));refine aW (g:=14) G (λiC=>?_) (λiC=>?_)
  ·refine ak G G G G (ak G G G G (ak G G G G (a8 G G G (Rg.aZ G G (lh G (T.aO (Rg.aZ G G (aM ?_))))))))
   first
   |exact aP rfl rfl ⟨by rw[if_neg c1,if_pos (dI.1 q0)],S⟩
   |exact aP rfl rfl ⟨by rw[if_neg c1,if_neg (λe=>iC (by rw[e];rfl)),if_pos c3],S⟩
  ·refine ah G G ?_;refine au (A:=RT.qy (n+1)) (B:=(RT.str.sl)) aU G G BW XT (qp2 n) G G (bS _) jP b4 (λu35 apA=>?_);refine ah G G ?_;refine bM aQ G G G G G apA b4 (λv36 apB=>?_);refine ah G G ?_;refine aJ G G apw (HU _ hM apB hb) (λr37 w37 hc=>?_);obtain⟨rfl,s37⟩:=hc;replace jP:=jP.le (bS _) s37.le;replace hM:=s37.lt hM;have:=S.size;replace S:=S.av s37;refine aD G G G (Rg.aZ G G ?_);refine bI G (λc3=>?_) (λc3=>?_)
   ·refine T.aO (Rg.aZ G G (aM ?_))
    first
    |exact aP rfl rfl ⟨by rw[if_neg c1,if_pos (dI.1 q0)],S⟩
    |exact aP rfl rfl ⟨by rw[if_neg c1,if_neg (λe=>iC (by rw[e];rfl)),if_pos c3],S⟩
   ·have fw: ¬q.words=[]:=λe=>iC (by rw[e];rfl)
    refine T.aO ?_;refine au (A:=RT.qy (n+1)) (B:=(RT.str.sl)) aU G G BW XT (qp2 n) G G (bS _) jP b4 (λu50 aba=>?_);refine bM aQ G G G G G aba b4 (λv51 abb=>?_);refine bB aQ G abb G (il G G G (Rg.aZ G G ?_));refine bI G (λc5=>?_) (λc5=>?_)
    ·refine T.aO (Rg.aZ G G (aM ?_));exact aP rfl rfl ⟨by rw[if_neg c1,if_neg fw,if_neg c3,if_pos q0],S⟩
    ·refine aR (T.aO (Rg.aZ G G (aM ?_)));exact aP rfl rfl ⟨by rw[if_neg c1,if_neg fw,if_neg c3,if_neg q0],S⟩
theorem Ko {M:aE} {n:Nat} {q:Qy} {v:Value} (w0:World) (hM:Lt M w0) (hv:(RT.qy (n+1)).V M w0 q v) {b:Nat} {most:Int} (hb:w0.heap[b]? =some (.cells #[.int .i64 most] 3 (0,0))):
  Spec Tryz.prog 269 #[v,.pointer (some ⟨b,0,none⟩)] w0 (λv w=>v= .int .i64 (if q.kids.length=0 then 9 else if most<q.kids.length then 7 else 0)/\Step M w0 M w ar):=by
 refine aS (args:=[_,_]) (fn:=Tryz.f269) Tryz.func269 G (n:=15) Tryz.ntmps269 ?_;have S:Step M w0 M w0 ar:=aV;refine T.aO ?_;refine gR (A:=RT.qy (n+1)) (a:=q) G G hM hv (eD _) (λu2 Ov j3 lg _=>?_);replace hv:=hv.le lg.le;replace hM:=lg.lt hM;have:=S.size;replace S:=S.av lg;refine Rg.aZ G G (aI (T.aO ?_));refine au (A:=RT.qy (n+1)) (B:=((RT.qy n).sl (bS n))) aU G G Ie Nat.one_pos (XF n) G G (bS _) j3 b4 (λMQ oS=>?_);refine bM dh G G G G G oS b4 (λv11 Wb=>?_);have Im:=dW Wb;refine bB (A:=RT.qy n) (hn:=bS _) dh G Wb G (Rg.aZ G G (aT (T.aO (ab G G (gN G G G (Rg.aZ G G ?_))))));refine bI G (λc2=>?_) (λc2=>?_)
 ·refine T.aO (Rg.aZ G G (aM ?_));exact aP rfl rfl ⟨by rw[if_pos q0],S⟩
 ·refine T.aO (ab G G (aA aj G G G (S.ay hb) G (aY (v':= .int .i64 most) G (il G G G (Rg.aZ G G ?_)))));refine bI G (λc4=>?_) (λc4=>?_)
  ·refine T.aO (Rg.aZ G G (aM ?_));exact aP rfl rfl ⟨by rw[if_neg q0,if_pos q0],S⟩
  ·refine aR (T.aO (Rg.aZ G G (aM ?_)));exact aP rfl rfl ⟨by rw[if_neg q0,if_neg q0],S⟩
structure SzO (t:Fd) (ws:List (List UInt8)):Prop where
 t2:t.2.length<=3900000
 w:∀x∈ws,x.length<=3900000
mutual
def Ox:Qy->Prop
 |.mk _ t ws ks=>SzO t ws/\NV ks
def NV:List Qy->Prop
 |[]=>True
 |q::ks=>Ox q/\NV ks
end
theorem Tf {ks:List Qy}:NV ks↔∀q∈ks,Ox q:=by
 induction ks with
 |nil=>simp[NV]
 |cons q ks ih=>rw[NV,ih,List.forall_mem_cons]
theorem szQ {q:Qy}:Ox q↔SzO q.term q.words/\∀x∈q.kids,Ox x:=by
 obtain⟨k,t,ws,ks⟩:=q;rw[Ox,Tf];rfl
theorem LH {k:Int} {t:Fd} {ws:List (List UInt8)} {ks:List Qy} (hk:1<=k/\k<=5) (h: ¬Qy.mk k t ws ks=kS (.mk k t ws ks)):kM k t ws ks.length=9:=by
 unfold kM;rw[if_neg q0];rw[kS]at h;by_cases h1:k=1
 ·rw[if_pos h1]at h;rw[if_neg q0,if_pos];by_cases hk:ks=[]
  ·exact .inr (.inl ⟨h1,λhw=>h (by rw[hk,hw])⟩)
  ·exact .inl (gv.2 hk)
 rw[if_neg h1]at h;by_cases h5:k=5
 ·rw[if_pos h5]at h;rw[if_neg q0,if_pos];by_cases hk:ks=[]
  ·exact .inr (.inr ⟨h5,λhw=>h (by rw[hk,<-hw])⟩)
  ·exact .inl (gv.2 hk)
 rw[if_neg h5]at h;rw[if_pos q0,if_pos];by_cases ht:t=([],[])
 ·exact .inr (.inl λhw=>h (by rw[ht,hw]))
 ·exact .inl ht
theorem LI {k:Int} {t:Fd} {ws:List (List UInt8)} {n:Nat} (hk: ¬(1<=k/\k<=5)):kM k t ws n=9:=by
 unfold kM;rw[if_pos q0]
theorem Tg {k:Int} {t:Fd} {ws:List (List UInt8)} {ks:List Qy} (hk:k=1) (h:Qy.mk k t ws ks=kS (.mk k t ws ks)):kM k t ws ks.length=if fe t.1=false then 4 else if fg t.2=true then 0 else 9:=by
 rw[kS]at h;rw[if_pos hk]at h;injection h with _ _ h1 h2
 subst h1 h2;unfold kM;rw[if_neg q0,if_neg q0,if_neg a13,if_pos hk]
theorem Kq {k:Int} {t:Fd} {ws:List (List UInt8)} {ks:List Qy} (hk:k=5) (h:Qy.mk k t ws ks=kS (.mk k t ws ks)):kM k t ws ks.length=if fe t.1=false then 4 else if ws=[]then 9 else if ws.all fg=false then 9 else if 6<ws.length then 7 else 0:=by
 rw[kS]at h;rw[if_neg q0,if_pos hk]at h;injection h with _ h0 _ h2
 subst h2;have h0:t.2=[]:=congrArg Prod.snd h0;unfold kM;rw[if_neg q0,if_neg q0,if_neg (by simp[h0];omega),if_neg (show¬k=1 by omega)]
theorem Th {k:Int} {t:Fd} {ws:List (List UInt8)} {ks:List Qy} (hk:k=2\/k=3\/k=4) (h:Qy.mk k t ws ks=kS (.mk k t ws ks)):kM k t ws ks.length=if ks.length=0 then 9 else if(if k=4 then 1 else 8:Int)<ks.length then 7 else 0:=by
 rw[kS]at h;rw[if_neg q0,if_neg q0]at h;injection h with _ h0 h1 _
 subst h0 h1;unfold kM;rw[if_neg q0,if_pos q0];by_cases h2:ks.length=0
 ·rw[if_pos (.inr (.inr h2)),if_pos h2]
 ·rw[if_neg (by simp;exact λe=>h2 (by rw[e];rfl)),if_neg h2];by_cases h4:k=4
  ·rw[if_pos h4];by_cases h5:(1:Int)<ks.length
   ·rw[if_pos h5,if_pos (.inr ⟨h4,by omega⟩)]
   ·rw[if_neg h5,if_neg q0]
  ·rw[if_neg h4];by_cases h5:(8:Int)<ks.length
   ·rw[if_pos h5,if_pos (.inl q0)]
   ·rw[if_neg h5,if_neg q0]
theorem KV.use {q:Qy} {a b c d:Value} {w0:World} (hK:KV q.kind (.agg #[a,b,c,d]) w0) (hk:1<=q.kind/\q.kind<=5) (hs:SzO q.term q.words):∃bf mf cap,b= .func (.func bf) #[] #[]/\c= .func (.func mf) #[] (cap:List Value).toArray/\Enters Tryz.prog bf/\Enters Tryz.prog mf/\
  (∀{M:aE} {n:Nat} {w:World} {v:Value},Lt M w->(RT.qy (n+1)).V M w q v->Spec Tryz.prog bf #[v] w (λr w'=>(RT.qy (n+1)).V M w' (kS q) r/\Step M w M w' ar))/\
  (∀{M:aE} {n:Nat} {w:World} {v:Value},Lt M w->(RT.qy (n+1)).V M w q v->KV q.kind (.agg #[a,b,c,d]) w->q=kS q->Spec Tryz.prog mf (v::cap).toArray w (λr w'=>r= .int .i64 (kM q.kind q.term q.words q.kids.length)/\Step M w M w' ar)):=by
 obtain⟨k,t,ws,ks⟩:=q;have pZ:t.2.length<=3900000:=hs.t2;have hsw:∀x∈ws,x.length<=3900000:=hs.w;have hk:1<=k/\k<=5:=hk;rcases hK with⟨h1,h2⟩|⟨h1,h2⟩|⟨h1,b',wd,fv,h2,h3⟩|⟨h1,h2⟩
 ·simp only[Value.agg.injEq,Array.mk.injEq,zu]at h2;obtain⟨rfl,rfl,rfl,rfl,_⟩:=h2;exact⟨_,_,[],G,G,aps,apt,λhM hv=>NT _ hM hv h1,λhM hv _ e=>(Kn _ hM hv pZ).mono λr w' h=>⟨h.1.trans (congrArg _ (Tg h1 e).symm),h.2⟩⟩
 ·simp only[Value.agg.injEq,Array.mk.injEq,zu]at h2;obtain⟨rfl,rfl,rfl,rfl,_⟩:=h2;exact⟨_,_,[],G,G,apu,apv,λhM hv=>HT _ hM hv h1,λhM hv _ e=>(EK _ hM hv hsw).mono λr w' h=>⟨h.1.trans (congrArg _ (Kq h1 e).symm),h.2⟩⟩
 ·simp only[Value.agg.injEq,Array.mk.injEq,zu]at h2;obtain⟨rfl,rfl,rfl,rfl,_⟩:=h2;refine ⟨_,_,[.pointer (some ⟨b',0,none⟩)],G,G,apr,apx,λhM hv=>NS _ hM hv h1,λhM hv Oz e=> ?_⟩;have h1:k=2\/k=3\/k=4:=h1;rcases Oz with⟨h4,_⟩|⟨h4,_⟩|⟨_,b2,wd2,fv2,h4,h5⟩|⟨h4,_⟩
  ·have h4:k=1:=h4;omega
  ·have h4:k=5:=h4;omega
  ·simp only[Value.agg.injEq,Array.mk.injEq,zu,Value.func.injEq,Value.pointer.injEq,Option.some.injEq,Addr.mk.injEq]at h4;obtain⟨_,_,⟨_,_,⟨rfl,_⟩,_⟩,_⟩:=h4;exact(Ko _ hM hv h5).mono λr w' h=>⟨h.1.trans (congrArg _ (Th h1 e).symm),h.2⟩
  ·have h4:k<1\/5<k:=h4;omega
 ·have h1:k<1\/5<k:=h1;omega
end Go.K
namespace Go.K
open Go.Proofs
namespace TKQMay
theorem Ie:TI Tryz.prog 26 (.slice none 0 0) 1 24:=by unfold TI;kernel_rfl
theorem jH:TI Tryz.prog 28 (.agg #[(.int .i64 0),(.string ⟨#[]⟩),(.string ⟨#[]⟩),(.slice none 0 0),(.slice none 0 0)]) 5 88:=by unfold TI;kernel_rfl
theorem apE:TI Tryz.prog 123 .nilFunc 1 8:=by unfold TI;kernel_rfl
theorem apF:TI Tryz.prog 264 .nilFunc 1 8:=by unfold TI;kernel_rfl
theorem EJ:TI Tryz.prog 267 (.agg #[(.string ⟨#[]⟩),.nilFunc,.nilFunc,.nilFunc]) 4 40:=by unfold TI;kernel_rfl
theorem ahw:Enters Tryz.prog 104:=enters Tryz.func104 rfl XT
theorem apG:Enters Tryz.prog 161:=enters Tryz.func161 rfl XT
theorem abz:Enters Tryz.prog 162:=enters Tryz.func162 rfl XT
end TKQMay
open TKQMay
set_option maxRecDepth 10000
theorem nN (q:Qy) (deep:Nat):jK q deep=if 6<deep then 8 else if¬kM q.kind q.term q.words q.kids.length=0 then kM q.kind q.term q.words q.kids.length else wC q.kids (deep+1):=by
 obtain⟨k,t,ws,ks⟩:=q;rw[jK];rfl
theorem Kr {ks:List Qy} {deep i:Nat} {x:Qy} (h:ks[i]? =some x) (jA:∀(j:Nat) y,j<i->ks[j]? =some y->jK y deep=0) (hx: ¬jK x deep=0):wC ks deep=jK x deep:=by
 induction ks generalizing i with
 |nil=>simp at h
 |cons y ks ih=>
  rw[wC]
  cases i with
  |zero=>simp at h;subst h;rw[if_pos hx]
  |succ i=>
   rw[if_neg (λh'=>h' (jA 0 y q0 rfl))];exact ih a68 λj z hj hz=>jA (j+1) z q0 (by simpa using hz)
theorem NW {ks:List Qy} {deep:Nat} (jA:∀(j:Nat) y,ks[j]? =some y->jK y deep=0):wC ks deep=0:=Bm.2 λq hq=>by
 obtain⟨j,hj⟩:=bG.1 hq;exact jA j q hj
theorem Wc (k:Int) (t:Fd) (ws:List (List UInt8)) (n:Nat):0<=kM k t ws n/\kM k t ws n<=9:=by
 unfold kM
 repeat' split
 all_goals omega
theorem Dr {M:aE} {n:Nat} {q:Qy} {v:Value} {deep:Nat} (w0:World) (hM:Lt M w0) (hv:(RT.qy (n+1)).V M w0 q v) (hs:Ox q) (hd:deep<=1000) (ih:∀x∈q.kids,∀(deep:Nat) (M:aE) (w:World) (v:Value),Lt M w->(RT.qy n).V M w x v->deep<=7->Spec Tryz.prog 104 #[v,.int .i64 (deep:Int)] w (λv' w'=>v'= .int .i64 (jK x deep)/\Step M w M w' ar)):
  Spec Tryz.prog 104 #[v,.int .i64 (deep:Int)] w0 (λv w=>v= .int .i64 (jK q deep)/\Step M w0 M w ar):=by
 have iz:=hM;obtain⟨hso,hsk⟩:=szQ.1 hs;have uF:=Wc q.kind q.term q.words q.kids.length;refine aS (args:=[_,_]) (fn:=Tryz.f104) Tryz.func104 G (n:=55) Tryz.ntmps104 ?_;have S:Step M w0 M w0 ar:=aV;refine T.aO ?_;refine gR (A:=RT.qy (n+1)) (a:=q) G G hM hv (eD _) (λu2 Ov j3 lg _=>?_);replace hv:=hv.le lg.le;replace hM:=lg.lt hM;have:=S.size;replace S:=S.av lg;refine Rg.aZ G G (aI ?_);have J1:=j3;have S0:=S;have yW:=hM;apply T.Xn (M:=M) [0,1,2,3,4,5,6,7,8,9] 8 6 17 (.bool (decide (1<=q.kind/\q.kind<=5))) [] [(cw.mk' (λv w=>∃mb es clock,v= .map (some mb)/\w.heap[mb]? =some (.map (es:List MapEntry).toArray clock)/\(∀(k:Int),∃o,Instr.findNow (.int .i64) (.int .i64 k) es 0=some o/\o.isSome=decide (1<=k/\k<=5)/\KV k ((o.map Prod.snd).getD (.agg #[.string ⟨#[]⟩,.nilFunc,.nilFunc,.nilFunc])) w)) (fun⟨mb,es,cl,h1,h2,h3⟩ s=>⟨mb,es,cl,h1,s.ay h2,λk=>by obtain⟨o,h4,h5,h6⟩:=h3 k;exact⟨o,h4,h5,h6.step s λ_ h=>h.elim⟩⟩)),cw.ptr (RT.int .i64) q.kind,cw.eq (.int .i64 q.kind),(cw.mk' (λv w=>∃u,v= .tuple #[u,.bool (decide (1<=q.kind/\q.kind<=5))]/\KV q.kind u w) (fun⟨u,h1,h2⟩ s=>⟨u,h1,h2.step s λ_ h=>h.elim⟩)),(cw.mk' (λv w=>∃u,v= .tuple #[u,.bool (decide (1<=q.kind/\q.kind<=5))]/\KV q.kind u w) (fun⟨u,h1,h2⟩ s=>⟨u,h1,h2.step s λ_ h=>h.elim⟩)),(cw.mk' (λv w=>KV q.kind v w) (λh s=>h.step s λ_ h=>h.elim)),cw.eq (.bool (decide (1<=q.kind/\q.kind<=5))),(cw.mk' (λv w=>∃bo,v= .pointer (some ⟨bo,0,none⟩)/\Ov.heap.size<=bo/\w.heap[bo]? =some (.cells #[.string ⟨#[]⟩,.nilFunc,.nilFunc,.nilFunc] 267 (0,0))) (fun⟨bo,h1,h2,h3⟩ s=>⟨bo,h1,h2,s.ay h3⟩))] [(4,11,λv=>∃u,v= .tuple #[u,.bool (decide (1<=q.kind/\q.kind<=5))])] mixed
 ·simp+decide only[Aa,sw,dC,jw,jq,jr,gL,dq,gE,lT,cond_true,cond_false,Nat.reduceBEq,Nat.reduceAdd,beq_self_eq_true];rfl
 ·rfl
 ·rfl
 ·rfl
 ·rfl
 ·rfl
 ·rfl
 ·rfl
 ·rfl
 ·rfl
 ·rfl
 ·rfl
 ·intro ρ w h hg;obtain⟨u,hu⟩:=hg _ (cO.2 rfl);simp only[execOp,hu];simp[Instr.extract]
 ·intro g hg;rw[cO]at hg;subst hg;exact⟨_,_,rfl,rfl,show 4<8 by decide,show 4≠6 by decide,rfl,λv w ⟨u,h,_⟩=>⟨u,h⟩⟩
 ·exact a90
 ·exact a90
 ·exact si.st (sf)
 intro wR1 PD;have sR1:=PD M;replace j3:=j3.le (bS _) sR1.le;replace hM:=sR1.lt hM;have:=S.size;replace S:=S.av sR1;refine⟨?_,?_⟩
 ·refine az ?_ ?_
  ·intro wD E sD;refine aJ G G apG (Kl _ (sD.lt hM)) (λr0 w0' hc=>?_);obtain⟨mb,es,cl,rfl,h1,h2,h3⟩:=hc;exact ad ⟨G,G,_,G,⟨mb,es,cl,G,h1,h2⟩,h3⟩
  refine az ?_ ?_
  ·intro wD E sD;refine au (M:=M) (A:=RT.qy (n+1)) (B:=RT.int .i64) aU G G I3 XT (XE n) G G (bS _) j3 sD.le (λuf sH=>?_);exact a73
  refine az ?_ ?_
  ·intro wD E sD;intro v1 nu;refine bV aj G G (show cG (RT.int .i64) M wD v1 q.kind from nu) b4 (λmL=>?_);exact a02
  refine az ?_ ?_
  ·intro wD E sD;intro v0 wO;refine aw ?_;obtain⟨mb,es,cl,rfl,h1,h2⟩:=wO;obtain⟨o,h3,h4,h5⟩:=h2 q.kind;refine Rg.V3 tB aj EJ G G G h1 h3 G ?_;exact ad ⟨rfl,rfl,_,rfl,⟨_,by rw[h4],h5⟩,aV⟩
  refine az ?_ ?_
  ·intro wD E sD;intro v3 xH;refine ab G G ?_;exact ad ⟨G,G,_,G,xH,aV⟩
  refine az ?_ ?_
  ·intro wD E sD;intro v4 qb;obtain⟨u,rfl,hK⟩:=qb;refine b9 G G G ?_;exact ad ⟨G,G,_,G,hK,aV⟩
  refine az ?_ ?_
  ·intro wD E sD;intro v4 qb;obtain⟨u,rfl,hK⟩:=qb;refine b9 G G G ?_;exact a02
  refine az ?_ ?_
  ·intro wD E sD;refine ek M EJ G (λbq wq e1 e2 e3 s=>?_);exact ad ⟨G,G,_,G,⟨bq,G,ep (ep sR1.size sD.size) e1,e3⟩,s.back⟩
  exact kA
 ·intro MI mM;intro ay8 att;intro AA mP;refine aw ?_;intro ZN La;intro ay9 atu;intro apH ahy;refine aw ?_;intro afj Rf;obtain⟨bo,rfl,hbo,go⟩:=Rf;have hK:KV q.kind apH MI:=ahy;obtain⟨ca,cb,cc,cd,rfl,h1,h2,h3,h4⟩:=hK.cells;have so:=(sR1.av mM).own hbo (ae go);obtain⟨Mo,hMo⟩:∃Mo,Mo=ins M bo:=⟨_,rfl⟩;have mbo:Mo bo:=by rw[hMo];exact .inl G
  rw[<-hMo]at so;replace hM:=so.lt yW;replace j3:=J1.le (bS _) so.le;replace S:=S0.av so;refine dX (M:=Mo) (vs:=[ca,cb,cc,cd]) EJ G G (by intro u hu;simp at hu;rcases hu with rfl|rfl|rfl|rfl<;>assumption) rfl rfl go mbo (λw8 g8 s8=>?_);have EL:=(s8.mem _ (ae go)).2 mbo;replace hK:=hK.step s8 (λb hb cs h=>by have hb:b=bo:=hb;rw[hb,go]at h;injection h with h;injection h with _ h;exact absurd h XT);replace S:=S.cq s8 (λb (hb:b=bo)=>by have:=lg.size;omega);replace hM:=s8.lt hM;replace j3:=j3.le (bS _) s8.le;refine ad ⟨G,G,λh=>absurd G h,aB G G (ad ⟨G,G,λh=>absurd G h,lH (aI (aT (T.aO (ab G G (il G G G (Rg.aZ G G ?_))))))⟩)⟩;refine bI G (λc2=>?_) (λc2=>?_)
  ·refine T.aO (Rg.aZ G G (aM ?_));exact aP rfl rfl ⟨by rw[nN q deep,if_pos q0],S.back⟩
  ·refine aI ?_;by_cases xO: ¬(1<=q.kind/\q.kind<=5)
   ·apply T.sN (M:=Mo) mixed [] [cw.eq (.bool (decide (1<=q.kind/\q.kind<=5))),cw.eq (.bool (decide (¬(1<=q.kind/\q.kind<=5)))),cw.eq (.bool true),cw.eq undef,cw.eq undef,cw.eq undef,cw.eq undef,cw.eq undef] 8
    ·rfl
    ·rfl
    ·rfl
    ·rfl
    ·rfl
    ·exact a90
    ·exact sf
    ·refine az ?_ ?_
     ·intro wD E sD;refine ab G G ?_;exact a02
     refine az ?_ ?_
     ·intro wD E sD;refine aw (gM G G (aY (v':= .bool (decide (¬(1<=q.kind/\q.kind<=5)))) (by rw[decide_not]) ?_));exact a02
     refine az ?_ ?_
     ·intro wD E sD;refine aw (ab G G ?_);refine ad ⟨G,G,_,G,?_,aV⟩;exact congrArg Value.bool (decide_eq_true xO)
     refine az ?_ ?_
     ·intro wD E sD;refine aw ?_;exact a08
     refine az ?_ ?_
     ·intro wD E sD;refine aw ?_;exact a08
     refine az ?_ ?_
     ·intro wD E sD;refine aw (aw ?_);exact a08
     refine az ?_ ?_
     ·intro wD E sD;refine aw ?_;exact a08
     refine az ?_ ?_
     ·intro wD E sD;refine aw (aw (aw (aw ?_)));exact a08
     exact kA
    ·intro wD4 rW;refine aw (aw (aw (aw (aw (aw (aw (aw ?_)))))));replace hM:=rW.lt hM;replace S:=S.av rW;replace j3:=j3.le (bS _) rW.le;have:=ae g8;replace EL:=(rW.mem _ this).2 EL;replace g8:=rW.ay g8;replace hK:=hK.step rW a15;refine ak G G G G (ak G G G G (a8 G G G (Rg.aZ G G (lh G (T.aO (Rg.aZ G G (aM ?_)))))))
     first
     |exact aP rfl rfl ⟨by rw[nN q deep,if_neg q0,LI xO];rfl,S.back⟩
     |exact aP rfl rfl ⟨by rw[nN q deep,if_neg q0,LH (k:=q.kind) (t:=q.term) (ws:=q.words) (db.1 xO) (by obtain⟨_,_,_,_⟩:=q;exact c4)];rfl,S.back⟩
   ·obtain⟨bf,mf,cap,rfl,rfl,eb,em,hbf,hmf⟩:=hK.use (db.1 xO) hso;apply T.sN (M:=Mo) mixed [] [cw.eq (.bool (decide (1<=q.kind/\q.kind<=5))),cw.eq (.bool (decide (¬(1<=q.kind/\q.kind<=5)))),cw.eq (.bool false),cw.V (RT.qy (n+1)) q,cw.eq _,cw.eq (.func (.func bf) #[] #[]),cw.V (RT.qy (n+1)) q,cw.V (RT.qy (n+1)) (kS q)] 8
    ·rfl
    ·rfl
    ·rfl
    ·rfl
    ·rfl
    ·exact a90
    ·exact sf
    ·refine az ?_ ?_
     ·intro wD E sD;refine ab G G ?_;exact a02
     refine az ?_ ?_
     ·intro wD E sD;refine aw (gM G G (aY (v':= .bool (decide (¬(1<=q.kind/\q.kind<=5)))) (by rw[decide_not]) ?_));exact a02
     refine az ?_ ?_
     ·intro wD E sD;refine aw (ab G G ?_);refine ad ⟨G,G,_,G,?_,aV⟩;exact congrArg Value.bool (decide_eq_false xO)
     refine az ?_ ?_
     ·intro wD E sD;refine aw (ah G G ?_);refine bZ (M:=Mo) (A:=RT.qy (n+1)) aU G (IQ jH _) (bS _) (eD _) G G j3 sD.le (λva o7=>?_);exact ad ⟨G,G,_,G,o7,aV⟩
     refine az ?_ ?_
     ·intro wD E sD;refine aw (ah G G (aK tC G G apF XT G G ?_));exact a02
     refine az ?_ ?_
     ·intro wD E sD;refine aw (aw (ah G G (aA Tryz.underlying264 G G G (sD.ay g8) G ?_)));exact a02
     refine az ?_ ?_
     ·intro wD E sD;refine aw (ah G G ?_);refine bZ (M:=Mo) (A:=RT.qy (n+1)) aU G (IQ jH _) (bS _) (eD _) G G j3 sD.le (λva o7=>?_);exact ad ⟨G,G,_,G,o7,aV⟩
     refine az ?_ ?_
     ·intro wD E sD;refine aw ?_;intro v6 oR;refine aw (aw (ah G G ?_));refine ng (first:=[]) (captured:=[]) (xs:=[.tmp 28]) G G G eb (hbf (sD.lt hM) oR) (λr7 w7 hc=>?_);exact ad ⟨G,G,_,G,hc.1,hc.2⟩
     exact kA
    ·intro wD4 rW;refine aw (aw (aw ?_));intro azb ahz;refine aw (aw ?_);intro azc atx;intro azd ahA;replace hM:=rW.lt hM;replace S:=S.av rW;replace j3:=j3.le (bS _) rW.le;have:=ae g8;replace EL:=(rW.mem _ this).2 EL;replace g8:=rW.ay g8;replace hK:=hK.step rW a15;refine ah G G ?_;refine aJ G G abz (Bv (n+1) _ hM ahz ahA) (λr48 w48 hc=>?_);obtain⟨rfl,s48⟩:=hc;have:=ae g8;replace EL:=(s48.mem _ this).2 EL;replace g8:=s48.ay g8;replace j3:=j3.le (bS _) s48.le;replace hK:=hK.step s48 a15;replace hM:=s48.lt hM;have:=S.size;replace S:=S.av s48;refine ah G G (gM G G (aY (v':= .bool (decide (¬q=kS q))) (by simp) (aD G G G (Rg.aZ G G ?_))));refine bI G (λc4=>?_) (λc4=>?_)
     ·refine T.aO (Rg.aZ G G (aM ?_))
      first
      |exact aP rfl rfl ⟨by rw[nN q deep,if_neg q0,LI xO];rfl,S.back⟩
      |exact aP rfl rfl ⟨by rw[nN q deep,if_neg q0,LH (k:=q.kind) (t:=q.term) (ws:=q.words) (db.1 xO) (by obtain⟨_,_,_,_⟩:=q;exact c4)];rfl,S.back⟩
     ·refine aR (aI (T.aO (aK tC G G apE XT G G (aA Tryz.underlying123 G G G g8 G ?_))));refine bZ (A:=RT.qy (n+1)) aU G (IQ jH _) (bS _) (eD _) G G j3 b4 (λv62 abN=>?_);refine ng (first:=[]) (captured:=cap) (xs:=[.tmp 35]) G G G em (hmf hM abN hK (db.1 c4)) (λr6 w6 hc=>?_);obtain⟨rfl,s6⟩:=hc;have:=ae g8;replace EL:=(s6.mem _ this).2 EL;replace g8:=s6.ay g8;replace j3:=j3.le (bS _) s6.le;replace hK:=hK.step s6 a15;replace hM:=s6.lt hM;have:=S.size;replace S:=S.av s6;refine Rg.aZ G G (T.aO (ab G G (eR G G G (ad ?_))));refine bI G (λc7=>?_) (λc7=>?_)
      ·refine T.aO (ab G G (Rg.aZ G G (aM ?_)));exact aP rfl rfl ⟨by rw[nN q deep,if_neg q0,if_pos c7],S.back⟩
      ·refine aR (aI (T.aO ?_));refine au (A:=RT.qy (n+1)) (B:=((RT.qy n).sl (bS n))) aU G G Ie Nat.one_pos (XF n) G G (bS _) j3 b4 (λu90 abO=>?_);refine bM dh G G G G G abO b4 (λv91 ye=>?_);have Im:=dW ye;refine bB (A:=RT.qy n) (hn:=bS _) dh G ye G (ab G G (ad (aT ?_)));refine cR (σ:=Nat) (λi=>[(1,.int .i64 (deep:Int)),(2,u2),(41,v91),(42,.int .i64 (q.kids.length:Int)),(43,.int .i64 (i:Int))]) (λi w=>i<=q.kids.length/\(∀(j:Nat) y,j<i->q.kids[j]? =some y->jK y (deep+1)=0)/\∃M1,Lt M1 w/\Step M w0 M1 w ar/\((RT.qy n).sl (bS n)).V M1 w q.kids v91) (λi=>q.kids.length-i) 0 a34 ?_ ?_
       ·exact⟨bm _,λj y h=>absurd h (eL _),_,hM,S,ye⟩
       ·clear hM S ye j3 hK g8 EL;rintro i w ⟨hi,jA,M1,hM,S,ye⟩;refine T.aO (ck G G G (ad (aI ?_)));refine bI G (λMH=>?_) (λMH=>?_)
        ·refine aR (aI (aT (T.aO ?_)));obtain⟨x,hx⟩:∃x,(q.kids)[i]? =some x:=⟨_,an q0⟩;refine cx (A:=RT.qy n) (hn:=bS _) (M:=M1) dh (IQ jH _) G G G ye b4 q0 (λaaN x_ fV A4=>?_);rw[aq]at fV;obtain rfl:=aF (hx.symm.trans fV);refine bZ (A:=RT.qy (n)) aU G (IQ jH _) (bS _) (eD _) G G A4 b4 (λahB kN=>?_);refine jR (A:=RT.qy n) (M:=M1) (IQ jH _) (by rw[HF];rfl) (eD _) rfl rfl rfl kN b4 hM (λazg azh Ti abP _=>?_);replace ye:=ye.le abP.le;replace hM:=abP.lt hM;have:=S.size;replace S:=S.av abP;refine ad (T.aO ?_);refine bZ (A:=RT.qy (n)) aU G (IQ jH _) (bS _) (eD _) G G Ti b4 (λazi ahC=>?_);refine ab G G (br G G G q0 (aY (v':= .int .i64 ((deep+1:Nat):Int)) (by congr 1) ?_));refine aJ G G ahw (ih x (ax hx) (deep+1) _ _ _ hM ahC q0) (λr12 H7 hc=>?_);obtain⟨rfl,jM⟩:=hc;replace ye:=ye.le jM.le;replace Ti:=Ti.le (bS _) jM.le;replace hM:=jM.lt hM;have:=S.size;replace S:=S.av jM;refine Rg.aZ G G (T.aO (ab G G (eR G G G (ad ?_))));refine bI G (λJa=>?_) (λJa=>?_)
         ·refine T.aO (ab G G (Rg.aZ G G (aM ?_)));exact aP rfl rfl ⟨by rw[nN q deep,if_neg q0,if_neg c7,Kr hx jA Ja],S.back⟩
         ·refine aR (aN (br G G G q0 (ab G G (ad ?_))));refine⟨G,i+1,a34,?_,?_⟩
          ·refine⟨by omega,λj y hj hy=>?_,_,hM,S,ye⟩;rcases cL j i with h|h
           ·exact jA j y h hy
           ·obtain rfl:j=i:=by omega
            rw[hx]at hy;cases hy;exact db.1 Ja
          ·omega
        ·refine cE (T.aO (Rg.aZ G G (aM ?_)));exact aP rfl rfl ⟨by rw[nN q deep,if_neg q0,if_neg c7,NW λj y hj=>jA j y (by have:=(al.1 hj).1;omega) hj],S.back⟩
theorem Dt {M:aE} {w:World} {q:Qy} {v:Value} (h:(RT.qy 0).V M w q v):q.kids=[]:=by
 obtain⟨vs,⟨_,_,_,_,_,_,_,_,_,_,_,_,hk,_⟩,_⟩:=h;exact hk
theorem Bx:∀(n:Nat) {M:aE} {q:Qy} {v:Value} {deep:Nat} (w0:World) (hM:Lt M w0) (hv:(RT.qy n).V M w0 q v) (hs:Ox q) (hd:deep<=1000),Spec Tryz.prog 104 #[v,.int .i64 (deep:Int)] w0 (λv w=>v= .int .i64 (jK q deep)/\Step M w0 M w ar)
 |0,M,q,v,deep,w0,hM,hv,hs,hd=>Dr (n:=0) w0 hM (n4 hv) hs hd λx hx=>by rw[Dt hv]at hx;cases hx
 |n+1,M,q,v,deep,w0,hM,hv,hs,hd=>Dr w0 hM hv hs hd λx hx deep M w v hM hv hd=>Bx n w hM hv ((szQ.1 hs).2 x hx) q0
theorem Du {M:aE} {n:Nat} {q:Qy} {v:Value} (w0:World) (hM:Lt M w0) (hv:(RT.qy (n+1)).V M w0 q v) (hs:Ox q):
  Spec Tryz.prog 55 #[v] w0 (λv w=>v= .int .i64 (jK q 1)/\Step M w0 M w ar):=by
 refine aS (args:=[_]) (fn:=Tryz.f55) Tryz.func55 G (n:=5) Tryz.ntmps55 ?_;have S:Step M w0 M w0 ar:=aV;refine T.aO ?_;refine gR (A:=RT.qy (n+1)) (a:=q) G G hM hv (eD _) (λu1 Ov jP lg _=>?_);replace hv:=hv.le lg.le;replace hM:=lg.lt hM;have:=S.size;replace S:=S.av lg;refine Rg.aZ G G (T.aO ?_);refine bZ (A:=RT.qy (n+1)) aU G (IQ jH _) (bS _) (eD _) G G jP b4 (λv10 uw=>?_);refine aJ G G ahw (Bx (n+1) (deep:=1) _ hM uw hs XT) (λr1 w1 hc=>?_);obtain⟨rfl,s1⟩:=hc;replace jP:=jP.le (bS _) s1.le;replace hM:=s1.lt hM;have:=S.size;replace S:=S.av s1;refine Rg.aZ G G (aM ?_);exact aP G G ⟨G,S⟩
end Go.K
namespace Go.K
open Go.Proofs
namespace TKMFits
theorem Ie:TI Tryz.prog 26 (.slice none 0 0) 1 24:=by unfold TI;kernel_rfl
theorem jH:TI Tryz.prog 28 (.agg #[(.int .i64 0),(.string ⟨#[]⟩),(.string ⟨#[]⟩),(.slice none 0 0),(.slice none 0 0)]) 5 88:=by unfold TI;kernel_rfl
theorem E53:Enters Tryz.prog 53:=enters Tryz.func53 rfl XT
theorem E56:Enters Tryz.prog 56:=enters Tryz.func56 rfl XT
theorem apI:Enters Tryz.prog 105:=enters Tryz.func105 rfl XT
theorem apJ:Enters Tryz.prog 106:=enters Tryz.func106 rfl XT
theorem apK:Enters Tryz.prog 107:=enters Tryz.func107 rfl XT
theorem VF:Enters Tryz.prog 108:=enters Tryz.func108 rfl XT
theorem apL:Enters Tryz.prog 109:=enters Tryz.func109 rfl XT
end TKMFits
open TKMFits
set_option maxRecDepth 10000
theorem sa (fs:List Fd) (q:Qy):fG fs q=if q.kind=1 then y9 (iM (dd fs q.term.1) q.term.2).length else if q.kind=5 then y9 (x8 (dd fs q.term.1) q.words)else if q.kind=2 then(if(q.kids.map (fG fs)).all Option.isSome=true then some (qD (q.kids.map (fG fs)))else none)else if q.kind=3 then(if(q.kids.map (fG fs)).any Option.isSome=true then some (qD (q.kids.map (fG fs)))else none)else(if(q.kids.map (fG fs)).any Option.isSome=true then none else some 0):=by
 obtain⟨k,t,ws,ks⟩:=q;rw[fG,Bj];rfl
def qE (k:Int) (l:List (Option Int)):Option Int:=if k=2 then(if l.all Option.isSome=true then some (qD l)else none)else(if l.any Option.isSome=true then some (qD l)else none)
theorem Tj (o:Option Int):qD [o]=o.getD 0:=by unfold qD;simp
theorem HV (k:Int) (o:Option Int):qE k [o]=o:=by
 unfold qE;rw[Tj]
 cases o<;>simp
theorem Dv (l:List (Option Int)) (o:Option Int):qD (l++[o])=qD l+o.getD 0:=by
 unfold qD;rw[ed,List.sum_append];simp
theorem NX {l:List (Option Int)} (h:l.any Option.isSome=false):qD l=0:=by
 unfold qD
 induction l with
 |nil=>rfl
 |cons o l ih=>
  rw[List.any_cons,Bool.or_eq_false_iff]at h;rw[dC,List.sum_cons,ih h.2]
  cases o with
  |none=>rfl
  |some x=>simp at h
theorem Tk {k:Int} (hk:k=2) (l:List (Option Int)) (o:Option Int):qE k (l++[o])=nM 2 (qE k l) o:=by
 unfold qE nM Sx;rw[if_pos hk,if_pos hk,Dv,List.all_append]
 cases hl:l.all Option.isSome<;>cases o<;>simp
theorem LJ {k:Int} (hk: ¬k=2) (l:List (Option Int)) (o:Option Int):qE k (l++[o])=nM 1 (qE k l) o:=by
 unfold qE nM orO;rw[if_neg hk,if_neg hk,Dv,List.any_append]
 cases hl:l.any Option.isSome<;>cases o<;>simp[NX,hl]
theorem Tl {k:Int} {l:List (Option Int)} {B:Int} (hB:0<=B/\B<=131072000) (hl:l.length<=8) (h:∀o∈l,∀s,o=some s->0<=s/\s<=B):∀s,qE k l=some s->0<=s/\s<=1048576000:=by
 intro s hs;have hc:=HJ hB.1 h;have h2:(l.length:Int)*B<=8*131072000:=Int.mul_le_mul q0 hB.2 hB.1 XT;unfold qE at hs
 have:s=qD l:=by
  split at hs<;>split at hs<;>first|exact(aF hs).symm|cases hs
 omega
theorem wJ {q:Qy} {deep:Nat}:jK q deep=0↔deep<=6/\kM q.kind q.term q.words q.kids.length=0/\∀x∈q.kids,jK x (deep+1)=0:=by
 obtain⟨k,t,ws,ks⟩:=q;exact EG
theorem zr {f:En->Option Int} {L:List En} (h:L.length<=100000):uI (gD f 0 L):=λp hp=>by have:=rZ hp;omega
theorem Ks {x:List UInt8} (h:fg x=true):x.length<=140737488355328:=by
 unfold fg at h;have:=(of_decide_eq_true h).2;omega
theorem LK {L:List En} {ks:List Qy} {x:Qy} {i deep:Nat} {k:Int} (least:Int) (hl:least=1\/least=2) (hk:least=2↔k=2) (hx:ks[i+1]? =some x) (hn:L.length<=100000) (hF:∀e∈L,iQ e.1) (h8:ks.length<=8) (hm:∀x∈ks,jK x (deep+1)=0):H3 least (gD (λe=>qE k ((ks.take (i+1)).map (fG e.1.2))) 0 L) (gD (λe=>fG e.1.2 x) 0 L)=gD (λe=>qE k ((ks.take (i+1+1)).map (fG e.1.2))) 0 L:=by
 have hB:0<=uD (deep+1)/\uD (deep+1)<=131072000:=⟨HK _,NN q0⟩;rw[LD hl L 0 q0 λe he s hs=>?_]
 ·refine k9 λe _=> ?_
  rw[bQ (i:=i+1),hx,cH,ed];rcases hl with rfl|rfl
  ·exact(LJ (λh=>absurd (hk.2 h) XT) _ _).symm
  ·exact(Tk (hk.1 G) _ _).symm
 ·have hw:=λk=>yI (hF e he) k
  rcases hs with hs|hs
  ·have:=Tl hB (by rw[bT,bF];omega) (λo ho s hs=>by
    obtain⟨y,hy,rfl⟩:=cu.1 ho;exact Bo e.1.2 hw y (deep+1) (hm y (List.mem_of_mem_take hy)) s hs) s hs
   omega
  ·have:=Bo e.1.2 hw x (deep+1) (hm x (ax hx)) s hs;omega
theorem Own.foV {M M':aE} {w0 w:World} {v:Value} {L:List En} {f:En->Option Int} (h:Own RT.fo 45 M' w w0.heap.size v (gD f 0 L)) (hM:Lt M w0) (s:Step M w0 M' w ar) (hn:L.length<=100000):((RT.fo).sl).V M w (gD f 0 L) v:=h.close hM s (by have:=lp (f:=f) L 0;omega)
set_option maxHeartbeats 2000000 in
theorem By {M:aE} {n:Nat} {L:List En} {q:Qy} {v0 v:Value} {deep:Nat} (w0:World) (hM:Lt M w0) (h0: ¬M 1) (tab:∃e fr,w0.heap[1]? =some (.cells (E2.map fun(k:Nat)=>Value.int .u8 (k:Int)).toArray e fr)) (hs:cG RT.se M w0 v0 (uM (gQ L))) (fN:vW (-1) L=true) (hn:L.length<=100000) (hv:(RT.qy (n+1)).V M w0 q v) (hm:jK q deep=0) (ih:∀x∈q.kids,∀(M:aE) (w:World) (v:Value),Lt M w->¬M 1->(∃e fr,w.heap[1]? =some (.cells (E2.map fun(k:Nat)=>Value.int .u8 (k:Int)).toArray e fr))->cG RT.se M w v0 (uM (gQ L))->(RT.qy n).V M w x v->jK x (deep+1)=0->Spec Tryz.prog 56 #[v0,v] w (λv' w'=>∃M',Lt M' w'∧Step M w M' w' ar/\Own RT.fo 45 M' w' w.heap.size v' (gD (λe=>fG e.1.2 x) 0 L))):
  Spec Tryz.prog 56 #[v0,v] w0 (λv w=>∃M',Lt M' w/\Step M w0 M' w ar/\Own RT.fo 45 M' w w0.heap.size v (gD (λe=>fG e.1.2 q) 0 L)):=by
 have iz:=hM;have hF:=kK fN;obtain⟨hd6,tJ,hmk⟩:=wJ.1 hm;have hoc:=Bn tJ;obtain⟨NY,NZ,Dw⟩:=tab;have wO:=hv;obtain⟨_,_,_,hkr,yn,_,_⟩:=pW wO;clear wO;refine aS (args:=[_,_]) (fn:=Tryz.f56) Tryz.func56 G (n:=65) Tryz.ntmps56 ?_;have S:Step M w0 M w0 ar:=aV;refine T.aO ?_;refine gR (A:=RT.qy (n+1)) (a:=q) G G hM hv (eD _) (λu3 Ov lE lg _=>?_);replace hv:=hv.le lg.le;replace hs:=hs.le XT lg.le;replace hM:=lg.lt hM;have:=S.size;replace S:=S.av lg;refine Rg.aZ G G (aI (T.aO ?_));refine au (A:=RT.qy (n+1)) (B:=RT.int .i64) aU G G I3 XT (XE n) G G (bS _) lE b4 (λMQ oS=>?_);refine bV aj G G oS b4 (λwu=>?_);refine aY (v':= .int .i64 q.kind) G (ad (aT (T.aO (gN G G G (Rg.aZ G G ?_)))));refine bI G (λc2=>?_) (λc2=>?_)
 ·refine T.aO (ab G G ?_);refine au (A:=RT.qy (n+1)) (B:=RT.fd) aU G G nE XT (V2 n) G G (bS _) lE b4 (λu31 abL=>?_);refine bZ (A:=RT.fd) bR G nE XT G G G abL b4 (λv32 abM=>?_);obtain rfl:=j9 abM;refine aJ G G apI (Kd (t:=q.term) _ hM hs fN hn yn.1 yn.2) (λr33 w33 hc=>?_);obtain⟨M3,h3l,h3s,h3o⟩:=hc;refine Rg.aZ G G (aM (aP G G ⟨_,h3l,S.av h3s,?_⟩));rw[show gD (λe=>fG e.1.2 q) 0 L=gD (HM q.term) 0 L from k9 λe _=>by rw[sa,if_pos c2];rfl];exact h3o.kD S.size
 ·refine T.aO (gN G G G (Rg.aZ G G ?_));refine bI G (λc4=>?_) (λc4=>?_)
  ·have h5:=hoc.elim (λh=>absurd h.1 c2) λh=>h.elim id λh=>(by omega:False).elim
   refine T.aO (ab G G ?_);refine au (A:=RT.qy (n+1)) (B:=RT.fd) aU G G nE XT (V2 n) G G (bS _) lE b4 (λu51 abA=>?_);refine au (A:=RT.fd) (B:=RT.str) bR G G I9 XT MM G G XT abA b4 (λu52 apP=>?_);refine bM aG G G G G G apP b4 (λv53 apQ=>?_);obtain rfl:=eJ apQ;refine au (A:=RT.qy (n+1)) (B:=(RT.str.sl)) aU G G BW XT (qp2 n) G G (bS _) lE b4 (λu54 Si=>?_);refine bM aQ G G G G G Si b4 (λv55 abc=>?_);refine aJ G G apJ (EH (k:=q.term.1) _ hM hs fN hn abc yn.1 (λx hx=>Ks (eA.1 h5.2.2.2.2.1 x hx)) h5.2.2.2.1 q0) (λr56 w56 hc=>?_);obtain⟨M5,h5l,h5s,h5o⟩:=hc;refine Rg.aZ G G (aM (aP G G ⟨_,h5l,S.av h5s,?_⟩));rw[show gD (λe=>fG e.1.2 q) 0 L=gD (sJ q.term.1 q.words) 0 L from k9 λe _=>by rw[sa,if_neg c2,if_pos c4];rfl];exact h5o.kD S.size
  ·refine T.aO (gN G G G (Rg.aZ G G ?_));refine bI G (λc6=>?_) (λc6=>?_)
   ·have qJ:q.kids.length=1:=by omega
    refine T.aO (ab G G ?_);refine au (A:=RT.qy (n+1)) (B:=((RT.qy n).sl (bS n))) aU G G Ie Nat.one_pos (XF n) G G (bS _) lE b4 (λu71 apR=>?_);refine bM dh G G G G G apR b4 (λv72 apS=>?_);obtain⟨x,hx⟩:∃x,q.kids[0]? =some x:=⟨_,an q0⟩;refine cx (A:=RT.qy n) (hn:=bS _) (M:=M) dh (IQ jH _) G G G apS b4 q0 (λu73 x_ fV apT=>?_);obtain rfl:=aF (hx.symm.trans fV);refine bZ (A:=RT.qy (n)) aU G (IQ jH _) (bS _) (eD _) G G apT b4 (λv74 apU=>?_);refine aJ G G E56 (ih x (ax hx) _ _ _ hM (λhn=>h0 ((S.mem 1 (ae Dw)).1 hn)) ⟨NY,NZ,S.ay Dw⟩ hs apU (hmk _ (ax hx))) (λr75 w75 hc=>?_);obtain⟨azn,atz,XN,ahE⟩:=hc;have ahF:=ahE.foV hM XN hn;have Wd:=XN.back;replace hs:=hs.le XT Wd.le;replace lE:=lE.le (bS _) Wd.le;replace hM:=Wd.lt hM;have:=S.size;replace S:=S.av Wd;refine ab G G ?_;refine aJ G G VF (xV _ hs) (λr77 w77 hc=>?_);obtain⟨rfl,rfl⟩:=hc;refine aY (v':= .int .i64 (L.length:Int)) (by show Value.int .i64 (((L.map _).length:Nat):Int)=_;rw[bT]) ?_;refine aJ G G apK (VT hM ahF q0 h0 ⟨NY,NZ,S.ay Dw⟩) (λr78 w78 hc=>?_);obtain⟨M7,h7l,h7s,h7o⟩:=hc;rw[SB]at h7o;refine Rg.aZ G G (aM (aP G G ⟨_,h7l,S.av h7s,?_⟩))
    rw[show gD (λe=>fG e.1.2 q) 0 L=gD (λe=>Sy (fG e.1.2 x)) 0 L from k9 λe _=>by
     rw[sa,if_neg c2,if_neg c4,if_neg q0,if_neg q0,show q.kids=[x]from by
      obtain⟨y,hy⟩:=List.length_eq_one_iff.1 qJ;rw[hy]at hx;cases hx;exact hy,dC,jw]
     cases fG e.1.2 x<;>rfl]
    exact h7o.kD S.size
   ·have hk8:0<q.kids.length/\q.kids.length<=8:=by omega
    have ZT:q.kind=2\/q.kind=3:=by omega
    refine aR (T.aO (ab G G ?_));refine au (A:=RT.qy (n+1)) (B:=((RT.qy n).sl (bS n))) aU G G Ie Nat.one_pos (XF n) G G (bS _) lE b4 (λu81 abp=>?_);refine bM dh G G G G G abp b4 (λv82 apV=>?_);obtain⟨x,hx⟩:∃x,q.kids[0]? =some x:=⟨_,an q0⟩;refine cx (A:=RT.qy n) (hn:=bS _) (M:=M) dh (IQ jH _) G G G apV b4 q0 (λu83 x_ fV apW=>?_);obtain rfl:=aF (hx.symm.trans fV);refine bZ (A:=RT.qy (n)) aU G (IQ jH _) (bS _) (eD _) G G apW b4 (λv84 apX=>?_);refine aJ G G E56 (ih x (ax hx) _ _ _ hM (λhn=>h0 ((S.mem 1 (ae Dw)).1 hn)) ⟨NY,NZ,S.ay Dw⟩ hs apX (hmk _ (ax hx))) (λr85 w85 hc=>?_);obtain⟨azr,ahG,Tn,LL⟩:=hc;have atC:=LL.foV hM Tn hn;have S85:=S.av Tn;replace LL:=LL.kD (base':=w0.heap.size) S.size;have We:=Tn.back;replace hs:=hs.le XT We.le;replace lE:=lE.le (bS _) We.le;replace hM:=We.lt hM;have:=S.size;replace S:=S.av We;refine Rg.aZ G G (aI (T.aO ?_));refine au (A:=RT.qy (n+1)) (B:=((RT.qy n).sl (bS n))) aU G G Ie Nat.one_pos (XF n) G G (bS _) lE b4 (λu90 abO=>?_);refine bM dh G G G G G abO b4 (λv91 ye=>?_);refine Rg.pb (A:=RT.qy n) (hn:=bS _) (M:=M) dh (IQ jH _) G G G ye q0 (λu92 mY=>?_);replace mY:((RT.qy n).sl (bS n)).V M _ (q.kids.drop 1) u92:=mY;refine bB (A:=RT.qy n) (hn:=bS _) dh G mY G (aY (v':= .int .i64 ((q.kids.length-1:Nat):Int)) (by rw[dR]) (ab G G (ad (aT ?_))));refine cR (σ:=Nat×Value) (λq'=>[(0,v0),(3,u3),(5,q'.2),(44,u92),(45,.int .i64 ((q.kids.length-1:Nat):Int)),(46,.int .i64 (q'.1:Int))]) (λq' w=>q'.1+1<=q.kids.length/\cG RT.se M w v0 (uM (gQ L))/\cG (RT.qy (n+1)) M w u3 q/\((RT.qy n).sl (bS n)).V M w (q.kids.drop 1) u92/\∃M2,Lt M2 w/\Step M w0 M2 w ar/\Own RT.fo 45 M2 w w0.heap.size q'.2 (gD (λe=>qE q.kind ((q.kids.take (q'.1+1)).map (fG e.1.2))) 0 L)) (λq'=>q.kids.length-q'.1) (0,r85) a14 ?_ ?_
    ·exact⟨by dsimp only;omega,hs,lE,mY,_,ahG,S85,by dsimp only;rw[show gD (λe=>qE q.kind ((q.kids.take (0+1)).map (fG e.1.2))) 0 L=gD (λe=>fG e.1.2 x) 0 L from k9 λe _=>by rw[bQ,hx];exact HV _ _];exact LL⟩
    ·clear hM S hs lE mY;rintro⟨i,vo⟩ w ⟨hi,hs,lE,mY,M2,Og,S2,kx⟩;dsimp only at hi kx ⊢;have S:=S2.back;have hM:=S.lt iz;have iZ:=kx.foV iz S2 hn;refine T.aO (ck G G G (ad (aI ?_)));refine bI G (λMH=>?_) (λMH=>?_)
     ·refine aR (aI (aT (T.aO ?_)));have TO:i<(q.kids.drop 1).length:=by rw[dR];omega
      obtain⟨x,JV⟩:∃x,(q.kids.drop 1)[i]? =some x:=⟨_,an TO⟩;have hx:q.kids[i+1]? =some x:=by rw[lF,Nat.add_comm]at JV;exact JV
      refine cx (A:=RT.qy n) (hn:=bS _) (M:=M) dh (IQ jH _) G G G mY b4 q0 (λaaN x_ fV A4=>?_);rw[aq]at fV;obtain rfl:=aF (JV.symm.trans fV);refine bZ (A:=RT.qy (n)) aU G (IQ jH _) (bS _) (eD _) G G A4 b4 (λahB kN=>?_);obtain⟨xw,xk,rfl,xr,xl,hxw,hxk⟩:=pW (n4 kN);refine ek M jH G (λTo XO atD atE jo lS=>?_);obtain⟨Tp,LM⟩:∃M',M'=ins M To:=⟨_,rfl⟩;rw[<-LM]at lS;have jX:Tp To:=by rw[LM];exact .inl G
      change XO.heap[To]? =some (.cells #[.int .i64 0,.string ⟨#[]⟩,.string ⟨#[]⟩,.slice none 0 0,.slice none 0 0] _ _)at jo;replace hs:=hs.le XT lS.le;replace lE:=lE.le (bS _) lS.le;replace mY:=mY.le lS.le;replace iZ:=iZ.le lS.le;replace kN:=kN.le lS.le;replace hM:=lS.lt hM;have:=S.size;replace S:=S.av lS;refine dX (M:=Tp) (vs:=[.int .i64 x.kind,.string ⟨x.term.1.toArray⟩,.string ⟨x.term.2.toArray⟩,xw,xk]) jH G G (EF hxw hxk) G G jo jX (λazt apY EM=>?_);have:=ae jo;replace jX:=(EM.mem _ this).2 jX;replace hs:=hs.le XT EM.le;replace lE:=lE.le (bS _) EM.le;replace mY:=mY.le EM.le;replace iZ:=iZ.le EM.le;replace kN:=kN.le EM.le;replace hM:=EM.lt hM;have:=S.size;replace S:=S.trans EM (λk hk h=>by have h:_=_:=h;subst h;first|(exfalso;omega)|(show _<=_;omega)|exact⟨by first|omega|assumption,(S.mem _ hk).1 ((EM.mem _ (ae jo)).1 jX)⟩|exact .inl rfl|exact .inr rfl|exact .inr (.inl rfl)|exact .inr (.inr rfl)|exact .inr (.inr (.inl rfl))|exact rfl);have Tq:=apY;clear jo;have jo:=Tq;clear Tq;refine ad (T.aO ?_);refine au (A:=RT.qy (n+1)) (B:=RT.int .i64) aU G G I3 XT (XE n) G G (bS _) lE b4 (λapj Tb=>?_);refine bV aj G G Tb b4 (λahH=>?_);refine aY (v':= .int .i64 q.kind) G (gN G G G (ad ?_));refine bI G (λPx=>?_) (λPx=>?_)
      ·refine aN (ab G G (ab G G (eQ (vs:=[.int .i64 x.kind,.string ⟨x.term.1.toArray⟩,.string ⟨x.term.2.toArray⟩,xw,xk]) aU G jH G G G jo ?_)));refine aJ G G E56 (ih x (ax hx) _ _ _ hM (λhn=>h0 ((S.mem 1 (ae Dw)).1 hn)) ⟨NY,NZ,S.ay Dw⟩ hs kN (hmk _ (ax hx))) (λazu azv hc=>?_);obtain⟨atF,apZ,Tr,abQ⟩:=hc;have Ku:=abQ.foV hM Tr hn;have wK:=Tr.back;have:=ae jo;replace jX:=(wK.mem _ this).2 jX;replace jo:=wK.ay jo;replace hs:=hs.le XT wK.le;replace lE:=lE.le (bS _) wK.le;replace mY:=mY.le wK.le;replace iZ:=iZ.le wK.le;replace kN:=kN.le wK.le;replace hM:=wK.lt hM;have:=S.size;replace S:=S.av wK;refine aJ G G E53 (VS hM iZ Ku (zr hn) (zr hn) ai4) (λrj wj hc=>?_);obtain⟨Mj,qn,DE,Wf⟩:=hc;rw[LK (deep:=deep) 2 XT ⟨λ_=>Px,λ_=>rfl⟩ hx hn hF hk8.2 hmk]at Wf;have Sj:=S.av DE;replace Wf:=Wf.kD (base':=w0.heap.size) S.size;have sj:=DE.back;have:=ae jo;replace jX:=(sj.mem _ this).2 jX;replace jo:=sj.ay jo;replace hs:=hs.le XT sj.le;replace lE:=lE.le (bS _) sj.le;replace mY:=mY.le sj.le;replace iZ:=iZ.le sj.le;replace kN:=kN.le sj.le;replace Ku:=Ku.le sj.le;replace hM:=sj.lt hM;have:=S.size;replace S:=S.av sj;refine Rg.aZ G G (aN (br G G G q0 (ab G G (ad ?_))));refine⟨G,(i+1,rj),a14,?_,?_⟩
       ·have lc:=ni iz S;exact⟨by dsimp only;omega,hs.le XT lc,lE.le (bS _) lc,mY.le lc,_,qn,Sj,Wf⟩
       ·dsimp only;omega
      ·refine aN (ab G G (ab G G (eQ (vs:=[.int .i64 x.kind,.string ⟨x.term.1.toArray⟩,.string ⟨x.term.2.toArray⟩,xw,xk]) aU G jH G G G jo ?_)));refine aJ G G E56 (ih x (ax hx) _ _ _ hM (λhn=>h0 ((S.mem 1 (ae Dw)).1 hn)) ⟨NY,NZ,S.ay Dw⟩ hs kN (hmk _ (ax hx))) (λao7 ahg hc=>?_);obtain⟨atG,ap0,Tt,abR⟩:=hc;have Kv:=abR.foV hM Tt hn;have wL:=Tt.back;have:=ae jo;replace jX:=(wL.mem _ this).2 jX;replace jo:=wL.ay jo;replace hs:=hs.le XT wL.le;replace lE:=lE.le (bS _) wL.le;replace mY:=mY.le wL.le;replace iZ:=iZ.le wL.le;replace kN:=kN.le wL.le;replace hM:=wL.lt hM;have:=S.size;replace S:=S.av wL;refine aJ G G apL (aaX hM iZ Kv (zr hn) (zr hn) ai4) (λrj wj hc=>?_);obtain⟨Mj,qn,DE,Wf⟩:=hc;rw[LK (deep:=deep) 1 XT ⟨λh=>absurd h XT,λh=>absurd h Px⟩ hx hn hF hk8.2 hmk]at Wf;have Sj:=S.av DE;replace Wf:=Wf.kD (base':=w0.heap.size) S.size;have sj:=DE.back;have:=ae jo;replace jX:=(sj.mem _ this).2 jX;replace jo:=sj.ay jo;replace hs:=hs.le XT sj.le;replace lE:=lE.le (bS _) sj.le;replace mY:=mY.le sj.le;replace iZ:=iZ.le sj.le;replace kN:=kN.le sj.le;replace Kv:=Kv.le sj.le;replace hM:=sj.lt hM;have:=S.size;replace S:=S.av sj;refine Rg.aZ G G (aN (br G G G q0 (ab G G (ad ?_))));refine⟨G,(i+1,rj),a14,?_,?_⟩
       ·have lc:=ni iz S;exact⟨by dsimp only;omega,hs.le XT lc,lE.le (bS _) lc,mY.le lc,_,qn,Sj,Wf⟩
       ·dsimp only;omega
     ·refine cE (T.aO (ab G G (Rg.aZ G G (aM (aP G G ⟨_,Og,S2,?_⟩)))))
      rw[show gD (λe=>fG e.1.2 q) 0 L=gD (λe=>qE q.kind ((q.kids.take (i+1)).map (fG e.1.2))) 0 L from k9 λe _=>by
       rw[sa,if_neg c2,if_neg c4,bg (show q.kids.length<=i+1 by omega)];unfold qE;rcases ZT with h|h
       ·rw[if_pos h,if_pos h]
       ·rw[if_neg (show¬q.kind=2 by omega),if_pos h,if_neg (show¬q.kind=2 by omega)]]
      exact kx
theorem Bz:∀(n:Nat) {M:aE} {L:List En} {q:Qy} {v0 v:Value} {deep:Nat} (w0:World) (hM:Lt M w0) (h0: ¬M 1) (tab:∃e fr,w0.heap[1]? =some (.cells (E2.map fun(k:Nat)=>Value.int .u8 (k:Int)).toArray e fr)) (hs:cG RT.se M w0 v0 (uM (gQ L))) (fN:vW (-1) L=true) (hn:L.length<=100000) (hv:(RT.qy n).V M w0 q v) (hm:jK q deep=0),Spec Tryz.prog 56 #[v0,v] w0 (λv w=>∃M',Lt M' w/\Step M w0 M' w ar/\Own RT.fo 45 M' w w0.heap.size v (gD (λe=>fG e.1.2 q) 0 L))
 |0,M,L,q,v0,v,deep,w0,hM,h0,tab,hs,fN,hn,hv,hm=>By (n:=0) w0 hM h0 tab hs fN hn (n4 hv) hm λx hx=>by rw[Dt hv]at hx;cases hx
 |n+1,M,L,q,v0,v,deep,w0,hM,h0,tab,hs,fN,hn,hv,hm=>By w0 hM h0 tab hs fN hn hv hm λx hx M w v hM h0 tab hs hv hm=>Bz n w hM h0 tab hs fN hn hv hm
end Go.K
namespace Go.K
open Go.Proofs
namespace TKMMatch
theorem jH:TI Tryz.prog 28 (.agg #[(.int .i64 0),(.string ⟨#[]⟩),(.string ⟨#[]⟩),(.slice none 0 0),(.slice none 0 0)]) 5 88:=by unfold TI;kernel_rfl
theorem E55:Enters Tryz.prog 55:=enters Tryz.func55 rfl XT
theorem E56:Enters Tryz.prog 56:=enters Tryz.func56 rfl XT
end TKMMatch
open TKMMatch
set_option maxRecDepth 10000
theorem HW {M:aE} {n:Nat} {L:List En} {q:Qy} {v0 v:Value} (w0:World) (hM:Lt M w0) (h0: ¬M 1) (tab:∃e fr,w0.heap[1]? =some (.cells (E2.map fun(k:Nat)=>Value.int .u8 (k:Int)).toArray e fr)) (hs:cG RT.se M w0 v0 (uM (gQ L))) (fN:vW (-1) L=true) (hn:L.length<=100000) (hv:(RT.qy (n+1)).V M w0 q v) (lP:Ox q):
  Spec Tryz.prog 13 #[v0,v] w0 (λv w=>∃M',Lt M' w/\Step M w0 M' w ar/\Own RT.fo 45 M' w w0.heap.size v (if jK q 1=0 then gD (λe=>fG e.1.2 q) 0 L else[])):=by
 have iz:=hM;obtain⟨NY,NZ,Dw⟩:=tab;refine aS (args:=[_,_]) (fn:=Tryz.f13) Tryz.func13 G (n:=11) Tryz.ntmps13 ?_;have S:Step M w0 M w0 ar:=aV;refine T.aO ?_;refine gR (A:=RT.qy (n+1)) (a:=q) G G hM hv (eD _) (λu3 Ov lE lg _=>?_);replace hv:=hv.le lg.le;replace hs:=hs.le XT lg.le;replace hM:=lg.lt hM;have:=S.size;replace S:=S.av lg;refine Rg.aZ G G (aI (T.aO ?_));refine bZ (A:=RT.qy (n+1)) aU G (IQ jH _) (bS _) (eD _) G G lE b4 (λv10 uw=>?_);refine aJ G G E55 (Du (n:=n) _ hM uw lP) (λr11 UB hc=>?_);obtain⟨rfl,pC⟩:=hc;replace hs:=hs.le XT pC.le;replace lE:=lE.le (bS _) pC.le;replace hM:=pC.lt hM;have:=S.size;replace S:=S.av pC;refine eR G G G (ad ?_);refine bI G (λc1=>?_) (λc1=>?_)
 ·refine T.aO (Rg.aZ G G (aM (aP G G ⟨M,hM,S,?_⟩)));rw[if_neg (by first|exact c1|omega)];exact eE _ _ _ _ _
 ·have hm:jK q 1=0:=by first|exact db.1 c1|omega
  refine aR (T.aO (ab G G ?_));refine bZ (A:=RT.qy (n+1)) aU G (IQ jH _) (bS _) (eD _) G G lE b4 (λv31 Wa=>?_);refine aJ G G E56 (Bz (n+1) (deep:=1) _ hM (λhn=>h0 ((S.mem 1 (ae Dw)).1 hn)) ⟨NY,NZ,S.ay Dw⟩ hs fN hn Wa hm) (λr32 w32 hc=>?_);obtain⟨M3,h3l,h3s,h3o⟩:=hc;refine Rg.aZ G G (aM (aP G G ⟨M3,h3l,S.av h3s,?_⟩));rw[if_pos hm];exact h3o.kD S.size
end Go.K
namespace Go.K
open Go.Proofs
namespace TKR12A
theorem Ie:TI Tryz.prog 26 (.slice none 0 0) 1 24:=by unfold TI;kernel_rfl
theorem jH:TI Tryz.prog 28 (.agg #[(.int .i64 0),(.string ⟨#[]⟩),(.string ⟨#[]⟩),(.slice none 0 0),(.slice none 0 0)]) 5 88:=by unfold TI;kernel_rfl
end TKR12A
open TKR12A
set_option maxRecDepth 10000
end Go.K
namespace Go.K
open Go.Proofs
namespace TKR12B
theorem Ie:TI Tryz.prog 26 (.slice none 0 0) 1 24:=by unfold TI;kernel_rfl
theorem jH:TI Tryz.prog 28 (.agg #[(.int .i64 0),(.string ⟨#[]⟩),(.string ⟨#[]⟩),(.slice none 0 0),(.slice none 0 0)]) 5 88:=by unfold TI;kernel_rfl
theorem E78:Enters Tryz.prog 78:=enters Tryz.func78 rfl XT
theorem agX:Enters Tryz.prog 124:=enters Tryz.func124 rfl XT
end TKR12B
open TKR12B
set_option maxRecDepth 10000
end Go.K
namespace Go.K
open Go.Proofs
namespace TKR13M
theorem I4:TI Tryz.prog 4 (.bool false) 1 1:=by unfold TI;kernel_rfl
theorem jH:TI Tryz.prog 28 (.agg #[(.int .i64 0),(.string ⟨#[]⟩),(.string ⟨#[]⟩),(.slice none 0 0),(.slice none 0 0)]) 5 88:=by unfold TI;kernel_rfl
theorem lR:TI Tryz.prog 45 (.agg #[(.int .i64 0),(.int .i64 0)]) 2 16:=by unfold TI;kernel_rfl
theorem R3:placesOf Tryz.prog 45=[(0,1),(1,1)].map some:=by kernel_rfl
end TKR13M
open TKR13M
set_option maxRecDepth 10000
end Go.K
namespace Go.K
open Go.Proofs
namespace TKDel13
theorem lR:TI Tryz.prog 45 (.agg #[(.int .i64 0),(.int .i64 0)]) 2 16:=by unfold TI;kernel_rfl
theorem E63:Enters Tryz.prog 63:=enters Tryz.func63 rfl XT
theorem E64:Enters Tryz.prog 64:=enters Tryz.func64 rfl XT
theorem ap2:Enters Tryz.prog 115:=enters Tryz.func115 rfl XT
end TKDel13
open TKDel13
set_option maxRecDepth 10000
def ja (a:List Bool) (p:Fo):Bool:= !(decide (0<=p.1)&&decide (a[p.1.toNat]? =some true))
theorem Wg {a:List Bool} {ws:List Nat} (h:∀j,bit ws j=true↔a[j]? =some true) (d:Int):TQ a.length ws d=(decide (0<=d)&&decide (a[d.toNat]? =some true)):=by
 unfold TQ;by_cases h0:0<=d
 ·rw[decide_eq_true h0,cT];by_cases h1:a[d.toNat]? =some true
  ·have:=(al.1 h1).1;rw[decide_eq_true h1,(h _).2 h1,decide_eq_true q0];rfl
  ·rw[decide_eq_false h1]
   cases hb:bit ws d.toNat with
   |false=>rw[Bool.and_false]
   |true=>exact absurd ((h _).1 hb) h1
 ·rw[decide_eq_false h0,ei,decide_eq_false q0,ei]
theorem yf {a:List Bool} {xs:List Fo} {i:Nat} {p:Fo} (h:xs[i]? =some p):(xs.take (i+1)).filter (λp=> !ja a p)=(xs.take i).filter (λp=> !ja a p)++if ja a p=true then[]else[p]:=by
 rw[bQ,h,cH,fp];congr 1
 cases hd:ja a p<;>simp[hd]
theorem Tu {a:List Bool} {xs:List Fo} {i:Nat} (h:∀(j:Nat) p,j<i->xs[j]? =some p->ja a p=false):(xs.take i).filter (λp=> !ja a p)=xs.take i:=by
 rw[List.filter_eq_self];intro p hp;obtain⟨j,hj⟩:=bG.1 hp;have W4:j<i:=by have:=(al.1 hj).1;rw[bF]at this;omega
 rw[dE,if_pos W4]at hj;rw[h j p W4 hj];rfl
def ahI (a:List Bool) (xs:List Fo) (z:Int):Prop:=(z= -1/\∀p∈xs,ja a p=false)\/∃i:Nat,z=(i:Int)/\i<xs.length/\(∀(j:Nat) p,j<i->xs[j]? =some p->ja a p=false)/\∃p,xs[i]? =some p/\ja a p=true
theorem BA {M:aE} {a:List Bool} {bs bc:Nat} {p:Fo} {v:Value} (w0:World) (hM:Lt M w0) (hc:w0.heap[bc]? =some (.cells #[.pointer (some ⟨bs,0,none⟩)] 49 (0,0))) (dz:qC M w0 a bs) (hp:RT.fo.V M w0 p v):
  Spec Tryz.prog 63 #[v,.pointer (some ⟨bc,0,none⟩)] w0 (λv w=>v= .bool (ja a p)/\Step M w0 M w ar):=by
 have iz:=hM;refine aS (args:=[_,_]) (fn:=Tryz.f63) Tryz.func63 G (n:=9) Tryz.ntmps63 ?_;have S:Step M w0 M w0 ar:=aV;refine T.aO ?_;refine gR (A:=RT.fo) (a:=p) G G hM hp G (λu2 wb j3 sb _=>?_);replace hp:=hp.le sb.le;replace hc:=sb.ay hc;replace dz:=dz.le sb.le;replace hM:=sb.lt hM;have:=S.size;replace S:=S.av sb;refine Rg.aZ G G (T.aO (aA ox G G G hc G (aY (v':= .pointer (some ⟨bs,0,none⟩)) G ?_)));refine au (A:=RT.fo) (B:=RT.int .i64) dg G G I3 XT WD G G XT j3 b4 (λu11 Te=>?_);refine bV aj G G Te b4 (λajf=>?_);refine aY (v':= .int .i64 p.1) G ?_;obtain⟨ws,Wt,qB⟩:=dz;obtain⟨bw,hsa⟩:=Wt.all;refine aJ G G E64 (Hb (i:=p.1) hsa) (λr13 Vi Of=>?_);obtain⟨rfl,rfl⟩:=Of;rw[Wg qB];refine gM G G (aY (v':= .bool (ja a p)) G (Rg.aZ G G (aM ?_)));exact aP G G ⟨G,S⟩
theorem N0 {M:aE} {a:List Bool} {bs bc:Nat} {xs:List Fo} {v:Value} (w0:World) (hM:Lt M w0) (hc:w0.heap[bc]? =some (.cells #[.pointer (some ⟨bs,0,none⟩)] 49 (0,0))) (dz:qC M w0 a bs) (hv:((RT.fo).sl).V M w0 xs v):
  Spec Tryz.prog 115 #[v,.func (.func 63) #[] #[.pointer (some ⟨bc,0,none⟩)]] w0 (λv w=>∃z,v= .int .i64 z/\ahI a xs z/\Step M w0 M w ar):=by
 have iz:=hM;have lJ:=dW hv;refine aS (args:=[_,_]) (fn:=Tryz.f115) Tryz.func115 G (n:=19) Tryz.ntmps115 ?_;have S:Step M w0 M w0 ar:=aV;refine T.aO (Rg.aZ G G (aI (T.aO (ab G G (bB a7 G hv G (ab G G (ad (aT ?_))))))));refine cR (σ:=Nat) (λi=>[(0,v),(1,.func (.func 63) #[] #[.pointer (some ⟨bc,0,none⟩)]),(7,.int .i64 (xs.length:Int)),(8,.int .i64 (i:Int))]) (λi w=>i<=xs.length/\(∀(j:Nat) p,j<i->xs[j]? =some p->ja a p=false)/\Lt M w/\Step M w0 M w ar/\((RT.fo).sl).V M w xs v/\w.heap[bc]? =some (.cells #[.pointer (some ⟨bs,0,none⟩)] 49 (0,0))/\qC M w a bs) (λi=>xs.length-i) 0 a01 ?_ ?_
 ·exact⟨bm _,λj p h=>absurd h (eL _),hM,S,hv,hc,dz⟩
 ·clear hM S hv hc dz;rintro i w ⟨hi,jj,hM,S,hv,hc,dz⟩;refine T.aO (ck G G G (ad (aI ?_)));refine bI G (λc2=>?_) (λc2=>?_)
  ·refine aR (aI (aT (T.aO (ab G G (Rg.aZ G G (T.aO (ab G G (ab G G ?_))))))));refine ab G G ?_;obtain⟨p,T4⟩:∃x,xs[i]? =some x:=⟨_,an q0⟩;refine cx (A:=RT.fo) (hn:=by decide) a7 lR G G G hv b4 q0 (λu43 x_ fV Sh=>?_);rw[aq]at fV;obtain rfl:=aF (T4.symm.trans fV);refine bZ (A:=RT.fo) dg G lR XT G G G Sh b4 (λv44 abH=>?_);refine ng (first:=[]) (captured:=[.pointer (some ⟨bc,0,none⟩)]) (xs:=[.tmp 15]) G G G E63 (BA _ hM hc dz abH) (λr4 w4 hc4=>?_);obtain⟨rfl,s4⟩:=hc4;refine aY (v':= .bool (decide (ja a p=true))) (by simp) ?_;replace hv:=hv.le s4.le;replace hc:=s4.ay hc;replace dz:=dz.le s4.le;replace hM:=s4.lt hM;have:=S.size;replace S:=S.av s4;refine ad ?_;refine bI G (λc4=>?_) (λc4=>?_)
   ·refine T.aO (ab G G (Rg.aZ G G (aM ?_)));exact aP G G ⟨_,G,.inr ⟨i,G,by omega,jj,p,T4,c4⟩,S⟩
   ·refine aR (aN (br G G G q0 (ab G G (ad ?_))));refine⟨G,i+1,a01,?_,?_⟩
    ·refine⟨by omega,λj y hj hy=>?_,hM,S,hv,hc,dz⟩;rcases cL j i with h|h
     ·exact jj j y h hy
     ·obtain rfl:j=i:=by omega
      rw[T4]at hy;cases hy;exact fj.2 c4
    ·omega
  ·refine cE (T.aO (Rg.aZ G G (aM ?_)));refine aP G G ⟨_,G,.inl ⟨G,λp hp=>?_⟩,S⟩;obtain⟨j,hj⟩:=bG.1 hp;exact jj j p (by have:=(al.1 hj).1;omega) hj
theorem qC.none {M:aE} {w:World} {a:List Bool} {bs:Nat} (h:qC M w a bs):qC ar w a bs:=by
 obtain⟨ws,⟨bw,h1,_,_⟩,h2⟩:=h;exact⟨ws,⟨bw,h1,λh=>h,λh=>h⟩,h2⟩
def BB (cs:Array Value) (xs:List Fo) (j:Nat):Prop:=∀(t:Nat) p,j<=t->xs[t]? =some p->cs[t*2]? =some (.int .i64 p.1)/\cs[t*2+1]? =some (.int .i64 p.2)/\R8 p
theorem wh.from {cs:Array Value} {xs:List Fo} (h:wh cs xs) (j:Nat):BB cs xs j:=λt p _ hp=>h t p hp
theorem wh.take {cs:Array Value} {xs:List Fo} (h:wh cs xs) (i:Nat):wh cs (xs.take i):=λt p hp=>by
 have ht:=(al.1 hp).1;rw[bF]at ht;rw[dE,if_pos q0]at hp;exact h t p hp
theorem wh.snoc {cs sO:Array Value} {xs:List Fo} {p:Fo} (h:wh cs xs) (hp:R8 p) (h1:sO[xs.length*2]? =some (.int .i64 p.1)) (h2:sO[xs.length*2+1]? =some (.int .i64 p.2)) (h3:∀j,j≠xs.length*2->j≠xs.length*2+1->sO[j]? =cs[j]?):wh sO (xs++[p]):=λt q hq=>by
 rcases fh t xs.length with e|e|e
 ·rw[List.getElem?_append_left e]at hq;obtain⟨a1,a2,a3⟩:=h t q hq;exact⟨by rw[h3 _ q0 q0];exact a1,by rw[h3 _ q0 q0];exact a2,a3⟩
 ·subst e;rw[List.getElem?_append_right (aX _)]at hq;simp at hq;subst hq;exact⟨h1,h2,hp⟩
 ·rw[dr a13]at hq;cases hq
theorem BB.bL {cs sO:Array Value} {xs:List Fo} {i j:Nat} (h:BB cs xs j) (jt:i<j) (h3:∀k,k≠i*2->k≠i*2+1->sO[k]? =cs[k]?):BB sO xs (j+1):=λt p ht hp=>by
 obtain⟨a1,a2,a3⟩:=h t p q0 hp;exact⟨by rw[h3 _ q0 q0];exact a1,by rw[h3 _ q0 q0];exact a2,a3⟩
theorem wh.cut {cs sO:Array Value} {xs:List Fo} (h:wh cs xs) (h3:∀k,k<xs.length*2->sO[k]? =cs[k]?):wh sO xs:=λt p hp=>by
 have ht:=(al.1 hp).1;obtain⟨a1,a2,a3⟩:=h t p hp;exact⟨by rw[h3 _ q0];exact a1,by rw[h3 _ q0];exact a2,a3⟩
theorem N1 {M0 M:aE} {a:List Bool} {bs bc:Nat} {xs:List Fo} {v:Value} {w00:World} (w0:World) (iz:Lt M0 w00) (S0:Step M0 w00 M w0 ar) (hM:Lt M w0) (hc:w0.heap[bc]? =some (.cells #[.pointer (some ⟨bs,0,none⟩)] 49 (0,0))) (dz:qC M w0 a bs) (ho:Own RT.fo 45 M w0 w00.heap.size v xs) (BR:xs.length<=100000):
  Spec Tryz.prog 62 #[v,.func (.func 63) #[] #[.pointer (some ⟨bc,0,none⟩)]] w0 (λv w=>((RT.fo).sl).V M0 w (xs.filter λp=> !ja a p) v/\Step M0 w00 M0 w ar):=by
 refine aS (args:=[_,_]) (fn:=Tryz.f62) Tryz.func62 G (n:=42) Tryz.ntmps62 ?_;have S:Step M w0 M w0 ar:=aV;refine T.aO (aB G G ?_);replace S:=S0;refine ad (T.aO (ab G G (ab G G ?_)));refine aJ G G ap2 (N0 _ (Lt.none _) hc dz.none ((ho.close (hn:=by decide) iz S q0).le (λb hb hm=>⟨λh=>h,rfl⟩))) (λr1 w1 KJ=>?_);obtain⟨z,rfl,hz,s1_⟩:=KJ;have s1:=s1_.any M;replace ho:=ho.bD s1;replace hc:=s1.ay hc;replace dz:=dz.le s1.le;replace hM:=s1.lt hM;have:=S.size;replace S:=S.av s1;refine Rg.aZ G G (aI (T.aO (ab G G (gN G G G (ad ?_)))));refine bI G (λc2=>?_) (λc2=>?_)
 ·refine T.aO (ab G G (Rg.aZ G G (aM ?_)));have hz2:=hz.resolve_right (fun⟨i,h,_⟩=>by omega);refine aP G G ⟨?_,S.back⟩;rw[show(xs.filter λp=> !ja a p)=xs from List.filter_eq_self.2 λp hp=>by rw[hz2.2 p hp];rfl];exact ho.close iz S q0
 ·refine aR (aI (T.aO ?_));obtain⟨i0,rfl,Wq,jj,p0,hp0,hd0⟩:=hz.resolve_left (λh=>c2 h.1);obtain⟨g,cap,ap3,rfl,X4,hg,uG,hgb,Wp,Ip⟩:=ho.fos (λe=>by rw[e]at Wq;exact absurd Wq (eL _));clear ho;have hgc:g≠bc:=λe=>by subst e;rw[hc]at hg;simp at hg
  refine ab G G (br G G G q0 (Rg.aZ G G (aT ?_)));refine cR (σ:=Nat×Nat) (λq=>[(0,.slice (some ⟨g,0,none⟩) xs.length cap),(1,.func (.func 63) #[] #[.pointer (some ⟨bc,0,none⟩)]),(5,.int .i64 (q.1:Int)),(6,.int .i64 (q.2:Int))]) (λq w=>q.1<q.2/\q.2<=xs.length/\q.1=((xs.take q.2).filter λp=> !ja a p).length/\∃M2 cur,Lt M2 w/\Step M0 w00 M2 w ar/\w.heap[g]? =some (.cells cur 45 (0,0))/\M2 g/\xs.length*2<=cur.size/\wh cur ((xs.take q.2).filter λp=> !ja a p)/\BB cur xs q.2/\w.heap[bc]? =some (.cells #[.pointer (some ⟨bs,0,none⟩)] 49 (0,0))/\qC M2 w a bs) (λq=>xs.length-q.2) (i0,i0+1) a01 ?_ ?_
  ·have O5:((xs.take (i0+1)).filter λp=> !ja a p)=xs.take i0:=by rw[yf hp0,if_pos hd0,fS,Tu jj]
   exact⟨Nat.lt_succ_self _,Wq,by dsimp only;rw[O5,bF];omega,_,ap3,hM,S,hg,uG,Wp,by dsimp only;rw[O5];exact Ip.take i0,Ip.from _,hc,dz⟩
  ·clear hM S hg uG Wp Ip hc dz;rintro⟨i,j⟩ w ⟨jt,qn,hik,M2,cur,hM,S,hg,uG,Wp,Ip,hfr,hc,dz⟩;dsimp only at jt qn hik Ip hfr ⊢;refine aI (T.aO (ab G G (ab G G (Rg.tV a7 G G (ck G G G (ad ?_))))));refine bI G (λc5=>?_) (λc5=>?_)
   ·refine aR (aI (aT (T.aO (ab G G (ab G G ?_)))));obtain⟨p,T4⟩:∃x,xs[j]? =some x:=⟨_,an q0⟩;obtain⟨TX,WA,Ib⟩:=hfr j p (aX _) T4;refine Rg.Xz a7 lR G G G q0 ?_;rw[aq];refine bZ (M:=ar) (A:=RT.fo) dg G lR XT G G G (Hm hg (λh=>h) TX WA Ib) b4 (λv73 ap4=>?_);obtain rfl:=aaY ap4;refine ek M2 lR G (λWh ap5 azy azz zf Kw=>?_);obtain⟨Tv,Tx⟩:∃M',M'=ins M2 Wh:=⟨_,rfl⟩;rw[<-Tx]at Kw;have yg:Tv Wh:=by rw[Tx];exact .inl G
    change ap5.heap[Wh]? =some (.cells #[.int .i64 0,.int .i64 0] _ _)at zf;have:=ae hg;replace uG:=(Kw.mem _ this).2 uG;replace hg:=Kw.ay hg;replace hc:=Kw.ay hc;replace dz:=dz.le Kw.le;replace hM:=Kw.lt hM;have:=S.size;replace S:=S.av Kw;have hbn: ¬bc=Wh:=λe=>by rw[e,zf]at hc;simp at hc
    refine dX (M:=Tv) (vs:=[.int .i64 p.1,.int .i64 p.2]) lR G G al5 rfl rfl zf yg (λw7 g7 s7=>?_);have:=ae hg;replace uG:=(s7.mem _ this).2 uG;replace hg:=s7.bL hg a05;have:=ae zf;replace yg:=(s7.mem _ this).2 yg;replace hc:=s7.bL hc (λh=>hbn h);replace dz:=dz.le s7.le;replace hM:=s7.lt hM;have:=S.size;replace S:=S.trans s7 (λk hk h=>by have h:_=_:=h;subst h;first|(exfalso;omega)|(show _<=_;omega)|exact⟨by first|omega|assumption,(S.mem _ hk).1 ((s7.mem _ (ae zf)).1 yg)⟩|exact .inl rfl|exact .inr rfl|exact .inr (.inl rfl)|exact .inr (.inr rfl)|exact .inr (.inr (.inl rfl))|exact rfl);have XP:=g7;clear zf;have zf:=XP;clear XP;refine ad (T.aO (ab G G (eQ (vs:=[.int .i64 p.1,.int .i64 p.2]) dg G lR G G G zf ?_)));refine ng (first:=[]) (captured:=[.pointer (some ⟨bc,0,none⟩)]) (xs:=[.tmp 27]) G G G E63 (BA (p:=p) _ hM hc dz (Pd Ib.1 Ib.2)) (λr8 w8 hc8=>?_);obtain⟨rfl,s8⟩:=hc8;have:=ae hg;replace uG:=(s8.mem _ this).2 uG;replace hg:=s8.ay hg;have:=ae zf;replace yg:=(s8.mem _ this).2 yg;replace zf:=s8.ay zf;replace hc:=s8.ay hc;replace dz:=dz.le s8.le;replace hM:=s8.lt hM;have:=S.size;replace S:=S.av s8;refine gM rfl rfl (aY (v':= .bool (decide (ja a p=false))) (by cases ja a p<;>rfl) (ad ?_));refine bI G (λc8=>?_) (λc8=>?_)
    ·refine T.aO (ab G G (ab G G (eQ (vs:=[.int .i64 p.1,.int .i64 p.2]) dg G lR G G G zf (Rg.Xz a7 lR G G G q0 ?_))));rw[aq];refine Rg.aa3 (M:=Tv) lR G G ⟨G,G⟩ hg q0 uG (λw9 ap6 TS hz9 ha9 hb9 hk9 s9=>?_);replace hc:=s9.bL hc (λh=>hgc h.symm);replace dz:=dz.le s9.le;replace uG:=(s9.mem _ (ae hg)).2 uG;replace hg:=TS;replace S:=S.cq s9 (λb (hb:b=g)=>by omega);replace hM:=s9.lt hM;refine ad (aN (ab G G (br G G G q0 (Rg.aZ G G (aN (ab G G (br G G G q0 (Rg.aZ G G ?_))))))));refine⟨G,(i+1,j+1),a01,?_,?_⟩
     ·have Qp:=yf (a:=a) T4;rw[if_neg (by rw[c8];decide)]at Qp;exact⟨by dsimp only;omega,by dsimp only;omega,by dsimp only;rw[Qp,bU,eF];omega,_,ap6,hM,S,hg,uG,by omega,by dsimp only;rw[Qp];rw[hik]at ha9 hb9 hk9;exact Ip.snoc Ib ha9 hb9 hk9,hfr.bL jt hk9,hc,dz⟩
     ·dsimp only;omega
    ·refine aR (aN (ab G G (br G G G q0 (Rg.aZ G G ?_))));refine⟨G,(i,j+1),a01,?_,?_⟩
     ·have Qp:=yf (a:=a) T4;rw[if_pos (by simpa using c8),fS]at Qp;exact⟨by dsimp only;omega,by dsimp only;omega,by dsimp only;rw[Qp];omega,_,cur,hM,S,hg,uG,Wp,by dsimp only;rw[Qp];exact Ip,λt p ht hp=>hfr t p q0 hp,hc,dz⟩
     ·dsimp only;omega
   ·refine cE (T.aO (ab G G (ab G G (Rg.agI a7 lR G G G q0 X4 ?_))));rw[aq];refine Rg.aa4 (M:=M2) a7 lR G ⟨G,G⟩ G hg q0 q0 uG (λUB atJ ap8 ap9 pC=>?_);replace S:=S.cq pC (λb (hb:b=g)=>by omega);replace hg:=ap8;refine ad (T.aO (ab G G (ab G G (Rg.agJ a7 lR G G G q0 ?_))));rw[aq];refine Rg.aZ G G (aM ?_);have hj:xs.take j=xs:=bg q0;rw[hj]at hik Ip;refine aP G G ⟨?_,S.back⟩;have hv:=agH (M:=M0) hg (λh=>by have:=iz _ h;omega) (Ip.cut (λk hk=>ap9 k q0)) (by omega:_<=cap) (by have:=fI (λp=> !ja a p) xs;omega);rw[<-hik]at hv;exact hv
end Go.K
namespace Go.K
open Go.Proofs
namespace TKLive13
theorem jH:TI Tryz.prog 28 (.agg #[(.int .i64 0),(.string ⟨#[]⟩),(.string ⟨#[]⟩),(.slice none 0 0),(.slice none 0 0)]) 5 88:=by unfold TI;kernel_rfl
theorem E13:Enters Tryz.prog 13:=enters Tryz.func13 rfl XT
theorem E62:Enters Tryz.prog 62:=enters Tryz.func62 rfl XT
end TKLive13
open TKLive13
set_option maxRecDepth 10000
theorem Kx {M:aE} {n:Nat} {L:List En} {q:Qy} {a:List Bool} {bs:Nat} {v0 v:Value} (w0:World) (hM:Lt M w0) (h0: ¬M 1) (tab:∃e fr,w0.heap[1]? =some (.cells (E2.map fun(k:Nat)=>Value.int .u8 (k:Int)).toArray e fr)) (hs:cG RT.se M w0 v0 (uM (gQ L))) (fN:vW (-1) L=true) (hn:L.length<=100000) (dz:qC M w0 a bs) (hv:(RT.qy (n+1)).V M w0 q v) (lP:Ox q):
  Spec Tryz.prog 22 #[v0,.pointer (some ⟨bs,0,none⟩),v] w0 (λv w=>((RT.fo).sl).V M w ((if jK q 1=0 then gD (λe=>fG e.1.2 q) 0 L else[]).filter λp=> !ja a p) v/\Step M w0 M w ar):=by
 have iz:=hM;obtain⟨NY,NZ,Dw⟩:=tab;refine aS (args:=[_,_,_]) (fn:=Tryz.f22) Tryz.func22 G (n:=12) Tryz.ntmps22 ?_;have S:Step M w0 M w0 ar:=aV;refine T.aO ?_;refine iP M G G (λvu Mt Uz UA eC kG=>?_);obtain⟨G0,A0⟩:∃M',M'=ins M vu:=⟨_,rfl⟩;rw[<-A0]at kG;have pQ:G0 vu:=by rw[A0];exact .inl G
 try simp only[Value.cells]at eC
 replace hv:=hv.le kG.le;replace hs:=hs.le XT kG.le;replace dz:=dz.le kG.le;replace hM:=kG.lt hM;have:=S.size;replace S:=S.av kG;refine gR (A:=RT.qy (n+1)) (a:=q) G G hM hv (eD _) (λu5 wb1 rS Ow _=>?_);have:=ae eC;replace pQ:=(Ow.mem _ this).2 pQ;replace eC:=Ow.ay eC;replace hv:=hv.le Ow.le;replace hs:=hs.le XT Ow.le;replace dz:=dz.le Ow.le;replace hM:=Ow.lt hM;have:=S.size;replace S:=S.av Ow;refine Rg.aZ G G (T.aO (ab G G ?_));refine bZ (A:=RT.qy (n+1)) aU G (IQ jH _) (bS _) (eD _) G G rS b4 (λv11 Wb=>?_);refine aJ G G E13 (HW (n:=n) (q:=q) _ hM (λhn=>h0 ((S.mem 1 (ae Dw)).1 hn)) ⟨NY,NZ,S.ay Dw⟩ hs fN hn Wb lP) (λr12 H7 hc=>?_);obtain⟨Mr,hrl,R2,hro⟩:=hc;have PK:=R2.ay eC;replace dz:=dz.le R2.le;refine gz (xs:=[]) (ys:=[.tmp 4]) G G G ?_;refine aJ G G E62 (N1 _ hM R2 hrl PK dz hro (by split;(have:=lp (f:=λe=>fG e.1.2 q) L 0;omega);exact bm _)) (λr14 Oi hc=>?_);obtain⟨abG,iO⟩:=hc;replace S:=S.av iO;refine Rg.aZ G G (aM ?_);exact aP G G ⟨abG.le (ni iz S),S.back⟩
end Go.K
namespace Go.K
open Go.Proofs
namespace TKCnt13
theorem yX:TI Tryz.prog 126 (.slice none 0 0) 1 24:=by unfold TI;kernel_rfl
theorem rC:TI Tryz.prog 205 (.int .u64 0) 1 8:=by unfold TI;kernel_rfl
theorem aqa:Enters Tryz.prog 123:=enters Tryz.func123 rfl XT
end TKCnt13
open TKCnt13
set_option maxRecDepth 10000
def EN (x:Nat):Nat:=x%2+x/2%2+x/4%2+x/8%2
def f1p (x:Nat):Nat:=(x/2%2+x%2)+4*(x/8%2+x/4%2)
theorem N4 {x:Nat} (w0:World) (hx:x<16):
  Spec Tryz.prog 123 #[.int .u64 (x:Int)] w0 (λv w=>v= .int .i64 (EN x:Int)/\w=w0):=by
 refine aS (args:=[_]) (fn:=Tryz.f123) Tryz.func123 G (n:=35) Tryz.ntmps123 (T.aO (Rg.aZ G G (T.aO (ab G G (Rg.shr G G G q0 (Rg.and G G G (ab G G (Rg.and G G G ?_))))))));refine qH rfl rfl rfl (aY (v':= .int .u64 ((f1p x:Nat):Int)) a95 (Rg.aZ rfl rfl (T.aO (ab rfl rfl (Rg.shr rfl rfl rfl q0 (Rg.and rfl rfl rfl (ab rfl rfl (Rg.and rfl rfl rfl (qH rfl rfl rfl ?_)))))))));refine aY (v':= .int .u64 ((EN x:Nat):Int)) a95 ?_;obtain⟨p,hp⟩:∃p,p=EN x:=⟨_,rfl⟩;have Lr:p<=4:=by rw[hp];unfold EN;omega
 rw[<-hp];refine Rg.aZ G G (T.aO (ab G G (Rg.shr G G G q0 (ab G G (qH G G G (Rg.and G G G (aY (v':= .int .u64 (p:Int)) a42 (Rg.aZ rfl rfl ?_))))))));refine T.aO (ab G G (ab G G (Rg.shr G G G q0 (qH G G G (aY (v':= .int .u64 (p:Int)) a42 (Rg.aZ rfl rfl (T.aO (ab rfl rfl ?_))))))));refine ab G G (Rg.shr G G G q0 (qH G G G (aY (v':= .int .u64 (p:Int)) a42 (Rg.aZ rfl rfl (T.aO (ab rfl rfl (ab rfl rfl (Rg.shr rfl rfl rfl q0 (qH rfl rfl rfl ?_)))))))));refine aY (v':= .int .u64 (p:Int)) a42 (Rg.aZ rfl rfl (T.aO (ab rfl rfl (Rg.tF jY aj rfl rfl q0 (Rg.and rfl rfl rfl (aY (v':= .int .i64 (p:Int)) a42 (Rg.aZ rfl rfl (aM ?_))))))));exact a69
theorem Ty {n:Nat} {ws:List Nat} (hn:n<=4) (fN:∀j,bit ws j=true->j<n) (hw:∀k,ws.getD k 0<2^64):ws.getD 0 0<16:=by
 rcases cL (ws.getD 0 0) 16 with h|h
 ·exact h
 ·obtain⟨i,hi,hb⟩:=Nat.exists_ge_and_testBit_of_ge_two_pow (n:=4) (x:=ws.getD 0 0) h
  have azE:i<64:=by
   rcases cL i 64 with h2|h2
   ·exact h2
   ·have h3:=Nat.testBit_lt_two_pow (x:=ws.getD 0 0) (i:=i) (lG (hw 0) (nQ XT h2));rw[h3]at hb;cases hb
  have:=fN i (by unfold bit;rw[show i/64=0 by omega,show i%64=i by omega];exact hb);omega
def qF (a:List Bool):Nat:=(a.filter id).length
theorem Wi {a:List Bool} {ws:List Nat} (hn:a.length<=4) (hb:∀j,bit ws j=true↔a[j]? =some true):EN (ws.getD 0 0)=qF a:=by
 have key:∀i,i<4->(ws.getD 0 0)/2^i%2=if a[i]? =some true then 1 else 0:=λi hi=>by
  have h:=hb i;unfold bit at h;rw[show i/64=0 by omega,show i%64=i by omega,Nat.testBit_eq_decide_div_mod_eq,decide_eq_true_iff]at h
  split
  ·rename_i h2;exact h.2 h2
  ·rename_i h2
   have: ¬(ws.getD 0 0)/2^i%2=1:=λe=>h2 (h.1 e)
   omega
 have k0:=key 0 XT;have k1:=key 1 XT;have k2:=key 2 XT;have k3:=key 3 XT;simp only[Nat.pow_zero,Nat.div_one,show(2:Nat)^1=2 from rfl,show(2:Nat)^2=4 from rfl,show(2:Nat)^3=8 from rfl]at k0 k1 k2 k3;unfold EN qF;rw[k0,k1,k2,k3]
 match a,hn with
 |[],_=>rfl
 |[x],_=>cases x<;>rfl
 |[x,y],_=>cases x<;>cases y<;>rfl
 |[x,y,z],_=>cases x<;>cases y<;>cases z<;>rfl
 |[x,y,z,u],_=>cases x<;>cases y<;>cases z<;>cases u<;>rfl
 |_::_::_::_::_::_,h=>simp at h
theorem Tz {M:aE} {a:List Bool} {bs:Nat} (w0:World) (dz:qC M w0 a bs) (hn:a.length<=4):
  Spec Tryz.prog 75 #[.pointer (some ⟨bs,0,none⟩)] w0 (λv w=>v= .int .i64 (qF a:Int)/\w=w0):=by
 obtain⟨ws,Wt,qB⟩:=dz;obtain⟨bw,h⟩:=Wt.all;have hS:=h.s;have hW:=h.w;have hlen:=h.len;have aqb:=Ty hn (λj hj=>(al.1 ((qB j).1 hj)).1) (λk=>h.ok.get k);have ahK:=Wi hn qB;refine aS (args:=[_]) (fn:=Tryz.f75) Tryz.func75 G (n:=21) Tryz.ntmps75 (T.aO (Rg.aZ G G (T.aO (Rg.aZ G G (aI (T.aO ?_))))));refine ab G G (aL G ⟨_,G⟩ G (aK fA G G yX XT G G (aA du G G G a00 G (Rg.tV du G G (ab G G (ad (aT ?_)))))));refine cR (σ:=Nat) (λi=>[(3,.int .i64 ((if i=0 then 0 else EN (ws.getD 0 0):Nat):Int)),(9,.slice (some ⟨bw,0,none⟩) ws.length ws.length),(10,.int .i64 (ws.length:Int)),(11,.int .i64 (i:Int))]) (λi w=>i<=ws.length/\w=w0) (λi=>ws.length-i) 0 a01 ?_ ?_
 ·exact⟨bm _,G⟩
 ·rintro i w ⟨hi,rfl⟩;have Lr:EN (ws.getD 0 0)<=4:=by unfold EN;omega
  refine T.aO (ck G G G (ad (aI ?_)));refine bI G (λc3=>?_) (λc3=>?_)
  ·refine aR (aI (aT (T.aO ?_)));obtain rfl:i=0:=by omega
   refine Rg.zW du rC G G G q0 (aA jY rfl rfl rfl hW (v:= .int .u64 ((ws.getD 0 0:Nat):Int)) (by rw[show(((0:Nat):Int)).toNat=0 from rfl];exact iY q0) (Rg.aZ G G (aN (ab G G (aY (v':= .int .i64 0) (by simp) (ab G G ?_))))));refine aJ G G aqa (N4 (x:=ws.getD 0 0) _ aqb) (λr52 w52 hc=>?_);obtain⟨rfl,rfl⟩:=hc;refine br G G G q0 (Rg.aZ G G (aN (br G G G q0 (ab G G (ad ?_)))));refine⟨G,0+1,(.cons (congrArg (λz=>some (Value.int .i64 z)) (by rw[if_neg q0];omega)) (.cons rfl (.cons rfl (.cons rfl .nil)))),?_,?_⟩
   ·exact⟨by omega,rfl⟩
   ·omega
  ·refine cE (T.aO (ab G G (Rg.aZ G G (aM ?_))));refine aP G G ⟨congrArg (λz:Nat=>Value.int .i64 (z:Int)) ?_,G⟩
   split
   ·rename_i h0
    have:ws=[]:=dI.1 q0;rw[<-ahK,this];rfl
   ·exact ahK
end Go.K
namespace Go.K
open Go.Proofs
namespace TKPart13
theorem jH:TI Tryz.prog 28 (.agg #[(.int .i64 0),(.string ⟨#[]⟩),(.string ⟨#[]⟩),(.slice none 0 0),(.slice none 0 0)]) 5 88:=by unfold TI;kernel_rfl
theorem I31:TI Tryz.prog 31 (.pointer none) 1 8:=by unfold TI;kernel_rfl
theorem lR:TI Tryz.prog 45 (.agg #[(.int .i64 0),(.int .i64 0)]) 2 16:=by unfold TI;kernel_rfl
theorem I49:TI Tryz.prog 49 (.pointer none) 1 8:=by unfold TI;kernel_rfl
theorem I69:TI Tryz.prog 69 (.agg #[(.int .i64 0),(.int .i64 0),(.int .i64 0)]) 3 24:=by unfold TI;kernel_rfl
theorem yP:TI Tryz.prog 137 (.agg #[(.int .i64 0)]) 1 8:=by unfold TI;kernel_rfl
theorem xX:TI Tryz.prog 141 (.slice none 0 0) 1 24:=by unfold TI;kernel_rfl
theorem yZ:TI Tryz.prog 147 (.agg #[(.int .i64 0),(.pointer none),(.pointer none)]) 3 24:=by unfold TI;kernel_rfl
theorem B69:placesOf Tryz.prog 69=[(0,1),(1,1),(2,1)].map some:=by kernel_rfl
theorem E22:Enters Tryz.prog 22:=enters Tryz.func22 rfl XT
theorem E55:Enters Tryz.prog 55:=enters Tryz.func55 rfl XT
theorem E71:Enters Tryz.prog 71:=enters Tryz.func71 rfl XT
theorem E72:Enters Tryz.prog 72:=enters Tryz.func72 rfl XT
theorem E73:Enters Tryz.prog 73:=enters Tryz.func73 rfl XT
theorem E75:Enters Tryz.prog 75:=enters Tryz.func75 rfl XT
end TKPart13
open TKPart13
set_option maxRecDepth 10000
theorem yJ {p:Nat} {c:Int} {a b d:Value} (w0:World) (gp:w0.heap[p]? =some (.cells #[.int .i64 c,a,b,d] 143 (0,0))):
  Spec Tryz.prog 71 #[.pointer (some ⟨p,0,none⟩)] w0 (λv w=>v= .bool (decide (c=0))/\w=w0):=by
 refine aS (args:=[_]) (fn:=Tryz.f71) Tryz.func71 G (n:=9) Tryz.ntmps71 ?_;have S:Step allM w0 allM w0 ar:=(aV).dF a15 (λ_ _=>trivial);refine T.aO (Rg.aZ G G (T.aO (ab G G (aL G ⟨_,G⟩ G (aK (o':=0) fX G G yP XT G G (aK (o':=0) jZ G G I3 XT G G (aA aj G G G a00 G (gN G G G ?_))))))));refine Rg.aZ G G (aM ?_);exact a69
theorem abS:Part RT.prt RT.cell (λx=>x.2.1) 1:=(fH _ _).trans (kO _ _)
theorem ahL:Part RT.prt RT.cell (λx=>x.2.2) 2:=(fH _ _).trans (fH _ _)
abbrev RT.rk:RT (Int×Int×Int):=RT.pair (RT.int .i64) (RT.pair (RT.int .i64) (RT.int .i64))
theorem rk0:Part RT.rk (RT.int .i64) (·.1) 0:=kO _ _
theorem rk2:Part RT.rk (RT.int .i64) (λx=>x.2.2) 2:=(fH _ _).trans (fH _ _)
theorem aqc {M:aE} {w:World} {a b c:Int} (ha:Ba a) (hb:Ba b) (hc:Ba c):RT.rk.V M w (a,b,c) (.agg #[.int .i64 a,.int .i64 b,.int .i64 c]):=
 ⟨_,⟨_,_,rfl,⟨rfl,ha⟩,_,_,rfl,⟨rfl,hb⟩,⟨rfl,hc⟩⟩,rfl⟩
def HX (L:List En) (x:Fo):Int×Int×Int:=(rX (L.map (·.1.1)) x.1,x.2,rX (L.map (·.2)) x.1)
theorem N5 {M:aE} {n:Nat} {L:List En} {a:List Bool} {q:Qy} {v:Value} {p os:Nat} {sp pv:Value} {xa:Addr} {k upto:Int} (w0:World) (hM:Lt M w0) (h0: ¬M 1) (tab:∃e fr,w0.heap[1]? =some (.cells (E2.map fun(k:Nat)=>Value.int .u8 (k:Int)).toArray e fr)) (gp:w0.heap[p]? =some (.cells #[.int .i64 1,sp,pv,.int .i64 upto] 143 (0,0))) (km:((RT.prt).sl).V M w0 [(k,.pointer (some xa),.pointer (some ⟨os,0,none⟩))] pv) (dz:qC M w0 a os) (hs:cG RT.se M w0 (.pointer (some xa)) (uM (gQ L))) (fN:vW (-1) L=true) (hn:L.length<=100000) (hv:(RT.qy (n+1)).V M w0 q v) (lP:Ox q) (hm:jK q 1=0) (hid:∀d,Ba (rX (L.map (·.1.1)) d)) (hsq:∀d,Ba (rX (L.map (·.2)) d)):
  Spec Tryz.prog 28 #[.pointer (some ⟨p,0,none⟩),.int .i64 0,v] w0 (λv w=>∃r,v= .tuple #[r,.int .i64 0]/\((RT.rk).sl).V M w (((gD (λe=>fG e.1.2 q) 0 L).filter λx=> !ja a x).map (HX L)) r/\Step M w0 M w ar):=by
 have iz:=hM;obtain⟨NY,NZ,Dw⟩:=tab
 have hql:((gD (λe=>fG e.1.2 q) 0 L).filter λx=> !ja a x).length<=100000:=by
  have h1:=fI (λx=> !ja a x) (gD (λe=>fG e.1.2 q) 0 L);have h2:=lp (f:=λe=>fG e.1.2 q) L 0;omega
 refine aS (args:=[_,_,_]) (fn:=Tryz.f28) Tryz.func28 G (n:=85) Tryz.ntmps28 ?_;have S:Step M w0 M w0 ar:=aV;refine T.aO ?_;refine gR (A:=RT.qy (n+1)) (a:=q) G G hM hv (eD _) (λu5 Ov rS lg _=>?_);replace hv:=hv.le lg.le;replace km:=km.le lg.le;replace hs:=hs.le XT lg.le;replace gp:=lg.ay gp;replace dz:=dz.le lg.le;replace hM:=lg.lt hM;have:=S.size;replace S:=S.av lg;refine aB G G (Rg.aZ G G (aI (aT (T.aO (ab G G ?_)))));refine aJ G G E71 (yJ _ gp) (λr1 w1 KJ=>?_);obtain⟨rfl,e1⟩:=KJ;subst e1;refine aY (v':= .bool false) G (Rg.aZ G G (gy G (T.aO (ab G G (ck G G G (aY (v':= .bool false) G (ab G G (ah G G (ab G G ?_)))))))));refine ah G G (ab G G (ah G G (aL G ⟨_,G⟩ G (ah G G (aK (o':=2) fX G G xX XT G G (ah G G (aA ez G G G gp G (aY (v':=pv) G (ah G G (bB (A:=RT.prt) (hn:=by decide) ez G km G (ah G G ?_)))))))))));refine eh G G G (aY (v':= .bool false) G (aD G G G (Rg.aZ G G (gy G (aR (aI (T.aO ?_)))))));refine bZ (A:=RT.qy (n+1)) aU G (IQ jH _) (bS _) (eD _) G G rS b4 (λv50 aqd=>?_);refine aJ G G E55 (Du (n:=n) _ hM aqd lP) (λr51 w51 hc=>?_);obtain⟨rfl,SL⟩:=hc;rw[hm];replace km:=km.le SL.le;replace hs:=hs.le XT SL.le;replace rS:=rS.le (bS _) SL.le;replace gp:=SL.ay gp;replace dz:=dz.le SL.le;replace hM:=SL.lt hM;have:=S.size;replace S:=S.av SL;refine Rg.aZ G G (T.aO (ab G G (eR G G G (aY (v':= .bool false) (by simp) (ad (gy G (aR (T.aO ?_))))))));refine Rg.aZ G G (aI (aI ?_));apply T.FI [0,1,2,3,4,5,6,7,8,9,10,11,12,13,14,15,16,19,17,18] 18 [17] 2 ar mixed
 ·simp+decide only[Aa,sw,dC,jw,jq,jr,gL,dq,gE,lT,cond_true,cond_false,Nat.reduceBEq,Nat.reduceAdd,beq_self_eq_true];rfl
 ·rfl
 ·rfl
 ·rfl
 ·rfl
 ·rfl
 ·rfl
 intro Vo sA9;have wU:=sA9 M;replace km:=km.le wU.le;replace hs:=hs.le XT wU.le;replace rS:=rS.le (bS _) wU.le;replace gp:=wU.ay gp;replace dz:=dz.le wU.le;replace hM:=wU.lt hM;have:=S.size;replace S:=S.av wU;refine ab G G (Rg.cI (aL G ⟨_,G⟩ G (Rg.cI (aK (o':=2) fX G G xX XT G G (Rg.cI (aA ez G G G gp G (aY (v':=pv) G (Rg.cI (ab G G (Rg.cI ?_))))))))));refine cx (A:=RT.prt) (hn:=by decide) (M:=M) ez yZ G G G km b4 (by simp) (λu95 x_ fV aqe=>?_);obtain rfl:_=x_:=aF fV;refine Rg.cI ?_;refine au (A:=RT.prt) (B:=RT.cell) mh G G I31 XT abS G G XT aqe b4 (λu96 abd=>?_);refine Rg.cI ?_;refine bM jx G G G G G abd b4 (λv97 abe=>?_);obtain⟨_,⟨rfl,_⟩,rfl⟩:=abe;refine Rg.cI (ab G G (Rg.cI (aL G ⟨_,G⟩ G (Rg.cI (aK (o':=2) fX G G xX XT G G (Rg.cI (aA ez G G G gp G (aY (v':=pv) G (Rg.cI (ab G G (Rg.cI ?_)))))))))));refine cx (A:=RT.prt) (hn:=by decide) (M:=M) ez yZ G G G km b4 (by simp) (λazM x_ fV ahM=>?_);obtain rfl:_=x_:=aF fV;refine Rg.cI ?_;refine au (A:=RT.prt) (B:=RT.cell) mh G G I49 XT ahL G G XT ahM b4 (λazN ahN=>?_);refine Rg.cI ?_;refine bM ox G G G G G ahN b4 (λazO ahO=>?_);obtain⟨_,⟨rfl,_⟩,rfl⟩:=ahO;refine Rg.cI ?_;refine bZ (A:=RT.qy (n+1)) aU G (IQ jH _) (bS _) (eD _) G G rS b4 (λazP ahP=>?_);refine Rg.cI (ab G G (Rg.cI (fB (⟨ik ⟨eP,trivial⟩,?_⟩))));have kp:=iR ar Vo;refine aJ G G E22 (Kx (n:=n) (q:=q) (a:=a) _ hM (λhn=>h0 ((S.mem 1 (ae Dw)).1 hn)) ⟨NY,NZ,S.ay Dw⟩ hs fN hn dz ahP lP) (λr9 w9 hc9=>?_)
 obtain⟨Ig,s9⟩:=hc9;rw[if_pos hm]at Ig;replace km:=km.le s9.le;replace hs:=hs.le XT s9.le;replace rS:=rS.le (bS _) s9.le;replace gp:=s9.ay gp;replace dz:=dz.le s9.le;replace hM:=s9.lt hM;have:=S.size;replace S:=S.av s9;refine(fun(kp:fa _ _ _)=>ad ⟨G,G,λ_=>kp,?_⟩) a03;have hrl:=dW Ig;refine bB a7 G Ig G ?_;refine(fun(kp:fa _ _ _)=>ad ⟨G,G,λ_=>kp,?_⟩) a03;refine lH (aT ?_);refine cR (σ:=Nat×Value) (λq'=>[(0,.pointer (some ⟨p,0,none⟩)),(1,.int .i64 0),(9,q'.2),(49,r9),(50,.int .i64 (((gD (λe=>fG e.1.2 q) 0 L).filter λx=> !ja a x).length:Int)),(51,.int .i64 (q'.1:Int))]) (λq' w=>q'.1<=((gD (λe=>fG e.1.2 q) 0 L).filter λx=> !ja a x).length/\∃M2,Lt M2 w/\Step M w0 M2 w ar/\w.heap[p]? =some (.cells #[.int .i64 1,sp,pv,.int .i64 upto] 143 (0,0))/\((RT.prt).sl).V M2 w [(k,.pointer (some xa),.pointer (some ⟨os,0,none⟩))] pv/\cG RT.se M2 w (.pointer (some xa)) (uM (gQ L))/\((RT.fo).sl).V M2 w ((gD (λe=>fG e.1.2 q) 0 L).filter λx=> !ja a x) r9/\Own RT.rk 69 M2 w w0.heap.size q'.2 ((((gD (λe=>fG e.1.2 q) 0 L).filter λx=> !ja a x).take q'.1).map (HX L))) (λq'=>((gD (λe=>fG e.1.2 q) 0 L).filter λx=> !ja a x).length-q'.1) (0,.slice none 0 0) a14 ?_ ?_
 ·exact⟨bm _,_,hM,S,gp,km,hs,Ig,eE _ _ _ _ _⟩
 ·clear hM S gp km hs Ig dz;rintro⟨i,vo⟩ w ⟨hi,M2,hM,S,gp,km,hs,Ig,uF⟩;dsimp only at hi uF ⊢;refine T.aO (ck G G G (ad (aI ?_)));refine bI G (λMH=>?_) (λMH=>?_)
  ·refine aR (aI (aT (T.aO ?_)));obtain⟨x,T4⟩:∃x,((gD (λe=>fG e.1.2 q) 0 L).filter λx=> !ja a x)[i]? =some x:=⟨_,an q0⟩;refine cx (A:=RT.fo) (hn:=by decide) a7 lR G G G Ig b4 q0 (λaaN x_ fV A4=>?_);rw[aq]at fV;obtain rfl:=aF (T4.symm.trans fV);refine bZ (A:=RT.fo) dg G lR XT G G G A4 b4 (λahB kN=>?_);refine jR (A:=RT.fo) (M:=M2) lR G G G G G kN b4 hM (λafF XO mW lS _=>?_);replace km:=km.le lS.le;replace hs:=hs.le XT lS.le;replace Ig:=Ig.le lS.le;replace uF:=uF.bD lS;replace gp:=lS.ay gp;replace hM:=lS.lt hM;have:=S.size;replace S:=S.av lS
   skip
   refine ad ?_;apply T.FI [0,1,2,3,4,5,6,7,8,9,10,12,13,14,15,16,17,18,19,20,21,22,23,11,24,25,26,27,28] 23 [0,11,12,13,14,15,16,17,18,19,20,21,22] 4 ar mixed
   ·simp+decide only[Aa,sw,dC,jw,jq,jr,gL,dq,gE,lT,cond_true,cond_false,Nat.reduceBEq,Nat.reduceAdd,beq_self_eq_true];rfl
   ·rfl
   ·rfl
   ·rfl
   ·rfl
   ·rfl
   ·rfl
   intro JE aqf;have o0:=aqf M2;replace km:=km.le o0.le;replace hs:=hs.le XT o0.le;replace Ig:=Ig.le o0.le;replace mW:=mW.le XT o0.le;replace uF:=uF.bD o0;replace gp:=o0.ay gp;replace hM:=o0.lt hM;have:=S.size;replace S:=S.av o0;refine ab G G (Rg.cI (ab G G (Rg.cI (aL G ⟨_,G⟩ G (Rg.cI (aK (o':=2) fX G G xX XT G G (Rg.cI (aA ez G G G gp G (aY (v':=pv) G (Rg.cI (ab G G ?_)))))))))));refine Rg.cI ?_;refine cx (A:=RT.prt) (hn:=by decide) (M:=M2) ez yZ G G G km b4 (by simp) (λazR x_ fV ahQ=>?_);obtain rfl:_=x_:=aF fV;refine Rg.cI ?_;refine au (A:=RT.prt) (B:=RT.cell) mh G G I31 XT abS G G XT ahQ b4 (λazS ahR=>?_);refine Rg.cI ?_;refine bM jx G G G G G ahR b4 (λazT ahS=>?_);obtain⟨_,⟨rfl,_⟩,rfl⟩:=ahS;refine Rg.cI ?_;refine au (A:=RT.fo) (B:=RT.int .i64) dg G G I3 XT WD G G XT mW b4 (λazU ahT=>?_);refine Rg.cI ?_;refine bV aj G G ahT b4 (λahU=>?_);refine aY (v':= .int .i64 x.1) G (Rg.cI ?_);refine au (A:=RT.fo) (B:=RT.int .i64) dg G G I3 XT fo1 G G XT mW b4 (λatM TA=>?_);refine Rg.cI ?_;refine bV aj G G TA b4 (λN6=>?_);refine aY (v':= .int .i64 x.2) G (Rg.cI (ab G G (Rg.cI (aL G ⟨_,G⟩ G (Rg.cI (aK (o':=2) fX G G xX XT G G (Rg.cI (aA ez G G G gp G (aY (v':=pv) G (Rg.cI (ab G G ?_)))))))))));refine Rg.cI ?_;refine cx (A:=RT.prt) (hn:=by decide) (M:=M2) ez yZ G G G km b4 (by simp) (λatN x_ fV abT=>?_)
   obtain rfl:_=x_:=aF fV;refine Rg.cI ?_;refine au (A:=RT.prt) (B:=RT.cell) mh G G I31 XT abS G G XT abT b4 (λatO TB=>?_);refine Rg.cI ?_;refine bM jx G G G G G TB b4 (λatP abU=>?_);obtain⟨_,⟨rfl,_⟩,rfl⟩:=abU;refine Rg.cI ?_;refine au (A:=RT.fo) (B:=RT.int .i64) dg G G I3 XT WD G G XT mW b4 (λatQ TC=>?_);refine Rg.cI ?_;refine bV aj G G TC b4 (λacQ=>?_);refine aY (v':= .int .i64 x.1) G (Rg.cI (fB ?_));obtain⟨bb1,oo1,cs1,ee1,fr1,eq1,abV,_⟩:=TB.float;obtain⟨bb2,oo2,cs2,ee2,fr2,eq2,abW,_⟩:=TC.float;obtain⟨bb3,oo3,cs3,ee3,fr3,eq3,abX,_⟩:=TA.float;refine ⟨ik ⟨eP,⟨fC dg G I3 XT,⟨eO (congrArg some eq3) abX (λh=>h),⟨eP,⟨nf G,⟨fC fX G xX XT,⟨eO G a00 a30,⟨eP,⟨cf.idx,⟨fC mh rfl I31 XT,⟨eO (congrArg some eq1) abV (λh=>h),⟨fC dg rfl I3 XT,⟨eO (congrArg some eq2) abW (λh=>h),trivial⟩⟩⟩⟩⟩⟩⟩⟩⟩⟩⟩⟩⟩,?_⟩;have kp:=iR ar JE;refine aJ G G E72 (RB (i:=x.1) _ hs) (λr23 w23 hc=>?_);obtain⟨rfl,e23⟩:=hc;subst e23;refine aY (v':= .int .i64 (rX (L.map (·.1.1)) x.1)) G ?_;refine(fun(kp:fa _ _ _)=>ad ⟨G,G,λ_=>kp,?_⟩) a03;refine aJ G G E73 (xW (i:=x.1) _ hs) (λr24 w24 hc=>?_);obtain⟨rfl,e24⟩:=hc;subst e24;refine aY (v':= .int .i64 (rX (L.map (·.2)) x.1)) G ?_;refine(fun(kp:fa _ _ _)=>ad ⟨G,G,λ_=>kp,?_⟩) a03
   refine dp (places:=[(0,1),(1,1),(2,1)]) Tryz.underlying69 I69 B69 rfl ⟨_,_,rfl,rfl,_,_,rfl,rfl,_,_,rfl,rfl,rfl⟩ (out:=[_,_,_]) ⟨0,[_],rfl,rfl,by simp[Value.cells],1,[_],rfl,rfl,by simp[Value.cells],2,[_],rfl,rfl,by simp[Value.cells],rfl⟩ ?_;refine(fun(kp:fa _ _ _)=>ad ⟨G,G,λ_=>kp,?_⟩) a03;refine fm (A:=RT.rk) (hn:=by decide) (M:=M2) Tryz.underlying65 I69 XT G G hM (aqc (hid _) N6 (hsq _)) (.inl G) (λaqg aqh EO rJ=>?_);replace km:=km.le rJ.le;replace hs:=hs.le XT rJ.le;replace Ig:=Ig.le rJ.le;replace mW:=mW.le XT rJ.le;replace uF:=uF.bD rJ;replace gp:=rJ.ay gp;replace hM:=rJ.lt hM;have:=S.size;replace S:=S.av rJ;refine(fun(kp:fa _ _ _)=>ad ⟨G,G,λ_=>kp,?_⟩) a03;refine dA (M:=M2) (base:=w0.heap.size) Tryz.underlying65 I69 rfl rfl rfl rfl uF EO b4 (by rw[bT,bF,eF];omega) (by rw[bT,bF,eF];omega) (S.size) (λabY aqi aqj Wj rK=>?_);replace km:=km.le rK.le;replace hs:=hs.le XT rK.le;replace Ig:=Ig.le rK.le;replace mW:=mW.le XT rK.le;replace EO:=EO.le rK.le;replace gp:=rK.bL gp (λh=>uF.fk gp XT h);replace hM:=rK.lt hM;have:=S.size;replace S:=S.eg rK uF (aX _);replace uF:=Wj;refine ad ⟨G,G,λh=>absurd G h,aB G G (ad ⟨G,G,λh=>absurd G h,lH (aN (br G G G q0 (ab G G (ad ?_))))⟩)⟩;refine⟨G,(i+1,abY),a14,?_,?_⟩
   ·exact⟨by omega,_,hM,S,gp,km,hs,Ig,by rw[bQ,T4,cH,ed];exact uF⟩
   ·dsimp only;omega
  ·refine cE (T.aO (ab G G (aB G G (Rg.aZ G G (aM ?_)))));rw[bg q0]at uF;exact eS rfl rfl rfl ⟨_,rfl,uF.close iz S (by rw[bT];omega),S.back⟩
theorem N7 {M:aE} {a:List Bool} {p os:Nat} {sp pv:Value} {xa:Addr} {k upto:Int} (w0:World) (hM:Lt M w0) (gp:w0.heap[p]? =some (.cells #[.int .i64 1,sp,pv,.int .i64 upto] 143 (0,0))) (km:((RT.prt).sl).V M w0 [(k,.pointer (some xa),.pointer (some ⟨os,0,none⟩))] pv) (dz:qC M w0 a os) (hn:a.length<=4):
  Spec Tryz.prog 30 #[.pointer (some ⟨p,0,none⟩)] w0 (λv w=>v= .int .i64 (qF a:Int)/\Step M w0 M w ar):=by
 have iz:=hM;have ku:qF a<=4:=ep (fI _ _) hn;refine aS (args:=[_]) (fn:=Tryz.f30) Tryz.func30 G (n:=25) Tryz.ntmps30 ?_;have S:Step M w0 M w0 ar:=aV;refine T.aO (Rg.aZ G G (T.aO (Rg.aZ G G (aI (T.aO (ab G G ?_))))));refine aL G ⟨_,G⟩ G (aK (o':=2) fX G G xX XT G G (aA ez G G G gp G (aY (v':=pv) G (bB (A:=RT.prt) (hn:=by decide) ez G km G (aY (v':= .int .i64 1) G (ab G G (ad (aT ?_))))))));refine cR (σ:=Nat) (λi=>[(0,.pointer (some ⟨p,0,none⟩)),(3,.int .i64 ((if i=0 then 0 else qF a:Nat):Int)),(9,pv),(10,.int .i64 1),(11,.int .i64 (i:Int))]) (λi w=>i<=1/\Lt M w/\Step M w0 M w ar/\w.heap[p]? =some (.cells #[.int .i64 1,sp,pv,.int .i64 upto] 143 (0,0))/\((RT.prt).sl).V M w [(k,Value.pointer (some xa),Value.pointer (some ⟨os,0,none⟩))] pv/\qC M w a os) (λi=>1-i) 0 a34 ?_ ?_
 ·exact⟨bm _,hM,S,gp,km,dz⟩
 ·clear hM S gp km dz;rintro i w ⟨hi,hM,S,gp,km,dz⟩;refine T.aO (ck G G G (ad (aI ?_)));refine bI G (λc3=>?_) (λc3=>?_)
  ·refine aR (aI (aT (T.aO ?_)));obtain rfl:i=0:=by omega
   refine cx (A:=RT.prt) (hn:=by decide) (M:=M) ez yZ G G G km b4 (by simp) (λu40 x_ fV Sf=>?_);obtain rfl:(k,Value.pointer (some xa),Value.pointer (some ⟨os,0,none⟩))=x_:=aF fV;refine bZ (A:=RT.prt) mh G yZ XT G G G Sf b4 (λv41 Sg=>?_);refine jR (A:=RT.prt) (M:=M) yZ G G G G G Sg b4 hM (λu42 w42 aqk s42 _=>?_);replace km:=km.le s42.le;replace gp:=s42.ay gp;replace dz:=dz.le s42.le;replace hM:=s42.lt hM;have:=S.size;replace S:=S.av s42
   skip
   refine ad (T.aO (ab G G ?_));refine aJ G G E71 (yJ _ gp) (λr1 w1 KJ=>?_);obtain⟨rfl,e1⟩:=KJ;subst e1;refine aY (v':= .bool false) G (gM G G (aY (v':= .bool true) G (ad (lh G (aN (ab G G (aY (v':= .int .i64 0) (by simp) ?_)))))));refine au (A:=RT.prt) (B:=RT.cell) mh G G I49 XT ahL G G XT aqk b4 (λu61 aql=>?_);refine bM ox G G G G G aql b4 (λv62 abN=>?_);obtain⟨_,⟨rfl,_⟩,rfl⟩:=abN;refine aJ G G E75 (Tz _ dz hn) (λr63 w63 hc=>?_);obtain⟨rfl,e63⟩:=hc;subst e63;refine br G G G q0 (Rg.aZ G G (aN (br G G G q0 (ab G G (ad ?_)))));refine⟨G,0+1,(.cons G (.cons (congrArg (λz=>some (Value.int .i64 z)) (by rw[if_neg q0];omega)) (.cons rfl (.cons rfl (.cons rfl .nil))))),?_,?_⟩
   ·exact⟨by omega,hM,S,gp,km,dz⟩
   ·omega
  ·refine cE (T.aO (ab G G (Rg.aZ G G (aM ?_))));refine aP G G ⟨congrArg (λz:Nat=>Value.int .i64 (z:Int)) ?_,S⟩;rw[if_neg q0]
end Go.K
namespace Go.K
open Go.Proofs
namespace TKTru13
theorem I4:TI Tryz.prog 4 (.bool false) 1 1:=by unfold TI;kernel_rfl
end TKTru13
open TKTru13
set_option maxRecDepth 10000
end Go.K
namespace Go.K
open Go.Proofs
namespace TKRef13
theorem lR:TI Tryz.prog 45 (.agg #[(.int .i64 0),(.int .i64 0)]) 2 16:=by unfold TI;kernel_rfl
theorem R3:placesOf Tryz.prog 45=[(0,1),(1,1)].map some:=by kernel_rfl
end TKRef13
open TKRef13
set_option maxRecDepth 10000
end Go.K
namespace Go.K
open Go.Proofs
namespace TKLaw13
theorem lR:TI Tryz.prog 45 (.agg #[(.int .i64 0),(.int .i64 0)]) 2 16:=by unfold TI;kernel_rfl
theorem R3:placesOf Tryz.prog 45=[(0,1),(1,1)].map some:=by kernel_rfl
theorem E53:Enters Tryz.prog 53:=enters Tryz.func53 rfl XT
theorem E54:Enters Tryz.prog 54:=enters Tryz.func54 rfl XT
end TKLaw13
open TKLaw13
set_option maxRecDepth 10000
end Go.K
namespace Go.K
open Go.Proofs
namespace TKRefuses13
theorem Ie:TI Tryz.prog 26 (.slice none 0 0) 1 24:=by unfold TI;kernel_rfl
theorem jH:TI Tryz.prog 28 (.agg #[(.int .i64 0),(.string ⟨#[]⟩),(.string ⟨#[]⟩),(.slice none 0 0),(.slice none 0 0)]) 5 88:=by unfold TI;kernel_rfl
theorem E10:Enters Tryz.prog 10:=enters Tryz.func10 rfl XT
theorem E11:Enters Tryz.prog 11:=enters Tryz.func11 rfl XT
theorem E13:Enters Tryz.prog 13:=enters Tryz.func13 rfl XT
end TKRefuses13
open TKRefuses13
set_option maxRecDepth 10000
end Go.K
namespace Go.K
open Go.Proofs
namespace TKR12C
theorem Ie:TI Tryz.prog 26 (.slice none 0 0) 1 24:=by unfold TI;kernel_rfl
theorem jH:TI Tryz.prog 28 (.agg #[(.int .i64 0),(.string ⟨#[]⟩),(.string ⟨#[]⟩),(.slice none 0 0),(.slice none 0 0)]) 5 88:=by unfold TI;kernel_rfl
theorem V9:placesOf Tryz.prog 28=[(0,1),(1,2),(3,1),(4,1)].map some:=by kernel_rfl
end TKR12C
open TKR12C
set_option maxRecDepth 10000
end Go.K
namespace Go.K
open Go.Proofs
namespace TKAlike13
theorem jH:TI Tryz.prog 28 (.agg #[(.int .i64 0),(.string ⟨#[]⟩),(.string ⟨#[]⟩),(.slice none 0 0),(.slice none 0 0)]) 5 88:=by unfold TI;kernel_rfl
theorem lR:TI Tryz.prog 45 (.agg #[(.int .i64 0),(.int .i64 0)]) 2 16:=by unfold TI;kernel_rfl
theorem E10:Enters Tryz.prog 10:=enters Tryz.func10 rfl XT
theorem E11:Enters Tryz.prog 11:=enters Tryz.func11 rfl XT
theorem E13:Enters Tryz.prog 13:=enters Tryz.func13 rfl XT
end TKAlike13
open TKAlike13
set_option maxRecDepth 10000
theorem LN:∀{L:List En} {last:Int},vW last L=true->∀e∈L,last<e.2/\nt e.1=0
 |[],_,_,e,h=>by cases h
 |x::L,last,h,e,he=>by
  simp only[vW,cp,decide_eq_true_eq]at h
  have hx:last<x.2/\nt x.1=0:=by
   refine ⟨(xT h.1).2,?_⟩;have:=h.1;unfold nV at this
   split at this
   ·rename_i h1;exact absurd this h1
   ·rename_i h1;simpa using h1
  rcases cU.1 he with rfl|he
  ·exact hx
  ·have:=LN h.2 e he;exact⟨by omega,this.2⟩
theorem Wk {k:Int} {t:Fd} {ws:List (List UInt8)} {n:Nat} (h:kM k t ws n=0):SzO t ws:=by
 have WT:∀x:List UInt8,fg x=true->x.length<=3900000:=λx hx=>by
  unfold fg at hx;have:=(of_decide_eq_true hx).2;omega
 unfold kM at h;by_cases h1:k<1\/5<k
 ·rw[if_pos h1]at h;omega
 rw[if_neg h1]at h;by_cases h2:2<=k/\k<=4
 ·rw[if_pos h2]at h;by_cases h3: ¬t=([],[])\/¬ws=[]\/n=0
  ·rw[if_pos h3]at h;omega
  have ht:t=([],[]):=iD λe=>h3 (.inl e)
  have hw:ws=[]:=iD λe=>h3 (.inr (.inl e))
  subst ht;subst hw;exact⟨bm _,λx hx=>by cases hx⟩
 rw[if_neg h2]at h;by_cases h3:0<n\/(k=1/\¬ws=[])\/(k=5/\¬t.2=[])
 ·rw[if_pos h3]at h;omega
 rw[if_neg h3]at h;by_cases h4:fe t.1=false
 ·rw[if_pos h4]at h;omega
 rw[if_neg h4]at h;by_cases h5:k=1
 ·rw[if_pos h5]at h;have hw:ws=[]:=iD λe=>h3 (.inr (.inl ⟨h5,e⟩))
  subst hw;by_cases h6:fg t.2=true
  ·exact⟨WT _ h6,λx hx=>by cases hx⟩
  ·rw[if_neg h6]at h;omega
 ·rw[if_neg h5]at h;have ht:t.2=[]:=iD λe=>h3 (.inr (.inr ⟨by omega,e⟩))
  by_cases h6:ws=[]
  ·rw[if_pos h6]at h;omega
  rw[if_neg h6]at h;by_cases h7:ws.all fg=false
  ·rw[if_pos h7]at h;omega
  exact⟨by rw[ht];exact bm _,λx hx=>WT x (eA.1 (by cases hb:ws.all fg;exact absurd hb h7;rfl) x hx)⟩
mutual
theorem LO:∀(q:Qy) (deep:Nat),jK q deep=0->Ox q
 |.mk k t ws ks,deep,hm=>by
  obtain⟨h1,h2,h3⟩:=EG.1 hm;refine szQ.2 ⟨Wk h2,λx hx=>Tf.1 (HY ks (deep+1) h3) x hx⟩
theorem HY:∀(ks:List Qy) (deep:Nat),(∀x∈ks,jK x deep=0)->NV ks
 |[],_,_=>Tf.2 λx hx=>by cases hx
 |q::ks,deep,hm=>Tf.2 λx hx=>by
  rcases cU.1 hx with h|h
  ·rw[h];exact LO q deep (hm q (bK ..))
  ·exact Tf.1 (HY ks deep λy hy=>hm y (cz _ hy)) x h
end
theorem LP {f:En->Option Int}:∀(A B:List En) (i:Nat),gD f i (A++B)=gD f i A++gD f (i+A.length) B
 |[],B,i=>rfl
 |a::A,B,i=>by
  have ih:=LP (f:=f) A B (i+1)
  have e1:∀(x:En) (l:List En) (j:Nat),gD f j (x::l)=Bi f j x++gD f (j+1) l:=λx l j=>by
   have h:=uC (f:=f) (e:=x) [] j;unfold Bi;rw[gD]
   cases f x<;>rfl
  rw[ov,e1,e1,ih,mZ,cy,show i+1+A.length=i+(A.length+1) by omega]
theorem N8 {f:En->Option Int} (L:List En) (i:Nat):gD f 0 L=gD f 0 (L.take i)++gD f (0+(L.take i).length) (L.drop i):=by
 rw[<-LP,List.take_append_drop]
end Go.K
namespace Go.K
open Go.Proofs
namespace TKJoin13
theorem lR:TI Tryz.prog 45 (.agg #[(.int .i64 0),(.int .i64 0)]) 2 16:=by unfold TI;kernel_rfl
theorem R3:placesOf Tryz.prog 45=[(0,1),(1,1)].map some:=by kernel_rfl
end TKJoin13
open TKJoin13
set_option maxRecDepth 10000
end Go.K
namespace Go.K
open Go.Proofs
namespace TKParts13
theorem jH:TI Tryz.prog 28 (.agg #[(.int .i64 0),(.string ⟨#[]⟩),(.string ⟨#[]⟩),(.slice none 0 0),(.slice none 0 0)]) 5 88:=by unfold TI;kernel_rfl
theorem V9:placesOf Tryz.prog 28=[(0,1),(1,2),(3,1),(4,1)].map some:=by kernel_rfl
theorem E10:Enters Tryz.prog 10:=enters Tryz.func10 rfl XT
theorem E11:Enters Tryz.prog 11:=enters Tryz.func11 rfl XT
theorem E13:Enters Tryz.prog 13:=enters Tryz.func13 rfl XT
end TKParts13
open TKParts13
set_option maxRecDepth 10000
theorem TD (fs:List Fd) (a b:Qy):fG fs (.mk 3 ([],[]) [] [a,b])=nM 1 (fG fs a) (fG fs b):=by
 have h:=LJ (k:=3) XT [fG fs a] (fG fs b);rw[HV]at h;rw[sa];exact h
theorem Oa (fs:List Fd) (a:Qy):fG fs (.mk 4 ([],[]) [] [a])=Sy (fG fs a):=by
 rw[sa];show(if([fG fs a]).any Option.isSome=true then none else some 0)=_
 cases fG fs a<;>rfl
end Go.K
